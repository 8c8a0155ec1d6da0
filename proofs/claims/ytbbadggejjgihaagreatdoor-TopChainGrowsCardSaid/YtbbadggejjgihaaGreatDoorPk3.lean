/- The law TopVersions,TopChainGrows: pack 3 of its texts. -/
import Derived.Test.YtbbadggejjgihaaGreatDoorProg
import Derived.KernelRfl
import Derived.Shelf.Strings.OnBuilder
import Derived.Shelf.Small.Wraps
import Derived.Shelf.Strconv.Itoa3
import Derived.Below
import Derived.Lib.ItoaLen
import Derived.Lib.Join
import Derived.Lib.Small
import Derived.Shelf.Strings.BuilderK
import Derived.Test.YtbbadggejjgihaaGreatDoorChecked
import Derived.WalkKit
import Derived.BigCall
import Derived.StillTailTactics
import Derived.Laws.Externs
import Derived.Lib.Overlaps
import Derived.Test.YtbbadggejjgihaaGreatDoorPk1
import Derived.Test.YtbbadggejjgihaaGreatDoorPk2
set_option linter.unusedSimpArgs false
set_option linter.unusedVariables false
set_option maxRecDepth 100000
namespace Go.Proofs.YtbbadggejjgihaaGreatDoor
open Go Go.Ab
def tyN:TI:=⟨.other,0,0,default,none⟩
abbrev ad7:TI:=⟨.other,1,8,.v .nilFunc,none⟩
def NX:List TI:=[
 tyN,
 ad7,
 ⟨.int .i64,1,8,.i 0,some (0,[.int .i64])⟩,
 ⟨.int .i64,1,8,.i 0,some (0,[.int .i64])⟩,
 ⟨.bool,1,1,.b false,some (0,[.bool])⟩,
 ⟨.int .u8,1,1,.v (.int .u8 0),some (0,[.int .u8])⟩,
 ⟨.int .u8,1,1,.v (.int .u8 0),some (0,[.int .u8])⟩,
 ⟨.strct [(0,2),(1,3),(2,4),(3,6)],4,24,.agg [.i 0,.i 0,.b false,.v (.int .u8 0)],none⟩,
 ⟨.strct [(0,2),(1,3),(2,4),(3,6)],4,24,.agg [.i 0,.i 0,.b false,.v (.int .u8 0)],none⟩,
 ⟨.str,1,16,.s [],some (0,[.str])⟩,
 tyN,
 ⟨.str,1,16,.s [],some (0,[.str])⟩,
 tyN,
 tyN,
 tyN,
 tyN,
 tyN,
 tyN,
 tyN,
 tyN,
 tyN,
 tyN,
 ⟨.slice 9,1,24,.sl [] .full,none⟩,
 ⟨.ptr 88,1,8,.v (.pointer none),none⟩,
 ⟨.ptr 143,1,8,.v (.pointer none),none⟩,
 tyN,
 tyN,
 tyN,
 tyN,
 ⟨.slice 39,1,24,.sl [] .full,none⟩,
 tyN,
 tyN,
 ⟨.strct [(0,3),(1,3),(2,9)],3,32,.agg [.i 0,.i 0,.s []],some (1,[.int .i64,.int .i64,.str])⟩,
 ⟨.strct [(0,3),(1,9),(2,9),(3,9),(4,9),(5,32),(8,3),(9,9),(10,9),(11,4)],12,152,.agg [.i 0,.s [],.s [],.s [],.s [],.i 0,.i 0,.s [],.i 0,.s [],.s [],.b false],some (2,[.int .i64,.str,.str,.str,.str,.int .i64,.int .i64,.str,.int .i64,.str,.str,.bool])⟩,
 ⟨.strct [(0,3),(1,9),(2,9),(3,9),(4,9),(5,32),(8,3),(9,9),(10,9),(11,4)],12,152,.agg [.i 0,.s [],.s [],.s [],.s [],.i 0,.i 0,.s [],.i 0,.s [],.s [],.b false],some (2,[.int .i64,.str,.str,.str,.str,.int .i64,.int .i64,.str,.int .i64,.str,.str,.bool])⟩,
 ⟨.cplx .f64,1,16,.v (.complex .f64 0 0),some (0,[.cplx .f64])⟩,
 ⟨.cplx .f64,1,16,.v (.complex .f64 0 0),some (0,[.cplx .f64])⟩,
 ⟨.slice 91,1,24,.sl [] .full,none⟩,
 tyN,
 ⟨.strct [(0,34),(12,3),(13,36),(14,4),(15,37)],16,208,.agg [.i 0,.s [],.s [],.s [],.s [],.i 0,.i 0,.s [],.i 0,.s [],.s [],.b false,.i 0,.v (.complex .f64 0 0),.b false,.sl [] .full],none⟩,
 ⟨.slice 133,1,24,.sl [] .full,none⟩,
 ⟨.slice 99,1,24,.sl [] .full,none⟩,
 ⟨.slice 102,1,24,.sl [] .full,none⟩,
 ⟨.slice 105,1,24,.sl [] .full,none⟩,
 ⟨.slice 230,1,24,.sl [] .full,none⟩,
 ⟨.slice 230,1,24,.sl [] .full,none⟩,
 ⟨.slice 167,1,24,.sl [] .full,none⟩,
 ⟨.slice 49,1,24,.sl [] .full,none⟩,
 tyN,
 ⟨.strct [(0,9),(1,4),(2,3),(3,45),(4,46),(5,47),(6,37)],7,128,.agg [.s [],.b false,.i 0,.sl [] .full,.sl [] .full,.sl [] .full,.sl [] .full],none⟩,
 ⟨.strct [(0,3),(1,40),(2,41),(3,42),(4,43),(5,49),(12,3)],13,240,.agg [.i 0,.sl [] .full,.sl [] .full,.sl [] .full,.sl [] .full,.s [],.b false,.i 0,.sl [] .full,.sl [] .full,.sl [] .full,.sl [] .full,.i 0],none⟩,
 ⟨.strct [(0,3),(1,40),(2,41),(3,42),(4,43),(5,49),(12,3)],13,240,.agg [.i 0,.sl [] .full,.sl [] .full,.sl [] .full,.sl [] .full,.s [],.b false,.i 0,.sl [] .full,.sl [] .full,.sl [] .full,.sl [] .full,.i 0],none⟩,
 ad7,
 ad7,
 ad7,
 ⟨.int .i64,1,8,.i 0,some (0,[.int .i64])⟩,
 tyN,
 ad7,
 tyN,
 ad7,
 ⟨.int .u64,1,8,.v (.int .u64 0),some (0,[.int .u64])⟩,
 ad7,
 ⟨.slice 3,1,24,.sl [] .full,none⟩,
 tyN,
 tyN,
 ⟨.strct [(0,55),(1,36),(2,4),(3,32),(6,4),(7,3)],8,80,.agg [.i 0,.v (.complex .f64 0 0),.b false,.i 0,.i 0,.s [],.b false,.i 0],some (2,[.int .i64,.cplx .f64,.bool,.int .i64,.int .i64,.str,.bool,.int .i64])⟩,
 ⟨.strct [(0,55),(1,36),(2,4),(3,32),(6,4),(7,3)],8,80,.agg [.i 0,.v (.complex .f64 0 0),.b false,.i 0,.i 0,.s [],.b false,.i 0],some (2,[.int .i64,.cplx .f64,.bool,.int .i64,.int .i64,.str,.bool,.int .i64])⟩,
 tyN,
 ad7,
 tyN,
 tyN,
 tyN,
 tyN,
 tyN,
 tyN,
 ⟨.slice 77,1,24,.sl [] .full,none⟩,
 tyN,
 ⟨.slice 5,1,24,.sl [] .full,none⟩,
 tyN,
 tyN,
 ad7,
 ⟨.slice 60,1,24,.sl [] .full,none⟩,
 tyN,
 tyN,
 tyN,
 tyN,
 ⟨.ptr 157,1,8,.v (.pointer none),none⟩,
 tyN,
 ⟨.strct [(0,86),(1,51),(14,29),(15,60)],16,280,.agg [.v (.pointer none),.i 0,.sl [] .full,.sl [] .full,.sl [] .full,.sl [] .full,.s [],.b false,.i 0,.sl [] .full,.sl [] .full,.sl [] .full,.sl [] .full,.i 0,.sl [] .full,.v (.int .u64 0)],none⟩,
 tyN,
 tyN,
 ⟨.strct [(0,3),(1,3),(2,9)],3,32,.agg [.i 0,.i 0,.s []],some (1,[.int .i64,.int .i64,.str])⟩,
 tyN,
 tyN,
 tyN,
 ad7,
 tyN,
 ad7,
 ⟨.strct [(0,3),(1,3),(2,9),(3,9),(4,9),(5,9),(6,4)],7,88,.agg [.i 0,.i 0,.s [],.s [],.s [],.s [],.b false],some (1,[.int .i64,.int .i64,.str,.str,.str,.str,.bool])⟩,
 ⟨.strct [(0,3),(1,3),(2,9),(3,9),(4,9),(5,9),(6,4)],7,88,.agg [.i 0,.i 0,.s [],.s [],.s [],.s [],.b false],some (1,[.int .i64,.int .i64,.str,.str,.str,.str,.bool])⟩,
 ad7,
 ⟨.strct [(0,3),(1,9),(2,9)],3,40,.agg [.i 0,.s [],.s []],some (1,[.int .i64,.str,.str])⟩,
 ⟨.strct [(0,3),(1,9),(2,9)],3,40,.agg [.i 0,.s [],.s []],some (1,[.int .i64,.str,.str])⟩,
 ad7,
 ⟨.strct [(0,9),(1,9)],2,32,.agg [.s [],.s []],some (1,[.str,.str])⟩,
 ⟨.strct [(0,9),(1,9)],2,32,.agg [.s [],.s []],some (1,[.str,.str])⟩,
 ad7,
 ad7,
 tyN,
 ad7,
 tyN,
 ad7,
 ad7,
 ad7,
 tyN,
 ad7,
 ad7,
 ⟨.strct [(0,36),(1,37)],2,40,.agg [.v (.complex .f64 0 0),.sl [] .full],none⟩,
 ⟨.strct [(0,36),(1,37)],2,40,.agg [.v (.complex .f64 0 0),.sl [] .full],none⟩,
 ad7,
 tyN,
 ad7,
 ⟨.slice 199,1,24,.sl [] .full,none⟩,
 ad7,
 tyN,
 ad7,
 ad7,
 ⟨.ptr 51,1,8,.v (.pointer none),none⟩,
 tyN,
 tyN,
 ⟨.slice 160,1,24,.sl [] .full,none⟩,
 ⟨.slice 163,1,24,.sl [] .full,none⟩,
 tyN,
 ⟨.strct [(0,9),(1,9),(2,9),(3,130),(4,131)],5,96,.agg [.s [],.s [],.s [],.sl [] .full,.sl [] .full],none⟩,
 tyN,
 tyN,
 tyN,
 tyN,
 tyN,
 tyN,
 tyN,
 tyN,
 tyN,
 ⟨.strct [(0,3),(1,77),(2,3),(3,3),(4,4)],5,56,.agg [.i 0,.sl [] .full,.i 0,.i 0,.b false],none⟩,
 tyN,
 tyN,
 tyN,
 ⟨.int .u32,1,4,.v (.int .u32 0),some (0,[.int .u32])⟩,
 tyN,
 tyN,
 tyN,
 tyN,
 tyN,
 tyN,
 tyN,
 tyN,
 tyN,
 ⟨.strct [(0,24),(1,75),(2,4)],3,40,.agg [.v (.pointer none),.sl [] .full,.b false],none⟩,
 tyN,
 tyN,
 ⟨.strct [(0,9),(1,32)],4,48,.agg [.s [],.i 0,.i 0,.s []],some (2,[.str,.int .i64,.int .i64,.str])⟩,
 tyN,
 tyN,
 ⟨.strct [(0,3),(1,9),(2,9)],3,40,.agg [.i 0,.s [],.s []],some (1,[.int .i64,.str,.str])⟩,
 tyN,
 ⟨.slice 172,1,24,.sl [] .full,none⟩,
 tyN,
 ⟨.strct [(0,9),(1,4),(2,45),(3,165),(4,37)],5,96,.agg [.s [],.b false,.sl [] .full,.sl [] .full,.sl [] .full],none⟩,
 tyN,
 tyN,
 ⟨.strct [(0,3),(1,9),(2,4)],3,32,.agg [.i 0,.s [],.b false],some (1,[.int .i64,.str,.bool])⟩,
 tyN,
 ⟨.strct [(0,3),(1,32),(4,170)],7,72,.agg [.i 0,.i 0,.i 0,.s [],.i 0,.s [],.b false],some (2,[.int .i64,.int .i64,.int .i64,.str,.int .i64,.str,.bool])⟩,
 ⟨.slice 181,1,24,.sl [] .full,none⟩,
 tyN,
 tyN,
 ⟨.ptr 178,1,8,.v (.pointer none),none⟩,
 tyN,
 ⟨.strct [(0,173),(1,3),(2,3),(3,55),(4,3)],5,56,.agg [.sl [] .full,.i 0,.i 0,.i 0,.i 0],none⟩,
 tyN,
 tyN,
 ⟨.strct [(0,3),(1,3),(2,3),(3,9)],4,40,.agg [.i 0,.i 0,.i 0,.s []],some (1,[.int .i64,.int .i64,.int .i64,.str])⟩,
 tyN,
 tyN,
 tyN,
 tyN,
 tyN,
 tyN,
 ⟨.iface,1,16,.v .nilIface,none⟩,
 tyN,
 tyN,
 tyN,
 tyN,
 tyN,
 tyN,
 tyN,
 ⟨.slice 32,1,24,.sl [] .full,none⟩,
 tyN,
 tyN,
 ⟨.strct [(0,3),(1,9),(2,196)],3,48,.agg [.i 0,.s [],.sl [] .full],none⟩,
 tyN,
 tyN,
 tyN,
 tyN,
 tyN,
 tyN,
 tyN,
 tyN,
 ⟨.ptr 133,1,8,.v (.pointer none),none⟩,
 tyN,
 tyN,
 tyN,
 ad7,
 tyN,
 tyN,
 ad7,
 tyN,
 ad7,
 tyN,
 tyN,
 tyN,
 ⟨.int .u64,1,8,.v (.int .u64 0),some (0,[.int .u64])⟩,
 tyN,
 tyN,
 tyN,
 ⟨.ptr 272,1,8,.v (.pointer none),none⟩,
 tyN,
 tyN,
 tyN,
 ad7,
 ⟨.slice 234,1,24,.sl [] .full,none⟩,
 tyN,
 tyN,
 ⟨.strct [(0,170),(3,3),(4,32)],7,72,.agg [.i 0,.s [],.b false,.i 0,.i 0,.i 0,.s []],some (2,[.int .i64,.str,.bool,.int .i64,.int .i64,.int .i64,.str])⟩,
 ⟨.slice 233,1,24,.sl [] .full,none⟩,
 tyN,
 tyN,
 tyN,
 tyN,
 tyN,
 tyN,
 tyN,
 tyN,
 tyN,
 ⟨.ptr 247,1,8,.v (.pointer none),none⟩,
 ⟨.map 9 355,1,8,.v (.map none),none⟩,
 tyN,
 ⟨.strct [(0,245),(1,3)],2,16,.agg [.v (.map none),.i 0],none⟩,
 tyN,
 tyN,
 tyN,
 tyN,
 tyN,
 tyN,
 tyN,
 tyN,
 tyN,
 ad7,
 tyN,
 tyN,
 tyN,
 tyN,
 tyN,
 tyN,
 tyN,
 ⟨.ptr 267,1,8,.v (.pointer none),none⟩,
 tyN,
 ⟨.strct [(0,265),(1,77)],2,32,.agg [.v (.pointer none),.sl [] .full],none⟩,
 tyN,
 tyN,
 tyN,
 tyN,
 ⟨.strct [(0,77),(1,3),(2,4)],3,40,.agg [.sl [] .full,.i 0,.b false],none⟩,
 tyN,
 tyN,
 ad7,
 tyN,
 tyN,
 tyN,
 tyN,
 tyN,
 tyN,
 tyN,
 tyN,
 tyN,
 tyN,
 tyN,
 tyN,
 tyN,
 tyN,
 tyN,
 tyN,
 tyN,
 tyN,
 tyN,
 ⟨.slice 118,1,24,.sl [] .full,none⟩,
 tyN,
 tyN,
 tyN,
 ad7,
 tyN,
 tyN,
 ad7,
 tyN,
 tyN,
 tyN,
 tyN,
 tyN,
 tyN,
 tyN,
 tyN,
 tyN,
 tyN,
 tyN,
 tyN,
 tyN,
 ad7,
 tyN,
 ad7,
 tyN,
 tyN,
 tyN,
 tyN,
 tyN,
 tyN,
 tyN,
 tyN,
 tyN,
 tyN,
 tyN,
 tyN,
 tyN,
 tyN,
 ⟨.slice 36,1,24,.sl [] .full,none⟩,
 tyN,
 tyN,
 tyN,
 tyN,
 tyN,
 tyN,
 tyN,
 tyN,
 tyN,
 tyN,
 tyN,
 tyN,
 tyN,
 tyN,
 tyN,
 tyN,
 tyN,
 tyN,
 tyN,
 tyN,
 tyN,
 ⟨.strct [],0,0,default,none⟩,
 tyN,
 tyN,
 ⟨.slice 4,1,24,.sl [] .full,none⟩,
 tyN,
 tyN,
 tyN,
 tyN,
 tyN,
 tyN,
 tyN,
 tyN,
 tyN,
 tyN,
 tyN,
 ⟨.strct [(0,196),(1,32),(4,55)],5,64,.agg [.sl [] .full,.i 0,.i 0,.s [],.i 0],none⟩,
 ad7,
 tyN,
 tyN,
 tyN,
 tyN,
 tyN,
 tyN,
 tyN,
 tyN,
 tyN,
 tyN,
 tyN,
 tyN,
 tyN,
 tyN,
 tyN,
 ⟨.slice 370,1,24,.sl [] .full,none⟩,
 tyN,
 tyN,
 tyN,
 tyN,
 tyN,
 tyN,
 tyN,
 tyN,
 tyN,
 ad7,
 tyN,
 tyN,
 tyN,
 tyN,
 tyN,
 tyN,
 tyN,
 tyN,
 tyN,
 tyN,
 tyN,
 ad7,
 tyN,
 tyN,
 tyN,
 tyN,
 tyN,
 tyN,
 tyN,
 tyN,
 tyN,
 tyN,
 tyN,
 tyN,
 tyN,
 tyN]
def U(t:TypeId):TI:=NX.getD t ⟨.other,0,0,default,none⟩
@[go_sem] theorem U3k:(U 3).k= .int .i64∧(U 3).sz=1∧(U 3).bytes=8∧(U 3).zero= .i 0:=⟨rfl,rfl,rfl,rfl⟩
@[go_sem] theorem U4k:(U 4).k= .bool∧(U 4).sz=1∧(U 4).bytes=1∧(U 4).zero= .b false:=⟨rfl,rfl,rfl,rfl⟩
@[go_sem] theorem U5k:(U 5).k= .int .u8∧(U 5).sz=1∧(U 5).bytes=1∧(U 5).zero= .v (.int .u8 0):=⟨rfl,rfl,rfl,rfl⟩
@[go_sem] theorem U9k:(U 9).k= .str∧(U 9).sz=1∧(U 9).bytes=16∧(U 9).zero= .s []:=⟨rfl,rfl,rfl,rfl⟩
@[go_sem] theorem abU:(U 22).k= .slice 9∧(U 22).sz=1∧(U 22).bytes=24∧(U 22).zero= .sl [] .full:=⟨rfl,rfl,rfl,rfl⟩
@[go_sem] theorem abY:(U 23).k= .ptr 88∧(U 23).sz=1∧(U 23).bytes=8∧(U 23).zero= .v (.pointer none):=⟨rfl,rfl,rfl,rfl⟩
@[go_sem] theorem ab2:(U 24).k= .ptr 143∧(U 24).sz=1∧(U 24).bytes=8∧(U 24).zero= .v (.pointer none):=⟨rfl,rfl,rfl,rfl⟩
@[go_sem] theorem ab6:(U 29).k= .slice 39∧(U 29).sz=1∧(U 29).bytes=24∧(U 29).zero= .sl [] .full:=⟨rfl,rfl,rfl,rfl⟩
@[go_sem] theorem ace:(U 32).k= .strct [(0,3),(1,3),(2,9)]∧(U 32).sz=3∧(U 32).bytes=32∧(U 32).zero= .agg [.i 0,.i 0,.s []]∧(U 32).eq=some (1,[.int .i64,.int .i64,.str]):=⟨rfl,rfl,rfl,rfl,rfl⟩
@[go_sem] theorem acj:(U 34).k= .strct [(0,3),(1,9),(2,9),(3,9),(4,9),(5,32),(8,3),(9,9),(10,9),(11,4)]∧(U 34).sz=12∧(U 34).bytes=152∧(U 34).zero= .agg [.i 0,.s [],.s [],.s [],.s [],.i 0,.i 0,.s [],.i 0,.s [],.s [],.b false]∧(U 34).eq=some (2,[.int .i64,.str,.str,.str,.str,.int .i64,.int .i64,.str,.int .i64,.str,.str,.bool]):=⟨rfl,rfl,rfl,rfl,rfl⟩
@[go_sem] theorem aco:(U 36).k= .cplx .f64∧(U 36).sz=1∧(U 36).bytes=16∧(U 36).zero= .v (.complex .f64 0 0):=⟨rfl,rfl,rfl,rfl⟩
@[go_sem] theorem acs:(U 37).k= .slice 91∧(U 37).sz=1∧(U 37).bytes=24∧(U 37).zero= .sl [] .full:=⟨rfl,rfl,rfl,rfl⟩
@[go_sem] theorem acy:(U 39).k= .strct [(0,34),(12,3),(13,36),(14,4),(15,37)]∧(U 39).sz=16∧(U 39).bytes=208∧(U 39).zero= .agg [.i 0,.s [],.s [],.s [],.s [],.i 0,.i 0,.s [],.i 0,.s [],.s [],.b false,.i 0,.v (.complex .f64 0 0),.b false,.sl [] .full]:=⟨rfl,rfl,rfl,rfl⟩
@[go_sem] theorem acC:(U 40).k= .slice 133∧(U 40).sz=1∧(U 40).bytes=24∧(U 40).zero= .sl [] .full:=⟨rfl,rfl,rfl,rfl⟩
@[go_sem] theorem acG:(U 41).k= .slice 99∧(U 41).sz=1∧(U 41).bytes=24∧(U 41).zero= .sl [] .full:=⟨rfl,rfl,rfl,rfl⟩
@[go_sem] theorem acK:(U 42).k= .slice 102∧(U 42).sz=1∧(U 42).bytes=24∧(U 42).zero= .sl [] .full:=⟨rfl,rfl,rfl,rfl⟩
@[go_sem] theorem acO:(U 43).k= .slice 105∧(U 43).sz=1∧(U 43).bytes=24∧(U 43).zero= .sl [] .full:=⟨rfl,rfl,rfl,rfl⟩
@[go_sem] theorem acS:(U 45).k= .slice 230∧(U 45).sz=1∧(U 45).bytes=24∧(U 45).zero= .sl [] .full:=⟨rfl,rfl,rfl,rfl⟩
@[go_sem] theorem acW:(U 46).k= .slice 167∧(U 46).sz=1∧(U 46).bytes=24∧(U 46).zero= .sl [] .full:=⟨rfl,rfl,rfl,rfl⟩
@[go_sem] theorem ac0:(U 47).k= .slice 49∧(U 47).sz=1∧(U 47).bytes=24∧(U 47).zero= .sl [] .full:=⟨rfl,rfl,rfl,rfl⟩
@[go_sem] theorem ac4:(U 49).k= .strct [(0,9),(1,4),(2,3),(3,45),(4,46),(5,47),(6,37)]∧(U 49).sz=7∧(U 49).bytes=128∧(U 49).zero= .agg [.s [],.b false,.i 0,.sl [] .full,.sl [] .full,.sl [] .full,.sl [] .full]:=⟨rfl,rfl,rfl,rfl⟩
@[go_sem] theorem ac8:(U 51).k= .strct [(0,3),(1,40),(2,41),(3,42),(4,43),(5,49),(12,3)]∧(U 51).sz=13∧(U 51).bytes=240∧(U 51).zero= .agg [.i 0,.sl [] .full,.sl [] .full,.sl [] .full,.sl [] .full,.s [],.b false,.i 0,.sl [] .full,.sl [] .full,.sl [] .full,.sl [] .full,.i 0]:=⟨rfl,rfl,rfl,rfl⟩
@[go_sem] theorem ade:(U 55).k= .int .i64∧(U 55).sz=1∧(U 55).bytes=8∧(U 55).zero= .i 0:=⟨rfl,rfl,rfl,rfl⟩
@[go_sem] theorem adi:(U 60).k= .int .u64∧(U 60).sz=1∧(U 60).bytes=8∧(U 60).zero= .v (.int .u64 0):=⟨rfl,rfl,rfl,rfl⟩
@[go_sem] theorem adm:(U 62).k= .slice 3∧(U 62).sz=1∧(U 62).bytes=24∧(U 62).zero= .sl [] .full:=⟨rfl,rfl,rfl,rfl⟩
@[go_sem] theorem adq:(U 66).k= .strct [(0,55),(1,36),(2,4),(3,32),(6,4),(7,3)]∧(U 66).sz=8∧(U 66).bytes=80∧(U 66).zero= .agg [.i 0,.v (.complex .f64 0 0),.b false,.i 0,.i 0,.s [],.b false,.i 0]:=⟨rfl,rfl,rfl,rfl⟩
@[go_sem] theorem adu:(U 75).k= .slice 77∧(U 75).sz=1∧(U 75).bytes=24∧(U 75).zero= .sl [] .full:=⟨rfl,rfl,rfl,rfl⟩
@[go_sem] theorem ady:(U 77).k= .slice 5∧(U 77).sz=1∧(U 77).bytes=24∧(U 77).zero= .sl [] .full:=⟨rfl,rfl,rfl,rfl⟩
@[go_sem] theorem adC:(U 81).k= .slice 60∧(U 81).sz=1∧(U 81).bytes=24∧(U 81).zero= .sl [] .full:=⟨rfl,rfl,rfl,rfl⟩
@[go_sem] theorem adG:(U 86).k= .ptr 157∧(U 86).sz=1∧(U 86).bytes=8∧(U 86).zero= .v (.pointer none):=⟨rfl,rfl,rfl,rfl⟩
@[go_sem] theorem adK:(U 88).k= .strct [(0,86),(1,51),(14,29),(15,60)]∧(U 88).sz=16∧(U 88).bytes=280∧(U 88).zero= .agg [.v (.pointer none),.i 0,.sl [] .full,.sl [] .full,.sl [] .full,.sl [] .full,.s [],.b false,.i 0,.sl [] .full,.sl [] .full,.sl [] .full,.sl [] .full,.i 0,.sl [] .full,.v (.int .u64 0)]:=⟨rfl,rfl,rfl,rfl⟩
@[go_sem] theorem adO:(U 91).k= .strct [(0,3),(1,3),(2,9)]∧(U 91).sz=3∧(U 91).bytes=32∧(U 91).zero= .agg [.i 0,.i 0,.s []]:=⟨rfl,rfl,rfl,rfl⟩
@[go_sem] theorem adS:(U 99).k= .strct [(0,3),(1,3),(2,9),(3,9),(4,9),(5,9),(6,4)]∧(U 99).sz=7∧(U 99).bytes=88∧(U 99).zero= .agg [.i 0,.i 0,.s [],.s [],.s [],.s [],.b false]:=⟨rfl,rfl,rfl,rfl⟩
@[go_sem] theorem Y6:(U 102).k= .strct [(0,3),(1,9),(2,9)]∧(U 102).sz=3∧(U 102).bytes=40∧(U 102).zero= .agg [.i 0,.s [],.s []]:=⟨rfl,rfl,rfl,rfl⟩
@[go_sem] theorem Zb:(U 105).k= .strct [(0,9),(1,9)]∧(U 105).sz=2∧(U 105).bytes=32∧(U 105).zero= .agg [.s [],.s []]∧(U 105).eq=some (1,[.str,.str]):=⟨rfl,rfl,rfl,rfl,rfl⟩
@[go_sem] theorem Zf:(U 118).k= .strct [(0,36),(1,37)]∧(U 118).sz=2∧(U 118).bytes=40∧(U 118).zero= .agg [.v (.complex .f64 0 0),.sl [] .full]:=⟨rfl,rfl,rfl,rfl⟩
@[go_sem] theorem Zj:(U 122).k= .slice 199∧(U 122).sz=1∧(U 122).bytes=24∧(U 122).zero= .sl [] .full:=⟨rfl,rfl,rfl,rfl⟩
@[go_sem] theorem Zn:(U 130).k= .slice 160∧(U 130).sz=1∧(U 130).bytes=24∧(U 130).zero= .sl [] .full:=⟨rfl,rfl,rfl,rfl⟩
@[go_sem] theorem Zr:(U 131).k= .slice 163∧(U 131).sz=1∧(U 131).bytes=24∧(U 131).zero= .sl [] .full:=⟨rfl,rfl,rfl,rfl⟩
@[go_sem] theorem Zv:(U 133).k= .strct [(0,9),(1,9),(2,9),(3,130),(4,131)]∧(U 133).sz=5∧(U 133).bytes=96∧(U 133).zero= .agg [.s [],.s [],.s [],.sl [] .full,.sl [] .full]:=⟨rfl,rfl,rfl,rfl⟩
@[go_sem] theorem Zz:(U 143).k= .strct [(0,3),(1,77),(2,3),(3,3),(4,4)]∧(U 143).sz=5∧(U 143).bytes=56∧(U 143).zero= .agg [.i 0,.sl [] .full,.i 0,.i 0,.b false]:=⟨rfl,rfl,rfl,rfl⟩
@[go_sem] theorem ZD:(U 147).k= .int .u32∧(U 147).sz=1∧(U 147).bytes=4∧(U 147).zero= .v (.int .u32 0):=⟨rfl,rfl,rfl,rfl⟩
@[go_sem] theorem ZH:(U 157).k= .strct [(0,24),(1,75),(2,4)]∧(U 157).sz=3∧(U 157).bytes=40∧(U 157).zero= .agg [.v (.pointer none),.sl [] .full,.b false]:=⟨rfl,rfl,rfl,rfl⟩
@[go_sem] theorem ZL:(U 160).k= .strct [(0,9),(1,32)]∧(U 160).sz=4∧(U 160).bytes=48∧(U 160).zero= .agg [.s [],.i 0,.i 0,.s []]:=⟨rfl,rfl,rfl,rfl⟩
@[go_sem] theorem ZP:(U 163).k= .strct [(0,3),(1,9),(2,9)]∧(U 163).sz=3∧(U 163).bytes=40∧(U 163).zero= .agg [.i 0,.s [],.s []]:=⟨rfl,rfl,rfl,rfl⟩
@[go_sem] theorem ZT:(U 165).k= .slice 172∧(U 165).sz=1∧(U 165).bytes=24∧(U 165).zero= .sl [] .full:=⟨rfl,rfl,rfl,rfl⟩
@[go_sem] theorem ZX:(U 167).k= .strct [(0,9),(1,4),(2,45),(3,165),(4,37)]∧(U 167).sz=5∧(U 167).bytes=96∧(U 167).zero= .agg [.s [],.b false,.sl [] .full,.sl [] .full,.sl [] .full]:=⟨rfl,rfl,rfl,rfl⟩
@[go_sem] theorem Z4:(U 170).k= .strct [(0,3),(1,9),(2,4)]∧(U 170).sz=3∧(U 170).bytes=32∧(U 170).zero= .agg [.i 0,.s [],.b false]∧(U 170).eq=some (1,[.int .i64,.str,.bool]):=⟨rfl,rfl,rfl,rfl,rfl⟩
@[go_sem] theorem Z8:(U 172).k= .strct [(0,3),(1,32),(4,170)]∧(U 172).sz=7∧(U 172).bytes=72∧(U 172).zero= .agg [.i 0,.i 0,.i 0,.s [],.i 0,.s [],.b false]:=⟨rfl,rfl,rfl,rfl⟩
@[go_sem] theorem aac:(U 173).k= .slice 181∧(U 173).sz=1∧(U 173).bytes=24∧(U 173).zero= .sl [] .full:=⟨rfl,rfl,rfl,rfl⟩
@[go_sem] theorem aag:(U 178).k= .strct [(0,173),(1,3),(2,3),(3,55),(4,3)]∧(U 178).sz=5∧(U 178).bytes=56∧(U 178).zero= .agg [.sl [] .full,.i 0,.i 0,.i 0,.i 0]:=⟨rfl,rfl,rfl,rfl⟩
@[go_sem] theorem aak:(U 181).k= .strct [(0,3),(1,3),(2,3),(3,9)]∧(U 181).sz=4∧(U 181).bytes=40∧(U 181).zero= .agg [.i 0,.i 0,.i 0,.s []]:=⟨rfl,rfl,rfl,rfl⟩
@[go_sem] theorem aao:(U 196).k= .slice 32∧(U 196).sz=1∧(U 196).bytes=24∧(U 196).zero= .sl [] .full:=⟨rfl,rfl,rfl,rfl⟩
@[go_sem] theorem aas:(U 199).k= .strct [(0,3),(1,9),(2,196)]∧(U 199).sz=3∧(U 199).bytes=48∧(U 199).zero= .agg [.i 0,.s [],.sl [] .full]:=⟨rfl,rfl,rfl,rfl⟩
@[go_sem] theorem aaw:(U 221).k= .int .u64∧(U 221).sz=1∧(U 221).bytes=8∧(U 221).zero= .v (.int .u64 0):=⟨rfl,rfl,rfl,rfl⟩
@[go_sem] theorem aaA:(U 230).k= .slice 234∧(U 230).sz=1∧(U 230).bytes=24∧(U 230).zero= .sl [] .full:=⟨rfl,rfl,rfl,rfl⟩
@[go_sem] theorem aaE:(U 233).k= .strct [(0,170),(3,3),(4,32)]∧(U 233).sz=7∧(U 233).bytes=72∧(U 233).zero= .agg [.i 0,.s [],.b false,.i 0,.i 0,.i 0,.s []]:=⟨rfl,rfl,rfl,rfl⟩
@[go_sem] theorem aaI:(U 234).k= .slice 233∧(U 234).sz=1∧(U 234).bytes=24∧(U 234).zero= .sl [] .full:=⟨rfl,rfl,rfl,rfl⟩
@[go_sem] theorem aaM:(U 245).k= .map 9 355∧(U 245).sz=1∧(U 245).bytes=8∧(U 245).zero= .v (.map none):=⟨rfl,rfl,rfl,rfl⟩
@[go_sem] theorem aaQ:(U 247).k= .strct [(0,245),(1,3)]∧(U 247).sz=2∧(U 247).bytes=16∧(U 247).zero= .agg [.v (.map none),.i 0]:=⟨rfl,rfl,rfl,rfl⟩
@[go_sem] theorem aaU:(U 272).k= .strct [(0,77),(1,3),(2,4)]∧(U 272).sz=3∧(U 272).bytes=40∧(U 272).zero= .agg [.sl [] .full,.i 0,.b false]:=⟨rfl,rfl,rfl,rfl⟩
@[go_sem] theorem aaY:(U 295).k= .slice 118∧(U 295).sz=1∧(U 295).bytes=24∧(U 295).zero= .sl [] .full:=⟨rfl,rfl,rfl,rfl⟩
@[go_sem] theorem aa2:(U 333).k= .slice 36∧(U 333).sz=1∧(U 333).bytes=24∧(U 333).zero= .sl [] .full:=⟨rfl,rfl,rfl,rfl⟩
@[go_sem] theorem aa5:(U 355).k= .strct []∧(U 355).sz=0:=⟨rfl,rfl⟩
@[go_sem] theorem aa8:(U 358).k= .slice 4∧(U 358).sz=1∧(U 358).bytes=24∧(U 358).zero= .sl [] .full:=⟨rfl,rfl,rfl,rfl⟩
@[go_sem] theorem abc:(U 370).k= .strct [(0,196),(1,32),(4,55)]∧(U 370).sz=5∧(U 370).bytes=64∧(U 370).zero= .agg [.sl [] .full,.i 0,.i 0,.s [],.i 0]:=⟨rfl,rfl,rfl,rfl⟩
@[go_sem] theorem abg:(U 387).k= .slice 370∧(U 387).sz=1∧(U 387).bytes=24∧(U 387).zero= .sl [] .full:=⟨rfl,rfl,rfl,rfl⟩
theorem hU:∀t,aP Tryz.prog U t:=IZ 424 aec fun t ht=>by
 unfold U;rw[List.getD_eq_getElem?_getD,List.getElem?_eq_none (show NX.length≤t from ht)]
 rfl
theorem hm:Tryz.prog.follows .mixedOrders=true:=aec
end Go.Proofs.YtbbadggejjgihaaGreatDoor
namespace Go.Proofs
open Go.Shelf
open Go.RowKit in
open Go.RowKit in
def Tryz.DY:Go.Shelf.Ren:=⟨fun|121=>128|214=>174|n=>n,fun|4=>4|9=>9|n=>n,fun|n=>n⟩
theorem Tryz.Pj:Go.Proofs.Lays.n121 Tryz.prog Tryz.DY:={
 mixed:=aec
 f121:=Tryz.func128.trans (congrArg some aec)
 f214:=Tryz.func174.trans (congrArg some aec)
 t4:=Tryz.underlying4
 a4:=Tryz.isAgg4
 z4:=Tryz.sizeOf4
 v4:=Tryz.zeroValue4
 t9:=Tryz.underlying9
 a9:=Tryz.isAgg9
 z9:=Tryz.sizeOf9
 v9:=Tryz.zeroValue9}
open Go.RowKit in
theorem Tryz.strconv_FormatBool(b:Bool)(w:World):
  Calls Tryz.prog 128 #[.bool b] w fun e w' =>e= .returned (.string ⟨(Lib.formatBool b).toArray⟩)∧w' =w:=Any.strconv_FormatBool Tryz.Pj b w
def Tryz.Cr:Go.Shelf.Ren:=⟨fun|171=>63|243=>127|246=>173|283=>222|284=>223|285=>224|286=>225|129=>258|317=>257|318=>259|319=>260|320=>261|337=>285|338=>286|n=>n,fun|3=>3|9=>9|2=>2|4=>4|171=>309|0=>0|53=>60|37=>77|5=>5|173=>312|212=>346|51=>147|20=>20|213=>347|46=>221|232=>398|233=>399|n=>n,fun|17=>3|18=>4|19=>5|n=>n⟩
theorem Tryz.MB:Go.Proofs.LaysM.n171 Tryz.prog Tryz.Cr:={
 mixed:=aec
 f129:=Tryz.func258.trans (congrArg some aec)
 f171:=Tryz.func63.trans (congrArg some aec)
 f243:=Tryz.func127.trans (congrArg some aec)
 f246:=Tryz.func173.trans (congrArg some aec)
 f283:=Tryz.func222.trans (congrArg some aec)
 f284:=Tryz.func223.trans (congrArg some aec)
 f285:=Tryz.func224.trans (congrArg some aec)
 f286:=Tryz.func225.trans (congrArg some aec)
 f317:=Tryz.func257.trans (congrArg some aec)
 f318:=Tryz.func259.trans (congrArg some aec)
 f319:=Tryz.func260.trans (congrArg some aec)
 f320:=Tryz.func261.trans (congrArg some aec)
 f337:=Tryz.func285.trans (congrArg some aec)
 f338:=Tryz.func286.trans (congrArg some aec)
 t0:=Tryz.underlying0
 a0:=Tryz.isAgg0
 z0:=Tryz.sizeOf0
 v0:=Tryz.zeroValue0
 t2:=Tryz.underlying2
 a2:=Tryz.isAgg2
 z2:=Tryz.sizeOf2
 v2:=Tryz.zeroValue2
 t3:=Tryz.underlying3
 a3:=Tryz.isAgg3
 z3:=Tryz.sizeOf3
 v3:=Tryz.zeroValue3
 t4:=Tryz.underlying4
 a4:=Tryz.isAgg4
 z4:=Tryz.sizeOf4
 v4:=Tryz.zeroValue4
 t5:=Tryz.underlying5
 a5:=Tryz.isAgg5
 z5:=Tryz.sizeOf5
 v5:=Tryz.zeroValue5
 t9:=Tryz.underlying9
 a9:=Tryz.isAgg9
 z9:=Tryz.sizeOf9
 v9:=Tryz.zeroValue9
 t20:=Tryz.underlying20
 a20:=Tryz.isAgg20
 z20:=Tryz.sizeOf20
 v20:=Tryz.zeroValue20
 t37:=Tryz.underlying77
 a37:=Tryz.isAgg77
 z37:=Tryz.sizeOf77
 v37:=Tryz.zeroValue77
 t46:=Tryz.underlying221
 a46:=Tryz.isAgg221
 z46:=Tryz.sizeOf221
 v46:=Tryz.zeroValue221
 t51:=Tryz.underlying147
 a51:=Tryz.isAgg147
 z51:=Tryz.sizeOf147
 v51:=Tryz.zeroValue147
 t53:=Tryz.underlying60
 a53:=Tryz.isAgg60
 z53:=Tryz.sizeOf60
 v53:=Tryz.zeroValue60
 t171:=Tryz.underlying309
 a171:=Tryz.isAgg309
 z171:=Tryz.sizeOf309
 v171:=Tryz.zeroValue309
 t173:=Tryz.underlying312
 a173:=Tryz.isAgg312
 z173:=Tryz.sizeOf312
 v173:=Tryz.zeroValue312
 t212:=Tryz.underlying346
 a212:=Tryz.isAgg346
 z212:=Tryz.sizeOf346
 v212:=Tryz.zeroValue346
 t213:=Tryz.underlying347
 a213:=Tryz.isAgg347
 z213:=Tryz.sizeOf347
 t232:=Tryz.underlying398
 a232:=Tryz.isAgg398
 z232:=Tryz.sizeOf398
 v232:=Tryz.zeroValue398
 t233:=Tryz.underlying399
 a233:=Tryz.isAgg399
 z233:=Tryz.sizeOf399
 v233:=Tryz.zeroValue399
 g17:=aec
 g18:=aec
 g19:=aec
 i0:=aec
 i2:=aec
 i3:=aec
 i4:=aec
 i5:=aec
 i9:=aec
 i20:=aec
 i37:=aec
 i46:=aec
 i51:=aec
 i53:=aec
 i171:=aec
 i173:=aec
 i212:=aec
 i232:=aec
 i233:=aec
 m17:=aec
 m18:=aec
 m19:=aec}
open Go.RowKit Go.Sort Go.Lib in
theorem Tryz.strconv_Itoa (n : Int) (h0 : -9223372036854775808 ≤ n) (h1 : n ≤ 9223372036854775807) (w : World) (htab : Lib.TabIs Tryz.prog w "internal/strconv.uint64pow10" .u64 Lib.pow10Tab) :
  Calls Tryz.prog 63 #[.int .i64 n] w fun e w' =>e= .returned (.string ⟨(Lib.itoa n).toArray⟩)∧∃k os,w' =grow (w.drewN k) os:=Any.strconv_Itoa Tryz.MB n h0 h1 w htab
end Go.Proofs
namespace Go.Ab
open Go
section
variable {P : Program} {U : TypeId → TI} {n : Nat} {ρ : Env} {h h' h2 : Heap} {e tb : TypeId} {y v : AV} {xs zs : List AV} {l : List UInt8} {Q : AV → Heap → Prop}
def hm1(id:Nat)(k:Blk):Heap:=upd (fun _=>none) id (some k)
@[go_sem] theorem gp(id:Nat)(k:Blk):hm1 id k id=some k:=ah ..
theorem Sub.hm1{id:Nat}{k:Blk}(h1:h id=some k):Sub (hm1 id k) h:=fun j b hj=>by
 unfold Ab.hm1 at hj
 grind [ah,ag]
theorem fQ.new{id:Nat}{k:Option Blk}(hid:h id=none):fQ h (upd h id k):=((Sub.refl h).new hid k).gh
theorem oE.accs{h0:Heap}(hs:Sub h0 h)(hk:∀y' h'',Acc U e h0 h'' y' (xs++zs)→fQ h h''→Q y' h''):oE U h xs zs e Q:=
 .own fun id hid=>hk _ _ ⟨hs.new hid _,.inr ⟨id,hs.none hid,rfl,by rw[ah,ad3]⟩⟩ (.new hid)
end
section
variable {P : Program} {U : TypeId → TI} {n : Nat} {ρ : Env} {h h' : Heap} {tb : TypeId} {y : AV} {l : List UInt8}
theorem Bytes.from(hb:Bytes tb h y l){lo:Operand}{m:Int}{x:IntKind}{K:AV→Prop}(j:Nat)(hm:ev ρ lo=some (.v (.int x m)))(hj:m=j)(hl:j≤l.length)(hz:(U tb).sz=1)(hk:∀z,Bytes tb h z (l.drop j)→K z):
  gI U ρ y (some lo) none none K (.slice tb):=by
 subst hj;rcases hb with⟨q,rfl⟩|⟨id,off,cs,rfl,h1,h2,h3⟩
 ·rw[ES,hm]
  refine⟨ad9,by grind [jN],?_⟩
  refine⟨ad9,aea,?_⟩;rw[←List.map_drop];exact hk _ (.sl _ _)
 ·rw[rT]
  refine⟨ad9,fun _=>hz,?_⟩
  simp only[mM,fB,hm,dJ,nO];refine⟨ad9,ad9,ad9,?_⟩;simp only[Int.toNat_natCast,hz,Nat.mul_one];have e:(l.drop j).length=l.length - j:=aeg;have:=hk (.oa id (off+j) (l.drop j).length) (by grind [oa,List.map_drop,List.drop_drop,List.drop_take])
  rwa [e]at this
theorem Bytes.cut(hb:Bytes tb h y l){lo hi:Operand}{m m2:Int}{x x2:IntKind}{K:AV→Prop}(j k:Nat)(hm:ev ρ lo=some (.v (.int x m)))(hj:m=j)(hm2:ev ρ hi=some (.v (.int x2 m2)))(hk2:m2=k)(hjk:j≤k)(hl:k≤l.length)(hz:(U tb).sz=1)
  (hk:∀z,Bytes tb h z ((l.drop j).take (k - j))→K z):gI U ρ y (some lo) (some hi) none K (.slice tb):=by
 subst hj;subst hk2
 rcases hb with⟨q,rfl⟩|⟨id,off,cs,rfl,h1,h2,h3⟩
 ·rw[Kz,hm]
  refine⟨ad9,by grind [jN],?_⟩
  simp only[dJ,nO,hm2,Int.toNat_natCast,US];refine⟨ad9,ad9,aea,?_⟩;rw[←List.map_drop,←List.map_take];exact hk _ (.sl _ _)
 ·rw[rT]
  refine⟨ad9,fun _=>hz,?_⟩
  simp only[fB,hm,dJ,nO,hm2];refine⟨ad9,ad9,ad9,?_⟩;simp only[Int.toNat_natCast,hz,Nat.mul_one];have e:((l.drop j).take (k - j)).length=k - j:=aea;have:=hk (.oa id (off+j) ((l.drop j).take (k - j)).length) (.oa h1 ad9 (by
   grind [List.map_take,List.map_drop,List.drop_drop,List.drop_take]))
  rwa [e]at this
end
theorem Rt(k:IntKind)(n:Nat)(hk:k.signed=false)(hn:n<2 ^ k.bits):k.wrap (n:Int)=n:=by
 cases k<;>simp[IntKind.signed]at hk<;>simp[IntKind.wrap,IntKind.signed,IntKind.bits]at hn⊢<;>omega
theorem w32(n:Nat)(hn:n<4294967296):IntKind.u32.wrap (n:Int)=n:=Rt .u32 n rfl ahQ
theorem w8(n:Nat):IntKind.u8.wrap (n:Int)=(UInt8.ofNat n).toNat:=by
 rfl
theorem Bj(w n:Nat):BitVec.ofInt w (n:Int)=BitVec.ofNat w n:=BitVec.ofInt_natCast ..
theorem Od(x y:BitVec 32):IntKind.u32.wrap (((BitVec.ofInt IntKind.u32.bits (x.toNat:Int) ^^^ BitVec.ofInt IntKind.u32.bits (y.toNat:Int)).toNat:Nat):Int)=((x ^^^ y).toNat:Int):=by
 have e:∀z:BitVec 32,BitVec.ofInt IntKind.u32.bits (z.toNat:Int)=z:=fun z=>by
  show BitVec.ofInt 32 (z.toNat:Int)=z
  simp
 rw[e,e];exact w32 _ (x ^^^ y).isLt
theorem Ty(x:BitVec 32):IntKind.u32.wrap (((BitVec.ofInt IntKind.u32.bits (x.toNat:Int) ^^^ BitVec.ofInt IntKind.u32.bits (3988292384:Int)).toNat:Nat):Int)=((x ^^^ 0xedb88320#32).toNat:Int):=Od x 0xedb88320#32
theorem V1(x:BitVec 32):IntKind.u32.wrap (((BitVec.ofInt IntKind.u32.bits (if IntKind.u32.signed=true then -1 else IntKind.u32.max) ^^^ BitVec.ofInt IntKind.u32.bits (x.toNat:Int)).toNat:Nat):Int)=((~~~ x).toNat:Int):=by
 have:=Od (BitVec.allOnes 32) x;exact aeR
theorem U3(x:BitVec 32):IntKind.u32.wrap (((BitVec.ofInt IntKind.u32.bits (x.toNat:Int) &&& BitVec.ofInt IntKind.u32.bits (1:Int)).toNat:Nat):Int)=((x &&& 1#32).toNat:Int):=by
 have e:BitVec.ofInt IntKind.u32.bits (x.toNat:Int)=x:=by
  show BitVec.ofInt 32 (x.toNat:Int)=x
  simp
 rw[e];exact w32 _ (x &&& 1#32).isLt
theorem Wh(x:BitVec 32):(x.toNat:Int).fdiv (2 ^ (min (1:Int).toNat IntKind.u32.bits))=((x>>>1).toNat:Int):=by
 show(x.toNat:Int).fdiv (2 ^ 1)=_
 grind [Int.fdiv_eq_ediv_of_nonneg,Nat.shiftRight_eq_div_pow]
theorem YX(n:Nat)(k:Nat)(hk:k≤24):(n:Int).fdiv (2 ^ (min (k:Int).toNat IntKind.u32.bits))=((n / 2 ^ k:Nat):Int):=by
 grind [min,Int,IntKind.bits,Int.fdiv_eq_ediv_of_nonneg,Int.le_of_lt,Int.pow_pos]
theorem YM(a b k:Nat)(ha:a<2 ^ k)(hk:k≤24)(hb:b<256):IntKind.u32.wrap (((BitVec.ofInt IntKind.u32.bits (a:Int)|||BitVec.ofInt IntKind.u32.bits ((b*2 ^ k:Nat):Int)).toNat:Nat):Int)=((a+b*2 ^ k:Nat):Int):=by
 have h24:2 ^ k≤2 ^ 24:=Nat.pow_le_pow_right aed hk;have hbk:b*2 ^ k≤255*2 ^ 24:=Nat.mul_le_mul ad9 h24;have e1:(BitVec.ofNat 32 a|||BitVec.ofNat 32 (b*2 ^ k)).toNat=a+b*2 ^ k:=by
  exact ai5
 show IntKind.u32.wrap (((BitVec.ofInt 32 (a:Int)|||BitVec.ofInt 32 ((b*2 ^ k:Nat):Int)).toNat:Nat):Int)=_
 rw[Bj,Bj,e1]
 grind [w32]
theorem Wg(b k:Nat)(hk:k≤24)(hb:b<256):IntKind.u32.wrap ((b:Int)*2 ^ (min (k:Int).toNat IntKind.u32.bits))=((b*2 ^ k:Nat):Int):=by
 have h24:2 ^ k≤2 ^ 24:=Nat.pow_le_pow_right aed hk;have hbk:b*2 ^ k≤255*2 ^ 24:=Nat.mul_le_mul ad9 h24;have:min (k:Int).toNat IntKind.u32.bits=k:=ahQ;rw[this,show((b:Int)*2 ^ k)=((b*2 ^ k:Nat):Int) by simp]
 exact w32 _ ad9
section
variable {U : TypeId → TI} {ty : TypeId} {K : AV → Prop}
@[go_sem high] theorem adX(x y:BitVec 32):cr U .xor ty (.v (.int .u32 (x.toNat:Int))) (.v (.int .u32 (y.toNat:Int))) K=K (.v (.int .u32 ((x ^^^ y).toNat:Int))):=by rw[QO,Od]
@[go_sem high] theorem aby(x:BitVec 32):cr U .xor ty (.v (.int .u32 (x.toNat:Int))) (.v (.int .u32 3988292384)) K=K (.v (.int .u32 ((x ^^^ 0xedb88320#32).toNat:Int))):=by rw[QO,Ty]
@[go_sem high] theorem Yh(x:BitVec 32):cr U .and ty (.v (.int .u32 (x.toNat:Int))) (.v (.int .u32 1)) K=K (.v (.int .u32 ((x &&& 1#32).toNat:Int))):=by rw[LB,U3]
@[go_sem high] theorem Yj(x:BitVec 32)(kk:IntKind):cr U .shr ty (.v (.int .u32 (x.toNat:Int))) (.v (.int kk 1)) K=K (.v (.int .u32 ((x>>>1).toNat:Int))):=by grind [LC,Wh]
@[go_sem high] theorem Y2(x:BitVec 32):unA .xor (.v (.int .u32 (x.toNat:Int))) K=K (.v (.int .u32 ((~~~ x).toNat:Int))):=by rw[CL,V1]
theorem LJ(n k:Nat)(kk:IntKind)(hk:k≤24):cr U .shr ty (.v (.int .u32 (n:Int))) (.v (.int kk (k:Int))) K=K (.v (.int .u32 ((n / 2 ^ k:Nat):Int))):=by grind [LC,YX]
theorem LI(a b k:Nat)(ha:a<2 ^ k)(hk:k≤24)(hb:b<256):cr U .or ty (.v (.int .u32 (a:Int))) (.v (.int .u32 ((b*2 ^ k:Nat):Int))) K=K (.v (.int .u32 ((a+b*2 ^ k:Nat):Int))):=by grind [U5,YM]
theorem FA(b k:Nat)(kk:IntKind)(hk:k≤24)(hb:b<256):cr U .shl ty (.v (.int .u32 (b:Int))) (.v (.int kk (k:Int))) K=K (.v (.int .u32 ((b*2 ^ k:Nat):Int))):=by grind [QN,Wg]
end
section
variable {P : Program} {U : TypeId → TI} {n : Nat} {ρ : Env} {h0 h h' : Heap} {tb : TypeId} {y v : AV} {l m : List UInt8} {Q : AV → Heap → Prop}
end
section
variable {U : TypeId → TI} {ty : TypeId} {K : AV → Prop}
end
section
variable {P : Program} {U : TypeId → TI} {n : Nat} {ρ : Env} {h : Heap}
section
variable (all : List Oper) (bs : List Bool) (r : List Oper) (K : Env → Heap → Prop)
end
theorem ai.of_wp{f:FuncId}{fn:Func}{c:Code}{args:List AV}{Q:AV→Heap→Prop}(hU:∀t,aP P U t)(hf:P.funcs[f]? =some fn)(hb:fn.body=some c)
  (hn : (fn.name == "runtime.NumGoroutine") = false) (m : Nat) (hm' : fn.ntmps = m) (rs : List ResultVar) (hr : fn.results.toList = rs) (hl : args.length ≤ m)
  (hk:WP P m c (yx args) h (vV U rs Q)):ai P f args h Q:=by
 subst hm';subst hr
 exact ai.MW hU hf hb hn hl fun _=>hk
end
section
variable {P : Program} {U : TypeId → TI} {n : Nat} {ρ : Env} {h : Heap}
def KCut(I:Env→Heap→Prop)(K:Exit→Env→Heap→Prop):Exit→Env→Heap→Prop:=KSeq I K
@[go_sem↓] theorem UQ(I:Env→Heap→Prop)(K:Exit→Env→Heap→Prop):KCut I K .ret ρ h=K .ret ρ h:=rfl
theorem WP.cut{c d:Code}{K:Exit→Env→Heap→Prop}(I:Env→Heap→Prop)(hc:WP P n c ρ h (KCut I K))(hd:∀ρ h,I ρ h→WP P n d ρ h K):WP P n (.seq c d) ρ h K:=
 WP.seq (hc.weaken fun e ρ h hk=>by
  cases e with
  |normal=>exact hd ρ h hk
  |_=>exact hk)
theorem WP.vc(hU:∀t,aP P U t)(hm:P.follows .mixedOrders=true){c:Code}{K:Exit→Env→Heap→Prop}(hk:bG P U n c ρ h K):WP P n c ρ h K:=dN hU hm c ρ h K hk
def KNext(P:Program)(n:Nat)(d:Code)(K:Exit→Env→Heap→Prop):Exit→Env→Heap→Prop:=KSeq (WP P n d · · K) K
@[go_sem↓] theorem Oq(d:Code)(K:Exit→Env→Heap→Prop):KNext P n d K .normal ρ h=WP P n d ρ h K:=rfl
@[go_sem↓] theorem TO(d:Code)(K:Exit→Env→Heap→Prop):KNext P n d K .ret ρ h=K .ret ρ h:=rfl
@[go_sem↓] theorem RF(d:Code)(K:Exit→Env→Heap→Prop)(i:Nat):KNext P n d K (.goto i) ρ h=K (.goto i) ρ h:=rfl
theorem WP.one(hU:∀t,aP P U t)(hm:P.follows .mixedOrders=true){c d:Code}{K:Exit→Env→Heap→Prop}(hk:bG P U n c ρ h (KNext P n d K)):WP P n (.seq c d) ρ h K:=WP.seq (dN hU hm c ρ h _ hk)
end
section
variable {P : Program} {U : TypeId → TI} {n : Nat} {ρ : Env} {h : Heap}
variable {d : Option Tmp} {t : TypeId} {p : String} {a : Array Edge} {g : Option (Nat × Bool)} {Q : AV → Heap → Prop} {k : AV → Prop}
@[go_sem] theorem WX(x y:TypeId)(k:TK→Prop):atK (.map x y) k=k (.map x y):=rfl
@[go_sem] theorem Vb(i:Nat):AV.cells (.mp i)= [.mp i]:=rfl
@[go_sem] theorem Ys(i m:Nat):fit (.mp i) m=(m=1):=rfl
@[go_sem] theorem XA(l:List UInt8):gL .str (.s l)=(l.length≤maxLen):=rfl
def mpL(b:Blk)(f:List (AV×AV)→Prop):Prop:=match b with
 |.mp m=>f m
 |_=>False
@[congr] theorem Us{b b' :Blk}{f:List (AV×AV)→Prop}(e:b=b'):mpL b f=mpL b' f:=by rw[e]
@[go_sem↓] theorem YB(m:List (AV×AV))(f:List (AV×AV)→Prop):mpL (.mp m) f=f m:=rfl
def AK(tk:TK)(m:List (AV×AV)):Prop:=∀p∈m,gL tk p.1
def Lm(ti:TI):Prop:=ti.sz≠0∨ti.k= .strct []
def Ea(U:TypeId→TI)(h:Heap)(u v:AV)(ok:Bool)(k:AV→Prop)(tk:TK):Prop:=match tk,u with
 |.map kt e,.mp id=>gL (U kt).k v∧Lm (U e)∧aE (h id) fun b=>mpL b fun m=>AK (U kt).k m∧k (zc U e m v ok)
 |_,_=>False
@[congr] theorem Q7{u u' v v' :AV}{ok:Bool}{k:AV→Prop}{tk:TK}(h1:u=u')(h2:v=v'):Ea U h u v ok k tk=Ea U h u' v' ok k tk:=by grind
@[go_sem↓] theorem VV(kt e:TypeId)(id:Nat)(v:AV)(ok:Bool):Ea U h (.mp id) v ok k (.map kt e)=(gL (U kt).k v∧Lm (U e)∧aE (h id) fun b=>mpL b fun m=>AK (U kt).k m∧k (zc U e m v ok)):=rfl
@[go_sem↓] theorem V6(mt:TypeId)(x y:Operand)(ok:Bool):bg P U ρ h ⟨d,.lookup mt x y ok,t,p,a,g⟩ Q=aE (ev ρ x) fun u=>aE (ev ρ y) fun v=>atK (U mt).k (Ea U h u v ok (atH Q h)):=by
 simp only[bg,pv,bW,atK]
 congr 1
 funext u
 congr 1
 funext v
 cases (U mt).k with
 |map kt e=>
  cases u with
  |mp id=>
   simp only[Ea]
   congr 2
   exact aiw
  |_=>rfl
 |_=>rfl
def Nj(U:TypeId→TI)(h:Heap)(u v w:AV)(Q:AV→Heap→Prop)(tk:TK):Prop:=match tk,u with
 |.map kt e,.mp id=>gL (U kt).k v∧aE (h id) fun b=>mpL b fun m=>AK (U kt).k m∧Q (.v undef) (upd h id (some (.mp (Au m v w))))
 |_,_=>False
@[congr] theorem S7{u u' v v' w w' :AV}{tk:TK}(h1:u=u')(h2:v=v')(h3:w=w'):Nj U h u v w Q tk=Nj U h u' v' w' Q tk:=by grind
@[go_sem↓] theorem XP(kt e:TypeId)(id:Nat)(v w:AV):Nj U h (.mp id) v w Q (.map kt e)=(gL (U kt).k v∧aE (h id) fun b=>mpL b fun m=>AK (U kt).k m∧Q (.v undef) (upd h id (some (.mp (Au m v w))))):=rfl
@[go_sem↓] theorem Re(mt:TypeId)(x y z:Operand):bg P U ρ h ⟨d,.mapUpdate mt x y z,t,p,a,g⟩ Q=aE (ev ρ x) fun u=>aE (ev ρ y) fun v=>aE (ev ρ z) fun w=>atK (U mt).k (Nj U h u v w Q):=by
 simp only[bg,bW,atK]
 congr 1
 funext u
 congr 1
 funext v
 congr 1
 funext w
 cases (U mt).k with
 |map kt e=>
  cases u with
  |mp id=>
   simp only[Nj]
   congr 1
   exact aiw
  |_=>rfl
 |_=>rfl
def UU(h:Heap)(Q:AV→Heap→Prop):Prop:=∀id,h id=none→Q (.mp id) (upd h id (some (.mp [])))
@[go_sem↓] theorem UD(mt:TypeId):bg P U ρ h ⟨d,.makeMap mt none,t,p,a,g⟩ Q=UU h Q:=by
 simp only[bg,IE,true_and];rfl
end
def As(ls:List (List UInt8)):List (AV×AV):=ls.map fun l=>(.s l,.agg [])
theorem DE(ls:List (List UInt8))(l:List UInt8):getM (As ls) (.s l)=if l∈ls then some (.agg [])else none:=by
 induction ls with
 |nil=>rfl
 |cons x ls ih=>
  simp only[getM,As,List.map_cons,List.find?_cons,sJ]at ih⊢
  grind
theorem NH{ls:List (List UInt8)}{l:List UInt8}(hn:l∉ls):Au (As ls) (.s l) (.agg [])=As (ls++ [l]):=by
 unfold Au;rw[DE,if_neg hn];simp[As]
theorem J7(U:TypeId→TI)(e:TypeId)(he:(U e).sz=0)(ls:List (List UInt8))(l:List UInt8):zc U e (As ls) (.s l) true= .tup [.agg [],.b (decide (l∈ls))]:=by
 simp only[zc,DE,jh,he,if_true]
 grind
theorem J3{ls:List (List UInt8)}(h:∀l∈ls,l.length≤maxLen):AK .str (As ls):=fun p hp=>by
 obtain⟨l,hl,rfl⟩:=List.mem_map.1 hp;exact h l hl
section
variable {P : Program} {f : FuncId} {args : List AV} {h h' : Heap} {Q : AV → Heap → Prop}
theorem Ext.below{c:Cx}{w' :World}(hb:Go.RowKit.Below c.w.heap.size c.w w'):Ext c {c with w:=w'} where
 os:=hb.os
 tape:=hb.tape
 output:=hb.output
 size:=hb.size
 block:=fun b h _=>hb.block b h
 cell:=fun b o h _=>by
  simp only[World.cell?,hb.block b h]
 shape:=fun b cs t fr h=>⟨cs,fr,(hb.block b (cZ h)).trans h,rfl⟩
 steal:=fun _ _ _ h=>h
 obj:=fun _ cs _ h=>⟨rfl,cs,h,rfl⟩
 spare:=fun _ n _ h=>⟨n,h,.inl ⟨rfl,rfl⟩⟩
 mp:=fun _ m h=>⟨rfl,m,h⟩
 ro:=fun _ _ _ h=>⟨rfl,h⟩
theorem Good.below{c:Cx}(g:Good c){w' :World}(hb:Go.RowKit.Below c.w.heap.size c.w w'):Good {c with w:=w'} where
 fin:=g.fin
 inj:=g.inj
 obj:=fun id cs t h=>by
  obtain⟨vs,a1,a2,a3⟩:=g.obj id cs t h;exact⟨vs,(hb.block _ (cZ a1)).trans a1,a2,fun j hj=>⟨(a3 j hj).1.mono (.below hb),(a3 j hj).2⟩⟩
 spare:=fun id n sz h=>by
  obtain⟨a0,vs,t,fr,a1,a2⟩:=g.spare id n sz h;exact⟨a0,vs,t,fr,(hb.block _ (cZ a1)).trans a1,a2⟩
 mp:=fun id m h=>by
  obtain⟨es,cl,a1,a2,a3⟩:=g.mp id m h;exact⟨es,cl,(hb.block _ (cZ a1)).trans a1,a2,fun i hi hi' =>⟨(a3 i hi hi').1,(a3 i hi hi').2.mono (.below hb)⟩⟩
 keys:=g.keys
 ro:=fun id b vs h=>g.nV (.below hb) h
theorem ai.lib{X:AV}(hc:callable P f)(hf:∀c (vs:Array Value),Sub h c.h→Good c→vs.size=args.length→(∀i (hi:i<args.length),Rep c args[i] (vs.getD i undef))→
  Calls P f vs c.w fun e w' =>(∃u,e= .returned u∧∀c',Ext c c'→Rep c' X u)∧Go.RowKit.Below c.w.heap.size c.w w'):ai P f args h fun r h' =>r=X∧h' =h:=by
 refine fun c vs hs g h1 h2=> .inl ⟨hc,(hf c vs hs g h1 h2).mono ?_⟩
 rintro e w' ⟨⟨u,rfl,hu⟩,hb⟩
 exact⟨u,rfl,{c with w:=w'},X,h,rfl,g.below hb,.below hb,hu _ (.below hb),hs,rfl,rfl⟩
def Tab(h:Heap)(b:Nat)(vs:List Value):Prop:=∃id,h id=some (.ro b vs)
theorem Tab.sub{b:Nat}{vs:List Value}(ht:Tab h b vs)(hs:Sub h h'):Tab h' b vs:=let ⟨id,hi⟩:=ht;⟨id,hs _ _ hi⟩
theorem Tab.var{b:Nat}{vs:List Value}{name:String}(ht:Tab h b vs)(hn:P.globalNamed name=some b){c:Cx}(hs:Sub h c.h)(g:Good c):c.w.var? P name=some vs.toArray:=by
 obtain⟨id,hi⟩:=ht;obtain⟨_,t,fr,h2⟩:=g.ro id b vs (hs _ _ hi)
 grind [World.var?]
end
def vG(ts:List (Nat×List Value)):Heap:=fun i=>(ts[i]?).map fun p=> .ro p.1 p.2
def cxT(w:World)(ts:List (Nat×List Value)):Cx:=⟨w,fun i=>⟨((ts[i]?).map (·.1)).getD 0,0,none⟩,vG ts⟩
theorem M7(w:World)(ts:List (Nat×List Value))(b o:Nat):¬owned (cxT w ts) b o:=by
 rintro⟨id,k,h,_,h3⟩
 simp only[cxT,vG,Option.map_eq_some_iff]at h;obtain⟨p,_,rfl⟩:=h;exact h3
theorem VI(w:World)(ts:List (Nat×List Value))(hd:ts.Pairwise fun p q=>p.1≠q.1)(ht:∀p∈ts,∃(t:TypeId) (fr:Nat×Nat),w.heap[p.1]? =some (.cells p.2.toArray t fr)):Good (cxT w ts) where
 fin:=⟨ts.length,fun id h=>by simp[cxT,vG,List.getElem?_eq_none h]⟩
 inj:=fun i j k l h1 h2 hne=>by
  simp only[cxT,vG,Option.map_eq_some_iff]at h1 h2;obtain⟨p,hp,rfl⟩:=h1;obtain⟨q,hq,rfl⟩:=h2;simp only[cxT,hp,hq,Option.map_some,Option.getD_some];obtain⟨hi,rfl⟩:=List.getElem?_eq_some_iff.1 hp
  grind [List.pairwise_iff_getElem,Nat.lt_or_gt_of_ne]
 obj:=fun id cs t h=>by
  simp_all [cxT,vG,Option.map_eq_some_iff]
 spare:=fun id n sz h=>by
  simp_all [cxT,vG,Option.map_eq_some_iff]
 mp:=fun id m h=>by
  simp_all [cxT,vG,Option.map_eq_some_iff]
 keys:=fun id m h=>by
  simp_all [cxT,vG,Option.map_eq_some_iff]
 ro:=fun id b vs h=>by
  simp only[cxT,vG,Option.map_eq_some_iff]at h;obtain⟨p,hp,h⟩:=h;cases h;refine⟨by grind [cxT],ht p aea⟩
theorem ai.LM{P:Program}{f:FuncId}{args:List AV}{b:Value}{vs:Array Value}{w:World}{ts:List (Nat×List Value)}(hc:callable P f)(hf:ai P f args (vG ts) fun r _=>r= .v b)(hd:ts.Pairwise fun p q=>p.1≠q.1)
  (ht:∀p∈ts,∃(t:TypeId) (fr:Nat×Nat),w.heap[p.1]? =some (.cells p.2.toArray t fr)) (hv:vs.size=args.length) (hr:∀i (hi:i<args.length),Rep (cx0 w) args[i] (vs.getD i undef)):
  Calls P f vs w fun e w' =>e= .returned b∧Go.RowKit.Below w.heap.size w w' :=by
 have hE:Ext (cx0 w) (cxT w ts):=⟨rfl,rfl,rfl,Nat.le_refl _,fun _ _ _=>rfl,fun _ _ _ _=>rfl,fun _ cs _ fr h=>⟨cs,fr,h,rfl⟩,fun b o _ h=>(M7 w ts b o h).elim,
  fun _ _ _ h=>aeW,fun _ _ _ h=>aeW,fun _ _ h=>aeW,fun _ _ _ h=>aeW⟩
 refine((hf (cxT w ts) vs (fun _ _ h=>h) (VI w ts hd ht) hv fun i hi=>(hr i hi).mono hE).calls hc).mono ?_
 rintro e w' ⟨u,rfl,c',x,h',rfl,g',hE,hx,hs,rfl⟩
 rw[hx.bQ];exact⟨rfl,hE.os,hE.tape,hE.output,hE.size,fun k hk=>hE.block k hk fun o=>M7 w ts k o⟩
mutual
def strip:AV→AV
 |.sl xs _=> .sl (fY xs) .no
 |.agg xs=> .agg (fY xs)
 |.tup xs=> .tup (fY xs)
 |.v x=> .v x
 |.s l=> .s l
 |.pe x o=> .pe x o
 |.ptr i o=> .ptr i o
 |.oa i o l=> .oa i o l
 |.ifc t x=> .ifc t x
 |.fn f c=> .fn f c
 |.mp i=> .mp i
 |.ob i o l c s=> .ob i o l c s
def fY:List AV→List AV
 | []=>[]
 |x::r=>strip x::fY r
end
theorem fy:∀xs:List AV,(fY xs).length=xs.length
 | []=>rfl
 |x::r=>by simp[fY,fy r]
theorem gJ:∀(xs:List AV) (i:Nat) (h1:i<xs.length) (h2:i<(fY xs).length),(fY xs)[i]=strip xs[i]
 |x::r,0,h1,h2=>aeo
 |x::r,i+1,h1,h2=>by simpa[fY]using gJ r i aea (by grind [fY])
theorem xb(x:AV):(strip x).cells=match x with|.agg xs=>fY xs|_=>[strip x]:=by
 cases x<;>simp[strip,AV.cells]
mutual
theorem fI:∀x:AV,Weak x (strip x)
 |.sl xs p=> .deep _ _ p (fy xs).symm (fun i h1 h2=>by
    rw[gJ xs i h1 h2,xb];have:=nY xs i h1;cases hx:xs[i]<;>simp[AV.cells,fy])
   (fun i h1 h2 j h3 h4=>by
    have hw:=nY xs i h1;have e:=gJ xs i h1 h2;exact hw (fY xs)[i] e j h3 h4)
 |.agg xs=> .agg _ _ (fy xs).symm fun i h1 h2=>agF
 |.tup xs=> .tup _ _ (fy xs).symm fun i h1 h2=>agF
 |.v x=> .refl _
 |.s l=> .refl _
 |.pe x o=> .refl _
 |.ptr i o=> .refl _
 |.oa i o l=> .refl _
 |.ifc t x=> .refl _
 |.fn f c=> .refl _
 |.mp i=> .refl _
 |.ob i o l c s=> .refl _
theorem lY:∀(xs:List AV) (i:Nat) (h:i<xs.length),Weak xs[i] (strip xs[i])
 |x::r,0,h=>fI x
 |x::r,i+1,h=>lY r i ah9
theorem nY:∀(xs:List AV) (i:Nat) (h:i<xs.length) (y:AV),y=strip xs[i]→∀(j:Nat) (h3:j<xs[i].cells.length) (h4:j<y.cells.length),Weak xs[i].cells[j] y.cells[j]
 |x::r,0,h,y,e,j,h3,h4=>Hq x y e j h3 h4
 |x::r,i+1,h,y,e,j,h3,h4=>nY r i ah9 y e j h3 h4
theorem Hq:∀(x y:AV),y=strip x→∀(j:Nat) (h3:j<x.cells.length) (h4:j<y.cells.length),Weak x.cells[j] y.cells[j]
 |.agg xs,y,e,j,h3,h4=>by
  subst e;simp only[strip,AV.cells]at h4⊢;rw[gJ xs j h3 h4];exact lY xs j h3
 |.sl xs p,y,e,j,h3,h4=>by
  subst e;simp only[strip,AV.cells,List.length_singleton]at h3 h4⊢;obtain rfl:j=0:=ad9;exact .deep _ _ p (fy xs).symm (fun i h1 h2=>by
    rw[gJ xs i h1 h2,xb];cases hx:xs[i]<;>simp[AV.cells,fy])
   (fun i h1 h2 j h3 h4=>nY xs i h1 _ (gJ xs i h1 h2) j h3 h4)
 |.tup xs,y,e,j,h3,h4=>by
  subst e;simp only[strip,AV.cells,List.length_singleton]at h3 h4⊢;obtain rfl:j=0:=ad9;exact .tup _ _ (fy xs).symm fun i h1 h2=>agF
 |.v x,y,e,j,h3,h4=>afj
 |.s l,y,e,j,h3,h4=>afj
 |.pe x o,y,e,j,h3,h4=>afj
 |.ptr i o,y,e,j,h3,h4=>afj
 |.oa i o l,y,e,j,h3,h4=>afj
 |.ifc t x,y,e,j,h3,h4=>afj
 |.fn f c,y,e,j,h3,h4=>afj
 |.mp i,y,e,j,h3,h4=>afj
 |.ob i o l c s,y,e,j,h3,h4=>afj
end
section
variable {P : Program} {U : TypeId → TI} {n : Nat} {ρ : Env} {h0 h h' : Heap} {tb : TypeId} {y v : AV} {xs zs : List AV} {Q : AV → Heap → Prop} {f : FuncId} {args : List AV}
def One(xs:List AV):Prop:=∀x∈xs,bA x=false
theorem oK{x:AV}(h:bA x=false):x.cells= [x]:=by cases x<;>first|rfl|(cases h)
theorem One.sized(h:One xs):Sized 1 xs:=fun z hz=>by rw[oK (h z hz)];rfl
theorem One.map{α:Type}{g:α→AV}(hg:∀a,bA (g a)=false)(l:List α):One (l.map g):=fun x hx=>by
 grind
def Ft(tb:TypeId)(h:Heap)(y:AV)(xs:List AV):Prop:=
 (∃q,y= .sl xs q)∨∃id off cs,y= .oa id off xs.length∧h id=some (.obj cs tb)∧off+xs.length≤cs.length∧(cs.drop off).take xs.length=xs
theorem Ft.sl(xs:List AV)(q:Perm):Ft tb h (.sl xs q) xs:=.inl ⟨q,rfl⟩
theorem Ft.len(hb:Ft tb h y xs)(e:TypeId)(k:AV→Prop):xw y k (.slice e)=k (.i xs.length):=by
 exact aje
def AtP(U:TypeId→TI)(tb:TypeId)(h:Heap)(p x:AV):Prop:=∀k:AV→Prop,nR U h tb p k=k x
theorem Ft.idx(hb:Ft tb h y xs)(ho:One xs){m:Int}{x:IntKind}{K:AV→Prop}(j:Nat)(hm:m=j)(hj:j<xs.length)(hz:(U tb).sz=1)(ha:(U tb).k.agg=false)
  (hk:∀p,AtP U tb h p xs[j]→K p):pG U y (.v (.int x m)) K (.slice tb):=by
 subst hm;have h1:=ho xs[j] aeg;rcases hb with⟨q,rfl⟩|⟨id,off,cs,rfl,g1,g2,g3⟩
 ·refine(vf ..).mpr ⟨ad9,?_⟩
  refine eC.at j hj (by grind [oK]) ?_
  refine hk _ fun k=>?_
  simp_all [nR,Lw,oK,List.length_cons,List.length_nil,Nat.zero_add,and_self,if_true]
 ·refine(A6 ..).mpr ⟨ad9,ad9,ad9,?_⟩
  refine hk _ fun k=>?_
  have e1:cs[off+j]? =some xs[j]:=by
   grind
  simp only[nR,g1,dJ,Cv,hz,Nat.mul_one,Int.toNat_natCast,Et,ha,Br,e1];simp
def WrA(tb:TypeId)(h0 h:Heap)(y:AV)(xs:List AV):Prop:=
 Sub h0 h∧((xs= []∧y= .sl [] .full)∨∃id cs,h0 id=none∧y= .oa id 0 xs.length∧h id=some (.obj cs tb)∧xs.length≤cs.length∧cs.take xs.length=xs)
theorem WrA.nil(hs:Sub h0 h):WrA tb h0 h (.sl [] .full) []:=⟨hs,.inl ⟨rfl,rfl⟩⟩
theorem WrA.seq(hw:WrA tb h0 h y xs):Ft tb h y xs:=by
 obtain⟨_,⟨rfl,rfl⟩|⟨id,cs,_,rfl,h1,h2,h3⟩⟩:=hw
 ·exact agO
 ·exact .inr ⟨id,0,cs,rfl,h1,ad9,aea⟩
theorem WrA.sub(hw:WrA tb h0 h y xs)(hs:Sub h h'):WrA tb h0 h' y xs:=by
 obtain⟨h1,hw|⟨id,cs,a,e,b,c,d⟩⟩:=hw
 ·exact⟨h1.trans hs,.inl hw⟩
 ·exact⟨h1.trans hs,.inr ⟨id,cs,a,e,hs _ _ b,c,d⟩⟩
theorem WrA.base(hw:WrA tb h0 h y xs){id:Nat}(hid:h id=none)(b:Option Blk):WrA tb (upd h0 id b) (upd h id b) y xs:=by
 obtain⟨h1,hw⟩:=hw;have h2:Sub (upd h0 id b) (upd h id b):=fun j k hj=>by
  by_cases e:j=id
  ·grind [ah]
  ·rw[ag _ _ e]at hj⊢;exact h1 _ _ hj
 rcases hw with hw|⟨i,cs,a,e,c,d⟩
 ·exact⟨h2,.inl hw⟩
 ·have hne:i≠id:=fun hh=>by subst hh;rw[hid]at c;cases c
  exact⟨h2,.inr ⟨i,cs,aeK,e,aeK,d⟩⟩
theorem WrA.less(hw:WrA tb h' h y xs)(hs:Sub h0 h'):WrA tb h0 h y xs:=by
 obtain⟨h1,hw|⟨i,cs,a,e,c,d⟩⟩:=hw
 ·exact⟨hs.trans h1,.inl hw⟩
 ·exact⟨hs.trans h1,.inr ⟨i,cs,hs.none a,e,c,d⟩⟩
theorem WrA.len(hw:WrA tb h0 h y xs)(e:TypeId)(k:AV→Prop):xw y k (.slice e)=k (.i xs.length):=hw.seq.len e k
theorem WrA.idx(hb:WrA tb h0 h y xs)(ho:One xs){m:Int}{x:IntKind}{K:AV→Prop}(j:Nat)(hm:m=j)(hj:j<xs.length)(hz:(U tb).sz=1)(ha:(U tb).k.agg=false)
  (hk:∀p,AtP U tb h p xs[j]→K p):pG U y (.v (.int x m)) K (.slice tb):=hb.seq.idx ho j hm hj hz ha hk
theorem WrA.cut(hw:WrA tb h0 h y xs){hi:Operand}{m:Int}{x:IntKind}{K:AV→Prop}(j:Nat)(hm:ev ρ hi=some (.v (.int x m)))(hj:m=j)(hl:j≤xs.length)(hz:(U tb).sz=1)
  (hk:∀z,WrA tb h0 h z (xs.take j)→K z):gI U ρ y none (some hi) none K (.slice tb):=by
 subst hj;have hs:=hw.1;obtain⟨_,⟨rfl,rfl⟩|⟨id,cs,h1,rfl,h2,h3,h4⟩⟩:=hw
 ·rw[nW,fB,hm]
  refine⟨ad9,?_⟩;have:j=0:=aea;subst this;refine⟨ad9,aeg,?_⟩;exact hk _ (.nil hs)
 ·rw[rT]
  refine⟨ad9,fun _=>hz,?_⟩
  simp only[mM,fB,hm,dJ,nO];refine⟨ad9,ad9,ad9,?_⟩;have e:(xs.take j).length=j:=aea;have:=hk (.oa id 0 (xs.take j).length) ⟨hs,.inr ⟨id,cs,h1,rfl,h2,ad9,aea⟩⟩;rw[e]at this;simpa using this
theorem WrA.app(hw:WrA tb h0 h y xs)(ho:One xs)(hoz:One zs)(hz:(U tb).sz=1)(hb:(U tb).bytes≠0)(hf:fit (U tb).zero 1)(hn:bA (U tb).zero=false)(hsrc:∀k:List AV→Prop,k zs→iM U tb h v k)
  (hlen:(xs.length+zs.length)*(U tb).bytes≤140737488355328) (hk:∀y' h',WrA tb h0 h' y' (xs++zs)→Q y' h'):apK U h y v Q (.slice tb):=by
 have hs:=hw.1;have one:Sized (U tb).sz zs:=by rw[hz];exact hoz.sized
 obtain⟨_,⟨rfl,rfl⟩|⟨id,cs,h1,rfl,h2,h3,h4⟩⟩:=hw
 ·refine(qv ..).mpr ⟨ad9,hb,hsrc _ ⟨by simp[Sized],one,ad9,fun hn' =>?_,fun hn' =>?_⟩⟩
  ·subst hn'
   exact hk _ _ (.nil hs)
  ·refine .oa hz hf hn hoz fun id k hid=>?_
   refine hk _ _ ⟨hs.new hid _,.inr ⟨id,_,hs.none hid,?_,ah ..,?_,?_⟩⟩
   ·simp
   ·simp
   ·simp
 ·refine⟨ad9,hb,hz,hsrc _ ⟨aea,hoz,ad9,?_⟩⟩
  rw[h2];refine⟨ad9,?_,hf,hn,fun hle=>?_,fun id' k hid=>?_⟩
  ·rw[List.drop_zero,h4];exact ho
  ·have hsub:Sub h0 (upd h id (some (.obj (over cs (0+xs.length) zs) tb))):=fun j b hj=>by
    by_cases e:j=id
    ·grind
    ·rw[ag _ _ e];exact hs _ _ hj
   have ho' :(over cs (0+xs.length) zs).length=cs.length:=iI ad9;refine hk _ _ ⟨hsub,.inr ⟨id,_,h1,aeg,ah ..,aea,?_⟩⟩;rw[over,Nat.zero_add,h4,ad3,List.take_append_of_le_length aeg]
   grind
  ·refine hk _ _ ⟨hs.new hid _,.inr ⟨id',_,hs.none hid,aeg,ah ..,?_,?_⟩⟩
   ·grind
   grind
end
end Go.Ab
namespace Go.Bf
open Go Go.Ab
abbrev Txt:=List UInt8
structure qs where
 cat:Int
 name:Txt
 must:Bool
structure bu where
 kind:Int
 n:Int
 s:Txt
structure bP where
 attr:qs
 op:Int
 val:bu
structure aR where
 op:Int
 val:bu
 attr:qs
structure cD where
 on:Int
 kind:Int
 arg:Txt
abbrev gj:=List (List (List bP))
structure cR where
 id:Txt
 deny:Bool
 tgt:gj
 cond:List aR
 obls:List cD
inductive bD where
 |mk (id:Txt) (set:Bool) (alg:Int) (tgt:gj) (rules:List cR) (kids:List bD) (obls:List cD)
def C3(a:qs):AV:=.agg [.i a.cat,.s a.name,.b a.must]
def aS(v:bu):AV:=.agg [.i v.kind,.i v.n,.s v.s]
def dR(m:bP):AV:=.agg [.i m.attr.cat,.s m.attr.name,.b m.attr.must,.i m.op,.i m.val.kind,.i m.val.n,.s m.val.s]
def dL(m:aR):AV:=.agg [.i m.op,.i m.val.kind,.i m.val.n,.s m.val.s,.i m.attr.cat,.s m.attr.name,.b m.attr.must]
def jY(b:Bool):AV:=.b b
def bt(o:cD):AV:=.agg [.i o.on,.i o.kind,.s o.arg]
def jj(l:List bP):AV:=.sl (l.map dR) .no
def cX(l:List (List bP)):AV:=.sl (l.map jj) .no
def aV(t:gj):AV:=.sl (t.map cX) .no
def fE(l:List aR):AV:=.sl (l.map dL) .no
def ay(l:List cD):AV:=.sl (l.map bt) .no
def aC(r:cR):AV:=.agg [.s r.id,.b r.deny,aV r.tgt,fE r.cond,ay r.obls]
mutual
def aO:bD→AV
 |.mk id set alg tgt rules kids obls=> .agg [.s id,.b set,.i alg,aV tgt,.sl (rules.map aC) .no,.sl (fK kids) .no,ay obls]
def fK:List bD→List AV
 | []=>[]
 |k::r=>aO k::fK r
end
theorem bf:∀l:List bD,fK l=l.map aO
 | []=>rfl
 |k::r=>by simp[fK,bf r]
def ltr(c:UInt8):Bool:=decide (97≤(c.toNat:Int)) && decide ((c.toNat:Int)≤122)
def dgt(c:UInt8):Bool:=decide (48≤(c.toNat:Int)) && decide ((c.toNat:Int)≤57)
def tC(c:UInt8)(i:Nat):Bool:=ltr c||(decide (i≠0) && (dgt c||(c.toNat:Int)==95))
def vX(l:Txt):Bool:=l.zipIdx.all fun p=>tC p.1 p.2
def bn(l:Txt):Bool:=vX l && decide (1≤l.length) && decide (l.length≤16)
def qx(a:qs):Bool:=decide (1≤a.cat) && decide (a.cat≤4) && bn a.name
def bz(v:bu):Bool:=
 if v.kind=1 then(v.n==0||v.n==1) && v.s== []
 else if v.kind=2 then v.s== []
 else if v.kind=3 then v.n==0 && decide (v.s.length≤64)
 else if v.kind=4 then decide (0≤v.n) && decide (v.n≤1099511627776) && v.s== []
 else if v.kind=5 then v.n==0 && bn v.s
 else false
def kZ(m:bP):Bool:=qx m.attr && decide (1≤m.op) && decide (m.op≤3) && bz m.val
def kJ(n:Nat):Int:=if n=0 then 1 else if n>8 then 6 else 0
def iD{α:Type}(f:α→Int):List α→Int
 | []=>0
 |x::r=>if f x=0 then iD f r else f x
def xo(l:List bP):Int:=if kJ l.length=0 then(if l.all kZ then 0 else 1)else kJ l.length
def xp(l:List (List bP)):Int:=if kJ l.length=0 then iD xo l else kJ l.length
def lU(t:gj):Int:=if t.length>8 then 6 else iD xp t
def iP(op:Int):Option (List Bool):=
 if op=1∨op=2 then some []
 else if op=3∨op=4 then some [true]
 else if op=5 then some [true,false]
 else if op=11 then some [false]
 else if 6≤op∧op≤13 then some [false,false]
 else none
def zeroV(v:bu):Bool:=v.kind==0 && (v.n==0 && v.s== [])
def zeroAt(a:qs):Bool:=a.cat==0 && (a.name== [] && a.must==false)
def j0(n:aR):Bool:=
 if n.op=1 then bz n.val && zeroAt n.attr
 else if n.op=2 then qx n.attr && zeroV n.val
 else zeroV n.val && zeroAt n.attr
def iN(st:List Bool)(n:aR):Option (List Bool):=match iP n.op with
 |none=>none
 |some w=>if j0 n=true∧w.length≤st.length∧st.drop (st.length - w.length)=w then some (st.take (st.length - w.length)++ [n.op==2])else none
def fX(st:List Bool):List aR→Option (List Bool)
 | []=>some st
 |n::r=>match iN st n with
  |none=>none
  |some st' =>fX st' r
def kI(l:List aR):Int:=if l.length>32 then 6 else match fX [] l with
 |none=>1
 |some st=>if l= []∨st= [false]then 0 else 1
def qV(o:cD):Bool:=decide (1≤o.on) && decide (o.on≤2) && decide (1≤o.kind) && decide (o.kind≤4) && bn o.arg
def iG(l:List cD):Int:=if l.length>8 then 6 else if l.all qV then 0 else 1
structure eO where
 met:List Txt
 rules:Nat
inductive Went where
 |bad (e:Int)
 |ok (m:eO)
def jv(m:eO)(s:Txt):Option eO:=if s∉m.met∧bn s=true then some ⟨m.met++ [s],m.rules⟩else none
def Went.err:Went→Int
 |.bad e=>e
 |.ok _=>0
def need(e:Int)(w:Went):Went:=if e=0 then w else .bad e
def gA(m:eO)(r:cR):Went:=match jv m r.id with
 |none=> .bad 1
 |some m=>if m.rules+1>64 then .bad 6 else need (lU r.tgt) (need (kI r.cond) (need (iG r.obls) (.ok ⟨m.met,m.rules+1⟩)))
def fG(m:eO):List cR→Went
 | []=> .ok m
 |r::l=>match gA m r with
  |.bad e=> .bad e
  |.ok m=>fG m l
def fq(m:eO)(id:Txt)(set:Bool)(alg:Int)(tgt:gj)(nr nk:Nat)(obls:List cD):Went:=match jv m id with
 |none=> .bad 1
 |some m=>if alg<1∨alg>6 then .bad 1
  else if set=true∧nr>0∨set=false∧(nk>0∨alg=4)then .bad 1
  else need (lU tgt) (need (iG obls) (if nr>16∨nk>16 then .bad 6 else .ok m))
mutual
def kU(m:eO)(d:Nat):bD→Went
 |.mk id set alg tgt rules kids obls=>
  if d>4 then .bad 6 else match fq m id set alg tgt rules.length kids.length obls with
  |.bad e=> .bad e
  |.ok m=>match fG m rules with
   |.bad e=> .bad e
   |.ok m=>jb m (d+1) kids
def jb(m:eO)(d:Nat):List bD→Went
 | []=> .ok m
 |k::r=>match kU m d k with
  |.bad e=> .bad e
  |.ok m=>jb m d r
end
def gH(p:bD):Int:=(kU ⟨[],0⟩ 1 p).err
def Gc(n:Nat):UInt8:=if n<10 then UInt8.ofNat (48+n)else UInt8.ofNat (87+n)
def tY(c:UInt8):Bool:=decide ((c.toNat:Int)<32)||decide (126<(c.toNat:Int))||(c.toNat:Int)==34||(c.toNat:Int)==92
def ou(c:UInt8):Txt:=if tY c then [92,Gc (c.toNat / 16),Gc (c.toNat % 16)]else [c]
def ov(l:Txt):Txt:=[34]++(l.map ou).flatten++ [34]
def kG(v:bu):Txt:=
 if v.kind=1 then Lib.formatBool (v.n==1)else if v.kind=4 then [64]++Lib.itoa v.n else if v.kind=5 then [35]++v.s else if v.kind=3 then ov v.s else Lib.itoa v.n
end Go.Bf
namespace Go.Ab
open Go
def hm2(i:Nat)(a:Blk)(j:Nat)(b:Blk):Heap:=upd (hm1 i a) j (some b)
theorem Sub.hm2{h:Heap}{i j:Nat}{a b:Blk}(h1:h i=some a)(h2:h j=some b):Sub (hm2 i a j b) h:=fun k c hk=>by
 unfold Ab.hm2 at hk
 by_cases e:k=j
 ·grind [ah]
 ·rw[ag _ _ e]at hk;exact Sub.hm1 h1 k c hk
theorem rM(i:Nat)(a:Blk)(j:Nat)(b:Blk):hm2 i a j b j=some b:=ah ..
theorem rL{i:Nat}(a:Blk){j:Nat}(b:Blk)(h:i≠j):hm2 i a j b i=some a:=by
 simp_all [hm2,ag,gp]
theorem aI{h:Heap}{i j:Nat}{b:Blk}(e:upd h i (some b) j=none):j≠i:=fun hh=>by
 subst hh;rw[ah]at e;cases e
theorem Sub.put{h g:Heap}(hs:Sub h g){i:Nat}(hi:h i=Option.none)(x:Option Blk):Sub h (Ab.upd g i x):=fun k c hk=>by
 by_cases e:k=i
 ·grind
 ·rw[ag _ _ e];exact hs k c hk
theorem Sub.both{h g:Heap}(hs:Sub h g)(i:Nat)(x:Option Blk):Sub (Ab.upd h i x) (Ab.upd g i x):=fun k c hk=>by
 by_cases e:k=i
 ·grind [ah]
 ·rw[ag _ _ e]at hk⊢;exact hs k c hk
theorem Acc.put{U:TypeId→TI}{e:TypeId}{h h' :Heap}{y:AV}{xs:List AV}(ha:Acc U e h h' y xs){id:Nat}(hid:h id=Option.none){cs:List AV}{t:TypeId}(hob:h' id=some (.obj cs t))(x:Option Blk):Acc U e h (Ab.upd h' id x) y xs:=by
 obtain⟨h1,rfl|⟨k,i1,rfl,i2⟩⟩:=ha
 ·exact⟨h1.put hid x,.inl rfl⟩
 ·refine⟨h1.put hid x,.inr ⟨k,i1,rfl,?_⟩⟩
  grind [ag]
theorem base_start(G:Heap)(id:Nat)(x:Option Blk):Sub (upd G id Option.none) (upd G id x):=fun k c hk=>by
 grind [ah,ag]
theorem fD{G H:Heap}{id:Nat}{b:Blk}(hs:Sub (upd G id Option.none) H)(hb:H id=some b):Sub (upd G id (some b)) H:=fun k c hk=>by
 by_cases e:k=id
 ·grind [ah]
 ·rw[ag _ _ e]at hk;exact hs k c aeK
theorem BP(xs:List AV)(q:Perm)(a b:AV):Weak (.tup [.sl xs q,a,b]) (.tup [.sl xs .no,a,b]):=.tup _ _ rfl fun i h1 h2=>by
 rcases i with _|_|_|i
 ·exact agO
 ·exact afu
 ·exact afu
 grind
theorem WP.NG{P:Program}{U:TypeId→TI}{n:Nat}(hU:∀t,aP P U t)(hm:P.follows .mixedOrders=true){c rest:Code}{ρ:Env}{h:Heap}{K:Exit→Env→Heap→Prop}(l:Nat)(J:Nat→Env→Heap→Prop)(hf:findLabel c l=some (.seq .skip rest))
  (pass:∀m ρ h,J m ρ h→WP P n rest ρ h (KJump l (fun ρ' h' =>∃m',m' <m∧J m' ρ' h') K))
  (first:(∀m ρ h,J m ρ h→WP P n rest ρ h (KJump l (fun ρ h=>∃m,J m ρ h) K))→WP P n c ρ h (KJump l (fun ρ h=>∃m,J m ρ h) K)):WP P n (.scope c) ρ h K:=
 WP.scope l J hf (first fun m ρ h hJ=>(pass m ρ h hJ).weaken fun e ρ h hk=>by
  cases e with
  |goto l' =>obtain⟨h1,m',_,h2⟩:=hk;exact⟨h1,m',h2⟩
  |_=>exact hk) fun m ρ h hJ=>WP.seq (dN hU hm .skip ρ h _ (pass m ρ h hJ))
end Go.Ab
namespace Go.Ab
attribute [go_sem] Int.natCast_zero Int.ofNat_zero Int.natCast_one Int.cast_ofNat_Int bne_self_eq_false beq_self_eq_true Bool.not_true Bool.not_false
attribute [go_sem] Nat.reduceLT Nat.reduceEqDiff Nat.reduceAdd Nat.reduceLeDiff Nat.reduceMul Nat.reduceSub Int.reduceBEq Int.reduceBNe
attribute [go_sem ↓] reduceIte
end Go.Ab
namespace Go.Proofs.YtbbadggejjgihaaGreatDoor
open Go
def qZ:List Value:=Lib.pow10Tab.map fun z=>Value.int .u64 z
end Go.Proofs.YtbbadggejjgihaaGreatDoor
namespace Go.Proofs.YtbbadggejjgihaaGreatDoor
open Go Go.Ab Go.Bf
abbrev xm(h:Heap):Prop:=Tab h 3 qZ
theorem nP(n:Int)(h:Heap)(hn: -9223372036854775808≤n∧n≤9223372036854775807)(ht:xm h):ai Tryz.prog 63 [.i n] h fun r h' =>r= .s (Lib.itoa n)∧h' =h:=by
 refine .lib ⟨_,Tryz.func63,aeo,rfl⟩ fun c vs hs g h1 h2=>?_
 obtain ⟨v,rfl⟩:∃v,vs= #[v]:=Array.size_eq_one_iff.1 h1;have e:v= .int .i64 n:=(h2 0 aeg).bQ;subst e;have hv := ht.var (P := Tryz.prog) (name := "internal/strconv.uint64pow10") aeo hs g;refine (Tryz.strconv_Itoa n hn.1 hn.2 c.w (by unfold Lib.TabIs; rw [hv]; rfl)).mono ?_
 rintro e w' ⟨rfl,k,os,rfl⟩
 refine⟨⟨_,rfl,fun c' _=> .s _ ?_⟩,rfl,rfl,rfl,?_,fun k hk=>?_⟩
 ·grind [Lib.itoa_length_le,Nat,lim]
 ·simp
 ·show(_++os)[k]? =_
  simp_all [Array.getElem?_append,if_pos]
theorem L8(b:Bool)(h:Heap):ai Tryz.prog 128 [.b b] h fun r h' =>r= .s (Lib.formatBool b)∧h' =h:=by
 refine .lib ⟨_,Tryz.func128,aeo,rfl⟩ fun c vs hs g h1 h2=>?_
 obtain⟨v,rfl⟩:∃v,vs= #[v]:=Array.size_eq_one_iff.1 h1;have e:v= .bool b:=(h2 0 aeg).bQ;subst e;refine(Tryz.strconv_FormatBool b c.w).mono ?_
 rintro e w' ⟨rfl,rfl⟩
 exact⟨⟨_,rfl,fun c' _=> .s _ (by cases b<;>decide)⟩,.refl _ _⟩
end Go.Proofs.YtbbadggejjgihaaGreatDoor
namespace Go.Bf
open Go Go.Ab
theorem vR{α:Type}(l:List α)(i:Nat)(h:i<l.length):(l.take (i+1)).zipIdx=(l.take i).zipIdx++ [(l[i],i)]:=by
 grind [List.take_succ_eq_append_getElem,Nat.min_eq_left,Nat.le_of_lt]
theorem FB(l:Txt)(i:Nat)(h:i<l.length):vX (l.take (i+1))=(vX (l.take i) && tC l[i] i):=by
 grind [vX,vR]
theorem Ja(l:Txt)(i:Nat)(h:i<l.length)(hb:tC l[i] i=false):vX l=false:=by
 rw[vX,List.all_eq_false];exact⟨(l[i],i),aea,aea⟩
theorem OK(c:UInt8):
  (decide (97≤(c.toNat:Int))=true∧decide ((c.toNat:Int)≤122)=true∧decide (48≤(c.toNat:Int))=true∧decide ((c.toNat:Int)≤57)=false∧((c.toNat:Int)==95)=false)∨
  (decide (97≤(c.toNat:Int))=false∧decide ((c.toNat:Int)≤122)=true∧decide (48≤(c.toNat:Int))=true∧decide ((c.toNat:Int)≤57)=true∧((c.toNat:Int)==95)=false)∨
  (decide (97≤(c.toNat:Int))=false∧decide ((c.toNat:Int)≤122)=true∧decide (48≤(c.toNat:Int))=true∧decide ((c.toNat:Int)≤57)=false∧((c.toNat:Int)==95)=true)∨
  (decide (97≤(c.toNat:Int))=false∧decide ((c.toNat:Int)≤122)=true∧decide (48≤(c.toNat:Int))=false∧decide ((c.toNat:Int)≤57)=true∧((c.toNat:Int)==95)=false)∨
  (decide (97≤(c.toNat:Int))=false∧decide ((c.toNat:Int)≤122)=true∧decide (48≤(c.toNat:Int))=true∧decide ((c.toNat:Int)≤57)=false∧((c.toNat:Int)==95)=false)∨
  (decide (97≤(c.toNat:Int))=true∧decide ((c.toNat:Int)≤122)=false∧decide (48≤(c.toNat:Int))=true∧decide ((c.toNat:Int)≤57)=false∧((c.toNat:Int)==95)=false):=by
 simp only[decide_eq_true_eq,decide_eq_false_iff_not,beq_iff_eq,beq_eq_false_iff_ne,ne_eq];omega
theorem wq{α:Type}{f:α→Int}{l:List α}{i:Nat}(h:i<l.length)(h0:iD f (l.take i)=0)(h1:f l[i]=0):iD f (l.take (i+1))=0:=by
 rw[List.take_succ_eq_append_getElem h];generalize l.take i=a at h0
 induction a with
 |nil=>grind [iD]
 |cons x r ih=>
  simp only[iD]at h0;split at h0
  ·simp_all [List.cons_append,iD,if_true]
  omega
theorem A2{α:Type}{f:α→Int}{l:List α}{i:Nat}(h:i<l.length)(h0:iD f (l.take i)=0)(h1:f l[i]≠0):iD f l=f l[i]:=by
 induction l generalizing i with
 |nil=>cases h
 |cons x r ih=>
  cases i with
  |zero=>grind [iD]
  |succ i=>
   simp only[List.take_succ_cons,iD]at h0;split at h0
   ·rename_i hx
    simp only[iD,hx,if_true,List.getElem_cons_succ]
    grind
   omega
theorem Ef{e x:Int}{w:Went}(h:need e w= .bad x)(hw:w= .bad x→x≠0):x≠0:=by
 grind [need]
theorem BB{m:eO}{r:cR}{e:Int}(h:gA m r= .bad e):e≠0:=by
 grind [gA,Ef]
theorem A5{m:eO}{id:Txt}{set:Bool}{alg:Int}{tgt:gj}{nr nk:Nat}{obls:List cD}{e:Int}(h:fq m id set alg tgt nr nk obls= .bad e):e≠0:=by
 grind [fq,Ef]
theorem pT(m:eO):∀(l:List cR) (i:Nat),fG m l=(match fG m (l.take i)with
  |.bad e=> .bad e
  |.ok m1=>fG m1 (l.drop i))
 | [],i=>by simp[fG]
 |r::l,0=>aeo
 |r::l,i+1=>by
  simp only[List.take_succ_cons,List.drop_succ_cons,fG];cases gA m r with
  |bad e=>rfl
  |ok m1=>simp only;exact pT m1 l i
theorem wW{m m1:eO}{l:List cR}{i:Nat}(hi:i<l.length)(h:fG m (l.take i)= .ok m1):fG m (l.take (i+1))=gA m1 l[i]:=by
 rw[pT m _ i,List.take_take,Nat.min_eq_left ad9,h,List.take_succ_eq_append_getElem hi,List.drop_append_of_le_length aea,List.drop_of_length_le aea]
 grind [fG,gA]
theorem EP{m m1:eO}{l:List cR}{i:Nat}{e:Int}(hi:i<l.length)(h:fG m (l.take i)= .ok m1)(hr:gA m1 l[i]= .bad e):fG m l= .bad e:=by
 rw[pT m l (i+1),wW hi h,hr]
theorem qS(m:eO)(d:Nat):∀(l:List bD) (i:Nat),jb m d l=(match jb m d (l.take i)with
  |.bad e=> .bad e
  |.ok m1=>jb m1 d (l.drop i))
 | [],i=>by simp[jb]
 |r::l,0=>aeo
 |r::l,i+1=>by
  simp only[List.take_succ_cons,List.drop_succ_cons,jb];cases kU m d r with
  |bad e=>rfl
  |ok m1=>simp only;exact qS m1 d l i
theorem yS{m m1:eO}{d:Nat}{l:List bD}{i:Nat}(hi:i<l.length)(h:jb m d (l.take i)= .ok m1):jb m d (l.take (i+1))=kU m1 d l[i]:=by
 rw[qS m d _ i,List.take_take,Nat.min_eq_left ad9,h,List.take_succ_eq_append_getElem hi,List.drop_append_of_le_length aea,List.drop_of_length_le aea]
 grind [jb,kU]
theorem Gj{m m1:eO}{d:Nat}{l:List bD}{i:Nat}{e:Int}(hi:i<l.length)(h:jb m d (l.take i)= .ok m1)(hr:kU m1 d l[i]= .bad e):jb m d l= .bad e:=by
 rw[qS m d l (i+1),yS hi h,hr]
end Go.Bf
namespace Go.Proofs.YtbbadggejjgihaaGreatDoor
open Go Go.Ab Go.Bf
theorem ad8 {f:FuncId} {fn:Func} {c:Code} {args:List AV} {h:Heap} {Q:AV→Heap→Prop} (hf:Tryz.prog.funcs[f]? =some fn) (m:Nat) (rs:List ResultVar) (hk:(∀x∈args,wfA x)→bG Tryz.prog U m c (yx args) h (vV U rs Q)) (hb:fn.body=some c:=by exact rfl) (hn:(fn.name=="runtime.NumGoroutine")=false:=by kernel_rfl) (h1:fn.ntmps=m:=by exact rfl) (h2:fn.results.toList=rs:=by exact rfl) (hl:args.length≤m:=by exact Nat.le_of_ble_eq_true rfl):ai Tryz.prog f args h Q:=ai.body hU hm hf hb hn m h1 rs h2 hl hk
theorem pK(l:Txt)(h:Heap):ai Tryz.prog 96 [.s l] h fun r h' =>r= .b (bn l)∧h' =h:=by
 refine ad8 Tryz.func96 49 [.tmp 2] fun hwf=>?_
 simp only[go_sem];refine .intro (fun m ρ h' =>h' =h∧∃i:Nat,i≤l.length∧m=l.length - i∧vX (l.take i)=true∧lk ρ 0=some (.s l)∧lk ρ 8=some (.i l.length)∧lk ρ 9=some (.i i)) l.length ?_ ?_
 ·refine⟨rfl,0,ad9,rfl,rfl,?_,?_,?_⟩<;>simp only[go_sem]
 ·rintro m ρ h' ⟨rfl,i,hi,rfl,hc,r0,r8,r9⟩
  simp only[go_sem,r8,r9];refine .intro (fun e=>?_) (fun e=>?_)
  ·have hlt:i<l.length:=ad6 e
   have w1:IntKind.i64.wrap ((i:Int)+1)=((i+1:Nat):Int):=by rw[aZ _ (by have:=hwf (.s l) aeg;simp only[wfA,wf1,lim]at this;omega)];omega
   have w0:IntKind.i64.wrap (0+1)=1:=rfl;have hb:=Ja l i hlt;have hg:=FB l i hlt;rw[hc]at hg;have hcl:=OK l[i];have h255:=l[i].toNat_lt;simp only[go_sem,r0,r9];refine .at i hlt ?_;generalize hcc:l[i]=c at hb hg hcl h255⊢
   by_cases hi0:i=0
   ·subst hi0
    rcases hcl with⟨a1,a2,a3,a4,a5⟩|⟨a1,a2,a3,a4,a5⟩|⟨a1,a2,a3,a4,a5⟩|⟨a1,a2,a3,a4,a5⟩|⟨a1,a2,a3,a4,a5⟩|⟨a1,a2,a3,a4,a5⟩
    ·simp only[go_sem,r9,a1,a2,a3,a4,a5,w0]
     refine⟨_,?_,rfl,0+1,ad9,rfl,by simp[hg,tC,ltr,a1,a2],?_,?_,?_⟩
     ·omega
     all_goals simp only[go_sem,r0,r8]
    all_goals
     simp only[go_sem,a1,a2,a3,a4,a5];exact .same (.refl _) ⟨by simp[bn,hb (by simp[tC,ltr,a1,a2]),ax],rfl⟩
   ·have hin:((i:Int)==0)=false:=by simp;omega
    rcases hcl with⟨a1,a2,a3,a4,a5⟩|⟨a1,a2,a3,a4,a5⟩|⟨a1,a2,a3,a4,a5⟩|⟨a1,a2,a3,a4,a5⟩|⟨a1,a2,a3,a4,a5⟩|⟨a1,a2,a3,a4,a5⟩
    ·simp only[go_sem,r9,a1,a2,a3,a4,a5,w1]
     exact aiW
    ·simp only[go_sem,r9,a1,a3,a4,w1,hin]
     exact aiW
    ·simp only[go_sem,r9,a1,a3,a4,a5,w1,hin]
     exact aiW
    ·simp only[go_sem,a1,a3,a5,hin]
     exact .same (.refl _) ⟨afP,rfl⟩
    ·simp only[go_sem,a1,a3,a4,a5,hin]
     exact .same (.refl _) ⟨afP,rfl⟩
    ·simp only[go_sem,a1,a2,a3,a4,a5,hin]
     exact .same (.refl _) ⟨afP,rfl⟩
  ·have hge:i=l.length:=by have:=ad2 e;omega
   subst hge;rw[List.take_length]at hc
   by_cases h0:l= []
   ·subst h0
    have b0:((([]:Txt)== [])=true):=rfl;simp only[go_sem,r0,b0];exact aei
   ·have b0:(l== [])=false:=by simpa using h0
    have hp:1≤l.length:=List.length_pos_iff.2 h0;simp only[go_sem,r0,b0];exact .same (.refl _) ⟨by simp[bn,hc,ax,hp];omega,rfl⟩
theorem HB(a:qs)(h:Heap):ai Tryz.prog 307 [C3 a] h fun r h' =>r= .b (qx a)∧h' =h:=by
 refine ad8 Tryz.func307 16 [.tmp 2] fun hwf=>?_
 simp only[go_sem,C3];intro id hid;cases d1:decide (1≤a.cat)
 ·simp only[go_sem,d1]
  exact ajy
 cases d2:decide (a.cat≤4)
 ·simp only[go_sem,d1,d2]
  exact ajy
 simp only[go_sem,d1,d2];refine(pK _ _).pthen ?_;simp only[go_sem];exact ajy
theorem fV(v:bu)(h:Heap):ai Tryz.prog 99 [aS v] h fun r h' =>r= .b (bz v)∧h' =h:=by
 refine ad8 Tryz.func99 61 [.tmp 2] fun hwf=>?_
 simp only[go_sem,aS];intro id hid;cases k1:(v.kind==1)
 case true=>
  have e1:v.kind=1:=aea;cases d1:(v.n==0)<;>cases d2:(v.n==1)
  ·simp only[go_sem,k1,d1,d2]
   exact .mk _ (.refl _) (.aj hid) ⟨ahu,rfl⟩
  all_goals
   simp only[go_sem,k1,d1,d2];exact .mk _ (.refl _) (.aj hid) ⟨ahu,rfl⟩
 have n1:v.kind≠1:=aea;cases k2:(v.kind==2)
 case true=>
  have e1:v.kind=2:=aea;simp only[go_sem,k1,k2];exact .mk _ (.refl _) (.aj hid) ⟨ahu,rfl⟩
 have n2:v.kind≠2:=aea;cases k3:(v.kind==3)
 case true=>
  have e1:v.kind=3:=aea;cases d1:(v.n==0)
  all_goals
   simp only[go_sem,k1,k2,k3,d1];exact .mk _ (.refl _) (.aj hid) ⟨by simp[bz,e1,d1,ax]<;>omega,rfl⟩
 have n3:v.kind≠3:=aea;cases k4:(v.kind==4)
 case true=>
  have e1:v.kind=4:=aea;cases d1:decide (0≤v.n)<;>cases d2:decide (v.n≤1099511627776)
  all_goals
   simp only[go_sem,k1,k2,k3,k4,d1,d2];exact .mk _ (.refl _) (.aj hid) ⟨ahu,rfl⟩
 have n4:v.kind≠4:=aea;cases k5:(v.kind==5)
 case true=>
  have e1:v.kind=5:=aea;cases d1:(v.n==0)
  ·simp only[go_sem,k1,k2,k3,k4,k5,d1]
   exact .mk _ (.refl _) (.aj hid) ⟨ahu,rfl⟩
  ·simp only[go_sem,k1,k2,k3,k4,k5,d1]
   refine(pK _ _).pthen ?_;simp only[go_sem];exact .mk _ (.refl _) (.aj hid) ⟨ahu,rfl⟩
 have n5:v.kind≠5:=aea;simp only[go_sem,k1,k2,k3,k4,k5];exact .mk _ (.refl _) (.aj hid) ⟨ahu,rfl⟩
theorem MK(m:bP)(h:Heap):ai Tryz.prog 306 [dR m] h fun r h' =>r= .b (kZ m)∧h' =h:=by
 refine ad8 Tryz.func306 21 [.tmp 2] fun hwf=>?_
 simp only[go_sem,dR];intro id hid;simp only[go_sem];refine(HB m.attr _).pthen ?_;cases d0:qx m.attr
 ·simp only[go_sem]
  exact ai8
 cases d1:decide (1≤m.op)
 ·simp only[go_sem,d1]
  exact ai8
 cases d2:decide (m.op≤3)
 ·simp only[go_sem,d1,d2]
  exact ai8
 simp only[go_sem,d1,d2];refine(fV m.val _).pthen ?_;simp only[go_sem];exact ai8
theorem Ie(n:Nat)(h:Heap):ai Tryz.prog 290 [.i n] h fun r h' =>r= .i (kJ n)∧h' =h:=by
 refine ad8 Tryz.func290 9 [.tmp 2] fun hwf=>?_
 cases d1:((n:Int)==0)
 case true=>
  simp only[go_sem,d1];exact .same (.refl _) ⟨by grind [kJ,ax],rfl⟩
 cases d2:decide (8<(n:Int))
 ·have e2:¬n>8:=by grind
  exact ajP
 ·have e2:n>8:=by grind
  exact ajP
theorem Eb{n:Nat}(h:kJ n=0):1≤n∧n≤8:=by
 grind [kJ]
theorem Ls(l:List bP)(h:Heap):ai Tryz.prog 291 [jj l] h fun r h' =>r= .i (xo l)∧h' =h:=by
 refine ad8 Tryz.func291 22 [.tmp 2] fun hwf=>?_
 simp only[go_sem,jj,adZ];refine(Ie _ _).pthen ?_;cases d1:(kJ l.length !=0)
 case true=>
  have e1:kJ l.length≠0:=aea;simp only[go_sem,d1];exact .same (.refl _) ⟨by grind [xo,ax],rfl⟩
 have e1:kJ l.length=0:=aea;have hlen:=Eb e1;simp only[go_sem,d1,adZ];refine .intro (fun m ρ h' =>Ab.Sub h h'∧∃i:Nat,i≤l.length∧m=l.length - i∧(l.take i).all kZ=true∧lk ρ 12=some (jj l)∧lk ρ 13=some (.i l.length)∧lk ρ 14=some (.i i)) l.length ?_ ?_
 ·refine⟨.refl _,0,ad9,rfl,rfl,?_,?_,?_⟩<;>simp only[go_sem,jj]
 ·rintro m ρ h' ⟨hs,i,hi,rfl,hc,r12,r13,r14⟩
  simp only[go_sem,r13,r14];refine .intro (fun e=>?_) (fun e=>?_)
  ·have hlt:i<l.length:=ad6 e
   have w1:IntKind.i64.wrap ((i:Int)+1)=((i+1:Nat):Int):=aek;simp only[go_sem,r12,r14,jj];refine .at i aea aen ?_;simp only[go_sem,ad0,dR];intro id hid;simp only[go_sem];refine(MK l[i] _).pthen ?_;cases d2:kZ l[i]
   ·simp only[go_sem]
    refine .mk _ (.refl _) (hs.new hid _) ⟨?_,rfl⟩;have:l.all kZ=false:=List.all_eq_false.2 ⟨_,ad4 hlt,aea⟩;simp[xo,e1,this,ax]
   ·simp only[go_sem,r14,w1]
    refine⟨_,?_,hs.new hid _,i+1,ad9,rfl,?_,?_,?_,?_⟩
    ·omega
    ·grind [List.take_succ_eq_append_getElem]
    all_goals simp only[go_sem,r12,r13,jj]
  ·have hge:i=l.length:=by grind
   subst hge;rw[List.take_length]at hc;simp only[go_sem];exact .mk _ (.refl _) hs ⟨by grind [xo,ax],rfl⟩
theorem Lu(l:List (List bP))(h:Heap):ai Tryz.prog 267 [cX l] h fun r h' =>r= .i (xp l)∧h' =h:=by
 refine ad8 Tryz.func267 25 [.tmp 2] fun hwf=>?_
 simp only[go_sem,cX,adZ];refine(Ie _ _).pthen ?_;cases d1:(kJ l.length !=0)
 case true=>
  have e1:kJ l.length≠0:=aea;simp only[go_sem,d1];exact .same (.refl _) ⟨by grind [xp,ax],rfl⟩
 have e1:kJ l.length=0:=aea;have hlen:=Eb e1;simp only[go_sem,d1,adZ];refine .intro (fun m ρ h' =>Ab.Sub h h'∧∃i:Nat,i≤l.length∧m=l.length - i∧iD xo (l.take i)=0∧lk ρ 13=some (cX l)∧lk ρ 14=some (.i l.length)∧lk ρ 15=some (.i i)) l.length ?_ ?_
 ·refine⟨.refl _,0,ad9,rfl,rfl,?_,?_,?_⟩<;>simp only[go_sem,cX]
 ·rintro m ρ h' ⟨hs,i,hi,rfl,hc,r12,r13,r14⟩
  simp only[go_sem,r13,r14];refine .intro (fun e=>?_) (fun e=>?_)
  ·have hlt:i<l.length:=ad6 e
   have w1:IntKind.i64.wrap ((i:Int)+1)=((i+1:Nat):Int):=aek;simp only[go_sem,r12,r14,cX];refine .at i aea aen ?_;simp only[go_sem,ad0,jj];refine(Ls l[i] _).pthen ?_;cases d2:(xo l[i] !=0)
   ·have e2:xo l[i]=0:=by grind
    simp only[go_sem,r14,d2,w1];refine⟨_,?_,hs,i+1,ad9,rfl,wq hlt hc e2,?_,?_,?_⟩
    ·omega
    all_goals simp only[go_sem,r12,r13,cX]
   ·have e2:xo l[i]≠0:=by grind
    simp only[go_sem,d2];refine .mk _ (.refl _) hs ⟨?_,rfl⟩
    grind [xp,A2,ax]
  ·have hge:i=l.length:=by grind
   subst hge;rw[List.take_length]at hc;simp only[go_sem];exact .mk _ (.refl _) hs ⟨by grind [xp,ax],rfl⟩
theorem vH(l:gj)(h:Heap):ai Tryz.prog 236 [aV l] h fun r h' =>r= .i (lU l)∧h' =h:=by
 refine ad8 Tryz.func236 21 [.tmp 2] fun hwf=>?_
 cases d1:decide (8<(l.length:Int))
 case true=>
  have e1:8<l.length:=aea;simp only[go_sem,aV,adZ,d1];exact .same (.refl _) ⟨by grind [lU,ax],rfl⟩
 have e1:¬8<l.length:=aea;simp only[go_sem,d1,aV,adZ];refine .intro (fun m ρ h' =>Ab.Sub h h'∧∃i:Nat,i≤l.length∧m=l.length - i∧iD xp (l.take i)=0∧lk ρ 9=some (aV l)∧lk ρ 10=some (.i l.length)∧lk ρ 11=some (.i i)) l.length ?_ ?_
 ·refine⟨.refl _,0,ad9,rfl,rfl,?_,?_,?_⟩<;>simp only[go_sem,aV]
 ·rintro m ρ h' ⟨hs,i,hi,rfl,hc,r12,r13,r14⟩
  simp only[go_sem,r13,r14];refine .intro (fun e=>?_) (fun e=>?_)
  ·have hlt:i<l.length:=ad6 e
   have w1:IntKind.i64.wrap ((i:Int)+1)=((i+1:Nat):Int):=aek;simp only[go_sem,r12,r14,aV];refine .at i aea aen ?_;simp only[go_sem,ad0,cX];refine(Lu l[i] _).pthen ?_;cases d2:(xp l[i] !=0)
   ·have e2:xp l[i]=0:=by grind
    simp only[go_sem,r14,d2,w1];refine⟨_,?_,hs,i+1,ad9,rfl,wq hlt hc e2,?_,?_,?_⟩
    ·omega
    all_goals simp only[go_sem,r12,r13,aV]
   ·have e2:xp l[i]≠0:=by grind
    simp only[go_sem,d2];refine .mk _ (.refl _) hs ⟨?_,rfl⟩
    grind [lU,A2,ax]
  ·have hge:i=l.length:=by grind
   subst hge;rw[List.take_length]at hc;simp only[go_sem];exact .mk _ (.refl _) hs ⟨by grind [lU,ax],rfl⟩
theorem Cw(l:List cD)(h:Heap):ai Tryz.prog 237 [ay l] h fun r h' =>r= .i (iG l)∧h' =h:=by
 refine ad8 Tryz.func237 39 [.tmp 2] fun hwf=>?_
 cases d1:decide (8<(l.length:Int))
 case true=>
  have e1:8<l.length:=aea;simp only[go_sem,ay,adZ,d1];exact .same (.refl _) ⟨by grind [iG,ax],rfl⟩
 have e1:¬8<l.length:=aea;simp only[go_sem,d1,ay,adZ];refine .intro (fun m ρ h' =>Ab.Sub h h'∧∃i:Nat,i≤l.length∧m=l.length - i∧(l.take i).all qV=true∧lk ρ 8=some (ay l)∧lk ρ 9=some (.i l.length)∧lk ρ 10=some (.i i)) l.length ?_ ?_
 ·refine⟨.refl _,0,ad9,rfl,rfl,?_,?_,?_⟩<;>simp only[go_sem,ay]
 ·rintro m ρ h' ⟨hs,i,hi,rfl,hc,r12,r13,r14⟩
  simp only[go_sem,r13,r14];refine .intro (fun e=>?_) (fun e=>?_)
  ·have hlt:i<l.length:=ad6 e
   have w1:IntKind.i64.wrap ((i:Int)+1)=((i+1:Nat):Int):=aek;simp only[go_sem,r12,r14,ay];refine .at i aea aen ?_;simp only[go_sem,ad0,bt];intro id hid;have bad:qV l[i]=false→iG l=1:=fun hb=>by
    have:l.all qV=false:=List.all_eq_false.2 ⟨_,ad4 hlt,aea⟩;simp[iG,e1,this]
   cases c1:decide (l[i].on<1)
   case true=>
    simp only[go_sem,c1];exact .mk _ (.refl _) (hs.new hid _) ⟨by rw[bad (by have:=ad1 c1;simp[qV];omega)];rfl,rfl⟩
   cases c2:decide (2<l[i].on)
   case true=>
    simp only[go_sem,c1,c2];exact .mk _ (.refl _) (hs.new hid _) ⟨by rw[bad (by have:=ad1 c2;simp[qV];omega)];rfl,rfl⟩
   cases c3:decide (l[i].kind<1)
   case true=>
    simp only[go_sem,c1,c2,c3];exact .mk _ (.refl _) (hs.new hid _) ⟨by rw[bad (by have:=ad1 c3;simp[qV];omega)];rfl,rfl⟩
   cases c4:decide (4<l[i].kind)
   case true=>
    simp only[go_sem,c1,c2,c3,c4];exact .mk _ (.refl _) (hs.new hid _) ⟨by rw[bad (by have:=ad1 c4;simp[qV];omega)];rfl,rfl⟩
   simp only[go_sem,c1,c2,c3,c4];refine(pK _ _).pthen ?_;cases d2:bn l[i].arg
   ·simp only[go_sem]
    exact .mk _ (.refl _) (hs.new hid _) ⟨by rw[bad (by grind [qV])];rfl,rfl⟩
   ·simp only[go_sem,r14,w1]
    refine⟨_,?_,hs.new hid _,i+1,ad9,rfl,?_,?_,?_,?_⟩
    ·omega
    ·grind [ad2,List.take_succ_eq_append_getElem,qV]
    all_goals simp only[go_sem,r12,r13,ay]
  ·have hge:i=l.length:=by grind
   subst hge;rw[List.take_length]at hc;simp only[go_sem];exact .mk _ (.refl _) hs ⟨by grind [iG,ax],rfl⟩
theorem N8(op:Int)(h:Heap):ai Tryz.prog 292 [.i op] h fun r h' =>r=(match iP op with
  |none=> .tup [.sl [] .no,.b false]
  |some w=> .tup [.sl (w.map jY) .no,.b true])∧h' =h:=by
 refine ad8 Tryz.func292 35 [.tmp 2,.tmp 3] fun hwf=>?_
 cases k1:(op==1)
 case true=>
  have e1:op=1:=aea;simp only[go_sem,k1];exact .mk _ (fI _) (.refl _) ⟨ahz,rfl⟩
 have n1:op≠1:=aea;cases k2:(op==2)
 case true=>
  have e1:op=2:=aea;simp only[go_sem,k1,k2];exact .mk _ (fI _) (.refl _) ⟨ahz,rfl⟩
 have n2:op≠2:=aea;cases k3:(op==3)
 case true=>
  have e1:op=3:=aea;simp only[go_sem,k1,k2,k3];exact .mk _ (fI _) (.refl _) ⟨agp,rfl⟩
 have n3:op≠3:=aea;cases k4:(op==4)
 case true=>
  have e1:op=4:=aea;simp only[go_sem,k1,k2,k3,k4];exact .mk _ (fI _) (.refl _) ⟨agp,rfl⟩
 have n4:op≠4:=aea;cases k5:(op==5)
 case true=>
  have e1:op=5:=aea;simp only[go_sem,k1,k2,k3,k4,k5];exact .mk _ (fI _) (.refl _) ⟨agp,rfl⟩
 have n5:op≠5:=aea;cases k11:(op==11)
 case true=>
  have e1:op=11:=aea;simp only[go_sem,k1,k2,k3,k4,k5,k11];exact .mk _ (fI _) (.refl _) ⟨agp,rfl⟩
 have n11:op≠11:=aea;cases k6:decide (6≤op)
 ·have n6:=ad2 k6
  simp only[go_sem,k1,k2,k3,k4,k5,k11,k6];exact .mk _ (fI _) (.refl _) ⟨ahz,rfl⟩
 cases k13:decide (op≤13)
 ·have n13:=ad2 k13
  simp only[go_sem,k1,k2,k3,k4,k5,k11,k6,k13];exact .mk _ (fI _) (.refl _) ⟨ahz,rfl⟩
 have n6:=ad1 k6;have n13:=ad1 k13;simp only[go_sem,k1,k2,k3,k4,k5,k11,k6,k13];exact .mk _ (fI _) (.refl _) ⟨agp,rfl⟩
theorem Jv(n:aR)(h:Heap):ai Tryz.prog 293 [dL n] h fun r h' =>r= .b (j0 n)∧h' =h:=by
 refine ad8 Tryz.func293 37 [.tmp 2] fun hwf=>?_
 simp only[go_sem,dL];intro id hid;have fa:∀x y z:Bool,(x && (y && (z && true)))=(x && (y && (z && true))):=fun _ _ _=>rfl
 cases k1:(n.op==1)
 case true=>
  have e1:n.op=1:=aea;simp only[go_sem,k1];refine(fV n.val _).pthen ?_;cases d0:bz n.val
  ·simp only[go_sem]
   exact ajz
  ·simp only[go_sem]
   exact .mk _ (.refl _) (.aj hid) ⟨by grind [j0,ax,zeroAt],rfl⟩
 have n1:n.op≠1:=aea;cases k2:(n.op==2)
 case true=>
  have e1:n.op=2:=aea;simp only[go_sem,k1,k2];refine(HB n.attr _).pthen ?_;cases d0:qx n.attr
  ·simp only[go_sem]
   exact ajz
  ·simp only[go_sem]
   exact .mk _ (.refl _) (.aj hid) ⟨by grind [j0,ax,zeroV],rfl⟩
 have n2:n.op≠2:=aea;cases d0:zeroV n.val
 ·have d1:=d0
  unfold zeroV at d1;simp only[go_sem,k1,k2,d1];exact ajz
 ·have d1:=d0
  unfold zeroV at d1;simp only[go_sem,k1,k2,d1];exact .mk _ (.refl _) (.aj hid) ⟨by grind [j0,ax,zeroAt],rfl⟩
theorem u4:(U 4).sz=1:=aeo
theorem u4a:(U 4).k.agg=false:=aeo
theorem u4b:(U 4).bytes=1:=aeo
theorem u4f:fit (U 4).zero 1:=aej
theorem u4n:bA (U 4).zero=false:=aeo
theorem HC(l:List Bool):One (l.map jY):=One.map (fun _=>rfl) l
theorem Qe(y:AV)(st:List Bool)(n:aR)(h0 h:Heap)(hy:WrA 4 h0 h y (st.map jY))(hl:st.length≤1000000):
  ai Tryz.prog 268 [y,dL n] h fun r h' =>∃z,r= .tup [z,.v (.bool (iN st n).isSome)]∧match iN st n with
   |none=>Ab.Sub h0 h'
   |some st' =>WrA 4 h0 h' z (st'.map jY):=by
 refine ad8 Tryz.func268 60 [.tmp 4,.tmp 5] fun hwf=>?_
 simp only[go_sem,dL];intro id hid;simp only[go_sem];have hyb:=hy.base hid (some (.obj [.i n.op,.i n.val.kind,.i n.val.n,.s n.val.s,.i n.attr.cat,.s n.attr.name,.b n.attr.must] 172));have hw:=N8 n.op (upd h id (some (.obj [.i n.op,.i n.val.kind,.i n.val.n,.s n.val.s,.i n.attr.cat,.s n.attr.name,.b n.attr.must] 172)));cases hwd:iP n.op with
 |none=>
  rw[hwd]at hw;have hst:iN st n=none:=by grind [iN]
  refine hw.pthen ?_;exact ajZ
 |some w=>
  rw[hwd]at hw;have hwl:w.length≤2:=by
   grind [iP]
  refine hw.pthen ?_;simp only[go_sem];refine(Jv n _).pthen ?_;cases d1:j0 n
  ·have hst:iN st n=none:=by grind [iN]
   exact ajZ
  cases d2:decide ((st.length:Int)<(w.length:Int))
  case true=>
   have e2:¬w.length≤st.length:=aea;have hst:iN st n=none:=by grind [iN]
   simp only[go_sem,hyb.len,adZ,d2];exact .mk _ (.refl _) (.aj hid) ⟨_,ah8,ahS⟩
  have e2:w.length≤st.length:=aea;have w1:IntKind.i64.wrap ((st.length:Int) - (w.length:Int))=((st.length - w.length:Nat):Int):=aek;obtain⟨hb,ehb⟩:∃hb,upd h id (some (.obj [.i n.op,.i n.val.kind,.i n.val.n,.s n.val.s,.i n.attr.cat,.s n.attr.name,.b n.attr.must] 172))=hb:=⟨_,rfl⟩;have hbid:hb id=some (.obj [.i n.op,.i n.val.kind,.i n.val.n,.s n.val.s,.i n.attr.cat,.s n.attr.name,.b n.attr.must] 172):=ahA;have hsub:Ab.Sub h hb:=by rw[←ehb];exact .aj hid
  rw[ehb]at hyb⊢;simp only[go_sem,hyb.len,adZ,d2,w1];refine .intro (fun m ρ h' =>h' =hb∧∃i:Nat,i≤w.length∧m=w.length - i∧(∀j,j<i→st[st.length - w.length+j]? =w[j]?)∧lk ρ 0=some y∧lk ρ 3=some (.ptr id 0)∧lk ρ 8=some (.i ((st.length - w.length:Nat):Int))∧lk ρ 36=some (.sl (w.map jY) .no)∧lk ρ 37=some (.i w.length)∧lk ρ 38=some (.i i)) w.length ?_ ?_
  ·refine⟨rfl,0,ad9,rfl,fun j hj=>ad9,?_,?_,?_,?_,?_,?_⟩<;>simp only[go_sem]
  ·rintro m ρ h' ⟨rfl,i,hi,rfl,hc,r0,r3,r8,r36,r37,r38⟩
   simp only[go_sem,r37,r38];refine .intro (fun e=>?_) (fun e=>?_)
   ·have hlt:i<w.length:=ad6 e
    have w2:IntKind.i64.wrap ((i:Int)+1)=((i+1:Nat):Int):=aek;have w3:IntKind.i64.wrap (((st.length - w.length:Nat):Int)+(i:Int))=((st.length - w.length+i:Nat):Int):=aek;have hlt2:st.length - w.length+i<st.length:=ad9;simp only[go_sem,r36,r38];refine .at i aea aen ?_;simp only[go_sem,r0,r8,ad0,jY,w3];refine hyb.idx (HC st) (st.length - w.length+i) rfl aea u4 u4a fun p hp=>?_
    simp only[go_sem,hp _,ad0,jY];cases d3:(st[st.length - w.length+i]==w[i])
    ·have hst:iN st n=none:=by
      have:st.drop (st.length - w.length)≠w:=fun hh=>by
       grind
      simp[iN,hwd,this]
     simp only[go_sem];exact .mk _ (.refl _) hsub ⟨_,ah8,ahS⟩
    ·simp only[go_sem,r38,w2]
     refine⟨_,?_,rfl,i+1,ad9,rfl,fun j hj=>?_,?_,?_,?_,?_,?_,?_⟩
     ·omega
     ·grind
     all_goals simp only[go_sem,r0,r3,r8,r36,r37]
   ·have hge:i=w.length:=by grind
    subst hge;have hdrop:st.drop (st.length - w.length)=w:=by
     apply List.ext_getElem?
     grind
    have hst:iN st n=some (st.take (st.length - w.length)++ [n.op==2]):=by
     grind [iN]
    simp only[go_sem];refine .calls (hm1 id _) [0,1,2,3,4,5,6,7,8,9] (.hm1 hbid) aec rfl ?_;simp only[go_sem,r0,r8];refine hyb.cut (x:=.i64) (st.length - w.length) aeo rfl aeg u4 fun z hz=>?_
    rw[←List.map_take]at hz;simp only[go_sem,r3,gp];refine hz.app (zs:=[.b (n.op==2)]) (HC _) (HC [n.op==2]) u4 aed u4f u4n (fun k hk=>hk) (by grind [u4b]) fun z' h2 hz' =>?_
    refine⟨fun j b hj=>((Sub.hm1 (ah ..)).trans hz'.1) j b hj,?_⟩
    simp only[go_sem];have hz2:=hz'.less (Sub.aj (hy.1.none hid));refine .same (.refl _) ⟨z',ah8,?_⟩;rw[hst];simp only[List.map_append];exact hz2
theorem FG{l:List aR}(h:l.length≤32)(hs:fX [] l=none):kI l=1:=by
 grind [kI,Nat.not_lt]
theorem ku(st:List Bool):∀(l:List aR) (i:Nat),fX st l=(match fX st (l.take i)with
  |none=>none
  |some st' =>fX st' (l.drop i))
 | [],i=>by simp[fX]
 |n::r,0=>aeo
 |n::r,i+1=>by
  simp only[List.take_succ_cons,List.drop_succ_cons,fX];cases iN st n with
  |none=>rfl
  |some st' =>simp only;exact ku st' r i
theorem sr(st st' :List Bool)(l:List aR)(h:fX st l=some st'):st'.length≤st.length+l.length:=by
 induction l generalizing st with
 |nil=>grind [fX,Option.some.injEq]
 |cons n r ih=>
  simp only[fX]at h;cases hs:iN st n with
  |none=>grind
  |some s2=>
   grind [iN]
theorem HL(l:List aR)(h:Heap):ai Tryz.prog 238 [fE l] h fun r h' =>r= .i (kI l)∧h' =h:=by
 refine ad8 Tryz.func238 38 [.tmp 2] fun hwf=>?_
 cases d1:decide (32<(l.length:Int))
 case true=>
  have e1:32<l.length:=aea;simp only[go_sem,fE,adZ,d1];exact .same (.refl _) ⟨by grind [kI,ax],rfl⟩
 have e1:l.length≤32:=aea;simp only[go_sem,fE,adZ,d1];refine .intro (fun m ρ h' =>∃(i:Nat) (y:AV) (st:List Bool),WrA 4 h h' y (st.map jY)∧fX [] (l.take i)=some st∧i≤l.length∧m=l.length - i∧
  lk ρ 0=some (fE l)∧lk ρ 3=some y∧lk ρ 10=some (fE l)∧lk ρ 11=some (.i l.length)∧lk ρ 12=some (.i i)) l.length ?_ ?_
 ·refine⟨0,_,[],.nil (.refl _),rfl,ad9,rfl,?_,?_,?_,?_,?_⟩<;>simp only[go_sem,fE]
 ·rintro m ρ h' ⟨i,y,st,hy,hst,hi,rfl,r0,r3,r10,r11,r12⟩
  have hsl:=sr _ _ _ hst;have hsl:st.length≤i:=aea;simp only[go_sem,r11,r12];refine .intro (fun e=>?_) (fun e=>?_)
  ·have hlt:i<l.length:=ad6 e
   have w1:IntKind.i64.wrap ((i:Int)+1)=((i+1:Nat):Int):=aek;have hnx:fX [] (l.take (i+1))=iN st l[i]:=by
    rw[ku [] _ i,List.take_take,Nat.min_eq_left ad9,hst,List.take_succ_eq_append_getElem hlt,List.drop_append_of_le_length aea,List.drop_of_length_le aea]
    grind [fX,iN]
   simp only[go_sem,r10,r12,fE];refine .at i aea aen ?_;simp only[go_sem,ad0,dL];intro id hid;simp only[go_sem,r3];have hyb:=hy.sub (Sub.aj (k:=some (.obj [.i l[i].op,.i l[i].val.kind,.i l[i].val.n,.s l[i].val.s,.i l[i].attr.cat,.s l[i].attr.name,.b l[i].attr.must] 172)) hid);refine(Qe y st l[i] h _ hyb ad9).mono fun r h2 ⟨z,e2,hz⟩=>?_
   subst e2;cases hsd:iN st l[i]with
   |none=>
    rw[hsd]at hz;simp only[go_sem,Option.isSome_none];refine .mk _ (.refl _) hz ⟨?_,rfl⟩;rw[FG e1 (by rw[ku [] l (i+1),hnx,hsd])];rfl
   |some st' =>
    rw[hsd]at hz hnx;simp only[go_sem,r12,Option.isSome_some,w1];refine⟨_,?_,i+1,z,st',hz,hnx,ad9,rfl,?_,?_,?_,?_,?_⟩
    ·omega
    all_goals simp only[go_sem,r0,r10,r11,fE]
  ·have hge:i=l.length:=by grind
   subst hge;rw[List.take_length]at hst;have he:kI l=if l= []∨st= [false]then 0 else 1:=by
    simp_all [kI,if_neg]
   cases d2:decide (0<(l.length:Int))
   ·have e2:l= []:=by simp_all
    simp only[go_sem,r0,fE,adZ,d2];exact .mk _ (.refl _) hy.1 ⟨by rw[he,if_pos (.inl e2)];rfl,rfl⟩
   have e2:l≠ []:=aea;cases d3:((st.length:Int) !=1)
   case true=>
    have e3:st≠ [false]:=aea;simp only[go_sem,r0,r3,fE,adZ,d2,hy.len,d3];exact .mk _ (.refl _) hy.1 ⟨by rw[he,if_neg aea];rfl,rfl⟩
   have e3:st.length=1:=by
    grind
   obtain⟨b,rfl⟩:=List.length_eq_one_iff.1 e3;simp only[go_sem,r0,r3,fE,adZ,d2,hy.len];refine hy.idx (HC [b]) 0 rfl aeg u4 u4a fun p hp=>?_
   simp only[go_sem,hp _,jY,List.getElem_cons_zero];cases b
   ·simp only[go_sem]
    exact .mk _ (.refl _) hy.1 ⟨by rw[he,if_pos (.inr rfl)];rfl,rfl⟩
   ·simp only[go_sem]
    exact .mk _ (.refl _) hy.1 ⟨by rw[he,if_neg aea];rfl,rfl⟩
end Go.Proofs.YtbbadggejjgihaaGreatDoor
namespace Go.Bf
open Go Go.Ab
theorem Pt(xs:List Txt)(B:Nat)(h:∀x∈xs,x.length≤B):Lib.lens xs≤xs.length*B:=by
 induction xs with
 |nil=>simp[Lib.lens]
 |cons x r ih=>
  have h1:=h x aeg;have h2:=ih fun y hy=>h y aea
  simp only[Lib.lens,List.map_cons,List.sum_cons,List.length_cons,Nat.add_mul,Nat.one_mul]at h2⊢;omega
theorem FW(xs:List Txt)(n B:Nat)(hn:xs.length≤n)(h:∀x∈xs,x.length≤B):xs.flatten.length≤n*B:=by
 have h2:=Pt xs B h;have h3:xs.length*B≤n*B:=Nat.mul_le_mul_right _ hn;have h4:xs.flatten.length=Lib.lens xs:=by rw[List.length_flatten];rfl
 omega
theorem Bi{s:Txt}(h:bn s=true):s.length≤16:=by
 grind [bn]
theorem Bt(l:Txt)(h:l.length≤64):(ov l).length≤194:=by
 have:=FW (l.map ou) 64 3 aea fun x hx=>by
  grind [ou]
 unfold ov;simp only[ad3,List.length_cons,List.length_nil];omega
theorem Qt{v:bu}(h:bz v=true)(h1: -9223372036854775808≤v.n)(h2:v.n≤9223372036854775807):(kG v).length≤194:=by
 have hi:=Lib.itoa_length_le v.n h1 h2;unfold kG;unfold bz at h;split
 ·cases (v.n==1)<;>decide
 split
 ·simp only[ad3,List.length_cons,List.length_nil];omega
 split
 ·rename_i k5
  simp only[k5]at h;simp at h;have:=Bi h.2;simp only[ad3,List.length_cons,List.length_nil];omega
 split
 ·rename_i k3
  simp only[k3]at h;simp at h;exact Bt _ h.2
 ·omega
theorem kT{l:List cD}(h:iG l=0):l.length≤8∧∀o∈l,qV o=true:=by
 grind [iG,List.all_eq_true]
theorem ze{n:Nat}(h:kJ n=0):0<n∧n≤8:=by
 grind [kJ]
theorem wu{α:Type}{f:α→Int}{l:List α}(h:iD f l=0):∀x∈l,f x=0:=by
 induction l with
 |nil=>simp
 |cons y r ih=>
  simp only[iD]at h
  grind
theorem AL{l:List bP}(h:xo l=0):0<l.length∧l.length≤8∧∀m∈l,kZ m=true:=by
 unfold xo at h;split at h
 ·simp_all [ze,List.all_eq_true]
 omega
theorem AM{l:List (List bP)}(h:xp l=0):0<l.length∧l.length≤8∧∀m∈l,xo m=0:=by
 unfold xp at h;split at h
 ·rename_i hm
  have:=ze hm;exact⟨this.1,this.2,wu h⟩
 omega
theorem BI{l:gj}(h:lU l=0):l.length≤8∧∀m∈l,xp m=0:=by
 grind [lU,wu]
def inV(v:bu):Prop:= -9223372036854775808≤v.n∧v.n≤9223372036854775807
def inA(l:List bP):Prop:=∀m∈l,inV m.val
def inY(l:List (List bP)):Prop:=∀a∈l,inA a
def inT(t:gj):Prop:=∀a∈t,inY a
def inL(l:List aR):Prop:=∀n∈l,inV n.val
def inR(r:cR):Prop:=inT r.tgt∧inL r.cond
mutual
def inP:bD→Prop
 |.mk id set alg tgt rules kids obls=>inT tgt∧(∀r∈rules,inR r)∧inK kids
def inK:List bD→Prop
 | []=>True
 |k::r=>inP k∧inK r
end
theorem SB:∀l:List bD,inK l↔∀k∈l,inP k
 | []=>by simp[inK]
 |k::r=>by simp[inK,SB r]
theorem yA{l:List aR}(h:kI l=0)(hn:l≠ []):l.length≤32∧fX [] l=some [false]:=by
 grind [kI]
def EO(r:cR):Prop:=bn r.id=true∧lU r.tgt=0∧kI r.cond=0∧iG r.obls=0
mutual
def mF(d:Nat):bD→Prop
 |.mk id set alg tgt rules kids obls=>d≤4∧bn id=true∧1≤alg∧alg≤6∧(set=true→rules= [])∧(set=false→kids= []∧alg≠4)∧lU tgt=0∧iG obls=0∧rules.length≤16∧kids.length≤16∧(∀r∈rules,EO r)∧wI (d+1) kids
def wI(d:Nat):List bD→Prop
 | []=>True
 |k::r=>mF d k∧wI d r
end
theorem qR(d:Nat):∀l:List bD,wI d l↔∀k∈l,mF d k
 | []=>by simp[wI]
 |k::r=>by simp[wI,qR d r]
theorem zf{m m' :eO}{s:Txt}(h:jv m s=some m'):bn s=true:=by
 grind [jv]
theorem qU{e:Int}{w:Went}{m:eO}(h:need e w= .ok m):e=0∧w= .ok m:=by
 grind [need]
theorem Nt{m m' :eO}{r:cR}(h:gA m r= .ok m'):EO r:=by
 unfold gA at h;split at h
 ·cases h
 ·rename_i m1 hm
  split at h
  ·cases h
  ·obtain⟨h1,h⟩:=qU h
   obtain⟨h2,h⟩:=qU h;obtain⟨h3,h⟩:=qU h;exact⟨zf hm,h1,h2,h3⟩
theorem BC:∀(l:List cR) (m m' :eO),fG m l= .ok m'→∀r∈l,EO r
 | [],_,_,_,r,hr=>aea
 |x::l,m,m',h,r,hr=>by
  simp only[fG]at h;cases hx:gA m x with
  |bad e=>grind
  |ok m1=>
   rw[hx]at h;rcases List.mem_cons.1 hr with rfl|hr
   ·exact Nt hx
   ·exact BC l m1 m' h r hr
theorem JU{m m1:eO}{id:Txt}{set:Bool}{alg:Int}{tgt:gj}{nr nk:Nat}{obls:List cD}(h:fq m id set alg tgt nr nk obls= .ok m1):
  jv m id=some m1∧1≤alg∧alg≤6∧(set=true→nr=0)∧(set=false→nk=0∧alg≠4)∧lU tgt=0∧iG obls=0∧nr≤16∧nk≤16:=by
 unfold fq at h;split at h
 ·cases h
 split at h
 ·cases h
 split at h
 ·cases h
 obtain⟨h3,h⟩:=qU h;obtain⟨h4,h⟩:=qU h
 grind
mutual
theorem Iu:∀(p:bD) (d:Nat) (m m' :eO),kU m d p= .ok m'→mF d p
 |.mk id set alg tgt rules kids obls,d,m,m',h=>by
  simp only[kU]at h;split at h
  ·cases h
  rename_i hd
  split at h
  ·cases h
  rename_i m1 h1
  split at h
  ·cases h
  rename_i m2 h2
  obtain⟨g1,g2,g3,g4,g5,g6,g7,g8,g9⟩:=JU h1;simp only[mF];exact⟨ad9,zf g1,g2,g3,fun e=>List.length_eq_zero_iff.1 (g4 e),fun e=>⟨List.length_eq_zero_iff.1 (g5 e).1,(g5 e).2⟩,g6,g7,g8,g9,BC _ _ _ h2,DW kids (d+1) m2 m' h⟩
theorem DW:∀(l:List bD) (d:Nat) (m m' :eO),jb m d l= .ok m'→wI d l
 | [],_,_,_,_=>by simp[wI]
 |k::r,d,m,m',h=>by
  simp only[jb]at h;split at h
  ·cases h
  rename_i m1 h1
  simp only[wI];exact⟨Iu k d m m1 h1,DW r d m1 m' h⟩
end
end Go.Bf
namespace Go.Proofs.YtbbadggejjgihaaGreatDoor
open Go Go.Ab Go.Bf
def Quoted:Prop:=∀(s:Txt) (h:Heap),s.length≤64→ai Tryz.prog 129 [.s s] h fun r h' =>r= .s (ov s)∧h' =h
def zX(v:bu):Txt:=if bz v then Bf.kG v else []
theorem N7(Q:Quoted)(v:bu)(hi:inV v)(h:Heap)(ht:xm h):ai Tryz.prog 64 [aS v] h fun r h' =>r= .s (zX v)∧h' =h:=by
 refine ad8 Tryz.func64 33 [.tmp 2] fun hwf=>?_
 simp -implicitDefEqProofs only[go_sem,aS];intro id hid;have ht2:xm (upd h id (some (.obj [.i v.kind,.i v.n,.s v.s] 32))):=ht.sub (.aj hid);simp -implicitDefEqProofs only[go_sem];refine(fV v _).pthen ?_;cases d1:bz v
 ·simp -implicitDefEqProofs only[go_sem,d1]
  exact .mk _ (.refl _) (.aj hid) ⟨by grind [zX,ax],rfl⟩
 have hl:lim=9223372036854775808:=rfl;have hil:=Lib.itoa_length_le v.n hi.1 hi.2;cases k1:(v.kind==1)
 case true=>
  have e1:v.kind=1:=aea;simp -implicitDefEqProofs only[go_sem,d1,k1];refine(L8 _ _).pthen ?_;exact ajb
 have e1:v.kind≠1:=aea;cases k4:(v.kind==4)
 case true=>
  have e4:v.kind=4:=aea;simp -implicitDefEqProofs only[go_sem,d1,k1,k4];refine(nP _ _ hi ht2).pthen ?_;have c1:0+1+(Lib.itoa v.n).length<lim:=ad9;simp -implicitDefEqProofs only[go_sem,c1];exact .mk _ (.refl _) (.aj hid) ⟨ahg,rfl⟩
 have e4:v.kind≠4:=aea;cases k5:(v.kind==5)
 case true=>
  have e5:v.kind=5:=aea;have hn:v.s.length≤16:=by
   grind [bz,Bi]
  have c1:0+1+v.s.length<lim:=ad9;simp -implicitDefEqProofs only[go_sem,d1,k1,k4,k5,c1];exact .mk _ (.refl _) (.aj hid) ⟨ahg,rfl⟩
 have e5:v.kind≠5:=aea;cases k3:(v.kind==3)
 case true=>
  have e3:v.kind=3:=aea;have hn:v.s.length≤64:=by
   grind [bz]
  simp -implicitDefEqProofs only[go_sem,d1,k1,k4,k5,k3];refine(Q _ _ hn).pthen ?_;exact ajb
 have e3:v.kind≠3:=aea;simp -implicitDefEqProofs only[go_sem,d1,k1,k4,k5,k3];refine(nP _ _ hi ht2).pthen ?_;exact ajb
end Go.Proofs.YtbbadggejjgihaaGreatDoor
namespace Go.Proofs
open Go.Shelf
def Tryz.wN:Go.Shelf.Ren:=⟨fun|166=>176|167=>175|169=>177|240=>226|276=>262|n=>n,fun|31=>22|72=>267|76=>189|70=>265|37=>77|75=>188|127=>314|164=>349|80=>238|n=>n,fun|n=>n⟩
theorem Tryz.Pm:Go.Proofs.Lays.n167 Tryz.prog Tryz.wN:={
 mixed:=aec
 f167:=Tryz.func175.trans (congrArg some aec)
 f240:=Tryz.func226.trans (congrArg some aec)
 f276:=Tryz.func262.trans (congrArg some aec)
 t0:=Tryz.underlying0
 a0:=Tryz.isAgg0
 z0:=Tryz.sizeOf0
 v0:=Tryz.zeroValue0
 t4:=Tryz.underlying4
 a4:=Tryz.isAgg4
 z4:=Tryz.sizeOf4
 v4:=Tryz.zeroValue4
 t5:=Tryz.underlying5
 a5:=Tryz.isAgg5
 z5:=Tryz.sizeOf5
 v5:=Tryz.zeroValue5
 t9:=Tryz.underlying9
 a9:=Tryz.isAgg9
 z9:=Tryz.sizeOf9
 v9:=Tryz.zeroValue9
 t20:=Tryz.underlying20
 a20:=Tryz.isAgg20
 z20:=Tryz.sizeOf20
 v20:=Tryz.zeroValue20
 t37:=Tryz.underlying77
 a37:=Tryz.isAgg77
 z37:=Tryz.sizeOf77
 v37:=Tryz.zeroValue77
 t70:=Tryz.underlying265
 a70:=Tryz.isAgg265
 z70:=Tryz.sizeOf265
 v70:=Tryz.zeroValue265
 t72:=Tryz.underlying267
 a72:=Tryz.isAgg267
 z72:=Tryz.sizeOf267
 v72:=Tryz.zeroValue267
 t75:=Tryz.underlying188
 a75:=Tryz.isAgg188
 z75:=Tryz.sizeOf188
 v75:=Tryz.zeroValue188
 t164:=Tryz.underlying349
 a164:=Tryz.isAgg349
 z164:=Tryz.sizeOf349
 v164:=Tryz.zeroValue349
}
def Tryz.wM:Go.Shelf.Ren:=⟨fun|166=>176|167=>175|169=>177|240=>226|276=>262|n=>n,fun|31=>22|72=>267|76=>189|70=>265|37=>77|75=>188|127=>314|164=>349|80=>238|n=>n,fun|n=>n⟩
theorem Tryz.Pk:Go.Proofs.Lays.n166 Tryz.prog Tryz.wM:={
 mixed:=aec
 f166:=Tryz.func176.trans (congrArg some aec)
 f240:=Tryz.func226.trans (congrArg some aec)
 f276:=Tryz.func262.trans (congrArg some aec)
 t0:=Tryz.underlying0
 a0:=Tryz.isAgg0
 z0:=Tryz.sizeOf0
 v0:=Tryz.zeroValue0
 t3:=Tryz.underlying3
 a3:=Tryz.isAgg3
 z3:=Tryz.sizeOf3
 v3:=Tryz.zeroValue3
 t4:=Tryz.underlying4
 a4:=Tryz.isAgg4
 z4:=Tryz.sizeOf4
 v4:=Tryz.zeroValue4
 t9:=Tryz.underlying9
 a9:=Tryz.isAgg9
 z9:=Tryz.sizeOf9
 v9:=Tryz.zeroValue9
 t20:=Tryz.underlying20
 a20:=Tryz.isAgg20
 z20:=Tryz.sizeOf20
 v20:=Tryz.zeroValue20
 t37:=Tryz.underlying77
 a37:=Tryz.isAgg77
 z37:=Tryz.sizeOf77
 v37:=Tryz.zeroValue77
 t70:=Tryz.underlying265
 a70:=Tryz.isAgg265
 z70:=Tryz.sizeOf265
 v70:=Tryz.zeroValue265
 t72:=Tryz.underlying267
 a72:=Tryz.isAgg267
 z72:=Tryz.sizeOf267
 v72:=Tryz.zeroValue267
 t75:=Tryz.underlying188
 a75:=Tryz.isAgg188
 z75:=Tryz.sizeOf188
 v75:=Tryz.zeroValue188
 t164:=Tryz.underlying349
 a164:=Tryz.isAgg349
 z164:=Tryz.sizeOf349
 v164:=Tryz.zeroValue349
}
def Tryz.wO:Go.Shelf.Ren:=⟨fun|166=>176|167=>175|169=>177|240=>226|276=>262|n=>n,fun|31=>22|72=>267|76=>189|70=>265|37=>77|75=>188|127=>314|164=>349|80=>238|n=>n,fun|n=>n⟩
theorem Tryz.Pn:Go.Proofs.Lays.n169 Tryz.prog Tryz.wO:={
 mixed:=aec
 f169:=Tryz.func177.trans (congrArg some aec)
 t0:=Tryz.underlying0
 a0:=Tryz.isAgg0
 z0:=Tryz.sizeOf0
 v0:=Tryz.zeroValue0
 t3:=Tryz.underlying3
 a3:=Tryz.isAgg3
 z3:=Tryz.sizeOf3
 v3:=Tryz.zeroValue3
 t9:=Tryz.underlying9
 a9:=Tryz.isAgg9
 z9:=Tryz.sizeOf9
 v9:=Tryz.zeroValue9
 t37:=Tryz.underlying77
 a37:=Tryz.isAgg77
 z37:=Tryz.sizeOf77
 v37:=Tryz.zeroValue77
 t70:=Tryz.underlying265
 a70:=Tryz.isAgg265
 z70:=Tryz.sizeOf265
 v70:=Tryz.zeroValue265
 t72:=Tryz.underlying267
 a72:=Tryz.isAgg267
 z72:=Tryz.sizeOf267
 v72:=Tryz.zeroValue267
 t127:=Tryz.underlying314
 a127:=Tryz.isAgg314
 z127:=Tryz.sizeOf314
 v127:=Tryz.zeroValue314
}
theorem Tryz.tg:Builder.Extra Tryz.prog Tryz.wN where
 sizeBuilder:=aec
 liesBuilder:=aec
 t5:=Tryz.underlying5
 a5:=Tryz.isAgg5
 z5:=Tryz.sizeOf5
 v5:=Tryz.zeroValue5
 infoByte:=aec
 cellsByte:=aec
 sizeByte:=aec
 neB5:=aed
theorem Tryz.tf:Builder.Extra Tryz.prog Tryz.wM where
 sizeBuilder:=aec
 liesBuilder:=aec
 t5:=Tryz.underlying5
 a5:=Tryz.isAgg5
 z5:=Tryz.sizeOf5
 v5:=Tryz.zeroValue5
 infoByte:=aec
 cellsByte:=aec
 sizeByte:=aec
 neB5:=aed
theorem Tryz.th:Builder.Extra Tryz.prog Tryz.wO where
 sizeBuilder:=aec
 liesBuilder:=aec
 t5:=Tryz.underlying5
 a5:=Tryz.isAgg5
 z5:=Tryz.sizeOf5
 v5:=Tryz.zeroValue5
 infoByte:=aec
 cellsByte:=aec
 sizeByte:=aec
 neB5:=aed
theorem Tryz.Builder_WriteByte_k(B b:Nat)(bs:List Value)(c:Int)(w:World)(h:Lib.IsBuilderF 267 5 B b bs w)(hlen:bs.length+1≤140737488355328)(hBw:B≤w.heap.size):
  Calls Tryz.prog 175 #[.pointer (some ⟨b,0,none⟩),.int .u8 c] w fun e w' =>e= .returned .nilIface∧(Lib.BuilderAtF 267 5 B b (.pointer (some ⟨b,0,none⟩)) (bs++ [.int .u8 c]) w'∧RowKit.Below B w w'∧Lib.OthersKept 5 (some b) w w'):=Any.Builder_WriteByte_k Tryz.Pm Tryz.tg B b bs c w h hlen hBw
theorem Tryz.Builder_WriteString_k(B b:Nat)(bs:List Value)(s:ByteArray)(w:World)(h:Lib.IsBuilderF 267 5 B b bs w)(hlen:bs.length+s.size≤140737488355328)(hBw:B≤w.heap.size):
  Calls Tryz.prog 176 #[.pointer (some ⟨b,0,none⟩),.string s] w fun e w' =>e= .returned (.tuple #[.int .i64 s.size,.nilIface])∧(Lib.BuilderAtF 267 5 B b (.pointer (some ⟨b,0,none⟩)) (bs++Lib.strCells s) w'∧RowKit.Below B w w'∧Lib.OthersKept 5 (some b) w w'):=Any.Builder_WriteString_k Tryz.Pk Tryz.tf B b bs s w h hlen hBw
theorem Tryz.Builder_String_k(B b:Nat)(l:List UInt8)(w:World)(h:Lib.IsBuilderF 267 5 B b (Lib.byteCells l) w)(h0:l≠ []):
  Calls Tryz.prog 177 #[.pointer (some ⟨b,0,none⟩)] w fun e w' =>e= .returned (.string ⟨l.toArray⟩)∧(Lib.IsBuilderF 267 5 B b (Lib.byteCells l) w'∧RowKit.Below B w w'∧Lib.OthersKept 5 (some b) w w'):=Any.Builder_String_k Tryz.Pn Tryz.th B b l w h h0
end Go.Proofs
namespace Go.Proofs
open Go.RowKit
def Tryz.di(s:ByteArray)(k:Nat):List UInt8:=[34]++((s.data.toList.take k).map Bf.ou).flatten
theorem Tryz.YA:∀c:Fin 256,bits BinOp.and IntKind.u8 (c.val:Int) 15=((c.val % 16:Nat):Int):=aed
theorem Tryz.DM(n:Nat)(hn:n<16)(w:World):(Instr.slice 9 (Value.string {data:= #[48,49,50,51,52,53,54,55,56,57,97,98,99,100,101,102]}) (some (.int .u8 (n:Int))) (some (.int .u8 (IntKind.u8.wrap ((n:Int)+1)))) none).run Tryz.prog w= .ok (.string ⟨#[Bf.Gc n]⟩) w:=by
 have e:IntKind.u8.wrap ((n:Int)+1)=((n+1:Nat):Int):=by
  have:n=0∨n=1∨n=2∨n=3∨n=4∨n=5∨n=6∨n=7∨n=8∨n=9∨n=10∨n=11∨n=12∨n=13∨n=14∨n=15:=ad9;rcases this with rfl|rfl|rfl|rfl|rfl|rfl|rfl|rfl|rfl|rfl|rfl|rfl|rfl|rfl|rfl|rfl<;>decide
 rw[e,run_slice_string w 9 _ .u8 .u8 (n:Int) ((n+1:Nat):Int) Tryz.underlying9 ad9 ad9 (by show((n+1:Nat):Int)≤16;omega)]
 have:n=0∨n=1∨n=2∨n=3∨n=4∨n=5∨n=6∨n=7∨n=8∨n=9∨n=10∨n=11∨n=12∨n=13∨n=14∨n=15:=ad9;rcases this with rfl|rfl|rfl|rfl|rfl|rfl|rfl|rfl|rfl|rfl|rfl|rfl|rfl|rfl|rfl|rfl<;>rfl
theorem Tryz.uq(s:ByteArray)(k:Nat)(hk:k≤s.size)(hs:s.size≤64):(Tryz.di s k).length≤193:=by
 have:∀l:List UInt8,((l.map Bf.ou).flatten).length≤3*l.length:=fun l=>by
  induction l with
  |nil=>simp
  |cons c r ih=>
   have:(Bf.ou c).length≤3:=by unfold Bf.ou;split<;>simp
   simp only[List.map_cons,List.flatten_cons,ad3,List.length_cons]at ih⊢;omega
 have h1:=this (s.data.toList.take k);have h2:(s.data.toList.take k).length≤64:=by
  have:s.size=s.data.toList.length:=Array.length_toList.symm;simp;omega
 unfold Tryz.di;simp only[ad3,List.length_cons,List.length_nil];omega
theorem Tryz.rj(s:ByteArray)(k:Nat)(hk:k<s.size):Tryz.di s (k+1)=Tryz.di s k++Bf.ou s[k]:=by
 have e:s.size=s.data.toList.length:=Array.length_toList.symm;have hk2:k<s.data.toList.length:=ad9;unfold Tryz.di;rw[List.take_succ_eq_append_getElem hk2,List.map_append,List.flatten_append];simp only[List.map_cons,List.map_nil,List.flatten_cons,List.flatten_nil,List.append_nil,List.append_assoc];rfl
theorem Tryz.Aq(s:ByteArray):Tryz.di s s.size++ [34]=Bf.ov s.data.toList:=by
 have e:s.size=s.data.toList.length:=Array.length_toList.symm;unfold Tryz.di Bf.ov;rw[e,List.take_length]
theorem Tryz.rO(s:ByteArray)(k:Nat)(hk:k<s.size)(ho:Bf.tY s[k]=true):
  Lib.byteCells (Tryz.di s k)++Lib.strCells (({data:= #[92]}:ByteArray)++ {data:= #[Bf.Gc (s[k].toNat / 16)]}++ {data:= #[Bf.Gc (s[k].toNat % 16)]})=Lib.byteCells (Tryz.di s (k+1)):=by
 rw[Tryz.rj s k hk,Lib.byteCells_append]
 congr 1
 rw[Bf.ou,if_pos ho];rfl
theorem Tryz.FO(s:ByteArray)(k:Nat)(hk:k<s.size)(ho:Bf.tY s[k]=false):
  Lib.byteCells (Tryz.di s k)++ [Value.int .u8 (s[k].toNat:Int)]=Lib.byteCells (Tryz.di s (k+1)):=by
 rw[Tryz.rj s k hk,Lib.byteCells_append]
 congr 1
 rw[Bf.ou,if_neg (by simp[ho])]
 rfl
set_option maxHeartbeats 4000000 in
theorem Tryz.EC(s:ByteArray)(w:World)(hs:s.size≤64):
  Calls Tryz.prog 129 #[.string s] w fun e w' =>e= .returned (.string ⟨(Bf.ov s.data.toList).toArray⟩)∧Below w.heap.size w w' :=by
 go_enter Tryz.func129,Tryz.ntmps129
 go_wp2_with (go_at_call 175;refine(Tryz.Builder_WriteByte_k w.heap.size w.heap.size [] 34 _ (Lib.IsBuilderF.of (Lib.fresh_isBuilder 267 5 w)) aeg aeg).mono ?_)
 rintro e W0 ⟨rfl,h0,b0,_⟩
 go_wp2
 go_loopw [9] (fun v wr=>∃k:Nat,v= .int .i64 k∧k≤s.size∧Lib.IsBuilderF 267 5 w.heap.size w.heap.size (Lib.byteCells (Tryz.di s k)) wr∧Below w.heap.size w wr) (fun v _=>s.size - (intOf v).toNat)
 case atStart=>
  refine⟨0,rfl,ad9,?_,?_⟩
  ·exact Or.inr h0
  ·exact((Below.refl _ w).alloc (Nat.le_refl _) _).trans b0
 case round=>
  obtain⟨k,rfl,hk,hI,hbw⟩:=hrel
  by_cases hp:k<s.size
  ·have hx1:∀w,(Instr.slice 9 (Value.string {data:= #[48,49,50,51,52,53,54,55,56,57,97,98,99,100,101,102]}) (some (.int .u8 ((s[k].toNat:Int) / 16))) (some (.int .u8 (IntKind.u8.wrap ((s[k].toNat:Int) / 16+1)))) none).run Tryz.prog w= .ok (.string ⟨#[Bf.Gc (s[k].toNat / 16)]⟩) w:=
    fun w=>Tryz.DM (s[k].toNat / 16) (by have:=s[k].toNat_lt;omega) w
   have hb:bits BinOp.and IntKind.u8 (s[k].toNat:Int) 15=((s[k].toNat % 16:Nat):Int):=Tryz.YA ⟨s[k].toNat,s[k].toNat_lt⟩;have hx2:∀w,(Instr.slice 9 (Value.string {data:= #[48,49,50,51,52,53,54,55,56,57,97,98,99,100,101,102]}) (some (.int .u8 (bits BinOp.and IntKind.u8 (s[k].toNat:Int) 15))) (some (.int .u8 (IntKind.u8.wrap (bits BinOp.and IntKind.u8 (s[k].toNat:Int) 15+1)))) none).run Tryz.prog w= .ok (.string ⟨#[Bf.Gc (s[k].toNat % 16)]⟩) w:=by
    intro w;rw[hb];exact Tryz.DM (s[k].toNat % 16) ad9 w
   clear hb;have hql:=Tryz.uq s k hk hs
   by_cases d1:(s[k].toNat:Int)<32
   ·go_wp2
    refine wp_region_still_tail 14 aec aec ?_;simp only[List.take_succ_cons,List.take_zero,List.drop_succ_cons,List.drop_zero]
    (repeat still_step)
    try refine wpStill_nil ?_
    have hI2:Lib.IsBuilderF 267 5 w.heap.size w.heap.size (Lib.byteCells (Tryz.di s k)) wr.drew:=hI;have hbw2:Below w.heap.size w wr.drew:=hbw.drew
    change wpList _ _ _ _ _ wr.drew
    generalize wr.drew=w2 at hI2 hbw2⊢
    go_wp2_with (go_at_call 176;refine(Tryz.Builder_WriteString_k w.heap.size w.heap.size _ _ _ hI2 afA hbw2.size).mono ?_)
    rintro e W1 ⟨rfl,h1,b1,_⟩
    go_wp2
    go_roundw
    case rel=>
     refine⟨k+1,by go_num,ad9,?_,hbw2.trans b1⟩
     rw[←Tryz.rO s k hp (by simp[Bf.tY,d1])]
     exact ahX
    case measure=>simp[intOf];omega
   by_cases d2:126<(s[k].toNat:Int)
   ·go_wp2
    refine wp_region_still_tail 14 aec aec ?_;simp only[List.take_succ_cons,List.take_zero,List.drop_succ_cons,List.drop_zero]
    (repeat still_step)
    try refine wpStill_nil ?_
    have hI2:Lib.IsBuilderF 267 5 w.heap.size w.heap.size (Lib.byteCells (Tryz.di s k)) wr.drew:=hI;have hbw2:Below w.heap.size w wr.drew:=hbw.drew
    change wpList _ _ _ _ _ wr.drew
    generalize wr.drew=w2 at hI2 hbw2⊢
    go_wp2_with (go_at_call 176;refine(Tryz.Builder_WriteString_k w.heap.size w.heap.size _ _ _ hI2 afA hbw2.size).mono ?_)
    rintro e W1 ⟨rfl,h1,b1,_⟩
    go_wp2
    go_roundw
    case rel=>
     refine⟨k+1,by go_num,ad9,?_,hbw2.trans b1⟩
     rw[←Tryz.rO s k hp (by simp[Bf.tY,d2])]
     exact ahX
    case measure=>simp[intOf];omega
   cases d3:((s[k].toNat:Int)==34)
   case true=>
    go_wp2
    refine wp_region_still_tail 14 aec aec ?_;simp only[List.take_succ_cons,List.take_zero,List.drop_succ_cons,List.drop_zero]
    (repeat still_step)
    try refine wpStill_nil ?_
    have hI2:Lib.IsBuilderF 267 5 w.heap.size w.heap.size (Lib.byteCells (Tryz.di s k)) wr.drew:=hI;have hbw2:Below w.heap.size w wr.drew:=hbw.drew
    change wpList _ _ _ _ _ wr.drew
    generalize wr.drew=w2 at hI2 hbw2⊢
    go_wp2_with (go_at_call 176;refine(Tryz.Builder_WriteString_k w.heap.size w.heap.size _ _ _ hI2 afA hbw2.size).mono ?_)
    rintro e W1 ⟨rfl,h1,b1,_⟩
    go_wp2
    go_roundw
    case rel=>
     refine⟨k+1,by go_num,ad9,?_,hbw2.trans b1⟩
     rw[←Tryz.rO s k hp (by simp[Bf.tY,d3])]
     exact ahX
    case measure=>simp[intOf];omega
   cases d4:((s[k].toNat:Int)==92)
   case true=>
    go_wp2
    refine wp_region_still_tail 14 aec aec ?_;simp only[List.take_succ_cons,List.take_zero,List.drop_succ_cons,List.drop_zero]
    (repeat still_step)
    try refine wpStill_nil ?_
    have hI2:Lib.IsBuilderF 267 5 w.heap.size w.heap.size (Lib.byteCells (Tryz.di s k)) wr.drew:=hI;have hbw2:Below w.heap.size w wr.drew:=hbw.drew
    change wpList _ _ _ _ _ wr.drew
    generalize wr.drew=w2 at hI2 hbw2⊢
    go_wp2_with (go_at_call 176;refine(Tryz.Builder_WriteString_k w.heap.size w.heap.size _ _ _ hI2 afA hbw2.size).mono ?_)
    rintro e W1 ⟨rfl,h1,b1,_⟩
    go_wp2
    go_roundw
    case rel=>
     refine⟨k+1,by go_num,ad9,?_,hbw2.trans b1⟩
     rw[←Tryz.rO s k hp (by simp[Bf.tY,d4])]
     exact ahX
    case measure=>simp[intOf];omega
   go_wp2_with (go_at_call 175;refine(Tryz.Builder_WriteByte_k w.heap.size w.heap.size _ _ _ hI (by rw[Lib.byteCells_length];omega) hbw.size).mono ?_)
   rintro e W1 rfl h1 b1 _
   go_wp2
   go_roundw
   case rel=>
    refine⟨k+1,by go_num,ad9,?_,hbw.trans b1⟩
    rw[←Tryz.FO s k hp (by simp[Bf.tY,d1,d2,d3,d4])]
    exact ahX
   case measure=>simp[intOf];omega
  ·have hk2:k=s.size:=by omega
   subst hk2;have hql:=Tryz.uq s s.size hk hs
   go_wp2_with (go_at_call 175;refine(Tryz.Builder_WriteByte_k w.heap.size w.heap.size _ _ _ hI (by rw[Lib.byteCells_length];omega) hbw.size).mono ?_)
   rintro e W1 ⟨rfl,h1,b1,_⟩
   have e34:Lib.byteCells (Tryz.di s s.size)++ [Value.int .u8 34]=Lib.byteCells (Bf.ov s.data.toList):=by
    rw[←Tryz.Aq,Lib.byteCells_append];rfl
   rw[e34]at h1
   go_wp2_with (go_at_call 177;refine(Tryz.Builder_String_k w.heap.size w.heap.size _ _ (Or.inr h1) (by simp[Bf.ov])).mono ?_)
   rintro e W2 ⟨rfl,_,b2,_⟩
   go_wp2
   go_ret
   exact⟨rfl,(hbw.trans b1).trans b2⟩
end Go.Proofs
namespace Go.Proofs.YtbbadggejjgihaaGreatDoor
open Go Go.Ab Go.Bf
theorem Kq:Quoted:=fun s h hs=>by
 refine .lib ⟨_,Tryz.func129,aec,rfl⟩ fun c vs hs' g h1 h2=>?_
 obtain⟨v,rfl⟩:∃v,vs= #[v]:=Array.size_eq_one_iff.1 h1;have e:v= .string ⟨s.toArray⟩:=((h2 0 aeg).lQ).1;subst e;refine(Tryz.EC ⟨s.toArray⟩ c.w (by simpa[ByteArray.size]using hs)).mono ?_
 rintro e w' ⟨rfl,hb⟩
 have hl:=Bt s hs;exact⟨⟨_,rfl,fun c' _=> .s _ (by show(ov s).length<lim;have:(194:Nat)<lim:=aed;omega)⟩,hb⟩
end Go.Proofs.YtbbadggejjgihaaGreatDoor
namespace Go.Ab
open Go
inductive Av (F:Nat→Prop):AV→Prop where
 |v (x:Value):Av F (.v x)
 |s (l:List UInt8):Av F (.s l)
 |agg (xs:List AV) (h:∀x∈xs,Av F x):Av F (.agg xs)
 |tup (xs:List AV) (h:∀x∈xs,Av F x):Av F (.tup xs)
 |sl (xs:List AV) (p:Perm) (h:∀x∈xs,Av F x) (hp:∀id,p= .own id→¬F id):Av F (.sl xs p)
 |pe (x:AV) (o:Nat) (h:Av F x):Av F (.pe x o)
 |ptr (id o:Nat) (h:¬F id):Av F (.ptr id o)
 |oa (id o l:Nat) (h:¬F id):Av F (.oa id o l)
 |ob (id o l c z:Nat) (h:¬F id):Av F (.ob id o l c z)
 |ifc (t:TypeId) (x:AV) (h:Av F x):Av F (.ifc t x)
 |fn (f:FuncId) (xs:List AV) (h:∀x∈xs,Av F x):Av F (.fn f xs)
 |mp (id:Nat) (h:¬F id):Av F (.mp id)
theorem Av.cells{F:Nat→Prop}{x:AV}(h:Av F x):∀y∈x.cells,Av F y:=by
 cases h with
 |agg xs hx=>exact hx
 |_=>intro y hy;rw[List.mem_singleton.1 hy];constructor<;>assumption
theorem Av.Em{F:Nat→Prop}{x:AV}(h:∀y∈x.cells,Av F y):Av F x:=by
 cases x with
 |agg xs=>exact .agg xs h
 |_=>exact h _ (List.mem_singleton.2 rfl)
theorem Rep.av{c:Cx}{F:Nat→Prop}(hF:∀id,F id→c.h id=none){x:AV}{u:Value}(h:Rep c x u):Av F x:=by
 have nf:∀ {id:Nat} {k:Blk},c.h id=some k→¬F id:=fun hk hf=>aea
 induction h with
 |v x=>exact .v x
 |s l hl=>exact .s l
 |agg xs vs hn hr ho ih=>exact .agg xs fun x hx=>afS
 |tup xs vs hn hr ih=>exact .tup xs fun x hx=>afS
 |sl xs p a cap sz val hc hm h0 hs hz hf hr ho hp ih=>
  refine .sl xs p (fun x hx=>?_) fun id e=>?_
  ·obtain⟨i,hi,rfl⟩:=List.mem_iff_getElem.1 hx
   refine .Em fun y hy=>?_
   obtain⟨j,hj,rfl⟩:=List.mem_iff_getElem.1 hy
   grind
  ·subst e
   obtain⟨m,h1,_⟩:=hp
   grind
 |pe x off b o val hb hf hr ho ih=>
  refine .pe x off (.Em fun y hy=>?_)
  obtain⟨j,hj,rfl⟩:=List.mem_iff_getElem.1 hy
  grind
 |ptr id off cs t h=>exact .ptr _ _ (nf h)
 |oa id off len cap o cs t h hc hm ho=>exact .oa _ _ _ (nf h)
 |ob id off len cap sz o cs t h hc hm ho=>exact .ob _ _ _ _ _ (nf h)
 |ifc t x u h ih=>exact .ifc t x ih
 |fn f xs vs hn hr ih=>exact .fn f xs fun x hx=>afS
 |mp id m h=>exact .mp _ (nf h)
noncomputable def Cx.back (c' :Cx) (g:Heap):Cx:={c' with h:=fun id=>if g id=none then none else c'.h id}
theorem uW{c' :Cx}{g:Heap}{id:Nat}{k:Blk}(h:(c'.back g).h id=some k):g id≠none∧c'.h id=some k:=by
 grind [Cx.back]
theorem kX{c' :Cx}{g:Heap}{id:Nat}(h:g id≠none):(c'.back g).h id=c'.h id:=by
 simp_all [Cx.back,if_false]
theorem ye{c' :Cx}{g:Heap}{b o:Nat}(h:owned (c'.back g) b o):owned c' b o:=by
 obtain⟨id,k,h1,h2,h3⟩:=h;exact⟨id,k,(uW h1).2,h2,h3⟩
theorem yd{c' :Cx}{g:Heap}{b o:Nat}{u:Value}(h:fix c' b o u):fix (c'.back g) b o u:=⟨h.1,fun ho=>h.2 (ye ho)⟩
theorem Rep.back{c' :Cx}{g:Heap}{x:AV}{u:Value}(h:Rep c' x u)(ha:Av (fun id=>g id=none) x):Rep (c'.back g) x u:=by
 induction h with
 |v x=>exact .v x
 |s l hl=>exact .s l hl
 |agg xs vs hn hr ho ih=>cases ha with|agg _ ha=>exact .agg xs vs hn aea ho
 |tup xs vs hn hr ih=>cases ha with|tup _ ha=>exact .tup xs vs hn aea
 |sl xs p a cap sz val hc hm h0 hs hz hf hr ho hp ih=>
  cases ha with
  |sl _ _ ha hq=>
   refine .sl xs p a cap sz val hc hm h0 hs hz (by grind [yd]) (fun i hi j hj=>ih i hi j hj ((ha _ (ad4 hi)).cells _ (ad4 hj))) ho ?_
   cases p with
   |no=>trivial
   |full=>exact hp
   |own id=>
    obtain⟨m,h1,h2,h3⟩:=hp;exact⟨m,by rw[kX (hq id rfl)];omega,h2,h3⟩
 |pe x off b o val hb hf hr ho ih=>
  cases ha with
  |pe _ _ ha=>exact .pe x off b o val hb (by grind [yd]) (fun j hj=>ih j hj (ha.cells _ (ad4 hj))) ho
 |ptr id off cs t h=>cases ha with|ptr _ _ ha=>exact .ptr id off cs t (by grind [kX])
 |oa id off len cap o cs t h hc hm ho=>cases ha with|oa _ _ _ ha=>exact .oa id off len cap o cs t (by grind [kX]) hc hm ho
 |ob id off len cap sz o cs t h hc hm ho=>cases ha with|ob _ _ _ _ _ ha=>exact .ob id off len cap sz o cs t (by grind [kX]) hc hm ho
 |ifc t x u h ih=>cases ha with|ifc _ _ ha=>exact .ifc t x u (ih ha)
 |fn f xs vs hn hr ih=>cases ha with|fn _ _ ha=>exact .fn f xs vs hn aea
 |mp id m h=>cases ha with|mp _ ha=>exact .mp id m (by grind [kX])
inductive Frz (g h:Heap):AV→AV→Prop where
 |keep (x:AV) (ha:Av (fun id=>g id=none) x):Frz g h x x
 |agg (xs ys:List AV) (hn:xs.length=ys.length) (hr:∀i (h1:i<xs.length) (h2:i<ys.length),Frz g h xs[i] ys[i]):Frz g h (.agg xs) (.agg ys)
 |tup (xs ys:List AV) (hn:xs.length=ys.length) (hr:∀i (h1:i<xs.length) (h2:i<ys.length),Frz g h xs[i] ys[i]):Frz g h (.tup xs) (.tup ys)
 |sl (xs ys:List AV) (p:Perm) (hn:xs.length=ys.length) (hz:∀i (h1:i<xs.length) (h2:i<ys.length),xs[i].cells.length=ys[i].cells.length)
   (hr:∀i (h1:i<xs.length) (h2:i<ys.length) j (h3:j<xs[i].cells.length) (h4:j<ys[i].cells.length),Frz g h xs[i].cells[j] ys[i].cells[j]):Frz g h (.sl xs p) (.sl ys .no)
 |ob (id off len cap sz:Nat) (cs:List AV) (t:TypeId) (ys:List AV) (hg:g id=none) (hh:h id=some (.obj cs t)) (hl:off+len*sz≤cs.length) (hn:ys.length=len) (hz:∀i (h1:i<ys.length),ys[i].cells.length=sz)
   (hr:∀i (h1:i<ys.length) j (h3:j<ys[i].cells.length) (h4:off+(i*sz+j)<cs.length),Frz g h (cs[off+(i*sz+j)]) ys[i].cells[j]):Frz g h (.ob id off len cap sz) (.sl ys .no)
 |ptr (id off:Nat) (cs:List AV) (t:TypeId) (ys:List AV) (hg:g id=none) (hh:h id=some (.obj cs t)) (hn:cs.length=ys.length) (hr:∀i (h1:i<cs.length) (h2:i<ys.length),Frz g h cs[i] ys[i]):Frz g h (.ptr id off) (.pe (.agg ys) off)
 |ifc (t:TypeId) (x y:AV) (hr:Frz g h x y):Frz g h (.ifc t x) (.ifc t y)
theorem Frz.rep{c' :Cx}{g h:Heap}(gd:Good c')(hh:Sub h c'.h){x y:AV}(hz:Frz g h x y):∀ {u:Value},Rep c' x u→Rep (c'.back g) y u:=by
 have nown:∀ {id:Nat} {k:Blk} {o:Nat},g id=none→h id=some k→¬owned (c'.back g) (c'.φ id).block o:=fun {id k o} h1 h2 ho=>by
  obtain⟨j,l,h3,h4,h5⟩:=ho;obtain⟨h6,h7⟩:=uW h3;exact gd.inj j id l k h7 (hh _ _ h2) (fun e=>h6 aea) h4
 induction hz with
 |keep x ha=>exact fun hr=>hr.back ha
 |agg xs ys hn hr ih=>
  intro u hu;obtain⟨vs,rfl,h1,h2,h3⟩:=hu.oZ;exact .agg ys vs ad9 (fun i hi=>ih i ad9 hi (h2 i ad9)) fun i hi=>h3 i ad9
 |tup xs ys hn hr ih=>
  intro u hu;obtain⟨vs,rfl,h1,h2⟩:=hu.CI;exact .tup ys vs ad9 (fun i hi=>ih i ad9 hi (h2 i ad9))
 |sl xs ys p hn hz hr ih=>
  intro u hu;obtain⟨a,cap,sz,val,rfl,hs⟩:=hu.iL;rw[hn];have hcap:=hs.hc;refine .sl ys .no a cap sz val ad9 hs.hm hs.h0 hs.hs (fun i hi=>by rw[←hz i ad9 hi];exact hs.hz i ad9) (fun q hq i j hi hj=>yd (hs.hf q hq i j ad9 hj)) (fun i hi j hj=>?_) (fun i j hi hj=>hs.ho i j ad9 hj) trivial
  exact ih i ad9 hi j aea hj (hs.hr i ad9 j aea)
 |ob id off len cap sz cs t ys hg hid hl hn hz hr ih=>
  intro u hu;obtain⟨o,rfl,h1,h2,cs',t',h3,h4⟩:=hu.jF;have hcid:=hh _ _ hid;obtain⟨vs,v1,v2,v3⟩:=gd.obj id cs t hcid;subst hn;have hbd:∀i j,i<ys.length→j<sz→i*sz+j<ys.length*sz:=fun i j hi hj=>by
   have:(i+1)*sz≤ys.length*sz:=Nat.mul_le_mul_right _ ad9;rw[Nat.add_mul,Nat.one_mul]at this;omega
  refine .sl ys .no _ cap sz (fun i j=>vs.getD (off+(i*sz+j)) undef) h1 h2 (fun e=>aey) (fun q hq _=>?_) hz (fun q hq i j hi hj=>?_) (fun i hi j hj=>?_) (fun i j hi hj=>(v3 _ aea).2) trivial
  ·cases hq
   exact⟨rfl,gd.lt hcid⟩
  ·cases hq
   obtain⟨rfl,_⟩:=h4 ad9;have hb:=hbd i j hi hj;refine⟨?_,nown hg hid⟩;have:o+(i*sz+j)<vs.size:=ad9;simp[World.cell?,Cx.back,v1,this]
  ·have hj' :j<sz:=by grind
   have hb:=hbd i j hi hj';exact ih i hi j hj ad9 (v3 _ ad9).1
 |ptr id off cs t ys hg hid hn hr ih=>
  intro u hu;obtain⟨rfl,_⟩:=hu.lp;have hcid:=hh _ _ hid;obtain⟨vs,v1,v2,v3⟩:=gd.obj id cs t hcid;have:=Rep.pe (c:=c'.back g) (.agg ys) off (c'.φ id).block 0 (fun j=>vs.getD j undef) (gd.lt hcid) (fun j hj=>by
    have hj' :j<ys.length:=hj;refine⟨?_,nown hg hid⟩
    simp_all [World.cell?,Cx.back]) (fun j hj=>by
    have hj' :j<ys.length:=hj;exact ih j ad9 hj' (v3 j ad9).1) (fun j hj=>by
    have hj' :j<ys.length:=hj;exact(v3 j ad9).2)
  rw[Nat.zero_add]at this;exact aeR
 |ifc t x y hr ih=>
  intro u hu;cases hu with
  |ifc _ _ u' h=>exact .ifc t y _ (ih h)
theorem ai.freeze{P:Program}{f:FuncId}{args:List AV}{h:Heap}{Q:AV→Prop}
  (hf:∀g,Sub h g→(∀x∈args,Av (fun id=>g id=none) x)→ai P f args g fun r h' =>Sub g h'∧∃y,Frz g h' r y∧Q y):ai P f args h fun r h' =>Q r∧h' =h:=by
 intro c vs hs gd h1 h2;have hav:∀x∈args,Av (fun id=>c.h id=none) x:=fun x hx=>by
  obtain⟨i,hi,rfl⟩:=List.mem_iff_getElem.1 hx;exact(h2 i hi).av fun _ e=>e
 refine(hf c.h hs hav c vs (.refl _) gd h1 h2).mono ?_
 rintro u w' ⟨c',x,h',rfl,gd',hE,hr,hsub,hgh,y,hz,hq⟩
 have hkeep:∀id k,c.h id=some k→c'.h id=some k:=fun id k hk=>hsub _ _ (hgh _ _ hk)
 have hE2:Ext c (c'.back c.h):={
  os:=hE.os,tape:=hE.tape,output:=hE.output,size:=hE.size,block:=hE.block,cell:=hE.cell,shape:=hE.shape
  steal:=fun b o hb ho=>hE.steal b o hb (ye ho)
  obj:=fun id cs t hi=>by rw[kX aea];exact hE.obj id cs t hi
  spare:=fun id n sz hi=>by rw[kX aea];exact hE.spare id n sz hi
  mp:=fun id m hi=>by rw[kX aea];exact hE.mp id m hi
  ro:=fun id b vs hi=>by rw[kX aea];exact hE.ro id b vs hi}
 have hold:∀id k,(c'.back c.h).h id=some k→c.h id=some k∧c'.h id=some k:=fun id k hk=>by
  obtain⟨a1,a2⟩:=uW hk;cases hc:c.h id with
  |none=>grind
  |some k' =>grind
 refine⟨c'.back c.h,y,h,rfl,?_,hE2,hz.rep gd' hsub hr,fun id k hk=>?_,hq,rfl⟩
 ·refine⟨?_,fun i j k l hi hj hne=>gd'.inj i j k l (hold i k hi).2 (hold j l hj).2 hne,fun id cs t hi=>?_,fun id n sz hi=>gd'.spare id n sz (hold id _ hi).2,fun id m hi=>?_,fun id m hi=>gd'.keys id m (hold id _ hi).2,fun id b vs hi=>gd'.ro id b vs (hold id _ hi).2⟩
  ·obtain⟨N,hN⟩:=gd'.fin
   exact⟨N,fun id hid=>by grind [Cx.back]⟩
  ·obtain⟨vs,v1,v2,v3⟩:=gd'.obj id cs t (hold id _ hi).2
   obtain⟨vs0,w1,w2,w3⟩:=gd.obj id cs t (hold id _ hi).1;exact⟨vs,v1,v2,fun j hj=>⟨(v3 j hj).1.back ((w3 j hj).1.av fun _ e=>e),(v3 j hj).2⟩⟩
  ·obtain⟨es,cl,v1,v2,v3⟩:=gd'.mp id m (hold id _ hi).2
   obtain⟨es0,cl0,w1,w2,w3⟩:=gd.mp id m (hold id _ hi).1;exact⟨es,cl,v1,v2,fun i hi' hi2=>⟨(v3 i hi' hi2).1,(v3 i hi' hi2).2.back ((w3 i hi' ad9).2.av fun _ e=>e)⟩⟩
 ·rw[kX (by rw[hs _ _ hk];simp)]
  exact hkeep id k (hs _ _ hk)
section
variable {P : Program} {U : TypeId → TI} {ρ : Env} {h h' : Heap} {sz : Nat} {y : AV} {xs : List AV} {e : TypeId}
def Rd(h:Heap)(sz:Nat)(y:AV)(xs:List AV):Prop:=
 Sized sz xs∧((∃q,y= .sl xs q)∨∃id off cap cs t,y= .ob id off xs.length cap sz∧h id=some (.obj cs t)∧off+xs.length*sz≤cs.length∧(cs.drop off).take (xs.length*sz)=au xs)
theorem Rd.sl(hs:Sized sz xs)(q:Perm):Rd h sz (.sl xs q) xs:=⟨hs,.inl ⟨q,rfl⟩⟩
theorem Rd.sub(hb:Rd h sz y xs)(hs:Sub h h'):Rd h' sz y xs:=by
 obtain⟨h1,hb|⟨id,off,cap,cs,t,rfl,h2,h3⟩⟩:=hb
 ·exact⟨h1,.inl hb⟩
 ·exact⟨h1,.inr ⟨id,off,cap,cs,t,rfl,hs _ _ h2,h3⟩⟩
theorem Rd.len(hb:Rd h sz y xs)(e:TypeId)(k:AV→Prop):xw y k (.slice e)=k (.i xs.length):=by
 exact ajl
theorem Rd.cells(hb:Rd h sz y xs):y.cells= [y]:=by
 exact ajl
theorem Rd.fit(hb:Rd h sz y xs)(m:Nat):fit y m=(m=1):=by
 exact ajl
theorem Rd.src(hb:Rd h sz y xs)(hz:(U e).sz=sz){f:List AV→Prop}(hf:f xs):iM U e h y f:=by
 obtain⟨_,⟨q,rfl⟩|⟨id,off,cap,cs,t,rfl,h2,h3,h4⟩⟩:=hb
 ·exact hf
 ·rw[Qc,h2]
  exact⟨hz.symm,xs,rfl,h3,h4.symm,hf⟩
def At(h:Heap)(p x:AV)(o:Nat):Prop:=p= .pe x o∨∃id a cs t,p= .ptr id (a+o)∧h id=some (.obj cs t)∧a+x.cells.length≤cs.length∧(cs.drop a).take x.cells.length=x.cells
theorem At.sub{p x:AV}{o:Nat}(ha:At h p x o)(hs:Sub h h'):At h' p x o:=by
 rcases ha with rfl|⟨id,a,cs,t,rfl,h2,h3⟩
 ·exact .inl rfl
 ·exact .inr ⟨id,a,cs,t,rfl,hs _ _ h2,h3⟩
theorem GI{cs:List AV}{x:AV}{a o:Nat}{i:TI}{k:AV→Prop}(h1:a+x.cells.length≤cs.length)(h2:(cs.drop a).take x.cells.length=x.cells)(h3:i.sz≠0)(h4:o+i.sz≤x.cells.length):iJ cs (a+o) i k=iJ x.cells o i k:=by
 unfold iJ;split
 ·have e:(cs.drop (a+o)).take i.sz=(x.cells.drop o).take i.sz:=by
   grind [List.drop_take,List.drop_drop,Nat.min_eq_left]
  apply propext
  grind
 grind
theorem At.part{p x:AV}{o:Nat}(ha:At h p x o){ty:TypeId}(hz:(U ty).sz≠0)(hl:o+(U ty).sz≤x.cells.length)(k:AV→Prop):nR U h ty p k=iJ x.cells o (U ty) k:=by
 rcases ha with rfl|⟨id,a,cs,t,rfl,h2,h3,h4⟩
 ·rw[MG]
  unfold atA;split
  ·rename_i hc
   obtain⟨rfl,hc2,hc3⟩:=hc;unfold iJ;split
   ·rename_i hag
    rw[hag]at hc3;have:x= .agg x.cells:=by cases x<;>first|rfl|cases hc3
    rw[List.drop_zero,←hc2,List.take_length,Nat.zero_add,←this];simp
   simp_all [bA,false,oK]
  ·rfl
 ·rw[J6,h2]
  exact GI h3 h4 hz hl
theorem At.all{p x:AV}(ha:At h p x 0){ty:TypeId}(hz:(U ty).sz≠0)(hl:x.cells.length=(U ty).sz)(hg:bA x=(U ty).k.agg)(k:AV→Prop):nR U h ty p k=k x:=by
 rw[ha.part hz ad9];unfold iJ;split
 ·rename_i hag
  rw[hag]at hg;have:x= .agg x.cells:=by cases x<;>first|rfl|cases hg
  rw[List.drop_zero,←hl,List.take_length,Nat.zero_add,←this];simp
 simp_all [bA,false,oK]
theorem At.field{p x:AV}{o:Nat}(ha:At h p x o){f off:Nat}{t:TypeId}{fs:List (Nat×TypeId)}{K:AV→Prop}(hf:fs[f]? =some (off,t))(hz:(U t).sz≠0)(hk:∀p',At h p' x (o+off)→K p'):yB U f p K (.strct fs):=by
 rcases ha with rfl|⟨id,a,cs,t',rfl,h2,h3,h4⟩
 ·rw[Jr,hf]
  exact⟨hz,hk _ (.inl rfl)⟩
 ·rw[FQ,hf]
  exact⟨hz,hk _ (.inr ⟨id,a,cs,t',aea,h2,h3,h4⟩)⟩
theorem Rd.idx(hb:Rd h sz y xs){m:Int}{x:IntKind}{K:AV→Prop}(j:Nat)(hm:m=j)(hj:j<xs.length)(hz:(U e).sz=sz)(h0:sz≠0)(hk:∀p,At h p xs[j] 0→K p):pG U y (.v (.int x m)) K (.slice e):=by
 subst hm;have hc:=hb.1 xs[j] (ad4 hj);obtain⟨hs,⟨q,rfl⟩|⟨id,off,cap,cs,t,rfl,h2,h3,h4⟩⟩:=hb
 ·refine(vf ..).mpr ⟨ad9,?_⟩
  exact eC.at j hj ad9 (hk _ (.inl rfl))
 ·refine(A7 ..).mpr ⟨ad9,hz.symm,ad9,ad9,hk _ (.inr ⟨id,off+j*sz,cs,t,aeg,h2,?_,?_⟩)⟩
  ·have:(j+1)*sz≤xs.length*sz:=Nat.mul_le_mul_right _ ad9
   rw[Nat.add_mul,Nat.one_mul]at this;rw[hc];omega
  ·have e1:=pg hs j hj
   rw[←h4,List.drop_take,List.take_take,List.drop_drop]at e1;rw[hc];have:(j+1)*sz≤xs.length*sz:=aea;rw[Nat.add_mul,Nat.one_mul]at this;rw[Nat.min_eq_left ad9]at e1;exact e1
def Ow(tb:TypeId)(h:Heap)(sz id:Nat)(y:AV)(xs:List AV):Prop:=
 ∃cap rest,y= .ob id 0 xs.length cap sz∧h id=some (.obj (au xs++rest) tb)∧rest.length=(cap - xs.length)*sz∧xs.length≤cap∧Sized sz xs
variable {tb : TypeId} {id : Nat}
theorem Ow.rd(hw:Ow tb h sz id y xs):Rd h sz y xs:=by
 obtain⟨cap,rest,rfl,h1,h2,h3,h4⟩:=hw;have hl:=aX h4;exact⟨h4,.inr ⟨id,0,cap,_,tb,rfl,h1,aea,aea⟩⟩
theorem Ow.sub(hw:Ow tb h sz id y xs)(hs:Sub h h'):Ow tb h' sz id y xs:=by
 obtain⟨cap,rest,e1,h1,h2⟩:=hw;exact⟨cap,rest,e1,hs _ _ h1,h2⟩
theorem Ow.same(hw:Ow tb h sz id y xs)(hs:h' id=h id):Ow tb h' sz id y xs:=by
 obtain⟨cap,rest,e1,h1,h2⟩:=hw;exact⟨cap,rest,e1,hs.trans h1,h2⟩
theorem Ow.none(hw:Ow tb h sz id y xs):h id≠Option.none:=by
 obtain⟨cap,rest,e1,h1,h2⟩:=hw
 grind
theorem Ow.make{cs:List AV}{cap:Nat}{rest:List AV}(hs:Sized sz xs)(hcs:cs=au xs){n:Nat}(hn:n=xs.length)(hc:n≤cap)(hr:rest.length=(cap - n)*sz):Ow tb (upd h id (some (.obj (cs++rest) tb))) sz id (.ob id 0 n cap sz) xs:=by
 subst hcs;subst hn
 exact⟨cap,rest,rfl,ah ..,hr,hc,hs⟩
theorem kL.ow{cs:List AV}{n:Nat}{Q:AV→Heap→Prop}(hs:Sized sz xs)(hcs:cs=au xs)(hn:n=xs.length)(hk:∀id y h',h id=Option.none→Ow tb h' sz id y xs→(∀j,j≠id→h' j=h j)→Q y h'):kL h cs n sz tb Q:=
 fun id cap rest hid hc hr=>hk id _ _ hid (Ow.make hs hcs hn hc hr) fun j hj=>ag _ _ hj
theorem Ki{us vs:List AV}{o:Nat}{c:List AV}:over (us++vs) (us.length+o) c=us++over vs o c:=by
 simp[Ab.over,Nat.add_assoc,List.take_length_add_append,List.drop_length_add_append,List.append_assoc]
theorem JB{xs:List AV}(hs:Sized sz xs)(j:Nat)(hj:j<xs.length)(x:AV)(hx:x.cells.length=sz):au (xs.set j x)=over (au xs) (j*sz) x.cells:=by
 induction xs generalizing j with
 |nil=>grind
 |cons a r ih=>
  have h1:=hs a aeg;have h2:Sized sz r:=fun z hz=>hs z aea
  cases j with
  |zero=>
   simp only[List.set_cons_zero,kR,Ab.over,Nat.zero_mul,List.take_zero,List.nil_append,Nat.zero_add];rw[hx,←h1,List.drop_left]
  |succ j=>
   have hj' :j<r.length:=aea;have e1:(j+1)*sz=a.cells.length+j*sz:=aea;rw[List.set_cons_succ,kR,kR,ih h2 j hj',e1,Ki]
theorem JA{xs:List AV}(hs:Sized sz xs)(j:Nat)(hj:j<xs.length)(o:Nat)(c:List AV)(ho:o+c.length≤sz):over (au xs) (j*sz+o) c=au (xs.set j (.agg (over xs[j].cells o c))):=by
 have hc:=hs xs[j] (ad4 hj);have hl:(over xs[j].cells o c).length=sz:=by grind [iI]
 rw[JB hs j hj (.agg (over xs[j].cells o c)) hl];have hp:=pg hs j hj;have e1:(au xs).take (j*sz+o)=(au xs).take (j*sz)++xs[j].cells.take o:=by
  rw[←hp,List.take_take,Nat.min_eq_left ad9,List.take_add]
 have e2:(au xs).drop (j*sz+o+c.length)=xs[j].cells.drop (o+c.length)++(au xs).drop (j*sz+sz):=by
  have e3:(au xs).drop (j*sz)=xs[j].cells++(au xs).drop (j*sz+sz):=by
   grind [List.drop_drop,List.take_append_drop]
  rw[Nat.add_assoc,←List.drop_drop,e3,List.drop_append_of_le_length ad9]
 show over (au xs) (j*sz+o) c=over (au xs) (j*sz) (over xs[j].cells o c)
 grind [over,Ab.over,List.append_assoc]
theorem M3{us vs:List AV}{o:Nat}{c:List AV}(h1:o+c.length≤us.length):over (us++vs) o c=over us o c++vs:=by
 grind [Ab.over,List.append_assoc]
theorem Ow.idx(hw:Ow tb h sz id y xs){m:Int}{x:IntKind}{K:AV→Prop}(j:Nat)(hm:m=j)(hj:j<xs.length)(hz:(U e).sz=sz)(h0:sz≠0)(hk:K (.ptr id (j*sz))):pG U y (.v (.int x m)) K (.slice e):=by
 obtain⟨cap,rest,rfl,h1,h2,h3,h4⟩:=hw
 simp_all [A7,Nat.zero_add,Int.toNat_natCast]
def OwE(tb:TypeId)(h0 h:Heap)(sz:Nat)(y:AV)(xs:List AV):Prop:=(xs= []∧y= .sl [] .full)∨∃id,h0 id=Option.none∧Ow tb h sz id y xs
variable {h0 : Heap}
theorem OwE.rd(hw:OwE tb h0 h sz y xs):Rd h sz y xs:=by
 rcases hw with⟨rfl,rfl⟩|⟨id,_,hw⟩
 ·exact .sl (fun z hz=>aea) _
 ·exact hw.rd
theorem OwE.sub(hw:OwE tb h0 h sz y xs)(hs:Sub h h'):OwE tb h0 h' sz y xs:=by
 rcases hw with hw|⟨id,h1,hw⟩
 ·exact ah6
 ·exact .inr ⟨id,h1,hw.sub hs⟩
theorem OwE.ow(hw:OwE tb h0 h sz y xs)(hn:xs≠ []):∃id,h0 id=Option.none∧Ow tb h sz id y xs:=by
 rcases hw with hw|hw
 ·grind
 omega
theorem OwE.app{v:AV}{zs:List AV}{Q:AV→Heap→Prop}(hw:OwE tb h0 h sz y xs)(hs0:Sub h0 h)(hb:Rd h sz v zs)(hz:(U tb).sz=sz)(h1:sz≠0)(hby:(U tb).bytes≠0)(hf:Ab.fit (U tb).zero sz)(hne:zs≠ [])(hlen:(xs.length+zs.length)*(U tb).bytes≤140737488355328)
  (hk:∀id y' h',h0 id=Option.none→(h id=Option.none∨∃l c,y= .ob id 0 l c sz)→Ow tb h' sz id y' (xs++zs)→(∀j,j≠id→h' j=h j)→Q y' h'):apK U h y v Q (.slice tb):=by
 subst hz;rcases hw with⟨rfl,rfl⟩|⟨id,h2,cap,rest,rfl,h3,h4,h5,h6⟩
 ·refine(qv ..).mpr ⟨h1,hby,hb.src rfl ⟨by simp[Sized],hb.1,ad9,fun hn=>(hne hn).elim,fun _=>?_⟩⟩
  refine .ob hf (kL.ow (by simpa using hb.1) aeo aeg fun id y' h' hid hw ho=>?_)
  exact hk id _ _ (hs0.none hid) (.inl hid) aea ho
 ·have hl:=aX h6
  refine⟨h1,hby,rfl,hb.src rfl ⟨hb.1,hlen,?_⟩⟩;rw[h3];have hsz:Sized (U tb).sz (xs++zs):=fun z hz=>(List.mem_append.1 hz).elim (h6 z) (hb.1 z)
  refine⟨aea,hf,fun hle=>?_,fun hgt=>?_⟩
  ·have hlz:=aX hb.1
   have hmul:(cap - xs.length)*(U tb).sz=zs.length*(U tb).sz+(cap - (xs.length+zs.length))*(U tb).sz:=by rw[←Nat.add_mul];grind
   refine hk id _ _ h2 (.inr ⟨_,_,rfl⟩) ⟨cap,rest.drop (zs.length*(U tb).sz),aeg,?_,?_,aea,hsz⟩ fun j hj=>ag _ _ hj
   ·simp_all [ah,mI,Nat.zero_add,Ab.over,List.take_left,List.drop_append,List.drop_of_length_le]
   grind
  ·refine kL.ow hsz ?_ aeg fun id' y' h' hid hw ho=>?_
   ·grind [mI,List.take_left]
   ·exact hk id' _ _ (hs0.none hid) (.inl hid) hw ho
theorem wQ {f : FuncId} {fn : Func} {tS tR : TypeId} (hU : ∀ t, aP P U t) (hfn : P.funcs[f]? = some fn) (hname : (fn.name == "runtime.NumGoroutine") = false) (hb : fn.body.isNone = true) (hn : Extern.findNext fn = Option.none)
  (he:Extern.find fn=some (Extern.SlicesOverlaps.overlaps #[tS,tS] #[tR])) (hty:(U tS).k= .slice e) (hz:(U e).sz≠0) {q:Perm} (hx:Sized (U e).sz xs) (hne:xs≠ []) {id off len cap sz:Nat} {cs:List AV} {t:TypeId} (hid:h id=some (.obj cs t)) (hcs:cs≠ []):
  ai P f [.sl xs q,.ob id off len cap sz] h fun r h' =>r= .b false∧h' =h:=by
 intro c vs hs g h1 h2;obtain⟨a,cap0,sz0,val,hu,sl⟩:=(h2 0 aeg).iL;obtain⟨o,hv,_⟩:=(h2 1 aeg).jF;have hd:=(hU tS).desc;rw[hty]at hd;have hpos:0<xs.length:=List.length_pos_iff.2 hne;have hcap:=sl.hc;obtain⟨qa,rfl⟩:∃qa,a=some qa:=by
  cases a with
  |none=>have:=sl.h0 rfl;omega
  |some qa=>simp
 have hs0:sz0=(U e).sz:=by rw[←sl.hz 0 hpos];exact hx _ (ad4 hpos)
 have hf:=sl.hf qa rfl 0 0 hpos ad9;have hq:=(sl.hs qa rfl ad9).1;have hcid:=hs _ _ hid;obtain⟨us,u1,u2,u3⟩:=g.obj id cs t hcid;have hnb:qa.block≠(c.φ id).block:=fun hh=>hf.2 ⟨id,_,hcid,hh.symm,Nat.zero_le _⟩
 obtain⟨ws,tw,fr,hws,hwlt⟩:∃ws tw fr,c.w.heap[qa.block]? =some (.cells ws tw fr)∧0<ws.size:=by
  have:=hf.1;simp only[World.cell?]at this;split at this
  ·rename_i ws tw fr hh
   refine⟨ws,tw,fr,hh,?_⟩
   grind
  all_goals cases this
 have hvs:vs= #[.slice (some qa) xs.length cap0,.slice (some ⟨(c.φ id).block,o,Option.none⟩) len cap]:=by
  apply Array.ext
  ·omega
  ·intro i hi hi2
   have hi3:i<2:=ad9;rcases i with _|_|i
   ·simpa[Array.getD,hi]using hu
   ·simpa[Array.getD,hi]using hv
   ·omega
 subst hvs;refine .inr ⟨.bool false,c.w,?_,c,_,h,rfl,g,.refl c,.v _,hs,rfl,rfl⟩;rw[Go.run_callFunc_extern hfn hname hb hn he];have key:(Extern.SlicesOverlaps.overlaps #[tS,tS] #[tR] #[.slice (some qa) xs.length cap0,.slice (some ⟨(c.φ id).block,o,Option.none⟩) len cap]).run P c.w= .ok (.bool false) c.w:=by
  have hnb1:(qa.block !=(c.φ id).block)=true:=aea;have hnb2:(qa.block==(c.φ id).block)=false:=aea;have hws2:∃m,ws.size=m+1:=⟨ws.size - 1,ad9⟩;obtain⟨m,hm⟩:=hws2
  change Sem.run P (α:=Value) (do
   let some t := (#[tS, tS] : Array TypeId)[0]? | stuck "slices.overlaps: no parameter types"
   let .slice elem ← underlying t | stuck "slices.overlaps: slice type expected"
   let size←sizeOf elem
   match (some qa:Option Addr),(some ⟨(c.φ id).block,o,Option.none⟩:Option Addr)with
   |some a,some b=>
    if xs.length=0∨len=0∨size=0 then pure (Value.bool false)
    else if a.block !=b.block && (←frozen a) && (←frozen b)then unsupported .addressObserved
    else do
     if a.block !=b.block then do
      noView a;noView b
      if ← mayBeOne a b then return Value.bool ((← choose (.extern "sameAddr.stringBytes" 2)) == 1)
     pure (Value.bool (a.block==b.block && a.off<b.off+len*size && b.off<a.off+xs.length*size))
   |_,_=>pure (Value.bool false)) c.w=_
  have hfb:∀x,c.w.frozen? ⟨(c.φ id).block,x,Option.none⟩=false:=fun x=>by grind [World.frozen?]
  have hsb:c.w.shape? (c.φ id).block=some (t,us.size):=by grind [World.shape?]
  have hsa:c.w.shape? qa.block=some (tw,m+1):=by grind [World.shape?]
  by_cases hl:len=0
  ·simp[run_underlying hd,bB hU hz,hl]
  ·have hus:us.size≠0:=by grind
   obtain⟨n,hn'⟩:∃n,us.size=n+1:=⟨us.size - 1,ad9⟩;rw[hn']at hsb;cases hfa:c.w.frozen? qa<;>cases hfa2:c.w.frozen? {block:=qa.block,off:=m+1}<;>
    simp[run_underlying hd,bB hU hz,hl,hne,hz,hnb1,hnb2,frozen,noView,viewAt,mayBeOne,stringish,shape,Sem.run,hsa,hsb,hfb,hfa,hfa2]
 rw[key];rfl
end
end Go.Ab
namespace Go.Bf
open Go Go.Ab
structure OpD where
 kind:Int
 subj:Txt
 case:Txt
 field:Txt
 to:Txt
 val:bu
 review:Int
 text:Txt
 reason:Txt
 glass:Bool
structure xV where
 tick:Int
 actor:Txt
 what:Txt
structure cO where
 name:Txt
 val:bu
structure aM where
 id:Txt
 owner:Txt
 state:Txt
 fields:List cO
 log:List xV
structure qt where
 id:Int
 tick:Int
 subj:Txt
 case:Txt
 action:Txt
 reason:Txt
 isOpen:Bool
structure IY where
 tick:Int
 case:Txt
 arg:Txt
structure ij where
 subj:Txt
 role:Txt
structure an where
 tick:Int
 cases:List aM
 reviews:List qt
 notices:List IY
 roles:List ij
 policy:bD
 version:Int
structure br where
 cat:Int
 name:Txt
 bag:List bu
def opC(o:OpD):List AV:=[.i o.kind,.s o.subj,.s o.case,.s o.field,.s o.to,.i o.val.kind,.i o.val.n,.s o.val.s,.i o.review,.s o.text,.s o.reason,.b o.glass]
def opA(o:OpD):AV:=.agg (opC o)
def iU(x:xV):AV:=.agg [.i x.tick,.s x.actor,.s x.what]
def bN(f:cO):AV:=.agg [.s f.name,.i f.val.kind,.i f.val.n,.s f.val.s]
def gF(l:List cO):AV:=.sl (l.map bN) .no
def sO(l:List xV):AV:=.sl (l.map iU) .no
def nL(c:aM):List AV:=[.s c.id,.s c.owner,.s c.state,gF c.fields,sO c.log]
def ct(c:aM):AV:=.agg (nL c)
def gm(l:List aM):AV:=.sl (l.map ct) .no
def iZ(r:qt):AV:=.agg [.i r.id,.i r.tick,.s r.subj,.s r.case,.s r.action,.s r.reason,.b r.isOpen]
def kN(l:List qt):AV:=.sl (l.map iZ) .no
def nw(n:IY):AV:=.agg [.i n.tick,.s n.case,.s n.arg]
def lO(l:List IY):AV:=.sl (l.map nw) .no
def eV(r:ij):AV:=.agg [.s r.subj,.s r.role]
def eJ(l:List ij):AV:=.sl (l.map eV) .no
def gb:bD→List AV
 |.mk id set alg tgt rules kids obls=>[.s id,.b set,.i alg,aV tgt,.sl (rules.map aC) .no,.sl (fK kids) .no,ay obls]
theorem PM(p:bD):aO p= .agg (gb p):=by cases p;rfl
def cI(s:an):AV:=.agg ([.i s.tick,gm s.cases,kN s.reviews,lO s.notices,eJ s.roles]++gb s.policy++ [.i s.version])
def lH(g:br):AV:=.agg [.i g.cat,.s g.name,.sl (g.bag.map aS) .no]
def bJ(l:List br):AV:=.sl (l.map lH) .no
def geB(a b:Txt):Bool:= !(Op.bytesLess a b)
def findD(cs:List aM)(id:Txt):Nat:=cs.findIdx fun c=>geB c.id id
def bZ(cs:List aM)(id:Txt):Bool:=match cs[findD cs id]? with
 |some c=>c.id==id
 |none=>false
def aq:bu:=⟨0,0,[]⟩
def oW:aM:=⟨[],[],[],[],[]⟩
def bw(cs:List aM)(id:Txt):aM:=if bZ cs id then cs.getD (findD cs id) oW else oW
def dQ(fs:List cO)(name:Txt):bu:=match fs.find? fun f=>f.name==name with
 |some f=>f.val
 |none=>aq
def u0(a b:ij):Bool:=a.subj==b.subj && a.role==b.role
def yK(l:List ij)(r:ij):Bool:=l.any (u0 r)
def jR:Txt:=[111,112,101,110]
def xk:Txt:=[119,111,114,107]
def AT:Txt:=[100,111,110,101]
def hY:Txt:=[99,108,111,115,101,100]
def mU(a b:Txt):Bool:=
 if a==jR then b==xk else if a==xk then b==AT else if a==AT then b==xk||b==hY else false
def UZ:List Txt:=[[110,101,119],[114,101,97,100],[119,114,105,116,101],[109,111,118,101],[99,108,111,115,101],[114,111,108,101],[112,111,108,105,99,121]]
def iS(k:Int):Txt:=if k<1∨k>7 then [116,105,99,107]else UZ.getD (k - 1).toNat []
def sQ(k:Int):Bool:=decide (1≤k) && decide (k≤4)
def jk(s:Txt):Bool:=s== []||bn s
def lq(o:OpD):Bool:=if o.glass then sQ o.kind && (!(o.reason== [])) && decide (o.reason.length≤64)else o.reason== []
def jc(o:OpD):OpD:=
 let z:OpD:=⟨o.kind,[],[],[],[],aq,0,[],[],false⟩
 if o.kind=1 then {z with case:=o.case}
 else if o.kind=2∨o.kind=6 then {z with case:=o.case,field:=o.field}
 else if o.kind=3 then {z with case:=o.case,field:=o.field,val:=o.val}
 else if o.kind=4 then {z with case:=o.case,to:=o.to}
 else if o.kind=5∨o.kind=8 then {z with review:=o.review}
 else {z with text:=o.text}
def eqV(a b:bu):Bool:=a.kind==b.kind && (a.n==b.n && a.s==b.s)
def nv(a b:OpD):Bool:=a.kind==b.kind && (a.subj==b.subj && (a.case==b.case && (a.field==b.field && (a.to==b.to && (a.val.kind==b.val.kind && (a.val.n==b.val.n && (a.val.s==b.val.s && (a.review==b.review && (a.text==b.text && (a.reason==b.reason && a.glass==b.glass))))))))))
def okD(o:OpD):Bool:=
 if o.kind=1 then !(o.case== [])
 else if o.kind=2∨o.kind=6 then !(o.case== []) && !(o.field== [])
 else if o.kind=3 then !(o.case== []) && !(o.field== []) && !(eqV o.val aq)
 else if o.kind=4 then !(o.case== []) && !(o.to== [])
 else if o.kind=5 then decide (0<o.review)
 else if o.kind=8 then decide (0<o.review) && decide (o.review≤1099511627776)
 else true
def gX(o:OpD):OpD:={o with subj:=[],reason:=[],glass:=false}
def dU(o:OpD):Bool:=decide (1≤o.kind) && decide (o.kind≤8) && okD o && nv (gX o) (jc o)
def cU(o:OpD):Bool:=bn o.subj && lq o && decide (o.text.length≤4096) && jk o.case && jk o.field && jk o.to && (eqV o.val aq||bz o.val) && dU o
def bT(s:an)(o:OpD):Int:=
 let c:=bw s.cases o.case
 if bZ s.cases o.case=false then 10
 else if o.kind=3∧c.fields.length≥16∧eqV (dQ c.fields o.field) aq=true then 6
 else if o.kind≠2∧c.log.length≥256 then 6
 else if o.kind=3∧c.state=hY∨o.kind=4∧mU c.state o.to=false then 13
 else 0
def wV(l:List qt)(n:Int):Option qt:=if 1≤n then l[(n - 1).toNat]? else none
def fu(s:an)(o:OpD):Int:=match wV s.reviews o.review with
 |none=>10
 |some r=>if r.isOpen=false then 10 else if r.subj=o.subj then 12 else 0
def bI(s:an)(o:OpD):Int:=
 if cU o=false then 1
 else if o.kind=1 then(if bZ s.cases o.case then 11 else if s.cases.length≥64 then 6 else 0)
 else if 2≤o.kind∧o.kind≤4 then bT s o
 else if o.kind=5 then fu s o
 else if o.kind=6 then(if s.roles.length≥64∧yK s.roles ⟨o.case,o.field⟩=false then 6 else 0)
 else if o.kind=8 then(if s.tick>1099511627776 - o.review then 6 else 0)
 else 0
def idV(s:Txt):bu:=⟨5,0,s⟩
def uC(l:List xV)(subj:Txt):bu:=⟨1,if l.any (fun x=>x.actor==subj)then 1 else 0,[]⟩
def idT:Txt:=[105,100]
def cG(c:aM)(subj:Txt):List br:=
 [⟨3,idT,[idV c.id]⟩,⟨3,[111,119,110,101,114],[idV c.owner]⟩,⟨3,[115,116,97,116,101],[idV c.state]⟩,⟨3,[101,118,101,110,116,115],[⟨2,c.log.length,[]⟩]⟩,⟨3,[116,111,111,107],[uC c.log subj]⟩]++
 (match c.log.getLast? with
  |some x=>[⟨3,[108,97,115,116],[idV x.actor]⟩]
  |none=>[])++
 (c.fields.filter fun f=>decide (f.name.length≤14)).map fun f=>⟨3,[102,95]++f.name,[f.val]⟩
def dD(l:List ij)(subj:Txt):List bu:=((l.filter fun r=>r.subj==subj).map fun r=>idV r.role).take 16
def fL(s:an)(o:OpD):List br:=
 [⟨1,idT,[idV o.subj]⟩,⟨1,[114,111,108,101],dD s.roles o.subj⟩,⟨2,[110,97,109,101],[idV (iS o.kind)]⟩]++
 (if o.field= []then []else [⟨2,[102,105,101,108,100],[idV o.field]⟩])++
 (if o.to= []then []else [⟨2,[116,111],[idV o.to]⟩])++
 [⟨4,[110,111,119],[⟨4,s.tick,[]⟩]⟩]++
 (if bZ s.cases o.case=true∧o.kind≠6 then cG (bw s.cases o.case) o.subj else [])
def eN(fs:List cO)(name:Txt)(v:bu):List cO:=
 let i:=fs.findIdx fun f=>geB f.name name
 match fs[i]? with
 |none=>fs++ [⟨name,v⟩]
 |some f=>if f.name=name then fs.set i ⟨f.name,v⟩else fs.take i++ [⟨name,v⟩]++fs.drop i
def jD(s:an)(c:aM)(actor what:Txt):aM:={c with log:=c.log++ [⟨s.tick,actor,what⟩]}
def doD(par:Txt→bD×Int×Int)(s:an)(o:OpD):an:=
 let i:=findD s.cases o.case
 if o.kind=1 then {s with cases:=s.cases.take i++ [jD s ⟨o.case,o.subj,jR,[],[]⟩ o.subj [110,101,119]]++s.cases.drop i}
 else if o.kind=3 then {s with cases:=s.cases.modify i fun c=>jD s {c with fields:=eN c.fields o.field o.val} o.subj [119,114,105,116,101]}
 else if o.kind=4 then {s with cases:=s.cases.modify i fun c=>jD s {c with state:=o.to} o.subj o.to}
 else if o.kind=5 then {s with reviews:=s.reviews.modify (o.review - 1).toNat fun r=> {r with isOpen:=false}}
 else if o.kind=6 then(if yK s.roles ⟨o.case,o.field⟩then s else {s with roles:=s.roles++ [⟨o.case,o.field⟩]})
 else if o.kind=7 then(if(par o.text).2.1=0 then {s with policy:=(par o.text).1,version:=s.version+1} else s)
 else if o.kind=8 then {s with tick:=s.tick+o.review}
 else s
def cS(par:Txt→bD×Int×Int)(s:an)(o:OpD):an:=if bI s o=0 then doD par s o else s
def i64(n:Int):Prop:= -9223372036854775808≤n∧n≤9223372036854775807
end Go.Bf
namespace Go.Proofs.YtbbadggejjgihaaGreatDoor
open Go Go.Ab Go.Bf
theorem aB{h:Heap}{i j:Nat}{b:Blk}(e:upd h i (some b) j=none):h j=none:=by grind [ag,aI]
theorem N2{v:bu}(h:(v.kind==(0:Int) && (v.n==(0:Int) && v.s==([]:Txt)))=false):¬v.kind=0∨¬v.n=0∨¬v.s= []:=by
 grind
theorem N1{v:bu}(h:(v.kind==(0:Int) && (v.n==(0:Int) && v.s==([]:Txt)))=true):v.kind=0∧v.n=0∧v.s= []:=by
 grind
theorem Kf(k:Int)(h:Heap):ai Tryz.prog 153 [.i k] h fun r h' =>r= .b (sQ k)∧h' =h:=by
 refine ad8 Tryz.func153 9 [.tmp 2] fun hwf=>?_
 cases d1:decide (1≤k)
 ·simp only[go_sem,d1]
  exact .same (.refl _) ⟨by simp only[sQ,d1,ax,Bool.false_and],rfl⟩
 ·simp only[go_sem,d1]
  exact .same (.refl _) ⟨by simp_all [sQ,ax,Bool.true_and],rfl⟩
theorem yu(s:Txt)(h:Heap):ai Tryz.prog 98 [.s s] h fun r h' =>r= .b (jk s)∧h' =h:=by
 refine ad8 Tryz.func98 9 [.tmp 2] fun hwf=>?_
 cases d1:(s==([]:Txt))
 ·simp only[go_sem,d1]
  refine(pK s h).pthen ?_;simp only[go_sem];exact .same (.refl _) ⟨by simp_all [jk,ax,Bool.false_or],rfl⟩
 ·simp only[go_sem,d1]
  exact .same (.refl _) ⟨by simp_all [jk,ax,Bool.true_or],rfl⟩
theorem F1(a b:Txt)(h:Heap):ai Tryz.prog 157 [.s a,.s b] h fun r h' =>r= .b (mU a b)∧h' =h:=by
 refine ad8 Tryz.func157 22 [.tmp 4] fun hwf=>?_
 cases d1:(a==jR)<;>cases d2:(a==xk)<;>cases d3:(a==AT)<;>cases d4:(b==xk)<;>simp only[jR,xk,AT]at d1 d2 d3 d4<;>simp only[go_sem,d1,d2,d3,d4]<;>
  exact .same (.refl _) ⟨by simp only[mU,d1,d2,d3,d4,ax,jR,xk,AT,hY,if_true,Bool.false_eq_true,if_false,Bool.true_or,Bool.false_or],rfl⟩
theorem uS(k:Int)(hk:i64 k)(h:Heap):ai Tryz.prog 94 [.i k] h fun r h' =>r= .s (iS k)∧h' =h:=by
 refine ad8 Tryz.func94 18 [.tmp 2] fun hwf=>?_
 simp only[go_sem];cases d1:decide (k<1)
 case true=>
  simp only[go_sem];exact .same (.refl _) ⟨by simp_all [iS,ad1,true_or,if_true,ax],rfl⟩
 cases d2:decide ((7:Int)<k)
 case true=>
  simp only[go_sem,d2];exact .same (.refl _) ⟨by simp_all [iS,ad1,or_true,if_true,ax],rfl⟩
 have h1:=ad2 d1;have h2:=ad2 d2;obtain⟨j,rfl⟩:∃j:Nat,k=(j:Int)+1:=⟨(k - 1).toNat,ad9⟩;have hj:j<7:=ad9;have w1:IntKind.i64.wrap ((j:Int)+1 - 1)=(j:Int):=aek;simp only[go_sem,d2,w1];refine .at j ad9 (by rcases j with _|_|_|_|_|_|_|j<;>first|rfl|omega) ?_
 rcases j with _|_|_|_|_|_|_|j
 all_goals first|omega|skip
 all_goals
  simp only[go_sem,List.getElem_cons_zero,List.getElem_cons_succ];exact .same (.refl _) ⟨aeo,rfl⟩
theorem Kt(o:OpD)(h:Heap):ai Tryz.prog 97 [opA o] h fun r h' =>r= .v (.bool (lq o))∧h' =h:=by
 refine ad8 Tryz.func97 23 [.tmp 2] fun hwf=>?_
 simp only[go_sem,opA,opC];intro id hid;cases d1:o.glass
 ·simp only[go_sem]
  exact ajA
 simp only[go_sem];refine(Kf _ _).pthen ?_;cases d2:sQ o.kind
 ·simp only[go_sem]
  exact ajA
 cases d3:(o.reason==([]:Txt))
 ·simp only[go_sem,d3]
  exact .mk _ (.refl _) (.aj hid) ⟨by
   simp only[lq,d1,d2,d3,ax,if_true,Bool.not_false,Bool.true_and]
   congr 2
   grind,rfl⟩
 ·simp only[go_sem,d3]
  exact ajA
theorem OF(o:OpD)(h:Heap):ai Tryz.prog 154 [opA o] h fun r h' =>r=opA (gX o)∧h' =h:=by
 refine ad8 Tryz.func154 7 [.cell 2 34] fun hwf=>?_
 simp only[go_sem,opA,opC];intro i1 h1;simp only[go_sem];intro i2 h2;have hne:=aI h2;simp only[go_sem,ak,hne,hne.symm];have n2:=aB h2;exact .mk _ (.refl _) (((((Sub.refl h).put h1 _).put n2 _).put h1 _).put n2 _) ⟨rfl,rfl⟩
theorem NQ(o:OpD)(h:Heap):ai Tryz.prog 100 [opA o] h fun r h' =>r= .b (dU o)∧h' =h:=by
 have hb:=fun hh=>OF o hh
 simp only[gX,opA,opC]at hb;refine ad8 Tryz.func100 111 [.tmp 2] fun hwf=>?_
 simp -implicitDefEqProofs only[go_sem,opA,opC];intro i1 h1;simp -implicitDefEqProofs only[go_sem];refine(hb _).pthen ?_;simp -implicitDefEqProofs only[go_sem];intro i3 h3;have n31:=aI h3;have n3:=aB h3;simp -implicitDefEqProofs only[go_sem,ak,n31.symm];intro i4 h4;have n43:=aI h4;have h4' :=aB h4;have n41:=aI h4';have n4:=aB h4';have bnd:o.kind≠1→o.kind≠2→o.kind≠3→o.kind≠4→o.kind≠5→o.kind≠6→o.kind≠7→o.kind≠8→(decide (1≤o.kind) && decide (o.kind≤8))=false:=by
  intro a1 a2 a3 a4 a5 a6 a7 a8;simp only[Bool.and_eq_false_iff,decide_eq_false_iff_not];omega
 by_cases k1:o.kind=1
 ·simp -implicitDefEqProofs only[go_sem,ak,n31.symm,n41.symm,k1]
  cases dcase:(o.case==([]:Txt))
  ·simp -implicitDefEqProofs only[go_sem,ak,n43.symm]
   exact .mk _ (.refl _) aef ⟨by simp[dU,okD,jc,gX,nv,aq,ax,k1,decide_true,dcase,Bool.and_true,Bool.true_and,Bool.not_false],rfl⟩
  ·simp -implicitDefEqProofs only[go_sem]
   exact .mk _ (.refl _) aef ⟨by simp[dU,okD,jc,gX,nv,aq,ax,k1,decide_true,dcase,Bool.and_true,Bool.true_and,Bool.false_and,Bool.and_false,Bool.not_true],rfl⟩
 by_cases k2:o.kind=2
 ·simp -implicitDefEqProofs only[go_sem,ak,n31.symm,n41.symm,k2,Int.reduceBEq]
  refine .calls (hm1 i1 _) [0,1,2,3,4,5,6,7] (.hm1 afR) aec rfl ?_;simp -implicitDefEqProofs only[go_sem,ak,n31.symm,n41.symm];refine⟨(.hm1 aex),(.hm1 aex),?_⟩;cases dcase:(o.case==([]:Txt))
  ·simp -implicitDefEqProofs only[go_sem,ak,n31.symm,n41.symm]
   cases dfield:(o.field==([]:Txt))
   ·simp -implicitDefEqProofs only[go_sem,ak,n43.symm]
    exact .mk _ (.refl _) aef ⟨by simp[dU,okD,jc,gX,nv,aq,ax,k2,decide_true,dcase,dfield,Bool.and_true,Bool.true_and,Bool.not_false],rfl⟩
   ·simp -implicitDefEqProofs only[go_sem]
    exact .mk _ (.refl _) aef ⟨by simp[dU,okD,jc,gX,nv,aq,ax,k2,decide_true,dcase,dfield,Bool.and_true,Bool.true_and,Bool.false_and,Bool.and_false,Bool.not_true,Bool.not_false],rfl⟩
  ·simp -implicitDefEqProofs only[go_sem]
   exact .mk _ (.refl _) aef ⟨by simp[dU,okD,jc,gX,nv,aq,ax,k2,decide_true,dcase,Bool.and_true,Bool.true_and,Bool.false_and,Bool.and_false,Bool.not_true],rfl⟩
 by_cases k6:o.kind=6
 ·simp -implicitDefEqProofs only[go_sem,ak,n31.symm,n41.symm,k6,Int.reduceBEq]
  refine .calls (hm1 i1 _) [0,1,2,3,4,5,6,7] (.hm1 afR) aec rfl ?_;simp -implicitDefEqProofs only[go_sem,ak,n31.symm,n41.symm];refine⟨(.hm1 aex),(.hm1 aex),?_⟩;cases dcase:(o.case==([]:Txt))
  ·simp -implicitDefEqProofs only[go_sem,ak,n31.symm,n41.symm]
   cases dfield:(o.field==([]:Txt))
   ·simp -implicitDefEqProofs only[go_sem,ak,n43.symm]
    exact .mk _ (.refl _) aef ⟨by simp[dU,okD,jc,gX,nv,aq,ax,k6,decide_true,dcase,dfield,Bool.and_true,Bool.true_and,Bool.not_false],rfl⟩
   ·simp -implicitDefEqProofs only[go_sem]
    exact .mk _ (.refl _) aef ⟨by simp[dU,okD,jc,gX,nv,aq,ax,k6,decide_true,dcase,dfield,Bool.and_true,Bool.true_and,Bool.false_and,Bool.and_false,Bool.not_true,Bool.not_false],rfl⟩
  ·simp -implicitDefEqProofs only[go_sem]
   exact .mk _ (.refl _) aef ⟨by simp[dU,okD,jc,gX,nv,aq,ax,k6,decide_true,dcase,Bool.and_true,Bool.true_and,Bool.false_and,Bool.and_false,Bool.not_true],rfl⟩
 by_cases k3:o.kind=3
 ·simp -implicitDefEqProofs only[go_sem,ak,n31.symm,n41.symm,k3,Int.reduceBEq]
  refine .calls (hm1 i1 _) [0,1,2,3,4,5,6,7,8,9,10,11] (.hm1 afR) aec rfl ?_;simp -implicitDefEqProofs only[go_sem,ak,n31.symm,n41.symm];refine⟨(.hm1 aex),(.hm1 aex),(.hm1 aex),?_⟩;cases dcase:(o.case==([]:Txt))
  ·simp -implicitDefEqProofs only[go_sem,ak,n31.symm,n41.symm]
   cases dfield:(o.field==([]:Txt))
   ·simp -implicitDefEqProofs only[go_sem,ak,n31.symm,n41.symm]
    cases dval:(o.val.kind==(0:Int) && (o.val.n==(0:Int) && o.val.s==([]:Txt)))
    ·simp -implicitDefEqProofs only[go_sem,ak,n43.symm]
     exact .mk _ (.refl _) aef ⟨aeC,rfl⟩
    ·simp -implicitDefEqProofs only[go_sem]
     exact .mk _ (.refl _) aef ⟨aeC,rfl⟩
   ·simp -implicitDefEqProofs only[go_sem]
    exact .mk _ (.refl _) aef ⟨by simp[dU,okD,jc,gX,nv,eqV,aq,ax,k3,decide_true,dcase,dfield,Bool.and_true,Bool.true_and,Bool.false_and,Bool.and_false,Bool.not_true,Bool.not_false],rfl⟩
  ·simp -implicitDefEqProofs only[go_sem]
   exact .mk _ (.refl _) aef ⟨by simp[dU,okD,jc,gX,nv,eqV,aq,ax,k3,decide_true,dcase,Bool.and_true,Bool.true_and,Bool.false_and,Bool.and_false,Bool.not_true],rfl⟩
 by_cases k4:o.kind=4
 ·simp -implicitDefEqProofs only[go_sem,ak,n31.symm,n41.symm,k4,Int.reduceBEq]
  refine .calls (hm1 i1 _) [0,1,2,3,4,5,6,7] (.hm1 afR) aec rfl ?_;simp -implicitDefEqProofs only[go_sem,ak,n31.symm,n41.symm];refine⟨(.hm1 aex),(.hm1 aex),?_⟩;cases dcase:(o.case==([]:Txt))
  ·simp -implicitDefEqProofs only[go_sem,ak,n31.symm,n41.symm]
   cases dto:(o.to==([]:Txt))
   ·simp -implicitDefEqProofs only[go_sem,ak,n43.symm]
    exact .mk _ (.refl _) aef ⟨by simp[dU,okD,jc,gX,nv,aq,ax,k4,decide_true,dcase,dto,Bool.and_true,Bool.true_and,Bool.not_false],rfl⟩
   ·simp -implicitDefEqProofs only[go_sem]
    exact .mk _ (.refl _) aef ⟨by simp[dU,okD,jc,gX,nv,aq,ax,k4,decide_true,dcase,dto,Bool.and_true,Bool.true_and,Bool.false_and,Bool.and_false,Bool.not_true,Bool.not_false],rfl⟩
  ·simp -implicitDefEqProofs only[go_sem]
   exact .mk _ (.refl _) aef ⟨by simp[dU,okD,jc,gX,nv,aq,ax,k4,decide_true,dcase,Bool.and_true,Bool.true_and,Bool.false_and,Bool.and_false,Bool.not_true],rfl⟩
 by_cases k5:o.kind=5
 ·simp -implicitDefEqProofs only[go_sem,ak,n31.symm,n41.symm,k5,Int.reduceBEq]
  cases drev0:decide ((0:Int)<o.review)
  ·simp -implicitDefEqProofs only[go_sem]
   exact .mk _ (.refl _) aef ⟨by simp[dU,okD,jc,gX,nv,aq,ax,k5,decide_true,drev0,Bool.and_true,Bool.true_and,Bool.false_and,Bool.and_false],rfl⟩
  ·simp -implicitDefEqProofs only[go_sem,ak,n43.symm]
   exact .mk _ (.refl _) aef ⟨by simp[dU,okD,jc,gX,nv,aq,ax,k5,decide_true,drev0,Bool.and_true,Bool.true_and],rfl⟩
 by_cases k7:o.kind=7
 ·simp -implicitDefEqProofs only[go_sem,ak,n31.symm,n43.symm,n41.symm,k7,Int.reduceBEq]
  exact .mk _ (.refl _) aef ⟨by simp[dU,okD,jc,gX,nv,aq,ax,k7,decide_true,Bool.and_true,Bool.true_and],rfl⟩
 by_cases k8:o.kind=8
 ·simp -implicitDefEqProofs only[go_sem,ak,n31.symm,n41.symm,k8,Int.reduceBEq]
  cases drev0:decide ((0:Int)<o.review)
  ·simp -implicitDefEqProofs only[go_sem]
   exact .mk _ (.refl _) aef ⟨by simp[dU,okD,jc,gX,nv,aq,ax,k8,decide_true,drev0,Bool.and_true,Bool.true_and,Bool.false_and,Bool.and_false],rfl⟩
  ·simp -implicitDefEqProofs only[go_sem,ak,n31.symm,n41.symm]
   cases drev1:decide (o.review≤(1099511627776:Int))
   ·simp -implicitDefEqProofs only[go_sem]
    exact .mk _ (.refl _) aef ⟨by simp[dU,okD,jc,gX,nv,aq,ax,k8,decide_true,drev0,drev1,Bool.and_true,Bool.true_and,Bool.false_and,Bool.and_false],rfl⟩
   ·simp -implicitDefEqProofs only[go_sem,ak,n43.symm]
    exact .mk _ (.refl _) aef ⟨by simp[dU,okD,jc,gX,nv,aq,ax,k8,decide_true,drev0,drev1,Bool.and_true,Bool.true_and],rfl⟩
 simp -implicitDefEqProofs only[go_sem,ak,n31.symm,n41.symm,beq_eq_false_iff_ne.2 k1,beq_eq_false_iff_ne.2 k2,beq_eq_false_iff_ne.2 k6,beq_eq_false_iff_ne.2 k3,beq_eq_false_iff_ne.2 k4,beq_eq_false_iff_ne.2 k5,beq_eq_false_iff_ne.2 k7,beq_eq_false_iff_ne.2 k8];exact .mk _ (.refl _) aef ⟨by simp only[dU,bnd k1 k2 k3 k4 k5 k6 k7 k8,Bool.false_and,ax],rfl⟩
theorem Cg(o:OpD)(h:Heap):ai Tryz.prog 49 [opA o] h fun r h' =>r= .b (cU o)∧h' =h:=by
 have hr:=fun hh=>Kt o hh
 have ht:=fun hh=>NQ o hh
 have hv:=fun hh=>fV o.val hh
 simp only[opA,opC,aS]at hr ht hv;refine ad8 Tryz.func49 48 [.tmp 2] fun hwf=>?_
 simp -implicitDefEqProofs only[go_sem,opA,opC];intro i1 h1;simp -implicitDefEqProofs only[go_sem];refine(pK o.subj _).pthen ?_;cases d1:bn o.subj
 ·simp -implicitDefEqProofs only[go_sem]
  exact .mk _ (.refl _) (.aj h1) ⟨by simp_all [cU,Bool.false_and,ax],rfl⟩
 simp -implicitDefEqProofs only[go_sem];refine(hr _).pthen ?_;cases d2:lq o
 ·exact aiR
 cases d3:decide ((4096:Int)<(o.text.length:Int))
 case true=>
  have e3:decide (o.text.length≤4096)=false:=decide_eq_false aea;simp -implicitDefEqProofs only[go_sem,d3];exact .mk _ (.refl _) (.aj h1) ⟨by simp only[cU,d1,d2,e3,Bool.false_and,Bool.true_and,ax],rfl⟩
 have e3:decide (o.text.length≤4096)=true:=decide_eq_true aea;simp -implicitDefEqProofs only[go_sem,d3];refine(yu o.case _).pthen ?_;cases d4:jk o.case
 ·exact aiR
 simp -implicitDefEqProofs only[go_sem];refine(yu o.field _).pthen ?_;cases d5:jk o.field
 ·exact aiR
 simp -implicitDefEqProofs only[go_sem];refine(yu o.to _).pthen ?_;cases d6:jk o.to
 ·exact aiR
 cases d7:(o.val.kind==(0:Int) && (o.val.n==(0:Int) && o.val.s==([]:Txt)))
 ·simp -implicitDefEqProofs only[go_sem,d7]
  refine(hv _).pthen ?_;have e7:eqV o.val aq=false:=d7;cases d8:bz o.val
  ·simp -implicitDefEqProofs only[go_sem]
   exact .mk _ (.refl _) (.aj h1) ⟨by simp_all [cU,Bool.or_self,Bool.false_and,Bool.true_and,ax],rfl⟩
  simp -implicitDefEqProofs only[go_sem];refine(ht _).pthen ?_;simp -implicitDefEqProofs only[go_sem];exact .mk _ (.refl _) (.aj h1) ⟨by simp_all [cU,Bool.false_or,Bool.true_and,ax],rfl⟩
 ·simp -implicitDefEqProofs only[go_sem,d7]
  have e7:eqV o.val aq=true:=d7;refine(ht _).pthen ?_;simp -implicitDefEqProofs only[go_sem];exact .mk _ (.refl _) (.aj h1) ⟨by simp_all [cU,Bool.true_or,Bool.true_and,ax],rfl⟩
end Go.Proofs.YtbbadggejjgihaaGreatDoor
namespace Go.Bf
open Go Go.Ab
def ixD{α:Type}(q:α→Bool)(l:List α):Int:=if l.findIdx q<l.length then(l.findIdx q:Nat)else -1
theorem oo{α:Type}{q:α→Bool}{l:List α}{i:Nat}(hi:i<l.length)(h1:q l[i]=true)(h2:∀j (hj:j<i),q (l[j]'ad9)=false):ixD q l=(i:Nat):=by
 have e:l.findIdx q=i:=by grind [List.findIdx_eq]
 rw[ixD,e,if_pos hi]
theorem jt{α:Type}{q:α→Bool}{l:List α}(h:∀j (hj:j<l.length),q l[j]=false):ixD q l= -1:=by
 have e:l.findIdx q=l.length:=aea;rw[ixD,e,if_neg (Nat.lt_irrefl _)]
end Go.Bf
namespace Go.Proofs.YtbbadggejjgihaaGreatDoor
open Go Go.Ab Go.Bf
theorem vi{α:Type}(y:AV)(xs:List AV)(ds:List α)(q:α→Bool)(g:FuncId)(cap:List AV)(h:Heap)(hb:Rd h 5 y xs)(hn:xs.length=ds.length)(hl:xs.length≤1000000000)(hx:∀x∈xs,bA x=true)
  (hp:∀i (h1:i<xs.length) (h2:i<ds.length),ai Tryz.prog g (xs[i]::cap) h fun r h' =>r= .b (q ds[i])∧h' =h):
  ai Tryz.prog 155 [y,.fn g cap] h fun r h' =>r= .i (ixD q ds)∧h' =h:=by
 refine ad8 Tryz.func155 19 [.tmp 4] fun hwf=>?_
 simp only[go_sem,hb.len];refine .intro (fun m ρ h' =>h' =h∧∃i:Nat,i≤xs.length∧m=xs.length - i∧(∀j (hj:j<i) (h2:j<ds.length),q ds[j]=false)∧lk ρ 0=some y∧lk ρ 1=some (.fn g cap)∧lk ρ 7=some (.i xs.length)∧lk ρ 8=some (.i i)) xs.length ?_ ?_
 ·refine⟨rfl,0,ad9,rfl,fun j hj=>ad9,?_,?_,?_,?_⟩<;>simp only[go_sem]
 ·rintro m ρ h' ⟨rfl,i,hi,rfl,hc,r0,r1,r7,r8⟩
  simp only[go_sem,r7,r8];refine .intro (fun e=>?_) (fun e=>?_)
  ·have hlt:i<xs.length:=ad6 e
   have hlt2:i<ds.length:=ad9;have w1:IntKind.i64.wrap ((i:Int)+1)=((i+1:Nat):Int):=aek;simp only[go_sem,r0,r1,r8];refine hb.idx (e:=133) i rfl hlt aeo aed fun p hp1=>?_
   have hld:=hp1.all (U:=U) (ty:=133) aed ae3 afY;simp only[go_sem,hld];refine(show ai Tryz.prog g (xs[i]::cap) _ _ from hp i hlt hlt2).pthen ?_
   cases d1:q ds[i]
   ·simp only[go_sem,r8,w1]
    refine⟨_,?_,rfl,i+1,ad9,rfl,fun j hj h2=>?_,?_,?_,?_,?_⟩
    ·omega
    ·grind
    all_goals simp only[go_sem,r0,r1,r7]
   ·simp only[go_sem]
    exact .same (.refl _) ⟨aeT,rfl⟩
  ·have hge:i=xs.length:=by grind
   simp only[go_sem];exact .same (.refl _) ⟨aeB,rfl⟩
theorem yR{α:Type}(y:AV)(xs:List AV)(ds:List α)(q:α→Bool)(g:FuncId)(cap:List AV)(h:Heap)(hb:Rd h 4 y xs)(hn:xs.length=ds.length)(hl:xs.length≤1000000000)(hx:∀x∈xs,bA x=true)
  (hp:∀i (h1:i<xs.length) (h2:i<ds.length),ai Tryz.prog g (xs[i]::cap) h fun r h' =>r= .b (q ds[i])∧h' =h):
  ai Tryz.prog 122 [y,.fn g cap] h fun r h' =>r= .i (ixD q ds)∧h' =h:=by
 refine ad8 Tryz.func122 19 [.tmp 4] fun hwf=>?_
 simp only[go_sem,hb.len];refine .intro (fun m ρ h' =>h' =h∧∃i:Nat,i≤xs.length∧m=xs.length - i∧(∀j (hj:j<i) (h2:j<ds.length),q ds[j]=false)∧lk ρ 0=some y∧lk ρ 1=some (.fn g cap)∧lk ρ 7=some (.i xs.length)∧lk ρ 8=some (.i i)) xs.length ?_ ?_
 ·refine⟨rfl,0,ad9,rfl,fun j hj=>ad9,?_,?_,?_,?_⟩<;>simp only[go_sem]
 ·rintro m ρ h' ⟨rfl,i,hi,rfl,hc,r0,r1,r7,r8⟩
  simp only[go_sem,r7,r8];refine .intro (fun e=>?_) (fun e=>?_)
  ·have hlt:i<xs.length:=ad6 e
   have hlt2:i<ds.length:=ad9;have w1:IntKind.i64.wrap ((i:Int)+1)=((i+1:Nat):Int):=aek;simp only[go_sem,r0,r1,r8];refine hb.idx (e:=160) i rfl hlt aeo aed fun p hp1=>?_
   have hld:=hp1.all (U:=U) (ty:=160) aed ae3 afY;simp only[go_sem,hld];refine(show ai Tryz.prog g (xs[i]::cap) _ _ from hp i hlt hlt2).pthen ?_
   cases d1:q ds[i]
   ·simp only[go_sem,r8,w1]
    refine⟨_,?_,rfl,i+1,ad9,rfl,fun j hj h2=>?_,?_,?_,?_,?_⟩
    ·omega
    ·grind
    all_goals simp only[go_sem,r0,r1,r7]
   ·simp only[go_sem]
    exact .same (.refl _) ⟨aeT,rfl⟩
  ·have hge:i=xs.length:=by grind
   simp only[go_sem];exact .same (.refl _) ⟨aeB,rfl⟩
def RdC(h:Heap)(x:AV)(c:aM):Prop:=∃f l,x= .agg [.s c.id,.s c.owner,.s c.state,f,l]∧Rd h 4 f (c.fields.map bN)∧Rd h 3 l (c.log.map iU)
def Ac(h:Heap)(y:AV)(cs:List aM):Prop:=∃xs,Rd h 5 y xs∧xs.length=cs.length∧∀i (h1:i<xs.length) (h2:i<cs.length),RdC h xs[i] cs[i]
def RdS(h:Heap)(x:AV)(s:an):Prop:=∃y1 y2 y3 y4,x= .agg ([.i s.tick,y1,y2,y3,y4]++gb s.policy++ [.i s.version])∧Ac h y1 s.cases∧Rd h 7 y2 (s.reviews.map iZ)∧Rd h 3 y3 (s.notices.map nw)∧Rd h 2 y4 (s.roles.map eV)
theorem RdC.sub{h h' :Heap}{x:AV}{c:aM}(hb:RdC h x c)(hs:Ab.Sub h h'):RdC h' x c:=by
 obtain⟨f,l,e,h1,h2⟩:=hb;exact⟨f,l,e,h1.sub hs,h2.sub hs⟩
theorem Ac.sub{h h' :Heap}{y:AV}{cs:List aM}(hb:Ac h y cs)(hs:Ab.Sub h h'):Ac h' y cs:=by
 obtain⟨xs,h1,h2,h3⟩:=hb;exact⟨xs,h1.sub hs,h2,fun i a b=>(h3 i a b).sub hs⟩
theorem RdS.sub{h h' :Heap}{x:AV}{s:an}(hb:RdS h x s)(hs:Ab.Sub h h'):RdS h' x s:=by
 obtain⟨y1,y2,y3,y4,e,h1,h2,h3,h4⟩:=hb;exact⟨y1,y2,y3,y4,e,h1.sub hs,h2.sub hs,h3.sub hs,h4.sub hs⟩
theorem bx{α:Type}{f:α→AV}{n:Nat}(hf:∀a,(f a).cells.length=n)(l:List α):Sized n (l.map f):=fun z hz=>by
 grind
theorem o6{α:Type}{f:α→AV}(hf:∀a,bA (f a)=true)(l:List α):∀x∈l.map f,bA x=true:=fun z hz=>by
 obtain⟨a,_,rfl⟩:=List.mem_map.1 hz;exact hf a
theorem eE{α:Type}(f:α→AV)(n:Nat)(hf:∀a,(f a).cells.length=n)(h:Heap)(l:List α):Rd h n (.sl (l.map f) .no) (l.map f):=.sl (bx hf l) _
theorem rdC(h:Heap)(c:aM):RdC h (ct c) c:=⟨_,_,rfl,eE bN 4 (fun _=>rfl) h _,eE iU 3 (fun _=>rfl) h _⟩
theorem YW(h:Heap)(cs:List aM):Ac h (gm cs) cs:=⟨_,eE ct 5 (fun _=>rfl) h cs,aeg,fun i h1 h2=>by grind [rdC]⟩
theorem rdS(h:Heap)(s:an):RdS h (cI s) s:=⟨_,_,_,_,rfl,YW h _,eE iZ 7 (fun _=>rfl) h _,eE nw 3 (fun _=>rfl) h _,eE eV 2 (fun _=>rfl) h _⟩
theorem RdC.agg{h:Heap}{x:AV}{c:aM}(hb:RdC h x c):bA x=true:=by
 obtain⟨f,l,rfl,_⟩:=hb;rfl
theorem Ac.agg{h:Heap}{xs:List AV}{cs:List aM}(hn:xs.length=cs.length)(hb:∀i (h1:i<xs.length) (h2:i<cs.length),RdC h xs[i] cs[i]):∀x∈xs,bA x=true:=fun x hx=>by
 obtain⟨i,hi,rfl⟩:=List.mem_iff_getElem.1 hx;exact(hb i hi ad9).agg
theorem nX:(U 133).sz=5:=aeo
theorem Hh:(U 160).sz=4:=aeo
theorem KQ:(U 9).sz≠0:=aed
theorem NZ:(U 9).sz=1:=aeo
theorem L9{h:Heap}{x:AV}{c:aM}(hb:RdC h x c){k:Nat}{id:Txt}(hk:h k=some (.obj [.s id] 9)):ai Tryz.prog 156 [x,.ptr k 0] h fun r h' =>r= .b (geB c.id id)∧h' =h:=by
 obtain⟨f,l,rfl,hf,hl⟩:=hb;refine ad8 Tryz.func156 8 [.tmp 3] fun hwf=>?_
 simp only[go_sem];exact aiB
structure Few (s:an):Prop where
 cases:s.cases.length≤1000000
 fields:∀c∈s.cases,c.fields.length≤1000000
 log:∀c∈s.cases,c.log.length≤1000000
 reviews:s.reviews.length≤1000000
 notices:s.notices.length≤1000000
 roles:s.roles.length≤1000000
theorem jS{cs:List aM}{id:Txt}(h:bZ cs id=true):findD cs id<cs.length:=by
 grind [bZ,List.getElem?_eq_some_iff]
theorem KK{cs:List aM}{id:Txt}(h:findD cs id<cs.length):bZ cs id=(cs[findD cs id].id==id):=by
 grind [bZ,List.getElem?_eq_getElem]
theorem KL{cs:List aM}{id:Txt}(h:¬findD cs id<cs.length):bZ cs id=false:=by
 grind [bZ,List.getElem?_eq_none]
theorem Ce{h:Heap}{x:AV}{s:an}(hb:RdS h x s)(id:Txt)(hl:s.cases.length≤1000000):ai Tryz.prog 101 [x,.s id] h fun r h' =>r= .tup [.i (findD s.cases id:Nat),.b (bZ s.cases id)]∧h' =h:=by
 obtain⟨y1,y2,y3,y4,rfl,⟨xs,hc,hn,hcs⟩,h2,h3,h4⟩:=hb;cases hp:s.policy with
 |mk pid pset palg ptgt prules pkids pobls=>
 refine ad8 Tryz.func101 25 [.tmp 4,.tmp 5] fun hwf=>?_
 simp only[go_sem,gb,List.cons_append,List.nil_append];intro i1 h1;simp only[go_sem];intro i2 h2;have n21:=aI h2;have n2:=aB h2;have hs:∀a b,Ab.Sub h (upd (upd h i1 a) i2 b):=fun a b=>((Sub.refl h).put h1 a).put n2 b
 simp only[go_sem,ak,n21.symm];refine(vi y1 xs s.cases (fun c=>geB c.id id) _ [.ptr i2 0] _ (hc.sub (hs _ _)) hn ad9 (Ac.agg hn hcs) fun i a b=>L9 ((hcs i a b).sub (hs _ _)) (ah ..)).pthen ?_
 by_cases hf:findD s.cases id<s.cases.length
 ·have e1:ixD (fun c=>geB c.id id) s.cases=(findD s.cases id:Nat):=by rw[ixD];exact if_pos hf
  have d1:decide (((findD s.cases id:Nat):Int)<0)=false:=decide_eq_false ad9;rw[e1];simp only[go_sem,ak,n21.symm,d1];refine⟨.of aec,?_⟩;obtain⟨f,l,ex,hfl,hlg⟩:=hcs (findD s.cases id) ad9 hf;refine hc.idx (e:=133) (findD s.cases id) rfl ad9 nX aed fun p hp1=>?_
  simp only[go_sem];refine hp1.field (f:=0) (off:=0) (t:=9) rfl KQ fun p2 hp2=>?_
  have hld:=fun a b=>(hp2.sub (hs a b)).part (U:=U) (ty:=9) KQ (by rw[ex,NZ];exact adY rfl)
  simp only[go_sem,hld,ex];exact .mk _ (.refl _) (hs _ _) ⟨by rw[KK hf];rfl,rfl⟩
 ·have e1:ixD (fun c=>geB c.id id) s.cases= -1:=by rw[ixD];exact if_neg hf
  have e2:findD s.cases id=s.cases.length:=by
   grind [findD,List.findIdx_le_length]
  have d1:decide ((-1:Int)<0)=true:=rfl;rw[e1];simp only[go_sem,ak,n21.symm,d1];simp only[go_sem,hc.len];exact .mk _ (.refl _) (hs _ _) ⟨by rw[KL hf,e2,hn];rfl,rfl⟩
theorem IN:(U 105).sz=2:=aeo
theorem J2(y:AV)(ds:List ij)(r:ij)(h:Heap)(hb:Rd h 2 y (ds.map eV))(hl:ds.length≤1000000000):
  ai Tryz.prog 206 [y,eV r] h fun x h' =>x= .i (ixD (u0 r) ds)∧h' =h:=by
 refine ad8 Tryz.func206 19 [.tmp 4] fun hwf=>?_
 simp only[go_sem,eV];intro i1 h1;have hs:∀a,Ab.Sub h (upd h i1 a):=fun a=>(Sub.refl h).put h1 a
 simp only[go_sem,hb.len,adZ];refine .intro (fun m ρ h' =>h' =upd h i1 (some (.obj [.s r.subj,.s r.role] 105))∧∃i:Nat,i≤ds.length∧m=ds.length - i∧(∀j (hj:j<i) (h2:j<ds.length),u0 r ds[j]=false)∧lk ρ 0=some y∧lk ρ 3=some (.ptr i1 0)∧lk ρ 7=some (.i ds.length)∧lk ρ 8=some (.i i)) ds.length ?_ ?_
 ·refine⟨rfl,0,ad9,rfl,fun j hj=>ad9,?_,?_,?_,?_⟩<;>simp only[go_sem]
 ·rintro m ρ h' ⟨rfl,i,hi,rfl,hc,r0,r3,r7,r8⟩
  simp only[go_sem,r7,r8];refine .intro (fun e=>?_) (fun e=>?_)
  ·have hlt:i<ds.length:=ad6 e
   have w1:IntKind.i64.wrap ((i:Int)+1)=((i+1:Nat):Int):=aek;simp only[go_sem,r0,r3,r8];refine⟨.of aec,?_⟩;refine hb.idx (e:=105) i rfl aea IN aed fun p hp1=>?_
   have hld:=fun a=>(hp1.sub (hs a)).all (U:=U) (ty:=105) aed (by rw[IN,ad0];rfl) aeN
   cases d1:u0 r ds[i]
   ·have d2:=d1
    simp only[u0]at d2;simp only[go_sem,r8,hld,ad0,eV,d2,w1];refine⟨_,?_,rfl,i+1,ad9,rfl,fun j hj h2=>?_,?_,?_,?_,?_⟩
    ·omega
    ·grind
    all_goals simp only[go_sem,r0,r3,r7]
   ·have d2:=d1
    simp only[u0]at d2;simp only[go_sem,hld,ad0,eV,d2];exact .mk _ (.refl _) (hs _) ⟨by rw[oo hlt d1 fun j hj=>hc j hj ad9];rfl,rfl⟩
  ·have hge:i=ds.length:=by grind
   simp only[go_sem];exact .mk _ (.refl _) (hs _) ⟨aeB,rfl⟩
theorem Ga(y:AV)(ds:List ij)(r:ij)(h:Heap)(hb:Rd h 2 y (ds.map eV))(hl:ds.length≤1000000000):
  ai Tryz.prog 158 [y,eV r] h fun x h' =>x= .b (yK ds r)∧h' =h:=by
 have hq:=fun H (hH:Ab.Sub h H)=>J2 y ds r H (hb.sub hH) hl
 refine ad8 Tryz.func158 9 [.tmp 4] fun hwf=>?_
 simp only[go_sem,eV];intro i1 h1;simp only[go_sem];refine(hq _ (.aj h1)).pthen ?_;simp only[go_sem];refine .mk _ (.refl _) (.aj h1) ⟨?_,rfl⟩
 grind [ax,yK,ixD,decide_eq_true,List.any_eq_true,ad4,List.findIdx_getElem,decide_eq_false,List.any_eq_false]
theorem Gb{h:Heap}{x:AV}{s:an}(hb:RdS h x s)(subj role:Txt)(hl:s.roles.length≤1000000000):ai Tryz.prog 104 [x,.s subj,.s role] h fun r h' =>r= .b (yK s.roles ⟨subj,role⟩)∧h' =h:=by
 obtain⟨y1,y2,y3,y4,rfl,hc,h2,h3,h4⟩:=hb;have hq:=fun H (hH:Ab.Sub h H)=>Ga y4 s.roles ⟨subj,role⟩ H (h4.sub hH) hl
 cases hp:s.policy with
 |mk pid pset palg ptgt prules pkids pobls=>
 refine ad8 Tryz.func104 13 [.tmp 6] fun hwf=>?_
 simp only[go_sem,gb,List.cons_append,List.nil_append];intro i1 h1;simp only[go_sem];refine(hq _ (.aj h1)).pthen ?_;simp only[go_sem];exact aer
theorem Js{h:Heap}(f:cO){k:Nat}{name:Txt}(hk:h k=some (.obj [.s name] 9)):ai Tryz.prog 123 [bN f,.ptr k 0] h fun r h' =>r= .b (f.name==name)∧h' =h:=by
 refine ad8 Tryz.func123 8 [.tmp 3] fun hwf=>?_
 simp only[go_sem,bN];exact aiB
theorem Jt{fs:List cO}{name:Txt}(h:fs.findIdx (fun f=>f.name==name)<fs.length):dQ fs name=fs[fs.findIdx fun f=>f.name==name].val:=by
 unfold dQ;rw[show fs.find? (fun f=>f.name==name)=some fs[fs.findIdx fun f=>f.name==name]from List.find?_eq_some_iff_getElem.2 ⟨List.findIdx_getElem (w:=h),_,h,rfl,fun j hj=>aea⟩]
theorem Ju{fs:List cO}{name:Txt}(h:¬fs.findIdx (fun f=>f.name==name)<fs.length):dQ fs name=aq:=by
 grind [dQ,List.findIdx_le_length,List.find?_eq_none,List.findIdx_eq_length]
theorem Dv{h:Heap}{x:AV}{c:aM}(hb:RdC h x c)(name:Txt)(hl:c.fields.length≤1000000000):ai Tryz.prog 59 [x,.s name] h fun r h' =>r=aS (dQ c.fields name)∧h' =h:=by
 obtain⟨f,l,rfl,hf,hlg⟩:=hb;refine ad8 Tryz.func59 19 [.cell 4 32] fun hwf=>?_
 simp only[go_sem];intro i1 h1;simp only[go_sem];intro i2 h2;have n21:=aI h2;have n2:=aB h2;simp only[go_sem];intro i3 h3;have h3' :=aB h3;have n31:=aI h3';have n3:=aB h3';have hs:∀a b d,Ab.Sub h (upd (upd (upd h i1 a) i2 b) i3 d):=fun a b d=>(((Sub.refl h).put h1 a).put n2 b).put n3 d
 simp only[go_sem,ak,n21.symm,n31.symm];refine(yR f _ c.fields (fun f=>f.name==name) _ [.ptr i2 0] _ (hf.sub (hs _ _ _)) aeg aea (o6 (fun _=>rfl) _) fun i a b=>by
  rw[ad0];exact Js _ (by grind [ak,gr,not_false_eq_true])).pthen ?_
 by_cases hx:c.fields.findIdx (fun f=>f.name==name)<c.fields.length
 ·have e1:ixD (fun f=>f.name==name) c.fields=(c.fields.findIdx (fun f=>f.name==name):Nat):=by simp_all [ixD,if_pos]
  have d1:decide ((0:Int)≤((c.fields.findIdx (fun f=>f.name==name):Nat):Int))=true:=decide_eq_true ad9
  rw[e1];simp only[go_sem,ak,n21.symm,n31.symm,d1];refine hf.idx (e:=160) (c.fields.findIdx fun f=>f.name==name) rfl aea Hh aed fun p hp1=>?_
  simp only[go_sem];refine hp1.field (f:=1) (off:=1) (t:=32) rfl aed fun p2 hp2=>?_
  have hld:=fun a b d=>(hp2.sub (hs a b d)).part (U:=U) (ty:=32) aed (by rw[ad0,show(U 32).sz=3 by rfl];exact adY rfl)
  simp only[go_sem,hld,ad0,bN];exact .mk _ (.refl _) aea ⟨by rw[Jt hx];rfl,rfl⟩
 ·have e1:ixD (fun f=>f.name==name) c.fields= -1:=by simp_all [ixD,if_neg]
  have d1:decide ((0:Int)≤ -1)=false:=rfl;rw[e1];simp only[go_sem,d1];exact .mk _ (.refl _) aea ⟨by rw[Ju hx];rfl,rfl⟩
end Go.Proofs.YtbbadggejjgihaaGreatDoor
namespace Go.Ab
open Go
mutual
def cK:AV→Bool
 |.v _=>true
 |.s _=>true
 |.agg xs=>gz xs
 |.tup xs=>gz xs
 |.sl xs (.own _)=>false
 |.sl xs _=>gz xs
 |.pe x _=>cK x
 |.ifc _ x=>cK x
 |_=>false
def gz:List AV→Bool
 | []=>true
 |x::r=>cK x && gz r
end
mutual
theorem uo{F:Nat→Prop}:∀x:AV,cK x=true→Av F x
 |.v x,_=> .v x
 |.s l,_=> .s l
 |.agg xs,h=> .agg xs (ri xs agK)
 |.tup xs,h=> .tup xs (ri xs agK)
 |.sl xs .no,h=> .sl xs .no (ri xs agK) fun _ e=>aey
 |.sl xs .full,h=> .sl xs .full (ri xs agK) fun _ e=>aey
 |.sl xs (.own _),h=>ahG
 |.pe x o,h=> .pe x o (uo x agK)
 |.ptr i o,h=>ahG
 |.oa i o l,h=>ahG
 |.ifc t x,h=> .ifc t x (uo x agK)
 |.fn f c,h=>ahG
 |.mp i,h=>ahG
 |.ob i o l c z,h=>ahG
theorem ri{F:Nat→Prop}:∀xs:List AV,gz xs=true→∀x∈xs,Av F x
 | [],_,x,hx=>by cases hx
 |y::r,h,x,hx=>by
  simp only[gz,Bool.and_eq_true]at h;rcases List.mem_cons.1 hx with e|e
  ·rw[e];exact uo y h.1
  ·exact ri r h.2 x e
end
theorem bl{α:Type}{f:α→AV}(hf:∀a,cK (f a)=true):∀l:List α,gz (l.map f)=true
 | []=>rfl
 |a::r=>by simp[gz,hf a,bl hf r]
theorem Bq{xs:List AV}(h:gz xs=true):∀x∈xs,cK x=true:=by
 induction xs with
 |nil=>simp
 |cons y r ih=>
  simp_all [gz,Bool.and_eq_true,List.mem_cons]
theorem nU{x:AV}(h:cK x=true):∀c∈x.cells,cK c=true:=by
 cases x with
 |agg cs=>exact Bq (show gz cs=true by grind [cK])
 |_=>intro c hc;rw[List.mem_singleton.1 hc];exact h
theorem Frz.pure{g h:Heap}{x:AV}(hx:cK x=true):Frz g h x x:=.keep x (uo x hx)
theorem Ow.frz{g h:Heap}{tb:TypeId}{sz id:Nat}{y:AV}{xs ys:List AV}(hw:Ow tb h sz id y xs)(hg:g id=Option.none)(hn:xs.length=ys.length)(hz:∀i (h1:i<xs.length) (h2:i<ys.length),xs[i].cells.length=ys[i].cells.length)
  (hr:∀i (h1:i<xs.length) (h2:i<ys.length) j (h3:j<xs[i].cells.length) (h4:j<ys[i].cells.length),Frz g h xs[i].cells[j] ys[i].cells[j]):Frz g h y (.sl ys .no):=by
 obtain⟨cap,rest,rfl,h1,h2,h3,h4⟩:=hw;have hl:=aX h4;refine .ob id 0 _ cap sz _ tb ys hg h1 aea hn.symm (fun i hi=>by rw[←hz i ad9 hi];exact h4 _ aeg) fun i hi j hj hb=>?_
 have hj' :j<sz:=by rw[←h4 xs[i] aeg,hz i ad9 hi];omega
 have hbd:i*sz+j<xs.length*sz:=by
  have:(i+1)*sz≤xs.length*sz:=Nat.mul_le_mul_right _ ad9;rw[Nat.add_mul,Nat.one_mul]at this;omega
 have hjx:j<xs[i].cells.length:=aea;have e:(au xs++rest)[0+(i*sz+j)]? =some (xs[i].cells[j]):=by
  rw[Nat.zero_add,List.getElem?_append_left ad9,u7 h4 ad9 hj',List.getElem?_eq_getElem hjx]
 rw[List.getElem?_eq_getElem hb,Option.some.injEq]at e;rw[e];exact hr i ad9 hi j hjx hj
theorem OwE.frz{g h:Heap}{tb:TypeId}{sz:Nat}{y:AV}{xs:List AV}(hw:OwE tb g h sz y xs)(hp:gz xs=true):Frz g h y (.sl xs .no):=by
 rcases hw with⟨rfl,rfl⟩|⟨id,hg,hw⟩
 ·exact .sl [] [] .full rfl ad9 aeg
 ·exact hw.frz hg rfl ad9 fun i h1 h2 j h3 h4=> .pure (nU (Bq hp _ (ad4 h1)) _ aeg)
theorem OwE.jZ{U:TypeId→TI}{h:Heap}{sz:Nat}{tb:TypeId}{xs:List AV}{Q:AV→Heap→Prop}(hz:(U tb).sz=sz)(hf:Ab.fit (U tb).zero sz)(hb:Sized sz xs)(hk:∀y' h',OwE tb h h' sz y' xs→Sub h h'→Q y' h'):sv U h [] xs tb Q:=by
 subst hz;refine⟨fun hn=>?_,fun hn=>?_⟩
 ·subst hn
  exact hk _ _ (.inl ⟨rfl,rfl⟩) (.refl _)
 ·refine .ob hf (kL.ow hb aeo aeg fun id y' h' hid hw ho=>?_)
  exact hk _ _ (.inr ⟨id,hid,hw⟩) fun j b hj=>aea
theorem Rd.nil{h:Heap}{sz:Nat}{y:AV}{xs:List AV}{e:TypeId}{Q:AV→Heap→Prop}(hb:Rd h sz y xs)(hk:∀b:Bool,(xs≠ []→b=false)→Q (.b b) h):SW h .eql y Q (.slice e):=by
 obtain⟨_,⟨q,rfl⟩|⟨id,off,cap,cs,t,rfl,_⟩⟩:=hb
 ·exact hk
 ·exact hk false fun _=>rfl
def nid:AV→Option Nat
 |.ob id _ _ _ _=>some id
 |_=>none
theorem OwE.nid{tb:TypeId}{h0 h:Heap}{sz:Nat}{y:AV}{xs:List AV}(hw:OwE tb h0 h sz y xs){id:Nat}(e:Ab.nid y=some id):h0 id=Option.none∧h id≠Option.none∧Ow tb h sz id y xs:=by
 rcases hw with⟨rfl,rfl⟩|⟨id',h1,hw⟩
 ·cases e
 ·obtain⟨cap,rest,rfl,h2,h3⟩:=hw
  cases e;exact⟨h1,aea,cap,rest,rfl,h2,h3⟩
theorem Ow.nid{tb:TypeId}{h:Heap}{sz id:Nat}{y:AV}{xs:List AV}(hw:Ow tb h sz id y xs):Ab.nid y=some id:=by
 obtain⟨cap,rest,rfl,h2,h3⟩:=hw;rfl
theorem OwE.keep{tb:TypeId}{h0 h h' :Heap}{sz:Nat}{y:AV}{xs:List AV}(hw:OwE tb h0 h sz y xs)(hs:∀id,Ab.nid y=some id→h' id=h id):OwE tb h0 h' sz y xs:=by
 rcases hw with hw|⟨id,h1,hw⟩
 ·exact ah6
 ·exact .inr ⟨id,h1,hw.same (hs id hw.nid)⟩
theorem OwE.less{tb:TypeId}{h0 h1 h:Heap}{sz:Nat}{y:AV}{xs:List AV}(hw:OwE tb h1 h sz y xs)(hs:Sub h0 h1):OwE tb h0 h sz y xs:=by
 rcases hw with hw|⟨id,a,hw⟩
 ·exact ah6
 ·exact .inr ⟨id,hs.none a,hw⟩
end Go.Ab
namespace Go.Proofs.YtbbadggejjgihaaGreatDoor
open Go Go.Ab Go.Bf
theorem AN(y:AV)(xs:List AV)(h:Heap)(hb:Rd h 5 y xs)(hl:xs.length≤1000000):ai Tryz.prog 113 [y] h fun r h' =>OwE 133 h h' 5 r xs∧Ab.Sub h h' :=by
 refine ad8 Tryz.func113 8 [.tmp 2] fun hwf=>?_
 simp only[go_sem];refine hb.nil fun b hxs=>?_
 cases b
 ·simp only[go_sem]
  refine hb.src (U:=U) (e:=133) aeo ⟨hb.1,ad9,OwE.jZ (U:=U) (sz:=5) aeo aeo hb.1 fun y' h' hw hs=>?_⟩
  exact aiu
 ·exact ais
theorem vZ(y:AV)(xs:List AV)(h:Heap)(hb:Rd h 7 y xs)(hl:xs.length≤1000000):ai Tryz.prog 111 [y] h fun r h' =>OwE 99 h h' 7 r xs∧Ab.Sub h h' :=by
 refine ad8 Tryz.func111 8 [.tmp 2] fun hwf=>?_
 simp only[go_sem];refine hb.nil fun b hxs=>?_
 cases b
 ·simp only[go_sem]
  refine hb.src (U:=U) (e:=99) aeo ⟨hb.1,ad9,OwE.jZ (U:=U) (sz:=7) aeo aeo hb.1 fun y' h' hw hs=>?_⟩
  exact aiu
 ·exact ais
theorem vY(y:AV)(xs:List AV)(h:Heap)(hb:Rd h 3 y xs)(hl:xs.length≤1000000):ai Tryz.prog 112 [y] h fun r h' =>OwE 102 h h' 3 r xs∧Ab.Sub h h' :=by
 refine ad8 Tryz.func112 8 [.tmp 2] fun hwf=>?_
 simp only[go_sem];refine hb.nil fun b hxs=>?_
 cases b
 ·simp only[go_sem]
  refine hb.src (U:=U) (e:=102) aeo ⟨hb.1,ad9,OwE.jZ (U:=U) (sz:=3) aeo aeo hb.1 fun y' h' hw hs=>?_⟩
  exact aiu
 ·exact ais
theorem Jd(y:AV)(xs:List AV)(h:Heap)(hb:Rd h 2 y xs)(hl:xs.length≤1000000):ai Tryz.prog 164 [y] h fun r h' =>OwE 105 h h' 2 r xs∧Ab.Sub h h' :=by
 refine ad8 Tryz.func164 8 [.tmp 2] fun hwf=>?_
 simp only[go_sem];refine hb.nil fun b hxs=>?_
 cases b
 ·simp only[go_sem]
  refine hb.src (U:=U) (e:=105) aeo ⟨hb.1,ad9,OwE.jZ (U:=U) (sz:=2) aeo aeo hb.1 fun y' h' hw hs=>?_⟩
  exact aiu
 ·exact ais
theorem FC(y:AV)(xs:List AV)(h:Heap)(hb:Rd h 4 y xs)(hl:xs.length≤1000000):ai Tryz.prog 171 [y] h fun r h' =>OwE 160 h h' 4 r xs∧Ab.Sub h h' :=by
 refine ad8 Tryz.func171 8 [.tmp 2] fun hwf=>?_
 simp only[go_sem];refine hb.nil fun b hxs=>?_
 cases b
 ·simp only[go_sem]
  refine hb.src (U:=U) (e:=160) aeo ⟨hb.1,ad9,OwE.jZ (U:=U) (sz:=4) aeo aeo hb.1 fun y' h' hw hs=>?_⟩
  exact aiu
 ·exact ais
theorem qE(y:AV)(xs:List AV)(h:Heap)(hb:Rd h 3 y xs)(hl:xs.length≤1000000):ai Tryz.prog 114 [y] h fun r h' =>OwE 163 h h' 3 r xs∧Ab.Sub h h' :=by
 refine ad8 Tryz.func114 8 [.tmp 2] fun hwf=>?_
 simp only[go_sem];refine hb.nil fun b hxs=>?_
 cases b
 ·simp only[go_sem]
  refine hb.src (U:=U) (e:=163) aeo ⟨hb.1,ad9,OwE.jZ (U:=U) (sz:=3) aeo aeo hb.1 fun y' h' hw hs=>?_⟩
  exact aiu
 ·exact ais
theorem xq(y:AV)(xs:List AV)(h:Heap)(hb:Rd h 3 y xs)(hl:xs.length≤1000000)(hp:gz xs=true):ai Tryz.prog 114 [y] h fun r h' =>r= .sl xs .no∧h' =h:=
 ai.freeze fun g hg _=>(qE y xs g (hb.sub hg) hl).mono fun r h' ⟨h1,h2⟩=>⟨h2,_,h1.frz hp,rfl⟩
theorem LQ(y:AV)(xs:List AV)(h:Heap)(hb:Rd h 3 y xs)(hl:xs.length≤1000000):ai Tryz.prog 32 [y] h fun r h' =>OwE 91 h h' 3 r xs∧Ab.Sub h h' :=by
 refine ad8 Tryz.func32 8 [.tmp 2] fun hwf=>?_
 simp only[go_sem];refine hb.nil fun b hxs=>?_
 cases b
 ·simp only[go_sem]
  refine hb.src (U:=U) (e:=91) aeo ⟨hb.1,ad9,OwE.jZ (U:=U) (sz:=3) aeo aeo hb.1 fun y' h' hw hs=>?_⟩
  exact aiu
 ·exact ais
theorem AP(y:AV)(xs:List AV)(h:Heap)(hb:Rd h 3 y xs)(hl:xs.length≤1000000)(hp:gz xs=true):ai Tryz.prog 32 [y] h fun r h' =>r= .sl xs .no∧h' =h:=
 ai.freeze fun g hg _=>(LQ y xs g (hb.sub hg) hl).mono fun r h' ⟨h1,h2⟩=>⟨h2,_,h1.frz hp,rfl⟩
theorem Je(y:AV)(xs:List AV)(h:Heap)(hb:Rd h 5 y xs)(hl:xs.length≤1000000):ai Tryz.prog 216 [y] h fun r h' =>OwE 167 h h' 5 r xs∧Ab.Sub h h' :=by
 refine ad8 Tryz.func216 8 [.tmp 2] fun hwf=>?_
 simp only[go_sem];refine hb.nil fun b hxs=>?_
 cases b
 ·simp only[go_sem]
  refine hb.src (U:=U) (e:=167) aeo ⟨hb.1,ad9,OwE.jZ (U:=U) (sz:=5) aeo aeo hb.1 fun y' h' hw hs=>?_⟩
  exact aiu
 ·exact ais
theorem Da(y:AV)(xs:List AV)(h:Heap)(hb:Rd h 7 y xs)(hl:xs.length≤1000000):ai Tryz.prog 217 [y] h fun r h' =>OwE 49 h h' 7 r xs∧Ab.Sub h h' :=by
 refine ad8 Tryz.func217 8 [.tmp 2] fun hwf=>?_
 simp only[go_sem];refine hb.nil fun b hxs=>?_
 cases b
 ·simp only[go_sem]
  refine hb.src (U:=U) (e:=49) aeo ⟨hb.1,ad9,OwE.jZ (U:=U) (sz:=7) aeo aeo hb.1 fun y' h' hw hs=>?_⟩
  exact aiu
 ·exact ais
theorem Jb(y:AV)(xs:List AV)(h:Heap)(hb:Rd h 7 y xs)(hl:xs.length≤1000000):ai Tryz.prog 218 [y] h fun r h' =>OwE 172 h h' 7 r xs∧Ab.Sub h h' :=by
 refine ad8 Tryz.func218 8 [.tmp 2] fun hwf=>?_
 simp only[go_sem];refine hb.nil fun b hxs=>?_
 cases b
 ·simp only[go_sem]
  refine hb.src (U:=U) (e:=172) aeo ⟨hb.1,ad9,OwE.jZ (U:=U) (sz:=7) aeo aeo hb.1 fun y' h' hw hs=>?_⟩
  exact aiu
 ·exact ais
theorem FF(y:AV)(xs:List AV)(h:Heap)(hb:Rd h 7 y xs)(hl:xs.length≤1000000)(hp:gz xs=true):ai Tryz.prog 218 [y] h fun r h' =>r= .sl xs .no∧h' =h:=
 ai.freeze fun g hg _=>(Jb y xs g (hb.sub hg) hl).mono fun r h' ⟨h1,h2⟩=>⟨h2,_,h1.frz hp,rfl⟩
theorem FD(y:AV)(xs:List AV)(h:Heap)(hb:Rd h 7 y xs)(hl:xs.length≤1000000):ai Tryz.prog 254 [y] h fun r h' =>OwE 233 h h' 7 r xs∧Ab.Sub h h' :=by
 refine ad8 Tryz.func254 8 [.tmp 2] fun hwf=>?_
 simp only[go_sem];refine hb.nil fun b hxs=>?_
 cases b
 ·simp only[go_sem]
  refine hb.src (U:=U) (e:=233) aeo ⟨hb.1,ad9,OwE.jZ (U:=U) (sz:=7) aeo aeo hb.1 fun y' h' hw hs=>?_⟩
  exact aiu
 ·exact ais
theorem Dc(y:AV)(xs:List AV)(h:Heap)(hb:Rd h 7 y xs)(hl:xs.length≤1000000)(hp:gz xs=true):ai Tryz.prog 254 [y] h fun r h' =>r= .sl xs .no∧h' =h:=
 ai.freeze fun g hg _=>(FD y xs g (hb.sub hg) hl).mono fun r h' ⟨h1,h2⟩=>⟨h2,_,h1.frz hp,rfl⟩
theorem FE(y:AV)(xs:List AV)(h:Heap)(hb:Rd h 3 y xs)(hl:xs.length≤1000000):ai Tryz.prog 282 [y] h fun r h' =>OwE 32 h h' 3 r xs∧Ab.Sub h h' :=by
 refine ad8 Tryz.func282 8 [.tmp 2] fun hwf=>?_
 simp only[go_sem];refine hb.nil fun b hxs=>?_
 cases b
 ·simp only[go_sem]
  refine hb.src (U:=U) (e:=32) aeo ⟨hb.1,ad9,OwE.jZ (U:=U) (sz:=3) aeo aeo hb.1 fun y' h' hw hs=>?_⟩
  exact aiu
 ·exact ais
theorem Dd(y:AV)(xs:List AV)(h:Heap)(hb:Rd h 3 y xs)(hl:xs.length≤1000000)(hp:gz xs=true):ai Tryz.prog 282 [y] h fun r h' =>r= .sl xs .no∧h' =h:=
 ai.freeze fun g hg _=>(FE y xs g (hb.sub hg) hl).mono fun r h' ⟨h1,h2⟩=>⟨h2,_,h1.frz hp,rfl⟩
def Rv(h0 h:Heap)(x:AV)(c:aM):Prop:=∃f l,x= .agg [.s c.id,.s c.owner,.s c.state,f,l]∧OwE 160 h0 h 4 f (c.fields.map bN)∧OwE 163 h0 h 3 l (c.log.map iU)∧∀i,nid f=some i→nid l≠some i
theorem cL{h:Heap}{i j:Nat}{b:Blk}(h1:h i=none)(h2:h j=some b):i≠j:=fun e=>by subst e;rw[h2]at h1;cases h1
theorem zm{h:Heap}{x:AV}{c:aM}(hb:RdC h x c)(hl:c.fields.length≤1000000)(hl2:c.log.length≤1000000):ai Tryz.prog 121 [x] h fun r h' =>Rv h h' r c∧Ab.Sub h h' :=by
 obtain⟨f,l,rfl,hf,hlg⟩:=hb;refine ad8 Tryz.func121 12 [.cell 2 133] fun hwf=>?_
 simp only[go_sem];intro i1 h1;simp only[go_sem];intro i2 h2;have n21:=aI h2;have n2:=aB h2;simp only[go_sem];obtain⟨H,eH⟩:∃H,upd (upd h i1 (some (.obj [.s c.id,.s c.owner,.s c.state,f,l] 133))) i2 (some (.obj [.s [],.s [],.s [],.sl [] .full,.sl [] .full] 133))=H:=⟨_,rfl⟩;have hH:Ab.Sub h H:=ae8;have g1:H i1=some (.obj [.s c.id,.s c.owner,.s c.state,f,l] 133):=afK;have g2:H i2=some (.obj [.s [],.s [],.s [],.sl [] .full,.sl [] .full] 133):=afC;rw[eH];refine .stage (hm1 i1 _) [0,1,3,4,2,6,5] [7,8,9] (.hm1 g1) aec ?_;simp only[go_sem,gp];refine(FC f _ H (hf.sub hH) aea).mono fun f' H1 ⟨hf',s1⟩=>?_
 refine⟨.hm1 (s1 _ _ g1),?_⟩;simp only[go_sem];refine(qE l _ H1 ((hlg.sub hH).sub s1) aea).mono fun l' H2 ⟨hl',s2⟩=>?_
 refine⟨.hm1 (s2 _ _ (s1 _ _ g1)),cV,(fun _ _ e=>aey),?_⟩
 have g1' :=s2 _ _ (s1 _ _ g1);have g2' :=s2 _ _ (s1 _ _ g2);simp only[go_sem,g1',hf'.rd.fit,hf'.rd.cells,hl'.rd.fit,hl'.rd.cells];have n1:∀b,upd H2 i1 b i2=some (.obj [.s [],.s [],.s [],.sl [] .full,.sl [] .full] 133):=fun b=>aeK
 refine⟨fun _ _ e=>aey,fun _ _ e=>aey,?_⟩
 simp only[go_sem,n1];have hid:∀ {y:AV} {xs:List AV} {G:Heap} {tb:TypeId} {z:Nat},Ab.Sub H G→OwE tb G H2 z y xs→∀a b,OwE tb h (upd (upd H2 i1 a) i2 b) z y xs:=fun hG hw a b=>(hw.less (hH.trans hG)).keep fun id e=>by
  have h0:=hG.none (hw.nid e).1;rw[ag _ _ (cL h0 g2),ag _ _ (cL h0 g1)]
 refine .mk _ (.refl _) (.refl _) ⟨⟨f',l',rfl,hid (.refl _) (hf'.sub s2) _ _,hid s1 hl' _ _,fun i ef el=>?_⟩,((hH.trans (s1.trans s2)).put h1 _).put n2 _⟩
 exact(hf'.nid ef).2.1 ((hl'.nid el).1)
theorem wR{h:Heap}{x:AV}{c:aM}(hb:RdC h x c)(hl:c.fields.length≤1000000)(hl2:c.log.length≤1000000):ai Tryz.prog 121 [x] h fun r h' =>r=ct c∧h' =h:=
 ai.freeze fun g hg _=>(zm (hb.sub hg) hl hl2).mono fun r h' ⟨⟨f,l,e,hf,hlg,_⟩,h2⟩=>⟨h2,ct c,by
  subst e;refine .agg _ _ rfl fun i h1 h2=>?_
  rcases i with _|_|_|_|_|i
  ·exact aet
  ·exact aet
  ·exact aet
  ·exact hf.frz (bl (fun _=>rfl) _)
  ·exact hlg.frz (bl (fun _=>rfl) _)
  ·simp at h1;omega,rfl⟩
theorem Ni(l:List bP):gz (l.map dR)=true:=bl (fun _=>rfl) l
theorem Wu:(U 234).sz=1:=aeo
theorem Wv:(U 230).sz=1:=aeo
theorem ue(t:gj)(ht:lU t=0)(h:Heap):ai Tryz.prog 215 [aV t] h fun r h' =>r=aV t∧h' =h:=by
 obtain⟨hl,he⟩:=BI ht;refine ad8 Tryz.func215 33 [.tmp 2] fun hwf=>?_
 simp only[go_sem,aV,adZ];refine .intro (fun m ρ h' =>∃(i:Nat) (y:AV) (ys:List AV),Acc U 230 h h' y ys∧ys.length=i∧(∀j (h1:j<ys.length) (h2:j<t.length),∃q,ys[j]= .sl (t[j].map jj) q)∧i≤t.length∧m=t.length - i∧lk ρ 3=some y∧lk ρ 9=some (.sl (t.map cX) .no)∧lk ρ 10=some (.i t.length)∧lk ρ 11=some (.i i)) t.length ?_ ?_
 ·refine⟨0,_,[],.full (.refl _),rfl,fun j h1=>aea,ad9,rfl,?_,?_,?_,?_⟩<;>simp only[go_sem]
 ·rintro m ρ h' ⟨i,y,ys,hy,hn,hys,hi,rfl,r3,r9,r10,r11⟩
  simp only[go_sem,r10,r11];refine .intro (fun e=>?_) (fun e=>?_)
  ·have hlt:i<t.length:=ad6 e
   have w1:IntKind.i64.wrap ((i:Int)+1)=((i+1:Nat):Int):=aek;obtain⟨ha0,hal,hae⟩:=AM (he _ (ad4 hlt));simp only[go_sem,r9,r11];refine .at i aea aen ?_;simp only[go_sem,ad0,cX,adZ];refine .intro (fun m ρ H=>∃(j:Nat) (z:AV) (zs:List AV),Acc U 234 h' H z zs∧zs=(t[i].take j).map jj∧j≤t[i].length∧m=t[i].length - j∧lk ρ 3=some y∧lk ρ 9=some (.sl (t.map cX) .no)∧lk ρ 10=some (.i t.length)∧lk ρ 11=some (.i i)∧lk ρ 6=some z∧lk ρ 15=some (.sl (t[i].map jj) .no)∧lk ρ 16=some (.i t[i].length)∧lk ρ 17=some (.i j)) t[i].length ?_ ?_
   ·refine⟨0,_,[],.full (.refl _),rfl,ad9,rfl,?_,?_,?_,?_,?_,?_,?_,?_⟩<;>simp only[go_sem,r3,r9,r10,r11]
   ·rintro m ρ H ⟨j,z,zs,hz,rfl,hj,rfl,r3,r9,r10,r11,r6,r15,r16,r17⟩
    simp only[go_sem,r16,r17];refine .intro (fun e=>?_) (fun e=>?_)
    ·have hlt2:j<t[i].length:=ad6 e
     have w2:IntKind.i64.wrap ((j:Int)+1)=((j+1:Nat):Int):=aek;have hml:=(AL (hae _ (ad4 hlt2))).2.1;simp only[go_sem,r15,r17];refine .at j aea aen ?_;simp only[go_sem,r6,ad0,jj];refine(Dc _ (t[i][j].map dR) _ (eE dR 7 (fun _=>rfl) _ _) aea (Ni _)).pthen ?_
     simp only[go_sem];refine hz.app (zs:=[jj t[i][j]]) aed aed (fun k hk=>hk) (by rw[Wu];exact bx (f:=jj) (fun _=>rfl) _) (by rw[Wu];exact bx (f:=jj) (fun _=>rfl) [t[i][j]]) (by simp only[go_sem,adZ,List.length_cons,List.length_nil,List.length_take];omega) fun z' H' hz' _=>?_
     simp only[go_sem,r17,w2];refine⟨_,?_,j+1,z',_,hz',?_,ad9,rfl,?_,?_,?_,?_,?_,?_,?_,?_⟩
     ·omega
     ·grind [List.take_succ_eq_append_getElem]
     all_goals simp only[go_sem,r3,r9,r10,r11,r15,r16]
    ·have hge:j=t[i].length:=by grind
     subst hge;rw[List.take_length]at hz;have hyH:=hy.sub hz.1;obtain⟨q,rfl⟩:=hz.row;simp only[go_sem,r3,r6];refine hyH.app (zs:=[.sl (t[i].map jj) q]) aed aed (fun k hk=>hk) (by rw[Wv];intro w hw;obtain⟨k,hk,rfl⟩:=List.mem_iff_getElem.1 hw;obtain⟨q',e'⟩:=hys k hk ad9;rw[e'];rfl) (by rw[Wv];intro w hw;rw[List.mem_singleton.1 hw];rfl) (by simp only[go_sem,hn,List.length_cons,List.length_nil];omega) fun y' H' hy' _=>?_
     simp only[go_sem,r11,w1];refine⟨_,?_,i+1,y',_,hy',aea,fun k h1 h2=>?_,ad9,rfl,?_,?_,?_,?_⟩
     ·omega
     ·grind
     all_goals simp only[go_sem,r9,r10]
  ·have hge:i=t.length:=by grind
   simp only[go_sem,r3];obtain⟨q,rfl⟩:=hy.row;refine .mk (aV t) ?_ hy.1 ⟨rfl,rfl⟩;refine .deep _ _ q aea (fun k h1 h2=>?_) fun k h1 h2 j h3 h4=>?_
   ·obtain⟨q',e'⟩:=hys k h1 ad9
    rw[e',ad0];rfl
   ·obtain⟨q',e'⟩:=hys k h1 ad9
    simp only[e',AV.cells,List.length_singleton]at h3;obtain rfl:j=0:=ad9;simp only[e',ad0,cX,AV.cells,List.getElem_singleton];exact agO
theorem zx(t:gj):cK (aV t)=true:=by
 refine bl (fun a=>?_) t
 refine bl (fun b=>?_) a
 exact bl (fun _=>rfl) b
theorem Ko(l:List aR):cK (fE l)=true:=by simp only[fE,cK];exact bl (fun _=>rfl) l
theorem vw(l:List cD):cK (ay l)=true:=by simp only[ay,cK];exact bl (fun _=>rfl) l
theorem Bs(r:cR):cK (aC r)=true:=by simp[aC,cK,gz,zx,Ko,vw]
mutual
theorem EA:∀p:bD,cK (aO p)=true
 |.mk id set alg tgt rules kids obls=>by simp[aO,cK,gz,zx,vw,bl Bs rules,vv kids]
theorem vv:∀l:List bD,gz (fK l)=true
 | []=>rfl
 |k::r=>by simp[fK,gz,EA k,vv r]
end
theorem jH(p:bD):(aO p).cells.length=7:=by cases p;rfl
theorem OL{l:List aR}(h:kI l=0):l.length≤32:=by
 grind [yA]
theorem Ip{l:List cD}(h:iG l=0):l.length≤8:=(kT h).1
theorem sZ{H:Heap}{i:Nat}{x:Option Blk}(h:H i=x):upd H i x=H:=by
 grind [ah,ag]
theorem mq{tb:TypeId}{h:Heap}{sz id i:Nat}{y:AV}{xs cs:List AV}{t:TypeId}(hw:Ow tb h sz id y xs)(hi:h i=some (.obj cs t))(ht:t≠tb):id≠i:=by
 obtain⟨cap,rest,rfl,h1,_⟩:=hw
 grind
theorem ko{sz:Nat}{xs:List AV}(hs:Sized sz xs)(j:Nat)(hj:j<xs.length)(o:Nat)(c:List AV)(ho:o+c.length≤sz){rest:List AV}:
  (au xs++rest).take (j*sz+o)++c++(au xs++rest).drop (j*sz+o+c.length)=au (xs.set j (.agg (Ab.over xs[j].cells o c)))++rest:=by
 have hl:=aX hs;have hb:(j+1)*sz≤xs.length*sz:=Nat.mul_le_mul_right _ ad9;rw[Nat.add_mul,Nat.one_mul]at hb;have:=M3 (us:=au xs) (vs:=rest) (o:=j*sz+o) (c:=c) ad9;rw[Ab.over]at this;rw[this,JA hs j hj o c ho]
theorem oU{α:Type}{xs:List α}{i:Nat}{x:α}(h:xs[i]? =some x):xs.set i x=xs:=by
 obtain⟨hi,rfl⟩:=List.getElem?_eq_some_iff.1 h;simp
theorem nT(id:Txt)(set:Bool)(alg:Int)(tgt:gj)(rules:List cR)(kids:List bD)(obls:List cD):aO (.mk id set alg tgt rules kids obls)= .agg [.s id,.b set,.i alg,aV tgt,.sl (rules.map aC) .no,.sl (kids.map aO) .no,ay obls]:=by simp[aO,bf]
theorem ud:∀(p:bD) (d:Nat),mF d p→∀h,ai Tryz.prog 165 [aO p] h fun r h' =>r=aO p∧h' =h
 |.mk pid pset palg ptgt prules pkids pobls,d,hp,h=>by
  obtain⟨_,_,_,_,_,_,ht,ho,hr16,hk16,hre,hke⟩:=hp;rw[qR]at hke;have ih:∀(j:Nat) (hj:j<pkids.length) (h:Heap),ai Tryz.prog 165 [aO pkids[j]] h fun r h' =>r=aO pkids[j]∧h' =h:=fun j hj h=>ud pkids[j] (d+1) (hke _ (ad4 hj)) h
  have hob:=Ip ho;refine ai.freeze fun g hg _=>?_
  rw[nT];refine ad8 Tryz.func165 72 [.cell 2 49] fun hwf=>?_
  simp only[go_sem];intro i1 h1;simp only[go_sem];intro i2 h2;have n21:=aI h2;have n2:=aB h2;simp only[go_sem];obtain⟨H,eH⟩:∃H,upd (upd g i1 (some (.obj [.s pid,.b pset,.i palg,aV ptgt,.sl (prules.map aC) .no,.sl (pkids.map aO) .no,ay pobls] 49))) i2 (some (.obj [.s [],.b false,.i 0,.sl [] .full,.sl [] .full,.sl [] .full,.sl [] .full] 49))=H:=⟨_,rfl⟩;have hH:Ab.Sub g H:=by rw[←eH];exact((Sub.refl g).put h1 _).put n2 _
  have g1:H i1=some (.obj [.s pid,.b pset,.i palg,aV ptgt,.sl (prules.map aC) .no,.sl (pkids.map aO) .no,ay pobls] 49):=afK;have g2:H i2=some (.obj [.s [],.b false,.i 0,.sl [] .full,.sl [] .full,.sl [] .full,.sl [] .full] 49):=afC;rw[eH];refine .stage (hm1 i1 _) [0,1,3,4,2,6,5] [7,8,9] (.hm1 g1) aec ?_;simp only[go_sem,gp];refine(ue ptgt ht H).pthen ?_;refine⟨.hm1 g1,?_⟩;simp only[go_sem];refine(AP _ (pobls.map bt) H (eE bt 3 (fun _=>rfl) _ _) aeO (bl (fun _=>rfl) _)).pthen ?_
  refine⟨.hm1 g1,cV,(fun _ _ e=>aey),?_⟩
  have cT:(aV ptgt).cells= [aV ptgt]:=rfl;simp only[go_sem,g1,show fit (aV ptgt) 1=(1=1)from rfl,cT]
  have eo:(.sl (pobls.map bt) .no:AV)=ay pobls:=rfl;rw[eo];refine⟨fun _ _ e=>aey,fun _ _ e=>aey,?_⟩
  rw[sZ g1];refine .stage (hm1 i1 _) [0,1,3,4,2,6,5] [7,8,9] (.hm1 g1) aec ?_;simp only[go_sem,gp];refine(Je _ (prules.map aC) H (eE aC 5 (fun _=>rfl) _ _) aeO).mono fun y4 H1 ⟨w4,s1⟩=>?_
  refine⟨.hm1 (s1 _ _ g1),?_⟩;simp only[go_sem];refine(Da _ (pkids.map aO) H1 (eE aO 7 jH _ _) aeO).mono fun y5 H2 ⟨w5,s2⟩=>?_
  have g1' :=s2 _ _ (s1 _ _ g1);have g2' :=s2 _ _ (s1 _ _ g2);refine⟨.hm1 g1',cV,(fun _ _ e=>aey),?_⟩
  simp only[go_sem,g1',w4.rd.fit,w4.rd.cells,w5.rd.fit,w5.rd.cells];refine⟨fun _ _ e=>aey,fun _ _ e=>aey,?_⟩
  have hn4:∀id,nid y4=some id→id≠i2:=fun id e=>cL (w4.nid e).1 g2
  have hn5:∀id,nid y5=some id→id≠i2:=fun id e=>cL (w5.nid e).1 (s1 _ _ g2)
  have hnd:∀i,nid y4=some i→nid y5≠some i:=fun i e4 e5=>(w4.nid e4).2.1 (w5.nid e5).1
  have v4:∀b,OwE 167 g (upd H2 i1 b) 5 y4 (prules.map aC):=fun b=>((w4.sub s2).less hH).keep fun id e=>ag _ _ (cL (w4.nid e).1 g1)
  have v5:∀b,OwE 49 g (upd H2 i1 b) 7 y5 (pkids.map aO):=fun b=>(w5.less (hH.trans s1)).keep fun id e=>ag _ _ (cL (s1.none (w5.nid e).1) g1)
  have vs:∀b,Ab.Sub g (upd H2 i1 b):=fun b=>(hH.trans (s1.trans s2)).put h1 b
  have vz:∀b,upd H2 i1 b i2=some (.obj [.s [],.b false,.i 0,.sl [] .full,.sl [] .full,.sl [] .full,.sl [] .full] 49):=fun b=>by rw[ag _ _ n21];exact g2'
  obtain⟨H3,eH3⟩:∃H3,upd H2 i1 (some (.obj [.s pid,.b pset,.i palg,aV ptgt,y4,y5,ay pobls] 49))=H3:=⟨_,rfl⟩;have q1:H3 i1=some (.obj [.s pid,.b pset,.i palg,aV ptgt,y4,y5,ay pobls] 49):=by rw[←eH3,ah]
  replace v4:=v4 (some (.obj [.s pid,.b pset,.i palg,aV ptgt,y4,y5,ay pobls] 49));replace v5:=v5 (some (.obj [.s pid,.b pset,.i palg,aV ptgt,y4,y5,ay pobls] 49));replace vs:=vs (some (.obj [.s pid,.b pset,.i palg,aV ptgt,y4,y5,ay pobls] 49));replace vz:=vz (some (.obj [.s pid,.b pset,.i palg,aV ptgt,y4,y5,ay pobls] 49));rw[eH3]at v4 v5 vs vz;rw[eH3];clear eH3;have hi1:∀id,g id=none→∀ {K:Heap} {b:Blk},K id=some b→K id≠none:=fun id _ K b e=>by rw[e];simp
  simp only[go_sem,v4.rd.len,adZ];refine .intro (fun m ρ G=>∃i:Nat,G i1=some (.obj [.s pid,.b pset,.i palg,aV ptgt,y4,y5,ay pobls] 49)∧G i2=some (.obj [.s [],.b false,.i 0,.sl [] .full,.sl [] .full,.sl [] .full,.sl [] .full] 49)∧Ab.Sub g G∧OwE 167 g G 5 y4 (prules.map aC)∧OwE 49 g G 7 y5 (pkids.map aO)∧i≤prules.length∧m=prules.length - i∧
   lk ρ 1=some (.ptr i1 0)∧lk ρ 2=some (.ptr i2 0)∧lk ρ 24=some y4∧lk ρ 25=some (.i prules.length)∧lk ρ 26=some (.i i)) prules.length ?_ ?_
  ·refine⟨0,q1,vz,vs,v4,v5,ad9,rfl,?_,?_,?_,?_,?_⟩<;>simp only[go_sem]
  ·rintro m ρ G ⟨i,q1,vz,vs,v4,v5,hi,rfl,r1,r2,r24,r25,r26⟩
   simp only[go_sem,r25,r26];refine .intro (fun e=>?_) (fun e=>?_)
   ·have hlt:i<prules.length:=ad6 e
    have w1:=ad5 i ad9;obtain⟨_,rt,rc,ro⟩:=hre _ (ad4 hlt);have hrc:=OL rc;have hro:=Ip ro;simp only[go_sem,r24,r26];refine v4.rd.idx (e:=167) i rfl aew aej aed fun p hp1=>?_
    have hld:=hp1.all (U:=U) (ty:=167) aej aeN aeN;simp only[go_sem,hld,ad0,aC];intro i4 h4;have n41:i4≠i1:=cL h4 q1;simp only[go_sem];obtain⟨G4,eG4⟩:∃G4,upd G i4 (some (.obj [.s prules[i].id,.b prules[i].deny,aV prules[i].tgt,fE prules[i].cond,ay prules[i].obls] 167))=G4:=⟨_,rfl⟩;rw[eG4];have p1:G4 i1=some (.obj [.s pid,.b pset,.i palg,aV ptgt,y4,y5,ay pobls] 49):=agN;have p4:G4 i4=some (.obj [.s prules[i].id,.b prules[i].deny,aV prules[i].tgt,fE prules[i].cond,ay prules[i].obls] 167):=by rw[←eG4,ah]
    have sG:Ab.Sub G G4:=ahs;refine .calls (hm2 i1 (.obj [.s pid,.b pset,.i palg,aV ptgt,y4,y5,ay pobls] 49) i4 (.obj [.s prules[i].id,.b prules[i].deny,aV prules[i].tgt,fE prules[i].cond,ay prules[i].obls] 167)) [0,1,2,3,4,5,6,7,8,9,10,12,13,15,16,11,14,17,18,19,20,21,22,23,24,25,26] (.hm2 p1 p4) aec rfl ?_;simp only[go_sem,r1,rL _ _ n41.symm,rM];refine(ue prules[i].tgt rt G4).pthen ?_;refine⟨.hm2 p1 p4,?_⟩;simp only[go_sem];refine(FF _ (prules[i].cond.map dL) G4 (eE dL 7 (fun _=>rfl) _ _) aeO (bl (fun _=>rfl) _)).pthen ?_
    refine⟨.hm2 p1 p4,?_⟩;simp only[go_sem];refine(AP _ (prules[i].obls.map bt) G4 (eE bt 3 (fun _=>rfl) _ _) aeO (bl (fun _=>rfl) _)).pthen ?_
    refine⟨.hm2 p1 p4,?_⟩;simp only[go_sem];obtain⟨id4,hg4,o4⟩:=(v4.sub sG).ow agk;have m1:id4≠i1:=mq o4 p1 aed;have m4:id4≠i4:=fun e=>(v4.nid o4.nid).2.1 (by rw[e];exact h4)
    refine o4.idx (U:=U) (e:=167) i rfl aew aej aed ?_;simp only[go_sem];have o4' :=o4;obtain⟨cap,rest,ey,hid,hr,hc,hsz⟩:=o4';have hbd:i*5+5≤(au (prules.map aC)++rest).length:=by
     rw[ad3,aX hsz,adZ];omega
    have e2:List.take (i*5+2) (au (prules.map aC)++rest)++(aV prules[i].tgt).cells++List.drop (i*5+2+(aV prules[i].tgt).cells.length) (au (prules.map aC)++rest)=au (prules.map aC)++rest:=by
     refine(ko hsz i aew 2 ((aV prules[i].tgt).cells) (adY rfl)).trans ?_;exact ajK
    have e3:List.take (i*5+3) (au (prules.map aC)++rest)++ [.sl (prules[i].cond.map dL) .no]++List.drop (i*5+3+1) (au (prules.map aC)++rest)=au (prules.map aC)++rest:=by
     refine(ko hsz i aew 3 ([.sl (prules[i].cond.map dL) .no]) (adY rfl)).trans ?_;exact ajK
    have e4:List.take (i*5+4) (au (prules.map aC)++rest)++ [.sl (prules[i].obls.map bt) .no]++List.drop (i*5+4+1) (au (prules.map aC)++rest)=au (prules.map aC)++rest:=by
     refine(ko hsz i aew 4 ([.sl (prules[i].obls.map bt) .no]) (adY rfl)).trans ?_;exact ajK
    simp only[go_sem,hid];rw[e2,sZ hid];refine⟨rfl,ad9,.hm2 p1 p4,?_⟩;refine o4.idx (U:=U) (e:=167) i rfl aew aej aed ?_;simp only[go_sem,hid];rw[e3,sZ hid];refine⟨ad9,.hm2 p1 p4,?_⟩;refine o4.idx (U:=U) (e:=167) i rfl aew aej aed ?_;simp only[go_sem,hid];rw[e4,sZ hid];refine⟨ad9,.hm2 p1 p4,?_⟩;simp only[go_sem,r26,w1];refine⟨_,?_,i+1,p1,sG _ _ vz,vs.trans sG,v4.sub sG,v5.sub sG,ad9,rfl,?_,?_,?_,?_,?_⟩
    ·omega
    all_goals simp only[go_sem,r1,r2,r24,r25]
   ·have hge:i=prules.length:=by have:=ad2 e;omega
    clear hge;simp only[go_sem,r1,q1,v5.rd.len,adZ];refine .intro (fun m ρ G=>∃i:Nat,G i1=some (.obj [.s pid,.b pset,.i palg,aV ptgt,y4,y5,ay pobls] 49)∧G i2=some (.obj [.s [],.b false,.i 0,.sl [] .full,.sl [] .full,.sl [] .full,.sl [] .full] 49)∧Ab.Sub g G∧OwE 167 g G 5 y4 (prules.map aC)∧OwE 49 g G 7 y5 (pkids.map aO)∧i≤pkids.length∧m=pkids.length - i∧
     lk ρ 1=some (.ptr i1 0)∧lk ρ 2=some (.ptr i2 0)∧lk ρ 57=some y5∧lk ρ 58=some (.i pkids.length)∧lk ρ 59=some (.i i)) pkids.length ?_ ?_
    ·refine⟨0,q1,vz,vs,v4,v5,ad9,rfl,?_,?_,?_,?_,?_⟩<;>simp only[go_sem,r1,r2]
    ·clear r1 r2 r24 r25 r26 q1 vz vs v4 v5 e hi
     rintro m ρ G ⟨i,q1,vz,vs,v4,v5,hi,rfl,r1,r2,r57,r58,r59⟩
     simp only[go_sem,r58,r59];refine .intro (fun e=>?_) (fun e=>?_)
     ·have hlt:i<pkids.length:=ad6 e
      have w1:=ad5 i ad9;have ihi:=ih i hlt;have hci:=jH pkids[i];cases hpk:pkids[i]with
      |mk kid kset kalg ktgt krules kkids kobls=>
      rw[hpk,nT]at ihi;simp only[go_sem,r57,r59];refine v5.rd.idx (e:=49) i rfl aew aej aed fun p hp1=>?_
      have hld:=hp1.all (U:=U) (ty:=49) aej (by simp only[go_sem];rw[ad0];exact hci) (by simp only[go_sem];rw[ad0,hpk,nT];rfl)
      simp only[go_sem,hld,ad0,hpk,nT];intro i4 h4;have n41:i4≠i1:=cL h4 q1;simp only[go_sem];obtain⟨G4,eG4⟩:∃G4,upd G i4 (some (.obj [.s kid,.b kset,.i kalg,aV ktgt,.sl (krules.map aC) .no,.sl (kkids.map aO) .no,ay kobls] 49))=G4:=⟨_,rfl⟩;rw[eG4];have p1:G4 i1=some (.obj [.s pid,.b pset,.i palg,aV ptgt,y4,y5,ay pobls] 49):=agN;have p4:G4 i4=some (.obj [.s kid,.b kset,.i kalg,aV ktgt,.sl (krules.map aC) .no,.sl (kkids.map aO) .no,ay kobls] 49):=by rw[←eG4,ah]
      have sG:Ab.Sub G G4:=ahs;refine .calls (hm2 i1 (.obj [.s pid,.b pset,.i palg,aV ptgt,y4,y5,ay pobls] 49) i4 (.obj [.s kid,.b kset,.i kalg,aV ktgt,.sl (krules.map aC) .no,.sl (kkids.map aO) .no,ay kobls] 49)) [0,1,2,3,4,5,6] (.hm2 p1 p4) aec rfl ?_;simp only[go_sem,r1,rL _ _ n41.symm,rM];refine(ihi G4).pthen ?_;refine⟨.hm2 p1 p4,?_⟩;simp only[go_sem];obtain⟨id4,hg4,o4⟩:=(v5.sub sG).ow agk;have o4' :=o4;obtain⟨cap,rest,ey,hid,hr,hc,hsz⟩:=o4';have hbd:i*7+7≤(au (pkids.map aO)++rest).length:=by
       rw[ad3,aX hsz,adZ];omega
      have e2:List.take (i*7) (au (pkids.map aO)++rest)++ [.s kid,.b kset,.i kalg,aV ktgt,.sl (krules.map aC) .no,.sl (kkids.map aO) .no,ay kobls]++List.drop (i*7+7) (au (pkids.map aO)++rest)=au (pkids.map aO)++rest:=by
       refine(ko hsz i aew 0 [.s kid,.b kset,.i kalg,aV ktgt,.sl (krules.map aC) .no,.sl (kkids.map aO) .no,ay kobls] (adY rfl)).trans ?_;rw[oU];rw[List.getElem?_eq_getElem aew,ad0,hpk,nT];rfl
      refine o4.idx (U:=U) (e:=49) i rfl aew aej aed ?_;simp only[go_sem,hid];rw[e2,sZ hid];refine⟨ad9,.hm2 p1 p4,?_⟩;simp only[go_sem,r59,w1];refine⟨_,?_,i+1,p1,sG _ _ vz,vs.trans sG,v4.sub sG,v5.sub sG,ad9,rfl,?_,?_,?_,?_,?_⟩
      ·omega
      all_goals simp only[go_sem,r1,r2,r57,r58]
     ·simp only[go_sem,r1,r2,q1,vz]
      refine .mk _ (.refl _) (.refl _) ⟨vs.put n2 _,aO (.mk pid pset palg ptgt prules pkids pobls),?_,nT ..⟩;rw[nT];have z4:∀b,Frz g (upd G i2 b) y4 (.sl (prules.map aC) .no):=fun b=>(v4.keep fun id e=>ag _ _ (hn4 id e)).frz (bl Bs prules)
      have z5:∀b,Frz g (upd G i2 b) y5 (.sl (pkids.map aO) .no):=fun b=>(v5.keep fun id e=>ag _ _ (hn5 id e)).frz (by rw[←bf];exact vv pkids)
      refine .agg _ _ rfl fun k k1 k2=>?_
      rcases k with _|_|_|_|_|_|_|k
      ·exact aet
      ·exact aet
      ·exact aet
      ·exact .pure (zx _)
      ·exact z4 _
      ·exact z5 _
      ·exact .pure (vw _)
      ·simp at k1;omega
termination_by p=>SizeOf.sizeOf p
decreasing_by
 have:=List.sizeOf_lt_of_mem (ad4 hj);simp only[bD.mk.sizeOf_spec];omega
end Go.Proofs.YtbbadggejjgihaaGreatDoor
namespace Go.Ab
open Go
def apart(a b:AV):Prop:=∀i,nid a=some i→nid b≠some i
theorem apart.symm{a b:AV}(h:apart a b):apart b a:=fun i e1 e2=>h i e2 e1
theorem eD{a y:AV}{tb:TypeId}{g h:Heap}{sz:Nat}{xs:List AV}(hw:OwE tb g h sz y xs)(ha:∀i,nid a=some i→g i≠none):apart a y:=fun i e1 e2=>ha i e1 (hw.nid e2).1
theorem OwE.there{tb:TypeId}{h0 h h' :Heap}{sz:Nat}{y:AV}{xs:List AV}(hw:OwE tb h0 h sz y xs)(hs:∀i,h i≠Option.none→h' i≠Option.none):∀i,Ab.nid y=some i→h' i≠Option.none:=fun i e=>hs i (hw.nid e).2.1
theorem Sub.some{h h' :Heap}(hs:Sub h h'):∀i,h i≠Option.none→h' i≠Option.none:=fun i e e' =>e (hs.none e')
end Go.Ab
namespace Go.Proofs.YtbbadggejjgihaaGreatDoor
open Go Go.Ab Go.Bf
def fC(h0 h:Heap)(ys:List AV)(x:AV)(c:aM):Prop:=∃f l,x= .agg [.s c.id,.s c.owner,.s c.state,f,l]∧OwE 160 h0 h 4 f (c.fields.map bN)∧OwE 163 h0 h 3 l (c.log.map iU)∧apart f l∧∀y∈ys,apart f y∧apart l y
def mz(h0 h:Heap)(ys:List AV)(y1:AV)(cs:List aM)(i0:Nat):Prop:=∃xs,OwE 133 h0 h 5 y1 xs∧xs.length=cs.length∧(∀j (h1:j<xs.length) (h2:j<cs.length),j≠i0→xs[j]=ct cs[j])∧∀(h1:i0<xs.length) (h2:i0<cs.length),fC h0 h ys xs[i0] cs[i0]
def tj(h0 h:Heap)(x:AV)(s:an)(i0:Nat):Prop:=∃y1 y2 y3 y4,x= .agg ([.i s.tick,y1,y2,y3,y4]++gb s.policy++ [.i s.version])∧mz h0 h [y1,y2,y3,y4] y1 s.cases i0∧
 OwE 99 h0 h 7 y2 (s.reviews.map iZ)∧OwE 102 h0 h 3 y3 (s.notices.map nw)∧OwE 105 h0 h 2 y4 (s.roles.map eV)∧apart y1 y2∧apart y1 y3∧apart y1 y4∧apart y2 y3∧apart y2 y4∧apart y3 y4
theorem Kj{cs L:List AV}(h:L.length=cs.length):Ab.over cs 0 L=L:=by
 simp_all [Ab.over,List.take_zero,List.nil_append,Nat.zero_add,List.drop_of_length_le,List.append_nil]
theorem Es{h:Heap}{x:AV}{c:aM}(i i0:Nat)(hb:RdC h x c)(hl:c.fields.length≤1000000)(hl2:c.log.length≤1000000):ai Tryz.prog 121 [x] h fun r h' =>
  ∃f l,r= .agg [.s c.id,.s c.owner,.s c.state,f,l]∧Ab.Sub h h'∧f.cells= [f]∧l.cells= [l]∧(i≠i0→f=gF c.fields∧l=sO c.log)∧(i=i0→OwE 160 h h' 4 f (c.fields.map bN)∧OwE 163 h h' 3 l (c.log.map iU)∧apart f l):=by
 by_cases e:i=i0
 ·exact(zm hb hl hl2).mono fun r h' ⟨⟨f,l,e1,a,b,c⟩,d⟩=>⟨f,l,e1,d,a.rd.cells,b.rd.cells,fun hh=>(hh e).elim,fun _=>⟨a,b,c⟩⟩
 ·exact(wR hb hl hl2).mono fun r h' ⟨e1,e2⟩=>⟨_,_,e1,by rw[e2];exact .refl _,rfl,rfl,fun _=>⟨rfl,rfl⟩,fun hh=>(e hh).elim⟩
theorem fC.sub{h0 h h' :Heap}{ys:List AV}{x:AV}{c:aM}(hm:fC h0 h ys x c)(hs:Ab.Sub h h'):fC h0 h' ys x c:=by
 obtain⟨f,l,e,a,b,c,d⟩:=hm;exact⟨f,l,e,a.sub hs,b.sub hs,c,d⟩
theorem fC.keep{h0 h h' :Heap}{ys:List AV}{x:AV}{c:aM}(hm:fC h0 h ys x c)(hs:∀f l,x= .agg [.s c.id,.s c.owner,.s c.state,f,l]→(∀y∈ys,apart f y∧apart l y)→∀i,(nid f=some i∨nid l=some i)→h' i=h i):fC h0 h' ys x c:=by
 obtain⟨f,l,e,a,b,c,d⟩:=hm;exact⟨f,l,e,a.keep fun i hi=>hs f l e d i (.inl hi),b.keep fun i hi=>hs f l e d i (.inr hi),c,d⟩
theorem S4{h:Heap}{x:AV}{s:an}(hb:RdS h x s)(i0:Nat)(hf:Few s)(hp:mF 1 s.policy):ai Tryz.prog 115 [x] h fun r h' =>tj h h' r s i0∧Ab.Sub h h' :=by
 obtain⟨y1,y2,y3,y4,rfl,⟨xs0,hc,hn,hcs⟩,h2,h3,h4⟩:=hb;have hpo:=ud s.policy 1 hp;cases hpp:s.policy with
 |mk pid pset palg ptgt prules pkids pobls=>
 rw[hpp,nT]at hpo;have hcC:gb (.mk pid pset palg ptgt prules pkids pobls)= [.s pid,.b pset,.i palg,aV ptgt,.sl (prules.map aC) .no,.sl (pkids.map aO) .no,ay pobls]:=ahd;have hfc:=hf.cases;refine ad8 Tryz.func115 41 [.cell 2 51] fun hwf=>?_
 simp only[go_sem,hcC,List.cons_append,List.nil_append];intro i1 h1;simp only[go_sem];intro i2 h2';have n21:=aI h2';have n2:=aB h2';simp only[go_sem,ak,n21.symm];obtain⟨H,eH⟩:∃H,upd (upd h i1 (some (.obj [.i s.tick,y1,y2,y3,y4,.s pid,.b pset,.i palg,aV ptgt,.sl (prules.map aC) .no,.sl (pkids.map aO) .no,ay pobls,.i s.version] 51))) i2 (some (.obj [.i 0,.sl [] .full,.sl [] .full,.sl [] .full,.sl [] .full,.s [],.b false,.i 0,.sl [] .full,.sl [] .full,.sl [] .full,.sl [] .full,.i 0] 51))=H:=⟨_,rfl⟩;have hH:Ab.Sub h H:=ae8;have g1:H i1=some (.obj [.i s.tick,y1,y2,y3,y4,.s pid,.b pset,.i palg,aV ptgt,.sl (prules.map aC) .no,.sl (pkids.map aO) .no,ay pobls,.i s.version] 51):=afK;have g2:H i2=some (.obj [.i 0,.sl [] .full,.sl [] .full,.sl [] .full,.sl [] .full,.s [],.b false,.i 0,.sl [] .full,.sl [] .full,.sl [] .full,.sl [] .full,.i 0] 51):=afC;rw[eH];clear eH;refine(AN y1 xs0 H (hc.sub hH) ad9).mono fun z1 H1 ⟨w1,s1⟩=>?_
 simp only[go_sem,s1 _ _ g1,w1.rd.fit,w1.rd.cells];have v1:∀b,OwE 133 h (upd H1 i1 b) 5 z1 xs0:=fun b=>(w1.less hH).keep fun id e=>ag _ _ (cL (w1.nid e).1 g1)
 have vs:∀b,Ab.Sub h (upd H1 i1 b):=fun b=>(hH.trans s1).put h1 b
 have vz:∀b,upd H1 i1 b i2=some (.obj [.i 0,.sl [] .full,.sl [] .full,.sl [] .full,.sl [] .full,.s [],.b false,.i 0,.sl [] .full,.sl [] .full,.sl [] .full,.sl [] .full,.i 0] 51):=fun b=>by rw[ag _ _ n21];exact s1 _ _ g2
 have hz1:∀id,nid z1=some id→id≠i1:=fun id e=>cL (w1.nid e).1 g1
 have hz2:∀id,nid z1=some id→id≠i2:=fun id e=>cL (w1.nid e).1 g2
 obtain⟨H2,eH2⟩:∃H2,upd H1 i1 (some (.obj [.i s.tick,z1,y2,y3,y4,.s pid,.b pset,.i palg,aV ptgt,.sl (prules.map aC) .no,.sl (pkids.map aO) .no,ay pobls,.i s.version] 51))=H2:=⟨_,rfl⟩;replace v1:=v1 (some (.obj [.i s.tick,z1,y2,y3,y4,.s pid,.b pset,.i palg,aV ptgt,.sl (prules.map aC) .no,.sl (pkids.map aO) .no,ay pobls,.i s.version] 51));replace vs:=vs (some (.obj [.i s.tick,z1,y2,y3,y4,.s pid,.b pset,.i palg,aV ptgt,.sl (prules.map aC) .no,.sl (pkids.map aO) .no,ay pobls,.i s.version] 51));replace vz:=vz (some (.obj [.i s.tick,z1,y2,y3,y4,.s pid,.b pset,.i palg,aV ptgt,.sl (prules.map aC) .no,.sl (pkids.map aO) .no,ay pobls,.i s.version] 51));have q1:H2 i1=some (.obj [.i s.tick,z1,y2,y3,y4,.s pid,.b pset,.i palg,aV ptgt,.sl (prules.map aC) .no,.sl (pkids.map aO) .no,ay pobls,.i s.version] 51):=by rw[←eH2,ah]
 rw[eH2]at v1 vs vz;rw[eH2];clear eH2;simp only[go_sem,v1.rd.len,hn];refine .intro (fun m ρ G=>∃(i:Nat) (xs:List AV),G i1=some (.obj [.i s.tick,z1,y2,y3,y4,.s pid,.b pset,.i palg,aV ptgt,.sl (prules.map aC) .no,.sl (pkids.map aO) .no,ay pobls,.i s.version] 51)∧G i2=some (.obj [.i 0,.sl [] .full,.sl [] .full,.sl [] .full,.sl [] .full,.s [],.b false,.i 0,.sl [] .full,.sl [] .full,.sl [] .full,.sl [] .full,.i 0] 51)∧Ab.Sub h G∧OwE 133 h G 5 z1 xs∧xs.length=s.cases.length∧(∀j (h1:j<xs.length) (h2:j<s.cases.length),j<i→j≠i0→xs[j]=ct s.cases[j])∧(∀(h1:i0<xs.length) (h2:i0<s.cases.length),i0<i→fC h G [z1] xs[i0] s.cases[i0])∧(∀j (h1:j<xs.length) (h2:j<s.cases.length),i≤j→RdC h xs[j] s.cases[j])∧i≤s.cases.length∧m=s.cases.length - i∧
  lk ρ 1=some (.ptr i1 0)∧lk ρ 2=some (.ptr i2 0)∧lk ρ 10=some z1∧lk ρ 11=some (.i s.cases.length)∧lk ρ 12=some (.i i)) s.cases.length ?_ ?_
 ·refine⟨0,xs0,q1,vz,vs,v1,hn,fun j _ _ hj=>ad9,fun _ _ hj=>ad9,fun j a b _=>hcs j a b,ad9,rfl,?_,?_,?_,?_,?_⟩<;>simp only[go_sem]
 ·rintro m ρ G ⟨i,xs,q1,vz,vs,v1,hn,hlo,hmy,hhi,hi,rfl,r1,r2,r10,r11,r12⟩
  simp only[go_sem,r11,r12];refine .intro (fun e=>?_) (fun e=>?_)
  ·have hlt:i<s.cases.length:=ad6 e
   have hltx:i<xs.length:=ad9;have w1:=ad5 i ad9;obtain⟨f,l,ex,hfl,hlg⟩:=hhi i hltx hlt (Nat.le_refl _);have hff:=hf.fields _ (ad4 hlt);have hfg:=hf.log _ (ad4 hlt);simp only[go_sem,r10,r12];refine v1.rd.idx (e:=133) i rfl hltx nX aed fun p hp1=>?_
   have hld:=hp1.all (U:=U) (ty:=133) aej (by rw[nX,ex];rfl) (by simp only[go_sem];rw[ex];rfl)
   simp only[go_sem,hld,ex];intro i4 h4;have n41:i4≠i1:=cL h4 q1;simp only[go_sem];obtain⟨G4,eG4⟩:∃G4,upd G i4 (some (.obj [.s s.cases[i].id,.s s.cases[i].owner,.s s.cases[i].state,f,l] 133))=G4:=⟨_,rfl⟩;rw[eG4];have p1:G4 i1=some (.obj [.i s.tick,z1,y2,y3,y4,.s pid,.b pset,.i palg,aV ptgt,.sl (prules.map aC) .no,.sl (pkids.map aO) .no,ay pobls,.i s.version] 51):=agN;have p4:G4 i4=some (.obj [.s s.cases[i].id,.s s.cases[i].owner,.s s.cases[i].state,f,l] 133):=by rw[←eG4,ah]
   have sG:Ab.Sub G G4:=ahs;refine .calls (hm2 i1 (.obj [.i s.tick,z1,y2,y3,y4,.s pid,.b pset,.i palg,aV ptgt,.sl (prules.map aC) .no,.sl (pkids.map aO) .no,ay pobls,.i s.version] 51) i4 (.obj [.s s.cases[i].id,.s s.cases[i].owner,.s s.cases[i].state,f,l] 133)) [0,1,2,3,4,5,6] (.hm2 p1 p4) aec rfl ?_;simp only[go_sem,r1,rL _ _ n41.symm,rM];refine(Es i i0 (show RdC G4 (.agg [.s s.cases[i].id,.s s.cases[i].owner,.s s.cases[i].state,f,l]) s.cases[i]from⟨f,l,rfl,hfl.sub (vs.trans sG),hlg.sub (vs.trans sG)⟩) hff hfg).mono fun r G5 ⟨f',l',er,s5,cf,cl,hne,heq⟩=>?_
   subst er;have p1' :=s5 _ _ p1;have p4' :=s5 _ _ p4;refine⟨.hm2 p1' p4',?_⟩;simp only[go_sem];obtain⟨id1,hg1,o1⟩:=((v1.sub sG).sub s5).ow (by intro e;rw[e]at hltx;cases hltx)
   have t1:id1≠i1:=mq o1 p1' aed;have t2:id1≠i2:=hz2 id1 o1.nid;have t3:G4 id1≠none:=fun e=>(v1.nid o1.nid).2.1 (sG.none e)
   have o1' :=o1;obtain⟨cap,rest,ey,hid,hr,hcap,hsz⟩:=o1';have hbd:i*5+5≤(au xs++rest).length:=by
    rw[ad3,aX hsz];omega
   have hx5:xs[i].cells.length=5:=hsz _ (ad4 hltx);have e2:List.take (i*5) (au xs++rest)++ [.s s.cases[i].id,.s s.cases[i].owner,.s s.cases[i].state,f',l']++List.drop (i*5+5) (au xs++rest)=au (xs.set i (.agg [.s s.cases[i].id,.s s.cases[i].owner,.s s.cases[i].state,f',l']))++rest:=by
    refine(ko hsz i hltx 0 [.s s.cases[i].id,.s s.cases[i].owner,.s s.cases[i].state,f',l'] (adY rfl)).trans ?_;rw[Kj (by rw[hx5];rfl)]
   refine o1.idx (U:=U) (e:=133) i rfl hltx nX aed ?_;simp only[go_sem,hid];rw[e2];have t4:id1≠i4:=fun e=>(v1.nid o1.nid).2.1 (by rw[e];exact h4)
   refine⟨ad9,.hm2 (by rw[ag _ _ t1.symm];exact p1') (by rw[ag _ _ t4.symm];exact p4'),?_⟩
   simp only[go_sem,r12,w1];have ho:∀b k,k≠id1→upd G5 id1 b k=G5 k:=fun b k hk=>ag _ _ hk
   have hs6:∀b,Ab.Sub h (upd G5 id1 b):=fun b=>((vs.trans sG).trans s5).put hg1 b
   refine⟨_,?_,i+1,xs.set i (.agg [.s s.cases[i].id,.s s.cases[i].owner,.s s.cases[i].state,f',l']),(ho _ _ t1.symm).trans p1',(ho _ _ t2.symm).trans (s5 _ _ (sG _ _ vz)),hs6 _,.inr ⟨id1,hg1,cap,rest,agr,ah ..,by rw[List.length_set];exact hr,agl,?_⟩,by rw[List.length_set];exact hn,fun j a b hj hj0=>?_,fun a b hj=>?_,fun j a b hj=>?_,ad9,rfl,?_,?_,?_,?_,?_⟩
   ·omega
   ·intro z hz
    exact ai1
   ·have a' :j<xs.length:=by rw[List.length_set]at a;exact a
    by_cases hji:j=i
    ·subst hji
     obtain⟨ef,el⟩:=hne hj0;rw[List.getElem_set_self,ef,el];rfl
    ·rw[List.getElem_set_ne (Ne.symm hji)]
     exact hlo j a' b ad9 hj0
   ·have a' :i0<xs.length:=by rw[List.length_set]at a;exact a
    by_cases hji:i=i0
    ·subst hji
     obtain⟨of,ol,hap⟩:=heq rfl;have kf:∀k,G4 k=none→upd G5 id1 (some (.obj (au (xs.set i (.agg [.s s.cases[i].id,.s s.cases[i].owner,.s s.cases[i].state,f',l']))++rest) 133)) k=G5 k:=fun k hk=>ag _ _ fun e=>t3 (by rw[←e];exact hk)
     rw[List.getElem_set_self];refine⟨f',l',rfl,(of.less (vs.trans sG)).keep fun k hk=>kf k (of.nid hk).1,(ol.less (vs.trans sG)).keep fun k hk=>kf k (ol.nid hk).1,hap,fun y hy=>?_⟩
     rw[List.mem_singleton.1 hy];have hz1:∀k,nid z1=some k→G4 k≠none:=(v1.sub sG).there fun k hk=>hk
     exact⟨(eD of hz1).symm,(eD ol hz1).symm⟩
    ·rw[List.getElem_set_ne hji]
     have hm:=hmy a' b ad9;refine fC.keep (h:=G5) ((hm.sub sG).sub s5) fun f l ex hap k hk=>?_
     refine ag _ _ fun e=>?_
     subst e;rcases hk with hk|hk
     ·exact(hap z1 (List.mem_singleton.2 rfl)).1 _ hk o1.nid
     ·exact(hap z1 (List.mem_singleton.2 rfl)).2 _ hk o1.nid
   ·have a' :j<xs.length:=by rw[List.length_set]at a;exact a
    rw[List.getElem_set_ne ad9];exact hhi j a' b ad9
   all_goals simp only[go_sem,r1,r2,r10,r11]
  ·have hge:i=s.cases.length:=by have:=ad2 e;omega
   simp only[go_sem];refine .stage (hm1 i1 (.obj [.i s.tick,z1,y2,y3,y4,.s pid,.b pset,.i palg,aV ptgt,.sl (prules.map aC) .no,.sl (pkids.map aO) .no,ay pobls,.i s.version] 51)) [0,1,3,4,6,7,2,9,5,8] [10,11,12,13,14] (.hm1 q1) aec ?_;simp only[go_sem,r1,gp];refine(vZ y2 _ G (h2.sub vs) (by rw[adZ];exact hf.reviews)).mono fun z2 G1 ⟨o2,s1⟩=>?_
   refine⟨.hm1 (s1 _ _ q1),?_⟩;simp only[go_sem,r1];refine(vY y3 _ G1 ((h3.sub vs).sub s1) (by rw[adZ];exact hf.notices)).mono fun z3 G2 ⟨o3,s2⟩=>?_
   refine⟨.hm1 (s2 _ _ (s1 _ _ q1)),?_⟩;simp only[go_sem];refine(Jd y4 _ G2 (((h4.sub vs).sub s1).sub s2) (by rw[adZ];exact hf.roles)).mono fun z4 G3 ⟨o4,s3⟩=>?_
   have s03:Ab.Sub G G3:=s1.trans (s2.trans s3);have q1' :=s03 _ _ q1;have q2' :=s03 _ _ vz;refine⟨.hm1 q1',cV,(fun _ _ e=>aey),?_⟩
   simp only[go_sem,r1,q1',o2.rd.fit,o2.rd.cells,o3.rd.fit,o3.rd.cells,o4.rd.fit,o4.rd.cells];refine⟨fun _ _ e=>aey,fun _ _ e=>aey,fun _ _ e=>aey,?_⟩
   refine(show ai Tryz.prog 165 [_] _ _ from hpo _).pthen ?_
   have vz' :∀b,upd G3 i1 b i2=some (.obj [.i 0,.sl [] .full,.sl [] .full,.sl [] .full,.sl [] .full,.s [],.b false,.i 0,.sl [] .full,.sl [] .full,.sl [] .full,.sl [] .full,.i 0] 51):=fun b=>by rw[ag _ _ n21];exact q2'
   simp only[go_sem,r1,r2,vz'];have k1:∀ {tb:TypeId} {z:AV} {xs:List AV} {n:Nat} {g:Heap},OwE tb g G3 n z xs→Ab.Sub h g→(∀id,nid z=some id→id≠i1∧id≠i2)→∀a b,OwE tb h (upd (upd G3 i1 a) i2 b) n z xs:=fun w hg hn a b=>(w.less hg).keep fun id e=>by
    rw[ag _ _ (hn id e).2,ag _ _ (hn id e).1]
   have new:∀ {tb:TypeId} {z:AV} {xs:List AV} {n:Nat} {g:Heap},OwE tb g G3 n z xs→Ab.Sub G g→∀id,nid z=some id→id≠i1∧id≠i2:=fun w hg id e=>⟨cL (w.nid e).1 (hg _ _ q1),cL (w.nid e).1 (hg _ _ vz)⟩
   have n2' :=new (o2.sub (s2.trans s3)) (.refl _);have n3' :=new (o3.sub s3) s1;have n4' :=new o4 (s1.trans s2);have n1' :∀id,nid z1=some id→id≠i1∧id≠i2:=fun id e=>⟨hz1 id e,hz2 id e⟩
   have aG:∀k,nid z1=some k→G k≠none:=v1.there fun k hk=>hk
   refine .mk _ (.refl _) (.refl _) ⟨⟨z1,z2,z3,z4,by rw[hpp,hcC];rfl,⟨xs,k1 (v1.sub s03) (.refl _) n1' _ _,hn,fun j a b hj=>hlo j a b ad9 hj,fun a b=>?_⟩,k1 (o2.sub (s2.trans s3)) vs n2' _ _,k1 (o3.sub s3) (vs.trans s1) n3' _ _,k1 o4 (vs.trans (s1.trans s2)) n4' _ _,?_,?_,?_,?_,?_,?_⟩,((vs.trans s03).put h1 _).put n2 _⟩
   ·have hm:=(hmy a b ad9).sub s03
    obtain⟨f,l,ex,of,ol,hap,hy⟩:=hm;obtain⟨af,al⟩:=hy z1 (List.mem_singleton.2 rfl);have kf:∀k,nid f=some k→k≠i1∧k≠i2:=fun k hk=>⟨mq (of.nid hk).2.2 q1' aed,mq (of.nid hk).2.2 q2' aed⟩
    have kl:∀k,nid l=some k→k≠i1∧k≠i2:=fun k hk=>⟨mq (ol.nid hk).2.2 q1' aed,mq (ol.nid hk).2.2 q2' aed⟩
    obtain⟨f0,l0,ex0,of0,ol0,_⟩:=hmy a b ad9;obtain⟨rfl,rfl⟩:f0=f∧l0=l:=by
     rw[ex0]at ex;simp only[AV.agg.injEq,List.cons.injEq,true_and,and_true]at ex;exact ex
    have gf:∀k,nid f0=some k→G k≠none:=of0.there fun k hk=>hk
    have gl:∀k,nid l0=some k→G k≠none:=ol0.there fun k hk=>hk
    refine⟨f0,l0,ex,k1 of (.refl _) kf _ _,k1 ol (.refl _) kl _ _,hap,fun y hy=>?_⟩
    simp only[List.mem_cons,List.not_mem_nil,or_false]at hy;rcases hy with rfl|rfl|rfl|rfl
    ·exact⟨af,al⟩
    ·exact⟨eD o2 gf,eD o2 gl⟩
    ·exact⟨eD o3 fun k hk=>s1.some k (gf k hk),eD o3 fun k hk=>s1.some k (gl k hk)⟩
    ·exact⟨eD o4 fun k hk=>(s1.trans s2).some k (gf k hk),eD o4 fun k hk=>(s1.trans s2).some k (gl k hk)⟩
   ·exact eD o2 aG
   ·exact eD o3 fun k hk=>s1.some k (aG k hk)
   ·exact eD o4 fun k hk=>(s1.trans s2).some k (aG k hk)
   ·exact eD o3 (o2.there fun k hk=>hk)
   ·exact eD o4 ((o2.sub s2).there fun k hk=>hk)
   ·exact eD o4 (o3.there fun k hk=>hk)
end Go.Proofs.YtbbadggejjgihaaGreatDoor
namespace Go.Ab
open Go
theorem pJ{A B C X:List AV}{k m:Nat}(hk:k=A.length)(hm:m=X.length)(h:X.length=B.length):(A++(B++C)).take k++X++(A++(B++C)).drop (k+m)=A++(X++C):=by
 grind
theorem HY{A B C X:List AV}{k1 k2 k3 k4:Nat}(h1:k1=A.length+X.length)(h2:k2=k1+B.length)(h3:k3=A.length)(h4:k4=k3+X.length)(hc:X.length≤C.length):
  List.take k3 (List.take k1 (A++(B++C))++B++List.drop k2 (A++(B++C)))++X++List.drop k4 (List.take k1 (A++(B++C))++B++List.drop k2 (A++(B++C)))=A++(X++(B++C.drop X.length)):=by
 subst h1;subst h2;subst h3;subst h4
 have e1:List.take (A.length+X.length) (A++(B++C))=A++List.take X.length (B++C):=aea;have e2:List.drop (A.length+X.length+B.length) (A++(B++C))=C.drop X.length:=by
  grind [Nat.add_assoc,List.drop_drop,List.drop_left,Nat.add_comm]
 rw[e1,e2,List.append_assoc A];have e3:(List.take X.length (B++C)).length=X.length:=by rw[List.length_take,ad3];omega
 have e4:A++(List.take X.length (B++C)++B++List.drop X.length C)=A++(List.take X.length (B++C)++(B++C.drop X.length)):=aeg;rw[List.append_assoc A,e4];exact pJ rfl rfl e3.symm
theorem HZ{A Z R X B:List AV}{k1 k2 k3 k4:Nat}(h1:k1=A.length)(h2:k2=k1+X.length)(h3:k3=A.length+X.length)(h4:k4=k3+B.length)(hz:Z.length=X.length+B.length):
  List.take k3 (List.take k1 (A++Z++R)++X++List.drop k2 (A++Z++R))++B++List.drop k4 (List.take k1 (A++Z++R)++X++List.drop k2 (A++Z++R))=A++(X++(B++R)):=by
 subst h1;subst h2;subst h3;subst h4
 obtain⟨Z1,Z2,rfl,e1⟩:∃Z1 Z2,Z=Z1++Z2∧Z1.length=X.length:=⟨Z.take X.length,Z.drop X.length,(List.take_append_drop _ _).symm,aea⟩;have e2:Z2.length=B.length:=aea;have e3:A++(Z1++Z2)++R=A++(Z1++(Z2++R)):=aeg;rw[e3,pJ rfl rfl e1.symm,←List.append_assoc A X,pJ aeg rfl e2.symm,List.append_assoc]
end Go.Ab
namespace Go.Proofs.YtbbadggejjgihaaGreatDoor
open Go Go.Ab Go.Bf
theorem Kh{h:Heap}{v:AV}{id off len cap:Nat}{cs:List AV}{t:TypeId}(hv:v.cells.length=5)(hid:h id=some (.obj cs t))(hcs:cs≠ []):ai Tryz.prog 166 [.sl [v] .full,.ob id off len cap 5] h fun r h' =>r= .b false∧h' =h:=
 wQ (U:=U) (tS:=40) (tR:=4) (e:=133) hU Tryz.func166 aeo aeo aeo aec aeo aed (by simp only[go_sem];omega) aeg hid hcs
theorem Ge(y:AV)(xs:List AV)(v:AV)(i:Nat)(h0 h:Heap)(hw:OwE 133 h0 h 5 y xs)(hs0:Ab.Sub h0 h)(hi:i≤xs.length)(hl:xs.length≤1000000)(hv:v.cells.length=5)(hva:fit v 5):
  ai Tryz.prog 117 [y,.i i,.sl [v] .full] h fun r h' =>OwE 133 h0 h' 5 r (xs.take i++([v]++xs.drop i))∧(∀k,h k≠none→nid y≠some k→h' k=h k)∧∀k,nid r=some k→h k=none∨nid y=some k:=by
 rcases hw with⟨rfl,rfl⟩|⟨id,hg,cap,rest,rfl,hid,hr,hc,hsz⟩
 ·obtain rfl:i=0:=by simpa using hi
  refine ad8 Tryz.func117 95 [.tmp 6] fun hwf=>?_
  simp -implicitDefEqProofs only[go_sem];refine⟨ad9,ad9,hv,.ob aej (kL.ow (xs:=[v]) af7 ahx rfl fun id y' h' hid hw ho=>?_)⟩
  have hw' :Ow 133 h' 5 id y' [v]:=ahb;simp -implicitDefEqProofs only[go_sem];refine .same (.refl _) ⟨.inr ⟨id,hs0.none hid,hw'⟩,fun k hk _=>ho k (fun e=>hk (by rw[e];exact hid)),fun k hk=>?_⟩
  rw[show ax [y']=y' from rfl,hw'.nid]at hk
  cases hk;exact .inl hid
 ·have how:OwE 133 h0 h 5 (.ob id 0 xs.length cap 5) xs:=.inr ⟨id,hg,cap,rest,rfl,hid,hr,hc,hsz⟩
  have hfl:=aX hsz;refine ad8 Tryz.func117 95 [.tmp 6] fun hwf=>?_
  simp -implicitDefEqProofs only[go_sem];refine⟨ad9,ad9,?_⟩;cases d1:((i:Int)==(xs.length:Int))
  case true=>
   have hin:i=xs.length:=by
    have:(i:Int)=(xs.length:Int):=ag9;omega
   simp -implicitDefEqProofs only[go_sem];subst hin;refine⟨ad9,?_⟩;refine OwE.app (U:=U) (tb:=133) how hs0 (.sl agY .full:Rd h 5 (.sl [v] .full) [v]) aej aed aee aej aeg agx fun id2 y' h' g2 hor hw ho=>?_
   simp -implicitDefEqProofs only[go_sem];have e1:xs.take xs.length++([v]++xs.drop xs.length)=xs++ [v]:=aeg;refine .same (.refl _) ⟨by have:OwE 133 h0 h' 5 y' (xs++ [v]):=.inr ⟨id2,g2,hw⟩;rw[←e1]at this;exact this,fun k hk hk2=>ho k fun e=>?_,fun k hk=>?_⟩
   ·rcases hor with hor|⟨l,c,ey⟩
    ·exact hk ah3
    ·cases ey
     exact hk2 ahW
   ·exact ajs
  have hne:i<xs.length:=by
   have:¬(i:Int)=(xs.length:Int):=ag9;omega
  have wn:IntKind.i64.wrap ((xs.length:Int)+1)=((xs.length+1:Nat):Int):=aeE;have wi:=ad5 i ad9;have wm:IntKind.i64.wrap (((xs.length+1:Nat):Int) - (i:Int))=((xs.length+1 - i:Nat):Int):=aeE;have f1:au xs=au (xs.take i)++au (xs.drop i):=ahw;have f2:(au (xs.take i)).length=i*5:=by rw[aX (sz:=5) fun z hz=>hsz z (List.mem_of_mem_take hz),List.length_take,Nat.min_eq_left hi]
  have f3:(au (xs.drop i)).length=(xs.length - i)*5:=by rw[aX (sz:=5) fun z hz=>hsz z (List.mem_of_mem_drop hz),List.length_drop]
  have f4:au (xs.take i++([v]++xs.drop i))=au (xs.take i)++(v.cells++au (xs.drop i)):=ahx;have f5:Sized 5 (xs.take i++([v]++xs.drop i)):=fun z hz=>by
   exact ai2
  have f6:(xs.take i++([v]++xs.drop i)).length=xs.length+1:=aeO;have f6' :(xs.take i++v::xs.drop i).length=xs.length+1:=f6;cases d2:decide ((cap:Int)<((xs.length+1:Nat):Int))
  ·have e2:=ad2 d2
   simp -implicitDefEqProofs only[go_sem,wn,d2];refine⟨ad9,?_⟩;simp -implicitDefEqProofs only[go_sem,wi];have hcs:au xs++rest≠ []:=by
    intro e;have:=congrArg List.length e;rw[ad3,hfl]at this;simp at this;omega
   refine⟨ad9,ad9,ad9,ad9,ad9,ad9,?_⟩;refine(Kh hv hid hcs).pthen ?_;simp -implicitDefEqProofs only[go_sem];refine .calls cV [0,1,2,3,4,5,6,7,8] (fun _ _ e=>aey) aec rfl ?_
   simp -implicitDefEqProofs only[go_sem,wi,hid,Nat.sub_zero];have hmin:min (xs.length+1 - i) (xs.length+1 - (i+1))=xs.length - i:=ad9;refine⟨ad9,ad9,ad9,ad9,ad9,ad9,xs.drop i,agQ,agG, ?q1,fun z hz=>hsz z (List.mem_of_mem_drop hz),afH,by rw[ad3,hfl,hr];omega,ahR,ad9,ad9,ad9,hv,ad9, ?ln, ?fin⟩
   case q1=>rw[hmin,f1,List.append_assoc,←f2,List.drop_left,←f3,List.take_left]
   case ln=>simp only[ad3,List.length_take,List.length_drop,hfl,hr,f3];omega
   have hrl:(5:Nat)≤rest.length:=by rw[hr];omega
   have hfv:au [v]=v.cells:=ahx;have key:=HY (A:=au (xs.take i)) (B:=au (xs.drop i)) (C:=rest) (X:=au [v]) (k1:=(i+1)*5) (k2:=(i+1)*5+(au (xs.drop i)).length) (k3:=i*5) (k4:=i*5+(au [v]).length) ahE rfl f2.symm rfl (by rw[hfv,hv];exact hrl)
   rw[←List.append_assoc (au (xs.take i)) (au (xs.drop i)) rest,←f1]at key;rw[key];have e8:au (xs.take i)++(au [v]++(au (xs.drop i)++rest.drop (au [v]).length))=au (xs.take i++([v]++xs.drop i))++rest.drop 5:=by rw[f4,hfv,hv];simp only[List.append_assoc]
   rw[e8];refine .same (.refl _) ⟨.inr ⟨id,hg,cap,rest.drop 5,by rw[←f6];rfl,ah _ _ _,by rw[List.length_drop,hr,f6'];omega,afM,f5⟩,fun k hk hk2=>ag _ _ fun e=>hk2 ahW,fun k hk=> .inr hk⟩
  ·have e2:=ad1 d2
   simp -implicitDefEqProofs only[go_sem,wn,d2,wm];refine⟨ad9,?_⟩;simp -implicitDefEqProofs only[go_sem,hid];have eA:List.take (i*5) (au xs++rest)=au (xs.take i):=by rw[f1,List.append_assoc,←f2,List.take_left]
   refine⟨ad9,ad9,ad9,ad9,ad9,ad9,by rw[ad3,hfl];omega,?_⟩
   rw[Nat.sub_zero,eA];obtain⟨Z,eZ⟩:∃Z,cM (AV.agg [AV.s [],AV.s [],AV.s [],AV.sl [] Perm.full,AV.sl [] Perm.full]) (xs.length+1 - i) 5=Z:=⟨_,rfl⟩;have lZ:Z.length=(xs.length+1 - i)*5:=by rw[←eZ];simp[cM]
   rw[eZ];intro id2 cap2 rest2 hid2 hc2 hr2;have hx:¬id=id2:=fun e=>by rw[e,hid2]at hid;cases hid
   simp -implicitDefEqProofs only[go_sem];have hfv:au [v]=v.cells:=ahx;refine⟨ad9,ad9,ad9,hv,ad9,agm,?_⟩;refine .calls cV [0,1,2,3,4,5,6,7,8] (fun _ _ e=>aey) aec rfl ?_
   simp -implicitDefEqProofs only[go_sem,wi,hid,hx,Nat.sub_zero];have hmin:min (xs.length - i) (i+(xs.length+1 - i) - (i+1))=xs.length - i:=ad9;have l0:(au (xs.take i)++Z++rest2).length=(i+(xs.length+1 - i))*5+(cap2 - (i+(xs.length+1 - i)))*5:=agm;refine⟨ad9,ad9,ad9,ad9,ad9,ad9,xs.drop i,agQ,agG, ?q2,fun z hz=>hsz z (List.mem_of_mem_drop hz),afH, ?lm,ahR, ?fim⟩
   case q2=>rw[hmin,f1,List.append_assoc,←f2,List.drop_left,←f3,List.take_left]
   case lm=>rw[hfv];simp only[ad3,List.length_take,List.length_drop,l0,hv];omega
   rw[HZ f2.symm rfl ahE rfl (by rw[hfv,hv,lZ,f3];omega)]
   have e8:au (xs.take i)++(au [v]++(au (xs.drop i)++rest2))=au (xs.take i++([v]++xs.drop i))++rest2:=by rw[f4,hfv];simp only[List.append_assoc]
   rw[e8];have e9:i+(xs.length+1 - i)=xs.length+1:=ad9;rw[e9]at hr2 hc2⊢;refine .same (.refl _) ⟨.inr ⟨id2,hs0.none hid2,cap2,rest2,by rw[←f6];rfl,ah _ _ _,by rw[hr2,f6'],by rw[f6'];omega,f5⟩,fun k hk hk2=>ag _ _ fun e=>hk (by rw[e];exact hid2),fun k hk=> .inl (by cases hk;exact hid2)⟩
theorem GH{h:Heap}{v:AV}{id off len cap:Nat}{cs:List AV}{t:TypeId}(hv:v.cells.length=4)(hid:h id=some (.obj cs t))(hcs:cs≠ []):ai Tryz.prog 220 [.sl [v] .full,.ob id off len cap 4] h fun r h' =>r= .b false∧h' =h:=
 wQ (U:=U) (tS:=130) (tR:=4) (e:=160) hU Tryz.func220 aeo aeo aeo aec aeo aed (by simp only[go_sem];omega) aeg hid hcs
theorem DP(y:AV)(xs:List AV)(v:AV)(i:Nat)(h0 h:Heap)(hw:OwE 160 h0 h 4 y xs)(hs0:Ab.Sub h0 h)(hi:i≤xs.length)(hl:xs.length≤1000000)(hv:v.cells.length=4)(hva:fit v 4):
  ai Tryz.prog 169 [y,.i i,.sl [v] .full] h fun r h' =>OwE 160 h0 h' 4 r (xs.take i++([v]++xs.drop i))∧(∀k,h k≠none→nid y≠some k→h' k=h k)∧∀k,nid r=some k→h k=none∨nid y=some k:=by
 rcases hw with⟨rfl,rfl⟩|⟨id,hg,cap,rest,rfl,hid,hr,hc,hsz⟩
 ·obtain rfl:i=0:=by simpa using hi
  refine ad8 Tryz.func169 95 [.tmp 6] fun hwf=>?_
  simp -implicitDefEqProofs only[go_sem];refine⟨ad9,ad9,hv,.ob aej (kL.ow (xs:=[v]) af7 ahx rfl fun id y' h' hid hw ho=>?_)⟩
  have hw' :Ow 160 h' 4 id y' [v]:=ahb;simp -implicitDefEqProofs only[go_sem];refine .same (.refl _) ⟨.inr ⟨id,hs0.none hid,hw'⟩,fun k hk _=>ho k (fun e=>hk (by rw[e];exact hid)),fun k hk=>?_⟩
  rw[show ax [y']=y' from rfl,hw'.nid]at hk
  cases hk;exact .inl hid
 ·have how:OwE 160 h0 h 4 (.ob id 0 xs.length cap 4) xs:=.inr ⟨id,hg,cap,rest,rfl,hid,hr,hc,hsz⟩
  have hfl:=aX hsz;refine ad8 Tryz.func169 95 [.tmp 6] fun hwf=>?_
  simp -implicitDefEqProofs only[go_sem];refine⟨ad9,ad9,?_⟩;cases d1:((i:Int)==(xs.length:Int))
  case true=>
   have hin:i=xs.length:=by
    have:(i:Int)=(xs.length:Int):=ag9;omega
   simp -implicitDefEqProofs only[go_sem];subst hin;refine⟨ad9,?_⟩;refine OwE.app (U:=U) (tb:=160) how hs0 (.sl agY .full:Rd h 4 (.sl [v] .full) [v]) aej aed aee aej aeg agx fun id2 y' h' g2 hor hw ho=>?_
   simp -implicitDefEqProofs only[go_sem];have e1:xs.take xs.length++([v]++xs.drop xs.length)=xs++ [v]:=aeg;refine .same (.refl _) ⟨by have:OwE 160 h0 h' 4 y' (xs++ [v]):=.inr ⟨id2,g2,hw⟩;rw[←e1]at this;exact this,fun k hk hk2=>ho k fun e=>?_,fun k hk=>?_⟩
   ·rcases hor with hor|⟨l,c,ey⟩
    ·exact hk ah3
    ·cases ey
     exact hk2 ahW
   ·exact ajs
  have hne:i<xs.length:=by
   have:¬(i:Int)=(xs.length:Int):=ag9;omega
  have wn:IntKind.i64.wrap ((xs.length:Int)+1)=((xs.length+1:Nat):Int):=aeE;have wi:=ad5 i ad9;have wm:IntKind.i64.wrap (((xs.length+1:Nat):Int) - (i:Int))=((xs.length+1 - i:Nat):Int):=aeE;have f1:au xs=au (xs.take i)++au (xs.drop i):=ahw;have f2:(au (xs.take i)).length=i*4:=by rw[aX (sz:=4) fun z hz=>hsz z (List.mem_of_mem_take hz),List.length_take,Nat.min_eq_left hi]
  have f3:(au (xs.drop i)).length=(xs.length - i)*4:=by rw[aX (sz:=4) fun z hz=>hsz z (List.mem_of_mem_drop hz),List.length_drop]
  have f4:au (xs.take i++([v]++xs.drop i))=au (xs.take i)++(v.cells++au (xs.drop i)):=ahx;have f5:Sized 4 (xs.take i++([v]++xs.drop i)):=fun z hz=>by
   exact ai2
  have f6:(xs.take i++([v]++xs.drop i)).length=xs.length+1:=aeO;have f6' :(xs.take i++v::xs.drop i).length=xs.length+1:=f6;cases d2:decide ((cap:Int)<((xs.length+1:Nat):Int))
  ·have e2:=ad2 d2
   simp -implicitDefEqProofs only[go_sem,wn,d2];refine⟨ad9,?_⟩;simp -implicitDefEqProofs only[go_sem,wi];have hcs:au xs++rest≠ []:=by
    intro e;have:=congrArg List.length e;rw[ad3,hfl]at this;simp at this;omega
   refine⟨ad9,ad9,ad9,ad9,ad9,ad9,?_⟩;refine(GH hv hid hcs).pthen ?_;simp -implicitDefEqProofs only[go_sem];refine .calls cV [0,1,2,3,4,5,6,7,8] (fun _ _ e=>aey) aec rfl ?_
   simp -implicitDefEqProofs only[go_sem,wi,hid,Nat.sub_zero];have hmin:min (xs.length+1 - i) (xs.length+1 - (i+1))=xs.length - i:=ad9;refine⟨ad9,ad9,ad9,ad9,ad9,ad9,xs.drop i,agQ,agG, ?q1,fun z hz=>hsz z (List.mem_of_mem_drop hz),afH,by rw[ad3,hfl,hr];omega,ahR,ad9,ad9,ad9,hv,ad9, ?ln, ?fin⟩
   case q1=>rw[hmin,f1,List.append_assoc,←f2,List.drop_left,←f3,List.take_left]
   case ln=>simp only[ad3,List.length_take,List.length_drop,hfl,hr,f3];omega
   have hrl:(4:Nat)≤rest.length:=by rw[hr];omega
   have hfv:au [v]=v.cells:=ahx;have key:=HY (A:=au (xs.take i)) (B:=au (xs.drop i)) (C:=rest) (X:=au [v]) (k1:=(i+1)*4) (k2:=(i+1)*4+(au (xs.drop i)).length) (k3:=i*4) (k4:=i*4+(au [v]).length) ahE rfl f2.symm rfl (by rw[hfv,hv];exact hrl)
   rw[←List.append_assoc (au (xs.take i)) (au (xs.drop i)) rest,←f1]at key;rw[key];have e8:au (xs.take i)++(au [v]++(au (xs.drop i)++rest.drop (au [v]).length))=au (xs.take i++([v]++xs.drop i))++rest.drop 4:=by rw[f4,hfv,hv];simp only[List.append_assoc]
   rw[e8];refine .same (.refl _) ⟨.inr ⟨id,hg,cap,rest.drop 4,by rw[←f6];rfl,ah _ _ _,by rw[List.length_drop,hr,f6'];omega,afM,f5⟩,fun k hk hk2=>ag _ _ fun e=>hk2 ahW,fun k hk=> .inr hk⟩
  ·have e2:=ad1 d2
   simp -implicitDefEqProofs only[go_sem,wn,d2,wm];refine⟨ad9,?_⟩;simp -implicitDefEqProofs only[go_sem,hid];have eA:List.take (i*4) (au xs++rest)=au (xs.take i):=by rw[f1,List.append_assoc,←f2,List.take_left]
   refine⟨ad9,ad9,ad9,ad9,ad9,ad9,by rw[ad3,hfl];omega,?_⟩
   rw[Nat.sub_zero,eA];obtain⟨Z,eZ⟩:∃Z,cM (AV.agg [AV.s [],AV.v (Value.int IntKind.i64 0),AV.v (Value.int IntKind.i64 0),AV.s []]) (xs.length+1 - i) 4=Z:=⟨_,rfl⟩;have lZ:Z.length=(xs.length+1 - i)*4:=by rw[←eZ];simp[cM]
   rw[eZ];intro id2 cap2 rest2 hid2 hc2 hr2;have hx:¬id=id2:=fun e=>by rw[e,hid2]at hid;cases hid
   simp -implicitDefEqProofs only[go_sem];have hfv:au [v]=v.cells:=ahx;refine⟨ad9,ad9,ad9,hv,ad9,agm,?_⟩;refine .calls cV [0,1,2,3,4,5,6,7,8] (fun _ _ e=>aey) aec rfl ?_
   simp -implicitDefEqProofs only[go_sem,wi,hid,hx,Nat.sub_zero];have hmin:min (xs.length - i) (i+(xs.length+1 - i) - (i+1))=xs.length - i:=ad9;have l0:(au (xs.take i)++Z++rest2).length=(i+(xs.length+1 - i))*4+(cap2 - (i+(xs.length+1 - i)))*4:=agm;refine⟨ad9,ad9,ad9,ad9,ad9,ad9,xs.drop i,agQ,agG, ?q2,fun z hz=>hsz z (List.mem_of_mem_drop hz),afH, ?lm,ahR, ?fim⟩
   case q2=>rw[hmin,f1,List.append_assoc,←f2,List.drop_left,←f3,List.take_left]
   case lm=>rw[hfv];simp only[ad3,List.length_take,List.length_drop,l0,hv];omega
   rw[HZ f2.symm rfl ahE rfl (by rw[hfv,hv,lZ,f3];omega)]
   have e8:au (xs.take i)++(au [v]++(au (xs.drop i)++rest2))=au (xs.take i++([v]++xs.drop i))++rest2:=by rw[f4,hfv];simp only[List.append_assoc]
   rw[e8];have e9:i+(xs.length+1 - i)=xs.length+1:=ad9;rw[e9]at hr2 hc2⊢;refine .same (.refl _) ⟨.inr ⟨id2,hs0.none hid2,cap2,rest2,by rw[←f6];rfl,ah _ _ _,by rw[hr2,f6'],by rw[f6'];omega,f5⟩,fun k hk hk2=>ag _ _ fun e=>hk (by rw[e];exact hid2),fun k hk=> .inl (by cases hk;exact hid2)⟩
end Go.Proofs.YtbbadggejjgihaaGreatDoor
