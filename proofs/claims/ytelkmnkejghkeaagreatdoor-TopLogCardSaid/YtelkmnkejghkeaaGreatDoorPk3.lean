/- The law TopLog,TopTampered: pack 3 of its texts. -/
import Derived.Test.YtelkmnkejghkeaaGreatDoorProg
import Derived.KernelRfl
import Derived.Shelf.Strings.OnBuilder
import Derived.Shelf.Small.Wraps
import Derived.Shelf.Strconv.Itoa3
import Derived.Below
import Derived.Lib.ItoaLen
import Derived.Lib.Join
import Derived.Lib.Small
import Derived.Shelf.Strings.BuilderK
import Derived.Test.YtelkmnkejghkeaaGreatDoorChecked
import Derived.WalkKit
import Derived.BigCall
import Derived.StillTailTactics
import Derived.Laws.Externs
import Derived.Lib.Overlaps
import Derived.Test.YtelkmnkejghkeaaGreatDoorPk1
import Derived.Test.YtelkmnkejghkeaaGreatDoorPk2
set_option linter.unusedSimpArgs false
set_option linter.unusedVariables false
set_option maxRecDepth 100000
namespace Go.Proofs.YtelkmnkejghkeaaGreatDoor
open Go Go.Ab
def tyN:TI:=⟨.other,0,0,default,none⟩
abbrev aeA:TI:=⟨.other,1,8,.v .nilFunc,none⟩
def Oz:List TI:=[
 tyN,
 aeA,
 ⟨.int .i64,1,8,.i 0,some (0,[.int .i64])⟩,
 ⟨.int .i64,1,8,.i 0,some (0,[.int .i64])⟩,
 ⟨.bool,1,1,.b false,some (0,[.bool])⟩,
 ⟨.int .u8,1,1,.v (.int .u8 0),some (0,[.int .u8])⟩,
 ⟨.int .u8,1,1,.v (.int .u8 0),some (0,[.int .u8])⟩,
 ⟨.strct [(0,2),(1,3),(2,4),(3,6)],4,24,.agg [.i 0,.i 0,.b false,.v (.int .u8 0)],none⟩,
 ⟨.strct [(0,2),(1,3),(2,4),(3,6)],4,24,.agg [.i 0,.i 0,.b false,.v (.int .u8 0)],none⟩,
 ⟨.str,1,16,.s [],some (0,[.str])⟩,
 tyN,
 ⟨.str,1,16,.s [],some (0,[.str])⟩,
 tyN,
 tyN,
 tyN,
 tyN,
 tyN,
 tyN,
 tyN,
 tyN,
 tyN,
 tyN,
 ⟨.slice 9,1,24,.sl [] .full,none⟩,
 ⟨.ptr 86,1,8,.v (.pointer none),none⟩,
 ⟨.ptr 92,1,8,.v (.pointer none),none⟩,
 tyN,
 tyN,
 tyN,
 tyN,
 ⟨.slice 120,1,24,.sl [] .full,none⟩,
 ⟨.slice 134,1,24,.sl [] .full,none⟩,
 ⟨.slice 137,1,24,.sl [] .full,none⟩,
 ⟨.slice 140,1,24,.sl [] .full,none⟩,
 ⟨.slice 261,1,24,.sl [] .full,none⟩,
 ⟨.slice 261,1,24,.sl [] .full,none⟩,
 ⟨.slice 213,1,24,.sl [] .full,none⟩,
 ⟨.slice 39,1,24,.sl [] .full,none⟩,
 ⟨.slice 90,1,24,.sl [] .full,none⟩,
 tyN,
 ⟨.strct [(0,9),(1,4),(2,3),(3,34),(4,35),(5,36),(6,37)],7,128,.agg [.s [],.b false,.i 0,.sl [] .full,.sl [] .full,.sl [] .full,.sl [] .full],none⟩,
 ⟨.strct [(0,3),(1,29),(2,30),(3,31),(4,32),(5,39),(12,3)],13,240,.agg [.i 0,.sl [] .full,.sl [] .full,.sl [] .full,.sl [] .full,.s [],.b false,.i 0,.sl [] .full,.sl [] .full,.sl [] .full,.sl [] .full,.i 0],none⟩,
 ⟨.strct [(0,3),(1,29),(2,30),(3,31),(4,32),(5,39),(12,3)],13,240,.agg [.i 0,.sl [] .full,.sl [] .full,.sl [] .full,.sl [] .full,.s [],.b false,.i 0,.sl [] .full,.sl [] .full,.sl [] .full,.sl [] .full,.i 0],none⟩,
 tyN,
 ⟨.slice 59,1,24,.sl [] .full,none⟩,
 aeA,
 tyN,
 aeA,
 tyN,
 ⟨.strct [(0,3),(1,3),(2,9)],3,32,.agg [.i 0,.i 0,.s []],some (1,[.int .i64,.int .i64,.str])⟩,
 ⟨.strct [(0,3),(1,9),(2,9),(3,9),(4,9),(5,48),(8,3),(9,9),(10,9),(11,4)],12,152,.agg [.i 0,.s [],.s [],.s [],.s [],.i 0,.i 0,.s [],.i 0,.s [],.s [],.b false],some (2,[.int .i64,.str,.str,.str,.str,.int .i64,.int .i64,.str,.int .i64,.str,.str,.bool])⟩,
 ⟨.strct [(0,3),(1,9),(2,9),(3,9),(4,9),(5,48),(8,3),(9,9),(10,9),(11,4)],12,152,.agg [.i 0,.s [],.s [],.s [],.s [],.i 0,.i 0,.s [],.i 0,.s [],.s [],.b false],some (2,[.int .i64,.str,.str,.str,.str,.int .i64,.int .i64,.str,.int .i64,.str,.str,.bool])⟩,
 tyN,
 aeA,
 ⟨.int .i64,1,8,.i 0,some (0,[.int .i64])⟩,
 ⟨.cplx .f64,1,16,.v (.complex .f64 0 0),some (0,[.cplx .f64])⟩,
 ⟨.cplx .f64,1,16,.v (.complex .f64 0 0),some (0,[.cplx .f64])⟩,
 ⟨.strct [(0,53),(1,55),(2,4),(3,48),(6,4),(7,3)],8,80,.agg [.i 0,.v (.complex .f64 0 0),.b false,.i 0,.i 0,.s [],.b false,.i 0],some (2,[.int .i64,.cplx .f64,.bool,.int .i64,.int .i64,.str,.bool,.int .i64])⟩,
 ⟨.strct [(0,53),(1,55),(2,4),(3,48),(6,4),(7,3)],8,80,.agg [.i 0,.v (.complex .f64 0 0),.b false,.i 0,.i 0,.s [],.b false,.i 0],some (2,[.int .i64,.cplx .f64,.bool,.int .i64,.int .i64,.str,.bool,.int .i64])⟩,
 tyN,
 ⟨.strct [(0,50),(12,3),(13,55),(14,4),(15,37)],16,208,.agg [.i 0,.s [],.s [],.s [],.s [],.i 0,.i 0,.s [],.i 0,.s [],.s [],.b false,.i 0,.v (.complex .f64 0 0),.b false,.sl [] .full],none⟩,
 tyN,
 aeA,
 aeA,
 tyN,
 tyN,
 aeA,
 tyN,
 tyN,
 ⟨.slice 76,1,24,.sl [] .full,none⟩,
 tyN,
 ⟨.slice 74,1,24,.sl [] .full,none⟩,
 tyN,
 tyN,
 tyN,
 ⟨.int .u64,1,8,.v (.int .u64 0),some (0,[.int .u64])⟩,
 tyN,
 ⟨.slice 5,1,24,.sl [] .full,none⟩,
 tyN,
 tyN,
 tyN,
 aeA,
 tyN,
 tyN,
 tyN,
 ⟨.ptr 207,1,8,.v (.pointer none),none⟩,
 tyN,
 ⟨.strct [(0,84),(1,41),(14,43),(15,74)],16,280,.agg [.v (.pointer none),.i 0,.sl [] .full,.sl [] .full,.sl [] .full,.sl [] .full,.s [],.b false,.i 0,.sl [] .full,.sl [] .full,.sl [] .full,.sl [] .full,.i 0,.sl [] .full,.v (.int .u64 0)],none⟩,
 tyN,
 tyN,
 tyN,
 ⟨.strct [(0,3),(1,3),(2,9)],3,32,.agg [.i 0,.i 0,.s []],some (1,[.int .i64,.int .i64,.str])⟩,
 tyN,
 ⟨.strct [(0,3),(1,76),(2,3),(3,3),(4,4)],5,56,.agg [.i 0,.sl [] .full,.i 0,.i 0,.b false],none⟩,
 tyN,
 tyN,
 tyN,
 tyN,
 aeA,
 aeA,
 tyN,
 aeA,
 aeA,
 ⟨.strct [(0,55),(1,37)],2,40,.agg [.v (.complex .f64 0 0),.sl [] .full],none⟩,
 ⟨.strct [(0,55),(1,37)],2,40,.agg [.v (.complex .f64 0 0),.sl [] .full],none⟩,
 aeA,
 tyN,
 aeA,
 tyN,
 aeA,
 ⟨.slice 177,1,24,.sl [] .full,none⟩,
 aeA,
 aeA,
 aeA,
 aeA,
 ⟨.ptr 41,1,8,.v (.pointer none),none⟩,
 aeA,
 aeA,
 ⟨.slice 196,1,24,.sl [] .full,none⟩,
 ⟨.slice 186,1,24,.sl [] .full,none⟩,
 ⟨.strct [(0,9),(1,9),(2,9),(3,117),(4,118)],5,96,.agg [.s [],.s [],.s [],.sl [] .full,.sl [] .full],none⟩,
 ⟨.strct [(0,9),(1,9),(2,9),(3,117),(4,118)],5,96,.agg [.s [],.s [],.s [],.sl [] .full,.sl [] .full],none⟩,
 tyN,
 aeA,
 aeA,
 tyN,
 aeA,
 tyN,
 tyN,
 tyN,
 tyN,
 tyN,
 tyN,
 tyN,
 tyN,
 ⟨.strct [(0,3),(1,3),(2,9),(3,9),(4,9),(5,9),(6,4)],7,88,.agg [.i 0,.i 0,.s [],.s [],.s [],.s [],.b false],some (1,[.int .i64,.int .i64,.str,.str,.str,.str,.bool])⟩,
 tyN,
 tyN,
 ⟨.strct [(0,3),(1,9),(2,9)],3,40,.agg [.i 0,.s [],.s []],some (1,[.int .i64,.str,.str])⟩,
 tyN,
 tyN,
 ⟨.strct [(0,9),(1,9)],2,32,.agg [.s [],.s []],some (1,[.str,.str])⟩,
 tyN,
 tyN,
 tyN,
 ⟨.int .u64,1,8,.v (.int .u64 0),some (0,[.int .u64])⟩,
 tyN,
 tyN,
 tyN,
 tyN,
 tyN,
 tyN,
 tyN,
 tyN,
 ⟨.slice 157,1,24,.sl [] .full,none⟩,
 tyN,
 tyN,
 tyN,
 ⟨.strct [(0,3),(1,3),(2,3),(3,9)],4,40,.agg [.i 0,.i 0,.i 0,.s []],some (1,[.int .i64,.int .i64,.int .i64,.str])⟩,
 tyN,
 ⟨.iface,1,16,.v .nilIface,none⟩,
 tyN,
 tyN,
 tyN,
 tyN,
 tyN,
 tyN,
 ⟨.ptr 168,1,8,.v (.pointer none),none⟩,
 tyN,
 ⟨.strct [(0,153),(1,3),(2,3),(3,53),(4,3)],5,56,.agg [.sl [] .full,.i 0,.i 0,.i 0,.i 0],none⟩,
 tyN,
 tyN,
 tyN,
 tyN,
 tyN,
 ⟨.slice 48,1,24,.sl [] .full,none⟩,
 tyN,
 tyN,
 ⟨.strct [(0,3),(1,9),(2,174)],3,48,.agg [.i 0,.s [],.sl [] .full],none⟩,
 tyN,
 tyN,
 tyN,
 tyN,
 tyN,
 tyN,
 tyN,
 tyN,
 ⟨.strct [(0,3),(1,9),(2,9)],3,40,.agg [.i 0,.s [],.s []],some (1,[.int .i64,.str,.str])⟩,
 tyN,
 ⟨.ptr 120,1,8,.v (.pointer none),none⟩,
 tyN,
 tyN,
 tyN,
 aeA,
 tyN,
 tyN,
 tyN,
 ⟨.strct [(0,9),(1,48)],4,48,.agg [.s [],.i 0,.i 0,.s []],some (2,[.str,.int .i64,.int .i64,.str])⟩,
 aeA,
 tyN,
 aeA,
 tyN,
 tyN,
 tyN,
 tyN,
 tyN,
 tyN,
 tyN,
 ⟨.strct [(0,24),(1,68),(2,4)],3,40,.agg [.v (.pointer none),.sl [] .full,.b false],none⟩,
 tyN,
 tyN,
 tyN,
 ⟨.slice 218,1,24,.sl [] .full,none⟩,
 tyN,
 ⟨.strct [(0,9),(1,4),(2,34),(3,211),(4,37)],5,96,.agg [.s [],.b false,.sl [] .full,.sl [] .full,.sl [] .full],none⟩,
 tyN,
 tyN,
 ⟨.strct [(0,3),(1,9),(2,4)],3,32,.agg [.i 0,.s [],.b false],some (1,[.int .i64,.str,.bool])⟩,
 tyN,
 ⟨.strct [(0,3),(1,48),(4,216)],7,72,.agg [.i 0,.i 0,.i 0,.s [],.i 0,.s [],.b false],some (2,[.int .i64,.int .i64,.int .i64,.str,.int .i64,.str,.bool])⟩,
 tyN,
 tyN,
 tyN,
 tyN,
 tyN,
 tyN,
 tyN,
 tyN,
 tyN,
 tyN,
 tyN,
 tyN,
 tyN,
 tyN,
 tyN,
 tyN,
 aeA,
 tyN,
 tyN,
 tyN,
 ⟨.ptr 242,1,8,.v (.pointer none),none⟩,
 ⟨.map 9 364,1,8,.v (.map none),none⟩,
 tyN,
 ⟨.strct [(0,240),(1,3)],2,16,.agg [.v (.map none),.i 0],none⟩,
 tyN,
 tyN,
 ⟨.slice 3,1,24,.sl [] .full,none⟩,
 tyN,
 tyN,
 aeA,
 tyN,
 tyN,
 tyN,
 tyN,
 tyN,
 tyN,
 tyN,
 tyN,
 ⟨.ptr 310,1,8,.v (.pointer none),none⟩,
 tyN,
 tyN,
 tyN,
 ⟨.slice 265,1,24,.sl [] .full,none⟩,
 tyN,
 tyN,
 ⟨.strct [(0,216),(3,3),(4,48)],7,72,.agg [.i 0,.s [],.b false,.i 0,.i 0,.i 0,.s []],some (2,[.int .i64,.str,.bool,.int .i64,.int .i64,.int .i64,.str])⟩,
 ⟨.slice 264,1,24,.sl [] .full,none⟩,
 tyN,
 ⟨.ptr 269,1,8,.v (.pointer none),none⟩,
 tyN,
 ⟨.strct [(0,267),(1,76)],2,32,.agg [.v (.pointer none),.sl [] .full],none⟩,
 tyN,
 tyN,
 tyN,
 ⟨.int .u32,1,4,.v (.int .u32 0),some (0,[.int .u32])⟩,
 tyN,
 tyN,
 aeA,
 tyN,
 tyN,
 tyN,
 tyN,
 tyN,
 tyN,
 tyN,
 tyN,
 tyN,
 tyN,
 tyN,
 tyN,
 tyN,
 tyN,
 tyN,
 tyN,
 tyN,
 tyN,
 ⟨.slice 103,1,24,.sl [] .full,none⟩,
 tyN,
 tyN,
 tyN,
 tyN,
 tyN,
 tyN,
 aeA,
 tyN,
 tyN,
 tyN,
 tyN,
 tyN,
 tyN,
 tyN,
 ⟨.strct [(0,76),(1,3),(2,4)],3,40,.agg [.sl [] .full,.i 0,.b false],none⟩,
 tyN,
 tyN,
 tyN,
 tyN,
 tyN,
 tyN,
 tyN,
 tyN,
 aeA,
 tyN,
 aeA,
 tyN,
 tyN,
 tyN,
 tyN,
 tyN,
 tyN,
 tyN,
 tyN,
 tyN,
 tyN,
 tyN,
 tyN,
 tyN,
 ⟨.slice 55,1,24,.sl [] .full,none⟩,
 tyN,
 tyN,
 tyN,
 tyN,
 tyN,
 tyN,
 tyN,
 tyN,
 tyN,
 tyN,
 tyN,
 tyN,
 tyN,
 tyN,
 tyN,
 tyN,
 tyN,
 tyN,
 tyN,
 tyN,
 tyN,
 tyN,
 tyN,
 tyN,
 tyN,
 tyN,
 tyN,
 tyN,
 ⟨.strct [],0,0,default,none⟩,
 tyN,
 tyN,
 ⟨.slice 4,1,24,.sl [] .full,none⟩,
 tyN,
 tyN,
 tyN,
 tyN,
 tyN,
 ⟨.strct [(0,174),(1,48),(4,53)],5,64,.agg [.sl [] .full,.i 0,.i 0,.s [],.i 0],none⟩,
 aeA,
 tyN,
 tyN,
 tyN,
 tyN,
 tyN,
 tyN,
 tyN,
 tyN,
 tyN,
 tyN,
 tyN,
 tyN,
 tyN,
 tyN,
 tyN,
 ⟨.slice 373,1,24,.sl [] .full,none⟩,
 tyN,
 tyN,
 tyN,
 tyN,
 tyN,
 tyN,
 tyN,
 tyN,
 tyN,
 aeA,
 tyN,
 tyN,
 tyN,
 tyN,
 tyN,
 tyN,
 tyN,
 tyN,
 tyN,
 tyN,
 tyN,
 aeA,
 tyN,
 tyN,
 tyN,
 tyN,
 tyN,
 tyN,
 tyN,
 tyN,
 tyN,
 tyN,
 tyN,
 tyN,
 tyN,
 tyN]
def U(t:TypeId):TI:=Oz.getD t ⟨.other,0,0,default,none⟩
theorem U3k:(U 3).k= .int .i64∧(U 3).sz=1∧(U 3).bytes=8∧(U 3).zero= .i 0:=⟨rfl,rfl,rfl,rfl⟩
theorem U4k:(U 4).k= .bool∧(U 4).sz=1∧(U 4).bytes=1∧(U 4).zero= .b false:=⟨rfl,rfl,rfl,rfl⟩
theorem U5k:(U 5).k= .int .u8∧(U 5).sz=1∧(U 5).bytes=1∧(U 5).zero= .v (.int .u8 0):=⟨rfl,rfl,rfl,rfl⟩
theorem U9k:(U 9).k= .str∧(U 9).sz=1∧(U 9).bytes=16∧(U 9).zero= .s []:=⟨rfl,rfl,rfl,rfl⟩
theorem acv:(U 22).k= .slice 9∧(U 22).sz=1∧(U 22).bytes=24∧(U 22).zero= .sl [] .full:=⟨rfl,rfl,rfl,rfl⟩
theorem acA:(U 23).k= .ptr 86∧(U 23).sz=1∧(U 23).bytes=8∧(U 23).zero= .v (.pointer none):=⟨rfl,rfl,rfl,rfl⟩
theorem acE:(U 24).k= .ptr 92∧(U 24).sz=1∧(U 24).bytes=8∧(U 24).zero= .v (.pointer none):=⟨rfl,rfl,rfl,rfl⟩
theorem acI:(U 29).k= .slice 120∧(U 29).sz=1∧(U 29).bytes=24∧(U 29).zero= .sl [] .full:=⟨rfl,rfl,rfl,rfl⟩
theorem acM:(U 30).k= .slice 134∧(U 30).sz=1∧(U 30).bytes=24∧(U 30).zero= .sl [] .full:=⟨rfl,rfl,rfl,rfl⟩
theorem acQ:(U 31).k= .slice 137∧(U 31).sz=1∧(U 31).bytes=24∧(U 31).zero= .sl [] .full:=⟨rfl,rfl,rfl,rfl⟩
theorem acU:(U 32).k= .slice 140∧(U 32).sz=1∧(U 32).bytes=24∧(U 32).zero= .sl [] .full:=⟨rfl,rfl,rfl,rfl⟩
theorem acY:(U 34).k= .slice 261∧(U 34).sz=1∧(U 34).bytes=24∧(U 34).zero= .sl [] .full:=⟨rfl,rfl,rfl,rfl⟩
theorem ac2:(U 35).k= .slice 213∧(U 35).sz=1∧(U 35).bytes=24∧(U 35).zero= .sl [] .full:=⟨rfl,rfl,rfl,rfl⟩
theorem ac6:(U 36).k= .slice 39∧(U 36).sz=1∧(U 36).bytes=24∧(U 36).zero= .sl [] .full:=⟨rfl,rfl,rfl,rfl⟩
theorem ada:(U 37).k= .slice 90∧(U 37).sz=1∧(U 37).bytes=24∧(U 37).zero= .sl [] .full:=⟨rfl,rfl,rfl,rfl⟩
theorem adg:(U 39).k= .strct [(0,9),(1,4),(2,3),(3,34),(4,35),(5,36),(6,37)]∧(U 39).sz=7∧(U 39).bytes=128∧(U 39).zero= .agg [.s [],.b false,.i 0,.sl [] .full,.sl [] .full,.sl [] .full,.sl [] .full]:=⟨rfl,rfl,rfl,rfl⟩
theorem adk:(U 41).k= .strct [(0,3),(1,29),(2,30),(3,31),(4,32),(5,39),(12,3)]∧(U 41).sz=13∧(U 41).bytes=240∧(U 41).zero= .agg [.i 0,.sl [] .full,.sl [] .full,.sl [] .full,.sl [] .full,.s [],.b false,.i 0,.sl [] .full,.sl [] .full,.sl [] .full,.sl [] .full,.i 0]:=⟨rfl,rfl,rfl,rfl⟩
theorem ado:(U 43).k= .slice 59∧(U 43).sz=1∧(U 43).bytes=24∧(U 43).zero= .sl [] .full:=⟨rfl,rfl,rfl,rfl⟩
theorem adt:(U 48).k= .strct [(0,3),(1,3),(2,9)]∧(U 48).sz=3∧(U 48).bytes=32∧(U 48).zero= .agg [.i 0,.i 0,.s []]∧(U 48).eq=some (1,[.int .i64,.int .i64,.str]):=⟨rfl,rfl,rfl,rfl,rfl⟩
theorem ady:(U 50).k= .strct [(0,3),(1,9),(2,9),(3,9),(4,9),(5,48),(8,3),(9,9),(10,9),(11,4)]∧(U 50).sz=12∧(U 50).bytes=152∧(U 50).zero= .agg [.i 0,.s [],.s [],.s [],.s [],.i 0,.i 0,.s [],.i 0,.s [],.s [],.b false]∧(U 50).eq=some (2,[.int .i64,.str,.str,.str,.str,.int .i64,.int .i64,.str,.int .i64,.str,.str,.bool]):=⟨rfl,rfl,rfl,rfl,rfl⟩
theorem adC:(U 53).k= .int .i64∧(U 53).sz=1∧(U 53).bytes=8∧(U 53).zero= .i 0:=⟨rfl,rfl,rfl,rfl⟩
theorem adG:(U 55).k= .cplx .f64∧(U 55).sz=1∧(U 55).bytes=16∧(U 55).zero= .v (.complex .f64 0 0):=⟨rfl,rfl,rfl,rfl⟩
theorem adK:(U 57).k= .strct [(0,53),(1,55),(2,4),(3,48),(6,4),(7,3)]∧(U 57).sz=8∧(U 57).bytes=80∧(U 57).zero= .agg [.i 0,.v (.complex .f64 0 0),.b false,.i 0,.i 0,.s [],.b false,.i 0]:=⟨rfl,rfl,rfl,rfl⟩
theorem adO:(U 59).k= .strct [(0,50),(12,3),(13,55),(14,4),(15,37)]∧(U 59).sz=16∧(U 59).bytes=208∧(U 59).zero= .agg [.i 0,.s [],.s [],.s [],.s [],.i 0,.i 0,.s [],.i 0,.s [],.s [],.b false,.i 0,.v (.complex .f64 0 0),.b false,.sl [] .full]:=⟨rfl,rfl,rfl,rfl⟩
theorem adS:(U 68).k= .slice 76∧(U 68).sz=1∧(U 68).bytes=24∧(U 68).zero= .sl [] .full:=⟨rfl,rfl,rfl,rfl⟩
theorem adW:(U 70).k= .slice 74∧(U 70).sz=1∧(U 70).bytes=24∧(U 70).zero= .sl [] .full:=⟨rfl,rfl,rfl,rfl⟩
theorem ad0:(U 74).k= .int .u64∧(U 74).sz=1∧(U 74).bytes=8∧(U 74).zero= .v (.int .u64 0):=⟨rfl,rfl,rfl,rfl⟩
theorem ad4:(U 76).k= .slice 5∧(U 76).sz=1∧(U 76).bytes=24∧(U 76).zero= .sl [] .full:=⟨rfl,rfl,rfl,rfl⟩
theorem ad8:(U 84).k= .ptr 207∧(U 84).sz=1∧(U 84).bytes=8∧(U 84).zero= .v (.pointer none):=⟨rfl,rfl,rfl,rfl⟩
theorem aec:(U 86).k= .strct [(0,84),(1,41),(14,43),(15,74)]∧(U 86).sz=16∧(U 86).bytes=280∧(U 86).zero= .agg [.v (.pointer none),.i 0,.sl [] .full,.sl [] .full,.sl [] .full,.sl [] .full,.s [],.b false,.i 0,.sl [] .full,.sl [] .full,.sl [] .full,.sl [] .full,.i 0,.sl [] .full,.v (.int .u64 0)]:=⟨rfl,rfl,rfl,rfl⟩
theorem aeh:(U 90).k= .strct [(0,3),(1,3),(2,9)]∧(U 90).sz=3∧(U 90).bytes=32∧(U 90).zero= .agg [.i 0,.i 0,.s []]∧(U 90).eq=some (1,[.int .i64,.int .i64,.str]):=⟨rfl,rfl,rfl,rfl,rfl⟩
theorem ael:(U 92).k= .strct [(0,3),(1,76),(2,3),(3,3),(4,4)]∧(U 92).sz=5∧(U 92).bytes=56∧(U 92).zero= .agg [.i 0,.sl [] .full,.i 0,.i 0,.b false]:=⟨rfl,rfl,rfl,rfl⟩
theorem Zy:(U 103).k= .strct [(0,55),(1,37)]∧(U 103).sz=2∧(U 103).bytes=40∧(U 103).zero= .agg [.v (.complex .f64 0 0),.sl [] .full]:=⟨rfl,rfl,rfl,rfl⟩
theorem ZC:(U 109).k= .slice 177∧(U 109).sz=1∧(U 109).bytes=24∧(U 109).zero= .sl [] .full:=⟨rfl,rfl,rfl,rfl⟩
theorem ZG:(U 117).k= .slice 196∧(U 117).sz=1∧(U 117).bytes=24∧(U 117).zero= .sl [] .full:=⟨rfl,rfl,rfl,rfl⟩
theorem ZK:(U 118).k= .slice 186∧(U 118).sz=1∧(U 118).bytes=24∧(U 118).zero= .sl [] .full:=⟨rfl,rfl,rfl,rfl⟩
theorem ZO:(U 120).k= .strct [(0,9),(1,9),(2,9),(3,117),(4,118)]∧(U 120).sz=5∧(U 120).bytes=96∧(U 120).zero= .agg [.s [],.s [],.s [],.sl [] .full,.sl [] .full]:=⟨rfl,rfl,rfl,rfl⟩
theorem ZS:(U 134).k= .strct [(0,3),(1,3),(2,9),(3,9),(4,9),(5,9),(6,4)]∧(U 134).sz=7∧(U 134).bytes=88∧(U 134).zero= .agg [.i 0,.i 0,.s [],.s [],.s [],.s [],.b false]:=⟨rfl,rfl,rfl,rfl⟩
theorem ZW:(U 137).k= .strct [(0,3),(1,9),(2,9)]∧(U 137).sz=3∧(U 137).bytes=40∧(U 137).zero= .agg [.i 0,.s [],.s []]:=⟨rfl,rfl,rfl,rfl⟩
theorem Z3:(U 140).k= .strct [(0,9),(1,9)]∧(U 140).sz=2∧(U 140).bytes=32∧(U 140).zero= .agg [.s [],.s []]∧(U 140).eq=some (1,[.str,.str]):=⟨rfl,rfl,rfl,rfl,rfl⟩
theorem Z7:(U 144).k= .int .u64∧(U 144).sz=1∧(U 144).bytes=8∧(U 144).zero= .v (.int .u64 0):=⟨rfl,rfl,rfl,rfl⟩
theorem aab:(U 153).k= .slice 157∧(U 153).sz=1∧(U 153).bytes=24∧(U 153).zero= .sl [] .full:=⟨rfl,rfl,rfl,rfl⟩
theorem aaf:(U 157).k= .strct [(0,3),(1,3),(2,3),(3,9)]∧(U 157).sz=4∧(U 157).bytes=40∧(U 157).zero= .agg [.i 0,.i 0,.i 0,.s []]:=⟨rfl,rfl,rfl,rfl⟩
theorem aaj:(U 168).k= .strct [(0,153),(1,3),(2,3),(3,53),(4,3)]∧(U 168).sz=5∧(U 168).bytes=56∧(U 168).zero= .agg [.sl [] .full,.i 0,.i 0,.i 0,.i 0]:=⟨rfl,rfl,rfl,rfl⟩
theorem aan:(U 174).k= .slice 48∧(U 174).sz=1∧(U 174).bytes=24∧(U 174).zero= .sl [] .full:=⟨rfl,rfl,rfl,rfl⟩
theorem aar:(U 177).k= .strct [(0,3),(1,9),(2,174)]∧(U 177).sz=3∧(U 177).bytes=48∧(U 177).zero= .agg [.i 0,.s [],.sl [] .full]:=⟨rfl,rfl,rfl,rfl⟩
theorem aav:(U 186).k= .strct [(0,3),(1,9),(2,9)]∧(U 186).sz=3∧(U 186).bytes=40∧(U 186).zero= .agg [.i 0,.s [],.s []]:=⟨rfl,rfl,rfl,rfl⟩
theorem aaz:(U 196).k= .strct [(0,9),(1,48)]∧(U 196).sz=4∧(U 196).bytes=48∧(U 196).zero= .agg [.s [],.i 0,.i 0,.s []]:=⟨rfl,rfl,rfl,rfl⟩
theorem aaD:(U 207).k= .strct [(0,24),(1,68),(2,4)]∧(U 207).sz=3∧(U 207).bytes=40∧(U 207).zero= .agg [.v (.pointer none),.sl [] .full,.b false]:=⟨rfl,rfl,rfl,rfl⟩
theorem aaH:(U 211).k= .slice 218∧(U 211).sz=1∧(U 211).bytes=24∧(U 211).zero= .sl [] .full:=⟨rfl,rfl,rfl,rfl⟩
theorem aaL:(U 213).k= .strct [(0,9),(1,4),(2,34),(3,211),(4,37)]∧(U 213).sz=5∧(U 213).bytes=96∧(U 213).zero= .agg [.s [],.b false,.sl [] .full,.sl [] .full,.sl [] .full]:=⟨rfl,rfl,rfl,rfl⟩
theorem aaQ:(U 216).k= .strct [(0,3),(1,9),(2,4)]∧(U 216).sz=3∧(U 216).bytes=32∧(U 216).zero= .agg [.i 0,.s [],.b false]∧(U 216).eq=some (1,[.int .i64,.str,.bool]):=⟨rfl,rfl,rfl,rfl,rfl⟩
theorem aaU:(U 218).k= .strct [(0,3),(1,48),(4,216)]∧(U 218).sz=7∧(U 218).bytes=72∧(U 218).zero= .agg [.i 0,.i 0,.i 0,.s [],.i 0,.s [],.b false]:=⟨rfl,rfl,rfl,rfl⟩
theorem aaY:(U 240).k= .map 9 364∧(U 240).sz=1∧(U 240).bytes=8∧(U 240).zero= .v (.map none):=⟨rfl,rfl,rfl,rfl⟩
theorem aa2:(U 242).k= .strct [(0,240),(1,3)]∧(U 242).sz=2∧(U 242).bytes=16∧(U 242).zero= .agg [.v (.map none),.i 0]:=⟨rfl,rfl,rfl,rfl⟩
theorem aa6:(U 245).k= .slice 3∧(U 245).sz=1∧(U 245).bytes=24∧(U 245).zero= .sl [] .full:=⟨rfl,rfl,rfl,rfl⟩
theorem aba:(U 261).k= .slice 265∧(U 261).sz=1∧(U 261).bytes=24∧(U 261).zero= .sl [] .full:=⟨rfl,rfl,rfl,rfl⟩
theorem abe:(U 264).k= .strct [(0,216),(3,3),(4,48)]∧(U 264).sz=7∧(U 264).bytes=72∧(U 264).zero= .agg [.i 0,.s [],.b false,.i 0,.i 0,.i 0,.s []]:=⟨rfl,rfl,rfl,rfl⟩
theorem abi:(U 265).k= .slice 264∧(U 265).sz=1∧(U 265).bytes=24∧(U 265).zero= .sl [] .full:=⟨rfl,rfl,rfl,rfl⟩
theorem abm:(U 273).k= .int .u32∧(U 273).sz=1∧(U 273).bytes=4∧(U 273).zero= .v (.int .u32 0):=⟨rfl,rfl,rfl,rfl⟩
theorem abq:(U 295).k= .slice 103∧(U 295).sz=1∧(U 295).bytes=24∧(U 295).zero= .sl [] .full:=⟨rfl,rfl,rfl,rfl⟩
theorem abv:(U 310).k= .strct [(0,76),(1,3),(2,4)]∧(U 310).sz=3∧(U 310).bytes=40∧(U 310).zero= .agg [.sl [] .full,.i 0,.b false]:=⟨rfl,rfl,rfl,rfl⟩
theorem abz:(U 335).k= .slice 55∧(U 335).sz=1∧(U 335).bytes=24∧(U 335).zero= .sl [] .full:=⟨rfl,rfl,rfl,rfl⟩
theorem abC:(U 364).k= .strct []∧(U 364).sz=0:=⟨rfl,rfl⟩
theorem abF:(U 367).k= .slice 4∧(U 367).sz=1∧(U 367).bytes=24∧(U 367).zero= .sl [] .full:=⟨rfl,rfl,rfl,rfl⟩
theorem abJ:(U 373).k= .strct [(0,174),(1,48),(4,53)]∧(U 373).sz=5∧(U 373).bytes=64∧(U 373).zero= .agg [.sl [] .full,.i 0,.i 0,.s [],.i 0]:=⟨rfl,rfl,rfl,rfl⟩
theorem abN:(U 390).k= .slice 373∧(U 390).sz=1∧(U 390).bytes=24∧(U 390).zero= .sl [] .full:=⟨rfl,rfl,rfl,rfl⟩
theorem hU:∀t,aP Tryz.prog U t:=Jp 427 aeF fun t ht=>by
 unfold U;rw[List.getD_eq_getElem?_getD,List.getElem?_eq_none (show Oz.length≤t from ht)]
 rfl
theorem hm:Tryz.prog.follows .mixedOrders=true:=aeF
attribute [go_sem] U3k U4k U5k U9k acv acA acE acI acM acQ acU acY ac2 ac6 ada adg adk ado adt ady adC adG adK adO adS adW ad0 ad4 ad8 aec aeh ael Zy ZC ZG ZK ZO ZS ZW Z3 Z7 aab aaf aaj aan aar aav aaz aaD aaH aaL aaQ aaU aaY aa2 aa6 aba abe abi abm abq abv abz abC abF abJ abN
end Go.Proofs.YtelkmnkejghkeaaGreatDoor
namespace Go.Proofs
open Go.Shelf
open Go.RowKit in
open Go.RowKit in
def Tryz.En:Go.Shelf.Ren:=⟨fun|121=>129|214=>176|n=>n,fun|4=>4|9=>9|n=>n,fun|n=>n⟩
theorem Tryz.PY:Go.Proofs.Lays.n121 Tryz.prog Tryz.En:={
 mixed:=aeF
 f121:=Tryz.func129.trans (congrArg some aeF)
 f214:=Tryz.func176.trans (congrArg some aeF)
 t4:=Tryz.underlying4
 a4:=Tryz.isAgg4
 z4:=Tryz.sizeOf4
 v4:=Tryz.zeroValue4
 t9:=Tryz.underlying9
 a9:=Tryz.isAgg9
 z9:=Tryz.sizeOf9
 v9:=Tryz.zeroValue9}
open Go.RowKit in
theorem Tryz.strconv_FormatBool(b:Bool)(w:World):
  Calls Tryz.prog 129 #[.bool b] w fun e w' =>e= .returned (.string ⟨(Lib.formatBool b).toArray⟩)∧w' =w:=Any.strconv_FormatBool Tryz.PY b w
def Tryz.CI:Go.Shelf.Ren:=⟨fun|171=>69|243=>128|246=>175|283=>224|284=>225|285=>226|286=>227|129=>261|317=>260|318=>262|319=>263|320=>264|337=>288|338=>289|n=>n,fun|3=>3|9=>9|2=>2|4=>4|171=>312|0=>0|53=>74|37=>76|5=>5|173=>315|212=>349|51=>273|20=>20|213=>350|46=>144|232=>401|233=>402|n=>n,fun|17=>3|18=>4|19=>5|n=>n⟩
theorem Tryz.Nc:Go.Proofs.LaysM.n171 Tryz.prog Tryz.CI:={
 mixed:=aeF
 f129:=Tryz.func261.trans (congrArg some aeF)
 f171:=Tryz.func69.trans (congrArg some aeF)
 f243:=Tryz.func128.trans (congrArg some aeF)
 f246:=Tryz.func175.trans (congrArg some aeF)
 f283:=Tryz.func224.trans (congrArg some aeF)
 f284:=Tryz.func225.trans (congrArg some aeF)
 f285:=Tryz.func226.trans (congrArg some aeF)
 f286:=Tryz.func227.trans (congrArg some aeF)
 f317:=Tryz.func260.trans (congrArg some aeF)
 f318:=Tryz.func262.trans (congrArg some aeF)
 f319:=Tryz.func263.trans (congrArg some aeF)
 f320:=Tryz.func264.trans (congrArg some aeF)
 f337:=Tryz.func288.trans (congrArg some aeF)
 f338:=Tryz.func289.trans (congrArg some aeF)
 t0:=Tryz.underlying0
 a0:=Tryz.isAgg0
 z0:=Tryz.sizeOf0
 v0:=Tryz.zeroValue0
 t2:=Tryz.underlying2
 a2:=Tryz.isAgg2
 z2:=Tryz.sizeOf2
 v2:=Tryz.zeroValue2
 t3:=Tryz.underlying3
 a3:=Tryz.isAgg3
 z3:=Tryz.sizeOf3
 v3:=Tryz.zeroValue3
 t4:=Tryz.underlying4
 a4:=Tryz.isAgg4
 z4:=Tryz.sizeOf4
 v4:=Tryz.zeroValue4
 t5:=Tryz.underlying5
 a5:=Tryz.isAgg5
 z5:=Tryz.sizeOf5
 v5:=Tryz.zeroValue5
 t9:=Tryz.underlying9
 a9:=Tryz.isAgg9
 z9:=Tryz.sizeOf9
 v9:=Tryz.zeroValue9
 t20:=Tryz.underlying20
 a20:=Tryz.isAgg20
 z20:=Tryz.sizeOf20
 v20:=Tryz.zeroValue20
 t37:=Tryz.underlying76
 a37:=Tryz.isAgg76
 z37:=Tryz.sizeOf76
 v37:=Tryz.zeroValue76
 t46:=Tryz.underlying144
 a46:=Tryz.isAgg144
 z46:=Tryz.sizeOf144
 v46:=Tryz.zeroValue144
 t51:=Tryz.underlying273
 a51:=Tryz.isAgg273
 z51:=Tryz.sizeOf273
 v51:=Tryz.zeroValue273
 t53:=Tryz.underlying74
 a53:=Tryz.isAgg74
 z53:=Tryz.sizeOf74
 v53:=Tryz.zeroValue74
 t171:=Tryz.underlying312
 a171:=Tryz.isAgg312
 z171:=Tryz.sizeOf312
 v171:=Tryz.zeroValue312
 t173:=Tryz.underlying315
 a173:=Tryz.isAgg315
 z173:=Tryz.sizeOf315
 v173:=Tryz.zeroValue315
 t212:=Tryz.underlying349
 a212:=Tryz.isAgg349
 z212:=Tryz.sizeOf349
 v212:=Tryz.zeroValue349
 t213:=Tryz.underlying350
 a213:=Tryz.isAgg350
 z213:=Tryz.sizeOf350
 t232:=Tryz.underlying401
 a232:=Tryz.isAgg401
 z232:=Tryz.sizeOf401
 v232:=Tryz.zeroValue401
 t233:=Tryz.underlying402
 a233:=Tryz.isAgg402
 z233:=Tryz.sizeOf402
 v233:=Tryz.zeroValue402
 g17:=aeF
 g18:=aeF
 g19:=aeF
 i0:=aeF
 i2:=aeF
 i3:=aeF
 i4:=aeF
 i5:=aeF
 i9:=aeF
 i20:=aeF
 i37:=aeF
 i46:=aeF
 i51:=aeF
 i53:=aeF
 i171:=aeF
 i173:=aeF
 i212:=aeF
 i232:=aeF
 i233:=aeF
 m17:=aeF
 m18:=aeF
 m19:=aeF}
open Go.RowKit Go.Sort Go.Lib in
theorem Tryz.strconv_Itoa (n : Int) (h0 : -9223372036854775808 ≤ n) (h1 : n ≤ 9223372036854775807) (w : World) (htab : Lib.TabIs Tryz.prog w "internal/strconv.uint64pow10" .u64 Lib.pow10Tab) :
  Calls Tryz.prog 69 #[.int .i64 n] w fun e w' =>e= .returned (.string ⟨(Lib.itoa n).toArray⟩)∧∃k os,w' =grow (w.drewN k) os:=Any.strconv_Itoa Tryz.Nc n h0 h1 w htab
end Go.Proofs
namespace Go.Ab
open Go
variable {ls:List (List UInt8)}
section
variable {P : Program} {U : TypeId → TI} {n : Nat} {ρ : Env} {h h' h2 : Heap} {e tb : TypeId} {y v : AV} {xs zs : List AV} {l : List UInt8} {Q : AV → Heap → Prop}
def hm1(id:Nat)(k:Blk):Heap:=upd (fun _=>none) id (some k)
theorem gy(id:Nat)(k:Blk):hm1 id k id=some k:=ah ..
theorem Sub.hm1{id:Nat}{k:Blk}(h1:h id=some k):Sub (hm1 id k) h:=fun j b hj=>by
 unfold Ab.hm1 at hj
 grind [ah,ag]
theorem fm.new{id:Nat}{k:Option Blk}(hid:h id=none):fm h (upd h id k):=((Sub.refl h).new hid k).fX
theorem mX.acc(hk:∀y' h'',Acc U e h h'' y' (xs++zs)→fm h h''→Q y' h''):mX U h xs zs e Q:=
 .own fun id hid=>hk _ _ ⟨(Sub.refl h).new hid _,.inr ⟨id,hid,rfl,aix⟩⟩ (.new hid)
theorem pF.acc(hk:∀y' h'',Acc U e h h'' y' (xs++zs)→fm h h''→Q y' h''):pF U h xs zs e Q:=
 ⟨fun hn=>by subst hn;exact hk _ _ (by rw[List.append_nil];exact .full (.refl h)) (.refl h),fun _=> .acc hk⟩
theorem mX.accs{h0:Heap}(hs:Sub h0 h)(hk:∀y' h'',Acc U e h0 h'' y' (xs++zs)→fm h h''→Q y' h''):mX U h xs zs e Q:=
 .own fun id hid=>hk _ _ ⟨hs.new hid _,.inr ⟨id,hs.none hid,rfl,aix⟩⟩ (.new hid)
attribute [go_sem] gy
end
section
variable {P : Program} {U : TypeId → TI} {n : Nat} {ρ : Env} {h h' : Heap} {tb : TypeId} {y : AV} {l : List UInt8}
theorem Bytes.from(hb:Bytes tb h y l){lo:Operand}{m:Int}{x:IntKind}{K:AV→Prop}(j:Nat)(hm:ev ρ lo=some (.v (.int x m)))(hj:m=j)(hl:j≤l.length)(hz:(U tb).sz=1)(hk:∀z,Bytes tb h z (l.drop j)→K z):
  gL U ρ y (some lo) none none K (.slice tb):=by
 subst hj;rcases hb with⟨q,rfl⟩|⟨id,off,cs,rfl,h1,h2,h3⟩
 ·rw[Ff,hm]
  refine⟨aeC,by grind [jQ],?_⟩
  refine⟨aeC,aeD,?_⟩;rw[←List.map_drop];exact hk _ (.sl _ _)
 ·rw[sv]
  refine⟨aeC,fun _=>hz,?_⟩
  simp only[mT,fE,hm,dJ,nX];refine⟨aeC,aeC,aeC,?_⟩;simp only[Int.toNat_natCast,hz,Nat.mul_one];have e:(l.drop j).length=l.length - j:=aeJ;have:=hk (.oa id (off+j) (l.drop j).length) (by grind [oa,List.map_drop,List.drop_drop,List.drop_take])
  rwa [e]at this
theorem Bytes.cut(hb:Bytes tb h y l){lo hi:Operand}{m m2:Int}{x x2:IntKind}{K:AV→Prop}(j k:Nat)(hm:ev ρ lo=some (.v (.int x m)))(hj:m=j)(hm2:ev ρ hi=some (.v (.int x2 m2)))(hk2:m2=k)(hjk:j≤k)(hl:k≤l.length)(hz:(U tb).sz=1)
  (hk:∀z,Bytes tb h z ((l.drop j).take (k - j))→K z):gL U ρ y (some lo) (some hi) none K (.slice tb):=by
 subst hj;subst hk2
 rcases hb with⟨q,rfl⟩|⟨id,off,cs,rfl,h1,h2,h3⟩
 ·rw[K9,hm]
  refine⟨aeC,by grind [jQ],?_⟩
  simp only[dJ,nX,hm2,Int.toNat_natCast,Vl];refine⟨aeC,aeC,aeD,?_⟩;rw[←List.map_drop,←List.map_take];exact hk _ (.sl _ _)
 ·rw[sv]
  refine⟨aeC,fun _=>hz,?_⟩
  simp only[fE,hm,dJ,nX,hm2];refine⟨aeC,aeC,aeC,?_⟩;simp only[Int.toNat_natCast,hz,Nat.mul_one];have e:((l.drop j).take (k - j)).length=k - j:=aeD;have:=hk (.oa id (off+j) ((l.drop j).take (k - j)).length) (.oa h1 aeC (by
   grind [List.map_take,List.map_drop,List.drop_drop,List.drop_take]))
  rwa [e]at this
end
theorem R1(k:IntKind)(n:Nat)(hk:k.signed=false)(hn:n<2 ^ k.bits):k.wrap (n:Int)=n:=by cases k<;>simp[IntKind.signed]at hk<;>simp[IntKind.wrap,IntKind.signed,IntKind.bits]at hn⊢<;>omega
theorem w32(n:Nat)(hn:n<4294967296):IntKind.u32.wrap (n:Int)=n:=R1 .u32 n rfl aij
theorem w8(n:Nat):IntKind.u8.wrap (n:Int)=(UInt8.ofNat n).toNat:=by rfl
theorem BC(w n:Nat):BitVec.ofInt w (n:Int)=BitVec.ofNat w n:=BitVec.ofInt_natCast ..
theorem OP(x y:BitVec 32):IntKind.u32.wrap (((BitVec.ofInt IntKind.u32.bits (x.toNat:Int) ^^^ BitVec.ofInt IntKind.u32.bits (y.toNat:Int)).toNat:Nat):Int)=((x ^^^ y).toNat:Int):=by
 have e:∀z:BitVec 32,BitVec.ofInt IntKind.u32.bits (z.toNat:Int)=z:=fun z=>by
  show BitVec.ofInt 32 (z.toNat:Int)=z
  simp
 rw[e,e];exact w32 _ (x ^^^ y).isLt
theorem T4(x:BitVec 32):IntKind.u32.wrap (((BitVec.ofInt IntKind.u32.bits (x.toNat:Int) ^^^ BitVec.ofInt IntKind.u32.bits (3988292384:Int)).toNat:Nat):Int)=((x ^^^ 0xedb88320#32).toNat:Int):=OP x 0xedb88320#32
theorem Wu(x:BitVec 32):IntKind.u32.wrap (((BitVec.ofInt IntKind.u32.bits (if IntKind.u32.signed=true then -1 else IntKind.u32.max) ^^^ BitVec.ofInt IntKind.u32.bits (x.toNat:Int)).toNat:Nat):Int)=((~~~ x).toNat:Int):=by have:=OP (BitVec.allOnes 32) x;exact afk
theorem Vw(x:BitVec 32):IntKind.u32.wrap (((BitVec.ofInt IntKind.u32.bits (x.toNat:Int) &&& BitVec.ofInt IntKind.u32.bits (1:Int)).toNat:Nat):Int)=((x &&& 1#32).toNat:Int):=by
 have e:BitVec.ofInt IntKind.u32.bits (x.toNat:Int)=x:=by
  show BitVec.ofInt 32 (x.toNat:Int)=x
  simp
 rw[e];exact w32 _ (x &&& 1#32).isLt
theorem WJ(x:BitVec 32):(x.toNat:Int).fdiv (2 ^ (min (1:Int).toNat IntKind.u32.bits))=((x>>>1).toNat:Int):=by
 show(x.toNat:Int).fdiv (2 ^ 1)=_
 grind [Int.fdiv_eq_ediv_of_nonneg,Nat.shiftRight_eq_div_pow]
theorem Zp(n:Nat)(k:Nat)(hk:k≤24):(n:Int).fdiv (2 ^ (min (k:Int).toNat IntKind.u32.bits))=((n / 2 ^ k:Nat):Int):=by grind [min,Int,IntKind.bits,Int.fdiv_eq_ediv_of_nonneg,Int.le_of_lt,Int.pow_pos]
theorem Zf(a b k:Nat)(ha:a<2 ^ k)(hk:k≤24)(hb:b<256):IntKind.u32.wrap (((BitVec.ofInt IntKind.u32.bits (a:Int)|||BitVec.ofInt IntKind.u32.bits ((b*2 ^ k:Nat):Int)).toNat:Nat):Int)=((a+b*2 ^ k:Nat):Int):=by
 have h24:2 ^ k≤2 ^ 24:=Nat.pow_le_pow_right aeG hk;have hbk:b*2 ^ k≤255*2 ^ 24:=Nat.mul_le_mul aeC h24;have e1:(BitVec.ofNat 32 a|||BitVec.ofNat 32 (b*2 ^ k)).toNat=a+b*2 ^ k:=by
  exact ajx
 show IntKind.u32.wrap (((BitVec.ofInt 32 (a:Int)|||BitVec.ofInt 32 ((b*2 ^ k:Nat):Int)).toNat:Nat):Int)=_
 rw[BC,BC,e1]
 grind [w32]
theorem WI(b k:Nat)(hk:k≤24)(hb:b<256):IntKind.u32.wrap ((b:Int)*2 ^ (min (k:Int).toNat IntKind.u32.bits))=((b*2 ^ k:Nat):Int):=by
 have h24:2 ^ k≤2 ^ 24:=Nat.pow_le_pow_right aeG hk;have hbk:b*2 ^ k≤255*2 ^ 24:=Nat.mul_le_mul aeC h24;have:min (k:Int).toNat IntKind.u32.bits=k:=aij;rw[this,show((b:Int)*2 ^ k)=((b*2 ^ k:Nat):Int) by simp]
 exact w32 _ aeC
section
variable {U : TypeId → TI} {ty : TypeId} {K : AV → Prop}
@[go_sem high] theorem aeq(x y:BitVec 32):cj U .xor ty (.v (.int .u32 (x.toNat:Int))) (.v (.int .u32 (y.toNat:Int))) K=K (.v (.int .u32 ((x ^^^ y).toNat:Int))):=by rw[Rl,OP]
@[go_sem high] theorem ab4(x:BitVec 32):cj U .xor ty (.v (.int .u32 (x.toNat:Int))) (.v (.int .u32 3988292384)) K=K (.v (.int .u32 ((x ^^^ 0xedb88320#32).toNat:Int))):=by rw[Rl,T4]
@[go_sem high] theorem YK(x:BitVec 32):cj U .and ty (.v (.int .u32 (x.toNat:Int))) (.v (.int .u32 1)) K=K (.v (.int .u32 ((x &&& 1#32).toNat:Int))):=by rw[L6,Vw]
@[go_sem high] theorem YM(x:BitVec 32)(kk:IntKind):cj U .shr ty (.v (.int .u32 (x.toNat:Int))) (.v (.int kk 1)) K=K (.v (.int .u32 ((x>>>1).toNat:Int))):=by grind [L7,WJ]
@[go_sem high] theorem Zu(x:BitVec 32):unA .xor (.v (.int .u32 (x.toNat:Int))) K=K (.v (.int .u32 ((~~~ x).toNat:Int))):=by rw[C4,Wu]
theorem Me(n k:Nat)(kk:IntKind)(hk:k≤24):cj U .shr ty (.v (.int .u32 (n:Int))) (.v (.int kk (k:Int))) K=K (.v (.int .u32 ((n / 2 ^ k:Nat):Int))):=by grind [L7,Zp]
theorem Md(a b k:Nat)(ha:a<2 ^ k)(hk:k≤24)(hb:b<256):cj U .or ty (.v (.int .u32 (a:Int))) (.v (.int .u32 ((b*2 ^ k:Nat):Int))) K=K (.v (.int .u32 ((a+b*2 ^ k:Nat):Int))):=by grind [Vy,Zf]
theorem FU(b k:Nat)(kk:IntKind)(hk:k≤24)(hb:b<256):cj U .shl ty (.v (.int .u32 (b:Int))) (.v (.int kk (k:Int))) K=K (.v (.int .u32 ((b*2 ^ k:Nat):Int))):=by grind [Rk,WI]
end
section
variable {P : Program} {U : TypeId → TI} {n : Nat} {ρ : Env} {h0 h h' : Heap} {tb : TypeId} {y v : AV} {l m : List UInt8} {Q : AV → Heap → Prop}
end
section
variable {U : TypeId → TI} {ty : TypeId} {K : AV → Prop}
end
section
variable {P : Program} {U : TypeId → TI} {n : Nat} {ρ : Env} {h : Heap}
section
variable (all : List Oper) (bs : List Bool) (r : List Oper) (K : Env → Heap → Prop)
end
theorem ai.of_wp{f:FuncId}{fn:Func}{c:Code}{args:List AV}{Q:AV→Heap→Prop}(hU:∀t,aP P U t)(hf:P.funcs[f]? =some fn)(hb:fn.body=some c)
  (hn : (fn.name == "runtime.NumGoroutine") = false) (m : Nat) (hm' : fn.ntmps = m) (rs : List ResultVar) (hr : fn.results.toList = rs) (hl : args.length ≤ m)
  (hk:WP P m c (yN args) h (wB U rs Q)):ai P f args h Q:=by
 subst hm';subst hr
 exact ai.Nz hU hf hb hn hl fun _=>hk
end
section
variable {P : Program} {U : TypeId → TI} {n : Nat} {ρ : Env} {h : Heap}
def KCut(I:Env→Heap→Prop)(K:Exit→Env→Heap→Prop):Exit→Env→Heap→Prop:=KSeq I K
theorem Vj(I:Env→Heap→Prop)(K:Exit→Env→Heap→Prop):KCut I K .ret ρ h=K .ret ρ h:=(rfl)
theorem WP.cut{c d:Code}{K:Exit→Env→Heap→Prop}(I:Env→Heap→Prop)(hc:WP P n c ρ h (KCut I K))(hd:∀ρ h,I ρ h→WP P n d ρ h K):WP P n (.seq c d) ρ h K:=
 WP.seq (hc.weaken fun e ρ h hk=>by
  cases e with
  |normal=>exact hd ρ h hk
  |_=>exact hk)
theorem WP.vc(hU:∀t,aP P U t)(hm:P.follows .mixedOrders=true){c:Code}{K:Exit→Env→Heap→Prop}(hk:bG P U n c ρ h K):WP P n c ρ h K:=dN hU hm c ρ h K hk
def KNext(P:Program)(n:Nat)(d:Code)(K:Exit→Env→Heap→Prop):Exit→Env→Heap→Prop:=KSeq (WP P n d · · K) K
theorem O2(d:Code)(K:Exit→Env→Heap→Prop):KNext P n d K .normal ρ h=WP P n d ρ h K:=(rfl)
theorem Ui(d:Code)(K:Exit→Env→Heap→Prop):KNext P n d K .ret ρ h=K .ret ρ h:=(rfl)
theorem Sc(d:Code)(K:Exit→Env→Heap→Prop)(i:Nat):KNext P n d K (.goto i) ρ h=K (.goto i) ρ h:=(rfl)
theorem WP.one(hU:∀t,aP P U t)(hm:P.follows .mixedOrders=true){c d:Code}{K:Exit→Env→Heap→Prop}(hk:bG P U n c ρ h (KNext P n d K)):WP P n (.seq c d) ρ h K:=WP.seq (dN hU hm c ρ h _ hk)
attribute [go_sem↓] Vj O2 Ui Sc
end
section
variable {P : Program} {U : TypeId → TI} {n : Nat} {ρ : Env} {h : Heap}
variable {d : Option Tmp} {t : TypeId} {p : String} {a : Array Edge} {g : Option (Nat × Bool)} {Q : AV → Heap → Prop} {k : AV → Prop}
theorem Xr(x y:TypeId)(k:TK→Prop):atK (.map x y) k=k (.map x y):=(rfl)
theorem VE(i:Nat):AV.cells (.mp i)= [.mp i]:=(rfl)
theorem YW(i m:Nat):fit (.mp i) m=(m=1):=(rfl)
theorem X2(l:List UInt8):gO .str (.s l)=(l.length≤maxLen):=(rfl)
def mpL(b:Blk)(f:List (AV×AV)→Prop):Prop:=match b with
 |.mp m=>f m
 |_=>False
@[congr] theorem UU{b b' :Blk}{f:List (AV×AV)→Prop}(e:b=b'):mpL b f=mpL b' f:=by rw[e]
theorem Y5(m:List (AV×AV))(f:List (AV×AV)→Prop):mpL (.mp m) f=f m:=(rfl)
def A2(tk:TK)(m:List (AV×AV)):Prop:=∀p∈m,gO tk p.1
def LR(ti:TI):Prop:=ti.sz≠0∨ti.k= .strct []
def Ew(U:TypeId→TI)(h:Heap)(u v:AV)(ok:Bool)(k:AV→Prop)(tk:TK):Prop:=match tk,u with
 |.map kt e,.mp id=>gO (U kt).k v∧LR (U e)∧aF (h id) fun b=>mpL b fun m=>A2 (U kt).k m∧k (zw U e m v ok)
 |_,_=>False
@[congr] theorem RA{u u' v v' :AV}{ok:Bool}{k:AV→Prop}{tk:TK}(h1:u=u')(h2:v=v'):Ew U h u v ok k tk=Ew U h u' v' ok k tk:=by grind
theorem Wo(kt e:TypeId)(id:Nat)(v:AV)(ok:Bool):Ew U h (.mp id) v ok k (.map kt e)=(gO (U kt).k v∧LR (U e)∧aF (h id) fun b=>mpL b fun m=>A2 (U kt).k m∧k (zw U e m v ok)):=(rfl)
attribute [go_sem] Xr VE YW X2
attribute [go_sem↓] Y5 Wo
theorem Wz(mt:TypeId)(x y:Operand)(ok:Bool):bg P U ρ h ⟨d,.lookup mt x y ok,t,p,a,g⟩ Q=aF (ev ρ x) fun u=>aF (ev ρ y) fun v=>atK (U mt).k (Ew U h u v ok (atH Q h)):=by
 simp only[bg,pv,bW,atK]
 congr 1
 funext u
 congr 1
 funext v
 cases (U mt).k with
 |map kt e=>
  cases u with
  |mp id=>
   simp only[Ew]
   congr 2
   exact aiY
  |_=>rfl
 |_=>rfl
def NU(U:TypeId→TI)(h:Heap)(u v w:AV)(Q:AV→Heap→Prop)(tk:TK):Prop:=match tk,u with
 |.map kt e,.mp id=>gO (U kt).k v∧aF (h id) fun b=>mpL b fun m=>A2 (U kt).k m∧Q (.v undef) (upd h id (some (.mp (AM m v w))))
 |_,_=>False
@[congr] theorem Tz{u u' v v' w w' :AV}{tk:TK}(h1:u=u')(h2:v=v')(h3:w=w'):NU U h u v w Q tk=NU U h u' v' w' Q tk:=by grind
theorem Yg(kt e:TypeId)(id:Nat)(v w:AV):NU U h (.mp id) v w Q (.map kt e)=(gO (U kt).k v∧aF (h id) fun b=>mpL b fun m=>A2 (U kt).k m∧Q (.v undef) (upd h id (some (.mp (AM m v w))))):=(rfl)
attribute [go_sem↓] Wz Yg
theorem RH(mt:TypeId)(x y z:Operand):bg P U ρ h ⟨d,.mapUpdate mt x y z,t,p,a,g⟩ Q=aF (ev ρ x) fun u=>aF (ev ρ y) fun v=>aF (ev ρ z) fun w=>atK (U mt).k (NU U h u v w Q):=by
 simp only[bg,bW,atK]
 congr 1
 funext u
 congr 1
 funext v
 congr 1
 funext w
 cases (U mt).k with
 |map kt e=>
  cases u with
  |mp id=>
   simp only[NU]
   congr 1
   exact aiY
  |_=>rfl
 |_=>rfl
def Vn(h:Heap)(Q:AV→Heap→Prop):Prop:=∀id,h id=none→Q (.mp id) (upd h id (some (.mp [])))
attribute [go_sem↓] RH
@[go_sem↓] theorem U6(mt:TypeId):bg P U ρ h ⟨d,.makeMap mt none,t,p,a,g⟩ Q=Vn h Q:=by simp only[bg,I7,true_and];rfl
end
def AL(ls:List (List UInt8)):List (AV×AV):=ls.map fun l=>(.s l,.agg [])
theorem D4(ls:List (List UInt8))(l:List UInt8):getM (AL ls) (.s l)=if l∈ls then some (.agg [])else none:=by
 induction ls with
 |nil=>rfl
 |cons x ls ih=>
  simp only[getM,AL,List.map_cons,List.find?_cons,sZ]at ih⊢
  grind
theorem Og{l:List UInt8}(hn:l∉ls):AM (AL ls) (.s l) (.agg [])=AL (ls++ [l]):=by unfold AM;rw[D4,if_neg hn];simp[AL]
theorem Kz(U:TypeId→TI)(e:TypeId)(he:(U e).sz=0)(ls:List (List UInt8))(l:List UInt8):zw U e (AL ls) (.s l) true= .tup [.agg [],.b (decide (l∈ls))]:=by
 simp only[zw,D4,jj,he,if_true]
 grind
theorem Ku(h:∀l∈ls,l.length≤maxLen):A2 .str (AL ls):=fun p hp=>by
 obtain⟨l,hl,rfl⟩:=List.mem_map.1 hp;exact h l hl
section
variable {c:Cx}{w':World}{b:Nat}{vs:List Value}
variable {P : Program} {f : FuncId} {args : List AV} {h h' : Heap} {Q : AV → Heap → Prop}
theorem Ext.below(hb:Go.RowKit.Below c.w.heap.size c.w w'):Ext c {c with w:=w'} where
 os:=hb.os
 tape:=hb.tape
 output:=hb.output
 size:=hb.size
 block:=fun b h _=>hb.block b h
 cell:=fun b o h _=>by
  simp only[World.cell?,hb.block b h]
 shape:=fun b cs t fr h=>⟨cs,fr,(hb.block b (cX h)).trans h,rfl⟩
 steal:=fun _ _ _ h=>h
 obj:=fun _ cs _ h=>⟨rfl,cs,h,rfl⟩
 spare:=fun _ n _ h=>⟨n,h,.inl ⟨rfl,rfl⟩⟩
 mp:=fun _ m h=>⟨rfl,m,h⟩
 ro:=fun _ _ _ h=>⟨rfl,h⟩
theorem Good.below(g:Good c)(hb:Go.RowKit.Below c.w.heap.size c.w w'):Good {c with w:=w'} where
 fin:=g.fin
 inj:=g.inj
 obj:=fun id cs t h=>by
  obtain⟨vs,a1,a2,a3⟩:=g.obj id cs t h;exact⟨vs,(hb.block _ (cX a1)).trans a1,a2,fun j hj=>⟨(a3 j hj).1.mono (.below hb),(a3 j hj).2⟩⟩
 spare:=fun id n sz h=>by
  obtain⟨a0,vs,t,fr,a1,a2⟩:=g.spare id n sz h;exact⟨a0,vs,t,fr,(hb.block _ (cX a1)).trans a1,a2⟩
 mp:=fun id m h=>by
  obtain⟨es,cl,a1,a2,a3⟩:=g.mp id m h;exact⟨es,cl,(hb.block _ (cX a1)).trans a1,a2,fun i hi hi' =>⟨(a3 i hi hi').1,(a3 i hi hi').2.mono (.below hb)⟩⟩
 keys:=g.keys
 ro:=fun id b vs h=>g.om (.below hb) h
theorem ai.lib{X:AV}(hc:callable P f)(hf:∀c (vs:Array Value),Sub h c.h→Good c→vs.size=args.length→(∀i (hi:i<args.length),Rep c args[i] (vs.getD i undef))→
  Calls P f vs c.w fun e w' =>(∃u,e= .returned u∧∀c',Ext c c'→Rep c' X u)∧Go.RowKit.Below c.w.heap.size c.w w'):ai P f args h fun r h' =>r=X∧h' =h:=by
 refine fun c vs hs g h1 h2=> .inl ⟨hc,(hf c vs hs g h1 h2).mono ?_⟩
 rintro e w' ⟨⟨u,rfl,hu⟩,hb⟩
 exact⟨u,rfl,{c with w:=w'},X,h,rfl,g.below hb,.below hb,hu _ (.below hb),hs,rfl,rfl⟩
def Tab(h:Heap)(b:Nat)(vs:List Value):Prop:=∃id,h id=some (.ro b vs)
theorem Tab.sub(ht:Tab h b vs)(hs:Sub h h'):Tab h' b vs:=let ⟨id,hi⟩:=ht;⟨id,hs _ _ hi⟩
theorem Tab.var{name:String}(ht:Tab h b vs)(hn:P.globalNamed name=some b)(hs:Sub h c.h)(g:Good c):c.w.var? P name=some vs.toArray:=by
 obtain⟨id,hi⟩:=ht;obtain⟨_,t,fr,h2⟩:=g.ro id b vs (hs _ _ hi)
 grind [World.var?]
end
def vW(ts:List (Nat×List Value)):Heap:=fun i=>(ts[i]?).map fun p=> .ro p.1 p.2
def cxT(w:World)(ts:List (Nat×List Value)):Cx:=⟨w,fun i=>⟨((ts[i]?).map (·.1)).getD 0,0,none⟩,vW ts⟩
theorem NL(w:World)(ts:List (Nat×List Value))(b o:Nat):¬owned (cxT w ts) b o:=by
 rintro⟨id,k,h,_,h3⟩
 simp only[cxT,vW,Option.map_eq_some_iff]at h;obtain⟨p,_,rfl⟩:=h;exact h3
theorem Wa(w:World)(ts:List (Nat×List Value))(hd:ts.Pairwise fun p q=>p.1≠q.1)(ht:∀p∈ts,∃(t:TypeId) (fr:Nat×Nat),w.heap[p.1]? =some (.cells p.2.toArray t fr)):Good (cxT w ts) where
 fin:=⟨ts.length,fun id h=>by simp[cxT,vW,List.getElem?_eq_none h]⟩
 inj:=fun i j k l h1 h2 hne=>by
  simp only[cxT,vW,Option.map_eq_some_iff]at h1 h2;obtain⟨p,hp,rfl⟩:=h1;obtain⟨q,hq,rfl⟩:=h2;simp only[cxT,hp,hq,Option.map_some,Option.getD_some];obtain⟨hi,rfl⟩:=List.getElem?_eq_some_iff.1 hp
  grind [List.pairwise_iff_getElem,Nat.lt_or_gt_of_ne]
 obj:=fun id cs t h=>by
  simp_all [cxT,vW,Option.map_eq_some_iff]
 spare:=fun id n sz h=>by
  simp_all [cxT,vW,Option.map_eq_some_iff]
 mp:=fun id m h=>by
  simp_all [cxT,vW,Option.map_eq_some_iff]
 keys:=fun id m h=>by
  simp_all [cxT,vW,Option.map_eq_some_iff]
 ro:=fun id b vs h=>by
  simp only[cxT,vW,Option.map_eq_some_iff]at h;obtain⟨p,hp,h⟩:=h;cases h;refine⟨by grind [cxT],ht p aeD⟩
theorem ai.Mh{P:Program}{f:FuncId}{args:List AV}{b:Value}{vs:Array Value}{w:World}{ts:List (Nat×List Value)}(hc:callable P f)(hf:ai P f args (vW ts) fun r _=>r= .v b)(hd:ts.Pairwise fun p q=>p.1≠q.1)
  (ht:∀p∈ts,∃(t:TypeId) (fr:Nat×Nat),w.heap[p.1]? =some (.cells p.2.toArray t fr)) (hv:vs.size=args.length) (hr:∀i (hi:i<args.length),Rep (cx0 w) args[i] (vs.getD i undef)):
  Calls P f vs w fun e w' =>e= .returned b∧Go.RowKit.Below w.heap.size w w' :=by
 have hE:Ext (cx0 w) (cxT w ts):=⟨rfl,rfl,rfl,Nat.le_refl _,fun _ _ _=>rfl,fun _ _ _ _=>rfl,fun _ cs _ fr h=>⟨cs,fr,h,rfl⟩,fun b o _ h=>(NL w ts b o h).elim,
  fun _ _ _ h=>afs,fun _ _ _ h=>afs,fun _ _ h=>afs,fun _ _ _ h=>afs⟩
 refine((hf (cxT w ts) vs (fun _ _ h=>h) (Wa w ts hd ht) hv fun i hi=>(hr i hi).mono hE).calls hc).mono ?_
 rintro e w' ⟨u,rfl,c',x,h',rfl,g',hE,hx,hs,rfl⟩
 rw[hx.bQ];exact⟨rfl,hE.os,hE.tape,hE.output,hE.size,fun k hk=>hE.block k hk fun o=>NL w ts k o⟩
mutual
def strip:AV→AV
 |.sl xs _=> .sl (gj xs) .no
 |.agg xs=> .agg (gj xs)
 |.tup xs=> .tup (gj xs)
 |.v x=> .v x
 |.s l=> .s l
 |.pe x o=> .pe x o
 |.ptr i o=> .ptr i o
 |.oa i o l=> .oa i o l
 |.ifc t x=> .ifc t x
 |.fn f c=> .fn f c
 |.mp i=> .mp i
 |.ob i o l c s=> .ob i o l c s
def gj:List AV→List AV
 | []=>[]
 |x::r=>strip x::gj r
end
theorem fC:∀xs:List AV,(gj xs).length=xs.length
 | []=>rfl
 |x::r=>by simp[gj,fC r]
theorem gM:∀(xs:List AV) (i:Nat) (h1:i<xs.length) (h2:i<(gj xs).length),(gj xs)[i]=strip xs[i]
 |x::r,0,h1,h2=>aeR
 |x::r,i+1,h1,h2=>by simpa[gj]using gM r i aeD (by grind [gj])
theorem xx(x:AV):(strip x).cells=match x with|.agg xs=>gj xs|_=>[strip x]:=by cases x<;>simp[strip,AV.cells]
mutual
theorem fM:∀x:AV,Weak x (strip x)
 |.sl xs p=> .deep _ _ p (fC xs).symm (fun i h1 h2=>by
    rw[gM xs i h1 h2,xx];have:=ou xs i h1;cases hx:xs[i]<;>simp[AV.cells,fC])
   (fun i h1 h2 j h3 h4=>by
    have hw:=ou xs i h1;have e:=gM xs i h1 h2;exact hw (gj xs)[i] e j h3 h4)
 |.agg xs=> .agg _ _ (fC xs).symm fun i h1 h2=>ag7
 |.tup xs=> .tup _ _ (fC xs).symm fun i h1 h2=>ag7
 |.v x=> .refl _
 |.s l=> .refl _
 |.pe x o=> .refl _
 |.ptr i o=> .refl _
 |.oa i o l=> .refl _
 |.ifc t x=> .refl _
 |.fn f c=> .refl _
 |.mp i=> .refl _
 |.ob i o l c s=> .refl _
theorem mh:∀(xs:List AV) (i:Nat) (h:i<xs.length),Weak xs[i] (strip xs[i])
 |x::r,0,h=>fM x
 |x::r,i+1,h=>mh r i (by simpa using h)
theorem ou:∀(xs:List AV) (i:Nat) (h:i<xs.length) (y:AV),y=strip xs[i]→∀(j:Nat) (h3:j<xs[i].cells.length) (h4:j<y.cells.length),Weak xs[i].cells[j] y.cells[j]
 |x::r,0,h,y,e,j,h3,h4=>HO x y e j h3 h4
 |x::r,i+1,h,y,e,j,h3,h4=>ou r i (by simpa using h) y e j h3 h4
theorem HO:∀(x y:AV),y=strip x→∀(j:Nat) (h3:j<x.cells.length) (h4:j<y.cells.length),Weak x.cells[j] y.cells[j]
 |.agg xs,y,e,j,h3,h4=>by
  subst e;simp only[strip,AV.cells]at h4⊢;rw[gM xs j h3 h4];exact mh xs j h3
 |.sl xs p,y,e,j,h3,h4=>by
  subst e;simp only[strip,AV.cells,List.length_singleton]at h3 h4⊢;obtain rfl:j=0:=aeC;exact .deep _ _ p (fC xs).symm (fun i h1 h2=>by
    rw[gM xs i h1 h2,xx];cases hx:xs[i]<;>simp[AV.cells,fC])
   (fun i h1 h2 j h3 h4=>ou xs i h1 _ (gM xs i h1 h2) j h3 h4)
 |.tup xs,y,e,j,h3,h4=>by
  subst e;simp only[strip,AV.cells,List.length_singleton]at h3 h4⊢;obtain rfl:j=0:=aeC;exact .tup _ _ (fC xs).symm fun i h1 h2=>ag7
 |.v x,y,e,j,h3,h4=>afO
 |.s l,y,e,j,h3,h4=>afO
 |.pe x o,y,e,j,h3,h4=>afO
 |.ptr i o,y,e,j,h3,h4=>afO
 |.oa i o l,y,e,j,h3,h4=>afO
 |.ifc t x,y,e,j,h3,h4=>afO
 |.fn f c,y,e,j,h3,h4=>afO
 |.mp i,y,e,j,h3,h4=>afO
 |.ob i o l c s,y,e,j,h3,h4=>afO
end
section
variable {x:IntKind}
variable {P : Program} {U : TypeId → TI} {n : Nat} {ρ : Env} {h0 h h' : Heap} {tb : TypeId} {y v : AV} {xs zs : List AV} {Q : AV → Heap → Prop} {f : FuncId} {args : List AV}
def One(xs:List AV):Prop:=∀x∈xs,bA x=false
theorem oV{x:AV}(h:bA x=false):x.cells= [x]:=by cases x<;>first|rfl|(cases h)
theorem One.sized(h:One xs):Sized 1 xs:=fun z hz=>by rw[oV (h z hz)];rfl
theorem One.map{α:Type}{g:α→AV}(hg:∀a,bA (g a)=false)(l:List α):One (l.map g):=fun x hx=>by
 grind
def FM(tb:TypeId)(h:Heap)(y:AV)(xs:List AV):Prop:=
 (∃q,y= .sl xs q)∨∃id off cs,y= .oa id off xs.length∧h id=some (.obj cs tb)∧off+xs.length≤cs.length∧(cs.drop off).take xs.length=xs
theorem FM.sl(xs:List AV)(q:Perm):FM tb h (.sl xs q) xs:=.inl ⟨q,rfl⟩
theorem FM.len(hb:FM tb h y xs)(e:TypeId)(k:AV→Prop):xL y k (.slice e)=k (.i xs.length):=by exact ajG
def AtP(U:TypeId→TI)(tb:TypeId)(h:Heap)(p x:AV):Prop:=∀k:AV→Prop,oc U h tb p k=k x
theorem FM.idx(hb:FM tb h y xs)(ho:One xs){m:Int}{K:AV→Prop}(j:Nat)(hm:m=j)(hj:j<xs.length)(hz:(U tb).sz=1)(ha:(U tb).k.agg=false)
  (hk:∀p,AtP U tb h p xs[j]→K p):pP U y (.v (.int x m)) K (.slice tb):=by
 subst hm;have h1:=ho xs[j] aeJ;rcases hb with⟨q,rfl⟩|⟨id,off,cs,rfl,g1,g2,g3⟩
 ·refine(vA ..).mpr ⟨aeC,?_⟩
  refine dR.at j hj (by grind [oV]) ?_
  refine hk _ fun k=>?_
  simp_all [oc,L1,oV,List.length_cons,List.length_nil,Nat.zero_add,and_self,if_true]
 ·refine(Bm ..).mpr ⟨aeC,aeC,aeC,?_⟩
  refine hk _ fun k=>?_
  have e1:cs[off+j]? =some xs[j]:=by
   grind
  simp only[oc,g1,dJ,CN,hz,Nat.mul_one,Int.toNat_natCast,ER,ha,Br,e1];simp
def WrA(tb:TypeId)(h0 h:Heap)(y:AV)(xs:List AV):Prop:=
 Sub h0 h∧((xs= []∧y= .sl [] .full)∨∃id cs,h0 id=none∧y= .oa id 0 xs.length∧h id=some (.obj cs tb)∧xs.length≤cs.length∧cs.take xs.length=xs)
theorem WrA.nil(hs:Sub h0 h):WrA tb h0 h (.sl [] .full) []:=⟨hs,.inl ⟨rfl,rfl⟩⟩
theorem WrA.seq(hw:WrA tb h0 h y xs):FM tb h y xs:=by
 obtain⟨_,⟨rfl,rfl⟩|⟨id,cs,_,rfl,h1,h2,h3⟩⟩:=hw
 ·exact ahg
 ·exact .inr ⟨id,0,cs,rfl,h1,aeC,aeD⟩
theorem WrA.sub(hw:WrA tb h0 h y xs)(hs:Sub h h'):WrA tb h0 h' y xs:=by
 obtain⟨h1,hw|⟨id,cs,a,e,b,c,d⟩⟩:=hw
 ·exact⟨h1.trans hs,.inl hw⟩
 ·exact⟨h1.trans hs,.inr ⟨id,cs,a,e,hs _ _ b,c,d⟩⟩
theorem WrA.base(hw:WrA tb h0 h y xs){id:Nat}(hid:h id=none)(b:Option Blk):WrA tb (upd h0 id b) (upd h id b) y xs:=by
 obtain⟨h1,hw⟩:=hw;have h2:Sub (upd h0 id b) (upd h id b):=fun j k hj=>by
  by_cases e:j=id
  ·grind [ah]
  ·rw[ag _ _ e]at hj⊢;exact h1 _ _ hj
 rcases hw with hw|⟨i,cs,a,e,c,d⟩
 ·exact⟨h2,.inl hw⟩
 ·have hne:i≠id:=fun hh=>by subst hh;rw[hid]at c;cases c
  exact⟨h2,.inr ⟨i,cs,afe,e,afe,d⟩⟩
theorem WrA.less(hw:WrA tb h' h y xs)(hs:Sub h0 h'):WrA tb h0 h y xs:=by
 obtain⟨h1,hw|⟨i,cs,a,e,c,d⟩⟩:=hw
 ·exact⟨hs.trans h1,.inl hw⟩
 ·exact⟨hs.trans h1,.inr ⟨i,cs,hs.none a,e,c,d⟩⟩
theorem WrA.len(hw:WrA tb h0 h y xs)(e:TypeId)(k:AV→Prop):xL y k (.slice e)=k (.i xs.length):=hw.seq.len e k
theorem WrA.idx(hb:WrA tb h0 h y xs)(ho:One xs){m:Int}{K:AV→Prop}(j:Nat)(hm:m=j)(hj:j<xs.length)(hz:(U tb).sz=1)(ha:(U tb).k.agg=false)
  (hk:∀p,AtP U tb h p xs[j]→K p):pP U y (.v (.int x m)) K (.slice tb):=hb.seq.idx ho j hm hj hz ha hk
theorem WrA.cut(hw:WrA tb h0 h y xs){hi:Operand}{m:Int}{K:AV→Prop}(j:Nat)(hm:ev ρ hi=some (.v (.int x m)))(hj:m=j)(hl:j≤xs.length)(hz:(U tb).sz=1)
  (hk:∀z,WrA tb h0 h z (xs.take j)→K z):gL U ρ y none (some hi) none K (.slice tb):=by
 subst hj;have hs:=hw.1;obtain⟨_,⟨rfl,rfl⟩|⟨id,cs,h1,rfl,h2,h3,h4⟩⟩:=hw
 ·rw[oo,fE,hm]
  refine⟨aeC,?_⟩;have:j=0:=aeD;subst this;refine⟨aeC,aeJ,?_⟩;exact hk _ (.nil hs)
 ·rw[sv]
  refine⟨aeC,fun _=>hz,?_⟩
  simp only[mT,fE,hm,dJ,nX];refine⟨aeC,aeC,aeC,?_⟩;have e:(xs.take j).length=j:=aeD;have:=hk (.oa id 0 (xs.take j).length) ⟨hs,.inr ⟨id,cs,h1,rfl,h2,aeC,aeD⟩⟩;rw[e]at this;simpa using this
theorem WrA.app(hw:WrA tb h0 h y xs)(ho:One xs)(hoz:One zs)(hz:(U tb).sz=1)(hb:(U tb).bytes≠0)(hf:fit (U tb).zero 1)(hn:bA (U tb).zero=false)(hsrc:∀k:List AV→Prop,k zs→iR U tb h v k)
  (hlen:(xs.length+zs.length)*(U tb).bytes≤140737488355328) (hk:∀y' h',WrA tb h0 h' y' (xs++zs)→Q y' h'):apK U h y v Q (.slice tb):=by
 have hs:=hw.1;have one:Sized (U tb).sz zs:=by rw[hz];exact hoz.sized
 obtain⟨_,⟨rfl,rfl⟩|⟨id,cs,h1,rfl,h2,h3,h4⟩⟩:=hw
 ·refine(qM ..).mpr ⟨aeC,hb,hsrc _ ⟨by simp[Sized],one,aeC,fun hn' =>?_,fun hn' =>?_⟩⟩
  ·subst hn'
   exact hk _ _ (.nil hs)
  ·refine .oa hz hf hn hoz fun id k hid=>?_
   refine hk _ _ ⟨hs.new hid _,.inr ⟨id,_,hs.none hid,?_,ah ..,?_,?_⟩⟩
   ·simp
   ·simp
   ·simp
 ·refine⟨aeC,hb,hz,hsrc _ ⟨aeD,hoz,aeC,?_⟩⟩
  rw[h2];refine⟨aeC,?_,hf,hn,fun hle=>?_,fun id' k hid=>?_⟩
  ·rw[List.drop_zero,h4];exact ho
  ·have hsub:Sub h0 (upd h id (some (.obj (over cs (0+xs.length) zs) tb))):=fun j b hj=>by
    by_cases e:j=id
    ·grind
    ·rw[ag _ _ e];exact hs _ _ hj
   have ho' :(over cs (0+xs.length) zs).length=cs.length:=iO aeC;refine hk _ _ ⟨hsub,.inr ⟨id,_,h1,aeJ,ah ..,aeD,?_⟩⟩;rw[over,Nat.zero_add,h4,aew,List.take_append_of_le_length aeJ]
   grind
  ·refine hk _ _ ⟨hs.new hid _,.inr ⟨id',_,hs.none hid,aeJ,ah ..,?_,?_⟩⟩
   ·grind
   grind
end
end Go.Ab
namespace Go.Bf
open Go Go.Ab
abbrev Txt:=List UInt8
structure qI where
 cat:Int
 name:Txt
 must:Bool
structure bu where
 kind:Int
 n:Int
 s:Txt
structure bP where
 attr:qI
 op:Int
 val:bu
structure aR where
 op:Int
 val:bu
 attr:qI
structure cB where
 on:Int
 kind:Int
 arg:Txt
abbrev gv:=List (List (List bP))
structure cQ where
 id:Txt
 deny:Bool
 tgt:gv
 cond:List aR
 obls:List cB
inductive bD where
 |mk (id:Txt) (set:Bool) (alg:Int) (tgt:gv) (rules:List cQ) (kids:List bD) (obls:List cB)
def Dp(a:qI):AV:=.agg [.i a.cat,.s a.name,.b a.must]
def aS(v:bu):AV:=.agg [.i v.kind,.i v.n,.s v.s]
def dV(m:bP):AV:=.agg [.i m.attr.cat,.s m.attr.name,.b m.attr.must,.i m.op,.i m.val.kind,.i m.val.n,.s m.val.s]
def dL(m:aR):AV:=.agg [.i m.op,.i m.val.kind,.i m.val.n,.s m.val.s,.i m.attr.cat,.s m.attr.name,.b m.attr.must]
def j4(b:Bool):AV:=.b b
def bl(o:cB):AV:=.agg [.i o.on,.i o.kind,.s o.arg]
def jl(l:List bP):AV:=.sl (l.map dV) .no
def cV(l:List (List bP)):AV:=.sl (l.map jl) .no
def aV(t:gv):AV:=.sl (t.map cV) .no
def fH(l:List aR):AV:=.sl (l.map dL) .no
def ay(l:List cB):AV:=.sl (l.map bl) .no
def aC(r:cQ):AV:=.agg [.s r.id,.b r.deny,aV r.tgt,fH r.cond,ay r.obls]
mutual
def aO:bD→AV
 |.mk id set alg tgt rules kids obls=> .agg [.s id,.b set,.i alg,aV tgt,.sl (rules.map aC) .no,.sl (fO kids) .no,ay obls]
def fO:List bD→List AV
 | []=>[]
 |k::r=>aO k::fO r
end
theorem bf:∀l:List bD,fO l=l.map aO
 | []=>rfl
 |k::r=>by simp[fO,bf r]
def ltr(c:UInt8):Bool:=decide (97≤(c.toNat:Int)) && decide ((c.toNat:Int)≤122)
def dgt(c:UInt8):Bool:=decide (48≤(c.toNat:Int)) && decide ((c.toNat:Int)≤57)
def tU(c:UInt8)(i:Nat):Bool:=ltr c||(decide (i≠0) && (dgt c||(c.toNat:Int)==95))
def wD(l:Txt):Bool:=l.zipIdx.all fun p=>tU p.1 p.2
def bp(l:Txt):Bool:=wD l && decide (1≤l.length) && decide (l.length≤16)
def qO(a:qI):Bool:=decide (1≤a.cat) && decide (a.cat≤4) && bp a.name
def bz(v:bu):Bool:=
 if v.kind=1 then(v.n==0||v.n==1) && v.s== []
 else if v.kind=2 then v.s== []
 else if v.kind=3 then v.n==0 && decide (v.s.length≤64)
 else if v.kind=4 then decide (0≤v.n) && decide (v.n≤1099511627776) && v.s== []
 else if v.kind=5 then v.n==0 && bp v.s
 else false
def lu(m:bP):Bool:=qO m.attr && decide (1≤m.op) && decide (m.op≤3) && bz m.val
def kO(n:Nat):Int:=if n=0 then 1 else if n>8 then 6 else 0
def iI{α:Type}(f:α→Int):List α→Int
 | []=>0
 |x::r=>if f x=0 then iI f r else f x
def xH(l:List bP):Int:=if kO l.length=0 then(if l.all lu then 0 else 1)else kO l.length
def xI(l:List (List bP)):Int:=if kO l.length=0 then iI xH l else kO l.length
def l9(t:gv):Int:=if t.length>8 then 6 else iI xI t
def iT(op:Int):Option (List Bool):=
 if op=1∨op=2 then some []
 else if op=3∨op=4 then some [true]
 else if op=5 then some [true,false]
 else if op=11 then some [false]
 else if 6≤op∧op≤13 then some [false,false]
 else none
def zeroV(v:bu):Bool:=v.kind==0 && (v.n==0 && v.s== [])
def zeroAt(a:qI):Bool:=a.cat==0 && (a.name== [] && a.must==false)
def j6(n:aR):Bool:=
 if n.op=1 then bz n.val && zeroAt n.attr
 else if n.op=2 then qO n.attr && zeroV n.val
 else zeroV n.val && zeroAt n.attr
def iS(st:List Bool)(n:aR):Option (List Bool):=match iT n.op with
 |none=>none
 |some w=>if j6 n=true∧w.length≤st.length∧st.drop (st.length - w.length)=w then some (st.take (st.length - w.length)++ [n.op==2])else none
def gh(st:List Bool):List aR→Option (List Bool)
 | []=>some st
 |n::r=>match iS st n with
  |none=>none
  |some st' =>gh st' r
def kN(l:List aR):Int:=if l.length>32 then 6 else match gh [] l with
 |none=>1
 |some st=>if l= []∨st= [false]then 0 else 1
def rC(o:cB):Bool:=decide (1≤o.on) && decide (o.on≤2) && decide (1≤o.kind) && decide (o.kind≤4) && bp o.arg
def iM(l:List cB):Int:=if l.length>8 then 6 else if l.all rC then 0 else 1
structure eP where
 met:List Txt
 rules:Nat
inductive Went where
 |bad (e:Int)
 |ok (m:eP)
def jz(m:eP)(s:Txt):Option eP:=if s∉m.met∧bp s=true then some ⟨m.met++ [s],m.rules⟩else none
def Went.err:Went→Int
 |.bad e=>e
 |.ok _=>0
def need(e:Int)(w:Went):Went:=if e=0 then w else .bad e
def gF(m:eP)(r:cQ):Went:=match jz m r.id with
 |none=> .bad 1
 |some m=>if m.rules+1>64 then .bad 6 else need (l9 r.tgt) (need (kN r.cond) (need (iM r.obls) (.ok ⟨m.met,m.rules+1⟩)))
def fK(m:eP):List cQ→Went
 | []=> .ok m
 |r::l=>match gF m r with
  |.bad e=> .bad e
  |.ok m=>fK m l
def fA(m:eP)(id:Txt)(set:Bool)(alg:Int)(tgt:gv)(nr nk:Nat)(obls:List cB):Went:=match jz m id with
 |none=> .bad 1
 |some m=>if alg<1∨alg>6 then .bad 1
  else if set=true∧nr>0∨set=false∧(nk>0∨alg=4)then .bad 1
  else need (l9 tgt) (need (iM obls) (if nr>16∨nk>16 then .bad 6 else .ok m))
mutual
def kY(m:eP)(d:Nat):bD→Went
 |.mk id set alg tgt rules kids obls=>
  if d>4 then .bad 6 else match fA m id set alg tgt rules.length kids.length obls with
  |.bad e=> .bad e
  |.ok m=>match fK m rules with
   |.bad e=> .bad e
   |.ok m=>jg m (d+1) kids
def jg(m:eP)(d:Nat):List bD→Went
 | []=> .ok m
 |k::r=>match kY m d k with
  |.bad e=> .bad e
  |.ok m=>jg m d r
end
def gK(p:bD):Int:=(kY ⟨[],0⟩ 1 p).err
def Gy(n:Nat):UInt8:=if n<10 then UInt8.ofNat (48+n)else UInt8.ofNat (87+n)
def uw(c:UInt8):Bool:=decide ((c.toNat:Int)<32)||decide (126<(c.toNat:Int))||(c.toNat:Int)==34||(c.toNat:Int)==92
def oL(c:UInt8):Txt:=if uw c then [92,Gy (c.toNat / 16),Gy (c.toNat % 16)]else [c]
def oN(l:Txt):Txt:=[34]++(l.map oL).flatten++ [34]
def kM(v:bu):Txt:=
 if v.kind=1 then Lib.formatBool (v.n==1)else if v.kind=4 then [64]++Lib.itoa v.n else if v.kind=5 then [35]++v.s else if v.kind=3 then oN v.s else Lib.itoa v.n
end Go.Bf
namespace Go.Ab
open Go
variable {i j:Nat}{b:Blk}
def hm2(i:Nat)(a:Blk)(j:Nat)(b:Blk):Heap:=upd (hm1 i a) j (some b)
theorem Sub.hm2{h:Heap}{a:Blk}(h1:h i=some a)(h2:h j=some b):Sub (hm2 i a j b) h:=fun k c hk=>by
 unfold Ab.hm2 at hk
 by_cases e:k=j
 ·grind [ah]
 ·rw[ag _ _ e]at hk;exact Sub.hm1 h1 k c hk
theorem sd(i:Nat)(a:Blk)(j:Nat)(b:Blk):hm2 i a j b j=some b:=ah ..
theorem rZ(a:Blk)(b:Blk)(h:i≠j):hm2 i a j b i=some a:=by simp_all [hm2,ag,gy]
theorem aI{h:Heap}(e:upd h i (some b) j=none):j≠i:=fun hh=>by
 subst hh;rw[ah]at e;cases e
theorem Sub.put{h g:Heap}(hs:Sub h g)(hi:h i=Option.none)(x:Option Blk):Sub h (Ab.upd g i x):=fun k c hk=>by
 by_cases e:k=i
 ·grind
 ·rw[ag _ _ e];exact hs k c hk
theorem Sub.both{h g:Heap}(hs:Sub h g)(i:Nat)(x:Option Blk):Sub (Ab.upd h i x) (Ab.upd g i x):=fun k c hk=>by
 by_cases e:k=i
 ·grind [ah]
 ·rw[ag _ _ e]at hk⊢;exact hs k c hk
theorem Acc.put{U:TypeId→TI}{e:TypeId}{h h' :Heap}{y:AV}{xs:List AV}(ha:Acc U e h h' y xs){id:Nat}(hid:h id=Option.none){cs:List AV}{t:TypeId}(hob:h' id=some (.obj cs t))(x:Option Blk):Acc U e h (Ab.upd h' id x) y xs:=by
 obtain⟨h1,rfl|⟨k,i1,rfl,i2⟩⟩:=ha
 ·exact⟨h1.put hid x,.inl rfl⟩
 ·refine⟨h1.put hid x,.inr ⟨k,i1,rfl,?_⟩⟩
  grind [ag]
theorem base_start(G:Heap)(id:Nat)(x:Option Blk):Sub (upd G id Option.none) (upd G id x):=fun k c hk=>by
 grind [ah,ag]
theorem fG{G H:Heap}{id:Nat}(hs:Sub (upd G id Option.none) H)(hb:H id=some b):Sub (upd G id (some b)) H:=fun k c hk=>by
 by_cases e:k=id
 ·grind [ah]
 ·rw[ag _ _ e]at hk;exact hs k c afe
theorem B4(xs:List AV)(q:Perm)(a b:AV):Weak (.tup [.sl xs q,a,b]) (.tup [.sl xs .no,a,b]):=.tup _ _ rfl fun i h1 h2=>by
 rcases i with _|_|_|i
 ·exact ahg
 ·exact afX
 ·exact afX
 grind
theorem WP.Of{P:Program}{U:TypeId→TI}{n:Nat}(hU:∀t,aP P U t)(hm:P.follows .mixedOrders=true){c rest:Code}{ρ:Env}{h:Heap}{K:Exit→Env→Heap→Prop}(l:Nat)(J:Nat→Env→Heap→Prop)(hf:findLabel c l=some (.seq .skip rest))
  (pass:∀m ρ h,J m ρ h→WP P n rest ρ h (KJump l (fun ρ' h' =>∃m',m' <m∧J m' ρ' h') K))
  (first:(∀m ρ h,J m ρ h→WP P n rest ρ h (KJump l (fun ρ h=>∃m,J m ρ h) K))→WP P n c ρ h (KJump l (fun ρ h=>∃m,J m ρ h) K)):WP P n (.scope c) ρ h K:=
 WP.scope l J hf (first fun m ρ h hJ=>(pass m ρ h hJ).weaken fun e ρ h hk=>by
  cases e with
  |goto l' =>obtain⟨h1,m',_,h2⟩:=hk;exact⟨h1,m',h2⟩
  |_=>exact hk) fun m ρ h hJ=>WP.seq (dN hU hm .skip ρ h _ (pass m ρ h hJ))
end Go.Ab
namespace Go.Ab
attribute [go_sem] Int.natCast_zero Int.ofNat_zero Int.natCast_one Int.cast_ofNat_Int bne_self_eq_false beq_self_eq_true Bool.not_true Bool.not_false
attribute [go_sem] Nat.reduceLT Nat.reduceEqDiff Nat.reduceAdd Nat.reduceLeDiff Nat.reduceMul Nat.reduceSub Int.reduceBEq Int.reduceBNe
attribute [go_sem ↓] reduceIte
end Go.Ab
namespace Go.Proofs.YtelkmnkejghkeaaGreatDoor
open Go
def rG:List Value:=Lib.pow10Tab.map fun z=>Value.int .u64 z
end Go.Proofs.YtelkmnkejghkeaaGreatDoor
namespace Go.Proofs.YtelkmnkejghkeaaGreatDoor
open Go Go.Ab Go.Bf Tryz
abbrev xF(h:Heap):Prop:=Tab h 3 rG
theorem nY(n:Int)(h:Heap)(hn: -9223372036854775808≤n∧n≤9223372036854775807)(ht:xF h):ai prog 69 [.i n] h fun r h' =>r= .s (Lib.itoa n)∧h' =h:=by
 refine .lib ⟨_,func69,aeR,rfl⟩ fun c vs hs g h1 h2=>?_
 obtain ⟨v,rfl⟩:∃v,vs= #[v]:=Array.size_eq_one_iff.1 h1;have e:v= .int .i64 n:=(h2 0 aeJ).bQ;subst e;have hv := ht.var (P := prog) (name := "internal/strconv.uint64pow10") aeR hs g;refine (Tryz.strconv_Itoa n hn.1 hn.2 c.w (by unfold Lib.TabIs; rw [hv]; rfl)).mono ?_
 rintro e w' ⟨rfl,k,os,rfl⟩
 refine⟨⟨_,rfl,fun c' _=> .s _ ?_⟩,rfl,rfl,rfl,?_,fun k hk=>?_⟩
 ·grind [Lib.itoa_length_le,Nat,lim]
 ·simp
 ·show(_++os)[k]? =_
  simp_all [Array.getElem?_append,if_pos]
theorem MG(b:Bool)(h:Heap):ai prog 129 [.b b] h fun r h' =>r= .s (Lib.formatBool b)∧h' =h:=by
 refine .lib ⟨_,func129,aeR,rfl⟩ fun c vs hs g h1 h2=>?_
 obtain⟨v,rfl⟩:∃v,vs= #[v]:=Array.size_eq_one_iff.1 h1;have e:v= .bool b:=(h2 0 aeJ).bQ;subst e;refine(Tryz.strconv_FormatBool b c.w).mono ?_
 rintro e w' ⟨rfl,rfl⟩
 exact⟨⟨_,rfl,fun c' _=> .s _ (by cases b<;>decide)⟩,.refl _ _⟩
end Go.Proofs.YtelkmnkejghkeaaGreatDoor
namespace Go.Bf
open Go Go.Ab
variable {i:Nat}{m1:eP}
theorem wq{α:Type}(l:List α)(i:Nat)(h:i<l.length):(l.take (i+1)).zipIdx=(l.take i).zipIdx++ [(l[i],i)]:=by grind [List.take_succ_eq_append_getElem,Nat.min_eq_left,Nat.le_of_lt]
theorem FV(l:Txt)(i:Nat)(h:i<l.length):wD (l.take (i+1))=(wD (l.take i) && tU l[i] i):=by grind [wD,wq]
theorem JA(l:Txt)(i:Nat)(h:i<l.length)(hb:tU l[i] i=false):wD l=false:=by rw[wD,List.all_eq_false];exact⟨(l[i],i),aeD,aeD⟩
theorem Pj(c:UInt8):
  (decide (97≤(c.toNat:Int))=true∧decide ((c.toNat:Int)≤122)=true∧decide (48≤(c.toNat:Int))=true∧decide ((c.toNat:Int)≤57)=false∧((c.toNat:Int)==95)=false)∨
  (decide (97≤(c.toNat:Int))=false∧decide ((c.toNat:Int)≤122)=true∧decide (48≤(c.toNat:Int))=true∧decide ((c.toNat:Int)≤57)=true∧((c.toNat:Int)==95)=false)∨
  (decide (97≤(c.toNat:Int))=false∧decide ((c.toNat:Int)≤122)=true∧decide (48≤(c.toNat:Int))=true∧decide ((c.toNat:Int)≤57)=false∧((c.toNat:Int)==95)=true)∨
  (decide (97≤(c.toNat:Int))=false∧decide ((c.toNat:Int)≤122)=true∧decide (48≤(c.toNat:Int))=false∧decide ((c.toNat:Int)≤57)=true∧((c.toNat:Int)==95)=false)∨
  (decide (97≤(c.toNat:Int))=false∧decide ((c.toNat:Int)≤122)=true∧decide (48≤(c.toNat:Int))=true∧decide ((c.toNat:Int)≤57)=false∧((c.toNat:Int)==95)=false)∨
  (decide (97≤(c.toNat:Int))=true∧decide ((c.toNat:Int)≤122)=false∧decide (48≤(c.toNat:Int))=true∧decide ((c.toNat:Int)≤57)=false∧((c.toNat:Int)==95)=false):=by
 simp only[decide_eq_true_eq,decide_eq_false_iff_not,beq_iff_eq,beq_eq_false_iff_ne,ne_eq];omega
theorem wL{α:Type}{f:α→Int}{l:List α}(h:i<l.length)(h0:iI f (l.take i)=0)(h1:f l[i]=0):iI f (l.take (i+1))=0:=by
 rw[List.take_succ_eq_append_getElem h];generalize l.take i=a at h0
 induction a with
 |nil=>grind [iI]
 |cons x r ih=>
  simp only[iI]at h0;split at h0
  ·simp_all [List.cons_append,iI,if_true]
  omega
theorem Bi{α:Type}{f:α→Int}{l:List α}(h:i<l.length)(h0:iI f (l.take i)=0)(h1:f l[i]≠0):iI f l=f l[i]:=by
 induction l generalizing i with
 |nil=>cases h
 |cons x r ih=>
  cases i with
  |zero=>grind [iI]
  |succ i=>
   simp only[List.take_succ_cons,iI]at h0;split at h0
   ·rename_i hx
    simp only[iI,hx,if_true,List.getElem_cons_succ]
    grind
   omega
theorem EA{e x:Int}{w:Went}(h:need e w= .bad x)(hw:w= .bad x→x≠0):x≠0:=by grind [need]
theorem BS{m:eP}{r:cQ}{e:Int}(h:gF m r= .bad e):e≠0:=by grind [gF,EA]
theorem Bl{m:eP}{id:Txt}{set:Bool}{alg:Int}{tgt:gv}{nr nk:Nat}{obls:List cB}{e:Int}(h:fA m id set alg tgt nr nk obls= .bad e):e≠0:=by grind [fA,EA]
theorem qe(m:eP):∀(l:List cQ) (i:Nat),fK m l=(match fK m (l.take i)with
  |.bad e=> .bad e
  |.ok m1=>fK m1 (l.drop i))
 | [],i=>by simp[fK]
 |r::l,0=>aeR
 |r::l,i+1=>by
  simp only[List.take_succ_cons,List.drop_succ_cons,fK];cases gF m r with
  |bad e=>rfl
  |ok m1=>simp only;exact qe m1 l i
theorem xp{m:eP}{l:List cQ}(hi:i<l.length)(h:fK m (l.take i)= .ok m1):fK m (l.take (i+1))=gF m1 l[i]:=by
 rw[qe m _ i,List.take_take,Nat.min_eq_left aeC,h,List.take_succ_eq_append_getElem hi,List.drop_append_of_le_length aeD,List.drop_of_length_le aeD]
 grind [fK,gF]
theorem Fc{m:eP}{l:List cQ}{e:Int}(hi:i<l.length)(h:fK m (l.take i)= .ok m1)(hr:gF m1 l[i]= .bad e):fK m l= .bad e:=by rw[qe m l (i+1),xp hi h,hr]
theorem ry(m:eP)(d:Nat):∀(l:List bD) (i:Nat),jg m d l=(match jg m d (l.take i)with
  |.bad e=> .bad e
  |.ok m1=>jg m1 d (l.drop i))
 | [],i=>by simp[jg]
 |r::l,0=>aeR
 |r::l,i+1=>by
  simp only[List.take_succ_cons,List.drop_succ_cons,jg];cases kY m d r with
  |bad e=>rfl
  |ok m1=>simp only;exact ry m1 d l i
theorem zh{m:eP}{d:Nat}{l:List bD}(hi:i<l.length)(h:jg m d (l.take i)= .ok m1):jg m d (l.take (i+1))=kY m1 d l[i]:=by
 rw[ry m d _ i,List.take_take,Nat.min_eq_left aeC,h,List.take_succ_eq_append_getElem hi,List.drop_append_of_le_length aeD,List.drop_of_length_le aeD]
 grind [jg,kY]
theorem GI{m:eP}{d:Nat}{l:List bD}{e:Int}(hi:i<l.length)(h:jg m d (l.take i)= .ok m1)(hr:kY m1 d l[i]= .bad e):jg m d l= .bad e:=by rw[ry m d l (i+1),zh hi h,hr]
end Go.Bf
namespace Go.Proofs.YtelkmnkejghkeaaGreatDoor
open Go Go.Ab Go.Bf Tryz
theorem aeB {f:FuncId} {fn:Func} {c:Code} {args:List AV} {h:Heap} {Q:AV→Heap→Prop} (hf:prog.funcs[f]? =some fn) (m:Nat) (rs:List ResultVar) (hk:(∀x∈args,wfA x)→bG prog U m c (yN args) h (wB U rs Q)) (hb:fn.body=some c:=by exact rfl) (hn:(fn.name=="runtime.NumGoroutine")=false:=by kernel_rfl) (h1:fn.ntmps=m:=by exact rfl) (h2:fn.results.toList=rs:=by exact rfl) (hl:args.length≤m:=by exact Nat.le_of_ble_eq_true rfl):ai prog f args h Q:=ai.body hU hm hf hb hn m h1 rs h2 hl hk
theorem pT(l:Txt)(h:Heap):ai prog 78 [.s l] h fun r h' =>r= .b (bp l)∧h' =h:=by
 refine aeB func78 49 [.tmp 2] fun hwf=>?_
 simp only[go_sem];refine .intro (fun m ρ h' =>h' =h∧∃i:Nat,i≤l.length∧m=l.length - i∧wD (l.take i)=true∧lk ρ 0=some (.s l)∧lk ρ 8=some (.i l.length)∧lk ρ 9=some (.i i)) l.length ?_ ?_
 ·refine⟨rfl,0,aeC,rfl,rfl,?_,?_,?_⟩<;>simp only[go_sem]
 ·rintro m ρ h' ⟨rfl,i,hi,rfl,hc,r0,r8,r9⟩
  simp only[go_sem,r8,r9];refine .intro (fun e=>?_) (fun e=>?_)
  ·have hlt:i<l.length:=aez e
   have w1:IntKind.i64.wrap ((i:Int)+1)=((i+1:Nat):Int):=by rw[aW _ (by have:=hwf (.s l) aeJ;simp only[wfA,wf1,lim]at this;omega)];omega
   have w0:IntKind.i64.wrap (0+1)=1:=rfl;have hb:=JA l i hlt;have hg:=FV l i hlt;rw[hc]at hg;have hcl:=Pj l[i];have h255:=l[i].toNat_lt;simp only[go_sem,r0,r9];refine .at i hlt ?_;generalize hcc:l[i]=c at hb hg hcl h255⊢
   by_cases hi0:i=0
   ·subst hi0
    rcases hcl with⟨a1,a2,a3,a4,a5⟩|⟨a1,a2,a3,a4,a5⟩|⟨a1,a2,a3,a4,a5⟩|⟨a1,a2,a3,a4,a5⟩|⟨a1,a2,a3,a4,a5⟩|⟨a1,a2,a3,a4,a5⟩
    ·simp only[go_sem,r9,a1,a2,a3,a4,a5,w0]
     refine⟨_,?_,rfl,0+1,aeC,rfl,by simp[hg,tU,ltr,a1,a2],?_,?_,?_⟩
     ·omega
     all_goals simp only[go_sem,r0,r8]
    all_goals
     simp only[go_sem,a1,a2,a3,a4,a5];exact .same (.refl _) ⟨by simp[bp,hb (by simp[tU,ltr,a1,a2]),ax],rfl⟩
   ·have hin:((i:Int)==0)=false:=by simp;omega
    rcases hcl with⟨a1,a2,a3,a4,a5⟩|⟨a1,a2,a3,a4,a5⟩|⟨a1,a2,a3,a4,a5⟩|⟨a1,a2,a3,a4,a5⟩|⟨a1,a2,a3,a4,a5⟩|⟨a1,a2,a3,a4,a5⟩
    ·simp only[go_sem,r9,a1,a2,a3,a4,a5,w1]
     exact ajo
    ·simp only[go_sem,r9,a1,a3,a4,w1,hin]
     exact ajo
    ·simp only[go_sem,r9,a1,a3,a4,a5,w1,hin]
     exact ajo
    ·simp only[go_sem,a1,a3,a5,hin]
     exact .same (.refl _) ⟨agk,rfl⟩
    ·simp only[go_sem,a1,a3,a4,a5,hin]
     exact .same (.refl _) ⟨agk,rfl⟩
    ·simp only[go_sem,a1,a2,a3,a4,a5,hin]
     exact .same (.refl _) ⟨agk,rfl⟩
  ·have hge:i=l.length:=by have:=aev e;omega
   subst hge;rw[List.take_length]at hc
   by_cases h0:l= []
   ·subst h0
    have b0:((([]:Txt)== [])=true):=rfl;simp only[go_sem,r0,b0];exact aeL
   ·have b0:(l== [])=false:=by simpa using h0
    have hp:1≤l.length:=List.length_pos_iff.2 h0;simp only[go_sem,r0,b0];exact .same (.refl _) ⟨by simp[bp,hc,ax,hp];omega,rfl⟩
theorem HY(a:qI)(h:Heap):ai prog 310 [Dp a] h fun r h' =>r= .b (qO a)∧h' =h:=by
 refine aeB func310 16 [.tmp 2] fun hwf=>?_
 simp only[go_sem,Dp];intro id hid;cases d1:decide (1≤a.cat)
 ·simp only[go_sem,d1]
  exact aj1
 cases d2:decide (a.cat≤4)
 ·simp only[go_sem,d1,d2]
  exact aj1
 simp only[go_sem,d1,d2];refine(pT _ _).pthen ?_;simp only[go_sem];exact aj1
theorem ga(v:bu)(h:Heap):ai prog 81 [aS v] h fun r h' =>r= .b (bz v)∧h' =h:=by
 refine aeB func81 61 [.tmp 2] fun hwf=>?_
 simp only[go_sem,aS];intro id hid;cases k1:(v.kind==1)
 case true=>
  have e1:v.kind=1:=aeD;cases d1:(v.n==0)<;>cases d2:(v.n==1)
  ·simp only[go_sem,k1,d1,d2]
   exact .mk _ (.refl _) (.aj hid) ⟨ahW,rfl⟩
  all_goals
   simp only[go_sem,k1,d1,d2];exact .mk _ (.refl _) (.aj hid) ⟨ahW,rfl⟩
 have n1:v.kind≠1:=aeD;cases k2:(v.kind==2)
 case true=>
  have e1:v.kind=2:=aeD;simp only[go_sem,k1,k2];exact .mk _ (.refl _) (.aj hid) ⟨ahW,rfl⟩
 have n2:v.kind≠2:=aeD;cases k3:(v.kind==3)
 case true=>
  have e1:v.kind=3:=aeD;cases d1:(v.n==0)
  all_goals
   simp only[go_sem,k1,k2,k3,d1];exact .mk _ (.refl _) (.aj hid) ⟨by simp[bz,e1,d1,ax]<;>omega,rfl⟩
 have n3:v.kind≠3:=aeD;cases k4:(v.kind==4)
 case true=>
  have e1:v.kind=4:=aeD;cases d1:decide (0≤v.n)<;>cases d2:decide (v.n≤1099511627776)
  all_goals
   simp only[go_sem,k1,k2,k3,k4,d1,d2];exact .mk _ (.refl _) (.aj hid) ⟨ahW,rfl⟩
 have n4:v.kind≠4:=aeD;cases k5:(v.kind==5)
 case true=>
  have e1:v.kind=5:=aeD;cases d1:(v.n==0)
  ·simp only[go_sem,k1,k2,k3,k4,k5,d1]
   exact .mk _ (.refl _) (.aj hid) ⟨ahW,rfl⟩
  ·simp only[go_sem,k1,k2,k3,k4,k5,d1]
   refine(pT _ _).pthen ?_;simp only[go_sem];exact .mk _ (.refl _) (.aj hid) ⟨ahW,rfl⟩
 have n5:v.kind≠5:=aeD;simp only[go_sem,k1,k2,k3,k4,k5];exact .mk _ (.refl _) (.aj hid) ⟨ahW,rfl⟩
theorem Nn(m:bP)(h:Heap):ai prog 309 [dV m] h fun r h' =>r= .b (lu m)∧h' =h:=by
 refine aeB func309 21 [.tmp 2] fun hwf=>?_
 simp only[go_sem,dV];intro id hid;simp only[go_sem];refine(HY m.attr _).pthen ?_;cases d0:qO m.attr
 ·simp only[go_sem]
  exact ajA
 cases d1:decide (1≤m.op)
 ·simp only[go_sem,d1]
  exact ajA
 cases d2:decide (m.op≤3)
 ·simp only[go_sem,d1,d2]
  exact ajA
 simp only[go_sem,d1,d2];refine(ga m.val _).pthen ?_;simp only[go_sem];exact ajA
theorem IG(n:Nat)(h:Heap):ai prog 293 [.i n] h fun r h' =>r= .i (kO n)∧h' =h:=by
 refine aeB func293 9 [.tmp 2] fun hwf=>?_
 cases d1:((n:Int)==0)
 case true=>
  simp only[go_sem,d1];exact .same (.refl _) ⟨by grind [kO,ax],rfl⟩
 cases d2:decide (8<(n:Int))
 ·have e2:¬n>8:=by grind
  exact akj
 ·have e2:n>8:=by grind
  exact akj
theorem Ex{n:Nat}(h:kO n=0):1≤n∧n≤8:=by grind [kO]
theorem LX(l:List bP)(h:Heap):ai prog 294 [jl l] h fun r h' =>r= .i (xH l)∧h' =h:=by
 refine aeB func294 22 [.tmp 2] fun hwf=>?_
 simp only[go_sem,jl,aes];refine(IG _ _).pthen ?_;cases d1:(kO l.length !=0)
 case true=>
  have e1:kO l.length≠0:=aeD;simp only[go_sem,d1];exact .same (.refl _) ⟨by grind [xH,ax],rfl⟩
 have e1:kO l.length=0:=aeD;have hlen:=Ex e1;simp only[go_sem,d1,aes];refine .intro (fun m ρ h' =>Ab.Sub h h'∧∃i:Nat,i≤l.length∧m=l.length - i∧(l.take i).all lu=true∧lk ρ 12=some (jl l)∧lk ρ 13=some (.i l.length)∧lk ρ 14=some (.i i)) l.length ?_ ?_
 ·refine⟨.refl _,0,aeC,rfl,rfl,?_,?_,?_⟩<;>simp only[go_sem,jl]
 ·rintro m ρ h' ⟨hs,i,hi,rfl,hc,r12,r13,r14⟩
  simp only[go_sem,r13,r14];refine .intro (fun e=>?_) (fun e=>?_)
  ·have hlt:i<l.length:=aez e
   have w1:IntKind.i64.wrap ((i:Int)+1)=((i+1:Nat):Int):=aeN;simp only[go_sem,r12,r14,jl];refine .at i aeD aeQ ?_;simp only[go_sem,aet,dV];intro id hid;simp only[go_sem];refine(Nn l[i] _).pthen ?_;cases d2:lu l[i]
   ·simp only[go_sem]
    refine .mk _ (.refl _) (hs.new hid _) ⟨?_,rfl⟩;have:l.all lu=false:=List.all_eq_false.2 ⟨_,aex hlt,aeD⟩;simp[xH,e1,this,ax]
   ·simp only[go_sem,r14,w1]
    refine⟨_,?_,hs.new hid _,i+1,aeC,rfl,?_,?_,?_,?_⟩
    ·omega
    ·grind [List.take_succ_eq_append_getElem]
    all_goals simp only[go_sem,r12,r13,jl]
  ·have hge:i=l.length:=by grind
   subst hge;rw[List.take_length]at hc;simp only[go_sem];exact .mk _ (.refl _) hs ⟨by grind [xH,ax],rfl⟩
theorem LZ(l:List (List bP))(h:Heap):ai prog 273 [cV l] h fun r h' =>r= .i (xI l)∧h' =h:=by
 refine aeB func273 25 [.tmp 2] fun hwf=>?_
 simp only[go_sem,cV,aes];refine(IG _ _).pthen ?_;cases d1:(kO l.length !=0)
 case true=>
  have e1:kO l.length≠0:=aeD;simp only[go_sem,d1];exact .same (.refl _) ⟨by grind [xI,ax],rfl⟩
 have e1:kO l.length=0:=aeD;have hlen:=Ex e1;simp only[go_sem,d1,aes];refine .intro (fun m ρ h' =>Ab.Sub h h'∧∃i:Nat,i≤l.length∧m=l.length - i∧iI xH (l.take i)=0∧lk ρ 13=some (cV l)∧lk ρ 14=some (.i l.length)∧lk ρ 15=some (.i i)) l.length ?_ ?_
 ·refine⟨.refl _,0,aeC,rfl,rfl,?_,?_,?_⟩<;>simp only[go_sem,cV]
 ·rintro m ρ h' ⟨hs,i,hi,rfl,hc,r12,r13,r14⟩
  simp only[go_sem,r13,r14];refine .intro (fun e=>?_) (fun e=>?_)
  ·have hlt:i<l.length:=aez e
   have w1:IntKind.i64.wrap ((i:Int)+1)=((i+1:Nat):Int):=aeN;simp only[go_sem,r12,r14,cV];refine .at i aeD aeQ ?_;simp only[go_sem,aet,jl];refine(LX l[i] _).pthen ?_;cases d2:(xH l[i] !=0)
   ·have e2:xH l[i]=0:=by grind
    simp only[go_sem,r14,d2,w1];refine⟨_,?_,hs,i+1,aeC,rfl,wL hlt hc e2,?_,?_,?_⟩
    ·omega
    all_goals simp only[go_sem,r12,r13,cV]
   ·have e2:xH l[i]≠0:=by grind
    simp only[go_sem,d2];refine .mk _ (.refl _) hs ⟨?_,rfl⟩
    grind [xI,Bi,ax]
  ·have hge:i=l.length:=by grind
   subst hge;rw[List.take_length]at hc;simp only[go_sem];exact .mk _ (.refl _) hs ⟨by grind [xI,ax],rfl⟩
theorem vX(l:gv)(h:Heap):ai prog 244 [aV l] h fun r h' =>r= .i (l9 l)∧h' =h:=by
 refine aeB func244 21 [.tmp 2] fun hwf=>?_
 cases d1:decide (8<(l.length:Int))
 case true=>
  have e1:8<l.length:=aeD;simp only[go_sem,aV,aes,d1];exact .same (.refl _) ⟨by grind [l9,ax],rfl⟩
 have e1:¬8<l.length:=aeD;simp only[go_sem,d1,aV,aes];refine .intro (fun m ρ h' =>Ab.Sub h h'∧∃i:Nat,i≤l.length∧m=l.length - i∧iI xI (l.take i)=0∧lk ρ 9=some (aV l)∧lk ρ 10=some (.i l.length)∧lk ρ 11=some (.i i)) l.length ?_ ?_
 ·refine⟨.refl _,0,aeC,rfl,rfl,?_,?_,?_⟩<;>simp only[go_sem,aV]
 ·rintro m ρ h' ⟨hs,i,hi,rfl,hc,r12,r13,r14⟩
  simp only[go_sem,r13,r14];refine .intro (fun e=>?_) (fun e=>?_)
  ·have hlt:i<l.length:=aez e
   have w1:IntKind.i64.wrap ((i:Int)+1)=((i+1:Nat):Int):=aeN;simp only[go_sem,r12,r14,aV];refine .at i aeD aeQ ?_;simp only[go_sem,aet,cV];refine(LZ l[i] _).pthen ?_;cases d2:(xI l[i] !=0)
   ·have e2:xI l[i]=0:=by grind
    simp only[go_sem,r14,d2,w1];refine⟨_,?_,hs,i+1,aeC,rfl,wL hlt hc e2,?_,?_,?_⟩
    ·omega
    all_goals simp only[go_sem,r12,r13,aV]
   ·have e2:xI l[i]≠0:=by grind
    simp only[go_sem,d2];refine .mk _ (.refl _) hs ⟨?_,rfl⟩
    grind [l9,Bi,ax]
  ·have hge:i=l.length:=by grind
   subst hge;rw[List.take_length]at hc;simp only[go_sem];exact .mk _ (.refl _) hs ⟨by grind [l9,ax],rfl⟩
theorem CO(l:List cB)(h:Heap):ai prog 245 [ay l] h fun r h' =>r= .i (iM l)∧h' =h:=by
 refine aeB func245 39 [.tmp 2] fun hwf=>?_
 cases d1:decide (8<(l.length:Int))
 case true=>
  have e1:8<l.length:=aeD;simp only[go_sem,ay,aes,d1];exact .same (.refl _) ⟨by grind [iM,ax],rfl⟩
 have e1:¬8<l.length:=aeD;simp only[go_sem,d1,ay,aes];refine .intro (fun m ρ h' =>Ab.Sub h h'∧∃i:Nat,i≤l.length∧m=l.length - i∧(l.take i).all rC=true∧lk ρ 8=some (ay l)∧lk ρ 9=some (.i l.length)∧lk ρ 10=some (.i i)) l.length ?_ ?_
 ·refine⟨.refl _,0,aeC,rfl,rfl,?_,?_,?_⟩<;>simp only[go_sem,ay]
 ·rintro m ρ h' ⟨hs,i,hi,rfl,hc,r12,r13,r14⟩
  simp only[go_sem,r13,r14];refine .intro (fun e=>?_) (fun e=>?_)
  ·have hlt:i<l.length:=aez e
   have w1:IntKind.i64.wrap ((i:Int)+1)=((i+1:Nat):Int):=aeN;simp only[go_sem,r12,r14,ay];refine .at i aeD aeQ ?_;simp only[go_sem,aet,bl];intro id hid;have bad:rC l[i]=false→iM l=1:=fun hb=>by
    have:l.all rC=false:=List.all_eq_false.2 ⟨_,aex hlt,aeD⟩;simp[iM,e1,this]
   cases c1:decide (l[i].on<1)
   case true=>
    simp only[go_sem,c1];exact .mk _ (.refl _) (hs.new hid _) ⟨by rw[bad (by have:=aeu c1;simp[rC];omega)];rfl,rfl⟩
   cases c2:decide (2<l[i].on)
   case true=>
    simp only[go_sem,c1,c2];exact .mk _ (.refl _) (hs.new hid _) ⟨by rw[bad (by have:=aeu c2;simp[rC];omega)];rfl,rfl⟩
   cases c3:decide (l[i].kind<1)
   case true=>
    simp only[go_sem,c1,c2,c3];exact .mk _ (.refl _) (hs.new hid _) ⟨by rw[bad (by have:=aeu c3;simp[rC];omega)];rfl,rfl⟩
   cases c4:decide (4<l[i].kind)
   case true=>
    simp only[go_sem,c1,c2,c3,c4];exact .mk _ (.refl _) (hs.new hid _) ⟨by rw[bad (by have:=aeu c4;simp[rC];omega)];rfl,rfl⟩
   simp only[go_sem,c1,c2,c3,c4];refine(pT _ _).pthen ?_;cases d2:bp l[i].arg
   ·simp only[go_sem]
    exact .mk _ (.refl _) (hs.new hid _) ⟨by rw[bad (by grind [rC])];rfl,rfl⟩
   ·simp only[go_sem,r14,w1]
    refine⟨_,?_,hs.new hid _,i+1,aeC,rfl,?_,?_,?_,?_⟩
    ·omega
    ·grind [aev,List.take_succ_eq_append_getElem,rC]
    all_goals simp only[go_sem,r12,r13,ay]
  ·have hge:i=l.length:=by grind
   subst hge;rw[List.take_length]at hc;simp only[go_sem];exact .mk _ (.refl _) hs ⟨by grind [iM,ax],rfl⟩
theorem OK(op:Int)(h:Heap):ai prog 295 [.i op] h fun r h' =>r=(match iT op with
  |none=> .tup [.sl [] .no,.b false]
  |some w=> .tup [.sl (w.map j4) .no,.b true])∧h' =h:=by
 refine aeB func295 35 [.tmp 2,.tmp 3] fun hwf=>?_
 cases k1:(op==1)
 case true=>
  have e1:op=1:=aeD;simp only[go_sem,k1];exact .mk _ (fM _) (.refl _) ⟨ah1,rfl⟩
 have n1:op≠1:=aeD;cases k2:(op==2)
 case true=>
  have e1:op=2:=aeD;simp only[go_sem,k1,k2];exact .mk _ (fM _) (.refl _) ⟨ah1,rfl⟩
 have n2:op≠2:=aeD;cases k3:(op==3)
 case true=>
  have e1:op=3:=aeD;simp only[go_sem,k1,k2,k3];exact .mk _ (fM _) (.refl _) ⟨agQ,rfl⟩
 have n3:op≠3:=aeD;cases k4:(op==4)
 case true=>
  have e1:op=4:=aeD;simp only[go_sem,k1,k2,k3,k4];exact .mk _ (fM _) (.refl _) ⟨agQ,rfl⟩
 have n4:op≠4:=aeD;cases k5:(op==5)
 case true=>
  have e1:op=5:=aeD;simp only[go_sem,k1,k2,k3,k4,k5];exact .mk _ (fM _) (.refl _) ⟨agQ,rfl⟩
 have n5:op≠5:=aeD;cases k11:(op==11)
 case true=>
  have e1:op=11:=aeD;simp only[go_sem,k1,k2,k3,k4,k5,k11];exact .mk _ (fM _) (.refl _) ⟨agQ,rfl⟩
 have n11:op≠11:=aeD;cases k6:decide (6≤op)
 ·have n6:=aev k6
  simp only[go_sem,k1,k2,k3,k4,k5,k11,k6];exact .mk _ (fM _) (.refl _) ⟨ah1,rfl⟩
 cases k13:decide (op≤13)
 ·have n13:=aev k13
  simp only[go_sem,k1,k2,k3,k4,k5,k11,k6,k13];exact .mk _ (fM _) (.refl _) ⟨ah1,rfl⟩
 have n6:=aeu k6;have n13:=aeu k13;simp only[go_sem,k1,k2,k3,k4,k5,k11,k6,k13];exact .mk _ (fM _) (.refl _) ⟨agQ,rfl⟩
theorem JU(n:aR)(h:Heap):ai prog 296 [dL n] h fun r h' =>r= .b (j6 n)∧h' =h:=by
 refine aeB func296 37 [.tmp 2] fun hwf=>?_
 simp only[go_sem,dL];intro id hid;have fa:∀x y z:Bool,(x && (y && (z && true)))=(x && (y && (z && true))):=fun _ _ _=>rfl
 cases k1:(n.op==1)
 case true=>
  have e1:n.op=1:=aeD;simp only[go_sem,k1];refine(ga n.val _).pthen ?_;cases d0:bz n.val
  ·simp only[go_sem]
   exact aj2
  ·simp only[go_sem]
   exact .mk _ (.refl _) (.aj hid) ⟨by grind [j6,ax,zeroAt],rfl⟩
 have n1:n.op≠1:=aeD;cases k2:(n.op==2)
 case true=>
  have e1:n.op=2:=aeD;simp only[go_sem,k1,k2];refine(HY n.attr _).pthen ?_;cases d0:qO n.attr
  ·simp only[go_sem]
   exact aj2
  ·simp only[go_sem]
   exact .mk _ (.refl _) (.aj hid) ⟨by grind [j6,ax,zeroV],rfl⟩
 have n2:n.op≠2:=aeD;cases d0:zeroV n.val
 ·have d1:=d0
  unfold zeroV at d1;simp only[go_sem,k1,k2,d1];exact aj2
 ·have d1:=d0
  unfold zeroV at d1;simp only[go_sem,k1,k2,d1];exact .mk _ (.refl _) (.aj hid) ⟨by grind [j6,ax,zeroAt],rfl⟩
theorem u4:(U 4).sz=1:=aeR
theorem u4a:(U 4).k.agg=false:=aeR
theorem u4b:(U 4).bytes=1:=aeR
theorem u4f:fit (U 4).zero 1:=aeM
theorem u4n:bA (U 4).zero=false:=aeR
theorem HZ(l:List Bool):One (l.map j4):=One.map (fun _=>rfl) l
theorem QJ(y:AV)(st:List Bool)(n:aR)(h0 h:Heap)(hy:WrA 4 h0 h y (st.map j4))(hl:st.length≤1000000):
  ai prog 274 [y,dL n] h fun r h' =>∃z,r= .tup [z,.v (.bool (iS st n).isSome)]∧match iS st n with
   |none=>Ab.Sub h0 h'
   |some st' =>WrA 4 h0 h' z (st'.map j4):=by
 refine aeB func274 60 [.tmp 4,.tmp 5] fun hwf=>?_
 simp only[go_sem,dL];intro id hid;simp only[go_sem];have hyb:=hy.base hid (some (.obj [.i n.op,.i n.val.kind,.i n.val.n,.s n.val.s,.i n.attr.cat,.s n.attr.name,.b n.attr.must] 218));have hw:=OK n.op (upd h id (some (.obj [.i n.op,.i n.val.kind,.i n.val.n,.s n.val.s,.i n.attr.cat,.s n.attr.name,.b n.attr.must] 218)));cases hwd:iT n.op with
 |none=>
  rw[hwd]at hw;have hst:iS st n=none:=by grind [iS]
  refine hw.pthen ?_;exact akt
 |some w=>
  rw[hwd]at hw;have hwl:w.length≤2:=by
   grind [iT]
  refine hw.pthen ?_;simp only[go_sem];refine(JU n _).pthen ?_;cases d1:j6 n
  ·have hst:iS st n=none:=by grind [iS]
   exact akt
  cases d2:decide ((st.length:Int)<(w.length:Int))
  case true=>
   have e2:¬w.length≤st.length:=aeD;have hst:iS st n=none:=by grind [iS]
   simp only[go_sem,hyb.len,aes,d2];exact .mk _ (.refl _) (.aj hid) ⟨_,aiB,ail⟩
  have e2:w.length≤st.length:=aeD;have w1:IntKind.i64.wrap ((st.length:Int) - (w.length:Int))=((st.length - w.length:Nat):Int):=aeN;obtain⟨hb,ehb⟩:∃hb,upd h id (some (.obj [.i n.op,.i n.val.kind,.i n.val.n,.s n.val.s,.i n.attr.cat,.s n.attr.name,.b n.attr.must] 218))=hb:=⟨_,rfl⟩;have hbid:hb id=some (.obj [.i n.op,.i n.val.kind,.i n.val.n,.s n.val.s,.i n.attr.cat,.s n.attr.name,.b n.attr.must] 218):=ah2;have hsub:Ab.Sub h hb:=by rw[←ehb];exact .aj hid
  rw[ehb]at hyb⊢;simp only[go_sem,hyb.len,aes,d2,w1];refine .intro (fun m ρ h' =>h' =hb∧∃i:Nat,i≤w.length∧m=w.length - i∧(∀j,j<i→st[st.length - w.length+j]? =w[j]?)∧lk ρ 0=some y∧lk ρ 3=some (.ptr id 0)∧lk ρ 8=some (.i ((st.length - w.length:Nat):Int))∧lk ρ 36=some (.sl (w.map j4) .no)∧lk ρ 37=some (.i w.length)∧lk ρ 38=some (.i i)) w.length ?_ ?_
  ·refine⟨rfl,0,aeC,rfl,fun j hj=>aeC,?_,?_,?_,?_,?_,?_⟩<;>simp only[go_sem]
  ·rintro m ρ h' ⟨rfl,i,hi,rfl,hc,r0,r3,r8,r36,r37,r38⟩
   simp only[go_sem,r37,r38];refine .intro (fun e=>?_) (fun e=>?_)
   ·have hlt:i<w.length:=aez e
    have w2:IntKind.i64.wrap ((i:Int)+1)=((i+1:Nat):Int):=aeN;have w3:IntKind.i64.wrap (((st.length - w.length:Nat):Int)+(i:Int))=((st.length - w.length+i:Nat):Int):=aeN;have hlt2:st.length - w.length+i<st.length:=aeC;simp only[go_sem,r36,r38];refine .at i aeD aeQ ?_;simp only[go_sem,r0,r8,aet,j4,w3];refine hyb.idx (HZ st) (st.length - w.length+i) rfl aeD u4 u4a fun p hp=>?_
    simp only[go_sem,hp _,aet,j4];cases d3:(st[st.length - w.length+i]==w[i])
    ·have hst:iS st n=none:=by
      have:st.drop (st.length - w.length)≠w:=fun hh=>by
       grind
      simp[iS,hwd,this]
     simp only[go_sem];exact .mk _ (.refl _) hsub ⟨_,aiB,ail⟩
    ·simp only[go_sem,r38,w2]
     refine⟨_,?_,rfl,i+1,aeC,rfl,fun j hj=>?_,?_,?_,?_,?_,?_,?_⟩
     ·omega
     ·grind
     all_goals simp only[go_sem,r0,r3,r8,r36,r37]
   ·have hge:i=w.length:=by grind
    subst hge;have hdrop:st.drop (st.length - w.length)=w:=by
     apply List.ext_getElem?
     grind
    have hst:iS st n=some (st.take (st.length - w.length)++ [n.op==2]):=by
     grind [iS]
    simp only[go_sem];refine .calls (hm1 id _) [0,1,2,3,4,5,6,7,8,9] (.hm1 hbid) aeF rfl ?_;simp only[go_sem,r0,r8];refine hyb.cut (x:=.i64) (st.length - w.length) aeR rfl aeJ u4 fun z hz=>?_
    rw[←List.map_take]at hz;simp only[go_sem,r3,gy];refine hz.app (zs:=[.b (n.op==2)]) (HZ _) (HZ [n.op==2]) u4 aeG u4f u4n (fun k hk=>hk) (by grind [u4b]) fun z' h2 hz' =>?_
    refine⟨fun j b hj=>((Sub.hm1 (ah ..)).trans hz'.1) j b hj,?_⟩
    simp only[go_sem];have hz2:=hz'.less (Sub.aj (hy.1.none hid));refine .same (.refl _) ⟨z',aiB,?_⟩;rw[hst];simp only[List.map_append];exact hz2
theorem F1{l:List aR}(h:l.length≤32)(hs:gh [] l=none):kN l=1:=by grind [kN,Nat.not_lt]
theorem kG(st:List Bool):∀(l:List aR) (i:Nat),gh st l=(match gh st (l.take i)with
  |none=>none
  |some st' =>gh st' (l.drop i))
 | [],i=>by simp[gh]
 |n::r,0=>aeR
 |n::r,i+1=>by
  simp only[List.take_succ_cons,List.drop_succ_cons,gh];cases iS st n with
  |none=>rfl
  |some st' =>simp only;exact kG st' r i
theorem sN(st st' :List Bool)(l:List aR)(h:gh st l=some st'):st'.length≤st.length+l.length:=by
 induction l generalizing st with
 |nil=>grind [gh,Option.some.injEq]
 |cons n r ih=>
  simp only[gh]at h;cases hs:iS st n with
  |none=>grind
  |some s2=>
   grind [iS]
theorem Ik(l:List aR)(h:Heap):ai prog 246 [fH l] h fun r h' =>r= .i (kN l)∧h' =h:=by
 refine aeB func246 38 [.tmp 2] fun hwf=>?_
 cases d1:decide (32<(l.length:Int))
 case true=>
  have e1:32<l.length:=aeD;simp only[go_sem,fH,aes,d1];exact .same (.refl _) ⟨by grind [kN,ax],rfl⟩
 have e1:l.length≤32:=aeD;simp only[go_sem,fH,aes,d1];refine .intro (fun m ρ h' =>∃(i:Nat) (y:AV) (st:List Bool),WrA 4 h h' y (st.map j4)∧gh [] (l.take i)=some st∧i≤l.length∧m=l.length - i∧
  lk ρ 0=some (fH l)∧lk ρ 3=some y∧lk ρ 10=some (fH l)∧lk ρ 11=some (.i l.length)∧lk ρ 12=some (.i i)) l.length ?_ ?_
 ·refine⟨0,_,[],.nil (.refl _),rfl,aeC,rfl,?_,?_,?_,?_,?_⟩<;>simp only[go_sem,fH]
 ·rintro m ρ h' ⟨i,y,st,hy,hst,hi,rfl,r0,r3,r10,r11,r12⟩
  have hsl:=sN _ _ _ hst;have hsl:st.length≤i:=aeD;simp only[go_sem,r11,r12];refine .intro (fun e=>?_) (fun e=>?_)
  ·have hlt:i<l.length:=aez e
   have w1:IntKind.i64.wrap ((i:Int)+1)=((i+1:Nat):Int):=aeN;have hnx:gh [] (l.take (i+1))=iS st l[i]:=by
    rw[kG [] _ i,List.take_take,Nat.min_eq_left aeC,hst,List.take_succ_eq_append_getElem hlt,List.drop_append_of_le_length aeD,List.drop_of_length_le aeD]
    grind [gh,iS]
   simp only[go_sem,r10,r12,fH];refine .at i aeD aeQ ?_;simp only[go_sem,aet,dL];intro id hid;simp only[go_sem,r3];have hyb:=hy.sub (Sub.aj (k:=some (.obj [.i l[i].op,.i l[i].val.kind,.i l[i].val.n,.s l[i].val.s,.i l[i].attr.cat,.s l[i].attr.name,.b l[i].attr.must] 218)) hid);refine(QJ y st l[i] h _ hyb aeC).mono fun r h2 ⟨z,e2,hz⟩=>?_
   subst e2;cases hsd:iS st l[i]with
   |none=>
    rw[hsd]at hz;simp only[go_sem,Option.isSome_none];refine .mk _ (.refl _) hz ⟨?_,rfl⟩;rw[F1 e1 (by rw[kG [] l (i+1),hnx,hsd])];rfl
   |some st' =>
    rw[hsd]at hz hnx;simp only[go_sem,r12,Option.isSome_some,w1];refine⟨_,?_,i+1,z,st',hz,hnx,aeC,rfl,?_,?_,?_,?_,?_⟩
    ·omega
    all_goals simp only[go_sem,r0,r10,r11,fH]
  ·have hge:i=l.length:=by grind
   subst hge;rw[List.take_length]at hst;have he:kN l=if l= []∨st= [false]then 0 else 1:=by
    simp_all [kN,if_neg]
   cases d2:decide (0<(l.length:Int))
   ·have e2:l= []:=by simp_all
    simp only[go_sem,r0,fH,aes,d2];exact .mk _ (.refl _) hy.1 ⟨by rw[he,if_pos (.inl e2)];rfl,rfl⟩
   have e2:l≠ []:=aeD;cases d3:((st.length:Int) !=1)
   case true=>
    have e3:st≠ [false]:=aeD;simp only[go_sem,r0,r3,fH,aes,d2,hy.len,d3];exact .mk _ (.refl _) hy.1 ⟨by rw[he,if_neg aeD];rfl,rfl⟩
   have e3:st.length=1:=by
    grind
   obtain⟨b,rfl⟩:=List.length_eq_one_iff.1 e3;simp only[go_sem,r0,r3,fH,aes,d2,hy.len];refine hy.idx (HZ [b]) 0 rfl aeJ u4 u4a fun p hp=>?_
   simp only[go_sem,hp _,j4,List.getElem_cons_zero];cases b
   ·simp only[go_sem]
    exact .mk _ (.refl _) hy.1 ⟨by rw[he,if_pos (.inr rfl)];rfl,rfl⟩
   ·simp only[go_sem]
    exact .mk _ (.refl _) hy.1 ⟨by rw[he,if_neg aeD];rfl,rfl⟩
end Go.Proofs.YtelkmnkejghkeaaGreatDoor
namespace Go.Bf
open Go Go.Ab
theorem P9(xs:List Txt)(B:Nat)(h:∀x∈xs,x.length≤B):Lib.lens xs≤xs.length*B:=by
 induction xs with
 |nil=>simp[Lib.lens]
 |cons x r ih=>
  have h1:=h x aeJ;have h2:=ih fun y hy=>h y aeD
  simp only[Lib.lens,List.map_cons,List.sum_cons,List.length_cons,Nat.add_mul,Nat.one_mul]at h2⊢;omega
theorem Gh(xs:List Txt)(n B:Nat)(hn:xs.length≤n)(h:∀x∈xs,x.length≤B):xs.flatten.length≤n*B:=by
 have h2:=P9 xs B h;have h3:xs.length*B≤n*B:=Nat.mul_le_mul_right _ hn;have h4:xs.flatten.length=Lib.lens xs:=by rw[List.length_flatten];rfl
 omega
theorem BA{s:Txt}(h:bp s=true):s.length≤16:=by grind [bp]
theorem BL(l:Txt)(h:l.length≤64):(oN l).length≤194:=by
 have:=Gh (l.map oL) 64 3 aeD fun x hx=>by
  grind [oL]
 unfold oN;simp only[aew,List.length_cons,List.length_nil];omega
theorem QZ{v:bu}(h:bz v=true)(h1: -9223372036854775808≤v.n)(h2:v.n≤9223372036854775807):(kM v).length≤194:=by
 have hi:=Lib.itoa_length_le v.n h1 h2;unfold kM;unfold bz at h;split
 ·cases (v.n==1)<;>decide
 split
 ·simp only[aew,List.length_cons,List.length_nil];omega
 split
 ·rename_i k5
  simp only[k5]at h;simp at h;have:=BA h.2;simp only[aew,List.length_cons,List.length_nil];omega
 split
 ·rename_i k3
  simp only[k3]at h;simp at h;exact BL _ h.2
 ·omega
theorem kX{l:List cB}(h:iM l=0):l.length≤8∧∀o∈l,rC o=true:=by grind [iM,List.all_eq_true]
theorem zx{n:Nat}(h:kO n=0):0<n∧n≤8:=by grind [kO]
theorem wM{α:Type}{f:α→Int}{l:List α}(h:iI f l=0):∀x∈l,f x=0:=by
 induction l with
 |nil=>simp
 |cons y r ih=>
  simp only[iI]at h
  grind
theorem A3{l:List bP}(h:xH l=0):0<l.length∧l.length≤8∧∀m∈l,lu m=true:=by
 unfold xH at h;split at h
 ·simp_all [zx,List.all_eq_true]
 omega
theorem A4{l:List (List bP)}(h:xI l=0):0<l.length∧l.length≤8∧∀m∈l,xH m=0:=by
 unfold xI at h;split at h
 ·rename_i hm
  have:=zx hm;exact⟨this.1,this.2,wM h⟩
 omega
theorem BX{l:gv}(h:l9 l=0):l.length≤8∧∀m∈l,xI m=0:=by grind [l9,wM]
def inV(v:bu):Prop:= -9223372036854775808≤v.n∧v.n≤9223372036854775807
def inA(l:List bP):Prop:=∀m∈l,inV m.val
def inY(l:List (List bP)):Prop:=∀a∈l,inA a
def inT(t:gv):Prop:=∀a∈t,inY a
def inL(l:List aR):Prop:=∀n∈l,inV n.val
def inR(r:cQ):Prop:=inT r.tgt∧inL r.cond
mutual
def inP:bD→Prop
 |.mk id set alg tgt rules kids obls=>inT tgt∧(∀r∈rules,inR r)∧inK kids
def inK:List bD→Prop
 | []=>True
 |k::r=>inP k∧inK r
end
theorem S5:∀l:List bD,inK l↔∀k∈l,inP k
 | []=>by simp[inK]
 |k::r=>by simp[inK,S5 r]
theorem yQ{l:List aR}(h:kN l=0)(hn:l≠ []):l.length≤32∧gh [] l=some [false]:=by grind [kN]
def Fa(r:cQ):Prop:=bp r.id=true∧l9 r.tgt=0∧kN r.cond=0∧iM r.obls=0
mutual
def mM(d:Nat):bD→Prop
 |.mk id set alg tgt rules kids obls=>d≤4∧bp id=true∧1≤alg∧alg≤6∧(set=true→rules= [])∧(set=false→kids= []∧alg≠4)∧l9 tgt=0∧iM obls=0∧rules.length≤16∧kids.length≤16∧(∀r∈rules,Fa r)∧wY (d+1) kids
def wY(d:Nat):List bD→Prop
 | []=>True
 |k::r=>mM d k∧wY d r
end
theorem ru(d:Nat):∀l:List bD,wY d l↔∀k∈l,mM d k
 | []=>by simp[wY]
 |k::r=>by simp[wY,ru d r]
theorem zy{m m' :eP}{s:Txt}(h:jz m s=some m'):bp s=true:=by grind [jz]
theorem rA{e:Int}{w:Went}{m:eP}(h:need e w= .ok m):e=0∧w= .ok m:=by grind [need]
theorem N4{m m' :eP}{r:cQ}(h:gF m r= .ok m'):Fa r:=by
 unfold gF at h;split at h
 ·cases h
 ·rename_i m1 hm
  split at h
  ·cases h
  ·obtain⟨h1,h⟩:=rA h
   obtain⟨h2,h⟩:=rA h;obtain⟨h3,h⟩:=rA h;exact⟨zy hm,h1,h2,h3⟩
theorem BT:∀(l:List cQ) (m m' :eP),fK m l= .ok m'→∀r∈l,Fa r
 | [],_,_,_,r,hr=>aeD
 |x::l,m,m',h,r,hr=>by
  simp only[fK]at h;cases hx:gF m x with
  |bad e=>grind
  |ok m1=>
   rw[hx]at h;rcases List.mem_cons.1 hr with rfl|hr
   ·exact N4 hx
   ·exact BT l m1 m' h r hr
theorem Kl{m m1:eP}{id:Txt}{set:Bool}{alg:Int}{tgt:gv}{nr nk:Nat}{obls:List cB}(h:fA m id set alg tgt nr nk obls= .ok m1):
  jz m id=some m1∧1≤alg∧alg≤6∧(set=true→nr=0)∧(set=false→nk=0∧alg≠4)∧l9 tgt=0∧iM obls=0∧nr≤16∧nk≤16:=by
 unfold fA at h;split at h
 ·cases h
 split at h
 ·cases h
 split at h
 ·cases h
 obtain⟨h3,h⟩:=rA h;obtain⟨h4,h⟩:=rA h
 grind
mutual
theorem IX:∀(p:bD) (d:Nat) (m m' :eP),kY m d p= .ok m'→mM d p
 |.mk id set alg tgt rules kids obls,d,m,m',h=>by
  simp only[kY]at h;split at h
  ·cases h
  rename_i hd
  split at h
  ·cases h
  rename_i m1 h1
  split at h
  ·cases h
  rename_i m2 h2
  obtain⟨g1,g2,g3,g4,g5,g6,g7,g8,g9⟩:=Kl h1;simp only[mM];exact⟨aeC,zy g1,g2,g3,fun e=>List.length_eq_zero_iff.1 (g4 e),fun e=>⟨List.length_eq_zero_iff.1 (g5 e).1,(g5 e).2⟩,g6,g7,g8,g9,BT _ _ _ h2,El kids (d+1) m2 m' h⟩
theorem El:∀(l:List bD) (d:Nat) (m m' :eP),jg m d l= .ok m'→wY d l
 | [],_,_,_,_=>by simp[wY]
 |k::r,d,m,m',h=>by
  simp only[jg]at h;split at h
  ·cases h
  rename_i m1 h1
  simp only[wY];exact⟨IX k d m m1 h1,El r d m1 m' h⟩
end
end Go.Bf
namespace Go.Proofs.YtelkmnkejghkeaaGreatDoor
open Go Go.Ab Go.Bf Tryz
def Quoted:Prop:=∀(s:Txt) (h:Heap),s.length≤64→ai prog 130 [.s s] h fun r h' =>r= .s (oN s)∧h' =h
def Al(v:bu):Txt:=if bz v then Bf.kM v else []
theorem OJ(Q:Quoted)(v:bu)(hi:inV v)(h:Heap)(ht:xF h):ai prog 70 [aS v] h fun r h' =>r= .s (Al v)∧h' =h:=by
 refine aeB func70 33 [.tmp 2] fun hwf=>?_
 simp only[go_sem,aS];intro id hid;have ht2:xF (upd h id (some (.obj [.i v.kind,.i v.n,.s v.s] 48))):=ht.sub (.aj hid);simp only[go_sem];refine(ga v _).pthen ?_;cases d1:bz v
 ·simp only[go_sem,d1]
  exact .mk _ (.refl _) (.aj hid) ⟨by grind [Al,ax],rfl⟩
 have hl:lim=9223372036854775808:=rfl;have hil:=Lib.itoa_length_le v.n hi.1 hi.2;cases k1:(v.kind==1)
 case true=>
  have e1:v.kind=1:=aeD;simp only[go_sem,d1,k1];refine(MG _ _).pthen ?_;exact ajD
 have e1:v.kind≠1:=aeD;cases k4:(v.kind==4)
 case true=>
  have e4:v.kind=4:=aeD;simp only[go_sem,d1,k1,k4];refine(nY _ _ hi ht2).pthen ?_;have c1:0+1+(Lib.itoa v.n).length<lim:=aeC;simp only[go_sem,c1];exact .mk _ (.refl _) (.aj hid) ⟨ahI,rfl⟩
 have e4:v.kind≠4:=aeD;cases k5:(v.kind==5)
 case true=>
  have e5:v.kind=5:=aeD;have hn:v.s.length≤16:=by
   grind [bz,BA]
  have c1:0+1+v.s.length<lim:=aeC;simp only[go_sem,d1,k1,k4,k5,c1];exact .mk _ (.refl _) (.aj hid) ⟨ahI,rfl⟩
 have e5:v.kind≠5:=aeD;cases k3:(v.kind==3)
 case true=>
  have e3:v.kind=3:=aeD;have hn:v.s.length≤64:=by
   grind [bz]
  simp only[go_sem,d1,k1,k4,k5,k3];refine(Q _ _ hn).pthen ?_;exact ajD
 have e3:v.kind≠3:=aeD;simp only[go_sem,d1,k1,k4,k5,k3];refine(nY _ _ hi ht2).pthen ?_;exact ajD
end Go.Proofs.YtelkmnkejghkeaaGreatDoor
namespace Go.Proofs
open Go.Shelf
def Tryz.xg:Go.Shelf.Ren:=⟨fun|166=>178|167=>177|169=>179|240=>228|276=>265|n=>n,fun|31=>22|72=>269|76=>160|70=>267|37=>76|75=>159|127=>317|164=>352|80=>233|n=>n,fun|n=>n⟩
theorem Tryz.P0:Go.Proofs.Lays.n167 Tryz.prog Tryz.xg:={
 mixed:=aeF
 f167:=Tryz.func177.trans (congrArg some aeF)
 f240:=Tryz.func228.trans (congrArg some aeF)
 f276:=Tryz.func265.trans (congrArg some aeF)
 t0:=Tryz.underlying0
 a0:=Tryz.isAgg0
 z0:=Tryz.sizeOf0
 v0:=Tryz.zeroValue0
 t4:=Tryz.underlying4
 a4:=Tryz.isAgg4
 z4:=Tryz.sizeOf4
 v4:=Tryz.zeroValue4
 t5:=Tryz.underlying5
 a5:=Tryz.isAgg5
 z5:=Tryz.sizeOf5
 v5:=Tryz.zeroValue5
 t9:=Tryz.underlying9
 a9:=Tryz.isAgg9
 z9:=Tryz.sizeOf9
 v9:=Tryz.zeroValue9
 t20:=Tryz.underlying20
 a20:=Tryz.isAgg20
 z20:=Tryz.sizeOf20
 v20:=Tryz.zeroValue20
 t37:=Tryz.underlying76
 a37:=Tryz.isAgg76
 z37:=Tryz.sizeOf76
 v37:=Tryz.zeroValue76
 t70:=Tryz.underlying267
 a70:=Tryz.isAgg267
 z70:=Tryz.sizeOf267
 v70:=Tryz.zeroValue267
 t72:=Tryz.underlying269
 a72:=Tryz.isAgg269
 z72:=Tryz.sizeOf269
 v72:=Tryz.zeroValue269
 t75:=Tryz.underlying159
 a75:=Tryz.isAgg159
 z75:=Tryz.sizeOf159
 v75:=Tryz.zeroValue159
 t164:=Tryz.underlying352
 a164:=Tryz.isAgg352
 z164:=Tryz.sizeOf352
 v164:=Tryz.zeroValue352
}
def Tryz.xe:Go.Shelf.Ren:=⟨fun|166=>178|167=>177|169=>179|240=>228|276=>265|n=>n,fun|31=>22|72=>269|76=>160|70=>267|37=>76|75=>159|127=>317|164=>352|80=>233|n=>n,fun|n=>n⟩
theorem Tryz.PZ:Go.Proofs.Lays.n166 Tryz.prog Tryz.xe:={
 mixed:=aeF
 f166:=Tryz.func178.trans (congrArg some aeF)
 f240:=Tryz.func228.trans (congrArg some aeF)
 f276:=Tryz.func265.trans (congrArg some aeF)
 t0:=Tryz.underlying0
 a0:=Tryz.isAgg0
 z0:=Tryz.sizeOf0
 v0:=Tryz.zeroValue0
 t3:=Tryz.underlying3
 a3:=Tryz.isAgg3
 z3:=Tryz.sizeOf3
 v3:=Tryz.zeroValue3
 t4:=Tryz.underlying4
 a4:=Tryz.isAgg4
 z4:=Tryz.sizeOf4
 v4:=Tryz.zeroValue4
 t9:=Tryz.underlying9
 a9:=Tryz.isAgg9
 z9:=Tryz.sizeOf9
 v9:=Tryz.zeroValue9
 t20:=Tryz.underlying20
 a20:=Tryz.isAgg20
 z20:=Tryz.sizeOf20
 v20:=Tryz.zeroValue20
 t37:=Tryz.underlying76
 a37:=Tryz.isAgg76
 z37:=Tryz.sizeOf76
 v37:=Tryz.zeroValue76
 t70:=Tryz.underlying267
 a70:=Tryz.isAgg267
 z70:=Tryz.sizeOf267
 v70:=Tryz.zeroValue267
 t72:=Tryz.underlying269
 a72:=Tryz.isAgg269
 z72:=Tryz.sizeOf269
 v72:=Tryz.zeroValue269
 t75:=Tryz.underlying159
 a75:=Tryz.isAgg159
 z75:=Tryz.sizeOf159
 v75:=Tryz.zeroValue159
 t164:=Tryz.underlying352
 a164:=Tryz.isAgg352
 z164:=Tryz.sizeOf352
 v164:=Tryz.zeroValue352
}
def Tryz.xh:Go.Shelf.Ren:=⟨fun|166=>178|167=>177|169=>179|240=>228|276=>265|n=>n,fun|31=>22|72=>269|76=>160|70=>267|37=>76|75=>159|127=>317|164=>352|80=>233|n=>n,fun|n=>n⟩
theorem Tryz.P4:Go.Proofs.Lays.n169 Tryz.prog Tryz.xh:={
 mixed:=aeF
 f169:=Tryz.func179.trans (congrArg some aeF)
 t0:=Tryz.underlying0
 a0:=Tryz.isAgg0
 z0:=Tryz.sizeOf0
 v0:=Tryz.zeroValue0
 t3:=Tryz.underlying3
 a3:=Tryz.isAgg3
 z3:=Tryz.sizeOf3
 v3:=Tryz.zeroValue3
 t9:=Tryz.underlying9
 a9:=Tryz.isAgg9
 z9:=Tryz.sizeOf9
 v9:=Tryz.zeroValue9
 t37:=Tryz.underlying76
 a37:=Tryz.isAgg76
 z37:=Tryz.sizeOf76
 v37:=Tryz.zeroValue76
 t70:=Tryz.underlying267
 a70:=Tryz.isAgg267
 z70:=Tryz.sizeOf267
 v70:=Tryz.zeroValue267
 t72:=Tryz.underlying269
 a72:=Tryz.isAgg269
 z72:=Tryz.sizeOf269
 v72:=Tryz.zeroValue269
 t127:=Tryz.underlying317
 a127:=Tryz.isAgg317
 z127:=Tryz.sizeOf317
 v127:=Tryz.zeroValue317
}
theorem Tryz.tL:Builder.Extra Tryz.prog Tryz.xg where
 sizeBuilder:=aeF
 liesBuilder:=aeF
 t5:=Tryz.underlying5
 a5:=Tryz.isAgg5
 z5:=Tryz.sizeOf5
 v5:=Tryz.zeroValue5
 infoByte:=aeF
 cellsByte:=aeF
 sizeByte:=aeF
 neB5:=aeG
theorem Tryz.tK:Builder.Extra Tryz.prog Tryz.xe where
 sizeBuilder:=aeF
 liesBuilder:=aeF
 t5:=Tryz.underlying5
 a5:=Tryz.isAgg5
 z5:=Tryz.sizeOf5
 v5:=Tryz.zeroValue5
 infoByte:=aeF
 cellsByte:=aeF
 sizeByte:=aeF
 neB5:=aeG
theorem Tryz.tM:Builder.Extra Tryz.prog Tryz.xh where
 sizeBuilder:=aeF
 liesBuilder:=aeF
 t5:=Tryz.underlying5
 a5:=Tryz.isAgg5
 z5:=Tryz.sizeOf5
 v5:=Tryz.zeroValue5
 infoByte:=aeF
 cellsByte:=aeF
 sizeByte:=aeF
 neB5:=aeG
theorem Tryz.Builder_WriteByte_k(B b:Nat)(bs:List Value)(c:Int)(w:World)(h:Lib.IsBuilderF 269 5 B b bs w)(hlen:bs.length+1≤140737488355328)(hBw:B≤w.heap.size):
  Calls Tryz.prog 177 #[.pointer (some ⟨b,0,none⟩),.int .u8 c] w fun e w' =>e= .returned .nilIface∧(Lib.BuilderAtF 269 5 B b (.pointer (some ⟨b,0,none⟩)) (bs++ [.int .u8 c]) w'∧RowKit.Below B w w'∧Lib.OthersKept 5 (some b) w w'):=Any.Builder_WriteByte_k Tryz.P0 Tryz.tL B b bs c w h hlen hBw
theorem Tryz.Builder_WriteString_k(B b:Nat)(bs:List Value)(s:ByteArray)(w:World)(h:Lib.IsBuilderF 269 5 B b bs w)(hlen:bs.length+s.size≤140737488355328)(hBw:B≤w.heap.size):
  Calls Tryz.prog 178 #[.pointer (some ⟨b,0,none⟩),.string s] w fun e w' =>e= .returned (.tuple #[.int .i64 s.size,.nilIface])∧(Lib.BuilderAtF 269 5 B b (.pointer (some ⟨b,0,none⟩)) (bs++Lib.strCells s) w'∧RowKit.Below B w w'∧Lib.OthersKept 5 (some b) w w'):=Any.Builder_WriteString_k Tryz.PZ Tryz.tK B b bs s w h hlen hBw
theorem Tryz.Builder_String_k(B b:Nat)(l:List UInt8)(w:World)(h:Lib.IsBuilderF 269 5 B b (Lib.byteCells l) w)(h0:l≠ []):
  Calls Tryz.prog 179 #[.pointer (some ⟨b,0,none⟩)] w fun e w' =>e= .returned (.string ⟨l.toArray⟩)∧(Lib.IsBuilderF 269 5 B b (Lib.byteCells l) w'∧RowKit.Below B w w'∧Lib.OthersKept 5 (some b) w w'):=Any.Builder_String_k Tryz.P4 Tryz.tM B b l w h h0
end Go.Proofs
namespace Go.Proofs
open Go.RowKit
def Tryz.cY(s:ByteArray)(k:Nat):List UInt8:=[34]++((s.data.toList.take k).map Bf.oL).flatten
theorem Tryz.Y4:∀c:Fin 256,bits BinOp.and IntKind.u8 (c.val:Int) 15=((c.val % 16:Nat):Int):=aeG
theorem Tryz.Ec(n:Nat)(hn:n<16)(w:World):(Instr.slice 9 (Value.string {data:= #[48,49,50,51,52,53,54,55,56,57,97,98,99,100,101,102]}) (some (.int .u8 (n:Int))) (some (.int .u8 (IntKind.u8.wrap ((n:Int)+1)))) none).run Tryz.prog w= .ok (.string ⟨#[Bf.Gy n]⟩) w:=by
 have e:IntKind.u8.wrap ((n:Int)+1)=((n+1:Nat):Int):=by
  have:n=0∨n=1∨n=2∨n=3∨n=4∨n=5∨n=6∨n=7∨n=8∨n=9∨n=10∨n=11∨n=12∨n=13∨n=14∨n=15:=aeC;rcases this with rfl|rfl|rfl|rfl|rfl|rfl|rfl|rfl|rfl|rfl|rfl|rfl|rfl|rfl|rfl|rfl<;>decide
 rw[e,run_slice_string w 9 _ .u8 .u8 (n:Int) ((n+1:Nat):Int) Tryz.underlying9 aeC aeC (by show((n+1:Nat):Int)≤16;omega)]
 have:n=0∨n=1∨n=2∨n=3∨n=4∨n=5∨n=6∨n=7∨n=8∨n=9∨n=10∨n=11∨n=12∨n=13∨n=14∨n=15:=aeC;rcases this with rfl|rfl|rfl|rfl|rfl|rfl|rfl|rfl|rfl|rfl|rfl|rfl|rfl|rfl|rfl|rfl<;>rfl
theorem Tryz.uL(s:ByteArray)(k:Nat)(hk:k≤s.size)(hs:s.size≤64):(Tryz.cY s k).length≤193:=by
 have:∀l:List UInt8,((l.map Bf.oL).flatten).length≤3*l.length:=fun l=>by
  induction l with
  |nil=>simp
  |cons c r ih=>
   have:(Bf.oL c).length≤3:=by unfold Bf.oL;split<;>simp
   simp only[List.map_cons,List.flatten_cons,aew,List.length_cons]at ih⊢;omega
 have h1:=this (s.data.toList.take k);have h2:(s.data.toList.take k).length≤64:=by
  have:s.size=s.data.toList.length:=Array.length_toList.symm;simp;omega
 unfold Tryz.cY;simp only[aew,List.length_cons,List.length_nil];omega
theorem Tryz.rJ(s:ByteArray)(k:Nat)(hk:k<s.size):Tryz.cY s (k+1)=Tryz.cY s k++Bf.oL s[k]:=by have e:s.size=s.data.toList.length:=Array.length_toList.symm;have hk2:k<s.data.toList.length:=aeC;unfold Tryz.cY;rw[List.take_succ_eq_append_getElem hk2,List.map_append,List.flatten_append];simp only[List.map_cons,List.map_nil,List.flatten_cons,List.flatten_nil,List.append_nil,List.append_assoc];rfl
theorem Tryz.AJ(s:ByteArray):Tryz.cY s s.size++ [34]=Bf.oN s.data.toList:=by have e:s.size=s.data.toList.length:=Array.length_toList.symm;unfold Tryz.cY Bf.oN;rw[e,List.take_length]
theorem Tryz.si(s:ByteArray)(k:Nat)(hk:k<s.size)(ho:Bf.uw s[k]=true):
  Lib.byteCells (Tryz.cY s k)++Lib.strCells (({data:= #[92]}:ByteArray)++ {data:= #[Bf.Gy (s[k].toNat / 16)]}++ {data:= #[Bf.Gy (s[k].toNat % 16)]})=Lib.byteCells (Tryz.cY s (k+1)):=by
 rw[Tryz.rJ s k hk,Lib.byteCells_append]
 congr 1
 rw[Bf.oL,if_pos ho];rfl
theorem Tryz.F9(s:ByteArray)(k:Nat)(hk:k<s.size)(ho:Bf.uw s[k]=false):
  Lib.byteCells (Tryz.cY s k)++ [Value.int .u8 (s[k].toNat:Int)]=Lib.byteCells (Tryz.cY s (k+1)):=by
 rw[Tryz.rJ s k hk,Lib.byteCells_append]
 congr 1
 rw[Bf.oL,if_neg (by simp[ho])]
 rfl
set_option maxHeartbeats 4000000 in
theorem Tryz.E0(s:ByteArray)(w:World)(hs:s.size≤64):
  Calls Tryz.prog 130 #[.string s] w fun e w' =>e= .returned (.string ⟨(Bf.oN s.data.toList).toArray⟩)∧Below w.heap.size w w' :=by
 go_enter Tryz.func130,Tryz.ntmps130
 go_wp2_with (go_at_call 177;refine(Tryz.Builder_WriteByte_k w.heap.size w.heap.size [] 34 _ (Lib.IsBuilderF.of (Lib.fresh_isBuilder 269 5 w)) aeJ aeJ).mono ?_)
 rintro e W0 ⟨rfl,h0,b0,_⟩
 go_wp2
 go_loopw [9] (fun v wr=>∃k:Nat,v= .int .i64 k∧k≤s.size∧Lib.IsBuilderF 269 5 w.heap.size w.heap.size (Lib.byteCells (Tryz.cY s k)) wr∧Below w.heap.size w wr) (fun v _=>s.size - (intOf v).toNat)
 case atStart=>
  refine⟨0,rfl,aeC,?_,?_⟩
  ·exact Or.inr h0
  ·exact((Below.refl _ w).alloc (Nat.le_refl _) _).trans b0
 case round=>
  obtain⟨k,rfl,hk,hI,hbw⟩:=hrel
  by_cases hp:k<s.size
  ·have hx1:∀w,(Instr.slice 9 (Value.string {data:= #[48,49,50,51,52,53,54,55,56,57,97,98,99,100,101,102]}) (some (.int .u8 ((s[k].toNat:Int) / 16))) (some (.int .u8 (IntKind.u8.wrap ((s[k].toNat:Int) / 16+1)))) none).run Tryz.prog w= .ok (.string ⟨#[Bf.Gy (s[k].toNat / 16)]⟩) w:=
    fun w=>Tryz.Ec (s[k].toNat / 16) (by have:=s[k].toNat_lt;omega) w
   have hb:bits BinOp.and IntKind.u8 (s[k].toNat:Int) 15=((s[k].toNat % 16:Nat):Int):=Tryz.Y4 ⟨s[k].toNat,s[k].toNat_lt⟩;have hx2:∀w,(Instr.slice 9 (Value.string {data:= #[48,49,50,51,52,53,54,55,56,57,97,98,99,100,101,102]}) (some (.int .u8 (bits BinOp.and IntKind.u8 (s[k].toNat:Int) 15))) (some (.int .u8 (IntKind.u8.wrap (bits BinOp.and IntKind.u8 (s[k].toNat:Int) 15+1)))) none).run Tryz.prog w= .ok (.string ⟨#[Bf.Gy (s[k].toNat % 16)]⟩) w:=by
    intro w;rw[hb];exact Tryz.Ec (s[k].toNat % 16) aeC w
   clear hb;have hql:=Tryz.uL s k hk hs
   by_cases d1:(s[k].toNat:Int)<32
   ·go_wp2
    refine wp_region_still_tail 14 aeF aeF ?_;simp only[List.take_succ_cons,List.take_zero,List.drop_succ_cons,List.drop_zero]
    (repeat still_step)
    try refine wpStill_nil ?_
    have hI2:Lib.IsBuilderF 269 5 w.heap.size w.heap.size (Lib.byteCells (Tryz.cY s k)) wr.drew:=hI;have hbw2:Below w.heap.size w wr.drew:=hbw.drew
    change wpList _ _ _ _ _ wr.drew
    generalize wr.drew=w2 at hI2 hbw2⊢
    go_wp2_with (go_at_call 178;refine(Tryz.Builder_WriteString_k w.heap.size w.heap.size _ _ _ hI2 af3 hbw2.size).mono ?_)
    rintro e W1 ⟨rfl,h1,b1,_⟩
    go_wp2
    go_roundw
    case rel=>
     refine⟨k+1,by go_num,aeC,?_,hbw2.trans b1⟩
     rw[←Tryz.si s k hp (by simp[Bf.uw,d1])]
     exact aip
    case measure=>simp[intOf];omega
   by_cases d2:126<(s[k].toNat:Int)
   ·go_wp2
    refine wp_region_still_tail 14 aeF aeF ?_;simp only[List.take_succ_cons,List.take_zero,List.drop_succ_cons,List.drop_zero]
    (repeat still_step)
    try refine wpStill_nil ?_
    have hI2:Lib.IsBuilderF 269 5 w.heap.size w.heap.size (Lib.byteCells (Tryz.cY s k)) wr.drew:=hI;have hbw2:Below w.heap.size w wr.drew:=hbw.drew
    change wpList _ _ _ _ _ wr.drew
    generalize wr.drew=w2 at hI2 hbw2⊢
    go_wp2_with (go_at_call 178;refine(Tryz.Builder_WriteString_k w.heap.size w.heap.size _ _ _ hI2 af3 hbw2.size).mono ?_)
    rintro e W1 ⟨rfl,h1,b1,_⟩
    go_wp2
    go_roundw
    case rel=>
     refine⟨k+1,by go_num,aeC,?_,hbw2.trans b1⟩
     rw[←Tryz.si s k hp (by simp[Bf.uw,d2])]
     exact aip
    case measure=>simp[intOf];omega
   cases d3:((s[k].toNat:Int)==34)
   case true=>
    go_wp2
    refine wp_region_still_tail 14 aeF aeF ?_;simp only[List.take_succ_cons,List.take_zero,List.drop_succ_cons,List.drop_zero]
    (repeat still_step)
    try refine wpStill_nil ?_
    have hI2:Lib.IsBuilderF 269 5 w.heap.size w.heap.size (Lib.byteCells (Tryz.cY s k)) wr.drew:=hI;have hbw2:Below w.heap.size w wr.drew:=hbw.drew
    change wpList _ _ _ _ _ wr.drew
    generalize wr.drew=w2 at hI2 hbw2⊢
    go_wp2_with (go_at_call 178;refine(Tryz.Builder_WriteString_k w.heap.size w.heap.size _ _ _ hI2 af3 hbw2.size).mono ?_)
    rintro e W1 ⟨rfl,h1,b1,_⟩
    go_wp2
    go_roundw
    case rel=>
     refine⟨k+1,by go_num,aeC,?_,hbw2.trans b1⟩
     rw[←Tryz.si s k hp (by simp[Bf.uw,d3])]
     exact aip
    case measure=>simp[intOf];omega
   cases d4:((s[k].toNat:Int)==92)
   case true=>
    go_wp2
    refine wp_region_still_tail 14 aeF aeF ?_;simp only[List.take_succ_cons,List.take_zero,List.drop_succ_cons,List.drop_zero]
    (repeat still_step)
    try refine wpStill_nil ?_
    have hI2:Lib.IsBuilderF 269 5 w.heap.size w.heap.size (Lib.byteCells (Tryz.cY s k)) wr.drew:=hI;have hbw2:Below w.heap.size w wr.drew:=hbw.drew
    change wpList _ _ _ _ _ wr.drew
    generalize wr.drew=w2 at hI2 hbw2⊢
    go_wp2_with (go_at_call 178;refine(Tryz.Builder_WriteString_k w.heap.size w.heap.size _ _ _ hI2 af3 hbw2.size).mono ?_)
    rintro e W1 ⟨rfl,h1,b1,_⟩
    go_wp2
    go_roundw
    case rel=>
     refine⟨k+1,by go_num,aeC,?_,hbw2.trans b1⟩
     rw[←Tryz.si s k hp (by simp[Bf.uw,d4])]
     exact aip
    case measure=>simp[intOf];omega
   go_wp2_with (go_at_call 177;refine(Tryz.Builder_WriteByte_k w.heap.size w.heap.size _ _ _ hI (by rw[Lib.byteCells_length];omega) hbw.size).mono ?_)
   rintro e W1 rfl h1 b1 _
   go_wp2
   go_roundw
   case rel=>
    refine⟨k+1,by go_num,aeC,?_,hbw.trans b1⟩
    rw[←Tryz.F9 s k hp (by simp[Bf.uw,d1,d2,d3,d4])]
    exact aip
   case measure=>simp[intOf];omega
  ·have hk2:k=s.size:=by omega
   subst hk2;have hql:=Tryz.uL s s.size hk hs
   go_wp2_with (go_at_call 177;refine(Tryz.Builder_WriteByte_k w.heap.size w.heap.size _ _ _ hI (by rw[Lib.byteCells_length];omega) hbw.size).mono ?_)
   rintro e W1 ⟨rfl,h1,b1,_⟩
   have e34:Lib.byteCells (Tryz.cY s s.size)++ [Value.int .u8 34]=Lib.byteCells (Bf.oN s.data.toList):=by
    rw[←Tryz.AJ,Lib.byteCells_append];rfl
   rw[e34]at h1
   go_wp2_with (go_at_call 179;refine(Tryz.Builder_String_k w.heap.size w.heap.size _ _ (Or.inr h1) (by simp[Bf.oN])).mono ?_)
   rintro e W2 ⟨rfl,_,b2,_⟩
   go_wp2
   go_ret
   exact⟨rfl,(hbw.trans b1).trans b2⟩
end Go.Proofs
namespace Go.Proofs.YtelkmnkejghkeaaGreatDoor
open Go Go.Ab Go.Bf Tryz
theorem KR:Quoted:=fun s h hs=>by
 refine .lib ⟨_,func130,aeF,rfl⟩ fun c vs hs' g h1 h2=>?_
 obtain⟨v,rfl⟩:∃v,vs= #[v]:=Array.size_eq_one_iff.1 h1;have e:v= .string ⟨s.toArray⟩:=((h2 0 aeJ).lW).1;subst e;refine(Tryz.E0 ⟨s.toArray⟩ c.w (by simpa[ByteArray.size]using hs)).mono ?_
 rintro e w' ⟨rfl,hb⟩
 have hl:=BL s hs;exact⟨⟨_,rfl,fun c' _=> .s _ (by show(oN s).length<lim;have:(194:Nat)<lim:=aeG;omega)⟩,hb⟩
end Go.Proofs.YtelkmnkejghkeaaGreatDoor
namespace Go.Ab
open Go
variable {F:Nat→Prop}{x:AV}{c c':Cx}{u:Value}{b o:Nat}
inductive Av (F:Nat→Prop):AV→Prop where
 |v (x:Value):Av F (.v x)
 |s (l:List UInt8):Av F (.s l)
 |agg (xs:List AV) (h:∀x∈xs,Av F x):Av F (.agg xs)
 |tup (xs:List AV) (h:∀x∈xs,Av F x):Av F (.tup xs)
 |sl (xs:List AV) (p:Perm) (h:∀x∈xs,Av F x) (hp:∀id,p= .own id→¬F id):Av F (.sl xs p)
 |pe (x:AV) (o:Nat) (h:Av F x):Av F (.pe x o)
 |ptr (id o:Nat) (h:¬F id):Av F (.ptr id o)
 |oa (id o l:Nat) (h:¬F id):Av F (.oa id o l)
 |ob (id o l c z:Nat) (h:¬F id):Av F (.ob id o l c z)
 |ifc (t:TypeId) (x:AV) (h:Av F x):Av F (.ifc t x)
 |fn (f:FuncId) (xs:List AV) (h:∀x∈xs,Av F x):Av F (.fn f xs)
 |mp (id:Nat) (h:¬F id):Av F (.mp id)
theorem Av.cells(h:Av F x):∀y∈x.cells,Av F y:=by
 cases h with
 |agg xs hx=>exact hx
 |_=>intro y hy;rw[List.mem_singleton.1 hy];constructor<;>assumption
theorem Av.EK(h:∀y∈x.cells,Av F y):Av F x:=by
 cases x with
 |agg xs=>exact .agg xs h
 |_=>exact h _ (List.mem_singleton.2 rfl)
theorem Rep.av(hF:∀id,F id→c.h id=none)(h:Rep c x u):Av F x:=by
 have nf:∀ {id:Nat} {k:Blk},c.h id=some k→¬F id:=fun hk hf=>aeD
 induction h with
 |v x=>exact .v x
 |s l hl=>exact .s l
 |agg xs vs hn hr ho ih=>exact .agg xs fun x hx=>agn
 |tup xs vs hn hr ih=>exact .tup xs fun x hx=>agn
 |sl xs p a cap sz val hc hm h0 hs hz hf hr ho hp ih=>
  refine .sl xs p (fun x hx=>?_) fun id e=>?_
  ·obtain⟨i,hi,rfl⟩:=List.mem_iff_getElem.1 hx
   refine .EK fun y hy=>?_
   obtain⟨j,hj,rfl⟩:=List.mem_iff_getElem.1 hy
   grind
  ·subst e
   obtain⟨m,h1,_⟩:=hp
   grind
 |pe x off b o val hb hf hr ho ih=>
  refine .pe x off (.EK fun y hy=>?_)
  obtain⟨j,hj,rfl⟩:=List.mem_iff_getElem.1 hy
  grind
 |ptr id off cs t h=>exact .ptr _ _ (nf h)
 |oa id off len cap o cs t h hc hm ho=>exact .oa _ _ _ (nf h)
 |ob id off len cap sz o cs t h hc hm ho=>exact .ob _ _ _ _ _ (nf h)
 |ifc t x u h ih=>exact .ifc t x ih
 |fn f xs vs hn hr ih=>exact .fn f xs fun x hx=>agn
 |mp id m h=>exact .mp _ (nf h)
noncomputable def Cx.back (c' :Cx) (g:Heap):Cx:={c' with h:=fun id=>if g id=none then none else c'.h id}
theorem vm{g:Heap}{id:Nat}{k:Blk}(h:(c'.back g).h id=some k):g id≠none∧c'.h id=some k:=by grind [Cx.back]
theorem lp{g:Heap}{id:Nat}(h:g id≠none):(c'.back g).h id=c'.h id:=by simp_all [Cx.back,if_false]
theorem yA{g:Heap}(h:owned (c'.back g) b o):owned c' b o:=by obtain⟨id,k,h1,h2,h3⟩:=h;exact⟨id,k,(vm h1).2,h2,h3⟩
theorem yy{g:Heap}(h:fix c' b o u):fix (c'.back g) b o u:=⟨h.1,fun ho=>h.2 (yA ho)⟩
theorem Rep.back{g:Heap}(h:Rep c' x u)(ha:Av (fun id=>g id=none) x):Rep (c'.back g) x u:=by
 induction h with
 |v x=>exact .v x
 |s l hl=>exact .s l hl
 |agg xs vs hn hr ho ih=>cases ha with|agg _ ha=>exact .agg xs vs hn aeD ho
 |tup xs vs hn hr ih=>cases ha with|tup _ ha=>exact .tup xs vs hn aeD
 |sl xs p a cap sz val hc hm h0 hs hz hf hr ho hp ih=>
  cases ha with
  |sl _ _ ha hq=>
   refine .sl xs p a cap sz val hc hm h0 hs hz (by grind [yy]) (fun i hi j hj=>ih i hi j hj ((ha _ (aex hi)).cells _ (aex hj))) ho ?_
   cases p with
   |no=>trivial
   |full=>exact hp
   |own id=>
    obtain⟨m,h1,h2,h3⟩:=hp;exact⟨m,by rw[lp (hq id rfl)];omega,h2,h3⟩
 |pe x off b o val hb hf hr ho ih=>
  cases ha with
  |pe _ _ ha=>exact .pe x off b o val hb (by grind [yy]) (fun j hj=>ih j hj (ha.cells _ (aex hj))) ho
 |ptr id off cs t h=>cases ha with|ptr _ _ ha=>exact .ptr id off cs t (by grind [lp])
 |oa id off len cap o cs t h hc hm ho=>cases ha with|oa _ _ _ ha=>exact .oa id off len cap o cs t (by grind [lp]) hc hm ho
 |ob id off len cap sz o cs t h hc hm ho=>cases ha with|ob _ _ _ _ _ ha=>exact .ob id off len cap sz o cs t (by grind [lp]) hc hm ho
 |ifc t x u h ih=>cases ha with|ifc _ _ ha=>exact .ifc t x u (ih ha)
 |fn f xs vs hn hr ih=>cases ha with|fn _ _ ha=>exact .fn f xs vs hn aeD
 |mp id m h=>cases ha with|mp _ ha=>exact .mp id m (by grind [lp])
inductive Frz (g h:Heap):AV→AV→Prop where
 |keep (x:AV) (ha:Av (fun id=>g id=none) x):Frz g h x x
 |agg (xs ys:List AV) (hn:xs.length=ys.length) (hr:∀i (h1:i<xs.length) (h2:i<ys.length),Frz g h xs[i] ys[i]):Frz g h (.agg xs) (.agg ys)
 |tup (xs ys:List AV) (hn:xs.length=ys.length) (hr:∀i (h1:i<xs.length) (h2:i<ys.length),Frz g h xs[i] ys[i]):Frz g h (.tup xs) (.tup ys)
 |sl (xs ys:List AV) (p:Perm) (hn:xs.length=ys.length) (hz:∀i (h1:i<xs.length) (h2:i<ys.length),xs[i].cells.length=ys[i].cells.length)
   (hr:∀i (h1:i<xs.length) (h2:i<ys.length) j (h3:j<xs[i].cells.length) (h4:j<ys[i].cells.length),Frz g h xs[i].cells[j] ys[i].cells[j]):Frz g h (.sl xs p) (.sl ys .no)
 |ob (id off len cap sz:Nat) (cs:List AV) (t:TypeId) (ys:List AV) (hg:g id=none) (hh:h id=some (.obj cs t)) (hl:off+len*sz≤cs.length) (hn:ys.length=len) (hz:∀i (h1:i<ys.length),ys[i].cells.length=sz)
   (hr:∀i (h1:i<ys.length) j (h3:j<ys[i].cells.length) (h4:off+(i*sz+j)<cs.length),Frz g h (cs[off+(i*sz+j)]) ys[i].cells[j]):Frz g h (.ob id off len cap sz) (.sl ys .no)
 |ptr (id off:Nat) (cs:List AV) (t:TypeId) (ys:List AV) (hg:g id=none) (hh:h id=some (.obj cs t)) (hn:cs.length=ys.length) (hr:∀i (h1:i<cs.length) (h2:i<ys.length),Frz g h cs[i] ys[i]):Frz g h (.ptr id off) (.pe (.agg ys) off)
 |ifc (t:TypeId) (x y:AV) (hr:Frz g h x y):Frz g h (.ifc t x) (.ifc t y)
theorem Frz.rep{g h:Heap}(gd:Good c')(hh:Sub h c'.h){y:AV}(hz:Frz g h x y):∀ {u:Value},Rep c' x u→Rep (c'.back g) y u:=by
 have nown:∀ {id:Nat} {k:Blk} {o:Nat},g id=none→h id=some k→¬owned (c'.back g) (c'.φ id).block o:=fun {id k o} h1 h2 ho=>by
  obtain⟨j,l,h3,h4,h5⟩:=ho;obtain⟨h6,h7⟩:=vm h3;exact gd.inj j id l k h7 (hh _ _ h2) (fun e=>h6 aeD) h4
 induction hz with
 |keep x ha=>exact fun hr=>hr.back ha
 |agg xs ys hn hr ih=>
  intro u hu;obtain⟨vs,rfl,h1,h2,h3⟩:=hu.pG;exact .agg ys vs aeC (fun i hi=>ih i aeC hi (h2 i aeC)) fun i hi=>h3 i aeC
 |tup xs ys hn hr ih=>
  intro u hu;obtain⟨vs,rfl,h1,h2⟩:=hu.C1;exact .tup ys vs aeC (fun i hi=>ih i aeC hi (h2 i aeC))
 |sl xs ys p hn hz hr ih=>
  intro u hu;obtain⟨a,cap,sz,val,rfl,hs⟩:=hu.iQ;rw[hn];have hcap:=hs.hc;refine .sl ys .no a cap sz val aeC hs.hm hs.h0 hs.hs (fun i hi=>by rw[←hz i aeC hi];exact hs.hz i aeC) (fun q hq i j hi hj=>yy (hs.hf q hq i j aeC hj)) (fun i hi j hj=>?_) (fun i j hi hj=>hs.ho i j aeC hj) trivial
  exact ih i aeC hi j aeD hj (hs.hr i aeC j aeD)
 |ob id off len cap sz cs t ys hg hid hl hn hz hr ih=>
  intro u hu;obtain⟨o,rfl,h1,h2,cs',t',h3,h4⟩:=hu.jI;have hcid:=hh _ _ hid;obtain⟨vs,v1,v2,v3⟩:=gd.obj id cs t hcid;subst hn;have hbd:∀i j,i<ys.length→j<sz→i*sz+j<ys.length*sz:=fun i j hi hj=>by
   have:(i+1)*sz≤ys.length*sz:=Nat.mul_le_mul_right _ aeC;rw[Nat.add_mul,Nat.one_mul]at this;omega
  refine .sl ys .no _ cap sz (fun i j=>vs.getD (off+(i*sz+j)) undef) h1 h2 (fun e=>ae2) (fun q hq _=>?_) hz (fun q hq i j hi hj=>?_) (fun i hi j hj=>?_) (fun i j hi hj=>(v3 _ aeD).2) trivial
  ·cases hq
   exact⟨rfl,gd.lt hcid⟩
  ·cases hq
   obtain⟨rfl,_⟩:=h4 aeC;have hb:=hbd i j hi hj;refine⟨?_,nown hg hid⟩;have:o+(i*sz+j)<vs.size:=aeC;simp[World.cell?,Cx.back,v1,this]
  ·have hj' :j<sz:=by grind
   have hb:=hbd i j hi hj';exact ih i hi j hj aeC (v3 _ aeC).1
 |ptr id off cs t ys hg hid hn hr ih=>
  intro u hu;obtain⟨rfl,_⟩:=hu.lD;have hcid:=hh _ _ hid;obtain⟨vs,v1,v2,v3⟩:=gd.obj id cs t hcid;have:=Rep.pe (c:=c'.back g) (.agg ys) off (c'.φ id).block 0 (fun j=>vs.getD j undef) (gd.lt hcid) (fun j hj=>by
    have hj' :j<ys.length:=hj;refine⟨?_,nown hg hid⟩
    simp_all [World.cell?,Cx.back]) (fun j hj=>by
    have hj' :j<ys.length:=hj;exact ih j aeC hj' (v3 j aeC).1) (fun j hj=>by
    have hj' :j<ys.length:=hj;exact(v3 j aeC).2)
  rw[Nat.zero_add]at this;exact afk
 |ifc t x y hr ih=>
  intro u hu;cases hu with
  |ifc _ _ u' h=>exact .ifc t y _ (ih h)
theorem ai.freeze{P:Program}{f:FuncId}{args:List AV}{h:Heap}{Q:AV→Prop}
  (hf:∀g,Sub h g→(∀x∈args,Av (fun id=>g id=none) x)→ai P f args g fun r h' =>Sub g h'∧∃y,Frz g h' r y∧Q y):ai P f args h fun r h' =>Q r∧h' =h:=by
 intro c vs hs gd h1 h2;have hav:∀x∈args,Av (fun id=>c.h id=none) x:=fun x hx=>by
  obtain⟨i,hi,rfl⟩:=List.mem_iff_getElem.1 hx;exact(h2 i hi).av fun _ e=>e
 refine(hf c.h hs hav c vs (.refl _) gd h1 h2).mono ?_
 rintro u w' ⟨c',x,h',rfl,gd',hE,hr,hsub,hgh,y,hz,hq⟩
 have hkeep:∀id k,c.h id=some k→c'.h id=some k:=fun id k hk=>hsub _ _ (hgh _ _ hk)
 have hE2:Ext c (c'.back c.h):={
  os:=hE.os,tape:=hE.tape,output:=hE.output,size:=hE.size,block:=hE.block,cell:=hE.cell,shape:=hE.shape
  steal:=fun b o hb ho=>hE.steal b o hb (yA ho)
  obj:=fun id cs t hi=>by rw[lp aeD];exact hE.obj id cs t hi
  spare:=fun id n sz hi=>by rw[lp aeD];exact hE.spare id n sz hi
  mp:=fun id m hi=>by rw[lp aeD];exact hE.mp id m hi
  ro:=fun id b vs hi=>by rw[lp aeD];exact hE.ro id b vs hi}
 have hold:∀id k,(c'.back c.h).h id=some k→c.h id=some k∧c'.h id=some k:=fun id k hk=>by
  obtain⟨a1,a2⟩:=vm hk;cases hc:c.h id with
  |none=>grind
  |some k' =>grind
 refine⟨c'.back c.h,y,h,rfl,?_,hE2,hz.rep gd' hsub hr,fun id k hk=>?_,hq,rfl⟩
 ·refine⟨?_,fun i j k l hi hj hne=>gd'.inj i j k l (hold i k hi).2 (hold j l hj).2 hne,fun id cs t hi=>?_,fun id n sz hi=>gd'.spare id n sz (hold id _ hi).2,fun id m hi=>?_,fun id m hi=>gd'.keys id m (hold id _ hi).2,fun id b vs hi=>gd'.ro id b vs (hold id _ hi).2⟩
  ·obtain⟨N,hN⟩:=gd'.fin
   exact⟨N,fun id hid=>by grind [Cx.back]⟩
  ·obtain⟨vs,v1,v2,v3⟩:=gd'.obj id cs t (hold id _ hi).2
   obtain⟨vs0,w1,w2,w3⟩:=gd.obj id cs t (hold id _ hi).1;exact⟨vs,v1,v2,fun j hj=>⟨(v3 j hj).1.back ((w3 j hj).1.av fun _ e=>e),(v3 j hj).2⟩⟩
  ·obtain⟨es,cl,v1,v2,v3⟩:=gd'.mp id m (hold id _ hi).2
   obtain⟨es0,cl0,w1,w2,w3⟩:=gd.mp id m (hold id _ hi).1;exact⟨es,cl,v1,v2,fun i hi' hi2=>⟨(v3 i hi' hi2).1,(v3 i hi' hi2).2.back ((w3 i hi' aeC).2.av fun _ e=>e)⟩⟩
 ·rw[lp (by rw[hs _ _ hk];simp)]
  exact hkeep id k (hs _ _ hk)
section
variable {x:AV}{o off cap:Nat}{cs rest us vs c:List AV}
variable {P : Program} {U : TypeId → TI} {ρ : Env} {h h' : Heap} {sz : Nat} {y : AV} {xs : List AV} {e : TypeId}
def Rd(h:Heap)(sz:Nat)(y:AV)(xs:List AV):Prop:=
 Sized sz xs∧((∃q,y= .sl xs q)∨∃id off cap cs t,y= .ob id off xs.length cap sz∧h id=some (.obj cs t)∧off+xs.length*sz≤cs.length∧(cs.drop off).take (xs.length*sz)=au xs)
theorem Rd.sl(hs:Sized sz xs)(q:Perm):Rd h sz (.sl xs q) xs:=⟨hs,.inl ⟨q,rfl⟩⟩
theorem Rd.sub(hb:Rd h sz y xs)(hs:Sub h h'):Rd h' sz y xs:=by
 obtain⟨h1,hb|⟨id,off,cap,cs,t,rfl,h2,h3⟩⟩:=hb
 ·exact⟨h1,.inl hb⟩
 ·exact⟨h1,.inr ⟨id,off,cap,cs,t,rfl,hs _ _ h2,h3⟩⟩
theorem Rd.len(hb:Rd h sz y xs)(e:TypeId)(k:AV→Prop):xL y k (.slice e)=k (.i xs.length):=by exact ajO
theorem Rd.cells(hb:Rd h sz y xs):y.cells= [y]:=by exact ajO
theorem Rd.fit(hb:Rd h sz y xs)(m:Nat):fit y m=(m=1):=by exact ajO
theorem Rd.src(hb:Rd h sz y xs)(hz:(U e).sz=sz){f:List AV→Prop}(hf:f xs):iR U e h y f:=by
 obtain⟨_,⟨q,rfl⟩|⟨id,off,cap,cs,t,rfl,h2,h3,h4⟩⟩:=hb
 ·exact hf
 ·rw[QH,h2]
  exact⟨hz.symm,xs,rfl,h3,h4.symm,hf⟩
def At(h:Heap)(p x:AV)(o:Nat):Prop:=p= .pe x o∨∃id a cs t,p= .ptr id (a+o)∧h id=some (.obj cs t)∧a+x.cells.length≤cs.length∧(cs.drop a).take x.cells.length=x.cells
theorem At.sub{p:AV}(ha:At h p x o)(hs:Sub h h'):At h' p x o:=by
 rcases ha with rfl|⟨id,a,cs,t,rfl,h2,h3⟩
 ·exact .inl rfl
 ·exact .inr ⟨id,a,cs,t,rfl,hs _ _ h2,h3⟩
theorem Hg{a:Nat}{i:TI}{k:AV→Prop}(h1:a+x.cells.length≤cs.length)(h2:(cs.drop a).take x.cells.length=x.cells)(h3:i.sz≠0)(h4:o+i.sz≤x.cells.length):iP cs (a+o) i k=iP x.cells o i k:=by
 unfold iP;split
 ·have e:(cs.drop (a+o)).take i.sz=(x.cells.drop o).take i.sz:=by
   grind [List.drop_take,List.drop_drop,Nat.min_eq_left]
  apply propext
  grind
 grind
theorem At.part{p:AV}(ha:At h p x o){ty:TypeId}(hz:(U ty).sz≠0)(hl:o+(U ty).sz≤x.cells.length)(k:AV→Prop):oc U h ty p k=iP x.cells o (U ty) k:=by
 rcases ha with rfl|⟨id,a,cs,t,rfl,h2,h3,h4⟩
 ·rw[Ni]
  unfold atA;split
  ·rename_i hc
   obtain⟨rfl,hc2,hc3⟩:=hc;unfold iP;split
   ·rename_i hag
    rw[hag]at hc3;have:x= .agg x.cells:=by cases x<;>first|rfl|cases hc3
    rw[List.drop_zero,←hc2,List.take_length,Nat.zero_add,←this];simp
   simp_all [bA,false,oV]
  ·rfl
 ·rw[Kx,h2]
  exact Hg h3 h4 hz hl
theorem At.all{p:AV}(ha:At h p x 0){ty:TypeId}(hz:(U ty).sz≠0)(hl:x.cells.length=(U ty).sz)(hg:bA x=(U ty).k.agg)(k:AV→Prop):oc U h ty p k=k x:=by
 rw[ha.part hz aeC];unfold iP;split
 ·rename_i hag
  rw[hag]at hg;have:x= .agg x.cells:=by cases x<;>first|rfl|cases hg
  rw[List.drop_zero,←hl,List.take_length,Nat.zero_add,←this];simp
 simp_all [bA,false,oV]
theorem At.field{p:AV}(ha:At h p x o){f:Nat}{t:TypeId}{fs:List (Nat×TypeId)}{K:AV→Prop}(hf:fs[f]? =some (off,t))(hz:(U t).sz≠0)(hk:∀p',At h p' x (o+off)→K p'):yR U f p K (.strct fs):=by
 rcases ha with rfl|⟨id,a,cs,t',rfl,h2,h3,h4⟩
 ·rw[JQ,hf]
  exact⟨hz,hk _ (.inl rfl)⟩
 ·rw[Gb,hf]
  exact⟨hz,hk _ (.inr ⟨id,a,cs,t',aeD,h2,h3,h4⟩)⟩
theorem Rd.idx(hb:Rd h sz y xs){m:Int}{x:IntKind}{K:AV→Prop}(j:Nat)(hm:m=j)(hj:j<xs.length)(hz:(U e).sz=sz)(h0:sz≠0)(hk:∀p,At h p xs[j] 0→K p):pP U y (.v (.int x m)) K (.slice e):=by
 subst hm;have hc:=hb.1 xs[j] (aex hj);obtain⟨hs,⟨q,rfl⟩|⟨id,off,cap,cs,t,rfl,h2,h3,h4⟩⟩:=hb
 ·refine(vA ..).mpr ⟨aeC,?_⟩
  exact dR.at j hj aeC (hk _ (.inl rfl))
 ·refine(Bn ..).mpr ⟨aeC,hz.symm,aeC,aeC,hk _ (.inr ⟨id,off+j*sz,cs,t,aeJ,h2,?_,?_⟩)⟩
  ·have:(j+1)*sz≤xs.length*sz:=Nat.mul_le_mul_right _ aeC
   rw[Nat.add_mul,Nat.one_mul]at this;rw[hc];omega
  ·have e1:=pL hs j hj
   rw[←h4,List.drop_take,List.take_take,List.drop_drop]at e1;rw[hc];have:(j+1)*sz≤xs.length*sz:=aeD;rw[Nat.add_mul,Nat.one_mul]at this;rw[Nat.min_eq_left aeC]at e1;exact e1
def Ow(tb:TypeId)(h:Heap)(sz id:Nat)(y:AV)(xs:List AV):Prop:=
 ∃cap rest,y= .ob id 0 xs.length cap sz∧h id=some (.obj (au xs++rest) tb)∧rest.length=(cap - xs.length)*sz∧xs.length≤cap∧Sized sz xs
variable {tb : TypeId} {id : Nat}
theorem Ow.rd(hw:Ow tb h sz id y xs):Rd h sz y xs:=by obtain⟨cap,rest,rfl,h1,h2,h3,h4⟩:=hw;have hl:=aX h4;exact⟨h4,.inr ⟨id,0,cap,_,tb,rfl,h1,aeD,aeD⟩⟩
theorem Ow.sub(hw:Ow tb h sz id y xs)(hs:Sub h h'):Ow tb h' sz id y xs:=by obtain⟨cap,rest,e1,h1,h2⟩:=hw;exact⟨cap,rest,e1,hs _ _ h1,h2⟩
theorem Ow.same(hw:Ow tb h sz id y xs)(hs:h' id=h id):Ow tb h' sz id y xs:=by obtain⟨cap,rest,e1,h1,h2⟩:=hw;exact⟨cap,rest,e1,hs.trans h1,h2⟩
theorem Ow.none(hw:Ow tb h sz id y xs):h id≠Option.none:=by
 obtain⟨cap,rest,e1,h1,h2⟩:=hw
 grind
theorem Ow.make(hs:Sized sz xs)(hcs:cs=au xs){n:Nat}(hn:n=xs.length)(hc:n≤cap)(hr:rest.length=(cap - n)*sz):Ow tb (upd h id (some (.obj (cs++rest) tb))) sz id (.ob id 0 n cap sz) xs:=by
 subst hcs;subst hn
 exact⟨cap,rest,rfl,ah ..,hr,hc,hs⟩
theorem kP.ow{n:Nat}{Q:AV→Heap→Prop}(hs:Sized sz xs)(hcs:cs=au xs)(hn:n=xs.length)(hk:∀id y h',h id=Option.none→Ow tb h' sz id y xs→(∀j,j≠id→h' j=h j)→Q y h'):kP h cs n sz tb Q:=
 fun id cap rest hid hc hr=>hk id _ _ hid (Ow.make hs hcs hn hc hr) fun j hj=>ag _ _ hj
theorem KJ:over (us++vs) (us.length+o) c=us++over vs o c:=by simp[Ab.over,Nat.add_assoc,List.take_length_add_append,List.drop_length_add_append,List.append_assoc]
theorem J0{xs:List AV}(hs:Sized sz xs)(j:Nat)(hj:j<xs.length)(x:AV)(hx:x.cells.length=sz):au (xs.set j x)=over (au xs) (j*sz) x.cells:=by
 induction xs generalizing j with
 |nil=>grind
 |cons a r ih=>
  have h1:=hs a aeJ;have h2:Sized sz r:=fun z hz=>hs z aeD
  cases j with
  |zero=>
   simp only[List.set_cons_zero,iJ,Ab.over,Nat.zero_mul,List.take_zero,List.nil_append,Nat.zero_add];rw[hx,←h1,List.drop_left]
  |succ j=>
   have hj' :j<r.length:=aeD;have e1:(j+1)*sz=a.cells.length+j*sz:=aeD;rw[List.set_cons_succ,iJ,iJ,ih h2 j hj',e1,KJ]
theorem JZ{xs:List AV}(hs:Sized sz xs)(j:Nat)(hj:j<xs.length)(o:Nat)(c:List AV)(ho:o+c.length≤sz):over (au xs) (j*sz+o) c=au (xs.set j (.agg (over xs[j].cells o c))):=by
 have hc:=hs xs[j] (aex hj);have hl:(over xs[j].cells o c).length=sz:=by grind [iO]
 rw[J0 hs j hj (.agg (over xs[j].cells o c)) hl];have hp:=pL hs j hj;have e1:(au xs).take (j*sz+o)=(au xs).take (j*sz)++xs[j].cells.take o:=by
  rw[←hp,List.take_take,Nat.min_eq_left aeC,List.take_add]
 have e2:(au xs).drop (j*sz+o+c.length)=xs[j].cells.drop (o+c.length)++(au xs).drop (j*sz+sz):=by
  have e3:(au xs).drop (j*sz)=xs[j].cells++(au xs).drop (j*sz+sz):=by
   grind [List.drop_drop,List.take_append_drop]
  rw[Nat.add_assoc,←List.drop_drop,e3,List.drop_append_of_le_length aeC]
 show over (au xs) (j*sz+o) c=over (au xs) (j*sz) (over xs[j].cells o c)
 grind [over,Ab.over,List.append_assoc]
theorem NH(h1:o+c.length≤us.length):over (us++vs) o c=over us o c++vs:=by grind [Ab.over,List.append_assoc]
theorem Ow.idx(hw:Ow tb h sz id y xs){m:Int}{x:IntKind}{K:AV→Prop}(j:Nat)(hm:m=j)(hj:j<xs.length)(hz:(U e).sz=sz)(h0:sz≠0)(hk:K (.ptr id (j*sz))):pP U y (.v (.int x m)) K (.slice e):=by
 obtain⟨cap,rest,rfl,h1,h2,h3,h4⟩:=hw
 simp_all [Bn,Nat.zero_add,Int.toNat_natCast]
def OwE(tb:TypeId)(h0 h:Heap)(sz:Nat)(y:AV)(xs:List AV):Prop:=(xs= []∧y= .sl [] .full)∨∃id,h0 id=Option.none∧Ow tb h sz id y xs
variable {h0 : Heap}
theorem OwE.rd(hw:OwE tb h0 h sz y xs):Rd h sz y xs:=by
 rcases hw with⟨rfl,rfl⟩|⟨id,_,hw⟩
 ·exact .sl (fun z hz=>aeD) _
 ·exact hw.rd
theorem OwE.sub(hw:OwE tb h0 h sz y xs)(hs:Sub h h'):OwE tb h0 h' sz y xs:=by
 rcases hw with hw|⟨id,h1,hw⟩
 ·exact aiz
 ·exact .inr ⟨id,h1,hw.sub hs⟩
theorem OwE.ow(hw:OwE tb h0 h sz y xs)(hn:xs≠ []):∃id,h0 id=Option.none∧Ow tb h sz id y xs:=by
 rcases hw with hw|hw
 ·grind
 omega
theorem OwE.app{v:AV}{zs:List AV}{Q:AV→Heap→Prop}(hw:OwE tb h0 h sz y xs)(hs0:Sub h0 h)(hb:Rd h sz v zs)(hz:(U tb).sz=sz)(h1:sz≠0)(hby:(U tb).bytes≠0)(hf:Ab.fit (U tb).zero sz)(hne:zs≠ [])(hlen:(xs.length+zs.length)*(U tb).bytes≤140737488355328)
  (hk:∀id y' h',h0 id=Option.none→(h id=Option.none∨∃l c,y= .ob id 0 l c sz)→Ow tb h' sz id y' (xs++zs)→(∀j,j≠id→h' j=h j)→Q y' h'):apK U h y v Q (.slice tb):=by
 subst hz;rcases hw with⟨rfl,rfl⟩|⟨id,h2,cap,rest,rfl,h3,h4,h5,h6⟩
 ·refine(qM ..).mpr ⟨h1,hby,hb.src rfl ⟨by simp[Sized],hb.1,aeC,fun hn=>(hne hn).elim,fun _=>?_⟩⟩
  refine .ob hf (kP.ow (by simpa using hb.1) aeR aeJ fun id y' h' hid hw ho=>?_)
  exact hk id _ _ (hs0.none hid) (.inl hid) aeD ho
 ·have hl:=aX h6
  refine⟨h1,hby,rfl,hb.src rfl ⟨hb.1,hlen,?_⟩⟩;rw[h3];have hsz:Sized (U tb).sz (xs++zs):=fun z hz=>(List.mem_append.1 hz).elim (h6 z) (hb.1 z)
  refine⟨aeD,hf,fun hle=>?_,fun hgt=>?_⟩
  ·have hlz:=aX hb.1
   have hmul:(cap - xs.length)*(U tb).sz=zs.length*(U tb).sz+(cap - (xs.length+zs.length))*(U tb).sz:=by rw[←Nat.add_mul];grind
   refine hk id _ _ h2 (.inr ⟨_,_,rfl⟩) ⟨cap,rest.drop (zs.length*(U tb).sz),aeJ,?_,?_,aeD,hsz⟩ fun j hj=>ag _ _ hj
   ·simp_all [ah,mP,Nat.zero_add,Ab.over,List.take_left,List.drop_append,List.drop_of_length_le]
   grind
  ·refine kP.ow hsz ?_ aeJ fun id' y' h' hid hw ho=>?_
   ·grind [mP,List.take_left]
   ·exact hk id' _ _ (hs0.none hid) (.inl hid) hw ho
theorem xk {f : FuncId} {fn : Func} {tS tR : TypeId} (hU : ∀ t, aP P U t) (hfn : P.funcs[f]? = some fn) (hname : (fn.name == "runtime.NumGoroutine") = false) (hb : fn.body.isNone = true) (hn : Extern.findNext fn = Option.none)
  (he:Extern.find fn=some (Extern.SlicesOverlaps.overlaps #[tS,tS] #[tR])) (hty:(U tS).k= .slice e) (hz:(U e).sz≠0) {q:Perm} (hx:Sized (U e).sz xs) (hne:xs≠ []) {id len sz:Nat}  {t:TypeId} (hid:h id=some (.obj cs t)) (hcs:cs≠ []):
  ai P f [.sl xs q,.ob id off len cap sz] h fun r h' =>r= .b false∧h' =h:=by
 intro c vs hs g h1 h2;obtain⟨a,cap0,sz0,val,hu,sl⟩:=(h2 0 aeJ).iQ;obtain⟨o,hv,_⟩:=(h2 1 aeJ).jI;have hd:=(hU tS).desc;rw[hty]at hd;have hpos:0<xs.length:=List.length_pos_iff.2 hne;have hcap:=sl.hc;obtain⟨qa,rfl⟩:∃qa,a=some qa:=by
  cases a with
  |none=>have:=sl.h0 rfl;omega
  |some qa=>simp
 have hs0:sz0=(U e).sz:=by rw[←sl.hz 0 hpos];exact hx _ (aex hpos)
 have hf:=sl.hf qa rfl 0 0 hpos aeC;have hq:=(sl.hs qa rfl aeC).1;have hcid:=hs _ _ hid;obtain⟨us,u1,u2,u3⟩:=g.obj id cs t hcid;have hnb:qa.block≠(c.φ id).block:=fun hh=>hf.2 ⟨id,_,hcid,hh.symm,Nat.zero_le _⟩
 obtain⟨ws,tw,fr,hws,hwlt⟩:∃ws tw fr,c.w.heap[qa.block]? =some (.cells ws tw fr)∧0<ws.size:=by
  have:=hf.1;simp only[World.cell?]at this;split at this
  ·rename_i ws tw fr hh
   refine⟨ws,tw,fr,hh,?_⟩
   grind
  all_goals cases this
 have hvs:vs= #[.slice (some qa) xs.length cap0,.slice (some ⟨(c.φ id).block,o,Option.none⟩) len cap]:=by
  apply Array.ext
  ·omega
  ·intro i hi hi2
   have hi3:i<2:=aeC;rcases i with _|_|i
   ·simpa[Array.getD,hi]using hu
   ·simpa[Array.getD,hi]using hv
   ·omega
 subst hvs;refine .inr ⟨.bool false,c.w,?_,c,_,h,rfl,g,.refl c,.v _,hs,rfl,rfl⟩;rw[Go.run_callFunc_extern hfn hname hb hn he];have key:(Extern.SlicesOverlaps.overlaps #[tS,tS] #[tR] #[.slice (some qa) xs.length cap0,.slice (some ⟨(c.φ id).block,o,Option.none⟩) len cap]).run P c.w= .ok (.bool false) c.w:=by
  have hnb1:(qa.block !=(c.φ id).block)=true:=aeD;have hnb2:(qa.block==(c.φ id).block)=false:=aeD;have hws2:∃m,ws.size=m+1:=⟨ws.size - 1,aeC⟩;obtain⟨m,hm⟩:=hws2
  change Sem.run P (α:=Value) (do
   let some t := (#[tS, tS] : Array TypeId)[0]? | stuck "slices.overlaps: no parameter types"
   let .slice elem ← underlying t | stuck "slices.overlaps: slice type expected"
   let size←sizeOf elem
   match (some qa:Option Addr),(some ⟨(c.φ id).block,o,Option.none⟩:Option Addr)with
   |some a,some b=>
    if xs.length=0∨len=0∨size=0 then pure (Value.bool false)
    else if a.block !=b.block && (←frozen a) && (←frozen b)then unsupported .addressObserved
    else do
     if a.block !=b.block then do
      noView a;noView b
      if ← mayBeOne a b then return Value.bool ((← choose (.extern "sameAddr.stringBytes" 2)) == 1)
     pure (Value.bool (a.block==b.block && a.off<b.off+len*size && b.off<a.off+xs.length*size))
   |_,_=>pure (Value.bool false)) c.w=_
  have hfb:∀x,c.w.frozen? ⟨(c.φ id).block,x,Option.none⟩=false:=fun x=>by grind [World.frozen?]
  have hsb:c.w.shape? (c.φ id).block=some (t,us.size):=by grind [World.shape?]
  have hsa:c.w.shape? qa.block=some (tw,m+1):=by grind [World.shape?]
  by_cases hl:len=0
  ·simp[run_underlying hd,bB hU hz,hl]
  ·have hus:us.size≠0:=by grind
   obtain⟨n,hn'⟩:∃n,us.size=n+1:=⟨us.size - 1,aeC⟩;rw[hn']at hsb;cases hfa:c.w.frozen? qa<;>cases hfa2:c.w.frozen? {block:=qa.block,off:=m+1}<;>
    simp[run_underlying hd,bB hU hz,hl,hne,hz,hnb1,hnb2,frozen,noView,viewAt,mayBeOne,stringish,shape,Sem.run,hsa,hsb,hfb,hfa,hfa2]
 rw[key];rfl
end
end Go.Ab
namespace Go.Bf
open Go Go.Ab
structure OpD where
 kind:Int
 subj:Txt
 case:Txt
 field:Txt
 to:Txt
 val:bu
 review:Int
 text:Txt
 reason:Txt
 glass:Bool
structure yj where
 tick:Int
 actor:Txt
 what:Txt
structure cM where
 name:Txt
 val:bu
structure aM where
 id:Txt
 owner:Txt
 state:Txt
 fields:List cM
 log:List yj
structure qJ where
 id:Int
 tick:Int
 subj:Txt
 case:Txt
 action:Txt
 reason:Txt
 isOpen:Bool
structure Jo where
 tick:Int
 case:Txt
 arg:Txt
structure iD where
 subj:Txt
 role:Txt
structure an where
 tick:Int
 cases:List aM
 reviews:List qJ
 notices:List Jo
 roles:List iD
 policy:bD
 version:Int
structure bt where
 cat:Int
 name:Txt
 bag:List bu
def opC(o:OpD):List AV:=[.i o.kind,.s o.subj,.s o.case,.s o.field,.s o.to,.i o.val.kind,.i o.val.n,.s o.val.s,.i o.review,.s o.text,.s o.reason,.b o.glass]
def opA(o:OpD):AV:=.agg (opC o)
def iW(x:yj):AV:=.agg [.i x.tick,.s x.actor,.s x.what]
def bN(f:cM):AV:=.agg [.s f.name,.i f.val.kind,.i f.val.n,.s f.val.s]
def gI(l:List cM):AV:=.sl (l.map bN) .no
def tf(l:List yj):AV:=.sl (l.map iW) .no
def nU(c:aM):List AV:=[.s c.id,.s c.owner,.s c.state,gI c.fields,tf c.log]
def cu(c:aM):AV:=.agg (nU c)
def gw(l:List aM):AV:=.sl (l.map cu) .no
def jb(r:qJ):AV:=.agg [.i r.id,.i r.tick,.s r.subj,.s r.case,.s r.action,.s r.reason,.b r.isOpen]
def kR(l:List qJ):AV:=.sl (l.map jb) .no
def nO(n:Jo):AV:=.agg [.i n.tick,.s n.case,.s n.arg]
def lU(l:List Jo):AV:=.sl (l.map nO) .no
def eW(r:iD):AV:=.agg [.s r.subj,.s r.role]
def eJ(l:List iD):AV:=.sl (l.map eW) .no
def gq:bD→List AV
 |.mk id set alg tgt rules kids obls=>[.s id,.b set,.i alg,aV tgt,.sl (rules.map aC) .no,.sl (fO kids) .no,ay obls]
theorem Qq(p:bD):aO p= .agg (gq p):=by cases p;rfl
def cG(s:an):AV:=.agg ([.i s.tick,gw s.cases,kR s.reviews,lU s.notices,eJ s.roles]++gq s.policy++ [.i s.version])
def lO(g:bt):AV:=.agg [.i g.cat,.s g.name,.sl (g.bag.map aS) .no]
def bJ(l:List bt):AV:=.sl (l.map lO) .no
def geB(a b:Txt):Bool:= !(Op.bytesLess a b)
def findD(cs:List aM)(id:Txt):Nat:=cs.findIdx fun c=>geB c.id id
def bZ(cs:List aM)(id:Txt):Bool:=match cs[findD cs id]? with
 |some c=>c.id==id
 |none=>false
def aq:bu:=⟨0,0,[]⟩
def pz:aM:=⟨[],[],[],[],[]⟩
def bw(cs:List aM)(id:Txt):aM:=if bZ cs id then cs.getD (findD cs id) pz else pz
def dU(fs:List cM)(name:Txt):bu:=match fs.find? fun f=>f.name==name with
 |some f=>f.val
 |none=>aq
def vq(a b:iD):Bool:=a.subj==b.subj && a.role==b.role
def yZ(l:List iD)(r:iD):Bool:=l.any (vq r)
def jV:Txt:=[111,112,101,110]
def xD:Txt:=[119,111,114,107]
def Bb:Txt:=[100,111,110,101]
def ij:Txt:=[99,108,111,115,101,100]
def nq(a b:Txt):Bool:=
 if a==jV then b==xD else if a==xD then b==Bb else if a==Bb then b==xD||b==ij else false
def Vs:List Txt:=[[110,101,119],[114,101,97,100],[119,114,105,116,101],[109,111,118,101],[99,108,111,115,101],[114,111,108,101],[112,111,108,105,99,121]]
def iV(k:Int):Txt:=if k<1∨k>7 then [116,105,99,107]else Vs.getD (k - 1).toNat []
def tq(k:Int):Bool:=decide (1≤k) && decide (k≤4)
def jn(s:Txt):Bool:=s== []||bp s
def lE(o:OpD):Bool:=if o.glass then tq o.kind && (!(o.reason== [])) && decide (o.reason.length≤64)else o.reason== []
def jh(o:OpD):OpD:=
 let z:OpD:=⟨o.kind,[],[],[],[],aq,0,[],[],false⟩
 if o.kind=1 then {z with case:=o.case}
 else if o.kind=2∨o.kind=6 then {z with case:=o.case,field:=o.field}
 else if o.kind=3 then {z with case:=o.case,field:=o.field,val:=o.val}
 else if o.kind=4 then {z with case:=o.case,to:=o.to}
 else if o.kind=5∨o.kind=8 then {z with review:=o.review}
 else {z with text:=o.text}
def eqV(a b:bu):Bool:=a.kind==b.kind && (a.n==b.n && a.s==b.s)
def nN(a b:OpD):Bool:=a.kind==b.kind && (a.subj==b.subj && (a.case==b.case && (a.field==b.field && (a.to==b.to && (a.val.kind==b.val.kind && (a.val.n==b.val.n && (a.val.s==b.val.s && (a.review==b.review && (a.text==b.text && (a.reason==b.reason && a.glass==b.glass))))))))))
def okD(o:OpD):Bool:=
 if o.kind=1 then !(o.case== [])
 else if o.kind=2∨o.kind=6 then !(o.case== []) && !(o.field== [])
 else if o.kind=3 then !(o.case== []) && !(o.field== []) && !(eqV o.val aq)
 else if o.kind=4 then !(o.case== []) && !(o.to== [])
 else if o.kind=5 then decide (0<o.review)
 else if o.kind=8 then decide (0<o.review) && decide (o.review≤1099511627776)
 else true
def ic(o:OpD):OpD:={o with subj:=[],reason:=[],glass:=false}
def dW(o:OpD):Bool:=decide (1≤o.kind) && decide (o.kind≤8) && okD o && nN (ic o) (jh o)
def cN(o:OpD):Bool:=bp o.subj && lE o && decide (o.text.length≤4096) && jn o.case && jn o.field && jn o.to && (eqV o.val aq||bz o.val) && dW o
def bT(s:an)(o:OpD):Int:=
 let c:=bw s.cases o.case
 if bZ s.cases o.case=false then 10
 else if o.kind=3∧c.fields.length≥16∧eqV (dU c.fields o.field) aq=true then 6
 else if o.kind≠2∧c.log.length≥256 then 6
 else if o.kind=3∧c.state=ij∨o.kind=4∧nq c.state o.to=false then 13
 else 0
def xo(l:List qJ)(n:Int):Option qJ:=if 1≤n then l[(n - 1).toNat]? else none
def fB(s:an)(o:OpD):Int:=match xo s.reviews o.review with
 |none=>10
 |some r=>if r.isOpen=false then 10 else if r.subj=o.subj then 12 else 0
def bI(s:an)(o:OpD):Int:=
 if cN o=false then 1
 else if o.kind=1 then(if bZ s.cases o.case then 11 else if s.cases.length≥64 then 6 else 0)
 else if 2≤o.kind∧o.kind≤4 then bT s o
 else if o.kind=5 then fB s o
 else if o.kind=6 then(if s.roles.length≥64∧yZ s.roles ⟨o.case,o.field⟩=false then 6 else 0)
 else if o.kind=8 then(if s.tick>1099511627776 - o.review then 6 else 0)
 else 0
def idV(s:Txt):bu:=⟨5,0,s⟩
def u6(l:List yj)(subj:Txt):bu:=⟨1,if l.any (fun x=>x.actor==subj)then 1 else 0,[]⟩
def idT:Txt:=[105,100]
def cE(c:aM)(subj:Txt):List bt:=
 [⟨3,idT,[idV c.id]⟩,⟨3,[111,119,110,101,114],[idV c.owner]⟩,⟨3,[115,116,97,116,101],[idV c.state]⟩,⟨3,[101,118,101,110,116,115],[⟨2,c.log.length,[]⟩]⟩,⟨3,[116,111,111,107],[u6 c.log subj]⟩]++
 (match c.log.getLast? with
  |some x=>[⟨3,[108,97,115,116],[idV x.actor]⟩]
  |none=>[])++
 (c.fields.filter fun f=>decide (f.name.length≤14)).map fun f=>⟨3,[102,95]++f.name,[f.val]⟩
def dw(l:List iD)(subj:Txt):List bu:=((l.filter fun r=>r.subj==subj).map fun r=>idV r.role).take 16
def fQ(s:an)(o:OpD):List bt:=
 [⟨1,idT,[idV o.subj]⟩,⟨1,[114,111,108,101],dw s.roles o.subj⟩,⟨2,[110,97,109,101],[idV (iV o.kind)]⟩]++
 (if o.field= []then []else [⟨2,[102,105,101,108,100],[idV o.field]⟩])++
 (if o.to= []then []else [⟨2,[116,111],[idV o.to]⟩])++
 [⟨4,[110,111,119],[⟨4,s.tick,[]⟩]⟩]++
 (if bZ s.cases o.case=true∧o.kind≠6 then cE (bw s.cases o.case) o.subj else [])
def eO(fs:List cM)(name:Txt)(v:bu):List cM:=
 let i:=fs.findIdx fun f=>geB f.name name
 match fs[i]? with
 |none=>fs++ [⟨name,v⟩]
 |some f=>if f.name=name then fs.set i ⟨f.name,v⟩else fs.take i++ [⟨name,v⟩]++fs.drop i
def jG(s:an)(c:aM)(actor what:Txt):aM:={c with log:=c.log++ [⟨s.tick,actor,what⟩]}
def doD(par:Txt→bD×Int×Int)(s:an)(o:OpD):an:=
 let i:=findD s.cases o.case
 if o.kind=1 then {s with cases:=s.cases.take i++ [jG s ⟨o.case,o.subj,jV,[],[]⟩ o.subj [110,101,119]]++s.cases.drop i}
 else if o.kind=3 then {s with cases:=s.cases.modify i fun c=>jG s {c with fields:=eO c.fields o.field o.val} o.subj [119,114,105,116,101]}
 else if o.kind=4 then {s with cases:=s.cases.modify i fun c=>jG s {c with state:=o.to} o.subj o.to}
 else if o.kind=5 then {s with reviews:=s.reviews.modify (o.review - 1).toNat fun r=> {r with isOpen:=false}}
 else if o.kind=6 then(if yZ s.roles ⟨o.case,o.field⟩then s else {s with roles:=s.roles++ [⟨o.case,o.field⟩]})
 else if o.kind=7 then(if(par o.text).2.1=0 then {s with policy:=(par o.text).1,version:=s.version+1} else s)
 else if o.kind=8 then {s with tick:=s.tick+o.review}
 else s
def cR(par:Txt→bD×Int×Int)(s:an)(o:OpD):an:=if bI s o=0 then doD par s o else s
def i64(n:Int):Prop:= -9223372036854775808≤n∧n≤9223372036854775807
end Go.Bf
namespace Go.Proofs.YtelkmnkejghkeaaGreatDoor
open Go Go.Ab Go.Bf Tryz
theorem aB{h:Heap}{i j:Nat}{b:Blk}(e:upd h i (some b) j=none):h j=none:=by grind [ag,aI]
theorem OF{v:bu}(h:(v.kind==(0:Int) && (v.n==(0:Int) && v.s==([]:Txt)))=false):¬v.kind=0∨¬v.n=0∨¬v.s= []:=by grind
theorem OE{v:bu}(h:(v.kind==(0:Int) && (v.n==(0:Int) && v.s==([]:Txt)))=true):v.kind=0∧v.n=0∧v.s= []:=by grind
theorem KG(k:Int)(h:Heap):ai prog 137 [.i k] h fun r h' =>r= .b (tq k)∧h' =h:=by
 refine aeB func137 9 [.tmp 2] fun hwf=>?_
 cases d1:decide (1≤k)
 ·simp only[go_sem,d1]
  exact .same (.refl _) ⟨by simp only[tq,d1,ax,Bool.false_and],rfl⟩
 ·simp only[go_sem,d1]
  exact .same (.refl _) ⟨by simp_all [tq,ax,Bool.true_and],rfl⟩
theorem yL(s:Txt)(h:Heap):ai prog 80 [.s s] h fun r h' =>r= .b (jn s)∧h' =h:=by
 refine aeB func80 9 [.tmp 2] fun hwf=>?_
 cases d1:(s==([]:Txt))
 ·simp only[go_sem,d1]
  refine(pT s h).pthen ?_;simp only[go_sem];exact .same (.refl _) ⟨by simp_all [jn,ax,Bool.false_or],rfl⟩
 ·simp only[go_sem,d1]
  exact .same (.refl _) ⟨by simp_all [jn,ax,Bool.true_or],rfl⟩
theorem Gm(a b:Txt)(h:Heap):ai prog 141 [.s a,.s b] h fun r h' =>r= .b (nq a b)∧h' =h:=by
 refine aeB func141 22 [.tmp 4] fun hwf=>?_
 cases d1:(a==jV)<;>cases d2:(a==xD)<;>cases d3:(a==Bb)<;>cases d4:(b==xD)<;>simp only[jV,xD,Bb]at d1 d2 d3 d4<;>simp only[go_sem,d1,d2,d3,d4]<;>
  exact .same (.refl _) ⟨by simp only[nq,d1,d2,d3,d4,ax,jV,xD,Bb,ij,if_true,Bool.false_eq_true,if_false,Bool.true_or,Bool.false_or],rfl⟩
theorem vi(k:Int)(hk:i64 k)(h:Heap):ai prog 75 [.i k] h fun r h' =>r= .s (iV k)∧h' =h:=by
 refine aeB func75 18 [.tmp 2] fun hwf=>?_
 simp only[go_sem];cases d1:decide (k<1)
 case true=>
  simp only[go_sem];exact .same (.refl _) ⟨by simp_all [iV,aeu,true_or,if_true,ax],rfl⟩
 cases d2:decide ((7:Int)<k)
 case true=>
  simp only[go_sem,d2];exact .same (.refl _) ⟨by simp_all [iV,aeu,or_true,if_true,ax],rfl⟩
 have h1:=aev d1;have h2:=aev d2;obtain⟨j,rfl⟩:∃j:Nat,k=(j:Int)+1:=⟨(k - 1).toNat,aeC⟩;have hj:j<7:=aeC;have w1:IntKind.i64.wrap ((j:Int)+1 - 1)=(j:Int):=aeN;simp only[go_sem,d2,w1];refine .at j aeC (by rcases j with _|_|_|_|_|_|_|j<;>first|rfl|omega) ?_
 rcases j with _|_|_|_|_|_|_|j
 all_goals first|omega|skip
 all_goals
  simp only[go_sem,List.getElem_cons_zero,List.getElem_cons_succ];exact .same (.refl _) ⟨aeR,rfl⟩
theorem KU(o:OpD)(h:Heap):ai prog 79 [opA o] h fun r h' =>r= .v (.bool (lE o))∧h' =h:=by
 refine aeB func79 23 [.tmp 2] fun hwf=>?_
 simp only[go_sem,opA,opC];intro id hid;cases d1:o.glass
 ·simp only[go_sem]
  exact aj3
 simp only[go_sem];refine(KG _ _).pthen ?_;cases d2:tq o.kind
 ·simp only[go_sem]
  exact aj3
 cases d3:(o.reason==([]:Txt))
 ·simp only[go_sem,d3]
  exact .mk _ (.refl _) (.aj hid) ⟨by
   simp only[lE,d1,d2,d3,ax,if_true,Bool.not_false,Bool.true_and]
   congr 2
   grind,rfl⟩
 ·simp only[go_sem,d3]
  exact aj3
theorem Pe(o:OpD)(h:Heap):ai prog 138 [opA o] h fun r h' =>r=opA (ic o)∧h' =h:=by
 refine aeB func138 7 [.cell 2 50] fun hwf=>?_
 simp only[go_sem,opA,opC];intro i1 h1;simp only[go_sem];intro i2 h2;have hne:=aI h2;simp only[go_sem,ak,hne,hne.symm];have n2:=aB h2;exact .mk _ (.refl _) (((((Sub.refl h).put h1 _).put n2 _).put h1 _).put n2 _) ⟨rfl,rfl⟩
theorem Oo(o:OpD)(h:Heap):ai prog 82 [opA o] h fun r h' =>r= .b (dW o)∧h' =h:=by
 have hb:=fun hh=>Pe o hh
 simp only[ic,opA,opC]at hb;refine aeB func82 111 [.tmp 2] fun hwf=>?_
 simp only[go_sem,opA,opC];intro i1 h1;simp only[go_sem];refine(hb _).pthen ?_;simp only[go_sem];intro i3 h3;have n31:=aI h3;have n3:=aB h3;simp only[go_sem,ak,n31.symm];intro i4 h4;have n43:=aI h4;have h4' :=aB h4;have n41:=aI h4';have n4:=aB h4';have bnd:o.kind≠1→o.kind≠2→o.kind≠3→o.kind≠4→o.kind≠5→o.kind≠6→o.kind≠7→o.kind≠8→(decide (1≤o.kind) && decide (o.kind≤8))=false:=by
  intro a1 a2 a3 a4 a5 a6 a7 a8;simp only[Bool.and_eq_false_iff,decide_eq_false_iff_not];omega
 by_cases k1:o.kind=1
 ·simp only[go_sem,ak,n31.symm,n41.symm,k1]
  cases dcase:(o.case==([]:Txt))
  ·simp only[go_sem,ak,n43.symm]
   exact .mk _ (.refl _) aeI ⟨by simp[dW,okD,jh,ic,nN,aq,ax,k1,decide_true,dcase,Bool.and_true,Bool.true_and,Bool.not_false],rfl⟩
  ·simp only[go_sem]
   exact .mk _ (.refl _) aeI ⟨by simp[dW,okD,jh,ic,nN,aq,ax,k1,decide_true,dcase,Bool.and_true,Bool.true_and,Bool.false_and,Bool.and_false,Bool.not_true],rfl⟩
 by_cases k2:o.kind=2
 ·simp only[go_sem,ak,n31.symm,n41.symm,k2,Int.reduceBEq]
  refine .calls (hm1 i1 _) [0,1,2,3,4,5,6,7] (.hm1 agm) aeF rfl ?_;simp only[go_sem,ak,n31.symm,n41.symm];refine⟨(.hm1 ae1),(.hm1 ae1),?_⟩;cases dcase:(o.case==([]:Txt))
  ·simp only[go_sem,ak,n31.symm,n41.symm]
   cases dfield:(o.field==([]:Txt))
   ·simp only[go_sem,ak,n43.symm]
    exact .mk _ (.refl _) aeI ⟨by simp[dW,okD,jh,ic,nN,aq,ax,k2,decide_true,dcase,dfield,Bool.and_true,Bool.true_and,Bool.not_false],rfl⟩
   ·simp only[go_sem]
    exact .mk _ (.refl _) aeI ⟨by simp[dW,okD,jh,ic,nN,aq,ax,k2,decide_true,dcase,dfield,Bool.and_true,Bool.true_and,Bool.false_and,Bool.and_false,Bool.not_true,Bool.not_false],rfl⟩
  ·simp only[go_sem]
   exact .mk _ (.refl _) aeI ⟨by simp[dW,okD,jh,ic,nN,aq,ax,k2,decide_true,dcase,Bool.and_true,Bool.true_and,Bool.false_and,Bool.and_false,Bool.not_true],rfl⟩
 by_cases k6:o.kind=6
 ·simp only[go_sem,ak,n31.symm,n41.symm,k6,Int.reduceBEq]
  refine .calls (hm1 i1 _) [0,1,2,3,4,5,6,7] (.hm1 agm) aeF rfl ?_;simp only[go_sem,ak,n31.symm,n41.symm];refine⟨(.hm1 ae1),(.hm1 ae1),?_⟩;cases dcase:(o.case==([]:Txt))
  ·simp only[go_sem,ak,n31.symm,n41.symm]
   cases dfield:(o.field==([]:Txt))
   ·simp only[go_sem,ak,n43.symm]
    exact .mk _ (.refl _) aeI ⟨by simp[dW,okD,jh,ic,nN,aq,ax,k6,decide_true,dcase,dfield,Bool.and_true,Bool.true_and,Bool.not_false],rfl⟩
   ·simp only[go_sem]
    exact .mk _ (.refl _) aeI ⟨by simp[dW,okD,jh,ic,nN,aq,ax,k6,decide_true,dcase,dfield,Bool.and_true,Bool.true_and,Bool.false_and,Bool.and_false,Bool.not_true,Bool.not_false],rfl⟩
  ·simp only[go_sem]
   exact .mk _ (.refl _) aeI ⟨by simp[dW,okD,jh,ic,nN,aq,ax,k6,decide_true,dcase,Bool.and_true,Bool.true_and,Bool.false_and,Bool.and_false,Bool.not_true],rfl⟩
 by_cases k3:o.kind=3
 ·simp only[go_sem,ak,n31.symm,n41.symm,k3,Int.reduceBEq]
  refine .calls (hm1 i1 _) [0,1,2,3,4,5,6,7,8,9,10,11] (.hm1 agm) aeF rfl ?_;simp only[go_sem,ak,n31.symm,n41.symm];refine⟨(.hm1 ae1),(.hm1 ae1),(.hm1 ae1),?_⟩;cases dcase:(o.case==([]:Txt))
  ·simp only[go_sem,ak,n31.symm,n41.symm]
   cases dfield:(o.field==([]:Txt))
   ·simp only[go_sem,ak,n31.symm,n41.symm]
    cases dval:(o.val.kind==(0:Int) && (o.val.n==(0:Int) && o.val.s==([]:Txt)))
    ·simp only[go_sem,ak,n43.symm]
     exact .mk _ (.refl _) aeI ⟨ae8,rfl⟩
    ·simp only[go_sem]
     exact .mk _ (.refl _) aeI ⟨ae8,rfl⟩
   ·simp only[go_sem]
    exact .mk _ (.refl _) aeI ⟨by simp[dW,okD,jh,ic,nN,eqV,aq,ax,k3,decide_true,dcase,dfield,Bool.and_true,Bool.true_and,Bool.false_and,Bool.and_false,Bool.not_true,Bool.not_false],rfl⟩
  ·simp only[go_sem]
   exact .mk _ (.refl _) aeI ⟨by simp[dW,okD,jh,ic,nN,eqV,aq,ax,k3,decide_true,dcase,Bool.and_true,Bool.true_and,Bool.false_and,Bool.and_false,Bool.not_true],rfl⟩
 by_cases k4:o.kind=4
 ·simp only[go_sem,ak,n31.symm,n41.symm,k4,Int.reduceBEq]
  refine .calls (hm1 i1 _) [0,1,2,3,4,5,6,7] (.hm1 agm) aeF rfl ?_;simp only[go_sem,ak,n31.symm,n41.symm];refine⟨(.hm1 ae1),(.hm1 ae1),?_⟩;cases dcase:(o.case==([]:Txt))
  ·simp only[go_sem,ak,n31.symm,n41.symm]
   cases dto:(o.to==([]:Txt))
   ·simp only[go_sem,ak,n43.symm]
    exact .mk _ (.refl _) aeI ⟨by simp[dW,okD,jh,ic,nN,aq,ax,k4,decide_true,dcase,dto,Bool.and_true,Bool.true_and,Bool.not_false],rfl⟩
   ·simp only[go_sem]
    exact .mk _ (.refl _) aeI ⟨by simp[dW,okD,jh,ic,nN,aq,ax,k4,decide_true,dcase,dto,Bool.and_true,Bool.true_and,Bool.false_and,Bool.and_false,Bool.not_true,Bool.not_false],rfl⟩
  ·simp only[go_sem]
   exact .mk _ (.refl _) aeI ⟨by simp[dW,okD,jh,ic,nN,aq,ax,k4,decide_true,dcase,Bool.and_true,Bool.true_and,Bool.false_and,Bool.and_false,Bool.not_true],rfl⟩
 by_cases k5:o.kind=5
 ·simp only[go_sem,ak,n31.symm,n41.symm,k5,Int.reduceBEq]
  cases drev0:decide ((0:Int)<o.review)
  ·simp only[go_sem]
   exact .mk _ (.refl _) aeI ⟨by simp[dW,okD,jh,ic,nN,aq,ax,k5,decide_true,drev0,Bool.and_true,Bool.true_and,Bool.false_and,Bool.and_false],rfl⟩
  ·simp only[go_sem,ak,n43.symm]
   exact .mk _ (.refl _) aeI ⟨by simp[dW,okD,jh,ic,nN,aq,ax,k5,decide_true,drev0,Bool.and_true,Bool.true_and],rfl⟩
 by_cases k7:o.kind=7
 ·simp only[go_sem,ak,n31.symm,n43.symm,n41.symm,k7,Int.reduceBEq]
  exact .mk _ (.refl _) aeI ⟨by simp[dW,okD,jh,ic,nN,aq,ax,k7,decide_true,Bool.and_true,Bool.true_and],rfl⟩
 by_cases k8:o.kind=8
 ·simp only[go_sem,ak,n31.symm,n41.symm,k8,Int.reduceBEq]
  cases drev0:decide ((0:Int)<o.review)
  ·simp only[go_sem]
   exact .mk _ (.refl _) aeI ⟨by simp[dW,okD,jh,ic,nN,aq,ax,k8,decide_true,drev0,Bool.and_true,Bool.true_and,Bool.false_and,Bool.and_false],rfl⟩
  ·simp only[go_sem,ak,n31.symm,n41.symm]
   cases drev1:decide (o.review≤(1099511627776:Int))
   ·simp only[go_sem]
    exact .mk _ (.refl _) aeI ⟨by simp[dW,okD,jh,ic,nN,aq,ax,k8,decide_true,drev0,drev1,Bool.and_true,Bool.true_and,Bool.false_and,Bool.and_false],rfl⟩
   ·simp only[go_sem,ak,n43.symm]
    exact .mk _ (.refl _) aeI ⟨by simp[dW,okD,jh,ic,nN,aq,ax,k8,decide_true,drev0,drev1,Bool.and_true,Bool.true_and],rfl⟩
 simp only[go_sem,ak,n31.symm,n41.symm,beq_eq_false_iff_ne.2 k1,beq_eq_false_iff_ne.2 k2,beq_eq_false_iff_ne.2 k6,beq_eq_false_iff_ne.2 k3,beq_eq_false_iff_ne.2 k4,beq_eq_false_iff_ne.2 k5,beq_eq_false_iff_ne.2 k7,beq_eq_false_iff_ne.2 k8];exact .mk _ (.refl _) aeI ⟨by simp only[dW,bnd k1 k2 k3 k4 k5 k6 k7 k8,Bool.false_and,ax],rfl⟩
theorem Cw(o:OpD)(h:Heap):ai prog 39 [opA o] h fun r h' =>r= .b (cN o)∧h' =h:=by
 have hr:=fun hh=>KU o hh
 have ht:=fun hh=>Oo o hh
 have hv:=fun hh=>ga o.val hh
 simp only[opA,opC,aS]at hr ht hv;refine aeB func39 48 [.tmp 2] fun hwf=>?_
 simp only[go_sem,opA,opC];intro i1 h1;simp only[go_sem];refine(pT o.subj _).pthen ?_;cases d1:bp o.subj
 ·simp only[go_sem]
  exact .mk _ (.refl _) (.aj h1) ⟨by simp_all [cN,Bool.false_and,ax],rfl⟩
 simp only[go_sem];refine(hr _).pthen ?_;cases d2:lE o
 ·exact ajj
 cases d3:decide ((4096:Int)<(o.text.length:Int))
 case true=>
  have e3:decide (o.text.length≤4096)=false:=decide_eq_false aeD;simp only[go_sem,d3];exact .mk _ (.refl _) (.aj h1) ⟨by simp only[cN,d1,d2,e3,Bool.false_and,Bool.true_and,ax],rfl⟩
 have e3:decide (o.text.length≤4096)=true:=decide_eq_true aeD;simp only[go_sem,d3];refine(yL o.case _).pthen ?_;cases d4:jn o.case
 ·exact ajj
 simp only[go_sem];refine(yL o.field _).pthen ?_;cases d5:jn o.field
 ·exact ajj
 simp only[go_sem];refine(yL o.to _).pthen ?_;cases d6:jn o.to
 ·exact ajj
 cases d7:(o.val.kind==(0:Int) && (o.val.n==(0:Int) && o.val.s==([]:Txt)))
 ·simp only[go_sem,d7]
  refine(hv _).pthen ?_;have e7:eqV o.val aq=false:=d7;cases d8:bz o.val
  ·simp only[go_sem]
   exact .mk _ (.refl _) (.aj h1) ⟨by simp_all [cN,Bool.or_self,Bool.false_and,Bool.true_and,ax],rfl⟩
  simp only[go_sem];refine(ht _).pthen ?_;simp only[go_sem];exact .mk _ (.refl _) (.aj h1) ⟨by simp_all [cN,Bool.false_or,Bool.true_and,ax],rfl⟩
 ·simp only[go_sem,d7]
  have e7:eqV o.val aq=true:=d7;refine(ht _).pthen ?_;simp only[go_sem];exact .mk _ (.refl _) (.aj h1) ⟨by simp_all [cN,Bool.true_or,Bool.true_and,ax],rfl⟩
end Go.Proofs.YtelkmnkejghkeaaGreatDoor
namespace Go.Bf
open Go Go.Ab
def ixD{α:Type}(q:α→Bool)(l:List α):Int:=if l.findIdx q<l.length then(l.findIdx q:Nat)else -1
theorem oJ{α:Type}{q:α→Bool}{l:List α}{i:Nat}(hi:i<l.length)(h1:q l[i]=true)(h2:∀j (hj:j<i),q (l[j]'aeC)=false):ixD q l=(i:Nat):=by
 have e:l.findIdx q=i:=by grind [List.findIdx_eq]
 rw[ixD,e,if_pos hi]
theorem jw{α:Type}{q:α→Bool}{l:List α}(h:∀j (hj:j<l.length),q l[j]=false):ixD q l= -1:=by have e:l.findIdx q=l.length:=aeD;rw[ixD,e,if_neg (Nat.lt_irrefl _)]
end Go.Bf
namespace Go.Proofs.YtelkmnkejghkeaaGreatDoor
open Go Go.Ab Go.Bf Tryz
variable {x:AV}{c:aM}{cs:List aM}{s:an}{name:Txt}{fs:List cM}
theorem vD{α:Type}(y:AV)(xs:List AV)(ds:List α)(q:α→Bool)(g:FuncId)(cap:List AV)(h:Heap)(hb:Rd h 5 y xs)(hn:xs.length=ds.length)(hl:xs.length≤1000000000)(hx:∀x∈xs,bA x=true)
  (hp:∀i (h1:i<xs.length) (h2:i<ds.length),ai prog g (xs[i]::cap) h fun r h' =>r= .b (q ds[i])∧h' =h):
  ai prog 139 [y,.fn g cap] h fun r h' =>r= .i (ixD q ds)∧h' =h:=by
 refine aeB func139 19 [.tmp 4] fun hwf=>?_
 simp only[go_sem,hb.len];refine .intro (fun m ρ h' =>h' =h∧∃i:Nat,i≤xs.length∧m=xs.length - i∧(∀j (hj:j<i) (h2:j<ds.length),q ds[j]=false)∧lk ρ 0=some y∧lk ρ 1=some (.fn g cap)∧lk ρ 7=some (.i xs.length)∧lk ρ 8=some (.i i)) xs.length ?_ ?_
 ·refine⟨rfl,0,aeC,rfl,fun j hj=>aeC,?_,?_,?_,?_⟩<;>simp only[go_sem]
 ·rintro m ρ h' ⟨rfl,i,hi,rfl,hc,r0,r1,r7,r8⟩
  simp only[go_sem,r7,r8];refine .intro (fun e=>?_) (fun e=>?_)
  ·have hlt:i<xs.length:=aez e
   have hlt2:i<ds.length:=aeC;have w1:IntKind.i64.wrap ((i:Int)+1)=((i+1:Nat):Int):=aeN;simp only[go_sem,r0,r1,r8];refine hb.idx (e:=120) i rfl hlt aeR aeG fun p hp1=>?_
   have hld:=hp1.all (U:=U) (ty:=120) aeG afy agt;simp only[go_sem,hld];refine(show ai prog g (xs[i]::cap) _ _ from hp i hlt hlt2).pthen ?_
   cases d1:q ds[i]
   ·simp only[go_sem,r8,w1]
    refine⟨_,?_,rfl,i+1,aeC,rfl,fun j hj h2=>?_,?_,?_,?_,?_⟩
    ·omega
    ·grind
    all_goals simp only[go_sem,r0,r1,r7]
   ·simp only[go_sem]
    exact .same (.refl _) ⟨afm,rfl⟩
  ·have hge:i=xs.length:=by grind
   simp only[go_sem];exact .same (.refl _) ⟨ae7,rfl⟩
theorem zg{α:Type}(y:AV)(xs:List AV)(ds:List α)(q:α→Bool)(g:FuncId)(cap:List AV)(h:Heap)(hb:Rd h 4 y xs)(hn:xs.length=ds.length)(hl:xs.length≤1000000000)(hx:∀x∈xs,bA x=true)
  (hp:∀i (h1:i<xs.length) (h2:i<ds.length),ai prog g (xs[i]::cap) h fun r h' =>r= .b (q ds[i])∧h' =h):
  ai prog 109 [y,.fn g cap] h fun r h' =>r= .i (ixD q ds)∧h' =h:=by
 refine aeB func109 19 [.tmp 4] fun hwf=>?_
 simp only[go_sem,hb.len];refine .intro (fun m ρ h' =>h' =h∧∃i:Nat,i≤xs.length∧m=xs.length - i∧(∀j (hj:j<i) (h2:j<ds.length),q ds[j]=false)∧lk ρ 0=some y∧lk ρ 1=some (.fn g cap)∧lk ρ 7=some (.i xs.length)∧lk ρ 8=some (.i i)) xs.length ?_ ?_
 ·refine⟨rfl,0,aeC,rfl,fun j hj=>aeC,?_,?_,?_,?_⟩<;>simp only[go_sem]
 ·rintro m ρ h' ⟨rfl,i,hi,rfl,hc,r0,r1,r7,r8⟩
  simp only[go_sem,r7,r8];refine .intro (fun e=>?_) (fun e=>?_)
  ·have hlt:i<xs.length:=aez e
   have hlt2:i<ds.length:=aeC;have w1:IntKind.i64.wrap ((i:Int)+1)=((i+1:Nat):Int):=aeN;simp only[go_sem,r0,r1,r8];refine hb.idx (e:=196) i rfl hlt aeR aeG fun p hp1=>?_
   have hld:=hp1.all (U:=U) (ty:=196) aeG afy agt;simp only[go_sem,hld];refine(show ai prog g (xs[i]::cap) _ _ from hp i hlt hlt2).pthen ?_
   cases d1:q ds[i]
   ·simp only[go_sem,r8,w1]
    refine⟨_,?_,rfl,i+1,aeC,rfl,fun j hj h2=>?_,?_,?_,?_,?_⟩
    ·omega
    ·grind
    all_goals simp only[go_sem,r0,r1,r7]
   ·simp only[go_sem]
    exact .same (.refl _) ⟨afm,rfl⟩
  ·have hge:i=xs.length:=by grind
   simp only[go_sem];exact .same (.refl _) ⟨ae7,rfl⟩
def RdC(h:Heap)(x:AV)(c:aM):Prop:=∃f l,x= .agg [.s c.id,.s c.owner,.s c.state,f,l]∧Rd h 4 f (c.fields.map bN)∧Rd h 3 l (c.log.map iW)
def Au(h:Heap)(y:AV)(cs:List aM):Prop:=∃xs,Rd h 5 y xs∧xs.length=cs.length∧∀i (h1:i<xs.length) (h2:i<cs.length),RdC h xs[i] cs[i]
def RdS(h:Heap)(x:AV)(s:an):Prop:=∃y1 y2 y3 y4,x= .agg ([.i s.tick,y1,y2,y3,y4]++gq s.policy++ [.i s.version])∧Au h y1 s.cases∧Rd h 7 y2 (s.reviews.map jb)∧Rd h 3 y3 (s.notices.map nO)∧Rd h 2 y4 (s.roles.map eW)
theorem RdC.sub{h h' :Heap}(hb:RdC h x c)(hs:Ab.Sub h h'):RdC h' x c:=by obtain⟨f,l,e,h1,h2⟩:=hb;exact⟨f,l,e,h1.sub hs,h2.sub hs⟩
theorem Au.sub{h h' :Heap}{y:AV}(hb:Au h y cs)(hs:Ab.Sub h h'):Au h' y cs:=by obtain⟨xs,h1,h2,h3⟩:=hb;exact⟨xs,h1.sub hs,h2,fun i a b=>(h3 i a b).sub hs⟩
theorem RdS.sub{h h' :Heap}(hb:RdS h x s)(hs:Ab.Sub h h'):RdS h' x s:=by obtain⟨y1,y2,y3,y4,e,h1,h2,h3,h4⟩:=hb;exact⟨y1,y2,y3,y4,e,h1.sub hs,h2.sub hs,h3.sub hs,h4.sub hs⟩
theorem bx{α:Type}{f:α→AV}{n:Nat}(hf:∀a,(f a).cells.length=n)(l:List α):Sized n (l.map f):=fun z hz=>by
 grind
theorem pH{α:Type}{f:α→AV}(hf:∀a,bA (f a)=true)(l:List α):∀x∈l.map f,bA x=true:=fun z hz=>by
 obtain⟨a,_,rfl⟩:=List.mem_map.1 hz;exact hf a
theorem eE{α:Type}(f:α→AV)(n:Nat)(hf:∀a,(f a).cells.length=n)(h:Heap)(l:List α):Rd h n (.sl (l.map f) .no) (l.map f):=.sl (bx hf l) _
theorem rdC(h:Heap)(c:aM):RdC h (cu c) c:=⟨_,_,rfl,eE bN 4 (fun _=>rfl) h _,eE iW 3 (fun _=>rfl) h _⟩
theorem Zo(h:Heap)(cs:List aM):Au h (gw cs) cs:=⟨_,eE cu 5 (fun _=>rfl) h cs,aeJ,fun i h1 h2=>by grind [rdC]⟩
theorem rdS(h:Heap)(s:an):RdS h (cG s) s:=⟨_,_,_,_,rfl,Zo h _,eE jb 7 (fun _=>rfl) h _,eE nO 3 (fun _=>rfl) h _,eE eW 2 (fun _=>rfl) h _⟩
theorem RdC.agg{h:Heap}(hb:RdC h x c):bA x=true:=by obtain⟨f,l,rfl,_⟩:=hb;rfl
theorem Au.agg{h:Heap}{xs:List AV}(hn:xs.length=cs.length)(hb:∀i (h1:i<xs.length) (h2:i<cs.length),RdC h xs[i] cs[i]):∀x∈xs,bA x=true:=fun x hx=>by
 obtain⟨i,hi,rfl⟩:=List.mem_iff_getElem.1 hx;exact(hb i hi aeC).agg
theorem ot:(U 120).sz=5:=aeR
theorem HI:(U 196).sz=4:=aeR
theorem Lt:(U 9).sz≠0:=aeG
theorem OC:(U 9).sz=1:=aeR
theorem MH{h:Heap}(hb:RdC h x c){k:Nat}{id:Txt}(hk:h k=some (.obj [.s id] 9)):ai prog 140 [x,.ptr k 0] h fun r h' =>r= .b (geB c.id id)∧h' =h:=by
 obtain⟨f,l,rfl,hf,hl⟩:=hb;refine aeB func140 8 [.tmp 3] fun hwf=>?_
 simp only[go_sem];exact ai3
structure Few (s:an):Prop where
 cases:s.cases.length≤1000000
 fields:∀c∈s.cases,c.fields.length≤1000000
 log:∀c∈s.cases,c.log.length≤1000000
 reviews:s.reviews.length≤1000000
 notices:s.notices.length≤1000000
 roles:s.roles.length≤1000000
theorem jW{id:Txt}(h:bZ cs id=true):findD cs id<cs.length:=by grind [bZ,List.getElem?_eq_some_iff]
theorem Ll{id:Txt}(h:findD cs id<cs.length):bZ cs id=(cs[findD cs id].id==id):=by grind [bZ,List.getElem?_eq_getElem]
theorem Lm{id:Txt}(h:¬findD cs id<cs.length):bZ cs id=false:=by grind [bZ,List.getElem?_eq_none]
theorem Cu{h:Heap}(hb:RdS h x s)(id:Txt)(hl:s.cases.length≤1000000):ai prog 83 [x,.s id] h fun r h' =>r= .tup [.i (findD s.cases id:Nat),.b (bZ s.cases id)]∧h' =h:=by
 obtain⟨y1,y2,y3,y4,rfl,⟨xs,hc,hn,hcs⟩,h2,h3,h4⟩:=hb;cases hp:s.policy with
 |mk pid pset palg ptgt prules pkids pobls=>
 refine aeB func83 25 [.tmp 4,.tmp 5] fun hwf=>?_
 simp only[go_sem,gq,List.cons_append,List.nil_append];intro i1 h1;simp only[go_sem];intro i2 h2;have n21:=aI h2;have n2:=aB h2;have hs:∀a b,Ab.Sub h (upd (upd h i1 a) i2 b):=fun a b=>((Sub.refl h).put h1 a).put n2 b
 simp only[go_sem,ak,n21.symm];refine(vD y1 xs s.cases (fun c=>geB c.id id) _ [.ptr i2 0] _ (hc.sub (hs _ _)) hn aeC (Au.agg hn hcs) fun i a b=>MH ((hcs i a b).sub (hs _ _)) (ah ..)).pthen ?_
 by_cases hf:findD s.cases id<s.cases.length
 ·have e1:ixD (fun c=>geB c.id id) s.cases=(findD s.cases id:Nat):=by rw[ixD];exact if_pos hf
  have d1:decide (((findD s.cases id:Nat):Int)<0)=false:=decide_eq_false aeC;rw[e1];simp only[go_sem,ak,n21.symm,d1];refine⟨.of aeF,?_⟩;obtain⟨f,l,ex,hfl,hlg⟩:=hcs (findD s.cases id) aeC hf;refine hc.idx (e:=120) (findD s.cases id) rfl aeC ot aeG fun p hp1=>?_
  simp only[go_sem];refine hp1.field (f:=0) (off:=0) (t:=9) rfl Lt fun p2 hp2=>?_
  have hld:=fun a b=>(hp2.sub (hs a b)).part (U:=U) (ty:=9) Lt (by rw[ex,OC];exact aer rfl)
  simp only[go_sem,hld,ex];exact .mk _ (.refl _) (hs _ _) ⟨by rw[Ll hf];rfl,rfl⟩
 ·have e1:ixD (fun c=>geB c.id id) s.cases= -1:=by rw[ixD];exact if_neg hf
  have e2:findD s.cases id=s.cases.length:=by
   grind [findD,List.findIdx_le_length]
  have d1:decide ((-1:Int)<0)=true:=rfl;rw[e1];simp only[go_sem,ak,n21.symm,d1];simp only[go_sem,hc.len];exact .mk _ (.refl _) (hs _ _) ⟨by rw[Lm hf,e2,hn];rfl,rfl⟩
theorem Jg:(U 140).sz=2:=aeR
theorem Kt(y:AV)(ds:List iD)(r:iD)(h:Heap)(hb:Rd h 2 y (ds.map eW))(hl:ds.length≤1000000000):
  ai prog 195 [y,eW r] h fun x h' =>x= .i (ixD (vq r) ds)∧h' =h:=by
 refine aeB func195 19 [.tmp 4] fun hwf=>?_
 simp only[go_sem,eW];intro i1 h1;have hs:∀a,Ab.Sub h (upd h i1 a):=fun a=>(Sub.refl h).put h1 a
 simp only[go_sem,hb.len,aes];refine .intro (fun m ρ h' =>h' =upd h i1 (some (.obj [.s r.subj,.s r.role] 140))∧∃i:Nat,i≤ds.length∧m=ds.length - i∧(∀j (hj:j<i) (h2:j<ds.length),vq r ds[j]=false)∧lk ρ 0=some y∧lk ρ 3=some (.ptr i1 0)∧lk ρ 7=some (.i ds.length)∧lk ρ 8=some (.i i)) ds.length ?_ ?_
 ·refine⟨rfl,0,aeC,rfl,fun j hj=>aeC,?_,?_,?_,?_⟩<;>simp only[go_sem]
 ·rintro m ρ h' ⟨rfl,i,hi,rfl,hc,r0,r3,r7,r8⟩
  simp only[go_sem,r7,r8];refine .intro (fun e=>?_) (fun e=>?_)
  ·have hlt:i<ds.length:=aez e
   have w1:IntKind.i64.wrap ((i:Int)+1)=((i+1:Nat):Int):=aeN;simp only[go_sem,r0,r3,r8];refine⟨.of aeF,?_⟩;refine hb.idx (e:=140) i rfl aeD Jg aeG fun p hp1=>?_
   have hld:=fun a=>(hp1.sub (hs a)).all (U:=U) (ty:=140) aeG (by rw[Jg,aet];rfl) afh
   cases d1:vq r ds[i]
   ·have d2:=d1
    simp only[vq]at d2;simp only[go_sem,r8,hld,aet,eW,d2,w1];refine⟨_,?_,rfl,i+1,aeC,rfl,fun j hj h2=>?_,?_,?_,?_,?_⟩
    ·omega
    ·grind
    all_goals simp only[go_sem,r0,r3,r7]
   ·have d2:=d1
    simp only[vq]at d2;simp only[go_sem,hld,aet,eW,d2];exact .mk _ (.refl _) (hs _) ⟨by rw[oJ hlt d1 fun j hj=>hc j hj aeC];rfl,rfl⟩
  ·have hge:i=ds.length:=by grind
   simp only[go_sem];exact .mk _ (.refl _) (hs _) ⟨ae7,rfl⟩
theorem Gw(y:AV)(ds:List iD)(r:iD)(h:Heap)(hb:Rd h 2 y (ds.map eW))(hl:ds.length≤1000000000):
  ai prog 142 [y,eW r] h fun x h' =>x= .b (yZ ds r)∧h' =h:=by
 have hq:=fun H (hH:Ab.Sub h H)=>Kt y ds r H (hb.sub hH) hl
 refine aeB func142 9 [.tmp 4] fun hwf=>?_
 simp only[go_sem,eW];intro i1 h1;simp only[go_sem];refine(hq _ (.aj h1)).pthen ?_;simp only[go_sem];refine .mk _ (.refl _) (.aj h1) ⟨?_,rfl⟩
 grind [ax,yZ,ixD,decide_eq_true,List.any_eq_true,aex,List.findIdx_getElem,decide_eq_false,List.any_eq_false]
theorem Gx{h:Heap}(hb:RdS h x s)(subj role:Txt)(hl:s.roles.length≤1000000000):ai prog 86 [x,.s subj,.s role] h fun r h' =>r= .b (yZ s.roles ⟨subj,role⟩)∧h' =h:=by
 obtain⟨y1,y2,y3,y4,rfl,hc,h2,h3,h4⟩:=hb;have hq:=fun H (hH:Ab.Sub h H)=>Gw y4 s.roles ⟨subj,role⟩ H (h4.sub hH) hl
 cases hp:s.policy with
 |mk pid pset palg ptgt prules pkids pobls=>
 refine aeB func86 13 [.tmp 6] fun hwf=>?_
 simp only[go_sem,gq,List.cons_append,List.nil_append];intro i1 h1;simp only[go_sem];refine(hq _ (.aj h1)).pthen ?_;simp only[go_sem];exact aeU
theorem JR{h:Heap}(f:cM){k:Nat}(hk:h k=some (.obj [.s name] 9)):ai prog 110 [bN f,.ptr k 0] h fun r h' =>r= .b (f.name==name)∧h' =h:=by
 refine aeB func110 8 [.tmp 3] fun hwf=>?_
 simp only[go_sem,bN];exact ai3
theorem JS(h:fs.findIdx (fun f=>f.name==name)<fs.length):dU fs name=fs[fs.findIdx fun f=>f.name==name].val:=by unfold dU;rw[show fs.find? (fun f=>f.name==name)=some fs[fs.findIdx fun f=>f.name==name]from List.find?_eq_some_iff_getElem.2 ⟨List.findIdx_getElem (w:=h),_,h,rfl,fun j hj=>aeD⟩]
theorem JT(h:¬fs.findIdx (fun f=>f.name==name)<fs.length):dU fs name=aq:=by grind [dU,List.findIdx_le_length,List.find?_eq_none,List.findIdx_eq_length]
theorem DS{h:Heap}(hb:RdC h x c)(name:Txt)(hl:c.fields.length≤1000000000):ai prog 50 [x,.s name] h fun r h' =>r=aS (dU c.fields name)∧h' =h:=by
 obtain⟨f,l,rfl,hf,hlg⟩:=hb;refine aeB func50 19 [.cell 4 48] fun hwf=>?_
 simp only[go_sem];intro i1 h1;simp only[go_sem];intro i2 h2;have n21:=aI h2;have n2:=aB h2;simp only[go_sem];intro i3 h3;have h3' :=aB h3;have n31:=aI h3';have n3:=aB h3';have hs:∀a b d,Ab.Sub h (upd (upd (upd h i1 a) i2 b) i3 d):=fun a b d=>(((Sub.refl h).put h1 a).put n2 b).put n3 d
 simp only[go_sem,ak,n21.symm,n31.symm];refine(zg f _ c.fields (fun f=>f.name==name) _ [.ptr i2 0] _ (hf.sub (hs _ _ _)) aeJ aeD (pH (fun _=>rfl) _) fun i a b=>by
  rw[aet];exact JR _ (by grind [ak,gz,not_false_eq_true])).pthen ?_
 by_cases hx:c.fields.findIdx (fun f=>f.name==name)<c.fields.length
 ·have e1:ixD (fun f=>f.name==name) c.fields=(c.fields.findIdx (fun f=>f.name==name):Nat):=by simp_all [ixD,if_pos]
  have d1:decide ((0:Int)≤((c.fields.findIdx (fun f=>f.name==name):Nat):Int))=true:=decide_eq_true aeC
  rw[e1];simp only[go_sem,ak,n21.symm,n31.symm,d1];refine hf.idx (e:=196) (c.fields.findIdx fun f=>f.name==name) rfl aeD HI aeG fun p hp1=>?_
  simp only[go_sem];refine hp1.field (f:=1) (off:=1) (t:=48) rfl aeG fun p2 hp2=>?_
  have hld:=fun a b d=>(hp2.sub (hs a b d)).part (U:=U) (ty:=48) aeG (by rw[aet,show(U 48).sz=3 by rfl];exact aer rfl)
  simp only[go_sem,hld,aet,bN];exact .mk _ (.refl _) aeD ⟨by rw[JS hx];rfl,rfl⟩
 ·have e1:ixD (fun f=>f.name==name) c.fields= -1:=by simp_all [ixD,if_neg]
  have d1:decide ((0:Int)≤ -1)=false:=rfl;rw[e1];simp only[go_sem,d1];exact .mk _ (.refl _) aeD ⟨by rw[JT hx];rfl,rfl⟩
end Go.Proofs.YtelkmnkejghkeaaGreatDoor
namespace Go.Ab
open Go
mutual
def cI:AV→Bool
 |.v _=>true
 |.s _=>true
 |.agg xs=>gE xs
 |.tup xs=>gE xs
 |.sl xs (.own _)=>false
 |.sl xs _=>gE xs
 |.pe x _=>cI x
 |.ifc _ x=>cI x
 |_=>false
def gE:List AV→Bool
 | []=>true
 |x::r=>cI x && gE r
end
mutual
theorem uK{F:Nat→Prop}:∀x:AV,cI x=true→Av F x
 |.v x,_=> .v x
 |.s l,_=> .s l
 |.agg xs,h=> .agg xs (rI xs ahc)
 |.tup xs,h=> .tup xs (rI xs ahc)
 |.sl xs .no,h=> .sl xs .no (rI xs ahc) fun _ e=>ae2
 |.sl xs .full,h=> .sl xs .full (rI xs ahc) fun _ e=>ae2
 |.sl xs (.own _),h=>ah8
 |.pe x o,h=> .pe x o (uK x ahc)
 |.ptr i o,h=>ah8
 |.oa i o l,h=>ah8
 |.ifc t x,h=> .ifc t x (uK x ahc)
 |.fn f c,h=>ah8
 |.mp i,h=>ah8
 |.ob i o l c z,h=>ah8
theorem rI{F:Nat→Prop}:∀xs:List AV,gE xs=true→∀x∈xs,Av F x
 | [],_,x,hx=>by cases hx
 |y::r,h,x,hx=>by
  simp only[gE,Bool.and_eq_true]at h;rcases List.mem_cons.1 hx with e|e
  ·rw[e];exact uK y h.1
  ·exact rI r h.2 x e
end
theorem bn{α:Type}{f:α→AV}(hf:∀a,cI (f a)=true):∀l:List α,gE (l.map f)=true
 | []=>rfl
 |a::r=>by simp[gE,hf a,bn hf r]
theorem BJ{xs:List AV}(h:gE xs=true):∀x∈xs,cI x=true:=by
 induction xs with
 |nil=>simp
 |cons y r ih=>
  simp_all [gE,Bool.and_eq_true,List.mem_cons]
theorem oh{x:AV}(h:cI x=true):∀c∈x.cells,cI c=true:=by
 cases x with
 |agg cs=>exact BJ (show gE cs=true by grind [cI])
 |_=>intro c hc;rw[List.mem_singleton.1 hc];exact h
theorem Frz.pure{g h:Heap}{x:AV}(hx:cI x=true):Frz g h x x:=.keep x (uK x hx)
theorem Ow.frz{g h:Heap}{tb:TypeId}{sz id:Nat}{y:AV}{xs ys:List AV}(hw:Ow tb h sz id y xs)(hg:g id=Option.none)(hn:xs.length=ys.length)(hz:∀i (h1:i<xs.length) (h2:i<ys.length),xs[i].cells.length=ys[i].cells.length)
  (hr:∀i (h1:i<xs.length) (h2:i<ys.length) j (h3:j<xs[i].cells.length) (h4:j<ys[i].cells.length),Frz g h xs[i].cells[j] ys[i].cells[j]):Frz g h y (.sl ys .no):=by
 obtain⟨cap,rest,rfl,h1,h2,h3,h4⟩:=hw;have hl:=aX h4;refine .ob id 0 _ cap sz _ tb ys hg h1 aeD hn.symm (fun i hi=>by rw[←hz i aeC hi];exact h4 _ aeJ) fun i hi j hj hb=>?_
 have hj' :j<sz:=by rw[←h4 xs[i] aeJ,hz i aeC hi];omega
 have hbd:i*sz+j<xs.length*sz:=by
  have:(i+1)*sz≤xs.length*sz:=Nat.mul_le_mul_right _ aeC;rw[Nat.add_mul,Nat.one_mul]at this;omega
 have hjx:j<xs[i].cells.length:=aeD;have e:(au xs++rest)[0+(i*sz+j)]? =some (xs[i].cells[j]):=by
  rw[Nat.zero_add,List.getElem?_append_left aeC,vt h4 aeC hj',List.getElem?_eq_getElem hjx]
 rw[List.getElem?_eq_getElem hb,Option.some.injEq]at e;rw[e];exact hr i aeC hi j hjx hj
theorem OwE.frz{g h:Heap}{tb:TypeId}{sz:Nat}{y:AV}{xs:List AV}(hw:OwE tb g h sz y xs)(hp:gE xs=true):Frz g h y (.sl xs .no):=by
 rcases hw with⟨rfl,rfl⟩|⟨id,hg,hw⟩
 ·exact .sl [] [] .full rfl aeC aeJ
 ·exact hw.frz hg rfl aeC fun i h1 h2 j h3 h4=> .pure (oh (BJ hp _ (aex h1)) _ aeJ)
theorem OwE.j5{U:TypeId→TI}{h:Heap}{sz:Nat}{tb:TypeId}{xs:List AV}{Q:AV→Heap→Prop}(hz:(U tb).sz=sz)(hf:Ab.fit (U tb).zero sz)(hb:Sized sz xs)(hk:∀y' h',OwE tb h h' sz y' xs→Sub h h'→Q y' h'):pF U h [] xs tb Q:=by
 subst hz;refine⟨fun hn=>?_,fun hn=>?_⟩
 ·subst hn
  exact hk _ _ (.inl ⟨rfl,rfl⟩) (.refl _)
 ·refine .ob hf (kP.ow hb aeR aeJ fun id y' h' hid hw ho=>?_)
  exact hk _ _ (.inr ⟨id,hid,hw⟩) fun j b hj=>aeD
theorem Rd.nil{h:Heap}{sz:Nat}{y:AV}{xs:List AV}{e:TypeId}{Q:AV→Heap→Prop}(hb:Rd h sz y xs)(hk:∀b:Bool,(xs≠ []→b=false)→Q (.b b) h):Tn h .eql y Q (.slice e):=by
 obtain⟨_,⟨q,rfl⟩|⟨id,off,cap,cs,t,rfl,_⟩⟩:=hb
 ·exact hk
 ·exact hk false fun _=>rfl
def nid:AV→Option Nat
 |.ob id _ _ _ _=>some id
 |_=>none
theorem OwE.nid{tb:TypeId}{h0 h:Heap}{sz:Nat}{y:AV}{xs:List AV}(hw:OwE tb h0 h sz y xs){id:Nat}(e:Ab.nid y=some id):h0 id=Option.none∧h id≠Option.none∧Ow tb h sz id y xs:=by
 rcases hw with⟨rfl,rfl⟩|⟨id',h1,hw⟩
 ·cases e
 ·obtain⟨cap,rest,rfl,h2,h3⟩:=hw
  cases e;exact⟨h1,aeD,cap,rest,rfl,h2,h3⟩
theorem Ow.nid{tb:TypeId}{h:Heap}{sz id:Nat}{y:AV}{xs:List AV}(hw:Ow tb h sz id y xs):Ab.nid y=some id:=by obtain⟨cap,rest,rfl,h2,h3⟩:=hw;rfl
theorem OwE.keep{tb:TypeId}{h0 h h' :Heap}{sz:Nat}{y:AV}{xs:List AV}(hw:OwE tb h0 h sz y xs)(hs:∀id,Ab.nid y=some id→h' id=h id):OwE tb h0 h' sz y xs:=by
 rcases hw with hw|⟨id,h1,hw⟩
 ·exact aiz
 ·exact .inr ⟨id,h1,hw.same (hs id hw.nid)⟩
theorem OwE.less{tb:TypeId}{h0 h1 h:Heap}{sz:Nat}{y:AV}{xs:List AV}(hw:OwE tb h1 h sz y xs)(hs:Sub h0 h1):OwE tb h0 h sz y xs:=by
 rcases hw with hw|⟨id,a,hw⟩
 ·exact aiz
 ·exact .inr ⟨id,hs.none a,hw⟩
end Go.Ab
namespace Go.Proofs.YtelkmnkejghkeaaGreatDoor
open Go Go.Ab Go.Bf Tryz
variable {i:Nat}{x:AV}{c:aM}
theorem A5(y:AV)(xs:List AV)(h:Heap)(hb:Rd h 5 y xs)(hl:xs.length≤1000000):ai prog 100 [y] h fun r h' =>OwE 120 h h' 5 r xs∧Ab.Sub h h' :=by
 refine aeB func100 8 [.tmp 2] fun hwf=>?_
 simp only[go_sem];refine hb.nil fun b hxs=>?_
 cases b
 ·simp only[go_sem]
  refine hb.src (U:=U) (e:=120) aeR ⟨hb.1,aeC,OwE.j5 (U:=U) (sz:=5) aeR aeR hb.1 fun y' h' hw hs=>?_⟩
  exact aiW
 ·exact aiU
theorem wF(y:AV)(xs:List AV)(h:Heap)(hb:Rd h 7 y xs)(hl:xs.length≤1000000):ai prog 98 [y] h fun r h' =>OwE 134 h h' 7 r xs∧Ab.Sub h h' :=by
 refine aeB func98 8 [.tmp 2] fun hwf=>?_
 simp only[go_sem];refine hb.nil fun b hxs=>?_
 cases b
 ·simp only[go_sem]
  refine hb.src (U:=U) (e:=134) aeR ⟨hb.1,aeC,OwE.j5 (U:=U) (sz:=7) aeR aeR hb.1 fun y' h' hw hs=>?_⟩
  exact aiW
 ·exact aiU
theorem wE(y:AV)(xs:List AV)(h:Heap)(hb:Rd h 3 y xs)(hl:xs.length≤1000000):ai prog 99 [y] h fun r h' =>OwE 137 h h' 3 r xs∧Ab.Sub h h' :=by
 refine aeB func99 8 [.tmp 2] fun hwf=>?_
 simp only[go_sem];refine hb.nil fun b hxs=>?_
 cases b
 ·simp only[go_sem]
  refine hb.src (U:=U) (e:=137) aeR ⟨hb.1,aeC,OwE.j5 (U:=U) (sz:=3) aeR aeR hb.1 fun y' h' hw hs=>?_⟩
  exact aiW
 ·exact aiU
theorem JD(y:AV)(xs:List AV)(h:Heap)(hb:Rd h 2 y xs)(hl:xs.length≤1000000):ai prog 156 [y] h fun r h' =>OwE 140 h h' 2 r xs∧Ab.Sub h h' :=by
 refine aeB func156 8 [.tmp 2] fun hwf=>?_
 simp only[go_sem];refine hb.nil fun b hxs=>?_
 cases b
 ·simp only[go_sem]
  refine hb.src (U:=U) (e:=140) aeR ⟨hb.1,aeC,OwE.j5 (U:=U) (sz:=2) aeR aeR hb.1 fun y' h' hw hs=>?_⟩
  exact aiW
 ·exact aiU
theorem FW(y:AV)(xs:List AV)(h:Heap)(hb:Rd h 4 y xs)(hl:xs.length≤1000000):ai prog 163 [y] h fun r h' =>OwE 196 h h' 4 r xs∧Ab.Sub h h' :=by
 refine aeB func163 8 [.tmp 2] fun hwf=>?_
 simp only[go_sem];refine hb.nil fun b hxs=>?_
 cases b
 ·simp only[go_sem]
  refine hb.src (U:=U) (e:=196) aeR ⟨hb.1,aeC,OwE.j5 (U:=U) (sz:=4) aeR aeR hb.1 fun y' h' hw hs=>?_⟩
  exact aiW
 ·exact aiU
theorem qT(y:AV)(xs:List AV)(h:Heap)(hb:Rd h 3 y xs)(hl:xs.length≤1000000):ai prog 101 [y] h fun r h' =>OwE 186 h h' 3 r xs∧Ab.Sub h h' :=by
 refine aeB func101 8 [.tmp 2] fun hwf=>?_
 simp only[go_sem];refine hb.nil fun b hxs=>?_
 cases b
 ·simp only[go_sem]
  refine hb.src (U:=U) (e:=186) aeR ⟨hb.1,aeC,OwE.j5 (U:=U) (sz:=3) aeR aeR hb.1 fun y' h' hw hs=>?_⟩
  exact aiW
 ·exact aiU
theorem xJ(y:AV)(xs:List AV)(h:Heap)(hb:Rd h 3 y xs)(hl:xs.length≤1000000)(hp:gE xs=true):ai prog 101 [y] h fun r h' =>r= .sl xs .no∧h' =h:=
 ai.freeze fun g hg _=>(qT y xs g (hb.sub hg) hl).mono fun r h' ⟨h1,h2⟩=>⟨h2,_,h1.frz hp,rfl⟩
theorem Mm(y:AV)(xs:List AV)(h:Heap)(hb:Rd h 3 y xs)(hl:xs.length≤1000000):ai prog 31 [y] h fun r h' =>OwE 90 h h' 3 r xs∧Ab.Sub h h' :=by
 refine aeB func31 8 [.tmp 2] fun hwf=>?_
 simp only[go_sem];refine hb.nil fun b hxs=>?_
 cases b
 ·simp only[go_sem]
  refine hb.src (U:=U) (e:=90) aeR ⟨hb.1,aeC,OwE.j5 (U:=U) (sz:=3) aeR aeR hb.1 fun y' h' hw hs=>?_⟩
  exact aiW
 ·exact aiU
theorem A7(y:AV)(xs:List AV)(h:Heap)(hb:Rd h 3 y xs)(hl:xs.length≤1000000)(hp:gE xs=true):ai prog 31 [y] h fun r h' =>r= .sl xs .no∧h' =h:=
 ai.freeze fun g hg _=>(Mm y xs g (hb.sub hg) hl).mono fun r h' ⟨h1,h2⟩=>⟨h2,_,h1.frz hp,rfl⟩
theorem JE(y:AV)(xs:List AV)(h:Heap)(hb:Rd h 5 y xs)(hl:xs.length≤1000000):ai prog 213 [y] h fun r h' =>OwE 213 h h' 5 r xs∧Ab.Sub h h' :=by
 refine aeB func213 8 [.tmp 2] fun hwf=>?_
 simp only[go_sem];refine hb.nil fun b hxs=>?_
 cases b
 ·simp only[go_sem]
  refine hb.src (U:=U) (e:=213) aeR ⟨hb.1,aeC,OwE.j5 (U:=U) (sz:=5) aeR aeR hb.1 fun y' h' hw hs=>?_⟩
  exact aiW
 ·exact aiU
theorem Dw(y:AV)(xs:List AV)(h:Heap)(hb:Rd h 7 y xs)(hl:xs.length≤1000000):ai prog 214 [y] h fun r h' =>OwE 39 h h' 7 r xs∧Ab.Sub h h' :=by
 refine aeB func214 8 [.tmp 2] fun hwf=>?_
 simp only[go_sem];refine hb.nil fun b hxs=>?_
 cases b
 ·simp only[go_sem]
  refine hb.src (U:=U) (e:=39) aeR ⟨hb.1,aeC,OwE.j5 (U:=U) (sz:=7) aeR aeR hb.1 fun y' h' hw hs=>?_⟩
  exact aiW
 ·exact aiU
theorem JB(y:AV)(xs:List AV)(h:Heap)(hb:Rd h 7 y xs)(hl:xs.length≤1000000):ai prog 215 [y] h fun r h' =>OwE 218 h h' 7 r xs∧Ab.Sub h h' :=by
 refine aeB func215 8 [.tmp 2] fun hwf=>?_
 simp only[go_sem];refine hb.nil fun b hxs=>?_
 cases b
 ·simp only[go_sem]
  refine hb.src (U:=U) (e:=218) aeR ⟨hb.1,aeC,OwE.j5 (U:=U) (sz:=7) aeR aeR hb.1 fun y' h' hw hs=>?_⟩
  exact aiW
 ·exact aiU
theorem F0(y:AV)(xs:List AV)(h:Heap)(hb:Rd h 7 y xs)(hl:xs.length≤1000000)(hp:gE xs=true):ai prog 215 [y] h fun r h' =>r= .sl xs .no∧h' =h:=
 ai.freeze fun g hg _=>(JB y xs g (hb.sub hg) hl).mono fun r h' ⟨h1,h2⟩=>⟨h2,_,h1.frz hp,rfl⟩
theorem FX(y:AV)(xs:List AV)(h:Heap)(hb:Rd h 7 y xs)(hl:xs.length≤1000000):ai prog 256 [y] h fun r h' =>OwE 264 h h' 7 r xs∧Ab.Sub h h' :=by
 refine aeB func256 8 [.tmp 2] fun hwf=>?_
 simp only[go_sem];refine hb.nil fun b hxs=>?_
 cases b
 ·simp only[go_sem]
  refine hb.src (U:=U) (e:=264) aeR ⟨hb.1,aeC,OwE.j5 (U:=U) (sz:=7) aeR aeR hb.1 fun y' h' hw hs=>?_⟩
  exact aiW
 ·exact aiU
theorem Dy(y:AV)(xs:List AV)(h:Heap)(hb:Rd h 7 y xs)(hl:xs.length≤1000000)(hp:gE xs=true):ai prog 256 [y] h fun r h' =>r= .sl xs .no∧h' =h:=
 ai.freeze fun g hg _=>(FX y xs g (hb.sub hg) hl).mono fun r h' ⟨h1,h2⟩=>⟨h2,_,h1.frz hp,rfl⟩
theorem FY(y:AV)(xs:List AV)(h:Heap)(hb:Rd h 3 y xs)(hl:xs.length≤1000000):ai prog 285 [y] h fun r h' =>OwE 48 h h' 3 r xs∧Ab.Sub h h' :=by
 refine aeB func285 8 [.tmp 2] fun hwf=>?_
 simp only[go_sem];refine hb.nil fun b hxs=>?_
 cases b
 ·simp only[go_sem]
  refine hb.src (U:=U) (e:=48) aeR ⟨hb.1,aeC,OwE.j5 (U:=U) (sz:=3) aeR aeR hb.1 fun y' h' hw hs=>?_⟩
  exact aiW
 ·exact aiU
theorem Dz(y:AV)(xs:List AV)(h:Heap)(hb:Rd h 3 y xs)(hl:xs.length≤1000000)(hp:gE xs=true):ai prog 285 [y] h fun r h' =>r= .sl xs .no∧h' =h:=
 ai.freeze fun g hg _=>(FY y xs g (hb.sub hg) hl).mono fun r h' ⟨h1,h2⟩=>⟨h2,_,h1.frz hp,rfl⟩
def R3(h0 h:Heap)(x:AV)(c:aM):Prop:=∃f l,x= .agg [.s c.id,.s c.owner,.s c.state,f,l]∧OwE 196 h0 h 4 f (c.fields.map bN)∧OwE 186 h0 h 3 l (c.log.map iW)∧∀i,nid f=some i→nid l≠some i
theorem cJ{h:Heap}{j:Nat}{b:Blk}(h1:h i=none)(h2:h j=some b):i≠j:=fun e=>by subst e;rw[h2]at h1;cases h1
theorem zE{h:Heap}(hb:RdC h x c)(hl:c.fields.length≤1000000)(hl2:c.log.length≤1000000):ai prog 108 [x] h fun r h' =>R3 h h' r c∧Ab.Sub h h' :=by
 obtain⟨f,l,rfl,hf,hlg⟩:=hb;refine aeB func108 12 [.cell 2 120] fun hwf=>?_
 simp only[go_sem];intro i1 h1;simp only[go_sem];intro i2 h2;have n21:=aI h2;have n2:=aB h2;simp only[go_sem];obtain⟨H,eH⟩:∃H,upd (upd h i1 (some (.obj [.s c.id,.s c.owner,.s c.state,f,l] 120))) i2 (some (.obj [.s [],.s [],.s [],.sl [] .full,.sl [] .full] 120))=H:=⟨_,rfl⟩;have hH:Ab.Sub h H:=afC;have g1:H i1=some (.obj [.s c.id,.s c.owner,.s c.state,f,l] 120):=age;have g2:H i2=some (.obj [.s [],.s [],.s [],.sl [] .full,.sl [] .full] 120):=af5;rw[eH];refine .stage (hm1 i1 _) [0,1,3,4,2,6,5] [7,8,9] (.hm1 g1) aeF ?_;simp only[go_sem,gy];refine(FW f _ H (hf.sub hH) aeD).mono fun f' H1 ⟨hf',s1⟩=>?_
 refine⟨.hm1 (s1 _ _ g1),?_⟩;simp only[go_sem];refine(qT l _ H1 ((hlg.sub hH).sub s1) aeD).mono fun l' H2 ⟨hl',s2⟩=>?_
 refine⟨.hm1 (s2 _ _ (s1 _ _ g1)),cS,(fun _ _ e=>ae2),?_⟩
 have g1' :=s2 _ _ (s1 _ _ g1);have g2' :=s2 _ _ (s1 _ _ g2);simp only[go_sem,g1',hf'.rd.fit,hf'.rd.cells,hl'.rd.fit,hl'.rd.cells];have n1:∀b,upd H2 i1 b i2=some (.obj [.s [],.s [],.s [],.sl [] .full,.sl [] .full] 120):=fun b=>afe
 refine⟨fun _ _ e=>ae2,fun _ _ e=>ae2,?_⟩
 simp only[go_sem,n1];have hid:∀ {y:AV} {xs:List AV} {G:Heap} {tb:TypeId} {z:Nat},Ab.Sub H G→OwE tb G H2 z y xs→∀a b,OwE tb h (upd (upd H2 i1 a) i2 b) z y xs:=fun hG hw a b=>(hw.less (hH.trans hG)).keep fun id e=>by
  have h0:=hG.none (hw.nid e).1;rw[ag _ _ (cJ h0 g2),ag _ _ (cJ h0 g1)]
 refine .mk _ (.refl _) (.refl _) ⟨⟨f',l',rfl,hid (.refl _) (hf'.sub s2) _ _,hid s1 hl' _ _,fun i ef el=>?_⟩,((hH.trans (s1.trans s2)).put h1 _).put n2 _⟩
 exact(hf'.nid ef).2.1 ((hl'.nid el).1)
theorem xl{h:Heap}(hb:RdC h x c)(hl:c.fields.length≤1000000)(hl2:c.log.length≤1000000):ai prog 108 [x] h fun r h' =>r=cu c∧h' =h:=
 ai.freeze fun g hg _=>(zE (hb.sub hg) hl hl2).mono fun r h' ⟨⟨f,l,e,hf,hlg,_⟩,h2⟩=>⟨h2,cu c,by
  subst e;refine .agg _ _ rfl fun i h1 h2=>?_
  rcases i with _|_|_|_|_|i
  ·exact aeW
  ·exact aeW
  ·exact aeW
  ·exact hf.frz (bn (fun _=>rfl) _)
  ·exact hlg.frz (bn (fun _=>rfl) _)
  ·simp at h1;omega,rfl⟩
theorem NT(l:List bP):gE (l.map dV)=true:=bn (fun _=>rfl) l
theorem WX:(U 265).sz=1:=aeR
theorem WY:(U 261).sz=1:=aeR
theorem uB(t:gv)(ht:l9 t=0)(h:Heap):ai prog 212 [aV t] h fun r h' =>r=aV t∧h' =h:=by
 obtain⟨hl,he⟩:=BX ht;refine aeB func212 33 [.tmp 2] fun hwf=>?_
 simp only[go_sem,aV,aes];refine .intro (fun m ρ h' =>∃(i:Nat) (y:AV) (ys:List AV),Acc U 261 h h' y ys∧ys.length=i∧(∀j (h1:j<ys.length) (h2:j<t.length),∃q,ys[j]= .sl (t[j].map jl) q)∧i≤t.length∧m=t.length - i∧lk ρ 3=some y∧lk ρ 9=some (.sl (t.map cV) .no)∧lk ρ 10=some (.i t.length)∧lk ρ 11=some (.i i)) t.length ?_ ?_
 ·refine⟨0,_,[],.full (.refl _),rfl,fun j h1=>aeD,aeC,rfl,?_,?_,?_,?_⟩<;>simp only[go_sem]
 ·rintro m ρ h' ⟨i,y,ys,hy,hn,hys,hi,rfl,r3,r9,r10,r11⟩
  simp only[go_sem,r10,r11];refine .intro (fun e=>?_) (fun e=>?_)
  ·have hlt:i<t.length:=aez e
   have w1:IntKind.i64.wrap ((i:Int)+1)=((i+1:Nat):Int):=aeN;obtain⟨ha0,hal,hae⟩:=A4 (he _ (aex hlt));simp only[go_sem,r9,r11];refine .at i aeD aeQ ?_;simp only[go_sem,aet,cV,aes];refine .intro (fun m ρ H=>∃(j:Nat) (z:AV) (zs:List AV),Acc U 265 h' H z zs∧zs=(t[i].take j).map jl∧j≤t[i].length∧m=t[i].length - j∧lk ρ 3=some y∧lk ρ 9=some (.sl (t.map cV) .no)∧lk ρ 10=some (.i t.length)∧lk ρ 11=some (.i i)∧lk ρ 6=some z∧lk ρ 15=some (.sl (t[i].map jl) .no)∧lk ρ 16=some (.i t[i].length)∧lk ρ 17=some (.i j)) t[i].length ?_ ?_
   ·refine⟨0,_,[],.full (.refl _),rfl,aeC,rfl,?_,?_,?_,?_,?_,?_,?_,?_⟩<;>simp only[go_sem,r3,r9,r10,r11]
   ·rintro m ρ H ⟨j,z,zs,hz,rfl,hj,rfl,r3,r9,r10,r11,r6,r15,r16,r17⟩
    simp only[go_sem,r16,r17];refine .intro (fun e=>?_) (fun e=>?_)
    ·have hlt2:j<t[i].length:=aez e
     have w2:IntKind.i64.wrap ((j:Int)+1)=((j+1:Nat):Int):=aeN;have hml:=(A3 (hae _ (aex hlt2))).2.1;simp only[go_sem,r15,r17];refine .at j aeD aeQ ?_;simp only[go_sem,r6,aet,jl];refine(Dy _ (t[i][j].map dV) _ (eE dV 7 (fun _=>rfl) _ _) aeD (NT _)).pthen ?_
     simp only[go_sem];refine hz.app (zs:=[jl t[i][j]]) aeG aeG (fun k hk=>hk) (by rw[WX];exact bx (f:=jl) (fun _=>rfl) _) (by rw[WX];exact bx (f:=jl) (fun _=>rfl) [t[i][j]]) (by simp only[go_sem,aes,List.length_cons,List.length_nil,List.length_take];omega) fun z' H' hz' _=>?_
     simp only[go_sem,r17,w2];refine⟨_,?_,j+1,z',_,hz',?_,aeC,rfl,?_,?_,?_,?_,?_,?_,?_,?_⟩
     ·omega
     ·grind [List.take_succ_eq_append_getElem]
     all_goals simp only[go_sem,r3,r9,r10,r11,r15,r16]
    ·have hge:j=t[i].length:=by grind
     subst hge;rw[List.take_length]at hz;have hyH:=hy.sub hz.1;obtain⟨q,rfl⟩:=hz.row;simp only[go_sem,r3,r6];refine hyH.app (zs:=[.sl (t[i].map jl) q]) aeG aeG (fun k hk=>hk) (by rw[WY];intro w hw;obtain⟨k,hk,rfl⟩:=List.mem_iff_getElem.1 hw;obtain⟨q',e'⟩:=hys k hk aeC;rw[e'];rfl) (by rw[WY];intro w hw;rw[List.mem_singleton.1 hw];rfl) (by simp only[go_sem,hn,List.length_cons,List.length_nil];omega) fun y' H' hy' _=>?_
     simp only[go_sem,r11,w1];refine⟨_,?_,i+1,y',_,hy',aeD,fun k h1 h2=>?_,aeC,rfl,?_,?_,?_,?_⟩
     ·omega
     ·grind
     all_goals simp only[go_sem,r9,r10]
  ·have hge:i=t.length:=by grind
   simp only[go_sem,r3];obtain⟨q,rfl⟩:=hy.row;refine .mk (aV t) ?_ hy.1 ⟨rfl,rfl⟩;refine .deep _ _ q aeD (fun k h1 h2=>?_) fun k h1 h2 j h3 h4=>?_
   ·obtain⟨q',e'⟩:=hys k h1 aeC
    rw[e',aet];rfl
   ·obtain⟨q',e'⟩:=hys k h1 aeC
    simp only[e',AV.cells,List.length_singleton]at h3;obtain rfl:j=0:=aeC;simp only[e',aet,cV,AV.cells,List.getElem_singleton];exact ahg
theorem zM(t:gv):cI (aV t)=true:=by
 refine bn (fun a=>?_) t
 refine bn (fun b=>?_) a
 exact bn (fun _=>rfl) b
theorem KP(l:List aR):cI (fH l)=true:=by simp only[fH,cI];exact bn (fun _=>rfl) l
theorem vP(l:List cB):cI (ay l)=true:=by simp only[ay,cI];exact bn (fun _=>rfl) l
theorem BK(r:cQ):cI (aC r)=true:=by simp[aC,cI,gE,zM,KP,vP]
mutual
theorem EY:∀p:bD,cI (aO p)=true
 |.mk id set alg tgt rules kids obls=>by simp[aO,cI,gE,zM,vP,bn BK rules,vO kids]
theorem vO:∀l:List bD,gE (fO l)=true
 | []=>rfl
 |k::r=>by simp[fO,gE,EY k,vO r]
end
theorem jK(p:bD):(aO p).cells.length=7:=by cases p;rfl
theorem Pk{l:List aR}(h:kN l=0):l.length≤32:=by grind [yQ]
theorem IS{l:List cB}(h:iM l=0):l.length≤8:=(kX h).1
theorem tH{H:Heap}{x:Option Blk}(h:H i=x):upd H i x=H:=by grind [ah,ag]
theorem mE{tb:TypeId}{h:Heap}{sz id:Nat}{y:AV}{xs cs:List AV}{t:TypeId}(hw:Ow tb h sz id y xs)(hi:h i=some (.obj cs t))(ht:t≠tb):id≠i:=by
 obtain⟨cap,rest,rfl,h1,_⟩:=hw
 grind
theorem kC{sz:Nat}{xs:List AV}(hs:Sized sz xs)(j:Nat)(hj:j<xs.length)(o:Nat)(c:List AV)(ho:o+c.length≤sz){rest:List AV}:
  (au xs++rest).take (j*sz+o)++c++(au xs++rest).drop (j*sz+o+c.length)=au (xs.set j (.agg (Ab.over xs[j].cells o c)))++rest:=by
 have hl:=aX hs;have hb:(j+1)*sz≤xs.length*sz:=Nat.mul_le_mul_right _ aeC;rw[Nat.add_mul,Nat.one_mul]at hb;have:=NH (us:=au xs) (vs:=rest) (o:=j*sz+o) (c:=c) aeC;rw[Ab.over]at this;rw[this,JZ hs j hj o c ho]
theorem pn{α:Type}{xs:List α}{x:α}(h:xs[i]? =some x):xs.set i x=xs:=by obtain⟨hi,rfl⟩:=List.getElem?_eq_some_iff.1 h;simp
theorem og(id:Txt)(set:Bool)(alg:Int)(tgt:gv)(rules:List cQ)(kids:List bD)(obls:List cB):aO (.mk id set alg tgt rules kids obls)= .agg [.s id,.b set,.i alg,aV tgt,.sl (rules.map aC) .no,.sl (kids.map aO) .no,ay obls]:=by simp[aO,bf]
theorem uA:∀(p:bD) (d:Nat),mM d p→∀h,ai prog 157 [aO p] h fun r h' =>r=aO p∧h' =h
 |.mk pid pset palg ptgt prules pkids pobls,d,hp,h=>by
  obtain⟨_,_,_,_,_,_,ht,ho,hr16,hk16,hre,hke⟩:=hp;rw[ru]at hke;have ih:∀(j:Nat) (hj:j<pkids.length) (h:Heap),ai prog 157 [aO pkids[j]] h fun r h' =>r=aO pkids[j]∧h' =h:=fun j hj h=>uA pkids[j] (d+1) (hke _ (aex hj)) h
  have hob:=IS ho;refine ai.freeze fun g hg _=>?_
  rw[og];refine aeB func157 72 [.cell 2 39] fun hwf=>?_
  simp only[go_sem];intro i1 h1;simp only[go_sem];intro i2 h2;have n21:=aI h2;have n2:=aB h2;simp only[go_sem];obtain⟨H,eH⟩:∃H,upd (upd g i1 (some (.obj [.s pid,.b pset,.i palg,aV ptgt,.sl (prules.map aC) .no,.sl (pkids.map aO) .no,ay pobls] 39))) i2 (some (.obj [.s [],.b false,.i 0,.sl [] .full,.sl [] .full,.sl [] .full,.sl [] .full] 39))=H:=⟨_,rfl⟩;have hH:Ab.Sub g H:=by rw[←eH];exact((Sub.refl g).put h1 _).put n2 _
  have g1:H i1=some (.obj [.s pid,.b pset,.i palg,aV ptgt,.sl (prules.map aC) .no,.sl (pkids.map aO) .no,ay pobls] 39):=age;have g2:H i2=some (.obj [.s [],.b false,.i 0,.sl [] .full,.sl [] .full,.sl [] .full,.sl [] .full] 39):=af5;rw[eH];refine .stage (hm1 i1 _) [0,1,3,4,2,6,5] [7,8,9] (.hm1 g1) aeF ?_;simp only[go_sem,gy];refine(uB ptgt ht H).pthen ?_;refine⟨.hm1 g1,?_⟩;simp only[go_sem];refine(A7 _ (pobls.map bl) H (eE bl 3 (fun _=>rfl) _ _) ae0 (bn (fun _=>rfl) _)).pthen ?_
  refine⟨.hm1 g1,cS,(fun _ _ e=>ae2),?_⟩
  have cT:(aV ptgt).cells= [aV ptgt]:=rfl;simp only[go_sem,g1,show fit (aV ptgt) 1=(1=1)from rfl,cT]
  have eo:(.sl (pobls.map bl) .no:AV)=ay pobls:=rfl;rw[eo];refine⟨fun _ _ e=>ae2,fun _ _ e=>ae2,?_⟩
  rw[tH g1];refine .stage (hm1 i1 _) [0,1,3,4,2,6,5] [7,8,9] (.hm1 g1) aeF ?_;simp only[go_sem,gy];refine(JE _ (prules.map aC) H (eE aC 5 (fun _=>rfl) _ _) ae0).mono fun y4 H1 ⟨w4,s1⟩=>?_
  refine⟨.hm1 (s1 _ _ g1),?_⟩;simp only[go_sem];refine(Dw _ (pkids.map aO) H1 (eE aO 7 jK _ _) ae0).mono fun y5 H2 ⟨w5,s2⟩=>?_
  have g1' :=s2 _ _ (s1 _ _ g1);have g2' :=s2 _ _ (s1 _ _ g2);refine⟨.hm1 g1',cS,(fun _ _ e=>ae2),?_⟩
  simp only[go_sem,g1',w4.rd.fit,w4.rd.cells,w5.rd.fit,w5.rd.cells];refine⟨fun _ _ e=>ae2,fun _ _ e=>ae2,?_⟩
  have hn4:∀id,nid y4=some id→id≠i2:=fun id e=>cJ (w4.nid e).1 g2
  have hn5:∀id,nid y5=some id→id≠i2:=fun id e=>cJ (w5.nid e).1 (s1 _ _ g2)
  have hnd:∀i,nid y4=some i→nid y5≠some i:=fun i e4 e5=>(w4.nid e4).2.1 (w5.nid e5).1
  have v4:∀b,OwE 213 g (upd H2 i1 b) 5 y4 (prules.map aC):=fun b=>((w4.sub s2).less hH).keep fun id e=>ag _ _ (cJ (w4.nid e).1 g1)
  have v5:∀b,OwE 39 g (upd H2 i1 b) 7 y5 (pkids.map aO):=fun b=>(w5.less (hH.trans s1)).keep fun id e=>ag _ _ (cJ (s1.none (w5.nid e).1) g1)
  have vs:∀b,Ab.Sub g (upd H2 i1 b):=fun b=>(hH.trans (s1.trans s2)).put h1 b
  have vz:∀b,upd H2 i1 b i2=some (.obj [.s [],.b false,.i 0,.sl [] .full,.sl [] .full,.sl [] .full,.sl [] .full] 39):=fun b=>by rw[ag _ _ n21];exact g2'
  obtain⟨H3,eH3⟩:∃H3,upd H2 i1 (some (.obj [.s pid,.b pset,.i palg,aV ptgt,y4,y5,ay pobls] 39))=H3:=⟨_,rfl⟩;have q1:H3 i1=some (.obj [.s pid,.b pset,.i palg,aV ptgt,y4,y5,ay pobls] 39):=by rw[←eH3,ah]
  replace v4:=v4 (some (.obj [.s pid,.b pset,.i palg,aV ptgt,y4,y5,ay pobls] 39));replace v5:=v5 (some (.obj [.s pid,.b pset,.i palg,aV ptgt,y4,y5,ay pobls] 39));replace vs:=vs (some (.obj [.s pid,.b pset,.i palg,aV ptgt,y4,y5,ay pobls] 39));replace vz:=vz (some (.obj [.s pid,.b pset,.i palg,aV ptgt,y4,y5,ay pobls] 39));rw[eH3]at v4 v5 vs vz;rw[eH3];clear eH3;have hi1:∀id,g id=none→∀ {K:Heap} {b:Blk},K id=some b→K id≠none:=fun id _ K b e=>by rw[e];simp
  simp only[go_sem,v4.rd.len,aes];refine .intro (fun m ρ G=>∃i:Nat,G i1=some (.obj [.s pid,.b pset,.i palg,aV ptgt,y4,y5,ay pobls] 39)∧G i2=some (.obj [.s [],.b false,.i 0,.sl [] .full,.sl [] .full,.sl [] .full,.sl [] .full] 39)∧Ab.Sub g G∧OwE 213 g G 5 y4 (prules.map aC)∧OwE 39 g G 7 y5 (pkids.map aO)∧i≤prules.length∧m=prules.length - i∧
   lk ρ 1=some (.ptr i1 0)∧lk ρ 2=some (.ptr i2 0)∧lk ρ 24=some y4∧lk ρ 25=some (.i prules.length)∧lk ρ 26=some (.i i)) prules.length ?_ ?_
  ·refine⟨0,q1,vz,vs,v4,v5,aeC,rfl,?_,?_,?_,?_,?_⟩<;>simp only[go_sem]
  ·rintro m ρ G ⟨i,q1,vz,vs,v4,v5,hi,rfl,r1,r2,r24,r25,r26⟩
   simp only[go_sem,r25,r26];refine .intro (fun e=>?_) (fun e=>?_)
   ·have hlt:i<prules.length:=aez e
    have w1:=aey i aeC;obtain⟨_,rt,rc,ro⟩:=hre _ (aex hlt);have hrc:=Pk rc;have hro:=IS ro;simp only[go_sem,r24,r26];refine v4.rd.idx (e:=213) i rfl aeX aeM aeG fun p hp1=>?_
    have hld:=hp1.all (U:=U) (ty:=213) aeM afh afh;simp only[go_sem,hld,aet,aC];intro i4 h4;have n41:i4≠i1:=cJ h4 q1;simp only[go_sem];obtain⟨G4,eG4⟩:∃G4,upd G i4 (some (.obj [.s prules[i].id,.b prules[i].deny,aV prules[i].tgt,fH prules[i].cond,ay prules[i].obls] 213))=G4:=⟨_,rfl⟩;rw[eG4];have p1:G4 i1=some (.obj [.s pid,.b pset,.i palg,aV ptgt,y4,y5,ay pobls] 39):=ahf;have p4:G4 i4=some (.obj [.s prules[i].id,.b prules[i].deny,aV prules[i].tgt,fH prules[i].cond,ay prules[i].obls] 213):=by rw[←eG4,ah]
    have sG:Ab.Sub G G4:=ahU;refine .calls (hm2 i1 (.obj [.s pid,.b pset,.i palg,aV ptgt,y4,y5,ay pobls] 39) i4 (.obj [.s prules[i].id,.b prules[i].deny,aV prules[i].tgt,fH prules[i].cond,ay prules[i].obls] 213)) [0,1,2,3,4,5,6,7,8,9,10,12,13,15,16,11,14,17,18,19,20,21,22,23,24,25,26] (.hm2 p1 p4) aeF rfl ?_;simp only[go_sem,r1,rZ _ _ n41.symm,sd];refine(uB prules[i].tgt rt G4).pthen ?_;refine⟨.hm2 p1 p4,?_⟩;simp only[go_sem];refine(F0 _ (prules[i].cond.map dL) G4 (eE dL 7 (fun _=>rfl) _ _) ae0 (bn (fun _=>rfl) _)).pthen ?_
    refine⟨.hm2 p1 p4,?_⟩;simp only[go_sem];refine(A7 _ (prules[i].obls.map bl) G4 (eE bl 3 (fun _=>rfl) _ _) ae0 (bn (fun _=>rfl) _)).pthen ?_
    refine⟨.hm2 p1 p4,?_⟩;simp only[go_sem];obtain⟨id4,hg4,o4⟩:=(v4.sub sG).ow agL;have m1:id4≠i1:=mE o4 p1 aeG;have m4:id4≠i4:=fun e=>(v4.nid o4.nid).2.1 (by rw[e];exact h4)
    refine o4.idx (U:=U) (e:=213) i rfl aeX aeM aeG ?_;simp only[go_sem];have o4' :=o4;obtain⟨cap,rest,ey,hid,hr,hc,hsz⟩:=o4';have hbd:i*5+5≤(au (prules.map aC)++rest).length:=by
     rw[aew,aX hsz,aes];omega
    have e2:List.take (i*5+2) (au (prules.map aC)++rest)++(aV prules[i].tgt).cells++List.drop (i*5+2+(aV prules[i].tgt).cells.length) (au (prules.map aC)++rest)=au (prules.map aC)++rest:=by
     refine(kC hsz i aeX 2 ((aV prules[i].tgt).cells) (aer rfl)).trans ?_;exact ake
    have e3:List.take (i*5+3) (au (prules.map aC)++rest)++ [.sl (prules[i].cond.map dL) .no]++List.drop (i*5+3+1) (au (prules.map aC)++rest)=au (prules.map aC)++rest:=by
     refine(kC hsz i aeX 3 ([.sl (prules[i].cond.map dL) .no]) (aer rfl)).trans ?_;exact ake
    have e4:List.take (i*5+4) (au (prules.map aC)++rest)++ [.sl (prules[i].obls.map bl) .no]++List.drop (i*5+4+1) (au (prules.map aC)++rest)=au (prules.map aC)++rest:=by
     refine(kC hsz i aeX 4 ([.sl (prules[i].obls.map bl) .no]) (aer rfl)).trans ?_;exact ake
    simp only[go_sem,hid];rw[e2,tH hid];refine⟨rfl,aeC,.hm2 p1 p4,?_⟩;refine o4.idx (U:=U) (e:=213) i rfl aeX aeM aeG ?_;simp only[go_sem,hid];rw[e3,tH hid];refine⟨aeC,.hm2 p1 p4,?_⟩;refine o4.idx (U:=U) (e:=213) i rfl aeX aeM aeG ?_;simp only[go_sem,hid];rw[e4,tH hid];refine⟨aeC,.hm2 p1 p4,?_⟩;simp only[go_sem,r26,w1];refine⟨_,?_,i+1,p1,sG _ _ vz,vs.trans sG,v4.sub sG,v5.sub sG,aeC,rfl,?_,?_,?_,?_,?_⟩
    ·omega
    all_goals simp only[go_sem,r1,r2,r24,r25]
   ·have hge:i=prules.length:=by have:=aev e;omega
    clear hge;simp only[go_sem,r1,q1,v5.rd.len,aes];refine .intro (fun m ρ G=>∃i:Nat,G i1=some (.obj [.s pid,.b pset,.i palg,aV ptgt,y4,y5,ay pobls] 39)∧G i2=some (.obj [.s [],.b false,.i 0,.sl [] .full,.sl [] .full,.sl [] .full,.sl [] .full] 39)∧Ab.Sub g G∧OwE 213 g G 5 y4 (prules.map aC)∧OwE 39 g G 7 y5 (pkids.map aO)∧i≤pkids.length∧m=pkids.length - i∧
     lk ρ 1=some (.ptr i1 0)∧lk ρ 2=some (.ptr i2 0)∧lk ρ 57=some y5∧lk ρ 58=some (.i pkids.length)∧lk ρ 59=some (.i i)) pkids.length ?_ ?_
    ·refine⟨0,q1,vz,vs,v4,v5,aeC,rfl,?_,?_,?_,?_,?_⟩<;>simp only[go_sem,r1,r2]
    ·clear r1 r2 r24 r25 r26 q1 vz vs v4 v5 e hi
     rintro m ρ G ⟨i,q1,vz,vs,v4,v5,hi,rfl,r1,r2,r57,r58,r59⟩
     simp only[go_sem,r58,r59];refine .intro (fun e=>?_) (fun e=>?_)
     ·have hlt:i<pkids.length:=aez e
      have w1:=aey i aeC;have ihi:=ih i hlt;have hci:=jK pkids[i];cases hpk:pkids[i]with
      |mk kid kset kalg ktgt krules kkids kobls=>
      rw[hpk,og]at ihi;simp only[go_sem,r57,r59];refine v5.rd.idx (e:=39) i rfl aeX aeM aeG fun p hp1=>?_
      have hld:=hp1.all (U:=U) (ty:=39) aeM (by simp only[go_sem];rw[aet];exact hci) (by simp only[go_sem];rw[aet,hpk,og];rfl)
      simp only[go_sem,hld,aet,hpk,og];intro i4 h4;have n41:i4≠i1:=cJ h4 q1;simp only[go_sem];obtain⟨G4,eG4⟩:∃G4,upd G i4 (some (.obj [.s kid,.b kset,.i kalg,aV ktgt,.sl (krules.map aC) .no,.sl (kkids.map aO) .no,ay kobls] 39))=G4:=⟨_,rfl⟩;rw[eG4];have p1:G4 i1=some (.obj [.s pid,.b pset,.i palg,aV ptgt,y4,y5,ay pobls] 39):=ahf;have p4:G4 i4=some (.obj [.s kid,.b kset,.i kalg,aV ktgt,.sl (krules.map aC) .no,.sl (kkids.map aO) .no,ay kobls] 39):=by rw[←eG4,ah]
      have sG:Ab.Sub G G4:=ahU;refine .calls (hm2 i1 (.obj [.s pid,.b pset,.i palg,aV ptgt,y4,y5,ay pobls] 39) i4 (.obj [.s kid,.b kset,.i kalg,aV ktgt,.sl (krules.map aC) .no,.sl (kkids.map aO) .no,ay kobls] 39)) [0,1,2,3,4,5,6] (.hm2 p1 p4) aeF rfl ?_;simp only[go_sem,r1,rZ _ _ n41.symm,sd];refine(ihi G4).pthen ?_;refine⟨.hm2 p1 p4,?_⟩;simp only[go_sem];obtain⟨id4,hg4,o4⟩:=(v5.sub sG).ow agL;have o4' :=o4;obtain⟨cap,rest,ey,hid,hr,hc,hsz⟩:=o4';have hbd:i*7+7≤(au (pkids.map aO)++rest).length:=by
       rw[aew,aX hsz,aes];omega
      have e2:List.take (i*7) (au (pkids.map aO)++rest)++ [.s kid,.b kset,.i kalg,aV ktgt,.sl (krules.map aC) .no,.sl (kkids.map aO) .no,ay kobls]++List.drop (i*7+7) (au (pkids.map aO)++rest)=au (pkids.map aO)++rest:=by
       refine(kC hsz i aeX 0 [.s kid,.b kset,.i kalg,aV ktgt,.sl (krules.map aC) .no,.sl (kkids.map aO) .no,ay kobls] (aer rfl)).trans ?_;rw[pn];rw[List.getElem?_eq_getElem aeX,aet,hpk,og];rfl
      refine o4.idx (U:=U) (e:=39) i rfl aeX aeM aeG ?_;simp only[go_sem,hid];rw[e2,tH hid];refine⟨aeC,.hm2 p1 p4,?_⟩;simp only[go_sem,r59,w1];refine⟨_,?_,i+1,p1,sG _ _ vz,vs.trans sG,v4.sub sG,v5.sub sG,aeC,rfl,?_,?_,?_,?_,?_⟩
      ·omega
      all_goals simp only[go_sem,r1,r2,r57,r58]
     ·simp only[go_sem,r1,r2,q1,vz]
      refine .mk _ (.refl _) (.refl _) ⟨vs.put n2 _,aO (.mk pid pset palg ptgt prules pkids pobls),?_,og ..⟩;rw[og];have z4:∀b,Frz g (upd G i2 b) y4 (.sl (prules.map aC) .no):=fun b=>(v4.keep fun id e=>ag _ _ (hn4 id e)).frz (bn BK prules)
      have z5:∀b,Frz g (upd G i2 b) y5 (.sl (pkids.map aO) .no):=fun b=>(v5.keep fun id e=>ag _ _ (hn5 id e)).frz (by rw[←bf];exact vO pkids)
      refine .agg _ _ rfl fun k k1 k2=>?_
      rcases k with _|_|_|_|_|_|_|k
      ·exact aeW
      ·exact aeW
      ·exact aeW
      ·exact .pure (zM _)
      ·exact z4 _
      ·exact z5 _
      ·exact .pure (vP _)
      ·simp at k1;omega
termination_by p=>SizeOf.sizeOf p
decreasing_by
 have:=List.sizeOf_lt_of_mem (aex hj);simp only[bD.mk.sizeOf_spec];omega
end Go.Proofs.YtelkmnkejghkeaaGreatDoor
namespace Go.Ab
open Go
def apart(a b:AV):Prop:=∀i,nid a=some i→nid b≠some i
theorem apart.symm{a b:AV}(h:apart a b):apart b a:=fun i e1 e2=>h i e2 e1
theorem eD{a y:AV}{tb:TypeId}{g h:Heap}{sz:Nat}{xs:List AV}(hw:OwE tb g h sz y xs)(ha:∀i,nid a=some i→g i≠none):apart a y:=fun i e1 e2=>ha i e1 (hw.nid e2).1
theorem OwE.there{tb:TypeId}{h0 h h' :Heap}{sz:Nat}{y:AV}{xs:List AV}(hw:OwE tb h0 h sz y xs)(hs:∀i,h i≠Option.none→h' i≠Option.none):∀i,Ab.nid y=some i→h' i≠Option.none:=fun i e=>hs i (hw.nid e).2.1
theorem Sub.some{h h' :Heap}(hs:Sub h h'):∀i,h i≠Option.none→h' i≠Option.none:=fun i e e' =>e (hs.none e')
end Go.Ab
namespace Go.Proofs.YtelkmnkejghkeaaGreatDoor
open Go Go.Ab Go.Bf Tryz
variable {cs L ys:List AV}{x:AV}{c:aM}
def fF(h0 h:Heap)(ys:List AV)(x:AV)(c:aM):Prop:=∃f l,x= .agg [.s c.id,.s c.owner,.s c.state,f,l]∧OwE 196 h0 h 4 f (c.fields.map bN)∧OwE 186 h0 h 3 l (c.log.map iW)∧apart f l∧∀y∈ys,apart f y∧apart l y
def mG(h0 h:Heap)(ys:List AV)(y1:AV)(cs:List aM)(i0:Nat):Prop:=∃xs,OwE 120 h0 h 5 y1 xs∧xs.length=cs.length∧(∀j (h1:j<xs.length) (h2:j<cs.length),j≠i0→xs[j]=cu cs[j])∧∀(h1:i0<xs.length) (h2:i0<cs.length),fF h0 h ys xs[i0] cs[i0]
def tN(h0 h:Heap)(x:AV)(s:an)(i0:Nat):Prop:=∃y1 y2 y3 y4,x= .agg ([.i s.tick,y1,y2,y3,y4]++gq s.policy++ [.i s.version])∧mG h0 h [y1,y2,y3,y4] y1 s.cases i0∧
 OwE 134 h0 h 7 y2 (s.reviews.map jb)∧OwE 137 h0 h 3 y3 (s.notices.map nO)∧OwE 140 h0 h 2 y4 (s.roles.map eW)∧apart y1 y2∧apart y1 y3∧apart y1 y4∧apart y2 y3∧apart y2 y4∧apart y3 y4
theorem KK(h:L.length=cs.length):Ab.over cs 0 L=L:=by simp_all [Ab.over,List.take_zero,List.nil_append,Nat.zero_add,List.drop_of_length_le,List.append_nil]
theorem EP{h:Heap}(i i0:Nat)(hb:RdC h x c)(hl:c.fields.length≤1000000)(hl2:c.log.length≤1000000):ai prog 108 [x] h fun r h' =>
  ∃f l,r= .agg [.s c.id,.s c.owner,.s c.state,f,l]∧Ab.Sub h h'∧f.cells= [f]∧l.cells= [l]∧(i≠i0→f=gI c.fields∧l=tf c.log)∧(i=i0→OwE 196 h h' 4 f (c.fields.map bN)∧OwE 186 h h' 3 l (c.log.map iW)∧apart f l):=by
 by_cases e:i=i0
 ·exact(zE hb hl hl2).mono fun r h' ⟨⟨f,l,e1,a,b,c⟩,d⟩=>⟨f,l,e1,d,a.rd.cells,b.rd.cells,fun hh=>(hh e).elim,fun _=>⟨a,b,c⟩⟩
 ·exact(xl hb hl hl2).mono fun r h' ⟨e1,e2⟩=>⟨_,_,e1,by rw[e2];exact .refl _,rfl,rfl,fun _=>⟨rfl,rfl⟩,fun hh=>(e hh).elim⟩
theorem fF.sub{h0 h h' :Heap}(hm:fF h0 h ys x c)(hs:Ab.Sub h h'):fF h0 h' ys x c:=by obtain⟨f,l,e,a,b,c,d⟩:=hm;exact⟨f,l,e,a.sub hs,b.sub hs,c,d⟩
theorem fF.keep{h0 h h' :Heap}(hm:fF h0 h ys x c)(hs:∀f l,x= .agg [.s c.id,.s c.owner,.s c.state,f,l]→(∀y∈ys,apart f y∧apart l y)→∀i,(nid f=some i∨nid l=some i)→h' i=h i):fF h0 h' ys x c:=by obtain⟨f,l,e,a,b,c,d⟩:=hm;exact⟨f,l,e,a.keep fun i hi=>hs f l e d i (.inl hi),b.keep fun i hi=>hs f l e d i (.inr hi),c,d⟩
theorem Tv{h:Heap}{s:an}(hb:RdS h x s)(i0:Nat)(hf:Few s)(hp:mM 1 s.policy):ai prog 102 [x] h fun r h' =>tN h h' r s i0∧Ab.Sub h h' :=by
 obtain⟨y1,y2,y3,y4,rfl,⟨xs0,hc,hn,hcs⟩,h2,h3,h4⟩:=hb;have hpo:=uA s.policy 1 hp;cases hpp:s.policy with
 |mk pid pset palg ptgt prules pkids pobls=>
 rw[hpp,og]at hpo;have hcC:gq (.mk pid pset palg ptgt prules pkids pobls)= [.s pid,.b pset,.i palg,aV ptgt,.sl (prules.map aC) .no,.sl (pkids.map aO) .no,ay pobls]:=ahF;have hfc:=hf.cases;refine aeB func102 41 [.cell 2 41] fun hwf=>?_
 simp only[go_sem,hcC,List.cons_append,List.nil_append];intro i1 h1;simp only[go_sem];intro i2 h2';have n21:=aI h2';have n2:=aB h2';simp only[go_sem,ak,n21.symm];obtain⟨H,eH⟩:∃H,upd (upd h i1 (some (.obj [.i s.tick,y1,y2,y3,y4,.s pid,.b pset,.i palg,aV ptgt,.sl (prules.map aC) .no,.sl (pkids.map aO) .no,ay pobls,.i s.version] 41))) i2 (some (.obj [.i 0,.sl [] .full,.sl [] .full,.sl [] .full,.sl [] .full,.s [],.b false,.i 0,.sl [] .full,.sl [] .full,.sl [] .full,.sl [] .full,.i 0] 41))=H:=⟨_,rfl⟩;have hH:Ab.Sub h H:=afC;have g1:H i1=some (.obj [.i s.tick,y1,y2,y3,y4,.s pid,.b pset,.i palg,aV ptgt,.sl (prules.map aC) .no,.sl (pkids.map aO) .no,ay pobls,.i s.version] 41):=age;have g2:H i2=some (.obj [.i 0,.sl [] .full,.sl [] .full,.sl [] .full,.sl [] .full,.s [],.b false,.i 0,.sl [] .full,.sl [] .full,.sl [] .full,.sl [] .full,.i 0] 41):=af5;rw[eH];clear eH;refine(A5 y1 xs0 H (hc.sub hH) aeC).mono fun z1 H1 ⟨w1,s1⟩=>?_
 simp only[go_sem,s1 _ _ g1,w1.rd.fit,w1.rd.cells];have v1:∀b,OwE 120 h (upd H1 i1 b) 5 z1 xs0:=fun b=>(w1.less hH).keep fun id e=>ag _ _ (cJ (w1.nid e).1 g1)
 have vs:∀b,Ab.Sub h (upd H1 i1 b):=fun b=>(hH.trans s1).put h1 b
 have vz:∀b,upd H1 i1 b i2=some (.obj [.i 0,.sl [] .full,.sl [] .full,.sl [] .full,.sl [] .full,.s [],.b false,.i 0,.sl [] .full,.sl [] .full,.sl [] .full,.sl [] .full,.i 0] 41):=fun b=>by rw[ag _ _ n21];exact s1 _ _ g2
 have hz1:∀id,nid z1=some id→id≠i1:=fun id e=>cJ (w1.nid e).1 g1
 have hz2:∀id,nid z1=some id→id≠i2:=fun id e=>cJ (w1.nid e).1 g2
 obtain⟨H2,eH2⟩:∃H2,upd H1 i1 (some (.obj [.i s.tick,z1,y2,y3,y4,.s pid,.b pset,.i palg,aV ptgt,.sl (prules.map aC) .no,.sl (pkids.map aO) .no,ay pobls,.i s.version] 41))=H2:=⟨_,rfl⟩;replace v1:=v1 (some (.obj [.i s.tick,z1,y2,y3,y4,.s pid,.b pset,.i palg,aV ptgt,.sl (prules.map aC) .no,.sl (pkids.map aO) .no,ay pobls,.i s.version] 41));replace vs:=vs (some (.obj [.i s.tick,z1,y2,y3,y4,.s pid,.b pset,.i palg,aV ptgt,.sl (prules.map aC) .no,.sl (pkids.map aO) .no,ay pobls,.i s.version] 41));replace vz:=vz (some (.obj [.i s.tick,z1,y2,y3,y4,.s pid,.b pset,.i palg,aV ptgt,.sl (prules.map aC) .no,.sl (pkids.map aO) .no,ay pobls,.i s.version] 41));have q1:H2 i1=some (.obj [.i s.tick,z1,y2,y3,y4,.s pid,.b pset,.i palg,aV ptgt,.sl (prules.map aC) .no,.sl (pkids.map aO) .no,ay pobls,.i s.version] 41):=by rw[←eH2,ah]
 rw[eH2]at v1 vs vz;rw[eH2];clear eH2;simp only[go_sem,v1.rd.len,hn];refine .intro (fun m ρ G=>∃(i:Nat) (xs:List AV),G i1=some (.obj [.i s.tick,z1,y2,y3,y4,.s pid,.b pset,.i palg,aV ptgt,.sl (prules.map aC) .no,.sl (pkids.map aO) .no,ay pobls,.i s.version] 41)∧G i2=some (.obj [.i 0,.sl [] .full,.sl [] .full,.sl [] .full,.sl [] .full,.s [],.b false,.i 0,.sl [] .full,.sl [] .full,.sl [] .full,.sl [] .full,.i 0] 41)∧Ab.Sub h G∧OwE 120 h G 5 z1 xs∧xs.length=s.cases.length∧(∀j (h1:j<xs.length) (h2:j<s.cases.length),j<i→j≠i0→xs[j]=cu s.cases[j])∧(∀(h1:i0<xs.length) (h2:i0<s.cases.length),i0<i→fF h G [z1] xs[i0] s.cases[i0])∧(∀j (h1:j<xs.length) (h2:j<s.cases.length),i≤j→RdC h xs[j] s.cases[j])∧i≤s.cases.length∧m=s.cases.length - i∧
  lk ρ 1=some (.ptr i1 0)∧lk ρ 2=some (.ptr i2 0)∧lk ρ 10=some z1∧lk ρ 11=some (.i s.cases.length)∧lk ρ 12=some (.i i)) s.cases.length ?_ ?_
 ·refine⟨0,xs0,q1,vz,vs,v1,hn,fun j _ _ hj=>aeC,fun _ _ hj=>aeC,fun j a b _=>hcs j a b,aeC,rfl,?_,?_,?_,?_,?_⟩<;>simp only[go_sem]
 ·rintro m ρ G ⟨i,xs,q1,vz,vs,v1,hn,hlo,hmy,hhi,hi,rfl,r1,r2,r10,r11,r12⟩
  simp only[go_sem,r11,r12];refine .intro (fun e=>?_) (fun e=>?_)
  ·have hlt:i<s.cases.length:=aez e
   have hltx:i<xs.length:=aeC;have w1:=aey i aeC;obtain⟨f,l,ex,hfl,hlg⟩:=hhi i hltx hlt (Nat.le_refl _);have hff:=hf.fields _ (aex hlt);have hfg:=hf.log _ (aex hlt);simp only[go_sem,r10,r12];refine v1.rd.idx (e:=120) i rfl hltx ot aeG fun p hp1=>?_
   have hld:=hp1.all (U:=U) (ty:=120) aeM (by rw[ot,ex];rfl) (by simp only[go_sem];rw[ex];rfl)
   simp only[go_sem,hld,ex];intro i4 h4;have n41:i4≠i1:=cJ h4 q1;simp only[go_sem];obtain⟨G4,eG4⟩:∃G4,upd G i4 (some (.obj [.s s.cases[i].id,.s s.cases[i].owner,.s s.cases[i].state,f,l] 120))=G4:=⟨_,rfl⟩;rw[eG4];have p1:G4 i1=some (.obj [.i s.tick,z1,y2,y3,y4,.s pid,.b pset,.i palg,aV ptgt,.sl (prules.map aC) .no,.sl (pkids.map aO) .no,ay pobls,.i s.version] 41):=ahf;have p4:G4 i4=some (.obj [.s s.cases[i].id,.s s.cases[i].owner,.s s.cases[i].state,f,l] 120):=by rw[←eG4,ah]
   have sG:Ab.Sub G G4:=ahU;refine .calls (hm2 i1 (.obj [.i s.tick,z1,y2,y3,y4,.s pid,.b pset,.i palg,aV ptgt,.sl (prules.map aC) .no,.sl (pkids.map aO) .no,ay pobls,.i s.version] 41) i4 (.obj [.s s.cases[i].id,.s s.cases[i].owner,.s s.cases[i].state,f,l] 120)) [0,1,2,3,4,5,6] (.hm2 p1 p4) aeF rfl ?_;simp only[go_sem,r1,rZ _ _ n41.symm,sd];refine(EP i i0 (show RdC G4 (.agg [.s s.cases[i].id,.s s.cases[i].owner,.s s.cases[i].state,f,l]) s.cases[i]from⟨f,l,rfl,hfl.sub (vs.trans sG),hlg.sub (vs.trans sG)⟩) hff hfg).mono fun r G5 ⟨f',l',er,s5,cf,cl,hne,heq⟩=>?_
   subst er;have p1' :=s5 _ _ p1;have p4' :=s5 _ _ p4;refine⟨.hm2 p1' p4',?_⟩;simp only[go_sem];obtain⟨id1,hg1,o1⟩:=((v1.sub sG).sub s5).ow (by intro e;rw[e]at hltx;cases hltx)
   have t1:id1≠i1:=mE o1 p1' aeG;have t2:id1≠i2:=hz2 id1 o1.nid;have t3:G4 id1≠none:=fun e=>(v1.nid o1.nid).2.1 (sG.none e)
   have o1' :=o1;obtain⟨cap,rest,ey,hid,hr,hcap,hsz⟩:=o1';have hbd:i*5+5≤(au xs++rest).length:=by
    rw[aew,aX hsz];omega
   have hx5:xs[i].cells.length=5:=hsz _ (aex hltx);have e2:List.take (i*5) (au xs++rest)++ [.s s.cases[i].id,.s s.cases[i].owner,.s s.cases[i].state,f',l']++List.drop (i*5+5) (au xs++rest)=au (xs.set i (.agg [.s s.cases[i].id,.s s.cases[i].owner,.s s.cases[i].state,f',l']))++rest:=by
    refine(kC hsz i hltx 0 [.s s.cases[i].id,.s s.cases[i].owner,.s s.cases[i].state,f',l'] (aer rfl)).trans ?_;rw[KK (by rw[hx5];rfl)]
   refine o1.idx (U:=U) (e:=120) i rfl hltx ot aeG ?_;simp only[go_sem,hid];rw[e2];have t4:id1≠i4:=fun e=>(v1.nid o1.nid).2.1 (by rw[e];exact h4)
   refine⟨aeC,.hm2 (by rw[ag _ _ t1.symm];exact p1') (by rw[ag _ _ t4.symm];exact p4'),?_⟩
   simp only[go_sem,r12,w1];have ho:∀b k,k≠id1→upd G5 id1 b k=G5 k:=fun b k hk=>ag _ _ hk
   have hs6:∀b,Ab.Sub h (upd G5 id1 b):=fun b=>((vs.trans sG).trans s5).put hg1 b
   refine⟨_,?_,i+1,xs.set i (.agg [.s s.cases[i].id,.s s.cases[i].owner,.s s.cases[i].state,f',l']),(ho _ _ t1.symm).trans p1',(ho _ _ t2.symm).trans (s5 _ _ (sG _ _ vz)),hs6 _,.inr ⟨id1,hg1,cap,rest,agT,ah ..,by rw[List.length_set];exact hr,agM,?_⟩,by rw[List.length_set];exact hn,fun j a b hj hj0=>?_,fun a b hj=>?_,fun j a b hj=>?_,aeC,rfl,?_,?_,?_,?_,?_⟩
   ·omega
   ·intro z hz
    exact ajt
   ·have a' :j<xs.length:=by rw[List.length_set]at a;exact a
    by_cases hji:j=i
    ·subst hji
     obtain⟨ef,el⟩:=hne hj0;rw[List.getElem_set_self,ef,el];rfl
    ·rw[List.getElem_set_ne (Ne.symm hji)]
     exact hlo j a' b aeC hj0
   ·have a' :i0<xs.length:=by rw[List.length_set]at a;exact a
    by_cases hji:i=i0
    ·subst hji
     obtain⟨of,ol,hap⟩:=heq rfl;have kf:∀k,G4 k=none→upd G5 id1 (some (.obj (au (xs.set i (.agg [.s s.cases[i].id,.s s.cases[i].owner,.s s.cases[i].state,f',l']))++rest) 120)) k=G5 k:=fun k hk=>ag _ _ fun e=>t3 (by rw[←e];exact hk)
     rw[List.getElem_set_self];refine⟨f',l',rfl,(of.less (vs.trans sG)).keep fun k hk=>kf k (of.nid hk).1,(ol.less (vs.trans sG)).keep fun k hk=>kf k (ol.nid hk).1,hap,fun y hy=>?_⟩
     rw[List.mem_singleton.1 hy];have hz1:∀k,nid z1=some k→G4 k≠none:=(v1.sub sG).there fun k hk=>hk
     exact⟨(eD of hz1).symm,(eD ol hz1).symm⟩
    ·rw[List.getElem_set_ne hji]
     have hm:=hmy a' b aeC;refine fF.keep (h:=G5) ((hm.sub sG).sub s5) fun f l ex hap k hk=>?_
     refine ag _ _ fun e=>?_
     subst e;rcases hk with hk|hk
     ·exact(hap z1 (List.mem_singleton.2 rfl)).1 _ hk o1.nid
     ·exact(hap z1 (List.mem_singleton.2 rfl)).2 _ hk o1.nid
   ·have a' :j<xs.length:=by rw[List.length_set]at a;exact a
    rw[List.getElem_set_ne aeC];exact hhi j a' b aeC
   all_goals simp only[go_sem,r1,r2,r10,r11]
  ·have hge:i=s.cases.length:=by have:=aev e;omega
   simp only[go_sem];refine .stage (hm1 i1 (.obj [.i s.tick,z1,y2,y3,y4,.s pid,.b pset,.i palg,aV ptgt,.sl (prules.map aC) .no,.sl (pkids.map aO) .no,ay pobls,.i s.version] 41)) [0,1,3,4,6,7,2,9,5,8] [10,11,12,13,14] (.hm1 q1) aeF ?_;simp only[go_sem,r1,gy];refine(wF y2 _ G (h2.sub vs) (by rw[aes];exact hf.reviews)).mono fun z2 G1 ⟨o2,s1⟩=>?_
   refine⟨.hm1 (s1 _ _ q1),?_⟩;simp only[go_sem,r1];refine(wE y3 _ G1 ((h3.sub vs).sub s1) (by rw[aes];exact hf.notices)).mono fun z3 G2 ⟨o3,s2⟩=>?_
   refine⟨.hm1 (s2 _ _ (s1 _ _ q1)),?_⟩;simp only[go_sem];refine(JD y4 _ G2 (((h4.sub vs).sub s1).sub s2) (by rw[aes];exact hf.roles)).mono fun z4 G3 ⟨o4,s3⟩=>?_
   have s03:Ab.Sub G G3:=s1.trans (s2.trans s3);have q1' :=s03 _ _ q1;have q2' :=s03 _ _ vz;refine⟨.hm1 q1',cS,(fun _ _ e=>ae2),?_⟩
   simp only[go_sem,r1,q1',o2.rd.fit,o2.rd.cells,o3.rd.fit,o3.rd.cells,o4.rd.fit,o4.rd.cells];refine⟨fun _ _ e=>ae2,fun _ _ e=>ae2,fun _ _ e=>ae2,?_⟩
   refine(show ai prog 157 [_] _ _ from hpo _).pthen ?_
   have vz' :∀b,upd G3 i1 b i2=some (.obj [.i 0,.sl [] .full,.sl [] .full,.sl [] .full,.sl [] .full,.s [],.b false,.i 0,.sl [] .full,.sl [] .full,.sl [] .full,.sl [] .full,.i 0] 41):=fun b=>by rw[ag _ _ n21];exact q2'
   simp only[go_sem,r1,r2,vz'];have k1:∀ {tb:TypeId} {z:AV} {xs:List AV} {n:Nat} {g:Heap},OwE tb g G3 n z xs→Ab.Sub h g→(∀id,nid z=some id→id≠i1∧id≠i2)→∀a b,OwE tb h (upd (upd G3 i1 a) i2 b) n z xs:=fun w hg hn a b=>(w.less hg).keep fun id e=>by
    rw[ag _ _ (hn id e).2,ag _ _ (hn id e).1]
   have new:∀ {tb:TypeId} {z:AV} {xs:List AV} {n:Nat} {g:Heap},OwE tb g G3 n z xs→Ab.Sub G g→∀id,nid z=some id→id≠i1∧id≠i2:=fun w hg id e=>⟨cJ (w.nid e).1 (hg _ _ q1),cJ (w.nid e).1 (hg _ _ vz)⟩
   have n2' :=new (o2.sub (s2.trans s3)) (.refl _);have n3' :=new (o3.sub s3) s1;have n4' :=new o4 (s1.trans s2);have n1' :∀id,nid z1=some id→id≠i1∧id≠i2:=fun id e=>⟨hz1 id e,hz2 id e⟩
   have aG:∀k,nid z1=some k→G k≠none:=v1.there fun k hk=>hk
   refine .mk _ (.refl _) (.refl _) ⟨⟨z1,z2,z3,z4,by rw[hpp,hcC];rfl,⟨xs,k1 (v1.sub s03) (.refl _) n1' _ _,hn,fun j a b hj=>hlo j a b aeC hj,fun a b=>?_⟩,k1 (o2.sub (s2.trans s3)) vs n2' _ _,k1 (o3.sub s3) (vs.trans s1) n3' _ _,k1 o4 (vs.trans (s1.trans s2)) n4' _ _,?_,?_,?_,?_,?_,?_⟩,((vs.trans s03).put h1 _).put n2 _⟩
   ·have hm:=(hmy a b aeC).sub s03
    obtain⟨f,l,ex,of,ol,hap,hy⟩:=hm;obtain⟨af,al⟩:=hy z1 (List.mem_singleton.2 rfl);have kf:∀k,nid f=some k→k≠i1∧k≠i2:=fun k hk=>⟨mE (of.nid hk).2.2 q1' aeG,mE (of.nid hk).2.2 q2' aeG⟩
    have kl:∀k,nid l=some k→k≠i1∧k≠i2:=fun k hk=>⟨mE (ol.nid hk).2.2 q1' aeG,mE (ol.nid hk).2.2 q2' aeG⟩
    obtain⟨f0,l0,ex0,of0,ol0,_⟩:=hmy a b aeC;obtain⟨rfl,rfl⟩:f0=f∧l0=l:=by
     rw[ex0]at ex;simp only[AV.agg.injEq,List.cons.injEq,true_and,and_true]at ex;exact ex
    have gf:∀k,nid f0=some k→G k≠none:=of0.there fun k hk=>hk
    have gl:∀k,nid l0=some k→G k≠none:=ol0.there fun k hk=>hk
    refine⟨f0,l0,ex,k1 of (.refl _) kf _ _,k1 ol (.refl _) kl _ _,hap,fun y hy=>?_⟩
    simp only[List.mem_cons,List.not_mem_nil,or_false]at hy;rcases hy with rfl|rfl|rfl|rfl
    ·exact⟨af,al⟩
    ·exact⟨eD o2 gf,eD o2 gl⟩
    ·exact⟨eD o3 fun k hk=>s1.some k (gf k hk),eD o3 fun k hk=>s1.some k (gl k hk)⟩
    ·exact⟨eD o4 fun k hk=>(s1.trans s2).some k (gf k hk),eD o4 fun k hk=>(s1.trans s2).some k (gl k hk)⟩
   ·exact eD o2 aG
   ·exact eD o3 fun k hk=>s1.some k (aG k hk)
   ·exact eD o4 fun k hk=>(s1.trans s2).some k (aG k hk)
   ·exact eD o3 (o2.there fun k hk=>hk)
   ·exact eD o4 ((o2.sub s2).there fun k hk=>hk)
   ·exact eD o4 (o3.there fun k hk=>hk)
end Go.Proofs.YtelkmnkejghkeaaGreatDoor
namespace Go.Ab
open Go
variable {A B C X:List AV}{k1 k2 k3 k4:Nat}
theorem pS{k m:Nat}(hk:k=A.length)(hm:m=X.length)(h:X.length=B.length):(A++(B++C)).take k++X++(A++(B++C)).drop (k+m)=A++(X++C):=by grind
theorem Iy(h1:k1=A.length+X.length)(h2:k2=k1+B.length)(h3:k3=A.length)(h4:k4=k3+X.length)(hc:X.length≤C.length):
  List.take k3 (List.take k1 (A++(B++C))++B++List.drop k2 (A++(B++C)))++X++List.drop k4 (List.take k1 (A++(B++C))++B++List.drop k2 (A++(B++C)))=A++(X++(B++C.drop X.length)):=by
 subst h1;subst h2;subst h3;subst h4
 have e1:List.take (A.length+X.length) (A++(B++C))=A++List.take X.length (B++C):=aeD;have e2:List.drop (A.length+X.length+B.length) (A++(B++C))=C.drop X.length:=by
  grind [Nat.add_assoc,List.drop_drop,List.drop_left,Nat.add_comm]
 rw[e1,e2,List.append_assoc A];have e3:(List.take X.length (B++C)).length=X.length:=by rw[List.length_take,aew];omega
 have e4:A++(List.take X.length (B++C)++B++List.drop X.length C)=A++(List.take X.length (B++C)++(B++C.drop X.length)):=aeJ;rw[List.append_assoc A,e4];exact pS rfl rfl e3.symm
theorem Iz{Z R:List AV}(h1:k1=A.length)(h2:k2=k1+X.length)(h3:k3=A.length+X.length)(h4:k4=k3+B.length)(hz:Z.length=X.length+B.length):
  List.take k3 (List.take k1 (A++Z++R)++X++List.drop k2 (A++Z++R))++B++List.drop k4 (List.take k1 (A++Z++R)++X++List.drop k2 (A++Z++R))=A++(X++(B++R)):=by
 subst h1;subst h2;subst h3;subst h4
 obtain⟨Z1,Z2,rfl,e1⟩:∃Z1 Z2,Z=Z1++Z2∧Z1.length=X.length:=⟨Z.take X.length,Z.drop X.length,(List.take_append_drop _ _).symm,aeD⟩;have e2:Z2.length=B.length:=aeD;have e3:A++(Z1++Z2)++R=A++(Z1++(Z2++R)):=aeJ;rw[e3,pS rfl rfl e1.symm,←List.append_assoc A X,pS aeJ rfl e2.symm,List.append_assoc]
end Go.Ab
namespace Go.Proofs.YtelkmnkejghkeaaGreatDoor
open Go Go.Ab Go.Bf Tryz
theorem KI{h:Heap}{v:AV}{id off len cap:Nat}{cs:List AV}{t:TypeId}(hv:v.cells.length=5)(hid:h id=some (.obj cs t))(hcs:cs≠ []):ai prog 158 [.sl [v] .full,.ob id off len cap 5] h fun r h' =>r= .b false∧h' =h:=
 xk (U:=U) (tS:=29) (tR:=4) (e:=120) hU func158 aeR aeR aeR aeF aeR aeG (by simp only[go_sem];omega) aeJ hid hcs
theorem GC(y:AV)(xs:List AV)(v:AV)(i:Nat)(h0 h:Heap)(hw:OwE 120 h0 h 5 y xs)(hs0:Ab.Sub h0 h)(hi:i≤xs.length)(hl:xs.length≤1000000)(hv:v.cells.length=5)(hva:fit v 5):
  ai prog 104 [y,.i i,.sl [v] .full] h fun r h' =>OwE 120 h0 h' 5 r (xs.take i++([v]++xs.drop i))∧(∀k,h k≠none→nid y≠some k→h' k=h k)∧∀k,nid r=some k→h k=none∨nid y=some k:=by
 rcases hw with⟨rfl,rfl⟩|⟨id,hg,cap,rest,rfl,hid,hr,hc,hsz⟩
 ·obtain rfl:i=0:=by simpa using hi
  refine aeB func104 95 [.tmp 6] fun hwf=>?_
  simp only[go_sem];refine⟨aeC,aeC,hv,.ob aeM (kP.ow (xs:=[v]) agB ahZ rfl fun id y' h' hid hw ho=>?_)⟩
  have hw' :Ow 120 h' 5 id y' [v]:=ahD;simp only[go_sem];refine .same (.refl _) ⟨.inr ⟨id,hs0.none hid,hw'⟩,fun k hk _=>ho k (fun e=>hk (by rw[e];exact hid)),fun k hk=>?_⟩
  rw[show ax [y']=y' from rfl,hw'.nid]at hk
  cases hk;exact .inl hid
 ·have how:OwE 120 h0 h 5 (.ob id 0 xs.length cap 5) xs:=.inr ⟨id,hg,cap,rest,rfl,hid,hr,hc,hsz⟩
  have hfl:=aX hsz;refine aeB func104 95 [.tmp 6] fun hwf=>?_
  simp only[go_sem];refine⟨aeC,aeC,?_⟩;cases d1:((i:Int)==(xs.length:Int))
  case true=>
   have hin:i=xs.length:=by
    have:(i:Int)=(xs.length:Int):=ahB;omega
   simp only[go_sem];subst hin;refine⟨aeC,?_⟩;refine OwE.app (U:=U) (tb:=120) how hs0 (.sl ahq .full:Rd h 5 (.sl [v] .full) [v]) aeM aeG aeH aeM aeJ agZ fun id2 y' h' g2 hor hw ho=>?_
   simp only[go_sem];have e1:xs.take xs.length++([v]++xs.drop xs.length)=xs++ [v]:=aeJ;refine .same (.refl _) ⟨by have:OwE 120 h0 h' 5 y' (xs++ [v]):=.inr ⟨id2,g2,hw⟩;rw[←e1]at this;exact this,fun k hk hk2=>ho k fun e=>?_,fun k hk=>?_⟩
   ·rcases hor with hor|⟨l,c,ey⟩
    ·exact hk aiv
    ·cases ey
     exact hk2 aio
   ·exact ajV
  have hne:i<xs.length:=by
   have:¬(i:Int)=(xs.length:Int):=ahB;omega
  have wn:IntKind.i64.wrap ((xs.length:Int)+1)=((xs.length+1:Nat):Int):=afa;have wi:=aey i aeC;have wm:IntKind.i64.wrap (((xs.length+1:Nat):Int) - (i:Int))=((xs.length+1 - i:Nat):Int):=afa;have f1:au xs=au (xs.take i)++au (xs.drop i):=ahY;have f2:(au (xs.take i)).length=i*5:=by rw[aX (sz:=5) fun z hz=>hsz z (List.mem_of_mem_take hz),List.length_take,Nat.min_eq_left hi]
  have f3:(au (xs.drop i)).length=(xs.length - i)*5:=by rw[aX (sz:=5) fun z hz=>hsz z (List.mem_of_mem_drop hz),List.length_drop]
  have f4:au (xs.take i++([v]++xs.drop i))=au (xs.take i)++(v.cells++au (xs.drop i)):=ahZ;have f5:Sized 5 (xs.take i++([v]++xs.drop i)):=fun z hz=>by
   exact aju
  have f6:(xs.take i++([v]++xs.drop i)).length=xs.length+1:=ae0;have f6' :(xs.take i++v::xs.drop i).length=xs.length+1:=f6;cases d2:decide ((cap:Int)<((xs.length+1:Nat):Int))
  ·have e2:=aev d2
   simp only[go_sem,wn,d2];refine⟨aeC,?_⟩;simp only[go_sem,wi];have hcs:au xs++rest≠ []:=by
    intro e;have:=congrArg List.length e;rw[aew,hfl]at this;simp at this;omega
   refine⟨aeC,aeC,aeC,aeC,aeC,aeC,?_⟩;refine(KI hv hid hcs).pthen ?_;simp only[go_sem];refine .calls cS [0,1,2,3,4,5,6,7,8] (fun _ _ e=>ae2) aeF rfl ?_
   simp only[go_sem,wi,hid,Nat.sub_zero];have hmin:min (xs.length+1 - i) (xs.length+1 - (i+1))=xs.length - i:=aeC;refine⟨aeC,aeC,aeC,aeC,aeC,aeC,xs.drop i,ahi,ag8, ?q1,fun z hz=>hsz z (List.mem_of_mem_drop hz),aga,by rw[aew,hfl,hr];omega,aik,aeC,aeC,aeC,hv,aeC, ?ln, ?fin⟩
   case q1=>rw[hmin,f1,List.append_assoc,←f2,List.drop_left,←f3,List.take_left]
   case ln=>simp only[aew,List.length_take,List.length_drop,hfl,hr,f3];omega
   have hrl:(5:Nat)≤rest.length:=by rw[hr];omega
   have hfv:au [v]=v.cells:=ahZ;have key:=Iy (A:=au (xs.take i)) (B:=au (xs.drop i)) (C:=rest) (X:=au [v]) (k1:=(i+1)*5) (k2:=(i+1)*5+(au (xs.drop i)).length) (k3:=i*5) (k4:=i*5+(au [v]).length) ah6 rfl f2.symm rfl (by rw[hfv,hv];exact hrl)
   rw[←List.append_assoc (au (xs.take i)) (au (xs.drop i)) rest,←f1]at key;rw[key];have e8:au (xs.take i)++(au [v]++(au (xs.drop i)++rest.drop (au [v]).length))=au (xs.take i++([v]++xs.drop i))++rest.drop 5:=by rw[f4,hfv,hv];simp only[List.append_assoc]
   rw[e8];refine .same (.refl _) ⟨.inr ⟨id,hg,cap,rest.drop 5,by rw[←f6];rfl,ah _ _ _,by rw[List.length_drop,hr,f6'];omega,agh,f5⟩,fun k hk hk2=>ag _ _ fun e=>hk2 aio,fun k hk=> .inr hk⟩
  ·have e2:=aeu d2
   simp only[go_sem,wn,d2,wm];refine⟨aeC,?_⟩;simp only[go_sem,hid];have eA:List.take (i*5) (au xs++rest)=au (xs.take i):=by rw[f1,List.append_assoc,←f2,List.take_left]
   refine⟨aeC,aeC,aeC,aeC,aeC,aeC,by rw[aew,hfl];omega,?_⟩
   rw[Nat.sub_zero,eA];obtain⟨Z,eZ⟩:∃Z,cK (AV.agg [AV.s [],AV.s [],AV.s [],AV.sl [] Perm.full,AV.sl [] Perm.full]) (xs.length+1 - i) 5=Z:=⟨_,rfl⟩;have lZ:Z.length=(xs.length+1 - i)*5:=by rw[←eZ];simp[cK]
   rw[eZ];intro id2 cap2 rest2 hid2 hc2 hr2;have hx:¬id=id2:=fun e=>by rw[e,hid2]at hid;cases hid
   simp only[go_sem];have hfv:au [v]=v.cells:=ahZ;refine⟨aeC,aeC,aeC,hv,aeC,agN,?_⟩;refine .calls cS [0,1,2,3,4,5,6,7,8] (fun _ _ e=>ae2) aeF rfl ?_
   simp only[go_sem,wi,hid,hx,Nat.sub_zero];have hmin:min (xs.length - i) (i+(xs.length+1 - i) - (i+1))=xs.length - i:=aeC;have l0:(au (xs.take i)++Z++rest2).length=(i+(xs.length+1 - i))*5+(cap2 - (i+(xs.length+1 - i)))*5:=agN;refine⟨aeC,aeC,aeC,aeC,aeC,aeC,xs.drop i,ahi,ag8, ?q2,fun z hz=>hsz z (List.mem_of_mem_drop hz),aga, ?lm,aik, ?fim⟩
   case q2=>rw[hmin,f1,List.append_assoc,←f2,List.drop_left,←f3,List.take_left]
   case lm=>rw[hfv];simp only[aew,List.length_take,List.length_drop,l0,hv];omega
   rw[Iz f2.symm rfl ah6 rfl (by rw[hfv,hv,lZ,f3];omega)]
   have e8:au (xs.take i)++(au [v]++(au (xs.drop i)++rest2))=au (xs.take i++([v]++xs.drop i))++rest2:=by rw[f4,hfv];simp only[List.append_assoc]
   rw[e8];have e9:i+(xs.length+1 - i)=xs.length+1:=aeC;rw[e9]at hr2 hc2⊢;refine .same (.refl _) ⟨.inr ⟨id2,hs0.none hid2,cap2,rest2,by rw[←f6];rfl,ah _ _ _,by rw[hr2,f6'],by rw[f6'];omega,f5⟩,fun k hk hk2=>ag _ _ fun e=>hk (by rw[e];exact hid2),fun k hk=> .inl (by cases hk;exact hid2)⟩
theorem Hf{h:Heap}{v:AV}{id off len cap:Nat}{cs:List AV}{t:TypeId}(hv:v.cells.length=4)(hid:h id=some (.obj cs t))(hcs:cs≠ []):ai prog 217 [.sl [v] .full,.ob id off len cap 4] h fun r h' =>r= .b false∧h' =h:=
 xk (U:=U) (tS:=117) (tR:=4) (e:=196) hU func217 aeR aeR aeR aeF aeR aeG (by simp only[go_sem];omega) aeJ hid hcs
theorem Ef(y:AV)(xs:List AV)(v:AV)(i:Nat)(h0 h:Heap)(hw:OwE 196 h0 h 4 y xs)(hs0:Ab.Sub h0 h)(hi:i≤xs.length)(hl:xs.length≤1000000)(hv:v.cells.length=4)(hva:fit v 4):
  ai prog 161 [y,.i i,.sl [v] .full] h fun r h' =>OwE 196 h0 h' 4 r (xs.take i++([v]++xs.drop i))∧(∀k,h k≠none→nid y≠some k→h' k=h k)∧∀k,nid r=some k→h k=none∨nid y=some k:=by
 rcases hw with⟨rfl,rfl⟩|⟨id,hg,cap,rest,rfl,hid,hr,hc,hsz⟩
 ·obtain rfl:i=0:=by simpa using hi
  refine aeB func161 95 [.tmp 6] fun hwf=>?_
  simp only[go_sem];refine⟨aeC,aeC,hv,.ob aeM (kP.ow (xs:=[v]) agB ahZ rfl fun id y' h' hid hw ho=>?_)⟩
  have hw' :Ow 196 h' 4 id y' [v]:=ahD;simp only[go_sem];refine .same (.refl _) ⟨.inr ⟨id,hs0.none hid,hw'⟩,fun k hk _=>ho k (fun e=>hk (by rw[e];exact hid)),fun k hk=>?_⟩
  rw[show ax [y']=y' from rfl,hw'.nid]at hk
  cases hk;exact .inl hid
 ·have how:OwE 196 h0 h 4 (.ob id 0 xs.length cap 4) xs:=.inr ⟨id,hg,cap,rest,rfl,hid,hr,hc,hsz⟩
  have hfl:=aX hsz;refine aeB func161 95 [.tmp 6] fun hwf=>?_
  simp only[go_sem];refine⟨aeC,aeC,?_⟩;cases d1:((i:Int)==(xs.length:Int))
  case true=>
   have hin:i=xs.length:=by
    have:(i:Int)=(xs.length:Int):=ahB;omega
   simp only[go_sem];subst hin;refine⟨aeC,?_⟩;refine OwE.app (U:=U) (tb:=196) how hs0 (.sl ahq .full:Rd h 4 (.sl [v] .full) [v]) aeM aeG aeH aeM aeJ agZ fun id2 y' h' g2 hor hw ho=>?_
   simp only[go_sem];have e1:xs.take xs.length++([v]++xs.drop xs.length)=xs++ [v]:=aeJ;refine .same (.refl _) ⟨by have:OwE 196 h0 h' 4 y' (xs++ [v]):=.inr ⟨id2,g2,hw⟩;rw[←e1]at this;exact this,fun k hk hk2=>ho k fun e=>?_,fun k hk=>?_⟩
   ·rcases hor with hor|⟨l,c,ey⟩
    ·exact hk aiv
    ·cases ey
     exact hk2 aio
   ·exact ajV
  have hne:i<xs.length:=by
   have:¬(i:Int)=(xs.length:Int):=ahB;omega
  have wn:IntKind.i64.wrap ((xs.length:Int)+1)=((xs.length+1:Nat):Int):=afa;have wi:=aey i aeC;have wm:IntKind.i64.wrap (((xs.length+1:Nat):Int) - (i:Int))=((xs.length+1 - i:Nat):Int):=afa;have f1:au xs=au (xs.take i)++au (xs.drop i):=ahY;have f2:(au (xs.take i)).length=i*4:=by rw[aX (sz:=4) fun z hz=>hsz z (List.mem_of_mem_take hz),List.length_take,Nat.min_eq_left hi]
  have f3:(au (xs.drop i)).length=(xs.length - i)*4:=by rw[aX (sz:=4) fun z hz=>hsz z (List.mem_of_mem_drop hz),List.length_drop]
  have f4:au (xs.take i++([v]++xs.drop i))=au (xs.take i)++(v.cells++au (xs.drop i)):=ahZ;have f5:Sized 4 (xs.take i++([v]++xs.drop i)):=fun z hz=>by
   exact aju
  have f6:(xs.take i++([v]++xs.drop i)).length=xs.length+1:=ae0;have f6' :(xs.take i++v::xs.drop i).length=xs.length+1:=f6;cases d2:decide ((cap:Int)<((xs.length+1:Nat):Int))
  ·have e2:=aev d2
   simp only[go_sem,wn,d2];refine⟨aeC,?_⟩;simp only[go_sem,wi];have hcs:au xs++rest≠ []:=by
    intro e;have:=congrArg List.length e;rw[aew,hfl]at this;simp at this;omega
   refine⟨aeC,aeC,aeC,aeC,aeC,aeC,?_⟩;refine(Hf hv hid hcs).pthen ?_;simp only[go_sem];refine .calls cS [0,1,2,3,4,5,6,7,8] (fun _ _ e=>ae2) aeF rfl ?_
   simp only[go_sem,wi,hid,Nat.sub_zero];have hmin:min (xs.length+1 - i) (xs.length+1 - (i+1))=xs.length - i:=aeC;refine⟨aeC,aeC,aeC,aeC,aeC,aeC,xs.drop i,ahi,ag8, ?q1,fun z hz=>hsz z (List.mem_of_mem_drop hz),aga,by rw[aew,hfl,hr];omega,aik,aeC,aeC,aeC,hv,aeC, ?ln, ?fin⟩
   case q1=>rw[hmin,f1,List.append_assoc,←f2,List.drop_left,←f3,List.take_left]
   case ln=>simp only[aew,List.length_take,List.length_drop,hfl,hr,f3];omega
   have hrl:(4:Nat)≤rest.length:=by rw[hr];omega
   have hfv:au [v]=v.cells:=ahZ;have key:=Iy (A:=au (xs.take i)) (B:=au (xs.drop i)) (C:=rest) (X:=au [v]) (k1:=(i+1)*4) (k2:=(i+1)*4+(au (xs.drop i)).length) (k3:=i*4) (k4:=i*4+(au [v]).length) ah6 rfl f2.symm rfl (by rw[hfv,hv];exact hrl)
   rw[←List.append_assoc (au (xs.take i)) (au (xs.drop i)) rest,←f1]at key;rw[key];have e8:au (xs.take i)++(au [v]++(au (xs.drop i)++rest.drop (au [v]).length))=au (xs.take i++([v]++xs.drop i))++rest.drop 4:=by rw[f4,hfv,hv];simp only[List.append_assoc]
   rw[e8];refine .same (.refl _) ⟨.inr ⟨id,hg,cap,rest.drop 4,by rw[←f6];rfl,ah _ _ _,by rw[List.length_drop,hr,f6'];omega,agh,f5⟩,fun k hk hk2=>ag _ _ fun e=>hk2 aio,fun k hk=> .inr hk⟩
  ·have e2:=aeu d2
   simp only[go_sem,wn,d2,wm];refine⟨aeC,?_⟩;simp only[go_sem,hid];have eA:List.take (i*4) (au xs++rest)=au (xs.take i):=by rw[f1,List.append_assoc,←f2,List.take_left]
   refine⟨aeC,aeC,aeC,aeC,aeC,aeC,by rw[aew,hfl];omega,?_⟩
   rw[Nat.sub_zero,eA];obtain⟨Z,eZ⟩:∃Z,cK (AV.agg [AV.s [],AV.v (Value.int IntKind.i64 0),AV.v (Value.int IntKind.i64 0),AV.s []]) (xs.length+1 - i) 4=Z:=⟨_,rfl⟩;have lZ:Z.length=(xs.length+1 - i)*4:=by rw[←eZ];simp[cK]
   rw[eZ];intro id2 cap2 rest2 hid2 hc2 hr2;have hx:¬id=id2:=fun e=>by rw[e,hid2]at hid;cases hid
   simp only[go_sem];have hfv:au [v]=v.cells:=ahZ;refine⟨aeC,aeC,aeC,hv,aeC,agN,?_⟩;refine .calls cS [0,1,2,3,4,5,6,7,8] (fun _ _ e=>ae2) aeF rfl ?_
   simp only[go_sem,wi,hid,hx,Nat.sub_zero];have hmin:min (xs.length - i) (i+(xs.length+1 - i) - (i+1))=xs.length - i:=aeC;have l0:(au (xs.take i)++Z++rest2).length=(i+(xs.length+1 - i))*4+(cap2 - (i+(xs.length+1 - i)))*4:=agN;refine⟨aeC,aeC,aeC,aeC,aeC,aeC,xs.drop i,ahi,ag8, ?q2,fun z hz=>hsz z (List.mem_of_mem_drop hz),aga, ?lm,aik, ?fim⟩
   case q2=>rw[hmin,f1,List.append_assoc,←f2,List.drop_left,←f3,List.take_left]
   case lm=>rw[hfv];simp only[aew,List.length_take,List.length_drop,l0,hv];omega
   rw[Iz f2.symm rfl ah6 rfl (by rw[hfv,hv,lZ,f3];omega)]
   have e8:au (xs.take i)++(au [v]++(au (xs.drop i)++rest2))=au (xs.take i++([v]++xs.drop i))++rest2:=by rw[f4,hfv];simp only[List.append_assoc]
   rw[e8];have e9:i+(xs.length+1 - i)=xs.length+1:=aeC;rw[e9]at hr2 hc2⊢;refine .same (.refl _) ⟨.inr ⟨id2,hs0.none hid2,cap2,rest2,by rw[←f6];rfl,ah _ _ _,by rw[hr2,f6'],by rw[f6'];omega,f5⟩,fun k hk hk2=>ag _ _ fun e=>hk (by rw[e];exact hid2),fun k hk=> .inl (by cases hk;exact hid2)⟩
end Go.Proofs.YtelkmnkejghkeaaGreatDoor
namespace Go.Ab
open Go
noncomputable def pick (H:Heap) (l:List Nat):Heap:=fun j=>if j∈l then H j else none
theorem bC{H:Heap}{l:List Nat}{j:Nat}(hj:j∈l):pick H l j=H j:=if_pos hj
theorem ja{H h' :Heap}{l:List Nat}(hs:∀j∈l,h' j=H j):Sub (pick H l) h' :=fun j b hb=>by
 simp_all [bC,pick,if_neg]
theorem bS{H:Heap}{l:List Nat}:Sub (pick H l) H:=ja fun _ _=>rfl
end Go.Ab
namespace Go.Proofs.YtelkmnkejghkeaaGreatDoor
open Go Go.Ab Go.Bf Tryz
variable {A B:List AV}{c:aM}{name:Txt}{fs:List cM}
def cg(c:aM)(f l:AV):List AV:=[.s c.id,.s c.owner,.s c.state,f,l]
theorem sX{h0 h:Heap}{s:an}(y1 y2 y3 y4:AV){k o:Nat}{t:TypeId}{f l:AV}(ho:o=A.length)(hk:h k=some (.obj (A++(cg c f l++B)) t))(ht:t≠186)
  (hlo:OwE 186 h0 h 3 l (c.log.map iW)) (hs0:Ab.Sub h0 h) (hll:c.log.length≤1000000) (actor what:Txt):
  ai prog 103 [.agg ([.i s.tick,y1,y2,y3,y4]++gq s.policy++ [.i s.version]),.ptr k o,.s actor,.s what] h fun r h' =>∃l',OwE 186 h0 h' 3 l' ((c.log++ [(⟨s.tick,actor,what⟩:yj)]).map iW)∧h' k=some (.obj (A++(cg c f l' ++B)) t)∧(∀j,h j≠none→j≠k→nid l≠some j→h' j=h j)∧∀j,nid l' =some j→h j=none∨nid l=some j:=by
 cases hpp:s.policy with
 |mk pid pset palg ptgt prules pkids pobls=>
 have hcC:gq (.mk pid pset palg ptgt prules pkids pobls)= [.s pid,.b pset,.i palg,aV ptgt,.sl (prules.map aC) .no,.sl (pkids.map aO) .no,ay pobls]:=ahF;refine aeB func103 22 [] fun hwf=>?_
 simp only[go_sem,hcC,List.cons_append,List.nil_append];intro i1 h1;simp only[go_sem];obtain⟨H,eH⟩:∃H,upd h i1 (some (.obj [.i s.tick,y1,y2,y3,y4,.s pid,.b pset,.i palg,aV ptgt,.sl (prules.map aC) .no,.sl (pkids.map aO) .no,ay pobls,.i s.version] 41))=H:=⟨_,rfl⟩;have n1k:k≠i1:=fun e=>by rw[e,h1]at hk;cases hk
 have g1:H i1=some (.obj [.i s.tick,y1,y2,y3,y4,.s pid,.b pset,.i palg,aV ptgt,.sl (prules.map aC) .no,.sl (pkids.map aO) .no,ay pobls,.i s.version] 41):=af5;have gk:H k=some (.obj (A++(cg c f l++B)) t):=by rw[←eH,ag _ _ n1k];exact hk
 have hH:Ab.Sub h H:=by rw[←eH];exact(Sub.refl h).put h1 _
 have hoj:∀j,j≠i1→H j=h j:=fun j hj=>by rw[←eH];exact ag _ _ hj
 rw[eH];clear eH;refine .stage (hm2 k (.obj (A++(cg c f l++B)) t) i1 (.obj [.i s.tick,y1,y2,y3,y4,.s pid,.b pset,.i palg,aV ptgt,.sl (prules.map aC) .no,.sl (pkids.map aO) .no,ay pobls,.i s.version] 41)) [0,1,2,3,4,5,6,7,8,9,10,11,12,13] [14] (.hm2 gk g1) aeF ?_;have hc4:(A++(cg c f l++B))[o+4]? =some l:=agv;obtain⟨CS,eCS⟩:∃CS,A++(cg c f l++B)=CS:=⟨_,rfl⟩;rw[eCS]at hc4 gk⊢;simp only[go_sem,sd,rZ _ _ n1k,hc4];have hap1:Rd H 3 (.sl [iW ⟨s.tick,actor,what⟩] .full) [iW ⟨s.tick,actor,what⟩]:=.sl afi .full;refine OwE.app (U:=U) (tb:=186) (hlo.sub hH) (hs0.trans hH) hap1 aeM aeG aeH aeM aeJ afc fun id2 y' h' g2 hor hw ho2=>?_
 have hor' :H id2=none∨nid l=some id2:=by
  exact ajm
 have k2:k≠id2:=by
  rcases hor' with hor|hor
  ·exact fun e=>by rw[←e,gk]at hor;cases hor
  ·exact(mE ((hlo.sub hH).nid hor).2.2 gk ht).symm
 have i2:i1≠id2:=by
  rcases hor' with hor|hor
  ·exact fun e=>by rw[←e,g1]at hor;cases hor
  ·exact fun e=>(hlo.nid hor).2.1 (by rw[←e];exact h1)
 have gk' :=(ho2 k k2).trans gk;have gi' :=(ho2 i1 i2).trans g1;refine⟨.hm2 gk' gi',?_⟩;simp only[go_sem];refine⟨cS,(fun _ _ e=>ae2),?_⟩
 simp only[go_sem,gk',hw.rd.fit,hw.rd.cells];have lCS:CS.length=A.length+(5+B.length):=by rw[←eCS];simp[cg];omega
 have e5:List.take (o+4) CS++ [y']++List.drop (o+4+1) CS=A++(cg c f y' ++B):=by
  have:=pS (A:=A++ [.s c.id,.s c.owner,.s c.state,f]) (B:=[l]) (C:=B) (X:=[y']) (k:=o+4) (m:=1) (by rw[ho];simp) rfl rfl
  exact akk
 rw[e5];refine⟨aeC,(fun _ _ e=>ae2),.same (.refl _) ⟨y',?_,ah ..,fun j hj hjk hjl=>?_,fun j hj=>?_⟩⟩
 ·have hw' :Ow 186 (upd h' k (some (.obj (A++(cg c f y' ++B)) t))) 3 id2 y' (c.log.map iW++ [iW ⟨s.tick,actor,what⟩]):=hw.same (ag _ _ k2.symm)
  rw[List.map_append];exact .inr ⟨id2,g2,hw'⟩
 ·have hj2:j≠id2:=by
   rcases hor' with hor|hor
   ·intro e
    have:=hoj j (fun e' =>hj (by rw[e'];exact h1))
    rw[e,hor]at this;exact hj (by rw[e];exact this.symm)
   ·exact fun e=>hjl aiv
  have hj1:j≠i1:=fun e=>hj (by rw[e];exact h1)
  rw[ag _ _ hjk,ho2 j hj2,hoj j hj1]
 ·have:id2=j:=by have:=hw.nid;rw[hj]at this;exact(Option.some.inj this).symm
  rw[←this];rcases hor' with hor|hor
  ·refine .inl ?_
   cases hh:h id2 with
   |none=>rfl
   |some b=>rw[hH _ _ hh]at hor;cases hor
  ·exact .inr hor
theorem LD{h:Heap}(f:cM){k:Nat}(hk:h k=some (.obj [.s name] 9)):ai prog 160 [bN f,.ptr k 0] h fun r h' =>r= .b (geB f.name name)∧h' =h:=by
 refine aeB func160 8 [.tmp 3] fun hwf=>?_
 simp only[go_sem,bN];exact ai3
theorem HP{v:bu}(hx:¬fs.findIdx (fun f=>geB f.name name)<fs.length):eO fs name v=fs++ [⟨name,v⟩]:=by grind [eO,List.getElem?_eq_none,geB]
theorem An{v:bu}(hx:fs.findIdx (fun f=>geB f.name name)<fs.length)(he:fs[fs.findIdx (fun f=>geB f.name name)].name=name):eO fs name v=fs.set (fs.findIdx (fun f=>geB f.name name)) ⟨name,v⟩:=by simp_all [eO,List.getElem?_eq_getElem,if_true]
theorem HQ{v:bu}(hx:fs.findIdx (fun f=>geB f.name name)<fs.length)(he:fs[fs.findIdx (fun f=>geB f.name name)].name≠name):eO fs name v=fs.take (fs.findIdx (fun f=>geB f.name name))++ [⟨name,v⟩]++fs.drop (fs.findIdx (fun f=>geB f.name name)):=by simp_all [eO,List.getElem?_eq_getElem,if_false]
theorem ON{h0 h:Heap}{k o:Nat}{t:TypeId}{f l:AV}(ho:o=A.length)(hk:h k=some (.obj (A++(cg c f l++B)) t))(ht:t≠196)
  (hfo:OwE 196 h0 h 4 f (c.fields.map bN)) (hs0:Ab.Sub h0 h) (hff:c.fields.length≤1000000) (name:Txt) (v:bu):
  ai prog 105 [.ptr k o,.s name,aS v] h fun r h' =>∃f',OwE 196 h0 h' 4 f' ((eO c.fields name v).map bN)∧h' k=some (.obj (A++(cg c f' l++B)) t)∧(∀j,h j≠none→j≠k→nid f≠some j→h' j=h j)∧∀j,nid f' =some j→h j=none∨nid f=some j:=by
 have hc3:(A++(cg c f l++B))[o+3]? =some f:=agv;have lCS:(A++(cg c f l++B)).length=A.length+(5+B.length):=by simp[cg];omega
 have e5:∀y',List.take (o+3) (A++(cg c f l++B))++ [y']++List.drop (o+3+1) (A++(cg c f l++B))=A++(cg c y' l++B):=fun y' =>by
  have:=pS (A:=A++ [.s c.id,.s c.owner,.s c.state]) (B:=[f]) (C:=l::B) (X:=[y']) (k:=o+3) (m:=1) (by rw[ho];simp) rfl rfl
  exact aku
 obtain⟨CS,eCS⟩:∃CS,A++(cg c f l++B)=CS:=⟨_,rfl⟩;rw[eCS]at hc3 hk lCS e5;refine aeB func105 60 [] fun hwf=>?_
 simp only[go_sem,aS];intro i1 h1;simp only[go_sem];intro i2 h2;have n21:=aI h2;have n2:=aB h2;have nk1:k≠i1:=fun e=>by rw[e,h1]at hk;cases hk
 have nk2:k≠i2:=fun e=>by rw[e,n2]at hk;cases hk
 obtain⟨H,eH⟩:∃H,upd (upd h i1 (some (.obj [.s name] 9))) i2 (some (.obj [.i v.kind,.i v.n,.s v.s] 48))=H:=⟨_,rfl⟩;have g1:H i1=some (.obj [.s name] 9):=age;have g2:H i2=some (.obj [.i v.kind,.i v.n,.s v.s] 48):=af5;have gk:H k=some (.obj CS t):=by rw[←eH,ag _ _ nk2,ag _ _ nk1];exact hk
 have hH:Ab.Sub h H:=afC;have hoj:∀j,h j≠none→H j=h j:=fun j hj=>by rw[←eH,ag _ _ (fun e=>hj (by rw[e];exact n2)),ag _ _ (fun e=>hj (by rw[e];exact h1))]
 rw[eH];clear eH;simp only[go_sem,gk,hc3];refine(zg f _ c.fields (fun f=>geB f.name name) _ [.ptr i1 0] _ (hfo.sub hH).rd aeJ ae0 (pH (fun _=>rfl) _) fun i a b=>by
  rw[aet];exact LD _ g1).pthen ?_
 have hns:∀G,Ab.Sub cS G:=fun G _ _ e=>ae2
 by_cases hx:c.fields.findIdx (fun f=>geB f.name name)<c.fields.length
 ·obtain⟨i,ei⟩:∃i,c.fields.findIdx (fun f=>geB f.name name)=i:=⟨_,rfl⟩
  have hxm:i<(c.fields.map bN).length:=by rw[←ei];simpa using hx
  have e1:ixD (fun f=>geB f.name name) c.fields=(i:Nat):=by rw[ixD,ei];exact if_pos (by rw[←ei];exact hx)
  have d1:decide (((i:Nat):Int)<0)=false:=decide_eq_false aeC;rw[e1];simp only[go_sem,d1];refine⟨.of aeF,?_⟩;simp only[go_sem,gk,hc3];refine(hfo.sub hH).rd.idx (e:=196) i rfl hxm HI aeG fun p hp1=>?_
  simp only[go_sem];refine hp1.field (f:=0) (off:=0) (t:=9) rfl Lt fun p2 hp2=>?_
  have hld:=hp2.part (U:=U) (ty:=9) Lt (by rw[aet,OC];exact aer rfl)
  simp only[go_sem,hld,aet,bN,g1];have hxi:i<c.fields.length:=by rw[←ei];exact hx
  cases d2:(c.fields[i].name==name)
  ·have hne:c.fields[i].name≠name:=by simpa using d2
   simp only[go_sem];refine .stage (pick H [k,i1,i2]) [0,1,2,3,4,5,6,7,8,9,10,11,12] [13] bS aeF ?_;simp only[go_sem,bC (show k∈ [k,i1,i2] by simp),bC (show i1∈ [k,i1,i2] by simp),bC (show i2∈ [k,i1,i2] by simp),gk,g1,g2,hc3]
   refine(Ef f _ (bN ⟨name,v⟩) i h0 H (hfo.sub hH) (hs0.trans hH) aeC (by simpa using hff) rfl (by simp[bN,Ab.fit])).mono fun f' H1 ⟨w1,fr,ap⟩=>?_
   have nk:nid f≠some k:=fun e=>mE ((hfo.sub hH).nid e).2.2 gk ht rfl
   have n1' :nid f≠some i1:=fun e=>(hfo.nid e).2.1 h1
   have n2' :nid f≠some i2:=fun e=>(hfo.nid e).2.1 n2
   have gk' :H1 k=some (.obj CS t):=(fr k (by rw[gk];simp) nk).trans gk
   refine⟨ja fun j hj=>?_,?_⟩
   ·simp only[List.mem_cons,List.not_mem_nil,or_false]at hj
    rcases hj with rfl|rfl|rfl
    ·exact fr _ (by rw[gk];simp) nk
    ·exact fr _ (by rw[g1];simp) n1'
    ·exact fr _ (by rw[g2];simp) n2'
   simp only[go_sem];refine⟨cS,hns _,?_⟩;simp only[go_sem,gk',w1.rd.fit,w1.rd.cells];have hk2:nid f'≠some k:=fun e=>by
    rcases ap k e with h|h
    ·rw[gk]at h;cases h
    ·exact nk h
   have em:List.take i (c.fields.map bN)++([bN ⟨name,v⟩]++List.drop i (c.fields.map bN))=(eO c.fields name v).map bN:=by
    rw[HQ hx (by simp only[ei];exact hne),ei]
    simp[List.map_append,List.map_take,List.map_drop]
   rw[e5];rw[em]at w1;refine⟨aeC,hns _,.same (.refl _) ⟨f',w1.keep fun id e=>ag _ _ fun e' =>hk2 (by rw[←e'];exact e),ah ..,fun j hj hjk hjl=>?_,fun j hj=>?_⟩⟩
   ·rw[ag _ _ hjk,fr j (by rw[hoj j hj];exact hj) hjl,hoj j hj]
   ·rcases ap j hj with h|h
    ·exact .inl (hH.none h)
    ·exact .inr h
  ·have heq:c.fields[i].name=name:=by simpa using d2
   simp only[go_sem];refine⟨.of aeF,?_⟩;simp only[go_sem,gk,g2,hc3];obtain⟨id1,hg1,o1⟩:=(hfo.sub hH).ow (by intro e;rw[e]at hxm;cases hxm)
   have t1:id1≠k:=mE o1 gk ht;have o1' :=o1;obtain⟨cap,rest,ey,hid,hr,hcap,hsz⟩:=o1';refine o1.idx (U:=U) (e:=196) i rfl hxm HI aeG ?_;simp only[go_sem,hid];have hxl:=aet (f:=bN) (l:=c.fields) (i:=i) (h:=hxm);have e2:List.take (i*4+1) (au (c.fields.map bN)++rest)++ [.i v.kind,.i v.n,.s v.s]++List.drop (i*4+1+3) (au (c.fields.map bN)++rest)=au ((eO c.fields name v).map bN)++rest:=by
    refine(kC hsz i hxm 1 [.i v.kind,.i v.n,.s v.s] (aer rfl)).trans ?_;rw[An hx (by simp only[ei];exact heq),ei,List.map_set,hxl]
    have:AV.agg (over (bN c.fields[i]).cells 1 [.i v.kind,.i v.n,.s v.s])=bN ⟨name,v⟩:=by rw[←heq];rfl
    rw[this]
   have lw:(eO c.fields name v).length=c.fields.length:=by rw[An hx (by simp only[ei];exact heq),List.length_set]
   rw[e2];refine⟨by rw[aew,aX hsz];omega,.same (.refl _) ⟨f,.inr ⟨id1,hg1,cap,rest,by rw[ey];simp[lw],ah ..,by rw[hr];simp[lw],by rw[aes]at hcap⊢;omega,bx (f:=bN) (n:=4) (fun _=>rfl) _⟩,(ag _ _ t1.symm).trans (by rw[eCS];exact gk),fun j hj hjk hjl=>?_,fun j hj=> .inr hj⟩⟩
   have:j≠id1:=fun e=>hjl (by rw[e];exact o1.nid)
   rw[ag _ _ this,hoj j hj]
 ·have e1:ixD (fun f=>geB f.name name) c.fields= -1:=by rw[ixD];exact if_neg hx
  have d1:decide ((-1:Int)<0)=true:=rfl;rw[e1];simp only[go_sem,d1];refine .stage (pick H [k,i1,i2]) [0,1,2,3,4,5,6,7,8,9,10,11] [12] bS aeF ?_;simp only[go_sem,bC (show k∈ [k,i1,i2] by simp),bC (show i1∈ [k,i1,i2] by simp),bC (show i2∈ [k,i1,i2] by simp),gk,g1,g2,hc3]
  have hap1:Rd H 4 (.sl [bN ⟨name,v⟩] .full) [bN ⟨name,v⟩]:=.sl afi .full;refine OwE.app (U:=U) (tb:=196) (hfo.sub hH) (hs0.trans hH) hap1 aeM aeG aeH aeM aeJ afc fun id2 y' h' g3 hor hw ho2=>?_
  have hor' :H id2=none∨nid f=some id2:=by
   exact ajm
  have k2:k≠id2:=by
   rcases hor' with hor|hor
   ·exact fun e=>by rw[←e,gk]at hor;cases hor
   ·exact(mE ((hfo.sub hH).nid hor).2.2 gk ht).symm
  have j1:i1≠id2:=by
   rcases hor' with hor|hor
   ·exact fun e=>by rw[←e,g1]at hor;cases hor
   ·exact fun e=>(hfo.nid hor).2.1 (by rw[←e];exact h1)
  have j2:i2≠id2:=by
   rcases hor' with hor|hor
   ·exact fun e=>by rw[←e,g2]at hor;cases hor
   ·exact fun e=>(hfo.nid hor).2.1 (by rw[←e];exact n2)
  refine⟨ja fun j hj=>ho2 j ?_,?_⟩
  ·simp only[List.mem_cons,List.not_mem_nil,or_false]at hj
   rcases hj with rfl|rfl|rfl
   ·exact k2
   ·exact j1
   ·exact j2
  have gk' :=(ho2 k k2).trans gk;simp only[go_sem];refine⟨cS,hns _,?_⟩;simp only[go_sem,gk',hw.rd.fit,hw.rd.cells];rw[e5,HP hx];refine⟨aeC,hns _,.same (.refl _) ⟨y',?_,ah ..,fun j hj hjk hjl=>?_,fun j hj=>?_⟩⟩
  ·have hw' :Ow 196 (upd h' k (some (.obj (A++(cg c y' l++B)) t))) 4 id2 y' (c.fields.map bN++ [bN ⟨name,v⟩]):=hw.same (ag _ _ k2.symm)
   rw[List.map_append];exact .inr ⟨id2,g3,hw'⟩
  ·have hj2:j≠id2:=by
    rcases hor' with hor|hor
    ·intro e
     have:=hoj j hj;rw[e,hor]at this;exact hj (by rw[e];exact this.symm)
    ·exact fun e=>hjl aiv
   rw[ag _ _ hjk,ho2 j hj2,hoj j hj]
  ·have:id2=j:=by have:=hw.nid;rw[hj]at this;exact(Option.some.inj this).symm
   rw[←this];rcases hor' with hor|hor
   ·exact .inl (hH.none hor)
   ·exact .inr hor
end Go.Proofs.YtelkmnkejghkeaaGreatDoor
