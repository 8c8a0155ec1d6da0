/- The law TopAtomic: pack 7 of its texts. -/
import Derived.Test.YtelkmnkejghkeaaGreatDoorChecked
import Derived.WalkKit
import Derived.BigCall
import Derived.StillTailTactics
import Derived.Test.YtelkmnkejghkeaaGreatDoorPk1
import Derived.Test.YtelkmnkejghkeaaGreatDoorPk2
import Derived.Test.YtelkmnkejghkeaaGreatDoorPk3
import Derived.Test.YtelkmnkejghkeaaGreatDoorPk4
import Derived.Test.YtelkmnkejghkeaaGreatDoorPk5
import Derived.Test.YtelkmnkejghkeaaGreatDoorPk6
set_option linter.unusedSimpArgs false
set_option linter.unusedVariables false
set_option maxRecDepth 100000
namespace Go.Proofs
open Go.RowKit
def Tryz.dD(s:ByteArray)(k:Nat):List UInt8:=[34]++((s.data.toList.take k).map Bf.oU).flatten
theorem Tryz.ZT:∀c:Fin 256,bits BinOp.and IntKind.u8 (c.val:Int) 15=((c.val % 16:Nat):Int):=afy
theorem Tryz.EG(n:Nat)(hn:n<16)(w:World):(Instr.slice 9 (Value.string {data:= #[48,49,50,51,52,53,54,55,56,57,97,98,99,100,101,102]}) (some (.int .u8 (n:Int))) (some (.int .u8 (IntKind.u8.wrap ((n:Int)+1)))) none).run Tryz.prog w= .ok (.string ⟨#[Bf.Hh n]⟩) w:=by
 have e:IntKind.u8.wrap ((n:Int)+1)=((n+1:Nat):Int):=by have:n=0∨n=1∨n=2∨n=3∨n=4∨n=5∨n=6∨n=7∨n=8∨n=9∨n=10∨n=11∨n=12∨n=13∨n=14∨n=15:=afu;rcases this with rfl|rfl|rfl|rfl|rfl|rfl|rfl|rfl|rfl|rfl|rfl|rfl|rfl|rfl|rfl|rfl<;>decide
 rw[e,run_slice_string w 9 _ .u8 .u8 (n:Int) ((n+1:Nat):Int) Tryz.underlying9 afu afu (by show((n+1:Nat):Int)≤16;omega)]
 have:n=0∨n=1∨n=2∨n=3∨n=4∨n=5∨n=6∨n=7∨n=8∨n=9∨n=10∨n=11∨n=12∨n=13∨n=14∨n=15:=afu;rcases this with rfl|rfl|rfl|rfl|rfl|rfl|rfl|rfl|rfl|rfl|rfl|rfl|rfl|rfl|rfl|rfl<;>rfl
theorem Tryz.uZ(s:ByteArray)(k:Nat)(hk:k≤s.size)(hs:s.size≤64):(Tryz.dD s k).length≤193:=by
 have:∀l:List UInt8,((l.map Bf.oU).flatten).length≤3*l.length:=fun l=>by
  induction l with
  |nil=>simp
  |cons c r ih=>
   have:(Bf.oU c).length≤3:=by unfold Bf.oU;split<;>simp
   simp only[List.map_cons,List.flatten_cons,afn,List.length_cons]at ih⊢;omega
 have h1:=this (s.data.toList.take k);have h2:(s.data.toList.take k).length≤64:=by have:s.size=s.data.toList.length:=Array.length_toList.symm;simp;omega
 unfold Tryz.dD;simp only[afn,List.length_cons,List.length_nil];omega
theorem Tryz.rT(s:ByteArray)(k:Nat)(hk:k<s.size):Tryz.dD s (k+1)=Tryz.dD s k++Bf.oU s[k]:=by have e:s.size=s.data.toList.length:=Array.length_toList.symm;have hk2:k<s.data.toList.length:=afu;unfold Tryz.dD;rw[List.take_succ_eq_append_getElem hk2,List.map_append,List.flatten_append];simp only[List.map_cons,List.map_nil,List.flatten_cons,List.flatten_nil,List.append_nil,List.append_assoc];rfl
theorem Tryz.A9(s:ByteArray):Tryz.dD s s.size++ [34]=Bf.oV s.data.toList:=by have e:s.size=s.data.toList.length:=Array.length_toList.symm;unfold Tryz.dD Bf.oV;rw[e,List.take_length]
theorem Tryz.sB(s:ByteArray)(k:Nat)(hk:k<s.size)(ho:Bf.uF s[k]=true):
  Lib.byteCells (Tryz.dD s k)++Lib.strCells (({data:= #[92]}:ByteArray)++ {data:= #[Bf.Hh (s[k].toNat / 16)]}++ {data:= #[Bf.Hh (s[k].toNat % 16)]})=Lib.byteCells (Tryz.dD s (k+1)):=by
 rw[Tryz.rT s k hk,Lib.byteCells_append]
 congr 1
 rw[Bf.oU,if_pos ho];rfl
theorem Tryz.GI(s:ByteArray)(k:Nat)(hk:k<s.size)(ho:Bf.uF s[k]=false):
  Lib.byteCells (Tryz.dD s k)++ [Value.int .u8 (s[k].toNat:Int)]=Lib.byteCells (Tryz.dD s (k+1)):=by
 rw[Tryz.rT s k hk,Lib.byteCells_append]
 congr 1
 rw[Bf.oU,if_neg (by simp[ho])]
 rfl
set_option maxHeartbeats 4000000 in
theorem Tryz.Fu(s:ByteArray)(w:World)(hs:s.size≤64):
  Calls Tryz.prog 130 #[.string s] w fun e w' =>e= .returned (.string ⟨(Bf.oV s.data.toList).toArray⟩)∧Below w.heap.size w w' :=by
 go_enter Tryz.func130,Tryz.ntmps130
 go_wp2_with (go_at_call 177;refine(Tryz.Builder_WriteByte_k w.heap.size w.heap.size [] 34 _ (Lib.IsBuilderF.of (Lib.fresh_isBuilder 269 5 w)) afB afB).mono ?_)
 rintro e W0 ⟨rfl,h0,b0,_⟩
 go_wp2
 go_loopw [9] (fun v wr=>∃k:Nat,v= .int .i64 k∧k≤s.size∧Lib.IsBuilderF 269 5 w.heap.size w.heap.size (Lib.byteCells (Tryz.dD s k)) wr∧Below w.heap.size w wr) (fun v _=>s.size - (intOf v).toNat)
 case atStart=>
  refine⟨0,rfl,afu,?_,?_⟩
  ·exact Or.inr h0
  ·exact((Below.refl _ w).alloc (Nat.le_refl _) _).trans b0
 case round=>
  obtain⟨k,rfl,hk,hI,hbw⟩:=hrel
  by_cases hp:k<s.size
  ·have hx1:∀w,(Instr.slice 9 (Value.string {data:= #[48,49,50,51,52,53,54,55,56,57,97,98,99,100,101,102]}) (some (.int .u8 ((s[k].toNat:Int) / 16))) (some (.int .u8 (IntKind.u8.wrap ((s[k].toNat:Int) / 16+1)))) none).run Tryz.prog w= .ok (.string ⟨#[Bf.Hh (s[k].toNat / 16)]⟩) w:=
    fun w=>Tryz.EG (s[k].toNat / 16) (by have:=s[k].toNat_lt;omega) w
   have hb:bits BinOp.and IntKind.u8 (s[k].toNat:Int) 15=((s[k].toNat % 16:Nat):Int):=Tryz.ZT ⟨s[k].toNat,s[k].toNat_lt⟩;have hx2:∀w,(Instr.slice 9 (Value.string {data:= #[48,49,50,51,52,53,54,55,56,57,97,98,99,100,101,102]}) (some (.int .u8 (bits BinOp.and IntKind.u8 (s[k].toNat:Int) 15))) (some (.int .u8 (IntKind.u8.wrap (bits BinOp.and IntKind.u8 (s[k].toNat:Int) 15+1)))) none).run Tryz.prog w= .ok (.string ⟨#[Bf.Hh (s[k].toNat % 16)]⟩) w:=by intro w;rw[hb];exact Tryz.EG (s[k].toNat % 16) afu w
   clear hb;have hql:=Tryz.uZ s k hk hs
   by_cases d1:(s[k].toNat:Int)<32
   ·go_wp2
    refine wp_region_still_tail 14 afx afx ?_;simp only[List.take_succ_cons,List.take_zero,List.drop_succ_cons,List.drop_zero]
    (repeat still_step)
    try refine wpStill_nil ?_
    have hI2:Lib.IsBuilderF 269 5 w.heap.size w.heap.size (Lib.byteCells (Tryz.dD s k)) wr.drew:=hI;have hbw2:Below w.heap.size w wr.drew:=hbw.drew
    change wpList _ _ _ _ _ wr.drew
    generalize wr.drew=w2 at hI2 hbw2⊢
    go_wp2_with (go_at_call 178;refine(Tryz.Builder_WriteString_k w.heap.size w.heap.size _ _ _ hI2 agX hbw2.size).mono ?_)
    rintro e W1 ⟨rfl,h1,b1,_⟩
    go_wp2
    go_roundw
    case rel=>
     refine⟨k+1,by go_num,afu,?_,hbw2.trans b1⟩
     rw[←Tryz.sB s k hp (by simp[Bf.uF,d1])]
     exact ajk
    case measure=>simp[intOf];omega
   by_cases d2:126<(s[k].toNat:Int)
   ·go_wp2
    refine wp_region_still_tail 14 afx afx ?_;simp only[List.take_succ_cons,List.take_zero,List.drop_succ_cons,List.drop_zero]
    (repeat still_step)
    try refine wpStill_nil ?_
    have hI2:Lib.IsBuilderF 269 5 w.heap.size w.heap.size (Lib.byteCells (Tryz.dD s k)) wr.drew:=hI;have hbw2:Below w.heap.size w wr.drew:=hbw.drew
    change wpList _ _ _ _ _ wr.drew
    generalize wr.drew=w2 at hI2 hbw2⊢
    go_wp2_with (go_at_call 178;refine(Tryz.Builder_WriteString_k w.heap.size w.heap.size _ _ _ hI2 agX hbw2.size).mono ?_)
    rintro e W1 ⟨rfl,h1,b1,_⟩
    go_wp2
    go_roundw
    case rel=>
     refine⟨k+1,by go_num,afu,?_,hbw2.trans b1⟩
     rw[←Tryz.sB s k hp (by simp[Bf.uF,d2])]
     exact ajk
    case measure=>simp[intOf];omega
   cases d3:((s[k].toNat:Int)==34)
   case true=>
    go_wp2
    refine wp_region_still_tail 14 afx afx ?_;simp only[List.take_succ_cons,List.take_zero,List.drop_succ_cons,List.drop_zero]
    (repeat still_step)
    try refine wpStill_nil ?_
    have hI2:Lib.IsBuilderF 269 5 w.heap.size w.heap.size (Lib.byteCells (Tryz.dD s k)) wr.drew:=hI;have hbw2:Below w.heap.size w wr.drew:=hbw.drew
    change wpList _ _ _ _ _ wr.drew
    generalize wr.drew=w2 at hI2 hbw2⊢
    go_wp2_with (go_at_call 178;refine(Tryz.Builder_WriteString_k w.heap.size w.heap.size _ _ _ hI2 agX hbw2.size).mono ?_)
    rintro e W1 ⟨rfl,h1,b1,_⟩
    go_wp2
    go_roundw
    case rel=>
     refine⟨k+1,by go_num,afu,?_,hbw2.trans b1⟩
     rw[←Tryz.sB s k hp (by simp[Bf.uF,d3])]
     exact ajk
    case measure=>simp[intOf];omega
   cases d4:((s[k].toNat:Int)==92)
   case true=>
    go_wp2
    refine wp_region_still_tail 14 afx afx ?_;simp only[List.take_succ_cons,List.take_zero,List.drop_succ_cons,List.drop_zero]
    (repeat still_step)
    try refine wpStill_nil ?_
    have hI2:Lib.IsBuilderF 269 5 w.heap.size w.heap.size (Lib.byteCells (Tryz.dD s k)) wr.drew:=hI;have hbw2:Below w.heap.size w wr.drew:=hbw.drew
    change wpList _ _ _ _ _ wr.drew
    generalize wr.drew=w2 at hI2 hbw2⊢
    go_wp2_with (go_at_call 178;refine(Tryz.Builder_WriteString_k w.heap.size w.heap.size _ _ _ hI2 agX hbw2.size).mono ?_)
    rintro e W1 ⟨rfl,h1,b1,_⟩
    go_wp2
    go_roundw
    case rel=>
     refine⟨k+1,by go_num,afu,?_,hbw2.trans b1⟩
     rw[←Tryz.sB s k hp (by simp[Bf.uF,d4])]
     exact ajk
    case measure=>simp[intOf];omega
   go_wp2_with (go_at_call 177;refine(Tryz.Builder_WriteByte_k w.heap.size w.heap.size _ _ _ hI (by rw[Lib.byteCells_length];omega) hbw.size).mono ?_)
   rintro e W1 rfl h1 b1 _
   go_wp2
   go_roundw
   case rel=>
    refine⟨k+1,by go_num,afu,?_,hbw.trans b1⟩
    rw[←Tryz.GI s k hp (by simp[Bf.uF,d1,d2,d3,d4])]
    exact ajk
   case measure=>simp[intOf];omega
  ·have hk2:k=s.size:=by omega
   subst hk2;have hql:=Tryz.uZ s s.size hk hs
   go_wp2_with (go_at_call 177;refine(Tryz.Builder_WriteByte_k w.heap.size w.heap.size _ _ _ hI (by rw[Lib.byteCells_length];omega) hbw.size).mono ?_)
   rintro e W1 ⟨rfl,h1,b1,_⟩
   have e34:Lib.byteCells (Tryz.dD s s.size)++ [Value.int .u8 34]=Lib.byteCells (Bf.oV s.data.toList):=by rw[←Tryz.A9,Lib.byteCells_append];rfl
   rw[e34]at h1
   go_wp2_with (go_at_call 179;refine(Tryz.Builder_String_k w.heap.size w.heap.size _ _ (Or.inr h1) (by simp[Bf.oV])).mono ?_)
   rintro e W2 ⟨rfl,_,b2,_⟩
   go_wp2
   go_ret
   exact⟨rfl,(hbw.trans b1).trans b2⟩
end Go.Proofs
namespace Go.Proofs.YtelkmnkejghkeaaGreatDoor
open Go Go.Ab Go.Bf Tryz
theorem Lz:Quoted:=fun s h hs=>by
 refine .lib ⟨_,func130,afx,rfl⟩ fun c vs hs' g h1 h2=>?_
 obtain⟨v,rfl⟩:∃v,vs= #[v]:=Array.size_eq_one_iff.1 h1;have e:v= .string ⟨s.toArray⟩:=((h2 0 afB).me).1;subst e;refine(Tryz.Fu ⟨s.toArray⟩ c.w (by simpa[ByteArray.size]using hs)).mono ?_
 rintro e w' ⟨rfl,hb⟩
 have hl:=B9 s hs;exact⟨⟨_,rfl,fun c' _=> .s _ (by show(oV s).length<lim;have:(194:Nat)<lim:=afy;omega)⟩,hb⟩
end Go.Proofs.YtelkmnkejghkeaaGreatDoor
namespace Go.Bf
open Go Go.Ab
def dH(s:Txt):Txt×Txt:=(s.takeWhile (fun c=> !(c==32)),(s.dropWhile (fun c=> !(c==32))).drop 1)
theorem index_none:∀s:Txt,Lib.indexByte s 32= -1→s.takeWhile (fun c=> !(c==32))=s∧s.dropWhile (fun c=> !(c==32))= []
 | [],_=>afB
 |b::l,h=>by
  unfold Lib.indexByte at h
  by_cases e:(b==32)=true
  ·grind
  ·rw[if_neg e]at h
   by_cases e1:(Lib.indexByte l 32== -1)=true
   ·have:=index_none l afv
    simp[List.takeWhile,List.dropWhile,e,this]
   ·rw[if_neg e1]at h
    have:=index_ge l
    grind
where
 index_ge:∀l:Txt, -1≤Lib.indexByte l 32
  | []=>afy
  |b::l=>by
   have:=index_ge l;unfold Lib.indexByte
   grind
theorem zw:∀s:Txt,Lib.indexByte s 32≠ -1→∃i:Nat,Lib.indexByte s 32=i∧i<s.length∧s.take i=s.takeWhile (fun c=> !(c==32))∧s.drop (i+1)=(s.dropWhile (fun c=> !(c==32))).drop 1
 | [],h=>(h rfl).elim
 |b::l,h=>by
  unfold Lib.indexByte at h⊢
  by_cases e:(b==32)=true
  ·rw[if_pos e]
   exact⟨0,rfl,afB,ajB,ajB⟩
  ·rw[if_neg e]at h⊢
   by_cases e1:(Lib.indexByte l 32== -1)=true
   ·grind
   ·rw[if_neg e1]
    obtain⟨i,h1,h2,h3,h4⟩:=zw l afv
    grind [List.takeWhile,List.dropWhile]
def Dg(s:Txt):Int:=if s= []∨9<s.length∨s.head? =some 48∨s.all dgt=false then 0 else(mQ s:Int)
def xk:Nat→Nat→Txt→Int
 |0,_,_=>0
 |f+1,k,w=>if jc (k:Int)==w then(k:Int)else xk f (k+1) w
def uB(w:Txt):Int:=xk 8 1 w
end Go.Bf
namespace Go.Proofs.YtelkmnkejghkeaaGreatDoor
open Go Go.Ab Go.Bf Tryz
theorem zHT(s:ByteArray)(c:Int)(w:World):
  Calls prog 230 #[.string s,.int .u8 c] w fun e w' =>e= .returned (.int .i64 (Lib.indexByte s.data.toList c.toNat.toUInt8))∧w' =w:=Any.stringslite_IndexByte {Tryz.Je with} s c w
theorem La(l:Txt)(c:UInt8)(h:Heap):ai prog 230 [.s l,.v (.int .u8 c.toNat)] h fun r h' =>r= .i (Lib.indexByte l c)∧h' =h:=by
 refine .lib ⟨_,func230,afJ,rfl⟩ fun cx vs hs' g h1 h2=>?_
 obtain⟨u,v,rfl⟩:∃u v,vs= #[u,v]:=by
  match vs,h1 with
  |⟨[u,v]⟩,_=>exact⟨u,v,rfl⟩
 have e1:u= .string ⟨l.toArray⟩:=((h2 0 afB).me).1;have e2:v= .int .u8 c.toNat:=(h2 1 afB).bV;subst e1;subst e2
 refine(zHT ⟨l.toArray⟩ c.toNat cx.w).mono ?_;exact akP
theorem Hx(l:Txt)(h:Heap):ai prog 184 [.s l,.s [32]] h fun r h' =>r= .i (Lib.indexByte l 32)∧h' =h:=by
 have hi:=La l 32 h;refine aw func184 143 [.tmp 4] ?_
 simp only[go_sem];cases d1:([32]==l)
 ·simp only[go_sem,d1]
  refine .of 0 rfl afB ?_;simp only[go_sem,aK];refine hi.pthen ?_;exact aj0
 ·have:l= [32]:=(by grind: [32]=l).symm
  subst this;simp only[go_sem,d1];exact afE
theorem Qb(s:Txt)(hs:s.length≤1000000)(h:Heap):ai prog 133 [.s s,.s [32]] h fun r h' =>∃b,r= .tup [.s (dH s).1,.s (dH s).2,.b b]∧h' =h:=by
 refine aw func133 23 [.tmp 4,.tmp 5,.tmp 6] ?_
 simp only[go_sem];refine(Hx s h).pthen ?_
 by_cases hx:Lib.indexByte s 32= -1
 ·obtain⟨h1,h2⟩:=index_none s hx
  rw[hx];have d1:decide ((-1:Int)≥0)=false:=rfl;simp only[go_sem,d1];exact .same (.refl _) ⟨_,by simp[dH,h1,h2]<;>rfl,rfl⟩
 ·obtain⟨i,hi,hl,h1,h2⟩:=zw s hx
  rw[hi];have d1:decide ((i:Int)≥0)=true:=decide_eq_true afu;have d2:decide ((0:Int)≤(i:Int))=true:=decide_eq_true afu;have w1:IntKind.i64.wrap ((i:Int)+1)=((i+1:Nat):Int):=afG;simp only[go_sem,d1,d2];refine⟨.of afx,?_⟩;simp only[go_sem,w1];refine⟨afu,afu,afu,afu,afu,afu,.same (.refl _) ⟨true,?_,rfl⟩⟩;simp[nV,dH,←h1,←h2];rfl
theorem Rn(s:Txt)(hs:s.length≤1000000)(h:Heap):ai prog 73 [.s s,.s [32]] h fun r h' =>∃b,r= .tup [.s (dH s).1,.s (dH s).2,.b b]∧h' =h:=by
 refine aw func73 13 [.tmp 4,.tmp 5,.tmp 6] ?_
 simp only[go_sem];refine(Qb s hs h).mono fun r h' ⟨b,e1,e2⟩=>?_
 subst e1 e2;simp only[go_sem];exact .same (.refl _) ⟨b,rfl,rfl⟩
theorem mo(s:Txt)(hs:s.length≤1000000)(h:Heap):ai prog 34 [.s s] h fun r h' =>r= .tup [.s (dH s).1,.s (dH s).2]∧h' =h:=by
 refine aw func34 15 [.tmp 2,.tmp 3] ?_
 simp only[go_sem];refine(Rn s hs h).mono fun r h' ⟨b,e1,e2⟩=>?_
 subst e1 e2;exact aj0
theorem QU(s:Txt)(h:Heap):ai prog 74 [.s s,.s [33]] h fun r h' =>r= .b (s.take 1== [33])∧h' =h:=by
 refine aw func74 18 [.tmp 4] ?_
 by_cases hl:s.length=0
 ·have:s= []:=List.length_eq_zero_iff.1 hl
  subst this;simp only[go_sem,List.length_nil,show decide ((0:Int)≥1)=false from rfl,show decide ((1:Int)≤0)=false from rfl]
  exact afE
 ·have d1:decide ((s.length:Int)≥1)=true:=decide_eq_true afu
  have d2:decide ((1:Int)≤(s.length:Int))=true:=decide_eq_true afu;simp only[go_sem,d1,d2];exact⟨afu,afu,afu,.same (.refl _) ⟨rfl,rfl⟩⟩
theorem Um(s:Txt)(h:Heap):ai prog 35 [.s s,.s [33]] h fun r h' =>r= .b (s.take 1== [33])∧h' =h:=by
 refine aw func35 8 [.tmp 4] ?_
 simp only[go_sem];refine(QU s h).pthen ?_;exact aj0
theorem QE(w:Txt)(h:Heap):ai prog 36 [.s w] h fun r h' =>r= .i (uB w)∧h' =h:=by
 refine aw func36 13 [.tmp 2] ?_
 simp only[go_sem];refine .intro (fun m ρ h' =>h' =h∧∃k:Nat,k+m=9∧xk m k w=uB w∧lk ρ 0=some (.s w)∧lk ρ 3=some (.i k)) 8 ?_ ?_
 ·refine⟨rfl,1,rfl,rfl,?_,?_⟩<;>simp only[go_sem]
  all_goals rfl
 rintro m ρ h' ⟨rfl,k,hk,hf,r0,r3⟩
 rcases m with _|m
 ·have d1:decide ((k:Int)≤8)=false:=decide_eq_false afu
  simp only[go_sem,r3,d1];exact .same (.refl _) ⟨by rw[←hf];rfl,rfl⟩
 ·have d1:decide ((k:Int)≤8)=true:=decide_eq_true afu
  have w1:IntKind.i64.wrap ((k:Int)+1)=((k+1:Nat):Int):=afG;unfold xk at hf;simp only[go_sem,r0,r3,d1];refine(vr (k:Int) ⟨afu,afu⟩ _).pthen ?_;cases d2:(jc (k:Int)==w)
  ·rw[d2]at hf
   simp only[go_sem,r0,r3,d2,w1];refine⟨m,afu,rfl,k+1,afu,hf,?_,?_⟩<;>simp only[go_sem,r0]
  ·rw[d2]at hf
   simp only[go_sem,r0,r3,d2];exact .same (.refl _) ⟨by rw[←hf];rfl,rfl⟩
theorem IM(s:Txt)(h:∀c∈s,dgt c=true):mQ s<10 ^ s.length:=by
 have go:∀(l:Txt) (n:Nat),(∀c∈l,dgt c=true)→l.foldl (fun n c=>n*10+(c.toNat - 48)) n<(n+1)*10 ^ l.length:=by
  intro l
  induction l with
  |nil=>simp
  |cons c l ih=>
   intro n hc;have h1:=ih (n*10+(c.toNat - 48)) fun d hd=>hc d afv
   have h2:c.toNat - 48≤9:=by have:=hc c afB;simp[dgt]at this;omega
   have h3:(n*10+(c.toNat - 48)+1)*10 ^ l.length≤(n*10+10)*10 ^ l.length:=Nat.mul_le_mul_right _ afu;simp only[List.foldl_cons,List.length_cons,Nat.pow_succ];have h4:(n*10+10)*10 ^ l.length=(n+1)*(10 ^ l.length*10):=afv;omega
 have:=go s 0 h;simpa[mQ]using this
theorem MC(s:Txt)(h0:s≠ [])(h9:s.length≤9)(hd:s.all dgt=true)(h:Heap):ai prog 77 [.s s] h fun r h' =>r= .tup [.i (mQ s:Int),.v .nilIface]∧h' =h:=by
 refine .lib ⟨_,func77,afJ,rfl⟩ fun cx vs hs' g h1 h2=>?_
 obtain⟨u,rfl⟩:∃u,vs= #[u]:=by
  match vs,h1 with
  |⟨[u]⟩,_=>exact⟨u,rfl⟩
 have e1:u= .string ⟨s.toArray⟩:=((h2 0 afB).me).1;subst e1;refine(CO false s h0 (fun c hc=>List.all_eq_true.1 hd c hc) afu ⟨s.toArray⟩ rfl ?_ cx.w).mono ?_
 ·have:=IM s (fun c hc=>List.all_eq_true.1 hd c hc)
  have h2:10 ^ s.length≤10 ^ 9:=Nat.pow_le_pow_right afy h9;unfold inI;omega
 exact akI
theorem zT(s:Txt)(hs:s.length≤1000000)(h:Heap):ai prog 38 [.s s] h fun r h' =>r= .i (Dg s)∧h' =h:=by
 refine aw func38 40 [.tmp 2] ?_
 by_cases h0:s= []
 ·subst h0
  exact aj0
 have d0:(s== [])=false:=afv
 by_cases h9:9<s.length
 ·have d1:decide ((s.length:Int)>9)=true:=decide_eq_true afu
  have d2:decide ((9:Int)<(s.length:Int))=true:=decide_eq_true afu;simp only[go_sem,d0,d1,d2];exact .same (.refl _) ⟨by simp[Dg,h9]<;>rfl,rfl⟩
 have d1:decide ((s.length:Int)>9)=false:=decide_eq_false afu;have d2:decide ((9:Int)<(s.length:Int))=false:=decide_eq_false afu;have hpos:0<s.length:=List.length_pos_iff.2 h0;have hh:s.head? =some s[0]:=by grind [List.head?_eq_getElem?,List.getElem?_eq_getElem]
 have q48:∀c:UInt8,((c.toNat:Int)==48)=decide (c=48):=fun c=>by
  by_cases e:c=48
  ·simp_all
  ·rw[decide_eq_false e]
   exact beq_eq_false_iff_ne.mpr fun h=>e (UInt8.toNat_inj.1 afv)
 simp only[go_sem,d0,d1,d2];refine .of 0 rfl hpos ?_;simp only[go_sem,aK,q48]
 by_cases hz:s[0]=48
 ·simp only[go_sem,hz,decide_true]
  exact .same (.refl _) ⟨by rw[Dg,if_pos (.inr (.inr (.inl afv)))];rfl,rfl⟩
 simp only[go_sem,decide_eq_false hz];refine .intro (fun m ρ h' =>h' =h∧∃i:Nat,(s.take i).all dgt=true∧i≤s.length∧m=s.length - i∧lk ρ 0=some (.s s)∧lk ρ 19=some (.i s.length)∧lk ρ 20=some (.i i)) s.length ?_ ?_
 ·refine⟨rfl,0,rfl,afu,rfl,?_,?_,?_⟩<;>simp only[go_sem]
  all_goals rfl
 rintro m ρ h' ⟨rfl,i,ha,hi,rfl,r0,r19,r20⟩
 by_cases hlt:i<s.length
 ·have t1:decide ((i:Int)<(s.length:Int))=true:=decide_eq_true afu
  have w1:IntKind.i64.wrap ((i:Int)+1)=((i+1:Nat):Int):=afG;have bad:dgt s[i]=false→Dg s=0:=fun e=>by
   rw[Dg,if_pos]
   grind
  simp only[go_sem,r0,r19,r20,t1];refine .of i rfl hlt ?_;simp only[go_sem,aK];cases q1:decide ((s[i].toNat:Int)<48)
  ·simp only[go_sem,r0,q1]
   refine .of i rfl hlt ?_;cases q2:decide ((57:Int)<(s[i].toNat:Int))
   ·simp only[go_sem,aK,q2,r20,w1]
    have hg:dgt s[i]=true:=by grind [afm,dgt]
    refine⟨_,?_,rfl,i+1,by grind [List.take_succ_eq_append_getElem],afu,rfl,?_,?_,?_⟩
    ·omega
    all_goals simp only[go_sem,r0,r19]
   ·simp only[go_sem,aK,q2]
    exact .same (.refl _) ⟨by rw[bad (by have:=afl q2;simp[dgt];omega)];rfl,rfl⟩
  ·simp only[go_sem,q1]
   exact .same (.refl _) ⟨by rw[bad (by have:=afl q1;simp[dgt];omega)];rfl,rfl⟩
 ·obtain rfl:i=s.length:=by omega
  have t1:decide ((s.length:Int)<(s.length:Int))=false:=decide_eq_false afu;rw[List.take_length]at ha;simp only[go_sem,r0,r19,r20,t1];refine(MC s h0 afu ha _).pthen ?_;simp only[go_sem];exact .same (.refl _) ⟨by rw[Dg,if_neg afv];rfl,rfl⟩
end Go.Proofs.YtelkmnkejghkeaaGreatDoor
namespace Go.Bf
open Go Go.Ab
def Bi(t:qO):bu×Bool:=
 if t.kind=2 then(⟨2,t.n,t.s⟩,true)else if t.kind=3 then(⟨4,t.n,t.s⟩,true)else if t.kind=4 then(⟨5,t.n,t.s⟩,true)else if t.kind=5 then(⟨3,t.n,t.s⟩,true)
 else if t.kind=1 then(if t.s= [116,114,117,101]then(⟨1,1,[]⟩,true)else if t.s= [102,97,108,115,101]then(⟨1,0,[]⟩,true)else(aq,false))else(aq,false)
def gp(s:Txt):bu×Bool:=match qg s with
 |.bad _ _=>(aq,false)
 |.ok ts=>if ts.length=2 then Bi (ts.headD ⟨0,0,0,[]⟩)else(aq,false)
end Go.Bf
namespace Go.Proofs.YtelkmnkejghkeaaGreatDoor
open Go Go.Ab Go.Bf Tryz
theorem HA(s:Txt)(h:Heap)(he:jt h):ai prog 37 [.s s] h fun r h' =>r= .tup [aT (gp s).1,.v (.bool (gp s).2)]∧h' =h:=by
 refine aw func37 60 [.cell 2 48,.tmp 3] ?_
 simp only[go_sem];intro i2 h2;simp only[go_sem];refine(yN s _ (he.sub (.aj h2))).pthen ?_;have bad:gp s=(aq,false)→∀(r:AV) (h' :Heap),r= .tup [aT aq,.b false]∧h' =h→r= .tup [aT (gp s).1,.v (.bool (gp s).2)]∧h' =h:=fun e r h' he=>afv
 cases el:qg s with
 |bad e a=>have e1:=uC el;have d1:(e !=0)=true:=afv;simp only[go_sem,Hw,d1,ah];exact .mk _ (.refl _) (.aj h2) (bad (by grind [gp]) _ _ ⟨rfl,rfl⟩)
 |ok ts=>
  by_cases hl:ts.length=2
  case neg=>have d2:((ts.length:Int) !=2)=true:=bne_iff_ne.mpr afu;simp only[go_sem,Hw,afj,d2,ah];exact .mk _ (.refl _) (.aj h2) (bad (by grind [gp]) _ _ ⟨rfl,rfl⟩)
  have d2:((ts.length:Int) !=2)=false:=afv;have ix:=fun K=>fF.eq (xs:=ts.map fN) (sz:=4) 0 afv afD K
  rw[afk]at ix;have eh:ts.headD ⟨0,0,0,[]⟩=ts[0]:=by
   cases ts with
   |nil=>grind
   |cons a b=>rfl
  have el2:gp s=Bi ts[0]:=by grind [gp]
  obtain⟨t,et⟩:∃t,ts[0]=t:=⟨_,rfl⟩;rw[et]at ix el2;simp only[fN,Int.natCast_zero]at ix;simp only[go_sem,Hw,afj,d2];refine .last cY [0,1,2,3,4,5,6,7,8,9] (fun _ _ e=>afT) afx rfl afx rfl ?_
  simp only[go_sem,ix,and_self,reduceIte];intro i7 h7;refine⟨fun _ _ e=>afT,?_⟩
  have n72:=aH h7;have k7:=aA h7;have hs7:∀a b c,Ab.Sub h (upd (upd (upd h i2 a) i7 b) i2 c):=fun a b c=>(((Sub.refl h).put h2 a).put k7 b).put h2 c
  simp only[go_sem,ix,and_self,reduceIte,ah];cases e2:(t.kind==2)
  case true=>simp only[go_sem,ah,ak,n72,n72.symm];exact .mk _ (.refl _) afv ⟨by rw[el2,Bi,if_pos afv];rfl,rfl⟩
  cases e3:(t.kind==3)
  case true=>simp only[go_sem,e3,ah,ak,n72,n72.symm];exact .mk _ (.refl _) afv ⟨by rw[el2,Bi,if_neg afv,if_pos afv];rfl,rfl⟩
  cases e4:(t.kind==4)
  case true=>simp only[go_sem,e3,e4,ah,ak,n72,n72.symm];exact .mk _ (.refl _) afv ⟨by rw[el2,Bi,if_neg afv,if_neg afv,if_pos afv];rfl,rfl⟩
  cases e5:(t.kind==5)
  case true=>simp only[go_sem,e3,e4,e5,ah,ak,n72,n72.symm];exact .mk _ (.refl _) afv ⟨by rw[el2,Bi,if_neg afv,if_neg afv,if_neg afv,if_pos afv];rfl,rfl⟩
  cases e1:(t.kind==1)
  ·simp only[go_sem,e3,e4,e5,e1,ah,ak,n72,n72.symm]
   exact .mk _ (.refl _) afv ⟨by rw[el2,Bi,if_neg afv,if_neg afv,if_neg afv,if_neg afv,if_neg afv];rfl,rfl⟩
  have eT:Bi t=if t.s= [116,114,117,101]then(⟨1,1,[]⟩,true)else if t.s= [102,97,108,115,101]then(⟨1,0,[]⟩,true)else(aq,false):=by rw[Bi,if_neg afv,if_neg afv,if_neg afv,if_neg afv,if_pos afv]
  rw[eT]at el2;cases f1:(t.s== [116,114,117,101])
  ·cases f2:(t.s== [102,97,108,115,101])
   ·simp only[go_sem,e3,e4,e5,e1,f1,f2,ah,ak,n72,n72.symm]
    exact .mk _ (.refl _) afv ⟨by rw[el2,if_neg afv,if_neg afv];rfl,rfl⟩
   ·simp only[go_sem,e3,e4,e5,e1,f1,f2,ah,ak,n72,n72.symm]
    exact .mk _ (.refl _) afv ⟨by rw[el2,if_neg afv,if_pos afv];rfl,rfl⟩
  ·simp only[go_sem,e3,e4,e5,e1,f1,ah,ak,n72,n72.symm]
   exact .mk _ (.refl _) afv ⟨by rw[el2,if_pos afv];rfl,rfl⟩
end Go.Proofs.YtelkmnkejghkeaaGreatDoor
namespace Go.Bf
open Go Go.Ab Go.Proofs.YtelkmnkejghkeaaGreatDoor
def opL(k:Int)(subj reason:Txt)(g:Bool)(s:Txt):OpD×Bool:=
 if k=1 then(⟨k,subj,s,[],[],aq,0,[],reason,g⟩,true)
 else if k=2∨k=6 then(⟨k,subj,(dH s).1,(dH s).2,[],aq,0,[],reason,g⟩,true)
 else if k=3 then(⟨k,subj,(dH s).1,(dH (dH s).2).1,[],(gp (dH (dH s).2).2).1,0,[],reason,g⟩,(gp (dH (dH s).2).2).2)
 else if k=4 then(⟨k,subj,(dH s).1,[],(dH s).2,aq,0,[],reason,g⟩,true)
 else if k=5∨k=8 then(⟨k,subj,[],[],[],aq,Dg s,[],reason,g⟩,true)
 else if k=7 then(⟨k,subj,[],[],[],aq,0,s,reason,g⟩,true)
 else(⟨k,subj,[],[],[],aq,0,[],reason,g⟩,true)
def oR(s:Txt):Bool×Txt×Txt:=if s.take 1== [33]then(true,(dH (s.drop 1)).1,(dH (s.drop 1)).2)else(false,[],s)
def LB(s:Txt):OpD×Bool:=
 let g:=oR (dH s).2
 opL (uB (dH g.2.2).1) (dH s).1 g.2.1 g.1 (dH g.2.2).2
def dL(s:Txt):Option OpD:=if(LB s).2 && dK (LB s).1 then some (LB s).1 else none
theorem lF(s:Txt):(dH s).1.length≤s.length∧(dH s).2.length≤s.length:=by grind [List.takeWhile_prefix,List.dropWhile_suffix,dH,List.length_drop]
theorem xl(w:Txt):∀f k:Nat,0≤xk f k w∧xk f k w≤(f:Int)+k - 1∨xk f k w=0
 |0,k=> .inr rfl
 |f+1,k=>by unfold xk;have:=xl w f (k+1);split<;>omega
theorem xj(w:Txt):0≤uB w∧uB w≤8:=by have:=xl w 8 1;unfold uB;omega
end Go.Bf
namespace Go.Proofs.YtelkmnkejghkeaaGreatDoor
open Go Go.Ab Go.Bf Tryz
theorem jR.join{P:Program}{U:TypeId→TI}{n:Nat}{a b:Code}{K:Exit→Env→Heap→Prop}{ρ:Env}{h:Heap}{y:AV}(I:Env→Heap→Prop)(hK:∀ρ' H',I ρ' H'→K .normal ρ' H')(hc:∀K' :Exit→Env→Heap→Prop,(∀ρ' H',I ρ' H'→K' .normal ρ' H')→jR P U n a b ρ h K' y):jR P U n a b ρ h K y:=hc K hK
def BS(s:Txt):AV:=.tup [opA ((dL s).getD pH),.v (.bool (dL s).isSome)]
def F6:List AV:=[.i 0,.s [],.s [],.s [],.s [],.i 0,.i 0,.s [],.i 0,.s [],.s [],.b false]
theorem zG(s:Txt)(hs:s.length≤900000)(h:Heap)(he:jt h):ai prog 13 [.s s] h fun r h' =>r=BS s∧h' =h:=by
 obtain⟨l1,l2⟩:=lF s;obtain⟨⟨subj,s1⟩,e0⟩:∃x,dH s=x:=⟨_,rfl⟩;rw[e0]at l1 l2;simp only at l1 l2;refine aw func13 95 [.cell 2 50,.tmp 3] ?_
 simp only[go_sem];intro i2 h2;simp only[go_sem];intro i4 h4;have n42:=aH h4;have k4:=aA h4;simp only[go_sem];refine(mo s afu _).pthen ?_;rw[e0];simp only[go_sem,ah,eL];refine(Um s1 _).pthen ?_;simp only[go_sem];obtain⟨⟨g,rs,s2⟩,eg⟩:∃x,oR s1=x:=⟨_,rfl⟩;have hraw:LB s=opL (uB (dH s2).1) subj rs g (dH s2).2:=by simp only[LB,e0,eg]
 have l3:s2.length≤900000:=by have h3:=lF (s1.drop 1);rw[List.length_drop]at h3;unfold oR at eg;split at eg<;>(injection eg with _ eg;injection eg with _ eg;subst eg;omega)
 refine jR.join (fun ρ H=>lk ρ 0=some (.s s2)∧lk ρ 2=some (.ptr i2 0)∧lk ρ 4=some (.ptr i4 0)∧lk ρ 6=some (.b true)∧H i4=some (.obj [.i 0,.s subj,.s [],.s [],.s [],.i 0,.i 0,.s [],.i 0,.s [],.s rs,.b g] 50)∧H i2=some (.obj F6 50)∧Ab.Sub h H) ?_ fun K1 hK1=>?_
 rotate_left
 ·cases eh:(s1.take 1== [33])
  ·have eg2:oR s1=(false,[],s1):=by unfold oR;rw[if_neg (by simp[eh])]
   rw[eg2]at eg;injection eg with eg1 eg
   injection eg with eg3 eg
   subst eg1 eg3 eg;simp only[go_sem,eh];exact ak7
  ·have eg2:oR s1=(true,(dH (s1.drop 1)).1,(dH (s1.drop 1)).2):=by unfold oR;rw[if_pos eh]
   rw[eg2]at eg;injection eg with eg1 eg
   injection eg with eg3 eg
   have hne:1≤s1.length:=by
    rcases s1 with _|⟨c,r⟩
    ·cases eh
    ·simp
   simp only[go_sem,eh,ah,eL];refine⟨afu,afu,afu,?_⟩;rw[show nV s1 1 (s1.length:Int) (some (Operand.const (Value.int .i64 1))).isSome none.isSome=s1.drop 1 from by simp[nV]]
   refine(mo (s1.drop 1) ag4 _).pthen ?_;simp only[go_sem,ah,eL];subst eg1 eg3 eg;exact ak7
 rintro ρ H ⟨r0,r2,r4,r6,f4,f2,hsH⟩
 simp only[go_sem,r0];refine(mo s2 afu _).pthen ?_;obtain⟨⟨w,s3⟩,e3⟩:∃x,dH s2=x:=⟨_,rfl⟩;rw[e3]at hraw;simp only at hraw;rw[e3];simp only[go_sem];refine(QE w _).pthen ?_;obtain⟨k,ek⟩:∃x,uB w=x:=⟨_,rfl⟩;rw[ek]at hraw;simp only[go_sem,ek,r4,f4];have hk:=ek▸xj w;obtain⟨o,ok,eo⟩:∃o ok,opL k subj rs g s3=(o,ok):=⟨_,_,rfl⟩;rw[eo]at hraw;have n24:i2≠i4:=n42.symm;have hf2:∀c,Ab.Sub h (upd H i4 c):=fun c=>hsH.put k4 c
 have l4:=lF s2;rw[e3]at l4;have l5:=lF s3;have l6:=lF (dH s3).2;simp only at l4;refine jR.join (fun ρ H=>lk ρ 2=some (.ptr i2 0)∧lk ρ 4=some (.ptr i4 0)∧lk ρ 6=some (.b ok)∧H i4=some (.obj [.i o.kind,.s o.subj,.s o.case,.s o.field,.s o.to,.i o.val.kind,.i o.val.n,.s o.val.s,.i o.review,.s o.text,.s o.reason,.b o.glass] 50)∧H i2=some (.obj F6 50)∧Ab.Sub h H) ?_ fun K2 hK2=>?_
 rotate_left
 ·have hc:k=0∨k=1∨k=2∨k=3∨k=4∨k=5∨k=6∨k=7∨k=8:=by omega
  rcases hc with rfl|rfl|rfl|rfl|rfl|rfl|rfl|rfl|rfl
  ·exact akg
  ·exact akg
  ·exact ajZ
  ·simp[opL]at eo
   obtain⟨eo,rfl⟩:=eo;subst eo;simp only[go_sem,r0,r4];refine(mo s3 afu _).pthen ?_;simp only[go_sem,r0,r4,ah,eL];refine(mo (dH s3).2 afu _).pthen ?_;simp only[go_sem,r0,r4,ah,eL];refine(HA (dH (dH s3).2).2 _ (he.sub (hf2 _))).pthen ?_;simp only[go_sem,aT,r0,r4,ah,eL];exact hK2 _ _ ⟨af1,af2,af3,by rw[ah],agA,hf2 _⟩
  ·exact ajZ
  ·simp[opL]at eo
   obtain⟨eo,rfl⟩:=eo;subst eo;simp only[go_sem,r0,r4];refine(zT s3 afu _).pthen ?_;exact aj4
  ·exact ajZ
  ·exact akg
  ·simp[opL]at eo
   obtain⟨eo,rfl⟩:=eo;subst eo;simp only[go_sem,r0,r4];refine(zT s3 afu _).pthen ?_;exact aj4
 rintro ρ3 H3 ⟨q2,q4,q6,g4,g2,hsH3⟩
 have bad:dL s=none→BS s= .tup [opA pH,.b false]:=fun e=>by unfold BS;rw[e];rfl
 cases ok
 ·simp only[go_sem,q2,q4,q6,g4,g2,F6]
  exact .mk _ (.refl _) (hsH3.put h2 _) ⟨(bad (by unfold dL;rw[hraw];rfl)).symm,rfl⟩
 simp only[go_sem,q2,q4,q6,g4];have hfo:=C0 o H3;rw[opA]at hfo;refine hfo.pthen ?_;cases ef:dK o
 ·simp only[go_sem,q2,q4,q6,g4,g2,F6]
  exact .mk _ (.refl _) (hsH3.put h2 _) ⟨(bad (by unfold dL;rw[hraw];simp[ef])).symm,rfl⟩
 ·simp only[go_sem,q2,q4,q6,g4,g2,F6]
  exact .mk _ (.refl _) (hsH3.put h2 _) ⟨by unfold BS dL;rw[hraw];simp only[ef,Bool.and_self,if_true];rfl,rfl⟩
end Go.Proofs.YtelkmnkejghkeaaGreatDoor
namespace Go.Bf
open Go Go.Ab Go.Proofs.YtelkmnkejghkeaaGreatDoor
def BW(m:aV):Txt:=
 if m=naM then [78,111,116,65,112,112,108,105,99,97,98,108,101]else if m=bf then [80,101,114,109,105,116]else if m=cJ then [68,101,110,121]
 else if m=xd then [73,110,100,101,116,101,114,109,105,110,97,116,101,123,80,125]else if m=xb then [73,110,100,101,116,101,114,109,105,110,97,116,101,123,68,125]
 else if m=nL then [73,110,100,101,116,101,114,109,105,110,97,116,101,123,68,80,125]else []
def gh(r:iJ):Txt:=
 if r.err=12∧r.mark≠bf then [100,101,110,105,101,100,32]++BW r.mark
 else if r.err≠0∧0<r.at_ then [101,114,114,111,114,32]++Lib.itoa r.err++ [32,97,116,32]++Lib.itoa r.at_
 else if r.err≠0 then [101,114,114,111,114,32]++Lib.itoa r.err
 else if r.glass then [103,108,97,115,115]else if r.hidden then [104,105,100,100,101,110]
 else if r.val.kind=0∧r.val.n=0∧r.val.s= []then [111,107]else [111,107,32]++AH r.val
theorem Lj(m:aV):(BW m).length≤20:=by
 unfold BW
 repeat' split
 all_goals decide
theorem RF(v:bu)(h:inV v):(AH v).length≤194:=by
 unfold AH;split
 ·rename_i hv
  exact RG hv h.1 h.2
 simp
end Go.Bf
namespace Go.Proofs.YtelkmnkejghkeaaGreatDoor
open Go Go.Ab Go.Bf Tryz
theorem N8(m:aV)(hmm:M9 m)(h:Heap):ai prog 68 [aO m] h fun r h' =>r= .s (BW m)∧h' =h:=by
 obtain⟨n1,n2,n3,n4,n5,n6⟩:=nb hmm;refine aw func68 16 [.tmp 2] ?_
 unfold BW;cases d1:(m==naM)
 case true=>simp only[go_sem,aO,n1,d1];exact .same (.refl _) ⟨by rw[if_pos afv];rfl,rfl⟩
 cases d2:(m==bf)
 case true=>simp only[go_sem,aO,n1,n2,d1,d2];exact .same (.refl _) ⟨by rw[if_neg afv,if_pos afv];rfl,rfl⟩
 cases d3:(m==cJ)
 case true=>simp only[go_sem,aO,n1,n2,n3,d1,d2,d3];exact .same (.refl _) ⟨by rw[if_neg afv,if_neg afv,if_pos afv];rfl,rfl⟩
 cases d4:(m==xd)
 case true=>simp only[go_sem,aO,n1,n2,n3,n4,d1,d2,d3,d4];exact .same (.refl _) ⟨by rw[if_neg afv,if_neg afv,if_neg afv,if_pos afv];rfl,rfl⟩
 cases d5:(m==xb)
 case true=>simp only[go_sem,aO,n1,n2,n3,n4,n5,d1,d2,d3,d4,d5];exact .same (.refl _) ⟨by rw[if_neg afv,if_neg afv,if_neg afv,if_neg afv,if_pos afv];rfl,rfl⟩
 cases d6:(m==nL)
 case true=>simp only[go_sem,aO,n1,n2,n3,n4,n5,n6,d1,d2,d3,d4,d5,d6];exact .same (.refl _) ⟨by rw[if_neg afv,if_neg afv,if_neg afv,if_neg afv,if_neg afv,if_pos afv];rfl,rfl⟩
 simp only[go_sem,aO,n1,n2,n3,n4,n5,n6,d1,d2,d3,d4,d5,d6];exact .same (.refl _) ⟨by rw[if_neg afv,if_neg afv,if_neg afv,if_neg afv,if_neg afv,if_neg afv];rfl,rfl⟩
structure yG (r:iJ):Prop where
 mark:M9 r.mark
 err: -9223372036854775808≤r.err∧r.err≤9223372036854775807
 at_: -9223372036854775808≤r.at_∧r.at_≤9223372036854775807
 val:inV r.val
theorem JX(r:iJ)(hr:yG r)(h:Heap)(ht:AQ h):ai prog 32 [.agg (mF r)] h fun y h' =>y= .s (gh r)∧h' =h:=by
 have np:=(nb hr.mark).npe;have hl:lim=9223372036854775808:=rfl;have hi1:=Lib.itoa_length_le r.err hr.err.1 hr.err.2;have hi2:=Lib.itoa_length_le r.at_ hr.at_.1 hr.at_.2;have hnl:=Lj r.mark;refine aw func32 57 [.tmp 2] ?_
 simp only[go_sem,mF];intro id hid;have ht2:∀b,AQ (upd h id b):=fun b=>ht.sub (.aj hid)
 cases d1:(r.err==12)
 case true=>
  have e1:r.err=12:=afv;cases d2:(r.mark==bf)
  case false=>simp only[go_sem,aO,np,d1,d2];refine(N8 r.mark hr.mark _).pthen ?_;have c1:0+7+(BW r.mark).length<lim:=afu;simp only[go_sem,c1];exact .mk _ (.refl _) (.aj hid) ⟨by unfold gh;rw[if_pos ⟨e1,afv⟩];rfl,rfl⟩
  case true=>
   have d3:(r.err !=0)=true:=afv;cases d4:decide (r.at_>0)
   ·simp only[go_sem,aO,np,d1,d2,d3,d4]
    exact akE
   ·simp only[go_sem,aO,np,d1,d2,d3,d4]
    exact aj6
 have e1:r.err≠12:=afv;cases d3:(r.err !=0)
 case true=>
  cases d4:decide (r.at_>0)
  ·simp only[go_sem,d1,d3,d4]
   exact akE
  ·simp only[go_sem,d1,d3,d4]
   exact aj6
 have e0:r.err=0:=afv;cases d5:r.glass
 case true=>simp only[go_sem,d1,d3,d5];exact .mk _ (.refl _) (.aj hid) ⟨by unfold gh;rw[if_neg afv,if_neg afv,if_neg afv,if_pos d5];rfl,rfl⟩
 cases d6:r.hidden
 case true=>simp only[go_sem,d1,d3,d5,d6];exact .mk _ (.refl _) (.aj hid) ⟨by unfold gh;rw[if_neg afv,if_neg afv,if_neg afv,if_neg afv,if_pos d6];rfl,rfl⟩
 cases d7:(r.val.kind==0 && (r.val.n==0 && r.val.s== []))
 case true=>simp only[go_sem,d1,d3,d5,d6,d7];exact .mk _ (.refl _) (.aj hid) ⟨by unfold gh;rw[if_neg afv,if_neg afv,if_neg afv,if_neg afv,if_neg afv,if_pos afv];rfl,rfl⟩
 simp only[go_sem,d1,d3,d5,d6,d7];have hv:=fun H hH=>Po Lz r.val hr.val H hH
 simp only[aT]at hv;refine(hv _ (ht2 _)).pthen ?_;have c1:0+3+(AH r.val).length<lim:=by have:=RF r.val hr.val;omega
 simp only[go_sem,c1];exact .mk _ (.refl _) (.aj hid) ⟨by unfold gh;rw[if_neg afv,if_neg afv,if_neg afv,if_neg afv,if_neg afv,if_neg afv];rfl,rfl⟩
end Go.Proofs.YtelkmnkejghkeaaGreatDoor
namespace Go.Bf
open Go Go.Ab Go.Proofs.YtelkmnkejghkeaaGreatDoor
def mJ(e:cg)(d:D)(s:Txt):cg×D×Txt:=match dL s with
 |none=>(e,d,[119,104,97,116])
 |some o=>((doE e d o).1,(doE e d o).2.1,gh (doE e d o).2.2)
end Go.Bf
namespace Go.Proofs.YtelkmnkejghkeaaGreatDoor
open Go Go.Ab Go.Bf Tryz
theorem qN.line{h0 h:Heap}{x jid did:Nat}{e:cg}{d:D}{spl spj:List Nat}(w:qN h0 h x jid did e d spl spj)(s:Txt)(hl:s.length≤900000)(hps:e.ps.length≤1000000)(hlg:e.log.length≤1000000){k:Nat}(hG:fG k e.s)(hk:k≤1000)(her:jt h0)(ht:AQ h0)(h64:∀o,dL s=some o→mN o)(hok:(mJ e d s).2.1.ok)(hr:∀o,dL s=some o→yG (doE e d o).2.2):
  ai prog 12 [.ptr x 0,.s s] h fun r h' =>r= .s (mJ e d s).2.2∧∃spl' spj',qN h0 h' x jid did (mJ e d s).1 (mJ e d s).2.1 spl' spj'∧Touch (x::did::jid::(spl++spj)) h h'∧(∀i∈x::did::jid::(spl' ++spj'),i∈x::did::jid::(spl++spj)∨h i=none):=by
 refine aw func12 18 [.tmp 4] ?_
 simp only[go_sem];refine(zG s hl _ (her.sub w.sub)).pthen ?_;unfold BS;cases eo:dL s with
 |none=>simp only[go_sem];intro i hi;simp only[go_sem,Option.isSome_none,Option.getD_none,opA,opC,pH,ah,eL];refine .mk _ (.refl _) (.aj hi) ⟨by unfold mJ;rw[eo];rfl,spl,spj,by grind [mJ],.refl _ _,fun j hj=> .inl hj⟩
 |some o=>
  have ee:mJ e d s=((doE e d o).1,(doE e d o).2.1,gh (doE e d o).2.2):=by grind [mJ]
  rw[ee]at hok;have hr:=hr o eo;have h64:=h64 o eo;simp only[go_sem];intro i hi;simp only[go_sem,Option.isSome_some,Option.getD_some,opA,opC,aT,ah,eL];generalize hH:upd h i _=H;have hsH:Ab.Sub h H:=by rw[←hH];exact .aj hi
  refine(show ai prog _ [.ptr x 0,opA o] _ _ from((w.up hsH).doS o hps hlg hG hk h64 her hok).mono fun r H2 ⟨er,spl',spj',w2,hT,hin⟩=>?_)
  subst er;simp only[go_sem];refine(JX _ hr _ (ht.sub w2.sub)).pthen ?_;simp only[go_sem];exact .same (.refl _) ⟨by rw[ee];rfl,spl',spj',afv,(Touch.of (S:=[]) hsH).trans hT,fun i hi=>(hin i hi).imp id hsH.none⟩
end Go.Proofs.YtelkmnkejghkeaaGreatDoor
namespace Go.Bf
open Go Go.Ab
def eqT(a b:gu):Bool:=eqL (eqL (eqL kr)) a b
def eqR(r s:cR):Bool:=r.id==s.id && (r.deny==s.deny && (eqT r.tgt s.tgt && (eqL pU r.cond s.cond && eqL rD r.obls s.obls)))
mutual
def eqP:bC→bC→Bool
 |.mk i1 s1 a1 t1 r1 k1 o1,.mk i2 s2 a2 t2 r2 k2 o2=>i1==i2 && (s1==s2 && (a1==a2 && (eqT t1 t2 && (eqL rD o1 o2 && (eqL eqR r1 r2 && eqK k1 k2)))))
def eqK:List bC→List bC→Bool
 | [],[]=>true
 |x::a,y::b=>eqP x y && eqK a b
 |_,_=>false
end
theorem yh:∀a b:List bC,eqK a b=eqL eqP a b
 | [],[]=>rfl
 | [],_::_=>rfl
 |_::_,[]=>rfl
 |x::a,y::b=>by simp only[eqK,eqL,yh a b]
theorem Nj(a b:gu):eqT a b=true↔a=b:=tg fun x y=>tg fun x y=>tg GH
theorem TF(a b:cR):eqR a b=true↔a=b:=by
 obtain⟨a1,a2,a3,a4,a5⟩:=a;obtain⟨b1,b2,b3,b4,b5⟩:=b
 grind [eqR,Nj,tg,Kl,Eg]
mutual
theorem Ni:∀a b:bC,eqP a b=true↔a=b
 |.mk i1 s1 a1 t1 r1 k1 o1,.mk i2 s2 a2 t2 r2 k2 o2=>by
  simp only[eqP,Bool.and_eq_true,beq_iff_eq,Nj,tg Eg,tg TF,Nh k1 k2,bC.mk.injEq];constructor
  ·rintro⟨h1,h2,h3,h4,h5,h6,h7⟩;exact⟨h1,h2,h3,h4,h6,h7,h5⟩
  ·rintro⟨h1,h2,h3,h4,h5,h6,h7⟩;exact⟨h1,h2,h3,h4,h7,h5,h6⟩
theorem Nh:∀a b:List bC,eqK a b=true↔a=b
 | [],[]=>by simp[eqK]
 | [],_::_=>by simp[eqK]
 |_::_,[]=>by simp[eqK]
 |x::a,y::b=>by simp[eqK,Ni x y,Nh a b]
end
end Go.Bf
namespace Go.Proofs.YtelkmnkejghkeaaGreatDoor
open Go Go.Ab Go.Bf Tryz
theorem Ay(a b:gu)(h:Heap):ai prog 122 [aU a,aU b] h fun r h' =>r= .b (eqT a b)∧h' =h:=by
 refine afs func122 54 [.tmp 4] fun hwf=>?_
 cases d1:((a.length:Int) !=(b.length:Int))
 case true=>
  have e1:a.length≠b.length:=by grind
  simp only[go_sem,aU,afj,d1];exact .same (.refl _) ⟨by rw[eqT,iH e1];rfl,rfl⟩
 have e1:a.length=b.length:=afv;have hwa:=hwf (aU a) afB;simp only[aU,wfA,wf1,lim,afj]at hwa;simp only[go_sem,aU,afj,d1];refine .intro (fun m ρ h' =>Ab.Sub h h'∧∃i:Nat,i≤a.length∧m=a.length - i∧(∀j (h1:j<a.length) (h2:j<b.length),j<i→eqL (eqL kr) a[j] b[j]=true)∧lk ρ 0=some (.sl (a.map cC) .no)∧lk ρ 1=some (.sl (b.map cC) .no)∧lk ρ 13=some (.i a.length)∧lk ρ 14=some (.i i)) a.length ?_ ?_
 ·exact ak9
 ·rintro m ρ h' ⟨hs,i,hi,rfl,hc,r0,r1,r13,r14⟩
  simp only[go_sem,r0,r1,r13,r14,afj];refine .intro (fun e=>?_) (fun e=>?_)
  ·have hlt:i<a.length:=afq e
   have hlt2:i<b.length:=afu;have w1:IntKind.i64.wrap ((i:Int)+1)=((i+1:Nat):Int):=afG;simp only[go_sem,r0,r1,r13,r14,afj];refine⟨.of afx,?_⟩;refine .at i afv afD ?_;simp only[go_sem,r0,r1,r13,r14,afk,cC];refine .at i afv afD ?_;cases d2:((a[i].length:Int) !=(b[i].length:Int))
   case true=>
    have e2:a[i].length≠b[i].length:=by grind
    simp only[go_sem,r0,r1,r13,r14,afk,cC,afj,d2];exact .mk _ (.refl _) hs ⟨by rw[eqT,jJ i hlt hlt2 (iH e2)];rfl,rfl⟩
   have e2:a[i].length=b[i].length:=afv;simp only[go_sem,r0,r1,r13,r14,afk,cC,afj,d2];refine .at i afv afD ?_;simp only[go_sem,r0,r1,r13,r14,afk,cC,afj];refine tW.wf fun hwi=>?_
   have hwk:=hwi 31 (.sl (a[i].map gv) .no) af7;simp only[wfA,wf1,lim,afj]at hwk;refine .intro (fun m ρ h' =>Ab.Sub h h'∧∃k:Nat,k≤a[i].length∧m=a[i].length - k∧(∀j (h1:j<a[i].length) (h2:j<b[i].length),j<k→eqL kr a[i][j] b[i][j]=true)∧lk ρ 5=some (.i i)∧lk ρ 0=some (.sl (a.map cC) .no)∧lk ρ 1=some (.sl (b.map cC) .no)∧lk ρ 13=some (.i a.length)∧lk ρ 14=some (.i i)∧lk ρ 32=some (.i a[i].length)∧lk ρ 33=some (.i k)) a[i].length ?_ ?_
   ·refine⟨hs,0,afu,rfl,fun j _ _ hj=>afu,?_,?_,?_,?_,?_,?_,?_⟩<;>simp only[go_sem,r0,r1,r13,r14]
   ·rintro m ρ h' ⟨hs,k,hk,rfl,hck,r5,r0,r1,r13,r14,r32,r33⟩
    simp only[go_sem,r0,r1,r5,r13,r14,r32,r33];refine .intro (fun e3=>?_) (fun e3=>?_)
    ·have hkt:k<a[i].length:=afq e3
     have hkt2:k<b[i].length:=afu;simp only[go_sem,r0,r1,r5,r13,r14,r32,r33];refine .quiet afx ?_;simp only[go_sem,r0,r1,r5,r13,r14,r32,r33];refine .at i afv afD ?_;simp only[go_sem,r0,r1,r5,r13,r14,r32,r33,afk,cC];have w2:IntKind.i64.wrap ((k:Int)+1)=((k+1:Nat):Int):=afG;refine .at k afv afD ?_;simp only[go_sem,r0,r1,r5,r13,r14,r32,r33,afk,gv];refine .at i afv afD ?_;simp only[go_sem,r0,r1,r5,r13,r14,r32,r33,afk,cC];refine .at k afv afD ?_;simp only[go_sem,r0,r1,r5,r13,r14,r32,r33,afk,gv];have hsm:=fun h=>Dt a[i][k] b[i][k] h
     simp only[gv]at hsm;refine⟨_,hsm _,?_⟩;cases d3:eqL kr a[i][k] b[i][k]
     ·simp only[go_sem,r0,r1,r5,r13,r14,r32,r33,d3]
      exact .mk _ (.refl _) hs ⟨by rw[eqT,jJ i hlt hlt2 (jJ k hkt hkt2 d3)];rfl,rfl⟩
     ·simp only[go_sem,r0,r1,r5,r13,r14,r32,r33,d3,w2]
      refine⟨_,?_,hs,k+1,afu,rfl,fun j h1 h2 hj=>?_,?_,?_,?_,?_,?_,?_,?_⟩
      ·omega
      ·grind
      all_goals simp only[go_sem,r0,r1,r5,r13,r14,r32,r33,w2]
    ·have hge:k=a[i].length:=by grind
     subst hge;simp only[go_sem,r0,r1,r5,r13,r14,r32,r33,w1];refine⟨_,?_,hs,i+1,afu,rfl,fun j h1 h2 hj=>?_,?_,?_,?_,?_⟩
     ·omega
     ·grind [di]
     all_goals simp only[go_sem,r0,r1,r13,r14,w1]
  ·have hge:i=a.length:=by grind
   subst hge;simp only[go_sem,r0,r1,r13,r14];exact .mk _ (.refl _) hs ⟨by rw[eqT,di e1 fun j h1 h2=>hc j h1 h2 h1];rfl,rfl⟩
theorem xz:∀(p q:bC) (h:Heap),ai prog 62 [aM p,aM q] h fun r h' =>r= .b (eqP p q)∧h' =h
 |.mk i1 s1 a1 t1 r1 k1 o1,.mk i2 s2 a2 t2 r2 k2 o2,h=>by
  have ihk:∀(j:Nat) (hj:j<k1.length) (q:bC) (h:Heap),ai prog 62 [aM k1[j],aM q] h fun r h' =>r= .b (eqP k1[j] q)∧h' =h:=
   fun j hj q h=>xz k1[j] q h
  refine afs func62 134 [.tmp 4] fun hwf=>?_
  have hlen:k1.length<9223372036854775808∧r1.length<9223372036854775808:=by have:=hwf (aM (.mk i1 s1 a1 t1 r1 k1 o1)) afB;simp only[aM,wfA]at this;have g1:=this (.sl (fl k1) .no) afB;have g2:=this (.sl (r1.map aC) .no) afB;simp only[wf1,afj,aR]at g1 g2;exact⟨g1,g2⟩
  simp only[go_sem,aM,aU,ay];intro ia hia;simp only[go_sem];intro ib hib;have nab:=zQ hib;have hs0:=fun b=>(Sub.aj hia).trans (.aj (k:=b) hib)
  generalize hH:upd (upd h ia _) ib _=hb;have hs0:Ab.Sub h hb:=by rw[←hH];exact hs0 _
  have ga:hb ia=some (.obj [.s i1,.b s1,.i a1,.sl (t1.map cC) .no,.sl (r1.map aC) .no,.sl (fl k1) .no,.sl (o1.map bh) .no] 39):=by rw[←hH,ag _ _ nab.symm,ah]
  have gb:hb ib=some (.obj [.s i2,.b s2,.i a2,.sl (t2.map cC) .no,.sl (r2.map aC) .no,.sl (fl k2) .no,.sl (o2.map bh) .no] 39):=by rw[←hH,ah]
  clear hH;have bad:eqP (.mk i1 s1 a1 t1 r1 k1 o1) (.mk i2 s2 a2 t2 r2 k2 o2)=false→(.b false:AV)= .b (eqP (.mk i1 s1 a1 t1 r1 k1 o1) (.mk i2 s2 a2 t2 r2 k2 o2))∧h=h:=fun e=>⟨by rw[e],rfl⟩
  cases d1:(i1==i2)
  case false=>simp only[go_sem,ga,gb,d1];exact .mk _ (.refl _) hs0 (bad (by simp[eqP,d1]))
  cases d2:(s1==s2)
  case false=>simp only[go_sem,ga,gb,d1,d2];exact .mk _ (.refl _) hs0 (bad (by simp only[eqP,d2,Bool.false_and,Bool.and_false]))
  cases d3:(a1==a2)
  case false=>
   have d3' :(a1 !=a2)=true:=by simp only[bne,d3,Bool.not_false]
   simp only[go_sem,ga,gb,d1,d2,d3'];exact .mk _ (.refl _) hs0 (bad (by simp only[eqP,d3,Bool.false_and,Bool.and_false]))
  have d3' :(a1 !=a2)=false:=by simp only[bne,d3,Bool.not_true]
  have f1:=Ay t1 t2 hb;have f2:=Ao o1 o2 hb;simp only[aU]at f1;simp only[ay]at f2;simp only[go_sem,ga,gb,d1,d2,d3'];refine f1.pthen ?_;cases d4:eqT t1 t2
  case false=>simp only[go_sem,ga,gb,d4];exact .mk _ (.refl _) hs0 (bad (by simp only[eqP,d4,Bool.false_and,Bool.and_false]))
  simp only[go_sem,ga,gb,d4];refine f2.pthen ?_;cases d5:eqL rD o1 o2
  case false=>simp only[go_sem,ga,gb,d5];exact .mk _ (.refl _) hs0 (bad (by simp only[eqP,d5,Bool.false_and,Bool.and_false]))
  cases d6:((r1.length:Int) !=(r2.length:Int))
  case true=>
   have e6:r1.length≠r2.length:=by intro e;rw[e]at d6;simp at d6
   simp only[go_sem,ga,gb,d5,afj,d6];exact .mk _ (.refl _) hs0 (bad (by simp only[eqP,iH e6,Bool.false_and,Bool.and_false]))
  have e6:r1.length=r2.length:=by have:(r1.length:Int)=r2.length:=(by simpa using d6);omega
  cases d7:((k1.length:Int) !=(k2.length:Int))
  case true=>
   have e7:k1.length≠k2.length:=by intro e;rw[e]at d7;simp at d7
   simp only[go_sem,ga,gb,d5,afj,d6,aR,d7];exact .mk _ (.refl _) hs0 (bad (by simp only[eqP,yh,iH e7,Bool.false_and,Bool.and_false]))
  have e7:k1.length=k2.length:=by have:(k1.length:Int)=k2.length:=(by simpa using d7);omega
  simp only[go_sem,ga,gb,d5,afj,d6,aR,d7];refine .intro (fun m ρ h' =>Ab.Sub hb h'∧∃i:Nat,i≤r1.length∧m=r1.length - i∧(∀j (h1:j<r1.length) (h2:j<r2.length),j<i→eqR r1[j] r2[j]=true)∧lk ρ 2=some (.ptr ia 0)∧lk ρ 3=some (.ptr ib 0)∧lk ρ 64=some (.i r1.length)∧lk ρ 65=some (.i i)) r1.length ?_ ?_
  ·exact ak9
  ·rintro m ρ h' ⟨hs,i,hi,rfl,hc,q2,q3,q64,q65⟩
   have ga1:=hs _ _ ga;have gb1:=hs _ _ gb;simp only[go_sem,q2,q3,q64,q65];refine .intro (fun e=>?_) (fun e=>?_)
   ·have hlt:i<r1.length:=afq e
    have hlt2:i<r2.length:=afu;have w1:=afp i afu;simp only[go_sem,q2,q3,q64,q65];refine .tree h' (.news [0,1,2,3,4,5,6,7,8,9] [10,11] (.seq [12,13])) (.refl _) afx rfl ?_;simp only[go_sem,q2,q3,q64,q65,ga1,gb1];refine .at i afQ afD ?_;simp only[go_sem,q2,q3,q64,q65,ga1,gb1,afk,aC];refine .at i (by simpa using hlt2) afD ?_
    simp only[go_sem,q2,q3,q64,q65,ga1,gb1,afk,aC];refine⟨.refl _,afB,?_⟩;intro j6 h6 j7 h7;have n76:=zQ h7;have h7a:=h7;rw[ag _ _ n76]at h7a;have sb:=fun a b=>((Sub.refl h').put h6 a).put h7a b
    simp only[go_sem,ak,n76,n76.symm];refine⟨(sb _ _).put h6 _,((sb _ _).put h6 _).put h7a _,?_⟩;generalize hH:upd (upd (upd (upd h' j6 _) j7 _) j6 _) j7 _=h2;have hs2:Ab.Sub h' h2:=by rw[←hH];exact((sb _ _).put h6 _).put h7a _
    have g6:h2 j6=some (.obj [.s r1[i].id,.b r1[i].deny,.sl (r1[i].tgt.map cC) .no,.sl (r1[i].cond.map cM) .no,.sl (r1[i].obls.map bh) .no] 213):=by rw[←hH,ag _ _ n76.symm,ah];rfl
    have g7:h2 j7=some (.obj [.s r2[i].id,.b r2[i].deny,.sl (r2[i].tgt.map cC) .no,.sl (r2[i].cond.map cM) .no,.sl (r2[i].obls.map bh) .no] 213):=ahG;clear hH;have hs3:=hs.trans hs2;have f1:=Ay r1[i].tgt r2[i].tgt h2;have f2:=FH r1[i].cond r2[i].cond h2;have f3:=Ao r1[i].obls r2[i].obls h2;have bad2:eqR r1[i] r2[i]=false→(.b false:AV)= .b (eqP (.mk i1 s1 a1 t1 r1 k1 o1) (.mk i2 s2 a2 t2 r2 k2 o2))∧h=h:=fun e=>bad (by simp only[eqP,jJ i hlt hlt2 e,Bool.false_and,Bool.and_false])
    cases c1:(r1[i].id==r2[i].id)
    case false=>simp only[go_sem,q2,q3,q64,q65,g6,g7,c1];exact .mk _ (.refl _) (hs0.trans hs3) (bad2 (by simp only[eqR,c1,Bool.false_and,Bool.and_false]))
    cases c2:(r1[i].deny==r2[i].deny)
    case false=>simp only[go_sem,q2,q3,q64,q65,g6,g7,c1,c2];exact .mk _ (.refl _) (hs0.trans hs3) (bad2 (by simp only[eqR,c2,Bool.false_and,Bool.and_false]))
    simp only[go_sem,q2,q3,q64,q65,g6,g7,c1,c2];refine f1.pthen ?_;cases c3:eqT r1[i].tgt r2[i].tgt
    case false=>simp only[go_sem,q2,q3,q64,q65,g6,g7,c3];exact .mk _ (.refl _) (hs0.trans hs3) (bad2 (by simp only[eqR,c3,Bool.false_and,Bool.and_false]))
    simp only[go_sem,q2,q3,q64,q65,g6,g7,c3];refine f2.pthen ?_;cases c4:eqL pU r1[i].cond r2[i].cond
    case false=>simp only[go_sem,q2,q3,q64,q65,g6,g7,c4];exact .mk _ (.refl _) (hs0.trans hs3) (bad2 (by simp only[eqR,c4,Bool.false_and,Bool.and_false]))
    simp only[go_sem,q2,q3,q64,q65,g6,g7,c4];refine f3.pthen ?_;cases c5:eqL rD r1[i].obls r2[i].obls
    case false=>simp only[go_sem,q2,q3,q64,q65,g6,g7,c5];exact .mk _ (.refl _) (hs0.trans hs3) (bad2 (by simp only[eqR,c5,Bool.false_and,Bool.and_false]))
    simp only[go_sem,q2,q3,q64,q65,g6,g7,c5,w1];refine⟨_,?_,hs3,i+1,afu,rfl,fun j h1 h2 hj=>?_,?_,?_,?_,?_⟩
    ·omega
    ·by_cases hji:j=i
     ·subst hji;simp only[eqR,c1,c2,c3,c4,c5,Bool.and_self]
     ·exact hc j h1 h2 afu
    all_goals simp only[go_sem,q2,q3,q64,q65,w1]
   ·have hge:i=r1.length:=by have:=afm e;omega
    subst hge;have hrr:eqL eqR r1 r2=true:=di e6 fun j h1 h2=>hc j h1 h2 h1
    simp only[go_sem,q2,q3,q64,q65,ga1,gb1,aR,afj];refine .intro (fun m ρ h' =>Ab.Sub hb h'∧∃i:Nat,i≤k1.length∧m=k1.length - i∧(∀j (h1:j<k1.length) (h2:j<k2.length),j<i→eqP k1[j] k2[j]=true)∧lk ρ 2=some (.ptr ia 0)∧lk ρ 3=some (.ptr ib 0)∧lk ρ 117=some (.i k1.length)∧lk ρ 118=some (.i i)) k1.length ?_ ?_
    ·refine⟨hs,0,afu,rfl,fun j _ _ hj=>afu,?_,?_,?_,?_⟩<;>simp only[go_sem,q2,q3]
    ·rintro m ρ h' ⟨hs,i,hi,rfl,hc,q2,q3,q117,q118⟩
     have ga1:=hs _ _ ga;have gb1:=hs _ _ gb;simp only[go_sem,q2,q3,q117,q118];refine .intro (fun e=>?_) (fun e=>?_)
     ·have hlt:i<k1.length:=afq e
      have hlt2:i<k2.length:=afu;have w1:=afp i afu;have ihi:=ihk i hlt k2[i] h';simp only[go_sem,q2,q3,q117,q118,ga1,gb1];refine .quiet afx ?_;simp only[go_sem,q2,q3,q117,q118,ga1,gb1,aR];cases ek1:k1[i]with
      |mk x1 x2 x3 x4 x5 x6 x7=>
      cases ek2:k2[i]with
      |mk y1 y2 y3 y4 y5 y6 y7=>
      have ihi2:=ihi;rw[ek1,ek2]at ihi;simp only[aM,aU,ay]at ihi;refine .at i afQ (by rw[afk];exact z8 _) ?_
      simp only[go_sem,q2,q3,q117,q118,ga1,gb1,afk,ek1,aM,aU,ay,aR];refine .at i (by simpa using hlt2) (by rw[afk];exact z8 _) ?_
      simp only[go_sem,q2,q3,q117,q118,ga1,gb1,afk,ek2,aM,aU,ay,aR];simp only[aR]at ihi;refine⟨_,ihi,?_⟩;rw[←ek1,←ek2];cases c6:eqP k1[i] k2[i]
      ·simp only[go_sem,q2,q3,q117,q118]
       exact .mk _ (.refl _) (hs0.trans hs) (bad (by simp only[eqP,yh,jJ i hlt hlt2 c6,Bool.and_false]))
      ·simp only[go_sem,q2,q3,q117,q118,w1]
       refine⟨_,?_,hs,i+1,afu,rfl,fun j h1 h2 hj=>?_,?_,?_,?_,?_⟩
       ·omega
       ·by_cases hji:j=i
        ·subst hji;exact c6
        ·exact hc j h1 h2 afu
       all_goals simp only[go_sem,q2,q3,q117,q118,w1]
     ·have hge:i=k1.length:=by have:=afm e;omega
      subst hge;have hkk:eqL eqP k1 k2=true:=di e7 fun j h1 h2=>hc j h1 h2 h1
      simp only[go_sem,q2,q3,q117,q118];exact .mk _ (.refl _) (hs0.trans hs) ⟨by simp only[eqP,d1,d2,d3,d4,d5,hrr,yh,hkk,Bool.and_self];rfl,rfl⟩
termination_by p=>SizeOf.sizeOf p
decreasing_by
 have:=List.sizeOf_lt_of_mem (afo hj);simp only[bC.mk.sizeOf_spec];omega
def vt(s t:an):Bool:=s.tick==t.tick && eqL lJ s.cases t.cases && eqL pW s.reviews t.reviews && eqL pV s.notices t.notices && eqL mR s.roles t.roles && s.version==t.version && eqP s.policy t.policy
theorem Ge(s:an):vt s s=true:=by
 have h1:eqL pW s.reviews s.reviews=true:=di rfl fun j _ _=>by simp[pW]
 have h2:eqL pV s.notices s.notices=true:=di rfl fun j _ _=>by simp[pV]
 simp[vt,Gl,h1,h2,LF,(Ni s.policy s.policy).2 rfl]
end Go.Proofs.YtelkmnkejghkeaaGreatDoor
namespace Go.Bf
open Go Go.Ab Go.Proofs.YtelkmnkejghkeaaGreatDoor
theorem Qj{k n:Nat}{e:cg}{b:Txt}{sy:Nat}(o:OpD)(hd:e.down=false)(hG:fG k e.s)(hok:D.ok ⟨n,b,sy,0,false⟩):
  ∃e' b' sy' RR,doE e ⟨n,b,sy,0,false⟩ o=(e',⟨n,b',sy',0,false⟩,RR)∧D.ok ⟨n,b',sy',0,false⟩∧e'.down=false∧e'.ps.length≤e.ps.length+1∧e'.log.length≤e.log.length+1∧fG (k+1) e'.s∧
   (((aE e.s o).2.2.2≠0∧RR=(aE e.s o).2.1∧e' =e)∨((aE e.s o).2.2.2=0∧n<b.length+16+(gE o).length∧RR=xT 8∧e' =e)∨((aE e.s o).2.2.2=0∧b.length+16+(gE o).length≤n∧RR=(aE e.s o).2.1∧e' =qJ e o)):=by
 have up:fG (k+1) e.s:={hG.tojD.up with ticks:=hG.ticks}
 have hl:(frame (cF e.ch o)).length=16+(gE o).length:=by grind [cX,cF,fV]
 by_cases hg:(aE e.s o).2.2.2=0
 case neg=>exact⟨e,b,sy,_,IP _ hd hg,hok,hd,afu,afu,up,.inl ⟨hg,rfl,rfl⟩⟩
 by_cases hr:b.length+16+(gE o).length≤n
 ·refine⟨_,_,_,_,IT (d:=⟨n,b,sy,0,false⟩) hd hg rfl rfl afv,⟨?_,hok.2.1,Nat.le_refl _,hok.2.2.2⟩,rfl,afB,by simp[mI],lW o hG,.inr (.inr ⟨hg,hr,rfl,rfl⟩)⟩
  grind
 ·exact⟨e,b,sy,_,IQ (d:=⟨n,b,sy,0,false⟩) hd hg rfl afv,hok,hd,afu,afu,up,.inr (.inl ⟨hg,afu,rfl,rfl⟩)⟩
end Go.Bf
namespace Go.Proofs.YtelkmnkejghkeaaGreatDoor
open Go Go.Ab Go.Bf Tryz
theorem Ez{k:Nat}{s:an}(h:jD k s)(o:OpD):M9 (aE s o).2.1.mark∧M9 (aE s o).2.2.1.mark:=by
 have hm:M9 (gT s o).1:=(yj _ _).m9;unfold aE;split
 ·exact⟨M9.na,M9.na⟩
 ·split
  ·exact⟨M9.na,M9.na⟩
  ·exact⟨hm,hm⟩
end Go.Proofs.YtelkmnkejghkeaaGreatDoor
namespace Go.Bf
open Go Go.Ab Go.Proofs.YtelkmnkejghkeaaGreatDoor
variable {n sy sy' T k t:Nat}{e e':cg}{o:OpD}
structure qV (e:cg) (b:Txt):Prop where
 ok:DD e
 b:b=frames e.ps
 len:∀p∈e.ps,9≤p.length∧p.length≤5008
 log:e.log.length=e.ps.length
theorem Ee:qV (kW []) []:=⟨rfl,rfl,fun p hp=>(by cases hp),rfl⟩
theorem M7{b:Txt}(hd:e.down=false)(h64:mN o)(hw:qV e b){b' :Txt}{R:iJ}(he:doE e ⟨n,b,sy,0,false⟩ o=(e',⟨n,b',sy',0,false⟩,R)):
  qV e' b'∧(e'.ps=e.ps∨dK o=true∧e'.ps=e.ps++ [cF e.ch o])∧(sy=b.length→sy' =b'.length):=by
 have stay:e' =e→b' =b→sy' =sy→qV e' b'∧(e'.ps=e.ps∨dK o=true∧e'.ps=e.ps++ [cF e.ch o])∧(sy=b.length→sy' =b'.length):=fun h1 h2 h3=>by subst h1 h2 h3;exact⟨hw,.inl rfl,fun h=>h⟩
 have hl:(frame (cF e.ch o)).length=16+(gE o).length:=by grind [cX,cF,fV]
 by_cases hg:(aE e.s o).2.2.2=0
 case neg=>
  rw[IP _ hd hg]at he;injection he with h1 h2
  injection h2 with h2 _
  injection h2 with _ h3 h4
  exact stay h1.symm h3.symm h4.symm
 by_cases hr:b.length+16+(gE o).length≤n
 ·rw[IT (d:=⟨n,b,sy,0,false⟩) hd hg rfl rfl afv]at he
  injection he with h1 h2
  injection h2 with h2 _
  injection h2 with _ h3 h4
  subst h1 h3 h4;have hrl:=mW (h:=e.ch) (kC (fK hg));refine⟨⟨Nf hw.ok hg h64,?_,?_,?_⟩,.inr ⟨fK hg,rfl⟩,fun _=>rfl⟩
  ·show b++frame _=frames (e.ps++ [_])
   rw[iR,hw.b]
  ·intro p hp
   rcases List.mem_append.1 hp with hp|hp
   ·exact hw.len p hp
   grind
  ·simp[mI,hw.log]
 ·rw[IQ (d:=⟨n,b,sy,0,false⟩) hd hg rfl afv]at he
  injection he with h1 h2
  injection h2 with h2 _
  injection h2 with _ h3 h4
  exact stay h1.symm h3.symm h4.symm
theorem OE(hf:OpF o)(ht:o.text.length≤T):(gE o).length≤T+400:=by unfold gE;simp only[afn];have h1:=ji o.kind;have h2:=dG o.subj;have h3:=dG o.case;have h4:=dG o.field;have h5:=dG o.to;have h6:=yD hf.val;have h7:=ji o.review;have h8:=dG o.text;have h9:=dG o.reason;have h10:=yD (v:=dV o.glass) (.inr (AE _));have:=hf.subj;have:=hf.case;have:=hf.field;have:=hf.to;have:=hf.reason;omega
theorem AI{b:Txt}(hW:qV e b):scan b=(e.ps,b.length):=by
 have:=Cj e.ps [] (fun p hp=>by have:=hW.len p hp;omega) afy
 rw[List.append_nil,←hW.b]at this;exact agc
theorem Ix{b:Txt}(hW:qV e b)(hok:D.ok ⟨n,b,sy,0,false⟩):D.bT ⟨n,b,sy,0,false⟩=(⟨n,b,b.length,0,false⟩,0):=by rw[D.Ol hok rfl rfl];simp only[AI hW,List.take_length]
theorem Gv{b p:Txt}(hW:qV e b)(hp:9≤p.length∧p.length≤5008)(ht:t≤4)(hn:b.length+(frame p).length≤n∧n≤1048576):
  ∃G B,(G=e.ps∨G=e.ps++ [p])∧B=frames G∧D.ok (D.boot ⟨n,b++frame p,b.length,0,true⟩ k t)∧(D.boot ⟨n,b++frame p,b.length,0,true⟩ k t).bT=(⟨n,B,B.length,0,false⟩,0)∧(scan (D.boot ⟨n,b++frame p,b.length,0,true⟩ k t).b).1=G:=by
 obtain⟨G,hG,hs,htk⟩:=J2 n e.ps p (fun q hq=>by have:=hW.len q hq;omega) afu afu k t ht
 rw[←hW.b]at hs htk;have hok:D.ok (D.boot ⟨n,b++frame p,b.length,0,true⟩ k t):=D.ye ⟨afv,hn.2,afB,afB⟩ k t;refine⟨G,frames G,hG,rfl,hok,?_,by rw[hs]⟩
 rw[D.Ol hok rfl rfl,hs,htk];rfl
theorem zS{b:Txt}(hW:qV e b)(hg:(aE e.s o).2.2.2=0)(h64:mN o):qV (qJ e o) (frames (qJ e o).ps):=by
 have hrl:=mW (h:=e.ch) (kC (fK hg));refine⟨Nf hW.ok hg h64,rfl,fun p hp=>?_,by simp[qJ,mI,hW.log]⟩
 rcases List.mem_append.1 hp with hp|hp
 ·exact hW.len p hp
 grind
end Go.Bf
namespace Go.Proofs.YtelkmnkejghkeaaGreatDoor
open Go Go.Ab Go.Bf Tryz
theorem To{k:Nat}{s:an}(hG:fG k s)(o:OpD):(aE s o).2.2.1.obls.length≤10000000∧M9 (aE s o).2.2.1.mark:=by
 refine⟨?_,(Ez hG.tojD o).2⟩;unfold aE;split
 ·exact ahA
 ·split
  ·exact ahA
  ·exact El _ hG.mU
theorem Er:∀(l:List Txt) {e e' :cg} {k:Nat},lU e l=some e'→fG k e.s→(∀d∈e.log,d.obls.length≤10000000∧M9 d.mark)→(∀d∈e'.log,d.obls.length≤10000000∧M9 d.mark)
 | [],e,e',k,h,_,hl=>by cases h;omega
 |p::l,e,e',k,h,hG,hl=>by
  simp only[lU]at h;cases hs:kR e p with
  |none=>grind
  |some e1=>
   rw[hs]at h;refine Er l h (Ux hs hG) fun d hd=>?_
   unfold kR at hs;cases hr:jq e p with
   |none=>grind
   |some o=>
    rw[hr]at hs;simp only at hs;split at hs
    ·cases hs
     rcases List.mem_append.1 hd with hd|hd
     ·grind
     grind [List.mem_singleton,To]
    grind
theorem De{e:cg}(he:DD e):∀d∈e.log,d.obls.length≤10000000∧M9 d.mark:=
 Er e.ps (e' :={e with down:=false}) he tj (fun d hd=>by cases hd)
theorem yR{n f:Nat}{b:Txt}{off:Bool}(K T:Int):D.boot ⟨n,b,b.length,f,off⟩ K T=⟨n,b,b.length,0,false⟩:=by simp[D.boot,D.left,D.bad,bM]
theorem FR(y:cg){n:Nat}{B:Txt}(hW:qV y B)(hdn:y.down=false)(hps:y.ps.length≤900)(d:D)(hdo:d.ok)(hop:d.bT=(⟨n,B,B.length,0,false⟩,0))(hsc:(scan d.b).1=y.ps)(did:Nat)(g H:Heap)(hdk:bF H did d)(hs:Ab.Sub g H)(hn:g did=none)(her:jt g):
  ai prog 17 [.ptr did 0] H fun r H' =>∃x jid spl spj,r= .tup [.ptr x 0,.i 0]∧qN g H' x jid did y ⟨n,B,B.length,0,false⟩ spl spj∧Keep did H H'∧(∀i∈x::jid::(spl++spj),H i=none):=
 (OY d hdo did H hdk (her.sub hs) afv).mono fun r H' ⟨h1,h2,h3⟩=>by
  have hok:=D.Om hdo;rw[hop]at h1 h3 hok;unfold vq at h3;have hy:wq y.ps=some y:=by have:=hW.ok;rw[this];obtain⟨_,_,_,_,_⟩:=y;cases hdn;rfl
  rw[hsc,hy]at h3;obtain⟨x,jid,spl,spj,a,b,c⟩:=h3;exact⟨x,jid,spl,spj,a,⟨b,h1,hok,vb hs h2 hn,fun i hi=>by
   simp only[List.mem_cons]at hi c;rcases hi with rfl|rfl|hi
   ·exact hs.none (c _ (.inl rfl))
   ·omega
   ·exact hs.none (c _ (.inr hi))⟩,h2,c⟩
theorem GY{s:an}{o:OpD}(h:(aE s o).2.2.2≠0):(aE s o).1=s:=by
 unfold aE at h⊢
 grind
theorem M0{x:AV}(h:Dat U 22 x):∃l:List Txt,x= .sl (l.map .s) .no∧l.length≤maxLen∧∀s∈l,s.length≤maxLen:=h.list (e:=9) afF fun y hy=>hy.Rt afF
theorem Ii(q:Nat)(hq:q≤1048576)(did:Nat)(h0 h:Heap)(hdk:bF h did ⟨q,[],0,0,false⟩)(hs:Ab.Sub h0 h)(hn:h0 did=none)(her:jt h0):
  ai prog 17 [.ptr did 0] h fun r h' =>∃x jid spl spj,r= .tup [.ptr x 0,.i 0]∧qN h0 h' x jid did (kW []) ⟨q,[],0,0,false⟩ spl spj∧Keep did h h'∧(∀i∈x::jid::(spl++spj),h i=none):=
 FR (kW []) Ee rfl afy ⟨q,[],0,0,false⟩ ⟨Nat.zero_le _,hq,Nat.zero_le _,(by decide:(0:Nat)<9223372036854775808)⟩ afJ (by rw[OV];rfl) did h0 h hdk hs hn her
end Go.Proofs.YtelkmnkejghkeaaGreatDoor
namespace Go.Bf
open Go Go.Ab Go.Proofs.YtelkmnkejghkeaaGreatDoor
variable {s:an}{o:OpD}{l:List cK}
theorem jW:i64 0:=⟨afy,afy⟩
theorem Nz:i64 1:=⟨afy,afy⟩
theorem Xk(neg:Bool)(s:Txt):i64 (fh neg s).1:=by
 unfold fh;simp only;split
 ·exact ajF
 ·generalize (if neg=true then -(mQ (s.takeWhile dgt):Int)else(mQ (s.takeWhile dgt):Int))=v
  split
  ·assumption
  ·exact ajF
theorem MI(s:Txt):i64 (bR s).1.n:=by grind [bR,Xk,jW]
theorem Hv:∀(f:Nat) (s:Txt) (a:Nat) (out l:List qO),qR f s a out= .ok l→(∀t∈out,i64 t.n)→∀t∈l,i64 t.n
 |0,_,_,_,_,h,_=>by grind [qR]
 |f+1,[],a,out,l,h,ho=>by grind [qR,Lexed.ok.injEq,List.mem_singleton,jW]
 |f+1,c::r,a,out,l,h,ho=>by
  simp only[qR]at h;split at h
  ·exact Hv f r _ _ l h ho
  ·split at h
   ·cases h
   ·refine Hv f _ _ _ l h fun t ht=>?_
    grind [List.mem_singleton,MI]
theorem Xd(s:Txt):i64 (gp s).1.kind∧i64 (gp s).1.n:=by
 have hk:∀k:Nat,k≤5→i64 (k:Int):=fun k h=>⟨afu,afu⟩
 unfold gp;cases h:qg s with
 |bad e a=>exact⟨jW,jW⟩
 |ok ts=>
  have ht:∀t∈ts,i64 t.n:=by grind [qg,Hv]
  simp only;split
  ·have hd:i64 (ts.headD ⟨0,0,0,[]⟩).n:=by
    cases ts with
    |nil=>grind
    |cons a b=>grind
   unfold Bi
   (repeat' split)<;>first|exact⟨hk 2 afy,hd⟩|exact⟨hk 4 afy,hd⟩|exact⟨hk 5 afy,hd⟩|exact⟨hk 3 afy,hd⟩|exact⟨Nz,Nz⟩|exact⟨Nz,jW⟩|exact⟨jW,jW⟩
  ·exact⟨jW,jW⟩
theorem Uc(s:Txt):i64 (Go.Bf.Dg s):=by
 unfold Go.Bf.Dg;split
 ·exact ajF
 ·rename_i h
  have h1:∀c∈s,dgt c=true:=afv;have h2:=IM s h1;have h3:10 ^ s.length≤10 ^ 9:=Nat.pow_le_pow_right afy afu;constructor<;>omega
theorem Xq(k:Int)(hk:0≤k∧k≤8)(a b:Txt)(g:Bool)(s:Txt):mN (opL k a b g s).1:=by
 have hk:i64 k:=by constructor<;>omega
 have z:i64 aq.kind∧i64 aq.n:=⟨jW,jW⟩;have h1:=Xd (dH (dH s).2).2;have h2:=Uc s;unfold opL
 (repeat' split)<;>first|exact⟨hk,z.1,z.2,jW⟩|exact⟨hk,h1.1,h1.2,jW⟩|exact⟨hk,z.1,z.2,h2⟩
theorem tC{s:Txt}(h:dL s=some o):mN o:=by
 unfold dL at h;split at h
 ·cases h
  exact Xq _ (xj _) _ _ _ _
 grind
theorem Oj(k:Int)(a b:Txt)(g:Bool)(s:Txt):(opL k a b g s).1.text.length≤s.length:=by
 unfold opL
 grind
theorem GX(s:Txt):(oR s).2.2.length≤s.length:=by
 unfold oR;split
 ·grind [lF,List.length_drop]
 simp
theorem Lb{s:Txt}(h:dL s=some o):dK o=true∧o.text.length≤s.length:=by
 unfold dL at h;split at h
 ·rename_i h1
  grind [LB,Oj,uB,dH,oR,lF,GX]
 grind
def iL(s:an):Prop:=∀c∈s.cases,∀f∈c.fields,inV f.val
theorem Pk:iL xX:=fun c hc=>by cases hc
theorem It(h:∀f∈l,inV f.val)(n:Txt):inV (dZ l n):=by
 unfold dZ;split
 ·grind
 ·exact ajF
theorem L9(h:iL s)(id n:Txt):inV (dZ (bw s.cases id).fields n):=by
 refine It (fun f hf=>?_) n
 unfold bw at hf;split at hf
 ·rw[List.getD_eq_getElem?_getD]at hf
  cases hg:s.cases[findD s.cases id]? with
  |none=>rw[hg]at hf;cases hf
  |some c=>rw[hg]at hf;exact h c (List.mem_of_getElem? hg) f hf
 ·cases hf
theorem Iu(h:∀f∈l,inV f.val)(n:Txt){v:bu}(hv:inV v):∀f∈eR l n v,inV f.val:=by
 intro f hf;unfold eR at hf
 grind
theorem RH(h:iL s)(ho:inV o.val):iL (dX aS s o):=by
 unfold dX;split
 ·unfold doD
  simp only;intro c hc;split at hc
  ·simp only[List.mem_append,List.mem_singleton]at hc
   rcases hc with(hc|rfl)|hc
   ·exact h c (List.mem_of_mem_take hc)
   ·intro f hf;cases hf
   ·exact h c (List.mem_of_mem_drop hc)
  ·split at hc
   ·rcases mem_modify hc with hc|⟨hi,rfl⟩
    ·exact h c hc
    ·exact Iu (h _ (afo hi)) _ ho
   ·split at hc
    ·exact alq
    ·(repeat' split at hc)<;>exact h c hc
 omega
theorem Ma{d:Bool}(x:cE)(h:iL s):iL (fA o d s x):=by
 unfold fA;split
 ·unfold iS
  split
  ·intro c hc
   exact alq
  omega
 ·(repeat' split)<;>exact h
theorem xL{o:OpD}{d:Bool}:∀(l:List cE) {s:an},iL s→iL (dI s o l d)
 | [],_,h=>h
 |x::l,_,h=>xL l (Ma x h)
theorem tP(h:iL s)(ho:inV o.val):iL (aE s o).1:=by grind [aE,cW,iL,fJ,bT,xL,RH]
theorem JD{k:Nat}(hG:jD k s)(hv:iL s)(o:OpD):yG (aE s o).2.1:=by
 refine⟨(Ez hG o).1,?_,?_,?_⟩
 ·grind [aE,j5,rR,bL,bY,fC,nR]
 ·have hp:dK o=true→0≤(aS o.text).2.2∧(aS o.text).2.2≤4096:=fun hf=>by have:=(kC hf).text;rcases rR o.text with h|h<;>omega
  have h0:(0:Int)≤0∧(0:Int)≤4096:=afy;have:0≤(aE s o).2.1.at_∧(aE s o).2.1.at_≤4096:=by
   unfold aE;split
   ·grind [j5,bL]
   ·split<;>exact h0
  omega
 ·unfold aE
  split
  ·exact ajF
  ·split
   ·exact ajF
   ·unfold nR
    simp only;split
    ·grind [L9]
    ·exact ajF
def XX:Txt:=[119,104,97,116]
def JW(s:an)(q:Txt):Txt:=match dL q with
 |none=>XX
 |some o=>gh (aE s o).2.1
def gM(e:cg)(q:Txt):cg:=match dL q with
 |none=>e
 |some o=>if(aE e.s o).2.2.2=0 then qJ e o else e
def BY(s:an)(q:Txt):an:=match dL q with
 |none=>s
 |some o=>(aE s o).1
def xY(l:List Txt):cg:=l.foldl gM (kW [])
theorem LH(l:List Txt)(q:Txt):xY (l++ [q])=gM (xY l) q:=by simp[xY]
theorem Ci(l:List Txt)(i:Nat)(h:i<l.length):xY (l.take (i+1))=gM (xY (l.take i)) l[i]:=by rw[List.take_succ_eq_append_getElem h,LH]
theorem qn(e:cg)(q:Txt):(gM e q).s=BY e.s q:=by
 unfold gM BY;cases dL q with
 |none=>rfl
 |some o=>
  simp only;split
  ·rfl
  grind [GY]
theorem zR(e:cg)(q:Txt)(B:Nat)(h:∀o,dL q=some o→(gE o).length≤B):(frames (gM e q).ps).length≤(frames e.ps).length+(16+B):=by
 unfold gM;cases eo:dL q with
 |none=>simp
 |some o=>
  simp only;split
  ·have hl:(frame (cF e.ch o)).length=16+(gE o).length:=by grind [cX,cF,fV]
   show(frames (e.ps++ [cF e.ch o])).length≤_
   grind [iR,afn]
  omega
theorem EV{q:Txt}(hq:q.length≤600):∀o,dL q=some o→(gE o).length≤1000:=fun o ho=>by have h:=Lb ho;exact OE (kC h.1) afu
end Go.Bf
namespace Go.Proofs.YtelkmnkejghkeaaGreatDoor
open Go Go.Ab Go.Bf Tryz
variable {n k x jid:Nat}{g h:Heap}{e:cg}{spl spj:List Nat}
structure xP (n k:Nat) (g h:Heap) (x jid did:Nat) (e:cg) (spl spj:List Nat):Prop where
 w:qN g h x jid did e ⟨n,frames e.ps,(frames e.ps).length,0,false⟩ spl spj
 hW:qV e (frames e.ps)
 hG:fG k e.s
 hV:iL e.s
 hdn:e.down=false
 hps:e.ps.length≤k
theorem xP.up{h':Heap}{did:Nat}(w:xP n k g h x jid did e spl spj)(hs:Ab.Sub h h'):xP n k g h' x jid did e spl spj:=
 ⟨w.w.up hs,w.hW,w.hG,w.hV,w.hdn,w.hps⟩
theorem xP.line{did:Nat}(w:xP n k g h x jid did e spl spj)(q:Txt)(hq:q.length≤600)(hk:k≤900)(her:jt g)(ht:AQ g)(hr:∀o,dL q=some o→(frames e.ps).length+16+(gE o).length≤n):
  ai prog 12 [.ptr x 0,.s q] h fun r h' =>r= .s (JW e.s q)∧∃spl' spj',xP n (k+1) g h' x jid did (gM e q) spl' spj'∧Touch (x::did::jid::(spl++spj)) h h'∧(∀i∈x::did::jid::(spl' ++spj'),i∈x::did::jid::(spl++spj)∨h i=none):=by
 obtain⟨w,hW,hG,hV,hdn,hps⟩:=w;have hlg:=hW.log;cases eo:dL q with
 |none=>
  have el:mJ e ⟨n,frames e.ps,(frames e.ps).length,0,false⟩ q=(e,⟨n,frames e.ps,(frames e.ps).length,0,false⟩,[119,104,97,116]):=by grind [mJ]
  refine(w.line q afu afu afu hG afu her ht (fun o e=>afv) (by rw[el];exact w.ok) (fun o e=>afv)).mono fun r h' ⟨er,spl',spj',w',hT,hin⟩=>?_
  rw[el]at w' er;have en:gM e q=e:=by grind [gM]
  rw[en];refine⟨by rw[er];unfold JW;rw[eo];rfl,spl',spj',⟨w',hW,{hG.tojD.up with ticks:=hG.ticks},hV,hdn,afu⟩,hT,hin⟩
 |some o=>
  have h64:=tC eo;have hrt:=JD hG.tojD hV o;have hr:=hr o eo;obtain⟨e',b',sy',RR,ed,hok,hdn',hps',hlg',hG',hways⟩:=Qj o hdn hG w.ok;obtain⟨hW',hp',hy'⟩:=M7 hdn h64 hW ed;have el:mJ e ⟨n,frames e.ps,(frames e.ps).length,0,false⟩ q=(e',⟨n,b',sy',0,false⟩,gh RR):=by grind [mJ]
  have hR:RR=(aE e.s o).2.1∧e' =gM e q:=by
   unfold gM
   grind
  obtain⟨rfl,rfl⟩:=hR;have hb:=hW'.b;have hy:=hy' rfl;subst hb;subst hy;refine(w.line q afu afu afu hG afu her ht (fun o' e=>afv) afv (fun o' e2=>?_)).mono fun r h' ⟨er,spl',spj',w',hT,hin⟩=>?_
  ·grind
  rw[el]at w' er;refine⟨by grind [JW],spl',spj',⟨w',hW',hG',?_,hdn',afu⟩,hT,hin⟩
  rw[qn];unfold BY;rw[eo];exact tP hV h64.2.2.1
theorem xP.new{did:Nat}(w:qN g h x jid did (kW []) ⟨n,[],0,0,false⟩ spl spj):xP n 0 g h x jid did (xY []) spl spj:=
 ⟨w,Ee,tj,Pk,rfl,Nat.le_refl _⟩
theorem Co(n:Nat)(hn:n≤1048576)(h0 h:Heap)(hs:Ab.Sub h0 h)(her:jt h0):ai prog 6 [.i n] h fun r h' =>∃x jid did spl spj,r= .tup [.ptr x 0,.ptr did 0]∧xP n 0 h0 h' x jid did (xY []) spl spj∧Ab.Sub h h' :=by
 refine aw func6 32 [.tmp 2,.tmp 3] ?_
 simp only[go_sem];refine(M3 n hn h).mono fun r h1 ⟨did,hd,er,hdk,s1⟩=>?_
 subst er;simp only[go_sem];refine(Ii n hn did h0 h1 hdk (hs.trans s1) (hs.none hd) her).mono fun r h2 ⟨x,jid,spl,spj,er,w,hK,hnew⟩=>?_
 subst er;simp only[go_sem];exact .same (.refl _) ⟨x,jid,did,spl,spj,rfl,.new w,vb s1 hK hd⟩
end Go.Proofs.YtelkmnkejghkeaaGreatDoor
namespace Go.Bf
open Go Go.Ab Go.Proofs.YtelkmnkejghkeaaGreatDoor
def awP:Txt:=[112,111,108,105,99,121,32,112,32,102,105,114,115,116,32,123,32,100,101,110,121,32,100,32,119,104,101,110,32,40,97,99,116,105,111,110,46,110,97,109,101,32,61,32,35,119,114,105,116,101,41,59,32,112,101,114,109,105,116,32,114,59,32,125]
def awL:List Txt:=[[97,110,110,32,110,101,119,32,99],[97,110,110,32,119,114,105,116,101,32,99,32,102,32,55],[97,110,110,32,112,111,108,105,99,121,32]++awP,[97,110,110,32,119,114,105,116,101,32,99,32,102,32,56],[98,111,98,32,114,101,97,100,32,99,32,102]]
def awW:List Txt:=[[111,107],[111,107],[111,107],[100,101,110,105,101,100,32,68,101,110,121],[111,107,32,55]]
def awO:Nat→Option OpD
 |0=>some ⟨1,[97,110,110],[99],[],[],aq,0,[],[],false⟩
 |1=>some ⟨3,[97,110,110],[99],[102],[],⟨2,7,[]⟩,0,[],[],false⟩
 |2=>some ⟨7,[97,110,110],[],[],[],aq,0,awP,[],false⟩
 |3=>some ⟨3,[97,110,110],[99],[102],[],⟨2,8,[]⟩,0,[],[],false⟩
 |4=>some ⟨2,[98,111,98],[99],[102],[],aq,0,[],[],false⟩
 |_=>none
def awS:Nat→an
 |0=>xX
 |i+1=>match awO i with|none=>awS i|some o=>(aE (awS i) o).1
def Zl(i:Nat):Prop:=dL (awL.getD i [])=awO i∧match awO i with
 |none=>False
 |some o=>gh (aE (awS i) o).2.1=awW.getD i []∧(gE o).length≤200
theorem R4:∀i,i<5→Zl i
 |0,_=>⟨afJ,afJ,afi afJ⟩
 |1,_=>⟨afJ,afJ,afi afJ⟩
 |2,_=>⟨afJ,afJ,afi afJ⟩
 |3,_=>⟨afJ,afJ,afi afJ⟩
 |4,_=>⟨afJ,afx,afi afJ⟩
 |n+5,h=>afu
theorem Tc:∀i,i<5→(awL.getD i []).length≤600:=afy
theorem ME:∀i,i≤5→(xY (awL.take i)).s=awS i∧(frames (xY (awL.take i)).ps).length≤216*i
 |0,_=>⟨rfl,afy⟩
 |i+1,h=>by
  obtain⟨h1,h2⟩:=ME i afu;obtain⟨h3,h4⟩:=R4 i afu;have hl:awL.length=5:=rfl;have eg:awL.getD i []=awL[i]'afu:=afv;rw[Ci awL i afu,←eg];have h5:=zR (xY (awL.take i)) (awL.getD i []) 200 fun o ho=>by grind
  grind [qn,BY,awS,awO]
end Go.Bf
namespace Go.Proofs.YtelkmnkejghkeaaGreatDoor
open Go Go.Ab Go.Bf Tryz
def AwP(g:Heap)(x i:Nat)(h:Heap):Prop:=∃jid did spl spj,xP 4000 i g h x jid did (xY (awL.take i)) spl spj
theorem uc(g h:Heap)(her:jt g)(ht:AQ g)(x i:Nat)(hi:i<5)(hp:AwP g x i h):ai prog 12 [.ptr x 0,.s (awL.getD i [])] h fun r h' =>r= .s (awW.getD i [])∧AwP g x (i+1) h'∧Ab.Sub g h' :=by
 obtain⟨jid,did,spl,spj,w⟩:=hp;obtain⟨h1,h2⟩:=ME i afu;obtain⟨h3,h4⟩:=R4 i hi;refine(w.line (awL.getD i []) (Tc i hi) afu her ht fun o ho=>?_).mono fun r h' ⟨er,spl',spj',w',_,_⟩=>?_
 ·grind
 refine⟨?_,⟨jid,did,spl',spj',?_⟩,w'.w.sub⟩
 ·rw[er,h1]
  unfold JW
  grind
 grind [Ci,awL]
theorem MF(h:Heap)(he:jt h)(ht:AQ h):ai prog 19 [] h fun r h' =>r= .b true∧h' =h:=
 ai.freeze fun g hgs _=>by
 have he:=he.sub hgs;have ht:=ht.sub hgs;refine aw func19 40 [.tmp 0] ?_
 simp only[go_sem];refine(show ai prog _ [.i 4000] _ _ from(Co 4000 afy g g (.refl _) he).mono fun r h1 ⟨x,jid,did,spl,spj,er,w,s1⟩=>?_)
 subst er;have hc:∀ρ:Env,ev ρ (.const (.string ⟨#[97,110,110,32,112,111,108,105,99,121,32,112,111,108,105,99,121,32,112,32,102,105,114,115,116,32,123,32,100,101,110,121,32,100,32,119,104,101,110,32,40,97,99,116,105,111,110,46,110,97,109,101,32,61,32,35,119,114,105,116,101,41,59,32,112,101,114,109,105,116,32,114,59,32,125]⟩))=some (.s ([97,110,110,32,112,111,108,105,99,121,32]++awP)):=fun ρ=>Kn afy
 simp only[go_sem,hc];refine(show ai prog _ [.ptr x 0,.s [97,110,110,32,110,101,119,32,99]] _ _ from(uc g h1 he ht x 0 afu ⟨jid,did,spl,spj,w⟩).mono fun r h2 ⟨er,w,_⟩=>?_)
 replace er:r= .s [111,107]:=er;subst er;simp only[go_sem,hc];refine(show ai prog _ [.ptr x 0,.s [97,110,110,32,119,114,105,116,101,32,99,32,102,32,55]] _ _ from(uc g h2 he ht x 1 afu w).mono fun r h3 ⟨er,w,_⟩=>?_)
 replace er:r= .s [111,107]:=er;subst er;simp only[go_sem,hc];refine(show ai prog _ [.ptr x 0,.s ([97,110,110,32,112,111,108,105,99,121,32]++awP)] _ _ from(uc g h3 he ht x 2 afu w).mono fun r h4 ⟨er,w,_⟩=>?_)
 replace er:r= .s [111,107]:=er;subst er;simp only[go_sem];refine(show ai prog _ [.ptr x 0,.s [97,110,110,32,119,114,105,116,101,32,99,32,102,32,56]] _ _ from(uc g h4 he ht x 3 afu w).mono fun r h5 ⟨er,w,_⟩=>?_)
 replace er:r= .s [100,101,110,105,101,100,32,68,101,110,121]:=er;subst er;simp only[go_sem];refine(show ai prog _ [.ptr x 0,.s [98,111,98,32,114,101,97,100,32,99,32,102]] _ _ from(uc g h5 he ht x 4 afu w).mono fun r h6 ⟨er,_,s6⟩=>?_)
 replace er:r= .s [111,107,32,55]:=er;subst er;simp only[go_sem];exact .same (.refl _) ⟨s6,_,.pure rfl,rfl⟩
end Go.Proofs.YtelkmnkejghkeaaGreatDoor
namespace Go.Bf
open Go Go.Ab Go.Proofs.YtelkmnkejghkeaaGreatDoor
def kH(l:List Txt)(n:Nat):List Txt:=(l.take n).map fun q=>q.take 600
theorem NZ{l:List Txt}{n:Nat}:∀q∈kH l n,q.length≤600:=fun q hq=>by
 obtain⟨r,_,rfl⟩:=List.mem_map.1 hq
 grind
theorem Lc(l:List Txt)(n:Nat):(kH l n).length≤n:=by grind [kH,afj,List.length_take]
theorem Hz{l:List Txt}{n i:Nat}(h:i<l.length)(hn:i<n):kH (l.take (i+1)) n=kH (l.take i) n++ [l[i].take 600]:=by grind [kH,Nat.min_eq_right,List.take_succ_eq_append_getElem]
end Go.Bf
namespace Go.Proofs.YtelkmnkejghkeaaGreatDoor
open Go Go.Ab Go.Bf Tryz
theorem N0(l:List Txt)(n:Nat)(hn:n≤1000)(h:Heap):ai prog 7 [.sl (l.map .s) .no,.i n] h fun r h' =>r= .sl ((kH l n).map .s) .no∧h' =h:=by
 refine aw func7 33 [.tmp 4] ?_
 simp only[go_sem];have hsz:(U 9).sz=1:=afJ;refine tW.wf fun hw=>?_
 refine .intro (fun m ρ H=>∃(i:Nat) (y:AV),Acc U 9 h H y ((kH (l.take i) n).map .s)∧i≤l.length∧i≤n∧m=l.length - i∧lk ρ 0=some (.sl (l.map .s) .no)∧lk ρ 1=some (.i n)∧lk ρ 5=some y∧lk ρ 6=some (.i i)) l.length ?_ ?_
 ·refine⟨0,.sl [] .full,by simpa[kH]using Acc.full (.refl _),afu,afu,rfl,?_,?_,?_,?_⟩<;>simp only[go_sem]
  all_goals rfl
 rintro m ρ H ⟨i,y,hy,hi,hin,rfl,r0,r1,r5,r6⟩
 obtain⟨q,eq⟩:=hy.row;subst eq
 by_cases hgo:i<l.length∧i<n
 ·have d1:decide ((i:Int)<(l.length:Int))=true:=decide_eq_true afu
  have d2:decide ((i:Int)<(n:Int))=true:=decide_eq_true afu;have w1:IntKind.i64.wrap ((i:Int)+1)=((i+1:Nat):Int):=afG;have ix:=fun k=>fF.eq (xs:=l.map AV.s) (sz:=1) i afv afD k
  rw[afk]at ix;have e:(if(600:Int)<(l[i].length:Int)then(600:Int)else(l[i].length:Int))=((min 600 l[i].length:Nat):Int):=afu
  have et:l[i].take (min 600 l[i].length)=l[i].take 600:=afB;simp only[go_sem,r0,r1,r5,r6,afj,d1,d2];refine .calls cY [0,1,2,3,4,5,6,7,8,9,10,11,12,13,14] (fun _ _ e=>afT) afx rfl ?_
  simp only[go_sem,r0,r1,r5,r6,ix,e];refine⟨afu,afu,afu,?_⟩;simp only[go_sem,Option.isSome_none,Option.isSome_some,uf,Int.toNat_natCast,et];refine hy.app (zs:=[.s (l[i].take 600)]) afy afy (fun k hk=>hk) (by intro z hz;obtain⟨a,_,rfl⟩:=List.mem_map.1 hz;rfl) age (by simp only[go_sem,kH,afj,List.length_take,List.length_cons,List.length_nil]<;>omega) fun y' H' hy' kp=>?_
  refine⟨fun _ _ e=>afT,?_⟩
  simp only[go_sem,r6,w1];refine⟨_,?_,i+1,y',by grind [Hz],afu,afu,rfl,?_,?_,?_,?_⟩
  ·omega
  all_goals simp only[go_sem,r0,r1]
 ·have hall:kH (l.take i) n=kH l n:=by grind [kH,Nat.min_eq_left,List.take_of_length_le]
  rw[hall]at hy;cases d1:decide ((i:Int)<(l.length:Int))
  ·simp only[go_sem,r0,r5,r6,afj,d1]
   exact .mk _ (by rw[hall];exact .sl _ _) hy.1 ⟨rfl,rfl⟩
  ·have d2:decide ((i:Int)<(n:Int))=false:=decide_eq_false fun h3=>hgo ⟨afv,afu⟩
   simp only[go_sem,r0,r1,r5,r6,afj,d1,d2];exact .mk _ (by rw[hall];exact .sl _ _) hy.1 ⟨rfl,rfl⟩
theorem Cn(s t:an)(h:Heap):ai prog 18 [bQ s,bQ t] h fun r h' =>r= .b (vt s t)∧h' =h:=by
 obtain⟨d,ed⟩:∃d,vt s t=d:=⟨_,rfl⟩;rw[ed];unfold vt at ed;have hs:=pL s;have ht:=pL t;obtain⟨tick,cs,rv,nt,ro,⟨pid,pset,palg,ptgt,prules,pkids,pobls⟩,ver⟩:=s;obtain⟨tick',cs',rv',nt',ro',⟨pid',pset',palg',ptgt',prules',pkids',pobls'⟩,ver'⟩:=t;simp only at ed;rw[hs,ht];simp only[sL,fT,jZ,kM,eu];refine aw func18 52 [.tmp 4] ?_
 simp only[go_sem];intro i1 h1;simp only[go_sem];intro i2 h2;have n21:=aH h2;have n2:=aA h2;have hsub:∀a b,Ab.Sub h (upd (upd h i1 a) i2 b):=fun a b=>((Sub.refl h).put h1 _).put n2 _
 cases d1:(tick==tick')
 ·simp only[go_sem,ak,n21.symm,d1]
  exact .mk _ (.refl _) (hsub _ _) ⟨by rw[←ed,d1];rfl,rfl⟩
 simp only[go_sem,ak,n21.symm,d1];refine(MQ (crows cs) (crows cs') .no .no _).pthen ?_;cases d2:eqL lJ cs cs'
 ·simp only[go_sem]
  exact .mk _ (.refl _) (hsub _ _) ⟨by rw[←ed,d1,d2];rfl,rfl⟩
 simp only[go_sem,ak,n21.symm];refine(HW rv rv' .no .no _).pthen ?_;cases d3:eqL pW rv rv'
 ·simp only[go_sem]
  exact .mk _ (.refl _) (hsub _ _) ⟨by rw[←ed,d1,d2,d3];rfl,rfl⟩
 simp only[go_sem,ak,n21.symm];refine(HV nt nt' .no .no _).pthen ?_;cases d4:eqL pV nt nt'
 ·simp only[go_sem]
  exact .mk _ (.refl _) (hsub _ _) ⟨by rw[←ed,d1,d2,d3,d4];rfl,rfl⟩
 simp only[go_sem,ak,n21.symm];refine(FI ro ro' .no .no _).pthen ?_;cases d5:eqL mR ro ro'
 ·simp only[go_sem]
  exact .mk _ (.refl _) (hsub _ _) ⟨by rw[←ed,d1,d2,d3,d4,d5];rfl,rfl⟩
 cases d6:(ver==ver')
 ·simp only[go_sem,ak,n21.symm,d6]
  exact alD
 simp only[go_sem,ak,n21.symm,d6];refine ai.pthen (show ai prog 62 [_,_] _ _ from xz (.mk pid pset palg ptgt prules pkids pobls) (.mk pid' pset' palg' ptgt' prules' pkids' pobls') _) ?_
 simp only[go_sem];exact alD
theorem wu(s:an)(L:List AV)(hL:cP s=L)(h:Heap):ai prog 18 [bQ s,.agg L] h fun r h' =>r= .b true∧h' =h:=by subst hL;have:=Cn s s h;rw[Ge]at this;exact agc
end Go.Proofs.YtelkmnkejghkeaaGreatDoor
namespace Go.Bf
open Go Go.Ab Go.Proofs.YtelkmnkejghkeaaGreatDoor
variable {d:D}{p q:Txt}{e:cg}{o:OpD}{n f k:Nat}
theorem Oa(e:cg)(q:Txt):e.ps<+:(gM e q).ps∧(gM e q).ps.length≤e.ps.length+1:=by
 unfold gM;cases dL q with
 |none=>simp
 |some o=>
  simp only;split
  ·grind [List.prefix_append,qJ]
  simp
theorem K8{ps:List Txt}(h1:d.off=false)(h2:d.f=3)(hp1:1≤p.length)(hp2:p.length≤8192)(hf:d.b.length+(frame p).length≤d.q):
  jadd d ps false p=(({d with b:=d.b++frame p,sy:=(d.b++frame p).length,f:=1},ps++ [p],false),0):=by
 obtain⟨q,b,s,f,off⟩:=d;subst h1;subst h2;have hno:¬(p.length=0∨8192<p.length):=afu;have ha:=iN (d:=⟨q,b,s,3,false⟩) rfl hf;unfold jadd;rw[if_neg afB,if_neg hno,ha];rfl
theorem IS(h:e.down=false)(hg:(aE e.s o).2.2.2=0)(h1:d.off=false)(h2:d.f=3)(hr:d.b.length+(frame (cF e.ch o)).length≤d.q):
  doE e d o=(qJ e o,{d with b:=d.b++frame (cF e.ch o),sy:=(d.b++frame (cF e.ch o)).length,f:=1},(aE e.s o).2.1):=by
 have hl:=mW (h:=e.ch) (kC (fK hg));rw[Qi h hg (K8 h1 h2 afu afu hr),if_pos rfl];rfl
theorem Hy(hW:qV e (frames e.ps))(hd:e.down=false)(hf:f=1∨f=2∨f=3)(hr:∀o,dL q=some o→(frames e.ps).length+16+(gE o).length≤n):
  (∃f',(f' =0∨f' =1∨f' =2∨f' =3)∧mJ e ⟨n,frames e.ps,(frames e.ps).length,f,false⟩ q=(gM e q,⟨n,frames (gM e q).ps,(frames (gM e q).ps).length,f',false⟩,JW e.s q)∧qV (gM e q) (frames (gM e q).ps))∨
  (∃o,dL q=some o∧(aE e.s o).2.2.2=0∧mJ e ⟨n,frames e.ps,(frames e.ps).length,f,false⟩ q=({e with down:=true},⟨n,frames e.ps++frame (cF e.ch o),(frames e.ps).length,0,true⟩,gh (xT 9))):=by
 unfold mJ gM JW;cases eo:dL q with
 |none=>exact .inl ⟨f,afu,rfl,hW⟩
 |some o=>
  have hr:=hr o eo;simp only
  by_cases hg:(aE e.s o).2.2.2=0
  ·have hlen:(frame (cF e.ch o)).length=16+(gE o).length:=by grind [cX,cF,fV]
   have hfit:(frames e.ps).length+(frame (cF e.ch o)).length≤n:=afu;rw[if_pos hg];rcases hf with rfl|rfl|rfl
   ·right
    refine⟨o,rfl,hg,?_⟩;rw[CV (d:=⟨n,frames e.ps,(frames e.ps).length,1,false⟩) hd hg rfl (.inl rfl) hfit]
   ·right
    refine⟨o,rfl,hg,?_⟩;rw[CV (d:=⟨n,frames e.ps,(frames e.ps).length,2,false⟩) hd hg rfl (.inr rfl) hfit]
   ·left
    have hfr:frames (qJ e o).ps=frames e.ps++frame (cF e.ch o):=iR ..;refine⟨1,afu,?_,zS hW hg (tC eo)⟩;rw[IS (d:=⟨n,frames e.ps,(frames e.ps).length,3,false⟩) hd hg rfl rfl hfit,hfr]
  ·rw[if_neg hg,IP _ hd hg]
   exact .inl ⟨f,afu,rfl,hW⟩
theorem Gu{t:Nat}(hW:qV e (frames e.ps))(hd:e.down=false)(hg:(aE e.s o).2.2.2=0)(h64:mN o)(ht:t≤4)(hn:(frames e.ps).length+(frame (cF e.ch o)).length≤n∧n≤1048576):
  ∃y:cg,(y=e∨y=qJ e o)∧qV y (frames y.ps)∧y.down=false∧D.ok (D.boot ⟨n,frames e.ps++frame (cF e.ch o),(frames e.ps).length,0,true⟩ k t)∧(D.boot ⟨n,frames e.ps++frame (cF e.ch o),(frames e.ps).length,0,true⟩ k t).bT=(⟨n,frames y.ps,(frames y.ps).length,0,false⟩,0)∧(scan (D.boot ⟨n,frames e.ps++frame (cF e.ch o),(frames e.ps).length,0,true⟩ k t).b).1=y.ps:=by
 have hl:=mW (h:=e.ch) (kC (fK hg));obtain⟨G,B,hG,hB,h1,h2,h3⟩:=Gv (e:=e) (n:=n) (k:=k) (t:=t) hW hl ht hn;subst hB;rcases hG with rfl|rfl
 ·exact⟨e,.inl rfl,hW,hd,h1,h2,h3⟩
 ·exact⟨qJ e o,.inr rfl,zS hW hg h64,rfl,h1,h2,h3⟩
theorem LD(r:iJ)(h:(decide (M9 r.mark) && decide (-1000≤r.err) && decide (r.err≤1000) && decide (-1000≤r.at_) && decide (r.at_≤1000) && decide (-1000≤r.val.n) && decide (r.val.n≤1000))=true):yG r:=by simp only[Bool.and_eq_true,decide_eq_true_eq]at h;obtain⟨⟨⟨⟨⟨⟨h1,h2⟩,h3⟩,h4⟩,h5⟩,h6⟩,h7⟩:=h;exact⟨h1,⟨afu,afu⟩,⟨afu,afu⟩,⟨afu,afu⟩⟩
theorem Q7(o:OpD)(h:(decide (-1000≤o.kind) && decide (o.kind≤1000) && decide (-1000≤o.val.kind) && decide (o.val.kind≤1000) && decide (-1000≤o.val.n) && decide (o.val.n≤1000) && decide (-1000≤o.review) && decide (o.review≤1000))=true):mN o:=by simp only[Bool.and_eq_true,decide_eq_true_eq]at h;exact⟨⟨afu,afu⟩,⟨afu,afu⟩,⟨afu,afu⟩,⟨afu,afu⟩⟩
structure Zg (i:Nat) (e e1:cg) (d1:D) (a:Txt) (o:OpD) (K T:Nat) (y:cg):Prop where
 dn:y.down=false
 w:qV y (frames y.ps)
 g:fG (i+1) y.s
 v:iL y.s
 len:y.ps.length≤i+1
 fr:(frames y.ps).length≤1016*(i+1)
 op:(d1.boot K T).bT=(⟨200000,frames y.ps,(frames y.ps).length,0,false⟩,0)
 sc:(scan (d1.boot K T).b).1=y.ps
 how:d1.off=false∧y=e1∨d1.off=true∧a= [101,114,114,111,114,32,57]∧(y=e∨y.s=(aE e.s o).1∧y.log.length=e.log.length+1)
theorem Qg{q sy:Nat}{b:Txt}{off:Bool}(h1:b.length≤q)(h2:q≤1048576)(h3:sy≤b.length)(h4:f≤9):D.ok ⟨q,b,sy,f,off⟩:=⟨h1,h2,h3,Nat.lt_of_le_of_lt h4 afy⟩
theorem Wh:gh (xT 9)= [101,114,114,111,114,32,57]:=afx
theorem M5(hd:e.down=false)(hf:f=1∨f=2∨f=3)(hr:(frames e.ps).length+16+(gE o).length≤n):(doE e ⟨n,frames e.ps,(frames e.ps).length,f,false⟩ o).2.2=(aE e.s o).2.1∨(doE e ⟨n,frames e.ps,(frames e.ps).length,f,false⟩ o).2.2=xT 9:=by
 by_cases hg:(aE e.s o).2.2.2=0
 ·have hlen:(frame (cF e.ch o)).length=16+(gE o).length:=by grind [cX,cF,fV]
  have hfit:(frames e.ps).length+(frame (cF e.ch o)).length≤n:=afu;rcases hf with rfl|rfl|rfl
  ·rw[CV (d:=⟨n,frames e.ps,(frames e.ps).length,1,false⟩) hd hg rfl (.inl rfl) hfit];exact .inr rfl
  ·rw[CV (d:=⟨n,frames e.ps,(frames e.ps).length,2,false⟩) hd hg rfl (.inr rfl) hfit];exact .inr rfl
  ·rw[IS (d:=⟨n,frames e.ps,(frames e.ps).length,3,false⟩) hd hg rfl rfl hfit];exact .inl rfl
 ·rw[IP _ hd hg];exact .inl rfl
theorem Xu{i:Nat}(hi:i<40)(hW:qV e (frames e.ps))(hd:e.down=false)(hG:fG i e.s)(hV:iL e.s)(hl:e.ps.length≤i)(hfr:(frames e.ps).length≤1016*i)(hq:q.length≤600)(hf:f=1∨f=2∨f=3):
  ∃e1 d1 a,mJ e ⟨200000,frames e.ps,(frames e.ps).length,f,false⟩ q=(e1,d1,a)∧d1.ok∧(e1.log.length≤i+1∧∀d∈e1.log,d.obls.length≤10000000)∧e1.ps.length≤i+1∧∀K T:Nat,T≤4→∃y,Zg i e e1 d1 a ((dL q).getD pH) K T y:=by
 have hput:=EV hq;have hr:∀o,dL q=some o→(frames e.ps).length+16+(gE o).length≤200000:=fun o ho=>by have:=hput o ho;omega
 have hlg:=hW.log;have hok:=hW.ok;rcases Hy (f:=f) hW hd hf hr with⟨f',hf',h1,h2⟩|⟨o,ho,hg,h1⟩
 ·have hn:=zR e q 1000 hput
  have hp:=(Oa e q).2;have hG' :fG (i+1) (gM e q).s:=by
   rw[qn];unfold BY;cases dL q with
   |none=>exact {hG.tojD.up with ticks:=hG.ticks}
   |some o=>exact lW o hG
  have hV' :iL (gM e q).s:=by
   rw[qn];unfold BY;cases eo:dL q with
   |none=>exact hV
   |some o=>exact tP hV (tC eo).2.2.1
  have hdn:(gM e q).down=false:=by
   unfold gM;cases dL q with
   |none=>exact hd
   |some o=>
    simp only;split
    ·rfl
    ·exact hd
  refine⟨_,_,_,h1,Qg afu afy (Nat.le_refl _) afu,⟨by rw[h2.log];omega,fun d hd=>(De h2.ok d hd).1⟩,afu,fun K T hT=>⟨gM e q,hdn,h2,hG',hV',afu,afu,?_,?_,.inl ⟨rfl,rfl⟩⟩⟩
  ·rw[yR]
   exact Ix h2 (Qg afu afy (Nat.le_refl _) afy)
  ·rw[yR,AI h2]
 ·have hlen:(frame (cF e.ch o)).length=16+(gE o).length:=by grind [cX,cF,fV]
  have hpo:=hput o ho;have eo:(dL q).getD pH=o:=by rw[ho];rfl
  rw[eo];refine⟨_,_,_,h1,Qg (by simp only[afn];omega) afy afB afy,⟨ajA,fun d hd=>(De hok d hd).1⟩,ajA,fun K T hT=>?_⟩
  obtain⟨y,hy,h2,h3,h4,h5,h6⟩:=Gu (n:=200000) (k:=K) (t:=T) hW hd hg (tC ho) hT ⟨afu,afy⟩;rcases hy with rfl|rfl
  ·exact⟨y,h3,h2,{hG.tojD.up with ticks:=hG.ticks},hV,afu,afu,h5,h6,.inr ⟨rfl,Wh,.inl rfl⟩⟩
  ·refine⟨_,h3,h2,lW o hG,tP hV (tC ho).2.2.1,by simp[qJ];omega,?_,h5,h6,.inr ⟨rfl,Wh,.inr ⟨rfl,by simp[qJ,mI]⟩⟩⟩
   show(frames (e.ps++ [cF e.ch o])).length≤_
   rw[iR,afn];omega
theorem Xv(hd:e.down=false)(hf:f=1∨f=2∨f=3)(hG:fG k e.s)(hV:iL e.s)(hr:∀o,dL q=some o→(frames e.ps).length+16+(gE o).length≤n):∀o,dL q=some o→yG (doE e ⟨n,frames e.ps,(frames e.ps).length,f,false⟩ o).2.2:=fun o ho=>by
 rcases M5 (f:=f) hd hf (hr o ho)with h|h
 ·rw[h];exact JD hG.tojD hV o
 ·rw[h];exact LD _ afy
end Go.Bf
namespace Go.Proofs.YtelkmnkejghkeaaGreatDoor
open Go Go.Ab Go.Bf Tryz
set_option maxHeartbeats 400000 in
theorem Dw(y z u v p:AV)(dy:Dat U 22 y)(dz:Dat U 3 z)(du:Dat U 3 u)(dv:Dat U 3 v)(dp:Dat U 3 p)(h:Heap)(he:jt h)(ht:AQ h):ai prog 3 [y,z,u,v,p] h fun r h' =>r= .b true∧h' =h:=
 ai.freeze fun g hgs _=>by
 have he:=he.sub hgs;have ht:=ht.sub hgs;obtain⟨l0,rfl,hl0,hls⟩:=M0 dy;obtain⟨at_,rfl,a64⟩:=dz.i64 afJ;obtain⟨fu,rfl,f64⟩:=du.i64 afJ;obtain⟨ke,rfl,k64⟩:=dv.i64 afJ;obtain⟨to,rfl,t64⟩:=dp.i64 afJ;have hll:=Lc l0 20;have hlq:=NZ (l:=l0) (n:=20);have hlo:=fun(G:Heap)=>N0 l0 20 afy G
 obtain⟨l,el⟩:∃l,kH l0 20=l:=⟨_,rfl⟩;rw[el]at hll hlq;simp only[el]at hlo;refine afs func3 161 [.tmp 10] fun hwf=>?_
 simp only[go_sem];refine(show ai prog _ [.i 200000] _ _ from(Co 200000 afy g g (.refl _) he).mono fun r h1 ⟨x,jid,did,spl,spj,er,w,s1⟩=>?_)
 subst er;simp only[go_sem];refine(hlo h1).pthen ?_;have hgd0:g did=none:=w.w.new did afB;simp only[go_sem,afj];refine jR.join (fun ρ H=>H=h1∧(∃k:Nat,lk ρ 14=some (.i k))∧lk ρ 2=some (.i fu)∧lk ρ 3=some (.i ke)∧lk ρ 4=some (.i to)∧lk ρ 11=some (.ptr x 0)∧lk ρ 12=some (.ptr did 0)∧lk ρ 13=some (.sl (l.map .s) .no)) ?_ fun K2 hK2=>?_
 rotate_left
 ·by_cases h0:l.length=0
  ·have t0:decide ((0:Int)<(l.length:Int))=false:=decide_eq_false afu
   have t1:decide ((l.length:Int)>0)=false:=decide_eq_false afu;simp only[go_sem,t0,t1];refine hK2 _ _ ⟨rfl,⟨0,?_⟩,?_,?_,?_,?_,?_,?_⟩<;>simp only[go_sem]
   all_goals rfl
  have t0:decide ((0:Int)<(l.length:Int))=true:=decide_eq_true afu;have t1:decide ((l.length:Int)>0)=true:=decide_eq_true afu;have v1:IntKind.i64.wrap ((l.length:Int) - 1)=((l.length - 1:Nat):Int):=af6;simp only[go_sem,t0,t1,afj,v1];refine(sJ at_ (l.length - 1) _ a64 afu).pthen ?_;obtain⟨k,ek⟩:∃k,mY at_ (l.length - 1)=k:=⟨_,rfl⟩;rw[ek];simp only[go_sem];refine hK2 _ _ ⟨rfl,⟨k,?_⟩,?_,?_,?_,?_,?_,?_⟩<;>simp only[go_sem]
 rintro ρ H ⟨rfl,⟨k,r14⟩,r2,r3,r4,r11,r12,r13⟩
 simp only[go_sem,r13,afj];refine .intro (fun m ρ H=>∃(i:Nat) (e:cg) (x jid:Nat) (spl spj:List Nat),xP 200000 i g H x jid did e spl spj∧(frames e.ps).length≤1016*i∧i≤l.length∧m=l.length - i∧lk ρ 2=some (.i fu)∧lk ρ 3=some (.i ke)∧lk ρ 4=some (.i to)∧lk ρ 11=some (.ptr x 0)∧lk ρ 12=some (.ptr did 0)∧lk ρ 14=some (.i k)∧lk ρ 49=some (.sl (l.map .s) .no)∧lk ρ 50=some (.i l.length)∧lk ρ 51=some (.i i)) l.length ?_ ?_
 ·refine⟨0,_,x,jid,spl,spj,w,by simp[xY,Bf.kW,frames],afu,rfl,?_,?_,?_,?_,?_,?_,?_,?_,?_⟩<;>simp only[go_sem,r2,r3,r4,r11,r12,r14]
  all_goals rfl
 clear w s1 hlo r2 r3 r4 r11 r12 r13 r14
 rintro m ρ H ⟨i,e,x,jid,spl,spj,w,hfr,hi,rfl,r2,r3,r4,r11,r12,r14,r49,r50,r51⟩
 by_cases hlt:i<l.length
 case neg=>have t1:decide ((i:Int)<(l.length:Int))=false:=decide_eq_false afu;simp only[go_sem,r49,r50,r51,t1];refine(MF H (he.sub w.w.sub) (ht.sub w.w.sub)).pthen ?_;simp only[go_sem];exact .same (.refl _) ⟨w.w.sub,_,.pure rfl,rfl⟩
 have t1:decide ((i:Int)<(l.length:Int))=true:=decide_eq_true afu;have w1:IntKind.i64.wrap ((i:Int)+1)=((i+1:Nat):Int):=afG;have ix:=fun k=>fF.eq (xs:=l.map AV.s) (sz:=1) i afQ afD k
 rw[afk]at ix;have hql:=hlq _ (afo hlt);obtain⟨q,eq⟩:∃q,l[i]=q:=⟨_,rfl⟩;rw[eq]at ix hql;have hG:=w.hG;have hV:=w.hV;have hW:=w.hW;have hps:=w.hps;have hlog:=hW.log;have hlk:=De hW.ok;have hput:=EV hql;have hE:=he.sub w.w.sub;obtain⟨a1,a2,a3,a4,a5,a6,a7,es1⟩:=bX e.s;have hst:=vG x jid did e spl spj H w.w.eng;rw[show bQ e.s= .agg (cP e.s)from rfl,es1]at hst
 simp only[go_sem,r49,r50,r51,t1,ix,r11];refine hst.pthen ?_;simp only[go_sem,r11];refine(CW x jid did e spl spj H w.w.eng afu (fun d hd=>(hlk d hd).1)).pthen ?_
 simp only[go_sem,afj];intro i17 h17;simp only[go_sem,r14];have n17:=w.w.fresh h17;have g17:g i17=none:=w.w.sub.none h17;refine Sa fun H1 w1' =>?_
 have f17:H1 i17=some (.obj (cP e.s) 41):=by rw[w1',ah,es1]
 replace w:=w.up (show Ab.Sub H H1 by rw[w1'];exact(Sub.refl H).new h17 _)
 clear w1' hst
 by_cases hik:i=k
 case neg=>
  have d1:((i:Int)==(k:Int))=false:=beq_eq_false_iff_ne.mpr afu;have d2:((i:Int) !=(k:Int))=true:=afZ;simp only[go_sem,r14,d1,r11];refine(w.line q hql afu he ht (fun o ho=>by have:=hput o ho;omega)).mono fun r H2 ⟨er,spl',spj',w2,_,_⟩=>?_
  subst er;have hn:=zR e q 1000 hput;simp only[go_sem,r14,d2,r51,w1];refine⟨_,?_,i+1,_,x,jid,spl',spj',w2,afu,afu,rfl,?_,?_,?_,?_,?_,?_,?_,?_,?_⟩
  ·omega
  all_goals simp only[go_sem,r2,r3,r4,r11,r12,r14,r49,r50]
 subst hik;have hfl:=AJ fu 2;have hwf:=fun G=>sJ fu 2 G f64 afy
 obtain⟨f,ef⟩:∃f,mY fu 2=f:=⟨_,rfl⟩;rw[ef]at hfl;simp only[ef]at hwf;have wf:IntKind.i64.wrap (1+(f:Int))=((f+1:Nat):Int):=af6;have d1:((i:Int)==(i:Int))=true:=beq_self_eq_true _;have d2:((i:Int) !=(i:Int))=false:=bne_self_eq_false _;simp only[go_sem,r14,d1,r12,r2];refine(hwf H1).pthen ?_;simp only[go_sem,wf];refine(PY _ (f+1) did H1 w.w.disk).mono fun r H2 ⟨hdk,hkd⟩=>?_
 have ned:i17≠did:=fun e=>n17 ajz
 replace f17:=hkd _ _ ned f17;have hok2:D.ok ⟨200000,frames e.ps,(frames e.ps).length,f+1,false⟩:=Qg afu afy (Nat.le_refl _) afu;have w2:=w.w.did hdk hkd hok2;have hr3:f+1=1∨f+1=2∨f+1=3:=afu;obtain⟨E1,d9,a,hle,hd9,hlg9,hps9,hrec⟩:=Xu (q:=q) afu hW w.hdn hG hV hps hfr hql hr3;have hrp:=Xv (q:=q) (n:=200000) w.hdn hr3 hG hV (fun o ho=>by have:=hput o ho;omega)
 simp only[go_sem,r11];refine(w2.line q afu afu afu hG afu he ht (fun o ho=>tC ho) (by rw[hle];exact hd9) hrp).mono fun r H3 ⟨er,spl',spj',w3,hT,hin⟩=>?_
 rw[hle]at er w3;subst er;replace f17:=hT _ _ n17 f17;have hE3:=he.sub w3.sub;have o64:mN ((dL q).getD pH):=by
  cases eo:dL q with
  |none=>exact Q7 _ afy
  |some o=>exact tC eo
 have hpar:=zG q afu;obtain⟨o,eo⟩:∃o,(dL q).getD pH=o:=⟨_,rfl⟩;obtain⟨b,eb⟩:∃b,(dL q).isSome=b:=⟨_,rfl⟩;simp only[BS,eo,eb,opA,opC]at hpar;rw[eo]at o64;simp only[eo]at hrec;have hgd:=nI e.s hG afu o o64;obtain⟨⟨S,R,Dc,EE⟩,eg⟩:∃t,aE e.s o=t:=⟨_,rfl⟩;obtain⟨c1,c2,c3,c4,c5,c6,c7,es2⟩:=bX E1.s;obtain⟨b1,b2,b3,b4,b5,b6,b7,es3⟩:=bX S;rw[eg,nJ,show bQ e.s= .agg (cP e.s)from rfl,es1,show bQ S= .agg (cP S)from rfl,es3]at hgd
 simp only[opA,opC]at hgd;have hst:=vG x jid did E1 spl' spj' H3 w3.eng;rw[show bQ E1.s= .agg (cP E1.s)from rfl,es2]at hst
 simp only[go_sem,r14,d2,r11];refine hst.pthen ?_;simp only[go_sem,r11];refine(CW x jid did E1 spl' spj' H3 w3.eng afu hlg9.2).pthen ?_;simp only[go_sem,afj];intro i20 h20;simp only[go_sem];refine inH fun H4 w4=>?_
 have f20:H4 i20=some (.obj (cP E1.s) 41):=by rw[w4,ah,es2]
 have n20:=w3.fresh h20;have s4:Ab.Sub H3 H4:=by rw[w4];exact(Sub.refl H3).new h20 _
 replace w3:=w3.up s4;replace f17:=s4 _ _ f17;clear w4 hst;refine(hpar H4 (he.sub w3.sub)).pthen ?_;simp only[go_sem];intro i22 h22;have x17:i17≠i22:=fun e=>by rw[←e,f17]at h22;cases h22
 have x20:i20≠i22:=fun e=>by rw[←e,f20]at h22;cases h22
 rw[es1]at f17;simp only[go_sem,ak,x17,f17];refine(hgd _ (he.sub (w3.sub.trans (.aj h22)))).pthen ?_;simp only[go_sem];intro i24 h24;simp only[go_sem];intro i25 h25;simp only[go_sem];intro i26 h26;have q25:=aH h25;have q26:=aH h26;have h25' :=aA h25;have h26' :=aA h26;have q264:=aH h26';simp only[go_sem,ak,q25,q25.symm,q26,q26.symm,q264,q264.symm,r12];refine inH fun H5 w5=>?_
 have j17:H5 i17=some (.obj (cP e.s) 41):=by rw[w5,es1];grind [upd]
 have j20:H5 i20=some (.obj (cP E1.s) 41):=by rw[w5];grind [upd]
 have j24:H5 i24=some (.obj (cP S) 41):=by rw[w5,es3];grind [upd]
 have a24:=aA h24;have a25:=aA h25';have a26:=aA (aA h26');have s5:Ab.Sub H4 H5:=by
  rw[w5]
  repeat first
   |exact .refl _
   |refine Sub.put ?_ h22 _
   |refine Sub.put ?_ a24 _
   |refine Sub.put ?_ a25 _
   |refine Sub.put ?_ a26 _
 have n24:i24≠did:=fun e=>by have:=w3.fresh (aA h24);exact this ajz
 replace w3:=w3.up s5;clear w5;have n20d:i20≠did:=fun e=>n20 ajz
 refine(Q5 d9 did H5 w3.disk).pthen ?_;simp only[go_sem,r12,r3];refine(sJ ke 3000 H5 k64 afy).pthen ?_;simp only[go_sem,r4];refine(sJ to 4 H5 t64 afy).pthen ?_;have hTl:=AJ to 4;obtain⟨K,eK⟩:∃K,mY ke 3000=K:=⟨_,rfl⟩;obtain⟨T,eT⟩:∃T,mY to 4=T:=⟨_,rfl⟩;rw[eK,eT];rw[eT]at hTl;obtain⟨y,hy⟩:=hrec K T hTl;simp only[go_sem];refine(ye d9 hd9 did H5 K T w3.disk).mono fun r H6 ⟨hdb,hkb⟩=>?_
 have hs6:=vb w3.sub hkb hgd0;have m17:=hkb _ _ ned j17;have m20:=hkb _ _ n20d j20;have m24:=hkb _ _ n24 j24;clear w3 j17 j20 j24 hkb;simp only[go_sem,r12];refine(FR y hy.w hy.dn (by have:=hy.len;omega) (d9.boot K T) (D.ye hd9 _ _) hy.op hy.sc did g H6 hdb hs6 hgd0 he).mono fun r H7 ⟨x2,jid2,spl2,spj2,er,v,hk7,hn7⟩=>?_
 subst er;replace m17:=hk7 _ _ ned m17;replace m20:=hk7 _ _ n20d m20;replace m24:=hk7 _ _ n24 m24;have hly:=hy.w.log;have hyl:=hy.len;have hyk:=De hy.w.ok;obtain⟨g1,g2,g3,g4,g5,g6,g7,es4⟩:=bX y.s;have hst:=vG x2 jid2 did y spl2 spj2 H7 v.eng;rw[show bQ y.s= .agg (cP y.s)from rfl,es4]at hst
 simp only[go_sem];refine hst.pthen ?_;simp only[go_sem];refine(CW x2 jid2 did y spl2 spj2 H7 v.eng afu (fun d hd=>(hyk d hd).1)).pthen ?_
 simp only[go_sem,afj];intro i31 h31;simp only[go_sem];generalize w8:upd H7 i31 (some (.obj [.i y.s.tick,fT y.s.cases,jZ y.s.reviews,kM y.s.notices,eu y.s.roles,g1,g2,g3,g4,g5,g6,g7,.i y.s.version] 41))=H8;have m31:H8 i31=some (.obj (cP y.s) 41):=by rw[←w8,ah,es4]
 have s8:Ab.Sub H7 H8:=by rw[←w8];exact(Sub.refl H7).new h31 _
 replace m17:=s8 _ _ m17;replace m20:=s8 _ _ m20;replace m24:=s8 _ _ m24;have v8:xP 200000 (i+1) g H8 x2 jid2 did y spl2 spj2:=⟨v.up s8,hy.w,hy.g,hy.v,hy.dn,hy.len⟩;have hfy:=hy.fr;have how:=hy.how;clear w8 v hst hy hrec;have w9:IntKind.i64.wrap ((e.log.length:Int)+1)=((e.log.length+1:Nat):Int):=afG;have hlw:=hW.log;rcases how with⟨ho,hye⟩|⟨ho,ha,hye|⟨hye,hyl2⟩⟩
 ·have hal:=wu y.s _ es4 H8
  rw[show bQ y.s= .agg (cP y.s)from rfl,es4]at hal
  rw[←hye,es4]at m20;rw[es4]at m31;have el:((y.log.length:Int) !=(E1.log.length:Int))=false:=by rw[hye];exact bne_self_eq_false _
  simp only[go_sem,ho,m31,m20];refine hal.pthen ?_;simp only[go_sem,el,ho,r51,w1];refine⟨_,?_,i+1,y,x2,jid2,spl2,spj2,v8,hfy,afu,rfl,?_,?_,?_,?_,?_,?_,?_,?_,?_⟩
  ·omega
  all_goals simp only[go_sem,r2,r3,r4,r12,r14,r49,r50]
 ·have hal:=wu e.s _ es1 H8
  rw[show bQ e.s= .agg (cP e.s)from rfl,es1]at hal
  rw[es1]at m17;rw[hye,es1]at m31;have el:((y.log.length:Int)==(e.log.length:Int))=true:=by rw[hye];exact beq_self_eq_true _
  subst ha;simp only[go_sem,ho,bne_self_eq_false,m31,m17];refine hal.pthen ?_;simp only[go_sem,el,r51,w1];refine⟨_,?_,i+1,y,x2,jid2,spl2,spj2,v8,hfy,afu,rfl,?_,?_,?_,?_,?_,?_,?_,?_,?_⟩
  ·omega
  all_goals simp only[go_sem,r2,r3,r4,r12,r14,r49,r50]
 ·rw[eg]at hye
  have hal:=Cn y.s e.s H8;have hal2:=wu y.s _ es4 H8;rw[show bQ y.s= .agg (cP y.s)from rfl,es4]at hal2
  rw[show bQ y.s= .agg (cP y.s)from rfl,show bQ e.s= .agg (cP e.s)from rfl,es4,es1]at hal
  rw[es1]at m17;rw[←show y.s=S from hye,es4]at m24
  rw[es4]at m31;have el:((y.log.length:Int)==(e.log.length:Int))=false:=beq_eq_false_iff_ne.mpr afu;have el2:((y.log.length:Int)==((e.log.length+1:Nat):Int))=true:=by rw[hyl2];exact beq_self_eq_true _
  subst ha;simp only[go_sem,ho,bne_self_eq_false,m31,m17];refine hal.pthen ?_;cases vt y.s e.s
  all_goals
   simp only[go_sem,el,m31,m24];refine hal2.pthen ?_;simp only[go_sem,w9,el2,r51,w1];refine⟨_,?_,i+1,y,x2,jid2,spl2,spj2,v8,hfy,afu,rfl,?_,?_,?_,?_,?_,?_,?_,?_,?_⟩
   ·omega
   all_goals simp only[go_sem,r2,r3,r4,r12,r14,r49,r50]
theorem Bj(ev:Value)(hev:ev= .nilIface∨∃te pe,ev= .iface te pe)(x y z u v:AV)(dx:Dat U 22 x)(dy:Dat U 3 y)(dz:Dat U 3 z)(du:Dat U 3 u)(dv:Dat U 3 v):ai prog 3 [x,y,z,u,v] (yd [(3,Ac),(2,[ev])]) fun r _=>r= .b true:=(Dw x y z u v dx dy dz du dv _ (LU hev) ⟨0,rfl⟩).mono fun _ _ h=>h.1
end Go.Proofs.YtelkmnkejghkeaaGreatDoor
