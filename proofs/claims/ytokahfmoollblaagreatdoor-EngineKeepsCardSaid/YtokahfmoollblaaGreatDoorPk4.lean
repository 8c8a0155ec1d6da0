/- The law EngineKeeps: pack 4 of its texts. -/
import Derived.Shelf.Small.Strs
import Derived.Shelf.Small.Wraps
import Derived.Shelf.Strconv.AtoiAll
import Derived.Shelf.Strconv.ErrVarAll
import Derived.Shelf.Strings.Search1
import Derived.Test.YtokahfmoollblaaGreatDoorProg
import Derived.KernelRfl
import Derived.WalkKit
import Derived.BigCall
import Derived.Lib.ItoaLen
import Derived.Test.YtokahfmoollblaaGreatDoorPk1
import Derived.Test.YtokahfmoollblaaGreatDoorPk2
import Derived.Test.YtokahfmoollblaaGreatDoorPk3
set_option linter.unusedSimpArgs false
set_option linter.unusedVariables false
set_option maxRecDepth 100000
namespace Go.Proofs.YtokahfmoollblaaGreatDoor
open Go Go.Ab Go.Bf Tryz
def Byt(g:FuncId)(p:UInt8→Bool):Prop:=∀(c:UInt8) (h:Heap),ai prog g [.v (.int .u8 c.toNat)] h fun r h' =>r= .b (p c)∧h' =h
theorem nj:Byt 186 dgt:=fun c h=>by
 refine ad2 func186 9 [.tmp 2] fun hwf=>?_
 cases d1:decide (48≤(c.toNat:Int))<;>cases d2:decide ((c.toNat:Int)≤57)
 all_goals
  simp only[go_sem,d1,d2];exact .same (.refl _) ⟨by simp only[dgt,d1,d2];rfl,rfl⟩
theorem JY:Byt 232 wrd:=fun c h=>by
 refine ad2 func232 17 [.tmp 2] fun hwf=>?_
 cases d1:decide (97≤(c.toNat:Int))<;>cases d2:decide ((c.toNat:Int)≤122)<;>cases d3:dgt c<;>cases d4:((c.toNat:Int)==95)
 all_goals
  simp only[go_sem,d1,d2]
  first
   |exact .same (.refl _) ⟨by simp only[wrd,ltr,d1,d2,d3,d4];rfl,rfl⟩
   |(refine(nj c _).pthen ?_;simp only[go_sem,d3,d4];exact .same (.refl _) ⟨by simp only[wrd,ltr,d1,d2,d3,d4];rfl,rfl⟩)
theorem EC:Byt 233 (fun c=> !GH c):=fun c h=>by
 refine ad2 func233 17 [.tmp 2] fun hwf=>?_
 cases d1:decide (32≤(c.toNat:Int))<;>cases d2:decide ((c.toNat:Int)≤126)<;>cases d3:((c.toNat:Int)==34)<;>cases d4:((c.toNat:Int)==92)
 all_goals
  simp only[go_sem,d1,d2,d3,d4,bne];refine .same (.refl _) ⟨?_,rfl⟩;have e1:decide ((c.toNat:Int)<32)= !decide (32≤(c.toNat:Int)):=by grind
  have e2:decide (126<(c.toNat:Int))= !decide ((c.toNat:Int)≤126):=by grind
  simp only[GH,e1,e2,d1,d2,d3,d4];rfl
theorem P4(p:UInt8→Bool)(s:Txt)(i:Nat)(hi:i<s.length)(h:i≤(s.takeWhile p).length)(hp:p s[i]=true):i+1≤(s.takeWhile p).length:=by exact aiT
theorem Wa(p:UInt8→Bool)(s:Txt)(i:Nat)(hi:i<s.length)(h:i≤(s.takeWhile p).length)(hp:p s[i]=false):(s.takeWhile p).length=i:=by exact aiT
theorem NC(g:FuncId)(p:UInt8→Bool)(hg:Byt g p)(s:Txt)(h:Heap):ai prog 231 [.s s,.fn g []] h fun r h' =>r= .v (.int .i64 (s.takeWhile p).length)∧h' =h:=by
 refine ad2 func231 20 [.tmp 4] fun hwf=>?_
 have hlen:=hwf (.s s) aea;simp only[wfA,wf1,lim]at hlen;simp only[go_sem];refine .intro (fun m ρ h' =>h' =h∧∃i:Nat,i≤s.length∧m=s.length - i∧i≤(s.takeWhile p).length∧lk ρ 0=some (.s s)∧lk ρ 1=some (.fn g [])∧lk ρ 5=some (.i i)) s.length ?_ ?_
 ·refine⟨rfl,0,ad3,rfl,ad3,?_,?_,?_⟩<;>simp only[go_sem]
 ·rintro m ρ h' ⟨rfl,i,hi,rfl,hc,r0,r1,r5⟩
  cases d1:decide ((i:Int)<(s.length:Int))
  ·have hge:i=s.length:=by grind
   have:=kM p s;simp only[go_sem,r0,r5,d1];exact .same (.refl _) ⟨by grind [au],rfl⟩
  ·have hlt:i<s.length:=by grind
   have w1:IntKind.i64.wrap ((i:Int)+1)=((i+1:Nat):Int):=aeg;simp only[go_sem,r0,r1,r5,d1];refine .at i hlt ?_;simp only[go_sem,aN];refine(hg s[i] _).pthen ?_;cases d2:p s[i]
   ·have:=Wa p s i hlt hc d2
    simp only[go_sem,r5];exact .same (.refl _) ⟨by rw[this];rfl,rfl⟩
   ·simp only[go_sem,r5,w1]
    refine⟨_,?_,rfl,i+1,ad3,rfl,P4 p s i hlt hc d2,?_,?_,?_⟩
    ·omega
    all_goals simp only[go_sem,r0,r1]
theorem zn(s:Txt)(h:Heap):ai prog 185 [.s s] h fun r h' =>r= .s (jT s)∧h' =h:=by
 refine ad2 func185 12 [.tmp 2] fun hwf=>?_
 simp only[go_sem];refine(NC _ _ JY s _).pthen ?_;simp only[go_sem];refine⟨ad3,ad3,?_⟩;simp only[go_sem,Option.isSome_none,Option.isSome_some,tO,Int.toNat_natCast,rQ];refine⟨by grind [kM,wrd],?_⟩
 refine(pX _ _).pthen ?_;cases d1:bw (s.takeWhile wrd)
 ·exact ajR
 ·exact ajR
theorem wr8{x:Int}(h:0≤x∧x<256):IntKind.u8.wrap x=x:=by grind [IntKind.wrap,IntKind.signed,IntKind.bits]
theorem tT(c:UInt8)(h:Heap):ai prog 267 [.v (.int .u8 c.toNat)] h fun r h' =>r= .i (jU c)∧h' =h:=by
 refine ad2 func267 20 [.tmp 2] fun hwf=>?_
 have hc:=c.toNat_lt;simp only[go_sem];refine(nj c _).pthen ?_;cases d1:dgt c
 case true=>
  have e1:48≤(c.toNat:Int)∧(c.toNat:Int)≤57:=by grind [dgt]
  have w1:IntKind.u8.wrap ((c.toNat:Int) - 48)=(c.toNat:Int) - 48:=wr8 ad3;have w2:IntKind.i64.wrap ((c.toNat:Int) - 48)=(c.toNat:Int) - 48:=aY _ ad3;simp only[go_sem,w1,w2];exact .same (.refl _) ⟨by grind [jU,au],rfl⟩
 cases d2:decide (97≤(c.toNat:Int))<;>cases d3:decide ((c.toNat:Int)≤102)
 case true.true=>have e2:=adV d2;have e3:=adV d3;have w1:IntKind.u8.wrap ((c.toNat:Int) - 97)=(c.toNat:Int) - 97:=wr8 ad3;have w2:IntKind.i64.wrap ((c.toNat:Int) - 97)=(c.toNat:Int) - 97:=aY _ ad3;have w3:IntKind.i64.wrap ((c.toNat:Int) - 97+10)=(c.toNat:Int) - 87:=aeg;simp only[go_sem,d2,d3,w1,w2,w3];exact .same (.refl _) ⟨by grind [jU,au],rfl⟩
 all_goals
  simp only[go_sem,d2,d3];simp only[decide_eq_true_eq,decide_eq_false_iff_not]at d2 d3;refine .same (.refl _) ⟨?_,rfl⟩
  grind [Int,jU,au]
theorem HY(c:UInt8): -1≤jU c∧jU c≤15:=by grind [jU,dgt]
theorem NS(n:Nat)(h:n<256):((UInt8.ofNat n).toNat:Int)=n:=by simp;omega
theorem SK(s:Txt)(h:Heap):ai prog 234 [.s s] h fun r h' =>(∃x:Int,r= .tup [.v (.int .u8 x),.v (.bool (uo s).isSome)]∧∀c,uo s=some c→x=c.toNat)∧h' =h:=by
 refine ad2 func234 38 [.tmp 2,.tmp 3] fun hwf=>?_
 have hlen:=hwf (.s s) aea;simp only[wfA,wf1,lim]at hlen;cases d0:decide ((s.length:Int)<3)
 case true=>
  have e0:s.length<3:=ad4;have:uo s=none:=by
   match s,e0 with
   | [],_=>rfl
   | [_],_=>rfl
   | [_,_],_=>rfl
  simp only[go_sem,d0];exact .same (.refl _) ⟨⟨0,by rw[this];rfl,fun c hc=>ad4⟩,rfl⟩
 have e0:3≤s.length:=ad4;obtain⟨b,x,y,t,rfl⟩:∃b x y t,s=b::x::y::t:=by
  match s,e0 with
  |b::x::y::t,_=>exact⟨b,x,y,t,rfl⟩
 simp only[List.length_cons]at d0;have bad:uo (b::x::y::t)=none→∃z:Int,AV.tup [.v (.int .u8 0),.b false]= .tup [.v (.int .u8 z),.v (.bool (uo (b::x::y::t)).isSome)]∧∀c,uo (b::x::y::t)=some c→z=c.toNat:=
  fun e=>⟨0,ad4,fun c hc=>ad4⟩
 cases d1:((b.toNat:Int) !=92)
 case true=>
  have e1:b≠92:=by rintro rfl;grind
  simp only[go_sem,d0];refine .at 0 aea ?_;simp only[go_sem,aN,List.getElem_cons_zero,d1];exact ajB
 have e1:b=92:=by have:(b.toNat:Int)=92:=ad4;exact UInt8.toNat_inj.1 ad4
 simp only[go_sem,d0];refine .at 0 aea ?_;simp only[go_sem,aN,List.getElem_cons_zero,d1];refine .at 1 aea ?_;simp only[go_sem,aN,List.getElem_cons_zero,List.getElem_cons_succ];refine(tT x _).pthen ?_;cases d2:decide (jU x<0)
 case true=>have e2:=adV d2;simp only[go_sem,d2];exact ajB
 have e2:0≤jU x:=ad4;simp only[go_sem,d2];refine .at 2 aea ?_;simp only[go_sem,aN,List.getElem_cons_zero,List.getElem_cons_succ];refine(tT y _).pthen ?_;cases d3:decide (jU y<0)
 case true=>have e3:=adV d3;simp only[go_sem,d3];exact ajB
 have e3:0≤jU y:=ad4;have hx:=HY x;have hy:=HY y;have w1:IntKind.i64.wrap (16*jU x)=16*jU x:=aY _ ad3;have w2:IntKind.i64.wrap (16*jU x+jU y)=16*jU x+jU y:=aY _ ad3;have w3:IntKind.u8.wrap (16*jU x+jU y)=((UInt8.ofNat (16*jU x+jU y).toNat).toNat:Int):=by grind [wr8,NS]
 simp only[go_sem,d3];refine .quiet ad7 ?_;simp only[go_sem];refine .at 1 aea ?_;simp only[go_sem,aN,List.getElem_cons_zero,List.getElem_cons_succ];refine⟨_,tT x _,?_⟩;simp only[go_sem];refine .at 2 aea ?_;simp only[go_sem,aN,List.getElem_cons_zero,List.getElem_cons_succ];refine⟨_,tT y _,?_⟩;simp only[go_sem,w1,w2,w3];refine(EC _ _).pthen ?_;simp only[go_sem];refine .same (.refl _) ⟨⟨((UInt8.ofNat (16*jU x+jU y).toNat).toNat:Int),?_,fun c hc=>?_⟩,rfl⟩
 ·grind [GH,UInt8.ofNat,jU,uo,au]
 grind [uo]
theorem u5z:(U 5).sz=1:=aei
theorem u5b:(U 5).bytes=1:=aei
theorem nN(l:List UInt8):Sized 1 (l.map aN):=fun z hz=>by obtain⟨c,_,rfl⟩:=List.mem_map.1 hz;rfl
theorem IQ(s:Txt)(hs:s.length≤10000)(h:Heap):ai prog 188 [.s s] h fun r h' =>r= .tup [.s (zX s).1,.v (.int .i64 (zX s).2)]∧h' =h:=by
 refine ad2 func188 50 [.tmp 2,.tmp 3] fun hwf=>?_
 simp only[go_sem];refine .intro (fun m ρ h' =>∃(i f:Nat) (y:AV) (out:Txt),Acc U 5 h h' y (out.map aN)∧out.length≤i∧m=s.length+1 - i∧i≤s.length+3∧s.length≤f+i∧uN f (s.drop i) i out=zX s∧lk ρ 0=some (.s s)∧lk ρ 4=some y∧lk ρ 5=some (.i i)) s.length ?_ ?_
 ·refine⟨1,s.length,.sl [] .full,[],.full (.refl _),aea,ad3,ad3,ad3,rfl,?_,?_,?_⟩<;>simp only[go_sem]
 ·rintro m ρ h' ⟨i,f,y,out,hy,hoi,rfl,hi,hf,he,r0,r4,r5⟩
  cases d1:decide ((i:Int)<(s.length:Int))
  ·have hge:s.length≤i:=by grind
   have hd:s.drop i= []:=List.drop_of_length_le hge;have:zX s=([],0):=by rw[←he,hd];cases f<;>rfl
   simp only[go_sem,r0,r5,d1];exact .mk _ (.refl _) hy.1 ⟨by rw[this];rfl,rfl⟩
  have hlt:i<s.length:=ad4;obtain⟨f,rfl⟩:∃g,f=g+1:=⟨f - 1,ad3⟩;have hdr:s.drop i=s[i]::s.drop (i+1):=List.drop_eq_getElem_cons hlt;rw[hdr]at he;simp only[uN]at he;have w1:IntKind.i64.wrap ((i:Int)+1)=((i+1:Nat):Int):=aeg;have w3:IntKind.i64.wrap ((i:Int)+3)=((i+3:Nat):Int):=aeg;simp only[go_sem,r0,r5,d1];refine .at i hlt ?_;cases d2:((s[i].toNat:Int)==34)
  case true=>
   have e2:s[i]=34:=by have:(s[i].toNat:Int)=34:=ad4;exact UInt8.toNat_inj.1 ad4
   rw[if_pos e2]at he;cases d3:decide (64<(out.length:Int))
   case true=>have e3:64<out.length:=ad4;rw[if_pos e3]at he;simp only[go_sem,r4,aN,d2,hy.len,adT,d3];exact ajv
   have e3:¬64<out.length:=ad4;rw[if_neg e3]at he;simp only[go_sem,r4,aN,d2,hy.len,adT,d3];obtain⟨q,rfl⟩:=hy.row;simp only[go_sem,r5,w1];exact ajv
  have e2:s[i]≠34:=by intro e;simp_all
  rw[if_neg e2]at he;simp only[go_sem,r0,r5,aN,d2];refine .at i hlt ?_;simp only[go_sem,aN];refine(EC _ _).pthen ?_;cases d4:GH s[i]
  ·rw[if_pos d4]at he
   simp only[go_sem,r0,r4,r5,d4];refine .at i hlt ?_;simp only[go_sem,aN];refine hy.app (zs:=[aN s[i]]) ad6 ad6 (fun k hk=>hk) (by grind [u5z,nN]) (by rw[u5z];exact nN [s[i]]) (by grind [u5b]) fun y' h2 hy' hk2=>?_
   simp only[go_sem,r5,w1];refine⟨_,?_,i+1,f,y',out++ [s[i]],ad4,ad4,rfl,ad3,ad3,he,?_,?_,?_⟩
   ·omega
   all_goals simp only[go_sem,r0]
  ·rw[if_neg ad4]at he
   simp only[go_sem,r0,r5,d4];refine⟨ad3,?_⟩;simp only[go_sem,Option.isSome_none,Option.isSome_some,mF,Int.toNat_natCast];refine⟨ad3,ad3,?_⟩;refine(SK _ _).mono fun x h2 hx=>?_
   obtain⟨⟨v,rfl,hv⟩,rfl⟩:=hx;rw[←hdr]at he;cases e5:uo (s.drop i)with
   |none=>rw[e5]at he;simp only[go_sem,Option.isSome_none];exact ajv
   |some b=>
    rw[e5]at he;have hvb:=hv b e5;subst hvb;have h3:=Er e5;simp only[List.length_drop]at h3;simp only[go_sem,r4,Option.isSome_some];refine hy.app (zs:=[aN b]) ad6 ad6 (fun k hk=>hk) (by grind [u5z,nN]) (by rw[u5z];exact nN [b]) (by grind [u5b]) fun y' h2 hy' hk2=>?_
    simp only[go_sem,r5,w3];refine⟨_,?_,i+3,f,y',out++ [b],ad4,ad4,rfl,ad3,ad3,?_,?_,?_,?_⟩
    ·omega
    ·simp_all
    all_goals simp only[go_sem,r0]
end Go.Proofs.YtokahfmoollblaaGreatDoor
namespace Go.Bf
open Go Go.Ab
theorem HJ(c:UInt8):dgt c=true↔48≤c.toNat∧c.toNat≤57:=by simp only[dgt,Bool.and_eq_true,decide_eq_true_eq];omega
def Jh(acc:Nat)(l:Txt):Nat:=l.foldl (fun n c=>n*10+(c.toNat - 48)) acc
theorem A4(acc:Nat)(c:UInt8)(r:Txt):Jh acc (c::r)=Jh (acc*10+(c.toNat - 48)) r:=List.foldl_cons ..
theorem Du:∀(l:Txt) (acc:Nat),acc≤Jh acc l
 | [],acc=>Nat.le_refl _
 |c::r,acc=>by rw[A4];exact Nat.le_trans ad3 (Du r (acc*10+(c.toNat - 48)))
theorem uw:∀(l:Txt) (acc:Nat),(∀c∈l,dgt c=true)→acc<18446744073709551616→
  Lib.parseUint10 acc l=if Jh acc l<18446744073709551616 then .ok (Jh acc l)else .range
 | [],acc,_,ha=>by have:Jh acc []=acc:=rfl;rw[this,if_pos ha];rfl
 |c::r,acc,hd,ha=>by
  have hc:=(HJ c).1 (hd c aea);have hm:=Du r (acc*10+(c.toNat - 48));rw[A4];unfold Lib.parseUint10;rw[if_pos hc];split
  ·rw[if_neg ad3]
  ·split
   ·rw[if_neg ad3]
   ·exact uw r _ ad4 ad3
def qE(neg:Bool):Txt:=if neg then [45]else []
theorem wg(neg:Bool)(d:Txt)(h0:d≠ [])(hd:∀c∈d,dgt c=true):
  Lib.atoiAll (qE neg++d)=if -9223372036854775808≤(if neg then -(qG d:Int)else(qG d:Int))∧(if neg then -(qG d:Int)else(qG d:Int))≤9223372036854775807 then .ok (if neg then -(qG d:Int)else(qG d:Int))else .range:=by
 have hp:Lib.parseMag d=if qG d<18446744073709551616 then .ok (qG d)else .range:=by unfold Lib.parseMag;rw[if_neg h0];exact uw d 0 hd ad6
 cases neg
 ·obtain⟨c,r,rfl⟩:=List.exists_cons_of_ne_nil h0
  have hc:=(HJ c).1 (hd c aea);simp only[qE,Bool.false_eq_true,if_false,List.nil_append,Lib.atoiAll];rw[if_neg ad3,hp];have e45:(c.toNat=45)=False:=ad4;simp only[e45,not_false_eq_true,true_and,false_and,if_false];split
  ·rename_i h;split at h
   ·cases h
   ·cases h
  ·rename_i h;split at h
   ·cases h
   ·rw[if_neg ad3]
  ·rename_i u h;split at h
   ·cases h
    split
    ·rw[if_neg ad3]
    ·rw[if_pos ad3]
   ·cases h
 ·simp only[qE,if_true,List.cons_append,List.nil_append,Lib.atoiAll]
  rw[if_pos (.inr ad6),hp];simp only[show((45:UInt8).toNat=45)=True by simp,not_true_eq_false,false_and,if_false,true_and,if_true]
  split
  ·rename_i h;split at h
   ·cases h
   ·cases h
  ·rename_i h;split at h
   ·cases h
   ·rw[if_neg ad3]
  ·rename_i u h;split at h
   ·cases h
    split
    ·rw[if_neg ad3]
    ·rw[if_pos ad3]
   ·cases h
theorem AK(s:Txt):∀c∈s.takeWhile dgt,dgt c=true:=fun c hc=>by
 induction s with
 |nil=>cases hc
 |cons x r ih=>
  simp only[List.takeWhile_cons]at hc
  grind
end Go.Bf
namespace Go.Proofs
open Go.Shelf
def Tryz.Ee:Go.Shelf.Ren:=⟨fun|137=>189|217=>235|266=>268|n=>n,fun|9=>9|5=>5|3=>3|n=>n,fun|n=>n⟩
theorem Tryz.Pa:Go.Proofs.Lays.n137 Tryz.prog Tryz.Ee:={
 mixed:=aei
 f137:=Tryz.func189.trans aei
 f217:=Tryz.func235.trans aei
 f266:=Tryz.func268.trans aei
 t3:=Tryz.underlying3
 a3:=Tryz.isAgg3
 z3:=Tryz.sizeOf3
 v3:=Tryz.zeroValue3
 t5:=Tryz.underlying5
 a5:=Tryz.isAgg5
 z5:=Tryz.sizeOf5
 v5:=Tryz.zeroValue5
 t9:=Tryz.underlying9
 a9:=Tryz.isAgg9
 z9:=Tryz.sizeOf9
 v9:=Tryz.zeroValue9}
open Go.RowKit in
theorem Tryz.strings_IndexByte(s:ByteArray)(c:Int)(w:World):
  Calls Tryz.prog 189 #[.string s,.int .u8 c] w fun e w' =>e= .returned (.int .i64 (Lib.indexByte s.data.toList c.toNat.toUInt8))∧w' =w:=Any.strings_IndexByte Tryz.Pa s c w
def Tryz.CA:Go.Shelf.Ren:=⟨fun|172=>88|244=>146|245=>147|247=>199|279=>200|280=>201|281=>202|282=>203|287=>245|316=>246|171=>53|205=>247|321=>274|322=>275|243=>120|246=>168|283=>220|284=>221|285=>222|286=>223|129=>261|317=>260|318=>262|319=>263|320=>264|337=>289|338=>290|n=>n,fun|9=>9|3=>3|75=>169|76=>170|4=>4|5=>5|167=>285|37=>82|0=>0|85=>286|2=>2|168=>288|53=>76|175=>325|46=>223|210=>328|127=>312|145=>367|143=>365|21=>21|171=>307|173=>310|212=>346|51=>152|20=>20|213=>347|232=>399|233=>400|80=>229|n=>n,fun|15=>1|16=>2|17=>3|18=>4|19=>5|n=>n⟩
theorem Tryz.Ef:Go.Proofs.LaysC.n172 Tryz.prog Tryz.CA:={
 mixed:=aei
 f129:=Tryz.func261.trans aei
 f171:=Tryz.func53.trans aei
 f172:=Tryz.func88.trans aei
 f205:=Tryz.func247.trans aei
 f243:=Tryz.func120.trans aei
 f244:=Tryz.func146.trans aei
 f245:=Tryz.func147.trans aei
 f246:=Tryz.func168.trans aei
 f247:=Tryz.func199.trans aei
 f279:=Tryz.func200.trans aei
 f280:=Tryz.func201.trans aei
 f281:=Tryz.func202.trans aei
 f282:=Tryz.func203.trans aei
 f283:=Tryz.func220.trans aei
 f284:=Tryz.func221.trans aei
 f285:=Tryz.func222.trans aei
 f286:=Tryz.func223.trans aei
 f287:=Tryz.func245.trans aei
 f316:=Tryz.func246.trans aei
 f317:=Tryz.func260.trans aei
 f318:=Tryz.func262.trans aei
 f319:=Tryz.func263.trans aei
 f320:=Tryz.func264.trans aei
 f321:=Tryz.func274.trans aei
 f322:=Tryz.func275.trans aei
 f337:=Tryz.func289.trans aei
 f338:=Tryz.func290.trans aei
 t0:=Tryz.underlying0
 a0:=Tryz.isAgg0
 z0:=Tryz.sizeOf0
 v0:=Tryz.zeroValue0
 t2:=Tryz.underlying2
 a2:=Tryz.isAgg2
 z2:=Tryz.sizeOf2
 v2:=Tryz.zeroValue2
 t3:=Tryz.underlying3
 a3:=Tryz.isAgg3
 z3:=Tryz.sizeOf3
 v3:=Tryz.zeroValue3
 t4:=Tryz.underlying4
 a4:=Tryz.isAgg4
 z4:=Tryz.sizeOf4
 v4:=Tryz.zeroValue4
 t5:=Tryz.underlying5
 a5:=Tryz.isAgg5
 z5:=Tryz.sizeOf5
 v5:=Tryz.zeroValue5
 t9:=Tryz.underlying9
 a9:=Tryz.isAgg9
 z9:=Tryz.sizeOf9
 v9:=Tryz.zeroValue9
 t20:=Tryz.underlying20
 a20:=Tryz.isAgg20
 z20:=Tryz.sizeOf20
 v20:=Tryz.zeroValue20
 t21:=Tryz.underlying21
 a21:=Tryz.isAgg21
 z21:=Tryz.sizeOf21
 v21:=Tryz.zeroValue21
 t37:=Tryz.underlying82
 a37:=Tryz.isAgg82
 z37:=Tryz.sizeOf82
 v37:=Tryz.zeroValue82
 t46:=Tryz.underlying223
 a46:=Tryz.isAgg223
 z46:=Tryz.sizeOf223
 v46:=Tryz.zeroValue223
 t51:=Tryz.underlying152
 a51:=Tryz.isAgg152
 z51:=Tryz.sizeOf152
 v51:=Tryz.zeroValue152
 t53:=Tryz.underlying76
 a53:=Tryz.isAgg76
 z53:=Tryz.sizeOf76
 v53:=Tryz.zeroValue76
 t75:=Tryz.underlying169
 a75:=Tryz.isAgg169
 z75:=Tryz.sizeOf169
 v75:=Tryz.zeroValue169
 t76:=Tryz.underlying170
 a76:=Tryz.isAgg170
 z76:=Tryz.sizeOf170
 v76:=Tryz.zeroValue170
 t85:=Tryz.underlying286
 a85:=Tryz.isAgg286
 z85:=Tryz.sizeOf286
 v85:=Tryz.zeroValue286
 t127:=Tryz.underlying312
 a127:=Tryz.isAgg312
 z127:=Tryz.sizeOf312
 v127:=Tryz.zeroValue312
 t143:=Tryz.underlying365
 a143:=Tryz.isAgg365
 z143:=Tryz.sizeOf365
 v143:=Tryz.zeroValue365
 t145:=Tryz.underlying367
 a145:=Tryz.isAgg367
 z145:=Tryz.sizeOf367
 v145:=Tryz.zeroValue367
 t167:=Tryz.underlying285
 a167:=Tryz.isAgg285
 z167:=Tryz.sizeOf285
 v167:=Tryz.zeroValue285
 t168:=Tryz.underlying288
 a168:=Tryz.isAgg288
 z168:=Tryz.sizeOf288
 v168:=Tryz.zeroValue288
 t171:=Tryz.underlying307
 a171:=Tryz.isAgg307
 z171:=Tryz.sizeOf307
 v171:=Tryz.zeroValue307
 t173:=Tryz.underlying310
 a173:=Tryz.isAgg310
 z173:=Tryz.sizeOf310
 v173:=Tryz.zeroValue310
 t175:=Tryz.underlying325
 a175:=Tryz.isAgg325
 z175:=Tryz.sizeOf325
 v175:=Tryz.zeroValue325
 t210:=Tryz.underlying328
 a210:=Tryz.isAgg328
 z210:=Tryz.sizeOf328
 v210:=Tryz.zeroValue328
 t212:=Tryz.underlying346
 a212:=Tryz.isAgg346
 z212:=Tryz.sizeOf346
 v212:=Tryz.zeroValue346
 t213:=Tryz.underlying347
 a213:=Tryz.isAgg347
 z213:=Tryz.sizeOf347
 t232:=Tryz.underlying399
 a232:=Tryz.isAgg399
 z232:=Tryz.sizeOf399
 v232:=Tryz.zeroValue399
 t233:=Tryz.underlying400
 a233:=Tryz.isAgg400
 z233:=Tryz.sizeOf400
 v233:=Tryz.zeroValue400
 g15:=ad7
 g16:=ad7
 g17:=ad7
 g18:=ad7
 g19:=ad7
 t80:=Tryz.underlying229
 a80:=Tryz.isAgg229
 z80:=Tryz.sizeOf229
 v80:=Tryz.zeroValue229
 i0:=ad7
 i2:=ad7
 i3:=ad7
 i4:=ad7
 i5:=ad7
 i9:=ad7
 i20:=ad7
 i21:=ad7
 i37:=ad7
 i46:=ad7
 i51:=ad7
 i53:=ad7
 i75:=ad7
 i76:=ad7
 i80:=ad7
 i85:=ad7
 i127:=ad7
 i143:=ad7
 i145:=ad7
 i167:=ad7
 i168:=ad7
 i171:=ad7
 i173:=ad7
 i175:=ad7
 i210:=ad7
 i212:=ad7
 i232:=ad7
 i233:=ad7
 m15:=aei
 m16:=aei
 m17:=aei
 m18:=aei
 m19:=aei
 c0:=ad7
 c2:=ad7
 c3:=ad7
 c4:=ad7
 c5:=ad7
 c9:=ad7
 c20:=ad7
 c21:=ad7
 c37:=ad7
 c46:=ad7
 c51:=ad7
 c53:=ad7
 c75:=ad7
 c76:=ad7
 c80:=ad7
 c85:=ad7
 c127:=ad7
 c143:=ad7
 c145:=ad7
 c167:=ad7
 c168:=ad7
 c171:=ad7
 c173:=ad7
 c175:=ad7
 c210:=ad7
 c212:=ad7
 c213:=ad7
 c232:=ad7
 c233:=ad7}
open Go.RowKit in
theorem Tryz.strconv_Atoi_ok(s:ByteArray)(hmax:s.size≤9223372036854775806)(v:Int)(h:Lib.atoiAll s.data.toList= .ok v)(w:World):
  Calls Tryz.prog 88 #[.string s] w fun e w' =>e= .returned (.tuple #[.int .i64 v,.nilIface])∧(w' =w∨∃t,w' =Lib.bytesWorld w 5 t):=Any.strconv_Atoi_ok Tryz.Ef s hmax v h w
open Go.RowKit in
theorem Tryz.strconv_Atoi_range(s:ByteArray)(hlim:s.size≤281474976710656)(h:Lib.atoiAll s.data.toList= .range)(ev:Value)(w:World)(hv:w.cell? ⟨2,0,none⟩=some ev)(hev:ev= .nilIface∨∃te pe,ev= .iface te pe):
  Calls Tryz.prog 88 #[.string s] w fun e w' =>∃N,e= .returned (.tuple #[.int .i64 (Lib.atoiSat s.data.toList),.iface 288 (.pointer (some ⟨N,0,none⟩))])∧w.heap.size≤N∧w'.heap[N]? =some (.cells #[.string ⟨#[65,116,111,105]⟩,.string s,ev] 328 (0,0))∧Below w.heap.size w w' :=Any.strconv_Atoi_range Tryz.Ef s hlim h ev w hv hev
end Go.Proofs
namespace Go.Proofs.YtokahfmoollblaaGreatDoor
open Go Go.Ab Go.Bf Go.RowKit Tryz
theorem Kv(s:Txt)(hs:s.length≤100000)(w:World):Calls prog 231 #[.string ⟨s.toArray⟩,.func (.func 186) #[] #[]] w fun e w' =>e= .returned (.int .i64 (s.takeWhile dgt).length)∧Below w.heap.size w w' :=by
 refine Go.Ab.ai.calls (args:=[.s s,.fn 186 []]) ⟨_,func231,aei,rfl⟩ ((NC _ _ nj s cX).mono fun _ _ h=>h.1) rfl (fun i hi=>?_)
 rcases i with _|_|i
 ·exact .s s (by grind [lim,Nat])
 ·exact .fn _ [] #[] rfl (fun i hi=>by cases hi)
 ·simp at hi;omega
def AM(neg:Bool)(d:Txt):Int:=if neg then -(qG d:Int)else(qG d:Int)
def inI(neg:Bool)(d:Txt):Prop:= -9223372036854775808≤(if neg then -(qG d:Int)else(qG d:Int))∧(if neg then -(qG d:Int)else(qG d:Int))≤9223372036854775807
instance (neg:Bool) (d:Txt):Decidable (inI neg d):=inferInstanceAs (Decidable (_∧_))
theorem zP(neg:Bool):(qE neg).length≤1:=by cases neg<;>decide
theorem HE(neg:Bool)(d:Txt)(h0:d≠ [])(hd:∀c∈d,dgt c=true)(hlen:d.length≤10000)(S:ByteArray)(hS:S=⟨(qE neg++d).toArray⟩)(hr:inI neg d)(W:World):
  Calls prog 88 #[.string S] W fun e w' =>e= .returned (.tuple #[.int .i64 (AM neg d),.nilIface])∧Below W.heap.size W w' :=by
 have hl:=zP neg;have hsz:S.size≤10001:=by grind [ByteArray.size]
 have ha:Lib.atoiAll S.data.toList= .ok (AM neg d):=by rw[hS];rw[wg neg d h0 hd];exact if_pos hr
 refine(Tryz.strconv_Atoi_ok S ad3 _ ha W).mono ?_
 rintro e w' ⟨rfl,rfl|⟨t,rfl⟩⟩
 ·exact⟨rfl,.refl _ _⟩
 ·exact⟨rfl,Lib.bytesWorld_below W _ t⟩
theorem De(neg:Bool)(d:Txt)(h0:d≠ [])(hd:∀c∈d,dgt c=true)(hlen:d.length≤10000)(S:ByteArray)(hS:S=⟨(qE neg++d).toArray⟩)(hr:¬inI neg d)(W:World)(ev:Value)(hv:W.cell? ⟨2,0,none⟩=some ev)(hev:ev= .nilIface∨∃te pe,ev= .iface te pe):
  Calls prog 88 #[.string S] W fun e w' =>(∃(x:Int) (N:Nat),e= .returned (.tuple #[.int .i64 x,.iface 288 (.pointer (some ⟨N,0,none⟩))]))∧Below W.heap.size W w' :=by
 have hl:=zP neg;have hsz:S.size≤10001:=by grind [ByteArray.size]
 have ha:Lib.atoiAll S.data.toList= .range:=by rw[hS];rw[wg neg d h0 hd];exact if_neg hr
 refine(Tryz.strconv_Atoi_range S ad3 ha ev W hv hev).mono ?_
 grind
set_option maxHeartbeats 1000000 in
theorem Ep(neg:Bool)(s:Txt)(hs:s.length≤10000)(w:World)(ev:Value)(hv:w.cell? ⟨2,0,none⟩=some ev)(hev:ev= .nilIface∨∃te pe,ev= .iface te pe)(hg:2<w.heap.size):
  Calls prog 187 #[.string ⟨(qE neg).toArray⟩,.string ⟨s.toArray⟩] w fun e w' =>e= .returned (.tuple #[.int .i64 (fl neg s).1,.int .i64 ((fl neg s).2:Nat)])∧Below w.heap.size w w' :=by
 have hle:=kM dgt s;obtain⟨d,ed⟩:∃d,s.takeWhile dgt=d:=⟨_,rfl⟩;have htk:s.take d.length=d:=by grind [rQ]
 have hrun:=Kv s ad3 w;have hall:=AK s;rw[ed]at hrun hle hall
 go_enter func187,Tryz.ntmps187
 by_cases h0:d.length=0
 ·have e0:d= []:=by grind
  have en:fl neg s=(0,0):=by simp_all [fl,if_pos]
  go_wp2_with (go_at_call 231;refine hrun.mono ?_)
  rintro e W0 ⟨rfl,b0⟩
  rw[h0]
  go_wp2
  go_ret2
  simp_all
 ·have e0:d≠ []:=by grind
  go_wp2_with (go_at_call 231;refine hrun.mono ?_)
  rintro e W0 ⟨rfl,b0⟩
  have hpos:0<d.length:=ad3;have hs0:0<s.length:=ad3;have hsz:0<(⟨s.toArray⟩:ByteArray).size:=by grind [ByteArray.size]
  have hg0:(⟨s.toArray⟩:ByteArray)[0]=s[0]:=rfl;have hgn:∀x:UInt8,(s.head? =some x)↔s[0]=x:=fun x=>by rw[List.head?_eq_getElem?,List.getElem?_eq_getElem hs0];simp
  cases d0:((d.length:Int)==0)
  case true=>exact absurd ad4 h0
  have hS:(⟨(qE neg).toArray⟩:ByteArray)++(⟨s.toArray⟩:ByteArray).extract 0 d.length=⟨(qE neg++d).toArray⟩:=by
   apply ByteArray.ext
   simp_all
  have hcat:¬9223372036854775807<List.length (qE neg)+d.length:=by grind [zP]
  cases d1:decide (1<(d.length:Int))
  ·have f1:¬1<d.length:=by grind
   have en:fl neg s=if inI neg d then(AM neg d,d.length)else(0,0):=by unfold fl;rw[ed,if_neg ad4];rfl
   have hv0:W0.cell? ⟨2,0,none⟩=some ev:=by rw[b0.cell hg];omega
   by_cases hr:inI neg d
   ·rw[if_pos hr]at en
    go_wp2_with (go_at_call 88;refine(HE neg d e0 hall ad3 _ aei hr _).mono ?_)
    rintro e W1 ⟨rfl,b1⟩
    go_wp2
    go_ret2
    rw[en];exact afN
   ·rw[if_neg hr]at en
    go_wp2_with (go_at_call 88;refine(De neg d e0 hall ad3 _ aei hr _ ev hv0 hev).mono ?_)
    rintro e W1 ⟨⟨x,N,rfl⟩,b1⟩
    go_wp2
    go_ret2
    rw[en];exact afN
  ·have f1:1<d.length:=by grind
   cases d2:((s[0].toNat:Int)==48)
   ·have f2:s.head?≠some 48:=by rw[ne_eq,hgn];intro e;simp_all
    have en:fl neg s=if inI neg d then(AM neg d,d.length)else(0,0):=by unfold fl;rw[ed,if_neg ad4];rfl
    have hv0:W0.cell? ⟨2,0,none⟩=some ev:=by rw[b0.cell hg];omega
    by_cases hr:inI neg d
    ·rw[if_pos hr]at en
     go_wp2_with (go_at_call 88;refine(HE neg d e0 hall ad3 _ aei hr _).mono ?_)
     rintro e W1 ⟨rfl,b1⟩
     go_wp2
     go_ret2
     rw[en];exact afN
    ·rw[if_neg hr]at en
     go_wp2_with (go_at_call 88;refine(De neg d e0 hall ad3 _ aei hr _ ev hv0 hev).mono ?_)
     rintro e W1 ⟨⟨x,N,rfl⟩,b1⟩
     go_wp2
     go_ret2
     rw[en];exact afN
   ·have f2:s.head? =some 48:=by rw[hgn];have:(s[0].toNat:Int)=48:=ad4;exact UInt8.toNat_inj.1 ad4
    have en:fl neg s=(0,0):=by simp_all [fl,if_pos]
    go_wp2
    go_ret2
    simp_all
def kP(h:Heap):Prop:=∃ev:Value,(ev= .nilIface∨∃te pe,ev= .iface te pe)∧Tab h 2 [ev]
theorem kP.sub{h h' :Heap}(he:kP h)(hs:Ab.Sub h h'):kP h' :=by obtain⟨ev,h1,h2⟩:=he;exact⟨ev,h1,h2.sub hs⟩
theorem mR(neg:Bool)(s:Txt)(hs:s.length≤10000)(h:Heap)(he:kP h):ai prog 187 [.s (qE neg),.s s] h fun r h' =>r= .tup [.v (.int .i64 (fl neg s).1),.i ((fl neg s).2:Nat)]∧h' =h:=by
 obtain⟨ev,hev,id,hi⟩:=he;refine .lib ⟨_,func187,aei,rfl⟩ fun c vs hs' g h1 h2=>?_
 obtain⟨u,v,rfl⟩:∃u v,vs= #[u,v]:=by
  match vs,h1 with
  |⟨[u,v]⟩,_=>exact⟨u,v,rfl⟩
 have e1:u= .string ⟨(qE neg).toArray⟩:=((h2 0 aea).nY).1;have e2:v= .string ⟨s.toArray⟩:=((h2 1 aea).nY).1;subst e1;subst e2
 obtain⟨_,t,fr,hh⟩:=g.ro id _ _ (hs' _ _ hi);have hc:c.w.cell? ⟨2,0,none⟩=some ev:=by grind [World.cell?]
 refine(Ep neg s hs c.w ev hc hev (dj hh)).mono ?_
 rintro e w' ⟨rfl,hb⟩
 refine⟨⟨_,rfl,fun c' _=>?_⟩,hb⟩
 refine .tup _ _ rfl fun i hi=>?_
 rcases i with _|_|i
 ·exact agh
 ·exact agh
 ·simp at hi;omega
end Go.Proofs.YtokahfmoollblaaGreatDoor
namespace Go.Bf
open Go Go.Ab
def marks:Txt:=[123,125,40,41,46,44,59,61,60,62,33]
theorem Au:∀n:Fin 256,decide (0≤Lib.indexByte marks (UInt8.ofNat n.val))=Ek (UInt8.ofNat n.val):=ad6
theorem rW(c:UInt8):decide (0≤Lib.indexByte marks c)=Ek c:=by have:=Au ⟨c.toNat,c.toNat_lt⟩;simpa using this
end Go.Bf
namespace Go.Proofs.YtokahfmoollblaaGreatDoor
open Go Go.Ab Go.Bf Tryz
variable {f:FuncId}{args xs:List AV}{st st':PS}{R y:AV}{h G B H K a h':Heap}{Q:AV→Heap→Prop}{j idw mid nr nk d:Nat}{e:TypeId}{l:List aO}{ex:ExF}{S:List Nat}{m m1:eN}{s:Txt}{alg:Int}{tgt:gj}{obls:List cE}{rules:List cS}{kids:List bF}
theorem D6(l:Txt)(c:UInt8)(h:Heap):ai prog 189 [.s l,.v (.int .u8 c.toNat)] h fun r h' =>r= .i (Lib.indexByte l c)∧h' =h:=by
 refine .lib ⟨_,func189,aei,rfl⟩ fun cx vs hs' g h1 h2=>?_
 obtain⟨u,v,rfl⟩:∃u v,vs= #[u,v]:=by
  match vs,h1 with
  |⟨[u,v]⟩,_=>exact⟨u,v,rfl⟩
 have e1:u= .string ⟨l.toArray⟩:=((h2 0 aea).nY).1;have e2:v= .int .u8 c.toNat:=(h2 1 aea).bZ;subst e1;subst e2
 refine(Tryz.strings_IndexByte ⟨l.toArray⟩ c.toNat cx.w).mono ?_
 rintro e w' ⟨rfl,rfl⟩
 refine⟨⟨_,rfl,fun c' _=>?_⟩,.refl _ _⟩
 have:((c.toNat:Int).toNat).toUInt8=c:=aea;rw[this];exact agh
theorem I4(s:Txt)(h0:s≠ [])(hs:s.length≤4096)(h:Heap)(he:kP h):ai prog 136 [.s s] h fun r h' =>r= .tup [fR (bV s).1,.i ((bV s).2:Nat)]∧h' =h:=by
 refine ad2 func136 106 [.cell 2 162,.tmp 3] fun hwf=>?_
 obtain⟨c,r,rfl⟩:=List.exists_cons_of_ne_nil h0;have hsl:r.length≤4095:=by simpa using hs
 simp only[go_sem];intro i2 hi2;simp only[go_sem];intro i4 hi4;have n24:=aF hi4;have g2:∀(f:Heap) (x:Option Blk),upd f i4 x i2=f i2:=fun f x=>ag f x n24.symm
 have g4:∀(f:Heap) (x:Option Blk),upd f i2 x i4=f i4:=fun f x=>ag f x n24
 have hsub:Ab.Sub h (upd (upd h i2 (some (.obj [.i 0,.i 0,.i 0,.s []] 162))) i4 (some (.obj [.i 0,.i 0,.i 0,.s []] 162))):=(Sub.ak hi2).trans (.ak hi4);have he2:=he.sub hsub;have hi4h:h i4=none:=by rw[ag _ _ n24]at hi4;exact hi4
 simp only[go_sem];refine .at 0 aea ?_;cases la:decide (97≤(c.toNat:Int))
 ·have hl:ltr c=false:=by simp only[ltr,la,Bool.false_and]
  simp only[go_sem,aN,List.getElem_cons_zero,la];exact aib
 ·cases lb:decide ((c.toNat:Int)≤122)
  ·have hl:ltr c=false:=by simp only[ltr,lb,Bool.and_false]
   simp only[go_sem,aN,List.getElem_cons_zero,la,lb];exact aib
  ·have hl:ltr c=true:=by simp only[ltr,la,lb];rfl
   simp only[go_sem,aN,List.getElem_cons_zero,la,lb];refine(zn _ _).pthen ?_;simp only[go_sem,g2,ah];exact .mk _ (.refl _) ad5 ⟨by simp[bV,hl,fR,au],rfl⟩
theorem P7:(U 162).sz=4:=aei
theorem Wh:(U 162).bytes=40:=aei
theorem qu(l:List so):Sized 4 (l.map fR):=fun z hz=>by obtain⟨c,_,rfl⟩:=List.mem_map.1 hz;rfl
def Ph:Lexed→AV
 |.bad e a=> .tup [.sl [] .no,.i e,.i a]
 |.ok l=> .tup [.sl (l.map fR) .no,.i 0,.i 0]
def Lb(s:Txt)(h:Heap)(m:Nat)(ρ:Env)(h' :Heap):Prop:=
 ∃(i f:Nat) (y:AV) (out:List so) (id:Nat),Acc U 162 h h' y (out.map fR)∧out.length≤i∧i≤s.length∧m=s.length - i∧s.length<f+i∧s.length≤4096∧h id=none∧(∃c0 c1 c2 c3,h' id=some (.obj [c0,c1,c2,c3] 162))∧uk f (s.drop i) i out=sX s∧lk ρ 0=some (.s s)∧lk ρ 5=some y∧lk ρ 6=some (.ptr id 0)∧lk ρ 7=some (.i i)
theorem FA(s:Txt)(h:Heap)(he:kP h):ai prog 79 [.s s] h fun r h' =>r=Ph (sX s)∧h' =h:=by
 refine ai.of_wp hU func79 rfl aei 52 rfl [.tmp 2,.tmp 3,.tmp 4] rfl (adS rfl) ?_;refine .one hU hm ?_;simp only[go_sem];refine WP.ND hU hm 0 (Lb s h) rfl ?_ ?_
 ·rintro m ρ h' ⟨i,f,y,out,id,hy,hoi,hi,rfl,hf,hs,hid,⟨c0,c1,c2,c3,hob⟩,hl,r0,r5,r6,r7⟩
  refine .vc hU hm ?_;cases d1:((i:Int)==(s.length:Int))
  case true=>
   have e1:i=s.length:=ad4;subst e1;obtain⟨f,rfl⟩:∃g,f=g+1:=⟨f - 1,ad3⟩;rw[List.drop_length]at hl;simp only[uk]at hl;simp only[go_sem,r0,r5,r7,d1];refine hy.app (zs:=[fR ⟨7,s.length,0,[]⟩]) ad6 ad6 (fun k hk=>hk) (by grind [P7,qu]) (by rw[P7];exact qu [⟨7,s.length,0,[]⟩]) (by grind [Wh]) fun y' h2 hy' hk2=>?_
   simp only[go_sem];obtain⟨q,rfl⟩:=hy'.row;refine .mk _ (BZ _ _ _ _) hy'.1 ⟨?_,rfl⟩
   grind [Ph]
  have e1:i≠s.length:=ad4;have hlt:i<s.length:=ad3;obtain⟨f,rfl⟩:∃g,f=g+1:=⟨f - 1,ad3⟩;have hdr:s.drop i=s[i]::s.drop (i+1):=aea;have w1:IntKind.i64.wrap ((i:Int)+1)=((i+1:Nat):Int):=aeg;have hl2:=hl;rw[hdr]at hl2;simp only[uk]at hl2;rw[←hdr]at hl2;have blank:qR s[i]=true→∃m',m' <s.length - i∧True:=fun _=>⟨s.length - (i+1),ad3,trivial⟩
  cases d2:((s[i].toNat:Int)==32)
  case true=>
   have hb:qR s[i]=true:=by simp only[qR,d2,Bool.true_or]
   rw[if_pos hb]at hl2;simp only[go_sem,r0,r7,d1];refine .at i hlt ?_;simp only[go_sem,r7,aN,d2,w1];exact ai5
  cases d3:((s[i].toNat:Int)==10)
  case true=>
   have hb:qR s[i]=true:=by simp only[qR,d3,Bool.or_true]
   rw[if_pos hb]at hl2;simp only[go_sem,r0,r7,d1];refine .at i hlt ?_;simp only[go_sem,r0,r7,aN,d2];refine .at i hlt ?_;simp only[go_sem,r7,aN,d3,w1];exact ai5
  have hb:¬qR s[i]=true:=by grind [qR]
  rw[if_neg hb]at hl2;have hne:s.drop i≠ []:=fun e=>by have:=congrArg List.length e;simp at this;omega
  have hle:=sN (s.drop i) hne;have hdl:(s.drop i).length=s.length - i:=aea;have hbo:=fun hh eh=>I4 (s.drop i) hne ad3 hh eh
  obtain⟨t,n,etn⟩:∃t n,bV (s.drop i)=(t,n):=⟨_,_,rfl⟩;rw[etn]at hbo hl2 hle;simp only[fR]at hbo hl2 hle;simp only[go_sem,r0,r7,d1];refine .at i hlt ?_;simp only[go_sem,r0,r7,aN,d2];refine .at i hlt ?_;simp only[go_sem,r0,r7,aN,d3,mF,Option.isSome_none,Option.isSome_some,Int.toNat_natCast];refine⟨ad3,ad3,ad3,?_⟩;refine(hbo _ (he.sub hy.1)).pthen ?_;cases d4:((n:Int)==0)
  case true=>have e4:n=0:=ad4;rw[if_pos e4]at hl2;simp only[go_sem,r6,r7,hob,d4];refine .mk _ (BZ _ _ _ _) (hy.1.put hid _) ⟨?_,rfl⟩;rw[←hl2];rfl
  have e4:n≠0:=ad4;rw[if_neg e4]at hl2;have w2:IntKind.i64.wrap ((i:Int)+(n:Int))=((i+n:Nat):Int):=aeg;simp only[go_sem,r5,r6,r7,hob,d4];refine(hy.put hid hob _).app (zs:=[fR {t with pos:=i}]) ad6 ad6 (fun k hk=>hk) (by grind [P7,qu]) (by rw[P7];exact qu [{t with pos:=i}]) (by grind [Wh]) fun y' h2 hy' hk2=>?_
  simp only[go_sem,r7,w2];refine⟨s.length - (i+n),ad3,i+n,f,y',out++ [{t with pos:=i}],id,ad4,ad4,ad3,rfl,ad3,hs,hid,⟨_,_,_,_,hk2 _ _ _ (ah ..)⟩,?_,?_,?_,?_,?_⟩
  ·grind [List.drop_drop]
  all_goals simp only[go_sem,r0,r6]
 ·intro nx
  cases d0:decide (4096<(s.length:Int))
  case true=>have e0:s.length>4096:=ad4;refine .one hU hm ?_;simp only[go_sem,d0];exact .mk (.tup [.sl [] .no,.i 6,.i 4096]) (fH (.tup [.sl [] .full,.i 6,.i 4096])) (.refl _) ⟨by rw[sX,if_pos e0];rfl,rfl⟩
  have e0:¬s.length>4096:=ad4;refine .one hU hm ?_;simp only[go_sem,d0];refine .one hU hm ?_;simp only[go_sem];refine .one hU hm ?_;simp only[go_sem];intro id hid;simp only[go_sem];refine .one hU hm ?_;simp only[go_sem];refine .one hU hm ?_;simp only[go_sem];refine nx (s.length - 0) _ _ ⟨0,s.length+1,_,[],id,.full (.ak hid),aea,ad3,rfl,ad3,ad3,hid,⟨_,_,_,_,ah ..⟩,by simp_all [sX,if_neg],?_,?_,?_,?_⟩<;>simp only[go_sem]
def PO(st:PS):Blk:=.obj [.sl (st.ts.map fR) .no,.i st.pos,.i st.rules,.i st.bad,.i st.place] 159
def PC(f:FuncId)(args:List AV)(st:PS)(R:AV)(st' :PS):Prop:=∀(h:Heap) (id:Nat),h id=some (PO st)→ai prog f (.ptr id 0::args) h fun r h' =>r=R∧h' =upd h id (some (PO st'))
theorem PC.go(hc:PC f args st R st'){id:Nat}(hid:h id=some (PO st))(k:Q R (upd h id (some (PO st')))):ai prog f (.ptr id 0::args) h Q:=
 (hc h id hid).mono fun r h' ⟨e1,e2⟩=>agD
theorem bL{id:Nat}{b:Option Blk}(e:h id=b):upd h id b=h:=by grind [ah,ag]
theorem rU(st:PS)(e p:Int):PC 84 [.i e,.i p] st (.tup []) (bM st e p):=fun h id hid=>by
 refine ad2 func84 19 [] fun hwf=>?_
 have g:=hid;unfold PO at g;cases d1:(st.bad==0)
 ·have e1:st.bad≠0:=by grind
  simp only[go_sem,g,d1];exact .mk _ (.refl _) (.refl _) ⟨rfl,by rw[bM,if_neg e1,bL hid]⟩
 ·have e1:st.bad=0:=by grind
  simp only[go_sem,g,d1];exact .mk _ (.refl _) (.refl _) ⟨rfl,by rw[bM,if_pos e1];rfl⟩
theorem mI(st:PS)(hw:WfP st):PC 81 [] st (fR (aM st)) st:=fun h id hid=>by
 refine ad2 func81 13 [.cell 2 162] fun hwf=>?_
 have g:=hid;unfold PO at g;simp only[go_sem];intro i2 hi2;have n2:id≠i2:=fun e=>ad4
 simp only[go_sem,g,aj,n2];refine⟨.of ad7,?_⟩;refine .at st.pos (by simpa using hw.1) aec ?_
 simp only[go_sem,adU,fR];refine .mk _ (.refl _) (.ak hi2) ⟨by rw[D4 hw.1];rfl,(bL hid).symm⟩
theorem lY(st:PS)(hw:WfP st):PC 82 [] st (.tup []) (br st):=fun h id hid=>by
 refine ad2 func82 7 [] fun hwf=>?_
 simp only[go_sem];refine(mI st hw).go hid ?_;rw[bL hid];simp only[go_sem,fR];refine(rU st 5 _).go hid ?_;exact aiM
theorem cV(st:PS)(b:Bool)(hw:WfP st):PC 193 [.b b] st (.tup []) (bJ st b):=fun h id hid=>by
 refine ad2 func193 10 [] fun hwf=>?_
 cases b
 ·simp only[go_sem]
  exact agJ
 simp only[go_sem];refine(mI st hw).go hid ?_;rw[bL hid];simp only[go_sem,fR];refine(rU st 6 _).go hid ?_;exact aiM
theorem uh(st:PS)(s:Txt)(hw:WfP st):PC 194 [.s s] st (.b (isD st s)) st:=fun h id hid=>by
 refine ad2 func194 29 [.tmp 4] fun hwf=>?_
 have g:=hid;unfold PO at g;simp only[go_sem];refine(mI st hw).go hid ?_;rw[bL hid];simp only[go_sem,fR];intro i2 hi2;have n2:id≠i2:=fun e=>ad4
 cases d1:(st.bad==0)<;>cases d2:((aM st).s==s)<;>cases d3:((aM st).kind==1)<;>cases d4:((aM st).kind==6)
 all_goals
  simp only[go_sem,g,aj,n2,d1,d2,d3,d4];exact .mk _ (.refl _) (.ak hi2) ⟨by simp only[isD,d1,d2,d3,d4];rfl,rfl⟩
theorem kN(st:PS)(s:Txt)(hw:WfP st):PC 191 [.s s] st (.v (.bool (ct st s).1)) (ct st s).2:=fun h id hid=>by
 refine ad2 func191 18 [.tmp 4] fun hwf=>?_
 have g:=hid;unfold PO at g;simp only[go_sem];refine(uh st s hw).go hid ?_;rw[bL hid];cases d1:isD st s
 ·have e:ct st s=(false,st):=by grind [ct]
  simp only[go_sem];exact .mk _ (.refl _) (.refl _) ⟨ahO,by grind [bL]⟩
 ·have e:ct st s=(true,bl st):=by grind [ct]
  have w1:IntKind.i64.wrap ((st.pos:Int)+1)=((st.pos+1:Nat):Int):=afH;simp only[go_sem,g,w1];exact .mk _ (.refl _) (.refl _) ⟨ahO,ahO⟩
theorem lF(st:PS)(s:Txt)(hw:WfP st):PC 140 [.s s] st (.tup []) (eC st s):=fun h id hid=>by
 refine ad2 func140 10 [] fun hwf=>?_
 simp only[go_sem];refine(kN st s hw).go hid ?_;cases d1:isD st s
 ·have e:ct st s=(false,st):=by grind [ct]
  rw[e,bL hid];simp only[go_sem];refine(lY st hw).go hid ?_;exact ajH
 ·have e:ct st s=(true,bl st):=by grind [ct]
  rw[e];exact ajH
theorem uA(st:PS)(hw:WfP st):PC 138 [] st (.s (cr st).1) (cr st).2:=fun h id hid=>by
 refine ad2 func138 25 [.tmp 2] fun hwf=>?_
 have g:=hid;unfold PO at g;have w1:IntKind.i64.wrap ((st.pos:Int)+1)=((st.pos+1:Nat):Int):=afH;simp only[go_sem];refine(mI st hw).go hid ?_;rw[bL hid];simp only[go_sem,fR];intro i2 hi2;have n2:id≠i2:=fun e=>ad4
 cases d1:((aM st).kind !=1)
 case true=>
  have e1:(aM st).kind≠1:=ad4;have en:cr st=([],br st):=by grind [cr]
  simp only[go_sem,d1];have hid2:upd h i2 (some (.obj [.v (.int .i64 (aM st).kind),.v (.int .i64 (aM st).pos),.v (.int .i64 (aM st).n),.s (aM st).s] 162)) id=some (PO st):=aeF;refine(lY st hw).go hid2 ?_;have hb:(br st).bad≠0:=by grind [br,bM,Int]
  have d2:((br st).bad !=0)=true:=ad4;simp only[go_sem,PO,d2];exact .mk _ (.refl _) (Sub.both (.ak hi2) _ _) ⟨aeS,ad4⟩
 have e1:(aM st).kind=1:=ad4;cases d2:(st.bad !=0)
 case true=>
  have e2:st.bad≠0:=ad4;have en:cr st=([],st):=by grind [cr]
  simp only[go_sem,g,aj,n2,d1,d2];exact .mk _ (.refl _) (.ak hi2) ⟨aeS,by grind [bL]⟩
 have e2:st.bad=0:=ad4;have en:cr st=((aM st).s,bl st):=by grind [cr]
 simp only[go_sem,g,aj,n2,n2.symm,d1,d2,w1];exact .mk _ (.refl _) (Sub.both (.ak hi2) _ _) ⟨aeS,by rw[en];try rfl⟩
theorem PC.run(hc:PC f args st R st'){id:Nat}(k:Q R (upd G id (some (PO st')))):ai prog f (.ptr id 0::args) (upd G id (some (PO st))) Q:=
 hc.go (ah ..) (by rw[oc];exact k)
theorem PC.of(hk:∀(G:Heap) (id:Nat),ai prog f (.ptr id 0::args) (upd G id (some (PO st))) fun r h' =>r=R∧h' =upd G id (some (PO st'))):PC f args st R st' :=fun h id hid=>by have:=hk h id;rw[bL hid]at this;exact aeE
theorem cA{α:Type}(f:Nat→α){i:Nat}(x y:α)(h:i≠j):upd (upd f i x) j y=upd (upd f j y) i x:=by grind [ag,ah]
theorem Cv{s:Txt}:∀ {ws:List Txt} {i:Nat},vq s ws=some i→i<ws.length
 |w::r,i,h=>by
  simp only[vq]at h;split at h
  ·grind
  ·cases hr:vq s r with
   |none=>grind
   |some j=>rw[hr]at h;cases h;have:=Cv hr;simp;omega
theorem HZ{s:Txt}:∀ {ws:List Txt} (i:Nat) (hi:i<ws.length),(∀j (hj:j<ws.length),j<i→ws[j]≠s)→ws[i]=s→vq s ws=some i
 |w::r,0,_,_,h=>by grind [vq]
 |w::r,i+1,hi,hb,h=>by have h0:=hb 0 aea ad3;simp only[List.getElem_cons_zero]at h0;simp only[vq,if_neg h0];rw[HZ i ad4 ad4 ad4];rfl
theorem Bl{s:Txt}:∀ {ws:List Txt},(∀j (hj:j<ws.length),ws[j]≠s)→vq s ws=none
 | [],_=>rfl
 |w::r,hb=>by
  have h0:=hb 0 aea;simp only[List.getElem_cons_zero]at h0;simp only[vq,if_neg h0];rw[Bl (fun j hj=>by have:=hb (j+1) ad4;simpa using this)]
  rfl
def Sm(o:Option Nat):Int:=match o with
 |some i=>i
 |none=> -1
theorem JX(ws:List Txt)(q:Perm)(s:Txt)(hl:ws.length≤1000)(h:Heap):ai prog 190 [.sl (ws.map AV.s) q,.s s] h fun r h' =>r= .i (Sm (vq s ws))∧h' =h:=by
 refine ad2 func190 19 [.tmp 4] fun hwf=>?_
 simp only[go_sem,adT];refine .intro (fun m ρ h' =>h' =h∧∃i:Nat,i≤ws.length∧m=ws.length - i∧(∀j (hj:j<ws.length),j<i→ws[j]≠s)∧lk ρ 0=some (.sl (ws.map AV.s) q)∧lk ρ 1=some (.s s)∧lk ρ 7=some (.i ws.length)∧lk ρ 8=some (.i i)) ws.length ?_ ?_
 ·refine⟨rfl,0,ad3,rfl,fun j _ hj=>ad3,?_,?_,?_,?_⟩<;>simp only[go_sem]
 ·rintro m ρ h' ⟨rfl,i,hi,rfl,hc,r0,r1,r7,r8⟩
  simp only[go_sem,r7,r8];refine .intro (fun e=>?_) (fun e=>?_)
  ·have hlt:i<ws.length:=ad0 e
   have w1:IntKind.i64.wrap ((i:Int)+1)=((i+1:Nat):Int):=aeg;simp only[go_sem,r0,r1,r8];refine .at i ad4 aec ?_;cases d1:(s==ws[i])
   ·have e1:ws[i]≠s:=by grind
    simp only[go_sem,r8,adU,d1,w1];refine⟨_,?_,rfl,i+1,ad3,rfl,fun j hj hji=>?_,?_,?_,?_,?_⟩
    ·omega
    ·grind
    all_goals simp only[go_sem,r0,r1,r7]
   ·have e1:ws[i]=s:=by grind
    simp only[go_sem,adU,d1];exact .same (.refl _) ⟨by rw[HZ i hlt hc e1];rfl,rfl⟩
  ·have hge:i=ws.length:=by grind
   subst hge;simp only[go_sem];exact .same (.refl _) ⟨by rw[Bl fun j hj=>hc j hj hj];rfl,rfl⟩
theorem oN(st:PS)(ws:List Txt)(q:Perm)(hl:ws.length≤1000)(hw:WfP st):PC 137 [.sl (ws.map AV.s) q] st (.v (.int .i64 (bf st ws).1)) (bf st ws).2:=.of fun G id=>by
 refine ad2 func137 28 [.tmp 4] fun hwf=>?_
 simp only[go_sem];refine(mI st hw).run ?_;simp only[go_sem,fR];intro i2 hi2;have n2:=aF hi2;have hG2:G i2=none:=aeF;have c2:∀(f:Heap) (x y:Option Blk),upd (upd f id x) i2 y=upd (upd f i2 y) id x:=fun f x y=>cA f x y n2.symm
 cases d1:((aM st).kind==1)
 ·have e1:(aM st).kind≠1:=by grind
  have en:bf st ws=(0,br st):=by grind [bf]
  simp only[go_sem,c2,aj,n2,d1];exact aiJ
 have e1:(aM st).kind=1:=ad4;simp only[go_sem,c2,aj,n2,d1];refine(JX ws q _ hl _).pthen ?_;cases ei:vq (aM st).s ws with
 |none=>
  have en:bf st ws=(0,br st):=by grind [bf]
  have dm:decide ((0:Int)≤ -1)=false:=ad6;simp only[go_sem,Sm,dm];exact aiJ
 |some i=>
  have hil:=Cv ei;have d2:decide (0≤(i:Int))=true:=aea;have w1:IntKind.i64.wrap ((i:Int)+1)=((i:Int)+1):=aeg;simp only[go_sem,Sm,d2,aj,n2];refine(kN st _ hw).run ?_;cases d3:(st.bad==0)
  ·have e3:st.bad≠0:=by grind
   have et:ct st (aM st).s=(false,st):=by grind [ct,isD]
   have en:bf st ws=(0,br st):=by grind [bf]
   rw[et];simp only[go_sem];exact aiJ
  ·have e3:st.bad=0:=by grind
   have et:ct st (aM st).s=(true,bl st):=by grind [ct,isD]
   have en:bf st ws=((i:Int)+1,bl st):=by grind [bf]
   rw[et];simp only[go_sem,w1];exact .mk _ (.refl _) (Sub.both (.ak hG2) _ _) ⟨aeS,by rw[en]⟩
theorem Lu(st:PS)(hw:WfP st):PC 291 [] st (Df (gu st).1) (gu st).2:=.of fun G id=>by
 have h1:=gS wj hw;have h2:=js [46] h1.1;have h3:=nK h2.1;refine ad2 func291 17 [.cell 2 220] fun hwf=>?_
 simp only[go_sem];intro i2 hi2;have n2:=aF hi2;have hG2:G i2=none:=aeF;have c2:∀(f:Heap) (x y:Option Blk),upd (upd f id x) i2 y=upd (upd f i2 y) id x:=fun f x y=>cA f x y n2.symm
 simp only[go_sem,c2];intro i3 hi3;have n3:=aF hi3;have hi3' :=hi3;rw[ag _ _ n3]at hi3';have n32:=aF hi3';have hG3:G i3=none:=aeF;have c3:∀(f:Heap) (x y:Option Blk),upd (upd f id x) i3 y=upd (upd f i3 y) id x:=fun f x y=>cA f x y n3.symm
 have c23:∀(f:Heap) (x y:Option Blk),upd (upd f i3 x) i2 y=upd (upd f i2 y) i3 x:=fun f x y=>cA f x y n32
 have m32:¬i3=i2:=n32;have m23:¬i2=i3:=n32.symm;simp only[go_sem,c3];refine(oN st wj .full ad6 hw).run ?_;simp only[go_sem,c3,aj,n3];refine(lF _ [46] h1.1).run ?_;simp only[go_sem];refine(uA _ h2.1).run ?_;simp only[go_sem,c3,aj,n3];refine(kN _ [33] h3.1).run ?_;simp only[go_sem,c2,c3,c23,aj,n2,n3,m23];exact .mk _ (.refl _) (Sub.both aev _ _) ⟨rfl,rfl⟩
theorem uW(st:PS)(hw:WfP st):PC 292 [] st (aV (aD st).1) (aD st).2:=.of fun G id=>by
 refine ad2 func292 56 [.cell 2 44] fun hwf=>?_
 have w1:IntKind.i64.wrap ((st.pos:Int)+1)=((st.pos+1:Nat):Int):=afH;simp only[go_sem];intro i2 hi2;have n2:=aF hi2;have hG2:G i2=none:=by rw[ag _ _ n2]at hi2;exact hi2
 have c2:∀(f:Heap) (x y:Option Blk),upd (upd f id x) i2 y=upd (upd f i2 y) id x:=fun f x y=>cA f x y n2.symm
 simp only[go_sem,c2];refine(mI st hw).run ?_;simp only[go_sem,fR];intro i3 hi3;have n3:=aF hi3;have hi3' :=hi3;rw[ag _ _ n3]at hi3';have n32:=aF hi3';have hG3:G i3=none:=by rw[ag _ _ n32]at hi3';exact hi3'
 have c3:∀(f:Heap) (x y:Option Blk),upd (upd f id x) i3 y=upd (upd f i3 y) id x:=fun f x y=>cA f x y n3.symm
 have c23:∀(f:Heap) (x y:Option Blk),upd (upd f i3 x) i2 y=upd (upd f i2 y) i3 x:=fun f x y=>cA f x y n32
 have m32:¬i3=i2:=n32;have m23:¬i2=i3:=n32.symm;simp only[go_sem,c3,aj,n3];intro i4 hi4;have n4:=aF hi4;have hi4' :=hi4;rw[ag _ _ n4]at hi4';have n43:=aF hi4';have hi4'' :=hi4';rw[ag _ _ n43]at hi4'';have n42:=aF hi4'';have hG4:G i4=none:=by rw[ag _ _ n42]at hi4'';exact hi4''
 have c4:∀(f:Heap) (x y:Option Blk),upd (upd f id x) i4 y=upd (upd f i4 y) id x:=fun f x y=>cA f x y n4.symm
 have c24:∀(f:Heap) (x y:Option Blk),upd (upd f i4 x) i2 y=upd (upd f i2 y) i4 x:=fun f x y=>cA f x y n42
 have c34:∀(f:Heap) (x y:Option Blk),upd (upd f i4 x) i3 y=upd (upd f i3 y) i4 x:=fun f x y=>cA f x y n43
 have m42:¬i4=i2:=n42;have m24:¬i2=i4:=n42.symm;have m43:¬i4=i3:=n43;have m34:¬i3=i4:=n43.symm;cases k2:((aM st).kind==2)
 case true=>
  have e2:(aM st).kind=2:=by simpa using k2
  have ev:gr st=(⟨2,(aM st).n,(aM st).s⟩,st):=by simp[gr,e2]
  cases kb:(st.bad !=0)
  ·have eb:st.bad=0:=by simpa using kb
   have en:aD st=(⟨2,(aM st).n,(aM st).s⟩,bl st):=afq;simp only[go_sem,c2,c4,c23,c24,aj,n2,n3,n4,m23,m24,m34,k2,PO,kb,w1];exact aij
  ·have eb:st.bad≠0:=by simpa using kb
   have en:aD st=(⟨0,0,[]⟩,st):=afq;simp only[go_sem,c2,c4,c23,c24,aj,n2,n3,n4,m23,m24,m34,k2,PO,kb];exact aij
 have e2:(aM st).kind≠2:=by simpa using k2
 cases k3:((aM st).kind==3)
 case true=>
  have e3:(aM st).kind=3:=by simpa using k3
  have ev:gr st=(⟨4,(aM st).n,(aM st).s⟩,st):=by simp[gr,e3]
  cases kb:(st.bad !=0)
  ·have eb:st.bad=0:=by simpa using kb
   have en:aD st=(⟨4,(aM st).n,(aM st).s⟩,bl st):=afq;simp only[go_sem,c2,c4,c23,c24,aj,n2,n3,n4,m23,m24,m34,k2,k3,PO,kb,w1];exact aij
  ·have eb:st.bad≠0:=by simpa using kb
   have en:aD st=(⟨0,0,[]⟩,st):=afq;simp only[go_sem,c2,c4,c23,c24,aj,n2,n3,n4,m23,m24,m34,k2,k3,PO,kb];exact aij
 have e3:(aM st).kind≠3:=by simpa using k3
 cases k4:((aM st).kind==4)
 case true=>
  have e4:(aM st).kind=4:=by simpa using k4
  have ev:gr st=(⟨5,(aM st).n,(aM st).s⟩,st):=by simp[gr,e4]
  cases kb:(st.bad !=0)
  ·have eb:st.bad=0:=by simpa using kb
   have en:aD st=(⟨5,(aM st).n,(aM st).s⟩,bl st):=afq;simp only[go_sem,c2,c4,c23,c24,aj,n2,n3,n4,m23,m24,m34,k2,k3,k4,PO,kb,w1];exact aij
  ·have eb:st.bad≠0:=by simpa using kb
   have en:aD st=(⟨0,0,[]⟩,st):=afq;simp only[go_sem,c2,c4,c23,c24,aj,n2,n3,n4,m23,m24,m34,k2,k3,k4,PO,kb];exact aij
 have e4:(aM st).kind≠4:=by simpa using k4
 cases k5:((aM st).kind==5)
 case true=>
  have e5:(aM st).kind=5:=by simpa using k5
  have ev:gr st=(⟨3,(aM st).n,(aM st).s⟩,st):=by simp[gr,e5]
  cases kb:(st.bad !=0)
  ·have eb:st.bad=0:=by simpa using kb
   have en:aD st=(⟨3,(aM st).n,(aM st).s⟩,bl st):=afq;simp only[go_sem,c2,c4,c23,c24,aj,n2,n3,n4,m23,m24,m34,k2,k3,k4,k5,PO,kb,w1];exact aij
  ·have eb:st.bad≠0:=by simpa using kb
   have en:aD st=(⟨0,0,[]⟩,st):=afq;simp only[go_sem,c2,c4,c23,c24,aj,n2,n3,n4,m23,m24,m34,k2,k3,k4,k5,PO,kb];exact aij
 have e5:(aM st).kind≠5:=by simpa using k5
 simp only[go_sem,c4,aj,n3,n4,m34,k2,k3,k4,k5];refine(uh st xg hw).run ?_;cases kt:isD st xg
 case true=>
  have ev:gr st=(⟨1,1,[]⟩,st):=by simp[gr,e2,e3,e4,e5,kt]
  cases kb:(st.bad !=0)
  ·have eb:st.bad=0:=by simpa using kb
   have en:aD st=(⟨1,1,[]⟩,bl st):=afq;simp only[go_sem,c2,c4,c23,c24,aj,n2,n4,m23,m24,PO,kb,w1];exact aij
  ·have eb:st.bad≠0:=by simpa using kb
   have en:aD st=(⟨0,0,[]⟩,st):=afq;simp only[go_sem,c2,c4,c23,c24,aj,n2,n4,m23,m24,PO,kb];exact aij
 simp only[go_sem];refine(uh st rj hw).run ?_;cases kf:isD st rj
 case true=>
  have ev:gr st=(⟨1,0,[]⟩,st):=by simp[gr,e2,e3,e4,e5,kt,kf]
  cases kb:(st.bad !=0)
  ·have eb:st.bad=0:=by simpa using kb
   have en:aD st=(⟨1,0,[]⟩,bl st):=afq;simp only[go_sem,c2,c4,c23,c24,aj,n2,n4,m23,m24,PO,kb,w1];exact aij
  ·have eb:st.bad≠0:=by simpa using kb
   have en:aD st=(⟨0,0,[]⟩,st):=afq;simp only[go_sem,c2,c4,c23,c24,aj,n2,n4,m23,m24,PO,kb];exact aij
 have ev:gr st=(⟨0,(aM st).n,(aM st).s⟩,br st):=by simp[gr,e2,e3,e4,e5,kt,kf]
 have en:aD st=(⟨0,0,[]⟩,br st):=by simp[aD,ev,sj]
 have kb:((br st).bad !=0)=true:=by simpa using sj st
 simp only[go_sem];refine(lY st hw).run ?_;simp only[go_sem,c2,c23,c24,aj,n2,m23,m24,PO,kb];exact aij
def ur:List Txt:=[[61],[60],[62]]
theorem SL(i:Nat)(hi:i<ur.length)(hb:∀j (hj:j<ur.length),j<i→isD st ur[j]=false)(h:isD st ur[i]=true):opP st=((i:Int)+1,bl st):=by
 have h3:i<3:=hi;rcases(by omega:i=0∨i=1∨i=2)with rfl|rfl|rfl
 ·simp only[opP,show isD st [61]=true from h,if_true];rfl
 ·simp only[opP,show isD st [61]=false from hb 0 ad6 ad6,show isD st [60]=true from h,if_true];rfl
 ·simp only[opP,show isD st [61]=false from hb 0 ad6 ad6,show isD st [60]=false from hb 1 ad6 ad6,show isD st [62]=true from h,if_true];rfl
theorem M0(hb:∀j (hj:j<ur.length),isD st ur[j]=false):opP st=(0,br st):=by simp only[opP,show isD st [61]=false from hb 0 ad6,show isD st [60]=false from hb 1 ad6,show isD st [62]=false from hb 2 ad6];rfl
theorem Ii(st:PS)(hw:WfP st):PC 269 [] st (cW (gN st).1) (gN st).2:=.of fun G id=>by
 have h1:=B9 hw;obtain⟨a,st1,e1⟩:∃a st1,gu st=(a,st1):=⟨_,_,rfl⟩;have hat:=Lu st hw;rw[e1]at h1 hat;simp only at h1 hat;refine ad2 func269 32 [.cell 2 269] fun hwf=>?_
 simp only[go_sem];intro i2 hi2;have n2:=aF hi2;have hG2:G i2=none:=aeF;have c2:∀(f:Heap) (x y:Option Blk),upd (upd f id x) i2 y=upd (upd f i2 y) id x:=fun f x y=>cA f x y n2.symm
 simp only[go_sem,c2];refine hat.run ?_;simp only[go_sem,Df];intro i3 hi3;have n3:=aF hi3;have hi3' :=hi3;rw[ag _ _ n3]at hi3';have n32:=aF hi3';have hG3:G i3=none:=aeF;have c3:∀(f:Heap) (x y:Option Blk),upd (upd f id x) i3 y=upd (upd f i3 y) id x:=fun f x y=>cA f x y n3.symm
 have c23:∀(f:Heap) (x y:Option Blk),upd (upd f i3 x) i2 y=upd (upd f i2 y) i3 x:=fun f x y=>cA f x y n32
 have m32:¬i3=i2:=n32;have m23:¬i2=i3:=n32.symm;simp only[go_sem,c3,aj,n3];refine .intro (fun m ρ H=>H=upd (upd (upd G i2 (some (.obj [.i 0,.s [],.b false,.i 0,.i 0,.i 0,.s []] 269))) i3 (some (.obj [.i a.cat,.s a.name,.b a.must,.i 0,.i 0,.i 0,.s []] 269))) id (some (PO st1))∧
  ∃i:Nat,i≤3∧m=3 - i∧(∀j (hj:j<ur.length),j<i→isD st1 ur[j]=false)∧lk ρ 0=some (.ptr id 0)∧lk ρ 2=some (.ptr i2 0)∧lk ρ 3=some (.ptr i3 0)∧lk ρ 9=some (.sl (ur.map AV.s) .full)∧lk ρ 10=some (.i 3)∧lk ρ 11=some (.i i)) 3 ?_ ?_
 ·refine⟨rfl,0,ad3,rfl,fun j _ hj=>ad3,?_,?_,?_,?_,?_,?_⟩<;>simp only[go_sem]<;>rfl
 ·rintro m ρ H ⟨rfl,i,hi,rfl,hb,r0,r2,r3,r9,r10,r11⟩
  simp only[go_sem,r10,r11];refine .intro (fun e=>?_) (fun e=>?_)
  ·have hlt:i<3:=by grind
   have hlo:i<ur.length:=hlt;have w1:IntKind.i64.wrap ((i:Int)+1)=((i+1:Nat):Int):=aeg;have w2:IntKind.i64.wrap (1+(i:Int))=((i:Int)+1):=ad4;simp only[go_sem,r9,r11];refine .at i ad4 aec ?_;simp only[go_sem,r0,adU];refine(kN st1 ur[i] h1.1).run ?_;cases d1:isD st1 ur[i]
   ·have et:ct st1 ur[i]=(false,st1):=by grind [ct]
    rw[et];simp only[go_sem,r11,w1];refine⟨_,?_,rfl,i+1,ad3,rfl,fun j hj hji=>?_,?_,?_,?_,?_,?_,?_⟩
    ·omega
    ·grind
    all_goals simp only[go_sem,r0,r2,r3,r9,r10]
   ·have et:ct st1 ur[i]=(true,bl st1):=by grind [ct]
    have eo:=SL i hlo hb d1;have h2:Ah st1 (bl st1):=fj h1.1 (dQ d1);have en:gN st=(⟨a,(i:Int)+1,(aD (bl st1)).1⟩,(aD (bl st1)).2):=by grind [gN]
    have d2:(((i:Int)+1)==0)=false:=aei;rw[et];simp only[go_sem,c3,aj,n3,r0,r3,w2,d2];refine(uW (bl st1) h2.1).run ?_;exact aja
  ·have hge:i=3:=by grind
   subst hge;have eo:=M0 fun j hj=>hb j hj hj
   have h2:Ah st1 (br st1):=oL h1.1;have en:gN st=(⟨a,0,(aD (br st1)).1⟩,(aD (br st1)).2):=by grind [gN]
   simp only[go_sem,r0,r3,aj,n3];refine(lY st1 h1.1).run ?_;simp only[go_sem,r0];refine(uW (br st1) h2.1).run ?_;exact aja
theorem Tj:(U 269).sz=7:=aei
theorem Wp:(U 269).bytes=72:=aei
theorem IK(l:List bR):Sized 7 (l.map cW):=fun z hz=>by obtain⟨c,_,rfl⟩:=List.mem_map.1 hz;rfl
theorem Ti:(U 270).sz=1:=aei
theorem Wn:(U 270).bytes=24:=aei
theorem IJ(l:List (List bR)):Sized 1 (l.map gm):=fun z hz=>by obtain⟨c,_,rfl⟩:=List.mem_map.1 hz;rfl
theorem Tk:(U 266).sz=1:=aei
theorem Wr:(U 266).bytes=24:=aei
theorem IM(l:List (List (List bR))):Sized 1 (l.map cB):=fun z hz=>by obtain⟨c,_,rfl⟩:=List.mem_map.1 hz;rfl
theorem Qp(st:PS)(hw:WfP st):PC 236 [] st (gm (qF st).1) (qF st).2:=.of fun G id=>by
 have h1:=qL hw;have hm1:=Ii st hw;obtain⟨x0,st1,e1⟩:∃x0 st1,gN st=(x0,st1):=⟨_,_,rfl⟩;have ep:gh gN [44] 8 st.ts.length st1 [x0]=qF st:=by grind [qF]
 rw[e1]at h1 hm1;simp only[cW]at h1 hm1;refine ad2 func236 20 [.tmp 2] fun hwf=>?_
 simp only[go_sem];refine hm1.run ?_;simp only[go_sem];have hB:upd G id none id=none:=ah ..;refine .intro (fun m ρ H=>∃(f:Nat) (st' :PS) (l:List _) (y:AV),H id=some (PO st')∧Acc U 269 (upd G id none) H y (l.map cW)∧Ah st1 st'∧gh gN [44] 8 f st' l=qF st∧st1.ts.length≤f+st'.pos∧l.length≤st'.pos+1∧m=st1.ts.length - st'.pos∧lk ρ 0=some (.ptr id 0)∧lk ρ 3=some y) (st1.ts.length - st1.pos) ?_ ?_
 ·refine⟨st.ts.length,st1,[x0],.sl ([x0].map cW) .full,ah ..,.full (base_start G id _),.refl h1.1,ep,by rw[h1.2.1];omega,aea,rfl,?_,?_⟩<;>simp only[go_sem]<;>rfl
 ·rintro m ρ H ⟨f,st',l,y,hH,hy,ha,hfin,hf,hll,rfl,r0,r3⟩
  have hlen:=ha.1.2.2;have hpos:=ha.1.1;have htl:=ha.2.1;simp only[go_sem,r0];refine(kN st' [44] ha.1).go hH ?_;cases d1:isD st' [44]
  ·have et:ct st' [44]=(false,st'):=by grind [ct]
   have ef:gh gN [44] 8 f st' l=(l,st'):=aho;rw[et,bL hH];rw[ef]at hfin;simp only[go_sem,r3];exact .mk (h' :=upd G id (some (PO (qF st).2))) (gm l) hy.weak (by rw[←hfin];exact fE hy.1 hH) ⟨ad4,rfl⟩
  ·have et:ct st' [44]=(true,bl st'):=by grind [ct]
   obtain⟨g,rfl⟩:∃g,f=g+1:=⟨f - 1,ad4⟩;simp only[gh,d1,if_true]at hfin;have h2:=fj ha.1 (dQ d1);have hone:=Ii (bl st') h2.1;have h3:=(fun _ h=>qL h:∀st,WfP st→Ah st (gN st).2) _ h2.1
   obtain⟨x,st2,e2⟩:∃x st2,gN (bl st')=(x,st2):=⟨_,_,rfl⟩;rw[e2]at hfin hone h3;simp only[cW]at hfin hone h3;have hdec:decide ((8:Int)<((l.length+1:Nat):Int))=decide (8<l.length+1):=by grind
   have h4:=lN (decide (8<l.length+1)) h3.1;have hnp:(bl st').pos=st'.pos+1:=rfl;have hp3:=h3.2.2;have hp4:=h4.2.2;rw[et];simp only[go_sem,r0,r3];refine hone.run ?_;simp only[go_sem];refine(hy.put hB hH _).app (zs:=[cW x]) (by grind [Tj]) (by grind [Wp]) (fun k hk=>hk) (by grind [Tj,IK]) (by rw[Tj];exact IK [x]) (by grind [Wp]) fun y' H2 hy' hk2=>?_
   exact aif
theorem Qq(st:PS)(hw:WfP st):PC 192 [] st (cB (sr st).1) (sr st).2:=.of fun G id=>by
 have h0:=js [40] hw;have h1:=B7 h0.1;have hm1:=Qp _ h0.1;obtain⟨x0,st1,e1⟩:∃x0 st1,qF (eC st [40])=(x0,st1):=⟨_,_,rfl⟩;obtain⟨M,eM⟩:∃M,gh qF orT 8 st.ts.length st1 [x0]=M:=⟨_,rfl⟩;have epp:(M.1,eC M.2 [41])=sr st:=by grind [sr]
 rw[e1]at h1 hm1;simp only[gm]at h1 hm1;refine ad2 func192 24 [.tmp 2] fun hwf=>?_
 simp only[go_sem];refine(lF st [40] hw).run ?_;simp only[go_sem];refine hm1.run ?_;simp only[go_sem];have hB:upd G id none id=none:=ah ..;refine .intro (fun m ρ H=>∃(f:Nat) (st' :PS) (l:List _) (y:AV),H id=some (PO st')∧Acc U 270 (upd G id none) H y (l.map gm)∧Ah st1 st'∧gh qF orT 8 f st' l=M∧st1.ts.length≤f+st'.pos∧l.length≤st'.pos+1∧m=st1.ts.length - st'.pos∧lk ρ 0=some (.ptr id 0)∧lk ρ 3=some y) (st1.ts.length - st1.pos) ?_ ?_
 ·refine⟨st.ts.length,st1,[x0],.sl ([x0].map gm) .full,ah ..,.full (base_start G id _),.refl h1.1,eM,by rw[h1.2.1,h0.2.1];omega,aea,rfl,?_,?_⟩<;>simp only[go_sem]<;>rfl
 ·rintro m ρ H ⟨f,st',l,y,hH,hy,ha,hfin,hf,hll,rfl,r0,r3⟩
  have hlen:=ha.1.2.2;have hpos:=ha.1.1;have htl:=ha.2.1;simp only[go_sem,r0];refine(kN st' orT ha.1).go hH ?_;cases d1:isD st' orT
  ·have et:ct st' orT=(false,st'):=by grind [ct]
   have ef:gh qF orT 8 f st' l=(l,st'):=aho;rw[et,bL hH];rw[ef]at hfin;simp only[go_sem,r0];refine(lF st' [41] ha.1).go hH ?_;simp only[go_sem,r3];exact .mk (h' :=upd G id (some (PO (sr st).2))) (cB l) hy.weak (by rw[←epp,←hfin];exact fE (hy.1.put hB _) (ah ..)) ⟨ad4,rfl⟩
  ·have et:ct st' orT=(true,bl st'):=by grind [ct]
   obtain⟨g,rfl⟩:∃g,f=g+1:=⟨f - 1,ad4⟩;simp only[gh,d1,if_true]at hfin;have h2:=fj ha.1 (dQ d1);have hone:=Qp (bl st') h2.1;have h3:=(fun _ h=>B7 h:∀st,WfP st→Ah st (qF st).2) _ h2.1
   obtain⟨x,st2,e2⟩:∃x st2,qF (bl st')=(x,st2):=⟨_,_,rfl⟩;rw[e2]at hfin hone h3;simp only[gm]at hfin hone h3;have hdec:decide ((8:Int)<((l.length+1:Nat):Int))=decide (8<l.length+1):=by grind
   have h4:=lN (decide (8<l.length+1)) h3.1;have hnp:(bl st').pos=st'.pos+1:=rfl;have hp3:=h3.2.2;have hp4:=h4.2.2;rw[et];simp only[go_sem,r0,r3];refine hone.run ?_;simp only[go_sem];refine(hy.put hB hH _).app (zs:=[gm x]) (by grind [Ti]) (by grind [Wn]) (fun k hk=>hk) (by grind [Ti,IJ]) (by rw[Ti];exact IJ [x]) (by grind [Wn]) fun y' H2 hy' hk2=>?_
   exact aif
theorem Q4(st:PS)(hw:WfP st):PC 139 [] st (aT (ig st).1) (ig st).2:=.of fun G id=>by
 refine ad2 func139 23 [.tmp 2] fun hwf=>?_
 simp only[go_sem];refine(kN st Fp hw).run ?_;cases d0:isD st Fp
 ·have et:ct st Fp=(false,st):=by grind [ct]
  have ep:ig st=([],st):=by grind [ig]
  rw[et];simp only[go_sem];exact .mk (h' :=upd G id (some (PO (ig st).2))) (aT []) (.sl _ _) (by rw[ep];exact .refl _) ⟨by rw[ep],rfl⟩
 have et:ct st Fp=(true,bl st):=by grind [ct]
 have h0:=fj hw (dQ d0);have h1:=B8 h0.1;have hm1:=Qq _ h0.1;obtain⟨x0,st1,e1⟩:∃x0 st1,sr (bl st)=(x0,st1):=⟨_,_,rfl⟩;obtain⟨M,eM⟩:∃M,gh sr Da 8 st.ts.length st1 [x0]=M:=⟨_,rfl⟩;have ep:M=ig st:=by simp_all [ig,if_true]
 rw[e1]at h1 hm1;simp only[cB]at h1 hm1;rw[et];simp only[go_sem];refine hm1.run ?_;simp only[go_sem];have hB:upd G id none id=none:=ah ..;refine .intro (fun m ρ H=>∃(f:Nat) (st' :PS) (l:List _) (y:AV),H id=some (PO st')∧Acc U 266 (upd G id none) H y (l.map cB)∧Ah st1 st'∧gh sr Da 8 f st' l=M∧st1.ts.length≤f+st'.pos∧l.length≤st'.pos+1∧m=st1.ts.length - st'.pos∧lk ρ 0=some (.ptr id 0)∧lk ρ 3=some y) (st1.ts.length - st1.pos) ?_ ?_
 ·refine⟨st.ts.length,st1,[x0],.sl ([x0].map cB) .full,ah ..,.full (base_start G id _),.refl h1.1,eM,by rw[h1.2.1,h0.2.1];omega,aea,rfl,?_,?_⟩<;>simp only[go_sem]<;>rfl
 ·rintro m ρ H ⟨f,st',l,y,hH,hy,ha,hfin,hf,hll,rfl,r0,r3⟩
  have hlen:=ha.1.2.2;have hpos:=ha.1.1;have htl:=ha.2.1;simp only[go_sem,r0];refine(kN st' Da ha.1).go hH ?_;cases d1:isD st' Da
  ·have et:ct st' Da=(false,st'):=by grind [ct]
   have ef:gh sr Da 8 f st' l=(l,st'):=aho;rw[et,bL hH];rw[ef]at hfin;simp only[go_sem,r3];exact .mk (h' :=upd G id (some (PO (ig st).2))) (aT l) hy.weak (by rw[←ep,←hfin];exact fE hy.1 hH) ⟨ad4,rfl⟩
  ·have et:ct st' Da=(true,bl st'):=by grind [ct]
   obtain⟨g,rfl⟩:∃g,f=g+1:=⟨f - 1,ad4⟩;simp only[gh,d1,if_true]at hfin;have h2:=fj ha.1 (dQ d1);have hone:=Qq (bl st') h2.1;have h3:=(fun _ h=>B8 h:∀st,WfP st→Ah st (sr st).2) _ h2.1
   obtain⟨x,st2,e2⟩:∃x st2,sr (bl st')=(x,st2):=⟨_,_,rfl⟩;rw[e2]at hfin hone h3;simp only[cB]at hfin hone h3;have hdec:decide ((8:Int)<((l.length+1:Nat):Int))=decide (8<l.length+1):=by grind
   have h4:=lN (decide (8<l.length+1)) h3.1;have hnp:(bl st').pos=st'.pos+1:=rfl;have hp3:=h3.2.2;have hp4:=h4.2.2;rw[et];simp only[go_sem,r0,r3];refine hone.run ?_;simp only[go_sem];refine(hy.put hB hH _).app (zs:=[cB x]) (by grind [Tk]) (by grind [Wr]) (fun k hk=>hk) (by grind [Tk,IM]) (by rw[Tk];exact IM [x]) (by grind [Wr]) fun y' H2 hy' hk2=>?_
   exact aif
theorem Eu(op:Int)(h:Heap):ai prog 309 [.i op] h fun r h' =>r= .sl ((opers op).map j0) .no∧h' =h:=by
 refine ad2 func309 15 [.tmp 2] fun hwf=>?_
 cases k3:(op==3)<;>cases k4:(op==4)<;>cases k5:(op==5)<;>cases k11:(op==11)
 all_goals
  simp only[go_sem,k3,k4,k5,k11];simp only[beq_iff_eq,beq_eq_false_iff_ne]at k3 k4 k5 k11;refine .mk _ (.sl _ _) (.refl _) ⟨?_,rfl⟩
  grind [opers,j0]
theorem Ws:(U 145).sz=3:=aei
theorem YM:(U 145).bytes=32:=aei
theorem IL(l:List cE):Sized 3 (l.map bh):=fun z hz=>by obtain⟨c,_,rfl⟩:=List.mem_map.1 hz;rfl
theorem tV(st:PS)(hw:WfP st):PC 143 [] st (ay (gH st).1) (gH st).2:=.of fun G id=>by
 obtain⟨M,eM⟩:∃M,gH st=M:=⟨_,rfl⟩;have eM2:gh AA wM 8 st.ts.length st []=M:=eM;refine ad2 func143 28 [.tmp 2] fun hwf=>?_
 simp only[go_sem];have hB:upd G id none id=none:=ah ..;refine .intro (fun m ρ H=>∃(f:Nat) (st' :PS) (l:List cE) (y:AV),H id=some (PO st')∧Acc U 145 (upd G id none) H y (l.map bh)∧Ah st st'∧gh AA wM 8 f st' l=M∧st.ts.length≤f+st'.pos∧l.length≤st'.pos+1∧m=st.ts.length - st'.pos∧lk ρ 0=some (.ptr id 0)∧lk ρ 3=some y) (st.ts.length - st.pos) ?_ ?_
 ·refine⟨st.ts.length,st,[],.sl ([].map bh) .full,ah ..,.full (base_start G id _),.refl hw,eM2,ad3,aea,rfl,?_,?_⟩<;>simp only[go_sem]<;>rfl
 ·rintro m ρ H ⟨f,st',l,y,hH,hy,ha,hfin,hf,hll,rfl,r0,r3⟩
  have hlen:=ha.1.2.2;have hpos:=ha.1.1;have htl:=ha.2.1;simp only[go_sem,r0];refine(kN st' wM ha.1).go hH ?_;cases d1:isD st' wM
  ·have et:ct st' wM=(false,st'):=by grind [ct]
   have ef:gh AA wM 8 f st' l=(l,st'):=aho;rw[et,bL hH];rw[ef]at hfin;simp only[go_sem,r3];exact .mk (h' :=upd G id (some (PO (gH st).2))) (ay l) hy.weak (by rw[eM,←hfin];exact fE hy.1 hH) ⟨ad4,rfl⟩
  ·have et:ct st' wM=(true,bl st'):=by grind [ct]
   obtain⟨g,rfl⟩:∃g,f=g+1:=⟨f - 1,ad4⟩;simp only[gh,d1,if_true]at hfin;have h2:=fj ha.1 (dQ d1);have ho1:=gS vF h2.1;have ho2:=gS mZ ho1.1;have ho3:=nK ho2.1;have h3:Ah (bl st') (AA (bl st')).2:=Lm h2.1;have hdec:decide ((8:Int)<((l.length+1:Nat):Int))=decide (8<l.length+1):=by grind
   have h4:=lN (decide (8<l.length+1)) h3.1;have hnp:(bl st').pos=st'.pos+1:=rfl;have hp3:=h3.2.2;have hp4:=h4.2.2;have eX:(AA (bl st'))=(⟨(bf (bl st') vF).1,(bf (bf (bl st') vF).2 mZ).1,(cr (bf (bf (bl st') vF).2 mZ).2).1⟩,(cr (bf (bf (bl st') vF).2 mZ).2).2):=rfl;obtain⟨x,st2,e2⟩:∃x st2,AA (bl st')=(x,st2):=⟨_,_,rfl⟩;rw[et];simp only[go_sem];intro i4 hi4;have n4:=aF hi4;have hH4:H i4=none:=aeF;have c4:∀(f:Heap) (x y:Option Blk),upd (upd f id x) i4 y=upd (upd f i4 y) id x:=fun f x y=>cA f x y n4.symm
   simp only[go_sem,r0,c4];refine(oN _ vF .full ad6 h2.1).run ?_;simp only[go_sem,r0,c4,aj,n4];refine(oN _ mZ .full ad6 ho1.1).run ?_;simp only[go_sem,r0,c4,aj,n4];refine(uA _ ho2.1).run ?_;simp only[go_sem,r3,c4,aj,n4];rw[e2]at hfin h3 h4 hp3 hp4;simp only at hfin h3 h4 hp3 hp4;have ex1:x=(AA (bl st')).1:=by rw[e2]
   have ex2:st2=(cr (bf (bf (bl st') vF).2 mZ).2).2:=by grind
   rw[←ex2];refine((hy.sub (Sub.ak (k:=_) hH4)).put hB (by rw[ag _ _ n4.symm];exact hH) _).app (zs:=[bh x]) ad6 ad6 (fun k hk=>by rw[ex1]at hk;exact hk) (by grind [Ws,IL]) (by rw[Ws];exact IL [x]) (by grind [YM]) fun y' H2 hy' hk2=>?_
   exact aif
theorem tJ{U:TypeId→TI}{B':Heap}(hs:Sub B B')(ha:Acc U e B' H y xs):Acc U e B H y xs:=by
 obtain⟨h1,rfl|⟨k,i1,rfl,i2⟩⟩:=ha
 ·exact⟨hs.trans h1,.inl rfl⟩
 ·refine⟨hs.trans h1,.inr ⟨k,?_,rfl,i2⟩⟩
  cases hk:B k with
  |none=>rfl
  |some b=>rw[hs _ _ hk]at i1;omega
theorem ya{U:TypeId→TI}(ha:Acc U e B H y xs){i:Nat}(hi:H i=none)(b:Option Blk):Acc U e (upd B i b) (upd H i b) y xs:=by
 obtain⟨h1,rfl|⟨k,i1,rfl,i2⟩⟩:=ha
 ·exact⟨h1.both _ _,.inl rfl⟩
 ·have hne:k≠i:=fun hh=>by subst hh;rw[hi]at i2;cases i2
  exact⟨h1.both _ _,.inr ⟨k,aeF,rfl,aeF⟩⟩
theorem oK{U:TypeId→TI}{id:Nat}(ha:Acc U e (upd G id none) (upd K id (some (PO st))) y xs)(st' :PS):Acc U e (upd G id none) (upd K id (some (PO st'))) y xs:=by have:=ha.put (id:=id) (ah ..) (cs:=_) (t:=_) (ah ..) (some (PO st'));rw[oc]at this;exact aeE
def XC(f:FuncId)(args:List AV)(st:PS)(l:List aO)(mk:AV→AV)(st' :PS)(l' :List aO):Prop:=
 ∀(G K:Heap) (id:Nat) (y:AV),Acc U 222 (upd G id none) (upd K id (some (PO st))) y (l.map cN)→ai prog f (.ptr id 0::y::args) (upd K id (some (PO st))) fun r h' =>∃y',r=mk y'∧h' id=some (PO st')∧Acc U 222 (upd G id none) h' y' (l'.map cN)
theorem XC.run{l':List aO}{mk:AV→AV}(hc:XC f args st l mk st' l'){id:Nat}(ha:Acc U 222 (upd G id none) (upd K id (some (PO st))) y (l.map cN))
  (k:∀y' K',Acc U 222 (upd G id none) (upd K' id (some (PO st'))) y' (l'.map cN)→Q (mk y') (upd K' id (some (PO st')))):ai prog f (.ptr id 0::y::args) (upd K id (some (PO st))) Q:=
 (hc G K id y ha).mono fun r h' ⟨y',e1,e2,e3⟩=>by
  subst e1;have:=k y' h' (by grind [bL])
  rwa [bL e2]at this
def EH(ex:ExF)(f:Nat):Prop:=∀st l,WfP st→st.ts.length≤f+st.pos→l.length≤2*st.pos+1→XC 270 [] st l (fun y=> .tup [y,.v (.bool (ex st l).1.2)]) (ex st l).2 (ex st l).1.1
theorem I0(st:PS)(ws:List Txt):0≤(bf st ws).1∧(bf st ws).1≤ws.length:=by
 unfold bf;cases ei:vq (aM st).s ws with
 |none=>simp
 |some i=>have:=Cv ei;simp only;split<;>simp<;>omega
theorem Bx(ho:Fw ex){f:Nat}(he:EH ex f)(st:PS)(l:List aO)(b:Bool)(hw:WfP st)(hf:st.ts.length≤f+st.pos)(hl:l.length≤2*st.pos+1):XC 237 [.b b] st l (fun y=>y) (iL ex st l b).2 (iL ex st l b).1:=fun G K id y ha=>by
 refine ad2 func237 25 [.tmp 6] fun hwf=>?_
 simp only[go_sem];refine(mI st hw).run ?_;simp only[go_sem,fR];refine(he st l hw hf hl).run ha fun y' K' ha' =>?_
 cases db:((ex st l).1.2==b)
 ·have e1:(ex st l).1.2≠b:=by grind
  have en:iL ex st l b=((ex st l).1.1,bM (ex st l).2 5 (aM st).pos):=by grind [iL]
  simp only[go_sem,db,Bool.not_false];refine(rU _ 5 _).run ?_;simp only[go_sem];exact .mk (h' :=upd K' id (some (PO (bM (ex st l).2 5 (aM st).pos)))) y' (.refl _) (.refl _) ⟨y',rfl,ahS,by grind [oK]⟩
 ·have e1:(ex st l).1.2=b:=by grind
  have en:iL ex st l b=((ex st l).1.1,(ex st l).2):=by grind [iL]
  simp only[go_sem,db,Bool.not_true];exact .mk (h' :=upd K' id (some (PO (ex st l).2))) y' (.refl _) (.refl _) ⟨y',rfl,ahS,ad4⟩
theorem Gb(ho:Fw ex){f:Nat}(he:EH ex f)(st:PS)(l:List aO)(hw:WfP st)(hf:st.ts.length≤f+st.pos)(hl:l.length+1≤2*st.pos):XC 293 [] st l (fun y=> .tup [y,cN (rq ex st l).1.2]) (rq ex st l).2 (rq ex st l).1.1:=fun G K id y ha=>by
 have h1:=gS mh hw;have hrg:=I0 st mh;have hfl:mh.length=11:=rfl;have w2:IntKind.i64.wrap (2+(bf st mh).1)=2+(bf st mh).1:=aeg;refine ad2 func293 36 [.tmp 4,.cell 5 222] fun hwf=>?_
 simp only[go_sem];intro i5 hi5;have n5:=aF hi5;have hK5:K i5=none:=aeF;have c5:∀(f:Heap) (x y:Option Blk),upd (upd f id x) i5 y=upd (upd f i5 y) id x:=fun f x y=>cA f x y n5.symm
 simp only[go_sem,c5];refine(oN _ mh .full ad6 hw).run ?_;simp only[go_sem,w2];intro i6 hi6;have n6:=aF hi6;have c6:∀(f:Heap) (x y:Option Blk),upd (upd f id x) i6 y=upd (upd f i6 y) id x:=fun f x y=>cA f x y n6.symm
 have hi6' :=hi6;rw[ag _ _ n6]at hi6';have n65:=aF hi6';have hK6:K i6=none:=aeF;simp only[go_sem,c6,aj,n6];refine(Eu _ _).pthen ?_;simp only[go_sem];have h5f:=ha;obtain⟨bs,ebs⟩:∃bs,opers (2+(bf st mh).1)=bs:=⟨_,rfl⟩;obtain⟨M,eM⟩:∃M,jF ex bs (bf st mh).2 l=M:=⟨_,rfl⟩;have hb2:bs.length≤2:=by grind [Ev]
 have hMr:rq ex st l=((M.1,⟨2+(bf st mh).1,⟨0,0,[]⟩,⟨0,[],false⟩⟩),eC M.2 [41]):=by grind [rq]
 obtain⟨st1,es1⟩:∃st1,(bf st mh).2=st1:=⟨_,rfl⟩;have hac0:=ya (ya (oK ha st1) (by rw[ag _ _ n5];omega) (some (.obj [.i 0,.i 0,.i 0,.s [],.i 0,.s [],.b false] 222))) (by rw[ag _ _ n65,ag _ _ n6];omega) (some (.obj [.i (2+(bf st mh).1),.i 0,.i 0,.s [],.i 0,.s [],.b false] 222))
 simp only[c5,c6]at hac0;obtain⟨G',eG⟩:∃G',G' =upd (upd G i5 (some (.obj [.i 0,.i 0,.i 0,.s [],.i 0,.s [],.b false] 222))) i6 (some (.obj [.i (2+(bf st mh).1),.i 0,.i 0,.s [],.i 0,.s [],.b false] 222)):=⟨_,rfl⟩;have g5:upd G' id none i5=some (.obj [.i 0,.i 0,.i 0,.s [],.i 0,.s [],.b false] 222):=by simp_all [ag,Ne.symm,ah]
 have g6:upd G' id none i6=some (.obj [.i (2+(bf st mh).1),.i 0,.i 0,.s [],.i 0,.s [],.b false] 222):=by simp_all [ag,ah]
 rw[←eG]at hac0;have gi5:upd G id none i5=none:=by
  cases hk:upd G id none i5 with
  |none=>rfl
  |some b=>rw[ha.1 _ _ hk]at hi5;omega
 have hsG:Sub (upd G id none) (upd G' id none):=fun k b hk=>by
  have hs1:=ha.1 k b hk;have hk5:k≠i5:=fun e=>ad4
  have hk6:k≠i6:=fun e=>by grind [ag]
  by_cases hkid:k=id
  ·subst hkid;rw[ah]at hk;cases hk
  ·rw[ag _ _ hkid]at hk⊢
   rw[eG,ag _ _ hk6,ag _ _ hk5];exact hk
 simp only[es1,ebs]at h1 eM⊢;refine .intro (fun m ρ H=>∃(i:Nat) (st' :PS) (l' :List aO) (y' :AV) (K' :Heap),H=upd K' id (some (PO st'))∧Acc U 222 (upd G' id none) (upd K' id (some (PO st'))) y' (l'.map cN)∧Ah st1 st'∧i≤bs.length∧jF ex (bs.drop i) st' l' =M∧l'.length+1≤2*st'.pos+i∧m=bs.length - i∧lk ρ 0=some (.ptr id 0)∧lk ρ 1=some y'∧lk ρ 5=some (.ptr i5 0)∧lk ρ 6=some (.ptr i6 0)∧lk ρ 16=some (.sl (bs.map j0) .no)∧lk ρ 17=some (.i bs.length)∧lk ρ 18=some (.i i)) bs.length ?_ ?_
 ·refine⟨0,st1,l,y,_,rfl,hac0,.refl h1.1,ad3,ad4,by have:=h1.2.2;omega,rfl,?_,?_,?_,?_,?_,?_,?_⟩<;>simp only[go_sem]<;>(try rfl)<;>simp
 ·rintro m ρ H ⟨i,st',l',y',K',rfl,hac,hah,hi,hfin,hll,rfl,r0,r1,r5,r6,r16,r17,r18⟩
  simp only[go_sem,r17,r18];have k6:upd K' id (some (PO st')) i6=some (.obj [.i (2+(bf st mh).1),.i 0,.i 0,.s [],.i 0,.s [],.b false] 222):=hac.1 _ _ g6;have k5:upd K' id (some (PO st')) i5=some (.obj [.i 0,.i 0,.i 0,.s [],.i 0,.s [],.b false] 222):=hac.1 _ _ g5;rw[ag _ _ n6]at k6;rw[ag _ _ n5]at k5;refine .intro (fun e=>?_) (fun e=>?_)
  ·have hlt:i<bs.length:=ad0 e
   simp only[go_sem,r16,r18];refine .at i ad4 aec ?_;cases db:(st'.bad !=0)
   ·have e1:st'.bad=0:=by grind
    rw[List.drop_eq_getElem_cons hlt]at hfin;simp only[jF,e1,if_true]at hfin;simp only[go_sem,r0,r1,adU,j0,PO,db];have hpl:=hah.2.2;refine(Bx ho he st' l' bs[i] hah.1 (by rw[hah.2.1,h1.2.1];have:=h1.2.2;omega) ad3).run hac fun y2 K2 hac2=>?_
    obtain⟨q1,q2⟩:=zq ho st' l' bs[i] hah.1;have w1:IntKind.i64.wrap ((i:Int)+1)=((i+1:Nat):Int):=aeg;simp only[go_sem,r18,w1];refine⟨_,?_,i+1,(iL ex st' l' bs[i]).2,(iL ex st' l' bs[i]).1,y2,K2,rfl,hac2,hah.trans q1,hlt,hfin,ad3,rfl,?_⟩
    ·omega
    refine⟨?_,?_,?_,?_,?_,?_,?_⟩
    all_goals simp only[go_sem,r0,r5,r6,r16,r17]
   ·have e1:st'.bad≠0:=by grind
    have hfin2:(l',st')=M:=by grind [List.drop_eq_getElem_cons,jF]
    clear hfin;have hfin:=hfin2;simp only[go_sem,r0,adU,j0,PO,db];refine(lF _ [41] hah.1).run ?_;simp only[go_sem,r1,r5,r6,aj,n5,n6,k5,k6];refine⟨.of ad7,?_⟩;exact .mk (.tup [y',cN ⟨2+(bf st mh).1,⟨0,0,[]⟩,⟨0,[],false⟩⟩]) (.refl _) (.refl _) ⟨y',aei,by rw[hMr,←hfin];exact(ag _ _ (Ne.symm n5)).trans (ah ..),afx⟩
  ·have hge:i=bs.length:=by grind
   subst hge;rw[List.drop_length]at hfin;simp only[jF]at hfin;simp only[go_sem,r0];refine(lF _ [41] hah.1).run ?_;simp only[go_sem,r1,r5,r6,aj,n5,n6,k5,k6];refine⟨.of ad7,?_⟩;exact .mk (.tup [y',cN ⟨2+(bf st mh).1,⟨0,0,[]⟩,⟨0,[],false⟩⟩]) (.refl _) (.refl _) ⟨y',aei,by rw[hMr,←hfin];simp_all [ag,Ne.symm,trans,ah],afx⟩
theorem tD:(U 222).sz=7:=aei
theorem AL:(U 222).bytes=72:=aei
theorem lJ(l:List aO):Sized 7 (l.map cN):=fun z hz=>by obtain⟨c,_,rfl⟩:=List.mem_map.1 hz;rfl
theorem Sh(f:Nat)(ih:EH (eR f) f):EH (eR (f+1)) (f+1):=fun st l hw hf hl G K id y ha=>by
 refine ad2 func270 52 [.tmp 4,.tmp 5] fun hwf=>?_
 simp only[go_sem];intro i6 hi6;have n6:=aF hi6;have hK6:K i6=none:=by rw[ag _ _ n6]at hi6;exact hi6
 have c6:∀(f:Heap) (x y:Option Blk),upd (upd f id x) i6 y=upd (upd f i6 y) id x:=fun f x y=>cA f x y n6.symm
 have gi6:upd G id none i6=none:=by
  cases hk:upd G id none i6 with
  |none=>rfl
  |some b=>rw[ha.1 _ _ hk]at hi6;cases hi6
 have hac:=ya ha hi6 (some (.obj [.i 0,.i 0,.i 0,.s [],.i 0,.s [],.b false] 222));simp only[go_sem,c6];refine(mI st hw).run ?_;simp only[go_sem,fR];intro i7 hi7;have n7:=aF hi7;have hi7' :=hi7;rw[ag _ _ n7]at hi7';have n76:=aF hi7';have m76:¬i7=i6:=n76;have m67:¬i6=i7:=fun e=>n76 e.symm
 have hK7:K i7=none:=by rw[ag _ _ n76]at hi7';exact hi7'
 have c7:∀(f:Heap) (x y:Option Blk),upd (upd f id x) i7 y=upd (upd f i7 y) id x:=fun f x y=>cA f x y n7.symm
 have e6:upd (upd G id none) i6 (some (.obj [.i 0,.i 0,.i 0,.s [],.i 0,.s [],.b false] 222))=upd (upd G i6 (some (.obj [.i 0,.i 0,.i 0,.s [],.i 0,.s [],.b false] 222))) id none:=c6 G none _;have hac7:∀k,Acc U 222 (upd (upd G i6 (some (.obj [.i 0,.i 0,.i 0,.s [],.i 0,.s [],.b false] 222))) id none) (upd (upd (upd K i6 (some (.obj [.i 0,.i 0,.i 0,.s [],.i 0,.s [],.b false] 222))) i7 k) id (some (PO st))) y (l.map cN):=fun k=>by
  have:=hac.sub (Sub.ak (k:=k) (by rw[c6];exact hi7))
  rw[e6,c6 K,c7]at this;exact aeE
 have hsG:Sub (upd G id none) (upd (upd G i6 (some (.obj [.i 0,.i 0,.i 0,.s [],.i 0,.s [],.b false] 222))) id none):=by rw[←e6];exact Sub.ak gi6
 have g6:upd (upd G i6 (some (.obj [.i 0,.i 0,.i 0,.s [],.i 0,.s [],.b false] 222))) id none i6=some (.obj [.i 0,.i 0,.i 0,.s [],.i 0,.s [],.b false] 222):=by rw[←e6,ah]
 simp only[go_sem,c7,aj,n7];refine(kN st [40] hw).run ?_;have hacX:∀tk NB st',Acc U 222 (upd G id none) (upd (upd (upd (upd K i6 (some (.obj [.i 0,.i 0,.i 0,.s [],.i 0,.s [],.b false] 222))) i7 tk) i6 NB) id (some (PO st'))) y (l.map cN):=fun tk NB st' =>by have:=(oK (tJ hsG (hac7 tk)) st').put gi6 ((ag _ _ n6).trans ((ag _ _ m67).trans (ah ..))) NB;rw[c6]at this;exact aeE
 obtain⟨⟨⟨lh,n⟩,sth⟩,eh⟩:∃x,jn (eR f) st l=x:=⟨_,rfl⟩;obtain⟨hha,hhl⟩:=D3 (ri f) st l hw;rw[eh]at hha hhl;simp only at hha hhl;have hwp:=hha.1.2.2;have hwq:=hha.1.1;have hpl:=hha.2.2;have hdec:decide ((32:Int)<((lh.length+1:Nat):Int))=decide (32<lh.length+1):=by
  by_cases h:32<lh.length+1
  ·simp only[h,decide_true];exact decide_eq_true ad3
  ·simp only[h,decide_false];exact decide_eq_false ad3
 cases d0:isD st [40]
 ·have et:ct st [40]=(false,st):=by simp[ct,d0]
  rw[et];cases d1:((aM st).kind==1)
  ·have en:jn (eR f) st l=((l,⟨1,(aD st).1,⟨0,[],false⟩⟩),(aD st).2):=by have:(aM st).kind≠1:=ag1;simp[jn,d0,this]
   simp only[go_sem,aj,n7,d1];exact aie
  ·have k1:(aM st).kind=1:=by simpa using d1
   cases d2:((aM st).s== [116,114,117,101])
   ·have k2:(aM st).s≠xg:=by unfold xg;simpa using d2
    cases d3:((aM st).s== [102,97,108,115,101])
    ·have k3:(aM st).s≠rj:=by unfold rj;simpa using d3
     have en:jn (eR f) st l=((l,⟨2,⟨0,0,[]⟩,(gu st).1⟩),(gu st).2):=by simp[jn,d0,k1,k2,k3]
     simp only[go_sem,aj,n7,d1,d2,d3,Bool.not_false];refine(Lu st hw).run ?_;rw[en]at eh;injection eh with eh1 eh2
     injection eh1 with eh3 eh4
     subst eh2;subst eh3;subst eh4;simp only[go_sem,c6,aj,n6,m67,Df];refine(hacX _ _ _).app (zs:=[cN (⟨2,⟨0,0,[]⟩,(gu st).1⟩:aO)]) ahQ ahP (fun k hk=>hk) ag7 (by rw[tD];exact lJ [(⟨2,⟨0,0,[]⟩,(gu st).1⟩:aO)]) agR fun y3 H3 hy3 hk3=>?_
     have hH3:H3 id=some (PO (gu st).2):=hk3 _ _ _ (ah ..);have hb3:H3 i6=some (.obj [.v (.int .i64 (⟨2,⟨0,0,[]⟩,(gu st).1⟩:aO).op),.v (.int .i64 (⟨2,⟨0,0,[]⟩,(gu st).1⟩:aO).val.kind),.v (.int .i64 (⟨2,⟨0,0,[]⟩,(gu st).1⟩:aO).val.n),.s (⟨2,⟨0,0,[]⟩,(gu st).1⟩:aO).val.s,.v (.int .i64 (⟨2,⟨0,0,[]⟩,(gu st).1⟩:aO).attr.cat),.s (⟨2,⟨0,0,[]⟩,(gu st).1⟩:aO).attr.name,.v (.bool (⟨2,⟨0,0,[]⟩,(gu st).1⟩:aO).attr.must)] 222):=hk3 _ _ _ ((ag _ _ n6).trans (ah ..));simp only[go_sem,hy3.len,adX,adT,List.length_cons,List.length_nil,Nat.zero_add,hdec];refine(cV (gu st).2 _ hha.1).go hH3 ?_;simp only[go_sem,aj,n6,hb3];refine⟨.of ad7,?_⟩;have efin:eR (f+1) st l=((l++ [(⟨2,⟨0,0,[]⟩,(gu st).1⟩:aO)],(⟨2,⟨0,0,[]⟩,(gu st).1⟩:aO).op==2),bJ (gu st).2 (decide (32<l.length+1))):=ahW;exact .mk (.tup [y3,.b ((⟨2,⟨0,0,[]⟩,(gu st).1⟩:aO).op==2)]) (.refl _) (.refl _) ⟨y3,by rw[efin],agu,aeQ⟩
    ·have k3:(aM st).s=rj:=by unfold rj;simpa using d3
     have en:jn (eR f) st l=((l,⟨1,(aD st).1,⟨0,[],false⟩⟩),(aD st).2):=by simp[jn,d0,k1,k3]
     simp only[go_sem,aj,n7,d1,d2,d3,Bool.not_false,Bool.not_true];exact aie
   ·have k2:(aM st).s=xg:=by unfold xg;simpa using d2
    have en:jn (eR f) st l=((l,⟨1,(aD st).1,⟨0,[],false⟩⟩),(aD st).2):=by simp[jn,d0,k1,k2]
    simp only[go_sem,aj,n7,d1,d2,Bool.not_true];exact aie
 ·have et:ct st [40]=(true,bl st):=by simp[ct,d0]
  have h1:=fj hw (dQ d0);have hnp:(bl st).pos=st.pos+1:=rfl;have hnt:(bl st).ts=st.ts:=rfl;rw[et];simp only[go_sem];have ef:rq (eR f) (bl st) l=((lh,n),sth):=by rw[←eh];simp[jn,d0]
  have hfx:=Gb (ri f) ih (bl st) l h1.1 (by rw[hnt];omega) ad3
  simp only[ef]at hfx;refine hfx.run (oK (hac7 _) _) fun y2 K2 hac2=>?_
  have k6:=hac2.1 _ _ g6;rw[ag _ _ n6]at k6;simp only[go_sem,c6,aj,n6,k6,cN];have hac3:=(tJ hsG hac2).put gi6 ((ag _ _ n6).trans k6) (some (.obj [.i n.op,.i n.val.kind,.i n.val.n,.s n.val.s,.i n.attr.cat,.s n.attr.name,.b n.attr.must] 222));rw[c6]at hac3;refine(hac3).app (zs:=[cN n]) ahQ ahP (fun k hk=>hk) ag7 (by rw[tD];exact lJ [n]) agR fun y3 H3 hy3 hk3=>?_
  have hH3:H3 id=some (PO sth):=hk3 _ _ _ (ah ..);have hb3:H3 i6=some (.obj [.i n.op,.i n.val.kind,.i n.val.n,.s n.val.s,.i n.attr.cat,.s n.attr.name,.b n.attr.must] 222):=hk3 _ _ _ ((ag _ _ n6).trans (ah ..));simp only[go_sem,hy3.len,adX,adT,List.length_cons,List.length_nil,Nat.zero_add,hdec];refine(cV sth _ hha.1).go hH3 ?_;simp only[go_sem,aj,n6,hb3];refine⟨.of ad7,?_⟩;have efin:eR (f+1) st l=((lh++ [n],n.op==2),bJ sth (decide (32<lh.length+1))):=by simp only[eR,eh]
  exact .mk (.tup [y3,.b (n.op==2)]) (.refl _) (.refl _) ⟨y3,by rw[efin],agu,aeQ⟩
theorem Ma:∀f,EH (eR f) f
 |0=>fun st l hw hf _=>absurd hw.1 ad3
 |f+1=>Sh f (Ma f)
theorem F7{P:Program}{Q':AV→Heap→Prop}(hf:ai P f args h Q)(hq:∀x h1,Q x h1→∃y h2,Weak x y∧Sub h2 h1∧Q' y h2):ai P f args h Q' :=
 fun c vs h1 h2 h3 h4=>(hf c vs h1 h2 h3 h4).mono fun u w' ⟨c',x,h',g1,g2,g3,g4,g5,g6⟩=>by obtain⟨y,h'',k1,k2,k3⟩:=hq x h' g6;exact⟨c',y,h'',g1,g2,g3,g4.weak k1,k2.trans g5,k3⟩
def flat:AV→AV
 |.sl xs _=> .sl xs .no
 |x=>x
theorem gD(xs:List AV):Weak (.agg xs) (.agg (xs.map flat)):=.agg _ _ aea fun i h1 h2=>by rw[adU];cases xs[i]<;>first|exact .refl _|exact .sl _ _
theorem Kg(st:PS)(hw:WfP st):PC 237 [.sl [] .full,.b false] st (dY (iL (eR st.ts.length) st [] false).1) (iL (eR st.ts.length) st [] false).2:=.of fun G id=>by
 have hx:=Bx (ri st.ts.length) (Ma st.ts.length) st [] false hw ad3 aea;refine F7 (hx G G id (.sl [] .full) (.full (base_start G id _))) fun r h1 ⟨y',e1,e2,e3⟩=>⟨_,upd G id (some (PO (iL (eR st.ts.length) st [] false).2)),?_,fE e3.1 e2,rfl,rfl⟩
 subst e1;exact e3.weak
theorem Nu(deny:Bool)(st:PS)(hw:WfP st):PC 195 [.b deny] st (aC (qD deny st).1) (qD deny st).2:=.of fun G id=>by
 have h1:=nK hw;have h2:=Cd h1.1;have h3:=HA h2.1;have h4:=Cb h3.1;have ht:=Q4 _ h1.1;simp only[aT]at ht;refine ad2 func195 23 [.cell 4 217] fun hwf=>?_
 simp only[go_sem];intro i4 hi4;have n4:=aF hi4;have hG4:G i4=none:=aeF;have c4:∀(f:Heap) (x y:Option Blk),upd (upd f id x) i4 y=upd (upd f i4 y) id x:=fun f x y=>cA f x y n4.symm
 simp only[go_sem,c4];refine(uA st hw).run ?_;simp only[go_sem];refine ht.run ?_;simp only[go_sem];intro i5 hi5;have n5:=aF hi5;have hi5' :=hi5;rw[ag _ _ n5]at hi5';have n54:=aF hi5';have m54:¬i5=i4:=n54;have m45:¬i4=i5:=n54.symm;have hG5:G i5=none:=aeF;have c5:∀(f:Heap) (x y:Option Blk),upd (upd f id x) i5 y=upd (upd f i5 y) id x:=fun f x y=>cA f x y n5.symm
 have c45:∀(f:Heap) (x y:Option Blk),upd (upd f i5 x) i4 y=upd (upd f i4 y) i5 x:=fun f x y=>cA f x y n54
 simp only[go_sem,c5,aj,n5];refine(kN _ ifT h2.1).run ?_;cases d0:isD (ig (cr st).2).2 ifT
 ·have et:ct (ig (cr st).2).2 ifT=(false,(ig (cr st).2).2):=by grind [ct]
  have ec:qY (ig (cr st).2).2=([],(ig (cr st).2).2):=by grind [qY]
  have er:qD deny st=(⟨(cr st).1,deny,(ig (cr st).2).1,[],(gH (ig (cr st).2).2).1⟩,eC (gH (ig (cr st).2).2).2 [59]):=by grind [qD]
  rw[ec]at h4;have ho:=tV _ h2.1;simp only[ay]at ho;rw[et];simp only[go_sem];refine ho.run ?_;simp only[go_sem,c5,aj,n5];refine(lF _ [59] h4.1).run ?_;simp only[go_sem,c4,c45,aj,n4,n5,m45];exact .mk (h' :=upd G id (some (PO (eC (gH (ig (cr st).2).2).2 [59])))) (aC ⟨(cr st).1,deny,(ig (cr st).2).1,[],(gH (ig (cr st).2).2).1⟩) (gD _) (Sub.both aev _ _) ⟨by rw[er],by rw[er]⟩
 ·have et:ct (ig (cr st).2).2 ifT=(true,bl (ig (cr st).2).2):=by grind [ct]
  obtain⟨⟨cn,stc⟩,ec⟩:∃x,qY (ig (cr st).2).2=x:=⟨_,rfl⟩;have er:qD deny st=(⟨(cr st).1,deny,(ig (cr st).2).1,cn,(gH stc).1⟩,eC (gH stc).2 [59]):=by grind [qD]
  have hcnd:=Kg (bl (ig (cr st).2).2) (fj h2.1 (dQ d0)).1;have ec2:iL (eR (bl (ig (cr st).2).2).ts.length) (bl (ig (cr st).2).2) [] false=(cn,stc):=by rw[←ec];simp only[qY,d0,if_true];rfl
  rw[ec2]at hcnd;simp only[dY]at hcnd;rw[ec]at h3 h4;have ho:=tV _ h3.1;simp only[ay]at ho;rw[et];simp only[go_sem];refine hcnd.run ?_;simp only[go_sem,c5,aj,n5];refine ho.run ?_;simp only[go_sem,c5,aj,n5];refine(lF _ [59] h4.1).run ?_;simp only[go_sem,c4,c45,aj,n4,n5,m45];exact .mk (h' :=upd G id (some (PO (eC (gH stc).2 [59])))) (aC ⟨(cr st).1,deny,(ig (cr st).2).1,cn,(gH stc).1⟩) (gD _) (Sub.both aev _ _) ⟨by rw[er],by rw[er]⟩
theorem P9:(U 217).sz=5:=aei
theorem Wq:(U 217).bytes=96:=aei
theorem xR(l:List cS):Sized 5 (l.map aC):=fun z hz=>by obtain⟨c,_,rfl⟩:=List.mem_map.1 hz;rfl
theorem SZ(st:PS)(hw:WfP st)(hr:st.rules≤64):PC 142 [] st (.sl ((kI 17 st []).1.map aC) .no) (kI 17 st []).2:=.of fun G id=>by
 obtain⟨M,eM⟩:∃M,kI 17 st []=M:=⟨_,rfl⟩;rw[eM];refine ad2 func142 51 [.tmp 2] fun hwf=>?_
 simp only[go_sem];have hB:upd G id none id=none:=ah ..;refine .intro (fun m ρ H=>∃(f:Nat) (st' :PS) (l:List cS) (y:AV),H id=some (PO st')∧Acc U 217 (upd G id none) H y (l.map aC)∧Ah st st'∧st'.rules≤64∧kI f st' l=M∧f+l.length=17∧l.length≤16∧m=f∧lk ρ 0=some (.ptr id 0)∧lk ρ 3=some y) 17 ?_ ?_
 ·refine⟨17,st,[],.sl ([].map aC) .full,ah ..,.full (base_start G id _),.refl hw,hr,eM,aea,aea,rfl,?_,?_⟩<;>simp only[go_sem]<;>rfl
 ·rintro m ρ H ⟨f,st',l,y,hH,hy,ha,hru,hfin,hf,hll,rfl,r0,r3⟩
  have hlen:=ha.1.2.2;have hpos:=ha.1.1;obtain⟨g,rfl⟩:∃g,m=g+1:=⟨m - 1,ad3⟩;simp only[go_sem,r0];refine(uh st' qe ha.1).go hH ?_;rw[bL hH];have fin:isD st' qe=false→isD st' jj=false→(l,st')=M:=fun d1 d2=>by grind [kI]
  have rest:isD st' qe=true∨isD st' jj=true→True:=fun _=>trivial
  cases d1:isD st' qe
  ·simp only[go_sem,r0]
   refine(uh st' jj ha.1).go hH ?_;rw[bL hH];cases d2:isD st' jj
   ·simp only[go_sem,r3]
    have e:=fin d1 d2;exact .mk (h' :=upd G id (some (PO M.2))) (.sl (M.1.map aC) .no) ae5 (by rw[←e];exact fE hy.1 hH) ⟨rfl,rfl⟩
   ·exact aid
  ·exact aid
theorem P8:(U 38).sz=7:=aei
theorem Wo:(U 38).bytes=128:=aei
theorem xQ(l:List bF):Sized 7 (l.map aL):=fun z hz=>by obtain⟨c,_,rfl⟩:=List.mem_map.1 hz;cases c;rfl
theorem Su(pol:PoF)(d:Nat)(hd5:d≤5)(hp:∀st,WfP st→st.rules≤64→d≤4→PC 80 [.i d] st (aL (pol st).1) (pol st).2)(hpa:∀st,WfP st→Ah st (pol st).2)(hpr:∀st,om st (pol st).2)
  (st:PS) (hw:WfP st) (hr:st.rules≤64):PC 141 [.i d] st (.sl ((kg pol (decide ((4:Int)<(d:Int))) 17 st []).1.map aL) .no) (kg pol (decide ((4:Int)<(d:Int))) 17 st []).2:=.of fun G id=>by
 obtain⟨M,eM⟩:∃M,kg pol (decide ((4:Int)<(d:Int))) 17 st []=M:=⟨_,rfl⟩;rw[eM];refine ad2 func141 33 [.tmp 4] fun hwf=>?_
 simp only[go_sem];have hB:upd G id none id=none:=ah ..;refine .intro (fun m ρ H=>∃(f:Nat) (st' :PS) (l:List bF) (y:AV),H id=some (PO st')∧Acc U 38 (upd G id none) H y (l.map aL)∧Ah st st'∧st'.rules≤64∧kg pol (decide ((4:Int)<(d:Int))) f st' l=M∧f+l.length=17∧l.length≤16∧m=f∧lk ρ 0=some (.ptr id 0)∧lk ρ 1=some (.i d)∧lk ρ 5=some y) 17 ?_ ?_
 ·refine⟨17,st,[],.sl ([].map aL) .full,ah ..,.full (base_start G id _),.refl hw,hr,eM,aea,aea,rfl,?_,?_,?_⟩<;>simp only[go_sem]<;>rfl
 ·rintro m ρ H ⟨f,st',l,y,hH,hy,ha,hru,hfin,hf,hll,rfl,r0,r1,r5⟩
  have hlen:=ha.1.2.2;have hpos:=ha.1.1;obtain⟨g,rfl⟩:∃g,m=g+1:=⟨m - 1,ad3⟩;simp only[go_sem,r0];refine(uh st' qg ha.1).go hH ?_;rw[bL hH];have fin:isD st' qg=false→isD st' GV=false→(l,st')=M:=fun d1 d2=>by grind [kg]
  cases d1:isD st' qg
  ·simp only[go_sem,r0]
   refine(uh st' GV ha.1).go hH ?_;rw[bL hH];cases d2:isD st' GV
   ·simp only[go_sem,r5]
    have e:=fin d1 d2;exact .mk (h' :=upd G id (some (PO M.2))) (.sl (M.1.map aL) .no) ae5 (by rw[←e];exact fE hy.1 hH) ⟨rfl,rfl⟩
   ·have hd:isD st' qg=true∨isD st' GV=true:=by grind
    have eb:=(ni hd).1;have ek:=(ni hd).2;have db:(st'.bad !=0)=false:=ad4;have gP:=hH;unfold PO at gP;have lim:l.length=16∨decide ((4:Int)<(d:Int))=true→(l,bJ st' true)=M:=fun h=>by rw[←hfin];simp only[kg,if_pos hd,if_pos h]
    have hdl:bJ st' true=bM st' 6 (aM st').pos:=rfl;have hlb:((bJ st' true).bad !=0)=true:=by grind [bM]
    cases dA:((l.length:Int)==16)
    ·cases dB:decide ((4:Int)<(d:Int))
     ·have nA:l.length≠16:=fun e=>by grind
      have hno:¬(l.length=16∨decide ((4:Int)<(d:Int))=true):=fun h=>h.elim nA (fun e=>ad4)
      simp only[kg,if_pos hd,if_neg hno]at hfin;rw[dB]at hfin;have hd4:d≤4:=ad4;simp only[go_sem,r0,r1,r5,hy.len,adT,dA,dB];refine(cV st' false ha.1).go hH ?_;rw[show bJ st' false=st' from rfl,bL hH]
      have h3:=hpa st' ha.1;have hrp:=hp st' ha.1 hru hd4;have hr3:=vM (hpr st') hru;obtain⟨x,st2,e2⟩:∃x st2,pol st' =(x,st2):=⟨_,_,rfl⟩;rw[e2]at hfin hrp h3 hr3;obtain⟨pid,pset,palg,ptgt,prules,pkids,pobls⟩:=x;simp only[aL]at hrp hfin h3 hr3;simp only[go_sem,r0,r1,r5,gP,db];refine hrp.go hH ?_;simp only[go_sem];refine(hy.put hB hH _).app (zs:=[aL ⟨pid,pset,palg,ptgt,prules,pkids,pobls⟩]) ad6 ad6 (fun k hk=>hk) (by grind [P8,xQ]) agn (by grind [Wo]) fun y' H2 hy' hk2=>?_
      have hH2:H2 id=some (PO st2):=hk2 _ _ _ (ah ..);simp only[go_sem];refine⟨_,?_,g,st2,l++ [⟨pid,pset,palg,ptgt,prules,pkids,pobls⟩],y',hH2,ad4,ha.trans h3,hr3,hfin,ad4,ad4,rfl,?_,?_,?_⟩
      ·omega
      all_goals simp only[go_sem,r0,r1]
     ·have e:=lim (.inr dB)
      simp only[go_sem,r0,r1,r5,hy.len,adT,dA,dB];refine(cV st' true ha.1).go hH ?_;have g3:upd H id (some (PO (bJ st' true))) id=some (PO (bJ st' true)):=ah ..;unfold PO at g3;simp only[go_sem,r0,r5,g3,hlb,PO];exact .mk (h' :=upd G id (some (PO M.2))) (.sl (M.1.map aL) .no) ae5 aeC ⟨rfl,rfl⟩
    ·have nA:l.length=16:=by grind
     have e:=lim (.inl nA);simp only[go_sem,r0,r5,hy.len,adT,dA];refine(cV st' true ha.1).go hH ?_;have g3:upd H id (some (PO (bJ st' true))) id=some (PO (bJ st' true)):=ah ..;unfold PO at g3;simp only[go_sem,r0,r5,g3,hlb,PO];exact .mk (h' :=upd G id (some (PO M.2))) (.sl (M.1.map aL) .no) ae5 aeC ⟨rfl,rfl⟩
  ·have hd:isD st' qg=true∨isD st' GV=true:=by grind
   have eb:=(ni hd).1;have ek:=(ni hd).2;have db:(st'.bad !=0)=false:=ad4;have gP:=hH;unfold PO at gP;have lim:l.length=16∨decide ((4:Int)<(d:Int))=true→(l,bJ st' true)=M:=fun h=>by rw[←hfin];simp only[kg,if_pos hd,if_pos h]
   have hdl:bJ st' true=bM st' 6 (aM st').pos:=rfl;have hlb:((bJ st' true).bad !=0)=true:=by grind [bM]
   cases dA:((l.length:Int)==16)
   ·cases dB:decide ((4:Int)<(d:Int))
    ·have nA:l.length≠16:=fun e=>by grind
     have hno:¬(l.length=16∨decide ((4:Int)<(d:Int))=true):=fun h=>h.elim nA (fun e=>ad4)
     simp only[kg,if_pos hd,if_neg hno]at hfin;rw[dB]at hfin;have hd4:d≤4:=ad4;simp only[go_sem,r0,r1,r5,hy.len,adT,dA,dB];refine(cV st' false ha.1).go hH ?_;rw[show bJ st' false=st' from rfl,bL hH]
     have h3:=hpa st' ha.1;have hrp:=hp st' ha.1 hru hd4;have hr3:=vM (hpr st') hru;obtain⟨x,st2,e2⟩:∃x st2,pol st' =(x,st2):=⟨_,_,rfl⟩;rw[e2]at hfin hrp h3 hr3;obtain⟨pid,pset,palg,ptgt,prules,pkids,pobls⟩:=x;simp only[aL]at hrp hfin h3 hr3;simp only[go_sem,r0,r1,r5,gP,db];refine hrp.go hH ?_;simp only[go_sem];refine(hy.put hB hH _).app (zs:=[aL ⟨pid,pset,palg,ptgt,prules,pkids,pobls⟩]) ad6 ad6 (fun k hk=>hk) (by grind [P8,xQ]) agn (by grind [Wo]) fun y' H2 hy' hk2=>?_
     have hH2:H2 id=some (PO st2):=hk2 _ _ _ (ah ..);simp only[go_sem];refine⟨_,?_,g,st2,l++ [⟨pid,pset,palg,ptgt,prules,pkids,pobls⟩],y',hH2,ad4,ha.trans h3,hr3,hfin,ad4,ad4,rfl,?_,?_,?_⟩
     ·omega
     all_goals simp only[go_sem,r0,r1]
    ·have e:=lim (.inr dB)
     simp only[go_sem,r0,r1,r5,hy.len,adT,dA,dB];refine(cV st' true ha.1).go hH ?_;have g3:upd H id (some (PO (bJ st' true))) id=some (PO (bJ st' true)):=ah ..;unfold PO at g3;simp only[go_sem,r0,r5,g3,hlb,PO];exact .mk (h' :=upd G id (some (PO M.2))) (.sl (M.1.map aL) .no) ae5 aeC ⟨rfl,rfl⟩
   ·have nA:l.length=16:=by grind
    have e:=lim (.inl nA);simp only[go_sem,r0,r5,hy.len,adT,dA];refine(cV st' true ha.1).go hH ?_;have g3:upd H id (some (PO (bJ st' true))) id=some (PO (bJ st' true)):=ah ..;unfold PO at g3;simp only[go_sem,r0,r5,g3,hlb,PO];exact .mk (h' :=upd G id (some (PO M.2))) (.sl (M.1.map aL) .no) ae5 aeC ⟨rfl,rfl⟩
theorem EG(r:Nat)(d:Nat)(hrd:r+d=4)(hp:∀st,WfP st→st.rules≤64→d+1≤4→PC 80 [.i (d+1:Nat)] st (aL (gU r st).1) (gU r st).2)(st:PS)(hw:WfP st)(hr:st.rules≤64):
  PC 80 [.i d] st (aL (gU (r+1) st).1) (gU (r+1) st).2:=.of fun G id=>by
 have h1:=gS nq hw;have h2:=nK h1.1;have h3:=gS ye h2.1;have h4:=Cd h3.1;have h5:Ah _ (di st).2:=js [123] h4.1;have ht:=Q4 _ h3.1;simp only[aT]at ht;have hrh:=vM (EN st).big hr;have hset:(di st).1.1=((bf st nq).1==2):=rfl;have w1:IntKind.i64.wrap ((d:Int)+1)=((d+1:Nat):Int):=aeg;have hdp:(r==0)=decide ((4:Int)<((d+1:Nat):Int)):=by grind
 have hk:=Su (gU r) (d+1) ad3 hp (fun _ h=>yb r _ h) (CL r) _ h5.1 hrh
 have hs:=SZ _ h5.1 hrh;refine ad2 func80 39 [.cell 4 38] fun hwf=>?_
 simp only[go_sem];intro i4 hi4;have n4:=aF hi4;have hG4:G i4=none:=aeF;have c4:∀(f:Heap) (x y:Option Blk),upd (upd f id x) i4 y=upd (upd f i4 y) id x:=fun f x y=>cA f x y n4.symm
 simp only[go_sem,c4];intro i5 hi5;have n5:=aF hi5;have hi5' :=hi5;rw[ag _ _ n5]at hi5';have n54:=aF hi5';have m54:¬i5=i4:=n54;have m45:¬i4=i5:=n54.symm;have hG5:G i5=none:=aeF;have c5:∀(f:Heap) (x y:Option Blk),upd (upd f id x) i5 y=upd (upd f i5 y) id x:=fun f x y=>cA f x y n5.symm
 have c45:∀(f:Heap) (x y:Option Blk),upd (upd f i5 x) i4 y=upd (upd f i4 y) i5 x:=fun f x y=>cA f x y n54
 simp only[go_sem,c5];refine(oN st nq .full ad6 hw).run ?_;simp only[go_sem,c5,aj,n5];refine(uA _ h1.1).run ?_;simp only[go_sem,c5,aj,n5];refine(oN _ ye .full ad6 h2.1).run ?_;simp only[go_sem,c5,aj,n5];refine ht.run ?_;simp only[go_sem,c5,aj,n5];refine(lF _ [123] h4.1).run ?_;cases ds:((bf st nq).1==2)
 ·rw[ds]at hset
  simp only[go_sem,aj,n5];have eb:qw (gU r) (r==0) (di st).1.1 (di st).2=(((kI 17 (di st).2 []).1,[]),(kI 17 (di st).2 []).2):=by grind [qw]
  have hb:=Ca (fun _ h=>yb r _ h) (r==0) (di st).1.1 h5.1
  obtain⟨⟨rl,stb⟩,er⟩:∃x,kI 17 (di st).2 []=x:=⟨_,rfl⟩;rw[er]at eb hs;rw[eb]at hb;have ho:=tV _ (js [125] hb.1).1;simp only[ay]at ho hs;refine hs.run ?_;simp only[go_sem,c5,aj,n5];refine(lF _ [125] hb.1).run ?_;simp only[go_sem];refine ho.run ?_;simp only[go_sem,c4,c5,c45,aj,n4,n5,m45];have efin:gU (r+1) st=(.mk (di st).1.2.1 false (di st).1.2.2.1 (di st).1.2.2.2 rl [] (gH (eC stb [125])).1,(gH (eC stb [125])).2):=by grind [gU]
  exact .mk (h' :=upd G id (some (PO (gH (eC stb [125])).2))) (aL (.mk (di st).1.2.1 false (di st).1.2.2.1 (di st).1.2.2.2 rl [] (gH (eC stb [125])).1)) (gD _) (Sub.both aev _ _) ⟨ad4,ad4⟩
 ·rw[ds]at hset
  simp only[go_sem,aj,n5,w1];have eb:qw (gU r) (r==0) (di st).1.1 (di st).2=(([],(kg (gU r) (r==0) 17 (di st).2 []).1),(kg (gU r) (r==0) 17 (di st).2 []).2):=by grind [qw]
  have hb:=Ca (fun _ h=>yb r _ h) (r==0) (di st).1.1 h5.1
  rw[←hdp]at hk;obtain⟨⟨kl,stb⟩,er⟩:∃x,kg (gU r) (r==0) 17 (di st).2 []=x:=⟨_,rfl⟩;rw[er]at eb hk;rw[eb]at hb;have ho:=tV _ (js [125] hb.1).1;simp only[ay]at ho hk;refine hk.run ?_;simp only[go_sem,c5,aj,n5];refine(lF _ [125] hb.1).run ?_;simp only[go_sem];refine ho.run ?_;simp only[go_sem,c4,c5,c45,aj,n4,n5,m45];have efin:gU (r+1) st=(.mk (di st).1.2.1 true (di st).1.2.2.1 (di st).1.2.2.2 [] kl (gH (eC stb [125])).1,(gH (eC stb [125])).2):=by grind [gU]
  exact .mk (h' :=upd G id (some (PO (gH (eC stb [125])).2))) (aL (.mk (di st).1.2.1 true (di st).1.2.2.1 (di st).1.2.2.2 [] kl (gH (eC stb [125])).1)) (by simp only[aL,aQ];exact gD _) (Sub.both aev _ _) ⟨ad4,ad4⟩
theorem EE:∀(r d:Nat),r+d=4→∀st,WfP st→st.rules≤64→PC 80 [.i d] st (aL (gU (r+1) st).1) (gU (r+1) st).2
 |0,d,hrd=>fun st hw hr=>EG 0 d hrd ad3 st hw hr
 |r+1,d,hrd=>fun st hw hr=>EG (r+1) d hrd (fun st hw hr _=>EE r (d+1) ad3 st hw hr) st hw hr
theorem Lp(l:List (List bR))(h:Heap):ai prog 271 [cB l] h fun r h' =>r= .i (xm l)∧h' =h:=by
 refine ad2 func271 25 [.tmp 2] fun hwf=>?_
 simp only[go_sem,cB,adT];refine(Ih _ _).pthen ?_;cases d1:(kR l.length !=0)
 case true=>have e1:kR l.length≠0:=ad4;simp only[go_sem,d1];exact .same (.refl _) ⟨by grind [xm,au],rfl⟩
 have e1:kR l.length=0:=ad4;have hlen:=Ej e1;simp only[go_sem,d1,adT];refine .intro (fun m ρ h' =>Ab.Sub h h'∧∃i:Nat,i≤l.length∧m=l.length - i∧iJ xl (l.take i)=0∧lk ρ 13=some (cB l)∧lk ρ 14=some (.i l.length)∧lk ρ 15=some (.i i)) l.length ?_ ?_
 ·refine⟨.refl _,0,ad3,rfl,rfl,?_,?_,?_⟩<;>simp only[go_sem,cB]
 ·rintro m ρ h' ⟨hs,i,hi,rfl,hc,r12,r13,r14⟩
  simp only[go_sem,r13,r14];refine .intro (fun e=>?_) (fun e=>?_)
  ·have hlt:i<l.length:=ad0 e
   have w1:IntKind.i64.wrap ((i:Int)+1)=((i+1:Nat):Int):=aeg;simp only[go_sem,r12,r14,cB];refine .at i ad4 aec ?_;simp only[go_sem,adU,gm];refine(Lo l[i] _).pthen ?_;cases d2:(xl l[i] !=0)
   ·have e2:xl l[i]=0:=by grind
    simp only[go_sem,r14,d2,w1];refine⟨_,?_,hs,i+1,ad3,rfl,wD hlt hc e2,?_,?_,?_⟩
    ·omega
    all_goals simp only[go_sem,r12,r13,cB]
   ·have e2:xl l[i]≠0:=by grind
    simp only[go_sem,d2];refine .mk _ (.refl _) hs ⟨?_,rfl⟩
    grind [xm,Bd,au]
  ·have hge:i=l.length:=by grind
   subst hge;rw[List.take_length]at hc;simp only[go_sem];exact .mk _ (.refl _) hs ⟨by grind [xm,au],rfl⟩
theorem vQ(l:gj)(h:Heap):ai prog 239 [aT l] h fun r h' =>r= .i (l8 l)∧h' =h:=by
 refine ad2 func239 21 [.tmp 2] fun hwf=>?_
 cases d1:decide (8<(l.length:Int))
 case true=>have e1:8<l.length:=ad4;simp only[go_sem,aT,adT,d1];exact .same (.refl _) ⟨by grind [l8,au],rfl⟩
 have e1:¬8<l.length:=ad4;simp only[go_sem,d1,aT,adT];refine .intro (fun m ρ h' =>Ab.Sub h h'∧∃i:Nat,i≤l.length∧m=l.length - i∧iJ xm (l.take i)=0∧lk ρ 9=some (aT l)∧lk ρ 10=some (.i l.length)∧lk ρ 11=some (.i i)) l.length ?_ ?_
 ·refine⟨.refl _,0,ad3,rfl,rfl,?_,?_,?_⟩<;>simp only[go_sem,aT]
 ·rintro m ρ h' ⟨hs,i,hi,rfl,hc,r12,r13,r14⟩
  simp only[go_sem,r13,r14];refine .intro (fun e=>?_) (fun e=>?_)
  ·have hlt:i<l.length:=ad0 e
   have w1:IntKind.i64.wrap ((i:Int)+1)=((i+1:Nat):Int):=aeg;simp only[go_sem,r12,r14,aT];refine .at i ad4 aec ?_;simp only[go_sem,adU,cB];refine(Lp l[i] _).pthen ?_;cases d2:(xm l[i] !=0)
   ·have e2:xm l[i]=0:=by grind
    simp only[go_sem,r14,d2,w1];refine⟨_,?_,hs,i+1,ad3,rfl,wD hlt hc e2,?_,?_,?_⟩
    ·omega
    all_goals simp only[go_sem,r12,r13,aT]
   ·have e2:xm l[i]≠0:=by grind
    simp only[go_sem,d2];refine .mk _ (.refl _) hs ⟨?_,rfl⟩
    grind [l8,Bd,au]
  ·have hge:i=l.length:=by grind
   subst hge;rw[List.take_length]at hc;simp only[go_sem];exact .mk _ (.refl _) hs ⟨by grind [l8,au],rfl⟩
theorem CF(l:List cE)(h:Heap):ai prog 240 [ay l] h fun r h' =>r= .i (iK l)∧h' =h:=by
 refine ad2 func240 39 [.tmp 2] fun hwf=>?_
 cases d1:decide (8<(l.length:Int))
 case true=>have e1:8<l.length:=ad4;simp only[go_sem,ay,adT,d1];exact .same (.refl _) ⟨by grind [iK,au],rfl⟩
 have e1:¬8<l.length:=ad4;simp only[go_sem,d1,ay,adT];refine .intro (fun m ρ h' =>Ab.Sub h h'∧∃i:Nat,i≤l.length∧m=l.length - i∧(l.take i).all rE=true∧lk ρ 8=some (ay l)∧lk ρ 9=some (.i l.length)∧lk ρ 10=some (.i i)) l.length ?_ ?_
 ·refine⟨.refl _,0,ad3,rfl,rfl,?_,?_,?_⟩<;>simp only[go_sem,ay]
 ·rintro m ρ h' ⟨hs,i,hi,rfl,hc,r12,r13,r14⟩
  simp only[go_sem,r13,r14];refine .intro (fun e=>?_) (fun e=>?_)
  ·have hlt:i<l.length:=ad0 e
   have w1:IntKind.i64.wrap ((i:Int)+1)=((i+1:Nat):Int):=aeg;simp only[go_sem,r12,r14,ay];refine .at i ad4 aec ?_;simp only[go_sem,adU,bh];intro id hid;have bad:rE l[i]=false→iK l=1:=fun hb=>by have:l.all rE=false:=List.all_eq_false.2 ⟨_,adY hlt,ad4⟩;simp[iK,e1,this]
   cases c1:decide (l[i].on<1)
   case true=>simp only[go_sem,c1];exact .mk _ (.refl _) (hs.new hid _) ⟨by rw[bad (by have:=adV c1;simp[rE];omega)];rfl,rfl⟩
   cases c2:decide (2<l[i].on)
   case true=>simp only[go_sem,c1,c2];exact .mk _ (.refl _) (hs.new hid _) ⟨by rw[bad (by have:=adV c2;simp[rE];omega)];rfl,rfl⟩
   cases c3:decide (l[i].kind<1)
   case true=>simp only[go_sem,c1,c2,c3];exact .mk _ (.refl _) (hs.new hid _) ⟨by rw[bad (by have:=adV c3;simp[rE];omega)];rfl,rfl⟩
   cases c4:decide (4<l[i].kind)
   case true=>simp only[go_sem,c1,c2,c3,c4];exact .mk _ (.refl _) (hs.new hid _) ⟨by rw[bad (by have:=adV c4;simp[rE];omega)];rfl,rfl⟩
   simp only[go_sem,c1,c2,c3,c4];refine(pX _ _).pthen ?_;cases d2:bw l[i].arg
   ·simp only[go_sem]
    exact .mk _ (.refl _) (hs.new hid _) ⟨by rw[bad (by grind [rE])];rfl,rfl⟩
   ·simp only[go_sem,r14,w1]
    refine⟨_,?_,hs.new hid _,i+1,ad3,rfl,?_,?_,?_,?_⟩
    ·omega
    ·grind [adW,List.take_succ_eq_append_getElem,rE]
    all_goals simp only[go_sem,r12,r13,ay]
  ·have hge:i=l.length:=by grind
   subst hge;rw[List.take_length]at hc;simp only[go_sem];exact .mk _ (.refl _) hs ⟨by grind [iK,au],rfl⟩
theorem N1(op:Int)(h:Heap):ai prog 296 [.i op] h fun r h' =>r=(match iR op with
  |none=> .tup [.sl [] .no,.b false]
  |some w=> .tup [.sl (w.map j0) .no,.b true])∧h' =h:=by
 refine ad2 func296 35 [.tmp 2,.tmp 3] fun hwf=>?_
 cases k1:(op==1)
 case true=>have e1:op=1:=ad4;simp only[go_sem,k1];exact .mk _ (fH _) (.refl _) ⟨ahp,rfl⟩
 have n1:op≠1:=ad4;cases k2:(op==2)
 case true=>have e1:op=2:=ad4;simp only[go_sem,k1,k2];exact .mk _ (fH _) (.refl _) ⟨ahp,rfl⟩
 have n2:op≠2:=ad4;cases k3:(op==3)
 case true=>have e1:op=3:=ad4;simp only[go_sem,k1,k2,k3];exact .mk _ (fH _) (.refl _) ⟨age,rfl⟩
 have n3:op≠3:=ad4;cases k4:(op==4)
 case true=>have e1:op=4:=ad4;simp only[go_sem,k1,k2,k3,k4];exact .mk _ (fH _) (.refl _) ⟨age,rfl⟩
 have n4:op≠4:=ad4;cases k5:(op==5)
 case true=>have e1:op=5:=ad4;simp only[go_sem,k1,k2,k3,k4,k5];exact .mk _ (fH _) (.refl _) ⟨age,rfl⟩
 have n5:op≠5:=ad4;cases k11:(op==11)
 case true=>have e1:op=11:=ad4;simp only[go_sem,k1,k2,k3,k4,k5,k11];exact .mk _ (fH _) (.refl _) ⟨age,rfl⟩
 have n11:op≠11:=ad4;cases k6:decide (6≤op)
 ·have n6:=adW k6
  simp only[go_sem,k1,k2,k3,k4,k5,k11,k6];exact .mk _ (fH _) (.refl _) ⟨ahp,rfl⟩
 cases k13:decide (op≤13)
 ·have n13:=adW k13
  simp only[go_sem,k1,k2,k3,k4,k5,k11,k6,k13];exact .mk _ (fH _) (.refl _) ⟨ahp,rfl⟩
 have n6:=adV k6;have n13:=adV k13;simp only[go_sem,k1,k2,k3,k4,k5,k11,k6,k13];exact .mk _ (fH _) (.refl _) ⟨age,rfl⟩
theorem Js(n:aO)(h:Heap):ai prog 297 [cN n] h fun r h' =>r= .b (j5 n)∧h' =h:=by
 refine ad2 func297 37 [.tmp 2] fun hwf=>?_
 simp only[go_sem,cN];intro id hid;have fa:∀x y z:Bool,(x && (y && (z && true)))=(x && (y && (z && true))):=fun _ _ _=>rfl
 cases k1:(n.op==1)
 case true=>
  have e1:n.op=1:=ad4;simp only[go_sem,k1];refine(gK n.val _).pthen ?_;cases d0:bH n.val
  ·simp only[go_sem]
   exact ajt
  ·simp only[go_sem]
   exact .mk _ (.refl _) (.ak hid) ⟨by grind [j5,au,zeroAt],rfl⟩
 have n1:n.op≠1:=ad4;cases k2:(n.op==2)
 case true=>
  have e1:n.op=2:=ad4;simp only[go_sem,k1,k2];refine(HF n.attr _).pthen ?_;cases d0:qP n.attr
  ·simp only[go_sem]
   exact ajt
  ·simp only[go_sem]
   exact .mk _ (.refl _) (.ak hid) ⟨by grind [j5,au,zeroV],rfl⟩
 have n2:n.op≠2:=ad4;cases d0:zeroV n.val
 ·have d1:=d0
  unfold zeroV at d1;simp only[go_sem,k1,k2,d1];exact ajt
 ·have d1:=d0
  unfold zeroV at d1;simp only[go_sem,k1,k2,d1];exact .mk _ (.refl _) (.ak hid) ⟨by grind [j5,au,zeroAt],rfl⟩
theorem u4:(U 4).sz=1:=aei
theorem u4a:(U 4).k.agg=false:=aei
theorem u4b:(U 4).bytes=1:=aei
theorem u4f:fit (U 4).zero 1:=aed
theorem u4n:bD (U 4).zero=false:=aei
theorem HG(l:List Bool):One (l.map j0):=One.map (fun _=>rfl) l
theorem PV(y:AV)(st:List Bool)(n:aO)(h0 h:Heap)(hy:WrA 4 h0 h y (st.map j0))(hl:st.length≤1000000):
  ai prog 272 [y,cN n] h fun r h' =>∃z,r= .tup [z,.v (.bool (iQ st n).isSome)]∧match iQ st n with
   |none=>Ab.Sub h0 h'
   |some st' =>WrA 4 h0 h' z (st'.map j0):=by
 refine ad2 func272 60 [.tmp 4,.tmp 5] fun hwf=>?_
 simp only[go_sem,cN];intro id hid;simp only[go_sem];have hyb:=hy.base hid (some (.obj [.i n.op,.i n.val.kind,.i n.val.n,.s n.val.s,.i n.attr.cat,.s n.attr.name,.b n.attr.must] 222));have hw:=N1 n.op (upd h id (some (.obj [.i n.op,.i n.val.kind,.i n.val.n,.s n.val.s,.i n.attr.cat,.s n.attr.name,.b n.attr.must] 222)));cases hwd:iR n.op with
 |none=>
  rw[hwd]at hw;have hst:iQ st n=none:=by grind [iQ]
  refine hw.pthen ?_;exact ajT
 |some w=>
  rw[hwd]at hw;have hwl:w.length≤2:=by grind [iR]
  refine hw.pthen ?_;simp only[go_sem];refine(Js n _).pthen ?_;cases d1:j5 n
  ·have hst:iQ st n=none:=by grind [iQ]
   exact ajT
  cases d2:decide ((st.length:Int)<(w.length:Int))
  case true=>
   have e2:¬w.length≤st.length:=ad4;have hst:iQ st n=none:=by grind [iQ]
   simp only[go_sem,hyb.len,adT,d2];exact .mk _ (.refl _) (.ak hid) ⟨_,ah0,ahL⟩
  have e2:w.length≤st.length:=ad4;have w1:IntKind.i64.wrap ((st.length:Int) - (w.length:Int))=((st.length - w.length:Nat):Int):=aeg;obtain⟨hb,ehb⟩:∃hb,upd h id (some (.obj [.i n.op,.i n.val.kind,.i n.val.n,.s n.val.s,.i n.attr.cat,.s n.attr.name,.b n.attr.must] 222))=hb:=⟨_,rfl⟩;have hbid:hb id=some (.obj [.i n.op,.i n.val.kind,.i n.val.n,.s n.val.s,.i n.attr.cat,.s n.attr.name,.b n.attr.must] 222):=ahq;have hsub:Ab.Sub h hb:=by rw[←ehb];exact .ak hid
  rw[ehb]at hyb⊢;simp only[go_sem,hyb.len,adT,d2,w1];refine .intro (fun m ρ h' =>h' =hb∧∃i:Nat,i≤w.length∧m=w.length - i∧(∀j,j<i→st[st.length - w.length+j]? =w[j]?)∧lk ρ 0=some y∧lk ρ 3=some (.ptr id 0)∧lk ρ 8=some (.i ((st.length - w.length:Nat):Int))∧lk ρ 36=some (.sl (w.map j0) .no)∧lk ρ 37=some (.i w.length)∧lk ρ 38=some (.i i)) w.length ?_ ?_
  ·refine⟨rfl,0,ad3,rfl,fun j hj=>ad3,?_,?_,?_,?_,?_,?_⟩<;>simp only[go_sem]
  ·rintro m ρ h' ⟨rfl,i,hi,rfl,hc,r0,r3,r8,r36,r37,r38⟩
   simp only[go_sem,r37,r38];refine .intro (fun e=>?_) (fun e=>?_)
   ·have hlt:i<w.length:=ad0 e
    have w2:IntKind.i64.wrap ((i:Int)+1)=((i+1:Nat):Int):=aeg;have w3:IntKind.i64.wrap (((st.length - w.length:Nat):Int)+(i:Int))=((st.length - w.length+i:Nat):Int):=aeg;have hlt2:st.length - w.length+i<st.length:=ad3;simp only[go_sem,r36,r38];refine .at i ad4 aec ?_;simp only[go_sem,r0,r8,adU,j0,w3];refine hyb.idx (HG st) (st.length - w.length+i) rfl ad4 u4 u4a fun p hp=>?_
    simp only[go_sem,hp _,adU,j0];cases d3:(st[st.length - w.length+i]==w[i])
    ·have hst:iQ st n=none:=by
      have:st.drop (st.length - w.length)≠w:=fun hh=>by grind
      simp[iQ,hwd,this]
     simp only[go_sem];exact .mk _ (.refl _) hsub ⟨_,ah0,ahL⟩
    ·simp only[go_sem,r38,w2]
     refine⟨_,?_,rfl,i+1,ad3,rfl,fun j hj=>?_,?_,?_,?_,?_,?_,?_⟩
     ·omega
     ·grind
     all_goals simp only[go_sem,r0,r3,r8,r36,r37]
   ·have hge:i=w.length:=by grind
    subst hge;have hdrop:st.drop (st.length - w.length)=w:=by
     apply List.ext_getElem?
     grind
    have hst:iQ st n=some (st.take (st.length - w.length)++ [n.op==2]):=by grind [iQ]
    simp only[go_sem];refine .calls (hm1 id _) [0,1,2,3,4,5,6,7,8,9] (.hm1 hbid) ad7 rfl ?_;simp only[go_sem,r0,r8];refine hyb.cut (x:=.i64) (st.length - w.length) aei rfl aea u4 fun z hz=>?_
    rw[←List.map_take]at hz;simp only[go_sem,r3,gz];refine hz.app (zs:=[.b (n.op==2)]) (HG _) (HG [n.op==2]) u4 ad6 u4f u4n (fun k hk=>hk) (by grind [u4b]) fun z' h2 hz' =>?_
    refine⟨fun j b hj=>((Sub.hm1 (ah ..)).trans hz'.1) j b hj,?_⟩
    simp only[go_sem];have hz2:=hz'.less (Sub.ak (hy.1.none hid));refine .same (.refl _) ⟨z',ah0,?_⟩;rw[hst];simp only[List.map_append];exact hz2
theorem FN(h:l.length≤32)(hs:gp [] l=none):kQ l=1:=by grind [kQ,Nat.not_lt]
theorem kL(st:List Bool):∀(l:List aO) (i:Nat),gp st l=(match gp st (l.take i)with
  |none=>none
  |some st' =>gp st' (l.drop i))
 | [],i=>by simp[gp]
 |n::r,0=>aei
 |n::r,i+1=>by
  simp only[List.take_succ_cons,List.drop_succ_cons,gp];cases iQ st n with
  |none=>rfl
  |some st' =>simp only;exact kL st' r i
theorem sF(st st' :List Bool)(l:List aO)(h:gp st l=some st'):st'.length≤st.length+l.length:=by
 induction l generalizing st with
 |nil=>grind [gp,Option.some.injEq]
 |cons n r ih=>
  simp only[gp]at h;cases hs:iQ st n with
  |none=>grind
  |some s2=>grind [iQ]
theorem HM(l:List aO)(h:Heap):ai prog 241 [dY l] h fun r h' =>r= .i (kQ l)∧h' =h:=by
 refine ad2 func241 38 [.tmp 2] fun hwf=>?_
 cases d1:decide (32<(l.length:Int))
 case true=>have e1:32<l.length:=ad4;simp only[go_sem,dY,adT,d1];exact .same (.refl _) ⟨by grind [kQ,au],rfl⟩
 have e1:l.length≤32:=ad4;simp only[go_sem,dY,adT,d1];refine .intro (fun m ρ h' =>∃(i:Nat) (y:AV) (st:List Bool),WrA 4 h h' y (st.map j0)∧gp [] (l.take i)=some st∧i≤l.length∧m=l.length - i∧
  lk ρ 0=some (dY l)∧lk ρ 3=some y∧lk ρ 10=some (dY l)∧lk ρ 11=some (.i l.length)∧lk ρ 12=some (.i i)) l.length ?_ ?_
 ·refine⟨0,_,[],.nil (.refl _),rfl,ad3,rfl,?_,?_,?_,?_,?_⟩<;>simp only[go_sem,dY]
 ·rintro m ρ h' ⟨i,y,st,hy,hst,hi,rfl,r0,r3,r10,r11,r12⟩
  have hsl:=sF _ _ _ hst;have hsl:st.length≤i:=ad4;simp only[go_sem,r11,r12];refine .intro (fun e=>?_) (fun e=>?_)
  ·have hlt:i<l.length:=ad0 e
   have w1:IntKind.i64.wrap ((i:Int)+1)=((i+1:Nat):Int):=aeg;have hnx:gp [] (l.take (i+1))=iQ st l[i]:=by
    rw[kL [] _ i,List.take_take,Nat.min_eq_left ad3,hst,List.take_succ_eq_append_getElem hlt,List.drop_append_of_le_length ad4,List.drop_of_length_le ad4]
    grind [gp,iQ]
   simp only[go_sem,r10,r12,dY];refine .at i ad4 aec ?_;simp only[go_sem,adU,cN];intro id hid;simp only[go_sem,r3];have hyb:=hy.sub (Sub.ak (k:=some (.obj [.i l[i].op,.i l[i].val.kind,.i l[i].val.n,.s l[i].val.s,.i l[i].attr.cat,.s l[i].attr.name,.b l[i].attr.must] 222)) hid);refine(PV y st l[i] h _ hyb ad3).mono fun r h2 ⟨z,e2,hz⟩=>?_
   subst e2;cases hsd:iQ st l[i]with
   |none=>rw[hsd]at hz;simp only[go_sem,Option.isSome_none];refine .mk _ (.refl _) hz ⟨?_,rfl⟩;rw[FN e1 (by rw[kL [] l (i+1),hnx,hsd])];rfl
   |some st' =>
    rw[hsd]at hz hnx;simp only[go_sem,r12,Option.isSome_some,w1];refine⟨_,?_,i+1,z,st',hz,hnx,ad3,rfl,?_,?_,?_,?_,?_⟩
    ·omega
    all_goals simp only[go_sem,r0,r10,r11,dY]
  ·have hge:i=l.length:=by grind
   subst hge;rw[List.take_length]at hst;have he:kQ l=if l= []∨st= [false]then 0 else 1:=by simp_all [kQ,if_neg]
   cases d2:decide (0<(l.length:Int))
   ·have e2:l= []:=by simp_all
    simp only[go_sem,r0,dY,adT,d2];exact .mk _ (.refl _) hy.1 ⟨by rw[he,if_pos (.inl e2)];rfl,rfl⟩
   have e2:l≠ []:=ad4;cases d3:((st.length:Int) !=1)
   case true=>have e3:st≠ [false]:=ad4;simp only[go_sem,r0,r3,dY,adT,d2,hy.len,d3];exact .mk _ (.refl _) hy.1 ⟨by rw[he,if_neg ad4];rfl,rfl⟩
   have e3:st.length=1:=by grind
   obtain⟨b,rfl⟩:=List.length_eq_one_iff.1 e3;simp only[go_sem,r0,r3,dY,adT,d2,hy.len];refine hy.idx (HG [b]) 0 rfl aea u4 u4a fun p hp=>?_
   simp only[go_sem,hp _,j0,List.getElem_cons_zero];cases b
   ·simp only[go_sem]
    exact .mk _ (.refl _) hy.1 ⟨by rw[he,if_pos (.inr rfl)];rfl,rfl⟩
   ·simp only[go_sem]
    exact .mk _ (.refl _) hy.1 ⟨by rw[he,if_neg ad4];rfl,rfl⟩
def Keeps(S:List Nat)(h h' :Heap):Prop:=∀j k,j∉S→h j=some k→h' j=some k
theorem Keeps.trans{b c:Heap}(x:Keeps S a b)(y:Keeps S b c):Keeps S a c:=fun j k hj e=>y j k hj (x j k hj e)
theorem Keeps.of{b:Heap}(x:Ab.Sub a b):Keeps S a b:=fun j k _ e=>x j k e
theorem Keeps.upd{i:Nat}{b:Option Blk}(hi:i∈S):Keeps S a (Ab.upd a i b):=fun j k hj e=>by grind [ag]
def iG(h:Heap)(idw mid:Nat)(m:eN):Prop:=h idw=some (.obj [.mp mid,.i m.rules] 238)∧h mid=some (.mp (AF m.met))∧(∀l∈m.met,l.length≤16)∧m.rules≤64
theorem iG.ne(hw:iG h idw mid m):idw≠mid:=fun e=>by
 have h1:=hw.1;have h2:=hw.2.1
 rw[e,h2]at h1;cases h1
theorem iG.keep(hw:iG h idw mid m)(hs:Ab.Sub h h'):iG h' idw mid m:=⟨hs _ _ hw.1,hs _ _ hw.2.1,hw.2.2⟩
theorem YK:(U 356).sz=0:=aei
theorem Gy(h:bw s=true):s.length≤16:=by grind [bw]
theorem zm(h:s∈m.met∨bw s=false):jr m s=none:=by
 unfold jr
 grind
theorem Fq(idw mid:Nat)(m:eN)(s:Txt)(h:Heap)(hw:iG h idw mid m):ai prog 238 [.ptr idw 0,.s s] h fun r h' =>match jr m s with
  |none=>r= .b false∧Ab.Sub h h'
  |some m' =>r= .b true∧Keeps [idw,mid] h h'∧iG h' idw mid m' :=by
 refine ad2 func238 28 [.tmp 4] fun hwf=>?_
 obtain⟨w1,w2,w3,w4⟩:=hw;have hlen:s.length≤maxLen:=by have:=hwf (.s s) aea;simp only[wfA,wf1,lim]at this;unfold maxLen;omega
 have hkeys:AS .str (AF m.met):=J3 fun l hl=>by grind [maxLen]
 simp only[go_sem,w1,w2];refine⟨hlen,.inr aei,hkeys,?_⟩;rw[J6 _ _ YK];simp only[go_sem];intro idv hidv;simp only[go_sem];cases d1:decide (s∈m.met)
 case true=>have hm:=zm (.inl (adV d1));simp only[go_sem];rw[hm];exact .mk _ (.refl _) (.ak hidv) ⟨rfl,.refl _⟩
 have e1:=adW d1;simp only[go_sem];refine(pX _ _).pthen ?_;cases d2:bw s
 ·have hm:=zm (m:=m) (.inr d2)
  simp only[go_sem];rw[hm];exact .mk _ (.refl _) (.ak hidv) ⟨rfl,.refl _⟩
 have hm:jr m s=some ⟨m.met++ [s],m.rules⟩:=by grind [jr]
 have w1' :upd h idv (some (.obj [] 356)) idw=some (.obj [.mp mid,.i m.rules] 238):=aeF;have w2' :upd h idv (some (.obj [] 356)) mid=some (.mp (AF m.met)):=aeF;simp only[go_sem,w1',w2'];refine⟨hlen,hkeys,?_⟩;rw[NF e1];rw[hm];refine .same (.refl _) ⟨rfl,(Keeps.of (.ak hidv)).trans (.upd aea),?_,?_,?_,w4⟩
 ·grind [ag]
 ·rw[ah]
 grind [List.mem_singleton,Gy]
theorem N5(idw mid:Nat)(m:eN)(r:cS)(h:Heap)(hw:iG h idw mid m):ai prog 197 [.ptr idw 0,aC r] h fun x h' =>x= .v (.int .i64 (gJ m r).err)∧Keeps [idw,mid] h h'∧∀m',gJ m r= .ok m'→iG h' idw mid m' :=by
 refine ad2 func197 39 [.tmp 4] fun hwf=>?_
 simp only[go_sem,aC,aT,dY,ay];intro id hid;have n1:idw≠id:=fun e=>by have:=hw.1;rw[e,hid]at this;cases this
 have n2:mid≠id:=fun e=>by have:=hw.2.1;rw[e,hid]at this;cases this
 have hwb:=hw.keep (Sub.ak (k:=some (.obj [.s r.id,.b r.deny,.sl (r.tgt.map cB) .no,.sl (r.cond.map cN) .no,.sl (r.obls.map bh) .no] 217)) hid);have hk0:Keeps [idw,mid] h (upd h id (some (.obj [.s r.id,.b r.deny,.sl (r.tgt.map cB) .no,.sl (r.cond.map cN) .no,.sl (r.obls.map bh) .no] 217))):=.of (.ak hid);simp only[go_sem];obtain⟨hb,ehb⟩:∃hb,upd h id (some (.obj [.s r.id,.b r.deny,.sl (r.tgt.map cB) .no,.sl (r.cond.map cN) .no,.sl (r.obls.map bh) .no] 217))=hb:=⟨_,rfl⟩;have hbid:hb id=some (.obj [.s r.id,.b r.deny,.sl (r.tgt.map cB) .no,.sl (r.cond.map cN) .no,.sl (r.obls.map bh) .no] 217):=ahq;rw[ehb]at hwb hk0⊢;refine(Fq idw mid m r.id hb hwb).mono fun x h2 hx=>?_
 cases hm:jr m r.id with
 |none=>
  rw[hm]at hx;obtain⟨rfl,hs⟩:=hx;have hr:gJ m r= .bad 1:=by grind [gJ]
  simp only[go_sem];exact .same (.refl _) ⟨ah5,hk0.trans (.of hs),fun m' h' =>ad4⟩
 |some m1=>
  rw[hm]at hx;obtain⟨rfl,hk,hw2⟩:=hx;have g2:=hw2.1;have hle:=hw2.2.2.2;have hid2:h2 id=some (.obj [.s r.id,.b r.deny,.sl (r.tgt.map cB) .no,.sl (r.cond.map cN) .no,.sl (r.obls.map bh) .no] 217):=hk id _ ad4 hbid;have w1:IntKind.i64.wrap ((m1.rules:Int)+1)=((m1.rules+1:Nat):Int):=aeg;have hk3:Keeps [idw,mid] h (upd h2 idw (some (.obj [.mp mid,.i ((m1.rules+1:Nat):Int)] 238))):=(hk0.trans hk).trans (.upd aea);have hid3:upd h2 idw (some (.obj [.mp mid,.i ((m1.rules+1:Nat):Int)] 238)) id=some (.obj [.s r.id,.b r.deny,.sl (r.tgt.map cB) .no,.sl (r.cond.map cN) .no,.sl (r.obls.map bh) .no] 217):=by grind [ag]
  cases d1:decide (64<((m1.rules+1:Nat):Int))
  case true=>
   have e1:m1.rules+1>64:=ad4;have hr:gJ m r= .bad 6:=by grind [gJ]
   simp only[go_sem,g2,w1,d1];exact ai7
  have e1:¬m1.rules+1>64:=ad4;have hr:gJ m r=need (l8 r.tgt) (need (kQ r.cond) (need (iK r.obls) (.ok ⟨m1.met,m1.rules+1⟩))):=by grind [gJ]
  simp only[go_sem,g2,w1,d1,hid3];refine(vQ r.tgt _).pthen ?_;cases d2:(l8 r.tgt !=0)
  case true=>
   have e2:l8 r.tgt≠0:=ad4;have hr:gJ m r= .bad (l8 r.tgt):=by grind [need]
   simp only[go_sem,d2];exact ai7
  have e2:l8 r.tgt=0:=ad4;rw[need,if_pos e2]at hr;simp only[go_sem,d2,hid3];refine(HM r.cond _).pthen ?_;cases d3:(kQ r.cond !=0)
  case true=>
   have e3:kQ r.cond≠0:=ad4;have hr:gJ m r= .bad (kQ r.cond):=by grind [need]
   simp only[go_sem,d3];exact ai7
  have e3:kQ r.cond=0:=ad4;rw[need,if_pos e3]at hr;simp only[go_sem,d3,hid3];refine(CF r.obls _).pthen ?_;simp only[go_sem]
  by_cases e4:iK r.obls=0
  ·rw[need,if_pos e4]at hr
   refine .same (.refl _) ⟨by rw[hr,e4];rfl,hk3,fun m' h' =>?_⟩
   rw[hr]at h';cases h';refine⟨ah ..,?_,hw2.2.2.1,ad4⟩;rw[ag _ _ hw2.ne.symm];exact hw2.2.1
  ·rw[need,if_neg e4]at hr
   exact ai7
theorem yR{id:Txt}{set:Bool}(h:jr m id=none):fq m id set alg tgt nr nk obls= .bad 1:=by grind [fq]
theorem N3(idw mid:Nat)(m:eN)(id:Txt)(set:Bool)(alg:Int)(tgt:gj)(rules:List cS)(kids:List bF)(obls:List cE)(h:Heap)(hw:iG h idw mid m):
  ai prog 196 [.ptr idw 0,aL (.mk id set alg tgt rules kids obls)] h fun x h' =>x= .v (.int .i64 (fq m id set alg tgt rules.length kids.length obls).err)∧Keeps [idw,mid] h h'∧∀m',fq m id set alg tgt rules.length kids.length obls= .ok m'→iG h' idw mid m' :=by
 refine ad2 func196 68 [.tmp 4] fun hwf=>?_
 simp only[go_sem,aL,aT,ay];intro ip hip;have n1:idw≠ip:=fun e=>by have:=hw.1;rw[e,hip]at this;cases this
 have n2:mid≠ip:=fun e=>by have:=hw.2.1;rw[e,hip]at this;cases this
 have hwb:=hw.keep (Sub.ak (k:=some (.obj [.s id,.b set,.i alg,.sl (tgt.map cB) .no,.sl (rules.map aC) .no,.sl (fc kids) .no,.sl (obls.map bh) .no] 38)) hip);have hk0:Keeps [idw,mid] h (upd h ip (some (.obj [.s id,.b set,.i alg,.sl (tgt.map cB) .no,.sl (rules.map aC) .no,.sl (fc kids) .no,.sl (obls.map bh) .no] 38))):=.of (.ak hip);simp only[go_sem];obtain⟨hb,ehb⟩:∃hb,upd h ip (some (.obj [.s id,.b set,.i alg,.sl (tgt.map cB) .no,.sl (rules.map aC) .no,.sl (fc kids) .no,.sl (obls.map bh) .no] 38))=hb:=⟨_,rfl⟩;have hbip:hb ip=some (.obj [.s id,.b set,.i alg,.sl (tgt.map cB) .no,.sl (rules.map aC) .no,.sl (fc kids) .no,.sl (obls.map bh) .no] 38):=ahq;rw[ehb]at hwb hk0⊢;refine(Fq idw mid m id hb hwb).mono fun x h2 hx=>?_
 cases hm:jr m id with
 |none=>rw[hm]at hx;obtain⟨rfl,hs⟩:=hx;simp only[go_sem];exact .same (.refl _) ⟨by rw[yR hm];rfl,hk0.trans (.of hs),fun m' h' =>by rw[yR hm]at h';cases h'⟩
 |some m1=>
  rw[hm]at hx;obtain⟨rfl,hk,hw2⟩:=hx;have hip2:h2 ip=some (.obj [.s id,.b set,.i alg,.sl (tgt.map cB) .no,.sl (rules.map aC) .no,.sl (fc kids) .no,.sl (obls.map bh) .no] 38):=hk ip _ (by simp[n1.symm,n2.symm]) hbip
  have hkk:=hk0.trans hk;have bad:∀e,fq m id set alg tgt rules.length kids.length obls= .bad e→(.i e:AV)= .v (.int .i64 (fq m id set alg tgt rules.length kids.length obls).err)∧Keeps [idw,mid] h h2∧∀m',fq m id set alg tgt rules.length kids.length obls= .ok m'→iG h2 idw mid m' :=
   fun e he=>⟨by rw[he];rfl,hkk,fun m' h' =>by rw[he]at h';cases h'⟩
  cases d1:decide (alg<1)
  case true=>have e1:=adV d1;simp only[go_sem,d1,hip2];exact .same (.refl _) (bad 1 (by simp[fq,hm,e1]))
  cases d2:decide (6<alg)
  case true=>have e2:=adV d2;simp only[go_sem,d1,d2,hip2];exact .same (.refl _) (bad 1 (by simp[fq,hm,e2]))
  have e1:¬(alg<1∨alg>6):=by have:=adW d1;have:=adW d2;omega
  have tail:∀(z:Unit),¬(set=true∧rules.length>0∨set=false∧(kids.length>0∨alg=4))→fq m id set alg tgt rules.length kids.length obls=need (l8 tgt) (need (iK obls) (if rules.length>16∨kids.length>16 then .bad 6 else .ok m1)):=fun _ hh=>by simp only[fq,hm];rw[if_neg e1,if_neg hh]
  cases set
  ·cases d4:decide (0<(kids.length:Int))
   case true=>
    have f4:0<kids.length:=by have:=adV d4;omega
    simp only[go_sem,d1,d2,hip2,aQ,adT,d4];exact .same (.refl _) (bad 1 (by simp[fq,hm,e1,f4]))
   have g4:¬0<kids.length:=by have:=adW d4;omega
   cases d5:(alg==4)
   case true=>
    have f5:alg=4:=by simpa using d5
    simp only[go_sem,d1,d2,hip2,aQ,adT,d4,d5];exact .same (.refl _) (bad 1 (by simp[fq,hm,f5]))
   have g5:alg≠4:=by simpa using d5
   simp only[go_sem,d1,d2,hip2,aQ,adT,d4,d5];have e3:=tail () (by simp[g4,g5])
   refine(vQ tgt _).pthen ?_;cases t1:(l8 tgt !=0)
   case true=>exact ajq
   have f1:l8 tgt=0:=by simpa using t1
   simp only[go_sem,t1,hip2];refine(CF obls _).pthen ?_;cases t2:(iK obls !=0)
   case true=>exact ajm
   have f2:iK obls=0:=by simpa using t2
   cases t3:decide (16<(rules.length:Int))
   case true=>exact ajb
   have f3:¬16<rules.length:=by have:=adW t3;omega
   cases t4:decide (16<(kids.length:Int))
   case true=>exact ai8
   have f4:¬16<kids.length:=by have:=adW t4;omega
   simp only[go_sem,t2,hip2,adT,t3,aQ,t4];have e4:fq m id false alg tgt rules.length kids.length obls= .ok m1:=by rw[e3];simp[need,f1,f2,f3,f4]
   exact ajF
  ·cases d3:decide (0<(rules.length:Int))
   case true=>
    have f3:0<rules.length:=by have:=adV d3;omega
    simp only[go_sem,d1,d2,hip2,adT,d3];exact .same (.refl _) (bad 1 (by simp[fq,hm,e1,f3]))
   have g3:¬0<rules.length:=by have:=adW d3;omega
   simp only[go_sem,d1,d2,hip2,adT,d3];have e3:=tail () (by simp[g3])
   refine(vQ tgt _).pthen ?_;cases t1:(l8 tgt !=0)
   case true=>exact ajq
   have f1:l8 tgt=0:=by simpa using t1
   simp only[go_sem,t1,hip2];refine(CF obls _).pthen ?_;cases t2:(iK obls !=0)
   case true=>exact ajm
   have f2:iK obls=0:=by simpa using t2
   cases t3:decide (16<(rules.length:Int))
   case true=>exact ajb
   have f3:¬16<rules.length:=by have:=adW t3;omega
   cases t4:decide (16<(kids.length:Int))
   case true=>exact ai8
   have f4:¬16<kids.length:=by have:=adW t4;omega
   simp only[go_sem,t2,hip2,adT,t3,aQ,t4];have e4:fq m id true alg tgt rules.length kids.length obls= .ok m1:=by rw[e3];simp[need,f1,f2,f3,f4]
   exact ajF
theorem zB(k:bF):(aL k).cells.length=7:=by cases k;rfl
theorem vI{p:bF}(h:4<d):lf m d p= .bad 6:=by cases p;grind [lf]
theorem vJ{id:Txt}{set:Bool}{e:Int}(h:¬4<d)
  (hh:fq m id set alg tgt rules.length kids.length obls= .bad e):lf m d (.mk id set alg tgt rules kids obls)= .bad e:=by
 grind [lf]
theorem zC{id:Txt}{set:Bool}{e:Int}(h:¬4<d)
  (hh:fq m id set alg tgt rules.length kids.length obls= .ok m1) (hr:fG m1 rules= .bad e):lf m d (.mk id set alg tgt rules kids obls)= .bad e:=by
 grind [lf]
theorem BD{m2:eN}{id:Txt}{set:Bool}(h:¬4<d)
  (hh:fq m id set alg tgt rules.length kids.length obls= .ok m1) (hr:fG m1 rules= .ok m2):lf m d (.mk id set alg tgt rules kids obls)=iZ m2 (d+1) kids:=by
 grind [lf]
theorem uB:∀(n d:Nat) (m:eN) (p:bF) (e:Int),d+n=5→lf m d p= .bad e→e≠0
 |0,d,m,p,e,hd,h=>by grind [vI]
 |n+1,d,m,.mk id set alg tgt rules kids obls,e,hd,h=>by
  by_cases h4:4<d
  ·omega
  cases hh:fq m id set alg tgt rules.length kids.length obls with
  |bad e' =>grind [vJ,Bh]
  |ok m1=>
   cases hr:fG m1 rules with
   |bad e' =>
    rw[zC h4 hh hr]at h;cases h
    clear hh hd
    induction rules generalizing m1 with
    |nil=>cases hr
    |cons r l ih=>grind [fG,gJ,BM]
   |ok m2=>
    rw[BD h4 hh hr]at h;have ih:=fun m p e=>uB n (d+1) m p e ad3
    clear hh hr
    induction kids generalizing m2 with
    |nil=>cases h
    |cons k l ihk=>
     simp only[iZ]at h;cases hx:lf m2 (d+1) k with
     |bad x=>rw[hx]at h;cases h;exact ih _ _ _ hx
     |ok m3=>rw[hx]at h;exact ihk m3 h
theorem Im{e:Int}{w:Went}(h:need e w= .ok m):e=0∧w= .ok m:=by grind [need]
theorem Mj{id:Txt}{set:Bool}(h:fq m id set alg tgt nr nk obls= .ok m1):
  jr m id=some m1∧1≤alg∧alg≤6∧(set=true→nr=0)∧(set=false→nk=0∧alg≠4)∧l8 tgt=0∧iK obls=0∧nr≤16∧nk≤16:=by
 unfold fq at h;split at h
 ·cases h
 split at h
 ·cases h
 split at h
 ·cases h
 obtain⟨h3,h⟩:=Im h;obtain⟨h4,h⟩:=Im h
 grind
theorem IX:∀(n d:Nat),d+n=5→∀(idw mid:Nat) (m:eN) (p:bF) (h:Heap),iG h idw mid m→
  ai prog 144 [.ptr idw 0,aL p,.i d] h fun x h' =>x= .v (.int .i64 (lf m d p).err)∧Keeps [idw,mid] h h'∧∀m',lf m d p= .ok m'→iG h' idw mid m'
 |n,d,hd,idw,mid,m,.mk id set alg tgt rules kids obls,h,hw=>by
  refine ad2 func144 52 [.tmp 6] fun hwf=>?_
  simp only[go_sem,aL,aT,ay];intro ip hip;have n1:idw≠ip:=fun e=>by have:=hw.1;rw[e,hip]at this;cases this
  have n2:mid≠ip:=fun e=>by have:=hw.2.1;rw[e,hip]at this;cases this
  have hwb:=hw.keep (Sub.ak (k:=some (.obj [.s id,.b set,.i alg,.sl (tgt.map cB) .no,.sl (rules.map aC) .no,.sl (fc kids) .no,.sl (obls.map bh) .no] 38)) hip);have hk0:Keeps [idw,mid] h (upd h ip (some (.obj [.s id,.b set,.i alg,.sl (tgt.map cB) .no,.sl (rules.map aC) .no,.sl (fc kids) .no,.sl (obls.map bh) .no] 38))):=.of (.ak hip);obtain⟨hb,ehb⟩:∃hb,upd h ip (some (.obj [.s id,.b set,.i alg,.sl (tgt.map cB) .no,.sl (rules.map aC) .no,.sl (fc kids) .no,.sl (obls.map bh) .no] 38))=hb:=⟨_,rfl⟩;have hbip:hb ip=some (.obj [.s id,.b set,.i alg,.sl (tgt.map cB) .no,.sl (rules.map aC) .no,.sl (fc kids) .no,.sl (obls.map bh) .no] 38):=ahq;rw[ehb]at hwb hk0⊢;cases d0:decide (4<(d:Int))
  case true=>have e0:4<d:=ad4;simp only[go_sem,d0];exact .same (.refl _) ⟨by rw[vI e0];rfl,hk0,fun m' h' =>by grind [vI]⟩
  have e0:¬4<d:=ad4;simp only[go_sem,d0,hbip];have hhead:=N3 idw mid m id set alg tgt rules kids obls hb hwb;simp only[aL,aT,ay]at hhead;refine hhead.mono fun x h2 ⟨ex,hk,hw2⟩=>?_
  subst ex;have hk2:=hk0.trans hk;cases hh:fq m id set alg tgt rules.length kids.length obls with
  |bad e=>have hne:=Bh hh;have t1:(e !=0)=true:=ad4;simp only[go_sem,Went.err,t1];exact .same (.refl _) ⟨by rw[vJ e0 hh];rfl,hk2,fun m' h' =>by grind [vJ]⟩
  |ok m1=>
   have hw2:=hw2 _ hh;have hle:=(Mj hh).2.2.2.2.2.2.2;have hip2:=hk ip _ ad4 hbip;simp only[go_sem,Went.err,hip2,adT];refine .intro (fun k ρ h' =>∃(i:Nat) (mi:eN),i≤rules.length∧k=rules.length - i∧fG m1 (rules.take i)= .ok mi∧Keeps [idw,mid] h h'∧iG h' idw mid mi∧
    h' ip=some (.obj [.s id,.b set,.i alg,.sl (tgt.map cB) .no,.sl (rules.map aC) .no,.sl (fc kids) .no,.sl (obls.map bh) .no] 38)∧
    lk ρ 0=some (.ptr idw 0)∧lk ρ 2=some (.i d)∧lk ρ 4=some (.ptr ip 0)∧lk ρ 23=some (.sl (rules.map aC) .no)∧lk ρ 24=some (.i rules.length)∧lk ρ 25=some (.i i)) rules.length ?_ ?_
   ·refine⟨0,m1,ad3,rfl,rfl,hk2,hw2,hip2,?_,?_,?_,?_,?_,?_⟩<;>simp only[go_sem]
   ·rintro k ρ h' ⟨i,mi,hi,rfl,hri,hki,hwi,hipi,r0,r2,r4,r23,r24,r25⟩
    simp only[go_sem,r24,r25];refine .intro (fun e=>?_) (fun e=>?_)
    ·have hlt:i<rules.length:=ad0 e
     have w1:IntKind.i64.wrap ((i:Int)+1)=((i+1:Nat):Int):=aeg;simp only[go_sem,r23,r25];refine .at i ad4 aec ?_;simp only[go_sem,adU,aC];intro ir hir;have hrl:=N5 idw mid mi rules[i] _ (hwi.keep (Sub.ak (k:=some (.obj [.s rules[i].id,.b rules[i].deny,aT rules[i].tgt,dY rules[i].cond,ay rules[i].obls] 217)) hir));simp only[aC]at hrl;simp only[go_sem,r0];refine hrl.mono fun x h3 ⟨ex,hk3,hw3⟩=>?_
     subst ex;have hk4:=(hki.trans (.of (Sub.ak hir))).trans hk3;have hip3:=hk3 ip _ ad4 ((Sub.ak hir) _ _ hipi);cases hx:gJ mi rules[i]with
     |bad x=>
      have t1:(x !=0)=true:=by grind [BM]
      simp only[go_sem,Went.err,t1];have hp:=zC (d:=d) (kids:=kids) e0 hh (EW hlt hri hx);exact .same (.refl _) ⟨by rw[hp];rfl,hk4,fun m' h' =>ad4⟩
     |ok m3=>
      simp only[go_sem,r25,Went.err,w1];refine⟨_,?_,i+1,m3,ad3,rfl,by grind [wV],hk4,hw3 _ hx,hip3,?_,?_,?_,?_,?_,?_⟩
      ·omega
      all_goals simp only[go_sem,r0,r2,r4,r23,r24]
    ·have hge:i=rules.length:=by grind
     subst hge;rw[List.take_length]at hri;have hpk:=BD (d:=d) (kids:=kids) e0 hh hri;simp only[go_sem,r4,hipi,aQ,adT];refine .intro (fun k ρ h' =>∃(i:Nat) (mj:eN),i≤kids.length∧k=kids.length - i∧iZ mi (d+1) (kids.take i)= .ok mj∧Keeps [idw,mid] h h'∧iG h' idw mid mj∧
      lk ρ 0=some (.ptr idw 0)∧lk ρ 2=some (.i d)∧lk ρ 37=some (.sl (kids.map aL) .no)∧lk ρ 38=some (.i kids.length)∧lk ρ 39=some (.i i)) kids.length ?_ ?_
     ·refine⟨0,mi,ad3,rfl,rfl,hki,hwi,?_,?_,?_,?_,?_⟩<;>simp only[go_sem,r0,r2]
     ·rintro k ρ h' ⟨i,mj,hi,rfl,hkj,hki,hwi,r0,r2,r37,r38,r39⟩
      simp only[go_sem,r38,r39];refine .intro (fun e=>?_) (fun e=>?_)
      ·have hlt:i<kids.length:=ad0 e
       have w1:IntKind.i64.wrap ((i:Int)+1)=((i+1:Nat):Int):=aeg;have w2:IntKind.i64.wrap ((d:Int)+1)=((d+1:Nat):Int):=aeg;obtain⟨n',rfl⟩:∃n',n=n' +1:=⟨n - 1,ad3⟩;have hrec:=IX n' (d+1) ad3 idw mid mj kids[i];cases hki' :kids[i]with
       |mk kid kset kalg ktgt krules kkids kobls=>
       rw[hki']at hrec;simp only[aL,aT,ay]at hrec;simp only[go_sem,r37,r39];refine .at i ad4 (by grind [zB]) ?_
       simp only[go_sem,adU,hki',aL,aT,ay];intro ir hir;simp only[go_sem,r0,r2,w2];refine(hrec _ (hwi.keep (Sub.ak hir))).mono fun x h3 ⟨ex,hk3,hw3⟩=>?_
       subst ex;have hk4:=(hki.trans (.of (Sub.ak hir))).trans hk3;cases hx:lf mj (d+1) (.mk kid kset kalg ktgt krules kkids kobls)with
       |bad x=>
        have t1:(x !=0)=true:=by simpa using uB n' (d+1) _ _ _ ad3 hx
        simp only[go_sem,Went.err,t1];have hp:=Gr hlt hkj (by rw[hki'];exact hx)
        exact .same (.refl _) ⟨by rw[hpk,hp];rfl,hk4,fun m' h' =>ad4⟩
       |ok m3=>
        simp only[go_sem,r39,Went.err,w1];refine⟨_,?_,i+1,m3,ad3,rfl,by grind [yX],hk4,hw3 _ hx,?_,?_,?_,?_,?_⟩
        ·omega
        all_goals simp only[go_sem,r0,r2,r37,r38]
      ·have hge:i=kids.length:=by grind
       subst hge;rw[List.take_length]at hkj;simp only[go_sem];exact .same (.refl _) ⟨by rw[hpk,hkj];rfl,hki,fun m' h' =>ad4⟩
theorem zp{i:Nat}{b:Blk}(e:upd h i (some b) j=none):j≠i:=fun hh=>by subst hh;rw[ah]at e;cases e
theorem uH(p:bF)(h:Heap):ai prog 83 [aL p] h fun r h' =>r= .i (gQ p)∧h' =h:=by
 cases p with
 |mk id set alg tgt rules kids obls=>
 refine ad2 func83 10 [.tmp 2] fun hwf=>?_
 simp only[go_sem,aL,aT,ay];intro ip hip;simp only[go_sem];intro im him;simp only[go_sem];intro iw hiw;have n1:=zp him;have n2:=zp hiw;have hiw1:=hiw;rw[ag _ _ n2]at hiw1;have n3:=zp hiw1;have s1:Ab.Sub h (upd (upd (upd h ip (some (.obj [.s id,.b set,.i alg,.sl (tgt.map cB) .no,.sl (rules.map aC) .no,.sl (fc kids) .no,.sl (obls.map bh) .no] 38))) im (some (.mp []))) iw (some (.obj [.mp im,.i 0] 238))):=
  ((Sub.ak hip).trans (.ak him)).trans (.ak hiw)
 obtain⟨h3,e3⟩:∃h3,upd (upd (upd h ip (some (.obj [.s id,.b set,.i alg,.sl (tgt.map cB) .no,.sl (rules.map aC) .no,.sl (fc kids) .no,.sl (obls.map bh) .no] 38))) im (some (.mp []))) iw (some (.obj [.mp im,.i 0] 238))=h3:=⟨_,rfl⟩;have g1:h3 ip=some (.obj [.s id,.b set,.i alg,.sl (tgt.map cB) .no,.sl (rules.map aC) .no,.sl (fc kids) .no,.sl (obls.map bh) .no] 38):=by rw[←e3,ag _ _ n3.symm,ag _ _ n1.symm,ah]
 have g2:iG h3 iw im ⟨[],0⟩:=by refine⟨by rw[←e3,ah];rfl,by rw[←e3,ag _ _ n2.symm,ah];rfl,fun l hl=>ad4,ad6⟩
 have hi0:h im=none:=aeF;have hw0:h iw=none:=aeF;simp only[go_sem];rw[e3]at s1⊢;simp only[go_sem,g1];have hp:=IX 4 1 rfl iw im ⟨[],0⟩ (.mk id set alg tgt rules kids obls) h3 g2;refine hp.mono fun x h4 ⟨ex,hk,_⟩=>?_
 subst ex;simp only[go_sem];refine .mk _ (.refl _) (fun j k hj=>?_) ⟨rfl,rfl⟩
 refine hk j k ?_ (s1 _ _ hj)
 grind
def kD(x:bF×Int×Int):AV:=.tup [aL x.1,.i x.2.1,.i x.2.2]
theorem jI(a b c:AV)(h:Weak a b)(d:AV):Weak (.tup [a,c,d]) (.tup [b,c,d]):=.tup _ _ rfl fun i h1 h2=>by
 rcases i with _|_|_|i
 ·exact h
 ·exact afn
 ·exact afn
 grind
theorem zw(s:Txt)(h:Heap)(he:kP h):ai prog 33 [.s s] h fun r h' =>r=kD (aS s)∧h' =h:=by
 refine ad2 func33 61 [.cell 2 38,.tmp 3,.tmp 4] fun hwf=>?_
 simp only[go_sem];intro i2 hi2;simp only[go_sem];refine(FA s _ (he.sub (.ak hi2))).pthen ?_;cases el:sX s with
 |bad e a=>
  have e1:=ze el;have d1:(e !=0)=true:=by grind
  have efin:aS s=(pg,e,a):=by grind [aS]
  simp only[go_sem,Ph,d1];rw[efin];exact .mk (h' :=h) (kD (pg,e,a)) (jI _ _ _ (gD _) _) (.ak hi2) ⟨rfl,rfl⟩
 |ok ts=>
  have efin:aS s=zv s ts:=by grind [aS]
  have hw:=KY el 0 0 0;have hpol:=EE 3 1 rfl ⟨ts,0,0,0,0⟩ hw (Nat.zero_le _);have hap:=yb 4 ⟨ts,0,0,0,0⟩ hw;obtain⟨⟨⟨pid,pset,palg,ptgt,prules,pkids,pobls⟩,st1⟩,ep⟩:∃x,gU 4 ⟨ts,0,0,0,0⟩=x:=⟨_,rfl⟩;rw[show 3+1=4 from rfl,ep]at hpol
  rw[ep]at hap;simp only[aL]at hpol hap;simp only[zv,ep]at efin;simp only[go_sem,Ph];intro i8 hi8;have n8:=aF hi8;have m82:¬i8=i2:=n8;have m28:¬i2=i8:=fun e=>n8 e.symm
  have hh8:h i8=none:=aeF;simp only[go_sem];refine hpol.go (ah ..) ?_;rw[oc];simp only[go_sem];intro i9 hi9;have n9:=aF hi9;have hi9' :=hi9;rw[ag _ _ n9]at hi9';have n92:=aF hi9';have m92:¬i9=i2:=n92;have m29:¬i2=i9:=fun e=>n92 e.symm
  have m98:¬i9=i8:=n9;have m89:¬i8=i9:=fun e=>n9 e.symm
  have hh9:h i9=none:=aeF;have c9:∀(f:Heap) (x y:Option Blk),upd (upd f i8 x) i9 y=upd (upd f i9 y) i8 x:=fun f x y=>cA f x y n9.symm
  simp only[go_sem,c9,aj,m98];refine(mI st1 hap.1).run ?_;have subs:∀x y z,Sub h (upd (upd (upd h i2 x) i9 y) i8 z):=fun x y z=>((Sub.ak hi2).put hh9 _).put hh8 _
  cases d1:((aM st1).kind !=7)
  ·have k1:(aM st1).kind=7:=by grind
   have e2:(if(aM st1).kind=7 then st1 else br st1)=st1:=if_pos k1
   simp only[go_sem,fR,d1];cases db:((st1).bad==0)
   ·have eb:(st1).bad≠0:=by grind
    simp only[go_sem,PO,db];have eend:qH s (.mk pid pset palg ptgt prules pkids pobls,st1)=st1:=by simp_all [qH,if_neg]
    have hbb:(st1).bad≠0:=eb;have dn:((st1).bad !=0)=true:=ad4;simp only[go_sem,dn];refine .calls (hm1 i8 (PO (st1))) [0,1,2,3,4,5,6,7,8,9,10,11] (.hm1 (ah ..)) ad7 rfl ?_;simp only[go_sem,aj,m28,m29,PO,gz];refine⟨.hm1 ((ag _ _ n8).trans (ah ..)),?_⟩;have efin2:aS s=(pg,(st1).bad,(st1).place):=ad4;rw[efin2];exact .mk (h' :=h) (kD (pg,(st1).bad,(st1).place)) (jI _ _ _ (gD _) _) (Sub.put (subs _ _ _) hi2 _) ⟨rfl,rfl⟩
   ·have eb:(st1).bad=0:=by grind
    simp only[go_sem,aj,m98,PO,db];refine(uH (.mk pid pset palg ptgt prules pkids pobls) _).pthen ?_;cases dr:(gQ (.mk pid pset palg ptgt prules pkids pobls) !=0)
    ·have er:gQ (.mk pid pset palg ptgt prules pkids pobls)=0:=by grind
     have dn:((st1).bad !=0)=false:=ad4;simp only[go_sem,aj,m28,m29,m98,dr,dn];have eend:qH s (.mk pid pset palg ptgt prules pkids pobls,st1)=st1:=by simp_all [qH,if_neg]
     exact ajQ
    ·have er:gQ (.mk pid pset palg ptgt prules pkids pobls)≠0:=by grind
     simp only[go_sem,dr];refine(rU (st1) 5 s.length).run ?_;have eend:qH s (.mk pid pset palg ptgt prules pkids pobls,st1)=bM (st1) 5 s.length:=by simp_all [qH,if_pos]
     have hwb:bM (st1) 5 s.length= {(st1)with bad:=5,place:=s.length}:=by rw[bM,if_pos eb]
     have hbb:(bM (st1) 5 s.length).bad≠0:=ad4;have dn:((bM (st1) 5 s.length).bad !=0)=true:=ad4;simp only[go_sem,PO,dn];refine .calls (hm1 i8 (PO (bM (st1) 5 s.length))) [0,1,2,3,4,5,6,7,8,9,10,11] (.hm1 (ah ..)) ad7 rfl ?_;simp only[go_sem,aj,m28,m29,PO,gz];refine⟨.hm1 ((ag _ _ n8).trans (ah ..)),?_⟩;have efin2:aS s=(pg,(bM (st1) 5 s.length).bad,(bM (st1) 5 s.length).place):=ad4;rw[efin2];exact .mk (h' :=h) (kD (pg,(bM (st1) 5 s.length).bad,(bM (st1) 5 s.length).place)) (jI _ _ _ (gD _) _) (Sub.put (subs _ _ _) hi2 _) ⟨rfl,rfl⟩
  ·have k1:(aM st1).kind≠7:=by grind
   have e2:(if(aM st1).kind=7 then st1 else br st1)=br st1:=if_neg k1
   simp only[go_sem,fR,d1];refine(lY st1 hap.1).run ?_;simp only[go_sem];cases db:((br st1).bad==0)
   ·have eb:(br st1).bad≠0:=by grind
    simp only[go_sem,PO,db];have eend:qH s (.mk pid pset palg ptgt prules pkids pobls,st1)=br st1:=by simp_all [qH,if_neg]
    have hbb:(br st1).bad≠0:=eb;have dn:((br st1).bad !=0)=true:=ad4;simp only[go_sem,dn];refine .calls (hm1 i8 (PO (br st1))) [0,1,2,3,4,5,6,7,8,9,10,11] (.hm1 (ah ..)) ad7 rfl ?_;simp only[go_sem,aj,m28,m29,PO,gz];refine⟨.hm1 ((ag _ _ n8).trans (ah ..)),?_⟩;have efin2:aS s=(pg,(br st1).bad,(br st1).place):=ad4;rw[efin2];exact .mk (h' :=h) (kD (pg,(br st1).bad,(br st1).place)) (jI _ _ _ (gD _) _) (Sub.put (subs _ _ _) hi2 _) ⟨rfl,rfl⟩
   ·have eb:(br st1).bad=0:=by grind
    simp only[go_sem,aj,m98,PO,db];refine(uH (.mk pid pset palg ptgt prules pkids pobls) _).pthen ?_;cases dr:(gQ (.mk pid pset palg ptgt prules pkids pobls) !=0)
    ·have er:gQ (.mk pid pset palg ptgt prules pkids pobls)=0:=by grind
     have dn:((br st1).bad !=0)=false:=ad4;simp only[go_sem,aj,m28,m29,m98,dr,dn];have eend:qH s (.mk pid pset palg ptgt prules pkids pobls,st1)=br st1:=by simp_all [qH,if_neg]
     exact ajQ
    ·have er:gQ (.mk pid pset palg ptgt prules pkids pobls)≠0:=by grind
     simp only[go_sem,dr];refine(rU (br st1) 5 s.length).run ?_;have eend:qH s (.mk pid pset palg ptgt prules pkids pobls,st1)=bM (br st1) 5 s.length:=by simp_all [qH,if_pos]
     have hwb:bM (br st1) 5 s.length= {(br st1)with bad:=5,place:=s.length}:=by rw[bM,if_pos eb]
     have hbb:(bM (br st1) 5 s.length).bad≠0:=ad4;have dn:((bM (br st1) 5 s.length).bad !=0)=true:=ad4;simp only[go_sem,PO,dn];refine .calls (hm1 i8 (PO (bM (br st1) 5 s.length))) [0,1,2,3,4,5,6,7,8,9,10,11] (.hm1 (ah ..)) ad7 rfl ?_;simp only[go_sem,aj,m28,m29,PO,gz];refine⟨.hm1 ((ag _ _ n8).trans (ah ..)),?_⟩;have efin2:aS s=(pg,(bM (br st1) 5 s.length).bad,(bM (br st1) 5 s.length).place):=ad4;rw[efin2];exact .mk (h' :=h) (kD (pg,(bM (br st1) 5 s.length).bad,(bM (br st1) 5 s.length).place)) (jI _ _ _ (gD _) _) (Sub.put (subs _ _ _) hi2 _) ⟨rfl,rfl⟩
end Go.Proofs.YtokahfmoollblaaGreatDoor
namespace Go.Ab
open Go
theorem OwE.keepb{tb:TypeId}{h0 h h' :Heap}{sz:Nat}{y:AV}{xs:List AV}(hw:OwE tb h0 h sz y xs)(hk:∀id,h0 id=Option.none→h id≠Option.none→h' id=h id):OwE tb h0 h' sz y xs:=
 hw.keep fun id e=>hk id (hw.nid e).1 (hw.nid e).2.1
end Go.Ab
namespace Go.Proofs.YtokahfmoollblaaGreatDoor
open Go Go.Ab Go.Bf Tryz
variable {h0 h h' g:Heap}{ys xs:List AV}{x y:AV}{c:aK}{cs:List aK}{i0:Nat}{s:an}
theorem fD.keepb(hm:fD h0 h ys x c)(hk:∀id,h0 id=none→h id≠none→h' id=h id):fD h0 h' ys x c:=by obtain⟨f,l,e,a,b,c,d⟩:=hm;exact⟨f,l,e,a.keepb hk,b.keepb hk,c,d⟩
theorem mE.keepb(ho:mE h0 h ys y cs i0)(hk:∀id,h0 id=none→h id≠none→h' id=h id):mE h0 h' ys y cs i0:=by obtain⟨xs,a,b,c,d⟩:=ho;exact⟨xs,a.keepb hk,b,c,fun h1 h2=>(d h1 h2).keepb hk⟩
theorem tI.keepb(ho:tI h0 h x s i0)(hk:∀id,h0 id=none→h id≠none→h' id=h id):tI h0 h' x s i0:=by obtain⟨y1,y2,y3,y4,e,a,b,c,d,r⟩:=ho;exact⟨y1,y2,y3,y4,e,a.keepb hk,b.keepb hk,c.keepb hk,d.keepb hk,r⟩
theorem mE.keepx{z:AV}(ho:mE h0 h ys y cs i0)(hz:z∈ys)(hy:apart y z)(hk:∀id,h0 id=none→h id≠none→nid z≠some id→h' id=h id):mE h0 h' ys y cs i0:=by
 obtain⟨xs,a,b,c,d⟩:=ho;refine⟨xs,a.keep fun id e=>hk id (a.nid e).1 (a.nid e).2.1 (hy id e),b,c,fun h1 h2=>?_⟩
 obtain⟨f,l,e,of,ol,hap,hys⟩:=d h1 h2;exact⟨f,l,e,of.keep fun id e=>hk id (of.nid e).1 (of.nid e).2.1 ((hys z hz).1 id e),ol.keep fun id e=>hk id (ol.nid e).1 (ol.nid e).2.1 ((hys z hz).2 id e),hap,hys⟩
theorem fD.frz(hm:fD h0 h ys x c)(hg:Ab.Sub g h0):Frz g h x (cq c):=by
 obtain⟨f,l,rfl,a,b,_⟩:=hm;refine .agg _ _ rfl fun j h1 h2=>?_
 rcases j with _|_|_|_|_|j
 ·exact aen
 ·exact aen
 ·exact aen
 ·exact(a.less hg).frz (bn (fun _=>rfl) _)
 ·exact(b.less hg).frz (bn (fun _=>rfl) _)
 ·simp at h1;omega
theorem JG(hw:OwE 111 h0 h 5 y xs)(hg:Ab.Sub g h0)(hn:xs.length=cs.length)(hx:∀j (h1:j<xs.length) (h2:j<cs.length),Frz g h xs[j] (cq cs[j])):Frz g h y (fO cs):=by
 rcases hw with⟨rfl,rfl⟩|⟨id,h1,hw⟩
 ·have:cs= []:=by grind
  subst this;exact .sl [] [] .full rfl ad3 aea
 ·have hsz:∀i (h1:i<xs.length),xs[i].cells.length=5:=fun i h1=>hw.rd.1 _ aea
  refine hw.frz (hg.none h1) ad4 (fun i h1 h2=>by rw[hsz i h1,adU];rfl) fun i h1 h2 j h3 h4=>?_
  have h2' :i<cs.length:=ad3;have hf:=hx i h1 h2';have key:∀x y:AV,Frz g h x y→bD y=true→cO y=true→∀j (h3:j<x.cells.length) (h4:j<y.cells.length),Frz g h x.cells[j] y.cells[j]:=by
   intro x y hf ha hp j h3 h4;cases hf with
   |keep x hx=>exact .pure (nW hp _ (adY h4))
   |agg xs ys hn hr=>exact hr j h3 h4
   |_=>cases ha
  have e:(cs.map cq)[i]'h2=cq cs[i]:=aea;simp only[e]at h4⊢;exact key _ _ hf rfl (by simp only[cq,nO,cO,gI,gL,sZ,Bool.and_true,Bool.true_and,Bool.and_eq_true];exact⟨bn (fun _=>rfl) _,bn (fun _=>rfl) _⟩) j h3 h4
theorem mE.frz(ho:mE h0 h ys y cs i0)(hg:Ab.Sub g h0):Frz g h y (fO cs):=by
 obtain⟨xs,a,b,c,d⟩:=ho;refine JG a hg b fun j h1 h2=>?_
 by_cases e:j=i0
 ·subst e;exact(d h1 h2).frz hg
 grind [DT]
theorem Nh(p:bF):∀x∈gw p,Frz g h x x:=fun x hx=>by refine .pure (nW (x:=aL p) (EI p) x ?_);rw[Pz];exact hx
theorem DU(hx:∀x∈xs,Frz g h x x):∀i (h1:i<xs.length) (h2:i<xs.length),Frz g h xs[i] xs[i]:=fun i h1 _=>hx _ (adY h1)
theorem HU{ps bs cs ds:List AV}(n1:ps.length=bs.length)(n2:cs.length=ds.length)(h1:∀i (a:i<ps.length) (b:i<bs.length),Frz g h ps[i] bs[i])(h2:∀i (a:i<cs.length) (b:i<ds.length),Frz g h cs[i] ds[i]):
  ∀i (a:i<(ps++cs).length) (b:i<(bs++ds).length),Frz g h (ps++cs)[i] (bs++ds)[i]:=fun i a b=>by
 by_cases e:i<ps.length
 ·rw[List.getElem_append_left e,List.getElem_append_left ad3];exact h1 i e ad3
 ·rw[List.getElem_append_right ad3,List.getElem_append_right ad3]
  simp only[adX]at a b;have:=h2 (i - ps.length) ad3 ad3;simp only[n1]at this⊢;exact aeE
theorem vm{y1 y2 y3 y4:AV}(a:Frz g h y1 (fO s.cases))(b:Frz g h y2 (jR s.reviews))(c:Frz g h y3 (ku s.notices))(d:Frz g h y4 (dW s.roles)):
  Frz g h (.agg ([.i s.tick,y1,y2,y3,y4]++gw s.policy++ [.i s.version])) (bN s):=by
 refine .agg _ _ aea (HU aea rfl (HU rfl rfl (fun i h1 h2=>?_) (DU (Nh _))) (DU fun x hx=>by rw[List.mem_singleton.1 hx];exact .pure rfl))
 rcases i with _|_|_|_|_|i
 ·exact aen
 ·exact a
 ·exact b
 ·exact c
 ·exact d
 ·simp at h1;omega
theorem mE.rd(ho:mE h0 h ys y cs i0):Al h y cs:=by
 obtain⟨xs,a,b,c,d⟩:=ho;refine⟨xs,a.rd,b,fun j h1 h2=>?_⟩
 by_cases e:j=i0
 ·subst e
  obtain⟨f,l,e,a,b,_⟩:=d h1 h2;exact⟨f,l,e,a.rd,b.rd⟩
 grind [rdC]
theorem tI.rd(ho:tI h0 h x s i0):RdS h x s:=by obtain⟨y1,y2,y3,y4,rfl,a,b,c,d,r⟩:=ho;exact⟨y1,y2,y3,y4,rfl,a.rd,b.rd,c.rd,d.rd⟩
end Go.Proofs.YtokahfmoollblaaGreatDoor
namespace Go.Ab
open Go
theorem OwE.bS{tb:TypeId}{h0 h1 h:Heap}{sz:Nat}{y:AV}{xs:List AV}(hw:OwE tb h1 h sz y xs)(hs:∀i,h1 i=Option.none→h0 i=Option.none):OwE tb h0 h sz y xs:=by
 rcases hw with hw|⟨id,e,hw⟩
 ·exact ahY
 ·exact .inr ⟨id,hs _ e,hw⟩
end Go.Ab
namespace Go.Proofs.YtokahfmoollblaaGreatDoor
open Go Go.Ab Go.Bf Tryz
variable {g h0 h K:Heap}{ys ys' xs:List AV}{x y z r X:AV}{c C:aK}{cs A B:List aK}{i0 j:Nat}{s S:an}
theorem fD.bS(hm:fD h0 h ys x c)(hg:∀i,h0 i=none→g i=none):fD g h ys x c:=by obtain⟨f,l,e,a,b,c⟩:=hm;exact⟨f,l,e,a.bS hg,b.bS hg,c⟩
theorem mE.bS(ho:mE h0 h ys y cs i0)(hg:∀i,h0 i=none→g i=none):mE g h ys y cs i0:=by obtain⟨xs,a,b,c,d⟩:=ho;exact⟨xs,a.bS hg,b,c,fun h1 h2=>(d h1 h2).bS hg⟩
theorem tI.bS(ho:tI h0 h x s i0)(hg:∀i,h0 i=none→g i=none):tI g h x s i0:=by obtain⟨y1,y2,y3,y4,e,a,b,c,d,r⟩:=ho;exact⟨y1,y2,y3,y4,e,a.bS hg,b.bS hg,c.bS hg,d.bS hg,r⟩
theorem qc{y1 y2 y3 y4:AV}{tk ver palg:Int}{pid:Txt}{pset:Bool}{ptgt:gj}{prules:List cS}{pkids:List bF}{pobls:List cE}(h1:S.tick=tk)(h2:S.policy= .mk pid pset palg ptgt prules pkids pobls)(h3:S.version=ver)
  (a:mE g K [y1,y2,y3,y4] y1 S.cases j) (b:OwE 132 g K 7 y2 (S.reviews.map gA)) (c:OwE 135 g K 3 y3 (S.notices.map kr)) (d:OwE 138 g K 2 y4 (S.roles.map dw)) (ap:apart y1 y2∧apart y1 y3∧apart y1 y4∧apart y2 y3∧apart y2 y4∧apart y3 y4):
  tI g K (.agg [.i tk,y1,y2,y3,y4,.s pid,.b pset,.i palg,aT ptgt,.sl (prules.map aC) .no,.sl (pkids.map aL) .no,ay pobls,.i ver]) S j:=by
 refine⟨y1,y2,y3,y4,?_,a,b,c,d,ap⟩;rw[h1,h2,h3,show gw (.mk pid pset palg ptgt prules pkids pobls)= [.s pid,.b pset,.i palg,aT ptgt,.sl (prules.map aC) .no,.sl (pkids.map aL) .no,ay pobls] by simp[gw,aQ]]
 rfl
theorem mE.move{h':Heap}(ho:mE h0 h ys y cs i0)(hz:z∈ys)(hy:apart y z)(hk:∀id,h0 id=none→h id≠none→nid z≠some id→h' id=h id)
  (hr:∀y'∈ys',∀k,nid y' =some k→h k=none∨∃w∈ys,nid w=some k):mE h0 h' ys' y cs i0:=by
 obtain⟨xs,a,b,c,d⟩:=ho;refine⟨xs,a.keep fun id e=>hk id (a.nid e).1 (a.nid e).2.1 (hy id e),b,c,fun h1 h2=>?_⟩
 obtain⟨f,l,e,of,ol,hap,hys⟩:=d h1 h2;refine⟨f,l,e,of.keep fun id e=>hk id (of.nid e).1 (of.nid e).2.1 ((hys z hz).1 id e),ol.keep fun id e=>hk id (ol.nid e).1 (ol.nid e).2.1 ((hys z hz).2 id e),hap,fun w hw=>⟨fun k e1 e2=>?_,fun k e1 e2=>?_⟩⟩
 ·rcases hr w hw k e2 with hn|⟨v,hv,e3⟩
  ·exact(of.nid e1).2.1 hn
  ·exact(hys v hv).1 k e1 e3
 ·rcases hr w hw k e2 with hn|⟨v,hv,e3⟩
  ·exact(ol.nid e1).2.1 hn
  ·exact(hys v hv).2 k e1 e3
theorem Py(hj:A.length=j)(hw:OwE 111 g K 5 r (A.map cq++([X]++B.map cq)))(hX:fD g K ys X C):mE g K ys r (A++ [C]++B) j:=by
 refine⟨_,hw,aea,fun k h1 h2 hk=>?_,fun h1 h2=>?_⟩
 ·grind
 grind
theorem CH{F:aK→aK}(hw:OwE 111 g K 5 z (xs.set j X))(hn:xs.length=cs.length)(hlo:∀k (h1:k<xs.length) (h2:k<cs.length),k≠j→xs[k]=cq cs[k])(hX:∀h:j<cs.length,fD g K ys X (F cs[j])):mE g K ys z (cs.modify j F) j:=by
 refine⟨_,hw,ad4,fun k h1 h2 e=>?_,fun h1 h2=>?_⟩
 ·grind
 grind
theorem ua(hj:j<xs.length)(x:AV):aq (xs.set j x)=aq (xs.take j)++(x.cells++aq (xs.drop (j+1))):=by simp_all [List.set_eq_take_append_cons_drop,if_pos,mO,aq]
theorem Cp(hj:j<xs.length):aq xs=aq (xs.take j)++(xs[j].cells++aq (xs.drop (j+1))):=by grind [ua,List.set_getElem_self]
theorem zI{o:OpD}(h:bQ s o=0)(hk:o.kind=3∨o.kind=4):cj s.cases o.case=true:=by grind [cj,bQ,bX]
theorem LW(hb:RdS g x s)(o:OpD)(hf:Few s)(hp:mJ 1 s.policy)(hr:i64 o.review)(ht:i64 s.tick)(hver:0≤s.version∧s.version≤1000000)(he:kP g):
  ai prog 46 [x,opA o] g fun r h' =>Ab.Sub g h'∧∃j,tI g h' r (ew aS s o) j∧(bQ s o=0→j=findD s.cases o.case):=by
 obtain⟨i0,ei0⟩:∃i0,(if o.kind=1 then s.cases.length else findD s.cases o.case)=i0:=⟨_,rfl⟩
 have hown:=fun(G:Heap) (hG:Ab.Sub g G)=>SP (hb.sub hG) i0 hf hp
 have hrdy:=fun(G:Heap) (hG:Ab.Sub g G)=>ET (hb.sub hG) o hf hr ht
 obtain⟨y1,y2,y3,y4,rfl,hb'⟩:=hb;cases hpp:s.policy with
 |mk pid pset palg ptgt prules pkids pobls=>
 have hcC:gw (.mk pid pset palg ptgt prules pkids pobls)= [.s pid,.v (.bool pset),.v (.int .i64 palg),aT ptgt,.sl (prules.map aC) .no,.sl (pkids.map aL) .no,ay pobls]:=ag4;rw[hpp,hcC]at hown hrdy;simp only[opA,opC,List.cons_append,List.nil_append]at hown hrdy;refine ad2 func46 138 [.cell 4 40] fun hwf=>?_
 simp only[go_sem,hcC,opA,opC,List.cons_append,List.nil_append];intro i2 h2;simp only[go_sem];intro i3 h3;have n32:=aF h3;have h3' :=aB h3;simp only[go_sem];intro i4 h4;have n43:=aF h4;have h4a:=aB h4;have n42:=aF h4a;have h4' :=aB h4a;simp only[go_sem,aj,n32.symm,n42.symm];obtain⟨H,eH⟩:∃H,upd (upd (upd g i2 (some (.obj [.v (.int .i64 s.tick),y1,y2,y3,y4,.s pid,.v (.bool pset),.v (.int .i64 palg),aT ptgt,.sl (prules.map aC) .no,.sl (pkids.map aL) .no,ay pobls,.v (.int .i64 s.version)] 40))) i3 (some (.obj (opC o) 46))) i4 (some (.obj [.v (.int .i64 0),.sl [] .full,.sl [] .full,.sl [] .full,.sl [] .full,.s [],.v (.bool false),.v (.int .i64 0),.sl [] .full,.sl [] .full,.sl [] .full,.sl [] .full,.v (.int .i64 0)] 40))=H:=⟨_,rfl⟩;have hH:Ab.Sub g H:=by rw[←eH];exact(((Sub.refl g).put h2 _).put h3' _).put h4' _
 have g2:H i2=some (.obj [.v (.int .i64 s.tick),y1,y2,y3,y4,.s pid,.v (.bool pset),.v (.int .i64 palg),aT ptgt,.sl (prules.map aC) .no,.sl (pkids.map aL) .no,ay pobls,.v (.int .i64 s.version)] 40):=by rw[←eH,ag _ _ n42.symm,ag _ _ n32.symm,ah]
 have g3:H i3=some (.obj (opC o) 46):=by rw[←eH,ag _ _ n43.symm,ah]
 have g4:H i4=some (.obj [.v (.int .i64 0),.sl [] .full,.sl [] .full,.sl [] .full,.sl [] .full,.s [],.v (.bool false),.v (.int .i64 0),.sl [] .full,.sl [] .full,.sl [] .full,.sl [] .full,.v (.int .i64 0)] 40):=afv;simp only[opC]at eH g3;rw[eH];clear eH;refine(hown H hH).mono fun r H1 ⟨hS,s1⟩=>?_
 obtain⟨z1,z2,z3,z4,er,hS1⟩:=id hS;subst er;rw[hpp,hcC]at hS⊢;obtain⟨hC,w2,w3,w4,a12,a13,a14,a23,a24,a34⟩:=hS1;obtain⟨xs,w1,hnx,hlo,hmy⟩:=id hC;simp only[go_sem,List.cons_append,List.nil_append];intro i5 h5;simp only[go_sem];have q2:=s1 _ _ g2;have q3:=s1 _ _ g3;have q4:=s1 _ _ g4;have n52:i2≠i5:=fun e=>by rw[←e,q2]at h5;cases h5
 have n53:i3≠i5:=fun e=>by rw[←e,q3]at h5;cases h5
 have n54:i4≠i5:=fun e=>by rw[←e,q4]at h5;cases h5
 obtain⟨K,eK⟩:∃K,upd H1 i5 (some (.obj [.v (.int .i64 s.tick),z1,z2,z3,z4,.s pid,.v (.bool pset),.v (.int .i64 palg),aT ptgt,.sl (prules.map aC) .no,.sl (pkids.map aL) .no,ay pobls,.v (.int .i64 s.version)] 40))=K:=⟨_,rfl⟩;have sK:Ab.Sub H1 K:=by rw[←eK];exact .ak h5
 have k5:K i5=some (.obj [.v (.int .i64 s.tick),z1,z2,z3,z4,.s pid,.v (.bool pset),.v (.int .i64 palg),aT ptgt,.sl (prules.map aC) .no,.sl (pkids.map aL) .no,ay pobls,.v (.int .i64 s.version)] 40):=by rw[←eK,ah]
 rw[eK];have hz5:∀k,H k=none→H1 k≠none→k≠i5:=fun k _ hk e=>hk (by rw[e];exact h5)
 have k2:=sK _ _ q2;have k3:=sK _ _ q3;have k4:=sK _ _ q4;clear eK;have sg:Ab.Sub g K:=hH.trans (s1.trans sK);simp only[go_sem,k2,k3];refine(hrdy K sg).pthen ?_;have g5:g i5=none:=(hH.trans s1).none h5;have kK:∀k,H1 k≠none→K k=H1 k:=fun k hk=>by
  cases e:H1 k with
  |none=>exact(hk e).elim
  |some b=>exact sK _ _ e
 have hz4:∀k,H k=none→k≠i4:=fun k hk e=>by rw[e,g4]at hk;cases hk
 by_cases p0:bQ s o=0
 ·have d0:(bQ s o !=0)=false:=by simp[p0]
  simp only[go_sem,d0];simp only[go_sem,k5,k3];have hSK:tI H K (.agg ([.v (.int .i64 s.tick),z1,z2,z3,z4]++gw s.policy++ [.v (.int .i64 s.version)])) s i0:=by rw[hpp,hcC];exact hS.keepb fun k _ hk=>kK k hk
  have hfi:=Co hSK.rd o.case hf.cases;rw[hpp,hcC]at hfi;simp only[List.cons_append,List.nil_append]at hfi;refine hfi.pthen ?_;simp only[go_sem,k3];have hform:dH o=true:=by
   cases e:dH o
   ·simp[bQ,e]at p0
   ·rfl
  have hdone:ew aS s o=doD aS s o:=by simp[ew,p0]
  rw[hdone]
  by_cases p1:o.kind=1
  ·have k1:(o.kind==1)=true:=by simp[p1]
   simp only[go_sem,k1];simp only[go_sem,k3];intro i8 h8;have n82:i2≠i8:=fun e=>by rw[←e,k2]at h8;cases h8
   have n83:i3≠i8:=fun e=>by rw[←e,k3]at h8;cases h8
   have n84:i4≠i8:=fun e=>by rw[←e,k4]at h8;cases h8
   have n85:i5≠i8:=fun e=>by rw[←e,k5]at h8;cases h8
   simp only[go_sem];obtain⟨K2,eK2⟩:∃K2,upd K i8 (some (.obj [.s o.case,.s o.subj,.s [111,112,101,110],.sl [] .full,.sl [] .full] 111))=K2:=⟨_,rfl⟩;have sK2:Ab.Sub K K2:=by rw[←eK2];exact .ak h8
   have e8:K2 i8=some (.obj [.s o.case,.s o.subj,.s [111,112,101,110],.sl [] .full,.sl [] .full] 111):=by rw[←eK2,ah]
   rw[eK2];clear eK2;have m3:=sK2 _ _ k3;have m4:=sK2 _ _ k4;have m5:=sK2 _ _ k5;simp only[go_sem,m3,m5];have hha:=sS (h0:=H) (s:=s) z1 z2 z3 z4 (k:=i8) (o:=0) (A:=[]) (B:=[]) (t:=111) (c:=⟨o.case,o.subj,jQ,[],[]⟩) (f:=.sl [] .full) (l:=.sl [] .full) rfl e8 ad6 (.inl ⟨rfl,rfl⟩) (s1.trans (sK.trans sK2)) (Nat.zero_le _) o.subj [110,101,119];rw[hpp,hcC]at hha;simp only[List.cons_append,List.nil_append]at hha;refine hha.mono fun r K3 ⟨l',ol,e8',fr3,ap3⟩=>?_
   have kK3:∀k,K2 k≠none→k≠i8→K3 k=K2 k:=fun k hk hk8=>fr3 k hk hk8 (by simp[nid])
   have m3' :K3 i3=_:=(kK3 i3 (by rw[m3];simp) n83).trans m3
   have m4' :K3 i4=_:=(kK3 i4 (by rw[m4];simp) n84).trans m4
   have m5' :K3 i5=_:=(kK3 i5 (by rw[m5];simp) n85).trans m5
   simp only[cm,List.append_nil]at e8';simp only[go_sem];simp only[go_sem,m5',e8'];have kk2:∀k,H1 k≠none→K2 k=H1 k:=fun k hk=>by
    have:=kK k hk;cases e:K k with
    |none=>rw[e]at this;exact(hk this.symm).elim
    |some b=>rw[sK2 _ _ e,←e,this]
   have k8:∀k,H1 k≠none→k≠i8:=fun k hk e=>hk (by have:=kK k hk;rw[e,h8]at this;rw[e];exact this.symm)
   have kk3:∀k,H1 k≠none→K3 k=H1 k:=fun k hk=>(kK3 k (by rw[kk2 k hk];exact hk) (k8 k hk)).trans (kk2 k hk)
   have sH3:Ab.Sub H1 K3:=fun k b hk=>by rw[kk3 k (by rw[hk];simp)];exact hk
   have hfl:findD s.cases o.case≤s.cases.length:=List.findIdx_le_length;have hfc:=hf.cases;refine(Gk z1 xs (.agg [.s o.case,.s o.subj,.s jQ,.sl [] .full,l']) (findD s.cases o.case) H K3 (w1.keepb fun k _ hk=>kk3 k hk) (s1.trans sH3) ad3 ad3 rfl (by simp[Ab.fit])).mono fun r K4 ⟨ow5,fr4,ap4⟩=>?_
   have m4'' :K4 i4=_:=(fr4 i4 (by rw[m4'];simp) (fun e=>by have:=(w1.nid e).1;rw[g4]at this;cases this)).trans m4'
   have m5'' :K4 i5=_:=(fr4 i5 (by rw[m5'];simp) (fun e=>(w1.nid e).2.1 h5)).trans m5'
   simp only[go_sem,m5'',ow5.rd.fit,ow5.rd.cells];simp only[go_sem,aj,n54,m4''];have hi0:i0=s.cases.length:=by rw[←ei0,if_pos p1]
   have hxs:xs=s.cases.map cq:=List.ext_getElem (by simpa using hnx) fun j a b=>by rw[hlo j a ad3 ad3,adU]
   have kk4:∀k,H1 k≠none→nid z1≠some k→K4 k=H1 k:=fun k hk hz=>(fr4 k (by rw[kk3 k hk];exact hk) hz).trans (kk3 k hk)
   obtain⟨K5,eK5⟩:∃K5,upd (upd K4 i5 (some (.obj [.v (.int .i64 s.tick),r,z2,z3,z4,.s pid,.v (.bool pset),.v (.int .i64 palg),aT ptgt,.sl (prules.map aC) .no,.sl (pkids.map aL) .no,ay pobls,.v (.int .i64 s.version)] 40))) i4 (some (.obj [.v (.int .i64 s.tick),r,z2,z3,z4,.s pid,.v (.bool pset),.v (.int .i64 palg),aT ptgt,.sl (prules.map aC) .no,.sl (pkids.map aL) .no,ay pobls,.v (.int .i64 s.version)] 40))=K5:=⟨_,rfl⟩;rw[eK5];have o5:∀k,k≠i4→k≠i5→K5 k=K4 k:=fun k a b=>by rw[←eK5,ag _ _ a,ag _ _ b]
   have kk5:∀k,H k=none→H1 k≠none→nid z1≠some k→K5 k=H1 k:=fun k a b c=>(o5 k (hz4 k a) (hz5 k a b)).trans (kk4 k b c)
   have ow:OwE 111 H K5 5 r (List.take (findD s.cases o.case) xs++([.agg [.s o.case,.s o.subj,.s jQ,.sl [] .full,l']]++List.drop (findD s.cases o.case) xs)):=ow5.keep fun id e=>o5 id (hz4 id (ow5.nid e).1) fun e5=>by
    subst e5;rcases ap4 _ e with h|h
    ·rw[m5']at h;cases h
    ·exact(w1.nid h).2.1 h5
   have ol5:OwE 189 H K5 3 l' _:=ol.keep fun id e=>by
    have h2n:K2 id=none:=(ap3 id e).resolve_right (by simp[nid])
    have hz:nid z1≠some id:=fun e1=>by have:=kk2 id (w1.nid e1).2.1;rw[h2n]at this;exact(w1.nid e1).2.1 this.symm
    rw[o5 id (hz4 id (ol.nid e).1) (fun e5=>by rw[e5,m5]at h2n;cases h2n),fr4 id (ol.nid e).2.1 hz]
   have hmc:fD H K5 [] (.agg [.s o.case,.s o.subj,.s jQ,.sl [] .full,l']) (jD s ⟨o.case,o.subj,jQ,[],[]⟩ o.subj [110,101,119]):=⟨.sl [] .full,l',rfl,.inl ⟨rfl,rfl⟩,ol5,(fun i e=>aet),fun y hy=>by cases hy⟩
   have sg4:Ab.Sub g K4:=fun k b hk=>by
    have h1:=hH _ _ hk;have h2:=s1 _ _ h1;rw[kk4 k (by rw[h2];simp) (fun e=>by have:=(w1.nid e).1;rw[h1]at this;cases this)]
    exact ahR
   have sg5:Ab.Sub g K5:=by rw[←eK5];exact(sg4.put g5 _).put h4' _
   have hdo:doD aS s o= {s with cases:=s.cases.take (findD s.cases o.case)++ [jD s ⟨o.case,o.subj,jQ,[],[]⟩ o.subj [110,101,119]]++s.cases.drop (findD s.cases o.case)}:=by simp[doD,p1]
   refine .mk _ (.refl _) (.refl _) ⟨sg5,_,?_,fun _=>rfl⟩
   rw[hdo];have apr:∀k,nid r=some k→H1 k=none∨nid z1=some k:=fun k e=>(ap4 k e).imp (fun h=>sH3.none h) id
   have hro:∀ {w:AV},apart z1 w→(∀k,nid w=some k→H1 k≠none)→apart r w:=fun ha hw k e1 e2=>(apr k e1).elim (fun h=>hw k e2 h) (fun h=>ha k h e2)
   have hl0:∀k,nid l' =some k→H1 k=none:=fun k e=>(sK.trans sK2).none ((ap3 k e).resolve_right (by simp[nid]))
   have hlr:apart l' r:=fun k e1 e2=>(ap4 k e2).elim (fun h=>(ol.nid e1).2.1 h) (fun h=>(w1.nid h).2.1 (hl0 k e1))
   rw[hxs,←List.map_take,←List.map_drop]at ow;refine qc rfl hpp rfl (Py afA (ow.bS (fun _ e=>hH.none e)) ⟨.sl [] .full,l',rfl,.inl ⟨rfl,rfl⟩,ol5.bS (fun _ e=>hH.none e),(fun i e=>aet),fun y hy=>⟨(fun i e=>aet),?_⟩⟩) ((w2.keep fun id e=>kk5 id (w2.nid e).1 (w2.nid e).2.1 fun e1=>a12 id e1 e).bS fun _ e=>hH.none e) ((w3.keep fun id e=>kk5 id (w3.nid e).1 (w3.nid e).2.1 fun e1=>a13 id e1 e).bS fun _ e=>hH.none e) ((w4.keep fun id e=>kk5 id (w4.nid e).1 (w4.nid e).2.1 fun e1=>a14 id e1 e).bS fun _ e=>hH.none e) ⟨hro a12 fun k e=>(w2.nid e).2.1,hro a13 fun k e=>(w3.nid e).2.1,hro a14 fun k e=>(w4.nid e).2.1,a23,a24,a34⟩
   simp only[List.mem_cons,List.not_mem_nil,or_false]at hy;rcases hy with rfl|rfl|rfl|rfl
   ·exact hlr
   ·exact fun k e1 e2=>(w2.nid e2).2.1 (hl0 k e1)
   ·exact fun k e1 e2=>(w3.nid e2).2.1 (hl0 k e1)
   ·exact fun k e1 e2=>(w4.nid e2).2.1 (hl0 k e1)
  have k1:(o.kind==1)=false:=by simp[p1]
  have hi0:i0=findD s.cases o.case:=by rw[←ei0,if_neg p1]
  simp only[go_sem,k1]
  by_cases p3:o.kind=3
  ·have k3' :(o.kind==3)=true:=by simp[p3]
   simp only[go_sem,k3'];have hth:=zI p0 (.inl p3);have hlt:=jS hth;obtain⟨j,ej⟩:∃j,findD s.cases o.case=j:=⟨_,rfl⟩;have hj:j<s.cases.length:=by rw[←ej];exact hlt
   have hjx:j<xs.length:=ad3;rw[ej]at hi0;subst hi0;obtain⟨f,l,ex,of,ol,hap,hys⟩:=hmy hjx hj;obtain⟨id1,hg1,o1⟩:=w1.ow agU;have o1' :=o1;obtain⟨cap,rest,ey,hid,hrl,hcap,hsz⟩:=o1';have lA:i0*5=(aq (xs.take i0)).length:=ae6;have hidK:K id1=some (.obj (aq (xs.take i0)++(cm s.cases[i0] f l++(aq (xs.drop (i0+1))++rest))) 111):=by rw[sK _ _ hid,Cp hjx,ex];simp[cm,AV.cells]
   have n14:id1≠i4:=hz4 id1 hg1;have n13:id1≠i3:=fun e=>by rw[e,g3]at hg1;cases hg1
   have n15:id1≠i5:=fun e=>o1.none (by rw[e];exact h5)
   have nf4:∀k,nid f=some k→k≠i3∧k≠i4∧k≠i5∧k≠id1:=fun k e=>⟨(fun e' =>agO),hz4 k (of.nid e).1,hz5 k (of.nid e).1 (of.nid e).2.1,fun e' =>(hys z1 aea).1 k e aht⟩
   have nl4:∀k,nid l=some k→k≠i3∧k≠i4∧k≠i5∧k≠id1:=fun k e=>⟨(fun e' =>agP),hz4 k (ol.nid e).1,hz5 k (ol.nid e).1 (ol.nid e).2.1,fun e' =>(hys z1 aea).2 k e aht⟩
   have hff:=hf.fields _ (adY hj);have hfl:=hf.log _ (adY hj);rw[ej];refine .calls (pick K [i3,i5]) [0,1,2,3,4,5,6,7,8] bz ad7 rfl ?_;simp only[go_sem,bG (show i5∈ [i3,i5] by simp),k3,k5]
   refine(o1.sub sK).idx (U:=U) (e:=111) i0 rfl hjx nZ ad6 ?_;simp only[go_sem,bG (show i3∈ [i3,i5] by simp),k3,k5]
   refine(show ai prog 111 [.ptr id1 (i0*5),.s o.field,.agg [.v (.int .i64 o.val.kind),.v (.int .i64 o.val.n),.s o.val.s]] K _ from N4 lA hidK ad6 (of.sub sK) (s1.trans sK) hff o.field o.val).mono fun r K3 ⟨f',of',e1',fr3,ap3⟩=>?_
   have kk3:∀k,H1 k≠none→k≠id1→nid f≠some k→K3 k=H1 k:=fun k a b c=>(fr3 k (by rw[kK k a];exact a) b c).trans (kK k a)
   have m3:K3 i3=_:=(fr3 i3 (by rw[k3];simp) n13.symm fun e=>(nf4 _ e).1 rfl).trans k3
   have m4:K3 i4=_:=(fr3 i4 (by rw[k4];simp) n14.symm fun e=>(nf4 _ e).2.1 rfl).trans k4
   have m5:K3 i5=_:=(fr3 i5 (by rw[k5];simp) n15.symm fun e=>(nf4 _ e).2.2.1 rfl).trans k5
   refine⟨iW fun k hk=>?_,?_⟩
   ·simp only[List.mem_cons,List.not_mem_nil,or_false]at hk
    rcases hk with rfl|rfl
    ·rw[m3,k3]
    ·rw[m5,k5]
   simp only[go_sem];have sH3:Ab.Sub H K3:=fun k b hk=>aeK
   have ol3:OwE 189 H K3 3 l (s.cases[i0].log.map gv):=ol.keep fun k e=>kk3 k (ol.nid e).2.1 (nl4 k e).2.2.2 (fun e1=>hap k e1 e)
   have hX5:∀y1 y2:AV,Sized 5 (xs.set i0 (.agg (cm s.cases[i0] y1 y2))):=fun y1 y2 z hz=>by exact aiV
   have mkO:∀ {G:Heap} {y1 y2:AV},G id1=some (.obj (aq (xs.take i0)++(cm s.cases[i0] y1 y2++(aq (xs.drop (i0+1))++rest))) 111)→Ow 111 G 5 id1 z1 (xs.set i0 (.agg (cm s.cases[i0] y1 y2))):=fun {G y1 y2} hG=>⟨cap,rest,agi,by rw[hG,ua hjx];simp[AV.cells],ag8,aga,hX5 _ _⟩
   have hjs:∀x:AV,i0<(xs.set i0 x).length:=fun x=>by rw[List.length_set];exact hjx
   refine .calls (pick K3 [i3,i5]) [0,1,2,3,4,5,6,7] bz ad7 rfl ?_;simp only[go_sem,bG (show i5∈ [i3,i5] by simp),m3,m5]
   refine(mkO e1').idx (U:=U) (e:=111) i0 rfl (hjs _) nZ ad6 ?_;simp only[go_sem,bG (show i3∈ [i3,i5] by simp),m3,m5]
   have hha:=sS (h0:=H) (h:=K3) (s:=s) z1 z2 z3 z4 (k:=id1) (c:=s.cases[i0]) (f:=f') (l:=l) lA e1' ad6 ol3 sH3 hfl o.subj [119,114,105,116,101];rw[hpp,hcC]at hha;simp only[List.cons_append,List.nil_append]at hha;refine hha.mono fun r K4 ⟨l',ol',e1'',fr4,ap4⟩=>?_
   have m3' :K4 i3=_:=(fr4 i3 (by rw[m3];simp) n13.symm fun e=>(nl4 _ e).1 rfl).trans m3
   have m4' :K4 i4=_:=(fr4 i4 (by rw[m4];simp) n14.symm fun e=>(nl4 _ e).2.1 rfl).trans m4
   have m5' :K4 i5=_:=(fr4 i5 (by rw[m5];simp) n15.symm fun e=>(nl4 _ e).2.2.1 rfl).trans m5
   refine⟨iW fun k hk=>?_,?_⟩
   ·simp only[List.mem_cons,List.not_mem_nil,or_false]at hk
    rcases hk with rfl|rfl
    ·rw[m3',m3]
    ·rw[m5',m5]
   simp only[go_sem];simp only[go_sem,m5',m4'];obtain⟨K5,eK5⟩:∃K5,upd K4 i4 (some (.obj [.v (.int .i64 s.tick),z1,z2,z3,z4,.s pid,.v (.bool pset),.v (.int .i64 palg),aT ptgt,.sl (prules.map aC) .no,.sl (pkids.map aL) .no,ay pobls,.v (.int .i64 s.version)] 40))=K5:=⟨_,rfl⟩;rw[eK5];have o5:∀k,k≠i4→K5 k=K4 k:=fun k a=>by rw[←eK5,ag _ _ a]
   have kk5:∀k,H k=none→H1 k≠none→k≠id1→nid f≠some k→nid l≠some k→K5 k=H1 k:=fun k a b c d e=>by exact ajZ
   have of5:OwE 199 H K5 4 f' _:=of'.keep fun id e=>by exact aiy
   have ol5:OwE 189 H K5 3 l' _:=ol'.keep fun id e=>o5 id (hz4 id (ol'.nid e).1)
   have sg4:Ab.Sub g K4:=fun k b hk=>by exact ai4
   have sg5:Ab.Sub g K5:=by rw[←eK5];exact sg4.put h4' _
   have n1' :nid z1=some id1:=o1.nid;have hdo:doD aS s o= {s with cases:=s.cases.modify i0 fun c=>jD s {c with fields:=fo c.fields o.field o.val} o.subj [119,114,105,116,101]}:=by simp[doD,p3,ej]
   refine .mk _ (.refl _) (.refl _) ⟨sg5,_,?_,fun _=>rfl⟩
   rw[hdo];have thr:∀w∈ [z1,z2,z3,z4],∀k,nid w=some k→H1 k≠none:=fun w hw k e=>by exact ai2
   refine qc rfl hpp rfl ?_ ((w2.keep fun id e=>kk5 id (w2.nid e).1 (w2.nid e).2.1 (fun e1=>a12 id1 n1' agL) (fun e1=>(hys z2 aea).1 id e1 e) (fun e1=>(hys z2 aea).2 id e1 e)).bS fun _ e=>hH.none e) ((w3.keep fun id e=>kk5 id (w3.nid e).1 (w3.nid e).2.1 (fun e1=>a13 id1 n1' agL) (fun e1=>(hys z3 aea).1 id e1 e) (fun e1=>(hys z3 aea).2 id e1 e)).bS fun _ e=>hH.none e) ((w4.keep fun id e=>kk5 id (w4.nid e).1 (w4.nid e).2.1 (fun e1=>a14 id1 n1' agL) (fun e1=>(hys z4 aea).1 id e1 e) (fun e1=>(hys z4 aea).2 id e1 e)).bS fun _ e=>hH.none e) ⟨a12,a13,a14,a23,a24,a34⟩
   refine CH (X:=.agg (cm s.cases[i0] f' l')) ((show OwE 111 H K5 5 z1 _ from .inr ⟨id1,hg1,mkO ((o5 id1 n14).trans e1'')⟩).bS (fun _ e=>hH.none e)) hnx (fun k h1 h2 hk=>hlo k h1 h2 hk) fun hh=>⟨f',l',rfl,of5.bS (fun _ e=>hH.none e),ol5.bS (fun _ e=>hH.none e),fun k e1 e2=>?_,fun w hw=>⟨fun k e1 e2=>?_,fun k e1 e2=>?_⟩⟩
   ·rcases ap4 k e2 with h|h
    ·exact(of'.nid e1).2.1 h
    ·rcases ap3 k e1 with h' |h'
     ·exact(ol.nid h).2.1 (sK.none h')
     ·exact hap k h' h
   ·rcases ap3 k e1 with h|h
    ·exact thr w hw k e2 (sK.none h)
    ·exact(hys w hw).1 k h e2
   ·rcases ap4 k e1 with h|h
    ·by_cases h1:k=id1
     ·subst h1;rw[e1']at h;cases h
     ·have:=kk3 k (thr w hw k e2) h1 (fun e=>(hys w hw).1 k e e2)
      rw[h]at this;exact thr w hw k e2 this.symm
    ·exact(hys w hw).2 k h e2
  have k3' :(o.kind==3)=false:=by simp[p3]
  simp only[go_sem,k3']
  by_cases p4:o.kind=4
  ·have k4' :(o.kind==4)=true:=by simp[p4]
   simp only[go_sem,k4'];have hth:=zI p0 (.inr p4);have hlt:=jS hth;obtain⟨j,ej⟩:∃j,findD s.cases o.case=j:=⟨_,rfl⟩;have hj:j<s.cases.length:=by rw[←ej];exact hlt
   have hjx:j<xs.length:=ad3;rw[ej]at hi0;subst hi0;obtain⟨f,l,ex,of,ol,hap,hys⟩:=hmy hjx hj;obtain⟨id1,hg1,o1⟩:=w1.ow agU;have o1' :=o1;obtain⟨cap,rest,ey,hid,hrl,hcap,hsz⟩:=o1';have lA:i0*5=(aq (xs.take i0)).length:=ae6;have hidK:K id1=some (.obj (aq (xs.take i0)++(cm s.cases[i0] f l++(aq (xs.drop (i0+1))++rest))) 111):=by rw[sK _ _ hid,Cp hjx,ex];simp[cm,AV.cells]
   have n14:id1≠i4:=hz4 id1 hg1;have n13:id1≠i3:=fun e=>by rw[e,g3]at hg1;cases hg1
   have n15:id1≠i5:=fun e=>o1.none (by rw[e];exact h5)
   have nf4:∀k,nid f=some k→k≠i3∧k≠i4∧k≠i5∧k≠id1:=fun k e=>⟨(fun e' =>agO),hz4 k (of.nid e).1,hz5 k (of.nid e).1 (of.nid e).2.1,fun e' =>(hys z1 aea).1 k e aht⟩
   have nl4:∀k,nid l=some k→k≠i3∧k≠i4∧k≠i5∧k≠id1:=fun k e=>⟨(fun e' =>agP),hz4 k (ol.nid e).1,hz5 k (ol.nid e).1 (ol.nid e).2.1,fun e' =>(hys z1 aea).2 k e aht⟩
   have hff:=hf.fields _ (adY hj);have hfl:=hf.log _ (adY hj);rw[ej];simp only[go_sem,k5,k3];refine(o1.sub sK).idx (U:=U) (e:=111) i0 rfl hjx nZ ad6 ?_;simp only[go_sem,hidK];have e2:List.take (i0*5+2) (aq (xs.take i0)++(cm s.cases[i0] f l++(aq (xs.drop (i0+1))++rest)))++ [.s o.to]++List.drop (i0*5+2+1) (aq (xs.take i0)++(cm s.cases[i0] f l++(aq (xs.drop (i0+1))++rest)))=aq (xs.take i0)++(cm {s.cases[i0]with state:=o.to} f l++(aq (xs.drop (i0+1))++rest)):=by
    have:=pW (A:=aq (xs.take i0)++ [.s s.cases[i0].id,.s s.cases[i0].owner]) (B:=[.s s.cases[i0].state]) (C:=f::l::(aq (xs.drop (i0+1))++rest)) (X:=[.s o.to]) (k:=i0*5+2) (m:=1) (by rw[lA];simp) rfl rfl
    exact ajU
   rw[e2];obtain⟨K3,eK3⟩:∃K3,upd K id1 (some (.obj (aq (xs.take i0)++(cm {s.cases[i0]with state:=o.to} f l++(aq (xs.drop (i0+1))++rest))) 111))=K3:=⟨_,rfl⟩
   rw[eK3];refine⟨by simp only[adX,←lA,cm,List.length_cons,List.length_nil];omega,?_⟩
   have e1' :K3 id1=some (.obj (aq (xs.take i0)++(cm {s.cases[i0]with state:=o.to} f l++(aq (xs.drop (i0+1))++rest))) 111):=by rw[←eK3,ah]
   have fr3:∀k,K k≠none→k≠id1→nid f≠some k→K3 k=K k:=fun k _ hk _=>by rw[←eK3,ag _ _ hk]
   have ap3:∀k,nid f=some k→K k=none∨nid f=some k:=fun k hk=> .inr hk
   have kk3:∀k,H1 k≠none→k≠id1→nid f≠some k→K3 k=H1 k:=fun k a b c=>(fr3 k (by rw[kK k a];exact a) b c).trans (kK k a)
   have m3:K3 i3=_:=(fr3 i3 (by rw[k3];simp) n13.symm fun e=>(nf4 _ e).1 rfl).trans k3
   have m4:K3 i4=_:=(fr3 i4 (by rw[k4];simp) n14.symm fun e=>(nf4 _ e).2.1 rfl).trans k4
   have m5:K3 i5=_:=(fr3 i5 (by rw[k5];simp) n15.symm fun e=>(nf4 _ e).2.2.1 rfl).trans k5
   obtain⟨f',of',ef'⟩:∃f',OwE 199 H K3 4 f' (s.cases[i0].fields.map bC)∧f=f' :=⟨f,of.keep fun k e=>by rw[←eK3,ag _ _ (nf4 k e).2.2.2,kK k (of.nid e).2.1],rfl⟩
   rw[ef']at e1';replace ap3:∀k,nid f' =some k→K k=none∨nid f=some k:=by rw[←ef'];exact ap3
   have sH3:Ab.Sub H K3:=fun k b hk=>aeK
   have ol3:OwE 189 H K3 3 l (s.cases[i0].log.map gv):=ol.keep fun k e=>kk3 k (ol.nid e).2.1 (nl4 k e).2.2.2 (fun e1=>hap k e1 e)
   have hX5:∀y1 y2:AV,Sized 5 (xs.set i0 (.agg (cm ({s.cases[i0]with state:=o.to}:aK) y1 y2))):=fun y1 y2 z hz=>by exact aiV
   have mkO:∀ {G:Heap} {y1 y2:AV},G id1=some (.obj (aq (xs.take i0)++(cm ({s.cases[i0]with state:=o.to}:aK) y1 y2++(aq (xs.drop (i0+1))++rest))) 111)→Ow 111 G 5 id1 z1 (xs.set i0 (.agg (cm ({s.cases[i0]with state:=o.to}:aK) y1 y2))):=fun {G y1 y2} hG=>⟨cap,rest,agi,by rw[hG,ua hjx];simp[AV.cells],ag8,aga,hX5 _ _⟩
   have hjs:∀x:AV,i0<(xs.set i0 x).length:=fun x=>by rw[List.length_set];exact hjx
   refine .calls (pick K3 [i3,i5]) [0,1,2,3,4,5,6,7,8,9] bz ad7 rfl ?_;simp only[go_sem,bG (show i5∈ [i3,i5] by simp),m3,m5]
   refine(mkO e1').idx (U:=U) (e:=111) i0 rfl (hjs _) nZ ad6 ?_;simp only[go_sem,bG (show i3∈ [i3,i5] by simp),m3,m5]
   have hha:=sS (h0:=H) (h:=K3) (s:=s) z1 z2 z3 z4 (k:=id1) (c:=({s.cases[i0]with state:=o.to}:aK)) (f:=f') (l:=l) lA e1' ad6 ol3 sH3 hfl o.subj o.to
   rw[hpp,hcC]at hha;simp only[List.cons_append,List.nil_append]at hha;refine hha.mono fun r K4 ⟨l',ol',e1'',fr4,ap4⟩=>?_
   have m3' :K4 i3=_:=(fr4 i3 (by rw[m3];simp) n13.symm fun e=>(nl4 _ e).1 rfl).trans m3
   have m4' :K4 i4=_:=(fr4 i4 (by rw[m4];simp) n14.symm fun e=>(nl4 _ e).2.1 rfl).trans m4
   have m5' :K4 i5=_:=(fr4 i5 (by rw[m5];simp) n15.symm fun e=>(nl4 _ e).2.2.1 rfl).trans m5
   refine⟨iW fun k hk=>?_,?_⟩
   ·simp only[List.mem_cons,List.not_mem_nil,or_false]at hk
    rcases hk with rfl|rfl
    ·rw[m3',m3]
    ·rw[m5',m5]
   simp only[go_sem];simp only[go_sem,m5',m4'];obtain⟨K5,eK5⟩:∃K5,upd K4 i4 (some (.obj [.v (.int .i64 s.tick),z1,z2,z3,z4,.s pid,.v (.bool pset),.v (.int .i64 palg),aT ptgt,.sl (prules.map aC) .no,.sl (pkids.map aL) .no,ay pobls,.v (.int .i64 s.version)] 40))=K5:=⟨_,rfl⟩;rw[eK5];have o5:∀k,k≠i4→K5 k=K4 k:=fun k a=>by rw[←eK5,ag _ _ a]
   have kk5:∀k,H k=none→H1 k≠none→k≠id1→nid f≠some k→nid l≠some k→K5 k=H1 k:=fun k a b c d e=>by exact ajZ
   have of5:OwE 199 H K5 4 f' _:=of'.keep fun id e=>by exact aiy
   have ol5:OwE 189 H K5 3 l' _:=ol'.keep fun id e=>o5 id (hz4 id (ol'.nid e).1)
   have sg4:Ab.Sub g K4:=fun k b hk=>by exact ai4
   have sg5:Ab.Sub g K5:=by rw[←eK5];exact sg4.put h4' _
   have n1' :nid z1=some id1:=o1.nid;have hdo:doD aS s o= {s with cases:=s.cases.modify i0 fun c=>jD s {c with state:=o.to} o.subj o.to}:=by simp[doD,p4,ej]
   refine .mk _ (.refl _) (.refl _) ⟨sg5,_,?_,fun _=>rfl⟩
   rw[hdo];have thr:∀w∈ [z1,z2,z3,z4],∀k,nid w=some k→H1 k≠none:=fun w hw k e=>by exact ai2
   refine qc rfl hpp rfl ?_ ((w2.keep fun id e=>kk5 id (w2.nid e).1 (w2.nid e).2.1 (fun e1=>a12 id1 n1' agL) (fun e1=>(hys z2 aea).1 id e1 e) (fun e1=>(hys z2 aea).2 id e1 e)).bS fun _ e=>hH.none e) ((w3.keep fun id e=>kk5 id (w3.nid e).1 (w3.nid e).2.1 (fun e1=>a13 id1 n1' agL) (fun e1=>(hys z3 aea).1 id e1 e) (fun e1=>(hys z3 aea).2 id e1 e)).bS fun _ e=>hH.none e) ((w4.keep fun id e=>kk5 id (w4.nid e).1 (w4.nid e).2.1 (fun e1=>a14 id1 n1' agL) (fun e1=>(hys z4 aea).1 id e1 e) (fun e1=>(hys z4 aea).2 id e1 e)).bS fun _ e=>hH.none e) ⟨a12,a13,a14,a23,a24,a34⟩
   refine CH (X:=.agg (cm ({s.cases[i0]with state:=o.to}:aK) f' l')) ((show OwE 111 H K5 5 z1 _ from .inr ⟨id1,hg1,mkO ((o5 id1 n14).trans e1'')⟩).bS (fun _ e=>hH.none e)) hnx (fun k h1 h2 hk=>hlo k h1 h2 hk) fun hh=>⟨f',l',rfl,of5.bS (fun _ e=>hH.none e),ol5.bS (fun _ e=>hH.none e),fun k e1 e2=>?_,fun w hw=>⟨fun k e1 e2=>?_,fun k e1 e2=>?_⟩⟩
   ·rcases ap4 k e2 with h|h
    ·exact(of'.nid e1).2.1 h
    ·rcases ap3 k e1 with h' |h'
     ·exact(ol.nid h).2.1 (sK.none h')
     ·exact hap k h' h
   ·rcases ap3 k e1 with h|h
    ·exact thr w hw k e2 (sK.none h)
    ·exact(hys w hw).1 k h e2
   ·rcases ap4 k e1 with h|h
    ·by_cases h1:k=id1
     ·subst h1;rw[e1']at h;cases h
     ·have:=kk3 k (thr w hw k e2) h1 (fun e=>(hys w hw).1 k e e2)
      rw[h]at this;exact thr w hw k e2 this.symm
    ·exact(hys w hw).2 k h e2
  have k4' :(o.kind==4)=false:=by simp[p4]
  simp only[go_sem,k4'];have kkK:∀k,H k=none→H1 k≠none→K k=H1 k:=fun k _ b=>kK k b
  by_cases p5:o.kind=5
  ·have k5' :(o.kind==5)=true:=by simp[p5]
   simp only[go_sem,k5'];have hrv:0<o.review:=by simp only[dH,dX,Bool.and_eq_true]at hform;simpa[okD,p5]using hform.2.1.2
   obtain⟨n,en⟩:∃n:Nat,o.review=((n:Nat):Int)+1:=⟨(o.review - 1).toNat,ad3⟩;have w5:IntKind.i64.wrap (o.review - 1)=((n:Nat):Int):=by rw[aY _ (by have:=hr.2;omega)];omega
   have hn5:n<s.reviews.length:=by
    have:fy s o=0:=by simpa[bQ,hform,p5]using p0
    unfold fy at this;have e1:wU s.reviews o.review=s.reviews[n]? :=by unfold wU;rw[if_pos ad3,show(o.review - 1).toNat=n by omega]
    rw[e1]at this
    by_cases hlt:n<s.reviews.length
    ·exact hlt
    ·rw[List.getElem?_eq_none ad3]at this;cases this
   have hnm:n<(s.reviews.map gA).length:=by simpa using hn5
   obtain⟨id2,hg2,o2⟩:=w2.ow (by intro e;rw[e]at hnm;cases hnm)
   have o2' :=o2;obtain⟨cap,rest,ey,hid,hrl,hcap,hsz⟩:=o2';have n24:id2≠i4:=hz4 id2 hg2;have n25:id2≠i5:=hz5 id2 hg2 o2.none;have hidK:=sK _ _ hid;simp only[go_sem,k5,k3,w5];refine(o2.sub sK).idx (U:=U) (e:=132) n rfl hnm aed ad6 ?_;simp only[go_sem,hidK];have e2:List.take (n*7+6) (aq (s.reviews.map gA)++rest)++ [.v (.bool false)]++List.drop (n*7+6+1) (aq (s.reviews.map gA)++rest)=aq ((s.reviews.modify n fun r=> {r with isOpen:=false}).map gA)++rest:=by
    refine(kG hsz n hnm 6 [.v (.bool false)] (adS rfl)).trans ?_
    congr 2
    refine List.ext_getElem aea fun j h1 h2=>?_
    by_cases e:j=n
    ·subst e;simp[gA,AV.cells,Ab.over]
    ·rw[List.getElem_set_ne (Ne.symm e)];simp[Ne.symm e]
   rw[e2];refine⟨by rw[adX,aZ hsz];omega,?_⟩
   have k5b:∀b,upd K id2 b i5=_:=fun b=>(ag _ _ n25.symm).trans k5
   have k4b:∀b,upd K id2 b i4=_:=fun b=>(ag _ _ n24.symm).trans k4
   simp only[go_sem,k5b,k4b];have hdo:doD aS s o= {s with reviews:=s.reviews.modify n fun r=> {r with isOpen:=false}}:=by simp[doD,p5,en]
   have kz:∀a b k,H k=none→H1 k≠none→nid z2≠some k→upd (upd K id2 a) i4 b k=H1 k:=fun a b k c d e=>by rw[ag _ _ (hz4 k c),ag _ _ (fun e' =>e (by rw[e'];exact o2.nid)),kK k d]
   refine .mk _ (.refl _) (.refl _) ⟨(Sub.put (i:=id2) sg (hH.none hg2) _).put h4' _,_,?_,fun _=>hi0⟩
   rw[hdo];exact qc rfl hpp rfl ((hC.keepx (z:=z2) aea a12 (kz _ _)).bS (fun _ e=>hH.none e)) (.inr ⟨id2,hH.none hg2,cap,rest,by rw[ey];simp,by rw[ag _ _ n24,ah],by rw[hrl];simp,by simpa using hcap,bu (f:=gA) (n:=7) (fun _=>rfl) _⟩) ((w3.keep fun id e=>kz _ _ id (w3.nid e).1 (w3.nid e).2.1 fun e1=>a23 id e1 e).bS fun _ e=>hH.none e) ((w4.keep fun id e=>kz _ _ id (w4.nid e).1 (w4.nid e).2.1 fun e1=>a24 id e1 e).bS fun _ e=>hH.none e) ⟨a12,a13,a14,a23,a24,a34⟩
  have k5' :(o.kind==5)=false:=by simp[p5]
  simp only[go_sem,k5']
  by_cases p6:o.kind=6
  ·have k6' :(o.kind==6)=true:=by simp[p6]
   simp only[go_sem,k6'];simp only[go_sem,k5,k3];have hha6:=Gi hSK.rd o.case o.field (Nat.le_trans hf.roles ad6);rw[hpp,hcC]at hha6;simp only[List.cons_append,List.nil_append]at hha6;refine hha6.pthen ?_;cases dha:yQ s.roles ⟨o.case,o.field⟩
   ·simp only[go_sem]
    simp only[go_sem,k5,k3];have hap1:Rd K 2 (.sl [dw ⟨o.case,o.field⟩] .full) [dw ⟨o.case,o.field⟩]:=.sl aeP .full;have hfr:=hf.roles;refine OwE.app (U:=U) (tb:=138) (w4.sub sK) (s1.trans sK) hap1 aed ad6 ad8 aed aea aeB fun id4 y' K3 g4' hor hw ho2=>?_
    have hor' :K id4=none∨nid z4=some id4:=by exact aiN
    have n44:i4≠id4:=fun e=>by rw[←e,g4]at g4';cases g4'
    have n45:i5≠id4:=fun e=>by
     rcases hor' with hor|hor
     ·rw[←e,k5]at hor;cases hor
     ·exact(w4.nid hor).2.1 (by rw[←e];exact h5)
    have m4:K3 i4=_:=(ho2 i4 n44).trans k4;have m5:K3 i5=_:=(ho2 i5 n45).trans k5;simp only[go_sem,m5,hw.rd.fit,hw.rd.cells];simp only[go_sem,aj,n54,m4];have hdo:doD aS s o= {s with roles:=s.roles++ [⟨o.case,o.field⟩]}:=by simp[doD,p6,dha]
    have gid4:g id4=none:=hH.none g4';have kz:∀a b k,H k=none→H1 k≠none→nid z4≠some k→upd (upd K3 i5 a) i4 b k=H1 k:=fun a b k c d e=>by
     have:k≠id4:=fun e' =>by
      rcases hor' with hor|hor
      ·have:=kK k d;rw[e',hor]at this;exact d (by rw[e'];exact this.symm)
      ·exact e (by rw[e'];exact hor)
     rw[ag _ _ (hz4 k c),ag _ _ (hz5 k c d),ho2 k this,kK k d]
    have sg3:Ab.Sub g K3:=fun k b hk=>by rw[ho2 k (fun e=>by rw[e,gid4]at hk;cases hk)];exact sg _ _ hk
    refine .mk _ (.refl _) (.refl _) ⟨(sg3.put g5 _).put h4' _,_,?_,fun _=>hi0⟩
    rw[hdo];have hw' :OwE 138 g K3 2 y' ((s.roles++ [(⟨o.case,o.field⟩:gG)]).map dw):=by rw[List.map_append];exact .inr ⟨id4,gid4,hw⟩
    have hry:∀k,nid y' =some k→H1 k=none∨nid z4=some k:=fun k e=>by
     have:id4=k:=by have:=hw.nid;rw[e]at this;exact(Option.some.inj this).symm
     subst this;exact hor'.imp (fun h=>sK.none h) id
    have har:∀ {w:AV},apart w z4→(∀k,nid w=some k→H1 k≠none)→apart w y' :=fun ha hh k e1 e2=>(hry k e2).elim (fun h=>hh k e1 h) (fun h=>ha k e1 h)
    refine qc rfl hpp rfl ((hC.move (z:=z4) aea a14 (kz _ _) fun w hw k e=>?_).bS (fun _ e=>hH.none e)) ((w2.keep fun id e=>kz _ _ id (w2.nid e).1 (w2.nid e).2.1 fun e1=>a24 id e e1).bS fun _ e=>hH.none e) ((w3.keep fun id e=>kz _ _ id (w3.nid e).1 (w3.nid e).2.1 fun e1=>a34 id e e1).bS fun _ e=>hH.none e) (hw'.keep fun id e=>?_) ⟨a12,a13,har a14 fun k e=>(w1.nid e).2.1,a23,har a24 fun k e=>(w2.nid e).2.1,har a34 fun k e=>(w3.nid e).2.1⟩
    ·simp only[List.mem_cons,List.not_mem_nil,or_false]at hw
     rcases hw with rfl|rfl|rfl|rfl
     ·exact .inr ⟨w,aea,e⟩
     ·exact .inr ⟨w,aea,e⟩
     ·exact .inr ⟨w,aea,e⟩
     ·exact(hry k e).imp id fun h=>⟨z4,aea,h⟩
    ·have:id=id4:=by have:=hw.nid;rw[e]at this;exact Option.some.inj this
     rw[this,ag _ _ n44.symm,ag _ _ n45.symm]
   ·simp only[go_sem]
    simp only[go_sem,k5,k4];have hdo:doD aS s o=s:=by simp[doD,p6,dha]
    rw[hdo];refine .mk _ (.refl _) (.refl _) ⟨sg.put h4' _,_,(hS.keepb fun k hk hk1=>?_).bS fun _ e=>hH.none e,fun _=>hi0⟩
    rw[ag _ _ (hz4 k hk),kK k hk1]
  have k6' :(o.kind==6)=false:=by simp[p6]
  simp only[go_sem,k6']
  by_cases p7:o.kind=7
  ·have k7' :(o.kind==7)=true:=by simp[p7]
   simp only[go_sem,k7'];simp only[go_sem,k3];refine(zw o.text _ (he.sub sg)).pthen ?_;obtain⟨⟨pp,e,a⟩,epp⟩:∃x,aS o.text=x:=⟨_,rfl⟩;obtain⟨qid,qset,qalg,qtgt,qrules,qkids,qobls⟩:=pp;rw[epp];simp only[go_sem,kD,aL,aQ];intro i9 h9;have n95:i5≠i9:=fun e=>by rw[←e,k5]at h9;cases h9
   have n94:i4≠i9:=fun e=>by rw[←e,k4]at h9;cases h9
   simp only[go_sem];have g9:g i9=none:=sg.none h9;have sg9:∀b,Ab.Sub g (upd K i9 b):=fun b=>sg.put g9 b
   have hz9:∀k,H1 k≠none→k≠i9:=fun k hk e=>hk (by have:=kK k hk;rw[e,h9]at this;rw[e];exact this.symm)
   by_cases pe:e=0
   ·have de:(e==0)=true:=by simp[pe]
    have wv:IntKind.i64.wrap (s.version+1)=s.version+1:=aY _ ad3;simp only[go_sem,de];simp only[go_sem,aj,n95,n94,n54,k5,k4,wv];have hdo:doD aS s o= {s with policy:=.mk qid qset qalg qtgt qrules qkids qobls,version:=s.version+1}:=by simp[doD,p7,epp,pe]
    have kz:∀a b c k,H k=none→H1 k≠none→upd (upd (upd K i9 a) i5 b) i4 c k=H1 k:=fun a b c k d e=>by rw[ag _ _ (hz4 k d),ag _ _ (hz5 k d e),ag _ _ (hz9 k e),kK k e]
    refine .mk _ (.refl _) (.refl _) ⟨((sg9 _).put g5 _).put h4' _,_,?_,fun _=>hi0⟩
    rw[hdo];exact qc rfl rfl rfl ((hC.keepb (kz _ _ _)).bS (fun _ e=>hH.none e)) ((w2.keepb (kz _ _ _)).bS (fun _ e=>hH.none e)) ((w3.keepb (kz _ _ _)).bS (fun _ e=>hH.none e)) ((w4.keepb (kz _ _ _)).bS (fun _ e=>hH.none e)) ⟨a12,a13,a14,a23,a24,a34⟩
   ·have de:(e==0)=false:=by simp[pe]
    simp only[go_sem,de];simp only[go_sem,aj,n95,n94,k5,k4];have hdo:doD aS s o=s:=by simp[doD,p7,epp,pe]
    rw[hdo];refine .mk _ (.refl _) (.refl _) ⟨(sg9 _).put h4' _,_,(hS.keepb fun k hk hk1=>?_).bS fun _ e=>hH.none e,fun _=>hi0⟩
    rw[ag _ _ (hz4 k hk),ag _ _ (hz9 k hk1),kK k hk1]
  have k7' :(o.kind==7)=false:=by simp[p7]
  simp only[go_sem,k7']
  by_cases p8:o.kind=8
  ·have k8' :(o.kind==8)=true:=by simp[p8]
   simp only[go_sem,k8'];have hrv:0<o.review∧o.review≤1099511627776:=by simp only[dH,dX,Bool.and_eq_true]at hform;simpa[okD,p8]using hform.2.1.2
   have htk:¬s.tick>1099511627776 - o.review:=by intro hgt;simp[bQ,hform,p8,hgt]at p0
   have w8:IntKind.i64.wrap (s.tick+o.review)=s.tick+o.review:=aY _ (by have:=ht.1;omega)
   simp only[go_sem,k5,k3,w8];simp only[go_sem,aj,n54,k4];have hdo:doD aS s o= {s with tick:=s.tick+o.review}:=by simp[doD,p8]
   have kz:∀a b k,H k=none→H1 k≠none→upd (upd K i5 a) i4 b k=H1 k:=fun a b k c d=>by rw[ag _ _ (hz4 k c),ag _ _ (hz5 k c d),kK k d]
   refine .mk _ (.refl _) (.refl _) ⟨(sg.put g5 _).put h4' _,_,?_,fun _=>hi0⟩
   rw[hdo];exact qc rfl hpp rfl ((hC.keepb (kz _ _)).bS (fun _ e=>hH.none e)) ((w2.keepb (kz _ _)).bS (fun _ e=>hH.none e)) ((w3.keepb (kz _ _)).bS (fun _ e=>hH.none e)) ((w4.keepb (kz _ _)).bS (fun _ e=>hH.none e)) ⟨a12,a13,a14,a23,a24,a34⟩
  have k8' :(o.kind==8)=false:=by simp[p8]
  simp only[go_sem,k8'];simp only[go_sem,k5,k4];have hdo:doD aS s o=s:=by simp[doD,p1,p3,p4,p5,p6,p7,p8]
  rw[hdo];refine .mk _ (.refl _) (.refl _) ⟨sg.put h4' _,_,(hS.keepb fun k hk hk1=>?_).bS fun _ e=>hH.none e,fun _=>hi0⟩
  rw[ag _ _ (hz4 k hk),kK k hk1]
 ·have d0:(bQ s o !=0)=true:=by simp[p0]
  simp only[go_sem,d0];simp only[go_sem,k5,k4];have hdone:ew aS s o=s:=by simp[ew,p0]
  rw[hdone];refine .mk _ (.refl _) (.refl _) ⟨sg.put h4' _,_,(hS.keepb fun k hk hk1=>?_).bS fun _ e=>hH.none e,fun h=>(p0 h).elim⟩
  rw[ag _ _ (hz4 k hk),kK k hk1]
end Go.Proofs.YtokahfmoollblaaGreatDoor
namespace Go.Bf
def MD:Txt:=[112,111,108,105,99,121,32,111,112,101,110,32,112,101,114,109,105,116,117,110,108,101,115,115,32,123,32,125]
def mo:bF:=.mk jQ false 6 [] [] [] []
def td:an:=⟨0,[],[],[],[],mo,0⟩
end Go.Bf
namespace Go.Proofs.YtokahfmoollblaaGreatDoor
open Go Go.Ab Go.Bf Tryz
variable {g K H h G:Heap}{S s:an}{pid subj:Txt}{x:AV}{ys:List AV}{gs:List bt}{l:List gG}
theorem OV{y1 y2 y3 y4:AV}{tk ver palg:Int}{pset:Bool}{ptgt:gj}{prules:List cS}{pkids:List bF}{pobls:List cE}(h1:S.tick=tk)(h2:S.policy= .mk pid pset palg ptgt prules pkids pobls)(h3:S.version=ver)
  (a:Frz g K y1 (fO S.cases)) (b:Frz g K y2 (jR S.reviews)) (c:Frz g K y3 (ku S.notices)) (d:Frz g K y4 (dW S.roles)):
  Frz g K (.agg [.i tk,y1,y2,y3,y4,.s pid,.b pset,.i palg,aT ptgt,.sl (prules.map aC) .no,.sl (pkids.map aL) .no,ay pobls,.i ver]) (bN S):=by
 have:=vm a b c d;rw[h1,h2,h3,show gw (.mk pid pset palg ptgt prules pkids pobls)= [.s pid,.b pset,.i palg,aT ptgt,.sl (prules.map aC) .no,.sl (pkids.map aL) .no,ay pobls] by simp[gw,aQ]]at this
 exact aeE
theorem KU{i j:Nat}{a b:Option Blk}(c:Option Blk)(h:i≠j):upd (upd (upd H i a) j b) i c=upd (upd H i c) j b:=by grind [ah,ag]
theorem ME:aS MD=(mo,0,0):=aei
theorem MP(h:Heap)(he:kP h):ai prog 7 [] h fun r h' =>r=bN td∧h' =h:=
 ai.freeze fun g hg _=>by
 replace he:=he.sub hg;refine ad2 func7 11 [.cell 0 40] fun hwf=>?_
 simp only[go_sem];intro i1 h1;simp only[go_sem];refine(zw MD _ (he.sub (.ak h1))).pthen ?_;rw[ME];simp only[go_sem,kD,mo,aL,aT,ay,fc,jQ,List.map_nil];intro i2 h2;have n21:=aF h2;have n2:=aB h2;simp only[go_sem,aj,n21.symm];refine .mk _ (.refl _) (.refl _) ⟨?_,bN td,OV (S:=td) rfl rfl rfl mP mP mP mP,rfl⟩;rw[KU _ n21.symm];exact((Sub.refl g).put h1 _).put n2 _
theorem sC(s:Txt)(h:Heap):ai prog 100 [.s s] h fun r h' =>r=aV (idV s)∧h' =h:=by
 refine ad2 func100 5 [.cell 2 44] fun hwf=>?_
 exact ajD
theorem dZ(cat:Int)(name:Txt)(xs:List AV)(q:Perm)(h:Heap):ai prog 101 [.i cat,.s name,.sl xs q] h fun r h' =>r= .agg [.i cat,.s name,.sl xs q]∧h' =h:=by
 refine ad2 func101 11 [.cell 6 180] fun hwf=>?_
 exact ajD
theorem Mo{α:Type}(y:AV)(xs:List AV)(ds:List α)(q:α→Bool)(g:FuncId)(cap:List AV)(h:Heap)(hb:Rd h 3 y xs)(hn:xs.length=ds.length)(hl:xs.length≤1000000000)(hx:∀x∈xs,bD x=true)
  (hp:∀i (h1:i<xs.length) (h2:i<ds.length),ai prog g (xs[i]::cap) h fun r h' =>r= .b (q ds[i])∧h' =h):
  ai prog 256 [y,.fn g cap] h fun r h' =>r= .i (ixD q ds)∧h' =h:=by
 refine ad2 func256 19 [.tmp 4] fun hwf=>?_
 simp only[go_sem,hb.len];refine .intro (fun m ρ h' =>h' =h∧∃i:Nat,i≤xs.length∧m=xs.length - i∧(∀j (hj:j<i) (h2:j<ds.length),q ds[j]=false)∧lk ρ 0=some y∧lk ρ 1=some (.fn g cap)∧lk ρ 7=some (.i xs.length)∧lk ρ 8=some (.i i)) xs.length ?_ ?_
 ·refine⟨rfl,0,ad3,rfl,fun j hj=>ad3,?_,?_,?_,?_⟩<;>simp only[go_sem]
 ·rintro m ρ h' ⟨rfl,i,hi,rfl,hc,r0,r1,r7,r8⟩
  simp only[go_sem,r7,r8];refine .intro (fun e=>?_) (fun e=>?_)
  ·have hlt:i<xs.length:=ad0 e
   have hlt2:i<ds.length:=ad3;have w1:IntKind.i64.wrap ((i:Int)+1)=((i+1:Nat):Int):=aeg;simp only[go_sem,r0,r1,r8];refine hb.idx (e:=189) i rfl hlt aei ad6 fun p hp1=>?_
   have hld:=hp1.all (U:=U) (ty:=189) ad6 aeX afQ;simp only[go_sem,hld];refine(show ai prog g (xs[i]::cap) _ _ from hp i hlt hlt2).pthen ?_
   cases d1:q ds[i]
   ·simp only[go_sem,r8,w1]
    refine⟨_,?_,rfl,i+1,ad3,rfl,fun j hj h2=>?_,?_,?_,?_,?_⟩
    ·omega
    ·grind
    all_goals simp only[go_sem,r0,r1,r7]
   ·simp only[go_sem]
    exact .same (.refl _) ⟨aeL,rfl⟩
  ·have hge:i=xs.length:=by grind
   simp only[go_sem];exact .same (.refl _) ⟨aew,rfl⟩
theorem NN(x:u0){k:Nat}(hk:h k=some (.obj [.s subj] 9)):ai prog 211 [gv x,.ptr k 0] h fun r h' =>r= .b (x.actor==subj)∧h' =h:=by
 refine ad2 func211 8 [.tmp 3] fun hwf=>?_
 simp only[go_sem,gv];exact aiv
theorem u9{α:Type}(q:α→Bool)(l:List α):decide ((0:Int)≤ixD q l)=l.any q:=by
 unfold ixD
 grind
theorem JR(y:AV)(ds:List u0)(q:u0→Bool)(g:FuncId)(cap:List AV)(h:Heap)(hb:Rd h 3 y (ds.map gv))(hl:ds.length≤1000000000)
  (hp:∀i (h2:i<ds.length),ai prog g (gv ds[i]::cap) h fun r h' =>r= .b (q ds[i])∧h' =h):
  ai prog 210 [y,.fn g cap] h fun r h' =>r= .b (ds.any q)∧h' =h:=by
 refine ad2 func210 9 [.tmp 4] fun hwf=>?_
 simp only[go_sem];refine(Mo y _ ds q g cap h hb aea ad4 (pE (fun _=>rfl) _) fun i a b=>by rw[adU];exact hp i b).pthen ?_
 simp only[go_sem,u9];exact aeh
theorem PZ{c:aK}(hb:RdC h x c)(subj:Txt)(hl:c.log.length≤1000000000):ai prog 156 [x,.s subj] h fun r h' =>r=aV (uT c.log subj)∧h' =h:=by
 obtain⟨f,l,rfl,hf,hlg⟩:=hb;refine ad2 func156 13 [.cell 4 44] fun hwf=>?_
 simp only[go_sem];intro i1 h1;simp only[go_sem];intro i2 h2;have n21:=aF h2;have n2:=aB h2;simp only[go_sem];intro i3 h3;have h3' :=aB h3;have n31:=aF h3';have n3:=aB h3';simp only[go_sem];intro i4 h4;have n43:=aF h4;have h4' :=aB h4;have h4'' :=aB h4';have n41:=aF h4'';have n4:=aB h4'';have hs:∀a b d e,Ab.Sub h (upd (upd (upd (upd h i1 a) i2 b) i3 d) i4 e):=fun a b d e=>((((Sub.refl h).put h1 a).put n2 b).put n3 d).put n4 e
 simp only[go_sem,aj,n21.symm,n31.symm,n41.symm];refine(JR l c.log (fun x=>x.actor==subj) _ [.ptr i2 0] _ (hlg.sub (hs _ _ _ _)) hl fun i b=>NN _ (by grind [aj,gC,not_false_eq_true])).pthen ?_
 cases d1:c.log.any fun x=>x.actor==subj
 ·exact ajj
 ·exact ajj
def Ar(g:bt)(q:Perm):AV:=.agg [.i g.cat,.s g.name,.sl (g.bag.map aV) q]
def GRow(ys:List AV)(gs:List bt):Prop:=ys.length=gs.length∧∀j (h1:j<ys.length) (h2:j<gs.length),∃q,ys[j]=Ar gs[j] q
theorem GRow.sized(h:GRow ys gs):Sized 3 ys:=fun z hz=>by
 obtain⟨i,hi,rfl⟩:=List.mem_iff_getElem.1 hz;obtain⟨q,e⟩:=h.2 i hi (by rw[←h.1];omega)
 rw[e];rfl
theorem GRow.one(g:bt)(q:Perm):GRow [Ar g q] [g]:=⟨rfl,fun j h1 h2=>by grind⟩
theorem GRow.app{zs:List AV}{ks:List bt}(h:GRow ys gs)(k:GRow zs ks):GRow (ys++zs) (gs++ks):=⟨by simp[h.1,k.1],fun j h1 h2=>by
 have hl:=h.1
 by_cases e:j<ys.length
 ·rw[List.getElem_append_left e,List.getElem_append_left ad3];exact h.2 j e ad3
 ·rw[List.getElem_append_right ad3,List.getElem_append_right ad3]
  simp only[adX]at h1 h2;obtain⟨q,e'⟩:=k.2 (j - ys.length) ad3 ad3;exact⟨q,ad4⟩⟩
theorem GRow.weak(h:GRow ys gs)(q:Perm):Weak (.sl ys q) (bP gs):=by
 refine .deep _ _ q (by simp[h.1]) (fun k h1 h2=>?_) fun k h1 h2 j h3 h4=>?_
 ·obtain⟨q',e'⟩:=h.2 k h1 ad4
  rw[e',adU];rfl
 ·obtain⟨q',e'⟩:=h.2 k h1 ad4
  simp only[e',adU];simp only[e',Ar,AV.cells]at h3;rcases j with _|_|_|j
  ·exact afn
  ·exact afn
  ·exact agG
  ·simp at h3;omega
theorem GRow.givs(gs:List bt):GRow (gs.map lQ) gs:=⟨aea,fun j h1 h2=>⟨.no,aec⟩⟩
theorem cy:(U 180).sz=3:=aei
theorem fV(g:bt)(q:Perm):Sized 3 [Ar g q]:=fun z hz=>agV
def sU(c:aK)(subj:Txt):List bt:=[⟨3,idT,[idV c.id]⟩,⟨3,[111,119,110,101,114],[idV c.owner]⟩,⟨3,[115,116,97,116,101],[idV c.state]⟩,⟨3,[101,118,101,110,116,115],[⟨2,c.log.length,[]⟩]⟩,⟨3,[116,111,111,107],[uT c.log subj]⟩]
def sW(c:aK):List bt:=match c.log.getLast? with
 |some x=>[⟨3,[108,97,115,116],[idV x.actor]⟩]
 |none=>[]
def fX(l:List cR):List bt:=(l.filter fun f=>decide (f.name.length≤14)).map fun f=>⟨3,[102,95]++f.name,[f.val]⟩
theorem mH(l:List cR)(i:Nat)(h:i<l.length):fX (l.take (i+1))=fX (l.take i)++(if l[i].name.length≤14 then [⟨3,[102,95]++l[i].name,[l[i].val]⟩]else []):=by grind [fX,List.take_succ_eq_append_getElem]
theorem qO(c:aK)(subj:Txt):cH c subj=sU c subj++sW c++fX c.fields:=rfl
theorem FD(c:aK)(subj:Txt)(hl:c.log.length≤1000000)(hlf:c.fields.length≤1000000):ai prog 102 [cq c,.s subj] h fun r h' =>r=bP (cH c subj)∧h' =h:=by
 refine ad2 func102 77 [.tmp 4] fun hwf=>?_
 simp only[go_sem,cq,nO,gL,sZ];intro i1 h1;simp only[go_sem];refine .quiet ad7 ?_;simp only[go_sem];refine⟨_,sC _ _,?_⟩;simp only[go_sem,aV,idV];refine⟨_,dZ _ _ _ _ _,?_⟩;simp only[go_sem];refine⟨_,sC _ _,?_⟩;simp only[go_sem,aV,idV];refine⟨_,dZ _ _ _ _ _,?_⟩;simp only[go_sem];refine⟨_,sC _ _,?_⟩;simp only[go_sem,aV,idV];refine⟨_,dZ _ _ _ _ _,?_⟩;simp only[go_sem];refine⟨_,dZ _ _ _ _ _,?_⟩;simp only[go_sem];refine⟨_,PZ (show RdC _ (.agg [.s c.id,.s c.owner,.s c.state,.sl (c.fields.map bC) .no,.sl (c.log.map gv) .no]) c from rdC _ c) subj ad3,?_⟩
 simp only[go_sem,aV];refine⟨_,dZ _ _ _ _ _,?_⟩;simp only[go_sem,adT];have hs1:∀b,Ab.Sub h (upd h i1 b):=fun b=>(Sub.refl h).put h1 b
 have hrow5:GRow [.agg [.i 3,.s [105,100],.sl [.agg [.i 5,.i 0,.s c.id]] .full],.agg [.i 3,.s [111,119,110,101,114],.sl [.agg [.i 5,.i 0,.s c.owner]] .full],.agg [.i 3,.s [115,116,97,116,101],.sl [.agg [.i 5,.i 0,.s c.state]] .full],.agg [.i 3,.s [101,118,101,110,116,115],.sl [.agg [.i 2,.i c.log.length,.s []]] .full],.agg [.i 3,.s [116,111,111,107],.sl [aV (uT c.log subj)] .full]] (sU c subj):=(GRow.one ⟨3,idT,[idV c.id]⟩ .full).app ((GRow.one ⟨3,[111,119,110,101,114],[idV c.owner]⟩ .full).app ((GRow.one ⟨3,[115,116,97,116,101],[idV c.state]⟩ .full).app ((GRow.one ⟨3,[101,118,101,110,116,115],[⟨2,c.log.length,[]⟩]⟩ .full).app (GRow.one ⟨3,[116,111,111,107],[uT c.log subj]⟩ .full))));simp only[aV]at hrow5;cases d1:decide ((0:Int)<(c.log.length:Int))
 ·have hl0:c.log= []:=List.length_eq_zero_iff.1 ad4
  simp only[go_sem];simp only[go_sem,adT];refine .intro (fun m ρ H=>∃(i:Nat) (y:AV) (ys:List AV),Acc U 180 h H y ys∧H i1=some (.obj [.s c.id,.s c.owner,.s c.state,.sl (c.fields.map bC) .no,.sl (c.log.map gv) .no] 111)∧GRow ys (sU c subj++fX (c.fields.take i))∧i≤c.fields.length∧m=c.fields.length - i∧lk ρ 5=some y∧lk ρ 2=some (.ptr i1 0)∧lk ρ 55=some (.sl (c.fields.map bC) .no)∧lk ρ 56=some (.i c.fields.length)∧lk ρ 57=some (.i i)) c.fields.length ?_ ?_
  ·refine⟨0,_,_,.full (hs1 _),ah ..,(by have:=hrow5;simpa[fX]using this),ad3,rfl,?_,?_,?_,?_,?_⟩<;>simp only[go_sem]
  ·rintro m ρ H ⟨i,y,ys,hy,g1,hrow,hi,rfl,r5,r2,r55,r56,r57⟩
   simp only[go_sem,r56,r57];refine .intro (fun e=>?_) (fun e=>?_)
   ·have hlt:i<c.fields.length:=ad0 e
    have w1:IntKind.i64.wrap ((i:Int)+1)=((i+1:Nat):Int):=aeg;simp only[go_sem,r55,r57];refine .at i ad4 aec ?_;simp only[go_sem,adU,bC];intro i8 h8;have n81:i1≠i8:=fun e=>ad4
    simp only[go_sem];cases d2:decide ((c.fields[i].name.length:Int)≤14)
    ·exact aix
    ·simp only[go_sem,r5]
     have h14:c.fields[i].name.length≤14:=ad4;refine⟨by grind [Nat,lim],?_⟩
     refine(dZ _ _ _ _ _).pthen ?_;simp only[go_sem];refine(hy.sub (.ak h8)).app (zs:=[Ar ⟨3,[102,95]++c.fields[i].name,[c.fields[i].val]⟩ .full]) ad6 ad6 (fun k hk=>(Rd.sl (fV _ _) .full:Rd _ 3 _ _).src cy hk) (by rw[cy];exact hrow.sized) (by grind [cy,fV]) (by have hln:(fX (c.fields.take i)).length≤i:=af6;simp only[go_sem,hrow.1,List.length_cons,List.length_nil,sU];omega) fun y' H' hy' kp=>?_
     exact aiU
   ·have hge:i=c.fields.length:=by grind
    subst hge;rw[List.take_length]at hrow;obtain⟨q,rfl⟩:=hy.row;simp only[go_sem,r5];exact .mk (bP (cH c subj)) (show Weak (.sl ys q) _ by rw[qO,sW,hl0];simpa using hrow.weak q) hy.1 ⟨rfl,rfl⟩
 ·have hl1:0<c.log.length:=by grind
  simp only[go_sem];have w0:IntKind.i64.wrap ((c.log.length:Int) - 1)=((c.log.length - 1:Nat):Int):=aeg;simp only[go_sem,w0];refine .at (c.log.length - 1) ad4 aec ?_;simp only[go_sem,adU,gv];rw[if_neg (fun hh=>hh.1)]
  refine(sC _ _).pthen ?_;simp only[go_sem,aV,idV];refine(dZ _ _ _ _ _).pthen ?_;simp only[go_sem];have hgl:c.log.getLast? =some c.log[c.log.length - 1]:=ad4;have hlast:GRow [.agg [.i 3,.s [108,97,115,116],.sl [.agg [.i 5,.i 0,.s c.log[c.log.length - 1].actor]] .full]] (sW c):=by unfold sW;rw[hgl];exact GRow.one ⟨3,[108,97,115,116],[idV c.log[c.log.length - 1].actor]⟩ .full
  refine .accs (hs1 _) fun y0 H0 hy0 kp0=>?_
  simp only[go_sem,kp0 _ _ _ (ah ..),adT];refine .intro (fun m ρ H=>∃(i:Nat) (y:AV) (ys:List AV),Acc U 180 h H y ys∧H i1=some (.obj [.s c.id,.s c.owner,.s c.state,.sl (c.fields.map bC) .no,.sl (c.log.map gv) .no] 111)∧GRow ys ((sU c subj++sW c)++fX (c.fields.take i))∧i≤c.fields.length∧m=c.fields.length - i∧lk ρ 5=some y∧lk ρ 2=some (.ptr i1 0)∧lk ρ 55=some (.sl (c.fields.map bC) .no)∧lk ρ 56=some (.i c.fields.length)∧lk ρ 57=some (.i i)) c.fields.length ?_ ?_
  ·refine⟨0,_,_,hy0,kp0 _ _ _ (ah ..),(by have:=hrow5.app hlast;simpa[fX]using this),ad3,rfl,?_,?_,?_,?_,?_⟩<;>simp only[go_sem]
  ·rintro m ρ H ⟨i,y,ys,hy,g1,hrow,hi,rfl,r5,r2,r55,r56,r57⟩
   simp only[go_sem,r56,r57];refine .intro (fun e=>?_) (fun e=>?_)
   ·have hlt:i<c.fields.length:=ad0 e
    have w1:IntKind.i64.wrap ((i:Int)+1)=((i+1:Nat):Int):=aeg;simp only[go_sem,r55,r57];refine .at i ad4 aec ?_;simp only[go_sem,adU,bC];intro i8 h8;have n81:i1≠i8:=fun e=>ad4
    simp only[go_sem];cases d2:decide ((c.fields[i].name.length:Int)≤14)
    ·exact aix
    ·simp only[go_sem,r5]
     have h14:c.fields[i].name.length≤14:=ad4;refine⟨by grind [Nat,lim],?_⟩
     refine(dZ _ _ _ _ _).pthen ?_;simp only[go_sem];refine(hy.sub (.ak h8)).app (zs:=[Ar ⟨3,[102,95]++c.fields[i].name,[c.fields[i].val]⟩ .full]) ad6 ad6 (fun k hk=>(Rd.sl (fV _ _) .full:Rd _ 3 _ _).src cy hk) (by rw[cy];exact hrow.sized) (by grind [cy,fV]) (by have hln:(fX (c.fields.take i)).length≤i:=af6;simp only[go_sem,hrow.1,List.length_cons,List.length_nil,sU,sW,hgl];omega) fun y' H' hy' kp=>?_
     exact aiU
   ·have hge:i=c.fields.length:=by grind
    subst hge;rw[List.take_length]at hrow;obtain⟨q,rfl⟩:=hy.row;simp only[go_sem,r5];exact .mk (bP (cH c subj)) (show Weak (.sl ys q) _ by rw[qO];exact hrow.weak q) hy.1 ⟨rfl,rfl⟩
theorem EU{i:Nat}(h:i<l.length)(h1:l[i].subj=subj)(h2:(dG (l.take i) subj).length<16):dG (l.take (i+1)) subj=dG (l.take i) subj++ [idV l[i].role]:=by
 unfold dG at h2⊢;rw[List.take_succ_eq_append_getElem h,List.filter_append,List.map_append]
 grind [List.length_take,idV,List.take_append,List.take_of_length_le]
theorem zM{i:Nat}(h:i<l.length)(h1:l[i].subj≠subj∨¬(dG (l.take i) subj).length<16):dG (l.take (i+1)) subj=dG (l.take i) subj:=by grind [dG,List.take_succ_eq_append_getElem,List.take_append,List.length_take]
theorem GQ(l:List gG)(subj:Txt):(dG l subj).length≤16:=by grind [dG,List.length_take]
def cY(s:an)(o:OpD):List bt:=[⟨1,idT,[idV o.subj]⟩,⟨1,[114,111,108,101],dG s.roles o.subj⟩,⟨2,[110,97,109,101],[idV (jY o.kind)]⟩]
theorem yH(hf:Few s)(id:Txt):(bx s.cases id).log.length≤1000000∧(bx s.cases id).fields.length≤1000000:=by
 cases e:cj s.cases id
 ·rw[Di e];decide
 ·rw[Dh e];exact⟨hf.log _ aea,hf.fields _ aea⟩
theorem Dd(c:aK)(subj:Txt):(cH c subj).length≤6+c.fields.length:=by grind [qO,adX,sW,fX,adT,List.length_filter_le,sU]
theorem jO{i:Nat}(hs:Ab.Sub h G)(hi:G i=none):h i=none:=hs.none hi
theorem CW:(U 44).sz=3:=aei
theorem RD(hb:RdS h x s)(o:OpD)(hf:Few s)(hk:i64 o.kind):ai prog 42 [x,opA o] h fun r h' =>r=bP (fN s o)∧h' =h:=by
 have hca:=fun(G:Heap) (hG:Ab.Sub h G)=>Ci (hb.sub hG) o.case hf
 obtain⟨y1,y2,y3,y4,rfl,⟨xs,hc,hn,hcs⟩,h2,h3,h4⟩:=hb;cases hpp:s.policy with
 |mk pid pset palg ptgt prules pkids pobls=>
 have hcC:gw (.mk pid pset palg ptgt prules pkids pobls)= [.s pid,.b pset,.i palg,aT ptgt,.sl (prules.map aC) .no,.sl (pkids.map aL) .no,ay pobls]:=ag4;rw[hpp,hcC]at hca;simp only[List.cons_append,List.nil_append]at hca;have hfr:=hf.roles;refine ad2 func42 99 [.tmp 4] fun hwf=>?_
 simp only[go_sem,hcC,opA,opC,List.cons_append,List.nil_append];intro i1 h1;simp only[go_sem];intro i2 h2';have n21:=aF h2';have n2:=aB h2';simp only[go_sem,aj,n21.symm,h4.len,adT];obtain⟨H,eH⟩:∃H,upd (upd h i1 (some (.obj [.i s.tick,y1,y2,y3,y4,.s pid,.b pset,.i palg,aT ptgt,.sl (prules.map aC) .no,.sl (pkids.map aL) .no,ay pobls,.i s.version] 40))) i2 (some (.obj (opC o) 46))=H:=⟨_,rfl⟩;have hH:Ab.Sub h H:=ae1;have g1:H i1=some (.obj [.i s.tick,y1,y2,y3,y4,.s pid,.b pset,.i palg,aT ptgt,.sl (prules.map aC) .no,.sl (pkids.map aL) .no,ay pobls,.i s.version] 40):=afD;have g2:H i2=some (.obj (opC o) 46):=afv;simp only[opC]at eH g2;rw[eH];clear eH;refine .intro (fun m ρ G=>∃(i:Nat) (y:AV),Acc U 44 H G y ((dG (s.roles.take i) o.subj).map aV)∧i≤s.roles.length∧m=s.roles.length - i∧lk ρ 5=some y∧lk ρ 2=some (.ptr i1 0)∧lk ρ 3=some (.ptr i2 0)∧lk ρ 12=some y4∧lk ρ 13=some (.i s.roles.length)∧lk ρ 14=some (.i i)) s.roles.length ?_ ?_
 ·refine⟨0,_,.full (.refl _),ad3,rfl,?_,?_,?_,?_,?_,?_⟩<;>simp only[go_sem,dG,List.take_zero,List.filter_nil,List.map_nil]
 ·rintro m ρ G ⟨i,y,hy,hi,rfl,r5,r2,r3,r12,r13,r14⟩
  have k1:=hy.1 _ _ g1;have k2:=hy.1 _ _ g2;simp only[go_sem,r13,r14];refine .intro (fun e=>?_) (fun e=>?_)
  ·have hlt:i<s.roles.length:=ad0 e
   have w1:=adZ i ad3;simp only[go_sem,r12,r14];refine(h4.sub (hH.trans hy.1)).idx (e:=138) i rfl aep IS ad6 fun p hp1=>?_
   have hld:=hp1.all (U:=U) (ty:=138) aed (by rw[IS,adU];rfl) aeJ
   simp only[go_sem,hld,adU,dw];intro i7 h7;have n71:i1≠i7:=fun e=>by rw[←e,k1]at h7;cases h7
   have n72:i2≠i7:=fun e=>by rw[←e,k2]at h7;cases h7
   simp only[go_sem,aj,n72,k2,r3];have hy7:=hy.sub (.ak h7 (k:=some (.obj [.s s.roles[i].subj,.s s.roles[i].role] 138)));have lr:=GQ (s.roles.take i) o.subj;cases d1:(s.roles[i].subj==o.subj)
   ·have p1:s.roles[i].subj≠o.subj:=by simpa using d1
    simp only[go_sem,r14,w1];refine⟨_,?_,i+1,y,by rw[zM hlt (.inl p1)];exact hy7,ad3,rfl,?_,?_,?_,?_,?_,?_⟩
    ·omega
    all_goals simp only[go_sem,r5,r2,r3,r12,r13]
   ·have p1:s.roles[i].subj=o.subj:=by simpa using d1
    simp only[go_sem,r5,hy.len,adT];cases d2:decide (((dG (s.roles.take i) o.subj).length:Int)<16)
    ·have p2:¬(dG (s.roles.take i) o.subj).length<16:=by have:=adW d2;omega
     simp only[go_sem,r14,w1];refine⟨_,?_,i+1,y,by rw[zM hlt (.inr p2)];exact hy7,ad3,rfl,?_,?_,?_,?_,?_,?_⟩
     ·omega
     all_goals simp only[go_sem,r5,r2,r3,r12,r13]
    ·have p2:(dG (s.roles.take i) o.subj).length<16:=by have:=adV d2;omega
     simp only[go_sem,r5];refine(sC _ _).pthen ?_;simp only[go_sem,aV,idV];refine hy7.app (zs:=[aV (idV s.roles[i].role)]) (by rw[CW];decide) ad8 (fun k hk=>(Rd.sl (fun z hz=>agV) .full:Rd _ 3 _ _).src CW hk) (by rw[CW];exact bu (f:=aV) (fun _=>rfl) _) (by rw[CW];exact bu (f:=aV) (fun _=>rfl) [idV s.roles[i].role]) afi fun y' H' hy' kp=>?_
     simp only[go_sem,r14,w1];refine⟨_,?_,i+1,y',by rw[EU hlt p1 p2,List.map_append];exact hy',ad3,rfl,?_,?_,?_,?_,?_,?_⟩
     ·omega
     all_goals simp only[go_sem,r2,r3,r12,r13]
  ·have hge:i=s.roles.length:=by have:=adW e;omega
   subst hge;rw[List.take_length]at hy;simp only[go_sem];obtain⟨q5,rfl⟩:=hy.row;refine .quiet ad7 ?_;simp only[go_sem,k2,r3];refine⟨_,sC _ _,?_⟩;simp only[go_sem,aV,idV];refine⟨_,dZ _ _ _ _ _,?_⟩;simp only[go_sem,r5];refine⟨_,dZ _ _ _ _ _,?_⟩;simp only[go_sem,k2,r3];refine⟨_,AT _ hk _,?_⟩;simp only[go_sem];refine⟨_,sC _ _,?_⟩;simp only[go_sem,aV,idV];refine⟨_,dZ _ _ _ _ _,?_⟩;simp only[go_sem,k2,r3];have hak:=fun(G:Heap)=>FD (h:=G) (bx s.cases o.case) o.subj (yH hf o.case).1 (yH hf o.case).2
   simp only[cq,nO,gL,sZ]at hak;have hakl:=Dd (bx s.cases o.case) o.subj;have hakf:=(yH hf o.case).2;have hr0:GRow [.agg [.i 1,.s [105,100],.sl [.agg [.i 5,.i 0,.s o.subj]] .full],.agg [.i 1,.s [114,111,108,101],.sl ((dG s.roles o.subj).map aV) q5],.agg [.i 2,.s [110,97,109,101],.sl [.agg [.i 5,.i 0,.s (jY o.kind)]] .full]] (cY s o):=(GRow.one ⟨1,idT,[idV o.subj]⟩ .full).app ((GRow.one ⟨1,[114,111,108,101],dG s.roles o.subj⟩ q5).app (GRow.one ⟨2,[110,97,109,101],[idV (jY o.kind)]⟩ .full))
   by_cases pf:o.field= []
   ·have df:(o.field==([]:Txt))=true:=by simp[pf]
    simp only[go_sem,k2,r3,df]
    by_cases pt:o.to= []
    ·have dt:(o.to==([]:Txt))=true:=by simp[pt]
     simp only[go_sem,k1,r2,dt];refine(dZ _ _ _ _ _).pthen ?_;simp only[go_sem];refine .accs hy.1 fun y1 G1 hy1 kp1=>?_
     have k1_1:=kp1 _ _ _ k1;have k2_1:=kp1 _ _ _ k2;have hr1:=hr0.app (GRow.one (⟨4,[110,111,119],[⟨4,s.tick,[]⟩]⟩:bt) .full);simp only[go_sem,k1_1,k2_1,r2,r3];refine(hca _ (hH.trans hy1.1)).pthen ?_;simp only[go_sem,cq,nO,gL,sZ];intro i20 h20;have n21:i1≠i20:=fun e=>by rw[←e,k1_1]at h20;cases h20
     have n22:i2≠i20:=fun e=>by rw[←e,k2_1]at h20;cases h20
     simp only[go_sem];obtain⟨q2,eq2⟩:=hy1.row;cases dth:cj s.cases o.case
     ·simp only[go_sem]
      exact .mk (bP (fN s o)) (show Weak y1 _ by rw[eq2,show fN s o=(cY s o++ [(⟨4,[110,111,119],[⟨4,s.tick,[]⟩]⟩:bt)]) by simp[fN,cY,dth,pf,pt]];exact hr1.weak q2) ((hH.trans hy1.1).put (jO (hH.trans hy1.1) h20) _) ⟨rfl,rfl⟩
     ·simp only[go_sem,aj,n22,k2_1,r3]
      by_cases p6:o.kind=6
      ·have d6:(o.kind !=6)=false:=by simp[p6]
       simp only[go_sem,d6];exact .mk (bP (fN s o)) (show Weak y1 _ by rw[eq2,show fN s o=(cY s o++ [(⟨4,[110,111,119],[⟨4,s.tick,[]⟩]⟩:bt)]) by simp[fN,cY,dth,p6,pf,pt]];exact hr1.weak q2) ((hH.trans hy1.1).put (jO (hH.trans hy1.1) h20) _) ⟨rfl,rfl⟩
      ·have d6:(o.kind !=6)=true:=by simp[p6]
       simp only[go_sem,aj,n22,k2_1,r3,d6];refine(hak _).pthen ?_;simp only[go_sem,bP];refine(hy1.sub (.ak h20)).app (zs:=(cH (bx s.cases o.case) o.subj).map lQ) agj ad8 (fun k hk=>(eL lQ 3 (fun _=>rfl) _ _).src cy hk) (by rw[cy];exact hr1.sized) afG aeW fun yz Gz hyz kpz=>?_
       simp only[go_sem];obtain⟨qz,eqz⟩:=hyz.row;exact .mk (bP (fN s o)) (show Weak yz _ by rw[eqz,show fN s o=(cY s o++ [(⟨4,[110,111,119],[⟨4,s.tick,[]⟩]⟩:bt)])++cH (bx s.cases o.case) o.subj by simp[fN,cY,dth,p6,pf,pt]];exact(hr1.app (GRow.givs _)).weak qz) (hH.trans hyz.1) ⟨rfl,rfl⟩
    ·have dt:(o.to==([]:Txt))=false:=by simp[pt]
     simp only[go_sem,k2,r3,dt];refine(sC _ _).pthen ?_;simp only[go_sem,aV,idV];refine(dZ _ _ _ _ _).pthen ?_;simp only[go_sem];refine .accs hy.1 fun y3 G3 hy3 kp3=>?_
     have k1_3:=kp3 _ _ _ k1;have k2_3:=kp3 _ _ _ k2;have hr3:=hr0.app (GRow.one (⟨2,[116,111],[idV o.to]⟩:bt) .full);simp only[go_sem,k1_3,r2];refine(dZ _ _ _ _ _).pthen ?_;simp only[go_sem];refine hy3.app (zs:=[Ar (⟨4,[110,111,119],[⟨4,s.tick,[]⟩]⟩) .full]) agj ad8 (fun k hk=>(Rd.sl (fV _ _) .full:Rd _ 3 _ _).src cy hk) (by rw[cy];exact hr3.sized) ahs ae3 fun y4 G4 hy4 kp4=>?_
     have k1_4:=kp4 _ _ _ k1_3;have k2_4:=kp4 _ _ _ k2_3;have hr4:=hr3.app (GRow.one (⟨4,[110,111,119],[⟨4,s.tick,[]⟩]⟩:bt) .full);simp only[go_sem,k1_4,k2_4,r2,r3];refine(hca _ (hH.trans hy4.1)).pthen ?_;simp only[go_sem,cq,nO,gL,sZ];intro i50 h50;have n51:i1≠i50:=fun e=>by rw[←e,k1_4]at h50;cases h50
     have n52:i2≠i50:=fun e=>by rw[←e,k2_4]at h50;cases h50
     simp only[go_sem];obtain⟨q5,eq5⟩:=hy4.row;cases dth:cj s.cases o.case
     ·simp only[go_sem]
      exact .mk (bP (fN s o)) (show Weak y4 _ by rw[eq5,show fN s o=((cY s o++ [(⟨2,[116,111],[idV o.to]⟩:bt)])++ [(⟨4,[110,111,119],[⟨4,s.tick,[]⟩]⟩:bt)]) by simp[fN,cY,dth,pf,pt]];exact hr4.weak q5) ((hH.trans hy4.1).put (jO (hH.trans hy4.1) h50) _) ⟨rfl,rfl⟩
     ·simp only[go_sem,aj,n52,k2_4,r3]
      by_cases p6:o.kind=6
      ·have d6:(o.kind !=6)=false:=by simp[p6]
       simp only[go_sem,d6];exact .mk (bP (fN s o)) (show Weak y4 _ by rw[eq5,show fN s o=((cY s o++ [(⟨2,[116,111],[idV o.to]⟩:bt)])++ [(⟨4,[110,111,119],[⟨4,s.tick,[]⟩]⟩:bt)]) by simp[fN,cY,dth,p6,pf,pt]];exact hr4.weak q5) ((hH.trans hy4.1).put (jO (hH.trans hy4.1) h50) _) ⟨rfl,rfl⟩
      ·have d6:(o.kind !=6)=true:=by simp[p6]
       simp only[go_sem,aj,n52,k2_4,r3,d6];refine(hak _).pthen ?_;simp only[go_sem,bP];refine(hy4.sub (.ak h50)).app (zs:=(cH (bx s.cases o.case) o.subj).map lQ) agj ad8 (fun k hk=>(eL lQ 3 (fun _=>rfl) _ _).src cy hk) (by rw[cy];exact hr4.sized) afG aeW fun yz Gz hyz kpz=>?_
       simp only[go_sem];obtain⟨qz,eqz⟩:=hyz.row;exact .mk (bP (fN s o)) (show Weak yz _ by rw[eqz,show fN s o=((cY s o++ [(⟨2,[116,111],[idV o.to]⟩:bt)])++ [(⟨4,[110,111,119],[⟨4,s.tick,[]⟩]⟩:bt)])++cH (bx s.cases o.case) o.subj by simp[fN,cY,dth,p6,pf,pt]];exact(hr4.app (GRow.givs _)).weak qz) (hH.trans hyz.1) ⟨rfl,rfl⟩
   ·have df:(o.field==([]:Txt))=false:=by simp[pf]
    simp only[go_sem,k2,r3,df];refine(sC _ _).pthen ?_;simp only[go_sem,aV,idV];refine(dZ _ _ _ _ _).pthen ?_;simp only[go_sem];refine .accs hy.1 fun y6 G6 hy6 kp6=>?_
    have k1_6:=kp6 _ _ _ k1;have k2_6:=kp6 _ _ _ k2;have hr6:=hr0.app (GRow.one (⟨2,[102,105,101,108,100],[idV o.field]⟩:bt) .full);simp only[go_sem,k2_6,r3]
    by_cases pt:o.to= []
    ·have dt:(o.to==([]:Txt))=true:=by simp[pt]
     simp only[go_sem,k1_6,r2,dt];refine(dZ _ _ _ _ _).pthen ?_;simp only[go_sem];refine hy6.app (zs:=[Ar (⟨4,[110,111,119],[⟨4,s.tick,[]⟩]⟩) .full]) agj ad8 (fun k hk=>(Rd.sl (fV _ _) .full:Rd _ 3 _ _).src cy hk) (by rw[cy];exact hr6.sized) ahs ae3 fun y7 G7 hy7 kp7=>?_
     have k1_7:=kp7 _ _ _ k1_6;have k2_7:=kp7 _ _ _ k2_6;have hr7:=hr6.app (GRow.one (⟨4,[110,111,119],[⟨4,s.tick,[]⟩]⟩:bt) .full);simp only[go_sem,k1_7,k2_7,r2,r3];refine(hca _ (hH.trans hy7.1)).pthen ?_;simp only[go_sem,cq,nO,gL,sZ];intro i80 h80;have n81:i1≠i80:=fun e=>by rw[←e,k1_7]at h80;cases h80
     have n82:i2≠i80:=fun e=>by rw[←e,k2_7]at h80;cases h80
     simp only[go_sem];obtain⟨q8,eq8⟩:=hy7.row;cases dth:cj s.cases o.case
     ·simp only[go_sem]
      exact .mk (bP (fN s o)) (show Weak y7 _ by rw[eq8,show fN s o=((cY s o++ [(⟨2,[102,105,101,108,100],[idV o.field]⟩:bt)])++ [(⟨4,[110,111,119],[⟨4,s.tick,[]⟩]⟩:bt)]) by simp[fN,cY,dth,pf,pt]];exact hr7.weak q8) ((hH.trans hy7.1).put (jO (hH.trans hy7.1) h80) _) ⟨rfl,rfl⟩
     ·simp only[go_sem,aj,n82,k2_7,r3]
      by_cases p6:o.kind=6
      ·have d6:(o.kind !=6)=false:=by simp[p6]
       simp only[go_sem,d6];exact .mk (bP (fN s o)) (show Weak y7 _ by rw[eq8,show fN s o=((cY s o++ [(⟨2,[102,105,101,108,100],[idV o.field]⟩:bt)])++ [(⟨4,[110,111,119],[⟨4,s.tick,[]⟩]⟩:bt)]) by simp[fN,cY,dth,p6,pf,pt]];exact hr7.weak q8) ((hH.trans hy7.1).put (jO (hH.trans hy7.1) h80) _) ⟨rfl,rfl⟩
      ·have d6:(o.kind !=6)=true:=by simp[p6]
       simp only[go_sem,aj,n82,k2_7,r3,d6];refine(hak _).pthen ?_;simp only[go_sem,bP];refine(hy7.sub (.ak h80)).app (zs:=(cH (bx s.cases o.case) o.subj).map lQ) agj ad8 (fun k hk=>(eL lQ 3 (fun _=>rfl) _ _).src cy hk) (by rw[cy];exact hr7.sized) afG aeW fun yz Gz hyz kpz=>?_
       simp only[go_sem];obtain⟨qz,eqz⟩:=hyz.row;exact .mk (bP (fN s o)) (show Weak yz _ by rw[eqz,show fN s o=((cY s o++ [(⟨2,[102,105,101,108,100],[idV o.field]⟩:bt)])++ [(⟨4,[110,111,119],[⟨4,s.tick,[]⟩]⟩:bt)])++cH (bx s.cases o.case) o.subj by simp[fN,cY,dth,p6,pf,pt]];exact(hr7.app (GRow.givs _)).weak qz) (hH.trans hyz.1) ⟨rfl,rfl⟩
    ·have dt:(o.to==([]:Txt))=false:=by simp[pt]
     simp only[go_sem,k2_6,r3,dt];refine(sC _ _).pthen ?_;simp only[go_sem,aV,idV];refine(dZ _ _ _ _ _).pthen ?_;simp only[go_sem];refine hy6.app (zs:=[Ar (⟨2,[116,111],[idV o.to]⟩) .full]) agj ad8 (fun k hk=>(Rd.sl (fV _ _) .full:Rd _ 3 _ _).src cy hk) (by rw[cy];exact hr6.sized) ahs ae3 fun y9 G9 hy9 kp9=>?_
     have k1_9:=kp9 _ _ _ k1_6;have k2_9:=kp9 _ _ _ k2_6;have hr9:=hr6.app (GRow.one (⟨2,[116,111],[idV o.to]⟩:bt) .full);simp only[go_sem,k1_9,r2];refine(dZ _ _ _ _ _).pthen ?_;simp only[go_sem];refine hy9.app (zs:=[Ar (⟨4,[110,111,119],[⟨4,s.tick,[]⟩]⟩) .full]) agj ad8 (fun k hk=>(Rd.sl (fV _ _) .full:Rd _ 3 _ _).src cy hk) (by rw[cy];exact hr9.sized) ahs ae3 fun y10 G10 hy10 kp10=>?_
     have k1_10:=kp10 _ _ _ k1_9;have k2_10:=kp10 _ _ _ k2_9;have hr10:=hr9.app (GRow.one (⟨4,[110,111,119],[⟨4,s.tick,[]⟩]⟩:bt) .full);simp only[go_sem,k1_10,k2_10,r2,r3];refine(hca _ (hH.trans hy10.1)).pthen ?_;simp only[go_sem,cq,nO,gL,sZ];intro i110 h110;have n111:i1≠i110:=fun e=>by rw[←e,k1_10]at h110;cases h110
     have n112:i2≠i110:=fun e=>by rw[←e,k2_10]at h110;cases h110
     simp only[go_sem];obtain⟨q11,eq11⟩:=hy10.row;cases dth:cj s.cases o.case
     ·simp only[go_sem]
      exact .mk (bP (fN s o)) (show Weak y10 _ by rw[eq11,show fN s o=(((cY s o++ [(⟨2,[102,105,101,108,100],[idV o.field]⟩:bt)])++ [(⟨2,[116,111],[idV o.to]⟩:bt)])++ [(⟨4,[110,111,119],[⟨4,s.tick,[]⟩]⟩:bt)]) by simp[fN,cY,dth,pf,pt]];exact hr10.weak q11) ((hH.trans hy10.1).put (jO (hH.trans hy10.1) h110) _) ⟨rfl,rfl⟩
     ·simp only[go_sem,aj,n112,k2_10,r3]
      by_cases p6:o.kind=6
      ·have d6:(o.kind !=6)=false:=by simp[p6]
       simp only[go_sem,d6];exact .mk (bP (fN s o)) (show Weak y10 _ by rw[eq11,show fN s o=(((cY s o++ [(⟨2,[102,105,101,108,100],[idV o.field]⟩:bt)])++ [(⟨2,[116,111],[idV o.to]⟩:bt)])++ [(⟨4,[110,111,119],[⟨4,s.tick,[]⟩]⟩:bt)]) by simp[fN,cY,dth,p6,pf,pt]];exact hr10.weak q11) ((hH.trans hy10.1).put (jO (hH.trans hy10.1) h110) _) ⟨rfl,rfl⟩
      ·have d6:(o.kind !=6)=true:=by simp[p6]
       simp only[go_sem,aj,n112,k2_10,r3,d6];refine(hak _).pthen ?_;simp only[go_sem,bP];refine(hy10.sub (.ak h110)).app (zs:=(cH (bx s.cases o.case) o.subj).map lQ) agj ad8 (fun k hk=>(eL lQ 3 (fun _=>rfl) _ _).src cy hk) (by rw[cy];exact hr10.sized) afG aeW fun yz Gz hyz kpz=>?_
       simp only[go_sem];obtain⟨qz,eqz⟩:=hyz.row;exact .mk (bP (fN s o)) (show Weak yz _ by rw[eqz,show fN s o=(((cY s o++ [(⟨2,[102,105,101,108,100],[idV o.field]⟩:bt)])++ [(⟨2,[116,111],[idV o.to]⟩:bt)])++ [(⟨4,[110,111,119],[⟨4,s.tick,[]⟩]⟩:bt)])++cH (bx s.cases o.case) o.subj by simp[fN,cY,dth,p6,pf,pt]];exact(hr10.app (GRow.givs _)).weak qz) (hH.trans hyz.1) ⟨rfl,rfl⟩
end Go.Proofs.YtokahfmoollblaaGreatDoor
namespace Go.Bf
open Go Go.Ab
def j4(a b:bR):Bool:=a.attr.cat==b.attr.cat && (a.attr.name==b.attr.name && (a.attr.must==b.attr.must && (a.op==b.op && (a.val.kind==b.val.kind && (a.val.n==b.val.n && a.val.s==b.val.s)))))
def pI(a b:aO):Bool:=a.op==b.op && (a.val.kind==b.val.kind && (a.val.n==b.val.n && (a.val.s==b.val.s && (a.attr.cat==b.attr.cat && (a.attr.name==b.attr.name && a.attr.must==b.attr.must)))))
def oP(a b:cE):Bool:=a.on==b.on && (a.kind==b.kind && a.arg==b.arg)
def eqL{α:Type}(f:α→α→Bool):List α→List α→Bool
 | [],[]=>true
 |x::a,y::b=>f x y && eqL f a b
 |_,_=>false
theorem cU{α:Type}{f:α→α→Bool}:∀ {a b:List α},a.length=b.length→(∀j (h1:j<a.length) (h2:j<b.length),f a[j] b[j]=true)→eqL f a b=true
 | [],[],_,_=>rfl
 |x::a,y::b,hl,h=>by simp only[eqL,Bool.and_eq_true];exact⟨h 0 aea aea,cU ad4 fun j h1 h2=>h (j+1) ad4 ad4⟩
theorem iD{α:Type}{f:α→α→Bool}:∀ {a b:List α},a.length≠b.length→eqL f a b=false
 | [],[],h=>ad3
 | [],_::_,_=>rfl
 |_::_,[],_=>rfl
 |x::a,y::b,h=>by simp only[eqL];rw[iD ad4,Bool.and_false]
theorem jy{α:Type}{f:α→α→Bool}:∀ {a b:List α} (j:Nat) (h1:j<a.length) (h2:j<b.length),f a[j] b[j]=false→eqL f a b=false
 |x::a,y::b,0,_,_,h=>by grind [eqL]
 |x::a,y::b,j+1,h1,h2,h=>by simp only[eqL];rw[jy j ad4 ad4 ad4,Bool.and_false]
theorem sQ{α:Type}{f:α→α→Bool}(hf:∀x y,f x y=true↔x=y):∀ {a b:List α},eqL f a b=true↔a=b
 | [],[]=>by simp[eqL]
 | [],_::_=>by simp[eqL]
 |_::_,[]=>by simp[eqL]
 |x::a,y::b=>by simp[eqL,hf,sQ hf]
theorem FZ(a b:bR):j4 a b=true↔a=b:=by obtain⟨⟨a1,a2,a3⟩,a4,a5,a6,a7⟩:=a;obtain⟨⟨b1,b2,b3⟩,b4,b5,b6,b7⟩:=b;simp[j4,and_assoc]
theorem Jm(a b:aO):pI a b=true↔a=b:=by obtain⟨a4,⟨a5,a6,a7⟩,⟨a1,a2,a3⟩⟩:=a;obtain⟨b4,⟨b5,b6,b7⟩,⟨b1,b2,b3⟩⟩:=b;simp[pI,and_assoc]
theorem DE(a b:cE):oP a b=true↔a=b:=by cases a;cases b;simp[oP]
end Go.Bf
namespace Go.Proofs.YtokahfmoollblaaGreatDoor
open Go Go.Ab Go.Bf Tryz
theorem CQ(a b:List bR)(h:Heap):ai prog 181 [gm a,gm b] h fun r h' =>r= .b (eqL j4 a b)∧h' =h:=by
 refine ad2 func181 26 [.tmp 4] fun hwf=>?_
 cases d1:((a.length:Int) !=(b.length:Int))
 case true=>
  have e1:a.length≠b.length:=by grind
  simp only[go_sem,gm,adT,d1];exact .same (.refl _) ⟨agl,rfl⟩
 have e1:a.length=b.length:=ad4;simp only[go_sem,gm,adT,d1];refine .intro (fun m ρ h' =>Ab.Sub h h'∧∃i:Nat,i≤a.length∧m=a.length - i∧(∀j (h1:j<a.length) (h2:j<b.length),j<i→j4 a[j] b[j]=true)∧lk ρ 0=some (.sl (a.map cW) .no)∧lk ρ 1=some (.sl (b.map cW) .no)∧lk ρ 5=some (.i i)) a.length ?_ ?_
 ·exact aim
 ·rintro m ρ h' ⟨hs,i,hi,rfl,hc,r0,r1,r5⟩
  simp only[go_sem,r0,r1,r5,adT];refine .intro (fun e=>?_) (fun e=>?_)
  ·have hlt:i<a.length:=ad0 e
   have hlt2:i<b.length:=ad3;have w1:IntKind.i64.wrap ((i:Int)+1)=((i+1:Nat):Int):=by have:=hwf (gm a) aea;simp only[gm,wfA,wf1,lim,adT]at this;rw[aY _ ad3];omega
   simp only[go_sem,r0,r1,r5,adT];refine⟨.of ad7,?_⟩;refine .at i ad4 aec ?_;simp only[go_sem,r0,r1,r5,adU,cW];refine .at i ad4 aec ?_;simp only[go_sem,r0,r1,r5,adU,cW];cases d3:j4 a[i] b[i]
   ·have d4:=d3
    simp only[j4]at d4;exact ajO
   ·have d4:=d3
    simp only[j4]at d4;exact ai0
  ·exact ajg
theorem tu(a b:List cE)(h:Heap):ai prog 71 [ay a,ay b] h fun r h' =>r= .b (eqL oP a b)∧h' =h:=by
 refine ad2 func71 26 [.tmp 4] fun hwf=>?_
 cases d1:((a.length:Int) !=(b.length:Int))
 case true=>
  have e1:a.length≠b.length:=by grind
  simp only[go_sem,ay,adT,d1];exact .same (.refl _) ⟨agl,rfl⟩
 have e1:a.length=b.length:=ad4;simp only[go_sem,ay,adT,d1];refine .intro (fun m ρ h' =>Ab.Sub h h'∧∃i:Nat,i≤a.length∧m=a.length - i∧(∀j (h1:j<a.length) (h2:j<b.length),j<i→oP a[j] b[j]=true)∧lk ρ 0=some (.sl (a.map bh) .no)∧lk ρ 1=some (.sl (b.map bh) .no)∧lk ρ 5=some (.i i)) a.length ?_ ?_
 ·exact aim
 ·rintro m ρ h' ⟨hs,i,hi,rfl,hc,r0,r1,r5⟩
  simp only[go_sem,r0,r5,adT];refine .intro (fun e=>?_) (fun e=>?_)
  ·have hlt:i<a.length:=ad0 e
   have hlt2:i<b.length:=ad3;have w1:IntKind.i64.wrap ((i:Int)+1)=((i+1:Nat):Int):=by have:=hwf (ay a) aea;simp only[ay,wfA,wf1,lim,adT]at this;rw[aY _ ad3];omega
   simp only[go_sem,r0,r5];refine⟨.of ad7,?_⟩;refine .at i ad4 aec ?_;simp only[go_sem,r1,r5,adU,bh];refine .at i ad4 aec ?_;simp only[go_sem,adU,bh];cases d3:oP a[i] b[i]
   ·have d4:=d3
    simp only[oP]at d4;exact aiu
   ·have d4:=d3
    simp only[oP]at d4;exact aii
  ·exact aip
theorem EY(a b:List aO)(h:Heap):ai prog 133 [dY a,dY b] h fun r h' =>r= .b (eqL pI a b)∧h' =h:=by
 refine ad2 func133 26 [.tmp 4] fun hwf=>?_
 cases d1:((a.length:Int) !=(b.length:Int))
 case true=>
  have e1:a.length≠b.length:=by grind
  simp only[go_sem,dY,adT,d1];exact .same (.refl _) ⟨agl,rfl⟩
 have e1:a.length=b.length:=ad4;simp only[go_sem,dY,adT,d1];refine .intro (fun m ρ h' =>Ab.Sub h h'∧∃i:Nat,i≤a.length∧m=a.length - i∧(∀j (h1:j<a.length) (h2:j<b.length),j<i→pI a[j] b[j]=true)∧lk ρ 0=some (.sl (a.map cN) .no)∧lk ρ 1=some (.sl (b.map cN) .no)∧lk ρ 5=some (.i i)) a.length ?_ ?_
 ·exact aim
 ·rintro m ρ h' ⟨hs,i,hi,rfl,hc,r0,r1,r5⟩
  simp only[go_sem,r0,r1,r5,adT];refine .intro (fun e=>?_) (fun e=>?_)
  ·have hlt:i<a.length:=ad0 e
   have hlt2:i<b.length:=ad3;have w1:IntKind.i64.wrap ((i:Int)+1)=((i+1:Nat):Int):=by have:=hwf (dY a) aea;simp only[dY,wfA,wf1,lim,adT]at this;rw[aY _ ad3];omega
   simp only[go_sem,r0,r1,r5,adT];refine⟨.of ad7,?_⟩;refine .at i ad4 aec ?_;simp only[go_sem,r0,r1,r5,adU,cN];refine .at i ad4 aec ?_;simp only[go_sem,r0,r1,r5,adU,cN];cases d3:pI a[i] b[i]
   ·have d4:=d3
    simp only[pI]at d4;exact ajO
   ·have d4:=d3
    simp only[pI]at d4;exact ai0
  ·exact ajg
end Go.Proofs.YtokahfmoollblaaGreatDoor
namespace Go.Bf
open Go Go.Ab
def mG(a b:gG):Bool:=a.subj==b.subj && a.role==b.role
def jk(a b:cR):Bool:=a.name==b.name && (a.val.kind==b.val.kind && (a.val.n==b.val.n && a.val.s==b.val.s))
def oo(a b:u0):Bool:=a.tick==b.tick && (a.actor==b.actor && a.what==b.what)
def pK(a b:pq):Bool:=a.id==b.id && (a.tick==b.tick && (a.subj==b.subj && (a.case==b.case && (a.action==b.action && (a.reason==b.reason && a.isOpen==b.isOpen)))))
def pJ(a b:C2):Bool:=a.tick==b.tick && (a.case==b.case && a.arg==b.arg)
end Go.Bf
namespace Go.Proofs.YtokahfmoollblaaGreatDoor
open Go Go.Ab Go.Bf Tryz
theorem EZ(a b:List gG)(q1 q2:Perm)(h:Heap):ai prog 63 [.sl (a.map dw) q1,.sl (b.map dw) q2] h fun r h' =>r= .b (eqL mG a b)∧h' =h:=by
 refine ad2 func63 26 [.tmp 4] fun hwf=>?_
 cases d1:((a.length:Int) !=(b.length:Int))
 case true=>exact ais
 have e1:a.length=b.length:=ad4;simp only[go_sem,adT,d1];refine .intro (fun m ρ h' =>Ab.Sub h h'∧∃i:Nat,i≤a.length∧m=a.length - i∧(∀j (h1:j<a.length) (h2:j<b.length),j<i→mG a[j] b[j]=true)∧lk ρ 0=some (.sl (a.map dw) q1)∧lk ρ 1=some (.sl (b.map dw) q2)∧lk ρ 5=some (.i i)) a.length ?_ ?_
 ·exact aim
 ·rintro m ρ h' ⟨hs,i,hi,rfl,hc,r0,r1,r5⟩
  simp only[go_sem,r0,r5,adT];refine .intro (fun e=>?_) (fun e=>?_)
  ·have hlt:i<a.length:=ad0 e
   have hlt2:i<b.length:=ad3;have w1:IntKind.i64.wrap ((i:Int)+1)=((i+1:Nat):Int):=by have:=hwf (.sl (a.map dw) q1) aea;exact aiR
   simp only[go_sem,r0,r5];refine⟨.of ad7,?_⟩;refine .at i ad4 aec ?_;simp only[go_sem,r1,r5,adU,dw];refine .at i ad4 aec ?_;simp only[go_sem,adU,dw];cases d3:mG a[i] b[i]
   ·have d4:=d3
    simp only[mG]at d4;exact aiu
   ·have d4:=d3
    simp only[mG]at d4;exact aii
  ·exact aip
theorem CP(a b:List cR)(q1 q2:Perm)(h:Heap):ai prog 130 [.sl (a.map bC) q1,.sl (b.map bC) q2] h fun r h' =>r= .b (eqL jk a b)∧h' =h:=by
 refine ad2 func130 26 [.tmp 4] fun hwf=>?_
 cases d1:((a.length:Int) !=(b.length:Int))
 case true=>exact ais
 have e1:a.length=b.length:=ad4;simp only[go_sem,adT,d1];refine .intro (fun m ρ h' =>Ab.Sub h h'∧∃i:Nat,i≤a.length∧m=a.length - i∧(∀j (h1:j<a.length) (h2:j<b.length),j<i→jk a[j] b[j]=true)∧lk ρ 0=some (.sl (a.map bC) q1)∧lk ρ 1=some (.sl (b.map bC) q2)∧lk ρ 5=some (.i i)) a.length ?_ ?_
 ·exact aim
 ·rintro m ρ h' ⟨hs,i,hi,rfl,hc,r0,r1,r5⟩
  simp only[go_sem,r0,r5,adT];refine .intro (fun e=>?_) (fun e=>?_)
  ·have hlt:i<a.length:=ad0 e
   have hlt2:i<b.length:=ad3;have w1:IntKind.i64.wrap ((i:Int)+1)=((i+1:Nat):Int):=by have:=hwf (.sl (a.map bC) q1) aea;exact aiR
   simp only[go_sem,r0,r5];refine⟨.of ad7,?_⟩;refine .at i ad4 aec ?_;simp only[go_sem,r1,r5,adU,bC];refine .at i ad4 aec ?_;simp only[go_sem,adU,bC];cases d3:jk a[i] b[i]
   ·have d4:=d3
    simp only[jk]at d4;exact aiu
   ·have d4:=d3
    simp only[jk]at d4;exact aii
  ·exact aip
theorem GR(a b:List u0)(q1 q2:Perm)(h:Heap):ai prog 131 [.sl (a.map gv) q1,.sl (b.map gv) q2] h fun r h' =>r= .b (eqL oo a b)∧h' =h:=by
 refine ad2 func131 26 [.tmp 4] fun hwf=>?_
 cases d1:((a.length:Int) !=(b.length:Int))
 case true=>exact ais
 have e1:a.length=b.length:=ad4;simp only[go_sem,adT,d1];refine .intro (fun m ρ h' =>Ab.Sub h h'∧∃i:Nat,i≤a.length∧m=a.length - i∧(∀j (h1:j<a.length) (h2:j<b.length),j<i→oo a[j] b[j]=true)∧lk ρ 0=some (.sl (a.map gv) q1)∧lk ρ 1=some (.sl (b.map gv) q2)∧lk ρ 5=some (.i i)) a.length ?_ ?_
 ·exact aim
 ·rintro m ρ h' ⟨hs,i,hi,rfl,hc,r0,r1,r5⟩
  simp only[go_sem,r0,r5,adT];refine .intro (fun e=>?_) (fun e=>?_)
  ·have hlt:i<a.length:=ad0 e
   have hlt2:i<b.length:=ad3;have w1:IntKind.i64.wrap ((i:Int)+1)=((i+1:Nat):Int):=by have:=hwf (.sl (a.map gv) q1) aea;exact aiR
   simp only[go_sem,r0,r5];refine⟨.of ad7,?_⟩;refine .at i ad4 aec ?_;simp only[go_sem,r1,r5,adU,gv];refine .at i ad4 aec ?_;simp only[go_sem,adU,gv];cases d3:oo a[i] b[i]
   ·have d4:=d3
    simp only[oo]at d4;exact aiu
   ·have d4:=d3
    simp only[oo]at d4;exact aii
  ·exact aip
theorem GU(a b:List pq)(q1 q2:Perm)(h:Heap):ai prog 61 [.sl (a.map gA) q1,.sl (b.map gA) q2] h fun r h' =>r= .b (eqL pK a b)∧h' =h:=by
 refine ad2 func61 26 [.tmp 4] fun hwf=>?_
 cases d1:((a.length:Int) !=(b.length:Int))
 case true=>exact ais
 have e1:a.length=b.length:=ad4;simp only[go_sem,adT,d1];refine .intro (fun m ρ h' =>Ab.Sub h h'∧∃i:Nat,i≤a.length∧m=a.length - i∧(∀j (h1:j<a.length) (h2:j<b.length),j<i→pK a[j] b[j]=true)∧lk ρ 0=some (.sl (a.map gA) q1)∧lk ρ 1=some (.sl (b.map gA) q2)∧lk ρ 5=some (.i i)) a.length ?_ ?_
 ·exact aim
 ·rintro m ρ h' ⟨hs,i,hi,rfl,hc,r0,r1,r5⟩
  simp only[go_sem,r0,r5,adT];refine .intro (fun e=>?_) (fun e=>?_)
  ·have hlt:i<a.length:=ad0 e
   have hlt2:i<b.length:=ad3;have w1:IntKind.i64.wrap ((i:Int)+1)=((i+1:Nat):Int):=by have:=hwf (.sl (a.map gA) q1) aea;exact aiR
   simp only[go_sem,r0,r5];refine⟨.of ad7,?_⟩;refine .at i ad4 aec ?_;simp only[go_sem,r1,r5,adU,gA];refine .at i ad4 aec ?_;simp only[go_sem,adU,gA];cases d3:pK a[i] b[i]
   ·have d4:=d3
    simp only[pK]at d4;exact aiu
   ·have d4:=d3
    simp only[pK]at d4;exact aii
  ·exact aip
theorem GS(a b:List C2)(q1 q2:Perm)(h:Heap):ai prog 62 [.sl (a.map kr) q1,.sl (b.map kr) q2] h fun r h' =>r= .b (eqL pJ a b)∧h' =h:=by
 refine ad2 func62 26 [.tmp 4] fun hwf=>?_
 cases d1:((a.length:Int) !=(b.length:Int))
 case true=>exact ais
 have e1:a.length=b.length:=ad4;simp only[go_sem,adT,d1];refine .intro (fun m ρ h' =>Ab.Sub h h'∧∃i:Nat,i≤a.length∧m=a.length - i∧(∀j (h1:j<a.length) (h2:j<b.length),j<i→pJ a[j] b[j]=true)∧lk ρ 0=some (.sl (a.map kr) q1)∧lk ρ 1=some (.sl (b.map kr) q2)∧lk ρ 5=some (.i i)) a.length ?_ ?_
 ·exact aim
 ·rintro m ρ h' ⟨hs,i,hi,rfl,hc,r0,r1,r5⟩
  simp only[go_sem,r0,r5,adT];refine .intro (fun e=>?_) (fun e=>?_)
  ·have hlt:i<a.length:=ad0 e
   have hlt2:i<b.length:=ad3;have w1:IntKind.i64.wrap ((i:Int)+1)=((i+1:Nat):Int):=by have:=hwf (.sl (a.map kr) q1) aea;exact aiR
   simp only[go_sem,r0,r5];refine⟨.of ad7,?_⟩;refine .at i ad4 aec ?_;simp only[go_sem,r1,r5,adU,kr];refine .at i ad4 aec ?_;simp only[go_sem,adU,kr];cases d3:pJ a[i] b[i]
   ·have d4:=d3
    simp only[pJ]at d4;exact aiu
   ·have d4:=d3
    simp only[pJ]at d4;exact aii
  ·exact aip
end Go.Proofs.YtokahfmoollblaaGreatDoor
namespace Go.Bf
open Go Go.Ab
theorem any_succ{α:Type}{q:α→Bool}{l:List α}{i:Nat}(h:i<l.length):(l.take (i+1)).any q=((l.take i).any q||q l[i]):=by grind [List.take_succ_eq_append_getElem]
end Go.Bf
namespace Go.Proofs.YtokahfmoollblaaGreatDoor
open Go
def CI:List Value:=Lib.pow10Tab.map fun z=>Value.int .u64 z
end Go.Proofs.YtokahfmoollblaaGreatDoor
namespace Go.Bf
def UU:Txt:=[97,110,110]
end Go.Bf
namespace Go.Proofs.YtokahfmoollblaaGreatDoor
open Go Go.Ab Go.Bf Tryz
def S3(ev:Value):Heap:=xC [(3,CI),(2,[ev])]
theorem KF{ev:Value}(hev:ev= .nilIface∨∃te pe,ev= .iface te pe):kP (S3 ev):=⟨ev,hev,1,rfl⟩
end Go.Proofs.YtokahfmoollblaaGreatDoor
namespace Go.Bf
open Go Go.Ab
def vG(o:OpD):OpD:={o with subj:=o.subj.take 20,case:=o.case.take 20,field:=o.field.take 20,to:=o.to.take 20,val:={o.val with s:=o.val.s.take 70},reason:=o.reason.take 70,text:=if o.text.length≤4096 then o.text.take 1000 else o.text}
def lK(m:Int)(b:Nat):Nat:=(if m.tmod (b+1)<0 then m.tmod (b+1)+(b+1)else m.tmod (b+1)).toNat
theorem tF(m:Int)(b:Nat):lK m b≤b:=by
 have t1:=Int.tmod_lt_of_pos m (show(0:Int)<b+1 by omega)
 unfold lK;split<;>omega
end Go.Bf
namespace Go.Proofs.YtokahfmoollblaaGreatDoor
open Go Go.Ab Go.Bf Tryz
theorem ny(s:Txt)(n:Nat)(hn:n≤1000000)(h:Heap):ai prog 65 [.s s,.i n] h fun r h' =>r= .s (s.take n)∧h' =h:=by
 refine ad2 func65 11 [.tmp 4] fun hwf=>?_
 have e:(if(n:Int)<(s.length:Int)then(n:Int)else(s.length:Int))=((min n s.length:Nat):Int):=ad3
 simp only[go_sem,e];refine⟨ad3,ad3,ad3,?_⟩;simp only[go_sem,Option.isSome_none,Option.isSome_some,tO,Int.toNat_natCast];exact .same (.refl _) ⟨by rw[List.take_eq_take_min (i:=n) (l:=s)];rfl,rfl⟩
theorem vV(m:Int)(b:Nat)(h:Heap)(hm' : -9223372036854775808≤m∧m≤9223372036854775807)(hb:b≤1099511627776):
  ai prog 14 [.i m,.i 0,.i b] h fun r h' =>r= .i (lK m b)∧h' =h:=by
 have w0:IntKind.i64.wrap ((b:Int) - 0)=b:=IntWalk.i64_in _ ad3;have w1:IntKind.i64.wrap (b:Int)=b:=IntWalk.i64_in _ ad3;have w2:IntKind.i64.wrap ((b:Int)+1)=(b:Int)+1:=IntWalk.i64_in _ ad3;have t1:=Int.tmod_lt_of_pos m (show 0<(b:Int)+1 by omega)
 have t2:=Int.lt_tmod_of_pos m (show 0<(b:Int)+1 by omega)
 have hd:(lK m b:Int)=if m.tmod (b+1)<0 then m.tmod (b+1)+(b+1)else m.tmod (b+1):=by grind [lK]
 generalize hq:m.tmod ((b:Int)+1)=q at t1 t2 hd;have w3:IntKind.i64.wrap (q+b)=q+b:=IntWalk.i64_in _ ad3;have w4:IntKind.i64.wrap (q+b - 0)=q+b:=ad4;have w5:IntKind.i64.wrap (q+b+1)=q+b+1:=IntWalk.i64_in _ ad3;refine ad2 func14 24 [.tmp 6] fun hwf=>?_
 simp only[go_sem,w1,w2,hq,Int.sub_zero];refine⟨ad3,.intro (fun e=>?_) (fun e=>?_)⟩
 ·have e:=adV e
  rw[if_pos e]at hd;simp only[go_sem,w3,w5,Int.sub_zero];have w6:IntKind.i64.wrap (0+(q+b+1))=q+b+1:=ad4;have w7:IntKind.i64.wrap (q+b+1)=q+b+1:=IntWalk.i64_in _ ad3;simp only[go_sem,w7,Int.zero_add];exact .same (.refl _) ⟨by grind [au,Int.add_assoc],rfl⟩
 ·have e:=adW e
  rw[if_neg e]at hd;have w7:IntKind.i64.wrap q=q:=IntWalk.i64_in q ad3;have w6:IntKind.i64.wrap (0+q)=q:=ad4;simp only[go_sem,w7,Int.zero_add];exact .same (.refl _) ⟨by rw[hd];rfl,rfl⟩
theorem M3(o:OpD)(h:Heap):ai prog 20 [opA o] h fun r h' =>r=opA (vG o)∧h' =h:=by
 refine ad2 func20 38 [.cell 2 46] fun hwf=>?_
 simp only[go_sem,opA,opC];intro i1 h1;simp only[go_sem];intro i2 h2;have n21:=aF h2;have n2:=aB h2;simp only[go_sem];have hns:∀G,Ab.Sub cX G:=fun G _ _ e=>aet
 have hs:∀a b,Ab.Sub h (upd (upd h i1 a) i2 b):=fun a b=>((Sub.refl h).put h1 a).put n2 b
 refine .stage (pick (upd (upd h i1 (some (.obj [.i o.kind,.s o.subj,.s o.case,.s o.field,.s o.to,.i o.val.kind,.i o.val.n,.s o.val.s,.i o.review,.s o.text,.s o.reason,.b o.glass] 46))) i2 _) [i1]) [0,1,3,4,6,7,9,10,2,12,5,8,11] [13,14,15,16,17,18,19] bz ad7 ?_;simp only[go_sem,bG (show i1∈ [i1] by simp),aj,n21.symm]
 refine(show ai prog 65 [_,.i ((20:Nat):Int)] _ _ from(ny _ 20 ad6 _).mono fun r h' ⟨e1,e2⟩=>?_)
 subst e1;subst e2
 refine⟨bz,?_⟩;simp only[go_sem];refine(show ai prog 65 [_,.i ((20:Nat):Int)] _ _ from(ny _ 20 ad6 _).mono fun r h' ⟨e1,e2⟩=>?_)
 subst e1;subst e2
 refine⟨bz,?_⟩;simp only[go_sem];refine(show ai prog 65 [_,.i ((20:Nat):Int)] _ _ from(ny _ 20 ad6 _).mono fun r h' ⟨e1,e2⟩=>?_)
 subst e1;subst e2
 refine⟨bz,?_⟩;simp only[go_sem];refine(show ai prog 65 [_,.i ((20:Nat):Int)] _ _ from(ny _ 20 ad6 _).mono fun r h' ⟨e1,e2⟩=>?_)
 subst e1;subst e2
 refine⟨bz,?_⟩;simp only[go_sem];refine⟨cX,hns _,?_⟩;simp only[go_sem,aj,n21.symm];refine⟨hns _,hns _,hns _,hns _,?_⟩;refine .stage (pick _ [i1]) [0,1,2,4,5,3,7,8,6] [9,10,11] bz ad7 ?_;simp only[go_sem,bG (show i1∈ [i1] by simp)]
 refine(show ai prog 65 [_,.i ((70:Nat):Int)] _ _ from(ny _ 70 ad6 _).mono fun r h' ⟨e1,e2⟩=>?_)
 subst e1;subst e2
 refine⟨bz,?_⟩;simp only[go_sem];refine(show ai prog 65 [_,.i ((70:Nat):Int)] _ _ from(ny _ 70 ad6 _).mono fun r h' ⟨e1,e2⟩=>?_)
 subst e1;subst e2
 refine⟨bz,?_⟩;simp only[go_sem];refine⟨cX,hns _,?_⟩;simp only[go_sem];refine⟨hns _,hns _,?_⟩;cases d1:decide ((o.text.length:Int)≤4096)
 ·have p1:¬o.text.length≤4096:=by grind
  exact aju
 ·have p1:o.text.length≤4096:=by grind
  simp only[go_sem];refine(show ai prog 65 [_,.i ((1000:Nat):Int)] _ _ from(ny _ 1000 ad6 _).mono fun r h' ⟨e1,e2⟩=>?_)
  subst e1;subst e2
  exact aju
end Go.Proofs.YtokahfmoollblaaGreatDoor
namespace Go.Bf
open Go Go.Ab
def iY(cat:Int)(name:Txt)(g:bt):Bool:=g.cat==cat && g.name==name
def getD(l:List bt)(cat:Int)(name:Txt):List bB:=match l.find? (iY cat name)with
 |some g=>g.bag
 |none=>[]
end Go.Bf
namespace Go.Proofs.YtokahfmoollblaaGreatDoor
open Go Go.Ab Go.Bf Tryz
variable {cat:Int}{name:Txt}{gs:List bt}
theorem Mn{α:Type}(y:AV)(xs:List AV)(ds:List α)(q:α→Bool)(g:FuncId)(cap:List AV)(h:Heap)(hb:Rd h 3 y xs)(hn:xs.length=ds.length)(hl:xs.length≤1000000000)(hx:∀x∈xs,bD x=true)
  (hp:∀i (h1:i<xs.length) (h2:i<ds.length),ai prog g (xs[i]::cap) h fun r h' =>r= .b (q ds[i])∧h' =h):
  ai prog 307 [y,.fn g cap] h fun r h' =>r= .i (ixD q ds)∧h' =h:=by
 refine ad2 func307 19 [.tmp 4] fun hwf=>?_
 simp only[go_sem,hb.len];refine .intro (fun m ρ h' =>h' =h∧∃i:Nat,i≤xs.length∧m=xs.length - i∧(∀j (hj:j<i) (h2:j<ds.length),q ds[j]=false)∧lk ρ 0=some y∧lk ρ 1=some (.fn g cap)∧lk ρ 7=some (.i xs.length)∧lk ρ 8=some (.i i)) xs.length ?_ ?_
 ·refine⟨rfl,0,ad3,rfl,fun j hj=>ad3,?_,?_,?_,?_⟩<;>simp only[go_sem]
 ·rintro m ρ h' ⟨rfl,i,hi,rfl,hc,r0,r1,r7,r8⟩
  simp only[go_sem,r7,r8];refine .intro (fun e=>?_) (fun e=>?_)
  ·have hlt:i<xs.length:=ad0 e
   have hlt2:i<ds.length:=ad3;have w1:IntKind.i64.wrap ((i:Int)+1)=((i+1:Nat):Int):=aeg;simp only[go_sem,r0,r1,r8];refine hb.idx (e:=180) i rfl hlt aei ad6 fun p hp1=>?_
   have hld:=hp1.all (U:=U) (ty:=180) ad6 aeX afQ;simp only[go_sem,hld];refine(show ai prog g (xs[i]::cap) _ _ from hp i hlt hlt2).pthen ?_
   cases d1:q ds[i]
   ·simp only[go_sem,r8,w1]
    refine⟨_,?_,rfl,i+1,ad3,rfl,fun j hj h2=>?_,?_,?_,?_,?_⟩
    ·omega
    ·grind
    all_goals simp only[go_sem,r0,r1,r7]
   ·simp only[go_sem]
    exact .same (.refl _) ⟨aeL,rfl⟩
  ·have hge:i=xs.length:=by grind
   simp only[go_sem];exact .same (.refl _) ⟨aew,rfl⟩
theorem Km{h:Heap}(g:bt){k1 k2:Nat}(h1:h k1=some (.obj [.i cat] 3))(h2:h k2=some (.obj [.s name] 9)):ai prog 308 [lQ g,.ptr k1 0,.ptr k2 0] h fun r h' =>r= .b (iY cat name g)∧h' =h:=by
 refine ad2 func308 15 [.tmp 4] fun hwf=>?_
 simp only[go_sem,lQ];intro i1 hi1;have n1:k1≠i1:=fun e=>ad4
 have n2:k2≠i1:=fun e=>ad4
 simp only[go_sem,aj,n1,h1];cases d1:(g.cat==cat)
 ·simp only[go_sem]
  exact .mk _ (.refl _) (.ak hi1) ⟨by simp only[iY,d1];rfl,rfl⟩
 ·simp only[go_sem,aj,n2,h2]
  exact .mk _ (.refl _) (.ak hi1) ⟨by simp only[iY,d1];rfl,rfl⟩
theorem Ng(gs:List bt)(cat:Int)(name:Txt)(hl:gs.length≤1000000000)(h:Heap):ai prog 285 [bP gs,.i cat,.s name] h fun r h' =>r= .i (ixD (iY cat name) gs)∧h' =h:=by
 refine ad2 func285 10 [.tmp 6] fun hwf=>?_
 simp only[go_sem,bP];intro i1 h1;simp only[go_sem];intro i2 h2;have n2:=aB h2;have hs:∀a b,Ab.Sub h (upd (upd h i1 a) i2 b):=fun a b=>((Sub.refl h).put h1 a).put n2 b
 simp only[go_sem];refine(Mn _ _ gs (iY cat name) _ [.ptr i1 0,.ptr i2 0] _ (eL lQ 3 (fun _=>rfl) _ gs) aea ad4 (pE (fun _=>rfl) _) fun i a b=>by rw[adU];exact Km _ (by grind [ag,ah]) (ah ..)).pthen ?_
 simp only[go_sem];exact afE
theorem get_at(h:gs.findIdx (iY cat name)<gs.length):getD gs cat name=gs[gs.findIdx (iY cat name)].bag:=by unfold getD;rw[show gs.find? (iY cat name)=some gs[gs.findIdx (iY cat name)]from List.find?_eq_some_iff_getElem.2 ⟨List.findIdx_getElem (w:=h),_,h,rfl,fun j hj=>ad4⟩]
theorem Sk(h:¬gs.findIdx (iY cat name)<gs.length):getD gs cat name= []:=by grind [getD,iY,List.findIdx_le_length,List.find?_eq_none,List.findIdx_eq_length]
end Go.Proofs.YtokahfmoollblaaGreatDoor
namespace Go.Bf
open Go Go.Ab
variable {c:aK}{cs:List aK}{f:cR}{fs:List cR}{name:Txt}{v:bB}
def cT:Txt:=[99]
def stC(st:Txt)(log:List u0):aK:=⟨cT,UU,st,[],log⟩
def qp:List Txt:=[jQ,xj,A6,iB]
abbrev lt(a b:Txt):Prop:=Op.bytesLess a b=true
theorem lt_irrefl:∀a:Txt,¬lt a a
 | []=>ad6
 |a::x=>by have:=lt_irrefl x;simp only[lt,Op.bytesLess,Bool.or_eq_true,Bool.and_eq_true,decide_eq_true_eq,beq_self_eq_true,true_and,not_or];exact⟨UInt8.lt_irrefl a,this⟩
theorem lt_trans:∀ {a b c:Txt},lt a b→lt b c→lt a c
 |_,[],_,h,_=>by simp_all [Txt,lt,Op.bytesLess]
 | [],b::y,c,_,h=>by cases c<;>simp[lt,Op.bytesLess]at h⊢
 |a::x,b::y,[],_,h=>by simp[lt,Op.bytesLess]at h
 |a::x,b::y,c::z,h1,h2=>by
  simp only[lt,Op.bytesLess,Bool.or_eq_true,Bool.and_eq_true,decide_eq_true_eq,beq_iff_eq]at h1 h2⊢;rcases h1 with h1|⟨rfl,h1⟩
  ·grind
  ·rcases h2 with h2|⟨rfl,h2⟩
   ·grind
   ·exact .inr ⟨rfl,lt_trans h1 h2⟩
theorem Bs:∀a b:Txt,lt a b∨a=b∨lt b a
 | [],[]=>aea
 | [],b::y=> .inl rfl
 |a::x,[]=> .inr (.inr rfl)
 |a::x,b::y=>by
  simp only[lt,Op.bytesLess,Bool.or_eq_true,Bool.and_eq_true,decide_eq_true_eq,beq_iff_eq];rcases UInt8.lt_or_lt_of_ne (a:=a) (b:=b)with h
  by_cases e:a=b
  ·subst e
   rcases Bs x y with h|rfl|h
   ·grind
   ·simp
   grind
  grind
def Asc(cs:List aK):Prop:=cs.Pairwise fun a b=>lt a.id b.id
theorem HN{id:Txt}(h:¬lt c.id id):findD (c::cs) id=0:=by simp_all [Op.bytesLess,false,findD,List.findIdx_cons,geB]
theorem HO{id:Txt}(h:lt c.id id):findD (c::cs) id=findD cs id+1:=by simp_all [Op.bytesLess,true,findD,List.findIdx_cons,geB]
theorem vR:∀ {cs:List aK},Asc cs→∀id,cj cs id=cs.any fun c=>c.id==id
 | [],_,id=>rfl
 |c::cs,h,id=>by
  obtain⟨h1,h2⟩:=List.pairwise_cons.1 h
  by_cases hl:lt c.id id
  ·have hne:(c.id==id)=false:=by grind [beq_eq_false_iff_ne,lt_irrefl]
   have e:cj (c::cs) id=cj cs id:=by grind [cj,HO]
   rw[e,vR h2 id,List.any_cons,hne,Bool.false_or]
  ·have e:cj (c::cs) id=(c.id==id):=by grind [cj,HN]
   rw[e,List.any_cons];cases hc:(c.id==id)
   ·have hlt:lt id c.id:=by
     rcases Bs c.id id with h|h|h
     ·grind
     ·grind
     omega
    grind
   ·simp
theorem HD:∀ {cs:List aK},Asc cs→∀c:aK,(cs.any fun d=>d.id==c.id)=false→Asc (cs.take (findD cs c.id)++ [c]++cs.drop (findD cs c.id))
 | [],_,c,_=>by simp[Asc,findD]
 |d::cs,h,c,hn=>by
  obtain⟨h1,h2⟩:=List.pairwise_cons.1 h;simp only[List.any_cons,Bool.or_eq_false_iff]at hn
  by_cases hl:lt d.id c.id
  ·rw[HO hl]
   simp only[List.take_succ_cons,List.drop_succ_cons,List.cons_append];refine List.pairwise_cons.2 ⟨fun e he=>?_,HD h2 c hn.2⟩
   grind
  ·rw[HN hl]
   have hlt:lt c.id d.id:=by
    rcases Bs d.id c.id with h|h|h
    ·grind
    ·grind
    omega
   refine List.pairwise_cons.2 ⟨fun e he=>?_,h⟩
   rcases List.mem_cons.1 he with rfl|he
   ·omega
   grind [lt_trans]
def Fu(fs:List cR):Prop:=fs.Pairwise fun a b=>lt a.name b.name
theorem B2(name:Txt)(v:bB):fo [] name v= [⟨name,v⟩]:=rfl
theorem Ai(h:lt f.name name):fo (f::fs) name v=f::fo fs name v:=by
 have hb:Op.bytesLess f.name name=true:=h;unfold fo;simp only[List.findIdx_cons,geB,hb,Bool.not_true,cond_false,List.getElem?_cons_succ];generalize hi:fs.findIdx (fun f=> !Op.bytesLess f.name name)=i
 cases e:fs[i]? with
 |none=>simp
 |some g=>
  by_cases hg:g.name=name
  ·simp[hg]
  ·simp[hg]
theorem Af(h:f.name=name):fo (f::fs) name v=⟨f.name,v⟩::fs:=by
 subst h;have hb:Op.bytesLess f.name f.name=false:=by grind [Op.bytesLess,lt_irrefl]
 unfold fo;simp[List.findIdx_cons,geB,hb]
theorem Ag(h:lt name f.name):fo (f::fs) name v=⟨name,v⟩::f::fs:=by
 have hb:Op.bytesLess f.name name=false:=by grind [Op.bytesLess,lt_irrefl,lt_trans]
 have hne:f.name≠name:=fun e=>by rw[e]at h;exact lt_irrefl _ h
 unfold fo;simp[List.findIdx_cons,geB,hb,hne]
theorem vW:∀ {fs:List cR} {name:Txt} {v:bB} {g:cR},g∈fo fs name v→g=⟨name,v⟩∨g∈fs
 | [],name,v,g,h=>by grind [B2,List.mem_singleton]
 |f::fs,name,v,g,h=>by
  rcases Bs f.name name with hl|hl|hl
  ·rw[Ai hl]at h
   rcases List.mem_cons.1 h with rfl|h
   ·simp
   ·rcases vW h with h|h
    ·grind
    grind
  ·rw[Af hl]at h
   grind
  ·rw[Ag hl]at h
   grind
theorem B0:∀ {fs:List cR} {name:Txt} {v:bB},Fu fs→Fu (fo fs name v)
 | [],name,v,_=>by grind [B2,Fu]
 |f::fs,name,v,h=>by
  obtain⟨h1,h2⟩:=List.pairwise_cons.1 h;rcases Bs f.name name with hl|hl|hl
  ·rw[Ai hl]
   refine List.pairwise_cons.2 ⟨fun g hg=>?_,B0 h2⟩
   rcases vW hg with rfl|hg
   ·omega
   grind
  ·rw[Af hl]
   exact List.pairwise_cons.2 ⟨h1,h2⟩
  ·rw[Ag hl]
   refine List.pairwise_cons.2 ⟨fun g hg=>?_,h⟩
   rcases List.mem_cons.1 hg with rfl|hg
   ·omega
   grind [lt_trans]
theorem B1:∀ {fs:List cR} {name:Txt} {v:bB},Fu fs→(fo fs name v).length=if fs.any (fun f=>f.name==name)then fs.length else fs.length+1
 | [],name,v,_=>rfl
 |f::fs,name,v,h=>by
  obtain⟨h1,h2⟩:=List.pairwise_cons.1 h;rcases Bs f.name name with hl|hl|hl
  ·have hne:(f.name==name)=false:=by grind [beq_eq_false_iff_ne,lt_irrefl]
   rw[Ai hl,List.length_cons,B1 h2,List.any_cons,hne,Bool.false_or];split<;>simp
  ·grind [Af]
  ·have hne:(f.name==name)=false:=by grind [beq_eq_false_iff_ne,lt_irrefl]
   have hno:(fs.any fun f=>f.name==name)=false:=List.any_eq_false.2 fun g hg he=>by have:=lt_trans hl (h1 g hg);rw[beq_iff_eq.1 he]at this;exact lt_irrefl _ this
   rw[Ag hl,List.any_cons,hne,hno];simp
theorem F3(f:cR)(fs:List cR)(n:Txt):eV (f::fs) n=if f.name=n then f.val else eV fs n:=by grind [eV]
end Go.Bf
