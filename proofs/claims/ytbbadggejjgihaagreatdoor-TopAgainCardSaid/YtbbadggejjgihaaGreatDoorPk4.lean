/- The law TopAgain: pack 4 of its texts. -/
import Derived.Shelf.Small.Strs
import Derived.Shelf.Small.Wraps
import Derived.Shelf.Strconv.AtoiAll
import Derived.Shelf.Strconv.ErrVarAll
import Derived.Shelf.Strings.Search1
import Derived.Test.YtbbadggejjgihaaGreatDoorProg
import Derived.KernelRfl
import Derived.WalkKit
import Derived.BigCall
import Derived.Lib.ItoaLen
import Derived.Test.YtbbadggejjgihaaGreatDoorPk1
import Derived.Test.YtbbadggejjgihaaGreatDoorPk2
import Derived.Test.YtbbadggejjgihaaGreatDoorPk3
set_option linter.unusedSimpArgs false
set_option linter.unusedVariables false
set_option maxRecDepth 100000
namespace Go.Proofs.YtbbadggejjgihaaGreatDoor
open Go Go.Ab Go.Bf
def Byt(g:FuncId)(p:UInt8→Bool):Prop:=∀(c:UInt8) (h:Heap),ai Tryz.prog g [.v (.int .u8 c.toNat)] h fun r h' =>r= .b (p c)∧h' =h
theorem mV:Byt 188 dgt:=fun c h=>by
 refine ad3 Tryz.func188 9 [.tmp 2] fun hwf=>?_
 cases d1:decide (48≤(c.toNat:Int))<;>cases d2:decide ((c.toNat:Int)≤57)
 all_goals
  simp only[go_sem,d1,d2];exact .same (.refl _) ⟨by simp only[dgt,d1,d2];rfl,rfl⟩
theorem JQ:Byt 229 wrd:=fun c h=>by
 refine ad3 Tryz.func229 17 [.tmp 2] fun hwf=>?_
 cases d1:decide (97≤(c.toNat:Int))<;>cases d2:decide ((c.toNat:Int)≤122)<;>cases d3:dgt c<;>cases d4:((c.toNat:Int)==95)
 all_goals
  simp only[go_sem,d1,d2]
  first
   |exact .same (.refl _) ⟨by simp only[wrd,ltr,d1,d2,d3,d4];rfl,rfl⟩
   |(refine(mV c _).pthen ?_;simp only[go_sem,d3,d4];exact .same (.refl _) ⟨by simp only[wrd,ltr,d1,d2,d3,d4];rfl,rfl⟩)
theorem Ej:Byt 230 (fun c=> !tV c):=fun c h=>by
 refine ad3 Tryz.func230 17 [.tmp 2] fun hwf=>?_
 cases d1:decide (32≤(c.toNat:Int))<;>cases d2:decide ((c.toNat:Int)≤126)<;>cases d3:((c.toNat:Int)==34)<;>cases d4:((c.toNat:Int)==92)
 all_goals
  simp only[go_sem,d1,d2,d3,d4,bne];refine .same (.refl _) ⟨?_,rfl⟩;have e1:decide ((c.toNat:Int)<32)= !decide (32≤(c.toNat:Int)):=by
   grind
  have e2:decide (126<(c.toNat:Int))= !decide ((c.toNat:Int)≤126):=by
   grind
  simp only[tV,e1,e2,d1,d2,d3,d4];rfl
theorem Qa(p:UInt8→Bool)(s:Txt)(i:Nat)(hi:i<s.length)(h:i≤(s.takeWhile p).length)(hp:p s[i]=true):i+1≤(s.takeWhile p).length:=by
 exact aiZ
theorem Wh(p:UInt8→Bool)(s:Txt)(i:Nat)(hi:i<s.length)(h:i≤(s.takeWhile p).length)(hp:p s[i]=false):(s.takeWhile p).length=i:=by
 exact aiZ
theorem Nw(g:FuncId)(p:UInt8→Bool)(hg:Byt g p)(s:Txt)(h:Heap):ai Tryz.prog 228 [.s s,.fn g []] h fun r h' =>r= .v (.int .i64 (s.takeWhile p).length)∧h' =h:=by
 refine ad3 Tryz.func228 20 [.tmp 4] fun hwf=>?_
 have hlen:=hwf (.s s) aec;simp only[wfA,wf1,lim]at hlen;simp only[go_sem];refine .intro (fun m ρ h' =>h' =h∧∃i:Nat,i≤s.length∧m=s.length - i∧i≤(s.takeWhile p).length∧lk ρ 0=some (.s s)∧lk ρ 1=some (.fn g [])∧lk ρ 5=some (.i i)) s.length ?_ ?_
 ·refine⟨rfl,0,ad4,rfl,ad4,?_,?_,?_⟩<;>simp only[go_sem]
 ·rintro m ρ h' ⟨rfl,i,hi,rfl,hc,r0,r1,r5⟩
  cases d1:decide ((i:Int)<(s.length:Int))
  ·have hge:i=s.length:=by grind
   have:=kC p s;simp only[go_sem,r0,r5,d1];exact .same (.refl _) ⟨by grind [ax],rfl⟩
  ·have hlt:i<s.length:=by grind
   have w1:IntKind.i64.wrap ((i:Int)+1)=((i+1:Nat):Int):=aej;simp only[go_sem,r0,r1,r5,d1];refine .at i hlt ?_;simp only[go_sem,aN];refine(hg s[i] _).pthen ?_;cases d2:p s[i]
   ·have:=Wh p s i hlt hc d2
    simp only[go_sem,r5];exact .same (.refl _) ⟨by rw[this];rfl,rfl⟩
   ·simp only[go_sem,r5,w1]
    refine⟨_,?_,rfl,i+1,ad4,rfl,Qa p s i hlt hc d2,?_,?_,?_⟩
    ·omega
    all_goals simp only[go_sem,r0,r1]
theorem yW(s:Txt)(h:Heap):ai Tryz.prog 187 [.s s] h fun r h' =>r= .s (jL s)∧h' =h:=by
 refine ad3 Tryz.func187 12 [.tmp 2] fun hwf=>?_
 simp only[go_sem];refine(Nw _ _ JQ s _).pthen ?_;simp only[go_sem];refine⟨ad4,ad4,?_⟩;simp only[go_sem,Option.isSome_none,Option.isSome_some,tq,Int.toNat_natCast,rA];refine⟨by grind [kC,wrd],?_⟩
 refine(pH _ _).pthen ?_;cases d1:bp (s.takeWhile wrd)
 ·exact ajX
 ·exact ajX
theorem wr8{x:Int}(h:0≤x∧x<256):IntKind.u8.wrap x=x:=by
 grind [IntKind.wrap,IntKind.signed,IntKind.bits]
theorem tv(c:UInt8)(h:Heap):ai Tryz.prog 263 [.v (.int .u8 c.toNat)] h fun r h' =>r= .i (jO c)∧h' =h:=by
 refine ad3 Tryz.func263 20 [.tmp 2] fun hwf=>?_
 have hc:=c.toNat_lt;simp only[go_sem];refine(mV c _).pthen ?_;cases d1:dgt c
 case true=>
  have e1:48≤(c.toNat:Int)∧(c.toNat:Int)≤57:=by grind [dgt]
  have w1:IntKind.u8.wrap ((c.toNat:Int) - 48)=(c.toNat:Int) - 48:=wr8 ad4;have w2:IntKind.i64.wrap ((c.toNat:Int) - 48)=(c.toNat:Int) - 48:=aU _ ad4;simp only[go_sem,w1,w2];exact .same (.refl _) ⟨by grind [jO,ax],rfl⟩
 cases d2:decide (97≤(c.toNat:Int))<;>cases d3:decide ((c.toNat:Int)≤102)
 case true.true=>
  have e2:=adW d2;have e3:=adW d3;have w1:IntKind.u8.wrap ((c.toNat:Int) - 97)=(c.toNat:Int) - 97:=wr8 ad4;have w2:IntKind.i64.wrap ((c.toNat:Int) - 97)=(c.toNat:Int) - 97:=aU _ ad4;have w3:IntKind.i64.wrap ((c.toNat:Int) - 97+10)=(c.toNat:Int) - 87:=aej;simp only[go_sem,d2,d3,w1,w2,w3];exact .same (.refl _) ⟨by grind [jO,ax],rfl⟩
 all_goals
  simp only[go_sem,d2,d3];simp only[decide_eq_true_eq,decide_eq_false_iff_not]at d2 d3;refine .same (.refl _) ⟨?_,rfl⟩
  grind [Int,jO,ax]
theorem HR(c:UInt8): -1≤jO c∧jO c≤15:=by
 grind [jO,dgt]
theorem NR(n:Nat)(h:n<256):((UInt8.ofNat n).toNat:Int)=n:=by
 simp;omega
theorem SR(s:Txt)(h:Heap):ai Tryz.prog 231 [.s s] h fun r h' =>(∃x:Int,r= .tup [.v (.int .u8 x),.v (.bool (tW s).isSome)]∧∀c,tW s=some c→x=c.toNat)∧h' =h:=by
 refine ad3 Tryz.func231 38 [.tmp 2,.tmp 3] fun hwf=>?_
 have hlen:=hwf (.s s) aec;simp only[wfA,wf1,lim]at hlen;cases d0:decide ((s.length:Int)<3)
 case true=>
  have e0:s.length<3:=ad5;have:tW s=none:=by
   match s,e0 with
   | [],_=>rfl
   | [_],_=>rfl
   | [_,_],_=>rfl
  simp only[go_sem,d0];exact .same (.refl _) ⟨⟨0,by rw[this];rfl,fun c hc=>ad5⟩,rfl⟩
 have e0:3≤s.length:=ad5;obtain⟨b,x,y,t,rfl⟩:∃b x y t,s=b::x::y::t:=by
  match s,e0 with
  |b::x::y::t,_=>exact⟨b,x,y,t,rfl⟩
 simp only[List.length_cons]at d0;have bad:tW (b::x::y::t)=none→∃z:Int,AV.tup [.v (.int .u8 0),.b false]= .tup [.v (.int .u8 z),.v (.bool (tW (b::x::y::t)).isSome)]∧∀c,tW (b::x::y::t)=some c→z=c.toNat:=
  fun e=>⟨0,ad5,fun c hc=>ad5⟩
 cases d1:((b.toNat:Int) !=92)
 case true=>
  have e1:b≠92:=by rintro rfl;grind
  simp only[go_sem,d0];refine .at 0 aec ?_;simp only[go_sem,aN,List.getElem_cons_zero,d1];exact ajG
 have e1:b=92:=by
  have:(b.toNat:Int)=92:=ad5;exact UInt8.toNat_inj.1 ad5
 simp only[go_sem,d0];refine .at 0 aec ?_;simp only[go_sem,aN,List.getElem_cons_zero,d1];refine .at 1 aec ?_;simp only[go_sem,aN,List.getElem_cons_zero,List.getElem_cons_succ];refine(tv x _).pthen ?_;cases d2:decide (jO x<0)
 case true=>
  have e2:=adW d2;simp only[go_sem,d2];exact ajG
 have e2:0≤jO x:=ad5;simp only[go_sem,d2];refine .at 2 aec ?_;simp only[go_sem,aN,List.getElem_cons_zero,List.getElem_cons_succ];refine(tv y _).pthen ?_;cases d3:decide (jO y<0)
 case true=>
  have e3:=adW d3;simp only[go_sem,d3];exact ajG
 have e3:0≤jO y:=ad5;have hx:=HR x;have hy:=HR y;have w1:IntKind.i64.wrap (16*jO x)=16*jO x:=aU _ ad4;have w2:IntKind.i64.wrap (16*jO x+jO y)=16*jO x+jO y:=aU _ ad4;have w3:IntKind.u8.wrap (16*jO x+jO y)=((UInt8.ofNat (16*jO x+jO y).toNat).toNat:Int):=by
  grind [wr8,NR]
 simp only[go_sem,d3];refine .quiet ad7 ?_;simp only[go_sem];refine .at 1 aec ?_;simp only[go_sem,aN,List.getElem_cons_zero,List.getElem_cons_succ];refine⟨_,tv x _,?_⟩;simp only[go_sem];refine .at 2 aec ?_;simp only[go_sem,aN,List.getElem_cons_zero,List.getElem_cons_succ];refine⟨_,tv y _,?_⟩;simp only[go_sem,w1,w2,w3];refine(Ej _ _).pthen ?_;simp only[go_sem];refine .same (.refl _) ⟨⟨((UInt8.ofNat (16*jO x+jO y).toNat).toNat:Int),?_,fun c hc=>?_⟩,rfl⟩
 ·grind [tV,UInt8.ofNat,jO,tW,ax]
 grind [tW]
theorem u5z:(U 5).sz=1:=aek
theorem u5b:(U 5).bytes=1:=aek
theorem nD(l:List UInt8):Sized 1 (l.map aN):=fun z hz=>by
 obtain⟨c,_,rfl⟩:=List.mem_map.1 hz;rfl
theorem II(s:Txt)(hs:s.length≤10000)(h:Heap):ai Tryz.prog 190 [.s s] h fun r h' =>r= .tup [.s (zG s).1,.v (.int .i64 (zG s).2)]∧h' =h:=by
 refine ad3 Tryz.func190 50 [.tmp 2,.tmp 3] fun hwf=>?_
 simp only[go_sem];refine .intro (fun m ρ h' =>∃(i f:Nat) (y:AV) (out:Txt),Acc U 5 h h' y (out.map aN)∧out.length≤i∧m=s.length+1 - i∧i≤s.length+3∧s.length≤f+i∧uw f (s.drop i) i out=zG s∧lk ρ 0=some (.s s)∧lk ρ 4=some y∧lk ρ 5=some (.i i)) s.length ?_ ?_
 ·refine⟨1,s.length,.sl [] .full,[],.full (.refl _),aec,ad4,ad4,ad4,rfl,?_,?_,?_⟩<;>simp only[go_sem]
 ·rintro m ρ h' ⟨i,f,y,out,hy,hoi,rfl,hi,hf,he,r0,r4,r5⟩
  cases d1:decide ((i:Int)<(s.length:Int))
  ·have hge:s.length≤i:=by grind
   have hd:s.drop i= []:=List.drop_of_length_le hge;have:zG s=([],0):=by
    rw[←he,hd];cases f<;>rfl
   simp only[go_sem,r0,r5,d1];exact .mk _ (.refl _) hy.1 ⟨by rw[this];rfl,rfl⟩
  have hlt:i<s.length:=ad5;obtain⟨f,rfl⟩:∃g,f=g+1:=⟨f - 1,ad4⟩;have hdr:s.drop i=s[i]::s.drop (i+1):=List.drop_eq_getElem_cons hlt;rw[hdr]at he;simp only[uw]at he;have w1:IntKind.i64.wrap ((i:Int)+1)=((i+1:Nat):Int):=aej;have w3:IntKind.i64.wrap ((i:Int)+3)=((i+3:Nat):Int):=aej;simp only[go_sem,r0,r5,d1];refine .at i hlt ?_;cases d2:((s[i].toNat:Int)==34)
  case true=>
   have e2:s[i]=34:=by
    have:(s[i].toNat:Int)=34:=ad5;exact UInt8.toNat_inj.1 ad5
   rw[if_pos e2]at he;cases d3:decide (64<(out.length:Int))
   case true=>
    have e3:64<out.length:=ad5;rw[if_pos e3]at he;simp only[go_sem,r4,aN,d2,hy.len,adU,d3];exact ajB
   have e3:¬64<out.length:=ad5;rw[if_neg e3]at he;simp only[go_sem,r4,aN,d2,hy.len,adU,d3];obtain⟨q,rfl⟩:=hy.row;simp only[go_sem,r5,w1];exact ajB
  have e2:s[i]≠34:=by intro e;simp_all
  rw[if_neg e2]at he;simp only[go_sem,r0,r5,aN,d2];refine .at i hlt ?_;simp only[go_sem,aN];refine(Ej _ _).pthen ?_;cases d4:tV s[i]
  ·rw[if_pos d4]at he
   simp only[go_sem,r0,r4,r5,d4];refine .at i hlt ?_;simp only[go_sem,aN];refine hy.app (zs:=[aN s[i]]) ad9 ad9 (fun k hk=>hk) (by grind [u5z,nD]) (by rw[u5z];exact nD [s[i]]) (by grind [u5b]) fun y' h2 hy' hk2=>?_
   simp only[go_sem,r5,w1];refine⟨_,?_,i+1,f,y',out++ [s[i]],ad5,ad5,rfl,ad4,ad4,he,?_,?_,?_⟩
   ·omega
   all_goals simp only[go_sem,r0]
  ·rw[if_neg ad5]at he
   simp only[go_sem,r0,r5,d4];refine⟨ad4,?_⟩;simp only[go_sem,Option.isSome_none,Option.isSome_some,mq,Int.toNat_natCast];refine⟨ad4,ad4,?_⟩;refine(SR _ _).mono fun x h2 hx=>?_
   obtain⟨⟨v,rfl,hv⟩,rfl⟩:=hx;rw[←hdr]at he;cases e5:tW (s.drop i)with
   |none=>
    rw[e5]at he;simp only[go_sem,Option.isSome_none];exact ajB
   |some b=>
    rw[e5]at he;have hvb:=hv b e5;subst hvb;have h3:=D9 e5;simp only[List.length_drop]at h3;simp only[go_sem,r4,Option.isSome_some];refine hy.app (zs:=[aN b]) ad9 ad9 (fun k hk=>hk) (by grind [u5z,nD]) (by rw[u5z];exact nD [b]) (by grind [u5b]) fun y' h2 hy' hk2=>?_
    simp only[go_sem,r5,w3];refine⟨_,?_,i+3,f,y',out++ [b],ad5,ad5,rfl,ad4,ad4,?_,?_,?_,?_⟩
    ·omega
    ·simp_all
    all_goals simp only[go_sem,r0]
end Go.Proofs.YtbbadggejjgihaaGreatDoor
namespace Go.Bf
open Go Go.Ab
theorem HA(c:UInt8):dgt c=true↔48≤c.toNat∧c.toNat≤57:=by
 simp only[dgt,Bool.and_eq_true,decide_eq_true_eq];omega
def Jc(acc:Nat)(l:Txt):Nat:=l.foldl (fun n c=>n*10+(c.toNat - 48)) acc
theorem AJ(acc:Nat)(c:UInt8)(r:Txt):Jc acc (c::r)=Jc (acc*10+(c.toNat - 48)) r:=List.foldl_cons ..
theorem Da:∀(l:Txt) (acc:Nat),acc≤Jc acc l
 | [],acc=>Nat.le_refl _
 |c::r,acc=>by rw[AJ];exact Nat.le_trans ad4 (Da r (acc*10+(c.toNat - 48)))
theorem uc:∀(l:Txt) (acc:Nat),(∀c∈l,dgt c=true)→acc<18446744073709551616→
  Lib.parseUint10 acc l=if Jc acc l<18446744073709551616 then .ok (Jc acc l)else .range
 | [],acc,_,ha=>by
  have:Jc acc []=acc:=rfl;rw[this,if_pos ha];rfl
 |c::r,acc,hd,ha=>by
  have hc:=(HA c).1 (hd c aec);have hm:=Da r (acc*10+(c.toNat - 48));rw[AJ];unfold Lib.parseUint10;rw[if_pos hc];split
  ·rw[if_neg ad4]
  ·split
   ·rw[if_neg ad4]
   ·exact uc r _ ad5 ad4
def qf(neg:Bool):Txt:=if neg then [45]else []
theorem vM(neg:Bool)(d:Txt)(h0:d≠ [])(hd:∀c∈d,dgt c=true):
  Lib.atoiAll (qf neg++d)=if -9223372036854775808≤(if neg then -(mu d:Int)else(mu d:Int))∧(if neg then -(mu d:Int)else(mu d:Int))≤9223372036854775807 then .ok (if neg then -(mu d:Int)else(mu d:Int))else .range:=by
 have hp:Lib.parseMag d=if mu d<18446744073709551616 then .ok (mu d)else .range:=by
  unfold Lib.parseMag;rw[if_neg h0];exact uc d 0 hd ad9
 cases neg
 ·obtain⟨c,r,rfl⟩:=List.exists_cons_of_ne_nil h0
  have hc:=(HA c).1 (hd c aec);simp only[qf,Bool.false_eq_true,if_false,List.nil_append,Lib.atoiAll];rw[if_neg ad4,hp];have e45:(c.toNat=45)=False:=ad5;simp only[e45,not_false_eq_true,true_and,false_and,if_false];split
  ·rename_i h;split at h
   ·cases h
   ·cases h
  ·rename_i h;split at h
   ·cases h
   ·rw[if_neg ad4]
  ·rename_i u h;split at h
   ·cases h
    split
    ·rw[if_neg ad4]
    ·rw[if_pos ad4]
   ·cases h
 ·simp only[qf,if_true,List.cons_append,List.nil_append,Lib.atoiAll]
  rw[if_pos (.inr ad9),hp];simp only[show((45:UInt8).toNat=45)=True by simp,not_true_eq_false,false_and,if_false,true_and,if_true]
  split
  ·rename_i h;split at h
   ·cases h
   ·cases h
  ·rename_i h;split at h
   ·cases h
   ·rw[if_neg ad4]
  ·rename_i u h;split at h
   ·cases h
    split
    ·rw[if_neg ad4]
    ·rw[if_pos ad4]
   ·cases h
theorem Aq(s:Txt):∀c∈s.takeWhile dgt,dgt c=true:=fun c hc=>by
 induction s with
 |nil=>cases hc
 |cons x r ih=>
  simp only[List.takeWhile_cons]at hc
  grind
end Go.Bf
namespace Go.Proofs
open Go.Shelf
def Tryz.DP:Go.Shelf.Ren:=⟨fun|137=>191|217=>232|266=>264|n=>n,fun|9=>9|5=>5|3=>3|n=>n,fun|n=>n⟩
theorem Tryz.HY:Go.Proofs.Lays.n137 Tryz.prog Tryz.DP:={
 mixed:=aek
 f137:=Tryz.func191.trans aek
 f217:=Tryz.func232.trans aek
 f266:=Tryz.func264.trans aek
 t3:=Tryz.underlying3
 a3:=Tryz.isAgg3
 z3:=Tryz.sizeOf3
 v3:=Tryz.zeroValue3
 t5:=Tryz.underlying5
 a5:=Tryz.isAgg5
 z5:=Tryz.sizeOf5
 v5:=Tryz.zeroValue5
 t9:=Tryz.underlying9
 a9:=Tryz.isAgg9
 z9:=Tryz.sizeOf9
 v9:=Tryz.zeroValue9}
open Go.RowKit in
theorem Tryz.strings_IndexByte(s:ByteArray)(c:Int)(w:World):
  Calls Tryz.prog 191 #[.string s,.int .u8 c] w fun e w' =>e= .returned (.int .i64 (Lib.indexByte s.data.toList c.toNat.toUInt8))∧w' =w:=Any.strings_IndexByte Tryz.HY s c w
def Tryz.Cj:Go.Shelf.Ren:=⟨fun|172=>95|244=>151|245=>152|247=>201|279=>202|280=>203|281=>204|282=>205|287=>242|316=>243|171=>63|205=>244|321=>270|322=>271|243=>127|246=>173|283=>222|284=>223|285=>224|286=>225|129=>258|317=>257|318=>259|319=>260|320=>261|337=>285|338=>286|n=>n,fun|9=>9|3=>3|75=>188|76=>189|4=>4|5=>5|167=>287|37=>77|0=>0|85=>288|2=>2|168=>290|53=>60|175=>325|46=>221|210=>328|127=>314|145=>366|143=>364|21=>21|171=>309|173=>312|212=>346|51=>147|20=>20|213=>347|232=>398|233=>399|80=>238|n=>n,fun|15=>1|16=>2|17=>3|18=>4|19=>5|n=>n⟩
theorem Tryz.DR:Go.Proofs.LaysC.n172 Tryz.prog Tryz.Cj:={
 mixed:=aek
 f129:=Tryz.func258.trans aek
 f171:=Tryz.func63.trans aek
 f172:=Tryz.func95.trans aek
 f205:=Tryz.func244.trans aek
 f243:=Tryz.func127.trans aek
 f244:=Tryz.func151.trans aek
 f245:=Tryz.func152.trans aek
 f246:=Tryz.func173.trans aek
 f247:=Tryz.func201.trans aek
 f279:=Tryz.func202.trans aek
 f280:=Tryz.func203.trans aek
 f281:=Tryz.func204.trans aek
 f282:=Tryz.func205.trans aek
 f283:=Tryz.func222.trans aek
 f284:=Tryz.func223.trans aek
 f285:=Tryz.func224.trans aek
 f286:=Tryz.func225.trans aek
 f287:=Tryz.func242.trans aek
 f316:=Tryz.func243.trans aek
 f317:=Tryz.func257.trans aek
 f318:=Tryz.func259.trans aek
 f319:=Tryz.func260.trans aek
 f320:=Tryz.func261.trans aek
 f321:=Tryz.func270.trans aek
 f322:=Tryz.func271.trans aek
 f337:=Tryz.func285.trans aek
 f338:=Tryz.func286.trans aek
 t0:=Tryz.underlying0
 a0:=Tryz.isAgg0
 z0:=Tryz.sizeOf0
 v0:=Tryz.zeroValue0
 t2:=Tryz.underlying2
 a2:=Tryz.isAgg2
 z2:=Tryz.sizeOf2
 v2:=Tryz.zeroValue2
 t3:=Tryz.underlying3
 a3:=Tryz.isAgg3
 z3:=Tryz.sizeOf3
 v3:=Tryz.zeroValue3
 t4:=Tryz.underlying4
 a4:=Tryz.isAgg4
 z4:=Tryz.sizeOf4
 v4:=Tryz.zeroValue4
 t5:=Tryz.underlying5
 a5:=Tryz.isAgg5
 z5:=Tryz.sizeOf5
 v5:=Tryz.zeroValue5
 t9:=Tryz.underlying9
 a9:=Tryz.isAgg9
 z9:=Tryz.sizeOf9
 v9:=Tryz.zeroValue9
 t20:=Tryz.underlying20
 a20:=Tryz.isAgg20
 z20:=Tryz.sizeOf20
 v20:=Tryz.zeroValue20
 t21:=Tryz.underlying21
 a21:=Tryz.isAgg21
 z21:=Tryz.sizeOf21
 v21:=Tryz.zeroValue21
 t37:=Tryz.underlying77
 a37:=Tryz.isAgg77
 z37:=Tryz.sizeOf77
 v37:=Tryz.zeroValue77
 t46:=Tryz.underlying221
 a46:=Tryz.isAgg221
 z46:=Tryz.sizeOf221
 v46:=Tryz.zeroValue221
 t51:=Tryz.underlying147
 a51:=Tryz.isAgg147
 z51:=Tryz.sizeOf147
 v51:=Tryz.zeroValue147
 t53:=Tryz.underlying60
 a53:=Tryz.isAgg60
 z53:=Tryz.sizeOf60
 v53:=Tryz.zeroValue60
 t75:=Tryz.underlying188
 a75:=Tryz.isAgg188
 z75:=Tryz.sizeOf188
 v75:=Tryz.zeroValue188
 t76:=Tryz.underlying189
 a76:=Tryz.isAgg189
 z76:=Tryz.sizeOf189
 v76:=Tryz.zeroValue189
 t85:=Tryz.underlying288
 a85:=Tryz.isAgg288
 z85:=Tryz.sizeOf288
 v85:=Tryz.zeroValue288
 t127:=Tryz.underlying314
 a127:=Tryz.isAgg314
 z127:=Tryz.sizeOf314
 v127:=Tryz.zeroValue314
 t143:=Tryz.underlying364
 a143:=Tryz.isAgg364
 z143:=Tryz.sizeOf364
 v143:=Tryz.zeroValue364
 t145:=Tryz.underlying366
 a145:=Tryz.isAgg366
 z145:=Tryz.sizeOf366
 v145:=Tryz.zeroValue366
 t167:=Tryz.underlying287
 a167:=Tryz.isAgg287
 z167:=Tryz.sizeOf287
 v167:=Tryz.zeroValue287
 t168:=Tryz.underlying290
 a168:=Tryz.isAgg290
 z168:=Tryz.sizeOf290
 v168:=Tryz.zeroValue290
 t171:=Tryz.underlying309
 a171:=Tryz.isAgg309
 z171:=Tryz.sizeOf309
 v171:=Tryz.zeroValue309
 t173:=Tryz.underlying312
 a173:=Tryz.isAgg312
 z173:=Tryz.sizeOf312
 v173:=Tryz.zeroValue312
 t175:=Tryz.underlying325
 a175:=Tryz.isAgg325
 z175:=Tryz.sizeOf325
 v175:=Tryz.zeroValue325
 t210:=Tryz.underlying328
 a210:=Tryz.isAgg328
 z210:=Tryz.sizeOf328
 v210:=Tryz.zeroValue328
 t212:=Tryz.underlying346
 a212:=Tryz.isAgg346
 z212:=Tryz.sizeOf346
 v212:=Tryz.zeroValue346
 t213:=Tryz.underlying347
 a213:=Tryz.isAgg347
 z213:=Tryz.sizeOf347
 t232:=Tryz.underlying398
 a232:=Tryz.isAgg398
 z232:=Tryz.sizeOf398
 v232:=Tryz.zeroValue398
 t233:=Tryz.underlying399
 a233:=Tryz.isAgg399
 z233:=Tryz.sizeOf399
 v233:=Tryz.zeroValue399
 g15:=ad7
 g16:=ad7
 g17:=ad7
 g18:=ad7
 g19:=ad7
 t80:=Tryz.underlying238
 a80:=Tryz.isAgg238
 z80:=Tryz.sizeOf238
 v80:=Tryz.zeroValue238
 i0:=ad7
 i2:=ad7
 i3:=ad7
 i4:=ad7
 i5:=ad7
 i9:=ad7
 i20:=ad7
 i21:=ad7
 i37:=ad7
 i46:=ad7
 i51:=ad7
 i53:=ad7
 i75:=ad7
 i76:=ad7
 i80:=ad7
 i85:=ad7
 i127:=ad7
 i143:=ad7
 i145:=ad7
 i167:=ad7
 i168:=ad7
 i171:=ad7
 i173:=ad7
 i175:=ad7
 i210:=ad7
 i212:=ad7
 i232:=ad7
 i233:=ad7
 m15:=aek
 m16:=aek
 m17:=aek
 m18:=aek
 m19:=aek
 c0:=ad7
 c2:=ad7
 c3:=ad7
 c4:=ad7
 c5:=ad7
 c9:=ad7
 c20:=ad7
 c21:=ad7
 c37:=ad7
 c46:=ad7
 c51:=ad7
 c53:=ad7
 c75:=ad7
 c76:=ad7
 c80:=ad7
 c85:=ad7
 c127:=ad7
 c143:=ad7
 c145:=ad7
 c167:=ad7
 c168:=ad7
 c171:=ad7
 c173:=ad7
 c175:=ad7
 c210:=ad7
 c212:=ad7
 c213:=ad7
 c232:=ad7
 c233:=ad7}
open Go.RowKit in
theorem Tryz.strconv_Atoi_ok(s:ByteArray)(hmax:s.size≤9223372036854775806)(v:Int)(h:Lib.atoiAll s.data.toList= .ok v)(w:World):
  Calls Tryz.prog 95 #[.string s] w fun e w' =>e= .returned (.tuple #[.int .i64 v,.nilIface])∧(w' =w∨∃t,w' =Lib.bytesWorld w 5 t):=Any.strconv_Atoi_ok Tryz.DR s hmax v h w
open Go.RowKit in
theorem Tryz.strconv_Atoi_range(s:ByteArray)(hlim:s.size≤281474976710656)(h:Lib.atoiAll s.data.toList= .range)(ev:Value)(w:World)(hv:w.cell? ⟨2,0,none⟩=some ev)(hev:ev= .nilIface∨∃te pe,ev= .iface te pe):
  Calls Tryz.prog 95 #[.string s] w fun e w' =>∃N,e= .returned (.tuple #[.int .i64 (Lib.atoiSat s.data.toList),.iface 290 (.pointer (some ⟨N,0,none⟩))])∧w.heap.size≤N∧w'.heap[N]? =some (.cells #[.string ⟨#[65,116,111,105]⟩,.string s,ev] 328 (0,0))∧Below w.heap.size w w' :=Any.strconv_Atoi_range Tryz.DR s hlim h ev w hv hev
end Go.Proofs
namespace Go.Proofs.YtbbadggejjgihaaGreatDoor
open Go Go.Ab Go.Bf Go.RowKit
theorem Kr(s:Txt)(hs:s.length≤100000)(w:World):Calls Tryz.prog 228 #[.string ⟨s.toArray⟩,.func (.func 188) #[] #[]] w fun e w' =>e= .returned (.int .i64 (s.takeWhile dgt).length)∧Below w.heap.size w w' :=by
 refine Go.Ab.ai.calls (args:=[.s s,.fn 188 []]) ⟨_,Tryz.func228,aek,rfl⟩ ((Nw _ _ mV s cV).mono fun _ _ h=>h.1) rfl (fun i hi=>?_)
 rcases i with _|_|i
 ·exact .s s (by grind [lim,Nat])
 ·exact .fn _ [] #[] rfl (fun i hi=>by cases hi)
 ·simp at hi;omega
def Au(neg:Bool)(d:Txt):Int:=if neg then -(mu d:Int)else(mu d:Int)
def inI(neg:Bool)(d:Txt):Prop:= -9223372036854775808≤(if neg then -(mu d:Int)else(mu d:Int))∧(if neg then -(mu d:Int)else(mu d:Int))≤9223372036854775807
instance (neg:Bool) (d:Txt):Decidable (inI neg d):=inferInstanceAs (Decidable (_∧_))
theorem zz(neg:Bool):(qf neg).length≤1:=by cases neg<;>decide
theorem BY(neg:Bool)(d:Txt)(h0:d≠ [])(hd:∀c∈d,dgt c=true)(hlen:d.length≤10000)(S:ByteArray)(hS:S=⟨(qf neg++d).toArray⟩)(hr:inI neg d)(W:World):
  Calls Tryz.prog 95 #[.string S] W fun e w' =>e= .returned (.tuple #[.int .i64 (Au neg d),.nilIface])∧Below W.heap.size W w' :=by
 have hl:=zz neg;have hsz:S.size≤10001:=by grind [ByteArray.size]
 have ha:Lib.atoiAll S.data.toList= .ok (Au neg d):=by
  rw[hS];rw[vM neg d h0 hd];exact if_pos hr
 refine(Tryz.strconv_Atoi_ok S ad4 _ ha W).mono ?_
 rintro e w' ⟨rfl,rfl|⟨t,rfl⟩⟩
 ·exact⟨rfl,.refl _ _⟩
 ·exact⟨rfl,Lib.bytesWorld_below W _ t⟩
theorem CX(neg:Bool)(d:Txt)(h0:d≠ [])(hd:∀c∈d,dgt c=true)(hlen:d.length≤10000)(S:ByteArray)(hS:S=⟨(qf neg++d).toArray⟩)(hr:¬inI neg d)(W:World)(ev:Value)(hv:W.cell? ⟨2,0,none⟩=some ev)(hev:ev= .nilIface∨∃te pe,ev= .iface te pe):
  Calls Tryz.prog 95 #[.string S] W fun e w' =>(∃(x:Int) (N:Nat),e= .returned (.tuple #[.int .i64 x,.iface 290 (.pointer (some ⟨N,0,none⟩))]))∧Below W.heap.size W w' :=by
 have hl:=zz neg;have hsz:S.size≤10001:=by grind [ByteArray.size]
 have ha:Lib.atoiAll S.data.toList= .range:=by
  rw[hS];rw[vM neg d h0 hd];exact if_neg hr
 refine(Tryz.strconv_Atoi_range S ad4 ha ev W hv hev).mono ?_
 grind
set_option maxHeartbeats 1000000 in
theorem D8(neg:Bool)(s:Txt)(hs:s.length≤10000)(w:World)(ev:Value)(hv:w.cell? ⟨2,0,none⟩=some ev)(hev:ev= .nilIface∨∃te pe,ev= .iface te pe)(hg:2<w.heap.size):
  Calls Tryz.prog 189 #[.string ⟨(qf neg).toArray⟩,.string ⟨s.toArray⟩] w fun e w' =>e= .returned (.tuple #[.int .i64 (eS neg s).1,.int .i64 ((eS neg s).2:Nat)])∧Below w.heap.size w w' :=by
 have hle:=kC dgt s;obtain⟨d,ed⟩:∃d,s.takeWhile dgt=d:=⟨_,rfl⟩;have htk:s.take d.length=d:=by grind [rA]
 have hrun:=Kr s ad4 w;have hall:=Aq s;rw[ed]at hrun hle hall
 go_enter Tryz.func189,Tryz.ntmps189
 by_cases h0:d.length=0
 ·have e0:d= []:=by grind
  have en:eS neg s=(0,0):=by simp_all [eS,if_pos]
  go_wp2_with (go_at_call 228;refine hrun.mono ?_)
  rintro e W0 ⟨rfl,b0⟩
  rw[h0]
  go_wp2
  go_ret2
  simp_all
 ·have e0:d≠ []:=by grind
  go_wp2_with (go_at_call 228;refine hrun.mono ?_)
  rintro e W0 ⟨rfl,b0⟩
  have hpos:0<d.length:=ad4;have hs0:0<s.length:=ad4;have hsz:0<(⟨s.toArray⟩:ByteArray).size:=by grind [ByteArray.size]
  have hg0:(⟨s.toArray⟩:ByteArray)[0]=s[0]:=rfl;have hgn:∀x:UInt8,(s.head? =some x)↔s[0]=x:=fun x=>by
   rw[List.head?_eq_getElem?,List.getElem?_eq_getElem hs0];simp
  cases d0:((d.length:Int)==0)
  case true=>exact absurd ad5 h0
  have hS:(⟨(qf neg).toArray⟩:ByteArray)++(⟨s.toArray⟩:ByteArray).extract 0 d.length=⟨(qf neg++d).toArray⟩:=by
   apply ByteArray.ext
   simp_all
  have hcat:¬9223372036854775807<List.length (qf neg)+d.length:=by grind [zz]
  cases d1:decide (1<(d.length:Int))
  ·have f1:¬1<d.length:=by grind
   have en:eS neg s=if inI neg d then(Au neg d,d.length)else(0,0):=by
    unfold eS;rw[ed,if_neg ad5];rfl
   have hv0:W0.cell? ⟨2,0,none⟩=some ev:=by rw[b0.cell hg];omega
   by_cases hr:inI neg d
   ·rw[if_pos hr]at en
    go_wp2_with (go_at_call 95;refine(BY neg d e0 hall ad4 _ aek hr _).mono ?_)
    rintro e W1 ⟨rfl,b1⟩
    go_wp2
    go_ret2
    rw[en];exact afR
   ·rw[if_neg hr]at en
    go_wp2_with (go_at_call 95;refine(CX neg d e0 hall ad4 _ aek hr _ ev hv0 hev).mono ?_)
    rintro e W1 ⟨⟨x,N,rfl⟩,b1⟩
    go_wp2
    go_ret2
    rw[en];exact afR
  ·have f1:1<d.length:=by grind
   cases d2:((s[0].toNat:Int)==48)
   ·have f2:s.head?≠some 48:=by
     rw[ne_eq,hgn];intro e;simp_all
    have en:eS neg s=if inI neg d then(Au neg d,d.length)else(0,0):=by
     unfold eS;rw[ed,if_neg ad5];rfl
    have hv0:W0.cell? ⟨2,0,none⟩=some ev:=by rw[b0.cell hg];omega
    by_cases hr:inI neg d
    ·rw[if_pos hr]at en
     go_wp2_with (go_at_call 95;refine(BY neg d e0 hall ad4 _ aek hr _).mono ?_)
     rintro e W1 ⟨rfl,b1⟩
     go_wp2
     go_ret2
     rw[en];exact afR
    ·rw[if_neg hr]at en
     go_wp2_with (go_at_call 95;refine(CX neg d e0 hall ad4 _ aek hr _ ev hv0 hev).mono ?_)
     rintro e W1 ⟨⟨x,N,rfl⟩,b1⟩
     go_wp2
     go_ret2
     rw[en];exact afR
   ·have f2:s.head? =some 48:=by
     rw[hgn];have:(s[0].toNat:Int)=48:=ad5;exact UInt8.toNat_inj.1 ad5
    have en:eS neg s=(0,0):=by simp_all [eS,if_pos]
    go_wp2
    go_ret2
    simp_all
def iO(h:Heap):Prop:=∃ev:Value,(ev= .nilIface∨∃te pe,ev= .iface te pe)∧Tab h 2 [ev]
theorem iO.sub{h h' :Heap}(he:iO h)(hs:Ab.Sub h h'):iO h' :=by
 obtain⟨ev,h1,h2⟩:=he;exact⟨ev,h1,h2.sub hs⟩
theorem mH(neg:Bool)(s:Txt)(hs:s.length≤10000)(h:Heap)(he:iO h):ai Tryz.prog 189 [.s (qf neg),.s s] h fun r h' =>r= .tup [.v (.int .i64 (eS neg s).1),.i ((eS neg s).2:Nat)]∧h' =h:=by
 obtain⟨ev,hev,id,hi⟩:=he;refine .lib ⟨_,Tryz.func189,aek,rfl⟩ fun c vs hs' g h1 h2=>?_
 obtain⟨u,v,rfl⟩:∃u v,vs= #[u,v]:=by
  match vs,h1 with
  |⟨[u,v]⟩,_=>exact⟨u,v,rfl⟩
 have e1:u= .string ⟨(qf neg).toArray⟩:=((h2 0 aec).lN).1;have e2:v= .string ⟨s.toArray⟩:=((h2 1 aec).lN).1;subst e1;subst e2
 obtain⟨_,t,fr,hh⟩:=g.ro id _ _ (hs' _ _ hi);have hc:c.w.cell? ⟨2,0,none⟩=some ev:=by grind [World.cell?]
 refine(D8 neg s hs c.w ev hc hev (cY hh)).mono ?_;exact ajd
end Go.Proofs.YtbbadggejjgihaaGreatDoor
namespace Go.Bf
open Go Go.Ab
def marks:Txt:=[123,125,40,41,46,44,59,61,60,62,33]
theorem z8:∀n:Fin 256,decide (0≤Lib.indexByte marks (UInt8.ofNat n.val))=DY (UInt8.ofNat n.val):=ad9
theorem rJ(c:UInt8):decide (0≤Lib.indexByte marks c)=DY c:=by
 have:=z8 ⟨c.toNat,c.toNat_lt⟩;simpa using this
end Go.Bf
namespace Go.Proofs.YtbbadggejjgihaaGreatDoor
open Go Go.Ab Go.Bf
theorem DG(l:Txt)(c:UInt8)(h:Heap):ai Tryz.prog 191 [.s l,.v (.int .u8 c.toNat)] h fun r h' =>r= .i (Lib.indexByte l c)∧h' =h:=by
 refine .lib ⟨_,Tryz.func191,aek,rfl⟩ fun cx vs hs' g h1 h2=>?_
 obtain⟨u,v,rfl⟩:∃u v,vs= #[u,v]:=by
  match vs,h1 with
  |⟨[u,v]⟩,_=>exact⟨u,v,rfl⟩
 have e1:u= .string ⟨l.toArray⟩:=((h2 0 aec).lN).1;have e2:v= .int .u8 c.toNat:=(h2 1 aec).bR;subst e1;subst e2
 refine(Tryz.strings_IndexByte ⟨l.toArray⟩ c.toNat cx.w).mono ?_;exact ajk
theorem IY(s:Txt)(h0:s≠ [])(hs:s.length≤4096)(h:Heap)(he:iO h):ai Tryz.prog 141 [.s s] h fun r h' =>r= .tup [fE (bN s).1,.i ((bN s).2:Nat)]∧h' =h:=by
 refine ad3 Tryz.func141 106 [.cell 2 181,.tmp 3] fun hwf=>?_
 obtain⟨c,r,rfl⟩:=List.exists_cons_of_ne_nil h0;have hsl:r.length≤4095:=by simpa using hs
 simp only[go_sem];intro i2 hi2;simp only[go_sem];intro i4 hi4;have n24:=aH hi4;have g2:∀(f:Heap) (x:Option Blk),upd f i4 x i2=f i2:=fun f x=>ag f x n24.symm
 have g4:∀(f:Heap) (x:Option Blk),upd f i2 x i4=f i4:=fun f x=>ag f x n24
 have hsub:Ab.Sub h (upd (upd h i2 (some (.obj [.i 0,.i 0,.i 0,.s []] 181))) i4 (some (.obj [.i 0,.i 0,.i 0,.s []] 181))):=(Sub.aj hi2).trans (.aj hi4);have he2:=he.sub hsub;have hi4h:h i4=none:=by rw[ag _ _ n24]at hi4;exact hi4
 simp only[go_sem];refine .at 0 aec ?_;cases la:decide (97≤(c.toNat:Int))
 ·have hl:ltr c=false:=by simp only[ltr,la,Bool.false_and]
  simp only[go_sem,aN,List.getElem_cons_zero,la];exact aik
 ·cases lb:decide ((c.toNat:Int)≤122)
  ·have hl:ltr c=false:=by simp only[ltr,lb,Bool.and_false]
   simp only[go_sem,aN,List.getElem_cons_zero,la,lb];exact aik
  ·have hl:ltr c=true:=by simp only[ltr,la,lb];rfl
   simp only[go_sem,aN,List.getElem_cons_zero,la,lb];refine(yW _ _).pthen ?_;simp only[go_sem,g2,ah];exact .mk _ (.refl _) ad6 ⟨by simp[bN,hl,fE,ax],rfl⟩
theorem Qd:(U 181).sz=4:=aek
theorem Wn:(U 181).bytes=40:=aek
theorem pV(l:List qi):Sized 4 (l.map fE):=fun z hz=>by
 obtain⟨c,_,rfl⟩:=List.mem_map.1 hz;rfl
def Gf:Lexed→AV
 |.bad e a=> .tup [.sl [] .no,.i e,.i a]
 |.ok l=> .tup [.sl (l.map fE) .no,.i 0,.i 0]
def K8(s:Txt)(h:Heap)(m:Nat)(ρ:Env)(h' :Heap):Prop:=
 ∃(i f:Nat) (y:AV) (out:List qi) (id:Nat),Acc U 181 h h' y (out.map fE)∧out.length≤i∧i≤s.length∧m=s.length - i∧s.length<f+i∧s.length≤4096∧h id=none∧(∃c0 c1 c2 c3,h' id=some (.obj [c0,c1,c2,c3] 181))∧qo f (s.drop i) i out=pF s∧lk ρ 0=some (.s s)∧lk ρ 5=some y∧lk ρ 6=some (.ptr id 0)∧lk ρ 7=some (.i i)
theorem xS(s:Txt)(h:Heap)(he:iO h):ai Tryz.prog 86 [.s s] h fun r h' =>r=Gf (pF s)∧h' =h:=by
 refine ai.of_wp hU Tryz.func86 rfl aek 52 rfl [.tmp 2,.tmp 3,.tmp 4] rfl (adT rfl) ?_;refine .one hU hm ?_;simp only[go_sem];refine WP.Nz hU hm 0 (K8 s h) rfl ?_ ?_
 ·rintro m ρ h' ⟨i,f,y,out,id,hy,hoi,hi,rfl,hf,hs,hid,⟨c0,c1,c2,c3,hob⟩,hl,r0,r5,r6,r7⟩
  refine .vc hU hm ?_;cases d1:((i:Int)==(s.length:Int))
  case true=>
   have e1:i=s.length:=ad5;subst e1;obtain⟨f,rfl⟩:∃g,f=g+1:=⟨f - 1,ad4⟩;rw[List.drop_length]at hl;simp only[qo]at hl;simp only[go_sem,r0,r5,r7,d1];refine hy.app (zs:=[fE ⟨7,s.length,0,[]⟩]) ad9 ad9 (fun k hk=>hk) (by grind [Qd,pV]) (by rw[Qd];exact pV [⟨7,s.length,0,[]⟩]) (by grind [Wn]) fun y' h2 hy' hk2=>?_
   simp only[go_sem];obtain⟨q,rfl⟩:=hy'.row;refine .mk _ (BH _ _ _ _) hy'.1 ⟨?_,rfl⟩
   grind [Gf]
  have e1:i≠s.length:=ad5;have hlt:i<s.length:=ad4;obtain⟨f,rfl⟩:∃g,f=g+1:=⟨f - 1,ad4⟩;have hdr:s.drop i=s[i]::s.drop (i+1):=aec;have w1:IntKind.i64.wrap ((i:Int)+1)=((i+1:Nat):Int):=aej;have hl2:=hl;rw[hdr]at hl2;simp only[qo]at hl2;rw[←hdr]at hl2;have blank:qx s[i]=true→∃m',m' <s.length - i∧True:=fun _=>⟨s.length - (i+1),ad4,trivial⟩
  cases d2:((s[i].toNat:Int)==32)
  case true=>
   have hb:qx s[i]=true:=by simp only[qx,d2,Bool.true_or]
   rw[if_pos hb]at hl2;simp only[go_sem,r0,r7,d1];refine .at i hlt ?_;simp only[go_sem,r7,aN,d2,w1];exact ajc
  cases d3:((s[i].toNat:Int)==10)
  case true=>
   have hb:qx s[i]=true:=by simp only[qx,d3,Bool.or_true]
   rw[if_pos hb]at hl2;simp only[go_sem,r0,r7,d1];refine .at i hlt ?_;simp only[go_sem,r0,r7,aN,d2];refine .at i hlt ?_;simp only[go_sem,r7,aN,d3,w1];exact ajc
  have hb:¬qx s[i]=true:=by grind [qx]
  rw[if_neg hb]at hl2;have hne:s.drop i≠ []:=fun e=>by have:=congrArg List.length e;simp at this;omega
  have hle:=sr (s.drop i) hne;have hdl:(s.drop i).length=s.length - i:=aec;have hbo:=fun hh eh=>IY (s.drop i) hne ad4 hh eh
  obtain⟨t,n,etn⟩:∃t n,bN (s.drop i)=(t,n):=⟨_,_,rfl⟩;rw[etn]at hbo hl2 hle;simp only[fE]at hbo hl2 hle;simp only[go_sem,r0,r7,d1];refine .at i hlt ?_;simp only[go_sem,r0,r7,aN,d2];refine .at i hlt ?_;simp only[go_sem,r0,r7,aN,d3,mq,Option.isSome_none,Option.isSome_some,Int.toNat_natCast];refine⟨ad4,ad4,ad4,?_⟩;refine(hbo _ (he.sub hy.1)).pthen ?_;cases d4:((n:Int)==0)
  case true=>
   have e4:n=0:=ad5;rw[if_pos e4]at hl2;simp only[go_sem,r6,r7,hob,d4];refine .mk _ (BH _ _ _ _) (hy.1.put hid _) ⟨?_,rfl⟩;rw[←hl2];rfl
  have e4:n≠0:=ad5;rw[if_neg e4]at hl2;have w2:IntKind.i64.wrap ((i:Int)+(n:Int))=((i+n:Nat):Int):=aej;simp only[go_sem,r5,r6,r7,hob,d4];refine(hy.put hid hob _).app (zs:=[fE {t with pos:=i}]) ad9 ad9 (fun k hk=>hk) (by grind [Qd,pV]) (by rw[Qd];exact pV [{t with pos:=i}]) (by grind [Wn]) fun y' h2 hy' hk2=>?_
  simp only[go_sem,r7,w2];refine⟨s.length - (i+n),ad4,i+n,f,y',out++ [{t with pos:=i}],id,ad5,ad5,ad4,rfl,ad4,hs,hid,⟨_,_,_,_,hk2 _ _ _ (ah ..)⟩,?_,?_,?_,?_,?_⟩
  ·grind [List.drop_drop]
  all_goals simp only[go_sem,r0,r6]
 ·intro nx
  cases d0:decide (4096<(s.length:Int))
  case true=>
   have e0:s.length>4096:=ad5;refine .one hU hm ?_;simp only[go_sem,d0];exact .mk (.tup [.sl [] .no,.i 6,.i 4096]) (fF (.tup [.sl [] .full,.i 6,.i 4096])) (.refl _) ⟨by rw[pF,if_pos e0];rfl,rfl⟩
  have e0:¬s.length>4096:=ad5;refine .one hU hm ?_;simp only[go_sem,d0];refine .one hU hm ?_;simp only[go_sem];refine .one hU hm ?_;simp only[go_sem];intro id hid;simp only[go_sem];refine .one hU hm ?_;simp only[go_sem];refine .one hU hm ?_;simp only[go_sem];refine nx (s.length - 0) _ _ ⟨0,s.length+1,_,[],id,.full (.aj hid),aec,ad4,rfl,ad4,ad4,hid,⟨_,_,_,_,ah ..⟩,by simp_all [pF,if_neg],?_,?_,?_,?_⟩<;>simp only[go_sem]
def PO(st:PS):Blk:=.obj [.sl (st.ts.map fE) .no,.i st.pos,.i st.rules,.i st.bad,.i st.place] 178
def PC(f:FuncId)(args:List AV)(st:PS)(R:AV)(st' :PS):Prop:=∀(h:Heap) (id:Nat),h id=some (PO st)→ai Tryz.prog f (.ptr id 0::args) h fun r h' =>r=R∧h' =upd h id (some (PO st'))
theorem PC.go{f:FuncId}{args:List AV}{st st' :PS}{R:AV}(hc:PC f args st R st'){h:Heap}{id:Nat}{Q:AV→Heap→Prop}(hid:h id=some (PO st))(k:Q R (upd h id (some (PO st')))):ai Tryz.prog f (.ptr id 0::args) h Q:=
 (hc h id hid).mono fun r h' ⟨e1,e2⟩=>agL
theorem bG{h:Heap}{id:Nat}{b:Option Blk}(e:h id=b):upd h id b=h:=by
 grind [ah,ag]
theorem rE(st:PS)(e p:Int):PC 91 [.i e,.i p] st (.tup []) (bI st e p):=fun h id hid=>by
 refine ad3 Tryz.func91 19 [] fun hwf=>?_
 have g:=hid;unfold PO at g;cases d1:(st.bad==0)
 ·have e1:st.bad≠0:=by grind
  simp only[go_sem,g,d1];exact .mk _ (.refl _) (.refl _) ⟨rfl,by rw[bI,if_neg e1,bG hid]⟩
 ·have e1:st.bad=0:=by grind
  simp only[go_sem,g,d1];exact .mk _ (.refl _) (.refl _) ⟨rfl,by rw[bI,if_pos e1];rfl⟩
theorem mz(st:PS)(hw:WfP st):PC 88 [] st (fE (aL st)) st:=fun h id hid=>by
 refine ad3 Tryz.func88 13 [.cell 2 181] fun hwf=>?_
 have g:=hid;unfold PO at g;simp only[go_sem];intro i2 hi2;have n2:id≠i2:=fun e=>ad5
 simp only[go_sem,g,ak,n2];refine⟨.of ad7,?_⟩;refine .at st.pos (by simpa using hw.1) aef ?_
 simp only[go_sem,adV,fE];refine .mk _ (.refl _) (.aj hi2) ⟨by rw[DD hw.1];rfl,(bG hid).symm⟩
theorem lP(st:PS)(hw:WfP st):PC 89 [] st (.tup []) (br st):=fun h id hid=>by
 refine ad3 Tryz.func89 7 [] fun hwf=>?_
 simp only[go_sem];refine(mz st hw).go hid ?_;rw[bG hid];simp only[go_sem,fE];refine(rE st 5 _).go hid ?_;exact aiT
theorem cQ(st:PS)(b:Bool)(hw:WfP st):PC 195 [.b b] st (.tup []) (bF st b):=fun h id hid=>by
 refine ad3 Tryz.func195 10 [] fun hwf=>?_
 cases b
 ·simp only[go_sem]
  exact agR
 simp only[go_sem];refine(mz st hw).go hid ?_;rw[bG hid];simp only[go_sem,fE];refine(rE st 6 _).go hid ?_;exact aiT
theorem tO(st:PS)(s:Txt)(hw:WfP st):PC 196 [.s s] st (.b (isD st s)) st:=fun h id hid=>by
 refine ad3 Tryz.func196 29 [.tmp 4] fun hwf=>?_
 have g:=hid;unfold PO at g;simp only[go_sem];refine(mz st hw).go hid ?_;rw[bG hid];simp only[go_sem,fE];intro i2 hi2;have n2:id≠i2:=fun e=>ad5
 cases d1:(st.bad==0)<;>cases d2:((aL st).s==s)<;>cases d3:((aL st).kind==1)<;>cases d4:((aL st).kind==6)
 all_goals
  simp only[go_sem,g,ak,n2,d1,d2,d3,d4];exact .mk _ (.refl _) (.aj hi2) ⟨by simp only[isD,d1,d2,d3,d4];rfl,rfl⟩
theorem kD(st:PS)(s:Txt)(hw:WfP st):PC 193 [.s s] st (.v (.bool (cq st s).1)) (cq st s).2:=fun h id hid=>by
 refine ad3 Tryz.func193 18 [.tmp 4] fun hwf=>?_
 have g:=hid;unfold PO at g;simp only[go_sem];refine(tO st s hw).go hid ?_;rw[bG hid];cases d1:isD st s
 ·have e:cq st s=(false,st):=by grind [cq]
  simp only[go_sem];exact .mk _ (.refl _) (.refl _) ⟨ahV,by grind [bG]⟩
 ·have e:cq st s=(true,bl st):=by grind [cq]
  have w1:IntKind.i64.wrap ((st.pos:Int)+1)=((st.pos+1:Nat):Int):=afL;simp only[go_sem,g,w1];exact .mk _ (.refl _) (.refl _) ⟨ahV,ahV⟩
theorem ld(st:PS)(s:Txt)(hw:WfP st):PC 145 [.s s] st (.tup []) (dX st s):=fun h id hid=>by
 refine ad3 Tryz.func145 10 [] fun hwf=>?_
 simp only[go_sem];refine(kD st s hw).go hid ?_;cases d1:isD st s
 ·have e:cq st s=(false,st):=by grind [cq]
  rw[e,bG hid];simp only[go_sem];refine(lP st hw).go hid ?_;exact ajM
 ·have e:cq st s=(true,bl st):=by grind [cq]
  rw[e];exact ajM
theorem ug(st:PS)(hw:WfP st):PC 143 [] st (.s (cp st).1) (cp st).2:=fun h id hid=>by
 refine ad3 Tryz.func143 25 [.tmp 2] fun hwf=>?_
 have g:=hid;unfold PO at g;have w1:IntKind.i64.wrap ((st.pos:Int)+1)=((st.pos+1:Nat):Int):=afL;simp only[go_sem];refine(mz st hw).go hid ?_;rw[bG hid];simp only[go_sem,fE];intro i2 hi2;have n2:id≠i2:=fun e=>ad5
 cases d1:((aL st).kind !=1)
 case true=>
  have e1:(aL st).kind≠1:=ad5;have en:cp st=([],br st):=by grind [cp]
  simp only[go_sem,d1];have hid2:upd h i2 (some (.obj [.v (.int .i64 (aL st).kind),.v (.int .i64 (aL st).pos),.v (.int .i64 (aL st).n),.s (aL st).s] 181)) id=some (PO st):=aeJ;refine(lP st hw).go hid2 ?_;have hb:(br st).bad≠0:=by
   grind [br,bI,Int]
  have d2:((br st).bad !=0)=true:=ad5;simp only[go_sem,PO,d2];exact .mk _ (.refl _) (Sub.both (.aj hi2) _ _) ⟨aeX,ad5⟩
 have e1:(aL st).kind=1:=ad5;cases d2:(st.bad !=0)
 case true=>
  have e2:st.bad≠0:=ad5;have en:cp st=([],st):=by grind [cp]
  simp only[go_sem,g,ak,n2,d1,d2];exact .mk _ (.refl _) (.aj hi2) ⟨aeX,by grind [bG]⟩
 have e2:st.bad=0:=ad5;have en:cp st=((aL st).s,bl st):=by grind [cp]
 simp only[go_sem,g,ak,n2,n2.symm,d1,d2,w1];exact .mk _ (.refl _) (Sub.both (.aj hi2) _ _) ⟨aeX,by rw[en];try rfl⟩
theorem PC.run{f:FuncId}{args:List AV}{st st' :PS}{R:AV}(hc:PC f args st R st'){G:Heap}{id:Nat}{Q:AV→Heap→Prop}(k:Q R (upd G id (some (PO st')))):ai Tryz.prog f (.ptr id 0::args) (upd G id (some (PO st))) Q:=
 hc.go (ah ..) (by rw[dZ];exact k)
theorem PC.of{f:FuncId}{args:List AV}{st st' :PS}{R:AV}(hk:∀(G:Heap) (id:Nat),ai Tryz.prog f (.ptr id 0::args) (upd G id (some (PO st))) fun r h' =>r=R∧h' =upd G id (some (PO st'))):PC f args st R st' :=fun h id hid=>by
 have:=hk h id;rw[bG hid]at this;exact aeN
theorem cw{α:Type}(f:Nat→α){i j:Nat}(x y:α)(h:i≠j):upd (upd f i x) j y=upd (upd f j y) i x:=by
 grind [ag,ah]
theorem Cf{s:Txt}:∀ {ws:List Txt} {i:Nat},vb s ws=some i→i<ws.length
 |w::r,i,h=>by
  simp only[vb]at h;split at h
  ·grind
  ·cases hr:vb s r with
   |none=>grind
   |some j=>rw[hr]at h;cases h;have:=Cf hr;simp;omega
theorem HS{s:Txt}:∀ {ws:List Txt} (i:Nat) (hi:i<ws.length),(∀j (hj:j<ws.length),j<i→ws[j]≠s)→ws[i]=s→vb s ws=some i
 |w::r,0,_,_,h=>by grind [vb]
 |w::r,i+1,hi,hb,h=>by
  have h0:=hb 0 aec ad4;simp only[List.getElem_cons_zero]at h0;simp only[vb,if_neg h0];rw[HS i ad5 ad5 ad5];rfl
theorem AZ{s:Txt}:∀ {ws:List Txt},(∀j (hj:j<ws.length),ws[j]≠s)→vb s ws=none
 | [],_=>rfl
 |w::r,hb=>by
  have h0:=hb 0 aec;simp only[List.getElem_cons_zero]at h0;simp only[vb,if_neg h0];rw[AZ (fun j hj=>by have:=hb (j+1) ad5;simpa using this)]
  rfl
def Sq(o:Option Nat):Int:=match o with
 |some i=>i
 |none=> -1
theorem JP(ws:List Txt)(q:Perm)(s:Txt)(hl:ws.length≤1000)(h:Heap):ai Tryz.prog 192 [.sl (ws.map AV.s) q,.s s] h fun r h' =>r= .i (Sq (vb s ws))∧h' =h:=by
 refine ad3 Tryz.func192 19 [.tmp 4] fun hwf=>?_
 simp only[go_sem,adU];refine .intro (fun m ρ h' =>h' =h∧∃i:Nat,i≤ws.length∧m=ws.length - i∧(∀j (hj:j<ws.length),j<i→ws[j]≠s)∧lk ρ 0=some (.sl (ws.map AV.s) q)∧lk ρ 1=some (.s s)∧lk ρ 7=some (.i ws.length)∧lk ρ 8=some (.i i)) ws.length ?_ ?_
 ·refine⟨rfl,0,ad4,rfl,fun j _ hj=>ad4,?_,?_,?_,?_⟩<;>simp only[go_sem]
 ·rintro m ρ h' ⟨rfl,i,hi,rfl,hc,r0,r1,r7,r8⟩
  simp only[go_sem,r7,r8];refine .intro (fun e=>?_) (fun e=>?_)
  ·have hlt:i<ws.length:=ad1 e
   have w1:IntKind.i64.wrap ((i:Int)+1)=((i+1:Nat):Int):=aej;simp only[go_sem,r0,r1,r8];refine .at i ad5 aef ?_;cases d1:(s==ws[i])
   ·have e1:ws[i]≠s:=by grind
    simp only[go_sem,r8,adV,d1,w1];refine⟨_,?_,rfl,i+1,ad4,rfl,fun j hj hji=>?_,?_,?_,?_,?_⟩
    ·omega
    ·grind
    all_goals simp only[go_sem,r0,r1,r7]
   ·have e1:ws[i]=s:=by grind
    simp only[go_sem,adV,d1];exact .same (.refl _) ⟨by rw[HS i hlt hc e1];rfl,rfl⟩
  ·have hge:i=ws.length:=by grind
   subst hge;simp only[go_sem];exact .same (.refl _) ⟨by rw[AZ fun j hj=>hc j hj hj];rfl,rfl⟩
theorem oC(st:PS)(ws:List Txt)(q:Perm)(hl:ws.length≤1000)(hw:WfP st):PC 142 [.sl (ws.map AV.s) q] st (.v (.int .i64 (bf st ws).1)) (bf st ws).2:=.of fun G id=>by
 refine ad3 Tryz.func142 28 [.tmp 4] fun hwf=>?_
 simp only[go_sem];refine(mz st hw).run ?_;simp only[go_sem,fE];intro i2 hi2;have n2:=aH hi2;have hG2:G i2=none:=aeJ;have c2:∀(f:Heap) (x y:Option Blk),upd (upd f id x) i2 y=upd (upd f i2 y) id x:=fun f x y=>cw f x y n2.symm
 cases d1:((aL st).kind==1)
 ·have e1:(aL st).kind≠1:=by grind
  have en:bf st ws=(0,br st):=by grind [bf]
  simp only[go_sem,c2,ak,n2,d1];exact aiQ
 have e1:(aL st).kind=1:=ad5;simp only[go_sem,c2,ak,n2,d1];refine(JP ws q _ hl _).pthen ?_;cases ei:vb (aL st).s ws with
 |none=>
  have en:bf st ws=(0,br st):=by grind [bf]
  have dm:decide ((0:Int)≤ -1)=false:=ad9;simp only[go_sem,Sq,dm];exact aiQ
 |some i=>
  have hil:=Cf ei;have d2:decide (0≤(i:Int))=true:=aec;have w1:IntKind.i64.wrap ((i:Int)+1)=((i:Int)+1):=aej;simp only[go_sem,Sq,d2,ak,n2];refine(kD st _ hw).run ?_;cases d3:(st.bad==0)
  ·have e3:st.bad≠0:=by grind
   have et:cq st (aL st).s=(false,st):=by grind [cq,isD]
   have en:bf st ws=(0,br st):=by grind [bf]
   rw[et];simp only[go_sem];exact aiQ
  ·have e3:st.bad=0:=by grind
   have et:cq st (aL st).s=(true,bl st):=by grind [cq,isD]
   have en:bf st ws=((i:Int)+1,bl st):=by grind [bf]
   rw[et];simp only[go_sem,w1];exact .mk _ (.refl _) (Sub.both (.aj hG2) _ _) ⟨aeX,by rw[en]⟩
theorem Lt(st:PS)(hw:WfP st):PC 287 [] st (CY (fX st).1) (fX st).2:=.of fun G id=>by
 have h1:=gK vO hw;have h2:=js [46] h1.1;have h3:=nw h2.1;refine ad3 Tryz.func287 17 [.cell 2 170] fun hwf=>?_
 simp only[go_sem];intro i2 hi2;have n2:=aH hi2;have hG2:G i2=none:=aeJ;have c2:∀(f:Heap) (x y:Option Blk),upd (upd f id x) i2 y=upd (upd f i2 y) id x:=fun f x y=>cw f x y n2.symm
 simp only[go_sem,c2];intro i3 hi3;have n3:=aH hi3;have hi3' :=hi3;rw[ag _ _ n3]at hi3';have n32:=aH hi3';have hG3:G i3=none:=aeJ;have c3:∀(f:Heap) (x y:Option Blk),upd (upd f id x) i3 y=upd (upd f i3 y) id x:=fun f x y=>cw f x y n3.symm
 have c23:∀(f:Heap) (x y:Option Blk),upd (upd f i3 x) i2 y=upd (upd f i2 y) i3 x:=fun f x y=>cw f x y n32
 have m32:¬i3=i2:=n32;have m23:¬i2=i3:=n32.symm;simp only[go_sem,c3];refine(oC st vO .full ad9 hw).run ?_;simp only[go_sem,c3,ak,n3];refine(ld _ [46] h1.1).run ?_;simp only[go_sem];refine(ug _ h2.1).run ?_;simp only[go_sem,c3,ak,n3];refine(kD _ [33] h3.1).run ?_;simp only[go_sem,c2,c3,c23,ak,n2,n3,m23];exact .mk _ (.refl _) (Sub.both aez _ _) ⟨rfl,rfl⟩
theorem uB(st:PS)(hw:WfP st):PC 288 [] st (aS (aD st).1) (aD st).2:=.of fun G id=>by
 refine ad3 Tryz.func288 56 [.cell 2 32] fun hwf=>?_
 have w1:IntKind.i64.wrap ((st.pos:Int)+1)=((st.pos+1:Nat):Int):=afL;simp only[go_sem];intro i2 hi2;have n2:=aH hi2;have hG2:G i2=none:=by rw[ag _ _ n2]at hi2;exact hi2
 have c2:∀(f:Heap) (x y:Option Blk),upd (upd f id x) i2 y=upd (upd f i2 y) id x:=fun f x y=>cw f x y n2.symm
 simp only[go_sem,c2];refine(mz st hw).run ?_;simp only[go_sem,fE];intro i3 hi3;have n3:=aH hi3;have hi3' :=hi3;rw[ag _ _ n3]at hi3';have n32:=aH hi3';have hG3:G i3=none:=by rw[ag _ _ n32]at hi3';exact hi3'
 have c3:∀(f:Heap) (x y:Option Blk),upd (upd f id x) i3 y=upd (upd f i3 y) id x:=fun f x y=>cw f x y n3.symm
 have c23:∀(f:Heap) (x y:Option Blk),upd (upd f i3 x) i2 y=upd (upd f i2 y) i3 x:=fun f x y=>cw f x y n32
 have m32:¬i3=i2:=n32;have m23:¬i2=i3:=n32.symm;simp only[go_sem,c3,ak,n3];intro i4 hi4;have n4:=aH hi4;have hi4' :=hi4;rw[ag _ _ n4]at hi4';have n43:=aH hi4';have hi4'' :=hi4';rw[ag _ _ n43]at hi4'';have n42:=aH hi4'';have hG4:G i4=none:=by rw[ag _ _ n42]at hi4'';exact hi4''
 have c4:∀(f:Heap) (x y:Option Blk),upd (upd f id x) i4 y=upd (upd f i4 y) id x:=fun f x y=>cw f x y n4.symm
 have c24:∀(f:Heap) (x y:Option Blk),upd (upd f i4 x) i2 y=upd (upd f i2 y) i4 x:=fun f x y=>cw f x y n42
 have c34:∀(f:Heap) (x y:Option Blk),upd (upd f i4 x) i3 y=upd (upd f i3 y) i4 x:=fun f x y=>cw f x y n43
 have m42:¬i4=i2:=n42;have m24:¬i2=i4:=n42.symm;have m43:¬i4=i3:=n43;have m34:¬i3=i4:=n43.symm;cases k2:((aL st).kind==2)
 case true=>
  have e2:(aL st).kind=2:=by simpa using k2
  have ev:fW st=(⟨2,(aL st).n,(aL st).s⟩,st):=by simp[fW,e2]
  cases kb:(st.bad !=0)
  ·have eb:st.bad=0:=by simpa using kb
   have en:aD st=(⟨2,(aL st).n,(aL st).s⟩,bl st):=afu;simp only[go_sem,c2,c4,c23,c24,ak,n2,n3,n4,m23,m24,m34,k2,PO,kb,w1];exact aiq
  ·have eb:st.bad≠0:=by simpa using kb
   have en:aD st=(⟨0,0,[]⟩,st):=afu;simp only[go_sem,c2,c4,c23,c24,ak,n2,n3,n4,m23,m24,m34,k2,PO,kb];exact aiq
 have e2:(aL st).kind≠2:=by simpa using k2
 cases k3:((aL st).kind==3)
 case true=>
  have e3:(aL st).kind=3:=by simpa using k3
  have ev:fW st=(⟨4,(aL st).n,(aL st).s⟩,st):=by simp[fW,e3]
  cases kb:(st.bad !=0)
  ·have eb:st.bad=0:=by simpa using kb
   have en:aD st=(⟨4,(aL st).n,(aL st).s⟩,bl st):=afu;simp only[go_sem,c2,c4,c23,c24,ak,n2,n3,n4,m23,m24,m34,k2,k3,PO,kb,w1];exact aiq
  ·have eb:st.bad≠0:=by simpa using kb
   have en:aD st=(⟨0,0,[]⟩,st):=afu;simp only[go_sem,c2,c4,c23,c24,ak,n2,n3,n4,m23,m24,m34,k2,k3,PO,kb];exact aiq
 have e3:(aL st).kind≠3:=by simpa using k3
 cases k4:((aL st).kind==4)
 case true=>
  have e4:(aL st).kind=4:=by simpa using k4
  have ev:fW st=(⟨5,(aL st).n,(aL st).s⟩,st):=by simp[fW,e4]
  cases kb:(st.bad !=0)
  ·have eb:st.bad=0:=by simpa using kb
   have en:aD st=(⟨5,(aL st).n,(aL st).s⟩,bl st):=afu;simp only[go_sem,c2,c4,c23,c24,ak,n2,n3,n4,m23,m24,m34,k2,k3,k4,PO,kb,w1];exact aiq
  ·have eb:st.bad≠0:=by simpa using kb
   have en:aD st=(⟨0,0,[]⟩,st):=afu;simp only[go_sem,c2,c4,c23,c24,ak,n2,n3,n4,m23,m24,m34,k2,k3,k4,PO,kb];exact aiq
 have e4:(aL st).kind≠4:=by simpa using k4
 cases k5:((aL st).kind==5)
 case true=>
  have e5:(aL st).kind=5:=by simpa using k5
  have ev:fW st=(⟨3,(aL st).n,(aL st).s⟩,st):=by simp[fW,e5]
  cases kb:(st.bad !=0)
  ·have eb:st.bad=0:=by simpa using kb
   have en:aD st=(⟨3,(aL st).n,(aL st).s⟩,bl st):=afu;simp only[go_sem,c2,c4,c23,c24,ak,n2,n3,n4,m23,m24,m34,k2,k3,k4,k5,PO,kb,w1];exact aiq
  ·have eb:st.bad≠0:=by simpa using kb
   have en:aD st=(⟨0,0,[]⟩,st):=afu;simp only[go_sem,c2,c4,c23,c24,ak,n2,n3,n4,m23,m24,m34,k2,k3,k4,k5,PO,kb];exact aiq
 have e5:(aL st).kind≠5:=by simpa using k5
 simp only[go_sem,c4,ak,n3,n4,m34,k2,k3,k4,k5];refine(tO st wR hw).run ?_;cases kt:isD st wR
 case true=>
  have ev:fW st=(⟨1,1,[]⟩,st):=by simp[fW,e2,e3,e4,e5,kt]
  cases kb:(st.bad !=0)
  ·have eb:st.bad=0:=by simpa using kb
   have en:aD st=(⟨1,1,[]⟩,bl st):=afu;simp only[go_sem,c2,c4,c23,c24,ak,n2,n4,m23,m24,PO,kb,w1];exact aiq
  ·have eb:st.bad≠0:=by simpa using kb
   have en:aD st=(⟨0,0,[]⟩,st):=afu;simp only[go_sem,c2,c4,c23,c24,ak,n2,n4,m23,m24,PO,kb];exact aiq
 simp only[go_sem];refine(tO st qJ hw).run ?_;cases kf:isD st qJ
 case true=>
  have ev:fW st=(⟨1,0,[]⟩,st):=by simp[fW,e2,e3,e4,e5,kt,kf]
  cases kb:(st.bad !=0)
  ·have eb:st.bad=0:=by simpa using kb
   have en:aD st=(⟨1,0,[]⟩,bl st):=afu;simp only[go_sem,c2,c4,c23,c24,ak,n2,n4,m23,m24,PO,kb,w1];exact aiq
  ·have eb:st.bad≠0:=by simpa using kb
   have en:aD st=(⟨0,0,[]⟩,st):=afu;simp only[go_sem,c2,c4,c23,c24,ak,n2,n4,m23,m24,PO,kb];exact aiq
 have ev:fW st=(⟨0,(aL st).n,(aL st).s⟩,br st):=by simp[fW,e2,e3,e4,e5,kt,kf]
 have en:aD st=(⟨0,0,[]⟩,br st):=by simp[aD,ev,rR]
 have kb:((br st).bad !=0)=true:=by simpa using rR st
 simp only[go_sem];refine(lP st hw).run ?_;simp only[go_sem,c2,c23,c24,ak,n2,m23,m24,PO,kb];exact aiq
def tY:List Txt:=[[61],[60],[62]]
theorem SS{st:PS}(i:Nat)(hi:i<tY.length)(hb:∀j (hj:j<tY.length),j<i→isD st tY[j]=false)(h:isD st tY[i]=true):opP st=((i:Int)+1,bl st):=by
 have h3:i<3:=hi;rcases(by omega:i=0∨i=1∨i=2)with rfl|rfl|rfl
 ·simp only[opP,show isD st [61]=true from h,if_true];rfl
 ·simp only[opP,show isD st [61]=false from hb 0 ad9 ad9,show isD st [60]=true from h,if_true];rfl
 ·simp only[opP,show isD st [61]=false from hb 0 ad9 ad9,show isD st [60]=false from hb 1 ad9 ad9,show isD st [62]=true from h,if_true];rfl
theorem MV{st:PS}(hb:∀j (hj:j<tY.length),isD st tY[j]=false):opP st=(0,br st):=by
 simp only[opP,show isD st [61]=false from hb 0 ad9,show isD st [60]=false from hb 1 ad9,show isD st [62]=false from hb 2 ad9];rfl
theorem H7(st:PS)(hw:WfP st):PC 265 [] st (cK (gH st).1) (gH st).2:=.of fun G id=>by
 have h1:=BQ hw;obtain⟨a,st1,e1⟩:∃a st1,fX st=(a,st1):=⟨_,_,rfl⟩;have hat:=Lt st hw;rw[e1]at h1 hat;simp only at h1 hat;refine ad3 Tryz.func265 32 [.cell 2 233] fun hwf=>?_
 simp only[go_sem];intro i2 hi2;have n2:=aH hi2;have hG2:G i2=none:=aeJ;have c2:∀(f:Heap) (x y:Option Blk),upd (upd f id x) i2 y=upd (upd f i2 y) id x:=fun f x y=>cw f x y n2.symm
 simp only[go_sem,c2];refine hat.run ?_;simp only[go_sem,CY];intro i3 hi3;have n3:=aH hi3;have hi3' :=hi3;rw[ag _ _ n3]at hi3';have n32:=aH hi3';have hG3:G i3=none:=aeJ;have c3:∀(f:Heap) (x y:Option Blk),upd (upd f id x) i3 y=upd (upd f i3 y) id x:=fun f x y=>cw f x y n3.symm
 have c23:∀(f:Heap) (x y:Option Blk),upd (upd f i3 x) i2 y=upd (upd f i2 y) i3 x:=fun f x y=>cw f x y n32
 have m32:¬i3=i2:=n32;have m23:¬i2=i3:=n32.symm;simp only[go_sem,c3,ak,n3];refine .intro (fun m ρ H=>H=upd (upd (upd G i2 (some (.obj [.i 0,.s [],.b false,.i 0,.i 0,.i 0,.s []] 233))) i3 (some (.obj [.i a.cat,.s a.name,.b a.must,.i 0,.i 0,.i 0,.s []] 233))) id (some (PO st1))∧
  ∃i:Nat,i≤3∧m=3 - i∧(∀j (hj:j<tY.length),j<i→isD st1 tY[j]=false)∧lk ρ 0=some (.ptr id 0)∧lk ρ 2=some (.ptr i2 0)∧lk ρ 3=some (.ptr i3 0)∧lk ρ 9=some (.sl (tY.map AV.s) .full)∧lk ρ 10=some (.i 3)∧lk ρ 11=some (.i i)) 3 ?_ ?_
 ·refine⟨rfl,0,ad4,rfl,fun j _ hj=>ad4,?_,?_,?_,?_,?_,?_⟩<;>simp only[go_sem]<;>rfl
 ·rintro m ρ H ⟨rfl,i,hi,rfl,hb,r0,r2,r3,r9,r10,r11⟩
  simp only[go_sem,r10,r11];refine .intro (fun e=>?_) (fun e=>?_)
  ·have hlt:i<3:=by grind
   have hlo:i<tY.length:=hlt;have w1:IntKind.i64.wrap ((i:Int)+1)=((i+1:Nat):Int):=aej;have w2:IntKind.i64.wrap (1+(i:Int))=((i:Int)+1):=ad5;simp only[go_sem,r9,r11];refine .at i ad5 aef ?_;simp only[go_sem,r0,adV];refine(kD st1 tY[i] h1.1).run ?_;cases d1:isD st1 tY[i]
   ·have et:cq st1 tY[i]=(false,st1):=by grind [cq]
    rw[et];simp only[go_sem,r11,w1];refine⟨_,?_,rfl,i+1,ad4,rfl,fun j hj hji=>?_,?_,?_,?_,?_,?_,?_⟩
    ·omega
    ·grind
    all_goals simp only[go_sem,r0,r2,r3,r9,r10]
   ·have et:cq st1 tY[i]=(true,bl st1):=by grind [cq]
    have eo:=SS i hlo hb d1;have h2:Ah st1 (bl st1):=eY h1.1 (dK d1);have en:gH st=(⟨a,(i:Int)+1,(aD (bl st1)).1⟩,(aD (bl st1)).2):=by grind [gH]
    have d2:(((i:Int)+1)==0)=false:=aek;rw[et];simp only[go_sem,c3,ak,n3,r0,r3,w2,d2];refine(uB (bl st1) h2.1).run ?_;exact ajh
  ·have hge:i=3:=by grind
   subst hge;have eo:=MV fun j hj=>hb j hj hj
   have h2:Ah st1 (br st1):=oA h1.1;have en:gH st=(⟨a,0,(aD (br st1)).1⟩,(aD (br st1)).2):=by grind [gH]
   simp only[go_sem,r0,r3,ak,n3];refine(lP st1 h1.1).run ?_;simp only[go_sem,r0];refine(uB (br st1) h2.1).run ?_;exact ajh
theorem To:(U 233).sz=7:=aek
theorem Wv:(U 233).bytes=72:=aek
theorem ID(l:List bO):Sized 7 (l.map cK):=fun z hz=>by
 obtain⟨c,_,rfl⟩:=List.mem_map.1 hz;rfl
theorem Tn:(U 234).sz=1:=aek
theorem Wt:(U 234).bytes=24:=aek
theorem IC(l:List (List bO)):Sized 1 (l.map ij):=fun z hz=>by
 obtain⟨c,_,rfl⟩:=List.mem_map.1 hz;rfl
theorem Tp:(U 230).sz=1:=aek
theorem Wx:(U 230).bytes=24:=aek
theorem IF(l:List (List (List bO))):Sized 1 (l.map cB):=fun z hz=>by
 obtain⟨c,_,rfl⟩:=List.mem_map.1 hz;rfl
theorem Qx(st:PS)(hw:WfP st):PC 233 [] st (ij (qj st).1) (qj st).2:=.of fun G id=>by
 have h1:=qt hw;have hm1:=H7 st hw;obtain⟨x0,st1,e1⟩:∃x0 st1,gH st=(x0,st1):=⟨_,_,rfl⟩;have ep:fR gH [44] 8 st.ts.length st1 [x0]=qj st:=by grind [qj]
 rw[e1]at h1 hm1;simp only[cK]at h1 hm1;refine ad3 Tryz.func233 20 [.tmp 2] fun hwf=>?_
 simp only[go_sem];refine hm1.run ?_;simp only[go_sem];have hB:upd G id none id=none:=ah ..;refine .intro (fun m ρ H=>∃(f:Nat) (st' :PS) (l:List _) (y:AV),H id=some (PO st')∧Acc U 233 (upd G id none) H y (l.map cK)∧Ah st1 st'∧fR gH [44] 8 f st' l=qj st∧st1.ts.length≤f+st'.pos∧l.length≤st'.pos+1∧m=st1.ts.length - st'.pos∧lk ρ 0=some (.ptr id 0)∧lk ρ 3=some y) (st1.ts.length - st1.pos) ?_ ?_
 ·refine⟨st.ts.length,st1,[x0],.sl ([x0].map cK) .full,ah ..,.full (base_start G id _),.refl h1.1,ep,by rw[h1.2.1];omega,aec,rfl,?_,?_⟩<;>simp only[go_sem]<;>rfl
 ·rintro m ρ H ⟨f,st',l,y,hH,hy,ha,hfin,hf,hll,rfl,r0,r3⟩
  have hlen:=ha.1.2.2;have hpos:=ha.1.1;have htl:=ha.2.1;simp only[go_sem,r0];refine(kD st' [44] ha.1).go hH ?_;cases d1:isD st' [44]
  ·have et:cq st' [44]=(false,st'):=by grind [cq]
   have ef:fR gH [44] 8 f st' l=(l,st'):=ahy;rw[et,bG hH];rw[ef]at hfin;simp only[go_sem,r3];exact .mk (h' :=upd G id (some (PO (qj st).2))) (ij l) hy.weak (by rw[←hfin];exact fu hy.1 hH) ⟨ad5,rfl⟩
  ·have et:cq st' [44]=(true,bl st'):=by grind [cq]
   obtain⟨g,rfl⟩:∃g,f=g+1:=⟨f - 1,ad5⟩;simp only[fR,d1,if_true]at hfin;have h2:=eY ha.1 (dK d1);have hone:=H7 (bl st') h2.1;have h3:=(fun _ h=>qt h:∀st,WfP st→Ah st (gH st).2) _ h2.1
   obtain⟨x,st2,e2⟩:∃x st2,gH (bl st')=(x,st2):=⟨_,_,rfl⟩;rw[e2]at hfin hone h3;simp only[cK]at hfin hone h3;have hdec:decide ((8:Int)<((l.length+1:Nat):Int))=decide (8<l.length+1):=by
    grind
   have h4:=lB (decide (8<l.length+1)) h3.1;have hnp:(bl st').pos=st'.pos+1:=rfl;have hp3:=h3.2.2;have hp4:=h4.2.2;rw[et];simp only[go_sem,r0,r3];refine hone.run ?_;simp only[go_sem];refine(hy.put hB hH _).app (zs:=[cK x]) (by grind [To]) (by grind [Wv]) (fun k hk=>hk) (by grind [To,ID]) (by rw[To];exact ID [x]) (by grind [Wv]) fun y' H2 hy' hk2=>?_
   exact aio
theorem Qy(st:PS)(hw:WfP st):PC 194 [] st (cB (rV st).1) (rV st).2:=.of fun G id=>by
 have h0:=js [40] hw;have h1:=BO h0.1;have hm1:=Qx _ h0.1;obtain⟨x0,st1,e1⟩:∃x0 st1,qj (dX st [40])=(x0,st1):=⟨_,_,rfl⟩;obtain⟨M,eM⟩:∃M,fR qj orT 8 st.ts.length st1 [x0]=M:=⟨_,rfl⟩;have epp:(M.1,dX M.2 [41])=rV st:=by grind [rV]
 rw[e1]at h1 hm1;simp only[ij]at h1 hm1;refine ad3 Tryz.func194 24 [.tmp 2] fun hwf=>?_
 simp only[go_sem];refine(ld st [40] hw).run ?_;simp only[go_sem];refine hm1.run ?_;simp only[go_sem];have hB:upd G id none id=none:=ah ..;refine .intro (fun m ρ H=>∃(f:Nat) (st' :PS) (l:List _) (y:AV),H id=some (PO st')∧Acc U 234 (upd G id none) H y (l.map ij)∧Ah st1 st'∧fR qj orT 8 f st' l=M∧st1.ts.length≤f+st'.pos∧l.length≤st'.pos+1∧m=st1.ts.length - st'.pos∧lk ρ 0=some (.ptr id 0)∧lk ρ 3=some y) (st1.ts.length - st1.pos) ?_ ?_
 ·refine⟨st.ts.length,st1,[x0],.sl ([x0].map ij) .full,ah ..,.full (base_start G id _),.refl h1.1,eM,by rw[h1.2.1,h0.2.1];omega,aec,rfl,?_,?_⟩<;>simp only[go_sem]<;>rfl
 ·rintro m ρ H ⟨f,st',l,y,hH,hy,ha,hfin,hf,hll,rfl,r0,r3⟩
  have hlen:=ha.1.2.2;have hpos:=ha.1.1;have htl:=ha.2.1;simp only[go_sem,r0];refine(kD st' orT ha.1).go hH ?_;cases d1:isD st' orT
  ·have et:cq st' orT=(false,st'):=by grind [cq]
   have ef:fR qj orT 8 f st' l=(l,st'):=ahy;rw[et,bG hH];rw[ef]at hfin;simp only[go_sem,r0];refine(ld st' [41] ha.1).go hH ?_;simp only[go_sem,r3];exact .mk (h' :=upd G id (some (PO (rV st).2))) (cB l) hy.weak (by rw[←epp,←hfin];exact fu (hy.1.put hB _) (ah ..)) ⟨ad5,rfl⟩
  ·have et:cq st' orT=(true,bl st'):=by grind [cq]
   obtain⟨g,rfl⟩:∃g,f=g+1:=⟨f - 1,ad5⟩;simp only[fR,d1,if_true]at hfin;have h2:=eY ha.1 (dK d1);have hone:=Qx (bl st') h2.1;have h3:=(fun _ h=>BO h:∀st,WfP st→Ah st (qj st).2) _ h2.1
   obtain⟨x,st2,e2⟩:∃x st2,qj (bl st')=(x,st2):=⟨_,_,rfl⟩;rw[e2]at hfin hone h3;simp only[ij]at hfin hone h3;have hdec:decide ((8:Int)<((l.length+1:Nat):Int))=decide (8<l.length+1):=by
    grind
   have h4:=lB (decide (8<l.length+1)) h3.1;have hnp:(bl st').pos=st'.pos+1:=rfl;have hp3:=h3.2.2;have hp4:=h4.2.2;rw[et];simp only[go_sem,r0,r3];refine hone.run ?_;simp only[go_sem];refine(hy.put hB hH _).app (zs:=[ij x]) (by grind [Tn]) (by grind [Wt]) (fun k hk=>hk) (by grind [Tn,IC]) (by rw[Tn];exact IC [x]) (by grind [Wt]) fun y' H2 hy' hk2=>?_
   exact aio
theorem Rc(st:PS)(hw:WfP st):PC 144 [] st (aW (gY st).1) (gY st).2:=.of fun G id=>by
 refine ad3 Tryz.func144 23 [.tmp 2] fun hwf=>?_
 simp only[go_sem];refine(kD st E2 hw).run ?_;cases d0:isD st E2
 ·have et:cq st E2=(false,st):=by grind [cq]
  have ep:gY st=([],st):=by grind [gY]
  rw[et];simp only[go_sem];exact .mk (h' :=upd G id (some (PO (gY st).2))) (aW []) (.sl _ _) (by rw[ep];exact .refl _) ⟨by rw[ep],rfl⟩
 have et:cq st E2=(true,bl st):=by grind [cq]
 have h0:=eY hw (dK d0);have h1:=BP h0.1;have hm1:=Qy _ h0.1;obtain⟨x0,st1,e1⟩:∃x0 st1,rV (bl st)=(x0,st1):=⟨_,_,rfl⟩;obtain⟨M,eM⟩:∃M,fR rV CU 8 st.ts.length st1 [x0]=M:=⟨_,rfl⟩;have ep:M=gY st:=by simp_all [gY,if_true]
 rw[e1]at h1 hm1;simp only[cB]at h1 hm1;rw[et];simp only[go_sem];refine hm1.run ?_;simp only[go_sem];have hB:upd G id none id=none:=ah ..;refine .intro (fun m ρ H=>∃(f:Nat) (st' :PS) (l:List _) (y:AV),H id=some (PO st')∧Acc U 230 (upd G id none) H y (l.map cB)∧Ah st1 st'∧fR rV CU 8 f st' l=M∧st1.ts.length≤f+st'.pos∧l.length≤st'.pos+1∧m=st1.ts.length - st'.pos∧lk ρ 0=some (.ptr id 0)∧lk ρ 3=some y) (st1.ts.length - st1.pos) ?_ ?_
 ·refine⟨st.ts.length,st1,[x0],.sl ([x0].map cB) .full,ah ..,.full (base_start G id _),.refl h1.1,eM,by rw[h1.2.1,h0.2.1];omega,aec,rfl,?_,?_⟩<;>simp only[go_sem]<;>rfl
 ·rintro m ρ H ⟨f,st',l,y,hH,hy,ha,hfin,hf,hll,rfl,r0,r3⟩
  have hlen:=ha.1.2.2;have hpos:=ha.1.1;have htl:=ha.2.1;simp only[go_sem,r0];refine(kD st' CU ha.1).go hH ?_;cases d1:isD st' CU
  ·have et:cq st' CU=(false,st'):=by grind [cq]
   have ef:fR rV CU 8 f st' l=(l,st'):=ahy;rw[et,bG hH];rw[ef]at hfin;simp only[go_sem,r3];exact .mk (h' :=upd G id (some (PO (gY st).2))) (aW l) hy.weak (by rw[←ep,←hfin];exact fu hy.1 hH) ⟨ad5,rfl⟩
  ·have et:cq st' CU=(true,bl st'):=by grind [cq]
   obtain⟨g,rfl⟩:∃g,f=g+1:=⟨f - 1,ad5⟩;simp only[fR,d1,if_true]at hfin;have h2:=eY ha.1 (dK d1);have hone:=Qy (bl st') h2.1;have h3:=(fun _ h=>BP h:∀st,WfP st→Ah st (rV st).2) _ h2.1
   obtain⟨x,st2,e2⟩:∃x st2,rV (bl st')=(x,st2):=⟨_,_,rfl⟩;rw[e2]at hfin hone h3;simp only[cB]at hfin hone h3;have hdec:decide ((8:Int)<((l.length+1:Nat):Int))=decide (8<l.length+1):=by
    grind
   have h4:=lB (decide (8<l.length+1)) h3.1;have hnp:(bl st').pos=st'.pos+1:=rfl;have hp3:=h3.2.2;have hp4:=h4.2.2;rw[et];simp only[go_sem,r0,r3];refine hone.run ?_;simp only[go_sem];refine(hy.put hB hH _).app (zs:=[cB x]) (by grind [Tp]) (by grind [Wx]) (fun k hk=>hk) (by grind [Tp,IF]) (by rw[Tp];exact IF [x]) (by grind [Wx]) fun y' H2 hy' hk2=>?_
   exact aio
theorem Ec(op:Int)(h:Heap):ai Tryz.prog 305 [.i op] h fun r h' =>r= .sl ((opers op).map jT) .no∧h' =h:=by
 refine ad3 Tryz.func305 15 [.tmp 2] fun hwf=>?_
 cases k3:(op==3)<;>cases k4:(op==4)<;>cases k5:(op==5)<;>cases k11:(op==11)
 all_goals
  simp only[go_sem,k3,k4,k5,k11];simp only[beq_iff_eq,beq_eq_false_iff_ne]at k3 k4 k5 k11;refine .mk _ (.sl _ _) (.refl _) ⟨?_,rfl⟩
  grind [opers,jT]
theorem Wy:(U 91).sz=3:=aek
theorem YW:(U 91).bytes=32:=aek
theorem IE(l:List cy):Sized 3 (l.map aY):=fun z hz=>by
 obtain⟨c,_,rfl⟩:=List.mem_map.1 hz;rfl
theorem tC(st:PS)(hw:WfP st):PC 148 [] st (ay (gz st).1) (gz st).2:=.of fun G id=>by
 obtain⟨M,eM⟩:∃M,gz st=M:=⟨_,rfl⟩;have eM2:fR Af wF 8 st.ts.length st []=M:=eM;refine ad3 Tryz.func148 28 [.tmp 2] fun hwf=>?_
 simp only[go_sem];have hB:upd G id none id=none:=ah ..;refine .intro (fun m ρ H=>∃(f:Nat) (st' :PS) (l:List cy) (y:AV),H id=some (PO st')∧Acc U 91 (upd G id none) H y (l.map aY)∧Ah st st'∧fR Af wF 8 f st' l=M∧st.ts.length≤f+st'.pos∧l.length≤st'.pos+1∧m=st.ts.length - st'.pos∧lk ρ 0=some (.ptr id 0)∧lk ρ 3=some y) (st.ts.length - st.pos) ?_ ?_
 ·refine⟨st.ts.length,st,[],.sl ([].map aY) .full,ah ..,.full (base_start G id _),.refl hw,eM2,ad4,aec,rfl,?_,?_⟩<;>simp only[go_sem]<;>rfl
 ·rintro m ρ H ⟨f,st',l,y,hH,hy,ha,hfin,hf,hll,rfl,r0,r3⟩
  have hlen:=ha.1.2.2;have hpos:=ha.1.1;have htl:=ha.2.1;simp only[go_sem,r0];refine(kD st' wF ha.1).go hH ?_;cases d1:isD st' wF
  ·have et:cq st' wF=(false,st'):=by grind [cq]
   have ef:fR Af wF 8 f st' l=(l,st'):=ahy;rw[et,bG hH];rw[ef]at hfin;simp only[go_sem,r3];exact .mk (h' :=upd G id (some (PO (gz st).2))) (ay l) hy.weak (by rw[eM,←hfin];exact fu hy.1 hH) ⟨ad5,rfl⟩
  ·have et:cq st' wF=(true,bl st'):=by grind [cq]
   obtain⟨g,rfl⟩:∃g,f=g+1:=⟨f - 1,ad5⟩;simp only[fR,d1,if_true]at hfin;have h2:=eY ha.1 (dK d1);have ho1:=gK vo h2.1;have ho2:=gK mP ho1.1;have ho3:=nw ho2.1;have h3:Ah (bl st') (Af (bl st')).2:=Lj h2.1;have hdec:decide ((8:Int)<((l.length+1:Nat):Int))=decide (8<l.length+1):=by
    grind
   have h4:=lB (decide (8<l.length+1)) h3.1;have hnp:(bl st').pos=st'.pos+1:=rfl;have hp3:=h3.2.2;have hp4:=h4.2.2;have eX:(Af (bl st'))=(⟨(bf (bl st') vo).1,(bf (bf (bl st') vo).2 mP).1,(cp (bf (bf (bl st') vo).2 mP).2).1⟩,(cp (bf (bf (bl st') vo).2 mP).2).2):=rfl;obtain⟨x,st2,e2⟩:∃x st2,Af (bl st')=(x,st2):=⟨_,_,rfl⟩;rw[et];simp only[go_sem];intro i4 hi4;have n4:=aH hi4;have hH4:H i4=none:=aeJ;have c4:∀(f:Heap) (x y:Option Blk),upd (upd f id x) i4 y=upd (upd f i4 y) id x:=fun f x y=>cw f x y n4.symm
   simp only[go_sem,r0,c4];refine(oC _ vo .full ad9 h2.1).run ?_;simp only[go_sem,r0,c4,ak,n4];refine(oC _ mP .full ad9 ho1.1).run ?_;simp only[go_sem,r0,c4,ak,n4];refine(ug _ ho2.1).run ?_;simp only[go_sem,r3,c4,ak,n4];rw[e2]at hfin h3 h4 hp3 hp4;simp only at hfin h3 h4 hp3 hp4;have ex1:x=(Af (bl st')).1:=by rw[e2]
   have ex2:st2=(cp (bf (bf (bl st') vo).2 mP).2).2:=by
    grind
   rw[←ex2];refine((hy.sub (Sub.aj (k:=_) hH4)).put hB (by rw[ag _ _ n4.symm];exact hH) _).app (zs:=[aY x]) ad9 ad9 (fun k hk=>by rw[ex1]at hk;exact hk) (by grind [Wy,IE]) (by rw[Wy];exact IE [x]) (by grind [YW]) fun y' H2 hy' hk2=>?_
   exact aio
theorem tc{U:TypeId→TI}{e:TypeId}{B B' H:Heap}{y:AV}{xs:List AV}(hs:Sub B B')(ha:Acc U e B' H y xs):Acc U e B H y xs:=by
 obtain⟨h1,rfl|⟨k,i1,rfl,i2⟩⟩:=ha
 ·exact⟨hs.trans h1,.inl rfl⟩
 ·refine⟨hs.trans h1,.inr ⟨k,?_,rfl,i2⟩⟩
  cases hk:B k with
  |none=>rfl
  |some b=>rw[hs _ _ hk]at i1;omega
theorem xN{U:TypeId→TI}{e:TypeId}{B H:Heap}{y:AV}{xs:List AV}(ha:Acc U e B H y xs){i:Nat}(hi:H i=none)(b:Option Blk):Acc U e (upd B i b) (upd H i b) y xs:=by
 obtain⟨h1,rfl|⟨k,i1,rfl,i2⟩⟩:=ha
 ·exact⟨h1.both _ _,.inl rfl⟩
 ·have hne:k≠i:=fun hh=>by subst hh;rw[hi]at i2;cases i2
  exact⟨h1.both _ _,.inr ⟨k,aeJ,rfl,aeJ⟩⟩
theorem ov{U:TypeId→TI}{e:TypeId}{G K:Heap}{id:Nat}{st:PS}{y:AV}{xs:List AV}(ha:Acc U e (upd G id none) (upd K id (some (PO st))) y xs)(st' :PS):Acc U e (upd G id none) (upd K id (some (PO st'))) y xs:=by
 have:=ha.put (id:=id) (ah ..) (cs:=_) (t:=_) (ah ..) (some (PO st'));rw[dZ]at this;exact aeN
def XC(f:FuncId)(args:List AV)(st:PS)(l:List aQ)(mk:AV→AV)(st' :PS)(l' :List aQ):Prop:=
 ∀(G K:Heap) (id:Nat) (y:AV),Acc U 172 (upd G id none) (upd K id (some (PO st))) y (l.map cF)→ai Tryz.prog f (.ptr id 0::y::args) (upd K id (some (PO st))) fun r h' =>∃y',r=mk y'∧h' id=some (PO st')∧Acc U 172 (upd G id none) h' y' (l'.map cF)
theorem XC.run{f:FuncId}{args:List AV}{st st' :PS}{l l' :List aQ}{mk:AV→AV}(hc:XC f args st l mk st' l'){G K:Heap}{id:Nat}{y:AV}{Q:AV→Heap→Prop}(ha:Acc U 172 (upd G id none) (upd K id (some (PO st))) y (l.map cF))
  (k:∀y' K',Acc U 172 (upd G id none) (upd K' id (some (PO st'))) y' (l'.map cF)→Q (mk y') (upd K' id (some (PO st')))):ai Tryz.prog f (.ptr id 0::y::args) (upd K id (some (PO st))) Q:=
 (hc G K id y ha).mono fun r h' ⟨y',e1,e2,e3⟩=>by
  subst e1;have:=k y' h' (by grind [bG])
  rwa [bG e2]at this
def EH(ex:ExF)(f:Nat):Prop:=∀st l,WfP st→st.ts.length≤f+st.pos→l.length≤2*st.pos+1→XC 266 [] st l (fun y=> .tup [y,.v (.bool (ex st l).1.2)]) (ex st l).2 (ex st l).1.1
theorem IT(st:PS)(ws:List Txt):0≤(bf st ws).1∧(bf st ws).1≤ws.length:=by
 unfold bf;cases ei:vb (aL st).s ws with
 |none=>simp
 |some i=>
  have:=Cf ei;simp only;split<;>simp<;>omega
theorem Bc{ex:ExF}(ho:E8 ex){f:Nat}(he:EH ex f)(st:PS)(l:List aQ)(b:Bool)(hw:WfP st)(hf:st.ts.length≤f+st.pos)(hl:l.length≤2*st.pos+1):XC 234 [.b b] st l (fun y=>y) (iH ex st l b).2 (iH ex st l b).1:=fun G K id y ha=>by
 refine ad3 Tryz.func234 25 [.tmp 6] fun hwf=>?_
 simp only[go_sem];refine(mz st hw).run ?_;simp only[go_sem,fE];refine(he st l hw hf hl).run ha fun y' K' ha' =>?_
 cases db:((ex st l).1.2==b)
 ·have e1:(ex st l).1.2≠b:=by grind
  have en:iH ex st l b=((ex st l).1.1,bI (ex st l).2 5 (aL st).pos):=by grind [iH]
  simp only[go_sem,db,Bool.not_false];refine(rE _ 5 _).run ?_;simp only[go_sem];exact .mk (h' :=upd K' id (some (PO (bI (ex st l).2 5 (aL st).pos)))) y' (.refl _) (.refl _) ⟨y',rfl,aic,by grind [ov]⟩
 ·have e1:(ex st l).1.2=b:=by grind
  have en:iH ex st l b=((ex st l).1.1,(ex st l).2):=by grind [iH]
  simp only[go_sem,db,Bool.not_true];exact .mk (h' :=upd K' id (some (PO (ex st l).2))) y' (.refl _) (.refl _) ⟨y',rfl,aic,ad5⟩
theorem FU{ex:ExF}(ho:E8 ex){f:Nat}(he:EH ex f)(st:PS)(l:List aQ)(hw:WfP st)(hf:st.ts.length≤f+st.pos)(hl:l.length+1≤2*st.pos):XC 289 [] st l (fun y=> .tup [y,cF (qM ex st l).1.2]) (qM ex st l).2 (qM ex st l).1.1:=fun G K id y ha=>by
 have h1:=gK lY hw;have hrg:=IT st lY;have hfl:lY.length=11:=rfl;have w2:IntKind.i64.wrap (2+(bf st lY).1)=2+(bf st lY).1:=aej;refine ad3 Tryz.func289 36 [.tmp 4,.cell 5 172] fun hwf=>?_
 simp only[go_sem];intro i5 hi5;have n5:=aH hi5;have hK5:K i5=none:=aeJ;have c5:∀(f:Heap) (x y:Option Blk),upd (upd f id x) i5 y=upd (upd f i5 y) id x:=fun f x y=>cw f x y n5.symm
 simp only[go_sem,c5];refine(oC _ lY .full ad9 hw).run ?_;simp only[go_sem,w2];intro i6 hi6;have n6:=aH hi6;have c6:∀(f:Heap) (x y:Option Blk),upd (upd f id x) i6 y=upd (upd f i6 y) id x:=fun f x y=>cw f x y n6.symm
 have hi6' :=hi6;rw[ag _ _ n6]at hi6';have n65:=aH hi6';have hK6:K i6=none:=aeJ;simp only[go_sem,c6,ak,n6];refine(Ec _ _).pthen ?_;simp only[go_sem];have h5f:=ha;obtain⟨bs,ebs⟩:∃bs,opers (2+(bf st lY).1)=bs:=⟨_,rfl⟩;obtain⟨M,eM⟩:∃M,jA ex bs (bf st lY).2 l=M:=⟨_,rfl⟩;have hb2:bs.length≤2:=by grind [Ed]
 have hMr:qM ex st l=((M.1,⟨2+(bf st lY).1,⟨0,0,[]⟩,⟨0,[],false⟩⟩),dX M.2 [41]):=by grind [qM]
 obtain⟨st1,es1⟩:∃st1,(bf st lY).2=st1:=⟨_,rfl⟩;have hac0:=xN (xN (ov ha st1) (by rw[ag _ _ n5];omega) (some (.obj [.i 0,.i 0,.i 0,.s [],.i 0,.s [],.b false] 172))) (by rw[ag _ _ n65,ag _ _ n6];omega) (some (.obj [.i (2+(bf st lY).1),.i 0,.i 0,.s [],.i 0,.s [],.b false] 172))
 simp only[c5,c6]at hac0;obtain⟨G',eG⟩:∃G',G' =upd (upd G i5 (some (.obj [.i 0,.i 0,.i 0,.s [],.i 0,.s [],.b false] 172))) i6 (some (.obj [.i (2+(bf st lY).1),.i 0,.i 0,.s [],.i 0,.s [],.b false] 172)):=⟨_,rfl⟩;have g5:upd G' id none i5=some (.obj [.i 0,.i 0,.i 0,.s [],.i 0,.s [],.b false] 172):=by simp_all [ag,Ne.symm,ah]
 have g6:upd G' id none i6=some (.obj [.i (2+(bf st lY).1),.i 0,.i 0,.s [],.i 0,.s [],.b false] 172):=by simp_all [ag,ah]
 rw[←eG]at hac0;have gi5:upd G id none i5=none:=by
  cases hk:upd G id none i5 with
  |none=>rfl
  |some b=>rw[ha.1 _ _ hk]at hi5;omega
 have hsG:Sub (upd G id none) (upd G' id none):=fun k b hk=>by
  have hs1:=ha.1 k b hk;have hk5:k≠i5:=fun e=>ad5
  have hk6:k≠i6:=fun e=>by
   grind [ag]
  by_cases hkid:k=id
  ·subst hkid;rw[ah]at hk;cases hk
  ·rw[ag _ _ hkid]at hk⊢
   rw[eG,ag _ _ hk6,ag _ _ hk5];exact hk
 simp only[es1,ebs]at h1 eM⊢;refine .intro (fun m ρ H=>∃(i:Nat) (st' :PS) (l' :List aQ) (y' :AV) (K' :Heap),H=upd K' id (some (PO st'))∧Acc U 172 (upd G' id none) (upd K' id (some (PO st'))) y' (l'.map cF)∧Ah st1 st'∧i≤bs.length∧jA ex (bs.drop i) st' l' =M∧l'.length+1≤2*st'.pos+i∧m=bs.length - i∧lk ρ 0=some (.ptr id 0)∧lk ρ 1=some y'∧lk ρ 5=some (.ptr i5 0)∧lk ρ 6=some (.ptr i6 0)∧lk ρ 16=some (.sl (bs.map jT) .no)∧lk ρ 17=some (.i bs.length)∧lk ρ 18=some (.i i)) bs.length ?_ ?_
 ·refine⟨0,st1,l,y,_,rfl,hac0,.refl h1.1,ad4,ad5,by have:=h1.2.2;omega,rfl,?_,?_,?_,?_,?_,?_,?_⟩<;>simp only[go_sem]<;>(try rfl)<;>simp
 ·rintro m ρ H ⟨i,st',l',y',K',rfl,hac,hah,hi,hfin,hll,rfl,r0,r1,r5,r6,r16,r17,r18⟩
  simp only[go_sem,r17,r18];have k6:upd K' id (some (PO st')) i6=some (.obj [.i (2+(bf st lY).1),.i 0,.i 0,.s [],.i 0,.s [],.b false] 172):=hac.1 _ _ g6;have k5:upd K' id (some (PO st')) i5=some (.obj [.i 0,.i 0,.i 0,.s [],.i 0,.s [],.b false] 172):=hac.1 _ _ g5;rw[ag _ _ n6]at k6;rw[ag _ _ n5]at k5;refine .intro (fun e=>?_) (fun e=>?_)
  ·have hlt:i<bs.length:=ad1 e
   simp only[go_sem,r16,r18];refine .at i ad5 aef ?_;cases db:(st'.bad !=0)
   ·have e1:st'.bad=0:=by grind
    rw[List.drop_eq_getElem_cons hlt]at hfin;simp only[jA,e1,if_true]at hfin;simp only[go_sem,r0,r1,adV,jT,PO,db];have hpl:=hah.2.2;refine(Bc ho he st' l' bs[i] hah.1 (by rw[hah.2.1,h1.2.1];have:=h1.2.2;omega) ad4).run hac fun y2 K2 hac2=>?_
    obtain⟨q1,q2⟩:=za ho st' l' bs[i] hah.1;have w1:IntKind.i64.wrap ((i:Int)+1)=((i+1:Nat):Int):=aej;simp only[go_sem,r18,w1];refine⟨_,?_,i+1,(iH ex st' l' bs[i]).2,(iH ex st' l' bs[i]).1,y2,K2,rfl,hac2,hah.trans q1,hlt,hfin,ad4,rfl,?_⟩
    ·omega
    refine⟨?_,?_,?_,?_,?_,?_,?_⟩
    all_goals simp only[go_sem,r0,r5,r6,r16,r17]
   ·have e1:st'.bad≠0:=by grind
    have hfin2:(l',st')=M:=by
     grind [List.drop_eq_getElem_cons,jA]
    clear hfin;have hfin:=hfin2;simp only[go_sem,r0,adV,jT,PO,db];refine(ld _ [41] hah.1).run ?_;simp only[go_sem,r1,r5,r6,ak,n5,n6,k5,k6];refine⟨.of ad7,?_⟩;exact .mk (.tup [y',cF ⟨2+(bf st lY).1,⟨0,0,[]⟩,⟨0,[],false⟩⟩]) (.refl _) (.refl _) ⟨y',aek,by rw[hMr,←hfin];exact(ag _ _ (Ne.symm n5)).trans (ah ..),afB⟩
  ·have hge:i=bs.length:=by grind
   subst hge;rw[List.drop_length]at hfin;simp only[jA]at hfin;simp only[go_sem,r0];refine(ld _ [41] hah.1).run ?_;simp only[go_sem,r1,r5,r6,ak,n5,n6,k5,k6];refine⟨.of ad7,?_⟩;exact .mk (.tup [y',cF ⟨2+(bf st lY).1,⟨0,0,[]⟩,⟨0,[],false⟩⟩]) (.refl _) (.refl _) ⟨y',aek,by rw[hMr,←hfin];simp_all [ag,Ne.symm,trans,ah],afB⟩
theorem sU:(U 172).sz=7:=aek
theorem As:(U 172).bytes=72:=aek
theorem lq(l:List aQ):Sized 7 (l.map cF):=fun z hz=>by
 obtain⟨c,_,rfl⟩:=List.mem_map.1 hz;rfl
theorem Sm(f:Nat)(ih:EH (eO f) f):EH (eO (f+1)) (f+1):=fun st l hw hf hl G K id y ha=>by
 refine ad3 Tryz.func266 52 [.tmp 4,.tmp 5] fun hwf=>?_
 simp only[go_sem];intro i6 hi6;have n6:=aH hi6;have hK6:K i6=none:=by rw[ag _ _ n6]at hi6;exact hi6
 have c6:∀(f:Heap) (x y:Option Blk),upd (upd f id x) i6 y=upd (upd f i6 y) id x:=fun f x y=>cw f x y n6.symm
 have gi6:upd G id none i6=none:=by
  cases hk:upd G id none i6 with
  |none=>rfl
  |some b=>rw[ha.1 _ _ hk]at hi6;cases hi6
 have hac:=xN ha hi6 (some (.obj [.i 0,.i 0,.i 0,.s [],.i 0,.s [],.b false] 172));simp only[go_sem,c6];refine(mz st hw).run ?_;simp only[go_sem,fE];intro i7 hi7;have n7:=aH hi7;have hi7' :=hi7;rw[ag _ _ n7]at hi7';have n76:=aH hi7';have m76:¬i7=i6:=n76;have m67:¬i6=i7:=fun e=>n76 e.symm
 have hK7:K i7=none:=by rw[ag _ _ n76]at hi7';exact hi7'
 have c7:∀(f:Heap) (x y:Option Blk),upd (upd f id x) i7 y=upd (upd f i7 y) id x:=fun f x y=>cw f x y n7.symm
 have e6:upd (upd G id none) i6 (some (.obj [.i 0,.i 0,.i 0,.s [],.i 0,.s [],.b false] 172))=upd (upd G i6 (some (.obj [.i 0,.i 0,.i 0,.s [],.i 0,.s [],.b false] 172))) id none:=c6 G none _;have hac7:∀k,Acc U 172 (upd (upd G i6 (some (.obj [.i 0,.i 0,.i 0,.s [],.i 0,.s [],.b false] 172))) id none) (upd (upd (upd K i6 (some (.obj [.i 0,.i 0,.i 0,.s [],.i 0,.s [],.b false] 172))) i7 k) id (some (PO st))) y (l.map cF):=fun k=>by
  have:=hac.sub (Sub.aj (k:=k) (by rw[c6];exact hi7))
  rw[e6,c6 K,c7]at this;exact aeN
 have hsG:Sub (upd G id none) (upd (upd G i6 (some (.obj [.i 0,.i 0,.i 0,.s [],.i 0,.s [],.b false] 172))) id none):=by
  rw[←e6];exact Sub.aj gi6
 have g6:upd (upd G i6 (some (.obj [.i 0,.i 0,.i 0,.s [],.i 0,.s [],.b false] 172))) id none i6=some (.obj [.i 0,.i 0,.i 0,.s [],.i 0,.s [],.b false] 172):=by rw[←e6,ah]
 simp only[go_sem,c7,ak,n7];refine(kD st [40] hw).run ?_;have hacX:∀tk NB st',Acc U 172 (upd G id none) (upd (upd (upd (upd K i6 (some (.obj [.i 0,.i 0,.i 0,.s [],.i 0,.s [],.b false] 172))) i7 tk) i6 NB) id (some (PO st'))) y (l.map cF):=fun tk NB st' =>by
  have:=(ov (tc hsG (hac7 tk)) st').put gi6 ((ag _ _ n6).trans ((ag _ _ m67).trans (ah ..))) NB;rw[c6]at this;exact aeN
 obtain⟨⟨⟨lh,n⟩,sth⟩,eh⟩:∃x,jj (eO f) st l=x:=⟨_,rfl⟩;obtain⟨hha,hhl⟩:=DC (qI f) st l hw;rw[eh]at hha hhl;simp only at hha hhl;have hwp:=hha.1.2.2;have hwq:=hha.1.1;have hpl:=hha.2.2;have hdec:decide ((32:Int)<((lh.length+1:Nat):Int))=decide (32<lh.length+1):=by
  by_cases h:32<lh.length+1
  ·simp only[h,decide_true];exact decide_eq_true ad4
  ·simp only[h,decide_false];exact decide_eq_false ad4
 cases d0:isD st [40]
 ·have et:cq st [40]=(false,st):=by simp[cq,d0]
  rw[et];cases d1:((aL st).kind==1)
  ·have en:jj (eO f) st l=((l,⟨1,(aD st).1,⟨0,[],false⟩⟩),(aD st).2):=by
    have:(aL st).kind≠1:=ag9;simp[jj,d0,this]
   simp only[go_sem,ak,n7,d1];exact ain
  ·have k1:(aL st).kind=1:=by simpa using d1
   cases d2:((aL st).s== [116,114,117,101])
   ·have k2:(aL st).s≠wR:=by unfold wR;simpa using d2
    cases d3:((aL st).s== [102,97,108,115,101])
    ·have k3:(aL st).s≠qJ:=by unfold qJ;simpa using d3
     have en:jj (eO f) st l=((l,⟨2,⟨0,0,[]⟩,(fX st).1⟩),(fX st).2):=by simp[jj,d0,k1,k2,k3]
     simp only[go_sem,ak,n7,d1,d2,d3,Bool.not_false];refine(Lt st hw).run ?_;rw[en]at eh;injection eh with eh1 eh2
     injection eh1 with eh3 eh4
     subst eh2;subst eh3;subst eh4;simp only[go_sem,c6,ak,n6,m67,CY];refine(hacX _ _ _).app (zs:=[cF (⟨2,⟨0,0,[]⟩,(fX st).1⟩:aQ)]) ahY ahX (fun k hk=>hk) ahh (by rw[sU];exact lq [(⟨2,⟨0,0,[]⟩,(fX st).1⟩:aQ)]) agZ fun y3 H3 hy3 hk3=>?_
     have hH3:H3 id=some (PO (fX st).2):=hk3 _ _ _ (ah ..);have hb3:H3 i6=some (.obj [.v (.int .i64 (⟨2,⟨0,0,[]⟩,(fX st).1⟩:aQ).op),.v (.int .i64 (⟨2,⟨0,0,[]⟩,(fX st).1⟩:aQ).val.kind),.v (.int .i64 (⟨2,⟨0,0,[]⟩,(fX st).1⟩:aQ).val.n),.s (⟨2,⟨0,0,[]⟩,(fX st).1⟩:aQ).val.s,.v (.int .i64 (⟨2,⟨0,0,[]⟩,(fX st).1⟩:aQ).attr.cat),.s (⟨2,⟨0,0,[]⟩,(fX st).1⟩:aQ).attr.name,.v (.bool (⟨2,⟨0,0,[]⟩,(fX st).1⟩:aQ).attr.must)] 172):=hk3 _ _ _ ((ag _ _ n6).trans (ah ..));simp only[go_sem,hy3.len,adY,adU,List.length_cons,List.length_nil,Nat.zero_add,hdec];refine(cQ (fX st).2 _ hha.1).go hH3 ?_;simp only[go_sem,ak,n6,hb3];refine⟨.of ad7,?_⟩;have efin:eO (f+1) st l=((l++ [(⟨2,⟨0,0,[]⟩,(fX st).1⟩:aQ)],(⟨2,⟨0,0,[]⟩,(fX st).1⟩:aQ).op==2),bF (fX st).2 (decide (32<l.length+1))):=ah4;exact .mk (.tup [y3,.b ((⟨2,⟨0,0,[]⟩,(fX st).1⟩:aQ).op==2)]) (.refl _) (.refl _) ⟨y3,by rw[efin],agC,aeV⟩
    ·have k3:(aL st).s=qJ:=by unfold qJ;simpa using d3
     have en:jj (eO f) st l=((l,⟨1,(aD st).1,⟨0,[],false⟩⟩),(aD st).2):=by simp[jj,d0,k1,k3]
     simp only[go_sem,ak,n7,d1,d2,d3,Bool.not_false,Bool.not_true];exact ain
   ·have k2:(aL st).s=wR:=by unfold wR;simpa using d2
    have en:jj (eO f) st l=((l,⟨1,(aD st).1,⟨0,[],false⟩⟩),(aD st).2):=by simp[jj,d0,k1,k2]
    simp only[go_sem,ak,n7,d1,d2,Bool.not_true];exact ain
 ·have et:cq st [40]=(true,bl st):=by simp[cq,d0]
  have h1:=eY hw (dK d0);have hnp:(bl st).pos=st.pos+1:=rfl;have hnt:(bl st).ts=st.ts:=rfl;rw[et];simp only[go_sem];have ef:qM (eO f) (bl st) l=((lh,n),sth):=by rw[←eh];simp[jj,d0]
  have hfx:=FU (qI f) ih (bl st) l h1.1 (by rw[hnt];omega) ad4
  simp only[ef]at hfx;refine hfx.run (ov (hac7 _) _) fun y2 K2 hac2=>?_
  have k6:=hac2.1 _ _ g6;rw[ag _ _ n6]at k6;simp only[go_sem,c6,ak,n6,k6,cF];have hac3:=(tc hsG hac2).put gi6 ((ag _ _ n6).trans k6) (some (.obj [.i n.op,.i n.val.kind,.i n.val.n,.s n.val.s,.i n.attr.cat,.s n.attr.name,.b n.attr.must] 172));rw[c6]at hac3;refine(hac3).app (zs:=[cF n]) ahY ahX (fun k hk=>hk) ahh (by rw[sU];exact lq [n]) agZ fun y3 H3 hy3 hk3=>?_
  have hH3:H3 id=some (PO sth):=hk3 _ _ _ (ah ..);have hb3:H3 i6=some (.obj [.i n.op,.i n.val.kind,.i n.val.n,.s n.val.s,.i n.attr.cat,.s n.attr.name,.b n.attr.must] 172):=hk3 _ _ _ ((ag _ _ n6).trans (ah ..));simp only[go_sem,hy3.len,adY,adU,List.length_cons,List.length_nil,Nat.zero_add,hdec];refine(cQ sth _ hha.1).go hH3 ?_;simp only[go_sem,ak,n6,hb3];refine⟨.of ad7,?_⟩;have efin:eO (f+1) st l=((lh++ [n],n.op==2),bF sth (decide (32<lh.length+1))):=by simp only[eO,eh]
  exact .mk (.tup [y3,.b (n.op==2)]) (.refl _) (.refl _) ⟨y3,by rw[efin],agC,aeV⟩
theorem L2:∀f,EH (eO f) f
 |0=>fun st l hw hf _=>absurd hw.1 ad4
 |f+1=>Sm f (L2 f)
theorem FP{P:Program}{f:FuncId}{args:List AV}{h:Heap}{Q Q' :AV→Heap→Prop}(hf:ai P f args h Q)(hq:∀x h1,Q x h1→∃y h2,Weak x y∧Sub h2 h1∧Q' y h2):ai P f args h Q' :=
 fun c vs h1 h2 h3 h4=>(hf c vs h1 h2 h3 h4).mono fun u w' ⟨c',x,h',g1,g2,g3,g4,g5,g6⟩=>by
  obtain⟨y,h'',k1,k2,k3⟩:=hq x h' g6;exact⟨c',y,h'',g1,g2,g3,g4.weak k1,k2.trans g5,k3⟩
def flat:AV→AV
 |.sl xs _=> .sl xs .no
 |x=>x
theorem gw(xs:List AV):Weak (.agg xs) (.agg (xs.map flat)):=.agg _ _ aec fun i h1 h2=>by
 rw[adV];cases xs[i]<;>first|exact .refl _|exact .sl _ _
theorem J9(st:PS)(hw:WfP st):PC 234 [.sl [] .full,.b false] st (fy (iH (eO st.ts.length) st [] false).1) (iH (eO st.ts.length) st [] false).2:=.of fun G id=>by
 have hx:=Bc (qI st.ts.length) (L2 st.ts.length) st [] false hw ad4 aec;refine FP (hx G G id (.sl [] .full) (.full (base_start G id _))) fun r h1 ⟨y',e1,e2,e3⟩=>⟨_,upd G id (some (PO (iH (eO st.ts.length) st [] false).2)),?_,fu e3.1 e2,rfl,rfl⟩
 subst e1;exact e3.weak
theorem Np(deny:Bool)(st:PS)(hw:WfP st):PC 197 [.b deny] st (aB (qe deny st).1) (qe deny st).2:=.of fun G id=>by
 have h1:=nw hw;have h2:=BU h1.1;have h3:=Hr h2.1;have h4:=BS h3.1;have ht:=Rc _ h1.1;simp only[aW]at ht;refine ad3 Tryz.func197 23 [.cell 4 167] fun hwf=>?_
 simp only[go_sem];intro i4 hi4;have n4:=aH hi4;have hG4:G i4=none:=aeJ;have c4:∀(f:Heap) (x y:Option Blk),upd (upd f id x) i4 y=upd (upd f i4 y) id x:=fun f x y=>cw f x y n4.symm
 simp only[go_sem,c4];refine(ug st hw).run ?_;simp only[go_sem];refine ht.run ?_;simp only[go_sem];intro i5 hi5;have n5:=aH hi5;have hi5' :=hi5;rw[ag _ _ n5]at hi5';have n54:=aH hi5';have m54:¬i5=i4:=n54;have m45:¬i4=i5:=n54.symm;have hG5:G i5=none:=aeJ;have c5:∀(f:Heap) (x y:Option Blk),upd (upd f id x) i5 y=upd (upd f i5 y) id x:=fun f x y=>cw f x y n5.symm
 have c45:∀(f:Heap) (x y:Option Blk),upd (upd f i5 x) i4 y=upd (upd f i4 y) i5 x:=fun f x y=>cw f x y n54
 simp only[go_sem,c5,ak,n5];refine(kD _ ifT h2.1).run ?_;cases d0:isD (gY (cp st).2).2 ifT
 ·have et:cq (gY (cp st).2).2 ifT=(false,(gY (cp st).2).2):=by grind [cq]
  have ec:qF (gY (cp st).2).2=([],(gY (cp st).2).2):=by grind [qF]
  have er:qe deny st=(⟨(cp st).1,deny,(gY (cp st).2).1,[],(gz (gY (cp st).2).2).1⟩,dX (gz (gY (cp st).2).2).2 [59]):=by grind [qe]
  rw[ec]at h4;have ho:=tC _ h2.1;simp only[ay]at ho;rw[et];simp only[go_sem];refine ho.run ?_;simp only[go_sem,c5,ak,n5];refine(ld _ [59] h4.1).run ?_;simp only[go_sem,c4,c45,ak,n4,n5,m45];exact .mk (h' :=upd G id (some (PO (dX (gz (gY (cp st).2).2).2 [59])))) (aB ⟨(cp st).1,deny,(gY (cp st).2).1,[],(gz (gY (cp st).2).2).1⟩) (gw _) (Sub.both aez _ _) ⟨by rw[er],by rw[er]⟩
 ·have et:cq (gY (cp st).2).2 ifT=(true,bl (gY (cp st).2).2):=by grind [cq]
  obtain⟨⟨cn,stc⟩,ec⟩:∃x,qF (gY (cp st).2).2=x:=⟨_,rfl⟩;have er:qe deny st=(⟨(cp st).1,deny,(gY (cp st).2).1,cn,(gz stc).1⟩,dX (gz stc).2 [59]):=by grind [qe]
  have hcnd:=J9 (bl (gY (cp st).2).2) (eY h2.1 (dK d0)).1;have ec2:iH (eO (bl (gY (cp st).2).2).ts.length) (bl (gY (cp st).2).2) [] false=(cn,stc):=by rw[←ec];simp only[qF,d0,if_true];rfl
  rw[ec2]at hcnd;simp only[fy]at hcnd;rw[ec]at h3 h4;have ho:=tC _ h3.1;simp only[ay]at ho;rw[et];simp only[go_sem];refine hcnd.run ?_;simp only[go_sem,c5,ak,n5];refine ho.run ?_;simp only[go_sem,c5,ak,n5];refine(ld _ [59] h4.1).run ?_;simp only[go_sem,c4,c45,ak,n4,n5,m45];exact .mk (h' :=upd G id (some (PO (dX (gz stc).2 [59])))) (aB ⟨(cp st).1,deny,(gY (cp st).2).1,cn,(gz stc).1⟩) (gw _) (Sub.both aez _ _) ⟨by rw[er],by rw[er]⟩
theorem Qf:(U 167).sz=5:=aek
theorem Ww:(U 167).bytes=96:=aek
theorem xD(l:List cU):Sized 5 (l.map aB):=fun z hz=>by
 obtain⟨c,_,rfl⟩:=List.mem_map.1 hz;rfl
theorem S4(st:PS)(hw:WfP st)(hr:st.rules≤64):PC 147 [] st (.sl ((ko 17 st []).1.map aB) .no) (ko 17 st []).2:=.of fun G id=>by
 obtain⟨M,eM⟩:∃M,ko 17 st []=M:=⟨_,rfl⟩;rw[eM];refine ad3 Tryz.func147 51 [.tmp 2] fun hwf=>?_
 simp only[go_sem];have hB:upd G id none id=none:=ah ..;refine .intro (fun m ρ H=>∃(f:Nat) (st' :PS) (l:List cU) (y:AV),H id=some (PO st')∧Acc U 167 (upd G id none) H y (l.map aB)∧Ah st st'∧st'.rules≤64∧ko f st' l=M∧f+l.length=17∧l.length≤16∧m=f∧lk ρ 0=some (.ptr id 0)∧lk ρ 3=some y) 17 ?_ ?_
 ·refine⟨17,st,[],.sl ([].map aB) .full,ah ..,.full (base_start G id _),.refl hw,hr,eM,aec,aec,rfl,?_,?_⟩<;>simp only[go_sem]<;>rfl
 ·rintro m ρ H ⟨f,st',l,y,hH,hy,ha,hru,hfin,hf,hll,rfl,r0,r3⟩
  have hlen:=ha.1.2.2;have hpos:=ha.1.1;obtain⟨g,rfl⟩:∃g,m=g+1:=⟨m - 1,ad4⟩;simp only[go_sem,r0];refine(tO st' pM ha.1).go hH ?_;rw[bG hH];have fin:isD st' pM=false→isD st' jh=false→(l,st')=M:=fun d1 d2=>by
   grind [ko]
  have rest:isD st' pM=true∨isD st' jh=true→True:=fun _=>trivial
  cases d1:isD st' pM
  ·simp only[go_sem,r0]
   refine(tO st' jh ha.1).go hH ?_;rw[bG hH];cases d2:isD st' jh
   ·simp only[go_sem,r3]
    have e:=fin d1 d2;exact .mk (h' :=upd G id (some (PO M.2))) (.sl (M.1.map aB) .no) afb (by rw[←e];exact fu hy.1 hH) ⟨rfl,rfl⟩
   ·exact aim
  ·exact aim
theorem Qe:(U 49).sz=7:=aek
theorem Wu:(U 49).bytes=128:=aek
theorem xC(l:List bD):Sized 7 (l.map aK):=fun z hz=>by
 obtain⟨c,_,rfl⟩:=List.mem_map.1 hz;cases c;rfl
theorem Sy(pol:PoF)(d:Nat)(hd5:d≤5)(hp:∀st,WfP st→st.rules≤64→d≤4→PC 87 [.i d] st (aK (pol st).1) (pol st).2)(hpa:∀st,WfP st→Ah st (pol st).2)(hpr:∀st,nU st (pol st).2)
  (st:PS) (hw:WfP st) (hr:st.rules≤64):PC 146 [.i d] st (.sl ((jZ pol (decide ((4:Int)<(d:Int))) 17 st []).1.map aK) .no) (jZ pol (decide ((4:Int)<(d:Int))) 17 st []).2:=.of fun G id=>by
 obtain⟨M,eM⟩:∃M,jZ pol (decide ((4:Int)<(d:Int))) 17 st []=M:=⟨_,rfl⟩;rw[eM];refine ad3 Tryz.func146 33 [.tmp 4] fun hwf=>?_
 simp only[go_sem];have hB:upd G id none id=none:=ah ..;refine .intro (fun m ρ H=>∃(f:Nat) (st' :PS) (l:List bD) (y:AV),H id=some (PO st')∧Acc U 49 (upd G id none) H y (l.map aK)∧Ah st st'∧st'.rules≤64∧jZ pol (decide ((4:Int)<(d:Int))) f st' l=M∧f+l.length=17∧l.length≤16∧m=f∧lk ρ 0=some (.ptr id 0)∧lk ρ 1=some (.i d)∧lk ρ 5=some y) 17 ?_ ?_
 ·refine⟨17,st,[],.sl ([].map aK) .full,ah ..,.full (base_start G id _),.refl hw,hr,eM,aec,aec,rfl,?_,?_,?_⟩<;>simp only[go_sem]<;>rfl
 ·rintro m ρ H ⟨f,st',l,y,hH,hy,ha,hru,hfin,hf,hll,rfl,r0,r1,r5⟩
  have hlen:=ha.1.2.2;have hpos:=ha.1.1;obtain⟨g,rfl⟩:∃g,m=g+1:=⟨m - 1,ad4⟩;simp only[go_sem,r0];refine(tO st' pN ha.1).go hH ?_;rw[bG hH];have fin:isD st' pN=false→isD st' GI=false→(l,st')=M:=fun d1 d2=>by
   grind [jZ]
  cases d1:isD st' pN
  ·simp only[go_sem,r0]
   refine(tO st' GI ha.1).go hH ?_;rw[bG hH];cases d2:isD st' GI
   ·simp only[go_sem,r5]
    have e:=fin d1 d2;exact .mk (h' :=upd G id (some (PO M.2))) (.sl (M.1.map aK) .no) afb (by rw[←e];exact fu hy.1 hH) ⟨rfl,rfl⟩
   ·have hd:isD st' pN=true∨isD st' GI=true:=by grind
    have eb:=(mU hd).1;have ek:=(mU hd).2;have db:(st'.bad !=0)=false:=ad5;have gP:=hH;unfold PO at gP;have lim:l.length=16∨decide ((4:Int)<(d:Int))=true→(l,bF st' true)=M:=fun h=>by
     rw[←hfin];simp only[jZ,if_pos hd,if_pos h]
    have hdl:bF st' true=bI st' 6 (aL st').pos:=rfl;have hlb:((bF st' true).bad !=0)=true:=by grind [bI]
    cases dA:((l.length:Int)==16)
    ·cases dB:decide ((4:Int)<(d:Int))
     ·have nA:l.length≠16:=fun e=>by grind
      have hno:¬(l.length=16∨decide ((4:Int)<(d:Int))=true):=fun h=>h.elim nA (fun e=>ad5)
      simp only[jZ,if_pos hd,if_neg hno]at hfin;rw[dB]at hfin;have hd4:d≤4:=ad5;simp only[go_sem,r0,r1,r5,hy.len,adU,dA,dB];refine(cQ st' false ha.1).go hH ?_;rw[show bF st' false=st' from rfl,bG hH]
      have h3:=hpa st' ha.1;have hrp:=hp st' ha.1 hru hd4;have hr3:=vv (hpr st') hru;obtain⟨x,st2,e2⟩:∃x st2,pol st' =(x,st2):=⟨_,_,rfl⟩;rw[e2]at hfin hrp h3 hr3;obtain⟨pid,pset,palg,ptgt,prules,pkids,pobls⟩:=x;simp only[aK]at hrp hfin h3 hr3;simp only[go_sem,r0,r1,r5,gP,db];refine hrp.go hH ?_;simp only[go_sem];refine(hy.put hB hH _).app (zs:=[aK ⟨pid,pset,palg,ptgt,prules,pkids,pobls⟩]) ad9 ad9 (fun k hk=>hk) (by grind [Qe,xC]) agu (by grind [Wu]) fun y' H2 hy' hk2=>?_
      have hH2:H2 id=some (PO st2):=hk2 _ _ _ (ah ..);simp only[go_sem];refine⟨_,?_,g,st2,l++ [⟨pid,pset,palg,ptgt,prules,pkids,pobls⟩],y',hH2,ad5,ha.trans h3,hr3,hfin,ad5,ad5,rfl,?_,?_,?_⟩
      ·omega
      all_goals simp only[go_sem,r0,r1]
     ·have e:=lim (.inr dB)
      simp only[go_sem,r0,r1,r5,hy.len,adU,dA,dB];refine(cQ st' true ha.1).go hH ?_;have g3:upd H id (some (PO (bF st' true))) id=some (PO (bF st' true)):=ah ..;unfold PO at g3;simp only[go_sem,r0,r5,g3,hlb,PO];exact .mk (h' :=upd G id (some (PO M.2))) (.sl (M.1.map aK) .no) afb aeI ⟨rfl,rfl⟩
    ·have nA:l.length=16:=by grind
     have e:=lim (.inl nA);simp only[go_sem,r0,r5,hy.len,adU,dA];refine(cQ st' true ha.1).go hH ?_;have g3:upd H id (some (PO (bF st' true))) id=some (PO (bF st' true)):=ah ..;unfold PO at g3;simp only[go_sem,r0,r5,g3,hlb,PO];exact .mk (h' :=upd G id (some (PO M.2))) (.sl (M.1.map aK) .no) afb aeI ⟨rfl,rfl⟩
  ·have hd:isD st' pN=true∨isD st' GI=true:=by grind
   have eb:=(mU hd).1;have ek:=(mU hd).2;have db:(st'.bad !=0)=false:=ad5;have gP:=hH;unfold PO at gP;have lim:l.length=16∨decide ((4:Int)<(d:Int))=true→(l,bF st' true)=M:=fun h=>by
    rw[←hfin];simp only[jZ,if_pos hd,if_pos h]
   have hdl:bF st' true=bI st' 6 (aL st').pos:=rfl;have hlb:((bF st' true).bad !=0)=true:=by grind [bI]
   cases dA:((l.length:Int)==16)
   ·cases dB:decide ((4:Int)<(d:Int))
    ·have nA:l.length≠16:=fun e=>by grind
     have hno:¬(l.length=16∨decide ((4:Int)<(d:Int))=true):=fun h=>h.elim nA (fun e=>ad5)
     simp only[jZ,if_pos hd,if_neg hno]at hfin;rw[dB]at hfin;have hd4:d≤4:=ad5;simp only[go_sem,r0,r1,r5,hy.len,adU,dA,dB];refine(cQ st' false ha.1).go hH ?_;rw[show bF st' false=st' from rfl,bG hH]
     have h3:=hpa st' ha.1;have hrp:=hp st' ha.1 hru hd4;have hr3:=vv (hpr st') hru;obtain⟨x,st2,e2⟩:∃x st2,pol st' =(x,st2):=⟨_,_,rfl⟩;rw[e2]at hfin hrp h3 hr3;obtain⟨pid,pset,palg,ptgt,prules,pkids,pobls⟩:=x;simp only[aK]at hrp hfin h3 hr3;simp only[go_sem,r0,r1,r5,gP,db];refine hrp.go hH ?_;simp only[go_sem];refine(hy.put hB hH _).app (zs:=[aK ⟨pid,pset,palg,ptgt,prules,pkids,pobls⟩]) ad9 ad9 (fun k hk=>hk) (by grind [Qe,xC]) agu (by grind [Wu]) fun y' H2 hy' hk2=>?_
     have hH2:H2 id=some (PO st2):=hk2 _ _ _ (ah ..);simp only[go_sem];refine⟨_,?_,g,st2,l++ [⟨pid,pset,palg,ptgt,prules,pkids,pobls⟩],y',hH2,ad5,ha.trans h3,hr3,hfin,ad5,ad5,rfl,?_,?_,?_⟩
     ·omega
     all_goals simp only[go_sem,r0,r1]
    ·have e:=lim (.inr dB)
     simp only[go_sem,r0,r1,r5,hy.len,adU,dA,dB];refine(cQ st' true ha.1).go hH ?_;have g3:upd H id (some (PO (bF st' true))) id=some (PO (bF st' true)):=ah ..;unfold PO at g3;simp only[go_sem,r0,r5,g3,hlb,PO];exact .mk (h' :=upd G id (some (PO M.2))) (.sl (M.1.map aK) .no) afb aeI ⟨rfl,rfl⟩
   ·have nA:l.length=16:=by grind
    have e:=lim (.inl nA);simp only[go_sem,r0,r5,hy.len,adU,dA];refine(cQ st' true ha.1).go hH ?_;have g3:upd H id (some (PO (bF st' true))) id=some (PO (bF st' true)):=ah ..;unfold PO at g3;simp only[go_sem,r0,r5,g3,hlb,PO];exact .mk (h' :=upd G id (some (PO M.2))) (.sl (M.1.map aK) .no) afb aeI ⟨rfl,rfl⟩
theorem En(r:Nat)(d:Nat)(hrd:r+d=4)(hp:∀st,WfP st→st.rules≤64→d+1≤4→PC 87 [.i (d+1:Nat)] st (aK (gN r st).1) (gN r st).2)(st:PS)(hw:WfP st)(hr:st.rules≤64):
  PC 87 [.i d] st (aK (gN (r+1) st).1) (gN (r+1) st).2:=.of fun G id=>by
 have h1:=gK mW hw;have h2:=nw h1.1;have h3:=gK xR h2.1;have h4:=BU h3.1;have h5:Ah _ (cX st).2:=js [123] h4.1;have ht:=Rc _ h3.1;simp only[aW]at ht;have hrh:=vv (Eu st).big hr;have hset:(cX st).1.1=((bf st mW).1==2):=rfl;have w1:IntKind.i64.wrap ((d:Int)+1)=((d+1:Nat):Int):=aej;have hdp:(r==0)=decide ((4:Int)<((d+1:Nat):Int)):=by
  grind
 have hk:=Sy (gN r) (d+1) ad4 hp (fun _ h=>xO r _ h) (Cv r) _ h5.1 hrh
 have hs:=S4 _ h5.1 hrh;refine ad3 Tryz.func87 39 [.cell 4 49] fun hwf=>?_
 simp only[go_sem];intro i4 hi4;have n4:=aH hi4;have hG4:G i4=none:=aeJ;have c4:∀(f:Heap) (x y:Option Blk),upd (upd f id x) i4 y=upd (upd f i4 y) id x:=fun f x y=>cw f x y n4.symm
 simp only[go_sem,c4];intro i5 hi5;have n5:=aH hi5;have hi5' :=hi5;rw[ag _ _ n5]at hi5';have n54:=aH hi5';have m54:¬i5=i4:=n54;have m45:¬i4=i5:=n54.symm;have hG5:G i5=none:=aeJ;have c5:∀(f:Heap) (x y:Option Blk),upd (upd f id x) i5 y=upd (upd f i5 y) id x:=fun f x y=>cw f x y n5.symm
 have c45:∀(f:Heap) (x y:Option Blk),upd (upd f i5 x) i4 y=upd (upd f i4 y) i5 x:=fun f x y=>cw f x y n54
 simp only[go_sem,c5];refine(oC st mW .full ad9 hw).run ?_;simp only[go_sem,c5,ak,n5];refine(ug _ h1.1).run ?_;simp only[go_sem,c5,ak,n5];refine(oC _ xR .full ad9 h2.1).run ?_;simp only[go_sem,c5,ak,n5];refine ht.run ?_;simp only[go_sem,c5,ak,n5];refine(ld _ [123] h4.1).run ?_;cases ds:((bf st mW).1==2)
 ·rw[ds]at hset
  simp only[go_sem,ak,n5];have eb:pY (gN r) (r==0) (cX st).1.1 (cX st).2=(((ko 17 (cX st).2 []).1,[]),(ko 17 (cX st).2 []).2):=by grind [pY]
  have hb:=BR (fun _ h=>xO r _ h) (r==0) (cX st).1.1 h5.1
  obtain⟨⟨rl,stb⟩,er⟩:∃x,ko 17 (cX st).2 []=x:=⟨_,rfl⟩;rw[er]at eb hs;rw[eb]at hb;have ho:=tC _ (js [125] hb.1).1;simp only[ay]at ho hs;refine hs.run ?_;simp only[go_sem,c5,ak,n5];refine(ld _ [125] hb.1).run ?_;simp only[go_sem];refine ho.run ?_;simp only[go_sem,c4,c5,c45,ak,n4,n5,m45];have efin:gN (r+1) st=(.mk (cX st).1.2.1 false (cX st).1.2.2.1 (cX st).1.2.2.2 rl [] (gz (dX stb [125])).1,(gz (dX stb [125])).2):=by grind [gN]
  exact .mk (h' :=upd G id (some (PO (gz (dX stb [125])).2))) (aK (.mk (cX st).1.2.1 false (cX st).1.2.2.1 (cX st).1.2.2.2 rl [] (gz (dX stb [125])).1)) (gw _) (Sub.both aez _ _) ⟨ad5,ad5⟩
 ·rw[ds]at hset
  simp only[go_sem,ak,n5,w1];have eb:pY (gN r) (r==0) (cX st).1.1 (cX st).2=(([],(jZ (gN r) (r==0) 17 (cX st).2 []).1),(jZ (gN r) (r==0) 17 (cX st).2 []).2):=by grind [pY]
  have hb:=BR (fun _ h=>xO r _ h) (r==0) (cX st).1.1 h5.1
  rw[←hdp]at hk;obtain⟨⟨kl,stb⟩,er⟩:∃x,jZ (gN r) (r==0) 17 (cX st).2 []=x:=⟨_,rfl⟩;rw[er]at eb hk;rw[eb]at hb;have ho:=tC _ (js [125] hb.1).1;simp only[ay]at ho hk;refine hk.run ?_;simp only[go_sem,c5,ak,n5];refine(ld _ [125] hb.1).run ?_;simp only[go_sem];refine ho.run ?_;simp only[go_sem,c4,c5,c45,ak,n4,n5,m45];have efin:gN (r+1) st=(.mk (cX st).1.2.1 true (cX st).1.2.2.1 (cX st).1.2.2.2 [] kl (gz (dX stb [125])).1,(gz (dX stb [125])).2):=by grind [gN]
  exact .mk (h' :=upd G id (some (PO (gz (dX stb [125])).2))) (aK (.mk (cX st).1.2.1 true (cX st).1.2.2.1 (cX st).1.2.2.2 [] kl (gz (dX stb [125])).1)) (by simp only[aK,aX];exact gw _) (Sub.both aez _ _) ⟨ad5,ad5⟩
theorem Em:∀(r d:Nat),r+d=4→∀st,WfP st→st.rules≤64→PC 87 [.i d] st (aK (gN (r+1) st).1) (gN (r+1) st).2
 |0,d,hrd=>fun st hw hr=>En 0 d hrd ad4 st hw hr
 |r+1,d,hrd=>fun st hw hr=>En (r+1) d hrd (fun st hw hr _=>Em r (d+1) ad4 st hw hr) st hw hr
theorem Ln(l:List (List bO))(h:Heap):ai Tryz.prog 267 [cB l] h fun r h' =>r= .i (xb l)∧h' =h:=by
 refine ad3 Tryz.func267 25 [.tmp 2] fun hwf=>?_
 simp only[go_sem,cB,adU];refine(HZ _ _).pthen ?_;cases d1:(kJ l.length !=0)
 case true=>
  have e1:kJ l.length≠0:=ad5;simp only[go_sem,d1];exact .same (.refl _) ⟨by grind [xb,ax],rfl⟩
 have e1:kJ l.length=0:=ad5;have hlen:=DX e1;simp only[go_sem,d1,adU];refine .intro (fun m ρ h' =>Ab.Sub h h'∧∃i:Nat,i≤l.length∧m=l.length - i∧iE wZ (l.take i)=0∧lk ρ 13=some (cB l)∧lk ρ 14=some (.i l.length)∧lk ρ 15=some (.i i)) l.length ?_ ?_
 ·refine⟨.refl _,0,ad4,rfl,rfl,?_,?_,?_⟩<;>simp only[go_sem,cB]
 ·rintro m ρ h' ⟨hs,i,hi,rfl,hc,r12,r13,r14⟩
  simp only[go_sem,r13,r14];refine .intro (fun e=>?_) (fun e=>?_)
  ·have hlt:i<l.length:=ad1 e
   have w1:IntKind.i64.wrap ((i:Int)+1)=((i+1:Nat):Int):=aej;simp only[go_sem,r12,r14,cB];refine .at i ad5 aef ?_;simp only[go_sem,adV,ij];refine(Ll l[i] _).pthen ?_;cases d2:(wZ l[i] !=0)
   ·have e2:wZ l[i]=0:=by grind
    simp only[go_sem,r14,d2,w1];refine⟨_,?_,hs,i+1,ad4,rfl,vW hlt hc e2,?_,?_,?_⟩
    ·omega
    all_goals simp only[go_sem,r12,r13,cB]
   ·have e2:wZ l[i]≠0:=by grind
    simp only[go_sem,d2];refine .mk _ (.refl _) hs ⟨?_,rfl⟩
    grind [xb,AR,ax]
  ·have hge:i=l.length:=by grind
   subst hge;rw[List.take_length]at hc;simp only[go_sem];exact .mk _ (.refl _) hs ⟨by grind [xb,ax],rfl⟩
theorem vC(l:fY)(h:Heap):ai Tryz.prog 236 [aW l] h fun r h' =>r= .i (lR l)∧h' =h:=by
 refine ad3 Tryz.func236 21 [.tmp 2] fun hwf=>?_
 cases d1:decide (8<(l.length:Int))
 case true=>
  have e1:8<l.length:=ad5;simp only[go_sem,aW,adU,d1];exact .same (.refl _) ⟨by grind [lR,ax],rfl⟩
 have e1:¬8<l.length:=ad5;simp only[go_sem,d1,aW,adU];refine .intro (fun m ρ h' =>Ab.Sub h h'∧∃i:Nat,i≤l.length∧m=l.length - i∧iE xb (l.take i)=0∧lk ρ 9=some (aW l)∧lk ρ 10=some (.i l.length)∧lk ρ 11=some (.i i)) l.length ?_ ?_
 ·refine⟨.refl _,0,ad4,rfl,rfl,?_,?_,?_⟩<;>simp only[go_sem,aW]
 ·rintro m ρ h' ⟨hs,i,hi,rfl,hc,r12,r13,r14⟩
  simp only[go_sem,r13,r14];refine .intro (fun e=>?_) (fun e=>?_)
  ·have hlt:i<l.length:=ad1 e
   have w1:IntKind.i64.wrap ((i:Int)+1)=((i+1:Nat):Int):=aej;simp only[go_sem,r12,r14,aW];refine .at i ad5 aef ?_;simp only[go_sem,adV,cB];refine(Ln l[i] _).pthen ?_;cases d2:(xb l[i] !=0)
   ·have e2:xb l[i]=0:=by grind
    simp only[go_sem,r14,d2,w1];refine⟨_,?_,hs,i+1,ad4,rfl,vW hlt hc e2,?_,?_,?_⟩
    ·omega
    all_goals simp only[go_sem,r12,r13,aW]
   ·have e2:xb l[i]≠0:=by grind
    simp only[go_sem,d2];refine .mk _ (.refl _) hs ⟨?_,rfl⟩
    grind [lR,AR,ax]
  ·have hge:i=l.length:=by grind
   subst hge;rw[List.take_length]at hc;simp only[go_sem];exact .mk _ (.refl _) hs ⟨by grind [lR,ax],rfl⟩
theorem Cp(l:List cy)(h:Heap):ai Tryz.prog 237 [ay l] h fun r h' =>r= .i (iG l)∧h' =h:=by
 refine ad3 Tryz.func237 39 [.tmp 2] fun hwf=>?_
 cases d1:decide (8<(l.length:Int))
 case true=>
  have e1:8<l.length:=ad5;simp only[go_sem,ay,adU,d1];exact .same (.refl _) ⟨by grind [iG,ax],rfl⟩
 have e1:¬8<l.length:=ad5;simp only[go_sem,d1,ay,adU];refine .intro (fun m ρ h' =>Ab.Sub h h'∧∃i:Nat,i≤l.length∧m=l.length - i∧(l.take i).all qU=true∧lk ρ 8=some (ay l)∧lk ρ 9=some (.i l.length)∧lk ρ 10=some (.i i)) l.length ?_ ?_
 ·refine⟨.refl _,0,ad4,rfl,rfl,?_,?_,?_⟩<;>simp only[go_sem,ay]
 ·rintro m ρ h' ⟨hs,i,hi,rfl,hc,r12,r13,r14⟩
  simp only[go_sem,r13,r14];refine .intro (fun e=>?_) (fun e=>?_)
  ·have hlt:i<l.length:=ad1 e
   have w1:IntKind.i64.wrap ((i:Int)+1)=((i+1:Nat):Int):=aej;simp only[go_sem,r12,r14,ay];refine .at i ad5 aef ?_;simp only[go_sem,adV,aY];intro id hid;have bad:qU l[i]=false→iG l=1:=fun hb=>by
    have:l.all qU=false:=List.all_eq_false.2 ⟨_,adZ hlt,ad5⟩;simp[iG,e1,this]
   cases c1:decide (l[i].on<1)
   case true=>
    simp only[go_sem,c1];exact .mk _ (.refl _) (hs.new hid _) ⟨by rw[bad (by have:=adW c1;simp[qU];omega)];rfl,rfl⟩
   cases c2:decide (2<l[i].on)
   case true=>
    simp only[go_sem,c1,c2];exact .mk _ (.refl _) (hs.new hid _) ⟨by rw[bad (by have:=adW c2;simp[qU];omega)];rfl,rfl⟩
   cases c3:decide (l[i].kind<1)
   case true=>
    simp only[go_sem,c1,c2,c3];exact .mk _ (.refl _) (hs.new hid _) ⟨by rw[bad (by have:=adW c3;simp[qU];omega)];rfl,rfl⟩
   cases c4:decide (4<l[i].kind)
   case true=>
    simp only[go_sem,c1,c2,c3,c4];exact .mk _ (.refl _) (hs.new hid _) ⟨by rw[bad (by have:=adW c4;simp[qU];omega)];rfl,rfl⟩
   simp only[go_sem,c1,c2,c3,c4];refine(pH _ _).pthen ?_;cases d2:bp l[i].arg
   ·simp only[go_sem]
    exact .mk _ (.refl _) (hs.new hid _) ⟨by rw[bad (by grind [qU])];rfl,rfl⟩
   ·simp only[go_sem,r14,w1]
    refine⟨_,?_,hs.new hid _,i+1,ad4,rfl,?_,?_,?_,?_⟩
    ·omega
    ·grind [adX,List.take_succ_eq_append_getElem,qU]
    all_goals simp only[go_sem,r12,r13,ay]
  ·have hge:i=l.length:=by grind
   subst hge;rw[List.take_length]at hc;simp only[go_sem];exact .mk _ (.refl _) hs ⟨by grind [iG,ax],rfl⟩
theorem N0(op:Int)(h:Heap):ai Tryz.prog 292 [.i op] h fun r h' =>r=(match iN op with
  |none=> .tup [.sl [] .no,.b false]
  |some w=> .tup [.sl (w.map jT) .no,.b true])∧h' =h:=by
 refine ad3 Tryz.func292 35 [.tmp 2,.tmp 3] fun hwf=>?_
 cases k1:(op==1)
 case true=>
  have e1:op=1:=ad5;simp only[go_sem,k1];exact .mk _ (fF _) (.refl _) ⟨ahz,rfl⟩
 have n1:op≠1:=ad5;cases k2:(op==2)
 case true=>
  have e1:op=2:=ad5;simp only[go_sem,k1,k2];exact .mk _ (fF _) (.refl _) ⟨ahz,rfl⟩
 have n2:op≠2:=ad5;cases k3:(op==3)
 case true=>
  have e1:op=3:=ad5;simp only[go_sem,k1,k2,k3];exact .mk _ (fF _) (.refl _) ⟨agp,rfl⟩
 have n3:op≠3:=ad5;cases k4:(op==4)
 case true=>
  have e1:op=4:=ad5;simp only[go_sem,k1,k2,k3,k4];exact .mk _ (fF _) (.refl _) ⟨agp,rfl⟩
 have n4:op≠4:=ad5;cases k5:(op==5)
 case true=>
  have e1:op=5:=ad5;simp only[go_sem,k1,k2,k3,k4,k5];exact .mk _ (fF _) (.refl _) ⟨agp,rfl⟩
 have n5:op≠5:=ad5;cases k11:(op==11)
 case true=>
  have e1:op=11:=ad5;simp only[go_sem,k1,k2,k3,k4,k5,k11];exact .mk _ (fF _) (.refl _) ⟨agp,rfl⟩
 have n11:op≠11:=ad5;cases k6:decide (6≤op)
 ·have n6:=adX k6
  simp only[go_sem,k1,k2,k3,k4,k5,k11,k6];exact .mk _ (fF _) (.refl _) ⟨ahz,rfl⟩
 cases k13:decide (op≤13)
 ·have n13:=adX k13
  simp only[go_sem,k1,k2,k3,k4,k5,k11,k6,k13];exact .mk _ (fF _) (.refl _) ⟨ahz,rfl⟩
 have n6:=adW k6;have n13:=adW k13;simp only[go_sem,k1,k2,k3,k4,k5,k11,k6,k13];exact .mk _ (fF _) (.refl _) ⟨agp,rfl⟩
theorem Jn(n:aQ)(h:Heap):ai Tryz.prog 293 [cF n] h fun r h' =>r= .b (jV n)∧h' =h:=by
 refine ad3 Tryz.func293 37 [.tmp 2] fun hwf=>?_
 simp only[go_sem,cF];intro id hid;have fa:∀x y z:Bool,(x && (y && (z && true)))=(x && (y && (z && true))):=fun _ _ _=>rfl
 cases k1:(n.op==1)
 case true=>
  have e1:n.op=1:=ad5;simp only[go_sem,k1];refine(fS n.val _).pthen ?_;cases d0:bz n.val
  ·simp only[go_sem]
   exact ajz
  ·simp only[go_sem]
   exact .mk _ (.refl _) (.aj hid) ⟨by grind [jV,ax,zeroAt],rfl⟩
 have n1:n.op≠1:=ad5;cases k2:(n.op==2)
 case true=>
  have e1:n.op=2:=ad5;simp only[go_sem,k1,k2];refine(Hv n.attr _).pthen ?_;cases d0:qw n.attr
  ·simp only[go_sem]
   exact ajz
  ·simp only[go_sem]
   exact .mk _ (.refl _) (.aj hid) ⟨by grind [jV,ax,zeroV],rfl⟩
 have n2:n.op≠2:=ad5;cases d0:zeroV n.val
 ·have d1:=d0
  unfold zeroV at d1;simp only[go_sem,k1,k2,d1];exact ajz
 ·have d1:=d0
  unfold zeroV at d1;simp only[go_sem,k1,k2,d1];exact .mk _ (.refl _) (.aj hid) ⟨by grind [jV,ax,zeroAt],rfl⟩
theorem u4:(U 4).sz=1:=aek
theorem u4a:(U 4).k.agg=false:=aek
theorem u4b:(U 4).bytes=1:=aek
theorem u4f:fit (U 4).zero 1:=aeg
theorem u4n:bA (U 4).zero=false:=aek
theorem Hw(l:List Bool):One (l.map jT):=One.map (fun _=>rfl) l
theorem P0(y:AV)(st:List Bool)(n:aQ)(h0 h:Heap)(hy:WrA 4 h0 h y (st.map jT))(hl:st.length≤1000000):
  ai Tryz.prog 268 [y,cF n] h fun r h' =>∃z,r= .tup [z,.v (.bool (iM st n).isSome)]∧match iM st n with
   |none=>Ab.Sub h0 h'
   |some st' =>WrA 4 h0 h' z (st'.map jT):=by
 refine ad3 Tryz.func268 60 [.tmp 4,.tmp 5] fun hwf=>?_
 simp only[go_sem,cF];intro id hid;simp only[go_sem];have hyb:=hy.base hid (some (.obj [.i n.op,.i n.val.kind,.i n.val.n,.s n.val.s,.i n.attr.cat,.s n.attr.name,.b n.attr.must] 172));have hw:=N0 n.op (upd h id (some (.obj [.i n.op,.i n.val.kind,.i n.val.n,.s n.val.s,.i n.attr.cat,.s n.attr.name,.b n.attr.must] 172)));cases hwd:iN n.op with
 |none=>
  rw[hwd]at hw;have hst:iM st n=none:=by grind [iM]
  refine hw.pthen ?_;exact ajZ
 |some w=>
  rw[hwd]at hw;have hwl:w.length≤2:=by
   grind [iN]
  refine hw.pthen ?_;simp only[go_sem];refine(Jn n _).pthen ?_;cases d1:jV n
  ·have hst:iM st n=none:=by grind [iM]
   exact ajZ
  cases d2:decide ((st.length:Int)<(w.length:Int))
  case true=>
   have e2:¬w.length≤st.length:=ad5;have hst:iM st n=none:=by grind [iM]
   simp only[go_sem,hyb.len,adU,d2];exact .mk _ (.refl _) (.aj hid) ⟨_,ah8,ahS⟩
  have e2:w.length≤st.length:=ad5;have w1:IntKind.i64.wrap ((st.length:Int) - (w.length:Int))=((st.length - w.length:Nat):Int):=aej;obtain⟨hb,ehb⟩:∃hb,upd h id (some (.obj [.i n.op,.i n.val.kind,.i n.val.n,.s n.val.s,.i n.attr.cat,.s n.attr.name,.b n.attr.must] 172))=hb:=⟨_,rfl⟩;have hbid:hb id=some (.obj [.i n.op,.i n.val.kind,.i n.val.n,.s n.val.s,.i n.attr.cat,.s n.attr.name,.b n.attr.must] 172):=ahA;have hsub:Ab.Sub h hb:=by rw[←ehb];exact .aj hid
  rw[ehb]at hyb⊢;simp only[go_sem,hyb.len,adU,d2,w1];refine .intro (fun m ρ h' =>h' =hb∧∃i:Nat,i≤w.length∧m=w.length - i∧(∀j,j<i→st[st.length - w.length+j]? =w[j]?)∧lk ρ 0=some y∧lk ρ 3=some (.ptr id 0)∧lk ρ 8=some (.i ((st.length - w.length:Nat):Int))∧lk ρ 36=some (.sl (w.map jT) .no)∧lk ρ 37=some (.i w.length)∧lk ρ 38=some (.i i)) w.length ?_ ?_
  ·refine⟨rfl,0,ad4,rfl,fun j hj=>ad4,?_,?_,?_,?_,?_,?_⟩<;>simp only[go_sem]
  ·rintro m ρ h' ⟨rfl,i,hi,rfl,hc,r0,r3,r8,r36,r37,r38⟩
   simp only[go_sem,r37,r38];refine .intro (fun e=>?_) (fun e=>?_)
   ·have hlt:i<w.length:=ad1 e
    have w2:IntKind.i64.wrap ((i:Int)+1)=((i+1:Nat):Int):=aej;have w3:IntKind.i64.wrap (((st.length - w.length:Nat):Int)+(i:Int))=((st.length - w.length+i:Nat):Int):=aej;have hlt2:st.length - w.length+i<st.length:=ad4;simp only[go_sem,r36,r38];refine .at i ad5 aef ?_;simp only[go_sem,r0,r8,adV,jT,w3];refine hyb.idx (Hw st) (st.length - w.length+i) rfl ad5 u4 u4a fun p hp=>?_
    simp only[go_sem,hp _,adV,jT];cases d3:(st[st.length - w.length+i]==w[i])
    ·have hst:iM st n=none:=by
      have:st.drop (st.length - w.length)≠w:=fun hh=>by
       grind
      simp[iM,hwd,this]
     simp only[go_sem];exact .mk _ (.refl _) hsub ⟨_,ah8,ahS⟩
    ·simp only[go_sem,r38,w2]
     refine⟨_,?_,rfl,i+1,ad4,rfl,fun j hj=>?_,?_,?_,?_,?_,?_,?_⟩
     ·omega
     ·grind
     all_goals simp only[go_sem,r0,r3,r8,r36,r37]
   ·have hge:i=w.length:=by grind
    subst hge;have hdrop:st.drop (st.length - w.length)=w:=by
     apply List.ext_getElem?
     grind
    have hst:iM st n=some (st.take (st.length - w.length)++ [n.op==2]):=by
     grind [iM]
    simp only[go_sem];refine .calls (hm1 id _) [0,1,2,3,4,5,6,7,8,9] (.hm1 hbid) ad7 rfl ?_;simp only[go_sem,r0,r8];refine hyb.cut (x:=.i64) (st.length - w.length) aek rfl aec u4 fun z hz=>?_
    rw[←List.map_take]at hz;simp only[go_sem,r3,gr];refine hz.app (zs:=[.b (n.op==2)]) (Hw _) (Hw [n.op==2]) u4 ad9 u4f u4n (fun k hk=>hk) (by grind [u4b]) fun z' h2 hz' =>?_
    refine⟨fun j b hj=>((Sub.hm1 (ah ..)).trans hz'.1) j b hj,?_⟩
    simp only[go_sem];have hz2:=hz'.less (Sub.aj (hy.1.none hid));refine .same (.refl _) ⟨z',ah8,?_⟩;rw[hst];simp only[List.map_append];exact hz2
theorem Fw{l:List aQ}(h:l.length≤32)(hs:fU [] l=none):kI l=1:=by
 grind [kI,Nat.not_lt]
theorem ku(st:List Bool):∀(l:List aQ) (i:Nat),fU st l=(match fU st (l.take i)with
  |none=>none
  |some st' =>fU st' (l.drop i))
 | [],i=>by simp[fU]
 |n::r,0=>aek
 |n::r,i+1=>by
  simp only[List.take_succ_cons,List.drop_succ_cons,fU];cases iM st n with
  |none=>rfl
  |some st' =>simp only;exact ku st' r i
theorem sk(st st' :List Bool)(l:List aQ)(h:fU st l=some st'):st'.length≤st.length+l.length:=by
 induction l generalizing st with
 |nil=>grind [fU,Option.some.injEq]
 |cons n r ih=>
  simp only[fU]at h;cases hs:iM st n with
  |none=>grind
  |some s2=>
   grind [iM]
theorem HG(l:List aQ)(h:Heap):ai Tryz.prog 238 [fy l] h fun r h' =>r= .i (kI l)∧h' =h:=by
 refine ad3 Tryz.func238 38 [.tmp 2] fun hwf=>?_
 cases d1:decide (32<(l.length:Int))
 case true=>
  have e1:32<l.length:=ad5;simp only[go_sem,fy,adU,d1];exact .same (.refl _) ⟨by grind [kI,ax],rfl⟩
 have e1:l.length≤32:=ad5;simp only[go_sem,fy,adU,d1];refine .intro (fun m ρ h' =>∃(i:Nat) (y:AV) (st:List Bool),WrA 4 h h' y (st.map jT)∧fU [] (l.take i)=some st∧i≤l.length∧m=l.length - i∧
  lk ρ 0=some (fy l)∧lk ρ 3=some y∧lk ρ 10=some (fy l)∧lk ρ 11=some (.i l.length)∧lk ρ 12=some (.i i)) l.length ?_ ?_
 ·refine⟨0,_,[],.nil (.refl _),rfl,ad4,rfl,?_,?_,?_,?_,?_⟩<;>simp only[go_sem,fy]
 ·rintro m ρ h' ⟨i,y,st,hy,hst,hi,rfl,r0,r3,r10,r11,r12⟩
  have hsl:=sk _ _ _ hst;have hsl:st.length≤i:=ad5;simp only[go_sem,r11,r12];refine .intro (fun e=>?_) (fun e=>?_)
  ·have hlt:i<l.length:=ad1 e
   have w1:IntKind.i64.wrap ((i:Int)+1)=((i+1:Nat):Int):=aej;have hnx:fU [] (l.take (i+1))=iM st l[i]:=by
    rw[ku [] _ i,List.take_take,Nat.min_eq_left ad4,hst,List.take_succ_eq_append_getElem hlt,List.drop_append_of_le_length ad5,List.drop_of_length_le ad5]
    grind [fU,iM]
   simp only[go_sem,r10,r12,fy];refine .at i ad5 aef ?_;simp only[go_sem,adV,cF];intro id hid;simp only[go_sem,r3];have hyb:=hy.sub (Sub.aj (k:=some (.obj [.i l[i].op,.i l[i].val.kind,.i l[i].val.n,.s l[i].val.s,.i l[i].attr.cat,.s l[i].attr.name,.b l[i].attr.must] 172)) hid);refine(P0 y st l[i] h _ hyb ad4).mono fun r h2 ⟨z,e2,hz⟩=>?_
   subst e2;cases hsd:iM st l[i]with
   |none=>
    rw[hsd]at hz;simp only[go_sem,Option.isSome_none];refine .mk _ (.refl _) hz ⟨?_,rfl⟩;rw[Fw e1 (by rw[ku [] l (i+1),hnx,hsd])];rfl
   |some st' =>
    rw[hsd]at hz hnx;simp only[go_sem,r12,Option.isSome_some,w1];refine⟨_,?_,i+1,z,st',hz,hnx,ad4,rfl,?_,?_,?_,?_,?_⟩
    ·omega
    all_goals simp only[go_sem,r0,r10,r11,fy]
  ·have hge:i=l.length:=by grind
   subst hge;rw[List.take_length]at hst;have he:kI l=if l= []∨st= [false]then 0 else 1:=by
    simp_all [kI,if_neg]
   cases d2:decide (0<(l.length:Int))
   ·have e2:l= []:=by simp_all
    simp only[go_sem,r0,fy,adU,d2];exact .mk _ (.refl _) hy.1 ⟨by rw[he,if_pos (.inl e2)];rfl,rfl⟩
   have e2:l≠ []:=ad5;cases d3:((st.length:Int) !=1)
   case true=>
    have e3:st≠ [false]:=ad5;simp only[go_sem,r0,r3,fy,adU,d2,hy.len,d3];exact .mk _ (.refl _) hy.1 ⟨by rw[he,if_neg ad5];rfl,rfl⟩
   have e3:st.length=1:=by
    grind
   obtain⟨b,rfl⟩:=List.length_eq_one_iff.1 e3;simp only[go_sem,r0,r3,fy,adU,d2,hy.len];refine hy.idx (Hw [b]) 0 rfl aec u4 u4a fun p hp=>?_
   simp only[go_sem,hp _,jT,List.getElem_cons_zero];cases b
   ·simp only[go_sem]
    exact .mk _ (.refl _) hy.1 ⟨by rw[he,if_pos (.inr rfl)];rfl,rfl⟩
   ·simp only[go_sem]
    exact .mk _ (.refl _) hy.1 ⟨by rw[he,if_neg ad5];rfl,rfl⟩
def Keeps(S:List Nat)(h h' :Heap):Prop:=∀j k,j∉S→h j=some k→h' j=some k
theorem Keeps.trans{S:List Nat}{a b c:Heap}(x:Keeps S a b)(y:Keeps S b c):Keeps S a c:=fun j k hj e=>y j k hj (x j k hj e)
theorem Keeps.of{S:List Nat}{a b:Heap}(x:Ab.Sub a b):Keeps S a b:=fun j k _ e=>x j k e
theorem Keeps.upd{S:List Nat}{a:Heap}{i:Nat}{b:Option Blk}(hi:i∈S):Keeps S a (Ab.upd a i b):=fun j k hj e=>by
 grind [ag]
def iB(h:Heap)(idw mid:Nat)(m:eJ):Prop:=h idw=some (.obj [.mp mid,.i m.rules] 247)∧h mid=some (.mp (Al m.met))∧(∀l∈m.met,l.length≤16)∧m.rules≤64
theorem iB.ne{h:Heap}{idw mid:Nat}{m:eJ}(hw:iB h idw mid m):idw≠mid:=fun e=>by
 have h1:=hw.1;have h2:=hw.2.1
 rw[e,h2]at h1;cases h1
theorem iB.keep{h h' :Heap}{idw mid:Nat}{m:eJ}(hw:iB h idw mid m)(hs:Ab.Sub h h'):iB h' idw mid m:=⟨hs _ _ hw.1,hs _ _ hw.2.1,hw.2.2⟩
theorem YU:(U 355).sz=0:=aek
theorem Gn{s:Txt}(h:bp s=true):s.length≤16:=by
 grind [bp]
theorem yV{m:eJ}{s:Txt}(h:s∈m.met∨bp s=false):jo m s=none:=by
 unfold jo
 grind
theorem E3(idw mid:Nat)(m:eJ)(s:Txt)(h:Heap)(hw:iB h idw mid m):ai Tryz.prog 235 [.ptr idw 0,.s s] h fun r h' =>match jo m s with
  |none=>r= .b false∧Ab.Sub h h'
  |some m' =>r= .b true∧Keeps [idw,mid] h h'∧iB h' idw mid m' :=by
 refine ad3 Tryz.func235 28 [.tmp 4] fun hwf=>?_
 obtain⟨w1,w2,w3,w4⟩:=hw;have hlen:s.length≤maxLen:=by
  have:=hwf (.s s) aec;simp only[wfA,wf1,lim]at this;unfold maxLen;omega
 have hkeys:AB .str (Al m.met):=JV fun l hl=>by grind [maxLen]
 simp only[go_sem,w1,w2];refine⟨hlen,.inr aek,hkeys,?_⟩;rw[J1 _ _ YU];simp only[go_sem];intro idv hidv;simp only[go_sem];cases d1:decide (s∈m.met)
 case true=>
  have hm:=yV (.inl (adW d1));simp only[go_sem];rw[hm];exact .mk _ (.refl _) (.aj hidv) ⟨rfl,.refl _⟩
 have e1:=adX d1;simp only[go_sem];refine(pH _ _).pthen ?_;cases d2:bp s
 ·have hm:=yV (m:=m) (.inr d2)
  simp only[go_sem];rw[hm];exact .mk _ (.refl _) (.aj hidv) ⟨rfl,.refl _⟩
 have hm:jo m s=some ⟨m.met++ [s],m.rules⟩:=by grind [jo]
 have w1' :upd h idv (some (.obj [] 355)) idw=some (.obj [.mp mid,.i m.rules] 247):=aeJ;have w2' :upd h idv (some (.obj [] 355)) mid=some (.mp (Al m.met)):=aeJ;simp only[go_sem,w1',w2'];refine⟨hlen,hkeys,?_⟩;rw[NA e1];rw[hm];refine .same (.refl _) ⟨rfl,(Keeps.of (.aj hidv)).trans (.upd aec),?_,?_,?_,w4⟩
 ·grind [ag]
 ·rw[ah]
 grind [List.mem_singleton,Gn]
theorem N4(idw mid:Nat)(m:eJ)(r:cU)(h:Heap)(hw:iB h idw mid m):ai Tryz.prog 199 [.ptr idw 0,aB r] h fun x h' =>x= .v (.int .i64 (gC m r).err)∧Keeps [idw,mid] h h'∧∀m',gC m r= .ok m'→iB h' idw mid m' :=by
 refine ad3 Tryz.func199 39 [.tmp 4] fun hwf=>?_
 simp only[go_sem,aB,aW,fy,ay];intro id hid;have n1:idw≠id:=fun e=>by have:=hw.1;rw[e,hid]at this;cases this
 have n2:mid≠id:=fun e=>by have:=hw.2.1;rw[e,hid]at this;cases this
 have hwb:=hw.keep (Sub.aj (k:=some (.obj [.s r.id,.b r.deny,.sl (r.tgt.map cB) .no,.sl (r.cond.map cF) .no,.sl (r.obls.map aY) .no] 167)) hid);have hk0:Keeps [idw,mid] h (upd h id (some (.obj [.s r.id,.b r.deny,.sl (r.tgt.map cB) .no,.sl (r.cond.map cF) .no,.sl (r.obls.map aY) .no] 167))):=.of (.aj hid);simp only[go_sem];obtain⟨hb,ehb⟩:∃hb,upd h id (some (.obj [.s r.id,.b r.deny,.sl (r.tgt.map cB) .no,.sl (r.cond.map cF) .no,.sl (r.obls.map aY) .no] 167))=hb:=⟨_,rfl⟩;have hbid:hb id=some (.obj [.s r.id,.b r.deny,.sl (r.tgt.map cB) .no,.sl (r.cond.map cF) .no,.sl (r.obls.map aY) .no] 167):=ahA;rw[ehb]at hwb hk0⊢;refine(E3 idw mid m r.id hb hwb).mono fun x h2 hx=>?_
 cases hm:jo m r.id with
 |none=>
  rw[hm]at hx;obtain⟨rfl,hs⟩:=hx;have hr:gC m r= .bad 1:=by grind [gC]
  simp only[go_sem];exact .same (.refl _) ⟨aid,hk0.trans (.of hs),fun m' h' =>ad5⟩
 |some m1=>
  rw[hm]at hx;obtain⟨rfl,hk,hw2⟩:=hx;have g2:=hw2.1;have hle:=hw2.2.2.2;have hid2:h2 id=some (.obj [.s r.id,.b r.deny,.sl (r.tgt.map cB) .no,.sl (r.cond.map cF) .no,.sl (r.obls.map aY) .no] 167):=hk id _ ad5 hbid;have w1:IntKind.i64.wrap ((m1.rules:Int)+1)=((m1.rules+1:Nat):Int):=aej;have hk3:Keeps [idw,mid] h (upd h2 idw (some (.obj [.mp mid,.i ((m1.rules+1:Nat):Int)] 247))):=(hk0.trans hk).trans (.upd aec);have hid3:upd h2 idw (some (.obj [.mp mid,.i ((m1.rules+1:Nat):Int)] 247)) id=some (.obj [.s r.id,.b r.deny,.sl (r.tgt.map cB) .no,.sl (r.cond.map cF) .no,.sl (r.obls.map aY) .no] 167):=by
   grind [ag]
  cases d1:decide (64<((m1.rules+1:Nat):Int))
  case true=>
   have e1:m1.rules+1>64:=ad5;have hr:gC m r= .bad 6:=by grind [gC]
   simp only[go_sem,g2,w1,d1];exact ajf
  have e1:¬m1.rules+1>64:=ad5;have hr:gC m r=need (lR r.tgt) (need (kI r.cond) (need (iG r.obls) (.ok ⟨m1.met,m1.rules+1⟩))):=by grind [gC]
  simp only[go_sem,g2,w1,d1,hid3];refine(vC r.tgt _).pthen ?_;cases d2:(lR r.tgt !=0)
  case true=>
   have e2:lR r.tgt≠0:=ad5;have hr:gC m r= .bad (lR r.tgt):=by grind [need]
   simp only[go_sem,d2];exact ajf
  have e2:lR r.tgt=0:=ad5;rw[need,if_pos e2]at hr;simp only[go_sem,d2,hid3];refine(HG r.cond _).pthen ?_;cases d3:(kI r.cond !=0)
  case true=>
   have e3:kI r.cond≠0:=ad5;have hr:gC m r= .bad (kI r.cond):=by grind [need]
   simp only[go_sem,d3];exact ajf
  have e3:kI r.cond=0:=ad5;rw[need,if_pos e3]at hr;simp only[go_sem,d3,hid3];refine(Cp r.obls _).pthen ?_;simp only[go_sem]
  by_cases e4:iG r.obls=0
  ·rw[need,if_pos e4]at hr
   refine .same (.refl _) ⟨by rw[hr,e4];rfl,hk3,fun m' h' =>?_⟩
   rw[hr]at h';cases h';refine⟨ah ..,?_,hw2.2.2.1,ad5⟩;rw[ag _ _ hw2.ne.symm];exact hw2.2.1
  ·rw[need,if_neg e4]at hr
   exact ajf
theorem yA{m:eJ}{id:Txt}{set:Bool}{alg:Int}{tgt:fY}{nr nk:Nat}{obls:List cy}(h:jo m id=none):fk m id set alg tgt nr nk obls= .bad 1:=by
 grind [fk]
theorem N2(idw mid:Nat)(m:eJ)(id:Txt)(set:Bool)(alg:Int)(tgt:fY)(rules:List cU)(kids:List bD)(obls:List cy)(h:Heap)(hw:iB h idw mid m):
  ai Tryz.prog 198 [.ptr idw 0,aK (.mk id set alg tgt rules kids obls)] h fun x h' =>x= .v (.int .i64 (fk m id set alg tgt rules.length kids.length obls).err)∧Keeps [idw,mid] h h'∧∀m',fk m id set alg tgt rules.length kids.length obls= .ok m'→iB h' idw mid m' :=by
 refine ad3 Tryz.func198 68 [.tmp 4] fun hwf=>?_
 simp only[go_sem,aK,aW,ay];intro ip hip;have n1:idw≠ip:=fun e=>by have:=hw.1;rw[e,hip]at this;cases this
 have n2:mid≠ip:=fun e=>by have:=hw.2.1;rw[e,hip]at this;cases this
 have hwb:=hw.keep (Sub.aj (k:=some (.obj [.s id,.b set,.i alg,.sl (tgt.map cB) .no,.sl (rules.map aB) .no,.sl (fC kids) .no,.sl (obls.map aY) .no] 49)) hip);have hk0:Keeps [idw,mid] h (upd h ip (some (.obj [.s id,.b set,.i alg,.sl (tgt.map cB) .no,.sl (rules.map aB) .no,.sl (fC kids) .no,.sl (obls.map aY) .no] 49))):=.of (.aj hip);simp only[go_sem];obtain⟨hb,ehb⟩:∃hb,upd h ip (some (.obj [.s id,.b set,.i alg,.sl (tgt.map cB) .no,.sl (rules.map aB) .no,.sl (fC kids) .no,.sl (obls.map aY) .no] 49))=hb:=⟨_,rfl⟩;have hbip:hb ip=some (.obj [.s id,.b set,.i alg,.sl (tgt.map cB) .no,.sl (rules.map aB) .no,.sl (fC kids) .no,.sl (obls.map aY) .no] 49):=ahA;rw[ehb]at hwb hk0⊢;refine(E3 idw mid m id hb hwb).mono fun x h2 hx=>?_
 cases hm:jo m id with
 |none=>
  rw[hm]at hx;obtain⟨rfl,hs⟩:=hx;simp only[go_sem];exact .same (.refl _) ⟨by rw[yA hm];rfl,hk0.trans (.of hs),fun m' h' =>by rw[yA hm]at h';cases h'⟩
 |some m1=>
  rw[hm]at hx;obtain⟨rfl,hk,hw2⟩:=hx;have hip2:h2 ip=some (.obj [.s id,.b set,.i alg,.sl (tgt.map cB) .no,.sl (rules.map aB) .no,.sl (fC kids) .no,.sl (obls.map aY) .no] 49):=hk ip _ (by simp[n1.symm,n2.symm]) hbip
  have hkk:=hk0.trans hk;have bad:∀e,fk m id set alg tgt rules.length kids.length obls= .bad e→(.i e:AV)= .v (.int .i64 (fk m id set alg tgt rules.length kids.length obls).err)∧Keeps [idw,mid] h h2∧∀m',fk m id set alg tgt rules.length kids.length obls= .ok m'→iB h2 idw mid m' :=
   fun e he=>⟨by rw[he];rfl,hkk,fun m' h' =>by rw[he]at h';cases h'⟩
  cases d1:decide (alg<1)
  case true=>
   have e1:=adW d1;simp only[go_sem,d1,hip2];exact .same (.refl _) (bad 1 (by simp[fk,hm,e1]))
  cases d2:decide (6<alg)
  case true=>
   have e2:=adW d2;simp only[go_sem,d1,d2,hip2];exact .same (.refl _) (bad 1 (by simp[fk,hm,e2]))
  have e1:¬(alg<1∨alg>6):=by have:=adX d1;have:=adX d2;omega
  have tail:∀(z:Unit),¬(set=true∧rules.length>0∨set=false∧(kids.length>0∨alg=4))→fk m id set alg tgt rules.length kids.length obls=need (lR tgt) (need (iG obls) (if rules.length>16∨kids.length>16 then .bad 6 else .ok m1)):=fun _ hh=>by
   simp only[fk,hm];rw[if_neg e1,if_neg hh]
  cases set
  ·cases d4:decide (0<(kids.length:Int))
   case true=>
    have f4:0<kids.length:=by have:=adW d4;omega
    simp -implicitDefEqProofs only[go_sem,d1,d2,hip2,aX,adU,d4];exact .same (.refl _) (bad 1 (by simp[fk,hm,e1,f4]))
   have g4:¬0<kids.length:=by have:=adX d4;omega
   cases d5:(alg==4)
   case true=>
    have f5:alg=4:=by simpa using d5
    simp -implicitDefEqProofs only[go_sem,d1,d2,hip2,aX,adU,d4,d5];exact .same (.refl _) (bad 1 (by simp[fk,hm,f5]))
   have g5:alg≠4:=by simpa using d5
   simp -implicitDefEqProofs only[go_sem,d1,d2,hip2,aX,adU,d4,d5];have e3:=tail () (by simp[g4,g5])
   refine(vC tgt _).pthen ?_;cases t1:(lR tgt !=0)
   case true=>
    exact ajw
   have f1:lR tgt=0:=by simpa using t1
   simp only[go_sem,t1,hip2];refine(Cp obls _).pthen ?_;cases t2:(iG obls !=0)
   case true=>
    exact ajt
   have f2:iG obls=0:=by simpa using t2
   cases t3:decide (16<(rules.length:Int))
   case true=>
    exact aji
   have f3:¬16<rules.length:=by have:=adX t3;omega
   cases t4:decide (16<(kids.length:Int))
   case true=>
    exact ajg
   have f4:¬16<kids.length:=by have:=adX t4;omega
   simp only[go_sem,t2,hip2,adU,t3,aX,t4];have e4:fk m id false alg tgt rules.length kids.length obls= .ok m1:=by rw[e3];simp[need,f1,f2,f3,f4]
   exact ajK
  ·cases d3:decide (0<(rules.length:Int))
   case true=>
    have f3:0<rules.length:=by have:=adW d3;omega
    simp -implicitDefEqProofs only[go_sem,d1,d2,hip2,adU,d3];exact .same (.refl _) (bad 1 (by simp[fk,hm,e1,f3]))
   have g3:¬0<rules.length:=by have:=adX d3;omega
   simp -implicitDefEqProofs only[go_sem,d1,d2,hip2,adU,d3];have e3:=tail () (by simp[g3])
   refine(vC tgt _).pthen ?_;cases t1:(lR tgt !=0)
   case true=>
    exact ajw
   have f1:lR tgt=0:=by simpa using t1
   simp only[go_sem,t1,hip2];refine(Cp obls _).pthen ?_;cases t2:(iG obls !=0)
   case true=>
    exact ajt
   have f2:iG obls=0:=by simpa using t2
   cases t3:decide (16<(rules.length:Int))
   case true=>
    exact aji
   have f3:¬16<rules.length:=by have:=adX t3;omega
   cases t4:decide (16<(kids.length:Int))
   case true=>
    exact ajg
   have f4:¬16<kids.length:=by have:=adX t4;omega
   simp only[go_sem,t2,hip2,adU,t3,aX,t4];have e4:fk m id true alg tgt rules.length kids.length obls= .ok m1:=by rw[e3];simp[need,f1,f2,f3,f4]
   exact ajK
theorem Ek(k:bD):(aK k).cells.length=7:=by
 cases k;rfl
theorem vq{m:eJ}{d:Nat}{p:bD}(h:4<d):kU m d p= .bad 6:=by
 cases p;grind [kU]
theorem vr{m:eJ}{d:Nat}{id:Txt}{set:Bool}{alg:Int}{tgt:fY}{rules:List cU}{kids:List bD}{obls:List cy}{e:Int}(h:¬4<d)
  (hh:fk m id set alg tgt rules.length kids.length obls= .bad e):kU m d (.mk id set alg tgt rules kids obls)= .bad e:=by
 grind [kU]
theorem zj{m m1:eJ}{d:Nat}{id:Txt}{set:Bool}{alg:Int}{tgt:fY}{rules:List cU}{kids:List bD}{obls:List cy}{e:Int}(h:¬4<d)
  (hh:fk m id set alg tgt rules.length kids.length obls= .ok m1) (hr:fD m1 rules= .bad e):kU m d (.mk id set alg tgt rules kids obls)= .bad e:=by
 grind [kU]
theorem Bi{m m1 m2:eJ}{d:Nat}{id:Txt}{set:Bool}{alg:Int}{tgt:fY}{rules:List cU}{kids:List bD}{obls:List cy}(h:¬4<d)
  (hh:fk m id set alg tgt rules.length kids.length obls= .ok m1) (hr:fD m1 rules= .ok m2):kU m d (.mk id set alg tgt rules kids obls)=iX m2 (d+1) kids:=by
 grind [kU]
theorem uh:∀(n d:Nat) (m:eJ) (p:bD) (e:Int),d+n=5→kU m d p= .bad e→e≠0
 |0,d,m,p,e,hd,h=>by grind [vq]
 |n+1,d,m,.mk id set alg tgt rules kids obls,e,hd,h=>by
  by_cases h4:4<d
  ·omega
  cases hh:fk m id set alg tgt rules.length kids.length obls with
  |bad e' =>grind [vr,AU]
  |ok m1=>
   cases hr:fD m1 rules with
   |bad e' =>
    rw[zj h4 hh hr]at h;cases h
    clear hh hd
    induction rules generalizing m1 with
    |nil=>cases hr
    |cons r l ih=>
     grind [fD,gC,Bt]
   |ok m2=>
    rw[Bi h4 hh hr]at h;have ih:=fun m p e=>uh n (d+1) m p e ad4
    clear hh hr
    induction kids generalizing m2 with
    |nil=>cases h
    |cons k l ihk=>
     simp only[iX]at h;cases hx:kU m2 (d+1) k with
     |bad x=>rw[hx]at h;cases h;exact ih _ _ _ hx
     |ok m3=>rw[hx]at h;exact ihk m3 h
theorem Ie{e:Int}{w:Went}{m:eJ}(h:need e w= .ok m):e=0∧w= .ok m:=by
 grind [need]
theorem Mc{m m1:eJ}{id:Txt}{set:Bool}{alg:Int}{tgt:fY}{nr nk:Nat}{obls:List cy}(h:fk m id set alg tgt nr nk obls= .ok m1):
  jo m id=some m1∧1≤alg∧alg≤6∧(set=true→nr=0)∧(set=false→nk=0∧alg≠4)∧lR tgt=0∧iG obls=0∧nr≤16∧nk≤16:=by
 unfold fk at h;split at h
 ·cases h
 split at h
 ·cases h
 split at h
 ·cases h
 obtain⟨h3,h⟩:=Ie h;obtain⟨h4,h⟩:=Ie h
 grind
theorem IP:∀(n d:Nat),d+n=5→∀(idw mid:Nat) (m:eJ) (p:bD) (h:Heap),iB h idw mid m→
  ai Tryz.prog 149 [.ptr idw 0,aK p,.i d] h fun x h' =>x= .v (.int .i64 (kU m d p).err)∧Keeps [idw,mid] h h'∧∀m',kU m d p= .ok m'→iB h' idw mid m'
 |n,d,hd,idw,mid,m,.mk id set alg tgt rules kids obls,h,hw=>by
  refine ad3 Tryz.func149 52 [.tmp 6] fun hwf=>?_
  simp only[go_sem,aK,aW,ay];intro ip hip;have n1:idw≠ip:=fun e=>by have:=hw.1;rw[e,hip]at this;cases this
  have n2:mid≠ip:=fun e=>by have:=hw.2.1;rw[e,hip]at this;cases this
  have hwb:=hw.keep (Sub.aj (k:=some (.obj [.s id,.b set,.i alg,.sl (tgt.map cB) .no,.sl (rules.map aB) .no,.sl (fC kids) .no,.sl (obls.map aY) .no] 49)) hip);have hk0:Keeps [idw,mid] h (upd h ip (some (.obj [.s id,.b set,.i alg,.sl (tgt.map cB) .no,.sl (rules.map aB) .no,.sl (fC kids) .no,.sl (obls.map aY) .no] 49))):=.of (.aj hip);obtain⟨hb,ehb⟩:∃hb,upd h ip (some (.obj [.s id,.b set,.i alg,.sl (tgt.map cB) .no,.sl (rules.map aB) .no,.sl (fC kids) .no,.sl (obls.map aY) .no] 49))=hb:=⟨_,rfl⟩;have hbip:hb ip=some (.obj [.s id,.b set,.i alg,.sl (tgt.map cB) .no,.sl (rules.map aB) .no,.sl (fC kids) .no,.sl (obls.map aY) .no] 49):=ahA;rw[ehb]at hwb hk0⊢;cases d0:decide (4<(d:Int))
  case true=>
   have e0:4<d:=ad5;simp only[go_sem,d0];exact .same (.refl _) ⟨by rw[vq e0];rfl,hk0,fun m' h' =>by grind [vq]⟩
  have e0:¬4<d:=ad5;simp only[go_sem,d0,hbip];have hhead:=N2 idw mid m id set alg tgt rules kids obls hb hwb;simp only[aK,aW,ay]at hhead;refine hhead.mono fun x h2 ⟨ex,hk,hw2⟩=>?_
  subst ex;have hk2:=hk0.trans hk;cases hh:fk m id set alg tgt rules.length kids.length obls with
  |bad e=>
   have hne:=AU hh;have t1:(e !=0)=true:=ad5;simp only[go_sem,Went.err,t1];exact .same (.refl _) ⟨by rw[vr e0 hh];rfl,hk2,fun m' h' =>by grind [vr]⟩
  |ok m1=>
   have hw2:=hw2 _ hh;have hle:=(Mc hh).2.2.2.2.2.2.2;have hip2:=hk ip _ ad5 hbip;simp only[go_sem,Went.err,hip2,adU];refine .intro (fun k ρ h' =>∃(i:Nat) (mi:eJ),i≤rules.length∧k=rules.length - i∧fD m1 (rules.take i)= .ok mi∧Keeps [idw,mid] h h'∧iB h' idw mid mi∧
    h' ip=some (.obj [.s id,.b set,.i alg,.sl (tgt.map cB) .no,.sl (rules.map aB) .no,.sl (fC kids) .no,.sl (obls.map aY) .no] 49)∧
    lk ρ 0=some (.ptr idw 0)∧lk ρ 2=some (.i d)∧lk ρ 4=some (.ptr ip 0)∧lk ρ 23=some (.sl (rules.map aB) .no)∧lk ρ 24=some (.i rules.length)∧lk ρ 25=some (.i i)) rules.length ?_ ?_
   ·refine⟨0,m1,ad4,rfl,rfl,hk2,hw2,hip2,?_,?_,?_,?_,?_,?_⟩<;>simp only[go_sem]
   ·rintro k ρ h' ⟨i,mi,hi,rfl,hri,hki,hwi,hipi,r0,r2,r4,r23,r24,r25⟩
    simp only[go_sem,r24,r25];refine .intro (fun e=>?_) (fun e=>?_)
    ·have hlt:i<rules.length:=ad1 e
     have w1:IntKind.i64.wrap ((i:Int)+1)=((i+1:Nat):Int):=aej;simp only[go_sem,r23,r25];refine .at i ad5 aef ?_;simp only[go_sem,adV,aB];intro ir hir;have hrl:=N4 idw mid mi rules[i] _ (hwi.keep (Sub.aj (k:=some (.obj [.s rules[i].id,.b rules[i].deny,aW rules[i].tgt,fy rules[i].cond,ay rules[i].obls] 167)) hir));simp only[aB]at hrl;simp only[go_sem,r0];refine hrl.mono fun x h3 ⟨ex,hk3,hw3⟩=>?_
     subst ex;have hk4:=(hki.trans (.of (Sub.aj hir))).trans hk3;have hip3:=hk3 ip _ ad5 ((Sub.aj hir) _ _ hipi);cases hx:gC mi rules[i]with
     |bad x=>
      have t1:(x !=0)=true:=by grind [Bt]
      simp only[go_sem,Went.err,t1];have hp:=zj (d:=d) (kids:=kids) e0 hh (EC hlt hri hx);exact .same (.refl _) ⟨by rw[hp];rfl,hk4,fun m' h' =>ad5⟩
     |ok m3=>
      simp only[go_sem,r25,Went.err,w1];refine⟨_,?_,i+1,m3,ad4,rfl,by grind [wK],hk4,hw3 _ hx,hip3,?_,?_,?_,?_,?_,?_⟩
      ·omega
      all_goals simp only[go_sem,r0,r2,r4,r23,r24]
    ·have hge:i=rules.length:=by grind
     subst hge;rw[List.take_length]at hri;have hpk:=Bi (d:=d) (kids:=kids) e0 hh hri;simp only[go_sem,r4,hipi,aX,adU];refine .intro (fun k ρ h' =>∃(i:Nat) (mj:eJ),i≤kids.length∧k=kids.length - i∧iX mi (d+1) (kids.take i)= .ok mj∧Keeps [idw,mid] h h'∧iB h' idw mid mj∧
      lk ρ 0=some (.ptr idw 0)∧lk ρ 2=some (.i d)∧lk ρ 37=some (.sl (kids.map aK) .no)∧lk ρ 38=some (.i kids.length)∧lk ρ 39=some (.i i)) kids.length ?_ ?_
     ·refine⟨0,mi,ad4,rfl,rfl,hki,hwi,?_,?_,?_,?_,?_⟩<;>simp only[go_sem,r0,r2]
     ·rintro k ρ h' ⟨i,mj,hi,rfl,hkj,hki,hwi,r0,r2,r37,r38,r39⟩
      simp only[go_sem,r38,r39];refine .intro (fun e=>?_) (fun e=>?_)
      ·have hlt:i<kids.length:=ad1 e
       have w1:IntKind.i64.wrap ((i:Int)+1)=((i+1:Nat):Int):=aej;have w2:IntKind.i64.wrap ((d:Int)+1)=((d+1:Nat):Int):=aej;obtain⟨n',rfl⟩:∃n',n=n' +1:=⟨n - 1,ad4⟩;have hrec:=IP n' (d+1) ad4 idw mid mj kids[i];cases hki' :kids[i]with
       |mk kid kset kalg ktgt krules kkids kobls=>
       rw[hki']at hrec;simp only[aK,aW,ay]at hrec;simp only[go_sem,r37,r39];refine .at i ad5 (by grind [Ek]) ?_
       simp only[go_sem,adV,hki',aK,aW,ay];intro ir hir;simp only[go_sem,r0,r2,w2];refine(hrec _ (hwi.keep (Sub.aj hir))).mono fun x h3 ⟨ex,hk3,hw3⟩=>?_
       subst ex;have hk4:=(hki.trans (.of (Sub.aj hir))).trans hk3;cases hx:kU mj (d+1) (.mk kid kset kalg ktgt krules kkids kobls)with
       |bad x=>
        have t1:(x !=0)=true:=by simpa using uh n' (d+1) _ _ _ ad4 hx
        simp only[go_sem,Went.err,t1];have hp:=Gb hlt hkj (by rw[hki'];exact hx)
        exact .same (.refl _) ⟨by rw[hpk,hp];rfl,hk4,fun m' h' =>ad5⟩
       |ok m3=>
        simp only[go_sem,r39,Went.err,w1];refine⟨_,?_,i+1,m3,ad4,rfl,by grind [yH],hk4,hw3 _ hx,?_,?_,?_,?_,?_⟩
        ·omega
        all_goals simp only[go_sem,r0,r2,r37,r38]
      ·have hge:i=kids.length:=by grind
       subst hge;rw[List.take_length]at hkj;simp only[go_sem];exact .same (.refl _) ⟨by rw[hpk,hkj];rfl,hki,fun m' h' =>ad5⟩
theorem yY{h:Heap}{i j:Nat}{b:Blk}(e:upd h i (some b) j=none):j≠i:=fun hh=>by
 subst hh;rw[ah]at e;cases e
theorem uu(p:bD)(h:Heap):ai Tryz.prog 90 [aK p] h fun r h' =>r= .i (gI p)∧h' =h:=by
 cases p with
 |mk id set alg tgt rules kids obls=>
 refine ad3 Tryz.func90 10 [.tmp 2] fun hwf=>?_
 simp only[go_sem,aK,aW,ay];intro ip hip;simp only[go_sem];intro im him;simp only[go_sem];intro iw hiw;have n1:=yY him;have n2:=yY hiw;have hiw1:=hiw;rw[ag _ _ n2]at hiw1;have n3:=yY hiw1;have s1:Ab.Sub h (upd (upd (upd h ip (some (.obj [.s id,.b set,.i alg,.sl (tgt.map cB) .no,.sl (rules.map aB) .no,.sl (fC kids) .no,.sl (obls.map aY) .no] 49))) im (some (.mp []))) iw (some (.obj [.mp im,.i 0] 247))):=
  ((Sub.aj hip).trans (.aj him)).trans (.aj hiw)
 obtain⟨h3,e3⟩:∃h3,upd (upd (upd h ip (some (.obj [.s id,.b set,.i alg,.sl (tgt.map cB) .no,.sl (rules.map aB) .no,.sl (fC kids) .no,.sl (obls.map aY) .no] 49))) im (some (.mp []))) iw (some (.obj [.mp im,.i 0] 247))=h3:=⟨_,rfl⟩;have g1:h3 ip=some (.obj [.s id,.b set,.i alg,.sl (tgt.map cB) .no,.sl (rules.map aB) .no,.sl (fC kids) .no,.sl (obls.map aY) .no] 49):=by
  rw[←e3,ag _ _ n3.symm,ag _ _ n1.symm,ah]
 have g2:iB h3 iw im ⟨[],0⟩:=by
  refine⟨by rw[←e3,ah];rfl,by rw[←e3,ag _ _ n2.symm,ah];rfl,fun l hl=>ad5,ad9⟩
 have hi0:h im=none:=aeJ;have hw0:h iw=none:=aeJ;simp only[go_sem];rw[e3]at s1⊢;simp only[go_sem,g1];have hp:=IP 4 1 rfl iw im ⟨[],0⟩ (.mk id set alg tgt rules kids obls) h3 g2;refine hp.mono fun x h4 ⟨ex,hk,_⟩=>?_
 subst ex;simp only[go_sem];refine .mk _ (.refl _) (fun j k hj=>?_) ⟨rfl,rfl⟩
 refine hk j k ?_ (s1 _ _ hj)
 grind
def j9(x:bD×Int×Int):AV:=.tup [aK x.1,.i x.2.1,.i x.2.2]
theorem jD(a b c:AV)(h:Weak a b)(d:AV):Weak (.tup [a,c,d]) (.tup [b,c,d]):=.tup _ _ rfl fun i h1 h2=>by
 rcases i with _|_|_|i
 ·exact ah0
 ·exact afq
 ·exact afq
 grind
theorem ze(s:Txt)(h:Heap)(he:iO h):ai Tryz.prog 43 [.s s] h fun r h' =>r=j9 (aR s)∧h' =h:=by
 refine ad3 Tryz.func43 61 [.cell 2 49,.tmp 3,.tmp 4] fun hwf=>?_
 simp only[go_sem];intro i2 hi2;simp only[go_sem];refine(xS s _ (he.sub (.aj hi2))).pthen ?_;cases el:pF s with
 |bad e a=>
  have e1:=tT el;have d1:(e !=0)=true:=by
   grind
  have efin:aR s=(oT,e,a):=by grind [aR]
  simp only[go_sem,Gf,d1];rw[efin];exact .mk (h' :=h) (j9 (oT,e,a)) (jD _ _ _ (gw _) _) (.aj hi2) ⟨rfl,rfl⟩
 |ok ts=>
  have efin:aR s=zc s ts:=by grind [aR]
  have hw:=KU el 0 0 0;have hpol:=Em 3 1 rfl ⟨ts,0,0,0,0⟩ hw (Nat.zero_le _);have hap:=xO 4 ⟨ts,0,0,0,0⟩ hw;obtain⟨⟨⟨pid,pset,palg,ptgt,prules,pkids,pobls⟩,st1⟩,ep⟩:∃x,gN 4 ⟨ts,0,0,0,0⟩=x:=⟨_,rfl⟩;rw[show 3+1=4 from rfl,ep]at hpol
  rw[ep]at hap;simp only[aK]at hpol hap;simp only[zc,ep]at efin;simp only[go_sem,Gf];intro i8 hi8;have n8:=aH hi8;have m82:¬i8=i2:=n8;have m28:¬i2=i8:=fun e=>n8 e.symm
  have hh8:h i8=none:=aeJ;simp only[go_sem];refine hpol.go (ah ..) ?_;rw[dZ];simp only[go_sem];intro i9 hi9;have n9:=aH hi9;have hi9' :=hi9;rw[ag _ _ n9]at hi9';have n92:=aH hi9';have m92:¬i9=i2:=n92;have m29:¬i2=i9:=fun e=>n92 e.symm
  have m98:¬i9=i8:=n9;have m89:¬i8=i9:=fun e=>n9 e.symm
  have hh9:h i9=none:=aeJ;have c9:∀(f:Heap) (x y:Option Blk),upd (upd f i8 x) i9 y=upd (upd f i9 y) i8 x:=fun f x y=>cw f x y n9.symm
  simp only[go_sem,c9,ak,m98];refine(mz st1 hap.1).run ?_;have subs:∀x y z,Sub h (upd (upd (upd h i2 x) i9 y) i8 z):=fun x y z=>((Sub.aj hi2).put hh9 _).put hh8 _
  cases d1:((aL st1).kind !=7)
  ·have k1:(aL st1).kind=7:=by grind
   have e2:(if(aL st1).kind=7 then st1 else br st1)=st1:=if_pos k1
   simp only[go_sem,fE,d1];cases db:((st1).bad==0)
   ·have eb:(st1).bad≠0:=by grind
    simp only[go_sem,PO,db];have eend:qk s (.mk pid pset palg ptgt prules pkids pobls,st1)=st1:=by
     simp_all [qk,if_neg]
    have hbb:(st1).bad≠0:=eb;have dn:((st1).bad !=0)=true:=ad5;simp only[go_sem,dn];refine .calls (hm1 i8 (PO (st1))) [0,1,2,3,4,5,6,7,8,9,10,11] (.hm1 (ah ..)) ad7 rfl ?_;simp only[go_sem,ak,m28,m29,PO,gr];refine⟨.hm1 ((ag _ _ n8).trans (ah ..)),?_⟩;have efin2:aR s=(oT,(st1).bad,(st1).place):=ad5;rw[efin2];exact .mk (h' :=h) (j9 (oT,(st1).bad,(st1).place)) (jD _ _ _ (gw _) _) (Sub.put (subs _ _ _) hi2 _) ⟨rfl,rfl⟩
   ·have eb:(st1).bad=0:=by grind
    simp only[go_sem,ak,m98,PO,db];refine(uu (.mk pid pset palg ptgt prules pkids pobls) _).pthen ?_;cases dr:(gI (.mk pid pset palg ptgt prules pkids pobls) !=0)
    ·have er:gI (.mk pid pset palg ptgt prules pkids pobls)=0:=by grind
     have dn:((st1).bad !=0)=false:=ad5;simp only[go_sem,ak,m28,m29,m98,dr,dn];have eend:qk s (.mk pid pset palg ptgt prules pkids pobls,st1)=st1:=by
      simp_all [qk,if_neg]
     exact ajW
    ·have er:gI (.mk pid pset palg ptgt prules pkids pobls)≠0:=by grind
     simp only[go_sem,dr];refine(rE (st1) 5 s.length).run ?_;have eend:qk s (.mk pid pset palg ptgt prules pkids pobls,st1)=bI (st1) 5 s.length:=by
      simp_all [qk,if_pos]
     have hwb:bI (st1) 5 s.length= {(st1)with bad:=5,place:=s.length}:=by rw[bI,if_pos eb]
     have hbb:(bI (st1) 5 s.length).bad≠0:=ad5;have dn:((bI (st1) 5 s.length).bad !=0)=true:=ad5;simp only[go_sem,PO,dn];refine .calls (hm1 i8 (PO (bI (st1) 5 s.length))) [0,1,2,3,4,5,6,7,8,9,10,11] (.hm1 (ah ..)) ad7 rfl ?_;simp only[go_sem,ak,m28,m29,PO,gr];refine⟨.hm1 ((ag _ _ n8).trans (ah ..)),?_⟩;have efin2:aR s=(oT,(bI (st1) 5 s.length).bad,(bI (st1) 5 s.length).place):=ad5;rw[efin2];exact .mk (h' :=h) (j9 (oT,(bI (st1) 5 s.length).bad,(bI (st1) 5 s.length).place)) (jD _ _ _ (gw _) _) (Sub.put (subs _ _ _) hi2 _) ⟨rfl,rfl⟩
  ·have k1:(aL st1).kind≠7:=by grind
   have e2:(if(aL st1).kind=7 then st1 else br st1)=br st1:=if_neg k1
   simp only[go_sem,fE,d1];refine(lP st1 hap.1).run ?_;simp only[go_sem];cases db:((br st1).bad==0)
   ·have eb:(br st1).bad≠0:=by grind
    simp only[go_sem,PO,db];have eend:qk s (.mk pid pset palg ptgt prules pkids pobls,st1)=br st1:=by
     simp_all [qk,if_neg]
    have hbb:(br st1).bad≠0:=eb;have dn:((br st1).bad !=0)=true:=ad5;simp only[go_sem,dn];refine .calls (hm1 i8 (PO (br st1))) [0,1,2,3,4,5,6,7,8,9,10,11] (.hm1 (ah ..)) ad7 rfl ?_;simp only[go_sem,ak,m28,m29,PO,gr];refine⟨.hm1 ((ag _ _ n8).trans (ah ..)),?_⟩;have efin2:aR s=(oT,(br st1).bad,(br st1).place):=ad5;rw[efin2];exact .mk (h' :=h) (j9 (oT,(br st1).bad,(br st1).place)) (jD _ _ _ (gw _) _) (Sub.put (subs _ _ _) hi2 _) ⟨rfl,rfl⟩
   ·have eb:(br st1).bad=0:=by grind
    simp only[go_sem,ak,m98,PO,db];refine(uu (.mk pid pset palg ptgt prules pkids pobls) _).pthen ?_;cases dr:(gI (.mk pid pset palg ptgt prules pkids pobls) !=0)
    ·have er:gI (.mk pid pset palg ptgt prules pkids pobls)=0:=by grind
     have dn:((br st1).bad !=0)=false:=ad5;simp only[go_sem,ak,m28,m29,m98,dr,dn];have eend:qk s (.mk pid pset palg ptgt prules pkids pobls,st1)=br st1:=by
      simp_all [qk,if_neg]
     exact ajW
    ·have er:gI (.mk pid pset palg ptgt prules pkids pobls)≠0:=by grind
     simp only[go_sem,dr];refine(rE (br st1) 5 s.length).run ?_;have eend:qk s (.mk pid pset palg ptgt prules pkids pobls,st1)=bI (br st1) 5 s.length:=by
      simp_all [qk,if_pos]
     have hwb:bI (br st1) 5 s.length= {(br st1)with bad:=5,place:=s.length}:=by rw[bI,if_pos eb]
     have hbb:(bI (br st1) 5 s.length).bad≠0:=ad5;have dn:((bI (br st1) 5 s.length).bad !=0)=true:=ad5;simp only[go_sem,PO,dn];refine .calls (hm1 i8 (PO (bI (br st1) 5 s.length))) [0,1,2,3,4,5,6,7,8,9,10,11] (.hm1 (ah ..)) ad7 rfl ?_;simp only[go_sem,ak,m28,m29,PO,gr];refine⟨.hm1 ((ag _ _ n8).trans (ah ..)),?_⟩;have efin2:aR s=(oT,(bI (br st1) 5 s.length).bad,(bI (br st1) 5 s.length).place):=ad5;rw[efin2];exact .mk (h' :=h) (j9 (oT,(bI (br st1) 5 s.length).bad,(bI (br st1) 5 s.length).place)) (jD _ _ _ (gw _) _) (Sub.put (subs _ _ _) hi2 _) ⟨rfl,rfl⟩
end Go.Proofs.YtbbadggejjgihaaGreatDoor
namespace Go.Ab
open Go
theorem OwE.keepb{tb:TypeId}{h0 h h' :Heap}{sz:Nat}{y:AV}{xs:List AV}(hw:OwE tb h0 h sz y xs)(hk:∀id,h0 id=Option.none→h id≠Option.none→h' id=h id):OwE tb h0 h' sz y xs:=
 hw.keep fun id e=>hk id (hw.nid e).1 (hw.nid e).2.1
end Go.Ab
namespace Go.Proofs.YtbbadggejjgihaaGreatDoor
open Go Go.Ab Go.Bf
theorem fq.keepb{h0 h h' :Heap}{ys:List AV}{x:AV}{c:aM}(hm:fq h0 h ys x c)(hk:∀id,h0 id=none→h id≠none→h' id=h id):fq h0 h' ys x c:=by
 obtain⟨f,l,e,a,b,c,d⟩:=hm;exact⟨f,l,e,a.keepb hk,b.keepb hk,c,d⟩
theorem mo.keepb{h0 h h' :Heap}{ys:List AV}{y:AV}{cs:List aM}{i0:Nat}(ho:mo h0 h ys y cs i0)(hk:∀id,h0 id=none→h id≠none→h' id=h id):mo h0 h' ys y cs i0:=by
 obtain⟨xs,a,b,c,d⟩:=ho;exact⟨xs,a.keepb hk,b,c,fun h1 h2=>(d h1 h2).keepb hk⟩
theorem sZ.keepb{h0 h h' :Heap}{x:AV}{s:an}{i0:Nat}(ho:sZ h0 h x s i0)(hk:∀id,h0 id=none→h id≠none→h' id=h id):sZ h0 h' x s i0:=by
 obtain⟨y1,y2,y3,y4,e,a,b,c,d,r⟩:=ho;exact⟨y1,y2,y3,y4,e,a.keepb hk,b.keepb hk,c.keepb hk,d.keepb hk,r⟩
theorem mo.keepx{h0 h h' :Heap}{ys:List AV}{y z:AV}{cs:List aM}{i0:Nat}(ho:mo h0 h ys y cs i0)(hz:z∈ys)(hy:apart y z)(hk:∀id,h0 id=none→h id≠none→nid z≠some id→h' id=h id):mo h0 h' ys y cs i0:=by
 obtain⟨xs,a,b,c,d⟩:=ho;refine⟨xs,a.keep fun id e=>hk id (a.nid e).1 (a.nid e).2.1 (hy id e),b,c,fun h1 h2=>?_⟩
 obtain⟨f,l,e,of,ol,hap,hys⟩:=d h1 h2;exact⟨f,l,e,of.keep fun id e=>hk id (of.nid e).1 (of.nid e).2.1 ((hys z hz).1 id e),ol.keep fun id e=>hk id (ol.nid e).1 (ol.nid e).2.1 ((hys z hz).2 id e),hap,hys⟩
theorem fq.frz{g h0 h:Heap}{ys:List AV}{x:AV}{c:aM}(hm:fq h0 h ys x c)(hg:Ab.Sub g h0):Frz g h x (bT c):=by
 obtain⟨f,l,rfl,a,b,_⟩:=hm;refine .agg _ _ rfl fun j h1 h2=>?_
 rcases j with _|_|_|_|_|j
 ·exact aep
 ·exact aep
 ·exact aep
 ·exact(a.less hg).frz (bn (fun _=>rfl) _)
 ·exact(b.less hg).frz (bn (fun _=>rfl) _)
 ·simp at h1;omega
theorem Jz{g h0 h:Heap}{y:AV}{xs:List AV}{cs:List aM}(hw:OwE 133 h0 h 5 y xs)(hg:Ab.Sub g h0)(hn:xs.length=cs.length)(hx:∀j (h1:j<xs.length) (h2:j<cs.length),Frz g h xs[j] (bT cs[j])):Frz g h y (fT cs):=by
 rcases hw with⟨rfl,rfl⟩|⟨id,h1,hw⟩
 ·have:cs= []:=by grind
  subst this;exact .sl [] [] .full rfl ad4 aec
 ·have hsz:∀i (h1:i<xs.length),xs[i].cells.length=5:=fun i h1=>hw.rd.1 _ aec
  refine hw.frz (hg.none h1) ad5 (fun i h1 h2=>by rw[hsz i h1,adV];rfl) fun i h1 h2 j h3 h4=>?_
  have h2' :i<cs.length:=ad4;have hf:=hx i h1 h2';have key:∀x y:AV,Frz g h x y→bA y=true→cM y=true→∀j (h3:j<x.cells.length) (h4:j<y.cells.length),Frz g h x.cells[j] y.cells[j]:=by
   intro x y hf ha hp j h3 h4;cases hf with
   |keep x hx=>exact .pure (nO hp _ (adZ h4))
   |agg xs ys hn hr=>exact hr j h3 h4
   |_=>cases ha
  have e:(cs.map bT)[i]'h2=bT cs[i]:=aec;simp only[e]at h4⊢;exact key _ _ hf rfl (by simp only[bT,mO,cM,gA,gF,sH,Bool.and_true,Bool.true_and,Bool.and_eq_true];exact⟨bn (fun _=>rfl) _,bn (fun _=>rfl) _⟩) j h3 h4
theorem mo.frz{g h0 h:Heap}{ys:List AV}{y:AV}{cs:List aM}{i0:Nat}(ho:mo h0 h ys y cs i0)(hg:Ab.Sub g h0):Frz g h y (fT cs):=by
 obtain⟨xs,a,b,c,d⟩:=ho;refine Jz a hg b fun j h1 h2=>?_
 by_cases e:j=i0
 ·subst e;exact(d h1 h2).frz hg
 grind [Du]
theorem M8{g h:Heap}(p:bD):∀x∈fZ p,Frz g h x x:=fun x hx=>by
 refine .pure (nO (x:=aK p) (Eo p) x ?_);rw[PA];exact hx
theorem Dv{g h:Heap}{xs:List AV}(hx:∀x∈xs,Frz g h x x):∀i (h1:i<xs.length) (h2:i<xs.length),Frz g h xs[i] xs[i]:=fun i h1 _=>hx _ (adZ h1)
theorem HN{g h:Heap}{ps bs cs ds:List AV}(n1:ps.length=bs.length)(n2:cs.length=ds.length)(h1:∀i (a:i<ps.length) (b:i<bs.length),Frz g h ps[i] bs[i])(h2:∀i (a:i<cs.length) (b:i<ds.length),Frz g h cs[i] ds[i]):
  ∀i (a:i<(ps++cs).length) (b:i<(bs++ds).length),Frz g h (ps++cs)[i] (bs++ds)[i]:=fun i a b=>by
 by_cases e:i<ps.length
 ·rw[List.getElem_append_left e,List.getElem_append_left ad4];exact h1 i e ad4
 ·rw[List.getElem_append_right ad4,List.getElem_append_right ad4]
  simp only[adY]at a b;have:=h2 (i - ps.length) ad4 ad4;simp only[n1]at this⊢;exact aeN
theorem u0{g h:Heap}{s:an}{y1 y2 y3 y4:AV}(a:Frz g h y1 (fT s.cases))(b:Frz g h y2 (kj s.reviews))(c:Frz g h y3 (kM s.notices))(d:Frz g h y4 (dW s.roles)):
  Frz g h (.agg ([.i s.tick,y1,y2,y3,y4]++fZ s.policy++ [.i s.version])) (ct s):=by
 refine .agg _ _ aec (HN aec rfl (HN rfl rfl (fun i h1 h2=>?_) (Dv (M8 _))) (Dv fun x hx=>by rw[List.mem_singleton.1 hx];exact .pure rfl))
 rcases i with _|_|_|_|_|i
 ·exact aep
 ·exact a
 ·exact b
 ·exact c
 ·exact d
 ·simp at h1;omega
theorem mo.rd{h0 h:Heap}{ys:List AV}{y:AV}{cs:List aM}{i0:Nat}(ho:mo h0 h ys y cs i0):zV h y cs:=by
 obtain⟨xs,a,b,c,d⟩:=ho;refine⟨xs,a.rd,b,fun j h1 h2=>?_⟩
 by_cases e:j=i0
 ·subst e
  obtain⟨f,l,e,a,b,_⟩:=d h1 h2;exact⟨f,l,e,a.rd,b.rd⟩
 grind [rdC]
theorem sZ.rd{h0 h:Heap}{x:AV}{s:an}{i0:Nat}(ho:sZ h0 h x s i0):RdS h x s:=by
 obtain⟨y1,y2,y3,y4,rfl,a,b,c,d,r⟩:=ho;exact⟨y1,y2,y3,y4,rfl,a.rd,b.rd,c.rd,d.rd⟩
end Go.Proofs.YtbbadggejjgihaaGreatDoor
namespace Go.Ab
open Go
theorem OwE.bM{tb:TypeId}{h0 h1 h:Heap}{sz:Nat}{y:AV}{xs:List AV}(hw:OwE tb h1 h sz y xs)(hs:∀i,h1 i=Option.none→h0 i=Option.none):OwE tb h0 h sz y xs:=by
 rcases hw with hw|⟨id,e,hw⟩
 ·exact ah6
 ·exact .inr ⟨id,hs _ e,hw⟩
end Go.Ab
namespace Go.Proofs.YtbbadggejjgihaaGreatDoor
open Go Go.Ab Go.Bf
theorem fq.bM{g h0 h:Heap}{ys:List AV}{x:AV}{c:aM}(hm:fq h0 h ys x c)(hg:∀i,h0 i=none→g i=none):fq g h ys x c:=by
 obtain⟨f,l,e,a,b,c⟩:=hm;exact⟨f,l,e,a.bM hg,b.bM hg,c⟩
theorem mo.bM{g h0 h:Heap}{ys:List AV}{y:AV}{cs:List aM}{i0:Nat}(ho:mo h0 h ys y cs i0)(hg:∀i,h0 i=none→g i=none):mo g h ys y cs i0:=by
 obtain⟨xs,a,b,c,d⟩:=ho;exact⟨xs,a.bM hg,b,c,fun h1 h2=>(d h1 h2).bM hg⟩
theorem sZ.bM{g h0 h:Heap}{x:AV}{s:an}{i0:Nat}(ho:sZ h0 h x s i0)(hg:∀i,h0 i=none→g i=none):sZ g h x s i0:=by
 obtain⟨y1,y2,y3,y4,e,a,b,c,d,r⟩:=ho;exact⟨y1,y2,y3,y4,e,a.bM hg,b.bM hg,c.bM hg,d.bM hg,r⟩
theorem pL{g K:Heap}{S:an}{j:Nat}{y1 y2 y3 y4:AV}{tk ver palg:Int}{pid:Txt}{pset:Bool}{ptgt:fY}{prules:List cU}{pkids:List bD}{pobls:List cy}(h1:S.tick=tk)(h2:S.policy= .mk pid pset palg ptgt prules pkids pobls)(h3:S.version=ver)
  (a:mo g K [y1,y2,y3,y4] y1 S.cases j) (b:OwE 99 g K 7 y2 (S.reviews.map gu)) (c:OwE 102 g K 3 y3 (S.notices.map j5)) (d:OwE 105 g K 2 y4 (S.roles.map di)) (ap:apart y1 y2∧apart y1 y3∧apart y1 y4∧apart y2 y3∧apart y2 y4∧apart y3 y4):
  sZ g K (.agg [.i tk,y1,y2,y3,y4,.s pid,.b pset,.i palg,aW ptgt,.sl (prules.map aB) .no,.sl (pkids.map aK) .no,ay pobls,.i ver]) S j:=by
 refine⟨y1,y2,y3,y4,?_,a,b,c,d,ap⟩;rw[h1,h2,h3,show fZ (.mk pid pset palg ptgt prules pkids pobls)= [.s pid,.b pset,.i palg,aW ptgt,.sl (prules.map aB) .no,.sl (pkids.map aK) .no,ay pobls] by simp[fZ,aX]]
 rfl
theorem mo.move{h0 h h' :Heap}{ys ys' :List AV}{y z:AV}{cs:List aM}{i0:Nat}(ho:mo h0 h ys y cs i0)(hz:z∈ys)(hy:apart y z)(hk:∀id,h0 id=none→h id≠none→nid z≠some id→h' id=h id)
  (hr:∀y'∈ys',∀k,nid y' =some k→h k=none∨∃w∈ys,nid w=some k):mo h0 h' ys' y cs i0:=by
 obtain⟨xs,a,b,c,d⟩:=ho;refine⟨xs,a.keep fun id e=>hk id (a.nid e).1 (a.nid e).2.1 (hy id e),b,c,fun h1 h2=>?_⟩
 obtain⟨f,l,e,of,ol,hap,hys⟩:=d h1 h2;refine⟨f,l,e,of.keep fun id e=>hk id (of.nid e).1 (of.nid e).2.1 ((hys z hz).1 id e),ol.keep fun id e=>hk id (ol.nid e).1 (ol.nid e).2.1 ((hys z hz).2 id e),hap,fun w hw=>⟨fun k e1 e2=>?_,fun k e1 e2=>?_⟩⟩
 ·rcases hr w hw k e2 with hn|⟨v,hv,e3⟩
  ·exact(of.nid e1).2.1 hn
  ·exact(hys v hv).1 k e1 e3
 ·rcases hr w hw k e2 with hn|⟨v,hv,e3⟩
  ·exact(ol.nid e1).2.1 hn
  ·exact(hys v hv).2 k e1 e3
theorem Pz{g K:Heap}{r X:AV}{A B:List aM}{C:aM}{ys:List AV}{j:Nat}(hj:A.length=j)(hw:OwE 133 g K 5 r (A.map bT++([X]++B.map bT)))(hX:fq g K ys X C):mo g K ys r (A++ [C]++B) j:=by
 refine⟨_,hw,aec,fun k h1 h2 hk=>?_,fun h1 h2=>?_⟩
 ·grind
 grind
theorem Cr{g K:Heap}{z:AV}{xs:List AV}{cs:List aM}{j:Nat}{X:AV}{F:aM→aM}{ys:List AV}(hw:OwE 133 g K 5 z (xs.set j X))(hn:xs.length=cs.length)(hlo:∀k (h1:k<xs.length) (h2:k<cs.length),k≠j→xs[k]=bT cs[k])(hX:∀h:j<cs.length,fq g K ys X (F cs[j])):mo g K ys z (cs.modify j F) j:=by
 refine⟨_,hw,ad5,fun k h1 h2 e=>?_,fun h1 h2=>?_⟩
 ·grind
 grind
theorem tI{xs:List AV}{j:Nat}(hj:j<xs.length)(x:AV):au (xs.set j x)=au (xs.take j)++(x.cells++au (xs.drop (j+1))):=by
 simp_all [List.set_eq_take_append_cons_drop,if_pos,mE,au]
theorem B8{xs:List AV}{j:Nat}(hj:j<xs.length):au xs=au (xs.take j)++(xs[j].cells++au (xs.drop (j+1))):=by
 grind [tI,List.set_getElem_self]
theorem zq{s:an}{o:OpD}(h:bJ s o=0)(hk:o.kind=3∨o.kind=4):cc s.cases o.case=true:=by
 grind [cc,bJ,bW]
theorem LU{g:Heap}{x:AV}{s:an}(hb:RdS g x s)(o:OpD)(hf:Few s)(hp:mA 1 s.policy)(hr:i64 o.review)(ht:i64 s.tick)(hver:0≤s.version∧s.version≤1000000)(he:iO g):
  ai Tryz.prog 56 [x,opA o] g fun r h' =>Ab.Sub g h'∧∃j,sZ g h' r (dO aR s o) j∧(bJ s o=0→j=findD s.cases o.case):=by
 obtain⟨i0,ei0⟩:∃i0,(if o.kind=1 then s.cases.length else findD s.cases o.case)=i0:=⟨_,rfl⟩
 have hown:=fun(G:Heap) (hG:Ab.Sub g G)=>SW (hb.sub hG) i0 hf hp
 have hrdy:=fun(G:Heap) (hG:Ab.Sub g G)=>Ez (hb.sub hG) o hf hr ht
 obtain⟨y1,y2,y3,y4,rfl,hb'⟩:=hb;cases hpp:s.policy with
 |mk pid pset palg ptgt prules pkids pobls=>
 have hcC:fZ (.mk pid pset palg ptgt prules pkids pobls)= [.s pid,.v (.bool pset),.v (.int .i64 palg),aW ptgt,.sl (prules.map aB) .no,.sl (pkids.map aK) .no,ay pobls]:=ahd;rw[hpp,hcC]at hown hrdy;simp only[opA,opC,List.cons_append,List.nil_append]at hown hrdy;refine ad3 Tryz.func56 138 [.cell 4 51] fun hwf=>?_
 simp only[go_sem,hcC,opA,opC,List.cons_append,List.nil_append];intro i2 h2;simp only[go_sem];intro i3 h3;have n32:=aH h3;have h3' :=aC h3;simp only[go_sem];intro i4 h4;have n43:=aH h4;have h4a:=aC h4;have n42:=aH h4a;have h4' :=aC h4a;simp only[go_sem,ak,n32.symm,n42.symm];obtain⟨H,eH⟩:∃H,upd (upd (upd g i2 (some (.obj [.v (.int .i64 s.tick),y1,y2,y3,y4,.s pid,.v (.bool pset),.v (.int .i64 palg),aW ptgt,.sl (prules.map aB) .no,.sl (pkids.map aK) .no,ay pobls,.v (.int .i64 s.version)] 51))) i3 (some (.obj (opC o) 34))) i4 (some (.obj [.v (.int .i64 0),.sl [] .full,.sl [] .full,.sl [] .full,.sl [] .full,.s [],.v (.bool false),.v (.int .i64 0),.sl [] .full,.sl [] .full,.sl [] .full,.sl [] .full,.v (.int .i64 0)] 51))=H:=⟨_,rfl⟩;have hH:Ab.Sub g H:=by rw[←eH];exact(((Sub.refl g).put h2 _).put h3' _).put h4' _
 have g2:H i2=some (.obj [.v (.int .i64 s.tick),y1,y2,y3,y4,.s pid,.v (.bool pset),.v (.int .i64 palg),aW ptgt,.sl (prules.map aB) .no,.sl (pkids.map aK) .no,ay pobls,.v (.int .i64 s.version)] 51):=by rw[←eH,ag _ _ n42.symm,ag _ _ n32.symm,ah]
 have g3:H i3=some (.obj (opC o) 34):=by rw[←eH,ag _ _ n43.symm,ah]
 have g4:H i4=some (.obj [.v (.int .i64 0),.sl [] .full,.sl [] .full,.sl [] .full,.sl [] .full,.s [],.v (.bool false),.v (.int .i64 0),.sl [] .full,.sl [] .full,.sl [] .full,.sl [] .full,.v (.int .i64 0)] 51):=afz;simp only[opC]at eH g3;rw[eH];clear eH;refine(hown H hH).mono fun r H1 ⟨hS,s1⟩=>?_
 obtain⟨z1,z2,z3,z4,er,hS1⟩:=id hS;subst er;rw[hpp,hcC]at hS⊢;obtain⟨hC,w2,w3,w4,a12,a13,a14,a23,a24,a34⟩:=hS1;obtain⟨xs,w1,hnx,hlo,hmy⟩:=id hC;simp only[go_sem,List.cons_append,List.nil_append];intro i5 h5;simp only[go_sem];have q2:=s1 _ _ g2;have q3:=s1 _ _ g3;have q4:=s1 _ _ g4;have n52:i2≠i5:=fun e=>by rw[←e,q2]at h5;cases h5
 have n53:i3≠i5:=fun e=>by rw[←e,q3]at h5;cases h5
 have n54:i4≠i5:=fun e=>by rw[←e,q4]at h5;cases h5
 obtain⟨K,eK⟩:∃K,upd H1 i5 (some (.obj [.v (.int .i64 s.tick),z1,z2,z3,z4,.s pid,.v (.bool pset),.v (.int .i64 palg),aW ptgt,.sl (prules.map aB) .no,.sl (pkids.map aK) .no,ay pobls,.v (.int .i64 s.version)] 51))=K:=⟨_,rfl⟩;have sK:Ab.Sub H1 K:=by rw[←eK];exact .aj h5
 have k5:K i5=some (.obj [.v (.int .i64 s.tick),z1,z2,z3,z4,.s pid,.v (.bool pset),.v (.int .i64 palg),aW ptgt,.sl (prules.map aB) .no,.sl (pkids.map aK) .no,ay pobls,.v (.int .i64 s.version)] 51):=by rw[←eK,ah]
 rw[eK];have hz5:∀k,H k=none→H1 k≠none→k≠i5:=fun k _ hk e=>hk (by rw[e];exact h5)
 have k2:=sK _ _ q2;have k3:=sK _ _ q3;have k4:=sK _ _ q4;clear eK;have sg:Ab.Sub g K:=hH.trans (s1.trans sK);simp only[go_sem,k2,k3];refine(hrdy K sg).pthen ?_;have g5:g i5=none:=(hH.trans s1).none h5;have kK:∀k,H1 k≠none→K k=H1 k:=fun k hk=>by
  cases e:H1 k with
  |none=>exact(hk e).elim
  |some b=>exact sK _ _ e
 have hz4:∀k,H k=none→k≠i4:=fun k hk e=>by rw[e,g4]at hk;cases hk
 by_cases p0:bJ s o=0
 ·have d0:(bJ s o !=0)=false:=by simp[p0]
  simp only[go_sem,d0];simp only[go_sem,k5,k3];have hSK:sZ H K (.agg ([.v (.int .i64 s.tick),z1,z2,z3,z4]++fZ s.policy++ [.v (.int .i64 s.version)])) s i0:=by
   rw[hpp,hcC];exact hS.keepb fun k _ hk=>kK k hk
  have hfi:=B7 hSK.rd o.case hf.cases;rw[hpp,hcC]at hfi;simp only[List.cons_append,List.nil_append]at hfi;refine hfi.pthen ?_;simp only[go_sem,k3];have hform:dD o=true:=by
   cases e:dD o
   ·simp[bJ,e]at p0
   ·rfl
  have hdone:dO aR s o=doD aR s o:=by simp[dO,p0]
  rw[hdone]
  by_cases p1:o.kind=1
  ·have k1:(o.kind==1)=true:=by simp[p1]
   simp only[go_sem,k1];simp only[go_sem,k3];intro i8 h8;have n82:i2≠i8:=fun e=>by rw[←e,k2]at h8;cases h8
   have n83:i3≠i8:=fun e=>by rw[←e,k3]at h8;cases h8
   have n84:i4≠i8:=fun e=>by rw[←e,k4]at h8;cases h8
   have n85:i5≠i8:=fun e=>by rw[←e,k5]at h8;cases h8
   simp only[go_sem];obtain⟨K2,eK2⟩:∃K2,upd K i8 (some (.obj [.s o.case,.s o.subj,.s [111,112,101,110],.sl [] .full,.sl [] .full] 133))=K2:=⟨_,rfl⟩;have sK2:Ab.Sub K K2:=by rw[←eK2];exact .aj h8
   have e8:K2 i8=some (.obj [.s o.case,.s o.subj,.s [111,112,101,110],.sl [] .full,.sl [] .full] 133):=by rw[←eK2,ah]
   rw[eK2];clear eK2;have m3:=sK2 _ _ k3;have m4:=sK2 _ _ k4;have m5:=sK2 _ _ k5;simp only[go_sem,m3,m5];have hha:=sB (h0:=H) (s:=s) z1 z2 z3 z4 (k:=i8) (o:=0) (A:=[]) (B:=[]) (t:=133) (c:=⟨o.case,o.subj,jJ,[],[]⟩) (f:=.sl [] .full) (l:=.sl [] .full) rfl e8 ad9 (.inl ⟨rfl,rfl⟩) (s1.trans (sK.trans sK2)) (Nat.zero_le _) o.subj [110,101,119];rw[hpp,hcC]at hha;simp only[List.cons_append,List.nil_append]at hha;refine hha.mono fun r K3 ⟨l',ol,e8',fr3,ap3⟩=>?_
   have kK3:∀k,K2 k≠none→k≠i8→K3 k=K2 k:=fun k hk hk8=>fr3 k hk hk8 (by simp[nid])
   have m3' :K3 i3=_:=(kK3 i3 (by rw[m3];simp) n83).trans m3
   have m4' :K3 i4=_:=(kK3 i4 (by rw[m4];simp) n84).trans m4
   have m5' :K3 i5=_:=(kK3 i5 (by rw[m5];simp) n85).trans m5
   simp only[cj,List.append_nil]at e8';simp only[go_sem];simp only[go_sem,m5',e8'];have kk2:∀k,H1 k≠none→K2 k=H1 k:=fun k hk=>by
    have:=kK k hk;cases e:K k with
    |none=>rw[e]at this;exact(hk this.symm).elim
    |some b=>rw[sK2 _ _ e,←e,this]
   have k8:∀k,H1 k≠none→k≠i8:=fun k hk e=>hk (by have:=kK k hk;rw[e,h8]at this;rw[e];exact this.symm)
   have kk3:∀k,H1 k≠none→K3 k=H1 k:=fun k hk=>(kK3 k (by rw[kk2 k hk];exact hk) (k8 k hk)).trans (kk2 k hk)
   have sH3:Ab.Sub H1 K3:=fun k b hk=>by rw[kk3 k (by rw[hk];simp)];exact hk
   have hfl:findD s.cases o.case≤s.cases.length:=List.findIdx_le_length;have hfc:=hf.cases;refine(F5 z1 xs (.agg [.s o.case,.s o.subj,.s jJ,.sl [] .full,l']) (findD s.cases o.case) H K3 (w1.keepb fun k _ hk=>kk3 k hk) (s1.trans sH3) ad4 ad4 rfl (by simp[Ab.fit])).mono fun r K4 ⟨ow5,fr4,ap4⟩=>?_
   have m4'' :K4 i4=_:=(fr4 i4 (by rw[m4'];simp) (fun e=>by have:=(w1.nid e).1;rw[g4]at this;cases this)).trans m4'
   have m5'' :K4 i5=_:=(fr4 i5 (by rw[m5'];simp) (fun e=>(w1.nid e).2.1 h5)).trans m5'
   simp only[go_sem,m5'',ow5.rd.fit,ow5.rd.cells];simp only[go_sem,ak,n54,m4''];have hi0:i0=s.cases.length:=by rw[←ei0,if_pos p1]
   have hxs:xs=s.cases.map bT:=List.ext_getElem (by simpa using hnx) fun j a b=>by rw[hlo j a ad4 ad4,adV]
   have kk4:∀k,H1 k≠none→nid z1≠some k→K4 k=H1 k:=fun k hk hz=>(fr4 k (by rw[kk3 k hk];exact hk) hz).trans (kk3 k hk)
   obtain⟨K5,eK5⟩:∃K5,upd (upd K4 i5 (some (.obj [.v (.int .i64 s.tick),r,z2,z3,z4,.s pid,.v (.bool pset),.v (.int .i64 palg),aW ptgt,.sl (prules.map aB) .no,.sl (pkids.map aK) .no,ay pobls,.v (.int .i64 s.version)] 51))) i4 (some (.obj [.v (.int .i64 s.tick),r,z2,z3,z4,.s pid,.v (.bool pset),.v (.int .i64 palg),aW ptgt,.sl (prules.map aB) .no,.sl (pkids.map aK) .no,ay pobls,.v (.int .i64 s.version)] 51))=K5:=⟨_,rfl⟩;rw[eK5];have o5:∀k,k≠i4→k≠i5→K5 k=K4 k:=fun k a b=>by rw[←eK5,ag _ _ a,ag _ _ b]
   have kk5:∀k,H k=none→H1 k≠none→nid z1≠some k→K5 k=H1 k:=fun k a b c=>(o5 k (hz4 k a) (hz5 k a b)).trans (kk4 k b c)
   have ow:OwE 133 H K5 5 r (List.take (findD s.cases o.case) xs++([.agg [.s o.case,.s o.subj,.s jJ,.sl [] .full,l']]++List.drop (findD s.cases o.case) xs)):=ow5.keep fun id e=>o5 id (hz4 id (ow5.nid e).1) fun e5=>by
    subst e5;rcases ap4 _ e with h|h
    ·rw[m5']at h;cases h
    ·exact(w1.nid h).2.1 h5
   have ol5:OwE 163 H K5 3 l' _:=ol.keep fun id e=>by
    have h2n:K2 id=none:=(ap3 id e).resolve_right (by simp[nid])
    have hz:nid z1≠some id:=fun e1=>by
     have:=kk2 id (w1.nid e1).2.1;rw[h2n]at this;exact(w1.nid e1).2.1 this.symm
    rw[o5 id (hz4 id (ol.nid e).1) (fun e5=>by rw[e5,m5]at h2n;cases h2n),fr4 id (ol.nid e).2.1 hz]
   have hmc:fq H K5 [] (.agg [.s o.case,.s o.subj,.s jJ,.sl [] .full,l']) (jy s ⟨o.case,o.subj,jJ,[],[]⟩ o.subj [110,101,119]):=⟨.sl [] .full,l',rfl,.inl ⟨rfl,rfl⟩,ol5,(fun i e=>aew),fun y hy=>by cases hy⟩
   have sg4:Ab.Sub g K4:=fun k b hk=>by
    have h1:=hH _ _ hk;have h2:=s1 _ _ h1;rw[kk4 k (by rw[h2];simp) (fun e=>by have:=(w1.nid e).1;rw[h1]at this;cases this)]
    exact aif
   have sg5:Ab.Sub g K5:=by rw[←eK5];exact(sg4.put g5 _).put h4' _
   have hdo:doD aR s o= {s with cases:=s.cases.take (findD s.cases o.case)++ [jy s ⟨o.case,o.subj,jJ,[],[]⟩ o.subj [110,101,119]]++s.cases.drop (findD s.cases o.case)}:=by simp[doD,p1]
   refine .mk _ (.refl _) (.refl _) ⟨sg5,_,?_,fun _=>rfl⟩
   rw[hdo];have apr:∀k,nid r=some k→H1 k=none∨nid z1=some k:=fun k e=>(ap4 k e).imp (fun h=>sH3.none h) id
   have hro:∀ {w:AV},apart z1 w→(∀k,nid w=some k→H1 k≠none)→apart r w:=fun ha hw k e1 e2=>(apr k e1).elim (fun h=>hw k e2 h) (fun h=>ha k h e2)
   have hl0:∀k,nid l' =some k→H1 k=none:=fun k e=>(sK.trans sK2).none ((ap3 k e).resolve_right (by simp[nid]))
   have hlr:apart l' r:=fun k e1 e2=>(ap4 k e2).elim (fun h=>(ol.nid e1).2.1 h) (fun h=>(w1.nid h).2.1 (hl0 k e1))
   rw[hxs,←List.map_take,←List.map_drop]at ow;refine pL rfl hpp rfl (Pz af5 (ow.bM (fun _ e=>hH.none e)) ⟨.sl [] .full,l',rfl,.inl ⟨rfl,rfl⟩,ol5.bM (fun _ e=>hH.none e),(fun i e=>aew),fun y hy=>⟨(fun i e=>aew),?_⟩⟩) ((w2.keep fun id e=>kk5 id (w2.nid e).1 (w2.nid e).2.1 fun e1=>a12 id e1 e).bM fun _ e=>hH.none e) ((w3.keep fun id e=>kk5 id (w3.nid e).1 (w3.nid e).2.1 fun e1=>a13 id e1 e).bM fun _ e=>hH.none e) ((w4.keep fun id e=>kk5 id (w4.nid e).1 (w4.nid e).2.1 fun e1=>a14 id e1 e).bM fun _ e=>hH.none e) ⟨hro a12 fun k e=>(w2.nid e).2.1,hro a13 fun k e=>(w3.nid e).2.1,hro a14 fun k e=>(w4.nid e).2.1,a23,a24,a34⟩
   simp only[List.mem_cons,List.not_mem_nil,or_false]at hy;rcases hy with rfl|rfl|rfl|rfl
   ·exact hlr
   ·exact fun k e1 e2=>(w2.nid e2).2.1 (hl0 k e1)
   ·exact fun k e1 e2=>(w3.nid e2).2.1 (hl0 k e1)
   ·exact fun k e1 e2=>(w4.nid e2).2.1 (hl0 k e1)
  have k1:(o.kind==1)=false:=by simp[p1]
  have hi0:i0=findD s.cases o.case:=by rw[←ei0,if_neg p1]
  simp only[go_sem,k1]
  by_cases p3:o.kind=3
  ·have k3' :(o.kind==3)=true:=by simp[p3]
   simp only[go_sem,k3'];have hth:=zq p0 (.inl p3);have hlt:=jK hth;obtain⟨j,ej⟩:∃j,findD s.cases o.case=j:=⟨_,rfl⟩;have hj:j<s.cases.length:=by rw[←ej];exact hlt
   have hjx:j<xs.length:=ad4;rw[ej]at hi0;subst hi0;obtain⟨f,l,ex,of,ol,hap,hys⟩:=hmy hjx hj;obtain⟨id1,hg1,o1⟩:=w1.ow ag2;have o1' :=o1;obtain⟨cap,rest,ey,hid,hrl,hcap,hsz⟩:=o1';have lA:i0*5=(au (xs.take i0)).length:=afc;have hidK:K id1=some (.obj (au (xs.take i0)++(cj s.cases[i0] f l++(au (xs.drop (i0+1))++rest))) 133):=by
    rw[sK _ _ hid,B8 hjx,ex];simp[cj,AV.cells]
   have n14:id1≠i4:=hz4 id1 hg1;have n13:id1≠i3:=fun e=>by rw[e,g3]at hg1;cases hg1
   have n15:id1≠i5:=fun e=>o1.none (by rw[e];exact h5)
   have nf4:∀k,nid f=some k→k≠i3∧k≠i4∧k≠i5∧k≠id1:=fun k e=>⟨(fun e' =>agW),hz4 k (of.nid e).1,hz5 k (of.nid e).1 (of.nid e).2.1,fun e' =>(hys z1 aec).1 k e ahC⟩
   have nl4:∀k,nid l=some k→k≠i3∧k≠i4∧k≠i5∧k≠id1:=fun k e=>⟨(fun e' =>agX),hz4 k (ol.nid e).1,hz5 k (ol.nid e).1 (ol.nid e).2.1,fun e' =>(hys z1 aec).2 k e ahC⟩
   have hff:=hf.fields _ (adZ hj);have hfl:=hf.log _ (adZ hj);rw[ej];refine .calls (pick K [i3,i5]) [0,1,2,3,4,5,6,7,8] bS ad7 rfl ?_;simp only[go_sem,bE (show i5∈ [i3,i5] by simp),k3,k5]
   refine(o1.sub sK).idx (U:=U) (e:=133) i0 rfl hjx nQ ad9 ?_;simp only[go_sem,bE (show i3∈ [i3,i5] by simp),k3,k5]
   refine(show ai Tryz.prog 118 [.ptr id1 (i0*5),.s o.field,.agg [.v (.int .i64 o.val.kind),.v (.int .i64 o.val.n),.s o.val.s]] K _ from N3 lA hidK ad9 (of.sub sK) (s1.trans sK) hff o.field o.val).mono fun r K3 ⟨f',of',e1',fr3,ap3⟩=>?_
   have kk3:∀k,H1 k≠none→k≠id1→nid f≠some k→K3 k=H1 k:=fun k a b c=>(fr3 k (by rw[kK k a];exact a) b c).trans (kK k a)
   have m3:K3 i3=_:=(fr3 i3 (by rw[k3];simp) n13.symm fun e=>(nf4 _ e).1 rfl).trans k3
   have m4:K3 i4=_:=(fr3 i4 (by rw[k4];simp) n14.symm fun e=>(nf4 _ e).2.1 rfl).trans k4
   have m5:K3 i5=_:=(fr3 i5 (by rw[k5];simp) n15.symm fun e=>(nf4 _ e).2.2.1 rfl).trans k5
   refine⟨iV fun k hk=>?_,?_⟩
   ·simp only[List.mem_cons,List.not_mem_nil,or_false]at hk
    rcases hk with rfl|rfl
    ·rw[m3,k3]
    ·rw[m5,k5]
   simp only[go_sem];have sH3:Ab.Sub H K3:=fun k b hk=>aeQ
   have ol3:OwE 163 H K3 3 l (s.cases[i0].log.map gq):=ol.keep fun k e=>kk3 k (ol.nid e).2.1 (nl4 k e).2.2.2 (fun e1=>hap k e1 e)
   have hX5:∀y1 y2:AV,Sized 5 (xs.set i0 (.agg (cj s.cases[i0] y1 y2))):=fun y1 y2 z hz=>by
    exact ai1
   have mkO:∀ {G:Heap} {y1 y2:AV},G id1=some (.obj (au (xs.take i0)++(cj s.cases[i0] y1 y2++(au (xs.drop (i0+1))++rest))) 133)→Ow 133 G 5 id1 z1 (xs.set i0 (.agg (cj s.cases[i0] y1 y2))):=fun {G y1 y2} hG=>⟨cap,rest,agr,by rw[hG,tI hjx];simp[AV.cells],ahi,agi,hX5 _ _⟩
   have hjs:∀x:AV,i0<(xs.set i0 x).length:=fun x=>by rw[List.length_set];exact hjx
   refine .calls (pick K3 [i3,i5]) [0,1,2,3,4,5,6,7] bS ad7 rfl ?_;simp only[go_sem,bE (show i5∈ [i3,i5] by simp),m3,m5]
   refine(mkO e1').idx (U:=U) (e:=133) i0 rfl (hjs _) nQ ad9 ?_;simp only[go_sem,bE (show i3∈ [i3,i5] by simp),m3,m5]
   have hha:=sB (h0:=H) (h:=K3) (s:=s) z1 z2 z3 z4 (k:=id1) (c:=s.cases[i0]) (f:=f') (l:=l) lA e1' ad9 ol3 sH3 hfl o.subj [119,114,105,116,101];rw[hpp,hcC]at hha;simp only[List.cons_append,List.nil_append]at hha;refine hha.mono fun r K4 ⟨l',ol',e1'',fr4,ap4⟩=>?_
   have m3' :K4 i3=_:=(fr4 i3 (by rw[m3];simp) n13.symm fun e=>(nl4 _ e).1 rfl).trans m3
   have m4' :K4 i4=_:=(fr4 i4 (by rw[m4];simp) n14.symm fun e=>(nl4 _ e).2.1 rfl).trans m4
   have m5' :K4 i5=_:=(fr4 i5 (by rw[m5];simp) n15.symm fun e=>(nl4 _ e).2.2.1 rfl).trans m5
   refine⟨iV fun k hk=>?_,?_⟩
   ·simp only[List.mem_cons,List.not_mem_nil,or_false]at hk
    rcases hk with rfl|rfl
    ·rw[m3',m3]
    ·rw[m5',m5]
   simp only[go_sem];simp only[go_sem,m5',m4'];obtain⟨K5,eK5⟩:∃K5,upd K4 i4 (some (.obj [.v (.int .i64 s.tick),z1,z2,z3,z4,.s pid,.v (.bool pset),.v (.int .i64 palg),aW ptgt,.sl (prules.map aB) .no,.sl (pkids.map aK) .no,ay pobls,.v (.int .i64 s.version)] 51))=K5:=⟨_,rfl⟩;rw[eK5];have o5:∀k,k≠i4→K5 k=K4 k:=fun k a=>by rw[←eK5,ag _ _ a]
   have kk5:∀k,H k=none→H1 k≠none→k≠id1→nid f≠some k→nid l≠some k→K5 k=H1 k:=fun k a b c d e=>by
    exact aj4
   have of5:OwE 160 H K5 4 f' _:=of'.keep fun id e=>by
    exact aiG
   have ol5:OwE 163 H K5 3 l' _:=ol'.keep fun id e=>o5 id (hz4 id (ol'.nid e).1)
   have sg4:Ab.Sub g K4:=fun k b hk=>by
    exact aja
   have sg5:Ab.Sub g K5:=by rw[←eK5];exact sg4.put h4' _
   have n1' :nid z1=some id1:=o1.nid;have hdo:doD aR s o= {s with cases:=s.cases.modify i0 fun c=>jy s {c with fields:=eD c.fields o.field o.val} o.subj [119,114,105,116,101]}:=by simp[doD,p3,ej]
   refine .mk _ (.refl _) (.refl _) ⟨sg5,_,?_,fun _=>rfl⟩
   rw[hdo];have thr:∀w∈ [z1,z2,z3,z4],∀k,nid w=some k→H1 k≠none:=fun w hw k e=>by
    exact ai7
   refine pL rfl hpp rfl ?_ ((w2.keep fun id e=>kk5 id (w2.nid e).1 (w2.nid e).2.1 (fun e1=>a12 id1 n1' agT) (fun e1=>(hys z2 aec).1 id e1 e) (fun e1=>(hys z2 aec).2 id e1 e)).bM fun _ e=>hH.none e) ((w3.keep fun id e=>kk5 id (w3.nid e).1 (w3.nid e).2.1 (fun e1=>a13 id1 n1' agT) (fun e1=>(hys z3 aec).1 id e1 e) (fun e1=>(hys z3 aec).2 id e1 e)).bM fun _ e=>hH.none e) ((w4.keep fun id e=>kk5 id (w4.nid e).1 (w4.nid e).2.1 (fun e1=>a14 id1 n1' agT) (fun e1=>(hys z4 aec).1 id e1 e) (fun e1=>(hys z4 aec).2 id e1 e)).bM fun _ e=>hH.none e) ⟨a12,a13,a14,a23,a24,a34⟩
   refine Cr (X:=.agg (cj s.cases[i0] f' l')) ((show OwE 133 H K5 5 z1 _ from .inr ⟨id1,hg1,mkO ((o5 id1 n14).trans e1'')⟩).bM (fun _ e=>hH.none e)) hnx (fun k h1 h2 hk=>hlo k h1 h2 hk) fun hh=>⟨f',l',rfl,of5.bM (fun _ e=>hH.none e),ol5.bM (fun _ e=>hH.none e),fun k e1 e2=>?_,fun w hw=>⟨fun k e1 e2=>?_,fun k e1 e2=>?_⟩⟩
   ·rcases ap4 k e2 with h|h
    ·exact(of'.nid e1).2.1 h
    ·rcases ap3 k e1 with h' |h'
     ·exact(ol.nid h).2.1 (sK.none h')
     ·exact hap k h' h
   ·rcases ap3 k e1 with h|h
    ·exact thr w hw k e2 (sK.none h)
    ·exact(hys w hw).1 k h e2
   ·rcases ap4 k e1 with h|h
    ·by_cases h1:k=id1
     ·subst h1;rw[e1']at h;cases h
     ·have:=kk3 k (thr w hw k e2) h1 (fun e=>(hys w hw).1 k e e2)
      rw[h]at this;exact thr w hw k e2 this.symm
    ·exact(hys w hw).2 k h e2
  have k3' :(o.kind==3)=false:=by simp[p3]
  simp only[go_sem,k3']
  by_cases p4:o.kind=4
  ·have k4' :(o.kind==4)=true:=by simp[p4]
   simp only[go_sem,k4'];have hth:=zq p0 (.inr p4);have hlt:=jK hth;obtain⟨j,ej⟩:∃j,findD s.cases o.case=j:=⟨_,rfl⟩;have hj:j<s.cases.length:=by rw[←ej];exact hlt
   have hjx:j<xs.length:=ad4;rw[ej]at hi0;subst hi0;obtain⟨f,l,ex,of,ol,hap,hys⟩:=hmy hjx hj;obtain⟨id1,hg1,o1⟩:=w1.ow ag2;have o1' :=o1;obtain⟨cap,rest,ey,hid,hrl,hcap,hsz⟩:=o1';have lA:i0*5=(au (xs.take i0)).length:=afc;have hidK:K id1=some (.obj (au (xs.take i0)++(cj s.cases[i0] f l++(au (xs.drop (i0+1))++rest))) 133):=by
    rw[sK _ _ hid,B8 hjx,ex];simp[cj,AV.cells]
   have n14:id1≠i4:=hz4 id1 hg1;have n13:id1≠i3:=fun e=>by rw[e,g3]at hg1;cases hg1
   have n15:id1≠i5:=fun e=>o1.none (by rw[e];exact h5)
   have nf4:∀k,nid f=some k→k≠i3∧k≠i4∧k≠i5∧k≠id1:=fun k e=>⟨(fun e' =>agW),hz4 k (of.nid e).1,hz5 k (of.nid e).1 (of.nid e).2.1,fun e' =>(hys z1 aec).1 k e ahC⟩
   have nl4:∀k,nid l=some k→k≠i3∧k≠i4∧k≠i5∧k≠id1:=fun k e=>⟨(fun e' =>agX),hz4 k (ol.nid e).1,hz5 k (ol.nid e).1 (ol.nid e).2.1,fun e' =>(hys z1 aec).2 k e ahC⟩
   have hff:=hf.fields _ (adZ hj);have hfl:=hf.log _ (adZ hj);rw[ej];simp only[go_sem,k5,k3];refine(o1.sub sK).idx (U:=U) (e:=133) i0 rfl hjx nQ ad9 ?_;simp only[go_sem,hidK];have e2:List.take (i0*5+2) (au (xs.take i0)++(cj s.cases[i0] f l++(au (xs.drop (i0+1))++rest)))++ [.s o.to]++List.drop (i0*5+2+1) (au (xs.take i0)++(cj s.cases[i0] f l++(au (xs.drop (i0+1))++rest)))=au (xs.take i0)++(cj {s.cases[i0]with state:=o.to} f l++(au (xs.drop (i0+1))++rest)):=by
    have:=pG (A:=au (xs.take i0)++ [.s s.cases[i0].id,.s s.cases[i0].owner]) (B:=[.s s.cases[i0].state]) (C:=f::l::(au (xs.drop (i0+1))++rest)) (X:=[.s o.to]) (k:=i0*5+2) (m:=1) (by rw[lA];simp) rfl rfl
    exact aj0
   rw[e2];obtain⟨K3,eK3⟩:∃K3,upd K id1 (some (.obj (au (xs.take i0)++(cj {s.cases[i0]with state:=o.to} f l++(au (xs.drop (i0+1))++rest))) 133))=K3:=⟨_,rfl⟩
   rw[eK3];refine⟨by simp only[adY,←lA,cj,List.length_cons,List.length_nil];omega,?_⟩
   have e1' :K3 id1=some (.obj (au (xs.take i0)++(cj {s.cases[i0]with state:=o.to} f l++(au (xs.drop (i0+1))++rest))) 133):=by rw[←eK3,ah]
   have fr3:∀k,K k≠none→k≠id1→nid f≠some k→K3 k=K k:=fun k _ hk _=>by rw[←eK3,ag _ _ hk]
   have ap3:∀k,nid f=some k→K k=none∨nid f=some k:=fun k hk=> .inr hk
   have kk3:∀k,H1 k≠none→k≠id1→nid f≠some k→K3 k=H1 k:=fun k a b c=>(fr3 k (by rw[kK k a];exact a) b c).trans (kK k a)
   have m3:K3 i3=_:=(fr3 i3 (by rw[k3];simp) n13.symm fun e=>(nf4 _ e).1 rfl).trans k3
   have m4:K3 i4=_:=(fr3 i4 (by rw[k4];simp) n14.symm fun e=>(nf4 _ e).2.1 rfl).trans k4
   have m5:K3 i5=_:=(fr3 i5 (by rw[k5];simp) n15.symm fun e=>(nf4 _ e).2.2.1 rfl).trans k5
   obtain⟨f',of',ef'⟩:∃f',OwE 160 H K3 4 f' (s.cases[i0].fields.map bB)∧f=f' :=⟨f,of.keep fun k e=>by rw[←eK3,ag _ _ (nf4 k e).2.2.2,kK k (of.nid e).2.1],rfl⟩
   rw[ef']at e1';replace ap3:∀k,nid f' =some k→K k=none∨nid f=some k:=by rw[←ef'];exact ap3
   have sH3:Ab.Sub H K3:=fun k b hk=>aeQ
   have ol3:OwE 163 H K3 3 l (s.cases[i0].log.map gq):=ol.keep fun k e=>kk3 k (ol.nid e).2.1 (nl4 k e).2.2.2 (fun e1=>hap k e1 e)
   have hX5:∀y1 y2:AV,Sized 5 (xs.set i0 (.agg (cj ({s.cases[i0]with state:=o.to}:aM) y1 y2))):=fun y1 y2 z hz=>by
    exact ai1
   have mkO:∀ {G:Heap} {y1 y2:AV},G id1=some (.obj (au (xs.take i0)++(cj ({s.cases[i0]with state:=o.to}:aM) y1 y2++(au (xs.drop (i0+1))++rest))) 133)→Ow 133 G 5 id1 z1 (xs.set i0 (.agg (cj ({s.cases[i0]with state:=o.to}:aM) y1 y2))):=fun {G y1 y2} hG=>⟨cap,rest,agr,by rw[hG,tI hjx];simp[AV.cells],ahi,agi,hX5 _ _⟩
   have hjs:∀x:AV,i0<(xs.set i0 x).length:=fun x=>by rw[List.length_set];exact hjx
   refine .calls (pick K3 [i3,i5]) [0,1,2,3,4,5,6,7,8,9] bS ad7 rfl ?_;simp only[go_sem,bE (show i5∈ [i3,i5] by simp),m3,m5]
   refine(mkO e1').idx (U:=U) (e:=133) i0 rfl (hjs _) nQ ad9 ?_;simp only[go_sem,bE (show i3∈ [i3,i5] by simp),m3,m5]
   have hha:=sB (h0:=H) (h:=K3) (s:=s) z1 z2 z3 z4 (k:=id1) (c:=({s.cases[i0]with state:=o.to}:aM)) (f:=f') (l:=l) lA e1' ad9 ol3 sH3 hfl o.subj o.to
   rw[hpp,hcC]at hha;simp only[List.cons_append,List.nil_append]at hha;refine hha.mono fun r K4 ⟨l',ol',e1'',fr4,ap4⟩=>?_
   have m3' :K4 i3=_:=(fr4 i3 (by rw[m3];simp) n13.symm fun e=>(nl4 _ e).1 rfl).trans m3
   have m4' :K4 i4=_:=(fr4 i4 (by rw[m4];simp) n14.symm fun e=>(nl4 _ e).2.1 rfl).trans m4
   have m5' :K4 i5=_:=(fr4 i5 (by rw[m5];simp) n15.symm fun e=>(nl4 _ e).2.2.1 rfl).trans m5
   refine⟨iV fun k hk=>?_,?_⟩
   ·simp only[List.mem_cons,List.not_mem_nil,or_false]at hk
    rcases hk with rfl|rfl
    ·rw[m3',m3]
    ·rw[m5',m5]
   simp only[go_sem];simp only[go_sem,m5',m4'];obtain⟨K5,eK5⟩:∃K5,upd K4 i4 (some (.obj [.v (.int .i64 s.tick),z1,z2,z3,z4,.s pid,.v (.bool pset),.v (.int .i64 palg),aW ptgt,.sl (prules.map aB) .no,.sl (pkids.map aK) .no,ay pobls,.v (.int .i64 s.version)] 51))=K5:=⟨_,rfl⟩;rw[eK5];have o5:∀k,k≠i4→K5 k=K4 k:=fun k a=>by rw[←eK5,ag _ _ a]
   have kk5:∀k,H k=none→H1 k≠none→k≠id1→nid f≠some k→nid l≠some k→K5 k=H1 k:=fun k a b c d e=>by
    exact aj4
   have of5:OwE 160 H K5 4 f' _:=of'.keep fun id e=>by
    exact aiG
   have ol5:OwE 163 H K5 3 l' _:=ol'.keep fun id e=>o5 id (hz4 id (ol'.nid e).1)
   have sg4:Ab.Sub g K4:=fun k b hk=>by
    exact aja
   have sg5:Ab.Sub g K5:=by rw[←eK5];exact sg4.put h4' _
   have n1' :nid z1=some id1:=o1.nid;have hdo:doD aR s o= {s with cases:=s.cases.modify i0 fun c=>jy s {c with state:=o.to} o.subj o.to}:=by simp[doD,p4,ej]
   refine .mk _ (.refl _) (.refl _) ⟨sg5,_,?_,fun _=>rfl⟩
   rw[hdo];have thr:∀w∈ [z1,z2,z3,z4],∀k,nid w=some k→H1 k≠none:=fun w hw k e=>by
    exact ai7
   refine pL rfl hpp rfl ?_ ((w2.keep fun id e=>kk5 id (w2.nid e).1 (w2.nid e).2.1 (fun e1=>a12 id1 n1' agT) (fun e1=>(hys z2 aec).1 id e1 e) (fun e1=>(hys z2 aec).2 id e1 e)).bM fun _ e=>hH.none e) ((w3.keep fun id e=>kk5 id (w3.nid e).1 (w3.nid e).2.1 (fun e1=>a13 id1 n1' agT) (fun e1=>(hys z3 aec).1 id e1 e) (fun e1=>(hys z3 aec).2 id e1 e)).bM fun _ e=>hH.none e) ((w4.keep fun id e=>kk5 id (w4.nid e).1 (w4.nid e).2.1 (fun e1=>a14 id1 n1' agT) (fun e1=>(hys z4 aec).1 id e1 e) (fun e1=>(hys z4 aec).2 id e1 e)).bM fun _ e=>hH.none e) ⟨a12,a13,a14,a23,a24,a34⟩
   refine Cr (X:=.agg (cj ({s.cases[i0]with state:=o.to}:aM) f' l')) ((show OwE 133 H K5 5 z1 _ from .inr ⟨id1,hg1,mkO ((o5 id1 n14).trans e1'')⟩).bM (fun _ e=>hH.none e)) hnx (fun k h1 h2 hk=>hlo k h1 h2 hk) fun hh=>⟨f',l',rfl,of5.bM (fun _ e=>hH.none e),ol5.bM (fun _ e=>hH.none e),fun k e1 e2=>?_,fun w hw=>⟨fun k e1 e2=>?_,fun k e1 e2=>?_⟩⟩
   ·rcases ap4 k e2 with h|h
    ·exact(of'.nid e1).2.1 h
    ·rcases ap3 k e1 with h' |h'
     ·exact(ol.nid h).2.1 (sK.none h')
     ·exact hap k h' h
   ·rcases ap3 k e1 with h|h
    ·exact thr w hw k e2 (sK.none h)
    ·exact(hys w hw).1 k h e2
   ·rcases ap4 k e1 with h|h
    ·by_cases h1:k=id1
     ·subst h1;rw[e1']at h;cases h
     ·have:=kk3 k (thr w hw k e2) h1 (fun e=>(hys w hw).1 k e e2)
      rw[h]at this;exact thr w hw k e2 this.symm
    ·exact(hys w hw).2 k h e2
  have k4' :(o.kind==4)=false:=by simp[p4]
  simp only[go_sem,k4'];have kkK:∀k,H k=none→H1 k≠none→K k=H1 k:=fun k _ b=>kK k b
  by_cases p5:o.kind=5
  ·have k5' :(o.kind==5)=true:=by simp[p5]
   simp only[go_sem,k5'];have hrv:0<o.review:=by
    simp only[dD,dR,Bool.and_eq_true]at hform;simpa[okD,p5]using hform.2.1.2
   obtain⟨n,en⟩:∃n:Nat,o.review=((n:Nat):Int)+1:=⟨(o.review - 1).toNat,ad4⟩;have w5:IntKind.i64.wrap (o.review - 1)=((n:Nat):Int):=by rw[aU _ (by have:=hr.2;omega)];omega
   have hn5:n<s.reviews.length:=by
    have:fl s o=0:=by simpa[bJ,hform,p5]using p0
    unfold fl at this;have e1:wJ s.reviews o.review=s.reviews[n]? :=by unfold wJ;rw[if_pos ad4,show(o.review - 1).toNat=n by omega]
    rw[e1]at this
    by_cases hlt:n<s.reviews.length
    ·exact hlt
    ·rw[List.getElem?_eq_none ad4]at this;cases this
   have hnm:n<(s.reviews.map gu).length:=by simpa using hn5
   obtain⟨id2,hg2,o2⟩:=w2.ow (by intro e;rw[e]at hnm;cases hnm)
   have o2' :=o2;obtain⟨cap,rest,ey,hid,hrl,hcap,hsz⟩:=o2';have n24:id2≠i4:=hz4 id2 hg2;have n25:id2≠i5:=hz5 id2 hg2 o2.none;have hidK:=sK _ _ hid;simp only[go_sem,k5,k3,w5];refine(o2.sub sK).idx (U:=U) (e:=99) n rfl hnm aeg ad9 ?_;simp only[go_sem,hidK];have e2:List.take (n*7+6) (au (s.reviews.map gu)++rest)++ [.v (.bool false)]++List.drop (n*7+6+1) (au (s.reviews.map gu)++rest)=au ((s.reviews.modify n fun r=> {r with isOpen:=false}).map gu)++rest:=by
    refine(kg hsz n hnm 6 [.v (.bool false)] (adT rfl)).trans ?_
    congr 2
    refine List.ext_getElem aec fun j h1 h2=>?_
    by_cases e:j=n
    ·subst e;simp[gu,AV.cells,Ab.over]
    ·rw[List.getElem_set_ne (Ne.symm e)];simp[Ne.symm e]
   rw[e2];refine⟨by rw[adY,aZ hsz];omega,?_⟩
   have k5b:∀b,upd K id2 b i5=_:=fun b=>(ag _ _ n25.symm).trans k5
   have k4b:∀b,upd K id2 b i4=_:=fun b=>(ag _ _ n24.symm).trans k4
   simp only[go_sem,k5b,k4b];have hdo:doD aR s o= {s with reviews:=s.reviews.modify n fun r=> {r with isOpen:=false}}:=by simp[doD,p5,en]
   have kz:∀a b k,H k=none→H1 k≠none→nid z2≠some k→upd (upd K id2 a) i4 b k=H1 k:=fun a b k c d e=>by rw[ag _ _ (hz4 k c),ag _ _ (fun e' =>e (by rw[e'];exact o2.nid)),kK k d]
   refine .mk _ (.refl _) (.refl _) ⟨(Sub.put (i:=id2) sg (hH.none hg2) _).put h4' _,_,?_,fun _=>hi0⟩
   rw[hdo];exact pL rfl hpp rfl ((hC.keepx (z:=z2) aec a12 (kz _ _)).bM (fun _ e=>hH.none e)) (.inr ⟨id2,hH.none hg2,cap,rest,by rw[ey];simp,by rw[ag _ _ n24,ah],by rw[hrl];simp,by simpa using hcap,bx (f:=gu) (n:=7) (fun _=>rfl) _⟩) ((w3.keep fun id e=>kz _ _ id (w3.nid e).1 (w3.nid e).2.1 fun e1=>a23 id e1 e).bM fun _ e=>hH.none e) ((w4.keep fun id e=>kz _ _ id (w4.nid e).1 (w4.nid e).2.1 fun e1=>a24 id e1 e).bM fun _ e=>hH.none e) ⟨a12,a13,a14,a23,a24,a34⟩
  have k5' :(o.kind==5)=false:=by simp[p5]
  simp only[go_sem,k5']
  by_cases p6:o.kind=6
  ·have k6' :(o.kind==6)=true:=by simp[p6]
   simp only[go_sem,k6'];simp only[go_sem,k5,k3];have hha6:=F2 hSK.rd o.case o.field (Nat.le_trans hf.roles ad9);rw[hpp,hcC]at hha6;simp only[List.cons_append,List.nil_append]at hha6;refine hha6.pthen ?_;cases dha:yy s.roles ⟨o.case,o.field⟩
   ·simp only[go_sem]
    simp only[go_sem,k5,k3];have hap1:Rd K 2 (.sl [di ⟨o.case,o.field⟩] .full) [di ⟨o.case,o.field⟩]:=.sl aeP .full;have hfr:=hf.roles;refine OwE.app (U:=U) (tb:=105) (w4.sub sK) (s1.trans sK) hap1 aeg ad9 aea aeg aec aeH fun id4 y' K3 g4' hor hw ho2=>?_
    have hor' :K id4=none∨nid z4=some id4:=by
     exact aiU
    have n44:i4≠id4:=fun e=>by rw[←e,g4]at g4';cases g4'
    have n45:i5≠id4:=fun e=>by
     rcases hor' with hor|hor
     ·rw[←e,k5]at hor;cases hor
     ·exact(w4.nid hor).2.1 (by rw[←e];exact h5)
    have m4:K3 i4=_:=(ho2 i4 n44).trans k4;have m5:K3 i5=_:=(ho2 i5 n45).trans k5;simp only[go_sem,m5,hw.rd.fit,hw.rd.cells];simp only[go_sem,ak,n54,m4];have hdo:doD aR s o= {s with roles:=s.roles++ [⟨o.case,o.field⟩]}:=by simp[doD,p6,dha]
    have gid4:g id4=none:=hH.none g4';have kz:∀a b k,H k=none→H1 k≠none→nid z4≠some k→upd (upd K3 i5 a) i4 b k=H1 k:=fun a b k c d e=>by
     have:k≠id4:=fun e' =>by
      rcases hor' with hor|hor
      ·have:=kK k d;rw[e',hor]at this;exact d (by rw[e'];exact this.symm)
      ·exact e (by rw[e'];exact hor)
     rw[ag _ _ (hz4 k c),ag _ _ (hz5 k c d),ho2 k this,kK k d]
    have sg3:Ab.Sub g K3:=fun k b hk=>by rw[ho2 k (fun e=>by rw[e,gid4]at hk;cases hk)];exact sg _ _ hk
    refine .mk _ (.refl _) (.refl _) ⟨(sg3.put g5 _).put h4' _,_,?_,fun _=>hi0⟩
    rw[hdo];have hw' :OwE 105 g K3 2 y' ((s.roles++ [(⟨o.case,o.field⟩:gZ)]).map di):=by rw[List.map_append];exact .inr ⟨id4,gid4,hw⟩
    have hry:∀k,nid y' =some k→H1 k=none∨nid z4=some k:=fun k e=>by
     have:id4=k:=by have:=hw.nid;rw[e]at this;exact(Option.some.inj this).symm
     subst this;exact hor'.imp (fun h=>sK.none h) id
    have har:∀ {w:AV},apart w z4→(∀k,nid w=some k→H1 k≠none)→apart w y' :=fun ha hh k e1 e2=>(hry k e2).elim (fun h=>hh k e1 h) (fun h=>ha k e1 h)
    refine pL rfl hpp rfl ((hC.move (z:=z4) aec a14 (kz _ _) fun w hw k e=>?_).bM (fun _ e=>hH.none e)) ((w2.keep fun id e=>kz _ _ id (w2.nid e).1 (w2.nid e).2.1 fun e1=>a24 id e e1).bM fun _ e=>hH.none e) ((w3.keep fun id e=>kz _ _ id (w3.nid e).1 (w3.nid e).2.1 fun e1=>a34 id e e1).bM fun _ e=>hH.none e) (hw'.keep fun id e=>?_) ⟨a12,a13,har a14 fun k e=>(w1.nid e).2.1,a23,har a24 fun k e=>(w2.nid e).2.1,har a34 fun k e=>(w3.nid e).2.1⟩
    ·simp only[List.mem_cons,List.not_mem_nil,or_false]at hw
     rcases hw with rfl|rfl|rfl|rfl
     ·exact .inr ⟨w,aec,e⟩
     ·exact .inr ⟨w,aec,e⟩
     ·exact .inr ⟨w,aec,e⟩
     ·exact(hry k e).imp id fun h=>⟨z4,aec,h⟩
    ·have:id=id4:=by have:=hw.nid;rw[e]at this;exact Option.some.inj this
     rw[this,ag _ _ n44.symm,ag _ _ n45.symm]
   ·simp only[go_sem]
    simp only[go_sem,k5,k4];have hdo:doD aR s o=s:=by simp[doD,p6,dha]
    rw[hdo];refine .mk _ (.refl _) (.refl _) ⟨sg.put h4' _,_,(hS.keepb fun k hk hk1=>?_).bM fun _ e=>hH.none e,fun _=>hi0⟩
    rw[ag _ _ (hz4 k hk),kK k hk1]
  have k6' :(o.kind==6)=false:=by simp[p6]
  simp only[go_sem,k6']
  by_cases p7:o.kind=7
  ·have k7' :(o.kind==7)=true:=by simp[p7]
   simp only[go_sem,k7'];simp only[go_sem,k3];refine(ze o.text _ (he.sub sg)).pthen ?_;obtain⟨⟨pp,e,a⟩,epp⟩:∃x,aR o.text=x:=⟨_,rfl⟩;obtain⟨qid,qset,qalg,qtgt,qrules,qkids,qobls⟩:=pp;rw[epp];simp only[go_sem,j9,aK,aX];intro i9 h9;have n95:i5≠i9:=fun e=>by rw[←e,k5]at h9;cases h9
   have n94:i4≠i9:=fun e=>by rw[←e,k4]at h9;cases h9
   simp only[go_sem];have g9:g i9=none:=sg.none h9;have sg9:∀b,Ab.Sub g (upd K i9 b):=fun b=>sg.put g9 b
   have hz9:∀k,H1 k≠none→k≠i9:=fun k hk e=>hk (by have:=kK k hk;rw[e,h9]at this;rw[e];exact this.symm)
   by_cases pe:e=0
   ·have de:(e==0)=true:=by simp[pe]
    have wv:IntKind.i64.wrap (s.version+1)=s.version+1:=aU _ ad4;simp only[go_sem,de];simp only[go_sem,ak,n95,n94,n54,k5,k4,wv];have hdo:doD aR s o= {s with policy:=.mk qid qset qalg qtgt qrules qkids qobls,version:=s.version+1}:=by simp[doD,p7,epp,pe]
    have kz:∀a b c k,H k=none→H1 k≠none→upd (upd (upd K i9 a) i5 b) i4 c k=H1 k:=fun a b c k d e=>by rw[ag _ _ (hz4 k d),ag _ _ (hz5 k d e),ag _ _ (hz9 k e),kK k e]
    refine .mk _ (.refl _) (.refl _) ⟨((sg9 _).put g5 _).put h4' _,_,?_,fun _=>hi0⟩
    rw[hdo];exact pL rfl rfl rfl ((hC.keepb (kz _ _ _)).bM (fun _ e=>hH.none e)) ((w2.keepb (kz _ _ _)).bM (fun _ e=>hH.none e)) ((w3.keepb (kz _ _ _)).bM (fun _ e=>hH.none e)) ((w4.keepb (kz _ _ _)).bM (fun _ e=>hH.none e)) ⟨a12,a13,a14,a23,a24,a34⟩
   ·have de:(e==0)=false:=by simp[pe]
    simp only[go_sem,de];simp only[go_sem,ak,n95,n94,k5,k4];have hdo:doD aR s o=s:=by simp[doD,p7,epp,pe]
    rw[hdo];refine .mk _ (.refl _) (.refl _) ⟨(sg9 _).put h4' _,_,(hS.keepb fun k hk hk1=>?_).bM fun _ e=>hH.none e,fun _=>hi0⟩
    rw[ag _ _ (hz4 k hk),ag _ _ (hz9 k hk1),kK k hk1]
  have k7' :(o.kind==7)=false:=by simp[p7]
  simp only[go_sem,k7']
  by_cases p8:o.kind=8
  ·have k8' :(o.kind==8)=true:=by simp[p8]
   simp only[go_sem,k8'];have hrv:0<o.review∧o.review≤1099511627776:=by
    simp only[dD,dR,Bool.and_eq_true]at hform;simpa[okD,p8]using hform.2.1.2
   have htk:¬s.tick>1099511627776 - o.review:=by
    intro hgt;simp[bJ,hform,p8,hgt]at p0
   have w8:IntKind.i64.wrap (s.tick+o.review)=s.tick+o.review:=aU _ (by have:=ht.1;omega)
   simp only[go_sem,k5,k3,w8];simp only[go_sem,ak,n54,k4];have hdo:doD aR s o= {s with tick:=s.tick+o.review}:=by simp[doD,p8]
   have kz:∀a b k,H k=none→H1 k≠none→upd (upd K i5 a) i4 b k=H1 k:=fun a b k c d=>by rw[ag _ _ (hz4 k c),ag _ _ (hz5 k c d),kK k d]
   refine .mk _ (.refl _) (.refl _) ⟨(sg.put g5 _).put h4' _,_,?_,fun _=>hi0⟩
   rw[hdo];exact pL rfl hpp rfl ((hC.keepb (kz _ _)).bM (fun _ e=>hH.none e)) ((w2.keepb (kz _ _)).bM (fun _ e=>hH.none e)) ((w3.keepb (kz _ _)).bM (fun _ e=>hH.none e)) ((w4.keepb (kz _ _)).bM (fun _ e=>hH.none e)) ⟨a12,a13,a14,a23,a24,a34⟩
  have k8' :(o.kind==8)=false:=by simp[p8]
  simp only[go_sem,k8'];simp only[go_sem,k5,k4];have hdo:doD aR s o=s:=by simp[doD,p1,p3,p4,p5,p6,p7,p8]
  rw[hdo];refine .mk _ (.refl _) (.refl _) ⟨sg.put h4' _,_,(hS.keepb fun k hk hk1=>?_).bM fun _ e=>hH.none e,fun _=>hi0⟩
  rw[ag _ _ (hz4 k hk),kK k hk1]
 ·have d0:(bJ s o !=0)=true:=by simp[p0]
  simp only[go_sem,d0];simp only[go_sem,k5,k4];have hdone:dO aR s o=s:=by simp[dO,p0]
  rw[hdone];refine .mk _ (.refl _) (.refl _) ⟨sg.put h4' _,_,(hS.keepb fun k hk hk1=>?_).bM fun _ e=>hH.none e,fun h=>(p0 h).elim⟩
  rw[ag _ _ (hz4 k hk),kK k hk1]
end Go.Proofs.YtbbadggejjgihaaGreatDoor
namespace Go.Bf
def Mx:Txt:=[112,111,108,105,99,121,32,111,112,101,110,32,112,101,114,109,105,116,117,110,108,101,115,115,32,123,32,125]
def l8:bD:=.mk jJ false 6 [] [] [] []
def xh:an:=⟨0,[],[],[],[],l8,0⟩
end Go.Bf
namespace Go.Proofs.YtbbadggejjgihaaGreatDoor
open Go Go.Ab Go.Bf
theorem OT{g K:Heap}{S:an}{y1 y2 y3 y4:AV}{tk ver palg:Int}{pid:Txt}{pset:Bool}{ptgt:fY}{prules:List cU}{pkids:List bD}{pobls:List cy}(h1:S.tick=tk)(h2:S.policy= .mk pid pset palg ptgt prules pkids pobls)(h3:S.version=ver)
  (a:Frz g K y1 (fT S.cases)) (b:Frz g K y2 (kj S.reviews)) (c:Frz g K y3 (kM S.notices)) (d:Frz g K y4 (dW S.roles)):
  Frz g K (.agg [.i tk,y1,y2,y3,y4,.s pid,.b pset,.i palg,aW ptgt,.sl (prules.map aB) .no,.sl (pkids.map aK) .no,ay pobls,.i ver]) (ct S):=by
 have:=u0 a b c d;rw[h1,h2,h3,show fZ (.mk pid pset palg ptgt prules pkids pobls)= [.s pid,.b pset,.i palg,aW ptgt,.sl (prules.map aB) .no,.sl (pkids.map aK) .no,ay pobls] by simp[fZ,aX]]at this
 exact aeN
theorem KP{H:Heap}{i j:Nat}{a b:Option Blk}(c:Option Blk)(h:i≠j):upd (upd (upd H i a) j b) i c=upd (upd H i c) j b:=by
 grind [ah,ag]
theorem My:aR Mx=(l8,0,0):=aek
theorem SL(h:Heap)(he:iO h):ai Tryz.prog 18 [] h fun r h' =>r=ct xh∧h' =h:=
 ai.freeze fun g hg _=>by
 replace he:=he.sub hg;refine ad3 Tryz.func18 11 [.cell 0 51] fun hwf=>?_
 simp only[go_sem];intro i1 h1;simp only[go_sem];refine(ze Mx _ (he.sub (.aj h1))).pthen ?_;rw[My];simp only[go_sem,j9,l8,aK,aW,ay,fC,jJ,List.map_nil];intro i2 h2;have n21:=aH h2;have n2:=aC h2;simp only[go_sem,ak,n21.symm];refine .mk _ (.refl _) (.refl _) ⟨?_,ct xh,OT (S:=xh) rfl rfl rfl mF mF mF mF,rfl⟩;rw[KP _ n21.symm];exact((Sub.refl g).put h1 _).put n2 _
theorem se(s:Txt)(h:Heap):ai Tryz.prog 107 [.s s] h fun r h' =>r=aS (idV s)∧h' =h:=by
 refine ad3 Tryz.func107 5 [.cell 2 32] fun hwf=>?_
 exact ajI
theorem dU(cat:Int)(name:Txt)(xs:List AV)(q:Perm)(h:Heap):ai Tryz.prog 108 [.i cat,.s name,.sl xs q] h fun r h' =>r= .agg [.i cat,.s name,.sl xs q]∧h' =h:=by
 refine ad3 Tryz.func108 11 [.cell 6 199] fun hwf=>?_
 exact ajI
theorem Mi{α:Type}(y:AV)(xs:List AV)(ds:List α)(q:α→Bool)(g:FuncId)(cap:List AV)(h:Heap)(hb:Rd h 3 y xs)(hn:xs.length=ds.length)(hl:xs.length≤1000000000)(hx:∀x∈xs,bA x=true)
  (hp:∀i (h1:i<xs.length) (h2:i<ds.length),ai Tryz.prog g (xs[i]::cap) h fun r h' =>r= .b (q ds[i])∧h' =h):
  ai Tryz.prog 253 [y,.fn g cap] h fun r h' =>r= .i (ixD q ds)∧h' =h:=by
 refine ad3 Tryz.func253 19 [.tmp 4] fun hwf=>?_
 simp only[go_sem,hb.len];refine .intro (fun m ρ h' =>h' =h∧∃i:Nat,i≤xs.length∧m=xs.length - i∧(∀j (hj:j<i) (h2:j<ds.length),q ds[j]=false)∧lk ρ 0=some y∧lk ρ 1=some (.fn g cap)∧lk ρ 7=some (.i xs.length)∧lk ρ 8=some (.i i)) xs.length ?_ ?_
 ·refine⟨rfl,0,ad4,rfl,fun j hj=>ad4,?_,?_,?_,?_⟩<;>simp only[go_sem]
 ·rintro m ρ h' ⟨rfl,i,hi,rfl,hc,r0,r1,r7,r8⟩
  simp only[go_sem,r7,r8];refine .intro (fun e=>?_) (fun e=>?_)
  ·have hlt:i<xs.length:=ad1 e
   have hlt2:i<ds.length:=ad4;have w1:IntKind.i64.wrap ((i:Int)+1)=((i+1:Nat):Int):=aej;simp only[go_sem,r0,r1,r8];refine hb.idx (e:=163) i rfl hlt aek ad9 fun p hp1=>?_
   have hld:=hp1.all (U:=U) (ty:=163) ad9 ae2 afV;simp only[go_sem,hld];refine(show ai Tryz.prog g (xs[i]::cap) _ _ from hp i hlt hlt2).pthen ?_
   cases d1:q ds[i]
   ·simp only[go_sem,r8,w1]
    refine⟨_,?_,rfl,i+1,ad4,rfl,fun j hj h2=>?_,?_,?_,?_,?_⟩
    ·omega
    ·grind
    all_goals simp only[go_sem,r0,r1,r7]
   ·simp only[go_sem]
    exact .same (.refl _) ⟨aeR,rfl⟩
  ·have hge:i=xs.length:=by grind
   simp only[go_sem];exact .same (.refl _) ⟨aeA,rfl⟩
theorem NM{h:Heap}(x:wY){k:Nat}{subj:Txt}(hk:h k=some (.obj [.s subj] 9)):ai Tryz.prog 213 [gq x,.ptr k 0] h fun r h' =>r= .b (x.actor==subj)∧h' =h:=by
 refine ad3 Tryz.func213 8 [.tmp 3] fun hwf=>?_
 simp only[go_sem,gq];exact aiB
theorem uK{α:Type}(q:α→Bool)(l:List α):decide ((0:Int)≤ixD q l)=l.any q:=by
 unfold ixD
 grind
theorem JJ(y:AV)(ds:List wY)(q:wY→Bool)(g:FuncId)(cap:List AV)(h:Heap)(hb:Rd h 3 y (ds.map gq))(hl:ds.length≤1000000000)
  (hp:∀i (h2:i<ds.length),ai Tryz.prog g (gq ds[i]::cap) h fun r h' =>r= .b (q ds[i])∧h' =h):
  ai Tryz.prog 212 [y,.fn g cap] h fun r h' =>r= .b (ds.any q)∧h' =h:=by
 refine ad3 Tryz.func212 9 [.tmp 4] fun hwf=>?_
 simp only[go_sem];refine(Mi y _ ds q g cap h hb aec ad5 (oX (fun _=>rfl) _) fun i a b=>by rw[adV];exact hp i b).pthen ?_
 simp only[go_sem,uK];exact aee
theorem P8{h:Heap}{x:AV}{c:aM}(hb:RdC h x c)(subj:Txt)(hl:c.log.length≤1000000000):ai Tryz.prog 161 [x,.s subj] h fun r h' =>r=aS (uz c.log subj)∧h' =h:=by
 obtain⟨f,l,rfl,hf,hlg⟩:=hb;refine ad3 Tryz.func161 13 [.cell 4 32] fun hwf=>?_
 simp only[go_sem];intro i1 h1;simp only[go_sem];intro i2 h2;have n21:=aH h2;have n2:=aC h2;simp only[go_sem];intro i3 h3;have h3' :=aC h3;have n31:=aH h3';have n3:=aC h3';simp only[go_sem];intro i4 h4;have n43:=aH h4;have h4' :=aC h4;have h4'' :=aC h4';have n41:=aH h4'';have n4:=aC h4'';have hs:∀a b d e,Ab.Sub h (upd (upd (upd (upd h i1 a) i2 b) i3 d) i4 e):=fun a b d e=>((((Sub.refl h).put h1 a).put n2 b).put n3 d).put n4 e
 simp only[go_sem,ak,n21.symm,n31.symm,n41.symm];refine(JJ l c.log (fun x=>x.actor==subj) _ [.ptr i2 0] _ (hlg.sub (hs _ _ _ _)) hl fun i b=>NM _ (by grind [ak,gv,not_false_eq_true])).pthen ?_
 cases d1:c.log.any fun x=>x.actor==subj
 ·exact ajq
 ·exact ajq
def z6(g:bt)(q:Perm):AV:=.agg [.i g.cat,.s g.name,.sl (g.bag.map aS) q]
def GRow(ys:List AV)(gs:List bt):Prop:=ys.length=gs.length∧∀j (h1:j<ys.length) (h2:j<gs.length),∃q,ys[j]=z6 gs[j] q
theorem GRow.sized{ys:List AV}{gs:List bt}(h:GRow ys gs):Sized 3 ys:=fun z hz=>by
 obtain⟨i,hi,rfl⟩:=List.mem_iff_getElem.1 hz;obtain⟨q,e⟩:=h.2 i hi (by rw[←h.1];omega)
 rw[e];rfl
theorem GRow.one(g:bt)(q:Perm):GRow [z6 g q] [g]:=⟨rfl,fun j h1 h2=>by
 grind⟩
theorem GRow.app{ys zs:List AV}{gs ks:List bt}(h:GRow ys gs)(k:GRow zs ks):GRow (ys++zs) (gs++ks):=⟨by simp[h.1,k.1],fun j h1 h2=>by
 have hl:=h.1
 by_cases e:j<ys.length
 ·rw[List.getElem_append_left e,List.getElem_append_left ad4];exact h.2 j e ad4
 ·rw[List.getElem_append_right ad4,List.getElem_append_right ad4]
  simp only[adY]at h1 h2;obtain⟨q,e'⟩:=k.2 (j - ys.length) ad4 ad4;exact⟨q,ad5⟩⟩
theorem GRow.weak{ys:List AV}{gs:List bt}(h:GRow ys gs)(q:Perm):Weak (.sl ys q) (bL gs):=by
 refine .deep _ _ q (by simp[h.1]) (fun k h1 h2=>?_) fun k h1 h2 j h3 h4=>?_
 ·obtain⟨q',e'⟩:=h.2 k h1 ad5
  rw[e',adV];rfl
 ·obtain⟨q',e'⟩:=h.2 k h1 ad5
  simp only[e',adV];simp only[e',z6,AV.cells]at h3;rcases j with _|_|_|j
  ·exact afq
  ·exact afq
  ·exact agO
  ·simp at h3;omega
theorem GRow.givs(gs:List bt):GRow (gs.map lF) gs:=⟨aec,fun j h1 h2=>⟨.no,aef⟩⟩
theorem cu:(U 199).sz=3:=aek
theorem fM(g:bt)(q:Perm):Sized 3 [z6 g q]:=fun z hz=>ag3
def sC(c:aM)(subj:Txt):List bt:=[⟨3,idT,[idV c.id]⟩,⟨3,[111,119,110,101,114],[idV c.owner]⟩,⟨3,[115,116,97,116,101],[idV c.state]⟩,⟨3,[101,118,101,110,116,115],[⟨2,c.log.length,[]⟩]⟩,⟨3,[116,111,111,107],[uz c.log subj]⟩]
def sE(c:aM):List bt:=match c.log.getLast? with
 |some x=>[⟨3,[108,97,115,116],[idV x.actor]⟩]
 |none=>[]
def fO(l:List cN):List bt:=(l.filter fun f=>decide (f.name.length≤14)).map fun f=>⟨3,[102,95]++f.name,[f.val]⟩
theorem mw(l:List cN)(i:Nat)(h:i<l.length):fO (l.take (i+1))=fO (l.take i)++(if l[i].name.length≤14 then [⟨3,[102,95]++l[i].name,[l[i].val]⟩]else []):=by
 grind [fO,List.take_succ_eq_append_getElem]
theorem qv(c:aM)(subj:Txt):cI c subj=sC c subj++sE c++fO c.fields:=rfl
theorem Fj{h:Heap}(c:aM)(subj:Txt)(hl:c.log.length≤1000000)(hlf:c.fields.length≤1000000):ai Tryz.prog 109 [bT c,.s subj] h fun r h' =>r=bL (cI c subj)∧h' =h:=by
 refine ad3 Tryz.func109 77 [.tmp 4] fun hwf=>?_
 simp only[go_sem,bT,mO,gF,sH];intro i1 h1;simp only[go_sem];refine .quiet ad7 ?_;simp only[go_sem];refine⟨_,se _ _,?_⟩;simp only[go_sem,aS,idV];refine⟨_,dU _ _ _ _ _,?_⟩;simp only[go_sem];refine⟨_,se _ _,?_⟩;simp only[go_sem,aS,idV];refine⟨_,dU _ _ _ _ _,?_⟩;simp only[go_sem];refine⟨_,se _ _,?_⟩;simp only[go_sem,aS,idV];refine⟨_,dU _ _ _ _ _,?_⟩;simp only[go_sem];refine⟨_,dU _ _ _ _ _,?_⟩;simp only[go_sem];refine⟨_,P8 (show RdC _ (.agg [.s c.id,.s c.owner,.s c.state,.sl (c.fields.map bB) .no,.sl (c.log.map gq) .no]) c from rdC _ c) subj ad4,?_⟩
 simp only[go_sem,aS];refine⟨_,dU _ _ _ _ _,?_⟩;simp only[go_sem,adU];have hs1:∀b,Ab.Sub h (upd h i1 b):=fun b=>(Sub.refl h).put h1 b
 have hrow5:GRow [.agg [.i 3,.s [105,100],.sl [.agg [.i 5,.i 0,.s c.id]] .full],.agg [.i 3,.s [111,119,110,101,114],.sl [.agg [.i 5,.i 0,.s c.owner]] .full],.agg [.i 3,.s [115,116,97,116,101],.sl [.agg [.i 5,.i 0,.s c.state]] .full],.agg [.i 3,.s [101,118,101,110,116,115],.sl [.agg [.i 2,.i c.log.length,.s []]] .full],.agg [.i 3,.s [116,111,111,107],.sl [aS (uz c.log subj)] .full]] (sC c subj):=(GRow.one ⟨3,idT,[idV c.id]⟩ .full).app ((GRow.one ⟨3,[111,119,110,101,114],[idV c.owner]⟩ .full).app ((GRow.one ⟨3,[115,116,97,116,101],[idV c.state]⟩ .full).app ((GRow.one ⟨3,[101,118,101,110,116,115],[⟨2,c.log.length,[]⟩]⟩ .full).app (GRow.one ⟨3,[116,111,111,107],[uz c.log subj]⟩ .full))));simp only[aS]at hrow5;cases d1:decide ((0:Int)<(c.log.length:Int))
 ·have hl0:c.log= []:=List.length_eq_zero_iff.1 ad5
  simp only[go_sem];simp only[go_sem,adU];refine .intro (fun m ρ H=>∃(i:Nat) (y:AV) (ys:List AV),Acc U 199 h H y ys∧H i1=some (.obj [.s c.id,.s c.owner,.s c.state,.sl (c.fields.map bB) .no,.sl (c.log.map gq) .no] 133)∧GRow ys (sC c subj++fO (c.fields.take i))∧i≤c.fields.length∧m=c.fields.length - i∧lk ρ 5=some y∧lk ρ 2=some (.ptr i1 0)∧lk ρ 55=some (.sl (c.fields.map bB) .no)∧lk ρ 56=some (.i c.fields.length)∧lk ρ 57=some (.i i)) c.fields.length ?_ ?_
  ·refine⟨0,_,_,.full (hs1 _),ah ..,(by have:=hrow5;simpa[fO]using this),ad4,rfl,?_,?_,?_,?_,?_⟩<;>simp only[go_sem]
  ·rintro m ρ H ⟨i,y,ys,hy,g1,hrow,hi,rfl,r5,r2,r55,r56,r57⟩
   simp only[go_sem,r56,r57];refine .intro (fun e=>?_) (fun e=>?_)
   ·have hlt:i<c.fields.length:=ad1 e
    have w1:IntKind.i64.wrap ((i:Int)+1)=((i+1:Nat):Int):=aej;simp only[go_sem,r55,r57];refine .at i ad5 aef ?_;simp only[go_sem,adV,bB];intro i8 h8;have n81:i1≠i8:=fun e=>ad5
    simp only[go_sem];cases d2:decide ((c.fields[i].name.length:Int)≤14)
    ·exact aiF
    ·simp only[go_sem,r5]
     have h14:c.fields[i].name.length≤14:=ad5;refine⟨by grind [Nat,lim],?_⟩
     refine(dU _ _ _ _ _).pthen ?_;simp only[go_sem];refine(hy.sub (.aj h8)).app (zs:=[z6 ⟨3,[102,95]++c.fields[i].name,[c.fields[i].val]⟩ .full]) ad9 ad9 (fun k hk=>(Rd.sl (fM _ _) .full:Rd _ 3 _ _).src cu hk) (by rw[cu];exact hrow.sized) (by grind [cu,fM]) (by
      have hln:(fO (c.fields.take i)).length≤i:=agc;simp only[go_sem,hrow.1,List.length_cons,List.length_nil,sC];omega) fun y' H' hy' kp=>?_
     exact ai0
   ·have hge:i=c.fields.length:=by grind
    subst hge;rw[List.take_length]at hrow;obtain⟨q,rfl⟩:=hy.row;simp only[go_sem,r5];exact .mk (bL (cI c subj)) (show Weak (.sl ys q) _ by rw[qv,sE,hl0];simpa using hrow.weak q) hy.1 ⟨rfl,rfl⟩
 ·have hl1:0<c.log.length:=by grind
  simp only[go_sem];have w0:IntKind.i64.wrap ((c.log.length:Int) - 1)=((c.log.length - 1:Nat):Int):=aej;simp only[go_sem,w0];refine .at (c.log.length - 1) ad5 aef ?_;simp only[go_sem,adV,gq];rw[if_neg (fun hh=>hh.1)]
  refine(se _ _).pthen ?_;simp only[go_sem,aS,idV];refine(dU _ _ _ _ _).pthen ?_;simp only[go_sem];have hgl:c.log.getLast? =some c.log[c.log.length - 1]:=ad5;have hlast:GRow [.agg [.i 3,.s [108,97,115,116],.sl [.agg [.i 5,.i 0,.s c.log[c.log.length - 1].actor]] .full]] (sE c):=by
   unfold sE;rw[hgl];exact GRow.one ⟨3,[108,97,115,116],[idV c.log[c.log.length - 1].actor]⟩ .full
  refine .accs (hs1 _) fun y0 H0 hy0 kp0=>?_
  simp only[go_sem,kp0 _ _ _ (ah ..),adU];refine .intro (fun m ρ H=>∃(i:Nat) (y:AV) (ys:List AV),Acc U 199 h H y ys∧H i1=some (.obj [.s c.id,.s c.owner,.s c.state,.sl (c.fields.map bB) .no,.sl (c.log.map gq) .no] 133)∧GRow ys ((sC c subj++sE c)++fO (c.fields.take i))∧i≤c.fields.length∧m=c.fields.length - i∧lk ρ 5=some y∧lk ρ 2=some (.ptr i1 0)∧lk ρ 55=some (.sl (c.fields.map bB) .no)∧lk ρ 56=some (.i c.fields.length)∧lk ρ 57=some (.i i)) c.fields.length ?_ ?_
  ·refine⟨0,_,_,hy0,kp0 _ _ _ (ah ..),(by have:=hrow5.app hlast;simpa[fO]using this),ad4,rfl,?_,?_,?_,?_,?_⟩<;>simp only[go_sem]
  ·rintro m ρ H ⟨i,y,ys,hy,g1,hrow,hi,rfl,r5,r2,r55,r56,r57⟩
   simp only[go_sem,r56,r57];refine .intro (fun e=>?_) (fun e=>?_)
   ·have hlt:i<c.fields.length:=ad1 e
    have w1:IntKind.i64.wrap ((i:Int)+1)=((i+1:Nat):Int):=aej;simp only[go_sem,r55,r57];refine .at i ad5 aef ?_;simp only[go_sem,adV,bB];intro i8 h8;have n81:i1≠i8:=fun e=>ad5
    simp only[go_sem];cases d2:decide ((c.fields[i].name.length:Int)≤14)
    ·exact aiF
    ·simp only[go_sem,r5]
     have h14:c.fields[i].name.length≤14:=ad5;refine⟨by grind [Nat,lim],?_⟩
     refine(dU _ _ _ _ _).pthen ?_;simp only[go_sem];refine(hy.sub (.aj h8)).app (zs:=[z6 ⟨3,[102,95]++c.fields[i].name,[c.fields[i].val]⟩ .full]) ad9 ad9 (fun k hk=>(Rd.sl (fM _ _) .full:Rd _ 3 _ _).src cu hk) (by rw[cu];exact hrow.sized) (by grind [cu,fM]) (by
      have hln:(fO (c.fields.take i)).length≤i:=agc;simp only[go_sem,hrow.1,List.length_cons,List.length_nil,sC,sE,hgl];omega) fun y' H' hy' kp=>?_
     exact ai0
   ·have hge:i=c.fields.length:=by grind
    subst hge;rw[List.take_length]at hrow;obtain⟨q,rfl⟩:=hy.row;simp only[go_sem,r5];exact .mk (bL (cI c subj)) (show Weak (.sl ys q) _ by rw[qv];exact hrow.weak q) hy.1 ⟨rfl,rfl⟩
theorem EA{l:List gZ}{subj:Txt}{i:Nat}(h:i<l.length)(h1:l[i].subj=subj)(h2:(dz (l.take i) subj).length<16):dz (l.take (i+1)) subj=dz (l.take i) subj++ [idV l[i].role]:=by
 unfold dz at h2⊢;rw[List.take_succ_eq_append_getElem h,List.filter_append,List.map_append]
 grind [List.length_take,idV,List.take_append,List.take_of_length_le]
theorem zw{l:List gZ}{subj:Txt}{i:Nat}(h:i<l.length)(h1:l[i].subj≠subj∨¬(dz (l.take i) subj).length<16):dz (l.take (i+1)) subj=dz (l.take i) subj:=by
 grind [dz,List.take_succ_eq_append_getElem,List.take_append,List.length_take]
theorem GG(l:List gZ)(subj:Txt):(dz l subj).length≤16:=by grind [dz,List.length_take]
def cR(s:an)(o:OpD):List bt:=[⟨1,idT,[idV o.subj]⟩,⟨1,[114,111,108,101],dz s.roles o.subj⟩,⟨2,[110,97,109,101],[idV (iQ o.kind)]⟩]
theorem yo{s:an}(hf:Few s)(id:Txt):(bw s.cases id).log.length≤1000000∧(bw s.cases id).fields.length≤1000000:=by
 cases e:cc s.cases id
 ·rw[C1 e];decide
 ·rw[C0 e];exact⟨hf.log _ aec,hf.fields _ aec⟩
theorem CW(c:aM)(subj:Txt):(cI c subj).length≤6+c.fields.length:=by
 grind [qv,adY,sE,fO,adU,List.length_filter_le,sC]
theorem jH{h G:Heap}{i:Nat}(hs:Ab.Sub h G)(hi:G i=none):h i=none:=hs.none hi
theorem CD:(U 32).sz=3:=aek
theorem RN{h:Heap}{x:AV}{s:an}(hb:RdS h x s)(o:OpD)(hf:Few s)(hk:i64 o.kind):ai Tryz.prog 52 [x,opA o] h fun r h' =>r=bL (fI s o)∧h' =h:=by
 have hca:=fun(G:Heap) (hG:Ab.Sub h G)=>B0 (hb.sub hG) o.case hf
 obtain⟨y1,y2,y3,y4,rfl,⟨xs,hc,hn,hcs⟩,h2,h3,h4⟩:=hb;cases hpp:s.policy with
 |mk pid pset palg ptgt prules pkids pobls=>
 have hcC:fZ (.mk pid pset palg ptgt prules pkids pobls)= [.s pid,.b pset,.i palg,aW ptgt,.sl (prules.map aB) .no,.sl (pkids.map aK) .no,ay pobls]:=ahd;rw[hpp,hcC]at hca;simp only[List.cons_append,List.nil_append]at hca;have hfr:=hf.roles;refine ad3 Tryz.func52 99 [.tmp 4] fun hwf=>?_
 simp only[go_sem,hcC,opA,opC,List.cons_append,List.nil_append];intro i1 h1;simp only[go_sem];intro i2 h2';have n21:=aH h2';have n2:=aC h2';simp only[go_sem,ak,n21.symm,h4.len,adU];obtain⟨H,eH⟩:∃H,upd (upd h i1 (some (.obj [.i s.tick,y1,y2,y3,y4,.s pid,.b pset,.i palg,aW ptgt,.sl (prules.map aB) .no,.sl (pkids.map aK) .no,ay pobls,.i s.version] 51))) i2 (some (.obj (opC o) 34))=H:=⟨_,rfl⟩;have hH:Ab.Sub h H:=ae6;have g1:H i1=some (.obj [.i s.tick,y1,y2,y3,y4,.s pid,.b pset,.i palg,aW ptgt,.sl (prules.map aB) .no,.sl (pkids.map aK) .no,ay pobls,.i s.version] 51):=afH;have g2:H i2=some (.obj (opC o) 34):=afz;simp only[opC]at eH g2;rw[eH];clear eH;refine .intro (fun m ρ G=>∃(i:Nat) (y:AV),Acc U 32 H G y ((dz (s.roles.take i) o.subj).map aS)∧i≤s.roles.length∧m=s.roles.length - i∧lk ρ 5=some y∧lk ρ 2=some (.ptr i1 0)∧lk ρ 3=some (.ptr i2 0)∧lk ρ 12=some y4∧lk ρ 13=some (.i s.roles.length)∧lk ρ 14=some (.i i)) s.roles.length ?_ ?_
 ·refine⟨0,_,.full (.refl _),ad4,rfl,?_,?_,?_,?_,?_,?_⟩<;>simp only[go_sem,dz,List.take_zero,List.filter_nil,List.map_nil]
 ·rintro m ρ G ⟨i,y,hy,hi,rfl,r5,r2,r3,r12,r13,r14⟩
  have k1:=hy.1 _ _ g1;have k2:=hy.1 _ _ g2;simp only[go_sem,r13,r14];refine .intro (fun e=>?_) (fun e=>?_)
  ·have hlt:i<s.roles.length:=ad1 e
   have w1:=ad0 i ad4;simp only[go_sem,r12,r14];refine(h4.sub (hH.trans hy.1)).idx (e:=105) i rfl aeq IJ ad9 fun p hp1=>?_
   have hld:=hp1.all (U:=U) (ty:=105) aeg (by rw[IJ,adV];rfl) aeM
   simp only[go_sem,hld,adV,di];intro i7 h7;have n71:i1≠i7:=fun e=>by rw[←e,k1]at h7;cases h7
   have n72:i2≠i7:=fun e=>by rw[←e,k2]at h7;cases h7
   simp only[go_sem,ak,n72,k2,r3];have hy7:=hy.sub (.aj h7 (k:=some (.obj [.s s.roles[i].subj,.s s.roles[i].role] 105)));have lr:=GG (s.roles.take i) o.subj;cases d1:(s.roles[i].subj==o.subj)
   ·have p1:s.roles[i].subj≠o.subj:=by simpa using d1
    simp only[go_sem,r14,w1];refine⟨_,?_,i+1,y,by rw[zw hlt (.inl p1)];exact hy7,ad4,rfl,?_,?_,?_,?_,?_,?_⟩
    ·omega
    all_goals simp only[go_sem,r5,r2,r3,r12,r13]
   ·have p1:s.roles[i].subj=o.subj:=by simpa using d1
    simp only[go_sem,r5,hy.len,adU];cases d2:decide (((dz (s.roles.take i) o.subj).length:Int)<16)
    ·have p2:¬(dz (s.roles.take i) o.subj).length<16:=by have:=adX d2;omega
     simp only[go_sem,r14,w1];refine⟨_,?_,i+1,y,by rw[zw hlt (.inr p2)];exact hy7,ad4,rfl,?_,?_,?_,?_,?_,?_⟩
     ·omega
     all_goals simp only[go_sem,r5,r2,r3,r12,r13]
    ·have p2:(dz (s.roles.take i) o.subj).length<16:=by have:=adW d2;omega
     simp only[go_sem,r5];refine(se _ _).pthen ?_;simp only[go_sem,aS,idV];refine hy7.app (zs:=[aS (idV s.roles[i].role)]) (by rw[CD];decide) aea (fun k hk=>(Rd.sl (fun z hz=>ag3) .full:Rd _ 3 _ _).src CD hk) (by rw[CD];exact bx (f:=aS) (fun _=>rfl) _) (by rw[CD];exact bx (f:=aS) (fun _=>rfl) [idV s.roles[i].role]) afl fun y' H' hy' kp=>?_
     simp only[go_sem,r14,w1];refine⟨_,?_,i+1,y',by rw[EA hlt p1 p2,List.map_append];exact hy',ad4,rfl,?_,?_,?_,?_,?_,?_⟩
     ·omega
     all_goals simp only[go_sem,r2,r3,r12,r13]
  ·have hge:i=s.roles.length:=by have:=adX e;omega
   subst hge;rw[List.take_length]at hy;simp only[go_sem];obtain⟨q5,rfl⟩:=hy.row;refine .quiet ad7 ?_;simp only[go_sem,k2,r3];refine⟨_,se _ _,?_⟩;simp only[go_sem,aS,idV];refine⟨_,dU _ _ _ _ _,?_⟩;simp only[go_sem,r5];refine⟨_,dU _ _ _ _ _,?_⟩;simp only[go_sem,k2,r3];refine⟨_,uJ _ hk _,?_⟩;simp only[go_sem];refine⟨_,se _ _,?_⟩;simp only[go_sem,aS,idV];refine⟨_,dU _ _ _ _ _,?_⟩;simp only[go_sem,k2,r3];have hak:=fun(G:Heap)=>Fj (h:=G) (bw s.cases o.case) o.subj (yo hf o.case).1 (yo hf o.case).2
   simp only[bT,mO,gF,sH]at hak;have hakl:=CW (bw s.cases o.case) o.subj;have hakf:=(yo hf o.case).2;have hr0:GRow [.agg [.i 1,.s [105,100],.sl [.agg [.i 5,.i 0,.s o.subj]] .full],.agg [.i 1,.s [114,111,108,101],.sl ((dz s.roles o.subj).map aS) q5],.agg [.i 2,.s [110,97,109,101],.sl [.agg [.i 5,.i 0,.s (iQ o.kind)]] .full]] (cR s o):=(GRow.one ⟨1,idT,[idV o.subj]⟩ .full).app ((GRow.one ⟨1,[114,111,108,101],dz s.roles o.subj⟩ q5).app (GRow.one ⟨2,[110,97,109,101],[idV (iQ o.kind)]⟩ .full))
   by_cases pf:o.field= []
   ·have df:(o.field==([]:Txt))=true:=by simp[pf]
    simp only[go_sem,k2,r3,df]
    by_cases pt:o.to= []
    ·have dt:(o.to==([]:Txt))=true:=by simp[pt]
     simp only[go_sem,k1,r2,dt];refine(dU _ _ _ _ _).pthen ?_;simp only[go_sem];refine .accs hy.1 fun y1 G1 hy1 kp1=>?_
     have k1_1:=kp1 _ _ _ k1;have k2_1:=kp1 _ _ _ k2;have hr1:=hr0.app (GRow.one (⟨4,[110,111,119],[⟨4,s.tick,[]⟩]⟩:bt) .full);simp only[go_sem,k1_1,k2_1,r2,r3];refine(hca _ (hH.trans hy1.1)).pthen ?_;simp only[go_sem,bT,mO,gF,sH];intro i20 h20;have n21:i1≠i20:=fun e=>by rw[←e,k1_1]at h20;cases h20
     have n22:i2≠i20:=fun e=>by rw[←e,k2_1]at h20;cases h20
     simp only[go_sem];obtain⟨q2,eq2⟩:=hy1.row;cases dth:cc s.cases o.case
     ·simp only[go_sem]
      exact .mk (bL (fI s o)) (show Weak y1 _ by rw[eq2,show fI s o=(cR s o++ [(⟨4,[110,111,119],[⟨4,s.tick,[]⟩]⟩:bt)]) by simp[fI,cR,dth,pf,pt]];exact hr1.weak q2) ((hH.trans hy1.1).put (jH (hH.trans hy1.1) h20) _) ⟨rfl,rfl⟩
     ·simp only[go_sem,ak,n22,k2_1,r3]
      by_cases p6:o.kind=6
      ·have d6:(o.kind !=6)=false:=by simp[p6]
       simp only[go_sem,d6];exact .mk (bL (fI s o)) (show Weak y1 _ by rw[eq2,show fI s o=(cR s o++ [(⟨4,[110,111,119],[⟨4,s.tick,[]⟩]⟩:bt)]) by simp[fI,cR,dth,p6,pf,pt]];exact hr1.weak q2) ((hH.trans hy1.1).put (jH (hH.trans hy1.1) h20) _) ⟨rfl,rfl⟩
      ·have d6:(o.kind !=6)=true:=by simp[p6]
       simp only[go_sem,ak,n22,k2_1,r3,d6];refine(hak _).pthen ?_;simp only[go_sem,bL];refine(hy1.sub (.aj h20)).app (zs:=(cI (bw s.cases o.case) o.subj).map lF) ags aea (fun k hk=>(eC lF 3 (fun _=>rfl) _ _).src cu hk) (by rw[cu];exact hr1.sized) afK ae1 fun yz Gz hyz kpz=>?_
       simp only[go_sem];obtain⟨qz,eqz⟩:=hyz.row;exact .mk (bL (fI s o)) (show Weak yz _ by rw[eqz,show fI s o=(cR s o++ [(⟨4,[110,111,119],[⟨4,s.tick,[]⟩]⟩:bt)])++cI (bw s.cases o.case) o.subj by simp[fI,cR,dth,p6,pf,pt]];exact(hr1.app (GRow.givs _)).weak qz) (hH.trans hyz.1) ⟨rfl,rfl⟩
    ·have dt:(o.to==([]:Txt))=false:=by simp[pt]
     simp only[go_sem,k2,r3,dt];refine(se _ _).pthen ?_;simp only[go_sem,aS,idV];refine(dU _ _ _ _ _).pthen ?_;simp only[go_sem];refine .accs hy.1 fun y3 G3 hy3 kp3=>?_
     have k1_3:=kp3 _ _ _ k1;have k2_3:=kp3 _ _ _ k2;have hr3:=hr0.app (GRow.one (⟨2,[116,111],[idV o.to]⟩:bt) .full);simp only[go_sem,k1_3,r2];refine(dU _ _ _ _ _).pthen ?_;simp only[go_sem];refine hy3.app (zs:=[z6 (⟨4,[110,111,119],[⟨4,s.tick,[]⟩]⟩) .full]) ags aea (fun k hk=>(Rd.sl (fM _ _) .full:Rd _ 3 _ _).src cu hk) (by rw[cu];exact hr3.sized) ahB ae8 fun y4 G4 hy4 kp4=>?_
     have k1_4:=kp4 _ _ _ k1_3;have k2_4:=kp4 _ _ _ k2_3;have hr4:=hr3.app (GRow.one (⟨4,[110,111,119],[⟨4,s.tick,[]⟩]⟩:bt) .full);simp only[go_sem,k1_4,k2_4,r2,r3];refine(hca _ (hH.trans hy4.1)).pthen ?_;simp only[go_sem,bT,mO,gF,sH];intro i50 h50;have n51:i1≠i50:=fun e=>by rw[←e,k1_4]at h50;cases h50
     have n52:i2≠i50:=fun e=>by rw[←e,k2_4]at h50;cases h50
     simp only[go_sem];obtain⟨q5,eq5⟩:=hy4.row;cases dth:cc s.cases o.case
     ·simp only[go_sem]
      exact .mk (bL (fI s o)) (show Weak y4 _ by rw[eq5,show fI s o=((cR s o++ [(⟨2,[116,111],[idV o.to]⟩:bt)])++ [(⟨4,[110,111,119],[⟨4,s.tick,[]⟩]⟩:bt)]) by simp[fI,cR,dth,pf,pt]];exact hr4.weak q5) ((hH.trans hy4.1).put (jH (hH.trans hy4.1) h50) _) ⟨rfl,rfl⟩
     ·simp only[go_sem,ak,n52,k2_4,r3]
      by_cases p6:o.kind=6
      ·have d6:(o.kind !=6)=false:=by simp[p6]
       simp only[go_sem,d6];exact .mk (bL (fI s o)) (show Weak y4 _ by rw[eq5,show fI s o=((cR s o++ [(⟨2,[116,111],[idV o.to]⟩:bt)])++ [(⟨4,[110,111,119],[⟨4,s.tick,[]⟩]⟩:bt)]) by simp[fI,cR,dth,p6,pf,pt]];exact hr4.weak q5) ((hH.trans hy4.1).put (jH (hH.trans hy4.1) h50) _) ⟨rfl,rfl⟩
      ·have d6:(o.kind !=6)=true:=by simp[p6]
       simp only[go_sem,ak,n52,k2_4,r3,d6];refine(hak _).pthen ?_;simp only[go_sem,bL];refine(hy4.sub (.aj h50)).app (zs:=(cI (bw s.cases o.case) o.subj).map lF) ags aea (fun k hk=>(eC lF 3 (fun _=>rfl) _ _).src cu hk) (by rw[cu];exact hr4.sized) afK ae1 fun yz Gz hyz kpz=>?_
       simp only[go_sem];obtain⟨qz,eqz⟩:=hyz.row;exact .mk (bL (fI s o)) (show Weak yz _ by rw[eqz,show fI s o=((cR s o++ [(⟨2,[116,111],[idV o.to]⟩:bt)])++ [(⟨4,[110,111,119],[⟨4,s.tick,[]⟩]⟩:bt)])++cI (bw s.cases o.case) o.subj by simp[fI,cR,dth,p6,pf,pt]];exact(hr4.app (GRow.givs _)).weak qz) (hH.trans hyz.1) ⟨rfl,rfl⟩
   ·have df:(o.field==([]:Txt))=false:=by simp[pf]
    simp only[go_sem,k2,r3,df];refine(se _ _).pthen ?_;simp only[go_sem,aS,idV];refine(dU _ _ _ _ _).pthen ?_;simp only[go_sem];refine .accs hy.1 fun y6 G6 hy6 kp6=>?_
    have k1_6:=kp6 _ _ _ k1;have k2_6:=kp6 _ _ _ k2;have hr6:=hr0.app (GRow.one (⟨2,[102,105,101,108,100],[idV o.field]⟩:bt) .full);simp only[go_sem,k2_6,r3]
    by_cases pt:o.to= []
    ·have dt:(o.to==([]:Txt))=true:=by simp[pt]
     simp only[go_sem,k1_6,r2,dt];refine(dU _ _ _ _ _).pthen ?_;simp only[go_sem];refine hy6.app (zs:=[z6 (⟨4,[110,111,119],[⟨4,s.tick,[]⟩]⟩) .full]) ags aea (fun k hk=>(Rd.sl (fM _ _) .full:Rd _ 3 _ _).src cu hk) (by rw[cu];exact hr6.sized) ahB ae8 fun y7 G7 hy7 kp7=>?_
     have k1_7:=kp7 _ _ _ k1_6;have k2_7:=kp7 _ _ _ k2_6;have hr7:=hr6.app (GRow.one (⟨4,[110,111,119],[⟨4,s.tick,[]⟩]⟩:bt) .full);simp only[go_sem,k1_7,k2_7,r2,r3];refine(hca _ (hH.trans hy7.1)).pthen ?_;simp only[go_sem,bT,mO,gF,sH];intro i80 h80;have n81:i1≠i80:=fun e=>by rw[←e,k1_7]at h80;cases h80
     have n82:i2≠i80:=fun e=>by rw[←e,k2_7]at h80;cases h80
     simp only[go_sem];obtain⟨q8,eq8⟩:=hy7.row;cases dth:cc s.cases o.case
     ·simp only[go_sem]
      exact .mk (bL (fI s o)) (show Weak y7 _ by rw[eq8,show fI s o=((cR s o++ [(⟨2,[102,105,101,108,100],[idV o.field]⟩:bt)])++ [(⟨4,[110,111,119],[⟨4,s.tick,[]⟩]⟩:bt)]) by simp[fI,cR,dth,pf,pt]];exact hr7.weak q8) ((hH.trans hy7.1).put (jH (hH.trans hy7.1) h80) _) ⟨rfl,rfl⟩
     ·simp only[go_sem,ak,n82,k2_7,r3]
      by_cases p6:o.kind=6
      ·have d6:(o.kind !=6)=false:=by simp[p6]
       simp only[go_sem,d6];exact .mk (bL (fI s o)) (show Weak y7 _ by rw[eq8,show fI s o=((cR s o++ [(⟨2,[102,105,101,108,100],[idV o.field]⟩:bt)])++ [(⟨4,[110,111,119],[⟨4,s.tick,[]⟩]⟩:bt)]) by simp[fI,cR,dth,p6,pf,pt]];exact hr7.weak q8) ((hH.trans hy7.1).put (jH (hH.trans hy7.1) h80) _) ⟨rfl,rfl⟩
      ·have d6:(o.kind !=6)=true:=by simp[p6]
       simp only[go_sem,ak,n82,k2_7,r3,d6];refine(hak _).pthen ?_;simp only[go_sem,bL];refine(hy7.sub (.aj h80)).app (zs:=(cI (bw s.cases o.case) o.subj).map lF) ags aea (fun k hk=>(eC lF 3 (fun _=>rfl) _ _).src cu hk) (by rw[cu];exact hr7.sized) afK ae1 fun yz Gz hyz kpz=>?_
       simp only[go_sem];obtain⟨qz,eqz⟩:=hyz.row;exact .mk (bL (fI s o)) (show Weak yz _ by rw[eqz,show fI s o=((cR s o++ [(⟨2,[102,105,101,108,100],[idV o.field]⟩:bt)])++ [(⟨4,[110,111,119],[⟨4,s.tick,[]⟩]⟩:bt)])++cI (bw s.cases o.case) o.subj by simp[fI,cR,dth,p6,pf,pt]];exact(hr7.app (GRow.givs _)).weak qz) (hH.trans hyz.1) ⟨rfl,rfl⟩
    ·have dt:(o.to==([]:Txt))=false:=by simp[pt]
     simp only[go_sem,k2_6,r3,dt];refine(se _ _).pthen ?_;simp only[go_sem,aS,idV];refine(dU _ _ _ _ _).pthen ?_;simp only[go_sem];refine hy6.app (zs:=[z6 (⟨2,[116,111],[idV o.to]⟩) .full]) ags aea (fun k hk=>(Rd.sl (fM _ _) .full:Rd _ 3 _ _).src cu hk) (by rw[cu];exact hr6.sized) ahB ae8 fun y9 G9 hy9 kp9=>?_
     have k1_9:=kp9 _ _ _ k1_6;have k2_9:=kp9 _ _ _ k2_6;have hr9:=hr6.app (GRow.one (⟨2,[116,111],[idV o.to]⟩:bt) .full);simp only[go_sem,k1_9,r2];refine(dU _ _ _ _ _).pthen ?_;simp only[go_sem];refine hy9.app (zs:=[z6 (⟨4,[110,111,119],[⟨4,s.tick,[]⟩]⟩) .full]) ags aea (fun k hk=>(Rd.sl (fM _ _) .full:Rd _ 3 _ _).src cu hk) (by rw[cu];exact hr9.sized) ahB ae8 fun y10 G10 hy10 kp10=>?_
     have k1_10:=kp10 _ _ _ k1_9;have k2_10:=kp10 _ _ _ k2_9;have hr10:=hr9.app (GRow.one (⟨4,[110,111,119],[⟨4,s.tick,[]⟩]⟩:bt) .full);simp only[go_sem,k1_10,k2_10,r2,r3];refine(hca _ (hH.trans hy10.1)).pthen ?_;simp only[go_sem,bT,mO,gF,sH];intro i110 h110;have n111:i1≠i110:=fun e=>by rw[←e,k1_10]at h110;cases h110
     have n112:i2≠i110:=fun e=>by rw[←e,k2_10]at h110;cases h110
     simp only[go_sem];obtain⟨q11,eq11⟩:=hy10.row;cases dth:cc s.cases o.case
     ·simp only[go_sem]
      exact .mk (bL (fI s o)) (show Weak y10 _ by rw[eq11,show fI s o=(((cR s o++ [(⟨2,[102,105,101,108,100],[idV o.field]⟩:bt)])++ [(⟨2,[116,111],[idV o.to]⟩:bt)])++ [(⟨4,[110,111,119],[⟨4,s.tick,[]⟩]⟩:bt)]) by simp[fI,cR,dth,pf,pt]];exact hr10.weak q11) ((hH.trans hy10.1).put (jH (hH.trans hy10.1) h110) _) ⟨rfl,rfl⟩
     ·simp only[go_sem,ak,n112,k2_10,r3]
      by_cases p6:o.kind=6
      ·have d6:(o.kind !=6)=false:=by simp[p6]
       simp only[go_sem,d6];exact .mk (bL (fI s o)) (show Weak y10 _ by rw[eq11,show fI s o=(((cR s o++ [(⟨2,[102,105,101,108,100],[idV o.field]⟩:bt)])++ [(⟨2,[116,111],[idV o.to]⟩:bt)])++ [(⟨4,[110,111,119],[⟨4,s.tick,[]⟩]⟩:bt)]) by simp[fI,cR,dth,p6,pf,pt]];exact hr10.weak q11) ((hH.trans hy10.1).put (jH (hH.trans hy10.1) h110) _) ⟨rfl,rfl⟩
      ·have d6:(o.kind !=6)=true:=by simp[p6]
       simp only[go_sem,ak,n112,k2_10,r3,d6];refine(hak _).pthen ?_;simp only[go_sem,bL];refine(hy10.sub (.aj h110)).app (zs:=(cI (bw s.cases o.case) o.subj).map lF) ags aea (fun k hk=>(eC lF 3 (fun _=>rfl) _ _).src cu hk) (by rw[cu];exact hr10.sized) afK ae1 fun yz Gz hyz kpz=>?_
       simp only[go_sem];obtain⟨qz,eqz⟩:=hyz.row;exact .mk (bL (fI s o)) (show Weak yz _ by rw[eqz,show fI s o=(((cR s o++ [(⟨2,[102,105,101,108,100],[idV o.field]⟩:bt)])++ [(⟨2,[116,111],[idV o.to]⟩:bt)])++ [(⟨4,[110,111,119],[⟨4,s.tick,[]⟩]⟩:bt)])++cI (bw s.cases o.case) o.subj by simp[fI,cR,dth,p6,pf,pt]];exact(hr10.app (GRow.givs _)).weak qz) (hH.trans hyz.1) ⟨rfl,rfl⟩
end Go.Proofs.YtbbadggejjgihaaGreatDoor
namespace Go.Bf
open Go Go.Ab
def OP(a b:bO):Bool:=a.attr.cat==b.attr.cat && (a.attr.name==b.attr.name && (a.attr.must==b.attr.must && (a.op==b.op && (a.val.kind==b.val.kind && (a.val.n==b.val.n && a.val.s==b.val.s)))))
def Sk(a b:aQ):Bool:=a.op==b.op && (a.val.kind==b.val.kind && (a.val.n==b.val.n && (a.val.s==b.val.s && (a.attr.cat==b.attr.cat && (a.attr.name==b.attr.name && a.attr.must==b.attr.must)))))
def tF(a b:cy):Bool:=a.on==b.on && (a.kind==b.kind && a.arg==b.arg)
def eqL{α:Type}(f:α→α→Bool):List α→List α→Bool
 | [],[]=>true
 |x::a,y::b=>f x y && eqL f a b
 |_,_=>false
theorem yh{α:Type}{f:α→α→Bool}:∀ {a b:List α},a.length=b.length→(∀j (h1:j<a.length) (h2:j<b.length),f a[j] b[j]=true)→eqL f a b=true
 | [],[],_,_=>rfl
 |x::a,y::b,hl,h=>by
  simp only[eqL,Bool.and_eq_true];exact⟨h 0 aec aec,yh ad5 fun j h1 h2=>h (j+1) ad5 ad5⟩
theorem HE{α:Type}{f:α→α→Bool}:∀ {a b:List α},a.length≠b.length→eqL f a b=false
 | [],[],h=>ad4
 | [],_::_,_=>rfl
 |_::_,[],_=>rfl
 |x::a,y::b,h=>by
  simp only[eqL];rw[HE ad5,Bool.and_false]
theorem LZ{α:Type}{f:α→α→Bool}:∀ {a b:List α} (j:Nat) (h1:j<a.length) (h2:j<b.length),f a[j] b[j]=false→eqL f a b=false
 |x::a,y::b,0,_,_,h=>by grind [eqL]
 |x::a,y::b,j+1,h1,h2,h=>by
  simp only[eqL];rw[LZ j ad5 ad5 ad5,Bool.and_false]
end Go.Bf
namespace Go.Proofs.YtbbadggejjgihaaGreatDoor
open Go Go.Ab Go.Bf
theorem GH(a b:List cy)(h:Heap):ai Tryz.prog 42 [ay a,ay b] h fun r h' =>r= .b (eqL tF a b)∧h' =h:=by
 refine ad3 Tryz.func42 26 [.tmp 4] fun hwf=>?_
 cases d1:((a.length:Int) !=(b.length:Int))
 case true=>
  have e1:a.length≠b.length:=by
   grind
  simp only[go_sem,ay,adU,d1];exact .same (.refl _) ⟨by rw[HE e1];rfl,rfl⟩
 have e1:a.length=b.length:=ad5;simp only[go_sem,ay,adU,d1];refine .intro (fun m ρ h' =>Ab.Sub h h'∧∃i:Nat,i≤a.length∧m=a.length - i∧(∀j (h1:j<a.length) (h2:j<b.length),j<i→tF a[j] b[j]=true)∧lk ρ 0=some (.sl (a.map aY) .no)∧lk ρ 1=some (.sl (b.map aY) .no)∧lk ρ 5=some (.i i)) a.length ?_ ?_
 ·refine⟨.refl _,0,ad4,rfl,fun j _ _ hj=>ad4,?_,?_,?_⟩<;>simp only[go_sem]
 ·rintro m ρ h' ⟨hs,i,hi,rfl,hc,r0,r1,r5⟩
  simp only[go_sem,r0,r5,adU];refine .intro (fun e=>?_) (fun e=>?_)
  ·have hlt:i<a.length:=ad1 e
   have hlt2:i<b.length:=ad4;have w1:IntKind.i64.wrap ((i:Int)+1)=((i+1:Nat):Int):=by
    have:=hwf (ay a) aec;simp only[ay,wfA,wf1,lim,adU]at this;rw[aU _ ad4];omega
   simp only[go_sem,r0,r5];refine⟨.of ad7,?_⟩;refine .at i ad5 aef ?_;simp only[go_sem,r1,r5,adV,aY];refine .at i ad5 aef ?_;simp only[go_sem,adV,aY];cases d3:tF a[i] b[i]
   ·have d4:=d3
    simp only[tF]at d4;simp only[go_sem,d4];exact .mk _ (.refl _) hs ⟨by rw[LZ i hlt hlt2 d3];rfl,rfl⟩
   ·have d4:=d3
    simp only[tF]at d4;simp only[go_sem,r5,d4,w1];refine⟨_,?_,hs,i+1,ad4,rfl,fun j h1 h2 hj=>?_,?_,?_,?_⟩
    ·omega
    ·grind
    all_goals simp only[go_sem,r0,r1]
  ·have hge:i=a.length:=by grind
   subst hge;simp only[go_sem];exact .mk _ (.refl _) hs ⟨by rw[yh e1 fun j h1 h2=>hc j h1 h2 h1];rfl,rfl⟩
end Go.Proofs.YtbbadggejjgihaaGreatDoor
namespace Go.Bf
open Go Go.Ab
theorem any_succ{α:Type}{q:α→Bool}{l:List α}{i:Nat}(h:i<l.length):(l.take (i+1)).any q=((l.take i).any q||q l[i]):=by
 grind [List.take_succ_eq_append_getElem]
end Go.Bf
namespace Go.Proofs.YtbbadggejjgihaaGreatDoor
open Go
def zk:List Value:=Lib.pow10Tab.map fun z=>Value.int .u64 z
end Go.Proofs.YtbbadggejjgihaaGreatDoor
namespace Go.Bf
def XX:Txt:=[97,110,110]
end Go.Bf
namespace Go.Proofs.YtbbadggejjgihaaGreatDoor
open Go Go.Ab Go.Bf
def S9(ev:Value):Heap:=xo [(3,zk),(2,[ev])]
theorem KD{ev:Value}(hev:ev= .nilIface∨∃te pe,ev= .iface te pe):iO (S9 ev):=⟨ev,hev,1,rfl⟩
end Go.Proofs.YtbbadggejjgihaaGreatDoor
namespace Go.Bf
open Go Go.Ab
def iW(cat:Int)(name:Txt)(g:bt):Bool:=g.cat==cat && g.name==name
def getD(l:List bt)(cat:Int)(name:Txt):List bu:=match l.find? (iW cat name)with
 |some g=>g.bag
 |none=>[]
end Go.Bf
namespace Go.Proofs.YtbbadggejjgihaaGreatDoor
open Go Go.Ab Go.Bf
theorem Mh{α:Type}(y:AV)(xs:List AV)(ds:List α)(q:α→Bool)(g:FuncId)(cap:List AV)(h:Heap)(hb:Rd h 3 y xs)(hn:xs.length=ds.length)(hl:xs.length≤1000000000)(hx:∀x∈xs,bA x=true)
  (hp:∀i (h1:i<xs.length) (h2:i<ds.length),ai Tryz.prog g (xs[i]::cap) h fun r h' =>r= .b (q ds[i])∧h' =h):
  ai Tryz.prog 303 [y,.fn g cap] h fun r h' =>r= .i (ixD q ds)∧h' =h:=by
 refine ad3 Tryz.func303 19 [.tmp 4] fun hwf=>?_
 simp only[go_sem,hb.len];refine .intro (fun m ρ h' =>h' =h∧∃i:Nat,i≤xs.length∧m=xs.length - i∧(∀j (hj:j<i) (h2:j<ds.length),q ds[j]=false)∧lk ρ 0=some y∧lk ρ 1=some (.fn g cap)∧lk ρ 7=some (.i xs.length)∧lk ρ 8=some (.i i)) xs.length ?_ ?_
 ·refine⟨rfl,0,ad4,rfl,fun j hj=>ad4,?_,?_,?_,?_⟩<;>simp only[go_sem]
 ·rintro m ρ h' ⟨rfl,i,hi,rfl,hc,r0,r1,r7,r8⟩
  simp only[go_sem,r7,r8];refine .intro (fun e=>?_) (fun e=>?_)
  ·have hlt:i<xs.length:=ad1 e
   have hlt2:i<ds.length:=ad4;have w1:IntKind.i64.wrap ((i:Int)+1)=((i+1:Nat):Int):=aej;simp only[go_sem,r0,r1,r8];refine hb.idx (e:=199) i rfl hlt aek ad9 fun p hp1=>?_
   have hld:=hp1.all (U:=U) (ty:=199) ad9 ae2 afV;simp only[go_sem,hld];refine(show ai Tryz.prog g (xs[i]::cap) _ _ from hp i hlt hlt2).pthen ?_
   cases d1:q ds[i]
   ·simp only[go_sem,r8,w1]
    refine⟨_,?_,rfl,i+1,ad4,rfl,fun j hj h2=>?_,?_,?_,?_,?_⟩
    ·omega
    ·grind
    all_goals simp only[go_sem,r0,r1,r7]
   ·simp only[go_sem]
    exact .same (.refl _) ⟨aeR,rfl⟩
  ·have hge:i=xs.length:=by grind
   simp only[go_sem];exact .same (.refl _) ⟨aeA,rfl⟩
theorem Kg{h:Heap}(g:bt){k1 k2:Nat}{cat:Int}{name:Txt}(h1:h k1=some (.obj [.i cat] 3))(h2:h k2=some (.obj [.s name] 9)):ai Tryz.prog 304 [lF g,.ptr k1 0,.ptr k2 0] h fun r h' =>r= .b (iW cat name g)∧h' =h:=by
 refine ad3 Tryz.func304 15 [.tmp 4] fun hwf=>?_
 simp only[go_sem,lF];intro i1 hi1;have n1:k1≠i1:=fun e=>ad5
 have n2:k2≠i1:=fun e=>ad5
 simp only[go_sem,ak,n1,h1];cases d1:(g.cat==cat)
 ·simp only[go_sem]
  exact .mk _ (.refl _) (.aj hi1) ⟨by simp only[iW,d1];rfl,rfl⟩
 ·simp only[go_sem,ak,n2,h2]
  exact .mk _ (.refl _) (.aj hi1) ⟨by simp only[iW,d1];rfl,rfl⟩
theorem M7(gs:List bt)(cat:Int)(name:Txt)(hl:gs.length≤1000000000)(h:Heap):ai Tryz.prog 281 [bL gs,.i cat,.s name] h fun r h' =>r= .i (ixD (iW cat name) gs)∧h' =h:=by
 refine ad3 Tryz.func281 10 [.tmp 6] fun hwf=>?_
 simp only[go_sem,bL];intro i1 h1;simp only[go_sem];intro i2 h2;have n2:=aC h2;have hs:∀a b,Ab.Sub h (upd (upd h i1 a) i2 b):=fun a b=>((Sub.refl h).put h1 a).put n2 b
 simp only[go_sem];refine(Mh _ _ gs (iW cat name) _ [.ptr i1 0,.ptr i2 0] _ (eC lF 3 (fun _=>rfl) _ gs) aec ad5 (oX (fun _=>rfl) _) fun i a b=>by
  rw[adV];exact Kg _ (by grind [ag,ah]) (ah ..)).pthen ?_
 simp only[go_sem];exact afI
theorem get_at{gs:List bt}{cat:Int}{name:Txt}(h:gs.findIdx (iW cat name)<gs.length):getD gs cat name=gs[gs.findIdx (iW cat name)].bag:=by
 unfold getD;rw[show gs.find? (iW cat name)=some gs[gs.findIdx (iW cat name)]from List.find?_eq_some_iff_getElem.2 ⟨List.findIdx_getElem (w:=h),_,h,rfl,fun j hj=>ad5⟩]
theorem So{gs:List bt}{cat:Int}{name:Txt}(h:¬gs.findIdx (iW cat name)<gs.length):getD gs cat name= []:=by
 grind [getD,iW,List.findIdx_le_length,List.find?_eq_none,List.findIdx_eq_length]
end Go.Proofs.YtbbadggejjgihaaGreatDoor
namespace Go.Bf
open Go Go.Ab
def cT:Txt:=[99]
def stC(st:Txt)(log:List wY):aM:=⟨cT,XX,st,[],log⟩
def pS:List Txt:=[jJ,wW,AL,ie]
abbrev lt(a b:Txt):Prop:=Op.bytesLess a b=true
theorem lt_irrefl:∀a:Txt,¬lt a a
 | []=>ad9
 |a::x=>by
  have:=lt_irrefl x;simp only[lt,Op.bytesLess,Bool.or_eq_true,Bool.and_eq_true,decide_eq_true_eq,beq_self_eq_true,true_and,not_or];exact⟨UInt8.lt_irrefl a,this⟩
theorem lt_trans:∀ {a b c:Txt},lt a b→lt b c→lt a c
 |_,[],_,h,_=>by simp_all [Txt,lt,Op.bytesLess]
 | [],b::y,c,_,h=>by cases c<;>simp[lt,Op.bytesLess]at h⊢
 |a::x,b::y,[],_,h=>by simp[lt,Op.bytesLess]at h
 |a::x,b::y,c::z,h1,h2=>by
  simp only[lt,Op.bytesLess,Bool.or_eq_true,Bool.and_eq_true,decide_eq_true_eq,beq_iff_eq]at h1 h2⊢;rcases h1 with h1|⟨rfl,h1⟩
  ·grind
  ·rcases h2 with h2|⟨rfl,h2⟩
   ·grind
   ·exact .inr ⟨rfl,lt_trans h1 h2⟩
theorem A5:∀a b:Txt,lt a b∨a=b∨lt b a
 | [],[]=>aec
 | [],b::y=> .inl rfl
 |a::x,[]=> .inr (.inr rfl)
 |a::x,b::y=>by
  simp only[lt,Op.bytesLess,Bool.or_eq_true,Bool.and_eq_true,decide_eq_true_eq,beq_iff_eq];rcases UInt8.lt_or_lt_of_ne (a:=a) (b:=b)with h
  by_cases e:a=b
  ·subst e
   rcases A5 x y with h|rfl|h
   ·grind
   ·simp
   grind
  grind
def Asc(cs:List aM):Prop:=cs.Pairwise fun a b=>lt a.id b.id
theorem HH{c:aM}{cs:List aM}{id:Txt}(h:¬lt c.id id):findD (c::cs) id=0:=by
 simp_all [Op.bytesLess,false,findD,List.findIdx_cons,geB]
theorem HI{c:aM}{cs:List aM}{id:Txt}(h:lt c.id id):findD (c::cs) id=findD cs id+1:=by
 simp_all [Op.bytesLess,true,findD,List.findIdx_cons,geB]
theorem vD:∀ {cs:List aM},Asc cs→∀id,cc cs id=cs.any fun c=>c.id==id
 | [],_,id=>rfl
 |c::cs,h,id=>by
  obtain⟨h1,h2⟩:=List.pairwise_cons.1 h
  by_cases hl:lt c.id id
  ·have hne:(c.id==id)=false:=by
    grind [beq_eq_false_iff_ne,lt_irrefl]
   have e:cc (c::cs) id=cc cs id:=by
    grind [cc,HI]
   rw[e,vD h2 id,List.any_cons,hne,Bool.false_or]
  ·have e:cc (c::cs) id=(c.id==id):=by
    grind [cc,HH]
   rw[e,List.any_cons];cases hc:(c.id==id)
   ·have hlt:lt id c.id:=by
     rcases A5 c.id id with h|h|h
     ·grind
     ·grind
     omega
    grind
   ·simp
theorem Hu:∀ {cs:List aM},Asc cs→∀c:aM,(cs.any fun d=>d.id==c.id)=false→Asc (cs.take (findD cs c.id)++ [c]++cs.drop (findD cs c.id))
 | [],_,c,_=>by simp[Asc,findD]
 |d::cs,h,c,hn=>by
  obtain⟨h1,h2⟩:=List.pairwise_cons.1 h;simp only[List.any_cons,Bool.or_eq_false_iff]at hn
  by_cases hl:lt d.id c.id
  ·rw[HI hl]
   simp only[List.take_succ_cons,List.drop_succ_cons,List.cons_append];refine List.pairwise_cons.2 ⟨fun e he=>?_,Hu h2 c hn.2⟩
   grind
  ·rw[HH hl]
   have hlt:lt c.id d.id:=by
    rcases A5 d.id c.id with h|h|h
    ·grind
    ·grind
    omega
   refine List.pairwise_cons.2 ⟨fun e he=>?_,h⟩
   rcases List.mem_cons.1 he with rfl|he
   ·omega
   grind [lt_trans]
def E7(fs:List cN):Prop:=fs.Pairwise fun a b=>lt a.name b.name
theorem BK(name:Txt)(v:bu):eD [] name v= [⟨name,v⟩]:=rfl
theorem zS{f:cN}{fs:List cN}{name:Txt}{v:bu}(h:lt f.name name):eD (f::fs) name v=f::eD fs name v:=by
 have hb:Op.bytesLess f.name name=true:=h;unfold eD;simp only[List.findIdx_cons,geB,hb,Bool.not_true,cond_false,List.getElem?_cons_succ];generalize hi:fs.findIdx (fun f=> !Op.bytesLess f.name name)=i
 cases e:fs[i]? with
 |none=>simp
 |some g=>
  by_cases hg:g.name=name
  ·simp[hg]
  ·simp[hg]
theorem zQ{f:cN}{fs:List cN}{name:Txt}{v:bu}(h:f.name=name):eD (f::fs) name v=⟨f.name,v⟩::fs:=by
 subst h;have hb:Op.bytesLess f.name f.name=false:=by
  grind [Op.bytesLess,lt_irrefl]
 unfold eD;simp[List.findIdx_cons,geB,hb]
theorem zR{f:cN}{fs:List cN}{name:Txt}{v:bu}(h:lt name f.name):eD (f::fs) name v=⟨name,v⟩::f::fs:=by
 have hb:Op.bytesLess f.name name=false:=by
  grind [Op.bytesLess,lt_irrefl,lt_trans]
 have hne:f.name≠name:=fun e=>by rw[e]at h;exact lt_irrefl _ h
 unfold eD;simp[List.findIdx_cons,geB,hb,hne]
theorem vH:∀ {fs:List cN} {name:Txt} {v:bu} {g:cN},g∈eD fs name v→g=⟨name,v⟩∨g∈fs
 | [],name,v,g,h=>by grind [BK,List.mem_singleton]
 |f::fs,name,v,g,h=>by
  rcases A5 f.name name with hl|hl|hl
  ·rw[zS hl]at h
   rcases List.mem_cons.1 h with rfl|h
   ·simp
   ·rcases vH h with h|h
    ·grind
    grind
  ·rw[zQ hl]at h
   grind
  ·rw[zR hl]at h
   grind
theorem BI:∀ {fs:List cN} {name:Txt} {v:bu},E7 fs→E7 (eD fs name v)
 | [],name,v,_=>by grind [BK,E7]
 |f::fs,name,v,h=>by
  obtain⟨h1,h2⟩:=List.pairwise_cons.1 h;rcases A5 f.name name with hl|hl|hl
  ·rw[zS hl]
   refine List.pairwise_cons.2 ⟨fun g hg=>?_,BI h2⟩
   rcases vH hg with rfl|hg
   ·omega
   grind
  ·rw[zQ hl]
   exact List.pairwise_cons.2 ⟨h1,h2⟩
  ·rw[zR hl]
   refine List.pairwise_cons.2 ⟨fun g hg=>?_,h⟩
   rcases List.mem_cons.1 hg with rfl|hg
   ·omega
   grind [lt_trans]
theorem BJ:∀ {fs:List cN} {name:Txt} {v:bu},E7 fs→(eD fs name v).length=if fs.any (fun f=>f.name==name)then fs.length else fs.length+1
 | [],name,v,_=>rfl
 |f::fs,name,v,h=>by
  obtain⟨h1,h2⟩:=List.pairwise_cons.1 h;rcases A5 f.name name with hl|hl|hl
  ·have hne:(f.name==name)=false:=by grind [beq_eq_false_iff_ne,lt_irrefl]
   rw[zS hl,List.length_cons,BJ h2,List.any_cons,hne,Bool.false_or];split<;>simp
  ·grind [zQ]
  ·have hne:(f.name==name)=false:=by grind [beq_eq_false_iff_ne,lt_irrefl]
   have hno:(fs.any fun f=>f.name==name)=false:=List.any_eq_false.2 fun g hg he=>by
    have:=lt_trans hl (h1 g hg);rw[beq_iff_eq.1 he]at this;exact lt_irrefl _ this
   rw[zR hl,List.any_cons,hne,hno];simp
theorem FK(f:cN)(fs:List cN)(n:Txt):dQ (f::fs) n=if f.name=n then f.val else dQ fs n:=by
 grind [dQ]
def mkC(who id:Txt):aM:=⟨id,who,jJ,[],[⟨0,who,[110,101,119]⟩]⟩
def Yr(cs:List aM)(id:Txt):Bool:=cs.any fun c=>c.id==id
end Go.Bf
namespace Go.Ab
open Go
section
variable {α : Type}
def dget(l:List (List UInt8×α))(k:List UInt8):Option α:=(l.find? fun p=>p.1==k).map (·.2)
def dset(l:List (List UInt8×α))(k:List UInt8)(v:α):List (List UInt8×α):=if(dget l k).isSome then l.map (fun p=>if p.1==k then(p.1,v)else p)else l++ [(k,v)]
end
end Go.Ab
namespace Go.Bf
open Go Go.Ab Go.Proofs.YtbbadggejjgihaaGreatDoor
structure Own (cs:List aM) (own:List (Txt×Txt)):Prop where
 asc:Asc cs
 len:cs.length=own.length
 small:cs.length≤64
 mem:∀c∈cs,c=mkC c.owner c.id∧dget own c.id=some c.owner
 has:∀id,Yr cs id=(dget own id).isSome
 who:∀id w,dget own id=some w→w≠ []
 keys:∀p∈own,p.1.length≤3
theorem qB:∀ {cs:List aM},Asc cs→∀ {id:Txt},cc cs id=true→bw cs id∈cs∧(bw cs id).id=id:=by
 unfold bw
 grind [cc,List.getElem?_eq_getElem]
end Go.Bf
namespace Go.Proofs.YtbbadggejjgihaaGreatDoor
open Go Go.Ab Go.Bf
def ou(o:OpD):Prop:=i64 o.kind∧i64 o.val.kind∧i64 o.val.n∧i64 o.review
theorem inH{P:Program}{f:FuncId}{args:List AV}{h:Heap}{Q:AV→Heap→Prop}(hh:∀H2,H2=h→ai P f args H2 Q):ai P f args h Q:=hh h rfl
end Go.Proofs.YtbbadggejjgihaaGreatDoor
namespace Go.Bf
open Go Go.Ab Go.Proofs.YtbbadggejjgihaaGreatDoor
def Ys(v:Int):bu:=⟨2,v,[]⟩
structure Last (fs:List cN) (last:List (Txt×Int)):Prop where
 asc:E7 fs
 len:fs.length=last.length
 small:fs.length≤16
 kind:∀f∈fs,f.val.kind=2
 get:∀n,dQ fs n=((dget last n).map Ys).getD aq
 keys:∀p∈last,p.1.length=2
end Go.Bf
namespace Go.Bf
open Go Go.Ab
def Fine(n:Nat)(st:PS):Prop:=(st.bad=0∨st.bad=5∨st.bad=6)∧0≤st.place∧st.place≤n
def BL(n:Nat)(ts:List qi):Prop:=∀i,0≤(ts.getD i ⟨7,0,0,[]⟩).pos∧(ts.getD i ⟨7,0,0,[]⟩).pos≤n
theorem yq{n:Nat}{st:PS}{e p:Int}(h:Fine n st)(he:e=5∨e=6)(h0:0≤p)(h1:p≤n):Fine n (bI st e p):=by
 unfold bI;split
 ·exact⟨.inr he,h0,h1⟩
 omega
theorem Dq{n:Nat}{a b:PS}(h:Rch a b)(ht:BL n a.ts)(hf:Fine n a):Fine n b:=by
 induction h with
 |refl=>omega
 |wrong e p h1 he hp ih=>
  obtain⟨i,_,rfl⟩:=hp;rw[(rN h1).1];exact yq ih he (ht i).1 (ht i).2
 |next _ _ _ ih=>exact ih
theorem Iv{a b:PS}(h:nU a b):b.ts=a.ts:=by
 induction h with
 |refl=>rfl
 |small _ h1 ih=>grind [rN,trans]
 |rule _ _ _ _ ih=>exact ih
theorem Jp{n:Nat}{a b:PS}(h:nU a b)(ht:BL n a.ts)(hf:Fine n a):Fine n b:=by
 induction h with
 |refl=>omega
 |small h1 h2 ih=>grind [Dq,Iv]
 |rule _ _ _ _ ih=>exact ih
theorem yC{s:Txt}{ts:List qi}(h:pF s= .ok ts):BL s.length ts:=by
 obtain⟨pre,rfl,_,h3,_⟩:=A3 h;intro i
 grind
theorem L5{s:Txt}{ts:List qi}(h:pF s= .ok ts):Fine s.length (qk s (gN 4 ⟨ts,0,0,0,0⟩)):=by
 have h0:Fine s.length ⟨ts,0,0,0,0⟩:=⟨.inl rfl,Int.le_refl _,aec⟩;have hr:=Cv 4 ⟨ts,0,0,0,0⟩;have h1:=Jp hr (yC h) h0;have ht:BL s.length (gN 4 ⟨ts,0,0,0,0⟩).2.ts:=by rw[Iv hr];exact yC h
 have h2:Fine s.length (if(aL (gN 4 ⟨ts,0,0,0,0⟩).2).kind=7 then(gN 4 ⟨ts,0,0,0,0⟩).2 else br (gN 4 ⟨ts,0,0,0,0⟩).2):=by
  grind [Dq,kV]
 unfold qk;generalize (if(aL (gN 4 ⟨ts,0,0,0,0⟩).2).kind=7 then(gN 4 ⟨ts,0,0,0,0⟩).2 else br (gN 4 ⟨ts,0,0,0,0⟩).2)=st1 at h2⊢
 split
 ·exact yq h2 (.inl rfl) ad4 (Int.le_refl _)
 ·exact aif
theorem qX(s:Txt):(aR s).2.1=0∧(aR s).2.2=0∧gI (aR s).1=0∨
  ((aR s).2.1=5∨(aR s).2.1=6)∧0≤(aR s).2.2∧(aR s).2.2≤s.length∧(aR s).1=oT:=by
 unfold aR;cases h:pF s with
 |bad e a=>
  have:=tT h;exact .inr ⟨this.1,this.2.1,this.2.2,rfl⟩
 |ok ts=>
  have hf:=L5 h;simp only[zc];split
  ·rename_i hb
   refine .inl ⟨rfl,rfl,?_⟩;simp only;unfold qk at hb;generalize (if(aL (gN 4 ⟨ts,0,0,0,0⟩).2).kind=7 then(gN 4 ⟨ts,0,0,0,0⟩).2 else br (gN 4 ⟨ts,0,0,0,0⟩).2)=st1 at hb
   split at hb
   ·simp_all [bI,if_pos,absurd,Int]
   omega
  ·rename_i hb
   exact .inr ⟨hf.1.resolve_left hb,hf.2.1,hf.2.2,rfl⟩
end Go.Bf
namespace Go.Bf
open Go Go.Ab Go.Proofs.YtbbadggejjgihaaGreatDoor
theorem rm{p:bD}(h:gI p=0):mA 1 p:=by
 cases hw:kU ⟨[],0⟩ 1 p with
 |bad e=>
  have:=uh 4 1 _ _ e rfl hw;rw[gI,hw]at h;exact(this h).elim
 |ok m=>grind [Ip]
theorem RM{fs:List cN}(h:∀f∈fs,eqV f.val aq=false)(n:Txt):(fs.any fun f=>f.name==n)= !(eqV (dQ fs n) aq):=by
 induction fs with
 |nil=>rfl
 |cons f fs ih=>
  rw[FK,List.any_cons]
  grind
structure uF (c:aM):Prop where
 id:bp c.id=true
 owner:bp c.owner=true
 state:c.state∈pS
 asc:E7 c.fields
 nfields:c.fields.length≤16
 field:∀f∈c.fields,bp f.name=true∧bz f.val=true∧eqV f.val aq=false
 log1:1≤c.log.length
 log2:c.log.length≤256
 actor:∀x∈c.log,bp x.actor=true∧i64 x.tick
structure dI (k:Nat) (s:an):Prop where
 tick:0≤s.tick∧s.tick≤1099511627776
 asc:Asc s.cases
 ncases:s.cases.length≤64
 case:∀c∈s.cases,uF c
 nrev:s.reviews.length≤1000
 nnot:s.notices.length≤1000
 roles:s.roles.length≤64
 role:∀r∈s.roles,bp r.subj=true∧bp r.role=true
 pol:gI s.policy=0
 ver:0≤s.version∧s.version≤k
theorem dI.few{k:Nat}{s:an}(h:dI k s):Few s:=by
 have h1:=h.ncases;have h2:=h.nrev;have h3:=h.nnot;have h4:=h.roles;refine⟨ad4,fun c hc=>?_,fun c hc=>?_,ad4,ad4,ad4⟩
 ·have:=(h.case c hc).nfields;omega
 ·have:=(h.case c hc).log2;omega
theorem dI.mA{k:Nat}{s:an}(h:dI k s):mA 1 s.policy:=rm h.pol
theorem dI.GX{k:Nat}{s:an}(h:dI k s):i64 s.tick:=by
 have:=h.tick;constructor<;>omega
theorem KF:dI 0 xh:=by
 refine⟨ad9,.nil,ad9,fun c h=>ae0,ad9,ad9,ad9,fun r h=>ae0,aek,ad9⟩
theorem kQ{s:Txt}(h:jb s=true)(hn:s≠ []):bp s=true:=by
 simp_all [jb,Bool.or_eq_true,beq_iff_eq]
structure Rp (o:OpD):Prop where
 subj:bp o.subj=true
 kind:1≤o.kind∧o.kind≤8
 case:jb o.case=true
 field:jb o.field=true
 to:jb o.to=true
 val:eqV o.val aq=true∨bz o.val=true
 text:o.text.length≤4096
 ok:okD o=true
theorem tK{o:OpD}(h:dD o=true):Rp o:=by
 simp only[dD,Bool.and_eq_true,decide_eq_true_eq,Bool.or_eq_true,dR]at h;obtain⟨⟨⟨⟨⟨⟨⟨h1,h2⟩,h3⟩,h4⟩,h5⟩,h6⟩,h7⟩,⟨⟨h8,h9⟩,h10⟩,h11⟩:=h;exact⟨h1,⟨h8,h9⟩,h4,h5,h6,h7,h3,h10⟩
theorem yt{a b:Txt}(h:mR a b=true):b∈pS:=by
 unfold mR at h;simp only[pS,List.mem_cons,List.not_mem_nil,or_false]
 grind
theorem mem_modify{α:Type}{l:List α}{i:Nat}{f:α→α}{x:α}(h:x∈l.modify i f):x∈l∨∃hi:i<l.length,x=f l[i]:=by
 obtain⟨j,hj,rfl⟩:=List.mem_iff_getElem.1 h
 grind
theorem kS{α β:Type}{l:List α}{i:Nat}{f:α→α}{g:α→β}(h:∀x,g (f x)=g x):(l.modify i f).map g=l.map g:=by
 refine List.ext_getElem aec fun j h1 h2=>?_
 grind
theorem BX{cs cs' :List aM}(h:cs'.map (·.id)=cs.map (·.id))(ha:Asc cs):Asc cs' :=by
 unfold Asc at*;have h1:(cs.map (·.id)).Pairwise lt:=ad5
 rw[←h,List.pairwise_map]at h1;exact h1
theorem Pn{cs:List aM}{i:Nat}{c d:aM}(h:d∈cs.take i++ [c]++cs.drop i):d=c∨d∈cs:=by
 grind
theorem NG{k:Nat}{s:an}{o:OpD}(hs:dI k s)(hr:bJ s o=0):dI (k+1) (doD aR s o):=by
 have hf:dD o=true:=by
  unfold bJ at hr
  grind
 have F:=tK hf;have vk:0≤s.version∧s.version≤((k+1:Nat):Int):=⟨hs.ver.1,by have:=hs.ver.2;omega⟩
 unfold bJ at hr;rw[hf]at hr;simp only[Bool.true_eq_false,if_false]at hr;have hok:=F.ok;unfold okD at hok;have t64:=hs.GX;unfold doD
 by_cases k1:o.kind=1
 ·simp only[k1,if_true]at hr hok⊢
  have hno:cc s.cases o.case=false:=by
   grind
  rw[hno]at hr;simp only[Bool.false_eq_true,if_false]at hr;have hlt:¬64≤s.cases.length:=fun h=>ah1
  have hc:bp o.case=true:=kQ F.case ad5;rw[vD hs.asc]at hno;refine {hs with asc:= ?_,ncases:= ?_,case:= ?_,ver:=vk}
  ·exact Hu hs.asc (jy s ⟨o.case,o.subj,jJ,[],[]⟩ o.subj [110,101,119]) hno
  ·grind
  ·intro c h
   rcases Pn h with rfl|h
   ·exact⟨hc,F.subj,by simp[jy,pS],.nil,aii,fun f h=>ae0,aii,aii,fun x h=>by
     simp only[jy,List.nil_append,List.mem_singleton]at h;subst h;exact⟨F.subj,t64⟩⟩
   ·exact hs.case c h
 ·simp only[k1,if_false]at hr hok⊢
  by_cases k3:o.kind=3
  ·have hk:2≤o.kind∧o.kind≤4:=by omega
   simp only[hk,and_self,if_true]at hr;simp only[k3,if_true];have e2:¬(o.kind=2∨o.kind=6):=ad4;simp only[k3,if_true,show¬((3:Int)=2∨(3:Int)=6) by decide,if_false,Bool.and_eq_true,Bool.not_eq_true']at hok
   have hth:cc s.cases o.case=true:=by
    unfold bW at hr
    grind
   unfold bW at hr;rw[hth]at hr;simp only[Bool.true_eq_false,if_false,k3,true_and]at hr;obtain⟨hm,hid⟩:=qB hs.asc hth;have hlt:=jK hth;have hce:bw s.cases o.case=s.cases[findD s.cases o.case]:=by
    simp_all [bw,if_pos]
   rw[hce]at hr hm;generalize hcc:s.cases[findD s.cases o.case]=c at hr hm;have hc:=hs.case c hm;have h16:¬(c.fields.length≥16∧eqV (dQ c.fields o.field) aq=true):=fun h=>by simp[h.1,h.2]at hr
   rw[if_neg h16]at hr;have hlg:¬c.log.length≥256:=fun h=>ah1
   have hnf:bp o.field=true:=kQ F.field ad5;have hvz:eqV o.val aq=false:=hok.2;have hv:bz o.val=true:=F.val.resolve_left ad5;refine {hs with asc:= ?_,ncases:= ?_,case:= ?_,ver:=vk}
   ·exact BX (kS fun x=>rfl) hs.asc
   ·simpa using hs.ncases
   ·intro d hd
    rcases mem_modify hd with hd|⟨hi,rfl⟩
    ·exact hs.case d hd
    ·rw[hcc]
     have hany:=RM (fun f hf=>(hc.field f hf).2.2) o.field
     have hlen:=BJ (v:=o.val) (name:=o.field) hc.asc;refine⟨hc.id,hc.owner,hc.state,BI hc.asc,?_,?_,aii,?_,?_⟩
     ·simp only[jy]
      rw[hlen,hany];have:=hc.nfields;cases he:eqV (dQ c.fields o.field) aq
      ·simp;omega
      ·rw[he]at h16;simp at h16⊢;omega
     ·intro f hf
      rcases vH hf with rfl|hf
      ·grind
      ·exact hc.field f hf
     ·grind [jy,adY,List.length_singleton]
     ·intro x hx
      exact ajr
  ·simp only[k3,if_false]at hok⊢
   by_cases k4:o.kind=4
   ·have hk:2≤o.kind∧o.kind≤4:=by omega
    simp only[hk,and_self,if_true]at hr;simp only[k4,if_true];have hth:cc s.cases o.case=true:=by
     unfold bW at hr
     grind
    unfold bW at hr;rw[hth]at hr;simp only[Bool.true_eq_false,if_false,k4]at hr;obtain⟨hm,hid⟩:=qB hs.asc hth;have hlt:=jK hth;have hce:bw s.cases o.case=s.cases[findD s.cases o.case]:=by
     simp_all [bw,if_pos]
    rw[hce]at hr hm;generalize hcc:s.cases[findD s.cases o.case]=c at hr hm;have hc:=hs.case c hm;simp only[show¬((4:Int)=3) by decide,false_and,if_false,show((4:Int)≠2) by decide,ne_eq,not_false_eq_true,true_and,false_or]at hr
    have hlg:¬c.log.length≥256:=fun h=>ah1
    rw[if_neg hlg]at hr;have hfo:mR c.state o.to=true:=by
     grind
    refine {hs with asc:= ?_,ncases:= ?_,case:= ?_,ver:=vk}
    ·exact BX (kS fun x=>rfl) hs.asc
    ·simpa using hs.ncases
    ·intro d hd
     rcases mem_modify hd with hd|⟨hi,rfl⟩
     ·exact hs.case d hd
     ·rw[hcc]
      refine⟨hc.id,hc.owner,yt hfo,hc.asc,hc.nfields,hc.field,aii,?_,?_⟩
      ·grind [jy,adY,List.length_singleton]
      ·intro x hx
       exact ajr
   ·simp only[k4,if_false]at hok⊢
    by_cases k5:o.kind=5
    ·simp only[k5,if_true]
     refine {hs with nrev:= ?_,ver:=vk}
     simpa using hs.nrev
    ·simp only[k5,if_false]at hok⊢
     by_cases k6:o.kind=6
     ·have hk:¬(2≤o.kind∧o.kind≤4):=by omega
      simp only[k6,if_true]at hr;simp only[k6,if_true];simp only[k6,or_true,if_true,Bool.and_eq_true]at hok;have hc:bp o.case=true:=kQ F.case ad5;have hfd:bp o.field=true:=kQ F.field ad5;cases hh:yy s.roles ⟨o.case,o.field⟩with
      |true=>simp only[if_true];exact {hs with ver:=vk}
      |false=>
       rw[hh]at hr;have hlt:¬s.roles.length≥64:=fun h=>ah1
       simp only[Bool.false_eq_true,if_false];refine {hs with roles:= ?_,role:= ?_,ver:=vk}
       ·grind
       ·intro r h
        rcases List.mem_append.1 h with h|h
        ·exact hs.role r h
        grind
     ·simp only[k6,if_false]
      by_cases k7:o.kind=7
      ·simp only[k7,if_true]
       by_cases hp:(aR o.text).2.1=0
       ·simp only[hp,if_true]
        have hr0:gI (aR o.text).1=0:=by
         grind [qX,absurd]
        refine {hs with pol:=hr0,ver:= ?_}
        have:=hs.ver;constructor
        ·grind
        grind
       ·simp only[hp,if_false]
        exact {hs with ver:=vk}
      ·simp only[k7,if_false]
       by_cases k8:o.kind=8
       ·simp only[k8,if_true]
        have hk:¬(2≤o.kind∧o.kind≤4):=ad4;simp only[k8,if_true]at hr;have hlt:¬s.tick>1099511627776 - o.review:=fun h=>ah1
        simp only[k8,show¬((8:Int)=2∨(8:Int)=6) by decide,if_false,if_true,Bool.and_eq_true,decide_eq_true_eq]at hok
        refine {hs with tick:= ?_,ver:=vk}
        have:=hs.tick;constructor
        ·grind
        grind
       ·simp only[k8,if_false]
        exact {hs with ver:=vk}
theorem pT{k:Nat}{s:an}(o:OpD)(hs:dI k s):dI (k+1) (dO aR s o):=by
 unfold dO
 by_cases h:bJ s o=0
 ·simp_all [if_pos,NG]
 ·rw[if_neg h]
  exact {hs with ver:=⟨hs.ver.1,by have:=hs.ver.2;omega⟩}
end Go.Bf
