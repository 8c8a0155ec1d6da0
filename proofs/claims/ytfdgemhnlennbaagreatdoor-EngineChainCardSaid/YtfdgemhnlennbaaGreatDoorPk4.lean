/- The law EngineChain: pack 4 of its texts. -/
import Derived.Shelf.Small.Strs
import Derived.Shelf.Small.Wraps
import Derived.Shelf.Strconv.AtoiAll
import Derived.Shelf.Strconv.ErrVarAll
import Derived.Shelf.Strings.Search1
import Derived.Test.YtfdgemhnlennbaaGreatDoorProg
import Derived.KernelRfl
import Derived.WalkKit
import Derived.BigCall
import Derived.Lib.ItoaLen
import Derived.Test.YtfdgemhnlennbaaGreatDoorPk1
import Derived.Test.YtfdgemhnlennbaaGreatDoorPk2
import Derived.Test.YtfdgemhnlennbaaGreatDoorPk3
set_option linter.unusedSimpArgs false
set_option linter.unusedVariables false
set_option maxRecDepth 100000
namespace Go.Proofs.YtfdgemhnlennbaaGreatDoor
open Go Go.Ab Go.Bf
def Byt(g:FuncId)(p:UInt8→Bool):Prop:=∀(c:UInt8) (h:Heap),ai Tryz.prog g [.v (.int .u8 c.toNat)] h fun r h' =>r= .b (p c)∧h' =h
theorem mC:Byt 193 dgt:=fun c h=>by
 refine ab6 Tryz.func193 9 [.tmp 2] fun hwf=>?_
 cases d1:decide (48≤(c.toNat:Int))<;>cases d2:decide ((c.toNat:Int)≤57)
 all_goals
  simp only[go_sem,d1,d2];exact .same (.refl _) ⟨by simp only[dgt,d1,d2];rfl,rfl⟩
theorem IP:Byt 231 wrd:=fun c h=>by
 refine ab6 Tryz.func231 17 [.tmp 2] fun hwf=>?_
 cases d1:decide (97≤(c.toNat:Int))<;>cases d2:decide ((c.toNat:Int)≤122)<;>cases d3:dgt c<;>cases d4:((c.toNat:Int)==95)
 all_goals
  simp only[go_sem,d1,d2]
  first
   |exact .same (.refl _) ⟨by simp only[wrd,ltr,d1,d2,d3,d4];rfl,rfl⟩
   |(refine(mC c _).pthen ?_;simp only[go_sem,d3,d4];exact .same (.refl _) ⟨by simp only[wrd,ltr,d1,d2,d3,d4];rfl,rfl⟩)
theorem Dz:Byt 232 (fun c=> !Fw c):=fun c h=>by
 refine ab6 Tryz.func232 17 [.tmp 2] fun hwf=>?_
 cases d1:decide (32≤(c.toNat:Int))<;>cases d2:decide ((c.toNat:Int)≤126)<;>cases d3:((c.toNat:Int)==34)<;>cases d4:((c.toNat:Int)==92)
 all_goals
  simp only[go_sem,d1,d2,d3,d4,bne];refine .same (.refl _) ⟨?_,rfl⟩;have e1:decide ((c.toNat:Int)<32)= !decide (32≤(c.toNat:Int)):=by
   grind
  have e2:decide (126<(c.toNat:Int))= !decide ((c.toNat:Int)≤126):=by
   grind
  simp only[Fw,e1,e2,d1,d2,d3,d4];rfl
theorem On(p:UInt8→Bool)(s:Txt)(i:Nat)(hi:i<s.length)(h:i≤(s.takeWhile p).length)(hp:p s[i]=true):i+1≤(s.takeWhile p).length:=by
 exact agP
theorem Uu(p:UInt8→Bool)(s:Txt)(i:Nat)(hi:i<s.length)(h:i≤(s.takeWhile p).length)(hp:p s[i]=false):(s.takeWhile p).length=i:=by
 exact agP
theorem L5(g:FuncId)(p:UInt8→Bool)(hg:Byt g p)(s:Txt)(h:Heap):ai Tryz.prog 230 [.s s,.fn g []] h fun r h' =>r= .v (.int .i64 (s.takeWhile p).length)∧h' =h:=by
 refine ab6 Tryz.func230 20 [.tmp 4] fun hwf=>?_
 have hlen:=hwf (.s s) aci;simp only[wfA,wf1,lim]at hlen;simp only[go_sem];refine .intro (fun m ρ h' =>h' =h∧∃i:Nat,i≤s.length∧m=s.length - i∧i≤(s.takeWhile p).length∧lk ρ 0=some (.s s)∧lk ρ 1=some (.fn g [])∧lk ρ 5=some (.i i)) s.length ?_ ?_
 ·refine⟨rfl,0,ab7,rfl,ab7,?_,?_,?_⟩<;>simp only[go_sem]
 ·rintro m ρ h' ⟨rfl,i,hi,rfl,hc,r0,r1,r5⟩
  cases d1:decide ((i:Int)<(s.length:Int))
  ·have hge:i=s.length:=by grind
   have:=jU p s;simp only[go_sem,r0,r5,d1];exact .same (.refl _) ⟨by grind [ax],rfl⟩
  ·have hlt:i<s.length:=by grind
   have w1:IntKind.i64.wrap ((i:Int)+1)=((i+1:Nat):Int):=acn;simp only[go_sem,r0,r1,r5,d1];refine .at i hlt ?_;simp only[go_sem,aK];refine(hg s[i] _).pthen ?_;cases d2:p s[i]
   ·have:=Uu p s i hlt hc d2
    simp only[go_sem,r5];exact .same (.refl _) ⟨by rw[this];rfl,rfl⟩
   ·simp only[go_sem,r5,w1]
    refine⟨_,?_,rfl,i+1,ab7,rfl,On p s i hlt hc d2,?_,?_,?_⟩
    ·omega
    all_goals simp only[go_sem,r0,r1]
theorem ym(s:Txt)(h:Heap):ai Tryz.prog 192 [.s s] h fun r h' =>r= .s (jE s)∧h' =h:=by
 refine ab6 Tryz.func192 12 [.tmp 2] fun hwf=>?_
 simp only[go_sem];refine(L5 _ _ IP s _).pthen ?_;simp only[go_sem];refine⟨ab7,ab7,?_⟩;simp only[go_sem,Option.isSome_none,Option.isSome_some,wA,Int.toNat_natCast,qO];refine⟨by grind [jU,wrd],?_⟩
 refine(oR _ _).pthen ?_;cases d1:bp (s.takeWhile wrd)
 ·exact ahI
 ·exact ahI
theorem wr8{x:Int}(h:0≤x∧x<256):IntKind.u8.wrap x=x:=by
 grind [IntKind.wrap,IntKind.signed,IntKind.bits]
theorem sH(c:UInt8)(h:Heap):ai Tryz.prog 264 [.v (.int .u8 c.toNat)] h fun r h' =>r= .i (jF c)∧h' =h:=by
 refine ab6 Tryz.func264 20 [.tmp 2] fun hwf=>?_
 have hc:=c.toNat_lt;simp only[go_sem];refine(mC c _).pthen ?_;cases d1:dgt c
 case true=>
  have e1:48≤(c.toNat:Int)∧(c.toNat:Int)≤57:=by grind [dgt]
  have w1:IntKind.u8.wrap ((c.toNat:Int) - 48)=(c.toNat:Int) - 48:=wr8 ab7;have w2:IntKind.i64.wrap ((c.toNat:Int) - 48)=(c.toNat:Int) - 48:=bf _ ab7;simp only[go_sem,w1,w2];exact .same (.refl _) ⟨by grind [jF,ax],rfl⟩
 cases d2:decide (97≤(c.toNat:Int))<;>cases d3:decide ((c.toNat:Int)≤102)
 case true.true=>
  have e2:=abZ d2;have e3:=abZ d3;have w1:IntKind.u8.wrap ((c.toNat:Int) - 97)=(c.toNat:Int) - 97:=wr8 ab7;have w2:IntKind.i64.wrap ((c.toNat:Int) - 97)=(c.toNat:Int) - 97:=bf _ ab7;have w3:IntKind.i64.wrap ((c.toNat:Int) - 97+10)=(c.toNat:Int) - 87:=acn;simp only[go_sem,d2,d3,w1,w2,w3];exact .same (.refl _) ⟨by grind [jF,ax],rfl⟩
 all_goals
  simp only[go_sem,d2,d3];simp only[decide_eq_true_eq,decide_eq_false_iff_not]at d2 d3;refine .same (.refl _) ⟨?_,rfl⟩
  grind [Int,jF,ax]
theorem Gy(c:UInt8): -1≤jF c∧jF c≤15:=by
 grind [jF,dgt]
theorem Mn(n:Nat)(h:n<256):((UInt8.ofNat n).toNat:Int)=n:=by
 simp;omega
theorem Q5(s:Txt)(h:Heap):ai Tryz.prog 233 [.s s] h fun r h' =>(∃x:Int,r= .tup [.v (.int .u8 x),.v (.bool (tc s).isSome)]∧∀c,tc s=some c→x=c.toNat)∧h' =h:=by
 refine ab6 Tryz.func233 38 [.tmp 2,.tmp 3] fun hwf=>?_
 have hlen:=hwf (.s s) aci;simp only[wfA,wf1,lim]at hlen;cases d0:decide ((s.length:Int)<3)
 case true=>
  have e0:s.length<3:=ab8;have:tc s=none:=by
   match s,e0 with
   | [],_=>rfl
   | [_],_=>rfl
   | [_,_],_=>rfl
  simp only[go_sem,d0];exact .same (.refl _) ⟨⟨0,by rw[this];rfl,fun c hc=>ab8⟩,rfl⟩
 have e0:3≤s.length:=ab8;obtain⟨b,x,y,t,rfl⟩:∃b x y t,s=b::x::y::t:=by
  match s,e0 with
  |b::x::y::t,_=>exact⟨b,x,y,t,rfl⟩
 simp only[List.length_cons]at d0;have bad:tc (b::x::y::t)=none→∃z:Int,AV.tup [.v (.int .u8 0),.b false]= .tup [.v (.int .u8 z),.v (.bool (tc (b::x::y::t)).isSome)]∧∀c,tc (b::x::y::t)=some c→z=c.toNat:=
  fun e=>⟨0,ab8,fun c hc=>ab8⟩
 cases d1:((b.toNat:Int) !=92)
 case true=>
  have e1:b≠92:=by rintro rfl;grind
  simp only[go_sem,d0];refine .at 0 aci ?_;simp only[go_sem,aK,List.getElem_cons_zero,d1];exact aht
 have e1:b=92:=by
  have:(b.toNat:Int)=92:=ab8;exact UInt8.toNat_inj.1 ab8
 simp only[go_sem,d0];refine .at 0 aci ?_;simp only[go_sem,aK,List.getElem_cons_zero,d1];refine .at 1 aci ?_;simp only[go_sem,aK,List.getElem_cons_zero,List.getElem_cons_succ];refine(sH x _).pthen ?_;cases d2:decide (jF x<0)
 case true=>
  have e2:=abZ d2;simp only[go_sem,d2];exact aht
 have e2:0≤jF x:=ab8;simp only[go_sem,d2];refine .at 2 aci ?_;simp only[go_sem,aK,List.getElem_cons_zero,List.getElem_cons_succ];refine(sH y _).pthen ?_;cases d3:decide (jF y<0)
 case true=>
  have e3:=abZ d3;simp only[go_sem,d3];exact aht
 have e3:0≤jF y:=ab8;have hx:=Gy x;have hy:=Gy y;have w1:IntKind.i64.wrap (16*jF x)=16*jF x:=bf _ ab7;have w2:IntKind.i64.wrap (16*jF x+jF y)=16*jF x+jF y:=bf _ ab7;have w3:IntKind.u8.wrap (16*jF x+jF y)=((UInt8.ofNat (16*jF x+jF y).toNat).toNat:Int):=by
  grind [wr8,Mn]
 simp only[go_sem,d3];refine .quiet ace ?_;simp only[go_sem];refine .at 1 aci ?_;simp only[go_sem,aK,List.getElem_cons_zero,List.getElem_cons_succ];refine⟨_,sH x _,?_⟩;simp only[go_sem];refine .at 2 aci ?_;simp only[go_sem,aK,List.getElem_cons_zero,List.getElem_cons_succ];refine⟨_,sH y _,?_⟩;simp only[go_sem,w1,w2,w3];refine(Dz _ _).pthen ?_;simp only[go_sem];refine .same (.refl _) ⟨⟨((UInt8.ofNat (16*jF x+jF y).toNat).toNat:Int),?_,fun c hc=>?_⟩,rfl⟩
 ·grind [Fw,UInt8.ofNat,jF,tc,ax]
 grind [tc]
theorem u5z:(U 5).sz=1:=acr
theorem u5b:(U 5).bytes=1:=acr
theorem mT(l:List UInt8):Sized 1 (l.map aK):=fun z hz=>by
 obtain⟨c,_,rfl⟩:=List.mem_map.1 hz;rfl
theorem Hw(s:Txt)(hs:s.length≤10000)(h:Heap):ai Tryz.prog 195 [.s s] h fun r h' =>r= .tup [.s (yU s).1,.v (.int .i64 (yU s).2)]∧h' =h:=by
 refine ab6 Tryz.func195 50 [.tmp 2,.tmp 3] fun hwf=>?_
 simp only[go_sem];refine .intro (fun m ρ h' =>∃(i f:Nat) (y:AV) (out:Txt),Acc U 5 h h' y (out.map aK)∧out.length≤i∧m=s.length+1 - i∧i≤s.length+3∧s.length≤f+i∧tL f (s.drop i) i out=yU s∧lk ρ 0=some (.s s)∧lk ρ 4=some y∧lk ρ 5=some (.i i)) s.length ?_ ?_
 ·refine⟨1,s.length,.sl [] .full,[],.full (.refl _),aci,ab7,ab7,ab7,rfl,?_,?_,?_⟩<;>simp only[go_sem]
 ·rintro m ρ h' ⟨i,f,y,out,hy,hoi,rfl,hi,hf,he,r0,r4,r5⟩
  cases d1:decide ((i:Int)<(s.length:Int))
  ·have hge:s.length≤i:=by grind
   have hd:s.drop i= []:=List.drop_of_length_le hge;have:yU s=([],0):=by
    rw[←he,hd];cases f<;>rfl
   simp only[go_sem,r0,r5,d1];exact .mk _ (.refl _) hy.1 ⟨by rw[this];rfl,rfl⟩
  have hlt:i<s.length:=ab8;obtain⟨f,rfl⟩:∃g,f=g+1:=⟨f - 1,ab7⟩;have hdr:s.drop i=s[i]::s.drop (i+1):=List.drop_eq_getElem_cons hlt;rw[hdr]at he;simp only[tL]at he;have w1:IntKind.i64.wrap ((i:Int)+1)=((i+1:Nat):Int):=acn;have w3:IntKind.i64.wrap ((i:Int)+3)=((i+3:Nat):Int):=acn;simp only[go_sem,r0,r5,d1];refine .at i hlt ?_;cases d2:((s[i].toNat:Int)==34)
  case true=>
   have e2:s[i]=34:=by
    have:(s[i].toNat:Int)=34:=ab8;exact UInt8.toNat_inj.1 ab8
   rw[if_pos e2]at he;cases d3:decide (64<(out.length:Int))
   case true=>
    have e3:64<out.length:=ab8;rw[if_pos e3]at he;simp only[go_sem,r4,aK,d2,hy.len,abX,d3];exact aho
   have e3:¬64<out.length:=ab8;rw[if_neg e3]at he;simp only[go_sem,r4,aK,d2,hy.len,abX,d3];obtain⟨q,rfl⟩:=hy.row;simp only[go_sem,r5,w1];exact aho
  have e2:s[i]≠34:=by intro e;simp_all
  rw[if_neg e2]at he;simp only[go_sem,r0,r5,aK,d2];refine .at i hlt ?_;simp only[go_sem,aK];refine(Dz _ _).pthen ?_;cases d4:Fw s[i]
  ·rw[if_pos d4]at he
   simp only[go_sem,r0,r4,r5,d4];refine .at i hlt ?_;simp only[go_sem,aK];refine hy.app (zs:=[aK s[i]]) acd acd (fun k hk=>hk) (by grind [u5z,mT]) (by rw[u5z];exact mT [s[i]]) (by grind [u5b]) fun y' h2 hy' hk2=>?_
   simp only[go_sem,r5,w1];refine⟨_,?_,i+1,f,y',out++ [s[i]],ab8,ab8,rfl,ab7,ab7,he,?_,?_,?_⟩
   ·omega
   all_goals simp only[go_sem,r0]
  ·rw[if_neg ab8]at he
   simp only[go_sem,r0,r5,d4];refine⟨ab7,?_⟩;simp only[go_sem,Option.isSome_none,Option.isSome_some,lR,Int.toNat_natCast];refine⟨ab7,ab7,?_⟩;refine(Q5 _ _).mono fun x h2 hx=>?_
   obtain⟨⟨v,rfl,hv⟩,rfl⟩:=hx;rw[←hdr]at he;cases e5:tc (s.drop i)with
   |none=>
    rw[e5]at he;simp only[go_sem,Option.isSome_none];exact aho
   |some b=>
    rw[e5]at he;have hvb:=hv b e5;subst hvb;have h3:=Dn e5;simp only[List.length_drop]at h3;simp only[go_sem,r4,Option.isSome_some];refine hy.app (zs:=[aK b]) acd acd (fun k hk=>hk) (by grind [u5z,mT]) (by rw[u5z];exact mT [b]) (by grind [u5b]) fun y' h2 hy' hk2=>?_
    simp only[go_sem,r5,w3];refine⟨_,?_,i+3,f,y',out++ [b],ab8,ab8,rfl,ab7,ab7,?_,?_,?_,?_⟩
    ·omega
    ·simp_all
    all_goals simp only[go_sem,r0]
end Go.Proofs.YtfdgemhnlennbaaGreatDoor
namespace Go.Bf
open Go Go.Ab
theorem Gh(c:UInt8):dgt c=true↔48≤c.toNat∧c.toNat≤57:=by
 simp only[dgt,Bool.and_eq_true,decide_eq_true_eq];omega
def HY(acc:Nat)(l:Txt):Nat:=l.foldl (fun n c=>n*10+(c.toNat - 48)) acc
theorem zZ(acc:Nat)(c:UInt8)(r:Txt):HY acc (c::r)=HY (acc*10+(c.toNat - 48)) r:=List.foldl_cons ..
theorem Cz:∀(l:Txt) (acc:Nat),acc≤HY acc l
 | [],acc=>Nat.le_refl _
 |c::r,acc=>by rw[zZ];exact Nat.le_trans ab7 (Cz r (acc*10+(c.toNat - 48)))
theorem tj:∀(l:Txt) (acc:Nat),(∀c∈l,dgt c=true)→acc<18446744073709551616→
  Lib.parseUint10 acc l=if HY acc l<18446744073709551616 then .ok (HY acc l)else .range
 | [],acc,_,ha=>by
  have:HY acc []=acc:=rfl;rw[this,if_pos ha];rfl
 |c::r,acc,hd,ha=>by
  have hc:=(Gh c).1 (hd c aci);have hm:=Cz r (acc*10+(c.toNat - 48));rw[zZ];unfold Lib.parseUint10;rw[if_pos hc];split
  ·rw[if_neg ab7]
  ·split
   ·rw[if_neg ab7]
   ·exact tj r _ ab8 ab7
def pK(neg:Bool):Txt:=if neg then [45]else []
theorem ve(neg:Bool)(d:Txt)(h0:d≠ [])(hd:∀c∈d,dgt c=true):
  Lib.atoiAll (pK neg++d)=if -9223372036854775808≤(if neg then -(pN d:Int)else(pN d:Int))∧(if neg then -(pN d:Int)else(pN d:Int))≤9223372036854775807 then .ok (if neg then -(pN d:Int)else(pN d:Int))else .range:=by
 have hp:Lib.parseMag d=if pN d<18446744073709551616 then .ok (pN d)else .range:=by
  unfold Lib.parseMag;rw[if_neg h0];exact tj d 0 hd acd
 cases neg
 ·obtain⟨c,r,rfl⟩:=List.exists_cons_of_ne_nil h0
  have hc:=(Gh c).1 (hd c aci);simp only[pK,Bool.false_eq_true,if_false,List.nil_append,Lib.atoiAll];rw[if_neg ab7,hp];have e45:(c.toNat=45)=False:=ab8;simp only[e45,not_false_eq_true,true_and,false_and,if_false];split
  ·rename_i h;split at h
   ·cases h
   ·cases h
  ·rename_i h;split at h
   ·cases h
   ·rw[if_neg ab7]
  ·rename_i u h;split at h
   ·cases h
    split
    ·rw[if_neg ab7]
    ·rw[if_pos ab7]
   ·cases h
 ·simp only[pK,if_true,List.cons_append,List.nil_append,Lib.atoiAll]
  rw[if_pos (.inr acd),hp];simp only[show((45:UInt8).toNat=45)=True by simp,not_true_eq_false,false_and,if_false,true_and,if_true]
  split
  ·rename_i h;split at h
   ·cases h
   ·cases h
  ·rename_i h;split at h
   ·cases h
   ·rw[if_neg ab7]
  ·rename_i u h;split at h
   ·cases h
    split
    ·rw[if_neg ab7]
    ·rw[if_pos ab7]
   ·cases h
theorem zI(s:Txt):∀c∈s.takeWhile dgt,dgt c=true:=fun c hc=>by
 induction s with
 |nil=>cases hc
 |cons x r ih=>
  simp only[List.takeWhile_cons]at hc
  grind
end Go.Bf
namespace Go.Proofs
open Go.Shelf
def Tryz.C8:Go.Shelf.Ren:=⟨fun|137=>196|217=>234|266=>265|n=>n,fun|9=>9|5=>5|3=>3|n=>n,fun|n=>n⟩
theorem Tryz.ND:Go.Proofs.Lays.n137 Tryz.prog Tryz.C8:={
 mixed:=acr
 f137:=Tryz.func196.trans acr
 f217:=Tryz.func234.trans acr
 f266:=Tryz.func265.trans acr
 t3:=Tryz.underlying3
 a3:=Tryz.isAgg3
 z3:=Tryz.sizeOf3
 v3:=Tryz.zeroValue3
 t5:=Tryz.underlying5
 a5:=Tryz.isAgg5
 z5:=Tryz.sizeOf5
 v5:=Tryz.zeroValue5
 t9:=Tryz.underlying9
 a9:=Tryz.isAgg9
 z9:=Tryz.sizeOf9
 v9:=Tryz.zeroValue9}
open Go.RowKit in
theorem Tryz.strings_IndexByte(s:ByteArray)(c:Int)(w:World):
  Calls Tryz.prog 196 #[.string s,.int .u8 c] w fun e w' =>e= .returned (.int .i64 (Lib.indexByte s.data.toList c.toNat.toUInt8))∧w' =w:=Any.strings_IndexByte Tryz.ND s c w
def Tryz.BI:Go.Shelf.Ren:=⟨fun|172=>134|244=>179|245=>180|247=>222|279=>223|280=>224|281=>225|282=>226|287=>256|316=>257|171=>136|205=>258|321=>284|322=>285|243=>182|246=>227|283=>259|284=>260|285=>261|286=>262|129=>287|317=>286|318=>288|319=>289|320=>290|337=>309|338=>310|n=>n,fun|9=>9|3=>3|75=>220|76=>221|4=>4|5=>5|167=>303|37=>37|0=>0|85=>304|2=>2|168=>306|53=>48|175=>336|46=>161|210=>339|127=>310|145=>375|143=>373|21=>21|171=>341|173=>344|212=>377|51=>101|20=>20|213=>378|232=>406|233=>407|80=>238|n=>n,fun|15=>1|16=>2|17=>3|18=>4|19=>5|n=>n⟩
theorem Tryz.C9:Go.Proofs.LaysC.n172 Tryz.prog Tryz.BI:={
 mixed:=acr
 f129:=Tryz.func287.trans acr
 f171:=Tryz.func136.trans acr
 f172:=Tryz.func134.trans acr
 f205:=Tryz.func258.trans acr
 f243:=Tryz.func182.trans acr
 f244:=Tryz.func179.trans acr
 f245:=Tryz.func180.trans acr
 f246:=Tryz.func227.trans acr
 f247:=Tryz.func222.trans acr
 f279:=Tryz.func223.trans acr
 f280:=Tryz.func224.trans acr
 f281:=Tryz.func225.trans acr
 f282:=Tryz.func226.trans acr
 f283:=Tryz.func259.trans acr
 f284:=Tryz.func260.trans acr
 f285:=Tryz.func261.trans acr
 f286:=Tryz.func262.trans acr
 f287:=Tryz.func256.trans acr
 f316:=Tryz.func257.trans acr
 f317:=Tryz.func286.trans acr
 f318:=Tryz.func288.trans acr
 f319:=Tryz.func289.trans acr
 f320:=Tryz.func290.trans acr
 f321:=Tryz.func284.trans acr
 f322:=Tryz.func285.trans acr
 f337:=Tryz.func309.trans acr
 f338:=Tryz.func310.trans acr
 t0:=Tryz.underlying0
 a0:=Tryz.isAgg0
 z0:=Tryz.sizeOf0
 v0:=Tryz.zeroValue0
 t2:=Tryz.underlying2
 a2:=Tryz.isAgg2
 z2:=Tryz.sizeOf2
 v2:=Tryz.zeroValue2
 t3:=Tryz.underlying3
 a3:=Tryz.isAgg3
 z3:=Tryz.sizeOf3
 v3:=Tryz.zeroValue3
 t4:=Tryz.underlying4
 a4:=Tryz.isAgg4
 z4:=Tryz.sizeOf4
 v4:=Tryz.zeroValue4
 t5:=Tryz.underlying5
 a5:=Tryz.isAgg5
 z5:=Tryz.sizeOf5
 v5:=Tryz.zeroValue5
 t9:=Tryz.underlying9
 a9:=Tryz.isAgg9
 z9:=Tryz.sizeOf9
 v9:=Tryz.zeroValue9
 t20:=Tryz.underlying20
 a20:=Tryz.isAgg20
 z20:=Tryz.sizeOf20
 v20:=Tryz.zeroValue20
 t21:=Tryz.underlying21
 a21:=Tryz.isAgg21
 z21:=Tryz.sizeOf21
 v21:=Tryz.zeroValue21
 t37:=Tryz.underlying37
 a37:=Tryz.isAgg37
 z37:=Tryz.sizeOf37
 v37:=Tryz.zeroValue37
 t46:=Tryz.underlying161
 a46:=Tryz.isAgg161
 z46:=Tryz.sizeOf161
 v46:=Tryz.zeroValue161
 t51:=Tryz.underlying101
 a51:=Tryz.isAgg101
 z51:=Tryz.sizeOf101
 v51:=Tryz.zeroValue101
 t53:=Tryz.underlying48
 a53:=Tryz.isAgg48
 z53:=Tryz.sizeOf48
 v53:=Tryz.zeroValue48
 t75:=Tryz.underlying220
 a75:=Tryz.isAgg220
 z75:=Tryz.sizeOf220
 v75:=Tryz.zeroValue220
 t76:=Tryz.underlying221
 a76:=Tryz.isAgg221
 z76:=Tryz.sizeOf221
 v76:=Tryz.zeroValue221
 t85:=Tryz.underlying304
 a85:=Tryz.isAgg304
 z85:=Tryz.sizeOf304
 v85:=Tryz.zeroValue304
 t127:=Tryz.underlying310
 a127:=Tryz.isAgg310
 z127:=Tryz.sizeOf310
 v127:=Tryz.zeroValue310
 t143:=Tryz.underlying373
 a143:=Tryz.isAgg373
 z143:=Tryz.sizeOf373
 v143:=Tryz.zeroValue373
 t145:=Tryz.underlying375
 a145:=Tryz.isAgg375
 z145:=Tryz.sizeOf375
 v145:=Tryz.zeroValue375
 t167:=Tryz.underlying303
 a167:=Tryz.isAgg303
 z167:=Tryz.sizeOf303
 v167:=Tryz.zeroValue303
 t168:=Tryz.underlying306
 a168:=Tryz.isAgg306
 z168:=Tryz.sizeOf306
 v168:=Tryz.zeroValue306
 t171:=Tryz.underlying341
 a171:=Tryz.isAgg341
 z171:=Tryz.sizeOf341
 v171:=Tryz.zeroValue341
 t173:=Tryz.underlying344
 a173:=Tryz.isAgg344
 z173:=Tryz.sizeOf344
 v173:=Tryz.zeroValue344
 t175:=Tryz.underlying336
 a175:=Tryz.isAgg336
 z175:=Tryz.sizeOf336
 v175:=Tryz.zeroValue336
 t210:=Tryz.underlying339
 a210:=Tryz.isAgg339
 z210:=Tryz.sizeOf339
 v210:=Tryz.zeroValue339
 t212:=Tryz.underlying377
 a212:=Tryz.isAgg377
 z212:=Tryz.sizeOf377
 v212:=Tryz.zeroValue377
 t213:=Tryz.underlying378
 a213:=Tryz.isAgg378
 z213:=Tryz.sizeOf378
 t232:=Tryz.underlying406
 a232:=Tryz.isAgg406
 z232:=Tryz.sizeOf406
 v232:=Tryz.zeroValue406
 t233:=Tryz.underlying407
 a233:=Tryz.isAgg407
 z233:=Tryz.sizeOf407
 v233:=Tryz.zeroValue407
 g15:=ace
 g16:=ace
 g17:=ace
 g18:=ace
 g19:=ace
 t80:=Tryz.underlying238
 a80:=Tryz.isAgg238
 z80:=Tryz.sizeOf238
 v80:=Tryz.zeroValue238
 i0:=ace
 i2:=ace
 i3:=ace
 i4:=ace
 i5:=ace
 i9:=ace
 i20:=ace
 i21:=ace
 i37:=ace
 i46:=ace
 i51:=ace
 i53:=ace
 i75:=ace
 i76:=ace
 i80:=ace
 i85:=ace
 i127:=ace
 i143:=ace
 i145:=ace
 i167:=ace
 i168:=ace
 i171:=ace
 i173:=ace
 i175:=ace
 i210:=ace
 i212:=ace
 i232:=ace
 i233:=ace
 m15:=acr
 m16:=acr
 m17:=acr
 m18:=acr
 m19:=acr
 c0:=ace
 c2:=ace
 c3:=ace
 c4:=ace
 c5:=ace
 c9:=ace
 c20:=ace
 c21:=ace
 c37:=ace
 c46:=ace
 c51:=ace
 c53:=ace
 c75:=ace
 c76:=ace
 c80:=ace
 c85:=ace
 c127:=ace
 c143:=ace
 c145:=ace
 c167:=ace
 c168:=ace
 c171:=ace
 c173:=ace
 c175:=ace
 c210:=ace
 c212:=ace
 c213:=ace
 c232:=ace
 c233:=ace}
open Go.RowKit in
theorem Tryz.strconv_Atoi_ok(s:ByteArray)(hmax:s.size≤9223372036854775806)(v:Int)(h:Lib.atoiAll s.data.toList= .ok v)(w:World):
  Calls Tryz.prog 134 #[.string s] w fun e w' =>e= .returned (.tuple #[.int .i64 v,.nilIface])∧(w' =w∨∃t,w' =Lib.bytesWorld w 5 t):=Any.strconv_Atoi_ok Tryz.C9 s hmax v h w
open Go.RowKit in
theorem Tryz.strconv_Atoi_range(s:ByteArray)(hlim:s.size≤281474976710656)(h:Lib.atoiAll s.data.toList= .range)(ev:Value)(w:World)(hv:w.cell? ⟨2,0,none⟩=some ev)(hev:ev= .nilIface∨∃te pe,ev= .iface te pe):
  Calls Tryz.prog 134 #[.string s] w fun e w' =>∃N,e= .returned (.tuple #[.int .i64 (Lib.atoiSat s.data.toList),.iface 306 (.pointer (some ⟨N,0,none⟩))])∧w.heap.size≤N∧w'.heap[N]? =some (.cells #[.string ⟨#[65,116,111,105]⟩,.string s,ev] 339 (0,0))∧Below w.heap.size w w' :=Any.strconv_Atoi_range Tryz.C9 s hlim h ev w hv hev
end Go.Proofs
namespace Go.Proofs.YtfdgemhnlennbaaGreatDoor
open Go Go.Ab Go.Bf Go.RowKit
theorem Jl(s:Txt)(hs:s.length≤100000)(w:World):Calls Tryz.prog 230 #[.string ⟨s.toArray⟩,.func (.func 193) #[] #[]] w fun e w' =>e= .returned (.int .i64 (s.takeWhile dgt).length)∧Below w.heap.size w w' :=by
 refine Go.Ab.ai.calls (args:=[.s s,.fn 193 []]) ⟨_,Tryz.func230,acr,rfl⟩ ((L5 _ _ mC s dH).mono fun _ _ h=>h.1) rfl (fun i hi=>?_)
 rcases i with _|_|i
 ·exact .s s (by grind [lim,Nat])
 ·exact .fn _ [] #[] rfl (fun i hi=>by cases hi)
 ·simp at hi;omega
def zK(neg:Bool)(d:Txt):Int:=if neg then -(pN d:Int)else(pN d:Int)
def inI(neg:Bool)(d:Txt):Prop:= -9223372036854775808≤(if neg then -(pN d:Int)else(pN d:Int))∧(if neg then -(pN d:Int)else(pN d:Int))≤9223372036854775807
instance (neg:Bool) (d:Txt):Decidable (inI neg d):=inferInstanceAs (Decidable (_∧_))
theorem yO(neg:Bool):(pK neg).length≤1:=by cases neg<;>decide
theorem Gb(neg:Bool)(d:Txt)(h0:d≠ [])(hd:∀c∈d,dgt c=true)(hlen:d.length≤10000)(S:ByteArray)(hS:S=⟨(pK neg++d).toArray⟩)(hr:inI neg d)(W:World):
  Calls Tryz.prog 134 #[.string S] W fun e w' =>e= .returned (.tuple #[.int .i64 (zK neg d),.nilIface])∧Below W.heap.size W w' :=by
 have hl:=yO neg;have hsz:S.size≤10001:=by grind [ByteArray.size]
 have ha:Lib.atoiAll S.data.toList= .ok (zK neg d):=by
  rw[hS];rw[ve neg d h0 hd];exact if_pos hr
 refine(Tryz.strconv_Atoi_ok S ab7 _ ha W).mono ?_
 rintro e w' ⟨rfl,rfl|⟨t,rfl⟩⟩
 ·exact⟨rfl,.refl _ _⟩
 ·exact⟨rfl,Lib.bytesWorld_below W _ t⟩
theorem Ci(neg:Bool)(d:Txt)(h0:d≠ [])(hd:∀c∈d,dgt c=true)(hlen:d.length≤10000)(S:ByteArray)(hS:S=⟨(pK neg++d).toArray⟩)(hr:¬inI neg d)(W:World)(ev:Value)(hv:W.cell? ⟨2,0,none⟩=some ev)(hev:ev= .nilIface∨∃te pe,ev= .iface te pe):
  Calls Tryz.prog 134 #[.string S] W fun e w' =>(∃(x:Int) (N:Nat),e= .returned (.tuple #[.int .i64 x,.iface 306 (.pointer (some ⟨N,0,none⟩))]))∧Below W.heap.size W w' :=by
 have hl:=yO neg;have hsz:S.size≤10001:=by grind [ByteArray.size]
 have ha:Lib.atoiAll S.data.toList= .range:=by
  rw[hS];rw[ve neg d h0 hd];exact if_neg hr
 refine(Tryz.strconv_Atoi_range S ab7 ha ev W hv hev).mono ?_
 grind
set_option maxHeartbeats 1000000 in
theorem Dm(neg:Bool)(s:Txt)(hs:s.length≤10000)(w:World)(ev:Value)(hv:w.cell? ⟨2,0,none⟩=some ev)(hev:ev= .nilIface∨∃te pe,ev= .iface te pe)(hg:2<w.heap.size):
  Calls Tryz.prog 194 #[.string ⟨(pK neg).toArray⟩,.string ⟨s.toArray⟩] w fun e w' =>e= .returned (.tuple #[.int .i64 (eY neg s).1,.int .i64 ((eY neg s).2:Nat)])∧Below w.heap.size w w' :=by
 have hle:=jU dgt s;obtain⟨d,ed⟩:∃d,s.takeWhile dgt=d:=⟨_,rfl⟩;have htk:s.take d.length=d:=by grind [qO]
 have hrun:=Jl s ab7 w;have hall:=zI s;rw[ed]at hrun hle hall
 go_enter Tryz.func194,Tryz.ntmps194
 by_cases h0:d.length=0
 ·have e0:d= []:=by grind
  have en:eY neg s=(0,0):=by simp_all [eY,if_pos]
  go_wp2_with (go_at_call 230;refine hrun.mono ?_)
  rintro e W0 ⟨rfl,b0⟩
  rw[h0]
  go_wp2
  go_ret2
  simp_all
 ·have e0:d≠ []:=by grind
  go_wp2_with (go_at_call 230;refine hrun.mono ?_)
  rintro e W0 ⟨rfl,b0⟩
  have hpos:0<d.length:=ab7;have hs0:0<s.length:=ab7;have hsz:0<(⟨s.toArray⟩:ByteArray).size:=by grind [ByteArray.size]
  have hg0:(⟨s.toArray⟩:ByteArray)[0]=s[0]:=rfl;have hgn:∀x:UInt8,(s.head? =some x)↔s[0]=x:=fun x=>by
   rw[List.head?_eq_getElem?,List.getElem?_eq_getElem hs0];simp
  cases d0:((d.length:Int)==0)
  case true=>exact absurd ab8 h0
  have hS:(⟨(pK neg).toArray⟩:ByteArray)++(⟨s.toArray⟩:ByteArray).extract 0 d.length=⟨(pK neg++d).toArray⟩:=by
   apply ByteArray.ext
   simp_all
  have hcat:¬9223372036854775807<List.length (pK neg)+d.length:=by grind [yO]
  cases d1:decide (1<(d.length:Int))
  ·have f1:¬1<d.length:=by grind
   have en:eY neg s=if inI neg d then(zK neg d,d.length)else(0,0):=by
    unfold eY;rw[ed,if_neg ab8];rfl
   have hv0:W0.cell? ⟨2,0,none⟩=some ev:=by rw[b0.cell hg];omega
   by_cases hr:inI neg d
   ·rw[if_pos hr]at en
    go_wp2_with (go_at_call 134;refine(Gb neg d e0 hall ab7 _ acr hr _).mono ?_)
    rintro e W1 ⟨rfl,b1⟩
    go_wp2
    go_ret2
    rw[en];exact adS
   ·rw[if_neg hr]at en
    go_wp2_with (go_at_call 134;refine(Ci neg d e0 hall ab7 _ acr hr _ ev hv0 hev).mono ?_)
    rintro e W1 ⟨⟨x,N,rfl⟩,b1⟩
    go_wp2
    go_ret2
    rw[en];exact adS
  ·have f1:1<d.length:=by grind
   cases d2:((s[0].toNat:Int)==48)
   ·have f2:s.head?≠some 48:=by
     rw[ne_eq,hgn];intro e;simp_all
    have en:eY neg s=if inI neg d then(zK neg d,d.length)else(0,0):=by
     unfold eY;rw[ed,if_neg ab8];rfl
    have hv0:W0.cell? ⟨2,0,none⟩=some ev:=by rw[b0.cell hg];omega
    by_cases hr:inI neg d
    ·rw[if_pos hr]at en
     go_wp2_with (go_at_call 134;refine(Gb neg d e0 hall ab7 _ acr hr _).mono ?_)
     rintro e W1 ⟨rfl,b1⟩
     go_wp2
     go_ret2
     rw[en];exact adS
    ·rw[if_neg hr]at en
     go_wp2_with (go_at_call 134;refine(Ci neg d e0 hall ab7 _ acr hr _ ev hv0 hev).mono ?_)
     rintro e W1 ⟨⟨x,N,rfl⟩,b1⟩
     go_wp2
     go_ret2
     rw[en];exact adS
   ·have f2:s.head? =some 48:=by
     rw[hgn];have:(s[0].toNat:Int)=48:=ab8;exact UInt8.toNat_inj.1 ab8
    have en:eY neg s=(0,0):=by simp_all [eY,if_pos]
    go_wp2
    go_ret2
    simp_all
def j7(h:Heap):Prop:=∃ev:Value,(ev= .nilIface∨∃te pe,ev= .iface te pe)∧Tab h 2 [ev]
theorem j7.sub{h h' :Heap}(he:j7 h)(hs:Ab.Sub h h'):j7 h' :=by
 obtain⟨ev,h1,h2⟩:=he;exact⟨ev,h1,h2.sub hs⟩
theorem l9(neg:Bool)(s:Txt)(hs:s.length≤10000)(h:Heap)(he:j7 h):ai Tryz.prog 194 [.s (pK neg),.s s] h fun r h' =>r= .tup [.v (.int .i64 (eY neg s).1),.i ((eY neg s).2:Nat)]∧h' =h:=by
 obtain⟨ev,hev,id,hi⟩:=he;refine .lib ⟨_,Tryz.func194,acr,rfl⟩ fun c vs hs' g h1 h2=>?_
 obtain⟨u,v,rfl⟩:∃u v,vs= #[u,v]:=by
  match vs,h1 with
  |⟨[u,v]⟩,_=>exact⟨u,v,rfl⟩
 have e1:u= .string ⟨(pK neg).toArray⟩:=((h2 0 aci).nj).1;have e2:v= .string ⟨s.toArray⟩:=((h2 1 aci).nj).1;subst e1;subst e2
 obtain⟨_,t,fr,hh⟩:=g.ro id _ _ (hs' _ _ hi);have hc:c.w.cell? ⟨2,0,none⟩=some ev:=by grind [World.cell?]
 refine(Dm neg s hs c.w ev hc hev (cU hh)).mono ?_
 rintro e w' ⟨rfl,hb⟩
 refine⟨⟨_,rfl,fun c' _=>?_⟩,hb⟩
 refine .tup _ _ rfl fun i hi=>?_
 rcases i with _|_|i
 ·exact aem
 ·exact aem
 ·simp at hi;omega
end Go.Proofs.YtfdgemhnlennbaaGreatDoor
namespace Go.Bf
open Go Go.Ab
def marks:Txt:=[123,125,40,41,46,44,59,61,60,62,33]
theorem zu:∀n:Fin 256,decide (0≤Lib.indexByte marks (UInt8.ofNat n.val))=Df (UInt8.ofNat n.val):=acd
theorem rf(c:UInt8):decide (0≤Lib.indexByte marks c)=Df c:=by
 have:=zu ⟨c.toNat,c.toNat_lt⟩;simpa using this
end Go.Bf
namespace Go.Proofs.YtfdgemhnlennbaaGreatDoor
open Go Go.Ab Go.Bf
theorem C0(l:Txt)(c:UInt8)(h:Heap):ai Tryz.prog 196 [.s l,.v (.int .u8 c.toNat)] h fun r h' =>r= .i (Lib.indexByte l c)∧h' =h:=by
 refine .lib ⟨_,Tryz.func196,acr,rfl⟩ fun cx vs hs' g h1 h2=>?_
 obtain⟨u,v,rfl⟩:∃u v,vs= #[u,v]:=by
  match vs,h1 with
  |⟨[u,v]⟩,_=>exact⟨u,v,rfl⟩
 have e1:u= .string ⟨l.toArray⟩:=((h2 0 aci).nj).1;have e2:v= .int .u8 c.toNat:=(h2 1 aci).bT;subst e1;subst e2
 refine(Tryz.strings_IndexByte ⟨l.toArray⟩ c.toNat cx.w).mono ?_
 rintro e w' ⟨rfl,rfl⟩
 refine⟨⟨_,rfl,fun c' _=>?_⟩,.refl _ _⟩
 have:((c.toNat:Int).toNat).toUInt8=c:=aci;rw[this];exact aem
theorem HK(s:Txt)(h0:s≠ [])(hs:s.length≤4096)(h:Heap)(he:j7 h):ai Tryz.prog 150 [.s s] h fun r h' =>r= .tup [fJ (bQ s).1,.i ((bQ s).2:Nat)]∧h' =h:=by
 refine ab6 Tryz.func150 106 [.cell 2 172,.tmp 3] fun hwf=>?_
 obtain⟨c,r,rfl⟩:=List.exists_cons_of_ne_nil h0;have hsl:r.length≤4095:=by simpa using hs
 simp only[go_sem];intro i2 hi2;simp only[go_sem];intro i4 hi4;have n24:=aH hi4;have g2:∀(f:Heap) (x:Option Blk),upd f i4 x i2=f i2:=fun f x=>ag f x n24.symm
 have g4:∀(f:Heap) (x:Option Blk),upd f i2 x i4=f i4:=fun f x=>ag f x n24
 have hsub:Ab.Sub h (upd (upd h i2 (some (.obj [.i 0,.i 0,.i 0,.s []] 172))) i4 (some (.obj [.i 0,.i 0,.i 0,.s []] 172))):=(Sub.aj hi2).trans (.aj hi4);have he2:=he.sub hsub;have hi4h:h i4=none:=by rw[ag _ _ n24]at hi4;exact hi4
 simp only[go_sem];refine .at 0 aci ?_;cases la:decide (97≤(c.toNat:Int))
 ·have hl:ltr c=false:=by simp only[ltr,la,Bool.false_and]
  simp only[go_sem,aK,List.getElem_cons_zero,la];exact age
 ·cases lb:decide ((c.toNat:Int)≤122)
  ·have hl:ltr c=false:=by simp only[ltr,lb,Bool.and_false]
   simp only[go_sem,aK,List.getElem_cons_zero,la,lb];exact age
  ·have hl:ltr c=true:=by simp only[ltr,la,lb];rfl
   simp only[go_sem,aK,List.getElem_cons_zero,la,lb];refine(ym _ _).pthen ?_;simp only[go_sem,g2,ah];exact .mk _ (.refl _) ab9 ⟨by simp[bQ,hl,fJ,ax],rfl⟩
theorem Oq:(U 172).sz=4:=acr
theorem UA:(U 172).bytes=40:=acr
theorem pq(l:List rB):Sized 4 (l.map fJ):=fun z hz=>by
 obtain⟨c,_,rfl⟩:=List.mem_map.1 hz;rfl
def NK:Lexed→AV
 |.bad e a=> .tup [.sl [] .no,.i e,.i a]
 |.ok l=> .tup [.sl (l.map fJ) .no,.i 0,.i 0]
def JU(s:Txt)(h:Heap)(m:Nat)(ρ:Env)(h' :Heap):Prop:=
 ∃(i f:Nat) (y:AV) (out:List rB) (id:Nat),Acc U 172 h h' y (out.map fJ)∧out.length≤i∧i≤s.length∧m=s.length - i∧s.length<f+i∧s.length≤4096∧h id=none∧(∃c0 c1 c2 c3,h' id=some (.obj [c0,c1,c2,c3] 172))∧sY f (s.drop i) i out=rW s∧lk ρ 0=some (.s s)∧lk ρ 5=some y∧lk ρ 6=some (.ptr id 0)∧lk ρ 7=some (.i i)
theorem Eo(s:Txt)(h:Heap)(he:j7 h):ai Tryz.prog 94 [.s s] h fun r h' =>r=NK (rW s)∧h' =h:=by
 refine ai.of_wp hU Tryz.func94 rfl acr 52 rfl [.tmp 2,.tmp 3,.tmp 4] rfl (abW rfl) ?_;refine .one hU hm ?_;simp only[go_sem];refine WP.L6 hU hm 0 (JU s h) rfl ?_ ?_
 ·rintro m ρ h' ⟨i,f,y,out,id,hy,hoi,hi,rfl,hf,hs,hid,⟨c0,c1,c2,c3,hob⟩,hl,r0,r5,r6,r7⟩
  refine .vc hU hm ?_;cases d1:((i:Int)==(s.length:Int))
  case true=>
   have e1:i=s.length:=ab8;subst e1;obtain⟨f,rfl⟩:∃g,f=g+1:=⟨f - 1,ab7⟩;rw[List.drop_length]at hl;simp only[sY]at hl;simp only[go_sem,r0,r5,r7,d1];refine hy.app (zs:=[fJ ⟨7,s.length,0,[]⟩]) acd acd (fun k hk=>hk) (by grind [Oq,pq]) (by rw[Oq];exact pq [⟨7,s.length,0,[]⟩]) (by grind [UA]) fun y' h2 hy' hk2=>?_
   simp only[go_sem];obtain⟨q,rfl⟩:=hy'.row;refine .mk _ (A5 _ _ _ _) hy'.1 ⟨?_,rfl⟩
   grind [NK]
  have e1:i≠s.length:=ab8;have hlt:i<s.length:=ab7;obtain⟨f,rfl⟩:∃g,f=g+1:=⟨f - 1,ab7⟩;have hdr:s.drop i=s[i]::s.drop (i+1):=aci;have w1:IntKind.i64.wrap ((i:Int)+1)=((i+1:Nat):Int):=acn;have hl2:=hl;rw[hdr]at hl2;simp only[sY]at hl2;rw[←hdr]at hl2;have blank:pZ s[i]=true→∃m',m' <s.length - i∧True:=fun _=>⟨s.length - (i+1),ab7,trivial⟩
  cases d2:((s[i].toNat:Int)==32)
  case true=>
   have hb:pZ s[i]=true:=by simp only[pZ,d2,Bool.true_or]
   rw[if_pos hb]at hl2;simp only[go_sem,r0,r7,d1];refine .at i hlt ?_;simp only[go_sem,r7,aK,d2,w1];exact ag0
  cases d3:((s[i].toNat:Int)==10)
  case true=>
   have hb:pZ s[i]=true:=by simp only[pZ,d3,Bool.or_true]
   rw[if_pos hb]at hl2;simp only[go_sem,r0,r7,d1];refine .at i hlt ?_;simp only[go_sem,r0,r7,aK,d2];refine .at i hlt ?_;simp only[go_sem,r7,aK,d3,w1];exact ag0
  have hb:¬pZ s[i]=true:=by grind [pZ]
  rw[if_neg hb]at hl2;have hne:s.drop i≠ []:=fun e=>by have:=congrArg List.length e;simp at this;omega
  have hle:=rN (s.drop i) hne;have hdl:(s.drop i).length=s.length - i:=aci;have hbo:=fun hh eh=>HK (s.drop i) hne ab7 hh eh
  obtain⟨t,n,etn⟩:∃t n,bQ (s.drop i)=(t,n):=⟨_,_,rfl⟩;rw[etn]at hbo hl2 hle;simp only[fJ]at hbo hl2 hle;simp only[go_sem,r0,r7,d1];refine .at i hlt ?_;simp only[go_sem,r0,r7,aK,d2];refine .at i hlt ?_;simp only[go_sem,r0,r7,aK,d3,lR,Option.isSome_none,Option.isSome_some,Int.toNat_natCast];refine⟨ab7,ab7,ab7,?_⟩;refine(hbo _ (he.sub hy.1)).pthen ?_;cases d4:((n:Int)==0)
  case true=>
   have e4:n=0:=ab8;rw[if_pos e4]at hl2;simp only[go_sem,r6,r7,hob,d4];refine .mk _ (A5 _ _ _ _) (hy.1.put hid _) ⟨?_,rfl⟩;rw[←hl2];rfl
  have e4:n≠0:=ab8;rw[if_neg e4]at hl2;have w2:IntKind.i64.wrap ((i:Int)+(n:Int))=((i+n:Nat):Int):=acn;simp only[go_sem,r5,r6,r7,hob,d4];refine(hy.put hid hob _).app (zs:=[fJ {t with pos:=i}]) acd acd (fun k hk=>hk) (by grind [Oq,pq]) (by rw[Oq];exact pq [{t with pos:=i}]) (by grind [UA]) fun y' h2 hy' hk2=>?_
  simp only[go_sem,r7,w2];refine⟨s.length - (i+n),ab7,i+n,f,y',out++ [{t with pos:=i}],id,ab8,ab8,ab7,rfl,ab7,hs,hid,⟨_,_,_,_,hk2 _ _ _ (ah ..)⟩,?_,?_,?_,?_,?_⟩
  ·grind [List.drop_drop]
  all_goals simp only[go_sem,r0,r6]
 ·intro nx
  cases d0:decide (4096<(s.length:Int))
  case true=>
   have e0:s.length>4096:=ab8;refine .one hU hm ?_;simp only[go_sem,d0];exact .mk (.tup [.sl [] .no,.i 6,.i 4096]) (fB (.tup [.sl [] .full,.i 6,.i 4096])) (.refl _) ⟨by rw[rW,if_pos e0];rfl,rfl⟩
  have e0:¬s.length>4096:=ab8;refine .one hU hm ?_;simp only[go_sem,d0];refine .one hU hm ?_;simp only[go_sem];refine .one hU hm ?_;simp only[go_sem];intro id hid;simp only[go_sem];refine .one hU hm ?_;simp only[go_sem];refine .one hU hm ?_;simp only[go_sem];refine nx (s.length - 0) _ _ ⟨0,s.length+1,_,[],id,.full (.aj hid),aci,ab7,rfl,ab7,ab7,hid,⟨_,_,_,_,ah ..⟩,by simp_all [rW,if_neg],?_,?_,?_,?_⟩<;>simp only[go_sem]
def PO(st:PS):Blk:=.obj [.sl (st.ts.map fJ) .no,.i st.pos,.i st.rules,.i st.bad,.i st.place] 169
def PC(f:FuncId)(args:List AV)(st:PS)(R:AV)(st' :PS):Prop:=∀(h:Heap) (id:Nat),h id=some (PO st)→ai Tryz.prog f (.ptr id 0::args) h fun r h' =>r=R∧h' =upd h id (some (PO st'))
theorem PC.go{f:FuncId}{args:List AV}{st st' :PS}{R:AV}(hc:PC f args st R st'){h:Heap}{id:Nat}{Q:AV→Heap→Prop}(hid:h id=some (PO st))(k:Q R (upd h id (some (PO st')))):ai Tryz.prog f (.ptr id 0::args) h Q:=
 (hc h id hid).mono fun r h' ⟨e1,e2⟩=>aeG
theorem bF{h:Heap}{id:Nat}{b:Option Blk}(e:h id=b):upd h id b=h:=by
 grind [ah,ag]
theorem qS(st:PS)(e p:Int):PC 99 [.i e,.i p] st (.tup []) (bG st e p):=fun h id hid=>by
 refine ab6 Tryz.func99 19 [] fun hwf=>?_
 have g:=hid;unfold PO at g;cases d1:(st.bad==0)
 ·have e1:st.bad≠0:=by grind
  simp only[go_sem,g,d1];exact .mk _ (.refl _) (.refl _) ⟨rfl,by rw[bG,if_neg e1,bF hid]⟩
 ·have e1:st.bad=0:=by grind
  simp only[go_sem,g,d1];exact .mk _ (.refl _) (.refl _) ⟨rfl,by rw[bG,if_pos e1];rfl⟩
theorem lT(st:PS)(hw:WfP st):PC 96 [] st (fJ (aJ st)) st:=fun h id hid=>by
 refine ab6 Tryz.func96 13 [.cell 2 172] fun hwf=>?_
 have g:=hid;unfold PO at g;simp only[go_sem];intro i2 hi2;have n2:id≠i2:=fun e=>ab8
 simp only[go_sem,g,ak,n2];refine⟨.of ace,?_⟩;refine .at st.pos (by simpa using hw.1) acq ?_
 simp only[go_sem,abY,fJ];refine .mk _ (.refl _) (.aj hi2) ⟨by rw[CY hw.1];rfl,(bF hid).symm⟩
theorem lg(st:PS)(hw:WfP st):PC 97 [] st (.tup []) (bl st):=fun h id hid=>by
 refine ab6 Tryz.func97 7 [] fun hwf=>?_
 simp only[go_sem];refine(lT st hw).go hid ?_;rw[bF hid];simp only[go_sem,fJ];refine(qS st 5 _).go hid ?_;exact agI
theorem cI(st:PS)(b:Bool)(hw:WfP st):PC 200 [.b b] st (.tup []) (bE st b):=fun h id hid=>by
 refine ab6 Tryz.func200 10 [] fun hwf=>?_
 cases b
 ·simp only[go_sem]
  exact aeM
 simp only[go_sem];refine(lT st hw).go hid ?_;rw[bF hid];simp only[go_sem,fJ];refine(qS st 6 _).go hid ?_;exact agI
theorem sW(st:PS)(s:Txt)(hw:WfP st):PC 201 [.s s] st (.b (isD st s)) st:=fun h id hid=>by
 refine ab6 Tryz.func201 29 [.tmp 4] fun hwf=>?_
 have g:=hid;unfold PO at g;simp only[go_sem];refine(lT st hw).go hid ?_;rw[bF hid];simp only[go_sem,fJ];intro i2 hi2;have n2:id≠i2:=fun e=>ab8
 cases d1:(st.bad==0)<;>cases d2:((aJ st).s==s)<;>cases d3:((aJ st).kind==1)<;>cases d4:((aJ st).kind==6)
 all_goals
  simp only[go_sem,g,ak,n2,d1,d2,d3,d4];exact .mk _ (.refl _) (.aj hi2) ⟨by simp only[isD,d1,d2,d3,d4];rfl,rfl⟩
theorem jV(st:PS)(s:Txt)(hw:WfP st):PC 198 [.s s] st (.v (.bool (cp st s).1)) (cp st s).2:=fun h id hid=>by
 refine ab6 Tryz.func198 18 [.tmp 4] fun hwf=>?_
 have g:=hid;unfold PO at g;simp only[go_sem];refine(sW st s hw).go hid ?_;rw[bF hid];cases d1:isD st s
 ·have e:cp st s=(false,st):=by grind [cp]
  simp only[go_sem];exact .mk _ (.refl _) (.refl _) ⟨afR,by grind [bF]⟩
 ·have e:cp st s=(true,bg st):=by grind [cp]
  have w1:IntKind.i64.wrap ((st.pos:Int)+1)=((st.pos+1:Nat):Int):=adM;simp only[go_sem,g,w1];exact .mk _ (.refl _) (.refl _) ⟨afR,afR⟩
theorem kI(st:PS)(s:Txt)(hw:WfP st):PC 154 [.s s] st (.tup []) (dV st s):=fun h id hid=>by
 refine ab6 Tryz.func154 10 [] fun hwf=>?_
 simp only[go_sem];refine(jV st s hw).go hid ?_;cases d1:isD st s
 ·have e:cp st s=(false,st):=by grind [cp]
  rw[e,bF hid];simp only[go_sem];refine(lg st hw).go hid ?_;exact ahz
 ·have e:cp st s=(true,bg st):=by grind [cp]
  rw[e];exact ahz
theorem tv(st:PS)(hw:WfP st):PC 152 [] st (.s (cm st).1) (cm st).2:=fun h id hid=>by
 refine ab6 Tryz.func152 25 [.tmp 2] fun hwf=>?_
 have g:=hid;unfold PO at g;have w1:IntKind.i64.wrap ((st.pos:Int)+1)=((st.pos+1:Nat):Int):=adM;simp only[go_sem];refine(lT st hw).go hid ?_;rw[bF hid];simp only[go_sem,fJ];intro i2 hi2;have n2:id≠i2:=fun e=>ab8
 cases d1:((aJ st).kind !=1)
 case true=>
  have e1:(aJ st).kind≠1:=ab8;have en:cm st=([],bl st):=by grind [cm]
  simp only[go_sem,d1];have hid2:upd h i2 (some (.obj [.v (.int .i64 (aJ st).kind),.v (.int .i64 (aJ st).pos),.v (.int .i64 (aJ st).n),.s (aJ st).s] 172)) id=some (PO st):=acM;refine(lg st hw).go hid2 ?_;have hb:(bl st).bad≠0:=by
   grind [bl,bG,Int]
  have d2:((bl st).bad !=0)=true:=ab8;simp only[go_sem,PO,d2];exact .mk _ (.refl _) (Sub.both (.aj hi2) _ _) ⟨ac0,ab8⟩
 have e1:(aJ st).kind=1:=ab8;cases d2:(st.bad !=0)
 case true=>
  have e2:st.bad≠0:=ab8;have en:cm st=([],st):=by grind [cm]
  simp only[go_sem,g,ak,n2,d1,d2];exact .mk _ (.refl _) (.aj hi2) ⟨ac0,by grind [bF]⟩
 have e2:st.bad=0:=ab8;have en:cm st=((aJ st).s,bg st):=by grind [cm]
 simp only[go_sem,g,ak,n2,n2.symm,d1,d2,w1];exact .mk _ (.refl _) (Sub.both (.aj hi2) _ _) ⟨ac0,by rw[en];try rfl⟩
theorem PC.run{f:FuncId}{args:List AV}{st st' :PS}{R:AV}(hc:PC f args st R st'){G:Heap}{id:Nat}{Q:AV→Heap→Prop}(k:Q R (upd G id (some (PO st')))):ai Tryz.prog f (.ptr id 0::args) (upd G id (some (PO st))) Q:=
 hc.go (ah ..) (by rw[nu];exact k)
theorem PC.of{f:FuncId}{args:List AV}{st st' :PS}{R:AV}(hk:∀(G:Heap) (id:Nat),ai Tryz.prog f (.ptr id 0::args) (upd G id (some (PO st))) fun r h' =>r=R∧h' =upd G id (some (PO st'))):PC f args st R st' :=fun h id hid=>by
 have:=hk h id;rw[bF hid]at this;exact acQ
theorem cu{α:Type}(f:Nat→α){i j:Nat}(x y:α)(h:i≠j):upd (upd f i x) j y=upd (upd f j y) i x:=by
 grind [ag,ah]
theorem BE{s:Txt}:∀ {ws:List Txt} {i:Nat},um s ws=some i→i<ws.length
 |w::r,i,h=>by
  simp only[um]at h;split at h
  ·grind
  ·cases hr:um s r with
   |none=>grind
   |some j=>rw[hr]at h;cases h;have:=BE hr;simp;omega
theorem GA{s:Txt}:∀ {ws:List Txt} (i:Nat) (hi:i<ws.length),(∀j (hj:j<ws.length),j<i→ws[j]≠s)→ws[i]=s→um s ws=some i
 |w::r,0,_,_,h=>by grind [um]
 |w::r,i+1,hi,hb,h=>by
  have h0:=hb 0 aci ab7;simp only[List.getElem_cons_zero]at h0;simp only[um,if_neg h0];rw[GA i ab8 ab8 ab8];rfl
theorem Ap{s:Txt}:∀ {ws:List Txt},(∀j (hj:j<ws.length),ws[j]≠s)→um s ws=none
 | [],_=>rfl
 |w::r,hb=>by
  have h0:=hb 0 aci;simp only[List.getElem_cons_zero]at h0;simp only[um,if_neg h0];rw[Ap (fun j hj=>by have:=hb (j+1) ab8;simpa using this)]
  rfl
def QE(o:Option Nat):Int:=match o with
 |some i=>i
 |none=> -1
theorem IN(ws:List Txt)(q:Perm)(s:Txt)(hl:ws.length≤1000)(h:Heap):ai Tryz.prog 197 [.sl (ws.map AV.s) q,.s s] h fun r h' =>r= .i (QE (um s ws))∧h' =h:=by
 refine ab6 Tryz.func197 19 [.tmp 4] fun hwf=>?_
 simp only[go_sem,abX];refine .intro (fun m ρ h' =>h' =h∧∃i:Nat,i≤ws.length∧m=ws.length - i∧(∀j (hj:j<ws.length),j<i→ws[j]≠s)∧lk ρ 0=some (.sl (ws.map AV.s) q)∧lk ρ 1=some (.s s)∧lk ρ 7=some (.i ws.length)∧lk ρ 8=some (.i i)) ws.length ?_ ?_
 ·refine⟨rfl,0,ab7,rfl,fun j _ hj=>ab7,?_,?_,?_,?_⟩<;>simp only[go_sem]
 ·rintro m ρ h' ⟨rfl,i,hi,rfl,hc,r0,r1,r7,r8⟩
  simp only[go_sem,r7,r8];refine .intro (fun e=>?_) (fun e=>?_)
  ·have hlt:i<ws.length:=ab4 e
   have w1:IntKind.i64.wrap ((i:Int)+1)=((i+1:Nat):Int):=acn;simp only[go_sem,r0,r1,r8];refine .at i ab8 acq ?_;cases d1:(s==ws[i])
   ·have e1:ws[i]≠s:=by grind
    simp only[go_sem,r8,abY,d1,w1];refine⟨_,?_,rfl,i+1,ab7,rfl,fun j hj hji=>?_,?_,?_,?_,?_⟩
    ·omega
    ·grind
    all_goals simp only[go_sem,r0,r1,r7]
   ·have e1:ws[i]=s:=by grind
    simp only[go_sem,abY,d1];exact .same (.refl _) ⟨by rw[GA i hlt hc e1];rfl,rfl⟩
  ·have hge:i=ws.length:=by grind
   subst hge;simp only[go_sem];exact .same (.refl _) ⟨by rw[Ap fun j hj=>hc j hj hj];rfl,rfl⟩
theorem nS(st:PS)(ws:List Txt)(q:Perm)(hl:ws.length≤1000)(hw:WfP st):PC 151 [.sl (ws.map AV.s) q] st (.v (.int .i64 (aW st ws).1)) (aW st ws).2:=.of fun G id=>by
 refine ab6 Tryz.func151 28 [.tmp 4] fun hwf=>?_
 simp only[go_sem];refine(lT st hw).run ?_;simp only[go_sem,fJ];intro i2 hi2;have n2:=aH hi2;have hG2:G i2=none:=acM;have c2:∀(f:Heap) (x y:Option Blk),upd (upd f id x) i2 y=upd (upd f i2 y) id x:=fun f x y=>cu f x y n2.symm
 cases d1:((aJ st).kind==1)
 ·have e1:(aJ st).kind≠1:=by grind
  have en:aW st ws=(0,bl st):=by grind [aW]
  simp only[go_sem,c2,ak,n2,d1];exact agF
 have e1:(aJ st).kind=1:=ab8;simp only[go_sem,c2,ak,n2,d1];refine(IN ws q _ hl _).pthen ?_;cases ei:um (aJ st).s ws with
 |none=>
  have en:aW st ws=(0,bl st):=by grind [aW]
  have dm:decide ((0:Int)≤ -1)=false:=acd;simp only[go_sem,QE,dm];exact agF
 |some i=>
  have hil:=BE ei;have d2:decide (0≤(i:Int))=true:=aci;have w1:IntKind.i64.wrap ((i:Int)+1)=((i:Int)+1):=acn;simp only[go_sem,QE,d2,ak,n2];refine(jV st _ hw).run ?_;cases d3:(st.bad==0)
  ·have e3:st.bad≠0:=by grind
   have et:cp st (aJ st).s=(false,st):=by grind [cp,isD]
   have en:aW st ws=(0,bl st):=by grind [aW]
   rw[et];simp only[go_sem];exact agF
  ·have e3:st.bad=0:=by grind
   have et:cp st (aJ st).s=(true,bg st):=by grind [cp,isD]
   have en:aW st ws=((i:Int)+1,bg st):=by grind [aW]
   rw[et];simp only[go_sem,w1];exact .mk _ (.refl _) (Sub.both (.aj hG2) _ _) ⟨ac0,by rw[en]⟩
theorem Kb(st:PS)(hw:WfP st):PC 291 [] st (Cj (fV st).1) (fV st).2:=.of fun G id=>by
 have h1:=gz vg hw;have h2:=jh [46] h1.1;have h3:=mQ h2.1;refine ab6 Tryz.func291 17 [.cell 2 213] fun hwf=>?_
 simp only[go_sem];intro i2 hi2;have n2:=aH hi2;have hG2:G i2=none:=acM;have c2:∀(f:Heap) (x y:Option Blk),upd (upd f id x) i2 y=upd (upd f i2 y) id x:=fun f x y=>cu f x y n2.symm
 simp only[go_sem,c2];intro i3 hi3;have n3:=aH hi3;have hi3' :=hi3;rw[ag _ _ n3]at hi3';have n32:=aH hi3';have hG3:G i3=none:=acM;have c3:∀(f:Heap) (x y:Option Blk),upd (upd f id x) i3 y=upd (upd f i3 y) id x:=fun f x y=>cu f x y n3.symm
 have c23:∀(f:Heap) (x y:Option Blk),upd (upd f i3 x) i2 y=upd (upd f i2 y) i3 x:=fun f x y=>cu f x y n32
 have m32:¬i3=i2:=n32;have m23:¬i2=i3:=n32.symm;simp only[go_sem,c3];refine(nS st vg .full acd hw).run ?_;simp only[go_sem,c3,ak,n3];refine(kI _ [46] h1.1).run ?_;simp only[go_sem];refine(tv _ h2.1).run ?_;simp only[go_sem,c3,ak,n3];refine(jV _ [33] h3.1).run ?_;simp only[go_sem,c2,c3,c23,ak,n2,n3,m23];exact .mk _ (.refl _) (Sub.both acE _ _) ⟨rfl,rfl⟩
theorem tQ(st:PS)(hw:WfP st):PC 292 [] st (aS (aD st).1) (aD st).2:=.of fun G id=>by
 refine ab6 Tryz.func292 56 [.cell 2 33] fun hwf=>?_
 have w1:IntKind.i64.wrap ((st.pos:Int)+1)=((st.pos+1:Nat):Int):=adM;simp only[go_sem];intro i2 hi2;have n2:=aH hi2;have hG2:G i2=none:=by rw[ag _ _ n2]at hi2;exact hi2
 have c2:∀(f:Heap) (x y:Option Blk),upd (upd f id x) i2 y=upd (upd f i2 y) id x:=fun f x y=>cu f x y n2.symm
 simp only[go_sem,c2];refine(lT st hw).run ?_;simp only[go_sem,fJ];intro i3 hi3;have n3:=aH hi3;have hi3' :=hi3;rw[ag _ _ n3]at hi3';have n32:=aH hi3';have hG3:G i3=none:=by rw[ag _ _ n32]at hi3';exact hi3'
 have c3:∀(f:Heap) (x y:Option Blk),upd (upd f id x) i3 y=upd (upd f i3 y) id x:=fun f x y=>cu f x y n3.symm
 have c23:∀(f:Heap) (x y:Option Blk),upd (upd f i3 x) i2 y=upd (upd f i2 y) i3 x:=fun f x y=>cu f x y n32
 have m32:¬i3=i2:=n32;have m23:¬i2=i3:=n32.symm;simp only[go_sem,c3,ak,n3];intro i4 hi4;have n4:=aH hi4;have hi4' :=hi4;rw[ag _ _ n4]at hi4';have n43:=aH hi4';have hi4'' :=hi4';rw[ag _ _ n43]at hi4'';have n42:=aH hi4'';have hG4:G i4=none:=by rw[ag _ _ n42]at hi4'';exact hi4''
 have c4:∀(f:Heap) (x y:Option Blk),upd (upd f id x) i4 y=upd (upd f i4 y) id x:=fun f x y=>cu f x y n4.symm
 have c24:∀(f:Heap) (x y:Option Blk),upd (upd f i4 x) i2 y=upd (upd f i2 y) i4 x:=fun f x y=>cu f x y n42
 have c34:∀(f:Heap) (x y:Option Blk),upd (upd f i4 x) i3 y=upd (upd f i3 y) i4 x:=fun f x y=>cu f x y n43
 have m42:¬i4=i2:=n42;have m24:¬i2=i4:=n42.symm;have m43:¬i4=i3:=n43;have m34:¬i3=i4:=n43.symm;cases k2:((aJ st).kind==2)
 case true=>
  have e2:(aJ st).kind=2:=by simpa using k2
  have ev:fU st=(⟨2,(aJ st).n,(aJ st).s⟩,st):=by simp[fU,e2]
  cases kb:(st.bad !=0)
  ·have eb:st.bad=0:=by simpa using kb
   have en:aD st=(⟨2,(aJ st).n,(aJ st).s⟩,bg st):=adx;simp only[go_sem,c2,c4,c23,c24,ak,n2,n3,n4,m23,m24,m34,k2,PO,kb,w1];exact agl
  ·have eb:st.bad≠0:=by simpa using kb
   have en:aD st=(⟨0,0,[]⟩,st):=adx;simp only[go_sem,c2,c4,c23,c24,ak,n2,n3,n4,m23,m24,m34,k2,PO,kb];exact agl
 have e2:(aJ st).kind≠2:=by simpa using k2
 cases k3:((aJ st).kind==3)
 case true=>
  have e3:(aJ st).kind=3:=by simpa using k3
  have ev:fU st=(⟨4,(aJ st).n,(aJ st).s⟩,st):=by simp[fU,e3]
  cases kb:(st.bad !=0)
  ·have eb:st.bad=0:=by simpa using kb
   have en:aD st=(⟨4,(aJ st).n,(aJ st).s⟩,bg st):=adx;simp only[go_sem,c2,c4,c23,c24,ak,n2,n3,n4,m23,m24,m34,k2,k3,PO,kb,w1];exact agl
  ·have eb:st.bad≠0:=by simpa using kb
   have en:aD st=(⟨0,0,[]⟩,st):=adx;simp only[go_sem,c2,c4,c23,c24,ak,n2,n3,n4,m23,m24,m34,k2,k3,PO,kb];exact agl
 have e3:(aJ st).kind≠3:=by simpa using k3
 cases k4:((aJ st).kind==4)
 case true=>
  have e4:(aJ st).kind=4:=by simpa using k4
  have ev:fU st=(⟨5,(aJ st).n,(aJ st).s⟩,st):=by simp[fU,e4]
  cases kb:(st.bad !=0)
  ·have eb:st.bad=0:=by simpa using kb
   have en:aD st=(⟨5,(aJ st).n,(aJ st).s⟩,bg st):=adx;simp only[go_sem,c2,c4,c23,c24,ak,n2,n3,n4,m23,m24,m34,k2,k3,k4,PO,kb,w1];exact agl
  ·have eb:st.bad≠0:=by simpa using kb
   have en:aD st=(⟨0,0,[]⟩,st):=adx;simp only[go_sem,c2,c4,c23,c24,ak,n2,n3,n4,m23,m24,m34,k2,k3,k4,PO,kb];exact agl
 have e4:(aJ st).kind≠4:=by simpa using k4
 cases k5:((aJ st).kind==5)
 case true=>
  have e5:(aJ st).kind=5:=by simpa using k5
  have ev:fU st=(⟨3,(aJ st).n,(aJ st).s⟩,st):=by simp[fU,e5]
  cases kb:(st.bad !=0)
  ·have eb:st.bad=0:=by simpa using kb
   have en:aD st=(⟨3,(aJ st).n,(aJ st).s⟩,bg st):=adx;simp only[go_sem,c2,c4,c23,c24,ak,n2,n3,n4,m23,m24,m34,k2,k3,k4,k5,PO,kb,w1];exact agl
  ·have eb:st.bad≠0:=by simpa using kb
   have en:aD st=(⟨0,0,[]⟩,st):=adx;simp only[go_sem,c2,c4,c23,c24,ak,n2,n3,n4,m23,m24,m34,k2,k3,k4,k5,PO,kb];exact agl
 have e5:(aJ st).kind≠5:=by simpa using k5
 simp only[go_sem,c4,ak,n3,n4,m34,k2,k3,k4,k5];refine(sW st vR hw).run ?_;cases kt:isD st vR
 case true=>
  have ev:fU st=(⟨1,1,[]⟩,st):=by simp[fU,e2,e3,e4,e5,kt]
  cases kb:(st.bad !=0)
  ·have eb:st.bad=0:=by simpa using kb
   have en:aD st=(⟨1,1,[]⟩,bg st):=adx;simp only[go_sem,c2,c4,c23,c24,ak,n2,n4,m23,m24,PO,kb,w1];exact agl
  ·have eb:st.bad≠0:=by simpa using kb
   have en:aD st=(⟨0,0,[]⟩,st):=adx;simp only[go_sem,c2,c4,c23,c24,ak,n2,n4,m23,m24,PO,kb];exact agl
 simp only[go_sem];refine(sW st qn hw).run ?_;cases kf:isD st qn
 case true=>
  have ev:fU st=(⟨1,0,[]⟩,st):=by simp[fU,e2,e3,e4,e5,kt,kf]
  cases kb:(st.bad !=0)
  ·have eb:st.bad=0:=by simpa using kb
   have en:aD st=(⟨1,0,[]⟩,bg st):=adx;simp only[go_sem,c2,c4,c23,c24,ak,n2,n4,m23,m24,PO,kb,w1];exact agl
  ·have eb:st.bad≠0:=by simpa using kb
   have en:aD st=(⟨0,0,[]⟩,st):=adx;simp only[go_sem,c2,c4,c23,c24,ak,n2,n4,m23,m24,PO,kb];exact agl
 have ev:fU st=(⟨0,(aJ st).n,(aJ st).s⟩,bl st):=by simp[fU,e2,e3,e4,e5,kt,kf]
 have en:aD st=(⟨0,0,[]⟩,bl st):=by simp[aD,ev,rz]
 have kb:((bl st).bad !=0)=true:=by simpa using rz st
 simp only[go_sem];refine(lg st hw).run ?_;simp only[go_sem,c2,c23,c24,ak,n2,m23,m24,PO,kb];exact agl
def tf:List Txt:=[[61],[60],[62]]
theorem Q6{st:PS}(i:Nat)(hi:i<tf.length)(hb:∀j (hj:j<tf.length),j<i→isD st tf[j]=false)(h:isD st tf[i]=true):opP st=((i:Int)+1,bg st):=by
 have h3:i<3:=hi;rcases(by omega:i=0∨i=1∨i=2)with rfl|rfl|rfl
 ·simp only[opP,show isD st [61]=true from h,if_true];rfl
 ·simp only[opP,show isD st [61]=false from hb 0 acd acd,show isD st [60]=true from h,if_true];rfl
 ·simp only[opP,show isD st [61]=false from hb 0 acd acd,show isD st [60]=false from hb 1 acd acd,show isD st [62]=true from h,if_true];rfl
theorem Lx{st:PS}(hb:∀j (hj:j<tf.length),isD st tf[j]=false):opP st=(0,bl st):=by
 simp only[opP,show isD st [61]=false from hb 0 acd,show isD st [60]=false from hb 1 acd,show isD st [62]=false from hb 2 acd];rfl
theorem GK(st:PS)(hw:WfP st):PC 266 [] st (dO (gw st).1) (gw st).2:=.of fun G id=>by
 have h1:=Bg hw;obtain⟨a,st1,e1⟩:∃a st1,fV st=(a,st1):=⟨_,_,rfl⟩;have hat:=Kb st hw;rw[e1]at h1 hat;simp only at h1 hat;refine ab6 Tryz.func266 32 [.cell 2 265] fun hwf=>?_
 simp only[go_sem];intro i2 hi2;have n2:=aH hi2;have hG2:G i2=none:=acM;have c2:∀(f:Heap) (x y:Option Blk),upd (upd f id x) i2 y=upd (upd f i2 y) id x:=fun f x y=>cu f x y n2.symm
 simp only[go_sem,c2];refine hat.run ?_;simp only[go_sem,Cj];intro i3 hi3;have n3:=aH hi3;have hi3' :=hi3;rw[ag _ _ n3]at hi3';have n32:=aH hi3';have hG3:G i3=none:=acM;have c3:∀(f:Heap) (x y:Option Blk),upd (upd f id x) i3 y=upd (upd f i3 y) id x:=fun f x y=>cu f x y n3.symm
 have c23:∀(f:Heap) (x y:Option Blk),upd (upd f i3 x) i2 y=upd (upd f i2 y) i3 x:=fun f x y=>cu f x y n32
 have m32:¬i3=i2:=n32;have m23:¬i2=i3:=n32.symm;simp only[go_sem,c3,ak,n3];refine .intro (fun m ρ H=>H=upd (upd (upd G i2 (some (.obj [.i 0,.s [],.b false,.i 0,.i 0,.i 0,.s []] 265))) i3 (some (.obj [.i a.cat,.s a.name,.b a.must,.i 0,.i 0,.i 0,.s []] 265))) id (some (PO st1))∧
  ∃i:Nat,i≤3∧m=3 - i∧(∀j (hj:j<tf.length),j<i→isD st1 tf[j]=false)∧lk ρ 0=some (.ptr id 0)∧lk ρ 2=some (.ptr i2 0)∧lk ρ 3=some (.ptr i3 0)∧lk ρ 9=some (.sl (tf.map AV.s) .full)∧lk ρ 10=some (.i 3)∧lk ρ 11=some (.i i)) 3 ?_ ?_
 ·refine⟨rfl,0,ab7,rfl,fun j _ hj=>ab7,?_,?_,?_,?_,?_,?_⟩<;>simp only[go_sem]<;>rfl
 ·rintro m ρ H ⟨rfl,i,hi,rfl,hb,r0,r2,r3,r9,r10,r11⟩
  simp only[go_sem,r10,r11];refine .intro (fun e=>?_) (fun e=>?_)
  ·have hlt:i<3:=by grind
   have hlo:i<tf.length:=hlt;have w1:IntKind.i64.wrap ((i:Int)+1)=((i+1:Nat):Int):=acn;have w2:IntKind.i64.wrap (1+(i:Int))=((i:Int)+1):=ab8;simp only[go_sem,r9,r11];refine .at i ab8 acq ?_;simp only[go_sem,r0,abY];refine(jV st1 tf[i] h1.1).run ?_;cases d1:isD st1 tf[i]
   ·have et:cp st1 tf[i]=(false,st1):=by grind [cp]
    rw[et];simp only[go_sem,r11,w1];refine⟨_,?_,rfl,i+1,ab7,rfl,fun j hj hji=>?_,?_,?_,?_,?_,?_,?_⟩
    ·omega
    ·grind
    all_goals simp only[go_sem,r0,r2,r3,r9,r10]
   ·have et:cp st1 tf[i]=(true,bg st1):=by grind [cp]
    have eo:=Q6 i hlo hb d1;have h2:Ah st1 (bg st1):=eU h1.1 (dG d1);have en:gw st=(⟨a,(i:Int)+1,(aD (bg st1)).1⟩,(aD (bg st1)).2):=by grind [gw]
    have d2:(((i:Int)+1)==0)=false:=acr;rw[et];simp only[go_sem,c3,ak,n3,r0,r3,w2,d2];refine(tQ (bg st1) h2.1).run ?_;exact ag5
  ·have hge:i=3:=by grind
   subst hge;have eo:=Lx fun j hj=>hb j hj hj
   have h2:Ah st1 (bl st1):=nR h1.1;have en:gw st=(⟨a,0,(aD (bl st1)).1⟩,(aD (bl st1)).2):=by grind [gw]
   simp only[go_sem,r0,r3,ak,n3];refine(lg st1 h1.1).run ?_;simp only[go_sem,r0];refine(tQ (bl st1) h2.1).run ?_;exact ag5
theorem Ry:(U 265).sz=7:=acr
theorem UI:(U 265).bytes=72:=acr
theorem Hr(l:List bP):Sized 7 (l.map dO):=fun z hz=>by
 obtain⟨c,_,rfl⟩:=List.mem_map.1 hz;rfl
theorem Rx:(U 266).sz=1:=acr
theorem UG:(U 266).bytes=24:=acr
theorem Hq(l:List (List bP)):Sized 1 (l.map iR):=fun z hz=>by
 obtain⟨c,_,rfl⟩:=List.mem_map.1 hz;rfl
theorem Rz:(U 262).sz=1:=acr
theorem UK:(U 262).bytes=24:=acr
theorem Ht(l:List (List (List bP))):Sized 1 (l.map cR):=fun z hz=>by
 obtain⟨c,_,rfl⟩:=List.mem_map.1 hz;rfl
theorem OK(st:PS)(hw:WfP st):PC 235 [] st (iR (pM st).1) (pM st).2:=.of fun G id=>by
 have h1:=pU hw;have hm1:=GK st hw;obtain⟨x0,st1,e1⟩:∃x0 st1,gw st=(x0,st1):=⟨_,_,rfl⟩;have ep:fQ gw [44] 8 st.ts.length st1 [x0]=pM st:=by grind [pM]
 rw[e1]at h1 hm1;simp only[dO]at h1 hm1;refine ab6 Tryz.func235 20 [.tmp 2] fun hwf=>?_
 simp only[go_sem];refine hm1.run ?_;simp only[go_sem];have hB:upd G id none id=none:=ah ..;refine .intro (fun m ρ H=>∃(f:Nat) (st' :PS) (l:List _) (y:AV),H id=some (PO st')∧Acc U 265 (upd G id none) H y (l.map dO)∧Ah st1 st'∧fQ gw [44] 8 f st' l=pM st∧st1.ts.length≤f+st'.pos∧l.length≤st'.pos+1∧m=st1.ts.length - st'.pos∧lk ρ 0=some (.ptr id 0)∧lk ρ 3=some y) (st1.ts.length - st1.pos) ?_ ?_
 ·refine⟨st.ts.length,st1,[x0],.sl ([x0].map dO) .full,ah ..,.full (base_start G id _),.refl h1.1,ep,by rw[h1.2.1];omega,aci,rfl,?_,?_⟩<;>simp only[go_sem]<;>rfl
 ·rintro m ρ H ⟨f,st',l,y,hH,hy,ha,hfin,hf,hll,rfl,r0,r3⟩
  have hlen:=ha.1.2.2;have hpos:=ha.1.1;have htl:=ha.2.1;simp only[go_sem,r0];refine(jV st' [44] ha.1).go hH ?_;cases d1:isD st' [44]
  ·have et:cp st' [44]=(false,st'):=by grind [cp]
   have ef:fQ gw [44] 8 f st' l=(l,st'):=afs;rw[et,bF hH];rw[ef]at hfin;simp only[go_sem,r3];exact .mk (h' :=upd G id (some (PO (pM st).2))) (iR l) hy.weak (by rw[←hfin];exact fq hy.1 hH) ⟨ab8,rfl⟩
  ·have et:cp st' [44]=(true,bg st'):=by grind [cp]
   obtain⟨g,rfl⟩:∃g,f=g+1:=⟨f - 1,ab8⟩;simp only[fQ,d1,if_true]at hfin;have h2:=eU ha.1 (dG d1);have hone:=GK (bg st') h2.1;have h3:=(fun _ h=>pU h:∀st,WfP st→Ah st (gw st).2) _ h2.1
   obtain⟨x,st2,e2⟩:∃x st2,gw (bg st')=(x,st2):=⟨_,_,rfl⟩;rw[e2]at hfin hone h3;simp only[dO]at hfin hone h3;have hdec:decide ((8:Int)<((l.length+1:Nat):Int))=decide (8<l.length+1):=by
    grind
   have h4:=kP (decide (8<l.length+1)) h3.1;have hnp:(bg st').pos=st'.pos+1:=rfl;have hp3:=h3.2.2;have hp4:=h4.2.2;rw[et];simp only[go_sem,r0,r3];refine hone.run ?_;simp only[go_sem];refine(hy.put hB hH _).app (zs:=[dO x]) (by grind [Ry]) (by grind [UI]) (fun k hk=>hk) (by grind [Ry,Hr]) (by rw[Ry];exact Hr [x]) (by grind [UI]) fun y' H2 hy' hk2=>?_
   exact agj
theorem OL(st:PS)(hw:WfP st):PC 199 [] st (cR (rC st).1) (rC st).2:=.of fun G id=>by
 have h0:=jh [40] hw;have h1:=Bd h0.1;have hm1:=OK _ h0.1;obtain⟨x0,st1,e1⟩:∃x0 st1,pM (dV st [40])=(x0,st1):=⟨_,_,rfl⟩;obtain⟨M,eM⟩:∃M,fQ pM orT 8 st.ts.length st1 [x0]=M:=⟨_,rfl⟩;have epp:(M.1,dV M.2 [41])=rC st:=by grind [rC]
 rw[e1]at h1 hm1;simp only[iR]at h1 hm1;refine ab6 Tryz.func199 24 [.tmp 2] fun hwf=>?_
 simp only[go_sem];refine(kI st [40] hw).run ?_;simp only[go_sem];refine hm1.run ?_;simp only[go_sem];have hB:upd G id none id=none:=ah ..;refine .intro (fun m ρ H=>∃(f:Nat) (st' :PS) (l:List _) (y:AV),H id=some (PO st')∧Acc U 266 (upd G id none) H y (l.map iR)∧Ah st1 st'∧fQ pM orT 8 f st' l=M∧st1.ts.length≤f+st'.pos∧l.length≤st'.pos+1∧m=st1.ts.length - st'.pos∧lk ρ 0=some (.ptr id 0)∧lk ρ 3=some y) (st1.ts.length - st1.pos) ?_ ?_
 ·refine⟨st.ts.length,st1,[x0],.sl ([x0].map iR) .full,ah ..,.full (base_start G id _),.refl h1.1,eM,by rw[h1.2.1,h0.2.1];omega,aci,rfl,?_,?_⟩<;>simp only[go_sem]<;>rfl
 ·rintro m ρ H ⟨f,st',l,y,hH,hy,ha,hfin,hf,hll,rfl,r0,r3⟩
  have hlen:=ha.1.2.2;have hpos:=ha.1.1;have htl:=ha.2.1;simp only[go_sem,r0];refine(jV st' orT ha.1).go hH ?_;cases d1:isD st' orT
  ·have et:cp st' orT=(false,st'):=by grind [cp]
   have ef:fQ pM orT 8 f st' l=(l,st'):=afs;rw[et,bF hH];rw[ef]at hfin;simp only[go_sem,r0];refine(kI st' [41] ha.1).go hH ?_;simp only[go_sem,r3];exact .mk (h' :=upd G id (some (PO (rC st).2))) (cR l) hy.weak (by rw[←epp,←hfin];exact fq (hy.1.put hB _) (ah ..)) ⟨ab8,rfl⟩
  ·have et:cp st' orT=(true,bg st'):=by grind [cp]
   obtain⟨g,rfl⟩:∃g,f=g+1:=⟨f - 1,ab8⟩;simp only[fQ,d1,if_true]at hfin;have h2:=eU ha.1 (dG d1);have hone:=OK (bg st') h2.1;have h3:=(fun _ h=>Bd h:∀st,WfP st→Ah st (pM st).2) _ h2.1
   obtain⟨x,st2,e2⟩:∃x st2,pM (bg st')=(x,st2):=⟨_,_,rfl⟩;rw[e2]at hfin hone h3;simp only[iR]at hfin hone h3;have hdec:decide ((8:Int)<((l.length+1:Nat):Int))=decide (8<l.length+1):=by
    grind
   have h4:=kP (decide (8<l.length+1)) h3.1;have hnp:(bg st').pos=st'.pos+1:=rfl;have hp3:=h3.2.2;have hp4:=h4.2.2;rw[et];simp only[go_sem,r0,r3];refine hone.run ?_;simp only[go_sem];refine(hy.put hB hH _).app (zs:=[iR x]) (by grind [Rx]) (by grind [UG]) (fun k hk=>hk) (by grind [Rx,Hq]) (by rw[Rx];exact Hq [x]) (by grind [UG]) fun y' H2 hy' hk2=>?_
   exact agj
theorem Pp(st:PS)(hw:WfP st):PC 153 [] st (aV (gM st).1) (gM st).2:=.of fun G id=>by
 refine ab6 Tryz.func153 23 [.tmp 2] fun hwf=>?_
 simp only[go_sem];refine(jV st Ef hw).run ?_;cases d0:isD st Ef
 ·have et:cp st Ef=(false,st):=by grind [cp]
  have ep:gM st=([],st):=by grind [gM]
  rw[et];simp only[go_sem];exact .mk (h' :=upd G id (some (PO (gM st).2))) (aV []) (.sl _ _) (by rw[ep];exact .refl _) ⟨by rw[ep],rfl⟩
 have et:cp st Ef=(true,bg st):=by grind [cp]
 have h0:=eU hw (dG d0);have h1:=Be h0.1;have hm1:=OL _ h0.1;obtain⟨x0,st1,e1⟩:∃x0 st1,rC (bg st)=(x0,st1):=⟨_,_,rfl⟩;obtain⟨M,eM⟩:∃M,fQ rC Cf 8 st.ts.length st1 [x0]=M:=⟨_,rfl⟩;have ep:M=gM st:=by simp_all [gM,if_true]
 rw[e1]at h1 hm1;simp only[cR]at h1 hm1;rw[et];simp only[go_sem];refine hm1.run ?_;simp only[go_sem];have hB:upd G id none id=none:=ah ..;refine .intro (fun m ρ H=>∃(f:Nat) (st' :PS) (l:List _) (y:AV),H id=some (PO st')∧Acc U 262 (upd G id none) H y (l.map cR)∧Ah st1 st'∧fQ rC Cf 8 f st' l=M∧st1.ts.length≤f+st'.pos∧l.length≤st'.pos+1∧m=st1.ts.length - st'.pos∧lk ρ 0=some (.ptr id 0)∧lk ρ 3=some y) (st1.ts.length - st1.pos) ?_ ?_
 ·refine⟨st.ts.length,st1,[x0],.sl ([x0].map cR) .full,ah ..,.full (base_start G id _),.refl h1.1,eM,by rw[h1.2.1,h0.2.1];omega,aci,rfl,?_,?_⟩<;>simp only[go_sem]<;>rfl
 ·rintro m ρ H ⟨f,st',l,y,hH,hy,ha,hfin,hf,hll,rfl,r0,r3⟩
  have hlen:=ha.1.2.2;have hpos:=ha.1.1;have htl:=ha.2.1;simp only[go_sem,r0];refine(jV st' Cf ha.1).go hH ?_;cases d1:isD st' Cf
  ·have et:cp st' Cf=(false,st'):=by grind [cp]
   have ef:fQ rC Cf 8 f st' l=(l,st'):=afs;rw[et,bF hH];rw[ef]at hfin;simp only[go_sem,r3];exact .mk (h' :=upd G id (some (PO (gM st).2))) (aV l) hy.weak (by rw[←ep,←hfin];exact fq hy.1 hH) ⟨ab8,rfl⟩
  ·have et:cp st' Cf=(true,bg st'):=by grind [cp]
   obtain⟨g,rfl⟩:∃g,f=g+1:=⟨f - 1,ab8⟩;simp only[fQ,d1,if_true]at hfin;have h2:=eU ha.1 (dG d1);have hone:=OL (bg st') h2.1;have h3:=(fun _ h=>Be h:∀st,WfP st→Ah st (rC st).2) _ h2.1
   obtain⟨x,st2,e2⟩:∃x st2,rC (bg st')=(x,st2):=⟨_,_,rfl⟩;rw[e2]at hfin hone h3;simp only[cR]at hfin hone h3;have hdec:decide ((8:Int)<((l.length+1:Nat):Int))=decide (8<l.length+1):=by
    grind
   have h4:=kP (decide (8<l.length+1)) h3.1;have hnp:(bg st').pos=st'.pos+1:=rfl;have hp3:=h3.2.2;have hp4:=h4.2.2;rw[et];simp only[go_sem,r0,r3];refine hone.run ?_;simp only[go_sem];refine(hy.put hB hH _).app (zs:=[cR x]) (by grind [Rz]) (by grind [UK]) (fun k hk=>hk) (by grind [Rz,Ht]) (by rw[Rz];exact Ht [x]) (by grind [UK]) fun y' H2 hy' hk2=>?_
   exact agj
theorem Dr(op:Int)(h:Heap):ai Tryz.prog 311 [.i op] h fun r h' =>r= .sl ((opers op).map jJ) .no∧h' =h:=by
 refine ab6 Tryz.func311 15 [.tmp 2] fun hwf=>?_
 cases k3:(op==3)<;>cases k4:(op==4)<;>cases k5:(op==5)<;>cases k11:(op==11)
 all_goals
  simp only[go_sem,k3,k4,k5,k11];simp only[beq_iff_eq,beq_eq_false_iff_ne]at k3 k4 k5 k11;refine .mk _ (.sl _ _) (.refl _) ⟨?_,rfl⟩
  grind [opers,jJ]
theorem UL:(U 131).sz=3:=acr
theorem W4:(U 131).bytes=32:=acr
theorem Hs(l:List cA):Sized 3 (l.map br):=fun z hz=>by
 obtain⟨c,_,rfl⟩:=List.mem_map.1 hz;rfl
theorem sI(st:PS)(hw:WfP st):PC 157 [] st (aA (gm st).1) (gm st).2:=.of fun G id=>by
 obtain⟨M,eM⟩:∃M,gm st=M:=⟨_,rfl⟩;have eM2:fQ zz vF 8 st.ts.length st []=M:=eM;refine ab6 Tryz.func157 28 [.tmp 2] fun hwf=>?_
 simp only[go_sem];have hB:upd G id none id=none:=ah ..;refine .intro (fun m ρ H=>∃(f:Nat) (st' :PS) (l:List cA) (y:AV),H id=some (PO st')∧Acc U 131 (upd G id none) H y (l.map br)∧Ah st st'∧fQ zz vF 8 f st' l=M∧st.ts.length≤f+st'.pos∧l.length≤st'.pos+1∧m=st.ts.length - st'.pos∧lk ρ 0=some (.ptr id 0)∧lk ρ 3=some y) (st.ts.length - st.pos) ?_ ?_
 ·refine⟨st.ts.length,st,[],.sl ([].map br) .full,ah ..,.full (base_start G id _),.refl hw,eM2,ab7,aci,rfl,?_,?_⟩<;>simp only[go_sem]<;>rfl
 ·rintro m ρ H ⟨f,st',l,y,hH,hy,ha,hfin,hf,hll,rfl,r0,r3⟩
  have hlen:=ha.1.2.2;have hpos:=ha.1.1;have htl:=ha.2.1;simp only[go_sem,r0];refine(jV st' vF ha.1).go hH ?_;cases d1:isD st' vF
  ·have et:cp st' vF=(false,st'):=by grind [cp]
   have ef:fQ zz vF 8 f st' l=(l,st'):=afs;rw[et,bF hH];rw[ef]at hfin;simp only[go_sem,r3];exact .mk (h' :=upd G id (some (PO (gm st).2))) (aA l) hy.weak (by rw[eM,←hfin];exact fq hy.1 hH) ⟨ab8,rfl⟩
  ·have et:cp st' vF=(true,bg st'):=by grind [cp]
   obtain⟨g,rfl⟩:∃g,f=g+1:=⟨f - 1,ab8⟩;simp only[fQ,d1,if_true]at hfin;have h2:=eU ha.1 (dG d1);have ho1:=gz uB h2.1;have ho2:=gz mo ho1.1;have ho3:=mQ ho2.1;have h3:Ah (bg st') (zz (bg st')).2:=J5 h2.1;have hdec:decide ((8:Int)<((l.length+1:Nat):Int))=decide (8<l.length+1):=by
    grind
   have h4:=kP (decide (8<l.length+1)) h3.1;have hnp:(bg st').pos=st'.pos+1:=rfl;have hp3:=h3.2.2;have hp4:=h4.2.2;have eX:(zz (bg st'))=(⟨(aW (bg st') uB).1,(aW (aW (bg st') uB).2 mo).1,(cm (aW (aW (bg st') uB).2 mo).2).1⟩,(cm (aW (aW (bg st') uB).2 mo).2).2):=rfl;obtain⟨x,st2,e2⟩:∃x st2,zz (bg st')=(x,st2):=⟨_,_,rfl⟩;rw[et];simp only[go_sem];intro i4 hi4;have n4:=aH hi4;have hH4:H i4=none:=acM;have c4:∀(f:Heap) (x y:Option Blk),upd (upd f id x) i4 y=upd (upd f i4 y) id x:=fun f x y=>cu f x y n4.symm
   simp only[go_sem,r0,c4];refine(nS _ uB .full acd h2.1).run ?_;simp only[go_sem,r0,c4,ak,n4];refine(nS _ mo .full acd ho1.1).run ?_;simp only[go_sem,r0,c4,ak,n4];refine(tv _ ho2.1).run ?_;simp only[go_sem,r3,c4,ak,n4];rw[e2]at hfin h3 h4 hp3 hp4;simp only at hfin h3 h4 hp3 hp4;have ex1:x=(zz (bg st')).1:=by rw[e2]
   have ex2:st2=(cm (aW (aW (bg st') uB).2 mo).2).2:=by
    grind
   rw[←ex2];refine((hy.sub (Sub.aj (k:=_) hH4)).put hB (by rw[ag _ _ n4.symm];exact hH) _).app (zs:=[br x]) acd acd (fun k hk=>by rw[ex1]at hk;exact hk) (by grind [UL,Hs]) (by rw[UL];exact Hs [x]) (by grind [W4]) fun y' H2 hy' hk2=>?_
   exact agj
theorem sA{U:TypeId→TI}{e:TypeId}{B B' H:Heap}{y:AV}{xs:List AV}(hs:Sub B B')(ha:Acc U e B' H y xs):Acc U e B H y xs:=by
 obtain⟨h1,rfl|⟨k,i1,rfl,i2⟩⟩:=ha
 ·exact⟨hs.trans h1,.inl rfl⟩
 ·refine⟨hs.trans h1,.inr ⟨k,?_,rfl,i2⟩⟩
  cases hk:B k with
  |none=>rfl
  |some b=>rw[hs _ _ hk]at i1;omega
theorem wV{U:TypeId→TI}{e:TypeId}{B H:Heap}{y:AV}{xs:List AV}(ha:Acc U e B H y xs){i:Nat}(hi:H i=none)(b:Option Blk):Acc U e (upd B i b) (upd H i b) y xs:=by
 obtain⟨h1,rfl|⟨k,i1,rfl,i2⟩⟩:=ha
 ·exact⟨h1.both _ _,.inl rfl⟩
 ·have hne:k≠i:=fun hh=>by subst hh;rw[hi]at i2;cases i2
  exact⟨h1.both _ _,.inr ⟨k,acM,rfl,acM⟩⟩
theorem nQ{U:TypeId→TI}{e:TypeId}{G K:Heap}{id:Nat}{st:PS}{y:AV}{xs:List AV}(ha:Acc U e (upd G id none) (upd K id (some (PO st))) y xs)(st' :PS):Acc U e (upd G id none) (upd K id (some (PO st'))) y xs:=by
 have:=ha.put (id:=id) (ah ..) (cs:=_) (t:=_) (ah ..) (some (PO st'));rw[nu]at this;exact acQ
def XC(f:FuncId)(args:List AV)(st:PS)(l:List aO)(mk:AV→AV)(st' :PS)(l' :List aO):Prop:=
 ∀(G K:Heap) (id:Nat) (y:AV),Acc U 215 (upd G id none) (upd K id (some (PO st))) y (l.map dI)→ai Tryz.prog f (.ptr id 0::y::args) (upd K id (some (PO st))) fun r h' =>∃y',r=mk y'∧h' id=some (PO st')∧Acc U 215 (upd G id none) h' y' (l'.map dI)
theorem XC.run{f:FuncId}{args:List AV}{st st' :PS}{l l' :List aO}{mk:AV→AV}(hc:XC f args st l mk st' l'){G K:Heap}{id:Nat}{y:AV}{Q:AV→Heap→Prop}(ha:Acc U 215 (upd G id none) (upd K id (some (PO st))) y (l.map dI))
  (k:∀y' K',Acc U 215 (upd G id none) (upd K' id (some (PO st'))) y' (l'.map dI)→Q (mk y') (upd K' id (some (PO st')))):ai Tryz.prog f (.ptr id 0::y::args) (upd K id (some (PO st))) Q:=
 (hc G K id y ha).mono fun r h' ⟨y',e1,e2,e3⟩=>by
  subst e1;have:=k y' h' (by grind [bF])
  rwa [bF e2]at this
def EH(ex:ExF)(f:Nat):Prop:=∀st l,WfP st→st.ts.length≤f+st.pos→l.length≤2*st.pos+1→XC 267 [] st l (fun y=> .tup [y,.v (.bool (ex st l).1.2)]) (ex st l).2 (ex st l).1.1
theorem HG(st:PS)(ws:List Txt):0≤(aW st ws).1∧(aW st ws).1≤ws.length:=by
 unfold aW;cases ei:um (aJ st).s ws with
 |none=>simp
 |some i=>
  have:=BE ei;simp only;split<;>simp<;>omega
theorem AB{ex:ExF}(ho:Ek ex){f:Nat}(he:EH ex f)(st:PS)(l:List aO)(b:Bool)(hw:WfP st)(hf:st.ts.length≤f+st.pos)(hl:l.length≤2*st.pos+1):XC 236 [.b b] st l (fun y=>y) (ie ex st l b).2 (ie ex st l b).1:=fun G K id y ha=>by
 refine ab6 Tryz.func236 25 [.tmp 6] fun hwf=>?_
 simp only[go_sem];refine(lT st hw).run ?_;simp only[go_sem,fJ];refine(he st l hw hf hl).run ha fun y' K' ha' =>?_
 cases db:((ex st l).1.2==b)
 ·have e1:(ex st l).1.2≠b:=by grind
  have en:ie ex st l b=((ex st l).1.1,bG (ex st l).2 5 (aJ st).pos):=by grind [ie]
  simp only[go_sem,db,Bool.not_false];refine(qS _ 5 _).run ?_;simp only[go_sem];exact .mk (h' :=upd K' id (some (PO (bG (ex st l).2 5 (aJ st).pos)))) y' (.refl _) (.refl _) ⟨y',rfl,af6,by grind [nQ]⟩
 ·have e1:(ex st l).1.2=b:=by grind
  have en:ie ex st l b=((ex st l).1.1,(ex st l).2):=by grind [ie]
  simp only[go_sem,db,Bool.not_true];exact .mk (h' :=upd K' id (some (PO (ex st l).2))) y' (.refl _) (.refl _) ⟨y',rfl,af6,ab8⟩
theorem E0{ex:ExF}(ho:Ek ex){f:Nat}(he:EH ex f)(st:PS)(l:List aO)(hw:WfP st)(hf:st.ts.length≤f+st.pos)(hl:l.length+1≤2*st.pos):XC 293 [] st l (fun y=> .tup [y,dI (qq ex st l).1.2]) (qq ex st l).2 (qq ex st l).1.1:=fun G K id y ha=>by
 have h1:=gz lG hw;have hrg:=HG st lG;have hfl:lG.length=11:=rfl;have w2:IntKind.i64.wrap (2+(aW st lG).1)=2+(aW st lG).1:=acn;refine ab6 Tryz.func293 36 [.tmp 4,.cell 5 215] fun hwf=>?_
 simp only[go_sem];intro i5 hi5;have n5:=aH hi5;have hK5:K i5=none:=acM;have c5:∀(f:Heap) (x y:Option Blk),upd (upd f id x) i5 y=upd (upd f i5 y) id x:=fun f x y=>cu f x y n5.symm
 simp only[go_sem,c5];refine(nS _ lG .full acd hw).run ?_;simp only[go_sem,w2];intro i6 hi6;have n6:=aH hi6;have c6:∀(f:Heap) (x y:Option Blk),upd (upd f id x) i6 y=upd (upd f i6 y) id x:=fun f x y=>cu f x y n6.symm
 have hi6' :=hi6;rw[ag _ _ n6]at hi6';have n65:=aH hi6';have hK6:K i6=none:=acM;simp only[go_sem,c6,ak,n6];refine(Dr _ _).pthen ?_;simp only[go_sem];have h5f:=ha;obtain⟨bs,ebs⟩:∃bs,opers (2+(aW st lG).1)=bs:=⟨_,rfl⟩;obtain⟨M,eM⟩:∃M,jq ex bs (aW st lG).2 l=M:=⟨_,rfl⟩;have hb2:bs.length≤2:=by grind [Ds]
 have hMr:qq ex st l=((M.1,⟨2+(aW st lG).1,⟨0,0,[]⟩,⟨0,[],false⟩⟩),dV M.2 [41]):=by grind [qq]
 obtain⟨st1,es1⟩:∃st1,(aW st lG).2=st1:=⟨_,rfl⟩;have hac0:=wV (wV (nQ ha st1) (by rw[ag _ _ n5];omega) (some (.obj [.i 0,.i 0,.i 0,.s [],.i 0,.s [],.b false] 215))) (by rw[ag _ _ n65,ag _ _ n6];omega) (some (.obj [.i (2+(aW st lG).1),.i 0,.i 0,.s [],.i 0,.s [],.b false] 215))
 simp only[c5,c6]at hac0;obtain⟨G',eG⟩:∃G',G' =upd (upd G i5 (some (.obj [.i 0,.i 0,.i 0,.s [],.i 0,.s [],.b false] 215))) i6 (some (.obj [.i (2+(aW st lG).1),.i 0,.i 0,.s [],.i 0,.s [],.b false] 215)):=⟨_,rfl⟩;have g5:upd G' id none i5=some (.obj [.i 0,.i 0,.i 0,.s [],.i 0,.s [],.b false] 215):=by simp_all [ag,Ne.symm,ah]
 have g6:upd G' id none i6=some (.obj [.i (2+(aW st lG).1),.i 0,.i 0,.s [],.i 0,.s [],.b false] 215):=by simp_all [ag,ah]
 rw[←eG]at hac0;have gi5:upd G id none i5=none:=by
  cases hk:upd G id none i5 with
  |none=>rfl
  |some b=>rw[ha.1 _ _ hk]at hi5;omega
 have hsG:Sub (upd G id none) (upd G' id none):=fun k b hk=>by
  have hs1:=ha.1 k b hk;have hk5:k≠i5:=fun e=>ab8
  have hk6:k≠i6:=fun e=>by
   grind [ag]
  by_cases hkid:k=id
  ·subst hkid;rw[ah]at hk;cases hk
  ·rw[ag _ _ hkid]at hk⊢
   rw[eG,ag _ _ hk6,ag _ _ hk5];exact hk
 simp only[es1,ebs]at h1 eM⊢;refine .intro (fun m ρ H=>∃(i:Nat) (st' :PS) (l' :List aO) (y' :AV) (K' :Heap),H=upd K' id (some (PO st'))∧Acc U 215 (upd G' id none) (upd K' id (some (PO st'))) y' (l'.map dI)∧Ah st1 st'∧i≤bs.length∧jq ex (bs.drop i) st' l' =M∧l'.length+1≤2*st'.pos+i∧m=bs.length - i∧lk ρ 0=some (.ptr id 0)∧lk ρ 1=some y'∧lk ρ 5=some (.ptr i5 0)∧lk ρ 6=some (.ptr i6 0)∧lk ρ 16=some (.sl (bs.map jJ) .no)∧lk ρ 17=some (.i bs.length)∧lk ρ 18=some (.i i)) bs.length ?_ ?_
 ·refine⟨0,st1,l,y,_,rfl,hac0,.refl h1.1,ab7,ab8,by have:=h1.2.2;omega,rfl,?_,?_,?_,?_,?_,?_,?_⟩<;>simp only[go_sem]<;>(try rfl)<;>simp
 ·rintro m ρ H ⟨i,st',l',y',K',rfl,hac,hah,hi,hfin,hll,rfl,r0,r1,r5,r6,r16,r17,r18⟩
  simp only[go_sem,r17,r18];have k6:upd K' id (some (PO st')) i6=some (.obj [.i (2+(aW st lG).1),.i 0,.i 0,.s [],.i 0,.s [],.b false] 215):=hac.1 _ _ g6;have k5:upd K' id (some (PO st')) i5=some (.obj [.i 0,.i 0,.i 0,.s [],.i 0,.s [],.b false] 215):=hac.1 _ _ g5;rw[ag _ _ n6]at k6;rw[ag _ _ n5]at k5;refine .intro (fun e=>?_) (fun e=>?_)
  ·have hlt:i<bs.length:=ab4 e
   simp only[go_sem,r16,r18];refine .at i ab8 acq ?_;cases db:(st'.bad !=0)
   ·have e1:st'.bad=0:=by grind
    rw[List.drop_eq_getElem_cons hlt]at hfin;simp only[jq,e1,if_true]at hfin;simp only[go_sem,r0,r1,abY,jJ,PO,db];have hpl:=hah.2.2;refine(AB ho he st' l' bs[i] hah.1 (by rw[hah.2.1,h1.2.1];have:=h1.2.2;omega) ab7).run hac fun y2 K2 hac2=>?_
    obtain⟨q1,q2⟩:=yp ho st' l' bs[i] hah.1;have w1:IntKind.i64.wrap ((i:Int)+1)=((i+1:Nat):Int):=acn;simp only[go_sem,r18,w1];refine⟨_,?_,i+1,(ie ex st' l' bs[i]).2,(ie ex st' l' bs[i]).1,y2,K2,rfl,hac2,hah.trans q1,hlt,hfin,ab7,rfl,?_⟩
    ·omega
    refine⟨?_,?_,?_,?_,?_,?_,?_⟩
    all_goals simp only[go_sem,r0,r5,r6,r16,r17]
   ·have e1:st'.bad≠0:=by grind
    have hfin2:(l',st')=M:=by
     grind [List.drop_eq_getElem_cons,jq]
    clear hfin;have hfin:=hfin2;simp only[go_sem,r0,abY,jJ,PO,db];refine(kI _ [41] hah.1).run ?_;simp only[go_sem,r1,r5,r6,ak,n5,n6,k5,k6];refine⟨.of ace,?_⟩;exact .mk (.tup [y',dI ⟨2+(aW st lG).1,⟨0,0,[]⟩,⟨0,[],false⟩⟩]) (.refl _) (.refl _) ⟨y',acr,by rw[hMr,←hfin];exact(ag _ _ (Ne.symm n5)).trans (ah ..),adD⟩
  ·have hge:i=bs.length:=by grind
   subst hge;rw[List.drop_length]at hfin;simp only[jq]at hfin;simp only[go_sem,r0];refine(kI _ [41] hah.1).run ?_;simp only[go_sem,r1,r5,r6,ak,n5,n6,k5,k6];refine⟨.of ace,?_⟩;exact .mk (.tup [y',dI ⟨2+(aW st lG).1,⟨0,0,[]⟩,⟨0,[],false⟩⟩]) (.refl _) (.refl _) ⟨y',acr,by rw[hMr,←hfin];simp_all [ag,Ne.symm,trans,ah],adD⟩
theorem su:(U 215).sz=7:=acr
theorem zJ:(U 215).bytes=72:=acr
theorem kN(l:List aO):Sized 7 (l.map dI):=fun z hz=>by
 obtain⟨c,_,rfl⟩:=List.mem_map.1 hz;rfl
theorem QA(f:Nat)(ih:EH (eD f) f):EH (eD (f+1)) (f+1):=fun st l hw hf hl G K id y ha=>by
 refine ab6 Tryz.func267 52 [.tmp 4,.tmp 5] fun hwf=>?_
 simp only[go_sem];intro i6 hi6;have n6:=aH hi6;have hK6:K i6=none:=by rw[ag _ _ n6]at hi6;exact hi6
 have c6:∀(f:Heap) (x y:Option Blk),upd (upd f id x) i6 y=upd (upd f i6 y) id x:=fun f x y=>cu f x y n6.symm
 have gi6:upd G id none i6=none:=by
  cases hk:upd G id none i6 with
  |none=>rfl
  |some b=>rw[ha.1 _ _ hk]at hi6;cases hi6
 have hac:=wV ha hi6 (some (.obj [.i 0,.i 0,.i 0,.s [],.i 0,.s [],.b false] 215));simp only[go_sem,c6];refine(lT st hw).run ?_;simp only[go_sem,fJ];intro i7 hi7;have n7:=aH hi7;have hi7' :=hi7;rw[ag _ _ n7]at hi7';have n76:=aH hi7';have m76:¬i7=i6:=n76;have m67:¬i6=i7:=fun e=>n76 e.symm
 have hK7:K i7=none:=by rw[ag _ _ n76]at hi7';exact hi7'
 have c7:∀(f:Heap) (x y:Option Blk),upd (upd f id x) i7 y=upd (upd f i7 y) id x:=fun f x y=>cu f x y n7.symm
 have e6:upd (upd G id none) i6 (some (.obj [.i 0,.i 0,.i 0,.s [],.i 0,.s [],.b false] 215))=upd (upd G i6 (some (.obj [.i 0,.i 0,.i 0,.s [],.i 0,.s [],.b false] 215))) id none:=c6 G none _;have hac7:∀k,Acc U 215 (upd (upd G i6 (some (.obj [.i 0,.i 0,.i 0,.s [],.i 0,.s [],.b false] 215))) id none) (upd (upd (upd K i6 (some (.obj [.i 0,.i 0,.i 0,.s [],.i 0,.s [],.b false] 215))) i7 k) id (some (PO st))) y (l.map dI):=fun k=>by
  have:=hac.sub (Sub.aj (k:=k) (by rw[c6];exact hi7))
  rw[e6,c6 K,c7]at this;exact acQ
 have hsG:Sub (upd G id none) (upd (upd G i6 (some (.obj [.i 0,.i 0,.i 0,.s [],.i 0,.s [],.b false] 215))) id none):=by
  rw[←e6];exact Sub.aj gi6
 have g6:upd (upd G i6 (some (.obj [.i 0,.i 0,.i 0,.s [],.i 0,.s [],.b false] 215))) id none i6=some (.obj [.i 0,.i 0,.i 0,.s [],.i 0,.s [],.b false] 215):=by rw[←e6,ah]
 simp only[go_sem,c7,ak,n7];refine(jV st [40] hw).run ?_;have hacX:∀tk NB st',Acc U 215 (upd G id none) (upd (upd (upd (upd K i6 (some (.obj [.i 0,.i 0,.i 0,.s [],.i 0,.s [],.b false] 215))) i7 tk) i6 NB) id (some (PO st'))) y (l.map dI):=fun tk NB st' =>by
  have:=(nQ (sA hsG (hac7 tk)) st').put gi6 ((ag _ _ n6).trans ((ag _ _ m67).trans (ah ..))) NB;rw[c6]at this;exact acQ
 obtain⟨⟨⟨lh,n⟩,sth⟩,eh⟩:∃x,ja (eD f) st l=x:=⟨_,rfl⟩;obtain⟨hha,hhl⟩:=CX (qk f) st l hw;rw[eh]at hha hhl;simp only at hha hhl;have hwp:=hha.1.2.2;have hwq:=hha.1.1;have hpl:=hha.2.2;have hdec:decide ((32:Int)<((lh.length+1:Nat):Int))=decide (32<lh.length+1):=by
  by_cases h:32<lh.length+1
  ·simp only[h,decide_true];exact decide_eq_true ab7
  ·simp only[h,decide_false];exact decide_eq_false ab7
 cases d0:isD st [40]
 ·have et:cp st [40]=(false,st):=by simp[cp,d0]
  rw[et];cases d1:((aJ st).kind==1)
  ·have en:ja (eD f) st l=((l,⟨1,(aD st).1,⟨0,[],false⟩⟩),(aD st).2):=by
    have:(aJ st).kind≠1:=ae4;simp[ja,d0,this]
   simp only[go_sem,ak,n7,d1];exact agi
  ·have k1:(aJ st).kind=1:=by simpa using d1
   cases d2:((aJ st).s== [116,114,117,101])
   ·have k2:(aJ st).s≠vR:=by unfold vR;simpa using d2
    cases d3:((aJ st).s== [102,97,108,115,101])
    ·have k3:(aJ st).s≠qn:=by unfold qn;simpa using d3
     have en:ja (eD f) st l=((l,⟨2,⟨0,0,[]⟩,(fV st).1⟩),(fV st).2):=by simp[ja,d0,k1,k2,k3]
     simp only[go_sem,ak,n7,d1,d2,d3,Bool.not_false];refine(Kb st hw).run ?_;rw[en]at eh;injection eh with eh1 eh2
     injection eh1 with eh3 eh4
     subst eh2;subst eh3;subst eh4;simp only[go_sem,c6,ak,n6,m67,Cj];refine(hacX _ _ _).app (zs:=[dI (⟨2,⟨0,0,[]⟩,(fV st).1⟩:aO)]) afS afT (fun k hk=>hk) afb (by rw[su];exact kN [(⟨2,⟨0,0,[]⟩,(fV st).1⟩:aO)]) aeW fun y3 H3 hy3 hk3=>?_
     have hH3:H3 id=some (PO (fV st).2):=hk3 _ _ _ (ah ..);have hb3:H3 i6=some (.obj [.v (.int .i64 (⟨2,⟨0,0,[]⟩,(fV st).1⟩:aO).op),.v (.int .i64 (⟨2,⟨0,0,[]⟩,(fV st).1⟩:aO).val.kind),.v (.int .i64 (⟨2,⟨0,0,[]⟩,(fV st).1⟩:aO).val.n),.s (⟨2,⟨0,0,[]⟩,(fV st).1⟩:aO).val.s,.v (.int .i64 (⟨2,⟨0,0,[]⟩,(fV st).1⟩:aO).attr.cat),.s (⟨2,⟨0,0,[]⟩,(fV st).1⟩:aO).attr.name,.v (.bool (⟨2,⟨0,0,[]⟩,(fV st).1⟩:aO).attr.must)] 215):=hk3 _ _ _ ((ag _ _ n6).trans (ah ..));simp only[go_sem,hy3.len,ab1,abX,List.length_cons,List.length_nil,Nat.zero_add,hdec];refine(cI (fV st).2 _ hha.1).go hH3 ?_;simp only[go_sem,ak,n6,hb3];refine⟨.of ace,?_⟩;have efin:eD (f+1) st l=((l++ [(⟨2,⟨0,0,[]⟩,(fV st).1⟩:aO)],(⟨2,⟨0,0,[]⟩,(fV st).1⟩:aO).op==2),bE (fV st).2 (decide (32<l.length+1))):=afY;exact .mk (.tup [y3,.b ((⟨2,⟨0,0,[]⟩,(fV st).1⟩:aO).op==2)]) (.refl _) (.refl _) ⟨y3,by rw[efin],aex,acX⟩
    ·have k3:(aJ st).s=qn:=by unfold qn;simpa using d3
     have en:ja (eD f) st l=((l,⟨1,(aD st).1,⟨0,[],false⟩⟩),(aD st).2):=by simp[ja,d0,k1,k3]
     simp only[go_sem,ak,n7,d1,d2,d3,Bool.not_false,Bool.not_true];exact agi
   ·have k2:(aJ st).s=vR:=by unfold vR;simpa using d2
    have en:ja (eD f) st l=((l,⟨1,(aD st).1,⟨0,[],false⟩⟩),(aD st).2):=by simp[ja,d0,k1,k2]
    simp only[go_sem,ak,n7,d1,d2,Bool.not_true];exact agi
 ·have et:cp st [40]=(true,bg st):=by simp[cp,d0]
  have h1:=eU hw (dG d0);have hnp:(bg st).pos=st.pos+1:=rfl;have hnt:(bg st).ts=st.ts:=rfl;rw[et];simp only[go_sem];have ef:qq (eD f) (bg st) l=((lh,n),sth):=by rw[←eh];simp[ja,d0]
  have hfx:=E0 (qk f) ih (bg st) l h1.1 (by rw[hnt];omega) ab7
  simp only[ef]at hfx;refine hfx.run (nQ (hac7 _) _) fun y2 K2 hac2=>?_
  have k6:=hac2.1 _ _ g6;rw[ag _ _ n6]at k6;simp only[go_sem,c6,ak,n6,k6,dI];have hac3:=(sA hsG hac2).put gi6 ((ag _ _ n6).trans k6) (some (.obj [.i n.op,.i n.val.kind,.i n.val.n,.s n.val.s,.i n.attr.cat,.s n.attr.name,.b n.attr.must] 215));rw[c6]at hac3;refine(hac3).app (zs:=[dI n]) afS afT (fun k hk=>hk) afb (by rw[su];exact kN [n]) aeW fun y3 H3 hy3 hk3=>?_
  have hH3:H3 id=some (PO sth):=hk3 _ _ _ (ah ..);have hb3:H3 i6=some (.obj [.i n.op,.i n.val.kind,.i n.val.n,.s n.val.s,.i n.attr.cat,.s n.attr.name,.b n.attr.must] 215):=hk3 _ _ _ ((ag _ _ n6).trans (ah ..));simp only[go_sem,hy3.len,ab1,abX,List.length_cons,List.length_nil,Nat.zero_add,hdec];refine(cI sth _ hha.1).go hH3 ?_;simp only[go_sem,ak,n6,hb3];refine⟨.of ace,?_⟩;have efin:eD (f+1) st l=((lh++ [n],n.op==2),bE sth (decide (32<lh.length+1))):=by simp only[eD,eh]
  exact .mk (.tup [y3,.b (n.op==2)]) (.refl _) (.refl _) ⟨y3,by rw[efin],aex,acX⟩
theorem KG:∀f,EH (eD f) f
 |0=>fun st l hw hf _=>absurd hw.1 ab7
 |f+1=>QA f (KG f)
theorem EW{P:Program}{f:FuncId}{args:List AV}{h:Heap}{Q Q' :AV→Heap→Prop}(hf:ai P f args h Q)(hq:∀x h1,Q x h1→∃y h2,Weak x y∧Sub h2 h1∧Q' y h2):ai P f args h Q' :=
 fun c vs h1 h2 h3 h4=>(hf c vs h1 h2 h3 h4).mono fun u w' ⟨c',x,h',g1,g2,g3,g4,g5,g6⟩=>by
  obtain⟨y,h'',k1,k2,k3⟩:=hq x h' g6;exact⟨c',y,h'',g1,g2,g3,g4.weak k1,k2.trans g5,k3⟩
def flat:AV→AV
 |.sl xs _=> .sl xs .no
 |x=>x
theorem gh(xs:List AV):Weak (.agg xs) (.agg (xs.map flat)):=.agg _ _ aci fun i h1 h2=>by
 rw[abY];cases xs[i]<;>first|exact .refl _|exact .sl _ _
theorem I7(st:PS)(hw:WfP st):PC 236 [.sl [] .full,.b false] st (fu (ie (eD st.ts.length) st [] false).1) (ie (eD st.ts.length) st [] false).2:=.of fun G id=>by
 have hx:=AB (qk st.ts.length) (KG st.ts.length) st [] false hw ab7 aci;refine EW (hx G G id (.sl [] .full) (.full (base_start G id _))) fun r h1 ⟨y',e1,e2,e3⟩=>⟨_,upd G id (some (PO (ie (eD st.ts.length) st [] false).2)),?_,fq e3.1 e2,rfl,rfl⟩
 subst e1;exact e3.weak
theorem LY(deny:Bool)(st:PS)(hw:WfP st):PC 202 [.b deny] st (aB (pJ deny st).1) (pJ deny st).2:=.of fun G id=>by
 have h1:=mQ hw;have h2:=Bk h1.1;have h3:=F6 h2.1;have h4:=Bi h3.1;have ht:=Pp _ h1.1;simp only[aV]at ht;refine ab6 Tryz.func202 23 [.cell 4 210] fun hwf=>?_
 simp only[go_sem];intro i4 hi4;have n4:=aH hi4;have hG4:G i4=none:=acM;have c4:∀(f:Heap) (x y:Option Blk),upd (upd f id x) i4 y=upd (upd f i4 y) id x:=fun f x y=>cu f x y n4.symm
 simp only[go_sem,c4];refine(tv st hw).run ?_;simp only[go_sem];refine ht.run ?_;simp only[go_sem];intro i5 hi5;have n5:=aH hi5;have hi5' :=hi5;rw[ag _ _ n5]at hi5';have n54:=aH hi5';have m54:¬i5=i4:=n54;have m45:¬i4=i5:=n54.symm;have hG5:G i5=none:=acM;have c5:∀(f:Heap) (x y:Option Blk),upd (upd f id x) i5 y=upd (upd f i5 y) id x:=fun f x y=>cu f x y n5.symm
 have c45:∀(f:Heap) (x y:Option Blk),upd (upd f i5 x) i4 y=upd (upd f i4 y) i5 x:=fun f x y=>cu f x y n54
 simp only[go_sem,c5,ak,n5];refine(jV _ ifT h2.1).run ?_;cases d0:isD (gM (cm st).2).2 ifT
 ·have et:cp (gM (cm st).2).2 ifT=(false,(gM (cm st).2).2):=by grind [cp]
  have ec:qi (gM (cm st).2).2=([],(gM (cm st).2).2):=by grind [qi]
  have er:pJ deny st=(⟨(cm st).1,deny,(gM (cm st).2).1,[],(gm (gM (cm st).2).2).1⟩,dV (gm (gM (cm st).2).2).2 [59]):=by grind [pJ]
  rw[ec]at h4;have ho:=sI _ h2.1;simp only[aA]at ho;rw[et];simp only[go_sem];refine ho.run ?_;simp only[go_sem,c5,ak,n5];refine(kI _ [59] h4.1).run ?_;simp only[go_sem,c4,c45,ak,n4,n5,m45];exact .mk (h' :=upd G id (some (PO (dV (gm (gM (cm st).2).2).2 [59])))) (aB ⟨(cm st).1,deny,(gM (cm st).2).1,[],(gm (gM (cm st).2).2).1⟩) (gh _) (Sub.both acE _ _) ⟨by rw[er],by rw[er]⟩
 ·have et:cp (gM (cm st).2).2 ifT=(true,bg (gM (cm st).2).2):=by grind [cp]
  obtain⟨⟨cn,stc⟩,ec⟩:∃x,qi (gM (cm st).2).2=x:=⟨_,rfl⟩;have er:pJ deny st=(⟨(cm st).1,deny,(gM (cm st).2).1,cn,(gm stc).1⟩,dV (gm stc).2 [59]):=by grind [pJ]
  have hcnd:=I7 (bg (gM (cm st).2).2) (eU h2.1 (dG d0)).1;have ec2:ie (eD (bg (gM (cm st).2).2).ts.length) (bg (gM (cm st).2).2) [] false=(cn,stc):=by rw[←ec];simp only[qi,d0,if_true];rfl
  rw[ec2]at hcnd;simp only[fu]at hcnd;rw[ec]at h3 h4;have ho:=sI _ h3.1;simp only[aA]at ho;rw[et];simp only[go_sem];refine hcnd.run ?_;simp only[go_sem,c5,ak,n5];refine ho.run ?_;simp only[go_sem,c5,ak,n5];refine(kI _ [59] h4.1).run ?_;simp only[go_sem,c4,c45,ak,n4,n5,m45];exact .mk (h' :=upd G id (some (PO (dV (gm stc).2 [59])))) (aB ⟨(cm st).1,deny,(gM (cm st).2).1,cn,(gm stc).1⟩) (gh _) (Sub.both acE _ _) ⟨by rw[er],by rw[er]⟩
theorem Ou:(U 210).sz=5:=acr
theorem UJ:(U 210).bytes=96:=acr
theorem wL(l:List cP):Sized 5 (l.map aB):=fun z hz=>by
 obtain⟨c,_,rfl⟩:=List.mem_map.1 hz;rfl
theorem Ri(st:PS)(hw:WfP st)(hr:st.rules≤64):PC 156 [] st (.sl ((jS 17 st []).1.map aB) .no) (jS 17 st []).2:=.of fun G id=>by
 obtain⟨M,eM⟩:∃M,jS 17 st []=M:=⟨_,rfl⟩;rw[eM];refine ab6 Tryz.func156 51 [.tmp 2] fun hwf=>?_
 simp only[go_sem];have hB:upd G id none id=none:=ah ..;refine .intro (fun m ρ H=>∃(f:Nat) (st' :PS) (l:List cP) (y:AV),H id=some (PO st')∧Acc U 210 (upd G id none) H y (l.map aB)∧Ah st st'∧st'.rules≤64∧jS f st' l=M∧f+l.length=17∧l.length≤16∧m=f∧lk ρ 0=some (.ptr id 0)∧lk ρ 3=some y) 17 ?_ ?_
 ·refine⟨17,st,[],.sl ([].map aB) .full,ah ..,.full (base_start G id _),.refl hw,hr,eM,aci,aci,rfl,?_,?_⟩<;>simp only[go_sem]<;>rfl
 ·rintro m ρ H ⟨f,st',l,y,hH,hy,ha,hru,hfin,hf,hll,rfl,r0,r3⟩
  have hlen:=ha.1.2.2;have hpos:=ha.1.1;obtain⟨g,rfl⟩:∃g,m=g+1:=⟨m - 1,ab7⟩;simp only[go_sem,r0];refine(sW st' oW ha.1).go hH ?_;rw[bF hH];have fin:isD st' oW=false→isD st' iY=false→(l,st')=M:=fun d1 d2=>by
   grind [jS]
  have rest:isD st' oW=true∨isD st' iY=true→True:=fun _=>trivial
  cases d1:isD st' oW
  ·simp only[go_sem,r0]
   refine(sW st' iY ha.1).go hH ?_;rw[bF hH];cases d2:isD st' iY
   ·simp only[go_sem,r3]
    have e:=fin d1 d2;exact .mk (h' :=upd G id (some (PO M.2))) (.sl (M.1.map aB) .no) adf (by rw[←e];exact fq hy.1 hH) ⟨rfl,rfl⟩
   ·exact agh
  ·exact agh
theorem Ot:(U 61).sz=7:=acr
theorem UH:(U 61).bytes=128:=acr
theorem wK(l:List bH):Sized 7 (l.map aM):=fun z hz=>by
 obtain⟨c,_,rfl⟩:=List.mem_map.1 hz;cases c;rfl
theorem QM(pol:PoF)(d:Nat)(hd5:d≤5)(hp:∀st,WfP st→st.rules≤64→d≤4→PC 95 [.i d] st (aM (pol st).1) (pol st).2)(hpa:∀st,WfP st→Ah st (pol st).2)(hpr:∀st,nD st (pol st).2)
  (st:PS) (hw:WfP st) (hr:st.rules≤64):PC 155 [.i d] st (.sl ((jN pol (decide ((4:Int)<(d:Int))) 17 st []).1.map aM) .no) (jN pol (decide ((4:Int)<(d:Int))) 17 st []).2:=.of fun G id=>by
 obtain⟨M,eM⟩:∃M,jN pol (decide ((4:Int)<(d:Int))) 17 st []=M:=⟨_,rfl⟩;rw[eM];refine ab6 Tryz.func155 33 [.tmp 4] fun hwf=>?_
 simp only[go_sem];have hB:upd G id none id=none:=ah ..;refine .intro (fun m ρ H=>∃(f:Nat) (st' :PS) (l:List bH) (y:AV),H id=some (PO st')∧Acc U 61 (upd G id none) H y (l.map aM)∧Ah st st'∧st'.rules≤64∧jN pol (decide ((4:Int)<(d:Int))) f st' l=M∧f+l.length=17∧l.length≤16∧m=f∧lk ρ 0=some (.ptr id 0)∧lk ρ 1=some (.i d)∧lk ρ 5=some y) 17 ?_ ?_
 ·refine⟨17,st,[],.sl ([].map aM) .full,ah ..,.full (base_start G id _),.refl hw,hr,eM,aci,aci,rfl,?_,?_,?_⟩<;>simp only[go_sem]<;>rfl
 ·rintro m ρ H ⟨f,st',l,y,hH,hy,ha,hru,hfin,hf,hll,rfl,r0,r1,r5⟩
  have hlen:=ha.1.2.2;have hpos:=ha.1.1;obtain⟨g,rfl⟩:∃g,m=g+1:=⟨m - 1,ab7⟩;simp only[go_sem,r0];refine(sW st' oX ha.1).go hH ?_;rw[bF hH];have fin:isD st' oX=false→isD st' FG=false→(l,st')=M:=fun d1 d2=>by
   grind [jN]
  cases d1:isD st' oX
  ·simp only[go_sem,r0]
   refine(sW st' FG ha.1).go hH ?_;rw[bF hH];cases d2:isD st' FG
   ·simp only[go_sem,r5]
    have e:=fin d1 d2;exact .mk (h' :=upd G id (some (PO M.2))) (.sl (M.1.map aM) .no) adf (by rw[←e];exact fq hy.1 hH) ⟨rfl,rfl⟩
   ·have hd:isD st' oX=true∨isD st' FG=true:=by grind
    have eb:=(mB hd).1;have ek:=(mB hd).2;have db:(st'.bad !=0)=false:=ab8;have gP:=hH;unfold PO at gP;have lim:l.length=16∨decide ((4:Int)<(d:Int))=true→(l,bE st' true)=M:=fun h=>by
     rw[←hfin];simp only[jN,if_pos hd,if_pos h]
    have hdl:bE st' true=bG st' 6 (aJ st').pos:=rfl;have hlb:((bE st' true).bad !=0)=true:=by grind [bG]
    cases dA:((l.length:Int)==16)
    ·cases dB:decide ((4:Int)<(d:Int))
     ·have nA:l.length≠16:=fun e=>by grind
      have hno:¬(l.length=16∨decide ((4:Int)<(d:Int))=true):=fun h=>h.elim nA (fun e=>ab8)
      simp only[jN,if_pos hd,if_neg hno]at hfin;rw[dB]at hfin;have hd4:d≤4:=ab8;simp only[go_sem,r0,r1,r5,hy.len,abX,dA,dB];refine(cI st' false ha.1).go hH ?_;rw[show bE st' false=st' from rfl,bF hH]
      have h3:=hpa st' ha.1;have hrp:=hp st' ha.1 hru hd4;have hr3:=uJ (hpr st') hru;obtain⟨x,st2,e2⟩:∃x st2,pol st' =(x,st2):=⟨_,_,rfl⟩;rw[e2]at hfin hrp h3 hr3;obtain⟨pid,pset,palg,ptgt,prules,pkids,pobls⟩:=x;simp only[aM]at hrp hfin h3 hr3;simp only[go_sem,r0,r1,r5,gP,db];refine hrp.go hH ?_;simp only[go_sem];refine(hy.put hB hH _).app (zs:=[aM ⟨pid,pset,palg,ptgt,prules,pkids,pobls⟩]) acd acd (fun k hk=>hk) (by grind [Ot,wK]) aeq (by grind [UH]) fun y' H2 hy' hk2=>?_
      have hH2:H2 id=some (PO st2):=hk2 _ _ _ (ah ..);simp only[go_sem];refine⟨_,?_,g,st2,l++ [⟨pid,pset,palg,ptgt,prules,pkids,pobls⟩],y',hH2,ab8,ha.trans h3,hr3,hfin,ab8,ab8,rfl,?_,?_,?_⟩
      ·omega
      all_goals simp only[go_sem,r0,r1]
     ·have e:=lim (.inr dB)
      simp only[go_sem,r0,r1,r5,hy.len,abX,dA,dB];refine(cI st' true ha.1).go hH ?_;have g3:upd H id (some (PO (bE st' true))) id=some (PO (bE st' true)):=ah ..;unfold PO at g3;simp only[go_sem,r0,r5,g3,hlb,PO];exact .mk (h' :=upd G id (some (PO M.2))) (.sl (M.1.map aM) .no) adf acK ⟨rfl,rfl⟩
    ·have nA:l.length=16:=by grind
     have e:=lim (.inl nA);simp only[go_sem,r0,r5,hy.len,abX,dA];refine(cI st' true ha.1).go hH ?_;have g3:upd H id (some (PO (bE st' true))) id=some (PO (bE st' true)):=ah ..;unfold PO at g3;simp only[go_sem,r0,r5,g3,hlb,PO];exact .mk (h' :=upd G id (some (PO M.2))) (.sl (M.1.map aM) .no) adf acK ⟨rfl,rfl⟩
  ·have hd:isD st' oX=true∨isD st' FG=true:=by grind
   have eb:=(mB hd).1;have ek:=(mB hd).2;have db:(st'.bad !=0)=false:=ab8;have gP:=hH;unfold PO at gP;have lim:l.length=16∨decide ((4:Int)<(d:Int))=true→(l,bE st' true)=M:=fun h=>by
    rw[←hfin];simp only[jN,if_pos hd,if_pos h]
   have hdl:bE st' true=bG st' 6 (aJ st').pos:=rfl;have hlb:((bE st' true).bad !=0)=true:=by grind [bG]
   cases dA:((l.length:Int)==16)
   ·cases dB:decide ((4:Int)<(d:Int))
    ·have nA:l.length≠16:=fun e=>by grind
     have hno:¬(l.length=16∨decide ((4:Int)<(d:Int))=true):=fun h=>h.elim nA (fun e=>ab8)
     simp only[jN,if_pos hd,if_neg hno]at hfin;rw[dB]at hfin;have hd4:d≤4:=ab8;simp only[go_sem,r0,r1,r5,hy.len,abX,dA,dB];refine(cI st' false ha.1).go hH ?_;rw[show bE st' false=st' from rfl,bF hH]
     have h3:=hpa st' ha.1;have hrp:=hp st' ha.1 hru hd4;have hr3:=uJ (hpr st') hru;obtain⟨x,st2,e2⟩:∃x st2,pol st' =(x,st2):=⟨_,_,rfl⟩;rw[e2]at hfin hrp h3 hr3;obtain⟨pid,pset,palg,ptgt,prules,pkids,pobls⟩:=x;simp only[aM]at hrp hfin h3 hr3;simp only[go_sem,r0,r1,r5,gP,db];refine hrp.go hH ?_;simp only[go_sem];refine(hy.put hB hH _).app (zs:=[aM ⟨pid,pset,palg,ptgt,prules,pkids,pobls⟩]) acd acd (fun k hk=>hk) (by grind [Ot,wK]) aeq (by grind [UH]) fun y' H2 hy' hk2=>?_
     have hH2:H2 id=some (PO st2):=hk2 _ _ _ (ah ..);simp only[go_sem];refine⟨_,?_,g,st2,l++ [⟨pid,pset,palg,ptgt,prules,pkids,pobls⟩],y',hH2,ab8,ha.trans h3,hr3,hfin,ab8,ab8,rfl,?_,?_,?_⟩
     ·omega
     all_goals simp only[go_sem,r0,r1]
    ·have e:=lim (.inr dB)
     simp only[go_sem,r0,r1,r5,hy.len,abX,dA,dB];refine(cI st' true ha.1).go hH ?_;have g3:upd H id (some (PO (bE st' true))) id=some (PO (bE st' true)):=ah ..;unfold PO at g3;simp only[go_sem,r0,r5,g3,hlb,PO];exact .mk (h' :=upd G id (some (PO M.2))) (.sl (M.1.map aM) .no) adf acK ⟨rfl,rfl⟩
   ·have nA:l.length=16:=by grind
    have e:=lim (.inl nA);simp only[go_sem,r0,r5,hy.len,abX,dA];refine(cI st' true ha.1).go hH ?_;have g3:upd H id (some (PO (bE st' true))) id=some (PO (bE st' true)):=ah ..;unfold PO at g3;simp only[go_sem,r0,r5,g3,hlb,PO];exact .mk (h' :=upd G id (some (PO M.2))) (.sl (M.1.map aM) .no) adf acK ⟨rfl,rfl⟩
theorem DC(r:Nat)(d:Nat)(hrd:r+d=4)(hp:∀st,WfP st→st.rules≤64→d+1≤4→PC 95 [.i (d+1:Nat)] st (aM (gC r st).1) (gC r st).2)(st:PS)(hw:WfP st)(hr:st.rules≤64):
  PC 95 [.i d] st (aM (gC (r+1) st).1) (gC (r+1) st).2:=.of fun G id=>by
 have h1:=gz mD hw;have h2:=mQ h1.1;have h3:=gz wZ h2.1;have h4:=Bk h3.1;have h5:Ah _ (cS st).2:=jh [123] h4.1;have ht:=Pp _ h3.1;simp only[aV]at ht;have hrh:=uJ (DH st).big hr;have hset:(cS st).1.1=((aW st mD).1==2):=rfl;have w1:IntKind.i64.wrap ((d:Int)+1)=((d+1:Nat):Int):=acn;have hdp:(r==0)=decide ((4:Int)<((d+1:Nat):Int)):=by
  grind
 have hk:=QM (gC r) (d+1) ab7 hp (fun _ h=>wW r _ h) (BT r) _ h5.1 hrh
 have hs:=Ri _ h5.1 hrh;refine ab6 Tryz.func95 39 [.cell 4 61] fun hwf=>?_
 simp only[go_sem];intro i4 hi4;have n4:=aH hi4;have hG4:G i4=none:=acM;have c4:∀(f:Heap) (x y:Option Blk),upd (upd f id x) i4 y=upd (upd f i4 y) id x:=fun f x y=>cu f x y n4.symm
 simp only[go_sem,c4];intro i5 hi5;have n5:=aH hi5;have hi5' :=hi5;rw[ag _ _ n5]at hi5';have n54:=aH hi5';have m54:¬i5=i4:=n54;have m45:¬i4=i5:=n54.symm;have hG5:G i5=none:=acM;have c5:∀(f:Heap) (x y:Option Blk),upd (upd f id x) i5 y=upd (upd f i5 y) id x:=fun f x y=>cu f x y n5.symm
 have c45:∀(f:Heap) (x y:Option Blk),upd (upd f i5 x) i4 y=upd (upd f i4 y) i5 x:=fun f x y=>cu f x y n54
 simp only[go_sem,c5];refine(nS st mD .full acd hw).run ?_;simp only[go_sem,c5,ak,n5];refine(tv _ h1.1).run ?_;simp only[go_sem,c5,ak,n5];refine(nS _ wZ .full acd h2.1).run ?_;simp only[go_sem,c5,ak,n5];refine ht.run ?_;simp only[go_sem,c5,ak,n5];refine(kI _ [123] h4.1).run ?_;cases ds:((aW st mD).1==2)
 ·rw[ds]at hset
  simp only[go_sem,ak,n5];have eb:pF (gC r) (r==0) (cS st).1.1 (cS st).2=(((jS 17 (cS st).2 []).1,[]),(jS 17 (cS st).2 []).2):=by grind [pF]
  have hb:=Bh (fun _ h=>wW r _ h) (r==0) (cS st).1.1 h5.1
  obtain⟨⟨rl,stb⟩,er⟩:∃x,jS 17 (cS st).2 []=x:=⟨_,rfl⟩;rw[er]at eb hs;rw[eb]at hb;have ho:=sI _ (jh [125] hb.1).1;simp only[aA]at ho hs;refine hs.run ?_;simp only[go_sem,c5,ak,n5];refine(kI _ [125] hb.1).run ?_;simp only[go_sem];refine ho.run ?_;simp only[go_sem,c4,c5,c45,ak,n4,n5,m45];have efin:gC (r+1) st=(.mk (cS st).1.2.1 false (cS st).1.2.2.1 (cS st).1.2.2.2 rl [] (gm (dV stb [125])).1,(gm (dV stb [125])).2):=by grind [gC]
  exact .mk (h' :=upd G id (some (PO (gm (dV stb [125])).2))) (aM (.mk (cS st).1.2.1 false (cS st).1.2.2.1 (cS st).1.2.2.2 rl [] (gm (dV stb [125])).1)) (gh _) (Sub.both acE _ _) ⟨ab8,ab8⟩
 ·rw[ds]at hset
  simp only[go_sem,ak,n5,w1];have eb:pF (gC r) (r==0) (cS st).1.1 (cS st).2=(([],(jN (gC r) (r==0) 17 (cS st).2 []).1),(jN (gC r) (r==0) 17 (cS st).2 []).2):=by grind [pF]
  have hb:=Bh (fun _ h=>wW r _ h) (r==0) (cS st).1.1 h5.1
  rw[←hdp]at hk;obtain⟨⟨kl,stb⟩,er⟩:∃x,jN (gC r) (r==0) 17 (cS st).2 []=x:=⟨_,rfl⟩;rw[er]at eb hk;rw[eb]at hb;have ho:=sI _ (jh [125] hb.1).1;simp only[aA]at ho hk;refine hk.run ?_;simp only[go_sem,c5,ak,n5];refine(kI _ [125] hb.1).run ?_;simp only[go_sem];refine ho.run ?_;simp only[go_sem,c4,c5,c45,ak,n4,n5,m45];have efin:gC (r+1) st=(.mk (cS st).1.2.1 true (cS st).1.2.2.1 (cS st).1.2.2.2 [] kl (gm (dV stb [125])).1,(gm (dV stb [125])).2):=by grind [gC]
  exact .mk (h' :=upd G id (some (PO (gm (dV stb [125])).2))) (aM (.mk (cS st).1.2.1 true (cS st).1.2.2.1 (cS st).1.2.2.2 [] kl (gm (dV stb [125])).1)) (by simp only[aM,aX];exact gh _) (Sub.both acE _ _) ⟨ab8,ab8⟩
theorem DB:∀(r d:Nat),r+d=4→∀st,WfP st→st.rules≤64→PC 95 [.i d] st (aM (gC (r+1) st).1) (gC (r+1) st).2
 |0,d,hrd=>fun st hw hr=>DC 0 d hrd ab7 st hw hr
 |r+1,d,hrd=>fun st hw hr=>DC (r+1) d hrd (fun st hw hr _=>DB r (d+1) ab7 st hw hr) st hw hr
theorem J7(l:List (List bP))(h:Heap):ai Tryz.prog 268 [cR l] h fun r h' =>r= .i (vX l)∧h' =h:=by
 refine ab6 Tryz.func268 25 [.tmp 2] fun hwf=>?_
 simp only[go_sem,cR,abX];refine(GJ _ _).pthen ?_;cases d1:(jZ l.length !=0)
 case true=>
  have e1:jZ l.length≠0:=ab8;simp only[go_sem,d1];exact .same (.refl _) ⟨by grind [vX,ax],rfl⟩
 have e1:jZ l.length=0:=ab8;have hlen:=De e1;simp only[go_sem,d1,abX];refine .intro (fun m ρ h' =>Ab.Sub h h'∧∃i:Nat,i≤l.length∧m=l.length - i∧gZ vW (l.take i)=0∧lk ρ 13=some (cR l)∧lk ρ 14=some (.i l.length)∧lk ρ 15=some (.i i)) l.length ?_ ?_
 ·refine⟨.refl _,0,ab7,rfl,rfl,?_,?_,?_⟩<;>simp only[go_sem,cR]
 ·rintro m ρ h' ⟨hs,i,hi,rfl,hc,r12,r13,r14⟩
  simp only[go_sem,r13,r14];refine .intro (fun e=>?_) (fun e=>?_)
  ·have hlt:i<l.length:=ab4 e
   have w1:IntKind.i64.wrap ((i:Int)+1)=((i+1:Nat):Int):=acn;simp only[go_sem,r12,r14,cR];refine .at i ab8 acq ?_;simp only[go_sem,abY,iR];refine(J6 l[i] _).pthen ?_;cases d2:(vW l[i] !=0)
   ·have e2:vW l[i]=0:=by grind
    simp only[go_sem,r14,d2,w1];refine⟨_,?_,hs,i+1,ab7,rfl,vq hlt hc e2,?_,?_,?_⟩
    ·omega
    all_goals simp only[go_sem,r12,r13,cR]
   ·have e2:vW l[i]≠0:=by grind
    simp only[go_sem,d2];refine .mk _ (.refl _) hs ⟨?_,rfl⟩
    grind [vX,Ag,ax]
  ·have hge:i=l.length:=by grind
   subst hge;rw[List.take_length]at hc;simp only[go_sem];exact .mk _ (.refl _) hs ⟨by grind [vX,ax],rfl⟩
theorem uQ(l:fY)(h:Heap):ai Tryz.prog 238 [aV l] h fun r h' =>r= .i (lp l)∧h' =h:=by
 refine ab6 Tryz.func238 21 [.tmp 2] fun hwf=>?_
 cases d1:decide (8<(l.length:Int))
 case true=>
  have e1:8<l.length:=ab8;simp only[go_sem,aV,abX,d1];exact .same (.refl _) ⟨by grind [lp,ax],rfl⟩
 have e1:¬8<l.length:=ab8;simp only[go_sem,d1,aV,abX];refine .intro (fun m ρ h' =>Ab.Sub h h'∧∃i:Nat,i≤l.length∧m=l.length - i∧gZ vX (l.take i)=0∧lk ρ 9=some (aV l)∧lk ρ 10=some (.i l.length)∧lk ρ 11=some (.i i)) l.length ?_ ?_
 ·refine⟨.refl _,0,ab7,rfl,rfl,?_,?_,?_⟩<;>simp only[go_sem,aV]
 ·rintro m ρ h' ⟨hs,i,hi,rfl,hc,r12,r13,r14⟩
  simp only[go_sem,r13,r14];refine .intro (fun e=>?_) (fun e=>?_)
  ·have hlt:i<l.length:=ab4 e
   have w1:IntKind.i64.wrap ((i:Int)+1)=((i+1:Nat):Int):=acn;simp only[go_sem,r12,r14,aV];refine .at i ab8 acq ?_;simp only[go_sem,abY,cR];refine(J7 l[i] _).pthen ?_;cases d2:(vX l[i] !=0)
   ·have e2:vX l[i]=0:=by grind
    simp only[go_sem,r14,d2,w1];refine⟨_,?_,hs,i+1,ab7,rfl,vq hlt hc e2,?_,?_,?_⟩
    ·omega
    all_goals simp only[go_sem,r12,r13,aV]
   ·have e2:vX l[i]≠0:=by grind
    simp only[go_sem,d2];refine .mk _ (.refl _) hs ⟨?_,rfl⟩
    grind [lp,Ag,ax]
  ·have hge:i=l.length:=by grind
   subst hge;rw[List.take_length]at hc;simp only[go_sem];exact .mk _ (.refl _) hs ⟨by grind [lp,ax],rfl⟩
theorem BN(l:List cA)(h:Heap):ai Tryz.prog 239 [aA l] h fun r h' =>r= .i (ic l)∧h' =h:=by
 refine ab6 Tryz.func239 39 [.tmp 2] fun hwf=>?_
 cases d1:decide (8<(l.length:Int))
 case true=>
  have e1:8<l.length:=ab8;simp only[go_sem,aA,abX,d1];exact .same (.refl _) ⟨by grind [ic,ax],rfl⟩
 have e1:¬8<l.length:=ab8;simp only[go_sem,d1,aA,abX];refine .intro (fun m ρ h' =>Ab.Sub h h'∧∃i:Nat,i≤l.length∧m=l.length - i∧(l.take i).all qB=true∧lk ρ 8=some (aA l)∧lk ρ 9=some (.i l.length)∧lk ρ 10=some (.i i)) l.length ?_ ?_
 ·refine⟨.refl _,0,ab7,rfl,rfl,?_,?_,?_⟩<;>simp only[go_sem,aA]
 ·rintro m ρ h' ⟨hs,i,hi,rfl,hc,r12,r13,r14⟩
  simp only[go_sem,r13,r14];refine .intro (fun e=>?_) (fun e=>?_)
  ·have hlt:i<l.length:=ab4 e
   have w1:IntKind.i64.wrap ((i:Int)+1)=((i+1:Nat):Int):=acn;simp only[go_sem,r12,r14,aA];refine .at i ab8 acq ?_;simp only[go_sem,abY,br];intro id hid;have bad:qB l[i]=false→ic l=1:=fun hb=>by
    have:l.all qB=false:=List.all_eq_false.2 ⟨_,ab2 hlt,ab8⟩;simp[ic,e1,this]
   cases c1:decide (l[i].on<1)
   case true=>
    simp only[go_sem,c1];exact .mk _ (.refl _) (hs.new hid _) ⟨by rw[bad (by have:=abZ c1;simp[qB];omega)];rfl,rfl⟩
   cases c2:decide (2<l[i].on)
   case true=>
    simp only[go_sem,c1,c2];exact .mk _ (.refl _) (hs.new hid _) ⟨by rw[bad (by have:=abZ c2;simp[qB];omega)];rfl,rfl⟩
   cases c3:decide (l[i].kind<1)
   case true=>
    simp only[go_sem,c1,c2,c3];exact .mk _ (.refl _) (hs.new hid _) ⟨by rw[bad (by have:=abZ c3;simp[qB];omega)];rfl,rfl⟩
   cases c4:decide (4<l[i].kind)
   case true=>
    simp only[go_sem,c1,c2,c3,c4];exact .mk _ (.refl _) (hs.new hid _) ⟨by rw[bad (by have:=abZ c4;simp[qB];omega)];rfl,rfl⟩
   simp only[go_sem,c1,c2,c3,c4];refine(oR _ _).pthen ?_;cases d2:bp l[i].arg
   ·simp only[go_sem]
    exact .mk _ (.refl _) (hs.new hid _) ⟨by rw[bad (by grind [qB])];rfl,rfl⟩
   ·simp only[go_sem,r14,w1]
    refine⟨_,?_,hs.new hid _,i+1,ab7,rfl,?_,?_,?_,?_⟩
    ·omega
    ·grind [ab0,List.take_succ_eq_append_getElem,qB]
    all_goals simp only[go_sem,r12,r13,aA]
  ·have hge:i=l.length:=by grind
   subst hge;rw[List.take_length]at hc;simp only[go_sem];exact .mk _ (.refl _) hs ⟨by grind [ic,ax],rfl⟩
theorem Mu(op:Int)(h:Heap):ai Tryz.prog 296 [.i op] h fun r h' =>r=(match iC op with
  |none=> .tup [.sl [] .no,.b false]
  |some w=> .tup [.sl (w.map jJ) .no,.b true])∧h' =h:=by
 refine ab6 Tryz.func296 35 [.tmp 2,.tmp 3] fun hwf=>?_
 cases k1:(op==1)
 case true=>
  have e1:op=1:=ab8;simp only[go_sem,k1];exact .mk _ (fB _) (.refl _) ⟨afu,rfl⟩
 have n1:op≠1:=ab8;cases k2:(op==2)
 case true=>
  have e1:op=2:=ab8;simp only[go_sem,k1,k2];exact .mk _ (fB _) (.refl _) ⟨afu,rfl⟩
 have n2:op≠2:=ab8;cases k3:(op==3)
 case true=>
  have e1:op=3:=ab8;simp only[go_sem,k1,k2,k3];exact .mk _ (fB _) (.refl _) ⟨aek,rfl⟩
 have n3:op≠3:=ab8;cases k4:(op==4)
 case true=>
  have e1:op=4:=ab8;simp only[go_sem,k1,k2,k3,k4];exact .mk _ (fB _) (.refl _) ⟨aek,rfl⟩
 have n4:op≠4:=ab8;cases k5:(op==5)
 case true=>
  have e1:op=5:=ab8;simp only[go_sem,k1,k2,k3,k4,k5];exact .mk _ (fB _) (.refl _) ⟨aek,rfl⟩
 have n5:op≠5:=ab8;cases k11:(op==11)
 case true=>
  have e1:op=11:=ab8;simp only[go_sem,k1,k2,k3,k4,k5,k11];exact .mk _ (fB _) (.refl _) ⟨aek,rfl⟩
 have n11:op≠11:=ab8;cases k6:decide (6≤op)
 ·have n6:=ab0 k6
  simp only[go_sem,k1,k2,k3,k4,k5,k11,k6];exact .mk _ (fB _) (.refl _) ⟨afu,rfl⟩
 cases k13:decide (op≤13)
 ·have n13:=ab0 k13
  simp only[go_sem,k1,k2,k3,k4,k5,k11,k6,k13];exact .mk _ (fB _) (.refl _) ⟨afu,rfl⟩
 have n6:=abZ k6;have n13:=abZ k13;simp only[go_sem,k1,k2,k3,k4,k5,k11,k6,k13];exact .mk _ (fB _) (.refl _) ⟨aek,rfl⟩
theorem Ij(n:aO)(h:Heap):ai Tryz.prog 297 [dI n] h fun r h' =>r= .b (jK n)∧h' =h:=by
 refine ab6 Tryz.func297 37 [.tmp 2] fun hwf=>?_
 simp only[go_sem,dI];intro id hid;have fa:∀x y z:Bool,(x && (y && (z && true)))=(x && (y && (z && true))):=fun _ _ _=>rfl
 cases k1:(n.op==1)
 case true=>
  have e1:n.op=1:=ab8;simp only[go_sem,k1];refine(gq n.val _).pthen ?_;cases d0:bB n.val
  ·simp only[go_sem]
   exact ahn
  ·simp only[go_sem]
   exact .mk _ (.refl _) (.aj hid) ⟨by grind [jK,ax,zeroAt],rfl⟩
 have n1:n.op≠1:=ab8;cases k2:(n.op==2)
 case true=>
  have e1:n.op=2:=ab8;simp only[go_sem,k1,k2];refine(Gc n.attr _).pthen ?_;cases d0:pX n.attr
  ·simp only[go_sem]
   exact ahn
  ·simp only[go_sem]
   exact .mk _ (.refl _) (.aj hid) ⟨by grind [jK,ax,zeroV],rfl⟩
 have n2:n.op≠2:=ab8;cases d0:zeroV n.val
 ·have d1:=d0
  unfold zeroV at d1;simp only[go_sem,k1,k2,d1];exact ahn
 ·have d1:=d0
  unfold zeroV at d1;simp only[go_sem,k1,k2,d1];exact .mk _ (.refl _) (.aj hid) ⟨by grind [jK,ax,zeroAt],rfl⟩
theorem u4:(U 4).sz=1:=acr
theorem u4a:(U 4).k.agg=false:=acr
theorem u4b:(U 4).bytes=1:=acr
theorem u4f:fit (U 4).zero 1:=acj
theorem u4n:bA (U 4).zero=false:=acr
theorem Gd(l:List Bool):One (l.map jJ):=One.map (fun _=>rfl) l
theorem Of(y:AV)(st:List Bool)(n:aO)(h0 h:Heap)(hy:WrA 4 h0 h y (st.map jJ))(hl:st.length≤1000000):
  ai Tryz.prog 269 [y,dI n] h fun r h' =>∃z,r= .tup [z,.v (.bool (iB st n).isSome)]∧match iB st n with
   |none=>Ab.Sub h0 h'
   |some st' =>WrA 4 h0 h' z (st'.map jJ):=by
 refine ab6 Tryz.func269 60 [.tmp 4,.tmp 5] fun hwf=>?_
 simp only[go_sem,dI];intro id hid;simp only[go_sem];have hyb:=hy.base hid (some (.obj [.i n.op,.i n.val.kind,.i n.val.n,.s n.val.s,.i n.attr.cat,.s n.attr.name,.b n.attr.must] 215));have hw:=Mu n.op (upd h id (some (.obj [.i n.op,.i n.val.kind,.i n.val.n,.s n.val.s,.i n.attr.cat,.s n.attr.name,.b n.attr.must] 215)));cases hwd:iC n.op with
 |none=>
  rw[hwd]at hw;have hst:iB st n=none:=by grind [iB]
  refine hw.pthen ?_;exact ahK
 |some w=>
  rw[hwd]at hw;have hwl:w.length≤2:=by
   grind [iC]
  refine hw.pthen ?_;simp only[go_sem];refine(Ij n _).pthen ?_;cases d1:jK n
  ·have hst:iB st n=none:=by grind [iB]
   exact ahK
  cases d2:decide ((st.length:Int)<(w.length:Int))
  case true=>
   have e2:¬w.length≤st.length:=ab8;have hst:iB st n=none:=by grind [iB]
   simp only[go_sem,hyb.len,abX,d2];exact .mk _ (.refl _) (.aj hid) ⟨_,af2,afO⟩
  have e2:w.length≤st.length:=ab8;have w1:IntKind.i64.wrap ((st.length:Int) - (w.length:Int))=((st.length - w.length:Nat):Int):=acn;obtain⟨hb,ehb⟩:∃hb,upd h id (some (.obj [.i n.op,.i n.val.kind,.i n.val.n,.s n.val.s,.i n.attr.cat,.s n.attr.name,.b n.attr.must] 215))=hb:=⟨_,rfl⟩;have hbid:hb id=some (.obj [.i n.op,.i n.val.kind,.i n.val.n,.s n.val.s,.i n.attr.cat,.s n.attr.name,.b n.attr.must] 215):=afv;have hsub:Ab.Sub h hb:=by rw[←ehb];exact .aj hid
  rw[ehb]at hyb⊢;simp only[go_sem,hyb.len,abX,d2,w1];refine .intro (fun m ρ h' =>h' =hb∧∃i:Nat,i≤w.length∧m=w.length - i∧(∀j,j<i→st[st.length - w.length+j]? =w[j]?)∧lk ρ 0=some y∧lk ρ 3=some (.ptr id 0)∧lk ρ 8=some (.i ((st.length - w.length:Nat):Int))∧lk ρ 36=some (.sl (w.map jJ) .no)∧lk ρ 37=some (.i w.length)∧lk ρ 38=some (.i i)) w.length ?_ ?_
  ·refine⟨rfl,0,ab7,rfl,fun j hj=>ab7,?_,?_,?_,?_,?_,?_⟩<;>simp only[go_sem]
  ·rintro m ρ h' ⟨rfl,i,hi,rfl,hc,r0,r3,r8,r36,r37,r38⟩
   simp only[go_sem,r37,r38];refine .intro (fun e=>?_) (fun e=>?_)
   ·have hlt:i<w.length:=ab4 e
    have w2:IntKind.i64.wrap ((i:Int)+1)=((i+1:Nat):Int):=acn;have w3:IntKind.i64.wrap (((st.length - w.length:Nat):Int)+(i:Int))=((st.length - w.length+i:Nat):Int):=acn;have hlt2:st.length - w.length+i<st.length:=ab7;simp only[go_sem,r36,r38];refine .at i ab8 acq ?_;simp only[go_sem,r0,r8,abY,jJ,w3];refine hyb.idx (Gd st) (st.length - w.length+i) rfl ab8 u4 u4a fun p hp=>?_
    simp only[go_sem,hp _,abY,jJ];cases d3:(st[st.length - w.length+i]==w[i])
    ·have hst:iB st n=none:=by
      have:st.drop (st.length - w.length)≠w:=fun hh=>by
       grind
      simp[iB,hwd,this]
     simp only[go_sem];exact .mk _ (.refl _) hsub ⟨_,af2,afO⟩
    ·simp only[go_sem,r38,w2]
     refine⟨_,?_,rfl,i+1,ab7,rfl,fun j hj=>?_,?_,?_,?_,?_,?_,?_⟩
     ·omega
     ·grind
     all_goals simp only[go_sem,r0,r3,r8,r36,r37]
   ·have hge:i=w.length:=by grind
    subst hge;have hdrop:st.drop (st.length - w.length)=w:=by
     apply List.ext_getElem?
     grind
    have hst:iB st n=some (st.take (st.length - w.length)++ [n.op==2]):=by
     grind [iB]
    simp only[go_sem];refine .calls (hm1 id _) [0,1,2,3,4,5,6,7,8,9] (.hm1 hbid) ace rfl ?_;simp only[go_sem,r0,r8];refine hyb.cut (x:=.i64) (st.length - w.length) acr rfl aci u4 fun z hz=>?_
    rw[←List.map_take]at hz;simp only[go_sem,r3,ga];refine hz.app (zs:=[.b (n.op==2)]) (Gd _) (Gd [n.op==2]) u4 acd u4f u4n (fun k hk=>hk) (by grind [u4b]) fun z' h2 hz' =>?_
    refine⟨fun j b hj=>((Sub.hm1 (ah ..)).trans hz'.1) j b hj,?_⟩
    simp only[go_sem];have hz2:=hz'.less (Sub.aj (hy.1.none hid));refine .same (.refl _) ⟨z',af2,?_⟩;rw[hst];simp only[List.map_append];exact hz2
theorem EC{l:List aO}(h:l.length≤32)(hs:fS [] l=none):jY l=1:=by
 grind [jY,Nat.not_lt]
theorem jT(st:List Bool):∀(l:List aO) (i:Nat),fS st l=(match fS st (l.take i)with
  |none=>none
  |some st' =>fS st' (l.drop i))
 | [],i=>by simp[fS]
 |n::r,0=>acr
 |n::r,i+1=>by
  simp only[List.take_succ_cons,List.drop_succ_cons,fS];cases iB st n with
  |none=>rfl
  |some st' =>simp only;exact jT st' r i
theorem rJ(st st' :List Bool)(l:List aO)(h:fS st l=some st'):st'.length≤st.length+l.length:=by
 induction l generalizing st with
 |nil=>grind [fS,Option.some.injEq]
 |cons n r ih=>
  simp only[fS]at h;cases hs:iB st n with
  |none=>grind
  |some s2=>
   grind [iB]
theorem Gl(l:List aO)(h:Heap):ai Tryz.prog 240 [fu l] h fun r h' =>r= .i (jY l)∧h' =h:=by
 refine ab6 Tryz.func240 38 [.tmp 2] fun hwf=>?_
 cases d1:decide (32<(l.length:Int))
 case true=>
  have e1:32<l.length:=ab8;simp only[go_sem,fu,abX,d1];exact .same (.refl _) ⟨by grind [jY,ax],rfl⟩
 have e1:l.length≤32:=ab8;simp only[go_sem,fu,abX,d1];refine .intro (fun m ρ h' =>∃(i:Nat) (y:AV) (st:List Bool),WrA 4 h h' y (st.map jJ)∧fS [] (l.take i)=some st∧i≤l.length∧m=l.length - i∧
  lk ρ 0=some (fu l)∧lk ρ 3=some y∧lk ρ 10=some (fu l)∧lk ρ 11=some (.i l.length)∧lk ρ 12=some (.i i)) l.length ?_ ?_
 ·refine⟨0,_,[],.nil (.refl _),rfl,ab7,rfl,?_,?_,?_,?_,?_⟩<;>simp only[go_sem,fu]
 ·rintro m ρ h' ⟨i,y,st,hy,hst,hi,rfl,r0,r3,r10,r11,r12⟩
  have hsl:=rJ _ _ _ hst;have hsl:st.length≤i:=ab8;simp only[go_sem,r11,r12];refine .intro (fun e=>?_) (fun e=>?_)
  ·have hlt:i<l.length:=ab4 e
   have w1:IntKind.i64.wrap ((i:Int)+1)=((i+1:Nat):Int):=acn;have hnx:fS [] (l.take (i+1))=iB st l[i]:=by
    rw[jT [] _ i,List.take_take,Nat.min_eq_left ab7,hst,List.take_succ_eq_append_getElem hlt,List.drop_append_of_le_length ab8,List.drop_of_length_le ab8]
    grind [fS,iB]
   simp only[go_sem,r10,r12,fu];refine .at i ab8 acq ?_;simp only[go_sem,abY,dI];intro id hid;simp only[go_sem,r3];have hyb:=hy.sub (Sub.aj (k:=some (.obj [.i l[i].op,.i l[i].val.kind,.i l[i].val.n,.s l[i].val.s,.i l[i].attr.cat,.s l[i].attr.name,.b l[i].attr.must] 215)) hid);refine(Of y st l[i] h _ hyb ab7).mono fun r h2 ⟨z,e2,hz⟩=>?_
   subst e2;cases hsd:iB st l[i]with
   |none=>
    rw[hsd]at hz;simp only[go_sem,Option.isSome_none];refine .mk _ (.refl _) hz ⟨?_,rfl⟩;rw[EC e1 (by rw[jT [] l (i+1),hnx,hsd])];rfl
   |some st' =>
    rw[hsd]at hz hnx;simp only[go_sem,r12,Option.isSome_some,w1];refine⟨_,?_,i+1,z,st',hz,hnx,ab7,rfl,?_,?_,?_,?_,?_⟩
    ·omega
    all_goals simp only[go_sem,r0,r10,r11,fu]
  ·have hge:i=l.length:=by grind
   subst hge;rw[List.take_length]at hst;have he:jY l=if l= []∨st= [false]then 0 else 1:=by
    simp_all [jY,if_neg]
   cases d2:decide (0<(l.length:Int))
   ·have e2:l= []:=by simp_all
    simp only[go_sem,r0,fu,abX,d2];exact .mk _ (.refl _) hy.1 ⟨by rw[he,if_pos (.inl e2)];rfl,rfl⟩
   have e2:l≠ []:=ab8;cases d3:((st.length:Int) !=1)
   case true=>
    have e3:st≠ [false]:=ab8;simp only[go_sem,r0,r3,fu,abX,d2,hy.len,d3];exact .mk _ (.refl _) hy.1 ⟨by rw[he,if_neg ab8];rfl,rfl⟩
   have e3:st.length=1:=by
    grind
   obtain⟨b,rfl⟩:=List.length_eq_one_iff.1 e3;simp only[go_sem,r0,r3,fu,abX,d2,hy.len];refine hy.idx (Gd [b]) 0 rfl aci u4 u4a fun p hp=>?_
   simp only[go_sem,hp _,jJ,List.getElem_cons_zero];cases b
   ·simp only[go_sem]
    exact .mk _ (.refl _) hy.1 ⟨by rw[he,if_pos (.inr rfl)];rfl,rfl⟩
   ·simp only[go_sem]
    exact .mk _ (.refl _) hy.1 ⟨by rw[he,if_neg ab8];rfl,rfl⟩
def Keeps(S:List Nat)(h h' :Heap):Prop:=∀j k,j∉S→h j=some k→h' j=some k
theorem Keeps.trans{S:List Nat}{a b c:Heap}(x:Keeps S a b)(y:Keeps S b c):Keeps S a c:=fun j k hj e=>y j k hj (x j k hj e)
theorem Keeps.of{S:List Nat}{a b:Heap}(x:Ab.Sub a b):Keeps S a b:=fun j k _ e=>x j k e
theorem Keeps.upd{S:List Nat}{a:Heap}{i:Nat}{b:Option Blk}(hi:i∈S):Keeps S a (Ab.upd a i b):=fun j k hj e=>by
 grind [ag]
def gX(h:Heap)(idw mid:Nat)(m:eu):Prop:=h idw=some (.obj [.mp mid,.i m.rules] 247)∧h mid=some (.mp (zD m.met))∧(∀l∈m.met,l.length≤16)∧m.rules≤64
theorem gX.ne{h:Heap}{idw mid:Nat}{m:eu}(hw:gX h idw mid m):idw≠mid:=fun e=>by
 have h1:=hw.1;have h2:=hw.2.1
 rw[e,h2]at h1;cases h1
theorem gX.keep{h h' :Heap}{idw mid:Nat}{m:eu}(hw:gX h idw mid m)(hs:Ab.Sub h h'):gX h' idw mid m:=⟨hs _ _ hw.1,hs _ _ hw.2.1,hw.2.2⟩
theorem W2:(U 352).sz=0:=acr
theorem Fp{s:Txt}(h:bp s=true):s.length≤16:=by
 grind [bp]
theorem yj{m:eu}{s:Txt}(h:s∈m.met∨bp s=false):jg m s=none:=by
 unfold jg
 grind
theorem Eg(idw mid:Nat)(m:eu)(s:Txt)(h:Heap)(hw:gX h idw mid m):ai Tryz.prog 237 [.ptr idw 0,.s s] h fun r h' =>match jg m s with
  |none=>r= .b false∧Ab.Sub h h'
  |some m' =>r= .b true∧Keeps [idw,mid] h h'∧gX h' idw mid m' :=by
 refine ab6 Tryz.func237 28 [.tmp 4] fun hwf=>?_
 obtain⟨w1,w2,w3,w4⟩:=hw;have hlen:s.length≤maxLen:=by
  have:=hwf (.s s) aci;simp only[wfA,wf1,lim]at this;unfold maxLen;omega
 have hkeys:zR .str (zD m.met):=IV fun l hl=>by grind [maxLen]
 simp only[go_sem,w1,w2];refine⟨hlen,.inr acr,hkeys,?_⟩;rw[IX _ _ W2];simp only[go_sem];intro idv hidv;simp only[go_sem];cases d1:decide (s∈m.met)
 case true=>
  have hm:=yj (.inl (abZ d1));simp only[go_sem];rw[hm];exact .mk _ (.refl _) (.aj hidv) ⟨rfl,.refl _⟩
 have e1:=ab0 d1;simp only[go_sem];refine(oR _ _).pthen ?_;cases d2:bp s
 ·have hm:=yj (m:=m) (.inr d2)
  simp only[go_sem];rw[hm];exact .mk _ (.refl _) (.aj hidv) ⟨rfl,.refl _⟩
 have hm:jg m s=some ⟨m.met++ [s],m.rules⟩:=by grind [jg]
 have w1' :upd h idv (some (.obj [] 352)) idw=some (.obj [.mp mid,.i m.rules] 247):=acM;have w2' :upd h idv (some (.obj [] 352)) mid=some (.mp (zD m.met)):=acM;simp only[go_sem,w1',w2'];refine⟨hlen,hkeys,?_⟩;rw[L7 e1];rw[hm];refine .same (.refl _) ⟨rfl,(Keeps.of (.aj hidv)).trans (.upd aci),?_,?_,?_,w4⟩
 ·grind [ag]
 ·rw[ah]
 grind [List.mem_singleton,Fp]
theorem My(idw mid:Nat)(m:eu)(r:cP)(h:Heap)(hw:gX h idw mid m):ai Tryz.prog 204 [.ptr idw 0,aB r] h fun x h' =>x= .v (.int .i64 (gp m r).err)∧Keeps [idw,mid] h h'∧∀m',gp m r= .ok m'→gX h' idw mid m' :=by
 refine ab6 Tryz.func204 39 [.tmp 4] fun hwf=>?_
 simp only[go_sem,aB,aV,fu,aA];intro id hid;have n1:idw≠id:=fun e=>by have:=hw.1;rw[e,hid]at this;cases this
 have n2:mid≠id:=fun e=>by have:=hw.2.1;rw[e,hid]at this;cases this
 have hwb:=hw.keep (Sub.aj (k:=some (.obj [.s r.id,.b r.deny,.sl (r.tgt.map cR) .no,.sl (r.cond.map dI) .no,.sl (r.obls.map br) .no] 210)) hid);have hk0:Keeps [idw,mid] h (upd h id (some (.obj [.s r.id,.b r.deny,.sl (r.tgt.map cR) .no,.sl (r.cond.map dI) .no,.sl (r.obls.map br) .no] 210))):=.of (.aj hid);simp only[go_sem];obtain⟨hb,ehb⟩:∃hb,upd h id (some (.obj [.s r.id,.b r.deny,.sl (r.tgt.map cR) .no,.sl (r.cond.map dI) .no,.sl (r.obls.map br) .no] 210))=hb:=⟨_,rfl⟩;have hbid:hb id=some (.obj [.s r.id,.b r.deny,.sl (r.tgt.map cR) .no,.sl (r.cond.map dI) .no,.sl (r.obls.map br) .no] 210):=afv;rw[ehb]at hwb hk0⊢;refine(Eg idw mid m r.id hb hwb).mono fun x h2 hx=>?_
 cases hm:jg m r.id with
 |none=>
  rw[hm]at hx;obtain⟨rfl,hs⟩:=hx;have hr:gp m r= .bad 1:=by grind [gp]
  simp only[go_sem];exact .same (.refl _) ⟨af8,hk0.trans (.of hs),fun m' h' =>ab8⟩
 |some m1=>
  rw[hm]at hx;obtain⟨rfl,hk,hw2⟩:=hx;have g2:=hw2.1;have hle:=hw2.2.2.2;have hid2:h2 id=some (.obj [.s r.id,.b r.deny,.sl (r.tgt.map cR) .no,.sl (r.cond.map dI) .no,.sl (r.obls.map br) .no] 210):=hk id _ ab8 hbid;have w1:IntKind.i64.wrap ((m1.rules:Int)+1)=((m1.rules+1:Nat):Int):=acn;have hk3:Keeps [idw,mid] h (upd h2 idw (some (.obj [.mp mid,.i ((m1.rules+1:Nat):Int)] 247))):=(hk0.trans hk).trans (.upd aci);have hid3:upd h2 idw (some (.obj [.mp mid,.i ((m1.rules+1:Nat):Int)] 247)) id=some (.obj [.s r.id,.b r.deny,.sl (r.tgt.map cR) .no,.sl (r.cond.map dI) .no,.sl (r.obls.map br) .no] 210):=by
   grind [ag]
  cases d1:decide (64<((m1.rules+1:Nat):Int))
  case true=>
   have e1:m1.rules+1>64:=ab8;have hr:gp m r= .bad 6:=by grind [gp]
   simp only[go_sem,g2,w1,d1];exact ag3
  have e1:¬m1.rules+1>64:=ab8;have hr:gp m r=need (lp r.tgt) (need (jY r.cond) (need (ic r.obls) (.ok ⟨m1.met,m1.rules+1⟩))):=by grind [gp]
  simp only[go_sem,g2,w1,d1,hid3];refine(uQ r.tgt _).pthen ?_;cases d2:(lp r.tgt !=0)
  case true=>
   have e2:lp r.tgt≠0:=ab8;have hr:gp m r= .bad (lp r.tgt):=by grind [need]
   simp only[go_sem,d2];exact ag3
  have e2:lp r.tgt=0:=ab8;rw[need,if_pos e2]at hr;simp only[go_sem,d2,hid3];refine(Gl r.cond _).pthen ?_;cases d3:(jY r.cond !=0)
  case true=>
   have e3:jY r.cond≠0:=ab8;have hr:gp m r= .bad (jY r.cond):=by grind [need]
   simp only[go_sem,d3];exact ag3
  have e3:jY r.cond=0:=ab8;rw[need,if_pos e3]at hr;simp only[go_sem,d3,hid3];refine(BN r.obls _).pthen ?_;simp only[go_sem]
  by_cases e4:ic r.obls=0
  ·rw[need,if_pos e4]at hr
   refine .same (.refl _) ⟨by rw[hr,e4];rfl,hk3,fun m' h' =>?_⟩
   rw[hr]at h';cases h';refine⟨ah ..,?_,hw2.2.2.1,ab8⟩;rw[ag _ _ hw2.ne.symm];exact hw2.2.1
  ·rw[need,if_neg e4]at hr
   exact ag3
theorem xP{m:eu}{id:Txt}{set:Bool}{alg:Int}{tgt:fY}{nr nk:Nat}{obls:List cA}(h:jg m id=none):fj m id set alg tgt nr nk obls= .bad 1:=by
 grind [fj]
theorem Mw(idw mid:Nat)(m:eu)(id:Txt)(set:Bool)(alg:Int)(tgt:fY)(rules:List cP)(kids:List bH)(obls:List cA)(h:Heap)(hw:gX h idw mid m):
  ai Tryz.prog 203 [.ptr idw 0,aM (.mk id set alg tgt rules kids obls)] h fun x h' =>x= .v (.int .i64 (fj m id set alg tgt rules.length kids.length obls).err)∧Keeps [idw,mid] h h'∧∀m',fj m id set alg tgt rules.length kids.length obls= .ok m'→gX h' idw mid m' :=by
 refine ab6 Tryz.func203 68 [.tmp 4] fun hwf=>?_
 simp only[go_sem,aM,aV,aA];intro ip hip;have n1:idw≠ip:=fun e=>by have:=hw.1;rw[e,hip]at this;cases this
 have n2:mid≠ip:=fun e=>by have:=hw.2.1;rw[e,hip]at this;cases this
 have hwb:=hw.keep (Sub.aj (k:=some (.obj [.s id,.b set,.i alg,.sl (tgt.map cR) .no,.sl (rules.map aB) .no,.sl (fF kids) .no,.sl (obls.map br) .no] 61)) hip);have hk0:Keeps [idw,mid] h (upd h ip (some (.obj [.s id,.b set,.i alg,.sl (tgt.map cR) .no,.sl (rules.map aB) .no,.sl (fF kids) .no,.sl (obls.map br) .no] 61))):=.of (.aj hip);simp only[go_sem];obtain⟨hb,ehb⟩:∃hb,upd h ip (some (.obj [.s id,.b set,.i alg,.sl (tgt.map cR) .no,.sl (rules.map aB) .no,.sl (fF kids) .no,.sl (obls.map br) .no] 61))=hb:=⟨_,rfl⟩;have hbip:hb ip=some (.obj [.s id,.b set,.i alg,.sl (tgt.map cR) .no,.sl (rules.map aB) .no,.sl (fF kids) .no,.sl (obls.map br) .no] 61):=afv;rw[ehb]at hwb hk0⊢;refine(Eg idw mid m id hb hwb).mono fun x h2 hx=>?_
 cases hm:jg m id with
 |none=>
  rw[hm]at hx;obtain⟨rfl,hs⟩:=hx;simp only[go_sem];exact .same (.refl _) ⟨by rw[xP hm];rfl,hk0.trans (.of hs),fun m' h' =>by rw[xP hm]at h';cases h'⟩
 |some m1=>
  rw[hm]at hx;obtain⟨rfl,hk,hw2⟩:=hx;have hip2:h2 ip=some (.obj [.s id,.b set,.i alg,.sl (tgt.map cR) .no,.sl (rules.map aB) .no,.sl (fF kids) .no,.sl (obls.map br) .no] 61):=hk ip _ (by simp[n1.symm,n2.symm]) hbip
  have hkk:=hk0.trans hk;have bad:∀e,fj m id set alg tgt rules.length kids.length obls= .bad e→(.i e:AV)= .v (.int .i64 (fj m id set alg tgt rules.length kids.length obls).err)∧Keeps [idw,mid] h h2∧∀m',fj m id set alg tgt rules.length kids.length obls= .ok m'→gX h2 idw mid m' :=
   fun e he=>⟨by rw[he];rfl,hkk,fun m' h' =>by rw[he]at h';cases h'⟩
  cases d1:decide (alg<1)
  case true=>
   have e1:=abZ d1;simp only[go_sem,d1,hip2];exact .same (.refl _) (bad 1 (by simp[fj,hm,e1]))
  cases d2:decide (6<alg)
  case true=>
   have e2:=abZ d2;simp only[go_sem,d1,d2,hip2];exact .same (.refl _) (bad 1 (by simp[fj,hm,e2]))
  have e1:¬(alg<1∨alg>6):=by have:=ab0 d1;have:=ab0 d2;omega
  have tail:∀(z:Unit),¬(set=true∧rules.length>0∨set=false∧(kids.length>0∨alg=4))→fj m id set alg tgt rules.length kids.length obls=need (lp tgt) (need (ic obls) (if rules.length>16∨kids.length>16 then .bad 6 else .ok m1)):=fun _ hh=>by
   simp only[fj,hm];rw[if_neg e1,if_neg hh]
  cases set
  ·cases d4:decide (0<(kids.length:Int))
   case true=>
    have f4:0<kids.length:=by have:=abZ d4;omega
    simp -implicitDefEqProofs only[go_sem,d1,d2,hip2,aX,abX,d4];exact .same (.refl _) (bad 1 (by simp[fj,hm,e1,f4]))
   have g4:¬0<kids.length:=by have:=ab0 d4;omega
   cases d5:(alg==4)
   case true=>
    have f5:alg=4:=by simpa using d5
    simp -implicitDefEqProofs only[go_sem,d1,d2,hip2,aX,abX,d4,d5];exact .same (.refl _) (bad 1 (by simp[fj,hm,f5]))
   have g5:alg≠4:=by simpa using d5
   simp -implicitDefEqProofs only[go_sem,d1,d2,hip2,aX,abX,d4,d5];have e3:=tail () (by simp[g4,g5])
   refine(uQ tgt _).pthen ?_;cases t1:(lp tgt !=0)
   case true=>
    exact ahk
   have f1:lp tgt=0:=by simpa using t1
   simp only[go_sem,t1,hip2];refine(BN obls _).pthen ?_;cases t2:(ic obls !=0)
   case true=>
    exact ahg
   have f2:ic obls=0:=by simpa using t2
   cases t3:decide (16<(rules.length:Int))
   case true=>
    exact ag6
   have f3:¬16<rules.length:=by have:=ab0 t3;omega
   cases t4:decide (16<(kids.length:Int))
   case true=>
    exact ag4
   have f4:¬16<kids.length:=by have:=ab0 t4;omega
   simp only[go_sem,t2,hip2,abX,t3,aX,t4];have e4:fj m id false alg tgt rules.length kids.length obls= .ok m1:=by rw[e3];simp[need,f1,f2,f3,f4]
   exact ahx
  ·cases d3:decide (0<(rules.length:Int))
   case true=>
    have f3:0<rules.length:=by have:=abZ d3;omega
    simp -implicitDefEqProofs only[go_sem,d1,d2,hip2,abX,d3];exact .same (.refl _) (bad 1 (by simp[fj,hm,e1,f3]))
   have g3:¬0<rules.length:=by have:=ab0 d3;omega
   simp -implicitDefEqProofs only[go_sem,d1,d2,hip2,abX,d3];have e3:=tail () (by simp[g3])
   refine(uQ tgt _).pthen ?_;cases t1:(lp tgt !=0)
   case true=>
    exact ahk
   have f1:lp tgt=0:=by simpa using t1
   simp only[go_sem,t1,hip2];refine(BN obls _).pthen ?_;cases t2:(ic obls !=0)
   case true=>
    exact ahg
   have f2:ic obls=0:=by simpa using t2
   cases t3:decide (16<(rules.length:Int))
   case true=>
    exact ag6
   have f3:¬16<rules.length:=by have:=ab0 t3;omega
   cases t4:decide (16<(kids.length:Int))
   case true=>
    exact ag4
   have f4:¬16<kids.length:=by have:=ab0 t4;omega
   simp only[go_sem,t2,hip2,abX,t3,aX,t4];have e4:fj m id true alg tgt rules.length kids.length obls= .ok m1:=by rw[e3];simp[need,f1,f2,f3,f4]
   exact ahx
theorem LJ(k:bH):(aM k).cells.length=7:=by
 cases k;rfl
theorem uE{m:eu}{d:Nat}{p:bH}(h:4<d):kr m d p= .bad 6:=by
 cases p;grind [kr]
theorem uF{m:eu}{d:Nat}{id:Txt}{set:Bool}{alg:Int}{tgt:fY}{rules:List cP}{kids:List bH}{obls:List cA}{e:Int}(h:¬4<d)
  (hh:fj m id set alg tgt rules.length kids.length obls= .bad e):kr m d (.mk id set alg tgt rules kids obls)= .bad e:=by
 grind [kr]
theorem yB{m m1:eu}{d:Nat}{id:Txt}{set:Bool}{alg:Int}{tgt:fY}{rules:List cP}{kids:List bH}{obls:List cA}{e:Int}(h:¬4<d)
  (hh:fj m id set alg tgt rules.length kids.length obls= .ok m1) (hr:fA m1 rules= .bad e):kr m d (.mk id set alg tgt rules kids obls)= .bad e:=by
 grind [kr]
theorem AH{m m1 m2:eu}{d:Nat}{id:Txt}{set:Bool}{alg:Int}{tgt:fY}{rules:List cP}{kids:List bH}{obls:List cA}(h:¬4<d)
  (hh:fj m id set alg tgt rules.length kids.length obls= .ok m1) (hr:fA m1 rules= .ok m2):kr m d (.mk id set alg tgt rules kids obls)=iM m2 (d+1) kids:=by
 grind [kr]
theorem tC:∀(n d:Nat) (m:eu) (p:bH) (e:Int),d+n=5→kr m d p= .bad e→e≠0
 |0,d,m,p,e,hd,h=>by grind [uE]
 |n+1,d,m,.mk id set alg tgt rules kids obls,e,hd,h=>by
  by_cases h4:4<d
  ·omega
  cases hh:fj m id set alg tgt rules.length kids.length obls with
  |bad e' =>grind [uF,Al]
  |ok m1=>
   cases hr:fA m1 rules with
   |bad e' =>
    rw[yB h4 hh hr]at h;cases h
    clear hh hd
    induction rules generalizing m1 with
    |nil=>cases hr
    |cons r l ih=>
     grind [fA,gp,AQ]
   |ok m2=>
    rw[AH h4 hh hr]at h;have ih:=fun m p e=>tC n (d+1) m p e ab7
    clear hh hr
    induction kids generalizing m2 with
    |nil=>cases h
    |cons k l ihk=>
     simp only[iM]at h;cases hx:kr m2 (d+1) k with
     |bad x=>rw[hx]at h;cases h;exact ih _ _ _ hx
     |ok m3=>rw[hx]at h;exact ihk m3 h
theorem GO{e:Int}{w:Went}{m:eu}(h:need e w= .ok m):e=0∧w= .ok m:=by
 grind [need]
theorem KO{m m1:eu}{id:Txt}{set:Bool}{alg:Int}{tgt:fY}{nr nk:Nat}{obls:List cA}(h:fj m id set alg tgt nr nk obls= .ok m1):
  jg m id=some m1∧1≤alg∧alg≤6∧(set=true→nr=0)∧(set=false→nk=0∧alg≠4)∧lp tgt=0∧ic obls=0∧nr≤16∧nk≤16:=by
 unfold fj at h;split at h
 ·cases h
 split at h
 ·cases h
 split at h
 ·cases h
 obtain⟨h3,h⟩:=GO h;obtain⟨h4,h⟩:=GO h
 grind
theorem HC:∀(n d:Nat),d+n=5→∀(idw mid:Nat) (m:eu) (p:bH) (h:Heap),gX h idw mid m→
  ai Tryz.prog 158 [.ptr idw 0,aM p,.i d] h fun x h' =>x= .v (.int .i64 (kr m d p).err)∧Keeps [idw,mid] h h'∧∀m',kr m d p= .ok m'→gX h' idw mid m'
 |n,d,hd,idw,mid,m,.mk id set alg tgt rules kids obls,h,hw=>by
  refine ab6 Tryz.func158 52 [.tmp 6] fun hwf=>?_
  simp only[go_sem,aM,aV,aA];intro ip hip;have n1:idw≠ip:=fun e=>by have:=hw.1;rw[e,hip]at this;cases this
  have n2:mid≠ip:=fun e=>by have:=hw.2.1;rw[e,hip]at this;cases this
  have hwb:=hw.keep (Sub.aj (k:=some (.obj [.s id,.b set,.i alg,.sl (tgt.map cR) .no,.sl (rules.map aB) .no,.sl (fF kids) .no,.sl (obls.map br) .no] 61)) hip);have hk0:Keeps [idw,mid] h (upd h ip (some (.obj [.s id,.b set,.i alg,.sl (tgt.map cR) .no,.sl (rules.map aB) .no,.sl (fF kids) .no,.sl (obls.map br) .no] 61))):=.of (.aj hip);obtain⟨hb,ehb⟩:∃hb,upd h ip (some (.obj [.s id,.b set,.i alg,.sl (tgt.map cR) .no,.sl (rules.map aB) .no,.sl (fF kids) .no,.sl (obls.map br) .no] 61))=hb:=⟨_,rfl⟩;have hbip:hb ip=some (.obj [.s id,.b set,.i alg,.sl (tgt.map cR) .no,.sl (rules.map aB) .no,.sl (fF kids) .no,.sl (obls.map br) .no] 61):=afv;rw[ehb]at hwb hk0⊢;cases d0:decide (4<(d:Int))
  case true=>
   have e0:4<d:=ab8;simp only[go_sem,d0];exact .same (.refl _) ⟨by rw[uE e0];rfl,hk0,fun m' h' =>by grind [uE]⟩
  have e0:¬4<d:=ab8;simp only[go_sem,d0,hbip];have hhead:=Mw idw mid m id set alg tgt rules kids obls hb hwb;simp only[aM,aV,aA]at hhead;refine hhead.mono fun x h2 ⟨ex,hk,hw2⟩=>?_
  subst ex;have hk2:=hk0.trans hk;cases hh:fj m id set alg tgt rules.length kids.length obls with
  |bad e=>
   have hne:=Al hh;have t1:(e !=0)=true:=ab8;simp only[go_sem,Went.err,t1];exact .same (.refl _) ⟨by rw[uF e0 hh];rfl,hk2,fun m' h' =>by grind [uF]⟩
  |ok m1=>
   have hw2:=hw2 _ hh;have hle:=(KO hh).2.2.2.2.2.2.2;have hip2:=hk ip _ ab8 hbip;simp only[go_sem,Went.err,hip2,abX];refine .intro (fun k ρ h' =>∃(i:Nat) (mi:eu),i≤rules.length∧k=rules.length - i∧fA m1 (rules.take i)= .ok mi∧Keeps [idw,mid] h h'∧gX h' idw mid mi∧
    h' ip=some (.obj [.s id,.b set,.i alg,.sl (tgt.map cR) .no,.sl (rules.map aB) .no,.sl (fF kids) .no,.sl (obls.map br) .no] 61)∧
    lk ρ 0=some (.ptr idw 0)∧lk ρ 2=some (.i d)∧lk ρ 4=some (.ptr ip 0)∧lk ρ 23=some (.sl (rules.map aB) .no)∧lk ρ 24=some (.i rules.length)∧lk ρ 25=some (.i i)) rules.length ?_ ?_
   ·refine⟨0,m1,ab7,rfl,rfl,hk2,hw2,hip2,?_,?_,?_,?_,?_,?_⟩<;>simp only[go_sem]
   ·rintro k ρ h' ⟨i,mi,hi,rfl,hri,hki,hwi,hipi,r0,r2,r4,r23,r24,r25⟩
    simp only[go_sem,r24,r25];refine .intro (fun e=>?_) (fun e=>?_)
    ·have hlt:i<rules.length:=ab4 e
     have w1:IntKind.i64.wrap ((i:Int)+1)=((i+1:Nat):Int):=acn;simp only[go_sem,r23,r25];refine .at i ab8 acq ?_;simp only[go_sem,abY,aB];intro ir hir;have hrl:=My idw mid mi rules[i] _ (hwi.keep (Sub.aj (k:=some (.obj [.s rules[i].id,.b rules[i].deny,aV rules[i].tgt,fu rules[i].cond,aA rules[i].obls] 210)) hir));simp only[aB]at hrl;simp only[go_sem,r0];refine hrl.mono fun x h3 ⟨ex,hk3,hw3⟩=>?_
     subst ex;have hk4:=(hki.trans (.of (Sub.aj hir))).trans hk3;have hip3:=hk3 ip _ ab8 ((Sub.aj hir) _ _ hipi);cases hx:gp mi rules[i]with
     |bad x=>
      have t1:(x !=0)=true:=by grind [AQ]
      simp only[go_sem,Went.err,t1];have hp:=yB (d:=d) (kids:=kids) e0 hh (DP hlt hri hx);exact .same (.refl _) ⟨by rw[hp];rfl,hk4,fun m' h' =>ab8⟩
     |ok m3=>
      simp only[go_sem,r25,Went.err,w1];refine⟨_,?_,i+1,m3,ab7,rfl,by grind [vK],hk4,hw3 _ hx,hip3,?_,?_,?_,?_,?_,?_⟩
      ·omega
      all_goals simp only[go_sem,r0,r2,r4,r23,r24]
    ·have hge:i=rules.length:=by grind
     subst hge;rw[List.take_length]at hri;have hpk:=AH (d:=d) (kids:=kids) e0 hh hri;simp only[go_sem,r4,hipi,aX,abX];refine .intro (fun k ρ h' =>∃(i:Nat) (mj:eu),i≤kids.length∧k=kids.length - i∧iM mi (d+1) (kids.take i)= .ok mj∧Keeps [idw,mid] h h'∧gX h' idw mid mj∧
      lk ρ 0=some (.ptr idw 0)∧lk ρ 2=some (.i d)∧lk ρ 37=some (.sl (kids.map aM) .no)∧lk ρ 38=some (.i kids.length)∧lk ρ 39=some (.i i)) kids.length ?_ ?_
     ·refine⟨0,mi,ab7,rfl,rfl,hki,hwi,?_,?_,?_,?_,?_⟩<;>simp only[go_sem,r0,r2]
     ·rintro k ρ h' ⟨i,mj,hi,rfl,hkj,hki,hwi,r0,r2,r37,r38,r39⟩
      simp only[go_sem,r38,r39];refine .intro (fun e=>?_) (fun e=>?_)
      ·have hlt:i<kids.length:=ab4 e
       have w1:IntKind.i64.wrap ((i:Int)+1)=((i+1:Nat):Int):=acn;have w2:IntKind.i64.wrap ((d:Int)+1)=((d+1:Nat):Int):=acn;obtain⟨n',rfl⟩:∃n',n=n' +1:=⟨n - 1,ab7⟩;have hrec:=HC n' (d+1) ab7 idw mid mj kids[i];cases hki' :kids[i]with
       |mk kid kset kalg ktgt krules kkids kobls=>
       rw[hki']at hrec;simp only[aM,aV,aA]at hrec;simp only[go_sem,r37,r39];refine .at i ab8 (by grind [LJ]) ?_
       simp only[go_sem,abY,hki',aM,aV,aA];intro ir hir;simp only[go_sem,r0,r2,w2];refine(hrec _ (hwi.keep (Sub.aj hir))).mono fun x h3 ⟨ex,hk3,hw3⟩=>?_
       subst ex;have hk4:=(hki.trans (.of (Sub.aj hir))).trans hk3;cases hx:kr mj (d+1) (.mk kid kset kalg ktgt krules kkids kobls)with
       |bad x=>
        have t1:(x !=0)=true:=by simpa using tC n' (d+1) _ _ _ ab7 hx
        simp only[go_sem,Went.err,t1];have hp:=Fg hlt hkj (by rw[hki'];exact hx)
        exact .same (.refl _) ⟨by rw[hpk,hp];rfl,hk4,fun m' h' =>ab8⟩
       |ok m3=>
        simp only[go_sem,r39,Went.err,w1];refine⟨_,?_,i+1,m3,ab7,rfl,by grind [xV],hk4,hw3 _ hx,?_,?_,?_,?_,?_⟩
        ·omega
        all_goals simp only[go_sem,r0,r2,r37,r38]
      ·have hge:i=kids.length:=by grind
       subst hge;rw[List.take_length]at hkj;simp only[go_sem];exact .same (.refl _) ⟨by rw[hpk,hkj];rfl,hki,fun m' h' =>ab8⟩
theorem Fq{h:Heap}{i j:Nat}{b:Blk}(e:upd h i (some b) j=none):j≠i:=fun hh=>by
 subst hh;rw[ah]at e;cases e
theorem tH(p:bH)(h:Heap):ai Tryz.prog 98 [aM p] h fun r h' =>r= .i (gx p)∧h' =h:=by
 cases p with
 |mk id set alg tgt rules kids obls=>
 refine ab6 Tryz.func98 10 [.tmp 2] fun hwf=>?_
 simp only[go_sem,aM,aV,aA];intro ip hip;simp only[go_sem];intro im him;simp only[go_sem];intro iw hiw;have n1:=Fq him;have n2:=Fq hiw;have hiw1:=hiw;rw[ag _ _ n2]at hiw1;have n3:=Fq hiw1;have s1:Ab.Sub h (upd (upd (upd h ip (some (.obj [.s id,.b set,.i alg,.sl (tgt.map cR) .no,.sl (rules.map aB) .no,.sl (fF kids) .no,.sl (obls.map br) .no] 61))) im (some (.mp []))) iw (some (.obj [.mp im,.i 0] 247))):=
  ((Sub.aj hip).trans (.aj him)).trans (.aj hiw)
 obtain⟨h3,e3⟩:∃h3,upd (upd (upd h ip (some (.obj [.s id,.b set,.i alg,.sl (tgt.map cR) .no,.sl (rules.map aB) .no,.sl (fF kids) .no,.sl (obls.map br) .no] 61))) im (some (.mp []))) iw (some (.obj [.mp im,.i 0] 247))=h3:=⟨_,rfl⟩;have g1:h3 ip=some (.obj [.s id,.b set,.i alg,.sl (tgt.map cR) .no,.sl (rules.map aB) .no,.sl (fF kids) .no,.sl (obls.map br) .no] 61):=by
  rw[←e3,ag _ _ n3.symm,ag _ _ n1.symm,ah]
 have g2:gX h3 iw im ⟨[],0⟩:=by
  refine⟨by rw[←e3,ah];rfl,by rw[←e3,ag _ _ n2.symm,ah];rfl,fun l hl=>ab8,acd⟩
 have hi0:h im=none:=acM;have hw0:h iw=none:=acM;simp only[go_sem];rw[e3]at s1⊢;simp only[go_sem,g1];have hp:=HC 4 1 rfl iw im ⟨[],0⟩ (.mk id set alg tgt rules kids obls) h3 g2;refine hp.mono fun x h4 ⟨ex,hk,_⟩=>?_
 subst ex;simp only[go_sem];refine .mk _ (.refl _) (fun j k hj=>?_) ⟨rfl,rfl⟩
 refine hk j k ?_ (s1 _ _ hj)
 grind
def jR(x:bH×Int×Int):AV:=.tup [aM x.1,.i x.2.1,.i x.2.2]
theorem jv(a b c:AV)(h:Weak a b)(d:AV):Weak (.tup [a,c,d]) (.tup [b,c,d]):=.tup _ _ rfl fun i h1 h2=>by
 rcases i with _|_|_|i
 ·exact h
 ·exact adu
 ·exact adu
 grind
theorem yu(s:Txt)(h:Heap)(he:j7 h):ai Tryz.prog 49 [.s s] h fun r h' =>r=jR (aQ s)∧h' =h:=by
 refine ab6 Tryz.func49 61 [.cell 2 61,.tmp 3,.tmp 4] fun hwf=>?_
 simp only[go_sem];intro i2 hi2;simp only[go_sem];refine(Eo s _ (he.sub (.aj hi2))).pthen ?_;cases el:rW s with
 |bad e a=>
  have e1:=ya el;have d1:(e !=0)=true:=by
   grind
  have efin:aQ s=(ov,e,a):=by grind [aQ]
  simp only[go_sem,NK,d1];rw[efin];exact .mk (h' :=h) (jR (ov,e,a)) (jv _ _ _ (gh _) _) (.aj hi2) ⟨rfl,rfl⟩
 |ok ts=>
  have efin:aQ s=yt s ts:=by grind [aQ]
  have hw:=JM el 0 0 0;have hpol:=DB 3 1 rfl ⟨ts,0,0,0,0⟩ hw (Nat.zero_le _);have hap:=wW 4 ⟨ts,0,0,0,0⟩ hw;obtain⟨⟨⟨pid,pset,palg,ptgt,prules,pkids,pobls⟩,st1⟩,ep⟩:∃x,gC 4 ⟨ts,0,0,0,0⟩=x:=⟨_,rfl⟩;rw[show 3+1=4 from rfl,ep]at hpol
  rw[ep]at hap;simp only[aM]at hpol hap;simp only[yt,ep]at efin;simp only[go_sem,NK];intro i8 hi8;have n8:=aH hi8;have m82:¬i8=i2:=n8;have m28:¬i2=i8:=fun e=>n8 e.symm
  have hh8:h i8=none:=acM;simp only[go_sem];refine hpol.go (ah ..) ?_;rw[nu];simp only[go_sem];intro i9 hi9;have n9:=aH hi9;have hi9' :=hi9;rw[ag _ _ n9]at hi9';have n92:=aH hi9';have m92:¬i9=i2:=n92;have m29:¬i2=i9:=fun e=>n92 e.symm
  have m98:¬i9=i8:=n9;have m89:¬i8=i9:=fun e=>n9 e.symm
  have hh9:h i9=none:=acM;have c9:∀(f:Heap) (x y:Option Blk),upd (upd f i8 x) i9 y=upd (upd f i9 y) i8 x:=fun f x y=>cu f x y n9.symm
  simp only[go_sem,c9,ak,m98];refine(lT st1 hap.1).run ?_;have subs:∀x y z,Sub h (upd (upd (upd h i2 x) i9 y) i8 z):=fun x y z=>((Sub.aj hi2).put hh9 _).put hh8 _
  cases d1:((aJ st1).kind !=7)
  ·have k1:(aJ st1).kind=7:=by grind
   have e2:(if(aJ st1).kind=7 then st1 else bl st1)=st1:=if_pos k1
   simp only[go_sem,fJ,d1];cases db:((st1).bad==0)
   ·have eb:(st1).bad≠0:=by grind
    simp only[go_sem,PO,db];have eend:pO s (.mk pid pset palg ptgt prules pkids pobls,st1)=st1:=by
     simp_all [pO,if_neg]
    have hbb:(st1).bad≠0:=eb;have dn:((st1).bad !=0)=true:=ab8;simp only[go_sem,dn];refine .calls (hm1 i8 (PO (st1))) [0,1,2,3,4,5,6,7,8,9,10,11] (.hm1 (ah ..)) ace rfl ?_;simp only[go_sem,ak,m28,m29,PO,ga];refine⟨.hm1 ((ag _ _ n8).trans (ah ..)),?_⟩;have efin2:aQ s=(ov,(st1).bad,(st1).place):=ab8;rw[efin2];exact .mk (h' :=h) (jR (ov,(st1).bad,(st1).place)) (jv _ _ _ (gh _) _) (Sub.put (subs _ _ _) hi2 _) ⟨rfl,rfl⟩
   ·have eb:(st1).bad=0:=by grind
    simp only[go_sem,ak,m98,PO,db];refine(tH (.mk pid pset palg ptgt prules pkids pobls) _).pthen ?_;cases dr:(gx (.mk pid pset palg ptgt prules pkids pobls) !=0)
    ·have er:gx (.mk pid pset palg ptgt prules pkids pobls)=0:=by grind
     have dn:((st1).bad !=0)=false:=ab8;simp only[go_sem,ak,m28,m29,m98,dr,dn];have eend:pO s (.mk pid pset palg ptgt prules pkids pobls,st1)=st1:=by
      simp_all [pO,if_neg]
     exact ahH
    ·have er:gx (.mk pid pset palg ptgt prules pkids pobls)≠0:=by grind
     simp only[go_sem,dr];refine(qS (st1) 5 s.length).run ?_;have eend:pO s (.mk pid pset palg ptgt prules pkids pobls,st1)=bG (st1) 5 s.length:=by
      simp_all [pO,if_pos]
     have hwb:bG (st1) 5 s.length= {(st1)with bad:=5,place:=s.length}:=by rw[bG,if_pos eb]
     have hbb:(bG (st1) 5 s.length).bad≠0:=ab8;have dn:((bG (st1) 5 s.length).bad !=0)=true:=ab8;simp only[go_sem,PO,dn];refine .calls (hm1 i8 (PO (bG (st1) 5 s.length))) [0,1,2,3,4,5,6,7,8,9,10,11] (.hm1 (ah ..)) ace rfl ?_;simp only[go_sem,ak,m28,m29,PO,ga];refine⟨.hm1 ((ag _ _ n8).trans (ah ..)),?_⟩;have efin2:aQ s=(ov,(bG (st1) 5 s.length).bad,(bG (st1) 5 s.length).place):=ab8;rw[efin2];exact .mk (h' :=h) (jR (ov,(bG (st1) 5 s.length).bad,(bG (st1) 5 s.length).place)) (jv _ _ _ (gh _) _) (Sub.put (subs _ _ _) hi2 _) ⟨rfl,rfl⟩
  ·have k1:(aJ st1).kind≠7:=by grind
   have e2:(if(aJ st1).kind=7 then st1 else bl st1)=bl st1:=if_neg k1
   simp only[go_sem,fJ,d1];refine(lg st1 hap.1).run ?_;simp only[go_sem];cases db:((bl st1).bad==0)
   ·have eb:(bl st1).bad≠0:=by grind
    simp only[go_sem,PO,db];have eend:pO s (.mk pid pset palg ptgt prules pkids pobls,st1)=bl st1:=by
     simp_all [pO,if_neg]
    have hbb:(bl st1).bad≠0:=eb;have dn:((bl st1).bad !=0)=true:=ab8;simp only[go_sem,dn];refine .calls (hm1 i8 (PO (bl st1))) [0,1,2,3,4,5,6,7,8,9,10,11] (.hm1 (ah ..)) ace rfl ?_;simp only[go_sem,ak,m28,m29,PO,ga];refine⟨.hm1 ((ag _ _ n8).trans (ah ..)),?_⟩;have efin2:aQ s=(ov,(bl st1).bad,(bl st1).place):=ab8;rw[efin2];exact .mk (h' :=h) (jR (ov,(bl st1).bad,(bl st1).place)) (jv _ _ _ (gh _) _) (Sub.put (subs _ _ _) hi2 _) ⟨rfl,rfl⟩
   ·have eb:(bl st1).bad=0:=by grind
    simp only[go_sem,ak,m98,PO,db];refine(tH (.mk pid pset palg ptgt prules pkids pobls) _).pthen ?_;cases dr:(gx (.mk pid pset palg ptgt prules pkids pobls) !=0)
    ·have er:gx (.mk pid pset palg ptgt prules pkids pobls)=0:=by grind
     have dn:((bl st1).bad !=0)=false:=ab8;simp only[go_sem,ak,m28,m29,m98,dr,dn];have eend:pO s (.mk pid pset palg ptgt prules pkids pobls,st1)=bl st1:=by
      simp_all [pO,if_neg]
     exact ahH
    ·have er:gx (.mk pid pset palg ptgt prules pkids pobls)≠0:=by grind
     simp only[go_sem,dr];refine(qS (bl st1) 5 s.length).run ?_;have eend:pO s (.mk pid pset palg ptgt prules pkids pobls,st1)=bG (bl st1) 5 s.length:=by
      simp_all [pO,if_pos]
     have hwb:bG (bl st1) 5 s.length= {(bl st1)with bad:=5,place:=s.length}:=by rw[bG,if_pos eb]
     have hbb:(bG (bl st1) 5 s.length).bad≠0:=ab8;have dn:((bG (bl st1) 5 s.length).bad !=0)=true:=ab8;simp only[go_sem,PO,dn];refine .calls (hm1 i8 (PO (bG (bl st1) 5 s.length))) [0,1,2,3,4,5,6,7,8,9,10,11] (.hm1 (ah ..)) ace rfl ?_;simp only[go_sem,ak,m28,m29,PO,ga];refine⟨.hm1 ((ag _ _ n8).trans (ah ..)),?_⟩;have efin2:aQ s=(ov,(bG (bl st1) 5 s.length).bad,(bG (bl st1) 5 s.length).place):=ab8;rw[efin2];exact .mk (h' :=h) (jR (ov,(bG (bl st1) 5 s.length).bad,(bG (bl st1) 5 s.length).place)) (jv _ _ _ (gh _) _) (Sub.put (subs _ _ _) hi2 _) ⟨rfl,rfl⟩
end Go.Proofs.YtfdgemhnlennbaaGreatDoor
namespace Go.Ab
open Go
theorem OwE.keepb{tb:TypeId}{h0 h h' :Heap}{sz:Nat}{y:AV}{xs:List AV}(hw:OwE tb h0 h sz y xs)(hk:∀id,h0 id=Option.none→h id≠Option.none→h' id=h id):OwE tb h0 h' sz y xs:=
 hw.keep fun id e=>hk id (hw.nid e).1 (hw.nid e).2.1
end Go.Ab
namespace Go.Proofs.YtfdgemhnlennbaaGreatDoor
open Go Go.Ab Go.Bf
theorem fo.keepb{h0 h h' :Heap}{ys:List AV}{x:AV}{c:aL}(hm:fo h0 h ys x c)(hk:∀id,h0 id=none→h id≠none→h' id=h id):fo h0 h' ys x c:=by
 obtain⟨f,l,e,a,b,c,d⟩:=hm;exact⟨f,l,e,a.keepb hk,b.keepb hk,c,d⟩
theorem lQ.keepb{h0 h h' :Heap}{ys:List AV}{y:AV}{cs:List aL}{i0:Nat}(ho:lQ h0 h ys y cs i0)(hk:∀id,h0 id=none→h id≠none→h' id=h id):lQ h0 h' ys y cs i0:=by
 obtain⟨xs,a,b,c,d⟩:=ho;exact⟨xs,a.keepb hk,b,c,fun h1 h2=>(d h1 h2).keepb hk⟩
theorem sw.keepb{h0 h h' :Heap}{x:AV}{s:an}{i0:Nat}(ho:sw h0 h x s i0)(hk:∀id,h0 id=none→h id≠none→h' id=h id):sw h0 h' x s i0:=by
 obtain⟨y1,y2,y3,y4,e,a,b,c,d,r⟩:=ho;exact⟨y1,y2,y3,y4,e,a.keepb hk,b.keepb hk,c.keepb hk,d.keepb hk,r⟩
theorem lQ.keepx{h0 h h' :Heap}{ys:List AV}{y z:AV}{cs:List aL}{i0:Nat}(ho:lQ h0 h ys y cs i0)(hz:z∈ys)(hy:apart y z)(hk:∀id,h0 id=none→h id≠none→nid z≠some id→h' id=h id):lQ h0 h' ys y cs i0:=by
 obtain⟨xs,a,b,c,d⟩:=ho;refine⟨xs,a.keep fun id e=>hk id (a.nid e).1 (a.nid e).2.1 (hy id e),b,c,fun h1 h2=>?_⟩
 obtain⟨f,l,e,of,ol,hap,hys⟩:=d h1 h2;exact⟨f,l,e,of.keep fun id e=>hk id (of.nid e).1 (of.nid e).2.1 ((hys z hz).1 id e),ol.keep fun id e=>hk id (ol.nid e).1 (ol.nid e).2.1 ((hys z hz).2 id e),hap,hys⟩
theorem fo.frz{g h0 h:Heap}{ys:List AV}{x:AV}{c:aL}(hm:fo h0 h ys x c)(hg:Ab.Sub g h0):Frz g h x (cr c):=by
 obtain⟨f,l,rfl,a,b,_⟩:=hm;refine .agg _ _ rfl fun j h1 h2=>?_
 rcases j with _|_|_|_|_|j
 ·exact acw
 ·exact acw
 ·exact acw
 ·exact(a.less hg).frz (bt (fun _=>rfl) _)
 ·exact(b.less hg).frz (bt (fun _=>rfl) _)
 ·simp at h1;omega
theorem Iw{g h0 h:Heap}{y:AV}{xs:List AV}{cs:List aL}(hw:OwE 122 h0 h 5 y xs)(hg:Ab.Sub g h0)(hn:xs.length=cs.length)(hx:∀j (h1:j<xs.length) (h2:j<cs.length),Frz g h xs[j] (cr cs[j])):Frz g h y (fZ cs):=by
 rcases hw with⟨rfl,rfl⟩|⟨id,h1,hw⟩
 ·have:cs= []:=by grind
  subst this;exact .sl [] [] .full rfl ab7 aci
 ·have hsz:∀i (h1:i<xs.length),xs[i].cells.length=5:=fun i h1=>hw.rd.1 _ aci
  refine hw.frz (hg.none h1) ab8 (fun i h1 h2=>by rw[hsz i h1,abY];rfl) fun i h1 h2 j h3 h4=>?_
  have h2' :i<cs.length:=ab7;have hf:=hx i h1 h2';have key:∀x y:AV,Frz g h x y→bA y=true→cJ y=true→∀j (h3:j<x.cells.length) (h4:j<y.cells.length),Frz g h x.cells[j] y.cells[j]:=by
   intro x y hf ha hp j h3 h4;cases hf with
   |keep x hx=>exact .pure (nh hp _ (ab2 h4))
   |agg xs ys hn hr=>exact hr j h3 h4
   |_=>cases ha
  have e:(cs.map cr)[i]'h2=cr cs[i]:=aci;simp only[e]at h4⊢;exact key _ _ hf rfl (by simp only[cr,mU,cJ,gS,gv,rY,Bool.and_true,Bool.true_and,Bool.and_eq_true];exact⟨bt (fun _=>rfl) _,bt (fun _=>rfl) _⟩) j h3 h4
theorem lQ.frz{g h0 h:Heap}{ys:List AV}{y:AV}{cs:List aL}{i0:Nat}(ho:lQ h0 h ys y cs i0)(hg:Ab.Sub g h0):Frz g h y (fZ cs):=by
 obtain⟨xs,a,b,c,d⟩:=ho;refine Iw a hg b fun j h1 h2=>?_
 by_cases e:j=i0
 ·subst e;exact(d h1 h2).frz hg
 grind [CP]
theorem LK{g h:Heap}(p:bH):∀x∈fW p,Frz g h x x:=fun x hx=>by
 refine .pure (nh (x:=aM p) (DD p) x ?_);rw[NX];exact hx
theorem CQ{g h:Heap}{xs:List AV}(hx:∀x∈xs,Frz g h x x):∀i (h1:i<xs.length) (h2:i<xs.length),Frz g h xs[i] xs[i]:=fun i h1 _=>hx _ (ab2 h1)
theorem Gu{g h:Heap}{ps bs cs ds:List AV}(n1:ps.length=bs.length)(n2:cs.length=ds.length)(h1:∀i (a:i<ps.length) (b:i<bs.length),Frz g h ps[i] bs[i])(h2:∀i (a:i<cs.length) (b:i<ds.length),Frz g h cs[i] ds[i]):
  ∀i (a:i<(ps++cs).length) (b:i<(bs++ds).length),Frz g h (ps++cs)[i] (bs++ds)[i]:=fun i a b=>by
 by_cases e:i<ps.length
 ·rw[List.getElem_append_left e,List.getElem_append_left ab7];exact h1 i e ab7
 ·rw[List.getElem_append_right ab7,List.getElem_append_right ab7]
  simp only[ab1]at a b;have:=h2 (i - ps.length) ab7 ab7;simp only[n1]at this⊢;exact acQ
theorem ug{g h:Heap}{s:an}{y1 y2 y3 y4:AV}(a:Frz g h y1 (fZ s.cases))(b:Frz g h y2 (j4 s.reviews))(c:Frz g h y3 (kY s.notices))(d:Frz g h y4 (dZ s.roles)):
  Frz g h (.agg ([.i s.tick,y1,y2,y3,y4]++fW s.policy++ [.i s.version])) (cK s):=by
 refine .agg _ _ aci (Gu aci rfl (Gu rfl rfl (fun i h1 h2=>?_) (CQ (LK _))) (CQ fun x hx=>by rw[List.mem_singleton.1 hx];exact .pure rfl))
 rcases i with _|_|_|_|_|i
 ·exact acw
 ·exact a
 ·exact b
 ·exact c
 ·exact d
 ·simp at h1;omega
theorem lQ.rd{h0 h:Heap}{ys:List AV}{y:AV}{cs:List aL}{i0:Nat}(ho:lQ h0 h ys y cs i0):zj h y cs:=by
 obtain⟨xs,a,b,c,d⟩:=ho;refine⟨xs,a.rd,b,fun j h1 h2=>?_⟩
 by_cases e:j=i0
 ·subst e
  obtain⟨f,l,e,a,b,_⟩:=d h1 h2;exact⟨f,l,e,a.rd,b.rd⟩
 grind [rdC]
theorem sw.rd{h0 h:Heap}{x:AV}{s:an}{i0:Nat}(ho:sw h0 h x s i0):RdS h x s:=by
 obtain⟨y1,y2,y3,y4,rfl,a,b,c,d,r⟩:=ho;exact⟨y1,y2,y3,y4,rfl,a.rd,b.rd,c.rd,d.rd⟩
end Go.Proofs.YtfdgemhnlennbaaGreatDoor
namespace Go.Ab
open Go
theorem OwE.bJ{tb:TypeId}{h0 h1 h:Heap}{sz:Nat}{y:AV}{xs:List AV}(hw:OwE tb h1 h sz y xs)(hs:∀i,h1 i=Option.none→h0 i=Option.none):OwE tb h0 h sz y xs:=by
 rcases hw with hw|⟨id,e,hw⟩
 ·exact af0
 ·exact .inr ⟨id,hs _ e,hw⟩
end Go.Ab
namespace Go.Proofs.YtfdgemhnlennbaaGreatDoor
open Go Go.Ab Go.Bf
theorem fo.bJ{g h0 h:Heap}{ys:List AV}{x:AV}{c:aL}(hm:fo h0 h ys x c)(hg:∀i,h0 i=none→g i=none):fo g h ys x c:=by
 obtain⟨f,l,e,a,b,c⟩:=hm;exact⟨f,l,e,a.bJ hg,b.bJ hg,c⟩
theorem lQ.bJ{g h0 h:Heap}{ys:List AV}{y:AV}{cs:List aL}{i0:Nat}(ho:lQ h0 h ys y cs i0)(hg:∀i,h0 i=none→g i=none):lQ g h ys y cs i0:=by
 obtain⟨xs,a,b,c,d⟩:=ho;exact⟨xs,a.bJ hg,b,c,fun h1 h2=>(d h1 h2).bJ hg⟩
theorem sw.bJ{g h0 h:Heap}{x:AV}{s:an}{i0:Nat}(ho:sw h0 h x s i0)(hg:∀i,h0 i=none→g i=none):sw g h x s i0:=by
 obtain⟨y1,y2,y3,y4,e,a,b,c,d,r⟩:=ho;exact⟨y1,y2,y3,y4,e,a.bJ hg,b.bJ hg,c.bJ hg,d.bJ hg,r⟩
theorem oV{g K:Heap}{S:an}{j:Nat}{y1 y2 y3 y4:AV}{tk ver palg:Int}{pid:Txt}{pset:Bool}{ptgt:fY}{prules:List cP}{pkids:List bH}{pobls:List cA}(h1:S.tick=tk)(h2:S.policy= .mk pid pset palg ptgt prules pkids pobls)(h3:S.version=ver)
  (a:lQ g K [y1,y2,y3,y4] y1 S.cases j) (b:OwE 135 g K 7 y2 (S.reviews.map iK)) (c:OwE 138 g K 3 y3 (S.notices.map mN)) (d:OwE 141 g K 2 y4 (S.roles.map eL)) (ap:apart y1 y2∧apart y1 y3∧apart y1 y4∧apart y2 y3∧apart y2 y4∧apart y3 y4):
  sw g K (.agg [.i tk,y1,y2,y3,y4,.s pid,.b pset,.i palg,aV ptgt,.sl (prules.map aB) .no,.sl (pkids.map aM) .no,aA pobls,.i ver]) S j:=by
 refine⟨y1,y2,y3,y4,?_,a,b,c,d,ap⟩;rw[h1,h2,h3,show fW (.mk pid pset palg ptgt prules pkids pobls)= [.s pid,.b pset,.i palg,aV ptgt,.sl (prules.map aB) .no,.sl (pkids.map aM) .no,aA pobls] by simp[fW,aX]]
 rfl
theorem lQ.move{h0 h h' :Heap}{ys ys' :List AV}{y z:AV}{cs:List aL}{i0:Nat}(ho:lQ h0 h ys y cs i0)(hz:z∈ys)(hy:apart y z)(hk:∀id,h0 id=none→h id≠none→nid z≠some id→h' id=h id)
  (hr:∀y'∈ys',∀k,nid y' =some k→h k=none∨∃w∈ys,nid w=some k):lQ h0 h' ys' y cs i0:=by
 obtain⟨xs,a,b,c,d⟩:=ho;refine⟨xs,a.keep fun id e=>hk id (a.nid e).1 (a.nid e).2.1 (hy id e),b,c,fun h1 h2=>?_⟩
 obtain⟨f,l,e,of,ol,hap,hys⟩:=d h1 h2;refine⟨f,l,e,of.keep fun id e=>hk id (of.nid e).1 (of.nid e).2.1 ((hys z hz).1 id e),ol.keep fun id e=>hk id (ol.nid e).1 (ol.nid e).2.1 ((hys z hz).2 id e),hap,fun w hw=>⟨fun k e1 e2=>?_,fun k e1 e2=>?_⟩⟩
 ·rcases hr w hw k e2 with hn|⟨v,hv,e3⟩
  ·exact(of.nid e1).2.1 hn
  ·exact(hys v hv).1 k e1 e3
 ·rcases hr w hw k e2 with hn|⟨v,hv,e3⟩
  ·exact(ol.nid e1).2.1 hn
  ·exact(hys v hv).2 k e1 e3
theorem NW{g K:Heap}{r X:AV}{A B:List aL}{C:aL}{ys:List AV}{j:Nat}(hj:A.length=j)(hw:OwE 122 g K 5 r (A.map cr++([X]++B.map cr)))(hX:fo g K ys X C):lQ g K ys r (A++ [C]++B) j:=by
 refine⟨_,hw,aci,fun k h1 h2 hk=>?_,fun h1 h2=>?_⟩
 ·grind
 grind
theorem BP{g K:Heap}{z:AV}{xs:List AV}{cs:List aL}{j:Nat}{X:AV}{F:aL→aL}{ys:List AV}(hw:OwE 122 g K 5 z (xs.set j X))(hn:xs.length=cs.length)(hlo:∀k (h1:k<xs.length) (h2:k<cs.length),k≠j→xs[k]=cr cs[k])(hX:∀h:j<cs.length,fo g K ys X (F cs[j])):lQ g K ys z (cs.modify j F) j:=by
 refine⟨_,hw,ab8,fun k h1 h2 e=>?_,fun h1 h2=>?_⟩
 ·grind
 grind
theorem sP{xs:List AV}{j:Nat}(hj:j<xs.length)(x:AV):aq (xs.set j x)=aq (xs.take j)++(x.cells++aq (xs.drop (j+1))):=by
 simp_all [List.set_eq_take_append_cons_drop,if_pos,lX,aq]
theorem Bz{xs:List AV}{j:Nat}(hj:j<xs.length):aq xs=aq (xs.take j)++(xs[j].cells++aq (xs.drop (j+1))):=by
 grind [sP,List.set_getElem_self]
theorem yH{s:an}{o:OpD}(h:bL s o=0)(hk:o.kind=3∨o.kind=4):bY s.cases o.case=true:=by
 grind [bY,bL,bX]
theorem Kx{g:Heap}{x:AV}{s:an}(hb:RdS g x s)(o:OpD)(hf:Few s)(hp:mF 1 s.policy)(hr:i64 o.review)(ht:i64 s.tick)(hver:0≤s.version∧s.version≤1000000)(he:j7 g):
  ai Tryz.prog 57 [x,opA o] g fun r h' =>Ab.Sub g h'∧∃j,sw g h' r (dU aQ s o) j∧(bL s o=0→j=findD s.cases o.case):=by
 obtain⟨i0,ei0⟩:∃i0,(if o.kind=1 then s.cases.length else findD s.cases o.case)=i0:=⟨_,rfl⟩
 have hown:=fun(G:Heap) (hG:Ab.Sub g G)=>Q8 (hb.sub hG) i0 hf hp
 have hrdy:=fun(G:Heap) (hG:Ab.Sub g G)=>DM (hb.sub hG) o hf hr ht
 obtain⟨y1,y2,y3,y4,rfl,hb'⟩:=hb;cases hpp:s.policy with
 |mk pid pset palg ptgt prules pkids pobls=>
 have hcC:fW (.mk pid pset palg ptgt prules pkids pobls)= [.s pid,.v (.bool pset),.v (.int .i64 palg),aV ptgt,.sl (prules.map aB) .no,.sl (pkids.map aM) .no,aA pobls]:=ae7;rw[hpp,hcC]at hown hrdy;simp only[opA,opC,List.cons_append,List.nil_append]at hown hrdy;refine ab6 Tryz.func57 138 [.cell 4 63] fun hwf=>?_
 simp only[go_sem,hcC,opA,opC,List.cons_append,List.nil_append];intro i2 h2;simp only[go_sem];intro i3 h3;have n32:=aH h3;have h3' :=aC h3;simp only[go_sem];intro i4 h4;have n43:=aH h4;have h4a:=aC h4;have n42:=aH h4a;have h4' :=aC h4a;simp only[go_sem,ak,n32.symm,n42.symm];obtain⟨H,eH⟩:∃H,upd (upd (upd g i2 (some (.obj [.v (.int .i64 s.tick),y1,y2,y3,y4,.s pid,.v (.bool pset),.v (.int .i64 palg),aV ptgt,.sl (prules.map aB) .no,.sl (pkids.map aM) .no,aA pobls,.v (.int .i64 s.version)] 63))) i3 (some (.obj (opC o) 39))) i4 (some (.obj [.v (.int .i64 0),.sl [] .full,.sl [] .full,.sl [] .full,.sl [] .full,.s [],.v (.bool false),.v (.int .i64 0),.sl [] .full,.sl [] .full,.sl [] .full,.sl [] .full,.v (.int .i64 0)] 63))=H:=⟨_,rfl⟩;have hH:Ab.Sub g H:=by rw[←eH];exact(((Sub.refl g).put h2 _).put h3' _).put h4' _
 have g2:H i2=some (.obj [.v (.int .i64 s.tick),y1,y2,y3,y4,.s pid,.v (.bool pset),.v (.int .i64 palg),aV ptgt,.sl (prules.map aB) .no,.sl (pkids.map aM) .no,aA pobls,.v (.int .i64 s.version)] 63):=by rw[←eH,ag _ _ n42.symm,ag _ _ n32.symm,ah]
 have g3:H i3=some (.obj (opC o) 39):=by rw[←eH,ag _ _ n43.symm,ah]
 have g4:H i4=some (.obj [.v (.int .i64 0),.sl [] .full,.sl [] .full,.sl [] .full,.sl [] .full,.s [],.v (.bool false),.v (.int .i64 0),.sl [] .full,.sl [] .full,.sl [] .full,.sl [] .full,.v (.int .i64 0)] 63):=adB;simp only[opC]at eH g3;rw[eH];clear eH;refine(hown H hH).mono fun r H1 ⟨hS,s1⟩=>?_
 obtain⟨z1,z2,z3,z4,er,hS1⟩:=id hS;subst er;rw[hpp,hcC]at hS⊢;obtain⟨hC,w2,w3,w4,a12,a13,a14,a23,a24,a34⟩:=hS1;obtain⟨xs,w1,hnx,hlo,hmy⟩:=id hC;simp only[go_sem,List.cons_append,List.nil_append];intro i5 h5;simp only[go_sem];have q2:=s1 _ _ g2;have q3:=s1 _ _ g3;have q4:=s1 _ _ g4;have n52:i2≠i5:=fun e=>by rw[←e,q2]at h5;cases h5
 have n53:i3≠i5:=fun e=>by rw[←e,q3]at h5;cases h5
 have n54:i4≠i5:=fun e=>by rw[←e,q4]at h5;cases h5
 obtain⟨K,eK⟩:∃K,upd H1 i5 (some (.obj [.v (.int .i64 s.tick),z1,z2,z3,z4,.s pid,.v (.bool pset),.v (.int .i64 palg),aV ptgt,.sl (prules.map aB) .no,.sl (pkids.map aM) .no,aA pobls,.v (.int .i64 s.version)] 63))=K:=⟨_,rfl⟩;have sK:Ab.Sub H1 K:=by rw[←eK];exact .aj h5
 have k5:K i5=some (.obj [.v (.int .i64 s.tick),z1,z2,z3,z4,.s pid,.v (.bool pset),.v (.int .i64 palg),aV ptgt,.sl (prules.map aB) .no,.sl (pkids.map aM) .no,aA pobls,.v (.int .i64 s.version)] 63):=by rw[←eK,ah]
 rw[eK];have hz5:∀k,H k=none→H1 k≠none→k≠i5:=fun k _ hk e=>hk (by rw[e];exact h5)
 have k2:=sK _ _ q2;have k3:=sK _ _ q3;have k4:=sK _ _ q4;clear eK;have sg:Ab.Sub g K:=hH.trans (s1.trans sK);simp only[go_sem,k2,k3];refine(hrdy K sg).pthen ?_;have g5:g i5=none:=(hH.trans s1).none h5;have kK:∀k,H1 k≠none→K k=H1 k:=fun k hk=>by
  cases e:H1 k with
  |none=>exact(hk e).elim
  |some b=>exact sK _ _ e
 have hz4:∀k,H k=none→k≠i4:=fun k hk e=>by rw[e,g4]at hk;cases hk
 by_cases p0:bL s o=0
 ·have d0:(bL s o !=0)=false:=by simp[p0]
  simp only[go_sem,d0];simp only[go_sem,k5,k3];have hSK:sw H K (.agg ([.v (.int .i64 s.tick),z1,z2,z3,z4]++fW s.policy++ [.v (.int .i64 s.version)])) s i0:=by
   rw[hpp,hcC];exact hS.keepb fun k _ hk=>kK k hk
  have hfi:=Bx hSK.rd o.case hf.cases;rw[hpp,hcC]at hfi;simp only[List.cons_append,List.nil_append]at hfi;refine hfi.pthen ?_;simp only[go_sem,k3];have hform:dF o=true:=by
   cases e:dF o
   ·simp[bL,e]at p0
   ·rfl
  have hdone:dU aQ s o=doD aQ s o:=by simp[dU,p0]
  rw[hdone]
  by_cases p1:o.kind=1
  ·have k1:(o.kind==1)=true:=by simp[p1]
   simp only[go_sem,k1];simp only[go_sem,k3];intro i8 h8;have n82:i2≠i8:=fun e=>by rw[←e,k2]at h8;cases h8
   have n83:i3≠i8:=fun e=>by rw[←e,k3]at h8;cases h8
   have n84:i4≠i8:=fun e=>by rw[←e,k4]at h8;cases h8
   have n85:i5≠i8:=fun e=>by rw[←e,k5]at h8;cases h8
   simp only[go_sem];obtain⟨K2,eK2⟩:∃K2,upd K i8 (some (.obj [.s o.case,.s o.subj,.s [111,112,101,110],.sl [] .full,.sl [] .full] 122))=K2:=⟨_,rfl⟩;have sK2:Ab.Sub K K2:=by rw[←eK2];exact .aj h8
   have e8:K2 i8=some (.obj [.s o.case,.s o.subj,.s [111,112,101,110],.sl [] .full,.sl [] .full] 122):=by rw[←eK2,ah]
   rw[eK2];clear eK2;have m3:=sK2 _ _ k3;have m4:=sK2 _ _ k4;have m5:=sK2 _ _ k5;simp only[go_sem,m3,m5];have hha:=rS (h0:=H) (s:=s) z1 z2 z3 z4 (k:=i8) (o:=0) (A:=[]) (B:=[]) (t:=122) (c:=⟨o.case,o.subj,jC,[],[]⟩) (f:=.sl [] .full) (l:=.sl [] .full) rfl e8 acd (.inl ⟨rfl,rfl⟩) (s1.trans (sK.trans sK2)) (Nat.zero_le _) o.subj [110,101,119];rw[hpp,hcC]at hha;simp only[List.cons_append,List.nil_append]at hha;refine hha.mono fun r K3 ⟨l',ol,e8',fr3,ap3⟩=>?_
   have kK3:∀k,K2 k≠none→k≠i8→K3 k=K2 k:=fun k hk hk8=>fr3 k hk hk8 (by simp[nid])
   have m3' :K3 i3=_:=(kK3 i3 (by rw[m3];simp) n83).trans m3
   have m4' :K3 i4=_:=(kK3 i4 (by rw[m4];simp) n84).trans m4
   have m5' :K3 i5=_:=(kK3 i5 (by rw[m5];simp) n85).trans m5
   simp only[cc,List.append_nil]at e8';simp only[go_sem];simp only[go_sem,m5',e8'];have kk2:∀k,H1 k≠none→K2 k=H1 k:=fun k hk=>by
    have:=kK k hk;cases e:K k with
    |none=>rw[e]at this;exact(hk this.symm).elim
    |some b=>rw[sK2 _ _ e,←e,this]
   have k8:∀k,H1 k≠none→k≠i8:=fun k hk e=>hk (by have:=kK k hk;rw[e,h8]at this;rw[e];exact this.symm)
   have kk3:∀k,H1 k≠none→K3 k=H1 k:=fun k hk=>(kK3 k (by rw[kk2 k hk];exact hk) (k8 k hk)).trans (kk2 k hk)
   have sH3:Ab.Sub H1 K3:=fun k b hk=>by rw[kk3 k (by rw[hk];simp)];exact hk
   have hfl:findD s.cases o.case≤s.cases.length:=List.findIdx_le_length;have hfc:=hf.cases;refine(E8 z1 xs (.agg [.s o.case,.s o.subj,.s jC,.sl [] .full,l']) (findD s.cases o.case) H K3 (w1.keepb fun k _ hk=>kk3 k hk) (s1.trans sH3) ab7 ab7 rfl (by simp[Ab.fit])).mono fun r K4 ⟨ow5,fr4,ap4⟩=>?_
   have m4'' :K4 i4=_:=(fr4 i4 (by rw[m4'];simp) (fun e=>by have:=(w1.nid e).1;rw[g4]at this;cases this)).trans m4'
   have m5'' :K4 i5=_:=(fr4 i5 (by rw[m5'];simp) (fun e=>(w1.nid e).2.1 h5)).trans m5'
   simp only[go_sem,m5'',ow5.rd.fit,ow5.rd.cells];simp only[go_sem,ak,n54,m4''];have hi0:i0=s.cases.length:=by rw[←ei0,if_pos p1]
   have hxs:xs=s.cases.map cr:=List.ext_getElem (by simpa using hnx) fun j a b=>by rw[hlo j a ab7 ab7,abY]
   have kk4:∀k,H1 k≠none→nid z1≠some k→K4 k=H1 k:=fun k hk hz=>(fr4 k (by rw[kk3 k hk];exact hk) hz).trans (kk3 k hk)
   obtain⟨K5,eK5⟩:∃K5,upd (upd K4 i5 (some (.obj [.v (.int .i64 s.tick),r,z2,z3,z4,.s pid,.v (.bool pset),.v (.int .i64 palg),aV ptgt,.sl (prules.map aB) .no,.sl (pkids.map aM) .no,aA pobls,.v (.int .i64 s.version)] 63))) i4 (some (.obj [.v (.int .i64 s.tick),r,z2,z3,z4,.s pid,.v (.bool pset),.v (.int .i64 palg),aV ptgt,.sl (prules.map aB) .no,.sl (pkids.map aM) .no,aA pobls,.v (.int .i64 s.version)] 63))=K5:=⟨_,rfl⟩;rw[eK5];have o5:∀k,k≠i4→k≠i5→K5 k=K4 k:=fun k a b=>by rw[←eK5,ag _ _ a,ag _ _ b]
   have kk5:∀k,H k=none→H1 k≠none→nid z1≠some k→K5 k=H1 k:=fun k a b c=>(o5 k (hz4 k a) (hz5 k a b)).trans (kk4 k b c)
   have ow:OwE 122 H K5 5 r (List.take (findD s.cases o.case) xs++([.agg [.s o.case,.s o.subj,.s jC,.sl [] .full,l']]++List.drop (findD s.cases o.case) xs)):=ow5.keep fun id e=>o5 id (hz4 id (ow5.nid e).1) fun e5=>by
    subst e5;rcases ap4 _ e with h|h
    ·rw[m5']at h;cases h
    ·exact(w1.nid h).2.1 h5
   have ol5:OwE 191 H K5 3 l' _:=ol.keep fun id e=>by
    have h2n:K2 id=none:=(ap3 id e).resolve_right (by simp[nid])
    have hz:nid z1≠some id:=fun e1=>by
     have:=kk2 id (w1.nid e1).2.1;rw[h2n]at this;exact(w1.nid e1).2.1 this.symm
    rw[o5 id (hz4 id (ol.nid e).1) (fun e5=>by rw[e5,m5]at h2n;cases h2n),fr4 id (ol.nid e).2.1 hz]
   have hmc:fo H K5 [] (.agg [.s o.case,.s o.subj,.s jC,.sl [] .full,l']) (jn s ⟨o.case,o.subj,jC,[],[]⟩ o.subj [110,101,119]):=⟨.sl [] .full,l',rfl,.inl ⟨rfl,rfl⟩,ol5,(fun i e=>acD),fun y hy=>by cases hy⟩
   have sg4:Ab.Sub g K4:=fun k b hk=>by
    have h1:=hH _ _ hk;have h2:=s1 _ _ h1;rw[kk4 k (by rw[h2];simp) (fun e=>by have:=(w1.nid e).1;rw[h1]at this;cases this)]
    exact aga
   have sg5:Ab.Sub g K5:=by rw[←eK5];exact(sg4.put g5 _).put h4' _
   have hdo:doD aQ s o= {s with cases:=s.cases.take (findD s.cases o.case)++ [jn s ⟨o.case,o.subj,jC,[],[]⟩ o.subj [110,101,119]]++s.cases.drop (findD s.cases o.case)}:=by simp[doD,p1]
   refine .mk _ (.refl _) (.refl _) ⟨sg5,_,?_,fun _=>rfl⟩
   rw[hdo];have apr:∀k,nid r=some k→H1 k=none∨nid z1=some k:=fun k e=>(ap4 k e).imp (fun h=>sH3.none h) id
   have hro:∀ {w:AV},apart z1 w→(∀k,nid w=some k→H1 k≠none)→apart r w:=fun ha hw k e1 e2=>(apr k e1).elim (fun h=>hw k e2 h) (fun h=>ha k h e2)
   have hl0:∀k,nid l' =some k→H1 k=none:=fun k e=>(sK.trans sK2).none ((ap3 k e).resolve_right (by simp[nid]))
   have hlr:apart l' r:=fun k e1 e2=>(ap4 k e2).elim (fun h=>(ol.nid e1).2.1 h) (fun h=>(w1.nid h).2.1 (hl0 k e1))
   rw[hxs,←List.map_take,←List.map_drop]at ow;refine oV rfl hpp rfl (NW ad4 (ow.bJ (fun _ e=>hH.none e)) ⟨.sl [] .full,l',rfl,.inl ⟨rfl,rfl⟩,ol5.bJ (fun _ e=>hH.none e),(fun i e=>acD),fun y hy=>⟨(fun i e=>acD),?_⟩⟩) ((w2.keep fun id e=>kk5 id (w2.nid e).1 (w2.nid e).2.1 fun e1=>a12 id e1 e).bJ fun _ e=>hH.none e) ((w3.keep fun id e=>kk5 id (w3.nid e).1 (w3.nid e).2.1 fun e1=>a13 id e1 e).bJ fun _ e=>hH.none e) ((w4.keep fun id e=>kk5 id (w4.nid e).1 (w4.nid e).2.1 fun e1=>a14 id e1 e).bJ fun _ e=>hH.none e) ⟨hro a12 fun k e=>(w2.nid e).2.1,hro a13 fun k e=>(w3.nid e).2.1,hro a14 fun k e=>(w4.nid e).2.1,a23,a24,a34⟩
   simp only[List.mem_cons,List.not_mem_nil,or_false]at hy;rcases hy with rfl|rfl|rfl|rfl
   ·exact hlr
   ·exact fun k e1 e2=>(w2.nid e2).2.1 (hl0 k e1)
   ·exact fun k e1 e2=>(w3.nid e2).2.1 (hl0 k e1)
   ·exact fun k e1 e2=>(w4.nid e2).2.1 (hl0 k e1)
  have k1:(o.kind==1)=false:=by simp[p1]
  have hi0:i0=findD s.cases o.case:=by rw[←ei0,if_neg p1]
  simp only[go_sem,k1]
  by_cases p3:o.kind=3
  ·have k3' :(o.kind==3)=true:=by simp[p3]
   simp only[go_sem,k3'];have hth:=yH p0 (.inl p3);have hlt:=jD hth;obtain⟨j,ej⟩:∃j,findD s.cases o.case=j:=⟨_,rfl⟩;have hj:j<s.cases.length:=by rw[←ej];exact hlt
   have hjx:j<xs.length:=ab7;rw[ej]at hi0;subst hi0;obtain⟨f,l,ex,of,ol,hap,hys⟩:=hmy hjx hj;obtain⟨id1,hg1,o1⟩:=w1.ow aeX;have o1' :=o1;obtain⟨cap,rest,ey,hid,hrl,hcap,hsz⟩:=o1';have lA:i0*5=(aq (xs.take i0)).length:=adg;have hidK:K id1=some (.obj (aq (xs.take i0)++(cc s.cases[i0] f l++(aq (xs.drop (i0+1))++rest))) 122):=by
    rw[sK _ _ hid,Bz hjx,ex];simp[cc,AV.cells]
   have n14:id1≠i4:=hz4 id1 hg1;have n13:id1≠i3:=fun e=>by rw[e,g3]at hg1;cases hg1
   have n15:id1≠i5:=fun e=>o1.none (by rw[e];exact h5)
   have nf4:∀k,nid f=some k→k≠i3∧k≠i4∧k≠i5∧k≠id1:=fun k e=>⟨(fun e' =>aeR),hz4 k (of.nid e).1,hz5 k (of.nid e).1 (of.nid e).2.1,fun e' =>(hys z1 aci).1 k e afy⟩
   have nl4:∀k,nid l=some k→k≠i3∧k≠i4∧k≠i5∧k≠id1:=fun k e=>⟨(fun e' =>aeS),hz4 k (ol.nid e).1,hz5 k (ol.nid e).1 (ol.nid e).2.1,fun e' =>(hys z1 aci).2 k e afy⟩
   have hff:=hf.fields _ (ab2 hj);have hfl:=hf.log _ (ab2 hj);rw[ej];refine .calls (pick K [i3,i5]) [0,1,2,3,4,5,6,7,8] bR ace rfl ?_;simp only[go_sem,bD (show i5∈ [i3,i5] by simp),k3,k5]
   refine(o1.sub sK).idx (U:=U) (e:=122) i0 rfl hjx nq acd ?_;simp only[go_sem,bD (show i3∈ [i3,i5] by simp),k3,k5]
   refine(show ai Tryz.prog 117 [.ptr id1 (i0*5),.s o.field,.agg [.v (.int .i64 o.val.kind),.v (.int .i64 o.val.n),.s o.val.s]] K _ from Mx lA hidK acd (of.sub sK) (s1.trans sK) hff o.field o.val).mono fun r K3 ⟨f',of',e1',fr3,ap3⟩=>?_
   have kk3:∀k,H1 k≠none→k≠id1→nid f≠some k→K3 k=H1 k:=fun k a b c=>(fr3 k (by rw[kK k a];exact a) b c).trans (kK k a)
   have m3:K3 i3=_:=(fr3 i3 (by rw[k3];simp) n13.symm fun e=>(nf4 _ e).1 rfl).trans k3
   have m4:K3 i4=_:=(fr3 i4 (by rw[k4];simp) n14.symm fun e=>(nf4 _ e).2.1 rfl).trans k4
   have m5:K3 i5=_:=(fr3 i5 (by rw[k5];simp) n15.symm fun e=>(nf4 _ e).2.2.1 rfl).trans k5
   refine⟨iJ fun k hk=>?_,?_⟩
   ·simp only[List.mem_cons,List.not_mem_nil,or_false]at hk
    rcases hk with rfl|rfl
    ·rw[m3,k3]
    ·rw[m5,k5]
   simp only[go_sem];have sH3:Ab.Sub H K3:=fun k b hk=>acR
   have ol3:OwE 191 H K3 3 l (s.cases[i0].log.map iF):=ol.keep fun k e=>kk3 k (ol.nid e).2.1 (nl4 k e).2.2.2 (fun e1=>hap k e1 e)
   have hX5:∀y1 y2:AV,Sized 5 (xs.set i0 (.agg (cc s.cases[i0] y1 y2))):=fun y1 y2 z hz=>by
    exact agR
   have mkO:∀ {G:Heap} {y1 y2:AV},G id1=some (.obj (aq (xs.take i0)++(cc s.cases[i0] y1 y2++(aq (xs.drop (i0+1))++rest))) 122)→Ow 122 G 5 id1 z1 (xs.set i0 (.agg (cc s.cases[i0] y1 y2))):=fun {G y1 y2} hG=>⟨cap,rest,aen,by rw[hG,sP hjx];simp[AV.cells],afc,aef,hX5 _ _⟩
   have hjs:∀x:AV,i0<(xs.set i0 x).length:=fun x=>by rw[List.length_set];exact hjx
   refine .calls (pick K3 [i3,i5]) [0,1,2,3,4,5,6,7] bR ace rfl ?_;simp only[go_sem,bD (show i5∈ [i3,i5] by simp),m3,m5]
   refine(mkO e1').idx (U:=U) (e:=122) i0 rfl (hjs _) nq acd ?_;simp only[go_sem,bD (show i3∈ [i3,i5] by simp),m3,m5]
   have hha:=rS (h0:=H) (h:=K3) (s:=s) z1 z2 z3 z4 (k:=id1) (c:=s.cases[i0]) (f:=f') (l:=l) lA e1' acd ol3 sH3 hfl o.subj [119,114,105,116,101];rw[hpp,hcC]at hha;simp only[List.cons_append,List.nil_append]at hha;refine hha.mono fun r K4 ⟨l',ol',e1'',fr4,ap4⟩=>?_
   have m3' :K4 i3=_:=(fr4 i3 (by rw[m3];simp) n13.symm fun e=>(nl4 _ e).1 rfl).trans m3
   have m4' :K4 i4=_:=(fr4 i4 (by rw[m4];simp) n14.symm fun e=>(nl4 _ e).2.1 rfl).trans m4
   have m5' :K4 i5=_:=(fr4 i5 (by rw[m5];simp) n15.symm fun e=>(nl4 _ e).2.2.1 rfl).trans m5
   refine⟨iJ fun k hk=>?_,?_⟩
   ·simp only[List.mem_cons,List.not_mem_nil,or_false]at hk
    rcases hk with rfl|rfl
    ·rw[m3',m3]
    ·rw[m5',m5]
   simp only[go_sem];simp only[go_sem,m5',m4'];obtain⟨K5,eK5⟩:∃K5,upd K4 i4 (some (.obj [.v (.int .i64 s.tick),z1,z2,z3,z4,.s pid,.v (.bool pset),.v (.int .i64 palg),aV ptgt,.sl (prules.map aB) .no,.sl (pkids.map aM) .no,aA pobls,.v (.int .i64 s.version)] 63))=K5:=⟨_,rfl⟩;rw[eK5];have o5:∀k,k≠i4→K5 k=K4 k:=fun k a=>by rw[←eK5,ag _ _ a]
   have kk5:∀k,H k=none→H1 k≠none→k≠id1→nid f≠some k→nid l≠some k→K5 k=H1 k:=fun k a b c d e=>by
    exact ahP
   have of5:OwE 201 H K5 4 f' _:=of'.keep fun id e=>by
    exact agw
   have ol5:OwE 191 H K5 3 l' _:=ol'.keep fun id e=>o5 id (hz4 id (ol'.nid e).1)
   have sg4:Ab.Sub g K4:=fun k b hk=>by
    exact agZ
   have sg5:Ab.Sub g K5:=by rw[←eK5];exact sg4.put h4' _
   have n1' :nid z1=some id1:=o1.nid;have hdo:doD aQ s o= {s with cases:=s.cases.modify i0 fun c=>jn s {c with fields:=fh c.fields o.field o.val} o.subj [119,114,105,116,101]}:=by simp[doD,p3,ej]
   refine .mk _ (.refl _) (.refl _) ⟨sg5,_,?_,fun _=>rfl⟩
   rw[hdo];have thr:∀w∈ [z1,z2,z3,z4],∀k,nid w=some k→H1 k≠none:=fun w hw k e=>by
    exact agX
   refine oV rfl hpp rfl ?_ ((w2.keep fun id e=>kk5 id (w2.nid e).1 (w2.nid e).2.1 (fun e1=>a12 id1 n1' aeO) (fun e1=>(hys z2 aci).1 id e1 e) (fun e1=>(hys z2 aci).2 id e1 e)).bJ fun _ e=>hH.none e) ((w3.keep fun id e=>kk5 id (w3.nid e).1 (w3.nid e).2.1 (fun e1=>a13 id1 n1' aeO) (fun e1=>(hys z3 aci).1 id e1 e) (fun e1=>(hys z3 aci).2 id e1 e)).bJ fun _ e=>hH.none e) ((w4.keep fun id e=>kk5 id (w4.nid e).1 (w4.nid e).2.1 (fun e1=>a14 id1 n1' aeO) (fun e1=>(hys z4 aci).1 id e1 e) (fun e1=>(hys z4 aci).2 id e1 e)).bJ fun _ e=>hH.none e) ⟨a12,a13,a14,a23,a24,a34⟩
   refine BP (X:=.agg (cc s.cases[i0] f' l')) ((show OwE 122 H K5 5 z1 _ from .inr ⟨id1,hg1,mkO ((o5 id1 n14).trans e1'')⟩).bJ (fun _ e=>hH.none e)) hnx (fun k h1 h2 hk=>hlo k h1 h2 hk) fun hh=>⟨f',l',rfl,of5.bJ (fun _ e=>hH.none e),ol5.bJ (fun _ e=>hH.none e),fun k e1 e2=>?_,fun w hw=>⟨fun k e1 e2=>?_,fun k e1 e2=>?_⟩⟩
   ·rcases ap4 k e2 with h|h
    ·exact(of'.nid e1).2.1 h
    ·rcases ap3 k e1 with h' |h'
     ·exact(ol.nid h).2.1 (sK.none h')
     ·exact hap k h' h
   ·rcases ap3 k e1 with h|h
    ·exact thr w hw k e2 (sK.none h)
    ·exact(hys w hw).1 k h e2
   ·rcases ap4 k e1 with h|h
    ·by_cases h1:k=id1
     ·subst h1;rw[e1']at h;cases h
     ·have:=kk3 k (thr w hw k e2) h1 (fun e=>(hys w hw).1 k e e2)
      rw[h]at this;exact thr w hw k e2 this.symm
    ·exact(hys w hw).2 k h e2
  have k3' :(o.kind==3)=false:=by simp[p3]
  simp only[go_sem,k3']
  by_cases p4:o.kind=4
  ·have k4' :(o.kind==4)=true:=by simp[p4]
   simp only[go_sem,k4'];have hth:=yH p0 (.inr p4);have hlt:=jD hth;obtain⟨j,ej⟩:∃j,findD s.cases o.case=j:=⟨_,rfl⟩;have hj:j<s.cases.length:=by rw[←ej];exact hlt
   have hjx:j<xs.length:=ab7;rw[ej]at hi0;subst hi0;obtain⟨f,l,ex,of,ol,hap,hys⟩:=hmy hjx hj;obtain⟨id1,hg1,o1⟩:=w1.ow aeX;have o1' :=o1;obtain⟨cap,rest,ey,hid,hrl,hcap,hsz⟩:=o1';have lA:i0*5=(aq (xs.take i0)).length:=adg;have hidK:K id1=some (.obj (aq (xs.take i0)++(cc s.cases[i0] f l++(aq (xs.drop (i0+1))++rest))) 122):=by
    rw[sK _ _ hid,Bz hjx,ex];simp[cc,AV.cells]
   have n14:id1≠i4:=hz4 id1 hg1;have n13:id1≠i3:=fun e=>by rw[e,g3]at hg1;cases hg1
   have n15:id1≠i5:=fun e=>o1.none (by rw[e];exact h5)
   have nf4:∀k,nid f=some k→k≠i3∧k≠i4∧k≠i5∧k≠id1:=fun k e=>⟨(fun e' =>aeR),hz4 k (of.nid e).1,hz5 k (of.nid e).1 (of.nid e).2.1,fun e' =>(hys z1 aci).1 k e afy⟩
   have nl4:∀k,nid l=some k→k≠i3∧k≠i4∧k≠i5∧k≠id1:=fun k e=>⟨(fun e' =>aeS),hz4 k (ol.nid e).1,hz5 k (ol.nid e).1 (ol.nid e).2.1,fun e' =>(hys z1 aci).2 k e afy⟩
   have hff:=hf.fields _ (ab2 hj);have hfl:=hf.log _ (ab2 hj);rw[ej];simp only[go_sem,k5,k3];refine(o1.sub sK).idx (U:=U) (e:=122) i0 rfl hjx nq acd ?_;simp only[go_sem,hidK];have e2:List.take (i0*5+2) (aq (xs.take i0)++(cc s.cases[i0] f l++(aq (xs.drop (i0+1))++rest)))++ [.s o.to]++List.drop (i0*5+2+1) (aq (xs.take i0)++(cc s.cases[i0] f l++(aq (xs.drop (i0+1))++rest)))=aq (xs.take i0)++(cc {s.cases[i0]with state:=o.to} f l++(aq (xs.drop (i0+1))++rest)):=by
    have:=oQ (A:=aq (xs.take i0)++ [.s s.cases[i0].id,.s s.cases[i0].owner]) (B:=[.s s.cases[i0].state]) (C:=f::l::(aq (xs.drop (i0+1))++rest)) (X:=[.s o.to]) (k:=i0*5+2) (m:=1) (by rw[lA];simp) rfl rfl
    exact ahL
   rw[e2];obtain⟨K3,eK3⟩:∃K3,upd K id1 (some (.obj (aq (xs.take i0)++(cc {s.cases[i0]with state:=o.to} f l++(aq (xs.drop (i0+1))++rest))) 122))=K3:=⟨_,rfl⟩
   rw[eK3];refine⟨by simp only[ab1,←lA,cc,List.length_cons,List.length_nil];omega,?_⟩
   have e1' :K3 id1=some (.obj (aq (xs.take i0)++(cc {s.cases[i0]with state:=o.to} f l++(aq (xs.drop (i0+1))++rest))) 122):=by rw[←eK3,ah]
   have fr3:∀k,K k≠none→k≠id1→nid f≠some k→K3 k=K k:=fun k _ hk _=>by rw[←eK3,ag _ _ hk]
   have ap3:∀k,nid f=some k→K k=none∨nid f=some k:=fun k hk=> .inr hk
   have kk3:∀k,H1 k≠none→k≠id1→nid f≠some k→K3 k=H1 k:=fun k a b c=>(fr3 k (by rw[kK k a];exact a) b c).trans (kK k a)
   have m3:K3 i3=_:=(fr3 i3 (by rw[k3];simp) n13.symm fun e=>(nf4 _ e).1 rfl).trans k3
   have m4:K3 i4=_:=(fr3 i4 (by rw[k4];simp) n14.symm fun e=>(nf4 _ e).2.1 rfl).trans k4
   have m5:K3 i5=_:=(fr3 i5 (by rw[k5];simp) n15.symm fun e=>(nf4 _ e).2.2.1 rfl).trans k5
   obtain⟨f',of',ef'⟩:∃f',OwE 201 H K3 4 f' (s.cases[i0].fields.map bN)∧f=f' :=⟨f,of.keep fun k e=>by rw[←eK3,ag _ _ (nf4 k e).2.2.2,kK k (of.nid e).2.1],rfl⟩
   rw[ef']at e1';replace ap3:∀k,nid f' =some k→K k=none∨nid f=some k:=by rw[←ef'];exact ap3
   have sH3:Ab.Sub H K3:=fun k b hk=>acR
   have ol3:OwE 191 H K3 3 l (s.cases[i0].log.map iF):=ol.keep fun k e=>kk3 k (ol.nid e).2.1 (nl4 k e).2.2.2 (fun e1=>hap k e1 e)
   have hX5:∀y1 y2:AV,Sized 5 (xs.set i0 (.agg (cc ({s.cases[i0]with state:=o.to}:aL) y1 y2))):=fun y1 y2 z hz=>by
    exact agR
   have mkO:∀ {G:Heap} {y1 y2:AV},G id1=some (.obj (aq (xs.take i0)++(cc ({s.cases[i0]with state:=o.to}:aL) y1 y2++(aq (xs.drop (i0+1))++rest))) 122)→Ow 122 G 5 id1 z1 (xs.set i0 (.agg (cc ({s.cases[i0]with state:=o.to}:aL) y1 y2))):=fun {G y1 y2} hG=>⟨cap,rest,aen,by rw[hG,sP hjx];simp[AV.cells],afc,aef,hX5 _ _⟩
   have hjs:∀x:AV,i0<(xs.set i0 x).length:=fun x=>by rw[List.length_set];exact hjx
   refine .calls (pick K3 [i3,i5]) [0,1,2,3,4,5,6,7,8,9] bR ace rfl ?_;simp only[go_sem,bD (show i5∈ [i3,i5] by simp),m3,m5]
   refine(mkO e1').idx (U:=U) (e:=122) i0 rfl (hjs _) nq acd ?_;simp only[go_sem,bD (show i3∈ [i3,i5] by simp),m3,m5]
   have hha:=rS (h0:=H) (h:=K3) (s:=s) z1 z2 z3 z4 (k:=id1) (c:=({s.cases[i0]with state:=o.to}:aL)) (f:=f') (l:=l) lA e1' acd ol3 sH3 hfl o.subj o.to
   rw[hpp,hcC]at hha;simp only[List.cons_append,List.nil_append]at hha;refine hha.mono fun r K4 ⟨l',ol',e1'',fr4,ap4⟩=>?_
   have m3' :K4 i3=_:=(fr4 i3 (by rw[m3];simp) n13.symm fun e=>(nl4 _ e).1 rfl).trans m3
   have m4' :K4 i4=_:=(fr4 i4 (by rw[m4];simp) n14.symm fun e=>(nl4 _ e).2.1 rfl).trans m4
   have m5' :K4 i5=_:=(fr4 i5 (by rw[m5];simp) n15.symm fun e=>(nl4 _ e).2.2.1 rfl).trans m5
   refine⟨iJ fun k hk=>?_,?_⟩
   ·simp only[List.mem_cons,List.not_mem_nil,or_false]at hk
    rcases hk with rfl|rfl
    ·rw[m3',m3]
    ·rw[m5',m5]
   simp only[go_sem];simp only[go_sem,m5',m4'];obtain⟨K5,eK5⟩:∃K5,upd K4 i4 (some (.obj [.v (.int .i64 s.tick),z1,z2,z3,z4,.s pid,.v (.bool pset),.v (.int .i64 palg),aV ptgt,.sl (prules.map aB) .no,.sl (pkids.map aM) .no,aA pobls,.v (.int .i64 s.version)] 63))=K5:=⟨_,rfl⟩;rw[eK5];have o5:∀k,k≠i4→K5 k=K4 k:=fun k a=>by rw[←eK5,ag _ _ a]
   have kk5:∀k,H k=none→H1 k≠none→k≠id1→nid f≠some k→nid l≠some k→K5 k=H1 k:=fun k a b c d e=>by
    exact ahP
   have of5:OwE 201 H K5 4 f' _:=of'.keep fun id e=>by
    exact agw
   have ol5:OwE 191 H K5 3 l' _:=ol'.keep fun id e=>o5 id (hz4 id (ol'.nid e).1)
   have sg4:Ab.Sub g K4:=fun k b hk=>by
    exact agZ
   have sg5:Ab.Sub g K5:=by rw[←eK5];exact sg4.put h4' _
   have n1' :nid z1=some id1:=o1.nid;have hdo:doD aQ s o= {s with cases:=s.cases.modify i0 fun c=>jn s {c with state:=o.to} o.subj o.to}:=by simp[doD,p4,ej]
   refine .mk _ (.refl _) (.refl _) ⟨sg5,_,?_,fun _=>rfl⟩
   rw[hdo];have thr:∀w∈ [z1,z2,z3,z4],∀k,nid w=some k→H1 k≠none:=fun w hw k e=>by
    exact agX
   refine oV rfl hpp rfl ?_ ((w2.keep fun id e=>kk5 id (w2.nid e).1 (w2.nid e).2.1 (fun e1=>a12 id1 n1' aeO) (fun e1=>(hys z2 aci).1 id e1 e) (fun e1=>(hys z2 aci).2 id e1 e)).bJ fun _ e=>hH.none e) ((w3.keep fun id e=>kk5 id (w3.nid e).1 (w3.nid e).2.1 (fun e1=>a13 id1 n1' aeO) (fun e1=>(hys z3 aci).1 id e1 e) (fun e1=>(hys z3 aci).2 id e1 e)).bJ fun _ e=>hH.none e) ((w4.keep fun id e=>kk5 id (w4.nid e).1 (w4.nid e).2.1 (fun e1=>a14 id1 n1' aeO) (fun e1=>(hys z4 aci).1 id e1 e) (fun e1=>(hys z4 aci).2 id e1 e)).bJ fun _ e=>hH.none e) ⟨a12,a13,a14,a23,a24,a34⟩
   refine BP (X:=.agg (cc ({s.cases[i0]with state:=o.to}:aL) f' l')) ((show OwE 122 H K5 5 z1 _ from .inr ⟨id1,hg1,mkO ((o5 id1 n14).trans e1'')⟩).bJ (fun _ e=>hH.none e)) hnx (fun k h1 h2 hk=>hlo k h1 h2 hk) fun hh=>⟨f',l',rfl,of5.bJ (fun _ e=>hH.none e),ol5.bJ (fun _ e=>hH.none e),fun k e1 e2=>?_,fun w hw=>⟨fun k e1 e2=>?_,fun k e1 e2=>?_⟩⟩
   ·rcases ap4 k e2 with h|h
    ·exact(of'.nid e1).2.1 h
    ·rcases ap3 k e1 with h' |h'
     ·exact(ol.nid h).2.1 (sK.none h')
     ·exact hap k h' h
   ·rcases ap3 k e1 with h|h
    ·exact thr w hw k e2 (sK.none h)
    ·exact(hys w hw).1 k h e2
   ·rcases ap4 k e1 with h|h
    ·by_cases h1:k=id1
     ·subst h1;rw[e1']at h;cases h
     ·have:=kk3 k (thr w hw k e2) h1 (fun e=>(hys w hw).1 k e e2)
      rw[h]at this;exact thr w hw k e2 this.symm
    ·exact(hys w hw).2 k h e2
  have k4' :(o.kind==4)=false:=by simp[p4]
  simp only[go_sem,k4'];have kkK:∀k,H k=none→H1 k≠none→K k=H1 k:=fun k _ b=>kK k b
  by_cases p5:o.kind=5
  ·have k5' :(o.kind==5)=true:=by simp[p5]
   simp only[go_sem,k5'];have hrv:0<o.review:=by
    simp only[dF,dP,Bool.and_eq_true]at hform;simpa[okD,p5]using hform.2.1.2
   obtain⟨n,en⟩:∃n:Nat,o.review=((n:Nat):Int)+1:=⟨(o.review - 1).toNat,ab7⟩;have w5:IntKind.i64.wrap (o.review - 1)=((n:Nat):Int):=by rw[bf _ (by have:=hr.2;omega)];omega
   have hn5:n<s.reviews.length:=by
    have:fR s o=0:=by simpa[bL,hform,p5]using p0
    unfold fR at this;have e1:vJ s.reviews o.review=s.reviews[n]? :=by unfold vJ;rw[if_pos ab7,show(o.review - 1).toNat=n by omega]
    rw[e1]at this
    by_cases hlt:n<s.reviews.length
    ·exact hlt
    ·rw[List.getElem?_eq_none ab7]at this;cases this
   have hnm:n<(s.reviews.map iK).length:=by simpa using hn5
   obtain⟨id2,hg2,o2⟩:=w2.ow (by intro e;rw[e]at hnm;cases hnm)
   have o2' :=o2;obtain⟨cap,rest,ey,hid,hrl,hcap,hsz⟩:=o2';have n24:id2≠i4:=hz4 id2 hg2;have n25:id2≠i5:=hz5 id2 hg2 o2.none;have hidK:=sK _ _ hid;simp only[go_sem,k5,k3,w5];refine(o2.sub sK).idx (U:=U) (e:=135) n rfl hnm acj acd ?_;simp only[go_sem,hidK];have e2:List.take (n*7+6) (aq (s.reviews.map iK)++rest)++ [.v (.bool false)]++List.drop (n*7+6+1) (aq (s.reviews.map iK)++rest)=aq ((s.reviews.modify n fun r=> {r with isOpen:=false}).map iK)++rest:=by
    refine(ld hsz n hnm 6 [.v (.bool false)] (abW rfl)).trans ?_
    congr 2
    refine List.ext_getElem aci fun j h1 h2=>?_
    by_cases e:j=n
    ·subst e;simp[iK,AV.cells,Ab.over]
    ·rw[List.getElem_set_ne (Ne.symm e)];simp[Ne.symm e]
   rw[e2];refine⟨by rw[ab1,aY hsz];omega,?_⟩
   have k5b:∀b,upd K id2 b i5=_:=fun b=>(ag _ _ n25.symm).trans k5
   have k4b:∀b,upd K id2 b i4=_:=fun b=>(ag _ _ n24.symm).trans k4
   simp only[go_sem,k5b,k4b];have hdo:doD aQ s o= {s with reviews:=s.reviews.modify n fun r=> {r with isOpen:=false}}:=by simp[doD,p5,en]
   have kz:∀a b k,H k=none→H1 k≠none→nid z2≠some k→upd (upd K id2 a) i4 b k=H1 k:=fun a b k c d e=>by rw[ag _ _ (hz4 k c),ag _ _ (fun e' =>e (by rw[e'];exact o2.nid)),kK k d]
   refine .mk _ (.refl _) (.refl _) ⟨(Sub.put (i:=id2) sg (hH.none hg2) _).put h4' _,_,?_,fun _=>hi0⟩
   rw[hdo];exact oV rfl hpp rfl ((hC.keepx (z:=z2) aci a12 (kz _ _)).bJ (fun _ e=>hH.none e)) (.inr ⟨id2,hH.none hg2,cap,rest,by rw[ey];simp,by rw[ag _ _ n24,ah],by rw[hrl];simp,by simpa using hcap,bu (f:=iK) (n:=7) (fun _=>rfl) _⟩) ((w3.keep fun id e=>kz _ _ id (w3.nid e).1 (w3.nid e).2.1 fun e1=>a23 id e1 e).bJ fun _ e=>hH.none e) ((w4.keep fun id e=>kz _ _ id (w4.nid e).1 (w4.nid e).2.1 fun e1=>a24 id e1 e).bJ fun _ e=>hH.none e) ⟨a12,a13,a14,a23,a24,a34⟩
  have k5' :(o.kind==5)=false:=by simp[p5]
  simp only[go_sem,k5']
  by_cases p6:o.kind=6
  ·have k6' :(o.kind==6)=true:=by simp[p6]
   simp only[go_sem,k6'];simp only[go_sem,k5,k3];have hha6:=E6 hSK.rd o.case o.field (Nat.le_trans hf.roles acd);rw[hpp,hcC]at hha6;simp only[List.cons_append,List.nil_append]at hha6;refine hha6.pthen ?_;cases dha:xO s.roles ⟨o.case,o.field⟩
   ·simp only[go_sem]
    simp only[go_sem,k5,k3];have hap1:Rd K 2 (.sl [eL ⟨o.case,o.field⟩] .full) [eL ⟨o.case,o.field⟩]:=.sl acW .full;have hfr:=hf.roles;refine OwE.app (U:=U) (tb:=141) (w4.sub sK) (s1.trans sK) hap1 acj acd acf acj aci acJ fun id4 y' K3 g4' hor hw ho2=>?_
    have hor' :K id4=none∨nid z4=some id4:=by
     exact agK
    have n44:i4≠id4:=fun e=>by rw[←e,g4]at g4';cases g4'
    have n45:i5≠id4:=fun e=>by
     rcases hor' with hor|hor
     ·rw[←e,k5]at hor;cases hor
     ·exact(w4.nid hor).2.1 (by rw[←e];exact h5)
    have m4:K3 i4=_:=(ho2 i4 n44).trans k4;have m5:K3 i5=_:=(ho2 i5 n45).trans k5;simp only[go_sem,m5,hw.rd.fit,hw.rd.cells];simp only[go_sem,ak,n54,m4];have hdo:doD aQ s o= {s with roles:=s.roles++ [⟨o.case,o.field⟩]}:=by simp[doD,p6,dha]
    have gid4:g id4=none:=hH.none g4';have kz:∀a b k,H k=none→H1 k≠none→nid z4≠some k→upd (upd K3 i5 a) i4 b k=H1 k:=fun a b k c d e=>by
     have:k≠id4:=fun e' =>by
      rcases hor' with hor|hor
      ·have:=kK k d;rw[e',hor]at this;exact d (by rw[e'];exact this.symm)
      ·exact e (by rw[e'];exact hor)
     rw[ag _ _ (hz4 k c),ag _ _ (hz5 k c d),ho2 k this,kK k d]
    have sg3:Ab.Sub g K3:=fun k b hk=>by rw[ho2 k (fun e=>by rw[e,gid4]at hk;cases hk)];exact sg _ _ hk
    refine .mk _ (.refl _) (.refl _) ⟨(sg3.put g5 _).put h4' _,_,?_,fun _=>hi0⟩
    rw[hdo];have hw' :OwE 141 g K3 2 y' ((s.roles++ [(⟨o.case,o.field⟩:gV)]).map eL):=by rw[List.map_append];exact .inr ⟨id4,gid4,hw⟩
    have hry:∀k,nid y' =some k→H1 k=none∨nid z4=some k:=fun k e=>by
     have:id4=k:=by have:=hw.nid;rw[e]at this;exact(Option.some.inj this).symm
     subst this;exact hor'.imp (fun h=>sK.none h) id
    have har:∀ {w:AV},apart w z4→(∀k,nid w=some k→H1 k≠none)→apart w y' :=fun ha hh k e1 e2=>(hry k e2).elim (fun h=>hh k e1 h) (fun h=>ha k e1 h)
    refine oV rfl hpp rfl ((hC.move (z:=z4) aci a14 (kz _ _) fun w hw k e=>?_).bJ (fun _ e=>hH.none e)) ((w2.keep fun id e=>kz _ _ id (w2.nid e).1 (w2.nid e).2.1 fun e1=>a24 id e e1).bJ fun _ e=>hH.none e) ((w3.keep fun id e=>kz _ _ id (w3.nid e).1 (w3.nid e).2.1 fun e1=>a34 id e e1).bJ fun _ e=>hH.none e) (hw'.keep fun id e=>?_) ⟨a12,a13,har a14 fun k e=>(w1.nid e).2.1,a23,har a24 fun k e=>(w2.nid e).2.1,har a34 fun k e=>(w3.nid e).2.1⟩
    ·simp only[List.mem_cons,List.not_mem_nil,or_false]at hw
     rcases hw with rfl|rfl|rfl|rfl
     ·exact .inr ⟨w,aci,e⟩
     ·exact .inr ⟨w,aci,e⟩
     ·exact .inr ⟨w,aci,e⟩
     ·exact(hry k e).imp id fun h=>⟨z4,aci,h⟩
    ·have:id=id4:=by have:=hw.nid;rw[e]at this;exact Option.some.inj this
     rw[this,ag _ _ n44.symm,ag _ _ n45.symm]
   ·simp only[go_sem]
    simp only[go_sem,k5,k4];have hdo:doD aQ s o=s:=by simp[doD,p6,dha]
    rw[hdo];refine .mk _ (.refl _) (.refl _) ⟨sg.put h4' _,_,(hS.keepb fun k hk hk1=>?_).bJ fun _ e=>hH.none e,fun _=>hi0⟩
    rw[ag _ _ (hz4 k hk),kK k hk1]
  have k6' :(o.kind==6)=false:=by simp[p6]
  simp only[go_sem,k6']
  by_cases p7:o.kind=7
  ·have k7' :(o.kind==7)=true:=by simp[p7]
   simp only[go_sem,k7'];simp only[go_sem,k3];refine(yu o.text _ (he.sub sg)).pthen ?_;obtain⟨⟨pp,e,a⟩,epp⟩:∃x,aQ o.text=x:=⟨_,rfl⟩;obtain⟨qid,qset,qalg,qtgt,qrules,qkids,qobls⟩:=pp;rw[epp];simp only[go_sem,jR,aM,aX];intro i9 h9;have n95:i5≠i9:=fun e=>by rw[←e,k5]at h9;cases h9
   have n94:i4≠i9:=fun e=>by rw[←e,k4]at h9;cases h9
   simp only[go_sem];have g9:g i9=none:=sg.none h9;have sg9:∀b,Ab.Sub g (upd K i9 b):=fun b=>sg.put g9 b
   have hz9:∀k,H1 k≠none→k≠i9:=fun k hk e=>hk (by have:=kK k hk;rw[e,h9]at this;rw[e];exact this.symm)
   by_cases pe:e=0
   ·have de:(e==0)=true:=by simp[pe]
    have wv:IntKind.i64.wrap (s.version+1)=s.version+1:=bf _ ab7;simp only[go_sem,de];simp only[go_sem,ak,n95,n94,n54,k5,k4,wv];have hdo:doD aQ s o= {s with policy:=.mk qid qset qalg qtgt qrules qkids qobls,version:=s.version+1}:=by simp[doD,p7,epp,pe]
    have kz:∀a b c k,H k=none→H1 k≠none→upd (upd (upd K i9 a) i5 b) i4 c k=H1 k:=fun a b c k d e=>by rw[ag _ _ (hz4 k d),ag _ _ (hz5 k d e),ag _ _ (hz9 k e),kK k e]
    refine .mk _ (.refl _) (.refl _) ⟨((sg9 _).put g5 _).put h4' _,_,?_,fun _=>hi0⟩
    rw[hdo];exact oV rfl rfl rfl ((hC.keepb (kz _ _ _)).bJ (fun _ e=>hH.none e)) ((w2.keepb (kz _ _ _)).bJ (fun _ e=>hH.none e)) ((w3.keepb (kz _ _ _)).bJ (fun _ e=>hH.none e)) ((w4.keepb (kz _ _ _)).bJ (fun _ e=>hH.none e)) ⟨a12,a13,a14,a23,a24,a34⟩
   ·have de:(e==0)=false:=by simp[pe]
    simp only[go_sem,de];simp only[go_sem,ak,n95,n94,k5,k4];have hdo:doD aQ s o=s:=by simp[doD,p7,epp,pe]
    rw[hdo];refine .mk _ (.refl _) (.refl _) ⟨(sg9 _).put h4' _,_,(hS.keepb fun k hk hk1=>?_).bJ fun _ e=>hH.none e,fun _=>hi0⟩
    rw[ag _ _ (hz4 k hk),ag _ _ (hz9 k hk1),kK k hk1]
  have k7' :(o.kind==7)=false:=by simp[p7]
  simp only[go_sem,k7']
  by_cases p8:o.kind=8
  ·have k8' :(o.kind==8)=true:=by simp[p8]
   simp only[go_sem,k8'];have hrv:0<o.review∧o.review≤1099511627776:=by
    simp only[dF,dP,Bool.and_eq_true]at hform;simpa[okD,p8]using hform.2.1.2
   have htk:¬s.tick>1099511627776 - o.review:=by
    intro hgt;simp[bL,hform,p8,hgt]at p0
   have w8:IntKind.i64.wrap (s.tick+o.review)=s.tick+o.review:=bf _ (by have:=ht.1;omega)
   simp only[go_sem,k5,k3,w8];simp only[go_sem,ak,n54,k4];have hdo:doD aQ s o= {s with tick:=s.tick+o.review}:=by simp[doD,p8]
   have kz:∀a b k,H k=none→H1 k≠none→upd (upd K i5 a) i4 b k=H1 k:=fun a b k c d=>by rw[ag _ _ (hz4 k c),ag _ _ (hz5 k c d),kK k d]
   refine .mk _ (.refl _) (.refl _) ⟨(sg.put g5 _).put h4' _,_,?_,fun _=>hi0⟩
   rw[hdo];exact oV rfl hpp rfl ((hC.keepb (kz _ _)).bJ (fun _ e=>hH.none e)) ((w2.keepb (kz _ _)).bJ (fun _ e=>hH.none e)) ((w3.keepb (kz _ _)).bJ (fun _ e=>hH.none e)) ((w4.keepb (kz _ _)).bJ (fun _ e=>hH.none e)) ⟨a12,a13,a14,a23,a24,a34⟩
  have k8' :(o.kind==8)=false:=by simp[p8]
  simp only[go_sem,k8'];simp only[go_sem,k5,k4];have hdo:doD aQ s o=s:=by simp[doD,p1,p3,p4,p5,p6,p7,p8]
  rw[hdo];refine .mk _ (.refl _) (.refl _) ⟨sg.put h4' _,_,(hS.keepb fun k hk hk1=>?_).bJ fun _ e=>hH.none e,fun _=>hi0⟩
  rw[ag _ _ (hz4 k hk),kK k hk1]
 ·have d0:(bL s o !=0)=true:=by simp[p0]
  simp only[go_sem,d0];simp only[go_sem,k5,k4];have hdone:dU aQ s o=s:=by simp[dU,p0]
  rw[hdone];refine .mk _ (.refl _) (.refl _) ⟨sg.put h4' _,_,(hS.keepb fun k hk hk1=>?_).bJ fun _ e=>hH.none e,fun h=>(p0 h).elim⟩
  rw[ag _ _ (hz4 k hk),kK k hk1]
end Go.Proofs.YtfdgemhnlennbaaGreatDoor
namespace Go.Bf
def Lb:Txt:=[112,111,108,105,99,121,32,111,112,101,110,32,112,101,114,109,105,116,117,110,108,101,115,115,32,123,32,125]
def lH:bH:=.mk jC false 6 [] [] [] []
def wh:an:=⟨0,[],[],[],[],lH,0⟩
end Go.Bf
namespace Go.Proofs.YtfdgemhnlennbaaGreatDoor
open Go Go.Ab Go.Bf
theorem Nn{g K:Heap}{S:an}{y1 y2 y3 y4:AV}{tk ver palg:Int}{pid:Txt}{pset:Bool}{ptgt:fY}{prules:List cP}{pkids:List bH}{pobls:List cA}(h1:S.tick=tk)(h2:S.policy= .mk pid pset palg ptgt prules pkids pobls)(h3:S.version=ver)
  (a:Frz g K y1 (fZ S.cases)) (b:Frz g K y2 (j4 S.reviews)) (c:Frz g K y3 (kY S.notices)) (d:Frz g K y4 (dZ S.roles)):
  Frz g K (.agg [.i tk,y1,y2,y3,y4,.s pid,.b pset,.i palg,aV ptgt,.sl (prules.map aB) .no,.sl (pkids.map aM) .no,aA pobls,.i ver]) (cK S):=by
 have:=ug a b c d;rw[h1,h2,h3,show fW (.mk pid pset palg ptgt prules pkids pobls)= [.s pid,.b pset,.i palg,aV ptgt,.sl (prules.map aB) .no,.sl (pkids.map aM) .no,aA pobls] by simp[fW,aX]]at this
 exact acQ
theorem JJ{H:Heap}{i j:Nat}{a b:Option Blk}(c:Option Blk)(h:i≠j):upd (upd (upd H i a) j b) i c=upd (upd H i c) j b:=by
 grind [ah,ag]
theorem Lc:aQ Lb=(lH,0,0):=acr
theorem Q0(h:Heap)(he:j7 h):ai Tryz.prog 17 [] h fun r h' =>r=cK wh∧h' =h:=
 ai.freeze fun g hg _=>by
 replace he:=he.sub hg;refine ab6 Tryz.func17 11 [.cell 0 63] fun hwf=>?_
 simp only[go_sem];intro i1 h1;simp only[go_sem];refine(yu Lb _ (he.sub (.aj h1))).pthen ?_;rw[Lc];simp only[go_sem,jR,lH,aM,aV,aA,fF,jC,List.map_nil];intro i2 h2;have n21:=aH h2;have n2:=aC h2;simp only[go_sem,ak,n21.symm];refine .mk _ (.refl _) (.refl _) ⟨?_,cK wh,Nn (S:=wh) rfl rfl rfl lY lY lY lY,rfl⟩;rw[JJ _ n21.symm];exact((Sub.refl g).put h1 _).put n2 _
theorem rG(s:Txt)(h:Heap):ai Tryz.prog 106 [.s s] h fun r h' =>r=aS (idV s)∧h' =h:=by
 refine ab6 Tryz.func106 5 [.cell 2 33] fun hwf=>?_
 exact ahv
theorem dQ(cat:Int)(name:Txt)(xs:List AV)(q:Perm)(h:Heap):ai Tryz.prog 107 [.i cat,.s name,.sl xs q] h fun r h' =>r= .agg [.i cat,.s name,.sl xs q]∧h' =h:=by
 refine ab6 Tryz.func107 11 [.cell 6 182] fun hwf=>?_
 exact ahv
theorem KT{α:Type}(y:AV)(xs:List AV)(ds:List α)(q:α→Bool)(g:FuncId)(cap:List AV)(h:Heap)(hb:Rd h 3 y xs)(hn:xs.length=ds.length)(hl:xs.length≤1000000000)(hx:∀x∈xs,bA x=true)
  (hp:∀i (h1:i<xs.length) (h2:i<ds.length),ai Tryz.prog g (xs[i]::cap) h fun r h' =>r= .b (q ds[i])∧h' =h):
  ai Tryz.prog 249 [y,.fn g cap] h fun r h' =>r= .i (ixD q ds)∧h' =h:=by
 refine ab6 Tryz.func249 19 [.tmp 4] fun hwf=>?_
 simp only[go_sem,hb.len];refine .intro (fun m ρ h' =>h' =h∧∃i:Nat,i≤xs.length∧m=xs.length - i∧(∀j (hj:j<i) (h2:j<ds.length),q ds[j]=false)∧lk ρ 0=some y∧lk ρ 1=some (.fn g cap)∧lk ρ 7=some (.i xs.length)∧lk ρ 8=some (.i i)) xs.length ?_ ?_
 ·refine⟨rfl,0,ab7,rfl,fun j hj=>ab7,?_,?_,?_,?_⟩<;>simp only[go_sem]
 ·rintro m ρ h' ⟨rfl,i,hi,rfl,hc,r0,r1,r7,r8⟩
  simp only[go_sem,r7,r8];refine .intro (fun e=>?_) (fun e=>?_)
  ·have hlt:i<xs.length:=ab4 e
   have hlt2:i<ds.length:=ab7;have w1:IntKind.i64.wrap ((i:Int)+1)=((i+1:Nat):Int):=acn;simp only[go_sem,r0,r1,r8];refine hb.idx (e:=191) i rfl hlt acr acd fun p hp1=>?_
   have hld:=hp1.all (U:=U) (ty:=191) acd ac4 adV;simp only[go_sem,hld];refine(show ai Tryz.prog g (xs[i]::cap) _ _ from hp i hlt hlt2).pthen ?_
   cases d1:q ds[i]
   ·simp only[go_sem,r8,w1]
    refine⟨_,?_,rfl,i+1,ab7,rfl,fun j hj h2=>?_,?_,?_,?_,?_⟩
    ·omega
    ·grind
    all_goals simp only[go_sem,r0,r1,r7]
   ·simp only[go_sem]
    exact .same (.refl _) ⟨acS,rfl⟩
  ·have hge:i=xs.length:=by grind
   simp only[go_sem];exact .same (.refl _) ⟨acF,rfl⟩
theorem Mh{h:Heap}(x:wR){k:Nat}{subj:Txt}(hk:h k=some (.obj [.s subj] 9)):ai Tryz.prog 212 [iF x,.ptr k 0] h fun r h' =>r= .b (x.actor==subj)∧h' =h:=by
 refine ab6 Tryz.func212 8 [.tmp 3] fun hwf=>?_
 simp only[go_sem,iF];exact agt
theorem tY{α:Type}(q:α→Bool)(l:List α):decide ((0:Int)≤ixD q l)=l.any q:=by
 unfold ixD
 grind
theorem IG(y:AV)(ds:List wR)(q:wR→Bool)(g:FuncId)(cap:List AV)(h:Heap)(hb:Rd h 3 y (ds.map iF))(hl:ds.length≤1000000000)
  (hp:∀i (h2:i<ds.length),ai Tryz.prog g (iF ds[i]::cap) h fun r h' =>r= .b (q ds[i])∧h' =h):
  ai Tryz.prog 211 [y,.fn g cap] h fun r h' =>r= .b (ds.any q)∧h' =h:=by
 refine ab6 Tryz.func211 9 [.tmp 4] fun hwf=>?_
 simp only[go_sem];refine(KT y _ ds q g cap h hb aci ab8 (oC (fun _=>rfl) _) fun i a b=>by rw[abY];exact hp i b).pthen ?_
 simp only[go_sem,tY];exact aco
theorem Ol{h:Heap}{x:AV}{c:aL}(hb:RdC h x c)(subj:Txt)(hl:c.log.length≤1000000000):ai Tryz.prog 165 [x,.s subj] h fun r h' =>r=aS (tO c.log subj)∧h' =h:=by
 obtain⟨f,l,rfl,hf,hlg⟩:=hb;refine ab6 Tryz.func165 13 [.cell 4 33] fun hwf=>?_
 simp only[go_sem];intro i1 h1;simp only[go_sem];intro i2 h2;have n21:=aH h2;have n2:=aC h2;simp only[go_sem];intro i3 h3;have h3' :=aC h3;have n31:=aH h3';have n3:=aC h3';simp only[go_sem];intro i4 h4;have n43:=aH h4;have h4' :=aC h4;have h4'' :=aC h4';have n41:=aH h4'';have n4:=aC h4'';have hs:∀a b d e,Ab.Sub h (upd (upd (upd (upd h i1 a) i2 b) i3 d) i4 e):=fun a b d e=>((((Sub.refl h).put h1 a).put n2 b).put n3 d).put n4 e
 simp only[go_sem,ak,n21.symm,n31.symm,n41.symm];refine(IG l c.log (fun x=>x.actor==subj) _ [.ptr i2 0] _ (hlg.sub (hs _ _ _ _)) hl fun i b=>Mh _ (by grind [ak,gb,not_false_eq_true])).pthen ?_
 cases d1:c.log.any fun x=>x.actor==subj
 ·exact ahd
 ·exact ahd
def zp(g:bn)(q:Perm):AV:=.agg [.i g.cat,.s g.name,.sl (g.bag.map aS) q]
def GRow(ys:List AV)(gs:List bn):Prop:=ys.length=gs.length∧∀j (h1:j<ys.length) (h2:j<gs.length),∃q,ys[j]=zp gs[j] q
theorem GRow.sized{ys:List AV}{gs:List bn}(h:GRow ys gs):Sized 3 ys:=fun z hz=>by
 obtain⟨i,hi,rfl⟩:=List.mem_iff_getElem.1 hz;obtain⟨q,e⟩:=h.2 i hi (by rw[←h.1];omega)
 rw[e];rfl
theorem GRow.one(g:bn)(q:Perm):GRow [zp g q] [g]:=⟨rfl,fun j h1 h2=>by
 grind⟩
theorem GRow.app{ys zs:List AV}{gs ks:List bn}(h:GRow ys gs)(k:GRow zs ks):GRow (ys++zs) (gs++ks):=⟨by simp[h.1,k.1],fun j h1 h2=>by
 have hl:=h.1
 by_cases e:j<ys.length
 ·rw[List.getElem_append_left e,List.getElem_append_left ab7];exact h.2 j e ab7
 ·rw[List.getElem_append_right ab7,List.getElem_append_right ab7]
  simp only[ab1]at h1 h2;obtain⟨q,e'⟩:=k.2 (j - ys.length) ab7 ab7;exact⟨q,ab8⟩⟩
theorem GRow.weak{ys:List AV}{gs:List bn}(h:GRow ys gs)(q:Perm):Weak (.sl ys q) (bI gs):=by
 refine .deep _ _ q (by simp[h.1]) (fun k h1 h2=>?_) fun k h1 h2 j h3 h4=>?_
 ·obtain⟨q',e'⟩:=h.2 k h1 ab8
  rw[e',abY];rfl
 ·obtain⟨q',e'⟩:=h.2 k h1 ab8
  simp only[e',abY];simp only[e',zp,AV.cells]at h3;rcases j with _|_|_|j
  ·exact adu
  ·exact adu
  ·exact aeJ
  ·simp at h3;omega
theorem GRow.givs(gs:List bn):GRow (gs.map kS) gs:=⟨aci,fun j h1 h2=>⟨.no,acq⟩⟩
theorem ct:(U 182).sz=3:=acr
theorem fM(g:bn)(q:Perm):Sized 3 [zp g q]:=fun z hz=>aeY
def rT(c:aL)(subj:Txt):List bn:=[⟨3,idT,[idV c.id]⟩,⟨3,[111,119,110,101,114],[idV c.owner]⟩,⟨3,[115,116,97,116,101],[idV c.state]⟩,⟨3,[101,118,101,110,116,115],[⟨2,c.log.length,[]⟩]⟩,⟨3,[116,111,111,107],[tO c.log subj]⟩]
def rV(c:aL):List bn:=match c.log.getLast? with
 |some x=>[⟨3,[108,97,115,116],[idV x.actor]⟩]
 |none=>[]
def fO(l:List cY):List bn:=(l.filter fun f=>decide (f.name.length≤14)).map fun f=>⟨3,[102,95]++f.name,[f.val]⟩
theorem lS(l:List cY)(i:Nat)(h:i<l.length):fO (l.take (i+1))=fO (l.take i)++(if l[i].name.length≤14 then [⟨3,[102,95]++l[i].name,[l[i].val]⟩]else []):=by
 grind [fO,List.take_succ_eq_append_getElem]
theorem pW(c:aL)(subj:Txt):cC c subj=rT c subj++rV c++fO c.fields:=rfl
theorem Es{h:Heap}(c:aL)(subj:Txt)(hl:c.log.length≤1000000)(hlf:c.fields.length≤1000000):ai Tryz.prog 108 [cr c,.s subj] h fun r h' =>r=bI (cC c subj)∧h' =h:=by
 refine ab6 Tryz.func108 77 [.tmp 4] fun hwf=>?_
 simp only[go_sem,cr,mU,gv,rY];intro i1 h1;simp only[go_sem];refine .quiet ace ?_;simp only[go_sem];refine⟨_,rG _ _,?_⟩;simp only[go_sem,aS,idV];refine⟨_,dQ _ _ _ _ _,?_⟩;simp only[go_sem];refine⟨_,rG _ _,?_⟩;simp only[go_sem,aS,idV];refine⟨_,dQ _ _ _ _ _,?_⟩;simp only[go_sem];refine⟨_,rG _ _,?_⟩;simp only[go_sem,aS,idV];refine⟨_,dQ _ _ _ _ _,?_⟩;simp only[go_sem];refine⟨_,dQ _ _ _ _ _,?_⟩;simp only[go_sem];refine⟨_,Ol (show RdC _ (.agg [.s c.id,.s c.owner,.s c.state,.sl (c.fields.map bN) .no,.sl (c.log.map iF) .no]) c from rdC _ c) subj ab7,?_⟩
 simp only[go_sem,aS];refine⟨_,dQ _ _ _ _ _,?_⟩;simp only[go_sem,abX];have hs1:∀b,Ab.Sub h (upd h i1 b):=fun b=>(Sub.refl h).put h1 b
 have hrow5:GRow [.agg [.i 3,.s [105,100],.sl [.agg [.i 5,.i 0,.s c.id]] .full],.agg [.i 3,.s [111,119,110,101,114],.sl [.agg [.i 5,.i 0,.s c.owner]] .full],.agg [.i 3,.s [115,116,97,116,101],.sl [.agg [.i 5,.i 0,.s c.state]] .full],.agg [.i 3,.s [101,118,101,110,116,115],.sl [.agg [.i 2,.i c.log.length,.s []]] .full],.agg [.i 3,.s [116,111,111,107],.sl [aS (tO c.log subj)] .full]] (rT c subj):=(GRow.one ⟨3,idT,[idV c.id]⟩ .full).app ((GRow.one ⟨3,[111,119,110,101,114],[idV c.owner]⟩ .full).app ((GRow.one ⟨3,[115,116,97,116,101],[idV c.state]⟩ .full).app ((GRow.one ⟨3,[101,118,101,110,116,115],[⟨2,c.log.length,[]⟩]⟩ .full).app (GRow.one ⟨3,[116,111,111,107],[tO c.log subj]⟩ .full))));simp only[aS]at hrow5;cases d1:decide ((0:Int)<(c.log.length:Int))
 ·have hl0:c.log= []:=List.length_eq_zero_iff.1 ab8
  simp only[go_sem];simp only[go_sem,abX];refine .intro (fun m ρ H=>∃(i:Nat) (y:AV) (ys:List AV),Acc U 182 h H y ys∧H i1=some (.obj [.s c.id,.s c.owner,.s c.state,.sl (c.fields.map bN) .no,.sl (c.log.map iF) .no] 122)∧GRow ys (rT c subj++fO (c.fields.take i))∧i≤c.fields.length∧m=c.fields.length - i∧lk ρ 5=some y∧lk ρ 2=some (.ptr i1 0)∧lk ρ 55=some (.sl (c.fields.map bN) .no)∧lk ρ 56=some (.i c.fields.length)∧lk ρ 57=some (.i i)) c.fields.length ?_ ?_
  ·refine⟨0,_,_,.full (hs1 _),ah ..,(by have:=hrow5;simpa[fO]using this),ab7,rfl,?_,?_,?_,?_,?_⟩<;>simp only[go_sem]
  ·rintro m ρ H ⟨i,y,ys,hy,g1,hrow,hi,rfl,r5,r2,r55,r56,r57⟩
   simp only[go_sem,r56,r57];refine .intro (fun e=>?_) (fun e=>?_)
   ·have hlt:i<c.fields.length:=ab4 e
    have w1:IntKind.i64.wrap ((i:Int)+1)=((i+1:Nat):Int):=acn;simp only[go_sem,r55,r57];refine .at i ab8 acq ?_;simp only[go_sem,abY,bN];intro i8 h8;have n81:i1≠i8:=fun e=>ab8
    simp only[go_sem];cases d2:decide ((c.fields[i].name.length:Int)≤14)
    ·exact agv
    ·simp only[go_sem,r5]
     have h14:c.fields[i].name.length≤14:=ab8;refine⟨by grind [Nat,lim],?_⟩
     refine(dQ _ _ _ _ _).pthen ?_;simp only[go_sem];refine(hy.sub (.aj h8)).app (zs:=[zp ⟨3,[102,95]++c.fields[i].name,[c.fields[i].val]⟩ .full]) acd acd (fun k hk=>(Rd.sl (fM _ _) .full:Rd _ 3 _ _).src ct hk) (by rw[ct];exact hrow.sized) (by grind [ct,fM]) (by
      have hln:(fO (c.fields.take i)).length≤i:=aeb;simp only[go_sem,hrow.1,List.length_cons,List.length_nil,rT];omega) fun y' H' hy' kp=>?_
     exact agQ
   ·have hge:i=c.fields.length:=by grind
    subst hge;rw[List.take_length]at hrow;obtain⟨q,rfl⟩:=hy.row;simp only[go_sem,r5];exact .mk (bI (cC c subj)) (show Weak (.sl ys q) _ by rw[pW,rV,hl0];simpa using hrow.weak q) hy.1 ⟨rfl,rfl⟩
 ·have hl1:0<c.log.length:=by grind
  simp only[go_sem];have w0:IntKind.i64.wrap ((c.log.length:Int) - 1)=((c.log.length - 1:Nat):Int):=acn;simp only[go_sem,w0];refine .at (c.log.length - 1) ab8 acq ?_;simp only[go_sem,abY,iF];rw[if_neg (fun hh=>hh.1)]
  refine(rG _ _).pthen ?_;simp only[go_sem,aS,idV];refine(dQ _ _ _ _ _).pthen ?_;simp only[go_sem];have hgl:c.log.getLast? =some c.log[c.log.length - 1]:=ab8;have hlast:GRow [.agg [.i 3,.s [108,97,115,116],.sl [.agg [.i 5,.i 0,.s c.log[c.log.length - 1].actor]] .full]] (rV c):=by
   unfold rV;rw[hgl];exact GRow.one ⟨3,[108,97,115,116],[idV c.log[c.log.length - 1].actor]⟩ .full
  refine .accs (hs1 _) fun y0 H0 hy0 kp0=>?_
  simp only[go_sem,kp0 _ _ _ (ah ..),abX];refine .intro (fun m ρ H=>∃(i:Nat) (y:AV) (ys:List AV),Acc U 182 h H y ys∧H i1=some (.obj [.s c.id,.s c.owner,.s c.state,.sl (c.fields.map bN) .no,.sl (c.log.map iF) .no] 122)∧GRow ys ((rT c subj++rV c)++fO (c.fields.take i))∧i≤c.fields.length∧m=c.fields.length - i∧lk ρ 5=some y∧lk ρ 2=some (.ptr i1 0)∧lk ρ 55=some (.sl (c.fields.map bN) .no)∧lk ρ 56=some (.i c.fields.length)∧lk ρ 57=some (.i i)) c.fields.length ?_ ?_
  ·refine⟨0,_,_,hy0,kp0 _ _ _ (ah ..),(by have:=hrow5.app hlast;simpa[fO]using this),ab7,rfl,?_,?_,?_,?_,?_⟩<;>simp only[go_sem]
  ·rintro m ρ H ⟨i,y,ys,hy,g1,hrow,hi,rfl,r5,r2,r55,r56,r57⟩
   simp only[go_sem,r56,r57];refine .intro (fun e=>?_) (fun e=>?_)
   ·have hlt:i<c.fields.length:=ab4 e
    have w1:IntKind.i64.wrap ((i:Int)+1)=((i+1:Nat):Int):=acn;simp only[go_sem,r55,r57];refine .at i ab8 acq ?_;simp only[go_sem,abY,bN];intro i8 h8;have n81:i1≠i8:=fun e=>ab8
    simp only[go_sem];cases d2:decide ((c.fields[i].name.length:Int)≤14)
    ·exact agv
    ·simp only[go_sem,r5]
     have h14:c.fields[i].name.length≤14:=ab8;refine⟨by grind [Nat,lim],?_⟩
     refine(dQ _ _ _ _ _).pthen ?_;simp only[go_sem];refine(hy.sub (.aj h8)).app (zs:=[zp ⟨3,[102,95]++c.fields[i].name,[c.fields[i].val]⟩ .full]) acd acd (fun k hk=>(Rd.sl (fM _ _) .full:Rd _ 3 _ _).src ct hk) (by rw[ct];exact hrow.sized) (by grind [ct,fM]) (by
      have hln:(fO (c.fields.take i)).length≤i:=aeb;simp only[go_sem,hrow.1,List.length_cons,List.length_nil,rT,rV,hgl];omega) fun y' H' hy' kp=>?_
     exact agQ
   ·have hge:i=c.fields.length:=by grind
    subst hge;rw[List.take_length]at hrow;obtain⟨q,rfl⟩:=hy.row;simp only[go_sem,r5];exact .mk (bI (cC c subj)) (show Weak (.sl ys q) _ by rw[pW];exact hrow.weak q) hy.1 ⟨rfl,rfl⟩
theorem DN{l:List gV}{subj:Txt}{i:Nat}(h:i<l.length)(h1:l[i].subj=subj)(h2:(cX (l.take i) subj).length<16):cX (l.take (i+1)) subj=cX (l.take i) subj++ [idV l[i].role]:=by
 unfold cX at h2⊢;rw[List.take_succ_eq_append_getElem h,List.filter_append,List.map_append]
 grind [List.length_take,idV,List.take_append,List.take_of_length_le]
theorem yL{l:List gV}{subj:Txt}{i:Nat}(h:i<l.length)(h1:l[i].subj≠subj∨¬(cX (l.take i) subj).length<16):cX (l.take (i+1)) subj=cX (l.take i) subj:=by
 grind [cX,List.take_succ_eq_append_getElem,List.take_append,List.length_take]
theorem FF(l:List gV)(subj:Txt):(cX l subj).length≤16:=by grind [cX,List.length_take]
def cM(s:an)(o:OpD):List bn:=[⟨1,idT,[idV o.subj]⟩,⟨1,[114,111,108,101],cX s.roles o.subj⟩,⟨2,[110,97,109,101],[idV (jH o.kind)]⟩]
theorem xE{s:an}(hf:Few s)(id:Txt):(bw s.cases id).log.length≤1000000∧(bw s.cases id).fields.length≤1000000:=by
 cases e:bY s.cases id
 ·rw[Cm e];decide
 ·rw[Cl e];exact⟨hf.log _ aci,hf.fields _ aci⟩
theorem Ch(c:aL)(subj:Txt):(cC c subj).length≤6+c.fields.length:=by
 grind [pW,ab1,rV,fO,abX,List.length_filter_le,rT]
theorem jA{h G:Heap}{i:Nat}(hs:Ab.Sub h G)(hi:G i=none):h i=none:=hs.none hi
theorem B0:(U 33).sz=3:=acr
theorem P6{h:Heap}{x:AV}{s:an}(hb:RdS h x s)(o:OpD)(hf:Few s)(hk:i64 o.kind):ai Tryz.prog 53 [x,opA o] h fun r h' =>r=bI (fG s o)∧h' =h:=by
 have hca:=fun(G:Heap) (hG:Ab.Sub h G)=>Bp (hb.sub hG) o.case hf
 obtain⟨y1,y2,y3,y4,rfl,⟨xs,hc,hn,hcs⟩,h2,h3,h4⟩:=hb;cases hpp:s.policy with
 |mk pid pset palg ptgt prules pkids pobls=>
 have hcC:fW (.mk pid pset palg ptgt prules pkids pobls)= [.s pid,.b pset,.i palg,aV ptgt,.sl (prules.map aB) .no,.sl (pkids.map aM) .no,aA pobls]:=ae7;rw[hpp,hcC]at hca;simp only[List.cons_append,List.nil_append]at hca;have hfr:=hf.roles;refine ab6 Tryz.func53 99 [.tmp 4] fun hwf=>?_
 simp only[go_sem,hcC,opA,opC,List.cons_append,List.nil_append];intro i1 h1;simp only[go_sem];intro i2 h2';have n21:=aH h2';have n2:=aC h2';simp only[go_sem,ak,n21.symm,h4.len,abX];obtain⟨H,eH⟩:∃H,upd (upd h i1 (some (.obj [.i s.tick,y1,y2,y3,y4,.s pid,.b pset,.i palg,aV ptgt,.sl (prules.map aB) .no,.sl (pkids.map aM) .no,aA pobls,.i s.version] 63))) i2 (some (.obj (opC o) 39))=H:=⟨_,rfl⟩;have hH:Ab.Sub h H:=ac9;have g1:H i1=some (.obj [.i s.tick,y1,y2,y3,y4,.s pid,.b pset,.i palg,aV ptgt,.sl (prules.map aB) .no,.sl (pkids.map aM) .no,aA pobls,.i s.version] 63):=adI;have g2:H i2=some (.obj (opC o) 39):=adB;simp only[opC]at eH g2;rw[eH];clear eH;refine .intro (fun m ρ G=>∃(i:Nat) (y:AV),Acc U 33 H G y ((cX (s.roles.take i) o.subj).map aS)∧i≤s.roles.length∧m=s.roles.length - i∧lk ρ 5=some y∧lk ρ 2=some (.ptr i1 0)∧lk ρ 3=some (.ptr i2 0)∧lk ρ 12=some y4∧lk ρ 13=some (.i s.roles.length)∧lk ρ 14=some (.i i)) s.roles.length ?_ ?_
 ·refine⟨0,_,.full (.refl _),ab7,rfl,?_,?_,?_,?_,?_,?_⟩<;>simp only[go_sem,cX,List.take_zero,List.filter_nil,List.map_nil]
 ·rintro m ρ G ⟨i,y,hy,hi,rfl,r5,r2,r3,r12,r13,r14⟩
  have k1:=hy.1 _ _ g1;have k2:=hy.1 _ _ g2;simp only[go_sem,r13,r14];refine .intro (fun e=>?_) (fun e=>?_)
  ·have hlt:i<s.roles.length:=ab4 e
   have w1:=ab3 i ab7;simp only[go_sem,r12,r14];refine(h4.sub (hH.trans hy.1)).idx (e:=141) i rfl acC Hx acd fun p hp1=>?_
   have hld:=hp1.all (U:=U) (ty:=141) acj (by rw[Hx,abY];rfl) acP
   simp only[go_sem,hld,abY,eL];intro i7 h7;have n71:i1≠i7:=fun e=>by rw[←e,k1]at h7;cases h7
   have n72:i2≠i7:=fun e=>by rw[←e,k2]at h7;cases h7
   simp only[go_sem,ak,n72,k2,r3];have hy7:=hy.sub (.aj h7 (k:=some (.obj [.s s.roles[i].subj,.s s.roles[i].role] 141)));have lr:=FF (s.roles.take i) o.subj;cases d1:(s.roles[i].subj==o.subj)
   ·have p1:s.roles[i].subj≠o.subj:=by simpa using d1
    simp only[go_sem,r14,w1];refine⟨_,?_,i+1,y,by rw[yL hlt (.inl p1)];exact hy7,ab7,rfl,?_,?_,?_,?_,?_,?_⟩
    ·omega
    all_goals simp only[go_sem,r5,r2,r3,r12,r13]
   ·have p1:s.roles[i].subj=o.subj:=by simpa using d1
    simp only[go_sem,r5,hy.len,abX];cases d2:decide (((cX (s.roles.take i) o.subj).length:Int)<16)
    ·have p2:¬(cX (s.roles.take i) o.subj).length<16:=by have:=ab0 d2;omega
     simp only[go_sem,r14,w1];refine⟨_,?_,i+1,y,by rw[yL hlt (.inr p2)];exact hy7,ab7,rfl,?_,?_,?_,?_,?_,?_⟩
     ·omega
     all_goals simp only[go_sem,r5,r2,r3,r12,r13]
    ·have p2:(cX (s.roles.take i) o.subj).length<16:=by have:=abZ d2;omega
     simp only[go_sem,r5];refine(rG _ _).pthen ?_;simp only[go_sem,aS,idV];refine hy7.app (zs:=[aS (idV s.roles[i].role)]) (by rw[B0];decide) acf (fun k hk=>(Rd.sl (fun z hz=>aeY) .full:Rd _ 3 _ _).src B0 hk) (by rw[B0];exact bu (f:=aS) (fun _=>rfl) _) (by rw[B0];exact bu (f:=aS) (fun _=>rfl) [idV s.roles[i].role]) adp fun y' H' hy' kp=>?_
     simp only[go_sem,r14,w1];refine⟨_,?_,i+1,y',by rw[DN hlt p1 p2,List.map_append];exact hy',ab7,rfl,?_,?_,?_,?_,?_,?_⟩
     ·omega
     all_goals simp only[go_sem,r2,r3,r12,r13]
  ·have hge:i=s.roles.length:=by have:=ab0 e;omega
   subst hge;rw[List.take_length]at hy;simp only[go_sem];obtain⟨q5,rfl⟩:=hy.row;refine .quiet ace ?_;simp only[go_sem,k2,r3];refine⟨_,rG _ _,?_⟩;simp only[go_sem,aS,idV];refine⟨_,dQ _ _ _ _ _,?_⟩;simp only[go_sem,r5];refine⟨_,dQ _ _ _ _ _,?_⟩;simp only[go_sem,k2,r3];refine⟨_,zS _ hk _,?_⟩;simp only[go_sem];refine⟨_,rG _ _,?_⟩;simp only[go_sem,aS,idV];refine⟨_,dQ _ _ _ _ _,?_⟩;simp only[go_sem,k2,r3];have hak:=fun(G:Heap)=>Es (h:=G) (bw s.cases o.case) o.subj (xE hf o.case).1 (xE hf o.case).2
   simp only[cr,mU,gv,rY]at hak;have hakl:=Ch (bw s.cases o.case) o.subj;have hakf:=(xE hf o.case).2;have hr0:GRow [.agg [.i 1,.s [105,100],.sl [.agg [.i 5,.i 0,.s o.subj]] .full],.agg [.i 1,.s [114,111,108,101],.sl ((cX s.roles o.subj).map aS) q5],.agg [.i 2,.s [110,97,109,101],.sl [.agg [.i 5,.i 0,.s (jH o.kind)]] .full]] (cM s o):=(GRow.one ⟨1,idT,[idV o.subj]⟩ .full).app ((GRow.one ⟨1,[114,111,108,101],cX s.roles o.subj⟩ q5).app (GRow.one ⟨2,[110,97,109,101],[idV (jH o.kind)]⟩ .full))
   by_cases pf:o.field= []
   ·have df:(o.field==([]:Txt))=true:=by simp[pf]
    simp only[go_sem,k2,r3,df]
    by_cases pt:o.to= []
    ·have dt:(o.to==([]:Txt))=true:=by simp[pt]
     simp only[go_sem,k1,r2,dt];refine(dQ _ _ _ _ _).pthen ?_;simp only[go_sem];refine .accs hy.1 fun y1 G1 hy1 kp1=>?_
     have k1_1:=kp1 _ _ _ k1;have k2_1:=kp1 _ _ _ k2;have hr1:=hr0.app (GRow.one (⟨4,[110,111,119],[⟨4,s.tick,[]⟩]⟩:bn) .full);simp only[go_sem,k1_1,k2_1,r2,r3];refine(hca _ (hH.trans hy1.1)).pthen ?_;simp only[go_sem,cr,mU,gv,rY];intro i20 h20;have n21:i1≠i20:=fun e=>by rw[←e,k1_1]at h20;cases h20
     have n22:i2≠i20:=fun e=>by rw[←e,k2_1]at h20;cases h20
     simp only[go_sem];obtain⟨q2,eq2⟩:=hy1.row;cases dth:bY s.cases o.case
     ·simp only[go_sem]
      exact .mk (bI (fG s o)) (show Weak y1 _ by rw[eq2,show fG s o=(cM s o++ [(⟨4,[110,111,119],[⟨4,s.tick,[]⟩]⟩:bn)]) by simp[fG,cM,dth,pf,pt]];exact hr1.weak q2) ((hH.trans hy1.1).put (jA (hH.trans hy1.1) h20) _) ⟨rfl,rfl⟩
     ·simp only[go_sem,ak,n22,k2_1,r3]
      by_cases p6:o.kind=6
      ·have d6:(o.kind !=6)=false:=by simp[p6]
       simp only[go_sem,d6];exact .mk (bI (fG s o)) (show Weak y1 _ by rw[eq2,show fG s o=(cM s o++ [(⟨4,[110,111,119],[⟨4,s.tick,[]⟩]⟩:bn)]) by simp[fG,cM,dth,p6,pf,pt]];exact hr1.weak q2) ((hH.trans hy1.1).put (jA (hH.trans hy1.1) h20) _) ⟨rfl,rfl⟩
      ·have d6:(o.kind !=6)=true:=by simp[p6]
       simp only[go_sem,ak,n22,k2_1,r3,d6];refine(hak _).pthen ?_;simp only[go_sem,bI];refine(hy1.sub (.aj h20)).app (zs:=(cC (bw s.cases o.case) o.subj).map kS) aeo acf (fun k hk=>(eR kS 3 (fun _=>rfl) _ _).src ct hk) (by rw[ct];exact hr1.sized) adL ac3 fun yz Gz hyz kpz=>?_
       simp only[go_sem];obtain⟨qz,eqz⟩:=hyz.row;exact .mk (bI (fG s o)) (show Weak yz _ by rw[eqz,show fG s o=(cM s o++ [(⟨4,[110,111,119],[⟨4,s.tick,[]⟩]⟩:bn)])++cC (bw s.cases o.case) o.subj by simp[fG,cM,dth,p6,pf,pt]];exact(hr1.app (GRow.givs _)).weak qz) (hH.trans hyz.1) ⟨rfl,rfl⟩
    ·have dt:(o.to==([]:Txt))=false:=by simp[pt]
     simp only[go_sem,k2,r3,dt];refine(rG _ _).pthen ?_;simp only[go_sem,aS,idV];refine(dQ _ _ _ _ _).pthen ?_;simp only[go_sem];refine .accs hy.1 fun y3 G3 hy3 kp3=>?_
     have k1_3:=kp3 _ _ _ k1;have k2_3:=kp3 _ _ _ k2;have hr3:=hr0.app (GRow.one (⟨2,[116,111],[idV o.to]⟩:bn) .full);simp only[go_sem,k1_3,r2];refine(dQ _ _ _ _ _).pthen ?_;simp only[go_sem];refine hy3.app (zs:=[zp (⟨4,[110,111,119],[⟨4,s.tick,[]⟩]⟩) .full]) aeo acf (fun k hk=>(Rd.sl (fM _ _) .full:Rd _ 3 _ _).src ct hk) (by rw[ct];exact hr3.sized) afx adb fun y4 G4 hy4 kp4=>?_
     have k1_4:=kp4 _ _ _ k1_3;have k2_4:=kp4 _ _ _ k2_3;have hr4:=hr3.app (GRow.one (⟨4,[110,111,119],[⟨4,s.tick,[]⟩]⟩:bn) .full);simp only[go_sem,k1_4,k2_4,r2,r3];refine(hca _ (hH.trans hy4.1)).pthen ?_;simp only[go_sem,cr,mU,gv,rY];intro i50 h50;have n51:i1≠i50:=fun e=>by rw[←e,k1_4]at h50;cases h50
     have n52:i2≠i50:=fun e=>by rw[←e,k2_4]at h50;cases h50
     simp only[go_sem];obtain⟨q5,eq5⟩:=hy4.row;cases dth:bY s.cases o.case
     ·simp only[go_sem]
      exact .mk (bI (fG s o)) (show Weak y4 _ by rw[eq5,show fG s o=((cM s o++ [(⟨2,[116,111],[idV o.to]⟩:bn)])++ [(⟨4,[110,111,119],[⟨4,s.tick,[]⟩]⟩:bn)]) by simp[fG,cM,dth,pf,pt]];exact hr4.weak q5) ((hH.trans hy4.1).put (jA (hH.trans hy4.1) h50) _) ⟨rfl,rfl⟩
     ·simp only[go_sem,ak,n52,k2_4,r3]
      by_cases p6:o.kind=6
      ·have d6:(o.kind !=6)=false:=by simp[p6]
       simp only[go_sem,d6];exact .mk (bI (fG s o)) (show Weak y4 _ by rw[eq5,show fG s o=((cM s o++ [(⟨2,[116,111],[idV o.to]⟩:bn)])++ [(⟨4,[110,111,119],[⟨4,s.tick,[]⟩]⟩:bn)]) by simp[fG,cM,dth,p6,pf,pt]];exact hr4.weak q5) ((hH.trans hy4.1).put (jA (hH.trans hy4.1) h50) _) ⟨rfl,rfl⟩
      ·have d6:(o.kind !=6)=true:=by simp[p6]
       simp only[go_sem,ak,n52,k2_4,r3,d6];refine(hak _).pthen ?_;simp only[go_sem,bI];refine(hy4.sub (.aj h50)).app (zs:=(cC (bw s.cases o.case) o.subj).map kS) aeo acf (fun k hk=>(eR kS 3 (fun _=>rfl) _ _).src ct hk) (by rw[ct];exact hr4.sized) adL ac3 fun yz Gz hyz kpz=>?_
       simp only[go_sem];obtain⟨qz,eqz⟩:=hyz.row;exact .mk (bI (fG s o)) (show Weak yz _ by rw[eqz,show fG s o=((cM s o++ [(⟨2,[116,111],[idV o.to]⟩:bn)])++ [(⟨4,[110,111,119],[⟨4,s.tick,[]⟩]⟩:bn)])++cC (bw s.cases o.case) o.subj by simp[fG,cM,dth,p6,pf,pt]];exact(hr4.app (GRow.givs _)).weak qz) (hH.trans hyz.1) ⟨rfl,rfl⟩
   ·have df:(o.field==([]:Txt))=false:=by simp[pf]
    simp only[go_sem,k2,r3,df];refine(rG _ _).pthen ?_;simp only[go_sem,aS,idV];refine(dQ _ _ _ _ _).pthen ?_;simp only[go_sem];refine .accs hy.1 fun y6 G6 hy6 kp6=>?_
    have k1_6:=kp6 _ _ _ k1;have k2_6:=kp6 _ _ _ k2;have hr6:=hr0.app (GRow.one (⟨2,[102,105,101,108,100],[idV o.field]⟩:bn) .full);simp only[go_sem,k2_6,r3]
    by_cases pt:o.to= []
    ·have dt:(o.to==([]:Txt))=true:=by simp[pt]
     simp only[go_sem,k1_6,r2,dt];refine(dQ _ _ _ _ _).pthen ?_;simp only[go_sem];refine hy6.app (zs:=[zp (⟨4,[110,111,119],[⟨4,s.tick,[]⟩]⟩) .full]) aeo acf (fun k hk=>(Rd.sl (fM _ _) .full:Rd _ 3 _ _).src ct hk) (by rw[ct];exact hr6.sized) afx adb fun y7 G7 hy7 kp7=>?_
     have k1_7:=kp7 _ _ _ k1_6;have k2_7:=kp7 _ _ _ k2_6;have hr7:=hr6.app (GRow.one (⟨4,[110,111,119],[⟨4,s.tick,[]⟩]⟩:bn) .full);simp only[go_sem,k1_7,k2_7,r2,r3];refine(hca _ (hH.trans hy7.1)).pthen ?_;simp only[go_sem,cr,mU,gv,rY];intro i80 h80;have n81:i1≠i80:=fun e=>by rw[←e,k1_7]at h80;cases h80
     have n82:i2≠i80:=fun e=>by rw[←e,k2_7]at h80;cases h80
     simp only[go_sem];obtain⟨q8,eq8⟩:=hy7.row;cases dth:bY s.cases o.case
     ·simp only[go_sem]
      exact .mk (bI (fG s o)) (show Weak y7 _ by rw[eq8,show fG s o=((cM s o++ [(⟨2,[102,105,101,108,100],[idV o.field]⟩:bn)])++ [(⟨4,[110,111,119],[⟨4,s.tick,[]⟩]⟩:bn)]) by simp[fG,cM,dth,pf,pt]];exact hr7.weak q8) ((hH.trans hy7.1).put (jA (hH.trans hy7.1) h80) _) ⟨rfl,rfl⟩
     ·simp only[go_sem,ak,n82,k2_7,r3]
      by_cases p6:o.kind=6
      ·have d6:(o.kind !=6)=false:=by simp[p6]
       simp only[go_sem,d6];exact .mk (bI (fG s o)) (show Weak y7 _ by rw[eq8,show fG s o=((cM s o++ [(⟨2,[102,105,101,108,100],[idV o.field]⟩:bn)])++ [(⟨4,[110,111,119],[⟨4,s.tick,[]⟩]⟩:bn)]) by simp[fG,cM,dth,p6,pf,pt]];exact hr7.weak q8) ((hH.trans hy7.1).put (jA (hH.trans hy7.1) h80) _) ⟨rfl,rfl⟩
      ·have d6:(o.kind !=6)=true:=by simp[p6]
       simp only[go_sem,ak,n82,k2_7,r3,d6];refine(hak _).pthen ?_;simp only[go_sem,bI];refine(hy7.sub (.aj h80)).app (zs:=(cC (bw s.cases o.case) o.subj).map kS) aeo acf (fun k hk=>(eR kS 3 (fun _=>rfl) _ _).src ct hk) (by rw[ct];exact hr7.sized) adL ac3 fun yz Gz hyz kpz=>?_
       simp only[go_sem];obtain⟨qz,eqz⟩:=hyz.row;exact .mk (bI (fG s o)) (show Weak yz _ by rw[eqz,show fG s o=((cM s o++ [(⟨2,[102,105,101,108,100],[idV o.field]⟩:bn)])++ [(⟨4,[110,111,119],[⟨4,s.tick,[]⟩]⟩:bn)])++cC (bw s.cases o.case) o.subj by simp[fG,cM,dth,p6,pf,pt]];exact(hr7.app (GRow.givs _)).weak qz) (hH.trans hyz.1) ⟨rfl,rfl⟩
    ·have dt:(o.to==([]:Txt))=false:=by simp[pt]
     simp only[go_sem,k2_6,r3,dt];refine(rG _ _).pthen ?_;simp only[go_sem,aS,idV];refine(dQ _ _ _ _ _).pthen ?_;simp only[go_sem];refine hy6.app (zs:=[zp (⟨2,[116,111],[idV o.to]⟩) .full]) aeo acf (fun k hk=>(Rd.sl (fM _ _) .full:Rd _ 3 _ _).src ct hk) (by rw[ct];exact hr6.sized) afx adb fun y9 G9 hy9 kp9=>?_
     have k1_9:=kp9 _ _ _ k1_6;have k2_9:=kp9 _ _ _ k2_6;have hr9:=hr6.app (GRow.one (⟨2,[116,111],[idV o.to]⟩:bn) .full);simp only[go_sem,k1_9,r2];refine(dQ _ _ _ _ _).pthen ?_;simp only[go_sem];refine hy9.app (zs:=[zp (⟨4,[110,111,119],[⟨4,s.tick,[]⟩]⟩) .full]) aeo acf (fun k hk=>(Rd.sl (fM _ _) .full:Rd _ 3 _ _).src ct hk) (by rw[ct];exact hr9.sized) afx adb fun y10 G10 hy10 kp10=>?_
     have k1_10:=kp10 _ _ _ k1_9;have k2_10:=kp10 _ _ _ k2_9;have hr10:=hr9.app (GRow.one (⟨4,[110,111,119],[⟨4,s.tick,[]⟩]⟩:bn) .full);simp only[go_sem,k1_10,k2_10,r2,r3];refine(hca _ (hH.trans hy10.1)).pthen ?_;simp only[go_sem,cr,mU,gv,rY];intro i110 h110;have n111:i1≠i110:=fun e=>by rw[←e,k1_10]at h110;cases h110
     have n112:i2≠i110:=fun e=>by rw[←e,k2_10]at h110;cases h110
     simp only[go_sem];obtain⟨q11,eq11⟩:=hy10.row;cases dth:bY s.cases o.case
     ·simp only[go_sem]
      exact .mk (bI (fG s o)) (show Weak y10 _ by rw[eq11,show fG s o=(((cM s o++ [(⟨2,[102,105,101,108,100],[idV o.field]⟩:bn)])++ [(⟨2,[116,111],[idV o.to]⟩:bn)])++ [(⟨4,[110,111,119],[⟨4,s.tick,[]⟩]⟩:bn)]) by simp[fG,cM,dth,pf,pt]];exact hr10.weak q11) ((hH.trans hy10.1).put (jA (hH.trans hy10.1) h110) _) ⟨rfl,rfl⟩
     ·simp only[go_sem,ak,n112,k2_10,r3]
      by_cases p6:o.kind=6
      ·have d6:(o.kind !=6)=false:=by simp[p6]
       simp only[go_sem,d6];exact .mk (bI (fG s o)) (show Weak y10 _ by rw[eq11,show fG s o=(((cM s o++ [(⟨2,[102,105,101,108,100],[idV o.field]⟩:bn)])++ [(⟨2,[116,111],[idV o.to]⟩:bn)])++ [(⟨4,[110,111,119],[⟨4,s.tick,[]⟩]⟩:bn)]) by simp[fG,cM,dth,p6,pf,pt]];exact hr10.weak q11) ((hH.trans hy10.1).put (jA (hH.trans hy10.1) h110) _) ⟨rfl,rfl⟩
      ·have d6:(o.kind !=6)=true:=by simp[p6]
       simp only[go_sem,ak,n112,k2_10,r3,d6];refine(hak _).pthen ?_;simp only[go_sem,bI];refine(hy10.sub (.aj h110)).app (zs:=(cC (bw s.cases o.case) o.subj).map kS) aeo acf (fun k hk=>(eR kS 3 (fun _=>rfl) _ _).src ct hk) (by rw[ct];exact hr10.sized) adL ac3 fun yz Gz hyz kpz=>?_
       simp only[go_sem];obtain⟨qz,eqz⟩:=hyz.row;exact .mk (bI (fG s o)) (show Weak yz _ by rw[eqz,show fG s o=(((cM s o++ [(⟨2,[102,105,101,108,100],[idV o.field]⟩:bn)])++ [(⟨2,[116,111],[idV o.to]⟩:bn)])++ [(⟨4,[110,111,119],[⟨4,s.tick,[]⟩]⟩:bn)])++cC (bw s.cases o.case) o.subj by simp[fG,cM,dth,p6,pf,pt]];exact(hr10.app (GRow.givs _)).weak qz) (hH.trans hyz.1) ⟨rfl,rfl⟩
end Go.Proofs.YtfdgemhnlennbaaGreatDoor
namespace Go.Bf
open Go Go.Ab
def Ni(a b:bP):Bool:=a.attr.cat==b.attr.cat && (a.attr.name==b.attr.name && (a.attr.must==b.attr.must && (a.op==b.op && (a.val.kind==b.val.kind && (a.val.n==b.val.n && a.val.s==b.val.s)))))
def Qy(a b:aO):Bool:=a.op==b.op && (a.val.kind==b.val.kind && (a.val.n==b.val.n && (a.val.s==b.val.s && (a.attr.cat==b.attr.cat && (a.attr.name==b.attr.name && a.attr.must==b.attr.must)))))
def OY(a b:cA):Bool:=a.on==b.on && (a.kind==b.kind && a.arg==b.arg)
def eqL{α:Type}(f:α→α→Bool):List α→List α→Bool
 | [],[]=>true
 |x::a,y::b=>f x y && eqL f a b
 |_,_=>false
theorem any_succ{α:Type}{q:α→Bool}{l:List α}{i:Nat}(h:i<l.length):(l.take (i+1)).any q=((l.take i).any q||q l[i]):=by
 grind [List.take_succ_eq_append_getElem]
end Go.Bf
namespace Go.Proofs.YtfdgemhnlennbaaGreatDoor
open Go
def BQ:List Value:=Lib.pow10Tab.map fun z=>Value.int .u64 z
end Go.Proofs.YtfdgemhnlennbaaGreatDoor
namespace Go.Bf
def P4:Txt:=[97,110,110]
def Wi:Txt:=[98,111,98]
end Go.Bf
namespace Go.Proofs.YtfdgemhnlennbaaGreatDoor
open Go Go.Ab Go.Bf
def Rl(ev:Value):Heap:=wz [(3,BQ),(2,[ev])]
theorem Jw{ev:Value}(hev:ev= .nilIface∨∃te pe,ev= .iface te pe):j7 (Rl ev):=⟨ev,hev,1,rfl⟩
end Go.Proofs.YtfdgemhnlennbaaGreatDoor
namespace Go.Bf
open Go Go.Ab
def pE(m:Int)(b:Nat):Nat:=(if m.tmod (b+1)<0 then m.tmod (b+1)+(b+1)else m.tmod (b+1)).toNat
theorem zb(m:Int)(b:Nat):pE m b≤b:=by
 have t1:=Int.tmod_lt_of_pos m (show(0:Int)<b+1 by omega)
 unfold pE;split<;>omega
end Go.Bf
namespace Go.Proofs.YtfdgemhnlennbaaGreatDoor
open Go Go.Ab Go.Bf
theorem A6(m:Int)(b:Nat)(h:Heap)(hm' : -9223372036854775808≤m∧m≤9223372036854775807)(hb:b≤1099511627776):
  ai Tryz.prog 13 [.i m,.i 0,.i b] h fun r h' =>r= .i (pE m b)∧h' =h:=by
 have w0:IntKind.i64.wrap ((b:Int) - 0)=b:=IntWalk.i64_in _ ab7;have w1:IntKind.i64.wrap (b:Int)=b:=IntWalk.i64_in _ ab7;have w2:IntKind.i64.wrap ((b:Int)+1)=(b:Int)+1:=IntWalk.i64_in _ ab7;have t1:=Int.tmod_lt_of_pos m (show 0<(b:Int)+1 by omega)
 have t2:=Int.lt_tmod_of_pos m (show 0<(b:Int)+1 by omega)
 have hd:(pE m b:Int)=if m.tmod (b+1)<0 then m.tmod (b+1)+(b+1)else m.tmod (b+1):=by
  grind [pE]
 generalize hq:m.tmod ((b:Int)+1)=q at t1 t2 hd;have w3:IntKind.i64.wrap (q+b)=q+b:=IntWalk.i64_in _ ab7;have w4:IntKind.i64.wrap (q+b - 0)=q+b:=ab8;have w5:IntKind.i64.wrap (q+b+1)=q+b+1:=IntWalk.i64_in _ ab7;refine ab6 Tryz.func13 24 [.tmp 6] fun hwf=>?_
 simp only[go_sem,w1,w2,hq,Int.sub_zero];refine⟨ab7,.intro (fun e=>?_) (fun e=>?_)⟩
 ·have e:=abZ e
  rw[if_pos e]at hd;simp only[go_sem,w3,w5,Int.sub_zero];have w6:IntKind.i64.wrap (0+(q+b+1))=q+b+1:=ab8;have w7:IntKind.i64.wrap (q+b+1)=q+b+1:=IntWalk.i64_in _ ab7;simp only[go_sem,w7,Int.zero_add];exact .same (.refl _) ⟨by grind [ax,Int.add_assoc],rfl⟩
 ·have e:=ab0 e
  rw[if_neg e]at hd;have w7:IntKind.i64.wrap q=q:=IntWalk.i64_in q ab7;have w6:IntKind.i64.wrap (0+q)=q:=ab8;simp only[go_sem,w7,Int.zero_add];exact .same (.refl _) ⟨by rw[hd];rfl,rfl⟩
end Go.Proofs.YtfdgemhnlennbaaGreatDoor
namespace Go.Bf
open Go Go.Ab
def iL(cat:Int)(name:Txt)(g:bn):Bool:=g.cat==cat && g.name==name
def getD(l:List bn)(cat:Int)(name:Txt):List bz:=match l.find? (iL cat name)with
 |some g=>g.bag
 |none=>[]
end Go.Bf
namespace Go.Proofs.YtfdgemhnlennbaaGreatDoor
open Go Go.Ab Go.Bf
theorem KS{α:Type}(y:AV)(xs:List AV)(ds:List α)(q:α→Bool)(g:FuncId)(cap:List AV)(h:Heap)(hb:Rd h 3 y xs)(hn:xs.length=ds.length)(hl:xs.length≤1000000000)(hx:∀x∈xs,bA x=true)
  (hp:∀i (h1:i<xs.length) (h2:i<ds.length),ai Tryz.prog g (xs[i]::cap) h fun r h' =>r= .b (q ds[i])∧h' =h):
  ai Tryz.prog 307 [y,.fn g cap] h fun r h' =>r= .i (ixD q ds)∧h' =h:=by
 refine ab6 Tryz.func307 19 [.tmp 4] fun hwf=>?_
 simp only[go_sem,hb.len];refine .intro (fun m ρ h' =>h' =h∧∃i:Nat,i≤xs.length∧m=xs.length - i∧(∀j (hj:j<i) (h2:j<ds.length),q ds[j]=false)∧lk ρ 0=some y∧lk ρ 1=some (.fn g cap)∧lk ρ 7=some (.i xs.length)∧lk ρ 8=some (.i i)) xs.length ?_ ?_
 ·refine⟨rfl,0,ab7,rfl,fun j hj=>ab7,?_,?_,?_,?_⟩<;>simp only[go_sem]
 ·rintro m ρ h' ⟨rfl,i,hi,rfl,hc,r0,r1,r7,r8⟩
  simp only[go_sem,r7,r8];refine .intro (fun e=>?_) (fun e=>?_)
  ·have hlt:i<xs.length:=ab4 e
   have hlt2:i<ds.length:=ab7;have w1:IntKind.i64.wrap ((i:Int)+1)=((i+1:Nat):Int):=acn;simp only[go_sem,r0,r1,r8];refine hb.idx (e:=182) i rfl hlt acr acd fun p hp1=>?_
   have hld:=hp1.all (U:=U) (ty:=182) acd ac4 adV;simp only[go_sem,hld];refine(show ai Tryz.prog g (xs[i]::cap) _ _ from hp i hlt hlt2).pthen ?_
   cases d1:q ds[i]
   ·simp only[go_sem,r8,w1]
    refine⟨_,?_,rfl,i+1,ab7,rfl,fun j hj h2=>?_,?_,?_,?_,?_⟩
    ·omega
    ·grind
    all_goals simp only[go_sem,r0,r1,r7]
   ·simp only[go_sem]
    exact .same (.refl _) ⟨acS,rfl⟩
  ·have hge:i=xs.length:=by grind
   simp only[go_sem];exact .same (.refl _) ⟨acF,rfl⟩
theorem Jd{h:Heap}(g:bn){k1 k2:Nat}{cat:Int}{name:Txt}(h1:h k1=some (.obj [.i cat] 3))(h2:h k2=some (.obj [.s name] 9)):ai Tryz.prog 308 [kS g,.ptr k1 0,.ptr k2 0] h fun r h' =>r= .b (iL cat name g)∧h' =h:=by
 refine ab6 Tryz.func308 15 [.tmp 4] fun hwf=>?_
 simp only[go_sem,kS];intro i1 hi1;have n1:k1≠i1:=fun e=>ab8
 have n2:k2≠i1:=fun e=>ab8
 simp only[go_sem,ak,n1,h1];cases d1:(g.cat==cat)
 ·simp only[go_sem]
  exact .mk _ (.refl _) (.aj hi1) ⟨by simp only[iL,d1];rfl,rfl⟩
 ·simp only[go_sem,ak,n2,h2]
  exact .mk _ (.refl _) (.aj hi1) ⟨by simp only[iL,d1];rfl,rfl⟩
theorem LI(gs:List bn)(cat:Int)(name:Txt)(hl:gs.length≤1000000000)(h:Heap):ai Tryz.prog 279 [bI gs,.i cat,.s name] h fun r h' =>r= .i (ixD (iL cat name) gs)∧h' =h:=by
 refine ab6 Tryz.func279 10 [.tmp 6] fun hwf=>?_
 simp only[go_sem,bI];intro i1 h1;simp only[go_sem];intro i2 h2;have n2:=aC h2;have hs:∀a b,Ab.Sub h (upd (upd h i1 a) i2 b):=fun a b=>((Sub.refl h).put h1 a).put n2 b
 simp only[go_sem];refine(KS _ _ gs (iL cat name) _ [.ptr i1 0,.ptr i2 0] _ (eR kS 3 (fun _=>rfl) _ gs) aci ab8 (oC (fun _=>rfl) _) fun i a b=>by
  rw[abY];exact Jd _ (by grind [ag,ah]) (ah ..)).pthen ?_
 simp only[go_sem];exact adJ
theorem get_at{gs:List bn}{cat:Int}{name:Txt}(h:gs.findIdx (iL cat name)<gs.length):getD gs cat name=gs[gs.findIdx (iL cat name)].bag:=by
 unfold getD;rw[show gs.find? (iL cat name)=some gs[gs.findIdx (iL cat name)]from List.find?_eq_some_iff_getElem.2 ⟨List.findIdx_getElem (w:=h),_,h,rfl,fun j hj=>ab8⟩]
theorem QC{gs:List bn}{cat:Int}{name:Txt}(h:¬gs.findIdx (iL cat name)<gs.length):getD gs cat name= []:=by
 grind [getD,iL,List.findIdx_le_length,List.find?_eq_none,List.findIdx_eq_length]
end Go.Proofs.YtfdgemhnlennbaaGreatDoor
namespace Go.Bf
open Go Go.Ab
def cT:Txt:=[99]
def stC(st:Txt)(log:List wR):aL:=⟨cT,P4,st,[],log⟩
def o9:List Txt:=[jC,vT,z7,gQ]
abbrev lt(a b:Txt):Prop:=Op.bytesLess a b=true
theorem lt_irrefl:∀a:Txt,¬lt a a
 | []=>acd
 |a::x=>by
  have:=lt_irrefl x;simp only[lt,Op.bytesLess,Bool.or_eq_true,Bool.and_eq_true,decide_eq_true_eq,beq_self_eq_true,true_and,not_or];exact⟨UInt8.lt_irrefl a,this⟩
theorem lt_trans:∀ {a b c:Txt},lt a b→lt b c→lt a c
 |_,[],_,h,_=>by simp_all [Txt,lt,Op.bytesLess]
 | [],b::y,c,_,h=>by cases c<;>simp[lt,Op.bytesLess]at h⊢
 |a::x,b::y,[],_,h=>by simp[lt,Op.bytesLess]at h
 |a::x,b::y,c::z,h1,h2=>by
  simp only[lt,Op.bytesLess,Bool.or_eq_true,Bool.and_eq_true,decide_eq_true_eq,beq_iff_eq]at h1 h2⊢;rcases h1 with h1|⟨rfl,h1⟩
  ·grind
  ·rcases h2 with h2|⟨rfl,h2⟩
   ·grind
   ·exact .inr ⟨rfl,lt_trans h1 h2⟩
theorem Ax:∀a b:Txt,lt a b∨a=b∨lt b a
 | [],[]=>aci
 | [],b::y=> .inl rfl
 |a::x,[]=> .inr (.inr rfl)
 |a::x,b::y=>by
  simp only[lt,Op.bytesLess,Bool.or_eq_true,Bool.and_eq_true,decide_eq_true_eq,beq_iff_eq];rcases UInt8.lt_or_lt_of_ne (a:=a) (b:=b)with h
  by_cases e:a=b
  ·subst e
   rcases Ax x y with h|rfl|h
   ·grind
   ·simp
   grind
  grind
def Asc(cs:List aL):Prop:=cs.Pairwise fun a b=>lt a.id b.id
theorem Gm{c:aL}{cs:List aL}{id:Txt}(h:¬lt c.id id):findD (c::cs) id=0:=by
 simp_all [Op.bytesLess,false,findD,List.findIdx_cons,geB]
theorem Gn{c:aL}{cs:List aL}{id:Txt}(h:lt c.id id):findD (c::cs) id=findD cs id+1:=by
 simp_all [Op.bytesLess,true,findD,List.findIdx_cons,geB]
theorem uT:∀ {cs:List aL},Asc cs→∀id,bY cs id=cs.any fun c=>c.id==id
 | [],_,id=>rfl
 |c::cs,h,id=>by
  obtain⟨h1,h2⟩:=List.pairwise_cons.1 h
  by_cases hl:lt c.id id
  ·have hne:(c.id==id)=false:=by
    grind [beq_eq_false_iff_ne,lt_irrefl]
   have e:bY (c::cs) id=bY cs id:=by
    grind [bY,Gn]
   rw[e,uT h2 id,List.any_cons,hne,Bool.false_or]
  ·have e:bY (c::cs) id=(c.id==id):=by
    grind [bY,Gm]
   rw[e,List.any_cons];cases hc:(c.id==id)
   ·have hlt:lt id c.id:=by
     rcases Ax c.id id with h|h|h
     ·grind
     ·grind
     omega
    grind
   ·simp
theorem Ga:∀ {cs:List aL},Asc cs→∀c:aL,(cs.any fun d=>d.id==c.id)=false→Asc (cs.take (findD cs c.id)++ [c]++cs.drop (findD cs c.id))
 | [],_,c,_=>by simp[Asc,findD]
 |d::cs,h,c,hn=>by
  obtain⟨h1,h2⟩:=List.pairwise_cons.1 h;simp only[List.any_cons,Bool.or_eq_false_iff]at hn
  by_cases hl:lt d.id c.id
  ·rw[Gn hl]
   simp only[List.take_succ_cons,List.drop_succ_cons,List.cons_append];refine List.pairwise_cons.2 ⟨fun e he=>?_,Ga h2 c hn.2⟩
   grind
  ·rw[Gm hl]
   have hlt:lt c.id d.id:=by
    rcases Ax d.id c.id with h|h|h
    ·grind
    ·grind
    omega
   refine List.pairwise_cons.2 ⟨fun e he=>?_,h⟩
   rcases List.mem_cons.1 he with rfl|he
   ·omega
   grind [lt_trans]
def Ej(fs:List cY):Prop:=fs.Pairwise fun a b=>lt a.name b.name
theorem A9(name:Txt)(v:bz):fh [] name v= [⟨name,v⟩]:=rfl
theorem zg{f:cY}{fs:List cY}{name:Txt}{v:bz}(h:lt f.name name):fh (f::fs) name v=f::fh fs name v:=by
 have hb:Op.bytesLess f.name name=true:=h;unfold fh;simp only[List.findIdx_cons,geB,hb,Bool.not_true,cond_false,List.getElem?_cons_succ];generalize hi:fs.findIdx (fun f=> !Op.bytesLess f.name name)=i
 cases e:fs[i]? with
 |none=>simp
 |some g=>
  by_cases hg:g.name=name
  ·simp[hg]
  ·simp[hg]
theorem ze{f:cY}{fs:List cY}{name:Txt}{v:bz}(h:f.name=name):fh (f::fs) name v=⟨f.name,v⟩::fs:=by
 subst h;have hb:Op.bytesLess f.name f.name=false:=by
  grind [Op.bytesLess,lt_irrefl]
 unfold fh;simp[List.findIdx_cons,geB,hb]
theorem zf{f:cY}{fs:List cY}{name:Txt}{v:bz}(h:lt name f.name):fh (f::fs) name v=⟨name,v⟩::f::fs:=by
 have hb:Op.bytesLess f.name name=false:=by
  grind [Op.bytesLess,lt_irrefl,lt_trans]
 have hne:f.name≠name:=fun e=>by rw[e]at h;exact lt_irrefl _ h
 unfold fh;simp[List.findIdx_cons,geB,hb,hne]
theorem uZ:∀ {fs:List cY} {name:Txt} {v:bz} {g:cY},g∈fh fs name v→g=⟨name,v⟩∨g∈fs
 | [],name,v,g,h=>by grind [A9,List.mem_singleton]
 |f::fs,name,v,g,h=>by
  rcases Ax f.name name with hl|hl|hl
  ·rw[zg hl]at h
   rcases List.mem_cons.1 h with rfl|h
   ·simp
   ·rcases uZ h with h|h
    ·grind
    grind
  ·rw[ze hl]at h
   grind
  ·rw[zf hl]at h
   grind
theorem A7:∀ {fs:List cY} {name:Txt} {v:bz},Ej fs→Ej (fh fs name v)
 | [],name,v,_=>by grind [A9,Ej]
 |f::fs,name,v,h=>by
  obtain⟨h1,h2⟩:=List.pairwise_cons.1 h;rcases Ax f.name name with hl|hl|hl
  ·rw[zg hl]
   refine List.pairwise_cons.2 ⟨fun g hg=>?_,A7 h2⟩
   rcases uZ hg with rfl|hg
   ·omega
   grind
  ·rw[ze hl]
   exact List.pairwise_cons.2 ⟨h1,h2⟩
  ·rw[zf hl]
   refine List.pairwise_cons.2 ⟨fun g hg=>?_,h⟩
   rcases List.mem_cons.1 hg with rfl|hg
   ·omega
   grind [lt_trans]
theorem A8:∀ {fs:List cY} {name:Txt} {v:bz},Ej fs→(fh fs name v).length=if fs.any (fun f=>f.name==name)then fs.length else fs.length+1
 | [],name,v,_=>rfl
 |f::fs,name,v,h=>by
  obtain⟨h1,h2⟩:=List.pairwise_cons.1 h;rcases Ax f.name name with hl|hl|hl
  ·have hne:(f.name==name)=false:=by grind [beq_eq_false_iff_ne,lt_irrefl]
   rw[zg hl,List.length_cons,A8 h2,List.any_cons,hne,Bool.false_or];split<;>simp
  ·grind [ze]
  ·have hne:(f.name==name)=false:=by grind [beq_eq_false_iff_ne,lt_irrefl]
   have hno:(fs.any fun f=>f.name==name)=false:=List.any_eq_false.2 fun g hg he=>by
    have:=lt_trans hl (h1 g hg);rw[beq_iff_eq.1 he]at this;exact lt_irrefl _ this
   rw[zf hl,List.any_cons,hne,hno];simp
theorem ES(f:cY)(fs:List cY)(n:Txt):eO (f::fs) n=if f.name=n then f.val else eO fs n:=by
 grind [eO]
def mkC(who id:Txt):aL:=⟨id,who,jC,[],[⟨0,who,[110,101,119]⟩]⟩
def Wy(cs:List aL)(id:Txt):Bool:=cs.any fun c=>c.id==id
end Go.Bf
namespace Go.Ab
open Go
section
variable {α : Type}
def dget(l:List (List UInt8×α))(k:List UInt8):Option α:=(l.find? fun p=>p.1==k).map (·.2)
def dset(l:List (List UInt8×α))(k:List UInt8)(v:α):List (List UInt8×α):=if(dget l k).isSome then l.map (fun p=>if p.1==k then(p.1,v)else p)else l++ [(k,v)]
end
end Go.Ab
namespace Go.Bf
open Go Go.Ab Go.Proofs.YtfdgemhnlennbaaGreatDoor
structure Own (cs:List aL) (own:List (Txt×Txt)):Prop where
 asc:Asc cs
 len:cs.length=own.length
 small:cs.length≤64
 mem:∀c∈cs,c=mkC c.owner c.id∧dget own c.id=some c.owner
 has:∀id,Wy cs id=(dget own id).isSome
 who:∀id w,dget own id=some w→w≠ []
 keys:∀p∈own,p.1.length≤3
theorem qc:∀ {cs:List aL},Asc cs→∀ {id:Txt},bY cs id=true→bw cs id∈cs∧(bw cs id).id=id:=by
 unfold bw
 grind [bY,List.getElem?_eq_getElem]
end Go.Bf
namespace Go.Proofs.YtfdgemhnlennbaaGreatDoor
open Go Go.Ab Go.Bf
def nC(o:OpD):Prop:=i64 o.kind∧i64 o.val.kind∧i64 o.val.n∧i64 o.review
theorem inH{P:Program}{f:FuncId}{args:List AV}{h:Heap}{Q:AV→Heap→Prop}(hh:∀H2,H2=h→ai P f args H2 Q):ai P f args h Q:=hh h rfl
end Go.Proofs.YtfdgemhnlennbaaGreatDoor
namespace Go.Bf
open Go Go.Ab Go.Proofs.YtfdgemhnlennbaaGreatDoor
def Wz(v:Int):bz:=⟨2,v,[]⟩
structure Last (fs:List cY) (last:List (Txt×Int)):Prop where
 asc:Ej fs
 len:fs.length=last.length
 small:fs.length≤16
 kind:∀f∈fs,f.val.kind=2
 get:∀n,eO fs n=((dget last n).map Wz).getD au
 keys:∀p∈last,p.1.length=2
end Go.Bf
namespace Go.Bf
open Go Go.Ab
def Fine(n:Nat)(st:PS):Prop:=(st.bad=0∨st.bad=5∨st.bad=6)∧0≤st.place∧st.place≤n
def Ba(n:Nat)(ts:List rB):Prop:=∀i,0≤(ts.getD i ⟨7,0,0,[]⟩).pos∧(ts.getD i ⟨7,0,0,[]⟩).pos≤n
theorem xH{n:Nat}{st:PS}{e p:Int}(h:Fine n st)(he:e=5∨e=6)(h0:0≤p)(h1:p≤n):Fine n (bG st e p):=by
 unfold bG;split
 ·exact⟨.inr he,h0,h1⟩
 omega
theorem CM{n:Nat}{a b:PS}(h:Rch a b)(ht:Ba n a.ts)(hf:Fine n a):Fine n b:=by
 induction h with
 |refl=>omega
 |wrong e p h1 he hp ih=>
  obtain⟨i,_,rfl⟩:=hp;rw[(rm h1).1];exact xH ih he (ht i).1 (ht i).2
 |next _ _ _ ih=>exact ih
theorem Hg{a b:PS}(h:nD a b):b.ts=a.ts:=by
 induction h with
 |refl=>rfl
 |small _ h1 ih=>grind [rm,trans]
 |rule _ _ _ _ ih=>exact ih
theorem Il{n:Nat}{a b:PS}(h:nD a b)(ht:Ba n a.ts)(hf:Fine n a):Fine n b:=by
 induction h with
 |refl=>omega
 |small h1 h2 ih=>grind [CM,Hg]
 |rule _ _ _ _ ih=>exact ih
theorem xR{s:Txt}{ts:List rB}(h:rW s= .ok ts):Ba s.length ts:=by
 obtain⟨pre,rfl,_,h3,_⟩:=Au h;intro i
 grind
theorem KI{s:Txt}{ts:List rB}(h:rW s= .ok ts):Fine s.length (pO s (gC 4 ⟨ts,0,0,0,0⟩)):=by
 have h0:Fine s.length ⟨ts,0,0,0,0⟩:=⟨.inl rfl,Int.le_refl _,aci⟩;have hr:=BT 4 ⟨ts,0,0,0,0⟩;have h1:=Il hr (xR h) h0;have ht:Ba s.length (gC 4 ⟨ts,0,0,0,0⟩).2.ts:=by rw[Hg hr];exact xR h
 have h2:Fine s.length (if(aJ (gC 4 ⟨ts,0,0,0,0⟩).2).kind=7 then(gC 4 ⟨ts,0,0,0,0⟩).2 else bl (gC 4 ⟨ts,0,0,0,0⟩).2):=by
  grind [CM,ku]
 unfold pO;generalize (if(aJ (gC 4 ⟨ts,0,0,0,0⟩).2).kind=7 then(gC 4 ⟨ts,0,0,0,0⟩).2 else bl (gC 4 ⟨ts,0,0,0,0⟩).2)=st1 at h2⊢
 split
 ·exact xH h2 (.inl rfl) ab7 (Int.le_refl _)
 ·exact aga
theorem Dv(s:Txt):(aQ s).2.1=0∧(aQ s).2.2=0∧gx (aQ s).1=0∨
  ((aQ s).2.1=5∨(aQ s).2.1=6)∧0≤(aQ s).2.2∧(aQ s).2.2≤s.length∧(aQ s).1=ov:=by
 unfold aQ;cases h:rW s with
 |bad e a=>
  have:=ya h;exact .inr ⟨this.1,this.2.1,this.2.2,rfl⟩
 |ok ts=>
  have hf:=KI h;simp only[yt];split
  ·rename_i hb
   refine .inl ⟨rfl,rfl,?_⟩;simp only;unfold pO at hb;generalize (if(aJ (gC 4 ⟨ts,0,0,0,0⟩).2).kind=7 then(gC 4 ⟨ts,0,0,0,0⟩).2 else bl (gC 4 ⟨ts,0,0,0,0⟩).2)=st1 at hb
   split at hb
   ·simp_all [bG,if_pos,absurd,Int]
   omega
  ·rename_i hb
   exact .inr ⟨hf.1.resolve_left hb,hf.2.1,hf.2.2,rfl⟩
end Go.Bf
namespace Go.Bf
open Go Go.Ab Go.Proofs.YtfdgemhnlennbaaGreatDoor
theorem qI{p:bH}(h:gx p=0):mF 1 p:=by
 cases hw:kr ⟨[],0⟩ 1 p with
 |bad e=>
  have:=tC 4 1 _ _ e rfl hw;rw[gx,hw]at h;exact(this h).elim
 |ok m=>grind [GY]
theorem P5{fs:List cY}(h:∀f∈fs,eqV f.val au=false)(n:Txt):(fs.any fun f=>f.name==n)= !(eqV (eO fs n) au):=by
 induction fs with
 |nil=>rfl
 |cons f fs ih=>
  rw[ES,List.any_cons]
  grind
structure tV (c:aL):Prop where
 id:bp c.id=true
 owner:bp c.owner=true
 state:c.state∈o9
 asc:Ej c.fields
 nfields:c.fields.length≤16
 field:∀f∈c.fields,bp f.name=true∧bB f.val=true∧eqV f.val au=false
 log1:1≤c.log.length
 log2:c.log.length≤256
 actor:∀x∈c.log,bp x.actor=true∧i64 x.tick
structure dj (k:Nat) (s:an):Prop where
 tick:0≤s.tick∧s.tick≤1099511627776
 asc:Asc s.cases
 ncases:s.cases.length≤64
 case:∀c∈s.cases,tV c
 nrev:s.reviews.length≤1000
 nnot:s.notices.length≤1000
 roles:s.roles.length≤64
 role:∀r∈s.roles,bp r.subj=true∧bp r.role=true
 pol:gx s.policy=0
 ver:0≤s.version∧s.version≤k
theorem dj.few{k:Nat}{s:an}(h:dj k s):Few s:=by
 have h1:=h.ncases;have h2:=h.nrev;have h3:=h.nnot;have h4:=h.roles;refine⟨ab7,fun c hc=>?_,fun c hc=>?_,ab7,ab7,ab7⟩
 ·have:=(h.case c hc).nfields;omega
 ·have:=(h.case c hc).log2;omega
theorem dj.mF{k:Nat}{s:an}(h:dj k s):mF 1 s.policy:=qI h.pol
theorem dj.FV{k:Nat}{s:an}(h:dj k s):i64 s.tick:=by
 have:=h.tick;constructor<;>omega
theorem Jy:dj 0 wh:=by
 refine⟨acd,.nil,acd,fun c h=>acZ,acd,acd,acd,fun r h=>acZ,acr,acd⟩
theorem kg{s:Txt}(h:iT s=true)(hn:s≠ []):bp s=true:=by
 simp_all [iT,Bool.or_eq_true,beq_iff_eq]
structure PB (o:OpD):Prop where
 subj:bp o.subj=true
 kind:1≤o.kind∧o.kind≤8
 case:iT o.case=true
 field:iT o.field=true
 to:iT o.to=true
 val:eqV o.val au=true∨bB o.val=true
 text:o.text.length≤4096
 ok:okD o=true
theorem sR{o:OpD}(h:dF o=true):PB o:=by
 simp only[dF,Bool.and_eq_true,decide_eq_true_eq,Bool.or_eq_true,dP]at h;obtain⟨⟨⟨⟨⟨⟨⟨h1,h2⟩,h3⟩,h4⟩,h5⟩,h6⟩,h7⟩,⟨⟨h8,h9⟩,h10⟩,h11⟩:=h;exact⟨h1,⟨h8,h9⟩,h4,h5,h6,h7,h3,h10⟩
theorem xJ{a b:Txt}(h:mw a b=true):b∈o9:=by
 unfold mw at h;simp only[o9,List.mem_cons,List.not_mem_nil,or_false]
 grind
theorem mem_modify{α:Type}{l:List α}{i:Nat}{f:α→α}{x:α}(h:x∈l.modify i f):x∈l∨∃hi:i<l.length,x=f l[i]:=by
 obtain⟨j,hj,rfl⟩:=List.mem_iff_getElem.1 h
 grind
theorem kj{α β:Type}{l:List α}{i:Nat}{f:α→α}{g:α→β}(h:∀x,g (f x)=g x):(l.modify i f).map g=l.map g:=by
 refine List.ext_getElem aci fun j h1 h2=>?_
 grind
theorem Bn{cs cs' :List aL}(h:cs'.map (·.id)=cs.map (·.id))(ha:Asc cs):Asc cs' :=by
 unfold Asc at*;have h1:(cs.map (·.id)).Pairwise lt:=ab8
 rw[←h,List.pairwise_map]at h1;exact h1
theorem NM{cs:List aL}{i:Nat}{c d:aL}(h:d∈cs.take i++ [c]++cs.drop i):d=c∨d∈cs:=by
 grind
theorem Mb{k:Nat}{s:an}{o:OpD}(hs:dj k s)(hr:bL s o=0):dj (k+1) (doD aQ s o):=by
 have hf:dF o=true:=by
  unfold bL at hr
  grind
 have F:=sR hf;have vk:0≤s.version∧s.version≤((k+1:Nat):Int):=⟨hs.ver.1,by have:=hs.ver.2;omega⟩
 unfold bL at hr;rw[hf]at hr;simp only[Bool.true_eq_false,if_false]at hr;have hok:=F.ok;unfold okD at hok;have t64:=hs.FV;unfold doD
 by_cases k1:o.kind=1
 ·simp only[k1,if_true]at hr hok⊢
  have hno:bY s.cases o.case=false:=by
   grind
  rw[hno]at hr;simp only[Bool.false_eq_true,if_false]at hr;have hlt:¬64≤s.cases.length:=fun h=>afV
  have hc:bp o.case=true:=kg F.case ab8;rw[uT hs.asc]at hno;refine {hs with asc:= ?_,ncases:= ?_,case:= ?_,ver:=vk}
  ·exact Ga hs.asc (jn s ⟨o.case,o.subj,jC,[],[]⟩ o.subj [110,101,119]) hno
  ·grind
  ·intro c h
   rcases NM h with rfl|h
   ·exact⟨hc,F.subj,by simp[jn,o9],.nil,agc,fun f h=>acZ,agc,agc,fun x h=>by
     simp only[jn,List.nil_append,List.mem_singleton]at h;subst h;exact⟨F.subj,t64⟩⟩
   ·exact hs.case c h
 ·simp only[k1,if_false]at hr hok⊢
  by_cases k3:o.kind=3
  ·have hk:2≤o.kind∧o.kind≤4:=by omega
   simp only[hk,and_self,if_true]at hr;simp only[k3,if_true];have e2:¬(o.kind=2∨o.kind=6):=ab7;simp only[k3,if_true,show¬((3:Int)=2∨(3:Int)=6) by decide,if_false,Bool.and_eq_true,Bool.not_eq_true']at hok
   have hth:bY s.cases o.case=true:=by
    unfold bX at hr
    grind
   unfold bX at hr;rw[hth]at hr;simp only[Bool.true_eq_false,if_false,k3,true_and]at hr;obtain⟨hm,hid⟩:=qc hs.asc hth;have hlt:=jD hth;have hce:bw s.cases o.case=s.cases[findD s.cases o.case]:=by
    simp_all [bw,if_pos]
   rw[hce]at hr hm;generalize hcc:s.cases[findD s.cases o.case]=c at hr hm;have hc:=hs.case c hm;have h16:¬(c.fields.length≥16∧eqV (eO c.fields o.field) au=true):=fun h=>by simp[h.1,h.2]at hr
   rw[if_neg h16]at hr;have hlg:¬c.log.length≥256:=fun h=>afV
   have hnf:bp o.field=true:=kg F.field ab8;have hvz:eqV o.val au=false:=hok.2;have hv:bB o.val=true:=F.val.resolve_left ab8;refine {hs with asc:= ?_,ncases:= ?_,case:= ?_,ver:=vk}
   ·exact Bn (kj fun x=>rfl) hs.asc
   ·simpa using hs.ncases
   ·intro d hd
    rcases mem_modify hd with hd|⟨hi,rfl⟩
    ·exact hs.case d hd
    ·rw[hcc]
     have hany:=P5 (fun f hf=>(hc.field f hf).2.2) o.field
     have hlen:=A8 (v:=o.val) (name:=o.field) hc.asc;refine⟨hc.id,hc.owner,hc.state,A7 hc.asc,?_,?_,agc,?_,?_⟩
     ·simp only[jn]
      rw[hlen,hany];have:=hc.nfields;cases he:eqV (eO c.fields o.field) au
      ·simp;omega
      ·rw[he]at h16;simp at h16⊢;omega
     ·intro f hf
      rcases uZ hf with rfl|hf
      ·grind
      ·exact hc.field f hf
     ·grind [jn,ab1,List.length_singleton]
     ·intro x hx
      exact ahe
  ·simp only[k3,if_false]at hok⊢
   by_cases k4:o.kind=4
   ·have hk:2≤o.kind∧o.kind≤4:=by omega
    simp only[hk,and_self,if_true]at hr;simp only[k4,if_true];have hth:bY s.cases o.case=true:=by
     unfold bX at hr
     grind
    unfold bX at hr;rw[hth]at hr;simp only[Bool.true_eq_false,if_false,k4]at hr;obtain⟨hm,hid⟩:=qc hs.asc hth;have hlt:=jD hth;have hce:bw s.cases o.case=s.cases[findD s.cases o.case]:=by
     simp_all [bw,if_pos]
    rw[hce]at hr hm;generalize hcc:s.cases[findD s.cases o.case]=c at hr hm;have hc:=hs.case c hm;simp only[show¬((4:Int)=3) by decide,false_and,if_false,show((4:Int)≠2) by decide,ne_eq,not_false_eq_true,true_and,false_or]at hr
    have hlg:¬c.log.length≥256:=fun h=>afV
    rw[if_neg hlg]at hr;have hfo:mw c.state o.to=true:=by
     grind
    refine {hs with asc:= ?_,ncases:= ?_,case:= ?_,ver:=vk}
    ·exact Bn (kj fun x=>rfl) hs.asc
    ·simpa using hs.ncases
    ·intro d hd
     rcases mem_modify hd with hd|⟨hi,rfl⟩
     ·exact hs.case d hd
     ·rw[hcc]
      refine⟨hc.id,hc.owner,xJ hfo,hc.asc,hc.nfields,hc.field,agc,?_,?_⟩
      ·grind [jn,ab1,List.length_singleton]
      ·intro x hx
       exact ahe
   ·simp only[k4,if_false]at hok⊢
    by_cases k5:o.kind=5
    ·simp only[k5,if_true]
     refine {hs with nrev:= ?_,ver:=vk}
     simpa using hs.nrev
    ·simp only[k5,if_false]at hok⊢
     by_cases k6:o.kind=6
     ·have hk:¬(2≤o.kind∧o.kind≤4):=by omega
      simp only[k6,if_true]at hr;simp only[k6,if_true];simp only[k6,or_true,if_true,Bool.and_eq_true]at hok;have hc:bp o.case=true:=kg F.case ab8;have hfd:bp o.field=true:=kg F.field ab8;cases hh:xO s.roles ⟨o.case,o.field⟩with
      |true=>simp only[if_true];exact {hs with ver:=vk}
      |false=>
       rw[hh]at hr;have hlt:¬s.roles.length≥64:=fun h=>afV
       simp only[Bool.false_eq_true,if_false];refine {hs with roles:= ?_,role:= ?_,ver:=vk}
       ·grind
       ·intro r h
        rcases List.mem_append.1 h with h|h
        ·exact hs.role r h
        grind
     ·simp only[k6,if_false]
      by_cases k7:o.kind=7
      ·simp only[k7,if_true]
       by_cases hp:(aQ o.text).2.1=0
       ·simp only[hp,if_true]
        have hr0:gx (aQ o.text).1=0:=by
         grind [Dv,absurd]
        refine {hs with pol:=hr0,ver:= ?_}
        have:=hs.ver;constructor
        ·grind
        grind
       ·simp only[hp,if_false]
        exact {hs with ver:=vk}
      ·simp only[k7,if_false]
       by_cases k8:o.kind=8
       ·simp only[k8,if_true]
        have hk:¬(2≤o.kind∧o.kind≤4):=ab7;simp only[k8,if_true]at hr;have hlt:¬s.tick>1099511627776 - o.review:=fun h=>afV
        simp only[k8,show¬((8:Int)=2∨(8:Int)=6) by decide,if_false,if_true,Bool.and_eq_true,decide_eq_true_eq]at hok
        refine {hs with tick:= ?_,ver:=vk}
        have:=hs.tick;constructor
        ·grind
        grind
       ·simp only[k8,if_false]
        exact {hs with ver:=vk}
theorem pg{k:Nat}{s:an}(o:OpD)(hs:dj k s):dj (k+1) (dU aQ s o):=by
 unfold dU
 by_cases h:bL s o=0
 ·simp_all [if_pos,Mb]
 ·rw[if_neg h]
  exact {hs with ver:=⟨hs.ver.1,by have:=hs.ver.2;omega⟩}
theorem fm.eq{xs:List AV}{sz:Nat}(j:Nat)(hj:j<xs.length)(hz:xs[j].cells.length=sz)(k:AV→Prop):fm xs (j:Int) sz k=k (.pe xs[j] 0):=propext ⟨fun h=>by
 obtain⟨_,b,hb,_,hk⟩:=h;have:xs[j]? =some xs[j]:=aci;rw[show((j:Int).toNat)=j by simp,this]at hb
 cases hb;exact hk,fun h=>fm.at j hj hz h⟩
end Go.Bf
