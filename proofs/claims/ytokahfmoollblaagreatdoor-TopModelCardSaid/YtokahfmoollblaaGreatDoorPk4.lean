/- The law TopModel,TopReplay: pack 4 of its texts. -/
import Derived.Shelf.Small.Strs
import Derived.Shelf.Small.Wraps
import Derived.Shelf.Strconv.AtoiAll
import Derived.Shelf.Strconv.ErrVarAll
import Derived.Shelf.Strings.Search1
import Derived.Test.YtokahfmoollblaaGreatDoorProg
import Derived.KernelRfl
import Derived.WalkKit
import Derived.BigCall
import Derived.Lib.ItoaLen
import Derived.Test.YtokahfmoollblaaGreatDoorPk1
import Derived.Test.YtokahfmoollblaaGreatDoorPk2
import Derived.Test.YtokahfmoollblaaGreatDoorPk3
set_option linter.unusedSimpArgs false
set_option linter.unusedVariables false
set_option maxRecDepth 100000
namespace Go.Proofs.YtokahfmoollblaaGreatDoor
open Go Go.Ab Go.Bf Tryz
def Byt(g:FuncId)(p:UInt8→Bool):Prop:=∀(c:UInt8) (h:Heap),ai prog g [.v (.int .u8 c.toNat)] h fun r h' =>r= .b (p c)∧h' =h
theorem nv:Byt 186 dgt:=fun c h=>by
 refine aeJ func186 9 [.tmp 2] fun hwf=>?_
 cases d1:decide (48≤(c.toNat:Int))<;>cases d2:decide ((c.toNat:Int)≤57)
 all_goals
  simp only[go_sem,d1,d2];exact .same (.refl _) ⟨by simp only[dgt,d1,d2];rfl,rfl⟩
theorem Ko:Byt 232 wrd:=fun c h=>by
 refine aeJ func232 17 [.tmp 2] fun hwf=>?_
 cases d1:decide (97≤(c.toNat:Int))<;>cases d2:decide ((c.toNat:Int)≤122)<;>cases d3:dgt c<;>cases d4:((c.toNat:Int)==95)
 all_goals
  simp only[go_sem,d1,d2]
  first
   |exact .same (.refl _) ⟨by simp only[wrd,ltr,d1,d2,d3,d4];rfl,rfl⟩
   |(refine(nv c _).pthen ?_;simp only[go_sem,d3,d4];exact .same (.refl _) ⟨by simp only[wrd,ltr,d1,d2,d3,d4];rfl,rfl⟩)
theorem EU:Byt 233 (fun c=> !uo c):=fun c h=>by
 refine aeJ func233 17 [.tmp 2] fun hwf=>?_
 cases d1:decide (32≤(c.toNat:Int))<;>cases d2:decide ((c.toNat:Int)≤126)<;>cases d3:((c.toNat:Int)==34)<;>cases d4:((c.toNat:Int)==92)
 all_goals
  simp only[go_sem,d1,d2,d3,d4,bne];refine .same (.refl _) ⟨?_,rfl⟩;have e1:decide ((c.toNat:Int)<32)= !decide (32≤(c.toNat:Int)):=by grind
  have e2:decide (126<(c.toNat:Int))= !decide ((c.toNat:Int)≤126):=by grind
  simp only[uo,e1,e2,d1,d2,d3,d4];rfl
theorem QK(p:UInt8→Bool)(s:Txt)(i:Nat)(hi:i<s.length)(h:i≤(s.takeWhile p).length)(hp:p s[i]=true):i+1≤(s.takeWhile p).length:=by exact ajD
theorem WS(p:UInt8→Bool)(s:Txt)(i:Nat)(hi:i<s.length)(h:i≤(s.takeWhile p).length)(hp:p s[i]=false):(s.takeWhile p).length=i:=by exact ajD
theorem N8(g:FuncId)(p:UInt8→Bool)(hg:Byt g p)(s:Txt)(h:Heap):ai prog 231 [.s s,.fn g []] h fun r h' =>r= .v (.int .i64 (s.takeWhile p).length)∧h' =h:=by
 refine aeJ func231 20 [.tmp 4] fun hwf=>?_
 have hlen:=hwf (.s s) aeR;simp only[wfA,wf1,lim]at hlen;simp only[go_sem];refine .intro (fun m ρ h' =>h' =h∧∃i:Nat,i≤s.length∧m=s.length - i∧i≤(s.takeWhile p).length∧lk ρ 0=some (.s s)∧lk ρ 1=some (.fn g [])∧lk ρ 5=some (.i i)) s.length ?_ ?_
 ·refine⟨rfl,0,aeK,rfl,aeK,?_,?_,?_⟩<;>simp only[go_sem]
 ·rintro m ρ h' ⟨rfl,i,hi,rfl,hc,r0,r1,r5⟩
  cases d1:decide ((i:Int)<(s.length:Int))
  ·have hge:i=s.length:=by grind
   have:=kN p s;simp only[go_sem,r0,r5,d1];exact .same (.refl _) ⟨by grind [ax],rfl⟩
  ·have hlt:i<s.length:=by grind
   have w1:IntKind.i64.wrap ((i:Int)+1)=((i+1:Nat):Int):=aeW;simp only[go_sem,r0,r1,r5,d1];refine .at i hlt ?_;simp only[go_sem,aK];refine(hg s[i] _).pthen ?_;cases d2:p s[i]
   ·have:=WS p s i hlt hc d2
    simp only[go_sem,r5];exact .same (.refl _) ⟨by rw[this];rfl,rfl⟩
   ·simp only[go_sem,r5,w1]
    refine⟨_,?_,rfl,i+1,aeK,rfl,QK p s i hlt hc d2,?_,?_,?_⟩
    ·omega
    all_goals simp only[go_sem,r0,r1]
theorem zn(s:Txt)(h:Heap):ai prog 185 [.s s] h fun r h' =>r= .s (jX s)∧h' =h:=by
 refine aeJ func185 12 [.tmp 2] fun hwf=>?_
 simp only[go_sem];refine(N8 _ _ Ko s _).pthen ?_;simp only[go_sem];refine⟨aeK,aeK,?_⟩;simp only[go_sem,Option.isSome_none,Option.isSome_some,tN,Int.toNat_natCast,rN];refine⟨by grind [kN,wrd],?_⟩
 refine(pQ _ _).pthen ?_;cases d1:bp (s.takeWhile wrd)
 ·exact akB
 ·exact akB
theorem wr8{x:Int}(h:0≤x∧x<256):IntKind.u8.wrap x=x:=by grind [IntKind.wrap,IntKind.signed,IntKind.bits]
theorem tQ(c:UInt8)(h:Heap):ai prog 267 [.v (.int .u8 c.toNat)] h fun r h' =>r= .i (jY c)∧h' =h:=by
 refine aeJ func267 20 [.tmp 2] fun hwf=>?_
 have hc:=c.toNat_lt;simp only[go_sem];refine(nv c _).pthen ?_;cases d1:dgt c
 case true=>
  have e1:48≤(c.toNat:Int)∧(c.toNat:Int)≤57:=by grind [dgt]
  have w1:IntKind.u8.wrap ((c.toNat:Int) - 48)=(c.toNat:Int) - 48:=wr8 aeK;have w2:IntKind.i64.wrap ((c.toNat:Int) - 48)=(c.toNat:Int) - 48:=aU _ aeK;simp only[go_sem,w1,w2];exact .same (.refl _) ⟨by grind [jY,ax],rfl⟩
 cases d2:decide (97≤(c.toNat:Int))<;>cases d3:decide ((c.toNat:Int)≤102)
 case true.true=>have e2:=aeC d2;have e3:=aeC d3;have w1:IntKind.u8.wrap ((c.toNat:Int) - 97)=(c.toNat:Int) - 97:=wr8 aeK;have w2:IntKind.i64.wrap ((c.toNat:Int) - 97)=(c.toNat:Int) - 97:=aU _ aeK;have w3:IntKind.i64.wrap ((c.toNat:Int) - 97+10)=(c.toNat:Int) - 87:=aeW;simp only[go_sem,d2,d3,w1,w2,w3];exact .same (.refl _) ⟨by grind [jY,ax],rfl⟩
 all_goals
  simp only[go_sem,d2,d3];simp only[decide_eq_true_eq,decide_eq_false_iff_not]at d2 d3;refine .same (.refl _) ⟨?_,rfl⟩
  grind [Int,jY,ax]
theorem Iy(c:UInt8): -1≤jY c∧jY c≤15:=by grind [jY,dgt]
theorem Ou(n:Nat)(h:n<256):((UInt8.ofNat n).toNat:Int)=n:=by simp;omega
theorem Tq(s:Txt)(h:Heap):ai prog 234 [.s s] h fun r h' =>(∃x:Int,r= .tup [.v (.int .u8 x),.v (.bool (uq s).isSome)]∧∀c,uq s=some c→x=c.toNat)∧h' =h:=by
 refine aeJ func234 38 [.tmp 2,.tmp 3] fun hwf=>?_
 have hlen:=hwf (.s s) aeR;simp only[wfA,wf1,lim]at hlen;cases d0:decide ((s.length:Int)<3)
 case true=>
  have e0:s.length<3:=aeL;have:uq s=none:=by
   match s,e0 with
   | [],_=>rfl
   | [_],_=>rfl
   | [_,_],_=>rfl
  simp only[go_sem,d0];exact .same (.refl _) ⟨⟨0,by rw[this];rfl,fun c hc=>aeL⟩,rfl⟩
 have e0:3≤s.length:=aeL;obtain⟨b,x,y,t,rfl⟩:∃b x y t,s=b::x::y::t:=by
  match s,e0 with
  |b::x::y::t,_=>exact⟨b,x,y,t,rfl⟩
 simp only[List.length_cons]at d0;have bad:uq (b::x::y::t)=none→∃z:Int,AV.tup [.v (.int .u8 0),.b false]= .tup [.v (.int .u8 z),.v (.bool (uq (b::x::y::t)).isSome)]∧∀c,uq (b::x::y::t)=some c→z=c.toNat:=
  fun e=>⟨0,aeL,fun c hc=>aeL⟩
 cases d1:((b.toNat:Int) !=92)
 case true=>
  have e1:b≠92:=by rintro rfl;grind
  simp only[go_sem,d0];refine .at 0 aeR ?_;simp only[go_sem,aK,List.getElem_cons_zero,d1];exact akk
 have e1:b=92:=by have:(b.toNat:Int)=92:=aeL;exact UInt8.toNat_inj.1 aeL
 simp only[go_sem,d0];refine .at 0 aeR ?_;simp only[go_sem,aK,List.getElem_cons_zero,d1];refine .at 1 aeR ?_;simp only[go_sem,aK,List.getElem_cons_zero,List.getElem_cons_succ];refine(tQ x _).pthen ?_;cases d2:decide (jY x<0)
 case true=>have e2:=aeC d2;simp only[go_sem,d2];exact akk
 have e2:0≤jY x:=aeL;simp only[go_sem,d2];refine .at 2 aeR ?_;simp only[go_sem,aK,List.getElem_cons_zero,List.getElem_cons_succ];refine(tQ y _).pthen ?_;cases d3:decide (jY y<0)
 case true=>have e3:=aeC d3;simp only[go_sem,d3];exact akk
 have e3:0≤jY y:=aeL;have hx:=Iy x;have hy:=Iy y;have w1:IntKind.i64.wrap (16*jY x)=16*jY x:=aU _ aeK;have w2:IntKind.i64.wrap (16*jY x+jY y)=16*jY x+jY y:=aU _ aeK;have w3:IntKind.u8.wrap (16*jY x+jY y)=((UInt8.ofNat (16*jY x+jY y).toNat).toNat:Int):=by grind [wr8,Ou]
 simp only[go_sem,d3];refine .quiet aeN ?_;simp only[go_sem];refine .at 1 aeR ?_;simp only[go_sem,aK,List.getElem_cons_zero,List.getElem_cons_succ];refine⟨_,tQ x _,?_⟩;simp only[go_sem];refine .at 2 aeR ?_;simp only[go_sem,aK,List.getElem_cons_zero,List.getElem_cons_succ];refine⟨_,tQ y _,?_⟩;simp only[go_sem,w1,w2,w3];refine(EU _ _).pthen ?_;simp only[go_sem];refine .same (.refl _) ⟨⟨((UInt8.ofNat (16*jY x+jY y).toNat).toNat:Int),?_,fun c hc=>?_⟩,rfl⟩
 ·grind [uo,UInt8.ofNat,jY,uq,ax]
 grind [uq]
theorem u5z:(U 5).sz=1:=aeZ
theorem u5b:(U 5).bytes=1:=aeZ
theorem nP(l:List UInt8):Sized 1 (l.map aK):=fun z hz=>by obtain⟨c,_,rfl⟩:=List.mem_map.1 hz;rfl
theorem Jg(s:Txt)(hs:s.length≤10000)(h:Heap):ai prog 188 [.s s] h fun r h' =>r= .tup [.s (zW s).1,.v (.int .i64 (zW s).2)]∧h' =h:=by
 refine aeJ func188 50 [.tmp 2,.tmp 3] fun hwf=>?_
 simp only[go_sem];refine .intro (fun m ρ h' =>∃(i f:Nat) (y:AV) (out:Txt),Acc U 5 h h' y (out.map aK)∧out.length≤i∧m=s.length+1 - i∧i≤s.length+3∧s.length≤f+i∧uS f (s.drop i) i out=zW s∧lk ρ 0=some (.s s)∧lk ρ 4=some y∧lk ρ 5=some (.i i)) s.length ?_ ?_
 ·refine⟨1,s.length,.sl [] .full,[],.full (.refl _),aeR,aeK,aeK,aeK,rfl,?_,?_,?_⟩<;>simp only[go_sem]
 ·rintro m ρ h' ⟨i,f,y,out,hy,hoi,rfl,hi,hf,he,r0,r4,r5⟩
  cases d1:decide ((i:Int)<(s.length:Int))
  ·have hge:s.length≤i:=by grind
   have hd:s.drop i= []:=List.drop_of_length_le hge;have:zW s=([],0):=by rw[←he,hd];cases f<;>rfl
   simp only[go_sem,r0,r5,d1];exact .mk _ (.refl _) hy.1 ⟨by rw[this];rfl,rfl⟩
  have hlt:i<s.length:=aeL;obtain⟨f,rfl⟩:∃g,f=g+1:=⟨f - 1,aeK⟩;have hdr:s.drop i=s[i]::s.drop (i+1):=List.drop_eq_getElem_cons hlt;rw[hdr]at he;simp only[uS]at he;have w1:IntKind.i64.wrap ((i:Int)+1)=((i+1:Nat):Int):=aeW;have w3:IntKind.i64.wrap ((i:Int)+3)=((i+3:Nat):Int):=aeW;simp only[go_sem,r0,r5,d1];refine .at i hlt ?_;cases d2:((s[i].toNat:Int)==34)
  case true=>
   have e2:s[i]=34:=by have:(s[i].toNat:Int)=34:=aeL;exact UInt8.toNat_inj.1 aeL
   rw[if_pos e2]at he;cases d3:decide (64<(out.length:Int))
   case true=>have e3:64<out.length:=aeL;rw[if_pos e3]at he;simp only[go_sem,r4,aK,d2,hy.len,aeA,d3];exact akf
   have e3:¬64<out.length:=aeL;rw[if_neg e3]at he;simp only[go_sem,r4,aK,d2,hy.len,aeA,d3];obtain⟨q,rfl⟩:=hy.row;simp only[go_sem,r5,w1];exact akf
  have e2:s[i]≠34:=by intro e;simp_all
  rw[if_neg e2]at he;simp only[go_sem,r0,r5,aK,d2];refine .at i hlt ?_;simp only[go_sem,aK];refine(EU _ _).pthen ?_;cases d4:uo s[i]
  ·rw[if_pos d4]at he
   simp only[go_sem,r0,r4,r5,d4];refine .at i hlt ?_;simp only[go_sem,aK];refine hy.app (zs:=[aK s[i]]) aeO aeO (fun k hk=>hk) (by grind [u5z,nP]) (by rw[u5z];exact nP [s[i]]) (by grind [u5b]) fun y' h2 hy' hk2=>?_
   simp only[go_sem,r5,w1];refine⟨_,?_,i+1,f,y',out++ [s[i]],aeL,aeL,rfl,aeK,aeK,he,?_,?_,?_⟩
   ·omega
   all_goals simp only[go_sem,r0]
  ·rw[if_neg aeL]at he
   simp only[go_sem,r0,r5,d4];refine⟨aeK,?_⟩;simp only[go_sem,Option.isSome_none,Option.isSome_some,mG,Int.toNat_natCast];refine⟨aeK,aeK,?_⟩;refine(Tq _ _).mono fun x h2 hx=>?_
   obtain⟨⟨v,rfl,hv⟩,rfl⟩:=hx;rw[←hdr]at he;cases e5:uq (s.drop i)with
   |none=>rw[e5]at he;simp only[go_sem,Option.isSome_none];exact akf
   |some b=>
    rw[e5]at he;have hvb:=hv b e5;subst hvb;have h3:=EJ e5;simp only[List.length_drop]at h3;simp only[go_sem,r4,Option.isSome_some];refine hy.app (zs:=[aK b]) aeO aeO (fun k hk=>hk) (by grind [u5z,nP]) (by rw[u5z];exact nP [b]) (by grind [u5b]) fun y' h2 hy' hk2=>?_
    simp only[go_sem,r5,w3];refine⟨_,?_,i+3,f,y',out++ [b],aeL,aeL,rfl,aeK,aeK,?_,?_,?_,?_⟩
    ·omega
    ·simp_all
    all_goals simp only[go_sem,r0]
end Go.Proofs.YtokahfmoollblaaGreatDoor
namespace Go.Bf
open Go Go.Ab
theorem Ig(c:UInt8):dgt c=true↔48≤c.toNat∧c.toNat≤57:=by simp only[dgt,Bool.and_eq_true,decide_eq_true_eq];omega
def JH(acc:Nat)(l:Txt):Nat:=l.foldl (fun n c=>n*10+(c.toNat - 48)) acc
theorem A7(acc:Nat)(c:UInt8)(r:Txt):JH acc (c::r)=JH (acc*10+(c.toNat - 48)) r:=List.foldl_cons ..
theorem DE:∀(l:Txt) (acc:Nat),acc≤JH acc l
 | [],acc=>Nat.le_refl _
 |c::r,acc=>by rw[A7];exact Nat.le_trans aeK (DE r (acc*10+(c.toNat - 48)))
theorem ux:∀(l:Txt) (acc:Nat),(∀c∈l,dgt c=true)→acc<18446744073709551616→
  Lib.parseUint10 acc l=if JH acc l<18446744073709551616 then .ok (JH acc l)else .range
 | [],acc,_,ha=>by have:JH acc []=acc:=rfl;rw[this,if_pos ha];rfl
 |c::r,acc,hd,ha=>by
  have hc:=(Ig c).1 (hd c aeR);have hm:=DE r (acc*10+(c.toNat - 48));rw[A7];unfold Lib.parseUint10;rw[if_pos hc];split
  ·rw[if_neg aeK]
  ·split
   ·rw[if_neg aeK]
   ·exact ux r _ aeL aeK
def qt(neg:Bool):Txt:=if neg then [45]else []
theorem wh(neg:Bool)(d:Txt)(h0:d≠ [])(hd:∀c∈d,dgt c=true):
  Lib.atoiAll (qt neg++d)=if -9223372036854775808≤(if neg then -(mH d:Int)else(mH d:Int))∧(if neg then -(mH d:Int)else(mH d:Int))≤9223372036854775807 then .ok (if neg then -(mH d:Int)else(mH d:Int))else .range:=by
 have hp:Lib.parseMag d=if mH d<18446744073709551616 then .ok (mH d)else .range:=by unfold Lib.parseMag;rw[if_neg h0];exact ux d 0 hd aeO
 cases neg
 ·obtain⟨c,r,rfl⟩:=List.exists_cons_of_ne_nil h0
  have hc:=(Ig c).1 (hd c aeR);simp only[qt,Bool.false_eq_true,if_false,List.nil_append,Lib.atoiAll];rw[if_neg aeK,hp];have e45:(c.toNat=45)=False:=aeL;simp only[e45,not_false_eq_true,true_and,false_and,if_false];split
  ·rename_i h;split at h
   ·cases h
   ·cases h
  ·rename_i h;split at h
   ·cases h
   ·rw[if_neg aeK]
  ·rename_i u h;split at h
   ·cases h
    split
    ·rw[if_neg aeK]
    ·rw[if_pos aeK]
   ·cases h
 ·simp only[qt,if_true,List.cons_append,List.nil_append,Lib.atoiAll]
  rw[if_pos (.inr aeO),hp];simp only[show((45:UInt8).toNat=45)=True by simp,not_true_eq_false,false_and,if_false,true_and,if_true]
  split
  ·rename_i h;split at h
   ·cases h
   ·cases h
  ·rename_i h;split at h
   ·cases h
   ·rw[if_neg aeK]
  ·rename_i u h;split at h
   ·cases h
    split
    ·rw[if_neg aeK]
    ·rw[if_pos aeK]
   ·cases h
theorem AM(s:Txt):∀c∈s.takeWhile dgt,dgt c=true:=fun c hc=>by
 induction s with
 |nil=>cases hc
 |cons x r ih=>
  simp only[List.takeWhile_cons]at hc
  grind
end Go.Bf
namespace Go.Proofs
open Go.Shelf
def Tryz.Er:Go.Shelf.Ren:=⟨fun|137=>189|217=>235|266=>268|n=>n,fun|9=>9|5=>5|3=>3|n=>n,fun|n=>n⟩
theorem Tryz.IF:Go.Proofs.Lays.n137 Tryz.prog Tryz.Er:={
 mixed:=aeZ
 f137:=Tryz.func189.trans aeZ
 f217:=Tryz.func235.trans aeZ
 f266:=Tryz.func268.trans aeZ
 t3:=Tryz.underlying3
 a3:=Tryz.isAgg3
 z3:=Tryz.sizeOf3
 v3:=Tryz.zeroValue3
 t5:=Tryz.underlying5
 a5:=Tryz.isAgg5
 z5:=Tryz.sizeOf5
 v5:=Tryz.zeroValue5
 t9:=Tryz.underlying9
 a9:=Tryz.isAgg9
 z9:=Tryz.sizeOf9
 v9:=Tryz.zeroValue9}
open Go.RowKit in
theorem Tryz.strings_IndexByte(s:ByteArray)(c:Int)(w:World):
  Calls Tryz.prog 189 #[.string s,.int .u8 c] w fun e w' =>e= .returned (.int .i64 (Lib.indexByte s.data.toList c.toNat.toUInt8))∧w' =w:=Any.strings_IndexByte Tryz.IF s c w
def Tryz.CH:Go.Shelf.Ren:=⟨fun|172=>88|244=>146|245=>147|247=>199|279=>200|280=>201|281=>202|282=>203|287=>245|316=>246|171=>53|205=>247|321=>274|322=>275|243=>120|246=>168|283=>220|284=>221|285=>222|286=>223|129=>261|317=>260|318=>262|319=>263|320=>264|337=>289|338=>290|n=>n,fun|9=>9|3=>3|75=>169|76=>170|4=>4|5=>5|167=>285|37=>82|0=>0|85=>286|2=>2|168=>288|53=>76|175=>325|46=>223|210=>328|127=>312|145=>367|143=>365|21=>21|171=>307|173=>310|212=>346|51=>152|20=>20|213=>347|232=>399|233=>400|80=>229|n=>n,fun|15=>1|16=>2|17=>3|18=>4|19=>5|n=>n⟩
theorem Tryz.Es:Go.Proofs.LaysC.n172 Tryz.prog Tryz.CH:={
 mixed:=aeZ
 f129:=Tryz.func261.trans aeZ
 f171:=Tryz.func53.trans aeZ
 f172:=Tryz.func88.trans aeZ
 f205:=Tryz.func247.trans aeZ
 f243:=Tryz.func120.trans aeZ
 f244:=Tryz.func146.trans aeZ
 f245:=Tryz.func147.trans aeZ
 f246:=Tryz.func168.trans aeZ
 f247:=Tryz.func199.trans aeZ
 f279:=Tryz.func200.trans aeZ
 f280:=Tryz.func201.trans aeZ
 f281:=Tryz.func202.trans aeZ
 f282:=Tryz.func203.trans aeZ
 f283:=Tryz.func220.trans aeZ
 f284:=Tryz.func221.trans aeZ
 f285:=Tryz.func222.trans aeZ
 f286:=Tryz.func223.trans aeZ
 f287:=Tryz.func245.trans aeZ
 f316:=Tryz.func246.trans aeZ
 f317:=Tryz.func260.trans aeZ
 f318:=Tryz.func262.trans aeZ
 f319:=Tryz.func263.trans aeZ
 f320:=Tryz.func264.trans aeZ
 f321:=Tryz.func274.trans aeZ
 f322:=Tryz.func275.trans aeZ
 f337:=Tryz.func289.trans aeZ
 f338:=Tryz.func290.trans aeZ
 t0:=Tryz.underlying0
 a0:=Tryz.isAgg0
 z0:=Tryz.sizeOf0
 v0:=Tryz.zeroValue0
 t2:=Tryz.underlying2
 a2:=Tryz.isAgg2
 z2:=Tryz.sizeOf2
 v2:=Tryz.zeroValue2
 t3:=Tryz.underlying3
 a3:=Tryz.isAgg3
 z3:=Tryz.sizeOf3
 v3:=Tryz.zeroValue3
 t4:=Tryz.underlying4
 a4:=Tryz.isAgg4
 z4:=Tryz.sizeOf4
 v4:=Tryz.zeroValue4
 t5:=Tryz.underlying5
 a5:=Tryz.isAgg5
 z5:=Tryz.sizeOf5
 v5:=Tryz.zeroValue5
 t9:=Tryz.underlying9
 a9:=Tryz.isAgg9
 z9:=Tryz.sizeOf9
 v9:=Tryz.zeroValue9
 t20:=Tryz.underlying20
 a20:=Tryz.isAgg20
 z20:=Tryz.sizeOf20
 v20:=Tryz.zeroValue20
 t21:=Tryz.underlying21
 a21:=Tryz.isAgg21
 z21:=Tryz.sizeOf21
 v21:=Tryz.zeroValue21
 t37:=Tryz.underlying82
 a37:=Tryz.isAgg82
 z37:=Tryz.sizeOf82
 v37:=Tryz.zeroValue82
 t46:=Tryz.underlying223
 a46:=Tryz.isAgg223
 z46:=Tryz.sizeOf223
 v46:=Tryz.zeroValue223
 t51:=Tryz.underlying152
 a51:=Tryz.isAgg152
 z51:=Tryz.sizeOf152
 v51:=Tryz.zeroValue152
 t53:=Tryz.underlying76
 a53:=Tryz.isAgg76
 z53:=Tryz.sizeOf76
 v53:=Tryz.zeroValue76
 t75:=Tryz.underlying169
 a75:=Tryz.isAgg169
 z75:=Tryz.sizeOf169
 v75:=Tryz.zeroValue169
 t76:=Tryz.underlying170
 a76:=Tryz.isAgg170
 z76:=Tryz.sizeOf170
 v76:=Tryz.zeroValue170
 t85:=Tryz.underlying286
 a85:=Tryz.isAgg286
 z85:=Tryz.sizeOf286
 v85:=Tryz.zeroValue286
 t127:=Tryz.underlying312
 a127:=Tryz.isAgg312
 z127:=Tryz.sizeOf312
 v127:=Tryz.zeroValue312
 t143:=Tryz.underlying365
 a143:=Tryz.isAgg365
 z143:=Tryz.sizeOf365
 v143:=Tryz.zeroValue365
 t145:=Tryz.underlying367
 a145:=Tryz.isAgg367
 z145:=Tryz.sizeOf367
 v145:=Tryz.zeroValue367
 t167:=Tryz.underlying285
 a167:=Tryz.isAgg285
 z167:=Tryz.sizeOf285
 v167:=Tryz.zeroValue285
 t168:=Tryz.underlying288
 a168:=Tryz.isAgg288
 z168:=Tryz.sizeOf288
 v168:=Tryz.zeroValue288
 t171:=Tryz.underlying307
 a171:=Tryz.isAgg307
 z171:=Tryz.sizeOf307
 v171:=Tryz.zeroValue307
 t173:=Tryz.underlying310
 a173:=Tryz.isAgg310
 z173:=Tryz.sizeOf310
 v173:=Tryz.zeroValue310
 t175:=Tryz.underlying325
 a175:=Tryz.isAgg325
 z175:=Tryz.sizeOf325
 v175:=Tryz.zeroValue325
 t210:=Tryz.underlying328
 a210:=Tryz.isAgg328
 z210:=Tryz.sizeOf328
 v210:=Tryz.zeroValue328
 t212:=Tryz.underlying346
 a212:=Tryz.isAgg346
 z212:=Tryz.sizeOf346
 v212:=Tryz.zeroValue346
 t213:=Tryz.underlying347
 a213:=Tryz.isAgg347
 z213:=Tryz.sizeOf347
 t232:=Tryz.underlying399
 a232:=Tryz.isAgg399
 z232:=Tryz.sizeOf399
 v232:=Tryz.zeroValue399
 t233:=Tryz.underlying400
 a233:=Tryz.isAgg400
 z233:=Tryz.sizeOf400
 v233:=Tryz.zeroValue400
 g15:=aeN
 g16:=aeN
 g17:=aeN
 g18:=aeN
 g19:=aeN
 t80:=Tryz.underlying229
 a80:=Tryz.isAgg229
 z80:=Tryz.sizeOf229
 v80:=Tryz.zeroValue229
 i0:=aeN
 i2:=aeN
 i3:=aeN
 i4:=aeN
 i5:=aeN
 i9:=aeN
 i20:=aeN
 i21:=aeN
 i37:=aeN
 i46:=aeN
 i51:=aeN
 i53:=aeN
 i75:=aeN
 i76:=aeN
 i80:=aeN
 i85:=aeN
 i127:=aeN
 i143:=aeN
 i145:=aeN
 i167:=aeN
 i168:=aeN
 i171:=aeN
 i173:=aeN
 i175:=aeN
 i210:=aeN
 i212:=aeN
 i232:=aeN
 i233:=aeN
 m15:=aeZ
 m16:=aeZ
 m17:=aeZ
 m18:=aeZ
 m19:=aeZ
 c0:=aeN
 c2:=aeN
 c3:=aeN
 c4:=aeN
 c5:=aeN
 c9:=aeN
 c20:=aeN
 c21:=aeN
 c37:=aeN
 c46:=aeN
 c51:=aeN
 c53:=aeN
 c75:=aeN
 c76:=aeN
 c80:=aeN
 c85:=aeN
 c127:=aeN
 c143:=aeN
 c145:=aeN
 c167:=aeN
 c168:=aeN
 c171:=aeN
 c173:=aeN
 c175:=aeN
 c210:=aeN
 c212:=aeN
 c213:=aeN
 c232:=aeN
 c233:=aeN}
open Go.RowKit in
theorem Tryz.strconv_Atoi_ok(s:ByteArray)(hmax:s.size≤9223372036854775806)(v:Int)(h:Lib.atoiAll s.data.toList= .ok v)(w:World):
  Calls Tryz.prog 88 #[.string s] w fun e w' =>e= .returned (.tuple #[.int .i64 v,.nilIface])∧(w' =w∨∃t,w' =Lib.bytesWorld w 5 t):=Any.strconv_Atoi_ok Tryz.Es s hmax v h w
open Go.RowKit in
theorem Tryz.strconv_Atoi_range(s:ByteArray)(hlim:s.size≤281474976710656)(h:Lib.atoiAll s.data.toList= .range)(ev:Value)(w:World)(hv:w.cell? ⟨2,0,none⟩=some ev)(hev:ev= .nilIface∨∃te pe,ev= .iface te pe):
  Calls Tryz.prog 88 #[.string s] w fun e w' =>∃N,e= .returned (.tuple #[.int .i64 (Lib.atoiSat s.data.toList),.iface 288 (.pointer (some ⟨N,0,none⟩))])∧w.heap.size≤N∧w'.heap[N]? =some (.cells #[.string ⟨#[65,116,111,105]⟩,.string s,ev] 328 (0,0))∧Below w.heap.size w w' :=Any.strconv_Atoi_range Tryz.Es s hlim h ev w hv hev
end Go.Proofs
namespace Go.Proofs.YtokahfmoollblaaGreatDoor
open Go Go.Ab Go.Bf Go.RowKit Tryz
theorem KY(s:Txt)(hs:s.length≤100000)(w:World):Calls prog 231 #[.string ⟨s.toArray⟩,.func (.func 186) #[] #[]] w fun e w' =>e= .returned (.int .i64 (s.takeWhile dgt).length)∧Below w.heap.size w w' :=by
 refine Go.Ab.ai.calls (args:=[.s s,.fn 186 []]) ⟨_,func231,aeZ,rfl⟩ ((N8 _ _ nv s cW).mono fun _ _ h=>h.1) rfl (fun i hi=>?_)
 rcases i with _|_|i
 ·exact .s s (by grind [lim,Nat])
 ·exact .fn _ [] #[] rfl (fun i hi=>by cases hi)
 ·simp at hi;omega
def AQ(neg:Bool)(d:Txt):Int:=if neg then -(mH d:Int)else(mH d:Int)
def inI(neg:Bool)(d:Txt):Prop:= -9223372036854775808≤(if neg then -(mH d:Int)else(mH d:Int))∧(if neg then -(mH d:Int)else(mH d:Int))≤9223372036854775807
instance (neg:Bool) (d:Txt):Decidable (inI neg d):=inferInstanceAs (Decidable (_∧_))
theorem zP(neg:Bool):(qt neg).length≤1:=by cases neg<;>decide
theorem Cm(neg:Bool)(d:Txt)(h0:d≠ [])(hd:∀c∈d,dgt c=true)(hlen:d.length≤10000)(S:ByteArray)(hS:S=⟨(qt neg++d).toArray⟩)(hr:inI neg d)(W:World):
  Calls prog 88 #[.string S] W fun e w' =>e= .returned (.tuple #[.int .i64 (AQ neg d),.nilIface])∧Below W.heap.size W w' :=by
 have hl:=zP neg;have hsz:S.size≤10001:=by grind [ByteArray.size]
 have ha:Lib.atoiAll S.data.toList= .ok (AQ neg d):=by rw[hS];rw[wh neg d h0 hd];exact if_pos hr
 refine(Tryz.strconv_Atoi_ok S aeK _ ha W).mono ?_
 rintro e w' ⟨rfl,rfl|⟨t,rfl⟩⟩
 ·exact⟨rfl,.refl _ _⟩
 ·exact⟨rfl,Lib.bytesWorld_below W _ t⟩
theorem Dn(neg:Bool)(d:Txt)(h0:d≠ [])(hd:∀c∈d,dgt c=true)(hlen:d.length≤10000)(S:ByteArray)(hS:S=⟨(qt neg++d).toArray⟩)(hr:¬inI neg d)(W:World)(ev:Value)(hv:W.cell? ⟨2,0,none⟩=some ev)(hev:ev= .nilIface∨∃te pe,ev= .iface te pe):
  Calls prog 88 #[.string S] W fun e w' =>(∃(x:Int) (N:Nat),e= .returned (.tuple #[.int .i64 x,.iface 288 (.pointer (some ⟨N,0,none⟩))]))∧Below W.heap.size W w' :=by
 have hl:=zP neg;have hsz:S.size≤10001:=by grind [ByteArray.size]
 have ha:Lib.atoiAll S.data.toList= .range:=by rw[hS];rw[wh neg d h0 hd];exact if_neg hr
 refine(Tryz.strconv_Atoi_range S aeK ha ev W hv hev).mono ?_
 grind
set_option maxHeartbeats 1000000 in
theorem EI(neg:Bool)(s:Txt)(hs:s.length≤10000)(w:World)(ev:Value)(hv:w.cell? ⟨2,0,none⟩=some ev)(hev:ev= .nilIface∨∃te pe,ev= .iface te pe)(hg:2<w.heap.size):
  Calls prog 187 #[.string ⟨(qt neg).toArray⟩,.string ⟨s.toArray⟩] w fun e w' =>e= .returned (.tuple #[.int .i64 (eW neg s).1,.int .i64 ((eW neg s).2:Nat)])∧Below w.heap.size w w' :=by
 have hle:=kN dgt s;obtain⟨d,ed⟩:∃d,s.takeWhile dgt=d:=⟨_,rfl⟩;have htk:s.take d.length=d:=by grind [rN]
 have hrun:=KY s aeK w;have hall:=AM s;rw[ed]at hrun hle hall
 go_enter func187,Tryz.ntmps187
 by_cases h0:d.length=0
 ·have e0:d= []:=by grind
  have en:eW neg s=(0,0):=by simp_all [eW,if_pos]
  go_wp2_with (go_at_call 231;refine hrun.mono ?_)
  rintro e W0 ⟨rfl,b0⟩
  rw[h0]
  go_wp2
  go_ret2
  simp_all
 ·have e0:d≠ []:=by grind
  go_wp2_with (go_at_call 231;refine hrun.mono ?_)
  rintro e W0 ⟨rfl,b0⟩
  have hpos:0<d.length:=aeK;have hs0:0<s.length:=aeK;have hsz:0<(⟨s.toArray⟩:ByteArray).size:=by grind [ByteArray.size]
  have hg0:(⟨s.toArray⟩:ByteArray)[0]=s[0]:=rfl;have hgn:∀x:UInt8,(s.head? =some x)↔s[0]=x:=fun x=>by rw[List.head?_eq_getElem?,List.getElem?_eq_getElem hs0];simp
  cases d0:((d.length:Int)==0)
  case true=>exact absurd aeL h0
  have hS:(⟨(qt neg).toArray⟩:ByteArray)++(⟨s.toArray⟩:ByteArray).extract 0 d.length=⟨(qt neg++d).toArray⟩:=by
   apply ByteArray.ext
   simp_all
  have hcat:¬9223372036854775807<List.length (qt neg)+d.length:=by grind [zP]
  cases d1:decide (1<(d.length:Int))
  ·have f1:¬1<d.length:=by grind
   have en:eW neg s=if inI neg d then(AQ neg d,d.length)else(0,0):=by unfold eW;rw[ed,if_neg aeL];rfl
   have hv0:W0.cell? ⟨2,0,none⟩=some ev:=by rw[b0.cell hg];omega
   by_cases hr:inI neg d
   ·rw[if_pos hr]at en
    go_wp2_with (go_at_call 88;refine(Cm neg d e0 hall aeK _ aeZ hr _).mono ?_)
    rintro e W1 ⟨rfl,b1⟩
    go_wp2
    go_ret2
    rw[en];exact agA
   ·rw[if_neg hr]at en
    go_wp2_with (go_at_call 88;refine(Dn neg d e0 hall aeK _ aeZ hr _ ev hv0 hev).mono ?_)
    rintro e W1 ⟨⟨x,N,rfl⟩,b1⟩
    go_wp2
    go_ret2
    rw[en];exact agA
  ·have f1:1<d.length:=by grind
   cases d2:((s[0].toNat:Int)==48)
   ·have f2:s.head?≠some 48:=by rw[ne_eq,hgn];intro e;simp_all
    have en:eW neg s=if inI neg d then(AQ neg d,d.length)else(0,0):=by unfold eW;rw[ed,if_neg aeL];rfl
    have hv0:W0.cell? ⟨2,0,none⟩=some ev:=by rw[b0.cell hg];omega
    by_cases hr:inI neg d
    ·rw[if_pos hr]at en
     go_wp2_with (go_at_call 88;refine(Cm neg d e0 hall aeK _ aeZ hr _).mono ?_)
     rintro e W1 ⟨rfl,b1⟩
     go_wp2
     go_ret2
     rw[en];exact agA
    ·rw[if_neg hr]at en
     go_wp2_with (go_at_call 88;refine(Dn neg d e0 hall aeK _ aeZ hr _ ev hv0 hev).mono ?_)
     rintro e W1 ⟨⟨x,N,rfl⟩,b1⟩
     go_wp2
     go_ret2
     rw[en];exact agA
   ·have f2:s.head? =some 48:=by rw[hgn];have:(s[0].toNat:Int)=48:=aeL;exact UInt8.toNat_inj.1 aeL
    have en:eW neg s=(0,0):=by simp_all [eW,if_pos]
    go_wp2
    go_ret2
    simp_all
def iB(h:Heap):Prop:=∃ev:Value,(ev= .nilIface∨∃te pe,ev= .iface te pe)∧Tab h 2 [ev]
theorem iB.sub{h h' :Heap}(he:iB h)(hs:Ab.Sub h h'):iB h' :=by obtain⟨ev,h1,h2⟩:=he;exact⟨ev,h1,h2.sub hs⟩
theorem mR(neg:Bool)(s:Txt)(hs:s.length≤10000)(h:Heap)(he:iB h):ai prog 187 [.s (qt neg),.s s] h fun r h' =>r= .tup [.v (.int .i64 (eW neg s).1),.i ((eW neg s).2:Nat)]∧h' =h:=by
 obtain⟨ev,hev,id,hi⟩:=he;refine .lib ⟨_,func187,aeZ,rfl⟩ fun c vs hs' g h1 h2=>?_
 obtain⟨u,v,rfl⟩:∃u v,vs= #[u,v]:=by
  match vs,h1 with
  |⟨[u,v]⟩,_=>exact⟨u,v,rfl⟩
 have e1:u= .string ⟨(qt neg).toArray⟩:=((h2 0 aeR).l8).1;have e2:v= .string ⟨s.toArray⟩:=((h2 1 aeR).l8).1;subst e1;subst e2
 obtain⟨_,t,fr,hh⟩:=g.ro id _ _ (hs' _ _ hi);have hc:c.w.cell? ⟨2,0,none⟩=some ev:=by grind [World.cell?]
 refine(EI neg s hs c.w ev hc hev (cZ hh)).mono ?_;exact ajR
end Go.Proofs.YtokahfmoollblaaGreatDoor
namespace Go.Bf
open Go Go.Ab
def marks:Txt:=[123,125,40,41,46,44,59,61,60,62,33]
theorem Aw:∀n:Fin 256,decide (0≤Lib.indexByte marks (UInt8.ofNat n.val))=EA (UInt8.ofNat n.val):=aeO
theorem rX(c:UInt8):decide (0≤Lib.indexByte marks c)=EA c:=by have:=Aw ⟨c.toNat,c.toNat_lt⟩;simpa using this
end Go.Bf
namespace Go.Proofs.YtokahfmoollblaaGreatDoor
open Go Go.Ab Go.Bf Tryz
variable {f:FuncId}{args xs:List AV}{st st':PS}{R y:AV}{h G B H K a h':Heap}{Q:AV→Heap→Prop}{j idw mid nr nk d:Nat}{e:TypeId}{l:List aQ}{ex:ExF}{S:List Nat}{m m1:eO}{s:Txt}{alg:Int}{tgt:gp}{obls:List cC}{rules:List cV}{kids:List bE}
theorem Eh(l:Txt)(c:UInt8)(h:Heap):ai prog 189 [.s l,.v (.int .u8 c.toNat)] h fun r h' =>r= .i (Lib.indexByte l c)∧h' =h:=by
 refine .lib ⟨_,func189,aeZ,rfl⟩ fun cx vs hs' g h1 h2=>?_
 obtain⟨u,v,rfl⟩:∃u v,vs= #[u,v]:=by
  match vs,h1 with
  |⟨[u,v]⟩,_=>exact⟨u,v,rfl⟩
 have e1:u= .string ⟨l.toArray⟩:=((h2 0 aeR).l8).1;have e2:v= .int .u8 c.toNat:=(h2 1 aeR).bR;subst e1;subst e2
 refine(Tryz.strings_IndexByte ⟨l.toArray⟩ c.toNat cx.w).mono ?_;exact ajY
theorem Jt(s:Txt)(h0:s≠ [])(hs:s.length≤4096)(h:Heap)(he:iB h):ai prog 136 [.s s] h fun r h' =>r= .tup [fH (bO s).1,.i ((bO s).2:Nat)]∧h' =h:=by
 refine aeJ func136 106 [.cell 2 162,.tmp 3] fun hwf=>?_
 obtain⟨c,r,rfl⟩:=List.exists_cons_of_ne_nil h0;have hsl:r.length≤4095:=by simpa using hs
 simp only[go_sem];intro i2 hi2;simp only[go_sem];intro i4 hi4;have n24:=aH hi4;have g2:∀(f:Heap) (x:Option Blk),upd f i4 x i2=f i2:=fun f x=>ag f x n24.symm
 have g4:∀(f:Heap) (x:Option Blk),upd f i2 x i4=f i4:=fun f x=>ag f x n24
 have hsub:Ab.Sub h (upd (upd h i2 (some (.obj [.i 0,.i 0,.i 0,.s []] 162))) i4 (some (.obj [.i 0,.i 0,.i 0,.s []] 162))):=(Sub.aj hi2).trans (.aj hi4);have he2:=he.sub hsub;have hi4h:h i4=none:=by rw[ag _ _ n24]at hi4;exact hi4
 simp only[go_sem];refine .at 0 aeR ?_;cases la:decide (97≤(c.toNat:Int))
 ·have hl:ltr c=false:=by simp only[ltr,la,Bool.false_and]
  simp only[go_sem,aK,List.getElem_cons_zero,la];exact aiY
 ·cases lb:decide ((c.toNat:Int)≤122)
  ·have hl:ltr c=false:=by simp only[ltr,lb,Bool.and_false]
   simp only[go_sem,aK,List.getElem_cons_zero,la,lb];exact aiY
  ·have hl:ltr c=true:=by simp only[ltr,la,lb];rfl
   simp only[go_sem,aK,List.getElem_cons_zero,la,lb];refine(zn _ _).pthen ?_;simp only[go_sem,g2,ah];exact .mk _ (.refl _) aeM ⟨by simp[bO,hl,fH,ax],rfl⟩
theorem QN:(U 162).sz=4:=aeZ
theorem WY:(U 162).bytes=40:=aeZ
theorem qf(l:List qv):Sized 4 (l.map fH):=fun z hz=>by obtain⟨c,_,rfl⟩:=List.mem_map.1 hz;rfl
def GQ:Lexed→AV
 |.bad e a=> .tup [.sl [] .no,.i e,.i a]
 |.ok l=> .tup [.sl (l.map fH) .no,.i 0,.i 0]
def LH(s:Txt)(h:Heap)(m:Nat)(ρ:Env)(h' :Heap):Prop:=
 ∃(i f:Nat) (y:AV) (out:List qv) (id:Nat),Acc U 162 h h' y (out.map fH)∧out.length≤i∧i≤s.length∧m=s.length - i∧s.length<f+i∧s.length≤4096∧h id=none∧(∃c0 c1 c2 c3,h' id=some (.obj [c0,c1,c2,c3] 162))∧qA f (s.drop i) i out=pO s∧lk ρ 0=some (.s s)∧lk ρ 5=some y∧lk ρ 6=some (.ptr id 0)∧lk ρ 7=some (.i i)
theorem ym(s:Txt)(h:Heap)(he:iB h):ai prog 79 [.s s] h fun r h' =>r=GQ (pO s)∧h' =h:=by
 refine ai.of_wp hU func79 rfl aeZ 52 rfl [.tmp 2,.tmp 3,.tmp 4] rfl (aez rfl) ?_;refine .one hU hm ?_;simp only[go_sem];refine WP.Ob hU hm 0 (LH s h) rfl ?_ ?_
 ·rintro m ρ h' ⟨i,f,y,out,id,hy,hoi,hi,rfl,hf,hs,hid,⟨c0,c1,c2,c3,hob⟩,hl,r0,r5,r6,r7⟩
  refine .vc hU hm ?_;cases d1:((i:Int)==(s.length:Int))
  case true=>
   have e1:i=s.length:=aeL;subst e1;obtain⟨f,rfl⟩:∃g,f=g+1:=⟨f - 1,aeK⟩;rw[List.drop_length]at hl;simp only[qA]at hl;simp only[go_sem,r0,r5,r7,d1];refine hy.app (zs:=[fH ⟨7,s.length,0,[]⟩]) aeO aeO (fun k hk=>hk) (by grind [QN,qf]) (by rw[QN];exact qf [⟨7,s.length,0,[]⟩]) (by grind [WY]) fun y' h2 hy' hk2=>?_
   simp only[go_sem];obtain⟨q,rfl⟩:=hy'.row;refine .mk _ (B5 _ _ _ _) hy'.1 ⟨?_,rfl⟩
   grind [GQ]
  have e1:i≠s.length:=aeL;have hlt:i<s.length:=aeK;obtain⟨f,rfl⟩:∃g,f=g+1:=⟨f - 1,aeK⟩;have hdr:s.drop i=s[i]::s.drop (i+1):=aeR;have w1:IntKind.i64.wrap ((i:Int)+1)=((i+1:Nat):Int):=aeW;have hl2:=hl;rw[hdr]at hl2;simp only[qA]at hl2;rw[←hdr]at hl2;have blank:qJ s[i]=true→∃m',m' <s.length - i∧True:=fun _=>⟨s.length - (i+1),aeK,trivial⟩
  cases d2:((s[i].toNat:Int)==32)
  case true=>
   have hb:qJ s[i]=true:=by simp only[qJ,d2,Bool.true_or]
   rw[if_pos hb]at hl2;simp only[go_sem,r0,r7,d1];refine .at i hlt ?_;simp only[go_sem,r7,aK,d2,w1];exact ajQ
  cases d3:((s[i].toNat:Int)==10)
  case true=>
   have hb:qJ s[i]=true:=by simp only[qJ,d3,Bool.or_true]
   rw[if_pos hb]at hl2;simp only[go_sem,r0,r7,d1];refine .at i hlt ?_;simp only[go_sem,r0,r7,aK,d2];refine .at i hlt ?_;simp only[go_sem,r7,aK,d3,w1];exact ajQ
  have hb:¬qJ s[i]=true:=by grind [qJ]
  rw[if_neg hb]at hl2;have hne:s.drop i≠ []:=fun e=>by have:=congrArg List.length e;simp at this;omega
  have hle:=sJ (s.drop i) hne;have hdl:(s.drop i).length=s.length - i:=aeR;have hbo:=fun hh eh=>Jt (s.drop i) hne aeK hh eh
  obtain⟨t,n,etn⟩:∃t n,bO (s.drop i)=(t,n):=⟨_,_,rfl⟩;rw[etn]at hbo hl2 hle;simp only[fH]at hbo hl2 hle;simp only[go_sem,r0,r7,d1];refine .at i hlt ?_;simp only[go_sem,r0,r7,aK,d2];refine .at i hlt ?_;simp only[go_sem,r0,r7,aK,d3,mG,Option.isSome_none,Option.isSome_some,Int.toNat_natCast];refine⟨aeK,aeK,aeK,?_⟩;refine(hbo _ (he.sub hy.1)).pthen ?_;cases d4:((n:Int)==0)
  case true=>have e4:n=0:=aeL;rw[if_pos e4]at hl2;simp only[go_sem,r6,r7,hob,d4];refine .mk _ (B5 _ _ _ _) (hy.1.put hid _) ⟨?_,rfl⟩;rw[←hl2];rfl
  have e4:n≠0:=aeL;rw[if_neg e4]at hl2;have w2:IntKind.i64.wrap ((i:Int)+(n:Int))=((i+n:Nat):Int):=aeW;simp only[go_sem,r5,r6,r7,hob,d4];refine(hy.put hid hob _).app (zs:=[fH {t with pos:=i}]) aeO aeO (fun k hk=>hk) (by grind [QN,qf]) (by rw[QN];exact qf [{t with pos:=i}]) (by grind [WY]) fun y' h2 hy' hk2=>?_
  simp only[go_sem,r7,w2];refine⟨s.length - (i+n),aeK,i+n,f,y',out++ [{t with pos:=i}],id,aeL,aeL,aeK,rfl,aeK,hs,hid,⟨_,_,_,_,hk2 _ _ _ (ah ..)⟩,?_,?_,?_,?_,?_⟩
  ·grind [List.drop_drop]
  all_goals simp only[go_sem,r0,r6]
 ·intro nx
  cases d0:decide (4096<(s.length:Int))
  case true=>have e0:s.length>4096:=aeL;refine .one hU hm ?_;simp only[go_sem,d0];exact .mk (.tup [.sl [] .no,.i 6,.i 4096]) (fI (.tup [.sl [] .full,.i 6,.i 4096])) (.refl _) ⟨by rw[pO,if_pos e0];rfl,rfl⟩
  have e0:¬s.length>4096:=aeL;refine .one hU hm ?_;simp only[go_sem,d0];refine .one hU hm ?_;simp only[go_sem];refine .one hU hm ?_;simp only[go_sem];intro id hid;simp only[go_sem];refine .one hU hm ?_;simp only[go_sem];refine .one hU hm ?_;simp only[go_sem];refine nx (s.length - 0) _ _ ⟨0,s.length+1,_,[],id,.full (.aj hid),aeR,aeK,rfl,aeK,aeK,hid,⟨_,_,_,_,ah ..⟩,by simp_all [pO,if_neg],?_,?_,?_,?_⟩<;>simp only[go_sem]
def PO(st:PS):Blk:=.obj [.sl (st.ts.map fH) .no,.i st.pos,.i st.rules,.i st.bad,.i st.place] 159
def PC(f:FuncId)(args:List AV)(st:PS)(R:AV)(st' :PS):Prop:=∀(h:Heap) (id:Nat),h id=some (PO st)→ai prog f (.ptr id 0::args) h fun r h' =>r=R∧h' =upd h id (some (PO st'))
theorem PC.go(hc:PC f args st R st'){id:Nat}(hid:h id=some (PO st))(k:Q R (upd h id (some (PO st')))):ai prog f (.ptr id 0::args) h Q:=
 (hc h id hid).mono fun r h' ⟨e1,e2⟩=>ahq
theorem bH{id:Nat}{b:Option Blk}(e:h id=b):upd h id b=h:=by grind [ah,ag]
theorem rR(st:PS)(e p:Int):PC 84 [.i e,.i p] st (.tup []) (bJ st e p):=fun h id hid=>by
 refine aeJ func84 19 [] fun hwf=>?_
 have g:=hid;unfold PO at g;cases d1:(st.bad==0)
 ·have e1:st.bad≠0:=by grind
  simp only[go_sem,g,d1];exact .mk _ (.refl _) (.refl _) ⟨rfl,by rw[bJ,if_neg e1,bH hid]⟩
 ·have e1:st.bad=0:=by grind
  simp only[go_sem,g,d1];exact .mk _ (.refl _) (.refl _) ⟨rfl,by rw[bJ,if_pos e1];rfl⟩
theorem mJ(st:PS)(hw:WfP st):PC 81 [] st (fH (aM st)) st:=fun h id hid=>by
 refine aeJ func81 13 [.cell 2 162] fun hwf=>?_
 have g:=hid;unfold PO at g;simp only[go_sem];intro i2 hi2;have n2:id≠i2:=fun e=>aeL
 simp only[go_sem,g,ak,n2];refine⟨.of aeN,?_⟩;refine .at st.pos (by simpa using hw.1) aeU ?_
 simp only[go_sem,aeB,fH];refine .mk _ (.refl _) (.aj hi2) ⟨by rw[Ee hw.1];rfl,(bH hid).symm⟩
theorem mb(st:PS)(hw:WfP st):PC 82 [] st (.tup []) (br st):=fun h id hid=>by
 refine aeJ func82 7 [] fun hwf=>?_
 simp only[go_sem];refine(mJ st hw).go hid ?_;rw[bH hid];simp only[go_sem,fH];refine(rR st 5 _).go hid ?_;exact ajx
theorem cR(st:PS)(b:Bool)(hw:WfP st):PC 193 [.b b] st (.tup []) (bG st b):=fun h id hid=>by
 refine aeJ func193 10 [] fun hwf=>?_
 cases b
 ·simp only[go_sem]
  exact ahw
 simp only[go_sem];refine(mJ st hw).go hid ?_;rw[bH hid];simp only[go_sem,fH];refine(rR st 6 _).go hid ?_;exact ajx
theorem ug(st:PS)(s:Txt)(hw:WfP st):PC 194 [.s s] st (.b (isD st s)) st:=fun h id hid=>by
 refine aeJ func194 29 [.tmp 4] fun hwf=>?_
 have g:=hid;unfold PO at g;simp only[go_sem];refine(mJ st hw).go hid ?_;rw[bH hid];simp only[go_sem,fH];intro i2 hi2;have n2:id≠i2:=fun e=>aeL
 cases d1:(st.bad==0)<;>cases d2:((aM st).s==s)<;>cases d3:((aM st).kind==1)<;>cases d4:((aM st).kind==6)
 all_goals
  simp only[go_sem,g,ak,n2,d1,d2,d3,d4];exact .mk _ (.refl _) (.aj hi2) ⟨by simp only[isD,d1,d2,d3,d4];rfl,rfl⟩
theorem kO(st:PS)(s:Txt)(hw:WfP st):PC 191 [.s s] st (.v (.bool (cw st s).1)) (cw st s).2:=fun h id hid=>by
 refine aeJ func191 18 [.tmp 4] fun hwf=>?_
 have g:=hid;unfold PO at g;simp only[go_sem];refine(ug st s hw).go hid ?_;rw[bH hid];cases d1:isD st s
 ·have e:cw st s=(false,st):=by grind [cw]
  simp only[go_sem];exact .mk _ (.refl _) (.refl _) ⟨aiC,by grind [bH]⟩
 ·have e:cw st s=(true,bl st):=by grind [cw]
  have w1:IntKind.i64.wrap ((st.pos:Int)+1)=((st.pos+1:Nat):Int):=agu;simp only[go_sem,g,w1];exact .mk _ (.refl _) (.refl _) ⟨aiC,aiC⟩
theorem lF(st:PS)(s:Txt)(hw:WfP st):PC 140 [.s s] st (.tup []) (ew st s):=fun h id hid=>by
 refine aeJ func140 10 [] fun hwf=>?_
 simp only[go_sem];refine(kO st s hw).go hid ?_;cases d1:isD st s
 ·have e:cw st s=(false,st):=by grind [cw]
  rw[e,bH hid];simp only[go_sem];refine(mb st hw).go hid ?_;exact akq
 ·have e:cw st s=(true,bl st):=by grind [cw]
  rw[e];exact akq
theorem uB(st:PS)(hw:WfP st):PC 138 [] st (.s (cu st).1) (cu st).2:=fun h id hid=>by
 refine aeJ func138 25 [.tmp 2] fun hwf=>?_
 have g:=hid;unfold PO at g;have w1:IntKind.i64.wrap ((st.pos:Int)+1)=((st.pos+1:Nat):Int):=agu;simp only[go_sem];refine(mJ st hw).go hid ?_;rw[bH hid];simp only[go_sem,fH];intro i2 hi2;have n2:id≠i2:=fun e=>aeL
 cases d1:((aM st).kind !=1)
 case true=>
  have e1:(aM st).kind≠1:=aeL;have en:cu st=([],br st):=by grind [cu]
  simp only[go_sem,d1];have hid2:upd h i2 (some (.obj [.v (.int .i64 (aM st).kind),.v (.int .i64 (aM st).pos),.v (.int .i64 (aM st).n),.s (aM st).s] 162)) id=some (PO st):=afq;refine(mb st hw).go hid2 ?_;have hb:(br st).bad≠0:=by grind [br,bJ,Int]
  have d2:((br st).bad !=0)=true:=aeL;simp only[go_sem,PO,d2];exact .mk _ (.refl _) (Sub.both (.aj hi2) _ _) ⟨afF,aeL⟩
 have e1:(aM st).kind=1:=aeL;cases d2:(st.bad !=0)
 case true=>
  have e2:st.bad≠0:=aeL;have en:cu st=([],st):=by grind [cu]
  simp only[go_sem,g,ak,n2,d1,d2];exact .mk _ (.refl _) (.aj hi2) ⟨afF,by grind [bH]⟩
 have e2:st.bad=0:=aeL;have en:cu st=((aM st).s,bl st):=by grind [cu]
 simp only[go_sem,g,ak,n2,n2.symm,d1,d2,w1];exact .mk _ (.refl _) (Sub.both (.aj hi2) _ _) ⟨afF,by rw[en];try rfl⟩
theorem PC.run(hc:PC f args st R st'){id:Nat}(k:Q R (upd G id (some (PO st')))):ai prog f (.ptr id 0::args) (upd G id (some (PO st))) Q:=
 hc.go (ah ..) (by rw[eD];exact k)
theorem PC.of(hk:∀(G:Heap) (id:Nat),ai prog f (.ptr id 0::args) (upd G id (some (PO st))) fun r h' =>r=R∧h' =upd G id (some (PO st'))):PC f args st R st' :=fun h id hid=>by have:=hk h id;rw[bH hid]at this;exact afv
theorem cB{α:Type}(f:Nat→α){i:Nat}(x y:α)(h:i≠j):upd (upd f i x) j y=upd (upd f j y) i x:=by grind [ag,ah]
theorem CD{s:Txt}:∀ {ws:List Txt} {i:Nat},vu s ws=some i→i<ws.length
 |w::r,i,h=>by
  simp only[vu]at h;split at h
  ·grind
  ·cases hr:vu s r with
   |none=>grind
   |some j=>rw[hr]at h;cases h;have:=CD hr;simp;omega
theorem Iz{s:Txt}:∀ {ws:List Txt} (i:Nat) (hi:i<ws.length),(∀j (hj:j<ws.length),j<i→ws[j]≠s)→ws[i]=s→vu s ws=some i
 |w::r,0,_,_,h=>by grind [vu]
 |w::r,i+1,hi,hb,h=>by have h0:=hb 0 aeR aeK;simp only[List.getElem_cons_zero]at h0;simp only[vu,if_neg h0];rw[Iz i aeL aeL aeL];rfl
theorem Bn{s:Txt}:∀ {ws:List Txt},(∀j (hj:j<ws.length),ws[j]≠s)→vu s ws=none
 | [],_=>rfl
 |w::r,hb=>by
  have h0:=hb 0 aeR;simp only[List.getElem_cons_zero]at h0;simp only[vu,if_neg h0];rw[Bn (fun j hj=>by have:=hb (j+1) aeL;simpa using this)]
  rfl
def S0(o:Option Nat):Int:=match o with
 |some i=>i
 |none=> -1
theorem Kn(ws:List Txt)(q:Perm)(s:Txt)(hl:ws.length≤1000)(h:Heap):ai prog 190 [.sl (ws.map AV.s) q,.s s] h fun r h' =>r= .i (S0 (vu s ws))∧h' =h:=by
 refine aeJ func190 19 [.tmp 4] fun hwf=>?_
 simp only[go_sem,aeA];refine .intro (fun m ρ h' =>h' =h∧∃i:Nat,i≤ws.length∧m=ws.length - i∧(∀j (hj:j<ws.length),j<i→ws[j]≠s)∧lk ρ 0=some (.sl (ws.map AV.s) q)∧lk ρ 1=some (.s s)∧lk ρ 7=some (.i ws.length)∧lk ρ 8=some (.i i)) ws.length ?_ ?_
 ·refine⟨rfl,0,aeK,rfl,fun j _ hj=>aeK,?_,?_,?_,?_⟩<;>simp only[go_sem]
 ·rintro m ρ h' ⟨rfl,i,hi,rfl,hc,r0,r1,r7,r8⟩
  simp only[go_sem,r7,r8];refine .intro (fun e=>?_) (fun e=>?_)
  ·have hlt:i<ws.length:=aeH e
   have w1:IntKind.i64.wrap ((i:Int)+1)=((i+1:Nat):Int):=aeW;simp only[go_sem,r0,r1,r8];refine .at i aeL aeU ?_;cases d1:(s==ws[i])
   ·have e1:ws[i]≠s:=by grind
    simp only[go_sem,r8,aeB,d1,w1];refine⟨_,?_,rfl,i+1,aeK,rfl,fun j hj hji=>?_,?_,?_,?_,?_⟩
    ·omega
    ·grind
    all_goals simp only[go_sem,r0,r1,r7]
   ·have e1:ws[i]=s:=by grind
    simp only[go_sem,aeB,d1];exact .same (.refl _) ⟨by rw[Iz i hlt hc e1];rfl,rfl⟩
  ·have hge:i=ws.length:=by grind
   subst hge;simp only[go_sem];exact .same (.refl _) ⟨by rw[Bn fun j hj=>hc j hj hj];rfl,rfl⟩
theorem oQ(st:PS)(ws:List Txt)(q:Perm)(hl:ws.length≤1000)(hw:WfP st):PC 137 [.sl (ws.map AV.s) q] st (.v (.int .i64 (bf st ws).1)) (bf st ws).2:=.of fun G id=>by
 refine aeJ func137 28 [.tmp 4] fun hwf=>?_
 simp only[go_sem];refine(mJ st hw).run ?_;simp only[go_sem,fH];intro i2 hi2;have n2:=aH hi2;have hG2:G i2=none:=afq;have c2:∀(f:Heap) (x y:Option Blk),upd (upd f id x) i2 y=upd (upd f i2 y) id x:=fun f x y=>cB f x y n2.symm
 cases d1:((aM st).kind==1)
 ·have e1:(aM st).kind≠1:=by grind
  have en:bf st ws=(0,br st):=by grind [bf]
  simp only[go_sem,c2,ak,n2,d1];exact aju
 have e1:(aM st).kind=1:=aeL;simp only[go_sem,c2,ak,n2,d1];refine(Kn ws q _ hl _).pthen ?_;cases ei:vu (aM st).s ws with
 |none=>
  have en:bf st ws=(0,br st):=by grind [bf]
  have dm:decide ((0:Int)≤ -1)=false:=aeO;simp only[go_sem,S0,dm];exact aju
 |some i=>
  have hil:=CD ei;have d2:decide (0≤(i:Int))=true:=aeR;have w1:IntKind.i64.wrap ((i:Int)+1)=((i:Int)+1):=aeW;simp only[go_sem,S0,d2,ak,n2];refine(kO st _ hw).run ?_;cases d3:(st.bad==0)
  ·have e3:st.bad≠0:=by grind
   have et:cw st (aM st).s=(false,st):=by grind [cw,isD]
   have en:bf st ws=(0,br st):=by grind [bf]
   rw[et];simp only[go_sem];exact aju
  ·have e3:st.bad=0:=by grind
   have et:cw st (aM st).s=(true,bl st):=by grind [cw,isD]
   have en:bf st ws=((i:Int)+1,bl st):=by grind [bf]
   rw[et];simp only[go_sem,w1];exact .mk _ (.refl _) (Sub.both (.aj hG2) _ _) ⟨afF,by rw[en]⟩
theorem L0(st:PS)(hw:WfP st):PC 291 [] st (Dp (gm st).1) (gm st).2:=.of fun G id=>by
 have h1:=gN wo hw;have h2:=jB [46] h1.1;have h3:=nM h2.1;refine aeJ func291 17 [.cell 2 220] fun hwf=>?_
 simp only[go_sem];intro i2 hi2;have n2:=aH hi2;have hG2:G i2=none:=afq;have c2:∀(f:Heap) (x y:Option Blk),upd (upd f id x) i2 y=upd (upd f i2 y) id x:=fun f x y=>cB f x y n2.symm
 simp only[go_sem,c2];intro i3 hi3;have n3:=aH hi3;have hi3' :=hi3;rw[ag _ _ n3]at hi3';have n32:=aH hi3';have hG3:G i3=none:=afq;have c3:∀(f:Heap) (x y:Option Blk),upd (upd f id x) i3 y=upd (upd f i3 y) id x:=fun f x y=>cB f x y n3.symm
 have c23:∀(f:Heap) (x y:Option Blk),upd (upd f i3 x) i2 y=upd (upd f i2 y) i3 x:=fun f x y=>cB f x y n32
 have m32:¬i3=i2:=n32;have m23:¬i2=i3:=n32.symm;simp only[go_sem,c3];refine(oQ st wo .full aeO hw).run ?_;simp only[go_sem,c3,ak,n3];refine(lF _ [46] h1.1).run ?_;simp only[go_sem];refine(uB _ h2.1).run ?_;simp only[go_sem,c3,ak,n3];refine(kO _ [33] h3.1).run ?_;simp only[go_sem,c2,c3,c23,ak,n2,n3,m23];exact .mk _ (.refl _) (Sub.both afe _ _) ⟨rfl,rfl⟩
theorem uY(st:PS)(hw:WfP st):PC 292 [] st (aS (aD st).1) (aD st).2:=.of fun G id=>by
 refine aeJ func292 56 [.cell 2 44] fun hwf=>?_
 have w1:IntKind.i64.wrap ((st.pos:Int)+1)=((st.pos+1:Nat):Int):=agu;simp only[go_sem];intro i2 hi2;have n2:=aH hi2;have hG2:G i2=none:=by rw[ag _ _ n2]at hi2;exact hi2
 have c2:∀(f:Heap) (x y:Option Blk),upd (upd f id x) i2 y=upd (upd f i2 y) id x:=fun f x y=>cB f x y n2.symm
 simp only[go_sem,c2];refine(mJ st hw).run ?_;simp only[go_sem,fH];intro i3 hi3;have n3:=aH hi3;have hi3' :=hi3;rw[ag _ _ n3]at hi3';have n32:=aH hi3';have hG3:G i3=none:=by rw[ag _ _ n32]at hi3';exact hi3'
 have c3:∀(f:Heap) (x y:Option Blk),upd (upd f id x) i3 y=upd (upd f i3 y) id x:=fun f x y=>cB f x y n3.symm
 have c23:∀(f:Heap) (x y:Option Blk),upd (upd f i3 x) i2 y=upd (upd f i2 y) i3 x:=fun f x y=>cB f x y n32
 have m32:¬i3=i2:=n32;have m23:¬i2=i3:=n32.symm;simp only[go_sem,c3,ak,n3];intro i4 hi4;have n4:=aH hi4;have hi4' :=hi4;rw[ag _ _ n4]at hi4';have n43:=aH hi4';have hi4'' :=hi4';rw[ag _ _ n43]at hi4'';have n42:=aH hi4'';have hG4:G i4=none:=by rw[ag _ _ n42]at hi4'';exact hi4''
 have c4:∀(f:Heap) (x y:Option Blk),upd (upd f id x) i4 y=upd (upd f i4 y) id x:=fun f x y=>cB f x y n4.symm
 have c24:∀(f:Heap) (x y:Option Blk),upd (upd f i4 x) i2 y=upd (upd f i2 y) i4 x:=fun f x y=>cB f x y n42
 have c34:∀(f:Heap) (x y:Option Blk),upd (upd f i4 x) i3 y=upd (upd f i3 y) i4 x:=fun f x y=>cB f x y n43
 have m42:¬i4=i2:=n42;have m24:¬i2=i4:=n42.symm;have m43:¬i4=i3:=n43;have m34:¬i3=i4:=n43.symm;cases k2:((aM st).kind==2)
 case true=>
  have e2:(aM st).kind=2:=by simpa using k2
  have ev:gj st=(⟨2,(aM st).n,(aM st).s⟩,st):=by simp[gj,e2]
  cases kb:(st.bad !=0)
  ·have eb:st.bad=0:=by simpa using kb
   have en:aD st=(⟨2,(aM st).n,(aM st).s⟩,bl st):=agb;simp only[go_sem,c2,c4,c23,c24,ak,n2,n3,n4,m23,m24,m34,k2,PO,kb,w1];exact ai4
  ·have eb:st.bad≠0:=by simpa using kb
   have en:aD st=(⟨0,0,[]⟩,st):=agb;simp only[go_sem,c2,c4,c23,c24,ak,n2,n3,n4,m23,m24,m34,k2,PO,kb];exact ai4
 have e2:(aM st).kind≠2:=by simpa using k2
 cases k3:((aM st).kind==3)
 case true=>
  have e3:(aM st).kind=3:=by simpa using k3
  have ev:gj st=(⟨4,(aM st).n,(aM st).s⟩,st):=by simp[gj,e3]
  cases kb:(st.bad !=0)
  ·have eb:st.bad=0:=by simpa using kb
   have en:aD st=(⟨4,(aM st).n,(aM st).s⟩,bl st):=agb;simp only[go_sem,c2,c4,c23,c24,ak,n2,n3,n4,m23,m24,m34,k2,k3,PO,kb,w1];exact ai4
  ·have eb:st.bad≠0:=by simpa using kb
   have en:aD st=(⟨0,0,[]⟩,st):=agb;simp only[go_sem,c2,c4,c23,c24,ak,n2,n3,n4,m23,m24,m34,k2,k3,PO,kb];exact ai4
 have e3:(aM st).kind≠3:=by simpa using k3
 cases k4:((aM st).kind==4)
 case true=>
  have e4:(aM st).kind=4:=by simpa using k4
  have ev:gj st=(⟨5,(aM st).n,(aM st).s⟩,st):=by simp[gj,e4]
  cases kb:(st.bad !=0)
  ·have eb:st.bad=0:=by simpa using kb
   have en:aD st=(⟨5,(aM st).n,(aM st).s⟩,bl st):=agb;simp only[go_sem,c2,c4,c23,c24,ak,n2,n3,n4,m23,m24,m34,k2,k3,k4,PO,kb,w1];exact ai4
  ·have eb:st.bad≠0:=by simpa using kb
   have en:aD st=(⟨0,0,[]⟩,st):=agb;simp only[go_sem,c2,c4,c23,c24,ak,n2,n3,n4,m23,m24,m34,k2,k3,k4,PO,kb];exact ai4
 have e4:(aM st).kind≠4:=by simpa using k4
 cases k5:((aM st).kind==5)
 case true=>
  have e5:(aM st).kind=5:=by simpa using k5
  have ev:gj st=(⟨3,(aM st).n,(aM st).s⟩,st):=by simp[gj,e5]
  cases kb:(st.bad !=0)
  ·have eb:st.bad=0:=by simpa using kb
   have en:aD st=(⟨3,(aM st).n,(aM st).s⟩,bl st):=agb;simp only[go_sem,c2,c4,c23,c24,ak,n2,n3,n4,m23,m24,m34,k2,k3,k4,k5,PO,kb,w1];exact ai4
  ·have eb:st.bad≠0:=by simpa using kb
   have en:aD st=(⟨0,0,[]⟩,st):=agb;simp only[go_sem,c2,c4,c23,c24,ak,n2,n3,n4,m23,m24,m34,k2,k3,k4,k5,PO,kb];exact ai4
 have e5:(aM st).kind≠5:=by simpa using k5
 simp only[go_sem,c4,ak,n3,n4,m34,k2,k3,k4,k5];refine(ug st xo hw).run ?_;cases kt:isD st xo
 case true=>
  have ev:gj st=(⟨1,1,[]⟩,st):=by simp[gj,e2,e3,e4,e5,kt]
  cases kb:(st.bad !=0)
  ·have eb:st.bad=0:=by simpa using kb
   have en:aD st=(⟨1,1,[]⟩,bl st):=agb;simp only[go_sem,c2,c4,c23,c24,ak,n2,n4,m23,m24,PO,kb,w1];exact ai4
  ·have eb:st.bad≠0:=by simpa using kb
   have en:aD st=(⟨0,0,[]⟩,st):=agb;simp only[go_sem,c2,c4,c23,c24,ak,n2,n4,m23,m24,PO,kb];exact ai4
 simp only[go_sem];refine(ug st qT hw).run ?_;cases kf:isD st qT
 case true=>
  have ev:gj st=(⟨1,0,[]⟩,st):=by simp[gj,e2,e3,e4,e5,kt,kf]
  cases kb:(st.bad !=0)
  ·have eb:st.bad=0:=by simpa using kb
   have en:aD st=(⟨1,0,[]⟩,bl st):=agb;simp only[go_sem,c2,c4,c23,c24,ak,n2,n4,m23,m24,PO,kb,w1];exact ai4
  ·have eb:st.bad≠0:=by simpa using kb
   have en:aD st=(⟨0,0,[]⟩,st):=agb;simp only[go_sem,c2,c4,c23,c24,ak,n2,n4,m23,m24,PO,kb];exact ai4
 have ev:gj st=(⟨0,(aM st).n,(aM st).s⟩,br st):=by simp[gj,e2,e3,e4,e5,kt,kf]
 have en:aD st=(⟨0,0,[]⟩,br st):=by simp[aD,ev,so]
 have kb:((br st).bad !=0)=true:=by simpa using so st
 simp only[go_sem];refine(mb st hw).run ?_;simp only[go_sem,c2,c23,c24,ak,n2,m23,m24,PO,kb];exact ai4
def uu:List Txt:=[[61],[60],[62]]
theorem Tr(i:Nat)(hi:i<uu.length)(hb:∀j (hj:j<uu.length),j<i→isD st uu[j]=false)(h:isD st uu[i]=true):opP st=((i:Int)+1,bl st):=by
 have h3:i<3:=hi;rcases(by omega:i=0∨i=1∨i=2)with rfl|rfl|rfl
 ·simp only[opP,show isD st [61]=true from h,if_true];rfl
 ·simp only[opP,show isD st [61]=false from hb 0 aeO aeO,show isD st [60]=true from h,if_true];rfl
 ·simp only[opP,show isD st [61]=false from hb 0 aeO aeO,show isD st [60]=false from hb 1 aeO aeO,show isD st [62]=true from h,if_true];rfl
theorem NC(hb:∀j (hj:j<uu.length),isD st uu[j]=false):opP st=(0,br st):=by simp only[opP,show isD st [61]=false from hb 0 aeO,show isD st [60]=false from hb 1 aeO,show isD st [62]=false from hb 2 aeO];rfl
theorem II(st:PS)(hw:WfP st):PC 269 [] st (cK (gK st).1) (gK st).2:=.of fun G id=>by
 have h1:=Ce hw;obtain⟨a,st1,e1⟩:∃a st1,gm st=(a,st1):=⟨_,_,rfl⟩;have hat:=L0 st hw;rw[e1]at h1 hat;simp only at h1 hat;refine aeJ func269 32 [.cell 2 269] fun hwf=>?_
 simp only[go_sem];intro i2 hi2;have n2:=aH hi2;have hG2:G i2=none:=afq;have c2:∀(f:Heap) (x y:Option Blk),upd (upd f id x) i2 y=upd (upd f i2 y) id x:=fun f x y=>cB f x y n2.symm
 simp only[go_sem,c2];refine hat.run ?_;simp only[go_sem,Dp];intro i3 hi3;have n3:=aH hi3;have hi3' :=hi3;rw[ag _ _ n3]at hi3';have n32:=aH hi3';have hG3:G i3=none:=afq;have c3:∀(f:Heap) (x y:Option Blk),upd (upd f id x) i3 y=upd (upd f i3 y) id x:=fun f x y=>cB f x y n3.symm
 have c23:∀(f:Heap) (x y:Option Blk),upd (upd f i3 x) i2 y=upd (upd f i2 y) i3 x:=fun f x y=>cB f x y n32
 have m32:¬i3=i2:=n32;have m23:¬i2=i3:=n32.symm;simp only[go_sem,c3,ak,n3];refine .intro (fun m ρ H=>H=upd (upd (upd G i2 (some (.obj [.i 0,.s [],.b false,.i 0,.i 0,.i 0,.s []] 269))) i3 (some (.obj [.i a.cat,.s a.name,.b a.must,.i 0,.i 0,.i 0,.s []] 269))) id (some (PO st1))∧
  ∃i:Nat,i≤3∧m=3 - i∧(∀j (hj:j<uu.length),j<i→isD st1 uu[j]=false)∧lk ρ 0=some (.ptr id 0)∧lk ρ 2=some (.ptr i2 0)∧lk ρ 3=some (.ptr i3 0)∧lk ρ 9=some (.sl (uu.map AV.s) .full)∧lk ρ 10=some (.i 3)∧lk ρ 11=some (.i i)) 3 ?_ ?_
 ·refine⟨rfl,0,aeK,rfl,fun j _ hj=>aeK,?_,?_,?_,?_,?_,?_⟩<;>simp only[go_sem]<;>rfl
 ·rintro m ρ H ⟨rfl,i,hi,rfl,hb,r0,r2,r3,r9,r10,r11⟩
  simp only[go_sem,r10,r11];refine .intro (fun e=>?_) (fun e=>?_)
  ·have hlt:i<3:=by grind
   have hlo:i<uu.length:=hlt;have w1:IntKind.i64.wrap ((i:Int)+1)=((i+1:Nat):Int):=aeW;have w2:IntKind.i64.wrap (1+(i:Int))=((i:Int)+1):=aeL;simp only[go_sem,r9,r11];refine .at i aeL aeU ?_;simp only[go_sem,r0,aeB];refine(kO st1 uu[i] h1.1).run ?_;cases d1:isD st1 uu[i]
   ·have et:cw st1 uu[i]=(false,st1):=by grind [cw]
    rw[et];simp only[go_sem,r11,w1];refine⟨_,?_,rfl,i+1,aeK,rfl,fun j hj hji=>?_,?_,?_,?_,?_,?_,?_⟩
    ·omega
    ·grind
    all_goals simp only[go_sem,r0,r2,r3,r9,r10]
   ·have et:cw st1 uu[i]=(true,bl st1):=by grind [cw]
    have eo:=Tr i hlo hb d1;have h2:Ah st1 (bl st1):=fj h1.1 (dO d1);have en:gK st=(⟨a,(i:Int)+1,(aD (bl st1)).1⟩,(aD (bl st1)).2):=by grind [gK]
    have d2:(((i:Int)+1)==0)=false:=aeZ;rw[et];simp only[go_sem,c3,ak,n3,r0,r3,w2,d2];refine(uY (bl st1) h2.1).run ?_;exact ajV
  ·have hge:i=3:=by grind
   subst hge;have eo:=NC fun j hj=>hb j hj hj
   have h2:Ah st1 (br st1):=oP h1.1;have en:gK st=(⟨a,0,(aD (br st1)).1⟩,(aD (br st1)).2):=by grind [gK]
   simp only[go_sem,r0,r3,ak,n3];refine(mb st1 h1.1).run ?_;simp only[go_sem,r0];refine(uY (br st1) h2.1).run ?_;exact ajV
theorem TZ:(U 269).sz=7:=aeZ
theorem W9:(U 269).bytes=72:=aeZ
theorem Jc(l:List bP):Sized 7 (l.map cK):=fun z hz=>by obtain⟨c,_,rfl⟩:=List.mem_map.1 hz;rfl
theorem TY:(U 270).sz=1:=aeZ
theorem W7:(U 270).bytes=24:=aeZ
theorem Jb(l:List (List bP)):Sized 1 (l.map iC):=fun z hz=>by obtain⟨c,_,rfl⟩:=List.mem_map.1 hz;rfl
theorem T0:(U 266).sz=1:=aeZ
theorem Xb:(U 266).bytes=24:=aeZ
theorem Je(l:List (List (List bP))):Sized 1 (l.map cE):=fun z hz=>by obtain⟨c,_,rfl⟩:=List.mem_map.1 hz;rfl
theorem Ra(st:PS)(hw:WfP st):PC 236 [] st (iC (qw st).1) (qw st).2:=.of fun G id=>by
 have h1:=qE hw;have hm1:=II st hw;obtain⟨x0,st1,e1⟩:∃x0 st1,gK st=(x0,st1):=⟨_,_,rfl⟩;have ep:fX gK [44] 8 st.ts.length st1 [x0]=qw st:=by grind [qw]
 rw[e1]at h1 hm1;simp only[cK]at h1 hm1;refine aeJ func236 20 [.tmp 2] fun hwf=>?_
 simp only[go_sem];refine hm1.run ?_;simp only[go_sem];have hB:upd G id none id=none:=ah ..;refine .intro (fun m ρ H=>∃(f:Nat) (st' :PS) (l:List _) (y:AV),H id=some (PO st')∧Acc U 269 (upd G id none) H y (l.map cK)∧Ah st1 st'∧fX gK [44] 8 f st' l=qw st∧st1.ts.length≤f+st'.pos∧l.length≤st'.pos+1∧m=st1.ts.length - st'.pos∧lk ρ 0=some (.ptr id 0)∧lk ρ 3=some y) (st1.ts.length - st1.pos) ?_ ?_
 ·refine⟨st.ts.length,st1,[x0],.sl ([x0].map cK) .full,ah ..,.full (base_start G id _),.refl h1.1,ep,by rw[h1.2.1];omega,aeR,rfl,?_,?_⟩<;>simp only[go_sem]<;>rfl
 ·rintro m ρ H ⟨f,st',l,y,hH,hy,ha,hfin,hf,hll,rfl,r0,r3⟩
  have hlen:=ha.1.2.2;have hpos:=ha.1.1;have htl:=ha.2.1;simp only[go_sem,r0];refine(kO st' [44] ha.1).go hH ?_;cases d1:isD st' [44]
  ·have et:cw st' [44]=(false,st'):=by grind [cw]
   have ef:fX gK [44] 8 f st' l=(l,st'):=aid;rw[et,bH hH];rw[ef]at hfin;simp only[go_sem,r3];exact .mk (h' :=upd G id (some (PO (qw st).2))) (iC l) hy.weak (by rw[←hfin];exact fB hy.1 hH) ⟨aeL,rfl⟩
  ·have et:cw st' [44]=(true,bl st'):=by grind [cw]
   obtain⟨g,rfl⟩:∃g,f=g+1:=⟨f - 1,aeL⟩;simp only[fX,d1,if_true]at hfin;have h2:=fj ha.1 (dO d1);have hone:=II (bl st') h2.1;have h3:=(fun _ h=>qE h:∀st,WfP st→Ah st (gK st).2) _ h2.1
   obtain⟨x,st2,e2⟩:∃x st2,gK (bl st')=(x,st2):=⟨_,_,rfl⟩;rw[e2]at hfin hone h3;simp only[cK]at hfin hone h3;have hdec:decide ((8:Int)<((l.length+1:Nat):Int))=decide (8<l.length+1):=by grind
   have h4:=lN (decide (8<l.length+1)) h3.1;have hnp:(bl st').pos=st'.pos+1:=rfl;have hp3:=h3.2.2;have hp4:=h4.2.2;rw[et];simp only[go_sem,r0,r3];refine hone.run ?_;simp only[go_sem];refine(hy.put hB hH _).app (zs:=[cK x]) (by grind [TZ]) (by grind [W9]) (fun k hk=>hk) (by grind [TZ,Jc]) (by rw[TZ];exact Jc [x]) (by grind [W9]) fun y' H2 hy' hk2=>?_
   exact ai2
theorem Rb(st:PS)(hw:WfP st):PC 192 [] st (cE (sv st).1) (sv st).2:=.of fun G id=>by
 have h0:=jB [40] hw;have h1:=Cc h0.1;have hm1:=Ra _ h0.1;obtain⟨x0,st1,e1⟩:∃x0 st1,qw (ew st [40])=(x0,st1):=⟨_,_,rfl⟩;obtain⟨M,eM⟩:∃M,fX qw orT 8 st.ts.length st1 [x0]=M:=⟨_,rfl⟩;have epp:(M.1,ew M.2 [41])=sv st:=by grind [sv]
 rw[e1]at h1 hm1;simp only[iC]at h1 hm1;refine aeJ func192 24 [.tmp 2] fun hwf=>?_
 simp only[go_sem];refine(lF st [40] hw).run ?_;simp only[go_sem];refine hm1.run ?_;simp only[go_sem];have hB:upd G id none id=none:=ah ..;refine .intro (fun m ρ H=>∃(f:Nat) (st' :PS) (l:List _) (y:AV),H id=some (PO st')∧Acc U 270 (upd G id none) H y (l.map iC)∧Ah st1 st'∧fX qw orT 8 f st' l=M∧st1.ts.length≤f+st'.pos∧l.length≤st'.pos+1∧m=st1.ts.length - st'.pos∧lk ρ 0=some (.ptr id 0)∧lk ρ 3=some y) (st1.ts.length - st1.pos) ?_ ?_
 ·refine⟨st.ts.length,st1,[x0],.sl ([x0].map iC) .full,ah ..,.full (base_start G id _),.refl h1.1,eM,by rw[h1.2.1,h0.2.1];omega,aeR,rfl,?_,?_⟩<;>simp only[go_sem]<;>rfl
 ·rintro m ρ H ⟨f,st',l,y,hH,hy,ha,hfin,hf,hll,rfl,r0,r3⟩
  have hlen:=ha.1.2.2;have hpos:=ha.1.1;have htl:=ha.2.1;simp only[go_sem,r0];refine(kO st' orT ha.1).go hH ?_;cases d1:isD st' orT
  ·have et:cw st' orT=(false,st'):=by grind [cw]
   have ef:fX qw orT 8 f st' l=(l,st'):=aid;rw[et,bH hH];rw[ef]at hfin;simp only[go_sem,r0];refine(lF st' [41] ha.1).go hH ?_;simp only[go_sem,r3];exact .mk (h' :=upd G id (some (PO (sv st).2))) (cE l) hy.weak (by rw[←epp,←hfin];exact fB (hy.1.put hB _) (ah ..)) ⟨aeL,rfl⟩
  ·have et:cw st' orT=(true,bl st'):=by grind [cw]
   obtain⟨g,rfl⟩:∃g,f=g+1:=⟨f - 1,aeL⟩;simp only[fX,d1,if_true]at hfin;have h2:=fj ha.1 (dO d1);have hone:=Ra (bl st') h2.1;have h3:=(fun _ h=>Cc h:∀st,WfP st→Ah st (qw st).2) _ h2.1
   obtain⟨x,st2,e2⟩:∃x st2,qw (bl st')=(x,st2):=⟨_,_,rfl⟩;rw[e2]at hfin hone h3;simp only[iC]at hfin hone h3;have hdec:decide ((8:Int)<((l.length+1:Nat):Int))=decide (8<l.length+1):=by grind
   have h4:=lN (decide (8<l.length+1)) h3.1;have hnp:(bl st').pos=st'.pos+1:=rfl;have hp3:=h3.2.2;have hp4:=h4.2.2;rw[et];simp only[go_sem,r0,r3];refine hone.run ?_;simp only[go_sem];refine(hy.put hB hH _).app (zs:=[iC x]) (by grind [TY]) (by grind [W7]) (fun k hk=>hk) (by grind [TY,Jb]) (by rw[TY];exact Jb [x]) (by grind [W7]) fun y' H2 hy' hk2=>?_
   exact ai2
theorem RQ(st:PS)(hw:WfP st):PC 139 [] st (aW (hY st).1) (hY st).2:=.of fun G id=>by
 refine aeJ func139 23 [.tmp 2] fun hwf=>?_
 simp only[go_sem];refine(kO st FE hw).run ?_;cases d0:isD st FE
 ·have et:cw st FE=(false,st):=by grind [cw]
  have ep:hY st=([],st):=by grind [hY]
  rw[et];simp only[go_sem];exact .mk (h' :=upd G id (some (PO (hY st).2))) (aW []) (.sl _ _) (by rw[ep];exact .refl _) ⟨by rw[ep],rfl⟩
 have et:cw st FE=(true,bl st):=by grind [cw]
 have h0:=fj hw (dO d0);have h1:=Cd h0.1;have hm1:=Rb _ h0.1;obtain⟨x0,st1,e1⟩:∃x0 st1,sv (bl st)=(x0,st1):=⟨_,_,rfl⟩;obtain⟨M,eM⟩:∃M,fX sv Dk 8 st.ts.length st1 [x0]=M:=⟨_,rfl⟩;have ep:M=hY st:=by simp_all [hY,if_true]
 rw[e1]at h1 hm1;simp only[cE]at h1 hm1;rw[et];simp only[go_sem];refine hm1.run ?_;simp only[go_sem];have hB:upd G id none id=none:=ah ..;refine .intro (fun m ρ H=>∃(f:Nat) (st' :PS) (l:List _) (y:AV),H id=some (PO st')∧Acc U 266 (upd G id none) H y (l.map cE)∧Ah st1 st'∧fX sv Dk 8 f st' l=M∧st1.ts.length≤f+st'.pos∧l.length≤st'.pos+1∧m=st1.ts.length - st'.pos∧lk ρ 0=some (.ptr id 0)∧lk ρ 3=some y) (st1.ts.length - st1.pos) ?_ ?_
 ·refine⟨st.ts.length,st1,[x0],.sl ([x0].map cE) .full,ah ..,.full (base_start G id _),.refl h1.1,eM,by rw[h1.2.1,h0.2.1];omega,aeR,rfl,?_,?_⟩<;>simp only[go_sem]<;>rfl
 ·rintro m ρ H ⟨f,st',l,y,hH,hy,ha,hfin,hf,hll,rfl,r0,r3⟩
  have hlen:=ha.1.2.2;have hpos:=ha.1.1;have htl:=ha.2.1;simp only[go_sem,r0];refine(kO st' Dk ha.1).go hH ?_;cases d1:isD st' Dk
  ·have et:cw st' Dk=(false,st'):=by grind [cw]
   have ef:fX sv Dk 8 f st' l=(l,st'):=aid;rw[et,bH hH];rw[ef]at hfin;simp only[go_sem,r3];exact .mk (h' :=upd G id (some (PO (hY st).2))) (aW l) hy.weak (by rw[←ep,←hfin];exact fB hy.1 hH) ⟨aeL,rfl⟩
  ·have et:cw st' Dk=(true,bl st'):=by grind [cw]
   obtain⟨g,rfl⟩:∃g,f=g+1:=⟨f - 1,aeL⟩;simp only[fX,d1,if_true]at hfin;have h2:=fj ha.1 (dO d1);have hone:=Rb (bl st') h2.1;have h3:=(fun _ h=>Cd h:∀st,WfP st→Ah st (sv st).2) _ h2.1
   obtain⟨x,st2,e2⟩:∃x st2,sv (bl st')=(x,st2):=⟨_,_,rfl⟩;rw[e2]at hfin hone h3;simp only[cE]at hfin hone h3;have hdec:decide ((8:Int)<((l.length+1:Nat):Int))=decide (8<l.length+1):=by grind
   have h4:=lN (decide (8<l.length+1)) h3.1;have hnp:(bl st').pos=st'.pos+1:=rfl;have hp3:=h3.2.2;have hp4:=h4.2.2;rw[et];simp only[go_sem,r0,r3];refine hone.run ?_;simp only[go_sem];refine(hy.put hB hH _).app (zs:=[cE x]) (by grind [T0]) (by grind [Xb]) (fun k hk=>hk) (by grind [T0,Je]) (by rw[T0];exact Je [x]) (by grind [Xb]) fun y' H2 hy' hk2=>?_
   exact ai2
theorem EM(op:Int)(h:Heap):ai prog 309 [.i op] h fun r h' =>r= .sl ((opers op).map j5) .no∧h' =h:=by
 refine aeJ func309 15 [.tmp 2] fun hwf=>?_
 cases k3:(op==3)<;>cases k4:(op==4)<;>cases k5:(op==5)<;>cases k11:(op==11)
 all_goals
  simp only[go_sem,k3,k4,k5,k11];simp only[beq_iff_eq,beq_eq_false_iff_ne]at k3 k4 k5 k11;refine .mk _ (.sl _ _) (.refl _) ⟨?_,rfl⟩
  grind [opers,j5]
theorem Xc:(U 145).sz=3:=aeZ
theorem Zz:(U 145).bytes=32:=aeZ
theorem Jd(l:List cC):Sized 3 (l.map aY):=fun z hz=>by obtain⟨c,_,rfl⟩:=List.mem_map.1 hz;rfl
theorem tT(st:PS)(hw:WfP st):PC 143 [] st (ay (gE st).1) (gE st).2:=.of fun G id=>by
 obtain⟨M,eM⟩:∃M,gE st=M:=⟨_,rfl⟩;have eM2:fX AB wX 8 st.ts.length st []=M:=eM;refine aeJ func143 28 [.tmp 2] fun hwf=>?_
 simp only[go_sem];have hB:upd G id none id=none:=ah ..;refine .intro (fun m ρ H=>∃(f:Nat) (st' :PS) (l:List cC) (y:AV),H id=some (PO st')∧Acc U 145 (upd G id none) H y (l.map aY)∧Ah st st'∧fX AB wX 8 f st' l=M∧st.ts.length≤f+st'.pos∧l.length≤st'.pos+1∧m=st.ts.length - st'.pos∧lk ρ 0=some (.ptr id 0)∧lk ρ 3=some y) (st.ts.length - st.pos) ?_ ?_
 ·refine⟨st.ts.length,st,[],.sl ([].map aY) .full,ah ..,.full (base_start G id _),.refl hw,eM2,aeK,aeR,rfl,?_,?_⟩<;>simp only[go_sem]<;>rfl
 ·rintro m ρ H ⟨f,st',l,y,hH,hy,ha,hfin,hf,hll,rfl,r0,r3⟩
  have hlen:=ha.1.2.2;have hpos:=ha.1.1;have htl:=ha.2.1;simp only[go_sem,r0];refine(kO st' wX ha.1).go hH ?_;cases d1:isD st' wX
  ·have et:cw st' wX=(false,st'):=by grind [cw]
   have ef:fX AB wX 8 f st' l=(l,st'):=aid;rw[et,bH hH];rw[ef]at hfin;simp only[go_sem,r3];exact .mk (h' :=upd G id (some (PO (gE st).2))) (ay l) hy.weak (by rw[eM,←hfin];exact fB hy.1 hH) ⟨aeL,rfl⟩
  ·have et:cw st' wX=(true,bl st'):=by grind [cw]
   obtain⟨g,rfl⟩:∃g,f=g+1:=⟨f - 1,aeL⟩;simp only[fX,d1,if_true]at hfin;have h2:=fj ha.1 (dO d1);have ho1:=gN vH h2.1;have ho2:=gN mZ ho1.1;have ho3:=nM ho2.1;have h3:Ah (bl st') (AB (bl st')).2:=LS h2.1;have hdec:decide ((8:Int)<((l.length+1:Nat):Int))=decide (8<l.length+1):=by grind
   have h4:=lN (decide (8<l.length+1)) h3.1;have hnp:(bl st').pos=st'.pos+1:=rfl;have hp3:=h3.2.2;have hp4:=h4.2.2;have eX:(AB (bl st'))=(⟨(bf (bl st') vH).1,(bf (bf (bl st') vH).2 mZ).1,(cu (bf (bf (bl st') vH).2 mZ).2).1⟩,(cu (bf (bf (bl st') vH).2 mZ).2).2):=rfl;obtain⟨x,st2,e2⟩:∃x st2,AB (bl st')=(x,st2):=⟨_,_,rfl⟩;rw[et];simp only[go_sem];intro i4 hi4;have n4:=aH hi4;have hH4:H i4=none:=afq;have c4:∀(f:Heap) (x y:Option Blk),upd (upd f id x) i4 y=upd (upd f i4 y) id x:=fun f x y=>cB f x y n4.symm
   simp only[go_sem,r0,c4];refine(oQ _ vH .full aeO h2.1).run ?_;simp only[go_sem,r0,c4,ak,n4];refine(oQ _ mZ .full aeO ho1.1).run ?_;simp only[go_sem,r0,c4,ak,n4];refine(uB _ ho2.1).run ?_;simp only[go_sem,r3,c4,ak,n4];rw[e2]at hfin h3 h4 hp3 hp4;simp only at hfin h3 h4 hp3 hp4;have ex1:x=(AB (bl st')).1:=by rw[e2]
   have ex2:st2=(cu (bf (bf (bl st') vH).2 mZ).2).2:=by grind
   rw[←ex2];refine((hy.sub (Sub.aj (k:=_) hH4)).put hB (by rw[ag _ _ n4.symm];exact hH) _).app (zs:=[aY x]) aeO aeO (fun k hk=>by rw[ex1]at hk;exact hk) (by grind [Xc,Jd]) (by rw[Xc];exact Jd [x]) (by grind [Zz]) fun y' H2 hy' hk2=>?_
   exact ai2
theorem tH{U:TypeId→TI}{B':Heap}(hs:Sub B B')(ha:Acc U e B' H y xs):Acc U e B H y xs:=by
 obtain⟨h1,rfl|⟨k,i1,rfl,i2⟩⟩:=ha
 ·exact⟨hs.trans h1,.inl rfl⟩
 ·refine⟨hs.trans h1,.inr ⟨k,?_,rfl,i2⟩⟩
  cases hk:B k with
  |none=>rfl
  |some b=>rw[hs _ _ hk]at i1;omega
theorem ye{U:TypeId→TI}(ha:Acc U e B H y xs){i:Nat}(hi:H i=none)(b:Option Blk):Acc U e (upd B i b) (upd H i b) y xs:=by
 obtain⟨h1,rfl|⟨k,i1,rfl,i2⟩⟩:=ha
 ·exact⟨h1.both _ _,.inl rfl⟩
 ·have hne:k≠i:=fun hh=>by subst hh;rw[hi]at i2;cases i2
  exact⟨h1.both _ _,.inr ⟨k,afq,rfl,afq⟩⟩
theorem oO{U:TypeId→TI}{id:Nat}(ha:Acc U e (upd G id none) (upd K id (some (PO st))) y xs)(st' :PS):Acc U e (upd G id none) (upd K id (some (PO st'))) y xs:=by have:=ha.put (id:=id) (ah ..) (cs:=_) (t:=_) (ah ..) (some (PO st'));rw[eD]at this;exact afv
def XC(f:FuncId)(args:List AV)(st:PS)(l:List aQ)(mk:AV→AV)(st' :PS)(l' :List aQ):Prop:=
 ∀(G K:Heap) (id:Nat) (y:AV),Acc U 222 (upd G id none) (upd K id (some (PO st))) y (l.map cG)→ai prog f (.ptr id 0::y::args) (upd K id (some (PO st))) fun r h' =>∃y',r=mk y'∧h' id=some (PO st')∧Acc U 222 (upd G id none) h' y' (l'.map cG)
theorem XC.run{l':List aQ}{mk:AV→AV}(hc:XC f args st l mk st' l'){id:Nat}(ha:Acc U 222 (upd G id none) (upd K id (some (PO st))) y (l.map cG))
  (k:∀y' K',Acc U 222 (upd G id none) (upd K' id (some (PO st'))) y' (l'.map cG)→Q (mk y') (upd K' id (some (PO st')))):ai prog f (.ptr id 0::y::args) (upd K id (some (PO st))) Q:=
 (hc G K id y ha).mono fun r h' ⟨y',e1,e2,e3⟩=>by
  subst e1;have:=k y' h' (by grind [bH])
  rwa [bH e2]at this
def EH(ex:ExF)(f:Nat):Prop:=∀st l,WfP st→st.ts.length≤f+st.pos→l.length≤2*st.pos+1→XC 270 [] st l (fun y=> .tup [y,.v (.bool (ex st l).1.2)]) (ex st l).2 (ex st l).1.1
theorem Jp(st:PS)(ws:List Txt):0≤(bf st ws).1∧(bf st ws).1≤ws.length:=by
 unfold bf;cases ei:vu (aM st).s ws with
 |none=>simp
 |some i=>have:=CD ei;simp only;split<;>simp<;>omega
theorem BC(ho:FK ex){f:Nat}(he:EH ex f)(st:PS)(l:List aQ)(b:Bool)(hw:WfP st)(hf:st.ts.length≤f+st.pos)(hl:l.length≤2*st.pos+1):XC 237 [.b b] st l (fun y=>y) (iO ex st l b).2 (iO ex st l b).1:=fun G K id y ha=>by
 refine aeJ func237 25 [.tmp 6] fun hwf=>?_
 simp only[go_sem];refine(mJ st hw).run ?_;simp only[go_sem,fH];refine(he st l hw hf hl).run ha fun y' K' ha' =>?_
 cases db:((ex st l).1.2==b)
 ·have e1:(ex st l).1.2≠b:=by grind
  have en:iO ex st l b=((ex st l).1.1,bJ (ex st l).2 5 (aM st).pos):=by grind [iO]
  simp only[go_sem,db,Bool.not_false];refine(rR _ 5 _).run ?_;simp only[go_sem];exact .mk (h' :=upd K' id (some (PO (bJ (ex st l).2 5 (aM st).pos)))) y' (.refl _) (.refl _) ⟨y',rfl,aiR,by grind [oO]⟩
 ·have e1:(ex st l).1.2=b:=by grind
  have en:iO ex st l b=((ex st l).1.1,(ex st l).2):=by grind [iO]
  simp only[go_sem,db,Bool.not_true];exact .mk (h' :=upd K' id (some (PO (ex st l).2))) y' (.refl _) (.refl _) ⟨y',rfl,aiR,aeL⟩
theorem Gs(ho:FK ex){f:Nat}(he:EH ex f)(st:PS)(l:List aQ)(hw:WfP st)(hf:st.ts.length≤f+st.pos)(hl:l.length+1≤2*st.pos):XC 293 [] st l (fun y=> .tup [y,cG (qX ex st l).1.2]) (qX ex st l).2 (qX ex st l).1.1:=fun G K id y ha=>by
 have h1:=gN mw hw;have hrg:=Jp st mw;have hfl:mw.length=11:=rfl;have w2:IntKind.i64.wrap (2+(bf st mw).1)=2+(bf st mw).1:=aeW;refine aeJ func293 36 [.tmp 4,.cell 5 222] fun hwf=>?_
 simp only[go_sem];intro i5 hi5;have n5:=aH hi5;have hK5:K i5=none:=afq;have c5:∀(f:Heap) (x y:Option Blk),upd (upd f id x) i5 y=upd (upd f i5 y) id x:=fun f x y=>cB f x y n5.symm
 simp only[go_sem,c5];refine(oQ _ mw .full aeO hw).run ?_;simp only[go_sem,w2];intro i6 hi6;have n6:=aH hi6;have c6:∀(f:Heap) (x y:Option Blk),upd (upd f id x) i6 y=upd (upd f i6 y) id x:=fun f x y=>cB f x y n6.symm
 have hi6' :=hi6;rw[ag _ _ n6]at hi6';have n65:=aH hi6';have hK6:K i6=none:=afq;simp only[go_sem,c6,ak,n6];refine(EM _ _).pthen ?_;simp only[go_sem];have h5f:=ha;obtain⟨bs,ebs⟩:∃bs,opers (2+(bf st mw).1)=bs:=⟨_,rfl⟩;obtain⟨M,eM⟩:∃M,jJ ex bs (bf st mw).2 l=M:=⟨_,rfl⟩;have hb2:bs.length≤2:=by grind [EN]
 have hMr:qX ex st l=((M.1,⟨2+(bf st mw).1,⟨0,0,[]⟩,⟨0,[],false⟩⟩),ew M.2 [41]):=by grind [qX]
 obtain⟨st1,es1⟩:∃st1,(bf st mw).2=st1:=⟨_,rfl⟩;have hac0:=ye (ye (oO ha st1) (by rw[ag _ _ n5];omega) (some (.obj [.i 0,.i 0,.i 0,.s [],.i 0,.s [],.b false] 222))) (by rw[ag _ _ n65,ag _ _ n6];omega) (some (.obj [.i (2+(bf st mw).1),.i 0,.i 0,.s [],.i 0,.s [],.b false] 222))
 simp only[c5,c6]at hac0;obtain⟨G',eG⟩:∃G',G' =upd (upd G i5 (some (.obj [.i 0,.i 0,.i 0,.s [],.i 0,.s [],.b false] 222))) i6 (some (.obj [.i (2+(bf st mw).1),.i 0,.i 0,.s [],.i 0,.s [],.b false] 222)):=⟨_,rfl⟩;have g5:upd G' id none i5=some (.obj [.i 0,.i 0,.i 0,.s [],.i 0,.s [],.b false] 222):=by simp_all [ag,Ne.symm,ah]
 have g6:upd G' id none i6=some (.obj [.i (2+(bf st mw).1),.i 0,.i 0,.s [],.i 0,.s [],.b false] 222):=by simp_all [ag,ah]
 rw[←eG]at hac0;have gi5:upd G id none i5=none:=by
  cases hk:upd G id none i5 with
  |none=>rfl
  |some b=>rw[ha.1 _ _ hk]at hi5;omega
 have hsG:Sub (upd G id none) (upd G' id none):=fun k b hk=>by
  have hs1:=ha.1 k b hk;have hk5:k≠i5:=fun e=>aeL
  have hk6:k≠i6:=fun e=>by grind [ag]
  by_cases hkid:k=id
  ·subst hkid;rw[ah]at hk;cases hk
  ·rw[ag _ _ hkid]at hk⊢
   rw[eG,ag _ _ hk6,ag _ _ hk5];exact hk
 simp only[es1,ebs]at h1 eM⊢;refine .intro (fun m ρ H=>∃(i:Nat) (st' :PS) (l' :List aQ) (y' :AV) (K' :Heap),H=upd K' id (some (PO st'))∧Acc U 222 (upd G' id none) (upd K' id (some (PO st'))) y' (l'.map cG)∧Ah st1 st'∧i≤bs.length∧jJ ex (bs.drop i) st' l' =M∧l'.length+1≤2*st'.pos+i∧m=bs.length - i∧lk ρ 0=some (.ptr id 0)∧lk ρ 1=some y'∧lk ρ 5=some (.ptr i5 0)∧lk ρ 6=some (.ptr i6 0)∧lk ρ 16=some (.sl (bs.map j5) .no)∧lk ρ 17=some (.i bs.length)∧lk ρ 18=some (.i i)) bs.length ?_ ?_
 ·refine⟨0,st1,l,y,_,rfl,hac0,.refl h1.1,aeK,aeL,by have:=h1.2.2;omega,rfl,?_,?_,?_,?_,?_,?_,?_⟩<;>simp only[go_sem]<;>(try rfl)<;>simp
 ·rintro m ρ H ⟨i,st',l',y',K',rfl,hac,hah,hi,hfin,hll,rfl,r0,r1,r5,r6,r16,r17,r18⟩
  simp only[go_sem,r17,r18];have k6:upd K' id (some (PO st')) i6=some (.obj [.i (2+(bf st mw).1),.i 0,.i 0,.s [],.i 0,.s [],.b false] 222):=hac.1 _ _ g6;have k5:upd K' id (some (PO st')) i5=some (.obj [.i 0,.i 0,.i 0,.s [],.i 0,.s [],.b false] 222):=hac.1 _ _ g5;rw[ag _ _ n6]at k6;rw[ag _ _ n5]at k5;refine .intro (fun e=>?_) (fun e=>?_)
  ·have hlt:i<bs.length:=aeH e
   simp only[go_sem,r16,r18];refine .at i aeL aeU ?_;cases db:(st'.bad !=0)
   ·have e1:st'.bad=0:=by grind
    rw[List.drop_eq_getElem_cons hlt]at hfin;simp only[jJ,e1,if_true]at hfin;simp only[go_sem,r0,r1,aeB,j5,PO,db];have hpl:=hah.2.2;refine(BC ho he st' l' bs[i] hah.1 (by rw[hah.2.1,h1.2.1];have:=h1.2.2;omega) aeK).run hac fun y2 K2 hac2=>?_
    obtain⟨q1,q2⟩:=zu ho st' l' bs[i] hah.1;have w1:IntKind.i64.wrap ((i:Int)+1)=((i+1:Nat):Int):=aeW;simp only[go_sem,r18,w1];refine⟨_,?_,i+1,(iO ex st' l' bs[i]).2,(iO ex st' l' bs[i]).1,y2,K2,rfl,hac2,hah.trans q1,hlt,hfin,aeK,rfl,?_⟩
    ·omega
    refine⟨?_,?_,?_,?_,?_,?_,?_⟩
    all_goals simp only[go_sem,r0,r5,r6,r16,r17]
   ·have e1:st'.bad≠0:=by grind
    have hfin2:(l',st')=M:=by grind [List.drop_eq_getElem_cons,jJ]
    clear hfin;have hfin:=hfin2;simp only[go_sem,r0,aeB,j5,PO,db];refine(lF _ [41] hah.1).run ?_;simp only[go_sem,r1,r5,r6,ak,n5,n6,k5,k6];refine⟨.of aeN,?_⟩;exact .mk (.tup [y',cG ⟨2+(bf st mw).1,⟨0,0,[]⟩,⟨0,[],false⟩⟩]) (.refl _) (.refl _) ⟨y',aeZ,by rw[hMr,←hfin];exact(ag _ _ (Ne.symm n5)).trans (ah ..),agj⟩
  ·have hge:i=bs.length:=by grind
   subst hge;rw[List.drop_length]at hfin;simp only[jJ]at hfin;simp only[go_sem,r0];refine(lF _ [41] hah.1).run ?_;simp only[go_sem,r1,r5,r6,ak,n5,n6,k5,k6];refine⟨.of aeN,?_⟩;exact .mk (.tup [y',cG ⟨2+(bf st mw).1,⟨0,0,[]⟩,⟨0,[],false⟩⟩]) (.refl _) (.refl _) ⟨y',aeZ,by rw[hMr,←hfin];simp_all [ag,Ne.symm,trans,ah],agj⟩
theorem tu:(U 222).sz=7:=aeZ
theorem AP:(U 222).bytes=72:=aeZ
theorem lJ(l:List aQ):Sized 7 (l.map cG):=fun z hz=>by obtain⟨c,_,rfl⟩:=List.mem_map.1 hz;rfl
theorem SW(f:Nat)(ih:EH (eS f) f):EH (eS (f+1)) (f+1):=fun st l hw hf hl G K id y ha=>by
 refine aeJ func270 52 [.tmp 4,.tmp 5] fun hwf=>?_
 simp only[go_sem];intro i6 hi6;have n6:=aH hi6;have hK6:K i6=none:=by rw[ag _ _ n6]at hi6;exact hi6
 have c6:∀(f:Heap) (x y:Option Blk),upd (upd f id x) i6 y=upd (upd f i6 y) id x:=fun f x y=>cB f x y n6.symm
 have gi6:upd G id none i6=none:=by
  cases hk:upd G id none i6 with
  |none=>rfl
  |some b=>rw[ha.1 _ _ hk]at hi6;cases hi6
 have hac:=ye ha hi6 (some (.obj [.i 0,.i 0,.i 0,.s [],.i 0,.s [],.b false] 222));simp only[go_sem,c6];refine(mJ st hw).run ?_;simp only[go_sem,fH];intro i7 hi7;have n7:=aH hi7;have hi7' :=hi7;rw[ag _ _ n7]at hi7';have n76:=aH hi7';have m76:¬i7=i6:=n76;have m67:¬i6=i7:=fun e=>n76 e.symm
 have hK7:K i7=none:=by rw[ag _ _ n76]at hi7';exact hi7'
 have c7:∀(f:Heap) (x y:Option Blk),upd (upd f id x) i7 y=upd (upd f i7 y) id x:=fun f x y=>cB f x y n7.symm
 have e6:upd (upd G id none) i6 (some (.obj [.i 0,.i 0,.i 0,.s [],.i 0,.s [],.b false] 222))=upd (upd G i6 (some (.obj [.i 0,.i 0,.i 0,.s [],.i 0,.s [],.b false] 222))) id none:=c6 G none _;have hac7:∀k,Acc U 222 (upd (upd G i6 (some (.obj [.i 0,.i 0,.i 0,.s [],.i 0,.s [],.b false] 222))) id none) (upd (upd (upd K i6 (some (.obj [.i 0,.i 0,.i 0,.s [],.i 0,.s [],.b false] 222))) i7 k) id (some (PO st))) y (l.map cG):=fun k=>by
  have:=hac.sub (Sub.aj (k:=k) (by rw[c6];exact hi7))
  rw[e6,c6 K,c7]at this;exact afv
 have hsG:Sub (upd G id none) (upd (upd G i6 (some (.obj [.i 0,.i 0,.i 0,.s [],.i 0,.s [],.b false] 222))) id none):=by rw[←e6];exact Sub.aj gi6
 have g6:upd (upd G i6 (some (.obj [.i 0,.i 0,.i 0,.s [],.i 0,.s [],.b false] 222))) id none i6=some (.obj [.i 0,.i 0,.i 0,.s [],.i 0,.s [],.b false] 222):=by rw[←e6,ah]
 simp only[go_sem,c7,ak,n7];refine(kO st [40] hw).run ?_;have hacX:∀tk NB st',Acc U 222 (upd G id none) (upd (upd (upd (upd K i6 (some (.obj [.i 0,.i 0,.i 0,.s [],.i 0,.s [],.b false] 222))) i7 tk) i6 NB) id (some (PO st'))) y (l.map cG):=fun tk NB st' =>by have:=(oO (tH hsG (hac7 tk)) st').put gi6 ((ag _ _ n6).trans ((ag _ _ m67).trans (ah ..))) NB;rw[c6]at this;exact afv
 obtain⟨⟨⟨lh,n⟩,sth⟩,eh⟩:∃x,jv (eS f) st l=x:=⟨_,rfl⟩;obtain⟨hha,hhl⟩:=Ed (qS f) st l hw;rw[eh]at hha hhl;simp only at hha hhl;have hwp:=hha.1.2.2;have hwq:=hha.1.1;have hpl:=hha.2.2;have hdec:decide ((32:Int)<((lh.length+1:Nat):Int))=decide (32<lh.length+1):=by
  by_cases h:32<lh.length+1
  ·simp only[h,decide_true];exact decide_eq_true aeK
  ·simp only[h,decide_false];exact decide_eq_false aeK
 cases d0:isD st [40]
 ·have et:cw st [40]=(false,st):=by simp[cw,d0]
  rw[et];cases d1:((aM st).kind==1)
  ·have en:jv (eS f) st l=((l,⟨1,(aD st).1,⟨0,[],false⟩⟩),(aD st).2):=by have:(aM st).kind≠1:=ahO;simp[jv,d0,this]
   simp only[go_sem,ak,n7,d1];exact ai1
  ·have k1:(aM st).kind=1:=by simpa using d1
   cases d2:((aM st).s== [116,114,117,101])
   ·have k2:(aM st).s≠xo:=by unfold xo;simpa using d2
    cases d3:((aM st).s== [102,97,108,115,101])
    ·have k3:(aM st).s≠qT:=by unfold qT;simpa using d3
     have en:jv (eS f) st l=((l,⟨2,⟨0,0,[]⟩,(gm st).1⟩),(gm st).2):=by simp[jv,d0,k1,k2,k3]
     simp only[go_sem,ak,n7,d1,d2,d3,Bool.not_false];refine(L0 st hw).run ?_;rw[en]at eh;injection eh with eh1 eh2
     injection eh1 with eh3 eh4
     subst eh2;subst eh3;subst eh4;simp only[go_sem,c6,ak,n6,m67,Dp];refine(hacX _ _ _).app (zs:=[cG (⟨2,⟨0,0,[]⟩,(gm st).1⟩:aQ)]) aiF aiE (fun k hk=>hk) ahW (by rw[tu];exact lJ [(⟨2,⟨0,0,[]⟩,(gm st).1⟩:aQ)]) ahE fun y3 H3 hy3 hk3=>?_
     have hH3:H3 id=some (PO (gm st).2):=hk3 _ _ _ (ah ..);have hb3:H3 i6=some (.obj [.v (.int .i64 (⟨2,⟨0,0,[]⟩,(gm st).1⟩:aQ).op),.v (.int .i64 (⟨2,⟨0,0,[]⟩,(gm st).1⟩:aQ).val.kind),.v (.int .i64 (⟨2,⟨0,0,[]⟩,(gm st).1⟩:aQ).val.n),.s (⟨2,⟨0,0,[]⟩,(gm st).1⟩:aQ).val.s,.v (.int .i64 (⟨2,⟨0,0,[]⟩,(gm st).1⟩:aQ).attr.cat),.s (⟨2,⟨0,0,[]⟩,(gm st).1⟩:aQ).attr.name,.v (.bool (⟨2,⟨0,0,[]⟩,(gm st).1⟩:aQ).attr.must)] 222):=hk3 _ _ _ ((ag _ _ n6).trans (ah ..));simp only[go_sem,hy3.len,aeE,aeA,List.length_cons,List.length_nil,Nat.zero_add,hdec];refine(cR (gm st).2 _ hha.1).go hH3 ?_;simp only[go_sem,ak,n6,hb3];refine⟨.of aeN,?_⟩;have efin:eS (f+1) st l=((l++ [(⟨2,⟨0,0,[]⟩,(gm st).1⟩:aQ)],(⟨2,⟨0,0,[]⟩,(gm st).1⟩:aQ).op==2),bG (gm st).2 (decide (32<l.length+1))):=aiK;exact .mk (.tup [y3,.b ((⟨2,⟨0,0,[]⟩,(gm st).1⟩:aQ).op==2)]) (.refl _) (.refl _) ⟨y3,by rw[efin],ahh,afD⟩
    ·have k3:(aM st).s=qT:=by unfold qT;simpa using d3
     have en:jv (eS f) st l=((l,⟨1,(aD st).1,⟨0,[],false⟩⟩),(aD st).2):=by simp[jv,d0,k1,k3]
     simp only[go_sem,ak,n7,d1,d2,d3,Bool.not_false,Bool.not_true];exact ai1
   ·have k2:(aM st).s=xo:=by unfold xo;simpa using d2
    have en:jv (eS f) st l=((l,⟨1,(aD st).1,⟨0,[],false⟩⟩),(aD st).2):=by simp[jv,d0,k1,k2]
    simp only[go_sem,ak,n7,d1,d2,Bool.not_true];exact ai1
 ·have et:cw st [40]=(true,bl st):=by simp[cw,d0]
  have h1:=fj hw (dO d0);have hnp:(bl st).pos=st.pos+1:=rfl;have hnt:(bl st).ts=st.ts:=rfl;rw[et];simp only[go_sem];have ef:qX (eS f) (bl st) l=((lh,n),sth):=by rw[←eh];simp[jv,d0]
  have hfx:=Gs (qS f) ih (bl st) l h1.1 (by rw[hnt];omega) aeK
  simp only[ef]at hfx;refine hfx.run (oO (hac7 _) _) fun y2 K2 hac2=>?_
  have k6:=hac2.1 _ _ g6;rw[ag _ _ n6]at k6;simp only[go_sem,c6,ak,n6,k6,cG];have hac3:=(tH hsG hac2).put gi6 ((ag _ _ n6).trans k6) (some (.obj [.i n.op,.i n.val.kind,.i n.val.n,.s n.val.s,.i n.attr.cat,.s n.attr.name,.b n.attr.must] 222));rw[c6]at hac3;refine(hac3).app (zs:=[cG n]) aiF aiE (fun k hk=>hk) ahW (by rw[tu];exact lJ [n]) ahE fun y3 H3 hy3 hk3=>?_
  have hH3:H3 id=some (PO sth):=hk3 _ _ _ (ah ..);have hb3:H3 i6=some (.obj [.i n.op,.i n.val.kind,.i n.val.n,.s n.val.s,.i n.attr.cat,.s n.attr.name,.b n.attr.must] 222):=hk3 _ _ _ ((ag _ _ n6).trans (ah ..));simp only[go_sem,hy3.len,aeE,aeA,List.length_cons,List.length_nil,Nat.zero_add,hdec];refine(cR sth _ hha.1).go hH3 ?_;simp only[go_sem,ak,n6,hb3];refine⟨.of aeN,?_⟩;have efin:eS (f+1) st l=((lh++ [n],n.op==2),bG sth (decide (32<lh.length+1))):=by simp only[eS,eh]
  exact .mk (.tup [y3,.b (n.op==2)]) (.refl _) (.refl _) ⟨y3,by rw[efin],ahh,afD⟩
theorem MA:∀f,EH (eS f) f
 |0=>fun st l hw hf _=>absurd hw.1 aeK
 |f+1=>SW f (MA f)
theorem Gm{P:Program}{Q':AV→Heap→Prop}(hf:ai P f args h Q)(hq:∀x h1,Q x h1→∃y h2,Weak x y∧Sub h2 h1∧Q' y h2):ai P f args h Q' :=
 fun c vs h1 h2 h3 h4=>(hf c vs h1 h2 h3 h4).mono fun u w' ⟨c',x,h',g1,g2,g3,g4,g5,g6⟩=>by obtain⟨y,h'',k1,k2,k3⟩:=hq x h' g6;exact⟨c',y,h'',g1,g2,g3,g4.weak k1,k2.trans g5,k3⟩
def flat:AV→AV
 |.sl xs _=> .sl xs .no
 |x=>x
theorem gC(xs:List AV):Weak (.agg xs) (.agg (xs.map flat)):=.agg _ _ aeR fun i h1 h2=>by rw[aeB];cases xs[i]<;>first|exact .refl _|exact .sl _ _
theorem KG(st:PS)(hw:WfP st):PC 237 [.sl [] .full,.b false] st (fC (iO (eS st.ts.length) st [] false).1) (iO (eS st.ts.length) st [] false).2:=.of fun G id=>by
 have hx:=BC (qS st.ts.length) (MA st.ts.length) st [] false hw aeK aeR;refine Gm (hx G G id (.sl [] .full) (.full (base_start G id _))) fun r h1 ⟨y',e1,e2,e3⟩=>⟨_,upd G id (some (PO (iO (eS st.ts.length) st [] false).2)),?_,fB e3.1 e2,rfl,rfl⟩
 subst e1;exact e3.weak
theorem N1(deny:Bool)(st:PS)(hw:WfP st):PC 195 [.b deny] st (aC (qs deny st).1) (qs deny st).2:=.of fun G id=>by
 have h1:=nM hw;have h2:=Ci h1.1;have h3:=HU h2.1;have h4:=Cg h3.1;have ht:=RQ _ h1.1;simp only[aW]at ht;refine aeJ func195 23 [.cell 4 217] fun hwf=>?_
 simp only[go_sem];intro i4 hi4;have n4:=aH hi4;have hG4:G i4=none:=afq;have c4:∀(f:Heap) (x y:Option Blk),upd (upd f id x) i4 y=upd (upd f i4 y) id x:=fun f x y=>cB f x y n4.symm
 simp only[go_sem,c4];refine(uB st hw).run ?_;simp only[go_sem];refine ht.run ?_;simp only[go_sem];intro i5 hi5;have n5:=aH hi5;have hi5' :=hi5;rw[ag _ _ n5]at hi5';have n54:=aH hi5';have m54:¬i5=i4:=n54;have m45:¬i4=i5:=n54.symm;have hG5:G i5=none:=afq;have c5:∀(f:Heap) (x y:Option Blk),upd (upd f id x) i5 y=upd (upd f i5 y) id x:=fun f x y=>cB f x y n5.symm
 have c45:∀(f:Heap) (x y:Option Blk),upd (upd f i5 x) i4 y=upd (upd f i4 y) i5 x:=fun f x y=>cB f x y n54
 simp only[go_sem,c5,ak,n5];refine(kO _ ifT h2.1).run ?_;cases d0:isD (hY (cu st).2).2 ifT
 ·have et:cw (hY (cu st).2).2 ifT=(false,(hY (cu st).2).2):=by grind [cw]
  have ec:qP (hY (cu st).2).2=([],(hY (cu st).2).2):=by grind [qP]
  have er:qs deny st=(⟨(cu st).1,deny,(hY (cu st).2).1,[],(gE (hY (cu st).2).2).1⟩,ew (gE (hY (cu st).2).2).2 [59]):=by grind [qs]
  rw[ec]at h4;have ho:=tT _ h2.1;simp only[ay]at ho;rw[et];simp only[go_sem];refine ho.run ?_;simp only[go_sem,c5,ak,n5];refine(lF _ [59] h4.1).run ?_;simp only[go_sem,c4,c45,ak,n4,n5,m45];exact .mk (h' :=upd G id (some (PO (ew (gE (hY (cu st).2).2).2 [59])))) (aC ⟨(cu st).1,deny,(hY (cu st).2).1,[],(gE (hY (cu st).2).2).1⟩) (gC _) (Sub.both afe _ _) ⟨by rw[er],by rw[er]⟩
 ·have et:cw (hY (cu st).2).2 ifT=(true,bl (hY (cu st).2).2):=by grind [cw]
  obtain⟨⟨cn,stc⟩,ec⟩:∃x,qP (hY (cu st).2).2=x:=⟨_,rfl⟩;have er:qs deny st=(⟨(cu st).1,deny,(hY (cu st).2).1,cn,(gE stc).1⟩,ew (gE stc).2 [59]):=by grind [qs]
  have hcnd:=KG (bl (hY (cu st).2).2) (fj h2.1 (dO d0)).1;have ec2:iO (eS (bl (hY (cu st).2).2).ts.length) (bl (hY (cu st).2).2) [] false=(cn,stc):=by rw[←ec];simp only[qP,d0,if_true];rfl
  rw[ec2]at hcnd;simp only[fC]at hcnd;rw[ec]at h3 h4;have ho:=tT _ h3.1;simp only[ay]at ho;rw[et];simp only[go_sem];refine hcnd.run ?_;simp only[go_sem,c5,ak,n5];refine ho.run ?_;simp only[go_sem,c5,ak,n5];refine(lF _ [59] h4.1).run ?_;simp only[go_sem,c4,c45,ak,n4,n5,m45];exact .mk (h' :=upd G id (some (PO (ew (gE stc).2 [59])))) (aC ⟨(cu st).1,deny,(hY (cu st).2).1,cn,(gE stc).1⟩) (gC _) (Sub.both afe _ _) ⟨by rw[er],by rw[er]⟩
theorem QS:(U 217).sz=5:=aeZ
theorem Xa:(U 217).bytes=96:=aeZ
theorem xU(l:List cV):Sized 5 (l.map aC):=fun z hz=>by obtain⟨c,_,rfl⟩:=List.mem_map.1 hz;rfl
theorem TD(st:PS)(hw:WfP st)(hr:st.rules≤64):PC 142 [] st (.sl ((kJ 17 st []).1.map aC) .no) (kJ 17 st []).2:=.of fun G id=>by
 obtain⟨M,eM⟩:∃M,kJ 17 st []=M:=⟨_,rfl⟩;rw[eM];refine aeJ func142 51 [.tmp 2] fun hwf=>?_
 simp only[go_sem];have hB:upd G id none id=none:=ah ..;refine .intro (fun m ρ H=>∃(f:Nat) (st' :PS) (l:List cV) (y:AV),H id=some (PO st')∧Acc U 217 (upd G id none) H y (l.map aC)∧Ah st st'∧st'.rules≤64∧kJ f st' l=M∧f+l.length=17∧l.length≤16∧m=f∧lk ρ 0=some (.ptr id 0)∧lk ρ 3=some y) 17 ?_ ?_
 ·refine⟨17,st,[],.sl ([].map aC) .full,ah ..,.full (base_start G id _),.refl hw,hr,eM,aeR,aeR,rfl,?_,?_⟩<;>simp only[go_sem]<;>rfl
 ·rintro m ρ H ⟨f,st',l,y,hH,hy,ha,hru,hfin,hf,hll,rfl,r0,r3⟩
  have hlen:=ha.1.2.2;have hpos:=ha.1.1;obtain⟨g,rfl⟩:∃g,m=g+1:=⟨m - 1,aeK⟩;simp only[go_sem,r0];refine(ug st' pV ha.1).go hH ?_;rw[bH hH];have fin:isD st' pV=false→isD st' jt=false→(l,st')=M:=fun d1 d2=>by grind [kJ]
  have rest:isD st' pV=true∨isD st' jt=true→True:=fun _=>trivial
  cases d1:isD st' pV
  ·simp only[go_sem,r0]
   refine(ug st' jt ha.1).go hH ?_;rw[bH hH];cases d2:isD st' jt
   ·simp only[go_sem,r3]
    have e:=fin d1 d2;exact .mk (h' :=upd G id (some (PO M.2))) (.sl (M.1.map aC) .no) afT (by rw[←e];exact fB hy.1 hH) ⟨rfl,rfl⟩
   ·exact ai0
  ·exact ai0
theorem QO:(U 38).sz=7:=aeZ
theorem W8:(U 38).bytes=128:=aeZ
theorem xT(l:List bE):Sized 7 (l.map aL):=fun z hz=>by obtain⟨c,_,rfl⟩:=List.mem_map.1 hz;cases c;rfl
theorem S8(pol:PoF)(d:Nat)(hd5:d≤5)(hp:∀st,WfP st→st.rules≤64→d≤4→PC 80 [.i d] st (aL (pol st).1) (pol st).2)(hpa:∀st,WfP st→Ah st (pol st).2)(hpr:∀st,oo st (pol st).2)
  (st:PS) (hw:WfP st) (hr:st.rules≤64):PC 141 [.i d] st (.sl ((kr pol (decide ((4:Int)<(d:Int))) 17 st []).1.map aL) .no) (kr pol (decide ((4:Int)<(d:Int))) 17 st []).2:=.of fun G id=>by
 obtain⟨M,eM⟩:∃M,kr pol (decide ((4:Int)<(d:Int))) 17 st []=M:=⟨_,rfl⟩;rw[eM];refine aeJ func141 33 [.tmp 4] fun hwf=>?_
 simp only[go_sem];have hB:upd G id none id=none:=ah ..;refine .intro (fun m ρ H=>∃(f:Nat) (st' :PS) (l:List bE) (y:AV),H id=some (PO st')∧Acc U 38 (upd G id none) H y (l.map aL)∧Ah st st'∧st'.rules≤64∧kr pol (decide ((4:Int)<(d:Int))) f st' l=M∧f+l.length=17∧l.length≤16∧m=f∧lk ρ 0=some (.ptr id 0)∧lk ρ 1=some (.i d)∧lk ρ 5=some y) 17 ?_ ?_
 ·refine⟨17,st,[],.sl ([].map aL) .full,ah ..,.full (base_start G id _),.refl hw,hr,eM,aeR,aeR,rfl,?_,?_,?_⟩<;>simp only[go_sem]<;>rfl
 ·rintro m ρ H ⟨f,st',l,y,hH,hy,ha,hru,hfin,hf,hll,rfl,r0,r1,r5⟩
  have hlen:=ha.1.2.2;have hpos:=ha.1.1;obtain⟨g,rfl⟩:∃g,m=g+1:=⟨m - 1,aeK⟩;simp only[go_sem,r0];refine(ug st' pW ha.1).go hH ?_;rw[bH hH];have fin:isD st' pW=false→isD st' Hs=false→(l,st')=M:=fun d1 d2=>by grind [kr]
  cases d1:isD st' pW
  ·simp only[go_sem,r0]
   refine(ug st' Hs ha.1).go hH ?_;rw[bH hH];cases d2:isD st' Hs
   ·simp only[go_sem,r5]
    have e:=fin d1 d2;exact .mk (h' :=upd G id (some (PO M.2))) (.sl (M.1.map aL) .no) afT (by rw[←e];exact fB hy.1 hH) ⟨rfl,rfl⟩
   ·have hd:isD st' pW=true∨isD st' Hs=true:=by grind
    have eb:=(nu hd).1;have ek:=(nu hd).2;have db:(st'.bad !=0)=false:=aeL;have gP:=hH;unfold PO at gP;have lim:l.length=16∨decide ((4:Int)<(d:Int))=true→(l,bG st' true)=M:=fun h=>by rw[←hfin];simp only[kr,if_pos hd,if_pos h]
    have hdl:bG st' true=bJ st' 6 (aM st').pos:=rfl;have hlb:((bG st' true).bad !=0)=true:=by grind [bJ]
    cases dA:((l.length:Int)==16)
    ·cases dB:decide ((4:Int)<(d:Int))
     ·have nA:l.length≠16:=fun e=>by grind
      have hno:¬(l.length=16∨decide ((4:Int)<(d:Int))=true):=fun h=>h.elim nA (fun e=>aeL)
      simp only[kr,if_pos hd,if_neg hno]at hfin;rw[dB]at hfin;have hd4:d≤4:=aeL;simp only[go_sem,r0,r1,r5,hy.len,aeA,dA,dB];refine(cR st' false ha.1).go hH ?_;rw[show bG st' false=st' from rfl,bH hH]
      have h3:=hpa st' ha.1;have hrp:=hp st' ha.1 hru hd4;have hr3:=vN (hpr st') hru;obtain⟨x,st2,e2⟩:∃x st2,pol st' =(x,st2):=⟨_,_,rfl⟩;rw[e2]at hfin hrp h3 hr3;obtain⟨pid,pset,palg,ptgt,prules,pkids,pobls⟩:=x;simp only[aL]at hrp hfin h3 hr3;simp only[go_sem,r0,r1,r5,gP,db];refine hrp.go hH ?_;simp only[go_sem];refine(hy.put hB hH _).app (zs:=[aL ⟨pid,pset,palg,ptgt,prules,pkids,pobls⟩]) aeO aeO (fun k hk=>hk) (by grind [QO,xT]) aha (by grind [W8]) fun y' H2 hy' hk2=>?_
      have hH2:H2 id=some (PO st2):=hk2 _ _ _ (ah ..);simp only[go_sem];refine⟨_,?_,g,st2,l++ [⟨pid,pset,palg,ptgt,prules,pkids,pobls⟩],y',hH2,aeL,ha.trans h3,hr3,hfin,aeL,aeL,rfl,?_,?_,?_⟩
      ·omega
      all_goals simp only[go_sem,r0,r1]
     ·have e:=lim (.inr dB)
      simp only[go_sem,r0,r1,r5,hy.len,aeA,dA,dB];refine(cR st' true ha.1).go hH ?_;have g3:upd H id (some (PO (bG st' true))) id=some (PO (bG st' true)):=ah ..;unfold PO at g3;simp only[go_sem,r0,r5,g3,hlb,PO];exact .mk (h' :=upd G id (some (PO M.2))) (.sl (M.1.map aL) .no) afT afp ⟨rfl,rfl⟩
    ·have nA:l.length=16:=by grind
     have e:=lim (.inl nA);simp only[go_sem,r0,r5,hy.len,aeA,dA];refine(cR st' true ha.1).go hH ?_;have g3:upd H id (some (PO (bG st' true))) id=some (PO (bG st' true)):=ah ..;unfold PO at g3;simp only[go_sem,r0,r5,g3,hlb,PO];exact .mk (h' :=upd G id (some (PO M.2))) (.sl (M.1.map aL) .no) afT afp ⟨rfl,rfl⟩
  ·have hd:isD st' pW=true∨isD st' Hs=true:=by grind
   have eb:=(nu hd).1;have ek:=(nu hd).2;have db:(st'.bad !=0)=false:=aeL;have gP:=hH;unfold PO at gP;have lim:l.length=16∨decide ((4:Int)<(d:Int))=true→(l,bG st' true)=M:=fun h=>by rw[←hfin];simp only[kr,if_pos hd,if_pos h]
   have hdl:bG st' true=bJ st' 6 (aM st').pos:=rfl;have hlb:((bG st' true).bad !=0)=true:=by grind [bJ]
   cases dA:((l.length:Int)==16)
   ·cases dB:decide ((4:Int)<(d:Int))
    ·have nA:l.length≠16:=fun e=>by grind
     have hno:¬(l.length=16∨decide ((4:Int)<(d:Int))=true):=fun h=>h.elim nA (fun e=>aeL)
     simp only[kr,if_pos hd,if_neg hno]at hfin;rw[dB]at hfin;have hd4:d≤4:=aeL;simp only[go_sem,r0,r1,r5,hy.len,aeA,dA,dB];refine(cR st' false ha.1).go hH ?_;rw[show bG st' false=st' from rfl,bH hH]
     have h3:=hpa st' ha.1;have hrp:=hp st' ha.1 hru hd4;have hr3:=vN (hpr st') hru;obtain⟨x,st2,e2⟩:∃x st2,pol st' =(x,st2):=⟨_,_,rfl⟩;rw[e2]at hfin hrp h3 hr3;obtain⟨pid,pset,palg,ptgt,prules,pkids,pobls⟩:=x;simp only[aL]at hrp hfin h3 hr3;simp only[go_sem,r0,r1,r5,gP,db];refine hrp.go hH ?_;simp only[go_sem];refine(hy.put hB hH _).app (zs:=[aL ⟨pid,pset,palg,ptgt,prules,pkids,pobls⟩]) aeO aeO (fun k hk=>hk) (by grind [QO,xT]) aha (by grind [W8]) fun y' H2 hy' hk2=>?_
     have hH2:H2 id=some (PO st2):=hk2 _ _ _ (ah ..);simp only[go_sem];refine⟨_,?_,g,st2,l++ [⟨pid,pset,palg,ptgt,prules,pkids,pobls⟩],y',hH2,aeL,ha.trans h3,hr3,hfin,aeL,aeL,rfl,?_,?_,?_⟩
     ·omega
     all_goals simp only[go_sem,r0,r1]
    ·have e:=lim (.inr dB)
     simp only[go_sem,r0,r1,r5,hy.len,aeA,dA,dB];refine(cR st' true ha.1).go hH ?_;have g3:upd H id (some (PO (bG st' true))) id=some (PO (bG st' true)):=ah ..;unfold PO at g3;simp only[go_sem,r0,r5,g3,hlb,PO];exact .mk (h' :=upd G id (some (PO M.2))) (.sl (M.1.map aL) .no) afT afp ⟨rfl,rfl⟩
   ·have nA:l.length=16:=by grind
    have e:=lim (.inl nA);simp only[go_sem,r0,r5,hy.len,aeA,dA];refine(cR st' true ha.1).go hH ?_;have g3:upd H id (some (PO (bG st' true))) id=some (PO (bG st' true)):=ah ..;unfold PO at g3;simp only[go_sem,r0,r5,g3,hlb,PO];exact .mk (h' :=upd G id (some (PO M.2))) (.sl (M.1.map aL) .no) afT afp ⟨rfl,rfl⟩
theorem EY(r:Nat)(d:Nat)(hrd:r+d=4)(hp:∀st,WfP st→st.rules≤64→d+1≤4→PC 80 [.i (d+1:Nat)] st (aL (gR r st).1) (gR r st).2)(st:PS)(hw:WfP st)(hr:st.rules≤64):
  PC 80 [.i d] st (aL (gR (r+1) st).1) (gR (r+1) st).2:=.of fun G id=>by
 have h1:=gN nw hw;have h2:=nM h1.1;have h3:=gN yj h2.1;have h4:=Ci h3.1;have h5:Ah _ (cY st).2:=jB [123] h4.1;have ht:=RQ _ h3.1;simp only[aW]at ht;have hrh:=vN (E4 st).big hr;have hset:(cY st).1.1=((bf st nw).1==2):=rfl;have w1:IntKind.i64.wrap ((d:Int)+1)=((d+1:Nat):Int):=aeW;have hdp:(r==0)=decide ((4:Int)<((d+1:Nat):Int)):=by grind
 have hk:=S8 (gR r) (d+1) aeK hp (fun _ h=>yf r _ h) (CW r) _ h5.1 hrh
 have hs:=TD _ h5.1 hrh;refine aeJ func80 39 [.cell 4 38] fun hwf=>?_
 simp only[go_sem];intro i4 hi4;have n4:=aH hi4;have hG4:G i4=none:=afq;have c4:∀(f:Heap) (x y:Option Blk),upd (upd f id x) i4 y=upd (upd f i4 y) id x:=fun f x y=>cB f x y n4.symm
 simp only[go_sem,c4];intro i5 hi5;have n5:=aH hi5;have hi5' :=hi5;rw[ag _ _ n5]at hi5';have n54:=aH hi5';have m54:¬i5=i4:=n54;have m45:¬i4=i5:=n54.symm;have hG5:G i5=none:=afq;have c5:∀(f:Heap) (x y:Option Blk),upd (upd f id x) i5 y=upd (upd f i5 y) id x:=fun f x y=>cB f x y n5.symm
 have c45:∀(f:Heap) (x y:Option Blk),upd (upd f i5 x) i4 y=upd (upd f i4 y) i5 x:=fun f x y=>cB f x y n54
 simp only[go_sem,c5];refine(oQ st nw .full aeO hw).run ?_;simp only[go_sem,c5,ak,n5];refine(uB _ h1.1).run ?_;simp only[go_sem,c5,ak,n5];refine(oQ _ yj .full aeO h2.1).run ?_;simp only[go_sem,c5,ak,n5];refine ht.run ?_;simp only[go_sem,c5,ak,n5];refine(lF _ [123] h4.1).run ?_;cases ds:((bf st nw).1==2)
 ·rw[ds]at hset
  simp only[go_sem,ak,n5];have eb:qj (gR r) (r==0) (cY st).1.1 (cY st).2=(((kJ 17 (cY st).2 []).1,[]),(kJ 17 (cY st).2 []).2):=by grind [qj]
  have hb:=Cf (fun _ h=>yf r _ h) (r==0) (cY st).1.1 h5.1
  obtain⟨⟨rl,stb⟩,er⟩:∃x,kJ 17 (cY st).2 []=x:=⟨_,rfl⟩;rw[er]at eb hs;rw[eb]at hb;have ho:=tT _ (jB [125] hb.1).1;simp only[ay]at ho hs;refine hs.run ?_;simp only[go_sem,c5,ak,n5];refine(lF _ [125] hb.1).run ?_;simp only[go_sem];refine ho.run ?_;simp only[go_sem,c4,c5,c45,ak,n4,n5,m45];have efin:gR (r+1) st=(.mk (cY st).1.2.1 false (cY st).1.2.2.1 (cY st).1.2.2.2 rl [] (gE (ew stb [125])).1,(gE (ew stb [125])).2):=by grind [gR]
  exact .mk (h' :=upd G id (some (PO (gE (ew stb [125])).2))) (aL (.mk (cY st).1.2.1 false (cY st).1.2.2.1 (cY st).1.2.2.2 rl [] (gE (ew stb [125])).1)) (gC _) (Sub.both afe _ _) ⟨aeL,aeL⟩
 ·rw[ds]at hset
  simp only[go_sem,ak,n5,w1];have eb:qj (gR r) (r==0) (cY st).1.1 (cY st).2=(([],(kr (gR r) (r==0) 17 (cY st).2 []).1),(kr (gR r) (r==0) 17 (cY st).2 []).2):=by grind [qj]
  have hb:=Cf (fun _ h=>yf r _ h) (r==0) (cY st).1.1 h5.1
  rw[←hdp]at hk;obtain⟨⟨kl,stb⟩,er⟩:∃x,kr (gR r) (r==0) 17 (cY st).2 []=x:=⟨_,rfl⟩;rw[er]at eb hk;rw[eb]at hb;have ho:=tT _ (jB [125] hb.1).1;simp only[ay]at ho hk;refine hk.run ?_;simp only[go_sem,c5,ak,n5];refine(lF _ [125] hb.1).run ?_;simp only[go_sem];refine ho.run ?_;simp only[go_sem,c4,c5,c45,ak,n4,n5,m45];have efin:gR (r+1) st=(.mk (cY st).1.2.1 true (cY st).1.2.2.1 (cY st).1.2.2.2 [] kl (gE (ew stb [125])).1,(gE (ew stb [125])).2):=by grind [gR]
  exact .mk (h' :=upd G id (some (PO (gE (ew stb [125])).2))) (aL (.mk (cY st).1.2.1 true (cY st).1.2.2.1 (cY st).1.2.2.2 [] kl (gE (ew stb [125])).1)) (by simp only[aL,aX];exact gC _) (Sub.both afe _ _) ⟨aeL,aeL⟩
theorem EX:∀(r d:Nat),r+d=4→∀st,WfP st→st.rules≤64→PC 80 [.i d] st (aL (gR (r+1) st).1) (gR (r+1) st).2
 |0,d,hrd=>fun st hw hr=>EY 0 d hrd aeK st hw hr
 |r+1,d,hrd=>fun st hw hr=>EY (r+1) d hrd (fun st hw hr _=>EX r (d+1) aeK st hw hr) st hw hr
theorem LV(l:List (List bP))(h:Heap):ai prog 271 [cE l] h fun r h' =>r= .i (xA l)∧h' =h:=by
 refine aeJ func271 25 [.tmp 2] fun hwf=>?_
 simp only[go_sem,cE,aeA];refine(IG _ _).pthen ?_;cases d1:(kS l.length !=0)
 case true=>have e1:kS l.length≠0:=aeL;simp only[go_sem,d1];exact .same (.refl _) ⟨by grind [xA,ax],rfl⟩
 have e1:kS l.length=0:=aeL;have hlen:=Ez e1;simp only[go_sem,d1,aeA];refine .intro (fun m ρ h' =>Ab.Sub h h'∧∃i:Nat,i≤l.length∧m=l.length - i∧iL xz (l.take i)=0∧lk ρ 13=some (cE l)∧lk ρ 14=some (.i l.length)∧lk ρ 15=some (.i i)) l.length ?_ ?_
 ·refine⟨.refl _,0,aeK,rfl,rfl,?_,?_,?_⟩<;>simp only[go_sem,cE]
 ·rintro m ρ h' ⟨hs,i,hi,rfl,hc,r12,r13,r14⟩
  simp only[go_sem,r13,r14];refine .intro (fun e=>?_) (fun e=>?_)
  ·have hlt:i<l.length:=aeH e
   have w1:IntKind.i64.wrap ((i:Int)+1)=((i+1:Nat):Int):=aeW;simp only[go_sem,r12,r14,cE];refine .at i aeL aeU ?_;simp only[go_sem,aeB,iC];refine(LU l[i] _).pthen ?_;cases d2:(xz l[i] !=0)
   ·have e2:xz l[i]=0:=by grind
    simp only[go_sem,r14,d2,w1];refine⟨_,?_,hs,i+1,aeK,rfl,wE hlt hc e2,?_,?_,?_⟩
    ·omega
    all_goals simp only[go_sem,r12,r13,cE]
   ·have e2:xz l[i]≠0:=by grind
    simp only[go_sem,d2];refine .mk _ (.refl _) hs ⟨?_,rfl⟩
    grind [xA,Bg,ax]
  ·have hge:i=l.length:=by grind
   subst hge;rw[List.take_length]at hc;simp only[go_sem];exact .mk _ (.refl _) hs ⟨by grind [xA,ax],rfl⟩
theorem vR(l:gp)(h:Heap):ai prog 239 [aW l] h fun r h' =>r= .i (me l)∧h' =h:=by
 refine aeJ func239 21 [.tmp 2] fun hwf=>?_
 cases d1:decide (8<(l.length:Int))
 case true=>have e1:8<l.length:=aeL;simp only[go_sem,aW,aeA,d1];exact .same (.refl _) ⟨by grind [me,ax],rfl⟩
 have e1:¬8<l.length:=aeL;simp only[go_sem,d1,aW,aeA];refine .intro (fun m ρ h' =>Ab.Sub h h'∧∃i:Nat,i≤l.length∧m=l.length - i∧iL xA (l.take i)=0∧lk ρ 9=some (aW l)∧lk ρ 10=some (.i l.length)∧lk ρ 11=some (.i i)) l.length ?_ ?_
 ·refine⟨.refl _,0,aeK,rfl,rfl,?_,?_,?_⟩<;>simp only[go_sem,aW]
 ·rintro m ρ h' ⟨hs,i,hi,rfl,hc,r12,r13,r14⟩
  simp only[go_sem,r13,r14];refine .intro (fun e=>?_) (fun e=>?_)
  ·have hlt:i<l.length:=aeH e
   have w1:IntKind.i64.wrap ((i:Int)+1)=((i+1:Nat):Int):=aeW;simp only[go_sem,r12,r14,aW];refine .at i aeL aeU ?_;simp only[go_sem,aeB,cE];refine(LV l[i] _).pthen ?_;cases d2:(xA l[i] !=0)
   ·have e2:xA l[i]=0:=by grind
    simp only[go_sem,r14,d2,w1];refine⟨_,?_,hs,i+1,aeK,rfl,wE hlt hc e2,?_,?_,?_⟩
    ·omega
    all_goals simp only[go_sem,r12,r13,aW]
   ·have e2:xA l[i]≠0:=by grind
    simp only[go_sem,d2];refine .mk _ (.refl _) hs ⟨?_,rfl⟩
    grind [me,Bg,ax]
  ·have hge:i=l.length:=by grind
   subst hge;rw[List.take_length]at hc;simp only[go_sem];exact .mk _ (.refl _) hs ⟨by grind [me,ax],rfl⟩
theorem CO(l:List cC)(h:Heap):ai prog 240 [ay l] h fun r h' =>r= .i (iN l)∧h' =h:=by
 refine aeJ func240 39 [.tmp 2] fun hwf=>?_
 cases d1:decide (8<(l.length:Int))
 case true=>have e1:8<l.length:=aeL;simp only[go_sem,ay,aeA,d1];exact .same (.refl _) ⟨by grind [iN,ax],rfl⟩
 have e1:¬8<l.length:=aeL;simp only[go_sem,d1,ay,aeA];refine .intro (fun m ρ h' =>Ab.Sub h h'∧∃i:Nat,i≤l.length∧m=l.length - i∧(l.take i).all ry=true∧lk ρ 8=some (ay l)∧lk ρ 9=some (.i l.length)∧lk ρ 10=some (.i i)) l.length ?_ ?_
 ·refine⟨.refl _,0,aeK,rfl,rfl,?_,?_,?_⟩<;>simp only[go_sem,ay]
 ·rintro m ρ h' ⟨hs,i,hi,rfl,hc,r12,r13,r14⟩
  simp only[go_sem,r13,r14];refine .intro (fun e=>?_) (fun e=>?_)
  ·have hlt:i<l.length:=aeH e
   have w1:IntKind.i64.wrap ((i:Int)+1)=((i+1:Nat):Int):=aeW;simp only[go_sem,r12,r14,ay];refine .at i aeL aeU ?_;simp only[go_sem,aeB,aY];intro id hid;have bad:ry l[i]=false→iN l=1:=fun hb=>by have:l.all ry=false:=List.all_eq_false.2 ⟨_,aeF hlt,aeL⟩;simp[iN,e1,this]
   cases c1:decide (l[i].on<1)
   case true=>simp only[go_sem,c1];exact .mk _ (.refl _) (hs.new hid _) ⟨by rw[bad (by have:=aeC c1;simp[ry];omega)];rfl,rfl⟩
   cases c2:decide (2<l[i].on)
   case true=>simp only[go_sem,c1,c2];exact .mk _ (.refl _) (hs.new hid _) ⟨by rw[bad (by have:=aeC c2;simp[ry];omega)];rfl,rfl⟩
   cases c3:decide (l[i].kind<1)
   case true=>simp only[go_sem,c1,c2,c3];exact .mk _ (.refl _) (hs.new hid _) ⟨by rw[bad (by have:=aeC c3;simp[ry];omega)];rfl,rfl⟩
   cases c4:decide (4<l[i].kind)
   case true=>simp only[go_sem,c1,c2,c3,c4];exact .mk _ (.refl _) (hs.new hid _) ⟨by rw[bad (by have:=aeC c4;simp[ry];omega)];rfl,rfl⟩
   simp only[go_sem,c1,c2,c3,c4];refine(pQ _ _).pthen ?_;cases d2:bp l[i].arg
   ·simp only[go_sem]
    exact .mk _ (.refl _) (hs.new hid _) ⟨by rw[bad (by grind [ry])];rfl,rfl⟩
   ·simp only[go_sem,r14,w1]
    refine⟨_,?_,hs.new hid _,i+1,aeK,rfl,?_,?_,?_,?_⟩
    ·omega
    ·grind [aeD,List.take_succ_eq_append_getElem,ry]
    all_goals simp only[go_sem,r12,r13,ay]
  ·have hge:i=l.length:=by grind
   subst hge;rw[List.take_length]at hc;simp only[go_sem];exact .mk _ (.refl _) hs ⟨by grind [iN,ax],rfl⟩
theorem OG(op:Int)(h:Heap):ai prog 296 [.i op] h fun r h' =>r=(match iU op with
  |none=> .tup [.sl [] .no,.b false]
  |some w=> .tup [.sl (w.map j5) .no,.b true])∧h' =h:=by
 refine aeJ func296 35 [.tmp 2,.tmp 3] fun hwf=>?_
 cases k1:(op==1)
 case true=>have e1:op=1:=aeL;simp only[go_sem,k1];exact .mk _ (fI _) (.refl _) ⟨aie,rfl⟩
 have n1:op≠1:=aeL;cases k2:(op==2)
 case true=>have e1:op=2:=aeL;simp only[go_sem,k1,k2];exact .mk _ (fI _) (.refl _) ⟨aie,rfl⟩
 have n2:op≠2:=aeL;cases k3:(op==3)
 case true=>have e1:op=3:=aeL;simp only[go_sem,k1,k2,k3];exact .mk _ (fI _) (.refl _) ⟨ag5,rfl⟩
 have n3:op≠3:=aeL;cases k4:(op==4)
 case true=>have e1:op=4:=aeL;simp only[go_sem,k1,k2,k3,k4];exact .mk _ (fI _) (.refl _) ⟨ag5,rfl⟩
 have n4:op≠4:=aeL;cases k5:(op==5)
 case true=>have e1:op=5:=aeL;simp only[go_sem,k1,k2,k3,k4,k5];exact .mk _ (fI _) (.refl _) ⟨ag5,rfl⟩
 have n5:op≠5:=aeL;cases k11:(op==11)
 case true=>have e1:op=11:=aeL;simp only[go_sem,k1,k2,k3,k4,k5,k11];exact .mk _ (fI _) (.refl _) ⟨ag5,rfl⟩
 have n11:op≠11:=aeL;cases k6:decide (6≤op)
 ·have n6:=aeD k6
  simp only[go_sem,k1,k2,k3,k4,k5,k11,k6];exact .mk _ (fI _) (.refl _) ⟨aie,rfl⟩
 cases k13:decide (op≤13)
 ·have n13:=aeD k13
  simp only[go_sem,k1,k2,k3,k4,k5,k11,k6,k13];exact .mk _ (fI _) (.refl _) ⟨aie,rfl⟩
 have n6:=aeC k6;have n13:=aeC k13;simp only[go_sem,k1,k2,k3,k4,k5,k11,k6,k13];exact .mk _ (fI _) (.refl _) ⟨ag5,rfl⟩
theorem JT(n:aQ)(h:Heap):ai prog 297 [cG n] h fun r h' =>r= .b (kg n)∧h' =h:=by
 refine aeJ func297 37 [.tmp 2] fun hwf=>?_
 simp only[go_sem,cG];intro id hid;have fa:∀x y z:Bool,(x && (y && (z && true)))=(x && (y && (z && true))):=fun _ _ _=>rfl
 cases k1:(n.op==1)
 case true=>
  have e1:n.op=1:=aeL;simp only[go_sem,k1];refine(fY n.val _).pthen ?_;cases d0:bz n.val
  ·simp only[go_sem]
   exact akd
  ·simp only[go_sem]
   exact .mk _ (.refl _) (.aj hid) ⟨by grind [kg,ax,zeroAt],rfl⟩
 have n1:n.op≠1:=aeL;cases k2:(n.op==2)
 case true=>
  have e1:n.op=2:=aeL;simp only[go_sem,k1,k2];refine(HZ n.attr _).pthen ?_;cases d0:qH n.attr
  ·simp only[go_sem]
   exact akd
  ·simp only[go_sem]
   exact .mk _ (.refl _) (.aj hid) ⟨by grind [kg,ax,zeroV],rfl⟩
 have n2:n.op≠2:=aeL;cases d0:zeroV n.val
 ·have d1:=d0
  unfold zeroV at d1;simp only[go_sem,k1,k2,d1];exact akd
 ·have d1:=d0
  unfold zeroV at d1;simp only[go_sem,k1,k2,d1];exact .mk _ (.refl _) (.aj hid) ⟨by grind [kg,ax,zeroAt],rfl⟩
theorem u4:(U 4).sz=1:=aeZ
theorem u4a:(U 4).k.agg=false:=aeZ
theorem u4b:(U 4).bytes=1:=aeZ
theorem u4f:fit (U 4).zero 1:=aeX
theorem u4n:bA (U 4).zero=false:=aeZ
theorem Ia(l:List Bool):One (l.map j5):=One.map (fun _=>rfl) l
theorem QD(y:AV)(st:List Bool)(n:aQ)(h0 h:Heap)(hy:WrA 4 h0 h y (st.map j5))(hl:st.length≤1000000):
  ai prog 272 [y,cG n] h fun r h' =>∃z,r= .tup [z,.v (.bool (iT st n).isSome)]∧match iT st n with
   |none=>Ab.Sub h0 h'
   |some st' =>WrA 4 h0 h' z (st'.map j5):=by
 refine aeJ func272 60 [.tmp 4,.tmp 5] fun hwf=>?_
 simp only[go_sem,cG];intro id hid;simp only[go_sem];have hyb:=hy.base hid (some (.obj [.i n.op,.i n.val.kind,.i n.val.n,.s n.val.s,.i n.attr.cat,.s n.attr.name,.b n.attr.must] 222));have hw:=OG n.op (upd h id (some (.obj [.i n.op,.i n.val.kind,.i n.val.n,.s n.val.s,.i n.attr.cat,.s n.attr.name,.b n.attr.must] 222)));cases hwd:iU n.op with
 |none=>
  rw[hwd]at hw;have hst:iT st n=none:=by grind [iT]
  refine hw.pthen ?_;exact akD
 |some w=>
  rw[hwd]at hw;have hwl:w.length≤2:=by grind [iU]
  refine hw.pthen ?_;simp only[go_sem];refine(JT n _).pthen ?_;cases d1:kg n
  ·have hst:iT st n=none:=by grind [iT]
   exact akD
  cases d2:decide ((st.length:Int)<(w.length:Int))
  case true=>
   have e2:¬w.length≤st.length:=aeL;have hst:iT st n=none:=by grind [iT]
   simp only[go_sem,hyb.len,aeA,d2];exact .mk _ (.refl _) (.aj hid) ⟨_,aiN,aiy⟩
  have e2:w.length≤st.length:=aeL;have w1:IntKind.i64.wrap ((st.length:Int) - (w.length:Int))=((st.length - w.length:Nat):Int):=aeW;obtain⟨hb,ehb⟩:∃hb,upd h id (some (.obj [.i n.op,.i n.val.kind,.i n.val.n,.s n.val.s,.i n.attr.cat,.s n.attr.name,.b n.attr.must] 222))=hb:=⟨_,rfl⟩;have hbid:hb id=some (.obj [.i n.op,.i n.val.kind,.i n.val.n,.s n.val.s,.i n.attr.cat,.s n.attr.name,.b n.attr.must] 222):=aif;have hsub:Ab.Sub h hb:=by rw[←ehb];exact .aj hid
  rw[ehb]at hyb⊢;simp only[go_sem,hyb.len,aeA,d2,w1];refine .intro (fun m ρ h' =>h' =hb∧∃i:Nat,i≤w.length∧m=w.length - i∧(∀j,j<i→st[st.length - w.length+j]? =w[j]?)∧lk ρ 0=some y∧lk ρ 3=some (.ptr id 0)∧lk ρ 8=some (.i ((st.length - w.length:Nat):Int))∧lk ρ 36=some (.sl (w.map j5) .no)∧lk ρ 37=some (.i w.length)∧lk ρ 38=some (.i i)) w.length ?_ ?_
  ·refine⟨rfl,0,aeK,rfl,fun j hj=>aeK,?_,?_,?_,?_,?_,?_⟩<;>simp only[go_sem]
  ·rintro m ρ h' ⟨rfl,i,hi,rfl,hc,r0,r3,r8,r36,r37,r38⟩
   simp only[go_sem,r37,r38];refine .intro (fun e=>?_) (fun e=>?_)
   ·have hlt:i<w.length:=aeH e
    have w2:IntKind.i64.wrap ((i:Int)+1)=((i+1:Nat):Int):=aeW;have w3:IntKind.i64.wrap (((st.length - w.length:Nat):Int)+(i:Int))=((st.length - w.length+i:Nat):Int):=aeW;have hlt2:st.length - w.length+i<st.length:=aeK;simp only[go_sem,r36,r38];refine .at i aeL aeU ?_;simp only[go_sem,r0,r8,aeB,j5,w3];refine hyb.idx (Ia st) (st.length - w.length+i) rfl aeL u4 u4a fun p hp=>?_
    simp only[go_sem,hp _,aeB,j5];cases d3:(st[st.length - w.length+i]==w[i])
    ·have hst:iT st n=none:=by
      have:st.drop (st.length - w.length)≠w:=fun hh=>by grind
      simp[iT,hwd,this]
     simp only[go_sem];exact .mk _ (.refl _) hsub ⟨_,aiN,aiy⟩
    ·simp only[go_sem,r38,w2]
     refine⟨_,?_,rfl,i+1,aeK,rfl,fun j hj=>?_,?_,?_,?_,?_,?_,?_⟩
     ·omega
     ·grind
     all_goals simp only[go_sem,r0,r3,r8,r36,r37]
   ·have hge:i=w.length:=by grind
    subst hge;have hdrop:st.drop (st.length - w.length)=w:=by
     apply List.ext_getElem?
     grind
    have hst:iT st n=some (st.take (st.length - w.length)++ [n.op==2]):=by grind [iT]
    simp only[go_sem];refine .calls (hm1 id _) [0,1,2,3,4,5,6,7,8,9] (.hm1 hbid) aeN rfl ?_;simp only[go_sem,r0,r8];refine hyb.cut (x:=.i64) (st.length - w.length) aeZ rfl aeR u4 fun z hz=>?_
    rw[←List.map_take]at hz;simp only[go_sem,r3,gy];refine hz.app (zs:=[.b (n.op==2)]) (Ia _) (Ia [n.op==2]) u4 aeO u4f u4n (fun k hk=>hk) (by grind [u4b]) fun z' h2 hz' =>?_
    refine⟨fun j b hj=>((Sub.hm1 (ah ..)).trans hz'.1) j b hj,?_⟩
    simp only[go_sem];have hz2:=hz'.less (Sub.aj (hy.1.none hid));refine .same (.refl _) ⟨z',aiN,?_⟩;rw[hst];simp only[List.map_append];exact hz2
theorem F4(h:l.length≤32)(hs:fZ [] l=none):kR l=1:=by grind [kR,Nat.not_lt]
theorem kM(st:List Bool):∀(l:List aQ) (i:Nat),fZ st l=(match fZ st (l.take i)with
  |none=>none
  |some st' =>fZ st' (l.drop i))
 | [],i=>by simp[fZ]
 |n::r,0=>aeZ
 |n::r,i+1=>by
  simp only[List.take_succ_cons,List.drop_succ_cons,fZ];cases iT st n with
  |none=>rfl
  |some st' =>simp only;exact kM st' r i
theorem sF(st st' :List Bool)(l:List aQ)(h:fZ st l=some st'):st'.length≤st.length+l.length:=by
 induction l generalizing st with
 |nil=>grind [fZ,Option.some.injEq]
 |cons n r ih=>
  simp only[fZ]at h;cases hs:iT st n with
  |none=>grind
  |some s2=>grind [iT]
theorem Im(l:List aQ)(h:Heap):ai prog 241 [fC l] h fun r h' =>r= .i (kR l)∧h' =h:=by
 refine aeJ func241 38 [.tmp 2] fun hwf=>?_
 cases d1:decide (32<(l.length:Int))
 case true=>have e1:32<l.length:=aeL;simp only[go_sem,fC,aeA,d1];exact .same (.refl _) ⟨by grind [kR,ax],rfl⟩
 have e1:l.length≤32:=aeL;simp only[go_sem,fC,aeA,d1];refine .intro (fun m ρ h' =>∃(i:Nat) (y:AV) (st:List Bool),WrA 4 h h' y (st.map j5)∧fZ [] (l.take i)=some st∧i≤l.length∧m=l.length - i∧
  lk ρ 0=some (fC l)∧lk ρ 3=some y∧lk ρ 10=some (fC l)∧lk ρ 11=some (.i l.length)∧lk ρ 12=some (.i i)) l.length ?_ ?_
 ·refine⟨0,_,[],.nil (.refl _),rfl,aeK,rfl,?_,?_,?_,?_,?_⟩<;>simp only[go_sem,fC]
 ·rintro m ρ h' ⟨i,y,st,hy,hst,hi,rfl,r0,r3,r10,r11,r12⟩
  have hsl:=sF _ _ _ hst;have hsl:st.length≤i:=aeL;simp only[go_sem,r11,r12];refine .intro (fun e=>?_) (fun e=>?_)
  ·have hlt:i<l.length:=aeH e
   have w1:IntKind.i64.wrap ((i:Int)+1)=((i+1:Nat):Int):=aeW;have hnx:fZ [] (l.take (i+1))=iT st l[i]:=by
    rw[kM [] _ i,List.take_take,Nat.min_eq_left aeK,hst,List.take_succ_eq_append_getElem hlt,List.drop_append_of_le_length aeL,List.drop_of_length_le aeL]
    grind [fZ,iT]
   simp only[go_sem,r10,r12,fC];refine .at i aeL aeU ?_;simp only[go_sem,aeB,cG];intro id hid;simp only[go_sem,r3];have hyb:=hy.sub (Sub.aj (k:=some (.obj [.i l[i].op,.i l[i].val.kind,.i l[i].val.n,.s l[i].val.s,.i l[i].attr.cat,.s l[i].attr.name,.b l[i].attr.must] 222)) hid);refine(QD y st l[i] h _ hyb aeK).mono fun r h2 ⟨z,e2,hz⟩=>?_
   subst e2;cases hsd:iT st l[i]with
   |none=>rw[hsd]at hz;simp only[go_sem,Option.isSome_none];refine .mk _ (.refl _) hz ⟨?_,rfl⟩;rw[F4 e1 (by rw[kM [] l (i+1),hnx,hsd])];rfl
   |some st' =>
    rw[hsd]at hz hnx;simp only[go_sem,r12,Option.isSome_some,w1];refine⟨_,?_,i+1,z,st',hz,hnx,aeK,rfl,?_,?_,?_,?_,?_⟩
    ·omega
    all_goals simp only[go_sem,r0,r10,r11,fC]
  ·have hge:i=l.length:=by grind
   subst hge;rw[List.take_length]at hst;have he:kR l=if l= []∨st= [false]then 0 else 1:=by simp_all [kR,if_neg]
   cases d2:decide (0<(l.length:Int))
   ·have e2:l= []:=by simp_all
    simp only[go_sem,r0,fC,aeA,d2];exact .mk _ (.refl _) hy.1 ⟨by rw[he,if_pos (.inl e2)];rfl,rfl⟩
   have e2:l≠ []:=aeL;cases d3:((st.length:Int) !=1)
   case true=>have e3:st≠ [false]:=aeL;simp only[go_sem,r0,r3,fC,aeA,d2,hy.len,d3];exact .mk _ (.refl _) hy.1 ⟨by rw[he,if_neg aeL];rfl,rfl⟩
   have e3:st.length=1:=by grind
   obtain⟨b,rfl⟩:=List.length_eq_one_iff.1 e3;simp only[go_sem,r0,r3,fC,aeA,d2,hy.len];refine hy.idx (Ia [b]) 0 rfl aeR u4 u4a fun p hp=>?_
   simp only[go_sem,hp _,j5,List.getElem_cons_zero];cases b
   ·simp only[go_sem]
    exact .mk _ (.refl _) hy.1 ⟨by rw[he,if_pos (.inr rfl)];rfl,rfl⟩
   ·simp only[go_sem]
    exact .mk _ (.refl _) hy.1 ⟨by rw[he,if_neg aeL];rfl,rfl⟩
def Keeps(S:List Nat)(h h' :Heap):Prop:=∀j k,j∉S→h j=some k→h' j=some k
theorem Keeps.trans{b c:Heap}(x:Keeps S a b)(y:Keeps S b c):Keeps S a c:=fun j k hj e=>y j k hj (x j k hj e)
theorem Keeps.of{b:Heap}(x:Ab.Sub a b):Keeps S a b:=fun j k _ e=>x j k e
theorem Keeps.upd{i:Nat}{b:Option Blk}(hi:i∈S):Keeps S a (Ab.upd a i b):=fun j k hj e=>by grind [ag]
def iI(h:Heap)(idw mid:Nat)(m:eO):Prop:=h idw=some (.obj [.mp mid,.i m.rules] 238)∧h mid=some (.mp (AH m.met))∧(∀l∈m.met,l.length≤16)∧m.rules≤64
theorem iI.ne(hw:iI h idw mid m):idw≠mid:=fun e=>by
 have h1:=hw.1;have h2:=hw.2.1
 rw[e,h2]at h1;cases h1
theorem iI.keep(hw:iI h idw mid m)(hs:Ab.Sub h h'):iI h' idw mid m:=⟨hs _ _ hw.1,hs _ _ hw.2.1,hw.2.2⟩
theorem Zx:(U 356).sz=0:=aeZ
theorem GY(h:bp s=true):s.length≤16:=by grind [bp]
theorem zm(h:s∈m.met∨bp s=false):jz m s=none:=by
 unfold jz
 grind
theorem FF(idw mid:Nat)(m:eO)(s:Txt)(h:Heap)(hw:iI h idw mid m):ai prog 238 [.ptr idw 0,.s s] h fun r h' =>match jz m s with
  |none=>r= .b false∧Ab.Sub h h'
  |some m' =>r= .b true∧Keeps [idw,mid] h h'∧iI h' idw mid m' :=by
 refine aeJ func238 28 [.tmp 4] fun hwf=>?_
 obtain⟨w1,w2,w3,w4⟩:=hw;have hlen:s.length≤maxLen:=by have:=hwf (.s s) aeR;simp only[wfA,wf1,lim]at this;unfold maxLen;omega
 have hkeys:AX .str (AH m.met):=Kt fun l hl=>by grind [maxLen]
 simp only[go_sem,w1,w2];refine⟨hlen,.inr aeZ,hkeys,?_⟩;rw[Ky _ _ Zx];simp only[go_sem];intro idv hidv;simp only[go_sem];cases d1:decide (s∈m.met)
 case true=>have hm:=zm (.inl (aeC d1));simp only[go_sem];rw[hm];exact .mk _ (.refl _) (.aj hidv) ⟨rfl,.refl _⟩
 have e1:=aeD d1;simp only[go_sem];refine(pQ _ _).pthen ?_;cases d2:bp s
 ·have hm:=zm (m:=m) (.inr d2)
  simp only[go_sem];rw[hm];exact .mk _ (.refl _) (.aj hidv) ⟨rfl,.refl _⟩
 have hm:jz m s=some ⟨m.met++ [s],m.rules⟩:=by grind [jz]
 have w1' :upd h idv (some (.obj [] 356)) idw=some (.obj [.mp mid,.i m.rules] 238):=afq;have w2' :upd h idv (some (.obj [] 356)) mid=some (.mp (AH m.met)):=afq;simp only[go_sem,w1',w2'];refine⟨hlen,hkeys,?_⟩;rw[Oc e1];rw[hm];refine .same (.refl _) ⟨rfl,(Keeps.of (.aj hidv)).trans (.upd aeR),?_,?_,?_,w4⟩
 ·grind [ag]
 ·rw[ah]
 grind [List.mem_singleton,GY]
theorem OK(idw mid:Nat)(m:eO)(r:cV)(h:Heap)(hw:iI h idw mid m):ai prog 197 [.ptr idw 0,aC r] h fun x h' =>x= .v (.int .i64 (gG m r).err)∧Keeps [idw,mid] h h'∧∀m',gG m r= .ok m'→iI h' idw mid m' :=by
 refine aeJ func197 39 [.tmp 4] fun hwf=>?_
 simp only[go_sem,aC,aW,fC,ay];intro id hid;have n1:idw≠id:=fun e=>by have:=hw.1;rw[e,hid]at this;cases this
 have n2:mid≠id:=fun e=>by have:=hw.2.1;rw[e,hid]at this;cases this
 have hwb:=hw.keep (Sub.aj (k:=some (.obj [.s r.id,.b r.deny,.sl (r.tgt.map cE) .no,.sl (r.cond.map cG) .no,.sl (r.obls.map aY) .no] 217)) hid);have hk0:Keeps [idw,mid] h (upd h id (some (.obj [.s r.id,.b r.deny,.sl (r.tgt.map cE) .no,.sl (r.cond.map cG) .no,.sl (r.obls.map aY) .no] 217))):=.of (.aj hid);simp only[go_sem];obtain⟨hb,ehb⟩:∃hb,upd h id (some (.obj [.s r.id,.b r.deny,.sl (r.tgt.map cE) .no,.sl (r.cond.map cG) .no,.sl (r.obls.map aY) .no] 217))=hb:=⟨_,rfl⟩;have hbid:hb id=some (.obj [.s r.id,.b r.deny,.sl (r.tgt.map cE) .no,.sl (r.cond.map cG) .no,.sl (r.obls.map aY) .no] 217):=aif;rw[ehb]at hwb hk0⊢;refine(FF idw mid m r.id hb hwb).mono fun x h2 hx=>?_
 cases hm:jz m r.id with
 |none=>
  rw[hm]at hx;obtain⟨rfl,hs⟩:=hx;have hr:gG m r= .bad 1:=by grind [gG]
  simp only[go_sem];exact .same (.refl _) ⟨aiS,hk0.trans (.of hs),fun m' h' =>aeL⟩
 |some m1=>
  rw[hm]at hx;obtain⟨rfl,hk,hw2⟩:=hx;have g2:=hw2.1;have hle:=hw2.2.2.2;have hid2:h2 id=some (.obj [.s r.id,.b r.deny,.sl (r.tgt.map cE) .no,.sl (r.cond.map cG) .no,.sl (r.obls.map aY) .no] 217):=hk id _ aeL hbid;have w1:IntKind.i64.wrap ((m1.rules:Int)+1)=((m1.rules+1:Nat):Int):=aeW;have hk3:Keeps [idw,mid] h (upd h2 idw (some (.obj [.mp mid,.i ((m1.rules+1:Nat):Int)] 238))):=(hk0.trans hk).trans (.upd aeR);have hid3:upd h2 idw (some (.obj [.mp mid,.i ((m1.rules+1:Nat):Int)] 238)) id=some (.obj [.s r.id,.b r.deny,.sl (r.tgt.map cE) .no,.sl (r.cond.map cG) .no,.sl (r.obls.map aY) .no] 217):=by grind [ag]
  cases d1:decide (64<((m1.rules+1:Nat):Int))
  case true=>
   have e1:m1.rules+1>64:=aeL;have hr:gG m r= .bad 6:=by grind [gG]
   simp only[go_sem,g2,w1,d1];exact ajT
  have e1:¬m1.rules+1>64:=aeL;have hr:gG m r=need (me r.tgt) (need (kR r.cond) (need (iN r.obls) (.ok ⟨m1.met,m1.rules+1⟩))):=by grind [gG]
  simp only[go_sem,g2,w1,d1,hid3];refine(vR r.tgt _).pthen ?_;cases d2:(me r.tgt !=0)
  case true=>
   have e2:me r.tgt≠0:=aeL;have hr:gG m r= .bad (me r.tgt):=by grind [need]
   simp only[go_sem,d2];exact ajT
  have e2:me r.tgt=0:=aeL;rw[need,if_pos e2]at hr;simp only[go_sem,d2,hid3];refine(Im r.cond _).pthen ?_;cases d3:(kR r.cond !=0)
  case true=>
   have e3:kR r.cond≠0:=aeL;have hr:gG m r= .bad (kR r.cond):=by grind [need]
   simp only[go_sem,d3];exact ajT
  have e3:kR r.cond=0:=aeL;rw[need,if_pos e3]at hr;simp only[go_sem,d3,hid3];refine(CO r.obls _).pthen ?_;simp only[go_sem]
  by_cases e4:iN r.obls=0
  ·rw[need,if_pos e4]at hr
   refine .same (.refl _) ⟨by rw[hr,e4];rfl,hk3,fun m' h' =>?_⟩
   rw[hr]at h';cases h';refine⟨ah ..,?_,hw2.2.2.1,aeL⟩;rw[ag _ _ hw2.ne.symm];exact hw2.2.1
  ·rw[need,if_neg e4]at hr
   exact ajT
theorem yQ{id:Txt}{set:Bool}(h:jz m id=none):fo m id set alg tgt nr nk obls= .bad 1:=by grind [fo]
theorem OI(idw mid:Nat)(m:eO)(id:Txt)(set:Bool)(alg:Int)(tgt:gp)(rules:List cV)(kids:List bE)(obls:List cC)(h:Heap)(hw:iI h idw mid m):
  ai prog 196 [.ptr idw 0,aL (.mk id set alg tgt rules kids obls)] h fun x h' =>x= .v (.int .i64 (fo m id set alg tgt rules.length kids.length obls).err)∧Keeps [idw,mid] h h'∧∀m',fo m id set alg tgt rules.length kids.length obls= .ok m'→iI h' idw mid m' :=by
 refine aeJ func196 68 [.tmp 4] fun hwf=>?_
 simp only[go_sem,aL,aW,ay];intro ip hip;have n1:idw≠ip:=fun e=>by have:=hw.1;rw[e,hip]at this;cases this
 have n2:mid≠ip:=fun e=>by have:=hw.2.1;rw[e,hip]at this;cases this
 have hwb:=hw.keep (Sub.aj (k:=some (.obj [.s id,.b set,.i alg,.sl (tgt.map cE) .no,.sl (rules.map aC) .no,.sl (fF kids) .no,.sl (obls.map aY) .no] 38)) hip);have hk0:Keeps [idw,mid] h (upd h ip (some (.obj [.s id,.b set,.i alg,.sl (tgt.map cE) .no,.sl (rules.map aC) .no,.sl (fF kids) .no,.sl (obls.map aY) .no] 38))):=.of (.aj hip);simp only[go_sem];obtain⟨hb,ehb⟩:∃hb,upd h ip (some (.obj [.s id,.b set,.i alg,.sl (tgt.map cE) .no,.sl (rules.map aC) .no,.sl (fF kids) .no,.sl (obls.map aY) .no] 38))=hb:=⟨_,rfl⟩;have hbip:hb ip=some (.obj [.s id,.b set,.i alg,.sl (tgt.map cE) .no,.sl (rules.map aC) .no,.sl (fF kids) .no,.sl (obls.map aY) .no] 38):=aif;rw[ehb]at hwb hk0⊢;refine(FF idw mid m id hb hwb).mono fun x h2 hx=>?_
 cases hm:jz m id with
 |none=>rw[hm]at hx;obtain⟨rfl,hs⟩:=hx;simp only[go_sem];exact .same (.refl _) ⟨by rw[yQ hm];rfl,hk0.trans (.of hs),fun m' h' =>by rw[yQ hm]at h';cases h'⟩
 |some m1=>
  rw[hm]at hx;obtain⟨rfl,hk,hw2⟩:=hx;have hip2:h2 ip=some (.obj [.s id,.b set,.i alg,.sl (tgt.map cE) .no,.sl (rules.map aC) .no,.sl (fF kids) .no,.sl (obls.map aY) .no] 38):=hk ip _ (by simp[n1.symm,n2.symm]) hbip
  have hkk:=hk0.trans hk;have bad:∀e,fo m id set alg tgt rules.length kids.length obls= .bad e→(.i e:AV)= .v (.int .i64 (fo m id set alg tgt rules.length kids.length obls).err)∧Keeps [idw,mid] h h2∧∀m',fo m id set alg tgt rules.length kids.length obls= .ok m'→iI h2 idw mid m' :=
   fun e he=>⟨by rw[he];rfl,hkk,fun m' h' =>by rw[he]at h';cases h'⟩
  cases d1:decide (alg<1)
  case true=>have e1:=aeC d1;simp only[go_sem,d1,hip2];exact .same (.refl _) (bad 1 (by simp[fo,hm,e1]))
  cases d2:decide (6<alg)
  case true=>have e2:=aeC d2;simp only[go_sem,d1,d2,hip2];exact .same (.refl _) (bad 1 (by simp[fo,hm,e2]))
  have e1:¬(alg<1∨alg>6):=by have:=aeD d1;have:=aeD d2;omega
  have tail:∀(z:Unit),¬(set=true∧rules.length>0∨set=false∧(kids.length>0∨alg=4))→fo m id set alg tgt rules.length kids.length obls=need (me tgt) (need (iN obls) (if rules.length>16∨kids.length>16 then .bad 6 else .ok m1)):=fun _ hh=>by simp only[fo,hm];rw[if_neg e1,if_neg hh]
  cases set
  ·cases d4:decide (0<(kids.length:Int))
   case true=>
    have f4:0<kids.length:=by have:=aeC d4;omega
    simp only[go_sem,d1,d2,hip2,aX,aeA,d4];exact .same (.refl _) (bad 1 (by simp[fo,hm,e1,f4]))
   have g4:¬0<kids.length:=by have:=aeD d4;omega
   cases d5:(alg==4)
   case true=>
    have f5:alg=4:=by simpa using d5
    simp only[go_sem,d1,d2,hip2,aX,aeA,d4,d5];exact .same (.refl _) (bad 1 (by simp[fo,hm,f5]))
   have g5:alg≠4:=by simpa using d5
   simp only[go_sem,d1,d2,hip2,aX,aeA,d4,d5];have e3:=tail () (by simp[g4,g5])
   refine(vR tgt _).pthen ?_;cases t1:(me tgt !=0)
   case true=>exact aka
   have f1:me tgt=0:=by simpa using t1
   simp only[go_sem,t1,hip2];refine(CO obls _).pthen ?_;cases t2:(iN obls !=0)
   case true=>exact aj7
   have f2:iN obls=0:=by simpa using t2
   cases t3:decide (16<(rules.length:Int))
   case true=>exact ajW
   have f3:¬16<rules.length:=by have:=aeD t3;omega
   cases t4:decide (16<(kids.length:Int))
   case true=>exact ajU
   have f4:¬16<kids.length:=by have:=aeD t4;omega
   simp only[go_sem,t2,hip2,aeA,t3,aX,t4];have e4:fo m id false alg tgt rules.length kids.length obls= .ok m1:=by rw[e3];simp[need,f1,f2,f3,f4]
   exact ako
  ·cases d3:decide (0<(rules.length:Int))
   case true=>
    have f3:0<rules.length:=by have:=aeC d3;omega
    simp only[go_sem,d1,d2,hip2,aeA,d3];exact .same (.refl _) (bad 1 (by simp[fo,hm,e1,f3]))
   have g3:¬0<rules.length:=by have:=aeD d3;omega
   simp only[go_sem,d1,d2,hip2,aeA,d3];have e3:=tail () (by simp[g3])
   refine(vR tgt _).pthen ?_;cases t1:(me tgt !=0)
   case true=>exact aka
   have f1:me tgt=0:=by simpa using t1
   simp only[go_sem,t1,hip2];refine(CO obls _).pthen ?_;cases t2:(iN obls !=0)
   case true=>exact aj7
   have f2:iN obls=0:=by simpa using t2
   cases t3:decide (16<(rules.length:Int))
   case true=>exact ajW
   have f3:¬16<rules.length:=by have:=aeD t3;omega
   cases t4:decide (16<(kids.length:Int))
   case true=>exact ajU
   have f4:¬16<kids.length:=by have:=aeD t4;omega
   simp only[go_sem,t2,hip2,aeA,t3,aX,t4];have e4:fo m id true alg tgt rules.length kids.length obls= .ok m1:=by rw[e3];simp[need,f1,f2,f3,f4]
   exact ako
theorem EV(k:bE):(aL k).cells.length=7:=by cases k;rfl
theorem vJ{p:bE}(h:4<d):lf m d p= .bad 6:=by cases p;grind [lf]
theorem vK{id:Txt}{set:Bool}{e:Int}(h:¬4<d)
  (hh:fo m id set alg tgt rules.length kids.length obls= .bad e):lf m d (.mk id set alg tgt rules kids obls)= .bad e:=by
 grind [lf]
theorem zC{id:Txt}{set:Bool}{e:Int}(h:¬4<d)
  (hh:fo m id set alg tgt rules.length kids.length obls= .ok m1) (hr:fG m1 rules= .bad e):lf m d (.mk id set alg tgt rules kids obls)= .bad e:=by
 grind [lf]
theorem BH{m2:eO}{id:Txt}{set:Bool}(h:¬4<d)
  (hh:fo m id set alg tgt rules.length kids.length obls= .ok m1) (hr:fG m1 rules= .ok m2):lf m d (.mk id set alg tgt rules kids obls)=jh m2 (d+1) kids:=by
 grind [lf]
theorem uC:∀(n d:Nat) (m:eO) (p:bE) (e:Int),d+n=5→lf m d p= .bad e→e≠0
 |0,d,m,p,e,hd,h=>by grind [vJ]
 |n+1,d,m,.mk id set alg tgt rules kids obls,e,hd,h=>by
  by_cases h4:4<d
  ·omega
  cases hh:fo m id set alg tgt rules.length kids.length obls with
  |bad e' =>grind [vK,Bj]
  |ok m1=>
   cases hr:fG m1 rules with
   |bad e' =>
    rw[zC h4 hh hr]at h;cases h
    clear hh hd
    induction rules generalizing m1 with
    |nil=>cases hr
    |cons r l ih=>grind [fG,gG,BR]
   |ok m2=>
    rw[BH h4 hh hr]at h;have ih:=fun m p e=>uC n (d+1) m p e aeK
    clear hh hr
    induction kids generalizing m2 with
    |nil=>cases h
    |cons k l ihk=>
     simp only[jh]at h;cases hx:lf m2 (d+1) k with
     |bad x=>rw[hx]at h;cases h;exact ih _ _ _ hx
     |ok m3=>rw[hx]at h;exact ihk m3 h
theorem IM{e:Int}{w:Went}(h:need e w= .ok m):e=0∧w= .ok m:=by grind [need]
theorem MJ{id:Txt}{set:Bool}(h:fo m id set alg tgt nr nk obls= .ok m1):
  jz m id=some m1∧1≤alg∧alg≤6∧(set=true→nr=0)∧(set=false→nk=0∧alg≠4)∧me tgt=0∧iN obls=0∧nr≤16∧nk≤16:=by
 unfold fo at h;split at h
 ·cases h
 split at h
 ·cases h
 split at h
 ·cases h
 obtain⟨h3,h⟩:=IM h;obtain⟨h4,h⟩:=IM h
 grind
theorem Jm:∀(n d:Nat),d+n=5→∀(idw mid:Nat) (m:eO) (p:bE) (h:Heap),iI h idw mid m→
  ai prog 144 [.ptr idw 0,aL p,.i d] h fun x h' =>x= .v (.int .i64 (lf m d p).err)∧Keeps [idw,mid] h h'∧∀m',lf m d p= .ok m'→iI h' idw mid m'
 |n,d,hd,idw,mid,m,.mk id set alg tgt rules kids obls,h,hw=>by
  refine aeJ func144 52 [.tmp 6] fun hwf=>?_
  simp only[go_sem,aL,aW,ay];intro ip hip;have n1:idw≠ip:=fun e=>by have:=hw.1;rw[e,hip]at this;cases this
  have n2:mid≠ip:=fun e=>by have:=hw.2.1;rw[e,hip]at this;cases this
  have hwb:=hw.keep (Sub.aj (k:=some (.obj [.s id,.b set,.i alg,.sl (tgt.map cE) .no,.sl (rules.map aC) .no,.sl (fF kids) .no,.sl (obls.map aY) .no] 38)) hip);have hk0:Keeps [idw,mid] h (upd h ip (some (.obj [.s id,.b set,.i alg,.sl (tgt.map cE) .no,.sl (rules.map aC) .no,.sl (fF kids) .no,.sl (obls.map aY) .no] 38))):=.of (.aj hip);obtain⟨hb,ehb⟩:∃hb,upd h ip (some (.obj [.s id,.b set,.i alg,.sl (tgt.map cE) .no,.sl (rules.map aC) .no,.sl (fF kids) .no,.sl (obls.map aY) .no] 38))=hb:=⟨_,rfl⟩;have hbip:hb ip=some (.obj [.s id,.b set,.i alg,.sl (tgt.map cE) .no,.sl (rules.map aC) .no,.sl (fF kids) .no,.sl (obls.map aY) .no] 38):=aif;rw[ehb]at hwb hk0⊢;cases d0:decide (4<(d:Int))
  case true=>have e0:4<d:=aeL;simp only[go_sem,d0];exact .same (.refl _) ⟨by rw[vJ e0];rfl,hk0,fun m' h' =>by grind [vJ]⟩
  have e0:¬4<d:=aeL;simp only[go_sem,d0,hbip];have hhead:=OI idw mid m id set alg tgt rules kids obls hb hwb;simp only[aL,aW,ay]at hhead;refine hhead.mono fun x h2 ⟨ex,hk,hw2⟩=>?_
  subst ex;have hk2:=hk0.trans hk;cases hh:fo m id set alg tgt rules.length kids.length obls with
  |bad e=>have hne:=Bj hh;have t1:(e !=0)=true:=aeL;simp only[go_sem,Went.err,t1];exact .same (.refl _) ⟨by rw[vK e0 hh];rfl,hk2,fun m' h' =>by grind [vK]⟩
  |ok m1=>
   have hw2:=hw2 _ hh;have hle:=(MJ hh).2.2.2.2.2.2.2;have hip2:=hk ip _ aeL hbip;simp only[go_sem,Went.err,hip2,aeA];refine .intro (fun k ρ h' =>∃(i:Nat) (mi:eO),i≤rules.length∧k=rules.length - i∧fG m1 (rules.take i)= .ok mi∧Keeps [idw,mid] h h'∧iI h' idw mid mi∧
    h' ip=some (.obj [.s id,.b set,.i alg,.sl (tgt.map cE) .no,.sl (rules.map aC) .no,.sl (fF kids) .no,.sl (obls.map aY) .no] 38)∧
    lk ρ 0=some (.ptr idw 0)∧lk ρ 2=some (.i d)∧lk ρ 4=some (.ptr ip 0)∧lk ρ 23=some (.sl (rules.map aC) .no)∧lk ρ 24=some (.i rules.length)∧lk ρ 25=some (.i i)) rules.length ?_ ?_
   ·refine⟨0,m1,aeK,rfl,rfl,hk2,hw2,hip2,?_,?_,?_,?_,?_,?_⟩<;>simp only[go_sem]
   ·rintro k ρ h' ⟨i,mi,hi,rfl,hri,hki,hwi,hipi,r0,r2,r4,r23,r24,r25⟩
    simp only[go_sem,r24,r25];refine .intro (fun e=>?_) (fun e=>?_)
    ·have hlt:i<rules.length:=aeH e
     have w1:IntKind.i64.wrap ((i:Int)+1)=((i+1:Nat):Int):=aeW;simp only[go_sem,r23,r25];refine .at i aeL aeU ?_;simp only[go_sem,aeB,aC];intro ir hir;have hrl:=OK idw mid mi rules[i] _ (hwi.keep (Sub.aj (k:=some (.obj [.s rules[i].id,.b rules[i].deny,aW rules[i].tgt,fC rules[i].cond,ay rules[i].obls] 217)) hir));simp only[aC]at hrl;simp only[go_sem,r0];refine hrl.mono fun x h3 ⟨ex,hk3,hw3⟩=>?_
     subst ex;have hk4:=(hki.trans (.of (Sub.aj hir))).trans hk3;have hip3:=hk3 ip _ aeL ((Sub.aj hir) _ _ hipi);cases hx:gG mi rules[i]with
     |bad x=>
      have t1:(x !=0)=true:=by grind [BR]
      simp only[go_sem,Went.err,t1];have hp:=zC (d:=d) (kids:=kids) e0 hh (Fe hlt hri hx);exact .same (.refl _) ⟨by rw[hp];rfl,hk4,fun m' h' =>aeL⟩
     |ok m3=>
      simp only[go_sem,r25,Went.err,w1];refine⟨_,?_,i+1,m3,aeK,rfl,by grind [xe],hk4,hw3 _ hx,hip3,?_,?_,?_,?_,?_,?_⟩
      ·omega
      all_goals simp only[go_sem,r0,r2,r4,r23,r24]
    ·have hge:i=rules.length:=by grind
     subst hge;rw[List.take_length]at hri;have hpk:=BH (d:=d) (kids:=kids) e0 hh hri;simp only[go_sem,r4,hipi,aX,aeA];refine .intro (fun k ρ h' =>∃(i:Nat) (mj:eO),i≤kids.length∧k=kids.length - i∧jh mi (d+1) (kids.take i)= .ok mj∧Keeps [idw,mid] h h'∧iI h' idw mid mj∧
      lk ρ 0=some (.ptr idw 0)∧lk ρ 2=some (.i d)∧lk ρ 37=some (.sl (kids.map aL) .no)∧lk ρ 38=some (.i kids.length)∧lk ρ 39=some (.i i)) kids.length ?_ ?_
     ·refine⟨0,mi,aeK,rfl,rfl,hki,hwi,?_,?_,?_,?_,?_⟩<;>simp only[go_sem,r0,r2]
     ·rintro k ρ h' ⟨i,mj,hi,rfl,hkj,hki,hwi,r0,r2,r37,r38,r39⟩
      simp only[go_sem,r38,r39];refine .intro (fun e=>?_) (fun e=>?_)
      ·have hlt:i<kids.length:=aeH e
       have w1:IntKind.i64.wrap ((i:Int)+1)=((i+1:Nat):Int):=aeW;have w2:IntKind.i64.wrap ((d:Int)+1)=((d+1:Nat):Int):=aeW;obtain⟨n',rfl⟩:∃n',n=n' +1:=⟨n - 1,aeK⟩;have hrec:=Jm n' (d+1) aeK idw mid mj kids[i];cases hki' :kids[i]with
       |mk kid kset kalg ktgt krules kkids kobls=>
       rw[hki']at hrec;simp only[aL,aW,ay]at hrec;simp only[go_sem,r37,r39];refine .at i aeL (by grind [EV]) ?_
       simp only[go_sem,aeB,hki',aL,aW,ay];intro ir hir;simp only[go_sem,r0,r2,w2];refine(hrec _ (hwi.keep (Sub.aj hir))).mono fun x h3 ⟨ex,hk3,hw3⟩=>?_
       subst ex;have hk4:=(hki.trans (.of (Sub.aj hir))).trans hk3;cases hx:lf mj (d+1) (.mk kid kset kalg ktgt krules kkids kobls)with
       |bad x=>
        have t1:(x !=0)=true:=by simpa using uC n' (d+1) _ _ _ aeK hx
        simp only[go_sem,Went.err,t1];have hp:=GM hlt hkj (by rw[hki'];exact hx)
        exact .same (.refl _) ⟨by rw[hpk,hp];rfl,hk4,fun m' h' =>aeL⟩
       |ok m3=>
        simp only[go_sem,r39,Went.err,w1];refine⟨_,?_,i+1,m3,aeK,rfl,by grind [yX],hk4,hw3 _ hx,?_,?_,?_,?_,?_⟩
        ·omega
        all_goals simp only[go_sem,r0,r2,r37,r38]
      ·have hge:i=kids.length:=by grind
       subst hge;rw[List.take_length]at hkj;simp only[go_sem];exact .same (.refl _) ⟨by rw[hpk,hkj];rfl,hki,fun m' h' =>aeL⟩
theorem zp{i:Nat}{b:Blk}(e:upd h i (some b) j=none):j≠i:=fun hh=>by subst hh;rw[ah]at e;cases e
theorem uL(p:bE)(h:Heap):ai prog 83 [aL p] h fun r h' =>r= .i (gL p)∧h' =h:=by
 cases p with
 |mk id set alg tgt rules kids obls=>
 refine aeJ func83 10 [.tmp 2] fun hwf=>?_
 simp only[go_sem,aL,aW,ay];intro ip hip;simp only[go_sem];intro im him;simp only[go_sem];intro iw hiw;have n1:=zp him;have n2:=zp hiw;have hiw1:=hiw;rw[ag _ _ n2]at hiw1;have n3:=zp hiw1;have s1:Ab.Sub h (upd (upd (upd h ip (some (.obj [.s id,.b set,.i alg,.sl (tgt.map cE) .no,.sl (rules.map aC) .no,.sl (fF kids) .no,.sl (obls.map aY) .no] 38))) im (some (.mp []))) iw (some (.obj [.mp im,.i 0] 238))):=
  ((Sub.aj hip).trans (.aj him)).trans (.aj hiw)
 obtain⟨h3,e3⟩:∃h3,upd (upd (upd h ip (some (.obj [.s id,.b set,.i alg,.sl (tgt.map cE) .no,.sl (rules.map aC) .no,.sl (fF kids) .no,.sl (obls.map aY) .no] 38))) im (some (.mp []))) iw (some (.obj [.mp im,.i 0] 238))=h3:=⟨_,rfl⟩;have g1:h3 ip=some (.obj [.s id,.b set,.i alg,.sl (tgt.map cE) .no,.sl (rules.map aC) .no,.sl (fF kids) .no,.sl (obls.map aY) .no] 38):=by rw[←e3,ag _ _ n3.symm,ag _ _ n1.symm,ah]
 have g2:iI h3 iw im ⟨[],0⟩:=by refine⟨by rw[←e3,ah];rfl,by rw[←e3,ag _ _ n2.symm,ah];rfl,fun l hl=>aeL,aeO⟩
 have hi0:h im=none:=afq;have hw0:h iw=none:=afq;simp only[go_sem];rw[e3]at s1⊢;simp only[go_sem,g1];have hp:=Jm 4 1 rfl iw im ⟨[],0⟩ (.mk id set alg tgt rules kids obls) h3 g2;refine hp.mono fun x h4 ⟨ex,hk,_⟩=>?_
 subst ex;simp only[go_sem];refine .mk _ (.refl _) (fun j k hj=>?_) ⟨rfl,rfl⟩
 refine hk j k ?_ (s1 _ _ hj)
 grind
def kH(x:bE×Int×Int):AV:=.tup [aL x.1,.i x.2.1,.i x.2.2]
theorem jM(a b c:AV)(h:Weak a b)(d:AV):Weak (.tup [a,c,d]) (.tup [b,c,d]):=.tup _ _ rfl fun i h1 h2=>by
 rcases i with _|_|_|i
 ·exact h
 ·exact af8
 ·exact af8
 grind
theorem zx(s:Txt)(h:Heap)(he:iB h):ai prog 33 [.s s] h fun r h' =>r=kH (aR s)∧h' =h:=by
 refine aeJ func33 61 [.cell 2 38,.tmp 3,.tmp 4] fun hwf=>?_
 simp only[go_sem];intro i2 hi2;simp only[go_sem];refine(ym s _ (he.sub (.aj hi2))).pthen ?_;cases el:pO s with
 |bad e a=>
  have e1:=uk el;have d1:(e !=0)=true:=by grind
  have efin:aR s=(pg,e,a):=by grind [aR]
  simp only[go_sem,GQ,d1];rw[efin];exact .mk (h' :=h) (kH (pg,e,a)) (jM _ _ _ (gC _) _) (.aj hi2) ⟨rfl,rfl⟩
 |ok ts=>
  have efin:aR s=zw s ts:=by grind [aR]
  have hw:=Lx el 0 0 0;have hpol:=EX 3 1 rfl ⟨ts,0,0,0,0⟩ hw (Nat.zero_le _);have hap:=yf 4 ⟨ts,0,0,0,0⟩ hw;obtain⟨⟨⟨pid,pset,palg,ptgt,prules,pkids,pobls⟩,st1⟩,ep⟩:∃x,gR 4 ⟨ts,0,0,0,0⟩=x:=⟨_,rfl⟩;rw[show 3+1=4 from rfl,ep]at hpol
  rw[ep]at hap;simp only[aL]at hpol hap;simp only[zw,ep]at efin;simp only[go_sem,GQ];intro i8 hi8;have n8:=aH hi8;have m82:¬i8=i2:=n8;have m28:¬i2=i8:=fun e=>n8 e.symm
  have hh8:h i8=none:=afq;simp only[go_sem];refine hpol.go (ah ..) ?_;rw[eD];simp only[go_sem];intro i9 hi9;have n9:=aH hi9;have hi9' :=hi9;rw[ag _ _ n9]at hi9';have n92:=aH hi9';have m92:¬i9=i2:=n92;have m29:¬i2=i9:=fun e=>n92 e.symm
  have m98:¬i9=i8:=n9;have m89:¬i8=i9:=fun e=>n9 e.symm
  have hh9:h i9=none:=afq;have c9:∀(f:Heap) (x y:Option Blk),upd (upd f i8 x) i9 y=upd (upd f i9 y) i8 x:=fun f x y=>cB f x y n9.symm
  simp only[go_sem,c9,ak,m98];refine(mJ st1 hap.1).run ?_;have subs:∀x y z,Sub h (upd (upd (upd h i2 x) i9 y) i8 z):=fun x y z=>((Sub.aj hi2).put hh9 _).put hh8 _
  cases d1:((aM st1).kind !=7)
  ·have k1:(aM st1).kind=7:=by grind
   have e2:(if(aM st1).kind=7 then st1 else br st1)=st1:=if_pos k1
   simp only[go_sem,fH,d1];cases db:((st1).bad==0)
   ·have eb:(st1).bad≠0:=by grind
    simp only[go_sem,PO,db];have eend:qx s (.mk pid pset palg ptgt prules pkids pobls,st1)=st1:=by simp_all [qx,if_neg]
    have hbb:(st1).bad≠0:=eb;have dn:((st1).bad !=0)=true:=aeL;simp only[go_sem,dn];refine .calls (hm1 i8 (PO (st1))) [0,1,2,3,4,5,6,7,8,9,10,11] (.hm1 (ah ..)) aeN rfl ?_;simp only[go_sem,ak,m28,m29,PO,gy];refine⟨.hm1 ((ag _ _ n8).trans (ah ..)),?_⟩;have efin2:aR s=(pg,(st1).bad,(st1).place):=aeL;rw[efin2];exact .mk (h' :=h) (kH (pg,(st1).bad,(st1).place)) (jM _ _ _ (gC _) _) (Sub.put (subs _ _ _) hi2 _) ⟨rfl,rfl⟩
   ·have eb:(st1).bad=0:=by grind
    simp only[go_sem,ak,m98,PO,db];refine(uL (.mk pid pset palg ptgt prules pkids pobls) _).pthen ?_;cases dr:(gL (.mk pid pset palg ptgt prules pkids pobls) !=0)
    ·have er:gL (.mk pid pset palg ptgt prules pkids pobls)=0:=by grind
     have dn:((st1).bad !=0)=false:=aeL;simp only[go_sem,ak,m28,m29,m98,dr,dn];have eend:qx s (.mk pid pset palg ptgt prules pkids pobls,st1)=st1:=by simp_all [qx,if_neg]
     exact akA
    ·have er:gL (.mk pid pset palg ptgt prules pkids pobls)≠0:=by grind
     simp only[go_sem,dr];refine(rR (st1) 5 s.length).run ?_;have eend:qx s (.mk pid pset palg ptgt prules pkids pobls,st1)=bJ (st1) 5 s.length:=by simp_all [qx,if_pos]
     have hwb:bJ (st1) 5 s.length= {(st1)with bad:=5,place:=s.length}:=by rw[bJ,if_pos eb]
     have hbb:(bJ (st1) 5 s.length).bad≠0:=aeL;have dn:((bJ (st1) 5 s.length).bad !=0)=true:=aeL;simp only[go_sem,PO,dn];refine .calls (hm1 i8 (PO (bJ (st1) 5 s.length))) [0,1,2,3,4,5,6,7,8,9,10,11] (.hm1 (ah ..)) aeN rfl ?_;simp only[go_sem,ak,m28,m29,PO,gy];refine⟨.hm1 ((ag _ _ n8).trans (ah ..)),?_⟩;have efin2:aR s=(pg,(bJ (st1) 5 s.length).bad,(bJ (st1) 5 s.length).place):=aeL;rw[efin2];exact .mk (h' :=h) (kH (pg,(bJ (st1) 5 s.length).bad,(bJ (st1) 5 s.length).place)) (jM _ _ _ (gC _) _) (Sub.put (subs _ _ _) hi2 _) ⟨rfl,rfl⟩
  ·have k1:(aM st1).kind≠7:=by grind
   have e2:(if(aM st1).kind=7 then st1 else br st1)=br st1:=if_neg k1
   simp only[go_sem,fH,d1];refine(mb st1 hap.1).run ?_;simp only[go_sem];cases db:((br st1).bad==0)
   ·have eb:(br st1).bad≠0:=by grind
    simp only[go_sem,PO,db];have eend:qx s (.mk pid pset palg ptgt prules pkids pobls,st1)=br st1:=by simp_all [qx,if_neg]
    have hbb:(br st1).bad≠0:=eb;have dn:((br st1).bad !=0)=true:=aeL;simp only[go_sem,dn];refine .calls (hm1 i8 (PO (br st1))) [0,1,2,3,4,5,6,7,8,9,10,11] (.hm1 (ah ..)) aeN rfl ?_;simp only[go_sem,ak,m28,m29,PO,gy];refine⟨.hm1 ((ag _ _ n8).trans (ah ..)),?_⟩;have efin2:aR s=(pg,(br st1).bad,(br st1).place):=aeL;rw[efin2];exact .mk (h' :=h) (kH (pg,(br st1).bad,(br st1).place)) (jM _ _ _ (gC _) _) (Sub.put (subs _ _ _) hi2 _) ⟨rfl,rfl⟩
   ·have eb:(br st1).bad=0:=by grind
    simp only[go_sem,ak,m98,PO,db];refine(uL (.mk pid pset palg ptgt prules pkids pobls) _).pthen ?_;cases dr:(gL (.mk pid pset palg ptgt prules pkids pobls) !=0)
    ·have er:gL (.mk pid pset palg ptgt prules pkids pobls)=0:=by grind
     have dn:((br st1).bad !=0)=false:=aeL;simp only[go_sem,ak,m28,m29,m98,dr,dn];have eend:qx s (.mk pid pset palg ptgt prules pkids pobls,st1)=br st1:=by simp_all [qx,if_neg]
     exact akA
    ·have er:gL (.mk pid pset palg ptgt prules pkids pobls)≠0:=by grind
     simp only[go_sem,dr];refine(rR (br st1) 5 s.length).run ?_;have eend:qx s (.mk pid pset palg ptgt prules pkids pobls,st1)=bJ (br st1) 5 s.length:=by simp_all [qx,if_pos]
     have hwb:bJ (br st1) 5 s.length= {(br st1)with bad:=5,place:=s.length}:=by rw[bJ,if_pos eb]
     have hbb:(bJ (br st1) 5 s.length).bad≠0:=aeL;have dn:((bJ (br st1) 5 s.length).bad !=0)=true:=aeL;simp only[go_sem,PO,dn];refine .calls (hm1 i8 (PO (bJ (br st1) 5 s.length))) [0,1,2,3,4,5,6,7,8,9,10,11] (.hm1 (ah ..)) aeN rfl ?_;simp only[go_sem,ak,m28,m29,PO,gy];refine⟨.hm1 ((ag _ _ n8).trans (ah ..)),?_⟩;have efin2:aR s=(pg,(bJ (br st1) 5 s.length).bad,(bJ (br st1) 5 s.length).place):=aeL;rw[efin2];exact .mk (h' :=h) (kH (pg,(bJ (br st1) 5 s.length).bad,(bJ (br st1) 5 s.length).place)) (jM _ _ _ (gC _) _) (Sub.put (subs _ _ _) hi2 _) ⟨rfl,rfl⟩
end Go.Proofs.YtokahfmoollblaaGreatDoor
namespace Go.Ab
open Go
theorem OwE.keepb{tb:TypeId}{h0 h h' :Heap}{sz:Nat}{y:AV}{xs:List AV}(hw:OwE tb h0 h sz y xs)(hk:∀id,h0 id=Option.none→h id≠Option.none→h' id=h id):OwE tb h0 h' sz y xs:=
 hw.keep fun id e=>hk id (hw.nid e).1 (hw.nid e).2.1
end Go.Ab
namespace Go.Proofs.YtokahfmoollblaaGreatDoor
open Go Go.Ab Go.Bf Tryz
variable {h0 h h' g:Heap}{ys xs:List AV}{x y:AV}{c:aN}{cs:List aN}{i0:Nat}{s:an}
theorem fA.keepb(hm:fA h0 h ys x c)(hk:∀id,h0 id=none→h id≠none→h' id=h id):fA h0 h' ys x c:=by obtain⟨f,l,e,a,b,c,d⟩:=hm;exact⟨f,l,e,a.keepb hk,b.keepb hk,c,d⟩
theorem mF.keepb(ho:mF h0 h ys y cs i0)(hk:∀id,h0 id=none→h id≠none→h' id=h id):mF h0 h' ys y cs i0:=by obtain⟨xs,a,b,c,d⟩:=ho;exact⟨xs,a.keepb hk,b,c,fun h1 h2=>(d h1 h2).keepb hk⟩
theorem tG.keepb(ho:tG h0 h x s i0)(hk:∀id,h0 id=none→h id≠none→h' id=h id):tG h0 h' x s i0:=by obtain⟨y1,y2,y3,y4,e,a,b,c,d,r⟩:=ho;exact⟨y1,y2,y3,y4,e,a.keepb hk,b.keepb hk,c.keepb hk,d.keepb hk,r⟩
theorem mF.keepx{z:AV}(ho:mF h0 h ys y cs i0)(hz:z∈ys)(hy:apart y z)(hk:∀id,h0 id=none→h id≠none→nid z≠some id→h' id=h id):mF h0 h' ys y cs i0:=by
 obtain⟨xs,a,b,c,d⟩:=ho;refine⟨xs,a.keep fun id e=>hk id (a.nid e).1 (a.nid e).2.1 (hy id e),b,c,fun h1 h2=>?_⟩
 obtain⟨f,l,e,of,ol,hap,hys⟩:=d h1 h2;exact⟨f,l,e,of.keep fun id e=>hk id (of.nid e).1 (of.nid e).2.1 ((hys z hz).1 id e),ol.keep fun id e=>hk id (ol.nid e).1 (ol.nid e).2.1 ((hys z hz).2 id e),hap,hys⟩
theorem fA.frz(hm:fA h0 h ys x c)(hg:Ab.Sub g h0):Frz g h x (bV c):=by
 obtain⟨f,l,rfl,a,b,_⟩:=hm;refine .agg _ _ rfl fun j h1 h2=>?_
 rcases j with _|_|_|_|_|j
 ·exact ae5
 ·exact ae5
 ·exact ae5
 ·exact(a.less hg).frz (bn (fun _=>rfl) _)
 ·exact(b.less hg).frz (bn (fun _=>rfl) _)
 ·simp at h1;omega
theorem J6(hw:OwE 111 h0 h 5 y xs)(hg:Ab.Sub g h0)(hn:xs.length=cs.length)(hx:∀j (h1:j<xs.length) (h2:j<cs.length),Frz g h xs[j] (bV cs[j])):Frz g h y (fM cs):=by
 rcases hw with⟨rfl,rfl⟩|⟨id,h1,hw⟩
 ·have:cs= []:=by grind
  subst this;exact .sl [] [] .full rfl aeK aeR
 ·have hsz:∀i (h1:i<xs.length),xs[i].cells.length=5:=fun i h1=>hw.rd.1 _ aeR
  refine hw.frz (hg.none h1) aeL (fun i h1 h2=>by rw[hsz i h1,aeB];rfl) fun i h1 h2 j h3 h4=>?_
  have h2' :i<cs.length:=aeK;have hf:=hx i h1 h2';have key:∀x y:AV,Frz g h x y→bA y=true→cN y=true→∀j (h3:j<x.cells.length) (h4:j<y.cells.length),Frz g h x.cells[j] y.cells[j]:=by
   intro x y hf ha hp j h3 h4;cases hf with
   |keep x hx=>exact .pure (nY hp _ (aeF h4))
   |agg xs ys hn hr=>exact hr j h3 h4
   |_=>cases ha
  have e:(cs.map bV)[i]'h2=bV cs[i]:=aeR;simp only[e]at h4⊢;exact key _ _ hf rfl (by simp only[bV,mY,cN,gF,gI,sW,Bool.and_true,Bool.true_and,Bool.and_eq_true];exact⟨bn (fun _=>rfl) _,bn (fun _=>rfl) _⟩) j h3 h4
theorem mF.frz(ho:mF h0 h ys y cs i0)(hg:Ab.Sub g h0):Frz g h y (fM cs):=by
 obtain⟨xs,a,b,c,d⟩:=ho;refine J6 a hg b fun j h1 h2=>?_
 by_cases e:j=i0
 ·subst e;exact(d h1 h2).frz hg
 grind [D5]
theorem NO(p:bE):∀x∈gq p,Frz g h x x:=fun x hx=>by refine .pure (nY (x:=aL p) (EZ p) x ?_);rw[Ql];exact hx
theorem D6(hx:∀x∈xs,Frz g h x x):∀i (h1:i<xs.length) (h2:i<xs.length),Frz g h xs[i] xs[i]:=fun i h1 _=>hx _ (aeF h1)
theorem Iu{ps bs cs ds:List AV}(n1:ps.length=bs.length)(n2:cs.length=ds.length)(h1:∀i (a:i<ps.length) (b:i<bs.length),Frz g h ps[i] bs[i])(h2:∀i (a:i<cs.length) (b:i<ds.length),Frz g h cs[i] ds[i]):
  ∀i (a:i<(ps++cs).length) (b:i<(bs++ds).length),Frz g h (ps++cs)[i] (bs++ds)[i]:=fun i a b=>by
 by_cases e:i<ps.length
 ·rw[List.getElem_append_left e,List.getElem_append_left aeK];exact h1 i e aeK
 ·rw[List.getElem_append_right aeK,List.getElem_append_right aeK]
  simp only[aeE]at a b;have:=h2 (i - ps.length) aeK aeK;simp only[n1]at this⊢;exact afv
theorem vp{y1 y2 y3 y4:AV}(a:Frz g h y1 (fM s.cases))(b:Frz g h y2 (jV s.reviews))(c:Frz g h y3 (kE s.notices))(d:Frz g h y4 (dW s.roles)):
  Frz g h (.agg ([.i s.tick,y1,y2,y3,y4]++gq s.policy++ [.i s.version])) (bY s):=by
 refine .agg _ _ aeR (Iu aeR rfl (Iu rfl rfl (fun i h1 h2=>?_) (D6 (NO _))) (D6 fun x hx=>by rw[List.mem_singleton.1 hx];exact .pure rfl))
 rcases i with _|_|_|_|_|i
 ·exact ae5
 ·exact a
 ·exact b
 ·exact c
 ·exact d
 ·simp at h1;omega
theorem mF.rd(ho:mF h0 h ys y cs i0):Am h y cs:=by
 obtain⟨xs,a,b,c,d⟩:=ho;refine⟨xs,a.rd,b,fun j h1 h2=>?_⟩
 by_cases e:j=i0
 ·subst e
  obtain⟨f,l,e,a,b,_⟩:=d h1 h2;exact⟨f,l,e,a.rd,b.rd⟩
 grind [rdC]
theorem tG.rd(ho:tG h0 h x s i0):RdS h x s:=by obtain⟨y1,y2,y3,y4,rfl,a,b,c,d,r⟩:=ho;exact⟨y1,y2,y3,y4,rfl,a.rd,b.rd,c.rd,d.rd⟩
end Go.Proofs.YtokahfmoollblaaGreatDoor
namespace Go.Ab
open Go
theorem OwE.bN{tb:TypeId}{h0 h1 h:Heap}{sz:Nat}{y:AV}{xs:List AV}(hw:OwE tb h1 h sz y xs)(hs:∀i,h1 i=Option.none→h0 i=Option.none):OwE tb h0 h sz y xs:=by
 rcases hw with hw|⟨id,e,hw⟩
 ·exact aiL
 ·exact .inr ⟨id,hs _ e,hw⟩
end Go.Ab
namespace Go.Proofs.YtokahfmoollblaaGreatDoor
open Go Go.Ab Go.Bf Tryz
variable {g h0 h K:Heap}{ys ys' xs:List AV}{x y z r X:AV}{c C:aN}{cs A B:List aN}{i0 j:Nat}{s S:an}
theorem fA.bN(hm:fA h0 h ys x c)(hg:∀i,h0 i=none→g i=none):fA g h ys x c:=by obtain⟨f,l,e,a,b,c⟩:=hm;exact⟨f,l,e,a.bN hg,b.bN hg,c⟩
theorem mF.bN(ho:mF h0 h ys y cs i0)(hg:∀i,h0 i=none→g i=none):mF g h ys y cs i0:=by obtain⟨xs,a,b,c,d⟩:=ho;exact⟨xs,a.bN hg,b,c,fun h1 h2=>(d h1 h2).bN hg⟩
theorem tG.bN(ho:tG h0 h x s i0)(hg:∀i,h0 i=none→g i=none):tG g h x s i0:=by obtain⟨y1,y2,y3,y4,e,a,b,c,d,r⟩:=ho;exact⟨y1,y2,y3,y4,e,a.bN hg,b.bN hg,c.bN hg,d.bN hg,r⟩
theorem pU{y1 y2 y3 y4:AV}{tk ver palg:Int}{pid:Txt}{pset:Bool}{ptgt:gp}{prules:List cV}{pkids:List bE}{pobls:List cC}(h1:S.tick=tk)(h2:S.policy= .mk pid pset palg ptgt prules pkids pobls)(h3:S.version=ver)
  (a:mF g K [y1,y2,y3,y4] y1 S.cases j) (b:OwE 132 g K 7 y2 (S.reviews.map gz)) (c:OwE 135 g K 3 y3 (S.notices.map kD)) (d:OwE 138 g K 2 y4 (S.roles.map dj)) (ap:apart y1 y2∧apart y1 y3∧apart y1 y4∧apart y2 y3∧apart y2 y4∧apart y3 y4):
  tG g K (.agg [.i tk,y1,y2,y3,y4,.s pid,.b pset,.i palg,aW ptgt,.sl (prules.map aC) .no,.sl (pkids.map aL) .no,ay pobls,.i ver]) S j:=by
 refine⟨y1,y2,y3,y4,?_,a,b,c,d,ap⟩;rw[h1,h2,h3,show gq (.mk pid pset palg ptgt prules pkids pobls)= [.s pid,.b pset,.i palg,aW ptgt,.sl (prules.map aC) .no,.sl (pkids.map aL) .no,ay pobls] by simp[gq,aX]]
 rfl
theorem mF.move{h':Heap}(ho:mF h0 h ys y cs i0)(hz:z∈ys)(hy:apart y z)(hk:∀id,h0 id=none→h id≠none→nid z≠some id→h' id=h id)
  (hr:∀y'∈ys',∀k,nid y' =some k→h k=none∨∃w∈ys,nid w=some k):mF h0 h' ys' y cs i0:=by
 obtain⟨xs,a,b,c,d⟩:=ho;refine⟨xs,a.keep fun id e=>hk id (a.nid e).1 (a.nid e).2.1 (hy id e),b,c,fun h1 h2=>?_⟩
 obtain⟨f,l,e,of,ol,hap,hys⟩:=d h1 h2;refine⟨f,l,e,of.keep fun id e=>hk id (of.nid e).1 (of.nid e).2.1 ((hys z hz).1 id e),ol.keep fun id e=>hk id (ol.nid e).1 (ol.nid e).2.1 ((hys z hz).2 id e),hap,fun w hw=>⟨fun k e1 e2=>?_,fun k e1 e2=>?_⟩⟩
 ·rcases hr w hw k e2 with hn|⟨v,hv,e3⟩
  ·exact(of.nid e1).2.1 hn
  ·exact(hys v hv).1 k e1 e3
 ·rcases hr w hw k e2 with hn|⟨v,hv,e3⟩
  ·exact(ol.nid e1).2.1 hn
  ·exact(hys v hv).2 k e1 e3
theorem Qk(hj:A.length=j)(hw:OwE 111 g K 5 r (A.map bV++([X]++B.map bV)))(hX:fA g K ys X C):mF g K ys r (A++ [C]++B) j:=by
 refine⟨_,hw,aeR,fun k h1 h2 hk=>?_,fun h1 h2=>?_⟩
 ·grind
 grind
theorem CQ{F:aN→aN}(hw:OwE 111 g K 5 z (xs.set j X))(hn:xs.length=cs.length)(hlo:∀k (h1:k<xs.length) (h2:k<cs.length),k≠j→xs[k]=bV cs[k])(hX:∀h:j<cs.length,fA g K ys X (F cs[j])):mF g K ys z (cs.modify j F) j:=by
 refine⟨_,hw,aeL,fun k h1 h2 e=>?_,fun h1 h2=>?_⟩
 ·grind
 grind
theorem tZ(hj:j<xs.length)(x:AV):au (xs.set j x)=au (xs.take j)++(x.cells++au (xs.drop (j+1))):=by simp_all [List.set_eq_take_append_cons_drop,if_pos,mO,au]
theorem Cv(hj:j<xs.length):au xs=au (xs.take j)++(xs[j].cells++au (xs.drop (j+1))):=by grind [tZ,List.set_getElem_self]
theorem zI{o:OpD}(h:bL s o=0)(hk:o.kind=3∨o.kind=4):cj s.cases o.case=true:=by grind [cj,bL,bX]
theorem Ms(hb:RdS g x s)(o:OpD)(hf:Few s)(hp:mK 1 s.policy)(hr:i64 o.review)(ht:i64 s.tick)(hver:0≤s.version∧s.version≤1000000)(he:iB g):
  ai prog 46 [x,opA o] g fun r h' =>Ab.Sub g h'∧∃j,tG g h' r (dR aR s o) j∧(bL s o=0→j=findD s.cases o.case):=by
 obtain⟨i0,ei0⟩:∃i0,(if o.kind=1 then s.cases.length else findD s.cases o.case)=i0:=⟨_,rfl⟩
 have hown:=fun(G:Heap) (hG:Ab.Sub g G)=>Tu (hb.sub hG) i0 hf hp
 have hrdy:=fun(G:Heap) (hG:Ab.Sub g G)=>E9 (hb.sub hG) o hf hr ht
 obtain⟨y1,y2,y3,y4,rfl,hb'⟩:=hb;cases hpp:s.policy with
 |mk pid pset palg ptgt prules pkids pobls=>
 have hcC:gq (.mk pid pset palg ptgt prules pkids pobls)= [.s pid,.v (.bool pset),.v (.int .i64 palg),aW ptgt,.sl (prules.map aC) .no,.sl (pkids.map aL) .no,ay pobls]:=ahS;rw[hpp,hcC]at hown hrdy;simp only[opA,opC,List.cons_append,List.nil_append]at hown hrdy;refine aeJ func46 138 [.cell 4 40] fun hwf=>?_
 simp only[go_sem,hcC,opA,opC,List.cons_append,List.nil_append];intro i2 h2;simp only[go_sem];intro i3 h3;have n32:=aH h3;have h3' :=aB h3;simp only[go_sem];intro i4 h4;have n43:=aH h4;have h4a:=aB h4;have n42:=aH h4a;have h4' :=aB h4a;simp only[go_sem,ak,n32.symm,n42.symm];obtain⟨H,eH⟩:∃H,upd (upd (upd g i2 (some (.obj [.v (.int .i64 s.tick),y1,y2,y3,y4,.s pid,.v (.bool pset),.v (.int .i64 palg),aW ptgt,.sl (prules.map aC) .no,.sl (pkids.map aL) .no,ay pobls,.v (.int .i64 s.version)] 40))) i3 (some (.obj (opC o) 46))) i4 (some (.obj [.v (.int .i64 0),.sl [] .full,.sl [] .full,.sl [] .full,.sl [] .full,.s [],.v (.bool false),.v (.int .i64 0),.sl [] .full,.sl [] .full,.sl [] .full,.sl [] .full,.v (.int .i64 0)] 40))=H:=⟨_,rfl⟩;have hH:Ab.Sub g H:=by rw[←eH];exact(((Sub.refl g).put h2 _).put h3' _).put h4' _
 have g2:H i2=some (.obj [.v (.int .i64 s.tick),y1,y2,y3,y4,.s pid,.v (.bool pset),.v (.int .i64 palg),aW ptgt,.sl (prules.map aC) .no,.sl (pkids.map aL) .no,ay pobls,.v (.int .i64 s.version)] 40):=by rw[←eH,ag _ _ n42.symm,ag _ _ n32.symm,ah]
 have g3:H i3=some (.obj (opC o) 46):=by rw[←eH,ag _ _ n43.symm,ah]
 have g4:H i4=some (.obj [.v (.int .i64 0),.sl [] .full,.sl [] .full,.sl [] .full,.sl [] .full,.s [],.v (.bool false),.v (.int .i64 0),.sl [] .full,.sl [] .full,.sl [] .full,.sl [] .full,.v (.int .i64 0)] 40):=agh;simp only[opC]at eH g3;rw[eH];clear eH;refine(hown H hH).mono fun r H1 ⟨hS,s1⟩=>?_
 obtain⟨z1,z2,z3,z4,er,hS1⟩:=id hS;subst er;rw[hpp,hcC]at hS⊢;obtain⟨hC,w2,w3,w4,a12,a13,a14,a23,a24,a34⟩:=hS1;obtain⟨xs,w1,hnx,hlo,hmy⟩:=id hC;simp only[go_sem,List.cons_append,List.nil_append];intro i5 h5;simp only[go_sem];have q2:=s1 _ _ g2;have q3:=s1 _ _ g3;have q4:=s1 _ _ g4;have n52:i2≠i5:=fun e=>by rw[←e,q2]at h5;cases h5
 have n53:i3≠i5:=fun e=>by rw[←e,q3]at h5;cases h5
 have n54:i4≠i5:=fun e=>by rw[←e,q4]at h5;cases h5
 obtain⟨K,eK⟩:∃K,upd H1 i5 (some (.obj [.v (.int .i64 s.tick),z1,z2,z3,z4,.s pid,.v (.bool pset),.v (.int .i64 palg),aW ptgt,.sl (prules.map aC) .no,.sl (pkids.map aL) .no,ay pobls,.v (.int .i64 s.version)] 40))=K:=⟨_,rfl⟩;have sK:Ab.Sub H1 K:=by rw[←eK];exact .aj h5
 have k5:K i5=some (.obj [.v (.int .i64 s.tick),z1,z2,z3,z4,.s pid,.v (.bool pset),.v (.int .i64 palg),aW ptgt,.sl (prules.map aC) .no,.sl (pkids.map aL) .no,ay pobls,.v (.int .i64 s.version)] 40):=by rw[←eK,ah]
 rw[eK];have hz5:∀k,H k=none→H1 k≠none→k≠i5:=fun k _ hk e=>hk (by rw[e];exact h5)
 have k2:=sK _ _ q2;have k3:=sK _ _ q3;have k4:=sK _ _ q4;clear eK;have sg:Ab.Sub g K:=hH.trans (s1.trans sK);simp only[go_sem,k2,k3];refine(hrdy K sg).pthen ?_;have g5:g i5=none:=(hH.trans s1).none h5;have kK:∀k,H1 k≠none→K k=H1 k:=fun k hk=>by
  cases e:H1 k with
  |none=>exact(hk e).elim
  |some b=>exact sK _ _ e
 have hz4:∀k,H k=none→k≠i4:=fun k hk e=>by rw[e,g4]at hk;cases hk
 by_cases p0:bL s o=0
 ·have d0:(bL s o !=0)=false:=by simp[p0]
  simp only[go_sem,d0];simp only[go_sem,k5,k3];have hSK:tG H K (.agg ([.v (.int .i64 s.tick),z1,z2,z3,z4]++gq s.policy++ [.v (.int .i64 s.version)])) s i0:=by rw[hpp,hcC];exact hS.keepb fun k _ hk=>kK k hk
  have hfi:=Cu hSK.rd o.case hf.cases;rw[hpp,hcC]at hfi;simp only[List.cons_append,List.nil_append]at hfi;refine hfi.pthen ?_;simp only[go_sem,k3];have hform:dH o=true:=by
   cases e:dH o
   ·simp[bL,e]at p0
   ·rfl
  have hdone:dR aR s o=doD aR s o:=by simp[dR,p0]
  rw[hdone]
  by_cases p1:o.kind=1
  ·have k1:(o.kind==1)=true:=by simp[p1]
   simp only[go_sem,k1];simp only[go_sem,k3];intro i8 h8;have n82:i2≠i8:=fun e=>by rw[←e,k2]at h8;cases h8
   have n83:i3≠i8:=fun e=>by rw[←e,k3]at h8;cases h8
   have n84:i4≠i8:=fun e=>by rw[←e,k4]at h8;cases h8
   have n85:i5≠i8:=fun e=>by rw[←e,k5]at h8;cases h8
   simp only[go_sem];obtain⟨K2,eK2⟩:∃K2,upd K i8 (some (.obj [.s o.case,.s o.subj,.s [111,112,101,110],.sl [] .full,.sl [] .full] 111))=K2:=⟨_,rfl⟩;have sK2:Ab.Sub K K2:=by rw[←eK2];exact .aj h8
   have e8:K2 i8=some (.obj [.s o.case,.s o.subj,.s [111,112,101,110],.sl [] .full,.sl [] .full] 111):=by rw[←eK2,ah]
   rw[eK2];clear eK2;have m3:=sK2 _ _ k3;have m4:=sK2 _ _ k4;have m5:=sK2 _ _ k5;simp only[go_sem,m3,m5];have hha:=sQ (h0:=H) (s:=s) z1 z2 z3 z4 (k:=i8) (o:=0) (A:=[]) (B:=[]) (t:=111) (c:=⟨o.case,o.subj,jU,[],[]⟩) (f:=.sl [] .full) (l:=.sl [] .full) rfl e8 aeO (.inl ⟨rfl,rfl⟩) (s1.trans (sK.trans sK2)) (Nat.zero_le _) o.subj [110,101,119];rw[hpp,hcC]at hha;simp only[List.cons_append,List.nil_append]at hha;refine hha.mono fun r K3 ⟨l',ol,e8',fr3,ap3⟩=>?_
   have kK3:∀k,K2 k≠none→k≠i8→K3 k=K2 k:=fun k hk hk8=>fr3 k hk hk8 (by simp[nid])
   have m3' :K3 i3=_:=(kK3 i3 (by rw[m3];simp) n83).trans m3
   have m4' :K3 i4=_:=(kK3 i4 (by rw[m4];simp) n84).trans m4
   have m5' :K3 i5=_:=(kK3 i5 (by rw[m5];simp) n85).trans m5
   simp only[cp,List.append_nil]at e8';simp only[go_sem];simp only[go_sem,m5',e8'];have kk2:∀k,H1 k≠none→K2 k=H1 k:=fun k hk=>by
    have:=kK k hk;cases e:K k with
    |none=>rw[e]at this;exact(hk this.symm).elim
    |some b=>rw[sK2 _ _ e,←e,this]
   have k8:∀k,H1 k≠none→k≠i8:=fun k hk e=>hk (by have:=kK k hk;rw[e,h8]at this;rw[e];exact this.symm)
   have kk3:∀k,H1 k≠none→K3 k=H1 k:=fun k hk=>(kK3 k (by rw[kk2 k hk];exact hk) (k8 k hk)).trans (kk2 k hk)
   have sH3:Ab.Sub H1 K3:=fun k b hk=>by rw[kk3 k (by rw[hk];simp)];exact hk
   have hfl:findD s.cases o.case≤s.cases.length:=List.findIdx_le_length;have hfc:=hf.cases;refine(GG z1 xs (.agg [.s o.case,.s o.subj,.s jU,.sl [] .full,l']) (findD s.cases o.case) H K3 (w1.keepb fun k _ hk=>kk3 k hk) (s1.trans sH3) aeK aeK rfl (by simp[Ab.fit])).mono fun r K4 ⟨ow5,fr4,ap4⟩=>?_
   have m4'' :K4 i4=_:=(fr4 i4 (by rw[m4'];simp) (fun e=>by have:=(w1.nid e).1;rw[g4]at this;cases this)).trans m4'
   have m5'' :K4 i5=_:=(fr4 i5 (by rw[m5'];simp) (fun e=>(w1.nid e).2.1 h5)).trans m5'
   simp only[go_sem,m5'',ow5.rd.fit,ow5.rd.cells];simp only[go_sem,ak,n54,m4''];have hi0:i0=s.cases.length:=by rw[←ei0,if_pos p1]
   have hxs:xs=s.cases.map bV:=List.ext_getElem (by simpa using hnx) fun j a b=>by rw[hlo j a aeK aeK,aeB]
   have kk4:∀k,H1 k≠none→nid z1≠some k→K4 k=H1 k:=fun k hk hz=>(fr4 k (by rw[kk3 k hk];exact hk) hz).trans (kk3 k hk)
   obtain⟨K5,eK5⟩:∃K5,upd (upd K4 i5 (some (.obj [.v (.int .i64 s.tick),r,z2,z3,z4,.s pid,.v (.bool pset),.v (.int .i64 palg),aW ptgt,.sl (prules.map aC) .no,.sl (pkids.map aL) .no,ay pobls,.v (.int .i64 s.version)] 40))) i4 (some (.obj [.v (.int .i64 s.tick),r,z2,z3,z4,.s pid,.v (.bool pset),.v (.int .i64 palg),aW ptgt,.sl (prules.map aC) .no,.sl (pkids.map aL) .no,ay pobls,.v (.int .i64 s.version)] 40))=K5:=⟨_,rfl⟩;rw[eK5];have o5:∀k,k≠i4→k≠i5→K5 k=K4 k:=fun k a b=>by rw[←eK5,ag _ _ a,ag _ _ b]
   have kk5:∀k,H k=none→H1 k≠none→nid z1≠some k→K5 k=H1 k:=fun k a b c=>(o5 k (hz4 k a) (hz5 k a b)).trans (kk4 k b c)
   have ow:OwE 111 H K5 5 r (List.take (findD s.cases o.case) xs++([.agg [.s o.case,.s o.subj,.s jU,.sl [] .full,l']]++List.drop (findD s.cases o.case) xs)):=ow5.keep fun id e=>o5 id (hz4 id (ow5.nid e).1) fun e5=>by
    subst e5;rcases ap4 _ e with h|h
    ·rw[m5']at h;cases h
    ·exact(w1.nid h).2.1 h5
   have ol5:OwE 189 H K5 3 l' _:=ol.keep fun id e=>by
    have h2n:K2 id=none:=(ap3 id e).resolve_right (by simp[nid])
    have hz:nid z1≠some id:=fun e1=>by have:=kk2 id (w1.nid e1).2.1;rw[h2n]at this;exact(w1.nid e1).2.1 this.symm
    rw[o5 id (hz4 id (ol.nid e).1) (fun e5=>by rw[e5,m5]at h2n;cases h2n),fr4 id (ol.nid e).2.1 hz]
   have hmc:fA H K5 [] (.agg [.s o.case,.s o.subj,.s jU,.sl [] .full,l']) (jG s ⟨o.case,o.subj,jU,[],[]⟩ o.subj [110,101,119]):=⟨.sl [] .full,l',rfl,.inl ⟨rfl,rfl⟩,ol5,(fun i e=>afb),fun y hy=>by cases hy⟩
   have sg4:Ab.Sub g K4:=fun k b hk=>by
    have h1:=hH _ _ hk;have h2:=s1 _ _ h1;rw[kk4 k (by rw[h2];simp) (fun e=>by have:=(w1.nid e).1;rw[h1]at this;cases this)]
    exact aiU
   have sg5:Ab.Sub g K5:=by rw[←eK5];exact(sg4.put g5 _).put h4' _
   have hdo:doD aR s o= {s with cases:=s.cases.take (findD s.cases o.case)++ [jG s ⟨o.case,o.subj,jU,[],[]⟩ o.subj [110,101,119]]++s.cases.drop (findD s.cases o.case)}:=by simp[doD,p1]
   refine .mk _ (.refl _) (.refl _) ⟨sg5,_,?_,fun _=>rfl⟩
   rw[hdo];have apr:∀k,nid r=some k→H1 k=none∨nid z1=some k:=fun k e=>(ap4 k e).imp (fun h=>sH3.none h) id
   have hro:∀ {w:AV},apart z1 w→(∀k,nid w=some k→H1 k≠none)→apart r w:=fun ha hw k e1 e2=>(apr k e1).elim (fun h=>hw k e2 h) (fun h=>ha k h e2)
   have hl0:∀k,nid l' =some k→H1 k=none:=fun k e=>(sK.trans sK2).none ((ap3 k e).resolve_right (by simp[nid]))
   have hlr:apart l' r:=fun k e1 e2=>(ap4 k e2).elim (fun h=>(ol.nid e1).2.1 h) (fun h=>(w1.nid h).2.1 (hl0 k e1))
   rw[hxs,←List.map_take,←List.map_drop]at ow;refine pU rfl hpp rfl (Qk agn (ow.bN (fun _ e=>hH.none e)) ⟨.sl [] .full,l',rfl,.inl ⟨rfl,rfl⟩,ol5.bN (fun _ e=>hH.none e),(fun i e=>afb),fun y hy=>⟨(fun i e=>afb),?_⟩⟩) ((w2.keep fun id e=>kk5 id (w2.nid e).1 (w2.nid e).2.1 fun e1=>a12 id e1 e).bN fun _ e=>hH.none e) ((w3.keep fun id e=>kk5 id (w3.nid e).1 (w3.nid e).2.1 fun e1=>a13 id e1 e).bN fun _ e=>hH.none e) ((w4.keep fun id e=>kk5 id (w4.nid e).1 (w4.nid e).2.1 fun e1=>a14 id e1 e).bN fun _ e=>hH.none e) ⟨hro a12 fun k e=>(w2.nid e).2.1,hro a13 fun k e=>(w3.nid e).2.1,hro a14 fun k e=>(w4.nid e).2.1,a23,a24,a34⟩
   simp only[List.mem_cons,List.not_mem_nil,or_false]at hy;rcases hy with rfl|rfl|rfl|rfl
   ·exact hlr
   ·exact fun k e1 e2=>(w2.nid e2).2.1 (hl0 k e1)
   ·exact fun k e1 e2=>(w3.nid e2).2.1 (hl0 k e1)
   ·exact fun k e1 e2=>(w4.nid e2).2.1 (hl0 k e1)
  have k1:(o.kind==1)=false:=by simp[p1]
  have hi0:i0=findD s.cases o.case:=by rw[←ei0,if_neg p1]
  simp only[go_sem,k1]
  by_cases p3:o.kind=3
  ·have k3' :(o.kind==3)=true:=by simp[p3]
   simp only[go_sem,k3'];have hth:=zI p0 (.inl p3);have hlt:=jW hth;obtain⟨j,ej⟩:∃j,findD s.cases o.case=j:=⟨_,rfl⟩;have hj:j<s.cases.length:=by rw[←ej];exact hlt
   have hjx:j<xs.length:=aeK;rw[ej]at hi0;subst hi0;obtain⟨f,l,ex,of,ol,hap,hys⟩:=hmy hjx hj;obtain⟨id1,hg1,o1⟩:=w1.ow ahH;have o1' :=o1;obtain⟨cap,rest,ey,hid,hrl,hcap,hsz⟩:=o1';have lA:i0*5=(au (xs.take i0)).length:=afU;have hidK:K id1=some (.obj (au (xs.take i0)++(cp s.cases[i0] f l++(au (xs.drop (i0+1))++rest))) 111):=by rw[sK _ _ hid,Cv hjx,ex];simp[cp,AV.cells]
   have n14:id1≠i4:=hz4 id1 hg1;have n13:id1≠i3:=fun e=>by rw[e,g3]at hg1;cases hg1
   have n15:id1≠i5:=fun e=>o1.none (by rw[e];exact h5)
   have nf4:∀k,nid f=some k→k≠i3∧k≠i4∧k≠i5∧k≠id1:=fun k e=>⟨(fun e' =>ahB),hz4 k (of.nid e).1,hz5 k (of.nid e).1 (of.nid e).2.1,fun e' =>(hys z1 aeR).1 k e aii⟩
   have nl4:∀k,nid l=some k→k≠i3∧k≠i4∧k≠i5∧k≠id1:=fun k e=>⟨(fun e' =>ahC),hz4 k (ol.nid e).1,hz5 k (ol.nid e).1 (ol.nid e).2.1,fun e' =>(hys z1 aeR).2 k e aii⟩
   have hff:=hf.fields _ (aeF hj);have hfl:=hf.log _ (aeF hj);rw[ej];refine .calls (pick K [i3,i5]) [0,1,2,3,4,5,6,7,8] bS aeN rfl ?_;simp only[go_sem,bF (show i5∈ [i3,i5] by simp),k3,k5]
   refine(o1.sub sK).idx (U:=U) (e:=111) i0 rfl hjx oc aeO ?_;simp only[go_sem,bF (show i3∈ [i3,i5] by simp),k3,k5]
   refine(show ai prog 111 [.ptr id1 (i0*5),.s o.field,.agg [.v (.int .i64 o.val.kind),.v (.int .i64 o.val.n),.s o.val.s]] K _ from OJ lA hidK aeO (of.sub sK) (s1.trans sK) hff o.field o.val).mono fun r K3 ⟨f',of',e1',fr3,ap3⟩=>?_
   have kk3:∀k,H1 k≠none→k≠id1→nid f≠some k→K3 k=H1 k:=fun k a b c=>(fr3 k (by rw[kK k a];exact a) b c).trans (kK k a)
   have m3:K3 i3=_:=(fr3 i3 (by rw[k3];simp) n13.symm fun e=>(nf4 _ e).1 rfl).trans k3
   have m4:K3 i4=_:=(fr3 i4 (by rw[k4];simp) n14.symm fun e=>(nf4 _ e).2.1 rfl).trans k4
   have m5:K3 i5=_:=(fr3 i5 (by rw[k5];simp) n15.symm fun e=>(nf4 _ e).2.2.1 rfl).trans k5
   refine⟨jb fun k hk=>?_,?_⟩
   ·simp only[List.mem_cons,List.not_mem_nil,or_false]at hk
    rcases hk with rfl|rfl
    ·rw[m3,k3]
    ·rw[m5,k5]
   simp only[go_sem];have sH3:Ab.Sub H K3:=fun k b hk=>afx
   have ol3:OwE 189 H K3 3 l (s.cases[i0].log.map gw):=ol.keep fun k e=>kk3 k (ol.nid e).2.1 (nl4 k e).2.2.2 (fun e1=>hap k e1 e)
   have hX5:∀y1 y2:AV,Sized 5 (xs.set i0 (.agg (cp s.cases[i0] y1 y2))):=fun y1 y2 z hz=>by exact ajF
   have mkO:∀ {G:Heap} {y1 y2:AV},G id1=some (.obj (au (xs.take i0)++(cp s.cases[i0] y1 y2++(au (xs.drop (i0+1))++rest))) 111)→Ow 111 G 5 id1 z1 (xs.set i0 (.agg (cp s.cases[i0] y1 y2))):=fun {G y1 y2} hG=>⟨cap,rest,ag7,by rw[hG,tZ hjx];simp[AV.cells],ahX,agY,hX5 _ _⟩
   have hjs:∀x:AV,i0<(xs.set i0 x).length:=fun x=>by rw[List.length_set];exact hjx
   refine .calls (pick K3 [i3,i5]) [0,1,2,3,4,5,6,7] bS aeN rfl ?_;simp only[go_sem,bF (show i5∈ [i3,i5] by simp),m3,m5]
   refine(mkO e1').idx (U:=U) (e:=111) i0 rfl (hjs _) oc aeO ?_;simp only[go_sem,bF (show i3∈ [i3,i5] by simp),m3,m5]
   have hha:=sQ (h0:=H) (h:=K3) (s:=s) z1 z2 z3 z4 (k:=id1) (c:=s.cases[i0]) (f:=f') (l:=l) lA e1' aeO ol3 sH3 hfl o.subj [119,114,105,116,101];rw[hpp,hcC]at hha;simp only[List.cons_append,List.nil_append]at hha;refine hha.mono fun r K4 ⟨l',ol',e1'',fr4,ap4⟩=>?_
   have m3' :K4 i3=_:=(fr4 i3 (by rw[m3];simp) n13.symm fun e=>(nl4 _ e).1 rfl).trans m3
   have m4' :K4 i4=_:=(fr4 i4 (by rw[m4];simp) n14.symm fun e=>(nl4 _ e).2.1 rfl).trans m4
   have m5' :K4 i5=_:=(fr4 i5 (by rw[m5];simp) n15.symm fun e=>(nl4 _ e).2.2.1 rfl).trans m5
   refine⟨jb fun k hk=>?_,?_⟩
   ·simp only[List.mem_cons,List.not_mem_nil,or_false]at hk
    rcases hk with rfl|rfl
    ·rw[m3',m3]
    ·rw[m5',m5]
   simp only[go_sem];simp only[go_sem,m5',m4'];obtain⟨K5,eK5⟩:∃K5,upd K4 i4 (some (.obj [.v (.int .i64 s.tick),z1,z2,z3,z4,.s pid,.v (.bool pset),.v (.int .i64 palg),aW ptgt,.sl (prules.map aC) .no,.sl (pkids.map aL) .no,ay pobls,.v (.int .i64 s.version)] 40))=K5:=⟨_,rfl⟩;rw[eK5];have o5:∀k,k≠i4→K5 k=K4 k:=fun k a=>by rw[←eK5,ag _ _ a]
   have kk5:∀k,H k=none→H1 k≠none→k≠id1→nid f≠some k→nid l≠some k→K5 k=H1 k:=fun k a b c d e=>by exact akI
   have of5:OwE 199 H K5 4 f' _:=of'.keep fun id e=>by exact ajk
   have ol5:OwE 189 H K5 3 l' _:=ol'.keep fun id e=>o5 id (hz4 id (ol'.nid e).1)
   have sg4:Ab.Sub g K4:=fun k b hk=>by exact ajO
   have sg5:Ab.Sub g K5:=by rw[←eK5];exact sg4.put h4' _
   have n1' :nid z1=some id1:=o1.nid;have hdo:doD aR s o= {s with cases:=s.cases.modify i0 fun c=>jG s {c with fields:=eN c.fields o.field o.val} o.subj [119,114,105,116,101]}:=by simp[doD,p3,ej]
   refine .mk _ (.refl _) (.refl _) ⟨sg5,_,?_,fun _=>rfl⟩
   rw[hdo];have thr:∀w∈ [z1,z2,z3,z4],∀k,nid w=some k→H1 k≠none:=fun w hw k e=>by exact ajL
   refine pU rfl hpp rfl ?_ ((w2.keep fun id e=>kk5 id (w2.nid e).1 (w2.nid e).2.1 (fun e1=>a12 id1 n1' ahy) (fun e1=>(hys z2 aeR).1 id e1 e) (fun e1=>(hys z2 aeR).2 id e1 e)).bN fun _ e=>hH.none e) ((w3.keep fun id e=>kk5 id (w3.nid e).1 (w3.nid e).2.1 (fun e1=>a13 id1 n1' ahy) (fun e1=>(hys z3 aeR).1 id e1 e) (fun e1=>(hys z3 aeR).2 id e1 e)).bN fun _ e=>hH.none e) ((w4.keep fun id e=>kk5 id (w4.nid e).1 (w4.nid e).2.1 (fun e1=>a14 id1 n1' ahy) (fun e1=>(hys z4 aeR).1 id e1 e) (fun e1=>(hys z4 aeR).2 id e1 e)).bN fun _ e=>hH.none e) ⟨a12,a13,a14,a23,a24,a34⟩
   refine CQ (X:=.agg (cp s.cases[i0] f' l')) ((show OwE 111 H K5 5 z1 _ from .inr ⟨id1,hg1,mkO ((o5 id1 n14).trans e1'')⟩).bN (fun _ e=>hH.none e)) hnx (fun k h1 h2 hk=>hlo k h1 h2 hk) fun hh=>⟨f',l',rfl,of5.bN (fun _ e=>hH.none e),ol5.bN (fun _ e=>hH.none e),fun k e1 e2=>?_,fun w hw=>⟨fun k e1 e2=>?_,fun k e1 e2=>?_⟩⟩
   ·rcases ap4 k e2 with h|h
    ·exact(of'.nid e1).2.1 h
    ·rcases ap3 k e1 with h' |h'
     ·exact(ol.nid h).2.1 (sK.none h')
     ·exact hap k h' h
   ·rcases ap3 k e1 with h|h
    ·exact thr w hw k e2 (sK.none h)
    ·exact(hys w hw).1 k h e2
   ·rcases ap4 k e1 with h|h
    ·by_cases h1:k=id1
     ·subst h1;rw[e1']at h;cases h
     ·have:=kk3 k (thr w hw k e2) h1 (fun e=>(hys w hw).1 k e e2)
      rw[h]at this;exact thr w hw k e2 this.symm
    ·exact(hys w hw).2 k h e2
  have k3' :(o.kind==3)=false:=by simp[p3]
  simp only[go_sem,k3']
  by_cases p4:o.kind=4
  ·have k4' :(o.kind==4)=true:=by simp[p4]
   simp only[go_sem,k4'];have hth:=zI p0 (.inr p4);have hlt:=jW hth;obtain⟨j,ej⟩:∃j,findD s.cases o.case=j:=⟨_,rfl⟩;have hj:j<s.cases.length:=by rw[←ej];exact hlt
   have hjx:j<xs.length:=aeK;rw[ej]at hi0;subst hi0;obtain⟨f,l,ex,of,ol,hap,hys⟩:=hmy hjx hj;obtain⟨id1,hg1,o1⟩:=w1.ow ahH;have o1' :=o1;obtain⟨cap,rest,ey,hid,hrl,hcap,hsz⟩:=o1';have lA:i0*5=(au (xs.take i0)).length:=afU;have hidK:K id1=some (.obj (au (xs.take i0)++(cp s.cases[i0] f l++(au (xs.drop (i0+1))++rest))) 111):=by rw[sK _ _ hid,Cv hjx,ex];simp[cp,AV.cells]
   have n14:id1≠i4:=hz4 id1 hg1;have n13:id1≠i3:=fun e=>by rw[e,g3]at hg1;cases hg1
   have n15:id1≠i5:=fun e=>o1.none (by rw[e];exact h5)
   have nf4:∀k,nid f=some k→k≠i3∧k≠i4∧k≠i5∧k≠id1:=fun k e=>⟨(fun e' =>ahB),hz4 k (of.nid e).1,hz5 k (of.nid e).1 (of.nid e).2.1,fun e' =>(hys z1 aeR).1 k e aii⟩
   have nl4:∀k,nid l=some k→k≠i3∧k≠i4∧k≠i5∧k≠id1:=fun k e=>⟨(fun e' =>ahC),hz4 k (ol.nid e).1,hz5 k (ol.nid e).1 (ol.nid e).2.1,fun e' =>(hys z1 aeR).2 k e aii⟩
   have hff:=hf.fields _ (aeF hj);have hfl:=hf.log _ (aeF hj);rw[ej];simp only[go_sem,k5,k3];refine(o1.sub sK).idx (U:=U) (e:=111) i0 rfl hjx oc aeO ?_;simp only[go_sem,hidK];have e2:List.take (i0*5+2) (au (xs.take i0)++(cp s.cases[i0] f l++(au (xs.drop (i0+1))++rest)))++ [.s o.to]++List.drop (i0*5+2+1) (au (xs.take i0)++(cp s.cases[i0] f l++(au (xs.drop (i0+1))++rest)))=au (xs.take i0)++(cp {s.cases[i0]with state:=o.to} f l++(au (xs.drop (i0+1))++rest)):=by
    have:=pP (A:=au (xs.take i0)++ [.s s.cases[i0].id,.s s.cases[i0].owner]) (B:=[.s s.cases[i0].state]) (C:=f::l::(au (xs.drop (i0+1))++rest)) (X:=[.s o.to]) (k:=i0*5+2) (m:=1) (by rw[lA];simp) rfl rfl
    exact akE
   rw[e2];obtain⟨K3,eK3⟩:∃K3,upd K id1 (some (.obj (au (xs.take i0)++(cp {s.cases[i0]with state:=o.to} f l++(au (xs.drop (i0+1))++rest))) 111))=K3:=⟨_,rfl⟩
   rw[eK3];refine⟨by simp only[aeE,←lA,cp,List.length_cons,List.length_nil];omega,?_⟩
   have e1' :K3 id1=some (.obj (au (xs.take i0)++(cp {s.cases[i0]with state:=o.to} f l++(au (xs.drop (i0+1))++rest))) 111):=by rw[←eK3,ah]
   have fr3:∀k,K k≠none→k≠id1→nid f≠some k→K3 k=K k:=fun k _ hk _=>by rw[←eK3,ag _ _ hk]
   have ap3:∀k,nid f=some k→K k=none∨nid f=some k:=fun k hk=> .inr hk
   have kk3:∀k,H1 k≠none→k≠id1→nid f≠some k→K3 k=H1 k:=fun k a b c=>(fr3 k (by rw[kK k a];exact a) b c).trans (kK k a)
   have m3:K3 i3=_:=(fr3 i3 (by rw[k3];simp) n13.symm fun e=>(nf4 _ e).1 rfl).trans k3
   have m4:K3 i4=_:=(fr3 i4 (by rw[k4];simp) n14.symm fun e=>(nf4 _ e).2.1 rfl).trans k4
   have m5:K3 i5=_:=(fr3 i5 (by rw[k5];simp) n15.symm fun e=>(nf4 _ e).2.2.1 rfl).trans k5
   obtain⟨f',of',ef'⟩:∃f',OwE 199 H K3 4 f' (s.cases[i0].fields.map bB)∧f=f' :=⟨f,of.keep fun k e=>by rw[←eK3,ag _ _ (nf4 k e).2.2.2,kK k (of.nid e).2.1],rfl⟩
   rw[ef']at e1';replace ap3:∀k,nid f' =some k→K k=none∨nid f=some k:=by rw[←ef'];exact ap3
   have sH3:Ab.Sub H K3:=fun k b hk=>afx
   have ol3:OwE 189 H K3 3 l (s.cases[i0].log.map gw):=ol.keep fun k e=>kk3 k (ol.nid e).2.1 (nl4 k e).2.2.2 (fun e1=>hap k e1 e)
   have hX5:∀y1 y2:AV,Sized 5 (xs.set i0 (.agg (cp ({s.cases[i0]with state:=o.to}:aN) y1 y2))):=fun y1 y2 z hz=>by exact ajF
   have mkO:∀ {G:Heap} {y1 y2:AV},G id1=some (.obj (au (xs.take i0)++(cp ({s.cases[i0]with state:=o.to}:aN) y1 y2++(au (xs.drop (i0+1))++rest))) 111)→Ow 111 G 5 id1 z1 (xs.set i0 (.agg (cp ({s.cases[i0]with state:=o.to}:aN) y1 y2))):=fun {G y1 y2} hG=>⟨cap,rest,ag7,by rw[hG,tZ hjx];simp[AV.cells],ahX,agY,hX5 _ _⟩
   have hjs:∀x:AV,i0<(xs.set i0 x).length:=fun x=>by rw[List.length_set];exact hjx
   refine .calls (pick K3 [i3,i5]) [0,1,2,3,4,5,6,7,8,9] bS aeN rfl ?_;simp only[go_sem,bF (show i5∈ [i3,i5] by simp),m3,m5]
   refine(mkO e1').idx (U:=U) (e:=111) i0 rfl (hjs _) oc aeO ?_;simp only[go_sem,bF (show i3∈ [i3,i5] by simp),m3,m5]
   have hha:=sQ (h0:=H) (h:=K3) (s:=s) z1 z2 z3 z4 (k:=id1) (c:=({s.cases[i0]with state:=o.to}:aN)) (f:=f') (l:=l) lA e1' aeO ol3 sH3 hfl o.subj o.to
   rw[hpp,hcC]at hha;simp only[List.cons_append,List.nil_append]at hha;refine hha.mono fun r K4 ⟨l',ol',e1'',fr4,ap4⟩=>?_
   have m3' :K4 i3=_:=(fr4 i3 (by rw[m3];simp) n13.symm fun e=>(nl4 _ e).1 rfl).trans m3
   have m4' :K4 i4=_:=(fr4 i4 (by rw[m4];simp) n14.symm fun e=>(nl4 _ e).2.1 rfl).trans m4
   have m5' :K4 i5=_:=(fr4 i5 (by rw[m5];simp) n15.symm fun e=>(nl4 _ e).2.2.1 rfl).trans m5
   refine⟨jb fun k hk=>?_,?_⟩
   ·simp only[List.mem_cons,List.not_mem_nil,or_false]at hk
    rcases hk with rfl|rfl
    ·rw[m3',m3]
    ·rw[m5',m5]
   simp only[go_sem];simp only[go_sem,m5',m4'];obtain⟨K5,eK5⟩:∃K5,upd K4 i4 (some (.obj [.v (.int .i64 s.tick),z1,z2,z3,z4,.s pid,.v (.bool pset),.v (.int .i64 palg),aW ptgt,.sl (prules.map aC) .no,.sl (pkids.map aL) .no,ay pobls,.v (.int .i64 s.version)] 40))=K5:=⟨_,rfl⟩;rw[eK5];have o5:∀k,k≠i4→K5 k=K4 k:=fun k a=>by rw[←eK5,ag _ _ a]
   have kk5:∀k,H k=none→H1 k≠none→k≠id1→nid f≠some k→nid l≠some k→K5 k=H1 k:=fun k a b c d e=>by exact akI
   have of5:OwE 199 H K5 4 f' _:=of'.keep fun id e=>by exact ajk
   have ol5:OwE 189 H K5 3 l' _:=ol'.keep fun id e=>o5 id (hz4 id (ol'.nid e).1)
   have sg4:Ab.Sub g K4:=fun k b hk=>by exact ajO
   have sg5:Ab.Sub g K5:=by rw[←eK5];exact sg4.put h4' _
   have n1' :nid z1=some id1:=o1.nid;have hdo:doD aR s o= {s with cases:=s.cases.modify i0 fun c=>jG s {c with state:=o.to} o.subj o.to}:=by simp[doD,p4,ej]
   refine .mk _ (.refl _) (.refl _) ⟨sg5,_,?_,fun _=>rfl⟩
   rw[hdo];have thr:∀w∈ [z1,z2,z3,z4],∀k,nid w=some k→H1 k≠none:=fun w hw k e=>by exact ajL
   refine pU rfl hpp rfl ?_ ((w2.keep fun id e=>kk5 id (w2.nid e).1 (w2.nid e).2.1 (fun e1=>a12 id1 n1' ahy) (fun e1=>(hys z2 aeR).1 id e1 e) (fun e1=>(hys z2 aeR).2 id e1 e)).bN fun _ e=>hH.none e) ((w3.keep fun id e=>kk5 id (w3.nid e).1 (w3.nid e).2.1 (fun e1=>a13 id1 n1' ahy) (fun e1=>(hys z3 aeR).1 id e1 e) (fun e1=>(hys z3 aeR).2 id e1 e)).bN fun _ e=>hH.none e) ((w4.keep fun id e=>kk5 id (w4.nid e).1 (w4.nid e).2.1 (fun e1=>a14 id1 n1' ahy) (fun e1=>(hys z4 aeR).1 id e1 e) (fun e1=>(hys z4 aeR).2 id e1 e)).bN fun _ e=>hH.none e) ⟨a12,a13,a14,a23,a24,a34⟩
   refine CQ (X:=.agg (cp ({s.cases[i0]with state:=o.to}:aN) f' l')) ((show OwE 111 H K5 5 z1 _ from .inr ⟨id1,hg1,mkO ((o5 id1 n14).trans e1'')⟩).bN (fun _ e=>hH.none e)) hnx (fun k h1 h2 hk=>hlo k h1 h2 hk) fun hh=>⟨f',l',rfl,of5.bN (fun _ e=>hH.none e),ol5.bN (fun _ e=>hH.none e),fun k e1 e2=>?_,fun w hw=>⟨fun k e1 e2=>?_,fun k e1 e2=>?_⟩⟩
   ·rcases ap4 k e2 with h|h
    ·exact(of'.nid e1).2.1 h
    ·rcases ap3 k e1 with h' |h'
     ·exact(ol.nid h).2.1 (sK.none h')
     ·exact hap k h' h
   ·rcases ap3 k e1 with h|h
    ·exact thr w hw k e2 (sK.none h)
    ·exact(hys w hw).1 k h e2
   ·rcases ap4 k e1 with h|h
    ·by_cases h1:k=id1
     ·subst h1;rw[e1']at h;cases h
     ·have:=kk3 k (thr w hw k e2) h1 (fun e=>(hys w hw).1 k e e2)
      rw[h]at this;exact thr w hw k e2 this.symm
    ·exact(hys w hw).2 k h e2
  have k4' :(o.kind==4)=false:=by simp[p4]
  simp only[go_sem,k4'];have kkK:∀k,H k=none→H1 k≠none→K k=H1 k:=fun k _ b=>kK k b
  by_cases p5:o.kind=5
  ·have k5' :(o.kind==5)=true:=by simp[p5]
   simp only[go_sem,k5'];have hrv:0<o.review:=by simp only[dH,dX,Bool.and_eq_true]at hform;simpa[okD,p5]using hform.2.1.2
   obtain⟨n,en⟩:∃n:Nat,o.review=((n:Nat):Int)+1:=⟨(o.review - 1).toNat,aeK⟩;have w5:IntKind.i64.wrap (o.review - 1)=((n:Nat):Int):=by rw[aU _ (by have:=hr.2;omega)];omega
   have hn5:n<s.reviews.length:=by
    have:fq s o=0:=by simpa[bL,hform,p5]using p0
    unfold fq at this;have e1:xd s.reviews o.review=s.reviews[n]? :=by unfold xd;rw[if_pos aeK,show(o.review - 1).toNat=n by omega]
    rw[e1]at this
    by_cases hlt:n<s.reviews.length
    ·exact hlt
    ·rw[List.getElem?_eq_none aeK]at this;cases this
   have hnm:n<(s.reviews.map gz).length:=by simpa using hn5
   obtain⟨id2,hg2,o2⟩:=w2.ow (by intro e;rw[e]at hnm;cases hnm)
   have o2' :=o2;obtain⟨cap,rest,ey,hid,hrl,hcap,hsz⟩:=o2';have n24:id2≠i4:=hz4 id2 hg2;have n25:id2≠i5:=hz5 id2 hg2 o2.none;have hidK:=sK _ _ hid;simp only[go_sem,k5,k3,w5];refine(o2.sub sK).idx (U:=U) (e:=132) n rfl hnm aeX aeO ?_;simp only[go_sem,hidK];have e2:List.take (n*7+6) (au (s.reviews.map gz)++rest)++ [.v (.bool false)]++List.drop (n*7+6+1) (au (s.reviews.map gz)++rest)=au ((s.reviews.modify n fun r=> {r with isOpen:=false}).map gz)++rest:=by
    refine(kI hsz n hnm 6 [.v (.bool false)] (aez rfl)).trans ?_
    congr 2
    refine List.ext_getElem aeR fun j h1 h2=>?_
    by_cases e:j=n
    ·subst e;simp[gz,AV.cells,Ab.over]
    ·rw[List.getElem_set_ne (Ne.symm e)];simp[Ne.symm e]
   rw[e2];refine⟨by rw[aeE,aZ hsz];omega,?_⟩
   have k5b:∀b,upd K id2 b i5=_:=fun b=>(ag _ _ n25.symm).trans k5
   have k4b:∀b,upd K id2 b i4=_:=fun b=>(ag _ _ n24.symm).trans k4
   simp only[go_sem,k5b,k4b];have hdo:doD aR s o= {s with reviews:=s.reviews.modify n fun r=> {r with isOpen:=false}}:=by simp[doD,p5,en]
   have kz:∀a b k,H k=none→H1 k≠none→nid z2≠some k→upd (upd K id2 a) i4 b k=H1 k:=fun a b k c d e=>by rw[ag _ _ (hz4 k c),ag _ _ (fun e' =>e (by rw[e'];exact o2.nid)),kK k d]
   refine .mk _ (.refl _) (.refl _) ⟨(Sub.put (i:=id2) sg (hH.none hg2) _).put h4' _,_,?_,fun _=>hi0⟩
   rw[hdo];exact pU rfl hpp rfl ((hC.keepx (z:=z2) aeR a12 (kz _ _)).bN (fun _ e=>hH.none e)) (.inr ⟨id2,hH.none hg2,cap,rest,by rw[ey];simp,by rw[ag _ _ n24,ah],by rw[hrl];simp,by simpa using hcap,bx (f:=gz) (n:=7) (fun _=>rfl) _⟩) ((w3.keep fun id e=>kz _ _ id (w3.nid e).1 (w3.nid e).2.1 fun e1=>a23 id e1 e).bN fun _ e=>hH.none e) ((w4.keep fun id e=>kz _ _ id (w4.nid e).1 (w4.nid e).2.1 fun e1=>a24 id e1 e).bN fun _ e=>hH.none e) ⟨a12,a13,a14,a23,a24,a34⟩
  have k5' :(o.kind==5)=false:=by simp[p5]
  simp only[go_sem,k5']
  by_cases p6:o.kind=6
  ·have k6' :(o.kind==6)=true:=by simp[p6]
   simp only[go_sem,k6'];simp only[go_sem,k5,k3];have hha6:=GC hSK.rd o.case o.field (Nat.le_trans hf.roles aeO);rw[hpp,hcC]at hha6;simp only[List.cons_append,List.nil_append]at hha6;refine hha6.pthen ?_;cases dha:yP s.roles ⟨o.case,o.field⟩
   ·simp only[go_sem]
    simp only[go_sem,k5,k3];have hap1:Rd K 2 (.sl [dj ⟨o.case,o.field⟩] .full) [dj ⟨o.case,o.field⟩]:=.sl afw .full;have hfr:=hf.roles;refine OwE.app (U:=U) (tb:=138) (w4.sub sK) (s1.trans sK) hap1 aeX aeO aeP aeX aeR afo fun id4 y' K3 g4' hor hw ho2=>?_
    have hor' :K id4=none∨nid z4=some id4:=by exact ajy
    have n44:i4≠id4:=fun e=>by rw[←e,g4]at g4';cases g4'
    have n45:i5≠id4:=fun e=>by
     rcases hor' with hor|hor
     ·rw[←e,k5]at hor;cases hor
     ·exact(w4.nid hor).2.1 (by rw[←e];exact h5)
    have m4:K3 i4=_:=(ho2 i4 n44).trans k4;have m5:K3 i5=_:=(ho2 i5 n45).trans k5;simp only[go_sem,m5,hw.rd.fit,hw.rd.cells];simp only[go_sem,ak,n54,m4];have hdo:doD aR s o= {s with roles:=s.roles++ [⟨o.case,o.field⟩]}:=by simp[doD,p6,dha]
    have gid4:g id4=none:=hH.none g4';have kz:∀a b k,H k=none→H1 k≠none→nid z4≠some k→upd (upd K3 i5 a) i4 b k=H1 k:=fun a b k c d e=>by
     have:k≠id4:=fun e' =>by
      rcases hor' with hor|hor
      ·have:=kK k d;rw[e',hor]at this;exact d (by rw[e'];exact this.symm)
      ·exact e (by rw[e'];exact hor)
     rw[ag _ _ (hz4 k c),ag _ _ (hz5 k c d),ho2 k this,kK k d]
    have sg3:Ab.Sub g K3:=fun k b hk=>by rw[ho2 k (fun e=>by rw[e,gid4]at hk;cases hk)];exact sg _ _ hk
    refine .mk _ (.refl _) (.refl _) ⟨(sg3.put g5 _).put h4' _,_,?_,fun _=>hi0⟩
    rw[hdo];have hw' :OwE 138 g K3 2 y' ((s.roles++ [(⟨o.case,o.field⟩:ie)]).map dj):=by rw[List.map_append];exact .inr ⟨id4,gid4,hw⟩
    have hry:∀k,nid y' =some k→H1 k=none∨nid z4=some k:=fun k e=>by
     have:id4=k:=by have:=hw.nid;rw[e]at this;exact(Option.some.inj this).symm
     subst this;exact hor'.imp (fun h=>sK.none h) id
    have har:∀ {w:AV},apart w z4→(∀k,nid w=some k→H1 k≠none)→apart w y' :=fun ha hh k e1 e2=>(hry k e2).elim (fun h=>hh k e1 h) (fun h=>ha k e1 h)
    refine pU rfl hpp rfl ((hC.move (z:=z4) aeR a14 (kz _ _) fun w hw k e=>?_).bN (fun _ e=>hH.none e)) ((w2.keep fun id e=>kz _ _ id (w2.nid e).1 (w2.nid e).2.1 fun e1=>a24 id e e1).bN fun _ e=>hH.none e) ((w3.keep fun id e=>kz _ _ id (w3.nid e).1 (w3.nid e).2.1 fun e1=>a34 id e e1).bN fun _ e=>hH.none e) (hw'.keep fun id e=>?_) ⟨a12,a13,har a14 fun k e=>(w1.nid e).2.1,a23,har a24 fun k e=>(w2.nid e).2.1,har a34 fun k e=>(w3.nid e).2.1⟩
    ·simp only[List.mem_cons,List.not_mem_nil,or_false]at hw
     rcases hw with rfl|rfl|rfl|rfl
     ·exact .inr ⟨w,aeR,e⟩
     ·exact .inr ⟨w,aeR,e⟩
     ·exact .inr ⟨w,aeR,e⟩
     ·exact(hry k e).imp id fun h=>⟨z4,aeR,h⟩
    ·have:id=id4:=by have:=hw.nid;rw[e]at this;exact Option.some.inj this
     rw[this,ag _ _ n44.symm,ag _ _ n45.symm]
   ·simp only[go_sem]
    simp only[go_sem,k5,k4];have hdo:doD aR s o=s:=by simp[doD,p6,dha]
    rw[hdo];refine .mk _ (.refl _) (.refl _) ⟨sg.put h4' _,_,(hS.keepb fun k hk hk1=>?_).bN fun _ e=>hH.none e,fun _=>hi0⟩
    rw[ag _ _ (hz4 k hk),kK k hk1]
  have k6' :(o.kind==6)=false:=by simp[p6]
  simp only[go_sem,k6']
  by_cases p7:o.kind=7
  ·have k7' :(o.kind==7)=true:=by simp[p7]
   simp only[go_sem,k7'];simp only[go_sem,k3];refine(zx o.text _ (he.sub sg)).pthen ?_;obtain⟨⟨pp,e,a⟩,epp⟩:∃x,aR o.text=x:=⟨_,rfl⟩;obtain⟨qid,qset,qalg,qtgt,qrules,qkids,qobls⟩:=pp;rw[epp];simp only[go_sem,kH,aL,aX];intro i9 h9;have n95:i5≠i9:=fun e=>by rw[←e,k5]at h9;cases h9
   have n94:i4≠i9:=fun e=>by rw[←e,k4]at h9;cases h9
   simp only[go_sem];have g9:g i9=none:=sg.none h9;have sg9:∀b,Ab.Sub g (upd K i9 b):=fun b=>sg.put g9 b
   have hz9:∀k,H1 k≠none→k≠i9:=fun k hk e=>hk (by have:=kK k hk;rw[e,h9]at this;rw[e];exact this.symm)
   by_cases pe:e=0
   ·have de:(e==0)=true:=by simp[pe]
    have wv:IntKind.i64.wrap (s.version+1)=s.version+1:=aU _ aeK;simp only[go_sem,de];simp only[go_sem,ak,n95,n94,n54,k5,k4,wv];have hdo:doD aR s o= {s with policy:=.mk qid qset qalg qtgt qrules qkids qobls,version:=s.version+1}:=by simp[doD,p7,epp,pe]
    have kz:∀a b c k,H k=none→H1 k≠none→upd (upd (upd K i9 a) i5 b) i4 c k=H1 k:=fun a b c k d e=>by rw[ag _ _ (hz4 k d),ag _ _ (hz5 k d e),ag _ _ (hz9 k e),kK k e]
    refine .mk _ (.refl _) (.refl _) ⟨((sg9 _).put g5 _).put h4' _,_,?_,fun _=>hi0⟩
    rw[hdo];exact pU rfl rfl rfl ((hC.keepb (kz _ _ _)).bN (fun _ e=>hH.none e)) ((w2.keepb (kz _ _ _)).bN (fun _ e=>hH.none e)) ((w3.keepb (kz _ _ _)).bN (fun _ e=>hH.none e)) ((w4.keepb (kz _ _ _)).bN (fun _ e=>hH.none e)) ⟨a12,a13,a14,a23,a24,a34⟩
   ·have de:(e==0)=false:=by simp[pe]
    simp only[go_sem,de];simp only[go_sem,ak,n95,n94,k5,k4];have hdo:doD aR s o=s:=by simp[doD,p7,epp,pe]
    rw[hdo];refine .mk _ (.refl _) (.refl _) ⟨(sg9 _).put h4' _,_,(hS.keepb fun k hk hk1=>?_).bN fun _ e=>hH.none e,fun _=>hi0⟩
    rw[ag _ _ (hz4 k hk),ag _ _ (hz9 k hk1),kK k hk1]
  have k7' :(o.kind==7)=false:=by simp[p7]
  simp only[go_sem,k7']
  by_cases p8:o.kind=8
  ·have k8' :(o.kind==8)=true:=by simp[p8]
   simp only[go_sem,k8'];have hrv:0<o.review∧o.review≤1099511627776:=by simp only[dH,dX,Bool.and_eq_true]at hform;simpa[okD,p8]using hform.2.1.2
   have htk:¬s.tick>1099511627776 - o.review:=by intro hgt;simp[bL,hform,p8,hgt]at p0
   have w8:IntKind.i64.wrap (s.tick+o.review)=s.tick+o.review:=aU _ (by have:=ht.1;omega)
   simp only[go_sem,k5,k3,w8];simp only[go_sem,ak,n54,k4];have hdo:doD aR s o= {s with tick:=s.tick+o.review}:=by simp[doD,p8]
   have kz:∀a b k,H k=none→H1 k≠none→upd (upd K i5 a) i4 b k=H1 k:=fun a b k c d=>by rw[ag _ _ (hz4 k c),ag _ _ (hz5 k c d),kK k d]
   refine .mk _ (.refl _) (.refl _) ⟨(sg.put g5 _).put h4' _,_,?_,fun _=>hi0⟩
   rw[hdo];exact pU rfl hpp rfl ((hC.keepb (kz _ _)).bN (fun _ e=>hH.none e)) ((w2.keepb (kz _ _)).bN (fun _ e=>hH.none e)) ((w3.keepb (kz _ _)).bN (fun _ e=>hH.none e)) ((w4.keepb (kz _ _)).bN (fun _ e=>hH.none e)) ⟨a12,a13,a14,a23,a24,a34⟩
  have k8' :(o.kind==8)=false:=by simp[p8]
  simp only[go_sem,k8'];simp only[go_sem,k5,k4];have hdo:doD aR s o=s:=by simp[doD,p1,p3,p4,p5,p6,p7,p8]
  rw[hdo];refine .mk _ (.refl _) (.refl _) ⟨sg.put h4' _,_,(hS.keepb fun k hk hk1=>?_).bN fun _ e=>hH.none e,fun _=>hi0⟩
  rw[ag _ _ (hz4 k hk),kK k hk1]
 ·have d0:(bL s o !=0)=true:=by simp[p0]
  simp only[go_sem,d0];simp only[go_sem,k5,k4];have hdone:dR aR s o=s:=by simp[dR,p0]
  rw[hdone];refine .mk _ (.refl _) (.refl _) ⟨sg.put h4' _,_,(hS.keepb fun k hk hk1=>?_).bN fun _ e=>hH.none e,fun h=>(p0 h).elim⟩
  rw[ag _ _ (hz4 k hk),kK k hk1]
end Go.Proofs.YtokahfmoollblaaGreatDoor
namespace Go.Bf
def M5:Txt:=[112,111,108,105,99,121,32,111,112,101,110,32,112,101,114,109,105,116,117,110,108,101,115,115,32,123,32,125]
def mz:bE:=.mk jU false 6 [] [] [] []
def sY:an:=⟨0,[],[],[],[],mz,0⟩
end Go.Bf
namespace Go.Proofs.YtokahfmoollblaaGreatDoor
open Go Go.Ab Go.Bf Tryz
variable {g K H h G:Heap}{S s:an}{pid subj:Txt}{x:AV}{ys:List AV}{gs:List bt}{l:List ie}
theorem Px{y1 y2 y3 y4:AV}{tk ver palg:Int}{pset:Bool}{ptgt:gp}{prules:List cV}{pkids:List bE}{pobls:List cC}(h1:S.tick=tk)(h2:S.policy= .mk pid pset palg ptgt prules pkids pobls)(h3:S.version=ver)
  (a:Frz g K y1 (fM S.cases)) (b:Frz g K y2 (jV S.reviews)) (c:Frz g K y3 (kE S.notices)) (d:Frz g K y4 (dW S.roles)):
  Frz g K (.agg [.i tk,y1,y2,y3,y4,.s pid,.b pset,.i palg,aW ptgt,.sl (prules.map aC) .no,.sl (pkids.map aL) .no,ay pobls,.i ver]) (bY S):=by
 have:=vp a b c d;rw[h1,h2,h3,show gq (.mk pid pset palg ptgt prules pkids pobls)= [.s pid,.b pset,.i palg,aW ptgt,.sl (prules.map aC) .no,.sl (pkids.map aL) .no,ay pobls] by simp[gq,aX]]at this
 exact afv
theorem Ls{i j:Nat}{a b:Option Blk}(c:Option Blk)(h:i≠j):upd (upd (upd H i a) j b) i c=upd (upd H i c) j b:=by grind [ah,ag]
theorem M7:aR M5=(mz,0,0):=aeZ
theorem Nn(h:Heap)(he:iB h):ai prog 7 [] h fun r h' =>r=bY sY∧h' =h:=
 ai.freeze fun g hg _=>by
 replace he:=he.sub hg;refine aeJ func7 11 [.cell 0 40] fun hwf=>?_
 simp only[go_sem];intro i1 h1;simp only[go_sem];refine(zx M5 _ (he.sub (.aj h1))).pthen ?_;rw[M7];simp only[go_sem,kH,mz,aL,aW,ay,fF,jU,List.map_nil];intro i2 h2;have n21:=aH h2;have n2:=aB h2;simp only[go_sem,ak,n21.symm];refine .mk _ (.refl _) (.refl _) ⟨?_,bY sY,Px (S:=sY) rfl rfl rfl mP mP mP mP,rfl⟩;rw[Ls _ n21.symm];exact((Sub.refl g).put h1 _).put n2 _
theorem sC(s:Txt)(h:Heap):ai prog 100 [.s s] h fun r h' =>r=aS (idV s)∧h' =h:=by
 refine aeJ func100 5 [.cell 2 44] fun hwf=>?_
 exact akm
theorem dY(cat:Int)(name:Txt)(xs:List AV)(q:Perm)(h:Heap):ai prog 101 [.i cat,.s name,.sl xs q] h fun r h' =>r= .agg [.i cat,.s name,.sl xs q]∧h' =h:=by
 refine aeJ func101 11 [.cell 6 180] fun hwf=>?_
 exact akm
theorem MP{α:Type}(y:AV)(xs:List AV)(ds:List α)(q:α→Bool)(g:FuncId)(cap:List AV)(h:Heap)(hb:Rd h 3 y xs)(hn:xs.length=ds.length)(hl:xs.length≤1000000000)(hx:∀x∈xs,bA x=true)
  (hp:∀i (h1:i<xs.length) (h2:i<ds.length),ai prog g (xs[i]::cap) h fun r h' =>r= .b (q ds[i])∧h' =h):
  ai prog 256 [y,.fn g cap] h fun r h' =>r= .i (ixD q ds)∧h' =h:=by
 refine aeJ func256 19 [.tmp 4] fun hwf=>?_
 simp only[go_sem,hb.len];refine .intro (fun m ρ h' =>h' =h∧∃i:Nat,i≤xs.length∧m=xs.length - i∧(∀j (hj:j<i) (h2:j<ds.length),q ds[j]=false)∧lk ρ 0=some y∧lk ρ 1=some (.fn g cap)∧lk ρ 7=some (.i xs.length)∧lk ρ 8=some (.i i)) xs.length ?_ ?_
 ·refine⟨rfl,0,aeK,rfl,fun j hj=>aeK,?_,?_,?_,?_⟩<;>simp only[go_sem]
 ·rintro m ρ h' ⟨rfl,i,hi,rfl,hc,r0,r1,r7,r8⟩
  simp only[go_sem,r7,r8];refine .intro (fun e=>?_) (fun e=>?_)
  ·have hlt:i<xs.length:=aeH e
   have hlt2:i<ds.length:=aeK;have w1:IntKind.i64.wrap ((i:Int)+1)=((i+1:Nat):Int):=aeW;simp only[go_sem,r0,r1,r8];refine hb.idx (e:=189) i rfl hlt aeZ aeO fun p hp1=>?_
   have hld:=hp1.all (U:=U) (ty:=189) aeO afK agE;simp only[go_sem,hld];refine(show ai prog g (xs[i]::cap) _ _ from hp i hlt hlt2).pthen ?_
   cases d1:q ds[i]
   ·simp only[go_sem,r8,w1]
    refine⟨_,?_,rfl,i+1,aeK,rfl,fun j hj h2=>?_,?_,?_,?_,?_⟩
    ·omega
    ·grind
    all_goals simp only[go_sem,r0,r1,r7]
   ·simp only[go_sem]
    exact .same (.refl _) ⟨afy,rfl⟩
  ·have hge:i=xs.length:=by grind
   simp only[go_sem];exact .same (.refl _) ⟨aff,rfl⟩
theorem Om(x:xx){k:Nat}(hk:h k=some (.obj [.s subj] 9)):ai prog 211 [gw x,.ptr k 0] h fun r h' =>r= .b (x.actor==subj)∧h' =h:=by
 refine aeJ func211 8 [.tmp 3] fun hwf=>?_
 simp only[go_sem,gw];exact ajf
theorem ve{α:Type}(q:α→Bool)(l:List α):decide ((0:Int)≤ixD q l)=l.any q:=by
 unfold ixD
 grind
theorem Kh(y:AV)(ds:List xx)(q:xx→Bool)(g:FuncId)(cap:List AV)(h:Heap)(hb:Rd h 3 y (ds.map gw))(hl:ds.length≤1000000000)
  (hp:∀i (h2:i<ds.length),ai prog g (gw ds[i]::cap) h fun r h' =>r= .b (q ds[i])∧h' =h):
  ai prog 210 [y,.fn g cap] h fun r h' =>r= .b (ds.any q)∧h' =h:=by
 refine aeJ func210 9 [.tmp 4] fun hwf=>?_
 simp only[go_sem];refine(MP y _ ds q g cap h hb aeR aeL (pz (fun _=>rfl) _) fun i a b=>by rw[aeB];exact hp i b).pthen ?_
 simp only[go_sem,ve];exact aeV
theorem QI{c:aN}(hb:RdC h x c)(subj:Txt)(hl:c.log.length≤1000000000):ai prog 156 [x,.s subj] h fun r h' =>r=aS (uW c.log subj)∧h' =h:=by
 obtain⟨f,l,rfl,hf,hlg⟩:=hb;refine aeJ func156 13 [.cell 4 44] fun hwf=>?_
 simp only[go_sem];intro i1 h1;simp only[go_sem];intro i2 h2;have n21:=aH h2;have n2:=aB h2;simp only[go_sem];intro i3 h3;have h3' :=aB h3;have n31:=aH h3';have n3:=aB h3';simp only[go_sem];intro i4 h4;have n43:=aH h4;have h4' :=aB h4;have h4'' :=aB h4';have n41:=aH h4'';have n4:=aB h4'';have hs:∀a b d e,Ab.Sub h (upd (upd (upd (upd h i1 a) i2 b) i3 d) i4 e):=fun a b d e=>((((Sub.refl h).put h1 a).put n2 b).put n3 d).put n4 e
 simp only[go_sem,ak,n21.symm,n31.symm,n41.symm];refine(Kh l c.log (fun x=>x.actor==subj) _ [.ptr i2 0] _ (hlg.sub (hs _ _ _ _)) hl fun i b=>Om _ (by grind [ak,gA,not_false_eq_true])).pthen ?_
 cases d1:c.log.any fun x=>x.actor==subj
 ·exact aj4
 ·exact aj4
def As(g:bt)(q:Perm):AV:=.agg [.i g.cat,.s g.name,.sl (g.bag.map aS) q]
def GRow(ys:List AV)(gs:List bt):Prop:=ys.length=gs.length∧∀j (h1:j<ys.length) (h2:j<gs.length),∃q,ys[j]=As gs[j] q
theorem GRow.sized(h:GRow ys gs):Sized 3 ys:=fun z hz=>by
 obtain⟨i,hi,rfl⟩:=List.mem_iff_getElem.1 hz;obtain⟨q,e⟩:=h.2 i hi (by rw[←h.1];omega)
 rw[e];rfl
theorem GRow.one(g:bt)(q:Perm):GRow [As g q] [g]:=⟨rfl,fun j h1 h2=>by grind⟩
theorem GRow.app{zs:List AV}{ks:List bt}(h:GRow ys gs)(k:GRow zs ks):GRow (ys++zs) (gs++ks):=⟨by simp[h.1,k.1],fun j h1 h2=>by
 have hl:=h.1
 by_cases e:j<ys.length
 ·rw[List.getElem_append_left e,List.getElem_append_left aeK];exact h.2 j e aeK
 ·rw[List.getElem_append_right aeK,List.getElem_append_right aeK]
  simp only[aeE]at h1 h2;obtain⟨q,e'⟩:=k.2 (j - ys.length) aeK aeK;exact⟨q,aeL⟩⟩
theorem GRow.weak(h:GRow ys gs)(q:Perm):Weak (.sl ys q) (bM gs):=by
 refine .deep _ _ q (by simp[h.1]) (fun k h1 h2=>?_) fun k h1 h2 j h3 h4=>?_
 ·obtain⟨q',e'⟩:=h.2 k h1 aeL
  rw[e',aeB];rfl
 ·obtain⟨q',e'⟩:=h.2 k h1 aeL
  simp only[e',aeB];simp only[e',As,AV.cells]at h3;rcases j with _|_|_|j
  ·exact af8
  ·exact af8
  ·exact aht
  ·simp at h3;omega
theorem GRow.givs(gs:List bt):GRow (gs.map lS) gs:=⟨aeR,fun j h1 h2=>⟨.no,aeU⟩⟩
theorem cA:(U 180).sz=3:=aeZ
theorem fQ(g:bt)(q:Perm):Sized 3 [As g q]:=fun z hz=>ahI
def sR(c:aN)(subj:Txt):List bt:=[⟨3,idT,[idV c.id]⟩,⟨3,[111,119,110,101,114],[idV c.owner]⟩,⟨3,[115,116,97,116,101],[idV c.state]⟩,⟨3,[101,118,101,110,116,115],[⟨2,c.log.length,[]⟩]⟩,⟨3,[116,111,111,107],[uW c.log subj]⟩]
def sU(c:aN):List bt:=match c.log.getLast? with
 |some x=>[⟨3,[108,97,115,116],[idV x.actor]⟩]
 |none=>[]
def fS(l:List cO):List bt:=(l.filter fun f=>decide (f.name.length≤14)).map fun f=>⟨3,[102,95]++f.name,[f.val]⟩
theorem mI(l:List cO)(i:Nat)(h:i<l.length):fS (l.take (i+1))=fS (l.take i)++(if l[i].name.length≤14 then [⟨3,[102,95]++l[i].name,[l[i].val]⟩]else []):=by grind [fS,List.take_succ_eq_append_getElem]
theorem qG(c:aN)(subj:Txt):cI c subj=sR c subj++sU c++fS c.fields:=rfl
theorem FU(c:aN)(subj:Txt)(hl:c.log.length≤1000000)(hlf:c.fields.length≤1000000):ai prog 102 [bV c,.s subj] h fun r h' =>r=bM (cI c subj)∧h' =h:=by
 refine aeJ func102 77 [.tmp 4] fun hwf=>?_
 simp only[go_sem,bV,mY,gI,sW];intro i1 h1;simp only[go_sem];refine .quiet aeN ?_;simp only[go_sem];refine⟨_,sC _ _,?_⟩;simp only[go_sem,aS,idV];refine⟨_,dY _ _ _ _ _,?_⟩;simp only[go_sem];refine⟨_,sC _ _,?_⟩;simp only[go_sem,aS,idV];refine⟨_,dY _ _ _ _ _,?_⟩;simp only[go_sem];refine⟨_,sC _ _,?_⟩;simp only[go_sem,aS,idV];refine⟨_,dY _ _ _ _ _,?_⟩;simp only[go_sem];refine⟨_,dY _ _ _ _ _,?_⟩;simp only[go_sem];refine⟨_,QI (show RdC _ (.agg [.s c.id,.s c.owner,.s c.state,.sl (c.fields.map bB) .no,.sl (c.log.map gw) .no]) c from rdC _ c) subj aeK,?_⟩
 simp only[go_sem,aS];refine⟨_,dY _ _ _ _ _,?_⟩;simp only[go_sem,aeA];have hs1:∀b,Ab.Sub h (upd h i1 b):=fun b=>(Sub.refl h).put h1 b
 have hrow5:GRow [.agg [.i 3,.s [105,100],.sl [.agg [.i 5,.i 0,.s c.id]] .full],.agg [.i 3,.s [111,119,110,101,114],.sl [.agg [.i 5,.i 0,.s c.owner]] .full],.agg [.i 3,.s [115,116,97,116,101],.sl [.agg [.i 5,.i 0,.s c.state]] .full],.agg [.i 3,.s [101,118,101,110,116,115],.sl [.agg [.i 2,.i c.log.length,.s []]] .full],.agg [.i 3,.s [116,111,111,107],.sl [aS (uW c.log subj)] .full]] (sR c subj):=(GRow.one ⟨3,idT,[idV c.id]⟩ .full).app ((GRow.one ⟨3,[111,119,110,101,114],[idV c.owner]⟩ .full).app ((GRow.one ⟨3,[115,116,97,116,101],[idV c.state]⟩ .full).app ((GRow.one ⟨3,[101,118,101,110,116,115],[⟨2,c.log.length,[]⟩]⟩ .full).app (GRow.one ⟨3,[116,111,111,107],[uW c.log subj]⟩ .full))));simp only[aS]at hrow5;cases d1:decide ((0:Int)<(c.log.length:Int))
 ·have hl0:c.log= []:=List.length_eq_zero_iff.1 aeL
  simp only[go_sem];simp only[go_sem,aeA];refine .intro (fun m ρ H=>∃(i:Nat) (y:AV) (ys:List AV),Acc U 180 h H y ys∧H i1=some (.obj [.s c.id,.s c.owner,.s c.state,.sl (c.fields.map bB) .no,.sl (c.log.map gw) .no] 111)∧GRow ys (sR c subj++fS (c.fields.take i))∧i≤c.fields.length∧m=c.fields.length - i∧lk ρ 5=some y∧lk ρ 2=some (.ptr i1 0)∧lk ρ 55=some (.sl (c.fields.map bB) .no)∧lk ρ 56=some (.i c.fields.length)∧lk ρ 57=some (.i i)) c.fields.length ?_ ?_
  ·refine⟨0,_,_,.full (hs1 _),ah ..,(by have:=hrow5;simpa[fS]using this),aeK,rfl,?_,?_,?_,?_,?_⟩<;>simp only[go_sem]
  ·rintro m ρ H ⟨i,y,ys,hy,g1,hrow,hi,rfl,r5,r2,r55,r56,r57⟩
   simp only[go_sem,r56,r57];refine .intro (fun e=>?_) (fun e=>?_)
   ·have hlt:i<c.fields.length:=aeH e
    have w1:IntKind.i64.wrap ((i:Int)+1)=((i+1:Nat):Int):=aeW;simp only[go_sem,r55,r57];refine .at i aeL aeU ?_;simp only[go_sem,aeB,bB];intro i8 h8;have n81:i1≠i8:=fun e=>aeL
    simp only[go_sem];cases d2:decide ((c.fields[i].name.length:Int)≤14)
    ·exact ajj
    ·simp only[go_sem,r5]
     have h14:c.fields[i].name.length≤14:=aeL;refine⟨by grind [Nat,lim],?_⟩
     refine(dY _ _ _ _ _).pthen ?_;simp only[go_sem];refine(hy.sub (.aj h8)).app (zs:=[As ⟨3,[102,95]++c.fields[i].name,[c.fields[i].val]⟩ .full]) aeO aeO (fun k hk=>(Rd.sl (fQ _ _) .full:Rd _ 3 _ _).src cA hk) (by rw[cA];exact hrow.sized) (by grind [cA,fQ]) (by have hln:(fS (c.fields.take i)).length≤i:=agT;simp only[go_sem,hrow.1,List.length_cons,List.length_nil,sR];omega) fun y' H' hy' kp=>?_
     exact ajE
   ·have hge:i=c.fields.length:=by grind
    subst hge;rw[List.take_length]at hrow;obtain⟨q,rfl⟩:=hy.row;simp only[go_sem,r5];exact .mk (bM (cI c subj)) (show Weak (.sl ys q) _ by rw[qG,sU,hl0];simpa using hrow.weak q) hy.1 ⟨rfl,rfl⟩
 ·have hl1:0<c.log.length:=by grind
  simp only[go_sem];have w0:IntKind.i64.wrap ((c.log.length:Int) - 1)=((c.log.length - 1:Nat):Int):=aeW;simp only[go_sem,w0];refine .at (c.log.length - 1) aeL aeU ?_;simp only[go_sem,aeB,gw];rw[if_neg (fun hh=>hh.1)]
  refine(sC _ _).pthen ?_;simp only[go_sem,aS,idV];refine(dY _ _ _ _ _).pthen ?_;simp only[go_sem];have hgl:c.log.getLast? =some c.log[c.log.length - 1]:=aeL;have hlast:GRow [.agg [.i 3,.s [108,97,115,116],.sl [.agg [.i 5,.i 0,.s c.log[c.log.length - 1].actor]] .full]] (sU c):=by unfold sU;rw[hgl];exact GRow.one ⟨3,[108,97,115,116],[idV c.log[c.log.length - 1].actor]⟩ .full
  refine .accs (hs1 _) fun y0 H0 hy0 kp0=>?_
  simp only[go_sem,kp0 _ _ _ (ah ..),aeA];refine .intro (fun m ρ H=>∃(i:Nat) (y:AV) (ys:List AV),Acc U 180 h H y ys∧H i1=some (.obj [.s c.id,.s c.owner,.s c.state,.sl (c.fields.map bB) .no,.sl (c.log.map gw) .no] 111)∧GRow ys ((sR c subj++sU c)++fS (c.fields.take i))∧i≤c.fields.length∧m=c.fields.length - i∧lk ρ 5=some y∧lk ρ 2=some (.ptr i1 0)∧lk ρ 55=some (.sl (c.fields.map bB) .no)∧lk ρ 56=some (.i c.fields.length)∧lk ρ 57=some (.i i)) c.fields.length ?_ ?_
  ·refine⟨0,_,_,hy0,kp0 _ _ _ (ah ..),(by have:=hrow5.app hlast;simpa[fS]using this),aeK,rfl,?_,?_,?_,?_,?_⟩<;>simp only[go_sem]
  ·rintro m ρ H ⟨i,y,ys,hy,g1,hrow,hi,rfl,r5,r2,r55,r56,r57⟩
   simp only[go_sem,r56,r57];refine .intro (fun e=>?_) (fun e=>?_)
   ·have hlt:i<c.fields.length:=aeH e
    have w1:IntKind.i64.wrap ((i:Int)+1)=((i+1:Nat):Int):=aeW;simp only[go_sem,r55,r57];refine .at i aeL aeU ?_;simp only[go_sem,aeB,bB];intro i8 h8;have n81:i1≠i8:=fun e=>aeL
    simp only[go_sem];cases d2:decide ((c.fields[i].name.length:Int)≤14)
    ·exact ajj
    ·simp only[go_sem,r5]
     have h14:c.fields[i].name.length≤14:=aeL;refine⟨by grind [Nat,lim],?_⟩
     refine(dY _ _ _ _ _).pthen ?_;simp only[go_sem];refine(hy.sub (.aj h8)).app (zs:=[As ⟨3,[102,95]++c.fields[i].name,[c.fields[i].val]⟩ .full]) aeO aeO (fun k hk=>(Rd.sl (fQ _ _) .full:Rd _ 3 _ _).src cA hk) (by rw[cA];exact hrow.sized) (by grind [cA,fQ]) (by have hln:(fS (c.fields.take i)).length≤i:=agT;simp only[go_sem,hrow.1,List.length_cons,List.length_nil,sR,sU,hgl];omega) fun y' H' hy' kp=>?_
     exact ajE
   ·have hge:i=c.fields.length:=by grind
    subst hge;rw[List.take_length]at hrow;obtain⟨q,rfl⟩:=hy.row;simp only[go_sem,r5];exact .mk (bM (cI c subj)) (show Weak (.sl ys q) _ by rw[qG];exact hrow.weak q) hy.1 ⟨rfl,rfl⟩
theorem Fa{i:Nat}(h:i<l.length)(h1:l[i].subj=subj)(h2:(dG (l.take i) subj).length<16):dG (l.take (i+1)) subj=dG (l.take i) subj++ [idV l[i].role]:=by
 unfold dG at h2⊢;rw[List.take_succ_eq_append_getElem h,List.filter_append,List.map_append]
 grind [List.length_take,idV,List.take_append,List.take_of_length_le]
theorem zM{i:Nat}(h:i<l.length)(h1:l[i].subj≠subj∨¬(dG (l.take i) subj).length<16):dG (l.take (i+1)) subj=dG (l.take i) subj:=by grind [dG,List.take_succ_eq_append_getElem,List.take_append,List.length_take]
theorem Hq(l:List ie)(subj:Txt):(dG l subj).length≤16:=by grind [dG,List.length_take]
def cS(s:an)(o:OpD):List bt:=[⟨1,idT,[idV o.subj]⟩,⟨1,[114,111,108,101],dG s.roles o.subj⟩,⟨2,[110,97,109,101],[idV (iW o.kind)]⟩]
theorem yI(hf:Few s)(id:Txt):(bw s.cases id).log.length≤1000000∧(bw s.cases id).fields.length≤1000000:=by
 cases e:cj s.cases id
 ·rw[Dt e];decide
 ·rw[Ds e];exact⟨hf.log _ aeR,hf.fields _ aeR⟩
theorem Dm(c:aN)(subj:Txt):(cI c subj).length≤6+c.fields.length:=by grind [qG,aeE,sU,fS,aeA,List.length_filter_le,sR]
theorem jQ{i:Nat}(hs:Ab.Sub h G)(hi:G i=none):h i=none:=hs.none hi
theorem C4:(U 44).sz=3:=aeZ
theorem Sp(hb:RdS h x s)(o:OpD)(hf:Few s)(hk:i64 o.kind):ai prog 42 [x,opA o] h fun r h' =>r=bM (fL s o)∧h' =h:=by
 have hca:=fun(G:Heap) (hG:Ab.Sub h G)=>Co (hb.sub hG) o.case hf
 obtain⟨y1,y2,y3,y4,rfl,⟨xs,hc,hn,hcs⟩,h2,h3,h4⟩:=hb;cases hpp:s.policy with
 |mk pid pset palg ptgt prules pkids pobls=>
 have hcC:gq (.mk pid pset palg ptgt prules pkids pobls)= [.s pid,.b pset,.i palg,aW ptgt,.sl (prules.map aC) .no,.sl (pkids.map aL) .no,ay pobls]:=ahS;rw[hpp,hcC]at hca;simp only[List.cons_append,List.nil_append]at hca;have hfr:=hf.roles;refine aeJ func42 99 [.tmp 4] fun hwf=>?_
 simp only[go_sem,hcC,opA,opC,List.cons_append,List.nil_append];intro i1 h1;simp only[go_sem];intro i2 h2';have n21:=aH h2';have n2:=aB h2';simp only[go_sem,ak,n21.symm,h4.len,aeA];obtain⟨H,eH⟩:∃H,upd (upd h i1 (some (.obj [.i s.tick,y1,y2,y3,y4,.s pid,.b pset,.i palg,aW ptgt,.sl (prules.map aC) .no,.sl (pkids.map aL) .no,ay pobls,.i s.version] 40))) i2 (some (.obj (opC o) 46))=H:=⟨_,rfl⟩;have hH:Ab.Sub h H:=afO;have g1:H i1=some (.obj [.i s.tick,y1,y2,y3,y4,.s pid,.b pset,.i palg,aW ptgt,.sl (prules.map aC) .no,.sl (pkids.map aL) .no,ay pobls,.i s.version] 40):=agq;have g2:H i2=some (.obj (opC o) 46):=agh;simp only[opC]at eH g2;rw[eH];clear eH;refine .intro (fun m ρ G=>∃(i:Nat) (y:AV),Acc U 44 H G y ((dG (s.roles.take i) o.subj).map aS)∧i≤s.roles.length∧m=s.roles.length - i∧lk ρ 5=some y∧lk ρ 2=some (.ptr i1 0)∧lk ρ 3=some (.ptr i2 0)∧lk ρ 12=some y4∧lk ρ 13=some (.i s.roles.length)∧lk ρ 14=some (.i i)) s.roles.length ?_ ?_
 ·refine⟨0,_,.full (.refl _),aeK,rfl,?_,?_,?_,?_,?_,?_⟩<;>simp only[go_sem,dG,List.take_zero,List.filter_nil,List.map_nil]
 ·rintro m ρ G ⟨i,y,hy,hi,rfl,r5,r2,r3,r12,r13,r14⟩
  have k1:=hy.1 _ _ g1;have k2:=hy.1 _ _ g2;simp only[go_sem,r13,r14];refine .intro (fun e=>?_) (fun e=>?_)
  ·have hlt:i<s.roles.length:=aeH e
   have w1:=aeG i aeK;simp only[go_sem,r12,r14];refine(h4.sub (hH.trans hy.1)).idx (e:=138) i rfl afc Jh aeO fun p hp1=>?_
   have hld:=hp1.all (U:=U) (ty:=138) aeX (by rw[Jh,aeB];rfl) afu
   simp only[go_sem,hld,aeB,dj];intro i7 h7;have n71:i1≠i7:=fun e=>by rw[←e,k1]at h7;cases h7
   have n72:i2≠i7:=fun e=>by rw[←e,k2]at h7;cases h7
   simp only[go_sem,ak,n72,k2,r3];have hy7:=hy.sub (.aj h7 (k:=some (.obj [.s s.roles[i].subj,.s s.roles[i].role] 138)));have lr:=Hq (s.roles.take i) o.subj;cases d1:(s.roles[i].subj==o.subj)
   ·have p1:s.roles[i].subj≠o.subj:=by simpa using d1
    simp only[go_sem,r14,w1];refine⟨_,?_,i+1,y,by rw[zM hlt (.inl p1)];exact hy7,aeK,rfl,?_,?_,?_,?_,?_,?_⟩
    ·omega
    all_goals simp only[go_sem,r5,r2,r3,r12,r13]
   ·have p1:s.roles[i].subj=o.subj:=by simpa using d1
    simp only[go_sem,r5,hy.len,aeA];cases d2:decide (((dG (s.roles.take i) o.subj).length:Int)<16)
    ·have p2:¬(dG (s.roles.take i) o.subj).length<16:=by have:=aeD d2;omega
     simp only[go_sem,r14,w1];refine⟨_,?_,i+1,y,by rw[zM hlt (.inr p2)];exact hy7,aeK,rfl,?_,?_,?_,?_,?_,?_⟩
     ·omega
     all_goals simp only[go_sem,r5,r2,r3,r12,r13]
    ·have p2:(dG (s.roles.take i) o.subj).length<16:=by have:=aeC d2;omega
     simp only[go_sem,r5];refine(sC _ _).pthen ?_;simp only[go_sem,aS,idV];refine hy7.app (zs:=[aS (idV s.roles[i].role)]) (by rw[C4];decide) aeP (fun k hk=>(Rd.sl (fun z hz=>ahI) .full:Rd _ 3 _ _).src C4 hk) (by rw[C4];exact bx (f:=aS) (fun _=>rfl) _) (by rw[C4];exact bx (f:=aS) (fun _=>rfl) [idV s.roles[i].role]) af3 fun y' H' hy' kp=>?_
     simp only[go_sem,r14,w1];refine⟨_,?_,i+1,y',by rw[Fa hlt p1 p2,List.map_append];exact hy',aeK,rfl,?_,?_,?_,?_,?_,?_⟩
     ·omega
     all_goals simp only[go_sem,r2,r3,r12,r13]
  ·have hge:i=s.roles.length:=by have:=aeD e;omega
   subst hge;rw[List.take_length]at hy;simp only[go_sem];obtain⟨q5,rfl⟩:=hy.row;refine .quiet aeN ?_;simp only[go_sem,k2,r3];refine⟨_,sC _ _,?_⟩;simp only[go_sem,aS,idV];refine⟨_,dY _ _ _ _ _,?_⟩;simp only[go_sem,r5];refine⟨_,dY _ _ _ _ _,?_⟩;simp only[go_sem,k2,r3];refine⟨_,vb _ hk _,?_⟩;simp only[go_sem];refine⟨_,sC _ _,?_⟩;simp only[go_sem,aS,idV];refine⟨_,dY _ _ _ _ _,?_⟩;simp only[go_sem,k2,r3];have hak:=fun(G:Heap)=>FU (h:=G) (bw s.cases o.case) o.subj (yI hf o.case).1 (yI hf o.case).2
   simp only[bV,mY,gI,sW]at hak;have hakl:=Dm (bw s.cases o.case) o.subj;have hakf:=(yI hf o.case).2;have hr0:GRow [.agg [.i 1,.s [105,100],.sl [.agg [.i 5,.i 0,.s o.subj]] .full],.agg [.i 1,.s [114,111,108,101],.sl ((dG s.roles o.subj).map aS) q5],.agg [.i 2,.s [110,97,109,101],.sl [.agg [.i 5,.i 0,.s (iW o.kind)]] .full]] (cS s o):=(GRow.one ⟨1,idT,[idV o.subj]⟩ .full).app ((GRow.one ⟨1,[114,111,108,101],dG s.roles o.subj⟩ q5).app (GRow.one ⟨2,[110,97,109,101],[idV (iW o.kind)]⟩ .full))
   by_cases pf:o.field= []
   ·have df:(o.field==([]:Txt))=true:=by simp[pf]
    simp only[go_sem,k2,r3,df]
    by_cases pt:o.to= []
    ·have dt:(o.to==([]:Txt))=true:=by simp[pt]
     simp only[go_sem,k1,r2,dt];refine(dY _ _ _ _ _).pthen ?_;simp only[go_sem];refine .accs hy.1 fun y1 G1 hy1 kp1=>?_
     have k1_1:=kp1 _ _ _ k1;have k2_1:=kp1 _ _ _ k2;have hr1:=hr0.app (GRow.one (⟨4,[110,111,119],[⟨4,s.tick,[]⟩]⟩:bt) .full);simp only[go_sem,k1_1,k2_1,r2,r3];refine(hca _ (hH.trans hy1.1)).pthen ?_;simp only[go_sem,bV,mY,gI,sW];intro i20 h20;have n21:i1≠i20:=fun e=>by rw[←e,k1_1]at h20;cases h20
     have n22:i2≠i20:=fun e=>by rw[←e,k2_1]at h20;cases h20
     simp only[go_sem];obtain⟨q2,eq2⟩:=hy1.row;cases dth:cj s.cases o.case
     ·simp only[go_sem]
      exact .mk (bM (fL s o)) (show Weak y1 _ by rw[eq2,show fL s o=(cS s o++ [(⟨4,[110,111,119],[⟨4,s.tick,[]⟩]⟩:bt)]) by simp[fL,cS,dth,pf,pt]];exact hr1.weak q2) ((hH.trans hy1.1).put (jQ (hH.trans hy1.1) h20) _) ⟨rfl,rfl⟩
     ·simp only[go_sem,ak,n22,k2_1,r3]
      by_cases p6:o.kind=6
      ·have d6:(o.kind !=6)=false:=by simp[p6]
       simp only[go_sem,d6];exact .mk (bM (fL s o)) (show Weak y1 _ by rw[eq2,show fL s o=(cS s o++ [(⟨4,[110,111,119],[⟨4,s.tick,[]⟩]⟩:bt)]) by simp[fL,cS,dth,p6,pf,pt]];exact hr1.weak q2) ((hH.trans hy1.1).put (jQ (hH.trans hy1.1) h20) _) ⟨rfl,rfl⟩
      ·have d6:(o.kind !=6)=true:=by simp[p6]
       simp only[go_sem,ak,n22,k2_1,r3,d6];refine(hak _).pthen ?_;simp only[go_sem,bM];refine(hy1.sub (.aj h20)).app (zs:=(cI (bw s.cases o.case) o.subj).map lS) ag8 aeP (fun k hk=>(eL lS 3 (fun _=>rfl) _ _).src cA hk) (by rw[cA];exact hr1.sized) agt afJ fun yz Gz hyz kpz=>?_
       simp only[go_sem];obtain⟨qz,eqz⟩:=hyz.row;exact .mk (bM (fL s o)) (show Weak yz _ by rw[eqz,show fL s o=(cS s o++ [(⟨4,[110,111,119],[⟨4,s.tick,[]⟩]⟩:bt)])++cI (bw s.cases o.case) o.subj by simp[fL,cS,dth,p6,pf,pt]];exact(hr1.app (GRow.givs _)).weak qz) (hH.trans hyz.1) ⟨rfl,rfl⟩
    ·have dt:(o.to==([]:Txt))=false:=by simp[pt]
     simp only[go_sem,k2,r3,dt];refine(sC _ _).pthen ?_;simp only[go_sem,aS,idV];refine(dY _ _ _ _ _).pthen ?_;simp only[go_sem];refine .accs hy.1 fun y3 G3 hy3 kp3=>?_
     have k1_3:=kp3 _ _ _ k1;have k2_3:=kp3 _ _ _ k2;have hr3:=hr0.app (GRow.one (⟨2,[116,111],[idV o.to]⟩:bt) .full);simp only[go_sem,k1_3,r2];refine(dY _ _ _ _ _).pthen ?_;simp only[go_sem];refine hy3.app (zs:=[As (⟨4,[110,111,119],[⟨4,s.tick,[]⟩]⟩) .full]) ag8 aeP (fun k hk=>(Rd.sl (fQ _ _) .full:Rd _ 3 _ _).src cA hk) (by rw[cA];exact hr3.sized) aih afQ fun y4 G4 hy4 kp4=>?_
     have k1_4:=kp4 _ _ _ k1_3;have k2_4:=kp4 _ _ _ k2_3;have hr4:=hr3.app (GRow.one (⟨4,[110,111,119],[⟨4,s.tick,[]⟩]⟩:bt) .full);simp only[go_sem,k1_4,k2_4,r2,r3];refine(hca _ (hH.trans hy4.1)).pthen ?_;simp only[go_sem,bV,mY,gI,sW];intro i50 h50;have n51:i1≠i50:=fun e=>by rw[←e,k1_4]at h50;cases h50
     have n52:i2≠i50:=fun e=>by rw[←e,k2_4]at h50;cases h50
     simp only[go_sem];obtain⟨q5,eq5⟩:=hy4.row;cases dth:cj s.cases o.case
     ·simp only[go_sem]
      exact .mk (bM (fL s o)) (show Weak y4 _ by rw[eq5,show fL s o=((cS s o++ [(⟨2,[116,111],[idV o.to]⟩:bt)])++ [(⟨4,[110,111,119],[⟨4,s.tick,[]⟩]⟩:bt)]) by simp[fL,cS,dth,pf,pt]];exact hr4.weak q5) ((hH.trans hy4.1).put (jQ (hH.trans hy4.1) h50) _) ⟨rfl,rfl⟩
     ·simp only[go_sem,ak,n52,k2_4,r3]
      by_cases p6:o.kind=6
      ·have d6:(o.kind !=6)=false:=by simp[p6]
       simp only[go_sem,d6];exact .mk (bM (fL s o)) (show Weak y4 _ by rw[eq5,show fL s o=((cS s o++ [(⟨2,[116,111],[idV o.to]⟩:bt)])++ [(⟨4,[110,111,119],[⟨4,s.tick,[]⟩]⟩:bt)]) by simp[fL,cS,dth,p6,pf,pt]];exact hr4.weak q5) ((hH.trans hy4.1).put (jQ (hH.trans hy4.1) h50) _) ⟨rfl,rfl⟩
      ·have d6:(o.kind !=6)=true:=by simp[p6]
       simp only[go_sem,ak,n52,k2_4,r3,d6];refine(hak _).pthen ?_;simp only[go_sem,bM];refine(hy4.sub (.aj h50)).app (zs:=(cI (bw s.cases o.case) o.subj).map lS) ag8 aeP (fun k hk=>(eL lS 3 (fun _=>rfl) _ _).src cA hk) (by rw[cA];exact hr4.sized) agt afJ fun yz Gz hyz kpz=>?_
       simp only[go_sem];obtain⟨qz,eqz⟩:=hyz.row;exact .mk (bM (fL s o)) (show Weak yz _ by rw[eqz,show fL s o=((cS s o++ [(⟨2,[116,111],[idV o.to]⟩:bt)])++ [(⟨4,[110,111,119],[⟨4,s.tick,[]⟩]⟩:bt)])++cI (bw s.cases o.case) o.subj by simp[fL,cS,dth,p6,pf,pt]];exact(hr4.app (GRow.givs _)).weak qz) (hH.trans hyz.1) ⟨rfl,rfl⟩
   ·have df:(o.field==([]:Txt))=false:=by simp[pf]
    simp only[go_sem,k2,r3,df];refine(sC _ _).pthen ?_;simp only[go_sem,aS,idV];refine(dY _ _ _ _ _).pthen ?_;simp only[go_sem];refine .accs hy.1 fun y6 G6 hy6 kp6=>?_
    have k1_6:=kp6 _ _ _ k1;have k2_6:=kp6 _ _ _ k2;have hr6:=hr0.app (GRow.one (⟨2,[102,105,101,108,100],[idV o.field]⟩:bt) .full);simp only[go_sem,k2_6,r3]
    by_cases pt:o.to= []
    ·have dt:(o.to==([]:Txt))=true:=by simp[pt]
     simp only[go_sem,k1_6,r2,dt];refine(dY _ _ _ _ _).pthen ?_;simp only[go_sem];refine hy6.app (zs:=[As (⟨4,[110,111,119],[⟨4,s.tick,[]⟩]⟩) .full]) ag8 aeP (fun k hk=>(Rd.sl (fQ _ _) .full:Rd _ 3 _ _).src cA hk) (by rw[cA];exact hr6.sized) aih afQ fun y7 G7 hy7 kp7=>?_
     have k1_7:=kp7 _ _ _ k1_6;have k2_7:=kp7 _ _ _ k2_6;have hr7:=hr6.app (GRow.one (⟨4,[110,111,119],[⟨4,s.tick,[]⟩]⟩:bt) .full);simp only[go_sem,k1_7,k2_7,r2,r3];refine(hca _ (hH.trans hy7.1)).pthen ?_;simp only[go_sem,bV,mY,gI,sW];intro i80 h80;have n81:i1≠i80:=fun e=>by rw[←e,k1_7]at h80;cases h80
     have n82:i2≠i80:=fun e=>by rw[←e,k2_7]at h80;cases h80
     simp only[go_sem];obtain⟨q8,eq8⟩:=hy7.row;cases dth:cj s.cases o.case
     ·simp only[go_sem]
      exact .mk (bM (fL s o)) (show Weak y7 _ by rw[eq8,show fL s o=((cS s o++ [(⟨2,[102,105,101,108,100],[idV o.field]⟩:bt)])++ [(⟨4,[110,111,119],[⟨4,s.tick,[]⟩]⟩:bt)]) by simp[fL,cS,dth,pf,pt]];exact hr7.weak q8) ((hH.trans hy7.1).put (jQ (hH.trans hy7.1) h80) _) ⟨rfl,rfl⟩
     ·simp only[go_sem,ak,n82,k2_7,r3]
      by_cases p6:o.kind=6
      ·have d6:(o.kind !=6)=false:=by simp[p6]
       simp only[go_sem,d6];exact .mk (bM (fL s o)) (show Weak y7 _ by rw[eq8,show fL s o=((cS s o++ [(⟨2,[102,105,101,108,100],[idV o.field]⟩:bt)])++ [(⟨4,[110,111,119],[⟨4,s.tick,[]⟩]⟩:bt)]) by simp[fL,cS,dth,p6,pf,pt]];exact hr7.weak q8) ((hH.trans hy7.1).put (jQ (hH.trans hy7.1) h80) _) ⟨rfl,rfl⟩
      ·have d6:(o.kind !=6)=true:=by simp[p6]
       simp only[go_sem,ak,n82,k2_7,r3,d6];refine(hak _).pthen ?_;simp only[go_sem,bM];refine(hy7.sub (.aj h80)).app (zs:=(cI (bw s.cases o.case) o.subj).map lS) ag8 aeP (fun k hk=>(eL lS 3 (fun _=>rfl) _ _).src cA hk) (by rw[cA];exact hr7.sized) agt afJ fun yz Gz hyz kpz=>?_
       simp only[go_sem];obtain⟨qz,eqz⟩:=hyz.row;exact .mk (bM (fL s o)) (show Weak yz _ by rw[eqz,show fL s o=((cS s o++ [(⟨2,[102,105,101,108,100],[idV o.field]⟩:bt)])++ [(⟨4,[110,111,119],[⟨4,s.tick,[]⟩]⟩:bt)])++cI (bw s.cases o.case) o.subj by simp[fL,cS,dth,p6,pf,pt]];exact(hr7.app (GRow.givs _)).weak qz) (hH.trans hyz.1) ⟨rfl,rfl⟩
    ·have dt:(o.to==([]:Txt))=false:=by simp[pt]
     simp only[go_sem,k2_6,r3,dt];refine(sC _ _).pthen ?_;simp only[go_sem,aS,idV];refine(dY _ _ _ _ _).pthen ?_;simp only[go_sem];refine hy6.app (zs:=[As (⟨2,[116,111],[idV o.to]⟩) .full]) ag8 aeP (fun k hk=>(Rd.sl (fQ _ _) .full:Rd _ 3 _ _).src cA hk) (by rw[cA];exact hr6.sized) aih afQ fun y9 G9 hy9 kp9=>?_
     have k1_9:=kp9 _ _ _ k1_6;have k2_9:=kp9 _ _ _ k2_6;have hr9:=hr6.app (GRow.one (⟨2,[116,111],[idV o.to]⟩:bt) .full);simp only[go_sem,k1_9,r2];refine(dY _ _ _ _ _).pthen ?_;simp only[go_sem];refine hy9.app (zs:=[As (⟨4,[110,111,119],[⟨4,s.tick,[]⟩]⟩) .full]) ag8 aeP (fun k hk=>(Rd.sl (fQ _ _) .full:Rd _ 3 _ _).src cA hk) (by rw[cA];exact hr9.sized) aih afQ fun y10 G10 hy10 kp10=>?_
     have k1_10:=kp10 _ _ _ k1_9;have k2_10:=kp10 _ _ _ k2_9;have hr10:=hr9.app (GRow.one (⟨4,[110,111,119],[⟨4,s.tick,[]⟩]⟩:bt) .full);simp only[go_sem,k1_10,k2_10,r2,r3];refine(hca _ (hH.trans hy10.1)).pthen ?_;simp only[go_sem,bV,mY,gI,sW];intro i110 h110;have n111:i1≠i110:=fun e=>by rw[←e,k1_10]at h110;cases h110
     have n112:i2≠i110:=fun e=>by rw[←e,k2_10]at h110;cases h110
     simp only[go_sem];obtain⟨q11,eq11⟩:=hy10.row;cases dth:cj s.cases o.case
     ·simp only[go_sem]
      exact .mk (bM (fL s o)) (show Weak y10 _ by rw[eq11,show fL s o=(((cS s o++ [(⟨2,[102,105,101,108,100],[idV o.field]⟩:bt)])++ [(⟨2,[116,111],[idV o.to]⟩:bt)])++ [(⟨4,[110,111,119],[⟨4,s.tick,[]⟩]⟩:bt)]) by simp[fL,cS,dth,pf,pt]];exact hr10.weak q11) ((hH.trans hy10.1).put (jQ (hH.trans hy10.1) h110) _) ⟨rfl,rfl⟩
     ·simp only[go_sem,ak,n112,k2_10,r3]
      by_cases p6:o.kind=6
      ·have d6:(o.kind !=6)=false:=by simp[p6]
       simp only[go_sem,d6];exact .mk (bM (fL s o)) (show Weak y10 _ by rw[eq11,show fL s o=(((cS s o++ [(⟨2,[102,105,101,108,100],[idV o.field]⟩:bt)])++ [(⟨2,[116,111],[idV o.to]⟩:bt)])++ [(⟨4,[110,111,119],[⟨4,s.tick,[]⟩]⟩:bt)]) by simp[fL,cS,dth,p6,pf,pt]];exact hr10.weak q11) ((hH.trans hy10.1).put (jQ (hH.trans hy10.1) h110) _) ⟨rfl,rfl⟩
      ·have d6:(o.kind !=6)=true:=by simp[p6]
       simp only[go_sem,ak,n112,k2_10,r3,d6];refine(hak _).pthen ?_;simp only[go_sem,bM];refine(hy10.sub (.aj h110)).app (zs:=(cI (bw s.cases o.case) o.subj).map lS) ag8 aeP (fun k hk=>(eL lS 3 (fun _=>rfl) _ _).src cA hk) (by rw[cA];exact hr10.sized) agt afJ fun yz Gz hyz kpz=>?_
       simp only[go_sem];obtain⟨qz,eqz⟩:=hyz.row;exact .mk (bM (fL s o)) (show Weak yz _ by rw[eqz,show fL s o=(((cS s o++ [(⟨2,[102,105,101,108,100],[idV o.field]⟩:bt)])++ [(⟨2,[116,111],[idV o.to]⟩:bt)])++ [(⟨4,[110,111,119],[⟨4,s.tick,[]⟩]⟩:bt)])++cI (bw s.cases o.case) o.subj by simp[fL,cS,dth,p6,pf,pt]];exact(hr10.app (GRow.givs _)).weak qz) (hH.trans hyz.1) ⟨rfl,rfl⟩
end Go.Proofs.YtokahfmoollblaaGreatDoor
namespace Go.Bf
open Go Go.Ab
theorem any_succ{α:Type}{q:α→Bool}{l:List α}{i:Nat}(h:i<l.length):(l.take (i+1)).any q=((l.take i).any q||q l[i]):=by grind [List.take_succ_eq_append_getElem]
end Go.Bf
namespace Go.Proofs.YtokahfmoollblaaGreatDoor
open Go
def rC:List Value:=Lib.pow10Tab.map fun z=>Value.int .u64 z
end Go.Proofs.YtokahfmoollblaaGreatDoor
namespace Go.Bf
def Yw:Txt:=[97,110,110]
end Go.Bf
namespace Go.Proofs.YtokahfmoollblaaGreatDoor
open Go Go.Ab Go.Bf Tryz
def TJ(ev:Value):Heap:=vQ [(3,rC),(2,[ev])]
theorem BV{ev:Value}(hev:ev= .nilIface∨∃te pe,ev= .iface te pe):iB (TJ ev):=⟨ev,hev,1,rfl⟩
end Go.Proofs.YtokahfmoollblaaGreatDoor
namespace Go.Bf
open Go Go.Ab
def ya(m:Int)(b:Nat):Nat:=(if m.tmod (b+1)<0 then m.tmod (b+1)+(b+1)else m.tmod (b+1)).toNat
end Go.Bf
namespace Go.Proofs.YtokahfmoollblaaGreatDoor
open Go Go.Ab Go.Bf Tryz
theorem Lz(m:Int)(b:Nat)(h:Heap)(hm' : -9223372036854775808≤m∧m≤9223372036854775807)(hb:b≤1099511627776):
  ai prog 14 [.i m,.i 0,.i b] h fun r h' =>r= .i (ya m b)∧h' =h:=by
 have w0:IntKind.i64.wrap ((b:Int) - 0)=b:=IntWalk.i64_in _ aeK;have w1:IntKind.i64.wrap (b:Int)=b:=IntWalk.i64_in _ aeK;have w2:IntKind.i64.wrap ((b:Int)+1)=(b:Int)+1:=IntWalk.i64_in _ aeK;have t1:=Int.tmod_lt_of_pos m (show 0<(b:Int)+1 by omega)
 have t2:=Int.lt_tmod_of_pos m (show 0<(b:Int)+1 by omega)
 have hd:(ya m b:Int)=if m.tmod (b+1)<0 then m.tmod (b+1)+(b+1)else m.tmod (b+1):=by grind [ya]
 generalize hq:m.tmod ((b:Int)+1)=q at t1 t2 hd;have w3:IntKind.i64.wrap (q+b)=q+b:=IntWalk.i64_in _ aeK;have w4:IntKind.i64.wrap (q+b - 0)=q+b:=aeL;have w5:IntKind.i64.wrap (q+b+1)=q+b+1:=IntWalk.i64_in _ aeK;refine aeJ func14 24 [.tmp 6] fun hwf=>?_
 simp only[go_sem,w1,w2,hq,Int.sub_zero];refine⟨aeK,.intro (fun e=>?_) (fun e=>?_)⟩
 ·have e:=aeC e
  rw[if_pos e]at hd;simp only[go_sem,w3,w5,Int.sub_zero];have w6:IntKind.i64.wrap (0+(q+b+1))=q+b+1:=aeL;have w7:IntKind.i64.wrap (q+b+1)=q+b+1:=IntWalk.i64_in _ aeK;simp only[go_sem,w7,Int.zero_add];exact .same (.refl _) ⟨by grind [ax,Int.add_assoc],rfl⟩
 ·have e:=aeD e
  rw[if_neg e]at hd;have w7:IntKind.i64.wrap q=q:=IntWalk.i64_in q aeK;have w6:IntKind.i64.wrap (0+q)=q:=aeL;simp only[go_sem,w7,Int.zero_add];exact .same (.refl _) ⟨by rw[hd];rfl,rfl⟩
end Go.Proofs.YtokahfmoollblaaGreatDoor
namespace Go.Bf
open Go Go.Ab
def jg(cat:Int)(name:Txt)(g:bt):Bool:=g.cat==cat && g.name==name
def getD(l:List bt)(cat:Int)(name:Txt):List bu:=match l.find? (jg cat name)with
 |some g=>g.bag
 |none=>[]
end Go.Bf
namespace Go.Proofs.YtokahfmoollblaaGreatDoor
open Go Go.Ab Go.Bf Tryz
variable {cat:Int}{name:Txt}{gs:List bt}
theorem MO{α:Type}(y:AV)(xs:List AV)(ds:List α)(q:α→Bool)(g:FuncId)(cap:List AV)(h:Heap)(hb:Rd h 3 y xs)(hn:xs.length=ds.length)(hl:xs.length≤1000000000)(hx:∀x∈xs,bA x=true)
  (hp:∀i (h1:i<xs.length) (h2:i<ds.length),ai prog g (xs[i]::cap) h fun r h' =>r= .b (q ds[i])∧h' =h):
  ai prog 307 [y,.fn g cap] h fun r h' =>r= .i (ixD q ds)∧h' =h:=by
 refine aeJ func307 19 [.tmp 4] fun hwf=>?_
 simp only[go_sem,hb.len];refine .intro (fun m ρ h' =>h' =h∧∃i:Nat,i≤xs.length∧m=xs.length - i∧(∀j (hj:j<i) (h2:j<ds.length),q ds[j]=false)∧lk ρ 0=some y∧lk ρ 1=some (.fn g cap)∧lk ρ 7=some (.i xs.length)∧lk ρ 8=some (.i i)) xs.length ?_ ?_
 ·refine⟨rfl,0,aeK,rfl,fun j hj=>aeK,?_,?_,?_,?_⟩<;>simp only[go_sem]
 ·rintro m ρ h' ⟨rfl,i,hi,rfl,hc,r0,r1,r7,r8⟩
  simp only[go_sem,r7,r8];refine .intro (fun e=>?_) (fun e=>?_)
  ·have hlt:i<xs.length:=aeH e
   have hlt2:i<ds.length:=aeK;have w1:IntKind.i64.wrap ((i:Int)+1)=((i+1:Nat):Int):=aeW;simp only[go_sem,r0,r1,r8];refine hb.idx (e:=180) i rfl hlt aeZ aeO fun p hp1=>?_
   have hld:=hp1.all (U:=U) (ty:=180) aeO afK agE;simp only[go_sem,hld];refine(show ai prog g (xs[i]::cap) _ _ from hp i hlt hlt2).pthen ?_
   cases d1:q ds[i]
   ·simp only[go_sem,r8,w1]
    refine⟨_,?_,rfl,i+1,aeK,rfl,fun j hj h2=>?_,?_,?_,?_,?_⟩
    ·omega
    ·grind
    all_goals simp only[go_sem,r0,r1,r7]
   ·simp only[go_sem]
    exact .same (.refl _) ⟨afy,rfl⟩
  ·have hge:i=xs.length:=by grind
   simp only[go_sem];exact .same (.refl _) ⟨aff,rfl⟩
theorem KM{h:Heap}(g:bt){k1 k2:Nat}(h1:h k1=some (.obj [.i cat] 3))(h2:h k2=some (.obj [.s name] 9)):ai prog 308 [lS g,.ptr k1 0,.ptr k2 0] h fun r h' =>r= .b (jg cat name g)∧h' =h:=by
 refine aeJ func308 15 [.tmp 4] fun hwf=>?_
 simp only[go_sem,lS];intro i1 hi1;have n1:k1≠i1:=fun e=>aeL
 have n2:k2≠i1:=fun e=>aeL
 simp only[go_sem,ak,n1,h1];cases d1:(g.cat==cat)
 ·simp only[go_sem]
  exact .mk _ (.refl _) (.aj hi1) ⟨by simp only[jg,d1];rfl,rfl⟩
 ·simp only[go_sem,ak,n2,h2]
  exact .mk _ (.refl _) (.aj hi1) ⟨by simp only[jg,d1];rfl,rfl⟩
theorem NN(gs:List bt)(cat:Int)(name:Txt)(hl:gs.length≤1000000000)(h:Heap):ai prog 285 [bM gs,.i cat,.s name] h fun r h' =>r= .i (ixD (jg cat name) gs)∧h' =h:=by
 refine aeJ func285 10 [.tmp 6] fun hwf=>?_
 simp only[go_sem,bM];intro i1 h1;simp only[go_sem];intro i2 h2;have n2:=aB h2;have hs:∀a b,Ab.Sub h (upd (upd h i1 a) i2 b):=fun a b=>((Sub.refl h).put h1 a).put n2 b
 simp only[go_sem];refine(MO _ _ gs (jg cat name) _ [.ptr i1 0,.ptr i2 0] _ (eL lS 3 (fun _=>rfl) _ gs) aeR aeL (pz (fun _=>rfl) _) fun i a b=>by rw[aeB];exact KM _ (by grind [ag,ah]) (ah ..)).pthen ?_
 simp only[go_sem];exact agr
theorem get_at(h:gs.findIdx (jg cat name)<gs.length):getD gs cat name=gs[gs.findIdx (jg cat name)].bag:=by unfold getD;rw[show gs.find? (jg cat name)=some gs[gs.findIdx (jg cat name)]from List.find?_eq_some_iff_getElem.2 ⟨List.findIdx_getElem (w:=h),_,h,rfl,fun j hj=>aeL⟩]
theorem SY(h:¬gs.findIdx (jg cat name)<gs.length):getD gs cat name= []:=by grind [getD,jg,List.findIdx_le_length,List.find?_eq_none,List.findIdx_eq_length]
end Go.Proofs.YtokahfmoollblaaGreatDoor
namespace Go.Bf
open Go Go.Ab
variable {c:aN}{cs:List aN}{f:cO}{fs:List cO}{name:Txt}{v:bu}
def cT:Txt:=[99]
def stC(st:Txt)(log:List xx):aN:=⟨cT,Yw,st,[],log⟩
def qc:List Txt:=[jU,xu,A9,iq]
abbrev lt(a b:Txt):Prop:=Op.bytesLess a b=true
theorem lt_irrefl:∀a:Txt,¬lt a a
 | []=>aeO
 |a::x=>by have:=lt_irrefl x;simp only[lt,Op.bytesLess,Bool.or_eq_true,Bool.and_eq_true,decide_eq_true_eq,beq_self_eq_true,true_and,not_or];exact⟨UInt8.lt_irrefl a,this⟩
theorem lt_trans:∀ {a b c:Txt},lt a b→lt b c→lt a c
 |_,[],_,h,_=>by simp_all [Txt,lt,Op.bytesLess]
 | [],b::y,c,_,h=>by cases c<;>simp[lt,Op.bytesLess]at h⊢
 |a::x,b::y,[],_,h=>by simp[lt,Op.bytesLess]at h
 |a::x,b::y,c::z,h1,h2=>by
  simp only[lt,Op.bytesLess,Bool.or_eq_true,Bool.and_eq_true,decide_eq_true_eq,beq_iff_eq]at h1 h2⊢;rcases h1 with h1|⟨rfl,h1⟩
  ·grind
  ·rcases h2 with h2|⟨rfl,h2⟩
   ·grind
   ·exact .inr ⟨rfl,lt_trans h1 h2⟩
theorem Bu:∀a b:Txt,lt a b∨a=b∨lt b a
 | [],[]=>aeR
 | [],b::y=> .inl rfl
 |a::x,[]=> .inr (.inr rfl)
 |a::x,b::y=>by
  simp only[lt,Op.bytesLess,Bool.or_eq_true,Bool.and_eq_true,decide_eq_true_eq,beq_iff_eq];rcases UInt8.lt_or_lt_of_ne (a:=a) (b:=b)with h
  by_cases e:a=b
  ·subst e
   rcases Bu x y with h|rfl|h
   ·grind
   ·simp
   grind
  grind
def Asc(cs:List aN):Prop:=cs.Pairwise fun a b=>lt a.id b.id
theorem Io{id:Txt}(h:¬lt c.id id):findD (c::cs) id=0:=by simp_all [Op.bytesLess,false,findD,List.findIdx_cons,geB]
theorem Ip{id:Txt}(h:lt c.id id):findD (c::cs) id=findD cs id+1:=by simp_all [Op.bytesLess,true,findD,List.findIdx_cons,geB]
theorem vT:∀ {cs:List aN},Asc cs→∀id,cj cs id=cs.any fun c=>c.id==id
 | [],_,id=>rfl
 |c::cs,h,id=>by
  obtain⟨h1,h2⟩:=List.pairwise_cons.1 h
  by_cases hl:lt c.id id
  ·have hne:(c.id==id)=false:=by grind [beq_eq_false_iff_ne,lt_irrefl]
   have e:cj (c::cs) id=cj cs id:=by grind [cj,Ip]
   rw[e,vT h2 id,List.any_cons,hne,Bool.false_or]
  ·have e:cj (c::cs) id=(c.id==id):=by grind [cj,Io]
   rw[e,List.any_cons];cases hc:(c.id==id)
   ·have hlt:lt id c.id:=by
     rcases Bu c.id id with h|h|h
     ·grind
     ·grind
     omega
    grind
   ·simp
theorem HY:∀ {cs:List aN},Asc cs→∀c:aN,(cs.any fun d=>d.id==c.id)=false→Asc (cs.take (findD cs c.id)++ [c]++cs.drop (findD cs c.id))
 | [],_,c,_=>by simp[Asc,findD]
 |d::cs,h,c,hn=>by
  obtain⟨h1,h2⟩:=List.pairwise_cons.1 h;simp only[List.any_cons,Bool.or_eq_false_iff]at hn
  by_cases hl:lt d.id c.id
  ·rw[Ip hl]
   simp only[List.take_succ_cons,List.drop_succ_cons,List.cons_append];refine List.pairwise_cons.2 ⟨fun e he=>?_,HY h2 c hn.2⟩
   grind
  ·rw[Io hl]
   have hlt:lt c.id d.id:=by
    rcases Bu d.id c.id with h|h|h
    ·grind
    ·grind
    omega
   refine List.pairwise_cons.2 ⟨fun e he=>?_,h⟩
   rcases List.mem_cons.1 he with rfl|he
   ·omega
   grind [lt_trans]
def FJ(fs:List cO):Prop:=fs.Pairwise fun a b=>lt a.name b.name
theorem B8(name:Txt)(v:bu):eN [] name v= [⟨name,v⟩]:=rfl
theorem Aj(h:lt f.name name):eN (f::fs) name v=f::eN fs name v:=by
 have hb:Op.bytesLess f.name name=true:=h;unfold eN;simp only[List.findIdx_cons,geB,hb,Bool.not_true,cond_false,List.getElem?_cons_succ];generalize hi:fs.findIdx (fun f=> !Op.bytesLess f.name name)=i
 cases e:fs[i]? with
 |none=>simp
 |some g=>
  by_cases hg:g.name=name
  ·simp[hg]
  ·simp[hg]
theorem Ag(h:f.name=name):eN (f::fs) name v=⟨f.name,v⟩::fs:=by
 subst h;have hb:Op.bytesLess f.name f.name=false:=by grind [Op.bytesLess,lt_irrefl]
 unfold eN;simp[List.findIdx_cons,geB,hb]
theorem Ai(h:lt name f.name):eN (f::fs) name v=⟨name,v⟩::f::fs:=by
 have hb:Op.bytesLess f.name name=false:=by grind [Op.bytesLess,lt_irrefl,lt_trans]
 have hne:f.name≠name:=fun e=>by rw[e]at h;exact lt_irrefl _ h
 unfold eN;simp[List.findIdx_cons,geB,hb,hne]
theorem vX:∀ {fs:List cO} {name:Txt} {v:bu} {g:cO},g∈eN fs name v→g=⟨name,v⟩∨g∈fs
 | [],name,v,g,h=>by grind [B8,List.mem_singleton]
 |f::fs,name,v,g,h=>by
  rcases Bu f.name name with hl|hl|hl
  ·rw[Aj hl]at h
   rcases List.mem_cons.1 h with rfl|h
   ·simp
   ·rcases vX h with h|h
    ·grind
    grind
  ·rw[Ag hl]at h
   grind
  ·rw[Ai hl]at h
   grind
theorem B6:∀ {fs:List cO} {name:Txt} {v:bu},FJ fs→FJ (eN fs name v)
 | [],name,v,_=>by grind [B8,FJ]
 |f::fs,name,v,h=>by
  obtain⟨h1,h2⟩:=List.pairwise_cons.1 h;rcases Bu f.name name with hl|hl|hl
  ·rw[Aj hl]
   refine List.pairwise_cons.2 ⟨fun g hg=>?_,B6 h2⟩
   rcases vX hg with rfl|hg
   ·omega
   grind
  ·rw[Ag hl]
   exact List.pairwise_cons.2 ⟨h1,h2⟩
  ·rw[Ai hl]
   refine List.pairwise_cons.2 ⟨fun g hg=>?_,h⟩
   rcases List.mem_cons.1 hg with rfl|hg
   ·omega
   grind [lt_trans]
theorem B7:∀ {fs:List cO} {name:Txt} {v:bu},FJ fs→(eN fs name v).length=if fs.any (fun f=>f.name==name)then fs.length else fs.length+1
 | [],name,v,_=>rfl
 |f::fs,name,v,h=>by
  obtain⟨h1,h2⟩:=List.pairwise_cons.1 h;rcases Bu f.name name with hl|hl|hl
  ·have hne:(f.name==name)=false:=by grind [beq_eq_false_iff_ne,lt_irrefl]
   rw[Aj hl,List.length_cons,B7 h2,List.any_cons,hne,Bool.false_or];split<;>simp
  ·grind [Ag]
  ·have hne:(f.name==name)=false:=by grind [beq_eq_false_iff_ne,lt_irrefl]
   have hno:(fs.any fun f=>f.name==name)=false:=List.any_eq_false.2 fun g hg he=>by have:=lt_trans hl (h1 g hg);rw[beq_iff_eq.1 he]at this;exact lt_irrefl _ this
   rw[Ai hl,List.any_cons,hne,hno];simp
theorem Gh(f:cO)(fs:List cO)(n:Txt):dV (f::fs) n=if f.name=n then f.val else dV fs n:=by grind [dV]
def mkC(who id:Txt):aN:=⟨id,who,jU,[],[⟨0,who,[110,101,119]⟩]⟩
def Y6(cs:List aN)(id:Txt):Bool:=cs.any fun c=>c.id==id
end Go.Bf
namespace Go.Ab
open Go
section
variable {α : Type}
def dget(l:List (List UInt8×α))(k:List UInt8):Option α:=(l.find? fun p=>p.1==k).map (·.2)
def dset(l:List (List UInt8×α))(k:List UInt8)(v:α):List (List UInt8×α):=if(dget l k).isSome then l.map (fun p=>if p.1==k then(p.1,v)else p)else l++ [(k,v)]
end
end Go.Ab
namespace Go.Bf
open Go Go.Ab Go.Proofs.YtokahfmoollblaaGreatDoor
structure Own (cs:List aN) (own:List (Txt×Txt)):Prop where
 asc:Asc cs
 len:cs.length=own.length
 small:cs.length≤64
 mem:∀c∈cs,c=mkC c.owner c.id∧dget own c.id=some c.owner
 has:∀id,Y6 cs id=(dget own id).isSome
 who:∀id w,dget own id=some w→w≠ []
 keys:∀p∈own,p.1.length≤3
theorem qL:∀ {cs:List aN},Asc cs→∀ {id:Txt},cj cs id=true→bw cs id∈cs∧(bw cs id).id=id:=by
 unfold bw
 grind [cj,List.getElem?_eq_getElem]
end Go.Bf
namespace Go.Proofs.YtokahfmoollblaaGreatDoor
open Go Go.Ab Go.Bf Tryz
def oN(o:OpD):Prop:=i64 o.kind∧i64 o.val.kind∧i64 o.val.n∧i64 o.review
theorem inH{P:Program}{f:FuncId}{args:List AV}{h:Heap}{Q:AV→Heap→Prop}(hh:∀H2,H2=h→ai P f args H2 Q):ai P f args h Q:=hh h rfl
end Go.Proofs.YtokahfmoollblaaGreatDoor
namespace Go.Bf
open Go Go.Ab Go.Proofs.YtokahfmoollblaaGreatDoor
def Y7(v:Int):bu:=⟨2,v,[]⟩
structure Last (fs:List cO) (last:List (Txt×Int)):Prop where
 asc:FJ fs
 len:fs.length=last.length
 small:fs.length≤16
 kind:∀f∈fs,f.val.kind=2
 get:∀n,dV fs n=((dget last n).map Y7).getD aq
 keys:∀p∈last,p.1.length=2
end Go.Bf
namespace Go.Bf
open Go Go.Ab
variable {n:Nat}{st a:PS}{s:Txt}{ts:List qv}
def Fine(n:Nat)(st:PS):Prop:=(st.bad=0∨st.bad=5∨st.bad=6)∧0≤st.place∧st.place≤n
def B9(n:Nat)(ts:List qv):Prop:=∀i,0≤(ts.getD i ⟨7,0,0,[]⟩).pos∧(ts.getD i ⟨7,0,0,[]⟩).pos≤n
theorem yK{e p:Int}(h:Fine n st)(he:e=5∨e=6)(h0:0≤p)(h1:p≤n):Fine n (bJ st e p):=by
 unfold bJ;split
 ·exact⟨.inr he,h0,h1⟩
 omega
theorem DW{b:PS}(h:Rch a b)(ht:B9 n a.ts)(hf:Fine n a):Fine n b:=by
 induction h with
 |refl=>omega
 |wrong e p h1 he hp ih=>obtain⟨i,_,rfl⟩:=hp;rw[(se h1).1];exact yK ih he (ht i).1 (ht i).2
 |next _ _ _ ih=>exact ih
theorem I2{b:PS}(h:oo a b):b.ts=a.ts:=by
 induction h with
 |refl=>rfl
 |small _ h1 ih=>grind [se,trans]
 |rule _ _ _ _ ih=>exact ih
theorem JV{b:PS}(h:oo a b)(ht:B9 n a.ts)(hf:Fine n a):Fine n b:=by
 induction h with
 |refl=>omega
 |small h1 h2 ih=>grind [DW,I2]
 |rule _ _ _ _ ih=>exact ih
theorem yS(h:pO s= .ok ts):B9 s.length ts:=by
 obtain⟨pre,rfl,_,h3,_⟩:=Bp h;intro i
 grind
theorem MD(h:pO s= .ok ts):Fine s.length (qx s (gR 4 ⟨ts,0,0,0,0⟩)):=by
 have h0:Fine s.length ⟨ts,0,0,0,0⟩:=⟨.inl rfl,Int.le_refl _,aeR⟩;have hr:=CW 4 ⟨ts,0,0,0,0⟩;have h1:=JV hr (yS h) h0;have ht:B9 s.length (gR 4 ⟨ts,0,0,0,0⟩).2.ts:=by rw[I2 hr];exact yS h
 have h2:Fine s.length (if(aM (gR 4 ⟨ts,0,0,0,0⟩).2).kind=7 then(gR 4 ⟨ts,0,0,0,0⟩).2 else br (gR 4 ⟨ts,0,0,0,0⟩).2):=by grind [DW,lg]
 unfold qx;generalize (if(aM (gR 4 ⟨ts,0,0,0,0⟩).2).kind=7 then(gR 4 ⟨ts,0,0,0,0⟩).2 else br (gR 4 ⟨ts,0,0,0,0⟩).2)=st1 at h2⊢
 split
 ·exact yK h2 (.inl rfl) aeK (Int.le_refl _)
 ·exact aiU
theorem rB(s:Txt):(aR s).2.1=0∧(aR s).2.2=0∧gL (aR s).1=0∨
  ((aR s).2.1=5∨(aR s).2.1=6)∧0≤(aR s).2.2∧(aR s).2.2≤s.length∧(aR s).1=pg:=by
 unfold aR;cases h:pO s with
 |bad e a=>have:=uk h;exact .inr ⟨this.1,this.2.1,this.2.2,rfl⟩
 |ok ts=>
  have hf:=MD h;simp only[zw];split
  ·rename_i hb
   refine .inl ⟨rfl,rfl,?_⟩;simp only;unfold qx at hb;generalize (if(aM (gR 4 ⟨ts,0,0,0,0⟩).2).kind=7 then(gR 4 ⟨ts,0,0,0,0⟩).2 else br (gR 4 ⟨ts,0,0,0,0⟩).2)=st1 at hb
   split at hb
   ·simp_all [bJ,if_pos,absurd,Int]
   omega
  ·rename_i hb
   exact .inr ⟨hf.1.resolve_left hb,hf.2.1,hf.2.2,rfl⟩
end Go.Bf
namespace Go.Bf
open Go Go.Ab Go.Proofs.YtokahfmoollblaaGreatDoor
variable {k sz:Nat}{s:an}{o:OpD}{cs:List aN}
theorem rI{p:bE}(h:gL p=0):mK 1 p:=by
 cases hw:lf ⟨[],0⟩ 1 p with
 |bad e=>have:=uC 4 1 _ _ e rfl hw;rw[gL,hw]at h;exact(this h).elim
 |ok m=>grind [IW]
theorem So{fs:List cO}(h:∀f∈fs,eqV f.val aq=false)(n:Txt):(fs.any fun f=>f.name==n)= !(eqV (dV fs n) aq):=by
 induction fs with
 |nil=>rfl
 |cons f fs ih=>
  rw[Gh,List.any_cons]
  grind
structure u6 (c:aN):Prop where
 id:bp c.id=true
 owner:bp c.owner=true
 state:c.state∈qc
 asc:FJ c.fields
 nfields:c.fields.length≤16
 field:∀f∈c.fields,bp f.name=true∧bz f.val=true∧eqV f.val aq=false
 log1:1≤c.log.length
 log2:c.log.length≤256
 actor:∀x∈c.log,bp x.actor=true∧i64 x.tick
structure dL (k:Nat) (s:an):Prop where
 tick:0≤s.tick∧s.tick≤1099511627776
 asc:Asc s.cases
 ncases:s.cases.length≤64
 case:∀c∈s.cases,u6 c
 nrev:s.reviews.length≤1000
 nnot:s.notices.length≤1000
 roles:s.roles.length≤64
 role:∀r∈s.roles,bp r.subj=true∧bp r.role=true
 pol:gL s.policy=0
 ver:0≤s.version∧s.version≤k
theorem dL.few(h:dL k s):Few s:=by
 have h1:=h.ncases;have h2:=h.nrev;have h3:=h.nnot;have h4:=h.roles;refine⟨aeK,fun c hc=>?_,fun c hc=>?_,aeK,aeK,aeK⟩
 ·have:=(h.case c hc).nfields;omega
 ·have:=(h.case c hc).log2;omega
theorem dL.mK(h:dL k s):mK 1 s.policy:=rI h.pol
theorem dL.HG(h:dL k s):i64 s.tick:=by have:=h.tick;constructor<;>omega
theorem Lg:dL 0 sY:=by refine⟨aeO,.nil,aeO,fun c h=>afI,aeO,aeO,aeO,fun r h=>afI,aeZ,aeO⟩
theorem kX{s:Txt}(h:jn s=true)(hn:s≠ []):bp s=true:=by simp_all [jn,Bool.or_eq_true,beq_iff_eq]
structure R4 (o:OpD):Prop where
 subj:bp o.subj=true
 kind:1≤o.kind∧o.kind≤8
 case:jn o.case=true
 field:jn o.field=true
 to:jn o.to=true
 val:eqV o.val aq=true∨bz o.val=true
 text:o.text.length≤4096
 ok:okD o=true
theorem uc(h:dH o=true):R4 o:=by simp only[dH,Bool.and_eq_true,decide_eq_true_eq,Bool.or_eq_true,dX]at h;obtain⟨⟨⟨⟨⟨⟨⟨h1,h2⟩,h3⟩,h4⟩,h5⟩,h6⟩,h7⟩,⟨⟨h8,h9⟩,h10⟩,h11⟩:=h;exact⟨h1,⟨h8,h9⟩,h4,h5,h6,h7,h3,h10⟩
theorem yL{a b:Txt}(h:ng a b=true):b∈qc:=by
 unfold ng at h;simp only[qc,List.mem_cons,List.not_mem_nil,or_false]
 grind
theorem mem_modify{α:Type}{l:List α}{i:Nat}{f:α→α}{x:α}(h:x∈l.modify i f):x∈l∨∃hi:i<l.length,x=f l[i]:=by
 obtain⟨j,hj,rfl⟩:=List.mem_iff_getElem.1 h
 grind
theorem kZ{α β:Type}{l:List α}{i:Nat}{f:α→α}{g:α→β}(h:∀x,g (f x)=g x):(l.modify i f).map g=l.map g:=by
 refine List.ext_getElem aeR fun j h1 h2=>?_
 grind
theorem Cl{cs':List aN}(h:cs'.map (·.id)=cs.map (·.id))(ha:Asc cs):Asc cs' :=by
 unfold Asc at*;have h1:(cs.map (·.id)).Pairwise lt:=aeL
 rw[←h,List.pairwise_map]at h1;exact h1
theorem Qa{i:Nat}{c d:aN}(h:d∈cs.take i++ [c]++cs.drop i):d=c∨d∈cs:=by grind
theorem Og(hs:dL k s)(hr:bL s o=0):dL (k+1) (doD aR s o):=by
 have hf:dH o=true:=by
  unfold bL at hr
  grind
 have F:=uc hf;have vk:0≤s.version∧s.version≤((k+1:Nat):Int):=⟨hs.ver.1,by have:=hs.ver.2;omega⟩
 unfold bL at hr;rw[hf]at hr;simp only[Bool.true_eq_false,if_false]at hr;have hok:=F.ok;unfold okD at hok;have t64:=hs.HG;unfold doD
 by_cases k1:o.kind=1
 ·simp only[k1,if_true]at hr hok⊢
  have hno:cj s.cases o.case=false:=by grind
  rw[hno]at hr;simp only[Bool.false_eq_true,if_false]at hr;have hlt:¬64≤s.cases.length:=fun h=>aiH
  have hc:bp o.case=true:=kX F.case aeL;rw[vT hs.asc]at hno;refine {hs with asc:= ?_,ncases:= ?_,case:= ?_,ver:=vk}
  ·exact HY hs.asc (jG s ⟨o.case,o.subj,jU,[],[]⟩ o.subj [110,101,119]) hno
  ·grind
  ·intro c h
   rcases Qa h with rfl|h
   ·exact⟨hc,F.subj,by simp[jG,qc],.nil,aiW,fun f h=>afI,aiW,aiW,fun x h=>by simp only[jG,List.nil_append,List.mem_singleton]at h;subst h;exact⟨F.subj,t64⟩⟩
   ·exact hs.case c h
 ·simp only[k1,if_false]at hr hok⊢
  by_cases k3:o.kind=3
  ·have hk:2≤o.kind∧o.kind≤4:=by omega
   simp only[hk,and_self,if_true]at hr;simp only[k3,if_true];have e2:¬(o.kind=2∨o.kind=6):=aeK;simp only[k3,if_true,show¬((3:Int)=2∨(3:Int)=6) by decide,if_false,Bool.and_eq_true,Bool.not_eq_true']at hok
   have hth:cj s.cases o.case=true:=by
    unfold bX at hr
    grind
   unfold bX at hr;rw[hth]at hr;simp only[Bool.true_eq_false,if_false,k3,true_and]at hr;obtain⟨hm,hid⟩:=qL hs.asc hth;have hlt:=jW hth;have hce:bw s.cases o.case=s.cases[findD s.cases o.case]:=by simp_all [bw,if_pos]
   rw[hce]at hr hm;generalize hcc:s.cases[findD s.cases o.case]=c at hr hm;have hc:=hs.case c hm;have h16:¬(c.fields.length≥16∧eqV (dV c.fields o.field) aq=true):=fun h=>by simp[h.1,h.2]at hr
   rw[if_neg h16]at hr;have hlg:¬c.log.length≥256:=fun h=>aiH
   have hnf:bp o.field=true:=kX F.field aeL;have hvz:eqV o.val aq=false:=hok.2;have hv:bz o.val=true:=F.val.resolve_left aeL;refine {hs with asc:= ?_,ncases:= ?_,case:= ?_,ver:=vk}
   ·exact Cl (kZ fun x=>rfl) hs.asc
   ·simpa using hs.ncases
   ·intro d hd
    rcases mem_modify hd with hd|⟨hi,rfl⟩
    ·exact hs.case d hd
    ·rw[hcc]
     have hany:=So (fun f hf=>(hc.field f hf).2.2) o.field
     have hlen:=B7 (v:=o.val) (name:=o.field) hc.asc;refine⟨hc.id,hc.owner,hc.state,B6 hc.asc,?_,?_,aiW,?_,?_⟩
     ·simp only[jG]
      rw[hlen,hany];have:=hc.nfields;cases he:eqV (dV c.fields o.field) aq
      ·simp;omega
      ·rw[he]at h16;simp at h16⊢;omega
     ·intro f hf
      rcases vX hf with rfl|hf
      ·grind
      ·exact hc.field f hf
     ·grind [jG,aeE,List.length_singleton]
     ·intro x hx
      exact aj5
  ·simp only[k3,if_false]at hok⊢
   by_cases k4:o.kind=4
   ·have hk:2≤o.kind∧o.kind≤4:=by omega
    simp only[hk,and_self,if_true]at hr;simp only[k4,if_true];have hth:cj s.cases o.case=true:=by
     unfold bX at hr
     grind
    unfold bX at hr;rw[hth]at hr;simp only[Bool.true_eq_false,if_false,k4]at hr;obtain⟨hm,hid⟩:=qL hs.asc hth;have hlt:=jW hth;have hce:bw s.cases o.case=s.cases[findD s.cases o.case]:=by simp_all [bw,if_pos]
    rw[hce]at hr hm;generalize hcc:s.cases[findD s.cases o.case]=c at hr hm;have hc:=hs.case c hm;simp only[show¬((4:Int)=3) by decide,false_and,if_false,show((4:Int)≠2) by decide,ne_eq,not_false_eq_true,true_and,false_or]at hr
    have hlg:¬c.log.length≥256:=fun h=>aiH
    rw[if_neg hlg]at hr;have hfo:ng c.state o.to=true:=by grind
    refine {hs with asc:= ?_,ncases:= ?_,case:= ?_,ver:=vk}
    ·exact Cl (kZ fun x=>rfl) hs.asc
    ·simpa using hs.ncases
    ·intro d hd
     rcases mem_modify hd with hd|⟨hi,rfl⟩
     ·exact hs.case d hd
     ·rw[hcc]
      refine⟨hc.id,hc.owner,yL hfo,hc.asc,hc.nfields,hc.field,aiW,?_,?_⟩
      ·grind [jG,aeE,List.length_singleton]
      ·intro x hx
       exact aj5
   ·simp only[k4,if_false]at hok⊢
    by_cases k5:o.kind=5
    ·simp only[k5,if_true]
     refine {hs with nrev:= ?_,ver:=vk}
     simpa using hs.nrev
    ·simp only[k5,if_false]at hok⊢
     by_cases k6:o.kind=6
     ·have hk:¬(2≤o.kind∧o.kind≤4):=by omega
      simp only[k6,if_true]at hr;simp only[k6,if_true];simp only[k6,or_true,if_true,Bool.and_eq_true]at hok;have hc:bp o.case=true:=kX F.case aeL;have hfd:bp o.field=true:=kX F.field aeL;cases hh:yP s.roles ⟨o.case,o.field⟩with
      |true=>simp only[if_true];exact {hs with ver:=vk}
      |false=>
       rw[hh]at hr;have hlt:¬s.roles.length≥64:=fun h=>aiH
       simp only[Bool.false_eq_true,if_false];refine {hs with roles:= ?_,role:= ?_,ver:=vk}
       ·grind
       ·intro r h
        rcases List.mem_append.1 h with h|h
        ·exact hs.role r h
        grind
     ·simp only[k6,if_false]
      by_cases k7:o.kind=7
      ·simp only[k7,if_true]
       by_cases hp:(aR o.text).2.1=0
       ·simp only[hp,if_true]
        have hr0:gL (aR o.text).1=0:=by grind [rB,absurd]
        refine {hs with pol:=hr0,ver:= ?_}
        have:=hs.ver;constructor
        ·grind
        grind
       ·simp only[hp,if_false]
        exact {hs with ver:=vk}
      ·simp only[k7,if_false]
       by_cases k8:o.kind=8
       ·simp only[k8,if_true]
        have hk:¬(2≤o.kind∧o.kind≤4):=aeK;simp only[k8,if_true]at hr;have hlt:¬s.tick>1099511627776 - o.review:=fun h=>aiH
        simp only[k8,show¬((8:Int)=2∨(8:Int)=6) by decide,if_false,if_true,Bool.and_eq_true,decide_eq_true_eq]at hok
        refine {hs with tick:= ?_,ver:=vk}
        have:=hs.tick;constructor
        ·grind
        grind
       ·simp only[k8,if_false]
        exact {hs with ver:=vk}
theorem qd(o:OpD)(hs:dL k s):dL (k+1) (dR aR s o):=by
 unfold dR
 by_cases h:bL s o=0
 ·simp_all [if_pos,Og]
 ·rw[if_neg h]
  exact {hs with ver:=⟨hs.ver.1,by have:=hs.ver.2;omega⟩}
theorem eu.eq{xs:List AV}(j:Nat)(hj:j<xs.length)(hz:xs[j].cells.length=sz)(k:AV→Prop):eu xs (j:Int) sz k=k (.pe xs[j] 0):=propext ⟨fun h=>by
 obtain⟨_,b,hb,_,hk⟩:=h;have:xs[j]? =some xs[j]:=aeR;rw[show((j:Int).toNat)=j by simp,this]at hb
 cases hb;exact hk,fun h=>eu.at j hj hz h⟩
def AS(l:List bu):Prop:=l.length≤16∧∀v∈l,bz v=true∧∀w∈l.head?,v.kind=w.kind
structure Q1 (gs:List bt):Prop where
 len:gs.length≤64
 each:∀g∈gs,1≤g.cat∧g.cat≤4∧bp g.name=true∧AS g.bag
 dist:gs.Pairwise fun a b=>jg b.cat b.name a=false
end Go.Bf
