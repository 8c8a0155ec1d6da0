/- The law TopAtomic: pack 4 of its texts. -/
import Derived.Shelf.Small.Strs
import Derived.Shelf.Small.Wraps
import Derived.Shelf.Strconv.AtoiAll
import Derived.Shelf.Strconv.ErrVarAll
import Derived.Shelf.Strings.Search1
import Derived.Test.YtelkmnkejghkeaaGreatDoorProg
import Derived.KernelRfl
import Derived.WalkKit
import Derived.BigCall
import Derived.Lib.ItoaLen
import Derived.Test.YtelkmnkejghkeaaGreatDoorPk1
import Derived.Test.YtelkmnkejghkeaaGreatDoorPk2
import Derived.Test.YtelkmnkejghkeaaGreatDoorPk3
set_option linter.unusedSimpArgs false
set_option linter.unusedVariables false
set_option maxRecDepth 100000
namespace Go.Proofs.YtelkmnkejghkeaaGreatDoor
open Go Go.Ab Go.Bf Tryz
def Byt(g:FuncId)(p:UInt8→Bool):Prop:=∀(c:UInt8) (h:Heap),ai prog g [.v (.int .u8 c.toNat)] h fun r h' =>r= .b (p c)∧h' =h
theorem nN:Byt 186 dgt:=fun c h=>by
 refine aw func186 9 [.tmp 2] ?_
 cases d1:decide (48≤(c.toNat:Int))<;>cases d2:decide ((c.toNat:Int)≤57)
 all_goals
  simp only[go_sem,d1,d2];exact .same (.refl _) ⟨by simp only[dgt,d1,d2];rfl,rfl⟩
theorem KY:Byt 235 wrd:=fun c h=>by
 refine aw func235 17 [.tmp 2] ?_
 cases d1:decide (97≤(c.toNat:Int))<;>cases d2:decide ((c.toNat:Int)≤122)<;>cases d3:dgt c<;>cases d4:((c.toNat:Int)==95)
 all_goals
  simp only[go_sem,d1,d2]
  first
   |exact .same (.refl _) ⟨by simp only[wrd,ltr,d1,d2,d3,d4];rfl,rfl⟩
   |(refine(nN c _).pthen ?_;simp only[go_sem,d3,d4];exact .same (.refl _) ⟨by simp only[wrd,ltr,d1,d2,d3,d4];rfl,rfl⟩)
theorem Fl:Byt 236 (fun c=> !uF c):=fun c h=>by
 refine aw func236 17 [.tmp 2] ?_
 cases d1:decide (32≤(c.toNat:Int))<;>cases d2:decide ((c.toNat:Int)≤126)<;>cases d3:((c.toNat:Int)==34)<;>cases d4:((c.toNat:Int)==92)
 all_goals
  simp only[go_sem,d1,d2,d3,d4,bne];refine .same (.refl _) ⟨?_,rfl⟩;have e1:decide ((c.toNat:Int)<32)= !decide (32≤(c.toNat:Int)):=by grind
  have e2:decide (126<(c.toNat:Int))= !decide ((c.toNat:Int)≤126):=by grind
  simp only[uF,e1,e2,d1,d2,d3,d4];rfl
theorem Ry(p:UInt8→Bool)(s:Txt)(i:Nat)(hi:i<s.length)(h:i≤(s.takeWhile p).length)(hp:p s[i]=true):i+1≤(s.takeWhile p).length:=by exact akt
theorem XF(p:UInt8→Bool)(s:Txt)(i:Nat)(hi:i<s.length)(h:i≤(s.takeWhile p).length)(hp:p s[i]=false):(s.takeWhile p).length=i:=by exact akt
theorem OU(g:FuncId)(p:UInt8→Bool)(hg:Byt g p)(s:Txt)(h:Heap):ai prog 234 [.s s,.fn g []] h fun r h' =>r= .v (.int .i64 (s.takeWhile p).length)∧h' =h:=by
 refine afs func234 20 [.tmp 4] fun hwf=>?_
 have hlen:=hwf (.s s) afB;simp only[wfA,wf1,lim]at hlen;simp only[go_sem];refine .intro (fun m ρ h' =>h' =h∧∃i:Nat,i≤s.length∧m=s.length - i∧i≤(s.takeWhile p).length∧lk ρ 0=some (.s s)∧lk ρ 1=some (.fn g [])∧lk ρ 5=some (.i i)) s.length ?_ ?_
 ·refine⟨rfl,0,afu,rfl,afu,?_,?_,?_⟩<;>simp only[go_sem]
 ·rintro m ρ h' ⟨rfl,i,hi,rfl,hc,r0,r1,r5⟩
  cases d1:decide ((i:Int)<(s.length:Int))
  ·have hge:i=s.length:=by grind
   have:=kT p s;simp only[go_sem,r0,r5,d1];exact .same (.refl _) ⟨by grind [ax],rfl⟩
  ·have hlt:i<s.length:=by grind
   have w1:IntKind.i64.wrap ((i:Int)+1)=((i+1:Nat):Int):=afG;simp only[go_sem,r0,r1,r5,d1];refine .at i hlt ?_;simp only[go_sem,aK];refine(hg s[i] _).pthen ?_;cases d2:p s[i]
   ·have:=XF p s i hlt hc d2
    simp only[go_sem,r5];exact .same (.refl _) ⟨by rw[this];rfl,rfl⟩
   ·simp only[go_sem,r5,w1]
    refine⟨_,?_,rfl,i+1,afu,rfl,Ry p s i hlt hc d2,?_,?_,?_⟩
    ·omega
    all_goals simp only[go_sem,r0,r1]
theorem zO(s:Txt)(h:Heap):ai prog 185 [.s s] h fun r h' =>r= .s (j3 s)∧h' =h:=by
 refine aw func185 12 [.tmp 2] ?_
 simp only[go_sem];refine(OU _ _ KY s _).pthen ?_;simp only[go_sem];refine⟨afu,afu,?_⟩;simp only[go_sem,Option.isSome_none,Option.isSome_some,uf,Int.toNat_natCast,si];refine⟨by grind [kT,wrd],?_⟩
 refine(qj _ _).pthen ?_;cases d1:bp (s.takeWhile wrd)
 ·exact aly
 ·exact aly
theorem wr8{x:Int}(h:0≤x∧x<256):IntKind.u8.wrap x=x:=by grind [IntKind.wrap,IntKind.signed,IntKind.bits]
theorem uh(c:UInt8)(h:Heap):ai prog 268 [.v (.int .u8 c.toNat)] h fun r h' =>r= .i (j4 c)∧h' =h:=by
 refine aw func268 20 [.tmp 2] ?_
 have hc:=c.toNat_lt;simp only[go_sem];refine(nN c _).pthen ?_;cases d1:dgt c
 case true=>
  have e1:48≤(c.toNat:Int)∧(c.toNat:Int)≤57:=by grind [dgt]
  have w1:IntKind.u8.wrap ((c.toNat:Int) - 48)=(c.toNat:Int) - 48:=wr8 afu;have w2:IntKind.i64.wrap ((c.toNat:Int) - 48)=(c.toNat:Int) - 48:=aW _ afu;simp only[go_sem,w1,w2];exact .same (.refl _) ⟨by grind [j4,ax],rfl⟩
 cases d2:decide (97≤(c.toNat:Int))<;>cases d3:decide ((c.toNat:Int)≤102)
 case true.true=>have e2:=afl d2;have e3:=afl d3;have w1:IntKind.u8.wrap ((c.toNat:Int) - 97)=(c.toNat:Int) - 97:=wr8 afu;have w2:IntKind.i64.wrap ((c.toNat:Int) - 97)=(c.toNat:Int) - 97:=aW _ afu;have w3:IntKind.i64.wrap ((c.toNat:Int) - 97+10)=(c.toNat:Int) - 87:=afG;simp only[go_sem,d2,d3,w1,w2,w3];exact .same (.refl _) ⟨by grind [j4,ax],rfl⟩
 all_goals
  simp only[go_sem,d2,d3];simp only[decide_eq_true_eq,decide_eq_false_iff_not]at d2 d3;refine .same (.refl _) ⟨?_,rfl⟩
  grind [Int,j4,ax]
theorem I7(c:UInt8): -1≤j4 c∧j4 c≤15:=by grind [j4,dgt]
theorem Pc(n:Nat)(h:n<256):((UInt8.ofNat n).toNat:Int)=n:=by simp;omega
theorem Ug(s:Txt)(h:Heap):ai prog 237 [.s s] h fun r h' =>(∃x:Int,r= .tup [.v (.int .u8 x),.v (.bool (uG s).isSome)]∧∀c,uG s=some c→x=c.toNat)∧h' =h:=by
 refine afs func237 38 [.tmp 2,.tmp 3] fun hwf=>?_
 have hlen:=hwf (.s s) afB;simp only[wfA,wf1,lim]at hlen;cases d0:decide ((s.length:Int)<3)
 case true=>
  have e0:s.length<3:=afv;have:uG s=none:=by
   match s,e0 with
   | [],_=>rfl
   | [_],_=>rfl
   | [_,_],_=>rfl
  simp only[go_sem,d0];exact .same (.refl _) ⟨⟨0,by rw[this];rfl,fun c hc=>afv⟩,rfl⟩
 have e0:3≤s.length:=afv;obtain⟨b,x,y,t,rfl⟩:∃b x y t,s=b::x::y::t:=by
  match s,e0 with
  |b::x::y::t,_=>exact⟨b,x,y,t,rfl⟩
 simp only[List.length_cons]at d0;have bad:uG (b::x::y::t)=none→∃z:Int,AV.tup [.v (.int .u8 0),.b false]= .tup [.v (.int .u8 z),.v (.bool (uG (b::x::y::t)).isSome)]∧∀c,uG (b::x::y::t)=some c→z=c.toNat:=
  fun e=>⟨0,afv,fun c hc=>afv⟩
 cases d1:((b.toNat:Int) !=92)
 case true=>
  have e1:b≠92:=by rintro rfl;grind
  simp only[go_sem,d0];refine .at 0 afB ?_;simp only[go_sem,aK,List.getElem_cons_zero,d1];exact ale
 have e1:b=92:=by have:(b.toNat:Int)=92:=afv;exact UInt8.toNat_inj.1 afv
 simp only[go_sem,d0];refine .at 0 afB ?_;simp only[go_sem,aK,List.getElem_cons_zero,d1];refine .at 1 afB ?_;simp only[go_sem,aK,List.getElem_cons_zero,List.getElem_cons_succ];refine(uh x _).pthen ?_;cases d2:decide (j4 x<0)
 case true=>have e2:=afl d2;simp only[go_sem,d2];exact ale
 have e2:0≤j4 x:=afv;simp only[go_sem,d2];refine .at 2 afB ?_;simp only[go_sem,aK,List.getElem_cons_zero,List.getElem_cons_succ];refine(uh y _).pthen ?_;cases d3:decide (j4 y<0)
 case true=>have e3:=afl d3;simp only[go_sem,d3];exact ale
 have e3:0≤j4 y:=afv;have hx:=I7 x;have hy:=I7 y;have w1:IntKind.i64.wrap (16*j4 x)=16*j4 x:=aW _ afu;have w2:IntKind.i64.wrap (16*j4 x+j4 y)=16*j4 x+j4 y:=aW _ afu;have w3:IntKind.u8.wrap (16*j4 x+j4 y)=((UInt8.ofNat (16*j4 x+j4 y).toNat).toNat:Int):=by grind [wr8,Pc]
 simp only[go_sem,d3];refine .quiet afx ?_;simp only[go_sem];refine .at 1 afB ?_;simp only[go_sem,aK,List.getElem_cons_zero,List.getElem_cons_succ];refine⟨_,uh x _,?_⟩;simp only[go_sem];refine .at 2 afB ?_;simp only[go_sem,aK,List.getElem_cons_zero,List.getElem_cons_succ];refine⟨_,uh y _,?_⟩;simp only[go_sem,w1,w2,w3];refine(Fl _ _).pthen ?_;simp only[go_sem];refine .same (.refl _) ⟨⟨((UInt8.ofNat (16*j4 x+j4 y).toNat).toNat:Int),?_,fun c hc=>?_⟩,rfl⟩
 ·grind [uF,UInt8.ofNat,j4,uG,ax]
 grind [uG]
theorem u5z:(U 5).sz=1:=afJ
theorem u5b:(U 5).bytes=1:=afJ
theorem oh(l:List UInt8):Sized 1 (l.map aK):=fun z hz=>by obtain⟨c,_,rfl⟩:=List.mem_map.1 hz;rfl
theorem JM(s:Txt)(hs:s.length≤10000)(h:Heap):ai prog 188 [.s s] h fun r h' =>r= .tup [.s (Az s).1,.v (.int .i64 (Az s).2)]∧h' =h:=by
 refine aw func188 50 [.tmp 2,.tmp 3] ?_
 simp only[go_sem];refine .intro (fun m ρ h' =>∃(i f:Nat) (y:AV) (out:Txt),Acc U 5 h h' y (out.map aK)∧out.length≤i∧m=s.length+1 - i∧i≤s.length+3∧s.length≤f+i∧ve f (s.drop i) i out=Az s∧lk ρ 0=some (.s s)∧lk ρ 4=some y∧lk ρ 5=some (.i i)) s.length ?_ ?_
 ·refine⟨1,s.length,.sl [] .full,[],.full (.refl _),afB,afu,afu,afu,rfl,?_,?_,?_⟩<;>simp only[go_sem]
 ·rintro m ρ h' ⟨i,f,y,out,hy,hoi,rfl,hi,hf,he,r0,r4,r5⟩
  cases d1:decide ((i:Int)<(s.length:Int))
  ·have hge:s.length≤i:=by grind
   have hd:s.drop i= []:=List.drop_of_length_le hge;have:Az s=([],0):=by rw[←he,hd];cases f<;>rfl
   simp only[go_sem,r0,r5,d1];exact .mk _ (.refl _) hy.1 ⟨by rw[this];rfl,rfl⟩
  have hlt:i<s.length:=afv;obtain⟨f,rfl⟩:∃g,f=g+1:=⟨f - 1,afu⟩;have hdr:s.drop i=s[i]::s.drop (i+1):=List.drop_eq_getElem_cons hlt;rw[hdr]at he;simp only[ve]at he;have w1:IntKind.i64.wrap ((i:Int)+1)=((i+1:Nat):Int):=afG;have w3:IntKind.i64.wrap ((i:Int)+3)=((i+3:Nat):Int):=afG;simp only[go_sem,r0,r5,d1];refine .at i hlt ?_;cases d2:((s[i].toNat:Int)==34)
  case true=>
   have e2:s[i]=34:=by have:(s[i].toNat:Int)=34:=afv;exact UInt8.toNat_inj.1 afv
   rw[if_pos e2]at he;cases d3:decide (64<(out.length:Int))
   case true=>have e3:64<out.length:=afv;rw[if_pos e3]at he;simp only[go_sem,r4,aK,d2,hy.len,afj,d3];exact ak8
   have e3:¬64<out.length:=afv;rw[if_neg e3]at he;simp only[go_sem,r4,aK,d2,hy.len,afj,d3];obtain⟨q,rfl⟩:=hy.row;simp only[go_sem,r5,w1];exact ak8
  have e2:s[i]≠34:=by intro e;simp_all
  rw[if_neg e2]at he;simp only[go_sem,r0,r5,aK,d2];refine .at i hlt ?_;simp only[go_sem,aK];refine(Fl _ _).pthen ?_;cases d4:uF s[i]
  ·rw[if_pos d4]at he
   simp only[go_sem,r0,r4,r5,d4];refine .at i hlt ?_;simp only[go_sem,aK];refine hy.app (zs:=[aK s[i]]) afy afy (fun k hk=>hk) (by grind [u5z,oh]) (by rw[u5z];exact oh [s[i]]) (by grind [u5b]) fun y' h2 hy' hk2=>?_
   simp only[go_sem,r5,w1];refine⟨_,?_,i+1,f,y',out++ [s[i]],afv,afv,rfl,afu,afu,he,?_,?_,?_⟩
   ·omega
   all_goals simp only[go_sem,r0]
  ·rw[if_neg afv]at he
   simp only[go_sem,r0,r5,d4];refine⟨afu,?_⟩;simp only[go_sem,Option.isSome_none,Option.isSome_some,mP,Int.toNat_natCast];refine⟨afu,afu,?_⟩;refine(Ug _ _).mono fun x h2 hx=>?_
   obtain⟨⟨v,rfl,hv⟩,rfl⟩:=hx;rw[←hdr]at he;cases e5:uG (s.drop i)with
   |none=>rw[e5]at he;simp only[go_sem,Option.isSome_none];exact ak8
   |some b=>
    rw[e5]at he;have hvb:=hv b e5;subst hvb;have h3:=E8 e5;simp only[List.length_drop]at h3;simp only[go_sem,r4,Option.isSome_some];refine hy.app (zs:=[aK b]) afy afy (fun k hk=>hk) (by grind [u5z,oh]) (by rw[u5z];exact oh [b]) (by grind [u5b]) fun y' h2 hy' hk2=>?_
    simp only[go_sem,r5,w3];refine⟨_,?_,i+3,f,y',out++ [b],afv,afv,rfl,afu,afu,?_,?_,?_,?_⟩
    ·omega
    ·simp_all
    all_goals simp only[go_sem,r0]
end Go.Proofs.YtelkmnkejghkeaaGreatDoor
namespace Go.Bf
open Go Go.Ab
theorem IN(c:UInt8):dgt c=true↔48≤c.toNat∧c.toNat≤57:=by simp only[dgt,Bool.and_eq_true,decide_eq_true_eq];omega
def Kg(acc:Nat)(l:Txt):Nat:=l.foldl (fun n c=>n*10+(c.toNat - 48)) acc
theorem BA(acc:Nat)(c:UInt8)(r:Txt):Kg acc (c::r)=Kg (acc*10+(c.toNat - 48)) r:=List.foldl_cons ..
theorem D9:∀(l:Txt) (acc:Nat),acc≤Kg acc l
 | [],acc=>Nat.le_refl _
 |c::r,acc=>by rw[BA];exact Nat.le_trans afu (D9 r (acc*10+(c.toNat - 48)))
theorem uN:∀(l:Txt) (acc:Nat),(∀c∈l,dgt c=true)→acc<18446744073709551616→
  Lib.parseUint10 acc l=if Kg acc l<18446744073709551616 then .ok (Kg acc l)else .range
 | [],acc,_,ha=>by have:Kg acc []=acc:=rfl;rw[this,if_pos ha];rfl
 |c::r,acc,hd,ha=>by
  have hc:=(IN c).1 (hd c afB);have hm:=D9 r (acc*10+(c.toNat - 48));rw[BA];unfold Lib.parseUint10;rw[if_pos hc];split
  ·rw[if_neg afu]
  ·split
   ·rw[if_neg afu]
   ·exact uN r _ afv afu
def qL(neg:Bool):Txt:=if neg then [45]else []
theorem wJ(neg:Bool)(d:Txt)(h0:d≠ [])(hd:∀c∈d,dgt c=true):
  Lib.atoiAll (qL neg++d)=if -9223372036854775808≤(if neg then -(mQ d:Int)else(mQ d:Int))∧(if neg then -(mQ d:Int)else(mQ d:Int))≤9223372036854775807 then .ok (if neg then -(mQ d:Int)else(mQ d:Int))else .range:=by
 have hp:Lib.parseMag d=if mQ d<18446744073709551616 then .ok (mQ d)else .range:=by unfold Lib.parseMag;rw[if_neg h0];exact uN d 0 hd afy
 cases neg
 ·obtain⟨c,r,rfl⟩:=List.exists_cons_of_ne_nil h0
  have hc:=(IN c).1 (hd c afB);simp only[qL,Bool.false_eq_true,if_false,List.nil_append,Lib.atoiAll];rw[if_neg afu,hp];have e45:(c.toNat=45)=False:=afv;simp only[e45,not_false_eq_true,true_and,false_and,if_false];split
  ·rename_i h;split at h
   ·cases h
   ·cases h
  ·rename_i h;split at h
   ·cases h
   ·rw[if_neg afu]
  ·rename_i u h;split at h
   ·cases h
    split
    ·rw[if_neg afu]
    ·rw[if_pos afu]
   ·cases h
 ·simp only[qL,if_true,List.cons_append,List.nil_append,Lib.atoiAll]
  rw[if_pos (.inr afy),hp];simp only[show((45:UInt8).toNat=45)=True by simp,not_true_eq_false,false_and,if_false,true_and,if_true]
  split
  ·rename_i h;split at h
   ·cases h
   ·cases h
  ·rename_i h;split at h
   ·cases h
   ·rw[if_neg afu]
  ·rename_i u h;split at h
   ·cases h
    split
    ·rw[if_neg afu]
    ·rw[if_pos afu]
   ·cases h
theorem Bh(s:Txt):∀c∈s.takeWhile dgt,dgt c=true:=fun c hc=>by
 induction s with
 |nil=>cases hc
 |cons x r ih=>
  simp only[List.takeWhile_cons]at hc
  grind
end Go.Bf
namespace Go.Proofs
open Go.Shelf
def Tryz.ET:Go.Shelf.Ren:=⟨fun|137=>189|217=>230|266=>266|n=>n,fun|9=>9|5=>5|3=>3|n=>n,fun|n=>n⟩
theorem Tryz.Je:Go.Proofs.Lays.n137 Tryz.prog Tryz.ET:={
 mixed:=afJ
 f137:=Tryz.func189.trans afJ
 f217:=Tryz.func230.trans afJ
 f266:=Tryz.func266.trans afJ
 t3:=Tryz.underlying3
 a3:=Tryz.isAgg3
 z3:=Tryz.sizeOf3
 v3:=Tryz.zeroValue3
 t5:=Tryz.underlying5
 a5:=Tryz.isAgg5
 z5:=Tryz.sizeOf5
 v5:=Tryz.zeroValue5
 t9:=Tryz.underlying9
 a9:=Tryz.isAgg9
 z9:=Tryz.sizeOf9
 v9:=Tryz.zeroValue9}
open Go.RowKit in
theorem Tryz.strings_IndexByte(s:ByteArray)(c:Int)(w:World):
  Calls Tryz.prog 189 #[.string s,.int .u8 c] w fun e w' =>e= .returned (.int .i64 (Lib.indexByte s.data.toList c.toNat.toUInt8))∧w' =w:=Any.strings_IndexByte Tryz.Je s c w
def Tryz.Da:Go.Shelf.Ren:=⟨fun|172=>77|244=>135|245=>136|247=>190|279=>191|280=>192|281=>193|282=>194|287=>238|316=>239|171=>69|205=>240|321=>269|322=>270|243=>128|246=>175|283=>224|284=>225|285=>226|286=>227|129=>261|317=>260|318=>262|319=>263|320=>264|337=>288|338=>289|n=>n,fun|9=>9|3=>3|75=>159|76=>160|4=>4|5=>5|167=>282|37=>76|0=>0|85=>283|2=>2|168=>285|53=>74|175=>322|46=>144|210=>325|127=>317|145=>360|143=>358|21=>21|171=>312|173=>315|212=>349|51=>273|20=>20|213=>350|232=>401|233=>402|80=>233|n=>n,fun|15=>1|16=>2|17=>3|18=>4|19=>5|n=>n⟩
theorem Tryz.EU:Go.Proofs.LaysC.n172 Tryz.prog Tryz.Da:={
 mixed:=afJ
 f129:=Tryz.func261.trans afJ
 f171:=Tryz.func69.trans afJ
 f172:=Tryz.func77.trans afJ
 f205:=Tryz.func240.trans afJ
 f243:=Tryz.func128.trans afJ
 f244:=Tryz.func135.trans afJ
 f245:=Tryz.func136.trans afJ
 f246:=Tryz.func175.trans afJ
 f247:=Tryz.func190.trans afJ
 f279:=Tryz.func191.trans afJ
 f280:=Tryz.func192.trans afJ
 f281:=Tryz.func193.trans afJ
 f282:=Tryz.func194.trans afJ
 f283:=Tryz.func224.trans afJ
 f284:=Tryz.func225.trans afJ
 f285:=Tryz.func226.trans afJ
 f286:=Tryz.func227.trans afJ
 f287:=Tryz.func238.trans afJ
 f316:=Tryz.func239.trans afJ
 f317:=Tryz.func260.trans afJ
 f318:=Tryz.func262.trans afJ
 f319:=Tryz.func263.trans afJ
 f320:=Tryz.func264.trans afJ
 f321:=Tryz.func269.trans afJ
 f322:=Tryz.func270.trans afJ
 f337:=Tryz.func288.trans afJ
 f338:=Tryz.func289.trans afJ
 t0:=Tryz.underlying0
 a0:=Tryz.isAgg0
 z0:=Tryz.sizeOf0
 v0:=Tryz.zeroValue0
 t2:=Tryz.underlying2
 a2:=Tryz.isAgg2
 z2:=Tryz.sizeOf2
 v2:=Tryz.zeroValue2
 t3:=Tryz.underlying3
 a3:=Tryz.isAgg3
 z3:=Tryz.sizeOf3
 v3:=Tryz.zeroValue3
 t4:=Tryz.underlying4
 a4:=Tryz.isAgg4
 z4:=Tryz.sizeOf4
 v4:=Tryz.zeroValue4
 t5:=Tryz.underlying5
 a5:=Tryz.isAgg5
 z5:=Tryz.sizeOf5
 v5:=Tryz.zeroValue5
 t9:=Tryz.underlying9
 a9:=Tryz.isAgg9
 z9:=Tryz.sizeOf9
 v9:=Tryz.zeroValue9
 t20:=Tryz.underlying20
 a20:=Tryz.isAgg20
 z20:=Tryz.sizeOf20
 v20:=Tryz.zeroValue20
 t21:=Tryz.underlying21
 a21:=Tryz.isAgg21
 z21:=Tryz.sizeOf21
 v21:=Tryz.zeroValue21
 t37:=Tryz.underlying76
 a37:=Tryz.isAgg76
 z37:=Tryz.sizeOf76
 v37:=Tryz.zeroValue76
 t46:=Tryz.underlying144
 a46:=Tryz.isAgg144
 z46:=Tryz.sizeOf144
 v46:=Tryz.zeroValue144
 t51:=Tryz.underlying273
 a51:=Tryz.isAgg273
 z51:=Tryz.sizeOf273
 v51:=Tryz.zeroValue273
 t53:=Tryz.underlying74
 a53:=Tryz.isAgg74
 z53:=Tryz.sizeOf74
 v53:=Tryz.zeroValue74
 t75:=Tryz.underlying159
 a75:=Tryz.isAgg159
 z75:=Tryz.sizeOf159
 v75:=Tryz.zeroValue159
 t76:=Tryz.underlying160
 a76:=Tryz.isAgg160
 z76:=Tryz.sizeOf160
 v76:=Tryz.zeroValue160
 t85:=Tryz.underlying283
 a85:=Tryz.isAgg283
 z85:=Tryz.sizeOf283
 v85:=Tryz.zeroValue283
 t127:=Tryz.underlying317
 a127:=Tryz.isAgg317
 z127:=Tryz.sizeOf317
 v127:=Tryz.zeroValue317
 t143:=Tryz.underlying358
 a143:=Tryz.isAgg358
 z143:=Tryz.sizeOf358
 v143:=Tryz.zeroValue358
 t145:=Tryz.underlying360
 a145:=Tryz.isAgg360
 z145:=Tryz.sizeOf360
 v145:=Tryz.zeroValue360
 t167:=Tryz.underlying282
 a167:=Tryz.isAgg282
 z167:=Tryz.sizeOf282
 v167:=Tryz.zeroValue282
 t168:=Tryz.underlying285
 a168:=Tryz.isAgg285
 z168:=Tryz.sizeOf285
 v168:=Tryz.zeroValue285
 t171:=Tryz.underlying312
 a171:=Tryz.isAgg312
 z171:=Tryz.sizeOf312
 v171:=Tryz.zeroValue312
 t173:=Tryz.underlying315
 a173:=Tryz.isAgg315
 z173:=Tryz.sizeOf315
 v173:=Tryz.zeroValue315
 t175:=Tryz.underlying322
 a175:=Tryz.isAgg322
 z175:=Tryz.sizeOf322
 v175:=Tryz.zeroValue322
 t210:=Tryz.underlying325
 a210:=Tryz.isAgg325
 z210:=Tryz.sizeOf325
 v210:=Tryz.zeroValue325
 t212:=Tryz.underlying349
 a212:=Tryz.isAgg349
 z212:=Tryz.sizeOf349
 v212:=Tryz.zeroValue349
 t213:=Tryz.underlying350
 a213:=Tryz.isAgg350
 z213:=Tryz.sizeOf350
 t232:=Tryz.underlying401
 a232:=Tryz.isAgg401
 z232:=Tryz.sizeOf401
 v232:=Tryz.zeroValue401
 t233:=Tryz.underlying402
 a233:=Tryz.isAgg402
 z233:=Tryz.sizeOf402
 v233:=Tryz.zeroValue402
 g15:=afx
 g16:=afx
 g17:=afx
 g18:=afx
 g19:=afx
 t80:=Tryz.underlying233
 a80:=Tryz.isAgg233
 z80:=Tryz.sizeOf233
 v80:=Tryz.zeroValue233
 i0:=afx
 i2:=afx
 i3:=afx
 i4:=afx
 i5:=afx
 i9:=afx
 i20:=afx
 i21:=afx
 i37:=afx
 i46:=afx
 i51:=afx
 i53:=afx
 i75:=afx
 i76:=afx
 i80:=afx
 i85:=afx
 i127:=afx
 i143:=afx
 i145:=afx
 i167:=afx
 i168:=afx
 i171:=afx
 i173:=afx
 i175:=afx
 i210:=afx
 i212:=afx
 i232:=afx
 i233:=afx
 m15:=afJ
 m16:=afJ
 m17:=afJ
 m18:=afJ
 m19:=afJ
 c0:=afx
 c2:=afx
 c3:=afx
 c4:=afx
 c5:=afx
 c9:=afx
 c20:=afx
 c21:=afx
 c37:=afx
 c46:=afx
 c51:=afx
 c53:=afx
 c75:=afx
 c76:=afx
 c80:=afx
 c85:=afx
 c127:=afx
 c143:=afx
 c145:=afx
 c167:=afx
 c168:=afx
 c171:=afx
 c173:=afx
 c175:=afx
 c210:=afx
 c212:=afx
 c213:=afx
 c232:=afx
 c233:=afx}
open Go.RowKit in
theorem Tryz.strconv_Atoi_ok(s:ByteArray)(hmax:s.size≤9223372036854775806)(v:Int)(h:Lib.atoiAll s.data.toList= .ok v)(w:World):
  Calls Tryz.prog 77 #[.string s] w fun e w' =>e= .returned (.tuple #[.int .i64 v,.nilIface])∧(w' =w∨∃t,w' =Lib.bytesWorld w 5 t):=Any.strconv_Atoi_ok Tryz.EU s hmax v h w
open Go.RowKit in
theorem Tryz.strconv_Atoi_range(s:ByteArray)(hlim:s.size≤281474976710656)(h:Lib.atoiAll s.data.toList= .range)(ev:Value)(w:World)(hv:w.cell? ⟨2,0,none⟩=some ev)(hev:ev= .nilIface∨∃te pe,ev= .iface te pe):
  Calls Tryz.prog 77 #[.string s] w fun e w' =>∃N,e= .returned (.tuple #[.int .i64 (Lib.atoiSat s.data.toList),.iface 285 (.pointer (some ⟨N,0,none⟩))])∧w.heap.size≤N∧w'.heap[N]? =some (.cells #[.string ⟨#[65,116,111,105]⟩,.string s,ev] 325 (0,0))∧Below w.heap.size w w' :=Any.strconv_Atoi_range Tryz.EU s hlim h ev w hv hev
end Go.Proofs
namespace Go.Proofs.YtelkmnkejghkeaaGreatDoor
open Go Go.Ab Go.Bf Go.RowKit Tryz
theorem LJ(s:Txt)(hs:s.length≤100000)(w:World):Calls prog 234 #[.string ⟨s.toArray⟩,.func (.func 186) #[] #[]] w fun e w' =>e= .returned (.int .i64 (s.takeWhile dgt).length)∧Below w.heap.size w w' :=by
 refine Go.Ab.ai.calls (args:=[.s s,.fn 186 []]) ⟨_,func234,afJ,rfl⟩ ((OU _ _ nN s cY).mono fun _ _ h=>h.1) rfl (fun i hi=>?_)
 rcases i with _|_|i
 ·exact .s s (by grind [lim,Nat])
 ·exact .fn _ [] #[] rfl (fun i hi=>by cases hi)
 ·simp at hi;omega
def Bl(neg:Bool)(d:Txt):Int:=if neg then -(mQ d:Int)else(mQ d:Int)
def inI(neg:Bool)(d:Txt):Prop:= -9223372036854775808≤(if neg then -(mQ d:Int)else(mQ d:Int))∧(if neg then -(mQ d:Int)else(mQ d:Int))≤9223372036854775807
instance (neg:Bool) (d:Txt):Decidable (inI neg d):=inferInstanceAs (Decidable (_∧_))
theorem Aq(neg:Bool):(qL neg).length≤1:=by cases neg<;>decide
theorem CO(neg:Bool)(d:Txt)(h0:d≠ [])(hd:∀c∈d,dgt c=true)(hlen:d.length≤10000)(S:ByteArray)(hS:S=⟨(qL neg++d).toArray⟩)(hr:inI neg d)(W:World):
  Calls prog 77 #[.string S] W fun e w' =>e= .returned (.tuple #[.int .i64 (Bl neg d),.nilIface])∧Below W.heap.size W w' :=by
 have hl:=Aq neg;have hsz:S.size≤10001:=by grind [ByteArray.size]
 have ha:Lib.atoiAll S.data.toList= .ok (Bl neg d):=by rw[hS];rw[wJ neg d h0 hd];exact if_pos hr
 refine(Tryz.strconv_Atoi_ok S afu _ ha W).mono ?_
 rintro e w' ⟨rfl,rfl|⟨t,rfl⟩⟩
 ·exact⟨rfl,.refl _ _⟩
 ·exact⟨rfl,Lib.bytesWorld_below W _ t⟩
theorem DS(neg:Bool)(d:Txt)(h0:d≠ [])(hd:∀c∈d,dgt c=true)(hlen:d.length≤10000)(S:ByteArray)(hS:S=⟨(qL neg++d).toArray⟩)(hr:¬inI neg d)(W:World)(ev:Value)(hv:W.cell? ⟨2,0,none⟩=some ev)(hev:ev= .nilIface∨∃te pe,ev= .iface te pe):
  Calls prog 77 #[.string S] W fun e w' =>(∃(x:Int) (N:Nat),e= .returned (.tuple #[.int .i64 x,.iface 285 (.pointer (some ⟨N,0,none⟩))]))∧Below W.heap.size W w' :=by
 have hl:=Aq neg;have hsz:S.size≤10001:=by grind [ByteArray.size]
 have ha:Lib.atoiAll S.data.toList= .range:=by rw[hS];rw[wJ neg d h0 hd];exact if_neg hr
 refine(Tryz.strconv_Atoi_range S afu ha ev W hv hev).mono ?_
 grind
set_option maxHeartbeats 1000000 in
theorem E7(neg:Bool)(s:Txt)(hs:s.length≤10000)(w:World)(ev:Value)(hv:w.cell? ⟨2,0,none⟩=some ev)(hev:ev= .nilIface∨∃te pe,ev= .iface te pe)(hg:2<w.heap.size):
  Calls prog 187 #[.string ⟨(qL neg).toArray⟩,.string ⟨s.toArray⟩] w fun e w' =>e= .returned (.tuple #[.int .i64 (fh neg s).1,.int .i64 ((fh neg s).2:Nat)])∧Below w.heap.size w w' :=by
 have hle:=kT dgt s;obtain⟨d,ed⟩:∃d,s.takeWhile dgt=d:=⟨_,rfl⟩;have htk:s.take d.length=d:=by grind [si]
 have hrun:=LJ s afu w;have hall:=Bh s;rw[ed]at hrun hle hall
 go_enter func187,Tryz.ntmps187
 by_cases h0:d.length=0
 ·have e0:d= []:=by grind
  have en:fh neg s=(0,0):=by simp_all [fh,if_pos]
  go_wp2_with (go_at_call 234;refine hrun.mono ?_)
  rintro e W0 ⟨rfl,b0⟩
  rw[h0]
  go_wp2
  go_ret2
  simp_all
 ·have e0:d≠ []:=by grind
  go_wp2_with (go_at_call 234;refine hrun.mono ?_)
  rintro e W0 ⟨rfl,b0⟩
  have hpos:0<d.length:=afu;have hs0:0<s.length:=afu;have hsz:0<(⟨s.toArray⟩:ByteArray).size:=by grind [ByteArray.size]
  have hg0:(⟨s.toArray⟩:ByteArray)[0]=s[0]:=rfl;have hgn:∀x:UInt8,(s.head? =some x)↔s[0]=x:=fun x=>by rw[List.head?_eq_getElem?,List.getElem?_eq_getElem hs0];simp
  cases d0:((d.length:Int)==0)
  case true=>exact absurd afv h0
  have hS:(⟨(qL neg).toArray⟩:ByteArray)++(⟨s.toArray⟩:ByteArray).extract 0 d.length=⟨(qL neg++d).toArray⟩:=by
   apply ByteArray.ext
   simp_all
  have hcat:¬9223372036854775807<List.length (qL neg)+d.length:=by grind [Aq]
  cases d1:decide (1<(d.length:Int))
  ·have f1:¬1<d.length:=by grind
   have en:fh neg s=if inI neg d then(Bl neg d,d.length)else(0,0):=by unfold fh;rw[ed,if_neg afv];rfl
   have hv0:W0.cell? ⟨2,0,none⟩=some ev:=by rw[b0.cell hg];omega
   by_cases hr:inI neg d
   ·rw[if_pos hr]at en
    go_wp2_with (go_at_call 77;refine(CO neg d e0 hall afu _ afJ hr _).mono ?_)
    rintro e W1 ⟨rfl,b1⟩
    go_wp2
    go_ret2
    rw[en];exact ahi
   ·rw[if_neg hr]at en
    go_wp2_with (go_at_call 77;refine(DS neg d e0 hall afu _ afJ hr _ ev hv0 hev).mono ?_)
    rintro e W1 ⟨⟨x,N,rfl⟩,b1⟩
    go_wp2
    go_ret2
    rw[en];exact ahi
  ·have f1:1<d.length:=by grind
   cases d2:((s[0].toNat:Int)==48)
   ·have f2:s.head?≠some 48:=by rw[ne_eq,hgn];intro e;simp_all
    have en:fh neg s=if inI neg d then(Bl neg d,d.length)else(0,0):=by unfold fh;rw[ed,if_neg afv];rfl
    have hv0:W0.cell? ⟨2,0,none⟩=some ev:=by rw[b0.cell hg];omega
    by_cases hr:inI neg d
    ·rw[if_pos hr]at en
     go_wp2_with (go_at_call 77;refine(CO neg d e0 hall afu _ afJ hr _).mono ?_)
     rintro e W1 ⟨rfl,b1⟩
     go_wp2
     go_ret2
     rw[en];exact ahi
    ·rw[if_neg hr]at en
     go_wp2_with (go_at_call 77;refine(DS neg d e0 hall afu _ afJ hr _ ev hv0 hev).mono ?_)
     rintro e W1 ⟨⟨x,N,rfl⟩,b1⟩
     go_wp2
     go_ret2
     rw[en];exact ahi
   ·have f2:s.head? =some 48:=by rw[hgn];have:(s[0].toNat:Int)=48:=afv;exact UInt8.toNat_inj.1 afv
    have en:fh neg s=(0,0):=by simp_all [fh,if_pos]
    go_wp2
    go_ret2
    simp_all
def jt(h:Heap):Prop:=∃ev:Value,(ev= .nilIface∨∃te pe,ev= .iface te pe)∧Tab h 2 [ev]
theorem jt.sub{h h' :Heap}(he:jt h)(hs:Ab.Sub h h'):jt h' :=by obtain⟨ev,h1,h2⟩:=he;exact⟨ev,h1,h2.sub hs⟩
theorem ni(neg:Bool)(s:Txt)(hs:s.length≤10000)(h:Heap)(he:jt h):ai prog 187 [.s (qL neg),.s s] h fun r h' =>r= .tup [.v (.int .i64 (fh neg s).1),.i ((fh neg s).2:Nat)]∧h' =h:=by
 obtain⟨ev,hev,id,hi⟩:=he;refine .lib ⟨_,func187,afJ,rfl⟩ fun c vs hs' g h1 h2=>?_
 obtain⟨u,v,rfl⟩:∃u v,vs= #[u,v]:=by
  match vs,h1 with
  |⟨[u,v]⟩,_=>exact⟨u,v,rfl⟩
 have e1:u= .string ⟨(qL neg).toArray⟩:=((h2 0 afB).me).1;have e2:v= .string ⟨s.toArray⟩:=((h2 1 afB).me).1;subst e1;subst e2
 obtain⟨_,t,fr,hh⟩:=g.ro id _ _ (hs' _ _ hi);have hc:c.w.cell? ⟨2,0,none⟩=some ev:=by grind [World.cell?]
 refine(E7 neg s hs c.w ev hc hev (dw hh)).mono ?_;exact akI
end Go.Proofs.YtelkmnkejghkeaaGreatDoor
namespace Go.Bf
open Go Go.Ab
def marks:Txt:=[123,125,40,41,46,44,59,61,60,62,33]
theorem AZ:∀n:Fin 256,decide (0≤Lib.indexByte marks (UInt8.ofNat n.val))=E0 (UInt8.ofNat n.val):=afy
theorem sw(c:UInt8):decide (0≤Lib.indexByte marks c)=E0 c:=by have:=AZ ⟨c.toNat,c.toNat_lt⟩;simpa using this
end Go.Bf
namespace Go.Proofs.YtelkmnkejghkeaaGreatDoor
open Go Go.Ab Go.Bf Tryz
variable {f:FuncId}{args xs:List AV}{st st':PS}{R y:AV}{h G B H K a h':Heap}{Q:AV→Heap→Prop}{j idw mid nr nk d:Nat}{e:TypeId}{l:List aP}{ex:ExF}{S:List Nat}{m m1:eS}{s:Txt}{alg:Int}{tgt:gu}{obls:List cE}{rules:List cR}{kids:List bC}
theorem EJ(l:Txt)(c:UInt8)(h:Heap):ai prog 189 [.s l,.v (.int .u8 c.toNat)] h fun r h' =>r= .i (Lib.indexByte l c)∧h' =h:=by
 refine .lib ⟨_,func189,afJ,rfl⟩ fun cx vs hs' g h1 h2=>?_
 obtain⟨u,v,rfl⟩:∃u v,vs= #[u,v]:=by
  match vs,h1 with
  |⟨[u,v]⟩,_=>exact⟨u,v,rfl⟩
 have e1:u= .string ⟨l.toArray⟩:=((h2 0 afB).me).1;have e2:v= .int .u8 c.toNat:=(h2 1 afB).bV;subst e1;subst e2
 refine(Tryz.strings_IndexByte ⟨l.toArray⟩ c.toNat cx.w).mono ?_;exact akP
theorem J1(s:Txt)(h0:s≠ [])(hs:s.length≤4096)(h:Heap)(he:jt h):ai prog 134 [.s s] h fun r h' =>r= .tup [fN (bR s).1,.i ((bR s).2:Nat)]∧h' =h:=by
 refine aw func134 106 [.cell 2 157,.tmp 3] ?_
 obtain⟨c,r,rfl⟩:=List.exists_cons_of_ne_nil h0;have hsl:r.length≤4095:=by simpa using hs
 simp only[go_sem];intro i2 hi2;simp only[go_sem];intro i4 hi4;have n24:=aH hi4;have g2:∀(f:Heap) (x:Option Blk),upd f i4 x i2=f i2:=fun f x=>ag f x n24.symm
 have g4:∀(f:Heap) (x:Option Blk),upd f i2 x i4=f i4:=fun f x=>ag f x n24
 have hsub:Ab.Sub h (upd (upd h i2 (some (.obj [.i 0,.i 0,.i 0,.s []] 157))) i4 (some (.obj [.i 0,.i 0,.i 0,.s []] 157))):=(Sub.aj hi2).trans (.aj hi4);have he2:=he.sub hsub;have hi4h:h i4=none:=by rw[ag _ _ n24]at hi4;exact hi4
 simp only[go_sem];refine .at 0 afB ?_;cases la:decide (97≤(c.toNat:Int))
 ·have hl:ltr c=false:=by simp only[ltr,la,Bool.false_and]
  simp only[go_sem,aK,List.getElem_cons_zero,la];exact ajI
 ·cases lb:decide ((c.toNat:Int)≤122)
  ·have hl:ltr c=false:=by simp only[ltr,lb,Bool.and_false]
   simp only[go_sem,aK,List.getElem_cons_zero,la,lb];exact ajI
  ·have hl:ltr c=true:=by simp only[ltr,la,lb];rfl
   simp only[go_sem,aK,List.getElem_cons_zero,la,lb];refine(zO _ _).pthen ?_;simp only[go_sem,g2,ah];exact .mk _ (.refl _) afw ⟨by simp[bR,hl,fN,ax],rfl⟩
theorem RB:(U 157).sz=4:=afJ
theorem XL:(U 157).bytes=40:=afJ
theorem qD(l:List qO):Sized 4 (l.map fN):=fun z hz=>by obtain⟨c,_,rfl⟩:=List.mem_map.1 hz;rfl
def Hw:Lexed→AV
 |.bad e a=> .tup [.sl [] .no,.i e,.i a]
 |.ok l=> .tup [.sl (l.map fN) .no,.i 0,.i 0]
def Ml(s:Txt)(h:Heap)(m:Nat)(ρ:Env)(h' :Heap):Prop:=
 ∃(i f:Nat) (y:AV) (out:List qO) (id:Nat),Acc U 157 h h' y (out.map fN)∧out.length≤i∧i≤s.length∧m=s.length - i∧s.length<f+i∧s.length≤4096∧h id=none∧(∃c0 c1 c2 c3,h' id=some (.obj [c0,c1,c2,c3] 157))∧qR f (s.drop i) i out=qg s∧lk ρ 0=some (.s s)∧lk ρ 5=some y∧lk ρ 6=some (.ptr id 0)∧lk ρ 7=some (.i i)
theorem yN(s:Txt)(h:Heap)(he:jt h):ai prog 76 [.s s] h fun r h' =>r=Hw (qg s)∧h' =h:=by
 refine ai.of_wp hU func76 rfl afJ 52 rfl [.tmp 2,.tmp 3,.tmp 4] rfl (afi rfl) ?_;refine .one hU hm ?_;simp only[go_sem];refine WP.OW hU hm 0 (Ml s h) rfl ?_ ?_
 ·rintro m ρ h' ⟨i,f,y,out,id,hy,hoi,hi,rfl,hf,hs,hid,⟨c0,c1,c2,c3,hob⟩,hl,r0,r5,r6,r7⟩
  refine .vc hU hm ?_;cases d1:((i:Int)==(s.length:Int))
  case true=>
   have e1:i=s.length:=afv;subst e1;obtain⟨f,rfl⟩:∃g,f=g+1:=⟨f - 1,afu⟩;rw[List.drop_length]at hl;simp only[qR]at hl;simp only[go_sem,r0,r5,r7,d1];refine hy.app (zs:=[fN ⟨7,s.length,0,[]⟩]) afy afy (fun k hk=>hk) (by grind [RB,qD]) (by rw[RB];exact qD [⟨7,s.length,0,[]⟩]) (by grind [XL]) fun y' h2 hy' hk2=>?_
   simp only[go_sem];obtain⟨q,rfl⟩:=hy'.row;refine .mk _ (Cw _ _ _ _) hy'.1 ⟨?_,rfl⟩
   grind [Hw]
  have e1:i≠s.length:=afv;have hlt:i<s.length:=afu;obtain⟨f,rfl⟩:∃g,f=g+1:=⟨f - 1,afu⟩;have hdr:s.drop i=s[i]::s.drop (i+1):=afB;have w1:IntKind.i64.wrap ((i:Int)+1)=((i+1:Nat):Int):=afG;have hl2:=hl;rw[hdr]at hl2;simp only[qR]at hl2;rw[←hdr]at hl2;have blank:ri s[i]=true→∃m',m' <s.length - i∧True:=fun _=>⟨s.length - (i+1),afu,trivial⟩
  cases d2:((s[i].toNat:Int)==32)
  case true=>
   have hb:ri s[i]=true:=by simp only[ri,d2,Bool.true_or]
   rw[if_pos hb]at hl2;simp only[go_sem,r0,r7,d1];refine .at i hlt ?_;simp only[go_sem,r7,aK,d2,w1];exact akH
  cases d3:((s[i].toNat:Int)==10)
  case true=>
   have hb:ri s[i]=true:=by simp only[ri,d3,Bool.or_true]
   rw[if_pos hb]at hl2;simp only[go_sem,r0,r7,d1];refine .at i hlt ?_;simp only[go_sem,r0,r7,aK,d2];refine .at i hlt ?_;simp only[go_sem,r7,aK,d3,w1];exact akH
  have hb:¬ri s[i]=true:=by grind [ri]
  rw[if_neg hb]at hl2;have hne:s.drop i≠ []:=fun e=>by have:=congrArg List.length e;simp at this;omega
  have hle:=tc (s.drop i) hne;have hdl:(s.drop i).length=s.length - i:=afB;have hbo:=fun hh eh=>J1 (s.drop i) hne afu hh eh
  obtain⟨t,n,etn⟩:∃t n,bR (s.drop i)=(t,n):=⟨_,_,rfl⟩;rw[etn]at hbo hl2 hle;simp only[fN]at hbo hl2 hle;simp only[go_sem,r0,r7,d1];refine .at i hlt ?_;simp only[go_sem,r0,r7,aK,d2];refine .at i hlt ?_;simp only[go_sem,r0,r7,aK,d3,mP,Option.isSome_none,Option.isSome_some,Int.toNat_natCast];refine⟨afu,afu,afu,?_⟩;refine(hbo _ (he.sub hy.1)).pthen ?_;cases d4:((n:Int)==0)
  case true=>have e4:n=0:=afv;rw[if_pos e4]at hl2;simp only[go_sem,r6,r7,hob,d4];refine .mk _ (Cw _ _ _ _) (hy.1.put hid _) ⟨?_,rfl⟩;rw[←hl2];rfl
  have e4:n≠0:=afv;rw[if_neg e4]at hl2;have w2:IntKind.i64.wrap ((i:Int)+(n:Int))=((i+n:Nat):Int):=afG;simp only[go_sem,r5,r6,r7,hob,d4];refine(hy.put hid hob _).app (zs:=[fN {t with pos:=i}]) afy afy (fun k hk=>hk) (by grind [RB,qD]) (by rw[RB];exact qD [{t with pos:=i}]) (by grind [XL]) fun y' h2 hy' hk2=>?_
  simp only[go_sem,r7,w2];refine⟨s.length - (i+n),afu,i+n,f,y',out++ [{t with pos:=i}],id,afv,afv,afu,rfl,afu,hs,hid,⟨_,_,_,_,hk2 _ _ _ (ah ..)⟩,?_,?_,?_,?_,?_⟩
  ·grind [List.drop_drop]
  all_goals simp only[go_sem,r0,r6]
 ·intro nx
  cases d0:decide (4096<(s.length:Int))
  case true=>have e0:s.length>4096:=afv;refine .one hU hm ?_;simp only[go_sem,d0];exact .mk (.tup [.sl [] .no,.i 6,.i 4096]) (fO (.tup [.sl [] .full,.i 6,.i 4096])) (.refl _) ⟨by rw[qg,if_pos e0];rfl,rfl⟩
  have e0:¬s.length>4096:=afv;refine .one hU hm ?_;simp only[go_sem,d0];refine .one hU hm ?_;simp only[go_sem];refine .one hU hm ?_;simp only[go_sem];intro id hid;simp only[go_sem];refine .one hU hm ?_;simp only[go_sem];refine .one hU hm ?_;simp only[go_sem];refine nx (s.length - 0) _ _ ⟨0,s.length+1,_,[],id,.full (.aj hid),afB,afu,rfl,afu,afu,hid,⟨_,_,_,_,ah ..⟩,by simp_all [qg,if_neg],?_,?_,?_,?_⟩<;>simp only[go_sem]
def PO(st:PS):Blk:=.obj [.sl (st.ts.map fN) .no,.i st.pos,.i st.rules,.i st.bad,.i st.place] 168
def PC(f:FuncId)(args:List AV)(st:PS)(R:AV)(st' :PS):Prop:=∀(h:Heap) (id:Nat),h id=some (PO st)→ai prog f (.ptr id 0::args) h fun r h' =>r=R∧h' =upd h id (some (PO st'))
theorem PC.go(hc:PC f args st R st'){id:Nat}(hid:h id=some (PO st))(k:Q R (upd h id (some (PO st')))):ai prog f (.ptr id 0::args) h Q:=
 (hc h id hid).mono fun r h' ⟨e1,e2⟩=>ah7
theorem bH{id:Nat}{b:Option Blk}(e:h id=b):upd h id b=h:=by grind [ah,ag]
theorem so(st:PS)(e p:Int):PC 91 [.i e,.i p] st (.tup []) (bJ st e p):=fun h id hid=>by
 refine aw func91 19 [] ?_
 have g:=hid;unfold PO at g;cases d1:(st.bad==0)
 ·have e1:st.bad≠0:=by grind
  simp only[go_sem,g,d1];exact .mk _ (.refl _) (.refl _) ⟨rfl,by rw[bJ,if_neg e1,bH hid]⟩
 ·have e1:st.bad=0:=by grind
  simp only[go_sem,g,d1];exact .mk _ (.refl _) (.refl _) ⟨rfl,by rw[bJ,if_pos e1];rfl⟩
theorem mT(st:PS)(hw:WfP st):PC 88 [] st (fN (aN st)) st:=fun h id hid=>by
 refine aw func88 13 [.cell 2 157] ?_
 have g:=hid;unfold PO at g;simp only[go_sem];intro i2 hi2;have n2:id≠i2:=fun e=>afv
 simp only[go_sem,g,ak,n2];refine⟨.of afx,?_⟩;refine .at st.pos (by simpa using hw.1) afD ?_
 simp only[go_sem,afk,fN];refine .mk _ (.refl _) (.aj hi2) ⟨by rw[ED hw.1];rfl,(bH hid).symm⟩
theorem mh(st:PS)(hw:WfP st):PC 89 [] st (.tup []) (br st):=fun h id hid=>by
 refine aw func89 7 [] ?_
 simp only[go_sem];refine(mT st hw).go hid ?_;rw[bH hid];simp only[go_sem,fN];refine(so st 5 _).go hid ?_;exact akm
theorem cS(st:PS)(b:Bool)(hw:WfP st):PC 199 [.b b] st (.tup []) (bG st b):=fun h id hid=>by
 refine aw func199 10 [] ?_
 cases b
 ·simp only[go_sem]
  exact aid
 simp only[go_sem];refine(mT st hw).go hid ?_;rw[bH hid];simp only[go_sem,fN];refine(so st 6 _).go hid ?_;exact akm
theorem uz(st:PS)(s:Txt)(hw:WfP st):PC 200 [.s s] st (.b (isD st s)) st:=fun h id hid=>by
 refine aw func200 29 [.tmp 4] ?_
 have g:=hid;unfold PO at g;simp only[go_sem];refine(mT st hw).go hid ?_;rw[bH hid];simp only[go_sem,fN];intro i2 hi2;have n2:id≠i2:=fun e=>afv
 cases d1:(st.bad==0)<;>cases d2:((aN st).s==s)<;>cases d3:((aN st).kind==1)<;>cases d4:((aN st).kind==6)
 all_goals
  simp only[go_sem,g,ak,n2,d1,d2,d3,d4];exact .mk _ (.refl _) (.aj hi2) ⟨by simp only[isD,d1,d2,d3,d4];rfl,rfl⟩
theorem kU(st:PS)(s:Txt)(hw:WfP st):PC 197 [.s s] st (.v (.bool (cu st s).1)) (cu st s).2:=fun h id hid=>by
 refine aw func197 18 [.tmp 4] ?_
 have g:=hid;unfold PO at g;simp only[go_sem];refine(uz st s hw).go hid ?_;rw[bH hid];cases d1:isD st s
 ·have e:cu st s=(false,st):=by grind [cu]
  simp only[go_sem];exact .mk _ (.refl _) (.refl _) ⟨ajj,by grind [bH]⟩
 ·have e:cu st s=(true,bl st):=by grind [cu]
  have w1:IntKind.i64.wrap ((st.pos:Int)+1)=((st.pos+1:Nat):Int):=ahc;simp only[go_sem,g,w1];exact .mk _ (.refl _) (.refl _) ⟨ajj,ajj⟩
theorem lM(st:PS)(s:Txt)(hw:WfP st):PC 146 [.s s] st (.tup []) (eJ st s):=fun h id hid=>by
 refine aw func146 10 [] ?_
 simp only[go_sem];refine(kU st s hw).go hid ?_;cases d1:isD st s
 ·have e:cu st s=(false,st):=by grind [cu]
  rw[e,bH hid];simp only[go_sem];refine(mh st hw).go hid ?_;exact alm
 ·have e:cu st s=(true,bl st):=by grind [cu]
  rw[e];exact alm
theorem uU(st:PS)(hw:WfP st):PC 144 [] st (.s (ct st).1) (ct st).2:=fun h id hid=>by
 refine aw func144 25 [.tmp 2] ?_
 have g:=hid;unfold PO at g;have w1:IntKind.i64.wrap ((st.pos:Int)+1)=((st.pos+1:Nat):Int):=ahc;simp only[go_sem];refine(mT st hw).go hid ?_;rw[bH hid];simp only[go_sem,fN];intro i2 hi2;have n2:id≠i2:=fun e=>afv
 cases d1:((aN st).kind !=1)
 case true=>
  have e1:(aN st).kind≠1:=afv;have en:ct st=([],br st):=by grind [ct]
  simp only[go_sem,d1];have hid2:upd h i2 (some (.obj [.v (.int .i64 (aN st).kind),.v (.int .i64 (aN st).pos),.v (.int .i64 (aN st).n),.s (aN st).s] 157)) id=some (PO st):=af8;refine(mh st hw).go hid2 ?_;have hb:(br st).bad≠0:=by grind [br,bJ,Int]
  have d2:((br st).bad !=0)=true:=afv;simp only[go_sem,PO,d2];exact .mk _ (.refl _) (Sub.both (.aj hi2) _ _) ⟨agm,afv⟩
 have e1:(aN st).kind=1:=afv;cases d2:(st.bad !=0)
 case true=>
  have e2:st.bad≠0:=afv;have en:ct st=([],st):=by grind [ct]
  simp only[go_sem,g,ak,n2,d1,d2];exact .mk _ (.refl _) (.aj hi2) ⟨agm,by grind [bH]⟩
 have e2:st.bad=0:=afv;have en:ct st=((aN st).s,bl st):=by grind [ct]
 simp only[go_sem,g,ak,n2,n2.symm,d1,d2,w1];exact .mk _ (.refl _) (Sub.both (.aj hi2) _ _) ⟨agm,by rw[en];try rfl⟩
theorem PC.run(hc:PC f args st R st'){id:Nat}(k:Q R (upd G id (some (PO st')))):ai prog f (.ptr id 0::args) (upd G id (some (PO st))) Q:=
 hc.go (ah ..) (by rw[eL];exact k)
theorem PC.of(hk:∀(G:Heap) (id:Nat),ai prog f (.ptr id 0::args) (upd G id (some (PO st))) fun r h' =>r=R∧h' =upd G id (some (PO st'))):PC f args st R st' :=fun h id hid=>by have:=hk h id;rw[bH hid]at this;exact agc
theorem cB{α:Type}(f:Nat→α){i:Nat}(x y:α)(h:i≠j):upd (upd f i x) j y=upd (upd f j y) i x:=by grind [ag,ah]
theorem C6{s:Txt}:∀ {ws:List Txt} {i:Nat},vN s ws=some i→i<ws.length
 |w::r,i,h=>by
  simp only[vN]at h;split at h
  ·grind
  ·cases hr:vN s r with
   |none=>grind
   |some j=>rw[hr]at h;cases h;have:=C6 hr;simp;omega
theorem I8{s:Txt}:∀ {ws:List Txt} (i:Nat) (hi:i<ws.length),(∀j (hj:j<ws.length),j<i→ws[j]≠s)→ws[i]=s→vN s ws=some i
 |w::r,0,_,_,h=>by grind [vN]
 |w::r,i+1,hi,hb,h=>by have h0:=hb 0 afB afu;simp only[List.getElem_cons_zero]at h0;simp only[vN,if_neg h0];rw[I8 i afv afv afv];rfl
theorem BP{s:Txt}:∀ {ws:List Txt},(∀j (hj:j<ws.length),ws[j]≠s)→vN s ws=none
 | [],_=>rfl
 |w::r,hb=>by
  have h0:=hb 0 afB;simp only[List.getElem_cons_zero]at h0;simp only[vN,if_neg h0];rw[BP (fun j hj=>by have:=hb (j+1) afv;simpa using this)]
  rfl
def TO(o:Option Nat):Int:=match o with
 |some i=>i
 |none=> -1
theorem KX(ws:List Txt)(q:Perm)(s:Txt)(hl:ws.length≤1000)(h:Heap):ai prog 196 [.sl (ws.map AV.s) q,.s s] h fun r h' =>r= .i (TO (vN s ws))∧h' =h:=by
 refine aw func196 19 [.tmp 4] ?_
 simp only[go_sem,afj];refine .intro (fun m ρ h' =>h' =h∧∃i:Nat,i≤ws.length∧m=ws.length - i∧(∀j (hj:j<ws.length),j<i→ws[j]≠s)∧lk ρ 0=some (.sl (ws.map AV.s) q)∧lk ρ 1=some (.s s)∧lk ρ 7=some (.i ws.length)∧lk ρ 8=some (.i i)) ws.length ?_ ?_
 ·refine⟨rfl,0,afu,rfl,fun j _ hj=>afu,?_,?_,?_,?_⟩<;>simp only[go_sem]
 ·rintro m ρ h' ⟨rfl,i,hi,rfl,hc,r0,r1,r7,r8⟩
  simp only[go_sem,r7,r8];refine .intro (fun e=>?_) (fun e=>?_)
  ·have hlt:i<ws.length:=afq e
   have w1:IntKind.i64.wrap ((i:Int)+1)=((i+1:Nat):Int):=afG;simp only[go_sem,r0,r1,r8];refine .at i afv afD ?_;cases d1:(s==ws[i])
   ·have e1:ws[i]≠s:=by grind
    simp only[go_sem,r8,afk,d1,w1];refine⟨_,?_,rfl,i+1,afu,rfl,fun j hj hji=>?_,?_,?_,?_,?_⟩
    ·omega
    ·grind
    all_goals simp only[go_sem,r0,r1,r7]
   ·have e1:ws[i]=s:=by grind
    simp only[go_sem,afk,d1];exact .same (.refl _) ⟨by rw[I8 i hlt hc e1];rfl,rfl⟩
  ·have hge:i=ws.length:=by grind
   subst hge;simp only[go_sem];exact .same (.refl _) ⟨by rw[BP fun j hj=>hc j hj hj];rfl,rfl⟩
theorem o8(st:PS)(ws:List Txt)(q:Perm)(hl:ws.length≤1000)(hw:WfP st):PC 143 [.sl (ws.map AV.s) q] st (.v (.int .i64 (aZ st ws).1)) (aZ st ws).2:=.of fun G id=>by
 refine aw func143 28 [.tmp 4] ?_
 simp only[go_sem];refine(mT st hw).run ?_;simp only[go_sem,fN];intro i2 hi2;have n2:=aH hi2;have hG2:G i2=none:=af8;have c2:∀(f:Heap) (x y:Option Blk),upd (upd f id x) i2 y=upd (upd f i2 y) id x:=fun f x y=>cB f x y n2.symm
 cases d1:((aN st).kind==1)
 ·have e1:(aN st).kind≠1:=by grind
  have en:aZ st ws=(0,br st):=by grind [aZ]
  simp only[go_sem,c2,ak,n2,d1];exact akj
 have e1:(aN st).kind=1:=afv;simp only[go_sem,c2,ak,n2,d1];refine(KX ws q _ hl _).pthen ?_;cases ei:vN (aN st).s ws with
 |none=>
  have en:aZ st ws=(0,br st):=by grind [aZ]
  have dm:decide ((0:Int)≤ -1)=false:=afy;simp only[go_sem,TO,dm];exact akj
 |some i=>
  have hil:=C6 ei;have d2:decide (0≤(i:Int))=true:=afB;have w1:IntKind.i64.wrap ((i:Int)+1)=((i:Int)+1):=afG;simp only[go_sem,TO,d2,ak,n2];refine(kU st _ hw).run ?_;cases d3:(st.bad==0)
  ·have e3:st.bad≠0:=by grind
   have et:cu st (aN st).s=(false,st):=by grind [cu,isD]
   have en:aZ st ws=(0,br st):=by grind [aZ]
   rw[et];simp only[go_sem];exact akj
  ·have e3:st.bad=0:=by grind
   have et:cu st (aN st).s=(true,bl st):=by grind [cu,isD]
   have en:aZ st ws=((i:Int)+1,bl st):=by grind [aZ]
   rw[et];simp only[go_sem,w1];exact .mk _ (.refl _) (Sub.both (.aj hG2) _ _) ⟨agm,by rw[en]⟩
theorem MD(st:PS)(hw:WfP st):PC 290 [] st (DT (gA st).1) (gA st).2:=.of fun G id=>by
 have h1:=gX wL hw;have h2:=jE [46] h1.1;have h3:=oc h2.1;refine aw func290 17 [.cell 2 216] ?_
 simp only[go_sem];intro i2 hi2;have n2:=aH hi2;have hG2:G i2=none:=af8;have c2:∀(f:Heap) (x y:Option Blk),upd (upd f id x) i2 y=upd (upd f i2 y) id x:=fun f x y=>cB f x y n2.symm
 simp only[go_sem,c2];intro i3 hi3;have n3:=aH hi3;have hi3' :=hi3;rw[ag _ _ n3]at hi3';have n32:=aH hi3';have hG3:G i3=none:=af8;have c3:∀(f:Heap) (x y:Option Blk),upd (upd f id x) i3 y=upd (upd f i3 y) id x:=fun f x y=>cB f x y n3.symm
 have c23:∀(f:Heap) (x y:Option Blk),upd (upd f i3 x) i2 y=upd (upd f i2 y) i3 x:=fun f x y=>cB f x y n32
 have m32:¬i3=i2:=n32;have m23:¬i2=i3:=n32.symm;simp only[go_sem,c3];refine(o8 st wL .full afy hw).run ?_;simp only[go_sem,c3,ak,n3];refine(lM _ [46] h1.1).run ?_;simp only[go_sem];refine(uU _ h2.1).run ?_;simp only[go_sem,c3,ak,n3];refine(kU _ [33] h3.1).run ?_;simp only[go_sem,c2,c3,c23,ak,n2,n3,m23];exact .mk _ (.refl _) (Sub.both afV _ _) ⟨rfl,rfl⟩
theorem vj(st:PS)(hw:WfP st):PC 291 [] st (aT (aD st).1) (aD st).2:=.of fun G id=>by
 refine aw func291 56 [.cell 2 48] ?_
 have w1:IntKind.i64.wrap ((st.pos:Int)+1)=((st.pos+1:Nat):Int):=ahc;simp only[go_sem];intro i2 hi2;have n2:=aH hi2;have hG2:G i2=none:=by rw[ag _ _ n2]at hi2;exact hi2
 have c2:∀(f:Heap) (x y:Option Blk),upd (upd f id x) i2 y=upd (upd f i2 y) id x:=fun f x y=>cB f x y n2.symm
 simp only[go_sem,c2];refine(mT st hw).run ?_;simp only[go_sem,fN];intro i3 hi3;have n3:=aH hi3;have hi3' :=hi3;rw[ag _ _ n3]at hi3';have n32:=aH hi3';have hG3:G i3=none:=by rw[ag _ _ n32]at hi3';exact hi3'
 have c3:∀(f:Heap) (x y:Option Blk),upd (upd f id x) i3 y=upd (upd f i3 y) id x:=fun f x y=>cB f x y n3.symm
 have c23:∀(f:Heap) (x y:Option Blk),upd (upd f i3 x) i2 y=upd (upd f i2 y) i3 x:=fun f x y=>cB f x y n32
 have m32:¬i3=i2:=n32;have m23:¬i2=i3:=n32.symm;simp only[go_sem,c3,ak,n3];intro i4 hi4;have n4:=aH hi4;have hi4' :=hi4;rw[ag _ _ n4]at hi4';have n43:=aH hi4';have hi4'' :=hi4';rw[ag _ _ n43]at hi4'';have n42:=aH hi4'';have hG4:G i4=none:=by rw[ag _ _ n42]at hi4'';exact hi4''
 have c4:∀(f:Heap) (x y:Option Blk),upd (upd f id x) i4 y=upd (upd f i4 y) id x:=fun f x y=>cB f x y n4.symm
 have c24:∀(f:Heap) (x y:Option Blk),upd (upd f i4 x) i2 y=upd (upd f i2 y) i4 x:=fun f x y=>cB f x y n42
 have c34:∀(f:Heap) (x y:Option Blk),upd (upd f i4 x) i3 y=upd (upd f i3 y) i4 x:=fun f x y=>cB f x y n43
 have m42:¬i4=i2:=n42;have m24:¬i2=i4:=n42.symm;have m43:¬i4=i3:=n43;have m34:¬i3=i4:=n43.symm;cases k2:((aN st).kind==2)
 case true=>
  have e2:(aN st).kind=2:=by simpa using k2
  have ev:gz st=(⟨2,(aN st).n,(aN st).s⟩,st):=by simp[gz,e2]
  cases kb:(st.bad !=0)
  ·have eb:st.bad=0:=by simpa using kb
   have en:aD st=(⟨2,(aN st).n,(aN st).s⟩,bl st):=agU;simp only[go_sem,c2,c4,c23,c24,ak,n2,n3,n4,m23,m24,m34,k2,PO,kb,w1];exact ajP
  ·have eb:st.bad≠0:=by simpa using kb
   have en:aD st=(⟨0,0,[]⟩,st):=agU;simp only[go_sem,c2,c4,c23,c24,ak,n2,n3,n4,m23,m24,m34,k2,PO,kb];exact ajP
 have e2:(aN st).kind≠2:=by simpa using k2
 cases k3:((aN st).kind==3)
 case true=>
  have e3:(aN st).kind=3:=by simpa using k3
  have ev:gz st=(⟨4,(aN st).n,(aN st).s⟩,st):=by simp[gz,e3]
  cases kb:(st.bad !=0)
  ·have eb:st.bad=0:=by simpa using kb
   have en:aD st=(⟨4,(aN st).n,(aN st).s⟩,bl st):=agU;simp only[go_sem,c2,c4,c23,c24,ak,n2,n3,n4,m23,m24,m34,k2,k3,PO,kb,w1];exact ajP
  ·have eb:st.bad≠0:=by simpa using kb
   have en:aD st=(⟨0,0,[]⟩,st):=agU;simp only[go_sem,c2,c4,c23,c24,ak,n2,n3,n4,m23,m24,m34,k2,k3,PO,kb];exact ajP
 have e3:(aN st).kind≠3:=by simpa using k3
 cases k4:((aN st).kind==4)
 case true=>
  have e4:(aN st).kind=4:=by simpa using k4
  have ev:gz st=(⟨5,(aN st).n,(aN st).s⟩,st):=by simp[gz,e4]
  cases kb:(st.bad !=0)
  ·have eb:st.bad=0:=by simpa using kb
   have en:aD st=(⟨5,(aN st).n,(aN st).s⟩,bl st):=agU;simp only[go_sem,c2,c4,c23,c24,ak,n2,n3,n4,m23,m24,m34,k2,k3,k4,PO,kb,w1];exact ajP
  ·have eb:st.bad≠0:=by simpa using kb
   have en:aD st=(⟨0,0,[]⟩,st):=agU;simp only[go_sem,c2,c4,c23,c24,ak,n2,n3,n4,m23,m24,m34,k2,k3,k4,PO,kb];exact ajP
 have e4:(aN st).kind≠4:=by simpa using k4
 cases k5:((aN st).kind==5)
 case true=>
  have e5:(aN st).kind=5:=by simpa using k5
  have ev:gz st=(⟨3,(aN st).n,(aN st).s⟩,st):=by simp[gz,e5]
  cases kb:(st.bad !=0)
  ·have eb:st.bad=0:=by simpa using kb
   have en:aD st=(⟨3,(aN st).n,(aN st).s⟩,bl st):=agU;simp only[go_sem,c2,c4,c23,c24,ak,n2,n3,n4,m23,m24,m34,k2,k3,k4,k5,PO,kb,w1];exact ajP
  ·have eb:st.bad≠0:=by simpa using kb
   have en:aD st=(⟨0,0,[]⟩,st):=agU;simp only[go_sem,c2,c4,c23,c24,ak,n2,n3,n4,m23,m24,m34,k2,k3,k4,k5,PO,kb];exact ajP
 have e5:(aN st).kind≠5:=by simpa using k5
 simp only[go_sem,c4,ak,n3,n4,m34,k2,k3,k4,k5];refine(uz st xK hw).run ?_;cases kt:isD st xK
 case true=>
  have ev:gz st=(⟨1,1,[]⟩,st):=by simp[gz,e2,e3,e4,e5,kt]
  cases kb:(st.bad !=0)
  ·have eb:st.bad=0:=by simpa using kb
   have en:aD st=(⟨1,1,[]⟩,bl st):=agU;simp only[go_sem,c2,c4,c23,c24,ak,n2,n4,m23,m24,PO,kb,w1];exact ajP
  ·have eb:st.bad≠0:=by simpa using kb
   have en:aD st=(⟨0,0,[]⟩,st):=agU;simp only[go_sem,c2,c4,c23,c24,ak,n2,n4,m23,m24,PO,kb];exact ajP
 simp only[go_sem];refine(uz st rF hw).run ?_;cases kf:isD st rF
 case true=>
  have ev:gz st=(⟨1,0,[]⟩,st):=by simp[gz,e2,e3,e4,e5,kt,kf]
  cases kb:(st.bad !=0)
  ·have eb:st.bad=0:=by simpa using kb
   have en:aD st=(⟨1,0,[]⟩,bl st):=agU;simp only[go_sem,c2,c4,c23,c24,ak,n2,n4,m23,m24,PO,kb,w1];exact ajP
  ·have eb:st.bad≠0:=by simpa using kb
   have en:aD st=(⟨0,0,[]⟩,st):=agU;simp only[go_sem,c2,c4,c23,c24,ak,n2,n4,m23,m24,PO,kb];exact ajP
 have ev:gz st=(⟨0,(aN st).n,(aN st).s⟩,br st):=by simp[gz,e2,e3,e4,e5,kt,kf]
 have en:aD st=(⟨0,0,[]⟩,br st):=by simp[aD,ev,sI]
 have kb:((br st).bad !=0)=true:=by simpa using sI st
 simp only[go_sem];refine(mh st hw).run ?_;simp only[go_sem,c2,c23,c24,ak,n2,m23,m24,PO,kb];exact ajP
def uJ:List Txt:=[[61],[60],[62]]
theorem Ui(i:Nat)(hi:i<uJ.length)(hb:∀j (hj:j<uJ.length),j<i→isD st uJ[j]=false)(h:isD st uJ[i]=true):opP st=((i:Int)+1,bl st):=by
 have h3:i<3:=hi;rcases(by omega:i=0∨i=1∨i=2)with rfl|rfl|rfl
 ·simp only[opP,show isD st [61]=true from h,if_true];rfl
 ·simp only[opP,show isD st [61]=false from hb 0 afy afy,show isD st [60]=true from h,if_true];rfl
 ·simp only[opP,show isD st [61]=false from hb 0 afy afy,show isD st [60]=false from hb 1 afy afy,show isD st [62]=true from h,if_true];rfl
theorem Ok(hb:∀j (hj:j<uJ.length),isD st uJ[j]=false):opP st=(0,br st):=by simp only[opP,show isD st [61]=false from hb 0 afy,show isD st [60]=false from hb 1 afy,show isD st [62]=false from hb 2 afy];rfl
theorem Jh(st:PS)(hw:WfP st):PC 271 [] st (cU (gU st).1) (gU st).2:=.of fun G id=>by
 have h1:=CG hw;obtain⟨a,st1,e1⟩:∃a st1,gA st=(a,st1):=⟨_,_,rfl⟩;have hat:=MD st hw;rw[e1]at h1 hat;simp only at h1 hat;refine aw func271 32 [.cell 2 264] ?_
 simp only[go_sem];intro i2 hi2;have n2:=aH hi2;have hG2:G i2=none:=af8;have c2:∀(f:Heap) (x y:Option Blk),upd (upd f id x) i2 y=upd (upd f i2 y) id x:=fun f x y=>cB f x y n2.symm
 simp only[go_sem,c2];refine hat.run ?_;simp only[go_sem,DT];intro i3 hi3;have n3:=aH hi3;have hi3' :=hi3;rw[ag _ _ n3]at hi3';have n32:=aH hi3';have hG3:G i3=none:=af8;have c3:∀(f:Heap) (x y:Option Blk),upd (upd f id x) i3 y=upd (upd f i3 y) id x:=fun f x y=>cB f x y n3.symm
 have c23:∀(f:Heap) (x y:Option Blk),upd (upd f i3 x) i2 y=upd (upd f i2 y) i3 x:=fun f x y=>cB f x y n32
 have m32:¬i3=i2:=n32;have m23:¬i2=i3:=n32.symm;simp only[go_sem,c3,ak,n3];refine .intro (fun m ρ H=>H=upd (upd (upd G i2 (some (.obj [.i 0,.s [],.b false,.i 0,.i 0,.i 0,.s []] 264))) i3 (some (.obj [.i a.cat,.s a.name,.b a.must,.i 0,.i 0,.i 0,.s []] 264))) id (some (PO st1))∧
  ∃i:Nat,i≤3∧m=3 - i∧(∀j (hj:j<uJ.length),j<i→isD st1 uJ[j]=false)∧lk ρ 0=some (.ptr id 0)∧lk ρ 2=some (.ptr i2 0)∧lk ρ 3=some (.ptr i3 0)∧lk ρ 9=some (.sl (uJ.map AV.s) .full)∧lk ρ 10=some (.i 3)∧lk ρ 11=some (.i i)) 3 ?_ ?_
 ·refine⟨rfl,0,afu,rfl,fun j _ hj=>afu,?_,?_,?_,?_,?_,?_⟩<;>simp only[go_sem]<;>rfl
 ·rintro m ρ H ⟨rfl,i,hi,rfl,hb,r0,r2,r3,r9,r10,r11⟩
  simp only[go_sem,r10,r11];refine .intro (fun e=>?_) (fun e=>?_)
  ·have hlt:i<3:=by grind
   have hlo:i<uJ.length:=hlt;have w1:IntKind.i64.wrap ((i:Int)+1)=((i+1:Nat):Int):=afG;have w2:IntKind.i64.wrap (1+(i:Int))=((i:Int)+1):=afv;simp only[go_sem,r9,r11];refine .at i afv afD ?_;simp only[go_sem,r0,afk];refine(kU st1 uJ[i] h1.1).run ?_;cases d1:isD st1 uJ[i]
   ·have et:cu st1 uJ[i]=(false,st1):=by grind [cu]
    rw[et];simp only[go_sem,r11,w1];refine⟨_,?_,rfl,i+1,afu,rfl,fun j hj hji=>?_,?_,?_,?_,?_,?_,?_⟩
    ·omega
    ·grind
    all_goals simp only[go_sem,r0,r2,r3,r9,r10]
   ·have et:cu st1 uJ[i]=(true,bl st1):=by grind [cu]
    have eo:=Ui i hlo hb d1;have h2:Ah st1 (bl st1):=fo h1.1 (dU d1);have en:gU st=(⟨a,(i:Int)+1,(aD (bl st1)).1⟩,(aD (bl st1)).2):=by grind [gU]
    have d2:(((i:Int)+1)==0)=false:=afJ;rw[et];simp only[go_sem,c3,ak,n3,r0,r3,w2,d2];refine(vj (bl st1) h2.1).run ?_;exact akM
  ·have hge:i=3:=by grind
   subst hge;have eo:=Ok fun j hj=>hb j hj hj
   have h2:Ah st1 (br st1):=o7 h1.1;have en:gU st=(⟨a,0,(aD (br st1)).1⟩,(aD (br st1)).2):=by grind [gU]
   simp only[go_sem,r0,r3,ak,n3];refine(mh st1 h1.1).run ?_;simp only[go_sem,r0];refine(vj (br st1) h2.1).run ?_;exact akM
theorem UK:(U 264).sz=7:=afJ
theorem XT:(U 264).bytes=72:=afJ
theorem JI(l:List bO):Sized 7 (l.map cU):=fun z hz=>by obtain⟨c,_,rfl⟩:=List.mem_map.1 hz;rfl
theorem UJ:(U 265).sz=1:=afJ
theorem XR:(U 265).bytes=24:=afJ
theorem JH(l:List (List bO)):Sized 1 (l.map gv):=fun z hz=>by obtain⟨c,_,rfl⟩:=List.mem_map.1 hz;rfl
theorem UL:(U 261).sz=1:=afJ
theorem XV:(U 261).bytes=24:=afJ
theorem JK(l:List (List (List bO))):Sized 1 (l.map cC):=fun z hz=>by obtain⟨c,_,rfl⟩:=List.mem_map.1 hz;rfl
theorem R2(st:PS)(hw:WfP st):PC 241 [] st (gv (qP st).1) (qP st).2:=.of fun G id=>by
 have h1:=qW hw;have hm1:=Jh st hw;obtain⟨x0,st1,e1⟩:∃x0 st1,gU st=(x0,st1):=⟨_,_,rfl⟩;have ep:gq gU [44] 8 st.ts.length st1 [x0]=qP st:=by grind [qP]
 rw[e1]at h1 hm1;simp only[cU]at h1 hm1;refine aw func241 20 [.tmp 2] ?_
 simp only[go_sem];refine hm1.run ?_;simp only[go_sem];have hB:upd G id none id=none:=ah ..;refine .intro (fun m ρ H=>∃(f:Nat) (st' :PS) (l:List _) (y:AV),H id=some (PO st')∧Acc U 264 (upd G id none) H y (l.map cU)∧Ah st1 st'∧gq gU [44] 8 f st' l=qP st∧st1.ts.length≤f+st'.pos∧l.length≤st'.pos+1∧m=st1.ts.length - st'.pos∧lk ρ 0=some (.ptr id 0)∧lk ρ 3=some y) (st1.ts.length - st1.pos) ?_ ?_
 ·refine⟨st.ts.length,st1,[x0],.sl ([x0].map cU) .full,ah ..,.full (base_start G id _),.refl h1.1,ep,by rw[h1.2.1];omega,afB,rfl,?_,?_⟩<;>simp only[go_sem]<;>rfl
 ·rintro m ρ H ⟨f,st',l,y,hH,hy,ha,hfin,hf,hll,rfl,r0,r3⟩
  have hlen:=ha.1.2.2;have hpos:=ha.1.1;have htl:=ha.2.1;simp only[go_sem,r0];refine(kU st' [44] ha.1).go hH ?_;cases d1:isD st' [44]
  ·have et:cu st' [44]=(false,st'):=by grind [cu]
   have ef:gq gU [44] 8 f st' l=(l,st'):=aiV;rw[et,bH hH];rw[ef]at hfin;simp only[go_sem,r3];exact .mk (h' :=upd G id (some (PO (qP st).2))) (gv l) hy.weak (by rw[←hfin];exact fI hy.1 hH) ⟨afv,rfl⟩
  ·have et:cu st' [44]=(true,bl st'):=by grind [cu]
   obtain⟨g,rfl⟩:∃g,f=g+1:=⟨f - 1,afv⟩;simp only[gq,d1,if_true]at hfin;have h2:=fo ha.1 (dU d1);have hone:=Jh (bl st') h2.1;have h3:=(fun _ h=>qW h:∀st,WfP st→Ah st (gU st).2) _ h2.1
   obtain⟨x,st2,e2⟩:∃x st2,gU (bl st')=(x,st2):=⟨_,_,rfl⟩;rw[e2]at hfin hone h3;simp only[cU]at hfin hone h3;have hdec:decide ((8:Int)<((l.length+1:Nat):Int))=decide (8<l.length+1):=by grind
   have h4:=lS (decide (8<l.length+1)) h3.1;have hnp:(bl st').pos=st'.pos+1:=rfl;have hp3:=h3.2.2;have hp4:=h4.2.2;rw[et];simp only[go_sem,r0,r3];refine hone.run ?_;simp only[go_sem];refine(hy.put hB hH _).app (zs:=[cU x]) (by grind [UK]) (by grind [XT]) (fun k hk=>hk) (by grind [UK,JI]) (by rw[UK];exact JI [x]) (by grind [XT]) fun y' H2 hy' hk2=>?_
   exact ajM
theorem R3(st:PS)(hw:WfP st):PC 198 [] st (cC (sO st).1) (sO st).2:=.of fun G id=>by
 have h0:=jE [40] hw;have h1:=CE h0.1;have hm1:=R2 _ h0.1;obtain⟨x0,st1,e1⟩:∃x0 st1,qP (eJ st [40])=(x0,st1):=⟨_,_,rfl⟩;obtain⟨M,eM⟩:∃M,gq qP orT 8 st.ts.length st1 [x0]=M:=⟨_,rfl⟩;have epp:(M.1,eJ M.2 [41])=sO st:=by grind [sO]
 rw[e1]at h1 hm1;simp only[gv]at h1 hm1;refine aw func198 24 [.tmp 2] ?_
 simp only[go_sem];refine(lM st [40] hw).run ?_;simp only[go_sem];refine hm1.run ?_;simp only[go_sem];have hB:upd G id none id=none:=ah ..;refine .intro (fun m ρ H=>∃(f:Nat) (st' :PS) (l:List _) (y:AV),H id=some (PO st')∧Acc U 265 (upd G id none) H y (l.map gv)∧Ah st1 st'∧gq qP orT 8 f st' l=M∧st1.ts.length≤f+st'.pos∧l.length≤st'.pos+1∧m=st1.ts.length - st'.pos∧lk ρ 0=some (.ptr id 0)∧lk ρ 3=some y) (st1.ts.length - st1.pos) ?_ ?_
 ·refine⟨st.ts.length,st1,[x0],.sl ([x0].map gv) .full,ah ..,.full (base_start G id _),.refl h1.1,eM,by rw[h1.2.1,h0.2.1];omega,afB,rfl,?_,?_⟩<;>simp only[go_sem]<;>rfl
 ·rintro m ρ H ⟨f,st',l,y,hH,hy,ha,hfin,hf,hll,rfl,r0,r3⟩
  have hlen:=ha.1.2.2;have hpos:=ha.1.1;have htl:=ha.2.1;simp only[go_sem,r0];refine(kU st' orT ha.1).go hH ?_;cases d1:isD st' orT
  ·have et:cu st' orT=(false,st'):=by grind [cu]
   have ef:gq qP orT 8 f st' l=(l,st'):=aiV;rw[et,bH hH];rw[ef]at hfin;simp only[go_sem,r0];refine(lM st' [41] ha.1).go hH ?_;simp only[go_sem,r3];exact .mk (h' :=upd G id (some (PO (sO st).2))) (cC l) hy.weak (by rw[←epp,←hfin];exact fI (hy.1.put hB _) (ah ..)) ⟨afv,rfl⟩
  ·have et:cu st' orT=(true,bl st'):=by grind [cu]
   obtain⟨g,rfl⟩:∃g,f=g+1:=⟨f - 1,afv⟩;simp only[gq,d1,if_true]at hfin;have h2:=fo ha.1 (dU d1);have hone:=R2 (bl st') h2.1;have h3:=(fun _ h=>CE h:∀st,WfP st→Ah st (qP st).2) _ h2.1
   obtain⟨x,st2,e2⟩:∃x st2,qP (bl st')=(x,st2):=⟨_,_,rfl⟩;rw[e2]at hfin hone h3;simp only[gv]at hfin hone h3;have hdec:decide ((8:Int)<((l.length+1:Nat):Int))=decide (8<l.length+1):=by grind
   have h4:=lS (decide (8<l.length+1)) h3.1;have hnp:(bl st').pos=st'.pos+1:=rfl;have hp3:=h3.2.2;have hp4:=h4.2.2;rw[et];simp only[go_sem,r0,r3];refine hone.run ?_;simp only[go_sem];refine(hy.put hB hH _).app (zs:=[gv x]) (by grind [UJ]) (by grind [XR]) (fun k hk=>hk) (by grind [UJ,JH]) (by rw[UJ];exact JH [x]) (by grind [XR]) fun y' H2 hy' hk2=>?_
   exact ajM
theorem SC(st:PS)(hw:WfP st):PC 145 [] st (aU (iC st).1) (iC st).2:=.of fun G id=>by
 refine aw func145 23 [.tmp 2] ?_
 simp only[go_sem];refine(kU st F3 hw).run ?_;cases d0:isD st F3
 ·have et:cu st F3=(false,st):=by grind [cu]
  have ep:iC st=([],st):=by grind [iC]
  rw[et];simp only[go_sem];exact .mk (h' :=upd G id (some (PO (iC st).2))) (aU []) (.sl _ _) (by rw[ep];exact .refl _) ⟨by rw[ep],rfl⟩
 have et:cu st F3=(true,bl st):=by grind [cu]
 have h0:=fo hw (dU d0);have h1:=CF h0.1;have hm1:=R3 _ h0.1;obtain⟨x0,st1,e1⟩:∃x0 st1,sO (bl st)=(x0,st1):=⟨_,_,rfl⟩;obtain⟨M,eM⟩:∃M,gq sO DO 8 st.ts.length st1 [x0]=M:=⟨_,rfl⟩;have ep:M=iC st:=by simp_all [iC,if_true]
 rw[e1]at h1 hm1;simp only[cC]at h1 hm1;rw[et];simp only[go_sem];refine hm1.run ?_;simp only[go_sem];have hB:upd G id none id=none:=ah ..;refine .intro (fun m ρ H=>∃(f:Nat) (st' :PS) (l:List _) (y:AV),H id=some (PO st')∧Acc U 261 (upd G id none) H y (l.map cC)∧Ah st1 st'∧gq sO DO 8 f st' l=M∧st1.ts.length≤f+st'.pos∧l.length≤st'.pos+1∧m=st1.ts.length - st'.pos∧lk ρ 0=some (.ptr id 0)∧lk ρ 3=some y) (st1.ts.length - st1.pos) ?_ ?_
 ·refine⟨st.ts.length,st1,[x0],.sl ([x0].map cC) .full,ah ..,.full (base_start G id _),.refl h1.1,eM,by rw[h1.2.1,h0.2.1];omega,afB,rfl,?_,?_⟩<;>simp only[go_sem]<;>rfl
 ·rintro m ρ H ⟨f,st',l,y,hH,hy,ha,hfin,hf,hll,rfl,r0,r3⟩
  have hlen:=ha.1.2.2;have hpos:=ha.1.1;have htl:=ha.2.1;simp only[go_sem,r0];refine(kU st' DO ha.1).go hH ?_;cases d1:isD st' DO
  ·have et:cu st' DO=(false,st'):=by grind [cu]
   have ef:gq sO DO 8 f st' l=(l,st'):=aiV;rw[et,bH hH];rw[ef]at hfin;simp only[go_sem,r3];exact .mk (h' :=upd G id (some (PO (iC st).2))) (aU l) hy.weak (by rw[←ep,←hfin];exact fI hy.1 hH) ⟨afv,rfl⟩
  ·have et:cu st' DO=(true,bl st'):=by grind [cu]
   obtain⟨g,rfl⟩:∃g,f=g+1:=⟨f - 1,afv⟩;simp only[gq,d1,if_true]at hfin;have h2:=fo ha.1 (dU d1);have hone:=R3 (bl st') h2.1;have h3:=(fun _ h=>CF h:∀st,WfP st→Ah st (sO st).2) _ h2.1
   obtain⟨x,st2,e2⟩:∃x st2,sO (bl st')=(x,st2):=⟨_,_,rfl⟩;rw[e2]at hfin hone h3;simp only[cC]at hfin hone h3;have hdec:decide ((8:Int)<((l.length+1:Nat):Int))=decide (8<l.length+1):=by grind
   have h4:=lS (decide (8<l.length+1)) h3.1;have hnp:(bl st').pos=st'.pos+1:=rfl;have hp3:=h3.2.2;have hp4:=h4.2.2;rw[et];simp only[go_sem,r0,r3];refine hone.run ?_;simp only[go_sem];refine(hy.put hB hH _).app (zs:=[cC x]) (by grind [UL]) (by grind [XV]) (fun k hk=>hk) (by grind [UL,JK]) (by rw[UL];exact JK [x]) (by grind [XV]) fun y' H2 hy' hk2=>?_
   exact ajM
theorem Fc(op:Int)(h:Heap):ai prog 308 [.i op] h fun r h' =>r= .sl ((opers op).map kj) .no∧h' =h:=by
 refine aw func308 15 [.tmp 2] ?_
 cases k3:(op==3)<;>cases k4:(op==4)<;>cases k5:(op==5)<;>cases k11:(op==11)
 all_goals
  simp only[go_sem,k3,k4,k5,k11];simp only[beq_iff_eq,beq_eq_false_iff_ne]at k3 k4 k5 k11;refine .mk _ (.sl _ _) (.refl _) ⟨?_,rfl⟩
  grind [opers,kj]
theorem XW:(U 90).sz=3:=afJ
theorem aak:(U 90).bytes=32:=afJ
theorem JJ(l:List cE):Sized 3 (l.map bh):=fun z hz=>by obtain⟨c,_,rfl⟩:=List.mem_map.1 hz;rfl
theorem uj(st:PS)(hw:WfP st):PC 149 [] st (ay (gN st).1) (gN st).2:=.of fun G id=>by
 obtain⟨M,eM⟩:∃M,gN st=M:=⟨_,rfl⟩;have eM2:gq A6 xu 8 st.ts.length st []=M:=eM;refine aw func149 28 [.tmp 2] ?_
 simp only[go_sem];have hB:upd G id none id=none:=ah ..;refine .intro (fun m ρ H=>∃(f:Nat) (st' :PS) (l:List cE) (y:AV),H id=some (PO st')∧Acc U 90 (upd G id none) H y (l.map bh)∧Ah st st'∧gq A6 xu 8 f st' l=M∧st.ts.length≤f+st'.pos∧l.length≤st'.pos+1∧m=st.ts.length - st'.pos∧lk ρ 0=some (.ptr id 0)∧lk ρ 3=some y) (st.ts.length - st.pos) ?_ ?_
 ·refine⟨st.ts.length,st,[],.sl ([].map bh) .full,ah ..,.full (base_start G id _),.refl hw,eM2,afu,afB,rfl,?_,?_⟩<;>simp only[go_sem]<;>rfl
 ·rintro m ρ H ⟨f,st',l,y,hH,hy,ha,hfin,hf,hll,rfl,r0,r3⟩
  have hlen:=ha.1.2.2;have hpos:=ha.1.1;have htl:=ha.2.1;simp only[go_sem,r0];refine(kU st' xu ha.1).go hH ?_;cases d1:isD st' xu
  ·have et:cu st' xu=(false,st'):=by grind [cu]
   have ef:gq A6 xu 8 f st' l=(l,st'):=aiV;rw[et,bH hH];rw[ef]at hfin;simp only[go_sem,r3];exact .mk (h' :=upd G id (some (PO (gN st).2))) (ay l) hy.weak (by rw[eM,←hfin];exact fI hy.1 hH) ⟨afv,rfl⟩
  ·have et:cu st' xu=(true,bl st'):=by grind [cu]
   obtain⟨g,rfl⟩:∃g,f=g+1:=⟨f - 1,afv⟩;simp only[gq,d1,if_true]at hfin;have h2:=fo ha.1 (dU d1);have ho1:=gX vX h2.1;have ho2:=gX nE ho1.1;have ho3:=oc ho2.1;have h3:Ah (bl st') (A6 (bl st')).2:=Mw h2.1;have hdec:decide ((8:Int)<((l.length+1:Nat):Int))=decide (8<l.length+1):=by grind
   have h4:=lS (decide (8<l.length+1)) h3.1;have hnp:(bl st').pos=st'.pos+1:=rfl;have hp3:=h3.2.2;have hp4:=h4.2.2;have eX:(A6 (bl st'))=(⟨(aZ (bl st') vX).1,(aZ (aZ (bl st') vX).2 nE).1,(ct (aZ (aZ (bl st') vX).2 nE).2).1⟩,(ct (aZ (aZ (bl st') vX).2 nE).2).2):=rfl;obtain⟨x,st2,e2⟩:∃x st2,A6 (bl st')=(x,st2):=⟨_,_,rfl⟩;rw[et];simp only[go_sem];intro i4 hi4;have n4:=aH hi4;have hH4:H i4=none:=af8;have c4:∀(f:Heap) (x y:Option Blk),upd (upd f id x) i4 y=upd (upd f i4 y) id x:=fun f x y=>cB f x y n4.symm
   simp only[go_sem,r0,c4];refine(o8 _ vX .full afy h2.1).run ?_;simp only[go_sem,r0,c4,ak,n4];refine(o8 _ nE .full afy ho1.1).run ?_;simp only[go_sem,r0,c4,ak,n4];refine(uU _ ho2.1).run ?_;simp only[go_sem,r3,c4,ak,n4];rw[e2]at hfin h3 h4 hp3 hp4;simp only at hfin h3 h4 hp3 hp4;have ex1:x=(A6 (bl st')).1:=by rw[e2]
   have ex2:st2=(ct (aZ (aZ (bl st') vX).2 nE).2).2:=by grind
   rw[←ex2];refine((hy.sub (Sub.aj (k:=_) hH4)).put hB (by rw[ag _ _ n4.symm];exact hH) _).app (zs:=[bh x]) afy afy (fun k hk=>by rw[ex1]at hk;exact hk) (by grind [XW,JJ]) (by rw[XW];exact JJ [x]) (by grind [aak]) fun y' H2 hy' hk2=>?_
   exact ajM
theorem tY{U:TypeId→TI}{B':Heap}(hs:Sub B B')(ha:Acc U e B' H y xs):Acc U e B H y xs:=by
 obtain⟨h1,rfl|⟨k,i1,rfl,i2⟩⟩:=ha
 ·exact⟨hs.trans h1,.inl rfl⟩
 ·refine⟨hs.trans h1,.inr ⟨k,?_,rfl,i2⟩⟩
  cases hk:B k with
  |none=>rfl
  |some b=>rw[hs _ _ hk]at i1;omega
theorem yI{U:TypeId→TI}(ha:Acc U e B H y xs){i:Nat}(hi:H i=none)(b:Option Blk):Acc U e (upd B i b) (upd H i b) y xs:=by
 obtain⟨h1,rfl|⟨k,i1,rfl,i2⟩⟩:=ha
 ·exact⟨h1.both _ _,.inl rfl⟩
 ·have hne:k≠i:=fun hh=>by subst hh;rw[hi]at i2;cases i2
  exact⟨h1.both _ _,.inr ⟨k,af8,rfl,af8⟩⟩
theorem o6{U:TypeId→TI}{id:Nat}(ha:Acc U e (upd G id none) (upd K id (some (PO st))) y xs)(st' :PS):Acc U e (upd G id none) (upd K id (some (PO st'))) y xs:=by have:=ha.put (id:=id) (ah ..) (cs:=_) (t:=_) (ah ..) (some (PO st'));rw[eL]at this;exact agc
def XC(f:FuncId)(args:List AV)(st:PS)(l:List aP)(mk:AV→AV)(st' :PS)(l' :List aP):Prop:=
 ∀(G K:Heap) (id:Nat) (y:AV),Acc U 218 (upd G id none) (upd K id (some (PO st))) y (l.map cM)→ai prog f (.ptr id 0::y::args) (upd K id (some (PO st))) fun r h' =>∃y',r=mk y'∧h' id=some (PO st')∧Acc U 218 (upd G id none) h' y' (l'.map cM)
theorem XC.run{l':List aP}{mk:AV→AV}(hc:XC f args st l mk st' l'){id:Nat}(ha:Acc U 218 (upd G id none) (upd K id (some (PO st))) y (l.map cM))
  (k:∀y' K',Acc U 218 (upd G id none) (upd K' id (some (PO st'))) y' (l'.map cM)→Q (mk y') (upd K' id (some (PO st')))):ai prog f (.ptr id 0::y::args) (upd K id (some (PO st))) Q:=
 (hc G K id y ha).mono fun r h' ⟨y',e1,e2,e3⟩=>by
  subst e1;have:=k y' h' (by grind [bH])
  rwa [bH e2]at this
def EH(ex:ExF)(f:Nat):Prop:=∀st l,WfP st→st.ts.length≤f+st.pos→l.length≤2*st.pos+1→XC 272 [] st l (fun y=> .tup [y,.v (.bool (ex st l).1.2)]) (ex st l).2 (ex st l).1.1
theorem JV(st:PS)(ws:List Txt):0≤(aZ st ws).1∧(aZ st ws).1≤ws.length:=by
 unfold aZ;cases ei:vN (aN st).s ws with
 |none=>simp
 |some i=>have:=C6 ei;simp only;split<;>simp<;>omega
theorem B1(ho:F9 ex){f:Nat}(he:EH ex f)(st:PS)(l:List aP)(b:Bool)(hw:WfP st)(hf:st.ts.length≤f+st.pos)(hl:l.length≤2*st.pos+1):XC 242 [.b b] st l (fun y=>y) (iU ex st l b).2 (iU ex st l b).1:=fun G K id y ha=>by
 refine aw func242 25 [.tmp 6] ?_
 simp only[go_sem];refine(mT st hw).run ?_;simp only[go_sem,fN];refine(he st l hw hf hl).run ha fun y' K' ha' =>?_
 cases db:((ex st l).1.2==b)
 ·have e1:(ex st l).1.2≠b:=by grind
  have en:iU ex st l b=((ex st l).1.1,bJ (ex st l).2 5 (aN st).pos):=by grind [iU]
  simp only[go_sem,db,Bool.not_false];refine(so _ 5 _).run ?_;simp only[go_sem];exact .mk (h' :=upd K' id (some (PO (bJ (ex st l).2 5 (aN st).pos)))) y' (.refl _) (.refl _) ⟨y',rfl,ajn,by grind [o6]⟩
 ·have e1:(ex st l).1.2=b:=by grind
  have en:iU ex st l b=((ex st l).1.1,(ex st l).2):=by grind [iU]
  simp only[go_sem,db,Bool.not_true];exact .mk (h' :=upd K' id (some (PO (ex st l).2))) y' (.refl _) (.refl _) ⟨y',rfl,ajn,afv⟩
theorem GW(ho:F9 ex){f:Nat}(he:EH ex f)(st:PS)(l:List aP)(hw:WfP st)(hf:st.ts.length≤f+st.pos)(hl:l.length+1≤2*st.pos):XC 292 [] st l (fun y=> .tup [y,cM (rH ex st l).1.2]) (rH ex st l).2 (rH ex st l).1.1:=fun G K id y ha=>by
 have h1:=gX mC hw;have hrg:=JV st mC;have hfl:mC.length=11:=rfl;have w2:IntKind.i64.wrap (2+(aZ st mC).1)=2+(aZ st mC).1:=afG;refine aw func292 36 [.tmp 4,.cell 5 218] ?_
 simp only[go_sem];intro i5 hi5;have n5:=aH hi5;have hK5:K i5=none:=af8;have c5:∀(f:Heap) (x y:Option Blk),upd (upd f id x) i5 y=upd (upd f i5 y) id x:=fun f x y=>cB f x y n5.symm
 simp only[go_sem,c5];refine(o8 _ mC .full afy hw).run ?_;simp only[go_sem,w2];intro i6 hi6;have n6:=aH hi6;have c6:∀(f:Heap) (x y:Option Blk),upd (upd f id x) i6 y=upd (upd f i6 y) id x:=fun f x y=>cB f x y n6.symm
 have hi6' :=hi6;rw[ag _ _ n6]at hi6';have n65:=aH hi6';have hK6:K i6=none:=af8;simp only[go_sem,c6,ak,n6];refine(Fc _ _).pthen ?_;simp only[go_sem];have h5f:=ha;obtain⟨bs,ebs⟩:∃bs,opers (2+(aZ st mC).1)=bs:=⟨_,rfl⟩;obtain⟨M,eM⟩:∃M,jN ex bs (aZ st mC).2 l=M:=⟨_,rfl⟩;have hb2:bs.length≤2:=by grind [Fe]
 have hMr:rH ex st l=((M.1,⟨2+(aZ st mC).1,⟨0,0,[]⟩,⟨0,[],false⟩⟩),eJ M.2 [41]):=by grind [rH]
 obtain⟨st1,es1⟩:∃st1,(aZ st mC).2=st1:=⟨_,rfl⟩;have hac0:=yI (yI (o6 ha st1) (by rw[ag _ _ n5];omega) (some (.obj [.i 0,.i 0,.i 0,.s [],.i 0,.s [],.b false] 218))) (by rw[ag _ _ n65,ag _ _ n6];omega) (some (.obj [.i (2+(aZ st mC).1),.i 0,.i 0,.s [],.i 0,.s [],.b false] 218))
 simp only[c5,c6]at hac0;obtain⟨G',eG⟩:∃G',G' =upd (upd G i5 (some (.obj [.i 0,.i 0,.i 0,.s [],.i 0,.s [],.b false] 218))) i6 (some (.obj [.i (2+(aZ st mC).1),.i 0,.i 0,.s [],.i 0,.s [],.b false] 218)):=⟨_,rfl⟩;have g5:upd G' id none i5=some (.obj [.i 0,.i 0,.i 0,.s [],.i 0,.s [],.b false] 218):=by simp_all [ag,Ne.symm,ah]
 have g6:upd G' id none i6=some (.obj [.i (2+(aZ st mC).1),.i 0,.i 0,.s [],.i 0,.s [],.b false] 218):=by simp_all [ag,ah]
 rw[←eG]at hac0;have gi5:upd G id none i5=none:=by
  cases hk:upd G id none i5 with
  |none=>rfl
  |some b=>rw[ha.1 _ _ hk]at hi5;omega
 have hsG:Sub (upd G id none) (upd G' id none):=fun k b hk=>by
  have hs1:=ha.1 k b hk;have hk5:k≠i5:=fun e=>afv
  have hk6:k≠i6:=fun e=>by grind [ag]
  by_cases hkid:k=id
  ·subst hkid;rw[ah]at hk;cases hk
  ·rw[ag _ _ hkid]at hk⊢
   rw[eG,ag _ _ hk6,ag _ _ hk5];exact hk
 simp only[es1,ebs]at h1 eM⊢;refine .intro (fun m ρ H=>∃(i:Nat) (st' :PS) (l' :List aP) (y' :AV) (K' :Heap),H=upd K' id (some (PO st'))∧Acc U 218 (upd G' id none) (upd K' id (some (PO st'))) y' (l'.map cM)∧Ah st1 st'∧i≤bs.length∧jN ex (bs.drop i) st' l' =M∧l'.length+1≤2*st'.pos+i∧m=bs.length - i∧lk ρ 0=some (.ptr id 0)∧lk ρ 1=some y'∧lk ρ 5=some (.ptr i5 0)∧lk ρ 6=some (.ptr i6 0)∧lk ρ 16=some (.sl (bs.map kj) .no)∧lk ρ 17=some (.i bs.length)∧lk ρ 18=some (.i i)) bs.length ?_ ?_
 ·refine⟨0,st1,l,y,_,rfl,hac0,.refl h1.1,afu,afv,by have:=h1.2.2;omega,rfl,?_,?_,?_,?_,?_,?_,?_⟩<;>simp only[go_sem]<;>(try rfl)<;>simp
 ·rintro m ρ H ⟨i,st',l',y',K',rfl,hac,hah,hi,hfin,hll,rfl,r0,r1,r5,r6,r16,r17,r18⟩
  simp only[go_sem,r17,r18];have k6:upd K' id (some (PO st')) i6=some (.obj [.i (2+(aZ st mC).1),.i 0,.i 0,.s [],.i 0,.s [],.b false] 218):=hac.1 _ _ g6;have k5:upd K' id (some (PO st')) i5=some (.obj [.i 0,.i 0,.i 0,.s [],.i 0,.s [],.b false] 218):=hac.1 _ _ g5;rw[ag _ _ n6]at k6;rw[ag _ _ n5]at k5;refine .intro (fun e=>?_) (fun e=>?_)
  ·have hlt:i<bs.length:=afq e
   simp only[go_sem,r16,r18];refine .at i afv afD ?_;cases db:(st'.bad !=0)
   ·have e1:st'.bad=0:=by grind
    rw[List.drop_eq_getElem_cons hlt]at hfin;simp only[jN,e1,if_true]at hfin;simp only[go_sem,r0,r1,afk,kj,PO,db];have hpl:=hah.2.2;refine(B1 ho he st' l' bs[i] hah.1 (by rw[hah.2.1,h1.2.1];have:=h1.2.2;omega) afu).run hac fun y2 K2 hac2=>?_
    obtain⟨q1,q2⟩:=zU ho st' l' bs[i] hah.1;have w1:IntKind.i64.wrap ((i:Int)+1)=((i+1:Nat):Int):=afG;simp only[go_sem,r18,w1];refine⟨_,?_,i+1,(iU ex st' l' bs[i]).2,(iU ex st' l' bs[i]).1,y2,K2,rfl,hac2,hah.trans q1,hlt,hfin,afu,rfl,?_⟩
    ·omega
    refine⟨?_,?_,?_,?_,?_,?_,?_⟩
    all_goals simp only[go_sem,r0,r5,r6,r16,r17]
   ·have e1:st'.bad≠0:=by grind
    have hfin2:(l',st')=M:=by grind [List.drop_eq_getElem_cons,jN]
    clear hfin;have hfin:=hfin2;simp only[go_sem,r0,afk,kj,PO,db];refine(lM _ [41] hah.1).run ?_;simp only[go_sem,r1,r5,r6,ak,n5,n6,k5,k6];refine⟨.of afx,?_⟩;exact .mk (.tup [y',cM ⟨2+(aZ st mC).1,⟨0,0,[]⟩,⟨0,[],false⟩⟩]) (.refl _) (.refl _) ⟨y',afJ,by rw[hMr,←hfin];exact(ag _ _ (Ne.symm n5)).trans (ah ..),ag1⟩
  ·have hge:i=bs.length:=by grind
   subst hge;rw[List.drop_length]at hfin;simp only[jN]at hfin;simp only[go_sem,r0];refine(lM _ [41] hah.1).run ?_;simp only[go_sem,r1,r5,r6,ak,n5,n6,k5,k6];refine⟨.of afx,?_⟩;exact .mk (.tup [y',cM ⟨2+(aZ st mC).1,⟨0,0,[]⟩,⟨0,[],false⟩⟩]) (.refl _) (.refl _) ⟨y',afJ,by rw[hMr,←hfin];simp_all [ag,Ne.symm,trans,ah],ag1⟩
theorem tO:(U 218).sz=7:=afJ
theorem Bk:(U 218).bytes=72:=afJ
theorem lQ(l:List aP):Sized 7 (l.map cM):=fun z hz=>by obtain⟨c,_,rfl⟩:=List.mem_map.1 hz;rfl
theorem TH(f:Nat)(ih:EH (eW f) f):EH (eW (f+1)) (f+1):=fun st l hw hf hl G K id y ha=>by
 refine aw func272 52 [.tmp 4,.tmp 5] ?_
 simp only[go_sem];intro i6 hi6;have n6:=aH hi6;have hK6:K i6=none:=by rw[ag _ _ n6]at hi6;exact hi6
 have c6:∀(f:Heap) (x y:Option Blk),upd (upd f id x) i6 y=upd (upd f i6 y) id x:=fun f x y=>cB f x y n6.symm
 have gi6:upd G id none i6=none:=by
  cases hk:upd G id none i6 with
  |none=>rfl
  |some b=>rw[ha.1 _ _ hk]at hi6;cases hi6
 have hac:=yI ha hi6 (some (.obj [.i 0,.i 0,.i 0,.s [],.i 0,.s [],.b false] 218));simp only[go_sem,c6];refine(mT st hw).run ?_;simp only[go_sem,fN];intro i7 hi7;have n7:=aH hi7;have hi7' :=hi7;rw[ag _ _ n7]at hi7';have n76:=aH hi7';have m76:¬i7=i6:=n76;have m67:¬i6=i7:=fun e=>n76 e.symm
 have hK7:K i7=none:=by rw[ag _ _ n76]at hi7';exact hi7'
 have c7:∀(f:Heap) (x y:Option Blk),upd (upd f id x) i7 y=upd (upd f i7 y) id x:=fun f x y=>cB f x y n7.symm
 have e6:upd (upd G id none) i6 (some (.obj [.i 0,.i 0,.i 0,.s [],.i 0,.s [],.b false] 218))=upd (upd G i6 (some (.obj [.i 0,.i 0,.i 0,.s [],.i 0,.s [],.b false] 218))) id none:=c6 G none _;have hac7:∀k,Acc U 218 (upd (upd G i6 (some (.obj [.i 0,.i 0,.i 0,.s [],.i 0,.s [],.b false] 218))) id none) (upd (upd (upd K i6 (some (.obj [.i 0,.i 0,.i 0,.s [],.i 0,.s [],.b false] 218))) i7 k) id (some (PO st))) y (l.map cM):=fun k=>by
  have:=hac.sub (Sub.aj (k:=k) (by rw[c6];exact hi7))
  rw[e6,c6 K,c7]at this;exact agc
 have hsG:Sub (upd G id none) (upd (upd G i6 (some (.obj [.i 0,.i 0,.i 0,.s [],.i 0,.s [],.b false] 218))) id none):=by rw[←e6];exact Sub.aj gi6
 have g6:upd (upd G i6 (some (.obj [.i 0,.i 0,.i 0,.s [],.i 0,.s [],.b false] 218))) id none i6=some (.obj [.i 0,.i 0,.i 0,.s [],.i 0,.s [],.b false] 218):=by rw[←e6,ah]
 simp only[go_sem,c7,ak,n7];refine(kU st [40] hw).run ?_;have hacX:∀tk NB st',Acc U 218 (upd G id none) (upd (upd (upd (upd K i6 (some (.obj [.i 0,.i 0,.i 0,.s [],.i 0,.s [],.b false] 218))) i7 tk) i6 NB) id (some (PO st'))) y (l.map cM):=fun tk NB st' =>by have:=(o6 (tY hsG (hac7 tk)) st').put gi6 ((ag _ _ n6).trans ((ag _ _ m67).trans (ah ..))) NB;rw[c6]at this;exact agc
 obtain⟨⟨⟨lh,n⟩,sth⟩,eh⟩:∃x,jz (eW f) st l=x:=⟨_,rfl⟩;obtain⟨hha,hhl⟩:=EC (rE f) st l hw;rw[eh]at hha hhl;simp only at hha hhl;have hwp:=hha.1.2.2;have hwq:=hha.1.1;have hpl:=hha.2.2;have hdec:decide ((32:Int)<((lh.length+1:Nat):Int))=decide (32<lh.length+1):=by
  by_cases h:32<lh.length+1
  ·simp only[h,decide_true];exact decide_eq_true afu
  ·simp only[h,decide_false];exact decide_eq_false afu
 cases d0:isD st [40]
 ·have et:cu st [40]=(false,st):=by simp[cu,d0]
  rw[et];cases d1:((aN st).kind==1)
  ·have en:jz (eW f) st l=((l,⟨1,(aD st).1,⟨0,[],false⟩⟩),(aD st).2):=by have:(aN st).kind≠1:=aiw;simp[jz,d0,this]
   simp only[go_sem,ak,n7,d1];exact ajL
  ·have k1:(aN st).kind=1:=by simpa using d1
   cases d2:((aN st).s== [116,114,117,101])
   ·have k2:(aN st).s≠xK:=by unfold xK;simpa using d2
    cases d3:((aN st).s== [102,97,108,115,101])
    ·have k3:(aN st).s≠rF:=by unfold rF;simpa using d3
     have en:jz (eW f) st l=((l,⟨2,⟨0,0,[]⟩,(gA st).1⟩),(gA st).2):=by simp[jz,d0,k1,k2,k3]
     simp only[go_sem,ak,n7,d1,d2,d3,Bool.not_false];refine(MD st hw).run ?_;rw[en]at eh;injection eh with eh1 eh2
     injection eh1 with eh3 eh4
     subst eh2;subst eh3;subst eh4;simp only[go_sem,c6,ak,n6,m67,DT];refine(hacX _ _ _).app (zs:=[cM (⟨2,⟨0,0,[]⟩,(gA st).1⟩:aP)]) ajm ajl (fun k hk=>hk) aiE (by rw[tO];exact lQ [(⟨2,⟨0,0,[]⟩,(gA st).1⟩:aP)]) aim fun y3 H3 hy3 hk3=>?_
     have hH3:H3 id=some (PO (gA st).2):=hk3 _ _ _ (ah ..);have hb3:H3 i6=some (.obj [.v (.int .i64 (⟨2,⟨0,0,[]⟩,(gA st).1⟩:aP).op),.v (.int .i64 (⟨2,⟨0,0,[]⟩,(gA st).1⟩:aP).val.kind),.v (.int .i64 (⟨2,⟨0,0,[]⟩,(gA st).1⟩:aP).val.n),.s (⟨2,⟨0,0,[]⟩,(gA st).1⟩:aP).val.s,.v (.int .i64 (⟨2,⟨0,0,[]⟩,(gA st).1⟩:aP).attr.cat),.s (⟨2,⟨0,0,[]⟩,(gA st).1⟩:aP).attr.name,.v (.bool (⟨2,⟨0,0,[]⟩,(gA st).1⟩:aP).attr.must)] 218):=hk3 _ _ _ ((ag _ _ n6).trans (ah ..));simp only[go_sem,hy3.len,afn,afj,List.length_cons,List.length_nil,Nat.zero_add,hdec];refine(cS (gA st).2 _ hha.1).go hH3 ?_;simp only[go_sem,ak,n6,hb3];refine⟨.of afx,?_⟩;have efin:eW (f+1) st l=((l++ [(⟨2,⟨0,0,[]⟩,(gA st).1⟩:aP)],(⟨2,⟨0,0,[]⟩,(gA st).1⟩:aP).op==2),bG (gA st).2 (decide (32<l.length+1))):=ajr;exact .mk (.tup [y3,.b ((⟨2,⟨0,0,[]⟩,(gA st).1⟩:aP).op==2)]) (.refl _) (.refl _) ⟨y3,by rw[efin],ahY,agk⟩
    ·have k3:(aN st).s=rF:=by unfold rF;simpa using d3
     have en:jz (eW f) st l=((l,⟨1,(aD st).1,⟨0,[],false⟩⟩),(aD st).2):=by simp[jz,d0,k1,k3]
     simp only[go_sem,ak,n7,d1,d2,d3,Bool.not_false,Bool.not_true];exact ajL
   ·have k2:(aN st).s=xK:=by unfold xK;simpa using d2
    have en:jz (eW f) st l=((l,⟨1,(aD st).1,⟨0,[],false⟩⟩),(aD st).2):=by simp[jz,d0,k1,k2]
    simp only[go_sem,ak,n7,d1,d2,Bool.not_true];exact ajL
 ·have et:cu st [40]=(true,bl st):=by simp[cu,d0]
  have h1:=fo hw (dU d0);have hnp:(bl st).pos=st.pos+1:=rfl;have hnt:(bl st).ts=st.ts:=rfl;rw[et];simp only[go_sem];have ef:rH (eW f) (bl st) l=((lh,n),sth):=by rw[←eh];simp[jz,d0]
  have hfx:=GW (rE f) ih (bl st) l h1.1 (by rw[hnt];omega) afu
  simp only[ef]at hfx;refine hfx.run (o6 (hac7 _) _) fun y2 K2 hac2=>?_
  have k6:=hac2.1 _ _ g6;rw[ag _ _ n6]at k6;simp only[go_sem,c6,ak,n6,k6,cM];have hac3:=(tY hsG hac2).put gi6 ((ag _ _ n6).trans k6) (some (.obj [.i n.op,.i n.val.kind,.i n.val.n,.s n.val.s,.i n.attr.cat,.s n.attr.name,.b n.attr.must] 218));rw[c6]at hac3;refine(hac3).app (zs:=[cM n]) ajm ajl (fun k hk=>hk) aiE (by rw[tO];exact lQ [n]) aim fun y3 H3 hy3 hk3=>?_
  have hH3:H3 id=some (PO sth):=hk3 _ _ _ (ah ..);have hb3:H3 i6=some (.obj [.i n.op,.i n.val.kind,.i n.val.n,.s n.val.s,.i n.attr.cat,.s n.attr.name,.b n.attr.must] 218):=hk3 _ _ _ ((ag _ _ n6).trans (ah ..));simp only[go_sem,hy3.len,afn,afj,List.length_cons,List.length_nil,Nat.zero_add,hdec];refine(cS sth _ hha.1).go hH3 ?_;simp only[go_sem,ak,n6,hb3];refine⟨.of afx,?_⟩;have efin:eW (f+1) st l=((lh++ [n],n.op==2),bG sth (decide (32<lh.length+1))):=by simp only[eW,eh]
  exact .mk (.tup [y3,.b (n.op==2)]) (.refl _) (.refl _) ⟨y3,by rw[efin],ahY,agk⟩
theorem Nn:∀f,EH (eW f) f
 |0=>fun st l hw hf _=>absurd hw.1 afu
 |f+1=>TH f (Nn f)
theorem GR{P:Program}{Q':AV→Heap→Prop}(hf:ai P f args h Q)(hq:∀x h1,Q x h1→∃y h2,Weak x y∧Sub h2 h1∧Q' y h2):ai P f args h Q' :=
 fun c vs h1 h2 h3 h4=>(hf c vs h1 h2 h3 h4).mono fun u w' ⟨c',x,h',g1,g2,g3,g4,g5,g6⟩=>by obtain⟨y,h'',k1,k2,k3⟩:=hq x h' g6;exact⟨c',y,h'',g1,g2,g3,g4.weak k1,k2.trans g5,k3⟩
def flat:AV→AV
 |.sl xs _=> .sl xs .no
 |x=>x
theorem gJ(xs:List AV):Weak (.agg xs) (.agg (xs.map flat)):=.agg _ _ afB fun i h1 h2=>by rw[afk];cases xs[i]<;>first|exact .refl _|exact .sl _ _
theorem Lo(st:PS)(hw:WfP st):PC 242 [.sl [] .full,.b false] st (eC (iU (eW st.ts.length) st [] false).1) (iU (eW st.ts.length) st [] false).2:=.of fun G id=>by
 have hx:=B1 (rE st.ts.length) (Nn st.ts.length) st [] false hw afu afB;refine GR (hx G G id (.sl [] .full) (.full (base_start G id _))) fun r h1 ⟨y',e1,e2,e3⟩=>⟨_,upd G id (some (PO (iU (eW st.ts.length) st [] false).2)),?_,fI e3.1 e2,rfl,rfl⟩
 subst e1;exact e3.weak
theorem ON(deny:Bool)(st:PS)(hw:WfP st):PC 201 [.b deny] st (aC (qK deny st).1) (qK deny st).2:=.of fun G id=>by
 have h1:=oc hw;have h2:=CK h1.1;have h3:=ID h2.1;have h4:=CI h3.1;have ht:=SC _ h1.1;simp only[aU]at ht;refine aw func201 23 [.cell 4 213] ?_
 simp only[go_sem];intro i4 hi4;have n4:=aH hi4;have hG4:G i4=none:=af8;have c4:∀(f:Heap) (x y:Option Blk),upd (upd f id x) i4 y=upd (upd f i4 y) id x:=fun f x y=>cB f x y n4.symm
 simp only[go_sem,c4];refine(uU st hw).run ?_;simp only[go_sem];refine ht.run ?_;simp only[go_sem];intro i5 hi5;have n5:=aH hi5;have hi5' :=hi5;rw[ag _ _ n5]at hi5';have n54:=aH hi5';have m54:¬i5=i4:=n54;have m45:¬i4=i5:=n54.symm;have hG5:G i5=none:=af8;have c5:∀(f:Heap) (x y:Option Blk),upd (upd f id x) i5 y=upd (upd f i5 y) id x:=fun f x y=>cB f x y n5.symm
 have c45:∀(f:Heap) (x y:Option Blk),upd (upd f i5 x) i4 y=upd (upd f i4 y) i5 x:=fun f x y=>cB f x y n54
 simp only[go_sem,c5,ak,n5];refine(kU _ ifT h2.1).run ?_;cases d0:isD (iC (ct st).2).2 ifT
 ·have et:cu (iC (ct st).2).2 ifT=(false,(iC (ct st).2).2):=by grind [cu]
  have ec:rz (iC (ct st).2).2=([],(iC (ct st).2).2):=by grind [rz]
  have er:qK deny st=(⟨(ct st).1,deny,(iC (ct st).2).1,[],(gN (iC (ct st).2).2).1⟩,eJ (gN (iC (ct st).2).2).2 [59]):=by grind [qK]
  rw[ec]at h4;have ho:=uj _ h2.1;simp only[ay]at ho;rw[et];simp only[go_sem];refine ho.run ?_;simp only[go_sem,c5,ak,n5];refine(lM _ [59] h4.1).run ?_;simp only[go_sem,c4,c45,ak,n4,n5,m45];exact .mk (h' :=upd G id (some (PO (eJ (gN (iC (ct st).2).2).2 [59])))) (aC ⟨(ct st).1,deny,(iC (ct st).2).1,[],(gN (iC (ct st).2).2).1⟩) (gJ _) (Sub.both afV _ _) ⟨by rw[er],by rw[er]⟩
 ·have et:cu (iC (ct st).2).2 ifT=(true,bl (iC (ct st).2).2):=by grind [cu]
  obtain⟨⟨cn,stc⟩,ec⟩:∃x,rz (iC (ct st).2).2=x:=⟨_,rfl⟩;have er:qK deny st=(⟨(ct st).1,deny,(iC (ct st).2).1,cn,(gN stc).1⟩,eJ (gN stc).2 [59]):=by grind [qK]
  have hcnd:=Lo (bl (iC (ct st).2).2) (fo h2.1 (dU d0)).1;have ec2:iU (eW (bl (iC (ct st).2).2).ts.length) (bl (iC (ct st).2).2) [] false=(cn,stc):=by rw[←ec];simp only[rz,d0,if_true];rfl
  rw[ec2]at hcnd;simp only[eC]at hcnd;rw[ec]at h3 h4;have ho:=uj _ h3.1;simp only[ay]at ho;rw[et];simp only[go_sem];refine hcnd.run ?_;simp only[go_sem,c5,ak,n5];refine ho.run ?_;simp only[go_sem,c5,ak,n5];refine(lM _ [59] h4.1).run ?_;simp only[go_sem,c4,c45,ak,n4,n5,m45];exact .mk (h' :=upd G id (some (PO (eJ (gN stc).2 [59])))) (aC ⟨(ct st).1,deny,(iC (ct st).2).1,cn,(gN stc).1⟩) (gJ _) (Sub.both afV _ _) ⟨by rw[er],by rw[er]⟩
theorem RE:(U 213).sz=5:=afJ
theorem XU:(U 213).bytes=96:=afJ
theorem yx(l:List cR):Sized 5 (l.map aC):=fun z hz=>by obtain⟨c,_,rfl⟩:=List.mem_map.1 hz;rfl
theorem Us(st:PS)(hw:WfP st)(hr:st.rules≤64):PC 148 [] st (.sl ((kQ 17 st []).1.map aC) .no) (kQ 17 st []).2:=.of fun G id=>by
 obtain⟨M,eM⟩:∃M,kQ 17 st []=M:=⟨_,rfl⟩;rw[eM];refine aw func148 51 [.tmp 2] ?_
 simp only[go_sem];have hB:upd G id none id=none:=ah ..;refine .intro (fun m ρ H=>∃(f:Nat) (st' :PS) (l:List cR) (y:AV),H id=some (PO st')∧Acc U 213 (upd G id none) H y (l.map aC)∧Ah st st'∧st'.rules≤64∧kQ f st' l=M∧f+l.length=17∧l.length≤16∧m=f∧lk ρ 0=some (.ptr id 0)∧lk ρ 3=some y) 17 ?_ ?_
 ·refine⟨17,st,[],.sl ([].map aC) .full,ah ..,.full (base_start G id _),.refl hw,hr,eM,afB,afB,rfl,?_,?_⟩<;>simp only[go_sem]<;>rfl
 ·rintro m ρ H ⟨f,st',l,y,hH,hy,ha,hru,hfin,hf,hll,rfl,r0,r3⟩
  have hlen:=ha.1.2.2;have hpos:=ha.1.1;obtain⟨g,rfl⟩:∃g,m=g+1:=⟨m - 1,afu⟩;simp only[go_sem,r0];refine(uz st' qs ha.1).go hH ?_;rw[bH hH];have fin:isD st' qs=false→isD st' jv=false→(l,st')=M:=fun d1 d2=>by grind [kQ]
  have rest:isD st' qs=true∨isD st' jv=true→True:=fun _=>trivial
  cases d1:isD st' qs
  ·simp only[go_sem,r0]
   refine(uz st' jv ha.1).go hH ?_;rw[bH hH];cases d2:isD st' jv
   ·simp only[go_sem,r3]
    have e:=fin d1 d2;exact .mk (h' :=upd G id (some (PO M.2))) (.sl (M.1.map aC) .no) agB (by rw[←e];exact fI hy.1 hH) ⟨rfl,rfl⟩
   ·exact ajK
  ·exact ajK
theorem RD:(U 39).sz=7:=afJ
theorem XS:(U 39).bytes=128:=afJ
theorem yw(l:List bC):Sized 7 (l.map aM):=fun z hz=>by obtain⟨c,_,rfl⟩:=List.mem_map.1 hz;cases c;rfl
theorem TW(pol:PoF)(d:Nat)(hd5:d≤5)(hp:∀st,WfP st→st.rules≤64→d≤4→PC 87 [.i d] st (aM (pol st).1) (pol st).2)(hpa:∀st,WfP st→Ah st (pol st).2)(hpr:∀st,oL st (pol st).2)
  (st:PS) (hw:WfP st) (hr:st.rules≤64):PC 147 [.i d] st (.sl ((kG pol (decide ((4:Int)<(d:Int))) 17 st []).1.map aM) .no) (kG pol (decide ((4:Int)<(d:Int))) 17 st []).2:=.of fun G id=>by
 obtain⟨M,eM⟩:∃M,kG pol (decide ((4:Int)<(d:Int))) 17 st []=M:=⟨_,rfl⟩;rw[eM];refine aw func147 33 [.tmp 4] ?_
 simp only[go_sem];have hB:upd G id none id=none:=ah ..;refine .intro (fun m ρ H=>∃(f:Nat) (st' :PS) (l:List bC) (y:AV),H id=some (PO st')∧Acc U 39 (upd G id none) H y (l.map aM)∧Ah st st'∧st'.rules≤64∧kG pol (decide ((4:Int)<(d:Int))) f st' l=M∧f+l.length=17∧l.length≤16∧m=f∧lk ρ 0=some (.ptr id 0)∧lk ρ 1=some (.i d)∧lk ρ 5=some y) 17 ?_ ?_
 ·refine⟨17,st,[],.sl ([].map aM) .full,ah ..,.full (base_start G id _),.refl hw,hr,eM,afB,afB,rfl,?_,?_,?_⟩<;>simp only[go_sem]<;>rfl
 ·rintro m ρ H ⟨f,st',l,y,hH,hy,ha,hru,hfin,hf,hll,rfl,r0,r1,r5⟩
  have hlen:=ha.1.2.2;have hpos:=ha.1.1;obtain⟨g,rfl⟩:∃g,m=g+1:=⟨m - 1,afu⟩;simp only[go_sem,r0];refine(uz st' qt ha.1).go hH ?_;rw[bH hH];have fin:isD st' qt=false→isD st' HX=false→(l,st')=M:=fun d1 d2=>by grind [kG]
  cases d1:isD st' qt
  ·simp only[go_sem,r0]
   refine(uz st' HX ha.1).go hH ?_;rw[bH hH];cases d2:isD st' HX
   ·simp only[go_sem,r5]
    have e:=fin d1 d2;exact .mk (h' :=upd G id (some (PO M.2))) (.sl (M.1.map aM) .no) agB (by rw[←e];exact fI hy.1 hH) ⟨rfl,rfl⟩
   ·have hd:isD st' qt=true∨isD st' HX=true:=by grind
    have eb:=(nM hd).1;have ek:=(nM hd).2;have db:(st'.bad !=0)=false:=afv;have gP:=hH;unfold PO at gP;have lim:l.length=16∨decide ((4:Int)<(d:Int))=true→(l,bG st' true)=M:=fun h=>by rw[←hfin];simp only[kG,if_pos hd,if_pos h]
    have hdl:bG st' true=bJ st' 6 (aN st').pos:=rfl;have hlb:((bG st' true).bad !=0)=true:=by grind [bJ]
    cases dA:((l.length:Int)==16)
    ·cases dB:decide ((4:Int)<(d:Int))
     ·have nA:l.length≠16:=fun e=>by grind
      have hno:¬(l.length=16∨decide ((4:Int)<(d:Int))=true):=fun h=>h.elim nA (fun e=>afv)
      simp only[kG,if_pos hd,if_neg hno]at hfin;rw[dB]at hfin;have hd4:d≤4:=afv;simp only[go_sem,r0,r1,r5,hy.len,afj,dA,dB];refine(cS st' false ha.1).go hH ?_;rw[show bG st' false=st' from rfl,bH hH]
      have h3:=hpa st' ha.1;have hrp:=hp st' ha.1 hru hd4;have hr3:=wj (hpr st') hru;obtain⟨x,st2,e2⟩:∃x st2,pol st' =(x,st2):=⟨_,_,rfl⟩;rw[e2]at hfin hrp h3 hr3;obtain⟨pid,pset,palg,ptgt,prules,pkids,pobls⟩:=x;simp only[aM]at hrp hfin h3 hr3;simp only[go_sem,r0,r1,r5,gP,db];refine hrp.go hH ?_;simp only[go_sem];refine(hy.put hB hH _).app (zs:=[aM ⟨pid,pset,palg,ptgt,prules,pkids,pobls⟩]) afy afy (fun k hk=>hk) (by grind [RD,yw]) ahR (by grind [XS]) fun y' H2 hy' hk2=>?_
      have hH2:H2 id=some (PO st2):=hk2 _ _ _ (ah ..);simp only[go_sem];refine⟨_,?_,g,st2,l++ [⟨pid,pset,palg,ptgt,prules,pkids,pobls⟩],y',hH2,afv,ha.trans h3,hr3,hfin,afv,afv,rfl,?_,?_,?_⟩
      ·omega
      all_goals simp only[go_sem,r0,r1]
     ·have e:=lim (.inr dB)
      simp only[go_sem,r0,r1,r5,hy.len,afj,dA,dB];refine(cS st' true ha.1).go hH ?_;have g3:upd H id (some (PO (bG st' true))) id=some (PO (bG st' true)):=ah ..;unfold PO at g3;simp only[go_sem,r0,r5,g3,hlb,PO];exact .mk (h' :=upd G id (some (PO M.2))) (.sl (M.1.map aM) .no) agB af5 ⟨rfl,rfl⟩
    ·have nA:l.length=16:=by grind
     have e:=lim (.inl nA);simp only[go_sem,r0,r5,hy.len,afj,dA];refine(cS st' true ha.1).go hH ?_;have g3:upd H id (some (PO (bG st' true))) id=some (PO (bG st' true)):=ah ..;unfold PO at g3;simp only[go_sem,r0,r5,g3,hlb,PO];exact .mk (h' :=upd G id (some (PO M.2))) (.sl (M.1.map aM) .no) agB af5 ⟨rfl,rfl⟩
  ·have hd:isD st' qt=true∨isD st' HX=true:=by grind
   have eb:=(nM hd).1;have ek:=(nM hd).2;have db:(st'.bad !=0)=false:=afv;have gP:=hH;unfold PO at gP;have lim:l.length=16∨decide ((4:Int)<(d:Int))=true→(l,bG st' true)=M:=fun h=>by rw[←hfin];simp only[kG,if_pos hd,if_pos h]
   have hdl:bG st' true=bJ st' 6 (aN st').pos:=rfl;have hlb:((bG st' true).bad !=0)=true:=by grind [bJ]
   cases dA:((l.length:Int)==16)
   ·cases dB:decide ((4:Int)<(d:Int))
    ·have nA:l.length≠16:=fun e=>by grind
     have hno:¬(l.length=16∨decide ((4:Int)<(d:Int))=true):=fun h=>h.elim nA (fun e=>afv)
     simp only[kG,if_pos hd,if_neg hno]at hfin;rw[dB]at hfin;have hd4:d≤4:=afv;simp only[go_sem,r0,r1,r5,hy.len,afj,dA,dB];refine(cS st' false ha.1).go hH ?_;rw[show bG st' false=st' from rfl,bH hH]
     have h3:=hpa st' ha.1;have hrp:=hp st' ha.1 hru hd4;have hr3:=wj (hpr st') hru;obtain⟨x,st2,e2⟩:∃x st2,pol st' =(x,st2):=⟨_,_,rfl⟩;rw[e2]at hfin hrp h3 hr3;obtain⟨pid,pset,palg,ptgt,prules,pkids,pobls⟩:=x;simp only[aM]at hrp hfin h3 hr3;simp only[go_sem,r0,r1,r5,gP,db];refine hrp.go hH ?_;simp only[go_sem];refine(hy.put hB hH _).app (zs:=[aM ⟨pid,pset,palg,ptgt,prules,pkids,pobls⟩]) afy afy (fun k hk=>hk) (by grind [RD,yw]) ahR (by grind [XS]) fun y' H2 hy' hk2=>?_
     have hH2:H2 id=some (PO st2):=hk2 _ _ _ (ah ..);simp only[go_sem];refine⟨_,?_,g,st2,l++ [⟨pid,pset,palg,ptgt,prules,pkids,pobls⟩],y',hH2,afv,ha.trans h3,hr3,hfin,afv,afv,rfl,?_,?_,?_⟩
     ·omega
     all_goals simp only[go_sem,r0,r1]
    ·have e:=lim (.inr dB)
     simp only[go_sem,r0,r1,r5,hy.len,afj,dA,dB];refine(cS st' true ha.1).go hH ?_;have g3:upd H id (some (PO (bG st' true))) id=some (PO (bG st' true)):=ah ..;unfold PO at g3;simp only[go_sem,r0,r5,g3,hlb,PO];exact .mk (h' :=upd G id (some (PO M.2))) (.sl (M.1.map aM) .no) agB af5 ⟨rfl,rfl⟩
   ·have nA:l.length=16:=by grind
    have e:=lim (.inl nA);simp only[go_sem,r0,r5,hy.len,afj,dA];refine(cS st' true ha.1).go hH ?_;have g3:upd H id (some (PO (bG st' true))) id=some (PO (bG st' true)):=ah ..;unfold PO at g3;simp only[go_sem,r0,r5,g3,hlb,PO];exact .mk (h' :=upd G id (some (PO M.2))) (.sl (M.1.map aM) .no) agB af5 ⟨rfl,rfl⟩
theorem Fq(r:Nat)(d:Nat)(hrd:r+d=4)(hp:∀st,WfP st→st.rules≤64→d+1≤4→PC 87 [.i (d+1:Nat)] st (aM (gZ r st).1) (gZ r st).2)(st:PS)(hw:WfP st)(hr:st.rules≤64):
  PC 87 [.i d] st (aM (gZ (r+1) st).1) (gZ (r+1) st).2:=.of fun G id=>by
 have h1:=gX nO hw;have h2:=oc h1.1;have h3:=gX yM h2.1;have h4:=CK h3.1;have h5:Ah _ (dj st).2:=jE [123] h4.1;have ht:=SC _ h3.1;simp only[aU]at ht;have hrh:=wj (Fx st).big hr;have hset:(dj st).1.1=((aZ st nO).1==2):=rfl;have w1:IntKind.i64.wrap ((d:Int)+1)=((d+1:Nat):Int):=afG;have hdp:(r==0)=decide ((4:Int)<((d+1:Nat):Int)):=by grind
 have hk:=TW (gZ r) (d+1) afu hp (fun _ h=>yJ r _ h) (Dq r) _ h5.1 hrh
 have hs:=Us _ h5.1 hrh;refine aw func87 39 [.cell 4 39] ?_
 simp only[go_sem];intro i4 hi4;have n4:=aH hi4;have hG4:G i4=none:=af8;have c4:∀(f:Heap) (x y:Option Blk),upd (upd f id x) i4 y=upd (upd f i4 y) id x:=fun f x y=>cB f x y n4.symm
 simp only[go_sem,c4];intro i5 hi5;have n5:=aH hi5;have hi5' :=hi5;rw[ag _ _ n5]at hi5';have n54:=aH hi5';have m54:¬i5=i4:=n54;have m45:¬i4=i5:=n54.symm;have hG5:G i5=none:=af8;have c5:∀(f:Heap) (x y:Option Blk),upd (upd f id x) i5 y=upd (upd f i5 y) id x:=fun f x y=>cB f x y n5.symm
 have c45:∀(f:Heap) (x y:Option Blk),upd (upd f i5 x) i4 y=upd (upd f i4 y) i5 x:=fun f x y=>cB f x y n54
 simp only[go_sem,c5];refine(o8 st nO .full afy hw).run ?_;simp only[go_sem,c5,ak,n5];refine(uU _ h1.1).run ?_;simp only[go_sem,c5,ak,n5];refine(o8 _ yM .full afy h2.1).run ?_;simp only[go_sem,c5,ak,n5];refine ht.run ?_;simp only[go_sem,c5,ak,n5];refine(lM _ [123] h4.1).run ?_;cases ds:((aZ st nO).1==2)
 ·rw[ds]at hset
  simp only[go_sem,ak,n5];have eb:qF (gZ r) (r==0) (dj st).1.1 (dj st).2=(((kQ 17 (dj st).2 []).1,[]),(kQ 17 (dj st).2 []).2):=by grind [qF]
  have hb:=CH (fun _ h=>yJ r _ h) (r==0) (dj st).1.1 h5.1
  obtain⟨⟨rl,stb⟩,er⟩:∃x,kQ 17 (dj st).2 []=x:=⟨_,rfl⟩;rw[er]at eb hs;rw[eb]at hb;have ho:=uj _ (jE [125] hb.1).1;simp only[ay]at ho hs;refine hs.run ?_;simp only[go_sem,c5,ak,n5];refine(lM _ [125] hb.1).run ?_;simp only[go_sem];refine ho.run ?_;simp only[go_sem,c4,c5,c45,ak,n4,n5,m45];have efin:gZ (r+1) st=(.mk (dj st).1.2.1 false (dj st).1.2.2.1 (dj st).1.2.2.2 rl [] (gN (eJ stb [125])).1,(gN (eJ stb [125])).2):=by grind [gZ]
  exact .mk (h' :=upd G id (some (PO (gN (eJ stb [125])).2))) (aM (.mk (dj st).1.2.1 false (dj st).1.2.2.1 (dj st).1.2.2.2 rl [] (gN (eJ stb [125])).1)) (gJ _) (Sub.both afV _ _) ⟨afv,afv⟩
 ·rw[ds]at hset
  simp only[go_sem,ak,n5,w1];have eb:qF (gZ r) (r==0) (dj st).1.1 (dj st).2=(([],(kG (gZ r) (r==0) 17 (dj st).2 []).1),(kG (gZ r) (r==0) 17 (dj st).2 []).2):=by grind [qF]
  have hb:=CH (fun _ h=>yJ r _ h) (r==0) (dj st).1.1 h5.1
  rw[←hdp]at hk;obtain⟨⟨kl,stb⟩,er⟩:∃x,kG (gZ r) (r==0) 17 (dj st).2 []=x:=⟨_,rfl⟩;rw[er]at eb hk;rw[eb]at hb;have ho:=uj _ (jE [125] hb.1).1;simp only[ay]at ho hk;refine hk.run ?_;simp only[go_sem,c5,ak,n5];refine(lM _ [125] hb.1).run ?_;simp only[go_sem];refine ho.run ?_;simp only[go_sem,c4,c5,c45,ak,n4,n5,m45];have efin:gZ (r+1) st=(.mk (dj st).1.2.1 true (dj st).1.2.2.1 (dj st).1.2.2.2 [] kl (gN (eJ stb [125])).1,(gN (eJ stb [125])).2):=by grind [gZ]
  exact .mk (h' :=upd G id (some (PO (gN (eJ stb [125])).2))) (aM (.mk (dj st).1.2.1 true (dj st).1.2.2.1 (dj st).1.2.2.2 [] kl (gN (eJ stb [125])).1)) (by simp only[aM,aR];exact gJ _) (Sub.both afV _ _) ⟨afv,afv⟩
theorem Fp:∀(r d:Nat),r+d=4→∀st,WfP st→st.rules≤64→PC 87 [.i d] st (aM (gZ (r+1) st).1) (gZ (r+1) st).2
 |0,d,hrd=>fun st hw hr=>Fq 0 d hrd afu st hw hr
 |r+1,d,hrd=>fun st hw hr=>Fq (r+1) d hrd (fun st hw hr _=>Fp r (d+1) afu st hw hr) st hw hr
theorem My(l:List (List bO))(h:Heap):ai prog 273 [cC l] h fun r h' =>r= .i (xR l)∧h' =h:=by
 refine aw func273 25 [.tmp 2] ?_
 simp only[go_sem,cC,afj];refine(Jg _ _).pthen ?_;cases d1:(kZ l.length !=0)
 case true=>have e1:kZ l.length≠0:=afv;simp only[go_sem,d1];exact .same (.refl _) ⟨by grind [xR,ax],rfl⟩
 have e1:kZ l.length=0:=afv;have hlen:=EZ e1;simp only[go_sem,d1,afj];refine .intro (fun m ρ h' =>Ab.Sub h h'∧∃i:Nat,i≤l.length∧m=l.length - i∧iQ xQ (l.take i)=0∧lk ρ 13=some (cC l)∧lk ρ 14=some (.i l.length)∧lk ρ 15=some (.i i)) l.length ?_ ?_
 ·refine⟨.refl _,0,afu,rfl,rfl,?_,?_,?_⟩<;>simp only[go_sem,cC]
 ·rintro m ρ h' ⟨hs,i,hi,rfl,hc,r12,r13,r14⟩
  simp only[go_sem,r13,r14];refine .intro (fun e=>?_) (fun e=>?_)
  ·have hlt:i<l.length:=afq e
   have w1:IntKind.i64.wrap ((i:Int)+1)=((i+1:Nat):Int):=afG;simp only[go_sem,r12,r14,cC];refine .at i afv afD ?_;simp only[go_sem,afk,gv];refine(Mx l[i] _).pthen ?_;cases d2:(xQ l[i] !=0)
   ·have e2:xQ l[i]=0:=by grind
    simp only[go_sem,r14,d2,w1];refine⟨_,?_,hs,i+1,afu,rfl,wV hlt hc e2,?_,?_,?_⟩
    ·omega
    all_goals simp only[go_sem,r12,r13,cC]
   ·have e2:xQ l[i]≠0:=by grind
    simp only[go_sem,d2];refine .mk _ (.refl _) hs ⟨?_,rfl⟩
    grind [xR,BI,ax]
  ·have hge:i=l.length:=by grind
   subst hge;rw[List.take_length]at hc;simp only[go_sem];exact .mk _ (.refl _) hs ⟨by grind [xR,ax],rfl⟩
theorem wz(l:gu)(h:Heap):ai prog 244 [aU l] h fun r h' =>r= .i (mq l)∧h' =h:=by
 refine aw func244 21 [.tmp 2] ?_
 cases d1:decide (8<(l.length:Int))
 case true=>have e1:8<l.length:=afv;simp only[go_sem,aU,afj,d1];exact .same (.refl _) ⟨by grind [mq,ax],rfl⟩
 have e1:¬8<l.length:=afv;simp only[go_sem,d1,aU,afj];refine .intro (fun m ρ h' =>Ab.Sub h h'∧∃i:Nat,i≤l.length∧m=l.length - i∧iQ xR (l.take i)=0∧lk ρ 9=some (aU l)∧lk ρ 10=some (.i l.length)∧lk ρ 11=some (.i i)) l.length ?_ ?_
 ·refine⟨.refl _,0,afu,rfl,rfl,?_,?_,?_⟩<;>simp only[go_sem,aU]
 ·rintro m ρ h' ⟨hs,i,hi,rfl,hc,r12,r13,r14⟩
  simp only[go_sem,r13,r14];refine .intro (fun e=>?_) (fun e=>?_)
  ·have hlt:i<l.length:=afq e
   have w1:IntKind.i64.wrap ((i:Int)+1)=((i+1:Nat):Int):=afG;simp only[go_sem,r12,r14,aU];refine .at i afv afD ?_;simp only[go_sem,afk,cC];refine(My l[i] _).pthen ?_;cases d2:(xR l[i] !=0)
   ·have e2:xR l[i]=0:=by grind
    simp only[go_sem,r14,d2,w1];refine⟨_,?_,hs,i+1,afu,rfl,wV hlt hc e2,?_,?_,?_⟩
    ·omega
    all_goals simp only[go_sem,r12,r13,aU]
   ·have e2:xR l[i]≠0:=by grind
    simp only[go_sem,d2];refine .mk _ (.refl _) hs ⟨?_,rfl⟩
    grind [mq,BI,ax]
  ·have hge:i=l.length:=by grind
   subst hge;rw[List.take_length]at hc;simp only[go_sem];exact .mk _ (.refl _) hs ⟨by grind [mq,ax],rfl⟩
theorem Dj(l:List cE)(h:Heap):ai prog 245 [ay l] h fun r h' =>r= .i (iT l)∧h' =h:=by
 refine aw func245 39 [.tmp 2] ?_
 cases d1:decide (8<(l.length:Int))
 case true=>have e1:8<l.length:=afv;simp only[go_sem,ay,afj,d1];exact .same (.refl _) ⟨by grind [iT,ax],rfl⟩
 have e1:¬8<l.length:=afv;simp only[go_sem,d1,ay,afj];refine .intro (fun m ρ h' =>Ab.Sub h h'∧∃i:Nat,i≤l.length∧m=l.length - i∧(l.take i).all rO=true∧lk ρ 8=some (ay l)∧lk ρ 9=some (.i l.length)∧lk ρ 10=some (.i i)) l.length ?_ ?_
 ·refine⟨.refl _,0,afu,rfl,rfl,?_,?_,?_⟩<;>simp only[go_sem,ay]
 ·rintro m ρ h' ⟨hs,i,hi,rfl,hc,r12,r13,r14⟩
  simp only[go_sem,r13,r14];refine .intro (fun e=>?_) (fun e=>?_)
  ·have hlt:i<l.length:=afq e
   have w1:IntKind.i64.wrap ((i:Int)+1)=((i+1:Nat):Int):=afG;simp only[go_sem,r12,r14,ay];refine .at i afv afD ?_;simp only[go_sem,afk,bh];intro id hid;have bad:rO l[i]=false→iT l=1:=fun hb=>by have:l.all rO=false:=List.all_eq_false.2 ⟨_,afo hlt,afv⟩;simp[iT,e1,this]
   cases c1:decide (l[i].on<1)
   case true=>simp only[go_sem,c1];exact .mk _ (.refl _) (hs.new hid _) ⟨by rw[bad (by have:=afl c1;simp[rO];omega)];rfl,rfl⟩
   cases c2:decide (2<l[i].on)
   case true=>simp only[go_sem,c1,c2];exact .mk _ (.refl _) (hs.new hid _) ⟨by rw[bad (by have:=afl c2;simp[rO];omega)];rfl,rfl⟩
   cases c3:decide (l[i].kind<1)
   case true=>simp only[go_sem,c1,c2,c3];exact .mk _ (.refl _) (hs.new hid _) ⟨by rw[bad (by have:=afl c3;simp[rO];omega)];rfl,rfl⟩
   cases c4:decide (4<l[i].kind)
   case true=>simp only[go_sem,c1,c2,c3,c4];exact .mk _ (.refl _) (hs.new hid _) ⟨by rw[bad (by have:=afl c4;simp[rO];omega)];rfl,rfl⟩
   simp only[go_sem,c1,c2,c3,c4];refine(qj _ _).pthen ?_;cases d2:bp l[i].arg
   ·simp only[go_sem]
    exact .mk _ (.refl _) (hs.new hid _) ⟨by rw[bad (by grind [rO])];rfl,rfl⟩
   ·simp only[go_sem,r14,w1]
    refine⟨_,?_,hs.new hid _,i+1,afu,rfl,?_,?_,?_,?_⟩
    ·omega
    ·grind [afm,List.take_succ_eq_append_getElem,rO]
    all_goals simp only[go_sem,r12,r13,ay]
  ·have hge:i=l.length:=by grind
   subst hge;rw[List.take_length]at hc;simp only[go_sem];exact .mk _ (.refl _) hs ⟨by grind [iT,ax],rfl⟩
theorem Pp(op:Int)(h:Heap):ai prog 295 [.i op] h fun r h' =>r=(match ja op with
  |none=> .tup [.sl [] .no,.b false]
  |some w=> .tup [.sl (w.map kj) .no,.b true])∧h' =h:=by
 refine aw func295 35 [.tmp 2,.tmp 3] ?_
 cases k1:(op==1)
 case true=>have e1:op=1:=afv;simp only[go_sem,k1];exact .mk _ (fO _) (.refl _) ⟨aiW,rfl⟩
 have n1:op≠1:=afv;cases k2:(op==2)
 case true=>have e1:op=2:=afv;simp only[go_sem,k1,k2];exact .mk _ (fO _) (.refl _) ⟨aiW,rfl⟩
 have n2:op≠2:=afv;cases k3:(op==3)
 case true=>have e1:op=3:=afv;simp only[go_sem,k1,k2,k3];exact .mk _ (fO _) (.refl _) ⟨ahK,rfl⟩
 have n3:op≠3:=afv;cases k4:(op==4)
 case true=>have e1:op=4:=afv;simp only[go_sem,k1,k2,k3,k4];exact .mk _ (fO _) (.refl _) ⟨ahK,rfl⟩
 have n4:op≠4:=afv;cases k5:(op==5)
 case true=>have e1:op=5:=afv;simp only[go_sem,k1,k2,k3,k4,k5];exact .mk _ (fO _) (.refl _) ⟨ahK,rfl⟩
 have n5:op≠5:=afv;cases k11:(op==11)
 case true=>have e1:op=11:=afv;simp only[go_sem,k1,k2,k3,k4,k5,k11];exact .mk _ (fO _) (.refl _) ⟨ahK,rfl⟩
 have n11:op≠11:=afv;cases k6:decide (6≤op)
 ·have n6:=afm k6
  simp only[go_sem,k1,k2,k3,k4,k5,k11,k6];exact .mk _ (fO _) (.refl _) ⟨aiW,rfl⟩
 cases k13:decide (op≤13)
 ·have n13:=afm k13
  simp only[go_sem,k1,k2,k3,k4,k5,k11,k6,k13];exact .mk _ (fO _) (.refl _) ⟨aiW,rfl⟩
 have n6:=afl k6;have n13:=afl k13;simp only[go_sem,k1,k2,k3,k4,k5,k11,k6,k13];exact .mk _ (fO _) (.refl _) ⟨ahK,rfl⟩
theorem Ks(n:aP)(h:Heap):ai prog 296 [cM n] h fun r h' =>r= .b (ku n)∧h' =h:=by
 refine aw func296 37 [.tmp 2] ?_
 simp only[go_sem,cM];intro id hid;have fa:∀x y z:Bool,(x && (y && (z && true)))=(x && (y && (z && true))):=fun _ _ _=>rfl
 cases k1:(n.op==1)
 case true=>
  have e1:n.op=1:=afv;simp only[go_sem,k1];refine(gr n.val _).pthen ?_;cases d0:bz n.val
  ·simp only[go_sem]
   exact ak6
  ·simp only[go_sem]
   exact .mk _ (.refl _) (.aj hid) ⟨by grind [ku,ax,zeroAt],rfl⟩
 have n1:n.op≠1:=afv;cases k2:(n.op==2)
 case true=>
  have e1:n.op=2:=afv;simp only[go_sem,k1,k2];refine(II n.attr _).pthen ?_;cases d0:qZ n.attr
  ·simp only[go_sem]
   exact ak6
  ·simp only[go_sem]
   exact .mk _ (.refl _) (.aj hid) ⟨by grind [ku,ax,zeroV],rfl⟩
 have n2:n.op≠2:=afv;cases d0:zeroV n.val
 ·have d1:=d0
  unfold zeroV at d1;simp only[go_sem,k1,k2,d1];exact ak6
 ·have d1:=d0
  unfold zeroV at d1;simp only[go_sem,k1,k2,d1];exact .mk _ (.refl _) (.aj hid) ⟨by grind [ku,ax,zeroAt],rfl⟩
theorem u4:(U 4).sz=1:=afJ
theorem u4a:(U 4).k.agg=false:=afJ
theorem u4b:(U 4).bytes=1:=afJ
theorem u4f:fit (U 4).zero 1:=afF
theorem u4n:bB (U 4).zero=false:=afJ
theorem IJ(l:List Bool):One (l.map kj):=One.map (fun _=>rfl) l
theorem Rr(y:AV)(st:List Bool)(n:aP)(h0 h:Heap)(hy:WrA 4 h0 h y (st.map kj))(hl:st.length≤1000000):
  ai prog 274 [y,cM n] h fun r h' =>∃z,r= .tup [z,.v (.bool (iZ st n).isSome)]∧match iZ st n with
   |none=>Ab.Sub h0 h'
   |some st' =>WrA 4 h0 h' z (st'.map kj):=by
 refine aw func274 60 [.tmp 4,.tmp 5] ?_
 simp only[go_sem,cM];intro id hid;simp only[go_sem];have hyb:=hy.base hid (some (.obj [.i n.op,.i n.val.kind,.i n.val.n,.s n.val.s,.i n.attr.cat,.s n.attr.name,.b n.attr.must] 218));have hw:=Pp n.op (upd h id (some (.obj [.i n.op,.i n.val.kind,.i n.val.n,.s n.val.s,.i n.attr.cat,.s n.attr.name,.b n.attr.must] 218)));cases hwd:ja n.op with
 |none=>
  rw[hwd]at hw;have hst:iZ st n=none:=by grind [iZ]
  refine hw.pthen ?_;exact alA
 |some w=>
  rw[hwd]at hw;have hwl:w.length≤2:=by grind [ja]
  refine hw.pthen ?_;simp only[go_sem];refine(Ks n _).pthen ?_;cases d1:ku n
  ·have hst:iZ st n=none:=by grind [iZ]
   exact alA
  cases d2:decide ((st.length:Int)<(w.length:Int))
  case true=>
   have e2:¬w.length≤st.length:=afv;have hst:iZ st n=none:=by grind [iZ]
   simp only[go_sem,hyb.len,afj,d2];exact .mk _ (.refl _) (.aj hid) ⟨_,ajv,ajg⟩
  have e2:w.length≤st.length:=afv;have w1:IntKind.i64.wrap ((st.length:Int) - (w.length:Int))=((st.length - w.length:Nat):Int):=afG;obtain⟨hb,ehb⟩:∃hb,upd h id (some (.obj [.i n.op,.i n.val.kind,.i n.val.n,.s n.val.s,.i n.attr.cat,.s n.attr.name,.b n.attr.must] 218))=hb:=⟨_,rfl⟩;have hbid:hb id=some (.obj [.i n.op,.i n.val.kind,.i n.val.n,.s n.val.s,.i n.attr.cat,.s n.attr.name,.b n.attr.must] 218):=aiX;have hsub:Ab.Sub h hb:=by rw[←ehb];exact .aj hid
  rw[ehb]at hyb⊢;simp only[go_sem,hyb.len,afj,d2,w1];refine .intro (fun m ρ h' =>h' =hb∧∃i:Nat,i≤w.length∧m=w.length - i∧(∀j,j<i→st[st.length - w.length+j]? =w[j]?)∧lk ρ 0=some y∧lk ρ 3=some (.ptr id 0)∧lk ρ 8=some (.i ((st.length - w.length:Nat):Int))∧lk ρ 36=some (.sl (w.map kj) .no)∧lk ρ 37=some (.i w.length)∧lk ρ 38=some (.i i)) w.length ?_ ?_
  ·refine⟨rfl,0,afu,rfl,fun j hj=>afu,?_,?_,?_,?_,?_,?_⟩<;>simp only[go_sem]
  ·rintro m ρ h' ⟨rfl,i,hi,rfl,hc,r0,r3,r8,r36,r37,r38⟩
   simp only[go_sem,r37,r38];refine .intro (fun e=>?_) (fun e=>?_)
   ·have hlt:i<w.length:=afq e
    have w2:IntKind.i64.wrap ((i:Int)+1)=((i+1:Nat):Int):=afG;have w3:IntKind.i64.wrap (((st.length - w.length:Nat):Int)+(i:Int))=((st.length - w.length+i:Nat):Int):=afG;have hlt2:st.length - w.length+i<st.length:=afu;simp only[go_sem,r36,r38];refine .at i afv afD ?_;simp only[go_sem,r0,r8,afk,kj,w3];refine hyb.idx (IJ st) (st.length - w.length+i) rfl afv u4 u4a fun p hp=>?_
    simp only[go_sem,hp _,afk,kj];cases d3:(st[st.length - w.length+i]==w[i])
    ·have hst:iZ st n=none:=by
      have:st.drop (st.length - w.length)≠w:=fun hh=>by grind
      simp[iZ,hwd,this]
     simp only[go_sem];exact .mk _ (.refl _) hsub ⟨_,ajv,ajg⟩
    ·simp only[go_sem,r38,w2]
     refine⟨_,?_,rfl,i+1,afu,rfl,fun j hj=>?_,?_,?_,?_,?_,?_,?_⟩
     ·omega
     ·grind
     all_goals simp only[go_sem,r0,r3,r8,r36,r37]
   ·have hge:i=w.length:=by grind
    subst hge;have hdrop:st.drop (st.length - w.length)=w:=by
     apply List.ext_getElem?
     grind
    have hst:iZ st n=some (st.take (st.length - w.length)++ [n.op==2]):=by grind [iZ]
    simp only[go_sem];refine .calls (hm1 id _) [0,1,2,3,4,5,6,7,8,9] (.hm1 hbid) afx rfl ?_;simp only[go_sem,r0,r8];refine hyb.cut (x:=.i64) (st.length - w.length) afJ rfl afB u4 fun z hz=>?_
    rw[←List.map_take]at hz;simp only[go_sem,r3,gG];refine hz.app (zs:=[.b (n.op==2)]) (IJ _) (IJ [n.op==2]) u4 afy u4f u4n (fun k hk=>hk) (by grind [u4b]) fun z' h2 hz' =>?_
    refine⟨fun j b hj=>((Sub.hm1 (ah ..)).trans hz'.1) j b hj,?_⟩
    simp only[go_sem];have hz2:=hz'.less (Sub.aj (hy.1.none hid));refine .same (.refl _) ⟨z',ajv,?_⟩;rw[hst];simp only[List.map_append];exact hz2
theorem Gs(h:l.length≤32)(hs:gw [] l=none):kY l=1:=by grind [kY,Nat.not_lt]
theorem kS(st:List Bool):∀(l:List aP) (i:Nat),gw st l=(match gw st (l.take i)with
  |none=>none
  |some st' =>gw st' (l.drop i))
 | [],i=>by simp[gw]
 |n::r,0=>afJ
 |n::r,i+1=>by
  simp only[List.take_succ_cons,List.drop_succ_cons,gw];cases iZ st n with
  |none=>rfl
  |some st' =>simp only;exact kS st' r i
theorem sX(st st' :List Bool)(l:List aP)(h:gw st l=some st'):st'.length≤st.length+l.length:=by
 induction l generalizing st with
 |nil=>grind [gw,Option.some.injEq]
 |cons n r ih=>
  simp only[gw]at h;cases hs:iZ st n with
  |none=>grind
  |some s2=>grind [iZ]
theorem IW(l:List aP)(h:Heap):ai prog 246 [eC l] h fun r h' =>r= .i (kY l)∧h' =h:=by
 refine aw func246 38 [.tmp 2] ?_
 cases d1:decide (32<(l.length:Int))
 case true=>have e1:32<l.length:=afv;simp only[go_sem,eC,afj,d1];exact .same (.refl _) ⟨by grind [kY,ax],rfl⟩
 have e1:l.length≤32:=afv;simp only[go_sem,eC,afj,d1];refine .intro (fun m ρ h' =>∃(i:Nat) (y:AV) (st:List Bool),WrA 4 h h' y (st.map kj)∧gw [] (l.take i)=some st∧i≤l.length∧m=l.length - i∧
  lk ρ 0=some (eC l)∧lk ρ 3=some y∧lk ρ 10=some (eC l)∧lk ρ 11=some (.i l.length)∧lk ρ 12=some (.i i)) l.length ?_ ?_
 ·refine⟨0,_,[],.nil (.refl _),rfl,afu,rfl,?_,?_,?_,?_,?_⟩<;>simp only[go_sem,eC]
 ·rintro m ρ h' ⟨i,y,st,hy,hst,hi,rfl,r0,r3,r10,r11,r12⟩
  have hsl:=sX _ _ _ hst;have hsl:st.length≤i:=afv;simp only[go_sem,r11,r12];refine .intro (fun e=>?_) (fun e=>?_)
  ·have hlt:i<l.length:=afq e
   have w1:IntKind.i64.wrap ((i:Int)+1)=((i+1:Nat):Int):=afG;have hnx:gw [] (l.take (i+1))=iZ st l[i]:=by
    rw[kS [] _ i,List.take_take,Nat.min_eq_left afu,hst,List.take_succ_eq_append_getElem hlt,List.drop_append_of_le_length afv,List.drop_of_length_le afv]
    grind [gw,iZ]
   simp only[go_sem,r10,r12,eC];refine .at i afv afD ?_;simp only[go_sem,afk,cM];intro id hid;simp only[go_sem,r3];have hyb:=hy.sub (Sub.aj (k:=some (.obj [.i l[i].op,.i l[i].val.kind,.i l[i].val.n,.s l[i].val.s,.i l[i].attr.cat,.s l[i].attr.name,.b l[i].attr.must] 218)) hid);refine(Rr y st l[i] h _ hyb afu).mono fun r h2 ⟨z,e2,hz⟩=>?_
   subst e2;cases hsd:iZ st l[i]with
   |none=>rw[hsd]at hz;simp only[go_sem,Option.isSome_none];refine .mk _ (.refl _) hz ⟨?_,rfl⟩;rw[Gs e1 (by rw[kS [] l (i+1),hnx,hsd])];rfl
   |some st' =>
    rw[hsd]at hz hnx;simp only[go_sem,r12,Option.isSome_some,w1];refine⟨_,?_,i+1,z,st',hz,hnx,afu,rfl,?_,?_,?_,?_,?_⟩
    ·omega
    all_goals simp only[go_sem,r0,r10,r11,eC]
  ·have hge:i=l.length:=by grind
   subst hge;rw[List.take_length]at hst;have he:kY l=if l= []∨st= [false]then 0 else 1:=by simp_all [kY,if_neg]
   cases d2:decide (0<(l.length:Int))
   ·have e2:l= []:=by simp_all
    simp only[go_sem,r0,eC,afj,d2];exact .mk _ (.refl _) hy.1 ⟨by rw[he,if_pos (.inl e2)];rfl,rfl⟩
   have e2:l≠ []:=afv;cases d3:((st.length:Int) !=1)
   case true=>have e3:st≠ [false]:=afv;simp only[go_sem,r0,r3,eC,afj,d2,hy.len,d3];exact .mk _ (.refl _) hy.1 ⟨by rw[he,if_neg afv];rfl,rfl⟩
   have e3:st.length=1:=by grind
   obtain⟨b,rfl⟩:=List.length_eq_one_iff.1 e3;simp only[go_sem,r0,r3,eC,afj,d2,hy.len];refine hy.idx (IJ [b]) 0 rfl afB u4 u4a fun p hp=>?_
   simp only[go_sem,hp _,kj,List.getElem_cons_zero];cases b
   ·simp only[go_sem]
    exact .mk _ (.refl _) hy.1 ⟨by rw[he,if_pos (.inr rfl)];rfl,rfl⟩
   ·simp only[go_sem]
    exact .mk _ (.refl _) hy.1 ⟨by rw[he,if_neg afv];rfl,rfl⟩
def Keeps(S:List Nat)(h h' :Heap):Prop:=∀j k,j∉S→h j=some k→h' j=some k
theorem Keeps.trans{b c:Heap}(x:Keeps S a b)(y:Keeps S b c):Keeps S a c:=fun j k hj e=>y j k hj (x j k hj e)
theorem Keeps.of{b:Heap}(x:Ab.Sub a b):Keeps S a b:=fun j k _ e=>x j k e
theorem Keeps.upd{i:Nat}{b:Option Blk}(hi:i∈S):Keeps S a (Ab.upd a i b):=fun j k hj e=>by grind [ag]
def iM(h:Heap)(idw mid:Nat)(m:eS):Prop:=h idw=some (.obj [.mp mid,.i m.rules] 242)∧h mid=some (.mp (Bb m.met))∧(∀l∈m.met,l.length≤16)∧m.rules≤64
theorem iM.ne(hw:iM h idw mid m):idw≠mid:=fun e=>by
 have h1:=hw.1;have h2:=hw.2.1
 rw[e,h2]at h1;cases h1
theorem iM.keep(hw:iM h idw mid m)(hs:Ab.Sub h h'):iM h' idw mid m:=⟨hs _ _ hw.1,hs _ _ hw.2.1,hw.2.2⟩
theorem aai:(U 364).sz=0:=afJ
theorem HE(h:bp s=true):s.length≤16:=by grind [bp]
theorem zN(h:s∈m.met∨bp s=false):jC m s=none:=by
 unfold jC
 grind
theorem F4(idw mid:Nat)(m:eS)(s:Txt)(h:Heap)(hw:iM h idw mid m):ai prog 243 [.ptr idw 0,.s s] h fun r h' =>match jC m s with
  |none=>r= .b false∧Ab.Sub h h'
  |some m' =>r= .b true∧Keeps [idw,mid] h h'∧iM h' idw mid m' :=by
 refine afs func243 28 [.tmp 4] fun hwf=>?_
 obtain⟨w1,w2,w3,w4⟩:=hw;have hlen:s.length≤maxLen:=by have:=hwf (.s s) afB;simp only[wfA,wf1,lim]at this;unfold maxLen;omega
 have hkeys:Bs .str (Bb m.met):=K9 fun l hl=>by grind [maxLen]
 simp only[go_sem,w1,w2];refine⟨hlen,.inr afJ,hkeys,?_⟩;rw[Le _ _ aai];simp only[go_sem];intro idv hidv;simp only[go_sem];cases d1:decide (s∈m.met)
 case true=>have hm:=zN (.inl (afl d1));simp only[go_sem];rw[hm];exact .mk _ (.refl _) (.aj hidv) ⟨rfl,.refl _⟩
 have e1:=afm d1;simp only[go_sem];refine(qj _ _).pthen ?_;cases d2:bp s
 ·have hm:=zN (m:=m) (.inr d2)
  simp only[go_sem];rw[hm];exact .mk _ (.refl _) (.aj hidv) ⟨rfl,.refl _⟩
 have hm:jC m s=some ⟨m.met++ [s],m.rules⟩:=by grind [jC]
 have w1' :upd h idv (some (.obj [] 364)) idw=some (.obj [.mp mid,.i m.rules] 242):=af8;have w2' :upd h idv (some (.obj [] 364)) mid=some (.mp (Bb m.met)):=af8;simp only[go_sem,w1',w2'];refine⟨hlen,hkeys,?_⟩;rw[OX e1];rw[hm];refine .same (.refl _) ⟨rfl,(Keeps.of (.aj hidv)).trans (.upd afB),?_,?_,?_,w4⟩
 ·grind [ag]
 ·rw[ah]
 grind [List.mem_singleton,HE]
theorem Pu(idw mid:Nat)(m:eS)(r:cR)(h:Heap)(hw:iM h idw mid m):ai prog 203 [.ptr idw 0,aC r] h fun x h' =>x= .v (.int .i64 (gQ m r).err)∧Keeps [idw,mid] h h'∧∀m',gQ m r= .ok m'→iM h' idw mid m' :=by
 refine aw func203 39 [.tmp 4] ?_
 simp only[go_sem,aC,aU,eC,ay];intro id hid;have n1:idw≠id:=fun e=>by have:=hw.1;rw[e,hid]at this;cases this
 have n2:mid≠id:=fun e=>by have:=hw.2.1;rw[e,hid]at this;cases this
 have hwb:=hw.keep (Sub.aj (k:=some (.obj [.s r.id,.b r.deny,.sl (r.tgt.map cC) .no,.sl (r.cond.map cM) .no,.sl (r.obls.map bh) .no] 213)) hid);have hk0:Keeps [idw,mid] h (upd h id (some (.obj [.s r.id,.b r.deny,.sl (r.tgt.map cC) .no,.sl (r.cond.map cM) .no,.sl (r.obls.map bh) .no] 213))):=.of (.aj hid);simp only[go_sem];obtain⟨hb,ehb⟩:∃hb,upd h id (some (.obj [.s r.id,.b r.deny,.sl (r.tgt.map cC) .no,.sl (r.cond.map cM) .no,.sl (r.obls.map bh) .no] 213))=hb:=⟨_,rfl⟩;have hbid:hb id=some (.obj [.s r.id,.b r.deny,.sl (r.tgt.map cC) .no,.sl (r.cond.map cM) .no,.sl (r.obls.map bh) .no] 213):=aiX;rw[ehb]at hwb hk0⊢;refine(F4 idw mid m r.id hb hwb).mono fun x h2 hx=>?_
 cases hm:jC m r.id with
 |none=>
  rw[hm]at hx;obtain⟨rfl,hs⟩:=hx;have hr:gQ m r= .bad 1:=by grind [gQ]
  simp only[go_sem];exact .same (.refl _) ⟨ajC,hk0.trans (.of hs),fun m' h' =>afv⟩
 |some m1=>
  rw[hm]at hx;obtain⟨rfl,hk,hw2⟩:=hx;have g2:=hw2.1;have hle:=hw2.2.2.2;have hid2:h2 id=some (.obj [.s r.id,.b r.deny,.sl (r.tgt.map cC) .no,.sl (r.cond.map cM) .no,.sl (r.obls.map bh) .no] 213):=hk id _ afv hbid;have w1:IntKind.i64.wrap ((m1.rules:Int)+1)=((m1.rules+1:Nat):Int):=afG;have hk3:Keeps [idw,mid] h (upd h2 idw (some (.obj [.mp mid,.i ((m1.rules+1:Nat):Int)] 242))):=(hk0.trans hk).trans (.upd afB);have hid3:upd h2 idw (some (.obj [.mp mid,.i ((m1.rules+1:Nat):Int)] 242)) id=some (.obj [.s r.id,.b r.deny,.sl (r.tgt.map cC) .no,.sl (r.cond.map cM) .no,.sl (r.obls.map bh) .no] 213):=by grind [ag]
  cases d1:decide (64<((m1.rules+1:Nat):Int))
  case true=>
   have e1:m1.rules+1>64:=afv;have hr:gQ m r= .bad 6:=by grind [gQ]
   simp only[go_sem,g2,w1,d1];exact akK
  have e1:¬m1.rules+1>64:=afv;have hr:gQ m r=need (mq r.tgt) (need (kY r.cond) (need (iT r.obls) (.ok ⟨m1.met,m1.rules+1⟩))):=by grind [gQ]
  simp only[go_sem,g2,w1,d1,hid3];refine(wz r.tgt _).pthen ?_;cases d2:(mq r.tgt !=0)
  case true=>
   have e2:mq r.tgt≠0:=afv;have hr:gQ m r= .bad (mq r.tgt):=by grind [need]
   simp only[go_sem,d2];exact akK
  have e2:mq r.tgt=0:=afv;rw[need,if_pos e2]at hr;simp only[go_sem,d2,hid3];refine(IW r.cond _).pthen ?_;cases d3:(kY r.cond !=0)
  case true=>
   have e3:kY r.cond≠0:=afv;have hr:gQ m r= .bad (kY r.cond):=by grind [need]
   simp only[go_sem,d3];exact akK
  have e3:kY r.cond=0:=afv;rw[need,if_pos e3]at hr;simp only[go_sem,d3,hid3];refine(Dj r.obls _).pthen ?_;simp only[go_sem]
  by_cases e4:iT r.obls=0
  ·rw[need,if_pos e4]at hr
   refine .same (.refl _) ⟨by rw[hr,e4];rfl,hk3,fun m' h' =>?_⟩
   rw[hr]at h';cases h';refine⟨ah ..,?_,hw2.2.2.1,afv⟩;rw[ag _ _ hw2.ne.symm];exact hw2.2.1
  ·rw[need,if_neg e4]at hr
   exact akK
theorem zo{id:Txt}{set:Bool}(h:jC m id=none):fB m id set alg tgt nr nk obls= .bad 1:=by grind [fB]
theorem Pr(idw mid:Nat)(m:eS)(id:Txt)(set:Bool)(alg:Int)(tgt:gu)(rules:List cR)(kids:List bC)(obls:List cE)(h:Heap)(hw:iM h idw mid m):
  ai prog 202 [.ptr idw 0,aM (.mk id set alg tgt rules kids obls)] h fun x h' =>x= .v (.int .i64 (fB m id set alg tgt rules.length kids.length obls).err)∧Keeps [idw,mid] h h'∧∀m',fB m id set alg tgt rules.length kids.length obls= .ok m'→iM h' idw mid m' :=by
 refine aw func202 68 [.tmp 4] ?_
 simp only[go_sem,aM,aU,ay];intro ip hip;have n1:idw≠ip:=fun e=>by have:=hw.1;rw[e,hip]at this;cases this
 have n2:mid≠ip:=fun e=>by have:=hw.2.1;rw[e,hip]at this;cases this
 have hwb:=hw.keep (Sub.aj (k:=some (.obj [.s id,.b set,.i alg,.sl (tgt.map cC) .no,.sl (rules.map aC) .no,.sl (fl kids) .no,.sl (obls.map bh) .no] 39)) hip);have hk0:Keeps [idw,mid] h (upd h ip (some (.obj [.s id,.b set,.i alg,.sl (tgt.map cC) .no,.sl (rules.map aC) .no,.sl (fl kids) .no,.sl (obls.map bh) .no] 39))):=.of (.aj hip);simp only[go_sem];obtain⟨hb,ehb⟩:∃hb,upd h ip (some (.obj [.s id,.b set,.i alg,.sl (tgt.map cC) .no,.sl (rules.map aC) .no,.sl (fl kids) .no,.sl (obls.map bh) .no] 39))=hb:=⟨_,rfl⟩;have hbip:hb ip=some (.obj [.s id,.b set,.i alg,.sl (tgt.map cC) .no,.sl (rules.map aC) .no,.sl (fl kids) .no,.sl (obls.map bh) .no] 39):=aiX;rw[ehb]at hwb hk0⊢;refine(F4 idw mid m id hb hwb).mono fun x h2 hx=>?_
 cases hm:jC m id with
 |none=>rw[hm]at hx;obtain⟨rfl,hs⟩:=hx;simp only[go_sem];exact .same (.refl _) ⟨by rw[zo hm];rfl,hk0.trans (.of hs),fun m' h' =>by rw[zo hm]at h';cases h'⟩
 |some m1=>
  rw[hm]at hx;obtain⟨rfl,hk,hw2⟩:=hx;have hip2:h2 ip=some (.obj [.s id,.b set,.i alg,.sl (tgt.map cC) .no,.sl (rules.map aC) .no,.sl (fl kids) .no,.sl (obls.map bh) .no] 39):=hk ip _ (by simp[n1.symm,n2.symm]) hbip
  have hkk:=hk0.trans hk;have bad:∀e,fB m id set alg tgt rules.length kids.length obls= .bad e→(.i e:AV)= .v (.int .i64 (fB m id set alg tgt rules.length kids.length obls).err)∧Keeps [idw,mid] h h2∧∀m',fB m id set alg tgt rules.length kids.length obls= .ok m'→iM h2 idw mid m' :=
   fun e he=>⟨by rw[he];rfl,hkk,fun m' h' =>by rw[he]at h';cases h'⟩
  cases d1:decide (alg<1)
  case true=>have e1:=afl d1;simp only[go_sem,d1,hip2];exact .same (.refl _) (bad 1 (by simp[fB,hm,e1]))
  cases d2:decide (6<alg)
  case true=>have e2:=afl d2;simp only[go_sem,d1,d2,hip2];exact .same (.refl _) (bad 1 (by simp[fB,hm,e2]))
  have e1:¬(alg<1∨alg>6):=by have:=afm d1;have:=afm d2;omega
  have tail:∀(z:Unit),¬(set=true∧rules.length>0∨set=false∧(kids.length>0∨alg=4))→fB m id set alg tgt rules.length kids.length obls=need (mq tgt) (need (iT obls) (if rules.length>16∨kids.length>16 then .bad 6 else .ok m1)):=fun _ hh=>by simp only[fB,hm];rw[if_neg e1,if_neg hh]
  cases set
  ·cases d4:decide (0<(kids.length:Int))
   case true=>
    have f4:0<kids.length:=by have:=afl d4;omega
    simp only[go_sem,d1,d2,hip2,aR,afj,d4];exact .same (.refl _) (bad 1 (by simp[fB,hm,e1,f4]))
   have g4:¬0<kids.length:=by have:=afm d4;omega
   cases d5:(alg==4)
   case true=>
    have f5:alg=4:=by simpa using d5
    simp only[go_sem,d1,d2,hip2,aR,afj,d4,d5];exact .same (.refl _) (bad 1 (by simp[fB,hm,f5]))
   have g5:alg≠4:=by simpa using d5
   simp only[go_sem,d1,d2,hip2,aR,afj,d4,d5];have e3:=tail () (by simp[g4,g5])
   refine(wz tgt _).pthen ?_;cases t1:(mq tgt !=0)
   case true=>exact ak3
   have f1:mq tgt=0:=by simpa using t1
   simp only[go_sem,t1,hip2];refine(Dj obls _).pthen ?_;cases t2:(iT obls !=0)
   case true=>exact akZ
   have f2:iT obls=0:=by simpa using t2
   cases t3:decide (16<(rules.length:Int))
   case true=>exact akN
   have f3:¬16<rules.length:=by have:=afm t3;omega
   cases t4:decide (16<(kids.length:Int))
   case true=>exact akL
   have f4:¬16<kids.length:=by have:=afm t4;omega
   simp only[go_sem,t2,hip2,afj,t3,aR,t4];have e4:fB m id false alg tgt rules.length kids.length obls= .ok m1:=by rw[e3];simp[need,f1,f2,f3,f4]
   exact alj
  ·cases d3:decide (0<(rules.length:Int))
   case true=>
    have f3:0<rules.length:=by have:=afl d3;omega
    simp only[go_sem,d1,d2,hip2,afj,d3];exact .same (.refl _) (bad 1 (by simp[fB,hm,e1,f3]))
   have g3:¬0<rules.length:=by have:=afm d3;omega
   simp only[go_sem,d1,d2,hip2,afj,d3];have e3:=tail () (by simp[g3])
   refine(wz tgt _).pthen ?_;cases t1:(mq tgt !=0)
   case true=>exact ak3
   have f1:mq tgt=0:=by simpa using t1
   simp only[go_sem,t1,hip2];refine(Dj obls _).pthen ?_;cases t2:(iT obls !=0)
   case true=>exact akZ
   have f2:iT obls=0:=by simpa using t2
   cases t3:decide (16<(rules.length:Int))
   case true=>exact akN
   have f3:¬16<rules.length:=by have:=afm t3;omega
   cases t4:decide (16<(kids.length:Int))
   case true=>exact akL
   have f4:¬16<kids.length:=by have:=afm t4;omega
   simp only[go_sem,t2,hip2,afj,t3,aR,t4];have e4:fB m id true alg tgt rules.length kids.length obls= .ok m1:=by rw[e3];simp[need,f1,f2,f3,f4]
   exact alj
theorem z8(k:bC):(aM k).cells.length=7:=by cases k;rfl
theorem vZ{p:bC}(h:4<d):lC m d p= .bad 6:=by cases p;grind [lC]
theorem we{id:Txt}{set:Bool}{e:Int}(h:¬4<d)
  (hh:fB m id set alg tgt rules.length kids.length obls= .bad e):lC m d (.mk id set alg tgt rules kids obls)= .bad e:=by
 grind [lC]
theorem Aa{id:Txt}{set:Bool}{e:Int}(h:¬4<d)
  (hh:fB m id set alg tgt rules.length kids.length obls= .ok m1) (hr:fM m1 rules= .bad e):lC m d (.mk id set alg tgt rules kids obls)= .bad e:=by
 grind [lC]
theorem B6{m2:eS}{id:Txt}{set:Bool}(h:¬4<d)
  (hh:fB m id set alg tgt rules.length kids.length obls= .ok m1) (hr:fM m1 rules= .ok m2):lC m d (.mk id set alg tgt rules kids obls)=jn m2 (d+1) kids:=by
 grind [lC]
theorem uW:∀(n d:Nat) (m:eS) (p:bC) (e:Int),d+n=5→lC m d p= .bad e→e≠0
 |0,d,m,p,e,hd,h=>by grind [vZ]
 |n+1,d,m,.mk id set alg tgt rules kids obls,e,hd,h=>by
  by_cases h4:4<d
  ·omega
  cases hh:fB m id set alg tgt rules.length kids.length obls with
  |bad e' =>grind [we,BL]
  |ok m1=>
   cases hr:fM m1 rules with
   |bad e' =>
    rw[Aa h4 hh hr]at h;cases h
    clear hh hd
    induction rules generalizing m1 with
    |nil=>cases hr
    |cons r l ih=>grind [fM,gQ,Cg]
   |ok m2=>
    rw[B6 h4 hh hr]at h;have ih:=fun m p e=>uW n (d+1) m p e afu
    clear hh hr
    induction kids generalizing m2 with
    |nil=>cases h
    |cons k l ihk=>
     simp only[jn]at h;cases hx:lC m2 (d+1) k with
     |bad x=>rw[hx]at h;cases h;exact ih _ _ _ hx
     |ok m3=>rw[hx]at h;exact ihk m3 h
theorem Jl{e:Int}{w:Went}(h:need e w= .ok m):e=0∧w= .ok m:=by grind [need]
theorem Nx{id:Txt}{set:Bool}(h:fB m id set alg tgt nr nk obls= .ok m1):
  jC m id=some m1∧1≤alg∧alg≤6∧(set=true→nr=0)∧(set=false→nk=0∧alg≠4)∧mq tgt=0∧iT obls=0∧nr≤16∧nk≤16:=by
 unfold fB at h;split at h
 ·cases h
 split at h
 ·cases h
 split at h
 ·cases h
 obtain⟨h3,h⟩:=Jl h;obtain⟨h4,h⟩:=Jl h
 grind
theorem JS:∀(n d:Nat),d+n=5→∀(idw mid:Nat) (m:eS) (p:bC) (h:Heap),iM h idw mid m→
  ai prog 150 [.ptr idw 0,aM p,.i d] h fun x h' =>x= .v (.int .i64 (lC m d p).err)∧Keeps [idw,mid] h h'∧∀m',lC m d p= .ok m'→iM h' idw mid m'
 |n,d,hd,idw,mid,m,.mk id set alg tgt rules kids obls,h,hw=>by
  refine aw func150 52 [.tmp 6] ?_
  simp only[go_sem,aM,aU,ay];intro ip hip;have n1:idw≠ip:=fun e=>by have:=hw.1;rw[e,hip]at this;cases this
  have n2:mid≠ip:=fun e=>by have:=hw.2.1;rw[e,hip]at this;cases this
  have hwb:=hw.keep (Sub.aj (k:=some (.obj [.s id,.b set,.i alg,.sl (tgt.map cC) .no,.sl (rules.map aC) .no,.sl (fl kids) .no,.sl (obls.map bh) .no] 39)) hip);have hk0:Keeps [idw,mid] h (upd h ip (some (.obj [.s id,.b set,.i alg,.sl (tgt.map cC) .no,.sl (rules.map aC) .no,.sl (fl kids) .no,.sl (obls.map bh) .no] 39))):=.of (.aj hip);obtain⟨hb,ehb⟩:∃hb,upd h ip (some (.obj [.s id,.b set,.i alg,.sl (tgt.map cC) .no,.sl (rules.map aC) .no,.sl (fl kids) .no,.sl (obls.map bh) .no] 39))=hb:=⟨_,rfl⟩;have hbip:hb ip=some (.obj [.s id,.b set,.i alg,.sl (tgt.map cC) .no,.sl (rules.map aC) .no,.sl (fl kids) .no,.sl (obls.map bh) .no] 39):=aiX;rw[ehb]at hwb hk0⊢;cases d0:decide (4<(d:Int))
  case true=>have e0:4<d:=afv;simp only[go_sem,d0];exact .same (.refl _) ⟨by rw[vZ e0];rfl,hk0,fun m' h' =>by grind [vZ]⟩
  have e0:¬4<d:=afv;simp only[go_sem,d0,hbip];have hhead:=Pr idw mid m id set alg tgt rules kids obls hb hwb;simp only[aM,aU,ay]at hhead;refine hhead.mono fun x h2 ⟨ex,hk,hw2⟩=>?_
  subst ex;have hk2:=hk0.trans hk;cases hh:fB m id set alg tgt rules.length kids.length obls with
  |bad e=>have hne:=BL hh;have t1:(e !=0)=true:=afv;simp only[go_sem,Went.err,t1];exact .same (.refl _) ⟨by rw[we e0 hh];rfl,hk2,fun m' h' =>by grind [we]⟩
  |ok m1=>
   have hw2:=hw2 _ hh;have hle:=(Nx hh).2.2.2.2.2.2.2;have hip2:=hk ip _ afv hbip;simp only[go_sem,Went.err,hip2,afj];refine .intro (fun k ρ h' =>∃(i:Nat) (mi:eS),i≤rules.length∧k=rules.length - i∧fM m1 (rules.take i)= .ok mi∧Keeps [idw,mid] h h'∧iM h' idw mid mi∧
    h' ip=some (.obj [.s id,.b set,.i alg,.sl (tgt.map cC) .no,.sl (rules.map aC) .no,.sl (fl kids) .no,.sl (obls.map bh) .no] 39)∧
    lk ρ 0=some (.ptr idw 0)∧lk ρ 2=some (.i d)∧lk ρ 4=some (.ptr ip 0)∧lk ρ 23=some (.sl (rules.map aC) .no)∧lk ρ 24=some (.i rules.length)∧lk ρ 25=some (.i i)) rules.length ?_ ?_
   ·refine⟨0,m1,afu,rfl,rfl,hk2,hw2,hip2,?_,?_,?_,?_,?_,?_⟩<;>simp only[go_sem]
   ·rintro k ρ h' ⟨i,mi,hi,rfl,hri,hki,hwi,hipi,r0,r2,r4,r23,r24,r25⟩
    simp only[go_sem,r24,r25];refine .intro (fun e=>?_) (fun e=>?_)
    ·have hlt:i<rules.length:=afq e
     have w1:IntKind.i64.wrap ((i:Int)+1)=((i+1:Nat):Int):=afG;simp only[go_sem,r23,r25];refine .at i afv afD ?_;simp only[go_sem,afk,aC];intro ir hir;have hrl:=Pu idw mid mi rules[i] _ (hwi.keep (Sub.aj (k:=some (.obj [.s rules[i].id,.b rules[i].deny,aU rules[i].tgt,eC rules[i].cond,ay rules[i].obls] 213)) hir));simp only[aC]at hrl;simp only[go_sem,r0];refine hrl.mono fun x h3 ⟨ex,hk3,hw3⟩=>?_
     subst ex;have hk4:=(hki.trans (.of (Sub.aj hir))).trans hk3;have hip3:=hk3 ip _ afv ((Sub.aj hir) _ _ hipi);cases hx:gQ mi rules[i]with
     |bad x=>
      have t1:(x !=0)=true:=by grind [Cg]
      simp only[go_sem,Went.err,t1];have hp:=Aa (d:=d) (kids:=kids) e0 hh (FF hlt hri hx);exact .same (.refl _) ⟨by rw[hp];rfl,hk4,fun m' h' =>afv⟩
     |ok m3=>
      simp only[go_sem,r25,Went.err,w1];refine⟨_,?_,i+1,m3,afu,rfl,by grind [xB],hk4,hw3 _ hx,hip3,?_,?_,?_,?_,?_,?_⟩
      ·omega
      all_goals simp only[go_sem,r0,r2,r4,r23,r24]
    ·have hge:i=rules.length:=by grind
     subst hge;rw[List.take_length]at hri;have hpk:=B6 (d:=d) (kids:=kids) e0 hh hri;simp only[go_sem,r4,hipi,aR,afj];refine .intro (fun k ρ h' =>∃(i:Nat) (mj:eS),i≤kids.length∧k=kids.length - i∧jn mi (d+1) (kids.take i)= .ok mj∧Keeps [idw,mid] h h'∧iM h' idw mid mj∧
      lk ρ 0=some (.ptr idw 0)∧lk ρ 2=some (.i d)∧lk ρ 37=some (.sl (kids.map aM) .no)∧lk ρ 38=some (.i kids.length)∧lk ρ 39=some (.i i)) kids.length ?_ ?_
     ·refine⟨0,mi,afu,rfl,rfl,hki,hwi,?_,?_,?_,?_,?_⟩<;>simp only[go_sem,r0,r2]
     ·rintro k ρ h' ⟨i,mj,hi,rfl,hkj,hki,hwi,r0,r2,r37,r38,r39⟩
      simp only[go_sem,r38,r39];refine .intro (fun e=>?_) (fun e=>?_)
      ·have hlt:i<kids.length:=afq e
       have w1:IntKind.i64.wrap ((i:Int)+1)=((i+1:Nat):Int):=afG;have w2:IntKind.i64.wrap ((d:Int)+1)=((d+1:Nat):Int):=afG;obtain⟨n',rfl⟩:∃n',n=n' +1:=⟨n - 1,afu⟩;have hrec:=JS n' (d+1) afu idw mid mj kids[i];cases hki' :kids[i]with
       |mk kid kset kalg ktgt krules kkids kobls=>
       rw[hki']at hrec;simp only[aM,aU,ay]at hrec;simp only[go_sem,r37,r39];refine .at i afv (by grind [z8]) ?_
       simp only[go_sem,afk,hki',aM,aU,ay];intro ir hir;simp only[go_sem,r0,r2,w2];refine(hrec _ (hwi.keep (Sub.aj hir))).mono fun x h3 ⟨ex,hk3,hw3⟩=>?_
       subst ex;have hk4:=(hki.trans (.of (Sub.aj hir))).trans hk3;cases hx:lC mj (d+1) (.mk kid kset kalg ktgt krules kkids kobls)with
       |bad x=>
        have t1:(x !=0)=true:=by simpa using uW n' (d+1) _ _ _ afu hx
        simp only[go_sem,Went.err,t1];have hp:=Hs hlt hkj (by rw[hki'];exact hx)
        exact .same (.refl _) ⟨by rw[hpk,hp];rfl,hk4,fun m' h' =>afv⟩
       |ok m3=>
        simp only[go_sem,r39,Went.err,w1];refine⟨_,?_,i+1,m3,afu,rfl,by grind [zy],hk4,hw3 _ hx,?_,?_,?_,?_,?_⟩
        ·omega
        all_goals simp only[go_sem,r0,r2,r37,r38]
      ·have hge:i=kids.length:=by grind
       subst hge;rw[List.take_length]at hkj;simp only[go_sem];exact .same (.refl _) ⟨by rw[hpk,hkj];rfl,hki,fun m' h' =>afv⟩
theorem zQ{i:Nat}{b:Blk}(e:upd h i (some b) j=none):j≠i:=fun hh=>by subst hh;rw[ah]at e;cases e
theorem u7(p:bC)(h:Heap):ai prog 90 [aM p] h fun r h' =>r= .i (gV p)∧h' =h:=by
 cases p with
 |mk id set alg tgt rules kids obls=>
 refine aw func90 10 [.tmp 2] ?_
 simp only[go_sem,aM,aU,ay];intro ip hip;simp only[go_sem];intro im him;simp only[go_sem];intro iw hiw;have n1:=zQ him;have n2:=zQ hiw;have hiw1:=hiw;rw[ag _ _ n2]at hiw1;have n3:=zQ hiw1;have s1:Ab.Sub h (upd (upd (upd h ip (some (.obj [.s id,.b set,.i alg,.sl (tgt.map cC) .no,.sl (rules.map aC) .no,.sl (fl kids) .no,.sl (obls.map bh) .no] 39))) im (some (.mp []))) iw (some (.obj [.mp im,.i 0] 242))):=
  ((Sub.aj hip).trans (.aj him)).trans (.aj hiw)
 obtain⟨h3,e3⟩:∃h3,upd (upd (upd h ip (some (.obj [.s id,.b set,.i alg,.sl (tgt.map cC) .no,.sl (rules.map aC) .no,.sl (fl kids) .no,.sl (obls.map bh) .no] 39))) im (some (.mp []))) iw (some (.obj [.mp im,.i 0] 242))=h3:=⟨_,rfl⟩;have g1:h3 ip=some (.obj [.s id,.b set,.i alg,.sl (tgt.map cC) .no,.sl (rules.map aC) .no,.sl (fl kids) .no,.sl (obls.map bh) .no] 39):=by rw[←e3,ag _ _ n3.symm,ag _ _ n1.symm,ah]
 have g2:iM h3 iw im ⟨[],0⟩:=by refine⟨by rw[←e3,ah];rfl,by rw[←e3,ag _ _ n2.symm,ah];rfl,fun l hl=>afv,afy⟩
 have hi0:h im=none:=af8;have hw0:h iw=none:=af8;simp only[go_sem];rw[e3]at s1⊢;simp only[go_sem,g1];have hp:=JS 4 1 rfl iw im ⟨[],0⟩ (.mk id set alg tgt rules kids obls) h3 g2;refine hp.mono fun x h4 ⟨ex,hk,_⟩=>?_
 subst ex;simp only[go_sem];refine .mk _ (.refl _) (fun j k hj=>?_) ⟨rfl,rfl⟩
 refine hk j k ?_ (s1 _ _ hj)
 grind
def kO(x:bC×Int×Int):AV:=.tup [aM x.1,.i x.2.1,.i x.2.2]
theorem jQ(a b c:AV)(h:Weak a b)(d:AV):Weak (.tup [a,c,d]) (.tup [b,c,d]):=.tup _ _ rfl fun i h1 h2=>by
 rcases i with _|_|_|i
 ·exact h
 ·exact agR
 ·exact agR
 grind
theorem zX(s:Txt)(h:Heap)(he:jt h):ai prog 41 [.s s] h fun r h' =>r=kO (aS s)∧h' =h:=by
 refine aw func41 61 [.cell 2 39,.tmp 3,.tmp 4] ?_
 simp only[go_sem];intro i2 hi2;simp only[go_sem];refine(yN s _ (he.sub (.aj hi2))).pthen ?_;cases el:qg s with
 |bad e a=>
  have e1:=uC el;have d1:(e !=0)=true:=by grind
  have efin:aS s=(pO,e,a):=by grind [aS]
  simp only[go_sem,Hw,d1];rw[efin];exact .mk (h' :=h) (kO (pO,e,a)) (jQ _ _ _ (gJ _) _) (.aj hi2) ⟨rfl,rfl⟩
 |ok ts=>
  have efin:aS s=zW s ts:=by grind [aS]
  have hw:=Md el 0 0 0;have hpol:=Fp 3 1 rfl ⟨ts,0,0,0,0⟩ hw (Nat.zero_le _);have hap:=yJ 4 ⟨ts,0,0,0,0⟩ hw;obtain⟨⟨⟨pid,pset,palg,ptgt,prules,pkids,pobls⟩,st1⟩,ep⟩:∃x,gZ 4 ⟨ts,0,0,0,0⟩=x:=⟨_,rfl⟩;rw[show 3+1=4 from rfl,ep]at hpol
  rw[ep]at hap;simp only[aM]at hpol hap;simp only[zW,ep]at efin;simp only[go_sem,Hw];intro i8 hi8;have n8:=aH hi8;have m82:¬i8=i2:=n8;have m28:¬i2=i8:=fun e=>n8 e.symm
  have hh8:h i8=none:=af8;simp only[go_sem];refine hpol.go (ah ..) ?_;rw[eL];simp only[go_sem];intro i9 hi9;have n9:=aH hi9;have hi9' :=hi9;rw[ag _ _ n9]at hi9';have n92:=aH hi9';have m92:¬i9=i2:=n92;have m29:¬i2=i9:=fun e=>n92 e.symm
  have m98:¬i9=i8:=n9;have m89:¬i8=i9:=fun e=>n9 e.symm
  have hh9:h i9=none:=af8;have c9:∀(f:Heap) (x y:Option Blk),upd (upd f i8 x) i9 y=upd (upd f i9 y) i8 x:=fun f x y=>cB f x y n9.symm
  simp only[go_sem,c9,ak,m98];refine(mT st1 hap.1).run ?_;have subs:∀x y z,Sub h (upd (upd (upd h i2 x) i9 y) i8 z):=fun x y z=>((Sub.aj hi2).put hh9 _).put hh8 _
  cases d1:((aN st1).kind !=7)
  ·have k1:(aN st1).kind=7:=by grind
   have e2:(if(aN st1).kind=7 then st1 else br st1)=st1:=if_pos k1
   simp only[go_sem,fN,d1];cases db:((st1).bad==0)
   ·have eb:(st1).bad≠0:=by grind
    simp only[go_sem,PO,db];have eend:qQ s (.mk pid pset palg ptgt prules pkids pobls,st1)=st1:=by simp_all [qQ,if_neg]
    have hbb:(st1).bad≠0:=eb;have dn:((st1).bad !=0)=true:=afv;simp only[go_sem,dn];refine .calls (hm1 i8 (PO (st1))) [0,1,2,3,4,5,6,7,8,9,10,11] (.hm1 (ah ..)) afx rfl ?_;simp only[go_sem,ak,m28,m29,PO,gG];refine⟨.hm1 ((ag _ _ n8).trans (ah ..)),?_⟩;have efin2:aS s=(pO,(st1).bad,(st1).place):=afv;rw[efin2];exact .mk (h' :=h) (kO (pO,(st1).bad,(st1).place)) (jQ _ _ _ (gJ _) _) (Sub.put (subs _ _ _) hi2 _) ⟨rfl,rfl⟩
   ·have eb:(st1).bad=0:=by grind
    simp only[go_sem,ak,m98,PO,db];refine(u7 (.mk pid pset palg ptgt prules pkids pobls) _).pthen ?_;cases dr:(gV (.mk pid pset palg ptgt prules pkids pobls) !=0)
    ·have er:gV (.mk pid pset palg ptgt prules pkids pobls)=0:=by grind
     have dn:((st1).bad !=0)=false:=afv;simp only[go_sem,ak,m28,m29,m98,dr,dn];have eend:qQ s (.mk pid pset palg ptgt prules pkids pobls,st1)=st1:=by simp_all [qQ,if_neg]
     exact alx
    ·have er:gV (.mk pid pset palg ptgt prules pkids pobls)≠0:=by grind
     simp only[go_sem,dr];refine(so (st1) 5 s.length).run ?_;have eend:qQ s (.mk pid pset palg ptgt prules pkids pobls,st1)=bJ (st1) 5 s.length:=by simp_all [qQ,if_pos]
     have hwb:bJ (st1) 5 s.length= {(st1)with bad:=5,place:=s.length}:=by rw[bJ,if_pos eb]
     have hbb:(bJ (st1) 5 s.length).bad≠0:=afv;have dn:((bJ (st1) 5 s.length).bad !=0)=true:=afv;simp only[go_sem,PO,dn];refine .calls (hm1 i8 (PO (bJ (st1) 5 s.length))) [0,1,2,3,4,5,6,7,8,9,10,11] (.hm1 (ah ..)) afx rfl ?_;simp only[go_sem,ak,m28,m29,PO,gG];refine⟨.hm1 ((ag _ _ n8).trans (ah ..)),?_⟩;have efin2:aS s=(pO,(bJ (st1) 5 s.length).bad,(bJ (st1) 5 s.length).place):=afv;rw[efin2];exact .mk (h' :=h) (kO (pO,(bJ (st1) 5 s.length).bad,(bJ (st1) 5 s.length).place)) (jQ _ _ _ (gJ _) _) (Sub.put (subs _ _ _) hi2 _) ⟨rfl,rfl⟩
  ·have k1:(aN st1).kind≠7:=by grind
   have e2:(if(aN st1).kind=7 then st1 else br st1)=br st1:=if_neg k1
   simp only[go_sem,fN,d1];refine(mh st1 hap.1).run ?_;simp only[go_sem];cases db:((br st1).bad==0)
   ·have eb:(br st1).bad≠0:=by grind
    simp only[go_sem,PO,db];have eend:qQ s (.mk pid pset palg ptgt prules pkids pobls,st1)=br st1:=by simp_all [qQ,if_neg]
    have hbb:(br st1).bad≠0:=eb;have dn:((br st1).bad !=0)=true:=afv;simp only[go_sem,dn];refine .calls (hm1 i8 (PO (br st1))) [0,1,2,3,4,5,6,7,8,9,10,11] (.hm1 (ah ..)) afx rfl ?_;simp only[go_sem,ak,m28,m29,PO,gG];refine⟨.hm1 ((ag _ _ n8).trans (ah ..)),?_⟩;have efin2:aS s=(pO,(br st1).bad,(br st1).place):=afv;rw[efin2];exact .mk (h' :=h) (kO (pO,(br st1).bad,(br st1).place)) (jQ _ _ _ (gJ _) _) (Sub.put (subs _ _ _) hi2 _) ⟨rfl,rfl⟩
   ·have eb:(br st1).bad=0:=by grind
    simp only[go_sem,ak,m98,PO,db];refine(u7 (.mk pid pset palg ptgt prules pkids pobls) _).pthen ?_;cases dr:(gV (.mk pid pset palg ptgt prules pkids pobls) !=0)
    ·have er:gV (.mk pid pset palg ptgt prules pkids pobls)=0:=by grind
     have dn:((br st1).bad !=0)=false:=afv;simp only[go_sem,ak,m28,m29,m98,dr,dn];have eend:qQ s (.mk pid pset palg ptgt prules pkids pobls,st1)=br st1:=by simp_all [qQ,if_neg]
     exact alx
    ·have er:gV (.mk pid pset palg ptgt prules pkids pobls)≠0:=by grind
     simp only[go_sem,dr];refine(so (br st1) 5 s.length).run ?_;have eend:qQ s (.mk pid pset palg ptgt prules pkids pobls,st1)=bJ (br st1) 5 s.length:=by simp_all [qQ,if_pos]
     have hwb:bJ (br st1) 5 s.length= {(br st1)with bad:=5,place:=s.length}:=by rw[bJ,if_pos eb]
     have hbb:(bJ (br st1) 5 s.length).bad≠0:=afv;have dn:((bJ (br st1) 5 s.length).bad !=0)=true:=afv;simp only[go_sem,PO,dn];refine .calls (hm1 i8 (PO (bJ (br st1) 5 s.length))) [0,1,2,3,4,5,6,7,8,9,10,11] (.hm1 (ah ..)) afx rfl ?_;simp only[go_sem,ak,m28,m29,PO,gG];refine⟨.hm1 ((ag _ _ n8).trans (ah ..)),?_⟩;have efin2:aS s=(pO,(bJ (br st1) 5 s.length).bad,(bJ (br st1) 5 s.length).place):=afv;rw[efin2];exact .mk (h' :=h) (kO (pO,(bJ (br st1) 5 s.length).bad,(bJ (br st1) 5 s.length).place)) (jQ _ _ _ (gJ _) _) (Sub.put (subs _ _ _) hi2 _) ⟨rfl,rfl⟩
end Go.Proofs.YtelkmnkejghkeaaGreatDoor
namespace Go.Ab
open Go
theorem OwE.keepb{tb:TypeId}{h0 h h' :Heap}{sz:Nat}{y:AV}{xs:List AV}(hw:OwE tb h0 h sz y xs)(hk:∀id,h0 id=Option.none→h id≠Option.none→h' id=h id):OwE tb h0 h' sz y xs:=
 hw.keep fun id e=>hk id (hw.nid e).1 (hw.nid e).2.1
end Go.Ab
namespace Go.Proofs.YtelkmnkejghkeaaGreatDoor
open Go Go.Ab Go.Bf Tryz
variable {h0 h h' g:Heap}{ys xs:List AV}{x y:AV}{c:aL}{cs:List aL}{i0:Nat}{s:an}
theorem fH.keepb(hm:fH h0 h ys x c)(hk:∀id,h0 id=none→h id≠none→h' id=h id):fH h0 h' ys x c:=by obtain⟨f,l,e,a,b,c,d⟩:=hm;exact⟨f,l,e,a.keepb hk,b.keepb hk,c,d⟩
theorem mO.keepb(ho:mO h0 h ys y cs i0)(hk:∀id,h0 id=none→h id≠none→h' id=h id):mO h0 h' ys y cs i0:=by obtain⟨xs,a,b,c,d⟩:=ho;exact⟨xs,a.keepb hk,b,c,fun h1 h2=>(d h1 h2).keepb hk⟩
theorem tX.keepb(ho:tX h0 h x s i0)(hk:∀id,h0 id=none→h id≠none→h' id=h id):tX h0 h' x s i0:=by obtain⟨y1,y2,y3,y4,e,a,b,c,d,r⟩:=ho;exact⟨y1,y2,y3,y4,e,a.keepb hk,b.keepb hk,c.keepb hk,d.keepb hk,r⟩
theorem mO.keepx{z:AV}(ho:mO h0 h ys y cs i0)(hz:z∈ys)(hy:apart y z)(hk:∀id,h0 id=none→h id≠none→nid z≠some id→h' id=h id):mO h0 h' ys y cs i0:=by
 obtain⟨xs,a,b,c,d⟩:=ho;refine⟨xs,a.keep fun id e=>hk id (a.nid e).1 (a.nid e).2.1 (hy id e),b,c,fun h1 h2=>?_⟩
 obtain⟨f,l,e,of,ol,hap,hys⟩:=d h1 h2;exact⟨f,l,e,of.keep fun id e=>hk id (of.nid e).1 (of.nid e).2.1 ((hys z hz).1 id e),ol.keep fun id e=>hk id (ol.nid e).1 (ol.nid e).2.1 ((hys z hz).2 id e),hap,hys⟩
theorem fH.frz(hm:fH h0 h ys x c)(hg:Ab.Sub g h0):Frz g h x (cr c):=by
 obtain⟨f,l,rfl,a,b,_⟩:=hm;refine .agg _ _ rfl fun j h1 h2=>?_
 rcases j with _|_|_|_|_|j
 ·exact afO
 ·exact afO
 ·exact afO
 ·exact(a.less hg).frz (bn (fun _=>rfl) _)
 ·exact(b.less hg).frz (bn (fun _=>rfl) _)
 ·simp at h1;omega
theorem KG(hw:OwE 120 h0 h 5 y xs)(hg:Ab.Sub g h0)(hn:xs.length=cs.length)(hx:∀j (h1:j<xs.length) (h2:j<cs.length),Frz g h xs[j] (cr cs[j])):Frz g h y (fT cs):=by
 rcases hw with⟨rfl,rfl⟩|⟨id,h1,hw⟩
 ·have:cs= []:=by grind
  subst this;exact .sl [] [] .full rfl afu afB
 ·have hsz:∀i (h1:i<xs.length),xs[i].cells.length=5:=fun i h1=>hw.rd.1 _ afB
  refine hw.frz (hg.none h1) afv (fun i h1 h2=>by rw[hsz i h1,afk];rfl) fun i h1 h2 j h3 h4=>?_
  have h2' :i<cs.length:=afu;have hf:=hx i h1 h2';have key:∀x y:AV,Frz g h x y→bB y=true→cN y=true→∀j (h3:j<x.cells.length) (h4:j<y.cells.length),Frz g h x.cells[j] y.cells[j]:=by
   intro x y hf ha hp j h3 h4;cases hf with
   |keep x hx=>exact .pure (oE hp _ (afo h4))
   |agg xs ys hn hr=>exact hr j h3 h4
   |_=>cases ha
  have e:(cs.map cr)[i]'h2=cr cs[i]:=afB;simp only[e]at h4⊢;exact key _ _ hf rfl (by simp only[cr,om,cN,gO,gS,tE,Bool.and_true,Bool.true_and,Bool.and_eq_true];exact⟨bn (fun _=>rfl) _,bn (fun _=>rfl) _⟩) j h3 h4
theorem mO.frz(ho:mO h0 h ys y cs i0)(hg:Ab.Sub g h0):Frz g h y (fT cs):=by
 obtain⟨xs,a,b,c,d⟩:=ho;refine KG a hg b fun j h1 h2=>?_
 by_cases e:j=i0
 ·subst e;exact(d h1 h2).frz hg
 grind [Eu]
theorem OA(p:bC):∀x∈gD p,Frz g h x x:=fun x hx=>by refine .pure (oE (x:=aM p) (Fs p) x ?_);rw[Ra];exact hx
theorem Ev(hx:∀x∈xs,Frz g h x x):∀i (h1:i<xs.length) (h2:i<xs.length),Frz g h xs[i] xs[i]:=fun i h1 _=>hx _ (afo h1)
theorem I3{ps bs cs ds:List AV}(n1:ps.length=bs.length)(n2:cs.length=ds.length)(h1:∀i (a:i<ps.length) (b:i<bs.length),Frz g h ps[i] bs[i])(h2:∀i (a:i<cs.length) (b:i<ds.length),Frz g h cs[i] ds[i]):
  ∀i (a:i<(ps++cs).length) (b:i<(bs++ds).length),Frz g h (ps++cs)[i] (bs++ds)[i]:=fun i a b=>by
 by_cases e:i<ps.length
 ·rw[List.getElem_append_left e,List.getElem_append_left afu];exact h1 i e afu
 ·rw[List.getElem_append_right afu,List.getElem_append_right afu]
  simp only[afn]at a b;have:=h2 (i - ps.length) afu afu;simp only[n1]at this⊢;exact agc
theorem vJ{y1 y2 y3 y4:AV}(a:Frz g h y1 (fT s.cases))(b:Frz g h y2 (jZ s.reviews))(c:Frz g h y3 (kM s.notices))(d:Frz g h y4 (eu s.roles)):
  Frz g h (.agg ([.i s.tick,y1,y2,y3,y4]++gD s.policy++ [.i s.version])) (bQ s):=by
 refine .agg _ _ afB (I3 afB rfl (I3 rfl rfl (fun i h1 h2=>?_) (Ev (OA _))) (Ev fun x hx=>by rw[List.mem_singleton.1 hx];exact .pure rfl))
 rcases i with _|_|_|_|_|i
 ·exact afO
 ·exact a
 ·exact b
 ·exact c
 ·exact d
 ·simp at h1;omega
theorem mO.rd(ho:mO h0 h ys y cs i0):AR h y cs:=by
 obtain⟨xs,a,b,c,d⟩:=ho;refine⟨xs,a.rd,b,fun j h1 h2=>?_⟩
 by_cases e:j=i0
 ·subst e
  obtain⟨f,l,e,a,b,_⟩:=d h1 h2;exact⟨f,l,e,a.rd,b.rd⟩
 grind [rdC]
theorem tX.rd(ho:tX h0 h x s i0):RdS h x s:=by obtain⟨y1,y2,y3,y4,rfl,a,b,c,d,r⟩:=ho;exact⟨y1,y2,y3,y4,rfl,a.rd,b.rd,c.rd,d.rd⟩
end Go.Proofs.YtelkmnkejghkeaaGreatDoor
namespace Go.Ab
open Go
theorem OwE.bP{tb:TypeId}{h0 h1 h:Heap}{sz:Nat}{y:AV}{xs:List AV}(hw:OwE tb h1 h sz y xs)(hs:∀i,h1 i=Option.none→h0 i=Option.none):OwE tb h0 h sz y xs:=by
 rcases hw with hw|⟨id,e,hw⟩
 ·exact ajt
 ·exact .inr ⟨id,hs _ e,hw⟩
end Go.Ab
namespace Go.Proofs.YtelkmnkejghkeaaGreatDoor
open Go Go.Ab Go.Bf Tryz
variable {g h0 h K:Heap}{ys ys' xs:List AV}{x y z r X:AV}{c C:aL}{cs A B:List aL}{i0 j:Nat}{s S:an}
theorem fH.bP(hm:fH h0 h ys x c)(hg:∀i,h0 i=none→g i=none):fH g h ys x c:=by obtain⟨f,l,e,a,b,c⟩:=hm;exact⟨f,l,e,a.bP hg,b.bP hg,c⟩
theorem mO.bP(ho:mO h0 h ys y cs i0)(hg:∀i,h0 i=none→g i=none):mO g h ys y cs i0:=by obtain⟨xs,a,b,c,d⟩:=ho;exact⟨xs,a.bP hg,b,c,fun h1 h2=>(d h1 h2).bP hg⟩
theorem tX.bP(ho:tX h0 h x s i0)(hg:∀i,h0 i=none→g i=none):tX g h x s i0:=by obtain⟨y1,y2,y3,y4,e,a,b,c,d,r⟩:=ho;exact⟨y1,y2,y3,y4,e,a.bP hg,b.bP hg,c.bP hg,d.bP hg,r⟩
theorem qq{y1 y2 y3 y4:AV}{tk ver palg:Int}{pid:Txt}{pset:Bool}{ptgt:gu}{prules:List cR}{pkids:List bC}{pobls:List cE}(h1:S.tick=tk)(h2:S.policy= .mk pid pset palg ptgt prules pkids pobls)(h3:S.version=ver)
  (a:mO g K [y1,y2,y3,y4] y1 S.cases j) (b:OwE 134 g K 7 y2 (S.reviews.map gH)) (c:OwE 137 g K 3 y3 (S.notices.map kL)) (d:OwE 140 g K 2 y4 (S.roles.map dF)) (ap:apart y1 y2∧apart y1 y3∧apart y1 y4∧apart y2 y3∧apart y2 y4∧apart y3 y4):
  tX g K (.agg [.i tk,y1,y2,y3,y4,.s pid,.b pset,.i palg,aU ptgt,.sl (prules.map aC) .no,.sl (pkids.map aM) .no,ay pobls,.i ver]) S j:=by
 refine⟨y1,y2,y3,y4,?_,a,b,c,d,ap⟩;rw[h1,h2,h3,show gD (.mk pid pset palg ptgt prules pkids pobls)= [.s pid,.b pset,.i palg,aU ptgt,.sl (prules.map aC) .no,.sl (pkids.map aM) .no,ay pobls] by simp[gD,aR]]
 rfl
theorem mO.move{h':Heap}(ho:mO h0 h ys y cs i0)(hz:z∈ys)(hy:apart y z)(hk:∀id,h0 id=none→h id≠none→nid z≠some id→h' id=h id)
  (hr:∀y'∈ys',∀k,nid y' =some k→h k=none∨∃w∈ys,nid w=some k):mO h0 h' ys' y cs i0:=by
 obtain⟨xs,a,b,c,d⟩:=ho;refine⟨xs,a.keep fun id e=>hk id (a.nid e).1 (a.nid e).2.1 (hy id e),b,c,fun h1 h2=>?_⟩
 obtain⟨f,l,e,of,ol,hap,hys⟩:=d h1 h2;refine⟨f,l,e,of.keep fun id e=>hk id (of.nid e).1 (of.nid e).2.1 ((hys z hz).1 id e),ol.keep fun id e=>hk id (ol.nid e).1 (ol.nid e).2.1 ((hys z hz).2 id e),hap,fun w hw=>⟨fun k e1 e2=>?_,fun k e1 e2=>?_⟩⟩
 ·rcases hr w hw k e2 with hn|⟨v,hv,e3⟩
  ·exact(of.nid e1).2.1 hn
  ·exact(hys v hv).1 k e1 e3
 ·rcases hr w hw k e2 with hn|⟨v,hv,e3⟩
  ·exact(ol.nid e1).2.1 hn
  ·exact(hys v hv).2 k e1 e3
theorem Q9(hj:A.length=j)(hw:OwE 120 g K 5 r (A.map cr++([X]++B.map cr)))(hX:fH g K ys X C):mO g K ys r (A++ [C]++B) j:=by
 refine⟨_,hw,afB,fun k h1 h2 hk=>?_,fun h1 h2=>?_⟩
 ·grind
 grind
theorem Dl{F:aL→aL}(hw:OwE 120 g K 5 z (xs.set j X))(hn:xs.length=cs.length)(hlo:∀k (h1:k<xs.length) (h2:k<cs.length),k≠j→xs[k]=cr cs[k])(hX:∀h:j<cs.length,fH g K ys X (F cs[j])):mO g K ys z (cs.modify j F) j:=by
 refine⟨_,hw,afv,fun k h1 h2 e=>?_,fun h1 h2=>?_⟩
 ·grind
 grind
theorem ur(hj:j<xs.length)(x:AV):au (xs.set j x)=au (xs.take j)++(x.cells++au (xs.drop (j+1))):=by simp_all [List.set_eq_take_append_cons_drop,if_pos,nc,au]
theorem CZ(hj:j<xs.length):au xs=au (xs.take j)++(xs[j].cells++au (xs.drop (j+1))):=by grind [ur,List.set_getElem_self]
theorem Aj{o:OpD}(h:bL s o=0)(hk:o.kind=3∨o.kind=4):ck s.cases o.case=true:=by grind [ck,bL,bY]
theorem M8(hb:RdS g x s)(o:OpD)(hf:Few s)(hp:mU 1 s.policy)(hr:i64 o.review)(ht:i64 s.tick)(hver:0≤s.version∧s.version≤1000000)(he:jt g):
  ai prog 47 [x,opA o] g fun r h' =>Ab.Sub g h'∧∃j,tX g h' r (dX aS s o) j∧(bL s o=0→j=findD s.cases o.case):=by
 obtain⟨i0,ei0⟩:∃i0,(if o.kind=1 then s.cases.length else findD s.cases o.case)=i0:=⟨_,rfl⟩
 have hown:=fun(G:Heap) (hG:Ab.Sub g G)=>Uk (hb.sub hG) i0 hf hp
 have hrdy:=fun(G:Heap) (hG:Ab.Sub g G)=>FC (hb.sub hG) o hf hr ht
 obtain⟨y1,y2,y3,y4,rfl,hb'⟩:=hb;cases hpp:s.policy with
 |mk pid pset palg ptgt prules pkids pobls=>
 have hcC:gD (.mk pid pset palg ptgt prules pkids pobls)= [.s pid,.v (.bool pset),.v (.int .i64 palg),aU ptgt,.sl (prules.map aC) .no,.sl (pkids.map aM) .no,ay pobls]:=aiA;rw[hpp,hcC]at hown hrdy;simp only[opA,opC,List.cons_append,List.nil_append]at hown hrdy;refine aw func47 138 [.cell 4 41] ?_
 simp only[go_sem,hcC,opA,opC,List.cons_append,List.nil_append];intro i2 h2;simp only[go_sem];intro i3 h3;have n32:=aH h3;have h3' :=aA h3;simp only[go_sem];intro i4 h4;have n43:=aH h4;have h4a:=aA h4;have n42:=aH h4a;have h4' :=aA h4a;simp only[go_sem,ak,n32.symm,n42.symm];obtain⟨H,eH⟩:∃H,upd (upd (upd g i2 (some (.obj [.v (.int .i64 s.tick),y1,y2,y3,y4,.s pid,.v (.bool pset),.v (.int .i64 palg),aU ptgt,.sl (prules.map aC) .no,.sl (pkids.map aM) .no,ay pobls,.v (.int .i64 s.version)] 41))) i3 (some (.obj (opC o) 50))) i4 (some (.obj [.v (.int .i64 0),.sl [] .full,.sl [] .full,.sl [] .full,.sl [] .full,.s [],.v (.bool false),.v (.int .i64 0),.sl [] .full,.sl [] .full,.sl [] .full,.sl [] .full,.v (.int .i64 0)] 41))=H:=⟨_,rfl⟩;have hH:Ab.Sub g H:=by rw[←eH];exact(((Sub.refl g).put h2 _).put h3' _).put h4' _
 have g2:H i2=some (.obj [.v (.int .i64 s.tick),y1,y2,y3,y4,.s pid,.v (.bool pset),.v (.int .i64 palg),aU ptgt,.sl (prules.map aC) .no,.sl (pkids.map aM) .no,ay pobls,.v (.int .i64 s.version)] 41):=by rw[←eH,ag _ _ n42.symm,ag _ _ n32.symm,ah]
 have g3:H i3=some (.obj (opC o) 50):=by rw[←eH,ag _ _ n43.symm,ah]
 have g4:H i4=some (.obj [.v (.int .i64 0),.sl [] .full,.sl [] .full,.sl [] .full,.sl [] .full,.s [],.v (.bool false),.v (.int .i64 0),.sl [] .full,.sl [] .full,.sl [] .full,.sl [] .full,.v (.int .i64 0)] 41):=agZ;simp only[opC]at eH g3;rw[eH];clear eH;refine(hown H hH).mono fun r H1 ⟨hS,s1⟩=>?_
 obtain⟨z1,z2,z3,z4,er,hS1⟩:=id hS;subst er;rw[hpp,hcC]at hS⊢;obtain⟨hC,w2,w3,w4,a12,a13,a14,a23,a24,a34⟩:=hS1;obtain⟨xs,w1,hnx,hlo,hmy⟩:=id hC;simp only[go_sem,List.cons_append,List.nil_append];intro i5 h5;simp only[go_sem];have q2:=s1 _ _ g2;have q3:=s1 _ _ g3;have q4:=s1 _ _ g4;have n52:i2≠i5:=fun e=>by rw[←e,q2]at h5;cases h5
 have n53:i3≠i5:=fun e=>by rw[←e,q3]at h5;cases h5
 have n54:i4≠i5:=fun e=>by rw[←e,q4]at h5;cases h5
 obtain⟨K,eK⟩:∃K,upd H1 i5 (some (.obj [.v (.int .i64 s.tick),z1,z2,z3,z4,.s pid,.v (.bool pset),.v (.int .i64 palg),aU ptgt,.sl (prules.map aC) .no,.sl (pkids.map aM) .no,ay pobls,.v (.int .i64 s.version)] 41))=K:=⟨_,rfl⟩;have sK:Ab.Sub H1 K:=by rw[←eK];exact .aj h5
 have k5:K i5=some (.obj [.v (.int .i64 s.tick),z1,z2,z3,z4,.s pid,.v (.bool pset),.v (.int .i64 palg),aU ptgt,.sl (prules.map aC) .no,.sl (pkids.map aM) .no,ay pobls,.v (.int .i64 s.version)] 41):=by rw[←eK,ah]
 rw[eK];have hz5:∀k,H k=none→H1 k≠none→k≠i5:=fun k _ hk e=>hk (by rw[e];exact h5)
 have k2:=sK _ _ q2;have k3:=sK _ _ q3;have k4:=sK _ _ q4;clear eK;have sg:Ab.Sub g K:=hH.trans (s1.trans sK);simp only[go_sem,k2,k3];refine(hrdy K sg).pthen ?_;have g5:g i5=none:=(hH.trans s1).none h5;have kK:∀k,H1 k≠none→K k=H1 k:=fun k hk=>by
  cases e:H1 k with
  |none=>exact(hk e).elim
  |some b=>exact sK _ _ e
 have hz4:∀k,H k=none→k≠i4:=fun k hk e=>by rw[e,g4]at hk;cases hk
 by_cases p0:bL s o=0
 ·have d0:(bL s o !=0)=false:=by simp[p0]
  simp only[go_sem,d0];simp only[go_sem,k5,k3];have hSK:tX H K (.agg ([.v (.int .i64 s.tick),z1,z2,z3,z4]++gD s.policy++ [.v (.int .i64 s.version)])) s i0:=by rw[hpp,hcC];exact hS.keepb fun k _ hk=>kK k hk
  have hfi:=CY hSK.rd o.case hf.cases;rw[hpp,hcC]at hfi;simp only[List.cons_append,List.nil_append]at hfi;refine hfi.pthen ?_;simp only[go_sem,k3];have hform:dK o=true:=by
   cases e:dK o
   ·simp[bL,e]at p0
   ·rfl
  have hdone:dX aS s o=doD aS s o:=by simp[dX,p0]
  rw[hdone]
  by_cases p1:o.kind=1
  ·have k1:(o.kind==1)=true:=by simp[p1]
   simp only[go_sem,k1];simp only[go_sem,k3];intro i8 h8;have n82:i2≠i8:=fun e=>by rw[←e,k2]at h8;cases h8
   have n83:i3≠i8:=fun e=>by rw[←e,k3]at h8;cases h8
   have n84:i4≠i8:=fun e=>by rw[←e,k4]at h8;cases h8
   have n85:i5≠i8:=fun e=>by rw[←e,k5]at h8;cases h8
   simp only[go_sem];obtain⟨K2,eK2⟩:∃K2,upd K i8 (some (.obj [.s o.case,.s o.subj,.s [111,112,101,110],.sl [] .full,.sl [] .full] 120))=K2:=⟨_,rfl⟩;have sK2:Ab.Sub K K2:=by rw[←eK2];exact .aj h8
   have e8:K2 i8=some (.obj [.s o.case,.s o.subj,.s [111,112,101,110],.sl [] .full,.sl [] .full] 120):=by rw[←eK2,ah]
   rw[eK2];clear eK2;have m3:=sK2 _ _ k3;have m4:=sK2 _ _ k4;have m5:=sK2 _ _ k5;simp only[go_sem,m3,m5];have hha:=tq (h0:=H) (s:=s) z1 z2 z3 z4 (k:=i8) (o:=0) (A:=[]) (B:=[]) (t:=120) (c:=⟨o.case,o.subj,jY,[],[]⟩) (f:=.sl [] .full) (l:=.sl [] .full) rfl e8 afy (.inl ⟨rfl,rfl⟩) (s1.trans (sK.trans sK2)) (Nat.zero_le _) o.subj [110,101,119];rw[hpp,hcC]at hha;simp only[List.cons_append,List.nil_append]at hha;refine hha.mono fun r K3 ⟨l',ol,e8',fr3,ap3⟩=>?_
   have kK3:∀k,K2 k≠none→k≠i8→K3 k=K2 k:=fun k hk hk8=>fr3 k hk hk8 (by simp[nid])
   have m3' :K3 i3=_:=(kK3 i3 (by rw[m3];simp) n83).trans m3
   have m4' :K3 i4=_:=(kK3 i4 (by rw[m4];simp) n84).trans m4
   have m5' :K3 i5=_:=(kK3 i5 (by rw[m5];simp) n85).trans m5
   simp only[cp,List.append_nil]at e8';simp only[go_sem];simp only[go_sem,m5',e8'];have kk2:∀k,H1 k≠none→K2 k=H1 k:=fun k hk=>by
    have:=kK k hk;cases e:K k with
    |none=>rw[e]at this;exact(hk this.symm).elim
    |some b=>rw[sK2 _ _ e,←e,this]
   have k8:∀k,H1 k≠none→k≠i8:=fun k hk e=>hk (by have:=kK k hk;rw[e,h8]at this;rw[e];exact this.symm)
   have kk3:∀k,H1 k≠none→K3 k=H1 k:=fun k hk=>(kK3 k (by rw[kk2 k hk];exact hk) (k8 k hk)).trans (kk2 k hk)
   have sH3:Ab.Sub H1 K3:=fun k b hk=>by rw[kk3 k (by rw[hk];simp)];exact hk
   have hfl:findD s.cases o.case≤s.cases.length:=List.findIdx_le_length;have hfc:=hf.cases;refine(Hj z1 xs (.agg [.s o.case,.s o.subj,.s jY,.sl [] .full,l']) (findD s.cases o.case) H K3 (w1.keepb fun k _ hk=>kk3 k hk) (s1.trans sH3) afu afu rfl (by simp[Ab.fit])).mono fun r K4 ⟨ow5,fr4,ap4⟩=>?_
   have m4'' :K4 i4=_:=(fr4 i4 (by rw[m4'];simp) (fun e=>by have:=(w1.nid e).1;rw[g4]at this;cases this)).trans m4'
   have m5'' :K4 i5=_:=(fr4 i5 (by rw[m5'];simp) (fun e=>(w1.nid e).2.1 h5)).trans m5'
   simp only[go_sem,m5'',ow5.rd.fit,ow5.rd.cells];simp only[go_sem,ak,n54,m4''];have hi0:i0=s.cases.length:=by rw[←ei0,if_pos p1]
   have hxs:xs=s.cases.map cr:=List.ext_getElem (by simpa using hnx) fun j a b=>by rw[hlo j a afu afu,afk]
   have kk4:∀k,H1 k≠none→nid z1≠some k→K4 k=H1 k:=fun k hk hz=>(fr4 k (by rw[kk3 k hk];exact hk) hz).trans (kk3 k hk)
   obtain⟨K5,eK5⟩:∃K5,upd (upd K4 i5 (some (.obj [.v (.int .i64 s.tick),r,z2,z3,z4,.s pid,.v (.bool pset),.v (.int .i64 palg),aU ptgt,.sl (prules.map aC) .no,.sl (pkids.map aM) .no,ay pobls,.v (.int .i64 s.version)] 41))) i4 (some (.obj [.v (.int .i64 s.tick),r,z2,z3,z4,.s pid,.v (.bool pset),.v (.int .i64 palg),aU ptgt,.sl (prules.map aC) .no,.sl (pkids.map aM) .no,ay pobls,.v (.int .i64 s.version)] 41))=K5:=⟨_,rfl⟩;rw[eK5];have o5:∀k,k≠i4→k≠i5→K5 k=K4 k:=fun k a b=>by rw[←eK5,ag _ _ a,ag _ _ b]
   have kk5:∀k,H k=none→H1 k≠none→nid z1≠some k→K5 k=H1 k:=fun k a b c=>(o5 k (hz4 k a) (hz5 k a b)).trans (kk4 k b c)
   have ow:OwE 120 H K5 5 r (List.take (findD s.cases o.case) xs++([.agg [.s o.case,.s o.subj,.s jY,.sl [] .full,l']]++List.drop (findD s.cases o.case) xs)):=ow5.keep fun id e=>o5 id (hz4 id (ow5.nid e).1) fun e5=>by
    subst e5;rcases ap4 _ e with h|h
    ·rw[m5']at h;cases h
    ·exact(w1.nid h).2.1 h5
   have ol5:OwE 186 H K5 3 l' _:=ol.keep fun id e=>by
    have h2n:K2 id=none:=(ap3 id e).resolve_right (by simp[nid])
    have hz:nid z1≠some id:=fun e1=>by have:=kk2 id (w1.nid e1).2.1;rw[h2n]at this;exact(w1.nid e1).2.1 this.symm
    rw[o5 id (hz4 id (ol.nid e).1) (fun e5=>by rw[e5,m5]at h2n;cases h2n),fr4 id (ol.nid e).2.1 hz]
   have hmc:fH H K5 [] (.agg [.s o.case,.s o.subj,.s jY,.sl [] .full,l']) (jL s ⟨o.case,o.subj,jY,[],[]⟩ o.subj [110,101,119]):=⟨.sl [] .full,l',rfl,.inl ⟨rfl,rfl⟩,ol5,(fun i e=>afT),fun y hy=>by cases hy⟩
   have sg4:Ab.Sub g K4:=fun k b hk=>by
    have h1:=hH _ _ hk;have h2:=s1 _ _ h1;rw[kk4 k (by rw[h2];simp) (fun e=>by have:=(w1.nid e).1;rw[h1]at this;cases this)]
    exact ajE
   have sg5:Ab.Sub g K5:=by rw[←eK5];exact(sg4.put g5 _).put h4' _
   have hdo:doD aS s o= {s with cases:=s.cases.take (findD s.cases o.case)++ [jL s ⟨o.case,o.subj,jY,[],[]⟩ o.subj [110,101,119]]++s.cases.drop (findD s.cases o.case)}:=by simp[doD,p1]
   refine .mk _ (.refl _) (.refl _) ⟨sg5,_,?_,fun _=>rfl⟩
   rw[hdo];have apr:∀k,nid r=some k→H1 k=none∨nid z1=some k:=fun k e=>(ap4 k e).imp (fun h=>sH3.none h) id
   have hro:∀ {w:AV},apart z1 w→(∀k,nid w=some k→H1 k≠none)→apart r w:=fun ha hw k e1 e2=>(apr k e1).elim (fun h=>hw k e2 h) (fun h=>ha k h e2)
   have hl0:∀k,nid l' =some k→H1 k=none:=fun k e=>(sK.trans sK2).none ((ap3 k e).resolve_right (by simp[nid]))
   have hlr:apart l' r:=fun k e1 e2=>(ap4 k e2).elim (fun h=>(ol.nid e1).2.1 h) (fun h=>(w1.nid h).2.1 (hl0 k e1))
   rw[hxs,←List.map_take,←List.map_drop]at ow;refine qq rfl hpp rfl (Q9 ag5 (ow.bP (fun _ e=>hH.none e)) ⟨.sl [] .full,l',rfl,.inl ⟨rfl,rfl⟩,ol5.bP (fun _ e=>hH.none e),(fun i e=>afT),fun y hy=>⟨(fun i e=>afT),?_⟩⟩) ((w2.keep fun id e=>kk5 id (w2.nid e).1 (w2.nid e).2.1 fun e1=>a12 id e1 e).bP fun _ e=>hH.none e) ((w3.keep fun id e=>kk5 id (w3.nid e).1 (w3.nid e).2.1 fun e1=>a13 id e1 e).bP fun _ e=>hH.none e) ((w4.keep fun id e=>kk5 id (w4.nid e).1 (w4.nid e).2.1 fun e1=>a14 id e1 e).bP fun _ e=>hH.none e) ⟨hro a12 fun k e=>(w2.nid e).2.1,hro a13 fun k e=>(w3.nid e).2.1,hro a14 fun k e=>(w4.nid e).2.1,a23,a24,a34⟩
   simp only[List.mem_cons,List.not_mem_nil,or_false]at hy;rcases hy with rfl|rfl|rfl|rfl
   ·exact hlr
   ·exact fun k e1 e2=>(w2.nid e2).2.1 (hl0 k e1)
   ·exact fun k e1 e2=>(w3.nid e2).2.1 (hl0 k e1)
   ·exact fun k e1 e2=>(w4.nid e2).2.1 (hl0 k e1)
  have k1:(o.kind==1)=false:=by simp[p1]
  have hi0:i0=findD s.cases o.case:=by rw[←ei0,if_neg p1]
  simp only[go_sem,k1]
  by_cases p3:o.kind=3
  ·have k3' :(o.kind==3)=true:=by simp[p3]
   simp only[go_sem,k3'];have hth:=Aj p0 (.inl p3);have hlt:=j0 hth;obtain⟨j,ej⟩:∃j,findD s.cases o.case=j:=⟨_,rfl⟩;have hj:j<s.cases.length:=by rw[←ej];exact hlt
   have hjx:j<xs.length:=afu;rw[ej]at hi0;subst hi0;obtain⟨f,l,ex,of,ol,hap,hys⟩:=hmy hjx hj;obtain⟨id1,hg1,o1⟩:=w1.ow aip;have o1' :=o1;obtain⟨cap,rest,ey,hid,hrl,hcap,hsz⟩:=o1';have lA:i0*5=(au (xs.take i0)).length:=agC;have hidK:K id1=some (.obj (au (xs.take i0)++(cp s.cases[i0] f l++(au (xs.drop (i0+1))++rest))) 120):=by rw[sK _ _ hid,CZ hjx,ex];simp[cp,AV.cells]
   have n14:id1≠i4:=hz4 id1 hg1;have n13:id1≠i3:=fun e=>by rw[e,g3]at hg1;cases hg1
   have n15:id1≠i5:=fun e=>o1.none (by rw[e];exact h5)
   have nf4:∀k,nid f=some k→k≠i3∧k≠i4∧k≠i5∧k≠id1:=fun k e=>⟨(fun e' =>aij),hz4 k (of.nid e).1,hz5 k (of.nid e).1 (of.nid e).2.1,fun e' =>(hys z1 afB).1 k e aiZ⟩
   have nl4:∀k,nid l=some k→k≠i3∧k≠i4∧k≠i5∧k≠id1:=fun k e=>⟨(fun e' =>aik),hz4 k (ol.nid e).1,hz5 k (ol.nid e).1 (ol.nid e).2.1,fun e' =>(hys z1 afB).2 k e aiZ⟩
   have hff:=hf.fields _ (afo hj);have hfl:=hf.log _ (afo hj);rw[ej];refine .calls (pick K [i3,i5]) [0,1,2,3,4,5,6,7,8] bW afx rfl ?_;simp only[go_sem,bE (show i5∈ [i3,i5] by simp),k3,k5]
   refine(o1.sub sK).idx (U:=U) (e:=120) i0 rfl hjx oH afy ?_;simp only[go_sem,bE (show i3∈ [i3,i5] by simp),k3,k5]
   refine(show ai prog 105 [.ptr id1 (i0*5),.s o.field,.agg [.v (.int .i64 o.val.kind),.v (.int .i64 o.val.n),.s o.val.s]] K _ from Pt lA hidK afy (of.sub sK) (s1.trans sK) hff o.field o.val).mono fun r K3 ⟨f',of',e1',fr3,ap3⟩=>?_
   have kk3:∀k,H1 k≠none→k≠id1→nid f≠some k→K3 k=H1 k:=fun k a b c=>(fr3 k (by rw[kK k a];exact a) b c).trans (kK k a)
   have m3:K3 i3=_:=(fr3 i3 (by rw[k3];simp) n13.symm fun e=>(nf4 _ e).1 rfl).trans k3
   have m4:K3 i4=_:=(fr3 i4 (by rw[k4];simp) n14.symm fun e=>(nf4 _ e).2.1 rfl).trans k4
   have m5:K3 i5=_:=(fr3 i5 (by rw[k5];simp) n15.symm fun e=>(nf4 _ e).2.2.1 rfl).trans k5
   refine⟨jj fun k hk=>?_,?_⟩
   ·simp only[List.mem_cons,List.not_mem_nil,or_false]at hk
    rcases hk with rfl|rfl
    ·rw[m3,k3]
    ·rw[m5,k5]
   simp only[go_sem];have sH3:Ab.Sub H K3:=fun k b hk=>agf
   have ol3:OwE 186 H K3 3 l (s.cases[i0].log.map gC):=ol.keep fun k e=>kk3 k (ol.nid e).2.1 (nl4 k e).2.2.2 (fun e1=>hap k e1 e)
   have hX5:∀y1 y2:AV,Sized 5 (xs.set i0 (.agg (cp s.cases[i0] y1 y2))):=fun y1 y2 z hz=>by exact akv
   have mkO:∀ {G:Heap} {y1 y2:AV},G id1=some (.obj (au (xs.take i0)++(cp s.cases[i0] y1 y2++(au (xs.drop (i0+1))++rest))) 120)→Ow 120 G 5 id1 z1 (xs.set i0 (.agg (cp s.cases[i0] y1 y2))):=fun {G y1 y2} hG=>⟨cap,rest,ahM,by rw[hG,ur hjx];simp[AV.cells],aiF,ahF,hX5 _ _⟩
   have hjs:∀x:AV,i0<(xs.set i0 x).length:=fun x=>by rw[List.length_set];exact hjx
   refine .calls (pick K3 [i3,i5]) [0,1,2,3,4,5,6,7] bW afx rfl ?_;simp only[go_sem,bE (show i5∈ [i3,i5] by simp),m3,m5]
   refine(mkO e1').idx (U:=U) (e:=120) i0 rfl (hjs _) oH afy ?_;simp only[go_sem,bE (show i3∈ [i3,i5] by simp),m3,m5]
   have hha:=tq (h0:=H) (h:=K3) (s:=s) z1 z2 z3 z4 (k:=id1) (c:=s.cases[i0]) (f:=f') (l:=l) lA e1' afy ol3 sH3 hfl o.subj [119,114,105,116,101];rw[hpp,hcC]at hha;simp only[List.cons_append,List.nil_append]at hha;refine hha.mono fun r K4 ⟨l',ol',e1'',fr4,ap4⟩=>?_
   have m3' :K4 i3=_:=(fr4 i3 (by rw[m3];simp) n13.symm fun e=>(nl4 _ e).1 rfl).trans m3
   have m4' :K4 i4=_:=(fr4 i4 (by rw[m4];simp) n14.symm fun e=>(nl4 _ e).2.1 rfl).trans m4
   have m5' :K4 i5=_:=(fr4 i5 (by rw[m5];simp) n15.symm fun e=>(nl4 _ e).2.2.1 rfl).trans m5
   refine⟨jj fun k hk=>?_,?_⟩
   ·simp only[List.mem_cons,List.not_mem_nil,or_false]at hk
    rcases hk with rfl|rfl
    ·rw[m3',m3]
    ·rw[m5',m5]
   simp only[go_sem];simp only[go_sem,m5',m4'];obtain⟨K5,eK5⟩:∃K5,upd K4 i4 (some (.obj [.v (.int .i64 s.tick),z1,z2,z3,z4,.s pid,.v (.bool pset),.v (.int .i64 palg),aU ptgt,.sl (prules.map aC) .no,.sl (pkids.map aM) .no,ay pobls,.v (.int .i64 s.version)] 41))=K5:=⟨_,rfl⟩;rw[eK5];have o5:∀k,k≠i4→K5 k=K4 k:=fun k a=>by rw[←eK5,ag _ _ a]
   have kk5:∀k,H k=none→H1 k≠none→k≠id1→nid f≠some k→nid l≠some k→K5 k=H1 k:=fun k a b c d e=>by exact alG
   have of5:OwE 196 H K5 4 f' _:=of'.keep fun id e=>by exact aj8
   have ol5:OwE 186 H K5 3 l' _:=ol'.keep fun id e=>o5 id (hz4 id (ol'.nid e).1)
   have sg4:Ab.Sub g K4:=fun k b hk=>by exact akF
   have sg5:Ab.Sub g K5:=by rw[←eK5];exact sg4.put h4' _
   have n1' :nid z1=some id1:=o1.nid;have hdo:doD aS s o= {s with cases:=s.cases.modify i0 fun c=>jL s {c with fields:=eR c.fields o.field o.val} o.subj [119,114,105,116,101]}:=by simp[doD,p3,ej]
   refine .mk _ (.refl _) (.refl _) ⟨sg5,_,?_,fun _=>rfl⟩
   rw[hdo];have thr:∀w∈ [z1,z2,z3,z4],∀k,nid w=some k→H1 k≠none:=fun w hw k e=>by exact akC
   refine qq rfl hpp rfl ?_ ((w2.keep fun id e=>kk5 id (w2.nid e).1 (w2.nid e).2.1 (fun e1=>a12 id1 n1' aif) (fun e1=>(hys z2 afB).1 id e1 e) (fun e1=>(hys z2 afB).2 id e1 e)).bP fun _ e=>hH.none e) ((w3.keep fun id e=>kk5 id (w3.nid e).1 (w3.nid e).2.1 (fun e1=>a13 id1 n1' aif) (fun e1=>(hys z3 afB).1 id e1 e) (fun e1=>(hys z3 afB).2 id e1 e)).bP fun _ e=>hH.none e) ((w4.keep fun id e=>kk5 id (w4.nid e).1 (w4.nid e).2.1 (fun e1=>a14 id1 n1' aif) (fun e1=>(hys z4 afB).1 id e1 e) (fun e1=>(hys z4 afB).2 id e1 e)).bP fun _ e=>hH.none e) ⟨a12,a13,a14,a23,a24,a34⟩
   refine Dl (X:=.agg (cp s.cases[i0] f' l')) ((show OwE 120 H K5 5 z1 _ from .inr ⟨id1,hg1,mkO ((o5 id1 n14).trans e1'')⟩).bP (fun _ e=>hH.none e)) hnx (fun k h1 h2 hk=>hlo k h1 h2 hk) fun hh=>⟨f',l',rfl,of5.bP (fun _ e=>hH.none e),ol5.bP (fun _ e=>hH.none e),fun k e1 e2=>?_,fun w hw=>⟨fun k e1 e2=>?_,fun k e1 e2=>?_⟩⟩
   ·rcases ap4 k e2 with h|h
    ·exact(of'.nid e1).2.1 h
    ·rcases ap3 k e1 with h' |h'
     ·exact(ol.nid h).2.1 (sK.none h')
     ·exact hap k h' h
   ·rcases ap3 k e1 with h|h
    ·exact thr w hw k e2 (sK.none h)
    ·exact(hys w hw).1 k h e2
   ·rcases ap4 k e1 with h|h
    ·by_cases h1:k=id1
     ·subst h1;rw[e1']at h;cases h
     ·have:=kk3 k (thr w hw k e2) h1 (fun e=>(hys w hw).1 k e e2)
      rw[h]at this;exact thr w hw k e2 this.symm
    ·exact(hys w hw).2 k h e2
  have k3' :(o.kind==3)=false:=by simp[p3]
  simp only[go_sem,k3']
  by_cases p4:o.kind=4
  ·have k4' :(o.kind==4)=true:=by simp[p4]
   simp only[go_sem,k4'];have hth:=Aj p0 (.inr p4);have hlt:=j0 hth;obtain⟨j,ej⟩:∃j,findD s.cases o.case=j:=⟨_,rfl⟩;have hj:j<s.cases.length:=by rw[←ej];exact hlt
   have hjx:j<xs.length:=afu;rw[ej]at hi0;subst hi0;obtain⟨f,l,ex,of,ol,hap,hys⟩:=hmy hjx hj;obtain⟨id1,hg1,o1⟩:=w1.ow aip;have o1' :=o1;obtain⟨cap,rest,ey,hid,hrl,hcap,hsz⟩:=o1';have lA:i0*5=(au (xs.take i0)).length:=agC;have hidK:K id1=some (.obj (au (xs.take i0)++(cp s.cases[i0] f l++(au (xs.drop (i0+1))++rest))) 120):=by rw[sK _ _ hid,CZ hjx,ex];simp[cp,AV.cells]
   have n14:id1≠i4:=hz4 id1 hg1;have n13:id1≠i3:=fun e=>by rw[e,g3]at hg1;cases hg1
   have n15:id1≠i5:=fun e=>o1.none (by rw[e];exact h5)
   have nf4:∀k,nid f=some k→k≠i3∧k≠i4∧k≠i5∧k≠id1:=fun k e=>⟨(fun e' =>aij),hz4 k (of.nid e).1,hz5 k (of.nid e).1 (of.nid e).2.1,fun e' =>(hys z1 afB).1 k e aiZ⟩
   have nl4:∀k,nid l=some k→k≠i3∧k≠i4∧k≠i5∧k≠id1:=fun k e=>⟨(fun e' =>aik),hz4 k (ol.nid e).1,hz5 k (ol.nid e).1 (ol.nid e).2.1,fun e' =>(hys z1 afB).2 k e aiZ⟩
   have hff:=hf.fields _ (afo hj);have hfl:=hf.log _ (afo hj);rw[ej];simp only[go_sem,k5,k3];refine(o1.sub sK).idx (U:=U) (e:=120) i0 rfl hjx oH afy ?_;simp only[go_sem,hidK];have e2:List.take (i0*5+2) (au (xs.take i0)++(cp s.cases[i0] f l++(au (xs.drop (i0+1))++rest)))++ [.s o.to]++List.drop (i0*5+2+1) (au (xs.take i0)++(cp s.cases[i0] f l++(au (xs.drop (i0+1))++rest)))=au (xs.take i0)++(cp {s.cases[i0]with state:=o.to} f l++(au (xs.drop (i0+1))++rest)):=by
    have:=qi (A:=au (xs.take i0)++ [.s s.cases[i0].id,.s s.cases[i0].owner]) (B:=[.s s.cases[i0].state]) (C:=f::l::(au (xs.drop (i0+1))++rest)) (X:=[.s o.to]) (k:=i0*5+2) (m:=1) (by rw[lA];simp) rfl rfl
    exact alB
   rw[e2];obtain⟨K3,eK3⟩:∃K3,upd K id1 (some (.obj (au (xs.take i0)++(cp {s.cases[i0]with state:=o.to} f l++(au (xs.drop (i0+1))++rest))) 120))=K3:=⟨_,rfl⟩
   rw[eK3];refine⟨by simp only[afn,←lA,cp,List.length_cons,List.length_nil];omega,?_⟩
   have e1' :K3 id1=some (.obj (au (xs.take i0)++(cp {s.cases[i0]with state:=o.to} f l++(au (xs.drop (i0+1))++rest))) 120):=by rw[←eK3,ah]
   have fr3:∀k,K k≠none→k≠id1→nid f≠some k→K3 k=K k:=fun k _ hk _=>by rw[←eK3,ag _ _ hk]
   have ap3:∀k,nid f=some k→K k=none∨nid f=some k:=fun k hk=> .inr hk
   have kk3:∀k,H1 k≠none→k≠id1→nid f≠some k→K3 k=H1 k:=fun k a b c=>(fr3 k (by rw[kK k a];exact a) b c).trans (kK k a)
   have m3:K3 i3=_:=(fr3 i3 (by rw[k3];simp) n13.symm fun e=>(nf4 _ e).1 rfl).trans k3
   have m4:K3 i4=_:=(fr3 i4 (by rw[k4];simp) n14.symm fun e=>(nf4 _ e).2.1 rfl).trans k4
   have m5:K3 i5=_:=(fr3 i5 (by rw[k5];simp) n15.symm fun e=>(nf4 _ e).2.2.1 rfl).trans k5
   obtain⟨f',of',ef'⟩:∃f',OwE 196 H K3 4 f' (s.cases[i0].fields.map bA)∧f=f' :=⟨f,of.keep fun k e=>by rw[←eK3,ag _ _ (nf4 k e).2.2.2,kK k (of.nid e).2.1],rfl⟩
   rw[ef']at e1';replace ap3:∀k,nid f' =some k→K k=none∨nid f=some k:=by rw[←ef'];exact ap3
   have sH3:Ab.Sub H K3:=fun k b hk=>agf
   have ol3:OwE 186 H K3 3 l (s.cases[i0].log.map gC):=ol.keep fun k e=>kk3 k (ol.nid e).2.1 (nl4 k e).2.2.2 (fun e1=>hap k e1 e)
   have hX5:∀y1 y2:AV,Sized 5 (xs.set i0 (.agg (cp ({s.cases[i0]with state:=o.to}:aL) y1 y2))):=fun y1 y2 z hz=>by exact akv
   have mkO:∀ {G:Heap} {y1 y2:AV},G id1=some (.obj (au (xs.take i0)++(cp ({s.cases[i0]with state:=o.to}:aL) y1 y2++(au (xs.drop (i0+1))++rest))) 120)→Ow 120 G 5 id1 z1 (xs.set i0 (.agg (cp ({s.cases[i0]with state:=o.to}:aL) y1 y2))):=fun {G y1 y2} hG=>⟨cap,rest,ahM,by rw[hG,ur hjx];simp[AV.cells],aiF,ahF,hX5 _ _⟩
   have hjs:∀x:AV,i0<(xs.set i0 x).length:=fun x=>by rw[List.length_set];exact hjx
   refine .calls (pick K3 [i3,i5]) [0,1,2,3,4,5,6,7,8,9] bW afx rfl ?_;simp only[go_sem,bE (show i5∈ [i3,i5] by simp),m3,m5]
   refine(mkO e1').idx (U:=U) (e:=120) i0 rfl (hjs _) oH afy ?_;simp only[go_sem,bE (show i3∈ [i3,i5] by simp),m3,m5]
   have hha:=tq (h0:=H) (h:=K3) (s:=s) z1 z2 z3 z4 (k:=id1) (c:=({s.cases[i0]with state:=o.to}:aL)) (f:=f') (l:=l) lA e1' afy ol3 sH3 hfl o.subj o.to
   rw[hpp,hcC]at hha;simp only[List.cons_append,List.nil_append]at hha;refine hha.mono fun r K4 ⟨l',ol',e1'',fr4,ap4⟩=>?_
   have m3' :K4 i3=_:=(fr4 i3 (by rw[m3];simp) n13.symm fun e=>(nl4 _ e).1 rfl).trans m3
   have m4' :K4 i4=_:=(fr4 i4 (by rw[m4];simp) n14.symm fun e=>(nl4 _ e).2.1 rfl).trans m4
   have m5' :K4 i5=_:=(fr4 i5 (by rw[m5];simp) n15.symm fun e=>(nl4 _ e).2.2.1 rfl).trans m5
   refine⟨jj fun k hk=>?_,?_⟩
   ·simp only[List.mem_cons,List.not_mem_nil,or_false]at hk
    rcases hk with rfl|rfl
    ·rw[m3',m3]
    ·rw[m5',m5]
   simp only[go_sem];simp only[go_sem,m5',m4'];obtain⟨K5,eK5⟩:∃K5,upd K4 i4 (some (.obj [.v (.int .i64 s.tick),z1,z2,z3,z4,.s pid,.v (.bool pset),.v (.int .i64 palg),aU ptgt,.sl (prules.map aC) .no,.sl (pkids.map aM) .no,ay pobls,.v (.int .i64 s.version)] 41))=K5:=⟨_,rfl⟩;rw[eK5];have o5:∀k,k≠i4→K5 k=K4 k:=fun k a=>by rw[←eK5,ag _ _ a]
   have kk5:∀k,H k=none→H1 k≠none→k≠id1→nid f≠some k→nid l≠some k→K5 k=H1 k:=fun k a b c d e=>by exact alG
   have of5:OwE 196 H K5 4 f' _:=of'.keep fun id e=>by exact aj8
   have ol5:OwE 186 H K5 3 l' _:=ol'.keep fun id e=>o5 id (hz4 id (ol'.nid e).1)
   have sg4:Ab.Sub g K4:=fun k b hk=>by exact akF
   have sg5:Ab.Sub g K5:=by rw[←eK5];exact sg4.put h4' _
   have n1' :nid z1=some id1:=o1.nid;have hdo:doD aS s o= {s with cases:=s.cases.modify i0 fun c=>jL s {c with state:=o.to} o.subj o.to}:=by simp[doD,p4,ej]
   refine .mk _ (.refl _) (.refl _) ⟨sg5,_,?_,fun _=>rfl⟩
   rw[hdo];have thr:∀w∈ [z1,z2,z3,z4],∀k,nid w=some k→H1 k≠none:=fun w hw k e=>by exact akC
   refine qq rfl hpp rfl ?_ ((w2.keep fun id e=>kk5 id (w2.nid e).1 (w2.nid e).2.1 (fun e1=>a12 id1 n1' aif) (fun e1=>(hys z2 afB).1 id e1 e) (fun e1=>(hys z2 afB).2 id e1 e)).bP fun _ e=>hH.none e) ((w3.keep fun id e=>kk5 id (w3.nid e).1 (w3.nid e).2.1 (fun e1=>a13 id1 n1' aif) (fun e1=>(hys z3 afB).1 id e1 e) (fun e1=>(hys z3 afB).2 id e1 e)).bP fun _ e=>hH.none e) ((w4.keep fun id e=>kk5 id (w4.nid e).1 (w4.nid e).2.1 (fun e1=>a14 id1 n1' aif) (fun e1=>(hys z4 afB).1 id e1 e) (fun e1=>(hys z4 afB).2 id e1 e)).bP fun _ e=>hH.none e) ⟨a12,a13,a14,a23,a24,a34⟩
   refine Dl (X:=.agg (cp ({s.cases[i0]with state:=o.to}:aL) f' l')) ((show OwE 120 H K5 5 z1 _ from .inr ⟨id1,hg1,mkO ((o5 id1 n14).trans e1'')⟩).bP (fun _ e=>hH.none e)) hnx (fun k h1 h2 hk=>hlo k h1 h2 hk) fun hh=>⟨f',l',rfl,of5.bP (fun _ e=>hH.none e),ol5.bP (fun _ e=>hH.none e),fun k e1 e2=>?_,fun w hw=>⟨fun k e1 e2=>?_,fun k e1 e2=>?_⟩⟩
   ·rcases ap4 k e2 with h|h
    ·exact(of'.nid e1).2.1 h
    ·rcases ap3 k e1 with h' |h'
     ·exact(ol.nid h).2.1 (sK.none h')
     ·exact hap k h' h
   ·rcases ap3 k e1 with h|h
    ·exact thr w hw k e2 (sK.none h)
    ·exact(hys w hw).1 k h e2
   ·rcases ap4 k e1 with h|h
    ·by_cases h1:k=id1
     ·subst h1;rw[e1']at h;cases h
     ·have:=kk3 k (thr w hw k e2) h1 (fun e=>(hys w hw).1 k e e2)
      rw[h]at this;exact thr w hw k e2 this.symm
    ·exact(hys w hw).2 k h e2
  have k4' :(o.kind==4)=false:=by simp[p4]
  simp only[go_sem,k4'];have kkK:∀k,H k=none→H1 k≠none→K k=H1 k:=fun k _ b=>kK k b
  by_cases p5:o.kind=5
  ·have k5' :(o.kind==5)=true:=by simp[p5]
   simp only[go_sem,k5'];have hrv:0<o.review:=by simp only[dK,ew,Bool.and_eq_true]at hform;simpa[okD,p5]using hform.2.1.2
   obtain⟨n,en⟩:∃n:Nat,o.review=((n:Nat):Int)+1:=⟨(o.review - 1).toNat,afu⟩;have w5:IntKind.i64.wrap (o.review - 1)=((n:Nat):Int):=by rw[aW _ (by have:=hr.2;omega)];omega
   have hn5:n<s.reviews.length:=by
    have:fC s o=0:=by simpa[bL,hform,p5]using p0
    unfold fC at this;have e1:xA s.reviews o.review=s.reviews[n]? :=by unfold xA;rw[if_pos afu,show(o.review - 1).toNat=n by omega]
    rw[e1]at this
    by_cases hlt:n<s.reviews.length
    ·exact hlt
    ·rw[List.getElem?_eq_none afu]at this;cases this
   have hnm:n<(s.reviews.map gH).length:=by simpa using hn5
   obtain⟨id2,hg2,o2⟩:=w2.ow (by intro e;rw[e]at hnm;cases hnm)
   have o2' :=o2;obtain⟨cap,rest,ey,hid,hrl,hcap,hsz⟩:=o2';have n24:id2≠i4:=hz4 id2 hg2;have n25:id2≠i5:=hz5 id2 hg2 o2.none;have hidK:=sK _ _ hid;simp only[go_sem,k5,k3,w5];refine(o2.sub sK).idx (U:=U) (e:=134) n rfl hnm afF afy ?_;simp only[go_sem,hidK];have e2:List.take (n*7+6) (au (s.reviews.map gH)++rest)++ [.v (.bool false)]++List.drop (n*7+6+1) (au (s.reviews.map gH)++rest)=au ((s.reviews.modify n fun r=> {r with isOpen:=false}).map gH)++rest:=by
    refine(kP hsz n hnm 6 [.v (.bool false)] (afi rfl)).trans ?_
    congr 2
    refine List.ext_getElem afB fun j h1 h2=>?_
    by_cases e:j=n
    ·subst e;simp[gH,AV.cells,Ab.over]
    ·rw[List.getElem_set_ne (Ne.symm e)];simp[Ne.symm e]
   rw[e2];refine⟨by rw[afn,aY hsz];omega,?_⟩
   have k5b:∀b,upd K id2 b i5=_:=fun b=>(ag _ _ n25.symm).trans k5
   have k4b:∀b,upd K id2 b i4=_:=fun b=>(ag _ _ n24.symm).trans k4
   simp only[go_sem,k5b,k4b];have hdo:doD aS s o= {s with reviews:=s.reviews.modify n fun r=> {r with isOpen:=false}}:=by simp[doD,p5,en]
   have kz:∀a b k,H k=none→H1 k≠none→nid z2≠some k→upd (upd K id2 a) i4 b k=H1 k:=fun a b k c d e=>by rw[ag _ _ (hz4 k c),ag _ _ (fun e' =>e (by rw[e'];exact o2.nid)),kK k d]
   refine .mk _ (.refl _) (.refl _) ⟨(Sub.put (i:=id2) sg (hH.none hg2) _).put h4' _,_,?_,fun _=>hi0⟩
   rw[hdo];exact qq rfl hpp rfl ((hC.keepx (z:=z2) afB a12 (kz _ _)).bP (fun _ e=>hH.none e)) (.inr ⟨id2,hH.none hg2,cap,rest,by rw[ey];simp,by rw[ag _ _ n24,ah],by rw[hrl];simp,by simpa using hcap,bx (f:=gH) (n:=7) (fun _=>rfl) _⟩) ((w3.keep fun id e=>kz _ _ id (w3.nid e).1 (w3.nid e).2.1 fun e1=>a23 id e1 e).bP fun _ e=>hH.none e) ((w4.keep fun id e=>kz _ _ id (w4.nid e).1 (w4.nid e).2.1 fun e1=>a24 id e1 e).bP fun _ e=>hH.none e) ⟨a12,a13,a14,a23,a24,a34⟩
  have k5' :(o.kind==5)=false:=by simp[p5]
  simp only[go_sem,k5']
  by_cases p6:o.kind=6
  ·have k6' :(o.kind==6)=true:=by simp[p6]
   simp only[go_sem,k6'];simp only[go_sem,k5,k3];have hha6:=Hg hSK.rd o.case o.field (Nat.le_trans hf.roles afy);rw[hpp,hcC]at hha6;simp only[List.cons_append,List.nil_append]at hha6;refine hha6.pthen ?_;cases dha:zn s.roles ⟨o.case,o.field⟩
   ·simp only[go_sem]
    simp only[go_sem,k5,k3];have hap1:Rd K 2 (.sl [dF ⟨o.case,o.field⟩] .full) [dF ⟨o.case,o.field⟩]:=.sl age .full;have hfr:=hf.roles;refine OwE.app (U:=U) (tb:=140) (w4.sub sK) (s1.trans sK) hap1 afF afy afz afF afB af4 fun id4 y' K3 g4' hor hw ho2=>?_
    have hor' :K id4=none∨nid z4=some id4:=by exact akn
    have n44:i4≠id4:=fun e=>by rw[←e,g4]at g4';cases g4'
    have n45:i5≠id4:=fun e=>by
     rcases hor' with hor|hor
     ·rw[←e,k5]at hor;cases hor
     ·exact(w4.nid hor).2.1 (by rw[←e];exact h5)
    have m4:K3 i4=_:=(ho2 i4 n44).trans k4;have m5:K3 i5=_:=(ho2 i5 n45).trans k5;simp only[go_sem,m5,hw.rd.fit,hw.rd.cells];simp only[go_sem,ak,n54,m4];have hdo:doD aS s o= {s with roles:=s.roles++ [⟨o.case,o.field⟩]}:=by simp[doD,p6,dha]
    have gid4:g id4=none:=hH.none g4';have kz:∀a b k,H k=none→H1 k≠none→nid z4≠some k→upd (upd K3 i5 a) i4 b k=H1 k:=fun a b k c d e=>by
     have:k≠id4:=fun e' =>by
      rcases hor' with hor|hor
      ·have:=kK k d;rw[e',hor]at this;exact d (by rw[e'];exact this.symm)
      ·exact e (by rw[e'];exact hor)
     rw[ag _ _ (hz4 k c),ag _ _ (hz5 k c d),ho2 k this,kK k d]
    have sg3:Ab.Sub g K3:=fun k b hk=>by rw[ho2 k (fun e=>by rw[e,gid4]at hk;cases hk)];exact sg _ _ hk
    refine .mk _ (.refl _) (.refl _) ⟨(sg3.put g5 _).put h4' _,_,?_,fun _=>hi0⟩
    rw[hdo];have hw' :OwE 140 g K3 2 y' ((s.roles++ [(⟨o.case,o.field⟩:gL)]).map dF):=by rw[List.map_append];exact .inr ⟨id4,gid4,hw⟩
    have hry:∀k,nid y' =some k→H1 k=none∨nid z4=some k:=fun k e=>by
     have:id4=k:=by have:=hw.nid;rw[e]at this;exact(Option.some.inj this).symm
     subst this;exact hor'.imp (fun h=>sK.none h) id
    have har:∀ {w:AV},apart w z4→(∀k,nid w=some k→H1 k≠none)→apart w y' :=fun ha hh k e1 e2=>(hry k e2).elim (fun h=>hh k e1 h) (fun h=>ha k e1 h)
    refine qq rfl hpp rfl ((hC.move (z:=z4) afB a14 (kz _ _) fun w hw k e=>?_).bP (fun _ e=>hH.none e)) ((w2.keep fun id e=>kz _ _ id (w2.nid e).1 (w2.nid e).2.1 fun e1=>a24 id e e1).bP fun _ e=>hH.none e) ((w3.keep fun id e=>kz _ _ id (w3.nid e).1 (w3.nid e).2.1 fun e1=>a34 id e e1).bP fun _ e=>hH.none e) (hw'.keep fun id e=>?_) ⟨a12,a13,har a14 fun k e=>(w1.nid e).2.1,a23,har a24 fun k e=>(w2.nid e).2.1,har a34 fun k e=>(w3.nid e).2.1⟩
    ·simp only[List.mem_cons,List.not_mem_nil,or_false]at hw
     rcases hw with rfl|rfl|rfl|rfl
     ·exact .inr ⟨w,afB,e⟩
     ·exact .inr ⟨w,afB,e⟩
     ·exact .inr ⟨w,afB,e⟩
     ·exact(hry k e).imp id fun h=>⟨z4,afB,h⟩
    ·have:id=id4:=by have:=hw.nid;rw[e]at this;exact Option.some.inj this
     rw[this,ag _ _ n44.symm,ag _ _ n45.symm]
   ·simp only[go_sem]
    simp only[go_sem,k5,k4];have hdo:doD aS s o=s:=by simp[doD,p6,dha]
    rw[hdo];refine .mk _ (.refl _) (.refl _) ⟨sg.put h4' _,_,(hS.keepb fun k hk hk1=>?_).bP fun _ e=>hH.none e,fun _=>hi0⟩
    rw[ag _ _ (hz4 k hk),kK k hk1]
  have k6' :(o.kind==6)=false:=by simp[p6]
  simp only[go_sem,k6']
  by_cases p7:o.kind=7
  ·have k7' :(o.kind==7)=true:=by simp[p7]
   simp only[go_sem,k7'];simp only[go_sem,k3];refine(zX o.text _ (he.sub sg)).pthen ?_;obtain⟨⟨pp,e,a⟩,epp⟩:∃x,aS o.text=x:=⟨_,rfl⟩;obtain⟨qid,qset,qalg,qtgt,qrules,qkids,qobls⟩:=pp;rw[epp];simp only[go_sem,kO,aM,aR];intro i9 h9;have n95:i5≠i9:=fun e=>by rw[←e,k5]at h9;cases h9
   have n94:i4≠i9:=fun e=>by rw[←e,k4]at h9;cases h9
   simp only[go_sem];have g9:g i9=none:=sg.none h9;have sg9:∀b,Ab.Sub g (upd K i9 b):=fun b=>sg.put g9 b
   have hz9:∀k,H1 k≠none→k≠i9:=fun k hk e=>hk (by have:=kK k hk;rw[e,h9]at this;rw[e];exact this.symm)
   by_cases pe:e=0
   ·have de:(e==0)=true:=by simp[pe]
    have wv:IntKind.i64.wrap (s.version+1)=s.version+1:=aW _ afu;simp only[go_sem,de];simp only[go_sem,ak,n95,n94,n54,k5,k4,wv];have hdo:doD aS s o= {s with policy:=.mk qid qset qalg qtgt qrules qkids qobls,version:=s.version+1}:=by simp[doD,p7,epp,pe]
    have kz:∀a b c k,H k=none→H1 k≠none→upd (upd (upd K i9 a) i5 b) i4 c k=H1 k:=fun a b c k d e=>by rw[ag _ _ (hz4 k d),ag _ _ (hz5 k d e),ag _ _ (hz9 k e),kK k e]
    refine .mk _ (.refl _) (.refl _) ⟨((sg9 _).put g5 _).put h4' _,_,?_,fun _=>hi0⟩
    rw[hdo];exact qq rfl rfl rfl ((hC.keepb (kz _ _ _)).bP (fun _ e=>hH.none e)) ((w2.keepb (kz _ _ _)).bP (fun _ e=>hH.none e)) ((w3.keepb (kz _ _ _)).bP (fun _ e=>hH.none e)) ((w4.keepb (kz _ _ _)).bP (fun _ e=>hH.none e)) ⟨a12,a13,a14,a23,a24,a34⟩
   ·have de:(e==0)=false:=by simp[pe]
    simp only[go_sem,de];simp only[go_sem,ak,n95,n94,k5,k4];have hdo:doD aS s o=s:=by simp[doD,p7,epp,pe]
    rw[hdo];refine .mk _ (.refl _) (.refl _) ⟨(sg9 _).put h4' _,_,(hS.keepb fun k hk hk1=>?_).bP fun _ e=>hH.none e,fun _=>hi0⟩
    rw[ag _ _ (hz4 k hk),ag _ _ (hz9 k hk1),kK k hk1]
  have k7' :(o.kind==7)=false:=by simp[p7]
  simp only[go_sem,k7']
  by_cases p8:o.kind=8
  ·have k8' :(o.kind==8)=true:=by simp[p8]
   simp only[go_sem,k8'];have hrv:0<o.review∧o.review≤1099511627776:=by simp only[dK,ew,Bool.and_eq_true]at hform;simpa[okD,p8]using hform.2.1.2
   have htk:¬s.tick>1099511627776 - o.review:=by intro hgt;simp[bL,hform,p8,hgt]at p0
   have w8:IntKind.i64.wrap (s.tick+o.review)=s.tick+o.review:=aW _ (by have:=ht.1;omega)
   simp only[go_sem,k5,k3,w8];simp only[go_sem,ak,n54,k4];have hdo:doD aS s o= {s with tick:=s.tick+o.review}:=by simp[doD,p8]
   have kz:∀a b k,H k=none→H1 k≠none→upd (upd K i5 a) i4 b k=H1 k:=fun a b k c d=>by rw[ag _ _ (hz4 k c),ag _ _ (hz5 k c d),kK k d]
   refine .mk _ (.refl _) (.refl _) ⟨(sg.put g5 _).put h4' _,_,?_,fun _=>hi0⟩
   rw[hdo];exact qq rfl hpp rfl ((hC.keepb (kz _ _)).bP (fun _ e=>hH.none e)) ((w2.keepb (kz _ _)).bP (fun _ e=>hH.none e)) ((w3.keepb (kz _ _)).bP (fun _ e=>hH.none e)) ((w4.keepb (kz _ _)).bP (fun _ e=>hH.none e)) ⟨a12,a13,a14,a23,a24,a34⟩
  have k8' :(o.kind==8)=false:=by simp[p8]
  simp only[go_sem,k8'];simp only[go_sem,k5,k4];have hdo:doD aS s o=s:=by simp[doD,p1,p3,p4,p5,p6,p7,p8]
  rw[hdo];refine .mk _ (.refl _) (.refl _) ⟨sg.put h4' _,_,(hS.keepb fun k hk hk1=>?_).bP fun _ e=>hH.none e,fun _=>hi0⟩
  rw[ag _ _ (hz4 k hk),kK k hk1]
 ·have d0:(bL s o !=0)=true:=by simp[p0]
  simp only[go_sem,d0];simp only[go_sem,k5,k4];have hdone:dX aS s o=s:=by simp[dX,p0]
  rw[hdone];refine .mk _ (.refl _) (.refl _) ⟨sg.put h4' _,_,(hS.keepb fun k hk hk1=>?_).bP fun _ e=>hH.none e,fun h=>(p0 h).elim⟩
  rw[ag _ _ (hz4 k hk),kK k hk1]
end Go.Proofs.YtelkmnkejghkeaaGreatDoor
namespace Go.Bf
def NV:Txt:=[112,111,108,105,99,121,32,111,112,101,110,32,112,101,114,109,105,116,117,110,108,101,115,115,32,123,32,125]
def mD:bC:=.mk jY false 6 [] [] [] []
def xX:an:=⟨0,[],[],[],[],mD,0⟩
end Go.Bf
namespace Go.Proofs.YtelkmnkejghkeaaGreatDoor
open Go Go.Ab Go.Bf Tryz
variable {g K H h G:Heap}{S s:an}{pid subj:Txt}{x:AV}{ys:List AV}{gs:List bt}{l:List gL}
theorem Qq{y1 y2 y3 y4:AV}{tk ver palg:Int}{pset:Bool}{ptgt:gu}{prules:List cR}{pkids:List bC}{pobls:List cE}(h1:S.tick=tk)(h2:S.policy= .mk pid pset palg ptgt prules pkids pobls)(h3:S.version=ver)
  (a:Frz g K y1 (fT S.cases)) (b:Frz g K y2 (jZ S.reviews)) (c:Frz g K y3 (kM S.notices)) (d:Frz g K y4 (eu S.roles)):
  Frz g K (.agg [.i tk,y1,y2,y3,y4,.s pid,.b pset,.i palg,aU ptgt,.sl (prules.map aC) .no,.sl (pkids.map aM) .no,ay pobls,.i ver]) (bQ S):=by
 have:=vJ a b c d;rw[h1,h2,h3,show gD (.mk pid pset palg ptgt prules pkids pobls)= [.s pid,.b pset,.i palg,aU ptgt,.sl (prules.map aC) .no,.sl (pkids.map aM) .no,ay pobls] by simp[gD,aR]]at this
 exact agc
theorem L8{i j:Nat}{a b:Option Blk}(c:Option Blk)(h:i≠j):upd (upd (upd H i a) j b) i c=upd (upd H i c) j b:=by grind [ah,ag]
theorem NW:aS NV=(mD,0,0):=afJ
theorem T9(h:Heap)(he:jt h):ai prog 20 [] h fun r h' =>r=bQ xX∧h' =h:=
 ai.freeze fun g hg _=>by
 replace he:=he.sub hg;refine aw func20 11 [.cell 0 41] ?_
 simp only[go_sem];intro i1 h1;simp only[go_sem];refine(zX NV _ (he.sub (.aj h1))).pthen ?_;rw[NW];simp only[go_sem,kO,mD,aM,aU,ay,fl,jY,List.map_nil];intro i2 h2;have n21:=aH h2;have n2:=aA h2;simp only[go_sem,ak,n21.symm];refine .mk _ (.refl _) (.refl _) ⟨?_,bQ xX,Qq (S:=xX) rfl rfl rfl ng ng ng ng,rfl⟩;rw[L8 _ n21.symm];exact((Sub.refl g).put h1 _).put n2 _
theorem sU(s:Txt)(h:Heap):ai prog 94 [.s s] h fun r h' =>r=aT (idV s)∧h' =h:=by
 refine aw func94 5 [.cell 2 48] ?_
 exact alh
theorem eD(cat:Int)(name:Txt)(xs:List AV)(q:Perm)(h:Heap):ai prog 95 [.i cat,.s name,.sl xs q] h fun r h' =>r= .agg [.i cat,.s name,.sl xs q]∧h' =h:=by
 refine aw func95 11 [.cell 6 177] ?_
 exact alh
theorem NF{α:Type}(y:AV)(xs:List AV)(ds:List α)(q:α→Bool)(g:FuncId)(cap:List AV)(h:Heap)(hb:Rd h 3 y xs)(hn:xs.length=ds.length)(hl:xs.length≤1000000000)(hx:∀x∈xs,bB x=true)
  (hp:∀i (h1:i<xs.length) (h2:i<ds.length),ai prog g (xs[i]::cap) h fun r h' =>r= .b (q ds[i])∧h' =h):
  ai prog 255 [y,.fn g cap] h fun r h' =>r= .i (ixD q ds)∧h' =h:=by
 refine aw func255 19 [.tmp 4] ?_
 simp only[go_sem,hb.len];refine .intro (fun m ρ h' =>h' =h∧∃i:Nat,i≤xs.length∧m=xs.length - i∧(∀j (hj:j<i) (h2:j<ds.length),q ds[j]=false)∧lk ρ 0=some y∧lk ρ 1=some (.fn g cap)∧lk ρ 7=some (.i xs.length)∧lk ρ 8=some (.i i)) xs.length ?_ ?_
 ·refine⟨rfl,0,afu,rfl,fun j hj=>afu,?_,?_,?_,?_⟩<;>simp only[go_sem]
 ·rintro m ρ h' ⟨rfl,i,hi,rfl,hc,r0,r1,r7,r8⟩
  simp only[go_sem,r7,r8];refine .intro (fun e=>?_) (fun e=>?_)
  ·have hlt:i<xs.length:=afq e
   have hlt2:i<ds.length:=afu;have w1:IntKind.i64.wrap ((i:Int)+1)=((i+1:Nat):Int):=afG;simp only[go_sem,r0,r1,r8];refine hb.idx (e:=186) i rfl hlt afJ afy fun p hp1=>?_
   have hld:=hp1.all (U:=U) (ty:=186) afy agr ahm;simp only[go_sem,hld];refine(show ai prog g (xs[i]::cap) _ _ from hp i hlt hlt2).pthen ?_
   cases d1:q ds[i]
   ·simp only[go_sem,r8,w1]
    refine⟨_,?_,rfl,i+1,afu,rfl,fun j hj h2=>?_,?_,?_,?_,?_⟩
    ·omega
    ·grind
    all_goals simp only[go_sem,r0,r1,r7]
   ·simp only[go_sem]
    exact .same (.refl _) ⟨agh,rfl⟩
  ·have hge:i=xs.length:=by grind
   simp only[go_sem];exact .same (.refl _) ⟨afW,rfl⟩
theorem O7(x:vo){k:Nat}(hk:h k=some (.obj [.s subj] 9)):ai prog 210 [gC x,.ptr k 0] h fun r h' =>r= .b (x.actor==subj)∧h' =h:=by
 refine aw func210 8 [.tmp 3] ?_
 simp only[go_sem,gC];exact aj3
theorem vu{α:Type}(q:α→Bool)(l:List α):decide ((0:Int)≤ixD q l)=l.any q:=by
 unfold ixD
 grind
theorem KQ(y:AV)(ds:List vo)(q:vo→Bool)(g:FuncId)(cap:List AV)(h:Heap)(hb:Rd h 3 y (ds.map gC))(hl:ds.length≤1000000000)
  (hp:∀i (h2:i<ds.length),ai prog g (gC ds[i]::cap) h fun r h' =>r= .b (q ds[i])∧h' =h):
  ai prog 209 [y,.fn g cap] h fun r h' =>r= .b (ds.any q)∧h' =h:=by
 refine aw func209 9 [.tmp 4] ?_
 simp only[go_sem];refine(NF y _ ds q g cap h hb afB afv (pR (fun _=>rfl) _) fun i a b=>by rw[afk];exact hp i b).pthen ?_
 simp only[go_sem,vu];exact afE
theorem Rw{c:aL}(hb:RdC h x c)(subj:Txt)(hl:c.log.length≤1000000000):ai prog 153 [x,.s subj] h fun r h' =>r=aT (vh c.log subj)∧h' =h:=by
 obtain⟨f,l,rfl,hf,hlg⟩:=hb;refine aw func153 13 [.cell 4 48] ?_
 simp only[go_sem];intro i1 h1;simp only[go_sem];intro i2 h2;have n21:=aH h2;have n2:=aA h2;simp only[go_sem];intro i3 h3;have h3' :=aA h3;have n31:=aH h3';have n3:=aA h3';simp only[go_sem];intro i4 h4;have n43:=aH h4;have h4' :=aA h4;have h4'' :=aA h4';have n41:=aH h4'';have n4:=aA h4'';have hs:∀a b d e,Ab.Sub h (upd (upd (upd (upd h i1 a) i2 b) i3 d) i4 e):=fun a b d e=>((((Sub.refl h).put h1 a).put n2 b).put n3 d).put n4 e
 simp only[go_sem,ak,n21.symm,n31.symm,n41.symm];refine(KQ l c.log (fun x=>x.actor==subj) _ [.ptr i2 0] _ (hlg.sub (hs _ _ _ _)) hl fun i b=>O7 _ (by grind [ak,gI,not_false_eq_true])).pthen ?_
 cases d1:c.log.any fun x=>x.actor==subj
 ·exact akW
 ·exact akW
def AX(g:bt)(q:Perm):AV:=.agg [.i g.cat,.s g.name,.sl (g.bag.map aT) q]
def GRow(ys:List AV)(gs:List bt):Prop:=ys.length=gs.length∧∀j (h1:j<ys.length) (h2:j<gs.length),∃q,ys[j]=AX gs[j] q
theorem GRow.sized(h:GRow ys gs):Sized 3 ys:=fun z hz=>by
 obtain⟨i,hi,rfl⟩:=List.mem_iff_getElem.1 hz;obtain⟨q,e⟩:=h.2 i hi (by rw[←h.1];omega)
 rw[e];rfl
theorem GRow.one(g:bt)(q:Perm):GRow [AX g q] [g]:=⟨rfl,fun j h1 h2=>by grind⟩
theorem GRow.app{zs:List AV}{ks:List bt}(h:GRow ys gs)(k:GRow zs ks):GRow (ys++zs) (gs++ks):=⟨by simp[h.1,k.1],fun j h1 h2=>by
 have hl:=h.1
 by_cases e:j<ys.length
 ·rw[List.getElem_append_left e,List.getElem_append_left afu];exact h.2 j e afu
 ·rw[List.getElem_append_right afu,List.getElem_append_right afu]
  simp only[afn]at h1 h2;obtain⟨q,e'⟩:=k.2 (j - ys.length) afu afu;exact⟨q,afv⟩⟩
theorem GRow.weak(h:GRow ys gs)(q:Perm):Weak (.sl ys q) (bN gs):=by
 refine .deep _ _ q (by simp[h.1]) (fun k h1 h2=>?_) fun k h1 h2 j h3 h4=>?_
 ·obtain⟨q',e'⟩:=h.2 k h1 afv
  rw[e',afk];rfl
 ·obtain⟨q',e'⟩:=h.2 k h1 afv
  simp only[e',afk];simp only[e',AX,AV.cells]at h3;rcases j with _|_|_|j
  ·exact agR
  ·exact agR
  ·exact aia
  ·simp at h3;omega
theorem GRow.givs(gs:List bt):GRow (gs.map lV) gs:=⟨afB,fun j h1 h2=>⟨.no,afD⟩⟩
theorem cA:(U 177).sz=3:=afJ
theorem fY(g:bt)(q:Perm):Sized 3 [AX g q]:=fun z hz=>aiq
def tr(c:aL)(subj:Txt):List bt:=[⟨3,idT,[idV c.id]⟩,⟨3,[111,119,110,101,114],[idV c.owner]⟩,⟨3,[115,116,97,116,101],[idV c.state]⟩,⟨3,[101,118,101,110,116,115],[⟨2,c.log.length,[]⟩]⟩,⟨3,[116,111,111,107],[vh c.log subj]⟩]
def tv(c:aL):List bt:=match c.log.getLast? with
 |some x=>[⟨3,[108,97,115,116],[idV x.actor]⟩]
 |none=>[]
def gj(l:List cK):List bt:=(l.filter fun f=>decide (f.name.length≤14)).map fun f=>⟨3,[102,95]++f.name,[f.val]⟩
theorem mS(l:List cK)(i:Nat)(h:i<l.length):gj (l.take (i+1))=gj (l.take i)++(if l[i].name.length≤14 then [⟨3,[102,95]++l[i].name,[l[i].val]⟩]else []):=by grind [gj,List.take_succ_eq_append_getElem]
theorem qY(c:aL)(subj:Txt):cI c subj=tr c subj++tv c++gj c.fields:=rfl
theorem Gh(c:aL)(subj:Txt)(hl:c.log.length≤1000000)(hlf:c.fields.length≤1000000):ai prog 96 [cr c,.s subj] h fun r h' =>r=bN (cI c subj)∧h' =h:=by
 refine aw func96 77 [.tmp 4] ?_
 simp only[go_sem,cr,om,gS,tE];intro i1 h1;simp only[go_sem];refine .quiet afx ?_;simp only[go_sem];refine⟨_,sU _ _,?_⟩;simp only[go_sem,aT,idV];refine⟨_,eD _ _ _ _ _,?_⟩;simp only[go_sem];refine⟨_,sU _ _,?_⟩;simp only[go_sem,aT,idV];refine⟨_,eD _ _ _ _ _,?_⟩;simp only[go_sem];refine⟨_,sU _ _,?_⟩;simp only[go_sem,aT,idV];refine⟨_,eD _ _ _ _ _,?_⟩;simp only[go_sem];refine⟨_,eD _ _ _ _ _,?_⟩;simp only[go_sem];refine⟨_,Rw (show RdC _ (.agg [.s c.id,.s c.owner,.s c.state,.sl (c.fields.map bA) .no,.sl (c.log.map gC) .no]) c from rdC _ c) subj afu,?_⟩
 simp only[go_sem,aT];refine⟨_,eD _ _ _ _ _,?_⟩;simp only[go_sem,afj];have hs1:∀b,Ab.Sub h (upd h i1 b):=fun b=>(Sub.refl h).put h1 b
 have hrow5:GRow [.agg [.i 3,.s [105,100],.sl [.agg [.i 5,.i 0,.s c.id]] .full],.agg [.i 3,.s [111,119,110,101,114],.sl [.agg [.i 5,.i 0,.s c.owner]] .full],.agg [.i 3,.s [115,116,97,116,101],.sl [.agg [.i 5,.i 0,.s c.state]] .full],.agg [.i 3,.s [101,118,101,110,116,115],.sl [.agg [.i 2,.i c.log.length,.s []]] .full],.agg [.i 3,.s [116,111,111,107],.sl [aT (vh c.log subj)] .full]] (tr c subj):=(GRow.one ⟨3,idT,[idV c.id]⟩ .full).app ((GRow.one ⟨3,[111,119,110,101,114],[idV c.owner]⟩ .full).app ((GRow.one ⟨3,[115,116,97,116,101],[idV c.state]⟩ .full).app ((GRow.one ⟨3,[101,118,101,110,116,115],[⟨2,c.log.length,[]⟩]⟩ .full).app (GRow.one ⟨3,[116,111,111,107],[vh c.log subj]⟩ .full))));simp only[aT]at hrow5;cases d1:decide ((0:Int)<(c.log.length:Int))
 ·have hl0:c.log= []:=List.length_eq_zero_iff.1 afv
  simp only[go_sem];simp only[go_sem,afj];refine .intro (fun m ρ H=>∃(i:Nat) (y:AV) (ys:List AV),Acc U 177 h H y ys∧H i1=some (.obj [.s c.id,.s c.owner,.s c.state,.sl (c.fields.map bA) .no,.sl (c.log.map gC) .no] 120)∧GRow ys (tr c subj++gj (c.fields.take i))∧i≤c.fields.length∧m=c.fields.length - i∧lk ρ 5=some y∧lk ρ 2=some (.ptr i1 0)∧lk ρ 55=some (.sl (c.fields.map bA) .no)∧lk ρ 56=some (.i c.fields.length)∧lk ρ 57=some (.i i)) c.fields.length ?_ ?_
  ·refine⟨0,_,_,.full (hs1 _),ah ..,(by have:=hrow5;simpa[gj]using this),afu,rfl,?_,?_,?_,?_,?_⟩<;>simp only[go_sem]
  ·rintro m ρ H ⟨i,y,ys,hy,g1,hrow,hi,rfl,r5,r2,r55,r56,r57⟩
   simp only[go_sem,r56,r57];refine .intro (fun e=>?_) (fun e=>?_)
   ·have hlt:i<c.fields.length:=afq e
    have w1:IntKind.i64.wrap ((i:Int)+1)=((i+1:Nat):Int):=afG;simp only[go_sem,r55,r57];refine .at i afv afD ?_;simp only[go_sem,afk,bA];intro i8 h8;have n81:i1≠i8:=fun e=>afv
    simp only[go_sem];cases d2:decide ((c.fields[i].name.length:Int)≤14)
    ·exact aj7
    ·simp only[go_sem,r5]
     have h14:c.fields[i].name.length≤14:=afv;refine⟨by grind [Nat,lim],?_⟩
     refine(eD _ _ _ _ _).pthen ?_;simp only[go_sem];refine(hy.sub (.aj h8)).app (zs:=[AX ⟨3,[102,95]++c.fields[i].name,[c.fields[i].val]⟩ .full]) afy afy (fun k hk=>(Rd.sl (fY _ _) .full:Rd _ 3 _ _).src cA hk) (by rw[cA];exact hrow.sized) (by grind [cA,fY]) (by have hln:(gj (c.fields.take i)).length≤i:=ahB;simp only[go_sem,hrow.1,List.length_cons,List.length_nil,tr];omega) fun y' H' hy' kp=>?_
     exact aku
   ·have hge:i=c.fields.length:=by grind
    subst hge;rw[List.take_length]at hrow;obtain⟨q,rfl⟩:=hy.row;simp only[go_sem,r5];exact .mk (bN (cI c subj)) (show Weak (.sl ys q) _ by rw[qY,tv,hl0];simpa using hrow.weak q) hy.1 ⟨rfl,rfl⟩
 ·have hl1:0<c.log.length:=by grind
  simp only[go_sem];have w0:IntKind.i64.wrap ((c.log.length:Int) - 1)=((c.log.length - 1:Nat):Int):=afG;simp only[go_sem,w0];refine .at (c.log.length - 1) afv afD ?_;simp only[go_sem,afk,gC];rw[if_neg (fun hh=>hh.1)]
  refine(sU _ _).pthen ?_;simp only[go_sem,aT,idV];refine(eD _ _ _ _ _).pthen ?_;simp only[go_sem];have hgl:c.log.getLast? =some c.log[c.log.length - 1]:=afv;have hlast:GRow [.agg [.i 3,.s [108,97,115,116],.sl [.agg [.i 5,.i 0,.s c.log[c.log.length - 1].actor]] .full]] (tv c):=by unfold tv;rw[hgl];exact GRow.one ⟨3,[108,97,115,116],[idV c.log[c.log.length - 1].actor]⟩ .full
  refine .accs (hs1 _) fun y0 H0 hy0 kp0=>?_
  simp only[go_sem,kp0 _ _ _ (ah ..),afj];refine .intro (fun m ρ H=>∃(i:Nat) (y:AV) (ys:List AV),Acc U 177 h H y ys∧H i1=some (.obj [.s c.id,.s c.owner,.s c.state,.sl (c.fields.map bA) .no,.sl (c.log.map gC) .no] 120)∧GRow ys ((tr c subj++tv c)++gj (c.fields.take i))∧i≤c.fields.length∧m=c.fields.length - i∧lk ρ 5=some y∧lk ρ 2=some (.ptr i1 0)∧lk ρ 55=some (.sl (c.fields.map bA) .no)∧lk ρ 56=some (.i c.fields.length)∧lk ρ 57=some (.i i)) c.fields.length ?_ ?_
  ·refine⟨0,_,_,hy0,kp0 _ _ _ (ah ..),(by have:=hrow5.app hlast;simpa[gj]using this),afu,rfl,?_,?_,?_,?_,?_⟩<;>simp only[go_sem]
  ·rintro m ρ H ⟨i,y,ys,hy,g1,hrow,hi,rfl,r5,r2,r55,r56,r57⟩
   simp only[go_sem,r56,r57];refine .intro (fun e=>?_) (fun e=>?_)
   ·have hlt:i<c.fields.length:=afq e
    have w1:IntKind.i64.wrap ((i:Int)+1)=((i+1:Nat):Int):=afG;simp only[go_sem,r55,r57];refine .at i afv afD ?_;simp only[go_sem,afk,bA];intro i8 h8;have n81:i1≠i8:=fun e=>afv
    simp only[go_sem];cases d2:decide ((c.fields[i].name.length:Int)≤14)
    ·exact aj7
    ·simp only[go_sem,r5]
     have h14:c.fields[i].name.length≤14:=afv;refine⟨by grind [Nat,lim],?_⟩
     refine(eD _ _ _ _ _).pthen ?_;simp only[go_sem];refine(hy.sub (.aj h8)).app (zs:=[AX ⟨3,[102,95]++c.fields[i].name,[c.fields[i].val]⟩ .full]) afy afy (fun k hk=>(Rd.sl (fY _ _) .full:Rd _ 3 _ _).src cA hk) (by rw[cA];exact hrow.sized) (by grind [cA,fY]) (by have hln:(gj (c.fields.take i)).length≤i:=ahB;simp only[go_sem,hrow.1,List.length_cons,List.length_nil,tr,tv,hgl];omega) fun y' H' hy' kp=>?_
     exact aku
   ·have hge:i=c.fields.length:=by grind
    subst hge;rw[List.take_length]at hrow;obtain⟨q,rfl⟩:=hy.row;simp only[go_sem,r5];exact .mk (bN (cI c subj)) (show Weak (.sl ys q) _ by rw[qY];exact hrow.weak q) hy.1 ⟨rfl,rfl⟩
theorem FD{i:Nat}(h:i<l.length)(h1:l[i].subj=subj)(h2:(dJ (l.take i) subj).length<16):dJ (l.take (i+1)) subj=dJ (l.take i) subj++ [idV l[i].role]:=by
 unfold dJ at h2⊢;rw[List.take_succ_eq_append_getElem h,List.filter_append,List.map_append]
 grind [List.length_take,idV,List.take_append,List.take_of_length_le]
theorem Am{i:Nat}(h:i<l.length)(h1:l[i].subj≠subj∨¬(dJ (l.take i) subj).length<16):dJ (l.take (i+1)) subj=dJ (l.take i) subj:=by grind [dJ,List.take_succ_eq_append_getElem,List.take_append,List.length_take]
theorem HT(l:List gL)(subj:Txt):(dJ l subj).length≤16:=by grind [dJ,List.length_take]
def cV(s:an)(o:OpD):List bt:=[⟨1,idT,[idV o.subj]⟩,⟨1,[114,111,108,101],dJ s.roles o.subj⟩,⟨2,[110,97,109,101],[idV (jc o.kind)]⟩]
theorem zf(hf:Few s)(id:Txt):(bw s.cases id).log.length≤1000000∧(bw s.cases id).fields.length≤1000000:=by
 cases e:ck s.cases id
 ·rw[DW e];decide
 ·rw[DV e];exact⟨hf.log _ afB,hf.fields _ afB⟩
theorem DR(c:aL)(subj:Txt):(cI c subj).length≤6+c.fields.length:=by grind [qY,afn,tv,gj,afj,List.length_filter_le,tr]
theorem jV{i:Nat}(hs:Ab.Sub h G)(hi:G i=none):h i=none:=hs.none hi
theorem Dz:(U 48).sz=3:=afJ
theorem Tb(hb:RdS h x s)(o:OpD)(hf:Few s)(hk:i64 o.kind):ai prog 43 [x,opA o] h fun r h' =>r=bN (fS s o)∧h' =h:=by
 have hca:=fun(G:Heap) (hG:Ab.Sub h G)=>CQ (hb.sub hG) o.case hf
 obtain⟨y1,y2,y3,y4,rfl,⟨xs,hc,hn,hcs⟩,h2,h3,h4⟩:=hb;cases hpp:s.policy with
 |mk pid pset palg ptgt prules pkids pobls=>
 have hcC:gD (.mk pid pset palg ptgt prules pkids pobls)= [.s pid,.b pset,.i palg,aU ptgt,.sl (prules.map aC) .no,.sl (pkids.map aM) .no,ay pobls]:=aiA;rw[hpp,hcC]at hca;simp only[List.cons_append,List.nil_append]at hca;have hfr:=hf.roles;refine aw func43 99 [.tmp 4] ?_
 simp only[go_sem,hcC,opA,opC,List.cons_append,List.nil_append];intro i1 h1;simp only[go_sem];intro i2 h2';have n21:=aH h2';have n2:=aA h2';simp only[go_sem,ak,n21.symm,h4.len,afj];obtain⟨H,eH⟩:∃H,upd (upd h i1 (some (.obj [.i s.tick,y1,y2,y3,y4,.s pid,.b pset,.i palg,aU ptgt,.sl (prules.map aC) .no,.sl (pkids.map aM) .no,ay pobls,.i s.version] 41))) i2 (some (.obj (opC o) 50))=H:=⟨_,rfl⟩;have hH:Ab.Sub h H:=agw;have g1:H i1=some (.obj [.i s.tick,y1,y2,y3,y4,.s pid,.b pset,.i palg,aU ptgt,.sl (prules.map aC) .no,.sl (pkids.map aM) .no,ay pobls,.i s.version] 41):=ag8;have g2:H i2=some (.obj (opC o) 50):=agZ;simp only[opC]at eH g2;rw[eH];clear eH;refine .intro (fun m ρ G=>∃(i:Nat) (y:AV),Acc U 48 H G y ((dJ (s.roles.take i) o.subj).map aT)∧i≤s.roles.length∧m=s.roles.length - i∧lk ρ 5=some y∧lk ρ 2=some (.ptr i1 0)∧lk ρ 3=some (.ptr i2 0)∧lk ρ 12=some y4∧lk ρ 13=some (.i s.roles.length)∧lk ρ 14=some (.i i)) s.roles.length ?_ ?_
 ·refine⟨0,_,.full (.refl _),afu,rfl,?_,?_,?_,?_,?_,?_⟩<;>simp only[go_sem,dJ,List.take_zero,List.filter_nil,List.map_nil]
 ·rintro m ρ G ⟨i,y,hy,hi,rfl,r5,r2,r3,r12,r13,r14⟩
  have k1:=hy.1 _ _ g1;have k2:=hy.1 _ _ g2;simp only[go_sem,r13,r14];refine .intro (fun e=>?_) (fun e=>?_)
  ·have hlt:i<s.roles.length:=afq e
   have w1:=afp i afu;simp only[go_sem,r12,r14];refine(h4.sub (hH.trans hy.1)).idx (e:=140) i rfl afQ JN afy fun p hp1=>?_
   have hld:=hp1.all (U:=U) (ty:=140) afF (by rw[JN,afk];rfl) agd
   simp only[go_sem,hld,afk,dF];intro i7 h7;have n71:i1≠i7:=fun e=>by rw[←e,k1]at h7;cases h7
   have n72:i2≠i7:=fun e=>by rw[←e,k2]at h7;cases h7
   simp only[go_sem,ak,n72,k2,r3];have hy7:=hy.sub (.aj h7 (k:=some (.obj [.s s.roles[i].subj,.s s.roles[i].role] 140)));have lr:=HT (s.roles.take i) o.subj;cases d1:(s.roles[i].subj==o.subj)
   ·have p1:s.roles[i].subj≠o.subj:=by simpa using d1
    simp only[go_sem,r14,w1];refine⟨_,?_,i+1,y,by rw[Am hlt (.inl p1)];exact hy7,afu,rfl,?_,?_,?_,?_,?_,?_⟩
    ·omega
    all_goals simp only[go_sem,r5,r2,r3,r12,r13]
   ·have p1:s.roles[i].subj=o.subj:=by simpa using d1
    simp only[go_sem,r5,hy.len,afj];cases d2:decide (((dJ (s.roles.take i) o.subj).length:Int)<16)
    ·have p2:¬(dJ (s.roles.take i) o.subj).length<16:=by have:=afm d2;omega
     simp only[go_sem,r14,w1];refine⟨_,?_,i+1,y,by rw[Am hlt (.inr p2)];exact hy7,afu,rfl,?_,?_,?_,?_,?_,?_⟩
     ·omega
     all_goals simp only[go_sem,r5,r2,r3,r12,r13]
    ·have p2:(dJ (s.roles.take i) o.subj).length<16:=by have:=afl d2;omega
     simp only[go_sem,r5];refine(sU _ _).pthen ?_;simp only[go_sem,aT,idV];refine hy7.app (zs:=[aT (idV s.roles[i].role)]) (by rw[Dz];decide) afz (fun k hk=>(Rd.sl (fun z hz=>aiq) .full:Rd _ 3 _ _).src Dz hk) (by rw[Dz];exact bx (f:=aT) (fun _=>rfl) _) (by rw[Dz];exact bx (f:=aT) (fun _=>rfl) [idV s.roles[i].role]) agM fun y' H' hy' kp=>?_
     simp only[go_sem,r14,w1];refine⟨_,?_,i+1,y',by rw[FD hlt p1 p2,List.map_append];exact hy',afu,rfl,?_,?_,?_,?_,?_,?_⟩
     ·omega
     all_goals simp only[go_sem,r2,r3,r12,r13]
  ·have hge:i=s.roles.length:=by have:=afm e;omega
   subst hge;rw[List.take_length]at hy;simp only[go_sem];obtain⟨q5,rfl⟩:=hy.row;refine .quiet afx ?_;simp only[go_sem,k2,r3];refine⟨_,sU _ _,?_⟩;simp only[go_sem,aT,idV];refine⟨_,eD _ _ _ _ _,?_⟩;simp only[go_sem,r5];refine⟨_,eD _ _ _ _ _,?_⟩;simp only[go_sem,k2,r3];refine⟨_,vr _ hk _,?_⟩;simp only[go_sem];refine⟨_,sU _ _,?_⟩;simp only[go_sem,aT,idV];refine⟨_,eD _ _ _ _ _,?_⟩;simp only[go_sem,k2,r3];have hak:=fun(G:Heap)=>Gh (h:=G) (bw s.cases o.case) o.subj (zf hf o.case).1 (zf hf o.case).2
   simp only[cr,om,gS,tE]at hak;have hakl:=DR (bw s.cases o.case) o.subj;have hakf:=(zf hf o.case).2;have hr0:GRow [.agg [.i 1,.s [105,100],.sl [.agg [.i 5,.i 0,.s o.subj]] .full],.agg [.i 1,.s [114,111,108,101],.sl ((dJ s.roles o.subj).map aT) q5],.agg [.i 2,.s [110,97,109,101],.sl [.agg [.i 5,.i 0,.s (jc o.kind)]] .full]] (cV s o):=(GRow.one ⟨1,idT,[idV o.subj]⟩ .full).app ((GRow.one ⟨1,[114,111,108,101],dJ s.roles o.subj⟩ q5).app (GRow.one ⟨2,[110,97,109,101],[idV (jc o.kind)]⟩ .full))
   by_cases pf:o.field= []
   ·have df:(o.field==([]:Txt))=true:=by simp[pf]
    simp only[go_sem,k2,r3,df]
    by_cases pt:o.to= []
    ·have dt:(o.to==([]:Txt))=true:=by simp[pt]
     simp only[go_sem,k1,r2,dt];refine(eD _ _ _ _ _).pthen ?_;simp only[go_sem];refine .accs hy.1 fun y1 G1 hy1 kp1=>?_
     have k1_1:=kp1 _ _ _ k1;have k2_1:=kp1 _ _ _ k2;have hr1:=hr0.app (GRow.one (⟨4,[110,111,119],[⟨4,s.tick,[]⟩]⟩:bt) .full);simp only[go_sem,k1_1,k2_1,r2,r3];refine(hca _ (hH.trans hy1.1)).pthen ?_;simp only[go_sem,cr,om,gS,tE];intro i20 h20;have n21:i1≠i20:=fun e=>by rw[←e,k1_1]at h20;cases h20
     have n22:i2≠i20:=fun e=>by rw[←e,k2_1]at h20;cases h20
     simp only[go_sem];obtain⟨q2,eq2⟩:=hy1.row;cases dth:ck s.cases o.case
     ·simp only[go_sem]
      exact .mk (bN (fS s o)) (show Weak y1 _ by rw[eq2,show fS s o=(cV s o++ [(⟨4,[110,111,119],[⟨4,s.tick,[]⟩]⟩:bt)]) by simp[fS,cV,dth,pf,pt]];exact hr1.weak q2) ((hH.trans hy1.1).put (jV (hH.trans hy1.1) h20) _) ⟨rfl,rfl⟩
     ·simp only[go_sem,ak,n22,k2_1,r3]
      by_cases p6:o.kind=6
      ·have d6:(o.kind !=6)=false:=by simp[p6]
       simp only[go_sem,d6];exact .mk (bN (fS s o)) (show Weak y1 _ by rw[eq2,show fS s o=(cV s o++ [(⟨4,[110,111,119],[⟨4,s.tick,[]⟩]⟩:bt)]) by simp[fS,cV,dth,p6,pf,pt]];exact hr1.weak q2) ((hH.trans hy1.1).put (jV (hH.trans hy1.1) h20) _) ⟨rfl,rfl⟩
      ·have d6:(o.kind !=6)=true:=by simp[p6]
       simp only[go_sem,ak,n22,k2_1,r3,d6];refine(hak _).pthen ?_;simp only[go_sem,bN];refine(hy1.sub (.aj h20)).app (zs:=(cI (bw s.cases o.case) o.subj).map lV) ahN afz (fun k hk=>(eP lV 3 (fun _=>rfl) _ _).src cA hk) (by rw[cA];exact hr1.sized) ahb agq fun yz Gz hyz kpz=>?_
       simp only[go_sem];obtain⟨qz,eqz⟩:=hyz.row;exact .mk (bN (fS s o)) (show Weak yz _ by rw[eqz,show fS s o=(cV s o++ [(⟨4,[110,111,119],[⟨4,s.tick,[]⟩]⟩:bt)])++cI (bw s.cases o.case) o.subj by simp[fS,cV,dth,p6,pf,pt]];exact(hr1.app (GRow.givs _)).weak qz) (hH.trans hyz.1) ⟨rfl,rfl⟩
    ·have dt:(o.to==([]:Txt))=false:=by simp[pt]
     simp only[go_sem,k2,r3,dt];refine(sU _ _).pthen ?_;simp only[go_sem,aT,idV];refine(eD _ _ _ _ _).pthen ?_;simp only[go_sem];refine .accs hy.1 fun y3 G3 hy3 kp3=>?_
     have k1_3:=kp3 _ _ _ k1;have k2_3:=kp3 _ _ _ k2;have hr3:=hr0.app (GRow.one (⟨2,[116,111],[idV o.to]⟩:bt) .full);simp only[go_sem,k1_3,r2];refine(eD _ _ _ _ _).pthen ?_;simp only[go_sem];refine hy3.app (zs:=[AX (⟨4,[110,111,119],[⟨4,s.tick,[]⟩]⟩) .full]) ahN afz (fun k hk=>(Rd.sl (fY _ _) .full:Rd _ 3 _ _).src cA hk) (by rw[cA];exact hr3.sized) aiY agy fun y4 G4 hy4 kp4=>?_
     have k1_4:=kp4 _ _ _ k1_3;have k2_4:=kp4 _ _ _ k2_3;have hr4:=hr3.app (GRow.one (⟨4,[110,111,119],[⟨4,s.tick,[]⟩]⟩:bt) .full);simp only[go_sem,k1_4,k2_4,r2,r3];refine(hca _ (hH.trans hy4.1)).pthen ?_;simp only[go_sem,cr,om,gS,tE];intro i50 h50;have n51:i1≠i50:=fun e=>by rw[←e,k1_4]at h50;cases h50
     have n52:i2≠i50:=fun e=>by rw[←e,k2_4]at h50;cases h50
     simp only[go_sem];obtain⟨q5,eq5⟩:=hy4.row;cases dth:ck s.cases o.case
     ·simp only[go_sem]
      exact .mk (bN (fS s o)) (show Weak y4 _ by rw[eq5,show fS s o=((cV s o++ [(⟨2,[116,111],[idV o.to]⟩:bt)])++ [(⟨4,[110,111,119],[⟨4,s.tick,[]⟩]⟩:bt)]) by simp[fS,cV,dth,pf,pt]];exact hr4.weak q5) ((hH.trans hy4.1).put (jV (hH.trans hy4.1) h50) _) ⟨rfl,rfl⟩
     ·simp only[go_sem,ak,n52,k2_4,r3]
      by_cases p6:o.kind=6
      ·have d6:(o.kind !=6)=false:=by simp[p6]
       simp only[go_sem,d6];exact .mk (bN (fS s o)) (show Weak y4 _ by rw[eq5,show fS s o=((cV s o++ [(⟨2,[116,111],[idV o.to]⟩:bt)])++ [(⟨4,[110,111,119],[⟨4,s.tick,[]⟩]⟩:bt)]) by simp[fS,cV,dth,p6,pf,pt]];exact hr4.weak q5) ((hH.trans hy4.1).put (jV (hH.trans hy4.1) h50) _) ⟨rfl,rfl⟩
      ·have d6:(o.kind !=6)=true:=by simp[p6]
       simp only[go_sem,ak,n52,k2_4,r3,d6];refine(hak _).pthen ?_;simp only[go_sem,bN];refine(hy4.sub (.aj h50)).app (zs:=(cI (bw s.cases o.case) o.subj).map lV) ahN afz (fun k hk=>(eP lV 3 (fun _=>rfl) _ _).src cA hk) (by rw[cA];exact hr4.sized) ahb agq fun yz Gz hyz kpz=>?_
       simp only[go_sem];obtain⟨qz,eqz⟩:=hyz.row;exact .mk (bN (fS s o)) (show Weak yz _ by rw[eqz,show fS s o=((cV s o++ [(⟨2,[116,111],[idV o.to]⟩:bt)])++ [(⟨4,[110,111,119],[⟨4,s.tick,[]⟩]⟩:bt)])++cI (bw s.cases o.case) o.subj by simp[fS,cV,dth,p6,pf,pt]];exact(hr4.app (GRow.givs _)).weak qz) (hH.trans hyz.1) ⟨rfl,rfl⟩
   ·have df:(o.field==([]:Txt))=false:=by simp[pf]
    simp only[go_sem,k2,r3,df];refine(sU _ _).pthen ?_;simp only[go_sem,aT,idV];refine(eD _ _ _ _ _).pthen ?_;simp only[go_sem];refine .accs hy.1 fun y6 G6 hy6 kp6=>?_
    have k1_6:=kp6 _ _ _ k1;have k2_6:=kp6 _ _ _ k2;have hr6:=hr0.app (GRow.one (⟨2,[102,105,101,108,100],[idV o.field]⟩:bt) .full);simp only[go_sem,k2_6,r3]
    by_cases pt:o.to= []
    ·have dt:(o.to==([]:Txt))=true:=by simp[pt]
     simp only[go_sem,k1_6,r2,dt];refine(eD _ _ _ _ _).pthen ?_;simp only[go_sem];refine hy6.app (zs:=[AX (⟨4,[110,111,119],[⟨4,s.tick,[]⟩]⟩) .full]) ahN afz (fun k hk=>(Rd.sl (fY _ _) .full:Rd _ 3 _ _).src cA hk) (by rw[cA];exact hr6.sized) aiY agy fun y7 G7 hy7 kp7=>?_
     have k1_7:=kp7 _ _ _ k1_6;have k2_7:=kp7 _ _ _ k2_6;have hr7:=hr6.app (GRow.one (⟨4,[110,111,119],[⟨4,s.tick,[]⟩]⟩:bt) .full);simp only[go_sem,k1_7,k2_7,r2,r3];refine(hca _ (hH.trans hy7.1)).pthen ?_;simp only[go_sem,cr,om,gS,tE];intro i80 h80;have n81:i1≠i80:=fun e=>by rw[←e,k1_7]at h80;cases h80
     have n82:i2≠i80:=fun e=>by rw[←e,k2_7]at h80;cases h80
     simp only[go_sem];obtain⟨q8,eq8⟩:=hy7.row;cases dth:ck s.cases o.case
     ·simp only[go_sem]
      exact .mk (bN (fS s o)) (show Weak y7 _ by rw[eq8,show fS s o=((cV s o++ [(⟨2,[102,105,101,108,100],[idV o.field]⟩:bt)])++ [(⟨4,[110,111,119],[⟨4,s.tick,[]⟩]⟩:bt)]) by simp[fS,cV,dth,pf,pt]];exact hr7.weak q8) ((hH.trans hy7.1).put (jV (hH.trans hy7.1) h80) _) ⟨rfl,rfl⟩
     ·simp only[go_sem,ak,n82,k2_7,r3]
      by_cases p6:o.kind=6
      ·have d6:(o.kind !=6)=false:=by simp[p6]
       simp only[go_sem,d6];exact .mk (bN (fS s o)) (show Weak y7 _ by rw[eq8,show fS s o=((cV s o++ [(⟨2,[102,105,101,108,100],[idV o.field]⟩:bt)])++ [(⟨4,[110,111,119],[⟨4,s.tick,[]⟩]⟩:bt)]) by simp[fS,cV,dth,p6,pf,pt]];exact hr7.weak q8) ((hH.trans hy7.1).put (jV (hH.trans hy7.1) h80) _) ⟨rfl,rfl⟩
      ·have d6:(o.kind !=6)=true:=by simp[p6]
       simp only[go_sem,ak,n82,k2_7,r3,d6];refine(hak _).pthen ?_;simp only[go_sem,bN];refine(hy7.sub (.aj h80)).app (zs:=(cI (bw s.cases o.case) o.subj).map lV) ahN afz (fun k hk=>(eP lV 3 (fun _=>rfl) _ _).src cA hk) (by rw[cA];exact hr7.sized) ahb agq fun yz Gz hyz kpz=>?_
       simp only[go_sem];obtain⟨qz,eqz⟩:=hyz.row;exact .mk (bN (fS s o)) (show Weak yz _ by rw[eqz,show fS s o=((cV s o++ [(⟨2,[102,105,101,108,100],[idV o.field]⟩:bt)])++ [(⟨4,[110,111,119],[⟨4,s.tick,[]⟩]⟩:bt)])++cI (bw s.cases o.case) o.subj by simp[fS,cV,dth,p6,pf,pt]];exact(hr7.app (GRow.givs _)).weak qz) (hH.trans hyz.1) ⟨rfl,rfl⟩
    ·have dt:(o.to==([]:Txt))=false:=by simp[pt]
     simp only[go_sem,k2_6,r3,dt];refine(sU _ _).pthen ?_;simp only[go_sem,aT,idV];refine(eD _ _ _ _ _).pthen ?_;simp only[go_sem];refine hy6.app (zs:=[AX (⟨2,[116,111],[idV o.to]⟩) .full]) ahN afz (fun k hk=>(Rd.sl (fY _ _) .full:Rd _ 3 _ _).src cA hk) (by rw[cA];exact hr6.sized) aiY agy fun y9 G9 hy9 kp9=>?_
     have k1_9:=kp9 _ _ _ k1_6;have k2_9:=kp9 _ _ _ k2_6;have hr9:=hr6.app (GRow.one (⟨2,[116,111],[idV o.to]⟩:bt) .full);simp only[go_sem,k1_9,r2];refine(eD _ _ _ _ _).pthen ?_;simp only[go_sem];refine hy9.app (zs:=[AX (⟨4,[110,111,119],[⟨4,s.tick,[]⟩]⟩) .full]) ahN afz (fun k hk=>(Rd.sl (fY _ _) .full:Rd _ 3 _ _).src cA hk) (by rw[cA];exact hr9.sized) aiY agy fun y10 G10 hy10 kp10=>?_
     have k1_10:=kp10 _ _ _ k1_9;have k2_10:=kp10 _ _ _ k2_9;have hr10:=hr9.app (GRow.one (⟨4,[110,111,119],[⟨4,s.tick,[]⟩]⟩:bt) .full);simp only[go_sem,k1_10,k2_10,r2,r3];refine(hca _ (hH.trans hy10.1)).pthen ?_;simp only[go_sem,cr,om,gS,tE];intro i110 h110;have n111:i1≠i110:=fun e=>by rw[←e,k1_10]at h110;cases h110
     have n112:i2≠i110:=fun e=>by rw[←e,k2_10]at h110;cases h110
     simp only[go_sem];obtain⟨q11,eq11⟩:=hy10.row;cases dth:ck s.cases o.case
     ·simp only[go_sem]
      exact .mk (bN (fS s o)) (show Weak y10 _ by rw[eq11,show fS s o=(((cV s o++ [(⟨2,[102,105,101,108,100],[idV o.field]⟩:bt)])++ [(⟨2,[116,111],[idV o.to]⟩:bt)])++ [(⟨4,[110,111,119],[⟨4,s.tick,[]⟩]⟩:bt)]) by simp[fS,cV,dth,pf,pt]];exact hr10.weak q11) ((hH.trans hy10.1).put (jV (hH.trans hy10.1) h110) _) ⟨rfl,rfl⟩
     ·simp only[go_sem,ak,n112,k2_10,r3]
      by_cases p6:o.kind=6
      ·have d6:(o.kind !=6)=false:=by simp[p6]
       simp only[go_sem,d6];exact .mk (bN (fS s o)) (show Weak y10 _ by rw[eq11,show fS s o=(((cV s o++ [(⟨2,[102,105,101,108,100],[idV o.field]⟩:bt)])++ [(⟨2,[116,111],[idV o.to]⟩:bt)])++ [(⟨4,[110,111,119],[⟨4,s.tick,[]⟩]⟩:bt)]) by simp[fS,cV,dth,p6,pf,pt]];exact hr10.weak q11) ((hH.trans hy10.1).put (jV (hH.trans hy10.1) h110) _) ⟨rfl,rfl⟩
      ·have d6:(o.kind !=6)=true:=by simp[p6]
       simp only[go_sem,ak,n112,k2_10,r3,d6];refine(hak _).pthen ?_;simp only[go_sem,bN];refine(hy10.sub (.aj h110)).app (zs:=(cI (bw s.cases o.case) o.subj).map lV) ahN afz (fun k hk=>(eP lV 3 (fun _=>rfl) _ _).src cA hk) (by rw[cA];exact hr10.sized) ahb agq fun yz Gz hyz kpz=>?_
       simp only[go_sem];obtain⟨qz,eqz⟩:=hyz.row;exact .mk (bN (fS s o)) (show Weak yz _ by rw[eqz,show fS s o=(((cV s o++ [(⟨2,[102,105,101,108,100],[idV o.field]⟩:bt)])++ [(⟨2,[116,111],[idV o.to]⟩:bt)])++ [(⟨4,[110,111,119],[⟨4,s.tick,[]⟩]⟩:bt)])++cI (bw s.cases o.case) o.subj by simp[fS,cV,dth,p6,pf,pt]];exact(hr10.app (GRow.givs _)).weak qz) (hH.trans hyz.1) ⟨rfl,rfl⟩
end Go.Proofs.YtelkmnkejghkeaaGreatDoor
namespace Go.Bf
open Go Go.Ab
def kr(a b:bO):Bool:=a.attr.cat==b.attr.cat && (a.attr.name==b.attr.name && (a.attr.must==b.attr.must && (a.op==b.op && (a.val.kind==b.val.kind && (a.val.n==b.val.n && a.val.s==b.val.s)))))
def pU(a b:aP):Bool:=a.op==b.op && (a.val.kind==b.val.kind && (a.val.n==b.val.n && (a.val.s==b.val.s && (a.attr.cat==b.attr.cat && (a.attr.name==b.attr.name && a.attr.must==b.attr.must)))))
def rD(a b:cE):Bool:=a.on==b.on && (a.kind==b.kind && a.arg==b.arg)
def eqL{α:Type}(f:α→α→Bool):List α→List α→Bool
 | [],[]=>true
 |x::a,y::b=>f x y && eqL f a b
 |_,_=>false
theorem di{α:Type}{f:α→α→Bool}:∀ {a b:List α},a.length=b.length→(∀j (h1:j<a.length) (h2:j<b.length),f a[j] b[j]=true)→eqL f a b=true
 | [],[],_,_=>rfl
 |x::a,y::b,hl,h=>by simp only[eqL,Bool.and_eq_true];exact⟨h 0 afB afB,di afv fun j h1 h2=>h (j+1) afv afv⟩
theorem iH{α:Type}{f:α→α→Bool}:∀ {a b:List α},a.length≠b.length→eqL f a b=false
 | [],[],h=>afu
 | [],_::_,_=>rfl
 |_::_,[],_=>rfl
 |x::a,y::b,h=>by simp only[eqL];rw[iH afv,Bool.and_false]
theorem jJ{α:Type}{f:α→α→Bool}:∀ {a b:List α} (j:Nat) (h1:j<a.length) (h2:j<b.length),f a[j] b[j]=false→eqL f a b=false
 |x::a,y::b,0,_,_,h=>by grind [eqL]
 |x::a,y::b,j+1,h1,h2,h=>by simp only[eqL];rw[jJ j afv afv afv,Bool.and_false]
theorem tg{α:Type}{f:α→α→Bool}(hf:∀x y,f x y=true↔x=y):∀ {a b:List α},eqL f a b=true↔a=b
 | [],[]=>by simp[eqL]
 | [],_::_=>by simp[eqL]
 |_::_,[]=>by simp[eqL]
 |x::a,y::b=>by simp[eqL,hf,tg hf]
theorem GH(a b:bO):kr a b=true↔a=b:=by obtain⟨⟨a1,a2,a3⟩,a4,a5,a6,a7⟩:=a;obtain⟨⟨b1,b2,b3⟩,b4,b5,b6,b7⟩:=b;simp[kr,and_assoc]
theorem Kl(a b:aP):pU a b=true↔a=b:=by obtain⟨a4,⟨a5,a6,a7⟩,⟨a1,a2,a3⟩⟩:=a;obtain⟨b4,⟨b5,b6,b7⟩,⟨b1,b2,b3⟩⟩:=b;simp[pU,and_assoc]
theorem Eg(a b:cE):rD a b=true↔a=b:=by cases a;cases b;simp[rD]
end Go.Bf
namespace Go.Proofs.YtelkmnkejghkeaaGreatDoor
open Go Go.Ab Go.Bf Tryz
theorem Dt(a b:List bO)(h:Heap):ai prog 173 [gv a,gv b] h fun r h' =>r= .b (eqL kr a b)∧h' =h:=by
 refine afs func173 26 [.tmp 4] fun hwf=>?_
 cases d1:((a.length:Int) !=(b.length:Int))
 case true=>
  have e1:a.length≠b.length:=by grind
  simp only[go_sem,gv,afj,d1];exact .same (.refl _) ⟨ahP,rfl⟩
 have e1:a.length=b.length:=afv;simp only[go_sem,gv,afj,d1];refine .intro (fun m ρ h' =>Ab.Sub h h'∧∃i:Nat,i≤a.length∧m=a.length - i∧(∀j (h1:j<a.length) (h2:j<b.length),j<i→kr a[j] b[j]=true)∧lk ρ 0=some (.sl (a.map cU) .no)∧lk ρ 1=some (.sl (b.map cU) .no)∧lk ρ 5=some (.i i)) a.length ?_ ?_
 ·exact ajS
 ·rintro m ρ h' ⟨hs,i,hi,rfl,hc,r0,r1,r5⟩
  simp only[go_sem,r0,r1,r5,afj];refine .intro (fun e=>?_) (fun e=>?_)
  ·have hlt:i<a.length:=afq e
   have hlt2:i<b.length:=afu;have w1:IntKind.i64.wrap ((i:Int)+1)=((i+1:Nat):Int):=by have:=hwf (gv a) afB;simp only[gv,wfA,wf1,lim,afj]at this;rw[aW _ afu];omega
   simp only[go_sem,r0,r1,r5,afj];refine⟨.of afx,?_⟩;refine .at i afv afD ?_;simp only[go_sem,r0,r1,r5,afk,cU];refine .at i afv afD ?_;simp only[go_sem,r0,r1,r5,afk,cU];cases d3:kr a[i] b[i]
   ·have d4:=d3
    simp only[kr]at d4;exact alv
   ·have d4:=d3
    simp only[kr]at d4;exact akA
  ·exact akT
theorem Ao(a b:List cE)(h:Heap):ai prog 64 [ay a,ay b] h fun r h' =>r= .b (eqL rD a b)∧h' =h:=by
 refine afs func64 26 [.tmp 4] fun hwf=>?_
 cases d1:((a.length:Int) !=(b.length:Int))
 case true=>
  have e1:a.length≠b.length:=by grind
  simp only[go_sem,ay,afj,d1];exact .same (.refl _) ⟨ahP,rfl⟩
 have e1:a.length=b.length:=afv;simp only[go_sem,ay,afj,d1];refine .intro (fun m ρ h' =>Ab.Sub h h'∧∃i:Nat,i≤a.length∧m=a.length - i∧(∀j (h1:j<a.length) (h2:j<b.length),j<i→rD a[j] b[j]=true)∧lk ρ 0=some (.sl (a.map bh) .no)∧lk ρ 1=some (.sl (b.map bh) .no)∧lk ρ 5=some (.i i)) a.length ?_ ?_
 ·exact ajS
 ·rintro m ρ h' ⟨hs,i,hi,rfl,hc,r0,r1,r5⟩
  simp only[go_sem,r0,r5,afj];refine .intro (fun e=>?_) (fun e=>?_)
  ·have hlt:i<a.length:=afq e
   have hlt2:i<b.length:=afu;have w1:IntKind.i64.wrap ((i:Int)+1)=((i+1:Nat):Int):=by have:=hwf (ay a) afB;simp only[ay,wfA,wf1,lim,afj]at this;rw[aW _ afu];omega
   simp only[go_sem,r0,r5];refine⟨.of afx,?_⟩;refine .at i afv afD ?_;simp only[go_sem,r1,r5,afk,bh];refine .at i afv afD ?_;simp only[go_sem,afk,bh];cases d3:rD a[i] b[i]
   ·have d4:=d3
    simp only[rD]at d4;exact aj2
   ·have d4:=d3
    simp only[rD]at d4;exact ajO
  ·exact ajV
theorem FH(a b:List aP)(h:Heap):ai prog 123 [eC a,eC b] h fun r h' =>r= .b (eqL pU a b)∧h' =h:=by
 refine afs func123 26 [.tmp 4] fun hwf=>?_
 cases d1:((a.length:Int) !=(b.length:Int))
 case true=>
  have e1:a.length≠b.length:=by grind
  simp only[go_sem,eC,afj,d1];exact .same (.refl _) ⟨ahP,rfl⟩
 have e1:a.length=b.length:=afv;simp only[go_sem,eC,afj,d1];refine .intro (fun m ρ h' =>Ab.Sub h h'∧∃i:Nat,i≤a.length∧m=a.length - i∧(∀j (h1:j<a.length) (h2:j<b.length),j<i→pU a[j] b[j]=true)∧lk ρ 0=some (.sl (a.map cM) .no)∧lk ρ 1=some (.sl (b.map cM) .no)∧lk ρ 5=some (.i i)) a.length ?_ ?_
 ·exact ajS
 ·rintro m ρ h' ⟨hs,i,hi,rfl,hc,r0,r1,r5⟩
  simp only[go_sem,r0,r1,r5,afj];refine .intro (fun e=>?_) (fun e=>?_)
  ·have hlt:i<a.length:=afq e
   have hlt2:i<b.length:=afu;have w1:IntKind.i64.wrap ((i:Int)+1)=((i+1:Nat):Int):=by have:=hwf (eC a) afB;simp only[eC,wfA,wf1,lim,afj]at this;rw[aW _ afu];omega
   simp only[go_sem,r0,r1,r5,afj];refine⟨.of afx,?_⟩;refine .at i afv afD ?_;simp only[go_sem,r0,r1,r5,afk,cM];refine .at i afv afD ?_;simp only[go_sem,r0,r1,r5,afk,cM];cases d3:pU a[i] b[i]
   ·have d4:=d3
    simp only[pU]at d4;exact alv
   ·have d4:=d3
    simp only[pU]at d4;exact akA
  ·exact akT
end Go.Proofs.YtelkmnkejghkeaaGreatDoor
namespace Go.Bf
open Go Go.Ab
def mR(a b:gL):Bool:=a.subj==b.subj && a.role==b.role
def jw(a b:cK):Bool:=a.name==b.name && (a.val.kind==b.val.kind && (a.val.n==b.val.n && a.val.s==b.val.s))
def oN(a b:vo):Bool:=a.tick==b.tick && (a.actor==b.actor && a.what==b.what)
def pW(a b:pP):Bool:=a.id==b.id && (a.tick==b.tick && (a.subj==b.subj && (a.case==b.case && (a.action==b.action && (a.reason==b.reason && a.isOpen==b.isOpen)))))
def pV(a b:DG):Bool:=a.tick==b.tick && (a.case==b.case && a.arg==b.arg)
end Go.Bf
namespace Go.Proofs.YtelkmnkejghkeaaGreatDoor
open Go Go.Ab Go.Bf Tryz
theorem FI(a b:List gL)(q1 q2:Perm)(h:Heap):ai prog 61 [.sl (a.map dF) q1,.sl (b.map dF) q2] h fun r h' =>r= .b (eqL mR a b)∧h' =h:=by
 refine afs func61 26 [.tmp 4] fun hwf=>?_
 cases d1:((a.length:Int) !=(b.length:Int))
 case true=>exact ajY
 have e1:a.length=b.length:=afv;simp only[go_sem,afj,d1];refine .intro (fun m ρ h' =>Ab.Sub h h'∧∃i:Nat,i≤a.length∧m=a.length - i∧(∀j (h1:j<a.length) (h2:j<b.length),j<i→mR a[j] b[j]=true)∧lk ρ 0=some (.sl (a.map dF) q1)∧lk ρ 1=some (.sl (b.map dF) q2)∧lk ρ 5=some (.i i)) a.length ?_ ?_
 ·exact ajS
 ·rintro m ρ h' ⟨hs,i,hi,rfl,hc,r0,r1,r5⟩
  simp only[go_sem,r0,r5,afj];refine .intro (fun e=>?_) (fun e=>?_)
  ·have hlt:i<a.length:=afq e
   have hlt2:i<b.length:=afu;have w1:IntKind.i64.wrap ((i:Int)+1)=((i+1:Nat):Int):=by have:=hwf (.sl (a.map dF) q1) afB;exact akr
   simp only[go_sem,r0,r5];refine⟨.of afx,?_⟩;refine .at i afv afD ?_;simp only[go_sem,r1,r5,afk,dF];refine .at i afv afD ?_;simp only[go_sem,afk,dF];cases d3:mR a[i] b[i]
   ·have d4:=d3
    simp only[mR]at d4;exact aj2
   ·have d4:=d3
    simp only[mR]at d4;exact ajO
  ·exact ajV
theorem Ds(a b:List cK)(q1 q2:Perm)(h:Heap):ai prog 120 [.sl (a.map bA) q1,.sl (b.map bA) q2] h fun r h' =>r= .b (eqL jw a b)∧h' =h:=by
 refine afs func120 26 [.tmp 4] fun hwf=>?_
 cases d1:((a.length:Int) !=(b.length:Int))
 case true=>exact ajY
 have e1:a.length=b.length:=afv;simp only[go_sem,afj,d1];refine .intro (fun m ρ h' =>Ab.Sub h h'∧∃i:Nat,i≤a.length∧m=a.length - i∧(∀j (h1:j<a.length) (h2:j<b.length),j<i→jw a[j] b[j]=true)∧lk ρ 0=some (.sl (a.map bA) q1)∧lk ρ 1=some (.sl (b.map bA) q2)∧lk ρ 5=some (.i i)) a.length ?_ ?_
 ·exact ajS
 ·rintro m ρ h' ⟨hs,i,hi,rfl,hc,r0,r1,r5⟩
  simp only[go_sem,r0,r5,afj];refine .intro (fun e=>?_) (fun e=>?_)
  ·have hlt:i<a.length:=afq e
   have hlt2:i<b.length:=afu;have w1:IntKind.i64.wrap ((i:Int)+1)=((i+1:Nat):Int):=by have:=hwf (.sl (a.map bA) q1) afB;exact akr
   simp only[go_sem,r0,r5];refine⟨.of afx,?_⟩;refine .at i afv afD ?_;simp only[go_sem,r1,r5,afk,bA];refine .at i afv afD ?_;simp only[go_sem,afk,bA];cases d3:jw a[i] b[i]
   ·have d4:=d3
    simp only[jw]at d4;exact aj2
   ·have d4:=d3
    simp only[jw]at d4;exact ajO
  ·exact ajV
theorem HU(a b:List vo)(q1 q2:Perm)(h:Heap):ai prog 121 [.sl (a.map gC) q1,.sl (b.map gC) q2] h fun r h' =>r= .b (eqL oN a b)∧h' =h:=by
 refine afs func121 26 [.tmp 4] fun hwf=>?_
 cases d1:((a.length:Int) !=(b.length:Int))
 case true=>exact ajY
 have e1:a.length=b.length:=afv;simp only[go_sem,afj,d1];refine .intro (fun m ρ h' =>Ab.Sub h h'∧∃i:Nat,i≤a.length∧m=a.length - i∧(∀j (h1:j<a.length) (h2:j<b.length),j<i→oN a[j] b[j]=true)∧lk ρ 0=some (.sl (a.map gC) q1)∧lk ρ 1=some (.sl (b.map gC) q2)∧lk ρ 5=some (.i i)) a.length ?_ ?_
 ·exact ajS
 ·rintro m ρ h' ⟨hs,i,hi,rfl,hc,r0,r1,r5⟩
  simp only[go_sem,r0,r5,afj];refine .intro (fun e=>?_) (fun e=>?_)
  ·have hlt:i<a.length:=afq e
   have hlt2:i<b.length:=afu;have w1:IntKind.i64.wrap ((i:Int)+1)=((i+1:Nat):Int):=by have:=hwf (.sl (a.map gC) q1) afB;exact akr
   simp only[go_sem,r0,r5];refine⟨.of afx,?_⟩;refine .at i afv afD ?_;simp only[go_sem,r1,r5,afk,gC];refine .at i afv afD ?_;simp only[go_sem,afk,gC];cases d3:oN a[i] b[i]
   ·have d4:=d3
    simp only[oN]at d4;exact aj2
   ·have d4:=d3
    simp only[oN]at d4;exact ajO
  ·exact ajV
theorem HW(a b:List pP)(q1 q2:Perm)(h:Heap):ai prog 59 [.sl (a.map gH) q1,.sl (b.map gH) q2] h fun r h' =>r= .b (eqL pW a b)∧h' =h:=by
 refine afs func59 26 [.tmp 4] fun hwf=>?_
 cases d1:((a.length:Int) !=(b.length:Int))
 case true=>exact ajY
 have e1:a.length=b.length:=afv;simp only[go_sem,afj,d1];refine .intro (fun m ρ h' =>Ab.Sub h h'∧∃i:Nat,i≤a.length∧m=a.length - i∧(∀j (h1:j<a.length) (h2:j<b.length),j<i→pW a[j] b[j]=true)∧lk ρ 0=some (.sl (a.map gH) q1)∧lk ρ 1=some (.sl (b.map gH) q2)∧lk ρ 5=some (.i i)) a.length ?_ ?_
 ·exact ajS
 ·rintro m ρ h' ⟨hs,i,hi,rfl,hc,r0,r1,r5⟩
  simp only[go_sem,r0,r5,afj];refine .intro (fun e=>?_) (fun e=>?_)
  ·have hlt:i<a.length:=afq e
   have hlt2:i<b.length:=afu;have w1:IntKind.i64.wrap ((i:Int)+1)=((i+1:Nat):Int):=by have:=hwf (.sl (a.map gH) q1) afB;exact akr
   simp only[go_sem,r0,r5];refine⟨.of afx,?_⟩;refine .at i afv afD ?_;simp only[go_sem,r1,r5,afk,gH];refine .at i afv afD ?_;simp only[go_sem,afk,gH];cases d3:pW a[i] b[i]
   ·have d4:=d3
    simp only[pW]at d4;exact aj2
   ·have d4:=d3
    simp only[pW]at d4;exact ajO
  ·exact ajV
theorem HV(a b:List DG)(q1 q2:Perm)(h:Heap):ai prog 60 [.sl (a.map kL) q1,.sl (b.map kL) q2] h fun r h' =>r= .b (eqL pV a b)∧h' =h:=by
 refine afs func60 26 [.tmp 4] fun hwf=>?_
 cases d1:((a.length:Int) !=(b.length:Int))
 case true=>exact ajY
 have e1:a.length=b.length:=afv;simp only[go_sem,afj,d1];refine .intro (fun m ρ h' =>Ab.Sub h h'∧∃i:Nat,i≤a.length∧m=a.length - i∧(∀j (h1:j<a.length) (h2:j<b.length),j<i→pV a[j] b[j]=true)∧lk ρ 0=some (.sl (a.map kL) q1)∧lk ρ 1=some (.sl (b.map kL) q2)∧lk ρ 5=some (.i i)) a.length ?_ ?_
 ·exact ajS
 ·rintro m ρ h' ⟨hs,i,hi,rfl,hc,r0,r1,r5⟩
  simp only[go_sem,r0,r5,afj];refine .intro (fun e=>?_) (fun e=>?_)
  ·have hlt:i<a.length:=afq e
   have hlt2:i<b.length:=afu;have w1:IntKind.i64.wrap ((i:Int)+1)=((i+1:Nat):Int):=by have:=hwf (.sl (a.map kL) q1) afB;exact akr
   simp only[go_sem,r0,r5];refine⟨.of afx,?_⟩;refine .at i afv afD ?_;simp only[go_sem,r1,r5,afk,kL];refine .at i afv afD ?_;simp only[go_sem,afk,kL];cases d3:pV a[i] b[i]
   ·have d4:=d3
    simp only[pV]at d4;exact aj2
   ·have d4:=d3
    simp only[pV]at d4;exact ajO
  ·exact ajV
end Go.Proofs.YtelkmnkejghkeaaGreatDoor
namespace Go.Bf
open Go Go.Ab
theorem any_succ{α:Type}{q:α→Bool}{l:List α}{i:Nat}(h:i<l.length):(l.take (i+1)).any q=((l.take i).any q||q l[i]):=by grind [List.take_succ_eq_append_getElem]
end Go.Bf
namespace Go.Proofs.YtelkmnkejghkeaaGreatDoor
open Go
def Ac:List Value:=Lib.pow10Tab.map fun z=>Value.int .u64 z
end Go.Proofs.YtelkmnkejghkeaaGreatDoor
namespace Go.Bf
def Zi:Txt:=[97,110,110]
end Go.Bf
namespace Go.Proofs.YtelkmnkejghkeaaGreatDoor
open Go Go.Ab Go.Bf Tryz
def Uv(ev:Value):Heap:=yd [(3,Ac),(2,[ev])]
theorem LU{ev:Value}(hev:ev= .nilIface∨∃te pe,ev= .iface te pe):jt (Uv ev):=⟨ev,hev,1,rfl⟩
end Go.Proofs.YtelkmnkejghkeaaGreatDoor
namespace Go.Bf
open Go Go.Ab
def mY(m:Int)(b:Nat):Nat:=(if m.tmod (b+1)<0 then m.tmod (b+1)+(b+1)else m.tmod (b+1)).toNat
theorem AJ(m:Int)(b:Nat):mY m b≤b:=by
 have t1:=Int.tmod_lt_of_pos m (show(0:Int)<b+1 by omega)
 unfold mY;split<;>omega
end Go.Bf
namespace Go.Proofs.YtelkmnkejghkeaaGreatDoor
open Go Go.Ab Go.Bf Tryz
theorem sJ(m:Int)(b:Nat)(h:Heap)(hm' : -9223372036854775808≤m∧m≤9223372036854775807)(hb:b≤1099511627776):
  ai prog 8 [.i m,.i 0,.i b] h fun r h' =>r= .i (mY m b)∧h' =h:=by
 have w0:IntKind.i64.wrap ((b:Int) - 0)=b:=IntWalk.i64_in _ afu;have w1:IntKind.i64.wrap (b:Int)=b:=IntWalk.i64_in _ afu;have w2:IntKind.i64.wrap ((b:Int)+1)=(b:Int)+1:=IntWalk.i64_in _ afu;have t1:=Int.tmod_lt_of_pos m (show 0<(b:Int)+1 by omega)
 have t2:=Int.lt_tmod_of_pos m (show 0<(b:Int)+1 by omega)
 have hd:(mY m b:Int)=if m.tmod (b+1)<0 then m.tmod (b+1)+(b+1)else m.tmod (b+1):=by grind [mY]
 generalize hq:m.tmod ((b:Int)+1)=q at t1 t2 hd;have w3:IntKind.i64.wrap (q+b)=q+b:=IntWalk.i64_in _ afu;have w4:IntKind.i64.wrap (q+b - 0)=q+b:=afv;have w5:IntKind.i64.wrap (q+b+1)=q+b+1:=IntWalk.i64_in _ afu;refine aw func8 24 [.tmp 6] ?_
 simp only[go_sem,w1,w2,hq,Int.sub_zero];refine⟨afu,.intro (fun e=>?_) (fun e=>?_)⟩
 ·have e:=afl e
  rw[if_pos e]at hd;simp only[go_sem,w3,w5,Int.sub_zero];have w6:IntKind.i64.wrap (0+(q+b+1))=q+b+1:=afv;have w7:IntKind.i64.wrap (q+b+1)=q+b+1:=IntWalk.i64_in _ afu;simp only[go_sem,w7,Int.zero_add];exact .same (.refl _) ⟨by grind [ax,Int.add_assoc],rfl⟩
 ·have e:=afm e
  rw[if_neg e]at hd;have w7:IntKind.i64.wrap q=q:=IntWalk.i64_in q afu;have w6:IntKind.i64.wrap (0+q)=q:=afv;simp only[go_sem,w7,Int.zero_add];exact .same (.refl _) ⟨by rw[hd];rfl,rfl⟩
end Go.Proofs.YtelkmnkejghkeaaGreatDoor
namespace Go.Bf
open Go Go.Ab
def jl(cat:Int)(name:Txt)(g:bt):Bool:=g.cat==cat && g.name==name
def getD(l:List bt)(cat:Int)(name:Txt):List bu:=match l.find? (jl cat name)with
 |some g=>g.bag
 |none=>[]
end Go.Bf
namespace Go.Proofs.YtelkmnkejghkeaaGreatDoor
open Go Go.Ab Go.Bf Tryz
variable {cat:Int}{name:Txt}{gs:List bt}
theorem ND{α:Type}(y:AV)(xs:List AV)(ds:List α)(q:α→Bool)(g:FuncId)(cap:List AV)(h:Heap)(hb:Rd h 3 y xs)(hn:xs.length=ds.length)(hl:xs.length≤1000000000)(hx:∀x∈xs,bB x=true)
  (hp:∀i (h1:i<xs.length) (h2:i<ds.length),ai prog g (xs[i]::cap) h fun r h' =>r= .b (q ds[i])∧h' =h):
  ai prog 306 [y,.fn g cap] h fun r h' =>r= .i (ixD q ds)∧h' =h:=by
 refine aw func306 19 [.tmp 4] ?_
 simp only[go_sem,hb.len];refine .intro (fun m ρ h' =>h' =h∧∃i:Nat,i≤xs.length∧m=xs.length - i∧(∀j (hj:j<i) (h2:j<ds.length),q ds[j]=false)∧lk ρ 0=some y∧lk ρ 1=some (.fn g cap)∧lk ρ 7=some (.i xs.length)∧lk ρ 8=some (.i i)) xs.length ?_ ?_
 ·refine⟨rfl,0,afu,rfl,fun j hj=>afu,?_,?_,?_,?_⟩<;>simp only[go_sem]
 ·rintro m ρ h' ⟨rfl,i,hi,rfl,hc,r0,r1,r7,r8⟩
  simp only[go_sem,r7,r8];refine .intro (fun e=>?_) (fun e=>?_)
  ·have hlt:i<xs.length:=afq e
   have hlt2:i<ds.length:=afu;have w1:IntKind.i64.wrap ((i:Int)+1)=((i+1:Nat):Int):=afG;simp only[go_sem,r0,r1,r8];refine hb.idx (e:=177) i rfl hlt afJ afy fun p hp1=>?_
   have hld:=hp1.all (U:=U) (ty:=177) afy agr ahm;simp only[go_sem,hld];refine(show ai prog g (xs[i]::cap) _ _ from hp i hlt hlt2).pthen ?_
   cases d1:q ds[i]
   ·simp only[go_sem,r8,w1]
    refine⟨_,?_,rfl,i+1,afu,rfl,fun j hj h2=>?_,?_,?_,?_,?_⟩
    ·omega
    ·grind
    all_goals simp only[go_sem,r0,r1,r7]
   ·simp only[go_sem]
    exact .same (.refl _) ⟨agh,rfl⟩
  ·have hge:i=xs.length:=by grind
   simp only[go_sem];exact .same (.refl _) ⟨afW,rfl⟩
theorem Lv{h:Heap}(g:bt){k1 k2:Nat}(h1:h k1=some (.obj [.i cat] 3))(h2:h k2=some (.obj [.s name] 9)):ai prog 307 [lV g,.ptr k1 0,.ptr k2 0] h fun r h' =>r= .b (jl cat name g)∧h' =h:=by
 refine aw func307 15 [.tmp 4] ?_
 simp only[go_sem,lV];intro i1 hi1;have n1:k1≠i1:=fun e=>afv
 have n2:k2≠i1:=fun e=>afv
 simp only[go_sem,ak,n1,h1];cases d1:(g.cat==cat)
 ·simp only[go_sem]
  exact .mk _ (.refl _) (.aj hi1) ⟨by simp only[jl,d1];rfl,rfl⟩
 ·simp only[go_sem,ak,n2,h2]
  exact .mk _ (.refl _) (.aj hi1) ⟨by simp only[jl,d1];rfl,rfl⟩
theorem Oz(gs:List bt)(cat:Int)(name:Txt)(hl:gs.length≤1000000000)(h:Heap):ai prog 284 [bN gs,.i cat,.s name] h fun r h' =>r= .i (ixD (jl cat name) gs)∧h' =h:=by
 refine aw func284 10 [.tmp 6] ?_
 simp only[go_sem,bN];intro i1 h1;simp only[go_sem];intro i2 h2;have n2:=aA h2;have hs:∀a b,Ab.Sub h (upd (upd h i1 a) i2 b):=fun a b=>((Sub.refl h).put h1 a).put n2 b
 simp only[go_sem];refine(ND _ _ gs (jl cat name) _ [.ptr i1 0,.ptr i2 0] _ (eP lV 3 (fun _=>rfl) _ gs) afB afv (pR (fun _=>rfl) _) fun i a b=>by rw[afk];exact Lv _ (by grind [ag,ah]) (ah ..)).pthen ?_
 simp only[go_sem];exact ag9
theorem get_at(h:gs.findIdx (jl cat name)<gs.length):getD gs cat name=gs[gs.findIdx (jl cat name)].bag:=by unfold getD;rw[show gs.find? (jl cat name)=some gs[gs.findIdx (jl cat name)]from List.find?_eq_some_iff_getElem.2 ⟨List.findIdx_getElem (w:=h),_,h,rfl,fun j hj=>afv⟩]
theorem TM(h:¬gs.findIdx (jl cat name)<gs.length):getD gs cat name= []:=by grind [getD,jl,List.findIdx_le_length,List.find?_eq_none,List.findIdx_eq_length]
end Go.Proofs.YtelkmnkejghkeaaGreatDoor
namespace Go.Bf
open Go Go.Ab
variable {c:aL}{cs:List aL}{f:cK}{fs:List cK}{name:Txt}{v:bu}
def cT:Txt:=[99]
def stC(st:Txt)(log:List vo):aL:=⟨cT,Zi,st,[],log⟩
def qA:List Txt:=[jY,xN,BC,iF]
abbrev lt(a b:Txt):Prop:=Op.bytesLess a b=true
theorem lt_irrefl:∀a:Txt,¬lt a a
 | []=>afy
 |a::x=>by have:=lt_irrefl x;simp only[lt,Op.bytesLess,Bool.or_eq_true,Bool.and_eq_true,decide_eq_true_eq,beq_self_eq_true,true_and,not_or];exact⟨UInt8.lt_irrefl a,this⟩
theorem lt_trans:∀ {a b c:Txt},lt a b→lt b c→lt a c
 |_,[],_,h,_=>by simp_all [Txt,lt,Op.bytesLess]
 | [],b::y,c,_,h=>by cases c<;>simp[lt,Op.bytesLess]at h⊢
 |a::x,b::y,[],_,h=>by simp[lt,Op.bytesLess]at h
 |a::x,b::y,c::z,h1,h2=>by
  simp only[lt,Op.bytesLess,Bool.or_eq_true,Bool.and_eq_true,decide_eq_true_eq,beq_iff_eq]at h1 h2⊢;rcases h1 with h1|⟨rfl,h1⟩
  ·grind
  ·rcases h2 with h2|⟨rfl,h2⟩
   ·grind
   ·exact .inr ⟨rfl,lt_trans h1 h2⟩
theorem BU:∀a b:Txt,lt a b∨a=b∨lt b a
 | [],[]=>afB
 | [],b::y=> .inl rfl
 |a::x,[]=> .inr (.inr rfl)
 |a::x,b::y=>by
  simp only[lt,Op.bytesLess,Bool.or_eq_true,Bool.and_eq_true,decide_eq_true_eq,beq_iff_eq];rcases UInt8.lt_or_lt_of_ne (a:=a) (b:=b)with h
  by_cases e:a=b
  ·subst e
   rcases BU x y with h|rfl|h
   ·grind
   ·simp
   grind
  grind
def Asc(cs:List aL):Prop:=cs.Pairwise fun a b=>lt a.id b.id
theorem IX{id:Txt}(h:¬lt c.id id):findD (c::cs) id=0:=by simp_all [Op.bytesLess,false,findD,List.findIdx_cons,geB]
theorem IY{id:Txt}(h:lt c.id id):findD (c::cs) id=findD cs id+1:=by simp_all [Op.bytesLess,true,findD,List.findIdx_cons,geB]
theorem wA:∀ {cs:List aL},Asc cs→∀id,ck cs id=cs.any fun c=>c.id==id
 | [],_,id=>rfl
 |c::cs,h,id=>by
  obtain⟨h1,h2⟩:=List.pairwise_cons.1 h
  by_cases hl:lt c.id id
  ·have hne:(c.id==id)=false:=by grind [beq_eq_false_iff_ne,lt_irrefl]
   have e:ck (c::cs) id=ck cs id:=by grind [ck,IY]
   rw[e,wA h2 id,List.any_cons,hne,Bool.false_or]
  ·have e:ck (c::cs) id=(c.id==id):=by grind [ck,IX]
   rw[e,List.any_cons];cases hc:(c.id==id)
   ·have hlt:lt id c.id:=by
     rcases BU c.id id with h|h|h
     ·grind
     ·grind
     omega
    grind
   ·simp
theorem IG:∀ {cs:List aL},Asc cs→∀c:aL,(cs.any fun d=>d.id==c.id)=false→Asc (cs.take (findD cs c.id)++ [c]++cs.drop (findD cs c.id))
 | [],_,c,_=>by simp[Asc,findD]
 |d::cs,h,c,hn=>by
  obtain⟨h1,h2⟩:=List.pairwise_cons.1 h;simp only[List.any_cons,Bool.or_eq_false_iff]at hn
  by_cases hl:lt d.id c.id
  ·rw[IY hl]
   simp only[List.take_succ_cons,List.drop_succ_cons,List.cons_append];refine List.pairwise_cons.2 ⟨fun e he=>?_,IG h2 c hn.2⟩
   grind
  ·rw[IX hl]
   have hlt:lt c.id d.id:=by
    rcases BU d.id c.id with h|h|h
    ·grind
    ·grind
    omega
   refine List.pairwise_cons.2 ⟨fun e he=>?_,h⟩
   rcases List.mem_cons.1 he with rfl|he
   ·omega
   grind [lt_trans]
def F8(fs:List cK):Prop:=fs.Pairwise fun a b=>lt a.name b.name
theorem CA(name:Txt)(v:bu):eR [] name v= [⟨name,v⟩]:=rfl
theorem AN(h:lt f.name name):eR (f::fs) name v=f::eR fs name v:=by
 have hb:Op.bytesLess f.name name=true:=h;unfold eR;simp only[List.findIdx_cons,geB,hb,Bool.not_true,cond_false,List.getElem?_cons_succ];generalize hi:fs.findIdx (fun f=> !Op.bytesLess f.name name)=i
 cases e:fs[i]? with
 |none=>simp
 |some g=>
  by_cases hg:g.name=name
  ·simp[hg]
  ·simp[hg]
theorem AL(h:f.name=name):eR (f::fs) name v=⟨f.name,v⟩::fs:=by
 subst h;have hb:Op.bytesLess f.name f.name=false:=by grind [Op.bytesLess,lt_irrefl]
 unfold eR;simp[List.findIdx_cons,geB,hb]
theorem AM(h:lt name f.name):eR (f::fs) name v=⟨name,v⟩::f::fs:=by
 have hb:Op.bytesLess f.name name=false:=by grind [Op.bytesLess,lt_irrefl,lt_trans]
 have hne:f.name≠name:=fun e=>by rw[e]at h;exact lt_irrefl _ h
 unfold eR;simp[List.findIdx_cons,geB,hb,hne]
theorem wE:∀ {fs:List cK} {name:Txt} {v:bu} {g:cK},g∈eR fs name v→g=⟨name,v⟩∨g∈fs
 | [],name,v,g,h=>by grind [CA,List.mem_singleton]
 |f::fs,name,v,g,h=>by
  rcases BU f.name name with hl|hl|hl
  ·rw[AN hl]at h
   rcases List.mem_cons.1 h with rfl|h
   ·simp
   ·rcases wE h with h|h
    ·grind
    grind
  ·rw[AL hl]at h
   grind
  ·rw[AM hl]at h
   grind
theorem Cy:∀ {fs:List cK} {name:Txt} {v:bu},F8 fs→F8 (eR fs name v)
 | [],name,v,_=>by grind [CA,F8]
 |f::fs,name,v,h=>by
  obtain⟨h1,h2⟩:=List.pairwise_cons.1 h;rcases BU f.name name with hl|hl|hl
  ·rw[AN hl]
   refine List.pairwise_cons.2 ⟨fun g hg=>?_,Cy h2⟩
   rcases wE hg with rfl|hg
   ·omega
   grind
  ·rw[AL hl]
   exact List.pairwise_cons.2 ⟨h1,h2⟩
  ·rw[AM hl]
   refine List.pairwise_cons.2 ⟨fun g hg=>?_,h⟩
   rcases List.mem_cons.1 hg with rfl|hg
   ·omega
   grind [lt_trans]
theorem Cz:∀ {fs:List cK} {name:Txt} {v:bu},F8 fs→(eR fs name v).length=if fs.any (fun f=>f.name==name)then fs.length else fs.length+1
 | [],name,v,_=>rfl
 |f::fs,name,v,h=>by
  obtain⟨h1,h2⟩:=List.pairwise_cons.1 h;rcases BU f.name name with hl|hl|hl
  ·have hne:(f.name==name)=false:=by grind [beq_eq_false_iff_ne,lt_irrefl]
   rw[AN hl,List.length_cons,Cz h2,List.any_cons,hne,Bool.false_or];split<;>simp
  ·grind [AL]
  ·have hne:(f.name==name)=false:=by grind [beq_eq_false_iff_ne,lt_irrefl]
   have hno:(fs.any fun f=>f.name==name)=false:=List.any_eq_false.2 fun g hg he=>by have:=lt_trans hl (h1 g hg);rw[beq_iff_eq.1 he]at this;exact lt_irrefl _ this
   rw[AM hl,List.any_cons,hne,hno];simp
theorem GM(f:cK)(fs:List cK)(n:Txt):dZ (f::fs) n=if f.name=n then f.val else dZ fs n:=by grind [dZ]
def mkC(who id:Txt):aL:=⟨id,who,jY,[],[⟨0,who,[110,101,119]⟩]⟩
def ZP(cs:List aL)(id:Txt):Bool:=cs.any fun c=>c.id==id
end Go.Bf
namespace Go.Ab
open Go
section
variable {α : Type}
def dget(l:List (List UInt8×α))(k:List UInt8):Option α:=(l.find? fun p=>p.1==k).map (·.2)
def dset(l:List (List UInt8×α))(k:List UInt8)(v:α):List (List UInt8×α):=if(dget l k).isSome then l.map (fun p=>if p.1==k then(p.1,v)else p)else l++ [(k,v)]
end
end Go.Ab
namespace Go.Bf
open Go Go.Ab Go.Proofs.YtelkmnkejghkeaaGreatDoor
structure Own (cs:List aL) (own:List (Txt×Txt)):Prop where
 asc:Asc cs
 len:cs.length=own.length
 small:cs.length≤64
 mem:∀c∈cs,c=mkC c.owner c.id∧dget own c.id=some c.owner
 has:∀id,ZP cs id=(dget own id).isSome
 who:∀id w,dget own id=some w→w≠ []
 keys:∀p∈own,p.1.length≤3
theorem rm:∀ {cs:List aL},Asc cs→∀ {id:Txt},ck cs id=true→bw cs id∈cs∧(bw cs id).id=id:=by
 unfold bw
 grind [ck,List.getElem?_eq_getElem]
end Go.Bf
namespace Go.Proofs.YtelkmnkejghkeaaGreatDoor
open Go Go.Ab Go.Bf Tryz
theorem LF(rs:List gL):eqL mR rs rs=true:=di rfl fun j h1 h2=>by simp[mR]
def mN(o:OpD):Prop:=i64 o.kind∧i64 o.val.kind∧i64 o.val.n∧i64 o.review
theorem inH{P:Program}{f:FuncId}{args:List AV}{h:Heap}{Q:AV→Heap→Prop}(hh:∀H2,H2=h→ai P f args H2 Q):ai P f args h Q:=hh h rfl
end Go.Proofs.YtelkmnkejghkeaaGreatDoor
namespace Go.Bf
open Go Go.Ab Go.Proofs.YtelkmnkejghkeaaGreatDoor
def ZQ(v:Int):bu:=⟨2,v,[]⟩
structure Last (fs:List cK) (last:List (Txt×Int)):Prop where
 asc:F8 fs
 len:fs.length=last.length
 small:fs.length≤16
 kind:∀f∈fs,f.val.kind=2
 get:∀n,dZ fs n=((dget last n).map ZQ).getD aq
 keys:∀p∈last,p.1.length=2
end Go.Bf
