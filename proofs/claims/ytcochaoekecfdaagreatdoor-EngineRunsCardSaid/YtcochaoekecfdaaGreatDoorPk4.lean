/- The law EngineRuns: pack 4 of its texts. -/
import Derived.Shelf.Small.Strs
import Derived.Shelf.Small.Wraps
import Derived.Shelf.Strconv.AtoiAll
import Derived.Shelf.Strconv.ErrVarAll
import Derived.Shelf.Strings.Search1
import Derived.Test.YtcochaoekecfdaaGreatDoorProg
import Derived.KernelRfl
import Derived.WalkKit
import Derived.BigCall
import Derived.Lib.ItoaLen
import Derived.Test.YtcochaoekecfdaaGreatDoorPk1
import Derived.Test.YtcochaoekecfdaaGreatDoorPk2
import Derived.Test.YtcochaoekecfdaaGreatDoorPk3
set_option linter.unusedSimpArgs false
set_option linter.unusedVariables false
set_option maxRecDepth 100000
namespace Go.Bf
open Go Go.Ab
theorem tT:∀(f:Nat) (s:Txt) (a:Nat) (out l:List qK),sB f s a out= .ok l→∃pre,l=out++pre++ [⟨7,(a+s.length:Nat),0,[]⟩]∧pre.length≤s.length∧∀t∈pre,(a:Int)≤t.pos∧t.pos<((a+s.length:Nat):Int)
 |0,_,_,_,_,h=>by grind [sB]
 |f+1,[],a,out,l,h=>by
  grind [sB,Lexed.ok.injEq]
 |f+1,c::r,a,out,l,h=>by
  simp only[sB]at h;split at h
  ·obtain⟨pre,e1,e2,e3⟩:=tT f r (a+1) out l h
   grind
  ·split at h
   ·cases h
   ·rename_i hn
    have hle:=ri (c::r) aaz;obtain⟨pre,e1,e2,e3⟩:=tT f _ _ _ l h;have ee:((a+(bN (c::r)).2+((c::r).drop (bN (c::r)).2).length:Nat):Int)=((a+(c::r).length:Nat):Int):=aas;refine⟨{(bN (c::r)).1 with pos:=a}::pre,aas,aas,fun t ht=> ?_⟩
    grind
theorem zP{s:Txt}{ts:List qK}(h:rC s= .ok ts):∃pre,ts=pre++ [⟨7,s.length,0,[]⟩]∧pre.length≤s.length∧(∀t∈pre,0≤t.pos∧t.pos<(s.length:Int))∧s.length≤4096:=by
 grind [rC,tT]
theorem ID{s:Txt}{ts:List qK}(h:rC s= .ok ts)(x:Nat)(e p:Int):WfP ⟨ts,0,x,e,p⟩:=by
 obtain⟨pre,rfl,h2,_,h3⟩:=zP h;refine⟨aaz,fun i hi hk=> ?_,aas⟩
 grind
theorem xA:∀(f:Nat) (s:Txt) (a:Nat) (out:List qK) (e p:Int),sB f s a out= .bad e p→e=5∧0≤p∧(s.length<f→p≤((a+s.length:Nat):Int))
 |0,s,a,out,e,p,h=>by
  simp only[sB,Lexed.bad.injEq]at h;omega
 |f+1,[],a,out,e,p,h=>by grind [sB]
 |f+1,c::r,a,out,e,p,h=>by
  simp only[sB]at h;split at h
  ·obtain⟨h1,h2,h3⟩:=xA f r (a+1) out e p h
   grind
  ·split at h
   ·grind
   ·obtain⟨h1,h2,h3⟩:=xA f _ _ _ e p h
    grind [ri,List.length_drop]
theorem xz{s:Txt}{e a:Int}(h:rC s= .bad e a):(e=5∨e=6)∧0≤a∧a≤s.length:=by
 unfold rC at h;split at h
 ·grind
 ·obtain⟨h1,h2,h3⟩:=xA _ _ _ _ _ _ h
  omega
def nC:bG:=.mk [] false 0 [] [] [] []
def oQ(s:Txt)(x:bG×PS):PS:=
 if(if(aI x.2).kind=7 then x.2 else bf x.2).bad=0∧fY x.1≠0 then bD (if(aI x.2).kind=7 then x.2 else bf x.2) 5 s.length else(if(aI x.2).kind=7 then x.2 else bf x.2)
def xN(s:Txt)(ts:List qK):bG×Int×Int:=
 if(oQ s (gh 4 ⟨ts,0,0,0,0⟩)).bad=0 then((gh 4 ⟨ts,0,0,0,0⟩).1,0,0)else(nC,(oQ s (gh 4 ⟨ts,0,0,0,0⟩)).bad,(oQ s (gh 4 ⟨ts,0,0,0,0⟩)).place)
def aO(s:Txt):bG×Int×Int:=match rC s with
 |.bad e a=>(nC,e,a)
 |.ok ts=>xN s ts
end Go.Bf
namespace Go.Proofs.YtcochaoekecfdaaGreatDoor
open Go Go.Ab Go.Bf
def Byt(g:FuncId)(p:UInt8→Bool):Prop:=∀(c:UInt8) (h:Heap),ai Tryz.prog g [.v (.int .u8 c.toNat)] h fun r h' =>r= .b (p c)∧h' =h
theorem lR:Byt 197 dgt:=fun c h=>by
 refine aaq Tryz.func197 9 [.tmp 2] fun hwf=> ?_
 cases d1:decide (48≤(c.toNat:Int))<;>cases d2:decide ((c.toNat:Int)≤57)
 all_goals
  simp only[go_sem,d1,d2];exact .same (.refl _) ⟨by simp only[dgt,d1,d2];rfl,rfl⟩
theorem HC:Byt 234 wrd:=fun c h=>by
 refine aaq Tryz.func234 17 [.tmp 2] fun hwf=> ?_
 cases d1:decide (97≤(c.toNat:Int))<;>cases d2:decide ((c.toNat:Int)≤122)<;>cases d3:dgt c<;>cases d4:((c.toNat:Int)==95)
 all_goals
  simp only[go_sem,d1,d2]
  first
   |exact .same (.refl _) ⟨by simp only[wrd,ltr,d1,d2,d3,d4];rfl,rfl⟩
   |(refine(lR c _).pthen ?_;simp only[go_sem,d3,d4];exact .same (.refl _) ⟨by simp only[wrd,ltr,d1,d2,d3,d4];rfl,rfl⟩)
theorem CU:Byt 235 (fun c=> !EC c):=fun c h=>by
 refine aaq Tryz.func235 17 [.tmp 2] fun hwf=> ?_
 cases d1:decide (32≤(c.toNat:Int))<;>cases d2:decide ((c.toNat:Int)≤126)<;>cases d3:((c.toNat:Int)==34)<;>cases d4:((c.toNat:Int)==92)
 all_goals
  simp only[go_sem,d1,d2,d3,d4,bne];refine .same (.refl _) ⟨?_,rfl⟩;have e1:decide ((c.toNat:Int)<32)= !decide (32≤(c.toNat:Int)):=by
   grind
  have e2:decide (126<(c.toNat:Int))= !decide ((c.toNat:Int)≤126):=by
   grind
  simp only[EC,e1,e2,d1,d2,d3,d4];rfl
theorem MT(p:UInt8→Bool)(s:Txt)(i:Nat)(hi:i<s.length)(h:i≤(s.takeWhile p).length)(hp:p s[i]=true):i+1≤(s.takeWhile p).length:=by
 exact ae7
theorem SS(p:UInt8→Bool)(s:Txt)(i:Nat)(hi:i<s.length)(h:i≤(s.takeWhile p).length)(hp:p s[i]=false):(s.takeWhile p).length=i:=by
 exact ae7
theorem KI(g:FuncId)(p:UInt8→Bool)(hg:Byt g p)(s:Txt)(h:Heap):ai Tryz.prog 233 [.s s,.fn g []] h fun r h' =>r= .v (.int .i64 (s.takeWhile p).length)∧h' =h:=by
 refine aaq Tryz.func233 20 [.tmp 4] fun hwf=> ?_
 have hlen:=hwf (.s s) aaz;simp only[wfA,wf1,lim]at hlen;simp only[go_sem];refine .intro (fun m ρ h' =>h' =h∧∃i:Nat,i≤s.length∧m=s.length - i∧i≤(s.takeWhile p).length∧lk ρ 0=some (.s s)∧lk ρ 1=some (.fn g [])∧lk ρ 5=some (.i i)) s.length ?_ ?_
 ·refine⟨rfl,0,aar,rfl,aar, ?_, ?_, ?_⟩<;>simp only[go_sem]
 ·rintro m ρ h' ⟨rfl,i,hi,rfl,hc,r0,r1,r5⟩
  cases d1:decide ((i:Int)<(s.length:Int))
  ·have hge:i=s.length:=by grind
   have:=jB p s;simp only[go_sem,r0,r5,d1];exact .same (.refl _) ⟨by grind [au],rfl⟩
  ·have hlt:i<s.length:=by grind
   have w1:IntKind.i64.wrap ((i:Int)+1)=((i+1:Nat):Int):=aaE;simp only[go_sem,r0,r1,r5,d1];refine .at i hlt ?_;simp only[go_sem,aL];refine(hg s[i] _).pthen ?_;cases d2:p s[i]
   ·have:=SS p s i hlt hc d2
    simp only[go_sem,r5];exact .same (.refl _) ⟨by rw[this];rfl,rfl⟩
   ·simp only[go_sem,r5,w1]
    refine⟨_, ?_,rfl,i+1,aar,rfl,MT p s i hlt hc d2, ?_, ?_, ?_⟩
    ·omega
    all_goals simp only[go_sem,r0,r1]
theorem xJ(s:Txt)(h:Heap):ai Tryz.prog 196 [.s s] h fun r h' =>r= .s (jg s)∧h' =h:=by
 refine aaq Tryz.func196 12 [.tmp 2] fun hwf=> ?_
 simp only[go_sem];refine(KI _ _ HC s _).pthen ?_;simp only[go_sem];refine⟨aar,aar, ?_⟩;simp only[go_sem,Option.isSome_none,Option.isSome_some,vO,Int.toNat_natCast,qo];refine⟨by grind [jB,wrd], ?_⟩
 refine(nU _ _).pthen ?_;cases d1:bk (s.takeWhile wrd)
 ·exact af3
 ·exact af3
theorem wr8{x:Int}(h:0≤x∧x<256):IntKind.u8.wrap x=x:=by
 grind [IntKind.wrap,IntKind.signed,IntKind.bits]
theorem rV(c:UInt8)(h:Heap):ai Tryz.prog 267 [.v (.int .u8 c.toNat)] h fun r h' =>r= .i (ji c)∧h' =h:=by
 refine aaq Tryz.func267 20 [.tmp 2] fun hwf=> ?_
 have hc:=c.toNat_lt;simp only[go_sem];refine(lR c _).pthen ?_;cases d1:dgt c
 case true=>
  have e1:48≤(c.toNat:Int)∧(c.toNat:Int)≤57:=by grind [dgt]
  have w1:IntKind.u8.wrap ((c.toNat:Int) - 48)=(c.toNat:Int) - 48:=wr8 aar;have w2:IntKind.i64.wrap ((c.toNat:Int) - 48)=(c.toNat:Int) - 48:=bg _ aar;simp only[go_sem,w1,w2];exact .same (.refl _) ⟨by grind [ji,au],rfl⟩
 cases d2:decide (97≤(c.toNat:Int))<;>cases d3:decide ((c.toNat:Int)≤102)
 case true.true=>
  have e2:=aaj d2;have e3:=aaj d3;have w1:IntKind.u8.wrap ((c.toNat:Int) - 97)=(c.toNat:Int) - 97:=wr8 aar;have w2:IntKind.i64.wrap ((c.toNat:Int) - 97)=(c.toNat:Int) - 97:=bg _ aar;have w3:IntKind.i64.wrap ((c.toNat:Int) - 97+10)=(c.toNat:Int) - 87:=aaE;simp only[go_sem,d2,d3,w1,w2,w3];exact .same (.refl _) ⟨by grind [ji,au],rfl⟩
 all_goals
  simp only[go_sem,d2,d3];simp only[decide_eq_true_eq,decide_eq_false_iff_not]at d2 d3;refine .same (.refl _) ⟨?_,rfl⟩
  grind [Int,ji,au]
theorem FF(c:UInt8): -1≤ji c∧ji c≤15:=by
 grind [ji,dgt]
theorem K1(n:Nat)(h:n<256):((UInt8.ofNat n).toNat:Int)=n:=by
 simp;omega
theorem Pr(s:Txt)(h:Heap):ai Tryz.prog 236 [.s s] h fun r h' =>(∃x:Int,r= .tup [.v (.int .u8 x),.v (.bool (sD s).isSome)]∧∀c,sD s=some c→x=c.toNat)∧h' =h:=by
 refine aaq Tryz.func236 38 [.tmp 2,.tmp 3] fun hwf=> ?_
 have hlen:=hwf (.s s) aaz;simp only[wfA,wf1,lim]at hlen;cases d0:decide ((s.length:Int)<3)
 case true=>
  have e0:s.length<3:=aas;have:sD s=none:=by
   match s,e0 with
   | [],_=>rfl
   | [_],_=>rfl
   | [_,_],_=>rfl
  simp only[go_sem,d0];exact .same (.refl _) ⟨⟨0,by rw[this];rfl,fun c hc=>aas⟩,rfl⟩
 have e0:3≤s.length:=aas;obtain⟨b,x,y,t,rfl⟩:∃b x y t,s=b::x::y::t:=by
  match s,e0 with
  |b::x::y::t,_=>exact⟨b,x,y,t,rfl⟩
 simp only[List.length_cons]at d0;have bad:sD (b::x::y::t)=none→∃z:Int,AV.tup [.v (.int .u8 0),.b false]= .tup [.v (.int .u8 z),.v (.bool (sD (b::x::y::t)).isSome)]∧∀c,sD (b::x::y::t)=some c→z=c.toNat:=
  fun e=>⟨0,aas,fun c hc=>aas⟩
 cases d1:((b.toNat:Int) !=92)
 case true=>
  have e1:b≠92:=by rintro rfl;grind
  simp only[go_sem,d0];refine .at 0 aaz ?_;simp only[go_sem,aL,List.getElem_cons_zero,d1];exact afM
 have e1:b=92:=by
  have:(b.toNat:Int)=92:=aas;exact UInt8.toNat_inj.1 aas
 simp only[go_sem,d0];refine .at 0 aaz ?_;simp only[go_sem,aL,List.getElem_cons_zero,d1];refine .at 1 aaz ?_;simp only[go_sem,aL,List.getElem_cons_zero,List.getElem_cons_succ];refine(rV x _).pthen ?_;cases d2:decide (ji x<0)
 case true=>
  have e2:=aaj d2;simp only[go_sem,d2];exact afM
 have e2:0≤ji x:=aas;simp only[go_sem,d2];refine .at 2 aaz ?_;simp only[go_sem,aL,List.getElem_cons_zero,List.getElem_cons_succ];refine(rV y _).pthen ?_;cases d3:decide (ji y<0)
 case true=>
  have e3:=aaj d3;simp only[go_sem,d3];exact afM
 have e3:0≤ji y:=aas;have hx:=FF x;have hy:=FF y;have w1:IntKind.i64.wrap (16*ji x)=16*ji x:=bg _ aar;have w2:IntKind.i64.wrap (16*ji x+ji y)=16*ji x+ji y:=bg _ aar;have w3:IntKind.u8.wrap (16*ji x+ji y)=((UInt8.ofNat (16*ji x+ji y).toNat).toNat:Int):=by
  grind [wr8,K1]
 simp only[go_sem,d3];refine .quiet aav ?_;simp only[go_sem];refine .at 1 aaz ?_;simp only[go_sem,aL,List.getElem_cons_zero,List.getElem_cons_succ];refine⟨_,rV x _, ?_⟩;simp only[go_sem];refine .at 2 aaz ?_;simp only[go_sem,aL,List.getElem_cons_zero,List.getElem_cons_succ];refine⟨_,rV y _, ?_⟩;simp only[go_sem,w1,w2,w3];refine(CU _ _).pthen ?_;simp only[go_sem];refine .same (.refl _) ⟨⟨((UInt8.ofNat (16*ji x+ji y).toNat).toNat:Int), ?_,fun c hc=> ?_⟩,rfl⟩
 ·grind [EC,UInt8.ofNat,ji,sD,au]
 grind [sD]
theorem u5z:(U 5).sz=1:=aaG
theorem u5b:(U 5).bytes=1:=aaG
theorem mo(l:List UInt8):Sized 1 (l.map aL):=fun z hz=>by
 obtain⟨c,_,rfl⟩:=List.mem_map.1 hz;rfl
theorem Gi(s:Txt)(hs:s.length≤10000)(h:Heap):ai Tryz.prog 199 [.s s] h fun r h' =>r= .tup [.s (yt s).1,.v (.int .i64 (yt s).2)]∧h' =h:=by
 refine aaq Tryz.func199 50 [.tmp 2,.tmp 3] fun hwf=> ?_
 simp only[go_sem];refine .intro (fun m ρ h' =>∃(i f:Nat) (y:AV) (out:Txt),Acc U 5 h h' y (out.map aL)∧out.length≤i∧m=s.length+1 - i∧i≤s.length+3∧s.length≤f+i∧sY f (s.drop i) i out=yt s∧lk ρ 0=some (.s s)∧lk ρ 4=some y∧lk ρ 5=some (.i i)) s.length ?_ ?_
 ·refine⟨1,s.length,.sl [] .full,[],.full (.refl _),aaz,aar,aar,aar,rfl, ?_, ?_, ?_⟩<;>simp only[go_sem]
 ·rintro m ρ h' ⟨i,f,y,out,hy,hoi,rfl,hi,hf,he,r0,r4,r5⟩
  cases d1:decide ((i:Int)<(s.length:Int))
  ·have hge:s.length≤i:=by grind
   have hd:s.drop i= []:=List.drop_of_length_le hge;have:yt s=([],0):=by
    rw[←he,hd];cases f<;>rfl
   simp only[go_sem,r0,r5,d1];exact .mk _ (.refl _) hy.1 ⟨by rw[this];rfl,rfl⟩
  have hlt:i<s.length:=aas;obtain⟨f,rfl⟩:∃g,f=g+1:=⟨f - 1,aar⟩;have hdr:s.drop i=s[i]::s.drop (i+1):=List.drop_eq_getElem_cons hlt;rw[hdr]at he;simp only[sY]at he;have w1:IntKind.i64.wrap ((i:Int)+1)=((i+1:Nat):Int):=aaE;have w3:IntKind.i64.wrap ((i:Int)+3)=((i+3:Nat):Int):=aaE;simp only[go_sem,r0,r5,d1];refine .at i hlt ?_;cases d2:((s[i].toNat:Int)==34)
  case true=>
   have e2:s[i]=34:=by
    have:(s[i].toNat:Int)=34:=aas;exact UInt8.toNat_inj.1 aas
   rw[if_pos e2]at he;cases d3:decide (64<(out.length:Int))
   case true=>
    have e3:64<out.length:=aas;rw[if_pos e3]at he;simp only[go_sem,r4,aL,d2,hy.len,aah,d3];exact afG
   have e3:¬64<out.length:=aas;rw[if_neg e3]at he;simp only[go_sem,r4,aL,d2,hy.len,aah,d3];obtain⟨q,rfl⟩:=hy.row;simp only[go_sem,r5,w1];exact afG
  have e2:s[i]≠34:=by intro e;simp_all
  rw[if_neg e2]at he;simp only[go_sem,r0,r5,aL,d2];refine .at i hlt ?_;simp only[go_sem,aL];refine(CU _ _).pthen ?_;cases d4:EC s[i]
  ·rw[if_pos d4]at he
   simp only[go_sem,r0,r4,r5,d4];refine .at i hlt ?_;simp only[go_sem,aL];refine hy.app (zs:=[aL s[i]]) aau aau (fun k hk=>hk) (by grind [u5z,mo]) (by rw[u5z];exact mo [s[i]]) (by grind [u5b]) fun y' h2 hy' hk2=> ?_
   simp only[go_sem,r5,w1];refine⟨_, ?_,i+1,f,y',out++ [s[i]],aas,aas,rfl,aar,aar,he, ?_, ?_, ?_⟩
   ·omega
   all_goals simp only[go_sem,r0]
  ·rw[if_neg aas]at he
   simp only[go_sem,r0,r5,d4];refine⟨aar, ?_⟩;simp only[go_sem,Option.isSome_none,Option.isSome_some,kZ,Int.toNat_natCast];refine⟨aar,aar, ?_⟩;refine(Pr _ _).mono fun x h2 hx=> ?_
   obtain⟨⟨v,rfl,hv⟩,rfl⟩:=hx;rw[←hdr]at he;cases e5:sD (s.drop i)with
   |none=>
    rw[e5]at he;simp only[go_sem,Option.isSome_none];exact afG
   |some b=>
    rw[e5]at he;have hvb:=hv b e5;subst hvb;have h3:=CI e5;simp only[List.length_drop]at h3;simp only[go_sem,r4,Option.isSome_some];refine hy.app (zs:=[aL b]) aau aau (fun k hk=>hk) (by grind [u5z,mo]) (by rw[u5z];exact mo [b]) (by grind [u5b]) fun y' h2 hy' hk2=> ?_
    simp only[go_sem,r5,w3];refine⟨_, ?_,i+3,f,y',out++ [b],aas,aas,rfl,aar,aar, ?_, ?_, ?_, ?_⟩
    ·omega
    ·simp_all
    all_goals simp only[go_sem,r0]
end Go.Proofs.YtcochaoekecfdaaGreatDoor
namespace Go.Bf
open Go Go.Ab
theorem Fq(c:UInt8):dgt c=true↔48≤c.toNat∧c.toNat≤57:=by
 simp only[dgt,Bool.and_eq_true,decide_eq_true_eq];omega
def GJ(acc:Nat)(l:Txt):Nat:=l.foldl (fun n c=>n*10+(c.toNat - 48)) acc
theorem zx(acc:Nat)(c:UInt8)(r:Txt):GJ acc (c::r)=GJ (acc*10+(c.toNat - 48)) r:=List.foldl_cons ..
theorem BV:∀(l:Txt) (acc:Nat),acc≤GJ acc l
 | [],acc=>Nat.le_refl _
 |c::r,acc=>by rw[zx];exact Nat.le_trans aar (BV r (acc*10+(c.toNat - 48)))
theorem sJ:∀(l:Txt) (acc:Nat),(∀c∈l,dgt c=true)→acc<18446744073709551616→
  Lib.parseUint10 acc l=if GJ acc l<18446744073709551616 then .ok (GJ acc l)else .range
 | [],acc,_,ha=>by
  have:GJ acc []=acc:=rfl;rw[this,if_pos ha];rfl
 |c::r,acc,hd,ha=>by
  have hc:=(Fq c).1 (hd c aaz);have hm:=BV r (acc*10+(c.toNat - 48));rw[zx];unfold Lib.parseUint10;rw[if_pos hc];split
  ·rw[if_neg aar]
  ·split
   ·rw[if_neg aar]
   ·exact sJ r _ aas aar
def oN(neg:Bool):Txt:=if neg then [45]else []
theorem uH(neg:Bool)(d:Txt)(h0:d≠ [])(hd:∀c∈d,dgt c=true):
  Lib.atoiAll (oN neg++d)=if -9223372036854775808≤(if neg then -(oP d:Int)else(oP d:Int))∧(if neg then -(oP d:Int)else(oP d:Int))≤9223372036854775807 then .ok (if neg then -(oP d:Int)else(oP d:Int))else .range:=by
 have hp:Lib.parseMag d=if oP d<18446744073709551616 then .ok (oP d)else .range:=by
  unfold Lib.parseMag;rw[if_neg h0];exact sJ d 0 hd aau
 cases neg
 ·obtain⟨c,r,rfl⟩:=List.exists_cons_of_ne_nil h0
  have hc:=(Fq c).1 (hd c aaz);simp only[oN,Bool.false_eq_true,if_false,List.nil_append,Lib.atoiAll];rw[if_neg aar,hp];have e45:(c.toNat=45)=False:=aas;simp only[e45,not_false_eq_true,true_and,false_and,if_false];split
  ·rename_i h;split at h
   ·cases h
   ·cases h
  ·rename_i h;split at h
   ·cases h
   ·rw[if_neg aar]
  ·rename_i u h;split at h
   ·cases h
    split
    ·rw[if_neg aar]
    ·rw[if_pos aar]
   ·cases h
 ·simp only[oN,if_true,List.cons_append,List.nil_append,Lib.atoiAll]
  rw[if_pos (.inr aau),hp];simp only[show((45:UInt8).toNat=45)=True by simp,not_true_eq_false,false_and,if_false,true_and,if_true]
  split
  ·rename_i h;split at h
   ·cases h
   ·cases h
  ·rename_i h;split at h
   ·cases h
   ·rw[if_neg aar]
  ·rename_i u h;split at h
   ·cases h
    split
    ·rw[if_neg aar]
    ·rw[if_pos aar]
   ·cases h
theorem zc(s:Txt):∀c∈s.takeWhile dgt,dgt c=true:=fun c hc=>by
 induction s with
 |nil=>cases hc
 |cons x r ih=>
  simp only[List.takeWhile_cons]at hc
  grind
end Go.Bf
namespace Go.Proofs
open Go.Shelf
def Tryz.Ct:Go.Shelf.Ren:=⟨fun|137=>200|217=>237|266=>268|n=>n,fun|9=>9|5=>5|3=>3|n=>n,fun|n=>n⟩
theorem Tryz.Mf:Go.Proofs.Lays.n137 Tryz.prog Tryz.Ct:={
 mixed:=aaG
 f137:=Tryz.func200.trans aaG
 f217:=Tryz.func237.trans aaG
 f266:=Tryz.func268.trans aaG
 t3:=Tryz.underlying3
 a3:=Tryz.isAgg3
 z3:=Tryz.sizeOf3
 v3:=Tryz.zeroValue3
 t5:=Tryz.underlying5
 a5:=Tryz.isAgg5
 z5:=Tryz.sizeOf5
 v5:=Tryz.zeroValue5
 t9:=Tryz.underlying9
 a9:=Tryz.isAgg9
 z9:=Tryz.sizeOf9
 v9:=Tryz.zeroValue9}
open Go.RowKit in
theorem Tryz.strings_IndexByte(s:ByteArray)(c:Int)(w:World):
  Calls Tryz.prog 200 #[.string s,.int .u8 c] w fun e w' =>e= .returned (.int .i64 (Lib.indexByte s.data.toList c.toNat.toUInt8))∧w' =w:=Any.strings_IndexByte Tryz.Mf s c w
def Tryz.A7:Go.Shelf.Ren:=⟨fun|172=>154|244=>189|245=>190|247=>227|279=>228|280=>229|281=>230|282=>231|287=>263|316=>264|171=>151|205=>265|321=>292|322=>293|243=>187|246=>225|283=>256|284=>257|285=>258|286=>259|129=>287|317=>286|318=>288|319=>289|320=>290|337=>312|338=>313|n=>n,fun|9=>9|3=>3|75=>234|76=>235|4=>4|5=>5|167=>308|37=>41|0=>0|85=>309|2=>2|168=>311|53=>43|175=>344|46=>103|210=>347|127=>314|145=>382|143=>380|21=>21|171=>338|173=>341|212=>374|51=>153|20=>20|213=>375|232=>409|233=>410|80=>246|n=>n,fun|15=>1|16=>2|17=>3|18=>4|19=>5|n=>n⟩
theorem Tryz.Cu:Go.Proofs.LaysC.n172 Tryz.prog Tryz.A7:={
 mixed:=aaG
 f129:=Tryz.func287.trans aaG
 f171:=Tryz.func151.trans aaG
 f172:=Tryz.func154.trans aaG
 f205:=Tryz.func265.trans aaG
 f243:=Tryz.func187.trans aaG
 f244:=Tryz.func189.trans aaG
 f245:=Tryz.func190.trans aaG
 f246:=Tryz.func225.trans aaG
 f247:=Tryz.func227.trans aaG
 f279:=Tryz.func228.trans aaG
 f280:=Tryz.func229.trans aaG
 f281:=Tryz.func230.trans aaG
 f282:=Tryz.func231.trans aaG
 f283:=Tryz.func256.trans aaG
 f284:=Tryz.func257.trans aaG
 f285:=Tryz.func258.trans aaG
 f286:=Tryz.func259.trans aaG
 f287:=Tryz.func263.trans aaG
 f316:=Tryz.func264.trans aaG
 f317:=Tryz.func286.trans aaG
 f318:=Tryz.func288.trans aaG
 f319:=Tryz.func289.trans aaG
 f320:=Tryz.func290.trans aaG
 f321:=Tryz.func292.trans aaG
 f322:=Tryz.func293.trans aaG
 f337:=Tryz.func312.trans aaG
 f338:=Tryz.func313.trans aaG
 t0:=Tryz.underlying0
 a0:=Tryz.isAgg0
 z0:=Tryz.sizeOf0
 v0:=Tryz.zeroValue0
 t2:=Tryz.underlying2
 a2:=Tryz.isAgg2
 z2:=Tryz.sizeOf2
 v2:=Tryz.zeroValue2
 t3:=Tryz.underlying3
 a3:=Tryz.isAgg3
 z3:=Tryz.sizeOf3
 v3:=Tryz.zeroValue3
 t4:=Tryz.underlying4
 a4:=Tryz.isAgg4
 z4:=Tryz.sizeOf4
 v4:=Tryz.zeroValue4
 t5:=Tryz.underlying5
 a5:=Tryz.isAgg5
 z5:=Tryz.sizeOf5
 v5:=Tryz.zeroValue5
 t9:=Tryz.underlying9
 a9:=Tryz.isAgg9
 z9:=Tryz.sizeOf9
 v9:=Tryz.zeroValue9
 t20:=Tryz.underlying20
 a20:=Tryz.isAgg20
 z20:=Tryz.sizeOf20
 v20:=Tryz.zeroValue20
 t21:=Tryz.underlying21
 a21:=Tryz.isAgg21
 z21:=Tryz.sizeOf21
 v21:=Tryz.zeroValue21
 t37:=Tryz.underlying41
 a37:=Tryz.isAgg41
 z37:=Tryz.sizeOf41
 v37:=Tryz.zeroValue41
 t46:=Tryz.underlying103
 a46:=Tryz.isAgg103
 z46:=Tryz.sizeOf103
 v46:=Tryz.zeroValue103
 t51:=Tryz.underlying153
 a51:=Tryz.isAgg153
 z51:=Tryz.sizeOf153
 v51:=Tryz.zeroValue153
 t53:=Tryz.underlying43
 a53:=Tryz.isAgg43
 z53:=Tryz.sizeOf43
 v53:=Tryz.zeroValue43
 t75:=Tryz.underlying234
 a75:=Tryz.isAgg234
 z75:=Tryz.sizeOf234
 v75:=Tryz.zeroValue234
 t76:=Tryz.underlying235
 a76:=Tryz.isAgg235
 z76:=Tryz.sizeOf235
 v76:=Tryz.zeroValue235
 t85:=Tryz.underlying309
 a85:=Tryz.isAgg309
 z85:=Tryz.sizeOf309
 v85:=Tryz.zeroValue309
 t127:=Tryz.underlying314
 a127:=Tryz.isAgg314
 z127:=Tryz.sizeOf314
 v127:=Tryz.zeroValue314
 t143:=Tryz.underlying380
 a143:=Tryz.isAgg380
 z143:=Tryz.sizeOf380
 v143:=Tryz.zeroValue380
 t145:=Tryz.underlying382
 a145:=Tryz.isAgg382
 z145:=Tryz.sizeOf382
 v145:=Tryz.zeroValue382
 t167:=Tryz.underlying308
 a167:=Tryz.isAgg308
 z167:=Tryz.sizeOf308
 v167:=Tryz.zeroValue308
 t168:=Tryz.underlying311
 a168:=Tryz.isAgg311
 z168:=Tryz.sizeOf311
 v168:=Tryz.zeroValue311
 t171:=Tryz.underlying338
 a171:=Tryz.isAgg338
 z171:=Tryz.sizeOf338
 v171:=Tryz.zeroValue338
 t173:=Tryz.underlying341
 a173:=Tryz.isAgg341
 z173:=Tryz.sizeOf341
 v173:=Tryz.zeroValue341
 t175:=Tryz.underlying344
 a175:=Tryz.isAgg344
 z175:=Tryz.sizeOf344
 v175:=Tryz.zeroValue344
 t210:=Tryz.underlying347
 a210:=Tryz.isAgg347
 z210:=Tryz.sizeOf347
 v210:=Tryz.zeroValue347
 t212:=Tryz.underlying374
 a212:=Tryz.isAgg374
 z212:=Tryz.sizeOf374
 v212:=Tryz.zeroValue374
 t213:=Tryz.underlying375
 a213:=Tryz.isAgg375
 z213:=Tryz.sizeOf375
 t232:=Tryz.underlying409
 a232:=Tryz.isAgg409
 z232:=Tryz.sizeOf409
 v232:=Tryz.zeroValue409
 t233:=Tryz.underlying410
 a233:=Tryz.isAgg410
 z233:=Tryz.sizeOf410
 v233:=Tryz.zeroValue410
 g15:=aav
 g16:=aav
 g17:=aav
 g18:=aav
 g19:=aav
 t80:=Tryz.underlying246
 a80:=Tryz.isAgg246
 z80:=Tryz.sizeOf246
 v80:=Tryz.zeroValue246
 i0:=aav
 i2:=aav
 i3:=aav
 i4:=aav
 i5:=aav
 i9:=aav
 i20:=aav
 i21:=aav
 i37:=aav
 i46:=aav
 i51:=aav
 i53:=aav
 i75:=aav
 i76:=aav
 i80:=aav
 i85:=aav
 i127:=aav
 i143:=aav
 i145:=aav
 i167:=aav
 i168:=aav
 i171:=aav
 i173:=aav
 i175:=aav
 i210:=aav
 i212:=aav
 i232:=aav
 i233:=aav
 m15:=aaG
 m16:=aaG
 m17:=aaG
 m18:=aaG
 m19:=aaG
 c0:=aav
 c2:=aav
 c3:=aav
 c4:=aav
 c5:=aav
 c9:=aav
 c20:=aav
 c21:=aav
 c37:=aav
 c46:=aav
 c51:=aav
 c53:=aav
 c75:=aav
 c76:=aav
 c80:=aav
 c85:=aav
 c127:=aav
 c143:=aav
 c145:=aav
 c167:=aav
 c168:=aav
 c171:=aav
 c173:=aav
 c175:=aav
 c210:=aav
 c212:=aav
 c213:=aav
 c232:=aav
 c233:=aav}
open Go.RowKit in
theorem Tryz.strconv_Atoi_ok(s:ByteArray)(hmax:s.size≤9223372036854775806)(v:Int)(h:Lib.atoiAll s.data.toList= .ok v)(w:World):
  Calls Tryz.prog 154 #[.string s] w fun e w' =>e= .returned (.tuple #[.int .i64 v,.nilIface])∧(w' =w∨∃t,w' =Lib.bytesWorld w 5 t):=Any.strconv_Atoi_ok Tryz.Cu s hmax v h w
open Go.RowKit in
theorem Tryz.strconv_Atoi_range(s:ByteArray)(hlim:s.size≤281474976710656)(h:Lib.atoiAll s.data.toList= .range)(ev:Value)(w:World)(hv:w.cell? ⟨2,0,none⟩=some ev)(hev:ev= .nilIface∨∃te pe,ev= .iface te pe):
  Calls Tryz.prog 154 #[.string s] w fun e w' =>∃N,e= .returned (.tuple #[.int .i64 (Lib.atoiSat s.data.toList),.iface 311 (.pointer (some ⟨N,0,none⟩))])∧w.heap.size≤N∧w'.heap[N]? =some (.cells #[.string ⟨#[65,116,111,105]⟩,.string s,ev] 347 (0,0))∧Below w.heap.size w w' :=Any.strconv_Atoi_range Tryz.Cu s hlim h ev w hv hev
end Go.Proofs
namespace Go.Proofs.YtcochaoekecfdaaGreatDoor
open Go Go.Ab Go.Bf Go.RowKit
theorem Ic(s:Txt)(hs:s.length≤100000)(w:World):Calls Tryz.prog 233 #[.string ⟨s.toArray⟩,.func (.func 197) #[] #[]] w fun e w' =>e= .returned (.int .i64 (s.takeWhile dgt).length)∧Below w.heap.size w w' :=by
 refine Go.Ab.ai.calls (args:=[.s s,.fn 197 []]) ⟨_,Tryz.func233,aaG,rfl⟩ ((KI _ _ lR s di).mono fun _ _ h=>h.1) rfl (fun i hi=> ?_)
 rcases i with _|_|i
 ·exact .s s (by grind [lim,Nat])
 ·exact .fn _ [] #[] rfl (fun i hi=>by cases hi)
 ·simp at hi;omega
def zf(neg:Bool)(d:Txt):Int:=if neg then -(oP d:Int)else(oP d:Int)
def inI(neg:Bool)(d:Txt):Prop:= -9223372036854775808≤(if neg then -(oP d:Int)else(oP d:Int))∧(if neg then -(oP d:Int)else(oP d:Int))≤9223372036854775807
instance (neg:Bool) (d:Txt):Decidable (inI neg d):=inferInstanceAs (Decidable (_∧_))
theorem yh(neg:Bool):(oN neg).length≤1:=by cases neg<;>decide
theorem Fi(neg:Bool)(d:Txt)(h0:d≠ [])(hd:∀c∈d,dgt c=true)(hlen:d.length≤10000)(S:ByteArray)(hS:S=⟨(oN neg++d).toArray⟩)(hr:inI neg d)(W:World):
  Calls Tryz.prog 154 #[.string S] W fun e w' =>e= .returned (.tuple #[.int .i64 (zf neg d),.nilIface])∧Below W.heap.size W w' :=by
 have hl:=yh neg;have hsz:S.size≤10001:=by grind [ByteArray.size]
 have ha:Lib.atoiAll S.data.toList= .ok (zf neg d):=by
  rw[hS];rw[uH neg d h0 hd];exact if_pos hr
 refine(Tryz.strconv_Atoi_ok S aar _ ha W).mono ?_
 rintro e w' ⟨rfl,rfl|⟨t,rfl⟩⟩
 ·exact⟨rfl,.refl _ _⟩
 ·exact⟨rfl,Lib.bytesWorld_below W _ t⟩
theorem BH(neg:Bool)(d:Txt)(h0:d≠ [])(hd:∀c∈d,dgt c=true)(hlen:d.length≤10000)(S:ByteArray)(hS:S=⟨(oN neg++d).toArray⟩)(hr:¬inI neg d)(W:World)(ev:Value)(hv:W.cell? ⟨2,0,none⟩=some ev)(hev:ev= .nilIface∨∃te pe,ev= .iface te pe):
  Calls Tryz.prog 154 #[.string S] W fun e w' =>(∃(x:Int) (N:Nat),e= .returned (.tuple #[.int .i64 x,.iface 311 (.pointer (some ⟨N,0,none⟩))]))∧Below W.heap.size W w' :=by
 have hl:=yh neg;have hsz:S.size≤10001:=by grind [ByteArray.size]
 have ha:Lib.atoiAll S.data.toList= .range:=by
  rw[hS];rw[uH neg d h0 hd];exact if_neg hr
 refine(Tryz.strconv_Atoi_range S aar ha ev W hv hev).mono ?_
 grind
set_option maxHeartbeats 1000000 in
theorem CH(neg:Bool)(s:Txt)(hs:s.length≤10000)(w:World)(ev:Value)(hv:w.cell? ⟨2,0,none⟩=some ev)(hev:ev= .nilIface∨∃te pe,ev= .iface te pe)(hg:2<w.heap.size):
  Calls Tryz.prog 198 #[.string ⟨(oN neg).toArray⟩,.string ⟨s.toArray⟩] w fun e w' =>e= .returned (.tuple #[.int .i64 (eC neg s).1,.int .i64 ((eC neg s).2:Nat)])∧Below w.heap.size w w' :=by
 have hle:=jB dgt s;obtain⟨d,ed⟩:∃d,s.takeWhile dgt=d:=⟨_,rfl⟩;have htk:s.take d.length=d:=by grind [qo]
 have hrun:=Ic s aar w;have hall:=zc s;rw[ed]at hrun hle hall
 go_enter Tryz.func198,Tryz.ntmps198
 by_cases h0:d.length=0
 ·have e0:d= []:=by grind
  have en:eC neg s=(0,0):=by simp_all [eC,if_pos]
  go_wp2_with (go_at_call 233;refine hrun.mono ?_)
  rintro e W0 ⟨rfl,b0⟩
  rw[h0]
  go_wp2
  go_ret2
  simp_all
 ·have e0:d≠ []:=by grind
  go_wp2_with (go_at_call 233;refine hrun.mono ?_)
  rintro e W0 ⟨rfl,b0⟩
  have hpos:0<d.length:=aar;have hs0:0<s.length:=aar;have hsz:0<(⟨s.toArray⟩:ByteArray).size:=by grind [ByteArray.size]
  have hg0:(⟨s.toArray⟩:ByteArray)[0]=s[0]:=rfl;have hgn:∀x:UInt8,(s.head? =some x)↔s[0]=x:=fun x=>by
   rw[List.head?_eq_getElem?,List.getElem?_eq_getElem hs0];simp
  cases d0:((d.length:Int)==0)
  case true=>exact absurd aas h0
  have hS:(⟨(oN neg).toArray⟩:ByteArray)++(⟨s.toArray⟩:ByteArray).extract 0 d.length=⟨(oN neg++d).toArray⟩:=by
   apply ByteArray.ext
   simp_all
  have hcat:¬9223372036854775807<List.length (oN neg)+d.length:=by grind [yh]
  cases d1:decide (1<(d.length:Int))
  ·have f1:¬1<d.length:=by grind
   have en:eC neg s=if inI neg d then(zf neg d,d.length)else(0,0):=by
    unfold eC;rw[ed,if_neg aas];rfl
   have hv0:W0.cell? ⟨2,0,none⟩=some ev:=by rw[b0.cell hg];omega
   by_cases hr:inI neg d
   ·rw[if_pos hr]at en
    go_wp2_with (go_at_call 154;refine(Fi neg d e0 hall aar _ aaG hr _).mono ?_)
    rintro e W1 ⟨rfl,b1⟩
    go_wp2
    go_ret2
    rw[en];exact ab5
   ·rw[if_neg hr]at en
    go_wp2_with (go_at_call 154;refine(BH neg d e0 hall aar _ aaG hr _ ev hv0 hev).mono ?_)
    rintro e W1 ⟨⟨x,N,rfl⟩,b1⟩
    go_wp2
    go_ret2
    rw[en];exact ab5
  ·have f1:1<d.length:=by grind
   cases d2:((s[0].toNat:Int)==48)
   ·have f2:s.head?≠some 48:=by
     rw[ne_eq,hgn];intro e;simp_all
    have en:eC neg s=if inI neg d then(zf neg d,d.length)else(0,0):=by
     unfold eC;rw[ed,if_neg aas];rfl
    have hv0:W0.cell? ⟨2,0,none⟩=some ev:=by rw[b0.cell hg];omega
    by_cases hr:inI neg d
    ·rw[if_pos hr]at en
     go_wp2_with (go_at_call 154;refine(Fi neg d e0 hall aar _ aaG hr _).mono ?_)
     rintro e W1 ⟨rfl,b1⟩
     go_wp2
     go_ret2
     rw[en];exact ab5
    ·rw[if_neg hr]at en
     go_wp2_with (go_at_call 154;refine(BH neg d e0 hall aar _ aaG hr _ ev hv0 hev).mono ?_)
     rintro e W1 ⟨⟨x,N,rfl⟩,b1⟩
     go_wp2
     go_ret2
     rw[en];exact ab5
   ·have f2:s.head? =some 48:=by
     rw[hgn];have:(s[0].toNat:Int)=48:=aas;exact UInt8.toNat_inj.1 aas
    have en:eC neg s=(0,0):=by simp_all [eC,if_pos]
    go_wp2
    go_ret2
    simp_all
def lJ(h:Heap):Prop:=∃ev:Value,(ev= .nilIface∨∃te pe,ev= .iface te pe)∧Tab h 2 [ev]
theorem lJ.sub{h h' :Heap}(he:lJ h)(hs:Ab.Sub h h'):lJ h' :=by
 obtain⟨ev,h1,h2⟩:=he;exact⟨ev,h1,h2.sub hs⟩
theorem lF(neg:Bool)(s:Txt)(hs:s.length≤10000)(h:Heap)(he:lJ h):ai Tryz.prog 198 [.s (oN neg),.s s] h fun r h' =>r= .tup [.v (.int .i64 (eC neg s).1),.i ((eC neg s).2:Nat)]∧h' =h:=by
 obtain⟨ev,hev,id,hi⟩:=he;refine .lib ⟨_,Tryz.func198,aaG,rfl⟩ fun c vs hs' g h1 h2=> ?_
 obtain⟨u,v,rfl⟩:∃u v,vs= #[u,v]:=by
  match vs,h1 with
  |⟨[u,v]⟩,_=>exact⟨u,v,rfl⟩
 have e1:u= .string ⟨(oN neg).toArray⟩:=((h2 0 aaz).mG).1;have e2:v= .string ⟨s.toArray⟩:=((h2 1 aaz).mG).1;subst e1;subst e2
 obtain⟨_,t,fr,hh⟩:=g.ro id _ _ (hs' _ _ hi);have hc:c.w.cell? ⟨2,0,none⟩=some ev:=by grind [World.cell?]
 refine(CH neg s hs c.w ev hc hev (cO hh)).mono ?_
 rintro e w' ⟨rfl,hb⟩
 refine⟨⟨_,rfl,fun c' _=> ?_⟩,hb⟩
 refine .tup _ _ rfl fun i hi=> ?_
 rcases i with _|_|i
 ·exact acG
 ·exact acG
 ·simp at hi;omega
end Go.Proofs.YtcochaoekecfdaaGreatDoor
namespace Go.Bf
open Go Go.Ab
def marks:Txt:=[123,125,40,41,46,44,59,61,60,62,33]
theorem yP:∀n:Fin 256,decide (0≤Lib.indexByte marks (UInt8.ofNat n.val))=CB (UInt8.ofNat n.val):=aau
theorem qC(c:UInt8):decide (0≤Lib.indexByte marks c)=CB c:=by
 have:=yP ⟨c.toNat,c.toNat_lt⟩;simpa using this
end Go.Bf
namespace Go.Proofs.YtcochaoekecfdaaGreatDoor
open Go Go.Ab Go.Bf
theorem Cm(l:Txt)(c:UInt8)(h:Heap):ai Tryz.prog 200 [.s l,.v (.int .u8 c.toNat)] h fun r h' =>r= .i (Lib.indexByte l c)∧h' =h:=by
 refine .lib ⟨_,Tryz.func200,aaG,rfl⟩ fun cx vs hs' g h1 h2=> ?_
 obtain⟨u,v,rfl⟩:∃u v,vs= #[u,v]:=by
  match vs,h1 with
  |⟨[u,v]⟩,_=>exact⟨u,v,rfl⟩
 have e1:u= .string ⟨l.toArray⟩:=((h2 0 aaz).mG).1;have e2:v= .int .u8 c.toNat:=(h2 1 aaz).bQ;subst e1;subst e2
 refine(Tryz.strings_IndexByte ⟨l.toArray⟩ c.toNat cx.w).mono ?_
 rintro e w' ⟨rfl,rfl⟩
 refine⟨⟨_,rfl,fun c' _=> ?_⟩,.refl _ _⟩
 have:((c.toNat:Int).toNat).toUInt8=c:=aaz;rw[this];exact acG
theorem Gw(s:Txt)(h0:s≠ [])(hs:s.length≤4096)(h:Heap)(he:lJ h):ai Tryz.prog 159 [.s s] h fun r h' =>r= .tup [fo (bN s).1,.i ((bN s).2:Nat)]∧h' =h:=by
 refine aaq Tryz.func159 106 [.cell 2 186,.tmp 3] fun hwf=> ?_
 obtain⟨c,r,rfl⟩:=List.exists_cons_of_ne_nil h0;have hsl:r.length≤4095:=by simpa using hs
 simp only[go_sem];intro i2 hi2;simp only[go_sem];intro i4 hi4;have n24:=aF hi4;have g2:∀(f:Heap) (x:Option Blk),upd f i4 x i2=f i2:=fun f x=>ag f x n24.symm
 have g4:∀(f:Heap) (x:Option Blk),upd f i2 x i4=f i4:=fun f x=>ag f x n24
 have hsub:Ab.Sub h (upd (upd h i2 (some (.obj [.i 0,.i 0,.i 0,.s []] 186))) i4 (some (.obj [.i 0,.i 0,.i 0,.s []] 186))):=(Sub.aj hi2).trans (.aj hi4);have he2:=he.sub hsub;have hi4h:h i4=none:=by rw[ag _ _ n24]at hi4;exact hi4
 simp only[go_sem];refine .at 0 aaz ?_;cases la:decide (97≤(c.toNat:Int))
 ·have hl:ltr c=false:=by simp only[ltr,la,Bool.false_and]
  simp only[go_sem,aL,List.getElem_cons_zero,la];exact aex
 ·cases lb:decide ((c.toNat:Int)≤122)
  ·have hl:ltr c=false:=by simp only[ltr,lb,Bool.and_false]
   simp only[go_sem,aL,List.getElem_cons_zero,la,lb];exact aex
  ·have hl:ltr c=true:=by simp only[ltr,la,lb];rfl
   simp only[go_sem,aL,List.getElem_cons_zero,la,lb];refine(xJ _ _).pthen ?_;simp only[go_sem,g2,ah];exact .mk _ (.refl _) aat ⟨by simp[bN,hl,fo,au],rfl⟩
theorem MW:(U 186).sz=4:=aaG
theorem SZ:(U 186).bytes=40:=aaG
theorem oC(l:List qK):Sized 4 (l.map fo):=fun z hz=>by
 obtain⟨c,_,rfl⟩:=List.mem_map.1 hz;rfl
def Ml:Lexed→AV
 |.bad e a=> .tup [.sl [] .no,.i e,.i a]
 |.ok l=> .tup [.sl (l.map fo) .no,.i 0,.i 0]
def IL(s:Txt)(h:Heap)(m:Nat)(ρ:Env)(h' :Heap):Prop:=
 ∃(i f:Nat) (y:AV) (out:List qK) (id:Nat),Acc U 186 h h' y (out.map fo)∧out.length≤i∧i≤s.length∧m=s.length - i∧s.length<f+i∧s.length≤4096∧h id=none∧(∃c0 c1 c2 c3,h' id=some (.obj [c0,c1,c2,c3] 186))∧sB f (s.drop i) i out=rC s∧lk ρ 0=some (.s s)∧lk ρ 5=some y∧lk ρ 6=some (.ptr id 0)∧lk ρ 7=some (.i i)
theorem DC(s:Txt)(h:Heap)(he:lJ h):ai Tryz.prog 113 [.s s] h fun r h' =>r=Ml (rC s)∧h' =h:=by
 refine ai.of_wp hU Tryz.func113 rfl aaG 52 rfl [.tmp 2,.tmp 3,.tmp 4] rfl (aag rfl) ?_;refine .one hU hm ?_;simp only[go_sem];refine WP.KJ hU hm 0 (IL s h) rfl ?_ ?_
 ·rintro m ρ h' ⟨i,f,y,out,id,hy,hoi,hi,rfl,hf,hs,hid,⟨c0,c1,c2,c3,hob⟩,hl,r0,r5,r6,r7⟩
  refine .vc hU hm ?_;cases d1:((i:Int)==(s.length:Int))
  case true=>
   have e1:i=s.length:=aas;subst e1;obtain⟨f,rfl⟩:∃g,f=g+1:=⟨f - 1,aar⟩;rw[List.drop_length]at hl;simp only[sB]at hl;simp only[go_sem,r0,r5,r7,d1];refine hy.app (zs:=[fo ⟨7,s.length,0,[]⟩]) aau aau (fun k hk=>hk) (by grind [MW,oC]) (by rw[MW];exact oC [⟨7,s.length,0,[]⟩]) (by grind [SZ]) fun y' h2 hy' hk2=> ?_
   simp only[go_sem];obtain⟨q,rfl⟩:=hy'.row;refine .mk _ (Aw _ _ _ _) hy'.1 ⟨?_,rfl⟩
   grind [Ml]
  have e1:i≠s.length:=aas;have hlt:i<s.length:=aar;obtain⟨f,rfl⟩:∃g,f=g+1:=⟨f - 1,aar⟩;have hdr:s.drop i=s[i]::s.drop (i+1):=aaz;have w1:IntKind.i64.wrap ((i:Int)+1)=((i+1:Nat):Int):=aaE;have hl2:=hl;rw[hdr]at hl2;simp only[sB]at hl2;rw[←hdr]at hl2;have blank:o6 s[i]=true→∃m',m' <s.length - i∧True:=fun _=>⟨s.length - (i+1),aar,trivial⟩
  cases d2:((s[i].toNat:Int)==32)
  case true=>
   have hb:o6 s[i]=true:=by simp only[o6,d2,Bool.true_or]
   rw[if_pos hb]at hl2;simp only[go_sem,r0,r7,d1];refine .at i hlt ?_;simp only[go_sem,r7,aL,d2,w1];exact afj
  cases d3:((s[i].toNat:Int)==10)
  case true=>
   have hb:o6 s[i]=true:=by simp only[o6,d3,Bool.or_true]
   rw[if_pos hb]at hl2;simp only[go_sem,r0,r7,d1];refine .at i hlt ?_;simp only[go_sem,r0,r7,aL,d2];refine .at i hlt ?_;simp only[go_sem,r7,aL,d3,w1];exact afj
  have hb:¬o6 s[i]=true:=by grind [o6]
  rw[if_neg hb]at hl2;have hne:s.drop i≠ []:=fun e=>by have:=congrArg List.length e;simp at this;omega
  have hle:=ri (s.drop i) hne;have hdl:(s.drop i).length=s.length - i:=aaz;have hbo:=fun hh eh=>Gw (s.drop i) hne aar hh eh
  obtain⟨t,n,etn⟩:∃t n,bN (s.drop i)=(t,n):=⟨_,_,rfl⟩;rw[etn]at hbo hl2 hle;simp only[fo]at hbo hl2 hle;simp only[go_sem,r0,r7,d1];refine .at i hlt ?_;simp only[go_sem,r0,r7,aL,d2];refine .at i hlt ?_;simp only[go_sem,r0,r7,aL,d3,kZ,Option.isSome_none,Option.isSome_some,Int.toNat_natCast];refine⟨aar,aar,aar, ?_⟩;refine(hbo _ (he.sub hy.1)).pthen ?_;cases d4:((n:Int)==0)
  case true=>
   have e4:n=0:=aas;rw[if_pos e4]at hl2;simp only[go_sem,r6,r7,hob,d4];refine .mk _ (Aw _ _ _ _) (hy.1.put hid _) ⟨?_,rfl⟩;rw[←hl2];rfl
  have e4:n≠0:=aas;rw[if_neg e4]at hl2;have w2:IntKind.i64.wrap ((i:Int)+(n:Int))=((i+n:Nat):Int):=aaE;simp only[go_sem,r5,r6,r7,hob,d4];refine(hy.put hid hob _).app (zs:=[fo {t with pos:=i}]) aau aau (fun k hk=>hk) (by grind [MW,oC]) (by rw[MW];exact oC [{t with pos:=i}]) (by grind [SZ]) fun y' h2 hy' hk2=> ?_
  simp only[go_sem,r7,w2];refine⟨s.length - (i+n),aar,i+n,f,y',out++ [{t with pos:=i}],id,aas,aas,aar,rfl,aar,hs,hid,⟨_,_,_,_,hk2 _ _ _ (ah ..)⟩, ?_, ?_, ?_, ?_, ?_⟩
  ·grind [List.drop_drop]
  all_goals simp only[go_sem,r0,r6]
 ·intro nx
  cases d0:decide (4096<(s.length:Int))
  case true=>
   have e0:s.length>4096:=aas;refine .one hU hm ?_;simp only[go_sem,d0];exact .mk (.tup [.sl [] .no,.i 6,.i 4096]) (eY (.tup [.sl [] .full,.i 6,.i 4096])) (.refl _) ⟨by rw[rC,if_pos e0];rfl,rfl⟩
  have e0:¬s.length>4096:=aas;refine .one hU hm ?_;simp only[go_sem,d0];refine .one hU hm ?_;simp only[go_sem];refine .one hU hm ?_;simp only[go_sem];intro id hid;simp only[go_sem];refine .one hU hm ?_;simp only[go_sem];refine .one hU hm ?_;simp only[go_sem];refine nx (s.length - 0) _ _ ⟨0,s.length+1,_,[],id,.full (.aj hid),aaz,aar,rfl,aar,aar,hid,⟨_,_,_,_,ah ..⟩,by simp_all [rC,if_neg], ?_, ?_, ?_, ?_⟩<;>simp only[go_sem]
def PO(st:PS):Blk:=.obj [.sl (st.ts.map fo) .no,.i st.pos,.i st.rules,.i st.bad,.i st.place] 183
def PC(f:FuncId)(args:List AV)(st:PS)(R:AV)(st' :PS):Prop:=∀(h:Heap) (id:Nat),h id=some (PO st)→ai Tryz.prog f (.ptr id 0::args) h fun r h' =>r=R∧h' =upd h id (some (PO st'))
theorem PC.go{f:FuncId}{args:List AV}{st st' :PS}{R:AV}(hc:PC f args st R st'){h:Heap}{id:Nat}{Q:AV→Heap→Prop}(hid:h id=some (PO st))(k:Q R (upd h id (some (PO st')))):ai Tryz.prog f (.ptr id 0::args) h Q:=
 (hc h id hid).mono fun r h' ⟨e1,e2⟩=>ac0
theorem bB{h:Heap}{id:Nat}{b:Option Blk}(e:h id=b):upd h id b=h:=by
 grind [ah,ag]
theorem qt(st:PS)(e p:Int):PC 118 [.i e,.i p] st (.tup []) (bD st e p):=fun h id hid=>by
 refine aaq Tryz.func118 19 [] fun hwf=> ?_
 have g:=hid;unfold PO at g;cases d1:(st.bad==0)
 ·have e1:st.bad≠0:=by grind
  simp only[go_sem,g,d1];exact .mk _ (.refl _) (.refl _) ⟨rfl,by rw[bD,if_neg e1,bB hid]⟩
 ·have e1:st.bad=0:=by grind
  simp only[go_sem,g,d1];exact .mk _ (.refl _) (.refl _) ⟨rfl,by rw[bD,if_pos e1];rfl⟩
theorem lf(st:PS)(hw:WfP st):PC 115 [] st (fo (aI st)) st:=fun h id hid=>by
 refine aaq Tryz.func115 13 [.cell 2 186] fun hwf=> ?_
 have g:=hid;unfold PO at g;simp only[go_sem];intro i2 hi2;have n2:id≠i2:=fun e=>aas
 simp only[go_sem,g,ak,n2];refine⟨.of aav, ?_⟩;refine .at st.pos (by simpa using hw.1) aaH ?_
 simp only[go_sem,aai,fo];refine .mk _ (.refl _) (.aj hi2) ⟨by rw[Ck hw.1];rfl,(bB hid).symm⟩
theorem kI(st:PS)(hw:WfP st):PC 116 [] st (.tup []) (bf st):=fun h id hid=>by
 refine aaq Tryz.func116 7 [] fun hwf=> ?_
 simp only[go_sem];refine(lf st hw).go hid ?_;rw[bB hid];simp only[go_sem,fo];refine(qt st 5 _).go hid ?_;exact ae1
theorem cF(st:PS)(b:Bool)(hw:WfP st):PC 204 [.b b] st (.tup []) (bA st b):=fun h id hid=>by
 refine aaq Tryz.func204 10 [] fun hwf=> ?_
 cases b
 ·simp only[go_sem]
  exact ac6
 simp only[go_sem];refine(lf st hw).go hid ?_;rw[bB hid];simp only[go_sem,fo];refine(qt st 6 _).go hid ?_;exact ae1
theorem sw(st:PS)(s:Txt)(hw:WfP st):PC 205 [.s s] st (.b (isD st s)) st:=fun h id hid=>by
 refine aaq Tryz.func205 29 [.tmp 4] fun hwf=> ?_
 have g:=hid;unfold PO at g;simp only[go_sem];refine(lf st hw).go hid ?_;rw[bB hid];simp only[go_sem,fo];intro i2 hi2;have n2:id≠i2:=fun e=>aas
 cases d1:(st.bad==0)<;>cases d2:((aI st).s==s)<;>cases d3:((aI st).kind==1)<;>cases d4:((aI st).kind==6)
 all_goals
  simp only[go_sem,g,ak,n2,d1,d2,d3,d4];exact .mk _ (.refl _) (.aj hi2) ⟨by simp only[isD,d1,d2,d3,d4];rfl,rfl⟩
theorem jC(st:PS)(s:Txt)(hw:WfP st):PC 202 [.s s] st (.v (.bool (ck st s).1)) (ck st s).2:=fun h id hid=>by
 refine aaq Tryz.func202 18 [.tmp 4] fun hwf=> ?_
 have g:=hid;unfold PO at g;simp only[go_sem];refine(sw st s hw).go hid ?_;rw[bB hid];cases d1:isD st s
 ·have e:ck st s=(false,st):=by grind [ck]
  simp only[go_sem];exact .mk _ (.refl _) (.refl _) ⟨aec,by grind [bB]⟩
 ·have e:ck st s=(true,aY st):=by grind [ck]
  have w1:IntKind.i64.wrap ((st.pos:Int)+1)=((st.pos+1:Nat):Int):=abY;simp only[go_sem,g,w1];exact .mk _ (.refl _) (.refl _) ⟨aec,aec⟩
theorem jY(st:PS)(s:Txt)(hw:WfP st):PC 163 [.s s] st (.tup []) (dJ st s):=fun h id hid=>by
 refine aaq Tryz.func163 10 [] fun hwf=> ?_
 simp only[go_sem];refine(jC st s hw).go hid ?_;cases d1:isD st s
 ·have e:ck st s=(false,st):=by grind [ck]
  rw[e,bB hid];simp only[go_sem];refine(kI st hw).go hid ?_;exact afT
 ·have e:ck st s=(true,aY st):=by grind [ck]
  rw[e];exact afT
theorem sP(st:PS)(hw:WfP st):PC 161 [] st (.s (cj st).1) (cj st).2:=fun h id hid=>by
 refine aaq Tryz.func161 25 [.tmp 2] fun hwf=> ?_
 have g:=hid;unfold PO at g;have w1:IntKind.i64.wrap ((st.pos:Int)+1)=((st.pos+1:Nat):Int):=abY;simp only[go_sem];refine(lf st hw).go hid ?_;rw[bB hid];simp only[go_sem,fo];intro i2 hi2;have n2:id≠i2:=fun e=>aas
 cases d1:((aI st).kind !=1)
 case true=>
  have e1:(aI st).kind≠1:=aas;have en:cj st=([],bf st):=by grind [cj]
  simp only[go_sem,d1];have hid2:upd h i2 (some (.obj [.v (.int .i64 (aI st).kind),.v (.int .i64 (aI st).pos),.v (.int .i64 (aI st).n),.s (aI st).s] 186)) id=some (PO st):=aaZ;refine(kI st hw).go hid2 ?_;have hb:(bf st).bad≠0:=by
   grind [bf,bD,Int]
  have d2:((bf st).bad !=0)=true:=aas;simp only[go_sem,PO,d2];exact .mk _ (.refl _) (Sub.both (.aj hi2) _ _) ⟨abc,aas⟩
 have e1:(aI st).kind=1:=aas;cases d2:(st.bad !=0)
 case true=>
  have e2:st.bad≠0:=aas;have en:cj st=([],st):=by grind [cj]
  simp only[go_sem,g,ak,n2,d1,d2];exact .mk _ (.refl _) (.aj hi2) ⟨abc,by grind [bB]⟩
 have e2:st.bad=0:=aas;have en:cj st=((aI st).s,aY st):=by grind [cj]
 simp only[go_sem,g,ak,n2,n2.symm,d1,d2,w1];exact .mk _ (.refl _) (Sub.both (.aj hi2) _ _) ⟨abc,by rw[en];try rfl⟩
theorem PC.run{f:FuncId}{args:List AV}{st st' :PS}{R:AV}(hc:PC f args st R st'){G:Heap}{id:Nat}{Q:AV→Heap→Prop}(k:Q R (upd G id (some (PO st')))):ai Tryz.prog f (.ptr id 0::args) (upd G id (some (PO st))) Q:=
 hc.go (ah ..) (by rw[mI];exact k)
theorem PC.of{f:FuncId}{args:List AV}{st st' :PS}{R:AV}(hk:∀(G:Heap) (id:Nat),ai Tryz.prog f (.ptr id 0::args) (upd G id (some (PO st))) fun r h' =>r=R∧h' =upd G id (some (PO st'))):PC f args st R st' :=fun h id hid=>by
 have:=hk h id;rw[bB hid]at this;exact aa8
theorem cq{α:Type}(f:Nat→α){i j:Nat}(x y:α)(h:i≠j):upd (upd f i x) j y=upd (upd f j y) i x:=by
 grind [ag,ah]
theorem A4{s:Txt}:∀ {ws:List Txt} {i:Nat},tN s ws=some i→i<ws.length
 |w::r,i,h=>by
  simp only[tN]at h;split at h
  ·grind
  ·cases hr:tN s r with
   |none=>grind
   |some j=>rw[hr]at h;cases h;have:=A4 hr;simp;omega
theorem FG{s:Txt}:∀ {ws:List Txt} (i:Nat) (hi:i<ws.length),(∀j (hj:j<ws.length),j<i→ws[j]≠s)→ws[i]=s→tN s ws=some i
 |w::r,0,_,_,h=>by grind [tN]
 |w::r,i+1,hi,hb,h=>by
  have h0:=hb 0 aaz aar;simp only[List.getElem_cons_zero]at h0;simp only[tN,if_neg h0];rw[FG i aas aas aas];rfl
theorem zL{s:Txt}:∀ {ws:List Txt},(∀j (hj:j<ws.length),ws[j]≠s)→tN s ws=none
 | [],_=>rfl
 |w::r,hb=>by
  have h0:=hb 0 aaz;simp only[List.getElem_cons_zero]at h0;simp only[tN,if_neg h0];rw[zL (fun j hj=>by have:=hb (j+1) aas;simpa using this)]
  rfl
def O1(o:Option Nat):Int:=match o with
 |some i=>i
 |none=> -1
theorem HB(ws:List Txt)(q:Perm)(s:Txt)(hl:ws.length≤1000)(h:Heap):ai Tryz.prog 201 [.sl (ws.map AV.s) q,.s s] h fun r h' =>r= .i (O1 (tN s ws))∧h' =h:=by
 refine aaq Tryz.func201 19 [.tmp 4] fun hwf=> ?_
 simp only[go_sem,aah];refine .intro (fun m ρ h' =>h' =h∧∃i:Nat,i≤ws.length∧m=ws.length - i∧(∀j (hj:j<ws.length),j<i→ws[j]≠s)∧lk ρ 0=some (.sl (ws.map AV.s) q)∧lk ρ 1=some (.s s)∧lk ρ 7=some (.i ws.length)∧lk ρ 8=some (.i i)) ws.length ?_ ?_
 ·refine⟨rfl,0,aar,rfl,fun j _ hj=>aar, ?_, ?_, ?_, ?_⟩<;>simp only[go_sem]
 ·rintro m ρ h' ⟨rfl,i,hi,rfl,hc,r0,r1,r7,r8⟩
  simp only[go_sem,r7,r8];refine .intro (fun e=> ?_) (fun e=> ?_)
  ·have hlt:i<ws.length:=aao e
   have w1:IntKind.i64.wrap ((i:Int)+1)=((i+1:Nat):Int):=aaE;simp only[go_sem,r0,r1,r8];refine .at i aas aaH ?_;cases d1:(s==ws[i])
   ·have e1:ws[i]≠s:=by grind
    simp only[go_sem,r8,aai,d1,w1];refine⟨_, ?_,rfl,i+1,aar,rfl,fun j hj hji=> ?_, ?_, ?_, ?_, ?_⟩
    ·omega
    ·grind
    all_goals simp only[go_sem,r0,r1,r7]
   ·have e1:ws[i]=s:=by grind
    simp only[go_sem,aai,d1];exact .same (.refl _) ⟨by rw[FG i hlt hc e1];rfl,rfl⟩
  ·have hge:i=ws.length:=by grind
   subst hge;simp only[go_sem];exact .same (.refl _) ⟨by rw[zL fun j hj=>hc j hj hj];rfl,rfl⟩
theorem mY(st:PS)(ws:List Txt)(q:Perm)(hl:ws.length≤1000)(hw:WfP st):PC 160 [.sl (ws.map AV.s) q] st (.v (.int .i64 (aU st ws).1)) (aU st ws).2:=.of fun G id=>by
 refine aaq Tryz.func160 28 [.tmp 4] fun hwf=> ?_
 simp only[go_sem];refine(lf st hw).run ?_;simp only[go_sem,fo];intro i2 hi2;have n2:=aF hi2;have hG2:G i2=none:=aaZ;have c2:∀(f:Heap) (x y:Option Blk),upd (upd f id x) i2 y=upd (upd f i2 y) id x:=fun f x y=>cq f x y n2.symm
 cases d1:((aI st).kind==1)
 ·have e1:(aI st).kind≠1:=by grind
  have en:aU st ws=(0,bf st):=by grind [aU]
  simp only[go_sem,c2,ak,n2,d1];exact aeY
 have e1:(aI st).kind=1:=aas;simp only[go_sem,c2,ak,n2,d1];refine(HB ws q _ hl _).pthen ?_;cases ei:tN (aI st).s ws with
 |none=>
  have en:aU st ws=(0,bf st):=by grind [aU]
  have dm:decide ((0:Int)≤ -1)=false:=aau;simp only[go_sem,O1,dm];exact aeY
 |some i=>
  have hil:=A4 ei;have d2:decide (0≤(i:Int))=true:=aaz;have w1:IntKind.i64.wrap ((i:Int)+1)=((i:Int)+1):=aaE;simp only[go_sem,O1,d2,ak,n2];refine(jC st _ hw).run ?_;cases d3:(st.bad==0)
  ·have e3:st.bad≠0:=by grind
   have et:ck st (aI st).s=(false,st):=by grind [ck,isD]
   have en:aU st ws=(0,bf st):=by grind [aU]
   rw[et];simp only[go_sem];exact aeY
  ·have e3:st.bad=0:=by grind
   have et:ck st (aI st).s=(true,aY st):=by grind [ck,isD]
   have en:aU st ws=((i:Int)+1,aY st):=by grind [aU]
   rw[et];simp only[go_sem,w1];exact .mk _ (.refl _) (Sub.both (.aj hG2) _ _) ⟨abc,by rw[en]⟩
theorem I4(st:PS)(hw:WfP st):PC 294 [] st (BI (fI st).1) (fI st).2:=.of fun G id=>by
 have h1:=ga uK hw;have h2:=iM [46] h1.1;have h3:=mc h2.1;refine aaq Tryz.func294 17 [.cell 2 227] fun hwf=> ?_
 simp only[go_sem];intro i2 hi2;have n2:=aF hi2;have hG2:G i2=none:=aaZ;have c2:∀(f:Heap) (x y:Option Blk),upd (upd f id x) i2 y=upd (upd f i2 y) id x:=fun f x y=>cq f x y n2.symm
 simp only[go_sem,c2];intro i3 hi3;have n3:=aF hi3;have hi3' :=hi3;rw[ag _ _ n3]at hi3';have n32:=aF hi3';have hG3:G i3=none:=aaZ;have c3:∀(f:Heap) (x y:Option Blk),upd (upd f id x) i3 y=upd (upd f i3 y) id x:=fun f x y=>cq f x y n3.symm
 have c23:∀(f:Heap) (x y:Option Blk),upd (upd f i3 x) i2 y=upd (upd f i2 y) i3 x:=fun f x y=>cq f x y n32
 have m32:¬i3=i2:=n32;have m23:¬i2=i3:=n32.symm;simp only[go_sem,c3];refine(mY st uK .full aau hw).run ?_;simp only[go_sem,c3,ak,n3];refine(jY _ [46] h1.1).run ?_;simp only[go_sem];refine(sP _ h2.1).run ?_;simp only[go_sem,c3,ak,n3];refine(jC _ [33] h3.1).run ?_;simp only[go_sem,c2,c3,c23,ak,n2,n3,m23];exact .mk _ (.refl _) (Sub.both aaR _ _) ⟨rfl,rfl⟩
theorem tg(st:PS)(hw:WfP st):PC 295 [] st (aQ (aC st).1) (aC st).2:=.of fun G id=>by
 refine aaq Tryz.func295 56 [.cell 2 30] fun hwf=> ?_
 have w1:IntKind.i64.wrap ((st.pos:Int)+1)=((st.pos+1:Nat):Int):=abY;simp only[go_sem];intro i2 hi2;have n2:=aF hi2;have hG2:G i2=none:=by rw[ag _ _ n2]at hi2;exact hi2
 have c2:∀(f:Heap) (x y:Option Blk),upd (upd f id x) i2 y=upd (upd f i2 y) id x:=fun f x y=>cq f x y n2.symm
 simp only[go_sem,c2];refine(lf st hw).run ?_;simp only[go_sem,fo];intro i3 hi3;have n3:=aF hi3;have hi3' :=hi3;rw[ag _ _ n3]at hi3';have n32:=aF hi3';have hG3:G i3=none:=by rw[ag _ _ n32]at hi3';exact hi3'
 have c3:∀(f:Heap) (x y:Option Blk),upd (upd f id x) i3 y=upd (upd f i3 y) id x:=fun f x y=>cq f x y n3.symm
 have c23:∀(f:Heap) (x y:Option Blk),upd (upd f i3 x) i2 y=upd (upd f i2 y) i3 x:=fun f x y=>cq f x y n32
 have m32:¬i3=i2:=n32;have m23:¬i2=i3:=n32.symm;simp only[go_sem,c3,ak,n3];intro i4 hi4;have n4:=aF hi4;have hi4' :=hi4;rw[ag _ _ n4]at hi4';have n43:=aF hi4';have hi4'' :=hi4';rw[ag _ _ n43]at hi4'';have n42:=aF hi4'';have hG4:G i4=none:=by rw[ag _ _ n42]at hi4'';exact hi4''
 have c4:∀(f:Heap) (x y:Option Blk),upd (upd f id x) i4 y=upd (upd f i4 y) id x:=fun f x y=>cq f x y n4.symm
 have c24:∀(f:Heap) (x y:Option Blk),upd (upd f i4 x) i2 y=upd (upd f i2 y) i4 x:=fun f x y=>cq f x y n42
 have c34:∀(f:Heap) (x y:Option Blk),upd (upd f i4 x) i3 y=upd (upd f i3 y) i4 x:=fun f x y=>cq f x y n43
 have m42:¬i4=i2:=n42;have m24:¬i2=i4:=n42.symm;have m43:¬i4=i3:=n43;have m34:¬i3=i4:=n43.symm;cases k2:((aI st).kind==2)
 case true=>
  have e2:(aI st).kind=2:=by simpa using k2
  have ev:fH st=(⟨2,(aI st).n,(aI st).s⟩,st):=by simp[fH,e2]
  cases kb:(st.bad !=0)
  ·have eb:st.bad=0:=by simpa using kb
   have en:aC st=(⟨2,(aI st).n,(aI st).s⟩,aY st):=abJ;simp only[go_sem,c2,c4,c23,c24,ak,n2,n3,n4,m23,m24,m34,k2,PO,kb,w1];exact aeD
  ·have eb:st.bad≠0:=by simpa using kb
   have en:aC st=(⟨0,0,[]⟩,st):=abJ;simp only[go_sem,c2,c4,c23,c24,ak,n2,n3,n4,m23,m24,m34,k2,PO,kb];exact aeD
 have e2:(aI st).kind≠2:=by simpa using k2
 cases k3:((aI st).kind==3)
 case true=>
  have e3:(aI st).kind=3:=by simpa using k3
  have ev:fH st=(⟨4,(aI st).n,(aI st).s⟩,st):=by simp[fH,e3]
  cases kb:(st.bad !=0)
  ·have eb:st.bad=0:=by simpa using kb
   have en:aC st=(⟨4,(aI st).n,(aI st).s⟩,aY st):=abJ;simp only[go_sem,c2,c4,c23,c24,ak,n2,n3,n4,m23,m24,m34,k2,k3,PO,kb,w1];exact aeD
  ·have eb:st.bad≠0:=by simpa using kb
   have en:aC st=(⟨0,0,[]⟩,st):=abJ;simp only[go_sem,c2,c4,c23,c24,ak,n2,n3,n4,m23,m24,m34,k2,k3,PO,kb];exact aeD
 have e3:(aI st).kind≠3:=by simpa using k3
 cases k4:((aI st).kind==4)
 case true=>
  have e4:(aI st).kind=4:=by simpa using k4
  have ev:fH st=(⟨5,(aI st).n,(aI st).s⟩,st):=by simp[fH,e4]
  cases kb:(st.bad !=0)
  ·have eb:st.bad=0:=by simpa using kb
   have en:aC st=(⟨5,(aI st).n,(aI st).s⟩,aY st):=abJ;simp only[go_sem,c2,c4,c23,c24,ak,n2,n3,n4,m23,m24,m34,k2,k3,k4,PO,kb,w1];exact aeD
  ·have eb:st.bad≠0:=by simpa using kb
   have en:aC st=(⟨0,0,[]⟩,st):=abJ;simp only[go_sem,c2,c4,c23,c24,ak,n2,n3,n4,m23,m24,m34,k2,k3,k4,PO,kb];exact aeD
 have e4:(aI st).kind≠4:=by simpa using k4
 cases k5:((aI st).kind==5)
 case true=>
  have e5:(aI st).kind=5:=by simpa using k5
  have ev:fH st=(⟨3,(aI st).n,(aI st).s⟩,st):=by simp[fH,e5]
  cases kb:(st.bad !=0)
  ·have eb:st.bad=0:=by simpa using kb
   have en:aC st=(⟨3,(aI st).n,(aI st).s⟩,aY st):=abJ;simp only[go_sem,c2,c4,c23,c24,ak,n2,n3,n4,m23,m24,m34,k2,k3,k4,k5,PO,kb,w1];exact aeD
  ·have eb:st.bad≠0:=by simpa using kb
   have en:aC st=(⟨0,0,[]⟩,st):=abJ;simp only[go_sem,c2,c4,c23,c24,ak,n2,n3,n4,m23,m24,m34,k2,k3,k4,k5,PO,kb];exact aeD
 have e5:(aI st).kind≠5:=by simpa using k5
 simp only[go_sem,c4,ak,n3,n4,m34,k2,k3,k4,k5];refine(sw st vu hw).run ?_;cases kt:isD st vu
 case true=>
  have ev:fH st=(⟨1,1,[]⟩,st):=by simp[fH,e2,e3,e4,e5,kt]
  cases kb:(st.bad !=0)
  ·have eb:st.bad=0:=by simpa using kb
   have en:aC st=(⟨1,1,[]⟩,aY st):=abJ;simp only[go_sem,c2,c4,c23,c24,ak,n2,n4,m23,m24,PO,kb,w1];exact aeD
  ·have eb:st.bad≠0:=by simpa using kb
   have en:aC st=(⟨0,0,[]⟩,st):=abJ;simp only[go_sem,c2,c4,c23,c24,ak,n2,n4,m23,m24,PO,kb];exact aeD
 simp only[go_sem];refine(sw st pH hw).run ?_;cases kf:isD st pH
 case true=>
  have ev:fH st=(⟨1,0,[]⟩,st):=by simp[fH,e2,e3,e4,e5,kt,kf]
  cases kb:(st.bad !=0)
  ·have eb:st.bad=0:=by simpa using kb
   have en:aC st=(⟨1,0,[]⟩,aY st):=abJ;simp only[go_sem,c2,c4,c23,c24,ak,n2,n4,m23,m24,PO,kb,w1];exact aeD
  ·have eb:st.bad≠0:=by simpa using kb
   have en:aC st=(⟨0,0,[]⟩,st):=abJ;simp only[go_sem,c2,c4,c23,c24,ak,n2,n4,m23,m24,PO,kb];exact aeD
 have ev:fH st=(⟨0,(aI st).n,(aI st).s⟩,bf st):=by simp[fH,e2,e3,e4,e5,kt,kf]
 have en:aC st=(⟨0,0,[]⟩,bf st):=by simp[aC,ev,qI]
 have kb:((bf st).bad !=0)=true:=by simpa using qI st
 simp only[go_sem];refine(kI st hw).run ?_;simp only[go_sem,c2,c23,c24,ak,n2,m23,m24,PO,kb];exact aeD
def sF:List Txt:=[[61],[60],[62]]
theorem Pt{st:PS}(i:Nat)(hi:i<sF.length)(hb:∀j (hj:j<sF.length),j<i→isD st sF[j]=false)(h:isD st sF[i]=true):opP st=((i:Int)+1,aY st):=by
 have h3:i<3:=hi;rcases(by omega:i=0∨i=1∨i=2)with rfl|rfl|rfl
 ·simp only[opP,show isD st [61]=true from h,if_true];rfl
 ·simp only[opP,show isD st [61]=false from hb 0 aau aau,show isD st [60]=true from h,if_true];rfl
 ·simp only[opP,show isD st [61]=false from hb 0 aau aau,show isD st [60]=false from hb 1 aau aau,show isD st [62]=true from h,if_true];rfl
theorem Kf{st:PS}(hb:∀j (hj:j<sF.length),isD st sF[j]=false):opP st=(0,bf st):=by
 simp only[opP,show isD st [61]=false from hb 0 aau,show isD st [60]=false from hb 1 aau,show isD st [62]=false from hb 2 aau];rfl
theorem FN(st:PS)(hw:WfP st):PC 269 [] st (dz (fW st).1) (fW st).2:=.of fun G id=>by
 have h1:=AH hw;obtain⟨a,st1,e1⟩:∃a st1,fI st=(a,st1):=⟨_,_,rfl⟩;have hat:=I4 st hw;rw[e1]at h1 hat;simp only at h1 hat;refine aaq Tryz.func269 32 [.cell 2 273] fun hwf=> ?_
 simp only[go_sem];intro i2 hi2;have n2:=aF hi2;have hG2:G i2=none:=aaZ;have c2:∀(f:Heap) (x y:Option Blk),upd (upd f id x) i2 y=upd (upd f i2 y) id x:=fun f x y=>cq f x y n2.symm
 simp only[go_sem,c2];refine hat.run ?_;simp only[go_sem,BI];intro i3 hi3;have n3:=aF hi3;have hi3' :=hi3;rw[ag _ _ n3]at hi3';have n32:=aF hi3';have hG3:G i3=none:=aaZ;have c3:∀(f:Heap) (x y:Option Blk),upd (upd f id x) i3 y=upd (upd f i3 y) id x:=fun f x y=>cq f x y n3.symm
 have c23:∀(f:Heap) (x y:Option Blk),upd (upd f i3 x) i2 y=upd (upd f i2 y) i3 x:=fun f x y=>cq f x y n32
 have m32:¬i3=i2:=n32;have m23:¬i2=i3:=n32.symm;simp only[go_sem,c3,ak,n3];refine .intro (fun m ρ H=>H=upd (upd (upd G i2 (some (.obj [.i 0,.s [],.b false,.i 0,.i 0,.i 0,.s []] 273))) i3 (some (.obj [.i a.cat,.s a.name,.b a.must,.i 0,.i 0,.i 0,.s []] 273))) id (some (PO st1))∧
  ∃i:Nat,i≤3∧m=3 - i∧(∀j (hj:j<sF.length),j<i→isD st1 sF[j]=false)∧lk ρ 0=some (.ptr id 0)∧lk ρ 2=some (.ptr i2 0)∧lk ρ 3=some (.ptr i3 0)∧lk ρ 9=some (.sl (sF.map AV.s) .full)∧lk ρ 10=some (.i 3)∧lk ρ 11=some (.i i)) 3 ?_ ?_
 ·refine⟨rfl,0,aar,rfl,fun j _ hj=>aar, ?_, ?_, ?_, ?_, ?_, ?_⟩<;>simp only[go_sem]<;>rfl
 ·rintro m ρ H ⟨rfl,i,hi,rfl,hb,r0,r2,r3,r9,r10,r11⟩
  simp only[go_sem,r10,r11];refine .intro (fun e=> ?_) (fun e=> ?_)
  ·have hlt:i<3:=by grind
   have hlo:i<sF.length:=hlt;have w1:IntKind.i64.wrap ((i:Int)+1)=((i+1:Nat):Int):=aaE;have w2:IntKind.i64.wrap (1+(i:Int))=((i:Int)+1):=aas;simp only[go_sem,r9,r11];refine .at i aas aaH ?_;simp only[go_sem,r0,aai];refine(jC st1 sF[i] h1.1).run ?_;cases d1:isD st1 sF[i]
   ·have et:ck st1 sF[i]=(false,st1):=by grind [ck]
    rw[et];simp only[go_sem,r11,w1];refine⟨_, ?_,rfl,i+1,aar,rfl,fun j hj hji=> ?_, ?_, ?_, ?_, ?_, ?_, ?_⟩
    ·omega
    ·grind
    all_goals simp only[go_sem,r0,r2,r3,r9,r10]
   ·have et:ck st1 sF[i]=(true,aY st1):=by grind [ck]
    have eo:=Pt i hlo hb d1;have h2:Ah st1 (aY st1):=ew h1.1 (cZ d1);have en:fW st=(⟨a,(i:Int)+1,(aC (aY st1)).1⟩,(aC (aY st1)).2):=by grind [fW]
    have d2:(((i:Int)+1)==0)=false:=aaG;rw[et];simp only[go_sem,c3,ak,n3,r0,r3,w2,d2];refine(tg (aY st1) h2.1).run ?_;exact afn
  ·have hge:i=3:=by grind
   subst hge;have eo:=Kf fun j hj=>hb j hj hj
   have h2:Ah st1 (bf st1):=mX h1.1;have en:fW st=(⟨a,0,(aC (bf st1)).1⟩,(aC (bf st1)).2):=by grind [fW]
   simp only[go_sem,r0,r3,ak,n3];refine(kI st1 h1.1).run ?_;simp only[go_sem,r0];refine(tg (bf st1) h2.1).run ?_;exact afn
theorem P4:(U 273).sz=7:=aaG
theorem S7:(U 273).bytes=72:=aaG
theorem Gd(l:List bM):Sized 7 (l.map dz):=fun z hz=>by
 obtain⟨c,_,rfl⟩:=List.mem_map.1 hz;rfl
theorem P0:(U 274).sz=1:=aaG
theorem S5:(U 274).bytes=24:=aaG
theorem Gc(l:List (List bM)):Sized 1 (l.map iA):=fun z hz=>by
 obtain⟨c,_,rfl⟩:=List.mem_map.1 hz;rfl
theorem P5:(U 270).sz=1:=aaG
theorem S9:(U 270).bytes=24:=aaG
theorem Gf(l:List (List (List bM))):Sized 1 (l.map cM):=fun z hz=>by
 obtain⟨c,_,rfl⟩:=List.mem_map.1 hz;rfl
theorem Nj(st:PS)(hw:WfP st):PC 238 [] st (iA (oO st).1) (oO st).2:=.of fun G id=>by
 have h1:=oW hw;have hm1:=FN st hw;obtain⟨x0,st1,e1⟩:∃x0 st1,fW st=(x0,st1):=⟨_,_,rfl⟩;have ep:fC fW [44] 8 st.ts.length st1 [x0]=oO st:=by grind [oO]
 rw[e1]at h1 hm1;simp only[dz]at h1 hm1;refine aaq Tryz.func238 20 [.tmp 2] fun hwf=> ?_
 simp only[go_sem];refine hm1.run ?_;simp only[go_sem];have hB:upd G id none id=none:=ah ..;refine .intro (fun m ρ H=>∃(f:Nat) (st' :PS) (l:List _) (y:AV),H id=some (PO st')∧Acc U 273 (upd G id none) H y (l.map dz)∧Ah st1 st'∧fC fW [44] 8 f st' l=oO st∧st1.ts.length≤f+st'.pos∧l.length≤st'.pos+1∧m=st1.ts.length - st'.pos∧lk ρ 0=some (.ptr id 0)∧lk ρ 3=some y) (st1.ts.length - st1.pos) ?_ ?_
 ·refine⟨st.ts.length,st1,[x0],.sl ([x0].map dz) .full,ah ..,.full (base_start G id _),.refl h1.1,ep,by rw[h1.2.1];omega,aaz,rfl, ?_, ?_⟩<;>simp only[go_sem]<;>rfl
 ·rintro m ρ H ⟨f,st',l,y,hH,hy,ha,hfin,hf,hll,rfl,r0,r3⟩
  have hlen:=ha.1.2.2;have hpos:=ha.1.1;have htl:=ha.2.1;simp only[go_sem,r0];refine(jC st' [44] ha.1).go hH ?_;cases d1:isD st' [44]
  ·have et:ck st' [44]=(false,st'):=by grind [ck]
   have ef:fC fW [44] 8 f st' l=(l,st'):=adO;rw[et,bB hH];rw[ef]at hfin;simp only[go_sem,r3];exact .mk (h' :=upd G id (some (PO (oO st).2))) (iA l) hy.weak (by rw[←hfin];exact eT hy.1 hH) ⟨aas,rfl⟩
  ·have et:ck st' [44]=(true,aY st'):=by grind [ck]
   obtain⟨g,rfl⟩:∃g,f=g+1:=⟨f - 1,aas⟩;simp only[fC,d1,if_true]at hfin;have h2:=ew ha.1 (cZ d1);have hone:=FN (aY st') h2.1;have h3:=(fun _ h=>oW h:∀st,WfP st→Ah st (fW st).2) _ h2.1
   obtain⟨x,st2,e2⟩:∃x st2,fW (aY st')=(x,st2):=⟨_,_,rfl⟩;rw[e2]at hfin hone h3;simp only[dz]at hfin hone h3;have hdec:decide ((8:Int)<((l.length+1:Nat):Int))=decide (8<l.length+1):=by
    grind
   have h4:=j8 (decide (8<l.length+1)) h3.1;have hnp:(aY st').pos=st'.pos+1:=rfl;have hp3:=h3.2.2;have hp4:=h4.2.2;rw[et];simp only[go_sem,r0,r3];refine hone.run ?_;simp only[go_sem];refine(hy.put hB hH _).app (zs:=[dz x]) (by grind [P4]) (by grind [S7]) (fun k hk=>hk) (by grind [P4,Gd]) (by rw[P4];exact Gd [x]) (by grind [S7]) fun y' H2 hy' hk2=> ?_
   exact aeB
theorem Nk(st:PS)(hw:WfP st):PC 203 [] st (cM (qL st).1) (qL st).2:=.of fun G id=>by
 have h0:=iM [40] hw;have h1:=AF h0.1;have hm1:=Nj _ h0.1;obtain⟨x0,st1,e1⟩:∃x0 st1,oO (dJ st [40])=(x0,st1):=⟨_,_,rfl⟩;obtain⟨M,eM⟩:∃M,fC oO orT 8 st.ts.length st1 [x0]=M:=⟨_,rfl⟩;have epp:(M.1,dJ M.2 [41])=qL st:=by grind [qL]
 rw[e1]at h1 hm1;simp only[iA]at h1 hm1;refine aaq Tryz.func203 24 [.tmp 2] fun hwf=> ?_
 simp only[go_sem];refine(jY st [40] hw).run ?_;simp only[go_sem];refine hm1.run ?_;simp only[go_sem];have hB:upd G id none id=none:=ah ..;refine .intro (fun m ρ H=>∃(f:Nat) (st' :PS) (l:List _) (y:AV),H id=some (PO st')∧Acc U 274 (upd G id none) H y (l.map iA)∧Ah st1 st'∧fC oO orT 8 f st' l=M∧st1.ts.length≤f+st'.pos∧l.length≤st'.pos+1∧m=st1.ts.length - st'.pos∧lk ρ 0=some (.ptr id 0)∧lk ρ 3=some y) (st1.ts.length - st1.pos) ?_ ?_
 ·refine⟨st.ts.length,st1,[x0],.sl ([x0].map iA) .full,ah ..,.full (base_start G id _),.refl h1.1,eM,by rw[h1.2.1,h0.2.1];omega,aaz,rfl, ?_, ?_⟩<;>simp only[go_sem]<;>rfl
 ·rintro m ρ H ⟨f,st',l,y,hH,hy,ha,hfin,hf,hll,rfl,r0,r3⟩
  have hlen:=ha.1.2.2;have hpos:=ha.1.1;have htl:=ha.2.1;simp only[go_sem,r0];refine(jC st' orT ha.1).go hH ?_;cases d1:isD st' orT
  ·have et:ck st' orT=(false,st'):=by grind [ck]
   have ef:fC oO orT 8 f st' l=(l,st'):=adO;rw[et,bB hH];rw[ef]at hfin;simp only[go_sem,r0];refine(jY st' [41] ha.1).go hH ?_;simp only[go_sem,r3];exact .mk (h' :=upd G id (some (PO (qL st).2))) (cM l) hy.weak (by rw[←epp,←hfin];exact eT (hy.1.put hB _) (ah ..)) ⟨aas,rfl⟩
  ·have et:ck st' orT=(true,aY st'):=by grind [ck]
   obtain⟨g,rfl⟩:∃g,f=g+1:=⟨f - 1,aas⟩;simp only[fC,d1,if_true]at hfin;have h2:=ew ha.1 (cZ d1);have hone:=Nj (aY st') h2.1;have h3:=(fun _ h=>AF h:∀st,WfP st→Ah st (oO st).2) _ h2.1
   obtain⟨x,st2,e2⟩:∃x st2,oO (aY st')=(x,st2):=⟨_,_,rfl⟩;rw[e2]at hfin hone h3;simp only[iA]at hfin hone h3;have hdec:decide ((8:Int)<((l.length+1:Nat):Int))=decide (8<l.length+1):=by
    grind
   have h4:=j8 (decide (8<l.length+1)) h3.1;have hnp:(aY st').pos=st'.pos+1:=rfl;have hp3:=h3.2.2;have hp4:=h4.2.2;rw[et];simp only[go_sem,r0,r3];refine hone.run ?_;simp only[go_sem];refine(hy.put hB hH _).app (zs:=[iA x]) (by grind [P0]) (by grind [S5]) (fun k hk=>hk) (by grind [P0,Gc]) (by rw[P0];exact Gc [x]) (by grind [S5]) fun y' H2 hy' hk2=> ?_
   exact aeB
theorem NW(st:PS)(hw:WfP st):PC 162 [] st (aT (gy st).1) (gy st).2:=.of fun G id=>by
 refine aaq Tryz.func162 23 [.tmp 2] fun hwf=> ?_
 simp only[go_sem];refine(jC st Dv hw).run ?_;cases d0:isD st Dv
 ·have et:ck st Dv=(false,st):=by grind [ck]
  have ep:gy st=([],st):=by grind [gy]
  rw[et];simp only[go_sem];exact .mk (h' :=upd G id (some (PO (gy st).2))) (aT []) (.sl _ _) (by rw[ep];exact .refl _) ⟨by rw[ep],rfl⟩
 have et:ck st Dv=(true,aY st):=by grind [ck]
 have h0:=ew hw (cZ d0);have h1:=AG h0.1;have hm1:=Nk _ h0.1;obtain⟨x0,st1,e1⟩:∃x0 st1,qL (aY st)=(x0,st1):=⟨_,_,rfl⟩;obtain⟨M,eM⟩:∃M,fC qL BE 8 st.ts.length st1 [x0]=M:=⟨_,rfl⟩;have ep:M=gy st:=by simp_all [gy,if_true]
 rw[e1]at h1 hm1;simp only[cM]at h1 hm1;rw[et];simp only[go_sem];refine hm1.run ?_;simp only[go_sem];have hB:upd G id none id=none:=ah ..;refine .intro (fun m ρ H=>∃(f:Nat) (st' :PS) (l:List _) (y:AV),H id=some (PO st')∧Acc U 270 (upd G id none) H y (l.map cM)∧Ah st1 st'∧fC qL BE 8 f st' l=M∧st1.ts.length≤f+st'.pos∧l.length≤st'.pos+1∧m=st1.ts.length - st'.pos∧lk ρ 0=some (.ptr id 0)∧lk ρ 3=some y) (st1.ts.length - st1.pos) ?_ ?_
 ·refine⟨st.ts.length,st1,[x0],.sl ([x0].map cM) .full,ah ..,.full (base_start G id _),.refl h1.1,eM,by rw[h1.2.1,h0.2.1];omega,aaz,rfl, ?_, ?_⟩<;>simp only[go_sem]<;>rfl
 ·rintro m ρ H ⟨f,st',l,y,hH,hy,ha,hfin,hf,hll,rfl,r0,r3⟩
  have hlen:=ha.1.2.2;have hpos:=ha.1.1;have htl:=ha.2.1;simp only[go_sem,r0];refine(jC st' BE ha.1).go hH ?_;cases d1:isD st' BE
  ·have et:ck st' BE=(false,st'):=by grind [ck]
   have ef:fC qL BE 8 f st' l=(l,st'):=adO;rw[et,bB hH];rw[ef]at hfin;simp only[go_sem,r3];exact .mk (h' :=upd G id (some (PO (gy st).2))) (aT l) hy.weak (by rw[←ep,←hfin];exact eT hy.1 hH) ⟨aas,rfl⟩
  ·have et:ck st' BE=(true,aY st'):=by grind [ck]
   obtain⟨g,rfl⟩:∃g,f=g+1:=⟨f - 1,aas⟩;simp only[fC,d1,if_true]at hfin;have h2:=ew ha.1 (cZ d1);have hone:=Nk (aY st') h2.1;have h3:=(fun _ h=>AG h:∀st,WfP st→Ah st (qL st).2) _ h2.1
   obtain⟨x,st2,e2⟩:∃x st2,qL (aY st')=(x,st2):=⟨_,_,rfl⟩;rw[e2]at hfin hone h3;simp only[cM]at hfin hone h3;have hdec:decide ((8:Int)<((l.length+1:Nat):Int))=decide (8<l.length+1):=by
    grind
   have h4:=j8 (decide (8<l.length+1)) h3.1;have hnp:(aY st').pos=st'.pos+1:=rfl;have hp3:=h3.2.2;have hp4:=h4.2.2;rw[et];simp only[go_sem,r0,r3];refine hone.run ?_;simp only[go_sem];refine(hy.put hB hH _).app (zs:=[cM x]) (by grind [P5]) (by grind [S9]) (fun k hk=>hk) (by grind [P5,Gf]) (by rw[P5];exact Gf [x]) (by grind [S9]) fun y' H2 hy' hk2=> ?_
   exact aeB
theorem CL(op:Int)(h:Heap):ai Tryz.prog 314 [.i op] h fun r h' =>r= .sl ((opers op).map jn) .no∧h' =h:=by
 refine aaq Tryz.func314 15 [.tmp 2] fun hwf=> ?_
 cases k3:(op==3)<;>cases k4:(op==4)<;>cases k5:(op==5)<;>cases k11:(op==11)
 all_goals
  simp only[go_sem,k3,k4,k5,k11];simp only[beq_iff_eq,beq_eq_false_iff_ne]at k3 k4 k5 k11;refine .mk _ (.sl _ _) (.refl _) ⟨?_,rfl⟩
  grind [opers,jn]
theorem Ta:(U 158).sz=3:=aaG
theorem Vq:(U 158).bytes=32:=aaG
theorem Ge(l:List cA):Sized 3 (l.map bl):=fun z hz=>by
 obtain⟨c,_,rfl⟩:=List.mem_map.1 hz;rfl
theorem rW(st:PS)(hw:WfP st):PC 166 [] st (az (fR st).1) (fR st).2:=.of fun G id=>by
 obtain⟨M,eM⟩:∃M,fR st=M:=⟨_,rfl⟩;have eM2:fC yU vh 8 st.ts.length st []=M:=eM;refine aaq Tryz.func166 28 [.tmp 2] fun hwf=> ?_
 simp only[go_sem];have hB:upd G id none id=none:=ah ..;refine .intro (fun m ρ H=>∃(f:Nat) (st' :PS) (l:List cA) (y:AV),H id=some (PO st')∧Acc U 158 (upd G id none) H y (l.map bl)∧Ah st st'∧fC yU vh 8 f st' l=M∧st.ts.length≤f+st'.pos∧l.length≤st'.pos+1∧m=st.ts.length - st'.pos∧lk ρ 0=some (.ptr id 0)∧lk ρ 3=some y) (st.ts.length - st.pos) ?_ ?_
 ·refine⟨st.ts.length,st,[],.sl ([].map bl) .full,ah ..,.full (base_start G id _),.refl hw,eM2,aar,aaz,rfl, ?_, ?_⟩<;>simp only[go_sem]<;>rfl
 ·rintro m ρ H ⟨f,st',l,y,hH,hy,ha,hfin,hf,hll,rfl,r0,r3⟩
  have hlen:=ha.1.2.2;have hpos:=ha.1.1;have htl:=ha.2.1;simp only[go_sem,r0];refine(jC st' vh ha.1).go hH ?_;cases d1:isD st' vh
  ·have et:ck st' vh=(false,st'):=by grind [ck]
   have ef:fC yU vh 8 f st' l=(l,st'):=adO;rw[et,bB hH];rw[ef]at hfin;simp only[go_sem,r3];exact .mk (h' :=upd G id (some (PO (fR st).2))) (az l) hy.weak (by rw[eM,←hfin];exact eT hy.1 hH) ⟨aas,rfl⟩
  ·have et:ck st' vh=(true,aY st'):=by grind [ck]
   obtain⟨g,rfl⟩:∃g,f=g+1:=⟨f - 1,aas⟩;simp only[fC,d1,if_true]at hfin;have h2:=ew ha.1 (cZ d1);have ho1:=ga ua h2.1;have ho2:=ga lM ho1.1;have ho3:=mc ho2.1;have h3:Ah (aY st') (yU (aY st')).2:=IY h2.1;have hdec:decide ((8:Int)<((l.length+1:Nat):Int))=decide (8<l.length+1):=by
    grind
   have h4:=j8 (decide (8<l.length+1)) h3.1;have hnp:(aY st').pos=st'.pos+1:=rfl;have hp3:=h3.2.2;have hp4:=h4.2.2;have eX:(yU (aY st'))=(⟨(aU (aY st') ua).1,(aU (aU (aY st') ua).2 lM).1,(cj (aU (aU (aY st') ua).2 lM).2).1⟩,(cj (aU (aU (aY st') ua).2 lM).2).2):=rfl;obtain⟨x,st2,e2⟩:∃x st2,yU (aY st')=(x,st2):=⟨_,_,rfl⟩;rw[et];simp only[go_sem];intro i4 hi4;have n4:=aF hi4;have hH4:H i4=none:=aaZ;have c4:∀(f:Heap) (x y:Option Blk),upd (upd f id x) i4 y=upd (upd f i4 y) id x:=fun f x y=>cq f x y n4.symm
   simp only[go_sem,r0,c4];refine(mY _ ua .full aau h2.1).run ?_;simp only[go_sem,r0,c4,ak,n4];refine(mY _ lM .full aau ho1.1).run ?_;simp only[go_sem,r0,c4,ak,n4];refine(sP _ ho2.1).run ?_;simp only[go_sem,r3,c4,ak,n4];rw[e2]at hfin h3 h4 hp3 hp4;simp only at hfin h3 h4 hp3 hp4;have ex1:x=(yU (aY st')).1:=by rw[e2]
   have ex2:st2=(cj (aU (aU (aY st') ua).2 lM).2).2:=by
    grind
   rw[←ex2];refine((hy.sub (Sub.aj (k:=_) hH4)).put hB (by rw[ag _ _ n4.symm];exact hH) _).app (zs:=[bl x]) aau aau (fun k hk=>by rw[ex1]at hk;exact hk) (by grind [Ta,Ge]) (by rw[Ta];exact Ge [x]) (by grind [Vq]) fun y' H2 hy' hk2=> ?_
   exact aeB
theorem rP{U:TypeId→TI}{e:TypeId}{B B' H:Heap}{y:AV}{xs:List AV}(hs:Sub B B')(ha:Acc U e B' H y xs):Acc U e B H y xs:=by
 obtain⟨h1,rfl|⟨k,i1,rfl,i2⟩⟩:=ha
 ·exact⟨hs.trans h1,.inl rfl⟩
 ·refine⟨hs.trans h1,.inr ⟨k, ?_,rfl,i2⟩⟩
  cases hk:B k with
  |none=>rfl
  |some b=>rw[hs _ _ hk]at i1;omega
theorem wu{U:TypeId→TI}{e:TypeId}{B H:Heap}{y:AV}{xs:List AV}(ha:Acc U e B H y xs){i:Nat}(hi:H i=none)(b:Option Blk):Acc U e (upd B i b) (upd H i b) y xs:=by
 obtain⟨h1,rfl|⟨k,i1,rfl,i2⟩⟩:=ha
 ·exact⟨h1.both _ _,.inl rfl⟩
 ·have hne:k≠i:=fun hh=>by subst hh;rw[hi]at i2;cases i2
  exact⟨h1.both _ _,.inr ⟨k,aaZ,rfl,aaZ⟩⟩
theorem mW{U:TypeId→TI}{e:TypeId}{G K:Heap}{id:Nat}{st:PS}{y:AV}{xs:List AV}(ha:Acc U e (upd G id none) (upd K id (some (PO st))) y xs)(st' :PS):Acc U e (upd G id none) (upd K id (some (PO st'))) y xs:=by
 have:=ha.put (id:=id) (ah ..) (cs:=_) (t:=_) (ah ..) (some (PO st'));rw[mI]at this;exact aa8
def XC(f:FuncId)(args:List AV)(st:PS)(l:List aM)(mk:AV→AV)(st' :PS)(l' :List aM):Prop:=
 ∀(G K:Heap) (id:Nat) (y:AV),Acc U 229 (upd G id none) (upd K id (some (PO st))) y (l.map dj)→ai Tryz.prog f (.ptr id 0::y::args) (upd K id (some (PO st))) fun r h' =>∃y',r=mk y'∧h' id=some (PO st')∧Acc U 229 (upd G id none) h' y' (l'.map dj)
theorem XC.run{f:FuncId}{args:List AV}{st st' :PS}{l l' :List aM}{mk:AV→AV}(hc:XC f args st l mk st' l'){G K:Heap}{id:Nat}{y:AV}{Q:AV→Heap→Prop}(ha:Acc U 229 (upd G id none) (upd K id (some (PO st))) y (l.map dj))
  (k:∀y' K',Acc U 229 (upd G id none) (upd K' id (some (PO st'))) y' (l'.map dj)→Q (mk y') (upd K' id (some (PO st')))):ai Tryz.prog f (.ptr id 0::y::args) (upd K id (some (PO st))) Q:=
 (hc G K id y ha).mono fun r h' ⟨y',e1,e2,e3⟩=>by
  subst e1;have:=k y' h' (by grind [bB])
  rwa [bB e2]at this
def EH(ex:ExF)(f:Nat):Prop:=∀st l,WfP st→st.ts.length≤f+st.pos→l.length≤2*st.pos+1→XC 270 [] st l (fun y=> .tup [y,.v (.bool (ex st l).1.2)]) (ex st l).2 (ex st l).1.1
theorem Gs(st:PS)(ws:List Txt):0≤(aU st ws).1∧(aU st ws).1≤ws.length:=by
 unfold aU;cases ei:tN (aI st).s ws with
 |none=>simp
 |some i=>
  have:=A4 ei;simp only;split<;>simp<;>omega
theorem zU{ex:ExF}(ho:Dy ex){f:Nat}(he:EH ex f)(st:PS)(l:List aM)(b:Bool)(hw:WfP st)(hf:st.ts.length≤f+st.pos)(hl:l.length≤2*st.pos+1):XC 239 [.b b] st l (fun y=>y) (gQ ex st l b).2 (gQ ex st l b).1:=fun G K id y ha=>by
 refine aaq Tryz.func239 25 [.tmp 6] fun hwf=> ?_
 simp only[go_sem];refine(lf st hw).run ?_;simp only[go_sem,fo];refine(he st l hw hf hl).run ha fun y' K' ha' => ?_
 cases db:((ex st l).1.2==b)
 ·have e1:(ex st l).1.2≠b:=by grind
  have en:gQ ex st l b=((ex st l).1.1,bD (ex st l).2 5 (aI st).pos):=by grind [gQ]
  simp only[go_sem,db,Bool.not_false];refine(qt _ 5 _).run ?_;simp only[go_sem];exact .mk (h' :=upd K' id (some (PO (bD (ex st l).2 5 (aI st).pos)))) y' (.refl _) (.refl _) ⟨y',rfl,aeq,by grind [mW]⟩
 ·have e1:(ex st l).1.2=b:=by grind
  have en:gQ ex st l b=((ex st l).1.1,(ex st l).2):=by grind [gQ]
  simp only[go_sem,db,Bool.not_true];exact .mk (h' :=upd K' id (some (PO (ex st l).2))) y' (.refl _) (.refl _) ⟨y',rfl,aeq,aas⟩
theorem Ec{ex:ExF}(ho:Dy ex){f:Nat}(he:EH ex f)(st:PS)(l:List aM)(hw:WfP st)(hf:st.ts.length≤f+st.pos)(hl:l.length+1≤2*st.pos):XC 296 [] st l (fun y=> .tup [y,dj (pJ ex st l).1.2]) (pJ ex st l).2 (pJ ex st l).1.1:=fun G K id y ha=>by
 have h1:=ga kR hw;have hrg:=Gs st kR;have hfl:kR.length=11:=rfl;have w2:IntKind.i64.wrap (2+(aU st kR).1)=2+(aU st kR).1:=aaE;refine aaq Tryz.func296 36 [.tmp 4,.cell 5 229] fun hwf=> ?_
 simp only[go_sem];intro i5 hi5;have n5:=aF hi5;have hK5:K i5=none:=aaZ;have c5:∀(f:Heap) (x y:Option Blk),upd (upd f id x) i5 y=upd (upd f i5 y) id x:=fun f x y=>cq f x y n5.symm
 simp only[go_sem,c5];refine(mY _ kR .full aau hw).run ?_;simp only[go_sem,w2];intro i6 hi6;have n6:=aF hi6;have c6:∀(f:Heap) (x y:Option Blk),upd (upd f id x) i6 y=upd (upd f i6 y) id x:=fun f x y=>cq f x y n6.symm
 have hi6' :=hi6;rw[ag _ _ n6]at hi6';have n65:=aF hi6';have hK6:K i6=none:=aaZ;simp only[go_sem,c6,ak,n6];refine(CL _ _).pthen ?_;simp only[go_sem];have h5f:=ha;obtain⟨bs,ebs⟩:∃bs,opers (2+(aU st kR).1)=bs:=⟨_,rfl⟩;obtain⟨M,eM⟩:∃M,iR ex bs (aU st kR).2 l=M:=⟨_,rfl⟩;have hb2:bs.length≤2:=by grind [CM]
 have hMr:pJ ex st l=((M.1,⟨2+(aU st kR).1,⟨0,0,[]⟩,⟨0,[],false⟩⟩),dJ M.2 [41]):=by grind [pJ]
 obtain⟨st1,es1⟩:∃st1,(aU st kR).2=st1:=⟨_,rfl⟩;have hac0:=wu (wu (mW ha st1) (by rw[ag _ _ n5];omega) (some (.obj [.i 0,.i 0,.i 0,.s [],.i 0,.s [],.b false] 229))) (by rw[ag _ _ n65,ag _ _ n6];omega) (some (.obj [.i (2+(aU st kR).1),.i 0,.i 0,.s [],.i 0,.s [],.b false] 229))
 simp only[c5,c6]at hac0;obtain⟨G',eG⟩:∃G',G' =upd (upd G i5 (some (.obj [.i 0,.i 0,.i 0,.s [],.i 0,.s [],.b false] 229))) i6 (some (.obj [.i (2+(aU st kR).1),.i 0,.i 0,.s [],.i 0,.s [],.b false] 229)):=⟨_,rfl⟩;have g5:upd G' id none i5=some (.obj [.i 0,.i 0,.i 0,.s [],.i 0,.s [],.b false] 229):=by simp_all [ag,Ne.symm,ah]
 have g6:upd G' id none i6=some (.obj [.i (2+(aU st kR).1),.i 0,.i 0,.s [],.i 0,.s [],.b false] 229):=by simp_all [ag,ah]
 rw[←eG]at hac0;have gi5:upd G id none i5=none:=by
  cases hk:upd G id none i5 with
  |none=>rfl
  |some b=>rw[ha.1 _ _ hk]at hi5;omega
 have hsG:Sub (upd G id none) (upd G' id none):=fun k b hk=>by
  have hs1:=ha.1 k b hk;have hk5:k≠i5:=fun e=>aas
  have hk6:k≠i6:=fun e=>by
   grind [ag]
  by_cases hkid:k=id
  ·subst hkid;rw[ah]at hk;cases hk
  ·rw[ag _ _ hkid]at hk⊢
   rw[eG,ag _ _ hk6,ag _ _ hk5];exact hk
 simp only[es1,ebs]at h1 eM⊢;refine .intro (fun m ρ H=>∃(i:Nat) (st' :PS) (l' :List aM) (y' :AV) (K' :Heap),H=upd K' id (some (PO st'))∧Acc U 229 (upd G' id none) (upd K' id (some (PO st'))) y' (l'.map dj)∧Ah st1 st'∧i≤bs.length∧iR ex (bs.drop i) st' l' =M∧l'.length+1≤2*st'.pos+i∧m=bs.length - i∧lk ρ 0=some (.ptr id 0)∧lk ρ 1=some y'∧lk ρ 5=some (.ptr i5 0)∧lk ρ 6=some (.ptr i6 0)∧lk ρ 16=some (.sl (bs.map jn) .no)∧lk ρ 17=some (.i bs.length)∧lk ρ 18=some (.i i)) bs.length ?_ ?_
 ·refine⟨0,st1,l,y,_,rfl,hac0,.refl h1.1,aar,aas,by have:=h1.2.2;omega,rfl, ?_, ?_, ?_, ?_, ?_, ?_, ?_⟩<;>simp only[go_sem]<;>(try rfl)<;>simp
 ·rintro m ρ H ⟨i,st',l',y',K',rfl,hac,hah,hi,hfin,hll,rfl,r0,r1,r5,r6,r16,r17,r18⟩
  simp only[go_sem,r17,r18];have k6:upd K' id (some (PO st')) i6=some (.obj [.i (2+(aU st kR).1),.i 0,.i 0,.s [],.i 0,.s [],.b false] 229):=hac.1 _ _ g6;have k5:upd K' id (some (PO st')) i5=some (.obj [.i 0,.i 0,.i 0,.s [],.i 0,.s [],.b false] 229):=hac.1 _ _ g5;rw[ag _ _ n6]at k6;rw[ag _ _ n5]at k5;refine .intro (fun e=> ?_) (fun e=> ?_)
  ·have hlt:i<bs.length:=aao e
   simp only[go_sem,r16,r18];refine .at i aas aaH ?_;cases db:(st'.bad !=0)
   ·have e1:st'.bad=0:=by grind
    rw[List.drop_eq_getElem_cons hlt]at hfin;simp only[iR,e1,if_true]at hfin;simp only[go_sem,r0,r1,aai,jn,PO,db];have hpl:=hah.2.2;refine(zU ho he st' l' bs[i] hah.1 (by rw[hah.2.1,h1.2.1];have:=h1.2.2;omega) aar).run hac fun y2 K2 hac2=> ?_
    obtain⟨q1,q2⟩:=xL ho st' l' bs[i] hah.1;have w1:IntKind.i64.wrap ((i:Int)+1)=((i+1:Nat):Int):=aaE;simp only[go_sem,r18,w1];refine⟨_, ?_,i+1,(gQ ex st' l' bs[i]).2,(gQ ex st' l' bs[i]).1,y2,K2,rfl,hac2,hah.trans q1,hlt,hfin,aar,rfl, ?_⟩
    ·omega
    refine⟨?_, ?_, ?_, ?_, ?_, ?_, ?_⟩
    all_goals simp only[go_sem,r0,r5,r6,r16,r17]
   ·have e1:st'.bad≠0:=by grind
    have hfin2:(l',st')=M:=by
     grind [List.drop_eq_getElem_cons,iR]
    clear hfin;have hfin:=hfin2;simp only[go_sem,r0,aai,jn,PO,db];refine(jY _ [41] hah.1).run ?_;simp only[go_sem,r1,r5,r6,ak,n5,n6,k5,k6];refine⟨.of aav, ?_⟩;exact .mk (.tup [y',dj ⟨2+(aU st kR).1,⟨0,0,[]⟩,⟨0,[],false⟩⟩]) (.refl _) (.refl _) ⟨y',aaG,by rw[hMr,←hfin];exact(ag _ _ (Ne.symm n5)).trans (ah ..),abO⟩
  ·have hge:i=bs.length:=by grind
   subst hge;rw[List.drop_length]at hfin;simp only[iR]at hfin;simp only[go_sem,r0];refine(jY _ [41] hah.1).run ?_;simp only[go_sem,r1,r5,r6,ak,n5,n6,k5,k6];refine⟨.of aav, ?_⟩;exact .mk (.tup [y',dj ⟨2+(aU st kR).1,⟨0,0,[]⟩,⟨0,[],false⟩⟩]) (.refl _) (.refl _) ⟨y',aaG,by rw[hMr,←hfin];simp_all [ag,Ne.symm,trans,ah],abO⟩
theorem rM:(U 229).sz=7:=aaG
theorem ze:(U 229).bytes=72:=aaG
theorem j4(l:List aM):Sized 7 (l.map dj):=fun z hz=>by
 obtain⟨c,_,rfl⟩:=List.mem_map.1 hz;rfl
theorem OY(f:Nat)(ih:EH (dR f) f):EH (dR (f+1)) (f+1):=fun st l hw hf hl G K id y ha=>by
 refine aaq Tryz.func270 52 [.tmp 4,.tmp 5] fun hwf=> ?_
 simp only[go_sem];intro i6 hi6;have n6:=aF hi6;have hK6:K i6=none:=by rw[ag _ _ n6]at hi6;exact hi6
 have c6:∀(f:Heap) (x y:Option Blk),upd (upd f id x) i6 y=upd (upd f i6 y) id x:=fun f x y=>cq f x y n6.symm
 have gi6:upd G id none i6=none:=by
  cases hk:upd G id none i6 with
  |none=>rfl
  |some b=>rw[ha.1 _ _ hk]at hi6;cases hi6
 have hac:=wu ha hi6 (some (.obj [.i 0,.i 0,.i 0,.s [],.i 0,.s [],.b false] 229));simp only[go_sem,c6];refine(lf st hw).run ?_;simp only[go_sem,fo];intro i7 hi7;have n7:=aF hi7;have hi7' :=hi7;rw[ag _ _ n7]at hi7';have n76:=aF hi7';have m76:¬i7=i6:=n76;have m67:¬i6=i7:=fun e=>n76 e.symm
 have hK7:K i7=none:=by rw[ag _ _ n76]at hi7';exact hi7'
 have c7:∀(f:Heap) (x y:Option Blk),upd (upd f id x) i7 y=upd (upd f i7 y) id x:=fun f x y=>cq f x y n7.symm
 have e6:upd (upd G id none) i6 (some (.obj [.i 0,.i 0,.i 0,.s [],.i 0,.s [],.b false] 229))=upd (upd G i6 (some (.obj [.i 0,.i 0,.i 0,.s [],.i 0,.s [],.b false] 229))) id none:=c6 G none _;have hac7:∀k,Acc U 229 (upd (upd G i6 (some (.obj [.i 0,.i 0,.i 0,.s [],.i 0,.s [],.b false] 229))) id none) (upd (upd (upd K i6 (some (.obj [.i 0,.i 0,.i 0,.s [],.i 0,.s [],.b false] 229))) i7 k) id (some (PO st))) y (l.map dj):=fun k=>by
  have:=hac.sub (Sub.aj (k:=k) (by rw[c6];exact hi7))
  rw[e6,c6 K,c7]at this;exact aa8
 have hsG:Sub (upd G id none) (upd (upd G i6 (some (.obj [.i 0,.i 0,.i 0,.s [],.i 0,.s [],.b false] 229))) id none):=by
  rw[←e6];exact Sub.aj gi6
 have g6:upd (upd G i6 (some (.obj [.i 0,.i 0,.i 0,.s [],.i 0,.s [],.b false] 229))) id none i6=some (.obj [.i 0,.i 0,.i 0,.s [],.i 0,.s [],.b false] 229):=by rw[←e6,ah]
 simp only[go_sem,c7,ak,n7];refine(jC st [40] hw).run ?_;have hacX:∀tk NB st',Acc U 229 (upd G id none) (upd (upd (upd (upd K i6 (some (.obj [.i 0,.i 0,.i 0,.s [],.i 0,.s [],.b false] 229))) i7 tk) i6 NB) id (some (PO st'))) y (l.map dj):=fun tk NB st' =>by
  have:=(mW (rP hsG (hac7 tk)) st').put gi6 ((ag _ _ n6).trans ((ag _ _ m67).trans (ah ..))) NB;rw[c6]at this;exact aa8
 obtain⟨⟨⟨lh,n⟩,sth⟩,eh⟩:∃x,iI (dR f) st l=x:=⟨_,rfl⟩;obtain⟨hha,hhl⟩:=Cj (pG f) st l hw;rw[eh]at hha hhl;simp only at hha hhl;have hwp:=hha.1.2.2;have hwq:=hha.1.1;have hpl:=hha.2.2;have hdec:decide ((32:Int)<((lh.length+1:Nat):Int))=decide (32<lh.length+1):=by
  by_cases h:32<lh.length+1
  ·simp only[h,decide_true];exact decide_eq_true aar
  ·simp only[h,decide_false];exact decide_eq_false aar
 cases d0:isD st [40]
 ·have et:ck st [40]=(false,st):=by simp[ck,d0]
  rw[et];cases d1:((aI st).kind==1)
  ·have en:iI (dR f) st l=((l,⟨1,(aC st).1,⟨0,[],false⟩⟩),(aC st).2):=by
    have:(aI st).kind≠1:=adq;simp[iI,d0,this]
   simp only[go_sem,ak,n7,d1];exact aeA
  ·have k1:(aI st).kind=1:=by simpa using d1
   cases d2:((aI st).s== [116,114,117,101])
   ·have k2:(aI st).s≠vu:=by unfold vu;simpa using d2
    cases d3:((aI st).s== [102,97,108,115,101])
    ·have k3:(aI st).s≠pH:=by unfold pH;simpa using d3
     have en:iI (dR f) st l=((l,⟨2,⟨0,0,[]⟩,(fI st).1⟩),(fI st).2):=by simp[iI,d0,k1,k2,k3]
     simp only[go_sem,ak,n7,d1,d2,d3,Bool.not_false];refine(I4 st hw).run ?_;rw[en]at eh;injection eh with eh1 eh2
     injection eh1 with eh3 eh4
     subst eh2;subst eh3;subst eh4;simp only[go_sem,c6,ak,n6,m67,BI];refine(hacX _ _ _).app (zs:=[dj (⟨2,⟨0,0,[]⟩,(fI st).1⟩:aM)]) aed aee (fun k hk=>hk) adx (by rw[rM];exact j4 [(⟨2,⟨0,0,[]⟩,(fI st).1⟩:aM)]) adi fun y3 H3 hy3 hk3=> ?_
     have hH3:H3 id=some (PO (fI st).2):=hk3 _ _ _ (ah ..);have hb3:H3 i6=some (.obj [.v (.int .i64 (⟨2,⟨0,0,[]⟩,(fI st).1⟩:aM).op),.v (.int .i64 (⟨2,⟨0,0,[]⟩,(fI st).1⟩:aM).val.kind),.v (.int .i64 (⟨2,⟨0,0,[]⟩,(fI st).1⟩:aM).val.n),.s (⟨2,⟨0,0,[]⟩,(fI st).1⟩:aM).val.s,.v (.int .i64 (⟨2,⟨0,0,[]⟩,(fI st).1⟩:aM).attr.cat),.s (⟨2,⟨0,0,[]⟩,(fI st).1⟩:aM).attr.name,.v (.bool (⟨2,⟨0,0,[]⟩,(fI st).1⟩:aM).attr.must)] 229):=hk3 _ _ _ ((ag _ _ n6).trans (ah ..));simp only[go_sem,hy3.len,aal,aah,List.length_cons,List.length_nil,Nat.zero_add,hdec];refine(cF (fI st).2 _ hha.1).go hH3 ?_;simp only[go_sem,ak,n6,hb3];refine⟨.of aav, ?_⟩;have efin:dR (f+1) st l=((l++ [(⟨2,⟨0,0,[]⟩,(fI st).1⟩:aM)],(⟨2,⟨0,0,[]⟩,(fI st).1⟩:aM).op==2),bA (fI st).2 (decide (32<l.length+1))):=aej;exact .mk (.tup [y3,.b ((⟨2,⟨0,0,[]⟩,(fI st).1⟩:aM).op==2)]) (.refl _) (.refl _) ⟨y3,by rw[efin],acR,aba⟩
    ·have k3:(aI st).s=pH:=by unfold pH;simpa using d3
     have en:iI (dR f) st l=((l,⟨1,(aC st).1,⟨0,[],false⟩⟩),(aC st).2):=by simp[iI,d0,k1,k3]
     simp only[go_sem,ak,n7,d1,d2,d3,Bool.not_false,Bool.not_true];exact aeA
   ·have k2:(aI st).s=vu:=by unfold vu;simpa using d2
    have en:iI (dR f) st l=((l,⟨1,(aC st).1,⟨0,[],false⟩⟩),(aC st).2):=by simp[iI,d0,k1,k2]
    simp only[go_sem,ak,n7,d1,d2,Bool.not_true];exact aeA
 ·have et:ck st [40]=(true,aY st):=by simp[ck,d0]
  have h1:=ew hw (cZ d0);have hnp:(aY st).pos=st.pos+1:=rfl;have hnt:(aY st).ts=st.ts:=rfl;rw[et];simp only[go_sem];have ef:pJ (dR f) (aY st) l=((lh,n),sth):=by rw[←eh];simp[iI,d0]
  have hfx:=Ec (pG f) ih (aY st) l h1.1 (by rw[hnt];omega) aar
  simp only[ef]at hfx;refine hfx.run (mW (hac7 _) _) fun y2 K2 hac2=> ?_
  have k6:=hac2.1 _ _ g6;rw[ag _ _ n6]at k6;simp only[go_sem,c6,ak,n6,k6,dj];have hac3:=(rP hsG hac2).put gi6 ((ag _ _ n6).trans k6) (some (.obj [.i n.op,.i n.val.kind,.i n.val.n,.s n.val.s,.i n.attr.cat,.s n.attr.name,.b n.attr.must] 229));rw[c6]at hac3;refine(hac3).app (zs:=[dj n]) aed aee (fun k hk=>hk) adx (by rw[rM];exact j4 [n]) adi fun y3 H3 hy3 hk3=> ?_
  have hH3:H3 id=some (PO sth):=hk3 _ _ _ (ah ..);have hb3:H3 i6=some (.obj [.i n.op,.i n.val.kind,.i n.val.n,.s n.val.s,.i n.attr.cat,.s n.attr.name,.b n.attr.must] 229):=hk3 _ _ _ ((ag _ _ n6).trans (ah ..));simp only[go_sem,hy3.len,aal,aah,List.length_cons,List.length_nil,Nat.zero_add,hdec];refine(cF sth _ hha.1).go hH3 ?_;simp only[go_sem,ak,n6,hb3];refine⟨.of aav, ?_⟩;have efin:dR (f+1) st l=((lh++ [n],n.op==2),bA sth (decide (32<lh.length+1))):=by simp only[dR,eh]
  exact .mk (.tup [y3,.b (n.op==2)]) (.refl _) (.refl _) ⟨y3,by rw[efin],acR,aba⟩
theorem Jv:∀f,EH (dR f) f
 |0=>fun st l hw hf _=>absurd hw.1 aar
 |f+1=>OY f (Jv f)
theorem D8{P:Program}{f:FuncId}{args:List AV}{h:Heap}{Q Q' :AV→Heap→Prop}(hf:ai P f args h Q)(hq:∀x h1,Q x h1→∃y h2,Weak x y∧Sub h2 h1∧Q' y h2):ai P f args h Q' :=
 fun c vs h1 h2 h3 h4=>(hf c vs h1 h2 h3 h4).mono fun u w' ⟨c',x,h',g1,g2,g3,g4,g5,g6⟩=>by
  obtain⟨y,h'',k1,k2,k3⟩:=hq x h' g6;exact⟨c',y,h'',g1,g2,g3,g4.weak k1,k2.trans g5,k3⟩
def flat:AV→AV
 |.sl xs _=> .sl xs .no
 |x=>x
theorem fP(xs:List AV):Weak (.agg xs) (.agg (xs.map flat)):=.agg _ _ aaz fun i h1 h2=>by
 rw[aai];cases xs[i]<;>first|exact .refl _|exact .sl _ _
theorem HQ(st:PS)(hw:WfP st):PC 239 [.sl [] .full,.b false] st (eU (gQ (dR st.ts.length) st [] false).1) (gQ (dR st.ts.length) st [] false).2:=.of fun G id=>by
 have hx:=zU (pG st.ts.length) (Jv st.ts.length) st [] false hw aar aaz;refine D8 (hx G G id (.sl [] .full) (.full (base_start G id _))) fun r h1 ⟨y',e1,e2,e3⟩=>⟨_,upd G id (some (PO (gQ (dR st.ts.length) st [] false).2)), ?_,eT e3.1 e2,rfl,rfl⟩
 subst e1;exact e3.weak
theorem KB(deny:Bool)(st:PS)(hw:WfP st):PC 206 [.b deny] st (aA (oL deny st).1) (oL deny st).2:=.of fun G id=>by
 have h1:=mc hw;have h2:=AL h1.1;have h3:=Fe h2.1;have h4:=AJ h3.1;have ht:=NW _ h1.1;simp only[aT]at ht;refine aaq Tryz.func206 23 [.cell 4 224] fun hwf=> ?_
 simp only[go_sem];intro i4 hi4;have n4:=aF hi4;have hG4:G i4=none:=aaZ;have c4:∀(f:Heap) (x y:Option Blk),upd (upd f id x) i4 y=upd (upd f i4 y) id x:=fun f x y=>cq f x y n4.symm
 simp only[go_sem,c4];refine(sP st hw).run ?_;simp only[go_sem];refine ht.run ?_;simp only[go_sem];intro i5 hi5;have n5:=aF hi5;have hi5' :=hi5;rw[ag _ _ n5]at hi5';have n54:=aF hi5';have m54:¬i5=i4:=n54;have m45:¬i4=i5:=n54.symm;have hG5:G i5=none:=aaZ;have c5:∀(f:Heap) (x y:Option Blk),upd (upd f id x) i5 y=upd (upd f i5 y) id x:=fun f x y=>cq f x y n5.symm
 have c45:∀(f:Heap) (x y:Option Blk),upd (upd f i5 x) i4 y=upd (upd f i4 y) i5 x:=fun f x y=>cq f x y n54
 simp only[go_sem,c5,ak,n5];refine(jC _ ifT h2.1).run ?_;cases d0:isD (gy (cj st).2).2 ifT
 ·have et:ck (gy (cj st).2).2 ifT=(false,(gy (cj st).2).2):=by grind [ck]
  have ec:pz (gy (cj st).2).2=([],(gy (cj st).2).2):=by grind [pz]
  have er:oL deny st=(⟨(cj st).1,deny,(gy (cj st).2).1,[],(fR (gy (cj st).2).2).1⟩,dJ (fR (gy (cj st).2).2).2 [59]):=by grind [oL]
  rw[ec]at h4;have ho:=rW _ h2.1;simp only[az]at ho;rw[et];simp only[go_sem];refine ho.run ?_;simp only[go_sem,c5,ak,n5];refine(jY _ [59] h4.1).run ?_;simp only[go_sem,c4,c45,ak,n4,n5,m45];exact .mk (h' :=upd G id (some (PO (dJ (fR (gy (cj st).2).2).2 [59])))) (aA ⟨(cj st).1,deny,(gy (cj st).2).1,[],(fR (gy (cj st).2).2).1⟩) (fP _) (Sub.both aaR _ _) ⟨by rw[er],by rw[er]⟩
 ·have et:ck (gy (cj st).2).2 ifT=(true,aY (gy (cj st).2).2):=by grind [ck]
  obtain⟨⟨cn,stc⟩,ec⟩:∃x,pz (gy (cj st).2).2=x:=⟨_,rfl⟩;have er:oL deny st=(⟨(cj st).1,deny,(gy (cj st).2).1,cn,(fR stc).1⟩,dJ (fR stc).2 [59]):=by grind [oL]
  have hcnd:=HQ (aY (gy (cj st).2).2) (ew h2.1 (cZ d0)).1;have ec2:gQ (dR (aY (gy (cj st).2).2).ts.length) (aY (gy (cj st).2).2) [] false=(cn,stc):=by rw[←ec];simp only[pz,d0,if_true];rfl
  rw[ec2]at hcnd;simp only[eU]at hcnd;rw[ec]at h3 h4;have ho:=rW _ h3.1;simp only[az]at ho;rw[et];simp only[go_sem];refine hcnd.run ?_;simp only[go_sem,c5,ak,n5];refine ho.run ?_;simp only[go_sem,c5,ak,n5];refine(jY _ [59] h4.1).run ?_;simp only[go_sem,c4,c45,ak,n4,n5,m45];exact .mk (h' :=upd G id (some (PO (dJ (fR stc).2 [59])))) (aA ⟨(cj st).1,deny,(gy (cj st).2).1,cn,(fR stc).1⟩) (fP _) (Sub.both aaR _ _) ⟨by rw[er],by rw[er]⟩
theorem MY:(U 224).sz=5:=aaG
theorem S8:(U 224).bytes=96:=aaG
theorem vZ(l:List cK):Sized 5 (l.map aA):=fun z hz=>by
 obtain⟨c,_,rfl⟩:=List.mem_map.1 hz;rfl
theorem PG(st:PS)(hw:WfP st)(hr:st.rules≤64):PC 165 [] st (.sl ((jz 17 st []).1.map aA) .no) (jz 17 st []).2:=.of fun G id=>by
 obtain⟨M,eM⟩:∃M,jz 17 st []=M:=⟨_,rfl⟩;rw[eM];refine aaq Tryz.func165 51 [.tmp 2] fun hwf=> ?_
 simp only[go_sem];have hB:upd G id none id=none:=ah ..;refine .intro (fun m ρ H=>∃(f:Nat) (st' :PS) (l:List cK) (y:AV),H id=some (PO st')∧Acc U 224 (upd G id none) H y (l.map aA)∧Ah st st'∧st'.rules≤64∧jz f st' l=M∧f+l.length=17∧l.length≤16∧m=f∧lk ρ 0=some (.ptr id 0)∧lk ρ 3=some y) 17 ?_ ?_
 ·refine⟨17,st,[],.sl ([].map aA) .full,ah ..,.full (base_start G id _),.refl hw,hr,eM,aaz,aaz,rfl, ?_, ?_⟩<;>simp only[go_sem]<;>rfl
 ·rintro m ρ H ⟨f,st',l,y,hH,hy,ha,hru,hfin,hf,hll,rfl,r0,r3⟩
  have hlen:=ha.1.2.2;have hpos:=ha.1.1;obtain⟨g,rfl⟩:∃g,m=g+1:=⟨m - 1,aar⟩;simp only[go_sem,r0];refine(sw st' oe ha.1).go hH ?_;rw[bB hH];have fin:isD st' oe=false→isD st' iF=false→(l,st')=M:=fun d1 d2=>by
   grind [jz]
  have rest:isD st' oe=true∨isD st' iF=true→True:=fun _=>trivial
  cases d1:isD st' oe
  ·simp only[go_sem,r0]
   refine(sw st' iF ha.1).go hH ?_;rw[bB hH];cases d2:isD st' iF
   ·simp only[go_sem,r3]
    have e:=fin d1 d2;exact .mk (h' :=upd G id (some (PO M.2))) (.sl (M.1.map aA) .no) abp (by rw[←e];exact eT hy.1 hH) ⟨rfl,rfl⟩
   ·exact aez
  ·exact aez
theorem MX:(U 65).sz=7:=aaG
theorem S6:(U 65).bytes=128:=aaG
theorem vY(l:List bG):Sized 7 (l.map aK):=fun z hz=>by
 obtain⟨c,_,rfl⟩:=List.mem_map.1 hz;cases c;rfl
theorem O9(pol:PoF)(d:Nat)(hd5:d≤5)(hp:∀st,WfP st→st.rules≤64→d≤4→PC 114 [.i d] st (aK (pol st).1) (pol st).2)(hpa:∀st,WfP st→Ah st (pol st).2)(hpr:∀st,mN st (pol st).2)
  (st:PS) (hw:WfP st) (hr:st.rules≤64):PC 164 [.i d] st (.sl ((js pol (decide ((4:Int)<(d:Int))) 17 st []).1.map aK) .no) (js pol (decide ((4:Int)<(d:Int))) 17 st []).2:=.of fun G id=>by
 obtain⟨M,eM⟩:∃M,js pol (decide ((4:Int)<(d:Int))) 17 st []=M:=⟨_,rfl⟩;rw[eM];refine aaq Tryz.func164 33 [.tmp 4] fun hwf=> ?_
 simp only[go_sem];have hB:upd G id none id=none:=ah ..;refine .intro (fun m ρ H=>∃(f:Nat) (st' :PS) (l:List bG) (y:AV),H id=some (PO st')∧Acc U 65 (upd G id none) H y (l.map aK)∧Ah st st'∧st'.rules≤64∧js pol (decide ((4:Int)<(d:Int))) f st' l=M∧f+l.length=17∧l.length≤16∧m=f∧lk ρ 0=some (.ptr id 0)∧lk ρ 1=some (.i d)∧lk ρ 5=some y) 17 ?_ ?_
 ·refine⟨17,st,[],.sl ([].map aK) .full,ah ..,.full (base_start G id _),.refl hw,hr,eM,aaz,aaz,rfl, ?_, ?_, ?_⟩<;>simp only[go_sem]<;>rfl
 ·rintro m ρ H ⟨f,st',l,y,hH,hy,ha,hru,hfin,hf,hll,rfl,r0,r1,r5⟩
  have hlen:=ha.1.2.2;have hpos:=ha.1.1;obtain⟨g,rfl⟩:∃g,m=g+1:=⟨m - 1,aar⟩;simp only[go_sem,r0];refine(sw st' og ha.1).go hH ?_;rw[bB hH];have fin:isD st' og=false→isD st' EM=false→(l,st')=M:=fun d1 d2=>by
   grind [js]
  cases d1:isD st' og
  ·simp only[go_sem,r0]
   refine(sw st' EM ha.1).go hH ?_;rw[bB hH];cases d2:isD st' EM
   ·simp only[go_sem,r5]
    have e:=fin d1 d2;exact .mk (h' :=upd G id (some (PO M.2))) (.sl (M.1.map aK) .no) abp (by rw[←e];exact eT hy.1 hH) ⟨rfl,rfl⟩
   ·have hd:isD st' og=true∨isD st' EM=true:=by grind
    have eb:=(lQ hd).1;have ek:=(lQ hd).2;have db:(st'.bad !=0)=false:=aas;have gP:=hH;unfold PO at gP;have lim:l.length=16∨decide ((4:Int)<(d:Int))=true→(l,bA st' true)=M:=fun h=>by
     rw[←hfin];simp only[js,if_pos hd,if_pos h]
    have hdl:bA st' true=bD st' 6 (aI st').pos:=rfl;have hlb:((bA st' true).bad !=0)=true:=by grind [bD]
    cases dA:((l.length:Int)==16)
    ·cases dB:decide ((4:Int)<(d:Int))
     ·have nA:l.length≠16:=fun e=>by grind
      have hno:¬(l.length=16∨decide ((4:Int)<(d:Int))=true):=fun h=>h.elim nA (fun e=>aas)
      simp only[js,if_pos hd,if_neg hno]at hfin;rw[dB]at hfin;have hd4:d≤4:=aas;simp only[go_sem,r0,r1,r5,hy.len,aah,dA,dB];refine(cF st' false ha.1).go hH ?_;rw[show bA st' false=st' from rfl,bB hH]
      have h3:=hpa st' ha.1;have hrp:=hp st' ha.1 hru hd4;have hr3:=um (hpr st') hru;obtain⟨x,st2,e2⟩:∃x st2,pol st' =(x,st2):=⟨_,_,rfl⟩;rw[e2]at hfin hrp h3 hr3;obtain⟨pid,pset,palg,ptgt,prules,pkids,pobls⟩:=x;simp only[aK]at hrp hfin h3 hr3;simp only[go_sem,r0,r1,r5,gP,db];refine hrp.go hH ?_;simp only[go_sem];refine(hy.put hB hH _).app (zs:=[aK ⟨pid,pset,palg,ptgt,prules,pkids,pobls⟩]) aau aau (fun k hk=>hk) (by grind [MX,vY]) acK (by grind [S6]) fun y' H2 hy' hk2=> ?_
      have hH2:H2 id=some (PO st2):=hk2 _ _ _ (ah ..);simp only[go_sem];refine⟨_, ?_,g,st2,l++ [⟨pid,pset,palg,ptgt,prules,pkids,pobls⟩],y',hH2,aas,ha.trans h3,hr3,hfin,aas,aas,rfl, ?_, ?_, ?_⟩
      ·omega
      all_goals simp only[go_sem,r0,r1]
     ·have e:=lim (.inr dB)
      simp only[go_sem,r0,r1,r5,hy.len,aah,dA,dB];refine(cF st' true ha.1).go hH ?_;have g3:upd H id (some (PO (bA st' true))) id=some (PO (bA st' true)):=ah ..;unfold PO at g3;simp only[go_sem,r0,r5,g3,hlb,PO];exact .mk (h' :=upd G id (some (PO M.2))) (.sl (M.1.map aK) .no) abp aaX ⟨rfl,rfl⟩
    ·have nA:l.length=16:=by grind
     have e:=lim (.inl nA);simp only[go_sem,r0,r5,hy.len,aah,dA];refine(cF st' true ha.1).go hH ?_;have g3:upd H id (some (PO (bA st' true))) id=some (PO (bA st' true)):=ah ..;unfold PO at g3;simp only[go_sem,r0,r5,g3,hlb,PO];exact .mk (h' :=upd G id (some (PO M.2))) (.sl (M.1.map aK) .no) abp aaX ⟨rfl,rfl⟩
  ·have hd:isD st' og=true∨isD st' EM=true:=by grind
   have eb:=(lQ hd).1;have ek:=(lQ hd).2;have db:(st'.bad !=0)=false:=aas;have gP:=hH;unfold PO at gP;have lim:l.length=16∨decide ((4:Int)<(d:Int))=true→(l,bA st' true)=M:=fun h=>by
    rw[←hfin];simp only[js,if_pos hd,if_pos h]
   have hdl:bA st' true=bD st' 6 (aI st').pos:=rfl;have hlb:((bA st' true).bad !=0)=true:=by grind [bD]
   cases dA:((l.length:Int)==16)
   ·cases dB:decide ((4:Int)<(d:Int))
    ·have nA:l.length≠16:=fun e=>by grind
     have hno:¬(l.length=16∨decide ((4:Int)<(d:Int))=true):=fun h=>h.elim nA (fun e=>aas)
     simp only[js,if_pos hd,if_neg hno]at hfin;rw[dB]at hfin;have hd4:d≤4:=aas;simp only[go_sem,r0,r1,r5,hy.len,aah,dA,dB];refine(cF st' false ha.1).go hH ?_;rw[show bA st' false=st' from rfl,bB hH]
     have h3:=hpa st' ha.1;have hrp:=hp st' ha.1 hru hd4;have hr3:=um (hpr st') hru;obtain⟨x,st2,e2⟩:∃x st2,pol st' =(x,st2):=⟨_,_,rfl⟩;rw[e2]at hfin hrp h3 hr3;obtain⟨pid,pset,palg,ptgt,prules,pkids,pobls⟩:=x;simp only[aK]at hrp hfin h3 hr3;simp only[go_sem,r0,r1,r5,gP,db];refine hrp.go hH ?_;simp only[go_sem];refine(hy.put hB hH _).app (zs:=[aK ⟨pid,pset,palg,ptgt,prules,pkids,pobls⟩]) aau aau (fun k hk=>hk) (by grind [MX,vY]) acK (by grind [S6]) fun y' H2 hy' hk2=> ?_
     have hH2:H2 id=some (PO st2):=hk2 _ _ _ (ah ..);simp only[go_sem];refine⟨_, ?_,g,st2,l++ [⟨pid,pset,palg,ptgt,prules,pkids,pobls⟩],y',hH2,aas,ha.trans h3,hr3,hfin,aas,aas,rfl, ?_, ?_, ?_⟩
     ·omega
     all_goals simp only[go_sem,r0,r1]
    ·have e:=lim (.inr dB)
     simp only[go_sem,r0,r1,r5,hy.len,aah,dA,dB];refine(cF st' true ha.1).go hH ?_;have g3:upd H id (some (PO (bA st' true))) id=some (PO (bA st' true)):=ah ..;unfold PO at g3;simp only[go_sem,r0,r5,g3,hlb,PO];exact .mk (h' :=upd G id (some (PO M.2))) (.sl (M.1.map aK) .no) abp aaX ⟨rfl,rfl⟩
   ·have nA:l.length=16:=by grind
    have e:=lim (.inl nA);simp only[go_sem,r0,r5,hy.len,aah,dA];refine(cF st' true ha.1).go hH ?_;have g3:upd H id (some (PO (bA st' true))) id=some (PO (bA st' true)):=ah ..;unfold PO at g3;simp only[go_sem,r0,r5,g3,hlb,PO];exact .mk (h' :=upd G id (some (PO M.2))) (.sl (M.1.map aK) .no) abp aaX ⟨rfl,rfl⟩
theorem CX(r:Nat)(d:Nat)(hrd:r+d=4)(hp:∀st,WfP st→st.rules≤64→d+1≤4→PC 114 [.i (d+1:Nat)] st (aK (gh r st).1) (gh r st).2)(st:PS)(hw:WfP st)(hr:st.rules≤64):
  PC 114 [.i d] st (aK (gh (r+1) st).1) (gh (r+1) st).2:=.of fun G id=>by
 have h1:=ga lS hw;have h2:=mc h1.1;have h3:=ga wC h2.1;have h4:=AL h3.1;have h5:Ah _ (cN st).2:=iM [123] h4.1;have ht:=NW _ h3.1;simp only[aT]at ht;have hrh:=um (C2 st).big hr;have hset:(cN st).1.1=((aU st lS).1==2):=rfl;have w1:IntKind.i64.wrap ((d:Int)+1)=((d+1:Nat):Int):=aaE;have hdp:(r==0)=decide ((4:Int)<((d+1:Nat):Int)):=by
  grind
 have hk:=O9 (gh r) (d+1) aar hp (fun _ h=>wz r _ h) (Bj r) _ h5.1 hrh
 have hs:=PG _ h5.1 hrh;refine aaq Tryz.func114 39 [.cell 4 65] fun hwf=> ?_
 simp only[go_sem];intro i4 hi4;have n4:=aF hi4;have hG4:G i4=none:=aaZ;have c4:∀(f:Heap) (x y:Option Blk),upd (upd f id x) i4 y=upd (upd f i4 y) id x:=fun f x y=>cq f x y n4.symm
 simp only[go_sem,c4];intro i5 hi5;have n5:=aF hi5;have hi5' :=hi5;rw[ag _ _ n5]at hi5';have n54:=aF hi5';have m54:¬i5=i4:=n54;have m45:¬i4=i5:=n54.symm;have hG5:G i5=none:=aaZ;have c5:∀(f:Heap) (x y:Option Blk),upd (upd f id x) i5 y=upd (upd f i5 y) id x:=fun f x y=>cq f x y n5.symm
 have c45:∀(f:Heap) (x y:Option Blk),upd (upd f i5 x) i4 y=upd (upd f i4 y) i5 x:=fun f x y=>cq f x y n54
 simp only[go_sem,c5];refine(mY st lS .full aau hw).run ?_;simp only[go_sem,c5,ak,n5];refine(sP _ h1.1).run ?_;simp only[go_sem,c5,ak,n5];refine(mY _ wC .full aau h2.1).run ?_;simp only[go_sem,c5,ak,n5];refine ht.run ?_;simp only[go_sem,c5,ak,n5];refine(jY _ [123] h4.1).run ?_;cases ds:((aU st lS).1==2)
 ·rw[ds]at hset
  simp only[go_sem,ak,n5];have eb:oE (gh r) (r==0) (cN st).1.1 (cN st).2=(((jz 17 (cN st).2 []).1,[]),(jz 17 (cN st).2 []).2):=by grind [oE]
  have hb:=AI (fun _ h=>wz r _ h) (r==0) (cN st).1.1 h5.1
  obtain⟨⟨rl,stb⟩,er⟩:∃x,jz 17 (cN st).2 []=x:=⟨_,rfl⟩;rw[er]at eb hs;rw[eb]at hb;have ho:=rW _ (iM [125] hb.1).1;simp only[az]at ho hs;refine hs.run ?_;simp only[go_sem,c5,ak,n5];refine(jY _ [125] hb.1).run ?_;simp only[go_sem];refine ho.run ?_;simp only[go_sem,c4,c5,c45,ak,n4,n5,m45];have efin:gh (r+1) st=(.mk (cN st).1.2.1 false (cN st).1.2.2.1 (cN st).1.2.2.2 rl [] (fR (dJ stb [125])).1,(fR (dJ stb [125])).2):=by grind [gh]
  exact .mk (h' :=upd G id (some (PO (fR (dJ stb [125])).2))) (aK (.mk (cN st).1.2.1 false (cN st).1.2.2.1 (cN st).1.2.2.2 rl [] (fR (dJ stb [125])).1)) (fP _) (Sub.both aaR _ _) ⟨aas,aas⟩
 ·rw[ds]at hset
  simp only[go_sem,ak,n5,w1];have eb:oE (gh r) (r==0) (cN st).1.1 (cN st).2=(([],(js (gh r) (r==0) 17 (cN st).2 []).1),(js (gh r) (r==0) 17 (cN st).2 []).2):=by grind [oE]
  have hb:=AI (fun _ h=>wz r _ h) (r==0) (cN st).1.1 h5.1
  rw[←hdp]at hk;obtain⟨⟨kl,stb⟩,er⟩:∃x,js (gh r) (r==0) 17 (cN st).2 []=x:=⟨_,rfl⟩;rw[er]at eb hk;rw[eb]at hb;have ho:=rW _ (iM [125] hb.1).1;simp only[az]at ho hk;refine hk.run ?_;simp only[go_sem,c5,ak,n5];refine(jY _ [125] hb.1).run ?_;simp only[go_sem];refine ho.run ?_;simp only[go_sem,c4,c5,c45,ak,n4,n5,m45];have efin:gh (r+1) st=(.mk (cN st).1.2.1 true (cN st).1.2.2.1 (cN st).1.2.2.2 [] kl (fR (dJ stb [125])).1,(fR (dJ stb [125])).2):=by grind [gh]
  exact .mk (h' :=upd G id (some (PO (fR (dJ stb [125])).2))) (aK (.mk (cN st).1.2.1 true (cN st).1.2.2.1 (cN st).1.2.2.2 [] kl (fR (dJ stb [125])).1)) (by simp only[aK,aV];exact fP _) (Sub.both aaR _ _) ⟨aas,aas⟩
theorem CW:∀(r d:Nat),r+d=4→∀st,WfP st→st.rules≤64→PC 114 [.i d] st (aK (gh (r+1) st).1) (gh (r+1) st).2
 |0,d,hrd=>fun st hw hr=>CX 0 d hrd aar st hw hr
 |r+1,d,hrd=>fun st hw hr=>CX (r+1) d hrd (fun st hw hr _=>CW r (d+1) aar st hw hr) st hw hr
theorem I0(l:List (List bM))(h:Heap):ai Tryz.prog 271 [cM l] h fun r h' =>r= .i (vD l)∧h' =h:=by
 refine aaq Tryz.func271 25 [.tmp 2] fun hwf=> ?_
 simp only[go_sem,cM,aah];refine(FM _ _).pthen ?_;cases d1:(jG l.length !=0)
 case true=>
  have e1:jG l.length≠0:=aas;simp only[go_sem,d1];exact .same (.refl _) ⟨by grind [vD,au],rfl⟩
 have e1:jG l.length=0:=aas;have hlen:=CA e1;simp only[go_sem,d1,aah];refine .intro (fun m ρ h' =>Ab.Sub h h'∧∃i:Nat,i≤l.length∧m=l.length - i∧gM vC (l.take i)=0∧lk ρ 13=some (cM l)∧lk ρ 14=some (.i l.length)∧lk ρ 15=some (.i i)) l.length ?_ ?_
 ·refine⟨.refl _,0,aar,rfl,rfl, ?_, ?_, ?_⟩<;>simp only[go_sem,cM]
 ·rintro m ρ h' ⟨hs,i,hi,rfl,hc,r12,r13,r14⟩
  simp only[go_sem,r13,r14];refine .intro (fun e=> ?_) (fun e=> ?_)
  ·have hlt:i<l.length:=aao e
   have w1:IntKind.i64.wrap ((i:Int)+1)=((i+1:Nat):Int):=aaE;simp only[go_sem,r12,r14,cM];refine .at i aas aaH ?_;simp only[go_sem,aai,iA];refine(IZ l[i] _).pthen ?_;cases d2:(vC l[i] !=0)
   ·have e2:vC l[i]=0:=by grind
    simp only[go_sem,r14,d2,w1];refine⟨_, ?_,hs,i+1,aar,rfl,uY hlt hc e2, ?_, ?_, ?_⟩
    ·omega
    all_goals simp only[go_sem,r12,r13,cM]
   ·have e2:vC l[i]≠0:=by grind
    simp only[go_sem,d2];refine .mk _ (.refl _) hs ⟨?_,rfl⟩
    grind [vD,zF,au]
  ·have hge:i=l.length:=by grind
   subst hge;rw[List.take_length]at hc;simp only[go_sem];exact .mk _ (.refl _) hs ⟨by grind [vD,au],rfl⟩
theorem uu(l:fQ)(h:Heap):ai Tryz.prog 241 [aT l] h fun r h' =>r= .i (kJ l)∧h' =h:=by
 refine aaq Tryz.func241 21 [.tmp 2] fun hwf=> ?_
 cases d1:decide (8<(l.length:Int))
 case true=>
  have e1:8<l.length:=aas;simp only[go_sem,aT,aah,d1];exact .same (.refl _) ⟨by grind [kJ,au],rfl⟩
 have e1:¬8<l.length:=aas;simp only[go_sem,d1,aT,aah];refine .intro (fun m ρ h' =>Ab.Sub h h'∧∃i:Nat,i≤l.length∧m=l.length - i∧gM vD (l.take i)=0∧lk ρ 9=some (aT l)∧lk ρ 10=some (.i l.length)∧lk ρ 11=some (.i i)) l.length ?_ ?_
 ·refine⟨.refl _,0,aar,rfl,rfl, ?_, ?_, ?_⟩<;>simp only[go_sem,aT]
 ·rintro m ρ h' ⟨hs,i,hi,rfl,hc,r12,r13,r14⟩
  simp only[go_sem,r13,r14];refine .intro (fun e=> ?_) (fun e=> ?_)
  ·have hlt:i<l.length:=aao e
   have w1:IntKind.i64.wrap ((i:Int)+1)=((i+1:Nat):Int):=aaE;simp only[go_sem,r12,r14,aT];refine .at i aas aaH ?_;simp only[go_sem,aai,cM];refine(I0 l[i] _).pthen ?_;cases d2:(vD l[i] !=0)
   ·have e2:vD l[i]=0:=by grind
    simp only[go_sem,r14,d2,w1];refine⟨_, ?_,hs,i+1,aar,rfl,uY hlt hc e2, ?_, ?_, ?_⟩
    ·omega
    all_goals simp only[go_sem,r12,r13,aT]
   ·have e2:vD l[i]≠0:=by grind
    simp only[go_sem,d2];refine .mk _ (.refl _) hs ⟨?_,rfl⟩
    grind [kJ,zF,au]
  ·have hge:i=l.length:=by grind
   subst hge;rw[List.take_length]at hc;simp only[go_sem];exact .mk _ (.refl _) hs ⟨by grind [kJ,au],rfl⟩
theorem Bc(l:List cA)(h:Heap):ai Tryz.prog 242 [az l] h fun r h' =>r= .i (gO l)∧h' =h:=by
 refine aaq Tryz.func242 39 [.tmp 2] fun hwf=> ?_
 cases d1:decide (8<(l.length:Int))
 case true=>
  have e1:8<l.length:=aas;simp only[go_sem,az,aah,d1];exact .same (.refl _) ⟨by grind [gO,au],rfl⟩
 have e1:¬8<l.length:=aas;simp only[go_sem,d1,az,aah];refine .intro (fun m ρ h' =>Ab.Sub h h'∧∃i:Nat,i≤l.length∧m=l.length - i∧(l.take i).all pW=true∧lk ρ 8=some (az l)∧lk ρ 9=some (.i l.length)∧lk ρ 10=some (.i i)) l.length ?_ ?_
 ·refine⟨.refl _,0,aar,rfl,rfl, ?_, ?_, ?_⟩<;>simp only[go_sem,az]
 ·rintro m ρ h' ⟨hs,i,hi,rfl,hc,r12,r13,r14⟩
  simp only[go_sem,r13,r14];refine .intro (fun e=> ?_) (fun e=> ?_)
  ·have hlt:i<l.length:=aao e
   have w1:IntKind.i64.wrap ((i:Int)+1)=((i+1:Nat):Int):=aaE;simp only[go_sem,r12,r14,az];refine .at i aas aaH ?_;simp only[go_sem,aai,bl];intro id hid;have bad:pW l[i]=false→gO l=1:=fun hb=>by
    have:l.all pW=false:=List.all_eq_false.2 ⟨_,aam hlt,aas⟩;simp[gO,e1,this]
   cases c1:decide (l[i].on<1)
   case true=>
    simp only[go_sem,c1];exact .mk _ (.refl _) (hs.new hid _) ⟨by rw[bad (by have:=aaj c1;simp[pW];omega)];rfl,rfl⟩
   cases c2:decide (2<l[i].on)
   case true=>
    simp only[go_sem,c1,c2];exact .mk _ (.refl _) (hs.new hid _) ⟨by rw[bad (by have:=aaj c2;simp[pW];omega)];rfl,rfl⟩
   cases c3:decide (l[i].kind<1)
   case true=>
    simp only[go_sem,c1,c2,c3];exact .mk _ (.refl _) (hs.new hid _) ⟨by rw[bad (by have:=aaj c3;simp[pW];omega)];rfl,rfl⟩
   cases c4:decide (4<l[i].kind)
   case true=>
    simp only[go_sem,c1,c2,c3,c4];exact .mk _ (.refl _) (hs.new hid _) ⟨by rw[bad (by have:=aaj c4;simp[pW];omega)];rfl,rfl⟩
   simp only[go_sem,c1,c2,c3,c4];refine(nU _ _).pthen ?_;cases d2:bk l[i].arg
   ·simp only[go_sem]
    exact .mk _ (.refl _) (hs.new hid _) ⟨by rw[bad (by grind [pW])];rfl,rfl⟩
   ·simp only[go_sem,r14,w1]
    refine⟨_, ?_,hs.new hid _,i+1,aar,rfl, ?_, ?_, ?_, ?_⟩
    ·omega
    ·grind [aak,List.take_succ_eq_append_getElem,pW]
    all_goals simp only[go_sem,r12,r13,az]
  ·have hge:i=l.length:=by grind
   subst hge;rw[List.take_length]at hc;simp only[go_sem];exact .mk _ (.refl _) hs ⟨by grind [gO,au],rfl⟩
theorem Lc(op:Int)(h:Heap):ai Tryz.prog 299 [.i op] h fun r h' =>r=(match gW op with
  |none=> .tup [.sl [] .no,.b false]
  |some w=> .tup [.sl (w.map jn) .no,.b true])∧h' =h:=by
 refine aaq Tryz.func299 35 [.tmp 2,.tmp 3] fun hwf=> ?_
 cases k1:(op==1)
 case true=>
  have e1:op=1:=aas;simp only[go_sem,k1];exact .mk _ (eY _) (.refl _) ⟨adP,rfl⟩
 have n1:op≠1:=aas;cases k2:(op==2)
 case true=>
  have e1:op=2:=aas;simp only[go_sem,k1,k2];exact .mk _ (eY _) (.refl _) ⟨adP,rfl⟩
 have n2:op≠2:=aas;cases k3:(op==3)
 case true=>
  have e1:op=3:=aas;simp only[go_sem,k1,k2,k3];exact .mk _ (eY _) (.refl _) ⟨acE,rfl⟩
 have n3:op≠3:=aas;cases k4:(op==4)
 case true=>
  have e1:op=4:=aas;simp only[go_sem,k1,k2,k3,k4];exact .mk _ (eY _) (.refl _) ⟨acE,rfl⟩
 have n4:op≠4:=aas;cases k5:(op==5)
 case true=>
  have e1:op=5:=aas;simp only[go_sem,k1,k2,k3,k4,k5];exact .mk _ (eY _) (.refl _) ⟨acE,rfl⟩
 have n5:op≠5:=aas;cases k11:(op==11)
 case true=>
  have e1:op=11:=aas;simp only[go_sem,k1,k2,k3,k4,k5,k11];exact .mk _ (eY _) (.refl _) ⟨acE,rfl⟩
 have n11:op≠11:=aas;cases k6:decide (6≤op)
 ·have n6:=aak k6
  simp only[go_sem,k1,k2,k3,k4,k5,k11,k6];exact .mk _ (eY _) (.refl _) ⟨adP,rfl⟩
 cases k13:decide (op≤13)
 ·have n13:=aak k13
  simp only[go_sem,k1,k2,k3,k4,k5,k11,k6,k13];exact .mk _ (eY _) (.refl _) ⟨adP,rfl⟩
 have n6:=aaj k6;have n13:=aaj k13;simp only[go_sem,k1,k2,k3,k4,k5,k11,k6,k13];exact .mk _ (eY _) (.refl _) ⟨acE,rfl⟩
theorem GV(n:aM)(h:Heap):ai Tryz.prog 300 [dj n] h fun r h' =>r= .b (jo n)∧h' =h:=by
 refine aaq Tryz.func300 37 [.tmp 2] fun hwf=> ?_
 simp only[go_sem,dj];intro id hid;have fa:∀x y z:Bool,(x && (y && (z && true)))=(x && (y && (z && true))):=fun _ _ _=>rfl
 cases k1:(n.op==1)
 case true=>
  have e1:n.op=1:=aas;simp only[go_sem,k1];refine(fT n.val _).pthen ?_;cases d0:bF n.val
  ·simp only[go_sem]
   exact afF
  ·simp only[go_sem]
   exact .mk _ (.refl _) (.aj hid) ⟨by grind [jo,au,zeroAt],rfl⟩
 have n1:n.op≠1:=aas;cases k2:(n.op==2)
 case true=>
  have e1:n.op=2:=aas;simp only[go_sem,k1,k2];refine(Fj n.attr _).pthen ?_;cases d0:oZ n.attr
  ·simp only[go_sem]
   exact afF
  ·simp only[go_sem]
   exact .mk _ (.refl _) (.aj hid) ⟨by grind [jo,au,zeroV],rfl⟩
 have n2:n.op≠2:=aas;cases d0:zeroV n.val
 ·have d1:=d0
  unfold zeroV at d1;simp only[go_sem,k1,k2,d1];exact afF
 ·have d1:=d0
  unfold zeroV at d1;simp only[go_sem,k1,k2,d1];exact .mk _ (.refl _) (.aj hid) ⟨by grind [jo,au,zeroAt],rfl⟩
theorem u4:(U 4).sz=1:=aaG
theorem u4a:(U 4).k.agg=false:=aaG
theorem u4b:(U 4).bytes=1:=aaG
theorem u4f:fit (U 4).zero 1:=aaA
theorem u4n:bu (U 4).zero=false:=aaG
theorem Fl(l:List Bool):One (l.map jn):=One.map (fun _=>rfl) l
theorem MO(y:AV)(st:List Bool)(n:aM)(h0 h:Heap)(hy:WrA 4 h0 h y (st.map jn))(hl:st.length≤1000000):
  ai Tryz.prog 272 [y,dj n] h fun r h' =>∃z,r= .tup [z,.v (.bool (gV st n).isSome)]∧match gV st n with
   |none=>Ab.Sub h0 h'
   |some st' =>WrA 4 h0 h' z (st'.map jn):=by
 refine aaq Tryz.func272 60 [.tmp 4,.tmp 5] fun hwf=> ?_
 simp only[go_sem,dj];intro id hid;simp only[go_sem];have hyb:=hy.base hid (some (.obj [.i n.op,.i n.val.kind,.i n.val.n,.s n.val.s,.i n.attr.cat,.s n.attr.name,.b n.attr.must] 229));have hw:=Lc n.op (upd h id (some (.obj [.i n.op,.i n.val.kind,.i n.val.n,.s n.val.s,.i n.attr.cat,.s n.attr.name,.b n.attr.must] 229)));cases hwd:gW n.op with
 |none=>
  rw[hwd]at hw;have hst:gV st n=none:=by grind [gV]
  refine hw.pthen ?_;exact af5
 |some w=>
  rw[hwd]at hw;have hwl:w.length≤2:=by
   grind [gW]
  refine hw.pthen ?_;simp only[go_sem];refine(GV n _).pthen ?_;cases d1:jo n
  ·have hst:gV st n=none:=by grind [gV]
   exact af5
  cases d2:decide ((st.length:Int)<(w.length:Int))
  case true=>
   have e2:¬w.length≤st.length:=aas;have hst:gV st n=none:=by grind [gV]
   simp only[go_sem,hyb.len,aah,d2];exact .mk _ (.refl _) (.aj hid) ⟨_,aen,ad9⟩
  have e2:w.length≤st.length:=aas;have w1:IntKind.i64.wrap ((st.length:Int) - (w.length:Int))=((st.length - w.length:Nat):Int):=aaE;obtain⟨hb,ehb⟩:∃hb,upd h id (some (.obj [.i n.op,.i n.val.kind,.i n.val.n,.s n.val.s,.i n.attr.cat,.s n.attr.name,.b n.attr.must] 229))=hb:=⟨_,rfl⟩;have hbid:hb id=some (.obj [.i n.op,.i n.val.kind,.i n.val.n,.s n.val.s,.i n.attr.cat,.s n.attr.name,.b n.attr.must] 229):=adQ;have hsub:Ab.Sub h hb:=by rw[←ehb];exact .aj hid
  rw[ehb]at hyb⊢;simp only[go_sem,hyb.len,aah,d2,w1];refine .intro (fun m ρ h' =>h' =hb∧∃i:Nat,i≤w.length∧m=w.length - i∧(∀j,j<i→st[st.length - w.length+j]? =w[j]?)∧lk ρ 0=some y∧lk ρ 3=some (.ptr id 0)∧lk ρ 8=some (.i ((st.length - w.length:Nat):Int))∧lk ρ 36=some (.sl (w.map jn) .no)∧lk ρ 37=some (.i w.length)∧lk ρ 38=some (.i i)) w.length ?_ ?_
  ·refine⟨rfl,0,aar,rfl,fun j hj=>aar, ?_, ?_, ?_, ?_, ?_, ?_⟩<;>simp only[go_sem]
  ·rintro m ρ h' ⟨rfl,i,hi,rfl,hc,r0,r3,r8,r36,r37,r38⟩
   simp only[go_sem,r37,r38];refine .intro (fun e=> ?_) (fun e=> ?_)
   ·have hlt:i<w.length:=aao e
    have w2:IntKind.i64.wrap ((i:Int)+1)=((i+1:Nat):Int):=aaE;have w3:IntKind.i64.wrap (((st.length - w.length:Nat):Int)+(i:Int))=((st.length - w.length+i:Nat):Int):=aaE;have hlt2:st.length - w.length+i<st.length:=aar;simp only[go_sem,r36,r38];refine .at i aas aaH ?_;simp only[go_sem,r0,r8,aai,jn,w3];refine hyb.idx (Fl st) (st.length - w.length+i) rfl aas u4 u4a fun p hp=> ?_
    simp only[go_sem,hp _,aai,jn];cases d3:(st[st.length - w.length+i]==w[i])
    ·have hst:gV st n=none:=by
      have:st.drop (st.length - w.length)≠w:=fun hh=>by
       grind
      simp[gV,hwd,this]
     simp only[go_sem];exact .mk _ (.refl _) hsub ⟨_,aen,ad9⟩
    ·simp only[go_sem,r38,w2]
     refine⟨_, ?_,rfl,i+1,aar,rfl,fun j hj=> ?_, ?_, ?_, ?_, ?_, ?_, ?_⟩
     ·omega
     ·grind
     all_goals simp only[go_sem,r0,r3,r8,r36,r37]
   ·have hge:i=w.length:=by grind
    subst hge;have hdrop:st.drop (st.length - w.length)=w:=by
     apply List.ext_getElem?
     grind
    have hst:gV st n=some (st.take (st.length - w.length)++ [n.op==2]):=by
     grind [gV]
    simp only[go_sem];refine .calls (hm1 id _) [0,1,2,3,4,5,6,7,8,9] (.hm1 hbid) aav rfl ?_;simp only[go_sem,r0,r8];refine hyb.cut (x:=.i64) (st.length - w.length) aaG rfl aaz u4 fun z hz=> ?_
    rw[←List.map_take]at hz;simp only[go_sem,r3,fN];refine hz.app (zs:=[.b (n.op==2)]) (Fl _) (Fl [n.op==2]) u4 aau u4f u4n (fun k hk=>hk) (by grind [u4b]) fun z' h2 hz' => ?_
    refine⟨fun j b hj=>((Sub.hm1 (ah ..)).trans hz'.1) j b hj, ?_⟩
    simp only[go_sem];have hz2:=hz'.less (Sub.aj (hy.1.none hid));refine .same (.refl _) ⟨z',aen, ?_⟩;rw[hst];simp only[List.map_append];exact hz2
theorem DN{l:List aM}(h:l.length≤32)(hs:fF [] l=none):jF l=1:=by
 grind [jF,Nat.not_lt]
theorem jA(st:List Bool):∀(l:List aM) (i:Nat),fF st l=(match fF st (l.take i)with
  |none=>none
  |some st' =>fF st' (l.drop i))
 | [],i=>by simp[fF]
 |n::r,0=>aaG
 |n::r,i+1=>by
  simp only[List.take_succ_cons,List.drop_succ_cons,fF];cases gV st n with
  |none=>rfl
  |some st' =>simp only;exact jA st' r i
theorem qX(st st' :List Bool)(l:List aM)(h:fF st l=some st'):st'.length≤st.length+l.length:=by
 induction l generalizing st with
 |nil=>grind [fF,Option.some.injEq]
 |cons n r ih=>
  simp only[fF]at h;cases hs:gV st n with
  |none=>grind
  |some s2=>
   grind [gV]
theorem Fu(l:List aM)(h:Heap):ai Tryz.prog 243 [eU l] h fun r h' =>r= .i (jF l)∧h' =h:=by
 refine aaq Tryz.func243 38 [.tmp 2] fun hwf=> ?_
 cases d1:decide (32<(l.length:Int))
 case true=>
  have e1:32<l.length:=aas;simp only[go_sem,eU,aah,d1];exact .same (.refl _) ⟨by grind [jF,au],rfl⟩
 have e1:l.length≤32:=aas;simp only[go_sem,eU,aah,d1];refine .intro (fun m ρ h' =>∃(i:Nat) (y:AV) (st:List Bool),WrA 4 h h' y (st.map jn)∧fF [] (l.take i)=some st∧i≤l.length∧m=l.length - i∧
  lk ρ 0=some (eU l)∧lk ρ 3=some y∧lk ρ 10=some (eU l)∧lk ρ 11=some (.i l.length)∧lk ρ 12=some (.i i)) l.length ?_ ?_
 ·refine⟨0,_,[],.nil (.refl _),rfl,aar,rfl, ?_, ?_, ?_, ?_, ?_⟩<;>simp only[go_sem,eU]
 ·rintro m ρ h' ⟨i,y,st,hy,hst,hi,rfl,r0,r3,r10,r11,r12⟩
  have hsl:=qX _ _ _ hst;have hsl:st.length≤i:=aas;simp only[go_sem,r11,r12];refine .intro (fun e=> ?_) (fun e=> ?_)
  ·have hlt:i<l.length:=aao e
   have w1:IntKind.i64.wrap ((i:Int)+1)=((i+1:Nat):Int):=aaE;have hnx:fF [] (l.take (i+1))=gV st l[i]:=by
    rw[jA [] _ i,List.take_take,Nat.min_eq_left aar,hst,List.take_succ_eq_append_getElem hlt,List.drop_append_of_le_length aas,List.drop_of_length_le aas]
    grind [fF,gV]
   simp only[go_sem,r10,r12,eU];refine .at i aas aaH ?_;simp only[go_sem,aai,dj];intro id hid;simp only[go_sem,r3];have hyb:=hy.sub (Sub.aj (k:=some (.obj [.i l[i].op,.i l[i].val.kind,.i l[i].val.n,.s l[i].val.s,.i l[i].attr.cat,.s l[i].attr.name,.b l[i].attr.must] 229)) hid);refine(MO y st l[i] h _ hyb aar).mono fun r h2 ⟨z,e2,hz⟩=> ?_
   subst e2;cases hsd:gV st l[i]with
   |none=>
    rw[hsd]at hz;simp only[go_sem,Option.isSome_none];refine .mk _ (.refl _) hz ⟨?_,rfl⟩;rw[DN e1 (by rw[jA [] l (i+1),hnx,hsd])];rfl
   |some st' =>
    rw[hsd]at hz hnx;simp only[go_sem,r12,Option.isSome_some,w1];refine⟨_, ?_,i+1,z,st',hz,hnx,aar,rfl, ?_, ?_, ?_, ?_, ?_⟩
    ·omega
    all_goals simp only[go_sem,r0,r10,r11,eU]
  ·have hge:i=l.length:=by grind
   subst hge;rw[List.take_length]at hst;have he:jF l=if l= []∨st= [false]then 0 else 1:=by
    simp_all [jF,if_neg]
   cases d2:decide (0<(l.length:Int))
   ·have e2:l= []:=by simp_all
    simp only[go_sem,r0,eU,aah,d2];exact .mk _ (.refl _) hy.1 ⟨by rw[he,if_pos (.inl e2)];rfl,rfl⟩
   have e2:l≠ []:=aas;cases d3:((st.length:Int) !=1)
   case true=>
    have e3:st≠ [false]:=aas;simp only[go_sem,r0,r3,eU,aah,d2,hy.len,d3];exact .mk _ (.refl _) hy.1 ⟨by rw[he,if_neg aas];rfl,rfl⟩
   have e3:st.length=1:=by
    grind
   obtain⟨b,rfl⟩:=List.length_eq_one_iff.1 e3;simp only[go_sem,r0,r3,eU,aah,d2,hy.len];refine hy.idx (Fl [b]) 0 rfl aaz u4 u4a fun p hp=> ?_
   simp only[go_sem,hp _,jn,List.getElem_cons_zero];cases b
   ·simp only[go_sem]
    exact .mk _ (.refl _) hy.1 ⟨by rw[he,if_pos (.inr rfl)];rfl,rfl⟩
   ·simp only[go_sem]
    exact .mk _ (.refl _) hy.1 ⟨by rw[he,if_neg aas];rfl,rfl⟩
def Keeps(S:List Nat)(h h' :Heap):Prop:=∀j k,j∉S→h j=some k→h' j=some k
theorem Keeps.trans{S:List Nat}{a b c:Heap}(x:Keeps S a b)(y:Keeps S b c):Keeps S a c:=fun j k hj e=>y j k hj (x j k hj e)
theorem Keeps.of{S:List Nat}{a b:Heap}(x:Ab.Sub a b):Keeps S a b:=fun j k _ e=>x j k e
theorem Keeps.upd{S:List Nat}{a:Heap}{i:Nat}{b:Option Blk}(hi:i∈S):Keeps S a (Ab.upd a i b):=fun j k hj e=>by
 grind [ag]
def gK(h:Heap)(idw mid:Nat)(m:dN):Prop:=h idw=some (.obj [.mp mid,.i m.rules] 255)∧h mid=some (.mp (yY m.met))∧(∀l∈m.met,l.length≤16)∧m.rules≤64
theorem gK.ne{h:Heap}{idw mid:Nat}{m:dN}(hw:gK h idw mid m):idw≠mid:=fun e=>by
 have h1:=hw.1;have h2:=hw.2.1
 rw[e,h2]at h1;cases h1
theorem gK.keep{h h' :Heap}{idw mid:Nat}{m:dN}(hw:gK h idw mid m)(hs:Ab.Sub h h'):gK h' idw mid m:=⟨hs _ _ hw.1,hs _ _ hw.2.1,hw.2.2⟩
theorem Vo:(U 355).sz=0:=aaG
theorem Ew{s:Txt}(h:bk s=true):s.length≤16:=by
 grind [bk]
theorem xI{m:dN}{s:Txt}(h:s∈m.met∨bk s=false):iL m s=none:=by
 unfold iL
 grind
theorem Dw(idw mid:Nat)(m:dN)(s:Txt)(h:Heap)(hw:gK h idw mid m):ai Tryz.prog 240 [.ptr idw 0,.s s] h fun r h' =>match iL m s with
  |none=>r= .b false∧Ab.Sub h h'
  |some m' =>r= .b true∧Keeps [idw,mid] h h'∧gK h' idw mid m' :=by
 refine aaq Tryz.func240 28 [.tmp 4] fun hwf=> ?_
 obtain⟨w1,w2,w3,w4⟩:=hw;have hlen:s.length≤maxLen:=by
  have:=hwf (.s s) aaz;simp only[wfA,wf1,lim]at this;unfold maxLen;omega
 have hkeys:zl .str (yY m.met):=HH fun l hl=>by grind [maxLen]
 simp only[go_sem,w1,w2];refine⟨hlen,.inr aaG,hkeys, ?_⟩;rw[HJ _ _ Vo];simp only[go_sem];intro idv hidv;simp only[go_sem];cases d1:decide (s∈m.met)
 case true=>
  have hm:=xI (.inl (aaj d1));simp only[go_sem];rw[hm];exact .mk _ (.refl _) (.aj hidv) ⟨rfl,.refl _⟩
 have e1:=aak d1;simp only[go_sem];refine(nU _ _).pthen ?_;cases d2:bk s
 ·have hm:=xI (m:=m) (.inr d2)
  simp only[go_sem];rw[hm];exact .mk _ (.refl _) (.aj hidv) ⟨rfl,.refl _⟩
 have hm:iL m s=some ⟨m.met++ [s],m.rules⟩:=by grind [iL]
 have w1' :upd h idv (some (.obj [] 355)) idw=some (.obj [.mp mid,.i m.rules] 255):=aaZ;have w2' :upd h idv (some (.obj [] 355)) mid=some (.mp (yY m.met)):=aaZ;simp only[go_sem,w1',w2'];refine⟨hlen,hkeys, ?_⟩;rw[KK e1];rw[hm];refine .same (.refl _) ⟨rfl,(Keeps.of (.aj hidv)).trans (.upd aaz), ?_, ?_, ?_,w4⟩
 ·grind [ag]
 ·rw[ah]
 grind [List.mem_singleton,Ew]
theorem Lg(idw mid:Nat)(m:dN)(r:cK)(h:Heap)(hw:gK h idw mid m):ai Tryz.prog 208 [.ptr idw 0,aA r] h fun x h' =>x= .v (.int .i64 (fS m r).err)∧Keeps [idw,mid] h h'∧∀m',fS m r= .ok m'→gK h' idw mid m' :=by
 refine aaq Tryz.func208 39 [.tmp 4] fun hwf=> ?_
 simp only[go_sem,aA,aT,eU,az];intro id hid;have n1:idw≠id:=fun e=>by have:=hw.1;rw[e,hid]at this;cases this
 have n2:mid≠id:=fun e=>by have:=hw.2.1;rw[e,hid]at this;cases this
 have hwb:=hw.keep (Sub.aj (k:=some (.obj [.s r.id,.b r.deny,.sl (r.tgt.map cM) .no,.sl (r.cond.map dj) .no,.sl (r.obls.map bl) .no] 224)) hid);have hk0:Keeps [idw,mid] h (upd h id (some (.obj [.s r.id,.b r.deny,.sl (r.tgt.map cM) .no,.sl (r.cond.map dj) .no,.sl (r.obls.map bl) .no] 224))):=.of (.aj hid);simp only[go_sem];obtain⟨hb,ehb⟩:∃hb,upd h id (some (.obj [.s r.id,.b r.deny,.sl (r.tgt.map cM) .no,.sl (r.cond.map dj) .no,.sl (r.obls.map bl) .no] 224))=hb:=⟨_,rfl⟩;have hbid:hb id=some (.obj [.s r.id,.b r.deny,.sl (r.tgt.map cM) .no,.sl (r.cond.map dj) .no,.sl (r.obls.map bl) .no] 224):=adQ;rw[ehb]at hwb hk0⊢;refine(Dw idw mid m r.id hb hwb).mono fun x h2 hx=> ?_
 cases hm:iL m r.id with
 |none=>
  rw[hm]at hx;obtain⟨rfl,hs⟩:=hx;have hr:fS m r= .bad 1:=by grind [fS]
  simp only[go_sem];exact .same (.refl _) ⟨aer,hk0.trans (.of hs),fun m' h' =>aas⟩
 |some m1=>
  rw[hm]at hx;obtain⟨rfl,hk,hw2⟩:=hx;have g2:=hw2.1;have hle:=hw2.2.2.2;have hid2:h2 id=some (.obj [.s r.id,.b r.deny,.sl (r.tgt.map cM) .no,.sl (r.cond.map dj) .no,.sl (r.obls.map bl) .no] 224):=hk id _ aas hbid;have w1:IntKind.i64.wrap ((m1.rules:Int)+1)=((m1.rules+1:Nat):Int):=aaE;have hk3:Keeps [idw,mid] h (upd h2 idw (some (.obj [.mp mid,.i ((m1.rules+1:Nat):Int)] 255))):=(hk0.trans hk).trans (.upd aaz);have hid3:upd h2 idw (some (.obj [.mp mid,.i ((m1.rules+1:Nat):Int)] 255)) id=some (.obj [.s r.id,.b r.deny,.sl (r.tgt.map cM) .no,.sl (r.cond.map dj) .no,.sl (r.obls.map bl) .no] 224):=by
   grind [ag]
  cases d1:decide (64<((m1.rules+1:Nat):Int))
  case true=>
   have e1:m1.rules+1>64:=aas;have hr:fS m r= .bad 6:=by grind [fS]
   simp only[go_sem,g2,w1,d1];exact afm
  have e1:¬m1.rules+1>64:=aas;have hr:fS m r=need (kJ r.tgt) (need (jF r.cond) (need (gO r.obls) (.ok ⟨m1.met,m1.rules+1⟩))):=by grind [fS]
  simp only[go_sem,g2,w1,d1,hid3];refine(uu r.tgt _).pthen ?_;cases d2:(kJ r.tgt !=0)
  case true=>
   have e2:kJ r.tgt≠0:=aas;have hr:fS m r= .bad (kJ r.tgt):=by grind [need]
   simp only[go_sem,d2];exact afm
  have e2:kJ r.tgt=0:=aas;rw[need,if_pos e2]at hr;simp only[go_sem,d2,hid3];refine(Fu r.cond _).pthen ?_;cases d3:(jF r.cond !=0)
  case true=>
   have e3:jF r.cond≠0:=aas;have hr:fS m r= .bad (jF r.cond):=by grind [need]
   simp only[go_sem,d3];exact afm
  have e3:jF r.cond=0:=aas;rw[need,if_pos e3]at hr;simp only[go_sem,d3,hid3];refine(Bc r.obls _).pthen ?_;simp only[go_sem]
  by_cases e4:gO r.obls=0
  ·rw[need,if_pos e4]at hr
   refine .same (.refl _) ⟨by rw[hr,e4];rfl,hk3,fun m' h' => ?_⟩
   rw[hr]at h';cases h';refine⟨ah .., ?_,hw2.2.2.1,aas⟩;rw[ag _ _ hw2.ne.symm];exact hw2.2.1
  ·rw[need,if_neg e4]at hr
   exact afm
theorem xl{m:dN}{id:Txt}{set:Bool}{alg:Int}{tgt:fQ}{nr nk:Nat}{obls:List cA}(h:iL m id=none):eO m id set alg tgt nr nk obls= .bad 1:=by
 grind [eO]
theorem Le(idw mid:Nat)(m:dN)(id:Txt)(set:Bool)(alg:Int)(tgt:fQ)(rules:List cK)(kids:List bG)(obls:List cA)(h:Heap)(hw:gK h idw mid m):
  ai Tryz.prog 207 [.ptr idw 0,aK (.mk id set alg tgt rules kids obls)] h fun x h' =>x= .v (.int .i64 (eO m id set alg tgt rules.length kids.length obls).err)∧Keeps [idw,mid] h h'∧∀m',eO m id set alg tgt rules.length kids.length obls= .ok m'→gK h' idw mid m' :=by
 refine aaq Tryz.func207 68 [.tmp 4] fun hwf=> ?_
 simp -implicitDefEqProofs only[go_sem,aK,aT,az];intro ip hip;have n1:idw≠ip:=fun e=>by have:=hw.1;rw[e,hip]at this;cases this
 have n2:mid≠ip:=fun e=>by have:=hw.2.1;rw[e,hip]at this;cases this
 have hwb:=hw.keep (Sub.aj (k:=some (.obj [.s id,.b set,.i alg,.sl (tgt.map cM) .no,.sl (rules.map aA) .no,.sl (fj kids) .no,.sl (obls.map bl) .no] 65)) hip);have hk0:Keeps [idw,mid] h (upd h ip (some (.obj [.s id,.b set,.i alg,.sl (tgt.map cM) .no,.sl (rules.map aA) .no,.sl (fj kids) .no,.sl (obls.map bl) .no] 65))):=.of (.aj hip);simp -implicitDefEqProofs only[go_sem];obtain⟨hb,ehb⟩:∃hb,upd h ip (some (.obj [.s id,.b set,.i alg,.sl (tgt.map cM) .no,.sl (rules.map aA) .no,.sl (fj kids) .no,.sl (obls.map bl) .no] 65))=hb:=⟨_,rfl⟩;have hbip:hb ip=some (.obj [.s id,.b set,.i alg,.sl (tgt.map cM) .no,.sl (rules.map aA) .no,.sl (fj kids) .no,.sl (obls.map bl) .no] 65):=adQ;rw[ehb]at hwb hk0⊢;refine(Dw idw mid m id hb hwb).mono fun x h2 hx=> ?_
 cases hm:iL m id with
 |none=>
  rw[hm]at hx;obtain⟨rfl,hs⟩:=hx;simp -implicitDefEqProofs only[go_sem];exact .same (.refl _) ⟨by rw[xl hm];rfl,hk0.trans (.of hs),fun m' h' =>by rw[xl hm]at h';cases h'⟩
 |some m1=>
  rw[hm]at hx;obtain⟨rfl,hk,hw2⟩:=hx;have hip2:h2 ip=some (.obj [.s id,.b set,.i alg,.sl (tgt.map cM) .no,.sl (rules.map aA) .no,.sl (fj kids) .no,.sl (obls.map bl) .no] 65):=hk ip _ (by simp[n1.symm,n2.symm]) hbip
  have hkk:=hk0.trans hk;have bad:∀e,eO m id set alg tgt rules.length kids.length obls= .bad e→(.i e:AV)= .v (.int .i64 (eO m id set alg tgt rules.length kids.length obls).err)∧Keeps [idw,mid] h h2∧∀m',eO m id set alg tgt rules.length kids.length obls= .ok m'→gK h2 idw mid m' :=
   fun e he=>⟨by rw[he];rfl,hkk,fun m' h' =>by rw[he]at h';cases h'⟩
  cases d1:decide (alg<1)
  case true=>
   have e1:=aaj d1;simp -implicitDefEqProofs only[go_sem,d1,hip2];exact .same (.refl _) (bad 1 (by simp[eO,hm,e1]))
  cases d2:decide (6<alg)
  case true=>
   have e2:=aaj d2;simp -implicitDefEqProofs only[go_sem,d1,d2,hip2];exact .same (.refl _) (bad 1 (by simp[eO,hm,e2]))
  have e1:¬(alg<1∨alg>6):=by have:=aak d1;have:=aak d2;omega
  have tail:∀(z:Unit),¬(set=true∧rules.length>0∨set=false∧(kids.length>0∨alg=4))→eO m id set alg tgt rules.length kids.length obls=need (kJ tgt) (need (gO obls) (if rules.length>16∨kids.length>16 then .bad 6 else .ok m1)):=fun _ hh=>by
   simp only[eO,hm];rw[if_neg e1,if_neg hh]
  cases set
  ·cases d4:decide (0<(kids.length:Int))
   case true=>
    have f4:0<kids.length:=by have:=aaj d4;omega
    simp -implicitDefEqProofs only[go_sem,d1,d2,hip2,aV,aah,d4];exact .same (.refl _) (bad 1 (by simp[eO,hm,e1,f4]))
   have g4:¬0<kids.length:=by have:=aak d4;omega
   cases d5:(alg==4)
   case true=>
    have f5:alg=4:=by simpa using d5
    simp -implicitDefEqProofs only[go_sem,d1,d2,hip2,aV,aah,d4,d5];exact .same (.refl _) (bad 1 (by simp[eO,hm,f5]))
   have g5:alg≠4:=by simpa using d5
   simp -implicitDefEqProofs only[go_sem,d1,d2,hip2,aV,aah,d4,d5];have e3:=tail () (by simp[g4,g5])
   refine(uu tgt _).pthen ?_;cases t1:(kJ tgt !=0)
   case true=>
    exact afq
   have f1:kJ tgt=0:=by simpa using t1
   simp -implicitDefEqProofs only[go_sem,t1,hip2];refine(Bc obls _).pthen ?_;cases t2:(gO obls !=0)
   case true=>
    exact afo
   have f2:gO obls=0:=by simpa using t2
   cases t3:decide (16<(rules.length:Int))
   case true=>
    exact afk
   have f3:¬16<rules.length:=by have:=aak t3;omega
   cases t4:decide (16<(kids.length:Int))
   case true=>
    exact afh
   have f4:¬16<kids.length:=by have:=aak t4;omega
   simp -implicitDefEqProofs only[go_sem,t2,hip2,aah,t3,aV,t4];have e4:eO m id false alg tgt rules.length kids.length obls= .ok m1:=by rw[e3];simp[need,f1,f2,f3,f4]
   exact afQ
  ·cases d3:decide (0<(rules.length:Int))
   case true=>
    have f3:0<rules.length:=by have:=aaj d3;omega
    simp -implicitDefEqProofs only[go_sem,d1,d2,hip2,aah,d3];exact .same (.refl _) (bad 1 (by simp[eO,hm,e1,f3]))
   have g3:¬0<rules.length:=by have:=aak d3;omega
   simp -implicitDefEqProofs only[go_sem,d1,d2,hip2,aah,d3];have e3:=tail () (by simp[g3])
   refine(uu tgt _).pthen ?_;cases t1:(kJ tgt !=0)
   case true=>
    exact afq
   have f1:kJ tgt=0:=by simpa using t1
   simp -implicitDefEqProofs only[go_sem,t1,hip2];refine(Bc obls _).pthen ?_;cases t2:(gO obls !=0)
   case true=>
    exact afo
   have f2:gO obls=0:=by simpa using t2
   cases t3:decide (16<(rules.length:Int))
   case true=>
    exact afk
   have f3:¬16<rules.length:=by have:=aak t3;omega
   cases t4:decide (16<(kids.length:Int))
   case true=>
    exact afh
   have f4:¬16<kids.length:=by have:=aak t4;omega
   simp -implicitDefEqProofs only[go_sem,t2,hip2,aah,t3,aV,t4];have e4:eO m id true alg tgt rules.length kids.length obls= .ok m1:=by rw[e3];simp[need,f1,f2,f3,f4]
   exact afQ
theorem Ko(k:bG):(aK k).cells.length=7:=by
 cases k;rfl
theorem ue{m:dN}{d:Nat}{p:bG}(h:4<d):jQ m d p= .bad 6:=by
 cases p;grind [jQ]
theorem uf{m:dN}{d:Nat}{id:Txt}{set:Bool}{alg:Int}{tgt:fQ}{rules:List cK}{kids:List bG}{obls:List cA}{e:Int}(h:¬4<d)
  (hh:eO m id set alg tgt rules.length kids.length obls= .bad e):jQ m d (.mk id set alg tgt rules kids obls)= .bad e:=by
 grind [jQ]
theorem xT{m m1:dN}{d:Nat}{id:Txt}{set:Bool}{alg:Int}{tgt:fQ}{rules:List cK}{kids:List bG}{obls:List cA}{e:Int}(h:¬4<d)
  (hh:eO m id set alg tgt rules.length kids.length obls= .ok m1) (hr:eW m1 rules= .bad e):jQ m d (.mk id set alg tgt rules kids obls)= .bad e:=by
 grind [jQ]
theorem zZ{m m1 m2:dN}{d:Nat}{id:Txt}{set:Bool}{alg:Int}{tgt:fQ}{rules:List cK}{kids:List bG}{obls:List cA}(h:¬4<d)
  (hh:eO m id set alg tgt rules.length kids.length obls= .ok m1) (hr:eW m1 rules= .ok m2):jQ m d (.mk id set alg tgt rules kids obls)=ij m2 (d+1) kids:=by
 grind [jQ]
theorem sQ:∀(n d:Nat) (m:dN) (p:bG) (e:Int),d+n=5→jQ m d p= .bad e→e≠0
 |0,d,m,p,e,hd,h=>by grind [ue]
 |n+1,d,m,.mk id set alg tgt rules kids obls,e,hd,h=>by
  by_cases h4:4<d
  ·omega
  cases hh:eO m id set alg tgt rules.length kids.length obls with
  |bad e' =>grind [uf,zH]
  |ok m1=>
   cases hr:eW m1 rules with
   |bad e' =>
    rw[xT h4 hh hr]at h;cases h
    clear hh hd
    induction rules generalizing m1 with
    |nil=>cases hr
    |cons r l ih=>
     grind [eW,fS,Ag]
   |ok m2=>
    rw[zZ h4 hh hr]at h;have ih:=fun m p e=>sQ n (d+1) m p e aar
    clear hh hr
    induction kids generalizing m2 with
    |nil=>cases h
    |cons k l ihk=>
     simp only[ij]at h;cases hx:jQ m2 (d+1) k with
     |bad x=>rw[hx]at h;cases h;exact ih _ _ _ hx
     |ok m3=>rw[hx]at h;exact ihk m3 h
theorem FR{e:Int}{w:Went}{m:dN}(h:need e w= .ok m):e=0∧w= .ok m:=by
 grind [need]
theorem JE{m m1:dN}{id:Txt}{set:Bool}{alg:Int}{tgt:fQ}{nr nk:Nat}{obls:List cA}(h:eO m id set alg tgt nr nk obls= .ok m1):
  iL m id=some m1∧1≤alg∧alg≤6∧(set=true→nr=0)∧(set=false→nk=0∧alg≠4)∧kJ tgt=0∧gO obls=0∧nr≤16∧nk≤16:=by
 unfold eO at h;split at h
 ·cases h
 split at h
 ·cases h
 split at h
 ·cases h
 obtain⟨h3,h⟩:=FR h;obtain⟨h4,h⟩:=FR h
 grind
theorem Gn:∀(n d:Nat),d+n=5→∀(idw mid:Nat) (m:dN) (p:bG) (h:Heap),gK h idw mid m→
  ai Tryz.prog 167 [.ptr idw 0,aK p,.i d] h fun x h' =>x= .v (.int .i64 (jQ m d p).err)∧Keeps [idw,mid] h h'∧∀m',jQ m d p= .ok m'→gK h' idw mid m'
 |n,d,hd,idw,mid,m,.mk id set alg tgt rules kids obls,h,hw=>by
  refine aaq Tryz.func167 52 [.tmp 6] fun hwf=> ?_
  simp only[go_sem,aK,aT,az];intro ip hip;have n1:idw≠ip:=fun e=>by have:=hw.1;rw[e,hip]at this;cases this
  have n2:mid≠ip:=fun e=>by have:=hw.2.1;rw[e,hip]at this;cases this
  have hwb:=hw.keep (Sub.aj (k:=some (.obj [.s id,.b set,.i alg,.sl (tgt.map cM) .no,.sl (rules.map aA) .no,.sl (fj kids) .no,.sl (obls.map bl) .no] 65)) hip);have hk0:Keeps [idw,mid] h (upd h ip (some (.obj [.s id,.b set,.i alg,.sl (tgt.map cM) .no,.sl (rules.map aA) .no,.sl (fj kids) .no,.sl (obls.map bl) .no] 65))):=.of (.aj hip);obtain⟨hb,ehb⟩:∃hb,upd h ip (some (.obj [.s id,.b set,.i alg,.sl (tgt.map cM) .no,.sl (rules.map aA) .no,.sl (fj kids) .no,.sl (obls.map bl) .no] 65))=hb:=⟨_,rfl⟩;have hbip:hb ip=some (.obj [.s id,.b set,.i alg,.sl (tgt.map cM) .no,.sl (rules.map aA) .no,.sl (fj kids) .no,.sl (obls.map bl) .no] 65):=adQ;rw[ehb]at hwb hk0⊢;cases d0:decide (4<(d:Int))
  case true=>
   have e0:4<d:=aas;simp only[go_sem,d0];exact .same (.refl _) ⟨by rw[ue e0];rfl,hk0,fun m' h' =>by grind [ue]⟩
  have e0:¬4<d:=aas;simp only[go_sem,d0,hbip];have hhead:=Le idw mid m id set alg tgt rules kids obls hb hwb;simp only[aK,aT,az]at hhead;refine hhead.mono fun x h2 ⟨ex,hk,hw2⟩=> ?_
  subst ex;have hk2:=hk0.trans hk;cases hh:eO m id set alg tgt rules.length kids.length obls with
  |bad e=>
   have hne:=zH hh;have t1:(e !=0)=true:=aas;simp only[go_sem,Went.err,t1];exact .same (.refl _) ⟨by rw[uf e0 hh];rfl,hk2,fun m' h' =>by grind [uf]⟩
  |ok m1=>
   have hw2:=hw2 _ hh;have hle:=(JE hh).2.2.2.2.2.2.2;have hip2:=hk ip _ aas hbip;simp only[go_sem,Went.err,hip2,aah];refine .intro (fun k ρ h' =>∃(i:Nat) (mi:dN),i≤rules.length∧k=rules.length - i∧eW m1 (rules.take i)= .ok mi∧Keeps [idw,mid] h h'∧gK h' idw mid mi∧
    h' ip=some (.obj [.s id,.b set,.i alg,.sl (tgt.map cM) .no,.sl (rules.map aA) .no,.sl (fj kids) .no,.sl (obls.map bl) .no] 65)∧
    lk ρ 0=some (.ptr idw 0)∧lk ρ 2=some (.i d)∧lk ρ 4=some (.ptr ip 0)∧lk ρ 23=some (.sl (rules.map aA) .no)∧lk ρ 24=some (.i rules.length)∧lk ρ 25=some (.i i)) rules.length ?_ ?_
   ·refine⟨0,m1,aar,rfl,rfl,hk2,hw2,hip2, ?_, ?_, ?_, ?_, ?_, ?_⟩<;>simp only[go_sem]
   ·rintro k ρ h' ⟨i,mi,hi,rfl,hri,hki,hwi,hipi,r0,r2,r4,r23,r24,r25⟩
    simp only[go_sem,r24,r25];refine .intro (fun e=> ?_) (fun e=> ?_)
    ·have hlt:i<rules.length:=aao e
     have w1:IntKind.i64.wrap ((i:Int)+1)=((i+1:Nat):Int):=aaE;simp only[go_sem,r23,r25];refine .at i aas aaH ?_;simp only[go_sem,aai,aA];intro ir hir;have hrl:=Lg idw mid mi rules[i] _ (hwi.keep (Sub.aj (k:=some (.obj [.s rules[i].id,.b rules[i].deny,aT rules[i].tgt,eU rules[i].cond,az rules[i].obls] 224)) hir));simp only[aA]at hrl;simp only[go_sem,r0];refine hrl.mono fun x h3 ⟨ex,hk3,hw3⟩=> ?_
     subst ex;have hk4:=(hki.trans (.of (Sub.aj hir))).trans hk3;have hip3:=hk3 ip _ aas ((Sub.aj hir) _ _ hipi);cases hx:fS mi rules[i]with
     |bad x=>
      have t1:(x !=0)=true:=by grind [Ag]
      simp only[go_sem,Went.err,t1];have hp:=xT (d:=d) (kids:=kids) e0 hh (Da hlt hri hx);exact .same (.refl _) ⟨by rw[hp];rfl,hk4,fun m' h' =>aas⟩
     |ok m3=>
      simp only[go_sem,r25,Went.err,w1];refine⟨_, ?_,i+1,m3,aar,rfl,by grind [vn],hk4,hw3 _ hx,hip3, ?_, ?_, ?_, ?_, ?_, ?_⟩
      ·omega
      all_goals simp only[go_sem,r0,r2,r4,r23,r24]
    ·have hge:i=rules.length:=by grind
     subst hge;rw[List.take_length]at hri;have hpk:=zZ (d:=d) (kids:=kids) e0 hh hri;simp only[go_sem,r4,hipi,aV,aah];refine .intro (fun k ρ h' =>∃(i:Nat) (mj:dN),i≤kids.length∧k=kids.length - i∧ij mi (d+1) (kids.take i)= .ok mj∧Keeps [idw,mid] h h'∧gK h' idw mid mj∧
      lk ρ 0=some (.ptr idw 0)∧lk ρ 2=some (.i d)∧lk ρ 37=some (.sl (kids.map aK) .no)∧lk ρ 38=some (.i kids.length)∧lk ρ 39=some (.i i)) kids.length ?_ ?_
     ·refine⟨0,mi,aar,rfl,rfl,hki,hwi, ?_, ?_, ?_, ?_, ?_⟩<;>simp only[go_sem,r0,r2]
     ·rintro k ρ h' ⟨i,mj,hi,rfl,hkj,hki,hwi,r0,r2,r37,r38,r39⟩
      simp only[go_sem,r38,r39];refine .intro (fun e=> ?_) (fun e=> ?_)
      ·have hlt:i<kids.length:=aao e
       have w1:IntKind.i64.wrap ((i:Int)+1)=((i+1:Nat):Int):=aaE;have w2:IntKind.i64.wrap ((d:Int)+1)=((d+1:Nat):Int):=aaE;obtain⟨n',rfl⟩:∃n',n=n' +1:=⟨n - 1,aar⟩;have hrec:=Gn n' (d+1) aar idw mid mj kids[i];cases hki' :kids[i]with
       |mk kid kset kalg ktgt krules kkids kobls=>
       rw[hki']at hrec;simp only[aK,aT,az]at hrec;simp only[go_sem,r37,r39];refine .at i aas (by grind [Ko]) ?_
       simp only[go_sem,aai,hki',aK,aT,az];intro ir hir;simp only[go_sem,r0,r2,w2];refine(hrec _ (hwi.keep (Sub.aj hir))).mono fun x h3 ⟨ex,hk3,hw3⟩=> ?_
       subst ex;have hk4:=(hki.trans (.of (Sub.aj hir))).trans hk3;cases hx:jQ mj (d+1) (.mk kid kset kalg ktgt krules kkids kobls)with
       |bad x=>
        have t1:(x !=0)=true:=by simpa using sQ n' (d+1) _ _ _ aar hx
        simp only[go_sem,Went.err,t1];have hp:=Er hlt hkj (by rw[hki'];exact hx)
        exact .same (.refl _) ⟨by rw[hpk,hp];rfl,hk4,fun m' h' =>aas⟩
       |ok m3=>
        simp only[go_sem,r39,Went.err,w1];refine⟨_, ?_,i+1,m3,aar,rfl,by grind [xu],hk4,hw3 _ hx, ?_, ?_, ?_, ?_, ?_⟩
        ·omega
        all_goals simp only[go_sem,r0,r2,r37,r38]
      ·have hge:i=kids.length:=by grind
       subst hge;rw[List.take_length]at hkj;simp only[go_sem];exact .same (.refl _) ⟨by rw[hpk,hkj];rfl,hki,fun m' h' =>aas⟩
theorem Ex{h:Heap}{i j:Nat}{b:Blk}(e:upd h i (some b) j=none):j≠i:=fun hh=>by
 subst hh;rw[ah]at e;cases e
theorem sW(p:bG)(h:Heap):ai Tryz.prog 117 [aK p] h fun r h' =>r= .i (fY p)∧h' =h:=by
 cases p with
 |mk id set alg tgt rules kids obls=>
 refine aaq Tryz.func117 10 [.tmp 2] fun hwf=> ?_
 simp only[go_sem,aK,aT,az];intro ip hip;simp only[go_sem];intro im him;simp only[go_sem];intro iw hiw;have n1:=Ex him;have n2:=Ex hiw;have hiw1:=hiw;rw[ag _ _ n2]at hiw1;have n3:=Ex hiw1;have s1:Ab.Sub h (upd (upd (upd h ip (some (.obj [.s id,.b set,.i alg,.sl (tgt.map cM) .no,.sl (rules.map aA) .no,.sl (fj kids) .no,.sl (obls.map bl) .no] 65))) im (some (.mp []))) iw (some (.obj [.mp im,.i 0] 255))):=
  ((Sub.aj hip).trans (.aj him)).trans (.aj hiw)
 obtain⟨h3,e3⟩:∃h3,upd (upd (upd h ip (some (.obj [.s id,.b set,.i alg,.sl (tgt.map cM) .no,.sl (rules.map aA) .no,.sl (fj kids) .no,.sl (obls.map bl) .no] 65))) im (some (.mp []))) iw (some (.obj [.mp im,.i 0] 255))=h3:=⟨_,rfl⟩;have g1:h3 ip=some (.obj [.s id,.b set,.i alg,.sl (tgt.map cM) .no,.sl (rules.map aA) .no,.sl (fj kids) .no,.sl (obls.map bl) .no] 65):=by
  rw[←e3,ag _ _ n3.symm,ag _ _ n1.symm,ah]
 have g2:gK h3 iw im ⟨[],0⟩:=by
  refine⟨by rw[←e3,ah];rfl,by rw[←e3,ag _ _ n2.symm,ah];rfl,fun l hl=>aas,aau⟩
 have hi0:h im=none:=aaZ;have hw0:h iw=none:=aaZ;simp only[go_sem];rw[e3]at s1⊢;simp only[go_sem,g1];have hp:=Gn 4 1 rfl iw im ⟨[],0⟩ (.mk id set alg tgt rules kids obls) h3 g2;refine hp.mono fun x h4 ⟨ex,hk,_⟩=> ?_
 subst ex;simp only[go_sem];refine .mk _ (.refl _) (fun j k hj=> ?_) ⟨rfl,rfl⟩
 refine hk j k ?_ (s1 _ _ hj)
 grind
def jw(x:bG×Int×Int):AV:=.tup [aK x.1,.i x.2.1,.i x.2.2]
theorem iW(a b c:AV)(h:Weak a b)(d:AV):Weak (.tup [a,c,d]) (.tup [b,c,d]):=.tup _ _ rfl fun i h1 h2=>by
 rcases i with _|_|_|i
 ·exact h
 ·exact abG
 ·exact abG
 grind
theorem xO(s:Txt)(h:Heap)(he:lJ h):ai Tryz.prog 67 [.s s] h fun r h' =>r=jw (aO s)∧h' =h:=by
 refine aaq Tryz.func67 61 [.cell 2 65,.tmp 3,.tmp 4] fun hwf=> ?_
 simp only[go_sem];intro i2 hi2;simp only[go_sem];refine(DC s _ (he.sub (.aj hi2))).pthen ?_;cases el:rC s with
 |bad e a=>
  have e1:=xz el;have d1:(e !=0)=true:=by
   grind
  have efin:aO s=(nC,e,a):=by grind [aO]
  simp only[go_sem,Ml,d1];rw[efin];exact .mk (h' :=h) (jw (nC,e,a)) (iW _ _ _ (fP _) _) (.aj hi2) ⟨rfl,rfl⟩
 |ok ts=>
  have efin:aO s=xN s ts:=by grind [aO]
  have hw:=ID el 0 0 0;have hpol:=CW 3 1 rfl ⟨ts,0,0,0,0⟩ hw (Nat.zero_le _);have hap:=wz 4 ⟨ts,0,0,0,0⟩ hw;obtain⟨⟨⟨pid,pset,palg,ptgt,prules,pkids,pobls⟩,st1⟩,ep⟩:∃x,gh 4 ⟨ts,0,0,0,0⟩=x:=⟨_,rfl⟩;rw[show 3+1=4 from rfl,ep]at hpol
  rw[ep]at hap;simp only[aK]at hpol hap;simp only[xN,ep]at efin;simp only[go_sem,Ml];intro i8 hi8;have n8:=aF hi8;have m82:¬i8=i2:=n8;have m28:¬i2=i8:=fun e=>n8 e.symm
  have hh8:h i8=none:=aaZ;simp only[go_sem];refine hpol.go (ah ..) ?_;rw[mI];simp only[go_sem];intro i9 hi9;have n9:=aF hi9;have hi9' :=hi9;rw[ag _ _ n9]at hi9';have n92:=aF hi9';have m92:¬i9=i2:=n92;have m29:¬i2=i9:=fun e=>n92 e.symm
  have m98:¬i9=i8:=n9;have m89:¬i8=i9:=fun e=>n9 e.symm
  have hh9:h i9=none:=aaZ;have c9:∀(f:Heap) (x y:Option Blk),upd (upd f i8 x) i9 y=upd (upd f i9 y) i8 x:=fun f x y=>cq f x y n9.symm
  simp only[go_sem,c9,ak,m98];refine(lf st1 hap.1).run ?_;have subs:∀x y z,Sub h (upd (upd (upd h i2 x) i9 y) i8 z):=fun x y z=>((Sub.aj hi2).put hh9 _).put hh8 _
  cases d1:((aI st1).kind !=7)
  ·have k1:(aI st1).kind=7:=by grind
   have e2:(if(aI st1).kind=7 then st1 else bf st1)=st1:=if_pos k1
   simp only[go_sem,fo,d1];cases db:((st1).bad==0)
   ·have eb:(st1).bad≠0:=by grind
    simp only[go_sem,PO,db];have eend:oQ s (.mk pid pset palg ptgt prules pkids pobls,st1)=st1:=by
     simp_all [oQ,if_neg]
    have hbb:(st1).bad≠0:=eb;have dn:((st1).bad !=0)=true:=aas;simp only[go_sem,dn];refine .calls (hm1 i8 (PO (st1))) [0,1,2,3,4,5,6,7,8,9,10,11] (.hm1 (ah ..)) aav rfl ?_;simp only[go_sem,ak,m28,m29,PO,fN];refine⟨.hm1 ((ag _ _ n8).trans (ah ..)), ?_⟩;have efin2:aO s=(nC,(st1).bad,(st1).place):=aas;rw[efin2];exact .mk (h' :=h) (jw (nC,(st1).bad,(st1).place)) (iW _ _ _ (fP _) _) (Sub.put (subs _ _ _) hi2 _) ⟨rfl,rfl⟩
   ·have eb:(st1).bad=0:=by grind
    simp only[go_sem,ak,m98,PO,db];refine(sW (.mk pid pset palg ptgt prules pkids pobls) _).pthen ?_;cases dr:(fY (.mk pid pset palg ptgt prules pkids pobls) !=0)
    ·have er:fY (.mk pid pset palg ptgt prules pkids pobls)=0:=by grind
     have dn:((st1).bad !=0)=false:=aas;simp only[go_sem,ak,m28,m29,m98,dr,dn];have eend:oQ s (.mk pid pset palg ptgt prules pkids pobls,st1)=st1:=by
      simp_all [oQ,if_neg]
     exact af2
    ·have er:fY (.mk pid pset palg ptgt prules pkids pobls)≠0:=by grind
     simp only[go_sem,dr];refine(qt (st1) 5 s.length).run ?_;have eend:oQ s (.mk pid pset palg ptgt prules pkids pobls,st1)=bD (st1) 5 s.length:=by
      simp_all [oQ,if_pos]
     have hwb:bD (st1) 5 s.length= {(st1)with bad:=5,place:=s.length}:=by rw[bD,if_pos eb]
     have hbb:(bD (st1) 5 s.length).bad≠0:=aas;have dn:((bD (st1) 5 s.length).bad !=0)=true:=aas;simp only[go_sem,PO,dn];refine .calls (hm1 i8 (PO (bD (st1) 5 s.length))) [0,1,2,3,4,5,6,7,8,9,10,11] (.hm1 (ah ..)) aav rfl ?_;simp only[go_sem,ak,m28,m29,PO,fN];refine⟨.hm1 ((ag _ _ n8).trans (ah ..)), ?_⟩;have efin2:aO s=(nC,(bD (st1) 5 s.length).bad,(bD (st1) 5 s.length).place):=aas;rw[efin2];exact .mk (h' :=h) (jw (nC,(bD (st1) 5 s.length).bad,(bD (st1) 5 s.length).place)) (iW _ _ _ (fP _) _) (Sub.put (subs _ _ _) hi2 _) ⟨rfl,rfl⟩
  ·have k1:(aI st1).kind≠7:=by grind
   have e2:(if(aI st1).kind=7 then st1 else bf st1)=bf st1:=if_neg k1
   simp only[go_sem,fo,d1];refine(kI st1 hap.1).run ?_;simp only[go_sem];cases db:((bf st1).bad==0)
   ·have eb:(bf st1).bad≠0:=by grind
    simp only[go_sem,PO,db];have eend:oQ s (.mk pid pset palg ptgt prules pkids pobls,st1)=bf st1:=by
     simp_all [oQ,if_neg]
    have hbb:(bf st1).bad≠0:=eb;have dn:((bf st1).bad !=0)=true:=aas;simp only[go_sem,dn];refine .calls (hm1 i8 (PO (bf st1))) [0,1,2,3,4,5,6,7,8,9,10,11] (.hm1 (ah ..)) aav rfl ?_;simp only[go_sem,ak,m28,m29,PO,fN];refine⟨.hm1 ((ag _ _ n8).trans (ah ..)), ?_⟩;have efin2:aO s=(nC,(bf st1).bad,(bf st1).place):=aas;rw[efin2];exact .mk (h' :=h) (jw (nC,(bf st1).bad,(bf st1).place)) (iW _ _ _ (fP _) _) (Sub.put (subs _ _ _) hi2 _) ⟨rfl,rfl⟩
   ·have eb:(bf st1).bad=0:=by grind
    simp only[go_sem,ak,m98,PO,db];refine(sW (.mk pid pset palg ptgt prules pkids pobls) _).pthen ?_;cases dr:(fY (.mk pid pset palg ptgt prules pkids pobls) !=0)
    ·have er:fY (.mk pid pset palg ptgt prules pkids pobls)=0:=by grind
     have dn:((bf st1).bad !=0)=false:=aas;simp only[go_sem,ak,m28,m29,m98,dr,dn];have eend:oQ s (.mk pid pset palg ptgt prules pkids pobls,st1)=bf st1:=by
      simp_all [oQ,if_neg]
     exact af2
    ·have er:fY (.mk pid pset palg ptgt prules pkids pobls)≠0:=by grind
     simp only[go_sem,dr];refine(qt (bf st1) 5 s.length).run ?_;have eend:oQ s (.mk pid pset palg ptgt prules pkids pobls,st1)=bD (bf st1) 5 s.length:=by
      simp_all [oQ,if_pos]
     have hwb:bD (bf st1) 5 s.length= {(bf st1)with bad:=5,place:=s.length}:=by rw[bD,if_pos eb]
     have hbb:(bD (bf st1) 5 s.length).bad≠0:=aas;have dn:((bD (bf st1) 5 s.length).bad !=0)=true:=aas;simp only[go_sem,PO,dn];refine .calls (hm1 i8 (PO (bD (bf st1) 5 s.length))) [0,1,2,3,4,5,6,7,8,9,10,11] (.hm1 (ah ..)) aav rfl ?_;simp only[go_sem,ak,m28,m29,PO,fN];refine⟨.hm1 ((ag _ _ n8).trans (ah ..)), ?_⟩;have efin2:aO s=(nC,(bD (bf st1) 5 s.length).bad,(bD (bf st1) 5 s.length).place):=aas;rw[efin2];exact .mk (h' :=h) (jw (nC,(bD (bf st1) 5 s.length).bad,(bD (bf st1) 5 s.length).place)) (iW _ _ _ (fP _) _) (Sub.put (subs _ _ _) hi2 _) ⟨rfl,rfl⟩
end Go.Proofs.YtcochaoekecfdaaGreatDoor
namespace Go.Ab
open Go
theorem OwE.keepb{tb:TypeId}{h0 h h' :Heap}{sz:Nat}{y:AV}{xs:List AV}(hw:OwE tb h0 h sz y xs)(hk:∀id,h0 id=Option.none→h id≠Option.none→h' id=h id):OwE tb h0 h' sz y xs:=
 hw.keep fun id e=>hk id (hw.nid e).1 (hw.nid e).2.1
end Go.Ab
namespace Go.Proofs.YtcochaoekecfdaaGreatDoor
open Go Go.Ab Go.Bf
theorem eS.keepb{h0 h h' :Heap}{ys:List AV}{x:AV}{c:aJ}(hm:eS h0 h ys x c)(hk:∀id,h0 id=none→h id≠none→h' id=h id):eS h0 h' ys x c:=by
 obtain⟨f,l,e,a,b,c,d⟩:=hm;exact⟨f,l,e,a.keepb hk,b.keepb hk,c,d⟩
theorem kY.keepb{h0 h h' :Heap}{ys:List AV}{y:AV}{cs:List aJ}{i0:Nat}(ho:kY h0 h ys y cs i0)(hk:∀id,h0 id=none→h id≠none→h' id=h id):kY h0 h' ys y cs i0:=by
 obtain⟨xs,a,b,c,d⟩:=ho;exact⟨xs,a.keepb hk,b,c,fun h1 h2=>(d h1 h2).keepb hk⟩
theorem rO.keepb{h0 h h' :Heap}{x:AV}{s:an}{i0:Nat}(ho:rO h0 h x s i0)(hk:∀id,h0 id=none→h id≠none→h' id=h id):rO h0 h' x s i0:=by
 obtain⟨y1,y2,y3,y4,e,a,b,c,d,r⟩:=ho;exact⟨y1,y2,y3,y4,e,a.keepb hk,b.keepb hk,c.keepb hk,d.keepb hk,r⟩
theorem kY.keepx{h0 h h' :Heap}{ys:List AV}{y z:AV}{cs:List aJ}{i0:Nat}(ho:kY h0 h ys y cs i0)(hz:z∈ys)(hy:apart y z)(hk:∀id,h0 id=none→h id≠none→nid z≠some id→h' id=h id):kY h0 h' ys y cs i0:=by
 obtain⟨xs,a,b,c,d⟩:=ho;refine⟨xs,a.keep fun id e=>hk id (a.nid e).1 (a.nid e).2.1 (hy id e),b,c,fun h1 h2=> ?_⟩
 obtain⟨f,l,e,of,ol,hap,hys⟩:=d h1 h2;exact⟨f,l,e,of.keep fun id e=>hk id (of.nid e).1 (of.nid e).2.1 ((hys z hz).1 id e),ol.keep fun id e=>hk id (ol.nid e).1 (ol.nid e).2.1 ((hys z hz).2 id e),hap,hys⟩
theorem eS.frz{g h0 h:Heap}{ys:List AV}{x:AV}{c:aJ}(hm:eS h0 h ys x c)(hg:Ab.Sub g h0):Frz g h x (cm c):=by
 obtain⟨f,l,rfl,a,b,_⟩:=hm;refine .agg _ _ rfl fun j h1 h2=> ?_
 rcases j with _|_|_|_|_|j
 ·exact aaL
 ·exact aaL
 ·exact aaL
 ·exact(a.less hg).frz (bn (fun _=>rfl) _)
 ·exact(b.less hg).frz (bn (fun _=>rfl) _)
 ·simp at h1;omega
theorem Hj{g h0 h:Heap}{y:AV}{xs:List AV}{cs:List aJ}(hw:OwE 134 h0 h 5 y xs)(hg:Ab.Sub g h0)(hn:xs.length=cs.length)(hx:∀j (h1:j<xs.length) (h2:j<cs.length),Frz g h xs[j] (cm cs[j])):Frz g h y (fM cs):=by
 rcases hw with⟨rfl,rfl⟩|⟨id,h1,hw⟩
 ·have:cs= []:=by grind
  subst this;exact .sl [] [] .full rfl aar aaz
 ·have hsz:∀i (h1:i<xs.length),xs[i].cells.length=5:=fun i h1=>hw.rd.1 _ aaz
  refine hw.frz (hg.none h1) aas (fun i h1 h2=>by rw[hsz i h1,aai];rfl) fun i h1 h2 j h3 h4=> ?_
  have h2' :i<cs.length:=aar;have hf:=hx i h1 h2';have key:∀x y:AV,Frz g h x y→bu y=true→cG y=true→∀j (h3:j<x.cells.length) (h4:j<y.cells.length),Frz g h x.cells[j] y.cells[j]:=by
   intro x y hf ha hp j h3 h4;cases hf with
   |keep x hx=>exact .pure (mD hp _ (aam h4))
   |agg xs ys hn hr=>exact hr j h3 h4
   |_=>cases ha
  have e:(cs.map cm)[i]'h2=cm cs[i]:=aaz;simp only[e]at h4⊢;exact key _ _ hf rfl (by simp only[cm,mq,cG,gF,fV,rD,Bool.and_true,Bool.true_and,Bool.and_eq_true];exact⟨bn (fun _=>rfl) _,bn (fun _=>rfl) _⟩) j h3 h4
theorem kY.frz{g h0 h:Heap}{ys:List AV}{y:AV}{cs:List aJ}{i0:Nat}(ho:kY h0 h ys y cs i0)(hg:Ab.Sub g h0):Frz g h y (fM cs):=by
 obtain⟨xs,a,b,c,d⟩:=ho;refine Hj a hg b fun j h1 h2=> ?_
 by_cases e:j=i0
 ·subst e;exact(d h1 h2).frz hg
 grind [B9]
theorem Kp{g h:Heap}(p:bG):∀x∈fJ p,Frz g h x x:=fun x hx=>by
 refine .pure (mD (x:=aK p) (CY p) x ?_);rw[My];exact hx
theorem Ca{g h:Heap}{xs:List AV}(hx:∀x∈xs,Frz g h x x):∀i (h1:i<xs.length) (h2:i<xs.length),Frz g h xs[i] xs[i]:=fun i h1 _=>hx _ (aam h1)
theorem FB{g h:Heap}{ps bs cs ds:List AV}(n1:ps.length=bs.length)(n2:cs.length=ds.length)(h1:∀i (a:i<ps.length) (b:i<bs.length),Frz g h ps[i] bs[i])(h2:∀i (a:i<cs.length) (b:i<ds.length),Frz g h cs[i] ds[i]):
  ∀i (a:i<(ps++cs).length) (b:i<(bs++ds).length),Frz g h (ps++cs)[i] (bs++ds)[i]:=fun i a b=>by
 by_cases e:i<ps.length
 ·rw[List.getElem_append_left e,List.getElem_append_left aar];exact h1 i e aar
 ·rw[List.getElem_append_right aar,List.getElem_append_right aar]
  simp only[aal]at a b;have:=h2 (i - ps.length) aar aar;simp only[n1]at this⊢;exact aa8
theorem tJ{g h:Heap}{s:an}{y1 y2 y3 y4:AV}(a:Frz g h y1 (fM s.cases))(b:Frz g h y2 (jJ s.reviews))(c:Frz g h y3 (kD s.notices))(d:Frz g h y4 (dM s.roles)):
  Frz g h (.agg ([.i s.tick,y1,y2,y3,y4]++fJ s.policy++ [.i s.version])) (cH s):=by
 refine .agg _ _ aaz (FB aaz rfl (FB rfl rfl (fun i h1 h2=> ?_) (Ca (Kp _))) (Ca fun x hx=>by rw[List.mem_singleton.1 hx];exact .pure rfl))
 rcases i with _|_|_|_|_|i
 ·exact aaL
 ·exact a
 ·exact b
 ·exact c
 ·exact d
 ·simp at h1;omega
theorem kY.rd{h0 h:Heap}{ys:List AV}{y:AV}{cs:List aJ}{i0:Nat}(ho:kY h0 h ys y cs i0):yI h y cs:=by
 obtain⟨xs,a,b,c,d⟩:=ho;refine⟨xs,a.rd,b,fun j h1 h2=> ?_⟩
 by_cases e:j=i0
 ·subst e
  obtain⟨f,l,e,a,b,_⟩:=d h1 h2;exact⟨f,l,e,a.rd,b.rd⟩
 grind [rdC]
theorem rO.rd{h0 h:Heap}{x:AV}{s:an}{i0:Nat}(ho:rO h0 h x s i0):RdS h x s:=by
 obtain⟨y1,y2,y3,y4,rfl,a,b,c,d,r⟩:=ho;exact⟨y1,y2,y3,y4,rfl,a.rd,b.rd,c.rd,d.rd⟩
end Go.Proofs.YtcochaoekecfdaaGreatDoor
namespace Go.Ab
open Go
theorem OwE.bH{tb:TypeId}{h0 h1 h:Heap}{sz:Nat}{y:AV}{xs:List AV}(hw:OwE tb h1 h sz y xs)(hs:∀i,h1 i=Option.none→h0 i=Option.none):OwE tb h0 h sz y xs:=by
 rcases hw with hw|⟨id,e,hw⟩
 ·exact ael
 ·exact .inr ⟨id,hs _ e,hw⟩
end Go.Ab
namespace Go.Proofs.YtcochaoekecfdaaGreatDoor
open Go Go.Ab Go.Bf
theorem eS.bH{g h0 h:Heap}{ys:List AV}{x:AV}{c:aJ}(hm:eS h0 h ys x c)(hg:∀i,h0 i=none→g i=none):eS g h ys x c:=by
 obtain⟨f,l,e,a,b,c⟩:=hm;exact⟨f,l,e,a.bH hg,b.bH hg,c⟩
theorem kY.bH{g h0 h:Heap}{ys:List AV}{y:AV}{cs:List aJ}{i0:Nat}(ho:kY h0 h ys y cs i0)(hg:∀i,h0 i=none→g i=none):kY g h ys y cs i0:=by
 obtain⟨xs,a,b,c,d⟩:=ho;exact⟨xs,a.bH hg,b,c,fun h1 h2=>(d h1 h2).bH hg⟩
theorem rO.bH{g h0 h:Heap}{x:AV}{s:an}{i0:Nat}(ho:rO h0 h x s i0)(hg:∀i,h0 i=none→g i=none):rO g h x s i0:=by
 obtain⟨y1,y2,y3,y4,e,a,b,c,d,r⟩:=ho;exact⟨y1,y2,y3,y4,e,a.bH hg,b.bH hg,c.bH hg,d.bH hg,r⟩
theorem oc{g K:Heap}{S:an}{j:Nat}{y1 y2 y3 y4:AV}{tk ver palg:Int}{pid:Txt}{pset:Bool}{ptgt:fQ}{prules:List cK}{pkids:List bG}{pobls:List cA}(h1:S.tick=tk)(h2:S.policy= .mk pid pset palg ptgt prules pkids pobls)(h3:S.version=ver)
  (a:kY g K [y1,y2,y3,y4] y1 S.cases j) (b:OwE 143 g K 7 y2 (S.reviews.map ie)) (c:OwE 146 g K 3 y3 (S.notices.map lY)) (d:OwE 149 g K 2 y4 (S.roles.map dU)) (ap:apart y1 y2∧apart y1 y3∧apart y1 y4∧apart y2 y3∧apart y2 y4∧apart y3 y4):
  rO g K (.agg [.i tk,y1,y2,y3,y4,.s pid,.b pset,.i palg,aT ptgt,.sl (prules.map aA) .no,.sl (pkids.map aK) .no,az pobls,.i ver]) S j:=by
 refine⟨y1,y2,y3,y4, ?_,a,b,c,d,ap⟩;rw[h1,h2,h3,show fJ (.mk pid pset palg ptgt prules pkids pobls)= [.s pid,.b pset,.i palg,aT ptgt,.sl (prules.map aA) .no,.sl (pkids.map aK) .no,az pobls] by simp[fJ,aV]]
 rfl
theorem kY.move{h0 h h' :Heap}{ys ys' :List AV}{y z:AV}{cs:List aJ}{i0:Nat}(ho:kY h0 h ys y cs i0)(hz:z∈ys)(hy:apart y z)(hk:∀id,h0 id=none→h id≠none→nid z≠some id→h' id=h id)
  (hr:∀y'∈ys',∀k,nid y' =some k→h k=none∨∃w∈ys,nid w=some k):kY h0 h' ys' y cs i0:=by
 obtain⟨xs,a,b,c,d⟩:=ho;refine⟨xs,a.keep fun id e=>hk id (a.nid e).1 (a.nid e).2.1 (hy id e),b,c,fun h1 h2=> ?_⟩
 obtain⟨f,l,e,of,ol,hap,hys⟩:=d h1 h2;refine⟨f,l,e,of.keep fun id e=>hk id (of.nid e).1 (of.nid e).2.1 ((hys z hz).1 id e),ol.keep fun id e=>hk id (ol.nid e).1 (ol.nid e).2.1 ((hys z hz).2 id e),hap,fun w hw=>⟨fun k e1 e2=> ?_,fun k e1 e2=> ?_⟩⟩
 ·rcases hr w hw k e2 with hn|⟨v,hv,e3⟩
  ·exact(of.nid e1).2.1 hn
  ·exact(hys v hv).1 k e1 e3
 ·rcases hr w hw k e2 with hn|⟨v,hv,e3⟩
  ·exact(ol.nid e1).2.1 hn
  ·exact(hys v hv).2 k e1 e3
theorem Mx{g K:Heap}{r X:AV}{A B:List aJ}{C:aJ}{ys:List AV}{j:Nat}(hj:A.length=j)(hw:OwE 134 g K 5 r (A.map cm++([X]++B.map cm)))(hX:eS g K ys X C):kY g K ys r (A++ [C]++B) j:=by
 refine⟨_,hw,aaz,fun k h1 h2 hk=> ?_,fun h1 h2=> ?_⟩
 ·grind
 grind
theorem Be{g K:Heap}{z:AV}{xs:List AV}{cs:List aJ}{j:Nat}{X:AV}{F:aJ→aJ}{ys:List AV}(hw:OwE 134 g K 5 z (xs.set j X))(hn:xs.length=cs.length)(hlo:∀k (h1:k<xs.length) (h2:k<cs.length),k≠j→xs[k]=cm cs[k])(hX:∀h:j<cs.length,eS g K ys X (F cs[j])):kY g K ys z (cs.modify j F) j:=by
 refine⟨_,hw,aas,fun k h1 h2 e=> ?_,fun h1 h2=> ?_⟩
 ·grind
 grind
theorem se{xs:List AV}{j:Nat}(hj:j<xs.length)(x:AV):aq (xs.set j x)=aq (xs.take j)++(x.cells++aq (xs.drop (j+1))):=by
 simp_all [List.set_eq_take_append_cons_drop,if_pos,lB,aq]
theorem AZ{xs:List AV}{j:Nat}(hj:j<xs.length):aq xs=aq (xs.take j)++(xs[j].cells++aq (xs.drop (j+1))):=by
 grind [se,List.set_getElem_self]
theorem xZ{s:an}{o:OpD}(h:bI s o=0)(hk:o.kind=3∨o.kind=4):bW s.cases o.case=true:=by
 grind [bW,bI,bV]
theorem Jo{g:Heap}{x:AV}{s:an}(hb:RdS g x s)(o:OpD)(hf:Few s)(hp:lU 1 s.policy)(hr:i64 o.review)(ht:i64 s.tick)(hver:0≤s.version∧s.version≤1000000)(he:lJ g):
  ai Tryz.prog 74 [x,opA o] g fun r h' =>Ab.Sub g h'∧∃j,rO g h' r (dI aO s o) j∧(bI s o=0→j=findD s.cases o.case):=by
 obtain⟨i0,ei0⟩:∃i0,(if o.kind=1 then s.cases.length else findD s.cases o.case)=i0:=⟨_,rfl⟩
 have hown:=fun(G:Heap) (hG:Ab.Sub g G)=>Pv (hb.sub hG) i0 hf hp
 have hrdy:=fun(G:Heap) (hG:Ab.Sub g G)=>C7 (hb.sub hG) o hf hr ht
 obtain⟨y1,y2,y3,y4,rfl,hb'⟩:=hb;cases hpp:s.policy with
 |mk pid pset palg ptgt prules pkids pobls=>
 have hcC:fJ (.mk pid pset palg ptgt prules pkids pobls)= [.s pid,.v (.bool pset),.v (.int .i64 palg),aT ptgt,.sl (prules.map aA) .no,.sl (pkids.map aK) .no,az pobls]:=adt;rw[hpp,hcC]at hown hrdy;simp only[opA,opC,List.cons_append,List.nil_append]at hown hrdy;refine aaq Tryz.func74 138 [.cell 4 67] fun hwf=> ?_
 simp only[go_sem,hcC,opA,opC,List.cons_append,List.nil_append];intro i2 h2;simp only[go_sem];intro i3 h3;have n32:=aF h3;have h3' :=aB h3;simp only[go_sem];intro i4 h4;have n43:=aF h4;have h4a:=aB h4;have n42:=aF h4a;have h4' :=aB h4a;simp only[go_sem,ak,n32.symm,n42.symm];obtain⟨H,eH⟩:∃H,upd (upd (upd g i2 (some (.obj [.v (.int .i64 s.tick),y1,y2,y3,y4,.s pid,.v (.bool pset),.v (.int .i64 palg),aT ptgt,.sl (prules.map aA) .no,.sl (pkids.map aK) .no,az pobls,.v (.int .i64 s.version)] 67))) i3 (some (.obj (opC o) 32))) i4 (some (.obj [.v (.int .i64 0),.sl [] .full,.sl [] .full,.sl [] .full,.sl [] .full,.s [],.v (.bool false),.v (.int .i64 0),.sl [] .full,.sl [] .full,.sl [] .full,.sl [] .full,.v (.int .i64 0)] 67))=H:=⟨_,rfl⟩;have hH:Ab.Sub g H:=by rw[←eH];exact(((Sub.refl g).put h2 _).put h3' _).put h4' _
 have g2:H i2=some (.obj [.v (.int .i64 s.tick),y1,y2,y3,y4,.s pid,.v (.bool pset),.v (.int .i64 palg),aT ptgt,.sl (prules.map aA) .no,.sl (pkids.map aK) .no,az pobls,.v (.int .i64 s.version)] 67):=by rw[←eH,ag _ _ n42.symm,ag _ _ n32.symm,ah]
 have g3:H i3=some (.obj (opC o) 32):=by rw[←eH,ag _ _ n43.symm,ah]
 have g4:H i4=some (.obj [.v (.int .i64 0),.sl [] .full,.sl [] .full,.sl [] .full,.sl [] .full,.s [],.v (.bool false),.v (.int .i64 0),.sl [] .full,.sl [] .full,.sl [] .full,.sl [] .full,.v (.int .i64 0)] 67):=abM;simp only[opC]at eH g3;rw[eH];clear eH;refine(hown H hH).mono fun r H1 ⟨hS,s1⟩=> ?_
 obtain⟨z1,z2,z3,z4,er,hS1⟩:=id hS;subst er;rw[hpp,hcC]at hS⊢;obtain⟨hC,w2,w3,w4,a12,a13,a14,a23,a24,a34⟩:=hS1;obtain⟨xs,w1,hnx,hlo,hmy⟩:=id hC;simp only[go_sem,List.cons_append,List.nil_append];intro i5 h5;simp only[go_sem];have q2:=s1 _ _ g2;have q3:=s1 _ _ g3;have q4:=s1 _ _ g4;have n52:i2≠i5:=fun e=>by rw[←e,q2]at h5;cases h5
 have n53:i3≠i5:=fun e=>by rw[←e,q3]at h5;cases h5
 have n54:i4≠i5:=fun e=>by rw[←e,q4]at h5;cases h5
 obtain⟨K,eK⟩:∃K,upd H1 i5 (some (.obj [.v (.int .i64 s.tick),z1,z2,z3,z4,.s pid,.v (.bool pset),.v (.int .i64 palg),aT ptgt,.sl (prules.map aA) .no,.sl (pkids.map aK) .no,az pobls,.v (.int .i64 s.version)] 67))=K:=⟨_,rfl⟩;have sK:Ab.Sub H1 K:=by rw[←eK];exact .aj h5
 have k5:K i5=some (.obj [.v (.int .i64 s.tick),z1,z2,z3,z4,.s pid,.v (.bool pset),.v (.int .i64 palg),aT ptgt,.sl (prules.map aA) .no,.sl (pkids.map aK) .no,az pobls,.v (.int .i64 s.version)] 67):=by rw[←eK,ah]
 rw[eK];have hz5:∀k,H k=none→H1 k≠none→k≠i5:=fun k _ hk e=>hk (by rw[e];exact h5)
 have k2:=sK _ _ q2;have k3:=sK _ _ q3;have k4:=sK _ _ q4;clear eK;have sg:Ab.Sub g K:=hH.trans (s1.trans sK);simp only[go_sem,k2,k3];refine(hrdy K sg).pthen ?_;have g5:g i5=none:=(hH.trans s1).none h5;have kK:∀k,H1 k≠none→K k=H1 k:=fun k hk=>by
  cases e:H1 k with
  |none=>exact(hk e).elim
  |some b=>exact sK _ _ e
 have hz4:∀k,H k=none→k≠i4:=fun k hk e=>by rw[e,g4]at hk;cases hk
 by_cases p0:bI s o=0
 ·have d0:(bI s o !=0)=false:=by simp[p0]
  simp only[go_sem,d0];simp only[go_sem,k5,k3];have hSK:rO H K (.agg ([.v (.int .i64 s.tick),z1,z2,z3,z4]++fJ s.policy++ [.v (.int .i64 s.version)])) s i0:=by
   rw[hpp,hcC];exact hS.keepb fun k _ hk=>kK k hk
  have hfi:=AY hSK.rd o.case hf.cases;rw[hpp,hcC]at hfi;simp only[List.cons_append,List.nil_append]at hfi;refine hfi.pthen ?_;simp only[go_sem,k3];have hform:eN o=true:=by
   cases e:eN o
   ·simp[bI,e]at p0
   ·rfl
  have hdone:dI aO s o=doD aO s o:=by simp[dI,p0]
  rw[hdone]
  by_cases p1:o.kind=1
  ·have k1:(o.kind==1)=true:=by simp[p1]
   simp only[go_sem,k1];simp only[go_sem,k3];intro i8 h8;have n82:i2≠i8:=fun e=>by rw[←e,k2]at h8;cases h8
   have n83:i3≠i8:=fun e=>by rw[←e,k3]at h8;cases h8
   have n84:i4≠i8:=fun e=>by rw[←e,k4]at h8;cases h8
   have n85:i5≠i8:=fun e=>by rw[←e,k5]at h8;cases h8
   simp only[go_sem];obtain⟨K2,eK2⟩:∃K2,upd K i8 (some (.obj [.s o.case,.s o.subj,.s [111,112,101,110],.sl [] .full,.sl [] .full] 134))=K2:=⟨_,rfl⟩;have sK2:Ab.Sub K K2:=by rw[←eK2];exact .aj h8
   have e8:K2 i8=some (.obj [.s o.case,.s o.subj,.s [111,112,101,110],.sl [] .full,.sl [] .full] 134):=by rw[←eK2,ah]
   rw[eK2];clear eK2;have m3:=sK2 _ _ k3;have m4:=sK2 _ _ k4;have m5:=sK2 _ _ k5;simp only[go_sem,m3,m5];have hha:=ry (h0:=H) (s:=s) z1 z2 z3 z4 (k:=i8) (o:=0) (A:=[]) (B:=[]) (t:=134) (c:=⟨o.case,o.subj,jb,[],[]⟩) (f:=.sl [] .full) (l:=.sl [] .full) rfl e8 aau (.inl ⟨rfl,rfl⟩) (s1.trans (sK.trans sK2)) (Nat.zero_le _) o.subj [110,101,119];rw[hpp,hcC]at hha;simp only[List.cons_append,List.nil_append]at hha;refine hha.mono fun r K3 ⟨l',ol,e8',fr3,ap3⟩=> ?_
   have kK3:∀k,K2 k≠none→k≠i8→K3 k=K2 k:=fun k hk hk8=>fr3 k hk hk8 (by simp[nid])
   have m3' :K3 i3=_:=(kK3 i3 (by rw[m3];simp) n83).trans m3
   have m4' :K3 i4=_:=(kK3 i4 (by rw[m4];simp) n84).trans m4
   have m5' :K3 i5=_:=(kK3 i5 (by rw[m5];simp) n85).trans m5
   simp only[bY,List.append_nil]at e8';simp only[go_sem];simp only[go_sem,m5',e8'];have kk2:∀k,H1 k≠none→K2 k=H1 k:=fun k hk=>by
    have:=kK k hk;cases e:K k with
    |none=>rw[e]at this;exact(hk this.symm).elim
    |some b=>rw[sK2 _ _ e,←e,this]
   have k8:∀k,H1 k≠none→k≠i8:=fun k hk e=>hk (by have:=kK k hk;rw[e,h8]at this;rw[e];exact this.symm)
   have kk3:∀k,H1 k≠none→K3 k=H1 k:=fun k hk=>(kK3 k (by rw[kk2 k hk];exact hk) (k8 k hk)).trans (kk2 k hk)
   have sH3:Ab.Sub H1 K3:=fun k b hk=>by rw[kk3 k (by rw[hk];simp)];exact hk
   have hfl:findD s.cases o.case≤s.cases.length:=List.findIdx_le_length;have hfc:=hf.cases;refine(Ek z1 xs (.agg [.s o.case,.s o.subj,.s jb,.sl [] .full,l']) (findD s.cases o.case) H K3 (w1.keepb fun k _ hk=>kk3 k hk) (s1.trans sH3) aar aar rfl (by simp[Ab.fit])).mono fun r K4 ⟨ow5,fr4,ap4⟩=> ?_
   have m4'' :K4 i4=_:=(fr4 i4 (by rw[m4'];simp) (fun e=>by have:=(w1.nid e).1;rw[g4]at this;cases this)).trans m4'
   have m5'' :K4 i5=_:=(fr4 i5 (by rw[m5'];simp) (fun e=>(w1.nid e).2.1 h5)).trans m5'
   simp only[go_sem,m5'',ow5.rd.fit,ow5.rd.cells];simp only[go_sem,ak,n54,m4''];have hi0:i0=s.cases.length:=by rw[←ei0,if_pos p1]
   have hxs:xs=s.cases.map cm:=List.ext_getElem (by simpa using hnx) fun j a b=>by rw[hlo j a aar aar,aai]
   have kk4:∀k,H1 k≠none→nid z1≠some k→K4 k=H1 k:=fun k hk hz=>(fr4 k (by rw[kk3 k hk];exact hk) hz).trans (kk3 k hk)
   obtain⟨K5,eK5⟩:∃K5,upd (upd K4 i5 (some (.obj [.v (.int .i64 s.tick),r,z2,z3,z4,.s pid,.v (.bool pset),.v (.int .i64 palg),aT ptgt,.sl (prules.map aA) .no,.sl (pkids.map aK) .no,az pobls,.v (.int .i64 s.version)] 67))) i4 (some (.obj [.v (.int .i64 s.tick),r,z2,z3,z4,.s pid,.v (.bool pset),.v (.int .i64 palg),aT ptgt,.sl (prules.map aA) .no,.sl (pkids.map aK) .no,az pobls,.v (.int .i64 s.version)] 67))=K5:=⟨_,rfl⟩;rw[eK5];have o5:∀k,k≠i4→k≠i5→K5 k=K4 k:=fun k a b=>by rw[←eK5,ag _ _ a,ag _ _ b]
   have kk5:∀k,H k=none→H1 k≠none→nid z1≠some k→K5 k=H1 k:=fun k a b c=>(o5 k (hz4 k a) (hz5 k a b)).trans (kk4 k b c)
   have ow:OwE 134 H K5 5 r (List.take (findD s.cases o.case) xs++([.agg [.s o.case,.s o.subj,.s jb,.sl [] .full,l']]++List.drop (findD s.cases o.case) xs)):=ow5.keep fun id e=>o5 id (hz4 id (ow5.nid e).1) fun e5=>by
    subst e5;rcases ap4 _ e with h|h
    ·rw[m5']at h;cases h
    ·exact(w1.nid h).2.1 h5
   have ol5:OwE 205 H K5 3 l' _:=ol.keep fun id e=>by
    have h2n:K2 id=none:=(ap3 id e).resolve_right (by simp[nid])
    have hz:nid z1≠some id:=fun e1=>by
     have:=kk2 id (w1.nid e1).2.1;rw[h2n]at this;exact(w1.nid e1).2.1 this.symm
    rw[o5 id (hz4 id (ol.nid e).1) (fun e5=>by rw[e5,m5]at h2n;cases h2n),fr4 id (ol.nid e).2.1 hz]
   have hmc:eS H K5 [] (.agg [.s o.case,.s o.subj,.s jb,.sl [] .full,l']) (iP s ⟨o.case,o.subj,jb,[],[]⟩ o.subj [110,101,119]):=⟨.sl [] .full,l',rfl,.inl ⟨rfl,rfl⟩,ol5,(fun i e=>aaU),fun y hy=>by cases hy⟩
   have sg4:Ab.Sub g K4:=fun k b hk=>by
    have h1:=hH _ _ hk;have h2:=s1 _ _ h1;rw[kk4 k (by rw[h2];simp) (fun e=>by have:=(w1.nid e).1;rw[h1]at this;cases this)]
    exact aet
   have sg5:Ab.Sub g K5:=by rw[←eK5];exact(sg4.put g5 _).put h4' _
   have hdo:doD aO s o= {s with cases:=s.cases.take (findD s.cases o.case)++ [iP s ⟨o.case,o.subj,jb,[],[]⟩ o.subj [110,101,119]]++s.cases.drop (findD s.cases o.case)}:=by simp[doD,p1]
   refine .mk _ (.refl _) (.refl _) ⟨sg5,_, ?_,fun _=>rfl⟩
   rw[hdo];have apr:∀k,nid r=some k→H1 k=none∨nid z1=some k:=fun k e=>(ap4 k e).imp (fun h=>sH3.none h) id
   have hro:∀ {w:AV},apart z1 w→(∀k,nid w=some k→H1 k≠none)→apart r w:=fun ha hw k e1 e2=>(apr k e1).elim (fun h=>hw k e2 h) (fun h=>ha k h e2)
   have hl0:∀k,nid l' =some k→H1 k=none:=fun k e=>(sK.trans sK2).none ((ap3 k e).resolve_right (by simp[nid]))
   have hlr:apart l' r:=fun k e1 e2=>(ap4 k e2).elim (fun h=>(ol.nid e1).2.1 h) (fun h=>(w1.nid h).2.1 (hl0 k e1))
   rw[hxs,←List.map_take,←List.map_drop]at ow;refine oc rfl hpp rfl (Mx ack (ow.bH (fun _ e=>hH.none e)) ⟨.sl [] .full,l',rfl,.inl ⟨rfl,rfl⟩,ol5.bH (fun _ e=>hH.none e),(fun i e=>aaU),fun y hy=>⟨(fun i e=>aaU), ?_⟩⟩) ((w2.keep fun id e=>kk5 id (w2.nid e).1 (w2.nid e).2.1 fun e1=>a12 id e1 e).bH fun _ e=>hH.none e) ((w3.keep fun id e=>kk5 id (w3.nid e).1 (w3.nid e).2.1 fun e1=>a13 id e1 e).bH fun _ e=>hH.none e) ((w4.keep fun id e=>kk5 id (w4.nid e).1 (w4.nid e).2.1 fun e1=>a14 id e1 e).bH fun _ e=>hH.none e) ⟨hro a12 fun k e=>(w2.nid e).2.1,hro a13 fun k e=>(w3.nid e).2.1,hro a14 fun k e=>(w4.nid e).2.1,a23,a24,a34⟩
   simp only[List.mem_cons,List.not_mem_nil,or_false]at hy;rcases hy with rfl|rfl|rfl|rfl
   ·exact hlr
   ·exact fun k e1 e2=>(w2.nid e2).2.1 (hl0 k e1)
   ·exact fun k e1 e2=>(w3.nid e2).2.1 (hl0 k e1)
   ·exact fun k e1 e2=>(w4.nid e2).2.1 (hl0 k e1)
  have k1:(o.kind==1)=false:=by simp[p1]
  have hi0:i0=findD s.cases o.case:=by rw[←ei0,if_neg p1]
  simp only[go_sem,k1]
  by_cases p3:o.kind=3
  ·have k3' :(o.kind==3)=true:=by simp[p3]
   simp only[go_sem,k3'];have hth:=xZ p0 (.inl p3);have hlt:=jc hth;obtain⟨j,ej⟩:∃j,findD s.cases o.case=j:=⟨_,rfl⟩;have hj:j<s.cases.length:=by rw[←ej];exact hlt
   have hjx:j<xs.length:=aar;rw[ej]at hi0;subst hi0;obtain⟨f,l,ex,of,ol,hap,hys⟩:=hmy hjx hj;obtain⟨id1,hg1,o1⟩:=w1.ow adj;have o1' :=o1;obtain⟨cap,rest,ey,hid,hrl,hcap,hsz⟩:=o1';have lA:i0*5=(aq (xs.take i0)).length:=abq;have hidK:K id1=some (.obj (aq (xs.take i0)++(bY s.cases[i0] f l++(aq (xs.drop (i0+1))++rest))) 134):=by
    rw[sK _ _ hid,AZ hjx,ex];simp[bY,AV.cells]
   have n14:id1≠i4:=hz4 id1 hg1;have n13:id1≠i3:=fun e=>by rw[e,g3]at hg1;cases hg1
   have n15:id1≠i5:=fun e=>o1.none (by rw[e];exact h5)
   have nf4:∀k,nid f=some k→k≠i3∧k≠i4∧k≠i5∧k≠id1:=fun k e=>⟨(fun e' =>adb),hz4 k (of.nid e).1,hz5 k (of.nid e).1 (of.nid e).2.1,fun e' =>(hys z1 aaz).1 k e adT⟩
   have nl4:∀k,nid l=some k→k≠i3∧k≠i4∧k≠i5∧k≠id1:=fun k e=>⟨(fun e' =>ade),hz4 k (ol.nid e).1,hz5 k (ol.nid e).1 (ol.nid e).2.1,fun e' =>(hys z1 aaz).2 k e adT⟩
   have hff:=hf.fields _ (aam hj);have hfl:=hf.log _ (aam hj);rw[ej];refine .calls (pick K [i3,i5]) [0,1,2,3,4,5,6,7,8] bO aav rfl ?_;simp only[go_sem,bz (show i5∈ [i3,i5] by simp),k3,k5]
   refine(o1.sub sK).idx (U:=U) (e:=134) i0 rfl hjx mH aau ?_;simp only[go_sem,bz (show i3∈ [i3,i5] by simp),k3,k5]
   refine(show ai Tryz.prog 136 [.ptr id1 (i0*5),.s o.field,.agg [.v (.int .i64 o.val.kind),.v (.int .i64 o.val.n),.s o.val.s]] K _ from Lf lA hidK aau (of.sub sK) (s1.trans sK) hff o.field o.val).mono fun r K3 ⟨f',of',e1',fr3,ap3⟩=> ?_
   have kk3:∀k,H1 k≠none→k≠id1→nid f≠some k→K3 k=H1 k:=fun k a b c=>(fr3 k (by rw[kK k a];exact a) b c).trans (kK k a)
   have m3:K3 i3=_:=(fr3 i3 (by rw[k3];simp) n13.symm fun e=>(nf4 _ e).1 rfl).trans k3
   have m4:K3 i4=_:=(fr3 i4 (by rw[k4];simp) n14.symm fun e=>(nf4 _ e).2.1 rfl).trans k4
   have m5:K3 i5=_:=(fr3 i5 (by rw[k5];simp) n15.symm fun e=>(nf4 _ e).2.2.1 rfl).trans k5
   refine⟨ic fun k hk=> ?_, ?_⟩
   ·simp only[List.mem_cons,List.not_mem_nil,or_false]at hk
    rcases hk with rfl|rfl
    ·rw[m3,k3]
    ·rw[m5,k5]
   simp only[go_sem];have sH3:Ab.Sub H K3:=fun k b hk=>aa3
   have ol3:OwE 205 H K3 3 l (s.cases[i0].log.map hY):=ol.keep fun k e=>kk3 k (ol.nid e).2.1 (nl4 k e).2.2.2 (fun e1=>hap k e1 e)
   have hX5:∀y1 y2:AV,Sized 5 (xs.set i0 (.agg (bY s.cases[i0] y1 y2))):=fun y1 y2 z hz=>by
    exact ae9
   have mkO:∀ {G:Heap} {y1 y2:AV},G id1=some (.obj (aq (xs.take i0)++(bY s.cases[i0] y1 y2++(aq (xs.drop (i0+1))++rest))) 134)→Ow 134 G 5 id1 z1 (xs.set i0 (.agg (bY s.cases[i0] y1 y2))):=fun {G y1 y2} hG=>⟨cap,rest,acH,by rw[hG,se hjx];simp[AV.cells],ady,acz,hX5 _ _⟩
   have hjs:∀x:AV,i0<(xs.set i0 x).length:=fun x=>by rw[List.length_set];exact hjx
   refine .calls (pick K3 [i3,i5]) [0,1,2,3,4,5,6,7] bO aav rfl ?_;simp only[go_sem,bz (show i5∈ [i3,i5] by simp),m3,m5]
   refine(mkO e1').idx (U:=U) (e:=134) i0 rfl (hjs _) mH aau ?_;simp only[go_sem,bz (show i3∈ [i3,i5] by simp),m3,m5]
   have hha:=ry (h0:=H) (h:=K3) (s:=s) z1 z2 z3 z4 (k:=id1) (c:=s.cases[i0]) (f:=f') (l:=l) lA e1' aau ol3 sH3 hfl o.subj [119,114,105,116,101];rw[hpp,hcC]at hha;simp only[List.cons_append,List.nil_append]at hha;refine hha.mono fun r K4 ⟨l',ol',e1'',fr4,ap4⟩=> ?_
   have m3' :K4 i3=_:=(fr4 i3 (by rw[m3];simp) n13.symm fun e=>(nl4 _ e).1 rfl).trans m3
   have m4' :K4 i4=_:=(fr4 i4 (by rw[m4];simp) n14.symm fun e=>(nl4 _ e).2.1 rfl).trans m4
   have m5' :K4 i5=_:=(fr4 i5 (by rw[m5];simp) n15.symm fun e=>(nl4 _ e).2.2.1 rfl).trans m5
   refine⟨ic fun k hk=> ?_, ?_⟩
   ·simp only[List.mem_cons,List.not_mem_nil,or_false]at hk
    rcases hk with rfl|rfl
    ·rw[m3',m3]
    ·rw[m5',m5]
   simp only[go_sem];simp only[go_sem,m5',m4'];obtain⟨K5,eK5⟩:∃K5,upd K4 i4 (some (.obj [.v (.int .i64 s.tick),z1,z2,z3,z4,.s pid,.v (.bool pset),.v (.int .i64 palg),aT ptgt,.sl (prules.map aA) .no,.sl (pkids.map aK) .no,az pobls,.v (.int .i64 s.version)] 67))=K5:=⟨_,rfl⟩;rw[eK5];have o5:∀k,k≠i4→K5 k=K4 k:=fun k a=>by rw[←eK5,ag _ _ a]
   have kk5:∀k,H k=none→H1 k≠none→k≠id1→nid f≠some k→nid l≠some k→K5 k=H1 k:=fun k a b c d e=>by
    exact af9
   have of5:OwE 215 H K5 4 f' _:=of'.keep fun id e=>by
    exact aeQ
   have ol5:OwE 205 H K5 3 l' _:=ol'.keep fun id e=>o5 id (hz4 id (ol'.nid e).1)
   have sg4:Ab.Sub g K4:=fun k b hk=>by
    exact afi
   have sg5:Ab.Sub g K5:=by rw[←eK5];exact sg4.put h4' _
   have n1' :nid z1=some id1:=o1.nid;have hdo:doD aO s o= {s with cases:=s.cases.modify i0 fun c=>iP s {c with fields:=eL c.fields o.field o.val} o.subj [119,114,105,116,101]}:=by simp[doD,p3,ej]
   refine .mk _ (.refl _) (.refl _) ⟨sg5,_, ?_,fun _=>rfl⟩
   rw[hdo];have thr:∀w∈ [z1,z2,z3,z4],∀k,nid w=some k→H1 k≠none:=fun w hw k e=>by
    exact aff
   refine oc rfl hpp rfl ?_ ((w2.keep fun id e=>kk5 id (w2.nid e).1 (w2.nid e).2.1 (fun e1=>a12 id1 n1' ac8) (fun e1=>(hys z2 aaz).1 id e1 e) (fun e1=>(hys z2 aaz).2 id e1 e)).bH fun _ e=>hH.none e) ((w3.keep fun id e=>kk5 id (w3.nid e).1 (w3.nid e).2.1 (fun e1=>a13 id1 n1' ac8) (fun e1=>(hys z3 aaz).1 id e1 e) (fun e1=>(hys z3 aaz).2 id e1 e)).bH fun _ e=>hH.none e) ((w4.keep fun id e=>kk5 id (w4.nid e).1 (w4.nid e).2.1 (fun e1=>a14 id1 n1' ac8) (fun e1=>(hys z4 aaz).1 id e1 e) (fun e1=>(hys z4 aaz).2 id e1 e)).bH fun _ e=>hH.none e) ⟨a12,a13,a14,a23,a24,a34⟩
   refine Be (X:=.agg (bY s.cases[i0] f' l')) ((show OwE 134 H K5 5 z1 _ from .inr ⟨id1,hg1,mkO ((o5 id1 n14).trans e1'')⟩).bH (fun _ e=>hH.none e)) hnx (fun k h1 h2 hk=>hlo k h1 h2 hk) fun hh=>⟨f',l',rfl,of5.bH (fun _ e=>hH.none e),ol5.bH (fun _ e=>hH.none e),fun k e1 e2=> ?_,fun w hw=>⟨fun k e1 e2=> ?_,fun k e1 e2=> ?_⟩⟩
   ·rcases ap4 k e2 with h|h
    ·exact(of'.nid e1).2.1 h
    ·rcases ap3 k e1 with h' |h'
     ·exact(ol.nid h).2.1 (sK.none h')
     ·exact hap k h' h
   ·rcases ap3 k e1 with h|h
    ·exact thr w hw k e2 (sK.none h)
    ·exact(hys w hw).1 k h e2
   ·rcases ap4 k e1 with h|h
    ·by_cases h1:k=id1
     ·subst h1;rw[e1']at h;cases h
     ·have:=kk3 k (thr w hw k e2) h1 (fun e=>(hys w hw).1 k e e2)
      rw[h]at this;exact thr w hw k e2 this.symm
    ·exact(hys w hw).2 k h e2
  have k3' :(o.kind==3)=false:=by simp[p3]
  simp only[go_sem,k3']
  by_cases p4:o.kind=4
  ·have k4' :(o.kind==4)=true:=by simp[p4]
   simp only[go_sem,k4'];have hth:=xZ p0 (.inr p4);have hlt:=jc hth;obtain⟨j,ej⟩:∃j,findD s.cases o.case=j:=⟨_,rfl⟩;have hj:j<s.cases.length:=by rw[←ej];exact hlt
   have hjx:j<xs.length:=aar;rw[ej]at hi0;subst hi0;obtain⟨f,l,ex,of,ol,hap,hys⟩:=hmy hjx hj;obtain⟨id1,hg1,o1⟩:=w1.ow adj;have o1' :=o1;obtain⟨cap,rest,ey,hid,hrl,hcap,hsz⟩:=o1';have lA:i0*5=(aq (xs.take i0)).length:=abq;have hidK:K id1=some (.obj (aq (xs.take i0)++(bY s.cases[i0] f l++(aq (xs.drop (i0+1))++rest))) 134):=by
    rw[sK _ _ hid,AZ hjx,ex];simp[bY,AV.cells]
   have n14:id1≠i4:=hz4 id1 hg1;have n13:id1≠i3:=fun e=>by rw[e,g3]at hg1;cases hg1
   have n15:id1≠i5:=fun e=>o1.none (by rw[e];exact h5)
   have nf4:∀k,nid f=some k→k≠i3∧k≠i4∧k≠i5∧k≠id1:=fun k e=>⟨(fun e' =>adb),hz4 k (of.nid e).1,hz5 k (of.nid e).1 (of.nid e).2.1,fun e' =>(hys z1 aaz).1 k e adT⟩
   have nl4:∀k,nid l=some k→k≠i3∧k≠i4∧k≠i5∧k≠id1:=fun k e=>⟨(fun e' =>ade),hz4 k (ol.nid e).1,hz5 k (ol.nid e).1 (ol.nid e).2.1,fun e' =>(hys z1 aaz).2 k e adT⟩
   have hff:=hf.fields _ (aam hj);have hfl:=hf.log _ (aam hj);rw[ej];simp only[go_sem,k5,k3];refine(o1.sub sK).idx (U:=U) (e:=134) i0 rfl hjx mH aau ?_;simp only[go_sem,hidK];have e2:List.take (i0*5+2) (aq (xs.take i0)++(bY s.cases[i0] f l++(aq (xs.drop (i0+1))++rest)))++ [.s o.to]++List.drop (i0*5+2+1) (aq (xs.take i0)++(bY s.cases[i0] f l++(aq (xs.drop (i0+1))++rest)))=aq (xs.take i0)++(bY {s.cases[i0]with state:=o.to} f l++(aq (xs.drop (i0+1))++rest)):=by
    have:=nT (A:=aq (xs.take i0)++ [.s s.cases[i0].id,.s s.cases[i0].owner]) (B:=[.s s.cases[i0].state]) (C:=f::l::(aq (xs.drop (i0+1))++rest)) (X:=[.s o.to]) (k:=i0*5+2) (m:=1) (by rw[lA];simp) rfl rfl
    exact af6
   rw[e2];obtain⟨K3,eK3⟩:∃K3,upd K id1 (some (.obj (aq (xs.take i0)++(bY {s.cases[i0]with state:=o.to} f l++(aq (xs.drop (i0+1))++rest))) 134))=K3:=⟨_,rfl⟩
   rw[eK3];refine⟨by simp only[aal,←lA,bY,List.length_cons,List.length_nil];omega, ?_⟩
   have e1' :K3 id1=some (.obj (aq (xs.take i0)++(bY {s.cases[i0]with state:=o.to} f l++(aq (xs.drop (i0+1))++rest))) 134):=by rw[←eK3,ah]
   have fr3:∀k,K k≠none→k≠id1→nid f≠some k→K3 k=K k:=fun k _ hk _=>by rw[←eK3,ag _ _ hk]
   have ap3:∀k,nid f=some k→K k=none∨nid f=some k:=fun k hk=> .inr hk
   have kk3:∀k,H1 k≠none→k≠id1→nid f≠some k→K3 k=H1 k:=fun k a b c=>(fr3 k (by rw[kK k a];exact a) b c).trans (kK k a)
   have m3:K3 i3=_:=(fr3 i3 (by rw[k3];simp) n13.symm fun e=>(nf4 _ e).1 rfl).trans k3
   have m4:K3 i4=_:=(fr3 i4 (by rw[k4];simp) n14.symm fun e=>(nf4 _ e).2.1 rfl).trans k4
   have m5:K3 i5=_:=(fr3 i5 (by rw[k5];simp) n15.symm fun e=>(nf4 _ e).2.2.1 rfl).trans k5
   obtain⟨f',of',ef'⟩:∃f',OwE 215 H K3 4 f' (s.cases[i0].fields.map bJ)∧f=f' :=⟨f,of.keep fun k e=>by rw[←eK3,ag _ _ (nf4 k e).2.2.2,kK k (of.nid e).2.1],rfl⟩
   rw[ef']at e1';replace ap3:∀k,nid f' =some k→K k=none∨nid f=some k:=by rw[←ef'];exact ap3
   have sH3:Ab.Sub H K3:=fun k b hk=>aa3
   have ol3:OwE 205 H K3 3 l (s.cases[i0].log.map hY):=ol.keep fun k e=>kk3 k (ol.nid e).2.1 (nl4 k e).2.2.2 (fun e1=>hap k e1 e)
   have hX5:∀y1 y2:AV,Sized 5 (xs.set i0 (.agg (bY ({s.cases[i0]with state:=o.to}:aJ) y1 y2))):=fun y1 y2 z hz=>by
    exact ae9
   have mkO:∀ {G:Heap} {y1 y2:AV},G id1=some (.obj (aq (xs.take i0)++(bY ({s.cases[i0]with state:=o.to}:aJ) y1 y2++(aq (xs.drop (i0+1))++rest))) 134)→Ow 134 G 5 id1 z1 (xs.set i0 (.agg (bY ({s.cases[i0]with state:=o.to}:aJ) y1 y2))):=fun {G y1 y2} hG=>⟨cap,rest,acH,by rw[hG,se hjx];simp[AV.cells],ady,acz,hX5 _ _⟩
   have hjs:∀x:AV,i0<(xs.set i0 x).length:=fun x=>by rw[List.length_set];exact hjx
   refine .calls (pick K3 [i3,i5]) [0,1,2,3,4,5,6,7,8,9] bO aav rfl ?_;simp only[go_sem,bz (show i5∈ [i3,i5] by simp),m3,m5]
   refine(mkO e1').idx (U:=U) (e:=134) i0 rfl (hjs _) mH aau ?_;simp only[go_sem,bz (show i3∈ [i3,i5] by simp),m3,m5]
   have hha:=ry (h0:=H) (h:=K3) (s:=s) z1 z2 z3 z4 (k:=id1) (c:=({s.cases[i0]with state:=o.to}:aJ)) (f:=f') (l:=l) lA e1' aau ol3 sH3 hfl o.subj o.to
   rw[hpp,hcC]at hha;simp only[List.cons_append,List.nil_append]at hha;refine hha.mono fun r K4 ⟨l',ol',e1'',fr4,ap4⟩=> ?_
   have m3' :K4 i3=_:=(fr4 i3 (by rw[m3];simp) n13.symm fun e=>(nl4 _ e).1 rfl).trans m3
   have m4' :K4 i4=_:=(fr4 i4 (by rw[m4];simp) n14.symm fun e=>(nl4 _ e).2.1 rfl).trans m4
   have m5' :K4 i5=_:=(fr4 i5 (by rw[m5];simp) n15.symm fun e=>(nl4 _ e).2.2.1 rfl).trans m5
   refine⟨ic fun k hk=> ?_, ?_⟩
   ·simp only[List.mem_cons,List.not_mem_nil,or_false]at hk
    rcases hk with rfl|rfl
    ·rw[m3',m3]
    ·rw[m5',m5]
   simp only[go_sem];simp only[go_sem,m5',m4'];obtain⟨K5,eK5⟩:∃K5,upd K4 i4 (some (.obj [.v (.int .i64 s.tick),z1,z2,z3,z4,.s pid,.v (.bool pset),.v (.int .i64 palg),aT ptgt,.sl (prules.map aA) .no,.sl (pkids.map aK) .no,az pobls,.v (.int .i64 s.version)] 67))=K5:=⟨_,rfl⟩;rw[eK5];have o5:∀k,k≠i4→K5 k=K4 k:=fun k a=>by rw[←eK5,ag _ _ a]
   have kk5:∀k,H k=none→H1 k≠none→k≠id1→nid f≠some k→nid l≠some k→K5 k=H1 k:=fun k a b c d e=>by
    exact af9
   have of5:OwE 215 H K5 4 f' _:=of'.keep fun id e=>by
    exact aeQ
   have ol5:OwE 205 H K5 3 l' _:=ol'.keep fun id e=>o5 id (hz4 id (ol'.nid e).1)
   have sg4:Ab.Sub g K4:=fun k b hk=>by
    exact afi
   have sg5:Ab.Sub g K5:=by rw[←eK5];exact sg4.put h4' _
   have n1' :nid z1=some id1:=o1.nid;have hdo:doD aO s o= {s with cases:=s.cases.modify i0 fun c=>iP s {c with state:=o.to} o.subj o.to}:=by simp[doD,p4,ej]
   refine .mk _ (.refl _) (.refl _) ⟨sg5,_, ?_,fun _=>rfl⟩
   rw[hdo];have thr:∀w∈ [z1,z2,z3,z4],∀k,nid w=some k→H1 k≠none:=fun w hw k e=>by
    exact aff
   refine oc rfl hpp rfl ?_ ((w2.keep fun id e=>kk5 id (w2.nid e).1 (w2.nid e).2.1 (fun e1=>a12 id1 n1' ac8) (fun e1=>(hys z2 aaz).1 id e1 e) (fun e1=>(hys z2 aaz).2 id e1 e)).bH fun _ e=>hH.none e) ((w3.keep fun id e=>kk5 id (w3.nid e).1 (w3.nid e).2.1 (fun e1=>a13 id1 n1' ac8) (fun e1=>(hys z3 aaz).1 id e1 e) (fun e1=>(hys z3 aaz).2 id e1 e)).bH fun _ e=>hH.none e) ((w4.keep fun id e=>kk5 id (w4.nid e).1 (w4.nid e).2.1 (fun e1=>a14 id1 n1' ac8) (fun e1=>(hys z4 aaz).1 id e1 e) (fun e1=>(hys z4 aaz).2 id e1 e)).bH fun _ e=>hH.none e) ⟨a12,a13,a14,a23,a24,a34⟩
   refine Be (X:=.agg (bY ({s.cases[i0]with state:=o.to}:aJ) f' l')) ((show OwE 134 H K5 5 z1 _ from .inr ⟨id1,hg1,mkO ((o5 id1 n14).trans e1'')⟩).bH (fun _ e=>hH.none e)) hnx (fun k h1 h2 hk=>hlo k h1 h2 hk) fun hh=>⟨f',l',rfl,of5.bH (fun _ e=>hH.none e),ol5.bH (fun _ e=>hH.none e),fun k e1 e2=> ?_,fun w hw=>⟨fun k e1 e2=> ?_,fun k e1 e2=> ?_⟩⟩
   ·rcases ap4 k e2 with h|h
    ·exact(of'.nid e1).2.1 h
    ·rcases ap3 k e1 with h' |h'
     ·exact(ol.nid h).2.1 (sK.none h')
     ·exact hap k h' h
   ·rcases ap3 k e1 with h|h
    ·exact thr w hw k e2 (sK.none h)
    ·exact(hys w hw).1 k h e2
   ·rcases ap4 k e1 with h|h
    ·by_cases h1:k=id1
     ·subst h1;rw[e1']at h;cases h
     ·have:=kk3 k (thr w hw k e2) h1 (fun e=>(hys w hw).1 k e e2)
      rw[h]at this;exact thr w hw k e2 this.symm
    ·exact(hys w hw).2 k h e2
  have k4' :(o.kind==4)=false:=by simp[p4]
  simp only[go_sem,k4'];have kkK:∀k,H k=none→H1 k≠none→K k=H1 k:=fun k _ b=>kK k b
  by_cases p5:o.kind=5
  ·have k5' :(o.kind==5)=true:=by simp[p5]
   simp only[go_sem,k5'];have hrv:0<o.review:=by
    simp only[eN,dD,Bool.and_eq_true]at hform;simpa[okD,p5]using hform.2.1.2
   obtain⟨n,en⟩:∃n:Nat,o.review=((n:Nat):Int)+1:=⟨(o.review - 1).toNat,aar⟩;have w5:IntKind.i64.wrap (o.review - 1)=((n:Nat):Int):=by rw[bg _ (by have:=hr.2;omega)];omega
   have hn5:n<s.reviews.length:=by
    have:fD s o=0:=by simpa[bI,hform,p5]using p0
    unfold fD at this;have e1:vm s.reviews o.review=s.reviews[n]? :=by unfold vm;rw[if_pos aar,show(o.review - 1).toNat=n by omega]
    rw[e1]at this
    by_cases hlt:n<s.reviews.length
    ·exact hlt
    ·rw[List.getElem?_eq_none aar]at this;cases this
   have hnm:n<(s.reviews.map ie).length:=by simpa using hn5
   obtain⟨id2,hg2,o2⟩:=w2.ow (by intro e;rw[e]at hnm;cases hnm)
   have o2' :=o2;obtain⟨cap,rest,ey,hid,hrl,hcap,hsz⟩:=o2';have n24:id2≠i4:=hz4 id2 hg2;have n25:id2≠i5:=hz5 id2 hg2 o2.none;have hidK:=sK _ _ hid;simp only[go_sem,k5,k3,w5];refine(o2.sub sK).idx (U:=U) (e:=143) n rfl hnm aaA aau ?_;simp only[go_sem,hidK];have e2:List.take (n*7+6) (aq (s.reviews.map ie)++rest)++ [.v (.bool false)]++List.drop (n*7+6+1) (aq (s.reviews.map ie)++rest)=aq ((s.reviews.modify n fun r=> {r with isOpen:=false}).map ie)++rest:=by
    refine(kG hsz n hnm 6 [.v (.bool false)] (aag rfl)).trans ?_
    congr 2
    refine List.ext_getElem aaz fun j h1 h2=> ?_
    by_cases e:j=n
    ·subst e;simp[ie,AV.cells,Ab.over]
    ·rw[List.getElem_set_ne (Ne.symm e)];simp[Ne.symm e]
   rw[e2];refine⟨by rw[aal,aW hsz];omega, ?_⟩
   have k5b:∀b,upd K id2 b i5=_:=fun b=>(ag _ _ n25.symm).trans k5
   have k4b:∀b,upd K id2 b i4=_:=fun b=>(ag _ _ n24.symm).trans k4
   simp only[go_sem,k5b,k4b];have hdo:doD aO s o= {s with reviews:=s.reviews.modify n fun r=> {r with isOpen:=false}}:=by simp[doD,p5,en]
   have kz:∀a b k,H k=none→H1 k≠none→nid z2≠some k→upd (upd K id2 a) i4 b k=H1 k:=fun a b k c d e=>by rw[ag _ _ (hz4 k c),ag _ _ (fun e' =>e (by rw[e'];exact o2.nid)),kK k d]
   refine .mk _ (.refl _) (.refl _) ⟨(Sub.put (i:=id2) sg (hH.none hg2) _).put h4' _,_, ?_,fun _=>hi0⟩
   rw[hdo];exact oc rfl hpp rfl ((hC.keepx (z:=z2) aaz a12 (kz _ _)).bH (fun _ e=>hH.none e)) (.inr ⟨id2,hH.none hg2,cap,rest,by rw[ey];simp,by rw[ag _ _ n24,ah],by rw[hrl];simp,by simpa using hcap,bp (f:=ie) (n:=7) (fun _=>rfl) _⟩) ((w3.keep fun id e=>kz _ _ id (w3.nid e).1 (w3.nid e).2.1 fun e1=>a23 id e1 e).bH fun _ e=>hH.none e) ((w4.keep fun id e=>kz _ _ id (w4.nid e).1 (w4.nid e).2.1 fun e1=>a24 id e1 e).bH fun _ e=>hH.none e) ⟨a12,a13,a14,a23,a24,a34⟩
  have k5' :(o.kind==5)=false:=by simp[p5]
  simp only[go_sem,k5']
  by_cases p6:o.kind=6
  ·have k6' :(o.kind==6)=true:=by simp[p6]
   simp only[go_sem,k6'];simp only[go_sem,k5,k3];have hha6:=Ei hSK.rd o.case o.field (Nat.le_trans hf.roles aau);rw[hpp,hcC]at hha6;simp only[List.cons_append,List.nil_append]at hha6;refine hha6.pthen ?_;cases dha:xk s.roles ⟨o.case,o.field⟩
   ·simp only[go_sem]
    simp only[go_sem,k5,k3];have hap1:Rd K 2 (.sl [dU ⟨o.case,o.field⟩] .full) [dU ⟨o.case,o.field⟩]:=.sl aa9 .full;have hfr:=hf.roles;refine OwE.app (U:=U) (tb:=149) (w4.sub sK) (s1.trans sK) hap1 aaA aau aaw aaA aaz aaW fun id4 y' K3 g4' hor hw ho2=> ?_
    have hor' :K id4=none∨nid z4=some id4:=by
     exact ae3
    have n44:i4≠id4:=fun e=>by rw[←e,g4]at g4';cases g4'
    have n45:i5≠id4:=fun e=>by
     rcases hor' with hor|hor
     ·rw[←e,k5]at hor;cases hor
     ·exact(w4.nid hor).2.1 (by rw[←e];exact h5)
    have m4:K3 i4=_:=(ho2 i4 n44).trans k4;have m5:K3 i5=_:=(ho2 i5 n45).trans k5;simp only[go_sem,m5,hw.rd.fit,hw.rd.cells];simp only[go_sem,ak,n54,m4];have hdo:doD aO s o= {s with roles:=s.roles++ [⟨o.case,o.field⟩]}:=by simp[doD,p6,dha]
    have gid4:g id4=none:=hH.none g4';have kz:∀a b k,H k=none→H1 k≠none→nid z4≠some k→upd (upd K3 i5 a) i4 b k=H1 k:=fun a b k c d e=>by
     have:k≠id4:=fun e' =>by
      rcases hor' with hor|hor
      ·have:=kK k d;rw[e',hor]at this;exact d (by rw[e'];exact this.symm)
      ·exact e (by rw[e'];exact hor)
     rw[ag _ _ (hz4 k c),ag _ _ (hz5 k c d),ho2 k this,kK k d]
    have sg3:Ab.Sub g K3:=fun k b hk=>by rw[ho2 k (fun e=>by rw[e,gid4]at hk;cases hk)];exact sg _ _ hk
    refine .mk _ (.refl _) (.refl _) ⟨(sg3.put g5 _).put h4' _,_, ?_,fun _=>hi0⟩
    rw[hdo];have hw' :OwE 149 g K3 2 y' ((s.roles++ [(⟨o.case,o.field⟩:gI)]).map dU):=by rw[List.map_append];exact .inr ⟨id4,gid4,hw⟩
    have hry:∀k,nid y' =some k→H1 k=none∨nid z4=some k:=fun k e=>by
     have:id4=k:=by have:=hw.nid;rw[e]at this;exact(Option.some.inj this).symm
     subst this;exact hor'.imp (fun h=>sK.none h) id
    have har:∀ {w:AV},apart w z4→(∀k,nid w=some k→H1 k≠none)→apart w y' :=fun ha hh k e1 e2=>(hry k e2).elim (fun h=>hh k e1 h) (fun h=>ha k e1 h)
    refine oc rfl hpp rfl ((hC.move (z:=z4) aaz a14 (kz _ _) fun w hw k e=> ?_).bH (fun _ e=>hH.none e)) ((w2.keep fun id e=>kz _ _ id (w2.nid e).1 (w2.nid e).2.1 fun e1=>a24 id e e1).bH fun _ e=>hH.none e) ((w3.keep fun id e=>kz _ _ id (w3.nid e).1 (w3.nid e).2.1 fun e1=>a34 id e e1).bH fun _ e=>hH.none e) (hw'.keep fun id e=> ?_) ⟨a12,a13,har a14 fun k e=>(w1.nid e).2.1,a23,har a24 fun k e=>(w2.nid e).2.1,har a34 fun k e=>(w3.nid e).2.1⟩
    ·simp only[List.mem_cons,List.not_mem_nil,or_false]at hw
     rcases hw with rfl|rfl|rfl|rfl
     ·exact .inr ⟨w,aaz,e⟩
     ·exact .inr ⟨w,aaz,e⟩
     ·exact .inr ⟨w,aaz,e⟩
     ·exact(hry k e).imp id fun h=>⟨z4,aaz,h⟩
    ·have:id=id4:=by have:=hw.nid;rw[e]at this;exact Option.some.inj this
     rw[this,ag _ _ n44.symm,ag _ _ n45.symm]
   ·simp only[go_sem]
    simp only[go_sem,k5,k4];have hdo:doD aO s o=s:=by simp[doD,p6,dha]
    rw[hdo];refine .mk _ (.refl _) (.refl _) ⟨sg.put h4' _,_,(hS.keepb fun k hk hk1=> ?_).bH fun _ e=>hH.none e,fun _=>hi0⟩
    rw[ag _ _ (hz4 k hk),kK k hk1]
  have k6' :(o.kind==6)=false:=by simp[p6]
  simp only[go_sem,k6']
  by_cases p7:o.kind=7
  ·have k7' :(o.kind==7)=true:=by simp[p7]
   simp only[go_sem,k7'];simp only[go_sem,k3];refine(xO o.text _ (he.sub sg)).pthen ?_;obtain⟨⟨pp,e,a⟩,epp⟩:∃x,aO o.text=x:=⟨_,rfl⟩;obtain⟨qid,qset,qalg,qtgt,qrules,qkids,qobls⟩:=pp;rw[epp];simp only[go_sem,jw,aK,aV];intro i9 h9;have n95:i5≠i9:=fun e=>by rw[←e,k5]at h9;cases h9
   have n94:i4≠i9:=fun e=>by rw[←e,k4]at h9;cases h9
   simp only[go_sem];have g9:g i9=none:=sg.none h9;have sg9:∀b,Ab.Sub g (upd K i9 b):=fun b=>sg.put g9 b
   have hz9:∀k,H1 k≠none→k≠i9:=fun k hk e=>hk (by have:=kK k hk;rw[e,h9]at this;rw[e];exact this.symm)
   by_cases pe:e=0
   ·have de:(e==0)=true:=by simp[pe]
    have wv:IntKind.i64.wrap (s.version+1)=s.version+1:=bg _ aar;simp only[go_sem,de];simp only[go_sem,ak,n95,n94,n54,k5,k4,wv];have hdo:doD aO s o= {s with policy:=.mk qid qset qalg qtgt qrules qkids qobls,version:=s.version+1}:=by simp[doD,p7,epp,pe]
    have kz:∀a b c k,H k=none→H1 k≠none→upd (upd (upd K i9 a) i5 b) i4 c k=H1 k:=fun a b c k d e=>by rw[ag _ _ (hz4 k d),ag _ _ (hz5 k d e),ag _ _ (hz9 k e),kK k e]
    refine .mk _ (.refl _) (.refl _) ⟨((sg9 _).put g5 _).put h4' _,_, ?_,fun _=>hi0⟩
    rw[hdo];exact oc rfl rfl rfl ((hC.keepb (kz _ _ _)).bH (fun _ e=>hH.none e)) ((w2.keepb (kz _ _ _)).bH (fun _ e=>hH.none e)) ((w3.keepb (kz _ _ _)).bH (fun _ e=>hH.none e)) ((w4.keepb (kz _ _ _)).bH (fun _ e=>hH.none e)) ⟨a12,a13,a14,a23,a24,a34⟩
   ·have de:(e==0)=false:=by simp[pe]
    simp only[go_sem,de];simp only[go_sem,ak,n95,n94,k5,k4];have hdo:doD aO s o=s:=by simp[doD,p7,epp,pe]
    rw[hdo];refine .mk _ (.refl _) (.refl _) ⟨(sg9 _).put h4' _,_,(hS.keepb fun k hk hk1=> ?_).bH fun _ e=>hH.none e,fun _=>hi0⟩
    rw[ag _ _ (hz4 k hk),ag _ _ (hz9 k hk1),kK k hk1]
  have k7' :(o.kind==7)=false:=by simp[p7]
  simp only[go_sem,k7']
  by_cases p8:o.kind=8
  ·have k8' :(o.kind==8)=true:=by simp[p8]
   simp only[go_sem,k8'];have hrv:0<o.review∧o.review≤1099511627776:=by
    simp only[eN,dD,Bool.and_eq_true]at hform;simpa[okD,p8]using hform.2.1.2
   have htk:¬s.tick>1099511627776 - o.review:=by
    intro hgt;simp[bI,hform,p8,hgt]at p0
   have w8:IntKind.i64.wrap (s.tick+o.review)=s.tick+o.review:=bg _ (by have:=ht.1;omega)
   simp only[go_sem,k5,k3,w8];simp only[go_sem,ak,n54,k4];have hdo:doD aO s o= {s with tick:=s.tick+o.review}:=by simp[doD,p8]
   have kz:∀a b k,H k=none→H1 k≠none→upd (upd K i5 a) i4 b k=H1 k:=fun a b k c d=>by rw[ag _ _ (hz4 k c),ag _ _ (hz5 k c d),kK k d]
   refine .mk _ (.refl _) (.refl _) ⟨(sg.put g5 _).put h4' _,_, ?_,fun _=>hi0⟩
   rw[hdo];exact oc rfl hpp rfl ((hC.keepb (kz _ _)).bH (fun _ e=>hH.none e)) ((w2.keepb (kz _ _)).bH (fun _ e=>hH.none e)) ((w3.keepb (kz _ _)).bH (fun _ e=>hH.none e)) ((w4.keepb (kz _ _)).bH (fun _ e=>hH.none e)) ⟨a12,a13,a14,a23,a24,a34⟩
  have k8' :(o.kind==8)=false:=by simp[p8]
  simp only[go_sem,k8'];simp only[go_sem,k5,k4];have hdo:doD aO s o=s:=by simp[doD,p1,p3,p4,p5,p6,p7,p8]
  rw[hdo];refine .mk _ (.refl _) (.refl _) ⟨sg.put h4' _,_,(hS.keepb fun k hk hk1=> ?_).bH fun _ e=>hH.none e,fun _=>hi0⟩
  rw[ag _ _ (hz4 k hk),kK k hk1]
 ·have d0:(bI s o !=0)=true:=by simp[p0]
  simp only[go_sem,d0];simp only[go_sem,k5,k4];have hdone:dI aO s o=s:=by simp[dI,p0]
  rw[hdone];refine .mk _ (.refl _) (.refl _) ⟨sg.put h4' _,_,(hS.keepb fun k hk hk1=> ?_).bH fun _ e=>hH.none e,fun h=>(p0 h).elim⟩
  rw[ag _ _ (hz4 k hk),kK k hk1]
end Go.Proofs.YtcochaoekecfdaaGreatDoor
namespace Go.Bf
def JV:Txt:=[112,111,108,105,99,121,32,111,112,101,110,32,112,101,114,109,105,116,117,110,108,101,115,115,32,123,32,125]
def kS:bG:=.mk jb false 6 [] [] [] []
def vH:an:=⟨0,[],[],[],[],kS,0⟩
end Go.Bf
namespace Go.Proofs.YtcochaoekecfdaaGreatDoor
open Go Go.Ab Go.Bf
theorem L3{g K:Heap}{S:an}{y1 y2 y3 y4:AV}{tk ver palg:Int}{pid:Txt}{pset:Bool}{ptgt:fQ}{prules:List cK}{pkids:List bG}{pobls:List cA}(h1:S.tick=tk)(h2:S.policy= .mk pid pset palg ptgt prules pkids pobls)(h3:S.version=ver)
  (a:Frz g K y1 (fM S.cases)) (b:Frz g K y2 (jJ S.reviews)) (c:Frz g K y3 (kD S.notices)) (d:Frz g K y4 (dM S.roles)):
  Frz g K (.agg [.i tk,y1,y2,y3,y4,.s pid,.b pset,.i palg,aT ptgt,.sl (prules.map aA) .no,.sl (pkids.map aK) .no,az pobls,.i ver]) (cH S):=by
 have:=tJ a b c d;rw[h1,h2,h3,show fJ (.mk pid pset palg ptgt prules pkids pobls)= [.s pid,.b pset,.i palg,aT ptgt,.sl (prules.map aA) .no,.sl (pkids.map aK) .no,az pobls] by simp[fJ,aV]]at this
 exact aa8
theorem IA{H:Heap}{i j:Nat}{a b:Option Blk}(c:Option Blk)(h:i≠j):upd (upd (upd H i a) j b) i c=upd (upd H i c) j b:=by
 grind [ah,ag]
theorem JW:aO JV=(kS,0,0):=aaG
theorem Pm(h:Heap)(he:lJ h):ai Tryz.prog 26 [] h fun r h' =>r=cH vH∧h' =h:=
 ai.freeze fun g hg _=>by
 replace he:=he.sub hg;refine aaq Tryz.func26 11 [.cell 0 67] fun hwf=> ?_
 simp only[go_sem];intro i1 h1;simp only[go_sem];refine(xO JV _ (he.sub (.aj h1))).pthen ?_;rw[JW];simp only[go_sem,jw,kS,aK,aT,az,fj,jb,List.map_nil];intro i2 h2;have n21:=aF h2;have n2:=aB h2;simp only[go_sem,ak,n21.symm];refine .mk _ (.refl _) (.refl _) ⟨?_,cH vH,L3 (S:=vH) rfl rfl rfl lC lC lC lC,rfl⟩;rw[IA _ n21.symm];exact((Sub.refl g).put h1 _).put n2 _
theorem qT(s:Txt)(h:Heap):ai Tryz.prog 125 [.s s] h fun r h' =>r=aQ (idV s)∧h' =h:=by
 refine aaq Tryz.func125 5 [.cell 2 30] fun hwf=> ?_
 exact afO
theorem dF(cat:Int)(name:Txt)(xs:List AV)(q:Perm)(h:Heap):ai Tryz.prog 126 [.i cat,.s name,.sl xs q] h fun r h' =>r= .agg [.i cat,.s name,.sl xs q]∧h' =h:=by
 refine aaq Tryz.func126 11 [.cell 6 196] fun hwf=> ?_
 exact afO
theorem JJ{α:Type}(y:AV)(xs:List AV)(ds:List α)(q:α→Bool)(g:FuncId)(cap:List AV)(h:Heap)(hb:Rd h 3 y xs)(hn:xs.length=ds.length)(hl:xs.length≤1000000000)(hx:∀x∈xs,bu x=true)
  (hp:∀i (h1:i<xs.length) (h2:i<ds.length),ai Tryz.prog g (xs[i]::cap) h fun r h' =>r= .b (q ds[i])∧h' =h):
  ai Tryz.prog 252 [y,.fn g cap] h fun r h' =>r= .i (ixD q ds)∧h' =h:=by
 refine aaq Tryz.func252 19 [.tmp 4] fun hwf=> ?_
 simp only[go_sem,hb.len];refine .intro (fun m ρ h' =>h' =h∧∃i:Nat,i≤xs.length∧m=xs.length - i∧(∀j (hj:j<i) (h2:j<ds.length),q ds[j]=false)∧lk ρ 0=some y∧lk ρ 1=some (.fn g cap)∧lk ρ 7=some (.i xs.length)∧lk ρ 8=some (.i i)) xs.length ?_ ?_
 ·refine⟨rfl,0,aar,rfl,fun j hj=>aar, ?_, ?_, ?_, ?_⟩<;>simp only[go_sem]
 ·rintro m ρ h' ⟨rfl,i,hi,rfl,hc,r0,r1,r7,r8⟩
  simp only[go_sem,r7,r8];refine .intro (fun e=> ?_) (fun e=> ?_)
  ·have hlt:i<xs.length:=aao e
   have hlt2:i<ds.length:=aar;have w1:IntKind.i64.wrap ((i:Int)+1)=((i+1:Nat):Int):=aaE;simp only[go_sem,r0,r1,r8];refine hb.idx (e:=205) i rfl hlt aaG aau fun p hp1=> ?_
   have hld:=hp1.all (U:=U) (ty:=205) aau abg ab8;simp only[go_sem,hld];refine(show ai Tryz.prog g (xs[i]::cap) _ _ from hp i hlt hlt2).pthen ?_
   cases d1:q ds[i]
   ·simp only[go_sem,r8,w1]
    refine⟨_, ?_,rfl,i+1,aar,rfl,fun j hj h2=> ?_, ?_, ?_, ?_, ?_⟩
    ·omega
    ·grind
    all_goals simp only[go_sem,r0,r1,r7]
   ·simp only[go_sem]
    exact .same (.refl _) ⟨aa4,rfl⟩
  ·have hge:i=xs.length:=by grind
   simp only[go_sem];exact .same (.refl _) ⟨aaS,rfl⟩
theorem KW{h:Heap}(x:wj){k:Nat}{subj:Txt}(hk:h k=some (.obj [.s subj] 9)):ai Tryz.prog 216 [hY x,.ptr k 0] h fun r h' =>r= .b (x.actor==subj)∧h' =h:=by
 refine aaq Tryz.func216 8 [.tmp 3] fun hwf=> ?_
 simp only[go_sem,hY];exact aeM
theorem tu{α:Type}(q:α→Bool)(l:List α):decide ((0:Int)≤ixD q l)=l.any q:=by
 unfold ixD
 grind
theorem Hv(y:AV)(ds:List wj)(q:wj→Bool)(g:FuncId)(cap:List AV)(h:Heap)(hb:Rd h 3 y (ds.map hY))(hl:ds.length≤1000000000)
  (hp:∀i (h2:i<ds.length),ai Tryz.prog g (hY ds[i]::cap) h fun r h' =>r= .b (q ds[i])∧h' =h):
  ai Tryz.prog 215 [y,.fn g cap] h fun r h' =>r= .b (ds.any q)∧h' =h:=by
 refine aaq Tryz.func215 9 [.tmp 4] fun hwf=> ?_
 simp only[go_sem];refine(JJ y _ ds q g cap h hb aaz aas (nF (fun _=>rfl) _) fun i a b=>by rw[aai];exact hp i b).pthen ?_
 simp only[go_sem,tu];exact aaD
theorem MR{h:Heap}{x:AV}{c:aJ}(hb:RdC h x c)(subj:Txt)(hl:c.log.length≤1000000000):ai Tryz.prog 174 [x,.s subj] h fun r h' =>r=aQ (td c.log subj)∧h' =h:=by
 obtain⟨f,l,rfl,hf,hlg⟩:=hb;refine aaq Tryz.func174 13 [.cell 4 30] fun hwf=> ?_
 simp only[go_sem];intro i1 h1;simp only[go_sem];intro i2 h2;have n21:=aF h2;have n2:=aB h2;simp only[go_sem];intro i3 h3;have h3' :=aB h3;have n31:=aF h3';have n3:=aB h3';simp only[go_sem];intro i4 h4;have n43:=aF h4;have h4' :=aB h4;have h4'' :=aB h4';have n41:=aF h4'';have n4:=aB h4'';have hs:∀a b d e,Ab.Sub h (upd (upd (upd (upd h i1 a) i2 b) i3 d) i4 e):=fun a b d e=>((((Sub.refl h).put h1 a).put n2 b).put n3 d).put n4 e
 simp only[go_sem,ak,n21.symm,n31.symm,n41.symm];refine(Hv l c.log (fun x=>x.actor==subj) _ [.ptr i2 0] _ (hlg.sub (hs _ _ _ _)) hl fun i b=>KW _ (by grind [ak,fO,not_false_eq_true])).pthen ?_
 cases d1:c.log.any fun x=>x.actor==subj
 ·exact afx
 ·exact afx
def yN(g:bh)(q:Perm):AV:=.agg [.i g.cat,.s g.name,.sl (g.bag.map aQ) q]
def GRow(ys:List AV)(gs:List bh):Prop:=ys.length=gs.length∧∀j (h1:j<ys.length) (h2:j<gs.length),∃q,ys[j]=yN gs[j] q
theorem GRow.sized{ys:List AV}{gs:List bh}(h:GRow ys gs):Sized 3 ys:=fun z hz=>by
 obtain⟨i,hi,rfl⟩:=List.mem_iff_getElem.1 hz;obtain⟨q,e⟩:=h.2 i hi (by rw[←h.1];omega)
 rw[e];rfl
theorem GRow.one(g:bh)(q:Perm):GRow [yN g q] [g]:=⟨rfl,fun j h1 h2=>by
 grind⟩
theorem GRow.app{ys zs:List AV}{gs ks:List bh}(h:GRow ys gs)(k:GRow zs ks):GRow (ys++zs) (gs++ks):=⟨by simp[h.1,k.1],fun j h1 h2=>by
 have hl:=h.1
 by_cases e:j<ys.length
 ·rw[List.getElem_append_left e,List.getElem_append_left aar];exact h.2 j e aar
 ·rw[List.getElem_append_right aar,List.getElem_append_right aar]
  simp only[aal]at h1 h2;obtain⟨q,e'⟩:=k.2 (j - ys.length) aar aar;exact⟨q,aas⟩⟩
theorem GRow.weak{ys:List AV}{gs:List bh}(h:GRow ys gs)(q:Perm):Weak (.sl ys q) (bE gs):=by
 refine .deep _ _ q (by simp[h.1]) (fun k h1 h2=> ?_) fun k h1 h2 j h3 h4=> ?_
 ·obtain⟨q',e'⟩:=h.2 k h1 aas
  rw[e',aai];rfl
 ·obtain⟨q',e'⟩:=h.2 k h1 aas
  simp only[e',aai];simp only[e',yN,AV.cells]at h3;rcases j with _|_|_|j
  ·exact abG
  ·exact abG
  ·exact ac3
  ·simp at h3;omega
theorem GRow.givs(gs:List bh):GRow (gs.map kj) gs:=⟨aaz,fun j h1 h2=>⟨.no,aaH⟩⟩
theorem cp:(U 196).sz=3:=aaG
theorem fy(g:bh)(q:Perm):Sized 3 [yN g q]:=fun z hz=>adk
def rz(c:aJ)(subj:Txt):List bh:=[⟨3,idT,[idV c.id]⟩,⟨3,[111,119,110,101,114],[idV c.owner]⟩,⟨3,[115,116,97,116,101],[idV c.state]⟩,⟨3,[101,118,101,110,116,115],[⟨2,c.log.length,[]⟩]⟩,⟨3,[116,111,111,107],[td c.log subj]⟩]
def rB(c:aJ):List bh:=match c.log.getLast? with
 |some x=>[⟨3,[108,97,115,116],[idV x.actor]⟩]
 |none=>[]
def fB(l:List cS):List bh:=(l.filter fun f=>decide (f.name.length≤14)).map fun f=>⟨3,[102,95]++f.name,[f.val]⟩
theorem ld(l:List cS)(i:Nat)(h:i<l.length):fB (l.take (i+1))=fB (l.take i)++(if l[i].name.length≤14 then [⟨3,[102,95]++l[i].name,[l[i].val]⟩]else []):=by
 grind [fB,List.take_succ_eq_append_getElem]
theorem oY(c:aJ)(subj:Txt):cy c subj=rz c subj++rB c++fB c.fields:=rfl
theorem DE{h:Heap}(c:aJ)(subj:Txt)(hl:c.log.length≤1000000)(hlf:c.fields.length≤1000000):ai Tryz.prog 127 [cm c,.s subj] h fun r h' =>r=bE (cy c subj)∧h' =h:=by
 refine aaq Tryz.func127 77 [.tmp 4] fun hwf=> ?_
 simp only[go_sem,cm,mq,fV,rD];intro i1 h1;simp only[go_sem];refine .quiet aav ?_;simp only[go_sem];refine⟨_,qT _ _, ?_⟩;simp only[go_sem,aQ,idV];refine⟨_,dF _ _ _ _ _, ?_⟩;simp only[go_sem];refine⟨_,qT _ _, ?_⟩;simp only[go_sem,aQ,idV];refine⟨_,dF _ _ _ _ _, ?_⟩;simp only[go_sem];refine⟨_,qT _ _, ?_⟩;simp only[go_sem,aQ,idV];refine⟨_,dF _ _ _ _ _, ?_⟩;simp only[go_sem];refine⟨_,dF _ _ _ _ _, ?_⟩;simp only[go_sem];refine⟨_,MR (show RdC _ (.agg [.s c.id,.s c.owner,.s c.state,.sl (c.fields.map bJ) .no,.sl (c.log.map hY) .no]) c from rdC _ c) subj aar, ?_⟩
 simp only[go_sem,aQ];refine⟨_,dF _ _ _ _ _, ?_⟩;simp only[go_sem,aah];have hs1:∀b,Ab.Sub h (upd h i1 b):=fun b=>(Sub.refl h).put h1 b
 have hrow5:GRow [.agg [.i 3,.s [105,100],.sl [.agg [.i 5,.i 0,.s c.id]] .full],.agg [.i 3,.s [111,119,110,101,114],.sl [.agg [.i 5,.i 0,.s c.owner]] .full],.agg [.i 3,.s [115,116,97,116,101],.sl [.agg [.i 5,.i 0,.s c.state]] .full],.agg [.i 3,.s [101,118,101,110,116,115],.sl [.agg [.i 2,.i c.log.length,.s []]] .full],.agg [.i 3,.s [116,111,111,107],.sl [aQ (td c.log subj)] .full]] (rz c subj):=(GRow.one ⟨3,idT,[idV c.id]⟩ .full).app ((GRow.one ⟨3,[111,119,110,101,114],[idV c.owner]⟩ .full).app ((GRow.one ⟨3,[115,116,97,116,101],[idV c.state]⟩ .full).app ((GRow.one ⟨3,[101,118,101,110,116,115],[⟨2,c.log.length,[]⟩]⟩ .full).app (GRow.one ⟨3,[116,111,111,107],[td c.log subj]⟩ .full))));simp only[aQ]at hrow5;cases d1:decide ((0:Int)<(c.log.length:Int))
 ·have hl0:c.log= []:=List.length_eq_zero_iff.1 aas
  simp only[go_sem];simp only[go_sem,aah];refine .intro (fun m ρ H=>∃(i:Nat) (y:AV) (ys:List AV),Acc U 196 h H y ys∧H i1=some (.obj [.s c.id,.s c.owner,.s c.state,.sl (c.fields.map bJ) .no,.sl (c.log.map hY) .no] 134)∧GRow ys (rz c subj++fB (c.fields.take i))∧i≤c.fields.length∧m=c.fields.length - i∧lk ρ 5=some y∧lk ρ 2=some (.ptr i1 0)∧lk ρ 55=some (.sl (c.fields.map bJ) .no)∧lk ρ 56=some (.i c.fields.length)∧lk ρ 57=some (.i i)) c.fields.length ?_ ?_
  ·refine⟨0,_,_,.full (hs1 _),ah ..,(by have:=hrow5;simpa[fB]using this),aar,rfl, ?_, ?_, ?_, ?_, ?_⟩<;>simp only[go_sem]
  ·rintro m ρ H ⟨i,y,ys,hy,g1,hrow,hi,rfl,r5,r2,r55,r56,r57⟩
   simp only[go_sem,r56,r57];refine .intro (fun e=> ?_) (fun e=> ?_)
   ·have hlt:i<c.fields.length:=aao e
    have w1:IntKind.i64.wrap ((i:Int)+1)=((i+1:Nat):Int):=aaE;simp only[go_sem,r55,r57];refine .at i aas aaH ?_;simp only[go_sem,aai,bJ];intro i8 h8;have n81:i1≠i8:=fun e=>aas
    simp only[go_sem];cases d2:decide ((c.fields[i].name.length:Int)≤14)
    ·exact aeO
    ·simp only[go_sem,r5]
     have h14:c.fields[i].name.length≤14:=aas;refine⟨by grind [Nat,lim], ?_⟩
     refine(dF _ _ _ _ _).pthen ?_;simp only[go_sem];refine(hy.sub (.aj h8)).app (zs:=[yN ⟨3,[102,95]++c.fields[i].name,[c.fields[i].val]⟩ .full]) aau aau (fun k hk=>(Rd.sl (fy _ _) .full:Rd _ 3 _ _).src cp hk) (by rw[cp];exact hrow.sized) (by grind [cp,fy]) (by
      have hln:(fB (c.fields.take i)).length≤i:=acs;simp only[go_sem,hrow.1,List.length_cons,List.length_nil,rz];omega) fun y' H' hy' kp=> ?_
     exact ae8
   ·have hge:i=c.fields.length:=by grind
    subst hge;rw[List.take_length]at hrow;obtain⟨q,rfl⟩:=hy.row;simp only[go_sem,r5];exact .mk (bE (cy c subj)) (show Weak (.sl ys q) _ by rw[oY,rB,hl0];simpa using hrow.weak q) hy.1 ⟨rfl,rfl⟩
 ·have hl1:0<c.log.length:=by grind
  simp only[go_sem];have w0:IntKind.i64.wrap ((c.log.length:Int) - 1)=((c.log.length - 1:Nat):Int):=aaE;simp only[go_sem,w0];refine .at (c.log.length - 1) aas aaH ?_;simp only[go_sem,aai,hY];rw[if_neg (fun hh=>hh.1)]
  refine(qT _ _).pthen ?_;simp only[go_sem,aQ,idV];refine(dF _ _ _ _ _).pthen ?_;simp only[go_sem];have hgl:c.log.getLast? =some c.log[c.log.length - 1]:=aas;have hlast:GRow [.agg [.i 3,.s [108,97,115,116],.sl [.agg [.i 5,.i 0,.s c.log[c.log.length - 1].actor]] .full]] (rB c):=by
   unfold rB;rw[hgl];exact GRow.one ⟨3,[108,97,115,116],[idV c.log[c.log.length - 1].actor]⟩ .full
  refine .accs (hs1 _) fun y0 H0 hy0 kp0=> ?_
  simp only[go_sem,kp0 _ _ _ (ah ..),aah];refine .intro (fun m ρ H=>∃(i:Nat) (y:AV) (ys:List AV),Acc U 196 h H y ys∧H i1=some (.obj [.s c.id,.s c.owner,.s c.state,.sl (c.fields.map bJ) .no,.sl (c.log.map hY) .no] 134)∧GRow ys ((rz c subj++rB c)++fB (c.fields.take i))∧i≤c.fields.length∧m=c.fields.length - i∧lk ρ 5=some y∧lk ρ 2=some (.ptr i1 0)∧lk ρ 55=some (.sl (c.fields.map bJ) .no)∧lk ρ 56=some (.i c.fields.length)∧lk ρ 57=some (.i i)) c.fields.length ?_ ?_
  ·refine⟨0,_,_,hy0,kp0 _ _ _ (ah ..),(by have:=hrow5.app hlast;simpa[fB]using this),aar,rfl, ?_, ?_, ?_, ?_, ?_⟩<;>simp only[go_sem]
  ·rintro m ρ H ⟨i,y,ys,hy,g1,hrow,hi,rfl,r5,r2,r55,r56,r57⟩
   simp only[go_sem,r56,r57];refine .intro (fun e=> ?_) (fun e=> ?_)
   ·have hlt:i<c.fields.length:=aao e
    have w1:IntKind.i64.wrap ((i:Int)+1)=((i+1:Nat):Int):=aaE;simp only[go_sem,r55,r57];refine .at i aas aaH ?_;simp only[go_sem,aai,bJ];intro i8 h8;have n81:i1≠i8:=fun e=>aas
    simp only[go_sem];cases d2:decide ((c.fields[i].name.length:Int)≤14)
    ·exact aeO
    ·simp only[go_sem,r5]
     have h14:c.fields[i].name.length≤14:=aas;refine⟨by grind [Nat,lim], ?_⟩
     refine(dF _ _ _ _ _).pthen ?_;simp only[go_sem];refine(hy.sub (.aj h8)).app (zs:=[yN ⟨3,[102,95]++c.fields[i].name,[c.fields[i].val]⟩ .full]) aau aau (fun k hk=>(Rd.sl (fy _ _) .full:Rd _ 3 _ _).src cp hk) (by rw[cp];exact hrow.sized) (by grind [cp,fy]) (by
      have hln:(fB (c.fields.take i)).length≤i:=acs;simp only[go_sem,hrow.1,List.length_cons,List.length_nil,rz,rB,hgl];omega) fun y' H' hy' kp=> ?_
     exact ae8
   ·have hge:i=c.fields.length:=by grind
    subst hge;rw[List.take_length]at hrow;obtain⟨q,rfl⟩:=hy.row;simp only[go_sem,r5];exact .mk (bE (cy c subj)) (show Weak (.sl ys q) _ by rw[oY];exact hrow.weak q) hy.1 ⟨rfl,rfl⟩
theorem C8{l:List gI}{subj:Txt}{i:Nat}(h:i<l.length)(h1:l[i].subj=subj)(h2:(cR (l.take i) subj).length<16):cR (l.take (i+1)) subj=cR (l.take i) subj++ [idV l[i].role]:=by
 unfold cR at h2⊢;rw[List.take_succ_eq_append_getElem h,List.filter_append,List.map_append]
 grind [List.length_take,idV,List.take_append,List.take_of_length_le]
theorem yd{l:List gI}{subj:Txt}{i:Nat}(h:i<l.length)(h1:l[i].subj≠subj∨¬(cR (l.take i) subj).length<16):cR (l.take (i+1)) subj=cR (l.take i) subj:=by
 grind [cR,List.take_succ_eq_append_getElem,List.take_append,List.length_take]
theorem EL(l:List gI)(subj:Txt):(cR l subj).length≤16:=by grind [cR,List.length_take]
def cI(s:an)(o:OpD):List bh:=[⟨1,idT,[idV o.subj]⟩,⟨1,[114,111,108,101],cR s.roles o.subj⟩,⟨2,[110,97,109,101],[idV (jl o.kind)]⟩]
theorem wX{s:an}(hf:Few s)(id:Txt):(br s.cases id).log.length≤1000000∧(br s.cases id).fields.length≤1000000:=by
 cases e:bW s.cases id
 ·rw[BM e];decide
 ·rw[BL e];exact⟨hf.log _ aaz,hf.fields _ aaz⟩
theorem BG(c:aJ)(subj:Txt):(cy c subj).length≤6+c.fields.length:=by
 grind [oY,aal,rB,fB,aah,List.length_filter_le,rz]
theorem iZ{h G:Heap}{i:Nat}(hs:Ab.Sub h G)(hi:G i=none):h i=none:=hs.none hi
theorem Bq:(U 30).sz=3:=aaG
theorem Ov{h:Heap}{x:AV}{s:an}(hb:RdS h x s)(o:OpD)(hf:Few s)(hk:i64 o.kind):ai Tryz.prog 70 [x,opA o] h fun r h' =>r=bE (fl s o)∧h' =h:=by
 have hca:=fun(G:Heap) (hG:Ab.Sub h G)=>AQ (hb.sub hG) o.case hf
 obtain⟨y1,y2,y3,y4,rfl,⟨xs,hc,hn,hcs⟩,h2,h3,h4⟩:=hb;cases hpp:s.policy with
 |mk pid pset palg ptgt prules pkids pobls=>
 have hcC:fJ (.mk pid pset palg ptgt prules pkids pobls)= [.s pid,.b pset,.i palg,aT ptgt,.sl (prules.map aA) .no,.sl (pkids.map aK) .no,az pobls]:=adt;rw[hpp,hcC]at hca;simp only[List.cons_append,List.nil_append]at hca;have hfr:=hf.roles;refine aaq Tryz.func70 99 [.tmp 4] fun hwf=> ?_
 simp only[go_sem,hcC,opA,opC,List.cons_append,List.nil_append];intro i1 h1;simp only[go_sem];intro i2 h2';have n21:=aF h2';have n2:=aB h2';simp only[go_sem,ak,n21.symm,h4.len,aah];obtain⟨H,eH⟩:∃H,upd (upd h i1 (some (.obj [.i s.tick,y1,y2,y3,y4,.s pid,.b pset,.i palg,aT ptgt,.sl (prules.map aA) .no,.sl (pkids.map aK) .no,az pobls,.i s.version] 67))) i2 (some (.obj (opC o) 32))=H:=⟨_,rfl⟩;have hH:Ab.Sub h H:=abl;have g1:H i1=some (.obj [.i s.tick,y1,y2,y3,y4,.s pid,.b pset,.i palg,aT ptgt,.sl (prules.map aA) .no,.sl (pkids.map aK) .no,az pobls,.i s.version] 67):=abU;have g2:H i2=some (.obj (opC o) 32):=abM;simp only[opC]at eH g2;rw[eH];clear eH;refine .intro (fun m ρ G=>∃(i:Nat) (y:AV),Acc U 30 H G y ((cR (s.roles.take i) o.subj).map aQ)∧i≤s.roles.length∧m=s.roles.length - i∧lk ρ 5=some y∧lk ρ 2=some (.ptr i1 0)∧lk ρ 3=some (.ptr i2 0)∧lk ρ 12=some y4∧lk ρ 13=some (.i s.roles.length)∧lk ρ 14=some (.i i)) s.roles.length ?_ ?_
 ·refine⟨0,_,.full (.refl _),aar,rfl, ?_, ?_, ?_, ?_, ?_, ?_⟩<;>simp only[go_sem,cR,List.take_zero,List.filter_nil,List.map_nil]
 ·rintro m ρ G ⟨i,y,hy,hi,rfl,r5,r2,r3,r12,r13,r14⟩
  have k1:=hy.1 _ _ g1;have k2:=hy.1 _ _ g2;simp only[go_sem,r13,r14];refine .intro (fun e=> ?_) (fun e=> ?_)
  ·have hlt:i<s.roles.length:=aao e
   have w1:=aan i aar;simp only[go_sem,r12,r14];refine(h4.sub (hH.trans hy.1)).idx (e:=149) i rfl aaQ Gj aau fun p hp1=> ?_
   have hld:=hp1.all (U:=U) (ty:=149) aaA (by rw[Gj,aai];rfl) aa2
   simp only[go_sem,hld,aai,dU];intro i7 h7;have n71:i1≠i7:=fun e=>by rw[←e,k1]at h7;cases h7
   have n72:i2≠i7:=fun e=>by rw[←e,k2]at h7;cases h7
   simp only[go_sem,ak,n72,k2,r3];have hy7:=hy.sub (.aj h7 (k:=some (.obj [.s s.roles[i].subj,.s s.roles[i].role] 149)));have lr:=EL (s.roles.take i) o.subj;cases d1:(s.roles[i].subj==o.subj)
   ·have p1:s.roles[i].subj≠o.subj:=by simpa using d1
    simp only[go_sem,r14,w1];refine⟨_, ?_,i+1,y,by rw[yd hlt (.inl p1)];exact hy7,aar,rfl, ?_, ?_, ?_, ?_, ?_, ?_⟩
    ·omega
    all_goals simp only[go_sem,r5,r2,r3,r12,r13]
   ·have p1:s.roles[i].subj=o.subj:=by simpa using d1
    simp only[go_sem,r5,hy.len,aah];cases d2:decide (((cR (s.roles.take i) o.subj).length:Int)<16)
    ·have p2:¬(cR (s.roles.take i) o.subj).length<16:=by have:=aak d2;omega
     simp only[go_sem,r14,w1];refine⟨_, ?_,i+1,y,by rw[yd hlt (.inr p2)];exact hy7,aar,rfl, ?_, ?_, ?_, ?_, ?_, ?_⟩
     ·omega
     all_goals simp only[go_sem,r5,r2,r3,r12,r13]
    ·have p2:(cR (s.roles.take i) o.subj).length<16:=by have:=aaj d2;omega
     simp only[go_sem,r5];refine(qT _ _).pthen ?_;simp only[go_sem,aQ,idV];refine hy7.app (zs:=[aQ (idV s.roles[i].role)]) (by rw[Bq];decide) aaw (fun k hk=>(Rd.sl (fun z hz=>adk) .full:Rd _ 3 _ _).src Bq hk) (by rw[Bq];exact bp (f:=aQ) (fun _=>rfl) _) (by rw[Bq];exact bp (f:=aQ) (fun _=>rfl) [idV s.roles[i].role]) abB fun y' H' hy' kp=> ?_
     simp only[go_sem,r14,w1];refine⟨_, ?_,i+1,y',by rw[C8 hlt p1 p2,List.map_append];exact hy',aar,rfl, ?_, ?_, ?_, ?_, ?_, ?_⟩
     ·omega
     all_goals simp only[go_sem,r2,r3,r12,r13]
  ·have hge:i=s.roles.length:=by have:=aak e;omega
   subst hge;rw[List.take_length]at hy;simp only[go_sem];obtain⟨q5,rfl⟩:=hy.row;refine .quiet aav ?_;simp only[go_sem,k2,r3];refine⟨_,qT _ _, ?_⟩;simp only[go_sem,aQ,idV];refine⟨_,dF _ _ _ _ _, ?_⟩;simp only[go_sem,r5];refine⟨_,dF _ _ _ _ _, ?_⟩;simp only[go_sem,k2,r3];refine⟨_,zm _ hk _, ?_⟩;simp only[go_sem];refine⟨_,qT _ _, ?_⟩;simp only[go_sem,aQ,idV];refine⟨_,dF _ _ _ _ _, ?_⟩;simp only[go_sem,k2,r3];have hak:=fun(G:Heap)=>DE (h:=G) (br s.cases o.case) o.subj (wX hf o.case).1 (wX hf o.case).2
   simp only[cm,mq,fV,rD]at hak;have hakl:=BG (br s.cases o.case) o.subj;have hakf:=(wX hf o.case).2;have hr0:GRow [.agg [.i 1,.s [105,100],.sl [.agg [.i 5,.i 0,.s o.subj]] .full],.agg [.i 1,.s [114,111,108,101],.sl ((cR s.roles o.subj).map aQ) q5],.agg [.i 2,.s [110,97,109,101],.sl [.agg [.i 5,.i 0,.s (jl o.kind)]] .full]] (cI s o):=(GRow.one ⟨1,idT,[idV o.subj]⟩ .full).app ((GRow.one ⟨1,[114,111,108,101],cR s.roles o.subj⟩ q5).app (GRow.one ⟨2,[110,97,109,101],[idV (jl o.kind)]⟩ .full))
   by_cases pf:o.field= []
   ·have df:(o.field==([]:Txt))=true:=by simp[pf]
    simp only[go_sem,k2,r3,df]
    by_cases pt:o.to= []
    ·have dt:(o.to==([]:Txt))=true:=by simp[pt]
     simp only[go_sem,k1,r2,dt];refine(dF _ _ _ _ _).pthen ?_;simp only[go_sem];refine .accs hy.1 fun y1 G1 hy1 kp1=> ?_
     have k1_1:=kp1 _ _ _ k1;have k2_1:=kp1 _ _ _ k2;have hr1:=hr0.app (GRow.one (⟨4,[110,111,119],[⟨4,s.tick,[]⟩]⟩:bh) .full);simp only[go_sem,k1_1,k2_1,r2,r3];refine(hca _ (hH.trans hy1.1)).pthen ?_;simp only[go_sem,cm,mq,fV,rD];intro i20 h20;have n21:i1≠i20:=fun e=>by rw[←e,k1_1]at h20;cases h20
     have n22:i2≠i20:=fun e=>by rw[←e,k2_1]at h20;cases h20
     simp only[go_sem];obtain⟨q2,eq2⟩:=hy1.row;cases dth:bW s.cases o.case
     ·simp only[go_sem]
      exact .mk (bE (fl s o)) (show Weak y1 _ by rw[eq2,show fl s o=(cI s o++ [(⟨4,[110,111,119],[⟨4,s.tick,[]⟩]⟩:bh)]) by simp[fl,cI,dth,pf,pt]];exact hr1.weak q2) ((hH.trans hy1.1).put (iZ (hH.trans hy1.1) h20) _) ⟨rfl,rfl⟩
     ·simp only[go_sem,ak,n22,k2_1,r3]
      by_cases p6:o.kind=6
      ·have d6:(o.kind !=6)=false:=by simp[p6]
       simp only[go_sem,d6];exact .mk (bE (fl s o)) (show Weak y1 _ by rw[eq2,show fl s o=(cI s o++ [(⟨4,[110,111,119],[⟨4,s.tick,[]⟩]⟩:bh)]) by simp[fl,cI,dth,p6,pf,pt]];exact hr1.weak q2) ((hH.trans hy1.1).put (iZ (hH.trans hy1.1) h20) _) ⟨rfl,rfl⟩
      ·have d6:(o.kind !=6)=true:=by simp[p6]
       simp only[go_sem,ak,n22,k2_1,r3,d6];refine(hak _).pthen ?_;simp only[go_sem,bE];refine(hy1.sub (.aj h20)).app (zs:=(cy (br s.cases o.case) o.subj).map kj) acI aaw (fun k hk=>(dZ kj 3 (fun _=>rfl) _ _).src cp hk) (by rw[cp];exact hr1.sized) abX abf fun yz Gz hyz kpz=> ?_
       simp only[go_sem];obtain⟨qz,eqz⟩:=hyz.row;exact .mk (bE (fl s o)) (show Weak yz _ by rw[eqz,show fl s o=(cI s o++ [(⟨4,[110,111,119],[⟨4,s.tick,[]⟩]⟩:bh)])++cy (br s.cases o.case) o.subj by simp[fl,cI,dth,p6,pf,pt]];exact(hr1.app (GRow.givs _)).weak qz) (hH.trans hyz.1) ⟨rfl,rfl⟩
    ·have dt:(o.to==([]:Txt))=false:=by simp[pt]
     simp only[go_sem,k2,r3,dt];refine(qT _ _).pthen ?_;simp only[go_sem,aQ,idV];refine(dF _ _ _ _ _).pthen ?_;simp only[go_sem];refine .accs hy.1 fun y3 G3 hy3 kp3=> ?_
     have k1_3:=kp3 _ _ _ k1;have k2_3:=kp3 _ _ _ k2;have hr3:=hr0.app (GRow.one (⟨2,[116,111],[idV o.to]⟩:bh) .full);simp only[go_sem,k1_3,r2];refine(dF _ _ _ _ _).pthen ?_;simp only[go_sem];refine hy3.app (zs:=[yN (⟨4,[110,111,119],[⟨4,s.tick,[]⟩]⟩) .full]) acI aaw (fun k hk=>(Rd.sl (fy _ _) .full:Rd _ 3 _ _).src cp hk) (by rw[cp];exact hr3.sized) adS abn fun y4 G4 hy4 kp4=> ?_
     have k1_4:=kp4 _ _ _ k1_3;have k2_4:=kp4 _ _ _ k2_3;have hr4:=hr3.app (GRow.one (⟨4,[110,111,119],[⟨4,s.tick,[]⟩]⟩:bh) .full);simp only[go_sem,k1_4,k2_4,r2,r3];refine(hca _ (hH.trans hy4.1)).pthen ?_;simp only[go_sem,cm,mq,fV,rD];intro i50 h50;have n51:i1≠i50:=fun e=>by rw[←e,k1_4]at h50;cases h50
     have n52:i2≠i50:=fun e=>by rw[←e,k2_4]at h50;cases h50
     simp only[go_sem];obtain⟨q5,eq5⟩:=hy4.row;cases dth:bW s.cases o.case
     ·simp only[go_sem]
      exact .mk (bE (fl s o)) (show Weak y4 _ by rw[eq5,show fl s o=((cI s o++ [(⟨2,[116,111],[idV o.to]⟩:bh)])++ [(⟨4,[110,111,119],[⟨4,s.tick,[]⟩]⟩:bh)]) by simp[fl,cI,dth,pf,pt]];exact hr4.weak q5) ((hH.trans hy4.1).put (iZ (hH.trans hy4.1) h50) _) ⟨rfl,rfl⟩
     ·simp only[go_sem,ak,n52,k2_4,r3]
      by_cases p6:o.kind=6
      ·have d6:(o.kind !=6)=false:=by simp[p6]
       simp only[go_sem,d6];exact .mk (bE (fl s o)) (show Weak y4 _ by rw[eq5,show fl s o=((cI s o++ [(⟨2,[116,111],[idV o.to]⟩:bh)])++ [(⟨4,[110,111,119],[⟨4,s.tick,[]⟩]⟩:bh)]) by simp[fl,cI,dth,p6,pf,pt]];exact hr4.weak q5) ((hH.trans hy4.1).put (iZ (hH.trans hy4.1) h50) _) ⟨rfl,rfl⟩
      ·have d6:(o.kind !=6)=true:=by simp[p6]
       simp only[go_sem,ak,n52,k2_4,r3,d6];refine(hak _).pthen ?_;simp only[go_sem,bE];refine(hy4.sub (.aj h50)).app (zs:=(cy (br s.cases o.case) o.subj).map kj) acI aaw (fun k hk=>(dZ kj 3 (fun _=>rfl) _ _).src cp hk) (by rw[cp];exact hr4.sized) abX abf fun yz Gz hyz kpz=> ?_
       simp only[go_sem];obtain⟨qz,eqz⟩:=hyz.row;exact .mk (bE (fl s o)) (show Weak yz _ by rw[eqz,show fl s o=((cI s o++ [(⟨2,[116,111],[idV o.to]⟩:bh)])++ [(⟨4,[110,111,119],[⟨4,s.tick,[]⟩]⟩:bh)])++cy (br s.cases o.case) o.subj by simp[fl,cI,dth,p6,pf,pt]];exact(hr4.app (GRow.givs _)).weak qz) (hH.trans hyz.1) ⟨rfl,rfl⟩
   ·have df:(o.field==([]:Txt))=false:=by simp[pf]
    simp only[go_sem,k2,r3,df];refine(qT _ _).pthen ?_;simp only[go_sem,aQ,idV];refine(dF _ _ _ _ _).pthen ?_;simp only[go_sem];refine .accs hy.1 fun y6 G6 hy6 kp6=> ?_
    have k1_6:=kp6 _ _ _ k1;have k2_6:=kp6 _ _ _ k2;have hr6:=hr0.app (GRow.one (⟨2,[102,105,101,108,100],[idV o.field]⟩:bh) .full);simp only[go_sem,k2_6,r3]
    by_cases pt:o.to= []
    ·have dt:(o.to==([]:Txt))=true:=by simp[pt]
     simp only[go_sem,k1_6,r2,dt];refine(dF _ _ _ _ _).pthen ?_;simp only[go_sem];refine hy6.app (zs:=[yN (⟨4,[110,111,119],[⟨4,s.tick,[]⟩]⟩) .full]) acI aaw (fun k hk=>(Rd.sl (fy _ _) .full:Rd _ 3 _ _).src cp hk) (by rw[cp];exact hr6.sized) adS abn fun y7 G7 hy7 kp7=> ?_
     have k1_7:=kp7 _ _ _ k1_6;have k2_7:=kp7 _ _ _ k2_6;have hr7:=hr6.app (GRow.one (⟨4,[110,111,119],[⟨4,s.tick,[]⟩]⟩:bh) .full);simp only[go_sem,k1_7,k2_7,r2,r3];refine(hca _ (hH.trans hy7.1)).pthen ?_;simp only[go_sem,cm,mq,fV,rD];intro i80 h80;have n81:i1≠i80:=fun e=>by rw[←e,k1_7]at h80;cases h80
     have n82:i2≠i80:=fun e=>by rw[←e,k2_7]at h80;cases h80
     simp only[go_sem];obtain⟨q8,eq8⟩:=hy7.row;cases dth:bW s.cases o.case
     ·simp only[go_sem]
      exact .mk (bE (fl s o)) (show Weak y7 _ by rw[eq8,show fl s o=((cI s o++ [(⟨2,[102,105,101,108,100],[idV o.field]⟩:bh)])++ [(⟨4,[110,111,119],[⟨4,s.tick,[]⟩]⟩:bh)]) by simp[fl,cI,dth,pf,pt]];exact hr7.weak q8) ((hH.trans hy7.1).put (iZ (hH.trans hy7.1) h80) _) ⟨rfl,rfl⟩
     ·simp only[go_sem,ak,n82,k2_7,r3]
      by_cases p6:o.kind=6
      ·have d6:(o.kind !=6)=false:=by simp[p6]
       simp only[go_sem,d6];exact .mk (bE (fl s o)) (show Weak y7 _ by rw[eq8,show fl s o=((cI s o++ [(⟨2,[102,105,101,108,100],[idV o.field]⟩:bh)])++ [(⟨4,[110,111,119],[⟨4,s.tick,[]⟩]⟩:bh)]) by simp[fl,cI,dth,p6,pf,pt]];exact hr7.weak q8) ((hH.trans hy7.1).put (iZ (hH.trans hy7.1) h80) _) ⟨rfl,rfl⟩
      ·have d6:(o.kind !=6)=true:=by simp[p6]
       simp only[go_sem,ak,n82,k2_7,r3,d6];refine(hak _).pthen ?_;simp only[go_sem,bE];refine(hy7.sub (.aj h80)).app (zs:=(cy (br s.cases o.case) o.subj).map kj) acI aaw (fun k hk=>(dZ kj 3 (fun _=>rfl) _ _).src cp hk) (by rw[cp];exact hr7.sized) abX abf fun yz Gz hyz kpz=> ?_
       simp only[go_sem];obtain⟨qz,eqz⟩:=hyz.row;exact .mk (bE (fl s o)) (show Weak yz _ by rw[eqz,show fl s o=((cI s o++ [(⟨2,[102,105,101,108,100],[idV o.field]⟩:bh)])++ [(⟨4,[110,111,119],[⟨4,s.tick,[]⟩]⟩:bh)])++cy (br s.cases o.case) o.subj by simp[fl,cI,dth,p6,pf,pt]];exact(hr7.app (GRow.givs _)).weak qz) (hH.trans hyz.1) ⟨rfl,rfl⟩
    ·have dt:(o.to==([]:Txt))=false:=by simp[pt]
     simp only[go_sem,k2_6,r3,dt];refine(qT _ _).pthen ?_;simp only[go_sem,aQ,idV];refine(dF _ _ _ _ _).pthen ?_;simp only[go_sem];refine hy6.app (zs:=[yN (⟨2,[116,111],[idV o.to]⟩) .full]) acI aaw (fun k hk=>(Rd.sl (fy _ _) .full:Rd _ 3 _ _).src cp hk) (by rw[cp];exact hr6.sized) adS abn fun y9 G9 hy9 kp9=> ?_
     have k1_9:=kp9 _ _ _ k1_6;have k2_9:=kp9 _ _ _ k2_6;have hr9:=hr6.app (GRow.one (⟨2,[116,111],[idV o.to]⟩:bh) .full);simp only[go_sem,k1_9,r2];refine(dF _ _ _ _ _).pthen ?_;simp only[go_sem];refine hy9.app (zs:=[yN (⟨4,[110,111,119],[⟨4,s.tick,[]⟩]⟩) .full]) acI aaw (fun k hk=>(Rd.sl (fy _ _) .full:Rd _ 3 _ _).src cp hk) (by rw[cp];exact hr9.sized) adS abn fun y10 G10 hy10 kp10=> ?_
     have k1_10:=kp10 _ _ _ k1_9;have k2_10:=kp10 _ _ _ k2_9;have hr10:=hr9.app (GRow.one (⟨4,[110,111,119],[⟨4,s.tick,[]⟩]⟩:bh) .full);simp only[go_sem,k1_10,k2_10,r2,r3];refine(hca _ (hH.trans hy10.1)).pthen ?_;simp only[go_sem,cm,mq,fV,rD];intro i110 h110;have n111:i1≠i110:=fun e=>by rw[←e,k1_10]at h110;cases h110
     have n112:i2≠i110:=fun e=>by rw[←e,k2_10]at h110;cases h110
     simp only[go_sem];obtain⟨q11,eq11⟩:=hy10.row;cases dth:bW s.cases o.case
     ·simp only[go_sem]
      exact .mk (bE (fl s o)) (show Weak y10 _ by rw[eq11,show fl s o=(((cI s o++ [(⟨2,[102,105,101,108,100],[idV o.field]⟩:bh)])++ [(⟨2,[116,111],[idV o.to]⟩:bh)])++ [(⟨4,[110,111,119],[⟨4,s.tick,[]⟩]⟩:bh)]) by simp[fl,cI,dth,pf,pt]];exact hr10.weak q11) ((hH.trans hy10.1).put (iZ (hH.trans hy10.1) h110) _) ⟨rfl,rfl⟩
     ·simp only[go_sem,ak,n112,k2_10,r3]
      by_cases p6:o.kind=6
      ·have d6:(o.kind !=6)=false:=by simp[p6]
       simp only[go_sem,d6];exact .mk (bE (fl s o)) (show Weak y10 _ by rw[eq11,show fl s o=(((cI s o++ [(⟨2,[102,105,101,108,100],[idV o.field]⟩:bh)])++ [(⟨2,[116,111],[idV o.to]⟩:bh)])++ [(⟨4,[110,111,119],[⟨4,s.tick,[]⟩]⟩:bh)]) by simp[fl,cI,dth,p6,pf,pt]];exact hr10.weak q11) ((hH.trans hy10.1).put (iZ (hH.trans hy10.1) h110) _) ⟨rfl,rfl⟩
      ·have d6:(o.kind !=6)=true:=by simp[p6]
       simp only[go_sem,ak,n112,k2_10,r3,d6];refine(hak _).pthen ?_;simp only[go_sem,bE];refine(hy10.sub (.aj h110)).app (zs:=(cy (br s.cases o.case) o.subj).map kj) acI aaw (fun k hk=>(dZ kj 3 (fun _=>rfl) _ _).src cp hk) (by rw[cp];exact hr10.sized) abX abf fun yz Gz hyz kpz=> ?_
       simp only[go_sem];obtain⟨qz,eqz⟩:=hyz.row;exact .mk (bE (fl s o)) (show Weak yz _ by rw[eqz,show fl s o=(((cI s o++ [(⟨2,[102,105,101,108,100],[idV o.field]⟩:bh)])++ [(⟨2,[116,111],[idV o.to]⟩:bh)])++ [(⟨4,[110,111,119],[⟨4,s.tick,[]⟩]⟩:bh)])++cy (br s.cases o.case) o.subj by simp[fl,cI,dth,p6,pf,pt]];exact(hr10.app (GRow.givs _)).weak qz) (hH.trans hyz.1) ⟨rfl,rfl⟩
end Go.Proofs.YtcochaoekecfdaaGreatDoor
namespace Go.Bf
open Go Go.Ab
def eqL{α:Type}(f:α→α→Bool):List α→List α→Bool
 | [],[]=>true
 |x::a,y::b=>f x y && eqL f a b
 |_,_=>false
theorem any_succ{α:Type}{q:α→Bool}{l:List α}{i:Nat}(h:i<l.length):(l.take (i+1)).any q=((l.take i).any q||q l[i]):=by
 grind [List.take_succ_eq_append_getElem]
end Go.Bf
namespace Go.Bf
def RD:Txt:=[97,110,110]
end Go.Bf
namespace Go.Proofs.YtcochaoekecfdaaGreatDoor
open Go Go.Ab Go.Bf
def Bg:List Value:=Lib.pow10Tab.map fun z=>Value.int .u64 z
def PK(ev:Value):Heap:=vM [(3,Bg),(2,[ev])]
theorem Io{ev:Value}(hev:ev= .nilIface∨∃te pe,ev= .iface te pe):lJ (PK ev):=⟨ev,hev,1,rfl⟩
end Go.Proofs.YtcochaoekecfdaaGreatDoor
namespace Go.Bf
open Go Go.Ab
def ig(cat:Int)(name:Txt)(g:bh):Bool:=g.cat==cat && g.name==name
def getD(l:List bh)(cat:Int)(name:Txt):List bw:=match l.find? (ig cat name)with
 |some g=>g.bag
 |none=>[]
end Go.Bf
namespace Go.Proofs.YtcochaoekecfdaaGreatDoor
open Go Go.Ab Go.Bf
theorem JI{α:Type}(y:AV)(xs:List AV)(ds:List α)(q:α→Bool)(g:FuncId)(cap:List AV)(h:Heap)(hb:Rd h 3 y xs)(hn:xs.length=ds.length)(hl:xs.length≤1000000000)(hx:∀x∈xs,bu x=true)
  (hp:∀i (h1:i<xs.length) (h2:i<ds.length),ai Tryz.prog g (xs[i]::cap) h fun r h' =>r= .b (q ds[i])∧h' =h):
  ai Tryz.prog 310 [y,.fn g cap] h fun r h' =>r= .i (ixD q ds)∧h' =h:=by
 refine aaq Tryz.func310 19 [.tmp 4] fun hwf=> ?_
 simp only[go_sem,hb.len];refine .intro (fun m ρ h' =>h' =h∧∃i:Nat,i≤xs.length∧m=xs.length - i∧(∀j (hj:j<i) (h2:j<ds.length),q ds[j]=false)∧lk ρ 0=some y∧lk ρ 1=some (.fn g cap)∧lk ρ 7=some (.i xs.length)∧lk ρ 8=some (.i i)) xs.length ?_ ?_
 ·refine⟨rfl,0,aar,rfl,fun j hj=>aar, ?_, ?_, ?_, ?_⟩<;>simp only[go_sem]
 ·rintro m ρ h' ⟨rfl,i,hi,rfl,hc,r0,r1,r7,r8⟩
  simp only[go_sem,r7,r8];refine .intro (fun e=> ?_) (fun e=> ?_)
  ·have hlt:i<xs.length:=aao e
   have hlt2:i<ds.length:=aar;have w1:IntKind.i64.wrap ((i:Int)+1)=((i+1:Nat):Int):=aaE;simp only[go_sem,r0,r1,r8];refine hb.idx (e:=196) i rfl hlt aaG aau fun p hp1=> ?_
   have hld:=hp1.all (U:=U) (ty:=196) aau abg ab8;simp only[go_sem,hld];refine(show ai Tryz.prog g (xs[i]::cap) _ _ from hp i hlt hlt2).pthen ?_
   cases d1:q ds[i]
   ·simp only[go_sem,r8,w1]
    refine⟨_, ?_,rfl,i+1,aar,rfl,fun j hj h2=> ?_, ?_, ?_, ?_, ?_⟩
    ·omega
    ·grind
    all_goals simp only[go_sem,r0,r1,r7]
   ·simp only[go_sem]
    exact .same (.refl _) ⟨aa4,rfl⟩
  ·have hge:i=xs.length:=by grind
   simp only[go_sem];exact .same (.refl _) ⟨aaS,rfl⟩
theorem HW{h:Heap}(g:bh){k1 k2:Nat}{cat:Int}{name:Txt}(h1:h k1=some (.obj [.i cat] 3))(h2:h k2=some (.obj [.s name] 9)):ai Tryz.prog 311 [kj g,.ptr k1 0,.ptr k2 0] h fun r h' =>r= .b (ig cat name g)∧h' =h:=by
 refine aaq Tryz.func311 15 [.tmp 4] fun hwf=> ?_
 simp only[go_sem,kj];intro i1 hi1;have n1:k1≠i1:=fun e=>aas
 have n2:k2≠i1:=fun e=>aas
 simp only[go_sem,ak,n1,h1];cases d1:(g.cat==cat)
 ·simp only[go_sem]
  exact .mk _ (.refl _) (.aj hi1) ⟨by simp only[ig,d1];rfl,rfl⟩
 ·simp only[go_sem,ak,n2,h2]
  exact .mk _ (.refl _) (.aj hi1) ⟨by simp only[ig,d1];rfl,rfl⟩
theorem Kn(gs:List bh)(cat:Int)(name:Txt)(hl:gs.length≤1000000000)(h:Heap):ai Tryz.prog 282 [bE gs,.i cat,.s name] h fun r h' =>r= .i (ixD (ig cat name) gs)∧h' =h:=by
 refine aaq Tryz.func282 10 [.tmp 6] fun hwf=> ?_
 simp only[go_sem,bE];intro i1 h1;simp only[go_sem];intro i2 h2;have n2:=aB h2;have hs:∀a b,Ab.Sub h (upd (upd h i1 a) i2 b):=fun a b=>((Sub.refl h).put h1 a).put n2 b
 simp only[go_sem];refine(JI _ _ gs (ig cat name) _ [.ptr i1 0,.ptr i2 0] _ (dZ kj 3 (fun _=>rfl) _ gs) aaz aas (nF (fun _=>rfl) _) fun i a b=>by
  rw[aai];exact HW _ (by grind [ag,ah]) (ah ..)).pthen ?_
 simp only[go_sem];exact abV
theorem get_at{gs:List bh}{cat:Int}{name:Txt}(h:gs.findIdx (ig cat name)<gs.length):getD gs cat name=gs[gs.findIdx (ig cat name)].bag:=by
 unfold getD;rw[show gs.find? (ig cat name)=some gs[gs.findIdx (ig cat name)]from List.find?_eq_some_iff_getElem.2 ⟨List.findIdx_getElem (w:=h),_,h,rfl,fun j hj=>aas⟩]
theorem O0{gs:List bh}{cat:Int}{name:Txt}(h:¬gs.findIdx (ig cat name)<gs.length):getD gs cat name= []:=by
 grind [getD,ig,List.findIdx_le_length,List.find?_eq_none,List.findIdx_eq_length]
end Go.Proofs.YtcochaoekecfdaaGreatDoor
namespace Go.Bf
open Go Go.Ab
def cT:Txt:=[99]
def stC(st:Txt)(log:List wj):aJ:=⟨cT,RD,st,[],log⟩
def ou:List Txt:=[jb,vw,zz,gD]
abbrev lt(a b:Txt):Prop:=Op.bytesLess a b=true
theorem lt_irrefl:∀a:Txt,¬lt a a
 | []=>aau
 |a::x=>by
  have:=lt_irrefl x;simp only[lt,Op.bytesLess,Bool.or_eq_true,Bool.and_eq_true,decide_eq_true_eq,beq_self_eq_true,true_and,not_or];exact⟨UInt8.lt_irrefl a,this⟩
theorem lt_trans:∀ {a b c:Txt},lt a b→lt b c→lt a c
 |_,[],_,h,_=>by simp_all [Txt,lt,Op.bytesLess]
 | [],b::y,c,_,h=>by cases c<;>simp[lt,Op.bytesLess]at h⊢
 |a::x,b::y,[],_,h=>by simp[lt,Op.bytesLess]at h
 |a::x,b::y,c::z,h1,h2=>by
  simp only[lt,Op.bytesLess,Bool.or_eq_true,Bool.and_eq_true,decide_eq_true_eq,beq_iff_eq]at h1 h2⊢;rcases h1 with h1|⟨rfl,h1⟩
  ·grind
  ·rcases h2 with h2|⟨rfl,h2⟩
   ·grind
   ·exact .inr ⟨rfl,lt_trans h1 h2⟩
theorem zR:∀a b:Txt,lt a b∨a=b∨lt b a
 | [],[]=>aaz
 | [],b::y=> .inl rfl
 |a::x,[]=> .inr (.inr rfl)
 |a::x,b::y=>by
  simp only[lt,Op.bytesLess,Bool.or_eq_true,Bool.and_eq_true,decide_eq_true_eq,beq_iff_eq];rcases UInt8.lt_or_lt_of_ne (a:=a) (b:=b)with h
  by_cases e:a=b
  ·subst e
   rcases zR x y with h|rfl|h
   ·grind
   ·simp
   grind
  grind
def Asc(cs:List aJ):Prop:=cs.Pairwise fun a b=>lt a.id b.id
theorem Fv{c:aJ}{cs:List aJ}{id:Txt}(h:¬lt c.id id):findD (c::cs) id=0:=by
 simp_all [Op.bytesLess,false,findD,List.findIdx_cons,geB]
theorem Fw{c:aJ}{cs:List aJ}{id:Txt}(h:lt c.id id):findD (c::cs) id=findD cs id+1:=by
 simp_all [Op.bytesLess,true,findD,List.findIdx_cons,geB]
theorem uv:∀ {cs:List aJ},Asc cs→∀id,bW cs id=cs.any fun c=>c.id==id
 | [],_,id=>rfl
 |c::cs,h,id=>by
  obtain⟨h1,h2⟩:=List.pairwise_cons.1 h
  by_cases hl:lt c.id id
  ·have hne:(c.id==id)=false:=by
    grind [beq_eq_false_iff_ne,lt_irrefl]
   have e:bW (c::cs) id=bW cs id:=by
    grind [bW,Fw]
   rw[e,uv h2 id,List.any_cons,hne,Bool.false_or]
  ·have e:bW (c::cs) id=(c.id==id):=by
    grind [bW,Fv]
   rw[e,List.any_cons];cases hc:(c.id==id)
   ·have hlt:lt id c.id:=by
     rcases zR c.id id with h|h|h
     ·grind
     ·grind
     omega
    grind
   ·simp
theorem Fh:∀ {cs:List aJ},Asc cs→∀c:aJ,(cs.any fun d=>d.id==c.id)=false→Asc (cs.take (findD cs c.id)++ [c]++cs.drop (findD cs c.id))
 | [],_,c,_=>by simp[Asc,findD]
 |d::cs,h,c,hn=>by
  obtain⟨h1,h2⟩:=List.pairwise_cons.1 h;simp only[List.any_cons,Bool.or_eq_false_iff]at hn
  by_cases hl:lt d.id c.id
  ·rw[Fw hl]
   simp only[List.take_succ_cons,List.drop_succ_cons,List.cons_append];refine List.pairwise_cons.2 ⟨fun e he=> ?_,Fh h2 c hn.2⟩
   grind
  ·rw[Fv hl]
   have hlt:lt c.id d.id:=by
    rcases zR d.id c.id with h|h|h
    ·grind
    ·grind
    omega
   refine List.pairwise_cons.2 ⟨fun e he=> ?_,h⟩
   rcases List.mem_cons.1 he with rfl|he
   ·omega
   grind [lt_trans]
def Dx(fs:List cS):Prop:=fs.Pairwise fun a b=>lt a.name b.name
theorem Az(name:Txt)(v:bw):eL [] name v= [⟨name,v⟩]:=rfl
theorem yF{f:cS}{fs:List cS}{name:Txt}{v:bw}(h:lt f.name name):eL (f::fs) name v=f::eL fs name v:=by
 have hb:Op.bytesLess f.name name=true:=h;unfold eL;simp only[List.findIdx_cons,geB,hb,Bool.not_true,cond_false,List.getElem?_cons_succ];generalize hi:fs.findIdx (fun f=> !Op.bytesLess f.name name)=i
 cases e:fs[i]? with
 |none=>simp
 |some g=>
  by_cases hg:g.name=name
  ·simp[hg]
  ·simp[hg]
theorem yD{f:cS}{fs:List cS}{name:Txt}{v:bw}(h:f.name=name):eL (f::fs) name v=⟨f.name,v⟩::fs:=by
 subst h;have hb:Op.bytesLess f.name f.name=false:=by
  grind [Op.bytesLess,lt_irrefl]
 unfold eL;simp[List.findIdx_cons,geB,hb]
theorem yE{f:cS}{fs:List cS}{name:Txt}{v:bw}(h:lt name f.name):eL (f::fs) name v=⟨name,v⟩::f::fs:=by
 have hb:Op.bytesLess f.name name=false:=by
  grind [Op.bytesLess,lt_irrefl,lt_trans]
 have hne:f.name≠name:=fun e=>by rw[e]at h;exact lt_irrefl _ h
 unfold eL;simp[List.findIdx_cons,geB,hb,hne]
theorem uA:∀ {fs:List cS} {name:Txt} {v:bw} {g:cS},g∈eL fs name v→g=⟨name,v⟩∨g∈fs
 | [],name,v,g,h=>by grind [Az,List.mem_singleton]
 |f::fs,name,v,g,h=>by
  rcases zR f.name name with hl|hl|hl
  ·rw[yF hl]at h
   rcases List.mem_cons.1 h with rfl|h
   ·simp
   ·rcases uA h with h|h
    ·grind
    grind
  ·rw[yD hl]at h
   grind
  ·rw[yE hl]at h
   grind
theorem Ax:∀ {fs:List cS} {name:Txt} {v:bw},Dx fs→Dx (eL fs name v)
 | [],name,v,_=>by grind [Az,Dx]
 |f::fs,name,v,h=>by
  obtain⟨h1,h2⟩:=List.pairwise_cons.1 h;rcases zR f.name name with hl|hl|hl
  ·rw[yF hl]
   refine List.pairwise_cons.2 ⟨fun g hg=> ?_,Ax h2⟩
   rcases uA hg with rfl|hg
   ·omega
   grind
  ·rw[yD hl]
   exact List.pairwise_cons.2 ⟨h1,h2⟩
  ·rw[yE hl]
   refine List.pairwise_cons.2 ⟨fun g hg=> ?_,h⟩
   rcases List.mem_cons.1 hg with rfl|hg
   ·omega
   grind [lt_trans]
theorem Ay:∀ {fs:List cS} {name:Txt} {v:bw},Dx fs→(eL fs name v).length=if fs.any (fun f=>f.name==name)then fs.length else fs.length+1
 | [],name,v,_=>rfl
 |f::fs,name,v,h=>by
  obtain⟨h1,h2⟩:=List.pairwise_cons.1 h;rcases zR f.name name with hl|hl|hl
  ·have hne:(f.name==name)=false:=by grind [beq_eq_false_iff_ne,lt_irrefl]
   rw[yF hl,List.length_cons,Ay h2,List.any_cons,hne,Bool.false_or];split<;>simp
  ·grind [yD]
  ·have hne:(f.name==name)=false:=by grind [beq_eq_false_iff_ne,lt_irrefl]
   have hno:(fs.any fun f=>f.name==name)=false:=List.any_eq_false.2 fun g hg he=>by
    have:=lt_trans hl (h1 g hg);rw[beq_iff_eq.1 he]at this;exact lt_irrefl _ this
   rw[yE hl,List.any_cons,hne,hno];simp
theorem D4(f:cS)(fs:List cS)(n:Txt):dX (f::fs) n=if f.name=n then f.val else dX fs n:=by
 grind [dX]
def mkC(who id:Txt):aJ:=⟨id,who,jb,[],[⟨0,who,[110,101,119]⟩]⟩
def UY(cs:List aJ)(id:Txt):Bool:=cs.any fun c=>c.id==id
end Go.Bf
namespace Go.Ab
open Go
section
variable {α : Type}
def dget(l:List (List UInt8×α))(k:List UInt8):Option α:=(l.find? fun p=>p.1==k).map (·.2)
def dset(l:List (List UInt8×α))(k:List UInt8)(v:α):List (List UInt8×α):=if(dget l k).isSome then l.map (fun p=>if p.1==k then(p.1,v)else p)else l++ [(k,v)]
end
end Go.Ab
namespace Go.Bf
open Go Go.Ab Go.Proofs.YtcochaoekecfdaaGreatDoor
structure Own (cs:List aJ) (own:List (Txt×Txt)):Prop where
 asc:Asc cs
 len:cs.length=own.length
 small:cs.length≤64
 mem:∀c∈cs,c=mkC c.owner c.id∧dget own c.id=some c.owner
 has:∀id,UY cs id=(dget own id).isSome
 who:∀id w,dget own id=some w→w≠ []
 keys:∀p∈own,p.1.length≤3
theorem o8:∀ {cs:List aJ},Asc cs→∀ {id:Txt},bW cs id=true→br cs id∈cs∧(br cs id).id=id:=by
 unfold br
 grind [bW,List.getElem?_eq_getElem]
end Go.Bf
namespace Go.Proofs.YtcochaoekecfdaaGreatDoor
open Go Go.Ab Go.Bf
def vB(o:OpD):Prop:=i64 o.kind∧i64 o.val.kind∧i64 o.val.n∧i64 o.review
theorem inH{P:Program}{f:FuncId}{args:List AV}{h:Heap}{Q:AV→Heap→Prop}(hh:∀H2,H2=h→ai P f args H2 Q):ai P f args h Q:=hh h rfl
end Go.Proofs.YtcochaoekecfdaaGreatDoor
namespace Go.Bf
open Go Go.Ab Go.Proofs.YtcochaoekecfdaaGreatDoor
def UZ(v:Int):bw:=⟨2,v,[]⟩
structure Last (fs:List cS) (last:List (Txt×Int)):Prop where
 asc:Dx fs
 len:fs.length=last.length
 small:fs.length≤16
 kind:∀f∈fs,f.val.kind=2
 get:∀n,dX fs n=((dget last n).map UZ).getD ax
 keys:∀p∈last,p.1.length=2
end Go.Bf
namespace Go.Bf
open Go Go.Ab
def Fine(n:Nat)(st:PS):Prop:=(st.bad=0∨st.bad=5∨st.bad=6)∧0≤st.place∧st.place≤n
def AB(n:Nat)(ts:List qK):Prop:=∀i,0≤(ts.getD i ⟨7,0,0,[]⟩).pos∧(ts.getD i ⟨7,0,0,[]⟩).pos≤n
theorem wZ{n:Nat}{st:PS}{e p:Int}(h:Fine n st)(he:e=5∨e=6)(h0:0≤p)(h1:p≤n):Fine n (bD st e p):=by
 unfold bD;split
 ·exact⟨.inr he,h0,h1⟩
 omega
theorem B7{n:Nat}{a b:PS}(h:Rch a b)(ht:AB n a.ts)(hf:Fine n a):Fine n b:=by
 induction h with
 |refl=>omega
 |wrong e p h1 he hp ih=>
  obtain⟨i,_,rfl⟩:=hp;rw[(qF h1).1];exact wZ ih he (ht i).1 (ht i).2
 |next _ _ _ ih=>exact ih
theorem F5{a b:PS}(h:mN a b):b.ts=a.ts:=by
 induction h with
 |refl=>rfl
 |small _ h1 ih=>grind [qF,trans]
 |rule _ _ _ _ ih=>exact ih
theorem GX{n:Nat}{a b:PS}(h:mN a b)(ht:AB n a.ts)(hf:Fine n a):Fine n b:=by
 induction h with
 |refl=>omega
 |small h1 h2 ih=>grind [B7,F5]
 |rule _ _ _ _ ih=>exact ih
theorem xo{s:Txt}{ts:List qK}(h:rC s= .ok ts):AB s.length ts:=by
 obtain⟨pre,rfl,_,h3,_⟩:=zP h;intro i
 grind
theorem Jx{s:Txt}{ts:List qK}(h:rC s= .ok ts):Fine s.length (oQ s (gh 4 ⟨ts,0,0,0,0⟩)):=by
 have h0:Fine s.length ⟨ts,0,0,0,0⟩:=⟨.inl rfl,Int.le_refl _,aaz⟩;have hr:=Bj 4 ⟨ts,0,0,0,0⟩;have h1:=GX hr (xo h) h0;have ht:AB s.length (gh 4 ⟨ts,0,0,0,0⟩).2.ts:=by rw[F5 hr];exact xo h
 have h2:Fine s.length (if(aI (gh 4 ⟨ts,0,0,0,0⟩).2).kind=7 then(gh 4 ⟨ts,0,0,0,0⟩).2 else bf (gh 4 ⟨ts,0,0,0,0⟩).2):=by
  grind [B7,jR]
 unfold oQ;generalize (if(aI (gh 4 ⟨ts,0,0,0,0⟩).2).kind=7 then(gh 4 ⟨ts,0,0,0,0⟩).2 else bf (gh 4 ⟨ts,0,0,0,0⟩).2)=st1 at h2⊢
 split
 ·exact wZ h2 (.inl rfl) aar (Int.le_refl _)
 ·exact aet
theorem CP(s:Txt):(aO s).2.1=0∧(aO s).2.2=0∧fY (aO s).1=0∨
  ((aO s).2.1=5∨(aO s).2.1=6)∧0≤(aO s).2.2∧(aO s).2.2≤s.length∧(aO s).1=nC:=by
 unfold aO;cases h:rC s with
 |bad e a=>
  have:=xz h;exact .inr ⟨this.1,this.2.1,this.2.2,rfl⟩
 |ok ts=>
  have hf:=Jx h;simp only[xN];split
  ·rename_i hb
   refine .inl ⟨rfl,rfl, ?_⟩;simp only;unfold oQ at hb;generalize (if(aI (gh 4 ⟨ts,0,0,0,0⟩).2).kind=7 then(gh 4 ⟨ts,0,0,0,0⟩).2 else bf (gh 4 ⟨ts,0,0,0,0⟩).2)=st1 at hb
   split at hb
   ·simp_all [bD,if_pos,absurd,Int]
   omega
  ·rename_i hb
   exact .inr ⟨hf.1.resolve_left hb,hf.2.1,hf.2.2,rfl⟩
end Go.Bf
namespace Go.Bf
open Go Go.Ab Go.Proofs.YtcochaoekecfdaaGreatDoor
theorem qf{p:bG}(h:fY p=0):lU 1 p:=by
 cases hw:jQ ⟨[],0⟩ 1 p with
 |bad e=>
  have:=sQ 4 1 _ _ e rfl hw;rw[fY,hw]at h;exact(this h).elim
 |ok m=>grind [FZ]
theorem Ou{fs:List cS}(h:∀f∈fs,eqV f.val ax=false)(n:Txt):(fs.any fun f=>f.name==n)= !(eqV (dX fs n) ax):=by
 induction fs with
 |nil=>rfl
 |cons f fs ih=>
  rw[D4,List.any_cons]
  grind
structure tq (c:aJ):Prop where
 id:bk c.id=true
 owner:bk c.owner=true
 state:c.state∈ou
 asc:Dx c.fields
 nfields:c.fields.length≤16
 field:∀f∈c.fields,bk f.name=true∧bF f.val=true∧eqV f.val ax=false
 log1:1≤c.log.length
 log2:c.log.length≤256
 actor:∀x∈c.log,bk x.actor=true∧i64 x.tick
structure cV (k:Nat) (s:an):Prop where
 tick:0≤s.tick∧s.tick≤1099511627776
 asc:Asc s.cases
 ncases:s.cases.length≤64
 case:∀c∈s.cases,tq c
 nrev:s.reviews.length≤1000
 nnot:s.notices.length≤1000
 roles:s.roles.length≤64
 role:∀r∈s.roles,bk r.subj=true∧bk r.role=true
 pol:fY s.policy=0
 ver:0≤s.version∧s.version≤k
theorem cV.few{k:Nat}{s:an}(h:cV k s):Few s:=by
 have h1:=h.ncases;have h2:=h.nrev;have h3:=h.nnot;have h4:=h.roles;refine⟨aar,fun c hc=> ?_,fun c hc=> ?_,aar,aar,aar⟩
 ·have:=(h.case c hc).nfields;omega
 ·have:=(h.case c hc).log2;omega
theorem cV.lU{k:Nat}{s:an}(h:cV k s):lU 1 s.policy:=qf h.pol
theorem cV.E1{k:Nat}{s:an}(h:cV k s):i64 s.tick:=by
 have:=h.tick;constructor<;>omega
theorem Ir:cV 0 vH:=by
 refine⟨aau,.nil,aau,fun c h=>abt,aau,aau,aau,fun r h=>abt,aaG,aau⟩
theorem jM{s:Txt}(h:iC s=true)(hn:s≠ []):bk s=true:=by
 simp_all [iC,Bool.or_eq_true,beq_iff_eq]
structure N7 (o:OpD):Prop where
 subj:bk o.subj=true
 kind:1≤o.kind∧o.kind≤8
 case:iC o.case=true
 field:iC o.field=true
 to:iC o.to=true
 val:eqV o.val ax=true∨bF o.val=true
 text:o.text.length≤4096
 ok:okD o=true
theorem sj{o:OpD}(h:eN o=true):N7 o:=by
 simp only[eN,Bool.and_eq_true,decide_eq_true_eq,Bool.or_eq_true,dD]at h;obtain⟨⟨⟨⟨⟨⟨⟨h1,h2⟩,h3⟩,h4⟩,h5⟩,h6⟩,h7⟩,⟨⟨h8,h9⟩,h10⟩,h11⟩:=h;exact⟨h1,⟨h8,h9⟩,h4,h5,h6,h7,h3,h10⟩
theorem xd{a b:Txt}(h:lO a b=true):b∈ou:=by
 unfold lO at h;simp only[ou,List.mem_cons,List.not_mem_nil,or_false]
 grind
theorem mem_modify{α:Type}{l:List α}{i:Nat}{f:α→α}{x:α}(h:x∈l.modify i f):x∈l∨∃hi:i<l.length,x=f l[i]:=by
 obtain⟨j,hj,rfl⟩:=List.mem_iff_getElem.1 h
 grind
theorem jO{α β:Type}{l:List α}{i:Nat}{f:α→α}{g:α→β}(h:∀x,g (f x)=g x):(l.modify i f).map g=l.map g:=by
 refine List.ext_getElem aaz fun j h1 h2=> ?_
 grind
theorem AO{cs cs' :List aJ}(h:cs'.map (·.id)=cs.map (·.id))(ha:Asc cs):Asc cs' :=by
 unfold Asc at*;have h1:(cs.map (·.id)).Pairwise lt:=aas
 rw[←h,List.pairwise_map]at h1;exact h1
theorem Mn{cs:List aJ}{i:Nat}{c d:aJ}(h:d∈cs.take i++ [c]++cs.drop i):d=c∨d∈cs:=by
 grind
theorem KO{k:Nat}{s:an}{o:OpD}(hs:cV k s)(hr:bI s o=0):cV (k+1) (doD aO s o):=by
 have hf:eN o=true:=by
  unfold bI at hr
  grind
 have F:=sj hf;have vk:0≤s.version∧s.version≤((k+1:Nat):Int):=⟨hs.ver.1,by have:=hs.ver.2;omega⟩
 unfold bI at hr;rw[hf]at hr;simp only[Bool.true_eq_false,if_false]at hr;have hok:=F.ok;unfold okD at hok;have t64:=hs.E1;unfold doD
 by_cases k1:o.kind=1
 ·simp only[k1,if_true]at hr hok⊢
  have hno:bW s.cases o.case=false:=by
   grind
  rw[hno]at hr;simp only[Bool.false_eq_true,if_false]at hr;have hlt:¬64≤s.cases.length:=fun h=>aeg
  have hc:bk o.case=true:=jM F.case aas;rw[uv hs.asc]at hno;refine {hs with asc:= ?_,ncases:= ?_,case:= ?_,ver:=vk}
  ·exact Fh hs.asc (iP s ⟨o.case,o.subj,jb,[],[]⟩ o.subj [110,101,119]) hno
  ·grind
  ·intro c h
   rcases Mn h with rfl|h
   ·exact⟨hc,F.subj,by simp[iP,ou],.nil,aev,fun f h=>abt,aev,aev,fun x h=>by
     simp only[iP,List.nil_append,List.mem_singleton]at h;subst h;exact⟨F.subj,t64⟩⟩
   ·exact hs.case c h
 ·simp only[k1,if_false]at hr hok⊢
  by_cases k3:o.kind=3
  ·have hk:2≤o.kind∧o.kind≤4:=by omega
   simp only[hk,and_self,if_true]at hr;simp only[k3,if_true];have e2:¬(o.kind=2∨o.kind=6):=aar;simp only[k3,if_true,show¬((3:Int)=2∨(3:Int)=6) by decide,if_false,Bool.and_eq_true,Bool.not_eq_true']at hok
   have hth:bW s.cases o.case=true:=by
    unfold bV at hr
    grind
   unfold bV at hr;rw[hth]at hr;simp only[Bool.true_eq_false,if_false,k3,true_and]at hr;obtain⟨hm,hid⟩:=o8 hs.asc hth;have hlt:=jc hth;have hce:br s.cases o.case=s.cases[findD s.cases o.case]:=by
    simp_all [br,if_pos]
   rw[hce]at hr hm;generalize hcc:s.cases[findD s.cases o.case]=c at hr hm;have hc:=hs.case c hm;have h16:¬(c.fields.length≥16∧eqV (dX c.fields o.field) ax=true):=fun h=>by simp[h.1,h.2]at hr
   rw[if_neg h16]at hr;have hlg:¬c.log.length≥256:=fun h=>aeg
   have hnf:bk o.field=true:=jM F.field aas;have hvz:eqV o.val ax=false:=hok.2;have hv:bF o.val=true:=F.val.resolve_left aas;refine {hs with asc:= ?_,ncases:= ?_,case:= ?_,ver:=vk}
   ·exact AO (jO fun x=>rfl) hs.asc
   ·simpa using hs.ncases
   ·intro d hd
    rcases mem_modify hd with hd|⟨hi,rfl⟩
    ·exact hs.case d hd
    ·rw[hcc]
     have hany:=Ou (fun f hf=>(hc.field f hf).2.2) o.field
     have hlen:=Ay (v:=o.val) (name:=o.field) hc.asc;refine⟨hc.id,hc.owner,hc.state,Ax hc.asc, ?_, ?_,aev, ?_, ?_⟩
     ·simp only[iP]
      rw[hlen,hany];have:=hc.nfields;cases he:eqV (dX c.fields o.field) ax
      ·simp;omega
      ·rw[he]at h16;simp at h16⊢;omega
     ·intro f hf
      rcases uA hf with rfl|hf
      ·grind
      ·exact hc.field f hf
     ·grind [iP,aal,List.length_singleton]
     ·intro x hx
      exact afy
  ·simp only[k3,if_false]at hok⊢
   by_cases k4:o.kind=4
   ·have hk:2≤o.kind∧o.kind≤4:=by omega
    simp only[hk,and_self,if_true]at hr;simp only[k4,if_true];have hth:bW s.cases o.case=true:=by
     unfold bV at hr
     grind
    unfold bV at hr;rw[hth]at hr;simp only[Bool.true_eq_false,if_false,k4]at hr;obtain⟨hm,hid⟩:=o8 hs.asc hth;have hlt:=jc hth;have hce:br s.cases o.case=s.cases[findD s.cases o.case]:=by
     simp_all [br,if_pos]
    rw[hce]at hr hm;generalize hcc:s.cases[findD s.cases o.case]=c at hr hm;have hc:=hs.case c hm;simp only[show¬((4:Int)=3) by decide,false_and,if_false,show((4:Int)≠2) by decide,ne_eq,not_false_eq_true,true_and,false_or]at hr
    have hlg:¬c.log.length≥256:=fun h=>aeg
    rw[if_neg hlg]at hr;have hfo:lO c.state o.to=true:=by
     grind
    refine {hs with asc:= ?_,ncases:= ?_,case:= ?_,ver:=vk}
    ·exact AO (jO fun x=>rfl) hs.asc
    ·simpa using hs.ncases
    ·intro d hd
     rcases mem_modify hd with hd|⟨hi,rfl⟩
     ·exact hs.case d hd
     ·rw[hcc]
      refine⟨hc.id,hc.owner,xd hfo,hc.asc,hc.nfields,hc.field,aev, ?_, ?_⟩
      ·grind [iP,aal,List.length_singleton]
      ·intro x hx
       exact afy
   ·simp only[k4,if_false]at hok⊢
    by_cases k5:o.kind=5
    ·simp only[k5,if_true]
     refine {hs with nrev:= ?_,ver:=vk}
     simpa using hs.nrev
    ·simp only[k5,if_false]at hok⊢
     by_cases k6:o.kind=6
     ·have hk:¬(2≤o.kind∧o.kind≤4):=by omega
      simp only[k6,if_true]at hr;simp only[k6,if_true];simp only[k6,or_true,if_true,Bool.and_eq_true]at hok;have hc:bk o.case=true:=jM F.case aas;have hfd:bk o.field=true:=jM F.field aas;cases hh:xk s.roles ⟨o.case,o.field⟩with
      |true=>simp only[if_true];exact {hs with ver:=vk}
      |false=>
       rw[hh]at hr;have hlt:¬s.roles.length≥64:=fun h=>aeg
       simp only[Bool.false_eq_true,if_false];refine {hs with roles:= ?_,role:= ?_,ver:=vk}
       ·grind
       ·intro r h
        rcases List.mem_append.1 h with h|h
        ·exact hs.role r h
        grind
     ·simp only[k6,if_false]
      by_cases k7:o.kind=7
      ·simp only[k7,if_true]
       by_cases hp:(aO o.text).2.1=0
       ·simp only[hp,if_true]
        have hr0:fY (aO o.text).1=0:=by
         grind [CP,absurd]
        refine {hs with pol:=hr0,ver:= ?_}
        have:=hs.ver;constructor
        ·grind
        grind
       ·simp only[hp,if_false]
        exact {hs with ver:=vk}
      ·simp only[k7,if_false]
       by_cases k8:o.kind=8
       ·simp only[k8,if_true]
        have hk:¬(2≤o.kind∧o.kind≤4):=aar;simp only[k8,if_true]at hr;have hlt:¬s.tick>1099511627776 - o.review:=fun h=>aeg
        simp only[k8,show¬((8:Int)=2∨(8:Int)=6) by decide,if_false,if_true,Bool.and_eq_true,decide_eq_true_eq]at hok
        refine {hs with tick:= ?_,ver:=vk}
        have:=hs.tick;constructor
        ·grind
        grind
       ·simp only[k8,if_false]
        exact {hs with ver:=vk}
theorem ov{k:Nat}{s:an}(o:OpD)(hs:cV k s):cV (k+1) (dI aO s o):=by
 unfold dI
 by_cases h:bI s o=0
 ·simp_all [if_pos,KO]
 ·rw[if_neg h]
  exact {hs with ver:=⟨hs.ver.1,by have:=hs.ver.2;omega⟩}
end Go.Bf
