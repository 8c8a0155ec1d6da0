/- The law TopModel,TopReplay: pack 7 of its texts. -/
import Derived.Test.YtokahfmoollblaaGreatDoorPk1
import Derived.Test.YtokahfmoollblaaGreatDoorPk2
import Derived.Test.YtokahfmoollblaaGreatDoorPk3
import Derived.Test.YtokahfmoollblaaGreatDoorPk4
import Derived.Test.YtokahfmoollblaaGreatDoorPk5
import Derived.Test.YtokahfmoollblaaGreatDoorPk6
set_option linter.unusedSimpArgs false
set_option linter.unusedVariables false
set_option maxRecDepth 100000
namespace Go.Bf
open Go Go.Ab
def dD(s:Txt):Txt×Txt:=(s.takeWhile (fun c=> !(c==32)),(s.dropWhile (fun c=> !(c==32))).drop 1)
theorem index_none:∀s:Txt,Lib.indexByte s 32= -1→s.takeWhile (fun c=> !(c==32))=s∧s.dropWhile (fun c=> !(c==32))= []
 | [],_=>aeR
 |b::l,h=>by
  unfold Lib.indexByte at h
  by_cases e:(b==32)=true
  ·grind
  ·rw[if_neg e]at h
   by_cases e1:(Lib.indexByte l 32== -1)=true
   ·have:=index_none l aeL
    simp[List.takeWhile,List.dropWhile,e,this]
   ·rw[if_neg e1]at h
    have:=index_ge l
    grind
where
 index_ge:∀l:Txt, -1≤Lib.indexByte l 32
  | []=>aeO
  |b::l=>by
   have:=index_ge l;unfold Lib.indexByte
   grind
theorem yV:∀s:Txt,Lib.indexByte s 32≠ -1→∃i:Nat,Lib.indexByte s 32=i∧i<s.length∧s.take i=s.takeWhile (fun c=> !(c==32))∧s.drop (i+1)=(s.dropWhile (fun c=> !(c==32))).drop 1
 | [],h=>(h rfl).elim
 |b::l,h=>by
  unfold Lib.indexByte at h⊢
  by_cases e:(b==32)=true
  ·rw[if_pos e]
   exact⟨0,rfl,aeR,aiQ,aiQ⟩
  ·rw[if_neg e]at h⊢
   by_cases e1:(Lib.indexByte l 32== -1)=true
   ·grind
   ·rw[if_neg e1]
    obtain⟨i,h1,h2,h3,h4⟩:=yV l aeL
    grind [List.takeWhile,List.dropWhile]
def CL(s:Txt):Int:=if s= []∨9<s.length∨s.head? =some 48∨s.all dgt=false then 0 else(mH s:Int)
def wP:Nat→Nat→Txt→Int
 |0,_,_=>0
 |f+1,k,w=>if iW (k:Int)==w then(k:Int)else wP f (k+1) w
def uj(w:Txt):Int:=wP 8 1 w
end Go.Bf
namespace Go.Proofs.YtokahfmoollblaaGreatDoor
open Go Go.Ab Go.Bf Tryz
theorem zgT(s:ByteArray)(c:Int)(w:World):
  Calls prog 235 #[.string s,.int .u8 c] w fun e w' =>e= .returned (.int .i64 (Lib.indexByte s.data.toList c.toNat.toUInt8))∧w' =w:=Any.stringslite_IndexByte {Tryz.IF with} s c w
theorem Ku(l:Txt)(c:UInt8)(h:Heap):ai prog 235 [.s l,.v (.int .u8 c.toNat)] h fun r h' =>r= .i (Lib.indexByte l c)∧h' =h:=by
 refine .lib ⟨_,func235,aeZ,rfl⟩ fun cx vs hs' g h1 h2=>?_
 obtain⟨u,v,rfl⟩:∃u v,vs= #[u,v]:=by
  match vs,h1 with
  |⟨[u,v]⟩,_=>exact⟨u,v,rfl⟩
 have e1:u= .string ⟨l.toArray⟩:=((h2 0 aeR).l8).1;have e2:v= .int .u8 c.toNat:=(h2 1 aeR).bR;subst e1;subst e2
 refine(zgT ⟨l.toArray⟩ c.toNat cx.w).mono ?_;exact ajY
theorem GR(l:Txt)(h:Heap):ai prog 198 [.s l,.s [32]] h fun r h' =>r= .i (Lib.indexByte l 32)∧h' =h:=by
 have hi:=Ku l 32 h;refine aeJ func198 143 [.tmp 4] fun hwf=>?_
 simp only[go_sem];cases d1:([32]==l)
 ·simp only[go_sem,d1]
  refine .of 0 rfl aeR ?_;simp only[go_sem,aK];refine hi.pthen ?_;exact ajd
 ·have:l= [32]:=(by grind: [32]=l).symm
  subst this;simp only[go_sem,d1];exact aeV
theorem Pg(s:Txt)(hs:s.length≤1000000)(h:Heap):ai prog 145 [.s s,.s [32]] h fun r h' =>∃b,r= .tup [.s (dD s).1,.s (dD s).2,.b b]∧h' =h:=by
 refine aeJ func145 23 [.tmp 4,.tmp 5,.tmp 6] fun hwf=>?_
 simp only[go_sem];refine(GR s h).pthen ?_
 by_cases hx:Lib.indexByte s 32= -1
 ·obtain⟨h1,h2⟩:=index_none s hx
  rw[hx];have d1:decide ((-1:Int)≥0)=false:=rfl;simp only[go_sem,d1];exact .same (.refl _) ⟨_,by simp[dD,h1,h2]<;>rfl,rfl⟩
 ·obtain⟨i,hi,hl,h1,h2⟩:=yV s hx
  rw[hi];have d1:decide ((i:Int)≥0)=true:=decide_eq_true aeK;have d2:decide ((0:Int)≤(i:Int))=true:=decide_eq_true aeK;have w1:IntKind.i64.wrap ((i:Int)+1)=((i+1:Nat):Int):=aeW;simp only[go_sem,d1,d2];refine⟨.of aeN,?_⟩;simp only[go_sem,w1];refine⟨aeK,aeK,aeK,aeK,aeK,aeK,.same (.refl _) ⟨true,?_,rfl⟩⟩;simp[nH,dD,←h1,←h2];rfl
theorem Qx(s:Txt)(hs:s.length≤1000000)(h:Heap):ai prog 85 [.s s,.s [32]] h fun r h' =>∃b,r= .tup [.s (dD s).1,.s (dD s).2,.b b]∧h' =h:=by
 refine aeJ func85 13 [.tmp 4,.tmp 5,.tmp 6] fun hwf=>?_
 simp only[go_sem];refine(Pg s hs h).mono fun r h' ⟨b,e1,e2⟩=>?_
 subst e1 e2;simp only[go_sem];exact .same (.refl _) ⟨b,rfl,rfl⟩
theorem mc(s:Txt)(hs:s.length≤1000000)(h:Heap):ai prog 34 [.s s] h fun r h' =>r= .tup [.s (dD s).1,.s (dD s).2]∧h' =h:=by
 refine aeJ func34 15 [.tmp 2,.tmp 3] fun hwf=>?_
 simp only[go_sem];refine(Qx s hs h).mono fun r h' ⟨b,e1,e2⟩=>?_
 subst e1 e2;exact ajd
theorem P8(s:Txt)(h:Heap):ai prog 86 [.s s,.s [33]] h fun r h' =>r= .b (s.take 1== [33])∧h' =h:=by
 refine aeJ func86 18 [.tmp 4] fun hwf=>?_
 by_cases hl:s.length=0
 ·have:s= []:=List.length_eq_zero_iff.1 hl
  subst this;simp only[go_sem,List.length_nil,show decide ((0:Int)≥1)=false from rfl,show decide ((1:Int)≤0)=false from rfl]
  exact aeV
 ·have d1:decide ((s.length:Int)≥1)=true:=decide_eq_true aeK
  have d2:decide ((1:Int)≤(s.length:Int))=true:=decide_eq_true aeK;simp only[go_sem,d1,d2];exact⟨aeK,aeK,aeK,.same (.refl _) ⟨rfl,rfl⟩⟩
theorem Tw(s:Txt)(h:Heap):ai prog 35 [.s s,.s [33]] h fun r h' =>r= .b (s.take 1== [33])∧h' =h:=by
 refine aeJ func35 8 [.tmp 4] fun hwf=>?_
 simp only[go_sem];refine(P8 s h).pthen ?_;exact ajd
theorem PN(w:Txt)(h:Heap):ai prog 36 [.s w] h fun r h' =>r= .i (uj w)∧h' =h:=by
 refine aeJ func36 13 [.tmp 2] fun hwf=>?_
 simp only[go_sem];refine .intro (fun m ρ h' =>h' =h∧∃k:Nat,k+m=9∧wP m k w=uj w∧lk ρ 0=some (.s w)∧lk ρ 3=some (.i k)) 8 ?_ ?_
 ·refine⟨rfl,1,rfl,rfl,?_,?_⟩<;>simp only[go_sem]
  all_goals rfl
 rintro m ρ h' ⟨rfl,k,hk,hf,r0,r3⟩
 rcases m with _|m
 ·have d1:decide ((k:Int)≤8)=false:=decide_eq_false aeK
  simp only[go_sem,r3,d1];exact .same (.refl _) ⟨by rw[←hf];rfl,rfl⟩
 ·have d1:decide ((k:Int)≤8)=true:=decide_eq_true aeK
  have w1:IntKind.i64.wrap ((k:Int)+1)=((k+1:Nat):Int):=aeW;unfold wP at hf;simp only[go_sem,r0,r3,d1];refine(vb (k:Int) ⟨aeK,aeK⟩ _).pthen ?_;cases d2:(iW (k:Int)==w)
  ·rw[d2]at hf
   simp only[go_sem,r0,r3,d2,w1];refine⟨m,aeK,rfl,k+1,aeK,hf,?_,?_⟩<;>simp only[go_sem,r0]
  ·rw[d2]at hf
   simp only[go_sem,r0,r3,d2];exact .same (.refl _) ⟨by rw[←hf];rfl,rfl⟩
theorem Ie(s:Txt)(h:∀c∈s,dgt c=true):mH s<10 ^ s.length:=by
 have go:∀(l:Txt) (n:Nat),(∀c∈l,dgt c=true)→l.foldl (fun n c=>n*10+(c.toNat - 48)) n<(n+1)*10 ^ l.length:=by
  intro l
  induction l with
  |nil=>simp
  |cons c l ih=>
   intro n hc;have h1:=ih (n*10+(c.toNat - 48)) fun d hd=>hc d aeL
   have h2:c.toNat - 48≤9:=by have:=hc c aeR;simp[dgt]at this;omega
   have h3:(n*10+(c.toNat - 48)+1)*10 ^ l.length≤(n*10+10)*10 ^ l.length:=Nat.mul_le_mul_right _ aeK;simp only[List.foldl_cons,List.length_cons,Nat.pow_succ];have h4:(n*10+10)*10 ^ l.length=(n+1)*(10 ^ l.length*10):=aeL;omega
 have:=go s 0 h;simpa[mH]using this
theorem LZ(s:Txt)(h0:s≠ [])(h9:s.length≤9)(hd:s.all dgt=true)(h:Heap):ai prog 88 [.s s] h fun r h' =>r= .tup [.i (mH s:Int),.v .nilIface]∧h' =h:=by
 refine .lib ⟨_,func88,aeZ,rfl⟩ fun cx vs hs' g h1 h2=>?_
 obtain⟨u,rfl⟩:∃u,vs= #[u]:=by
  match vs,h1 with
  |⟨[u]⟩,_=>exact⟨u,rfl⟩
 have e1:u= .string ⟨s.toArray⟩:=((h2 0 aeR).l8).1;subst e1;refine(Cm false s h0 (fun c hc=>List.all_eq_true.1 hd c hc) aeK ⟨s.toArray⟩ rfl ?_ cx.w).mono ?_
 ·have:=Ie s (fun c hc=>List.all_eq_true.1 hd c hc)
  have h2:10 ^ s.length≤10 ^ 9:=Nat.pow_le_pow_right aeO h9;unfold inI;omega
 exact ajR
theorem zq(s:Txt)(hs:s.length≤1000000)(h:Heap):ai prog 38 [.s s] h fun r h' =>r= .i (CL s)∧h' =h:=by
 refine aeJ func38 40 [.tmp 2] fun hwf=>?_
 by_cases h0:s= []
 ·subst h0
  exact ajd
 have d0:(s== [])=false:=aeL
 by_cases h9:9<s.length
 ·have d1:decide ((s.length:Int)>9)=true:=decide_eq_true aeK
  have d2:decide ((9:Int)<(s.length:Int))=true:=decide_eq_true aeK;simp only[go_sem,d0,d1,d2];exact .same (.refl _) ⟨by simp[CL,h9]<;>rfl,rfl⟩
 have d1:decide ((s.length:Int)>9)=false:=decide_eq_false aeK;have d2:decide ((9:Int)<(s.length:Int))=false:=decide_eq_false aeK;have hpos:0<s.length:=List.length_pos_iff.2 h0;have hh:s.head? =some s[0]:=by grind [List.head?_eq_getElem?,List.getElem?_eq_getElem]
 have q48:∀c:UInt8,((c.toNat:Int)==48)=decide (c=48):=fun c=>by
  by_cases e:c=48
  ·simp_all
  ·rw[decide_eq_false e]
   exact beq_eq_false_iff_ne.mpr fun h=>e (UInt8.toNat_inj.1 aeL)
 simp only[go_sem,d0,d1,d2];refine .of 0 rfl hpos ?_;simp only[go_sem,aK,q48]
 by_cases hz:s[0]=48
 ·simp only[go_sem,hz,decide_true]
  exact .same (.refl _) ⟨by rw[CL,if_pos (.inr (.inr (.inl aeL)))];rfl,rfl⟩
 simp only[go_sem,decide_eq_false hz];refine .intro (fun m ρ h' =>h' =h∧∃i:Nat,(s.take i).all dgt=true∧i≤s.length∧m=s.length - i∧lk ρ 0=some (.s s)∧lk ρ 19=some (.i s.length)∧lk ρ 20=some (.i i)) s.length ?_ ?_
 ·refine⟨rfl,0,rfl,aeK,rfl,?_,?_,?_⟩<;>simp only[go_sem]
  all_goals rfl
 rintro m ρ h' ⟨rfl,i,ha,hi,rfl,r0,r19,r20⟩
 by_cases hlt:i<s.length
 ·have t1:decide ((i:Int)<(s.length:Int))=true:=decide_eq_true aeK
  have w1:IntKind.i64.wrap ((i:Int)+1)=((i+1:Nat):Int):=aeW;have bad:dgt s[i]=false→CL s=0:=fun e=>by
   rw[CL,if_pos]
   grind
  simp only[go_sem,r0,r19,r20,t1];refine .of i rfl hlt ?_;simp only[go_sem,aK];cases q1:decide ((s[i].toNat:Int)<48)
  ·simp only[go_sem,r0,q1]
   refine .of i rfl hlt ?_;cases q2:decide ((57:Int)<(s[i].toNat:Int))
   ·simp only[go_sem,aK,q2,r20,w1]
    have hg:dgt s[i]=true:=by grind [aeD,dgt]
    refine⟨_,?_,rfl,i+1,by grind [List.take_succ_eq_append_getElem],aeK,rfl,?_,?_,?_⟩
    ·omega
    all_goals simp only[go_sem,r0,r19]
   ·simp only[go_sem,aK,q2]
    exact .same (.refl _) ⟨by rw[bad (by have:=aeC q2;simp[dgt];omega)];rfl,rfl⟩
  ·simp only[go_sem,q1]
   exact .same (.refl _) ⟨by rw[bad (by have:=aeC q1;simp[dgt];omega)];rfl,rfl⟩
 ·obtain rfl:i=s.length:=by omega
  have t1:decide ((s.length:Int)<(s.length:Int))=false:=decide_eq_false aeK;rw[List.take_length]at ha;simp only[go_sem,r0,r19,r20,t1];refine(LZ s h0 aeK ha _).pthen ?_;simp only[go_sem];exact .same (.refl _) ⟨by rw[CL,if_neg aeL];rfl,rfl⟩
end Go.Proofs.YtokahfmoollblaaGreatDoor
namespace Go.Bf
open Go Go.Ab
def AN(t:qv):bu×Bool:=
 if t.kind=2 then(⟨2,t.n,t.s⟩,true)else if t.kind=3 then(⟨4,t.n,t.s⟩,true)else if t.kind=4 then(⟨5,t.n,t.s⟩,true)else if t.kind=5 then(⟨3,t.n,t.s⟩,true)
 else if t.kind=1 then(if t.s= [116,114,117,101]then(⟨1,1,[]⟩,true)else if t.s= [102,97,108,115,101]then(⟨1,0,[]⟩,true)else(aq,false))else(aq,false)
def fW(s:Txt):bu×Bool:=match pO s with
 |.bad _ _=>(aq,false)
 |.ok ts=>if ts.length=2 then AN (ts.headD ⟨0,0,0,[]⟩)else(aq,false)
end Go.Bf
namespace Go.Proofs.YtokahfmoollblaaGreatDoor
open Go Go.Ab Go.Bf Tryz
theorem GU(s:Txt)(h:Heap)(he:iB h):ai prog 37 [.s s] h fun r h' =>r= .tup [aS (fW s).1,.v (.bool (fW s).2)]∧h' =h:=by
 refine aeJ func37 60 [.cell 2 44,.tmp 3] fun hwf=>?_
 simp only[go_sem];intro i2 h2;simp only[go_sem];refine(ym s _ (he.sub (.aj h2))).pthen ?_;have bad:fW s=(aq,false)→∀(r:AV) (h' :Heap),r= .tup [aS aq,.b false]∧h' =h→r= .tup [aS (fW s).1,.v (.bool (fW s).2)]∧h' =h:=fun e r h' he=>aeL
 cases el:pO s with
 |bad e a=>have e1:=uk el;have d1:(e !=0)=true:=aeL;simp only[go_sem,GQ,d1,ah];exact .mk _ (.refl _) (.aj h2) (bad (by grind [fW]) _ _ ⟨rfl,rfl⟩)
 |ok ts=>
  by_cases hl:ts.length=2
  case neg=>have d2:((ts.length:Int) !=2)=true:=bne_iff_ne.mpr aeK;simp only[go_sem,GQ,aeA,d2,ah];exact .mk _ (.refl _) (.aj h2) (bad (by grind [fW]) _ _ ⟨rfl,rfl⟩)
  have d2:((ts.length:Int) !=2)=false:=aeL;have ix:=fun K=>eu.eq (xs:=ts.map fH) (sz:=4) 0 aeL aeU K
  rw[aeB]at ix;have eh:ts.headD ⟨0,0,0,[]⟩=ts[0]:=by
   cases ts with
   |nil=>grind
   |cons a b=>rfl
  have el2:fW s=AN ts[0]:=by grind [fW]
  obtain⟨t,et⟩:∃t,ts[0]=t:=⟨_,rfl⟩;rw[et]at ix el2;simp only[fH,Int.natCast_zero]at ix;simp only[go_sem,GQ,aeA,d2];refine .last cW [0,1,2,3,4,5,6,7,8,9] (fun _ _ e=>afb) aeN rfl aeN rfl ?_
  simp only[go_sem,ix,and_self,reduceIte];intro i7 h7;refine⟨fun _ _ e=>afb,?_⟩
  have n72:=aH h7;have k7:=aB h7;have hs7:∀a b c,Ab.Sub h (upd (upd (upd h i2 a) i7 b) i2 c):=fun a b c=>(((Sub.refl h).put h2 a).put k7 b).put h2 c
  simp only[go_sem,ix,and_self,reduceIte,ah];cases e2:(t.kind==2)
  case true=>simp only[go_sem,ah,ak,n72,n72.symm];exact .mk _ (.refl _) aeL ⟨by rw[el2,AN,if_pos aeL];rfl,rfl⟩
  cases e3:(t.kind==3)
  case true=>simp only[go_sem,e3,ah,ak,n72,n72.symm];exact .mk _ (.refl _) aeL ⟨by rw[el2,AN,if_neg aeL,if_pos aeL];rfl,rfl⟩
  cases e4:(t.kind==4)
  case true=>simp only[go_sem,e3,e4,ah,ak,n72,n72.symm];exact .mk _ (.refl _) aeL ⟨by rw[el2,AN,if_neg aeL,if_neg aeL,if_pos aeL];rfl,rfl⟩
  cases e5:(t.kind==5)
  case true=>simp only[go_sem,e3,e4,e5,ah,ak,n72,n72.symm];exact .mk _ (.refl _) aeL ⟨by rw[el2,AN,if_neg aeL,if_neg aeL,if_neg aeL,if_pos aeL];rfl,rfl⟩
  cases e1:(t.kind==1)
  ·simp only[go_sem,e3,e4,e5,e1,ah,ak,n72,n72.symm]
   exact .mk _ (.refl _) aeL ⟨by rw[el2,AN,if_neg aeL,if_neg aeL,if_neg aeL,if_neg aeL,if_neg aeL];rfl,rfl⟩
  have eT:AN t=if t.s= [116,114,117,101]then(⟨1,1,[]⟩,true)else if t.s= [102,97,108,115,101]then(⟨1,0,[]⟩,true)else(aq,false):=by rw[AN,if_neg aeL,if_neg aeL,if_neg aeL,if_neg aeL,if_pos aeL]
  rw[eT]at el2;cases f1:(t.s== [116,114,117,101])
  ·cases f2:(t.s== [102,97,108,115,101])
   ·simp only[go_sem,e3,e4,e5,e1,f1,f2,ah,ak,n72,n72.symm]
    exact .mk _ (.refl _) aeL ⟨by rw[el2,if_neg aeL,if_neg aeL];rfl,rfl⟩
   ·simp only[go_sem,e3,e4,e5,e1,f1,f2,ah,ak,n72,n72.symm]
    exact .mk _ (.refl _) aeL ⟨by rw[el2,if_neg aeL,if_pos aeL];rfl,rfl⟩
  ·simp only[go_sem,e3,e4,e5,e1,f1,ah,ak,n72,n72.symm]
   exact .mk _ (.refl _) aeL ⟨by rw[el2,if_pos aeL];rfl,rfl⟩
end Go.Proofs.YtokahfmoollblaaGreatDoor
namespace Go.Bf
open Go Go.Ab Go.Proofs.YtokahfmoollblaaGreatDoor
def opL(k:Int)(subj reason:Txt)(g:Bool)(s:Txt):OpD×Bool:=
 if k=1 then(⟨k,subj,s,[],[],aq,0,[],reason,g⟩,true)
 else if k=2∨k=6 then(⟨k,subj,(dD s).1,(dD s).2,[],aq,0,[],reason,g⟩,true)
 else if k=3 then(⟨k,subj,(dD s).1,(dD (dD s).2).1,[],(fW (dD (dD s).2).2).1,0,[],reason,g⟩,(fW (dD (dD s).2).2).2)
 else if k=4 then(⟨k,subj,(dD s).1,[],(dD s).2,aq,0,[],reason,g⟩,true)
 else if k=5∨k=8 then(⟨k,subj,[],[],[],aq,CL s,[],reason,g⟩,true)
 else if k=7 then(⟨k,subj,[],[],[],aq,0,s,reason,g⟩,true)
 else(⟨k,subj,[],[],[],aq,0,[],reason,g⟩,true)
def oC(s:Txt):Bool×Txt×Txt:=if s.take 1== [33]then(true,(dD (s.drop 1)).1,(dD (s.drop 1)).2)else(false,[],s)
def KS(s:Txt):OpD×Bool:=
 let g:=oC (dD s).2
 opL (uj (dD g.2.2).1) (dD s).1 g.2.1 g.1 (dD g.2.2).2
def fV(s:Txt):Option OpD:=if(KS s).2 && dH (KS s).1 then some (KS s).1 else none
theorem lB(s:Txt):(dD s).1.length≤s.length∧(dD s).2.length≤s.length:=by grind [List.takeWhile_prefix,List.dropWhile_suffix,dD,List.length_drop]
theorem wQ(w:Txt):∀f k:Nat,0≤wP f k w∧wP f k w≤(f:Int)+k - 1∨wP f k w=0
 |0,k=> .inr rfl
 |f+1,k=>by unfold wP;have:=wQ w f (k+1);split<;>omega
theorem wO(w:Txt):0≤uj w∧uj w≤8:=by have:=wQ w 8 1;unfold uj;omega
end Go.Bf
namespace Go.Proofs.YtokahfmoollblaaGreatDoor
open Go Go.Ab Go.Bf Tryz
theorem jq.join{P:Program}{U:TypeId→TI}{n:Nat}{a b:Code}{K:Exit→Env→Heap→Prop}{ρ:Env}{h:Heap}{y:AV}(I:Env→Heap→Prop)(hK:∀ρ' H',I ρ' H'→K .normal ρ' H')(hc:∀K' :Exit→Env→Heap→Prop,(∀ρ' H',I ρ' H'→K' .normal ρ' H')→jq P U n a b ρ h K' y):jq P U n a b ρ h K y:=hc K hK
def Bq(s:Txt):AV:=.tup [opA ((fV s).getD ru),.v (.bool (fV s).isSome)]
def FH:List AV:=[.i 0,.s [],.s [],.s [],.s [],.i 0,.i 0,.s [],.i 0,.s [],.s [],.b false]
theorem zf(s:Txt)(hs:s.length≤900000)(h:Heap)(he:iB h):ai prog 9 [.s s] h fun r h' =>r=Bq s∧h' =h:=by
 obtain⟨l1,l2⟩:=lB s;obtain⟨⟨subj,s1⟩,e0⟩:∃x,dD s=x:=⟨_,rfl⟩;rw[e0]at l1 l2;simp only at l1 l2;refine aeJ func9 95 [.cell 2 46,.tmp 3] fun hwf=>?_
 simp only[go_sem];intro i2 h2;simp only[go_sem];intro i4 h4;have n42:=aH h4;have k4:=aB h4;simp only[go_sem];refine(mc s aeK _).pthen ?_;rw[e0];simp only[go_sem,ah,eD];refine(Tw s1 _).pthen ?_;simp only[go_sem];obtain⟨⟨g,rs,s2⟩,eg⟩:∃x,oC s1=x:=⟨_,rfl⟩;have hraw:KS s=opL (uj (dD s2).1) subj rs g (dD s2).2:=by simp only[KS,e0,eg]
 have l3:s2.length≤900000:=by have h3:=lB (s1.drop 1);rw[List.length_drop]at h3;unfold oC at eg;split at eg<;>(injection eg with _ eg;injection eg with _ eg;subst eg;omega)
 refine jq.join (fun ρ H=>lk ρ 0=some (.s s2)∧lk ρ 2=some (.ptr i2 0)∧lk ρ 4=some (.ptr i4 0)∧lk ρ 6=some (.b true)∧H i4=some (.obj [.i 0,.s subj,.s [],.s [],.s [],.i 0,.i 0,.s [],.i 0,.s [],.s rs,.b g] 46)∧H i2=some (.obj FH 46)∧Ab.Sub h H) ?_ fun K1 hK1=>?_
 rotate_left
 ·cases eh:(s1.take 1== [33])
  ·have eg2:oC s1=(false,[],s1):=by unfold oC;rw[if_neg (by simp[eh])]
   rw[eg2]at eg;injection eg with eg1 eg
   injection eg with eg3 eg
   subst eg1 eg3 eg;simp only[go_sem,eh];exact ake
  ·have eg2:oC s1=(true,(dD (s1.drop 1)).1,(dD (s1.drop 1)).2):=by unfold oC;rw[if_pos eh]
   rw[eg2]at eg;injection eg with eg1 eg
   injection eg with eg3 eg
   have hne:1≤s1.length:=by
    rcases s1 with _|⟨c,r⟩
    ·cases eh
    ·simp
   simp only[go_sem,eh,ah,eD];refine⟨aeK,aeK,aeK,?_⟩;rw[show nH s1 1 (s1.length:Int) (some (Operand.const (Value.int .i64 1))).isSome none.isSome=s1.drop 1 from by simp[nH]]
   refine(mc (s1.drop 1) agm _).pthen ?_;simp only[go_sem,ah,eD];subst eg1 eg3 eg;exact ake
 rintro ρ H ⟨r0,r2,r4,r6,f4,f2,hsH⟩
 simp only[go_sem,r0];refine(mc s2 aeK _).pthen ?_;obtain⟨⟨w,s3⟩,e3⟩:∃x,dD s2=x:=⟨_,rfl⟩;rw[e3]at hraw;simp only at hraw;rw[e3];simp only[go_sem];refine(PN w _).pthen ?_;obtain⟨k,ek⟩:∃x,uj w=x:=⟨_,rfl⟩;rw[ek]at hraw;simp only[go_sem,ek,r4,f4];have hk:=ek▸wO w;obtain⟨o,ok,eo⟩:∃o ok,opL k subj rs g s3=(o,ok):=⟨_,_,rfl⟩;rw[eo]at hraw;have n24:i2≠i4:=n42.symm;have hf2:∀c,Ab.Sub h (upd H i4 c):=fun c=>hsH.put k4 c
 have l4:=lB s2;rw[e3]at l4;have l5:=lB s3;have l6:=lB (dD s3).2;simp only at l4;refine jq.join (fun ρ H=>lk ρ 2=some (.ptr i2 0)∧lk ρ 4=some (.ptr i4 0)∧lk ρ 6=some (.b ok)∧H i4=some (.obj [.i o.kind,.s o.subj,.s o.case,.s o.field,.s o.to,.i o.val.kind,.i o.val.n,.s o.val.s,.i o.review,.s o.text,.s o.reason,.b o.glass] 46)∧H i2=some (.obj FH 46)∧Ab.Sub h H) ?_ fun K2 hK2=>?_
 rotate_left
 ·have hc:k=0∨k=1∨k=2∨k=3∨k=4∨k=5∨k=6∨k=7∨k=8:=by omega
  rcases hc with rfl|rfl|rfl|rfl|rfl|rfl|rfl|rfl|rfl
  ·exact ajr
  ·exact ajr
  ·exact ajc
  ·simp[opL]at eo
   obtain⟨eo,rfl⟩:=eo;subst eo;simp only[go_sem,r0,r4];refine(mc s3 aeK _).pthen ?_;simp only[go_sem,r0,r4,ah,eD];refine(mc (dD s3).2 aeK _).pthen ?_;simp only[go_sem,r0,r4,ah,eD];refine(GU (dD (dD s3).2).2 _ (he.sub (hf2 _))).pthen ?_;simp only[go_sem,aS,r0,r4,ah,eD];exact hK2 _ _ ⟨afj,afk,afl,by rw[ah],afS,hf2 _⟩
  ·exact ajc
  ·simp[opL]at eo
   obtain⟨eo,rfl⟩:=eo;subst eo;simp only[go_sem,r0,r4];refine(zq s3 aeK _).pthen ?_;exact ajg
  ·exact ajc
  ·exact ajr
  ·simp[opL]at eo
   obtain⟨eo,rfl⟩:=eo;subst eo;simp only[go_sem,r0,r4];refine(zq s3 aeK _).pthen ?_;exact ajg
 rintro ρ3 H3 ⟨q2,q4,q6,g4,g2,hsH3⟩
 have bad:fV s=none→Bq s= .tup [opA ru,.b false]:=fun e=>by unfold Bq;rw[e];rfl
 cases ok
 ·simp only[go_sem,q2,q4,q6,g4,g2,FH]
  exact .mk _ (.refl _) (hsH3.put h2 _) ⟨(bad (by unfold fV;rw[hraw];rfl)).symm,rfl⟩
 simp only[go_sem,q2,q4,q6,g4];have hfo:=Cw o H3;rw[opA]at hfo;refine hfo.pthen ?_;cases ef:dH o
 ·simp only[go_sem,q2,q4,q6,g4,g2,FH]
  exact .mk _ (.refl _) (hsH3.put h2 _) ⟨(bad (by unfold fV;rw[hraw];simp[ef])).symm,rfl⟩
 ·simp only[go_sem,q2,q4,q6,g4,g2,FH]
  exact .mk _ (.refl _) (hsH3.put h2 _) ⟨by unfold Bq fV;rw[hraw];simp only[ef,Bool.and_self,if_true];rfl,rfl⟩
end Go.Proofs.YtokahfmoollblaaGreatDoor
namespace Go.Bf
open Go Go.Ab Go.Proofs.YtokahfmoollblaaGreatDoor
def Bw(m:aT):Txt:=
 if m=naM then [78,111,116,65,112,112,108,105,99,97,98,108,101]else if m=bg then [80,101,114,109,105,116]else if m=cJ then [68,101,110,121]
 else if m=wK then [73,110,100,101,116,101,114,109,105,110,97,116,101,123,80,125]else if m=wJ then [73,110,100,101,116,101,114,109,105,110,97,116,101,123,68,125]
 else if m=nq then [73,110,100,101,116,101,114,109,105,110,97,116,101,123,68,80,125]else []
def gr(r:iG):Txt:=
 if r.err=12∧r.mark≠bg then [100,101,110,105,101,100,32]++Bw r.mark
 else if r.err≠0∧0<r.at_ then [101,114,114,111,114,32]++Lib.itoa r.err++ [32,97,116,32]++Lib.itoa r.at_
 else if r.err≠0 then [101,114,114,111,114,32]++Lib.itoa r.err
 else if r.glass then [103,108,97,115,115]else if r.hidden then [104,105,100,100,101,110]
 else if r.val.kind=0∧r.val.n=0∧r.val.s= []then [111,107]else [111,107,32]++Ad r.val
theorem KD(m:aT):(Bw m).length≤20:=by
 unfold Bw
 repeat' split
 all_goals decide
theorem QT(v:bu)(h:inV v):(Ad v).length≤194:=by
 unfold Ad;split
 ·rename_i hv
  exact QU hv h.1 h.2
 simp
end Go.Bf
namespace Go.Proofs.YtokahfmoollblaaGreatDoor
open Go Go.Ab Go.Bf Tryz
theorem Nl(m:aT)(hmm:M9 m)(h:Heap):ai prog 52 [aO m] h fun r h' =>r= .s (Bw m)∧h' =h:=by
 obtain⟨n1,n2,n3,n4,n5,n6⟩:=nb hmm;refine aeJ func52 16 [.tmp 2] fun hwf=>?_
 unfold Bw;cases d1:(m==naM)
 case true=>simp only[go_sem,aO,n1,d1];exact .same (.refl _) ⟨by rw[if_pos aeL];rfl,rfl⟩
 cases d2:(m==bg)
 case true=>simp only[go_sem,aO,n1,n2,d1,d2];exact .same (.refl _) ⟨by rw[if_neg aeL,if_pos aeL];rfl,rfl⟩
 cases d3:(m==cJ)
 case true=>simp only[go_sem,aO,n1,n2,n3,d1,d2,d3];exact .same (.refl _) ⟨by rw[if_neg aeL,if_neg aeL,if_pos aeL];rfl,rfl⟩
 cases d4:(m==wK)
 case true=>simp only[go_sem,aO,n1,n2,n3,n4,d1,d2,d3,d4];exact .same (.refl _) ⟨by rw[if_neg aeL,if_neg aeL,if_neg aeL,if_pos aeL];rfl,rfl⟩
 cases d5:(m==wJ)
 case true=>simp only[go_sem,aO,n1,n2,n3,n4,n5,d1,d2,d3,d4,d5];exact .same (.refl _) ⟨by rw[if_neg aeL,if_neg aeL,if_neg aeL,if_neg aeL,if_pos aeL];rfl,rfl⟩
 cases d6:(m==nq)
 case true=>simp only[go_sem,aO,n1,n2,n3,n4,n5,n6,d1,d2,d3,d4,d5,d6];exact .same (.refl _) ⟨by rw[if_neg aeL,if_neg aeL,if_neg aeL,if_neg aeL,if_neg aeL,if_pos aeL];rfl,rfl⟩
 simp only[go_sem,aO,n1,n2,n3,n4,n5,n6,d1,d2,d3,d4,d5,d6];exact .same (.refl _) ⟨by rw[if_neg aeL,if_neg aeL,if_neg aeL,if_neg aeL,if_neg aeL,if_neg aeL];rfl,rfl⟩
structure FN (r:iG):Prop where
 mark:M9 r.mark
 err: -9223372036854775808≤r.err∧r.err≤9223372036854775807
 at_: -9223372036854775808≤r.at_∧r.at_≤9223372036854775807
 val:inV r.val
theorem AZ(r:iG)(hr:FN r)(h:Heap)(ht:xy h):ai prog 11 [.agg (lp r)] h fun y h' =>y= .s (gr r)∧h' =h:=by
 have np:=(nb hr.mark).npe;have hl:lim=9223372036854775808:=rfl;have hi1:=Lib.itoa_length_le r.err hr.err.1 hr.err.2;have hi2:=Lib.itoa_length_le r.at_ hr.at_.1 hr.at_.2;have hnl:=KD r.mark;refine aeJ func11 57 [.tmp 2] fun hwf=>?_
 simp only[go_sem,lp];intro id hid;have ht2:∀b,xy (upd h id b):=fun b=>ht.sub (.aj hid)
 cases d1:(r.err==12)
 case true=>
  have e1:r.err=12:=aeL;cases d2:(r.mark==bg)
  case false=>simp only[go_sem,aO,np,d1,d2];refine(Nl r.mark hr.mark _).pthen ?_;have c1:0+7+(Bw r.mark).length<lim:=aeK;simp only[go_sem,c1];exact .mk _ (.refl _) (.aj hid) ⟨by unfold gr;rw[if_pos ⟨e1,aeL⟩];rfl,rfl⟩
  case true=>
   have d3:(r.err !=0)=true:=aeL;cases d4:decide (r.at_>0)
   ·simp only[go_sem,aO,np,d1,d2,d3,d4]
    exact ajN
   ·simp only[go_sem,aO,np,d1,d2,d3,d4]
    exact aji
 have e1:r.err≠12:=aeL;cases d3:(r.err !=0)
 case true=>
  cases d4:decide (r.at_>0)
  ·simp only[go_sem,d1,d3,d4]
   exact ajN
  ·simp only[go_sem,d1,d3,d4]
   exact aji
 have e0:r.err=0:=aeL;cases d5:r.glass
 case true=>simp only[go_sem,d1,d3,d5];exact .mk _ (.refl _) (.aj hid) ⟨by unfold gr;rw[if_neg aeL,if_neg aeL,if_neg aeL,if_pos d5];rfl,rfl⟩
 cases d6:r.hidden
 case true=>simp only[go_sem,d1,d3,d5,d6];exact .mk _ (.refl _) (.aj hid) ⟨by unfold gr;rw[if_neg aeL,if_neg aeL,if_neg aeL,if_neg aeL,if_pos d6];rfl,rfl⟩
 cases d7:(r.val.kind==0 && (r.val.n==0 && r.val.s== []))
 case true=>simp only[go_sem,d1,d3,d5,d6,d7];exact .mk _ (.refl _) (.aj hid) ⟨by unfold gr;rw[if_neg aeL,if_neg aeL,if_neg aeL,if_neg aeL,if_neg aeL,if_pos aeL];rfl,rfl⟩
 simp only[go_sem,d1,d3,d5,d6,d7];have hv:=fun H hH=>OF KQ r.val hr.val H hH
 simp only[aS]at hv;refine(hv _ (ht2 _)).pthen ?_;have c1:0+3+(Ad r.val).length<lim:=by have:=QT r.val hr.val;omega
 simp only[go_sem,c1];exact .mk _ (.refl _) (.aj hid) ⟨by unfold gr;rw[if_neg aeL,if_neg aeL,if_neg aeL,if_neg aeL,if_neg aeL,if_neg aeL];rfl,rfl⟩
end Go.Proofs.YtokahfmoollblaaGreatDoor
namespace Go.Bf
open Go Go.Ab Go.Proofs.YtokahfmoollblaaGreatDoor
def qq(e:cm)(d:D)(s:Txt):cm×D×Txt:=match fV s with
 |none=>(e,d,[119,104,97,116])
 |some o=>((doE e d o).1,(doE e d o).2.1,gr (doE e d o).2.2)
end Go.Bf
namespace Go.Proofs.YtokahfmoollblaaGreatDoor
open Go Go.Ab Go.Bf Tryz
theorem oh.line{h0 h:Heap}{x jid did:Nat}{e:cm}{d:D}{spl spj:List Nat}(w:oh h0 h x jid did e d spl spj)(s:Txt)(hl:s.length≤900000)(hps:e.ps.length≤1000000)(hlg:e.log.length≤1000000){k:Nat}(hG:gH k e.s)(hk:k≤1000)(her:iB h0)(ht:xy h0)(h64:∀o,fV s=some o→oN o)(hok:(qq e d s).2.1.ok)(hr:∀o,fV s=some o→FN (doE e d o).2.2):
  ai prog 12 [.ptr x 0,.s s] h fun r h' =>r= .s (qq e d s).2.2∧∃spl' spj',oh h0 h' x jid did (qq e d s).1 (qq e d s).2.1 spl' spj'∧Touch (x::did::jid::(spl++spj)) h h'∧(∀i∈x::did::jid::(spl' ++spj'),i∈x::did::jid::(spl++spj)∨h i=none):=by
 refine aeJ func12 18 [.tmp 4] fun hwf=>?_
 simp only[go_sem];refine(zf s hl _ (her.sub w.sub)).pthen ?_;unfold Bq;cases eo:fV s with
 |none=>simp only[go_sem];intro i hi;simp only[go_sem,Option.isSome_none,Option.getD_none,opA,opC,ru,ah,eD];refine .mk _ (.refl _) (.aj hi) ⟨by unfold qq;rw[eo];rfl,spl,spj,by grind [qq],.refl _ _,fun j hj=> .inl hj⟩
 |some o=>
  have ee:qq e d s=((doE e d o).1,(doE e d o).2.1,gr (doE e d o).2.2):=by grind [qq]
  rw[ee]at hok;have hr:=hr o eo;have h64:=h64 o eo;simp only[go_sem];intro i hi;simp only[go_sem,Option.isSome_some,Option.getD_some,opA,opC,aS,ah,eD];generalize hH:upd h i _=H;have hsH:Ab.Sub h H:=by rw[←hH];exact .aj hi
  refine(show ai prog _ [.ptr x 0,opA o] _ _ from((w.up hsH).doS o hps hlg hG hk h64 her hok).mono fun r H2 ⟨er,spl',spj',w2,hT,hin⟩=>?_)
  subst er;simp only[go_sem];refine(AZ _ hr _ (ht.sub w2.sub)).pthen ?_;simp only[go_sem];exact .same (.refl _) ⟨by rw[ee];rfl,spl',spj',aeL,(Touch.of (S:=[]) hsH).trans hT,fun i hi=>(hin i hi).imp id hsH.none⟩
end Go.Proofs.YtokahfmoollblaaGreatDoor
namespace Go.Bf
open Go Go.Ab
end Go.Bf
namespace Go.Bf
open Go Go.Ab Go.Proofs.YtokahfmoollblaaGreatDoor
theorem Po{k n:Nat}{e:cm}{b:Txt}{sy:Nat}(o:OpD)(hd:e.down=false)(hG:gH k e.s)(hok:D.ok ⟨n,b,sy,0,false⟩):
  ∃e' b' sy' RR,doE e ⟨n,b,sy,0,false⟩ o=(e',⟨n,b',sy',0,false⟩,RR)∧D.ok ⟨n,b',sy',0,false⟩∧e'.down=false∧e'.ps.length≤e.ps.length+1∧e'.log.length≤e.log.length+1∧gH (k+1) e'.s∧
   (((aI e.s o).2.2.2≠0∧RR=(aI e.s o).2.1∧e' =e)∨((aI e.s o).2.2.2=0∧n<b.length+16+(iE o).length∧RR=DN 8∧e' =e)∨((aI e.s o).2.2.2=0∧b.length+16+(iE o).length≤n∧RR=(aI e.s o).2.1∧e' =Np e o)):=by
 have up:gH (k+1) e.s:={hG.tojA.up with ticks:=hG.ticks}
 have hl:(frame (eC e.ch o)).length=16+(iE o).length:=by grind [fT,eC,iX]
 by_cases hg:(aI e.s o).2.2.2=0
 case neg=>exact⟨e,b,sy,_,Rm _ hd hg,hok,hd,aeK,aeK,up,.inl ⟨hg,rfl,rfl⟩⟩
 by_cases hr:b.length+16+(iE o).length≤n
 ·refine⟨_,_,_,_,Ii (d:=⟨n,b,sy,0,false⟩) hd hg rfl rfl aeL,⟨?_,hok.2.1,Nat.le_refl _,hok.2.2.2⟩,rfl,aeR,by simp[nR],qY o hG,.inr (.inr ⟨hg,hr,rfl,rfl⟩)⟩
  grind
 ·exact⟨e,b,sy,_,Ih (d:=⟨n,b,sy,0,false⟩) hd hg rfl aeL,hok,hd,aeK,aeK,up,.inr (.inl ⟨hg,aeK,rfl,rfl⟩)⟩
end Go.Bf
namespace Go.Proofs.YtokahfmoollblaaGreatDoor
open Go Go.Ab Go.Bf Tryz
theorem Ea{k:Nat}{s:an}(h:jA k s)(o:OpD):M9 (aI s o).2.1.mark∧M9 (aI s o).2.2.1.mark:=by
 have hm:M9 (gJ s o).1:=(xM _ _).m9;unfold aI;split
 ·exact⟨M9.na,M9.na⟩
 ·split
  ·exact⟨M9.na,M9.na⟩
  ·exact⟨hm,hm⟩
theorem oh.upd{h0 h:Heap}{x jid did:Nat}{e:cm}{d:D}{spl spj:List Nat}(w:oh h0 h x jid did e d spl spj){i:Nat}{cs:List AV}{t:TypeId}(b:Option Blk)(hi:h i=some (.obj cs t))(hn:i∉x::did::jid::(spl++spj))(h0i:h0 i=none)(t1:t≠121)(t2:t≠5):oh h0 (Ab.upd h i b) x jid did e d spl spj:=by obtain⟨yl,a,bb,c⟩:=w.eng;exact⟨⟨yl,by simp_all [ag,Ne.symm],bb.touch .upd aeL,c.touch .upd aeL aeL⟩,w.disk.upd hi t1 t2,w.ok,fun j k hj=>(by rw[ag _ _ aeL];exact w.sub _ _ hj),w.new⟩
theorem TA(r:iG):lp r= [.i r.err,.v (.complex .f64 (hbit r.mark.1) (hbit r.mark.2)),.b r.glass,.i r.val.kind,.i r.val.n,.s r.val.s,.b r.hidden,.i r.at_]:=rfl
end Go.Proofs.YtokahfmoollblaaGreatDoor
namespace Go.Bf
open Go Go.Ab Go.Proofs.YtokahfmoollblaaGreatDoor
variable {n sy sy' T:Nat}{e e':cm}{o:OpD}
structure C9 (e:cm) (b:Txt):Prop where
 ok:C8 e
 b:b=frames e.ps
 len:∀p∈e.ps,9≤p.length∧p.length≤5008
 log:e.log.length=e.ps.length
theorem DK:C9 (jk []) []:=⟨rfl,rfl,fun p hp=>(by cases hp),rfl⟩
theorem Mr{b:Txt}(hd:e.down=false)(h64:oN o)(hw:C9 e b){b' :Txt}{R:iG}(he:doE e ⟨n,b,sy,0,false⟩ o=(e',⟨n,b',sy',0,false⟩,R)):
  C9 e' b'∧(e'.ps=e.ps∨dH o=true∧e'.ps=e.ps++ [eC e.ch o])∧(sy=b.length→sy' =b'.length):=by
 have stay:e' =e→b' =b→sy' =sy→C9 e' b'∧(e'.ps=e.ps∨dH o=true∧e'.ps=e.ps++ [eC e.ch o])∧(sy=b.length→sy' =b'.length):=fun h1 h2 h3=>by subst h1 h2 h3;exact⟨hw,.inl rfl,fun h=>h⟩
 have hl:(frame (eC e.ch o)).length=16+(iE o).length:=by grind [fT,eC,iX]
 by_cases hg:(aI e.s o).2.2.2=0
 case neg=>
  rw[Rm _ hd hg]at he;injection he with h1 h2
  injection h2 with h2 _
  injection h2 with _ h3 h4
  exact stay h1.symm h3.symm h4.symm
 by_cases hr:b.length+16+(iE o).length≤n
 ·rw[Ii (d:=⟨n,b,sy,0,false⟩) hd hg rfl rfl aeL]at he
  injection he with h1 h2
  injection h2 with h2 _
  injection h2 with _ h3 h4
  subst h1 h3 h4;have hrl:=uK (h:=e.ch) (oA (jE hg));refine⟨⟨SR hw.ok hg h64,?_,?_,?_⟩,.inr ⟨jE hg,rfl⟩,fun _=>rfl⟩
  ·show b++frame _=frames (e.ps++ [_])
   rw[qW,hw.b]
  ·intro p hp
   rcases List.mem_append.1 hp with hp|hp
   ·exact hw.len p hp
   grind
  ·simp[nR,hw.log]
 ·rw[Ih (d:=⟨n,b,sy,0,false⟩) hd hg rfl aeL]at he
  injection he with h1 h2
  injection h2 with h2 _
  injection h2 with _ h3 h4
  exact stay h1.symm h3.symm h4.symm
theorem NS(hf:OpF o)(ht:o.text.length≤T):(iE o).length≤T+400:=by unfold iE;simp only[aeE];have h1:=ja o.kind;have h2:=dw o.subj;have h3:=dw o.case;have h4:=dw o.field;have h5:=dw o.to;have h6:=xZ hf.val;have h7:=ja o.review;have h8:=dw o.text;have h9:=dw o.reason;have h10:=xZ (v:=dP o.glass) (.inr (z8 _));have:=hf.subj;have:=hf.case;have:=hf.field;have:=hf.to;have:=hf.reason;omega
theorem tv{b:Txt}(hW:C9 e b):scan b=(e.ps,b.length):=by
 have:=K6 e.ps [] (fun p hp=>by have:=hW.len p hp;omega) aeO
 rw[List.append_nil,←hW.b]at this;exact afv
theorem Ae{b:Txt}(hW:C9 e b)(hok:D.ok ⟨n,b,sy,0,false⟩):D.bW ⟨n,b,sy,0,false⟩=(⟨n,b,b.length,0,false⟩,0):=by rw[D.Tt hok rfl rfl];simp only[tv hW,List.take_length]
end Go.Bf
namespace Go.Proofs.YtokahfmoollblaaGreatDoor
open Go Go.Ab Go.Bf Tryz
variable {k n:Nat}{s:an}
theorem SB(hG:gH k s)(o:OpD):(aI s o).2.2.1.obls.length≤10000000∧M9 (aI s o).2.2.1.mark:=by
 refine⟨?_,(Ea hG.tojA o).2⟩;unfold aI;split
 ·exact agS
 ·split
  ·exact agS
  ·exact DS _ hG.mK
theorem DX:∀(l:List Txt) {e e' :cm} {k:Nat},lR e l=some e'→gH k e.s→(∀d∈e.log,d.obls.length≤10000000∧M9 d.mark)→(∀d∈e'.log,d.obls.length≤10000000∧M9 d.mark)
 | [],e,e',k,h,_,hl=>by cases h;omega
 |p::l,e,e',k,h,hG,hl=>by
  simp only[lR]at h;cases hs:kL e p with
  |none=>grind
  |some e1=>
   rw[hs]at h;refine DX l h (TM hs hG) fun d hd=>?_
   unfold kL at hs;cases hr:jj e p with
   |none=>grind
   |some o=>
    rw[hr]at hs;simp only at hs;split at hs
    ·cases hs
     rcases List.mem_append.1 hd with hd|hd
     ·grind
     grind [List.mem_singleton,SB]
    grind
theorem Te{e:cm}(he:C8 e):∀d∈e.log,d.obls.length≤10000000∧M9 d.mark:=
 DX e.ps (e' :={e with down:=false}) he sP (fun d hd=>by cases hd)
theorem FX{f:Nat}{b:Txt}{off:Bool}(K T:Int):D.boot ⟨n,b,b.length,f,off⟩ K T=⟨n,b,b.length,0,false⟩:=by simp[D.boot,D.left,D.bad,lQ]
theorem zT(y:cm){B:Txt}(hW:C9 y B)(hdn:y.down=false)(hps:y.ps.length≤900)(d:D)(hdo:d.ok)(hop:d.bW=(⟨n,B,B.length,0,false⟩,0))(hsc:(scan d.b).1=y.ps)(did:Nat)(g H:Heap)(hdk:bC H did d)(hs:Ab.Sub g H)(hn:g did=none)(her:iB g):
  ai prog 15 [.ptr did 0] H fun r H' =>∃x jid spl spj,r= .tup [.ptr x 0,.i 0]∧oh g H' x jid did y ⟨n,B,B.length,0,false⟩ spl spj∧Keep did H H'∧(∀i∈x::jid::(spl++spj),H i=none):=
 (Od d hdo did H hdk (her.sub hs) aeL).mono fun r H' ⟨h1,h2,h3⟩=>by
  have hok:=D.ND hdo;rw[hop]at h1 h3 hok;unfold u9 at h3;have hy:vP y.ps=some y:=by have:=hW.ok;rw[this];obtain⟨_,_,_,_,_⟩:=y;cases hdn;rfl
  rw[hsc,hy]at h3;obtain⟨x,jid,spl,spj,a,b,c⟩:=h3;exact⟨x,jid,spl,spj,a,⟨b,h1,hok,uQ hs h2 hn,fun i hi=>by
   simp only[List.mem_cons]at hi c;rcases hi with rfl|rfl|hi
   ·exact hs.none (c _ (.inl rfl))
   ·omega
   ·exact hs.none (c _ (.inr hi))⟩,h2,c⟩
theorem qi.join{P:Program}{U:TypeId→TI}{c:Code}{K:Exit→Env→Heap→Prop}{ρ:Env}{h:Heap}(ex:Exit)(I:Env→Heap→Prop)(hK:∀ρ' H',I ρ' H'→K ex ρ' H')(hc:∀K' :Exit→Env→Heap→Prop,(∀ρ' H',I ρ' H'→K' ex ρ' H')→qi P U n c ρ h K'):qi P U n c ρ h K:=hc K hK
theorem Gu{o:OpD}(h:(aI s o).2.2.2≠0):(aI s o).1=s:=by
 unfold aI at h⊢
 grind
theorem DD{x:AV}(h:Dat U 22 x):∃l:List Txt,x= .sl (l.map .s) .no∧l.length≤maxLen∧∀s∈l,s.length≤maxLen:=h.list (e:=9) aeX fun y hy=>hy.QF aeX
theorem HB(q:Nat)(hq:q≤1048576)(did:Nat)(h0 h:Heap)(hdk:bC h did ⟨q,[],0,0,false⟩)(hs:Ab.Sub h0 h)(hn:h0 did=none)(her:iB h0):
  ai prog 15 [.ptr did 0] h fun r h' =>∃x jid spl spj,r= .tup [.ptr x 0,.i 0]∧oh h0 h' x jid did (jk []) ⟨q,[],0,0,false⟩ spl spj∧Keep did h h'∧(∀i∈x::jid::(spl++spj),h i=none):=
 zT (jk []) DK rfl aeO ⟨q,[],0,0,false⟩ ⟨Nat.zero_le _,hq,Nat.zero_le _,(by decide:(0:Nat)<9223372036854775808)⟩ aeZ (by rw[Oa];rfl) did h0 h hdk hs hn her
end Go.Proofs.YtokahfmoollblaaGreatDoor
namespace Go.Bf
open Go Go.Ab Go.Proofs.YtokahfmoollblaaGreatDoor
variable {s:an}{o:OpD}{l:List cO}
theorem jR:i64 0:=⟨aeO,aeO⟩
theorem ML:i64 1:=⟨aeO,aeO⟩
theorem Wv(neg:Bool)(s:Txt):i64 (eW neg s).1:=by
 unfold eW;simp only;split
 ·exact aiV
 ·generalize (if neg=true then -(mH (s.takeWhile dgt):Int)else(mH (s.takeWhile dgt):Int))=v
  split
  ·assumption
  ·exact aiV
theorem L4(s:Txt):i64 (bO s).1.n:=by grind [bO,Wv,jR]
theorem GP:∀(f:Nat) (s:Txt) (a:Nat) (out l:List qv),qA f s a out= .ok l→(∀t∈out,i64 t.n)→∀t∈l,i64 t.n
 |0,_,_,_,_,h,_=>by grind [qA]
 |f+1,[],a,out,l,h,ho=>by grind [qA,Lexed.ok.injEq,List.mem_singleton,jR]
 |f+1,c::r,a,out,l,h,ho=>by
  simp only[qA]at h;split at h
  ·exact GP f r _ _ l h ho
  ·split at h
   ·cases h
   ·refine GP f _ _ _ l h fun t ht=>?_
    grind [List.mem_singleton,L4]
theorem Wo(s:Txt):i64 (fW s).1.kind∧i64 (fW s).1.n:=by
 have hk:∀k:Nat,k≤5→i64 (k:Int):=fun k h=>⟨aeK,aeK⟩
 unfold fW;cases h:pO s with
 |bad e a=>exact⟨jR,jR⟩
 |ok ts=>
  have ht:∀t∈ts,i64 t.n:=by grind [pO,GP]
  simp only;split
  ·have hd:i64 (ts.headD ⟨0,0,0,[]⟩).n:=by
    cases ts with
    |nil=>grind
    |cons a b=>grind
   unfold AN
   (repeat' split)<;>first|exact⟨hk 2 aeO,hd⟩|exact⟨hk 4 aeO,hd⟩|exact⟨hk 5 aeO,hd⟩|exact⟨hk 3 aeO,hd⟩|exact⟨ML,ML⟩|exact⟨ML,jR⟩|exact⟨jR,jR⟩
  ·exact⟨jR,jR⟩
theorem Tm(s:Txt):i64 (Go.Bf.CL s):=by
 unfold Go.Bf.CL;split
 ·exact aiV
 ·rename_i h
  have h1:∀c∈s,dgt c=true:=aeL;have h2:=Ie s h1;have h3:10 ^ s.length≤10 ^ 9:=Nat.pow_le_pow_right aeO aeK;constructor<;>omega
theorem WB(k:Int)(hk:0≤k∧k≤8)(a b:Txt)(g:Bool)(s:Txt):oN (opL k a b g s).1:=by
 have hk:i64 k:=by constructor<;>omega
 have z:i64 aq.kind∧i64 aq.n:=⟨jR,jR⟩;have h1:=Wo (dD (dD s).2).2;have h2:=Tm s;unfold opL
 (repeat' split)<;>first|exact⟨hk,z.1,z.2,jR⟩|exact⟨hk,h1.1,h1.2,jR⟩|exact⟨hk,z.1,z.2,h2⟩
theorem Nc{s:Txt}(h:fV s=some o):oN o:=by
 unfold fV at h;split at h
 ·cases h
  exact WB _ (wO _) _ _ _ _
 grind
theorem NA(k:Int)(a b:Txt)(g:Bool)(s:Txt):(opL k a b g s).1.text.length≤s.length:=by
 unfold opL
 grind
theorem Gt(s:Txt):(oC s).2.2.length≤s.length:=by
 unfold oC;split
 ·grind [lB,List.length_drop]
 simp
theorem Kv{s:Txt}(h:fV s=some o):dH o=true∧o.text.length≤s.length:=by
 unfold fV at h;split at h
 ·rename_i h1
  grind [KS,NA,uj,dD,oC,lB,Gt]
 grind
def kW(s:an):Prop:=∀c∈s.cases,∀f∈c.fields,inV f.val
theorem OC:kW sY:=fun c hc=>by cases hc
theorem HK(h:∀f∈l,inV f.val)(n:Txt):inV (dV l n):=by
 unfold dV;split
 ·grind
 ·exact aiV
theorem Lt(h:kW s)(id n:Txt):inV (dV (bw s.cases id).fields n):=by
 refine HK (fun f hf=>?_) n
 unfold bw at hf;split at hf
 ·rw[List.getD_eq_getElem?_getD]at hf
  cases hg:s.cases[findD s.cases id]? with
  |none=>rw[hg]at hf;cases hf
  |some c=>rw[hg]at hf;exact h c (List.mem_of_getElem? hg) f hf
 ·cases hf
theorem HM(h:∀f∈l,inV f.val)(n:Txt){v:bu}(hv:inV v):∀f∈eN l n v,inV f.val:=by
 intro f hf;unfold eN at hf
 grind
theorem QV(h:kW s)(ho:inV o.val):kW (dR aR s o):=by
 unfold dR;split
 ·unfold doD
  simp only;intro c hc;split at hc
  ·simp only[List.mem_append,List.mem_singleton]at hc
   rcases hc with(hc|rfl)|hc
   ·exact h c (List.mem_of_mem_take hc)
   ·intro f hf;cases hf
   ·exact h c (List.mem_of_mem_drop hc)
  ·split at hc
   ·rcases mem_modify hc with hc|⟨hi,rfl⟩
    ·exact h c hc
    ·exact HM (h _ (aeF hi)) _ ho
   ·split at hc
    ·exact aku
    ·(repeat' split at hc)<;>exact h c hc
 omega
theorem Lu{d:Bool}(x:cC)(h:kW s):kW (fm o d s x):=by
 unfold fm;split
 ·unfold iM
  split
  ·intro c hc
   exact aku
  omega
 ·(repeat' split)<;>exact h
theorem xp{o:OpD}{d:Bool}:∀(l:List cC) {s:an},kW s→kW (dF s o l d)
 | [],_,h=>h
 |x::l,_,h=>xp l (Lu x h)
theorem HL(h:kW s)(ho:inV o.val):kW (aI s o).1:=by grind [aI,cU,kW,fD,bW,xp,QV]
theorem I6{k:Nat}(hG:jA k s)(hv:kW s)(o:OpD):FN (aI s o).2.1:=by
 refine⟨(Ea hG o).1,?_,?_,?_⟩
 ·grind [aI,jZ,rB,bL,bX,fq,nD]
 ·have hp:dH o=true→0≤(aR o.text).2.2∧(aR o.text).2.2≤4096:=fun hf=>by have:=(oA hf).text;rcases rB o.text with h|h<;>omega
  have h0:(0:Int)≤0∧(0:Int)≤4096:=aeO;have:0≤(aI s o).2.1.at_∧(aI s o).2.1.at_≤4096:=by
   unfold aI;split
   ·grind [jZ,bL]
   ·split<;>exact h0
  omega
 ·unfold aI
  split
  ·exact aiV
  ·split
   ·exact aiV
   ·unfold nD
    simp only;split
    ·grind [Lt]
    ·exact aiV
def Xd:Txt:=[119,104,97,116]
def An(s:an)(q:Txt):Txt:=match fV q with
 |none=>Xd
 |some o=>gr (aI s o).2.1
def jT(e:cm)(q:Txt):cm:=match fV q with
 |none=>e
 |some o=>if(aI e.s o).2.2.2=0 then Np e o else e
def gQ(s:an)(q:Txt):an:=match fV q with
 |none=>s
 |some o=>(aI s o).1
def j0(l:List Txt):cm:=l.foldl jT (jk [])
theorem KW(l:List Txt)(q:Txt):j0 (l++ [q])=jT (j0 l) q:=by simp[j0]
theorem si(l:List Txt)(i:Nat)(h:i<l.length):j0 (l.take (i+1))=jT (j0 (l.take i)) l[i]:=by rw[List.take_succ_eq_append_getElem h,KW]
theorem sZ(e:cm)(q:Txt):(jT e q).s=gQ e.s q:=by
 unfold jT gQ;cases fV q with
 |none=>rfl
 |some o=>
  simp only;split
  ·rfl
  grind [Gu]
theorem ED(e:cm)(q:Txt)(B:Nat)(h:∀o,fV q=some o→(iE o).length≤B):(frames (jT e q).ps).length≤(frames e.ps).length+(16+B):=by
 unfold jT;cases eo:fV q with
 |none=>simp
 |some o=>
  simp only;split
  ·have hl:(frame (eC e.ch o)).length=16+(iE o).length:=by grind [fT,eC,iX]
   show(frames (e.ps++ [eC e.ch o])).length≤_
   grind [qW,aeE]
  omega
theorem Et{q:Txt}(hq:q.length≤600):∀o,fV q=some o→(iE o).length≤1000:=fun o ho=>by have h:=Kv ho;exact NS (oA h.1) aeK
theorem I9(l:List Txt)(h:∀q∈l,q.length≤600):(frames (j0 l).ps).length≤1016*l.length:=by
 have go:∀(l:List Txt) (e:cm),(∀q∈l,q.length≤600)→(frames (l.foldl jT e).ps).length≤(frames e.ps).length+1016*l.length:=by
  intro l
  induction l with
  |nil=>simp
  |cons q l ih=>
   intro e hq;have h1:=ih (jT e q) fun r hr=>hq r aeL
   have h2:=ED e q 1000 (Et (hq q aeR));simp only[List.foldl_cons,List.length_cons];omega
 have:=go l (jk []) h;simpa[j0,jk,frames]using this
end Go.Bf
namespace Go.Proofs.YtokahfmoollblaaGreatDoor
open Go Go.Ab Go.Bf Tryz
variable {n k x jid:Nat}{g h:Heap}{e:cm}{spl spj:List Nat}
structure jl (n k:Nat) (g h:Heap) (x jid did:Nat) (e:cm) (spl spj:List Nat):Prop where
 w:oh g h x jid did e ⟨n,frames e.ps,(frames e.ps).length,0,false⟩ spl spj
 hW:C9 e (frames e.ps)
 hG:gH k e.s
 hV:kW e.s
 hdn:e.down=false
 hps:e.ps.length≤k
theorem jl.up{h':Heap}{did:Nat}(w:jl n k g h x jid did e spl spj)(hs:Ab.Sub h h'):jl n k g h' x jid did e spl spj:=
 ⟨w.w.up hs,w.hW,w.hG,w.hV,w.hdn,w.hps⟩
theorem jl.line{did:Nat}(w:jl n k g h x jid did e spl spj)(q:Txt)(hq:q.length≤600)(hk:k≤900)(her:iB g)(ht:xy g)(hr:∀o,fV q=some o→(frames e.ps).length+16+(iE o).length≤n):
  ai prog 12 [.ptr x 0,.s q] h fun r h' =>r= .s (An e.s q)∧∃spl' spj',jl n (k+1) g h' x jid did (jT e q) spl' spj'∧Touch (x::did::jid::(spl++spj)) h h'∧(∀i∈x::did::jid::(spl' ++spj'),i∈x::did::jid::(spl++spj)∨h i=none):=by
 obtain⟨w,hW,hG,hV,hdn,hps⟩:=w;have hlg:=hW.log;cases eo:fV q with
 |none=>
  have el:qq e ⟨n,frames e.ps,(frames e.ps).length,0,false⟩ q=(e,⟨n,frames e.ps,(frames e.ps).length,0,false⟩,[119,104,97,116]):=by grind [qq]
  refine(w.line q aeK aeK aeK hG aeK her ht (fun o e=>aeL) (by rw[el];exact w.ok) (fun o e=>aeL)).mono fun r h' ⟨er,spl',spj',w',hT,hin⟩=>?_
  rw[el]at w' er;have en:jT e q=e:=by grind [jT]
  rw[en];refine⟨by rw[er];unfold An;rw[eo];rfl,spl',spj',⟨w',hW,{hG.tojA.up with ticks:=hG.ticks},hV,hdn,aeK⟩,hT,hin⟩
 |some o=>
  have h64:=Nc eo;have hrt:=I6 hG.tojA hV o;have hr:=hr o eo;obtain⟨e',b',sy',RR,ed,hok,hdn',hps',hlg',hG',hways⟩:=Po o hdn hG w.ok;obtain⟨hW',hp',hy'⟩:=Mr hdn h64 hW ed;have el:qq e ⟨n,frames e.ps,(frames e.ps).length,0,false⟩ q=(e',⟨n,b',sy',0,false⟩,gr RR):=by grind [qq]
  have hR:RR=(aI e.s o).2.1∧e' =jT e q:=by
   unfold jT
   grind
  obtain⟨rfl,rfl⟩:=hR;have hb:=hW'.b;have hy:=hy' rfl;subst hb;subst hy;refine(w.line q aeK aeK aeK hG aeK her ht (fun o' e=>aeL) aeL (fun o' e2=>?_)).mono fun r h' ⟨er,spl',spj',w',hT,hin⟩=>?_
  ·grind
  rw[el]at w' er;refine⟨by grind [An],spl',spj',⟨w',hW',hG',?_,hdn',aeK⟩,hT,hin⟩
  rw[sZ];unfold gQ;rw[eo];exact HL hV h64.2.2.1
theorem jl.new{did:Nat}(w:oh g h x jid did (jk []) ⟨n,[],0,0,false⟩ spl spj):jl n 0 g h x jid did (j0 []) spl spj:=
 ⟨w,DK,sP,OC,rfl,Nat.le_refl _⟩
theorem vS(n:Nat)(hn:n≤1048576)(h0 h:Heap)(hs:Ab.Sub h0 h)(her:iB h0):ai prog 6 [.i n] h fun r h' =>∃x jid did spl spj,r= .tup [.ptr x 0,.ptr did 0]∧jl n 0 h0 h' x jid did (j0 []) spl spj∧Ab.Sub h h' :=by
 refine aeJ func6 32 [.tmp 2,.tmp 3] fun hwf=>?_
 simp only[go_sem];refine(Mp n hn h).mono fun r h1 ⟨did,hd,er,hdk,s1⟩=>?_
 subst er;simp only[go_sem];refine(HB n hn did h0 h1 hdk (hs.trans s1) (hs.none hd) her).mono fun r h2 ⟨x,jid,spl,spj,er,w,hK,hnew⟩=>?_
 subst er;simp only[go_sem];exact .same (.refl _) ⟨x,jid,did,spl,spj,rfl,.new w,uQ s1 hK hd⟩
end Go.Proofs.YtokahfmoollblaaGreatDoor
namespace Go.Bf
open Go Go.Ab Go.Proofs.YtokahfmoollblaaGreatDoor
def awP:Txt:=[112,111,108,105,99,121,32,112,32,102,105,114,115,116,32,123,32,100,101,110,121,32,100,32,119,104,101,110,32,40,97,99,116,105,111,110,46,110,97,109,101,32,61,32,35,119,114,105,116,101,41,59,32,112,101,114,109,105,116,32,114,59,32,125]
def awL:List Txt:=[[97,110,110,32,110,101,119,32,99],[97,110,110,32,119,114,105,116,101,32,99,32,102,32,55],[97,110,110,32,112,111,108,105,99,121,32]++awP,[97,110,110,32,119,114,105,116,101,32,99,32,102,32,56],[98,111,98,32,114,101,97,100,32,99,32,102]]
def awW:List Txt:=[[111,107],[111,107],[111,107],[100,101,110,105,101,100,32,68,101,110,121],[111,107,32,55]]
def awO:Nat→Option OpD
 |0=>some ⟨1,[97,110,110],[99],[],[],aq,0,[],[],false⟩
 |1=>some ⟨3,[97,110,110],[99],[102],[],⟨2,7,[]⟩,0,[],[],false⟩
 |2=>some ⟨7,[97,110,110],[],[],[],aq,0,awP,[],false⟩
 |3=>some ⟨3,[97,110,110],[99],[102],[],⟨2,8,[]⟩,0,[],[],false⟩
 |4=>some ⟨2,[98,111,98],[99],[102],[],aq,0,[],[],false⟩
 |_=>none
def awS:Nat→an
 |0=>sY
 |i+1=>match awO i with|none=>awS i|some o=>(aI (awS i) o).1
def Yz(i:Nat):Prop:=fV (awL.getD i [])=awO i∧match awO i with
 |none=>False
 |some o=>gr (aI (awS i) o).2.1=awW.getD i []∧(iE o).length≤200
theorem Rc:∀i,i<5→Yz i
 |0,_=>⟨aeZ,aeZ,aez aeZ⟩
 |1,_=>⟨aeZ,aeZ,aez aeZ⟩
 |2,_=>⟨aeZ,aeZ,aez aeZ⟩
 |3,_=>⟨aeZ,aeZ,aez aeZ⟩
 |4,_=>⟨aeZ,aeN,aez aeZ⟩
 |n+5,h=>aeK
theorem Sq:∀i,i<5→(awL.getD i []).length≤600:=aeO
theorem L1:∀i,i≤5→(j0 (awL.take i)).s=awS i∧(frames (j0 (awL.take i)).ps).length≤216*i
 |0,_=>⟨rfl,aeO⟩
 |i+1,h=>by
  obtain⟨h1,h2⟩:=L1 i aeK;obtain⟨h3,h4⟩:=Rc i aeK;have hl:awL.length=5:=rfl;have eg:awL.getD i []=awL[i]'aeK:=aeL;rw[si awL i aeK,←eg];have h5:=ED (j0 (awL.take i)) (awL.getD i []) 200 fun o ho=>by grind
  grind [sZ,gQ,awS,awO]
end Go.Bf
namespace Go.Proofs.YtokahfmoollblaaGreatDoor
open Go Go.Ab Go.Bf Tryz
def AwP(g:Heap)(x i:Nat)(h:Heap):Prop:=∃jid did spl spj,jl 4000 i g h x jid did (j0 (awL.take i)) spl spj
theorem tK(g h:Heap)(her:iB g)(ht:xy g)(x i:Nat)(hi:i<5)(hp:AwP g x i h):ai prog 12 [.ptr x 0,.s (awL.getD i [])] h fun r h' =>r= .s (awW.getD i [])∧AwP g x (i+1) h'∧Ab.Sub g h' :=by
 obtain⟨jid,did,spl,spj,w⟩:=hp;obtain⟨h1,h2⟩:=L1 i aeK;obtain⟨h3,h4⟩:=Rc i hi;refine(w.line (awL.getD i []) (Sq i hi) aeK her ht fun o ho=>?_).mono fun r h' ⟨er,spl',spj',w',_,_⟩=>?_
 ·grind
 refine⟨?_,⟨jid,did,spl',spj',?_⟩,w'.w.sub⟩
 ·rw[er,h1]
  unfold An
  grind
 grind [si,awL]
theorem Dq(h:Heap)(he:iB h)(ht:xy h):ai prog 18 [] h fun r h' =>r= .b true∧h' =h:=
 ai.freeze fun g hgs _=>by
 have he:=he.sub hgs;have ht:=ht.sub hgs;refine aeJ func18 40 [.tmp 0] fun hwf=>?_
 simp only[go_sem];refine(show ai prog _ [.i 4000] _ _ from(vS 4000 aeO g g (.refl _) he).mono fun r h1 ⟨x,jid,did,spl,spj,er,w,s1⟩=>?_)
 subst er;have hc:∀ρ:Env,ev ρ (.const (.string ⟨#[97,110,110,32,112,111,108,105,99,121,32,112,111,108,105,99,121,32,112,32,102,105,114,115,116,32,123,32,100,101,110,121,32,100,32,119,104,101,110,32,40,97,99,116,105,111,110,46,110,97,109,101,32,61,32,35,119,114,105,116,101,41,59,32,112,101,114,109,105,116,32,114,59,32,125]⟩))=some (.s ([97,110,110,32,112,111,108,105,99,121,32]++awP)):=fun ρ=>JO aeO
 simp only[go_sem,hc];refine(show ai prog _ [.ptr x 0,.s [97,110,110,32,110,101,119,32,99]] _ _ from(tK g h1 he ht x 0 aeK ⟨jid,did,spl,spj,w⟩).mono fun r h2 ⟨er,w,_⟩=>?_)
 replace er:r= .s [111,107]:=er;subst er;simp only[go_sem,hc];refine(show ai prog _ [.ptr x 0,.s [97,110,110,32,119,114,105,116,101,32,99,32,102,32,55]] _ _ from(tK g h2 he ht x 1 aeK w).mono fun r h3 ⟨er,w,_⟩=>?_)
 replace er:r= .s [111,107]:=er;subst er;simp only[go_sem,hc];refine(show ai prog _ [.ptr x 0,.s ([97,110,110,32,112,111,108,105,99,121,32]++awP)] _ _ from(tK g h3 he ht x 2 aeK w).mono fun r h4 ⟨er,w,_⟩=>?_)
 replace er:r= .s [111,107]:=er;subst er;simp only[go_sem];refine(show ai prog _ [.ptr x 0,.s [97,110,110,32,119,114,105,116,101,32,99,32,102,32,56]] _ _ from(tK g h4 he ht x 3 aeK w).mono fun r h5 ⟨er,w,_⟩=>?_)
 replace er:r= .s [100,101,110,105,101,100,32,68,101,110,121]:=er;subst er;simp only[go_sem];refine(show ai prog _ [.ptr x 0,.s [98,111,98,32,114,101,97,100,32,99,32,102]] _ _ from(tK g h5 he ht x 4 aeK w).mono fun r h6 ⟨er,_,s6⟩=>?_)
 replace er:r= .s [111,107,32,55]:=er;subst er;simp only[go_sem];exact .same (.refl _) ⟨s6,_,.pure rfl,rfl⟩
end Go.Proofs.YtokahfmoollblaaGreatDoor
namespace Go.Bf
open Go Go.Ab Go.Proofs.YtokahfmoollblaaGreatDoor
variable {l:List Txt}{n:Nat}
def jH(l:List Txt)(n:Nat):List Txt:=(l.take n).map fun q=>q.take 600
theorem Eu:∀q∈jH l n,q.length≤600:=fun q hq=>by
 obtain⟨r,_,rfl⟩:=List.mem_map.1 hq
 grind
theorem Bs(l:List Txt)(n:Nat):(jH l n).length≤n:=by grind [jH,aeA,List.length_take]
theorem GS{i:Nat}(h:i<l.length)(hn:i<n):jH (l.take (i+1)) n=jH (l.take i) n++ [l[i].take 600]:=by grind [jH,Nat.min_eq_right,List.take_succ_eq_append_getElem]
theorem N9{i:Nat}(hl:l.length≤40)(hq:∀q∈l,q.length≤600)(hi:i<l.length):∀o,fV l[i]=some o→(frames (j0 (l.take i)).ps).length+16+(iE o).length≤200000:=fun o ho=>by
 have h1:=I9 (l.take i) fun q h=>hq q (List.mem_of_mem_take h)
 rw[List.length_take]at h1;have h2:=Et (hq _ (aeF hi)) o ho;omega
end Go.Bf
namespace Go.Proofs.YtokahfmoollblaaGreatDoor
open Go Go.Ab Go.Bf Tryz
variable {g h:Heap}{x jid n k:Nat}{spl spj:List Nat}{e:cm}
theorem Ev(l:List Txt)(n:Nat)(hn:n≤1000)(h:Heap):ai prog 8 [.sl (l.map .s) .no,.i n] h fun r h' =>r= .sl ((jH l n).map .s) .no∧h' =h:=by
 refine aeJ func8 33 [.tmp 4] fun hwf=>?_
 simp only[go_sem];have hsz:(U 9).sz=1:=aeZ;refine qi.wf fun hw=>?_
 refine .intro (fun m ρ H=>∃(i:Nat) (y:AV),Acc U 9 h H y ((jH (l.take i) n).map .s)∧i≤l.length∧i≤n∧m=l.length - i∧lk ρ 0=some (.sl (l.map .s) .no)∧lk ρ 1=some (.i n)∧lk ρ 5=some y∧lk ρ 6=some (.i i)) l.length ?_ ?_
 ·refine⟨0,.sl [] .full,by simpa[jH]using Acc.full (.refl _),aeK,aeK,rfl,?_,?_,?_,?_⟩<;>simp only[go_sem]
  all_goals rfl
 rintro m ρ H ⟨i,y,hy,hi,hin,rfl,r0,r1,r5,r6⟩
 obtain⟨q,eq⟩:=hy.row;subst eq
 by_cases hgo:i<l.length∧i<n
 ·have d1:decide ((i:Int)<(l.length:Int))=true:=decide_eq_true aeK
  have d2:decide ((i:Int)<(n:Int))=true:=decide_eq_true aeK;have w1:IntKind.i64.wrap ((i:Int)+1)=((i+1:Nat):Int):=aeW;have ix:=fun k=>eu.eq (xs:=l.map AV.s) (sz:=1) i aeL aeU k
  rw[aeB]at ix;have e:(if(600:Int)<(l[i].length:Int)then(600:Int)else(l[i].length:Int))=((min 600 l[i].length:Nat):Int):=aeK
  have et:l[i].take (min 600 l[i].length)=l[i].take 600:=aeR;simp only[go_sem,r0,r1,r5,r6,aeA,d1,d2];refine .calls cW [0,1,2,3,4,5,6,7,8,9,10,11,12,13,14] (fun _ _ e=>afb) aeN rfl ?_
  simp only[go_sem,r0,r1,r5,r6,ix,e];refine⟨aeK,aeK,aeK,?_⟩;simp only[go_sem,Option.isSome_none,Option.isSome_some,tN,Int.toNat_natCast,et];refine hy.app (zs:=[.s (l[i].take 600)]) aeO aeO (fun k hk=>hk) (by intro z hz;obtain⟨a,_,rfl⟩:=List.mem_map.1 hz;rfl) afw (by simp only[go_sem,jH,aeA,List.length_take,List.length_cons,List.length_nil]<;>omega) fun y' H' hy' kp=>?_
  refine⟨fun _ _ e=>afb,?_⟩
  simp only[go_sem,r6,w1];refine⟨_,?_,i+1,y',by grind [GS],aeK,aeK,rfl,?_,?_,?_,?_⟩
  ·omega
  all_goals simp only[go_sem,r0,r1]
 ·have hall:jH (l.take i) n=jH l n:=by grind [jH,Nat.min_eq_left,List.take_of_length_le]
  rw[hall]at hy;cases d1:decide ((i:Int)<(l.length:Int))
  ·simp only[go_sem,r0,r5,r6,aeA,d1]
   exact .mk _ (by rw[hall];exact .sl _ _) hy.1 ⟨rfl,rfl⟩
  ·have d2:decide ((i:Int)<(n:Int))=false:=decide_eq_false fun h3=>hgo ⟨aeL,aeK⟩
   simp only[go_sem,r0,r1,r5,r6,aeA,d1,d2];exact .mk _ (by rw[hall];exact .sl _ _) hy.1 ⟨rfl,rfl⟩
theorem jl.step{did:Nat}{l:List Txt}{i:Nat}(hl:l.length≤40)(hq:∀q∈l,q.length≤600)(hi:i<l.length)(w:jl 200000 i g h x jid did (j0 (l.take i)) spl spj)(her:iB g)(ht:xy g):
  ai prog 12 [.ptr x 0,.s l[i]] h fun r h' =>r= .s (An (j0 (l.take i)).s l[i])∧∃spl' spj',jl 200000 (i+1) g h' x jid did (j0 (l.take (i+1))) spl' spj'∧Touch (x::did::jid::(spl++spj)) h h'∧(∀j∈x::did::jid::(spl' ++spj'),j∈x::did::jid::(spl++spj)∨h j=none):=by
 rw[si l i hi];exact w.line l[i] aeL aeK her ht (N9 hl hq hi)
theorem jl.did{h':Heap}{did:Nat}(w:jl n k g h x jid did e spl spj)(hd:bC h' did ⟨n,frames e.ps,(frames e.ps).length,0,false⟩)(hk:Keep did h h'):jl n k g h' x jid did e spl spj:=
 ⟨w.w.did hd hk w.w.ok,w.hW,w.hG,w.hV,w.hdn,w.hps⟩
theorem jl.start{did:Nat}(w:jl n k g h x jid did e spl spj)(hk:k≤900)(her:iB g):
  ai prog 15 [.ptr did 0] h fun r h' =>∃x2 jid2 spl2 spj2,r= .tup [.ptr x2 0,.i 0]∧jl n k g h' x2 jid2 did e spl2 spj2∧jl n k g h' x jid did e spl spj∧Keep did h h'∧(∀i∈x2::jid2::(spl2++spj2),h i=none):=by
 have hps:=w.hps;refine(zT e w.hW w.hdn aeK ⟨n,frames e.ps,(frames e.ps).length,0,false⟩ w.w.ok (Ae w.hW w.w.ok) (by rw[tv w.hW]) did g h w.w.disk w.w.sub (w.w.new did aeR) her).mono fun r h' ⟨x2,jid2,spl2,spj2,er,v,hk,hn⟩=>?_
 exact⟨x2,jid2,spl2,spj2,er,⟨v,w.hW,w.hG,w.hV,w.hdn,w.hps⟩,w.did v.disk hk,hk,hn⟩
theorem Mn{x:AV}(h:Dat U 23 x):∃l:List Int,x= .sl (l.map iA) .no∧l.length≤maxLen∧∀n∈l,i64 n:=h.list (e:=3) aeZ fun y hy=>hy.i64 aeZ
theorem jl.upd{did:Nat}(w:jl n k g h x jid did e spl spj){i:Nat}{cs:List AV}(b:Option Blk)(hi:h i=some (.obj cs 40))(hn:i∉x::did::jid::(spl++spj))(hg:g i=none):jl n k g (Ab.upd h i b) x jid did e spl spj:=
 ⟨w.w.upd b hi hn hg aeO aeO,w.hW,w.hG,w.hV,w.hdn,w.hps⟩
set_option maxHeartbeats 400000 in
theorem Fw(y z u:AV)(dy:Dat U 22 y)(dz:Dat U 23 z)(du:Dat U 3 u)(h:Heap)(he:iB h)(ht:xy h):ai prog 3 [y,z,u] h fun r h' =>r= .b true∧h' =h:=
 ai.freeze fun g hgs _=>by
 have he:=he.sub hgs;have ht:=ht.sub hgs;obtain⟨l0,rfl,hl0,hls⟩:=DD dy;obtain⟨cr,rfl,hcl,hc64⟩:=Mn dz;obtain⟨ke,rfl,k64⟩:=du.i64 aeX;have hll:=Bs l0 40;have hlq:=Eu (l:=l0) (n:=40);have hlo:=fun(G:Heap)=>Ev l0 40 aeO G
 obtain⟨l,el⟩:∃l,jH l0 40=l:=⟨_,rfl⟩;rw[el]at hll hlq;simp only[el]at hlo;refine aeJ func3 94 [.tmp 6] fun hwf=>?_
 simp only[go_sem];refine(show ai prog _ [.i 200000] _ _ from(vS 200000 aeO g g (.refl _) he).mono fun r h1 ⟨x,jid,did,spl,spj,er,w,s1⟩=>?_)
 subst er;simp only[go_sem];refine(Nn h1 (he.sub w.w.sub)).pthen ?_;rw[show bY sY= .agg (cL sY)from rfl,newL]
 simp only[go_sem];intro i9 h9;have n9:=w.w.fresh h9;have g9:g i9=none:=w.w.sub.none h9;simp only[go_sem];refine inH fun H1 w1=>?_
 have f9:H1 i9=some (.obj (cL sY) 40):=by rw[w1,ah,newL]
 replace w:=w.up (show Ab.Sub h1 H1 by rw[w1];exact(Sub.refl h1).new h9 _)
 clear w1;refine(hlo H1).pthen ?_;simp only[go_sem,aeA];refine .intro (fun m ρ H=>∃(i:Nat) (x jid:Nat) (spl spj:List Nat),jl 200000 i g H x jid did (j0 (l.take i)) spl spj∧H i9=some (.obj (cL (j0 (l.take i)).s) 40)∧i9∉x::did::jid::(spl++spj)∧i≤l.length∧m=l.length - i∧lk ρ 1=some (.sl (cr.map iA) .no)∧lk ρ 2=some (.i ke)∧lk ρ 7=some (.ptr x 0)∧lk ρ 8=some (.ptr did 0)∧lk ρ 9=some (.ptr i9 0)∧lk ρ 27=some (.sl (l.map .s) .no)∧lk ρ 28=some (.i l.length)∧lk ρ 29=some (.i i)) l.length ?_ ?_
 ·refine⟨0,x,jid,spl,spj,w,f9,n9,aeK,rfl,?_,?_,?_,?_,?_,?_,?_,?_⟩<;>simp only[go_sem]
  all_goals rfl
 rintro m ρ H ⟨i,x,jid,spl,spj,w,f9,n9,hi,rfl,r1,r2,r7,r8,r9,r27,r28,r29⟩
 by_cases hlt:i<l.length
 case neg=>have t1:decide ((i:Int)<(l.length:Int))=false:=decide_eq_false aeK;simp only[go_sem,r27,r28,r29,t1];refine(Dq H (he.sub w.w.sub) (ht.sub w.w.sub)).pthen ?_;simp only[go_sem];exact .same (.refl _) ⟨w.w.sub,_,.pure rfl,rfl⟩
 have t1:decide ((i:Int)<(l.length:Int))=true:=decide_eq_true aeK;have w1:IntKind.i64.wrap ((i:Int)+1)=((i+1:Nat):Int):=aeW;have ix:=fun k=>eu.eq (xs:=l.map AV.s) (sz:=1) i afc aeU k
 rw[aeB]at ix;have hql:=hlq _ (aeF hlt);have hstep:=fun(G:Heap) (v:jl 200000 i g G x jid did (j0 (l.take i)) spl spj)=>v.step hll hlq hlt he ht
 have hnx:(j0 (l.take (i+1))).s=gQ (j0 (l.take i)).s l[i]:=by rw[si l i hlt,sZ]
 have hG:=w.hG;have hV:=w.hV;have hE:=he.sub w.w.sub;have hP:=ht.sub w.w.sub;obtain⟨q,eq⟩:∃q,l[i]=q:=⟨_,rfl⟩;rw[eq]at ix hql hnx;simp only[eq]at hstep;obtain⟨s,es⟩:∃s,(j0 (l.take i)).s=s:=⟨_,rfl⟩;rw[es]at hG hV f9 hnx;simp only[es]at hstep;have hpar:=fun(G:Heap) (hG:iB G)=>zf q aeK G hG
 obtain⟨o,eo⟩:∃o,(fV q).getD ru=o:=⟨_,rfl⟩;obtain⟨b,eb⟩:∃b,(fV q).isSome=b:=⟨_,rfl⟩;simp only[Bq,eo,eb,opA,opC]at hpar;obtain⟨a1,a2,a3,a4,a5,a6,a7,es1⟩:=bT s;obtain⟨b1,b2,b3,b4,b5,b6,b7,es2⟩:=bT (gQ s q);rw[es1]at f9;simp only[go_sem,r27,r28,r29,t1,ix];refine(hpar H hE).pthen ?_;simp only[go_sem];intro i12 h12;have x12:i9≠i12:=fun e=>by rw[←e,f9]at h12;cases h12
 simp only[go_sem,ak,x12,r9,f9];intro i15 h15;simp only[go_sem];have x915:i9≠i15:=fun e=>by rw[←e,ag _ _ x12,f9]at h15;cases h15
 refine Mk fun H2 w2=>?_
 have j9:H2 i9=some (.obj (cL s) 40):=by rw[w2,es1];grind [upd]
 have j12:H2 i12=some (.obj (opC o) 46):=by rw[w2];unfold opC;grind [upd]
 have j15:H2 i15=some (.obj (cL s) 40):=by rw[w2,es1];grind [upd]
 have s2:Ab.Sub H H2:=by rw[w2];grind [upd,Ab.Sub]
 have n15:i15∉x::did::jid::(spl++spj):=w.w.fresh (aB h15);clear w2;refine jq.join (fun ρ H3=>Ab.Sub H H3∧H3 i9=some (.obj (cL s) 40)∧H3 i15=some (.obj (cL (gQ s q)) 40)∧lk ρ 1=some (.sl (cr.map iA) .no)∧lk ρ 2=some (.i ke)∧lk ρ 7=some (.ptr x 0)∧lk ρ 8=some (.ptr did 0)∧lk ρ 9=some (.ptr i9 0)∧lk ρ 10=some (.i i)∧lk ρ 11=some (.s q)∧lk ρ 14=some (.s (An s q))∧lk ρ 15=some (.ptr i15 0)∧lk ρ 27=some (.sl (l.map .s) .no)∧lk ρ 28=some (.i l.length)∧lk ρ 29=some (.i i)) ?_ fun K1 hK1=>?_
 rotate_left
 ·cases eq2:fV q with
  |none=>
   rw[eq2]at eb;subst eb;have en:gQ s q=s:=by unfold gQ;rw[eq2]
   have ea:An s q= [119,104,97,116]:=by unfold An;rw[eq2];rfl
   rw[en,ea]at hK1;simp only[go_sem,Option.isSome_none];refine hK1 _ _ ⟨s2,j9,j15,?_,?_,?_,?_,?_,?_,?_,?_,?_,?_,?_,?_⟩<;>simp only[go_sem,r1,r2,r7,r8,r9,r27,r28,r29]
  |some o2=>
   rw[eq2]at eb eo;subst eb;have eo2:o2=o:=eo;subst eo2;have o64:=Nc eq2;have hgd:=nh s hG aeK o2 o64;have hrt:=I6 hG.tojA hV o2;have en:gQ s q=(aI s o2).1:=by unfold gQ;rw[eq2]
   have ea:An s q=gr (aI s o2).2.1:=by unfold An;rw[eq2]
   rw[en,ea]at hK1;rw[en]at es2;obtain⟨⟨S,R,Dc,E⟩,eg⟩:∃t,aI s o2=t:=⟨_,rfl⟩;rw[eg]at hgd hK1 es2 hrt;simp only at hK1 es2 hrt;rw[ni,show bY s= .agg (cL s)from rfl,es1,show bY S= .agg (cL S)from rfl,es2]at hgd
   simp only[opA,opC]at hgd;rw[es1]at j9 j15;unfold opC at j12;have x912:i9≠i12:=x12;have x1512:i15≠i12:=fun e=>by
    rw[e,j12]at j15;injection j15 with j
    injection j with _ j
    cases j
   simp only[go_sem,Option.isSome_some];intro i16 h16;have x916:i9≠i16:=fun e=>by rw[←e,j9]at h16;cases h16
   have x1216:i12≠i16:=fun e=>by rw[←e,j12]at h16;cases h16
   have x1516:i15≠i16:=fun e=>by rw[←e,j15]at h16;cases h16
   simp only[go_sem,ak,x916,x1216,x1516,r9,j9,j12];refine(hgd _ (hE.sub (s2.trans (.aj h16)))).pthen ?_;simp only[go_sem,ak,x916,x1216,x1516,x1516.symm,j15];rw[←TA R];refine inH fun H3 w3=>?_
   have c9:H3 i9=some (.obj (cL s) 40):=by rw[w3,es1];grind [upd]
   have c15:H3 i15=some (.obj (cL S) 40):=by rw[w3,es2];grind [upd]
   have y15:=aB h15;have s3:Ab.Sub H H3:=by rw[w3];grind [upd,Ab.Sub]
   clear w3;refine(AZ R hrt H3 (hP.sub s3)).pthen ?_;simp only[go_sem];refine hK1 _ _ ⟨s3,c9,c15,?_,?_,?_,?_,?_,?_,?_,?_,?_,?_,?_,?_⟩<;>simp only[go_sem,r1,r2,r7,r8,r9,r27,r28,r29]
 rintro ρ H3 ⟨s3,f9,f15,r1,r2,r7,r8,r9,r10,r11,r14,r15,r27,r28,r29⟩
 have v:=w.up s3;simp only[go_sem,r7,r11,r14];refine(hstep H3 v).mono fun r H4 ⟨er,spl',spj',w4,hT,hin⟩=>?_
 subst er;have k9:=hT _ _ n9 f9;have k15:=hT _ _ n15 f15;have n9' :i9∉x::did::jid::(spl' ++spj'):=fun hh=>by
  rcases hin _ hh with h1|h1
  ·exact n9 h1
  ·rw[f9]at h1;cases h1
 rw[es2]at k15;rw[es1]at k9;have v9:=w4.upd (some (.obj (cL (gQ s q)) 40)) k9 n9' g9;rw[es2]at v9;have hW:∀n:Int,i64 (IntKind.i64.wrap n):=fun n=>by unfold i64;simp[IntKind.wrap,IntKind.bits,IntKind.signed];omega
 have hf:∀H5,H5=upd H4 i9 (some (.obj [.v (.int .i64 (gQ s q).tick),fM (gQ s q).cases,jV (gQ s q).reviews,kE (gQ s q).notices,dW (gQ s q).roles,b1,b2,b3,b4,b5,b6,b7,.v (.int .i64 (gQ s q).version)] 40))→jl 200000 (i+1) g H5 x jid did (j0 (l.take (i+1))) spl' spj'∧H5 i9=some (.obj (cL (gQ s q)) 40):=fun H5 e=>by rw[e];exact⟨v9,by rw[es2];exact ah ..⟩
 by_cases hcr:i<cr.length
 case' neg=>
  have d1:decide ((i:Int)<(cr.length:Int))=false:=decide_eq_false aeK;simp only[go_sem,bne_self_eq_false,r14,r15,k15,r9,k9,r10,r1,aeA,d1];refine DF fun H5 w5=>?_
  obtain⟨v5,z9⟩:=hf H5 w5;clear w5;refine .quiet aeN ?_;simp only[go_sem,r7,r9]
 case' pos=>
  have d1:decide ((i:Int)<(cr.length:Int))=true:=decide_eq_true aeK;have ic:=fun k=>eu.eq (xs:=cr.map iA) (sz:=1) i (by simpa using hcr) aeU k
  rw[aeB]at ic;simp only[iA]at ic;simp only[go_sem,bne_self_eq_false,r14,r15,k15,r9,k9,r10,r1,aeA,d1,ic];refine⟨aeO,?_⟩;refine Mk fun H5 w5=>?_
  obtain⟨v5,z9⟩:=hf H5 w5;clear w5;refine jq.join (fun ρ H5=>∃x jid spl spj,jl 200000 (i+1) g H5 x jid did (j0 (l.take (i+1))) spl spj∧H5 i9=some (.obj (cL (gQ s q)) 40)∧i9∉x::did::jid::(spl++spj)∧lk ρ 1=some (.sl (cr.map iA) .no)∧lk ρ 2=some (.i ke)∧lk ρ 7=some (.ptr x 0)∧lk ρ 8=some (.ptr did 0)∧lk ρ 9=some (.ptr i9 0)∧lk ρ 27=some (.sl (l.map .s) .no)∧lk ρ 28=some (.i l.length)∧lk ρ 29=some (.i i)) ?_ fun K2 hK2=>?_
  rotate_left
  ·cases c2:(cr[i].tmod 3==0)
   ·simp only[go_sem,c2]
    refine hK2 _ _ ⟨x,jid,spl',spj',v5,z9,n9',?_,?_,?_,?_,?_,?_,?_,?_⟩<;>simp only[go_sem,r1,r2,r7,r8,r9,r27,r28,r29]
   ·obtain⟨kk,ekk⟩:∃kk,IntKind.i64.wrap (ke+(i:Int))=kk:=⟨_,rfl⟩
    have k64:=hW (ke+(i:Int));rw[ekk]at k64;simp only[go_sem,c2,r2,r8,r10,ekk];refine(Lz kk 2000 _ k64 aeO).pthen ?_;simp only[go_sem];refine(Pb _ v5.w.ok did H5 (ya kk 2000) 4 v5.w.disk).mono fun r H6 ⟨hdb,hkb⟩=>?_
    rw[FX]at hdb;have v6:=v5.did hdb hkb;have nd:i9≠did:=fun e=>n9' (by simp[e])
    have z6:=hkb _ _ nd z9;simp only[go_sem,r8];refine(v6.start aeK he).mono fun r H7 ⟨x2,jid2,spl2,spj2,er,v7,_,hk7,hn7⟩=>?_
    subst er;have z7:=hk7 _ _ nd z6;simp only[go_sem];refine hK2 _ _ ⟨x2,jid2,spl2,spj2,v7,z7,fun hh=>?_,?_,?_,?_,?_,?_,?_,?_,?_⟩
    ·simp only[List.mem_cons]at hh hn7
     rcases hh with hh|hh|hh
     ·rw[hn7 _ (.inl hh)]at z6;cases z6
     ·exact nd hh
     ·rw[hn7 _ (.inr hh)]at z6;cases z6
    all_goals simp only[go_sem,r1,r2,r8,r9,r27,r28,r29]
  clear v5 z9 hT hin k9 k15 n9' w4 v
  rintro ρ H5 ⟨x,jid,spl',spj',v5,z9,n9',r1,r2,r7,r8,r9,r27,r28,r29⟩
  simp only[go_sem];refine .quiet aeN ?_;simp only[go_sem,r7,r9]
 all_goals
  have hst:=vm x jid did _ spl' spj' H5 v5.w.eng;have hal:=BT (gQ s q) _ es2 H5;rw[hnx,show bY (gQ s q)= .agg (cL (gQ s q))from rfl,es2]at hst
  rw[show bY (gQ s q)= .agg (cL (gQ s q))from rfl,es2]at hal
  rw[es2]at z9;refine⟨_,hst,?_⟩;simp only[go_sem,r9,z9];refine⟨_,hal,?_⟩;simp only[go_sem,r29,w1];refine⟨_,?_,i+1,x,jid,spl',spj',v5,by rw[hnx,es2];exact z9,n9',aeK,rfl,?_,?_,?_,?_,?_,?_,?_,?_⟩
  ·omega
  all_goals simp only[go_sem,r1,r2,r7,r8,r9,r27,r28]
theorem C0(ev:Value)(hev:ev= .nilIface∨∃te pe,ev= .iface te pe)(x y z:AV)(dx:Dat U 22 x)(dy:Dat U 23 y)(dz:Dat U 3 z):ai prog 3 [x,y,z] (vQ [(3,rC),(2,[ev])]) fun r _=>r= .b true:=(Fw x y z dx dy dz _ (BV hev) ⟨0,rfl⟩).mono fun _ _ h=>h.1
end Go.Proofs.YtokahfmoollblaaGreatDoor
