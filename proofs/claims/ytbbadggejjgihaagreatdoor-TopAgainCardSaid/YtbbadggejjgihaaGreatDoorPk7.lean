/- The law TopAgain: pack 7 of its texts. -/
import Derived.Test.YtbbadggejjgihaaGreatDoorPk1
import Derived.Test.YtbbadggejjgihaaGreatDoorPk2
import Derived.Test.YtbbadggejjgihaaGreatDoorPk3
import Derived.Test.YtbbadggejjgihaaGreatDoorPk4
import Derived.Test.YtbbadggejjgihaaGreatDoorPk5
import Derived.Test.YtbbadggejjgihaaGreatDoorPk6
set_option linter.unusedSimpArgs false
set_option linter.unusedVariables false
set_option maxRecDepth 100000
namespace Go.Bf
open Go Go.Ab
def Ar(t:qi):bu×Bool:=
 if t.kind=2 then(⟨2,t.n,t.s⟩,true)else if t.kind=3 then(⟨4,t.n,t.s⟩,true)else if t.kind=4 then(⟨5,t.n,t.s⟩,true)else if t.kind=5 then(⟨3,t.n,t.s⟩,true)
 else if t.kind=1 then(if t.s= [116,114,117,101]then(⟨1,1,[]⟩,true)else if t.s= [102,97,108,115,101]then(⟨1,0,[]⟩,true)else(aq,false))else(aq,false)
def fQ(s:Txt):bu×Bool:=match pF s with
 |.bad _ _=>(aq,false)
 |.ok ts=>if ts.length=2 then Ar (ts.headD ⟨0,0,0,[]⟩)else(aq,false)
end Go.Bf
namespace Go.Proofs.YtbbadggejjgihaaGreatDoor
open Go Go.Ab Go.Bf
theorem Gj(s:Txt)(h:Heap)(he:iO h):ai Tryz.prog 47 [.s s] h fun r h' =>r= .tup [aS (fQ s).1,.v (.bool (fQ s).2)]∧h' =h:=by
 refine ad3 Tryz.func47 60 [.cell 2 32,.tmp 3] fun hwf=>?_
 simp -implicitDefEqProofs only[go_sem];intro i2 h2;simp -implicitDefEqProofs only[go_sem];refine(xS s _ (he.sub (.aj h2))).pthen ?_;have bad:fQ s=(aq,false)→∀(r:AV) (h' :Heap),r= .tup [aS aq,.b false]∧h' =h→r= .tup [aS (fQ s).1,.v (.bool (fQ s).2)]∧h' =h:=fun e r h' he=>ad5
 cases el:pF s with
 |bad e a=>
  have e1:=tT el;have d1:(e !=0)=true:=ad5;simp -implicitDefEqProofs only[go_sem,Gf,d1,ah];exact .mk _ (.refl _) (.aj h2) (bad (by grind [fQ]) _ _ ⟨rfl,rfl⟩)
 |ok ts=>
  by_cases hl:ts.length=2
  case neg=>
   have d2:((ts.length:Int) !=2)=true:=bne_iff_ne.mpr ad4;simp -implicitDefEqProofs only[go_sem,Gf,adU,d2,ah];exact .mk _ (.refl _) (.aj h2) (bad (by grind [fQ]) _ _ ⟨rfl,rfl⟩)
  have d2:((ts.length:Int) !=2)=false:=ad5;have ix:=fun K=>eE.eq (xs:=ts.map fE) (sz:=4) 0 ad5 aef K
  rw[adV]at ix;have eh:ts.headD ⟨0,0,0,[]⟩=ts[0]:=by
   cases ts with
   |nil=>grind
   |cons a b=>rfl
  have el2:fQ s=Ar ts[0]:=by grind [fQ]
  obtain⟨t,et⟩:∃t,ts[0]=t:=⟨_,rfl⟩;rw[et]at ix el2;simp only[fE,Int.natCast_zero]at ix;simp -implicitDefEqProofs only[go_sem,Gf,adU,d2];refine .last cV [0,1,2,3,4,5,6,7,8,9] (fun _ _ e=>aew) ad7 rfl ad7 rfl ?_
  simp -implicitDefEqProofs only[go_sem,ix,and_self,reduceIte];intro i7 h7;refine⟨fun _ _ e=>aew,?_⟩
  have n72:=aH h7;have k7:=aC h7;have hs7:∀a b c,Ab.Sub h (upd (upd (upd h i2 a) i7 b) i2 c):=fun a b c=>(((Sub.refl h).put h2 a).put k7 b).put h2 c
  simp -implicitDefEqProofs only[go_sem,ix,and_self,reduceIte,ah];cases e2:(t.kind==2)
  case true=>
   simp -implicitDefEqProofs only[go_sem,ah,ak,n72,n72.symm];exact .mk _ (.refl _) ad5 ⟨by rw[el2,Ar,if_pos ad5];rfl,rfl⟩
  cases e3:(t.kind==3)
  case true=>
   simp -implicitDefEqProofs only[go_sem,e3,ah,ak,n72,n72.symm];exact .mk _ (.refl _) ad5 ⟨by rw[el2,Ar,if_neg ad5,if_pos ad5];rfl,rfl⟩
  cases e4:(t.kind==4)
  case true=>
   simp -implicitDefEqProofs only[go_sem,e3,e4,ah,ak,n72,n72.symm];exact .mk _ (.refl _) ad5 ⟨by rw[el2,Ar,if_neg ad5,if_neg ad5,if_pos ad5];rfl,rfl⟩
  cases e5:(t.kind==5)
  case true=>
   simp -implicitDefEqProofs only[go_sem,e3,e4,e5,ah,ak,n72,n72.symm];exact .mk _ (.refl _) ad5 ⟨by rw[el2,Ar,if_neg ad5,if_neg ad5,if_neg ad5,if_pos ad5];rfl,rfl⟩
  cases e1:(t.kind==1)
  ·simp -implicitDefEqProofs only[go_sem,e3,e4,e5,e1,ah,ak,n72,n72.symm]
   exact .mk _ (.refl _) ad5 ⟨by rw[el2,Ar,if_neg ad5,if_neg ad5,if_neg ad5,if_neg ad5,if_neg ad5];rfl,rfl⟩
  have eT:Ar t=if t.s= [116,114,117,101]then(⟨1,1,[]⟩,true)else if t.s= [102,97,108,115,101]then(⟨1,0,[]⟩,true)else(aq,false):=by
   rw[Ar,if_neg ad5,if_neg ad5,if_neg ad5,if_neg ad5,if_pos ad5]
  rw[eT]at el2;cases f1:(t.s== [116,114,117,101])
  ·cases f2:(t.s== [102,97,108,115,101])
   ·simp -implicitDefEqProofs only[go_sem,e3,e4,e5,e1,f1,f2,ah,ak,n72,n72.symm]
    exact .mk _ (.refl _) ad5 ⟨by rw[el2,if_neg ad5,if_neg ad5];rfl,rfl⟩
   ·simp -implicitDefEqProofs only[go_sem,e3,e4,e5,e1,f1,f2,ah,ak,n72,n72.symm]
    exact .mk _ (.refl _) ad5 ⟨by rw[el2,if_neg ad5,if_pos ad5];rfl,rfl⟩
  ·simp -implicitDefEqProofs only[go_sem,e3,e4,e5,e1,f1,ah,ak,n72,n72.symm]
   exact .mk _ (.refl _) ad5 ⟨by rw[el2,if_pos ad5];rfl,rfl⟩
end Go.Proofs.YtbbadggejjgihaaGreatDoor
namespace Go.Bf
open Go Go.Ab Go.Proofs.YtbbadggejjgihaaGreatDoor
def opL(k:Int)(subj reason:Txt)(g:Bool)(s:Txt):OpD×Bool:=
 if k=1 then(⟨k,subj,s,[],[],aq,0,[],reason,g⟩,true)
 else if k=2∨k=6 then(⟨k,subj,(cD s).1,(cD s).2,[],aq,0,[],reason,g⟩,true)
 else if k=3 then(⟨k,subj,(cD s).1,(cD (cD s).2).1,[],(fQ (cD (cD s).2).2).1,0,[],reason,g⟩,(fQ (cD (cD s).2).2).2)
 else if k=4 then(⟨k,subj,(cD s).1,[],(cD s).2,aq,0,[],reason,g⟩,true)
 else if k=5∨k=8 then(⟨k,subj,[],[],[],aq,fG s,[],reason,g⟩,true)
 else if k=7 then(⟨k,subj,[],[],[],aq,0,s,reason,g⟩,true)
 else(⟨k,subj,[],[],[],aq,0,[],reason,g⟩,true)
def jW(s:Txt):Bool×Txt×Txt:=if s.take 1== [33]then(true,(cD (s.drop 1)).1,(cD (s.drop 1)).2)else(false,[],s)
def Km(s:Txt):OpD×Bool:=
 let g:=jW (cD s).2
 opL (tQ (cD g.2.2).1) (cD s).1 g.2.1 g.1 (cD g.2.2).2
def gM(s:Txt):Option OpD:=if(Km s).2 && dD (Km s).1 then some (Km s).1 else none
theorem jM(s:Txt):(cD s).1.length≤s.length∧(cD s).2.length≤s.length:=by
 grind [List.takeWhile_prefix,List.dropWhile_suffix,cD,List.length_drop]
theorem wB(w:Txt):∀f k:Nat,0≤wA f k w∧wA f k w≤(f:Int)+k - 1∨wA f k w=0
 |0,k=> .inr rfl
 |f+1,k=>by
  unfold wA;have:=wB w f (k+1);split<;>omega
theorem wz(w:Txt):0≤tQ w∧tQ w≤8:=by
 have:=wB w 8 1;unfold tQ;omega
end Go.Bf
namespace Go.Proofs.YtbbadggejjgihaaGreatDoor
open Go Go.Ab Go.Bf
theorem kH.join{P:Program}{U:TypeId→TI}{n:Nat}{a b:Code}{K:Exit→Env→Heap→Prop}{ρ:Env}{h:Heap}{y:AV}(I:Env→Heap→Prop)(hK:∀ρ' H',I ρ' H'→K .normal ρ' H')(hc:∀K' :Exit→Env→Heap→Prop,(∀ρ' H',I ρ' H'→K' .normal ρ' H')→kH P U n a b ρ h K' y):kH P U n a b ρ h K y:=hc K hK
def DS(s:Txt):AV:=.tup [opA ((gM s).getD rY),.v (.bool (gM s).isSome)]
def E5:List AV:=[.i 0,.s [],.s [],.s [],.s [],.i 0,.i 0,.s [],.i 0,.s [],.s [],.b false]
theorem Gh(s:Txt)(hs:s.length≤900000)(h:Heap)(he:iO h):ai Tryz.prog 19 [.s s] h fun r h' =>r=DS s∧h' =h:=by
 obtain⟨l1,l2⟩:=jM s;obtain⟨⟨subj,s1⟩,e0⟩:∃x,cD s=x:=⟨_,rfl⟩;rw[e0]at l1 l2;simp only at l1 l2;refine ad3 Tryz.func19 95 [.cell 2 34,.tmp 3] fun hwf=>?_
 simp only[go_sem];intro i2 h2;simp only[go_sem];intro i4 h4;have n42:=aH h4;have k4:=aC h4;simp only[go_sem];refine(lQ s ad4 _).pthen ?_;rw[e0];simp only[go_sem,ah,dZ];refine(SY s1 _).pthen ?_;simp only[go_sem];obtain⟨⟨g,rs,s2⟩,eg⟩:∃x,jW s1=x:=⟨_,rfl⟩;have hraw:Km s=opL (tQ (cD s2).1) subj rs g (cD s2).2:=by simp only[Km,e0,eg]
 have l3:s2.length≤900000:=by
  have h3:=jM (s1.drop 1);rw[List.length_drop]at h3;unfold jW at eg;split at eg<;>(injection eg with _ eg;injection eg with _ eg;subst eg;omega)
 refine kH.join (fun ρ H=>lk ρ 0=some (.s s2)∧lk ρ 2=some (.ptr i2 0)∧lk ρ 4=some (.ptr i4 0)∧lk ρ 6=some (.b true)∧H i4=some (.obj [.i 0,.s subj,.s [],.s [],.s [],.i 0,.i 0,.s [],.i 0,.s [],.s rs,.b g] 34)∧H i2=some (.obj E5 34)∧Ab.Sub h H) ?_ fun K1 hK1=>?_
 rotate_left
 ·cases eh:(s1.take 1== [33])
  ·have eg2:jW s1=(false,[],s1):=by unfold jW;rw[if_neg (by simp[eh])]
   rw[eg2]at eg;injection eg with eg1 eg
   injection eg with eg3 eg
   subst eg1 eg3 eg;simp only[go_sem,eh];exact ajA
  ·have eg2:jW s1=(true,(cD (s1.drop 1)).1,(cD (s1.drop 1)).2):=by unfold jW;rw[if_pos eh]
   rw[eg2]at eg;injection eg with eg1 eg
   injection eg with eg3 eg
   have hne:1≤s1.length:=by
    rcases s1 with _|⟨c,r⟩
    ·cases eh
    ·simp
   simp only[go_sem,eh,ah,dZ];refine⟨ad4,ad4,ad4,?_⟩;rw[show ni s1 1 (s1.length:Int) (some (Operand.const (Value.int .i64 1))).isSome none.isSome=s1.drop 1 from by simp[ni]]
   refine(lQ (s1.drop 1) afE _).pthen ?_;simp only[go_sem,ah,dZ];subst eg1 eg3 eg;exact ajA
 rintro ρ H ⟨r0,r2,r4,r6,f4,f2,hsH⟩
 simp only[go_sem,r0];refine(lQ s2 ad4 _).pthen ?_;obtain⟨⟨w,s3⟩,e3⟩:∃x,cD s2=x:=⟨_,rfl⟩;rw[e3]at hraw;simp only at hraw;rw[e3];simp only[go_sem];refine(O6 w _).pthen ?_;obtain⟨k,ek⟩:∃x,tQ w=x:=⟨_,rfl⟩;rw[ek]at hraw;simp only[go_sem,ek,r4,f4];have hk:=ek▸wz w;obtain⟨o,ok,eo⟩:∃o ok,opL k subj rs g s3=(o,ok):=⟨_,_,rfl⟩;rw[eo]at hraw;have n24:i2≠i4:=n42.symm;have hf2:∀c,Ab.Sub h (upd H i4 c):=fun c=>hsH.put k4 c
 have l4:=jM s2;rw[e3]at l4;have l5:=jM s3;have l6:=jM (cD s3).2;simp only at l4;refine kH.join (fun ρ H=>lk ρ 2=some (.ptr i2 0)∧lk ρ 4=some (.ptr i4 0)∧lk ρ 6=some (.b ok)∧H i4=some (.obj [.i o.kind,.s o.subj,.s o.case,.s o.field,.s o.to,.i o.val.kind,.i o.val.n,.s o.val.s,.i o.review,.s o.text,.s o.reason,.b o.glass] 34)∧H i2=some (.obj E5 34)∧Ab.Sub h H) ?_ fun K2 hK2=>?_
 rotate_left
 ·have hc:k=0∨k=1∨k=2∨k=3∨k=4∨k=5∨k=6∨k=7∨k=8:=by omega
  rcases hc with rfl|rfl|rfl|rfl|rfl|rfl|rfl|rfl|rfl
  ·exact aiN
  ·exact aiN
  ·exact aiy
  ·simp[opL]at eo
   obtain⟨eo,rfl⟩:=eo;subst eo;simp only[go_sem,r0,r4];refine(lQ s3 ad4 _).pthen ?_;simp only[go_sem,r0,r4,ah,dZ];refine(lQ (cD s3).2 ad4 _).pthen ?_;simp only[go_sem,r0,r4,ah,dZ];refine(Gj (cD (cD s3).2).2 _ (he.sub (hf2 _))).pthen ?_;simp only[go_sem,aS,r0,r4,ah,dZ];exact hK2 _ _ ⟨aeE,aey,aeF,by rw[ah],afa,hf2 _⟩
  ·exact aiy
  ·simp[opL]at eo
   obtain⟨eo,rfl⟩:=eo;subst eo;simp only[go_sem,r0,r4];refine(y8 s3 ad4 _).pthen ?_;exact aiC
  ·exact aiy
  ·exact aiN
  ·simp[opL]at eo
   obtain⟨eo,rfl⟩:=eo;subst eo;simp only[go_sem,r0,r4];refine(y8 s3 ad4 _).pthen ?_;exact aiC
 rintro ρ3 H3 ⟨q2,q4,q6,g4,g2,hsH3⟩
 have bad:gM s=none→DS s= .tup [opA rY,.b false]:=fun e=>by
  unfold DS;rw[e];rfl
 cases ok
 ·simp only[go_sem,q2,q4,q6,g4,g2,E5]
  exact .mk _ (.refl _) (hsH3.put h2 _) ⟨(bad (by unfold gM;rw[hraw];rfl)).symm,rfl⟩
 simp only[go_sem,q2,q4,q6,g4];have hfo:=B9 o H3;rw[opA]at hfo;refine hfo.pthen ?_;cases ef:dD o
 ·simp only[go_sem,q2,q4,q6,g4,g2,E5]
  exact .mk _ (.refl _) (hsH3.put h2 _) ⟨(bad (by unfold gM;rw[hraw];simp[ef])).symm,rfl⟩
 ·simp only[go_sem,q2,q4,q6,g4,g2,E5]
  exact .mk _ (.refl _) (hsH3.put h2 _) ⟨by unfold DS gM;rw[hraw];simp only[ef,Bool.and_self,if_true];rfl,rfl⟩
end Go.Proofs.YtbbadggejjgihaaGreatDoor
namespace Go.Bf
open Go Go.Ab Go.Proofs.YtbbadggejjgihaaGreatDoor
def A7(m:aT):Txt:=
 if m=naM then [78,111,116,65,112,112,108,105,99,97,98,108,101]else if m=bg then [80,101,114,109,105,116]else if m=cJ then [68,101,110,121]
 else if m=wj then [73,110,100,101,116,101,114,109,105,110,97,116,101,123,80,125]else if m=wh then [73,110,100,101,116,101,114,109,105,110,97,116,101,123,68,125]
 else if m=mT then [73,110,100,101,116,101,114,109,105,110,97,116,101,123,68,80,125]else []
def gE(r:ja):Txt:=
 if r.err=12∧r.mark≠bg then [100,101,110,105,101,100,32]++A7 r.mark
 else if r.err≠0∧0<r.at_ then [101,114,114,111,114,32]++Lib.itoa r.err++ [32,97,116,32]++Lib.itoa r.at_
 else if r.err≠0 then [101,114,114,111,114,32]++Lib.itoa r.err
 else if r.glass then [103,108,97,115,115]else if r.hidden then [104,105,100,100,101,110]
 else if r.val.kind=0∧r.val.n=0∧r.val.s= []then [111,107]else [111,107,32]++zN r.val
theorem J6(m:aT):(A7 m).length≤20:=by
 unfold A7
 repeat' split
 all_goals decide
theorem Qg(v:bu)(h:inV v):(zN v).length≤194:=by
 unfold zN;split
 ·rename_i hv
  exact Qh hv h.1 h.2
 simp
end Go.Bf
namespace Go.Proofs.YtbbadggejjgihaaGreatDoor
open Go Go.Ab Go.Bf
theorem MK(m:aT)(hmm:M9 m)(h:Heap):ai Tryz.prog 62 [aO m] h fun r h' =>r= .s (A7 m)∧h' =h:=by
 obtain⟨n1,n2,n3,n4,n5,n6⟩:=nb hmm;refine ad3 Tryz.func62 16 [.tmp 2] fun hwf=>?_
 unfold A7;cases d1:(m==naM)
 case true=>simp -implicitDefEqProofs only[go_sem,aO,n1,d1];exact .same (.refl _) ⟨by rw[if_pos ad5];rfl,rfl⟩
 cases d2:(m==bg)
 case true=>simp -implicitDefEqProofs only[go_sem,aO,n1,n2,d1,d2];exact .same (.refl _) ⟨by rw[if_neg ad5,if_pos ad5];rfl,rfl⟩
 cases d3:(m==cJ)
 case true=>simp -implicitDefEqProofs only[go_sem,aO,n1,n2,n3,d1,d2,d3];exact .same (.refl _) ⟨by rw[if_neg ad5,if_neg ad5,if_pos ad5];rfl,rfl⟩
 cases d4:(m==wj)
 case true=>simp -implicitDefEqProofs only[go_sem,aO,n1,n2,n3,n4,d1,d2,d3,d4];exact .same (.refl _) ⟨by rw[if_neg ad5,if_neg ad5,if_neg ad5,if_pos ad5];rfl,rfl⟩
 cases d5:(m==wh)
 case true=>simp -implicitDefEqProofs only[go_sem,aO,n1,n2,n3,n4,n5,d1,d2,d3,d4,d5];exact .same (.refl _) ⟨by rw[if_neg ad5,if_neg ad5,if_neg ad5,if_neg ad5,if_pos ad5];rfl,rfl⟩
 cases d6:(m==mT)
 case true=>simp -implicitDefEqProofs only[go_sem,aO,n1,n2,n3,n4,n5,n6,d1,d2,d3,d4,d5,d6];exact .same (.refl _) ⟨by rw[if_neg ad5,if_neg ad5,if_neg ad5,if_neg ad5,if_neg ad5,if_pos ad5];rfl,rfl⟩
 simp -implicitDefEqProofs only[go_sem,aO,n1,n2,n3,n4,n5,n6,d1,d2,d3,d4,d5,d6];exact .same (.refl _) ⟨by rw[if_neg ad5,if_neg ad5,if_neg ad5,if_neg ad5,if_neg ad5,if_neg ad5];rfl,rfl⟩
structure Fc (r:ja):Prop where
 mark:M9 r.mark
 err: -9223372036854775808≤r.err∧r.err≤9223372036854775807
 at_: -9223372036854775808≤r.at_∧r.at_≤9223372036854775807
 val:inV r.val
theorem IU(r:ja)(hr:Fc r)(h:Heap)(ht:xL h):ai Tryz.prog 21 [.agg (mb r)] h fun y h' =>y= .s (gE r)∧h' =h:=by
 have np:=(nb hr.mark).npe;have hl:lim=9223372036854775808:=rfl;have hi1:=Lib.itoa_length_le r.err hr.err.1 hr.err.2;have hi2:=Lib.itoa_length_le r.at_ hr.at_.1 hr.at_.2;have hnl:=J6 r.mark;refine ad3 Tryz.func21 57 [.tmp 2] fun hwf=>?_
 simp -implicitDefEqProofs only[go_sem,mb];intro id hid;have ht2:∀b,xL (upd h id b):=fun b=>ht.sub (.aj hid)
 cases d1:(r.err==12)
 case true=>
  have e1:r.err=12:=ad5;cases d2:(r.mark==bg)
  case false=>
   simp -implicitDefEqProofs only[go_sem,aO,np,d1,d2];refine(MK r.mark hr.mark _).pthen ?_;have c1:0+7+(A7 r.mark).length<lim:=ad4;simp -implicitDefEqProofs only[go_sem,c1];exact .mk _ (.refl _) (.aj hid) ⟨by unfold gE;rw[if_pos ⟨e1,ad5⟩];rfl,rfl⟩
  case true=>
   have d3:(r.err !=0)=true:=ad5;cases d4:decide (r.at_>0)
   ·simp -implicitDefEqProofs only[go_sem,aO,np,d1,d2,d3,d4]
    exact ai9
   ·simp -implicitDefEqProofs only[go_sem,aO,np,d1,d2,d3,d4]
    exact aiE
 have e1:r.err≠12:=ad5;cases d3:(r.err !=0)
 case true=>
  cases d4:decide (r.at_>0)
  ·simp -implicitDefEqProofs only[go_sem,d1,d3,d4]
   exact ai9
  ·simp -implicitDefEqProofs only[go_sem,d1,d3,d4]
   exact aiE
 have e0:r.err=0:=ad5;cases d5:r.glass
 case true=>
  simp -implicitDefEqProofs only[go_sem,d1,d3,d5];exact .mk _ (.refl _) (.aj hid) ⟨by unfold gE;rw[if_neg ad5,if_neg ad5,if_neg ad5,if_pos d5];rfl,rfl⟩
 cases d6:r.hidden
 case true=>
  simp -implicitDefEqProofs only[go_sem,d1,d3,d5,d6];exact .mk _ (.refl _) (.aj hid) ⟨by unfold gE;rw[if_neg ad5,if_neg ad5,if_neg ad5,if_neg ad5,if_pos d6];rfl,rfl⟩
 cases d7:(r.val.kind==0 && (r.val.n==0 && r.val.s== []))
 case true=>
  simp -implicitDefEqProofs only[go_sem,d1,d3,d5,d6,d7];exact .mk _ (.refl _) (.aj hid) ⟨by unfold gE;rw[if_neg ad5,if_neg ad5,if_neg ad5,if_neg ad5,if_neg ad5,if_pos ad5];rfl,rfl⟩
 simp -implicitDefEqProofs only[go_sem,d1,d3,d5,d6,d7];have hv:=fun H hH=>NZ Kk r.val hr.val H hH
 simp only[aS]at hv;refine(hv _ (ht2 _)).pthen ?_;have c1:0+3+(zN r.val).length<lim:=by
  have:=Qg r.val hr.val;omega
 simp -implicitDefEqProofs only[go_sem,c1];exact .mk _ (.refl _) (.aj hid) ⟨by unfold gE;rw[if_neg ad5,if_neg ad5,if_neg ad5,if_neg ad5,if_neg ad5,if_neg ad5];rfl,rfl⟩
end Go.Proofs.YtbbadggejjgihaaGreatDoor
namespace Go.Bf
open Go Go.Ab Go.Proofs.YtbbadggejjgihaaGreatDoor
def qd(e:cG)(d:D)(s:Txt):cG×D×Txt:=match gM s with
 |none=>(e,d,[119,104,97,116])
 |some o=>((doE e d o).1,(doE e d o).2.1,gE (doE e d o).2.2)
end Go.Bf
namespace Go.Proofs.YtbbadggejjgihaaGreatDoor
open Go Go.Ab Go.Bf
theorem rS.line{h0 h:Heap}{x jid did:Nat}{e:cG}{d:D}{spl spj:List Nat}(w:rS h0 h x jid did e d spl spj)(s:Txt)(hl:s.length≤900000)(hps:e.ps.length≤1000000)(hlg:e.log.length≤1000000){k:Nat}(hG:gD k e.s)(hk:k≤1000)(her:iO h0)(ht:xL h0)(h64:∀o,gM s=some o→ou o)(hok:(qd e d s).2.1.ok)(hr:∀o,gM s=some o→Fc (doE e d o).2.2):
  ai Tryz.prog 10 [.ptr x 0,.s s] h fun r h' =>r= .s (qd e d s).2.2∧∃spl' spj',rS h0 h' x jid did (qd e d s).1 (qd e d s).2.1 spl' spj'∧Touch (x::did::jid::(spl++spj)) h h'∧(∀i∈x::did::jid::(spl' ++spj'),i∈x::did::jid::(spl++spj)∨h i=none):=by
 refine ad3 Tryz.func10 18 [.tmp 4] fun hwf=>?_
 simp -implicitDefEqProofs only[go_sem];refine(Gh s hl _ (her.sub w.sub)).pthen ?_;unfold DS;cases eo:gM s with
 |none=>
  simp -implicitDefEqProofs only[go_sem];intro i hi;simp -implicitDefEqProofs only[go_sem,Option.isSome_none,Option.getD_none,opA,opC,rY,ah,dZ];refine .mk _ (.refl _) (.aj hi) ⟨by unfold qd;rw[eo];rfl,spl,spj,by grind [qd],.refl _ _,fun j hj=> .inl hj⟩
 |some o=>
  have ee:qd e d s=((doE e d o).1,(doE e d o).2.1,gE (doE e d o).2.2):=by grind [qd]
  rw[ee]at hok;have hr:=hr o eo;have h64:=h64 o eo;simp -implicitDefEqProofs only[go_sem];intro i hi;simp -implicitDefEqProofs only[go_sem,Option.isSome_some,Option.getD_some,opA,opC,aS,ah,dZ];generalize hH:upd h i _=H;have hsH:Ab.Sub h H:=by rw[←hH];exact .aj hi
  refine(show ai Tryz.prog _ [.ptr x 0,opA o] _ _ from((w.up hsH).doS o hps hlg hG hk h64 her hok).mono fun r H2 ⟨er,spl',spj',w2,hT,hin⟩=>?_)
  subst er;simp -implicitDefEqProofs only[go_sem];refine(IU _ hr _ (ht.sub w2.sub)).pthen ?_;simp -implicitDefEqProofs only[go_sem];exact .same (.refl _) ⟨by rw[ee];rfl,spl',spj',ad5,(Touch.of (S:=[]) hsH).trans hT,fun i hi=>(hin i hi).imp id hsH.none⟩
end Go.Proofs.YtbbadggejjgihaaGreatDoor
namespace Go.Bf
open Go Go.Ab
def eqT(a b:fY):Bool:=eqL (eqL (eqL OP)) a b
def eqR(r s:cU):Bool:=r.id==s.id && (r.deny==s.deny && (eqT r.tgt s.tgt && (eqL Sk r.cond s.cond && eqL tF r.obls s.obls)))
mutual
def eqP:bD→bD→Bool
 |.mk i1 s1 a1 t1 r1 k1 o1,.mk i2 s2 a2 t2 r2 k2 o2=>i1==i2 && (s1==s2 && (a1==a2 && (eqT t1 t2 && (eqL tF o1 o2 && (eqL eqR r1 r2 && eqK k1 k2)))))
def eqK:List bD→List bD→Bool
 | [],[]=>true
 |x::a,y::b=>eqP x y && eqK a b
 |_,_=>false
end
end Go.Bf
namespace Go.Bf
open Go Go.Ab Go.Proofs.YtbbadggejjgihaaGreatDoor
theorem OL{k n:Nat}{e:cG}{b:Txt}{sy:Nat}(o:OpD)(hd:e.down=false)(hG:gD k e.s)(hok:D.ok ⟨n,b,sy,0,false⟩):
  ∃e' b' sy' RR,doE e ⟨n,b,sy,0,false⟩ o=(e',⟨n,b',sy',0,false⟩,RR)∧D.ok ⟨n,b',sy',0,false⟩∧e'.down=false∧e'.ps.length≤e.ps.length+1∧e'.log.length≤e.log.length+1∧gD (k+1) e'.s∧
   (((aJ e.s o).2.2.2≠0∧RR=(aJ e.s o).2.1∧e' =e)∨((aJ e.s o).2.2.2=0∧n<b.length+16+(iq o).length∧RR=Dh 8∧e' =e)∨((aJ e.s o).2.2.2=0∧b.length+16+(iq o).length≤n∧RR=(aJ e.s o).2.1∧e' =QX e o)):=by
 have up:gD (k+1) e.s:={hG.tojr.up with ticks:=hG.ticks}
 have hl:(frame (dY e.ch o)).length=16+(iq o).length:=by grind [fP,dY,iR]
 by_cases hg:(aJ e.s o).2.2.2=0
 case neg=>exact⟨e,b,sy,_,QI _ hd hg,hok,hd,ad4,ad4,up,.inl ⟨hg,rfl,rfl⟩⟩
 by_cases hr:b.length+16+(iq o).length≤n
 ·refine⟨_,_,_,_,HC (d:=⟨n,b,sy,0,false⟩) hd hg rfl rfl ad5,⟨?_,hok.2.1,Nat.le_refl _,hok.2.2.2⟩,rfl,aec,by simp[nF],qN o hG,.inr (.inr ⟨hg,hr,rfl,rfl⟩)⟩
  grind
 ·exact⟨e,b,sy,_,HB (d:=⟨n,b,sy,0,false⟩) hd hg rfl ad5,hok,hd,ad4,ad4,up,.inr (.inl ⟨hg,ad4,rfl,rfl⟩)⟩
end Go.Bf
namespace Go.Proofs.YtbbadggejjgihaaGreatDoor
open Go Go.Ab Go.Bf
theorem Dz{k:Nat}{s:an}(h:jr k s)(o:OpD):M9 (aJ s o).2.1.mark∧M9 (aJ s o).2.2.1.mark:=by
 have hm:M9 (gG s o).1:=(xu _ _).m9;unfold aJ;split
 ·exact⟨M9.na,M9.na⟩
 ·split
  ·exact⟨M9.na,M9.na⟩
  ·exact⟨hm,hm⟩
end Go.Proofs.YtbbadggejjgihaaGreatDoor
namespace Go.Bf
open Go Go.Ab Go.Proofs.YtbbadggejjgihaaGreatDoor
structure CJ (e:cG) (b:Txt):Prop where
 ok:CI e
 b:b=frames e.ps
 len:∀p∈e.ps,9≤p.length∧p.length≤5008
 log:e.log.length=e.ps.length
theorem Df:CJ (jN []) []:=⟨rfl,rfl,fun p hp=>(by cases hp),rfl⟩
theorem LS{n:Nat}{e:cG}{b:Txt}{sy:Nat}{o:OpD}(hd:e.down=false)(h64:ou o)(hw:CJ e b){e' :cG}{b' :Txt}{sy' :Nat}{R:ja}(he:doE e ⟨n,b,sy,0,false⟩ o=(e',⟨n,b',sy',0,false⟩,R)):
  CJ e' b'∧(e'.ps=e.ps∨dD o=true∧e'.ps=e.ps++ [dY e.ch o])∧(sy=b.length→sy' =b'.length):=by
 have stay:e' =e→b' =b→sy' =sy→CJ e' b'∧(e'.ps=e.ps∨dD o=true∧e'.ps=e.ps++ [dY e.ch o])∧(sy=b.length→sy' =b'.length):=fun h1 h2 h3=>by
  subst h1 h2 h3;exact⟨hw,.inl rfl,fun h=>h⟩
 have hl:(frame (dY e.ch o)).length=16+(iq o).length:=by grind [fP,dY,iR]
 by_cases hg:(aJ e.s o).2.2.2=0
 case neg=>
  rw[QI _ hd hg]at he;injection he with h1 h2
  injection h2 with h2 _
  injection h2 with _ h3 h4
  exact stay h1.symm h3.symm h4.symm
 by_cases hr:b.length+16+(iq o).length≤n
 ·rw[HC (d:=⟨n,b,sy,0,false⟩) hd hg rfl rfl ad5]at he
  injection he with h1 h2
  injection h2 with h2 _
  injection h2 with _ h3 h4
  subst h1 h3 h4;have hrl:=ur (h:=e.ch) (nY (jv hg));refine⟨⟨Sj hw.ok hg h64,?_,?_,?_⟩,.inr ⟨jv hg,rfl⟩,fun _=>rfl⟩
  ·show b++frame _=frames (e.ps++ [_])
   rw[vY,hw.b]
  ·intro p hp
   rcases List.mem_append.1 hp with hp|hp
   ·exact hw.len p hp
   grind
  ·simp[nF,hw.log]
 ·rw[HB (d:=⟨n,b,sy,0,false⟩) hd hg rfl ad5]at he
  injection he with h1 h2
  injection h2 with h2 _
  injection h2 with _ h3 h4
  exact stay h1.symm h3.symm h4.symm
theorem Nf{o:OpD}(hf:OpF o){T:Nat}(ht:o.text.length≤T):(iq o).length≤T+400:=by
 unfold iq;simp only[adY];have h1:=iU o.kind;have h2:=dj o.subj;have h3:=dj o.case;have h4:=dj o.field;have h5:=dj o.to;have h6:=xI hf.val;have h7:=iU o.review;have h8:=dj o.text;have h9:=dj o.reason;have h10:=xI (v:=dL o.glass) (.inr (zK _));have:=hf.subj;have:=hf.case;have:=hf.field;have:=hf.to;have:=hf.reason;omega
theorem zO{e:cG}{b:Txt}(hW:CJ e b):scan b=(e.ps,b.length):=by
 have:=Ku e.ps [] (fun p hp=>by have:=hW.len p hp;omega) ad9
 rw[List.append_nil,←hW.b]at this;exact aeN
theorem Hi{e:cG}{n sy:Nat}{b:Txt}(hW:CJ e b)(hok:D.ok ⟨n,b,sy,0,false⟩):D.bV ⟨n,b,sy,0,false⟩=(⟨n,b,b.length,0,false⟩,0):=by
 rw[D.SV hok rfl rfl];simp only[zO hW,List.take_length]
end Go.Bf
namespace Go.Proofs.YtbbadggejjgihaaGreatDoor
open Go Go.Ab Go.Bf
theorem MR(l:List cy):eqL tF l l=true:=yh rfl fun j _ _=>by simp[tF]
theorem J0(l:List oU)(h9:∀d∈l,M9 d.mark)(hl:l.length≤1000000)(q1 q2:Perm)(h:Heap):ai Tryz.prog 16 [.sl (l.map ldA) q1,.sl (l.map ldA) q2] h fun r h' =>r= .b true∧h' =h:=by
 refine ad3 Tryz.func16 81 [.tmp 4] fun hwf=>?_
 simp only[go_sem,adU,bne_self_eq_false];refine .intro (fun m ρ H=>∃(i:Nat),H=h∧i≤l.length∧m=l.length - i∧lk ρ 0=some (.sl (l.map ldA) q1)∧lk ρ 1=some (.sl (l.map ldA) q2)∧lk ρ 12=some (.i l.length)∧lk ρ 13=some (.i i)) l.length ?_ ?_
 ·refine⟨0,rfl,ad4,rfl,?_,?_,?_,?_⟩<;>simp only[go_sem]
  all_goals rfl
 rintro m ρ H ⟨i,rfl,hi,rfl,r0,r1,r12,r13⟩
 by_cases hlt:i<l.length
 ·have t1:decide ((i:Int)<(l.length:Int))=true:=decide_eq_true ad4
  have w1:IntKind.i64.wrap ((i:Int)+1)=((i+1:Nat):Int):=aej;have m9:=h9 _ (adZ hlt);obtain⟨d,ed⟩:∃d,l[i]=d:=⟨_,rfl⟩;rw[ed]at m9;have ix:=fun(K:AV→Prop)=>eE.eq (xs:=l.map ldA) (sz:=16) i ad5 aef K
  rw[adV,ed]at ix;simp only[ldA,tr,opC,aO,ay,List.cons_append,List.nil_append]at ix;have qn:∀K,gp .neq (.complex .f64 (hbit d.mark.1) (hbit d.mark.2)) (.complex .f64 (hbit d.mark.1) (hbit d.mark.2)) K=K (.b false):=fun K=>by simp_all [A9,beq_self_eq_true]
  simp only[go_sem,r12,r13,t1,Bool.and_self,Bool.not_true];refine .quiet ad7 ?_;simp only[go_sem,r0,r1,ix,bne_self_eq_false,beq_self_eq_true,Bool.and_self,Bool.not_true,and_self,reduceIte,qn];refine⟨_,show ai Tryz.prog _ [ay d.obls,ay d.obls] _ _ from GH _ _ _,?_⟩
  rw[MR];simp only[go_sem,r13,w1];refine⟨_,?_,i+1,rfl,ad4,rfl,?_,?_,?_,?_⟩
  ·omega
  all_goals simp only[go_sem,r0,r1,r12]
 ·have t1:decide ((i:Int)<(l.length:Int))=false:=decide_eq_false ad4
  simp only[go_sem,r12,r13,t1];exact aeU
theorem R3{k:Nat}{s:an}(hG:gD k s)(o:OpD):(aJ s o).2.2.1.obls.length≤10000000∧M9 (aJ s o).2.2.1.mark:=by
 refine⟨?_,(Dz hG.tojr o).2⟩;unfold aJ;split
 ·exact agb
 ·split
  ·exact agb
  ·exact Dl _ hG.mA
theorem Dr:∀(l:List Txt) {e e' :cG} {k:Nat},lE e l=some e'→gD k e.s→(∀d∈e.log,d.obls.length≤10000000∧M9 d.mark)→(∀d∈e'.log,d.obls.length≤10000000∧M9 d.mark)
 | [],e,e',k,h,_,hl=>by cases h;omega
 |p::l,e,e',k,h,hG,hl=>by
  simp only[lE]at h;cases hs:kr e p with
  |none=>grind
  |some e1=>
   rw[hs]at h;refine Dr l h (Tb hs hG) fun d hd=>?_
   unfold kr at hs;cases hr:iZ e p with
   |none=>grind
   |some o=>
    rw[hr]at hs;simp only at hs;split at hs
    ·cases hs
     rcases List.mem_append.1 hd with hd|hd
     ·grind
     grind [List.mem_singleton,R3]
    grind
theorem SF{e:cG}(he:CI e):∀d∈e.log,d.obls.length≤10000000∧M9 d.mark:=
 Dr e.ps (e' :={e with down:=false}) he sA (fun d hd=>by cases hd)
theorem EP(y:cG){n:Nat}{B:Txt}(hW:CJ y B)(hdn:y.down=false)(hps:y.ps.length≤900)(d:D)(hdo:d.ok)(hop:d.bV=(⟨n,B,B.length,0,false⟩,0))(hsc:(scan d.b).1=y.ps)(did:Nat)(g H:Heap)(hdk:bQ H did d)(hs:Ab.Sub g H)(hn:g did=none)(her:iO g):
  ai Tryz.prog 14 [.ptr did 0] H fun r H' =>∃x jid spl spj,r= .tup [.ptr x 0,.i 0]∧rS g H' x jid did y ⟨n,B,B.length,0,false⟩ spl spj∧Keep did H H'∧(∀i∈x::jid::(spl++spj),H i=none):=
 (NC d hdo did H hdk (her.sub hs) ad5).mono fun r H' ⟨h1,h2,h3⟩=>by
  have hok:=D.MW hdo;rw[hop]at h1 h3 hok;unfold uH at h3;have hy:vB y.ps=some y:=by
   have:=hW.ok;rw[this];obtain⟨_,_,_,_,_⟩:=y;cases hdn;rfl
  rw[hsc,hy]at h3;obtain⟨x,jid,spl,spj,a,b,c⟩:=h3;exact⟨x,jid,spl,spj,a,⟨b,h1,hok,zE hs h2 hn,fun i hi=>by
   simp only[List.mem_cons]at hi c;rcases hi with rfl|rfl|hi
   ·exact hs.none (c _ (.inl rfl))
   ·omega
   ·exact hs.none (c _ (.inr hi))⟩,h2,c⟩
theorem pX.join{P:Program}{U:TypeId→TI}{n:Nat}{c:Code}{K:Exit→Env→Heap→Prop}{ρ:Env}{h:Heap}(ex:Exit)(I:Env→Heap→Prop)(hK:∀ρ' H',I ρ' H'→K ex ρ' H')(hc:∀K' :Exit→Env→Heap→Prop,(∀ρ' H',I ρ' H'→K' ex ρ' H')→pX P U n c ρ h K'):pX P U n c ρ h K:=hc K hK
theorem FW{s:an}{o:OpD}(h:(aJ s o).2.2.2≠0):(aJ s o).1=s:=by
 unfold aJ at h⊢
 grind
theorem LO{x:AV}(h:Dat U 22 x):∃l:List Txt,x= .sl (l.map .s) .no∧l.length≤maxLen∧∀s∈l,s.length≤maxLen:=h.list (e:=9) aeg fun y hy=>hy.P5 aeg
end Go.Proofs.YtbbadggejjgihaaGreatDoor
namespace Go.Bf
open Go Go.Ab Go.Proofs.YtbbadggejjgihaaGreatDoor
theorem jk:i64 0:=⟨ad9,ad9⟩
theorem Me:i64 1:=⟨ad9,ad9⟩
theorem VV(neg:Bool)(s:Txt):i64 (eS neg s).1:=by
 unfold eS;simp only;split
 ·exact aih
 ·generalize (if neg=true then -(mu (s.takeWhile dgt):Int)else(mu (s.takeWhile dgt):Int))=v
  split
  ·assumption
  ·exact aih
theorem Ly(s:Txt):i64 (bN s).1.n:=by
 unfold bN;simp only
 (repeat' split)<;>first|exact VV _ _|exact jk
theorem Ge:∀(f:Nat) (s:Txt) (a:Nat) (out l:List qi),qo f s a out= .ok l→(∀t∈out,i64 t.n)→∀t∈l,i64 t.n
 |0,_,_,_,_,h,_=>by simp[qo]at h
 |f+1,[],a,out,l,h,ho=>by
  simp only[qo,Lexed.ok.injEq]at h;subst h;intro t ht;rcases List.mem_append.1 ht with ht|ht
  ·exact ho t ht
  ·rw[List.mem_singleton.1 ht];exact jk
 |f+1,c::r,a,out,l,h,ho=>by
  simp only[qo]at h;split at h
  ·exact Ge f r _ _ l h ho
  ·split at h
   ·cases h
   ·refine Ge f _ _ _ l h fun t ht=>?_
    rcases List.mem_append.1 ht with ht|ht
    ·exact ho t ht
    ·rw[List.mem_singleton.1 ht];exact Ly _
theorem VN(s:Txt):i64 (fQ s).1.kind∧i64 (fQ s).1.n:=by
 have hk:∀k:Nat,k≤5→i64 (k:Int):=fun k h=>⟨ad4,ad4⟩
 unfold fQ;cases h:pF s with
 |bad e a=>exact⟨jk,jk⟩
 |ok ts=>
  have ht:∀t∈ts,i64 t.n:=by
   unfold pF at h;split at h
   ·cases h
   ·exact Ge _ _ _ _ _ h fun t ht=>by cases ht
  simp only;split
  ·have hd:i64 (ts.headD ⟨0,0,0,[]⟩).n:=by
    cases ts with
    |nil=>exact jk
    |cons a b=>exact ht a aec
   unfold Ar
   (repeat' split)<;>first|exact⟨hk 2 ad9,hd⟩|exact⟨hk 4 ad9,hd⟩|exact⟨hk 5 ad9,hd⟩|exact⟨hk 3 ad9,hd⟩|exact⟨Me,Me⟩|exact⟨Me,jk⟩|exact⟨jk,jk⟩
  ·exact⟨jk,jk⟩
theorem SN(s:Txt):i64 (Go.Bf.fG s):=by
 unfold Go.Bf.fG;split
 ·exact aih
 ·rename_i h
  simp only[not_or]at h;have h1:∀c∈s,dgt c=true:=by simpa using h.2.2.2
  have h2:=Hz s h1;have h3:10 ^ s.length≤10 ^ 9:=Nat.pow_le_pow_right ad9 ad4;constructor<;>omega
theorem V1(k:Int)(hk:0≤k∧k≤8)(a b:Txt)(g:Bool)(s:Txt):ou (opL k a b g s).1:=by
 have hk:i64 k:=by constructor<;>omega
 have z:i64 aq.kind∧i64 aq.n:=⟨jk,jk⟩;have h1:=VN (cD (cD s).2).2;have h2:=SN s;unfold opL
 (repeat' split)<;>first|exact⟨hk,z.1,z.2,jk⟩|exact⟨hk,h1.1,h1.2,jk⟩|exact⟨hk,z.1,z.2,h2⟩
theorem SE{s:Txt}{o:OpD}(h:gM s=some o):ou o:=by
 unfold gM at h;split at h
 ·cases h
  exact V1 _ (wz _) _ _ _ _
 ·cases h
theorem MU(k:Int)(a b:Txt)(g:Bool)(s:Txt):(opL k a b g s).1.text.length≤s.length:=by
 unfold opL
 (repeat' split)<;>first|exact Nat.zero_le _|exact Nat.le_refl _
theorem FV(s:Txt):(jW s).2.2.length≤s.length:=by
 unfold jW;split
 ·have:=(jM (s.drop 1)).2
  simp only[List.length_drop]at this⊢;omega
 ·exact Nat.le_refl _
theorem JX{s:Txt}{o:OpD}(h:gM s=some o):dD o=true∧o.text.length≤s.length:=by
 unfold gM at h;split at h
 ·rename_i h1
  cases h;simp only[Bool.and_eq_true]at h1;refine⟨h1.2,?_⟩;unfold Km;simp only;have h1:=MU (tQ (cD (jW (cD s).2).2.2).1) (cD s).1 (jW (cD s).2).2.1 (jW (cD s).2).1 (cD (jW (cD s).2).2.2).2;have h2:=(jM (jW (cD s).2).2.2).2;have h3:=FV (cD s).2;have h4:=(jM s).2;omega
 ·cases h
def kP(s:an):Prop:=∀c∈s.cases,∀f∈c.fields,inV f.val
theorem NW:kP xh:=fun c hc=>by cases hc
theorem G8{l:List cN}(h:∀f∈l,inV f.val)(n:Txt):inV (dQ l n):=by
 unfold dQ;split
 ·rename_i f hf;exact h f (List.mem_of_find?_eq_some hf)
 ·exact aih
theorem KQ{s:an}(h:kP s)(id n:Txt):inV (dQ (bw s.cases id).fields n):=by
 refine G8 (fun f hf=>?_) n
 unfold bw at hf;split at hf
 ·rw[List.getD_eq_getElem?_getD]at hf
  cases hg:s.cases[findD s.cases id]? with
  |none=>rw[hg]at hf;cases hf
  |some c=>rw[hg]at hf;exact h c (List.mem_of_getElem? hg) f hf
 ·cases hf
theorem Hf{l:List cN}(h:∀f∈l,inV f.val)(n:Txt){v:bu}(hv:inV v):∀f∈eD l n v,inV f.val:=by
 intro f hf;unfold eD at hf;simp only at hf;split at hf
 ·grind
 ·split at hf
  ·rcases List.mem_or_eq_of_mem_set hf with hf|rfl
   ·exact h f hf
   ·exact hv
  ·simp only[List.mem_append,List.mem_singleton]at hf
   rcases hf with(hf|rfl)|hf
   ·exact h f (List.mem_of_mem_take hf)
   ·exact hv
   ·exact h f (List.mem_of_mem_drop hf)
theorem Qi{s:an}{o:OpD}(h:kP s)(ho:inV o.val):kP (dO aR s o):=by
 unfold dO;split
 ·unfold doD
  simp only;intro c hc;split at hc
  ·simp only[List.mem_append,List.mem_singleton]at hc
   rcases hc with(hc|rfl)|hc
   ·exact h c (List.mem_of_mem_take hc)
   ·intro f hf;cases hf
   ·exact h c (List.mem_of_mem_drop hc)
  ·split at hc
   ·rcases mem_modify hc with hc|⟨hi,rfl⟩
    ·exact h c hc
    ·exact Hf (h _ (adZ hi)) _ ho
   ·split at hc
    ·exact ajQ
    ·(repeat' split at hc)<;>exact h c hc
 ·exact ah0
theorem KR{o:OpD}{d:Bool}{s:an}(x:cy)(h:kP s):kP (fj o d s x):=by
 unfold fj;split
 ·unfold iF
  split
  ·intro c hc
   exact ajQ
  ·exact ah0
 ·(repeat' split)<;>exact h
theorem wU{o:OpD}{d:Bool}:∀(l:List cy) {s:an},kP s→kP (dw s o l d)
 | [],_,h=>h
 |x::l,_,h=>wU l (KR x h)
theorem He{s:an}{o:OpD}(h:kP s)(ho:inV o.val):kP (aJ s o).1:=by
 unfold aJ;split
 ·exact ah0
 ·split
  ·exact ah0
  ·unfold cS
   simp only;have h1:kP (if fA s o then bV s o o.reason else s):=by split<;>exact h
   refine wU _ ?_;split
   ·exact Qi h1 ho
   ·exact h1
theorem PL{k:Nat}{s:an}(hG:jr k s)(hv:kP s)(o:OpD):Fc (aJ s o).2.1:=by
 refine⟨(Dz hG o).1,?_,?_,?_⟩
 ·have: -20≤(aJ s o).2.1.err∧(aJ s o).2.1.err≤20:=by
   grind [jP,qX,bJ,bW,fl,aJ,mZ]
  omega
 ·have hp:dD o=true→0≤(aR o.text).2.2∧(aR o.text).2.2≤4096:=fun hf=>by
   have:=(nY hf).text;rcases qX o.text with h|h<;>omega
  have h0:(0:Int)≤0∧(0:Int)≤4096:=ad9;have:0≤(aJ s o).2.1.at_∧(aJ s o).2.1.at_≤4096:=by
   unfold aJ;split
   ·simp only[jP]
    split
    ·rename_i h1 h2
     refine hp ?_;have:=h2.1;unfold bJ at this
     grind
    ·exact h0
   ·split<;>exact h0
  omega
 ·unfold aJ
  split
  ·exact aih
  ·split
   ·exact aih
   ·unfold mZ
    simp only;split
    ·exact KQ hv _ _
    ·exact aih
end Go.Bf
namespace Go.Proofs.YtbbadggejjgihaaGreatDoor
open Go Go.Ab Go.Bf
theorem GR(q:Nat)(hq:q≤1048576)(did:Nat)(h0 h:Heap)(hdk:bQ h did ⟨q,[],0,0,false⟩)(hs:Ab.Sub h0 h)(hn:h0 did=none)(her:iO h0):
  ai Tryz.prog 14 [.ptr did 0] h fun r h' =>∃x jid spl spj,r= .tup [.ptr x 0,.i 0]∧rS h0 h' x jid did (jN []) ⟨q,[],0,0,false⟩ spl spj∧Keep did h h'∧(∀i∈x::jid::(spl++spj),h i=none):=
 EP (jN []) Df rfl ad9 ⟨q,[],0,0,false⟩ ⟨Nat.zero_le _,hq,Nat.zero_le _,(by decide:(0:Nat)<9223372036854775808)⟩ aek (by rw[Ny];rfl) did h0 h hdk hs hn her
end Go.Proofs.YtbbadggejjgihaaGreatDoor
namespace Go.Bf
open Go Go.Ab Go.Proofs.YtbbadggejjgihaaGreatDoor
def Wz:Txt:=[119,104,97,116]
def Lm(s:an)(q:Txt):Txt:=match gM q with
 |none=>Wz
 |some o=>gE (aJ s o).2.1
def nL(e:cG)(q:Txt):cG:=match gM q with
 |none=>e
 |some o=>if(aJ e.s o).2.2.2=0 then QX e o else e
def Ig(s:an)(q:Txt):an:=match gM q with
 |none=>s
 |some o=>(aJ s o).1
def oO(l:List Txt):cG:=l.foldl nL (jN [])
theorem Kp(l:List Txt)(q:Txt):oO (l++ [q])=nL (oO l) q:=by simp[oO]
theorem vw(l:List Txt)(i:Nat)(h:i<l.length):oO (l.take (i+1))=nL (oO (l.take i)) l[i]:=by
 rw[List.take_succ_eq_append_getElem h,Kp]
theorem yZ(e:cG)(q:Txt):(nL e q).s=Ig e.s q:=by
 unfold nL Ig;cases gM q with
 |none=>rfl
 |some o=>
  simp only;split
  ·rfl
  ·rename_i h;exact(FW h).symm
theorem D4(e:cG)(q:Txt)(B:Nat)(h:∀o,gM q=some o→(iq o).length≤B):(frames (nL e q).ps).length≤(frames e.ps).length+(16+B):=by
 unfold nL;cases eo:gM q with
 |none=>simp
 |some o=>
  simp only;split
  ·have hl:(frame (dY e.ch o)).length=16+(iq o).length:=by grind [fP,dY,iR]
   show(frames (e.ps++ [dY e.ch o])).length≤_
   rw[vY,adY,hl];have:=h o eo;omega
  ·omega
theorem DT{q:Txt}(hq:q.length≤600):∀o,gM q=some o→(iq o).length≤1000:=fun o ho=>by
 have h:=JX ho;exact Nf (nY h.1) ad4
theorem PN(l:List Txt)(h:∀q∈l,q.length≤600):(frames (oO l).ps).length≤1016*l.length:=by
 have go:∀(l:List Txt) (e:cG),(∀q∈l,q.length≤600)→(frames (l.foldl nL e).ps).length≤(frames e.ps).length+1016*l.length:=by
  intro l
  induction l with
  |nil=>intro e _;simp
  |cons q l ih=>
   intro e hq;have h1:=ih (nL e q) fun r hr=>hq r (by simp[hr])
   have h2:=D4 e q 1000 (DT (hq q aec));simp only[List.foldl_cons,List.length_cons];omega
 have:=go l (jN []) h;simpa[oO,jN,frames]using this
end Go.Bf
namespace Go.Proofs.YtbbadggejjgihaaGreatDoor
open Go Go.Ab Go.Bf
structure oV (n k:Nat) (g h:Heap) (x jid did:Nat) (e:cG) (spl spj:List Nat):Prop where
 w:rS g h x jid did e ⟨n,frames e.ps,(frames e.ps).length,0,false⟩ spl spj
 hW:CJ e (frames e.ps)
 hG:gD k e.s
 hV:kP e.s
 hdn:e.down=false
 hps:e.ps.length≤k
theorem oV.line{n k:Nat}{g h:Heap}{x jid did:Nat}{e:cG}{spl spj:List Nat}(w:oV n k g h x jid did e spl spj)(q:Txt)(hq:q.length≤600)(hk:k≤900)(her:iO g)(ht:xL g)(hr:∀o,gM q=some o→(frames e.ps).length+16+(iq o).length≤n):
  ai Tryz.prog 10 [.ptr x 0,.s q] h fun r h' =>r= .s (Lm e.s q)∧∃spl' spj',oV n (k+1) g h' x jid did (nL e q) spl' spj'∧Touch (x::did::jid::(spl++spj)) h h'∧(∀i∈x::did::jid::(spl' ++spj'),i∈x::did::jid::(spl++spj)∨h i=none):=by
 obtain⟨w,hW,hG,hV,hdn,hps⟩:=w;have hlg:=hW.log;cases eo:gM q with
 |none=>
  have el:qd e ⟨n,frames e.ps,(frames e.ps).length,0,false⟩ q=(e,⟨n,frames e.ps,(frames e.ps).length,0,false⟩,[119,104,97,116]):=by grind [qd]
  refine(w.line q ad4 ad4 ad4 hG ad4 her ht (fun o e=>ad5) (by rw[el];exact w.ok) (fun o e=>ad5)).mono fun r h' ⟨er,spl',spj',w',hT,hin⟩=>?_
  rw[el]at w' er;have en:nL e q=e:=by unfold nL;rw[eo]
  rw[en];refine⟨by rw[er];unfold Lm;rw[eo];rfl,spl',spj',⟨w',hW,{hG.tojr.up with ticks:=hG.ticks},hV,hdn,ad4⟩,hT,hin⟩
 |some o=>
  have h64:=SE eo;have hrt:=PL hG.tojr hV o;have hr:=hr o eo;obtain⟨e',b',sy',RR,ed,hok,hdn',hps',hlg',hG',hways⟩:=OL o hdn hG w.ok;obtain⟨hW',hp',hy'⟩:=LS hdn h64 hW ed;have el:qd e ⟨n,frames e.ps,(frames e.ps).length,0,false⟩ q=(e',⟨n,b',sy',0,false⟩,gE RR):=by grind [qd]
  have hR:RR=(aJ e.s o).2.1∧e' =nL e q:=by
   unfold nL;rw[eo];simp only;rcases hways with⟨a,b1,c⟩|⟨a,b1,c⟩|⟨a,b1,c,d⟩
   ·rw[if_neg a];exact⟨b1,c⟩
   ·omega
   ·rw[if_pos a];exact⟨c,d⟩
  obtain⟨rfl,rfl⟩:=hR;have hb:=hW'.b;have hy:=hy' rfl;subst hb;subst hy;refine(w.line q ad4 ad4 ad4 hG ad4 her ht (fun o' e=>ad5) (by rw[el];exact hok) (fun o' e2=>?_)).mono fun r h' ⟨er,spl',spj',w',hT,hin⟩=>?_
  ·rw[eo]at e2;cases e2;rw[ed];exact hrt
  rw[el]at w' er;refine⟨by rw[er];unfold Lm;rw[eo],spl',spj',⟨w',hW',hG',?_,hdn',ad4⟩,hT,hin⟩
  rw[yZ];unfold Ig;rw[eo];exact He hV h64.2.2.1
theorem oV.new{n:Nat}{g h:Heap}{x jid did:Nat}{spl spj:List Nat}(w:rS g h x jid did (jN []) ⟨n,[],0,0,false⟩ spl spj):oV n 0 g h x jid did (oO []) spl spj:=
 ⟨w,Df,sA,NW,rfl,Nat.le_refl _⟩
theorem Bz(n:Nat)(hn:n≤1048576)(h0 h:Heap)(hs:Ab.Sub h0 h)(her:iO h0):ai Tryz.prog 8 [.i n] h fun r h' =>∃x jid did spl spj,r= .tup [.ptr x 0,.ptr did 0]∧oV n 0 h0 h' x jid did (oO []) spl spj∧Ab.Sub h h' :=by
 refine ad3 Tryz.func8 32 [.tmp 2,.tmp 3] fun hwf=>?_
 simp -implicitDefEqProofs only[go_sem];refine(LQ n hn h).mono fun r h1 ⟨did,hd,er,hdk,s1⟩=>?_
 subst er;simp -implicitDefEqProofs only[go_sem];refine(GR n hn did h0 h1 hdk (hs.trans s1) (hs.none hd) her).mono fun r h2 ⟨x,jid,spl,spj,er,w,hK,hnew⟩=>?_
 subst er;simp -implicitDefEqProofs only[go_sem];exact .same (.refl _) ⟨x,jid,did,spl,spj,rfl,.new w,zE s1 hK hd⟩
end Go.Proofs.YtbbadggejjgihaaGreatDoor
namespace Go.Bf
open Go Go.Ab Go.Proofs.YtbbadggejjgihaaGreatDoor
def awP:Txt:=[112,111,108,105,99,121,32,112,32,102,105,114,115,116,32,123,32,100,101,110,121,32,100,32,119,104,101,110,32,40,97,99,116,105,111,110,46,110,97,109,101,32,61,32,35,119,114,105,116,101,41,59,32,112,101,114,109,105,116,32,114,59,32,125]
def awL:List Txt:=[[97,110,110,32,110,101,119,32,99],[97,110,110,32,119,114,105,116,101,32,99,32,102,32,55],[97,110,110,32,112,111,108,105,99,121,32]++awP,[97,110,110,32,119,114,105,116,101,32,99,32,102,32,56],[98,111,98,32,114,101,97,100,32,99,32,102]]
def awW:List Txt:=[[111,107],[111,107],[111,107],[100,101,110,105,101,100,32,68,101,110,121],[111,107,32,55]]
def awO:Nat→Option OpD
 |0=>some ⟨1,[97,110,110],[99],[],[],aq,0,[],[],false⟩
 |1=>some ⟨3,[97,110,110],[99],[102],[],⟨2,7,[]⟩,0,[],[],false⟩
 |2=>some ⟨7,[97,110,110],[],[],[],aq,0,awP,[],false⟩
 |3=>some ⟨3,[97,110,110],[99],[102],[],⟨2,8,[]⟩,0,[],[],false⟩
 |4=>some ⟨2,[98,111,98],[99],[102],[],aq,0,[],[],false⟩
 |_=>none
def awS:Nat→an
 |0=>xh
 |i+1=>match awO i with|none=>awS i|some o=>(aJ (awS i) o).1
def X0(i:Nat):Prop:=gM (awL.getD i [])=awO i∧match awO i with
 |none=>False
 |some o=>gE (aJ (awS i) o).2.1=awW.getD i []∧(iq o).length≤200
theorem Qz:∀i,i<5→X0 i
 |0,_=>⟨aek,aek,adT aek⟩
 |1,_=>⟨aek,aek,adT aek⟩
 |2,_=>⟨aek,ad7,adT aek⟩
 |3,_=>⟨aek,ad7,adT aek⟩
 |4,_=>⟨aek,ad7,adT aek⟩
 |n+5,h=>ad4
theorem RP:∀i,i<5→(awL.getD i []).length≤600:=ad9
theorem Lu:∀i,i≤5→(oO (awL.take i)).s=awS i∧(frames (oO (awL.take i)).ps).length≤216*i
 |0,_=>⟨rfl,ad9⟩
 |i+1,h=>by
  obtain⟨h1,h2⟩:=Lu i ad4;obtain⟨h3,h4⟩:=Qz i ad4;have hl:awL.length=5:=rfl;have eg:awL.getD i []=awL[i]'ad4:=af2;rw[vw awL i ad4,←eg];have h5:=D4 (oO (awL.take i)) (awL.getD i []) 200 fun o ho=>by
   rw[h3]at ho;rw[ho]at h4;exact h4.2
  refine⟨?_,ad4⟩;rw[yZ,h1];unfold Ig;rw[h3];simp only[awS]
  all_goals (cases awO i<;>rfl)
end Go.Bf
namespace Go.Proofs.YtbbadggejjgihaaGreatDoor
open Go Go.Ab Go.Bf
def AwP(g:Heap)(x i:Nat)(h:Heap):Prop:=∃jid did spl spj,oV 4000 i g h x jid did (oO (awL.take i)) spl spj
theorem tg(g h:Heap)(her:iO g)(ht:xL g)(x i:Nat)(hi:i<5)(hp:AwP g x i h):ai Tryz.prog 10 [.ptr x 0,.s (awL.getD i [])] h fun r h' =>r= .s (awW.getD i [])∧AwP g x (i+1) h'∧Ab.Sub g h' :=by
 obtain⟨jid,did,spl,spj,w⟩:=hp;obtain⟨h1,h2⟩:=Lu i ad4;obtain⟨h3,h4⟩:=Qz i hi;have hl:awL.length=5:=rfl;have eg:awL.getD i []=awL[i]'ad4:=af2;refine(w.line (awL.getD i []) (RP i hi) ad4 her ht fun o ho=>?_).mono fun r h' ⟨er,spl',spj',w',_,_⟩=>?_
 ·rw[h3]at ho
  rw[ho]at h4;have:=h4.2;omega
 refine⟨?_,⟨jid,did,spl',spj',?_⟩,w'.w.sub⟩
 ·rw[er,h1]
  unfold Lm;rw[h3];cases eo:awO i with
  |none=>rw[eo]at h4;exact h4.elim
  |some o=>rw[eo]at h4;simp only at h4⊢;rw[h4.1]
 ·rw[vw awL i ad4,←eg];exact w'
theorem Lv(h:Heap)(he:iO h)(ht:xL h):ai Tryz.prog 13 [] h fun r h' =>r= .b true∧h' =h:=
 ai.freeze fun g hgs _=>by
 have he:=he.sub hgs;have ht:=ht.sub hgs;refine ad3 Tryz.func13 40 [.tmp 0] fun hwf=>?_
 simp -implicitDefEqProofs only[go_sem];refine(show ai Tryz.prog _ [.i 4000] _ _ from(Bz 4000 ad9 g g (.refl _) he).mono fun r h1 ⟨x,jid,did,spl,spj,er,w,s1⟩=>?_)
 subst er;have hc:∀ρ:Env,ev ρ (.const (.string ⟨#[97,110,110,32,112,111,108,105,99,121,32,112,111,108,105,99,121,32,112,32,102,105,114,115,116,32,123,32,100,101,110,121,32,100,32,119,104,101,110,32,40,97,99,116,105,111,110,46,110,97,109,101,32,61,32,35,119,114,105,116,101,41,59,32,112,101,114,109,105,116,32,114,59,32,125]⟩))=some (.s ([97,110,110,32,112,111,108,105,99,121,32]++awP)):=fun ρ=>Ji ad9
 simp -implicitDefEqProofs only[go_sem,hc];refine(show ai Tryz.prog _ [.ptr x 0,.s [97,110,110,32,110,101,119,32,99]] _ _ from(tg g h1 he ht x 0 ad4 ⟨jid,did,spl,spj,w⟩).mono fun r h2 ⟨er,w,_⟩=>?_)
 replace er:r= .s [111,107]:=er;subst er;simp -implicitDefEqProofs only[go_sem,hc];refine(show ai Tryz.prog _ [.ptr x 0,.s [97,110,110,32,119,114,105,116,101,32,99,32,102,32,55]] _ _ from(tg g h2 he ht x 1 ad4 w).mono fun r h3 ⟨er,w,_⟩=>?_)
 replace er:r= .s [111,107]:=er;subst er;simp -implicitDefEqProofs only[go_sem,hc];refine(show ai Tryz.prog _ [.ptr x 0,.s ([97,110,110,32,112,111,108,105,99,121,32]++awP)] _ _ from(tg g h3 he ht x 2 ad4 w).mono fun r h4 ⟨er,w,_⟩=>?_)
 replace er:r= .s [111,107]:=er;subst er;simp -implicitDefEqProofs only[go_sem];refine(show ai Tryz.prog _ [.ptr x 0,.s [97,110,110,32,119,114,105,116,101,32,99,32,102,32,56]] _ _ from(tg g h4 he ht x 3 ad4 w).mono fun r h5 ⟨er,w,_⟩=>?_)
 replace er:r= .s [100,101,110,105,101,100,32,68,101,110,121]:=er;subst er;simp -implicitDefEqProofs only[go_sem];refine(show ai Tryz.prog _ [.ptr x 0,.s [98,111,98,32,114,101,97,100,32,99,32,102]] _ _ from(tg g h5 he ht x 4 ad4 w).mono fun r h6 ⟨er,_,s6⟩=>?_)
 replace er:r= .s [111,107,32,55]:=er;subst er;simp -implicitDefEqProofs only[go_sem];exact .same (.refl _) ⟨s6,_,.pure rfl,rfl⟩
end Go.Proofs.YtbbadggejjgihaaGreatDoor
namespace Go.Bf
open Go Go.Ab Go.Proofs.YtbbadggejjgihaaGreatDoor
def j0(l:List Txt)(n:Nat):List Txt:=(l.take n).map fun q=>q.take 600
theorem MB{l:List Txt}{n:Nat}:∀q∈j0 l n,q.length≤600:=fun q hq=>by
 obtain⟨r,_,rfl⟩:=List.mem_map.1 hq;rw[List.length_take];omega
theorem JY(l:List Txt)(n:Nat):(j0 l n).length≤n:=by
 unfold j0;rw[adU,List.length_take];omega
theorem Gi{l:List Txt}{n i:Nat}(h:i<l.length)(hn:i<n):j0 (l.take (i+1)) n=j0 (l.take i) n++ [l[i].take 600]:=by
 unfold j0;rw[List.take_take,List.take_take,Nat.min_eq_right ad4,Nat.min_eq_right ad4,List.take_succ_eq_append_getElem h,List.map_append];rfl
theorem Nx{l:List Txt}{i:Nat}(hl:l.length≤40)(hq:∀q∈l,q.length≤600)(hi:i<l.length):∀o,gM l[i]=some o→(frames (oO (l.take i)).ps).length+16+(iq o).length≤200000:=fun o ho=>by
 have h1:=PN (l.take i) fun q h=>hq q (List.mem_of_mem_take h)
 rw[List.length_take]at h1;have h2:=DT (hq _ (adZ hi)) o ho;have h3:1016*min i l.length≤1016*40:=Nat.mul_le_mul_left _ ad4;omega
end Go.Bf
namespace Go.Proofs.YtbbadggejjgihaaGreatDoor
open Go Go.Ab Go.Bf
theorem MC(l:List Txt)(n:Nat)(hn:n≤1000)(h:Heap):ai Tryz.prog 9 [.sl (l.map .s) .no,.i n] h fun r h' =>r= .sl ((j0 l n).map .s) .no∧h' =h:=by
 refine ad3 Tryz.func9 33 [.tmp 4] fun hwf=>?_
 simp -implicitDefEqProofs only[go_sem];have hsz:(U 9).sz=1:=aek;refine pX.wf fun hw=>?_
 refine .intro (fun m ρ H=>∃(i:Nat) (y:AV),Acc U 9 h H y ((j0 (l.take i) n).map .s)∧i≤l.length∧i≤n∧m=l.length - i∧lk ρ 0=some (.sl (l.map .s) .no)∧lk ρ 1=some (.i n)∧lk ρ 5=some y∧lk ρ 6=some (.i i)) l.length ?_ ?_
 ·refine⟨0,.sl [] .full,by simpa[j0]using Acc.full (.refl _),ad4,ad4,rfl,?_,?_,?_,?_⟩<;>simp -implicitDefEqProofs only[go_sem]
  all_goals rfl
 rintro m ρ H ⟨i,y,hy,hi,hin,rfl,r0,r1,r5,r6⟩
 obtain⟨q,eq⟩:=hy.row;subst eq
 by_cases hgo:i<l.length∧i<n
 ·have d1:decide ((i:Int)<(l.length:Int))=true:=decide_eq_true ad4
  have d2:decide ((i:Int)<(n:Int))=true:=decide_eq_true ad4;have w1:IntKind.i64.wrap ((i:Int)+1)=((i+1:Nat):Int):=aej;have ix:=fun k=>eE.eq (xs:=l.map AV.s) (sz:=1) i (by simpa using hgo.1) aef k
  rw[adV]at ix;have e:(if(600:Int)<(l[i].length:Int)then(600:Int)else(l[i].length:Int))=((min 600 l[i].length:Nat):Int):=ad4
  have et:l[i].take (min 600 l[i].length)=l[i].take 600:=by rw[List.take_eq_take_min (i:=600) (l:=l[i])]
  simp -implicitDefEqProofs only[go_sem,r0,r1,r5,r6,adU,d1,d2];refine .calls cV [0,1,2,3,4,5,6,7,8,9,10,11,12,13,14] (fun _ _ e=>aew) ad7 rfl ?_
  simp -implicitDefEqProofs only[go_sem,r0,r1,r5,r6,ix,e];refine⟨ad4,ad4,ad4,?_⟩;simp -implicitDefEqProofs only[go_sem,Option.isSome_none,Option.isSome_some,tq,Int.toNat_natCast,et];refine hy.app (zs:=[.s (l[i].take 600)]) ad9 ad9 (fun k hk=>hk) (by intro z hz;obtain⟨a,_,rfl⟩:=List.mem_map.1 hz;rfl) aeP (by simp only[go_sem,j0,adU,List.length_take,List.length_cons,List.length_nil]<;>omega) fun y' H' hy' kp=>?_
  refine⟨fun _ _ e=>aew,?_⟩
  simp -implicitDefEqProofs only[go_sem,r6,w1];refine⟨_,?_,i+1,y',by rw[Gi hgo.1 hgo.2,List.map_append];exact hy',ad4,ad4,rfl,?_,?_,?_,?_⟩
  ·omega
  all_goals simp -implicitDefEqProofs only[go_sem,r0,r1]
 ·have hall:j0 (l.take i) n=j0 l n:=by
   unfold j0
   by_cases h1:i<l.length
   ·rw[List.take_take,Nat.min_eq_left ad4]
   ·rw[List.take_of_length_le (l:=l) ad4]
  rw[hall]at hy;cases d1:decide ((i:Int)<(l.length:Int))
  ·simp -implicitDefEqProofs only[go_sem,r0,r5,r6,adU,d1]
   exact .mk _ (by rw[hall];exact .sl _ _) hy.1 ⟨rfl,rfl⟩
  ·have d2:decide ((i:Int)<(n:Int))=false:=decide_eq_false fun h3=>hgo ⟨ad5,ad4⟩
   simp -implicitDefEqProofs only[go_sem,r0,r1,r5,r6,adU,d1,d2];exact .mk _ (by rw[hall];exact .sl _ _) hy.1 ⟨rfl,rfl⟩
theorem oV.step{g h:Heap}{x jid did:Nat}{l:List Txt}{i:Nat}{spl spj:List Nat}(hl:l.length≤40)(hq:∀q∈l,q.length≤600)(hi:i<l.length)(w:oV 200000 i g h x jid did (oO (l.take i)) spl spj)(her:iO g)(ht:xL g):
  ai Tryz.prog 10 [.ptr x 0,.s l[i]] h fun r h' =>r= .s (Lm (oO (l.take i)).s l[i])∧∃spl' spj',oV 200000 (i+1) g h' x jid did (oO (l.take (i+1))) spl' spj'∧Touch (x::did::jid::(spl++spj)) h h'∧(∀j∈x::did::jid::(spl' ++spj'),j∈x::did::jid::(spl++spj)∨h j=none):=by
 rw[vw l i hi];exact w.line l[i] (hq _ (adZ hi)) ad4 her ht (Nx hl hq hi)
theorem oV.did{n k:Nat}{g h h' :Heap}{x jid did:Nat}{e:cG}{spl spj:List Nat}(w:oV n k g h x jid did e spl spj)(hd:bQ h' did ⟨n,frames e.ps,(frames e.ps).length,0,false⟩)(hk:Keep did h h'):oV n k g h' x jid did e spl spj:=
 ⟨w.w.did hd hk w.w.ok,w.hW,w.hG,w.hV,w.hdn,w.hps⟩
theorem oV.start{n k:Nat}{g h:Heap}{x jid did:Nat}{e:cG}{spl spj:List Nat}(w:oV n k g h x jid did e spl spj)(hk:k≤900)(her:iO g):
  ai Tryz.prog 14 [.ptr did 0] h fun r h' =>∃x2 jid2 spl2 spj2,r= .tup [.ptr x2 0,.i 0]∧oV n k g h' x2 jid2 did e spl2 spj2∧oV n k g h' x jid did e spl spj∧Keep did h h'∧(∀i∈x2::jid2::(spl2++spj2),h i=none):=by
 have hps:=w.hps;refine(EP e w.hW w.hdn ad4 ⟨n,frames e.ps,(frames e.ps).length,0,false⟩ w.w.ok (Hi w.hW w.w.ok) (by rw[zO w.hW]) did g h w.w.disk w.w.sub (w.w.new did aec) her).mono fun r h' ⟨x2,jid2,spl2,spj2,er,v,hk,hn⟩=>?_
 exact⟨x2,jid2,spl2,spj2,er,⟨v,w.hW,w.hG,w.hV,w.hdn,w.hps⟩,w.did v.disk hk,hk,hn⟩
theorem EU(y:AV)(dy:Dat U 22 y)(h:Heap)(he:iO h)(ht:xL h):ai Tryz.prog 4 [y] h fun r h' =>r= .b true∧h' =h:=
 ai.freeze fun g hgs _=>by
 have he:=he.sub hgs;have ht:=ht.sub hgs;obtain⟨l0,rfl,hl0,hls⟩:=LO dy;have hll:=JY l0 40;have hlq:=MB (l:=l0) (n:=40);have hlo:=fun(G:Heap)=>MC l0 40 ad9 G
 obtain⟨l,el⟩:∃l,j0 l0 40=l:=⟨_,rfl⟩;rw[el]at hll hlq;simp only[el]at hlo;refine ad3 Tryz.func4 95 [.tmp 2] fun hwf=>?_
 simp -implicitDefEqProofs only[go_sem];refine(show ai Tryz.prog _ [.i 200000] _ _ from(Bz 200000 ad9 g g (.refl _) he).mono fun r h1 ⟨x,jid,did,spl,spj,er,w,s1⟩=>?_)
 subst er;simp -implicitDefEqProofs only[go_sem];refine(hlo h1).pthen ?_;simp -implicitDefEqProofs only[go_sem,adU];refine pX.join (.exit 0) (fun ρ H=>∃spl spj,oV 200000 l.length g H x jid did (oO l) spl spj∧lk ρ 3=some (.ptr x 0)∧lk ρ 4=some (.ptr did 0)) ?_ fun K1 hK1=>?_
 rotate_left
 ·refine .intro (fun m ρ H=>∃(i:Nat) (spl spj:List Nat),oV 200000 i g H x jid did (oO (l.take i)) spl spj∧i≤l.length∧m=l.length - i∧lk ρ 3=some (.ptr x 0)∧lk ρ 4=some (.ptr did 0)∧lk ρ 18=some (.sl (l.map .s) .no)∧lk ρ 19=some (.i l.length)∧lk ρ 20=some (.i i)) l.length ?_ ?_
  ·refine⟨0,spl,spj,w,ad4,rfl,?_,?_,?_,?_,?_⟩<;>simp -implicitDefEqProofs only[go_sem]
   all_goals rfl
  rintro m ρ H ⟨i,spl,spj,w,hi,rfl,r3,r4,r18,r19,r20⟩
  by_cases hlt:i<l.length
  ·have t1:decide ((i:Int)<(l.length:Int))=true:=decide_eq_true ad4
   have w1:IntKind.i64.wrap ((i:Int)+1)=((i+1:Nat):Int):=aej;have ix:=fun k=>eE.eq (xs:=l.map AV.s) (sz:=1) i aeq aef k
   rw[adV]at ix;simp -implicitDefEqProofs only[go_sem,r3,r18,r19,r20,t1,ix];refine(w.step hll hlq hlt he ht).mono fun r H2 ⟨er,spl',spj',w2,_,_⟩=>?_
   subst er;simp -implicitDefEqProofs only[go_sem,r20,w1];refine⟨_,?_,i+1,spl',spj',w2,ad4,rfl,?_,?_,?_,?_,?_⟩
   ·omega
   all_goals simp -implicitDefEqProofs only[go_sem,r3,r4,r18,r19]
  ·obtain rfl:i=l.length:=by omega
   have t1:decide ((l.length:Int)<(l.length:Int))=false:=decide_eq_false ad4;simp -implicitDefEqProofs only[go_sem,r18,r19,r20,t1];rw[List.take_length]at w;exact hK1 _ _ ⟨spl,spj,w,by simp -implicitDefEqProofs only[go_sem,r3],aey⟩
 rintro ρ H ⟨spl,spj,w,r3,r4⟩
 have hlk:=SF w.hW.ok;have hlog:=w.hW.log;have hps:=w.hps;obtain⟨e,ee⟩:∃e,oO l=e:=⟨_,rfl⟩;rw[ee]at w hlk hlog hps;simp -implicitDefEqProofs only[go_sem,r4];refine(w.start ad4 he).mono fun r H1 ⟨x2,jid2,spl2,spj2,er,v2,v1,_,_⟩=>?_
 subst er;simp -implicitDefEqProofs only[go_sem,r4];refine(v2.start ad4 he).mono fun r H2 ⟨x3,jid3,spl3,spj3,er,w3,w2,hk,_⟩=>?_
 subst er;have w1:=v1.did w3.w.disk hk;obtain⟨a1,a2,a3,a4,a5,a6,a7,es⟩:=cm e.s;have hal:=Ks e.s _ es H2;have s1:=uX x jid did e spl spj H2 w1.w.eng;have s2:=uX x2 jid2 did e spl2 spj2 H2 w2.w.eng;have s3:=uX x3 jid3 did e spl3 spj3 H2 w3.w.eng;have l1:=B5 x jid did e spl spj H2 w1.w.eng ad4 (fun d hd=>(hlk d hd).1)
 have l2:=B5 x2 jid2 did e spl2 spj2 H2 w2.w.eng ad4 (fun d hd=>(hlk d hd).1)
 have l3:=B5 x3 jid3 did e spl3 spj3 H2 w3.w.eng ad4 (fun d hd=>(hlk d hd).1)
 have c1:=xX x jid did e spl spj H2 w1.w.eng;have c2:=xX x2 jid2 did e spl2 spj2 H2 w2.w.eng;have c3:=xX x3 jid3 did e spl3 spj3 H2 w3.w.eng;have hlr:=J0 e.log (fun d hd=>(hlk d hd).2) ad4 .no .no H2
 rw[show ct e.s= .agg (gX e.s)from rfl,es]at hal s1 s2 s3
 simp -implicitDefEqProofs only[go_sem,r3];refine s1.pthen ?_;simp -implicitDefEqProofs only[go_sem];refine s2.pthen ?_;simp -implicitDefEqProofs only[go_sem];refine hal.pthen ?_;simp -implicitDefEqProofs only[go_sem];refine s2.pthen ?_;simp -implicitDefEqProofs only[go_sem];refine s3.pthen ?_;simp -implicitDefEqProofs only[go_sem];refine hal.pthen ?_;simp -implicitDefEqProofs only[go_sem,r3];refine l1.pthen ?_;simp -implicitDefEqProofs only[go_sem];refine l2.pthen ?_;simp -implicitDefEqProofs only[go_sem];refine hlr.pthen ?_;simp -implicitDefEqProofs only[go_sem];refine l2.pthen ?_;simp -implicitDefEqProofs only[go_sem];refine l3.pthen ?_;simp -implicitDefEqProofs only[go_sem];refine hlr.pthen ?_;simp -implicitDefEqProofs only[go_sem,r3];refine c1.pthen ?_;simp -implicitDefEqProofs only[go_sem];refine c2.pthen ?_;simp -implicitDefEqProofs only[go_sem,beq_self_eq_true];refine c2.pthen ?_;simp -implicitDefEqProofs only[go_sem];refine c3.pthen ?_;simp -implicitDefEqProofs only[go_sem,beq_self_eq_true];refine(Lv H2 (he.sub w1.w.sub) (ht.sub w1.w.sub)).pthen ?_;simp -implicitDefEqProofs only[go_sem];exact .same (.refl _) ⟨w1.w.sub,_,.pure rfl,rfl⟩
theorem CA(ev:Value)(hev:ev= .nilIface∨∃te pe,ev= .iface te pe)(x:AV)(dx:Dat U 22 x):ai Tryz.prog 4 [x] (xo [(3,zk),(2,[ev])]) fun r _=>r= .b true:=(EU x dx _ (KD hev) ⟨0,rfl⟩).mono fun _ _ h=>h.1
end Go.Proofs.YtbbadggejjgihaaGreatDoor
