/- The law TopModel,TopReplay: pack 7 of its texts. -/
import Derived.Test.YtokahfmoollblaaGreatDoorPk1
import Derived.Test.YtokahfmoollblaaGreatDoorPk2
import Derived.Test.YtokahfmoollblaaGreatDoorPk3
import Derived.Test.YtokahfmoollblaaGreatDoorPk4
import Derived.Test.YtokahfmoollblaaGreatDoorPk5
import Derived.Test.YtokahfmoollblaaGreatDoorPk6
set_option linter.unusedSimpArgs false
set_option linter.unusedVariables false
set_option maxRecDepth 100000
namespace Go.Bf
open Go Go.Ab Go.Proofs.YtokahfmoollblaaGreatDoor
def opL(k:Int)(subj reason:Txt)(g:Bool)(s:Txt):OpD×Bool:=
 if k=1 then(⟨k,subj,s,[],[],aq,0,[],reason,g⟩,true)
 else if k=2∨k=6 then(⟨k,subj,(dD s).1,(dD s).2,[],aq,0,[],reason,g⟩,true)
 else if k=3 then(⟨k,subj,(dD s).1,(dD (dD s).2).1,[],(fW (dD (dD s).2).2).1,0,[],reason,g⟩,(fW (dD (dD s).2).2).2)
 else if k=4 then(⟨k,subj,(dD s).1,[],(dD s).2,aq,0,[],reason,g⟩,true)
 else if k=5∨k=8 then(⟨k,subj,[],[],[],aq,CL s,[],reason,g⟩,true)
 else if k=7 then(⟨k,subj,[],[],[],aq,0,s,reason,g⟩,true)
 else(⟨k,subj,[],[],[],aq,0,[],reason,g⟩,true)
def oC(s:Txt):Bool×Txt×Txt:=if s.take 1== [33]then(true,(dD (s.drop 1)).1,(dD (s.drop 1)).2)else(false,[],s)
def KS(s:Txt):OpD×Bool:=
 let g:=oC (dD s).2
 opL (uj (dD g.2.2).1) (dD s).1 g.2.1 g.1 (dD g.2.2).2
def fV(s:Txt):Option OpD:=if(KS s).2 && dH (KS s).1 then some (KS s).1 else none
theorem lB(s:Txt):(dD s).1.length≤s.length∧(dD s).2.length≤s.length:=by grind [List.takeWhile_prefix,List.dropWhile_suffix,dD,List.length_drop]
theorem wQ(w:Txt):∀f k:Nat,0≤wP f k w∧wP f k w≤(f:Int)+k - 1∨wP f k w=0
 |0,k=> .inr rfl
 |f+1,k=>by
  unfold wP;have:=wQ w f (k+1);split<;>omega
theorem wO(w:Txt):0≤uj w∧uj w≤8:=by have:=wQ w 8 1;unfold uj;omega
end Go.Bf
namespace Go.Proofs.YtokahfmoollblaaGreatDoor
open Go Go.Ab Go.Bf Tryz
theorem jq.join{P:Program}{U:TypeId→TI}{n:Nat}{a b:Code}{K:Exit→Env→Heap→Prop}{ρ:Env}{h:Heap}{y:AV}(I:Env→Heap→Prop)(hK:∀ρ' H',I ρ' H'→K .normal ρ' H')(hc:∀K' :Exit→Env→Heap→Prop,(∀ρ' H',I ρ' H'→K' .normal ρ' H')→jq P U n a b ρ h K' y):jq P U n a b ρ h K y:=hc K hK
def Bq(s:Txt):AV:=.tup [opA ((fV s).getD ru),.v (.bool (fV s).isSome)]
def FH:List AV:=[.i 0,.s [],.s [],.s [],.s [],.i 0,.i 0,.s [],.i 0,.s [],.s [],.b false]
theorem zf(s:Txt)(hs:s.length≤900000)(h:Heap)(he:iB h):ai prog 9 [.s s] h fun r h' =>r=Bq s∧h' =h:=by
 obtain⟨l1,l2⟩:=lB s;obtain⟨⟨subj,s1⟩,e0⟩:∃x,dD s=x:=⟨_,rfl⟩;rw[e0]at l1 l2;simp only at l1 l2;refine aeJ func9 95 [.cell 2 46,.tmp 3] fun hwf=>?_
 simp only[go_sem];intro i2 h2;simp only[go_sem];intro i4 h4;have n42:=aH h4;have k4:=aB h4;simp only[go_sem];refine(mc s aeK _).pthen ?_;rw[e0];simp only[go_sem,ah,eD];refine(Tw s1 _).pthen ?_;simp only[go_sem];obtain⟨⟨g,rs,s2⟩,eg⟩:∃x,oC s1=x:=⟨_,rfl⟩;have hraw:KS s=opL (uj (dD s2).1) subj rs g (dD s2).2:=by simp only[KS,e0,eg]
 have l3:s2.length≤900000:=by
  have h3:=lB (s1.drop 1);rw[List.length_drop]at h3;unfold oC at eg;split at eg<;>(injection eg with _ eg;injection eg with _ eg;subst eg;omega)
 refine jq.join (fun ρ H=>lk ρ 0=some (.s s2)∧lk ρ 2=some (.ptr i2 0)∧lk ρ 4=some (.ptr i4 0)∧lk ρ 6=some (.b true)∧H i4=some (.obj [.i 0,.s subj,.s [],.s [],.s [],.i 0,.i 0,.s [],.i 0,.s [],.s rs,.b g] 46)∧H i2=some (.obj FH 46)∧Ab.Sub h H) ?_ fun K1 hK1=>?_
 rotate_left
 ·cases eh:(s1.take 1== [33])
  ·have eg2:oC s1=(false,[],s1):=by unfold oC;rw[if_neg (by simp[eh])]
   rw[eg2]at eg;injection eg with eg1 eg
   injection eg with eg3 eg
   subst eg1 eg3 eg;simp only[go_sem,eh];exact ake
  ·have eg2:oC s1=(true,(dD (s1.drop 1)).1,(dD (s1.drop 1)).2):=by unfold oC;rw[if_pos eh]
   rw[eg2]at eg;injection eg with eg1 eg
   injection eg with eg3 eg
   have hne:1≤s1.length:=by
    rcases s1 with _|⟨c,r⟩
    ·cases eh
    ·simp
   simp only[go_sem,eh,ah,eD];refine⟨aeK,aeK,aeK,?_⟩;rw[show nH s1 1 (s1.length:Int) (some (Operand.const (Value.int .i64 1))).isSome none.isSome=s1.drop 1 from by simp[nH]]
   refine(mc (s1.drop 1) agm _).pthen ?_;simp only[go_sem,ah,eD];subst eg1 eg3 eg;exact ake
 rintro ρ H ⟨r0,r2,r4,r6,f4,f2,hsH⟩
 simp only[go_sem,r0];refine(mc s2 aeK _).pthen ?_;obtain⟨⟨w,s3⟩,e3⟩:∃x,dD s2=x:=⟨_,rfl⟩;rw[e3]at hraw;simp only at hraw;rw[e3];simp only[go_sem];refine(PN w _).pthen ?_;obtain⟨k,ek⟩:∃x,uj w=x:=⟨_,rfl⟩;rw[ek]at hraw;simp only[go_sem,ek,r4,f4];have hk:=ek▸wO w;obtain⟨o,ok,eo⟩:∃o ok,opL k subj rs g s3=(o,ok):=⟨_,_,rfl⟩;rw[eo]at hraw;have n24:i2≠i4:=n42.symm;have hf2:∀c,Ab.Sub h (upd H i4 c):=fun c=>hsH.put k4 c
 have l4:=lB s2;rw[e3]at l4;have l5:=lB s3;have l6:=lB (dD s3).2;simp only at l4;refine jq.join (fun ρ H=>lk ρ 2=some (.ptr i2 0)∧lk ρ 4=some (.ptr i4 0)∧lk ρ 6=some (.b ok)∧H i4=some (.obj [.i o.kind,.s o.subj,.s o.case,.s o.field,.s o.to,.i o.val.kind,.i o.val.n,.s o.val.s,.i o.review,.s o.text,.s o.reason,.b o.glass] 46)∧H i2=some (.obj FH 46)∧Ab.Sub h H) ?_ fun K2 hK2=>?_
 rotate_left
 ·have hc:k=0∨k=1∨k=2∨k=3∨k=4∨k=5∨k=6∨k=7∨k=8:=by omega
  rcases hc with rfl|rfl|rfl|rfl|rfl|rfl|rfl|rfl|rfl
  ·exact ajr
  ·exact ajr
  ·exact ajc
  ·simp[opL]at eo
   obtain⟨eo,rfl⟩:=eo;subst eo;simp only[go_sem,r0,r4];refine(mc s3 aeK _).pthen ?_;simp only[go_sem,r0,r4,ah,eD];refine(mc (dD s3).2 aeK _).pthen ?_;simp only[go_sem,r0,r4,ah,eD];refine(GU (dD (dD s3).2).2 _ (he.sub (hf2 _))).pthen ?_;simp only[go_sem,aS,r0,r4,ah,eD];exact hK2 _ _ ⟨afj,afk,afl,by rw[ah],afS,hf2 _⟩
  ·exact ajc
  ·simp[opL]at eo
   obtain⟨eo,rfl⟩:=eo;subst eo;simp only[go_sem,r0,r4];refine(zq s3 aeK _).pthen ?_;exact ajg
  ·exact ajc
  ·exact ajr
  ·simp[opL]at eo
   obtain⟨eo,rfl⟩:=eo;subst eo;simp only[go_sem,r0,r4];refine(zq s3 aeK _).pthen ?_;exact ajg
 rintro ρ3 H3 ⟨q2,q4,q6,g4,g2,hsH3⟩
 have bad:fV s=none→Bq s= .tup [opA ru,.b false]:=fun e=>by
  unfold Bq;rw[e];rfl
 cases ok
 ·simp only[go_sem,q2,q4,q6,g4,g2,FH]
  exact .mk _ (.refl _) (hsH3.put h2 _) ⟨(bad (by unfold fV;rw[hraw];rfl)).symm,rfl⟩
 simp only[go_sem,q2,q4,q6,g4];have hfo:=Cw o H3;rw[opA]at hfo;refine hfo.pthen ?_;cases ef:dH o
 ·simp only[go_sem,q2,q4,q6,g4,g2,FH]
  exact .mk _ (.refl _) (hsH3.put h2 _) ⟨(bad (by unfold fV;rw[hraw];simp[ef])).symm,rfl⟩
 ·simp only[go_sem,q2,q4,q6,g4,g2,FH]
  exact .mk _ (.refl _) (hsH3.put h2 _) ⟨by unfold Bq fV;rw[hraw];simp only[ef,Bool.and_self,if_true];rfl,rfl⟩
end Go.Proofs.YtokahfmoollblaaGreatDoor
namespace Go.Bf
open Go Go.Ab Go.Proofs.YtokahfmoollblaaGreatDoor
def Bw(m:aT):Txt:=
 if m=naM then [78,111,116,65,112,112,108,105,99,97,98,108,101]else if m=bg then [80,101,114,109,105,116]else if m=cJ then [68,101,110,121]
 else if m=wK then [73,110,100,101,116,101,114,109,105,110,97,116,101,123,80,125]else if m=wJ then [73,110,100,101,116,101,114,109,105,110,97,116,101,123,68,125]
 else if m=nq then [73,110,100,101,116,101,114,109,105,110,97,116,101,123,68,80,125]else []
def gr(r:iG):Txt:=
 if r.err=12∧r.mark≠bg then [100,101,110,105,101,100,32]++Bw r.mark
 else if r.err≠0∧0<r.at_ then [101,114,114,111,114,32]++Lib.itoa r.err++ [32,97,116,32]++Lib.itoa r.at_
 else if r.err≠0 then [101,114,114,111,114,32]++Lib.itoa r.err
 else if r.glass then [103,108,97,115,115]else if r.hidden then [104,105,100,100,101,110]
 else if r.val.kind=0∧r.val.n=0∧r.val.s= []then [111,107]else [111,107,32]++Ad r.val
theorem KD(m:aT):(Bw m).length≤20:=by
 unfold Bw
 repeat' split
 all_goals decide
theorem QT(v:bu)(h:inV v):(Ad v).length≤194:=by
 unfold Ad;split
 ·rename_i hv
  exact QU hv h.1 h.2
 simp
end Go.Bf
namespace Go.Proofs.YtokahfmoollblaaGreatDoor
open Go Go.Ab Go.Bf Tryz
theorem Nl(m:aT)(hmm:M9 m)(h:Heap):ai prog 52 [aO m] h fun r h' =>r= .s (Bw m)∧h' =h:=by
 obtain⟨n1,n2,n3,n4,n5,n6⟩:=nb hmm;refine aeJ func52 16 [.tmp 2] fun hwf=>?_
 unfold Bw;cases d1:(m==naM)
 case true=>simp only[go_sem,aO,n1,d1];exact .same (.refl _) ⟨by rw[if_pos aeL];rfl,rfl⟩
 cases d2:(m==bg)
 case true=>simp only[go_sem,aO,n1,n2,d1,d2];exact .same (.refl _) ⟨by rw[if_neg aeL,if_pos aeL];rfl,rfl⟩
 cases d3:(m==cJ)
 case true=>simp only[go_sem,aO,n1,n2,n3,d1,d2,d3];exact .same (.refl _) ⟨by rw[if_neg aeL,if_neg aeL,if_pos aeL];rfl,rfl⟩
 cases d4:(m==wK)
 case true=>simp only[go_sem,aO,n1,n2,n3,n4,d1,d2,d3,d4];exact .same (.refl _) ⟨by rw[if_neg aeL,if_neg aeL,if_neg aeL,if_pos aeL];rfl,rfl⟩
 cases d5:(m==wJ)
 case true=>simp only[go_sem,aO,n1,n2,n3,n4,n5,d1,d2,d3,d4,d5];exact .same (.refl _) ⟨by rw[if_neg aeL,if_neg aeL,if_neg aeL,if_neg aeL,if_pos aeL];rfl,rfl⟩
 cases d6:(m==nq)
 case true=>simp only[go_sem,aO,n1,n2,n3,n4,n5,n6,d1,d2,d3,d4,d5,d6];exact .same (.refl _) ⟨by rw[if_neg aeL,if_neg aeL,if_neg aeL,if_neg aeL,if_neg aeL,if_pos aeL];rfl,rfl⟩
 simp only[go_sem,aO,n1,n2,n3,n4,n5,n6,d1,d2,d3,d4,d5,d6];exact .same (.refl _) ⟨by rw[if_neg aeL,if_neg aeL,if_neg aeL,if_neg aeL,if_neg aeL,if_neg aeL];rfl,rfl⟩
structure FN (r:iG):Prop where
 mark:M9 r.mark
 err: -9223372036854775808≤r.err∧r.err≤9223372036854775807
 at_: -9223372036854775808≤r.at_∧r.at_≤9223372036854775807
 val:inV r.val
theorem AZ(r:iG)(hr:FN r)(h:Heap)(ht:xy h):ai prog 11 [.agg (lp r)] h fun y h' =>y= .s (gr r)∧h' =h:=by
 have np:=(nb hr.mark).npe;have hl:lim=9223372036854775808:=rfl;have hi1:=Lib.itoa_length_le r.err hr.err.1 hr.err.2;have hi2:=Lib.itoa_length_le r.at_ hr.at_.1 hr.at_.2;have hnl:=KD r.mark;refine aeJ func11 57 [.tmp 2] fun hwf=>?_
 simp only[go_sem,lp];intro id hid;have ht2:∀b,xy (upd h id b):=fun b=>ht.sub (.aj hid)
 cases d1:(r.err==12)
 case true=>
  have e1:r.err=12:=aeL;cases d2:(r.mark==bg)
  case false=>
   simp only[go_sem,aO,np,d1,d2];refine(Nl r.mark hr.mark _).pthen ?_;have c1:0+7+(Bw r.mark).length<lim:=aeK;simp only[go_sem,c1];exact .mk _ (.refl _) (.aj hid) ⟨by unfold gr;rw[if_pos ⟨e1,aeL⟩];rfl,rfl⟩
  case true=>
   have d3:(r.err !=0)=true:=aeL;cases d4:decide (r.at_>0)
   ·simp only[go_sem,aO,np,d1,d2,d3,d4]
    exact ajN
   ·simp only[go_sem,aO,np,d1,d2,d3,d4]
    exact aji
 have e1:r.err≠12:=aeL;cases d3:(r.err !=0)
 case true=>
  cases d4:decide (r.at_>0)
  ·simp only[go_sem,d1,d3,d4]
   exact ajN
  ·simp only[go_sem,d1,d3,d4]
   exact aji
 have e0:r.err=0:=aeL;cases d5:r.glass
 case true=>
  simp only[go_sem,d1,d3,d5];exact .mk _ (.refl _) (.aj hid) ⟨by unfold gr;rw[if_neg aeL,if_neg aeL,if_neg aeL,if_pos d5];rfl,rfl⟩
 cases d6:r.hidden
 case true=>
  simp only[go_sem,d1,d3,d5,d6];exact .mk _ (.refl _) (.aj hid) ⟨by unfold gr;rw[if_neg aeL,if_neg aeL,if_neg aeL,if_neg aeL,if_pos d6];rfl,rfl⟩
 cases d7:(r.val.kind==0 && (r.val.n==0 && r.val.s== []))
 case true=>
  simp only[go_sem,d1,d3,d5,d6,d7];exact .mk _ (.refl _) (.aj hid) ⟨by unfold gr;rw[if_neg aeL,if_neg aeL,if_neg aeL,if_neg aeL,if_neg aeL,if_pos aeL];rfl,rfl⟩
 simp only[go_sem,d1,d3,d5,d6,d7];have hv:=fun H hH=>OF KQ r.val hr.val H hH
 simp only[aS]at hv;refine(hv _ (ht2 _)).pthen ?_;have c1:0+3+(Ad r.val).length<lim:=by
  have:=QT r.val hr.val;omega
 simp only[go_sem,c1];exact .mk _ (.refl _) (.aj hid) ⟨by unfold gr;rw[if_neg aeL,if_neg aeL,if_neg aeL,if_neg aeL,if_neg aeL,if_neg aeL];rfl,rfl⟩
end Go.Proofs.YtokahfmoollblaaGreatDoor
namespace Go.Bf
open Go Go.Ab Go.Proofs.YtokahfmoollblaaGreatDoor
def qq(e:cm)(d:D)(s:Txt):cm×D×Txt:=match fV s with
 |none=>(e,d,[119,104,97,116])
 |some o=>((doE e d o).1,(doE e d o).2.1,gr (doE e d o).2.2)
end Go.Bf
namespace Go.Proofs.YtokahfmoollblaaGreatDoor
open Go Go.Ab Go.Bf Tryz
theorem oh.line{h0 h:Heap}{x jid did:Nat}{e:cm}{d:D}{spl spj:List Nat}(w:oh h0 h x jid did e d spl spj)(s:Txt)(hl:s.length≤900000)(hps:e.ps.length≤1000000)(hlg:e.log.length≤1000000){k:Nat}(hG:gH k e.s)(hk:k≤1000)(her:iB h0)(ht:xy h0)(h64:∀o,fV s=some o→oN o)(hok:(qq e d s).2.1.ok)(hr:∀o,fV s=some o→FN (doE e d o).2.2):
  ai prog 12 [.ptr x 0,.s s] h fun r h' =>r= .s (qq e d s).2.2∧∃spl' spj',oh h0 h' x jid did (qq e d s).1 (qq e d s).2.1 spl' spj'∧Touch (x::did::jid::(spl++spj)) h h'∧(∀i∈x::did::jid::(spl' ++spj'),i∈x::did::jid::(spl++spj)∨h i=none):=by
 refine aeJ func12 18 [.tmp 4] fun hwf=>?_
 simp only[go_sem];refine(zf s hl _ (her.sub w.sub)).pthen ?_;unfold Bq;cases eo:fV s with
 |none=>
  simp only[go_sem];intro i hi;simp only[go_sem,Option.isSome_none,Option.getD_none,opA,opC,ru,ah,eD];refine .mk _ (.refl _) (.aj hi) ⟨by unfold qq;rw[eo];rfl,spl,spj,by grind [qq],.refl _ _,fun j hj=> .inl hj⟩
 |some o=>
  have ee:qq e d s=((doE e d o).1,(doE e d o).2.1,gr (doE e d o).2.2):=by grind [qq]
  rw[ee]at hok;have hr:=hr o eo;have h64:=h64 o eo;simp only[go_sem];intro i hi;simp only[go_sem,Option.isSome_some,Option.getD_some,opA,opC,aS,ah,eD];generalize hH:upd h i _=H;have hsH:Ab.Sub h H:=by rw[←hH];exact .aj hi
  refine(show ai prog _ [.ptr x 0,opA o] _ _ from((w.up hsH).doS o hps hlg hG hk h64 her hok).mono fun r H2 ⟨er,spl',spj',w2,hT,hin⟩=>?_)
  subst er;simp only[go_sem];refine(AZ _ hr _ (ht.sub w2.sub)).pthen ?_;simp only[go_sem];exact .same (.refl _) ⟨by rw[ee];rfl,spl',spj',aeL,(Touch.of (S:=[]) hsH).trans hT,fun i hi=>(hin i hi).imp id hsH.none⟩
end Go.Proofs.YtokahfmoollblaaGreatDoor
namespace Go.Bf
open Go Go.Ab
def eqT(a b:gp):Bool:=eqL (eqL (eqL Pt)) a b
def eqR(r s:cV):Bool:=r.id==s.id && (r.deny==s.deny && (eqT r.tgt s.tgt && (eqL SU r.cond s.cond && eqL tW r.obls s.obls)))
mutual
def eqP:bE→bE→Bool
 |.mk i1 s1 a1 t1 r1 k1 o1,.mk i2 s2 a2 t2 r2 k2 o2=>i1==i2 && (s1==s2 && (a1==a2 && (eqT t1 t2 && (eqL tW o1 o2 && (eqL eqR r1 r2 && eqK k1 k2)))))
def eqK:List bE→List bE→Bool
 | [],[]=>true
 |x::a,y::b=>eqP x y && eqK a b
 |_,_=>false
end
end Go.Bf
namespace Go.Bf
open Go Go.Ab Go.Proofs.YtokahfmoollblaaGreatDoor
theorem Po{k n:Nat}{e:cm}{b:Txt}{sy:Nat}(o:OpD)(hd:e.down=false)(hG:gH k e.s)(hok:D.ok ⟨n,b,sy,0,false⟩):
  ∃e' b' sy' RR,doE e ⟨n,b,sy,0,false⟩ o=(e',⟨n,b',sy',0,false⟩,RR)∧D.ok ⟨n,b',sy',0,false⟩∧e'.down=false∧e'.ps.length≤e.ps.length+1∧e'.log.length≤e.log.length+1∧gH (k+1) e'.s∧
   (((aI e.s o).2.2.2≠0∧RR=(aI e.s o).2.1∧e' =e)∨((aI e.s o).2.2.2=0∧n<b.length+16+(iE o).length∧RR=DN 8∧e' =e)∨((aI e.s o).2.2.2=0∧b.length+16+(iE o).length≤n∧RR=(aI e.s o).2.1∧e' =Np e o)):=by
 have up:gH (k+1) e.s:={hG.tojA.up with ticks:=hG.ticks}
 have hl:(frame (eC e.ch o)).length=16+(iE o).length:=by grind [fT,eC,iX]
 by_cases hg:(aI e.s o).2.2.2=0
 case neg=>exact⟨e,b,sy,_,Rm _ hd hg,hok,hd,aeK,aeK,up,.inl ⟨hg,rfl,rfl⟩⟩
 by_cases hr:b.length+16+(iE o).length≤n
 ·refine⟨_,_,_,_,Ii (d:=⟨n,b,sy,0,false⟩) hd hg rfl rfl aeL,⟨?_,hok.2.1,Nat.le_refl _,hok.2.2.2⟩,rfl,aeR,by simp[nR],qY o hG,.inr (.inr ⟨hg,hr,rfl,rfl⟩)⟩
  grind
 ·exact⟨e,b,sy,_,Ih (d:=⟨n,b,sy,0,false⟩) hd hg rfl aeL,hok,hd,aeK,aeK,up,.inr (.inl ⟨hg,aeK,rfl,rfl⟩)⟩
end Go.Bf
namespace Go.Proofs.YtokahfmoollblaaGreatDoor
open Go Go.Ab Go.Bf Tryz
theorem Ea{k:Nat}{s:an}(h:jA k s)(o:OpD):M9 (aI s o).2.1.mark∧M9 (aI s o).2.2.1.mark:=by
 have hm:M9 (gJ s o).1:=(xM _ _).m9;unfold aI;split
 ·exact⟨M9.na,M9.na⟩
 ·split
  ·exact⟨M9.na,M9.na⟩
  ·exact⟨hm,hm⟩
theorem oh.upd{h0 h:Heap}{x jid did:Nat}{e:cm}{d:D}{spl spj:List Nat}(w:oh h0 h x jid did e d spl spj){i:Nat}{cs:List AV}{t:TypeId}(b:Option Blk)(hi:h i=some (.obj cs t))(hn:i∉x::did::jid::(spl++spj))(h0i:h0 i=none)(t1:t≠121)(t2:t≠5):oh h0 (Ab.upd h i b) x jid did e d spl spj:=by obtain⟨yl,a,bb,c⟩:=w.eng;exact⟨⟨yl,by simp_all [ag,Ne.symm],bb.touch .upd aeL,c.touch .upd aeL aeL⟩,w.disk.upd hi t1 t2,w.ok,fun j k hj=>(by rw[ag _ _ aeL];exact w.sub _ _ hj),w.new⟩
theorem TA(r:iG):lp r= [.i r.err,.v (.complex .f64 (hbit r.mark.1) (hbit r.mark.2)),.b r.glass,.i r.val.kind,.i r.val.n,.s r.val.s,.b r.hidden,.i r.at_]:=rfl
end Go.Proofs.YtokahfmoollblaaGreatDoor
namespace Go.Bf
open Go Go.Ab Go.Proofs.YtokahfmoollblaaGreatDoor
variable {n sy sy' T:Nat}{e e':cm}{o:OpD}
structure C9 (e:cm) (b:Txt):Prop where
 ok:C8 e
 b:b=frames e.ps
 len:∀p∈e.ps,9≤p.length∧p.length≤5008
 log:e.log.length=e.ps.length
theorem DK:C9 (jk []) []:=⟨rfl,rfl,fun p hp=>(by cases hp),rfl⟩
theorem Mr{b:Txt}(hd:e.down=false)(h64:oN o)(hw:C9 e b){b' :Txt}{R:iG}(he:doE e ⟨n,b,sy,0,false⟩ o=(e',⟨n,b',sy',0,false⟩,R)):
  C9 e' b'∧(e'.ps=e.ps∨dH o=true∧e'.ps=e.ps++ [eC e.ch o])∧(sy=b.length→sy' =b'.length):=by
 have stay:e' =e→b' =b→sy' =sy→C9 e' b'∧(e'.ps=e.ps∨dH o=true∧e'.ps=e.ps++ [eC e.ch o])∧(sy=b.length→sy' =b'.length):=fun h1 h2 h3=>by
  subst h1 h2 h3;exact⟨hw,.inl rfl,fun h=>h⟩
 have hl:(frame (eC e.ch o)).length=16+(iE o).length:=by grind [fT,eC,iX]
 by_cases hg:(aI e.s o).2.2.2=0
 case neg=>
  rw[Rm _ hd hg]at he;injection he with h1 h2
  injection h2 with h2 _
  injection h2 with _ h3 h4
  exact stay h1.symm h3.symm h4.symm
 by_cases hr:b.length+16+(iE o).length≤n
 ·rw[Ii (d:=⟨n,b,sy,0,false⟩) hd hg rfl rfl aeL]at he
  injection he with h1 h2
  injection h2 with h2 _
  injection h2 with _ h3 h4
  subst h1 h3 h4;have hrl:=uK (h:=e.ch) (oA (jE hg));refine⟨⟨SR hw.ok hg h64,?_,?_,?_⟩,.inr ⟨jE hg,rfl⟩,fun _=>rfl⟩
  ·show b++frame _=frames (e.ps++ [_])
   rw[qW,hw.b]
  ·intro p hp
   rcases List.mem_append.1 hp with hp|hp
   ·exact hw.len p hp
   grind
  ·simp[nR,hw.log]
 ·rw[Ih (d:=⟨n,b,sy,0,false⟩) hd hg rfl aeL]at he
  injection he with h1 h2
  injection h2 with h2 _
  injection h2 with _ h3 h4
  exact stay h1.symm h3.symm h4.symm
theorem NS(hf:OpF o)(ht:o.text.length≤T):(iE o).length≤T+400:=by unfold iE;simp only[aeE];have h1:=ja o.kind;have h2:=dw o.subj;have h3:=dw o.case;have h4:=dw o.field;have h5:=dw o.to;have h6:=xZ hf.val;have h7:=ja o.review;have h8:=dw o.text;have h9:=dw o.reason;have h10:=xZ (v:=dP o.glass) (.inr (z8 _));have:=hf.subj;have:=hf.case;have:=hf.field;have:=hf.to;have:=hf.reason;omega
theorem tv{b:Txt}(hW:C9 e b):scan b=(e.ps,b.length):=by
 have:=K6 e.ps [] (fun p hp=>by have:=hW.len p hp;omega) aeO
 rw[List.append_nil,←hW.b]at this;exact afv
theorem Ae{b:Txt}(hW:C9 e b)(hok:D.ok ⟨n,b,sy,0,false⟩):D.bW ⟨n,b,sy,0,false⟩=(⟨n,b,b.length,0,false⟩,0):=by rw[D.Tt hok rfl rfl];simp only[tv hW,List.take_length]
end Go.Bf
namespace Go.Proofs.YtokahfmoollblaaGreatDoor
open Go Go.Ab Go.Bf Tryz
variable {k n:Nat}{s:an}
theorem Nx(l:List cC):eqL tW l l=true:=yF rfl fun j _ _=>by simp[tW]
theorem Kx(l:List pn)(h9:∀d∈l,M9 d.mark)(hl:l.length≤1000000)(q1 q2:Perm)(h:Heap):ai prog 28 [.sl (l.map ldA) q1,.sl (l.map ldA) q2] h fun r h' =>r= .b true∧h' =h:=by
 refine aeJ func28 81 [.tmp 4] fun hwf=>?_
 simp only[go_sem,aeA,bne_self_eq_false];refine .intro (fun m ρ H=>∃(i:Nat),H=h∧i≤l.length∧m=l.length - i∧lk ρ 0=some (.sl (l.map ldA) q1)∧lk ρ 1=some (.sl (l.map ldA) q2)∧lk ρ 12=some (.i l.length)∧lk ρ 13=some (.i i)) l.length ?_ ?_
 ·refine⟨0,rfl,aeK,rfl,?_,?_,?_,?_⟩<;>simp only[go_sem]
  all_goals rfl
 rintro m ρ H ⟨i,rfl,hi,rfl,r0,r1,r12,r13⟩
 by_cases hlt:i<l.length
 ·have t1:decide ((i:Int)<(l.length:Int))=true:=decide_eq_true aeK
  have w1:IntKind.i64.wrap ((i:Int)+1)=((i+1:Nat):Int):=aeW;have m9:=h9 _ (aeF hlt);obtain⟨d,ed⟩:∃d,l[i]=d:=⟨_,rfl⟩;rw[ed]at m9;have ix:=fun(K:AV→Prop)=>eu.eq (xs:=l.map ldA) (sz:=16) i aeL aeU K
  rw[aeB,ed]at ix;simp only[ldA,tO,opC,aO,ay,List.cons_append,List.nil_append]at ix;have qn:∀K,gv .neq (.complex .f64 (hbit d.mark.1) (hbit d.mark.2)) (.complex .f64 (hbit d.mark.1) (hbit d.mark.2)) K=K (.b false):=fun K=>by simp_all [Bz,beq_self_eq_true]
  simp only[go_sem,r12,r13,t1,Bool.and_self,Bool.not_true];refine .quiet aeN ?_;simp only[go_sem,r0,r1,ix,bne_self_eq_false,beq_self_eq_true,Bool.and_self,Bool.not_true,and_self,reduceIte,qn];refine⟨_,show ai prog _ [ay d.obls,ay d.obls] _ _ from Hr _ _ _,?_⟩
  rw[Nx];simp only[go_sem,r13,w1];refine⟨_,?_,i+1,rfl,aeK,rfl,?_,?_,?_,?_⟩
  ·omega
  all_goals simp only[go_sem,r0,r1,r12]
 ·have t1:decide ((i:Int)<(l.length:Int))=false:=decide_eq_false aeK
  simp only[go_sem,r12,r13,t1];exact afB
theorem SB(hG:gH k s)(o:OpD):(aI s o).2.2.1.obls.length≤10000000∧M9 (aI s o).2.2.1.mark:=by
 refine⟨?_,(Ea hG.tojA o).2⟩;unfold aI;split
 ·exact agS
 ·split
  ·exact agS
  ·exact DS _ hG.mK
theorem DX:∀(l:List Txt) {e e' :cm} {k:Nat},lR e l=some e'→gH k e.s→(∀d∈e.log,d.obls.length≤10000000∧M9 d.mark)→(∀d∈e'.log,d.obls.length≤10000000∧M9 d.mark)
 | [],e,e',k,h,_,hl=>by cases h;omega
 |p::l,e,e',k,h,hG,hl=>by
  simp only[lR]at h;cases hs:kL e p with
  |none=>grind
  |some e1=>
   rw[hs]at h;refine DX l h (TM hs hG) fun d hd=>?_
   unfold kL at hs;cases hr:jj e p with
   |none=>grind
   |some o=>
    rw[hr]at hs;simp only at hs;split at hs
    ·cases hs
     rcases List.mem_append.1 hd with hd|hd
     ·grind
     grind [List.mem_singleton,SB]
    grind
theorem Te{e:cm}(he:C8 e):∀d∈e.log,d.obls.length≤10000000∧M9 d.mark:=
 DX e.ps (e' :={e with down:=false}) he sP (fun d hd=>by cases hd)
theorem zT(y:cm){B:Txt}(hW:C9 y B)(hdn:y.down=false)(hps:y.ps.length≤900)(d:D)(hdo:d.ok)(hop:d.bW=(⟨n,B,B.length,0,false⟩,0))(hsc:(scan d.b).1=y.ps)(did:Nat)(g H:Heap)(hdk:bC H did d)(hs:Ab.Sub g H)(hn:g did=none)(her:iB g):
  ai prog 15 [.ptr did 0] H fun r H' =>∃x jid spl spj,r= .tup [.ptr x 0,.i 0]∧oh g H' x jid did y ⟨n,B,B.length,0,false⟩ spl spj∧Keep did H H'∧(∀i∈x::jid::(spl++spj),H i=none):=
 (Od d hdo did H hdk (her.sub hs) aeL).mono fun r H' ⟨h1,h2,h3⟩=>by
  have hok:=D.ND hdo;rw[hop]at h1 h3 hok;unfold u9 at h3;have hy:vP y.ps=some y:=by
   have:=hW.ok;rw[this];obtain⟨_,_,_,_,_⟩:=y;cases hdn;rfl
  rw[hsc,hy]at h3;obtain⟨x,jid,spl,spj,a,b,c⟩:=h3;exact⟨x,jid,spl,spj,a,⟨b,h1,hok,uQ hs h2 hn,fun i hi=>by
   simp only[List.mem_cons]at hi c;rcases hi with rfl|rfl|hi
   ·exact hs.none (c _ (.inl rfl))
   ·omega
   ·exact hs.none (c _ (.inr hi))⟩,h2,c⟩
theorem qi.join{P:Program}{U:TypeId→TI}{c:Code}{K:Exit→Env→Heap→Prop}{ρ:Env}{h:Heap}(ex:Exit)(I:Env→Heap→Prop)(hK:∀ρ' H',I ρ' H'→K ex ρ' H')(hc:∀K' :Exit→Env→Heap→Prop,(∀ρ' H',I ρ' H'→K' ex ρ' H')→qi P U n c ρ h K'):qi P U n c ρ h K:=hc K hK
theorem Gu{o:OpD}(h:(aI s o).2.2.2≠0):(aI s o).1=s:=by
 unfold aI at h⊢
 grind
theorem DD{x:AV}(h:Dat U 22 x):∃l:List Txt,x= .sl (l.map .s) .no∧l.length≤maxLen∧∀s∈l,s.length≤maxLen:=h.list (e:=9) aeX fun y hy=>hy.QF aeX
theorem HB(q:Nat)(hq:q≤1048576)(did:Nat)(h0 h:Heap)(hdk:bC h did ⟨q,[],0,0,false⟩)(hs:Ab.Sub h0 h)(hn:h0 did=none)(her:iB h0):
  ai prog 15 [.ptr did 0] h fun r h' =>∃x jid spl spj,r= .tup [.ptr x 0,.i 0]∧oh h0 h' x jid did (jk []) ⟨q,[],0,0,false⟩ spl spj∧Keep did h h'∧(∀i∈x::jid::(spl++spj),h i=none):=
 zT (jk []) DK rfl aeO ⟨q,[],0,0,false⟩ ⟨Nat.zero_le _,hq,Nat.zero_le _,(by decide:(0:Nat)<9223372036854775808)⟩ aeZ (by rw[Oa];rfl) did h0 h hdk hs hn her
end Go.Proofs.YtokahfmoollblaaGreatDoor
namespace Go.Bf
open Go Go.Ab Go.Proofs.YtokahfmoollblaaGreatDoor
variable {s:an}{o:OpD}{l:List cO}
theorem jR:i64 0:=⟨aeO,aeO⟩
theorem ML:i64 1:=⟨aeO,aeO⟩
theorem Wv(neg:Bool)(s:Txt):i64 (eW neg s).1:=by
 unfold eW;simp only;split
 ·exact aiV
 ·generalize (if neg=true then -(mH (s.takeWhile dgt):Int)else(mH (s.takeWhile dgt):Int))=v
  split
  ·assumption
  ·exact aiV
theorem L4(s:Txt):i64 (bO s).1.n:=by grind [bO,Wv,jR]
theorem GP:∀(f:Nat) (s:Txt) (a:Nat) (out l:List qv),qA f s a out= .ok l→(∀t∈out,i64 t.n)→∀t∈l,i64 t.n
 |0,_,_,_,_,h,_=>by grind [qA]
 |f+1,[],a,out,l,h,ho=>by
  grind [qA,Lexed.ok.injEq,List.mem_singleton,jR]
 |f+1,c::r,a,out,l,h,ho=>by
  simp only[qA]at h;split at h
  ·exact GP f r _ _ l h ho
  ·split at h
   ·cases h
   ·refine GP f _ _ _ l h fun t ht=>?_
    grind [List.mem_singleton,L4]
theorem Wo(s:Txt):i64 (fW s).1.kind∧i64 (fW s).1.n:=by
 have hk:∀k:Nat,k≤5→i64 (k:Int):=fun k h=>⟨aeK,aeK⟩
 unfold fW;cases h:pO s with
 |bad e a=>exact⟨jR,jR⟩
 |ok ts=>
  have ht:∀t∈ts,i64 t.n:=by
   grind [pO,GP]
  simp only;split
  ·have hd:i64 (ts.headD ⟨0,0,0,[]⟩).n:=by
    cases ts with
    |nil=>grind
    |cons a b=>grind
   unfold AN
   (repeat' split)<;>first|exact⟨hk 2 aeO,hd⟩|exact⟨hk 4 aeO,hd⟩|exact⟨hk 5 aeO,hd⟩|exact⟨hk 3 aeO,hd⟩|exact⟨ML,ML⟩|exact⟨ML,jR⟩|exact⟨jR,jR⟩
  ·exact⟨jR,jR⟩
theorem Tm(s:Txt):i64 (Go.Bf.CL s):=by
 unfold Go.Bf.CL;split
 ·exact aiV
 ·rename_i h
  have h1:∀c∈s,dgt c=true:=aeL;have h2:=Ie s h1;have h3:10 ^ s.length≤10 ^ 9:=Nat.pow_le_pow_right aeO aeK;constructor<;>omega
theorem WB(k:Int)(hk:0≤k∧k≤8)(a b:Txt)(g:Bool)(s:Txt):oN (opL k a b g s).1:=by
 have hk:i64 k:=by constructor<;>omega
 have z:i64 aq.kind∧i64 aq.n:=⟨jR,jR⟩;have h1:=Wo (dD (dD s).2).2;have h2:=Tm s;unfold opL
 (repeat' split)<;>first|exact⟨hk,z.1,z.2,jR⟩|exact⟨hk,h1.1,h1.2,jR⟩|exact⟨hk,z.1,z.2,h2⟩
theorem Nc{s:Txt}(h:fV s=some o):oN o:=by
 unfold fV at h;split at h
 ·cases h
  exact WB _ (wO _) _ _ _ _
 grind
theorem NA(k:Int)(a b:Txt)(g:Bool)(s:Txt):(opL k a b g s).1.text.length≤s.length:=by
 unfold opL
 grind
theorem Gt(s:Txt):(oC s).2.2.length≤s.length:=by
 unfold oC;split
 ·grind [lB,List.length_drop]
 simp
theorem Kv{s:Txt}(h:fV s=some o):dH o=true∧o.text.length≤s.length:=by
 unfold fV at h;split at h
 ·rename_i h1
  grind [KS,NA,uj,dD,oC,lB,Gt]
 grind
def kW(s:an):Prop:=∀c∈s.cases,∀f∈c.fields,inV f.val
theorem OC:kW sY:=fun c hc=>by cases hc
theorem HK(h:∀f∈l,inV f.val)(n:Txt):inV (dV l n):=by
 unfold dV;split
 ·grind
 ·exact aiV
theorem Lt(h:kW s)(id n:Txt):inV (dV (bw s.cases id).fields n):=by
 refine HK (fun f hf=>?_) n
 unfold bw at hf;split at hf
 ·rw[List.getD_eq_getElem?_getD]at hf
  cases hg:s.cases[findD s.cases id]? with
  |none=>rw[hg]at hf;cases hf
  |some c=>rw[hg]at hf;exact h c (List.mem_of_getElem? hg) f hf
 ·cases hf
theorem HM(h:∀f∈l,inV f.val)(n:Txt){v:bu}(hv:inV v):∀f∈eN l n v,inV f.val:=by
 intro f hf;unfold eN at hf
 grind
theorem QV(h:kW s)(ho:inV o.val):kW (dR aR s o):=by
 unfold dR;split
 ·unfold doD
  simp only;intro c hc;split at hc
  ·simp only[List.mem_append,List.mem_singleton]at hc
   rcases hc with(hc|rfl)|hc
   ·exact h c (List.mem_of_mem_take hc)
   ·intro f hf;cases hf
   ·exact h c (List.mem_of_mem_drop hc)
  ·split at hc
   ·rcases mem_modify hc with hc|⟨hi,rfl⟩
    ·exact h c hc
    ·exact HM (h _ (aeF hi)) _ ho
   ·split at hc
    ·exact aku
    ·(repeat' split at hc)<;>exact h c hc
 omega
theorem Lu{d:Bool}(x:cC)(h:kW s):kW (fm o d s x):=by
 unfold fm;split
 ·unfold iM
  split
  ·intro c hc
   exact aku
  omega
 ·(repeat' split)<;>exact h
theorem xp{o:OpD}{d:Bool}:∀(l:List cC) {s:an},kW s→kW (dF s o l d)
 | [],_,h=>h
 |x::l,_,h=>xp l (Lu x h)
theorem HL(h:kW s)(ho:inV o.val):kW (aI s o).1:=by grind [aI,cU,kW,fD,bW,xp,QV]
theorem I6{k:Nat}(hG:jA k s)(hv:kW s)(o:OpD):FN (aI s o).2.1:=by
 refine⟨(Ea hG o).1,?_,?_,?_⟩
 ·grind [aI,jZ,rB,bL,bX,fq,nD]
 ·have hp:dH o=true→0≤(aR o.text).2.2∧(aR o.text).2.2≤4096:=fun hf=>by
   have:=(oA hf).text;rcases rB o.text with h|h<;>omega
  have h0:(0:Int)≤0∧(0:Int)≤4096:=aeO;have:0≤(aI s o).2.1.at_∧(aI s o).2.1.at_≤4096:=by
   unfold aI;split
   ·grind [jZ,bL]
   ·split<;>exact h0
  omega
 ·unfold aI
  split
  ·exact aiV
  ·split
   ·exact aiV
   ·unfold nD
    simp only;split
    ·grind [Lt]
    ·exact aiV
def Xd:Txt:=[119,104,97,116]
def An(s:an)(q:Txt):Txt:=match fV q with
 |none=>Xd
 |some o=>gr (aI s o).2.1
def jT(e:cm)(q:Txt):cm:=match fV q with
 |none=>e
 |some o=>if(aI e.s o).2.2.2=0 then Np e o else e
def gQ(s:an)(q:Txt):an:=match fV q with
 |none=>s
 |some o=>(aI s o).1
def j0(l:List Txt):cm:=l.foldl jT (jk [])
theorem KW(l:List Txt)(q:Txt):j0 (l++ [q])=jT (j0 l) q:=by simp[j0]
theorem si(l:List Txt)(i:Nat)(h:i<l.length):j0 (l.take (i+1))=jT (j0 (l.take i)) l[i]:=by rw[List.take_succ_eq_append_getElem h,KW]
theorem sZ(e:cm)(q:Txt):(jT e q).s=gQ e.s q:=by
 unfold jT gQ;cases fV q with
 |none=>rfl
 |some o=>
  simp only;split
  ·rfl
  grind [Gu]
theorem ED(e:cm)(q:Txt)(B:Nat)(h:∀o,fV q=some o→(iE o).length≤B):(frames (jT e q).ps).length≤(frames e.ps).length+(16+B):=by
 unfold jT;cases eo:fV q with
 |none=>simp
 |some o=>
  simp only;split
  ·have hl:(frame (eC e.ch o)).length=16+(iE o).length:=by grind [fT,eC,iX]
   show(frames (e.ps++ [eC e.ch o])).length≤_
   grind [qW,aeE]
  omega
theorem Et{q:Txt}(hq:q.length≤600):∀o,fV q=some o→(iE o).length≤1000:=fun o ho=>by
 have h:=Kv ho;exact NS (oA h.1) aeK
theorem I9(l:List Txt)(h:∀q∈l,q.length≤600):(frames (j0 l).ps).length≤1016*l.length:=by
 have go:∀(l:List Txt) (e:cm),(∀q∈l,q.length≤600)→(frames (l.foldl jT e).ps).length≤(frames e.ps).length+1016*l.length:=by
  intro l
  induction l with
  |nil=>simp
  |cons q l ih=>
   intro e hq;have h1:=ih (jT e q) fun r hr=>hq r aeL
   have h2:=ED e q 1000 (Et (hq q aeR));simp only[List.foldl_cons,List.length_cons];omega
 have:=go l (jk []) h;simpa[j0,jk,frames]using this
end Go.Bf
namespace Go.Proofs.YtokahfmoollblaaGreatDoor
open Go Go.Ab Go.Bf Tryz
variable {n k x jid:Nat}{g h:Heap}{e:cm}{spl spj:List Nat}
structure jl (n k:Nat) (g h:Heap) (x jid did:Nat) (e:cm) (spl spj:List Nat):Prop where
 w:oh g h x jid did e ⟨n,frames e.ps,(frames e.ps).length,0,false⟩ spl spj
 hW:C9 e (frames e.ps)
 hG:gH k e.s
 hV:kW e.s
 hdn:e.down=false
 hps:e.ps.length≤k
theorem jl.up{h':Heap}{did:Nat}(w:jl n k g h x jid did e spl spj)(hs:Ab.Sub h h'):jl n k g h' x jid did e spl spj:=
 ⟨w.w.up hs,w.hW,w.hG,w.hV,w.hdn,w.hps⟩
theorem jl.line{did:Nat}(w:jl n k g h x jid did e spl spj)(q:Txt)(hq:q.length≤600)(hk:k≤900)(her:iB g)(ht:xy g)(hr:∀o,fV q=some o→(frames e.ps).length+16+(iE o).length≤n):
  ai prog 12 [.ptr x 0,.s q] h fun r h' =>r= .s (An e.s q)∧∃spl' spj',jl n (k+1) g h' x jid did (jT e q) spl' spj'∧Touch (x::did::jid::(spl++spj)) h h'∧(∀i∈x::did::jid::(spl' ++spj'),i∈x::did::jid::(spl++spj)∨h i=none):=by
 obtain⟨w,hW,hG,hV,hdn,hps⟩:=w;have hlg:=hW.log;cases eo:fV q with
 |none=>
  have el:qq e ⟨n,frames e.ps,(frames e.ps).length,0,false⟩ q=(e,⟨n,frames e.ps,(frames e.ps).length,0,false⟩,[119,104,97,116]):=by grind [qq]
  refine(w.line q aeK aeK aeK hG aeK her ht (fun o e=>aeL) (by rw[el];exact w.ok) (fun o e=>aeL)).mono fun r h' ⟨er,spl',spj',w',hT,hin⟩=>?_
  rw[el]at w' er;have en:jT e q=e:=by grind [jT]
  rw[en];refine⟨by rw[er];unfold An;rw[eo];rfl,spl',spj',⟨w',hW,{hG.tojA.up with ticks:=hG.ticks},hV,hdn,aeK⟩,hT,hin⟩
 |some o=>
  have h64:=Nc eo;have hrt:=I6 hG.tojA hV o;have hr:=hr o eo;obtain⟨e',b',sy',RR,ed,hok,hdn',hps',hlg',hG',hways⟩:=Po o hdn hG w.ok;obtain⟨hW',hp',hy'⟩:=Mr hdn h64 hW ed;have el:qq e ⟨n,frames e.ps,(frames e.ps).length,0,false⟩ q=(e',⟨n,b',sy',0,false⟩,gr RR):=by grind [qq]
  have hR:RR=(aI e.s o).2.1∧e' =jT e q:=by
   unfold jT
   grind
  obtain⟨rfl,rfl⟩:=hR;have hb:=hW'.b;have hy:=hy' rfl;subst hb;subst hy;refine(w.line q aeK aeK aeK hG aeK her ht (fun o' e=>aeL) aeL (fun o' e2=>?_)).mono fun r h' ⟨er,spl',spj',w',hT,hin⟩=>?_
  ·grind
  rw[el]at w' er;refine⟨by grind [An],spl',spj',⟨w',hW',hG',?_,hdn',aeK⟩,hT,hin⟩
  rw[sZ];unfold gQ;rw[eo];exact HL hV h64.2.2.1
theorem jl.new{did:Nat}(w:oh g h x jid did (jk []) ⟨n,[],0,0,false⟩ spl spj):jl n 0 g h x jid did (j0 []) spl spj:=
 ⟨w,DK,sP,OC,rfl,Nat.le_refl _⟩
theorem vS(n:Nat)(hn:n≤1048576)(h0 h:Heap)(hs:Ab.Sub h0 h)(her:iB h0):ai prog 6 [.i n] h fun r h' =>∃x jid did spl spj,r= .tup [.ptr x 0,.ptr did 0]∧jl n 0 h0 h' x jid did (j0 []) spl spj∧Ab.Sub h h' :=by
 refine aeJ func6 32 [.tmp 2,.tmp 3] fun hwf=>?_
 simp only[go_sem];refine(Mp n hn h).mono fun r h1 ⟨did,hd,er,hdk,s1⟩=>?_
 subst er;simp only[go_sem];refine(HB n hn did h0 h1 hdk (hs.trans s1) (hs.none hd) her).mono fun r h2 ⟨x,jid,spl,spj,er,w,hK,hnew⟩=>?_
 subst er;simp only[go_sem];exact .same (.refl _) ⟨x,jid,did,spl,spj,rfl,.new w,uQ s1 hK hd⟩
end Go.Proofs.YtokahfmoollblaaGreatDoor
namespace Go.Bf
open Go Go.Ab Go.Proofs.YtokahfmoollblaaGreatDoor
def awP:Txt:=[112,111,108,105,99,121,32,112,32,102,105,114,115,116,32,123,32,100,101,110,121,32,100,32,119,104,101,110,32,40,97,99,116,105,111,110,46,110,97,109,101,32,61,32,35,119,114,105,116,101,41,59,32,112,101,114,109,105,116,32,114,59,32,125]
def awL:List Txt:=[[97,110,110,32,110,101,119,32,99],[97,110,110,32,119,114,105,116,101,32,99,32,102,32,55],[97,110,110,32,112,111,108,105,99,121,32]++awP,[97,110,110,32,119,114,105,116,101,32,99,32,102,32,56],[98,111,98,32,114,101,97,100,32,99,32,102]]
def awW:List Txt:=[[111,107],[111,107],[111,107],[100,101,110,105,101,100,32,68,101,110,121],[111,107,32,55]]
def awO:Nat→Option OpD
 |0=>some ⟨1,[97,110,110],[99],[],[],aq,0,[],[],false⟩
 |1=>some ⟨3,[97,110,110],[99],[102],[],⟨2,7,[]⟩,0,[],[],false⟩
 |2=>some ⟨7,[97,110,110],[],[],[],aq,0,awP,[],false⟩
 |3=>some ⟨3,[97,110,110],[99],[102],[],⟨2,8,[]⟩,0,[],[],false⟩
 |4=>some ⟨2,[98,111,98],[99],[102],[],aq,0,[],[],false⟩
 |_=>none
def awS:Nat→an
 |0=>sY
 |i+1=>match awO i with|none=>awS i|some o=>(aI (awS i) o).1
def Yz(i:Nat):Prop:=fV (awL.getD i [])=awO i∧match awO i with
 |none=>False
 |some o=>gr (aI (awS i) o).2.1=awW.getD i []∧(iE o).length≤200
theorem Rc:∀i,i<5→Yz i
 |0,_=>⟨aeZ,aeZ,aez aeZ⟩
 |1,_=>⟨aeZ,aeZ,aez aeZ⟩
 |2,_=>⟨aeZ,aeZ,aez aeZ⟩
 |3,_=>⟨aeZ,aeZ,aez aeZ⟩
 |4,_=>⟨aeZ,aeN,aez aeZ⟩
 |n+5,h=>aeK
theorem Sq:∀i,i<5→(awL.getD i []).length≤600:=aeO
theorem L1:∀i,i≤5→(j0 (awL.take i)).s=awS i∧(frames (j0 (awL.take i)).ps).length≤216*i
 |0,_=>⟨rfl,aeO⟩
 |i+1,h=>by
  obtain⟨h1,h2⟩:=L1 i aeK;obtain⟨h3,h4⟩:=Rc i aeK;have hl:awL.length=5:=rfl;have eg:awL.getD i []=awL[i]'aeK:=aeL;rw[si awL i aeK,←eg];have h5:=ED (j0 (awL.take i)) (awL.getD i []) 200 fun o ho=>by
   grind
  grind [sZ,gQ,awS,awO]
end Go.Bf
namespace Go.Proofs.YtokahfmoollblaaGreatDoor
open Go Go.Ab Go.Bf Tryz
def AwP(g:Heap)(x i:Nat)(h:Heap):Prop:=∃jid did spl spj,jl 4000 i g h x jid did (j0 (awL.take i)) spl spj
theorem tK(g h:Heap)(her:iB g)(ht:xy g)(x i:Nat)(hi:i<5)(hp:AwP g x i h):ai prog 12 [.ptr x 0,.s (awL.getD i [])] h fun r h' =>r= .s (awW.getD i [])∧AwP g x (i+1) h'∧Ab.Sub g h' :=by
 obtain⟨jid,did,spl,spj,w⟩:=hp;obtain⟨h1,h2⟩:=L1 i aeK;obtain⟨h3,h4⟩:=Rc i hi;refine(w.line (awL.getD i []) (Sq i hi) aeK her ht fun o ho=>?_).mono fun r h' ⟨er,spl',spj',w',_,_⟩=>?_
 ·grind
 refine⟨?_,⟨jid,did,spl',spj',?_⟩,w'.w.sub⟩
 ·rw[er,h1]
  unfold An
  grind
 grind [si,awL]
theorem Dq(h:Heap)(he:iB h)(ht:xy h):ai prog 18 [] h fun r h' =>r= .b true∧h' =h:=
 ai.freeze fun g hgs _=>by
 have he:=he.sub hgs;have ht:=ht.sub hgs;refine aeJ func18 40 [.tmp 0] fun hwf=>?_
 simp only[go_sem];refine(show ai prog _ [.i 4000] _ _ from(vS 4000 aeO g g (.refl _) he).mono fun r h1 ⟨x,jid,did,spl,spj,er,w,s1⟩=>?_)
 subst er;have hc:∀ρ:Env,ev ρ (.const (.string ⟨#[97,110,110,32,112,111,108,105,99,121,32,112,111,108,105,99,121,32,112,32,102,105,114,115,116,32,123,32,100,101,110,121,32,100,32,119,104,101,110,32,40,97,99,116,105,111,110,46,110,97,109,101,32,61,32,35,119,114,105,116,101,41,59,32,112,101,114,109,105,116,32,114,59,32,125]⟩))=some (.s ([97,110,110,32,112,111,108,105,99,121,32]++awP)):=fun ρ=>JO aeO
 simp only[go_sem,hc];refine(show ai prog _ [.ptr x 0,.s [97,110,110,32,110,101,119,32,99]] _ _ from(tK g h1 he ht x 0 aeK ⟨jid,did,spl,spj,w⟩).mono fun r h2 ⟨er,w,_⟩=>?_)
 replace er:r= .s [111,107]:=er;subst er;simp only[go_sem,hc];refine(show ai prog _ [.ptr x 0,.s [97,110,110,32,119,114,105,116,101,32,99,32,102,32,55]] _ _ from(tK g h2 he ht x 1 aeK w).mono fun r h3 ⟨er,w,_⟩=>?_)
 replace er:r= .s [111,107]:=er;subst er;simp only[go_sem,hc];refine(show ai prog _ [.ptr x 0,.s ([97,110,110,32,112,111,108,105,99,121,32]++awP)] _ _ from(tK g h3 he ht x 2 aeK w).mono fun r h4 ⟨er,w,_⟩=>?_)
 replace er:r= .s [111,107]:=er;subst er;simp only[go_sem];refine(show ai prog _ [.ptr x 0,.s [97,110,110,32,119,114,105,116,101,32,99,32,102,32,56]] _ _ from(tK g h4 he ht x 3 aeK w).mono fun r h5 ⟨er,w,_⟩=>?_)
 replace er:r= .s [100,101,110,105,101,100,32,68,101,110,121]:=er;subst er;simp only[go_sem];refine(show ai prog _ [.ptr x 0,.s [98,111,98,32,114,101,97,100,32,99,32,102]] _ _ from(tK g h5 he ht x 4 aeK w).mono fun r h6 ⟨er,_,s6⟩=>?_)
 replace er:r= .s [111,107,32,55]:=er;subst er;simp only[go_sem];exact .same (.refl _) ⟨s6,_,.pure rfl,rfl⟩
end Go.Proofs.YtokahfmoollblaaGreatDoor
namespace Go.Bf
open Go Go.Ab Go.Proofs.YtokahfmoollblaaGreatDoor
variable {l:List Txt}{n:Nat}
def jH(l:List Txt)(n:Nat):List Txt:=(l.take n).map fun q=>q.take 600
theorem Eu:∀q∈jH l n,q.length≤600:=fun q hq=>by
 obtain⟨r,_,rfl⟩:=List.mem_map.1 hq
 grind
theorem Bs(l:List Txt)(n:Nat):(jH l n).length≤n:=by grind [jH,aeA,List.length_take]
theorem GS{i:Nat}(h:i<l.length)(hn:i<n):jH (l.take (i+1)) n=jH (l.take i) n++ [l[i].take 600]:=by grind [jH,Nat.min_eq_right,List.take_succ_eq_append_getElem]
theorem N9{i:Nat}(hl:l.length≤40)(hq:∀q∈l,q.length≤600)(hi:i<l.length):∀o,fV l[i]=some o→(frames (j0 (l.take i)).ps).length+16+(iE o).length≤200000:=fun o ho=>by
 have h1:=I9 (l.take i) fun q h=>hq q (List.mem_of_mem_take h)
 rw[List.length_take]at h1;have h2:=Et (hq _ (aeF hi)) o ho;omega
end Go.Bf
namespace Go.Proofs.YtokahfmoollblaaGreatDoor
open Go Go.Ab Go.Bf Tryz
theorem Ev(l:List Txt)(n:Nat)(hn:n≤1000)(h:Heap):ai prog 8 [.sl (l.map .s) .no,.i n] h fun r h' =>r= .sl ((jH l n).map .s) .no∧h' =h:=by
 refine aeJ func8 33 [.tmp 4] fun hwf=>?_
 simp only[go_sem];have hsz:(U 9).sz=1:=aeZ;refine qi.wf fun hw=>?_
 refine .intro (fun m ρ H=>∃(i:Nat) (y:AV),Acc U 9 h H y ((jH (l.take i) n).map .s)∧i≤l.length∧i≤n∧m=l.length - i∧lk ρ 0=some (.sl (l.map .s) .no)∧lk ρ 1=some (.i n)∧lk ρ 5=some y∧lk ρ 6=some (.i i)) l.length ?_ ?_
 ·refine⟨0,.sl [] .full,by simpa[jH]using Acc.full (.refl _),aeK,aeK,rfl,?_,?_,?_,?_⟩<;>simp only[go_sem]
  all_goals rfl
 rintro m ρ H ⟨i,y,hy,hi,hin,rfl,r0,r1,r5,r6⟩
 obtain⟨q,eq⟩:=hy.row;subst eq
 by_cases hgo:i<l.length∧i<n
 ·have d1:decide ((i:Int)<(l.length:Int))=true:=decide_eq_true aeK
  have d2:decide ((i:Int)<(n:Int))=true:=decide_eq_true aeK;have w1:IntKind.i64.wrap ((i:Int)+1)=((i+1:Nat):Int):=aeW;have ix:=fun k=>eu.eq (xs:=l.map AV.s) (sz:=1) i aeL aeU k
  rw[aeB]at ix;have e:(if(600:Int)<(l[i].length:Int)then(600:Int)else(l[i].length:Int))=((min 600 l[i].length:Nat):Int):=aeK
  have et:l[i].take (min 600 l[i].length)=l[i].take 600:=aeR;simp only[go_sem,r0,r1,r5,r6,aeA,d1,d2];refine .calls cW [0,1,2,3,4,5,6,7,8,9,10,11,12,13,14] (fun _ _ e=>afb) aeN rfl ?_
  simp only[go_sem,r0,r1,r5,r6,ix,e];refine⟨aeK,aeK,aeK,?_⟩;simp only[go_sem,Option.isSome_none,Option.isSome_some,tN,Int.toNat_natCast,et];refine hy.app (zs:=[.s (l[i].take 600)]) aeO aeO (fun k hk=>hk) (by intro z hz;obtain⟨a,_,rfl⟩:=List.mem_map.1 hz;rfl) afw (by simp only[go_sem,jH,aeA,List.length_take,List.length_cons,List.length_nil]<;>omega) fun y' H' hy' kp=>?_
  refine⟨fun _ _ e=>afb,?_⟩
  simp only[go_sem,r6,w1];refine⟨_,?_,i+1,y',by grind [GS],aeK,aeK,rfl,?_,?_,?_,?_⟩
  ·omega
  all_goals simp only[go_sem,r0,r1]
 ·have hall:jH (l.take i) n=jH l n:=by
   grind [jH,Nat.min_eq_left,List.take_of_length_le]
  rw[hall]at hy;cases d1:decide ((i:Int)<(l.length:Int))
  ·simp only[go_sem,r0,r5,r6,aeA,d1]
   exact .mk _ (by rw[hall];exact .sl _ _) hy.1 ⟨rfl,rfl⟩
  ·have d2:decide ((i:Int)<(n:Int))=false:=decide_eq_false fun h3=>hgo ⟨aeL,aeK⟩
   simp only[go_sem,r0,r1,r5,r6,aeA,d1,d2];exact .mk _ (by rw[hall];exact .sl _ _) hy.1 ⟨rfl,rfl⟩
theorem jl.step{g h:Heap}{x jid did:Nat}{l:List Txt}{i:Nat}{spl spj:List Nat}(hl:l.length≤40)(hq:∀q∈l,q.length≤600)(hi:i<l.length)(w:jl 200000 i g h x jid did (j0 (l.take i)) spl spj)(her:iB g)(ht:xy g):
  ai prog 12 [.ptr x 0,.s l[i]] h fun r h' =>r= .s (An (j0 (l.take i)).s l[i])∧∃spl' spj',jl 200000 (i+1) g h' x jid did (j0 (l.take (i+1))) spl' spj'∧Touch (x::did::jid::(spl++spj)) h h'∧(∀j∈x::did::jid::(spl' ++spj'),j∈x::did::jid::(spl++spj)∨h j=none):=by
 rw[si l i hi];exact w.line l[i] aeL aeK her ht (N9 hl hq hi)
end Go.Proofs.YtokahfmoollblaaGreatDoor
namespace Go.Bf
open Go Go.Ab Go.Proofs.YtokahfmoollblaaGreatDoor
theorem Nq(e:cm)(q:Txt):e.ps<+:(jT e q).ps∧(jT e q).ps.length≤e.ps.length+1:=by
 unfold jT;cases fV q with
 |none=>simp
 |some o=>
  simp only;split
  ·grind [List.prefix_append,Np]
  simp
theorem DY:∀(l:List Txt) (e:cm),e.ps<+:(l.foldl jT e).ps∧(l.foldl jT e).ps.length≤e.ps.length+l.length
 | [],e=>aeR
 |q::l,e=>by
  have h1:=Nq e q;have h2:=DY l (jT e q);exact⟨h1.1.trans h2.1,aeL⟩
theorem KZ(l:List Txt):(j0 l).ps.length≤l.length:=by have:=(DY l (jk [])).2;simpa[j0,jk]using this
end Go.Bf
namespace Go.Proofs.YtokahfmoollblaaGreatDoor
open Go Go.Ab Go.Bf Tryz
theorem Gr(a b:List Txt):frames (a++b)=frames a++frames b:=by simp[frames]
theorem JI(q:Nat)(hq:q≤1048576)(h:Heap):
  ai prog 19 [.i q] h fun r h' =>∃id,h id=none∧r= .tup [.ptr id 0,.i 0]∧h' id=some (.obj (D.cells ⟨q,[],0,0,false⟩ (.sl [] .full)) 121)∧Ab.Sub h h' :=by
 refine aeJ func19 13 [.tmp 2,.tmp 3] fun hwf=>?_
 simp only[go_sem];refine .intro (fun e=>absurd (aeC e) aeK) (fun e=>?_)
 simp only[go_sem];refine .no (decide_eq_false aeK) ?_;simp only[go_sem];intro id hid;simp only[go_sem];exact .same (.refl _) ⟨id,hid,rfl,ah ..,(Sub.refl h).new hid _⟩
theorem jl.keep{n k:Nat}{g h h' :Heap}{x jid did:Nat}{e:cm}{spl spj:List Nat}(w:jl n k g h x jid did e spl spj){cid:Nat}(hk:Keep cid h h')(hc:cid∉x::did::jid::(spl++spj)){d:D}(hcs:bC h cid d)(hg:g cid=none):jl n k g h' x jid did e spl spj:=by
 obtain⟨y2,hy2,_⟩:=hcs;obtain⟨⟨⟨yl,a,bb,c⟩,⟨y,hy,hb⟩,ok,sub,new⟩,r2,r3,r4,r5,r6⟩:=w;refine⟨⟨⟨yl,hk _ _ aeL a,bb.touch (.keep hk) aeL,c.touch (.keep hk) aeL aeL⟩,⟨y,hk _ _ aeL hy,?_⟩,ok,uQ sub hk hg,new⟩,r2,r3,r4,r5,r6⟩;rcases hb with hb|⟨j,off,cs2,rfl,a1,a2,a3⟩
 ·exact aiB
 ·refine .oa (hk _ _ (fun e=>?_) a1) a2 a3
  grind
set_option maxHeartbeats 400000 in
theorem C1(y:AV)(dy:Dat U 22 y)(h:Heap)(he:iB h)(ht:xy h):ai prog 5 [y] h fun r h' =>r= .b true∧h' =h:=
 ai.freeze fun g hgs _=>by
 have he:=he.sub hgs;have ht:=ht.sub hgs;obtain⟨l0,rfl,hl0,hls⟩:=DD dy;have hll:=Bs l0 40;have hlq:=Eu (l:=l0) (n:=40);have hlo:=fun(G:Heap)=>Ev l0 40 aeO G
 obtain⟨l,el⟩:∃l,jH l0 40=l:=⟨_,rfl⟩;rw[el]at hll hlq;simp only[el]at hlo;refine aeJ func5 90 [.tmp 2] fun hwf=>?_
 simp only[go_sem];refine(show ai prog _ [.i 200000] _ _ from(vS 200000 aeO g g (.refl _) he).mono fun r h1 ⟨x,jid,did,spl,spj,er,w,s1⟩=>?_)
 subst er;simp only[go_sem];refine(show ai prog _ [.i 200000] _ _ from(JI 200000 aeO h1).mono fun r h2 ⟨cid,hn2,er,hcd,s2⟩=>?_)
 subst er;have hgc:g cid=none:=w.w.sub.none hn2;have hcn:=w.w.fresh hn2;replace w:=w.up s2;simp only[go_sem];refine(hlo h2).pthen ?_;simp only[go_sem,aeA];refine qi.join (.exit 0) (fun ρ H=>∃spl spj,jl 200000 l.length g H x jid did (j0 l) spl spj∧bC H cid ⟨200000,[],0,0,false⟩∧cid∉x::did::jid::(spl++spj)∧lk ρ 3=some (.ptr x 0)∧lk ρ 5=some (.ptr cid 0)) ?_ fun K1 hK1=>?_
 rotate_left
 ·refine .intro (fun m ρ H=>∃(i:Nat) (spl spj:List Nat),jl 200000 i g H x jid did (j0 (l.take i)) spl spj∧H cid=some (.obj (D.cells ⟨200000,[],0,0,false⟩ (.sl [] .full)) 121)∧cid∉x::did::jid::(spl++spj)∧i≤l.length∧m=l.length - i∧lk ρ 3=some (.ptr x 0)∧lk ρ 5=some (.ptr cid 0)∧lk ρ 32=some (.sl (l.map .s) .no)∧lk ρ 33=some (.i l.length)∧lk ρ 34=some (.i i)) l.length ?_ ?_
  ·refine⟨0,spl,spj,w,hcd,hcn,aeK,rfl,?_,?_,?_,?_,?_⟩<;>simp only[go_sem]
   all_goals rfl
  rintro m ρ H ⟨i,spl,spj,w,hcd,hcn,hi,rfl,r3,r5,r32,r33,r34⟩
  by_cases hlt:i<l.length
  ·have t1:decide ((i:Int)<(l.length:Int))=true:=decide_eq_true aeK
   have w1:IntKind.i64.wrap ((i:Int)+1)=((i+1:Nat):Int):=aeW;have ix:=fun k=>eu.eq (xs:=l.map AV.s) (sz:=1) i aeL aeU k
   rw[aeB]at ix;simp only[go_sem,r3,r32,r33,r34,t1,ix];refine(w.step hll hlq hlt he ht).mono fun r H2 ⟨er,spl',spj',w2,hT,hin⟩=>?_
   subst er;simp only[go_sem,r34,w1];refine⟨_,?_,i+1,spl',spj',w2,hT _ _ hcn hcd,fun hh=>?_,aeK,rfl,?_,?_,?_,?_,?_⟩
   ·omega
   ·grind
   all_goals simp only[go_sem,r3,r5,r32,r33]
  ·obtain rfl:i=l.length:=by omega
   have t1:decide ((l.length:Int)<(l.length:Int))=false:=decide_eq_false aeK;simp only[go_sem,r32,r33,r34,t1];rw[List.take_length]at w;exact hK1 _ _ ⟨spl,spj,w,⟨_,hcd,.inl ⟨.full,rfl⟩⟩,hcn,by simp only[go_sem,r3],by simp only[go_sem,r5]⟩
 rintro ρ H ⟨spl,spj,w,hcd,hcn,r3,r5⟩
 have hlk:=Te w.hW.ok;have hlog:=w.hW.log;have hpc:=KZ l;have hrl:=I9 l hlq;have hlen:=w.hW.len;obtain⟨e,ee⟩:∃e,j0 l=e:=⟨_,rfl⟩;rw[ee]at w hlk hlog hpc hrl hlen;have hfr:(frames e.ps).length≤200000:=aeK;simp only[go_sem,r3];refine(DM x jid did e spl spj H w.w.eng aeK (fun p hp=>aeL)).mono fun r H1 ⟨q1,er,hs1⟩=>?_
 subst er;replace w:=w.up hs1;replace hcd:=hcd.keep hs1.fJ;simp only[go_sem,aeA];refine .intro (fun m ρ H=>∃(j:Nat) (b:Txt) (sy:Nat),jl 200000 l.length g H x jid did e spl spj∧bC H cid ⟨200000,b,sy,0,false⟩∧D.ok ⟨200000,b,sy,0,false⟩∧b=frames (e.ps.take j)∧j≤e.ps.length∧m=e.ps.length - j∧lk ρ 3=some (.ptr x 0)∧lk ρ 5=some (.ptr cid 0)∧lk ρ 43=some (.sl (e.ps.map lq) q1)∧lk ρ 44=some (.i e.ps.length)∧lk ρ 45=some (.i j)) (e.ps.length - 0) ?_ ?_
 ·refine⟨0,[],0,w,hcd,⟨Nat.zero_le _,aeO,Nat.zero_le _,aeO⟩,rfl,aeK,rfl,?_,?_,?_,?_,?_⟩<;>simp only[go_sem,r3,r5]
  all_goals rfl
 rintro m ρ H ⟨j,b,sy,w,hcd,hdo,hb,hj,rfl,r3,r5,r43,r44,r45⟩
 by_cases hc:j<e.ps.length
 ·have d1:decide ((j:Int)<(e.ps.length:Int))=true:=decide_eq_true aeK
  have w1:IntKind.i64.wrap ((j:Int)+1)=((j+1:Nat):Int):=aeW;have hpl:=hlen _ (aeF hc);have ix:=fun k=>eu.eq (xs:=e.ps.map lq) (sz:=1) j aeL aeU k
  rw[aeB]at ix;simp only[lq]at ix;have hsn:frames (e.ps.take (j+1))=b++frame e.ps[j]:=by grind [List.take_succ_eq_append_getElem,qW]
  have hle:(frames (e.ps.take (j+1))).length≤(frames e.ps).length:=by
   grind [Gr,List.take_append_drop,aeE]
  rw[hsn]at hle;obtain⟨p0,ep0⟩:∃p0,e.ps[j]=p0:=⟨_,rfl⟩;rw[ep0]at ix hpl hsn hle;simp only[go_sem,r43,r44,r45,d1,ix,r5];refine(D3 _ p0 H (.sl _ _) aeK).mono fun r H2 ⟨er,s4⟩=>?_
  subst er;have hb2:b.length+(frame p0).length≤200000:=aeL;have hap:=D.HX (d:=⟨200000,b,sy,0,false⟩) (b:=frame p0) rfl rfl hb2;have hcd2:=hcd.keep s4.fJ;simp only[go_sem,r5];refine(rS _ hdo cid H2 _ (frame p0) hcd2 (.sl _ _) aeK).mono fun r H3 ⟨er,hd3,hk3⟩=>?_
  rw[hap]at er hd3;subst er;simp only[go_sem,r45,w1];refine⟨_,?_,j+1,b++frame p0,sy,(w.up s4).keep hk3 hcn hcd2 hgc,hd3,⟨aeL,hdo.2.1,Nat.le_trans hdo.2.2.1 aeR,hdo.2.2.2⟩,hsn.symm,aeK,rfl,?_,?_,?_,?_,?_⟩
  ·omega
  all_goals simp only[go_sem,r3,r5,r43,r44]
 ·obtain rfl:j=e.ps.length:=by omega
  have d1:decide ((e.ps.length:Int)<(e.ps.length:Int))=false:=decide_eq_false aeK;rw[List.take_length]at hb;subst hb;have hWe:=w.hW;simp only[go_sem,r43,r44,r45,d1,r5];refine(zT e hWe w.hdn aeK ⟨200000,frames e.ps,sy,0,false⟩ hdo (Ae hWe hdo) (by rw[tv hWe]) cid g H hcd w.w.sub hgc he).mono fun r H2 ⟨x2,jid2,spl2,spj2,er,v,hk,_⟩=>?_
  subst er;have w1:=w.keep hk hcn hcd hgc;obtain⟨a1,a2,a3,a4,a5,a6,a7,es⟩:=bT e.s;have hal:=BT e.s _ es H2;have s1:=vm x jid did e spl spj H2 w1.w.eng;have s2:=vm x2 jid2 cid e spl2 spj2 H2 v.eng;have l1:=Ij x jid did e spl spj H2 w1.w.eng aeK (fun d hd=>(hlk d hd).1)
  have l2:=Ij x2 jid2 cid e spl2 spj2 H2 v.eng aeK (fun d hd=>(hlk d hd).1)
  have c1:=Dv x jid did e spl spj H2 w1.w.eng;have c2:=Dv x2 jid2 cid e spl2 spj2 H2 v.eng;have hlr:=Kx e.log (fun d hd=>(hlk d hd).2) aeK .no .no H2
  rw[show bY e.s= .agg (cL e.s)from rfl,es]at hal s1 s2
  simp only[go_sem,r3];refine s1.pthen ?_;simp only[go_sem];refine s2.pthen ?_;simp only[go_sem];refine hal.pthen ?_;simp only[go_sem,r3];refine l1.pthen ?_;simp only[go_sem];refine l2.pthen ?_;simp only[go_sem];refine hlr.pthen ?_;simp only[go_sem,r3];refine c1.pthen ?_;simp only[go_sem];refine c2.pthen ?_;simp only[go_sem,beq_self_eq_true];refine(Dq H2 (he.sub w1.w.sub) (ht.sub w1.w.sub)).pthen ?_;simp only[go_sem];exact .same (.refl _) ⟨w1.w.sub,_,.pure rfl,rfl⟩
theorem AO(ev:Value)(hev:ev= .nilIface∨∃te pe,ev= .iface te pe)(x:AV)(dx:Dat U 22 x):ai prog 5 [x] (vQ [(3,rC),(2,[ev])]) fun r _=>r= .b true:=(C1 x dx _ (BV hev) ⟨0,rfl⟩).mono fun _ _ h=>h.1
end Go.Proofs.YtokahfmoollblaaGreatDoor
