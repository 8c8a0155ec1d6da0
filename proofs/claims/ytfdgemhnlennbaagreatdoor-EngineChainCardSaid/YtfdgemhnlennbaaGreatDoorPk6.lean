/- The law EngineChain: pack 6 of its texts. -/
import Derived.Test.YtfdgemhnlennbaaGreatDoorPk1
import Derived.Test.YtfdgemhnlennbaaGreatDoorPk2
import Derived.Test.YtfdgemhnlennbaaGreatDoorPk3
import Derived.Test.YtfdgemhnlennbaaGreatDoorPk4
import Derived.Test.YtfdgemhnlennbaaGreatDoorPk5
set_option linter.unusedSimpArgs false
set_option linter.unusedVariables false
set_option maxRecDepth 100000
namespace Go.Proofs.YtfdgemhnlennbaaGreatDoor
open Go Go.Ab Go.Bf
theorem KY{α:Type}(y:AV)(xs:List AV)(ds:List α)(q:α→Bool)(g:FuncId)(cap:List AV)(h:Heap)(hb:Rd h 7 y xs)(hn:xs.length=ds.length)(hl:xs.length≤1000000000)(hx:∀x∈xs,bA x=true)
  (hp:∀i (h1:i<xs.length) (h2:i<ds.length),ai Tryz.prog g (xs[i]::cap) h fun r h' =>r= .b (q ds[i])∧h' =h):
  ai Tryz.prog 213 [y,.fn g cap] h fun r h' =>r= .i (ixD q ds)∧h' =h:=by
 refine ab6 Tryz.func213 19 [.tmp 4] fun hwf=>?_
 simp only[go_sem,hb.len];refine .intro (fun m ρ h' =>h' =h∧∃i:Nat,i≤xs.length∧m=xs.length - i∧(∀j (hj:j<i) (h2:j<ds.length),q ds[j]=false)∧lk ρ 0=some y∧lk ρ 1=some (.fn g cap)∧lk ρ 7=some (.i xs.length)∧lk ρ 8=some (.i i)) xs.length ?_ ?_
 ·refine⟨rfl,0,ab7,rfl,fun j hj=>ab7,?_,?_,?_,?_⟩<;>simp only[go_sem]
 ·rintro m ρ h' ⟨rfl,i,hi,rfl,hc,r0,r1,r7,r8⟩
  simp only[go_sem,r7,r8];refine .intro (fun e=>?_) (fun e=>?_)
  ·have hlt:i<xs.length:=ab4 e
   have hlt2:i<ds.length:=ab7;have w1:IntKind.i64.wrap ((i:Int)+1)=((i+1:Nat):Int):=acn;simp only[go_sem,r0,r1,r8];refine hb.idx (e:=135) i rfl hlt acr acd fun p hp1=>?_
   have hld:=hp1.all (U:=U) (ty:=135) acd ac4 adV;simp only[go_sem,hld];refine(show ai Tryz.prog g (xs[i]::cap) _ _ from hp i hlt hlt2).pthen ?_
   cases d1:q ds[i]
   ·simp only[go_sem,r8,w1]
    refine⟨_,?_,rfl,i+1,ab7,rfl,fun j hj h2=>?_,?_,?_,?_,?_⟩
    ·omega
    ·grind
    all_goals simp only[go_sem,r0,r1,r7]
   ·simp only[go_sem]
    exact .same (.refl _) ⟨acS,rfl⟩
  ·have hge:i=xs.length:=by grind
   simp only[go_sem];exact .same (.refl _) ⟨acF,rfl⟩
theorem KW{α:Type}(y:AV)(xs:List AV)(ds:List α)(q:α→Bool)(g:FuncId)(cap:List AV)(h:Heap)(hb:Rd h 3 y xs)(hn:xs.length=ds.length)(hl:xs.length≤1000000000)(hx:∀x∈xs,bA x=true)
  (hp:∀i (h1:i<xs.length) (h2:i<ds.length),ai Tryz.prog g (xs[i]::cap) h fun r h' =>r= .b (q ds[i])∧h' =h):
  ai Tryz.prog 174 [y,.fn g cap] h fun r h' =>r= .i (ixD q ds)∧h' =h:=by
 refine ab6 Tryz.func174 19 [.tmp 4] fun hwf=>?_
 simp only[go_sem,hb.len];refine .intro (fun m ρ h' =>h' =h∧∃i:Nat,i≤xs.length∧m=xs.length - i∧(∀j (hj:j<i) (h2:j<ds.length),q ds[j]=false)∧lk ρ 0=some y∧lk ρ 1=some (.fn g cap)∧lk ρ 7=some (.i xs.length)∧lk ρ 8=some (.i i)) xs.length ?_ ?_
 ·refine⟨rfl,0,ab7,rfl,fun j hj=>ab7,?_,?_,?_,?_⟩<;>simp only[go_sem]
 ·rintro m ρ h' ⟨rfl,i,hi,rfl,hc,r0,r1,r7,r8⟩
  simp only[go_sem,r7,r8];refine .intro (fun e=>?_) (fun e=>?_)
  ·have hlt:i<xs.length:=ab4 e
   have hlt2:i<ds.length:=ab7;have w1:IntKind.i64.wrap ((i:Int)+1)=((i+1:Nat):Int):=acn;simp only[go_sem,r0,r1,r8];refine hb.idx (e:=131) i rfl hlt acr acd fun p hp1=>?_
   have hld:=hp1.all (U:=U) (ty:=131) acd ac4 adV;simp only[go_sem,hld];refine(show ai Tryz.prog g (xs[i]::cap) _ _ from hp i hlt hlt2).pthen ?_
   cases d1:q ds[i]
   ·simp only[go_sem,r8,w1]
    refine⟨_,?_,rfl,i+1,ab7,rfl,fun j hj h2=>?_,?_,?_,?_,?_⟩
    ·omega
    ·grind
    all_goals simp only[go_sem,r0,r1,r7]
   ·simp only[go_sem]
    exact .same (.refl _) ⟨acS,rfl⟩
  ·have hge:i=xs.length:=by grind
   simp only[go_sem];exact .same (.refl _) ⟨acF,rfl⟩
theorem IJ(y:AV)(ds:List pT)(q:pT→Bool)(g:FuncId)(cap:List AV)(h:Heap)(hb:Rd h 7 y (ds.map iK))(hl:ds.length≤1000000000)
  (hp:∀i (h2:i<ds.length),ai Tryz.prog g (iK ds[i]::cap) h fun r h' =>r= .b (q ds[i])∧h' =h):
  ai Tryz.prog 166 [y,.fn g cap] h fun r h' =>r= .b (ds.any q)∧h' =h:=by
 refine ab6 Tryz.func166 9 [.tmp 4] fun hwf=>?_
 simp only[go_sem];refine(KY y _ ds q g cap h hb aci ab8 (oC (fun _=>rfl) _) fun i a b=>by rw[abY];exact hp i b).pthen ?_
 simp only[go_sem,tY];exact aco
theorem II(y:AV)(ds:List cA)(q:cA→Bool)(g:FuncId)(cap:List AV)(h:Heap)(hb:Rd h 3 y (ds.map br))(hl:ds.length≤1000000000)
  (hp:∀i (h2:i<ds.length),ai Tryz.prog g (br ds[i]::cap) h fun r h' =>r= .b (q ds[i])∧h' =h):
  ai Tryz.prog 118 [y,.fn g cap] h fun r h' =>r= .b (ds.any q)∧h' =h:=by
 refine ab6 Tryz.func118 9 [.tmp 4] fun hwf=>?_
 simp only[go_sem];refine(KW y _ ds q g cap h hb aci ab8 (oC (fun _=>rfl) _) fun i a b=>by rw[abY];exact hp i b).pthen ?_
 simp only[go_sem,tY];exact aco
theorem E3(y:AV)(xs:List AV)(ds:List aL)(q:aL→Bool)(g:FuncId)(cap:List AV)(h:Heap)(hb:Rd h 5 y xs)(hn:xs.length=ds.length)(hl:xs.length≤1000000000)(hx:∀x∈xs,bA x=true)
  (hp:∀i (h1:i<xs.length) (h2:i<ds.length),ai Tryz.prog g (xs[i]::cap) h fun r h' =>r= .b (q ds[i])∧h' =h):
  ai Tryz.prog 124 [y,.fn g cap] h fun r h' =>r= .b (ds.any q)∧h' =h:=by
 refine ab6 Tryz.func124 9 [.tmp 4] fun hwf=>?_
 simp only[go_sem];refine(uq y xs ds q g cap h hb hn hl hx hp).pthen ?_;simp only[go_sem,tY];exact aco
theorem K9{h:Heap}(r:pT){k1 k2:Nat}{subj:Txt}{s:an}(hk1:h k1=some (.obj [.s subj] 9))(hk2:h k2=some (.obj (sL s) 63))(ht:0≤s.tick∧s.tick≤1099511627776)(hr:0≤r.tick∧r.tick≤1099511627776):
  ai Tryz.prog 167 [iK r,.ptr k1 0,.ptr k2 0] h fun x h' =>x= .b (r.subj==subj && qD s r)∧h' =h:=by
 have w:IntKind.i64.wrap (s.tick - r.tick)=s.tick - r.tick:=bf _ ab7;obtain⟨tick,cs,rv,nt,ro,⟨pid,pset,palg,ptgt,prules,pkids,pobls⟩,ver⟩:=s;simp only[sL]at hk2;simp only at w;refine ab6 Tryz.func167 21 [.tmp 4] fun hwf=>?_
 simp only[go_sem,iK];intro i3 h3;have n31:i3≠k1:=fun e=>ab8
 have n32:i3≠k2:=fun e=>ab8
 cases d1:(r.subj==subj)
 ·simp only[go_sem,ak,n31.symm,hk1,d1]
  exact .mk _ (.refl _) (.aj h3) ⟨rfl,rfl⟩
 cases d2:r.isOpen
 ·simp only[go_sem,ak,n31.symm,hk1,d1]
  exact .mk _ (.refl _) (.aj h3) ⟨by simp only[qD,d2];rfl,rfl⟩
 ·simp only[go_sem,ak,n31.symm,n32.symm,hk1,hk2,d1,w]
  exact .mk _ (.refl _) (.aj h3) ⟨by simp only[qD,d2];rfl,rfl⟩
theorem NC(s:an)(subj:Txt)(hn:s.reviews.length≤1000000)(ht:0≤s.tick∧s.tick≤1099511627776)(hr:gW s)(h:Heap):ai Tryz.prog 109 [cK s,.s subj] h fun x h' =>x= .b (La s subj)∧h' =h:=by
 have hl1:=fun(H:Heap) (k1 k2:Nat) (e1:H k1=some (.obj [.s subj] 9)) (e2:H k2=some (.obj (sL s) 63))=>IJ (j4 s.reviews) s.reviews (fun r=>r.subj==subj && qD s r) 167 [.ptr k1 0,.ptr k2 0] H (eR iK 7 (fun _=>rfl) H _) ab7 fun i h2=>K9 _ e1 e2 ht (hr _ (ab2 h2))
 have hst:=uL s;obtain⟨tick,cs,rv,nt,ro,⟨pid,pset,palg,ptgt,prules,pkids,pobls⟩,ver⟩:=s;rw[hst];simp only[sL]at hl1⊢;refine ab6 Tryz.func109 9 [.tmp 4] fun hwf=>?_
 simp only[go_sem];intro i2 h2;simp only[go_sem];intro i3 h3;have n32:=aH h3;have n3:=aC h3;have hs:∀x y,Ab.Sub h (upd (upd h i2 x) i3 y):=fun x y=>((Sub.refl h).put h2 x).put n3 y
 simp only[go_sem,ak,n32.symm];refine(hl1 _ i3 i2 (ah ..) (by grind [ag,ah])).pthen ?_
 simp only[go_sem];exact adJ
theorem HL(s:an)(o:OpD)(m:aT)(hm9:M9 m)(hn:s.reviews.length≤1000000)(hro:s.roles.length≤1000000)(ht:0≤s.tick∧s.tick≤1099511627776)(hr:gW s)(h:Heap):ai Tryz.prog 54 [cK s,opA o,aR m] h fun x h' =>x= .b (sD s o m)∧h' =h:=by
 have hla:=fun G=>NC s o.subj hn ht hr G
 have hha:=fun G=>E6 (rdS G s) o.subj BC ab7
 have hbd:sD s o m=(o.glass && (m==cF||m==naM) && xO s.roles ⟨o.subj,BC⟩ && !La s o.subj):=rfl
 have de:=(nb hm9).de;have na:=(nb hm9).na;have hst:=uL s;obtain⟨tick,cs,rv,nt,ro,⟨pid,pset,palg,ptgt,prules,pkids,pobls⟩,ver⟩:=s;rw[hst]at hla hha⊢;simp only[sL,BC]at hla hha hbd⊢;refine ab6 Tryz.func54 30 [.tmp 6] fun hwf=>?_
 simp only[go_sem,opA,opC,aR];intro i3 h3;simp only[go_sem];intro i4 h4;have n43:=aH h4;have n4:=aC h4;have hs:∀x y,Ab.Sub h (upd (upd h i3 x) i4 y):=fun x y=>((Sub.refl h).put h3 x).put n4 y
 cases dg:o.glass
 ·simp only[go_sem]
  exact .mk _ (.refl _) (hs _ _) ⟨by rw[hbd,dg];rfl,rfl⟩
 cases d1:(m==cF)<;>cases d2:(m==naM)
 case false.false=>
  simp only[go_sem,de,na,d1,d2];exact .mk _ (.refl _) (hs _ _) ⟨by rw[hbd,dg,d1,d2];rfl,rfl⟩
 all_goals
  simp only[go_sem,ak,n43.symm,de,na,d1,d2];refine(hha _).pthen ?_;cases dh:xO ro ⟨o.subj,[103,108,97,115,115]⟩
  ·simp only[go_sem]
   exact .mk _ (.refl _) (hs _ _) ⟨by rw[hbd,dg,d1,d2,dh];rfl,rfl⟩
  ·simp only[go_sem,ak,n43.symm]
   refine(hla _).pthen ?_;simp only[go_sem];exact .mk _ (.refl _) (hs _ _) ⟨by rw[hbd,dg,d1,d2,dh];rfl,rfl⟩
theorem IL{h:Heap}(x:cA){k:Nat}{field:Txt}(hk:h k=some (.obj [.s field] 9)):ai Tryz.prog 119 [br x,.ptr k 0] h fun r h' =>r= .b (x.kind==2 && x.arg==field)∧h' =h:=by
 refine ab6 Tryz.func119 13 [.tmp 3] fun hwf=>?_
 simp only[go_sem,br];intro i2 h2;have n2:i2≠k:=fun e=>ab8
 cases d1:(x.kind==2)
 all_goals
  simp only[go_sem,ak,n2.symm,hk,d1];exact .mk _ (.refl _) (.aj h2) ⟨rfl,rfl⟩
theorem KP(l:List cA)(hl:l.length≤1000000000)(field:Txt)(h:Heap):ai Tryz.prog 58 [aA l,.s field] h fun r h' =>r= .b (jM l field)∧h' =h:=by
 refine ab6 Tryz.func58 8 [.tmp 4] fun hwf=>?_
 simp only[go_sem,aA];intro i3 h3;simp only[go_sem];refine(II (.sl (l.map br) .no) l (fun x=>x.kind==2 && x.arg==field) _ [.ptr i3 0] _ (eR br 3 (fun _=>rfl) _ _) hl fun i h2=>IL _ (ah ..)).pthen ?_
 simp only[go_sem];exact .mk _ (.refl _) (.aj h3) ⟨rfl,rfl⟩
theorem Lz{h:Heap}{x:AV}{c:aL}(hb:RdC h x c):ai Tryz.prog 125 [x] h fun r h' =>r= .b (decide (256<c.log.length))∧h' =h:=by
 obtain⟨f,l,rfl,hf,hl⟩:=hb;have e:decide ((256:Int)<(c.log.length:Int))=decide (256<c.log.length):=by
  grind
 refine ab6 Tryz.func125 7 [.tmp 2] fun hwf=>?_
 simp only[go_sem];intro i1 h1;simp only[go_sem,hl.len,abX,e];exact acs
theorem LB{h:Heap}{x:AV}{s:an}(hb:RdS h x s)(hc:s.cases.length≤1000000):ai Tryz.prog 62 [x] h fun r h' =>r= .b (rI s)∧h' =h:=by
 obtain⟨y1,y2,y3,y4,rfl,⟨xs,hx,hn,hcs⟩,h2,h3,h4⟩:=hb;have hod:rI s=(decide (256<s.reviews.length)||decide (256<s.notices.length)||s.cases.any fun c=>decide (256<c.log.length)):=rfl
 have e2:decide ((256:Int)<(s.reviews.length:Int))=decide (256<s.reviews.length):=by
  grind
 have e3:decide ((256:Int)<(s.notices.length:Int))=decide (256<s.notices.length):=by
  grind
 have hca:=fun(G:Heap) (hG:Ab.Sub h G)=>E3 y1 xs s.cases (fun c=>decide (256<c.log.length)) 125 [] G (hx.sub hG) hn ab7 (zj.agg hn hcs) fun i a b=>Lz ((hcs i a b).sub hG)
 cases hpp:s.policy with
 |mk pid pset palg ptgt prules pkids pobls=>
 refine ab6 Tryz.func62 18 [.tmp 2] fun hwf=>?_
 simp only[go_sem,fW,aX,List.cons_append,List.nil_append];intro i1 h1;cases d2:decide (256<s.reviews.length)
 case true=>
  simp only[go_sem,h2.len,abX,e2,d2];exact .mk _ (.refl _) (.aj h1) ⟨by rw[hod,d2];rfl,rfl⟩
 cases d3:decide (256<s.notices.length)
 case true=>
  simp only[go_sem,h2.len,h3.len,abX,e2,e3,d2,d3];exact .mk _ (.refl _) (.aj h1) ⟨by rw[hod,d2,d3];rfl,rfl⟩
 simp only[go_sem,h2.len,h3.len,abX,e2,e3,d2,d3];refine(hca _ (.aj h1)).pthen ?_;simp only[go_sem];exact .mk _ (.refl _) (.aj h1) ⟨by rw[hod,d2,d3];rfl,rfl⟩
theorem Lg{h:Heap}{x:AV}{c:aL}(hb:RdC h x c){k:Nat}{o:OpD}(hk:h k=some (.obj (opC o) 39)):ai Tryz.prog 176 [x,.ptr k 0] h fun r h' =>r= .b (c.id==o.case)∧h' =h:=by
 obtain⟨f,l,rfl,hf,hl⟩:=hb;simp only[opC]at hk;refine ab6 Tryz.func176 9 [.tmp 3] fun hwf=>?_
 simp only[go_sem];exact agt
end Go.Proofs.YtfdgemhnlennbaaGreatDoor
namespace Go.Ab
open Go
theorem OwE.more{tb:TypeId}{g h0 h:Heap}{sz:Nat}{y:AV}{xs:List AV}(hw:OwE tb h0 h sz y xs)(hg:∀id,h0 id=Option.none→h id≠Option.none→g id=Option.none):OwE tb g h sz y xs:=by
 rcases hw with hw|⟨id,e,hw⟩
 ·exact af0
 ·exact .inr ⟨id,hg _ e hw.none,hw⟩
end Go.Ab
namespace Go.Proofs.YtfdgemhnlennbaaGreatDoor
open Go Go.Ab Go.Bf
theorem fo.more{g h0 h:Heap}{ys:List AV}{x:AV}{c:aL}(hm:fo h0 h ys x c)(hg:∀id,h0 id=none→h id≠none→g id=none):fo g h ys x c:=by
 obtain⟨f,l,e,a,b,c⟩:=hm;exact⟨f,l,e,a.more hg,b.more hg,c⟩
theorem lQ.more{g h0 h:Heap}{ys:List AV}{y:AV}{cs:List aL}{i0:Nat}(ho:lQ h0 h ys y cs i0)(hg:∀id,h0 id=none→h id≠none→g id=none):lQ g h ys y cs i0:=by
 obtain⟨xs,a,b,c,d⟩:=ho;exact⟨xs,a.more hg,b,c,fun h1 h2=>(d h1 h2).more hg⟩
theorem OwR.more{g h0 h:Heap}{y:AV}{rs:List gV}(hr:OwR h0 h y rs)(hg:∀id,h0 id=none→h id≠none→g id=none):OwR g h y rs:=by
 rcases hr with hr|hr
 ·exact .inl hr
 ·exact .inr (hr.more hg)
theorem iD.more{g h0 h:Heap}{y1 y2 y3 y4:AV}{s:an}{j:Nat}(ho:iD h0 h y1 y2 y3 y4 s j)(hg:∀id,h0 id=none→h id≠none→g id=none):iD g h y1 y2 y3 y4 s j:=
 {ho with cs:=ho.cs.more hg,rv:=ho.rv.more hg,nt:=ho.nt.more hg,rl:=ho.rl.more hg}
def GSt(g H:Heap)(k:Nat)(s:an)(j:Nat):Prop:=∃y1 y2 y3 y4,H k=some (.obj (stC s y1 y2 y3 y4) 63)∧iD g H y1 y2 y3 y4 s j∧g k≠none∧∀i b,i≠k→g i=some b→H i=some b
theorem GSt.box{g H:Heap}{k:Nat}{s:an}{j:Nat}(hG:GSt g H k s j){i:Nat}(hi:H i=none)(b:Blk):GSt (upd g i (some b)) (upd H i (some b)) k s j:=by
 obtain⟨y1,y2,y3,y4,hk,ho,hgk,hfr⟩:=hG;refine⟨y1,y2,y3,y4,acM,(ho.more (g:=upd g i (some b)) fun id h0 hne=>?_).keep fun id _ hne=>ag _ _ fun e=>hne ab8,acM,fun q c hq hc=>?_⟩
 ·grind [ag]
 grind [ah,ag]
theorem GSt.unbox{g H:Heap}{k:Nat}{s:an}{j:Nat}{i:Nat}{b:Blk}(hG:GSt (upd g i (some b)) H k s j)(hi:i≠k)(hgi:g i=none):GSt g H k s j∧H i=some b:=by
 obtain⟨y1,y2,y3,y4,hk,ho,hgk,hfr⟩:=hG;refine⟨⟨y1,y2,y3,y4,hk,ho.bJ fun q hq=>?_,acM,fun q c hq hc=>hfr q c hq ?_⟩,hfr i b hi (ah ..)⟩
 ·grind [ag]
 grind [ag]
theorem GSt.base{g H:Heap}{k:Nat}{s:an}{j:Nat}(hG:GSt g H k s j):∃G,Ab.Sub G H∧(∀i,G i=none↔g i=none)∧∀i,i≠k→G i=g i:=by
 obtain⟨y1,y2,y3,y4,hk,ho,hgk,hfr⟩:=hG;refine⟨upd g k (H k),fun i b hi=>?_,fun i=>?_,fun i hi=>ag _ _ hi⟩
 ·grind [ah,ag]
 grind [ah,ag]
theorem GSt.rd{g H:Heap}{k:Nat}{s:an}{j:Nat}(hG:GSt g H k s j):∃y1 y2 y3 y4,H k=some (.obj (stC s y1 y2 y3 y4) 63)∧RdS H (.agg (stC s y1 y2 y3 y4)) s:=by
 obtain⟨y1,y2,y3,y4,hk,ho,_⟩:=hG;exact⟨y1,y2,y3,y4,hk,ho.rd⟩
theorem Dq{g H:Heap}{k:Nat}{s:an}{j:Nat}(hG:GSt g H k s j)(o:OpD)(w:Txt)(hk64:i64 o.kind)(hn:s.reviews.length≤1000000000):
  ai Tryz.prog 56 [.ptr k 0,opA o,.s w] H fun r H' =>GSt g H' k (cg s o w) j:=by
 obtain⟨G,sG,nG,oG⟩:=hG.base;obtain⟨y1,y2,y3,y4,hk,ho,hgk,hfr⟩:=hG;have ho2:iD G H y1 y2 y3 y4 s j:=ho.bJ fun i hi=>(nG i).2 hi
 have w1:IntKind.i64.wrap ((s.reviews.length:Int)+1)=(s.reviews.length:Int)+1:=bf _ ab7;obtain⟨pid,pset,palg,ptgt,prules,pkids,pobls,hpp⟩:∃a b c d e f g,s.policy= .mk a b c d e f g:=by cases s.policy;simp
 have hst:∀z,stC (cg s o w) y1 z y3 y4= [.i s.tick,y1,z,y3,y4,.s pid,.b pset,.i palg,aV ptgt,.sl (prules.map aB) .no,.sl (pkids.map aM) .no,aA pobls,.i s.version]:=fun z=>by simp[stC,cg,hpp,fW,aX]
 have hst0:stC s y1 y2 y3 y4= [.i s.tick,y1,y2,y3,y4,.s pid,.b pset,.i palg,aV ptgt,.sl (prules.map aB) .no,.sl (pkids.map aM) .no,aA pobls,.i s.version]:=afQ;rw[hst0]at hk;refine ab6 Tryz.func56 34 [] fun hwf=>?_
 simp only[go_sem,opA,opC];intro i4 h4;have n4k:i4≠k:=fun e=>ab8
 simp only[go_sem];obtain⟨K,eK⟩:∃K,upd H i4 (some (.obj [.i o.kind,.s o.subj,.s o.case,.s o.field,.s o.to,.i o.val.kind,.i o.val.n,.s o.val.s,.i o.review,.s o.text,.s o.reason,.b o.glass] 39))=K:=⟨_,rfl⟩;have sK:Ab.Sub H K:=by rw[←eK];exact .aj h4
 have k4:K i4=some (.obj [.i o.kind,.s o.subj,.s o.case,.s o.field,.s o.to,.i o.val.kind,.i o.val.n,.s o.val.s,.i o.review,.s o.text,.s o.reason,.b o.glass] 39):=by rw[←eK,ah]
 have kk:=sK _ _ hk;have hoK:iD G K y1 y2 y3 y4 s j:=ho2.keep fun id _ hne=>by rw[←eK];grind [ag]
 rw[eK];have p4:=(bD (H:=K) (l:=[k,i4]) (show i4∈ [k,i4] by simp)).trans k4
 have pk:=(bD (H:=K) (l:=[k,i4]) (show k∈ [k,i4] by simp)).trans kk
 refine .stage (pick K [k,i4]) [0,1,2,3,4,5,6,7,8,9,10,11,12,13,14,15,16,17,18,19,20,22,21,23,24,25,26,27] [28] bR ace ?_;simp only[go_sem,pk,p4,hoK.rv.rd.len,abX,w1];refine(zS o.kind hk64 _).pthen ?_;refine⟨bR,?_⟩;simp only[go_sem];have hap1:Rd K 7 (.sl [iK (AP s o w)] .full) [iK (AP s o w)]:=.sl acW .full;refine OwE.app (U:=U) (tb:=135) hoK.rv (sG.trans sK) hap1 acr acd acd acr aci acJ fun id y' K2 hid hor how hoth=>?_
 have hor' :K id=none∨nid y2=some id:=by
  rcases hor with hor|⟨l,c,ey⟩
  ·grind
  ·exact .inr afU
 have nik:k≠id:=fun e=>hgk ((nG k).1 ab8)
 have ni4:i4≠id:=by
  rcases hor' with hor|hor
  ·grind
  ·exact fun e=>(ho2.rv.nid hor).2.1 ab8
 have m4:=(hoth i4 ni4).trans k4;have mk:=(hoth k nik).trans kk;refine⟨iJ fun q hq=>?_,?_⟩
 ·grind
 simp only[go_sem];refine⟨dH,fun _ _ e=>acD,?_⟩
 simp only[go_sem,mk,how.rd.fit,how.rd.cells];refine⟨fun _ _ e=>acD,?_⟩
 refine .same (.refl _) ⟨y1,y',y3,y4,af6,iD.bJ (h0:=G) ?_ fun i hi=>(nG i).1 hi,hgk,fun i b hi hb=>?_⟩
 ·refine hoK.revs (rs:=s.reviews++ [AP s o w]) (.inr ⟨id,hid,by rw[List.map_append];exact how.same (ag _ _ nik.symm)⟩) (fun q hq=>?_) fun q hq hne hz=>?_
  ·have:id=q:=by have:=how.nid;rw[hq]at this;exact(Option.some.inj this).symm
   rw[←this];exact hor'
  grind [ag]
 ·have n2:i≠id:=fun e=>by
   grind
  rw[ag _ _ hi,hoth i n2];exact sK _ _ (hfr i b hi hb)
end Go.Proofs.YtfdgemhnlennbaaGreatDoor
namespace Go.Bf
open Go Go.Ab Go.Proofs.YtfdgemhnlennbaaGreatDoor
theorem Dc{s:an}{o:OpD}{w:Txt}(h:¬(iG s.cases o.case<s.cases.length∧o.kind≠6)):iN s o w=s:=by simp_all [iN,if_neg]
theorem Lh{s:an}{o:OpD}{w:Txt}{j:Nat}(h1:iG s.cases o.case<s.cases.length)(h2:o.kind≠6)(e:iG s.cases o.case=j):iN s o w= {s with cases:=s.cases.modify j fun c=>jn s c o.subj w}:=by simp_all [iN,if_pos]
end Go.Bf
namespace Go.Proofs.YtfdgemhnlennbaaGreatDoor
open Go Go.Ab Go.Bf
theorem Li{g H:Heap}{k:Nat}{s:an}{j:Nat}(hG:GSt g H k s j)(o:OpD)(w:Txt)(hc:s.cases.length≤1000000)(hl:∀c∈s.cases,c.log.length≤1000000000)(hj:iG s.cases o.case<s.cases.length→o.kind≠6→j=iG s.cases o.case):
  ai Tryz.prog 123 [.ptr k 0,opA o,.s w] H fun r H' =>GSt g H' k (iN s o w) j:=by
 obtain⟨G,sG,nG,oG⟩:=hG.base;obtain⟨y1,y2,y3,y4,hk,ho,hgk,hfr⟩:=hG;have ho2:iD G H y1 y2 y3 y4 s j:=ho.bJ fun i hi=>(nG i).2 hi
 obtain⟨pid,pset,palg,ptgt,prules,pkids,pobls,hpp⟩:∃a b c d e f g,s.policy= .mk a b c d e f g:=by cases s.policy;exact⟨_,_,_,_,_,_,_,rfl⟩
 have hst0:stC s y1 y2 y3 y4= [.i s.tick,y1,y2,y3,y4,.s pid,.b pset,.i palg,aV ptgt,.sl (prules.map aB) .no,.sl (pkids.map aM) .no,aA pobls,.i s.version]:=afQ;rw[hst0]at hk;refine ab6 Tryz.func123 44 [] fun hwf=>?_
 simp only[go_sem,opA,opC];intro i4 h4;have n4k:i4≠k:=fun e=>by rw[e,hk]at h4;cases h4
 obtain⟨K,eK⟩:∃K,upd H i4 (some (.obj [.i o.kind,.s o.subj,.s o.case,.s o.field,.s o.to,.i o.val.kind,.i o.val.n,.s o.val.s,.i o.review,.s o.text,.s o.reason,.b o.glass] 39))=K:=⟨_,rfl⟩;have sK:Ab.Sub H K:=by rw[←eK];exact .aj h4
 have k4:K i4=some (.obj [.i o.kind,.s o.subj,.s o.case,.s o.field,.s o.to,.i o.val.kind,.i o.val.n,.s o.val.s,.i o.review,.s o.text,.s o.reason,.b o.glass] 39):=by rw[←eK,ah]
 have kk:=sK _ _ hk;have hoK:iD G K y1 y2 y3 y4 s j:=ho2.keep fun id _ hne=>by rw[←eK];exact ag _ _ fun e=>hne (by rw[e];exact h4)
 have hfin:GSt g K k s j:=⟨y1,y2,y3,y4,by rw[hst0];exact kk,hoK.bJ fun i hi=>(nG i).1 hi,hgk,fun i b hi hb=>sK _ _ (hfr i b hi hb)⟩
 have hix:ai Tryz.prog 159 [y1,.fn 176 [.ptr i4 0]] K fun r h' =>r= .i (ixD (fun c:aL=>c.id==o.case) s.cases)∧h' =K:=by
  obtain⟨xs,hx,hn,hcs⟩:=hoK.cs.rd;exact uq y1 xs s.cases (fun c=>c.id==o.case) _ [.ptr i4 0] K hx hn ab7 (zj.agg hn hcs) fun i a b=>Lg (hcs i a b) k4
 have hcsK:=hoK.cs;have n4G:∀id,G id=none→K id≠none→id≠i4→H id=K id:=fun id _ _ h=>by rw[←eK,ag _ _ h]
 simp only[go_sem,ak,n4k.symm,hk];rw[eK];refine hix.pthen ?_
 by_cases hx:iG s.cases o.case<s.cases.length
 case neg=>
  have e1:ixD (fun c:aL=>c.id==o.case) s.cases= -1:=if_neg hx
  have d1:decide ((-1:Int)<0)=true:=rfl;rw[e1];simp only[go_sem,d1];exact .same (.refl _) (by rw[Dc fun h=>hx h.1];exact hfin)
 have e1:ixD (fun c:aL=>c.id==o.case) s.cases=(iG s.cases o.case:Nat):=if_pos hx
 have d1:decide (((iG s.cases o.case:Nat):Int)<0)=false:=decide_eq_false ab7;rw[e1];cases d6:(o.kind==6)
 case true=>
  have h6:o.kind=6:=by simpa using d6
  simp only[go_sem,d1,k4,d6];exact .same (.refl _) (by rw[Dc fun h=>h.2 h6];exact hfin)
 have h6:o.kind≠6:=by simpa using d6
 have hjj:=hj hx h6;have hlo:=Lh (w:=w) hx h6 hjj.symm;have hjc:j<s.cases.length:=by rw[hjj];exact hx
 rw[←hjj]at d1⊢;rw[hlo];obtain⟨xs,w1,hnx,hlw,hmy⟩:=hcsK;have hjx:j<xs.length:=ab7;obtain⟨f,l,ex,of,ol,hap,hys⟩:=hmy hjx hjc;obtain⟨id1,hg1,o1⟩:=w1.ow aeX;have o1' :=o1;obtain⟨cap,rest,ey,hid,hrl,hcap,hsz⟩:=o1';have lA:j*5=(aq (xs.take j)).length:=adg;have hidK:K id1=some (.obj (aq (xs.take j)++(cc s.cases[j] f l++(aq (xs.drop (j+1))++rest))) 122):=by
  rw[hid,Bz hjx,ex];simp[cc,AV.cells]
 have n1k:id1≠k:=lO o1 kk acd;have n14:id1≠i4:=lO o1 k4 acd;have hll:=hl _ (ab2 hjc);have p4:=(bD (H:=K) (l:=[k,i4,id1]) (show i4∈ [k,i4,id1] by simp)).trans k4
 have pk:=(bD (H:=K) (l:=[k,i4,id1]) (show k∈ [k,i4,id1] by simp)).trans kk
 have p1:=(bD (H:=K) (l:=[k,i4,id1]) (show id1∈ [k,i4,id1] by simp)).trans hidK
 have hc4:(aq (xs.take j)++(cc s.cases[j] f l++(aq (xs.drop (j+1))++rest)))[j*5+4]? =some l:=by rw[lA,List.getElem?_append_right ab7,Nat.add_sub_cancel_left];rfl
 obtain⟨CS,eCS⟩:∃CS,aq (xs.take j)++(cc s.cases[j] f l++(aq (xs.drop (j+1))++rest))=CS:=⟨_,rfl⟩;rw[eCS]at hc4 p1 hidK;simp only[go_sem,d1,k4,d6,kk];refine o1.idx (U:=U) (e:=122) j rfl hjx nq acd ?_;simp only[go_sem];refine .stage (pick K [k,i4,id1]) [0,1,2,3,4,5,6,7,8,9,10,11,12,13,14,15,16] [17] bR ace ?_;simp only[go_sem,pk,p4,p1,hc4];have hap1:Rd K 3 (.sl [iF ⟨s.tick,o.subj,w⟩] .full) [iF ⟨s.tick,o.subj,w⟩]:=.sl acW .full;refine OwE.app (U:=U) (tb:=191) ol (sG.trans sK) hap1 acj acd acf acj aci acJ fun id2 y' K2 g2 hor how hoth=>?_
 have hor' :K id2=none∨nid l=some id2:=by
  exact agK
 have n2:∀ {q b t},K q=some (.obj b t)→t≠191→q≠id2:=fun {q b t} hq ht e=>by
  rcases hor' with h|h
  ·rw[e,h]at hq;cases hq
  ·exact lO (ol.nid h).2.2 hq ht e.symm
 have m4:=(hoth i4 (n2 k4 acd)).trans k4;have mk:=(hoth k (n2 kk acd)).trans kk;have m1:=(hoth id1 (n2 hidK acd)).trans hidK;refine⟨iJ fun q hq=>?_,?_⟩
 ·simp only[List.mem_cons,List.not_mem_nil,or_false]at hq
  rcases hq with rfl|rfl|rfl
  ·rw[mk,kk]
  ·rw[m4,k4]
  ·rw[m1,hidK]
 simp only[go_sem];refine⟨dH,fun _ _ e=>acD,?_⟩
 simp only[go_sem,m1,how.rd.fit,how.rd.cells];have e5:List.take (j*5+4) CS++ [y']++List.drop (j*5+4+1) CS=aq (xs.take j)++(cc s.cases[j] f y' ++(aq (xs.drop (j+1))++rest)):=by
  have:=oQ (A:=aq (xs.take j)++ [.s s.cases[j].id,.s s.cases[j].owner,.s s.cases[j].state,f]) (B:=[l]) (C:=aq (xs.drop (j+1))++rest) (X:=[y']) (k:=j*5+4) (m:=1) (by rw[lA];simp) rfl rfl
  exact ahC
 rw[e5];refine⟨by rw[←eCS];simp only[ab1,←lA,cc,List.length_cons,List.length_nil];omega,(fun _ _ e=>acD),?_⟩
 obtain⟨F,eF⟩:∃F,upd K2 id1 (some (.obj (aq (xs.take j)++(cc s.cases[j] f y' ++(aq (xs.drop (j+1))++rest))) 122))=F:=⟨_,rfl⟩;have kF:∀q,q≠id1→q≠id2→F q=K q:=fun q a b=>by rw[←eF,ag _ _ a,hoth q b]
 have kF' :∀q,K q≠none→q≠id1→nid l≠some q→F q=K q:=fun q a b c=>kF q b fun e=>by
  rcases hor' with h|h
  ·exact a (by rw[e];exact h)
  ·exact c (by rw[e];exact h)
 have hF1:F id1=some (.obj (aq (xs.take j)++(cc s.cases[j] f y' ++(aq (xs.drop (j+1))++rest))) 122):=by rw[←eF,ah]
 have n12:id1≠id2:=n2 hidK acd;have hX5:Sized 5 (xs.set j (.agg (cc s.cases[j] f y'))):=fun z hz=>by
  exact agR
 have hOw:Ow 122 F 5 id1 y1 (xs.set j (.agg (cc s.cases[j] f y'))):=⟨cap,rest,aen,by rw[hF1,sP hjx];simp[AV.cells],afc,aef,hX5⟩
 have hl' :OwE 191 G F 3 y' ((s.cases[j].log++ [(⟨s.tick,o.subj,w⟩:wR)]).map iF):=by
  rw[List.map_append];exact .inr ⟨id2,g2,how.same (by rw[←eF,ag _ _ n12.symm])⟩
 have hny:∀q,nid y' =some q→q=id2:=fun q hq=>by have:=how.nid;rw[hq]at this;exact Option.some.inj this
 have nf1:nid f≠some id1:=fun e=>(hys y1 aci).1 id1 e o1.nid
 have hof:OwE 201 G F 4 f (s.cases[j].fields.map bN):=of.keep fun q e=>kF' q (of.nid e).2.1 (fun e' =>nf1 (by rw[←e'];exact e)) (hap q e)
 have hnid:∀ {y:AV},y∈ [y1,y2,y3,y4]→∀q,nid y=some q→K q≠none:=fun hy q e=>(hoK.mem hy e).2
 have hap2:∀ {y:AV},y∈ [y1,y2,y3,y4]→apart y' y:=fun {y} hy q e1 e2=>by
  have:=hny q e1;subst this;rcases hor' with h|h
  ·exact hnid hy _ e2 h
  ·exact(hys y hy).2 _ h e2
 have hkp:∀ {y:AV},y∈ [y2,y3,y4]→apart y1 y→∀q,nid y=some q→F q=K q:=fun {y} hy ha q e=>by
  have hy' :y∈ [y1,y2,y3,y4]:=List.mem_cons_of_mem _ hy;refine kF' q (hnid hy' q e) (fun e' =>ha id1 o1.nid (by rw[←e'];exact e)) fun e' =>(hys y hy').2 q e' e
 rw[eF];refine .same (.refl _) ⟨y1,y2,y3,y4,?_,iD.bJ (h0:=G) ?_ fun i hi=>(nG i).1 hi,hgk,fun i b hi hb=>?_⟩
 ·rw[kF k n1k.symm (n2 kk acd),kk]
  simp[stC,hpp,fW,aX]
 ·refine⟨BP (X:=.agg (cc s.cases[j] f y')) (.inr ⟨id1,hg1,hOw⟩) hnx (fun q h1 h2 hq=>hlw q h1 h2 hq) fun hh=>⟨f,y',rfl,hof,hl',fun q e1 e2=>?_,fun y hy=>⟨(hys y hy).1,hap2 hy⟩⟩,hoK.rv.keep (hkp aci hoK.a12),hoK.nt.keep (hkp aci hoK.a13),hoK.rl.keep (hkp aci hoK.a14),hoK.a12,hoK.a13,hoK.a14,hoK.a23,hoK.a24,hoK.a34⟩
  have:=hny q e2;subst this;rcases hor' with h|h
  ·exact(of.nid e1).2.1 h
  ·exact hap _ e1 h
 ·have hGi:G i=some b:=by rw[oG i hi];exact hb
  rw[kF i (fun e=>by rw[e,hg1]at hGi;cases hGi) (fun e=>by rw[e,g2]at hGi;cases hGi)]
  exact sK _ _ (hfr i b hi hb)
end Go.Proofs.YtfdgemhnlennbaaGreatDoor
namespace Go.Bf
open Go Go.Ab Go.Proofs.YtfdgemhnlennbaaGreatDoor
def rF(B:Nat)(s:an):Prop:=(∀c∈s.cases,c.log.length≤B)∧s.reviews.length≤B∧s.notices.length≤B
theorem rF.up{B C:Nat}{s:an}(h:rF B s)(hc:B≤C):rF C s:=⟨fun c hcc=>Nat.le_trans (h.1 c hcc) hc,Nat.le_trans h.2.1 hc,Nat.le_trans h.2.2 hc⟩
theorem IA{B:Nat}{s:an}(o:OpD)(done:Bool)(x:cA)(h:rF B s):rF (B+1) (fD o done s x):=by
 unfold fD;split
 ·unfold iN
  split
  ·refine⟨fun c hc=>?_,Nat.le_succ_of_le h.2.1,Nat.le_succ_of_le h.2.2⟩
   rcases mem_modify hc with hc|⟨hi,rfl⟩
   ·exact Nat.le_succ_of_le (h.1 c hc)
   ·have:=h.1 _ (ab2 hi)
    simp only[jn,ab1,List.length_singleton];omega
  ·exact h.up ab7
 ·split
  ·refine⟨fun c hc=>Nat.le_succ_of_le (h.1 c hc),?_,Nat.le_succ_of_le h.2.2⟩
   have:=h.2.1;simp only[cg,ab1,List.length_singleton];omega
  ·split
   ·refine⟨fun c hc=>Nat.le_succ_of_le (h.1 c hc),Nat.le_succ_of_le h.2.1,?_⟩
    have:=h.2.2;simp only[ab1,List.length_singleton];omega
   ·exact h.up ab7
theorem vw(o:OpD)(done:Bool):∀(l:List cA) {B:Nat} {s:an},rF B s→rF (B+l.length) (dD s o l done)
 | [],B,s,h=>h
 |x::l,B,s,h=>(vw o done l (IA o done x h)).up ab8
theorem CA(s:an)(o:OpD)(done:Bool){l:List cA}{i:Nat}(h:i<l.length):dD s o (l.take (i+1)) done=fD o done (dD s o (l.take i) done) l[i]:=by
 grind [dD,List.take_succ_eq_append_getElem]
theorem vD(o:OpD)(done:Bool)(id:Txt):∀(l:List cA) (s:an),iG (dD s o l done).cases id=iG s.cases id∧(dD s o l done).cases.length=s.cases.length
 | [],s=>⟨rfl,rfl⟩
 |x::l,s=>by
  obtain⟨a1,a2⟩:=IQ o done s x id;obtain⟨b1,b2⟩:=vD o done id l (fD o done s x);exact⟨b1.trans a1,b2.trans a2⟩
theorem H7{o:OpD}{s:an}{x:cA}(h:x.kind=1):fD o true s x=iN s o x.arg:=by unfold fD;grind
theorem EL{o:OpD}{done:Bool}{s:an}{x:cA}(h:x.kind=3):fD o done s x=cg s o x.arg:=by simp_all [fD,if_neg,if_pos]
theorem EM{o:OpD}{done:Bool}{s:an}{x:cA}(h:x.kind=4):fD o done s x= {s with notices:=s.notices++ [⟨s.tick,o.case,x.arg⟩]}:=by simp_all [fD,if_neg,if_pos]
theorem CB{o:OpD}{done:Bool}{s:an}{x:cA}(h1:¬(x.kind=1∧done=true))(h3:x.kind≠3)(h4:x.kind≠4):fD o done s x=s:=by simp_all [fD,if_neg]
end Go.Bf
namespace Go.Proofs.YtfdgemhnlennbaaGreatDoor
open Go Go.Ab Go.Bf
theorem EJ{g H:Heap}{k:Nat}{s:an}{j:Nat}(hG:GSt g H k s j)(o:OpD)(hk64:i64 o.kind)(l:List cA)(hll:l.length≤100000000)(done:Bool)(hc:s.cases.length≤1000000)(hgr:rF 1000 s)(hj:done=true→iG s.cases o.case<s.cases.length→o.kind≠6→j=iG s.cases o.case):
  ai Tryz.prog 61 [.ptr k 0,opA o,aA l,.b done] H fun r H' =>GSt g H' k (dD s o l done) j:=by
 have hkn:H k≠none:=by obtain⟨y1,y2,y3,y4,hk,_⟩:=hG;rw[hk];simp
 refine ab6 Tryz.func61 60 [] fun hwf=>?_
 simp only[go_sem,opA,opC,aA];intro i5 h5;have n5k:i5≠k:=fun e=>hkn (by rw[←e];exact h5)
 have hg5:g i5=none:=by
  obtain⟨y1,y2,y3,y4,hk,ho,hgk,hfr⟩:=hG;cases hh:g i5 with
  |none=>rfl
  |some b=>have:=hfr i5 b n5k hh;rw[h5]at this;cases this
 have hG5:=hG.box h5 (.obj [.i o.kind,.s o.subj,.s o.case,.s o.field,.s o.to,.i o.val.kind,.i o.val.n,.s o.val.s,.i o.review,.s o.text,.s o.reason,.b o.glass] 39);obtain⟨g5,eg5⟩:∃g5,upd g i5 (some (.obj [.i o.kind,.s o.subj,.s o.case,.s o.field,.s o.to,.i o.val.kind,.i o.val.n,.s o.val.s,.i o.review,.s o.text,.s o.reason,.b o.glass] 39))=g5:=⟨_,rfl⟩;have g55:g5 i5=some (.obj [.i o.kind,.s o.subj,.s o.case,.s o.field,.s o.to,.i o.val.kind,.i o.val.n,.s o.val.s,.i o.review,.s o.text,.s o.reason,.b o.glass] 39):=by rw[←eg5,ah]
 rw[eg5]at hG5;have hback:∀ {H' :Heap} {s' :an},GSt g5 H' k s' j→GSt g H' k s' j:=fun {H' s'} h=>by
  rw[←eg5]at h;exact(h.unbox n5k hg5).1
 have hgk5:g5 k≠none:=by obtain⟨_,_,_,_,_,_,h,_⟩:=hG5;exact h
 simp only[go_sem,abX];refine .intro (fun m ρ H2=>∃i:Nat,GSt g5 H2 k (dD s o (l.take i) done) j∧i≤l.length∧m=l.length - i∧lk ρ 0=some (.ptr k 0)∧lk ρ 3=some (.b done)∧lk ρ 5=some (.ptr i5 0)∧lk ρ 10=some (.sl (l.map br) .no)∧lk ρ 11=some (.i l.length)∧lk ρ 12=some (.i i)) l.length ?_ ?_
 ·refine⟨0,hG5,ab7,rfl,?_,?_,?_,?_,?_,?_⟩<;>simp only[go_sem]
 ·rintro m ρ H2 ⟨i,hS,hi,rfl,r0,r3,r5,r10,r11,r12⟩
  simp only[go_sem,r11,r12];refine .intro (fun e=>?_) (fun e=>?_)
  ·have hlt:i<l.length:=ab4 e
   have w1:=ab3 i ab7;have hsn:=CA s o done hlt;have hgi:=vw o done (l.take i) hgr;have hgi:rF 1000000000 (dD s o (l.take i) done):=hgi.up ad4;obtain⟨hix,hcl⟩:=vD o done o.case (l.take i) s;have ix:=fun k=>fm.eq (xs:=l.map br) (sz:=3) i acC acq k
   rw[abY]at ix;obtain⟨x,ex⟩:∃x,l[i]=x:=⟨_,rfl⟩;rw[ex]at ix hsn;obtain⟨t,et⟩:∃t,dD s o (l.take i) done=t:=⟨_,rfl⟩;rw[et]at hS hsn hgi hix hcl;have hjt:done=true→iG t.cases o.case<t.cases.length→o.kind≠6→j=iG t.cases o.case:=fun a b c=>by rw[hix]at b⊢;rw[hcl]at b;exact hj a b c
   simp only[br]at ix;simp only[go_sem,r10,r12,ix];intro i9 h9;have kkn:H2 k≠none:=by obtain⟨y1,y2,y3,y4,hk,_⟩:=hS;rw[hk];simp
   have n9k:i9≠k:=fun e=>kkn (by rw[←e];exact h9)
   have hg9:g5 i9=none:=by
    obtain⟨y1,y2,y3,y4,hk,ho,hgk,hfr⟩:=hS;cases hh:g5 i9 with
    |none=>rfl
    |some b=>have:=hfr i9 b n9k hh;rw[h9]at this;cases this
   have n95:i9≠i5:=fun e=>by rw[e,g55]at hg9;cases hg9
   have k5:H2 i5=some (.obj [.i o.kind,.s o.subj,.s o.case,.s o.field,.s o.to,.i o.val.kind,.i o.val.n,.s o.val.s,.i o.review,.s o.text,.s o.reason,.b o.glass] 39):=by obtain⟨_,_,_,_,_,_,_,hfr⟩:=hS;exact hfr i5 _ n5k g55
   have hS9:=hS.box h9 (.obj [.i x.on,.i x.kind,.s x.arg] 131);have hb9:∀ {H' :Heap} {s' :an},GSt (upd g5 i9 (some (.obj [.i x.on,.i x.kind,.s x.arg] 131))) H' k s' j→GSt g5 H' k s' j:=fun {H' s'} h=>(h.unbox n9k hg9).1
   have hlog:=fun(hd:done=true)=>Li hS9 o x.arg (by rw[hcl];exact hc) hgi.1 (hjt hd)
   have hopen:=Dq hS9 o x.arg hk64 hgi.2.1;simp only[opA,opC]at hlog hopen;cases a1:(x.kind==1)
   case true=>
    have e1:x.kind=1:=by simpa using a1
    have a3:(x.kind==3)=false:=by rw[e1];rfl
    have a4:(x.kind==4)=false:=by rw[e1];rfl
    cases done
    ·simp only[go_sem,r3,r12,a1,a3,a4,w1]
     refine⟨_,?_,i+1,by rw[hsn,CB (fun h=>by cases h.2) (by rw[e1];decide) (by rw[e1];decide)];exact hb9 hS9,ab7,rfl,?_,?_,?_,?_,?_,?_⟩
     ·omega
     all_goals simp only[go_sem,r0,r3,r5,r10,r11]
    ·simp only[go_sem,r0,r3,r5,a1,ak,n95.symm,k5]
     refine(hlog rfl).mono fun r H3 h3=>?_
     simp only[go_sem,r12,w1];refine⟨_,?_,i+1,by rw[hsn,H7 e1];exact hb9 h3,ab7,rfl,?_,?_,?_,?_,?_,?_⟩
     ·omega
     all_goals simp only[go_sem,r0,r3,r5,r10,r11]
   have e1:¬(x.kind=1∧done=true):=fun h=>by rw[h.1]at a1;cases a1
   cases a3:(x.kind==3)
   case true=>
    have e3:x.kind=3:=by simpa using a3
    simp only[go_sem,r0,r5,a1,a3,ak,n95.symm,k5];refine hopen.mono fun r H3 h3=>?_
    simp only[go_sem,r12,w1];refine⟨_,?_,i+1,by rw[hsn,EL e3];exact hb9 h3,ab7,rfl,?_,?_,?_,?_,?_,?_⟩
    ·omega
    all_goals simp only[go_sem,r0,r3,r5,r10,r11]
   have e3:x.kind≠3:=by simpa using a3
   cases a4:(x.kind==4)
   case false=>
    have e4:x.kind≠4:=by simpa using a4
    simp only[go_sem,r12,a1,a3,a4,w1];refine⟨_,?_,i+1,by rw[hsn,CB e1 e3 e4];exact hb9 hS9,ab7,rfl,?_,?_,?_,?_,?_,?_⟩
    ·omega
    all_goals simp only[go_sem,r0,r3,r5,r10,r11]
   have e4:x.kind=4:=by simpa using a4
   rw[EM e4]at hsn;obtain⟨G,sG,nG,oG⟩:=hS9.base;obtain⟨y1,y2,y3,y4,kk,ho,hgk,hfr⟩:=hS9;obtain⟨K,eK⟩:∃K,upd H2 i9 (some (.obj [.i x.on,.i x.kind,.s x.arg] 131))=K:=⟨_,rfl⟩;have k9:K i9=some (.obj [.i x.on,.i x.kind,.s x.arg] 131):=by rw[←eK,ah]
   have k5' :K i5=some (.obj [.i o.kind,.s o.subj,.s o.case,.s o.field,.s o.to,.i o.val.kind,.i o.val.n,.s o.val.s,.i o.review,.s o.text,.s o.reason,.b o.glass] 39):=by rw[←eK,ag _ _ n95.symm];exact k5
   rw[eK]at sG kk ho hfr;have hoK:iD G K y1 y2 y3 y4 t j:=ho.bJ fun i hi=>(nG i).2 hi
   obtain⟨pid,pset,palg,ptgt,prules,pkids,pobls,hpp⟩:∃a b c d e f g,t.policy= .mk a b c d e f g:=by cases t.policy;exact⟨_,_,_,_,_,_,_,rfl⟩
   have hst:∀z (n:List HE),stC {t with notices:=n} y1 y2 z y4= [.i t.tick,y1,y2,z,y4,.s pid,.b pset,.i palg,aV ptgt,.sl (prules.map aB) .no,.sl (pkids.map aM) .no,aA pobls,.i t.version]:=fun z n=>afQ
   have hst0:stC t y1 y2 y3 y4= [.i t.tick,y1,y2,y3,y4,.s pid,.b pset,.i palg,aV ptgt,.sl (prules.map aB) .no,.sl (pkids.map aM) .no,aA pobls,.i t.version]:=afQ;rw[hst0]at kk;have p9:=(bD (H:=K) (l:=[k,i5,i9]) (show i9∈ [k,i5,i9] by simp)).trans k9
   have p5:=(bD (H:=K) (l:=[k,i5,i9]) (show i5∈ [k,i5,i9] by simp)).trans k5'
   have pk:=(bD (H:=K) (l:=[k,i5,i9]) (show k∈ [k,i5,i9] by simp)).trans kk
   simp only[go_sem,a1,a3,a4];rw[eK];refine .stage (pick K [k,i5,i9]) [0,1,2,3,4,5,6,7,8,9,10,11,12,13,14,15,16,17] [18] bR ace ?_;simp only[go_sem,r0,r5,pk,p5,p9];have hap1:Rd K 3 (.sl [mN ⟨t.tick,o.case,x.arg⟩] .full) [mN ⟨t.tick,o.case,x.arg⟩]:=.sl acW .full;have hnl:=hgi.2.2;refine OwE.app (U:=U) (tb:=138) hoK.nt sG hap1 acj acd acf acj aci acJ fun id y' K2 hid hor how hoth=>?_
   have hor' :K id=none∨nid y3=some id:=by
    exact agK
   have n2:∀ {q b t},K q=some (.obj b t)→t≠138→q≠id:=fun {q b t} hq ht e=>by
    rcases hor' with h|h
    ·rw[e,h]at hq;cases hq
    ·exact lO (hoK.nt.nid h).2.2 hq ht e.symm
   have m9:=(hoth i9 (n2 k9 acd)).trans k9;have m5:=(hoth i5 (n2 k5' acd)).trans k5';have nik:=n2 kk acd;have mk:=(hoth k nik).trans kk;refine⟨iJ fun q hq=>?_,?_⟩
   ·simp only[List.mem_cons,List.not_mem_nil,or_false]at hq
    rcases hq with rfl|rfl|rfl
    ·rw[mk,kk]
    ·rw[m5,k5']
    ·rw[m9,k9]
   simp only[go_sem];refine⟨dH,fun _ _ e=>acD,?_⟩
   simp only[go_sem,r12,mk,how.rd.fit,how.rd.cells];refine⟨fun _ _ e=>acD,?_⟩
   simp only[go_sem,w1];obtain⟨F,eF⟩:∃F,upd K2 k (some (.obj [.i t.tick,y1,y2,y',y4,.s pid,.b pset,.i palg,aV ptgt,.sl (prules.map aB) .no,.sl (pkids.map aM) .no,aA pobls,.i t.version] 63))=F:=⟨_,rfl⟩;have Fk:F k=(some (.obj [.i t.tick,y1,y2,y',y4,.s pid,.b pset,.i palg,aV ptgt,.sl (prules.map aB) .no,.sl (pkids.map aM) .no,aA pobls,.i t.version] 63)):=by rw[←eF,ah]
   have Fo:∀q,q≠k→F q=K2 q:=fun q hq=>by rw[←eF,ag _ _ hq]
   have hoz:OwE 138 G F 3 y' ((t.notices++ [(⟨t.tick,o.case,x.arg⟩:HE)]).map mN):=by
    rw[List.map_append];exact .inr ⟨id,hid,how.same (Fo id nik.symm)⟩
   have hop:iD G F y1 y2 y' y4 {t with notices:=t.notices++ [⟨t.tick,o.case,x.arg⟩]} j:=by
    refine iD.nots (h:=K) (h' :=F) hoK hoz (fun q hq=>?_) fun q hq hne hz=>?_
    ·have:id=q:=by have:=how.nid;rw[hq]at this;exact(Option.some.inj this).symm
     rw[←this];exact hor'
    ·have n1:q≠k:=fun e=>hgk ((nG k).1 (by rw[←e];exact hq))
     have n2:q≠id:=fun e=>by
      rcases hor' with h|h
      ·exact hne (by rw[e];exact h)
      ·exact hz (by rw[e];exact h)
     rw[Fo q n1,hoth q n2]
   have hgs:GSt (upd g5 i9 (some (.obj [.i x.on,.i x.kind,.s x.arg] 131))) F k {t with notices:=t.notices++ [⟨t.tick,o.case,x.arg⟩]} j:=by
    refine⟨y1,y2,y',y4,by rw[Fk,hst],iD.bJ hop fun i hi=>(nG i).1 hi,hgk,fun i b hi hb=>?_⟩
    have n2:i≠id:=fun e=>by
     have:=(nG id).1 hid;rw[←e,hb]at this;cases this
    rw[Fo i hi,hoth i n2];exact hfr i b hi hb
   rw[←eF]at hgs;refine⟨_,?_,i+1,by rw[hsn];exact hb9 hgs,ab7,rfl,?_,?_,?_,?_,?_,?_⟩
   ·omega
   all_goals simp only[go_sem,r0,r3,r5,r10,r11]
  ·have hge:i=l.length:=by have:=ab0 e;omega
   subst hge;rw[List.take_length]at hS;simp only[go_sem];exact .same (.refl _) (hback hS)
theorem Np(s:an)(hf:Few s)(h:Heap):ai Tryz.prog 55 [cK s] h fun r h' =>∃y1 y2 y3,r= .agg (stC s y1 y2 y3 (dZ s.roles))∧iD h h' y1 y2 y3 (dZ s.roles) s s.cases.length∧Ab.Sub h h' :=by
 have hst:=uL s;have hsc:∀y1 y2 y3,stC s y1 y2 y3 (dZ s.roles)=stC s y1 y2 y3 (dZ s.roles):=fun _ _ _=>rfl
 have hfc:=hf.cases;have hfg:=hf.log;have hfr:=hf.reviews;have hfn:=hf.notices;obtain⟨tick,cs,rv,nt,ro,⟨pid,pset,palg,ptgt,prules,pkids,pobls⟩,ver⟩:=s;simp only at hfc hfg hfr hfn;rw[hst];simp only[sL,fZ,j4,kY,dZ,aX];refine ab6 Tryz.func55 35 [.cell 2 63] fun hwf=>?_
 simp only[go_sem];intro i1 h1;simp only[go_sem];intro i2 h2;have n21:=aH h2;have n2:=aC h2;simp only[go_sem];obtain⟨H,eH⟩:∃H,upd (upd h i1 (some (.obj [.i tick,.sl (cs.map cr) .no,.sl (rv.map iK) .no,.sl (nt.map mN) .no,.sl (ro.map eL) .no,.s pid,.b pset,.i palg,aV ptgt,.sl (prules.map aB) .no,.sl (pkids.map aM) .no,aA pobls,.i ver] 63))) i2 (some (.obj [.i 0,.sl [] .full,.sl [] .full,.sl [] .full,.sl [] .full,.s [],.b false,.i 0,.sl [] .full,.sl [] .full,.sl [] .full,.sl [] .full,.i 0] 63))=H:=⟨_,rfl⟩;have hH:Ab.Sub h H:=ac9;have g1:H i1=some (.obj [.i tick,.sl (cs.map cr) .no,.sl (rv.map iK) .no,.sl (nt.map mN) .no,.sl (ro.map eL) .no,.s pid,.b pset,.i palg,aV ptgt,.sl (prules.map aB) .no,.sl (pkids.map aM) .no,aA pobls,.i ver] 63):=adI;have g2:H i2=some (.obj [.i 0,.sl [] .full,.sl [] .full,.sl [] .full,.sl [] .full,.s [],.b false,.i 0,.sl [] .full,.sl [] .full,.sl [] .full,.sl [] .full,.i 0] 63):=adB;rw[eH];clear eH;refine .stage (hm1 i1 (.obj [.i tick,.sl (cs.map cr) .no,.sl (rv.map iK) .no,.sl (nt.map mN) .no,.sl (ro.map eL) .no,.s pid,.b pset,.i palg,aV ptgt,.sl (prules.map aB) .no,.sl (pkids.map aM) .no,aA pobls,.i ver] 63)) [0,1,3,4,6,7,2,9,5,8] [10,11,12,13,14] (.hm1 g1) ace ?_;simp only[go_sem,ga];refine(vj _ (rv.map iK) H (eR iK 7 (fun _=>rfl) _ _) ab8).mono fun z2 H1 ⟨o2,s1⟩=>?_
 refine⟨.hm1 (s1 _ _ g1),?_⟩;simp only[go_sem];refine(vi _ (nt.map mN) H1 (eR mN 3 (fun _=>rfl) _ _) ab8).mono fun z3 H2 ⟨o3,s2⟩=>?_
 refine⟨.hm1 (s2 _ _ (s1 _ _ g1)),?_⟩;simp only[go_sem];refine(zV _ (cs.map cr) H2 (eR cr 5 (fun _=>rfl) _ _) ab8).mono fun z1 H3 ⟨o1,s3⟩=>?_
 have s03:Ab.Sub H H3:=s1.trans (s2.trans s3);have q1' :=s03 _ _ g1;have q2' :=s03 _ _ g2;refine⟨.hm1 q1',dH,(fun _ _ e=>acD),?_⟩
 simp only[go_sem,q1',o1.rd.fit,o1.rd.cells,o2.rd.fit,o2.rd.cells,o3.rd.fit,o3.rd.cells];refine⟨fun _ _ e=>acD,fun _ _ e=>acD,fun _ _ e=>acD,?_⟩
 obtain⟨M,eM⟩:∃M,upd H3 i1 (some (.obj [.i tick,z1,z2,z3,.sl (ro.map eL) .no,.s pid,.b pset,.i palg,aV ptgt,.sl (prules.map aB) .no,.sl (pkids.map aM) .no,aA pobls,.i ver] 63))=M:=⟨_,rfl⟩;have oM:∀q,q≠i1→M q=H3 q:=fun q hq=>by rw[←eM,ag _ _ hq]
 have m1:M i1=some (.obj [.i tick,z1,z2,z3,.sl (ro.map eL) .no,.s pid,.b pset,.i palg,aV ptgt,.sl (prules.map aB) .no,.sl (pkids.map aM) .no,aA pobls,.i ver] 63):=by rw[←eM,ah]
 have m2:=(oM i2 n21).trans q2';have hM:Ab.Sub h M:=by rw[←eM];exact(hH.trans s03).put h1 _
 have new:∀ {tb:TypeId} {z:AV} {xs:List AV} {n:Nat} {g:Heap},OwE tb g H3 n z xs→Ab.Sub H g→OwE tb h M n z xs:=fun w hg=>(w.less (hH.trans hg)).keep fun id e=>oM id (cG (w.nid e).1 (hg _ _ g1))
 have w1:=new o1 (s1.trans s2);have w2:=new (o2.sub (s2.trans s3)) (.refl _);have w3:=new (o3.sub s3) s1;have a12:apart z1 z2:=(dY o1 (o2.there s2.some)).symm;have a13:apart z1 z3:=(dY o1 (o3.there fun k hk=>hk)).symm
 have a23:apart z2 z3:=dY o3 (o2.there fun k hk=>hk)
 simp only[go_sem,o1.rd.len,abX];rw[eM];have h12:i1≠i2:=n21.symm;refine .intro (fun m ρ G=>∃i:Nat,Ab.Sub M G∧i≤cs.length∧m=cs.length - i∧lk ρ 1=some (.ptr i1 0)∧lk ρ 2=some (.ptr i2 0)∧lk ρ 18=some z1∧lk ρ 19=some (.i cs.length)∧lk ρ 20=some (.i i)) cs.length ?_ ?_
 ·refine⟨0,.refl _,ab7,rfl,?_,?_,?_,?_,?_⟩<;>simp only[go_sem]
 ·rintro m ρ G ⟨i,hs,hi,rfl,r1,r2,r18,r19,r20⟩
  have v1:=w1.sub hs;simp only[go_sem,r19,r20];refine .intro (fun e=>?_) (fun e=>?_)
  ·have hlt:i<cs.length:=ab4 e
   have w1' :IntKind.i64.wrap ((i:Int)+1)=((i+1:Nat):Int):=acn;have hfl:=hfg _ (ab2 hlt);have hxi:(cs.map cr)[i]'ab8=cr cs[i]:=abY ..;simp only[go_sem,r18,r20];refine v1.rd.idx (U:=U) (e:=122) i rfl ab8 nq acd fun p hp1=>?_
   have hld:=hp1.all (U:=U) (ty:=122) acd (by rw[nq,hxi];rfl) (by simp only[go_sem];rw[hxi];rfl)
   obtain⟨c,ec⟩:∃c,cs[i]=c:=⟨_,rfl⟩;rw[hxi,ec]at hld;rw[ec]at hfl hxi;simp only[cr,mU,gv,rY]at hld;simp only[go_sem,hld];intro i4 h4;have k1:=hs _ _ m1;have n41:i4≠i1:=cG h4 k1;obtain⟨G4,eG4⟩:∃G4,upd G i4 (some (.obj [.s c.id,.s c.owner,.s c.state,.sl (c.fields.map bN) .no,.sl (c.log.map iF) .no] 122))=G4:=⟨_,rfl⟩;have sG:Ab.Sub G G4:=afm;have p1:=sG _ _ k1;have p4:G4 i4=some (.obj [.s c.id,.s c.owner,.s c.state,.sl (c.fields.map bN) .no,.sl (c.log.map iF) .no] 122):=by rw[←eG4,ah]
   simp only[go_sem];rw[eG4];refine .stage (hm2 i1 (.obj [.i tick,z1,z2,z3,.sl (ro.map eL) .no,.s pid,.b pset,.i palg,aV ptgt,.sl (prules.map aB) .no,.sl (pkids.map aM) .no,aA pobls,.i ver] 63) i4 (.obj [.s c.id,.s c.owner,.s c.state,.sl (c.fields.map bN) .no,.sl (c.log.map iF) .no] 122)) [0,1,2,3,4,5,6,7] [8] (.hm2 p1 p4) ace ?_;simp only[go_sem,r1,qX _ _ n41.symm,qY];refine(vY _ (c.log.map iF) G4 (eR iF 3 (fun _=>rfl) _ _) ab8 (bt (fun _=>rfl) _)).pthen ?_
   refine⟨.hm2 p1 p4,?_⟩;simp only[go_sem];obtain⟨id1,hg1,u1⟩:=(v1.sub sG).ow ab8;refine u1.idx (U:=U) (e:=122) i rfl ab8 nq acd ?_;simp only[go_sem];refine⟨dH,(fun _ _ e=>acD),?_⟩
   have u1' :=u1;obtain⟨cap,rest,ey,hid,hr,hcap,hsz⟩:=u1';have hbd:i*5+5≤(aq (cs.map cr)++rest).length:=by
    grind [ab1,aY,abX]
   have e5:List.take (i*5+4) (aq (cs.map cr)++rest)++ [.sl (c.log.map iF) .no]++List.drop (i*5+4+1) (aq (cs.map cr)++rest)=aq (cs.map cr)++rest:=by
    refine(ld hsz i ab8 4 [.sl (c.log.map iF) .no] (abW rfl)).trans ?_;rw[qJ];rw[List.getElem?_eq_getElem ab8,hxi];rfl
   simp only[go_sem,r20,hid];rw[e5,uW hid];refine⟨ab7,(fun _ _ e=>acD),?_⟩
   simp only[go_sem,w1'];refine⟨_,?_,i+1,hs.trans sG,ab7,rfl,?_,?_,?_,?_,?_⟩
   ·omega
   all_goals simp only[go_sem,r1,r2,r18,r19]
  ·have hge:i=cs.length:=by grind
   have k1:=hs _ _ m1;have k2:=hs _ _ m2;have n21' :i2≠i1:=n21;simp only[go_sem,r1,r2,k1,k2];have kp:∀b q,h q=none→M q≠none→q≠i2→upd G i2 b q=M q:=fun b q a c d=>by
    rw[ag _ _ d];cases hh:M q with
    |none=>grind
    |some b=>exact hs _ _ hh
   have ne2:∀ {tb:TypeId} {z:AV} {xs:List AV} {n:Nat},OwE tb h M n z xs→tb≠63→∀q,nid z=some q→q≠i2:=fun w ht q e=>lO (w.nid e).2.2 m2 ht.symm
   refine .mk _ (.refl _) (.refl _) ⟨z1,z2,z3,by simp[stC,fW,aX]<;>rfl,⟨⟨cs.map cr,w1.keep fun q e=>kp _ q (w1.nid e).1 (w1.nid e).2.1 (ne2 w1 acd q e),aci,fun j a b _=>abY ..,fun a b=>absurd b (Nat.lt_irrefl _)⟩,w2.keep fun q e=>kp _ q (w2.nid e).1 (w2.nid e).2.1 (ne2 w2 acd q e),w3.keep fun q e=>kp _ q (w3.nid e).1 (w3.nid e).2.1 (ne2 w3 acd q e),.inl rfl,a12,a13,fun q _ e=>acD,a23,fun q _ e=>acD,fun q _ e=>acD⟩,(hM.trans hs).put n2 _⟩
end Go.Proofs.YtfdgemhnlennbaaGreatDoor
namespace Go.Bf
open Go Go.Ab Go.Proofs.YtfdgemhnlennbaaGreatDoor
def lJ(r:j8):List AV:=[.i r.err,aR r.mark,.b r.glass,.i r.val.kind,.i r.val.n,.s r.val.s,.b r.hidden,.i r.at_]
def xq(d:pS):List AV:=opC d.op++ [.i d.version,aR d.mark,.b d.glass,aA d.obls]
def nw:List AV:=[.i 0,.v (.complex .f64 0 0),.b false,.i 0,.i 0,.s [],.b false,.i 0]
def jL(x:an×j8×pS×Int):AV:=.tup [cK x.1,.agg (lJ x.2.1),.agg (xq x.2.2.1),.i x.2.2.2]
theorem Af{cs ds:List aL}(h:ds.map (·.id)=cs.map (·.id))(id:Txt):findD ds id=findD cs id:=by
 have e:∀l:List aL,findD l id=(l.map (·.id)).findIdx fun x=>geB x id:=fun l=>by
  rw[List.findIdx_map];rfl
 rw[e,e,h]
theorem KM(id:Txt):geB id id=true:=by
 have:Op.bytesLess id id=false:=by simpa[lt]using lt_irrefl id
 simp[geB,this]
theorem HZ{s:an}{o:OpD}(hr:bL s o=0):findD (dU aQ s o).cases o.case=findD s.cases o.case:=by
 unfold dU;rw[if_pos hr];unfold doD
 by_cases k1:o.kind=1
 ·simp only[k1,if_true]
  obtain⟨f,ef⟩:∃f,findD s.cases o.case=f:=⟨_,rfl⟩;have hf:f≤s.cases.length:=by rw[←ef];exact List.findIdx_le_length
  rw[ef];refine(List.findIdx_eq ab8).2 ⟨?_,fun j hj=>?_⟩
  ·have:((List.take f s.cases++ [jn s ⟨o.case,o.subj,jC,[],[]⟩ o.subj [110,101,119]]++List.drop f s.cases)[f]?)=some (jn s ⟨o.case,o.subj,jC,[],[]⟩ o.subj [110,101,119]):=by
    grind
   rw[(List.getElem_eq_iff _).2 this];exact KM _
  ·have hj2:j<s.cases.length:=by omega
   have:((List.take f s.cases++ [jn s ⟨o.case,o.subj,jC,[],[]⟩ o.subj [110,101,119]]++List.drop f s.cases)[j]?)=some s.cases[j]:=by
    grind
   rw[(List.getElem_eq_iff _).2 this];have h3:j<s.cases.findIdx fun c=>geB c.id o.case:=by grind [findD]
   simpa using List.not_of_lt_findIdx h3
 ·by_cases k3:o.kind=3
  ·simp only[k3,show¬(3:Int)=1 by decide,if_false,if_true]
   exact Af (kj (f:=fun c=>jn s {c with fields:=fh c.fields o.field o.val} o.subj [119,114,105,116,101]) (g:=fun c:aL=>c.id) fun c=>rfl) _
  ·by_cases k4:o.kind=4
   ·simp only[k4,show¬(4:Int)=1 by decide,show¬(4:Int)=3 by decide,if_false,if_true]
    exact Af (kj (f:=fun c=>jn s {c with state:=o.to} o.subj o.to) (g:=fun c:aL=>c.id) fun c=>rfl) _
   grind
theorem Nf{k:Nat}{s:an}{o:OpD}(h:dj k s)(hr:bL s o=0)(hx:iG (dU aQ s o).cases o.case<(dU aQ s o).cases.length):findD s.cases o.case=iG (dU aQ s o).cases o.case:=by
 rw[←HZ hr];exact Fa (pg o h).asc hx
theorem Jb{t:Txt}(h:(aQ t).2.1=0):(aQ t).2.2=0:=by
 unfold aQ at h⊢;cases hl:rW t with
 |bad e a=>
  rw[hl]at h;simp only at h;have:=(ya hl).1;omega
 |ok ts=>
  simp only[yt]at h⊢
  grind
end Go.Bf
namespace Go.Proofs.YtfdgemhnlennbaaGreatDoor
open Go Go.Ab Go.Bf
theorem Je(c:aL):cJ (cr c)=true:=by
 simp[cr,mU,cJ,gS,gv,rY,bt (f:=bN) (fun _=>rfl),bt (f:=iF) (fun _=>rfl)]
theorem QB{g h:Heap}(s:an):Frz g h (cK s) (cK s):=by
 have:=ug (g:=g) (h:=h) (s:=s) (y1:=fZ s.cases) (y2:=j4 s.reviews) (y3:=kY s.notices) (y4:=dZ s.roles) (.pure (by grind [fZ,cJ,bt,Je])) (.pure (by simp only[j4,cJ];exact bt (fun _=>rfl) _)) (.pure (by simp only[kY,cJ];exact bt (fun _=>rfl) _)) (.pure (by simp only[dZ,cJ];exact bt (fun _=>rfl) _))
 exact acQ
theorem KK{g h:Heap}(l:List cA)(q:Perm):Frz g h (.sl (l.map br) q) (aA l):=.sl _ _ _ rfl ab7 fun i h1 h2 j h3 h4=>by
 refine .pure ?_;have:cJ (l.map br)[i]=true:=acq;exact nh this _ aci
theorem Aj{g h:Heap}{x:AV}{S:an}(r:j8)(d:pS)(e:Int)(a:Frz g h x (cK S))(q:Perm):Frz g h (.tup [x,.agg (lJ r),.agg (opC d.op++ [.i d.version,aR d.mark,.b d.glass,.sl (d.obls.map br) q]),.i e]) (jL (S,r,d,e)):=by
 refine .tup _ _ rfl fun i h1 h2=>?_
 rcases i with _|_|_|_|i
 ·exact a
 ·exact acw
 ·refine .agg _ _ acr fun j h3 h4=>?_
  rcases j with _|_|_|_|_|_|_|_|_|_|_|_|_|_|_|_|j
  ·exact acw
  ·exact acw
  ·exact acw
  ·exact acw
  ·exact acw
  ·exact acw
  ·exact acw
  ·exact acw
  ·exact acw
  ·exact acw
  ·exact acw
  ·exact acw
  ·exact acw
  ·exact acw
  ·exact acw
  ·exact KK d.obls q
  ·simp[opC]at h3;omega
 ·exact acw
 grind
theorem GSt.put{g H:Heap}{k:Nat}{s:an}{j:Nat}(hG:GSt g H k s j){i:Nat}(hi:i≠k)(hgi:g i≠none)(b:Blk):GSt (upd g i (some b)) (upd H i (some b)) k s j:=by
 obtain⟨y1,y2,y3,y4,hk,ho,hgk,hfr⟩:=hG;refine⟨y1,y2,y3,y4,acM,(ho.more (g:=upd g i (some b)) fun q hq _=>acM).keep fun q hq _=>ag _ _ fun e=>?_,acM,fun q c hq hc=>?_⟩
 ·grind [ah]
 grind [ah,ag]
theorem GSt.at{g H:Heap}{k:Nat}{s:an}{j:Nat}(hG:GSt g H k s j){i:Nat}{b:Blk}(hi:i≠k)(hb:g i=some b):H i=some b:=by
 obtain⟨_,_,_,_,_,_,_,hfr⟩:=hG
 grind
theorem GSt.sub{f g H:Heap}{k:Nat}{s:an}{j:Nat}(hG:GSt g H k s j)(hs:Ab.Sub f g)(hk:f k=none):Ab.Sub f H:=fun i b hi=>by
 obtain⟨_,_,_,_,_,_,_,hfr⟩:=hG;exact hfr i b ab8 (hs i b hi)
theorem GSt.same{g H H' :Heap}{k:Nat}{s:an}{j:Nat}(hG:GSt g H k s j)(hs:Ab.Sub H H'):GSt g H' k s j:=by
 obtain⟨y1,y2,y3,y4,hk,ho,hgk,hfr⟩:=hG;exact⟨y1,y2,y3,y4,hs _ _ hk,ho.keep fun q _ hne=>by
  cases hh:H q with
  |none=>grind
  |some b=>exact hs _ _ hh,hgk,fun i b hi hb=>hs _ _ (hfr i b hi hb)⟩
theorem qN{s:an}{pid:Txt}{pset:Bool}{palg:Int}{ptgt:fY}{prules:List cP}{pkids:List bH}{pobls:List cA}(hpp:s.policy= .mk pid pset palg ptgt prules pkids pobls)(y1 y2 y3 y4:AV):stC s y1 y2 y3 y4= [.i s.tick,y1,y2,y3,y4,.s pid,.b pset,.i palg,.sl (ptgt.map cR) .no,.sl (prules.map aB) .no,.sl (pkids.map aM) .no,.sl (pobls.map br) .no,.i s.version]:=by
 simp[stC,hpp,fW,aX,aV,aA]
theorem LL(p:bH):∃a b c d e f g,p= .mk a b c d e f g:=by cases p;simp
theorem oJ{k:Nat}(s:an)(hG:iQ k s)(hk:k≤1000)(o:OpD)(ho:nC o)(h:Heap)(he:j7 h):ai Tryz.prog 20 [cK s,opA o] h fun r h' =>r=jL (aP s o)∧h' =h:=
 ai.freeze fun g hg _=>by
 replace he:=he.sub hg;obtain⟨pid,pset,palg,ptgt,prules,pkids,pobls,hpp⟩:∃a b c d e f g,s.policy= .mk a b c d e f g:=by cases s.policy;exact⟨_,_,_,_,_,_,_,rfl⟩
 have hst:cK s= .agg [.i s.tick,.sl (s.cases.map cr) .no,.sl (s.reviews.map iK) .no,.sl (s.notices.map mN) .no,.sl (s.roles.map eL) .no,.s pid,.b pset,.i palg,.sl (ptgt.map cR) .no,.sl (prules.map aB) .no,.sl (pkids.map aM) .no,.sl (pobls.map br) .no,.i s.version]:=by
  simp[cK,fW,hpp,fZ,j4,kY,dZ,aX,aV,aA]
 rw[hst];refine ai.of_wp hU Tryz.func20 rfl ace 131 rfl [.cell 4 63,.cell 5 35,.cell 6 68,.tmp 7] rfl (abW rfl) ?_;refine .one hU hm ?_;simp -implicitDefEqProofs only[go_sem,opA,opC];intro i2 h2;simp -implicitDefEqProofs only[go_sem];obtain⟨H2,e2⟩:∃H2,upd g i2 (some (.obj [.i s.tick,.sl (s.cases.map cr) .no,.sl (s.reviews.map iK) .no,.sl (s.notices.map mN) .no,.sl (s.roles.map eL) .no,.s pid,.b pset,.i palg,.sl (ptgt.map cR) .no,.sl (prules.map aB) .no,.sl (pkids.map aM) .no,.sl (pobls.map br) .no,.i s.version] 63))=H2:=⟨_,rfl⟩;have s2:Ab.Sub g H2:=by rw[←e2];exact .aj h2
 have b2:H2 i2=some (.obj [.i s.tick,.sl (s.cases.map cr) .no,.sl (s.reviews.map iK) .no,.sl (s.notices.map mN) .no,.sl (s.roles.map eL) .no,.s pid,.b pset,.i palg,.sl (ptgt.map cR) .no,.sl (prules.map aB) .no,.sl (pkids.map aM) .no,.sl (pobls.map br) .no,.i s.version] 63):=by rw[←e2,ah]
 have q2:g i2=none:=h2;have sg:Ab.Sub g H2:=s2;rw[e2];clear e2;intro i3 h3;simp -implicitDefEqProofs only[go_sem];obtain⟨H3,e3⟩:∃H3,upd H2 i3 (some (.obj [.i o.kind,.s o.subj,.s o.case,.s o.field,.s o.to,.i o.val.kind,.i o.val.n,.s o.val.s,.i o.review,.s o.text,.s o.reason,.b o.glass] 39))=H3:=⟨_,rfl⟩;have s3:Ab.Sub H2 H3:=by rw[←e3];exact .aj h3
 have n3_2:i3≠i2:=fun e=>by rw[e,b2]at h3;cases h3
 replace b2:=s3 _ _ b2;have b3:H3 i3=some (.obj [.i o.kind,.s o.subj,.s o.case,.s o.field,.s o.to,.i o.val.kind,.i o.val.n,.s o.val.s,.i o.review,.s o.text,.s o.reason,.b o.glass] 39):=by rw[←e3,ah]
 have q3:g i3=none:=sg.none h3;have sg:Ab.Sub g H3:=sg.trans s3;rw[e3];clear e3;intro i4 h4;simp -implicitDefEqProofs only[go_sem];obtain⟨H4,e4⟩:∃H4,upd H3 i4 (some (.obj [.i 0,.sl [] .full,.sl [] .full,.sl [] .full,.sl [] .full,.s [],.b false,.i 0,.sl [] .full,.sl [] .full,.sl [] .full,.sl [] .full,.i 0] 63))=H4:=⟨_,rfl⟩;have s4:Ab.Sub H3 H4:=by rw[←e4];exact .aj h4
 have n4_2:i4≠i2:=fun e=>by rw[e,b2]at h4;cases h4
 have n4_3:i4≠i3:=fun e=>by rw[e,b3]at h4;cases h4
 replace b2:=s4 _ _ b2;replace b3:=s4 _ _ b3;have b4:H4 i4=some (.obj [.i 0,.sl [] .full,.sl [] .full,.sl [] .full,.sl [] .full,.s [],.b false,.i 0,.sl [] .full,.sl [] .full,.sl [] .full,.sl [] .full,.i 0] 63):=by rw[←e4,ah]
 have q4:g i4=none:=sg.none h4;have sg:Ab.Sub g H4:=sg.trans s4;rw[e4];clear e4;intro i5 h5;simp -implicitDefEqProofs only[go_sem];obtain⟨H5,e5⟩:∃H5,upd H4 i5 (some (.obj [.i 0,.v (.complex .f64 0 0),.b false,.i 0,.i 0,.s [],.b false,.i 0] 35))=H5:=⟨_,rfl⟩;have s5:Ab.Sub H4 H5:=by rw[←e5];exact .aj h5
 have n5_2:i5≠i2:=fun e=>by rw[e,b2]at h5;cases h5
 have n5_3:i5≠i3:=fun e=>by rw[e,b3]at h5;cases h5
 have n5_4:i5≠i4:=fun e=>by rw[e,b4]at h5;cases h5
 replace b2:=s5 _ _ b2;replace b3:=s5 _ _ b3;replace b4:=s5 _ _ b4;have b5:H5 i5=some (.obj [.i 0,.v (.complex .f64 0 0),.b false,.i 0,.i 0,.s [],.b false,.i 0] 35):=by rw[←e5,ah]
 have q5:g i5=none:=sg.none h5;have sg:Ab.Sub g H5:=sg.trans s5;rw[e5];clear e5;intro i6 h6;simp -implicitDefEqProofs only[go_sem];obtain⟨H6,e6⟩:∃H6,upd H5 i6 (some (.obj [.i 0,.s [],.s [],.s [],.s [],.i 0,.i 0,.s [],.i 0,.s [],.s [],.b false,.i 0,.v (.complex .f64 0 0),.b false,.sl [] .full] 68))=H6:=⟨_,rfl⟩;have s6:Ab.Sub H5 H6:=by rw[←e6];exact .aj h6
 have n6_2:i6≠i2:=fun e=>by rw[e,b2]at h6;cases h6
 have n6_3:i6≠i3:=fun e=>by rw[e,b3]at h6;cases h6
 have n6_4:i6≠i4:=fun e=>by rw[e,b4]at h6;cases h6
 have n6_5:i6≠i5:=fun e=>by rw[e,b5]at h6;cases h6
 replace b2:=s6 _ _ b2;replace b3:=s6 _ _ b3;replace b4:=s6 _ _ b4;replace b5:=s6 _ _ b5;have b6:H6 i6=some (.obj [.i 0,.s [],.s [],.s [],.s [],.i 0,.i 0,.s [],.i 0,.s [],.s [],.b false,.i 0,.v (.complex .f64 0 0),.b false,.sl [] .full] 68):=by rw[←e6,ah]
 have q6:g i6=none:=sg.none h6;have sg:Ab.Sub g H6:=sg.trans s6;rw[e6];clear e6;refine WP.L6 hU hm 0 (fun(_:Nat) (ρ:Env) (H' :Heap)=>∃(e a:Int),Ab.Sub g H'∧H' i2=some (.obj [.i s.tick,.sl (s.cases.map cr) .no,.sl (s.reviews.map iK) .no,.sl (s.notices.map mN) .no,.sl (s.roles.map eL) .no,.s pid,.b pset,.i palg,.sl (ptgt.map cR) .no,.sl (prules.map aB) .no,.sl (pkids.map aM) .no,.sl (pobls.map br) .no,.i s.version] 63)∧H' i4=some (.obj [.i 0,.sl [] .full,.sl [] .full,.sl [] .full,.sl [] .full,.s [],.b false,.i 0,.sl [] .full,.sl [] .full,.sl [] .full,.sl [] .full,.i 0] 63)∧H' i5=some (.obj [.i 0,.v (.complex .f64 0 0),.b false,.i 0,.i 0,.s [],.b false,.i 0] 35)∧H' i6=some (.obj [.i 0,.s [],.s [],.s [],.s [],.i 0,.i 0,.s [],.i 0,.s [],.s [],.b false,.i 0,.v (.complex .f64 0 0),.b false,.sl [] .full] 68)∧lk ρ 2=some (.ptr i2 0)∧lk ρ 4=some (.ptr i4 0)∧lk ρ 5=some (.ptr i5 0)∧lk ρ 6=some (.ptr i6 0)∧lk ρ 12=some (.i e)∧lk ρ 13=some (.i a)∧aP s o=(s,⟨e,naM,false,au,false,a⟩,wP,e)) rfl ?_ ?_
 ·rintro m ρ H' ⟨e,a,sg',b2,b4,b5,b6,r2,r4,r5,r6,r12,r13,hgd⟩
  refine .vc hU hm ?_;simp -implicitDefEqProofs only[go_sem,r2,r4,r5,r6,r12,r13,b2,b4,b5,b6,ak,n5_4,n5_4.symm,n6_4,n6_4.symm,n6_5,n6_5.symm];refine .mk _ (.refl _) (.refl _) ⟨((sg'.put q4 _).put q5 _).put q6 _,_,?_,rfl⟩;rw[hgd];exact Aj (S:=s) ⟨e,naM,false,au,false,a⟩ wP e (by rw[←hst];exact QB s) .full
 intro _;refine .one hU hm ?_;simp -implicitDefEqProofs only[go_sem];intro i8 h8;simp -implicitDefEqProofs only[go_sem];obtain⟨H8,e8⟩:∃H8,upd H6 i8 (some (.obj [.v (.complex .f64 0 0),.sl [] .full] 107))=H8:=⟨_,rfl⟩;have s8:Ab.Sub H6 H8:=by rw[←e8];exact .aj h8
 have n8_2:i8≠i2:=fun e=>by rw[e,b2]at h8;cases h8
 have n8_3:i8≠i3:=fun e=>by rw[e,b3]at h8;cases h8
 have n8_4:i8≠i4:=fun e=>by rw[e,b4]at h8;cases h8
 have n8_5:i8≠i5:=fun e=>by rw[e,b5]at h8;cases h8
 have n8_6:i8≠i6:=fun e=>by rw[e,b6]at h8;cases h8
 replace b2:=s8 _ _ b2;replace b3:=s8 _ _ b3;replace b4:=s8 _ _ b4;replace b5:=s8 _ _ b5;replace b6:=s8 _ _ b6;have b8:H8 i8=some (.obj [.v (.complex .f64 0 0),.sl [] .full] 107):=by rw[←e8,ah]
 have q8:g i8=none:=sg.none h8;have sg:Ab.Sub g H8:=sg.trans s8;rw[e8];clear e8;refine .one hU hm ?_;simp -implicitDefEqProofs only[go_sem];intro i9 h9;simp -implicitDefEqProofs only[go_sem];obtain⟨H9,e9⟩:∃H9,upd H8 i9 (some (.obj [.i 0,.v (.complex .f64 0 0),.b false,.i 0,.i 0,.s [],.b false,.i 0] 35))=H9:=⟨_,rfl⟩;have s9:Ab.Sub H8 H9:=by rw[←e9];exact .aj h9
 have n9_2:i9≠i2:=fun e=>by rw[e,b2]at h9;cases h9
 have n9_3:i9≠i3:=fun e=>by rw[e,b3]at h9;cases h9
 have n9_4:i9≠i4:=fun e=>by rw[e,b4]at h9;cases h9
 have n9_5:i9≠i5:=fun e=>by rw[e,b5]at h9;cases h9
 have n9_6:i9≠i6:=fun e=>by rw[e,b6]at h9;cases h9
 have n9_8:i9≠i8:=fun e=>by rw[e,b8]at h9;cases h9
 replace b2:=s9 _ _ b2;replace b3:=s9 _ _ b3;replace b4:=s9 _ _ b4;replace b5:=s9 _ _ b5;replace b6:=s9 _ _ b6;replace b8:=s9 _ _ b8;have b9:H9 i9=some (.obj [.i 0,.v (.complex .f64 0 0),.b false,.i 0,.i 0,.s [],.b false,.i 0] 35):=by rw[←e9,ah]
 have q9:g i9=none:=sg.none h9;have sg:Ab.Sub g H9:=sg.trans s9;rw[e9];clear e9;refine .one hU hm ?_;simp -implicitDefEqProofs only[go_sem];intro i10 h10;simp -implicitDefEqProofs only[go_sem];obtain⟨H10,e10⟩:∃H10,upd H9 i10 (some (.obj [.i 0,.sl [] .full,.sl [] .full,.sl [] .full,.sl [] .full,.s [],.b false,.i 0,.sl [] .full,.sl [] .full,.sl [] .full,.sl [] .full,.i 0] 63))=H10:=⟨_,rfl⟩;have s10:Ab.Sub H9 H10:=by rw[←e10];exact .aj h10
 have n10_2:i10≠i2:=fun e=>by rw[e,b2]at h10;cases h10
 have n10_3:i10≠i3:=fun e=>by rw[e,b3]at h10;cases h10
 have n10_4:i10≠i4:=fun e=>by rw[e,b4]at h10;cases h10
 have n10_5:i10≠i5:=fun e=>by rw[e,b5]at h10;cases h10
 have n10_6:i10≠i6:=fun e=>by rw[e,b6]at h10;cases h10
 have n10_8:i10≠i8:=fun e=>by rw[e,b8]at h10;cases h10
 have n10_9:i10≠i9:=fun e=>by rw[e,b9]at h10;cases h10
 replace b2:=s10 _ _ b2;replace b3:=s10 _ _ b3;replace b4:=s10 _ _ b4;replace b5:=s10 _ _ b5;replace b6:=s10 _ _ b6;replace b8:=s10 _ _ b8;replace b9:=s10 _ _ b9;have b10:H10 i10=some (.obj [.i 0,.sl [] .full,.sl [] .full,.sl [] .full,.sl [] .full,.s [],.b false,.i 0,.sl [] .full,.sl [] .full,.sl [] .full,.sl [] .full,.i 0] 63):=by rw[←e10,ah]
 have q10:g i10=none:=sg.none h10;have sg:Ab.Sub g H10:=sg.trans s10;rw[e10];clear e10;refine .one hU hm ?_;simp -implicitDefEqProofs only[go_sem];have hrd:=fun G=>DM (rdS G s) o hG.few ho.2.2.2 hG.FV
 have hpa:=fun(G:Heap) (hs:Ab.Sub g G)=>yu o.text G (he.sub hs)
 rw[hst]at hrd;simp only[opA,opC]at hrd;refine .one hU hm ?_;simp -implicitDefEqProofs only[go_sem,b2,b3];refine(hrd _).pthen ?_;simp -implicitDefEqProofs only[go_sem];refine .cut (fun ρ H' =>H' =H10∧lk ρ 2=some (.ptr i2 0)∧lk ρ 3=some (.ptr i3 0)∧lk ρ 4=some (.ptr i4 0)∧lk ρ 5=some (.ptr i5 0)∧lk ρ 6=some (.ptr i6 0)∧lk ρ 8=some (.ptr i8 0)∧lk ρ 9=some (.ptr i9 0)∧lk ρ 10=some (.ptr i10 0)∧lk ρ 11=some (.b false)∧lk ρ 12=some (.v (.int .i64 (jX s o).1))∧lk ρ 13=some (.v (.int .i64 (jX s o).2))) ?_ ?_
 ·refine .vc hU hm ?_
  cases dr:(bL s o==0)
  ·have er:bL s o≠0:=by simpa using dr
   have ep:jX s o=(bL s o,0):=by unfold jX;rw[if_neg fun hh=>er hh.1]
   simp -implicitDefEqProofs only[go_sem,dr];refine⟨rfl,?_,?_,?_,?_,?_,?_,?_,?_,?_,?_,?_⟩<;>simp -implicitDefEqProofs only[go_sem,ep]
  have er:bL s o=0:=by simpa using dr
  cases d7:(o.kind==7)
  ·have e7:o.kind≠7:=by simpa using d7
   have ep:jX s o=(bL s o,0):=by unfold jX;rw[if_neg fun hh=>e7 hh.2]
   simp -implicitDefEqProofs only[go_sem,b3,dr,d7];refine⟨rfl,?_,?_,?_,?_,?_,?_,?_,?_,?_,?_,?_⟩<;>simp -implicitDefEqProofs only[go_sem,ep]
  ·have e7:o.kind=7:=by simpa using d7
   have ep:jX s o=((aQ o.text).2.1,(aQ o.text).2.2):=by unfold jX;rw[if_pos ⟨er,e7⟩]
   simp -implicitDefEqProofs only[go_sem,b3,dr,d7];refine(hpa _ sg).pthen ?_;obtain⟨⟨pp,e,a⟩,epp⟩:∃x,aQ o.text=x:=⟨_,rfl⟩;rw[epp]at ep;simp -implicitDefEqProofs only[go_sem,jR,epp];refine⟨rfl,?_,?_,?_,?_,?_,?_,?_,?_,?_,?_,?_⟩<;>simp -implicitDefEqProofs only[go_sem,ep]
 rintro ρ H' ⟨rfl,r2,r3,r4,r5,r6,r8,r9,r10,r11,r12,r13⟩
 refine .one hU hm ?_;cases de:((jX s o).1 !=0)
 case true=>
  have ee:(jX s o).1≠0:=by simpa using de
  simp -implicitDefEqProofs only[go_sem,r2,r4,r5,r6,r12,r13,de];exact⟨0,(jX s o).1,(jX s o).2,sg,b2,b4,b5,b6,rfl,rfl,by unfold aP;rw[if_pos ee]⟩
 have ee:(jX s o).1=0:=by simpa using de
 simp -implicitDefEqProofs only[go_sem,r12,de];obtain⟨hr0,hform,hpar⟩:=tD ee;have hfg:=J8 (HI hG.todj hform);have hask:=fun G=>P6 (rdS G s) o hG.few ho.1
 have hdec:=fun G=>C2 s.policy hG.pol (fG s o) hfg G
 have hm6:=Bw (fG s o) s.policy;have hol:=KE (fG s o) hG.mF;have hmk:gJ s o=fE (fG s o) s.policy:=rfl;obtain⟨⟨m,ob⟩,em⟩:∃x,fE (fG s o) s.policy=x:=⟨_,rfl⟩;rw[em]at hdec hm6 hol hmk;simp only at hm6 hol;rw[hpp]at hdec;simp only[aM,aV,aA,aX,bI,rsA,aR]at hdec;rw[hst]at hask;simp only[opA,opC,bI]at hask;have p2:=(bD (H:=H') (l:=[i2,i3]) (show i2∈ [i2,i3] by simp)).trans b2
 have p3:=(bD (H:=H') (l:=[i2,i3]) (show i3∈ [i2,i3] by simp)).trans b3
 refine .one hU hm ?_;simp -implicitDefEqProofs only[go_sem];refine .calls (pick H' [i2,i3]) [0,1,2,3,4,5,6,7,8,9,10] bR ace rfl ?_;simp -implicitDefEqProofs only[go_sem,r2,r3,p2,p3];refine(hask _).pthen ?_;refine⟨bR,?_⟩;simp -implicitDefEqProofs only[go_sem];refine(hdec _).pthen ?_;refine⟨bR,?_⟩;simp -implicitDefEqProofs only[go_sem,r8,b8];refine⟨bR.put (by simp[pick,n8_2,n8_3]) _,?_⟩
 obtain⟨H11,eH11⟩:∃H11,upd H' i8 (some (.obj [.v (.complex .f64 (hbit m.1) (hbit m.2)),.sl (ob.map br) .no] 107))=H11:=⟨_,rfl⟩;replace b2:H11 i2=some (.obj [.i s.tick,.sl (s.cases.map cr) .no,.sl (s.reviews.map iK) .no,.sl (s.notices.map mN) .no,.sl (s.roles.map eL) .no,.s pid,.b pset,.i palg,.sl (ptgt.map cR) .no,.sl (prules.map aB) .no,.sl (pkids.map aM) .no,.sl (pobls.map br) .no,.i s.version] 63):=by rw[←eH11,ag _ _ n8_2.symm];exact b2
 replace b3:H11 i3=some (.obj [.i o.kind,.s o.subj,.s o.case,.s o.field,.s o.to,.i o.val.kind,.i o.val.n,.s o.val.s,.i o.review,.s o.text,.s o.reason,.b o.glass] 39):=by rw[←eH11,ag _ _ n8_3.symm];exact b3
 replace b4:H11 i4=some (.obj [.i 0,.sl [] .full,.sl [] .full,.sl [] .full,.sl [] .full,.s [],.b false,.i 0,.sl [] .full,.sl [] .full,.sl [] .full,.sl [] .full,.i 0] 63):=by rw[←eH11,ag _ _ n8_4.symm];exact b4
 replace b5:H11 i5=some (.obj [.i 0,.v (.complex .f64 0 0),.b false,.i 0,.i 0,.s [],.b false,.i 0] 35):=by rw[←eH11,ag _ _ n8_5.symm];exact b5
 replace b6:H11 i6=some (.obj [.i 0,.s [],.s [],.s [],.s [],.i 0,.i 0,.s [],.i 0,.s [],.s [],.b false,.i 0,.v (.complex .f64 0 0),.b false,.sl [] .full] 68):=by rw[←eH11,ag _ _ n8_6.symm];exact b6
 replace b9:H11 i9=some (.obj [.i 0,.v (.complex .f64 0 0),.b false,.i 0,.i 0,.s [],.b false,.i 0] 35):=by rw[←eH11,ag _ _ n9_8];exact b9
 replace b10:H11 i10=some (.obj [.i 0,.sl [] .full,.sl [] .full,.sl [] .full,.sl [] .full,.s [],.b false,.i 0,.sl [] .full,.sl [] .full,.sl [] .full,.sl [] .full,.i 0] 63):=by rw[←eH11,ag _ _ n10_8];exact b10
 replace b8:H11 i8=some (.obj [.v (.complex .f64 (hbit m.1) (hbit m.2)),.sl (ob.map br) .no] 107):=by rw[←eH11,ah]
 replace sg:Ab.Sub g H11:=by rw[←eH11];exact sg.put q8 _
 rw[eH11];clear eH11;have hbr:=fun G=>HL s o m hm6.m9 (by have:=hG.nr;omega) (by have:=hG.roles;omega) hG.tick hG.ticks G
 rw[hst]at hbr;simp only[opA,opC,aR]at hbr;obtain⟨gl,egl⟩:∃gl,sD s o m=gl:=⟨_,rfl⟩;have hgl:fH s o=gl:=by unfold fH;rw[hmk];exact egl
 rw[egl]at hbr;have p2:=(bD (H:=H11) (l:=[i2,i3,i8]) (show i2∈ [i2,i3,i8] by simp)).trans b2
 have p3:=(bD (H:=H11) (l:=[i2,i3,i8]) (show i3∈ [i2,i3,i8] by simp)).trans b3
 have p8:=(bD (H:=H11) (l:=[i2,i3,i8]) (show i8∈ [i2,i3,i8] by simp)).trans b8
 refine .one hU hm ?_;simp -implicitDefEqProofs only[go_sem];refine .stage (pick H11 [i2,i3,i8]) [0,1,2,3,4,5,7,6] [8,9,10] bR ace ?_;simp -implicitDefEqProofs only[go_sem,r2,r3,r8,r9,p2,p3,p8];refine(hbr _).pthen ?_;refine⟨bR,dH,fun _ _ e=>acD,?_⟩
 simp -implicitDefEqProofs only[go_sem,r9,b9];refine⟨fun _ _ e=>acD,fun _ _ e=>acD,?_⟩
 obtain⟨H12,eH12⟩:∃H12,upd H11 i9 (some (.obj [.i 0,.v (.complex .f64 (hbit m.1) (hbit m.2)),.b gl,.i 0,.i 0,.s [],.b false,.i 0] 35))=H12:=⟨_,rfl⟩;replace b2:H12 i2=some (.obj [.i s.tick,.sl (s.cases.map cr) .no,.sl (s.reviews.map iK) .no,.sl (s.notices.map mN) .no,.sl (s.roles.map eL) .no,.s pid,.b pset,.i palg,.sl (ptgt.map cR) .no,.sl (prules.map aB) .no,.sl (pkids.map aM) .no,.sl (pobls.map br) .no,.i s.version] 63):=by rw[←eH12,ag _ _ n9_2.symm];exact b2
 replace b3:H12 i3=some (.obj [.i o.kind,.s o.subj,.s o.case,.s o.field,.s o.to,.i o.val.kind,.i o.val.n,.s o.val.s,.i o.review,.s o.text,.s o.reason,.b o.glass] 39):=by rw[←eH12,ag _ _ n9_3.symm];exact b3
 replace b4:H12 i4=some (.obj [.i 0,.sl [] .full,.sl [] .full,.sl [] .full,.sl [] .full,.s [],.b false,.i 0,.sl [] .full,.sl [] .full,.sl [] .full,.sl [] .full,.i 0] 63):=by rw[←eH12,ag _ _ n9_4.symm];exact b4
 replace b5:H12 i5=some (.obj [.i 0,.v (.complex .f64 0 0),.b false,.i 0,.i 0,.s [],.b false,.i 0] 35):=by rw[←eH12,ag _ _ n9_5.symm];exact b5
 replace b6:H12 i6=some (.obj [.i 0,.s [],.s [],.s [],.s [],.i 0,.i 0,.s [],.i 0,.s [],.s [],.b false,.i 0,.v (.complex .f64 0 0),.b false,.sl [] .full] 68):=by rw[←eH12,ag _ _ n9_6.symm];exact b6
 replace b8:H12 i8=some (.obj [.v (.complex .f64 (hbit m.1) (hbit m.2)),.sl (ob.map br) .no] 107):=by rw[←eH12,ag _ _ n9_8.symm];exact b8
 replace b10:H12 i10=some (.obj [.i 0,.sl [] .full,.sl [] .full,.sl [] .full,.sl [] .full,.s [],.b false,.i 0,.sl [] .full,.sl [] .full,.sl [] .full,.sl [] .full,.i 0] 63):=by rw[←eH12,ag _ _ n10_9];exact b10
 replace b9:H12 i9=some (.obj [.i 0,.v (.complex .f64 (hbit m.1) (hbit m.2)),.b gl,.i 0,.i 0,.s [],.b false,.i 0] 35):=by rw[←eH12,ah]
 replace sg:Ab.Sub g H12:=by rw[←eH12];exact sg.put q9 _
 rw[eH12];clear eH12;obtain⟨dn,edn⟩:∃dn,(decide (m=bh)||gl)=dn:=⟨_,rfl⟩
 have hdn:sF s o=dn:=by unfold sF;rw[hmk,hgl];exact edn
 have pe:=(nb hm6.m9).pe;refine .cut (fun ρ H' =>H' =H12∧lk ρ 2=some (.ptr i2 0)∧lk ρ 3=some (.ptr i3 0)∧lk ρ 4=some (.ptr i4 0)∧lk ρ 5=some (.ptr i5 0)∧lk ρ 6=some (.ptr i6 0)∧lk ρ 8=some (.ptr i8 0)∧lk ρ 9=some (.ptr i9 0)∧lk ρ 10=some (.ptr i10 0)∧lk ρ 11=some (.b dn)∧lk ρ 13=some (.v (.int .i64 (jX s o).2))) ?_ ?_
 ·refine .vc hU hm ?_
  cases dp:(m==bh)
  ·have e1:decide (m=bh)=false:=decide_eq_false (by simpa using dp)
   rw[e1,Bool.false_or]at edn;simp -implicitDefEqProofs only[go_sem,r8,r9,b8,b9,pe,dp];refine⟨rfl,?_,?_,?_,?_,?_,?_,?_,?_,?_,?_⟩<;>simp -implicitDefEqProofs only[go_sem,r2,r3,r4,r5,r6,r8,r9,r10,r13,edn]
  ·have e1:decide (m=bh)=true:=decide_eq_true (by simpa using dp)
   rw[e1,Bool.true_or]at edn;simp -implicitDefEqProofs only[go_sem,r8,b8,pe,dp];refine⟨rfl,?_,?_,?_,?_,?_,?_,?_,?_,?_,?_⟩<;>simp -implicitDefEqProofs only[go_sem,r2,r3,r4,r5,r6,r8,r9,r10,r13,edn]
 clear r2 r3 r4 r5 r6 r8 r9 r10 r11 r12 r13
 rintro ρ H' ⟨rfl,r2,r3,r4,r5,r6,r8,r9,r10,r11,r13⟩
 have how:=fun G=>Np s hG.few G
 rw[hst]at how;refine .one hU hm ?_;simp -implicitDefEqProofs only[go_sem,r2,b2];refine(how _).mono fun r H13 ⟨y1,y2,y3,er,hown,hs13⟩=>?_
 subst er;rw[qN hpp];simp only[dZ];simp -implicitDefEqProofs only[go_sem,r10,hs13 _ _ b10];obtain⟨H14,e14⟩:∃H14,upd H13 i10 (some (.obj [.i s.tick,y1,y2,y3,.sl (s.roles.map eL) .no,.s pid,.b pset,.i palg,.sl (ptgt.map cR) .no,.sl (prules.map aB) .no,.sl (pkids.map aM) .no,.sl (pobls.map br) .no,.i s.version] 63))=H14:=⟨_,rfl⟩;have hS:GSt H' H14 i10 s s.cases.length:=⟨y1,y2,y3,dZ s.roles,by rw[←e14,ah,qN hpp];rfl,hown.keep (fun q hq _=>by rw[←e14];exact ag _ _ fun e=>by rw[e,b10]at hq;cases hq),by rw[b10];simp,fun i b hi hb=>by rw[←e14,ag _ _ hi];exact hs13 _ _ hb⟩
 rw[e14];clear e14;have sGB:=sg;have hroom:s.reviews.length≤1000:=hG.nrev;refine .cut (fun ρ H2=>GSt H' H2 i10 (if gl=true then cg s o o.reason else s) s.cases.length∧lk ρ 2=some (.ptr i2 0)∧lk ρ 3=some (.ptr i3 0)∧lk ρ 4=some (.ptr i4 0)∧lk ρ 5=some (.ptr i5 0)∧lk ρ 6=some (.ptr i6 0)∧lk ρ 8=some (.ptr i8 0)∧lk ρ 9=some (.ptr i9 0)∧lk ρ 10=some (.ptr i10 0)∧lk ρ 11=some (.b dn)∧lk ρ 13=some (.v (.int .i64 (jX s o).2))) ?_ ?_
 ·refine .vc hU hm ?_
  have c9:=hS.at n10_9.symm b9;have c3:=hS.at n10_3.symm b3;have hop:=Dq hS o o.reason ho.1 ab7;simp only[opA,opC]at hop;cases gl
  ·simp -implicitDefEqProofs only[go_sem,r9,c9]
   refine⟨hS,?_,?_,?_,?_,?_,?_,?_,?_,?_,?_⟩<;>simp -implicitDefEqProofs only[go_sem,r2,r3,r4,r5,r6,r8,r9,r10,r11,r13]
  ·simp -implicitDefEqProofs only[go_sem,r3,r9,r10,c9,c3]
   refine hop.mono fun r H3 h3=>?_
   simp -implicitDefEqProofs only[go_sem];refine⟨h3,?_,?_,?_,?_,?_,?_,?_,?_,?_,?_⟩<;>simp -implicitDefEqProofs only[go_sem,r2,r3,r4,r5,r6,r8,r9,r10,r11,r13]
 clear hS r2 r3 r4 r5 r6 r8 r9 r10 r11 r13
 rintro ρ H2 ⟨hS,r2,r3,r4,r5,r6,r8,r9,r10,r11,r13⟩
 have hbd:cW s o=dD (if dn=true then dU aQ (if gl=true then cg s o o.reason else s) o else(if gl=true then cg s o o.reason else s)) o ob dn:=by
  unfold cW;rw[hgl,hdn,hmk]
 have hO1:dj k (if gl=true then cg s o o.reason else s):=by
  split
  ·exact BO o _ hG.todj (by have:=hG.nr;omega)
  ·exact hG.todj
 have hc1:(if gl=true then cg s o o.reason else s).cases=s.cases:=by split<;>rfl
 have hp1:(if gl=true then cg s o o.reason else s).policy= .mk pid pset palg ptgt prules pkids pobls:=by split<;>exact hpp
 have hg1:rF 999 (if gl=true then cg s o o.reason else s):=by
  have h1:=hG.nr;have h2:=hG.nn;have h3:=fun c hc=>(hG.case c hc).log2
  split
  ·exact⟨fun c hc=>by have:=h3 c hc;omega,by simp only[cg,ab1,List.length_singleton];omega,by simp only[cg];omega⟩
  ·exact⟨fun c hc=>by have:=h3 c hc;omega,ab7,ab7⟩
 have hr1:bL (if gl=true then cg s o o.reason else s) o=0:=by
  split
  ·rename_i hgt
   have hgo:=xK hform (CT (hgl.trans hgt));rw[←hr0];unfold bL;have k5:o.kind≠5:=ab7;have k6:o.kind≠6:=ab7;have k8:o.kind≠8:=ab7;simp only[k5,k6,k8,if_false];rfl
  ·exact hr0
 obtain⟨s1,es1⟩:∃s1,(if gl=true then cg s o o.reason else s)=s1:=⟨_,rfl⟩
 rw[es1]at hS hbd hO1 hc1 hp1 hg1 hr1;have hre:o6 s o=⟨if dn=true then 0 else 12,m,gl,if(dn && o.kind==2 && !jM ob o.field)=true then eO (bw s.cases o.case).fields o.field else au,dn && o.kind==2 && jM ob o.field,0⟩:=by
  unfold o6;rw[hgl,hdn,hmk]
 have hve:=hO1.ver;have b9n:H' i9≠none:=by rw[b9];simp
 refine .cut (fun ρ H3=>lk ρ 2=some (.ptr i2 0)∧lk ρ 3=some (.ptr i3 0)∧lk ρ 4=some (.ptr i4 0)∧lk ρ 5=some (.ptr i5 0)∧lk ρ 6=some (.ptr i6 0)∧lk ρ 8=some (.ptr i8 0)∧lk ρ 9=some (.ptr i9 0)∧lk ρ 10=some (.ptr i10 0)∧lk ρ 11=some (.b dn)∧lk ρ 13=some (.v (.int .i64 (jX s o).2))∧∃(GB:Heap) (j:Nat),GSt GB H3 i10 (if dn=true then dU aQ s1 o else s1) j∧Ab.Sub g GB∧(dn=true→iG (if dn=true then dU aQ s1 o else s1).cases o.case<(if dn=true then dU aQ s1 o else s1).cases.length→o.kind≠6→j=iG (if dn=true then dU aQ s1 o else s1).cases o.case)∧GB i2=some (.obj [.i s.tick,.sl (s.cases.map cr) .no,.sl (s.reviews.map iK) .no,.sl (s.notices.map mN) .no,.sl (s.roles.map eL) .no,.s pid,.b pset,.i palg,.sl (ptgt.map cR) .no,.sl (prules.map aB) .no,.sl (pkids.map aM) .no,.sl (pobls.map br) .no,.i s.version] 63)∧GB i3=some (.obj [.i o.kind,.s o.subj,.s o.case,.s o.field,.s o.to,.i o.val.kind,.i o.val.n,.s o.val.s,.i o.review,.s o.text,.s o.reason,.b o.glass] 39)∧GB i4=some (.obj [.i 0,.sl [] .full,.sl [] .full,.sl [] .full,.sl [] .full,.s [],.b false,.i 0,.sl [] .full,.sl [] .full,.sl [] .full,.sl [] .full,.i 0] 63)∧GB i5=some (.obj [.i 0,.v (.complex .f64 0 0),.b false,.i 0,.i 0,.s [],.b false,.i 0] 35)∧GB i6=some (.obj [.i 0,.s [],.s [],.s [],.s [],.i 0,.i 0,.s [],.i 0,.s [],.s [],.b false,.i 0,.v (.complex .f64 0 0),.b false,.sl [] .full] 68)∧GB i8=some (.obj [.v (.complex .f64 (hbit m.1) (hbit m.2)),.sl (ob.map br) .no] 107)∧GB i9=some (.obj [.i (if dn=true then 0 else 12),.v (.complex .f64 (hbit m.1) (hbit m.2)),.b gl,.v (.int .i64 (if(dn && o.kind==2 && !jM ob o.field)=true then eO (bw s.cases o.case).fields o.field else au).kind),.v (.int .i64 (if(dn && o.kind==2 && !jM ob o.field)=true then eO (bw s.cases o.case).fields o.field else au).n),.s (if(dn && o.kind==2 && !jM ob o.field)=true then eO (bw s.cases o.case).fields o.field else au).s,.b (dn && o.kind==2 && jM ob o.field),.i 0] 35)) ?_ ?_
 ·refine .vc hU hm ?_
  have c9:=hS.at n10_9.symm b9;have c3:=hS.at n10_3.symm b3;have c8:=hS.at n10_8.symm b8;have c2:=hS.at n10_2.symm b2;cases dn
  ·simp -implicitDefEqProofs only[go_sem,r9,r11,c9]
   refine⟨?_,?_,?_,?_,?_,?_,?_,?_,?_,?_,upd H' i9 _,s.cases.length,hS.put n10_9.symm b9n _,sGB.put q9 _,fun e=>acD,afe,aff,afg,afh,afi,afj,ah ..⟩<;>simp -implicitDefEqProofs only[go_sem,r2,r3,r4,r5,r6,r8,r9,r10,r11,r13]
  ·obtain⟨z1,z2,z3,z4,hk10,hrd⟩:=hS.rd
   have sH2:Ab.Sub g H2:=hS.sub sGB q10;have hdo:=Kx hrd o hO1.few hO1.mF ho.2.2.2 hO1.FV ⟨hve.1,ab7⟩ (he.sub sH2);have hjj:=fun hx (_:o.kind≠6)=>Nf (o:=o) hO1 hr1 hx
   rw[qN hp1]at hk10 hdo;simp only[opA,opC]at hdo;simp -implicitDefEqProofs only[go_sem,r3,r10,r11,hk10,c3];refine hdo.mono fun r H3 ⟨hs3,j,hOS,hj⟩=>?_
   have hj:=hj hr1;obtain⟨x1,x2,x3,x4,er,hOP⟩:=hOS.parts;subst er;obtain⟨did,dset,dalg,dtgt,drules,dkids,dobls,hpd⟩:=LL (dU aQ s1 o).policy;rw[qN hpd];have k10:=hs3 _ _ hk10;obtain⟨H4,e4⟩:∃H4,upd H3 i10 (some (.obj [.v (.int .i64 (dU aQ s1 o).tick),x1,x2,x3,x4,.s did,.b dset,.i dalg,.sl (dtgt.map cR) .no,.sl (drules.map aB) .no,.sl (dkids.map aM) .no,.sl (dobls.map br) .no,.v (.int .i64 (dU aQ s1 o).version)] 63))=H4:=⟨_,rfl⟩;have hS4:GSt H' H4 i10 (dU aQ s1 o) j:=by
    obtain⟨_,_,_,_,_,_,hgk,hfr⟩:=hS;refine⟨x1,x2,x3,x4,by rw[←e4,ah,qN hpd],(hOP.keep fun q hq _=>by rw[←e4];exact ag _ _ fun e=>by rw[e,hk10]at hq;cases hq).bJ fun q hq=>?_,hgk,fun i b hi hb=>by rw[←e4,ag _ _ hi];exact hs3 _ _ (hfr i b hi hb)⟩
    cases hh:H' q with
    |none=>rfl
    |some b=>
     by_cases e:q=i10
     ·rw[e,hk10]at hq;cases hq
     ·rw[hfr q b e hh]at hq;cases hq
   have d9:=hS4.at n10_9.symm b9;have d3:=hS4.at n10_3.symm b3;have d8:=hS4.at n10_8.symm b8;have d2:=hS4.at n10_2.symm b2;have hjx:true=true→iG (dU aQ s1 o).cases o.case<(dU aQ s1 o).cases.length→o.kind≠6→j=iG (dU aQ s1 o).cases o.case:=fun _ hx h6=>hj.trans (hjj hx h6)
   have hhi:=fun G=>KP ob ab7 o.field G
   simp only[aA]at hhi;have hca:=fun G=>Bp (rdS G s) o.case hG.few
   rw[hst]at hca;have hcf:(bw s.cases o.case).fields.length≤1000000000:=by
    unfold bw;split
    ·by_cases hlt:findD s.cases o.case<s.cases.length
     ·rw[show s.cases.getD (findD s.cases o.case) ou=s.cases[findD s.cases o.case] by simp[List.getD,List.getElem?_eq_getElem hlt]]
      have:=(hG.case _ (ab2 hlt)).nfields;omega
     ·rw[show s.cases.getD (findD s.cases o.case) ou=ou by simp[List.getD,List.getElem?_eq_none (Nat.le_of_not_lt hlt)]]
      exact afa
    ·exact afa
   have hfd:=fun G=>CJ (rdC G (bw s.cases o.case)) o.field hcf
   simp only[cr,mU,gv,rY]at hca hfd;simp -implicitDefEqProofs only[go_sem,r3,r10,k10];rw[e4];clear e4;cases d7:(o.kind==2)
   ·simp -implicitDefEqProofs only[go_sem,r3,r9,d9,d3,d7,n9_3.symm]
    refine⟨?_,?_,?_,?_,?_,?_,?_,?_,?_,?_,upd H' i9 _,j,hS4.put n10_9.symm b9n _,sGB.put q9 _,(fun _=>hjx rfl),afe,aff,afg,afh,afi,afj,ah ..⟩<;>simp -implicitDefEqProofs only[go_sem,r2,r3,r4,r5,r6,r8,r9,r10,r11,r13]
   ·simp -implicitDefEqProofs only[go_sem,r3,r8,d3,d8,d7]
    refine(hhi _).pthen ?_;cases hh:jM ob o.field
    ·simp -implicitDefEqProofs only[go_sem,r2,r3,r9,d9,d3,d2,d7,n9_2.symm,n9_3.symm]
     refine(hca _).pthen ?_;simp -implicitDefEqProofs only[go_sem];intro i14 h14;have t9:i14≠i9:=fun e=>by rw[e,ah]at h14;cases h14
     have t3:i14≠i3:=fun e=>by rw[e,ag _ _ n9_3.symm,d3]at h14;cases h14
     simp -implicitDefEqProofs only[go_sem,r3,d3,n9_3.symm,t3.symm];refine(hfd _).pthen ?_;simp -implicitDefEqProofs only[go_sem,r9,t9.symm,aS];refine⟨?_,?_,?_,?_,?_,?_,?_,?_,?_,?_,upd (upd H' i9 _) i9 _,j,((hS4.put n10_9.symm b9n _).same (.aj h14)).put n10_9.symm (by rw[ah];simp) _,(sGB.put q9 _).put q9 _,(fun _=>hjx rfl),by rw[ag _ _ n9_2.symm,ag _ _ n9_2.symm];exact b2,by rw[ag _ _ n9_3.symm,ag _ _ n9_3.symm];exact b3,by rw[ag _ _ n9_4.symm,ag _ _ n9_4.symm];exact b4,by rw[ag _ _ n9_5.symm,ag _ _ n9_5.symm];exact b5,by rw[ag _ _ n9_6.symm,ag _ _ n9_6.symm];exact b6,by rw[ag _ _ n9_8.symm,ag _ _ n9_8.symm];exact b8,ah ..⟩<;>simp -implicitDefEqProofs only[go_sem,r2,r3,r4,r5,r6,r8,r9,r10,r11,r13]
    ·simp -implicitDefEqProofs only[go_sem,r3,r9,d9,d3,d7,n9_3.symm]
     refine⟨?_,?_,?_,?_,?_,?_,?_,?_,?_,?_,upd H' i9 _,j,hS4.put n10_9.symm b9n _,sGB.put q9 _,(fun _=>hjx rfl),afe,aff,afg,afh,afi,afj,ah ..⟩<;>simp -implicitDefEqProofs only[go_sem,r2,r3,r4,r5,r6,r8,r9,r10,r11,r13]
 clear hS b2 b3 b4 b5 b6 b8 b9 b10 r2 r3 r4 r5 r6 r8 r9 r10 r11 r13
 rintro ρ H3 ⟨r2,r3,r4,r5,r6,r8,r9,r10,r11,r13,GB,j,hS,sG2,hjx,b2,b3,b4,b5,b6,b8,b9⟩
 have hO2:dj (k+1) (if dn=true then dU aQ s1 o else s1):=by
  split
  ·exact pg o hO1
  ·exact {hO1 with ver:=⟨hO1.ver.1,by have:=hO1.ver.2;omega⟩}
 obtain⟨s2,es2⟩:∃s2,(if dn=true then dU aQ s1 o else s1)=s2:=⟨_,rfl⟩
 rw[es2]at hS hjx hbd hO2;have hdu:=EJ hS o ho.1 ob ab7 dn (by have:=hO2.ncases;omega) ⟨fun c hc=>by have:=(hO2.case c hc).log2;omega,hO2.nrev,hO2.nnot⟩ hjx
 rw[←hbd]at hdu;simp only[opA,opC,aA]at hdu;have c3:=hS.at n10_3.symm b3;have c8:=hS.at n10_8.symm b8;refine .one hU hm ?_;simp -implicitDefEqProofs only[go_sem,r3,r8,r10,r11,c3,c8];refine hdu.mono fun r H4 h4=>?_
 simp -implicitDefEqProofs only[go_sem];clear c3 c8 hdu hS;have hat:(jX s o).2=0:=by
  unfold jX at ee⊢;split
  ·rename_i hc;rw[if_pos hc]at ee;exact Jb ee
  ·rfl
 have hbl:(cW s o).cases.length≤1000000:=by
  rw[hbd,xw];have:=hO2.ncases;omega
 obtain⟨x1,x2,x3,x4,k10,hOP,_,_⟩:=id h4;have hov:=LB hOP.rd hbl;obtain⟨did,dset,dalg,dtgt,drules,dkids,dobls,hpd⟩:=LL (cW s o).policy;have hfz:∀H5,(∀q,GB q=none→H5 q=H4 q)→Frz g H5 (.agg (stC (cW s o) x1 x2 x3 x4)) (cK (cW s o)):=fun H5 hq=>((hOP.keep fun q hg _=>hq q hg).bJ fun q hg=>by
  cases hh:g q with
  |none=>rfl
  |some b=>rw[sG2 _ _ hh]at hg;cases hg).frz
 rw[qN hpd]at k10 hov hfz;have c2:=h4.at n10_2.symm b2;have c3:=h4.at n10_3.symm b3;have c4:=h4.at n10_4.symm b4;have c5:=h4.at n10_5.symm b5;have c6:=h4.at n10_6.symm b6;have c8:=h4.at n10_8.symm b8;have c9:=h4.at n10_9.symm b9;have sg4:Ab.Sub g H4:=h4.sub sG2 q10;refine .one hU hm ?_;simp -implicitDefEqProofs only[go_sem,r10,k10];refine hov.pthen ?_;cases dov:rI (cW s o)
 case true=>
  simp -implicitDefEqProofs only[go_sem,r2,r4,r5,r6,r13];exact⟨0,6,0,sg4,c2,c4,c5,c6,rfl,by rw[hat],by unfold aP;rw[if_neg (by rw[ee];simp),if_pos dov]⟩
 have hgd:aP s o=(cW s o,⟨if dn=true then 0 else 12,m,gl,if(dn && o.kind==2 && !jM ob o.field)=true then eO (bw s.cases o.case).fields o.field else au,dn && o.kind==2 && jM ob o.field,0⟩,⟨o,s.version,m,gl,ob⟩,0):=by
  unfold aP;rw[if_neg (by rw[ee];simp),if_neg (by rw[dov];decide),hre,hmk,hgl]
 simp -implicitDefEqProofs only[go_sem];have p2:=(bD (H:=H4) (l:=[i2,i3,i8,i9,i10]) (show i2∈ [i2,i3,i8,i9,i10] by simp)).trans c2
 have p3:=(bD (H:=H4) (l:=[i2,i3,i8,i9,i10]) (show i3∈ [i2,i3,i8,i9,i10] by simp)).trans c3
 have p8:=(bD (H:=H4) (l:=[i2,i3,i8,i9,i10]) (show i8∈ [i2,i3,i8,i9,i10] by simp)).trans c8
 have p9:=(bD (H:=H4) (l:=[i2,i3,i8,i9,i10]) (show i9∈ [i2,i3,i8,i9,i10] by simp)).trans c9
 have p10:=(bD (H:=H4) (l:=[i2,i3,i8,i9,i10]) (show i10∈ [i2,i3,i8,i9,i10] by simp)).trans k10
 have t4:pick H4 [i2,i3,i8,i9,i10] i4=none:=by simp[pick,n4_2,n4_3,n8_4.symm,n9_4.symm,n10_4.symm]
 have t5:pick H4 [i2,i3,i8,i9,i10] i5=none:=by simp[pick,n5_2,n5_3,n8_5.symm,n9_5.symm,n10_5.symm]
 have t6:pick H4 [i2,i3,i8,i9,i10] i6=none:=by simp[pick,n6_2,n6_3,n8_6.symm,n9_6.symm,n10_6.symm]
 refine .one hU hm ?_;simp -implicitDefEqProofs only[go_sem];refine .calls (pick H4 [i2,i3,i8,i9,i10]) [0,1,2,3,4,5,6,7,8,9,10,11,12,13,14,15] bR ace rfl ?_;simp -implicitDefEqProofs only[go_sem,r2,r3,r4,r5,r6,r8,r9,r10,p2,p3,p8,p9,p10,c4,c5,c6,n5_4,n5_4.symm,n6_4,n6_4.symm,n6_5,n6_5.symm];refine⟨bR.put t4 _,(bR.put t4 _).put t5 _,((bR.put t4 _).put t5 _).put t6 _,?_⟩;refine .mk _ (.refl _) (.refl _) ⟨((sg4.put q4 _).put q5 _).put q6 _,_,?_,rfl⟩;rw[hgd,←qN hpd];exact Aj (S:=cW s o) ⟨if dn=true then 0 else 12,m,gl,if(dn && o.kind==2 && !jM ob o.field)=true then eO (bw s.cases o.case).fields o.field else au,dn && o.kind==2 && jM ob o.field,0⟩ ⟨o,s.version,m,gl,ob⟩ 0 (by
  rw[qN hpd];exact hfz _ fun q hq=>by
   have x6:q≠i6:=fun e=>by rw[e,b6]at hq;cases hq
   have x5:q≠i5:=fun e=>by rw[e,b5]at hq;cases hq
   have x4:q≠i4:=fun e=>by rw[e,b4]at hq;cases hq
   rw[ag _ _ x6,ag _ _ x5,ag _ _ x4]) .no
end Go.Proofs.YtfdgemhnlennbaaGreatDoor
namespace Go.Ab
open Go
theorem Ox(n:Nat)(hn:n<18446744073709551616):IntKind.u64.wrap (n:Int)=n:=Pv .u64 n rfl afM
theorem UM(n:Int):IntKind.u64.wrap n=((n % 18446744073709551616).toNat:Int):=by
 grind [Int.emod_nonneg,Int,IntKind.wrap,IntKind.signed,IntKind.bits]
theorem Pw(n:Nat):IntKind.u64.wrap (n:Int)=((n % 18446744073709551616:Nat):Int):=by
 rfl
theorem Eu(a b:Nat)(f:BitVec 64→BitVec 64→BitVec 64):IntKind.u64.wrap (((f (BitVec.ofInt IntKind.u64.bits (a:Int)) (BitVec.ofInt IntKind.u64.bits (b:Int))).toNat:Nat):Int)=((f (BitVec.ofNat 64 a) (BitVec.ofNat 64 b)).toNat:Int):=by
 exact Ox _ (f _ _).isLt
theorem NV(a b k:Nat)(ha:a<2 ^ k)(hlt:a+b*2 ^ k<18446744073709551616):(BitVec.ofNat 64 a|||BitVec.ofNat 64 (b*2 ^ k)).toNat=a+b*2 ^ k:=by
 exact agV
theorem NP(n:Nat)(hn:n<18446744073709551616):(BitVec.ofNat 64 18446744073709551615 ^^^ BitVec.ofNat 64 n).toNat=18446744073709551615 - n:=by
 have e:BitVec.ofNat 64 18446744073709551615 ^^^ BitVec.ofNat 64 n= ~~~ BitVec.ofNat 64 n:=by
  rfl
 rw[e,BitVec.toNat_not,BitVec.toNat_ofNat,Nat.mod_eq_of_lt ab7]
section
variable {U : TypeId → TI} {ty : TypeId} {K : AV → Prop}
@[go_sem high] theorem VY(n:Nat)(hn:n<18446744073709551616):unA .xor (.v (.int .u64 (n:Int))) K=K (.v (.int .u64 ((18446744073709551615 - n:Nat):Int))):=by
 have h:=(Eu 18446744073709551615 n (· ^^^ ·)).trans (congrArg (fun z:Nat=>(z:Int)) (NP n hn))
 exact(B1 ..).trans (congrArg (fun z=>K (.v (.int .u64 z))) h)
@[go_sem high] theorem Vy(n:Int)(h1: -9223372036854775808≤n)(h2:n≤9223372036854775807):unA .xor (.i n) K=K (.i (-n - 1)):=by
 have e:(BitVec.ofInt 64 (-1) ^^^ BitVec.ofInt 64 n)= ~~~ BitVec.ofInt 64 n:=by
  rfl
 have e2:(((BitVec.ofInt 64 (-1) ^^^ BitVec.ofInt 64 n).toNat:Nat):Int)=(-n - 1) % 18446744073709551616:=by
  grind [BitVec.toNat_not,BitVec.ofInt,BitVec.toNat_ofInt]
 have h:IntKind.i64.wrap (((BitVec.ofInt 64 (-1) ^^^ BitVec.ofInt 64 n).toNat:Nat):Int)= -n - 1:=by
  grind [IntKind.wrap,IntKind.signed,IntKind.bits]
 exact(B1 ..).trans (congrArg (fun z=>K (.i z)) h)
theorem u64_and(n k:Nat)(hn:n<18446744073709551616)(hk:k≤63):cj U .and ty (.v (.int .u64 (n:Int))) (.v (.int .u64 ((2 ^ k - 1:Nat):Int))) K=K (.v (.int .u64 ((n % 2 ^ k:Nat):Int))):=by
 have h63:2 ^ k≤2 ^ 63:=Nat.pow_le_pow_right acd hk;have e:(BitVec.ofNat 64 n &&& BitVec.ofNat 64 (2 ^ k - 1)).toNat=n % 2 ^ k:=by
  grind [BitVec.toNat_and,BitVec.toNat_ofNat,Nat.mod_eq_of_lt,Nat.and_two_pow_sub_one_eq_mod]
 have h:=(Eu n (2 ^ k - 1) (· &&& ·)).trans (congrArg (fun z:Nat=>(z:Int)) e)
 exact(Kc ..).trans (congrArg (fun z=>K (.v (.int .u64 z))) h)
@[go_sem high] theorem u64_or(a b k:Nat)(ha:a<2 ^ k)(hlt:a+b*2 ^ k<18446744073709551616):cj U .or ty (.v (.int .u64 (a:Int))) (.v (.int .u64 ((b*2 ^ k:Nat):Int))) K=K (.v (.int .u64 ((a+b*2 ^ k:Nat):Int))):=by
 have h:=(Eu a (b*2 ^ k) (· ||| ·)).trans (congrArg (fun z:Nat=>(z:Int)) (NV a b k ha hlt))
 exact(Tc ..).trans (congrArg (fun z=>K (.v (.int .u64 z))) h)
theorem BZ(n k:Nat)(kk:IntKind)(hk:k≤63):cj U .shr ty (.v (.int .u64 (n:Int))) (.v (.int kk (k:Int))) K=K (.v (.int .u64 ((n / 2 ^ k:Nat):Int))):=by
 grind [Ke,min,Int,IntKind.bits,Int.fdiv_eq_ediv_of_nonneg,Int.le_of_lt,Int.pow_pos]
@[go_sem high] theorem Oo(n k:Nat)(kk:IntKind)(hk:k≤63):cj U .shl ty (.v (.int .u64 (n:Int))) (.v (.int kk (k:Int))) K=K (.v (.int .u64 ((n*2 ^ k % 18446744073709551616:Nat):Int))):=by
 rw[OM];have:min (k:Int).toNat IntKind.u64.bits=k:=afM;rw[this,show((n:Int)*2 ^ k)=((n*2 ^ k:Nat):Int) by simp,Pw]
 exact propext ⟨fun h=>h.2,fun h=>⟨Int.natCast_nonneg k,h⟩⟩
@[go_sem high] theorem Uw(m:Nat):cj U .shl ty (.v (.int .u64 (m:Int))) (.v (.int .u64 1)) K=K (.v (.int .u64 ((m*2 % 18446744073709551616:Nat):Int))):=Oo m 1 .u64 acd
@[go_sem high] theorem Ux(m:Nat):cj U .shr ty (.v (.int .u64 (m:Int))) (.v (.int .u64 1)) K=K (.v (.int .u64 ((m / 2:Nat):Int))):=BZ m 1 .u64 acd
@[go_sem high] theorem Uy(m:Nat):cj U .shr ty (.v (.int .u64 (m:Int))) (.v (.int .u64 7)) K=K (.v (.int .u64 ((m / 128:Nat):Int))):=BZ m 7 .u64 acd
@[go_sem high] theorem Uz(m:Nat):cj U .shr ty (.v (.int .u64 (m:Int))) (.v (.int .u64 8)) K=K (.v (.int .u64 ((m / 256:Nat):Int))):=BZ m 8 .u64 acd
@[go_sem high] theorem Uv(m:Nat)(hm:m<18446744073709551616):cj U .and ty (.v (.int .u64 (m:Int))) (.v (.int .u64 1)) K=K (.v (.int .u64 ((m % 2:Nat):Int))):=u64_and m 1 hm acd
@[go_sem high] theorem Rv(m:Nat)(hm:m<18446744073709551616):cj U .and ty (.v (.int .u64 (m:Int))) (.v (.int .u64 127)) K=K (.v (.int .u64 ((m % 128:Nat):Int))):=u64_and m 7 hm acd
@[go_sem high] theorem Rw(m:Nat)(hm:m<18446744073709551616):cj U .and ty (.v (.int .u64 (m:Int))) (.v (.int .u64 255)) K=K (.v (.int .u64 ((m % 256:Nat):Int))):=u64_and m 8 hm acd
@[go_sem high] theorem JG(m:Nat)(hm:m<128):cj U .or ty (.v (.int .u64 (m:Int))) (.v (.int .u64 128)) K=K (.v (.int .u64 ((m+128:Nat):Int))):=u64_or m 1 7 hm ab7
theorem wu8(n:Nat):IntKind.u8.wrap (n:Int)=((UInt8.ofNat n).toNat:Int):=by
 rfl
@[go_sem high] theorem SR(c:UInt8):cj U .and ty (.v (.int .u8 (c.toNat:Int))) (.v (.int .u8 127)) K=K (.v (.int .u8 ((c.toNat % 128:Nat):Int))):=by
 have hc:=c.toNat_lt;have e:(BitVec.ofNat 8 c.toNat &&& BitVec.ofNat 8 127).toNat=c.toNat % 128:=by
  rw[BitVec.toNat_and,BitVec.toNat_ofNat,BitVec.toNat_ofNat,Nat.mod_eq_of_lt ab7,Nat.mod_eq_of_lt ab7];exact Nat.and_two_pow_sub_one_eq_mod c.toNat 7
 have h:IntKind.u8.wrap (((BitVec.ofInt IntKind.u8.bits (c.toNat:Int) &&& BitVec.ofInt IntKind.u8.bits 127).toNat:Nat):Int)=((c.toNat % 128:Nat):Int):=by
  grind [IntKind.wrap,IntKind.signed,IntKind.bits]
 exact(Kc ..).trans (congrArg (fun z=>K (.v (.int .u8 z))) h)
end
end Go.Ab
namespace Go.Proofs.YtfdgemhnlennbaaGreatDoor
open Go Go.Ab Go.Bf
abbrev kO(h h' :Heap)(y:AV)(l:Txt):Prop:=Acc U 5 h h' y (l.map aK)
theorem u5n:(U 5).sz≠0:=acd
theorem W3:(U 5).bytes≠0:=acd
theorem kO.frz{g h:Heap}{y:AV}{l:Txt}(ha:kO g h y l):Frz g h y (.sl (l.map aK) .no):=by
 obtain⟨q,rfl⟩:=Acc.row ha;refine .sl _ _ _ rfl ab7 fun i h1 h2 j h3 h4=> .keep _ ?_
 simp only[abY,aK,AV.cells,List.getElem_singleton];exact aem
theorem kO.pure{f:FuncId}{args:List AV}{h:Heap}{l:Txt}(hf:∀g,Ab.Sub h g→ai Tryz.prog f args g fun r h' =>kO g h' r l):ai Tryz.prog f args h fun r h' =>r= .sl (l.map aK) .no∧h' =h:=
 ai.freeze fun g hg _=>(hf g hg).mono fun r h' hr=>⟨hr.1,_,kO.frz hr,rfl⟩
theorem kO.app{g h:Heap}{y v:AV}{l m:Txt}{Q:AV→Heap→Prop}(ha:kO g h y l)(hsrc:∀k:List AV→Prop,k (m.map aK)→iu U 5 h v k)(hlen:l.length+m.length≤140737488355328)
  (hk:∀y' h',kO g h' y' (l++m)→Q y' h'):apK U h y v Q (.slice 5):=
 Acc.app ha u5n W3 hsrc (by grind [u5,jy]) (by grind [u5,jy]) (by grind [Ru]) fun y' h' hy _=>hk y' h' ab8
theorem zW(y:AV)(l:Txt)(h:Heap)(hb:By h y l)(hl:l.length≤140737488355328):
  ai Tryz.prog 65 [y] h fun r h' =>kO h h' r l:=by
 refine ab6 Tryz.func65 8 [.tmp 2] fun hwf=>?_
 simp only[go_sem];refine hb.Ub fun b hbn=>?_
 simp only[go_sem];refine nP.intro (fun e=>?_) (fun e=>?_)
 ·have hl0:l= []:=Classical.byContradiction fun hh=>by grind
  subst hl0;simp only[go_sem];exact .same (.refl _) (Acc.full (.refl _))
 ·simp only[go_sem]
  rw[hb.src u5];simp only[go_sem];refine⟨ab7,fun hn=>?_,fun hn=>?_⟩
  ·have hl0:l= []:=by simp_all
   subst hl0;simp only[go_sem];exact .same (.refl _) (Acc.full (.refl _))
  ·refine .own fun id hid=>?_
   simp only[go_sem];exact .same (.refl _) ⟨(Ab.Sub.refl h).new hid _,.inr ⟨id,hid,rfl,by rw[ah,u5,abX]⟩⟩
theorem RE(n:Int)(hn:i64 n):∃m:Nat,IntKind.u64.wrap n=(m:Int)∧m<18446744073709551616∧(0≤n→m*2 % 18446744073709551616=zig n)∧(n<0→18446744073709551615 - m*2 % 18446744073709551616=zig n):=by
 unfold i64 at hn;refine⟨(n % 18446744073709551616).toNat,UM n,ab7,fun h=>?_,fun h=>?_⟩<;>unfold zig
 ·grind
 grind
theorem GQ(y:AV)(l:Txt)(n:Int)(h:Heap)(hb:By h y l)(hl:l.length≤1000000)(hn:i64 n):
  ai Tryz.prog 147 [y,.i n] h fun r h' =>kO h h' r (l++iH n):=by
 obtain⟨m,hm0,hm2,hm3,hm4⟩:=RE n hn;have hz:=MB hn;have hz64:=Ei hn;refine ai.of_wp hU Tryz.func147 rfl acr 32 rfl [.tmp 4] rfl (abW rfl) ?_;refine .cut (fun ρ g=>g=h∧lk ρ 0=some y∧lk ρ 1=some (.i n)) (.vc hU hm ?_) ?_
 ·simp only[go_sem]
  refine⟨rfl,?_,?_⟩<;>simp only[go_sem]
 rintro ρ g ⟨rfl,r0,r1⟩
 refine .cut (fun ρ g' =>g' =g∧lk ρ 0=some y∧lk ρ 1=some (.i n)∧lk ρ 5=some (.v (.int .u64 ((m*2 % 18446744073709551616:Nat):Int)))) (.vc hU hm ?_) ?_
 ·simp only[go_sem,r0,r1,hm0]
  refine⟨rfl,?_,?_,?_⟩<;>simp only[go_sem,r0,r1]
 clear r0 r1
 rintro ρ g' ⟨rfl,r0,r1,r5⟩
 refine .cut (fun ρ g=>g=g'∧lk ρ 0=some y∧lk ρ 5=some (.v (.int .u64 ((zig n:Nat):Int)))) (.vc hU hm ?_) ?_
 ·cases d1:decide (n<0)
  ·have h0:=ab0 d1
   simp only[go_sem,r0,r1,r5,d1,hm3 ab7];rw[←hm3 ab7]at*;refine⟨rfl,?_,?_⟩<;>simp only[go_sem,r0,r5]
  ·have h0:=abZ d1
   simp only[go_sem,r0,r1,r5,d1,hm4 h0,show m*2 % 18446744073709551616<18446744073709551616 from ab7]
   refine⟨rfl,?_,?_⟩<;>simp only[go_sem,r0]
 clear r0 r1 r5 hm3 hm4
 rintro ρ g ⟨rfl,r0,r5⟩
 refine .vc hU hm ?_;simp only[go_sem,r0,r5];refine(zW y l g hb ab7).mono fun r h1 ha=>?_
 simp only[go_sem,r0,r5];refine .intro (fun k ρ h' =>∃(v:Nat) (o:Txt) (z:AV),kO g h' z (l++o)∧o++oo k v=iH n∧v<128 ^ k∧v<18446744073709551616∧0<k∧o.length≤10∧lk ρ 5=some (.v (.int .u64 (v:Int)))∧lk ρ 6=some z) 10 ?_ ?_
 ·refine⟨zig n,[],r,ab8,rfl,hz,hz64,acd,aci,?_,?_⟩<;>simp only[go_sem,r5]
 clear r0 r5
 rintro k ρ h' ⟨v,o,z,ha,ho,hv,hv64,hk,hol,r5,r6⟩
 obtain⟨k,rfl⟩:∃j,k=j+1:=⟨k - 1,ab7⟩;have hlo:=congrArg List.length ho;rw[ab1]at hlo;have hnl:=iI n;cases d1:decide ((128:Int)≤(v:Int))
 ·have h0:=ab0 d1
  have e:oo (k+1) v= [UInt8.ofNat v]:=by unfold oo;grind
  simp only[go_sem,r5,r6,d1,wu8];refine kO.app ha (m:=[UInt8.ofNat v]) (fun _ hk=>hk) ab8 fun z' h2 ha' =>?_
  simp only[go_sem];refine .same (.refl _) ?_;rw[←ho,e,←List.append_assoc];exact ha'
 ·have h0:=abZ d1
  have e:oo (k+1) v=UInt8.ofNat (v % 128+128)::oo k (v / 128):=by conv=>lhs;unfold oo;rw[if_neg ab7]
  rw[e]at hlo ho;simp only[List.length_cons]at hlo;have hk1:0<k:=by
   grind
  simp only[go_sem,r5,r6,d1,hv64,JG _ (Nat.mod_lt v (show 128>0 by decide)),wu8]
  refine kO.app ha (m:=[UInt8.ofNat (v % 128+128)]) (fun _ hk=>hk) ab8 fun z' h2 ha' =>?_
  simp only[go_sem,r5];refine⟨k,ab7,v / 128,o++ [UInt8.ofNat (v % 128+128)],z',?_,?_,?_,ab7,hk1,?_,?_,?_⟩
  ·grind
  ·grind
  ·omega
  ·grind
  ·rfl
  rfl
theorem BL(y:AV)(l:Txt)(n:Int)(h:Heap)(hb:By h y l)(hl:l.length≤1000000)(hn:i64 n):
  ai Tryz.prog 147 [y,.i n] h fun r h' =>r= .sl ((l++iH n).map aK) .no∧h' =h:=
 kO.pure fun g hg=>GQ y l n g (hb.sub hg) hl hn
theorem Mf(y:AV)(l s:Txt)(h:Heap)(hb:By h y l)(hl:l.length≤1000000)(hs:s.length≤1000000):
  ai Tryz.prog 148 [y,.s s] h fun r h' =>kO h h' r (l++cZ s):=by
 have hn:i64 (s.length:Int):=⟨ab7,ab7⟩;refine ab6 Tryz.func148 11 [.tmp 4] fun hwf=>?_
 simp only[go_sem];refine(GQ y l s.length h hb hl hn).mono fun r h' ha=>?_
 simp only[go_sem];have hnl:=iI s.length;refine kO.app ha (m:=s) (fun _ hk=>(Rk ..).mpr ⟨acr,u5,hk⟩) ab8 fun z' h2 ha' =>?_
 simp only[go_sem];refine .same (.refl _) ?_;unfold cZ;rw[←List.append_assoc];exact ha'
theorem wN(y:AV)(l s:Txt)(h:Heap)(hb:By h y l)(hl:l.length≤1000000)(hs:s.length≤1000000):
  ai Tryz.prog 148 [y,.s s] h fun r h' =>r= .sl ((l++cZ s).map aK) .no∧h' =h:=
 kO.pure fun g hg=>Mf y l s g (hb.sub hg) hl hs
theorem G0(y:AV)(l:Txt)(v:bz)(h:Heap)(hb:By h y l)(hl:l.length≤900000)(hk:i64 v.kind)(hn:i64 v.n)(hs:v.s.length≤1000000):
  ai Tryz.prog 149 [y,aS v] h fun r h' =>r= .sl ((l++nN v).map aK) .no∧h' =h:=by
 have hnl:=iI v.kind;have hl2:(l++iH v.kind).length≤1000000:=ab8;refine ab6 Tryz.func149 20 [.tmp 4] fun hwf=>?_
 simp only[go_sem,aS];intro id hid;simp only[go_sem];refine(BL y l v.kind _ (hb.new hid) ab7 hk).pthen ?_;simp only[go_sem];refine(yW v.kind _).pthen ?_;simp only[go_sem];cases d1:(v.kind==3||v.kind==5)
 ·have e:¬(v.kind=3∨v.kind=5):=by grind
  simp only[go_sem];refine(BL (.sl ((l++iH v.kind).map aK) .no) (l++iH v.kind) v.n _ (.sl _ _) hl2 hn).pthen ?_;simp only[go_sem];refine .mk _ (.refl _) (.aj hid) ⟨?_,rfl⟩;unfold nN;rw[if_neg e,List.append_assoc];rfl
 ·have e:v.kind=3∨v.kind=5:=by grind
  simp only[go_sem];refine(wN (.sl ((l++iH v.kind).map aK) .no) (l++iH v.kind) v.s _ (.sl _ _) hl2 hs).pthen ?_;simp only[go_sem];refine .mk _ (.refl _) (.aj hid) ⟨?_,rfl⟩;unfold nN;rw[if_pos e,List.append_assoc];rfl
theorem D8(b:Bool)(h:Heap):ai Tryz.prog 145 [.b b] h fun r h' =>r=aS (dJ b)∧h' =h:=by
 refine ab6 Tryz.func145 8 [.cell 2 33] fun hwf=>?_
 simp only[go_sem];intro i1 h1;simp only[go_sem];intro i2 h2;have hne:=aH h2;have n2:=aC h2;cases b
 ·exact ahp
 ·exact ahp
def RO(s:RS):Blk:=.obj [.sl (s.b.map aK) .no,.i (s.at_:Int),.b s.bad] 273
def WfR(s:RS):Prop:=s.at_≤s.b.length∧s.b.length≤1000000
def RC(f:FuncId)(args:List AV)(s:RS)(R:AV)(s' :RS):Prop:=∀(h:Heap) (id:Nat),h id=some (RO s)→ai Tryz.prog f (.ptr id 0::args) h fun r h' =>r=R∧h' =upd h id (some (RO s'))
theorem RC.go{f:FuncId}{args:List AV}{s s' :RS}{R:AV}(hc:RC f args s R s'){h:Heap}{id:Nat}{Q:AV→Heap→Prop}(hid:h id=some (RO s))(k:Q R (upd h id (some (RO s')))):ai Tryz.prog f (.ptr id 0::args) h Q:=
 (hc h id hid).mono fun r h' ⟨e1,e2⟩=>aeG
theorem yE{s:RS}{a:Nat}(h:WfR s):WfR (lP s a):=by
 unfold lP;split
 ·rename_i hc
  exact⟨by have:=h.1;show a≤s.b.length;omega,h.2⟩
 omega
theorem yF:∀(f i u:Nat) (l:Txt),(qF f i u l).2≤i+l.length∧((qF f i u l).2=0∨i<(qF f i u l).2)
 |0,_,_,_=>⟨Nat.zero_le _,.inl rfl⟩
 |_+1,_,_,[]=>⟨Nat.zero_le _,.inl rfl⟩
 |f+1,i,u,c::r=>by
  unfold qF;split
  ·omega
  ·split
   ·simp
   ·obtain⟨h1,h2⟩:=yF f (i+1) (u+c.toNat % 128*128 ^ i) r
    grind
theorem lI{s:RS}{lo hi:Int}(h:WfR s):WfR (rIn s lo hi).2:=by
 unfold rIn;split
 ·exact h
 ·simp only
  split
  ·exact yE h
  ·have:=(yF 10 0 0 (s.b.drop s.at_)).1
   exact⟨ab8,h.2⟩
theorem oE(s:RS)(a:Nat):RC 188 [.i (a:Int)] s (.tup []) (lP s a):=fun h id hid=>by
 refine ab6 Tryz.func188 28 [] fun hwf=>?_
 have g:=hid;have d0:decide ((0:Int)≤(a:Int))=true:=decide_eq_true ab7;unfold RO at g;cases d1:s.bad
 ·rw[d1]at g
  cases d2:decide ((a:Int)≤(s.at_:Int))
  ·have h2:=ab0 d2
   simp only[go_sem,g,d0,d2];exact .mk _ (.refl _) (.refl _) ⟨rfl,by simp_all [lP,if_neg,bF]⟩
  ·have h2:=abZ d2
   simp only[go_sem,g,d0,d2];exact .mk _ (.refl _) (.refl _) ⟨rfl,by rw[lP,if_pos ⟨d1,ab7⟩];rfl⟩
 ·rw[d1]at g
  simp only[go_sem,g];exact .mk _ (.refl _) (.refl _) ⟨rfl,by simp_all [lP,if_neg,bF]⟩
theorem Ka(s:RS):RC 189 [] s (.i (s.at_:Int)) s:=fun h id hid=>by
 refine ab6 Tryz.func189 7 [.tmp 2] fun hwf=>?_
 have g:=hid;unfold RO at g;simp only[go_sem,g];exact aeM
theorem zh(s:RS):RC 191 [] s (.i (if s.bad then 7 else 0)) s:=fun h id hid=>by
 refine ab6 Tryz.func191 7 [.tmp 2] fun hwf=>?_
 have g:=hid;unfold RO at g;cases d1:s.bad<;>rw[d1]at g<;>simp only[go_sem,g]<;>exact .mk _ (.refl _) (.refl _) ⟨rfl,(bF hid).symm⟩
theorem Qv(s:RS):RC 146 [] s (.i (if Jh s then 0 else 7)) s:=fun h id hid=>by
 refine ab6 Tryz.func146 15 [.tmp 2] fun hwf=>?_
 have g:=hid;unfold RO at g;cases d1:decide ((s.at_:Int)<(s.b.length:Int))
 ·have h1:=ab0 d1
  simp only[go_sem,g,abX,d1];refine⟨.of ace,?_⟩;refine(zh s).go hid ?_;rw[bF hid];simp only[go_sem];refine .mk _ (.refl _) (.refl _) ⟨?_,rfl⟩;unfold Jh;rw[decide_eq_true (show s.b.length≤s.at_ by omega)]
  cases s.bad<;>rfl
 ·have h1:=abZ d1
  simp only[go_sem,g,abX,d1];refine⟨.of ace,?_⟩;refine .mk _ (.refl _) (.refl _) ⟨?_,(bF hid).symm⟩;unfold Jh;rw[decide_eq_false (show¬s.b.length≤s.at_ by omega)]
  rfl
theorem N3(y:AV)(l:Txt)(h:Heap)(hb:By h y l)(hl:l.length≤1000000):
  ai Tryz.prog 140 [y] h fun r h' =>∃id,h id=none∧r= .ptr id 0∧h' =upd h id (some (RO ⟨l,0,false⟩)):=by
 refine ab6 Tryz.func140 7 [.tmp 2] fun hwf=>?_
 simp only[go_sem];refine(kO.pure fun g hg=>zW y l g (hb.sub hg) ab7).pthen ?_
 simp only[go_sem];intro id hid;simp only[go_sem];exact .mk _ (.refl _) (.refl _) ⟨id,hid,rfl,rfl⟩
theorem I4(s:RS)(hw:WfR s)(h:Heap)(id:Nat)(hid:h id=some (RO s)):
  ai Tryz.prog 229 [.ptr id 0] h fun r h' =>r= .tup [.v (.int .i64 (qF 10 0 0 (s.b.drop s.at_)).1),.i ((qF 10 0 0 (s.b.drop s.at_)).2:Nat)]∧h' =h:=by
 refine ab6 Tryz.func229 74 [.tmp 2,.tmp 3] fun hwf=>?_
 have hw1:=hw.1;have hw2:=hw.2;have g:=hid;unfold RO at g;simp only[go_sem];generalize hx:qF 10 0 0 (s.b.drop s.at_)=x;refine .intro (fun k ρ h' =>h' =h∧∃(i u:Nat),k+i=10∧qF k i u (s.b.drop (s.at_+i))=x∧u<128 ^ i∧lk ρ 0=some (.ptr id 0)∧lk ρ 4=some (.v (.int .u64 (u:Int)))∧lk ρ 5=some (.i (i:Int))) 10 ?_ ?_
 ·refine⟨rfl,0,0,rfl,hx,acd,?_,?_,?_⟩<;>simp only[go_sem]
  all_goals rfl
 rintro k ρ h' ⟨rfl,i,u,hki,hr,hu,r0,r4,r5⟩
 rcases k with _|k
 ·have d1:decide ((i:Int)<10)=false:=decide_eq_false ab7
  simp only[go_sem,r0,r4,r5,d1];exact⟨.of ace,.mk _ (.refl _) (.refl _) ⟨aed,rfl⟩⟩
 have d1:decide ((i:Int)<10)=true:=decide_eq_true ab7;have w1:IntKind.i64.wrap ((s.at_:Int)+(i:Int))=((s.at_+i:Nat):Int):=acI;have w2:=ab3 i ab7
 by_cases hc:s.at_+i<s.b.length
 case neg=>
  have d2:decide (((s.at_+i:Nat):Int)<(s.b.length:Int))=false:=decide_eq_false ab7;simp only[go_sem,r0,r4,r5,d1,g,w1,abX,d2];rw[List.drop_eq_nil_of_le ab7]at hr;exact⟨.of ace,.mk _ (.refl _) (.refl _) ⟨aed,rfl⟩⟩
 have d2:decide (((s.at_+i:Nat):Int)<(s.b.length:Int))=true:=decide_eq_true ab7;rw[List.drop_eq_getElem_cons hc]at hr;generalize hcc:s.b[s.at_+i]=c at hr;simp only[go_sem,r0,r4,r5,d1,g,w1,abX,d2];refine⟨.of ace,.of ace,?_⟩;refine .at (s.at_+i) (by simpa using hc) acq ?_
 simp only[go_sem,r0,r4,r5,abY,hcc,aK];have hclt:=c.toNat_lt;have pw:(2:Nat) ^ (7*i)=128 ^ i:=by rw[Nat.pow_mul]
 have p9:(128:Nat) ^ 9=9223372036854775808:=acd;unfold qF at hr
 by_cases hb:(i=9∧1<c.toNat)∨(0<i∧c.toNat=0)
 ·rw[if_pos hb]at hr
  by_cases h9:i=9∧1<c.toNat
  ·have d3:((i:Int)==9)=true:=by simp;omega
   have d4:decide ((1:Int)<(c.toNat:Int))=true:=decide_eq_true ab7;simp only[go_sem,r0,r4,r5,d3,d4];exact .mk _ (.refl _) (.refl _) ⟨aed,rfl⟩
  ·have hb:0<i∧c.toNat=0:=by omega
   have d4:decide ((1:Int)<(c.toNat:Int))=false:=decide_eq_false ab7;have d5:decide ((0:Int)<(i:Int))=true:=decide_eq_true ab7;have d6:((c.toNat:Int)==0)=true:=acH;cases d3:((i:Int)==9)<;>simp only[go_sem,r0,r4,r5,d3,d4,d5,d6]<;>exact .mk _ (.refl _) (.refl _) ⟨aed,rfl⟩
 rw[if_neg hb]at hr;have hi9:i≤9:=ab7;have hle:c.toNat % 128*128 ^ i+u<18446744073709551616:=by
  by_cases e9:i=9
  ·subst e9
   rw[p9]at hu⊢;omega
  ·have h1:(128:Nat) ^ i≤128 ^ 8:=Nat.pow_le_pow_right acd ab7
   have h2:(128:Nat) ^ 8=72057594037927936:=acd;exact ahO
 have w3:IntKind.u64.wrap ((c.toNat % 128:Nat):Int)=((c.toNat % 128:Nat):Int):=Ox _ ab7;have w4:IntKind.i64.wrap ((7:Int)*(i:Int))=((7*i:Nat):Int):=acI;have w5:IntKind.u64.wrap ((7*i:Nat):Int)=((7*i:Nat):Int):=Ox _ ab7;have h63:7*i≤63:=ab7;have hu' :u<2 ^ (7*i):=by rw[pw];exact hu
 have hor:u+c.toNat % 128*2 ^ (7*i)<18446744073709551616:=by rw[pw];omega
 have wS:c.toNat % 128*2 ^ (7*i) % 18446744073709551616=c.toNat % 128*2 ^ (7*i):=Nat.mod_eq_of_lt ab7;have three:(i=9∧c.toNat≤1∧c.toNat≠0)∨(i<9∧0<i∧c.toNat≠0)∨i=0:=ab7;cases d7:decide ((c.toNat:Int)<128)
 ·have h7:=ab0 d7
  rw[if_neg ab7]at hr;have hnew:u+c.toNat % 128*2 ^ (7*i)<128 ^ (i+1):=by
   rw[pw,Nat.pow_succ];exact ahO
  rw[←pw,Nat.add_assoc]at hr;generalize hU' :u+c.toNat % 128*2 ^ (7*i)=u' at hr hnew hor;rcases three with⟨t1,t2,t3⟩|⟨t1,t2,t3⟩|t1
  ·have d3:((i:Int)==9)=true:=by simp;omega
   have d4:decide ((1:Int)<(c.toNat:Int))=false:=decide_eq_false ab7;have d5:decide ((0:Int)<(i:Int))=true:=decide_eq_true ab7;have d6:((c.toNat:Int)==0)=false:=acH;simp only[go_sem,r0,r4,r5,d3,d4,d5,d6,w3,w4,w5,h63,wS,hu',hU',hor,d7,w2];refine⟨k,ab7,rfl,i+1,u',ab7,hr,hnew,?_,?_,?_⟩<;>simp only[go_sem,r0]
  ·have d3:((i:Int)==9)=false:=by simp;omega
   have d5:decide ((0:Int)<(i:Int))=true:=decide_eq_true ab7;have d6:((c.toNat:Int)==0)=false:=acH;simp only[go_sem,r0,r4,r5,d3,d5,d6,w3,w4,w5,h63,wS,hu',hU',hor,d7,w2];refine⟨k,ab7,rfl,i+1,u',ab7,hr,hnew,?_,?_,?_⟩<;>simp only[go_sem,r0]
  ·have d3:((i:Int)==9)=false:=by simp;omega
   have d5:decide ((0:Int)<(i:Int))=false:=decide_eq_false ab7;simp only[go_sem,r0,r4,r5,d3,d5,w3,w4,w5,h63,wS,hu',hU',hor,d7,w2];refine⟨k,ab7,rfl,i+1,u',ab7,hr,hnew,?_,?_,?_⟩<;>simp only[go_sem,r0]
 ·have h7:=abZ d7
  rw[if_pos ab7]at hr;have ec:c.toNat % 128=c.toNat:=ab7;rw[←pw]at hr;have hU0:u+c.toNat*2 ^ (7*i)=u+c.toNat % 128*2 ^ (7*i):=by rw[ec]
  rw[hU0]at hr;generalize hU' :u+c.toNat % 128*2 ^ (7*i)=u' at hr hor;have w6:IntKind.i64.wrap ((u' / 2:Nat):Int)=((u' / 2:Nat):Int):=bf _ ab7;have b1:(-9223372036854775808:Int)≤((u' / 2:Nat):Int):=ab7;have b2:((u' / 2:Nat):Int)≤9223372036854775807:=ab7;have un:unzig u' =if u' % 2=1 then -((u' / 2:Nat):Int) - 1 else((u' / 2:Nat):Int):=rfl
  cases d8:(((u' % 2:Nat):Int)==1)
  ·have h8:¬u' % 2=1:=by intro hh;rw[hh]at d8;cases d8
   rw[if_neg h8]at un;rw[un]at hr;rcases three with⟨t1,t2,t3⟩|⟨t1,t2,t3⟩|t1
   ·have d3:((i:Int)==9)=true:=by simp;omega
    have d4:decide ((1:Int)<(c.toNat:Int))=false:=decide_eq_false ab7;have d5:decide ((0:Int)<(i:Int))=true:=decide_eq_true ab7;have d6:((c.toNat:Int)==0)=false:=acH;simp only[go_sem,r0,r4,r5,d3,d4,d5,d6,w3,w4,w5,h63,wS,hu',hU',hor,d7,w6,d8,w2];exact .mk _ (.refl _) (.refl _) ⟨aed,rfl⟩
   ·have d3:((i:Int)==9)=false:=by simp;omega
    have d5:decide ((0:Int)<(i:Int))=true:=decide_eq_true ab7;have d6:((c.toNat:Int)==0)=false:=acH;simp only[go_sem,r0,r4,r5,d3,d5,d6,w3,w4,w5,h63,wS,hu',hU',hor,d7,w6,d8,w2];exact .mk _ (.refl _) (.refl _) ⟨aed,rfl⟩
   ·have d3:((i:Int)==9)=false:=by simp;omega
    have d5:decide ((0:Int)<(i:Int))=false:=decide_eq_false ab7;simp only[go_sem,r0,r4,r5,d3,d5,w3,w4,w5,h63,wS,hu',hU',hor,d7,w6,d8,w2];exact .mk _ (.refl _) (.refl _) ⟨aed,rfl⟩
  ·have h8:u' % 2=1:=by have:=eq_of_beq d8;omega
   rw[if_pos h8]at un;rw[un]at hr;rcases three with⟨t1,t2,t3⟩|⟨t1,t2,t3⟩|t1
   ·have d3:((i:Int)==9)=true:=by simp;omega
    have d4:decide ((1:Int)<(c.toNat:Int))=false:=decide_eq_false ab7;have d5:decide ((0:Int)<(i:Int))=true:=decide_eq_true ab7;have d6:((c.toNat:Int)==0)=false:=acH;simp only[go_sem,r0,r4,r5,d3,d4,d5,d6,w3,w4,w5,h63,wS,hu',hU',hor,d7,w6,d8,b1,b2,w2];exact .mk _ (.refl _) (.refl _) ⟨aed,rfl⟩
   ·have d3:((i:Int)==9)=false:=by simp;omega
    have d5:decide ((0:Int)<(i:Int))=true:=decide_eq_true ab7;have d6:((c.toNat:Int)==0)=false:=acH;simp only[go_sem,r0,r4,r5,d3,d5,d6,w3,w4,w5,h63,wS,hu',hU',hor,d7,w6,d8,b1,b2,w2];exact .mk _ (.refl _) (.refl _) ⟨aed,rfl⟩
   ·have d3:((i:Int)==9)=false:=by simp;omega
    have d5:decide ((0:Int)<(i:Int))=false:=decide_eq_false ab7;simp only[go_sem,r0,r4,r5,d3,d5,w3,w4,w5,h63,wS,hu',hU',hor,d7,w6,d8,b1,b2,w2];exact .mk _ (.refl _) (.refl _) ⟨aed,rfl⟩
theorem RC.step{f:FuncId}{args:List AV}{s s' :RS}{R:AV}(hc:RC f args s R s'){h:Heap}{id:Nat}{Q:AV→Heap→Prop}(hid:h id=some (RO s))
  (k:∀h2,h2=upd h id (some (RO s'))→h2 id=some (RO s')→(∀b,upd h2 id b=upd h id b)→Q R h2):ai Tryz.prog f (.ptr id 0::args) h Q:=
 hc.go hid (k _ rfl (ah ..) fun b=>by
  grind [ah,ag])
theorem CZ(s:RS)(hw:WfR s)(lo hi:Int):RC 187 [.i lo,.i hi] s (.v (.int .i64 (rIn s lo hi).1)) (rIn s lo hi).2:=fun h id hid=>by
 have hw1:=hw.1;have hw2:=hw.2;refine ab6 Tryz.func187 45 [.tmp 6] fun hwf=>?_
 have g:=hid;unfold RO at g;cases d1:s.bad
 case true=>
  rw[d1]at g;simp only[go_sem,g];exact .mk _ (.refl _) (.refl _) ⟨by rw[rIn,if_pos d1];rfl,by rw[rIn,if_pos d1,bF hid]⟩
 have e:rIn s lo hi=(let x:=qF 10 0 0 (s.b.drop s.at_);if x.2=0∨x.1<lo∨hi<x.1 then(0,lP s s.at_)else(x.1,{s with at_:=s.at_+x.2})):=by
  simp_all [rIn,if_neg]
 rw[d1]at g;simp only[go_sem,g];refine(I4 s hw h id hid).pthen ?_;have hlen:=(yF 10 0 0 (s.b.drop s.at_)).1;rw[List.length_drop]at hlen;generalize qF 10 0 0 (s.b.drop s.at_)=x at e hlen⊢;obtain⟨n,z⟩:=x;simp only at e hlen⊢
 by_cases hb:z=0∨n<lo∨hi<n
 ·rw[if_pos hb]at e
  rw[e];have fin:∀P:Prop,P→P:=fun _ p=>p
  rcases Decidable.em (z=0)with c1|c1
  ·have d2:((z:Int)==0)=true:=by grind
   simp only[go_sem,g,d2];refine(oE s s.at_).go hid ?_;exact agI
  have d2:((z:Int)==0)=false:=ab8;rcases Decidable.em (n<lo)with c2|c2
  ·simp only[go_sem,g,d2,decide_eq_true c2]
   refine(oE s s.at_).go hid ?_;exact agI
  ·simp only[go_sem,g,d2,decide_eq_false c2,decide_eq_true (show hi<n by omega)]
   refine(oE s s.at_).go hid ?_;exact agI
 ·rw[if_neg hb]at e
  rw[e];have d2:((z:Int)==0)=false:=ab8;have w1:IntKind.i64.wrap ((s.at_:Int)+(z:Int))=((s.at_+z:Nat):Int):=acn;simp only[go_sem,g,d2,decide_eq_false (show¬n<lo by omega),decide_eq_false (show¬hi<n by omega),w1]
  exact .mk _ (.refl _) (.refl _) ⟨rfl,by grind [RO]⟩
theorem E7(s:RS)(hw:WfR s):RC 141 [] s (.v (.int .i64 (gj s).1)) (gj s).2:=fun h id hid=>by
 refine ab6 Tryz.func141 5 [.tmp 2] fun hwf=>?_
 simp only[go_sem];refine(CZ s hw _ _).go hid ?_;exact agI
theorem BR{s:RS}{lo hi:Int}(hw:WfR s)(h0:lo≤0)(h1:0≤hi):lo≤(rIn s lo hi).1∧(rIn s lo hi).1≤hi:=by
 grind [rIn]
theorem gD{s:RS}{most:Int}(hw:WfR s)(hm:0≤most):WfR (bS s most).2:=by
 have h1:=lI (lo:=0) (hi:=most) hw;have h2:=BR (lo:=0) (hi:=most) hw (Int.le_refl 0) hm;unfold bS;simp only;split
 ·exact yE h1
 ·exact⟨ab8,h1.2⟩
theorem pn(s:RS)(hw:WfR s)(most:Int)(hmo:0≤most):RC 142 [.i most] s (.s (bS s most).1) (bS s most).2:=fun h id hid=>by
 have hx:=lI (lo:=0) (hi:=most) hw;have hx2:=BR (lo:=0) (hi:=most) hw (Int.le_refl 0) hmo;refine ab6 Tryz.func142 59 [.tmp 4] fun hwf=>?_
 have g:=hid;unfold RO at g;simp only[go_sem,g];refine(CZ s hw 0 most).step hid ?_;have e:bS s most=(let x:=rIn s 0 most;if x.2.bad∨(x.2.b.length:Int) - x.2.at_<x.1 then([],lP x.2 s.at_)else((x.2.b.drop x.2.at_).take x.1.toNat,{x.2 with at_:=x.2.at_+x.1.toNat})):=rfl
 generalize rIn s 0 most=x at e hx hx2⊢;obtain⟨n,t⟩:=x;simp only at e hx hx2⊢;obtain⟨m,rfl⟩:=Int.eq_ofNat_of_zero_le hx2.1;have ht1:=hx.1;have ht2:=hx.2;intro h2 eh2 hid2 hup;have g2:=hid2;unfold RO at g2;have w1:IntKind.i64.wrap ((t.b.length:Int) - (t.at_:Int))=(t.b.length:Int) - (t.at_:Int):=bf _ ab7;clear eh2 hid g
 by_cases hb:t.bad=true∨(t.b.length:Int) - t.at_<((m:Nat):Int)
 ·rw[if_pos hb]at e
  rw[e];cases d1:t.bad<;>rw[d1]at g2
  ·have hb:(t.b.length:Int) - t.at_<((m:Nat):Int):=by
    grind
   simp only[go_sem,g2,w1,abX,decide_eq_true hb];exact ag7
  ·simp only[go_sem,g2]
   exact ag7
 ·rw[if_neg hb]at e
  rw[e];have d1:t.bad=false:=by
   grind
  rw[d1]at g2;have hle:t.at_+m≤t.b.length:=ab7;have w2:IntKind.i64.wrap ((t.at_:Int)+(m:Int))=((t.at_+m:Nat):Int):=acn;have w3:IntKind.i64.wrap (((t.at_+m:Nat):Int) - (m:Int))=(t.at_:Int):=acn;simp only[go_sem,g2,w1,abX,decide_eq_false (show¬(t.b.length:Int) - t.at_<((m:Nat):Int) by omega)]
  refine⟨.of ace,?_⟩;simp only[go_sem,g2,w2,w3,abX];exact⟨.of ace,ab7,ab7,ab7,.mk _ (.refl _) (.refl _) ⟨by rw[show t.at_+m - t.at_=m by omega];rfl,by grind [RO]⟩⟩
structure RAt (h0:Heap) (id:Nat) (h:Heap) (s:RS):Prop where
 here:h id=some (RO s)
 sub:∀j b,j≠id→h0 j=some b→h j=some b
theorem RAt.start{h:Heap}{id:Nat}{s:RS}(hid:h id=some (RO s)):RAt h id h s:=⟨hid,fun _ _ _ e=>e⟩
theorem RAt.fin{h0 h:Heap}{id:Nat}{s:RS}(hr:RAt h0 id h s):Ab.Sub (upd h0 id (some (RO s))) h:=fun j b e=>by
 by_cases hj:j=id
 ·subst hj;rw[ah]at e;rw[hr.here,e]
 ·rw[ag _ _ hj]at e;exact hr.sub j b hj e
theorem RAt.ne{h0 h:Heap}{id i:Nat}{s:RS}(hr:RAt h0 id h s)(hi:h i=none):i≠id:=fun e=>by rw[e,hr.here]at hi;grind
theorem RAt.none{h0 h:Heap}{id i:Nat}{s:RS}(hr:RAt h0 id h s)(hi:h i=Option.none):h0 i=Option.none:=by
 cases e:h0 i with
 |none=>rfl
 |some b=>rw[hr.sub i b (hr.ne hi) e]at hi;omega
theorem RAt.put{h0 h:Heap}{id i:Nat}{s:RS}{b:Option Blk}(hr:RAt h0 id h s)(hi:h0 i=Option.none)(hn:i≠id):RAt h0 id (upd h i b) s:=
 ⟨by rw[ag _ _ (Ne.symm hn)];exact hr.here,fun j c hj e=>by
  rw[ag _ _ fun e2=>ab8]
  exact hr.sub j c hj e⟩
theorem RAt.step{f:FuncId}{args:List AV}{s s' :RS}{R:AV}{h0 h:Heap}{id:Nat}{Q:AV→Heap→Prop}(hr:RAt h0 id h s)(hc:RC f args s R s')(k:∀h2,RAt h0 id h2 s'→(∀j,j≠id→h2 j=h j)→Q R h2):ai Tryz.prog f (.ptr id 0::args) h Q:=
 hc.go hr.here (k _ ⟨ah ..,fun j b hj e=>by rw[ag _ _ hj];exact hr.sub j b hj e⟩ fun j hj=>ag _ _ hj)
theorem Hf{s:RS}(hw:WfR s):WfR (pQ s).2:=by
 have h1:=lI (lo:=1) (hi:=5) hw;unfold pQ;simp only;generalize rIn s 1 5=x at h1⊢;have h2:WfR (if nW x.1=true then((⟨x.1,0,(bS x.2 64).1⟩,(bS x.2 64).2):bz×RS)else(⟨x.1,(gj x.2).1,[]⟩,(gj x.2).2)).2:=by
  split
  ·grind [gD]
  ·exact lI h1
 generalize (if nW x.1=true then((⟨x.1,0,(bS x.2 64).1⟩,(bS x.2 64).2):bz×RS)else(⟨x.1,(gj x.2).1,[]⟩,(gj x.2).2))=y at h2⊢
 split
 ·exact aga
 ·split
  ·exact yE h2
  ·exact aga
theorem FY(s:RS)(hw:WfR s):RC 144 [] s (aS (pQ s).1) (pQ s).2:=fun h id hid=>by
 have hw1:=lI (lo:=1) (hi:=5) hw;refine ab6 Tryz.func144 31 [.cell 2 33] fun hwf=>?_
 simp only[go_sem];intro i1 h1;have a0:=RAt.start hid;have n1:=a0.ne h1;have m1:=a0.none h1;have a1:=a0.put (b:=some (.obj [.i 0,.i 0,.s []] 33)) m1 n1;simp only[go_sem];refine a1.step (Ka s) fun g1 b1 k1=>?_
 have c1:=k1 i1 n1;rw[ah]at c1;clear a0 a1 k1;simp only[go_sem];refine b1.step (CZ s hw 1 5) fun g2 b2 k2=>?_
 have c2:=(k2 i1 n1).trans c1;clear b1 c1 k2;simp only[go_sem];intro i2 h2;have n2:=b2.ne h2;have m2:=b2.none h2;have n21:i2≠i1:=fun e=>by rw[e,c2]at h2;cases h2
 have e:pQ s=(let x:=rIn s 1 5;let y:bz×RS:=if nW x.1 then(let t:=bS x.2 64;(⟨x.1,0,t.1⟩,t.2))else(let t:=gj x.2;(⟨x.1,t.1,[]⟩,t.2));if y.2.bad then(au,y.2)else if bB y.1=false then(au,lP y.2 s.at_)else y):=rfl
 generalize rIn s 1 5=x at e hw1 b2⊢;obtain⟨kd,t⟩:=x;simp only at e hw1 b2⊢;have b3:=b2.put (b:=some (.obj [.i kd,.i 0,.s []] 33)) m2 n2;have c3:upd g2 i2 (some (.obj [.i kd,.i 0,.s []] 33)) i1=_:=(ag _ _ (Ne.symm n21)).trans c2;have d3:upd g2 i2 (some (.obj [.i kd,.i 0,.s []] 33)) i2=_:=ah ..;clear b2 c2 h2;simp only[go_sem,ah];generalize upd g2 i2 (some (.obj [.i kd,.i 0,.s []] 33))=g3 at b3 c3 d3⊢;refine(yW kd _).pthen ?_;simp only[go_sem];cases dt:(kd==3||kd==5)
 ·have et:nW kd=false:=dt
  rw[et]at e;simp only[Bool.false_eq_true,if_false]at e;simp only[go_sem];refine b3.step (E7 t hw1) fun g4 b4 k4=>?_
  have c4:=(k4 i1 n1).trans c3;have d4:=(k4 i2 n2).trans d3;have e5:pQ s=(if(gj t).2.bad then(au,(gj t).2)else if bB (⟨kd,(gj t).1,[]⟩:bz)=false then(au,lP (gj t).2 s.at_)else((⟨kd,(gj t).1,[]⟩:bz),(gj t).2)):=e
  have wT:WfR (gj t).2:=lI hw1;have b5:=b4.put (b:=(some (.obj [.i kd,.v (.int .i64 (gj t).1),.s []] 33))) m2 n2;have c5:upd g4 i2 (some (.obj [.i kd,.v (.int .i64 (gj t).1),.s []] 33)) i1=_:=(ag _ _ (Ne.symm n21)).trans c4;have d5:upd g4 i2 (some (.obj [.i kd,.v (.int .i64 (gj t).1),.s []] 33)) i2=_:=ah ..;simp only[go_sem,d4];generalize upd g4 i2 (some (.obj [.i kd,.v (.int .i64 (gj t).1),.s []] 33))=g5 at b5 c5 d5⊢;clear b4 c4 d4 k4 e;refine b5.step (zh _) fun g6 b6 k6=>?_
  have c6:=(k6 i1 n1).trans c5;have d6:=(k6 i2 n2).trans d5;clear b5 c5 d5 k6;cases db:(gj t).2.bad
  ·rw[db,if_neg acd]at e5
   simp only[go_sem,db,d6];refine(gq (⟨kd,(gj t).1,[]⟩:bz) g6).pthen ?_;cases dv:bB (⟨kd,(gj t).1,[]⟩:bz)
   ·exact agU
   ·exact ahD
  ·exact ahE
 ·have et:nW kd=true:=dt
  rw[et]at e;simp only[if_true]at e;simp only[go_sem];refine b3.step (pn t hw1 64 acd) fun g4 b4 k4=>?_
  have c4:=(k4 i1 n1).trans c3;have d4:=(k4 i2 n2).trans d3;have e5:pQ s=(if(bS t 64).2.bad then(au,(bS t 64).2)else if bB (⟨kd,0,(bS t 64).1⟩:bz)=false then(au,lP (bS t 64).2 s.at_)else((⟨kd,0,(bS t 64).1⟩:bz),(bS t 64).2)):=e
  have wT:WfR (bS t 64).2:=gD hw1 acd;have b5:=b4.put (b:=(some (.obj [.i kd,.i 0,.s (bS t 64).1] 33))) m2 n2;have c5:upd g4 i2 (some (.obj [.i kd,.i 0,.s (bS t 64).1] 33)) i1=_:=(ag _ _ (Ne.symm n21)).trans c4;have d5:upd g4 i2 (some (.obj [.i kd,.i 0,.s (bS t 64).1] 33)) i2=_:=ah ..;simp only[go_sem,d4];generalize upd g4 i2 (some (.obj [.i kd,.i 0,.s (bS t 64).1] 33))=g5 at b5 c5 d5⊢;clear b4 c4 d4 k4 e;refine b5.step (zh _) fun g6 b6 k6=>?_
  have c6:=(k6 i1 n1).trans c5;have d6:=(k6 i2 n2).trans d5;clear b5 c5 d5 k6;cases db:(bS t 64).2.bad
  ·rw[db,if_neg acd]at e5
   simp only[go_sem,db,d6];refine(gq (⟨kd,0,(bS t 64).1⟩:bz) g6).pthen ?_;cases dv:bB (⟨kd,0,(bS t 64).1⟩:bz)
   ·exact agU
   ·exact ahD
  ·exact ahE
theorem He{s:RS}(hw:WfR s):WfR (oZ s).2:=by
 grind [oZ,lI,Hf]
theorem QX(s:RS)(hw:WfR s)(q:Perm):RC 143 [.sl (s.b.map aK) q] s (aS (oZ s).1) (oZ s).2:=fun h id hid=>by
 have hw1:=hw.1;have hw2:=hw.2;refine ab6 Tryz.func143 25 [.cell 4 33] fun hwf=>?_
 simp only[go_sem];intro i1 h1;have a0:=RAt.start hid;have n1:=a0.ne h1;have m1:=a0.none h1;have a1:=a0.put (b:=some (.obj [.i 0,.i 0,.s []] 33)) m1 n1;simp only[go_sem];refine a1.step (Ka s) fun g1 b1 k1=>?_
 have c1:=k1 i1 n1;rw[ah]at c1;clear a0 a1 k1
 by_cases hlt:s.at_<s.b.length
 ·have d1:decide ((s.at_:Int)<(s.b.length:Int))=true:=decide_eq_true ab7
  simp only[go_sem,abX,d1];refine b1.step (Ka s) fun g2 b2 k2=>?_
  have c2:=(k2 i1 n1).trans c1;clear b1 c1 k2;simp only[go_sem];refine .at s.at_ ab8 acq ?_;have hg:s.b.getD s.at_ 0=s.b[s.at_]:=ab8;generalize hcc:s.b[s.at_]=c at hg;cases d2:((c.toNat:Int)==0)
  ·have hne:c≠0:=fun e=>by simp_all
   have e:oZ s=pQ s:=by simp_all [oZ,if_neg]
   rw[e];simp only[go_sem,abY,hcc,aK,d2];refine b2.step (FY s hw) fun g3 b3 k3=>?_
   have c3:=(k3 i1 n1).trans c2;simp only[go_sem,c3,ah,aS];exact aeP
  ·have he:c=0:=by
    have:=eq_of_beq d2;exact UInt8.toNat_inj.1 ab8
   have e:oZ s=(au,(rIn (rIn s 0 0).2 0 0).2):=by simp_all [oZ,if_pos]
   rw[e];simp only[go_sem,abY,hcc,aK,d2];refine b2.step (CZ s hw 0 0) fun g3 b3 k3=>?_
   have c3:=(k3 i1 n1).trans c2;simp only[go_sem];refine b3.step (CZ _ (lI hw) 0 0) fun g4 b4 k4=>?_
   have c4:=(k4 i1 n1).trans c3;simp only[go_sem,c4,ah];exact .mk _ (.refl _) (b4.put m1 n1).fin ⟨rfl,rfl⟩
 ·have d1:decide ((s.at_:Int)<(s.b.length:Int))=false:=decide_eq_false ab7
  have e:oZ s=pQ s:=by simp_all [oZ,if_neg]
  rw[e];simp only[go_sem,abX,d1];refine b1.step (FY s hw) fun g3 b3 k3=>?_
  have c3:=(k3 i1 n1).trans c1;simp only[go_sem,c3,ah,aS];exact aeP
theorem Ck(a b:Txt)(p q:Perm)(h:Heap):ai Tryz.prog 91 [.sl (a.map aK) p,.sl (b.map aK) q] h fun r h' =>r= .b (decide (a=b))∧h' =h:=by
 refine ab6 Tryz.func91 10 [.tmp 4] fun hwf=>?_
 simp only[go_sem];exact .same (.refl _) ⟨by
  grind [ax],rfl⟩
structure OpL (o:OpD):Prop where
 subj:o.subj.length≤100000
 case:o.case.length≤100000
 field:o.field.length≤100000
 to:o.to.length≤100000
 val:o.val.s.length≤100000
 text:o.text.length≤100000
 reason:o.reason.length≤100000
def opT(o:OpD):List Txt:=[o.subj,o.case,o.field,o.to]
theorem LP(o:OpD)(h64:nC o)(hl:OpL o)(h:Heap):ai Tryz.prog 92 [opA o] h fun r h' =>r= .sl ((iU o).map aK) .no∧h' =h:=by
 obtain⟨k1,k2,k3,k4⟩:=h64;have hnk:=iI o.kind;obtain⟨l1,l2,l3,l4,l5,l6,l7⟩:=hl;have t1:=cV o.subj;have t2:=cV o.case;have t3:=cV o.field;have t4:=cV o.to;refine ab6 Tryz.func92 46 [.tmp 2] fun hwf=>?_
 simp only[go_sem,opA,opC];intro id hid;simp only[go_sem];refine(BL (.sl [] .full) [] o.kind _ (.nil _) aci k1).pthen ?_;simp only[go_sem];generalize hH:upd h id _=H;have hHid:H id=some (.obj (opC o) 39):=by rw[←hH];exact ah ..
 have hsub:Ab.Sub h H:=by rw[←hH];exact(Sub.refl h).new hid _
 unfold opC at hHid;clear hH;refine .intro (fun m ρ h' =>h' =H∧∃i:Nat,i≤4∧m=4 - i∧lk ρ 1=some (.ptr id 0)∧lk ρ 3=some (.sl ((iH o.kind++(((opT o).map cZ).take i).flatten).map aK) .no)∧(∃q,lk ρ 17=some (.sl ((opT o).map .s) q))∧lk ρ 18=some (.i 4)∧lk ρ 19=some (.i i)) 4 ?_ ?_
 ·refine⟨rfl,0,ab7,rfl,?_,?_,?_,?_,?_⟩
  ·rfl
  ·simp only[go_sem]
   simp
  ·refine⟨?_,?_⟩
   rotate_left
   ·simp only[go_sem]
    rfl
  ·rfl
  rfl
 rintro m ρ h' ⟨rfl,i,hi,rfl,r1,r3,⟨q,r17⟩,r18,r19⟩
 have hLl:((opT o).map cZ).length=4:=rfl;have hOl:(opT o).length=4:=rfl;have hF:((opT o).map cZ).flatten.length≤400040:=by grind [opT]
 have hf:=oH ((opT o).map cZ) i;have hall:∀t∈opT o,t.length≤100000:=by simp_all [opT]
 by_cases hc:i<4
 ·have d1:decide ((i:Int)<4)=true:=decide_eq_true ab7
  have w1:IntKind.i64.wrap ((i:Int)+1)=((i+1:Nat):Int):=acn;have hs:=nH ((opT o).map cZ) i ab7;rw[abY]at hs;have ht:=hall _ (ab2 (show i<(opT o).length by omega))
  simp only[go_sem,r1,r3,r17,r18,r19,d1];refine .at i ab8 acq ?_;simp only[go_sem,r1,r3,r17,r18,r19,abY];refine(wN _ (iH o.kind++(((opT o).map cZ).take i).flatten) (opT o)[i] _ (.sl _ _) ab8 ab7).pthen ?_;simp only[go_sem,r1,r3,r17,r18,r19,w1];refine⟨3 - i,ab7,rfl,i+1,ab7,ab7,?_,?_,⟨q,?_⟩,?_,?_⟩
  ·simp only[go_sem,r1]
  ·simp only[go_sem,hs,List.append_assoc]
   rfl
  ·simp only[go_sem,r17]
  ·simp only[go_sem,r18]
  ·simp only[go_sem]
 ·have e:i=4:=by omega
  subst e;have e4:(((opT o).map cZ).take 4).flatten=cZ o.subj++(cZ o.case++(cZ o.field++cZ o.to)):=by simp[opT]
  rw[e4]at r3 hf;have d1:decide ((4:Int)<4)=false:=rfl;generalize hP:iH o.kind++(cZ o.subj++(cZ o.case++(cZ o.field++cZ o.to)))=P1 at r3;have hP1:P1.length≤400050:=ab8;simp only[go_sem,r1,r3,r17,r18,r19,hHid,d1];refine .quiet ace ?_;simp only[go_sem,r1,r3,r17,r18,r19,hHid,d1];refine⟨_,G0 _ P1 o.val _ (.sl _ _) ab7 k2 k3 ab7,?_⟩;have e2:(nN o.val).length≤100020:=by
   grind [nN,ab1,iI,cV]
  simp only[go_sem,r1,hHid];refine⟨_,BL _ (P1++nN o.val) o.review _ (.sl _ _) ab8 k4,?_⟩;generalize hP2:P1++nN o.val++iH o.review=P2;have hP2l:P2.length≤500080:=by
   grind [iI,ab1]
  simp only[go_sem,r1,hHid];refine .quiet ace ?_;simp only[go_sem,r1,hHid];refine⟨_,wN _ P2 o.text _ (.sl _ _) ab7 ab7,?_⟩;have e3:=cV o.text;simp only[go_sem,r1,hHid];refine⟨_,wN _ (P2++cZ o.text) o.reason _ (.sl _ _) ab8 ab7,?_⟩;generalize hP3:P2++cZ o.text++cZ o.reason=P3;have e4:=cV o.reason;have hP3l:P3.length≤800000:=ab8;simp only[go_sem,r1,hHid];refine(D8 o.glass _).pthen ?_;simp only[go_sem];refine(G0 _ P3 (dJ o.glass) _ (.sl _ _) ab7 ?_ ?_ ?_).pthen ?_
  ·cases o.glass<;>exact⟨acd,acd⟩
  ·cases o.glass<;>exact⟨acd,acd⟩
  ·cases o.glass<;>decide
  simp only[go_sem];refine .mk _ (.refl _) hsub ⟨?_,rfl⟩
  grind [iU,List.append_assoc,ax]
theorem kO.base{h H g:Heap}{y:AV}{l:Txt}(hs:Ab.Sub h H)(ha:kO H g y l):kO h g y l:=by
 obtain⟨h1,h2|⟨id,i1,h2,h3⟩⟩:=ha
 ·exact⟨hs.trans h1,.inl h2⟩
 ·exact⟨hs.trans h1,.inr ⟨id,hs.none i1,h2,h3⟩⟩
theorem N4(ch:BitVec 64)(o:OpD)(h64:nC o)(hl:OpL o)(hp:(iU o).length≤1000000)(h:Heap):ai Tryz.prog 40 [.v (.int .u64 (ch.toNat:Int)),opA o] h fun r h' =>kO h h' r (cN ch o):=by
 refine ab6 Tryz.func40 20 [.tmp 4] fun hwf=>?_
 simp only[go_sem,opA,opC];intro id hid;generalize hH:upd h id _=H;have hHid:H id=some (.obj (opC o) 39):=by rw[←hH];exact ah ..
 have hsub:Ab.Sub h H:=by rw[←hH];exact(Sub.refl h).new hid _
 clear hH;simp only[go_sem];refine .intro (fun k ρ g=>∃(i:Nat) (v:BitVec 64) (l:Txt) (z:AV),kO H g z l∧i+k=8∧l++mq k v=mq 8 ch∧lk ρ 0=some (.v (.int .u64 (v.toNat:Int)))∧lk ρ 3=some (.ptr id 0)∧lk ρ 5=some z∧lk ρ 6=some (.i (i:Int))) 8 ?_ ?_
 ·refine⟨0,ch,[],_,Acc.full (.refl _),rfl,rfl,?_,?_,?_,?_⟩<;>simp only[go_sem]
  all_goals rfl
 rintro k ρ g ⟨i,v,l,z,ha,hk,hv,r0,r3,r5,r6⟩
 have hll:=congrArg List.length hv;rw[ab1,iE,iE]at hll;rcases k with _|k
 ·have d1:decide ((i:Int)<8)=false:=decide_eq_false ab7
  have hg:=ha.1 _ _ hHid;unfold opC at hg;rw[show mq 0 v= []from rfl,List.append_nil]at hv
  subst hv;simp only[go_sem,r0,r3,r5,r6,d1,hg];refine(LP o h64 hl g).pthen ?_;simp only[go_sem];refine kO.app ha (m:=iU o) (fun _ hk=>hk) ab7 fun z' h2 ha' =>?_
  simp only[go_sem];exact .same (.refl _) (ha'.base hsub)
 ·have d1:decide ((i:Int)<8)=true:=decide_eq_true ab7
  have w1:IntKind.i64.wrap ((i:Int)+1)=((i+1:Nat):Int):=acn;simp only[go_sem,r0,r3,r5,r6,d1,wu8];refine kO.app ha (m:=[UInt8.ofNat v.toNat]) (fun _ hk=>hk) ab8 fun z' h2 ha' =>?_
  have e8:v.toNat / 256=(v>>>8).toNat:=aeu;simp only[go_sem,r0,r3,r5,r6,w1,e8];refine⟨k,ab7,i+1,v>>>8,l++ [UInt8.ofNat v.toNat],z',ha',ab7,?_,?_,?_,?_,?_⟩
  ·grind [mq]
  all_goals simp only[go_sem,r3]
theorem BV(ch:BitVec 64)(o:OpD)(h64:nC o)(hl:OpL o)(hp:(iU o).length≤1000000)(h:Heap):ai Tryz.prog 40 [.v (.int .u64 (ch.toNat:Int)),opA o] h fun r h' =>r= .sl ((cN ch o).map aK) .no∧h' =h:=
 kO.pure fun g _=>N4 ch o h64 hl hp g
theorem tF{s:RS}(hw:WfR s):i64 (gj s).1:=BR hw acd acd
theorem HD:i64 au.kind∧i64 au.n:=⟨⟨acd,acd⟩,⟨acd,acd⟩⟩
theorem G8{s:RS}{a:Nat}:(lP s a).b=s.b:=by grind [lP]
theorem Pf{s:RS}{lo hi:Int}:(rIn s lo hi).2.b=s.b:=by
 grind [rIn,G8]
theorem wI{s:RS}{m:Int}:(bS s m).2.b=s.b:=by
 grind [bS,G8,Pf]
theorem NZ{s:RS}(hw:WfR s):i64 (pQ s).1.kind∧i64 (pQ s).1.n:=by
 have hz:=HD;have h1:=lI (lo:=1) (hi:=5) hw;have h2: -1≤(rIn s 1 5).1∧(rIn s 1 5).1≤5:=by
  grind [rIn]
 unfold pQ;simp only;generalize rIn s 1 5=x at h1 h2⊢;have h3:i64 (if nW x.1=true then((⟨x.1,0,(bS x.2 64).1⟩,(bS x.2 64).2):bz×RS)else(⟨x.1,(gj x.2).1,[]⟩,(gj x.2).2)).1.kind∧i64 (if nW x.1=true then((⟨x.1,0,(bS x.2 64).1⟩,(bS x.2 64).2):bz×RS)else(⟨x.1,(gj x.2).1,[]⟩,(gj x.2).2)).1.n:=by
  split
  ·exact⟨⟨ab8,ab8⟩,⟨aci,aci⟩⟩
  ·exact⟨⟨ab8,ab8⟩,tF h1⟩
 generalize (if nW x.1=true then((⟨x.1,0,(bS x.2 64).1⟩,(bS x.2 64).2):bz×RS)else(⟨x.1,(gj x.2).1,[]⟩,(gj x.2).2))=y at h3⊢
 split
 ·exact hz
 ·split
  ·exact hz
  ·exact h3
theorem BS{s:RS}(hw:WfR s):i64 (oZ s).1.kind∧i64 (oZ s).1.n:=by
 grind [oZ,HD,NZ]
def uw:OpD:=⟨0,[],[],[],[],au,0,[],[],false⟩
def Iz(l:Txt):AV:=.tup [opA ((nV l).getD uw),.v (.bool (nV l).isSome)]
theorem Re(l:Txt):rOp l=(let k:=gj ⟨l,0,false⟩;let s1:=bS k.2 16;let s2:=bS s1.2 16;let s3:=bS s2.2 16;let s4:=bS s3.2 16;let v:=oZ s4.2;let r:=gj v.2;let t:=bS r.2 4096;let w:=bS t.2 64;let g:=pQ w.2
 (⟨k.1,s1.1,s2.1,s3.1,s4.1,v.1,r.1,t.1,w.1,eqV g.1 (dJ true)⟩,g.2)):=rfl
theorem f_l{o:OpD}(h:OpF o):OpL o:=by
 obtain⟨a,b,c,d,e,f,g⟩:=h;refine⟨ab7,ab7,ab7,ab7,?_,ab7,ab7⟩;rcases e with e|e
 ·rw[e];decide
 ·by_cases hk:o.val.kind=3∨o.val.kind=5
  ·have:=(uY e hk).2;omega
  grind [A2]
theorem RAt.base{h g:Heap}{id:Nat}{s:RS}(hr:RAt h id g s)(hn:h id=Option.none):Ab.Sub h g:=fun j b e=>hr.sub j b ab8 e
set_option maxHeartbeats 1000000 in
theorem KN(l:Txt)(q:Perm)(hl:l.length≤1000000)(h:Heap):ai Tryz.prog 90 [.sl (l.map aK) q] h fun r h' =>r=Iz l∧h' =h:=by
 refine ab6 Tryz.func90 58 [.cell 2 39,.tmp 3] fun hwf=>?_
 simp only[go_sem];intro i1 h1;simp only[go_sem];refine(N3 _ l _ (.sl _ _) hl).mono fun r g ⟨id,hid,er,eg⟩=>?_
 subst er;have n1:i1≠id:=fun e=>af6
 have m0:h id=none:=by simp_all [ag,Ne.symm]
 have w0:WfR ⟨l,0,false⟩:=⟨Nat.zero_le _,hl⟩;have b0:RAt h id g ⟨l,0,false⟩:=⟨by simp_all [ah],fun j b hj e=>by
  rw[eg,ag _ _ hj,ag _ _ fun e2=>ab8]
  exact e⟩
 have c0:g i1=some (.obj (opC uw) 39):=by rw[eg,ag _ _ n1];exact ah ..
 clear eg hid;simp only[go_sem];intro i2 h2;have n2:=b0.ne h2;have m1:=h1;have m2:=b0.none h2;have n21:i2≠i1:=fun e=>ab8
 clear h2;have e:=Re l;simp only at e;have g0e:g=g:=rfl;generalize g=g0 at b0 c0⊢;clear g0e;simp only[go_sem];have b0' :=b0.put (b:=(some (.obj [.i 0,.s [],.s [],.s [],.s [],.i 0,.i 0,.s [],.i 0,.s [],.s [],.b false] 39))) m2 n2;have c0' :upd g0 i2 (some (.obj [.i 0,.s [],.s [],.s [],.s [],.i 0,.i 0,.s [],.i 0,.s [],.s [],.b false] 39)) i1=_:=(ag _ _ (Ne.symm n21)).trans c0;have d0' :upd g0 i2 (some (.obj [.i 0,.s [],.s [],.s [],.s [],.i 0,.i 0,.s [],.i 0,.s [],.s [],.b false] 39)) i2=_:=ah ..;clear b0 c0;generalize upd g0 i2 (some (.obj [.i 0,.s [],.s [],.s [],.s [],.i 0,.i 0,.s [],.i 0,.s [],.s [],.b false] 39))=g1 at b0' c0' d0'⊢;have b1:=b0';have c1:=c0';have d1:=d0';clear b0' c0' d0';refine b1.step (E7 _ w0) fun g2 b2 k2=>?_
 have c2:=(k2 i1 n1).trans c1;have d2:=(k2 i2 n2).trans d1;clear b1 c1 d1 k2;have w1:=lI (lo:= -9223372036854775808) (hi:=9223372036854775807) w0;have q1:=tF w0
 change WfR (gj _).2 at w1
 have hb1:(gj ⟨l,0,false⟩).2.b=l:=Pf;generalize gj ⟨l,0,false⟩=x1 at e w1 q1 hb1 b2⊢;obtain⟨v1,s1⟩:=x1;simp only at e w1 q1 hb1 b2⊢;simp only[go_sem,d2,ah];have b2' :=b2.put (b:=(some (.obj [.i v1,.s [],.s [],.s [],.s [],.i 0,.i 0,.s [],.i 0,.s [],.s [],.b false] 39))) m2 n2;have c2' :upd g2 i2 (some (.obj [.i v1,.s [],.s [],.s [],.s [],.i 0,.i 0,.s [],.i 0,.s [],.s [],.b false] 39)) i1=_:=(ag _ _ (Ne.symm n21)).trans c2;have d2' :upd g2 i2 (some (.obj [.i v1,.s [],.s [],.s [],.s [],.i 0,.i 0,.s [],.i 0,.s [],.s [],.b false] 39)) i2=_:=ah ..;clear b2 c2 d2;generalize upd g2 i2 (some (.obj [.i v1,.s [],.s [],.s [],.s [],.i 0,.i 0,.s [],.i 0,.s [],.s [],.b false] 39))=g3 at b2' c2' d2'⊢;have b3:=b2';have c3:=c2';have d3:=d2';clear b2' c2' d2';refine b3.step (pn _ w1 16 acd) fun g4 b4 k4=>?_
 have c4:=(k4 i1 n1).trans c3;have d4:=(k4 i2 n2).trans d3;clear b3 c3 d3 k4;have w2:=gD (most:=16) w1 acd;have hb2:(bS s1 16).2.b=l:=wI.trans hb1;generalize bS s1 16=x2 at e w2 hb2 b4⊢;obtain⟨v2,s2⟩:=x2;simp only at e w2 hb2 b4⊢;simp only[go_sem];refine b4.step (pn _ w2 16 acd) fun g5 b5 k5=>?_
 have c5:=(k5 i1 n1).trans c4;have d5:=(k5 i2 n2).trans d4;clear b4 c4 d4 k5;have w3:=gD (most:=16) w2 acd;have hb3:(bS s2 16).2.b=l:=wI.trans hb2;generalize bS s2 16=x3 at e w3 hb3 b5⊢;obtain⟨v3,s3⟩:=x3;simp only at e w3 hb3 b5⊢;simp only[go_sem];refine b5.step (pn _ w3 16 acd) fun g6 b6 k6=>?_
 have c6:=(k6 i1 n1).trans c5;have d6:=(k6 i2 n2).trans d5;clear b5 c5 d5 k6;have w4:=gD (most:=16) w3 acd;have hb4:(bS s3 16).2.b=l:=wI.trans hb3;generalize bS s3 16=x4 at e w4 hb4 b6⊢;obtain⟨v4,s4⟩:=x4;simp only at e w4 hb4 b6⊢;simp only[go_sem];refine b6.step (pn _ w4 16 acd) fun g7 b7 k7=>?_
 have c7:=(k7 i1 n1).trans c6;have d7:=(k7 i2 n2).trans d6;clear b6 c6 d6 k7;have w5:=gD (most:=16) w4 acd;have hb5:(bS s4 16).2.b=l:=wI.trans hb4;generalize bS s4 16=x5 at e w5 hb5 b7⊢;obtain⟨v5,s5⟩:=x5;simp only at e w5 hb5 b7⊢;simp only[go_sem,d7,ah];have b7' :=b7.put (b:=(some (.obj [.i v1,.s v2,.s v3,.s v4,.s v5,.i 0,.i 0,.s [],.i 0,.s [],.s [],.b false] 39))) m2 n2;have c7' :upd g7 i2 (some (.obj [.i v1,.s v2,.s v3,.s v4,.s v5,.i 0,.i 0,.s [],.i 0,.s [],.s [],.b false] 39)) i1=_:=(ag _ _ (Ne.symm n21)).trans c7;have d7' :upd g7 i2 (some (.obj [.i v1,.s v2,.s v3,.s v4,.s v5,.i 0,.i 0,.s [],.i 0,.s [],.s [],.b false] 39)) i2=_:=ah ..;clear b7 c7 d7;generalize upd g7 i2 (some (.obj [.i v1,.s v2,.s v3,.s v4,.s v5,.i 0,.i 0,.s [],.i 0,.s [],.s [],.b false] 39))=g8 at b7' c7' d7'⊢;have b8:=b7';have c8:=c7';have d8:=d7';clear b7' c7' d7';rw[show l.map aK=s5.b.map aK by grind]
 refine b8.step (QX _ w5 _) fun g9 b9 k9=>?_
 have c9:=(k9 i1 n1).trans c8;have d9:=(k9 i2 n2).trans d8;clear b8 c8 d8 k9;have w6:=He w5;have q6:=BS w5;generalize oZ s5=x6 at e w6 q6 b9⊢;obtain⟨v6,s6⟩:=x6;simp only at e w6 q6 b9⊢;simp only[go_sem,d9,ah,aS];have b9' :=b9.put (b:=(some (.obj [.i v1,.s v2,.s v3,.s v4,.s v5,.i v6.kind,.i v6.n,.s v6.s,.i 0,.s [],.s [],.b false] 39))) m2 n2;have c9' :upd g9 i2 (some (.obj [.i v1,.s v2,.s v3,.s v4,.s v5,.i v6.kind,.i v6.n,.s v6.s,.i 0,.s [],.s [],.b false] 39)) i1=_:=(ag _ _ (Ne.symm n21)).trans c9;have d9' :upd g9 i2 (some (.obj [.i v1,.s v2,.s v3,.s v4,.s v5,.i v6.kind,.i v6.n,.s v6.s,.i 0,.s [],.s [],.b false] 39)) i2=_:=ah ..;clear b9 c9 d9;generalize upd g9 i2 (some (.obj [.i v1,.s v2,.s v3,.s v4,.s v5,.i v6.kind,.i v6.n,.s v6.s,.i 0,.s [],.s [],.b false] 39))=g10 at b9' c9' d9'⊢;have b10:=b9';have c10:=c9';have d10:=d9';clear b9' c9' d9';refine b10.step (E7 _ w6) fun g11 b11 k11=>?_
 have c11:=(k11 i1 n1).trans c10;have d11:=(k11 i2 n2).trans d10;clear b10 c10 d10 k11;have w7:=lI (lo:= -9223372036854775808) (hi:=9223372036854775807) w6;have q7:=tF w6
 change WfR (gj _).2 at w7
 generalize gj s6=x7 at e w7 q7 b11⊢;obtain⟨v7,s7⟩:=x7;simp only at e w7 q7 b11⊢;simp only[go_sem,d11,ah];have b11' :=b11.put (b:=(some (.obj [.i v1,.s v2,.s v3,.s v4,.s v5,.i v6.kind,.i v6.n,.s v6.s,.i v7,.s [],.s [],.b false] 39))) m2 n2;have c11' :upd g11 i2 (some (.obj [.i v1,.s v2,.s v3,.s v4,.s v5,.i v6.kind,.i v6.n,.s v6.s,.i v7,.s [],.s [],.b false] 39)) i1=_:=(ag _ _ (Ne.symm n21)).trans c11;have d11' :upd g11 i2 (some (.obj [.i v1,.s v2,.s v3,.s v4,.s v5,.i v6.kind,.i v6.n,.s v6.s,.i v7,.s [],.s [],.b false] 39)) i2=_:=ah ..;clear b11 c11 d11;generalize upd g11 i2 (some (.obj [.i v1,.s v2,.s v3,.s v4,.s v5,.i v6.kind,.i v6.n,.s v6.s,.i v7,.s [],.s [],.b false] 39))=g12 at b11' c11' d11'⊢;have b12:=b11';have c12:=c11';have d12:=d11';clear b11' c11' d11';refine b12.step (pn _ w7 4096 acd) fun g13 b13 k13=>?_
 have c13:=(k13 i1 n1).trans c12;have d13:=(k13 i2 n2).trans d12;clear b12 c12 d12 k13;have w8:=gD (most:=4096) w7 acd;generalize bS s7 4096=x8 at e w8 b13⊢;obtain⟨v8,s8⟩:=x8;simp only at e w8 b13⊢;simp only[go_sem];refine b13.step (pn _ w8 64 acd) fun g14 b14 k14=>?_
 have c14:=(k14 i1 n1).trans c13;have d14:=(k14 i2 n2).trans d13;clear b13 c13 d13 k14;have w9:=gD (most:=64) w8 acd;generalize bS s8 64=x9 at e w9 b14⊢;obtain⟨v9,s9⟩:=x9;simp only at e w9 b14⊢;simp only[go_sem,d14,ah];have b14' :=b14.put (b:=(some (.obj [.i v1,.s v2,.s v3,.s v4,.s v5,.i v6.kind,.i v6.n,.s v6.s,.i v7,.s v8,.s v9,.b false] 39))) m2 n2;have c14' :upd g14 i2 (some (.obj [.i v1,.s v2,.s v3,.s v4,.s v5,.i v6.kind,.i v6.n,.s v6.s,.i v7,.s v8,.s v9,.b false] 39)) i1=_:=(ag _ _ (Ne.symm n21)).trans c14;have d14' :upd g14 i2 (some (.obj [.i v1,.s v2,.s v3,.s v4,.s v5,.i v6.kind,.i v6.n,.s v6.s,.i v7,.s v8,.s v9,.b false] 39)) i2=_:=ah ..;clear b14 c14 d14;generalize upd g14 i2 (some (.obj [.i v1,.s v2,.s v3,.s v4,.s v5,.i v6.kind,.i v6.n,.s v6.s,.i v7,.s v8,.s v9,.b false] 39))=g15 at b14' c14' d14'⊢;have b15:=b14';have c15:=c14';have d15:=d14';clear b14' c14' d14';refine b15.step (FY _ w9) fun g16 b16 k16=>?_
 have c16:=(k16 i1 n1).trans c15;have d16:=(k16 i2 n2).trans d15;clear b15 c15 d15 k16;have w10:=Hf w9;generalize pQ s9=x10 at e w10 b16⊢;obtain⟨v10,s10⟩:=x10;simp only at e w10 b16⊢;simp only[go_sem];refine(D8 true _).pthen ?_;simp only[go_sem,d16,ah,aS,dJ];generalize hgl:(v10.kind==1 && (v10.n==1 && v10.s== []))=gl;have egl:eqV v10 (dJ true)=gl:=hgl;rw[egl]at e;clear egl hgl;have b16' :=b16.put (b:=(some (.obj [.i v1,.s v2,.s v3,.s v4,.s v5,.i v6.kind,.i v6.n,.s v6.s,.i v7,.s v8,.s v9,.b gl] 39))) m2 n2;have c16' :upd g16 i2 (some (.obj [.i v1,.s v2,.s v3,.s v4,.s v5,.i v6.kind,.i v6.n,.s v6.s,.i v7,.s v8,.s v9,.b gl] 39)) i1=_:=(ag _ _ (Ne.symm n21)).trans c16;have d16' :upd g16 i2 (some (.obj [.i v1,.s v2,.s v3,.s v4,.s v5,.i v6.kind,.i v6.n,.s v6.s,.i v7,.s v8,.s v9,.b gl] 39)) i2=_:=ah ..;clear b16 c16 d16;generalize upd g16 i2 (some (.obj [.i v1,.s v2,.s v3,.s v4,.s v5,.i v6.kind,.i v6.n,.s v6.s,.i v7,.s v8,.s v9,.b gl] 39))=g17 at b16' c16' d16'⊢;have b17:=b16';have c17:=c16';have d17:=d16';clear b16' c16' d16';refine b17.step (Qv _) fun g18 b18 k18=>?_
 have c18:=(k18 i1 n1).trans c17;have d18:=(k18 i2 n2).trans d17;clear b17 c17 d17 k18;generalize ho:(⟨v1,v2,v3,v4,v5,v6,v7,v8,v9,gl⟩:OpD)=o at e;have hd:g18 i2=some (.obj (opC o) 39):=by rw[d18,←ho];rfl
 have h64:nC o:=by rw[←ho];exact⟨q1,q6.1,q6.2,q7⟩
 have hc:g18 i1=some (.obj (opC uw) 39):=c18;clear d18 c18 ho;have hnone:∀(g:Heap),RAt h id g s10→nV l=none→mP [opA uw,.b false] g fun r h' =>r=Iz l∧h' =h:=fun g hg en=>
  .mk _ (.refl _) (hg.base m0) ⟨by unfold Iz;rw[en];rfl,rfl⟩
 unfold opC uw au at hc;unfold opC at hd;cases de:Jh s10
 ·have en:nV l=none:=by grind [nV]
  simp only[go_sem,de,hc,ah];exact ae5
 simp only[go_sem,de,hd];refine(Gs o _).pthen ?_;cases df:dF o
 ·exact ahJ
 have hF:=nI df;simp only[go_sem,hd];refine(LP o h64 (f_l hF) _).pthen ?_;simp only[go_sem];rw[hb5];refine(Ck (iU o) l _ _ _).pthen ?_;cases dp:decide (iU o=l)
 ·exact ahJ
 ·have en:nV l=some o:=by grind [nV]
  simp only[go_sem,hc,hd,ah];exact .mk _ (.refl _) ((b18.put m1 n1).base m0) ⟨by unfold Iz;rw[en];rfl,rfl⟩
theorem O0(s q:BitVec 64):IntKind.u64.wrap (IntKind.u64.wrap (((BitVec.ofInt 64 (s.toNat:Int) ^^^ BitVec.ofInt 64 (q.toNat:Int)).toNat:Nat):Int)*1099511628211)=(((s ^^^ q)*1099511628211#64).toNat:Int):=by
 rw[BitVec.ofInt_natCast,BitVec.ofInt_natCast,BitVec.ofNat_toNat,BitVec.ofNat_toNat,BitVec.setWidth_eq,BitVec.setWidth_eq];generalize s ^^^ q=x;rw[Ox _ x.isLt];have e:(x.toNat:Int)*1099511628211=((x.toNat*1099511628211:Nat):Int):=ab7;rw[e,Pw,BitVec.toNat_mul,BitVec.toNat_ofNat]
theorem P0(p:BitVec 64):p.toNat % 256=(p &&& 255#64).toNat:=by
 exact(Nat.and_two_pow_sub_one_eq_mod p.toNat 8).symm
theorem xj(prev:BitVec 64)(y:AV)(l:Txt)(h:Heap)(hb:By h y l)(hl:l.length≤1000000):
  ai Tryz.prog 43 [.v (.int .u64 (prev.toNat:Int)),y] h fun r h' =>r= .v (.int .u64 ((j9 prev l).toNat:Int))∧h' =h:=by
 refine ab6 Tryz.func43 31 [.tmp 4] fun hwf=>?_
 simp only[go_sem];refine .intro (fun k ρ g=>g=h∧∃(i:Nat) (p s:BitVec 64),i+k=8∧Is k p s=Is 8 prev 14695981039346656037#64∧lk ρ 0=some (.v (.int .u64 (p.toNat:Int)))∧lk ρ 1=some y∧lk ρ 5=some (.v (.int .u64 (s.toNat:Int)))∧lk ρ 8=some (.i (i:Int))) 8 ?_ ?_
 ·refine⟨rfl,0,prev,14695981039346656037#64,rfl,rfl,?_,?_,?_,?_⟩<;>simp only[go_sem]
  rfl
 rintro k ρ g ⟨rfl,i,p,s,hk,hv,r0,r1,r5,r8⟩
 rcases k with _|k
 ·have d1:decide ((i:Int)<8)=false:=decide_eq_false ab7
  simp only[go_sem,r0,r1,r5,r8,d1,hb.len];refine .intro (fun k ρ g' =>g' =g∧∃(i:Nat) (s:BitVec 64),i+k=l.length∧(l.drop i).foldl (fun h c=>fnv h c.toNat) s=j9 prev l∧lk ρ 5=some (.v (.int .u64 (s.toNat:Int)))∧lk ρ 18=some y∧lk ρ 19=some (.i (l.length:Int))∧lk ρ 20=some (.i (i:Int))) l.length ?_ ?_
  ·refine⟨rfl,0,s,ab7,by grind [Iu,j9],?_,?_,?_,?_⟩<;>simp only[go_sem,r5,r1]
   all_goals rfl
  clear r0 r1 r5 r8 hv
  rintro k ρ g' ⟨rfl,i,s,hk,hv,r5,r18,r19,r20⟩
  rcases k with _|k
  ·have d1:decide ((i:Int)<(l.length:Int))=false:=decide_eq_false ab7
   simp only[go_sem,r5,r18,r19,r20,d1];rw[List.drop_eq_nil_of_le ab7]at hv;exact .same (.refl _) ⟨by rw[←hv];rfl,rfl⟩
  ·have hlt:i<l.length:=by omega
   have d1:decide ((i:Int)<(l.length:Int))=true:=decide_eq_true ab7;have w1:IntKind.i64.wrap ((i:Int)+1)=((i+1:Nat):Int):=acn;rw[List.drop_eq_getElem_cons hlt]at hv;simp only[go_sem,r5,r18,r19,r20,d1];refine hb.idx i rfl hlt u5 u5a fun q hq=>?_
   generalize l[i]=c at hq hv;have hcl:=c.toNat_lt;have w2:IntKind.u64.wrap (c.toNat:Int)=((BitVec.ofNat 64 c.toNat).toNat:Int):=acr;have hx:=hq (fun v=>v=aK c)
   simp only[go_sem,r5,r18,r19,r20,hq _,aK,w2,w1];refine⟨k,ab7,rfl,i+1,fnv s c.toNat,ab7,ab8,?_,?_,?_,?_⟩<;>simp only[go_sem,r18,r19,fnv]
   exact congrArg (fun z=>some (AV.v (Value.int IntKind.u64 z))) (O0 s _)
 ·have d1:decide ((i:Int)<8)=true:=decide_eq_true ab7
  have w1:IntKind.i64.wrap ((i:Int)+1)=((i+1:Nat):Int):=acn;have e8:p.toNat / 256=(p>>>8).toNat:=aeu;have hp:=p.isLt;simp only[go_sem,r0,r1,r5,r8,d1,w1,show p.toNat<18446744073709551616 from hp,P0,e8]
  refine⟨k,ab7,rfl,i+1,p>>>8,fnv s (p &&& 255#64).toNat,ab7,by grind [It],?_,?_,?_,?_⟩<;>simp only[go_sem,r1,fnv,BitVec.ofNat_toNat,BitVec.setWidth_eq]
  exact congrArg (fun z=>some (AV.v (Value.int IntKind.u64 z))) (O0 s _)
def js(s:an):List AV:=[.i s.tick,fZ s.cases,j4 s.reviews,kY s.notices,dZ s.roles]++fW s.policy++ [.i s.version]
def lD(jid:Nat)(e:cL)(yl:AV):Blk:=.obj ([.ptr jid 0]++js e.s++ [yl,.v (.int .u64 (e.ch.toNat:Int))]) 92
theorem cO(s:an):∃a1 a2 a3 a4 a5 a6 a7,js s= [.i s.tick,fZ s.cases,j4 s.reviews,kY s.notices,dZ s.roles,a1,a2,a3,a4,a5,a6,a7,.i s.version]:=by
 obtain⟨tick,cases,reviews,notices,roles,policy,version⟩:=s;obtain⟨id,set,alg,tgt,rules,kids,obls⟩:=policy;exact⟨_,_,_,_,_,_,_,rfl⟩
def AN(e:cL)(l:Txt):AV:=.tup [opA ((iP e l).getD uw),.v (.bool (iP e l).isSome)]
theorem Gw{l:Txt}{o:OpD}(hl:l.length≤1000000)(h:nV l=some o):nC o:=by
 unfold nV at h;split at h
 ·cases h
  have w0:WfR ⟨l,0,false⟩:=⟨Nat.zero_le _,hl⟩;have w1:WfR (gj ⟨l,0,false⟩).2:=lI w0;have w2:=gD (most:=16) w1 acd;have w3:=gD (most:=16) w2 acd;have w4:=gD (most:=16) w3 acd;have w5:=gD (most:=16) w4 acd;exact⟨tF w0,(BS w5).1,(BS w5).2,tF (He w5)⟩
 grind
theorem KD(l:Txt)(q:Perm)(e:cL)(yl:AV)(jid x:Nat)(h:Heap)(hl:l.length≤900000)(hx:h x=some (lD jid e yl)):ai Tryz.prog 37 [.ptr x 0,.sl (l.map aK) q] h fun r h' =>r=AN e l∧h' =h:=by
 obtain⟨a1,a2,a3,a4,a5,a6,a7,es⟩:=cO e.s;have g:=hx;unfold lD at g;rw[es]at g;simp only[List.cons_append,List.nil_append]at g;refine ab6 Tryz.func37 33 [.cell 4 39,.tmp 5] fun hwf=>?_
 simp only[go_sem];intro i1 h1;have n1:i1≠x:=fun e=>ab8
 by_cases hs:l.length<8
 ·have d1:decide ((l.length:Int)<8)=true:=decide_eq_true ab7
  have er:iP e l=none:=by simp_all [iP,if_pos]
  simp only[go_sem,abX,d1,ah];exact .mk _ (.refl _) ((Sub.refl h).new h1 _) ⟨afn,rfl⟩
 have d1:decide ((l.length:Int)<8)=false:=decide_eq_false ab7;simp only[go_sem,abX,d1];refine⟨ab7,ab7,?_⟩;refine(KN (l.drop 8) _ ab8 _).pthen ?_;have er0:iP e l=(match nV (l.drop 8)with|some o=>if cN e.ch o=l then some o else none|none=>none):=by unfold iP;grind
 cases hg:nV (l.drop 8)with
 |none=>
  have er:iP e l=none:=ab8;simp only[go_sem,Iz,hg,opA,opC,uw,au,Option.getD,Option.isSome];intro i2 h2;have n2:=aC h2;have n21:=aH h2;simp only[go_sem,ak,n21,n21.symm,n1,n1.symm];generalize hH:upd (upd h i1 _) i2 _=H;have k1:H i1=some (.obj (opC uw) 39):=adq;have k2:H i2=some (.obj (opC uw) 39):=aeg;have kx:H x=some (lD jid e yl):=by
   rw[←hH,ag _ _ (fun e2=>ab8),ag _ _ (Ne.symm n1)];omega
  have hsub:Ab.Sub h H:=acO;clear hH g;unfold lD at kx;rw[es]at kx;simp only[List.cons_append,List.nil_append]at kx;unfold opC uw au at k1;refine .quiet ace ?_;simp only[go_sem];simp only[go_sem,k1,ah];exact ahu
 |some o=>
  obtain⟨hf,hp⟩:=get_some hg;have h64:=Gw ab8 hg;have er1:iP e l=if cN e.ch o=l then some o else none:=ab8
  simp only[go_sem,Iz,hg,opA,opC,Option.getD,Option.isSome];intro i2 h2;have n2:=aC h2;have n21:=aH h2;simp only[go_sem,ak,n21,n21.symm,n1,n1.symm];generalize hH:upd (upd h i1 _) i2 _=H;have k1:H i1=some (.obj (opC uw) 39):=adq;have k2:H i2=some (.obj (opC o) 39):=aeg;have kx:H x=some (lD jid e yl):=by
   rw[←hH,ag _ _ (fun e2=>ab8),ag _ _ (Ne.symm n1)];omega
  have hsub:Ab.Sub h H:=acO;clear hH g;unfold lD at kx;rw[es]at kx;simp only[List.cons_append,List.nil_append]at kx;unfold opC uw au at k1;unfold opC at k2;refine .quiet ace ?_;simp only[go_sem,kx,k2];refine⟨_,BV e.ch o h64 (f_l (nI hf)) ab8 _,?_⟩;simp only[go_sem];refine⟨_,Ck (cN e.ch o) l _ _ _,?_⟩;cases dp:decide (cN e.ch o=l)
  ·have er:iP e l=none:=by grind
   simp only[go_sem,k1,ah];exact ahu
  ·have er:iP e l=some o:=by grind
   simp only[go_sem,k1,k2,ah];exact ahu
def ldA(d:pS):AV:=.agg (xq d)
def mO(h:Heap)(y:AV)(ds:List pS)(sp:List Nat):Prop:=(y= .sl [] .full∧ds= []∧sp= [])∨∃k,y= .sl (ds.map ldA) (.own k)∧h k=some (.spare ds.length 16)∧sp= [k]
theorem uD:(U 68).sz=16:=acr
theorem mO.row{h:Heap}{y:AV}{ds:List pS}{sp:List Nat}(hg:mO h y ds sp):∃q,y= .sl (ds.map ldA) q:=by
 rcases hg with⟨rfl,rfl,_⟩|⟨k,rfl,_⟩<;>exact⟨_,rfl⟩
theorem mO.touch{h h' :Heap}{y:AV}{ds:List pS}{sp S:List Nat}(hg:mO h y ds sp)(ht:Touch S h h')(hn:∀i∈sp,i∉S):mO h' y ds sp:=by
 rcases hg with⟨rfl,rfl,rfl⟩|⟨k,rfl,k1,rfl⟩
 ·exact .inl ⟨rfl,rfl,rfl⟩
 ·exact .inr ⟨k,rfl,ht _ _ (hn k aci) k1,rfl⟩
theorem mO.has{h:Heap}{y:AV}{ds:List pS}{sp:List Nat}(hg:mO h y ds sp):∀i∈sp,∃n,h i=some (.spare n 16):=by
 rcases hg with⟨rfl,rfl,rfl⟩|⟨k,rfl,k1,rfl⟩
 ·simp
 grind
theorem Da(ds:List pS):Sized 16 (ds.map ldA):=fun z hz=>by
 obtain⟨d,_,rfl⟩:=List.mem_map.1 hz;rfl
theorem uDb:∃n,(U 68).bytes=n∧n≠0∧n≤1000:=⟨_,rfl,acd,acd⟩
theorem mO.app{h:Heap}{y:AV}{ds:List pS}{d:pS}{q:Perm}{sp:List Nat}{Q:AV→Heap→Prop}(hg:mO h y ds sp)(hl:ds.length≤1000000)
  (hk:∀y' h' sp',mO h' y' (ds++ [d]) sp'→Touch sp h h'→(∀i∈sp',i∈sp∨h i=none)→Q y' h'):apK U h y (.sl [ldA d] q) Q (.slice 68):=by
 obtain⟨n,hb,hb0,hb1⟩:=uDb;have hm:(ds.length+1)*n≤140737488355328:=by
  have:=Nat.mul_le_mul (show ds.length+1≤1000001 by omega) hb1
  omega
 have s2:Sized 16 [ldA d]:=Da [d];rcases hg with⟨rfl,rfl,rfl⟩|⟨k,rfl,k1,rfl⟩
 ·refine(pV ..).mpr ⟨acd,ab7,?_⟩
  refine⟨by simp[Sized],by grind [uD],ab8,And.intro (fun hn=>by cases hn) (fun hn=>nO.own fun id hid=>?_)⟩
  rw[uD];exact hk _ _ [id] (.inr ⟨id,rfl,af6,rfl⟩) (.of ((Ab.Sub.refl h).new hid _)) ab8
 ·refine(Bm ..).mpr ⟨acd,ab7,?_⟩
  refine⟨by grind [uD,Da],by grind [uD],ab8,by grind [uD],?_⟩
  rw[uD];exact hk _ _ [k] (.inr ⟨k,aci,af6,rfl⟩) .upd aci
theorem Gx(e:cL)(s:an)(d:pS)(p:Txt)(q:Perm)(jid x:Nat)(yl:AV)(sp:List Nat)(h:Heap)(hx:h x=some (lD jid e yl))(hg:mO h yl e.log sp)(hl:e.log.length≤1000000)(hp:p.length≤1000000):
  ai Tryz.prog 38 [.ptr x 0,cK s,.agg (xq d),.sl (p.map aK) q] h fun r h' =>r= .tup []∧∃yl' sp',h' x=some (lD jid {e with s:=s,log:=e.log++ [d],ch:=j9 e.ch p} yl')∧mO h' yl' (e.log++ [d]) sp'∧Touch (x::sp) h h'∧(∀i∈sp',i∈sp∨h i=none):=by
 obtain⟨a1,a2,a3,a4,a5,a6,a7,es⟩:=cO e.s;obtain⟨b1,b2,b3,b4,b5,b6,b7,es2⟩:=cO s;have g:=hx;unfold lD at g;rw[es]at g;simp only[List.cons_append,List.nil_append]at g;rw[show cK s= .agg (js s)from rfl,es2]
 refine ai.of_wp hU Tryz.func38 rfl acr 31 rfl [] rfl (abW rfl) ?_;refine .one hU hm ?_;simp only[go_sem];intro i1 h1;simp only[go_sem,xq,opC];intro i2 h2;have n2:=aC h2;have n21:=aH h2;have x1:i1≠x:=fun e=>aeU
 have x2:i2≠x:=fun e=>aeV
 generalize hH:upd (upd h i1 _) i2 _=H;have k1:H i1=some (.obj [.i s.tick,fZ s.cases,j4 s.reviews,kY s.notices,dZ s.roles,b1,b2,b3,b4,b5,b6,b7,.i s.version] 63):=by rw[←hH,ag _ _ (Ne.symm n21),ah]
 have k2:H i2=some (.obj [.i d.op.kind,.s d.op.subj,.s d.op.case,.s d.op.field,.s d.op.to,.i d.op.val.kind,.i d.op.val.n,.s d.op.val.s,.i d.op.review,.s d.op.text,.s d.op.reason,.b d.op.glass,.i d.version,aR d.mark,.b d.glass,aA d.obls] 68):=by rw[←hH,ah]
 have kx:H x=_:=(by rw[←hH,ag _ _ (Ne.symm x2),ag _ _ (Ne.symm x1)]:H x=h x).trans g
 have hsub:Ab.Sub h H:=acO;clear hH g;simp only[go_sem];refine .one hU hm ?_;simp only[go_sem,kx,k1];generalize hK:upd H x _=K;have kx2:K x=some (.obj [.ptr jid 0,.i s.tick,fZ s.cases,j4 s.reviews,kY s.notices,dZ s.roles,b1,b2,b3,b4,b5,b6,b7,.i s.version,yl,.v (.int .u64 (e.ch.toNat:Int))] 92):=by rw[←hK,ah]
 have k22:K i2=_:=(by rw[←hK,ag _ _ x2]:K i2=H i2).trans k2
 have hT:Touch [x] H K:=by rw[←hK];exact .upd
 clear hK
 show WP _ _ _ _ _ _
 refine .one hU hm ?_;simp only[go_sem];refine .last (hm2 x (.obj [.ptr jid 0,.i s.tick,fZ s.cases,j4 s.reviews,kY s.notices,dZ s.roles,b1,b2,b3,b4,b5,b6,b7,.i s.version,yl,.v (.int .u64 (e.ch.toNat:Int))] 92) i2 (.obj [.i d.op.kind,.s d.op.subj,.s d.op.case,.s d.op.field,.s d.op.to,.i d.op.val.kind,.i d.op.val.n,.s d.op.val.s,.i d.op.review,.s d.op.text,.s d.op.reason,.b d.op.glass,.i d.version,aR d.mark,.b d.glass,aA d.obls] 68)) [0,1,2,3,4,5,6,7,8,9] (.hm2 kx2 k22) ace rfl ace rfl ?_;simp only[go_sem,kx2,k22,qX _ _ (Ne.symm x2),qY];have hno:∀i∈sp,i≠x∧i≠i1∧i≠i2:=fun i hi=>by
  obtain⟨n,hn⟩:=hg.has i hi;exact⟨fun e=>(by rw[e,hx]at hn;cases hn),fun e=>ab8,fun e=>ab8⟩
 have hgK:mO K yl e.log sp:=(hg.touch (S:=[]) (.of hsub) aci).touch hT ab8;refine hgK.app hl fun z G sp' hg4 ht4 hsp' =>?_
 have kx3:=ht4 _ _ ab8 kx2;have k23:=ht4 _ _ ab8 k22;have xG:∀i∈sp',i≠x:=fun i hi e2=>by
  obtain⟨n,hn⟩:=hg4.has i hi;rw[e2,kx3]at hn;cases hn
 refine⟨.hm2 kx3 k23,?_⟩;have hrow:=hg4.row;obtain⟨qz,ez⟩:=hrow;subst ez;simp only[go_sem,kx3];refine .vc hU hm ?_;simp only[go_sem,ah];refine(xj e.ch _ p _ (.sl _ _) hp).pthen ?_;simp only[go_sem,ah,nu];have hF:Touch [x] G (upd G x (some (.obj [.ptr jid 0,.i s.tick,fZ s.cases,j4 s.reviews,kY s.notices,dZ s.roles,b1,b2,b3,b4,b5,b6,b7,.i s.version,(.sl ((e.log++ [d]).map ldA) qz),.v (.int .u64 ((j9 e.ch p).toNat:Int))] 92))):=.upd;refine .same (.refl _) ⟨rfl,_,sp',?_,hg4.touch hF ab8,?_,fun i hi=>?_⟩
 ·simp_all [lD,ah]
 ·exact((((Touch.of (S:=[]) hsub).trans hT).trans ht4).trans hF).mono ab8
 ·rcases hsp' i hi with h3|h3
  ·grind
  ·right
   have:K i=none:=h3;cases hh:h i with
   |none=>rfl
   |some b=>
    have hxi:i≠x:=xG i hi;have:=hT _ _ ab8 (hsub _ _ hh);rw[h3]at this;cases this
def iW(h:Heap)(x jid did:Nat)(e:cL)(spl spj:List Nat):Prop:=
 ∃yl,h x=some (lD jid e yl)∧mO h yl e.log spl∧JAt h 160 jid did e.ps e.down spj
theorem Ko(x jid did:Nat)(e:cL)(spl spj:List Nat)(h:Heap)(he:iW h x jid did e spl spj):ai Tryz.prog 27 [.ptr x 0] h fun r h' =>r= .v (.int .u64 (e.ch.toNat:Int))∧h' =h:=by
 obtain⟨yl,hx,hg,hj⟩:=he;obtain⟨a1,a2,a3,a4,a5,a6,a7,es⟩:=cO e.s;have g:=hx;unfold lD at g;rw[es]at g;refine ab6 Tryz.func27 7 [.tmp 2] fun hwf=>?_
 simp only[go_sem,g];exact aco
theorem vo(x jid did:Nat)(e:cL)(spl spj:List Nat)(h:Heap)(he:iW h x jid did e spl spj)(hl:e.ps.length≤1000000)(hp:∀p∈e.ps,p.length≤1000000):ai Tryz.prog 11 [.ptr x 0] h fun r h' =>∃q,r= .sl (e.ps.map cD) q∧Ab.Sub h h' :=by
 obtain⟨yl,hx,hg,hj⟩:=he;have g:=hx;unfold lD at g;refine ab6 Tryz.func11 8 [.tmp 2] fun hwf=>?_
 simp only[go_sem,g];refine(yJ jid did e.ps e.down spj h hj hl hp).mono fun r h' ⟨q,e1,hs⟩=>?_
 subst e1;simp only[go_sem];exact .same (.refl _) ⟨q,rfl,hs⟩
theorem Nc(x jid did:Nat)(e:cL)(spl spj:List Nat)(o:OpD)(h:Heap)(he:iW h x jid did e spl spj)(hd:e.down=true):ai Tryz.prog 10 [.ptr x 0,opA o] h fun r h' =>r= .agg (lJ (Bu 9))∧h' =h:=by
 obtain⟨yl,hx,hg,hj⟩:=he;have g:=hx;unfold lD at g;refine ab6 Tryz.func10 53 [.cell 4 35] fun hwf=>?_
 simp only[go_sem,opA,opC];intro i1 h1;have x1:i1≠x:=fun e=>ab8
 simp only[go_sem];intro i2 h2;have n2:=aC h2;have x2:i2≠x:=fun e=>ab8
 generalize hH:upd (upd h i1 _) i2 _=H;have kx:H x=_:=(by rw[←hH,ag _ _ (Ne.symm x2),ag _ _ (Ne.symm x1)]:H x=h x).trans g
 have k2:H i2=some (.obj nw 35):=aeg;have hsub:Ab.Sub h H:=acO;unfold nw at k2;simp only[go_sem,kx];refine(wB jid did e.ps e.down spj H (hj.sub hsub)).pthen ?_;rw[hd];simp only[go_sem,k2,ah];refine .mk _ (.refl _) (hsub.put n2 _) ⟨?_,rfl⟩;rfl
theorem oK(s:an)(r:j8)(d:pS)(e:Int):jL (s,r,d,e)= .tup [cK s,.agg [.i r.err,.v (.complex .f64 (hbit r.mark.1) (hbit r.mark.2)),.b r.glass,.i r.val.kind,.i r.val.n,.s r.val.s,.b r.hidden,.i r.at_],.agg [.i d.op.kind,.s d.op.subj,.s d.op.case,.s d.op.field,.s d.op.to,.i d.op.val.kind,.i d.op.val.n,.s d.op.val.s,.i d.op.review,.s d.op.text,.s d.op.reason,.b d.op.glass,.i d.version,.v (.complex .f64 (hbit d.mark.1) (hbit d.mark.2)),.b d.glass,.sl (d.obls.map br) .no],.i e]:=rfl
theorem Qh(x jid did:Nat)(e:cL)(spl spj:List Nat)(o:OpD)(h:Heap)(he:iW h x jid did e spl spj)(hd:e.down=false){k:Nat}(hG:iQ k e.s)(hk:k≤1000)(h64:nC o)(her:j7 h)(hne:(aP e.s o).2.2.2≠0):ai Tryz.prog 10 [.ptr x 0,opA o] h fun r h' =>r= .agg (lJ (aP e.s o).2.1)∧h' =h:=by
 have hgd:=fun(G:Heap) (hG' :Ab.Sub h G)=>oJ e.s hG hk o h64 G (her.sub hG')
 have he0:=he;obtain⟨yl,hx,hg,hj⟩:=he;obtain⟨a1,a2,a3,a4,a5,a6,a7,es⟩:=cO e.s;have g:=hx;unfold lD at g;rw[es]at g;simp only[List.cons_append,List.nil_append]at g;refine ab6 Tryz.func10 53 [.cell 4 35] fun hwf=>?_
 simp only[go_sem,opA,opC];intro i1 h1;have x1:i1≠x:=fun e=>aeU
 simp only[go_sem];intro i2 h2;have n2:=aC h2;have x2:i2≠x:=fun e=>aeV
 have n21:=aH h2;generalize hH:upd (upd h i1 _) i2 _=H;have kx:H x=_:=(by rw[←hH,ag _ _ (Ne.symm x2),ag _ _ (Ne.symm x1)]:H x=h x).trans g
 have k2:H i2=some (.obj nw 35):=aeg;have k1:H i1=some (.obj (opC o) 39):=adq;have hsub:Ab.Sub h H:=acO;clear hH g;unfold nw at k2;simp only[go_sem,kx];refine(wB jid did e.ps e.down spj H (hj.sub hsub)).pthen ?_;rw[hd];generalize aP e.s o=gd at hgd hne⊢;obtain⟨S,R,D,E⟩:=gd;simp only at hne⊢;obtain⟨b1,b2,b3,b4,b5,b6,b7,es2⟩:=cO S;rw[oK,show cK e.s= .agg (js e.s)from rfl,es,show cK S= .agg (js S)from rfl,es2]at hgd
 simp only[opA,opC]at hgd;unfold opC at k1;simp only[go_sem];refine .tree _ (.quiet [0,1,2,3,4] 5 (.news [6,7,8,9,10] [11,12,13] (.seq [14,15,16,17]))) (.refl _) ace rfl ?_;simp only[go_sem,kx,k1];refine⟨_,fun G hs=>hgd G (hsub.trans hs),?_⟩
 simp only[go_sem];refine⟨.refl _,aci,?_⟩;intro jd hjd je hje jf hjf;have ned:=aH hje;have kje:=aC hje;have nfe:=aH hjf;have nfd:=aH (aC hjf);have kjf:=aC (aC hjf);simp only[go_sem,ak,ned,ned.symm,nfe,nfe.symm,nfd,nfd.symm];refine⟨ack,ack,ack,?_⟩;have mjd:=hsub.none hjd;have mje:=hsub.none kje;have mjf:=hsub.none kjf;have j2:jd≠i2:=fun e=>afE
 have j2e:je≠i2:=fun e=>afF
 have j2f:jf≠i2:=fun e=>afG
 have dE:(E==0)=false:=beq_eq_false_iff_ne.mpr hne;have dE2:(E !=0)=true:=bne_iff_ne.mpr hne;simp only[go_sem,ak,dE,dE2,ned,ned.symm,nfe,nfe.symm,nfd,nfd.symm,j2,j2.symm,j2e,j2e.symm,j2f,j2f.symm,k2];refine .mk _ (.refl _) ?_ ⟨rfl,rfl⟩
 repeat (first|exact hsub|refine Ab.Sub.put ?_ acm _)
theorem Gj{P:Program}{U:TypeId→TI}{n:Nat}{l:List Oper}{ρ:Env}{h:Heap}{K:Exit→Env→Heap→Prop}(hh:∀H2,H2=h→lM P U n l ρ H2 K):lM P U n l ρ h K:=hh h rfl
theorem bM.upd{h:Heap}{id i:Nat}{d:D}{cs:List AV}{t:TypeId}{b:Option Blk}(hd:bM h id d)(hi:h i=some (.obj cs t))(h1:t≠87)(h2:t≠5):bM (Ab.upd h i b) id d:=by
 obtain⟨y,hy,hb⟩:=hd;refine⟨y,?_,?_⟩
 ·grind [ag,Option.some.inj]
 ·rcases hb with hb|⟨j,off,cs2,rfl,a1,a2,a3⟩
  ·exact afZ
  ·refine .oa ?_ a2 a3
   grind [ag,Option.some.inj]
theorem Qj(x jid did:Nat)(e:cL)(d:D)(spl spj:List Nat)(o:OpD)(h:Heap)(he:iW h x jid did e spl spj)(hdk:bM h did d)(hdo:d.ok)(hps:e.ps.length≤1000000)(hlg:e.log.length≤1000000)(hd:e.down=false){k:Nat}(hG:iQ k e.s)(hk:k≤1000)(h64:nC o)(her:j7 h)(hne:(aP e.s o).2.2.2=0)(hcode:(jadd d e.ps false (cN e.ch o)).2≠0):
  ai Tryz.prog 10 [.ptr x 0,opA o] h fun r h' =>r= .agg (lJ (doE e d o).2.2)∧∃spl' spj',iW h' x jid did (doE e d o).1 spl' spj'∧bM h' did (doE e d o).2.1∧Touch (x::did::jid::(spl++spj)) h h'∧(∀i∈spl',i∈spl∨h i=none)∧(∀i∈spj',i∈spj∨h i=none):=by
 have hF:=nI (ia hne);have hrl:=rq (h:=e.ch) hF;have hpl:=wH hF;have edo:doE e d o=(let a:=jadd d e.ps false (cN e.ch o);if a.2=0 then({mz e (aP e.s o) (cN e.ch o)with ps:=a.1.2.1,down:=a.1.2.2},a.1.1,(aP e.s o).2.1)else({e with ps:=a.1.2.1,down:=a.1.2.2},a.1.1,Bu (a.2:Int))):=by
  exact ahG
 have hgd:=fun(G:Heap) (hG' :Ab.Sub h G)=>oJ e.s hG hk o h64 G (her.sub hG')
 have he0:=he;obtain⟨yl,hx,hg,hj⟩:=he;obtain⟨a1,a2,a3,a4,a5,a6,a7,es⟩:=cO e.s;have g:=hx;unfold lD at g;rw[es]at g;simp only[List.cons_append,List.nil_append]at g;refine ab6 Tryz.func10 53 [.cell 4 35] fun hwf=>?_
 simp -implicitDefEqProofs only[go_sem,opA,opC];intro i1 h1;have x1:i1≠x:=fun e=>aeU
 simp -implicitDefEqProofs only[go_sem];intro i2 h2;have n2:=aC h2;have x2:i2≠x:=fun e=>aeV
 have n21:=aH h2;generalize hH:upd (upd h i1 _) i2 _=H;have kx:H x=_:=(by rw[←hH,ag _ _ (Ne.symm x2),ag _ _ (Ne.symm x1)]:H x=h x).trans g
 have k2:H i2=some (.obj nw 35):=aeg;have k1:H i1=some (.obj (opC o) 39):=adq;have hsub:Ab.Sub h H:=acO;clear hH g;unfold nw at k2;simp -implicitDefEqProofs only[go_sem,kx];refine(wB jid did e.ps e.down spj H (hj.sub hsub)).pthen ?_;rw[hd];generalize aP e.s o=gd at hgd hne edo⊢;obtain⟨S,R,D,E⟩:=gd;simp only at hne edo⊢;subst hne;obtain⟨b1,b2,b3,b4,b5,b6,b7,es2⟩:=cO S;rw[oK,show cK e.s= .agg (js e.s)from rfl,es,show cK S= .agg (js S)from rfl,es2]at hgd
 simp only[opA,opC]at hgd;unfold opC at k1;simp -implicitDefEqProofs only[go_sem];refine .tree _ (.quiet [0,1,2,3,4] 5 (.news [6,7,8,9,10] [11,12,13] (.seq [14,15,16,17]))) (.refl _) ace rfl ?_;simp -implicitDefEqProofs only[go_sem,kx,k1];refine⟨_,fun G hs=>hgd G (hsub.trans hs),?_⟩
 simp -implicitDefEqProofs only[go_sem];refine⟨.refl _,aci,?_⟩;intro jd hjd je hje jf hjf;have ned:=aH hje;have kje:=aC hje;have nfe:=aH hjf;have nfd:=aH (aC hjf);have kjf:=aC (aC hjf);simp -implicitDefEqProofs only[go_sem,ak,ned,ned.symm,nfe,nfe.symm,nfd,nfd.symm];refine⟨ack,ack,ack,?_⟩;have mjd:=hsub.none hjd;have mje:=hsub.none kje;have mjf:=hsub.none kjf;have j2:jd≠i2:=fun e=>afE
 have j2e:je≠i2:=fun e=>afF
 have j2f:jf≠i2:=fun e=>afG
 refine Gj fun H2 w2=>?_
 have xjd:jd≠x:=fun e=>afI
 have xje:je≠x:=fun e=>afJ
 have xjf:jf≠x:=fun e=>afK
 have y1:jd≠i1:=fun e=>by rw[e,k1]at hjd;cases hjd
 have y2:je≠i1:=fun e=>by rw[e,k1]at kje;cases kje
 have y3:jf≠i1:=fun e=>by rw[e,k1]at kjf;cases kjf
 have hs2:Ab.Sub h H2:=adZ;have fx:H2 x=_:=(by rw[w2];simp only[ak,xjd,xjd.symm,xje,xje.symm,xjf,xjf.symm,ne_eq,not_false_eq_true]:H2 x=H x).trans kx
 have f1:H2 i1=_:=(by rw[w2];simp only[ak,y1,y1.symm,y2,y2.symm,y3,y3.symm,ne_eq,not_false_eq_true]:H2 i1=H i1).trans k1
 have f2:H2 i2=_:=(by rw[w2];simp only[ak,j2,j2.symm,j2e,j2e.symm,j2f,j2f.symm,ne_eq,not_false_eq_true]:H2 i2=H i2).trans k2
 have fd:H2 jd=some (.obj [.i S.tick,fZ S.cases,j4 S.reviews,kY S.notices,dZ S.roles,b1,b2,b3,b4,b5,b6,b7,.i S.version] 63):=acy;have fe:H2 je=some (.obj [.i R.err,.v (.complex .f64 (hbit R.mark.1) (hbit R.mark.2)),.b R.glass,.i R.val.kind,.i R.val.n,.s R.val.s,.b R.hidden,.i R.at_] 35):=acy;have ff:H2 jf=some (.obj (xq D) 68):=ac1;clear w2;refine .quiet ace ?_;simp -implicitDefEqProofs only[go_sem,fx,f1];refine⟨_,BV e.ch o h64 (f_l hF) ab7 _,?_⟩;simp -implicitDefEqProofs only[go_sem,fx];refine(GH d hdo did jid e.ps e.down spj H2 _ (cN e.ch o) (hdk.keep hs2.eW) (hj.sub hs2) (.sl _ _) ab7 hps).mono fun r H3 ⟨er,spj',hd3,hj3,hT3,hs3⟩=>?_
 subst er;have hin:∀q∈did::jid::spj,∃b,h q=some b∧∀cs,b≠ .obj cs 92:=fun q hq=>by
  exact agD
 have out:∀q,h q=none→q∉did::jid::spj:=fun q hq hi=>by
  obtain⟨b,hb,_⟩:=hin q hi;rw[hq]at hb;cases hb
 have outx:x∉did::jid::spj:=fun hi=>by
  exact ahM
 have fx3:=hT3 _ _ outx fx;have f23:=hT3 _ _ (out i2 n2) f2;have fd3:=hT3 _ _ (out jd mjd) fd;have fe3:=hT3 _ _ (out je mje) fe;have ff3:=hT3 _ _ (out jf mjf) ff;rw[hd]at hd3 hj3⊢;generalize jadd d e.ps false (cN e.ch o)=a at hd3 hj3 edo hcode⊢;obtain⟨⟨d2,ps2,dn2⟩,code⟩:=a;simp only at hd3 hj3 edo hcode⊢;cases dc:((code:Int)==0)
 ·have hc:code≠0:=fun e2=>by subst e2;cases dc
  have dc2:((code:Int) !=0)=true:=by rw[bne,dc];rfl
  rw[if_neg hc]at edo;simp -implicitDefEqProofs only[go_sem,dc2,f23,ah];have hsp:∀i∈spl,i∉did::jid::spj:=fun i hi hq=>by
   exact agC
  have hg3:=(hg.touch (S:=[]) (.of hs2) (fun i hi hh=>adz)).touch hT3 hsp
  have hnl:∀i∈spl,i∉ [i2]:=fun i hi hh=>by
   obtain⟨n,hn⟩:=hg.has i hi;rw[List.mem_singleton.1 hh,n2]at hn;cases hn
  have hF4:∀b,Touch [i2] H3 (upd H3 i2 b):=fun b=> .upd
  have hj3' :=hj3;obtain⟨z,zs,hz1,hz2,_⟩:=hj3';refine .same (.refl _) ⟨by rw[edo];rfl,spl,spj',?_,?_,?_,fun i hi=> .inl hi,fun i hi=>?_⟩
  ·rw[edo]
   refine⟨yl,?_,hg3.touch (hF4 _) hnl,hj3.touch (hF4 _) ?_ ?_⟩
   ·rw[ag _ _ (Ne.symm x2),fx3]
    unfold lD;rw[es];rfl
   ·intro hh
    rw[List.mem_singleton.1 hh,f23]at hz1;cases hz1
   ·intro i hi hh
    obtain⟨n,hn⟩:=hz2.has i hi;rw[List.mem_singleton.1 hh,f23]at hn;cases hn
  ·rw[edo]
   exact hd3.upd f23 acd acd
  ·exact(((Touch.of (S:=[]) hs2).trans hT3).trans (hF4 _)).mono (fun i hi=>by
    simp only[List.nil_append,List.mem_append,List.mem_cons,List.mem_singleton,List.not_mem_nil,or_false]at hi;rcases hi with(h3|h3|h3)|h3
    ·left;simp[h3]
    ·left;simp[h3]
    ·left;simp[h3]
    ·right;rw[h3];exact n2)
  ·rcases hs3 i hi with h3|h3
   ·exact .inl h3
   ·right;exact hs2.none h3
 ·exact absurd (eq_of_beq dc) ab7
theorem bM.touch{h h' :Heap}{id:Nat}{d:D}{S:List Nat}(hd:bM h id d)(ht:Touch S h h')(hS:∀i∈S,∀cs,h i≠some (.obj cs 87)∧h i≠some (.obj cs 5)):bM h' id d:=by
 obtain⟨y,hy,hb⟩:=hd;refine⟨y,ht _ _ ab8 hy,?_⟩;rcases hb with hb|⟨j,off,cs2,rfl,a1,a2,a3⟩
 ·exact afZ
 ·exact .oa (ht _ _ ab8 a1) a2 a3
theorem Qi(x jid did:Nat)(e:cL)(d:D)(spl spj:List Nat)(o:OpD)(h:Heap)(he:iW h x jid did e spl spj)(hdk:bM h did d)(hdo:d.ok)(hps:e.ps.length≤1000000)(hlg:e.log.length≤1000000)(hd:e.down=false){k:Nat}(hG:iQ k e.s)(hk:k≤1000)(h64:nC o)(her:j7 h)(hne:(aP e.s o).2.2.2=0)(hcode:(jadd d e.ps false (cN e.ch o)).2=0):
  ai Tryz.prog 10 [.ptr x 0,opA o] h fun r h' =>r= .agg (lJ (doE e d o).2.2)∧∃spl' spj',iW h' x jid did (doE e d o).1 spl' spj'∧bM h' did (doE e d o).2.1∧Touch (x::did::jid::(spl++spj)) h h'∧(∀i∈spl',i∈spl∨i∈spj∨h i=none)∧(∀i∈spj',i∈spj∨h i=none):=by
 have hF:=nI (ia hne);have hrl:=rq (h:=e.ch) hF;have hpl:=wH hF;have edo:doE e d o=(let a:=jadd d e.ps false (cN e.ch o);if a.2=0 then({mz e (aP e.s o) (cN e.ch o)with ps:=a.1.2.1,down:=a.1.2.2},a.1.1,(aP e.s o).2.1)else({e with ps:=a.1.2.1,down:=a.1.2.2},a.1.1,Bu (a.2:Int))):=by
  exact ahG
 have hgd:=fun(G:Heap) (hG' :Ab.Sub h G)=>oJ e.s hG hk o h64 G (her.sub hG')
 have he0:=he;obtain⟨yl,hx,hg,hj⟩:=he;obtain⟨a1,a2,a3,a4,a5,a6,a7,es⟩:=cO e.s;have g:=hx;unfold lD at g;rw[es]at g;simp only[List.cons_append,List.nil_append]at g;refine ab6 Tryz.func10 53 [.cell 4 35] fun hwf=>?_
 simp -implicitDefEqProofs only[go_sem,opA,opC];intro i1 h1;have x1:i1≠x:=fun e=>aeU
 simp -implicitDefEqProofs only[go_sem];intro i2 h2;have n2:=aC h2;have x2:i2≠x:=fun e=>aeV
 have n21:=aH h2;generalize hH:upd (upd h i1 _) i2 _=H;have kx:H x=_:=(by rw[←hH,ag _ _ (Ne.symm x2),ag _ _ (Ne.symm x1)]:H x=h x).trans g
 have k2:H i2=some (.obj nw 35):=aeg;have k1:H i1=some (.obj (opC o) 39):=adq;have hsub:Ab.Sub h H:=acO;clear hH g;unfold nw at k2;simp -implicitDefEqProofs only[go_sem,kx];refine(wB jid did e.ps e.down spj H (hj.sub hsub)).pthen ?_;rw[hd];generalize aP e.s o=gd at hgd hne edo⊢;obtain⟨S,R,D,E⟩:=gd;simp only at hne edo⊢;subst hne;obtain⟨b1,b2,b3,b4,b5,b6,b7,es2⟩:=cO S;rw[oK,show cK e.s= .agg (js e.s)from rfl,es,show cK S= .agg (js S)from rfl,es2]at hgd
 simp only[opA,opC]at hgd;unfold opC at k1;simp -implicitDefEqProofs only[go_sem];refine .tree _ (.quiet [0,1,2,3,4] 5 (.news [6,7,8,9,10] [11,12,13] (.seq [14,15,16,17]))) (.refl _) ace rfl ?_;simp -implicitDefEqProofs only[go_sem,kx,k1];refine⟨_,fun G hs=>hgd G (hsub.trans hs),?_⟩
 simp -implicitDefEqProofs only[go_sem];refine⟨.refl _,aci,?_⟩;intro jd hjd je hje jf hjf;have ned:=aH hje;have kje:=aC hje;have nfe:=aH hjf;have nfd:=aH (aC hjf);have kjf:=aC (aC hjf);simp -implicitDefEqProofs only[go_sem,ak,ned,ned.symm,nfe,nfe.symm,nfd,nfd.symm];refine⟨ack,ack,ack,?_⟩;have mjd:=hsub.none hjd;have mje:=hsub.none kje;have mjf:=hsub.none kjf;have j2:jd≠i2:=fun e=>afE
 have j2e:je≠i2:=fun e=>afF
 have j2f:jf≠i2:=fun e=>afG
 refine Gj fun H2 w2=>?_
 have xjd:jd≠x:=fun e=>afI
 have xje:je≠x:=fun e=>afJ
 have xjf:jf≠x:=fun e=>afK
 have y1:jd≠i1:=fun e=>by rw[e,k1]at hjd;cases hjd
 have y2:je≠i1:=fun e=>by rw[e,k1]at kje;cases kje
 have y3:jf≠i1:=fun e=>by rw[e,k1]at kjf;cases kjf
 have hs2:Ab.Sub h H2:=adZ;have fx:H2 x=_:=(by rw[w2];simp only[ak,xjd,xjd.symm,xje,xje.symm,xjf,xjf.symm,ne_eq,not_false_eq_true]:H2 x=H x).trans kx
 have f1:H2 i1=_:=(by rw[w2];simp only[ak,y1,y1.symm,y2,y2.symm,y3,y3.symm,ne_eq,not_false_eq_true]:H2 i1=H i1).trans k1
 have f2:H2 i2=_:=(by rw[w2];simp only[ak,j2,j2.symm,j2e,j2e.symm,j2f,j2f.symm,ne_eq,not_false_eq_true]:H2 i2=H i2).trans k2
 have fd:H2 jd=some (.obj [.i S.tick,fZ S.cases,j4 S.reviews,kY S.notices,dZ S.roles,b1,b2,b3,b4,b5,b6,b7,.i S.version] 63):=acy;have fe:H2 je=some (.obj [.i R.err,.v (.complex .f64 (hbit R.mark.1) (hbit R.mark.2)),.b R.glass,.i R.val.kind,.i R.val.n,.s R.val.s,.b R.hidden,.i R.at_] 35):=acy;have ff:H2 jf=some (.obj (xq D) 68):=ac1;clear w2;refine .quiet ace ?_;simp -implicitDefEqProofs only[go_sem,fx,f1];refine⟨_,BV e.ch o h64 (f_l hF) ab7 _,?_⟩;simp -implicitDefEqProofs only[go_sem,fx];refine(GH d hdo did jid e.ps e.down spj H2 _ (cN e.ch o) (hdk.keep hs2.eW) (hj.sub hs2) (.sl _ _) ab7 hps).mono fun r H3 ⟨er,spj',hd3,hj3,hT3,hs3⟩=>?_
 subst er;have hin:∀q∈did::jid::spj,∃b,h q=some b∧∀cs,b≠ .obj cs 92:=fun q hq=>by
  exact agD
 have out:∀q,h q=none→q∉did::jid::spj:=fun q hq hi=>by
  obtain⟨b,hb,_⟩:=hin q hi;rw[hq]at hb;cases hb
 have outx:x∉did::jid::spj:=fun hi=>by
  exact ahM
 have fx3:=hT3 _ _ outx fx;have f23:=hT3 _ _ (out i2 n2) f2;have fd3:=hT3 _ _ (out jd mjd) fd;have fe3:=hT3 _ _ (out je mje) fe;have ff3:=hT3 _ _ (out jf mjf) ff;rw[hd]at hd3 hj3⊢;generalize jadd d e.ps false (cN e.ch o)=a at hd3 hj3 edo hcode⊢;obtain⟨⟨d2,ps2,dn2⟩,code⟩:=a;simp only at hd3 hj3 edo hcode⊢;subst hcode;rw[if_pos rfl]at edo;simp only[xq,opC,List.cons_append,List.nil_append]at ff3;have hsp:∀i∈spl,i∉did::jid::spj:=fun i hi hq=>by
  exact agC
 have hg3:=(hg.touch (S:=[]) (.of hs2) (fun i hi hh=>adz)).touch hT3 hsp
 have hx3:H3 x=some (lD jid e yl):=by rw[fx3];unfold lD;rw[es];rfl
 have hgo:=Gx e S D (cN e.ch o) .no jid x yl spl H3 hx3 hg3 hlg ab7;rw[show cK S= .agg (js S)from rfl,es2]at hgo
 simp only[xq,opC,List.cons_append,List.nil_append]at hgo;simp -implicitDefEqProofs only[go_sem,fd3,ff3];refine hgo.mono fun r H4 ⟨er,yl',spl',hx4,hg4,hT4,hs4⟩=>?_
 subst er;have hnl:∀q,h q=none→q∉x::spl:=fun q hq hh=>by
  rcases List.mem_cons.1 hh with rfl|hh
  ·rw[hx]at hq;cases hq
  ·obtain⟨n,hn⟩:=hg.has q hh
   rw[hn]at hq;cases hq
 have fe4:=hT4 _ _ (hnl je mje) fe3;have f24:=hT4 _ _ (hnl i2 n2) f23;simp -implicitDefEqProofs only[go_sem,fe4,f24,ah];have hF4:∀b,Touch [i2] H4 (upd H4 i2 b):=fun b=> .upd
 have hj3' :=hj3;obtain⟨z,zs,hz1,hz2,_⟩:=hj3';have jx:jid∉x::spl:=fun hh=>by
  exact aha
 have sx:∀i∈spj',i∉x::spl:=fun i hi hh=>by
  obtain⟨n,hn⟩:=hz2.has i hi;rcases List.mem_cons.1 hh with rfl|hh
  ·rw[hx3]at hn;cases hn
  ·obtain⟨n2,hn2⟩:=hg3.has i hh
   rw[hn2]at hn;cases hn
 have hj4:=hj3.touch hT4 jx sx;have hj4' :=hj4;obtain⟨z4,zs4,hz41,hz42,_⟩:=hj4';have hd4:=hd3.touch hT4 (fun i hi cs=>by
  rcases List.mem_cons.1 hi with rfl|hi
  ·rw[hx3];exact⟨fun hh=>adz,fun hh=>adz⟩
  ·obtain⟨n,hn⟩:=hg3.has i hi
   rw[hn];exact⟨fun hh=>adz,fun hh=>adz⟩)
 refine .same (.refl _) ⟨by rw[edo];rfl,spl',spj',?_,?_,?_,fun i hi=>?_,fun i hi=>?_⟩
 ·rw[edo]
  refine⟨yl',?_,hg4.touch (hF4 _) ?_,hj4.touch (hF4 _) ?_ ?_⟩
  ·rw[ag _ _ (Ne.symm x2),hx4]
   unfold lD;simp only[mz]
  ·intro i hi hh
   obtain⟨n,hn⟩:=hg4.has i hi;rw[List.mem_singleton.1 hh,f24]at hn;cases hn
  ·intro hh
   rw[List.mem_singleton.1 hh,f24]at hz41;cases hz41
  ·intro i hi hh
   obtain⟨n,hn⟩:=hz42.has i hi;rw[List.mem_singleton.1 hh,f24]at hn;cases hn
 ·rw[edo]
  exact hd4.upd f24 acd acd
 ·exact((((Touch.of (S:=[]) hs2).trans hT3).trans hT4).trans (hF4 _)).mono (fun i hi=>by
   simp only[List.nil_append,List.mem_append,List.mem_cons,List.mem_singleton,List.not_mem_nil,or_false]at hi;rcases hi with((h3|h3|h3)|(h3|h3))|h3
   ·left;simp[h3]
   ·left;simp[h3]
   ·left;simp[h3]
   ·left;simp[h3]
   ·left;simp[h3]
   ·right;rw[h3];exact n2)
 ·rcases hs4 i hi with h3|h3
  ·exact .inl h3
  ·right
   cases hh:h i with
   |none=>exact .inr rfl
   |some b=>
    left
    by_cases hm3:i∈did::jid::spj
    ·simp only[List.mem_cons]at hm3
     rcases hm3 with rfl|rfl|hm3
     ·obtain⟨w,hw,_⟩:=hd3
      rw[hw]at h3;cases h3
     ·rw[hz1]at h3;cases h3
     ·exact hm3
    ·have:=hT3 _ _ hm3 (hs2 _ _ hh)
     rw[h3]at this;cases this
 ·rcases hs3 i hi with h3|h3
  ·exact .inl h3
  ·right;exact hs2.none h3
theorem OV(x jid did:Nat)(e:cL)(d:D)(spl spj:List Nat)(o:OpD)(h:Heap)(he:iW h x jid did e spl spj)(hdk:bM h did d)(hdo:d.ok)(hps:e.ps.length≤1000000)(hlg:e.log.length≤1000000){k:Nat}(hG:iQ k e.s)(hk:k≤1000)(h64:nC o)(her:j7 h):
  ai Tryz.prog 10 [.ptr x 0,opA o] h fun r h' =>r= .agg (lJ (doE e d o).2.2)∧∃spl' spj',iW h' x jid did (doE e d o).1 spl' spj'∧bM h' did (doE e d o).2.1∧Touch (x::did::jid::(spl++spj)) h h'∧(∀i∈spl',i∈spl∨i∈spj∨h i=none)∧(∀i∈spj',i∈spj∨h i=none):=by
 have stay:∀R:j8,doE e d o=(e,d,R)→∀(r:AV) (h' :Heap),(r= .agg (lJ R)∧h' =h)→r= .agg (lJ (doE e d o).2.2)∧∃spl' spj',iW h' x jid did (doE e d o).1 spl' spj'∧bM h' did (doE e d o).2.1∧Touch (x::did::jid::(spl++spj)) h h'∧(∀i∈spl',i∈spl∨i∈spj∨h i=none)∧(∀i∈spj',i∈spj∨h i=none):=fun R ed r h' ⟨e1,e2⟩=>by
  subst e2;rw[ed];exact⟨e1,spl,spj,he,hdk,.refl _ _,fun i hi=> .inl hi,fun i hi=> .inl hi⟩
 cases hd:e.down
 case true=>
  exact(Nc x jid did e spl spj o h he hd).mono (stay _ (by simp_all [doE,if_pos]))
 by_cases hne:(aP e.s o).2.2.2=0
 case neg=>
  exact(Qh x jid did e spl spj o h he hd hG hk h64 her hne).mono (stay _ (by
   simp_all [doE,if_neg,if_pos]))
 by_cases hcode:(jadd d e.ps false (cN e.ch o)).2=0
 ·exact Qi x jid did e d spl spj o h he hdk hdo hps hlg hd hG hk h64 her hne hcode
 ·exact(Qj x jid did e d spl spj o h he hdk hdo hps hlg hd hG hk h64 her hne hcode).mono fun r h' ⟨a,s1,s2,b,c,f,g,i⟩=>⟨a,s1,s2,b,c,f,fun q hq=>(g q hq).imp id .inr,i⟩
theorem Tl{P:Program}{U:TypeId→TI}{n:Nat}{a b:Code}{ρ:Env}{h:Heap}{K:Exit→Env→Heap→Prop}{y:AV}(hh:∀H2,H2=h→nP P U n a b ρ H2 K y):nP P U n a b ρ h K y:=hh h rfl
theorem j7.touch{h h' :Heap}{S:List Nat}(he:j7 h)(ht:Touch S h h')(hS:∀i∈S,∀b vs,h i≠some (.ro b vs)):j7 h' :=by
 obtain⟨ev,hev,id,hi⟩:=he;exact⟨ev,hev,id,ht _ _ ab8 hi⟩
theorem EY{e:cL}{l:List Txt}{i:Nat}(hi:i<l.length){e1:cL}(h:hY e (l.take i)=some e1):hY e (l.take (i+1))=j5 e1 l[i]:=by
 grind [List.take_succ_eq_append_getElem,rQ]
theorem EX{e:cL}{l:List Txt}{i:Nat}(h:hY e (l.take i)=none):hY e l=none:=by
 rw[←List.take_append_drop i l];generalize l.take i=a at h⊢
 induction a generalizing e with
 |nil=>cases h
 |cons p a ih=>
  simp only[List.cons_append,hY]at h⊢
  grind
theorem N1{e:cL}{p:Txt}{o:OpD}(h:iP e p=some o)(hl:p.length≤1000000):nC o:=by
 grind [iP,Gw,List.length_drop]
def tX(h h' :Heap)(did:Nat)(ps:List Txt)(r:AV):Prop:=match so ps with
 |none=>r= .tup [.v (.pointer none),.i 7]
 |some e=>∃x jid spl spj,r= .tup [.ptr x 0,.i 0]∧iW h' x jid did e spl spj∧(∀i∈x::jid::(spl++spj),h i=none)
theorem newL:js wh= [.i 0,.sl [] .no,.sl [] .no,.sl [] .no,.sl [] .no,.s jC,.b false,.i 6,.sl [] .no,.sl [] .no,.sl [] .no,.sl [] .no,.i 0]:=rfl
theorem D4(d:D)(hdo:d.ok)(did:Nat)(h:Heap)(hdk:bM h did d)(her:j7 h)(hps:(scan d.b).1.length≤900):
  ai Tryz.prog 9 [.ptr did 0] h fun r h' =>bM h' did d.cg.1∧Keep did h h'∧if d.cg.2=0 then tX h h' did (scan d.b).1 r else r= .tup [.v (.pointer none),.i (d.cg.2:Nat)]:=by
 have hlen:=(Oa d.b).2;refine ab6 Tryz.func9 62 [.tmp 2,.tmp 3] fun hwf=>?_
 simp only[go_sem];refine(K0 d hdo did h hdk).mono fun r h1 ⟨J,e1,hd1,kp1,hif⟩=>?_
 subst e1;have her1:j7 h1:=her.touch (.keep kp1) (fun i hi b vs hh=>by
  obtain⟨y,hy,_⟩:=hdk;rw[List.mem_singleton.1 hi,hy]at hh;cases hh)
 generalize (scan d.b).1=ps at hps hlen hif⊢;generalize d.cg=od at hd1 hif⊢;obtain⟨d1,c1⟩:=od;simp only at hd1 hif⊢
 by_cases hc:c1=0
 case neg=>
  rw[if_neg hc]at hif;subst hif;have t1:(((c1:Nat):Int) !=0)=true:=by simp[hc]
  simp only[go_sem,t1];exact .same (.refl _) ⟨hd1,kp1,by rw[if_neg hc];rfl⟩
 subst hc;rw[if_pos rfl]at hif;obtain⟨jid,spj,rfl,hjn,hj,hsn⟩:=hif;simp only[go_sem];refine(Q0 h1 her1).pthen ?_;rw[show cK wh= .agg (js wh)from rfl,newL]
 simp only[go_sem];intro x hx;have hxh:h x=none:=by
  cases hh:h x with
  |none=>rfl
  |some k=>
   by_cases e:x=did
   ·subst e
    obtain⟨y,hy,_⟩:=hd1;rw[hy]at hx;cases hx
   ·rw[kp1 _ _ e hh]at hx;cases hx
 simp only[go_sem];refine inH fun H1 w1=>?_
 have hs1:Ab.Sub h1 H1:=by rw[w1];exact(Sub.refl h1).new hx _
 have hE1:iW H1 x jid did (fC ps) [] spj:=⟨_,by rw[w1,ah];rfl,.inl ⟨rfl,rfl,rfl⟩,hj.sub hs1⟩
 clear w1;have hK1:Keep did h H1:=kp1.trans (hs1.keep did);refine(yJ jid did ps false spj H1 (hj.sub hs1) ab7 (fun p hp=>by have:=hlen p hp;omega)).mono fun r h2 ⟨q,er,hs2⟩=>?_
 subst er;simp only[go_sem,abX];refine .intro (fun m ρ H=>∃(i:Nat) (e:cL) (spl:List Nat),hY (fC ps) (ps.take i)=some e∧e.ps=ps∧e.down=false∧e.log.length=i∧iQ i e.s∧iW H x jid did e spl spj∧bM H did d1∧Keep did h H∧(∀j∈spl,h j=none)∧i≤ps.length∧m=ps.length - i∧lk ρ 6=some (.ptr x 0)∧lk ρ 28=some (.sl (ps.map cD) q)∧lk ρ 29=some (.i ps.length)∧lk ρ 30=some (.i i)) (ps.length - 0) ?_ ?_
 ·obtain⟨yl,a,b,c⟩:=hE1
  refine⟨0,fC ps,[],rfl,rfl,rfl,rfl,rR,⟨yl,hs2 _ _ a,b.touch (S:=[]) (.of hs2) (fun i hi=>by cases hi),c.sub hs2⟩,(hd1.keep hs1.eW).keep hs2.eW,hK1.trans (hs2.keep did),fun j hj=>(by cases hj),ab7,rfl,?_,?_,?_,?_⟩<;>simp only[go_sem]
 rintro m ρ H ⟨i,e,spl,hf,hps2,hdn,hlg,hG,hE,hD,hK,hsl,hi,rfl,r6,r28,r29,r30⟩
 by_cases hlt:i<ps.length
 case neg=>
  have ei:i=ps.length:=ab7;have t1:decide ((i:Int)<(ps.length:Int))=false:=decide_eq_false ab7;rw[ei,List.take_length]at hf;simp only[go_sem,r6,r28,r29,r30,t1];refine .same (.refl _) ⟨hD,hK,?_⟩
  show tX h H did ps (.tup [.ptr x 0,.i 0])
  unfold tX so;rw[hf];exact⟨x,jid,spl,spj,rfl,hE,fun j hj=>by
   simp only[List.mem_cons,List.mem_append]at hj;rcases hj with rfl|rfl|hj|hj
   ·exact hxh
   ·exact hjn
   ·exact hsl _ hj
   ·exact(hsn _ hj).1⟩
 have t1:decide ((i:Int)<(ps.length:Int))=true:=decide_eq_true ab7;have w3:=ab3 i ab7;have ix:=fun k=>fm.eq (xs:=ps.map cD) (sz:=1) i acC acq k
 have hf1:=EY hlt hf;have hpl:=hlen _ (ab2 hlt);rw[abY]at ix;obtain⟨p,ep⟩:∃p,ps[i]=p:=⟨_,rfl⟩;rw[ep]at ix hf1 hpl;simp only[cD]at ix;have hEx:=hE;obtain⟨yl,hx2,hgl,hj2⟩:=hE;simp only[go_sem,r6,r28,r29,r30,t1,ix];refine(KD p .no e yl jid x H ab7 hx2).pthen ?_;unfold AN;have her2:j7 H:=her.touch (.keep hK) (fun i hi b vs hh=>by
  obtain⟨y,hy,_⟩:=hdk;rw[List.mem_singleton.1 hi,hy]at hh;cases hh)
 have bad:∀H',Ab.Sub H H'→j5 e p=none→bM H' did d1∧Keep did h H'∧tX h H' did ps (.tup [.v (.pointer none),.i 7]):=fun H' hs hn=>by
  refine⟨hD.keep hs.eW,hK.trans (hs.keep did),?_⟩;unfold tX so;rw[EX (hf1.trans hn)]
 cases hr:iP e p with
 |none=>
  have hn:j5 e p=none:=by unfold j5;rw[hr]
  simp only[go_sem,hr,opA,opC,uw,au,Option.getD,Option.isSome];intro i9 h9;simp only[go_sem];exact .mk _ (.refl _) (.refl _) (bad _ ((Sub.refl H).new h9 _) hn)
 |some o=>
  have h64:=N1 hr ab7;have hst:j5 e p=if(aP e.s o).2.2.2=0 then some (mz e (aP e.s o) p)else none:=by unfold j5;rw[hr]
  obtain⟨a1,a2,a3,a4,a5,a6,a7,es⟩:=cO e.s;have hgd:=fun(G:Heap) (hG' :Ab.Sub H G)=>oJ e.s hG ab7 o h64 G (her2.sub hG')
  have hG2:=vA o hG;have g:=hx2;unfold lD at g;rw[es]at g;simp only[List.cons_append,List.nil_append]at g;simp only[go_sem,hr,opA,opC,Option.getD,Option.isSome];intro i9 h9;have x9:i9≠x:=fun e=>by rw[e,hx2]at h9;cases h9
  simp only[go_sem];generalize hH:upd H i9 _=H1;have kx:H1 x=_:=(by rw[←hH,ag _ _ (Ne.symm x9)]:H1 x=H x).trans g
  have k9:H1 i9=some (.obj (opC o) 39):=aeg;have hsub:Ab.Sub H H1:=by rw[←hH];exact(Sub.refl H).new h9 _
  clear hH g;generalize aP e.s o=gd at hgd hst hG2⊢;obtain⟨S,R,D,E⟩:=gd;simp only at hst hG2;obtain⟨b1,b2,b3,b4,b5,b6,b7,es2⟩:=cO S;rw[oK,show cK e.s= .agg (js e.s)from rfl,es,show cK S= .agg (js S)from rfl,es2]at hgd
  simp only[opA,opC]at hgd;unfold opC at k9;refine .tree _ (.quiet [0,1,2,3,4] 5 (.news [6,7,8,9,10] [11,12,13] (.seq [14,15,16,17]))) (.refl _) ace rfl ?_;simp only[go_sem,r6,kx,k9];refine⟨_,fun G hs=>hgd G (hsub.trans hs),?_⟩
  simp only[go_sem];refine⟨.refl _,aci,?_⟩;intro jd hjd je hje jf hjf;have ned:=aH hje;have kje:=aC hje;have nfe:=aH hjf;have nfd:=aH (aC hjf);have kjf:=aC (aC hjf);simp only[go_sem,ak,ned,ned.symm,nfe,nfe.symm,nfd,nfd.symm];refine⟨ack,ack,ack,?_⟩;refine Tl fun H2 w2=>?_
  have xjd:jd≠x:=fun e=>afI
  have xje:je≠x:=fun e=>afJ
  have xjf:jf≠x:=fun e=>afK
  have hs2:Ab.Sub H H2:=by
   have:=hsub.none hjd;have:=hsub.none kje;have:=hsub.none kjf;rw[w2];repeat (first|exact hsub|refine Ab.Sub.put ?_ acm _)
  have fx:H2 x=_:=(by rw[w2];simp only[ak,xjd,xjd.symm,xje,xje.symm,xjf,xjf.symm,ne_eq,not_false_eq_true]:H2 x=H1 x).trans kx
  have fd:H2 jd=some (.obj [.i S.tick,fZ S.cases,j4 S.reviews,kY S.notices,dZ S.roles,b1,b2,b3,b4,b5,b6,b7,.i S.version] 63):=by rw[w2];simp only[ak,ned,ned.symm,nfe,nfe.symm,nfd,nfd.symm,ah,ne_eq,not_false_eq_true]
  have ff:H2 jf=some (.obj (xq D) 68):=by rw[w2];simp only[ak,ned,ned.symm,nfe,nfe.symm,nfd,nfd.symm,ah,ne_eq,not_false_eq_true];rfl
  clear w2;simp only[xq,opC,List.cons_append,List.nil_append]at ff
  by_cases hE0:E=0
  case neg=>
   have t2:(E !=0)=true:=by simp[hE0]
   rw[if_neg hE0]at hst;simp only[go_sem,t2];exact .same (.refl _) (bad _ hs2 hst)
  subst hE0;rw[if_pos rfl]at hst;have hx3:H2 x=some (lD jid e yl):=by rw[fx];unfold lD;rw[es];rfl
  have hg3:=hgl.touch (S:=[]) (.of hs2) (fun i hi hh=>adz)
  have hgo:=Gx e S D p .no jid x yl spl H2 hx3 hg3 ab7 ab7;rw[show cK S= .agg (js S)from rfl,es2]at hgo
  simp only[xq,opC,List.cons_append,List.nil_append]at hgo;simp only[go_sem,r6,fd,ff];refine hgo.mono fun r H4 ⟨er,yl',spl',hx4,hg4,hT4,hs4⟩=>?_
  subst er;simp only[go_sem,r6,r28,r29,r30,w3];have hout:∀j∈x::spl,h j=none:=fun j hj=>by
   rcases List.mem_cons.1 hj with rfl|hj
   ·exact hxh
   ·exact hsl _ hj
  have hdid:h did≠none:=by
   obtain⟨y,hy,_⟩:=hdk;rw[hy];simp
  have hj3:=hj2.sub hs2;have hD2:=hD.keep hs2.eW;refine⟨_,?_,i+1,mz e (S,R,D,0) p,spl',hf1.trans hst,hps2,hdn,?_,hG2,⟨yl',hx4,hg4,?_⟩,?_,?_,?_,ab7,rfl,?_,?_,?_,?_⟩
  ·omega
  ·simp[mz,hlg]
  ·refine hj3.touch hT4 ?_ ?_
   ·obtain⟨z,zs,hz1,_⟩:=hj3
    intro hh;exact aha
   ·obtain⟨z,zs,_,hz2,_⟩:=hj3
    intro j hj hh;obtain⟨n,hn⟩:=hz2.has j hj;rcases List.mem_cons.1 hh with rfl|hh
    ·rw[hx3]at hn;cases hn
    ·obtain⟨n2,hn2⟩:=hg3.has j hh
     rw[hn2]at hn;cases hn
  ·exact hD2.touch hT4 (fun j hj cs=>by
    rcases List.mem_cons.1 hj with rfl|hj
    ·rw[hx3];exact⟨fun hh=>adz,fun hh=>adz⟩
    ·obtain⟨n,hn⟩:=hg3.has j hj
     rw[hn];exact⟨fun hh=>adz,fun hh=>adz⟩)
  ·intro j k hj hk
   exact hT4 _ _ (fun hh=>by rw[hout j hh]at hk;cases hk) (hs2 _ _ (hK _ _ hj hk))
  ·intro j hj
   rcases hs4 j hj with hh|hh
   ·exact hsl _ hh
   ·cases hk:h j with
    |none=>rfl
    |some k=>
     by_cases e1:j=did
     ·subst e1
      obtain⟨y,hy,_⟩:=hD2;rw[hy]at hh;cases hh
     ·rw[hs2 _ _ (hK _ _ e1 hk)]at hh;cases hh
  all_goals simp only[go_sem,r6,r28,r29]
theorem iW.sub{h h' :Heap}{x jid did:Nat}{e:cL}{spl spj:List Nat}(he:iW h x jid did e spl spj)(hs:Ab.Sub h h'):iW h' x jid did e spl spj:=by
 obtain⟨yl,a,b,c⟩:=he;exact⟨yl,hs _ _ a,b.touch (S:=[]) (.of hs) aci,c.sub hs⟩
end Go.Proofs.YtfdgemhnlennbaaGreatDoor
namespace Go.Bf
open Go Go.Ab Go.Proofs.YtfdgemhnlennbaaGreatDoor
def O8(e:cL)(o:OpD):cL:={mz e (aP e.s o) (cN e.ch o)with ps:=e.ps++ [cN e.ch o],down:=false}
theorem OU{e:cL}(d:D){o:OpD}(h:e.down=false)(hg:(aP e.s o).2.2.2≠0):doE e d o=(e,d,(aP e.s o).2.1):=by
 simp_all [doE,if_neg,if_pos]
theorem Ts{e:cL}{d d' :D}{o:OpD}{ps:List Txt}{dn:Bool}{c:Nat}(h:e.down=false)(hg:(aP e.s o).2.2.2=0)(hj:jadd d e.ps false (cN e.ch o)=((d',ps,dn),c)):
  doE e d o=if c=0 then({mz e (aP e.s o) (cN e.ch o)with ps:=ps,down:=dn},d',(aP e.s o).2.1)else({e with ps:=ps,down:=dn},d',Bu (c:Int)):=by
 simp_all [doE,if_neg]
theorem Bt{e:cL}{d:D}{o:OpD}(h:e.down=false)(hg:(aP e.s o).2.2.2=0)(h1:d.off=false)(h2:d.f=0)(hr:d.b.length+(frame (cN e.ch o)).length≤d.q):
  doE e d o=({mz e (aP e.s o) (cN e.ch o)with ps:=e.ps++ [cN e.ch o],down:=false},{d with b:=d.b++frame (cN e.ch o),sy:=(d.b++frame (cN e.ch o)).length},(aP e.s o).2.1):=by
 have hl:=rq (h:=e.ch) (nI (ia hg));rw[Ts h hg (T3 h1 h2 ab7 ab7 hr),if_pos rfl]
theorem Gi{e:cL}{d:D}{o:OpD}(h:e.down=false)(hg:(aP e.s o).2.2.2=0)(h1:d.off=false)(hr:d.q<d.b.length+(frame (cN e.ch o)).length):doE e d o=(e,d,Bu 8):=by
 have hl:=rq (h:=e.ch) (nI (ia hg));rw[Ts h hg (KZ h1 ab7 ab7 hr),if_neg acd];obtain⟨_,_,_,_,dn⟩:=e;cases h;rfl
end Go.Bf
namespace Go.Proofs.YtfdgemhnlennbaaGreatDoor
open Go Go.Ab Go.Bf
theorem uN{h0 h h' :Heap}{S:List Nat}(hs:Ab.Sub h0 h)(ht:Touch S h h')(hn:∀i∈S,h0 i=none):Ab.Sub h0 h' :=fun j k hj=>ht j k ab8 (hs j k hj)
theorem tJ{h0 h h' :Heap}{i:Nat}(hs:Ab.Sub h0 h)(ht:Keep i h h')(hn:h0 i=none):Ab.Sub h0 h' :=uN hs (.keep ht) ab8
theorem Qx{h:Heap}{x jid did:Nat}{e:cL}{d:D}{spl spj:List Nat}(he:iW h x jid did e spl spj)(hd:bM h did d):∀i∈x::did::jid::(spl++spj),h i≠none:=fun i hi=>by
 obtain⟨yl,a,b,z,zs,c1,c2,_⟩:=he;obtain⟨y,d1,_⟩:=hd;simp only[List.mem_cons,List.mem_append]at hi;rcases hi with rfl|rfl|rfl|hi|hi
 ·grind
 ·grind
 ·grind
 ·obtain⟨n,e⟩:=b.has i hi;grind
 ·obtain⟨n,e⟩:=c2.has i hi;grind
theorem AT(q:Nat)(hq:q≤1048576)(did:Nat)(h:Heap)(hdk:bM h did ⟨q,[],0,0,false⟩)(her:j7 h):
  ai Tryz.prog 9 [.ptr did 0] h fun r h' =>∃x jid spl spj,r= .tup [.ptr x 0,.i 0]∧iW h' x jid did (fC []) spl spj∧bM h' did ⟨q,[],0,0,false⟩∧Keep did h h'∧(∀i∈x::jid::(spl++spj),h i=none):=by
 have hok:D.ok ⟨q,[],0,0,false⟩:=⟨Nat.zero_le _,hq,Nat.zero_le _,(by decide:(0:Nat)<9223372036854775808)⟩
 have ho:=D.Ly hok rfl rfl;simp only[yM,List.take_nil]at ho;refine(D4 _ hok did h hdk her (by simp[yM])).mono fun r h' ⟨h1,h2,h3⟩=>?_
 simp only[if_true,yM]at h3;obtain⟨x,jid,spl,spj,a,b,c⟩:=h3
 grind
theorem Ph:(aP wh qA).2.1=⟨0,bh,false,au,false,0⟩∧(aP wh qA).2.2.2=0:=⟨acr,acr⟩
theorem Ln:nC qA:=⟨⟨acd,acd⟩,⟨acd,acd⟩,⟨acd,acd⟩,⟨acd,acd⟩⟩
theorem T9:opA qA= .agg [.i 1,.s [97,110,110],.s [99],.s [],.s [],.i 0,.i 0,.s [],.i 0,.s [],.s [],.b false]:=rfl
theorem zo(h:Heap)(he:j7 h):ai Tryz.prog 12 [] h fun r h' =>r= .b true∧h' =h:=
 ai.freeze fun g hgs _=>by
 have he:=he.sub hgs;have hF:=nI (ia Ph.2);have hput:=wH hF;have hrl:=rq (h:=0#64) hF;have hrec:=fun G=>BV 0#64 qA Ln (f_l hF) ab7 G
 have hpl:=dW (cN 0#64 qA);have hdo:=Bt (e:=fC []) (d:=⟨1000,[],0,0,false⟩) (o:=qA) rfl Ph.2 rfl rfl acd;rw[T9]at hrec;refine ab6 Tryz.func12 67 [.tmp 0] fun hwf=>?_
 simp only[go_sem];refine(xu 1000 acd g).mono fun r h1 ⟨did,hn,er,hdk,s1⟩=>?_
 subst er;simp only[go_sem];refine(AT 1000 acd did h1 hdk (he.sub s1)).mono fun r h2 ⟨x,jid,spl,spj,er,hE,hD,hK,hnew⟩=>?_
 subst er;have s2:Ab.Sub g h2:=tJ s1 hK hn;have hnew' :∀i∈x::did::jid::(spl++spj),g i=none:=fun i hi=>by
  simp only[List.mem_cons]at hi hnew;rcases hi with rfl|rfl|hi
  ·exact s1.none (hnew _ (.inl rfl))
  ·omega
  ·exact s1.none (hnew _ (.inr hi))
 simp only[go_sem];intro i5 h5;simp only[go_sem];have e5:∀ {b:Option Blk},Ab.Sub h2 (upd h2 i5 b):=fun {b}=>(Sub.refl h2).new h5 b
 generalize hH:upd h2 i5 _=H;have f5:H i5=some (.obj (opC qA) 39):=aeg;have s5:Ab.Sub h2 H:=by rw[←hH];exact e5
 clear hH;have f5' :H i5=some (.obj [.i 1,.s [97,110,110],.s [99],.s [],.s [],.i 0,.i 0,.s [],.i 0,.s [],.s [],.b false] 39):=f5;refine(show ai Tryz.prog _ [.ptr x 0,opA qA] _ _ from(OV x jid did (fC []) ⟨1000,[],0,0,false⟩ spl spj qA H (hE.sub s5) (hD.keep s5.eW) ⟨Nat.zero_le _,acd,Nat.zero_le _,acd⟩ acd acd rR acd Ln ((he.sub s2).sub s5)).mono fun r h3 ⟨er,spl',spj',hE3,hD3,hT3,_⟩=>?_)
 subst er;rw[hdo]at hE3 hD3⊢;have n5:i5∉x::did::jid::(spl++spj):=fun hi=>Qx hE hD _ hi h5
 have f53:=hT3 _ _ n5 f5';have s3:Ab.Sub g h3:=uN (s2.trans s5) hT3 hnew';have er2:lJ (aP (fC []).s qA).2.1= [.i 0,.v (.complex .f64 4607182418800017408 0),.b false,.i 0,.i 0,.s [],.b false,.i 0]:=acr;rw[er2];obtain⟨E,eE⟩:∃E,({mz (fC []) (aP (fC []).s qA) (cN (fC []).ch qA)with ps:=(fC []).ps++ [cN (fC []).ch qA],down:=false}:cL)=E:=⟨_,rfl⟩
 have eps:E.ps= [cN 0#64 qA]:=by rw[←eE];rfl
 have ech:E.ch=j9 0#64 (cN 0#64 qA):=by rw[←eE];rfl
 simp only[eE]at hE3;clear eE hdo er2;simp only[go_sem];intro i6 h6;simp only[go_sem];generalize hH4:upd h3 i6 _=H4;have f6:H4 i6=some (.obj [.i 0,.v (.complex .f64 4607182418800017408 0),.b false,.i 0,.i 0,.s [],.b false,.i 0] 35):=by rw[←hH4,ah]
 have s6:Ab.Sub h3 H4:=by rw[←hH4];exact(Sub.refl h3).new h6 _
 clear hH4;obtain⟨p,ep⟩:∃p,cN 0#64 qA=p:=⟨_,rfl⟩;rw[ep]at eps ech hrec hrl hpl;refine(vo x jid did E spl' spj' H4 (hE3.sub s6) agb (by rw[eps];intro q hq;rw[List.mem_singleton.1 hq];omega)).mono fun r H5 ⟨q,er,s7⟩=>?_
 subst er;rw[eps];have f65:=s7 _ _ f6;have f55:=s7 _ _ (s6 _ _ f53);have hE5:=(hE3.sub s6).sub s7;have ix:=fun(K:AV→Prop)=>fm.eq (xs:=[cD p]) (sz:=1) 0 aci rfl K
 simp only[Int.natCast_zero,List.getElem_cons_zero,cD]at ix;have qd:eqC (.v (.complex .f64 4607182418800017408 0)) (.v (.complex .f64 4607182418800017408 0))=true:=rfl;simp only[go_sem];refine .quiet ace ?_;simp only[go_sem,f65,f55,qd,ix,List.map_cons,List.map_nil,cD];refine⟨_,show ai Tryz.prog _ [.v (.int .u64 0),_] _ _ from hrec H5,?_⟩
 have d8:decide ((8:Int)<(p.length:Int))=true:=decide_eq_true ab7;simp only[go_sem,f65,f55,qd,ix];refine⟨_,N8 _ _ p p _ (.sl _ _) (.sl _ _) ab7,?_⟩;rw[show decide (p=p)=true from aci]
 simp only[go_sem,ix,abX,d8];refine⟨_,Ko x jid did E spl' spj' H5 hE5,?_⟩;simp only[go_sem,ix];refine⟨_,show ai Tryz.prog _ [.v (.int .u64 0),_] _ _ from xj 0#64 _ p _ (.sl _ _) ab7,?_⟩
 simp only[go_sem,ech,beq_self_eq_true];exact .same (.refl _) ⟨s3.trans (s6.trans s7),_,.pure rfl,rfl⟩
structure vV (h0 h:Heap) (x jid did:Nat) (e:cL) (d:D) (spl spj:List Nat):Prop where
 eng:iW h x jid did e spl spj
 disk:bM h did d
 ok:d.ok
 sub:Ab.Sub h0 h
 new:∀i∈x::did::jid::(spl++spj),h0 i=none
theorem vV.up{h0 h h' :Heap}{x jid did:Nat}{e:cL}{d:D}{spl spj:List Nat}(w:vV h0 h x jid did e d spl spj)(hs:Ab.Sub h h'):vV h0 h' x jid did e d spl spj:=
 ⟨w.eng.sub hs,w.disk.keep hs.eW,w.ok,w.sub.trans hs,w.new⟩
theorem vV.doS{h0 h:Heap}{x jid did:Nat}{e:cL}{d:D}{spl spj:List Nat}(w:vV h0 h x jid did e d spl spj)(o:OpD)(hps:e.ps.length≤1000000)(hlg:e.log.length≤1000000){k:Nat}(hG:iQ k e.s)(hk:k≤1000)(h64:nC o)(her:j7 h0)(hok:(doE e d o).2.1.ok):
  ai Tryz.prog 10 [.ptr x 0,opA o] h fun r h' =>r= .agg (lJ (doE e d o).2.2)∧∃spl' spj',vV h0 h' x jid did (doE e d o).1 (doE e d o).2.1 spl' spj'∧Touch (x::did::jid::(spl++spj)) h h'∧(∀i∈x::did::jid::(spl' ++spj'),i∈x::did::jid::(spl++spj)∨h i=none):=
 (OV x jid did e d spl spj o h w.eng w.disk w.ok hps hlg hG hk h64 (her.sub w.sub)).mono fun r h' ⟨e1,spl',spj',a,b,c,f,g⟩=>by
  have hin:∀i∈x::did::jid::(spl' ++spj'),i∈x::did::jid::(spl++spj)∨h i=none:=fun i hi=>by
   simp only[List.mem_cons,List.mem_append]at hi⊢;rcases hi with hi|hi|hi|hi|hi
   ·exact .inl (.inl hi)
   ·exact .inl (.inr (.inl hi))
   ·exact .inl (.inr (.inr (.inl hi)))
   ·rcases f i hi with h1|h1|h1
    ·exact .inl (.inr (.inr (.inr (.inl h1))))
    ·exact .inl (.inr (.inr (.inr (.inr h1))))
    ·exact .inr h1
   ·rcases g i hi with h1|h1
    ·exact .inl (.inr (.inr (.inr (.inr h1))))
    ·exact .inr h1
  exact⟨e1,spl',spj',⟨a,b,hok,uN w.sub c w.new,fun i hi=>(hin i hi).elim (w.new i) w.sub.none⟩,c,hin⟩
theorem FP(q:Nat)(hq:q≤1048576)(did:Nat)(h0 h:Heap)(hdk:bM h did ⟨q,[],0,0,false⟩)(hs:Ab.Sub h0 h)(hn:h0 did=none)(her:j7 h0):
  ai Tryz.prog 9 [.ptr did 0] h fun r h' =>∃x jid spl spj,r= .tup [.ptr x 0,.i 0]∧vV h0 h' x jid did (fC []) ⟨q,[],0,0,false⟩ spl spj:=
 (AT q hq did h hdk (her.sub hs)).mono fun r h' ⟨x,jid,spl,spj,a,b,c,f,g⟩=>⟨x,jid,spl,spj,a,b,c,⟨Nat.zero_le _,hq,Nat.zero_le _,(by decide:(0:Nat)<9223372036854775808)⟩,tJ hs f hn,fun i hi=>by
  simp only[List.mem_cons]at hi g;rcases hi with rfl|rfl|hi
  ·exact hs.none (g _ (.inl rfl))
  ·omega
  ·exact hs.none (g _ (.inr hi))⟩
end Go.Proofs.YtfdgemhnlennbaaGreatDoor
namespace Go.Bf
open Go Go.Ab
def eqT(a b:fY):Bool:=eqL (eqL (eqL Ni)) a b
def eqR(r s:cP):Bool:=r.id==s.id && (r.deny==s.deny && (eqT r.tgt s.tgt && (eqL Qy r.cond s.cond && eqL OY r.obls s.obls)))
mutual
def eqP:bH→bH→Bool
 |.mk i1 s1 a1 t1 r1 k1 o1,.mk i2 s2 a2 t2 r2 k2 o2=>i1==i2 && (s1==s2 && (a1==a2 && (eqT t1 t2 && (eqL OY o1 o2 && (eqL eqR r1 r2 && eqK k1 k2)))))
def eqK:List bH→List bH→Bool
 | [],[]=>true
 |x::a,y::b=>eqP x y && eqK a b
 |_,_=>false
end
end Go.Bf
namespace Go.Bf
open Go Go.Ab Go.Proofs.YtfdgemhnlennbaaGreatDoor
theorem Nd{k n:Nat}{e:cL}{b:Txt}{sy:Nat}(o:OpD)(hd:e.down=false)(hG:iQ k e.s)(hok:D.ok ⟨n,b,sy,0,false⟩):
  ∃e' b' sy' RR,doE e ⟨n,b,sy,0,false⟩ o=(e',⟨n,b',sy',0,false⟩,RR)∧D.ok ⟨n,b',sy',0,false⟩∧e'.down=false∧e'.ps.length≤e.ps.length+1∧e'.log.length≤e.log.length+1∧iQ (k+1) e'.s∧
   (((aP e.s o).2.2.2≠0∧RR=(aP e.s o).2.1∧e' =e)∨((aP e.s o).2.2.2=0∧n<b.length+16+(iU o).length∧RR=Bu 8∧e' =e)∨((aP e.s o).2.2.2=0∧b.length+16+(iU o).length≤n∧RR=(aP e.s o).2.1∧e' =O8 e o)):=by
 have up:iQ (k+1) e.s:={hG.tokD.up with ticks:=hG.ticks}
 have hl:(frame (cN e.ch o)).length=16+(iU o).length:=by grind [dW,cN,iE]
 by_cases hg:(aP e.s o).2.2.2=0
 case neg=>exact⟨e,b,sy,_,OU _ hd hg,hok,hd,ab7,ab7,up,.inl ⟨hg,rfl,rfl⟩⟩
 by_cases hr:b.length+16+(iU o).length≤n
 ·refine⟨_,_,_,_,Bt (d:=⟨n,b,sy,0,false⟩) hd hg rfl rfl ab8,⟨?_,hok.2.1,Nat.le_refl _,hok.2.2.2⟩,rfl,aci,by simp[mz],vA o hG,.inr (.inr ⟨hg,hr,rfl,rfl⟩)⟩
  grind
 ·exact⟨e,b,sy,_,Gi (d:=⟨n,b,sy,0,false⟩) hd hg rfl ab8,hok,hd,ab7,ab7,up,.inr (.inl ⟨hg,ab7,rfl,rfl⟩)⟩
def chL(c:BitVec 64)(l:List Txt):BitVec 64:=l.foldl j9 c
def pL:BitVec 64→List Txt→List (BitVec 64)
 |_,[]=>[]
 |c,p::r=>j9 c p::pL (j9 c p) r
theorem mI:∀(l:List Txt) (c:BitVec 64),(pL c l).length=l.length
 | [],_=>rfl
 |_::l,c=>by simp[pL,mI l]
theorem tK:∀(l:List Txt) (c:BitVec 64) (i:Nat) (h:i<(pL c l).length),(pL c l)[i]=chL c (l.take (i+1))
 | [],_,i,h=>acZ
 |p::l,c,0,h=>rfl
 |p::l,c,i+1,h=>tK l (j9 c p) i (by grind [pL])
theorem Ac:∀(n:Nat) (a b:BitVec 64),a.toNat<256 ^ n→b.toNat<256 ^ n→mq n a=mq n b→a=b
 |0,a,b,ha,hb,_=>by
  apply BitVec.eq_of_toNat_eq;omega
 |n+1,a,b,ha,hb,h=>by
  simp only[mq,List.cons.injEq]at h;have sa:(a>>>8).toNat=a.toNat / 256:=by simp[Nat.shiftRight_eq_div_pow]
  have sb:(b>>>8).toNat=b.toNat / 256:=by simp[Nat.shiftRight_eq_div_pow]
  have h1:=congrArg BitVec.toNat (Ac n (a>>>8) (b>>>8) ab7 ab7 h.2);have h2:=congrArg UInt8.toNat h.1;simp only[UInt8.toNat_ofNat']at h2;apply BitVec.eq_of_toNat_eq;omega
theorem N5{a b:BitVec 64}{o p:OpD}(h:cN a o=cN b p):a=b:=by
 have h1:=(List.append_inj h acr).1;exact Ac 8 a b a.isLt b.isLt h1
theorem Ma{e e' :cL}{p:Txt}(h:j5 e p=some e'):(∃o,p=cN e.ch o)∧e'.ch=j9 e.ch p:=by
 unfold j5 at h;cases hr:iP e p with
 |none=>grind
 |some o=>
  rw[hr]at h;simp only at h;split at h
  ·cases h
   refine⟨⟨o,?_⟩,rfl⟩
   grind [iP]
  grind
theorem xI:∀(l:List Txt) {e e' :cL},hY e l=some e'→e'.ch=chL e.ch l∧∀(i:Nat) (h:i<l.length),∃o,l[i]=cN (chL e.ch (l.take i)) o
 | [],e,e',h=>by cases h;exact⟨rfl,fun i h=>acZ⟩
 |p::l,e,e',h=>by
  simp only[hY]at h;cases hs:j5 e p with
  |none=>grind
  |some e1=>
   rw[hs]at h;obtain⟨h1,h2⟩:=Ma hs;obtain⟨h3,h4⟩:=xI l h;rw[h2]at h3 h4;refine⟨h3,fun i hi=>?_⟩
   cases i with
   |zero=>exact h1
   |succ i=>exact h4 i ab8
def Clash(c:BitVec 64)(l:List Txt):Prop:=∃i k,i<k∧k<l.length∧chL c (l.take i)=chL c (l.take k)
theorem Cr{c:BitVec 64}{e e1 e2 e3:cL}{l m:List Txt}(h1:e.ch=c)(h2:e2.ch=c)(hl:hY e l=some e1)(hm:hY e2 m=some e3){i k:Nat}(hik:i<k)(hk:k<l.length)(him:i<m.length)(ht:m.take i=l.take i)(hg:m[i]=l[k]):Clash c l:=by
 obtain⟨_,a⟩:=xI l hl;obtain⟨_,b⟩:=xI m hm;rw[h1]at a;rw[h2]at b
 obtain⟨o,ea⟩:=a k hk;obtain⟨p,eb⟩:=b i him;rw[hg,ea,ht]at eb;exact⟨i,k,hik,hk,(N5 eb).symm⟩
theorem EA{e e1 e2 e3:cL}{l:List Txt}(h2:e2.ch=e.ch)(hl:hY e l=some e1){i:Nat}(hi:i+1<l.length)(hm:hY e2 (l.eraseIdx i)=some e3):Clash e.ch l:=
 Cr rfl h2 hl hm (k:=i+1) (Nat.lt_succ_self i) hi ab8 ab8 ab8
theorem xl{e e1 e2 e3:cL}{l:List Txt}(h2:e2.ch=e.ch)(hl:hY e l=some e1){i k:Nat}(hik:i<k)(hk:k<l.length)(hm:hY e2 ((l.set i l[k]).set k l[i])=some e3):Clash e.ch l:=
 Cr rfl h2 hl hm hik hk ab8 (by rw[List.take_set_of_le ab7,List.take_set_of_le (Nat.le_refl i)]) ab8
structure B5 (e:cL) (b:Txt):Prop where
 ok:zP e
 b:b=frames e.ps
 len:∀p∈e.ps,9≤p.length∧p.length≤5008
 log:e.log.length=e.ps.length
theorem KB:B5 (fC []) []:=⟨rfl,rfl,fun p hp=>(by cases hp),rfl⟩
theorem Kw{n:Nat}{e:cL}{b:Txt}{sy:Nat}{o:OpD}(hd:e.down=false)(h64:nC o)(hw:B5 e b){e' :cL}{b' :Txt}{sy' :Nat}{R:j8}(he:doE e ⟨n,b,sy,0,false⟩ o=(e',⟨n,b',sy',0,false⟩,R)):
  B5 e' b'∧(e'.ps=e.ps∨dF o=true∧e'.ps=e.ps++ [cN e.ch o])∧(sy=b.length→sy' =b'.length):=by
 have stay:e' =e→b' =b→sy' =sy→B5 e' b'∧(e'.ps=e.ps∨dF o=true∧e'.ps=e.ps++ [cN e.ch o])∧(sy=b.length→sy' =b'.length):=fun h1 h2 h3=>by
  subst h1 h2 h3;exact⟨hw,.inl rfl,fun h=>h⟩
 have hl:(frame (cN e.ch o)).length=16+(iU o).length:=by grind [dW,cN,iE]
 by_cases hg:(aP e.s o).2.2.2=0
 case neg=>
  rw[OU _ hd hg]at he;injection he with h1 h2
  injection h2 with h2 _
  injection h2 with _ h3 h4
  exact stay h1.symm h3.symm h4.symm
 by_cases hr:b.length+16+(iU o).length≤n
 ·rw[Bt (d:=⟨n,b,sy,0,false⟩) hd hg rfl rfl ab8]at he
  injection he with h1 h2
  injection h2 with h2 _
  injection h2 with _ h3 h4
  subst h1 h3 h4;have hrl:=rq (h:=e.ch) (nI (ia hg));refine⟨⟨Qw hw.ok hg h64,?_,?_,?_⟩,.inr ⟨ia hg,rfl⟩,fun _=>rfl⟩
  ·show b++frame _=frames (e.ps++ [_])
   rw[vu,hw.b]
  ·intro p hp
   rcases List.mem_append.1 hp with hp|hp
   ·exact hw.len p hp
   grind
  ·simp[mz,hw.log]
 ·rw[Gi (d:=⟨n,b,sy,0,false⟩) hd hg rfl ab8]at he
  injection he with h1 h2
  injection h2 with h2 _
  injection h2 with _ h3 h4
  exact stay h1.symm h3.symm h4.symm
theorem LO{o:OpD}(hf:OpF o){T:Nat}(ht:o.text.length≤T):(iU o).length≤T+400:=by
 unfold iU;simp only[ab1];have h1:=iI o.kind;have h2:=cV o.subj;have h3:=cV o.case;have h4:=cV o.field;have h5:=cV o.to;have h6:=wO hf.val;have h7:=iI o.review;have h8:=cV o.text;have h9:=cV o.reason;have h10:=wO (v:=dJ o.glass) (.inr (yY _));have:=hf.subj;have:=hf.case;have:=hf.field;have:=hf.to;have:=hf.reason;omega
theorem xL:∀(l:List Txt) {B:Nat},(∀p∈l,p.length≤B)→(frames l).length≤l.length*(B+8)
 | [],_,_=>by simp[frames]
 |p::l,B,h=>by
  have h1:=xL l (B:=B) fun q hq=>h q ab8
  have h2:=h p aci;rw[vt,ab1,dW,List.length_cons,Nat.add_mul];omega
end Go.Bf
namespace Go.Proofs.YtfdgemhnlennbaaGreatDoor
open Go Go.Ab Go.Bf
theorem vV.doW{h0 h:Heap}{x jid did n k:Nat}{e:cL}{b:Txt}{sy:Nat}{spl spj:List Nat}(w:vV h0 h x jid did e ⟨n,b,sy,0,false⟩ spl spj)(hW:B5 e b)(o:OpD)(hdn:e.down=false)(hps:e.ps.length≤999999)(hG:iQ k e.s)(hk:k≤1000)(h64:nC o)(her:j7 h0):
  ai Tryz.prog 10 [.ptr x 0,opA o] h fun r h' =>∃e' b' sy' RR spl' spj',doE e ⟨n,b,sy,0,false⟩ o=(e',⟨n,b',sy',0,false⟩,RR)∧r= .agg (lJ RR)∧vV h0 h' x jid did e' ⟨n,b',sy',0,false⟩ spl' spj'∧B5 e' b'∧iQ (k+1) e'.s∧e'.down=false∧(e'.ps=e.ps∨dF o=true∧e'.ps=e.ps++ [cN e.ch o])∧(sy=b.length→sy' =b'.length)∧
   (((aP e.s o).2.2.2≠0∧RR=(aP e.s o).2.1∧e' =e)∨((aP e.s o).2.2.2=0∧n<b.length+16+(iU o).length∧RR=Bu 8∧e' =e)∨((aP e.s o).2.2.2=0∧b.length+16+(iU o).length≤n∧RR=(aP e.s o).2.1∧e' =O8 e o))∧
   Touch (x::did::jid::(spl++spj)) h h'∧(∀i∈x::did::jid::(spl' ++spj'),i∈x::did::jid::(spl++spj)∨h i=none):=by
 obtain⟨e',b',sy',RR,ed,hok,hdn',hps',hlg',hG',hways⟩:=Nd o hdn hG w.ok;obtain⟨hW',hp',hy'⟩:=Kw hdn h64 hW ed;have hlg:=hW.log;refine(w.doS o ab7 ab7 hG hk h64 her ab8).mono fun r h' ⟨er,spl',spj',w',hT,hin⟩=>?_
 grind
theorem Mm:(U 37).sz=1:=acr
theorem FC(jid did:Nat)(ps:List (List UInt8))(down:Bool)(sp:List Nat)(h:Heap)(hj:JAt h 160 jid did ps down sp)(hl:ps.length≤1000000)(hp:∀p∈ps,p.length≤1000000):
  ai Tryz.prog 36 [.ptr jid 0] h fun r h' =>OwE 37 h h' 1 r (ps.map cD)∧Ab.Sub h h' :=by
 obtain⟨y,xs,a,b,c⟩:=hj;refine ab6 Tryz.func36 22 [.tmp 2] fun hwf=>?_
 obtain⟨qy,rfl⟩:=b.row;have hlen:=(c h).1;simp only[go_sem,a];refine .intro (fun m ρ g=>∃(i:Nat) (z:AV),OwE 37 h g 1 z ((ps.take i).map cD)∧Ab.Sub h g∧i≤ps.length∧m=ps.length - i∧lk ρ 3=some z∧lk ρ 9=some (.sl xs qy)∧lk ρ 10=some (.i xs.length)∧lk ρ 11=some (.i i)) (ps.length - 0) ?_ ?_
 ·refine⟨0,_,.inl ⟨rfl,rfl⟩,.refl h,ab7,rfl,?_,?_,?_,?_⟩<;>simp only[go_sem]
 rintro m ρ g ⟨i,z,ha,hs,hi,rfl,r3,r9,r10,r11⟩
 by_cases hc:i<ps.length
 ·have d1:decide ((i:Int)<(xs.length:Int))=true:=decide_eq_true ab7
  have w1:IntKind.i64.wrap ((i:Int)+1)=((i+1:Nat):Int):=acn;have hx:=(c g).2 i ab7 hc;simp only[go_sem,r3,r9,r10,r11,d1];refine .at i ab7 (by rw[hx.cells];rfl) ?_
  simp only[go_sem,r3,r9,r10,r11,hx.cells,hx.GP,and_self];refine(nU xs[i] ps[i] g hx ab8).pthen' ?_;simp only[go_sem,r3,r9,r10,r11];refine ha.app (U:=U) (tb:=37) hs (.sl (by intro v hv;rw[List.mem_singleton.1 hv];rfl) .full:Rd g 1 (.sl [cD ps[i]] .full) [cD ps[i]]) Mm acd acd acr aci af5 fun id z' g2 h0i hid hw ho=>?_
  simp only[go_sem,r3,r9,r10,r11,w1];refine⟨_,?_,i+1,z',.inr ⟨id,h0i,by grind [List.take_succ_eq_append_getElem]⟩,fun j b hj=>?_,ab7,rfl,?_,?_,?_,?_⟩
  ·omega
  ·grind [Ab.Sub]
  all_goals simp only[go_sem,r3,r9,r10,r11,w1]
 ·obtain rfl:i=ps.length:=by omega
  have d1:decide ((ps.length:Int)<(xs.length:Int))=false:=decide_eq_false ab7;simp only[go_sem,r3,r9,r10,r11,d1];rw[List.take_length]at ha;exact .same (.refl _) ⟨ha,hs⟩
theorem CF(x jid did:Nat)(e:cL)(spl spj:List Nat)(h:Heap)(he:iW h x jid did e spl spj)(hl:e.ps.length≤1000000)(hp:∀p∈e.ps,p.length≤1000000):ai Tryz.prog 11 [.ptr x 0] h fun r h' =>OwE 37 h h' 1 r (e.ps.map cD)∧Ab.Sub h h' :=by
 obtain⟨yl,hx,hg,hj⟩:=he;have g:=hx;unfold lD at g;refine ab6 Tryz.func11 8 [.tmp 2] fun hwf=>?_
 simp only[go_sem,g];refine(FC jid did e.ps e.down spj h hj hl hp).mono fun r h' ⟨w,hs⟩=>?_
 simp only[go_sem];exact .same (.refl _) ⟨w,hs⟩
def y8(c:BitVec 64):AV:=.v (.int .u64 (c.toNat:Int))
theorem Oi(ps:List Txt)(q:Perm)(h:Heap)(hl:ps.length≤1000000)(hp:∀p∈ps,p.length≤1000000):ai Tryz.prog 14 [.sl (ps.map cD) q] h fun r h' =>∃q',r= .sl ((pL 0#64 ps).map y8) q'∧Ab.Sub h h' :=by
 have st:∀i (hi:i<ps.length),pL 0#64 (ps.take (i+1))=pL 0#64 (ps.take i)++ [chL 0#64 (ps.take (i+1))]:=fun i hi=>by
  refine List.ext_getElem (by grind [mI]) fun j h1 h2=>?_
  rw[mI,List.length_take]at h1
  by_cases hj:j<i
  ·grind [List.getElem_append_left,mI,List.length_take,tK]
  grind [List.getElem_append_right,mI,List.length_take,tK]
 refine ab6 Tryz.func14 22 [.tmp 2] fun hwf=>?_
 simp only[go_sem,abX];refine .intro (fun m ρ g=>∃(i:Nat) (z:AV),Acc U 48 h g z ((pL 0#64 (ps.take i)).map y8)∧i≤ps.length∧m=ps.length - i∧lk ρ 3=some z∧lk ρ 4=some (y8 (chL 0#64 (ps.take i)))∧lk ρ 7=some (.sl (ps.map cD) q)∧lk ρ 8=some (.i ps.length)∧lk ρ 9=some (.i i)) (ps.length - 0) ?_ ?_
 ·refine⟨0,_,.full (.refl h),ab7,rfl,?_,?_,?_,?_,?_⟩<;>simp only[go_sem]
  all_goals rfl
 rintro m ρ g ⟨i,z,ha,hi,rfl,r3,r4,r7,r8,r9⟩
 by_cases hc:i<ps.length
 ·have d1:decide ((i:Int)<(ps.length:Int))=true:=decide_eq_true ab7
  have w1:IntKind.i64.wrap ((i:Int)+1)=((i+1:Nat):Int):=acn;have ix:=fun k=>fm.eq (xs:=ps.map cD) (sz:=1) i ab8 acq k
  have hpl:=hp _ (ab2 hc);rw[abY]at ix;simp only[cD]at ix;have ec:j9 (chL 0#64 (ps.take i)) ps[i]=chL 0#64 (ps.take (i+1)):=by
   grind [List.take_succ_eq_append_getElem,chL]
  unfold y8 at r4;simp only[go_sem,r3,r4,r7,r8,r9,d1,ix];refine(xj _ _ ps[i] _ (.sl _ _) hpl).pthen ?_;rw[ec];simp only[go_sem,r3,r4,r7,r8,r9];refine ha.app (v:=.sl [y8 (chL 0#64 (ps.take (i+1)))] .full) (zs:=[y8 (chL 0#64 (ps.take (i+1)))]) acd acd (fun k hk=>hk) (by simp only[go_sem];intro v hv;obtain⟨c,_,rfl⟩:=List.mem_map.1 hv;rfl) (by simp only[go_sem];rfl) (by simp[mI];simp only[go_sem];omega) fun z' g2 ha' hk' =>?_
  simp only[go_sem,r3,r7,r8,r9,w1];refine⟨_,?_,i+1,z',ab8,ab7,rfl,?_,?_,?_,?_,?_⟩
  ·omega
  all_goals simp only[go_sem,r3,r7,r8]
  rfl
 ·obtain rfl:i=ps.length:=by omega
  have d1:decide ((ps.length:Int)<(ps.length:Int))=false:=decide_eq_false ab7;simp only[go_sem,r3,r7,r8,r9,d1];rw[List.take_length]at ha;obtain⟨q',rfl⟩:=ha.row;exact .same (.refl _) ⟨q',rfl,ha.1⟩
theorem bx.join{P:Program}{U:TypeId→TI}{n:Nat}{a d:Code}{K:Exit→Env→Heap→Prop}{ρ:Env}{h:Heap}(I:Env→Heap→Prop)(hd:∀ρ' H',I ρ' H'→bx P U n d ρ' H' K)(ha:∀K' :Exit→Env→Heap→Prop,(∀ρ' H',I ρ' H'→K' .normal ρ' H')→bx P U n a ρ h K'):bx P U n (a.seq d) ρ h K:=ha _ hd
theorem u9.join{P:Program}{U:TypeId→TI}{n:Nat}{c:Code}{K:Exit→Env→Heap→Prop}{ρ:Env}{h:Heap}(ex:Exit)(I:Env→Heap→Prop)(hK:∀ρ' H',I ρ' H'→K ex ρ' H')(hc:∀K' :Exit→Env→Heap→Prop,(∀ρ' H',I ρ' H'→K' ex ρ' H')→u9 P U n c ρ h K'):u9 P U n c ρ h K:=hc K hK
theorem Kt{x:AV}(h:Dat U 22 x):∃l:List Txt,x= .sl (l.map .s) .no∧l.length≤maxLen∧∀s∈l,s.length≤maxLen:=h.list (e:=9) acj fun y hy=>hy.Oh acj
end Go.Proofs.YtfdgemhnlennbaaGreatDoor
namespace Go.Bf
open Go Go.Ab Go.Proofs.YtfdgemhnlennbaaGreatDoor
def Co(i:Nat):OpD:=⟨1,P4,[99,UInt8.ofNat (97+i)],[],[],au,0,[],[],false⟩
def Cp(n:Nat):OpD:=⟨8,Wi,[],[],[],au,((1+n % 9:Nat):Int),[],[],false⟩
theorem Ob{o:OpD}(h1: -1000000≤o.kind∧o.kind≤1000000)(h2:o.val=au)(h3: -1000000≤o.review∧o.review≤1000000):nC o:=by
 refine⟨qZ h1.1 h1.2,?_,?_,qZ h3.1 h3.2⟩<;>rw[h2]<;>exact qZ acd acd
def Made(ps L:List Txt):Prop:=(∀e,so L=some e→Clash 0#64 ps)∧(∀p∈L,p∈ps)∧L.length≤ps.length
theorem IY{e:cL}(he:zP e){i:Nat}(hi:i+1<e.ps.length):Made e.ps (e.ps.eraseIdx i):=
 ⟨fun e3 h=>EA (e:=fC e.ps) (e2:=fC (e.ps.eraseIdx i)) rfl he hi h,fun p hp=>List.mem_of_mem_eraseIdx hp,by rw[List.length_eraseIdx];split<;>omega⟩
theorem IZ{e:cL}(he:zP e){i k:Nat}(hi:i<e.ps.length)(hk:k<e.ps.length)(hik:i≠k):Made e.ps ((e.ps.set i e.ps[k]).set k e.ps[i]):=by
 refine⟨fun e3 h=>?_,fun p hp=>?_,aci⟩
 ·rcases Nat.lt_or_gt_of_ne hik with h1|h1
  ·exact xl (e:=fC e.ps) (e2:=fC ((e.ps.set i e.ps[k]).set k e.ps[i])) rfl he h1 hk h
  ·rw[List.set_comm _ _ hik]at h
   exact xl (e:=fC e.ps) (e2:=fC ((e.ps.set k e.ps[i]).set i e.ps[k])) rfl he h1 hi h
 ·rcases List.mem_or_eq_of_mem_set hp with hp|rfl
  ·rcases List.mem_or_eq_of_mem_set hp with hp|rfl
   ·exact hp
   ·exact ab2 _
  ·exact ab2 _
theorem Ai(ps:List Txt):aq (ps.map cD)=ps.map cD:=by
 induction ps with
 |nil=>rfl
 |cons a r ih=>rw[List.map_cons,jk,ih];rfl
theorem Uj{l:List AV}{j:Nat}(h:j<l.length)(x:AV):l.take (j*1)++ [x]++l.drop (j*1+1)=l.set j x:=by
 rw[Nat.mul_one,List.set_eq_take_append_cons_drop,if_pos h];simp
end Go.Bf
namespace Go.Proofs.YtfdgemhnlennbaaGreatDoor
open Go Go.Ab Go.Bf
theorem HU(i:Nat)(h:i≤20)(k:AV→Prop):cvA U (.slice 5) .str (.sl [.v (.int .u8 (IntKind.u8.wrap ((97+i:Nat):Int)))] .full) k=k (.s [UInt8.ofNat (97+i)]):=by
 have e:IntKind.u8.wrap ((97+i:Nat):Int)=((UInt8.ofNat (97+i)).toNat:Int):=by
  rw[UInt8.toNat_ofNat',Nat.mod_eq_of_lt ab7];simp only[IntKind.wrap,IntKind.bits,IntKind.signed];simp;omega
 rw[e];have:=Tn (U:=U) 5 [UInt8.ofNat (97+i)] .full k;rw[show([UInt8.ofNat (97+i)]:List UInt8).map aK= [.v (.int .u8 ((UInt8.ofNat (97+i)).toNat:Int))]from rfl]at this
 rw[this];simp only[go_sem]
set_option maxHeartbeats 2000000 in
theorem xz(x y z:AV)(dx:Dat U 22 x)(dy:Dat U 3 y)(dz:Dat U 3 z)(h:Heap)(he:j7 h):ai Tryz.prog 3 [x,y,z] h fun r h' =>r= .b true∧h' =h:=
 ai.freeze fun g hgs _=>by
 replace he:=he.sub hgs;obtain⟨l,rfl,hl,hls⟩:=Kt dx;obtain⟨at_,rfl,ha64⟩:=dy.i64 acj;obtain⟨ot,rfl,ho64⟩:=dz.i64 acj;have hfin:∀G,Ab.Sub g G→ai Tryz.prog 12 [] G fun r h' =>r= .b true∧h' =G:=fun G hG=>zo G (he.sub hG)
 refine ab6 Tryz.func3 210 [.tmp 6] fun hwf=>?_
 simp -implicitDefEqProofs only[go_sem];refine(xu 60000 acd g).mono fun r h1 ⟨did,hn,er,hdk,s1⟩=>?_
 subst er;simp -implicitDefEqProofs only[go_sem];refine(FP 60000 acd did g h1 hdk s1 hn he).mono fun r h2 ⟨x,jid,spl,spj,er,w⟩=>?_
 subst er;simp -implicitDefEqProofs only[go_sem];refine u9.join (.exit 0) (fun ρ H=>∃(e:cL) (b:Txt) (sy:Nat) (spl spj:List Nat),vV g H x jid did e ⟨60000,b,sy,0,false⟩ spl spj∧B5 e b∧e.down=false∧e.ps.length≤20∧(∀p∈e.ps,p.length≤410)∧lk ρ 1=some (.i at_)∧lk ρ 2=some (.i ot)∧lk ρ 9=some (.ptr x 0)) ?_ fun K' hK=>?_
 ·rintro ρ H ⟨e,b,sy,spl,spj,w,hW,hdn,hps,hpl,r1,r2,r9⟩
  simp -implicitDefEqProofs only[go_sem,r9];refine(vo x jid did e spl spj H w.eng ab7 (fun p hp=>by have:=hpl p hp;omega)).mono fun r H1 ⟨q1,er,hs1⟩=>?_
  subst er;replace w:=w.up hs1;have hok:=hW.ok;have hlen:=hW.len;obtain⟨ps,eps⟩:∃ps,e.ps=ps:=⟨_,rfl⟩;rw[eps]at hps hpl hlen⊢
  by_cases h3:ps.length<3
  ·have t1:decide ((ps.length:Int)<3)=true:=decide_eq_true ab7
   simp -implicitDefEqProofs only[go_sem,abX,t1];refine(hfin _ w.sub).pthen ?_;simp -implicitDefEqProofs only[go_sem];exact .same (.refl _) ⟨w.sub,_,.pure rfl,rfl⟩
  have t1:decide ((ps.length:Int)<3)=false:=decide_eq_false ab7;have v1:IntKind.i64.wrap ((ps.length:Int) - 2)=((ps.length - 2:Nat):Int):=acV;have v2:IntKind.i64.wrap ((ps.length:Int) - 1)=((ps.length - 1:Nat):Int):=acV;have hwi:=zb at_ (ps.length - 2);have hwk:=zb ot (ps.length - 1);simp -implicitDefEqProofs only[go_sem,abX,t1,r1,r2,v1,v2];refine(A6 at_ (ps.length - 2) _ ha64 ab7).pthen ?_;simp -implicitDefEqProofs only[go_sem,r2,abX,v2];refine(A6 ot (ps.length - 1) _ ho64 ab7).pthen ?_;obtain⟨i,ei⟩:∃i,pE at_ (ps.length - 2)=i:=⟨_,rfl⟩;obtain⟨k,ek⟩:∃k,pE ot (ps.length - 1)=k:=⟨_,rfl⟩;rw[ei]at hwi⊢;rw[ek]at hwk⊢;simp -implicitDefEqProofs only[go_sem,abX];refine u9.join (.exit 2) (fun ρ G=>∃z,Acc U 37 H1 G z ((ps.eraseIdx i).map cD)∧lk ρ 1=some (.i at_)∧lk ρ 9=some (.ptr x 0)∧lk ρ 12=some (.sl (ps.map cD) q1)∧lk ρ 13=some (.i i)∧lk ρ 14=some (.i k)∧lk ρ 15=some z) ?_ fun K2 hK2=>?_
  ·rintro ρ G ⟨z,ha,r1,r9,r12,r13,r14,r15⟩
   show bx Tryz.prog U _ (Code.seq _ _) _ _ _
   refine bx.join (fun ρ G=>∃y L,lk ρ 15=some y∧Rd G 1 y (L.map cD)∧Made ps L∧Ab.Sub g G∧lk ρ 12=some (.sl (ps.map cD) q1)) ?_ fun K3 hK3=>?_
   ·rintro ρ G ⟨y,L,r15,hrd,hmade,hsG,r12⟩
    simp -implicitDefEqProofs only[go_sem];refine(xu 60000 acd G).mono fun r G1 ⟨cid,hn2,er,hdk2,s2⟩=>?_
    subst er;simp -implicitDefEqProofs only[go_sem,r12];refine(Oi ps q1 G1 ab7 (fun p hp=>by have:=hpl p hp;omega)).mono fun r G2 ⟨q2,er,s3⟩=>?_
    subst er;have hrd2:=(hrd.sub s2).sub s3;have hL:L.length≤20:=by have:=hmade.2.2;omega
    have hLp:∀p∈L,9≤p.length∧p.length≤410:=fun p hp=>⟨(hlen p (hmade.2.1 p hp)).1,hpl p (hmade.2.1 p hp)⟩
    simp -implicitDefEqProofs only[go_sem,r15,hrd2.len,abX];refine .intro (fun m ρ H=>∃(j:Nat) (b:Txt) (sy:Nat),bM H cid ⟨60000,b,sy,0,false⟩∧D.ok ⟨60000,b,sy,0,false⟩∧b=frames (L.take j)∧Ab.Sub G H∧j≤L.length∧m=L.length - j∧lk ρ 18=some (.ptr cid 0)∧lk ρ 20=some (.b false)∧lk ρ 21=some (.sl ((pL 0#64 ps).map y8) q2)∧lk ρ 145=some y∧lk ρ 146=some (.i L.length)∧lk ρ 147=some (.i j)) (L.length - 0) ?_ ?_
    ·refine⟨0,[],0,hdk2.keep s3.eW,⟨Nat.zero_le _,acd,Nat.zero_le _,acd⟩,rfl,s2.trans s3,ab7,rfl,?_,?_,?_,?_,?_,?_⟩<;>simp -implicitDefEqProofs only[go_sem,r15]
     all_goals rfl
    rintro m ρ H ⟨j,b,sy,hdk,hdo,hb,hsH,hj,rfl,r18,r20,r21,r145,r146,r147⟩
    by_cases hc:j<L.length
    ·have d1:decide ((j:Int)<(L.length:Int))=true:=decide_eq_true ab7
     have w1:IntKind.i64.wrap ((j:Int)+1)=((j+1:Nat):Int):=acn;have hrdH:=hrd.sub hsH;obtain⟨hp9,hp410⟩:=hLp _ (ab2 hc);have hxi:(L.map cD)[j]'(by simpa using hc)=cD L[j]:=abY ..
     simp -implicitDefEqProofs only[go_sem,r145,r146,r147,d1];refine hrdH.idx (U:=U) (e:=37) j rfl (by simpa using hc) Mm acd fun p hp1=>?_
     have hld:=hp1.all (U:=U) (ty:=37) (by rw[Mm];decide) (by rw[Mm,hxi];rfl) (by rw[hxi];rfl)
     obtain⟨p0,ep0⟩:∃p0,L[j]=p0:=⟨_,rfl⟩;rw[hxi,ep0]at hld;rw[ep0]at hp9 hp410;simp only[cD]at hld;simp -implicitDefEqProofs only[go_sem,hld,r18];refine(CO _ p0 H (.sl _ _) ab7).mono fun r H2 ⟨er,s4⟩=>?_
     subst er;have hfl:=xL (L.take j) (B:=410) (fun p hp=>(hLp p (List.mem_of_mem_take hp)).2)
     have hb2:b.length+(frame p0).length≤60000:=by
      rw[hb,dW];rw[List.length_take]at hfl;have:=Nat.mul_le_mul_right 418 (show min j L.length≤20 by omega)
      omega
     have hap:=D.F9 (d:=⟨60000,b,sy,0,false⟩) (b:=frame p0) rfl rfl hb2;simp -implicitDefEqProofs only[go_sem,r18];refine(qT _ hdo cid H2 _ (frame p0) (hdk.keep s4.eW) (.sl _ _) ab7).mono fun r H3 ⟨er,hd3,hk3⟩=>?_
     rw[hap]at er hd3;subst er;simp -implicitDefEqProofs only[go_sem,r147,w1];refine⟨_,?_,j+1,b++frame p0,sy,hd3,⟨by rw[ab1];exact hb2,hdo.2.1,Nat.le_trans hdo.2.2.1 aci,hdo.2.2.2⟩,?_,tJ (hsH.trans s4) hk3 hn2,ab7,rfl,?_,?_,?_,?_,?_,?_⟩
     ·omega
     ·rw[List.take_succ_eq_append_getElem hc,vu,ep0,hb]
     all_goals simp -implicitDefEqProofs only[go_sem,r18,r20,r21,r145,r146]
    ·obtain rfl:j=L.length:=by omega
     have d1:decide ((L.length:Int)<(L.length:Int))=false:=decide_eq_false ab7;rw[List.take_length]at hb;have hsl:=mI ps 0#64;have hsg:=tK ps 0#64;obtain⟨ss,ess⟩:∃ss,pL 0#64 ps=ss:=⟨_,rfl⟩;rw[ess]at hsl r21;simp only[ess]at hsg;have iz:=fun(j:Nat) (hj:j<ss.length) k=>fm.eq (xs:=ss.map y8) (sz:=1) j (by simpa using hj) acq k
     simp only[abY,y8]at iz;simp -implicitDefEqProofs only[go_sem,r145,r146,r147,d1,r21,abX,hsl];refine .intro (fun m ρ H' =>∃(n:Nat) (c:Bool),H' =H∧(∀a b,(hab:a<b)→(hb:b<ss.length)→b<n→(ss[b]=ss[a]'ab7∨ss[b]=0#64)→c=true)∧n≤ps.length∧m=ps.length - n∧lk ρ 18=some (.ptr cid 0)∧lk ρ 20=some (.b c)∧lk ρ 21=some (.sl (ss.map y8) q2)∧lk ρ 158=some (.i ps.length)∧lk ρ 159=some (.i n)) (ps.length - 0) ?_ ?_
     ·refine⟨0,false,rfl,fun a b _ _ h=>ab7,ab7,rfl,?_,?_,?_,?_,?_⟩<;>simp -implicitDefEqProofs only[go_sem,r18,r20,r21]
      all_goals rfl
     rintro m ρ H' ⟨n,c,rfl,hP,hnl,rfl,r18,r20,r21,r158,r159⟩
     by_cases hc2:n<ps.length
     ·have d2:decide ((n:Int)<(ps.length:Int))=true:=decide_eq_true ab7
      have w1:IntKind.i64.wrap ((n:Int)+1)=((n+1:Nat):Int):=acn;have izn:=iz n ab7;simp -implicitDefEqProofs only[go_sem,r158,r159,d2];refine .intro (fun m ρ H2=>∃(k:Nat) (c:Bool),H2=H'∧(∀a b,(hab:a<b)→(hb:b<ss.length)→(b<n∨b=n∧a<k)→(ss[b]=ss[a]'ab7∨ss[b]=0#64)→c=true)∧k≤n∧m=n - k∧lk ρ 18=some (.ptr cid 0)∧lk ρ 20=some (.b c)∧lk ρ 21=some (.sl (ss.map y8) q2)∧lk ρ 24=some (.i n)∧lk ρ 25=some (.i k)∧lk ρ 158=some (.i ps.length)∧lk ρ 159=some (.i n)) (n - 0) ?_ ?_
      ·refine⟨0,c,rfl,fun a b h1 h2 h3 h4=>hP a b h1 h2 ab7 h4,ab7,rfl,?_,?_,?_,?_,?_,?_,?_⟩<;>simp -implicitDefEqProofs only[go_sem,r18,r20,r21,r158,r159]
       all_goals rfl
      rintro m ρ H2 ⟨k,c,rfl,hQ,hkn,rfl,r18,r20,r21,r24,r25,r158,r159⟩
      by_cases hc3:k<n
      ·have d3:decide ((k:Int)<(n:Int))=true:=decide_eq_true ab7
       have w2:IntKind.i64.wrap ((k:Int)+1)=((k+1:Nat):Int):=acn;have izk:=iz k ab7;have fin:∀c' :Bool,(c=true∨ss[n]=ss[k]∨ss[n]=0#64→c' =true)→∀a b,(hab:a<b)→(hb:b<ss.length)→(b<n∨b=n∧a<k+1)→(ss[b]=ss[a]'ab7∨ss[b]=0#64)→c' =true:=fun c' hc' a b h1 h2 h3 h4=>by
        by_cases e:b=n∧a=k
        ·obtain⟨rfl,rfl⟩:=e
         exact hc' (.inr h4)
        ·exact hc' (.inl (hQ a b h1 h2 ab7 h4))
       simp -implicitDefEqProofs only[go_sem,r24,r25,d3];refine⟨.of ace,?_⟩;cases c
       ·cases q1:((ss[n].toNat:Int)==(ss[k].toNat:Int))
        ·have e1:¬ss[n]=ss[k]:=fun e=>by rw[e,beq_self_eq_true]at q1;cases q1
         simp -implicitDefEqProofs only[go_sem,r20,r21,r24,r25,izn,izk,q1];refine⟨_,?_,k+1,((ss[n].toNat:Int)==0),rfl,fin _ (fun h=>?_),ab7,rfl,?_,?_,?_,?_,?_,?_,?_⟩
         ·omega
         ·rcases h with h|h|h
          ·cases h
          ·exact(e1 h).elim
          ·rw[h];rfl
         all_goals simp -implicitDefEqProofs only[go_sem,r18,r21,r24,r25,r158,r159,w2]
        ·simp -implicitDefEqProofs only[go_sem,r20,r21,r24,r25,izn,izk,q1]
         refine⟨_,?_,k+1,true,rfl,fin _ (fun h=>rfl),ab7,rfl,?_,?_,?_,?_,?_,?_,?_⟩
         ·omega
         all_goals simp -implicitDefEqProofs only[go_sem,r18,r21,r24,r25,r158,r159,w2]
       ·simp -implicitDefEqProofs only[go_sem,r20,r25]
        refine⟨_,?_,k+1,true,rfl,fin _ (fun h=>rfl),ab7,rfl,?_,?_,?_,?_,?_,?_,?_⟩
        ·omega
        all_goals simp -implicitDefEqProofs only[go_sem,r18,r21,r24,r25,r158,r159,w2]
      ·have hkn:k=n:=by omega
       subst hkn;have d3:decide ((k:Int)<(k:Int))=false:=decide_eq_false ab7;simp -implicitDefEqProofs only[go_sem,r24,r25,d3,r159,w1];refine⟨_,?_,k+1,c,rfl,fun a b h1 h2 h3 h4=>hQ a b h1 h2 ab7 h4,ab7,rfl,?_,?_,?_,?_,?_⟩
       ·omega
       all_goals simp -implicitDefEqProofs only[go_sem,r18,r20,r21,r158]
     ·have hnl:n=ps.length:=by omega
      subst hnl;have d2:decide ((ps.length:Int)<(ps.length:Int))=false:=decide_eq_false ab7;have hsc:=Jn L [] (fun p hp=>by have:=hLp p hp;omega) acd
      rw[List.append_nil,←hb]at hsc;have hop:=D.Ly hdo rfl rfl;simp only[hsc]at hop;simp -implicitDefEqProofs only[go_sem,r158,r159,d2,r18];refine(D4 _ hdo cid H' hdk (he.sub (hsG.trans hsH)) (by rw[hsc];show L.length≤900;omega)).mono fun r H8 ⟨hd8,hk8,hr⟩=>?_
      rw[hop,hsc]at hr;simp only[if_true]at hr;have hs8:Ab.Sub g H8:=hsG.trans (tJ hsH hk8 hn2);unfold tX at hr;cases hst:so L with
      |none=>
       rw[hst]at hr;subst hr;simp -implicitDefEqProofs only[go_sem];exact ag2
      |some e3=>
       rw[hst]at hr;obtain⟨x3,jid3,spl3,spj3,rfl,_,_⟩:=hr;have iz0:=iz 0 ab7;simp only[Int.natCast_zero]at iz0;obtain⟨a,b2,hab,hb2,hcl⟩:=hmade.1 _ hst;cases c
       ·have z0:(((ss[0]'ab7).toNat:Int)==0)=true:=by
         have g2:=hsg (b2 - 1) ab7;rw[show b2 - 1+1=b2 by omega,←hcl]at g2
         by_cases ha0:a=0
         ·subst ha0
          by_cases hb1:b2=1
          ·subst hb1
           rw[show ss[0]=0#64 from g2];rfl
          ·cases hP 0 (b2 - 1) ab7 ab7 ab7 (.inr g2)
         ·have g1:=hsg (a - 1) ab7
          rw[show a - 1+1=a by omega]at g1
          cases hP (a - 1) (b2 - 1) ab7 ab7 ab7 (.inl (g2.trans g1.symm))
        simp -implicitDefEqProofs only[go_sem,r20,r21,iz0,z0];exact ag2
       ·simp -implicitDefEqProofs only[go_sem,r20]
        exact ag2
   ·have hi:i<ps.length:=by omega
    have hk:k<ps.length:=ab7;have hdrop:Made ps (ps.eraseIdx i):=by have:=IY hok (i:=i) (by rw[eps];omega);rw[eps]at this;exact this
    obtain⟨qz,ez⟩:=Acc.row ha;have hsG:=w.sub.trans ha.1;have keep:∀ρ',lk ρ' 15=some z→lk ρ' 12=some (.sl (ps.map cD) q1)→K3 .normal ρ' G:=fun ρ' a b=>hK3 _ _ ⟨z,_,a,by rw[ez];exact .sl (mH _) _,hdrop,hsG,b⟩
    cases t2:(at_.tmod 2==0)
    ·simp -implicitDefEqProofs only[go_sem,r1,r13,r14,t2]
     refine⟨acd,?_⟩;exact keep _ (by simp -implicitDefEqProofs only[go_sem,r15]) (by simp -implicitDefEqProofs only[go_sem,r12])
    ·cases t3:((i:Int) !=(k:Int))
     ·simp -implicitDefEqProofs only[go_sem,r1,r13,r14,t2,t3]
      refine⟨acd,?_⟩;exact keep _ (by simp -implicitDefEqProofs only[go_sem,r15]) (by simp -implicitDefEqProofs only[go_sem,r12])
     ·have hik:i≠k:=by simp at t3;omega
      simp -implicitDefEqProofs only[go_sem,r1,r13,r14,t2,t3];refine⟨acd,?_⟩;simp -implicitDefEqProofs only[go_sem,t2,r13,r14,t3,r9];refine(CF x jid did e spl spj G (w.eng.sub ha.1) (by rw[eps];omega) (fun p hp=>by rw[eps]at hp;have:=hpl p hp;omega)).mono fun r G1 ⟨ow,hs2⟩=>?_
      rw[eps]at ow;obtain⟨id,hid0,ow1⟩:=ow.ow (by intro e;rw[List.map_eq_nil_iff]at e;rw[e]at hi;cases hi)
      have uS:(U 37).sz=1:=Mm;obtain⟨cap,rest,ey,hidv,hrest,hcap,hsz⟩:=ow1;subst ey;rw[Ai]at hidv;have lm:(ps.map cD).length=ps.length:=abX ..;have gr:∀m (hm:m<ps.length),(ps.map cD++rest)[m*1]? =some (.sl (ps[m].map aK) .no):=fun m hm=>by
       rw[Nat.mul_one,List.getElem?_append_left ab7,List.getElem?_map,List.getElem?_eq_getElem hm];rfl
      have gi:=gr i hi;have gk:=gr k hk;have b1:(0:Int)≤(k:Int):=ab7;have b2:(k:Int)<((ps.map cD).length:Int):=ab7;have b3:(0:Int)≤(i:Int):=ab7;have b4:(i:Int)<((ps.map cD).length:Int):=ab7;simp -implicitDefEqProofs only[go_sem];refine .late (hm1 id (.obj (ps.map cD++rest) 37)) [0,1,4,5,8,9,6,10,7,11,12] [2,3,13,14,15] (.hm1 hidv) ace ?_;simp -implicitDefEqProofs only[go_sem,r13,r14,b1,b2,b3,b4,and_self,true_and,gi,gk,hidv];refine⟨acH,acH,?_⟩;have p1:=Uj (l:=ps.map cD++rest) (j:=i) acH (.sl (ps[k].map aK) .no);have p2:=Uj (l:=(ps.map cD++rest).set i (.sl (ps[k].map aK) .no)) (j:=k) acH (.sl (ps[i].map aK) .no);rw[p1,p2];have e1:((ps.map cD++rest).set i (.sl (ps[k].map aK) .no)).set k (.sl (ps[i].map aK) .no)=((ps.set i ps[k]).set k ps[i]).map cD++rest:=by
       show((ps.map cD++rest).set i (cD ps[k])).set k (cD ps[i])=_
       rw[List.set_append_left _ _ acH,List.set_append_left _ _ acH,List.map_set,List.map_set]
      rw[e1];have hsw:Made ps ((ps.set i ps[k]).set k ps[i]):=by
       have:=IZ hok (i:=i) (k:=k) (by rw[eps];exact hi) (by rw[eps];exact hk) hik
       simp only[eps]at this;exact acQ
      have hlL:((ps.set i ps[k]).set k ps[i]).length=ps.length:=aci;generalize (ps.set i ps[k]).set k ps[i]=L at hsw hlL⊢;have ow2:Ow 37 (upd G1 id (some (.obj (L.map cD++rest) 37))) 1 id (.ob id 0 (ps.map cD).length cap 1) (L.map cD):=by
       refine⟨cap,rest,by rw[abX,abX,hlL],by rw[Ai];exact ah ..,?_,?_,mH _⟩
       ·rw[hrest,abX,abX,hlL]
       ·rw[abX,hlL];rw[abX]at hcap;exact hcap
      refine hK3 _ _ ⟨_,L,?_,ow2.rd,hsw,fun j b hj=>?_,?_⟩
      ·simp -implicitDefEqProofs only[go_sem]
      ·rw[ag _ _ (fun e=>by rw[e,hsG.none hid0]at hj;cases hj)]
       exact hs2 _ _ (hsG _ _ hj)
      ·simp -implicitDefEqProofs only[go_sem,r12]
  refine .intro (fun m ρ G=>∃(j:Nat) (z:AV),Acc U 37 H1 G z (((ps.take j).eraseIdx i).map cD)∧j≤ps.length∧m=ps.length - j∧lk ρ 1=some (.i at_)∧lk ρ 9=some (.ptr x 0)∧lk ρ 12=some (.sl (ps.map cD) q1)∧lk ρ 13=some (.i i)∧lk ρ 14=some (.i k)∧lk ρ 15=some z∧lk ρ 94=some (.sl (ps.map cD) q1)∧lk ρ 95=some (.i ps.length)∧lk ρ 96=some (.i j)) (ps.length - 0) ?_ ?_
  ·refine⟨0,_,.full (.refl _),ab7,rfl,?_,?_,?_,?_,?_,?_,?_,?_,?_⟩<;>simp -implicitDefEqProofs only[go_sem,r1,r9]
   simp
  rintro m ρ G ⟨j,z,ha,hj,rfl,r1,r9,r12,r13,r14,r15,r94,r95,r96⟩
  by_cases hc:j<ps.length
  ·have d1:decide ((j:Int)<(ps.length:Int))=true:=decide_eq_true ab7
   have w1:IntKind.i64.wrap ((j:Int)+1)=((j+1:Nat):Int):=acn;have ix:=fun k=>fm.eq (xs:=ps.map cD) (sz:=1) j (by simpa using hc) acq k
   rw[abY]at ix;simp only[cD]at ix;have tk:=List.take_succ_eq_append_getElem hc
   by_cases hji:j=i
   ·have d2:((j:Int) !=(i:Int))=false:=by simp[hji]
    simp -implicitDefEqProofs only[go_sem,r94,r95,r96,d1,ix,r13,d2,w1];refine⟨_,?_,j+1,z,?_,ab7,rfl,?_,?_,?_,?_,?_,?_,?_,?_,?_⟩
    ·omega
    ·rw[tk,List.eraseIdx_append_of_length_le acH,show i - (ps.take j).length=0 by simp;omega]
     rw[List.eraseIdx_of_length_le acH]at ha;simpa using ha
    all_goals simp -implicitDefEqProofs only[go_sem,r1,r9,r12,r13,r14,r15,r94,r95]
   ·have d2:((j:Int) !=(i:Int))=true:=by simp;omega
    simp -implicitDefEqProofs only[go_sem,r94,r95,r96,d1,ix,r13,d2,r15];refine ha.app (v:=.sl [cD ps[j]] .full) (zs:=[cD ps[j]]) acd acd (fun k hk=>hk) (by grind [u27,mH]) afw af5 fun z' g2 ha' hk' =>?_
    simp -implicitDefEqProofs only[go_sem,r96,w1];refine⟨_,?_,j+1,z',?_,ab7,rfl,?_,?_,?_,?_,?_,?_,?_,?_,?_⟩
    ·omega
    ·rw[tk]
     by_cases hlt:i<(ps.take j).length
     ·rw[List.eraseIdx_append_of_lt_length hlt,List.map_append];exact ha'
     ·rw[List.eraseIdx_append_of_length_le ab7]
      rw[List.eraseIdx_of_length_le ab7]at ha';rw[List.eraseIdx_of_length_le (by simp at hlt⊢;omega),List.map_append];exact ha'
    all_goals simp -implicitDefEqProofs only[go_sem,r1,r9,r12,r13,r14,r94,r95]
  ·obtain rfl:j=ps.length:=by omega
   have d1:decide ((ps.length:Int)<(ps.length:Int))=false:=decide_eq_false ab7;rw[List.take_length]at ha;simp -implicitDefEqProofs only[go_sem,r94,r95,r96,d1];refine hK2 _ _ ⟨z,ha,?_,?_,?_,?_,?_,?_⟩<;>simp -implicitDefEqProofs only[go_sem,r1,r9,r12,r13,r14,r15]
 refine .intro (fun m ρ H=>∃(i:Nat) (e:cL) (b:Txt) (sy:Nat) (spl spj:List Nat),vV g H x jid did e ⟨60000,b,sy,0,false⟩ spl spj∧B5 e b∧iQ (2*i) e.s∧e.down=false∧e.ps.length≤2*i∧(∀p∈e.ps,p.length≤410)∧i≤10∧m=10 - i∧lk ρ 0=some (.sl (l.map .s) .no)∧lk ρ 1=some (.i at_)∧lk ρ 2=some (.i ot)∧lk ρ 9=some (.ptr x 0)∧lk ρ 11=some (.i i)) 10 ?_ ?_
 ·refine⟨0,fC [],[],0,spl,spj,w,KB,rR,rfl,Nat.le_refl _,fun p hp=>(by cases hp),ab7,rfl,?_,?_,?_,?_,?_⟩<;>simp -implicitDefEqProofs only[go_sem]
  all_goals rfl
 rintro m ρ H ⟨i,e,b,sy,spl,spj,w,hW,hG,hdn,hps,hpl,hi,rfl,r0,r1,r2,r9,r11⟩
 by_cases hlt:i<l.length∧i<10
 ·have t1:decide ((i:Int)<(l.length:Int))=true:=decide_eq_true ab7
  have t2:decide ((i:Int)<10)=true:=decide_eq_true ab7;have w1:IntKind.i64.wrap ((i:Int)+1)=((i+1:Nat):Int):=acn;have hi20:i≤20:=ab7;have w2:IntKind.i64.wrap (97+(i:Int))=((97+i:Nat):Int):=acV;simp -implicitDefEqProofs only[go_sem,r0,r9,r11,t1,t2,w2,abX,HU i hi20];have f1:∀o,(o=Co i∨∃n,o=Cp n)→nC o∧(dF o=true→(iU o).length≤402):=fun o ho=>by
   have h1: -1000000≤o.kind∧o.kind≤1000000∧o.val=au∧ -1000000≤o.review∧o.review≤1000000∧o.text= []:=by
    rcases ho with rfl|⟨n,rfl⟩
    ·refine⟨?_,?_,rfl,?_,?_,rfl⟩<;>simp only[Co]<;>omega
    ·refine⟨?_,?_,rfl,?_,?_,rfl⟩<;>simp only[Cp]<;>omega
   exact⟨Ob ⟨h1.1,h1.2.1⟩ h1.2.2.1 ⟨h1.2.2.2.1,h1.2.2.2.2.1⟩,fun hf=>by
    have:=LO (nI hf) (T:=0) (by rw[h1.2.2.2.2.2];exact Nat.le_refl _)
    omega⟩
  have grow:∀ {e e' :cL} {o:OpD},(o=Co i∨∃n,o=Cp n)→(e'.ps=e.ps∨dF o=true∧e'.ps=e.ps++ [cN e.ch o])→(∀p∈e.ps,p.length≤410)→(∀p∈e'.ps,p.length≤410)∧e'.ps.length≤e.ps.length+1:=fun {e e' o} ho hp hq=>by
   rcases hp with hp|⟨hf,hp⟩
   ·rw[hp];exact⟨hq,ab7⟩
   ·rw[hp]
    refine⟨fun p hp=>?_,aci⟩
    rcases List.mem_append.1 hp with hp|hp
    ·exact hq p hp
    ·have:=(f1 o ho).2 hf
     rw[List.mem_singleton.1 hp];simp[cN,iE];omega
  refine⟨acd,?_⟩;refine(show ai Tryz.prog _ [.ptr x 0,opA (Co i)] _ _ from(w.doW hW (Co i) hdn ab7 hG ab7 (f1 _ (.inl rfl)).1 he).mono fun r H2 ⟨e2,b2,sy2,R2,spl2,spj2,_,er,w2,hW2,hG2,hdn2,hp2,_,_,_,_⟩=>?_)
  subst er;obtain⟨q2,l2⟩:=grow (.inl rfl) hp2 hpl;have ix:=fun k=>fm.eq (xs:=l.map AV.s) (sz:=1) i (by simpa using hlt.1) acq k
  have hln:=hls _ (ab2 hlt.1);rw[abY]at ix;obtain⟨n,en⟩:∃n,l[i].length=n:=⟨_,rfl⟩;have t9:((n:Int).tmod 9)=((n % 9:Nat):Int):=by rw[Int.tmod_eq_emod_of_nonneg ab7];omega
  have w6:IntKind.i64.wrap (1+(n:Int).tmod 9)=((1+n % 9:Nat):Int):=by rw[t9,IntWalk.i64_in _ ab7];omega
  simp -implicitDefEqProofs only[go_sem,r0,r9,r11,ix,en,w6];refine⟨acd,?_⟩;refine(show ai Tryz.prog _ [.ptr x 0,opA (Cp n)] _ _ from(w2.doW hW2 (Cp n) hdn2 ab7 hG2 ab7 (f1 _ (.inr ⟨n,rfl⟩)).1 he).mono fun r H3 ⟨e3,b3,sy3,R3,spl3,spj3,_,er,w3,hW3,hG3,hdn3,hp3,_,_,_,_⟩=>?_)
  subst er;obtain⟨q3,l3⟩:=grow (.inr ⟨n,rfl⟩) hp3 q2;simp -implicitDefEqProofs only[go_sem,r11,w1];refine⟨_,?_,i+1,e3,b3,sy3,spl3,spj3,w3,hW3,hG3,hdn3,ab7,q3,ab7,rfl,?_,?_,?_,?_,?_⟩
  ·omega
  all_goals simp -implicitDefEqProofs only[go_sem,r0,r1,r2,r9]
 ·by_cases h1:i<l.length
  ·have t1:decide ((i:Int)<(l.length:Int))=true:=decide_eq_true ab7
   have t2:decide ((i:Int)<10)=false:=decide_eq_false ab7;simp -implicitDefEqProofs only[go_sem,r0,r11,t1,t2,abX];exact hK _ _ ⟨e,b,sy,spl,spj,w,hW,hdn,ab7,hpl,by simp -implicitDefEqProofs only[go_sem,r1],by simp -implicitDefEqProofs only[go_sem,r2],by simp -implicitDefEqProofs only[go_sem,r9]⟩
  ·have t1:decide ((i:Int)<(l.length:Int))=false:=decide_eq_false ab7
   simp -implicitDefEqProofs only[go_sem,r0,r11,t1,abX];exact hK _ _ ⟨e,b,sy,spl,spj,w,hW,hdn,ab7,hpl,by simp -implicitDefEqProofs only[go_sem,r1],by simp -implicitDefEqProofs only[go_sem,r2],by simp -implicitDefEqProofs only[go_sem,r9]⟩
theorem vZ(ev:Value)(hev:ev= .nilIface∨∃te pe,ev= .iface te pe)(x y z:AV)(dx:Dat U 22 x)(dy:Dat U 3 y)(dz:Dat U 3 z):ai Tryz.prog 3 [x,y,z] (wz [(3,BQ),(2,[ev])]) fun r _=>r= .b true:=(xz x y z dx dy dz _ (Jw hev)).mono fun _ _ h=>h.1
end Go.Proofs.YtfdgemhnlennbaaGreatDoor
