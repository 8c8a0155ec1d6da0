/- The law EngineBytes: pack 6 of its texts. -/
import Derived.Test.YteaaeelhjnhaaaaGreatDoorPk1
import Derived.Test.YteaaeelhjnhaaaaGreatDoorPk2
import Derived.Test.YteaaeelhjnhaaaaGreatDoorPk3
import Derived.Test.YteaaeelhjnhaaaaGreatDoorPk4
import Derived.Test.YteaaeelhjnhaaaaGreatDoorPk5
set_option linter.unusedSimpArgs false
set_option linter.unusedVariables false
set_option maxRecDepth 100000
namespace Go.Proofs.YteaaeelhjnhaaaaGreatDoor
open Go Go.Ab Go.Bf Tryz
variable {h:Heap}{s:aq}{k:Nat}{x:AV}{c:aU}
theorem Lg(r:qe){k1 k2:Nat}{subj:Txt}(hk1:h k1=some (.obj [.s subj] 9))(hk2:h k2=some (.obj (sL s) 98))(ht:0≤s.tick∧s.tick≤1099511627776)(hr:0≤r.tick∧r.tick≤1099511627776):
  ai prog 144 [iM r,.ptr k1 0,.ptr k2 0] h fun x h' =>x= .b (r.subj==subj && qN s r)∧h' =h:=by
 have w:IntKind.i64.wrap (s.tick - r.tick)=s.tick - r.tick:=aY _ acK;obtain⟨tick,cs,rv,nt,ro,⟨pid,pset,palg,ptgt,prules,pkids,pobls⟩,ver⟩:=s;simp only[sL]at hk2;simp only at w;refine acJ func144 21 [.tmp 4] fun hwf=>?_
 simp only[go_sem,iM];intro i3 h3;have n31:i3≠k1:=fun e=>acL
 have n32:i3≠k2:=fun e=>acL
 cases d1:(r.subj==subj)
 ·simp only[go_sem,ak,n31.symm,hk1,d1]
  exact .mk _ (.refl _) (.aj h3) ⟨rfl,rfl⟩
 cases d2:r.isOpen
 ·simp only[go_sem,ak,n31.symm,hk1,d1]
  exact .mk _ (.refl _) (.aj h3) ⟨by simp only[qN,d2];rfl,rfl⟩
 ·simp only[go_sem,ak,n31.symm,n32.symm,hk1,hk2,d1,w]
  exact .mk _ (.refl _) (.aj h3) ⟨by simp only[qN,d2];rfl,rfl⟩
theorem NW(s:aq)(subj:Txt)(hn:s.reviews.length≤1000000)(ht:0≤s.tick∧s.tick≤1099511627776)(hr:gZ s)(h:Heap):ai prog 105 [cN s,.s subj] h fun x h' =>x= .b (Lh s subj)∧h' =h:=by
 have hl1:=fun(H:Heap) (k1 k2:Nat) (e1:H k1=some (.obj [.s subj] 9)) (e2:H k2=some (.obj (sL s) 98))=>IT (kj s.reviews) s.reviews (fun r=>r.subj==subj && qN s r) 144 [.ptr k1 0,.ptr k2 0] H (eR iM 7 (fun _=>rfl) H _) acK fun i h2=>Lg _ e1 e2 ht (hr _ (acF h2))
 have hst:=u9 s;obtain⟨tick,cs,rv,nt,ro,⟨pid,pset,palg,ptgt,prules,pkids,pobls⟩,ver⟩:=s;rw[hst];simp only[sL]at hl1⊢;refine acJ func105 9 [.tmp 4] fun hwf=>?_
 simp only[go_sem];intro i2 h2;simp only[go_sem];intro i3 h3;have n32:=aH h3;have n3:=aB h3;have hs:∀x y,Ab.Sub h (upd (upd h i2 x) i3 y):=fun x y=>((Sub.refl h).put h2 x).put n3 y
 simp only[go_sem,ak,n32.symm];refine(hl1 _ i3 i2 (ah ..) (by grind [ag,ah])).pthen ?_
 simp only[go_sem];exact ael
theorem HV(s:aq)(o:OpD)(m:aS)(hm9:M9 m)(hn:s.reviews.length≤1000000)(hro:s.roles.length≤1000000)(ht:0≤s.tick∧s.tick≤1099511627776)(hr:gZ s)(h:Heap):ai prog 76 [cN s,opA o,aR m] h fun x h' =>x= .b (sP s o m)∧h' =h:=by
 have hla:=fun G=>NW s o.subj hn ht hr G
 have hha:=fun G=>Fl (rdS G s) o.subj BP acK
 have hbd:sP s o m=(o.glass && (m==cH||m==naM) && xY s.roles ⟨o.subj,BP⟩ && !Lh s o.subj):=rfl
 have de:=(nb hm9).de;have na:=(nb hm9).na;have hst:=u9 s;obtain⟨tick,cs,rv,nt,ro,⟨pid,pset,palg,ptgt,prules,pkids,pobls⟩,ver⟩:=s;rw[hst]at hla hha⊢;simp only[sL,BP]at hla hha hbd⊢;refine acJ func76 30 [.tmp 6] fun hwf=>?_
 simp only[go_sem,opA,opC,aR];intro i3 h3;simp only[go_sem];intro i4 h4;have n43:=aH h4;have n4:=aB h4;have hs:∀x y,Ab.Sub h (upd (upd h i3 x) i4 y):=fun x y=>((Sub.refl h).put h3 x).put n4 y
 cases dg:o.glass
 ·simp only[go_sem]
  exact .mk _ (.refl _) (hs _ _) ⟨by rw[hbd,dg];rfl,rfl⟩
 cases d1:(m==cH)<;>cases d2:(m==naM)
 case false.false=>simp only[go_sem,de,na,d1,d2];exact .mk _ (.refl _) (hs _ _) ⟨by rw[hbd,dg,d1,d2];rfl,rfl⟩
 all_goals
  simp only[go_sem,ak,n43.symm,de,na,d1,d2];refine(hha _).pthen ?_;cases dh:xY ro ⟨o.subj,[103,108,97,115,115]⟩
  ·simp only[go_sem]
   exact .mk _ (.refl _) (hs _ _) ⟨by rw[hbd,dg,d1,d2,dh];rfl,rfl⟩
  ·simp only[go_sem,ak,n43.symm]
   refine(hla _).pthen ?_;simp only[go_sem];exact .mk _ (.refl _) (hs _ _) ⟨by rw[hbd,dg,d1,d2,dh];rfl,rfl⟩
theorem IV(x:dN){field:Txt}(hk:h k=some (.obj [.s field] 9)):ai prog 115 [bu x,.ptr k 0] h fun r h' =>r= .b (x.kind==2 && x.arg==field)∧h' =h:=by
 refine acJ func115 13 [.tmp 3] fun hwf=>?_
 simp only[go_sem,bu];intro i2 h2;have n2:i2≠k:=fun e=>acL
 cases d1:(x.kind==2)
 all_goals
  simp only[go_sem,ak,n2.symm,hk,d1];exact .mk _ (.refl _) (.aj h2) ⟨rfl,rfl⟩
theorem KX(l:List dN)(hl:l.length≤1000000000)(field:Txt)(h:Heap):ai prog 80 [aA l,.s field] h fun r h' =>r= .b (jR l field)∧h' =h:=by
 refine acJ func80 8 [.tmp 4] fun hwf=>?_
 simp only[go_sem,aA];intro i3 h3;simp only[go_sem];refine(IS (.sl (l.map bu) .no) l (fun x=>x.kind==2 && x.arg==field) _ [.ptr i3 0] _ (eR bu 3 (fun _=>rfl) _ _) hl fun i h2=>IV _ (ah ..)).pthen ?_
 simp only[go_sem];exact .mk _ (.refl _) (.aj h3) ⟨rfl,rfl⟩
theorem LH(hb:RdC h x c):ai prog 121 [x] h fun r h' =>r= .b (decide (256<c.log.length))∧h' =h:=by
 obtain⟨f,l,rfl,hf,hl⟩:=hb;have e:decide ((256:Int)<(c.log.length:Int))=decide (256<c.log.length):=by grind
 refine acJ func121 7 [.tmp 2] fun hwf=>?_
 simp only[go_sem];intro i1 h1;simp only[go_sem,hl.len,acA,e];exact ac0
theorem LJ(hb:RdS h x s)(hc:s.cases.length≤1000000):ai prog 84 [x] h fun r h' =>r= .b (rR s)∧h' =h:=by
 obtain⟨y1,y2,y3,y4,rfl,⟨xs,hx,hn,hcs⟩,h2,h3,h4⟩:=hb;have hod:rR s=(decide (256<s.reviews.length)||decide (256<s.notices.length)||s.cases.any fun c=>decide (256<c.log.length)):=rfl
 have e2:decide ((256:Int)<(s.reviews.length:Int))=decide (256<s.reviews.length):=by grind
 have e3:decide ((256:Int)<(s.notices.length:Int))=decide (256<s.notices.length):=by grind
 have hca:=fun(G:Heap) (hG:Ab.Sub h G)=>Fh y1 xs s.cases (fun c=>decide (256<c.log.length)) 121 [] G (hx.sub hG) hn acK (zB.agg hn hcs) fun i a b=>LH ((hcs i a b).sub hG)
 cases hpp:s.policy with
 |mk pid pset palg ptgt prules pkids pobls=>
 refine acJ func84 18 [.tmp 2] fun hwf=>?_
 simp only[go_sem,fZ,bf,List.cons_append,List.nil_append];intro i1 h1;cases d2:decide (256<s.reviews.length)
 case true=>simp only[go_sem,h2.len,acA,e2,d2];exact .mk _ (.refl _) (.aj h1) ⟨by rw[hod,d2];rfl,rfl⟩
 cases d3:decide (256<s.notices.length)
 case true=>simp only[go_sem,h2.len,h3.len,acA,e2,e3,d2,d3];exact .mk _ (.refl _) (.aj h1) ⟨by rw[hod,d2,d3];rfl,rfl⟩
 simp only[go_sem,h2.len,h3.len,acA,e2,e3,d2,d3];refine(hca _ (.aj h1)).pthen ?_;simp only[go_sem];exact .mk _ (.refl _) (.aj h1) ⟨by rw[hod,d2,d3];rfl,rfl⟩
theorem Lo(hb:RdC h x c){o:OpD}(hk:h k=some (.obj (opC o) 25)):ai prog 153 [x,.ptr k 0] h fun r h' =>r= .b (c.id==o.case)∧h' =h:=by
 obtain⟨f,l,rfl,hf,hl⟩:=hb;simp only[opC]at hk;refine acJ func153 9 [.tmp 3] fun hwf=>?_
 simp only[go_sem];exact ag6
end Go.Proofs.YteaaeelhjnhaaaaGreatDoor
namespace Go.Ab
open Go
theorem OwE.more{tb:TypeId}{g h0 h:Heap}{sz:Nat}{y:AV}{xs:List AV}(hw:OwE tb h0 h sz y xs)(hg:∀id,h0 id=Option.none→h id≠Option.none→g id=Option.none):OwE tb g h sz y xs:=by
 rcases hw with hw|⟨id,e,hw⟩
 ·exact agE
 ·exact .inr ⟨id,hg _ e hw.none,hw⟩
end Go.Ab
namespace Go.Proofs.YteaaeelhjnhaaaaGreatDoor
open Go Go.Ab Go.Bf Tryz
variable {g h0 h H:Heap}{ys:List AV}{x y:AV}{i0 j k:Nat}{s:aq}
theorem fu.more{c:aU}(hm:fu h0 h ys x c)(hg:∀id,h0 id=none→h id≠none→g id=none):fu g h ys x c:=by obtain⟨f,l,e,a,b,c⟩:=hm;exact⟨f,l,e,a.more hg,b.more hg,c⟩
theorem l9.more{cs:List aU}(ho:l9 h0 h ys y cs i0)(hg:∀id,h0 id=none→h id≠none→g id=none):l9 g h ys y cs i0:=by obtain⟨xs,a,b,c,d⟩:=ho;exact⟨xs,a.more hg,b,c,fun h1 h2=>(d h1 h2).more hg⟩
theorem OwR.more{rs:List jL}(hr:OwR h0 h y rs)(hg:∀id,h0 id=none→h id≠none→g id=none):OwR g h y rs:=by
 rcases hr with hr|hr
 ·exact .inl hr
 ·exact .inr (hr.more hg)
theorem iH.more{y1 y2 y3 y4:AV}(ho:iH h0 h y1 y2 y3 y4 s j)(hg:∀id,h0 id=none→h id≠none→g id=none):iH g h y1 y2 y3 y4 s j:=
 {ho with cs:=ho.cs.more hg,rv:=ho.rv.more hg,nt:=ho.nt.more hg,rl:=ho.rl.more hg}
def GSt(g H:Heap)(k:Nat)(s:aq)(j:Nat):Prop:=∃y1 y2 y3 y4,H k=some (.obj (stC s y1 y2 y3 y4) 98)∧iH g H y1 y2 y3 y4 s j∧g k≠none∧∀i b,i≠k→g i=some b→H i=some b
theorem GSt.box(hG:GSt g H k s j){i:Nat}(hi:H i=none)(b:Blk):GSt (upd g i (some b)) (upd H i (some b)) k s j:=by
 obtain⟨y1,y2,y3,y4,hk,ho,hgk,hfr⟩:=hG;refine⟨y1,y2,y3,y4,adm,(ho.more (g:=upd g i (some b)) fun id h0 hne=>?_).keep fun id _ hne=>ag _ _ fun e=>hne acL,adm,fun q c hq hc=>?_⟩
 ·grind [ag]
 grind [ah,ag]
theorem GSt.unbox{i:Nat}{b:Blk}(hG:GSt (upd g i (some b)) H k s j)(hi:i≠k)(hgi:g i=none):GSt g H k s j∧H i=some b:=by
 obtain⟨y1,y2,y3,y4,hk,ho,hgk,hfr⟩:=hG;refine⟨⟨y1,y2,y3,y4,hk,ho.bL fun q hq=>?_,adm,fun q c hq hc=>hfr q c hq ?_⟩,hfr i b hi (ah ..)⟩
 ·grind [ag]
 grind [ag]
theorem GSt.base(hG:GSt g H k s j):∃G,Ab.Sub G H∧(∀i,G i=none↔g i=none)∧∀i,i≠k→G i=g i:=by
 obtain⟨y1,y2,y3,y4,hk,ho,hgk,hfr⟩:=hG;refine⟨upd g k (H k),fun i b hi=>?_,fun i=>?_,fun i hi=>ag _ _ hi⟩
 ·grind [ah,ag]
 grind [ah,ag]
theorem GSt.rd(hG:GSt g H k s j):∃y1 y2 y3 y4,H k=some (.obj (stC s y1 y2 y3 y4) 98)∧RdS H (.agg (stC s y1 y2 y3 y4)) s:=by obtain⟨y1,y2,y3,y4,hk,ho,_⟩:=hG;exact⟨y1,y2,y3,y4,hk,ho.rd⟩
theorem DE(hG:GSt g H k s j)(o:OpD)(w:Txt)(hk64:i64 o.kind)(hn:s.reviews.length≤1000000000):
  ai prog 78 [.ptr k 0,opA o,.s w] H fun r H' =>GSt g H' k (cg s o w) j:=by
 obtain⟨G,sG,nG,oG⟩:=hG.base;obtain⟨y1,y2,y3,y4,hk,ho,hgk,hfr⟩:=hG;have ho2:iH G H y1 y2 y3 y4 s j:=ho.bL fun i hi=>(nG i).2 hi
 have w1:IntKind.i64.wrap ((s.reviews.length:Int)+1)=(s.reviews.length:Int)+1:=aY _ acK;obtain⟨pid,pset,palg,ptgt,prules,pkids,pobls,hpp⟩:∃a b c d e f g,s.policy= .mk a b c d e f g:=by cases s.policy;simp
 have hst:∀z,stC (cg s o w) y1 z y3 y4= [.i s.tick,y1,z,y3,y4,.s pid,.b pset,.i palg,aV ptgt,.sl (prules.map aC) .no,.sl (pkids.map aN) .no,aA pobls,.i s.version]:=fun z=>by simp[stC,cg,hpp,fZ,bf]
 have hst0:stC s y1 y2 y3 y4= [.i s.tick,y1,y2,y3,y4,.s pid,.b pset,.i palg,aV ptgt,.sl (prules.map aC) .no,.sl (pkids.map aN) .no,aA pobls,.i s.version]:=agu;rw[hst0]at hk;refine acJ func78 34 [] fun hwf=>?_
 simp only[go_sem,opA,opC];intro i4 h4;have n4k:i4≠k:=fun e=>acL
 simp only[go_sem];obtain⟨K,eK⟩:∃K,upd H i4 (some (.obj [.i o.kind,.s o.subj,.s o.case,.s o.field,.s o.to,.i o.val.kind,.i o.val.n,.s o.val.s,.i o.review,.s o.text,.s o.reason,.b o.glass] 25))=K:=⟨_,rfl⟩;have sK:Ab.Sub H K:=by rw[←eK];exact .aj h4
 have k4:K i4=some (.obj [.i o.kind,.s o.subj,.s o.case,.s o.field,.s o.to,.i o.val.kind,.i o.val.n,.s o.val.s,.i o.review,.s o.text,.s o.reason,.b o.glass] 25):=by rw[←eK,ah]
 have kk:=sK _ _ hk;have hoK:iH G K y1 y2 y3 y4 s j:=ho2.keep fun id _ hne=>by rw[←eK];grind [ag]
 rw[eK];have p4:=(bD (H:=K) (l:=[k,i4]) (show i4∈ [k,i4] by simp)).trans k4
 have pk:=(bD (H:=K) (l:=[k,i4]) (show k∈ [k,i4] by simp)).trans kk
 refine .stage (pick K [k,i4]) [0,1,2,3,4,5,6,7,8,9,10,11,12,13,14,15,16,17,18,19,20,22,21,23,24,25,26,27] [28] bB acO ?_;simp only[go_sem,pk,p4,hoK.rv.rd.len,acA,w1];refine(Ae o.kind hk64 _).pthen ?_;refine⟨bB,?_⟩;simp only[go_sem];have hap1:Rd K 7 (.sl [iM (A5 s o w)] .full) [iM (A5 s o w)]:=.sl adv .full;refine OwE.app (U:=U) (tb:=170) hoK.rv (sG.trans sK) hap1 acY acN acN acY acS adi fun id y' K2 hid hor how hoth=>?_
 have hor' :K id=none∨nid y2=some id:=by
  rcases hor with hor|⟨l,c,ey⟩
  ·grind
  ·exact .inr agx
 have nik:k≠id:=fun e=>hgk ((nG k).1 acL)
 have ni4:i4≠id:=by
  rcases hor' with hor|hor
  ·grind
  ·exact fun e=>(ho2.rv.nid hor).2.1 acL
 have m4:=(hoth i4 ni4).trans k4;have mk:=(hoth k nik).trans kk;refine⟨iK fun q hq=>?_,?_⟩
 ·grind
 simp only[go_sem];refine⟨cL,fun _ _ e=>adb,?_⟩
 simp only[go_sem,mk,how.rd.fit,how.rd.cells];refine⟨fun _ _ e=>adb,?_⟩
 refine .same (.refl _) ⟨y1,y',y3,y4,agL,iH.bL (h0:=G) ?_ fun i hi=>(nG i).1 hi,hgk,fun i b hi hb=>?_⟩
 ·refine hoK.revs (rs:=s.reviews++ [A5 s o w]) (.inr ⟨id,hid,by rw[List.map_append];exact how.same (ag _ _ nik.symm)⟩) (fun q hq=>?_) fun q hq hne hz=>?_
  ·have:id=q:=by have:=how.nid;rw[hq]at this;exact(Option.some.inj this).symm
   rw[←this];exact hor'
  grind [ag]
 ·have n2:i≠id:=fun e=>by grind
  rw[ag _ _ hi,hoth i n2];exact sK _ _ (hfr i b hi hb)
end Go.Proofs.YteaaeelhjnhaaaaGreatDoor
namespace Go.Bf
open Go Go.Ab Go.Proofs.YteaaeelhjnhaaaaGreatDoor
theorem Dr{s:aq}{o:OpD}{w:Txt}(h:¬(iJ s.cases o.case<s.cases.length∧o.kind≠6)):iQ s o w=s:=by simp_all [iQ,if_neg]
theorem Lp{s:aq}{o:OpD}{w:Txt}{j:Nat}(h1:iJ s.cases o.case<s.cases.length)(h2:o.kind≠6)(e:iJ s.cases o.case=j):iQ s o w= {s with cases:=s.cases.modify j fun c=>jo s c o.subj w}:=by simp_all [iQ,if_pos]
end Go.Bf
namespace Go.Proofs.YteaaeelhjnhaaaaGreatDoor
open Go Go.Ab Go.Bf Tryz
theorem Lq{g H:Heap}{k:Nat}{s:aq}{j:Nat}(hG:GSt g H k s j)(o:OpD)(w:Txt)(hc:s.cases.length≤1000000)(hl:∀c∈s.cases,c.log.length≤1000000000)(hj:iJ s.cases o.case<s.cases.length→o.kind≠6→j=iJ s.cases o.case):
  ai prog 119 [.ptr k 0,opA o,.s w] H fun r H' =>GSt g H' k (iQ s o w) j:=by
 obtain⟨G,sG,nG,oG⟩:=hG.base;obtain⟨y1,y2,y3,y4,hk,ho,hgk,hfr⟩:=hG;have ho2:iH G H y1 y2 y3 y4 s j:=ho.bL fun i hi=>(nG i).2 hi
 obtain⟨pid,pset,palg,ptgt,prules,pkids,pobls,hpp⟩:∃a b c d e f g,s.policy= .mk a b c d e f g:=by cases s.policy;exact⟨_,_,_,_,_,_,_,rfl⟩
 have hst0:stC s y1 y2 y3 y4= [.i s.tick,y1,y2,y3,y4,.s pid,.b pset,.i palg,aV ptgt,.sl (prules.map aC) .no,.sl (pkids.map aN) .no,aA pobls,.i s.version]:=agu;rw[hst0]at hk;refine acJ func119 44 [] fun hwf=>?_
 simp only[go_sem,opA,opC];intro i4 h4;have n4k:i4≠k:=fun e=>by rw[e,hk]at h4;cases h4
 obtain⟨K,eK⟩:∃K,upd H i4 (some (.obj [.i o.kind,.s o.subj,.s o.case,.s o.field,.s o.to,.i o.val.kind,.i o.val.n,.s o.val.s,.i o.review,.s o.text,.s o.reason,.b o.glass] 25))=K:=⟨_,rfl⟩;have sK:Ab.Sub H K:=by rw[←eK];exact .aj h4
 have k4:K i4=some (.obj [.i o.kind,.s o.subj,.s o.case,.s o.field,.s o.to,.i o.val.kind,.i o.val.n,.s o.val.s,.i o.review,.s o.text,.s o.reason,.b o.glass] 25):=by rw[←eK,ah]
 have kk:=sK _ _ hk;have hoK:iH G K y1 y2 y3 y4 s j:=ho2.keep fun id _ hne=>by rw[←eK];exact ag _ _ fun e=>hne agJ
 have hfin:GSt g K k s j:=⟨y1,y2,y3,y4,by rw[hst0];exact kk,hoK.bL fun i hi=>(nG i).1 hi,hgk,fun i b hi hb=>sK _ _ (hfr i b hi hb)⟩
 have hix:ai prog 136 [y1,.fn 153 [.ptr i4 0]] K fun r h' =>r= .i (ixD (fun c:aU=>c.id==o.case) s.cases)∧h' =K:=by obtain⟨xs,hx,hn,hcs⟩:=hoK.cs.rd;exact uG y1 xs s.cases (fun c=>c.id==o.case) _ [.ptr i4 0] K hx hn acK (zB.agg hn hcs) fun i a b=>Lo (hcs i a b) k4
 have hcsK:=hoK.cs;have n4G:∀id,G id=none→K id≠none→id≠i4→H id=K id:=fun id _ _ h=>by rw[←eK,ag _ _ h]
 simp only[go_sem,ak,n4k.symm,hk];rw[eK];refine hix.pthen ?_
 by_cases hx:iJ s.cases o.case<s.cases.length
 case neg=>
  have e1:ixD (fun c:aU=>c.id==o.case) s.cases= -1:=if_neg hx
  have d1:decide ((-1:Int)<0)=true:=rfl;rw[e1];simp only[go_sem,d1];exact .same (.refl _) (by rw[Dr fun h=>hx h.1];exact hfin)
 have e1:ixD (fun c:aU=>c.id==o.case) s.cases=(iJ s.cases o.case:Nat):=if_pos hx
 have d1:decide (((iJ s.cases o.case:Nat):Int)<0)=false:=decide_eq_false acK;rw[e1];cases d6:(o.kind==6)
 case true=>
  have h6:o.kind=6:=by simpa using d6
  simp only[go_sem,d1,k4,d6];exact .same (.refl _) (by rw[Dr fun h=>h.2 h6];exact hfin)
 have h6:o.kind≠6:=by simpa using d6
 have hjj:=hj hx h6;have hlo:=Lp (w:=w) hx h6 hjj.symm;have hjc:j<s.cases.length:=by rw[hjj];exact hx
 rw[←hjj]at d1⊢;rw[hlo];obtain⟨xs,w1,hnx,hlw,hmy⟩:=hcsK;have hjx:j<xs.length:=acK;obtain⟨f,l,ex,of,ol,hap,hys⟩:=hmy hjx hjc;obtain⟨id1,hg1,o1⟩:=w1.ow afC;have o1' :=o1;obtain⟨cap,rest,ey,hid,hrl,hcap,hsz⟩:=o1';have lA:j*5=(au (xs.take j)).length:=adM;have hidK:K id1=some (.obj (au (xs.take j)++(cc s.cases[j] f l++(au (xs.drop (j+1))++rest))) 135):=by rw[hid,BL hjx,ex];simp[cc,AV.cells]
 have n1k:id1≠k:=lX o1 kk acN;have n14:id1≠i4:=lX o1 k4 acN;have hll:=hl _ (acF hjc);have p4:=(bD (H:=K) (l:=[k,i4,id1]) (show i4∈ [k,i4,id1] by simp)).trans k4
 have pk:=(bD (H:=K) (l:=[k,i4,id1]) (show k∈ [k,i4,id1] by simp)).trans kk
 have p1:=(bD (H:=K) (l:=[k,i4,id1]) (show id1∈ [k,i4,id1] by simp)).trans hidK
 have hc4:(au (xs.take j)++(cc s.cases[j] f l++(au (xs.drop (j+1))++rest)))[j*5+4]? =some l:=by rw[lA,List.getElem?_append_right acK,Nat.add_sub_cancel_left];rfl
 obtain⟨CS,eCS⟩:∃CS,au (xs.take j)++(cc s.cases[j] f l++(au (xs.drop (j+1))++rest))=CS:=⟨_,rfl⟩;rw[eCS]at hc4 p1 hidK;simp only[go_sem,d1,k4,d6,kk];refine o1.idx (U:=U) (e:=135) j rfl hjx nJ acN ?_;simp only[go_sem];refine .stage (pick K [k,i4,id1]) [0,1,2,3,4,5,6,7,8,9,10,11,12,13,14,15,16] [17] bB acO ?_;simp only[go_sem,pk,p4,p1,hc4];have hap1:Rd K 3 (.sl [iI ⟨s.tick,o.subj,w⟩] .full) [iI ⟨s.tick,o.subj,w⟩]:=.sl adv .full;refine OwE.app (U:=U) (tb:=177) ol (sG.trans sK) hap1 acT acN acP acT acS adi fun id2 y' K2 g2 hor how hoth=>?_
 have hor' :K id2=none∨nid l=some id2:=by exact ahp
 have n2:∀ {q b t},K q=some (.obj b t)→t≠177→q≠id2:=fun {q b t} hq ht e=>by
  rcases hor' with h|h
  ·rw[e,h]at hq;cases hq
  ·exact lX (ol.nid h).2.2 hq ht e.symm
 have m4:=(hoth i4 (n2 k4 acN)).trans k4;have mk:=(hoth k (n2 kk acN)).trans kk;have m1:=(hoth id1 (n2 hidK acN)).trans hidK;refine⟨iK fun q hq=>?_,?_⟩
 ·simp only[List.mem_cons,List.not_mem_nil,or_false]at hq
  rcases hq with rfl|rfl|rfl
  ·rw[mk,kk]
  ·rw[m4,k4]
  ·rw[m1,hidK]
 simp only[go_sem];refine⟨cL,fun _ _ e=>adb,?_⟩
 simp only[go_sem,m1,how.rd.fit,how.rd.cells];have e5:List.take (j*5+4) CS++ [y']++List.drop (j*5+4+1) CS=au (xs.take j)++(cc s.cases[j] f y' ++(au (xs.drop (j+1))++rest)):=by
  have:=oZ (A:=au (xs.take j)++ [.s s.cases[j].id,.s s.cases[j].owner,.s s.cases[j].state,f]) (B:=[l]) (C:=au (xs.drop (j+1))++rest) (X:=[y']) (k:=j*5+4) (m:=1) (by rw[lA];simp) rfl rfl
  exact ait
 rw[e5];refine⟨by rw[←eCS];simp only[acE,←lA,cc,List.length_cons,List.length_nil];omega,(fun _ _ e=>adb),?_⟩
 obtain⟨F,eF⟩:∃F,upd K2 id1 (some (.obj (au (xs.take j)++(cc s.cases[j] f y' ++(au (xs.drop (j+1))++rest))) 135))=F:=⟨_,rfl⟩;have kF:∀q,q≠id1→q≠id2→F q=K q:=fun q a b=>by rw[←eF,ag _ _ a,hoth q b]
 have kF' :∀q,K q≠none→q≠id1→nid l≠some q→F q=K q:=fun q a b c=>kF q b fun e=>by
  rcases hor' with h|h
  ·exact a (by rw[e];exact h)
  ·exact c (by rw[e];exact h)
 have hF1:F id1=some (.obj (au (xs.take j)++(cc s.cases[j] f y' ++(au (xs.drop (j+1))++rest))) 135):=by rw[←eF,ah]
 have n12:id1≠id2:=n2 hidK acN;have hX5:Sized 5 (xs.set j (.agg (cc s.cases[j] f y'))):=fun z hz=>by exact ahy
 have hOw:Ow 135 F 5 id1 y1 (xs.set j (.agg (cc s.cases[j] f y'))):=⟨cap,rest,ae4,by rw[hF1,td hjx];simp[AV.cells],afR,aeW,hX5⟩
 have hl' :OwE 177 G F 3 y' ((s.cases[j].log++ [(⟨s.tick,o.subj,w⟩:xd)]).map iI):=by rw[List.map_append];exact .inr ⟨id2,g2,how.same (by rw[←eF,ag _ _ n12.symm])⟩
 have hny:∀q,nid y' =some q→q=id2:=fun q hq=>by have:=how.nid;rw[hq]at this;exact Option.some.inj this
 have nf1:nid f≠some id1:=fun e=>(hys y1 acS).1 id1 e o1.nid
 have hof:OwE 189 G F 4 f (s.cases[j].fields.map bO):=of.keep fun q e=>kF' q (of.nid e).2.1 (fun e' =>nf1 (by rw[←e'];exact e)) (hap q e)
 have hnid:∀ {y:AV},y∈ [y1,y2,y3,y4]→∀q,nid y=some q→K q≠none:=fun hy q e=>(hoK.mem hy e).2
 have hap2:∀ {y:AV},y∈ [y1,y2,y3,y4]→apart y' y:=fun {y} hy q e1 e2=>by
  have:=hny q e1;subst this;rcases hor' with h|h
  ·exact hnid hy _ e2 h
  ·exact(hys y hy).2 _ h e2
 have hkp:∀ {y:AV},y∈ [y2,y3,y4]→apart y1 y→∀q,nid y=some q→F q=K q:=fun {y} hy ha q e=>by have hy' :y∈ [y1,y2,y3,y4]:=List.mem_cons_of_mem _ hy;refine kF' q (hnid hy' q e) (fun e' =>ha id1 o1.nid (by rw[←e'];exact e)) fun e' =>(hys y hy').2 q e' e
 rw[eF];refine .same (.refl _) ⟨y1,y2,y3,y4,?_,iH.bL (h0:=G) ?_ fun i hi=>(nG i).1 hi,hgk,fun i b hi hb=>?_⟩
 ·rw[kF k n1k.symm (n2 kk acN),kk]
  simp[stC,hpp,fZ,bf]
 ·refine⟨B3 (X:=.agg (cc s.cases[j] f y')) (.inr ⟨id1,hg1,hOw⟩) hnx (fun q h1 h2 hq=>hlw q h1 h2 hq) fun hh=>⟨f,y',rfl,hof,hl',fun q e1 e2=>?_,fun y hy=>⟨(hys y hy).1,hap2 hy⟩⟩,hoK.rv.keep (hkp acS hoK.a12),hoK.nt.keep (hkp acS hoK.a13),hoK.rl.keep (hkp acS hoK.a14),hoK.a12,hoK.a13,hoK.a14,hoK.a23,hoK.a24,hoK.a34⟩
  have:=hny q e2;subst this;rcases hor' with h|h
  ·exact(of.nid e1).2.1 h
  ·exact hap _ e1 h
 ·have hGi:G i=some b:=by rw[oG i hi];exact hb
  rw[kF i (fun e=>by rw[e,hg1]at hGi;cases hGi) (fun e=>by rw[e,g2]at hGi;cases hGi)]
  exact sK _ _ (hfr i b hi hb)
end Go.Proofs.YteaaeelhjnhaaaaGreatDoor
namespace Go.Bf
open Go Go.Ab Go.Proofs.YteaaeelhjnhaaaaGreatDoor
variable {B:Nat}{s:aq}{o:OpD}{x:dN}{done:Bool}
def rN(B:Nat)(s:aq):Prop:=(∀c∈s.cases,c.log.length≤B)∧s.reviews.length≤B∧s.notices.length≤B
theorem rN.up{C:Nat}(h:rN B s)(hc:B≤C):rN C s:=⟨fun c hcc=>Nat.le_trans (h.1 c hcc) hc,Nat.le_trans h.2.1 hc,Nat.le_trans h.2.2 hc⟩
theorem IJ(o:OpD)(done:Bool)(x:dN)(h:rN B s):rN (B+1) (fF o done s x):=by
 unfold fF;split
 ·unfold iQ
  split
  ·refine⟨fun c hc=>?_,Nat.le_succ_of_le h.2.1,Nat.le_succ_of_le h.2.2⟩
   rcases mem_modify hc with hc|⟨hi,rfl⟩
   ·exact Nat.le_succ_of_le (h.1 c hc)
   ·have:=h.1 _ (acF hi)
    simp only[jo,acE,List.length_singleton];omega
  ·exact h.up acK
 ·split
  ·refine⟨fun c hc=>Nat.le_succ_of_le (h.1 c hc),?_,Nat.le_succ_of_le h.2.2⟩
   have:=h.2.1;simp only[cg,acE,List.length_singleton];omega
  ·split
   ·refine⟨fun c hc=>Nat.le_succ_of_le (h.1 c hc),Nat.le_succ_of_le h.2.1,?_⟩
    have:=h.2.2;simp only[acE,List.length_singleton];omega
   ·exact h.up acK
theorem vH(o:OpD)(done:Bool):∀(l:List dN) {B:Nat} {s:aq},rN B s→rN (B+l.length) (dw s o l done)
 | [],B,s,h=>h
 |x::l,B,s,h=>(vH o done l (IJ o done x h)).up acL
theorem CL(s:aq)(o:OpD)(done:Bool){l:List dN}{i:Nat}(h:i<l.length):dw s o (l.take (i+1)) done=fF o done (dw s o (l.take i) done) l[i]:=by grind [dw,List.take_succ_eq_append_getElem]
theorem vK(o:OpD)(done:Bool)(id:Txt):∀(l:List dN) (s:aq),iJ (dw s o l done).cases id=iJ s.cases id∧(dw s o l done).cases.length=s.cases.length
 | [],s=>⟨rfl,rfl⟩
 |x::l,s=>by obtain⟨a1,a2⟩:=IZ o done s x id;obtain⟨b1,b2⟩:=vK o done id l (fF o done s x);exact⟨b1.trans a1,b2.trans a2⟩
theorem Ij(h:x.kind=1):fF o true s x=iQ s o x.arg:=by unfold fF;grind
theorem EX(h:x.kind=3):fF o done s x=cg s o x.arg:=by simp_all [fF,if_neg,if_pos]
theorem EY(h:x.kind=4):fF o done s x= {s with notices:=s.notices++ [⟨s.tick,o.case,x.arg⟩]}:=by simp_all [fF,if_neg,if_pos]
theorem CM(h1:¬(x.kind=1∧done=true))(h3:x.kind≠3)(h4:x.kind≠4):fF o done s x=s:=by simp_all [fF,if_neg]
end Go.Bf
namespace Go.Proofs.YteaaeelhjnhaaaaGreatDoor
open Go Go.Ab Go.Bf Tryz
theorem EV{g H:Heap}{k:Nat}{s:aq}{j:Nat}(hG:GSt g H k s j)(o:OpD)(hk64:i64 o.kind)(l:List dN)(hll:l.length≤100000000)(done:Bool)(hc:s.cases.length≤1000000)(hgr:rN 1000 s)(hj:done=true→iJ s.cases o.case<s.cases.length→o.kind≠6→j=iJ s.cases o.case):
  ai prog 83 [.ptr k 0,opA o,aA l,.b done] H fun r H' =>GSt g H' k (dw s o l done) j:=by
 have hkn:H k≠none:=by obtain⟨y1,y2,y3,y4,hk,_⟩:=hG;rw[hk];simp
 refine acJ func83 60 [] fun hwf=>?_
 simp only[go_sem,opA,opC,aA];intro i5 h5;have n5k:i5≠k:=fun e=>hkn (by rw[←e];exact h5)
 have hg5:g i5=none:=by
  obtain⟨y1,y2,y3,y4,hk,ho,hgk,hfr⟩:=hG;cases hh:g i5 with
  |none=>rfl
  |some b=>have:=hfr i5 b n5k hh;rw[h5]at this;cases this
 have hG5:=hG.box h5 (.obj [.i o.kind,.s o.subj,.s o.case,.s o.field,.s o.to,.i o.val.kind,.i o.val.n,.s o.val.s,.i o.review,.s o.text,.s o.reason,.b o.glass] 25);obtain⟨g5,eg5⟩:∃g5,upd g i5 (some (.obj [.i o.kind,.s o.subj,.s o.case,.s o.field,.s o.to,.i o.val.kind,.i o.val.n,.s o.val.s,.i o.review,.s o.text,.s o.reason,.b o.glass] 25))=g5:=⟨_,rfl⟩;have g55:g5 i5=some (.obj [.i o.kind,.s o.subj,.s o.case,.s o.field,.s o.to,.i o.val.kind,.i o.val.n,.s o.val.s,.i o.review,.s o.text,.s o.reason,.b o.glass] 25):=by rw[←eg5,ah]
 rw[eg5]at hG5;have hback:∀ {H' :Heap} {s' :aq},GSt g5 H' k s' j→GSt g H' k s' j:=fun {H' s'} h=>by rw[←eg5]at h;exact(h.unbox n5k hg5).1
 have hgk5:g5 k≠none:=by obtain⟨_,_,_,_,_,_,h,_⟩:=hG5;exact h
 simp only[go_sem,acA];refine .intro (fun m ρ H2=>∃i:Nat,GSt g5 H2 k (dw s o (l.take i) done) j∧i≤l.length∧m=l.length - i∧lk ρ 0=some (.ptr k 0)∧lk ρ 3=some (.b done)∧lk ρ 5=some (.ptr i5 0)∧lk ρ 10=some (.sl (l.map bu) .no)∧lk ρ 11=some (.i l.length)∧lk ρ 12=some (.i i)) l.length ?_ ?_
 ·refine⟨0,hG5,acK,rfl,?_,?_,?_,?_,?_,?_⟩<;>simp only[go_sem]
 ·rintro m ρ H2 ⟨i,hS,hi,rfl,r0,r3,r5,r10,r11,r12⟩
  simp only[go_sem,r11,r12];refine .intro (fun e=>?_) (fun e=>?_)
  ·have hlt:i<l.length:=acH e
   have w1:=acG i acK;have hsn:=CL s o done hlt;have hgi:=vH o done (l.take i) hgr;have hgi:rN 1000000000 (dw s o (l.take i) done):=hgi.up aeK;obtain⟨hix,hcl⟩:=vK o done o.case (l.take i) s;have ix:=fun k=>fP.eq (xs:=l.map bu) (sz:=3) i ada acZ k
   rw[acB]at ix;obtain⟨x,ex⟩:∃x,l[i]=x:=⟨_,rfl⟩;rw[ex]at ix hsn;obtain⟨t,et⟩:∃t,dw s o (l.take i) done=t:=⟨_,rfl⟩;rw[et]at hS hsn hgi hix hcl;have hjt:done=true→iJ t.cases o.case<t.cases.length→o.kind≠6→j=iJ t.cases o.case:=fun a b c=>by rw[hix]at b⊢;rw[hcl]at b;exact hj a b c
   simp only[bu]at ix;simp only[go_sem,r10,r12,ix];intro i9 h9;have kkn:H2 k≠none:=by obtain⟨y1,y2,y3,y4,hk,_⟩:=hS;rw[hk];simp
   have n9k:i9≠k:=fun e=>kkn (by rw[←e];exact h9)
   have hg9:g5 i9=none:=by
    obtain⟨y1,y2,y3,y4,hk,ho,hgk,hfr⟩:=hS;cases hh:g5 i9 with
    |none=>rfl
    |some b=>have:=hfr i9 b n9k hh;rw[h9]at this;cases this
   have n95:i9≠i5:=fun e=>by rw[e,g55]at hg9;cases hg9
   have k5:H2 i5=some (.obj [.i o.kind,.s o.subj,.s o.case,.s o.field,.s o.to,.i o.val.kind,.i o.val.n,.s o.val.s,.i o.review,.s o.text,.s o.reason,.b o.glass] 25):=by obtain⟨_,_,_,_,_,_,_,hfr⟩:=hS;exact hfr i5 _ n5k g55
   have hS9:=hS.box h9 (.obj [.i x.on,.i x.kind,.s x.arg] 184);have hb9:∀ {H' :Heap} {s' :aq},GSt (upd g5 i9 (some (.obj [.i x.on,.i x.kind,.s x.arg] 184))) H' k s' j→GSt g5 H' k s' j:=fun {H' s'} h=>(h.unbox n9k hg9).1
   have hlog:=fun(hd:done=true)=>Lq hS9 o x.arg (by rw[hcl];exact hc) hgi.1 (hjt hd)
   have hopen:=DE hS9 o x.arg hk64 hgi.2.1;simp only[opA,opC]at hlog hopen;cases a1:(x.kind==1)
   case true=>
    have e1:x.kind=1:=by simpa using a1
    have a3:(x.kind==3)=false:=by rw[e1];rfl
    have a4:(x.kind==4)=false:=by rw[e1];rfl
    cases done
    ·simp only[go_sem,r3,r12,a1,a3,a4,w1]
     refine⟨_,?_,i+1,by rw[hsn,CM (fun h=>by cases h.2) (by rw[e1];decide) (by rw[e1];decide)];exact hb9 hS9,acK,rfl,?_,?_,?_,?_,?_,?_⟩
     ·omega
     all_goals simp only[go_sem,r0,r3,r5,r10,r11]
    ·simp only[go_sem,r0,r3,r5,a1,ak,n95.symm,k5]
     refine(hlog rfl).mono fun r H3 h3=>?_
     simp only[go_sem,r12,w1];refine⟨_,?_,i+1,by rw[hsn,Ij e1];exact hb9 h3,acK,rfl,?_,?_,?_,?_,?_,?_⟩
     ·omega
     all_goals simp only[go_sem,r0,r3,r5,r10,r11]
   have e1:¬(x.kind=1∧done=true):=fun h=>by rw[h.1]at a1;cases a1
   cases a3:(x.kind==3)
   case true=>
    have e3:x.kind=3:=by simpa using a3
    simp only[go_sem,r0,r5,a1,a3,ak,n95.symm,k5];refine hopen.mono fun r H3 h3=>?_
    simp only[go_sem,r12,w1];refine⟨_,?_,i+1,by rw[hsn,EX e3];exact hb9 h3,acK,rfl,?_,?_,?_,?_,?_,?_⟩
    ·omega
    all_goals simp only[go_sem,r0,r3,r5,r10,r11]
   have e3:x.kind≠3:=by simpa using a3
   cases a4:(x.kind==4)
   case false=>
    have e4:x.kind≠4:=by simpa using a4
    simp only[go_sem,r12,a1,a3,a4,w1];refine⟨_,?_,i+1,by rw[hsn,CM e1 e3 e4];exact hb9 hS9,acK,rfl,?_,?_,?_,?_,?_,?_⟩
    ·omega
    all_goals simp only[go_sem,r0,r3,r5,r10,r11]
   have e4:x.kind=4:=by simpa using a4
   rw[EY e4]at hsn;obtain⟨G,sG,nG,oG⟩:=hS9.base;obtain⟨y1,y2,y3,y4,kk,ho,hgk,hfr⟩:=hS9;obtain⟨K,eK⟩:∃K,upd H2 i9 (some (.obj [.i x.on,.i x.kind,.s x.arg] 184))=K:=⟨_,rfl⟩;have k9:K i9=some (.obj [.i x.on,.i x.kind,.s x.arg] 184):=by rw[←eK,ah]
   have k5' :K i5=some (.obj [.i o.kind,.s o.subj,.s o.case,.s o.field,.s o.to,.i o.val.kind,.i o.val.n,.s o.val.s,.i o.review,.s o.text,.s o.reason,.b o.glass] 25):=by rw[←eK,ag _ _ n95.symm];exact k5
   rw[eK]at sG kk ho hfr;have hoK:iH G K y1 y2 y3 y4 t j:=ho.bL fun i hi=>(nG i).2 hi
   obtain⟨pid,pset,palg,ptgt,prules,pkids,pobls,hpp⟩:∃a b c d e f g,t.policy= .mk a b c d e f g:=by cases t.policy;exact⟨_,_,_,_,_,_,_,rfl⟩
   have hst:∀z (n:List HO),stC {t with notices:=n} y1 y2 z y4= [.i t.tick,y1,y2,z,y4,.s pid,.b pset,.i palg,aV ptgt,.sl (prules.map aC) .no,.sl (pkids.map aN) .no,aA pobls,.i t.version]:=fun z n=>agu
   have hst0:stC t y1 y2 y3 y4= [.i t.tick,y1,y2,y3,y4,.s pid,.b pset,.i palg,aV ptgt,.sl (prules.map aC) .no,.sl (pkids.map aN) .no,aA pobls,.i t.version]:=agu;rw[hst0]at kk;have p9:=(bD (H:=K) (l:=[k,i5,i9]) (show i9∈ [k,i5,i9] by simp)).trans k9
   have p5:=(bD (H:=K) (l:=[k,i5,i9]) (show i5∈ [k,i5,i9] by simp)).trans k5'
   have pk:=(bD (H:=K) (l:=[k,i5,i9]) (show k∈ [k,i5,i9] by simp)).trans kk
   simp only[go_sem,a1,a3,a4];rw[eK];refine .stage (pick K [k,i5,i9]) [0,1,2,3,4,5,6,7,8,9,10,11,12,13,14,15,16,17] [18] bB acO ?_;simp only[go_sem,r0,r5,pk,p5,p9];have hap1:Rd K 3 (.sl [mT ⟨t.tick,o.case,x.arg⟩] .full) [mT ⟨t.tick,o.case,x.arg⟩]:=.sl adv .full;have hnl:=hgi.2.2;refine OwE.app (U:=U) (tb:=173) hoK.nt sG hap1 acT acN acP acT acS adi fun id y' K2 hid hor how hoth=>?_
   have hor' :K id=none∨nid y3=some id:=by exact ahp
   have n2:∀ {q b t},K q=some (.obj b t)→t≠173→q≠id:=fun {q b t} hq ht e=>by
    rcases hor' with h|h
    ·rw[e,h]at hq;cases hq
    ·exact lX (hoK.nt.nid h).2.2 hq ht e.symm
   have m9:=(hoth i9 (n2 k9 acN)).trans k9;have m5:=(hoth i5 (n2 k5' acN)).trans k5';have nik:=n2 kk acN;have mk:=(hoth k nik).trans kk;refine⟨iK fun q hq=>?_,?_⟩
   ·simp only[List.mem_cons,List.not_mem_nil,or_false]at hq
    rcases hq with rfl|rfl|rfl
    ·rw[mk,kk]
    ·rw[m5,k5']
    ·rw[m9,k9]
   simp only[go_sem];refine⟨cL,fun _ _ e=>adb,?_⟩
   simp only[go_sem,r12,mk,how.rd.fit,how.rd.cells];refine⟨fun _ _ e=>adb,?_⟩
   simp only[go_sem,w1];obtain⟨F,eF⟩:∃F,upd K2 k (some (.obj [.i t.tick,y1,y2,y',y4,.s pid,.b pset,.i palg,aV ptgt,.sl (prules.map aC) .no,.sl (pkids.map aN) .no,aA pobls,.i t.version] 98))=F:=⟨_,rfl⟩;have Fk:F k=(some (.obj [.i t.tick,y1,y2,y',y4,.s pid,.b pset,.i palg,aV ptgt,.sl (prules.map aC) .no,.sl (pkids.map aN) .no,aA pobls,.i t.version] 98)):=by rw[←eF,ah]
   have Fo:∀q,q≠k→F q=K2 q:=fun q hq=>by rw[←eF,ag _ _ hq]
   have hoz:OwE 173 G F 3 y' ((t.notices++ [(⟨t.tick,o.case,x.arg⟩:HO)]).map mT):=by rw[List.map_append];exact .inr ⟨id,hid,how.same (Fo id nik.symm)⟩
   have hop:iH G F y1 y2 y' y4 {t with notices:=t.notices++ [⟨t.tick,o.case,x.arg⟩]} j:=by
    refine iH.nots (h:=K) (h' :=F) hoK hoz (fun q hq=>?_) fun q hq hne hz=>?_
    ·have:id=q:=by have:=how.nid;rw[hq]at this;exact(Option.some.inj this).symm
     rw[←this];exact hor'
    ·have n1:q≠k:=fun e=>hgk ((nG k).1 (by rw[←e];exact hq))
     have n2:q≠id:=fun e=>by
      rcases hor' with h|h
      ·exact hne (by rw[e];exact h)
      ·exact hz (by rw[e];exact h)
     rw[Fo q n1,hoth q n2]
   have hgs:GSt (upd g5 i9 (some (.obj [.i x.on,.i x.kind,.s x.arg] 184))) F k {t with notices:=t.notices++ [⟨t.tick,o.case,x.arg⟩]} j:=by
    refine⟨y1,y2,y',y4,by rw[Fk,hst],iH.bL hop fun i hi=>(nG i).1 hi,hgk,fun i b hi hb=>?_⟩
    have n2:i≠id:=fun e=>by have:=(nG id).1 hid;rw[←e,hb]at this;cases this
    rw[Fo i hi,hoth i n2];exact hfr i b hi hb
   rw[←eF]at hgs;refine⟨_,?_,i+1,by rw[hsn];exact hb9 hgs,acK,rfl,?_,?_,?_,?_,?_,?_⟩
   ·omega
   all_goals simp only[go_sem,r0,r3,r5,r10,r11]
  ·have hge:i=l.length:=by have:=acD e;omega
   subst hge;rw[List.take_length]at hS;simp only[go_sem];exact .same (.refl _) (hback hS)
theorem NL(s:aq)(hf:Few s)(h:Heap):ai prog 77 [cN s] h fun r h' =>∃y1 y2 y3,r= .agg (stC s y1 y2 y3 (dY s.roles))∧iH h h' y1 y2 y3 (dY s.roles) s s.cases.length∧Ab.Sub h h' :=by
 have hst:=u9 s;have hsc:∀y1 y2 y3,stC s y1 y2 y3 (dY s.roles)=stC s y1 y2 y3 (dY s.roles):=fun _ _ _=>rfl
 have hfc:=hf.cases;have hfg:=hf.log;have hfr:=hf.reviews;have hfn:=hf.notices;obtain⟨tick,cs,rv,nt,ro,⟨pid,pset,palg,ptgt,prules,pkids,pobls⟩,ver⟩:=s;simp only at hfc hfg hfr hfn;rw[hst];simp only[sL,gh,kj,lC,dY,bf];refine acJ func77 35 [.cell 2 98] fun hwf=>?_
 simp only[go_sem];intro i1 h1;simp only[go_sem];intro i2 h2;have n21:=aH h2;have n2:=aB h2;simp only[go_sem];obtain⟨H,eH⟩:∃H,upd (upd h i1 (some (.obj [.i tick,.sl (cs.map ct) .no,.sl (rv.map iM) .no,.sl (nt.map mT) .no,.sl (ro.map eL) .no,.s pid,.b pset,.i palg,aV ptgt,.sl (prules.map aC) .no,.sl (pkids.map aN) .no,aA pobls,.i ver] 98))) i2 (some (.obj [.i 0,.sl [] .full,.sl [] .full,.sl [] .full,.sl [] .full,.s [],.b false,.i 0,.sl [] .full,.sl [] .full,.sl [] .full,.sl [] .full,.i 0] 98))=H:=⟨_,rfl⟩;have hH:Ab.Sub h H:=adH;have g1:H i1=some (.obj [.i tick,.sl (cs.map ct) .no,.sl (rv.map iM) .no,.sl (nt.map mT) .no,.sl (ro.map eL) .no,.s pid,.b pset,.i palg,aV ptgt,.sl (prules.map aC) .no,.sl (pkids.map aN) .no,aA pobls,.i ver] 98):=aek;have g2:H i2=some (.obj [.i 0,.sl [] .full,.sl [] .full,.sl [] .full,.sl [] .full,.s [],.b false,.i 0,.sl [] .full,.sl [] .full,.sl [] .full,.sl [] .full,.i 0] 98):=aed;rw[eH];clear eH;refine .stage (hm1 i1 (.obj [.i tick,.sl (cs.map ct) .no,.sl (rv.map iM) .no,.sl (nt.map mT) .no,.sl (ro.map eL) .no,.s pid,.b pset,.i palg,aV ptgt,.sl (prules.map aC) .no,.sl (pkids.map aN) .no,aA pobls,.i ver] 98)) [0,1,3,4,6,7,2,9,5,8] [10,11,12,13,14] (.hm1 g1) acO ?_;simp only[go_sem,gj];refine(vu _ (rv.map iM) H (eR iM 7 (fun _=>rfl) _ _) acL).mono fun z2 H1 ⟨o2,s1⟩=>?_
 refine⟨.hm1 (s1 _ _ g1),?_⟩;simp only[go_sem];refine(vt _ (nt.map mT) H1 (eR mT 3 (fun _=>rfl) _ _) acL).mono fun z3 H2 ⟨o3,s2⟩=>?_
 refine⟨.hm1 (s2 _ _ (s1 _ _ g1)),?_⟩;simp only[go_sem];refine(Aj _ (cs.map ct) H2 (eR ct 5 (fun _=>rfl) _ _) acL).mono fun z1 H3 ⟨o1,s3⟩=>?_
 have s03:Ab.Sub H H3:=s1.trans (s2.trans s3);have q1' :=s03 _ _ g1;have q2' :=s03 _ _ g2;refine⟨.hm1 q1',cL,(fun _ _ e=>adb),?_⟩
 simp only[go_sem,q1',o1.rd.fit,o1.rd.cells,o2.rd.fit,o2.rd.cells,o3.rd.fit,o3.rd.cells];refine⟨fun _ _ e=>adb,fun _ _ e=>adb,fun _ _ e=>adb,?_⟩
 obtain⟨M,eM⟩:∃M,upd H3 i1 (some (.obj [.i tick,z1,z2,z3,.sl (ro.map eL) .no,.s pid,.b pset,.i palg,aV ptgt,.sl (prules.map aC) .no,.sl (pkids.map aN) .no,aA pobls,.i ver] 98))=M:=⟨_,rfl⟩;have oM:∀q,q≠i1→M q=H3 q:=fun q hq=>by rw[←eM,ag _ _ hq]
 have m1:M i1=some (.obj [.i tick,z1,z2,z3,.sl (ro.map eL) .no,.s pid,.b pset,.i palg,aV ptgt,.sl (prules.map aC) .no,.sl (pkids.map aN) .no,aA pobls,.i ver] 98):=by rw[←eM,ah]
 have m2:=(oM i2 n21).trans q2';have hM:Ab.Sub h M:=by rw[←eM];exact(hH.trans s03).put h1 _
 have new:∀ {tb:TypeId} {z:AV} {xs:List AV} {n:Nat} {g:Heap},OwE tb g H3 n z xs→Ab.Sub H g→OwE tb h M n z xs:=fun w hg=>(w.less (hH.trans hg)).keep fun id e=>oM id (cI (w.nid e).1 (hg _ _ g1))
 have w1:=new o1 (s1.trans s2);have w2:=new (o2.sub (s2.trans s3)) (.refl _);have w3:=new (o3.sub s3) s1;have a12:apart z1 z2:=(dX o1 (o2.there s2.some)).symm;have a13:apart z1 z3:=(dX o1 (o3.there fun k hk=>hk)).symm
 have a23:apart z2 z3:=dX o3 (o2.there fun k hk=>hk)
 simp only[go_sem,o1.rd.len,acA];rw[eM];have h12:i1≠i2:=n21.symm;refine .intro (fun m ρ G=>∃i:Nat,Ab.Sub M G∧i≤cs.length∧m=cs.length - i∧lk ρ 1=some (.ptr i1 0)∧lk ρ 2=some (.ptr i2 0)∧lk ρ 18=some z1∧lk ρ 19=some (.i cs.length)∧lk ρ 20=some (.i i)) cs.length ?_ ?_
 ·refine⟨0,.refl _,acK,rfl,?_,?_,?_,?_,?_⟩<;>simp only[go_sem]
 ·rintro m ρ G ⟨i,hs,hi,rfl,r1,r2,r18,r19,r20⟩
  have v1:=w1.sub hs;simp only[go_sem,r19,r20];refine .intro (fun e=>?_) (fun e=>?_)
  ·have hlt:i<cs.length:=acH e
   have w1' :IntKind.i64.wrap ((i:Int)+1)=((i+1:Nat):Int):=acX;have hfl:=hfg _ (acF hlt);have hxi:(cs.map ct)[i]'acL=ct cs[i]:=acB ..;simp only[go_sem,r18,r20];refine v1.rd.idx (U:=U) (e:=135) i rfl acL nJ acN fun p hp1=>?_
   have hld:=hp1.all (U:=U) (ty:=135) acN (by rw[nJ,hxi];rfl) (by simp only[go_sem];rw[hxi];rfl)
   obtain⟨c,ec⟩:∃c,cs[i]=c:=⟨_,rfl⟩;rw[hxi,ec]at hld;rw[ec]at hfl hxi;simp only[ct,mZ,gz,so]at hld;simp only[go_sem,hld];intro i4 h4;have k1:=hs _ _ m1;have n41:i4≠i1:=cI h4 k1;obtain⟨G4,eG4⟩:∃G4,upd G i4 (some (.obj [.s c.id,.s c.owner,.s c.state,.sl (c.fields.map bO) .no,.sl (c.log.map iI) .no] 135))=G4:=⟨_,rfl⟩;have sG:Ab.Sub G G4:=af1;have p1:=sG _ _ k1;have p4:G4 i4=some (.obj [.s c.id,.s c.owner,.s c.state,.sl (c.fields.map bO) .no,.sl (c.log.map iI) .no] 135):=by rw[←eG4,ah]
   simp only[go_sem];rw[eG4];refine .stage (hm2 i1 (.obj [.i tick,z1,z2,z3,.sl (ro.map eL) .no,.s pid,.b pset,.i palg,aV ptgt,.sl (prules.map aC) .no,.sl (pkids.map aN) .no,aA pobls,.i ver] 98) i4 (.obj [.s c.id,.s c.owner,.s c.state,.sl (c.fields.map bO) .no,.sl (c.log.map iI) .no] 135)) [0,1,2,3,4,5,6,7] [8] (.hm2 p1 p4) acO ?_;simp only[go_sem,r1,ru _ _ n41.symm,ry];refine(wq _ (c.log.map iI) G4 (eR iI 3 (fun _=>rfl) _ _) acL (bw (fun _=>rfl) _)).pthen ?_
   refine⟨.hm2 p1 p4,?_⟩;simp only[go_sem];obtain⟨id1,hg1,u1⟩:=(v1.sub sG).ow acL;refine u1.idx (U:=U) (e:=135) i rfl acL nJ acN ?_;simp only[go_sem];refine⟨cL,(fun _ _ e=>adb),?_⟩
   have u1' :=u1;obtain⟨cap,rest,ey,hid,hr,hcap,hsz⟩:=u1';have hbd:i*5+5≤(au (cs.map ct)++rest).length:=by grind [acE,bg,acA]
   have e5:List.take (i*5+4) (au (cs.map ct)++rest)++ [.sl (c.log.map iI) .no]++List.drop (i*5+4+1) (au (cs.map ct)++rest)=au (cs.map ct)++rest:=by refine(lE hsz i acL 4 [.sl (c.log.map iI) .no] (acz rfl)).trans ?_;rw[qS];rw[List.getElem?_eq_getElem acL,hxi];rfl
   simp only[go_sem,r20,hid];rw[e5,vg hid];refine⟨acK,(fun _ _ e=>adb),?_⟩
   simp only[go_sem,w1'];refine⟨_,?_,i+1,hs.trans sG,acK,rfl,?_,?_,?_,?_,?_⟩
   ·omega
   all_goals simp only[go_sem,r1,r2,r18,r19]
  ·have hge:i=cs.length:=by grind
   have k1:=hs _ _ m1;have k2:=hs _ _ m2;have n21' :i2≠i1:=n21;simp only[go_sem,r1,r2,k1,k2];have kp:∀b q,h q=none→M q≠none→q≠i2→upd G i2 b q=M q:=fun b q a c d=>by
    rw[ag _ _ d];cases hh:M q with
    |none=>grind
    |some b=>exact hs _ _ hh
   have ne2:∀ {tb:TypeId} {z:AV} {xs:List AV} {n:Nat},OwE tb h M n z xs→tb≠98→∀q,nid z=some q→q≠i2:=fun w ht q e=>lX (w.nid e).2.2 m2 ht.symm
   refine .mk _ (.refl _) (.refl _) ⟨z1,z2,z3,by simp[stC,fZ,bf]<;>rfl,⟨⟨cs.map ct,w1.keep fun q e=>kp _ q (w1.nid e).1 (w1.nid e).2.1 (ne2 w1 acN q e),acS,fun j a b _=>acB ..,fun a b=>absurd b (Nat.lt_irrefl _)⟩,w2.keep fun q e=>kp _ q (w2.nid e).1 (w2.nid e).2.1 (ne2 w2 acN q e),w3.keep fun q e=>kp _ q (w3.nid e).1 (w3.nid e).2.1 (ne2 w3 acN q e),.inl rfl,a12,a13,fun q _ e=>adb,a23,fun q _ e=>adb,fun q _ e=>adb⟩,(hM.trans hs).put n2 _⟩
end Go.Proofs.YteaaeelhjnhaaaaGreatDoor
namespace Go.Bf
open Go Go.Ab Go.Proofs.YteaaeelhjnhaaaaGreatDoor
def nX(r:lN):List AV:=[.i r.err,aR r.mark,.b r.glass,.i r.val.kind,.i r.val.n,.s r.val.s,.b r.hidden,.i r.at_]
def xE(d:qc):List AV:=opC d.op++ [.i d.version,aR d.mark,.b d.glass,aA d.obls]
def nM:List AV:=[.i 0,.v (.complex .f64 0 0),.b false,.i 0,.i 0,.s [],.b false,.i 0]
def jQ(x:aq×lN×qc×Int):AV:=.tup [cN x.1,.agg (nX x.2.1),.agg (xE x.2.2.1),.i x.2.2.2]
theorem Ay{cs ds:List aU}(h:ds.map (·.id)=cs.map (·.id))(id:Txt):findD ds id=findD cs id:=by
 have e:∀l:List aU,findD l id=(l.map (·.id)).findIdx fun x=>geB x id:=fun l=>by rw[List.findIdx_map];rfl
 rw[e,e,h]
theorem KU(id:Txt):geB id id=true:=by
 have:Op.bytesLess id id=false:=by simpa[lt]using lt_irrefl id
 simp[geB,this]
theorem Ii{s:aq}{o:OpD}(hr:bM s o=0):findD (dU aQ s o).cases o.case=findD s.cases o.case:=by
 unfold dU;rw[if_pos hr];unfold doD
 by_cases k1:o.kind=1
 ·simp only[k1,if_true]
  obtain⟨f,ef⟩:∃f,findD s.cases o.case=f:=⟨_,rfl⟩;have hf:f≤s.cases.length:=by rw[←ef];exact List.findIdx_le_length
  rw[ef];refine(List.findIdx_eq acL).2 ⟨?_,fun j hj=>?_⟩
  ·have:((List.take f s.cases++ [jo s ⟨o.case,o.subj,jB,[],[]⟩ o.subj [110,101,119]]++List.drop f s.cases)[f]?)=some (jo s ⟨o.case,o.subj,jB,[],[]⟩ o.subj [110,101,119]):=by grind
   rw[(List.getElem_eq_iff _).2 this];exact KU _
  ·have hj2:j<s.cases.length:=by omega
   have:((List.take f s.cases++ [jo s ⟨o.case,o.subj,jB,[],[]⟩ o.subj [110,101,119]]++List.drop f s.cases)[j]?)=some s.cases[j]:=by grind
   rw[(List.getElem_eq_iff _).2 this];have h3:j<s.cases.findIdx fun c=>geB c.id o.case:=by grind [findD]
   simpa using List.not_of_lt_findIdx h3
 ·by_cases k3:o.kind=3
  ·simp only[k3,show¬(3:Int)=1 by decide,if_false,if_true]
   exact Ay (kE (f:=fun c=>jo s {c with fields:=fc c.fields o.field o.val} o.subj [119,114,105,116,101]) (g:=fun c:aU=>c.id) fun c=>rfl) _
  ·by_cases k4:o.kind=4
   ·simp only[k4,show¬(4:Int)=1 by decide,show¬(4:Int)=3 by decide,if_false,if_true]
    exact Ay (kE (f:=fun c=>jo s {c with state:=o.to} o.subj o.to) (g:=fun c:aU=>c.id) fun c=>rfl) _
   grind
theorem Nz{k:Nat}{s:aq}{o:OpD}(h:di k s)(hr:bM s o=0)(hx:iJ (dU aQ s o).cases o.case<(dU aQ s o).cases.length):findD s.cases o.case=iJ (dU aQ s o).cases o.case:=by rw[←Ii hr];exact Fq (pJ o h).asc hx
theorem Jh{t:Txt}(h:(aQ t).2.1=0):(aQ t).2.2=0:=by
 unfold aQ at h⊢;cases hl:sk t with
 |bad e a=>rw[hl]at h;simp only at h;have:=(yo hl).1;omega
 |ok ts=>
  simp only[yI]at h⊢
  grind
end Go.Bf
namespace Go.Proofs.YteaaeelhjnhaaaaGreatDoor
open Go Go.Ab Go.Bf Tryz
variable {g h H:Heap}{S s:aq}{k j:Nat}
theorem Jk(c:aU):cM (ct c)=true:=by simp[ct,mZ,cM,gW,gz,so,bw (f:=bO) (fun _=>rfl),bw (f:=iI) (fun _=>rfl)]
theorem QX(s:aq):Frz g h (cN s) (cN s):=by
 have:=uz (g:=g) (h:=h) (s:=s) (y1:=gh s.cases) (y2:=kj s.reviews) (y3:=lC s.notices) (y4:=dY s.roles) (.pure (by grind [gh,cM,bw,Jk])) (.pure (by simp only[kj,cM];exact bw (fun _=>rfl) _)) (.pure (by simp only[lC,cM];exact bw (fun _=>rfl) _)) (.pure (by simp only[dY,cM];exact bw (fun _=>rfl) _))
 exact adr
theorem KS(l:List dN)(q:Perm):Frz g h (.sl (l.map bu) q) (aA l):=.sl _ _ _ rfl acK fun i h1 h2 j h3 h4=>by refine .pure ?_;have:cM (l.map bu)[i]=true:=acZ;exact ny this _ acS
theorem AB{x:AV}(r:lN)(d:qc)(e:Int)(a:Frz g h x (cN S))(q:Perm):Frz g h (.tup [x,.agg (nX r),.agg (opC d.op++ [.i d.version,aR d.mark,.b d.glass,.sl (d.obls.map bu) q]),.i e]) (jQ (S,r,d,e)):=by
 refine .tup _ _ rfl fun i h1 h2=>?_
 rcases i with _|_|_|_|i
 ·exact a
 ·exact ac5
 ·refine .agg _ _ acY fun j h3 h4=>?_
  rcases j with _|_|_|_|_|_|_|_|_|_|_|_|_|_|_|_|j
  ·exact ac5
  ·exact ac5
  ·exact ac5
  ·exact ac5
  ·exact ac5
  ·exact ac5
  ·exact ac5
  ·exact ac5
  ·exact ac5
  ·exact ac5
  ·exact ac5
  ·exact ac5
  ·exact ac5
  ·exact ac5
  ·exact ac5
  ·exact KS d.obls q
  ·simp[opC]at h3;omega
 ·exact ac5
 grind
theorem GSt.put(hG:GSt g H k s j){i:Nat}(hi:i≠k)(hgi:g i≠none)(b:Blk):GSt (upd g i (some b)) (upd H i (some b)) k s j:=by
 obtain⟨y1,y2,y3,y4,hk,ho,hgk,hfr⟩:=hG;refine⟨y1,y2,y3,y4,adm,(ho.more (g:=upd g i (some b)) fun q hq _=>adm).keep fun q hq _=>ag _ _ fun e=>?_,adm,fun q c hq hc=>?_⟩
 ·grind [ah]
 grind [ah,ag]
theorem GSt.at(hG:GSt g H k s j){i:Nat}{b:Blk}(hi:i≠k)(hb:g i=some b):H i=some b:=by
 obtain⟨_,_,_,_,_,_,_,hfr⟩:=hG
 grind
theorem GSt.sub{f:Heap}(hG:GSt g H k s j)(hs:Ab.Sub f g)(hk:f k=none):Ab.Sub f H:=fun i b hi=>by obtain⟨_,_,_,_,_,_,_,hfr⟩:=hG;exact hfr i b acL (hs i b hi)
theorem GSt.same{H':Heap}(hG:GSt g H k s j)(hs:Ab.Sub H H'):GSt g H' k s j:=by
 obtain⟨y1,y2,y3,y4,hk,ho,hgk,hfr⟩:=hG;exact⟨y1,y2,y3,y4,hs _ _ hk,ho.keep fun q _ hne=>by
  cases hh:H q with
  |none=>grind
  |some b=>exact hs _ _ hh,hgk,fun i b hi hb=>hs _ _ (hfr i b hi hb)⟩
theorem qV{pid:Txt}{pset:Bool}{palg:Int}{ptgt:kr}{prules:List fy}{pkids:List bV}{pobls:List dN}(hpp:s.policy= .mk pid pset palg ptgt prules pkids pobls)(y1 y2 y3 y4:AV):stC s y1 y2 y3 y4= [.i s.tick,y1,y2,y3,y4,.s pid,.b pset,.i palg,.sl (ptgt.map cS) .no,.sl (prules.map aC) .no,.sl (pkids.map aN) .no,.sl (pobls.map bu) .no,.i s.version]:=by simp[stC,hpp,fZ,bf,aV,aA]
theorem LS(p:bV):∃a b c d e f g,p= .mk a b c d e f g:=by cases p;simp
theorem oS(s:aq)(hG:oJ k s)(hk:k≤1000)(o:OpD)(ho:nO o)(h:Heap)(he:l8 h):ai prog 60 [cN s,opA o] h fun r h' =>r=jQ (bA s o)∧h' =h:=
 ai.freeze fun g hg _=>by
 replace he:=he.sub hg;obtain⟨pid,pset,palg,ptgt,prules,pkids,pobls,hpp⟩:∃a b c d e f g,s.policy= .mk a b c d e f g:=by cases s.policy;exact⟨_,_,_,_,_,_,_,rfl⟩
 have hst:cN s= .agg [.i s.tick,.sl (s.cases.map ct) .no,.sl (s.reviews.map iM) .no,.sl (s.notices.map mT) .no,.sl (s.roles.map eL) .no,.s pid,.b pset,.i palg,.sl (ptgt.map cS) .no,.sl (prules.map aC) .no,.sl (pkids.map aN) .no,.sl (pobls.map bu) .no,.i s.version]:=by simp[cN,fZ,hpp,gh,kj,lC,dY,bf,aV,aA]
 rw[hst];refine ai.of_wp hU func60 rfl acO 131 rfl [.cell 4 98,.cell 5 67,.cell 6 104,.tmp 7] rfl (acz rfl) ?_;refine .one hU hm ?_;simp only[go_sem,opA,opC];intro i2 h2;simp only[go_sem];obtain⟨H2,e2⟩:∃H2,upd g i2 (some (.obj [.i s.tick,.sl (s.cases.map ct) .no,.sl (s.reviews.map iM) .no,.sl (s.notices.map mT) .no,.sl (s.roles.map eL) .no,.s pid,.b pset,.i palg,.sl (ptgt.map cS) .no,.sl (prules.map aC) .no,.sl (pkids.map aN) .no,.sl (pobls.map bu) .no,.i s.version] 98))=H2:=⟨_,rfl⟩;have s2:Ab.Sub g H2:=by rw[←e2];exact .aj h2
 have b2:H2 i2=some (.obj [.i s.tick,.sl (s.cases.map ct) .no,.sl (s.reviews.map iM) .no,.sl (s.notices.map mT) .no,.sl (s.roles.map eL) .no,.s pid,.b pset,.i palg,.sl (ptgt.map cS) .no,.sl (prules.map aC) .no,.sl (pkids.map aN) .no,.sl (pobls.map bu) .no,.i s.version] 98):=by rw[←e2,ah]
 have q2:g i2=none:=h2;have sg:Ab.Sub g H2:=s2;rw[e2];clear e2;intro i3 h3;simp only[go_sem];obtain⟨H3,e3⟩:∃H3,upd H2 i3 (some (.obj [.i o.kind,.s o.subj,.s o.case,.s o.field,.s o.to,.i o.val.kind,.i o.val.n,.s o.val.s,.i o.review,.s o.text,.s o.reason,.b o.glass] 25))=H3:=⟨_,rfl⟩;have s3:Ab.Sub H2 H3:=by rw[←e3];exact .aj h3
 have n3_2:i3≠i2:=fun e=>by rw[e,b2]at h3;cases h3
 replace b2:=s3 _ _ b2;have b3:H3 i3=some (.obj [.i o.kind,.s o.subj,.s o.case,.s o.field,.s o.to,.i o.val.kind,.i o.val.n,.s o.val.s,.i o.review,.s o.text,.s o.reason,.b o.glass] 25):=by rw[←e3,ah]
 have q3:g i3=none:=sg.none h3;have sg:Ab.Sub g H3:=sg.trans s3;rw[e3];clear e3;intro i4 h4;simp only[go_sem];obtain⟨H4,e4⟩:∃H4,upd H3 i4 (some (.obj [.i 0,.sl [] .full,.sl [] .full,.sl [] .full,.sl [] .full,.s [],.b false,.i 0,.sl [] .full,.sl [] .full,.sl [] .full,.sl [] .full,.i 0] 98))=H4:=⟨_,rfl⟩;have s4:Ab.Sub H3 H4:=by rw[←e4];exact .aj h4
 have n4_2:i4≠i2:=fun e=>by rw[e,b2]at h4;cases h4
 have n4_3:i4≠i3:=fun e=>by rw[e,b3]at h4;cases h4
 replace b2:=s4 _ _ b2;replace b3:=s4 _ _ b3;have b4:H4 i4=some (.obj [.i 0,.sl [] .full,.sl [] .full,.sl [] .full,.sl [] .full,.s [],.b false,.i 0,.sl [] .full,.sl [] .full,.sl [] .full,.sl [] .full,.i 0] 98):=by rw[←e4,ah]
 have q4:g i4=none:=sg.none h4;have sg:Ab.Sub g H4:=sg.trans s4;rw[e4];clear e4;intro i5 h5;simp only[go_sem];obtain⟨H5,e5⟩:∃H5,upd H4 i5 (some (.obj [.i 0,.v (.complex .f64 0 0),.b false,.i 0,.i 0,.s [],.b false,.i 0] 67))=H5:=⟨_,rfl⟩;have s5:Ab.Sub H4 H5:=by rw[←e5];exact .aj h5
 have n5_2:i5≠i2:=fun e=>by rw[e,b2]at h5;cases h5
 have n5_3:i5≠i3:=fun e=>by rw[e,b3]at h5;cases h5
 have n5_4:i5≠i4:=fun e=>by rw[e,b4]at h5;cases h5
 replace b2:=s5 _ _ b2;replace b3:=s5 _ _ b3;replace b4:=s5 _ _ b4;have b5:H5 i5=some (.obj [.i 0,.v (.complex .f64 0 0),.b false,.i 0,.i 0,.s [],.b false,.i 0] 67):=by rw[←e5,ah]
 have q5:g i5=none:=sg.none h5;have sg:Ab.Sub g H5:=sg.trans s5;rw[e5];clear e5;intro i6 h6;simp only[go_sem];obtain⟨H6,e6⟩:∃H6,upd H5 i6 (some (.obj [.i 0,.s [],.s [],.s [],.s [],.i 0,.i 0,.s [],.i 0,.s [],.s [],.b false,.i 0,.v (.complex .f64 0 0),.b false,.sl [] .full] 104))=H6:=⟨_,rfl⟩;have s6:Ab.Sub H5 H6:=by rw[←e6];exact .aj h6
 have n6_2:i6≠i2:=fun e=>by rw[e,b2]at h6;cases h6
 have n6_3:i6≠i3:=fun e=>by rw[e,b3]at h6;cases h6
 have n6_4:i6≠i4:=fun e=>by rw[e,b4]at h6;cases h6
 have n6_5:i6≠i5:=fun e=>by rw[e,b5]at h6;cases h6
 replace b2:=s6 _ _ b2;replace b3:=s6 _ _ b3;replace b4:=s6 _ _ b4;replace b5:=s6 _ _ b5;have b6:H6 i6=some (.obj [.i 0,.s [],.s [],.s [],.s [],.i 0,.i 0,.s [],.i 0,.s [],.s [],.b false,.i 0,.v (.complex .f64 0 0),.b false,.sl [] .full] 104):=by rw[←e6,ah]
 have q6:g i6=none:=sg.none h6;have sg:Ab.Sub g H6:=sg.trans s6;rw[e6];clear e6;refine WP.Mi hU hm 0 (fun(_:Nat) (ρ:Env) (H' :Heap)=>∃(e a:Int),Ab.Sub g H'∧H' i2=some (.obj [.i s.tick,.sl (s.cases.map ct) .no,.sl (s.reviews.map iM) .no,.sl (s.notices.map mT) .no,.sl (s.roles.map eL) .no,.s pid,.b pset,.i palg,.sl (ptgt.map cS) .no,.sl (prules.map aC) .no,.sl (pkids.map aN) .no,.sl (pobls.map bu) .no,.i s.version] 98)∧H' i4=some (.obj [.i 0,.sl [] .full,.sl [] .full,.sl [] .full,.sl [] .full,.s [],.b false,.i 0,.sl [] .full,.sl [] .full,.sl [] .full,.sl [] .full,.i 0] 98)∧H' i5=some (.obj [.i 0,.v (.complex .f64 0 0),.b false,.i 0,.i 0,.s [],.b false,.i 0] 67)∧H' i6=some (.obj [.i 0,.s [],.s [],.s [],.s [],.i 0,.i 0,.s [],.i 0,.s [],.s [],.b false,.i 0,.v (.complex .f64 0 0),.b false,.sl [] .full] 104)∧lk ρ 2=some (.ptr i2 0)∧lk ρ 4=some (.ptr i4 0)∧lk ρ 5=some (.ptr i5 0)∧lk ρ 6=some (.ptr i6 0)∧lk ρ 12=some (.i e)∧lk ρ 13=some (.i a)∧bA s o=(s,⟨e,naM,false,an,false,a⟩,wZ,e)) rfl ?_ ?_
 ·rintro m ρ H' ⟨e,a,sg',b2,b4,b5,b6,r2,r4,r5,r6,r12,r13,hgd⟩
  refine .vc hU hm ?_;simp only[go_sem,r2,r4,r5,r6,r12,r13,b2,b4,b5,b6,ak,n5_4,n5_4.symm,n6_4,n6_4.symm,n6_5,n6_5.symm];refine .mk _ (.refl _) (.refl _) ⟨((sg'.put q4 _).put q5 _).put q6 _,_,?_,rfl⟩;rw[hgd];exact AB (S:=s) ⟨e,naM,false,an,false,a⟩ wZ e (by rw[←hst];exact QX s) .full
 intro _;refine .one hU hm ?_;simp only[go_sem];intro i8 h8;simp only[go_sem];obtain⟨H8,e8⟩:∃H8,upd H6 i8 (some (.obj [.v (.complex .f64 0 0),.sl [] .full] 120))=H8:=⟨_,rfl⟩;have s8:Ab.Sub H6 H8:=by rw[←e8];exact .aj h8
 have n8_2:i8≠i2:=fun e=>by rw[e,b2]at h8;cases h8
 have n8_3:i8≠i3:=fun e=>by rw[e,b3]at h8;cases h8
 have n8_4:i8≠i4:=fun e=>by rw[e,b4]at h8;cases h8
 have n8_5:i8≠i5:=fun e=>by rw[e,b5]at h8;cases h8
 have n8_6:i8≠i6:=fun e=>by rw[e,b6]at h8;cases h8
 replace b2:=s8 _ _ b2;replace b3:=s8 _ _ b3;replace b4:=s8 _ _ b4;replace b5:=s8 _ _ b5;replace b6:=s8 _ _ b6;have b8:H8 i8=some (.obj [.v (.complex .f64 0 0),.sl [] .full] 120):=by rw[←e8,ah]
 have q8:g i8=none:=sg.none h8;have sg:Ab.Sub g H8:=sg.trans s8;rw[e8];clear e8;refine .one hU hm ?_;simp only[go_sem];intro i9 h9;simp only[go_sem];obtain⟨H9,e9⟩:∃H9,upd H8 i9 (some (.obj [.i 0,.v (.complex .f64 0 0),.b false,.i 0,.i 0,.s [],.b false,.i 0] 67))=H9:=⟨_,rfl⟩;have s9:Ab.Sub H8 H9:=by rw[←e9];exact .aj h9
 have n9_2:i9≠i2:=fun e=>by rw[e,b2]at h9;cases h9
 have n9_3:i9≠i3:=fun e=>by rw[e,b3]at h9;cases h9
 have n9_4:i9≠i4:=fun e=>by rw[e,b4]at h9;cases h9
 have n9_5:i9≠i5:=fun e=>by rw[e,b5]at h9;cases h9
 have n9_6:i9≠i6:=fun e=>by rw[e,b6]at h9;cases h9
 have n9_8:i9≠i8:=fun e=>by rw[e,b8]at h9;cases h9
 replace b2:=s9 _ _ b2;replace b3:=s9 _ _ b3;replace b4:=s9 _ _ b4;replace b5:=s9 _ _ b5;replace b6:=s9 _ _ b6;replace b8:=s9 _ _ b8;have b9:H9 i9=some (.obj [.i 0,.v (.complex .f64 0 0),.b false,.i 0,.i 0,.s [],.b false,.i 0] 67):=by rw[←e9,ah]
 have q9:g i9=none:=sg.none h9;have sg:Ab.Sub g H9:=sg.trans s9;rw[e9];clear e9;refine .one hU hm ?_;simp only[go_sem];intro i10 h10;simp only[go_sem];obtain⟨H10,e10⟩:∃H10,upd H9 i10 (some (.obj [.i 0,.sl [] .full,.sl [] .full,.sl [] .full,.sl [] .full,.s [],.b false,.i 0,.sl [] .full,.sl [] .full,.sl [] .full,.sl [] .full,.i 0] 98))=H10:=⟨_,rfl⟩;have s10:Ab.Sub H9 H10:=by rw[←e10];exact .aj h10
 have n10_2:i10≠i2:=fun e=>by rw[e,b2]at h10;cases h10
 have n10_3:i10≠i3:=fun e=>by rw[e,b3]at h10;cases h10
 have n10_4:i10≠i4:=fun e=>by rw[e,b4]at h10;cases h10
 have n10_5:i10≠i5:=fun e=>by rw[e,b5]at h10;cases h10
 have n10_6:i10≠i6:=fun e=>by rw[e,b6]at h10;cases h10
 have n10_8:i10≠i8:=fun e=>by rw[e,b8]at h10;cases h10
 have n10_9:i10≠i9:=fun e=>by rw[e,b9]at h10;cases h10
 replace b2:=s10 _ _ b2;replace b3:=s10 _ _ b3;replace b4:=s10 _ _ b4;replace b5:=s10 _ _ b5;replace b6:=s10 _ _ b6;replace b8:=s10 _ _ b8;replace b9:=s10 _ _ b9;have b10:H10 i10=some (.obj [.i 0,.sl [] .full,.sl [] .full,.sl [] .full,.sl [] .full,.s [],.b false,.i 0,.sl [] .full,.sl [] .full,.sl [] .full,.sl [] .full,.i 0] 98):=by rw[←e10,ah]
 have q10:g i10=none:=sg.none h10;have sg:Ab.Sub g H10:=sg.trans s10;rw[e10];clear e10;refine .one hU hm ?_;simp only[go_sem];have hrd:=fun G=>D5 (rdS G s) o hG.few ho.2.2.2 hG.F6
 have hpa:=fun(G:Heap) (hs:Ab.Sub g G)=>yJ o.text G (he.sub hs)
 rw[hst]at hrd;simp only[opA,opC]at hrd;refine .one hU hm ?_;simp only[go_sem,b2,b3];refine(hrd _).pthen ?_;simp only[go_sem];refine .cut (fun ρ H' =>H' =H10∧lk ρ 2=some (.ptr i2 0)∧lk ρ 3=some (.ptr i3 0)∧lk ρ 4=some (.ptr i4 0)∧lk ρ 5=some (.ptr i5 0)∧lk ρ 6=some (.ptr i6 0)∧lk ρ 8=some (.ptr i8 0)∧lk ρ 9=some (.ptr i9 0)∧lk ρ 10=some (.ptr i10 0)∧lk ρ 11=some (.b false)∧lk ρ 12=some (.v (.int .i64 (j6 s o).1))∧lk ρ 13=some (.v (.int .i64 (j6 s o).2))) ?_ ?_
 ·refine .vc hU hm ?_
  cases dr:(bM s o==0)
  ·have er:bM s o≠0:=by simpa using dr
   have ep:j6 s o=(bM s o,0):=by unfold j6;rw[if_neg fun hh=>er hh.1]
   simp only[go_sem,dr];refine⟨rfl,?_,?_,?_,?_,?_,?_,?_,?_,?_,?_,?_⟩<;>simp only[go_sem,ep]
  have er:bM s o=0:=by simpa using dr
  cases d7:(o.kind==7)
  ·have e7:o.kind≠7:=by simpa using d7
   have ep:j6 s o=(bM s o,0):=by unfold j6;rw[if_neg fun hh=>e7 hh.2]
   simp only[go_sem,b3,dr,d7];refine⟨rfl,?_,?_,?_,?_,?_,?_,?_,?_,?_,?_,?_⟩<;>simp only[go_sem,ep]
  ·have e7:o.kind=7:=by simpa using d7
   have ep:j6 s o=((aQ o.text).2.1,(aQ o.text).2.2):=by unfold j6;rw[if_pos ⟨er,e7⟩]
   simp only[go_sem,b3,dr,d7];refine(hpa _ sg).pthen ?_;obtain⟨⟨pp,e,a⟩,epp⟩:∃x,aQ o.text=x:=⟨_,rfl⟩;rw[epp]at ep;simp only[go_sem,jY,epp];refine⟨rfl,?_,?_,?_,?_,?_,?_,?_,?_,?_,?_,?_⟩<;>simp only[go_sem,ep]
 rintro ρ H' ⟨rfl,r2,r3,r4,r5,r6,r8,r9,r10,r11,r12,r13⟩
 refine .one hU hm ?_;cases de:((j6 s o).1 !=0)
 case true=>
  have ee:(j6 s o).1≠0:=by simpa using de
  simp only[go_sem,r2,r4,r5,r6,r12,r13,de];exact⟨0,(j6 s o).1,(j6 s o).2,sg,b2,b4,b5,b6,rfl,rfl,by unfold bA;rw[if_pos ee]⟩
 have ee:(j6 s o).1=0:=by simpa using de
 simp only[go_sem,r12,de];obtain⟨hr0,hform,hpar⟩:=tQ ee;have hfg:=Ke (HS hG.todi hform);have hask:=fun G=>Qn (rdS G s) o hG.few ho.1
 have hdec:=fun G=>Dg s.policy hG.pol (fJ s o) hfg G
 have hm6:=BJ (fJ s o) s.policy;have hol:=KK (fJ s o) hG.mN;have hmk:gO s o=fG (fJ s o) s.policy:=rfl;obtain⟨⟨m,ob⟩,em⟩:∃x,fG (fJ s o) s.policy=x:=⟨_,rfl⟩;rw[em]at hdec hm6 hol hmk;simp only at hm6 hol;rw[hpp]at hdec;simp only[aN,aV,aA,bf,bJ,rsA,aR]at hdec;rw[hst]at hask;simp only[opA,opC,bJ]at hask;have p2:=(bD (H:=H') (l:=[i2,i3]) (show i2∈ [i2,i3] by simp)).trans b2
 have p3:=(bD (H:=H') (l:=[i2,i3]) (show i3∈ [i2,i3] by simp)).trans b3
 refine .one hU hm ?_;simp only[go_sem];refine .calls (pick H' [i2,i3]) [0,1,2,3,4,5,6,7,8,9,10] bB acO rfl ?_;simp only[go_sem,r2,r3,p2,p3];refine(hask _).pthen ?_;refine⟨bB,?_⟩;simp only[go_sem];refine(hdec _).pthen ?_;refine⟨bB,?_⟩;simp only[go_sem,r8,b8];refine⟨bB.put (by simp[pick,n8_2,n8_3]) _,?_⟩
 obtain⟨H11,eH11⟩:∃H11,upd H' i8 (some (.obj [.v (.complex .f64 (hbit m.1) (hbit m.2)),.sl (ob.map bu) .no] 120))=H11:=⟨_,rfl⟩;replace b2:H11 i2=some (.obj [.i s.tick,.sl (s.cases.map ct) .no,.sl (s.reviews.map iM) .no,.sl (s.notices.map mT) .no,.sl (s.roles.map eL) .no,.s pid,.b pset,.i palg,.sl (ptgt.map cS) .no,.sl (prules.map aC) .no,.sl (pkids.map aN) .no,.sl (pobls.map bu) .no,.i s.version] 98):=by rw[←eH11,ag _ _ n8_2.symm];exact b2
 replace b3:H11 i3=some (.obj [.i o.kind,.s o.subj,.s o.case,.s o.field,.s o.to,.i o.val.kind,.i o.val.n,.s o.val.s,.i o.review,.s o.text,.s o.reason,.b o.glass] 25):=by rw[←eH11,ag _ _ n8_3.symm];exact b3
 replace b4:H11 i4=some (.obj [.i 0,.sl [] .full,.sl [] .full,.sl [] .full,.sl [] .full,.s [],.b false,.i 0,.sl [] .full,.sl [] .full,.sl [] .full,.sl [] .full,.i 0] 98):=by rw[←eH11,ag _ _ n8_4.symm];exact b4
 replace b5:H11 i5=some (.obj [.i 0,.v (.complex .f64 0 0),.b false,.i 0,.i 0,.s [],.b false,.i 0] 67):=by rw[←eH11,ag _ _ n8_5.symm];exact b5
 replace b6:H11 i6=some (.obj [.i 0,.s [],.s [],.s [],.s [],.i 0,.i 0,.s [],.i 0,.s [],.s [],.b false,.i 0,.v (.complex .f64 0 0),.b false,.sl [] .full] 104):=by rw[←eH11,ag _ _ n8_6.symm];exact b6
 replace b9:H11 i9=some (.obj [.i 0,.v (.complex .f64 0 0),.b false,.i 0,.i 0,.s [],.b false,.i 0] 67):=by rw[←eH11,ag _ _ n9_8];exact b9
 replace b10:H11 i10=some (.obj [.i 0,.sl [] .full,.sl [] .full,.sl [] .full,.sl [] .full,.s [],.b false,.i 0,.sl [] .full,.sl [] .full,.sl [] .full,.sl [] .full,.i 0] 98):=by rw[←eH11,ag _ _ n10_8];exact b10
 replace b8:H11 i8=some (.obj [.v (.complex .f64 (hbit m.1) (hbit m.2)),.sl (ob.map bu) .no] 120):=by rw[←eH11,ah]
 replace sg:Ab.Sub g H11:=by rw[←eH11];exact sg.put q8 _
 rw[eH11];clear eH11;have hbr:=fun G=>HV s o m hm6.m9 (by have:=hG.nr;omega) (by have:=hG.roles;omega) hG.tick hG.ticks G
 rw[hst]at hbr;simp only[opA,opC,aR]at hbr;obtain⟨gl,egl⟩:∃gl,sP s o m=gl:=⟨_,rfl⟩;have hgl:fK s o=gl:=by unfold fK;rw[hmk];exact egl
 rw[egl]at hbr;have p2:=(bD (H:=H11) (l:=[i2,i3,i8]) (show i2∈ [i2,i3,i8] by simp)).trans b2
 have p3:=(bD (H:=H11) (l:=[i2,i3,i8]) (show i3∈ [i2,i3,i8] by simp)).trans b3
 have p8:=(bD (H:=H11) (l:=[i2,i3,i8]) (show i8∈ [i2,i3,i8] by simp)).trans b8
 refine .one hU hm ?_;simp only[go_sem];refine .stage (pick H11 [i2,i3,i8]) [0,1,2,3,4,5,7,6] [8,9,10] bB acO ?_;simp only[go_sem,r2,r3,r8,r9,p2,p3,p8];refine(hbr _).pthen ?_;refine⟨bB,cL,fun _ _ e=>adb,?_⟩
 simp only[go_sem,r9,b9];refine⟨fun _ _ e=>adb,fun _ _ e=>adb,?_⟩
 obtain⟨H12,eH12⟩:∃H12,upd H11 i9 (some (.obj [.i 0,.v (.complex .f64 (hbit m.1) (hbit m.2)),.b gl,.i 0,.i 0,.s [],.b false,.i 0] 67))=H12:=⟨_,rfl⟩;replace b2:H12 i2=some (.obj [.i s.tick,.sl (s.cases.map ct) .no,.sl (s.reviews.map iM) .no,.sl (s.notices.map mT) .no,.sl (s.roles.map eL) .no,.s pid,.b pset,.i palg,.sl (ptgt.map cS) .no,.sl (prules.map aC) .no,.sl (pkids.map aN) .no,.sl (pobls.map bu) .no,.i s.version] 98):=by rw[←eH12,ag _ _ n9_2.symm];exact b2
 replace b3:H12 i3=some (.obj [.i o.kind,.s o.subj,.s o.case,.s o.field,.s o.to,.i o.val.kind,.i o.val.n,.s o.val.s,.i o.review,.s o.text,.s o.reason,.b o.glass] 25):=by rw[←eH12,ag _ _ n9_3.symm];exact b3
 replace b4:H12 i4=some (.obj [.i 0,.sl [] .full,.sl [] .full,.sl [] .full,.sl [] .full,.s [],.b false,.i 0,.sl [] .full,.sl [] .full,.sl [] .full,.sl [] .full,.i 0] 98):=by rw[←eH12,ag _ _ n9_4.symm];exact b4
 replace b5:H12 i5=some (.obj [.i 0,.v (.complex .f64 0 0),.b false,.i 0,.i 0,.s [],.b false,.i 0] 67):=by rw[←eH12,ag _ _ n9_5.symm];exact b5
 replace b6:H12 i6=some (.obj [.i 0,.s [],.s [],.s [],.s [],.i 0,.i 0,.s [],.i 0,.s [],.s [],.b false,.i 0,.v (.complex .f64 0 0),.b false,.sl [] .full] 104):=by rw[←eH12,ag _ _ n9_6.symm];exact b6
 replace b8:H12 i8=some (.obj [.v (.complex .f64 (hbit m.1) (hbit m.2)),.sl (ob.map bu) .no] 120):=by rw[←eH12,ag _ _ n9_8.symm];exact b8
 replace b10:H12 i10=some (.obj [.i 0,.sl [] .full,.sl [] .full,.sl [] .full,.sl [] .full,.s [],.b false,.i 0,.sl [] .full,.sl [] .full,.sl [] .full,.sl [] .full,.i 0] 98):=by rw[←eH12,ag _ _ n10_9];exact b10
 replace b9:H12 i9=some (.obj [.i 0,.v (.complex .f64 (hbit m.1) (hbit m.2)),.b gl,.i 0,.i 0,.s [],.b false,.i 0] 67):=by rw[←eH12,ah]
 replace sg:Ab.Sub g H12:=by rw[←eH12];exact sg.put q9 _
 rw[eH12];clear eH12;obtain⟨dn,edn⟩:∃dn,(decide (m=bn)||gl)=dn:=⟨_,rfl⟩
 have hdn:sS s o=dn:=by unfold sS;rw[hmk,hgl];exact edn
 have pe:=(nb hm6.m9).pe;refine .cut (fun ρ H' =>H' =H12∧lk ρ 2=some (.ptr i2 0)∧lk ρ 3=some (.ptr i3 0)∧lk ρ 4=some (.ptr i4 0)∧lk ρ 5=some (.ptr i5 0)∧lk ρ 6=some (.ptr i6 0)∧lk ρ 8=some (.ptr i8 0)∧lk ρ 9=some (.ptr i9 0)∧lk ρ 10=some (.ptr i10 0)∧lk ρ 11=some (.b dn)∧lk ρ 13=some (.v (.int .i64 (j6 s o).2))) ?_ ?_
 ·refine .vc hU hm ?_
  cases dp:(m==bn)
  ·have e1:decide (m=bn)=false:=decide_eq_false (by simpa using dp)
   rw[e1,Bool.false_or]at edn;simp only[go_sem,r8,r9,b8,b9,pe,dp];refine⟨rfl,?_,?_,?_,?_,?_,?_,?_,?_,?_,?_⟩<;>simp only[go_sem,r2,r3,r4,r5,r6,r8,r9,r10,r13,edn]
  ·have e1:decide (m=bn)=true:=decide_eq_true (by simpa using dp)
   rw[e1,Bool.true_or]at edn;simp only[go_sem,r8,b8,pe,dp];refine⟨rfl,?_,?_,?_,?_,?_,?_,?_,?_,?_,?_⟩<;>simp only[go_sem,r2,r3,r4,r5,r6,r8,r9,r10,r13,edn]
 clear r2 r3 r4 r5 r6 r8 r9 r10 r11 r12 r13
 rintro ρ H' ⟨rfl,r2,r3,r4,r5,r6,r8,r9,r10,r11,r13⟩
 have how:=fun G=>NL s hG.few G
 rw[hst]at how;refine .one hU hm ?_;simp only[go_sem,r2,b2];refine(how _).mono fun r H13 ⟨y1,y2,y3,er,hown,hs13⟩=>?_
 subst er;rw[qV hpp];simp only[dY];simp only[go_sem,r10,hs13 _ _ b10];obtain⟨H14,e14⟩:∃H14,upd H13 i10 (some (.obj [.i s.tick,y1,y2,y3,.sl (s.roles.map eL) .no,.s pid,.b pset,.i palg,.sl (ptgt.map cS) .no,.sl (prules.map aC) .no,.sl (pkids.map aN) .no,.sl (pobls.map bu) .no,.i s.version] 98))=H14:=⟨_,rfl⟩;have hS:GSt H' H14 i10 s s.cases.length:=⟨y1,y2,y3,dY s.roles,by rw[←e14,ah,qV hpp];rfl,hown.keep (fun q hq _=>by rw[←e14];exact ag _ _ fun e=>by rw[e,b10]at hq;cases hq),by rw[b10];simp,fun i b hi hb=>by rw[←e14,ag _ _ hi];exact hs13 _ _ hb⟩
 rw[e14];clear e14;have sGB:=sg;have hroom:s.reviews.length≤1000:=hG.nrev;refine .cut (fun ρ H2=>GSt H' H2 i10 (if gl=true then cg s o o.reason else s) s.cases.length∧lk ρ 2=some (.ptr i2 0)∧lk ρ 3=some (.ptr i3 0)∧lk ρ 4=some (.ptr i4 0)∧lk ρ 5=some (.ptr i5 0)∧lk ρ 6=some (.ptr i6 0)∧lk ρ 8=some (.ptr i8 0)∧lk ρ 9=some (.ptr i9 0)∧lk ρ 10=some (.ptr i10 0)∧lk ρ 11=some (.b dn)∧lk ρ 13=some (.v (.int .i64 (j6 s o).2))) ?_ ?_
 ·refine .vc hU hm ?_
  have c9:=hS.at n10_9.symm b9;have c3:=hS.at n10_3.symm b3;have hop:=DE hS o o.reason ho.1 acK;simp only[opA,opC]at hop;cases gl
  ·simp only[go_sem,r9,c9]
   refine⟨hS,?_,?_,?_,?_,?_,?_,?_,?_,?_,?_⟩<;>simp only[go_sem,r2,r3,r4,r5,r6,r8,r9,r10,r11,r13]
  ·simp only[go_sem,r3,r9,r10,c9,c3]
   refine hop.mono fun r H3 h3=>?_
   simp only[go_sem];refine⟨h3,?_,?_,?_,?_,?_,?_,?_,?_,?_,?_⟩<;>simp only[go_sem,r2,r3,r4,r5,r6,r8,r9,r10,r11,r13]
 clear hS r2 r3 r4 r5 r6 r8 r9 r10 r11 r13
 rintro ρ H2 ⟨hS,r2,r3,r4,r5,r6,r8,r9,r10,r11,r13⟩
 have hbd:cW s o=dw (if dn=true then dU aQ (if gl=true then cg s o o.reason else s) o else(if gl=true then cg s o o.reason else s)) o ob dn:=by unfold cW;rw[hgl,hdn,hmk]
 have hO1:di k (if gl=true then cg s o o.reason else s):=by
  split
  ·exact B2 o _ hG.todi (by have:=hG.nr;omega)
  ·exact hG.todi
 have hc1:(if gl=true then cg s o o.reason else s).cases=s.cases:=by split<;>rfl
 have hp1:(if gl=true then cg s o o.reason else s).policy= .mk pid pset palg ptgt prules pkids pobls:=by split<;>exact hpp
 have hg1:rN 999 (if gl=true then cg s o o.reason else s):=by
  have h1:=hG.nr;have h2:=hG.nn;have h3:=fun c hc=>(hG.case c hc).log2
  split
  ·exact⟨fun c hc=>by have:=h3 c hc;omega,by simp only[cg,acE,List.length_singleton];omega,by simp only[cg];omega⟩
  ·exact⟨fun c hc=>by have:=h3 c hc;omega,acK,acK⟩
 have hr1:bM (if gl=true then cg s o o.reason else s) o=0:=by
  split
  ·rename_i hgt
   have hgo:=xT hform (C5 (hgl.trans hgt));rw[←hr0];unfold bM;have k5:o.kind≠5:=acK;have k6:o.kind≠6:=acK;have k8:o.kind≠8:=acK;simp only[k5,k6,k8,if_false];rfl
  ·exact hr0
 obtain⟨s1,es1⟩:∃s1,(if gl=true then cg s o o.reason else s)=s1:=⟨_,rfl⟩
 rw[es1]at hS hbd hO1 hc1 hp1 hg1 hr1;have hre:pF s o=⟨if dn=true then 0 else 12,m,gl,if(dn && o.kind==2 && !jR ob o.field)=true then eO (bz s.cases o.case).fields o.field else an,dn && o.kind==2 && jR ob o.field,0⟩:=by unfold pF;rw[hgl,hdn,hmk]
 have hve:=hO1.ver;have b9n:H' i9≠none:=by rw[b9];simp
 refine .cut (fun ρ H3=>lk ρ 2=some (.ptr i2 0)∧lk ρ 3=some (.ptr i3 0)∧lk ρ 4=some (.ptr i4 0)∧lk ρ 5=some (.ptr i5 0)∧lk ρ 6=some (.ptr i6 0)∧lk ρ 8=some (.ptr i8 0)∧lk ρ 9=some (.ptr i9 0)∧lk ρ 10=some (.ptr i10 0)∧lk ρ 11=some (.b dn)∧lk ρ 13=some (.v (.int .i64 (j6 s o).2))∧∃(GB:Heap) (j:Nat),GSt GB H3 i10 (if dn=true then dU aQ s1 o else s1) j∧Ab.Sub g GB∧(dn=true→iJ (if dn=true then dU aQ s1 o else s1).cases o.case<(if dn=true then dU aQ s1 o else s1).cases.length→o.kind≠6→j=iJ (if dn=true then dU aQ s1 o else s1).cases o.case)∧GB i2=some (.obj [.i s.tick,.sl (s.cases.map ct) .no,.sl (s.reviews.map iM) .no,.sl (s.notices.map mT) .no,.sl (s.roles.map eL) .no,.s pid,.b pset,.i palg,.sl (ptgt.map cS) .no,.sl (prules.map aC) .no,.sl (pkids.map aN) .no,.sl (pobls.map bu) .no,.i s.version] 98)∧GB i3=some (.obj [.i o.kind,.s o.subj,.s o.case,.s o.field,.s o.to,.i o.val.kind,.i o.val.n,.s o.val.s,.i o.review,.s o.text,.s o.reason,.b o.glass] 25)∧GB i4=some (.obj [.i 0,.sl [] .full,.sl [] .full,.sl [] .full,.sl [] .full,.s [],.b false,.i 0,.sl [] .full,.sl [] .full,.sl [] .full,.sl [] .full,.i 0] 98)∧GB i5=some (.obj [.i 0,.v (.complex .f64 0 0),.b false,.i 0,.i 0,.s [],.b false,.i 0] 67)∧GB i6=some (.obj [.i 0,.s [],.s [],.s [],.s [],.i 0,.i 0,.s [],.i 0,.s [],.s [],.b false,.i 0,.v (.complex .f64 0 0),.b false,.sl [] .full] 104)∧GB i8=some (.obj [.v (.complex .f64 (hbit m.1) (hbit m.2)),.sl (ob.map bu) .no] 120)∧GB i9=some (.obj [.i (if dn=true then 0 else 12),.v (.complex .f64 (hbit m.1) (hbit m.2)),.b gl,.v (.int .i64 (if(dn && o.kind==2 && !jR ob o.field)=true then eO (bz s.cases o.case).fields o.field else an).kind),.v (.int .i64 (if(dn && o.kind==2 && !jR ob o.field)=true then eO (bz s.cases o.case).fields o.field else an).n),.s (if(dn && o.kind==2 && !jR ob o.field)=true then eO (bz s.cases o.case).fields o.field else an).s,.b (dn && o.kind==2 && jR ob o.field),.i 0] 67)) ?_ ?_
 ·refine .vc hU hm ?_
  have c9:=hS.at n10_9.symm b9;have c3:=hS.at n10_3.symm b3;have c8:=hS.at n10_8.symm b8;have c2:=hS.at n10_2.symm b2;cases dn
  ·simp only[go_sem,r9,r11,c9]
   refine⟨?_,?_,?_,?_,?_,?_,?_,?_,?_,?_,upd H' i9 _,s.cases.length,hS.put n10_9.symm b9n _,sGB.put q9 _,fun e=>adb,afT,afU,afV,afW,afX,afY,ah ..⟩<;>simp only[go_sem,r2,r3,r4,r5,r6,r8,r9,r10,r11,r13]
  ·obtain⟨z1,z2,z3,z4,hk10,hrd⟩:=hS.rd
   have sH2:Ab.Sub g H2:=hS.sub sGB q10;have hdo:=KD hrd o hO1.few hO1.mN ho.2.2.2 hO1.F6 ⟨hve.1,acK⟩ (he.sub sH2);have hjj:=fun hx (_:o.kind≠6)=>Nz (o:=o) hO1 hr1 hx
   rw[qV hp1]at hk10 hdo;simp only[opA,opC]at hdo;simp only[go_sem,r3,r10,r11,hk10,c3];refine hdo.mono fun r H3 ⟨hs3,j,hOS,hj⟩=>?_
   have hj:=hj hr1;obtain⟨x1,x2,x3,x4,er,hOP⟩:=hOS.parts;subst er;obtain⟨did,dset,dalg,dtgt,drules,dkids,dobls,hpd⟩:=LS (dU aQ s1 o).policy;rw[qV hpd];have k10:=hs3 _ _ hk10;obtain⟨H4,e4⟩:∃H4,upd H3 i10 (some (.obj [.v (.int .i64 (dU aQ s1 o).tick),x1,x2,x3,x4,.s did,.b dset,.i dalg,.sl (dtgt.map cS) .no,.sl (drules.map aC) .no,.sl (dkids.map aN) .no,.sl (dobls.map bu) .no,.v (.int .i64 (dU aQ s1 o).version)] 98))=H4:=⟨_,rfl⟩;have hS4:GSt H' H4 i10 (dU aQ s1 o) j:=by
    obtain⟨_,_,_,_,_,_,hgk,hfr⟩:=hS;refine⟨x1,x2,x3,x4,by rw[←e4,ah,qV hpd],(hOP.keep fun q hq _=>by rw[←e4];exact ag _ _ fun e=>by rw[e,hk10]at hq;cases hq).bL fun q hq=>?_,hgk,fun i b hi hb=>by rw[←e4,ag _ _ hi];exact hs3 _ _ (hfr i b hi hb)⟩
    cases hh:H' q with
    |none=>rfl
    |some b=>
     by_cases e:q=i10
     ·rw[e,hk10]at hq;cases hq
     ·rw[hfr q b e hh]at hq;cases hq
   have d9:=hS4.at n10_9.symm b9;have d3:=hS4.at n10_3.symm b3;have d8:=hS4.at n10_8.symm b8;have d2:=hS4.at n10_2.symm b2;have hjx:true=true→iJ (dU aQ s1 o).cases o.case<(dU aQ s1 o).cases.length→o.kind≠6→j=iJ (dU aQ s1 o).cases o.case:=fun _ hx h6=>hj.trans (hjj hx h6)
   have hhi:=fun G=>KX ob acK o.field G
   simp only[aA]at hhi;have hca:=fun G=>BE (rdS G s) o.case hG.few
   rw[hst]at hca;have hcf:(bz s.cases o.case).fields.length≤1000000000:=by
    unfold bz;split
    ·by_cases hlt:findD s.cases o.case<s.cases.length
     ·rw[show s.cases.getD (findD s.cases o.case) oH=s.cases[findD s.cases o.case] by simp[List.getD,List.getElem?_eq_getElem hlt]]
      have:=(hG.case _ (acF hlt)).nfields;omega
     ·rw[show s.cases.getD (findD s.cases o.case) oH=oH by simp[List.getD,List.getElem?_eq_none (Nat.le_of_not_lt hlt)]]
      exact afP
    ·exact afP
   have hfd:=fun G=>CV (rdC G (bz s.cases o.case)) o.field hcf
   simp only[ct,mZ,gz,so]at hca hfd;simp only[go_sem,r3,r10,k10];rw[e4];clear e4;cases d7:(o.kind==2)
   ·simp only[go_sem,r3,r9,d9,d3,d7,n9_3.symm]
    refine⟨?_,?_,?_,?_,?_,?_,?_,?_,?_,?_,upd H' i9 _,j,hS4.put n10_9.symm b9n _,sGB.put q9 _,(fun _=>hjx rfl),afT,afU,afV,afW,afX,afY,ah ..⟩<;>simp only[go_sem,r2,r3,r4,r5,r6,r8,r9,r10,r11,r13]
   ·simp only[go_sem,r3,r8,d3,d8,d7]
    refine(hhi _).pthen ?_;cases hh:jR ob o.field
    ·simp only[go_sem,r2,r3,r9,d9,d3,d2,d7,n9_2.symm,n9_3.symm]
     refine(hca _).pthen ?_;simp only[go_sem];intro i14 h14;have t9:i14≠i9:=fun e=>by rw[e,ah]at h14;cases h14
     have t3:i14≠i3:=fun e=>by rw[e,ag _ _ n9_3.symm,d3]at h14;cases h14
     simp only[go_sem,r3,d3,n9_3.symm,t3.symm];refine(hfd _).pthen ?_;simp only[go_sem,r9,t9.symm,aP];refine⟨?_,?_,?_,?_,?_,?_,?_,?_,?_,?_,upd (upd H' i9 _) i9 _,j,((hS4.put n10_9.symm b9n _).same (.aj h14)).put n10_9.symm (by rw[ah];simp) _,(sGB.put q9 _).put q9 _,(fun _=>hjx rfl),by rw[ag _ _ n9_2.symm,ag _ _ n9_2.symm];exact b2,by rw[ag _ _ n9_3.symm,ag _ _ n9_3.symm];exact b3,by rw[ag _ _ n9_4.symm,ag _ _ n9_4.symm];exact b4,by rw[ag _ _ n9_5.symm,ag _ _ n9_5.symm];exact b5,by rw[ag _ _ n9_6.symm,ag _ _ n9_6.symm];exact b6,by rw[ag _ _ n9_8.symm,ag _ _ n9_8.symm];exact b8,ah ..⟩<;>simp only[go_sem,r2,r3,r4,r5,r6,r8,r9,r10,r11,r13]
    ·simp only[go_sem,r3,r9,d9,d3,d7,n9_3.symm]
     refine⟨?_,?_,?_,?_,?_,?_,?_,?_,?_,?_,upd H' i9 _,j,hS4.put n10_9.symm b9n _,sGB.put q9 _,(fun _=>hjx rfl),afT,afU,afV,afW,afX,afY,ah ..⟩<;>simp only[go_sem,r2,r3,r4,r5,r6,r8,r9,r10,r11,r13]
 clear hS b2 b3 b4 b5 b6 b8 b9 b10 r2 r3 r4 r5 r6 r8 r9 r10 r11 r13
 rintro ρ H3 ⟨r2,r3,r4,r5,r6,r8,r9,r10,r11,r13,GB,j,hS,sG2,hjx,b2,b3,b4,b5,b6,b8,b9⟩
 have hO2:di (k+1) (if dn=true then dU aQ s1 o else s1):=by
  split
  ·exact pJ o hO1
  ·exact {hO1 with ver:=⟨hO1.ver.1,by have:=hO1.ver.2;omega⟩}
 obtain⟨s2,es2⟩:∃s2,(if dn=true then dU aQ s1 o else s1)=s2:=⟨_,rfl⟩
 rw[es2]at hS hjx hbd hO2;have hdu:=EV hS o ho.1 ob acK dn (by have:=hO2.ncases;omega) ⟨fun c hc=>by have:=(hO2.case c hc).log2;omega,hO2.nrev,hO2.nnot⟩ hjx
 rw[←hbd]at hdu;simp only[opA,opC,aA]at hdu;have c3:=hS.at n10_3.symm b3;have c8:=hS.at n10_8.symm b8;refine .one hU hm ?_;simp only[go_sem,r3,r8,r10,r11,c3,c8];refine hdu.mono fun r H4 h4=>?_
 simp only[go_sem];clear c3 c8 hdu hS;have hat:(j6 s o).2=0:=by
  unfold j6 at ee⊢;split
  ·rename_i hc;rw[if_pos hc]at ee;exact Jh ee
  ·rfl
 have hbl:(cW s o).cases.length≤1000000:=by rw[hbd,xF];have:=hO2.ncases;omega
 obtain⟨x1,x2,x3,x4,k10,hOP,_,_⟩:=id h4;have hov:=LJ hOP.rd hbl;obtain⟨did,dset,dalg,dtgt,drules,dkids,dobls,hpd⟩:=LS (cW s o).policy;have hfz:∀H5,(∀q,GB q=none→H5 q=H4 q)→Frz g H5 (.agg (stC (cW s o) x1 x2 x3 x4)) (cN (cW s o)):=fun H5 hq=>((hOP.keep fun q hg _=>hq q hg).bL fun q hg=>by
  cases hh:g q with
  |none=>rfl
  |some b=>rw[sG2 _ _ hh]at hg;cases hg).frz
 rw[qV hpd]at k10 hov hfz;have c2:=h4.at n10_2.symm b2;have c3:=h4.at n10_3.symm b3;have c4:=h4.at n10_4.symm b4;have c5:=h4.at n10_5.symm b5;have c6:=h4.at n10_6.symm b6;have c8:=h4.at n10_8.symm b8;have c9:=h4.at n10_9.symm b9;have sg4:Ab.Sub g H4:=h4.sub sG2 q10;refine .one hU hm ?_;simp only[go_sem,r10,k10];refine hov.pthen ?_;cases dov:rR (cW s o)
 case true=>simp only[go_sem,r2,r4,r5,r6,r13];exact⟨0,6,0,sg4,c2,c4,c5,c6,rfl,by rw[hat],by unfold bA;rw[if_neg (by rw[ee];simp),if_pos dov]⟩
 have hgd:bA s o=(cW s o,⟨if dn=true then 0 else 12,m,gl,if(dn && o.kind==2 && !jR ob o.field)=true then eO (bz s.cases o.case).fields o.field else an,dn && o.kind==2 && jR ob o.field,0⟩,⟨o,s.version,m,gl,ob⟩,0):=by unfold bA;rw[if_neg (by rw[ee];simp),if_neg (by rw[dov];decide),hre,hmk,hgl]
 simp only[go_sem];have p2:=(bD (H:=H4) (l:=[i2,i3,i8,i9,i10]) (show i2∈ [i2,i3,i8,i9,i10] by simp)).trans c2
 have p3:=(bD (H:=H4) (l:=[i2,i3,i8,i9,i10]) (show i3∈ [i2,i3,i8,i9,i10] by simp)).trans c3
 have p8:=(bD (H:=H4) (l:=[i2,i3,i8,i9,i10]) (show i8∈ [i2,i3,i8,i9,i10] by simp)).trans c8
 have p9:=(bD (H:=H4) (l:=[i2,i3,i8,i9,i10]) (show i9∈ [i2,i3,i8,i9,i10] by simp)).trans c9
 have p10:=(bD (H:=H4) (l:=[i2,i3,i8,i9,i10]) (show i10∈ [i2,i3,i8,i9,i10] by simp)).trans k10
 have t4:pick H4 [i2,i3,i8,i9,i10] i4=none:=by simp[pick,n4_2,n4_3,n8_4.symm,n9_4.symm,n10_4.symm]
 have t5:pick H4 [i2,i3,i8,i9,i10] i5=none:=by simp[pick,n5_2,n5_3,n8_5.symm,n9_5.symm,n10_5.symm]
 have t6:pick H4 [i2,i3,i8,i9,i10] i6=none:=by simp[pick,n6_2,n6_3,n8_6.symm,n9_6.symm,n10_6.symm]
 refine .one hU hm ?_;simp only[go_sem];refine .calls (pick H4 [i2,i3,i8,i9,i10]) [0,1,2,3,4,5,6,7,8,9,10,11,12,13,14,15] bB acO rfl ?_;simp only[go_sem,r2,r3,r4,r5,r6,r8,r9,r10,p2,p3,p8,p9,p10,c4,c5,c6,n5_4,n5_4.symm,n6_4,n6_4.symm,n6_5,n6_5.symm];refine⟨bB.put t4 _,(bB.put t4 _).put t5 _,((bB.put t4 _).put t5 _).put t6 _,?_⟩;refine .mk _ (.refl _) (.refl _) ⟨((sg4.put q4 _).put q5 _).put q6 _,_,?_,rfl⟩;rw[hgd,←qV hpd];exact AB (S:=cW s o) ⟨if dn=true then 0 else 12,m,gl,if(dn && o.kind==2 && !jR ob o.field)=true then eO (bz s.cases o.case).fields o.field else an,dn && o.kind==2 && jR ob o.field,0⟩ ⟨o,s.version,m,gl,ob⟩ 0 (by
  rw[qV hpd];exact hfz _ fun q hq=>by
   have x6:q≠i6:=fun e=>by rw[e,b6]at hq;cases hq
   have x5:q≠i5:=fun e=>by rw[e,b5]at hq;cases hq
   have x4:q≠i4:=fun e=>by rw[e,b4]at hq;cases hq
   rw[ag _ _ x6,ag _ _ x5,ag _ _ x4]) .no
end Go.Proofs.YteaaeelhjnhaaaaGreatDoor
namespace Go.Ab
open Go
theorem MO(n:Nat)(hn:n<18446744073709551616):IntKind.u64.wrap (n:Int)=n:=PN .u64 n rfl agq
theorem Vm(n):IntKind.u64.wrap n=((n % 18446744073709551616).toNat:Int):=by grind [Int.emod_nonneg,Int,IntKind.wrap,IntKind.signed,IntKind.bits]
theorem PR(n:Nat):IntKind.u64.wrap (n:Int)=((n % 18446744073709551616:Nat):Int):=by rfl
theorem EJ(a b:Nat)(f:BitVec 64→BitVec 64→BitVec 64):IntKind.u64.wrap (((f (BitVec.ofInt IntKind.u64.bits (a:Int)) (BitVec.ofInt IntKind.u64.bits (b:Int))).toNat:Nat):Int)=((f (BitVec.ofNat 64 a) (BitVec.ofNat 64 b)).toNat:Int):=by exact MO _ (f _ _).isLt
theorem Oh(a b k)(ha:a<2 ^ k)(hlt:a+b*2 ^ k<18446744073709551616):(BitVec.ofNat 64 a|||BitVec.ofNat 64 (b*2 ^ k)).toNat=a+b*2 ^ k:=by exact ahD
theorem N9(n)(hn:n<18446744073709551616):(BitVec.ofNat 64 18446744073709551615 ^^^ BitVec.ofNat 64 n).toNat=18446744073709551615 - n:=by
 have e:BitVec.ofNat 64 18446744073709551615 ^^^ BitVec.ofNat 64 n= ~~~ BitVec.ofNat 64 n:=by rfl
 rw[e,BitVec.toNat_not,BitVec.toNat_ofNat,Nat.mod_eq_of_lt acK]
section
variable {U : TypeId → TI} {ty : TypeId} {K : AV → Prop}
@[go_sem high] theorem Wy(n:Nat)(hn:n<18446744073709551616):unA .xor (.v (.int .u64 (n:Int))) K=K (.v (.int .u64 ((18446744073709551615 - n:Nat):Int))):=by
 have h:=(EJ 18446744073709551615 n (· ^^^ ·)).trans (congrArg (fun z:Nat=>(z:Int)) (N9 n hn))
 exact(Ce ..).trans (congrArg (fun z=>K (.v (.int .u64 z))) h)
@[go_sem high] theorem V7(n)(h1: -9223372036854775808≤n)(h2:n≤9223372036854775807):unA .xor (.i n) K=K (.i (-n - 1)):=by
 have e:(BitVec.ofInt 64 (-1) ^^^ BitVec.ofInt 64 n)= ~~~ BitVec.ofInt 64 n:=by rfl
 have e2:(((BitVec.ofInt 64 (-1) ^^^ BitVec.ofInt 64 n).toNat:Nat):Int)=(-n - 1) % 18446744073709551616:=by grind [BitVec.toNat_not,BitVec.ofInt,BitVec.toNat_ofInt]
 have h:IntKind.i64.wrap (((BitVec.ofInt 64 (-1) ^^^ BitVec.ofInt 64 n).toNat:Nat):Int)= -n - 1:=by grind [IntKind.wrap,IntKind.signed,IntKind.bits]
 exact(Ce ..).trans (congrArg (fun z=>K (.i z)) h)
theorem u64_and(n k:Nat)(hn:n<18446744073709551616)(hk:k≤63):cy U .and ty (.v (.int .u64 (n:Int))) (.v (.int .u64 ((2 ^ k - 1:Nat):Int))) K=K (.v (.int .u64 ((n % 2 ^ k:Nat):Int))):=by
 have h63:2 ^ k≤2 ^ 63:=Nat.pow_le_pow_right acN hk;have e:(BitVec.ofNat 64 n &&& BitVec.ofNat 64 (2 ^ k - 1)).toNat=n % 2 ^ k:=by grind [BitVec.toNat_and,BitVec.toNat_ofNat,Nat.mod_eq_of_lt,Nat.and_two_pow_sub_one_eq_mod]
 have h:=(EJ n (2 ^ k - 1) (· &&& ·)).trans (congrArg (fun z:Nat=>(z:Int)) e)
 exact(Ki ..).trans (congrArg (fun z=>K (.v (.int .u64 z))) h)
@[go_sem high] theorem u64_or(a b k:Nat)(ha:a<2 ^ k)(hlt:a+b*2 ^ k<18446744073709551616):cy U .or ty (.v (.int .u64 (a:Int))) (.v (.int .u64 ((b*2 ^ k:Nat):Int))) K=K (.v (.int .u64 ((a+b*2 ^ k:Nat):Int))):=by
 have h:=(EJ a (b*2 ^ k) (· ||| ·)).trans (congrArg (fun z:Nat=>(z:Int)) (Oh a b k ha hlt))
 exact(Qo ..).trans (congrArg (fun z=>K (.v (.int .u64 z))) h)
theorem wY(n k:Nat)(kk)(hk:k≤63):cy U .shr ty (.v (.int .u64 (n:Int))) (.v (.int kk (k:Int))) K=K (.v (.int .u64 ((n / 2 ^ k:Nat):Int))):=by grind [Kj,min,Int,IntKind.bits,Int.fdiv_eq_ediv_of_nonneg,Int.le_of_lt,Int.pow_pos]
@[go_sem high] theorem OL(n k:Nat)(kk)(hk:k≤63):cy U .shl ty (.v (.int .u64 (n:Int))) (.v (.int kk (k:Int))) K=K (.v (.int .u64 ((n*2 ^ k % 18446744073709551616:Nat):Int))):=by
 rw[O6];have:min (k:Int).toNat IntKind.u64.bits=k:=agq;rw[this,show((n:Int)*2 ^ k)=((n*2 ^ k:Nat):Int) by simp,PR]
 exact propext ⟨fun h=>h.2,fun h=>⟨Int.natCast_nonneg k,h⟩⟩
@[go_sem high] theorem U6(m:Nat):cy U .shl ty (.v (.int .u64 (m:Int))) (.v (.int .u64 1)) K=K (.v (.int .u64 ((m*2 % 18446744073709551616:Nat):Int))):=OL m 1 .u64 acN
@[go_sem high] theorem U7(m:Nat):cy U .shr ty (.v (.int .u64 (m:Int))) (.v (.int .u64 1)) K=K (.v (.int .u64 ((m / 2:Nat):Int))):=wY m 1 .u64 acN
@[go_sem high] theorem U8(m:Nat):cy U .shr ty (.v (.int .u64 (m:Int))) (.v (.int .u64 7)) K=K (.v (.int .u64 ((m / 128:Nat):Int))):=wY m 7 .u64 acN
@[go_sem high] theorem U9(m:Nat):cy U .shr ty (.v (.int .u64 (m:Int))) (.v (.int .u64 8)) K=K (.v (.int .u64 ((m / 256:Nat):Int))):=wY m 8 .u64 acN
@[go_sem high] theorem U5(m:Nat)(hm:m<18446744073709551616):cy U .and ty (.v (.int .u64 (m:Int))) (.v (.int .u64 1)) K=K (.v (.int .u64 ((m % 2:Nat):Int))):=u64_and m 1 hm acN
@[go_sem high] theorem RZ(m:Nat)(hm:m<18446744073709551616):cy U .and ty (.v (.int .u64 (m:Int))) (.v (.int .u64 127)) K=K (.v (.int .u64 ((m % 128:Nat):Int))):=u64_and m 7 hm acN
@[go_sem high] theorem R0(m:Nat)(hm:m<18446744073709551616):cy U .and ty (.v (.int .u64 (m:Int))) (.v (.int .u64 255)) K=K (.v (.int .u64 ((m % 256:Nat):Int))):=u64_and m 8 hm acN
@[go_sem high] theorem JK(m:Nat)(hm:m<128):cy U .or ty (.v (.int .u64 (m:Int))) (.v (.int .u64 128)) K=K (.v (.int .u64 ((m+128:Nat):Int))):=u64_or m 1 7 hm acK
theorem wu8(n:Nat):IntKind.u8.wrap (n:Int)=((UInt8.ofNat n).toNat:Int):=by rfl
@[go_sem high] theorem Te(c:UInt8):cy U .and ty (.v (.int .u8 (c.toNat:Int))) (.v (.int .u8 127)) K=K (.v (.int .u8 ((c.toNat % 128:Nat):Int))):=by
 have hc:=c.toNat_lt;have e:(BitVec.ofNat 8 c.toNat &&& BitVec.ofNat 8 127).toNat=c.toNat % 128:=by rw[BitVec.toNat_and,BitVec.toNat_ofNat,BitVec.toNat_ofNat,Nat.mod_eq_of_lt acK,Nat.mod_eq_of_lt acK];exact Nat.and_two_pow_sub_one_eq_mod c.toNat 7
 have h:IntKind.u8.wrap (((BitVec.ofInt IntKind.u8.bits (c.toNat:Int) &&& BitVec.ofInt IntKind.u8.bits 127).toNat:Nat):Int)=((c.toNat % 128:Nat):Int):=by grind [IntKind.wrap,IntKind.signed,IntKind.bits]
 exact(Ki ..).trans (congrArg (fun z=>K (.v (.int .u8 z))) h)
end
end Go.Ab
namespace Go.Proofs.YteaaeelhjnhaaaaGreatDoor
open Go Go.Ab Go.Bf Tryz
variable {g h h0:Heap}{y R:AV}{l:Txt}{f:FuncId}{args:List AV}{Q:AV→Heap→Prop}{s s':RS}{a:Nat}{lo hi most:Int}
abbrev fE(h h' :Heap)(y:AV)(l:Txt):Prop:=Acc U 5 h h' y (l.map aI)
theorem u5n:(U 5).sz≠0:=acN
theorem U4:(U 5).bytes≠0:=acN
theorem fE.frz(ha:fE g h y l):Frz g h y (.sl (l.map aI) .no):=by
 obtain⟨q,rfl⟩:=Acc.row ha;refine .sl _ _ _ rfl acK fun i h1 h2 j h3 h4=> .keep _ ?_
 simp only[acB,aI,AV.cells,List.getElem_singleton];exact ae3
theorem fE.pure(hf:∀g,Ab.Sub h g→ai prog f args g fun r h' =>fE g h' r l):ai prog f args h fun r h' =>r= .sl (l.map aI) .no∧h' =h:=
 ai.freeze fun g hg _=>(hf g hg).mono fun r h' hr=>⟨hr.1,_,fE.frz hr,rfl⟩
theorem fE.app{v:AV}{m:Txt}(ha:fE g h y l)(hsrc:∀k:List AV→Prop,k (m.map aI)→gX U 5 h v k)(hlen:l.length+m.length≤140737488355328)
  (hk:∀y' h',fE g h' y' (l++m)→Q y' h'):apK U h y v Q (.slice 5):=
 Acc.app ha u5n U4 hsrc (by grind [u5,gu]) (by grind [u5,gu]) (by grind [OK]) fun y' h' hy _=>hk y' h' acL
theorem Ak(y:AV)(l:Txt)(h:Heap)(hb:By h y l)(hl:l.length≤140737488355328):
  ai prog 43 [y] h fun r h' =>fE h h' r l:=by
 refine acJ func43 8 [.tmp 2] fun hwf=>?_
 simp only[go_sem];refine hb.UK fun b hbn=>?_
 simp only[go_sem];refine oe.intro (fun e=>?_) (fun e=>?_)
 ·have hl0:l= []:=Classical.byContradiction fun hh=>by grind
  subst hl0;simp only[go_sem];exact .same (.refl _) (Acc.full (.refl _))
 ·simp only[go_sem]
  rw[hb.src u5];simp only[go_sem];refine⟨acK,fun hn=>?_,fun hn=>?_⟩
  ·have hl0:l= []:=by simp_all
   subst hl0;simp only[go_sem];exact .same (.refl _) (Acc.full (.refl _))
  ·refine .own fun id hid=>?_
   simp only[go_sem];exact .same (.refl _) ⟨(Ab.Sub.refl h).new hid _,.inr ⟨id,hid,rfl,by rw[ah,u5,acA]⟩⟩
theorem MR(n:Int)(hn:i64 n):∃m:Nat,IntKind.u64.wrap n=(m:Int)∧m<18446744073709551616∧(0≤n→m*2 % 18446744073709551616=zig n)∧(n<0→18446744073709551615 - m*2 % 18446744073709551616=zig n):=by
 unfold i64 at hn;refine⟨(n % 18446744073709551616).toNat,Vm n,acK,fun h=>?_,fun h=>?_⟩<;>unfold zig
 ·grind
 grind
theorem GX(y:AV)(l:Txt)(n:Int)(h:Heap)(hb:By h y l)(hl:l.length≤1000000)(hn:i64 n):
  ai prog 28 [y,.i n] h fun r h' =>fE h h' r (l++dP n):=by
 obtain⟨m,hm0,hm2,hm3,hm4⟩:=MR n hn;have hz:=zz hn;have hz64:=zA hn;refine ai.of_wp hU func28 rfl acY 32 rfl [.tmp 4] rfl (acz rfl) ?_;refine .cut (fun ρ g=>g=h∧lk ρ 0=some y∧lk ρ 1=some (.i n)) (.vc hU hm ?_) ?_
 ·simp only[go_sem]
  refine⟨rfl,?_,?_⟩<;>simp only[go_sem]
 rintro ρ g ⟨rfl,r0,r1⟩
 refine .cut (fun ρ g' =>g' =g∧lk ρ 0=some y∧lk ρ 1=some (.i n)∧lk ρ 5=some (.v (.int .u64 ((m*2 % 18446744073709551616:Nat):Int)))) (.vc hU hm ?_) ?_
 ·simp only[go_sem,r0,r1,hm0]
  refine⟨rfl,?_,?_,?_⟩<;>simp only[go_sem,r0,r1]
 clear r0 r1
 rintro ρ g' ⟨rfl,r0,r1,r5⟩
 refine .cut (fun ρ g=>g=g'∧lk ρ 0=some y∧lk ρ 5=some (.v (.int .u64 ((zig n:Nat):Int)))) (.vc hU hm ?_) ?_
 ·cases d1:decide (n<0)
  ·have h0:=acD d1
   simp only[go_sem,r0,r1,r5,d1,hm3 acK];rw[←hm3 acK]at*;refine⟨rfl,?_,?_⟩<;>simp only[go_sem,r0,r5]
  ·have h0:=acC d1
   simp only[go_sem,r0,r1,r5,d1,hm4 h0,show m*2 % 18446744073709551616<18446744073709551616 from acK]
   refine⟨rfl,?_,?_⟩<;>simp only[go_sem,r0]
 clear r0 r1 r5 hm3 hm4
 rintro ρ g ⟨rfl,r0,r5⟩
 refine .vc hU hm ?_;simp only[go_sem,r0,r5];refine(Ak y l g hb acK).mono fun r h1 ha=>?_
 simp only[go_sem,r0,r5];refine .intro (fun k ρ h' =>∃(v:Nat) (o:Txt) (z:AV),fE g h' z (l++o)∧o++jh k v=dP n∧v<128 ^ k∧v<18446744073709551616∧0<k∧o.length≤10∧lk ρ 5=some (.v (.int .u64 (v:Int)))∧lk ρ 6=some z) 10 ?_ ?_
 ·refine⟨zig n,[],r,acL,rfl,hz,hz64,acN,acS,?_,?_⟩<;>simp only[go_sem,r5]
 clear r0 r5
 rintro k ρ h' ⟨v,o,z,ha,ho,hv,hv64,hk,hol,r5,r6⟩
 obtain⟨k,rfl⟩:∃j,k=j+1:=⟨k - 1,acK⟩;have hlo:=congrArg List.length ho;rw[acE]at hlo;have hnl:=fT n;cases d1:decide ((128:Int)≤(v:Int))
 ·have h0:=acD d1
  have e:jh (k+1) v= [UInt8.ofNat v]:=by unfold jh;grind
  simp only[go_sem,r5,r6,d1,wu8];refine fE.app ha (m:=[UInt8.ofNat v]) (fun _ hk=>hk) acL fun z' h2 ha' =>?_
  simp only[go_sem];refine .same (.refl _) ?_;rw[←ho,e,←List.append_assoc];exact ha'
 ·have h0:=acC d1
  have e:jh (k+1) v=UInt8.ofNat (v % 128+128)::jh k (v / 128):=by conv=>lhs;unfold jh;rw[if_neg acK]
  rw[e]at hlo ho;simp only[List.length_cons]at hlo;have hk1:0<k:=by grind
  simp only[go_sem,r5,r6,d1,hv64,JK _ (Nat.mod_lt v (show 128>0 by decide)),wu8]
  refine fE.app ha (m:=[UInt8.ofNat (v % 128+128)]) (fun _ hk=>hk) acL fun z' h2 ha' =>?_
  simp only[go_sem,r5];refine⟨k,acK,v / 128,o++ [UInt8.ofNat (v % 128+128)],z',?_,?_,?_,acK,hk1,?_,?_,?_⟩
  ·grind
  ·grind
  ·omega
  ·grind
  ·rfl
  rfl
theorem BZ(y:AV)(l:Txt)(n:Int)(h:Heap)(hb:By h y l)(hl:l.length≤1000000)(hn:i64 n):
  ai prog 28 [y,.i n] h fun r h' =>r= .sl ((l++dP n).map aI) .no∧h' =h:=
 fE.pure fun g hg=>GX y l n g (hb.sub hg) hl hn
theorem Mt(y:AV)(l s:Txt)(h:Heap)(hb:By h y l)(hl:l.length≤1000000)(hs:s.length≤1000000):
  ai prog 29 [y,.s s] h fun r h' =>fE h h' r (l++bN s):=by
 have hn:i64 (s.length:Int):=⟨acK,acK⟩;refine acJ func29 11 [.tmp 4] fun hwf=>?_
 simp only[go_sem];refine(GX y l s.length h hb hl hn).mono fun r h' ha=>?_
 simp only[go_sem];have hnl:=fT s.length;refine fE.app ha (m:=s) (fun _ hk=>(Mk ..).mpr ⟨acY,u5,hk⟩) acL fun z' h2 ha' =>?_
 simp only[go_sem];refine .same (.refl _) ?_;unfold bN;rw[←List.append_assoc];exact ha'
theorem wX(y:AV)(l s:Txt)(h:Heap)(hb:By h y l)(hl:l.length≤1000000)(hs:s.length≤1000000):
  ai prog 29 [y,.s s] h fun r h' =>r= .sl ((l++bN s).map aI) .no∧h' =h:=
 fE.pure fun g hg=>Mt y l s g (hb.sub hg) hl hs
theorem Ho(y:AV)(l:Txt)(v:bt)(h:Heap)(hb:By h y l)(hl:l.length≤900000)(hk:i64 v.kind)(hn:i64 v.n)(hs:v.s.length≤1000000):
  ai prog 30 [y,aP v] h fun r h' =>r= .sl ((l++gr v).map aI) .no∧h' =h:=by
 have hnl:=fT v.kind;have hl2:(l++dP v.kind).length≤1000000:=acL;refine acJ func30 20 [.tmp 4] fun hwf=>?_
 simp only[go_sem,aP];intro id hid;simp only[go_sem];refine(BZ y l v.kind _ (hb.new hid) acK hk).pthen ?_;simp only[go_sem];refine(zn v.kind _).pthen ?_;simp only[go_sem];cases d1:(v.kind==3||v.kind==5)
 ·have e:¬(v.kind=3∨v.kind=5):=by grind
  simp only[go_sem];refine(BZ (.sl ((l++dP v.kind).map aI) .no) (l++dP v.kind) v.n _ (.sl _ _) hl2 hn).pthen ?_;simp only[go_sem];refine .mk _ (.refl _) (.aj hid) ⟨?_,rfl⟩;unfold gr;rw[if_neg e,List.append_assoc];rfl
 ·have e:v.kind=3∨v.kind=5:=by grind
  simp only[go_sem];refine(wX (.sl ((l++dP v.kind).map aI) .no) (l++dP v.kind) v.s _ (.sl _ _) hl2 hs).pthen ?_;simp only[go_sem];refine .mk _ (.refl _) (.aj hid) ⟨?_,rfl⟩;unfold gr;rw[if_pos e,List.append_assoc];rfl
theorem Em(b:Bool)(h:Heap):ai prog 20 [.b b] h fun r h' =>r=aP (cE b)∧h' =h:=by
 refine acJ func20 8 [.cell 2 23] fun hwf=>?_
 simp only[go_sem];intro i1 h1;simp only[go_sem];intro i2 h2;have hne:=aH h2;have n2:=aB h2;cases b
 ·exact aic
 ·exact aic
def RO(s:RS):Blk:=.obj [.sl (s.b.map aI) .no,.i (s.at_:Int),.b s.bad] 76
def WfR(s:RS):Prop:=s.at_≤s.b.length∧s.b.length≤1000000
def RC(f:FuncId)(args:List AV)(s:RS)(R:AV)(s' :RS):Prop:=∀(h:Heap) (id:Nat),h id=some (RO s)→ai prog f (.ptr id 0::args) h fun r h' =>r=R∧h' =upd h id (some (RO s'))
theorem RC.go(hc:RC f args s R s'){id:Nat}(hid:h id=some (RO s))(k:Q R (upd h id (some (RO s')))):ai prog f (.ptr id 0::args) h Q:=
 (hc h id hid).mono fun r h' ⟨e1,e2⟩=>aeP
theorem yS(h:WfR s):WfR (fk s a):=by
 unfold fk;split
 ·rename_i hc
  exact⟨by have:=h.1;show a≤s.b.length;omega,h.2⟩
 omega
theorem yT:∀(f i u:Nat) (l:Txt),(iU f i u l).2≤i+l.length∧((iU f i u l).2=0∨i<(iU f i u l).2)
 |0,_,_,_=>⟨Nat.zero_le _,.inl rfl⟩
 |_+1,_,_,[]=>⟨Nat.zero_le _,.inl rfl⟩
 |f+1,i,u,c::r=>by
  unfold iU;split
  ·omega
  ·split
   ·simp
   ·obtain⟨h1,h2⟩:=yT f (i+1) (u+c.toNat % 128*128 ^ i) r
    grind
theorem iT(h:WfR s):WfR (rIn s lo hi).2:=by
 unfold rIn;split
 ·exact h
 ·simp only
  split
  ·exact yS h
  ·have:=(yT 10 0 0 (s.b.drop s.at_)).1
   exact⟨acL,h.2⟩
theorem oO(s:RS)(a:Nat):RC 45 [.i (a:Int)] s (.tup []) (fk s a):=fun h id hid=>by
 refine acJ func45 28 [] fun hwf=>?_
 have g:=hid;have d0:decide ((0:Int)≤(a:Int))=true:=decide_eq_true acK;unfold RO at g;cases d1:s.bad
 ·rw[d1]at g
  cases d2:decide ((a:Int)≤(s.at_:Int))
  ·have h2:=acD d2
   simp only[go_sem,g,d0,d2];exact .mk _ (.refl _) (.refl _) ⟨rfl,by simp_all [fk,if_neg,bl]⟩
  ·have h2:=acC d2
   simp only[go_sem,g,d0,d2];exact .mk _ (.refl _) (.refl _) ⟨rfl,by rw[fk,if_pos ⟨d1,acK⟩];rfl⟩
 ·rw[d1]at g
  simp only[go_sem,g];exact .mk _ (.refl _) (.refl _) ⟨rfl,by simp_all [fk,if_neg,bl]⟩
theorem Kg(s:RS):RC 46 [] s (.i (s.at_:Int)) s:=fun h id hid=>by
 refine acJ func46 7 [.tmp 2] fun hwf=>?_
 have g:=hid;unfold RO at g;simp only[go_sem,g];exact aet
theorem zx(s:RS):RC 48 [] s (.i (if s.bad then 7 else 0)) s:=fun h id hid=>by
 refine acJ func48 7 [.tmp 2] fun hwf=>?_
 have g:=hid;unfold RO at g;cases d1:s.bad<;>rw[d1]at g<;>simp only[go_sem,g]<;>exact .mk _ (.refl _) (.refl _) ⟨rfl,(bl hid).symm⟩
theorem QT(s:RS):RC 21 [] s (.i (if nW s then 0 else 7)) s:=fun h id hid=>by
 refine acJ func21 15 [.tmp 2] fun hwf=>?_
 have g:=hid;unfold RO at g;cases d1:decide ((s.at_:Int)<(s.b.length:Int))
 ·have h1:=acD d1
  simp only[go_sem,g,acA,d1];refine⟨.of acO,?_⟩;refine(zx s).go hid ?_;rw[bl hid];simp only[go_sem];refine .mk _ (.refl _) (.refl _) ⟨?_,rfl⟩;unfold nW;rw[decide_eq_true (show s.b.length≤s.at_ by omega)]
  cases s.bad<;>rfl
 ·have h1:=acC d1
  simp only[go_sem,g,acA,d1];refine⟨.of acO,?_⟩;refine .mk _ (.refl _) (.refl _) ⟨?_,(bl hid).symm⟩;unfold nW;rw[decide_eq_false (show¬s.b.length≤s.at_ by omega)]
  rfl
theorem Ot(y:AV)(l:Txt)(h:Heap)(hb:By h y l)(hl:l.length≤1000000):
  ai prog 15 [y] h fun r h' =>∃id,h id=none∧r= .ptr id 0∧h' =upd h id (some (RO ⟨l,0,false⟩)):=by
 refine acJ func15 7 [.tmp 2] fun hwf=>?_
 simp only[go_sem];refine(fE.pure fun g hg=>Ak y l g (hb.sub hg) acK).pthen ?_
 simp only[go_sem];intro id hid;simp only[go_sem];exact .mk _ (.refl _) (.refl _) ⟨id,hid,rfl,rfl⟩
theorem Ja(s:RS)(hw:WfR s)(h:Heap)(id:Nat)(hid:h id=some (RO s)):
  ai prog 64 [.ptr id 0] h fun r h' =>r= .tup [.v (.int .i64 (iU 10 0 0 (s.b.drop s.at_)).1),.i ((iU 10 0 0 (s.b.drop s.at_)).2:Nat)]∧h' =h:=by
 refine acJ func64 74 [.tmp 2,.tmp 3] fun hwf=>?_
 have hw1:=hw.1;have hw2:=hw.2;have g:=hid;unfold RO at g;simp only[go_sem];generalize hx:iU 10 0 0 (s.b.drop s.at_)=x;refine .intro (fun k ρ h' =>h' =h∧∃(i u:Nat),k+i=10∧iU k i u (s.b.drop (s.at_+i))=x∧u<128 ^ i∧lk ρ 0=some (.ptr id 0)∧lk ρ 4=some (.v (.int .u64 (u:Int)))∧lk ρ 5=some (.i (i:Int))) 10 ?_ ?_
 ·refine⟨rfl,0,0,rfl,hx,acN,?_,?_,?_⟩<;>simp only[go_sem]
  all_goals rfl
 rintro k ρ h' ⟨rfl,i,u,hki,hr,hu,r0,r4,r5⟩
 rcases k with _|k
 ·have d1:decide ((i:Int)<10)=false:=decide_eq_false acK
  simp only[go_sem,r0,r4,r5,d1];exact⟨.of acO,.mk _ (.refl _) (.refl _) ⟨aeH,rfl⟩⟩
 have d1:decide ((i:Int)<10)=true:=decide_eq_true acK;have w1:IntKind.i64.wrap ((s.at_:Int)+(i:Int))=((s.at_+i:Nat):Int):=ac4;have w2:=acG i acK
 by_cases hc:s.at_+i<s.b.length
 case neg=>have d2:decide (((s.at_+i:Nat):Int)<(s.b.length:Int))=false:=decide_eq_false acK;simp only[go_sem,r0,r4,r5,d1,g,w1,acA,d2];rw[List.drop_eq_nil_of_le acK]at hr;exact⟨.of acO,.mk _ (.refl _) (.refl _) ⟨aeH,rfl⟩⟩
 have d2:decide (((s.at_+i:Nat):Int)<(s.b.length:Int))=true:=decide_eq_true acK;rw[List.drop_eq_getElem_cons hc]at hr;generalize hcc:s.b[s.at_+i]=c at hr;simp only[go_sem,r0,r4,r5,d1,g,w1,acA,d2];refine⟨.of acO,.of acO,?_⟩;refine .at (s.at_+i) (by simpa using hc) acZ ?_
 simp only[go_sem,r0,r4,r5,acB,hcc,aI];have hclt:=c.toNat_lt;have pw:(2:Nat) ^ (7*i)=128 ^ i:=by rw[Nat.pow_mul]
 have p9:(128:Nat) ^ 9=9223372036854775808:=acN;unfold iU at hr
 by_cases hb:(i=9∧1<c.toNat)∨(0<i∧c.toNat=0)
 ·rw[if_pos hb]at hr
  by_cases h9:i=9∧1<c.toNat
  ·have d3:((i:Int)==9)=true:=by simp;omega
   have d4:decide ((1:Int)<(c.toNat:Int))=true:=decide_eq_true acK;simp only[go_sem,r0,r4,r5,d3,d4];exact .mk _ (.refl _) (.refl _) ⟨aeH,rfl⟩
  ·have hb:0<i∧c.toNat=0:=by omega
   have d4:decide ((1:Int)<(c.toNat:Int))=false:=decide_eq_false acK;have d5:decide ((0:Int)<(i:Int))=true:=decide_eq_true acK;have d6:((c.toNat:Int)==0)=true:=ade;cases d3:((i:Int)==9)<;>simp only[go_sem,r0,r4,r5,d3,d4,d5,d6]<;>exact .mk _ (.refl _) (.refl _) ⟨aeH,rfl⟩
 rw[if_neg hb]at hr;have hi9:i≤9:=acK;have hle:c.toNat % 128*128 ^ i+u<18446744073709551616:=by exact ahr
 have w3:IntKind.u64.wrap ((c.toNat % 128:Nat):Int)=((c.toNat % 128:Nat):Int):=MO _ acK;have w4:IntKind.i64.wrap ((7:Int)*(i:Int))=((7*i:Nat):Int):=ac4;have w5:IntKind.u64.wrap ((7*i:Nat):Int)=((7*i:Nat):Int):=MO _ acK;have h63:7*i≤63:=acK;have hu' :u<2 ^ (7*i):=by rw[pw];exact hu
 have hor:u+c.toNat % 128*2 ^ (7*i)<18446744073709551616:=by rw[pw];omega
 have wS:c.toNat % 128*2 ^ (7*i) % 18446744073709551616=c.toNat % 128*2 ^ (7*i):=Nat.mod_eq_of_lt acK;have three:(i=9∧c.toNat≤1∧c.toNat≠0)∨(i<9∧0<i∧c.toNat≠0)∨i=0:=acK;cases d7:decide ((c.toNat:Int)<128)
 ·have h7:=acD d7
  rw[if_neg acK]at hr;have hnew:u+c.toNat % 128*2 ^ (7*i)<128 ^ (i+1):=by rw[pw,Nat.pow_succ];exact ahs
  rw[←pw,Nat.add_assoc]at hr;generalize hU' :u+c.toNat % 128*2 ^ (7*i)=u' at hr hnew hor;rcases three with⟨t1,t2,t3⟩|⟨t1,t2,t3⟩|t1
  ·have d3:((i:Int)==9)=true:=by simp;omega
   have d4:decide ((1:Int)<(c.toNat:Int))=false:=decide_eq_false acK;have d5:decide ((0:Int)<(i:Int))=true:=decide_eq_true acK;have d6:((c.toNat:Int)==0)=false:=ade;simp only[go_sem,r0,r4,r5,d3,d4,d5,d6,w3,w4,w5,h63,wS,hu',hU',hor,d7,w2];refine⟨k,acK,rfl,i+1,u',acK,hr,hnew,?_,?_,?_⟩<;>simp only[go_sem,r0]
  ·have d3:((i:Int)==9)=false:=by simp;omega
   have d5:decide ((0:Int)<(i:Int))=true:=decide_eq_true acK;have d6:((c.toNat:Int)==0)=false:=ade;simp only[go_sem,r0,r4,r5,d3,d5,d6,w3,w4,w5,h63,wS,hu',hU',hor,d7,w2];refine⟨k,acK,rfl,i+1,u',acK,hr,hnew,?_,?_,?_⟩<;>simp only[go_sem,r0]
  ·have d3:((i:Int)==9)=false:=by simp;omega
   have d5:decide ((0:Int)<(i:Int))=false:=decide_eq_false acK;simp only[go_sem,r0,r4,r5,d3,d5,w3,w4,w5,h63,wS,hu',hU',hor,d7,w2];refine⟨k,acK,rfl,i+1,u',acK,hr,hnew,?_,?_,?_⟩<;>simp only[go_sem,r0]
 ·have h7:=acC d7
  rw[if_pos acK]at hr;have ec:c.toNat % 128=c.toNat:=acK;rw[←pw]at hr;have hU0:u+c.toNat*2 ^ (7*i)=u+c.toNat % 128*2 ^ (7*i):=by rw[ec]
  rw[hU0]at hr;generalize hU' :u+c.toNat % 128*2 ^ (7*i)=u' at hr hor;have w6:IntKind.i64.wrap ((u' / 2:Nat):Int)=((u' / 2:Nat):Int):=aY _ acK;have b1:(-9223372036854775808:Int)≤((u' / 2:Nat):Int):=acK;have b2:((u' / 2:Nat):Int)≤9223372036854775807:=acK;have un:unzig u' =if u' % 2=1 then -((u' / 2:Nat):Int) - 1 else((u' / 2:Nat):Int):=rfl
  cases d8:(((u' % 2:Nat):Int)==1)
  ·have h8:¬u' % 2=1:=by intro hh;rw[hh]at d8;cases d8
   rw[if_neg h8]at un;rw[un]at hr;rcases three with⟨t1,t2,t3⟩|⟨t1,t2,t3⟩|t1
   ·have d3:((i:Int)==9)=true:=by simp;omega
    have d4:decide ((1:Int)<(c.toNat:Int))=false:=decide_eq_false acK;have d5:decide ((0:Int)<(i:Int))=true:=decide_eq_true acK;have d6:((c.toNat:Int)==0)=false:=ade;simp only[go_sem,r0,r4,r5,d3,d4,d5,d6,w3,w4,w5,h63,wS,hu',hU',hor,d7,w6,d8,w2];exact .mk _ (.refl _) (.refl _) ⟨aeH,rfl⟩
   ·have d3:((i:Int)==9)=false:=by simp;omega
    have d5:decide ((0:Int)<(i:Int))=true:=decide_eq_true acK;have d6:((c.toNat:Int)==0)=false:=ade;simp only[go_sem,r0,r4,r5,d3,d5,d6,w3,w4,w5,h63,wS,hu',hU',hor,d7,w6,d8,w2];exact .mk _ (.refl _) (.refl _) ⟨aeH,rfl⟩
   ·have d3:((i:Int)==9)=false:=by simp;omega
    have d5:decide ((0:Int)<(i:Int))=false:=decide_eq_false acK;simp only[go_sem,r0,r4,r5,d3,d5,w3,w4,w5,h63,wS,hu',hU',hor,d7,w6,d8,w2];exact .mk _ (.refl _) (.refl _) ⟨aeH,rfl⟩
  ·have h8:u' % 2=1:=by have:=eq_of_beq d8;omega
   rw[if_pos h8]at un;rw[un]at hr;rcases three with⟨t1,t2,t3⟩|⟨t1,t2,t3⟩|t1
   ·have d3:((i:Int)==9)=true:=by simp;omega
    have d4:decide ((1:Int)<(c.toNat:Int))=false:=decide_eq_false acK;have d5:decide ((0:Int)<(i:Int))=true:=decide_eq_true acK;have d6:((c.toNat:Int)==0)=false:=ade;simp only[go_sem,r0,r4,r5,d3,d4,d5,d6,w3,w4,w5,h63,wS,hu',hU',hor,d7,w6,d8,b1,b2,w2];exact .mk _ (.refl _) (.refl _) ⟨aeH,rfl⟩
   ·have d3:((i:Int)==9)=false:=by simp;omega
    have d5:decide ((0:Int)<(i:Int))=true:=decide_eq_true acK;have d6:((c.toNat:Int)==0)=false:=ade;simp only[go_sem,r0,r4,r5,d3,d5,d6,w3,w4,w5,h63,wS,hu',hU',hor,d7,w6,d8,b1,b2,w2];exact .mk _ (.refl _) (.refl _) ⟨aeH,rfl⟩
   ·have d3:((i:Int)==9)=false:=by simp;omega
    have d5:decide ((0:Int)<(i:Int))=false:=decide_eq_false acK;simp only[go_sem,r0,r4,r5,d3,d5,w3,w4,w5,h63,wS,hu',hU',hor,d7,w6,d8,b1,b2,w2];exact .mk _ (.refl _) (.refl _) ⟨aeH,rfl⟩
theorem RC.step(hc:RC f args s R s'){id:Nat}(hid:h id=some (RO s))
  (k:∀h2,h2=upd h id (some (RO s'))→h2 id=some (RO s')→(∀b,upd h2 id b=upd h id b)→Q R h2):ai prog f (.ptr id 0::args) h Q:=
 hc.go hid (k _ rfl (ah ..) fun b=>by grind [ah,ag])
theorem Dc(s:RS)(hw:WfR s)(lo hi:Int):RC 44 [.i lo,.i hi] s (.v (.int .i64 (rIn s lo hi).1)) (rIn s lo hi).2:=fun h id hid=>by
 have hw1:=hw.1;have hw2:=hw.2;refine acJ func44 45 [.tmp 6] fun hwf=>?_
 have g:=hid;unfold RO at g;cases d1:s.bad
 case true=>rw[d1]at g;simp only[go_sem,g];exact .mk _ (.refl _) (.refl _) ⟨by rw[rIn,if_pos d1];rfl,by rw[rIn,if_pos d1,bl hid]⟩
 have e:rIn s lo hi=(let x:=iU 10 0 0 (s.b.drop s.at_);if x.2=0∨x.1<lo∨hi<x.1 then(0,fk s s.at_)else(x.1,{s with at_:=s.at_+x.2})):=by simp_all [rIn,if_neg]
 rw[d1]at g;simp only[go_sem,g];refine(Ja s hw h id hid).pthen ?_;have hlen:=(yT 10 0 0 (s.b.drop s.at_)).1;rw[List.length_drop]at hlen;generalize iU 10 0 0 (s.b.drop s.at_)=x at e hlen⊢;obtain⟨n,z⟩:=x;simp only at e hlen⊢
 by_cases hb:z=0∨n<lo∨hi<n
 ·rw[if_pos hb]at e
  rw[e];have fin:∀P:Prop,P→P:=fun _ p=>p
  rcases Decidable.em (z=0)with c1|c1
  ·have d2:((z:Int)==0)=true:=by grind
   simp only[go_sem,g,d2];refine(oO s s.at_).go hid ?_;exact aha
  have d2:((z:Int)==0)=false:=acL;rcases Decidable.em (n<lo)with c2|c2
  ·simp only[go_sem,g,d2,decide_eq_true c2]
   refine(oO s s.at_).go hid ?_;exact aha
  ·simp only[go_sem,g,d2,decide_eq_false c2,decide_eq_true (show hi<n by omega)]
   refine(oO s s.at_).go hid ?_;exact aha
 ·rw[if_neg hb]at e
  rw[e];have d2:((z:Int)==0)=false:=acL;have w1:IntKind.i64.wrap ((s.at_:Int)+(z:Int))=((s.at_+z:Nat):Int):=acX;simp only[go_sem,g,d2,decide_eq_false (show¬n<lo by omega),decide_eq_false (show¬hi<n by omega),w1]
  exact .mk _ (.refl _) (.refl _) ⟨rfl,by grind [RO]⟩
theorem Fm(s:RS)(hw:WfR s):RC 16 [] s (.v (.int .i64 (cj s).1)) (cj s).2:=fun h id hid=>by
 refine acJ func16 5 [.tmp 2] fun hwf=>?_
 simp only[go_sem];refine(Dc s hw _ _).go hid ?_;exact aha
theorem wN(hw:WfR s)(h0:lo≤0)(h1:0≤hi):lo≤(rIn s lo hi).1∧(rIn s lo hi).1≤hi:=by grind [rIn]
theorem dR(hw:WfR s)(hm:0≤most):WfR (aM s most).2:=by
 have h1:=iT (lo:=0) (hi:=most) hw;have h2:=wN (lo:=0) (hi:=most) hw (Int.le_refl 0) hm;unfold aM;simp only;split
 ·exact yS h1
 ·exact⟨acL,h1.2⟩
theorem pL(s:RS)(hw:WfR s)(most:Int)(hmo:0≤most):RC 17 [.i most] s (.s (aM s most).1) (aM s most).2:=fun h id hid=>by
 have hx:=iT (lo:=0) (hi:=most) hw;have hx2:=wN (lo:=0) (hi:=most) hw (Int.le_refl 0) hmo;refine acJ func17 59 [.tmp 4] fun hwf=>?_
 have g:=hid;unfold RO at g;simp only[go_sem,g];refine(Dc s hw 0 most).step hid ?_;have e:aM s most=(let x:=rIn s 0 most;if x.2.bad∨(x.2.b.length:Int) - x.2.at_<x.1 then([],fk x.2 s.at_)else((x.2.b.drop x.2.at_).take x.1.toNat,{x.2 with at_:=x.2.at_+x.1.toNat})):=rfl
 generalize rIn s 0 most=x at e hx hx2⊢;obtain⟨n,t⟩:=x;simp only at e hx hx2⊢;obtain⟨m,rfl⟩:=Int.eq_ofNat_of_zero_le hx2.1;have ht1:=hx.1;have ht2:=hx.2;intro h2 eh2 hid2 hup;have g2:=hid2;unfold RO at g2;have w1:IntKind.i64.wrap ((t.b.length:Int) - (t.at_:Int))=(t.b.length:Int) - (t.at_:Int):=aY _ acK;clear eh2 hid g
 by_cases hb:t.bad=true∨(t.b.length:Int) - t.at_<((m:Nat):Int)
 ·rw[if_pos hb]at e
  rw[e];cases d1:t.bad<;>rw[d1]at g2
  ·have hb:(t.b.length:Int) - t.at_<((m:Nat):Int):=by grind
   simp only[go_sem,g2,w1,acA,decide_eq_true hb];exact ahQ
  ·simp only[go_sem,g2]
   exact ahQ
 ·rw[if_neg hb]at e
  rw[e];have d1:t.bad=false:=by grind
  rw[d1]at g2;have hle:t.at_+m≤t.b.length:=acK;have w2:IntKind.i64.wrap ((t.at_:Int)+(m:Int))=((t.at_+m:Nat):Int):=acX;have w3:IntKind.i64.wrap (((t.at_+m:Nat):Int) - (m:Int))=(t.at_:Int):=acX;simp only[go_sem,g2,w1,acA,decide_eq_false (show¬(t.b.length:Int) - t.at_<((m:Nat):Int) by omega)]
  refine⟨.of acO,?_⟩;simp only[go_sem,g2,w2,w3,acA];exact⟨.of acO,acK,acK,acK,.mk _ (.refl _) (.refl _) ⟨by rw[show t.at_+m - t.at_=m by omega];rfl,by grind [RO]⟩⟩
structure RAt (h0:Heap) (id:Nat) (h:Heap) (s:RS):Prop where
 here:h id=some (RO s)
 sub:∀j b,j≠id→h0 j=some b→h j=some b
theorem RAt.start{id:Nat}(hid:h id=some (RO s)):RAt h id h s:=⟨hid,fun _ _ _ e=>e⟩
theorem RAt.fin{id:Nat}(hr:RAt h0 id h s):Ab.Sub (upd h0 id (some (RO s))) h:=fun j b e=>by exact aij
theorem RAt.ne{id i:Nat}(hr:RAt h0 id h s)(hi:h i=none):i≠id:=fun e=>by rw[e,hr.here]at hi;grind
theorem RAt.none{id i:Nat}(hr:RAt h0 id h s)(hi:h i=Option.none):h0 i=Option.none:=by exact aiG
theorem RAt.put{id i:Nat}{b:Option Blk}(hr:RAt h0 id h s)(hi:h0 i=Option.none)(hn:i≠id):RAt h0 id (upd h i b) s:=
 ⟨by rw[ag _ _ (Ne.symm hn)];exact hr.here,fun j c hj e=>by
  rw[ag _ _ fun e2=>acL]
  exact hr.sub j c hj e⟩
theorem RAt.step{id:Nat}(hr:RAt h0 id h s)(hc:RC f args s R s')(k:∀h2,RAt h0 id h2 s'→(∀j,j≠id→h2 j=h j)→Q R h2):ai prog f (.ptr id 0::args) h Q:=
 hc.go hr.here (k _ ⟨ah ..,fun j b hj e=>by rw[ag _ _ hj];exact hr.sub j b hj e⟩ fun j hj=>ag _ _ hj)
theorem wO(hw:WfR s):WfR (iC s).2:=by
 have h1:=iT (lo:=1) (hi:=5) hw;unfold iC;simp only;generalize rIn s 1 5=x at h1⊢;have h2:WfR (if ja x.1=true then((⟨x.1,0,(aM x.2 64).1⟩,(aM x.2 64).2):bt×RS)else(⟨x.1,(cj x.2).1,[]⟩,(cj x.2).2)).2:=by
  split
  ·grind [dR]
  ·exact iT h1
 generalize (if ja x.1=true then((⟨x.1,0,(aM x.2 64).1⟩,(aM x.2 64).2):bt×RS)else(⟨x.1,(cj x.2).1,[]⟩,(cj x.2).2))=y at h2⊢
 split
 ·exact agH
 ·split
  ·exact yS h2
  ·exact agH
theorem F9(s:RS)(hw:WfR s):RC 19 [] s (aP (iC s).1) (iC s).2:=fun h id hid=>by
 have hw1:=iT (lo:=1) (hi:=5) hw;refine acJ func19 31 [.cell 2 23] fun hwf=>?_
 simp only[go_sem];intro i1 h1;have a0:=RAt.start hid;have n1:=a0.ne h1;have m1:=a0.none h1;have a1:=a0.put (b:=some (.obj [.i 0,.i 0,.s []] 23)) m1 n1;simp only[go_sem];refine a1.step (Kg s) fun g1 b1 k1=>?_
 have c1:=k1 i1 n1;rw[ah]at c1;clear a0 a1 k1;simp only[go_sem];refine b1.step (Dc s hw 1 5) fun g2 b2 k2=>?_
 have c2:=(k2 i1 n1).trans c1;clear b1 c1 k2;simp only[go_sem];intro i2 h2;have n2:=b2.ne h2;have m2:=b2.none h2;have n21:i2≠i1:=fun e=>by rw[e,c2]at h2;cases h2
 have e:iC s=(let x:=rIn s 1 5;let y:bt×RS:=if ja x.1 then(let t:=aM x.2 64;(⟨x.1,0,t.1⟩,t.2))else(let t:=cj x.2;(⟨x.1,t.1,[]⟩,t.2));if y.2.bad then(an,y.2)else if aW y.1=false then(an,fk y.2 s.at_)else y):=rfl
 generalize rIn s 1 5=x at e hw1 b2⊢;obtain⟨kd,t⟩:=x;simp only at e hw1 b2⊢;have b3:=b2.put (b:=some (.obj [.i kd,.i 0,.s []] 23)) m2 n2;have c3:upd g2 i2 (some (.obj [.i kd,.i 0,.s []] 23)) i1=_:=(ag _ _ (Ne.symm n21)).trans c2;have d3:upd g2 i2 (some (.obj [.i kd,.i 0,.s []] 23)) i2=_:=ah ..;clear b2 c2 h2;simp only[go_sem,ah];generalize upd g2 i2 (some (.obj [.i kd,.i 0,.s []] 23))=g3 at b3 c3 d3⊢;refine(zn kd _).pthen ?_;simp only[go_sem];cases dt:(kd==3||kd==5)
 ·have et:ja kd=false:=dt
  rw[et]at e;simp only[Bool.false_eq_true,if_false]at e;simp only[go_sem];refine b3.step (Fm t hw1) fun g4 b4 k4=>?_
  have c4:=(k4 i1 n1).trans c3;have d4:=(k4 i2 n2).trans d3;have e5:iC s=(if(cj t).2.bad then(an,(cj t).2)else if aW (⟨kd,(cj t).1,[]⟩:bt)=false then(an,fk (cj t).2 s.at_)else((⟨kd,(cj t).1,[]⟩:bt),(cj t).2)):=e
  have wT:WfR (cj t).2:=iT hw1;have b5:=b4.put (b:=(some (.obj [.i kd,.v (.int .i64 (cj t).1),.s []] 23))) m2 n2;have c5:upd g4 i2 (some (.obj [.i kd,.v (.int .i64 (cj t).1),.s []] 23)) i1=_:=(ag _ _ (Ne.symm n21)).trans c4;have d5:upd g4 i2 (some (.obj [.i kd,.v (.int .i64 (cj t).1),.s []] 23)) i2=_:=ah ..;simp only[go_sem,d4];generalize upd g4 i2 (some (.obj [.i kd,.v (.int .i64 (cj t).1),.s []] 23))=g5 at b5 c5 d5⊢;clear b4 c4 d4 k4 e;refine b5.step (zx _) fun g6 b6 k6=>?_
  have c6:=(k6 i1 n1).trans c5;have d6:=(k6 i2 n2).trans d5;clear b5 c5 d5 k6;cases db:(cj t).2.bad
  ·rw[db,if_neg acN]at e5
   simp only[go_sem,db,d6];refine(gx (⟨kd,(cj t).1,[]⟩:bt) g6).pthen ?_;cases dv:aW (⟨kd,(cj t).1,[]⟩:bt)
   ·exact ahC
   ·exact aiu
  ·exact aiv
 ·have et:ja kd=true:=dt
  rw[et]at e;simp only[if_true]at e;simp only[go_sem];refine b3.step (pL t hw1 64 acN) fun g4 b4 k4=>?_
  have c4:=(k4 i1 n1).trans c3;have d4:=(k4 i2 n2).trans d3;have e5:iC s=(if(aM t 64).2.bad then(an,(aM t 64).2)else if aW (⟨kd,0,(aM t 64).1⟩:bt)=false then(an,fk (aM t 64).2 s.at_)else((⟨kd,0,(aM t 64).1⟩:bt),(aM t 64).2)):=e
  have wT:WfR (aM t 64).2:=dR hw1 acN;have b5:=b4.put (b:=(some (.obj [.i kd,.i 0,.s (aM t 64).1] 23))) m2 n2;have c5:upd g4 i2 (some (.obj [.i kd,.i 0,.s (aM t 64).1] 23)) i1=_:=(ag _ _ (Ne.symm n21)).trans c4;have d5:upd g4 i2 (some (.obj [.i kd,.i 0,.s (aM t 64).1] 23)) i2=_:=ah ..;simp only[go_sem,d4];generalize upd g4 i2 (some (.obj [.i kd,.i 0,.s (aM t 64).1] 23))=g5 at b5 c5 d5⊢;clear b4 c4 d4 k4 e;refine b5.step (zx _) fun g6 b6 k6=>?_
  have c6:=(k6 i1 n1).trans c5;have d6:=(k6 i2 n2).trans d5;clear b5 c5 d5 k6;cases db:(aM t 64).2.bad
  ·rw[db,if_neg acN]at e5
   simp only[go_sem,db,d6];refine(gx (⟨kd,0,(aM t 64).1⟩:bt) g6).pthen ?_;cases dv:aW (⟨kd,0,(aM t 64).1⟩:bt)
   ·exact ahC
   ·exact aiu
  ·exact aiv
theorem Hq(hw:WfR s):WfR (jH s).2:=by grind [jH,iT,wO]
theorem Ri(s:RS)(hw:WfR s)(q:Perm):RC 18 [.sl (s.b.map aI) q] s (aP (jH s).1) (jH s).2:=fun h id hid=>by
 have hw1:=hw.1;have hw2:=hw.2;refine acJ func18 25 [.cell 4 23] fun hwf=>?_
 simp only[go_sem];intro i1 h1;have a0:=RAt.start hid;have n1:=a0.ne h1;have m1:=a0.none h1;have a1:=a0.put (b:=some (.obj [.i 0,.i 0,.s []] 23)) m1 n1;simp only[go_sem];refine a1.step (Kg s) fun g1 b1 k1=>?_
 have c1:=k1 i1 n1;rw[ah]at c1;clear a0 a1 k1
 by_cases hlt:s.at_<s.b.length
 ·have d1:decide ((s.at_:Int)<(s.b.length:Int))=true:=decide_eq_true acK
  simp only[go_sem,acA,d1];refine b1.step (Kg s) fun g2 b2 k2=>?_
  have c2:=(k2 i1 n1).trans c1;clear b1 c1 k2;simp only[go_sem];refine .at s.at_ acL acZ ?_;have hg:s.b.getD s.at_ 0=s.b[s.at_]:=acL;generalize hcc:s.b[s.at_]=c at hg;cases d2:((c.toNat:Int)==0)
  ·have hne:c≠0:=fun e=>by simp_all
   have e:jH s=iC s:=by simp_all [jH,if_neg]
   rw[e];simp only[go_sem,acB,hcc,aI,d2];refine b2.step (F9 s hw) fun g3 b3 k3=>?_
   have c3:=(k3 i1 n1).trans c2;simp only[go_sem,c3,ah,aP];exact afv
  ·have he:c=0:=by have:=eq_of_beq d2;exact UInt8.toNat_inj.1 acL
   have e:jH s=(an,(rIn (rIn s 0 0).2 0 0).2):=by simp_all [jH,if_pos]
   rw[e];simp only[go_sem,acB,hcc,aI,d2];refine b2.step (Dc s hw 0 0) fun g3 b3 k3=>?_
   have c3:=(k3 i1 n1).trans c2;simp only[go_sem];refine b3.step (Dc _ (iT hw) 0 0) fun g4 b4 k4=>?_
   have c4:=(k4 i1 n1).trans c3;simp only[go_sem,c4,ah];exact .mk _ (.refl _) (b4.put m1 n1).fin ⟨rfl,rfl⟩
 ·have d1:decide ((s.at_:Int)<(s.b.length:Int))=false:=decide_eq_false acK
  have e:jH s=iC s:=by simp_all [jH,if_neg]
  rw[e];simp only[go_sem,acA,d1];refine b1.step (F9 s hw) fun g3 b3 k3=>?_
  have c3:=(k3 i1 n1).trans c1;simp only[go_sem,c3,ah,aP];exact afv
theorem Cy(a b:Txt)(p q:Perm)(h:Heap):ai prog 23 [.sl (a.map aI) p,.sl (b.map aI) q] h fun r h' =>r= .b (decide (a=b))∧h' =h:=by
 refine acJ func23 10 [.tmp 4] fun hwf=>?_
 simp only[go_sem];exact .same (.refl _) ⟨by grind [ax],rfl⟩
structure OpL (o:OpD):Prop where
 subj:o.subj.length≤100000
 case:o.case.length≤100000
 field:o.field.length≤100000
 to:o.to.length≤100000
 val:o.val.s.length≤100000
 text:o.text.length≤100000
 reason:o.reason.length≤100000
def opT(o:OpD):List Txt:=[o.subj,o.case,o.field,o.to]
theorem B5(o:OpD)(h64:nO o)(hl:OpL o)(h:Heap):ai prog 8 [opA o] h fun r h' =>r= .sl ((iL o).map aI) .no∧h' =h:=by
 obtain⟨k1,k2,k3,k4⟩:=h64;have hnk:=fT o.kind;obtain⟨l1,l2,l3,l4,l5,l6,l7⟩:=hl;have t1:=cO o.subj;have t2:=cO o.case;have t3:=cO o.field;have t4:=cO o.to;refine acJ func8 46 [.tmp 2] fun hwf=>?_
 simp only[go_sem,opA,opC];intro id hid;simp only[go_sem];refine(BZ (.sl [] .full) [] o.kind _ (.nil _) acS k1).pthen ?_;simp only[go_sem];generalize hH:upd h id _=H;have hHid:H id=some (.obj (opC o) 25):=by rw[←hH];exact ah ..
 have hsub:Ab.Sub h H:=by rw[←hH];exact(Sub.refl h).new hid _
 unfold opC at hHid;clear hH;refine .intro (fun m ρ h' =>h' =H∧∃i:Nat,i≤4∧m=4 - i∧lk ρ 1=some (.ptr id 0)∧lk ρ 3=some (.sl ((dP o.kind++(((opT o).map bN).take i).flatten).map aI) .no)∧(∃q,lk ρ 17=some (.sl ((opT o).map .s) q))∧lk ρ 18=some (.i 4)∧lk ρ 19=some (.i i)) 4 ?_ ?_
 ·refine⟨rfl,0,acK,rfl,?_,?_,?_,?_,?_⟩
  ·rfl
  ·simp only[go_sem]
   simp
  ·refine⟨?_,?_⟩
   rotate_left
   ·simp only[go_sem]
    rfl
  ·rfl
  rfl
 rintro m ρ h' ⟨rfl,i,hi,rfl,r1,r3,⟨q,r17⟩,r18,r19⟩
 have hLl:((opT o).map bN).length=4:=rfl;have hOl:(opT o).length=4:=rfl;have hF:((opT o).map bN).flatten.length≤400040:=by grind [opT]
 have hf:=oQ ((opT o).map bN) i;have hall:∀t∈opT o,t.length≤100000:=by simp_all [opT]
 by_cases hc:i<4
 ·have d1:decide ((i:Int)<4)=true:=decide_eq_true acK
  have w1:IntKind.i64.wrap ((i:Int)+1)=((i+1:Nat):Int):=acX;have hs:=nR ((opT o).map bN) i acK;rw[acB]at hs;have ht:=hall _ (acF (show i<(opT o).length by omega))
  simp only[go_sem,r1,r3,r17,r18,r19,d1];refine .at i acL acZ ?_;simp only[go_sem,r1,r3,r17,r18,r19,acB];refine(wX _ (dP o.kind++(((opT o).map bN).take i).flatten) (opT o)[i] _ (.sl _ _) acL acK).pthen ?_;simp only[go_sem,r1,r3,r17,r18,r19,w1];refine⟨3 - i,acK,rfl,i+1,acK,acK,?_,?_,⟨q,?_⟩,?_,?_⟩
  ·simp only[go_sem,r1]
  ·simp only[go_sem,hs,List.append_assoc]
   rfl
  ·simp only[go_sem,r17]
  ·simp only[go_sem,r18]
  ·simp only[go_sem]
 ·have e:i=4:=by omega
  subst e;have e4:(((opT o).map bN).take 4).flatten=bN o.subj++(bN o.case++(bN o.field++bN o.to)):=by simp[opT]
  rw[e4]at r3 hf;have d1:decide ((4:Int)<4)=false:=rfl;generalize hP:dP o.kind++(bN o.subj++(bN o.case++(bN o.field++bN o.to)))=P1 at r3;have hP1:P1.length≤400050:=acL;simp only[go_sem,r1,r3,r17,r18,r19,hHid,d1];refine .quiet acO ?_;simp only[go_sem,r1,r3,r17,r18,r19,hHid,d1];refine⟨_,Ho _ P1 o.val _ (.sl _ _) acK k2 k3 acK,?_⟩;have e2:(gr o.val).length≤100020:=by grind [gr,acE,fT,cO]
  simp only[go_sem,r1,hHid];refine⟨_,BZ _ (P1++gr o.val) o.review _ (.sl _ _) acL k4,?_⟩;generalize hP2:P1++gr o.val++dP o.review=P2;have hP2l:P2.length≤500080:=by grind [fT,acE]
  simp only[go_sem,r1,hHid];refine .quiet acO ?_;simp only[go_sem,r1,hHid];refine⟨_,wX _ P2 o.text _ (.sl _ _) acK acK,?_⟩;have e3:=cO o.text;simp only[go_sem,r1,hHid];refine⟨_,wX _ (P2++bN o.text) o.reason _ (.sl _ _) acL acK,?_⟩;generalize hP3:P2++bN o.text++bN o.reason=P3;have e4:=cO o.reason;have hP3l:P3.length≤800000:=acL;simp only[go_sem,r1,hHid];refine(Em o.glass _).pthen ?_;simp only[go_sem];refine(Ho _ P3 (cE o.glass) _ (.sl _ _) acK ?_ ?_ ?_).pthen ?_
  ·cases o.glass<;>exact⟨acN,acN⟩
  ·cases o.glass<;>exact⟨acN,acN⟩
  ·cases o.glass<;>decide
  simp only[go_sem];refine .mk _ (.refl _) hsub ⟨?_,rfl⟩
  grind [iL,List.append_assoc,ax]
theorem fE.base{H:Heap}(hs:Ab.Sub h H)(ha:fE H g y l):fE h g y l:=by
 obtain⟨h1,h2|⟨id,i1,h2,h3⟩⟩:=ha
 ·exact⟨hs.trans h1,.inl h2⟩
 ·exact⟨hs.trans h1,.inr ⟨id,hs.none i1,h2,h3⟩⟩
theorem Ou(ch:BitVec 64)(o:OpD)(h64:nO o)(hl:OpL o)(hp:(iL o).length≤1000000)(h:Heap):ai prog 12 [.v (.int .u64 (ch.toNat:Int)),opA o] h fun r h' =>fE h h' r (gm ch o):=by
 refine acJ func12 20 [.tmp 4] fun hwf=>?_
 simp only[go_sem,opA,opC];intro id hid;generalize hH:upd h id _=H;have hHid:H id=some (.obj (opC o) 25):=by rw[←hH];exact ah ..
 have hsub:Ab.Sub h H:=by rw[←hH];exact(Sub.refl h).new hid _
 clear hH;simp only[go_sem];refine .intro (fun k ρ g=>∃(i:Nat) (v:BitVec 64) (l:Txt) (z:AV),fE H g z l∧i+k=8∧l++lQ k v=lQ 8 ch∧lk ρ 0=some (.v (.int .u64 (v.toNat:Int)))∧lk ρ 3=some (.ptr id 0)∧lk ρ 5=some z∧lk ρ 6=some (.i (i:Int))) 8 ?_ ?_
 ·refine⟨0,ch,[],_,Acc.full (.refl _),rfl,rfl,?_,?_,?_,?_⟩<;>simp only[go_sem]
  all_goals rfl
 rintro k ρ g ⟨i,v,l,z,ha,hk,hv,r0,r3,r5,r6⟩
 have hll:=congrArg List.length hv;rw[acE,ku,ku]at hll;rcases k with _|k
 ·have d1:decide ((i:Int)<8)=false:=decide_eq_false acK
  have hg:=ha.1 _ _ hHid;unfold opC at hg;rw[show lQ 0 v= []from rfl,List.append_nil]at hv
  subst hv;simp only[go_sem,r0,r3,r5,r6,d1,hg];refine(B5 o h64 hl g).pthen ?_;simp only[go_sem];refine fE.app ha (m:=iL o) (fun _ hk=>hk) acK fun z' h2 ha' =>?_
  simp only[go_sem];exact .same (.refl _) (ha'.base hsub)
 ·have d1:decide ((i:Int)<8)=true:=decide_eq_true acK
  have w1:IntKind.i64.wrap ((i:Int)+1)=((i+1:Nat):Int):=acX;simp only[go_sem,r0,r3,r5,r6,d1,wu8];refine fE.app ha (m:=[UInt8.ofNat v.toNat]) (fun _ hk=>hk) acL fun z' h2 ha' =>?_
  have e8:v.toNat / 256=(v>>>8).toNat:=afa;simp only[go_sem,r0,r3,r5,r6,w1,e8];refine⟨k,acK,i+1,v>>>8,l++ [UInt8.ofNat v.toNat],z',ha',acK,?_,?_,?_,?_,?_⟩
  ·grind [lQ]
  all_goals simp only[go_sem,r3]
theorem yX(ch:BitVec 64)(o:OpD)(h64:nO o)(hl:OpL o)(hp:(iL o).length≤1000000)(h:Heap):ai prog 12 [.v (.int .u64 (ch.toNat:Int)),opA o] h fun r h' =>r= .sl ((gm ch o).map aI) .no∧h' =h:=
 fE.pure fun g _=>Ou ch o h64 hl hp g
theorem pE(hw:WfR s):i64 (cj s).1:=wN hw acN acN
theorem Ch:i64 an.kind∧i64 an.n:=⟨⟨acN,acN⟩,⟨acN,acN⟩⟩
theorem Hp:(fk s a).b=s.b:=by grind [fk]
theorem LX:(rIn s lo hi).2.b=s.b:=by grind [rIn,Hp]
theorem nC{m:Int}:(aM s m).2.b=s.b:=by grind [aM,Hp,LX]
theorem Hr(hw:WfR s):i64 (iC s).1.kind∧i64 (iC s).1.n:=by
 have hz:=Ch;have h1:=iT (lo:=1) (hi:=5) hw;have h2: -1≤(rIn s 1 5).1∧(rIn s 1 5).1≤5:=by grind [rIn]
 unfold iC;simp only;generalize rIn s 1 5=x at h1 h2⊢;have h3:i64 (if ja x.1=true then((⟨x.1,0,(aM x.2 64).1⟩,(aM x.2 64).2):bt×RS)else(⟨x.1,(cj x.2).1,[]⟩,(cj x.2).2)).1.kind∧i64 (if ja x.1=true then((⟨x.1,0,(aM x.2 64).1⟩,(aM x.2 64).2):bt×RS)else(⟨x.1,(cj x.2).1,[]⟩,(cj x.2).2)).1.n:=by
  split
  ·exact⟨⟨acL,acL⟩,⟨acS,acS⟩⟩
  ·exact⟨⟨acL,acL⟩,pE h1⟩
 generalize (if ja x.1=true then((⟨x.1,0,(aM x.2 64).1⟩,(aM x.2 64).2):bt×RS)else(⟨x.1,(cj x.2).1,[]⟩,(cj x.2).2))=y at h3⊢
 split
 ·exact hz
 ·split
  ·exact hz
  ·exact h3
theorem B6(hw:WfR s):i64 (jH s).1.kind∧i64 (jH s).1.n:=by grind [jH,Ch,Hr]
def nU:OpD:=⟨0,[],[],[],[],an,0,[],[],false⟩
def C4(l:Txt):AV:=.tup [opA ((ld l).getD nU),.v (.bool (ld l).isSome)]
theorem RE(l:Txt):rOp l=(let k:=cj ⟨l,0,false⟩;let s1:=aM k.2 16;let s2:=aM s1.2 16;let s3:=aM s2.2 16;let s4:=aM s3.2 16;let v:=jH s4.2;let r:=cj v.2;let t:=aM r.2 4096;let w:=aM t.2 64;let g:=iC w.2
 (⟨k.1,s1.1,s2.1,s3.1,s4.1,v.1,r.1,t.1,w.1,eqV g.1 (cE true)⟩,g.2)):=rfl
theorem f_l{o:OpD}(h:OpF o):OpL o:=by
 obtain⟨a,b,c,d,e,f,g⟩:=h;refine⟨acK,acK,acK,acK,?_,acK,acK⟩;rcases e with e|e
 ·rw[e];decide
 ·by_cases hk:o.val.kind=3∨o.val.kind=5
  ·have:=(vi e hk).2;omega
  grind [Bh]
theorem RAt.base{id:Nat}(hr:RAt h id g s)(hn:h id=Option.none):Ab.Sub h g:=fun j b e=>hr.sub j b acL e
set_option maxHeartbeats 1000000 in
theorem xV(l:Txt)(q:Perm)(hl:l.length≤1000000)(h:Heap):ai prog 5 [.sl (l.map aI) q] h fun r h' =>r=C4 l∧h' =h:=by
 refine acJ func5 58 [.cell 2 25,.tmp 3] fun hwf=>?_
 simp only[go_sem];intro i1 h1;simp only[go_sem];refine(Ot _ l _ (.sl _ _) hl).mono fun r g ⟨id,hid,er,eg⟩=>?_
 subst er;have n1:i1≠id:=fun e=>agL
 have m0:h id=none:=by simp_all [ag,Ne.symm]
 have w0:WfR ⟨l,0,false⟩:=⟨Nat.zero_le _,hl⟩;have b0:RAt h id g ⟨l,0,false⟩:=⟨by simp_all [ah],fun j b hj e=>by
  rw[eg,ag _ _ hj,ag _ _ fun e2=>acL]
  exact e⟩
 have c0:g i1=some (.obj (opC nU) 25):=by rw[eg,ag _ _ n1];exact ah ..
 clear eg hid;simp only[go_sem];intro i2 h2;have n2:=b0.ne h2;have m1:=h1;have m2:=b0.none h2;have n21:i2≠i1:=fun e=>acL
 clear h2;have e:=RE l;simp only at e;have g0e:g=g:=rfl;generalize g=g0 at b0 c0⊢;clear g0e;simp only[go_sem];have b0' :=b0.put (b:=(some (.obj [.i 0,.s [],.s [],.s [],.s [],.i 0,.i 0,.s [],.i 0,.s [],.s [],.b false] 25))) m2 n2;have c0' :upd g0 i2 (some (.obj [.i 0,.s [],.s [],.s [],.s [],.i 0,.i 0,.s [],.i 0,.s [],.s [],.b false] 25)) i1=_:=(ag _ _ (Ne.symm n21)).trans c0;have d0' :upd g0 i2 (some (.obj [.i 0,.s [],.s [],.s [],.s [],.i 0,.i 0,.s [],.i 0,.s [],.s [],.b false] 25)) i2=_:=ah ..;clear b0 c0;generalize upd g0 i2 (some (.obj [.i 0,.s [],.s [],.s [],.s [],.i 0,.i 0,.s [],.i 0,.s [],.s [],.b false] 25))=g1 at b0' c0' d0'⊢;have b1:=b0';have c1:=c0';have d1:=d0';clear b0' c0' d0';refine b1.step (Fm _ w0) fun g2 b2 k2=>?_
 have c2:=(k2 i1 n1).trans c1;have d2:=(k2 i2 n2).trans d1;clear b1 c1 d1 k2;have w1:=iT (lo:= -9223372036854775808) (hi:=9223372036854775807) w0;have q1:=pE w0
 change WfR (cj _).2 at w1
 have hb1:(cj ⟨l,0,false⟩).2.b=l:=LX;generalize cj ⟨l,0,false⟩=x1 at e w1 q1 hb1 b2⊢;obtain⟨v1,s1⟩:=x1;simp only at e w1 q1 hb1 b2⊢;simp only[go_sem,d2,ah];have b2' :=b2.put (b:=(some (.obj [.i v1,.s [],.s [],.s [],.s [],.i 0,.i 0,.s [],.i 0,.s [],.s [],.b false] 25))) m2 n2;have c2' :upd g2 i2 (some (.obj [.i v1,.s [],.s [],.s [],.s [],.i 0,.i 0,.s [],.i 0,.s [],.s [],.b false] 25)) i1=_:=(ag _ _ (Ne.symm n21)).trans c2;have d2' :upd g2 i2 (some (.obj [.i v1,.s [],.s [],.s [],.s [],.i 0,.i 0,.s [],.i 0,.s [],.s [],.b false] 25)) i2=_:=ah ..;clear b2 c2 d2;generalize upd g2 i2 (some (.obj [.i v1,.s [],.s [],.s [],.s [],.i 0,.i 0,.s [],.i 0,.s [],.s [],.b false] 25))=g3 at b2' c2' d2'⊢;have b3:=b2';have c3:=c2';have d3:=d2';clear b2' c2' d2';refine b3.step (pL _ w1 16 acN) fun g4 b4 k4=>?_
 have c4:=(k4 i1 n1).trans c3;have d4:=(k4 i2 n2).trans d3;clear b3 c3 d3 k4;have w2:=dR (most:=16) w1 acN;have hb2:(aM s1 16).2.b=l:=nC.trans hb1;generalize aM s1 16=x2 at e w2 hb2 b4⊢;obtain⟨v2,s2⟩:=x2;simp only at e w2 hb2 b4⊢;simp only[go_sem];refine b4.step (pL _ w2 16 acN) fun g5 b5 k5=>?_
 have c5:=(k5 i1 n1).trans c4;have d5:=(k5 i2 n2).trans d4;clear b4 c4 d4 k5;have w3:=dR (most:=16) w2 acN;have hb3:(aM s2 16).2.b=l:=nC.trans hb2;generalize aM s2 16=x3 at e w3 hb3 b5⊢;obtain⟨v3,s3⟩:=x3;simp only at e w3 hb3 b5⊢;simp only[go_sem];refine b5.step (pL _ w3 16 acN) fun g6 b6 k6=>?_
 have c6:=(k6 i1 n1).trans c5;have d6:=(k6 i2 n2).trans d5;clear b5 c5 d5 k6;have w4:=dR (most:=16) w3 acN;have hb4:(aM s3 16).2.b=l:=nC.trans hb3;generalize aM s3 16=x4 at e w4 hb4 b6⊢;obtain⟨v4,s4⟩:=x4;simp only at e w4 hb4 b6⊢;simp only[go_sem];refine b6.step (pL _ w4 16 acN) fun g7 b7 k7=>?_
 have c7:=(k7 i1 n1).trans c6;have d7:=(k7 i2 n2).trans d6;clear b6 c6 d6 k7;have w5:=dR (most:=16) w4 acN;have hb5:(aM s4 16).2.b=l:=nC.trans hb4;generalize aM s4 16=x5 at e w5 hb5 b7⊢;obtain⟨v5,s5⟩:=x5;simp only at e w5 hb5 b7⊢;simp only[go_sem,d7,ah];have b7' :=b7.put (b:=(some (.obj [.i v1,.s v2,.s v3,.s v4,.s v5,.i 0,.i 0,.s [],.i 0,.s [],.s [],.b false] 25))) m2 n2;have c7' :upd g7 i2 (some (.obj [.i v1,.s v2,.s v3,.s v4,.s v5,.i 0,.i 0,.s [],.i 0,.s [],.s [],.b false] 25)) i1=_:=(ag _ _ (Ne.symm n21)).trans c7;have d7' :upd g7 i2 (some (.obj [.i v1,.s v2,.s v3,.s v4,.s v5,.i 0,.i 0,.s [],.i 0,.s [],.s [],.b false] 25)) i2=_:=ah ..;clear b7 c7 d7;generalize upd g7 i2 (some (.obj [.i v1,.s v2,.s v3,.s v4,.s v5,.i 0,.i 0,.s [],.i 0,.s [],.s [],.b false] 25))=g8 at b7' c7' d7'⊢;have b8:=b7';have c8:=c7';have d8:=d7';clear b7' c7' d7';rw[show l.map aI=s5.b.map aI by grind]
 refine b8.step (Ri _ w5 _) fun g9 b9 k9=>?_
 have c9:=(k9 i1 n1).trans c8;have d9:=(k9 i2 n2).trans d8;clear b8 c8 d8 k9;have w6:=Hq w5;have q6:=B6 w5;generalize jH s5=x6 at e w6 q6 b9⊢;obtain⟨v6,s6⟩:=x6;simp only at e w6 q6 b9⊢;simp only[go_sem,d9,ah,aP];have b9' :=b9.put (b:=(some (.obj [.i v1,.s v2,.s v3,.s v4,.s v5,.i v6.kind,.i v6.n,.s v6.s,.i 0,.s [],.s [],.b false] 25))) m2 n2;have c9' :upd g9 i2 (some (.obj [.i v1,.s v2,.s v3,.s v4,.s v5,.i v6.kind,.i v6.n,.s v6.s,.i 0,.s [],.s [],.b false] 25)) i1=_:=(ag _ _ (Ne.symm n21)).trans c9;have d9' :upd g9 i2 (some (.obj [.i v1,.s v2,.s v3,.s v4,.s v5,.i v6.kind,.i v6.n,.s v6.s,.i 0,.s [],.s [],.b false] 25)) i2=_:=ah ..;clear b9 c9 d9;generalize upd g9 i2 (some (.obj [.i v1,.s v2,.s v3,.s v4,.s v5,.i v6.kind,.i v6.n,.s v6.s,.i 0,.s [],.s [],.b false] 25))=g10 at b9' c9' d9'⊢;have b10:=b9';have c10:=c9';have d10:=d9';clear b9' c9' d9';refine b10.step (Fm _ w6) fun g11 b11 k11=>?_
 have c11:=(k11 i1 n1).trans c10;have d11:=(k11 i2 n2).trans d10;clear b10 c10 d10 k11;have w7:=iT (lo:= -9223372036854775808) (hi:=9223372036854775807) w6;have q7:=pE w6
 change WfR (cj _).2 at w7
 generalize cj s6=x7 at e w7 q7 b11⊢;obtain⟨v7,s7⟩:=x7;simp only at e w7 q7 b11⊢;simp only[go_sem,d11,ah];have b11' :=b11.put (b:=(some (.obj [.i v1,.s v2,.s v3,.s v4,.s v5,.i v6.kind,.i v6.n,.s v6.s,.i v7,.s [],.s [],.b false] 25))) m2 n2;have c11' :upd g11 i2 (some (.obj [.i v1,.s v2,.s v3,.s v4,.s v5,.i v6.kind,.i v6.n,.s v6.s,.i v7,.s [],.s [],.b false] 25)) i1=_:=(ag _ _ (Ne.symm n21)).trans c11;have d11' :upd g11 i2 (some (.obj [.i v1,.s v2,.s v3,.s v4,.s v5,.i v6.kind,.i v6.n,.s v6.s,.i v7,.s [],.s [],.b false] 25)) i2=_:=ah ..;clear b11 c11 d11;generalize upd g11 i2 (some (.obj [.i v1,.s v2,.s v3,.s v4,.s v5,.i v6.kind,.i v6.n,.s v6.s,.i v7,.s [],.s [],.b false] 25))=g12 at b11' c11' d11'⊢;have b12:=b11';have c12:=c11';have d12:=d11';clear b11' c11' d11';refine b12.step (pL _ w7 4096 acN) fun g13 b13 k13=>?_
 have c13:=(k13 i1 n1).trans c12;have d13:=(k13 i2 n2).trans d12;clear b12 c12 d12 k13;have w8:=dR (most:=4096) w7 acN;generalize aM s7 4096=x8 at e w8 b13⊢;obtain⟨v8,s8⟩:=x8;simp only at e w8 b13⊢;simp only[go_sem];refine b13.step (pL _ w8 64 acN) fun g14 b14 k14=>?_
 have c14:=(k14 i1 n1).trans c13;have d14:=(k14 i2 n2).trans d13;clear b13 c13 d13 k14;have w9:=dR (most:=64) w8 acN;generalize aM s8 64=x9 at e w9 b14⊢;obtain⟨v9,s9⟩:=x9;simp only at e w9 b14⊢;simp only[go_sem,d14,ah];have b14' :=b14.put (b:=(some (.obj [.i v1,.s v2,.s v3,.s v4,.s v5,.i v6.kind,.i v6.n,.s v6.s,.i v7,.s v8,.s v9,.b false] 25))) m2 n2;have c14' :upd g14 i2 (some (.obj [.i v1,.s v2,.s v3,.s v4,.s v5,.i v6.kind,.i v6.n,.s v6.s,.i v7,.s v8,.s v9,.b false] 25)) i1=_:=(ag _ _ (Ne.symm n21)).trans c14;have d14' :upd g14 i2 (some (.obj [.i v1,.s v2,.s v3,.s v4,.s v5,.i v6.kind,.i v6.n,.s v6.s,.i v7,.s v8,.s v9,.b false] 25)) i2=_:=ah ..;clear b14 c14 d14;generalize upd g14 i2 (some (.obj [.i v1,.s v2,.s v3,.s v4,.s v5,.i v6.kind,.i v6.n,.s v6.s,.i v7,.s v8,.s v9,.b false] 25))=g15 at b14' c14' d14'⊢;have b15:=b14';have c15:=c14';have d15:=d14';clear b14' c14' d14';refine b15.step (F9 _ w9) fun g16 b16 k16=>?_
 have c16:=(k16 i1 n1).trans c15;have d16:=(k16 i2 n2).trans d15;clear b15 c15 d15 k16;have w10:=wO w9;generalize iC s9=x10 at e w10 b16⊢;obtain⟨v10,s10⟩:=x10;simp only at e w10 b16⊢;simp only[go_sem];refine(Em true _).pthen ?_;simp only[go_sem,d16,ah,aP,cE];generalize hgl:(v10.kind==1 && (v10.n==1 && v10.s== []))=gl;have egl:eqV v10 (cE true)=gl:=hgl;rw[egl]at e;clear egl hgl;have b16' :=b16.put (b:=(some (.obj [.i v1,.s v2,.s v3,.s v4,.s v5,.i v6.kind,.i v6.n,.s v6.s,.i v7,.s v8,.s v9,.b gl] 25))) m2 n2;have c16' :upd g16 i2 (some (.obj [.i v1,.s v2,.s v3,.s v4,.s v5,.i v6.kind,.i v6.n,.s v6.s,.i v7,.s v8,.s v9,.b gl] 25)) i1=_:=(ag _ _ (Ne.symm n21)).trans c16;have d16' :upd g16 i2 (some (.obj [.i v1,.s v2,.s v3,.s v4,.s v5,.i v6.kind,.i v6.n,.s v6.s,.i v7,.s v8,.s v9,.b gl] 25)) i2=_:=ah ..;clear b16 c16 d16;generalize upd g16 i2 (some (.obj [.i v1,.s v2,.s v3,.s v4,.s v5,.i v6.kind,.i v6.n,.s v6.s,.i v7,.s v8,.s v9,.b gl] 25))=g17 at b16' c16' d16'⊢;have b17:=b16';have c17:=c16';have d17:=d16';clear b16' c16' d16';refine b17.step (QT _) fun g18 b18 k18=>?_
 have c18:=(k18 i1 n1).trans c17;have d18:=(k18 i2 n2).trans d17;clear b17 c17 d17 k18;generalize ho:(⟨v1,v2,v3,v4,v5,v6,v7,v8,v9,gl⟩:OpD)=o at e;have hd:g18 i2=some (.obj (opC o) 25):=by rw[d18,←ho];rfl
 have h64:nO o:=by rw[←ho];exact⟨q1,q6.1,q6.2,q7⟩
 have hc:g18 i1=some (.obj (opC nU) 25):=c18;clear d18 c18 ho;have hnone:∀(g:Heap),RAt h id g s10→ld l=none→lV [opA nU,.b false] g fun r h' =>r=C4 l∧h' =h:=fun g hg en=>.mk _ (.refl _) (hg.base m0) ⟨by unfold C4;rw[en];rfl,rfl⟩
 unfold opC nU an at hc;unfold opC at hd;cases de:nW s10
 ·have en:ld l=none:=by grind [ld]
  simp only[go_sem,de,hc,ah];exact afK
 simp only[go_sem,de,hd];refine(GC o _).pthen ?_;cases df:dD o
 ·exact aiA
 have hF:=nS df;simp only[go_sem,hd];refine(B5 o h64 (f_l hF) _).pthen ?_;simp only[go_sem];rw[hb5];refine(Cy (iL o) l _ _ _).pthen ?_;cases dp:decide (iL o=l)
 ·exact aiA
 ·have en:ld l=some o:=by grind [ld]
  simp only[go_sem,hc,hd,ah];exact .mk _ (.refl _) ((b18.put m1 n1).base m0) ⟨by unfold C4;rw[en];rfl,rfl⟩
end Go.Proofs.YteaaeelhjnhaaaaGreatDoor
namespace Go.Bf
open Go Go.Ab
variable {u k:Nat}{l x y t:Txt}{n lo hi most m:Int}{s s':RS}{v:bt}
theorem JW(u:Nat):zig (unzig u)=u:=by unfold unzig zig;split<;>split<;>omega
theorem ON(h:u<18446744073709551616):i64 (unzig u):=by unfold unzig i64;split<;>omega
theorem GY:∀(f i u:Nat) (l:Txt) (n:Int) (k:Nat),f+i=10→u<128 ^ i→iU f i u l=(n,k)→k≠0→
  ∃v,n=unzig (u+v*128 ^ i)∧v<128 ^ f∧(0<i→0<v)∧u+v*128 ^ i<18446744073709551616∧i≤k∧k - i≤l.length∧l.take (k - i)=jh f v
 |0,i,u,l,n,k,_,_,h,hk=>by simp only[iU,Prod.mk.injEq]at h;omega
 |f+1,i,u,[],n,k,_,_,h,hk=>by simp only[iU,Prod.mk.injEq]at h;omega
 |f+1,i,u,c::r,n,k,hfi,hu,h,hk=>by
  have hc:=c.toNat_lt;have p9:(128:Nat) ^ 9=9223372036854775808:=acN;have hof:UInt8.ofNat c.toNat=c:=acS;unfold iU at h
  by_cases hb:(i=9∧1<c.toNat)∨(0<i∧c.toNat=0)
  ·rw[if_pos hb]at h
   simp only[Prod.mk.injEq]at h;omega
  rw[if_neg hb]at h
  by_cases hs:c.toNat<128
  ·rw[if_pos hs]at h
   simp only[Prod.mk.injEq]at h;obtain⟨h1,rfl⟩:=h;refine⟨c.toNat,h1.symm,?_,acK,?_,acK,acS,?_⟩
   ·have:1≤128 ^ f:=Nat.one_le_pow _ _ acN
    rw[Nat.pow_succ];omega
   ·by_cases h9:i=9
    ·subst h9
     rw[p9]at hu⊢;omega
    ·have h1:(128:Nat) ^ i≤128 ^ 8:=Nat.pow_le_pow_right acN acK
     have h2:(128:Nat) ^ 8=72057594037927936:=acN;have h3:c.toNat*128 ^ i≤127*128 ^ i:=Nat.mul_le_mul_right _ acK;omega
   ·rw[show i+1 - i=1 by omega]
    unfold jh;rw[if_pos hs,hof];rfl
  ·rw[if_neg hs]at h
   have hu2:u+c.toNat % 128*128 ^ i<128 ^ (i+1):=by have h3:c.toNat % 128*128 ^ i≤127*128 ^ i:=Nat.mul_le_mul_right _ acK;rw[Nat.pow_succ];omega
   obtain⟨v,h1,h2,h3,h4,h5,h6,h7⟩:=GY f (i+1) _ r n k acK hu2 h hk;have hv:=h3 acK;have e:u+(c.toNat % 128+128*v)*128 ^ i=u+c.toNat % 128*128 ^ i+v*128 ^ (i+1):=by rw[Nat.add_mul,Nat.pow_succ,Nat.add_assoc,Nat.mul_comm 128 v,Nat.mul_assoc v 128,Nat.mul_comm 128 (128 ^ i)]
   refine⟨c.toNat % 128+128*v,by rw[e];exact h1,?_,fun _=>acK,agJ,acK,ade,?_⟩
   ·rw[Nat.pow_succ]
    omega
   ·rw[show k - i=k - (i+1)+1 by omega,List.take_succ_cons,h7]
    conv=>rhs;unfold jh
    rw[if_neg acK,show(c.toNat % 128+128*v) % 128+128=c.toNat by omega,show(c.toNat % 128+128*v) / 128=v by omega,hof]
theorem yF(h:iU 10 0 0 l=(n,k))(hk:k≠0):i64 n∧l.take k=dP n∧k≤l.length:=by obtain⟨v,h1,h2,_,h4,_,h6,h7⟩:=GY 10 0 0 l n k rfl acN h hk;simp only[Nat.zero_add,Nat.pow_zero,Nat.mul_one,Nat.sub_zero]at h1 h4 h6 h7;subst h1;refine⟨ON h4,?_,h6⟩;rw[h7];unfold dP;rw[JW]
structure Took (s s' :RS) (x:Txt):Prop where
 ok:s.bad=false
 b:s'.b=s.b
 at_:s'.at_≤s.b.length
 le:s.at_≤s'.at_
 x:s.b.drop s.at_=x++s.b.drop s'.at_
theorem Took.trans{a b c:RS}(h:Took a b x)(k:Took b c y):Took a c (x++y):=by obtain⟨h1,h2,h3,h5,h4⟩:=h;obtain⟨k1,k2,k3,k5,k4⟩:=k;rw[h2]at k2 k3 k4;exact⟨h1,k2,k3,Nat.le_trans h5 k5,by rw[h4,k4,List.append_assoc]⟩
theorem tc(s:RS){a:Nat}(ha:a≤s.at_):(fk s a).bad=true:=by
 unfold fk;split
 ·rfl
 ·rename_i h
  cases hb:s.bad
  ·exact(h ⟨hb,ha⟩).elim
  ·rfl
theorem jS(h:rIn s lo hi=(n,s'))(hb:s'.bad=false):Took s s' (dP n)∧i64 n∧lo≤n∧n≤hi:=by
 unfold rIn at h;cases hs:s.bad
 case true=>rw[hs,if_pos rfl]at h;cases h;rw[hs]at hb;cases hb
 rw[hs,if_neg acN]at h;simp only at h;split at h
 ·cases h
  rw[tc s (Nat.le_refl _)]at hb;cases hb
 ·rename_i hc
  cases h;obtain⟨h1,h2,h3⟩:=yF (l:=s.b.drop s.at_) (n:=(iU 10 0 0 (s.b.drop s.at_)).1) (k:=(iU 10 0 0 (s.b.drop s.at_)).2) rfl acK;rw[List.length_drop]at h3;refine⟨⟨hs,rfl,afN,afN,?_⟩,h1,acK,acK⟩;simp only;rw[←h2,←List.drop_drop,List.take_append_drop]
theorem iN(h:aM s most=(t,s'))(hb:s'.bad=false):Took s s' (bN t)∧(t.length:Int)≤most:=by
 unfold aM at h;obtain⟨⟨n,s1⟩,e1⟩:∃x,rIn s 0 most=x:=⟨_,rfl⟩;rw[e1]at h;simp only at h;split at h
 ·rename_i hc
  cases h;have h1:s1.bad=false:=by
   cases hx:s1.bad
   ·rfl
   ·unfold fk at hb
    rw[if_neg (by rw[hx];simp)]at hb
    rw[hx]at hb;cases hb
  obtain⟨hT,_,_,_⟩:=jS e1 h1;rw[tc s1 hT.le]at hb;cases hb
 ·rename_i hc
  cases h;simp only[not_or,Bool.not_eq_true]at hc;obtain⟨hT,_,h0,hm⟩:=jS e1 hc.1;have hsb:=hT.b;have hat:=hT.at_;have hle:=hT.le;rw[hsb]at hc;have hl:((s1.b.drop s1.at_).take n.toNat).length=n.toNat:=by rw[hsb,List.length_take,List.length_drop];omega
  refine⟨⟨hT.ok,hsb,afN,afN,?_⟩,by rw[hl];omega⟩
  unfold bN;rw[hl,show((n.toNat:Nat):Int)=n by omega,hT.x,hsb]
  simp only;rw[List.append_assoc,←List.drop_drop,List.take_append_drop]
theorem qY(h:iC s=(v,s'))(hb:s'.bad=false):Took s s' (gr v)∧aW v=true:=by
 unfold iC at h;obtain⟨⟨k,s1⟩,e1⟩:∃x,rIn s 1 5=x:=⟨_,rfl⟩;rw[e1]at h;simp only at h;cases hk:ja k
 ·rw[hk]at h
  obtain⟨⟨n,s2⟩,e2⟩:∃x,cj s1=x:=⟨_,rfl⟩;rw[e2]at h;simp only[Bool.false_eq_true,if_false]at h;split at h
  ·rename_i hx
   cases h;rw[hx]at hb;cases hb
  rename_i hx
  have h2:s2.bad=false:=by simpa using hx
  obtain⟨hT2,_,_,_⟩:=jS e2 h2;obtain⟨hT1,_,_,_⟩:=jS e1 hT2.ok;split at h
  ·cases h
   rw[tc s2 (Nat.le_trans hT1.le hT2.le)]at hb;cases hb
  rename_i hv
  cases h;refine⟨?_,by simpa using hv⟩
  unfold gr;rw[if_neg (by unfold ja at hk;simp at hk;simp only;omega)]
  exact hT1.trans hT2
 ·rw[hk]at h
  obtain⟨⟨t,s2⟩,e2⟩:∃x,aM s1 64=x:=⟨_,rfl⟩;rw[e2]at h;simp only[if_true]at h;split at h
  ·rename_i hx
   cases h;rw[hx]at hb;cases hb
  rename_i hx
  have h2:s2.bad=false:=by simpa using hx
  obtain⟨hT2,_⟩:=iN e2 h2;obtain⟨hT1,_,_,_⟩:=jS e1 hT2.ok;split at h
  ·cases h
   rw[tc s2 (Nat.le_trans hT1.le hT2.le)]at hb;cases hb
  rename_i hv
  cases h;refine⟨?_,by simpa using hv⟩
  unfold gr;rw[if_pos (by unfold ja at hk;simp at hk;simp only;omega)]
  exact hT1.trans hT2
theorem Ls(h:jH s=(v,s'))(hb:s'.bad=false):Took s s' (gr v)∧(v=an∨aW v=true):=by
 unfold jH at h;split at h
 ·obtain⟨⟨a,s1⟩,e1⟩:∃x,rIn s 0 0=x:=⟨_,rfl⟩
  obtain⟨⟨c,s2⟩,e2⟩:∃x,rIn s1 0 0=x:=⟨_,rfl⟩;rw[e1]at h;simp only[e2]at h;cases h;obtain⟨hT2,_,h3,h4⟩:=jS e2 hb;obtain⟨hT1,_,h1,h2⟩:=jS e1 hT2.ok;obtain rfl:a=0:=acK;obtain rfl:c=0:=acK;exact⟨hT1.trans hT2,.inl rfl⟩
 ·obtain⟨h1,h2⟩:=qY h hb
  exact⟨h1,.inr h2⟩
def rGl(b:Txt):bt:=
 let k:=cj ⟨b,0,false⟩
 let s1:=aM k.2 16
 let s2:=aM s1.2 16
 let s3:=aM s2.2 16
 let s4:=aM s3.2 16
 let v:=jH s4.2
 let r:=cj v.2
 let t:=aM r.2 4096
 let w:=aM t.2 64
 (iC w.2).1
theorem Og{b:Txt}(h:(rOp b).2.bad=false):Took ⟨b,0,false⟩ (rOp b).2 (dP (rOp b).1.kind++(bN (rOp b).1.subj++(bN (rOp b).1.case++(bN (rOp b).1.field++(bN (rOp b).1.to++(gr (rOp b).1.val++(dP (rOp b).1.review++(bN (rOp b).1.text++(bN (rOp b).1.reason++gr (rGl b))))))))))∧aW (rGl b)=true∧(rOp b).1.glass=eqV (rGl b) (cE true):=by unfold rOp rGl at*;obtain⟨⟨k,a0⟩,e0⟩:∃x,cj ⟨b,0,false⟩=x:=⟨_,rfl⟩;simp only[e0]at h⊢;obtain⟨⟨t1,a1⟩,e1⟩:∃x,aM a0 16=x:=⟨_,rfl⟩;simp only[e1]at h⊢;obtain⟨⟨t2,a2⟩,e2⟩:∃x,aM a1 16=x:=⟨_,rfl⟩;simp only[e2]at h⊢;obtain⟨⟨t3,a3⟩,e3⟩:∃x,aM a2 16=x:=⟨_,rfl⟩;simp only[e3]at h⊢;obtain⟨⟨t4,a4⟩,e4⟩:∃x,aM a3 16=x:=⟨_,rfl⟩;simp only[e4]at h⊢;obtain⟨⟨v,a5⟩,e5⟩:∃x,jH a4=x:=⟨_,rfl⟩;simp only[e5]at h⊢;obtain⟨⟨r,a6⟩,e6⟩:∃x,cj a5=x:=⟨_,rfl⟩;simp only[e6]at h⊢;obtain⟨⟨t7,a7⟩,e7⟩:∃x,aM a6 4096=x:=⟨_,rfl⟩;simp only[e7]at h⊢;obtain⟨⟨t8,a8⟩,e8⟩:∃x,aM a7 64=x:=⟨_,rfl⟩;simp only[e8]at h⊢;obtain⟨⟨g,a9⟩,e9⟩:∃x,iC a8=x:=⟨_,rfl⟩;simp only[e9]at h⊢;obtain⟨T9,hv⟩:=qY e9 h;obtain⟨T8,_⟩:=iN e8 T9.ok;obtain⟨T7,_⟩:=iN e7 T8.ok;obtain⟨T6,_,_,_⟩:=jS e6 T7.ok;obtain⟨T5,_⟩:=Ls e5 T6.ok;obtain⟨T4,_⟩:=iN e4 T5.ok;obtain⟨T3,_⟩:=iN e3 T4.ok;obtain⟨T2,_⟩:=iN e2 T3.ok;obtain⟨T1,_⟩:=iN e1 T2.ok;obtain⟨T0,_,_,_⟩:=jS e0 T1.ok;exact⟨T0.trans (T1.trans (T2.trans (T3.trans (T4.trans (T5.trans (T6.trans (T7.trans (T8.trans T9)))))))),hv,trivial⟩
def QY(b:Txt):Option OpD:=if nW (rOp b).2 && (rGl b).kind==1 && dD (rOp b).1 then some (rOp b).1 else none
theorem NJ(b:Txt):QY b=ld b:=by
 unfold QY ld;cases hE:nW (rOp b).2
 ·simp
 have hE' :=hE;unfold nW at hE';simp only[Bool.and_eq_true,decide_eq_true_eq,Bool.not_eq_true']at hE';obtain⟨hT,hv,hg⟩:=Og hE'.2;have hb:b=dP (rOp b).1.kind++(bN (rOp b).1.subj++(bN (rOp b).1.case++(bN (rOp b).1.field++(bN (rOp b).1.to++(gr (rOp b).1.val++(dP (rOp b).1.review++(bN (rOp b).1.text++(bN (rOp b).1.reason++gr (rGl b))))))))):=by have h1:=hT.x;have h2:=hT.b;simp only at h1 h2;have h3:=congrArg List.length h2;have h4:=hE'.1;have h5:List.drop (rOp b).2.at_ b= []:=List.drop_eq_nil_of_le acK;rw[List.drop_zero,h5,List.append_nil]at h1;exact h1
 obtain⟨o,eo⟩:∃o,(rOp b).1=o:=⟨_,rfl⟩;obtain⟨g,eg⟩:∃g,rGl b=g:=⟨_,rfl⟩;rw[eo,eg]at hb hg;rw[eg]at hv;rw[eo,eg];have hpo:iL o=b↔gr (cE o.glass)=gr g:=by
  conv=>lhs;rhs;rw[hb]
  unfold iL;simp only[List.append_cancel_left_eq]
 have hgk:=pN hv;have hkey:iL o=b↔g.kind=1:=by
  rw[hpo];constructor
  ·intro h
   unfold gr at h;have:=(Ob (a:=(cE o.glass).kind) (show i64 1 from tu acN acN) (tu acK acK) h).1
   exact this.symm
  ·intro h
   have e:cE o.glass=g:=by
    obtain⟨k,n,t⟩:=g;simp only at h;subst h;unfold aW at hv;simp only[if_true,Bool.and_eq_true,Bool.or_eq_true,beq_iff_eq]at hv;obtain⟨h1,rfl⟩:=hv;rcases h1 with rfl|rfl
    ·rw[show o.glass=false from hg];rfl
    ·rw[show o.glass=true from hg];rfl
   rw[e]
 cases hk:(g.kind==1)
 ·have hn:¬g.kind=1:=by simpa using hk
  have hp:decide (iL o=b)=false:=decide_eq_false fun h=>hn (hkey.1 h)
  rw[hp];simp
 ·have hp:decide (iL o=b)=true:=decide_eq_true (hkey.2 agA)
  rw[hp];simp
def jC(s:RS):bt×RS:=if s.bad=false∧s.at_+1<s.b.length∧s.b.getD s.at_ 0=0∧s.b.getD (s.at_+1) 0=0 then(an,{s with at_:=s.at_+2})else iC s
def zP(b:Txt):OpD×bt×RS:=
 let k:=cj ⟨b,0,false⟩
 let s1:=aM k.2 16
 let s2:=aM s1.2 16
 let s3:=aM s2.2 16
 let s4:=aM s3.2 16
 let v:=jC s4.2
 let r:=cj v.2
 let t:=aM r.2 4096
 let w:=aM t.2 64
 let g:=iC w.2
 (⟨k.1,s1.1,s2.1,s3.1,s4.1,v.1,r.1,t.1,w.1,g.1.n==1⟩,g.1,g.2)
def ur(b:Txt):Option OpD:=if nW (zP b).2.2 && ((zP b).2.1.kind==1 && dD (zP b).1)then some (zP b).1 else none
theorem tV(h:s.bad=true):(iC s).2.bad=true:=by
 obtain⟨⟨v,s1⟩,ex⟩:∃x,iC s=x:=⟨_,rfl⟩;rw[ex];cases e:s1.bad
 ·have:=(qY ex e).1.ok
  rw[h]at this;cases this
 ·rfl
theorem oE(h:s.bad=true):(aM s m).2.bad=true:=by
 obtain⟨⟨v,s1⟩,ex⟩:∃x,aM s m=x:=⟨_,rfl⟩;rw[ex];cases e:s1.bad
 ·have:=(iN ex e).1.ok
  rw[h]at this;cases this
 ·rfl
theorem uZ(h:s.bad=true):rIn s lo hi=(0,s):=by unfold rIn;rw[if_pos h]
theorem Us(hb:s.bad=false)(hl:s.at_<s.b.length)(h0:s.b.getD s.at_ 0=0):rIn s 0 0=(0,{s with at_:=s.at_+1}):=by
 have e:s.b[s.at_]=0:=acL;have hd:s.b.drop s.at_=0::s.b.drop (s.at_+1):=by rw[List.drop_eq_getElem_cons hl,e]
 simp[rIn,hb,hd,iU,unzig]
theorem KZ(hb:s.bad=false)(h:¬(s.at_<s.b.length∧s.b.getD s.at_ 0=0)):(rIn s 0 0).2.bad=true:=by
 obtain⟨⟨n,s1⟩,ex⟩:∃x,rIn s 0 0=x:=⟨_,rfl⟩;rw[ex];cases e:s1.bad
 ·obtain⟨hT,_,h1,h2⟩:=jS ex e
  have hx:=hT.x;obtain rfl:n=0:=acK;rw[show dP 0= [0]from rfl]at hx
  exfalso
  refine h ⟨?_,?_⟩
  ·have:=congrArg List.length hx
   simp only[List.length_drop,acE,List.length_cons]at this;omega
  ·have:=congrArg (fun l=>l.getD 0 0) hx
   simpa using this
 ·rfl
theorem MD(hl:s.at_<s.b.length)(h0:s.b.getD s.at_ 0=0):(iC s).2.bad=true:=by
 obtain⟨⟨v,s1⟩,ex⟩:∃x,iC s=x:=⟨_,rfl⟩;rw[ex];cases e:s1.bad
 ·obtain⟨hT,hv⟩:=qY ex e
  have hx:=hT.x;have hk:=pN hv;unfold gr at hx
  exfalso
  have hg:(s.b.drop s.at_).getD 0 0=0:=by simpa using h0
  rw[hx]at hg;have h5:v.kind=1∨v.kind=2∨v.kind=3∨v.kind=4∨v.kind=5:=acK;rcases h5 with h|h|h|h|h<;>rw[h]at hg
  ·rw[show dP 1= [2]from rfl]at hg;simp at hg
  ·rw[show dP 2= [4]from rfl]at hg;simp at hg
  ·rw[show dP 3= [6]from rfl]at hg;simp at hg
  ·rw[show dP 4= [8]from rfl]at hg;simp at hg
  ·rw[show dP 5= [10]from rfl]at hg;simp at hg
 ·rfl
theorem UF(s:RS):jC s=jH s∨((jC s).2.bad=true∧(jH s).2.bad=true):=by
 by_cases hb:s.bad=true
 ·refine .inr ⟨?_,?_⟩
  ·rw[jC,if_neg (by rw[hb];simp)]
   exact tV hb
  ·unfold jH
   split
   ·simp only[uZ hb]
    exact hb
   ·exact tV hb
 have hb:s.bad=false:=by simpa using hb
 by_cases h0:s.at_<s.b.length∧s.b.getD s.at_ 0=0
 ·have e:jH s=(an,(rIn (rIn s 0 0).2 0 0).2):=by rw[jH,if_pos h0]
  rw[Us hb h0.1 h0.2]at e
  by_cases h1:s.at_+1<s.b.length∧s.b.getD (s.at_+1) 0=0
  ·left
   rw[e,jC,if_pos ⟨hb,h1.1,h0.2,h1.2⟩,Us (s:={s with at_:=s.at_+1}) hb h1.1 h1.2]
  ·refine .inr ⟨?_,?_⟩
   ·rw[jC,if_neg fun h=>h1 ⟨h.2.1,h.2.2.2⟩]
    exact MD h0.1 h0.2
   ·rw[e]
    exact KZ (s:={s with at_:=s.at_+1}) hb h1
 ·left
  rw[jH,if_neg h0,jC,if_neg fun h=>h0 ⟨acK,h.2.2.1⟩]
theorem Qj(b:Txt):((zP b).2.2.bad=true∧(rOp b).2.bad=true)∨((zP b).2.2=(rOp b).2∧(zP b).2.1=rGl b∧((rOp b).2.bad=false→(rGl b).kind=1→(zP b).1=(rOp b).1)):=by
 unfold zP rOp rGl;obtain⟨⟨k,a0⟩,e0⟩:∃x,cj ⟨b,0,false⟩=x:=⟨_,rfl⟩;simp only[e0];obtain⟨⟨t1,a1⟩,e1⟩:∃x,aM a0 16=x:=⟨_,rfl⟩;simp only[e1];obtain⟨⟨t2,a2⟩,e2⟩:∃x,aM a1 16=x:=⟨_,rfl⟩;simp only[e2];obtain⟨⟨t3,a3⟩,e3⟩:∃x,aM a2 16=x:=⟨_,rfl⟩;simp only[e3];obtain⟨⟨t4,a4⟩,e4⟩:∃x,aM a3 16=x:=⟨_,rfl⟩;simp only[e4];rcases UF a4 with h|⟨h1,h2⟩
 ·right
  rw[h];obtain⟨⟨v,a5⟩,e5⟩:∃x,jH a4=x:=⟨_,rfl⟩;simp only[e5];obtain⟨⟨r,a6⟩,e6⟩:∃x,cj a5=x:=⟨_,rfl⟩;simp only[e6];obtain⟨⟨t7,a7⟩,e7⟩:∃x,aM a6 4096=x:=⟨_,rfl⟩;simp only[e7];obtain⟨⟨t8,a8⟩,e8⟩:∃x,aM a7 64=x:=⟨_,rfl⟩;simp only[e8];obtain⟨⟨g,a9⟩,e9⟩:∃x,iC a8=x:=⟨_,rfl⟩;simp only[e9];refine⟨trivial,trivial,fun hb hk=>?_⟩
  obtain⟨_,hv⟩:=qY e9 hb;obtain⟨k,n,t⟩:=g;simp only at hk;subst hk;have ht:t= []:=by simp[aW]at hv;exact hv.2
  subst ht;simp[eqV,cE]
 ·left
  constructor
  ·refine tV (oE (oE ?_))
   unfold cj;rw[uZ h1];exact h1
  ·refine tV (oE (oE ?_))
   unfold cj;rw[uZ h2];exact agH
theorem Ny(b:Txt):ur b=ld b:=by
 rw[←NJ];unfold ur QY;rcases Qj b with⟨h1,h2⟩|⟨h1,h2,h3⟩
 ·simp[nW,h1,h2]
 rw[h1,h2];cases hE:nW (rOp b).2
 ·simp
 have hb:(rOp b).2.bad=false:=by unfold nW at hE;simp only[Bool.and_eq_true,Bool.not_eq_true']at hE;exact hE.2
 cases hk:((rGl b).kind==1)
 ·simp
 rw[h3 hb agA];simp
def AA(o:OpD):Bool:=
 let c:= !(o.case== []);let f:= !(o.field== []);let v:= !(eqV o.val an);let r:= !(o.review==0);let t:= !(o.text== []);let to:= !(o.to== [])
 if !aK o.subj||(!(o.reason== []) && (!o.glass||decide ((64:Int)<(o.reason.length:Int))))||(o.glass && o.reason== [])then false
 else if(c && !aK o.case)||(f && !aK o.field)||(v && !aW o.val)||(to && !aK o.to)||decide ((4096:Int)<(o.text.length:Int))then false
 else if o.glass && (decide (o.kind<1)||decide (4<o.kind))then false
 else if o.kind=1 then c && !f && !v && !r && !t && !to
 else if o.kind=2 then c && f && !v && !r && !t && !to
 else if o.kind=3 then c && f && v && !r && !t && !to
 else if o.kind=4 then c && !f && !v && !r && !t && to
 else if o.kind=5 then !c && !f && !v && decide (0<o.review) && !t && !to
 else if o.kind=6 then c && f && !v && !r && !t && !to
 else if o.kind=7 then !c && !f && !v && !r && !to
 else if o.kind=8 then !c && !f && !v && decide (0<o.review) && decide (o.review≤1099511627776) && !t && !to
 else false
theorem EZ(l:Txt):gM l= !(!(l== []) && !aK l):=by unfold gM;cases (l== [])<;>cases aK l<;>rfl
theorem CZ(o:OpD):AA o=dD o:=by
 have hl:decide (o.text.length≤4096)= !decide ((4096:Int)<(o.text.length:Int)):=by
  by_cases h:o.text.length≤4096
  ·rw[decide_eq_true h,decide_eq_false acK];rfl
  ·rw[decide_eq_false h,decide_eq_true acK];rfl
 have hr:decide (o.reason.length≤64)= !decide ((64:Int)<(o.reason.length:Int)):=by
  by_cases h:o.reason.length≤64
  ·rw[decide_eq_true h,decide_eq_false acK];rfl
  ·rw[decide_eq_false h,decide_eq_true acK];rfl
 unfold AA dD kU dI;rw[hl,hr,EZ,EZ,EZ];generalize aK o.subj=n;generalize decide ((4096:Int)<(o.text.length:Int))=b1;generalize decide ((64:Int)<(o.reason.length:Int))=b2;generalize aK o.case=nc;generalize aK o.field=nf;generalize aK o.to=nt;generalize aW o.val=nv;cases n
 ·simp
 cases b1
 case true=>simp
 rw[Bool.eq_iff_iff]
 by_cases k1:o.kind=1
 ·simp[jW,okD,fh,fI,ic,an,eqV,k1]
  grind
 by_cases k2:o.kind=2
 ·simp[jW,okD,fh,fI,ic,an,eqV,k2]
  grind
 by_cases k3:o.kind=3
 ·simp[jW,okD,fh,fI,ic,an,eqV,k3]
  grind
 by_cases k4:o.kind=4
 ·simp[jW,okD,fh,fI,ic,an,eqV,k4]
  grind
 by_cases k5:o.kind=5
 ·simp[jW,okD,fh,fI,ic,an,eqV,k5]
  grind
 by_cases k6:o.kind=6
 ·simp[jW,okD,fh,fI,ic,an,eqV,k6]
  grind
 by_cases k7:o.kind=7
 ·simp[jW,okD,fh,fI,ic,an,eqV,k7]
  grind
 by_cases k8:o.kind=8
 ·simp[jW,okD,fh,fI,ic,an,eqV,k8]
  grind
 simp[k1,k2,k3,k4,k5,k6,k7,k8];omega
end Go.Bf
namespace Go.Proofs.YteaaeelhjnhaaaaGreatDoor
open Go Go.Ab Go.Bf Tryz
variable {g h h0 G h':Heap}{y R:AV}{l:Txt}{m lo hi:Int}{Q:AV→Heap→Prop}{f:FuncId}{args cs:List AV}{s s':RS}{q:Perm}{a k n:Nat}{ds:List qc}{sp S:List Nat}{d:D}
theorem u8_or128{ty:TypeId}{K:AV→Prop}(n:Nat):cy U .or ty (.v (.int .u8 ((UInt8.ofNat n).toNat:Int))) (.v (.int .u8 128)) K=K (.v (.int .u8 ((UInt8.ofNat (n % 128+128)).toNat:Int))):=by
 have key:∀c:BitVec 8,(c|||128#8).toNat=c.toNat % 128+128:=acN
 have e:IntKind.u8.wrap (((BitVec.ofInt IntKind.u8.bits ((UInt8.ofNat n).toNat:Int)|||BitVec.ofInt IntKind.u8.bits 128).toNat:Nat):Int)=((UInt8.ofNat (n % 128+128)).toNat:Int):=by
  have h1:=key (BitVec.ofInt 8 ((UInt8.ofNat n).toNat:Int));rw[show BitVec.ofInt IntKind.u8.bits 128=128#8 from rfl]
  change IntKind.u8.wrap (((BitVec.ofInt 8 ((UInt8.ofNat n).toNat:Int)|||128#8).toNat:Nat):Int)=_
  rw[h1];have h2:(BitVec.ofInt 8 ((UInt8.ofNat n).toNat:Int)).toNat=n % 256:=by rw[BitVec.toNat_ofInt];simp only[UInt8.toNat_ofNat'];omega
  rw[h2,wu8];simp only[UInt8.toNat_ofNat'];omega
 exact(Qo ..).trans (congrArg (fun z=>K (.v (.int .u8 z))) e)
theorem fE.Qm{v:AV}{m:Txt}(ha:fE g h y l)(hsrc:∀k:List AV→Prop,k (m.map aI)→gX U 5 h v k)(hlen:l.length+m.length≤140737488355328)
  (hk:∀y' h',fE g h' y' (l++m)→eu h h'→Q y' h'):apK U h y v Q (.slice 5):=
 Acc.app ha u5n U4 hsrc (by grind [u5,gu]) (by grind [u5,gu]) (by grind [OK]) fun y' h' hy hK=>hk y' h' acL hK
def GrB(g h h' :Heap)(r:AV)(l:Txt):Prop:=fE g h' r l∧eu h h'
theorem fE.on{h2:Heap}(ha:fE g h y l)(hs:Ab.Sub h h2):fE g h2 y l:=Acc.sub ha hs
theorem yE(y:AV)(l:Txt)(n:Int)(g h:Heap)(ha:fE g h y l)(hl:l.length≤1000000)(hn:i64 n):
  ai prog 39 [y,.i n] h fun r h' =>GrB g h h' r (l++dP n):=by
 obtain⟨m,hm0,hm2,hm3,hm4⟩:=MR n hn;have hz:=zz hn;have hz64:=zA hn;refine ai.of_wp hU func39 rfl acY 28 rfl [.tmp 4] rfl (acz rfl) ?_;refine .cut (fun ρ g' =>g' =h∧lk ρ 0=some y∧lk ρ 1=some (.i n)) (.vc hU hm ?_) ?_
 ·simp only[go_sem]
  refine⟨rfl,?_,?_⟩<;>simp only[go_sem]
 rintro ρ g1 ⟨rfl,r0,r1⟩
 refine .cut (fun ρ g' =>g' =g1∧lk ρ 0=some y∧lk ρ 1=some (.i n)∧lk ρ 5=some (.v (.int .u64 ((m*2 % 18446744073709551616:Nat):Int)))) (.vc hU hm ?_) ?_
 ·simp only[go_sem,r0,r1,hm0]
  refine⟨rfl,?_,?_,?_⟩<;>simp only[go_sem,r0,r1]
 clear r0 r1
 rintro ρ g2 ⟨rfl,r0,r1,r5⟩
 refine .cut (fun ρ g' =>g' =g2∧lk ρ 0=some y∧lk ρ 5=some (.v (.int .u64 ((zig n:Nat):Int)))) (.vc hU hm ?_) ?_
 ·cases d1:decide (n<0)
  ·have h0:=acD d1
   simp only[go_sem,r0,r1,r5,d1,hm3 acK];rw[←hm3 acK]at*;refine⟨rfl,?_,?_⟩<;>simp only[go_sem,r0,r5]
  ·have h0:=acC d1
   simp only[go_sem,r0,r1,r5,d1,hm4 h0,show m*2 % 18446744073709551616<18446744073709551616 from acK]
   refine⟨rfl,?_,?_⟩<;>simp only[go_sem,r0]
 clear r0 r1 r5 hm3 hm4
 rintro ρ g3 ⟨rfl,r0,r5⟩
 refine .vc hU hm ?_;simp only[go_sem,r0,r5];refine .intro (fun k ρ h' =>∃(v:Nat) (o:Txt) (z:AV),fE g h' z (l++o)∧eu g3 h'∧o++jh k v=dP n∧v<128 ^ k∧v<18446744073709551616∧0<k∧o.length≤10∧lk ρ 5=some (.v (.int .u64 (v:Int)))∧lk ρ 0=some z) 10 ?_ ?_
 ·refine⟨zig n,[],y,acL,.refl _,rfl,hz,hz64,acN,acS,?_,?_⟩<;>simp only[go_sem,r0,r5]
 clear r0 r5
 rintro k ρ h' ⟨v,o,z,ha,hK,ho,hv,hv64,hk,hol,r5,r0⟩
 obtain⟨k,rfl⟩:∃j,k=j+1:=⟨k - 1,acK⟩;have hlo:=congrArg List.length ho;rw[acE]at hlo;have hnl:=fT n;cases d1:decide ((128:Int)≤(v:Int))
 ·have h0:=acD d1
  have e:jh (k+1) v= [UInt8.ofNat v]:=by unfold jh;grind
  simp only[go_sem,r5,r0,d1,wu8];refine fE.Qm ha (m:=[UInt8.ofNat v]) (fun _ hk=>hk) acL fun z' h2 ha' hK2=>?_
  simp only[go_sem];refine .same (.refl _) ⟨?_,hK.trans hK2⟩;rw[←ho,e,←List.append_assoc];exact ha'
 ·have h0:=acC d1
  have e:jh (k+1) v=UInt8.ofNat (v % 128+128)::jh k (v / 128):=by conv=>lhs;unfold jh;rw[if_neg acK]
  rw[e]at hlo ho;simp only[List.length_cons]at hlo;have hk1:0<k:=by grind
  simp only[go_sem,r5,r0,d1,wu8,u8_or128];refine fE.Qm ha (m:=[UInt8.ofNat (v % 128+128)]) (fun _ hk=>hk) acL fun z' h2 ha' hK2=>?_
  simp only[go_sem,r5];refine⟨k,acK,v / 128,o++ [UInt8.ofNat (v % 128+128)],z',?_,hK.trans hK2,?_,?_,acK,hk1,?_,?_,?_⟩
  ·grind
  ·grind
  ·omega
  ·grind
  ·rfl
  rfl
theorem nI(y:AV)(l s:Txt)(g h:Heap)(ha:fE g h y l)(hl:l.length≤1000000)(hs:s.length≤1000000):
  ai prog 40 [y,.s s] h fun r h' =>GrB g h h' r (l++bN s):=by
 have hn:i64 (s.length:Int):=⟨acK,acK⟩;refine acJ func40 11 [.tmp 4] fun hwf=>?_
 simp only[go_sem];refine(yE y l s.length g h ha hl hn).mono fun r h' ⟨ha,hK⟩=>?_
 simp only[go_sem];have hnl:=fT s.length;refine fE.Qm ha (m:=s) (fun _ hk=>(Mk ..).mpr ⟨acY,u5,hk⟩) acL fun z' h2 ha' hK2=>?_
 simp only[go_sem];refine .same (.refl _) ⟨?_,hK.trans hK2⟩;unfold bN;rw[←List.append_assoc];exact ha'
theorem ME(y:AV)(l:Txt)(v:bt)(g h:Heap)(ha:fE g h y l)(hl:l.length≤900000)(hk:i64 v.kind)(hn:i64 v.n)(hs:v.s.length≤1000000):
  ai prog 41 [y,aP v] h fun r h' =>GrB g h h' r (l++gr v):=by
 have hnl:=fT v.kind;have hl2:(l++dP v.kind).length≤1000000:=acL;refine acJ func41 25 [.tmp 4] fun hwf=>?_
 simp only[go_sem,aP];intro id hid;have hs0:Ab.Sub h (upd h id (some (.obj [.i v.kind,.i v.n,.s v.s] 23))):=(Ab.Sub.refl h).new hid _;have ha2:=ha.on hs0;have hK0:=hs0.fR;have hc:upd h id (some (.obj [.i v.kind,.i v.n,.s v.s] 23)) id=_:=ah ..;generalize upd h id (some (.obj [.i v.kind,.i v.n,.s v.s] 23))=H at ha2 hc hK0⊢;clear hs0;simp only[go_sem,hc];refine(yE y l v.kind g H ha2 acK hk).mono fun r h1 ⟨ha3,hK3⟩=>?_
 have hc1:=hK3 _ _ _ hc;simp only[go_sem,hc1];cases d1:(v.kind==3)
 ·cases d2:(v.kind==5)
  ·have e:¬(v.kind=3∨v.kind=5):=by grind
   simp only[go_sem,hc1,d1,d2];refine(yE r (l++dP v.kind) v.n g h1 ha3 hl2 hn).mono fun r2 h2 ⟨ha4,hK4⟩=>?_
   simp only[go_sem];refine .same (.refl _) ⟨?_,hK0.trans (hK3.trans hK4)⟩;unfold gr;rw[if_neg e,←List.append_assoc];exact ha4
  ·have e:v.kind=3∨v.kind=5:=by grind
   simp only[go_sem,hc1,d1,d2];refine(nI r (l++dP v.kind) v.s g h1 ha3 hl2 hs).mono fun r2 h2 ⟨ha4,hK4⟩=>?_
   simp only[go_sem];refine .same (.refl _) ⟨?_,hK0.trans (hK3.trans hK4)⟩;unfold gr;rw[if_pos e,←List.append_assoc];exact ha4
 ·have e:v.kind=3∨v.kind=5:=by grind
  simp only[go_sem,hc1,d1];refine(nI r (l++dP v.kind) v.s g h1 ha3 hl2 hs).mono fun r2 h2 ⟨ha4,hK4⟩=>?_
  simp only[go_sem];refine .same (.refl _) ⟨?_,hK0.trans (hK3.trans hK4)⟩;unfold gr;rw[if_pos e,←List.append_assoc];exact ha4
theorem Qr(b:Bool)(h:Heap):ai prog 42 [.b b] h fun r h' =>r=aP (cE b)∧h' =h:=by
 refine acJ func42 6 [.cell 2 23] fun hwf=>?_
 cases b
 ·exact ahe
 ·exact ahe
def cod(b:Bool):Int:=if b then 7 else 0
def RX(q:Perm)(s:RS):Blk:=.obj [.sl (s.b.map aI) q,.i (s.at_:Int),.i (cod s.bad)] 50
def XR(f:FuncId)(args:List AV)(s:RS)(R:AV)(s' :RS):Prop:=∀(q:Perm) (h:Heap) (id:Nat),h id=some (RX q s)→ai prog f (.ptr id 0::args) h fun r h' =>r=R∧h' =upd h id (some (RX q s'))
theorem XR.go(hc:XR f args s R s'){id:Nat}(hid:h id=some (RX q s))(k:Q R (upd h id (some (RX q s')))):ai prog f (.ptr id 0::args) h Q:=
 (hc q h id hid).mono fun r h' ⟨e1,e2⟩=>aeP
theorem XR.step(hc:XR f args s R s'){id:Nat}(hid:h id=some (RX q s))
  (k:∀h2,h2=upd h id (some (RX q s'))→h2 id=some (RX q s')→(∀b,upd h2 id b=upd h id b)→Q R h2):ai prog f (.ptr id 0::args) h Q:=
 hc.go hid (k _ rfl (ah ..) fun b=>by grind [ah,ag])
def zQ(s:RS):RS:={s with bad:=true}
theorem xz:cod true=7:=rfl
theorem vv:cod false=0:=rfl
theorem qx(s:RS):XR 54 [.i 7] s (.i 0) (zQ s):=fun q h id hid=>by
 refine acJ func54 9 [.tmp 4] fun hwf=>?_
 have g:=hid;unfold RX at g;simp only[go_sem,g];exact adj
theorem TY(s:RS)(hw:WfR s):XR 27 [] s (.i (if nW s then 0 else 7)) s:=fun q h id hid=>by
 refine acJ func27 22 [.tmp 2] fun hwf=>?_
 have g:=hid;unfold RX at g;have hw1:=hw.1;cases d0:s.bad
 ·rw[d0,vv]at g
  by_cases h1:s.at_=s.b.length
  ·have d1:((s.at_:Int) !=(s.b.length:Int))=false:=by simp[h1]
   simp only[go_sem,g,acA,d1];refine⟨.of acO,?_⟩;refine .mk _ (.refl _) (.refl _) ⟨?_,(bl hid).symm⟩;rw[show nW s=true by simp[nW,d0,h1]]
   rfl
  ·have d1:((s.at_:Int) !=(s.b.length:Int))=true:=by simp;omega
   simp only[go_sem,g,acA,d1];refine⟨.of acO,?_⟩;refine .mk _ (.refl _) (.refl _) ⟨?_,(bl hid).symm⟩;rw[show nW s=false by simp[nW,d0];omega]
   rfl
 ·rw[d0,xz]at g
  simp only[go_sem,g];refine .mk _ (.refl _) (.refl _) ⟨?_,(bl hid).symm⟩;rw[show nW s=false by simp[nW,d0]]
  rfl
theorem RB(s:RS)(lo hi:Int):rIn s lo hi=(if(cj s).2.bad=false∧((cj s).1<lo∨hi<(cj s).1)then(0,zQ {(cj s).2 with at_:=s.at_})else cj s):=by
 obtain⟨x,ex⟩:∃x,iU 10 0 0 (s.b.drop s.at_)=x:=⟨_,rfl⟩;cases hb:s.bad
 ·by_cases h0:x.2=0
  ·have e:∀a b,rIn s a b=(0,fk s s.at_):=fun a b=>by simp[rIn,hb,ex,h0]
   have hf:(fk s s.at_).bad=true:=by simp[fk,hb]
   simp[cj,e,hf]
  ·have hx:=(yF (l:=s.b.drop s.at_) (n:=x.1) (k:=x.2) ex h0).1
   have e:cj s=(x.1,{s with at_:=s.at_+x.2}):=by exact aiB
   rw[e];unfold rIn;rw[if_neg (by simp[hb]),ex]
   simp only
   by_cases hc:x.1<lo∨hi<x.1
   ·rw[if_pos (.inr hc),if_pos ⟨hb,hc⟩]
    simp[fk,hb,zQ]
   ·rw[if_neg acK,if_neg acK]
 ·have e:∀a b,rIn s a b=(0,s):=fun a b=>uZ hb
  simp[cj,e,hb]
theorem Om(hb:s.bad=false):cj s=(if(iU 10 0 0 (s.b.drop s.at_)).2=0 then(0,zQ s)else((iU 10 0 0 (s.b.drop s.at_)).1,{s with at_:=s.at_+(iU 10 0 0 (s.b.drop s.at_)).2})):=by
 obtain⟨x,ex⟩:∃x,iU 10 0 0 (s.b.drop s.at_)=x:=⟨_,rfl⟩;rw[ex]
 by_cases h0:x.2=0
 ·simp[cj,rIn,hb,ex,h0,fk,zQ]
 ·have hx:=(yF (l:=s.b.drop s.at_) (n:=x.1) (k:=x.2) ex h0).1
  rw[if_neg h0];exact aiB
theorem G0(s:RS)(hw:WfR s):XR 24 [] s (.v (.int .i64 (cj s).1)) (cj s).2:=fun q h id hid=>by
 refine acJ func24 88 [.tmp 2] fun hwf=>?_
 have hw1:=hw.1;have hw2:=hw.2;have g:=hid;unfold RX at g;cases d0:s.bad
 case true=>rw[d0,xz]at g;simp only[go_sem,g];have e:cj s=(0,s):=uZ d0;rw[e];exact aet
 have e0:=Om d0;rw[d0,vv]at g;simp only[go_sem,g];generalize hx:iU 10 0 0 (s.b.drop s.at_)=x at e0;refine .intro (fun k ρ h' =>h' =h∧∃(i u:Nat),k+i=10∧i≤9∧iU k i u (s.b.drop (s.at_+i))=x∧u<128 ^ i∧lk ρ 0=some (.ptr id 0)∧lk ρ 3=some (.v (.int .u64 (u:Int)))∧lk ρ 4=some (.i (i:Int))) 10 ?_ ?_
 ·refine⟨rfl,0,0,rfl,acK,hx,acN,?_,?_,?_⟩<;>simp only[go_sem]
  all_goals rfl
 rintro k ρ h' ⟨rfl,i,u,hki,hi9,hr,hu,r0,r3,r4⟩
 obtain⟨k,rfl⟩:∃j,k=j+1:=⟨k - 1,acK⟩;have w1:IntKind.i64.wrap ((s.at_:Int)+(i:Int))=((s.at_+i:Nat):Int):=ac4;have w2:=acG i acK;have bad:x=(0,0)→cj s=(0,zQ s):=fun e=>by rw[e0,e];rfl
 by_cases hc:s.at_+i<s.b.length
 case neg=>have d2:decide ((s.b.length:Int)≤((s.at_+i:Nat):Int))=true:=decide_eq_true acK;simp only[go_sem,r0,r3,r4,g,w1,acA,d2];rw[List.drop_eq_nil_of_le acK]at hr;rw[bad aeH];refine⟨.of acO,?_⟩;refine(qx s).go hid ?_;exact aha
 have d2:decide ((s.b.length:Int)≤((s.at_+i:Nat):Int))=false:=decide_eq_false acK;rw[List.drop_eq_getElem_cons hc]at hr;generalize hcc:s.b[s.at_+i]=c at hr;simp only[go_sem,r0,r3,r4,g,w1,acA,d2];refine⟨.of acO,.of acO,?_⟩;refine .at (s.at_+i) (by simpa using hc) acZ ?_
 simp only[go_sem,r0,r3,r4,acB,hcc,aI];have hclt:=c.toNat_lt;have pw:(2:Nat) ^ (7*i)=128 ^ i:=by rw[Nat.pow_mul]
 have p9:(128:Nat) ^ 9=9223372036854775808:=acN;unfold iU at hr
 by_cases hb:(i=9∧1<c.toNat)∨(0<i∧c.toNat=0)
 ·rw[if_pos hb]at hr
  rw[bad hr.symm]
  by_cases h9:i=9∧1<c.toNat
  ·have d3:((i:Int)==9)=true:=by simp;omega
   have d4:decide ((1:Int)<(c.toNat:Int))=true:=decide_eq_true acK;simp only[go_sem,r0,r3,r4,d3,d4];refine(qx s).go hid ?_;exact aha
  ·have hb:0<i∧c.toNat=0:=by omega
   have d4:decide ((1:Int)<(c.toNat:Int))=false:=decide_eq_false acK;have d5:decide ((0:Int)<(i:Int))=true:=decide_eq_true acK;have d6:((c.toNat:Int)==0)=true:=ade;cases d3:((i:Int)==9)<;>simp only[go_sem,r0,r3,r4,d3,d4,d5,d6]<;>refine(qx s).go hid ?_<;>simp only[go_sem]<;>exact .mk _ (.refl _) (.refl _) ⟨rfl,rfl⟩
 rw[if_neg hb]at hr;have hle:c.toNat % 128*128 ^ i+u<18446744073709551616:=by exact ahr
 have w3:IntKind.u64.wrap ((c.toNat % 128:Nat):Int)=((c.toNat % 128:Nat):Int):=MO _ acK;have w4:IntKind.i64.wrap ((7:Int)*(i:Int))=((7*i:Nat):Int):=ac4;have h63:7*i≤63:=acK;have hu' :u<2 ^ (7*i):=by rw[pw];exact hu
 have hor:u+c.toNat % 128*2 ^ (7*i)<18446744073709551616:=by rw[pw];omega
 have wS:c.toNat % 128*2 ^ (7*i) % 18446744073709551616=c.toNat % 128*2 ^ (7*i):=Nat.mod_eq_of_lt acK;have w7:IntKind.i64.wrap ((s.at_:Int)+((i+1:Nat):Int))=((s.at_+(i+1):Nat):Int):=ac4;have three:(i=9∧c.toNat≤1∧c.toNat≠0)∨(i<9∧0<i∧c.toNat≠0)∨i=0:=acK;have step:∀(Q:Prop),((((i:Int)==9)=true→decide ((1:Int)<(c.toNat:Int))=false→decide ((0:Int)<(i:Int))=true→((c.toNat:Int)==0)=false→Q))→(((i:Int)==9)=false→decide ((0:Int)<(i:Int))=true→((c.toNat:Int)==0)=false→Q)→(((i:Int)==9)=false→decide ((0:Int)<(i:Int))=false→Q)→Q:=fun Q q1 q2 q3=>by
  rcases three with⟨t1,t2,t3⟩|⟨t1,t2,t3⟩|t1
  ·exact q1 ade (decide_eq_false acK) (decide_eq_true acK) ade
  ·exact q2 ade (decide_eq_true acK) ade
  ·exact q3 ade (decide_eq_false acK)
 cases d7:decide ((c.toNat:Int)<128)
 ·have h7:=acD d7
  rw[if_neg acK]at hr;have hnew:u+c.toNat % 128*2 ^ (7*i)<128 ^ (i+1):=by rw[pw,Nat.pow_succ];exact ahs
  rw[←pw,Nat.add_assoc]at hr;generalize hU' :u+c.toNat % 128*2 ^ (7*i)=u' at hr hnew hor;have d9:(((i+1:Nat):Int)==10)=false:=ade;refine step _ (fun d3 d4 d5 d6=>?_) (fun d3 d5 d6=>?_) (fun d3 d5=>?_)
  ·have:=eq_of_beq d3;omega
  ·simp only[go_sem,r0,r3,r4,d3,d5,d6,w3,w4,h63,wS,hu',hU',hor,d7,w2,d9]
   exact aik
  ·simp only[go_sem,r0,r3,r4,d3,d5,w3,w4,h63,wS,hu',hU',hor,d7,w2,d9]
   exact aik
 ·have h7:=acC d7
  rw[if_pos acK]at hr;have ec:c.toNat % 128=c.toNat:=acK;rw[←pw]at hr;have hU0:u+c.toNat*2 ^ (7*i)=u+c.toNat % 128*2 ^ (7*i):=by rw[ec]
  rw[hU0]at hr;generalize hU' :u+c.toNat % 128*2 ^ (7*i)=u' at hr hor;have w6:IntKind.i64.wrap ((u' / 2:Nat):Int)=((u' / 2:Nat):Int):=aY _ acK;have b1:(-9223372036854775808:Int)≤((u' / 2:Nat):Int):=acK;have b2:((u' / 2:Nat):Int)≤9223372036854775807:=acK;have un:unzig u' =if u' % 2=1 then -((u' / 2:Nat):Int) - 1 else((u' / 2:Nat):Int):=rfl
  have eF:cj s=(unzig u',{s with at_:=s.at_+(i+1)}):=by rw[e0,←hr];rfl
  rw[eF];cases d8:(((u' % 2:Nat):Int)==1)
  ·have h8:¬u' % 2=1:=by intro hh;rw[hh]at d8;cases d8
   rw[if_neg h8]at un;rw[un];refine step _ (fun d3 d4 d5 d6=>?_) (fun d3 d5 d6=>?_) (fun d3 d5=>?_)
   ·simp only[go_sem,r0,r3,r4,d3,d4,d5,d6,w3,w4,h63,wS,hu',hU',hor,d7,w6,d8,w2,g,w7]
    exact .mk _ (.refl _) (.refl _) ⟨rfl,aeL⟩
   ·simp only[go_sem,r0,r3,r4,d3,d5,d6,w3,w4,h63,wS,hu',hU',hor,d7,w6,d8,w2,g,w7]
    exact .mk _ (.refl _) (.refl _) ⟨rfl,aeL⟩
   ·simp only[go_sem,r0,r3,r4,d3,d5,w3,w4,h63,wS,hu',hU',hor,d7,w6,d8,w2,g,w7]
    exact .mk _ (.refl _) (.refl _) ⟨rfl,aeL⟩
  ·have h8:u' % 2=1:=by have:=eq_of_beq d8;omega
   rw[if_pos h8]at un;rw[un];refine step _ (fun d3 d4 d5 d6=>?_) (fun d3 d5 d6=>?_) (fun d3 d5=>?_)
   ·simp only[go_sem,r0,r3,r4,d3,d4,d5,d6,w3,w4,h63,wS,hu',hU',hor,d7,w6,d8,b1,b2,w2,g,w7]
    exact .mk _ (.refl _) (.refl _) ⟨rfl,aeL⟩
   ·simp only[go_sem,r0,r3,r4,d3,d5,d6,w3,w4,h63,wS,hu',hU',hor,d7,w6,d8,b1,b2,w2,g,w7]
    exact .mk _ (.refl _) (.refl _) ⟨rfl,aeL⟩
   ·simp only[go_sem,r0,r3,r4,d3,d5,w3,w4,h63,wS,hu',hU',hor,d7,w6,d8,b1,b2,w2,g,w7]
    exact .mk _ (.refl _) (.refl _) ⟨rfl,aeL⟩
theorem Ut(s:RS)(hw:WfR s)(lo hi:Int):XR 55 [.i lo,.i hi] s (.v (.int .i64 (rIn s lo hi).1)) (rIn s lo hi).2:=fun q h id hid=>by
 refine acJ func55 37 [.tmp 6] fun hwf=>?_
 have g:=hid;unfold RX at g;have e:=RB s lo hi;simp only[go_sem,g];refine(G0 s hw).step hid ?_;generalize cj s=x at e⊢;obtain⟨n,t⟩:=x;simp only at e⊢;intro h2 eh2 hid2 hup;have g2:=hid2;unfold RX at g2;clear eh2;cases d0:t.bad
 ·rw[d0,vv]at g2
  by_cases hc:n<lo∨hi<n
  ·rw[if_pos ⟨d0,hc⟩]at e
   rw[e]
   by_cases h1:n<lo
   ·simp only[go_sem,g2,decide_eq_true h1]
    refine(qx {t with at_:=s.at_}).go (q:=q) (by rw[ah];unfold RX;rw[d0];rfl) ?_
    exact ahE
   ·simp only[go_sem,g2,decide_eq_false h1,decide_eq_true (show hi<n by omega)]
    refine(qx {t with at_:=s.at_}).go (q:=q) (by rw[ah];unfold RX;rw[d0];rfl) ?_
    exact ahE
  ·rw[if_neg fun h=>hc h.2]at e
   rw[e];simp only[go_sem,g2,decide_eq_false (show¬n<lo by omega),decide_eq_false (show¬hi<n by omega)]
   exact ahT
 ·rw[d0,xz]at g2
  rw[if_neg fun h=>by simp[d0]at h]at e
  rw[e];simp only[go_sem,g2];exact ahT
structure XAt (q:Perm) (h0:Heap) (id:Nat) (h:Heap) (s:RS):Prop where
 here:h id=some (RX q s)
 sub:∀j b,j≠id→h0 j=some b→h j=some b
theorem XAt.start{q}{id:Nat}(hid:h id=some (RX q s)):XAt q h id h s:=⟨hid,fun _ _ _ e=>e⟩
theorem XAt.fin{q}{id:Nat}(hr:XAt q h0 id h s):Ab.Sub (upd h0 id (some (RX q s))) h:=fun j b e=>by exact aij
theorem XAt.ne{q}{id i:Nat}(hr:XAt q h0 id h s)(hi:h i=none):i≠id:=fun e=>by rw[e,hr.here]at hi;grind
theorem XAt.none{q}{id i:Nat}(hr:XAt q h0 id h s)(hi:h i=Option.none):h0 i=Option.none:=by exact aiG
theorem XAt.put{q}{id i:Nat}{b:Option Blk}(hr:XAt q h0 id h s)(hi:h0 i=Option.none)(hn:i≠id):XAt q h0 id (upd h i b) s:=
 ⟨by rw[ag _ _ (Ne.symm hn)];exact hr.here,fun j c hj e=>by
  rw[ag _ _ fun e2=>acL]
  exact hr.sub j c hj e⟩
theorem XAt.set{q}{id:Nat}(hr:XAt q h0 id h s):XAt q h0 id (upd h id (some (RX q s'))) s' :=
 ⟨ah ..,fun j b hj e=>by rw[ag _ _ hj];exact hr.sub j b hj e⟩
theorem XAt.step{q}{id:Nat}(hr:XAt q h0 id h s)(hc:XR f args s R s')(k:∀h2,XAt q h0 id h2 s'→(∀j,j≠id→h2 j=h j)→Q R h2):ai prog f (.ptr id 0::args) h Q:=
 hc.go hr.here (k _ hr.set fun j hj=>ag _ _ hj)
theorem mR{i:Nat}{b:Option Blk}(e:upd g i b=G):G i=b:=by rw[←e,ah]
theorem gb{i j:Nat}{b c:Option Blk}(e:upd g i b=G)(n:i≠j)(hc:g j=c):G j=c:=by rw[←e,ag _ _ (Ne.symm n),hc]
theorem XAt.yQ{q}{id i:Nat}{b:Option Blk}(hr:XAt q h0 id g s)(e:upd g i b=G)(hi:h0 i=Option.none)(hn:i≠id):XAt q h0 id G s:=e▸hr.put hi hn
theorem XAt.RH{q}{id:Nat}{b:Option Blk}(hr:XAt q h0 id g s)(e:upd g id b=G)(hb:b=some (RX q s')):XAt q h0 id G s' :=by subst hb;exact e▸hr.set
theorem XAt.base{q}{id:Nat}(hr:XAt q h id g s)(hn:h id=Option.none):Ab.Sub h g:=fun j b e=>hr.sub j b acL e
theorem FN(h:(rIn s lo hi).2.bad=false):s.at_≤(rIn s lo hi).2.at_:=(jS (s:=s) (s' :=(rIn s lo hi).2) (n:=(rIn s lo hi).1) rfl h).1.le
theorem L1(h:(aM s m).2.bad=false):s.at_≤(aM s m).2.at_:=(iN (s:=s) (s' :=(aM s m).2) (t:=(aM s m).1) rfl h).1.le
theorem sE(s:RS)(hw:WfR s)(most:Int)(hmo:0≤most):XR 25 [.i most] s (.s (aM s most).1) (aM s most).2:=fun q h id hid=>by
 have hx:=iT (lo:=0) (hi:=most) hw;have hx2:=wN (lo:=0) (hi:=most) hw (Int.le_refl 0) hmo;have hxa:=FN (s:=s) (lo:=0) (hi:=most);refine acJ func25 64 [.tmp 4] fun hwf=>?_
 have g:=hid;unfold RX at g;simp only[go_sem,g];refine(Ut s hw 0 most).step hid ?_;have e:aM s most=(let x:=rIn s 0 most;if x.2.bad∨(x.2.b.length:Int) - x.2.at_<x.1 then([],fk x.2 s.at_)else((x.2.b.drop x.2.at_).take x.1.toNat,{x.2 with at_:=x.2.at_+x.1.toNat})):=rfl
 generalize rIn s 0 most=x at e hx hx2 hxa⊢;obtain⟨n,t⟩:=x;simp only at e hx hx2 hxa⊢;obtain⟨m,rfl⟩:=Int.eq_ofNat_of_zero_le hx2.1;have ht1:=hx.1;have ht2:=hx.2;intro h2 eh2 hid2 hup;have g2:=hid2;unfold RX at g2;have w1:IntKind.i64.wrap ((t.b.length:Int) - (t.at_:Int))=(t.b.length:Int) - (t.at_:Int):=aY _ acK;clear eh2 hid g;cases d1:t.bad
 ·have hxa:=hxa d1
  rw[d1,vv]at g2
  by_cases hb:(t.b.length:Int) - t.at_<((m:Nat):Int)
  ·rw[if_pos (.inr hb),show fk t s.at_=zQ {t with at_:=s.at_} by simp[fk,d1,hxa,zQ]]at e
   rw[e];simp only[go_sem,g2,w1,acA,decide_eq_true hb];refine⟨.of acO,?_⟩;refine(qx {t with at_:=s.at_}).go (q:=q) (by rw[ah];unfold RX;rw[d1];rfl) ?_
   exact ahE
  ·rw[if_neg (by simp[d1];omega)]at e
   rw[e];have hle:t.at_+m≤t.b.length:=acK;have w2:IntKind.i64.wrap ((t.at_:Int)+(m:Int))=((t.at_+m:Nat):Int):=acX;simp only[go_sem,g2,w1,acA,decide_eq_false hb];refine⟨.of acO,?_⟩;simp only[go_sem,g2,w2,acA];exact⟨.of acO,acK,acK,acK,.mk _ (.refl _) (.refl _) ⟨by rw[show t.at_+m - t.at_=m by omega];rfl,by rw[←hup];unfold RX;rw[d1];rfl⟩⟩
 ·rw[d1,xz]at g2
  rw[if_pos (.inl d1),show fk t s.at_=t by simp[fk,d1]]at e
  rw[e];simp only[go_sem,g2];exact ahT
theorem yC(l)(h):ai prog 31 [.s l] h fun r h' =>r= .b (aK l)∧h' =h:=by
 refine acJ func31 45 [.tmp 2] fun hwf=>?_
 simp only[go_sem];refine .intro (fun m ρ h' =>h' =h∧∃i:Nat,i≤l.length∧m=l.length - i∧sQ (l.take i)=true∧lk ρ 0=some (.s l)∧lk ρ 3=some (.i i)) l.length ?_ ?_
 ·refine⟨rfl,0,acK,rfl,rfl,?_,?_⟩<;>simp only[go_sem]
 ·rintro m ρ h' ⟨rfl,i,hi,rfl,hc,r0,r3⟩
  simp only[go_sem,r0,r3];refine .intro (fun e=>?_) (fun e=>?_)
  ·have hlt:i<l.length:=acH e
   have w1:IntKind.i64.wrap ((i:Int)+1)=((i+1:Nat):Int):=aec;have hb:=Ai l i hlt;have hg:=xy l i hlt;rw[hc]at hg;have hcl:=Gq l[i];have h255:=l[i].toNat_lt;simp only[go_sem,r0,r3];refine .at i hlt ?_;generalize hcc:l[i]=c at hb hg hcl h255⊢
   by_cases hi0:i=0
   ·have d5:decide ((0:Int)<(i:Int))=false:=decide_eq_false acK
    rcases hcl with⟨a1,a2,a3,a4,a5⟩|⟨a1,a2,a3,a4,a5⟩|⟨a1,a2,a3,a4,a5⟩|⟨a1,a2,a3,a4,a5⟩|⟨a1,a2,a3,a4,a5⟩|⟨a1,a2,a3,a4,a5⟩
    ·simp only[go_sem,r3,a1,a2,a3,a4,a5,w1]
     refine⟨_,?_,rfl,i+1,acK,rfl,by simp[hg,pX,ltr,a1,a2],?_,?_⟩
     ·omega
     all_goals simp only[go_sem,r0]
    all_goals
     simp only[go_sem,r3,a1,a2,a3,a4,a5,d5];exact .same (.refl _) ⟨by simp[aK,hb (by simp[pX,ltr,a1,a2,hi0]),ax],rfl⟩
   ·have d5:decide ((0:Int)<(i:Int))=true:=decide_eq_true acK
    rcases hcl with⟨a1,a2,a3,a4,a5⟩|⟨a1,a2,a3,a4,a5⟩|⟨a1,a2,a3,a4,a5⟩|⟨a1,a2,a3,a4,a5⟩|⟨a1,a2,a3,a4,a5⟩|⟨a1,a2,a3,a4,a5⟩
    all_goals simp only[go_sem,r3,a1,a2,a3,a4,a5,w1,d5]
    all_goals first
     |(refine⟨_,?_,rfl,i+1,acK,rfl,aes,?_,?_⟩
       ·omega
       all_goals simp only[go_sem,r0])
     |exact .same (.refl _) ⟨adO,rfl⟩
  ·have hge:i=l.length:=by have:=acD e;omega
   subst hge;rw[List.take_length]at hc;cases d1:decide ((1:Int)≤(l.length:Int))
   ·have h1:=acD d1
    simp only[go_sem,r0,d1];exact .same (.refl _) ⟨by simp[aK,hc,ax];omega,rfl⟩
   ·have h1:=acC d1
    simp only[go_sem,r0,d1];refine .same (.refl _) ⟨?_,rfl⟩;rw[show aK l=decide ((l.length:Int)≤16) by
     simp only[aK,hc,Bool.true_and];rw[decide_eq_true (show 1≤l.length by omega),Bool.true_and]
     exact decide_eq_decide.2 acK]
    rfl
theorem sH(v)(h):ai prog 32 [aP v] h fun r h' =>r= .b (aW v)∧h' =h:=by
 refine acJ func32 61 [.tmp 2] fun hwf=>?_
 simp only[go_sem,aP];intro id hid;cases k1:(v.kind==1)
 case true=>exact ahk
 have n1:v.kind≠1:=acL;cases k2:(v.kind==2)
 case true=>exact aia
 have n2:v.kind≠2:=acL;cases k3:(v.kind==3)
 case true=>exact ahH
 have n3:v.kind≠3:=acL;cases k4:(v.kind==4)
 case true=>exact ahz
 have n4:v.kind≠4:=acL;cases k5:(v.kind==5)
 case true=>
  have e1:v.kind=5:=acL;cases d1:(v.n==0)
  ·exact aie
  ·simp only[go_sem,k1,k2,k3,k4,k5,d1]
   refine(yC _ _).pthen ?_;exact aiE
 exact ahX
theorem RD(h:(rIn s lo hi).2.bad=false):s.bad=false:=by
 cases e:s.bad
 ·rfl
 ·rw[uZ e]at h;rw[←h,←e]
theorem L2(h:(aM s m).2.bad=false):s.bad=false:=by
 cases e:s.bad
 ·rfl
 ·rw[oE e]at h;cases h
theorem DU(hb:s.bad=false)(ha:a≤s.at_):fk s a=zQ {s with at_:=a}:=by simp[fk,hb,ha,zQ]
theorem PJ(s:RS)(hw:WfR s):XR 26 [] s (aP (iC s).1) (iC s).2:=fun q h id hid=>by
 have hw1:=iT (lo:=1) (hi:=5) hw;have hxa:=FN (s:=s) (lo:=1) (hi:=5);refine acJ func26 43 [.cell 2 23] fun hwf=>?_
 simp only[go_sem];intro i1 h1;have a0:=XAt.start hid;have n1:=a0.ne h1;have m1:=a0.none h1;generalize e1:upd h i1 _=g1;have b1:=a0.yQ e1 m1 n1;have c1:=mR e1;have r1:=b1.here;unfold RX at r1;clear a0 e1;simp only[go_sem,r1];refine b1.step (Ut s hw 1 5) fun g2 b2 k2=>?_
 have c2:=(k2 i1 n1).trans c1;clear b1 c1 k2 r1;simp only[go_sem];intro i2 h2;have n2:=b2.ne h2;have m2:=b2.none h2;have n21:i2≠i1:=fun e=>by rw[e,c2]at h2;cases h2
 have e:iC s=(let x:=rIn s 1 5;let y:bt×RS:=if ja x.1 then(let t:=aM x.2 64;(⟨x.1,0,t.1⟩,t.2))else(let t:=cj x.2;(⟨x.1,t.1,[]⟩,t.2));if y.2.bad then(an,y.2)else if aW y.1=false then(an,fk y.2 s.at_)else y):=rfl
 generalize rIn s 1 5=x at e hw1 b2 hxa⊢;obtain⟨kd,t⟩:=x;simp only at e hw1 b2 hxa⊢;simp only[go_sem];generalize e3:upd g2 i2 _=g3;have b3:=b2.yQ e3 m2 n2;have c3:=gb e3 n21 c2;have d3:=mR e3;clear b2 c2 h2 e3;cases t3:(kd==3)<;>cases t5:(kd==5)
 case false.false=>
  have et:ja kd=false:=by simp[ja,t3,t5]
  rw[et]at e;simp only[Bool.false_eq_true,if_false]at e;simp only[go_sem,d3,t3,t5];refine b3.step (G0 t hw1) fun g4 b4 k4=>?_
  have c4:=(k4 i1 n1).trans c3;have d4:=(k4 i2 n2).trans d3;have ha:(cj t).2.bad=false→s.at_≤(cj t).2.at_:=fun h=>Nat.le_trans (hxa (RD h)) (FN h)
  generalize cj t=x at e b4 ha⊢;obtain⟨n,y⟩:=x;simp only at e b4 ha⊢;simp only[go_sem,d4];generalize e5:upd g4 i2 _=g5;have b5:=b4.yQ e5 m2 n2;have c5:=gb e5 n21 c4;have d5:=mR e5;clear b3 c3 d3 b4 c4 d4 k4 e5;have r5:=b5.here;unfold RX at r5;cases db:y.bad
  ·rw[db,if_neg acN]at e
   rw[db,vv]at r5;simp only[go_sem,r5,d5];refine(sH (⟨kd,n,[]⟩:bt) g5).pthen ?_;cases dv:aW (⟨kd,n,[]⟩:bt)
   ·rw[dv,if_pos rfl,DU db (ha db)]at e
    simp only[go_sem,r5];generalize e6:upd g5 id _=g6;have b6:=b5.RH (s' :={y with at_:=s.at_}) e6 (by unfold RX;rw[db];rfl)
    have c6:=gb e6 n1.symm c5;refine b6.step (qx _) fun g7 b7 k7=>?_
    have c7:=(k7 i1 n1).trans c6;simp only[go_sem,c7,ah];rw[e];exact adS
   ·rw[dv,if_neg acN]at e
    simp only[go_sem,d5,c5,ah];rw[e];exact adQ
  ·rw[db,if_pos rfl]at e
   rw[db,xz]at r5;simp only[go_sem,r5,c5,ah];rw[e];exact adQ
 all_goals
  have et:ja kd=true:=by simp[ja,t3,t5]
  rw[et]at e;simp only[if_true]at e;simp only[go_sem,d3,t3,t5];refine b3.step (sE t hw1 64 acN) fun g4 b4 k4=>?_
  have c4:=(k4 i1 n1).trans c3;have d4:=(k4 i2 n2).trans d3;have ha:(aM t 64).2.bad=false→s.at_≤(aM t 64).2.at_:=fun h=>Nat.le_trans (hxa (L2 h)) (L1 h)
  generalize aM t 64=x at e b4 ha⊢;obtain⟨n,y⟩:=x;simp only at e b4 ha⊢;simp only[go_sem,d4];generalize e5:upd g4 i2 _=g5;have b5:=b4.yQ e5 m2 n2;have c5:=gb e5 n21 c4;have d5:=mR e5;clear b3 c3 d3 b4 c4 d4 k4 e5;have r5:=b5.here;unfold RX at r5;cases db:y.bad
  ·rw[db,if_neg acN]at e
   rw[db,vv]at r5;simp only[go_sem,r5,d5];refine(sH (⟨kd,0,n⟩:bt) g5).pthen ?_;cases dv:aW (⟨kd,0,n⟩:bt)
   ·rw[dv,if_pos rfl,DU db (ha db)]at e
    simp only[go_sem,r5];generalize e6:upd g5 id _=g6;have b6:=b5.RH (s' :={y with at_:=s.at_}) e6 (by unfold RX;rw[db];rfl)
    have c6:=gb e6 n1.symm c5;refine b6.step (qx _) fun g7 b7 k7=>?_
    have c7:=(k7 i1 n1).trans c6;simp only[go_sem,c7,ah];rw[e];exact adS
   ·rw[dv,if_neg acN]at e
    simp only[go_sem,d5,c5,ah];rw[e];exact adQ
  ·rw[db,if_pos rfl]at e
   rw[db,xz]at r5;simp only[go_sem,r5,c5,ah];rw[e];exact adQ
set_option maxHeartbeats 2000000 in
theorem KQ(o:OpD)(h:Heap):ai prog 9 [opA o] h fun r h' =>r= .b (AA o)∧h' =h:=by
 have hv:=fun hh=>sH o.val hh
 simp only[aP]at hv;refine ai.of_wp hU func9 rfl acO 298 rfl [.tmp 2] rfl (acz rfl) ?_;refine .one hU hm ?_;simp only[go_sem,opA,opC];intro i1 h1;have fin:∀b,AA o=b→lV [.b b] (upd h i1 (some (.obj (opC o) 25))) fun r h' =>r= .b (AA o)∧h' =h:=fun b e=> .mk _ (.refl _) (.aj h1) ⟨af8,rfl⟩
 have hc:upd h i1 (some (.obj (opC o) 25)) i1=some (.obj (opC o) 25):=ah ..;unfold opC at hc fin;generalize upd h i1 _=H at hc fin⊢;simp only[go_sem];obtain⟨c,ec⟩:∃c,(!(o.case==([]:Txt)))=c:=⟨_,rfl⟩;obtain⟨f,ef⟩:∃c,(!(o.field==([]:Txt)))=c:=⟨_,rfl⟩;obtain⟨v,ev⟩:∃c,(!(o.val.kind==(0:Int) && (o.val.n==(0:Int) && o.val.s==([]:Txt))))=c:=⟨_,rfl⟩;obtain⟨r,er⟩:∃c,(!(o.review==(0:Int)))=c:=⟨_,rfl⟩;obtain⟨t,et⟩:∃c,(!(o.text==([]:Txt)))=c:=⟨_,rfl⟩;obtain⟨to,eto⟩:∃c,(!(o.to==([]:Txt)))=c:=⟨_,rfl⟩;have fx:AA o=(if !aK o.subj||(!(o.reason== []) && (!o.glass||decide ((64:Int)<(o.reason.length:Int))))||(o.glass && o.reason== [])then false
  else if(c && !aK o.case)||(f && !aK o.field)||(v && !aW o.val)||(to && !aK o.to)||decide ((4096:Int)<(o.text.length:Int))then false
  else if o.glass && (decide (o.kind<1)||decide (4<o.kind))then false
  else if o.kind=1 then c && !f && !v && !r && !t && !to
  else if o.kind=2 then c && f && !v && !r && !t && !to
  else if o.kind=3 then c && f && v && !r && !t && !to
  else if o.kind=4 then c && !f && !v && !r && !t && to
  else if o.kind=5 then !c && !f && !v && decide (0<o.review) && !t && !to
  else if o.kind=6 then c && f && !v && !r && !t && !to
  else if o.kind=7 then !c && !f && !v && !r && !to
  else if o.kind=8 then !c && !f && !v && decide (0<o.review) && decide (o.review≤1099511627776) && !t && !to
  else false):=by rw[←ec,←ef,←ev,←er,←et,←eto];rfl
 refine .cut (fun ρ g=>g=H∧lk ρ 3=some (.b (aK o.subj))∧lk ρ 1=some (.ptr i1 0)∧lk ρ 4=some (.b c)∧lk ρ 5=some (.b f)∧lk ρ 6=some (.b v)∧lk ρ 7=some (.b r)∧lk ρ 8=some (.b t)∧lk ρ 9=some (.b to)) (.vc hU hm ?_) ?_
 ·simp only[go_sem]
  refine .quiet acO ?_;simp only[go_sem,hc];refine⟨_,yC o.subj H,?_⟩;simp only[go_sem,hc];refine⟨rfl,?_,?_,?_,?_,?_,?_,?_,?_⟩
  ·simp only[go_sem]
  ·simp only[go_sem]
  ·rw[←ec];simp only[go_sem]<;>rfl
  ·rw[←ef];simp only[go_sem]<;>rfl
  ·rw[←ev];simp only[go_sem]<;>rfl
  ·rw[←er];simp only[go_sem]<;>rfl
  ·rw[←et];simp only[go_sem]<;>rfl
  ·rw[←eto];simp only[go_sem]<;>rfl
 clear ec ef ev er et eto
 rintro ρ g ⟨rfl,r3,r1,r4,r5,r6,r7,r8,r9⟩
 refine .cut (fun ρ H=>H=g∧(!aK o.subj||(!(o.reason== []) && (!o.glass||decide ((64:Int)<(o.reason.length:Int))))||(o.glass && o.reason== []))=false∧lk ρ 1=some (.ptr i1 0)∧lk ρ 4=some (.b c)∧lk ρ 5=some (.b f)∧lk ρ 6=some (.b v)∧lk ρ 7=some (.b r)∧lk ρ 8=some (.b t)∧lk ρ 9=some (.b to)) (.vc hU hm ?_) ?_
 ·cases d1:aK o.subj<;>cases d2:(o.reason==([]:Txt))<;>cases d3:o.glass<;>cases d4:decide ((64:Int)<(o.reason.length:Int))<;>simp only[go_sem,r3,r1,hc,d1,d2,d3,d4,bne]
  all_goals first
   |exact fin false (by rw[fx];simp[d1,d2,d3,d4])
   |(refine⟨rfl,acS,?_,?_,?_,?_,?_,?_,?_⟩<;>simp only[go_sem,r1,r4,r5,r6,r7,r8,r9])
 clear r3 r1 r4 r5 r6 r7 r8 r9
 rintro ρ g' ⟨rfl,eA,r1,r4,r5,r6,r7,r8,r9⟩
 refine .cut (fun ρ H=>H=g'∧((c && !aK o.case)||(f && !aK o.field)||(v && !aW o.val)||(to && !aK o.to)||decide ((4096:Int)<(o.text.length:Int)))=false∧lk ρ 1=some (.ptr i1 0)∧lk ρ 4=some (.b c)∧lk ρ 5=some (.b f)∧lk ρ 6=some (.b v)∧lk ρ 7=some (.b r)∧lk ρ 8=some (.b t)∧lk ρ 9=some (.b to)) (.vc hU hm ?_) ?_
 ·cases c<;>simp only[go_sem,r1,r4,r5,r6,r9,hc]
  all_goals try (refine(yC o.case _).pthen ?_;cases n1:aK o.case<;>simp only[go_sem,r1,r4,r5,r6,r9,hc])
  all_goals try exact fin false adZ
  all_goals (cases f<;>simp only[go_sem,r1,r4,r5,r6,r9,hc])
  all_goals try (refine(yC o.field _).pthen ?_;cases n2:aK o.field<;>simp only[go_sem,r1,r4,r5,r6,r9,hc])
  all_goals try exact fin false adZ
  all_goals (cases v<;>simp only[go_sem,r1,r4,r5,r6,r9,hc])
  all_goals try (refine ai.pthen (hv _) ?_;cases n3:aW o.val<;>simp only[go_sem,r1,r4,r5,r6,r9,hc])
  all_goals try exact fin false adZ
  all_goals (cases to<;>simp only[go_sem,r1,r4,r5,r6,r9,hc])
  all_goals try (refine(yC o.to _).pthen ?_;cases n4:aK o.to<;>simp only[go_sem,r1,r4,r5,r6,r9,hc])
  all_goals try exact fin false adZ
  all_goals (cases n5:decide ((4096:Int)<(o.text.length:Int))<;>simp only[go_sem,r1,r4,r5,r6,r9,hc,n5])
  all_goals first
   |exact fin false adZ
   |(refine⟨rfl,by clear fx fin hv;simp_all,?_,?_,?_,?_,?_,?_,?_⟩<;>simp only[go_sem,r1,r4,r5,r6,r7,r8,r9])
 clear r1 r4 r5 r6 r7 r8 r9 hv
 rintro ρ g ⟨rfl,eB,r1,r4,r5,r6,r7,r8,r9⟩
 refine .cut (fun ρ H=>H=g∧(o.glass && (decide (o.kind<1)||decide (4<o.kind)))=false∧lk ρ 1=some (.ptr i1 0)∧lk ρ 4=some (.b c)∧lk ρ 5=some (.b f)∧lk ρ 6=some (.b v)∧lk ρ 7=some (.b r)∧lk ρ 8=some (.b t)∧lk ρ 9=some (.b to)) (.vc hU hm ?_) ?_
 ·cases d1:o.glass<;>cases d2:decide (o.kind<1)<;>cases d3:decide (4<o.kind)<;>simp only[go_sem,r1,hc,d1,d2,d3]
  all_goals first
   |exact fin false (by rw[fx,eA,eB];simp[d1,d2,d3])
   |(refine⟨rfl,acS,?_,?_,?_,?_,?_,?_,?_⟩<;>simp only[go_sem,r1,r4,r5,r6,r7,r8,r9])
   |(refine⟨rfl,?_,?_,?_,?_,?_,?_,?_⟩<;>simp only[go_sem,r1,r4,r5,r6,r7,r8,r9])
 clear r1 r4 r5 r6 r7 r8 r9
 rintro ρ g' ⟨rfl,eC,r1,r4,r5,r6,r7,r8,r9⟩
 rw[eA,eB,eC]at fx;simp only[Bool.false_eq_true,if_false]at fx;clear eA eB eC;refine .vc hU hm ?_
 by_cases k1:o.kind=1
 ·rw[k1]at fx hc
  all_goals (cases c<;>simp only[go_sem,r1,r4,r5,r6,r7,r8,r9,hc])
  all_goals try exact fin _ fx
  all_goals (cases f<;>simp only[go_sem,r1,r4,r5,r6,r7,r8,r9,hc])
  all_goals try exact fin _ fx
  all_goals (cases v<;>simp only[go_sem,r1,r4,r5,r6,r7,r8,r9,hc])
  all_goals try exact fin _ fx
  all_goals (cases r<;>simp only[go_sem,r1,r4,r5,r6,r7,r8,r9,hc])
  all_goals try exact fin _ fx
  all_goals (cases t<;>simp only[go_sem,r1,r4,r5,r6,r7,r8,r9,hc])
  all_goals try exact fin _ fx
  all_goals (cases to<;>simp only[go_sem,r1,r4,r5,r6,r7,r8,r9,hc])
  all_goals try exact fin _ fx
 by_cases k2:o.kind=2
 ·rw[k2]at fx hc
  clear k1
  all_goals (cases c<;>simp only[go_sem,r1,r4,r5,r6,r7,r8,r9,hc])
  all_goals try exact fin _ fx
  all_goals (cases f<;>simp only[go_sem,r1,r4,r5,r6,r7,r8,r9,hc])
  all_goals try exact fin _ fx
  all_goals (cases v<;>simp only[go_sem,r1,r4,r5,r6,r7,r8,r9,hc])
  all_goals try exact fin _ fx
  all_goals (cases r<;>simp only[go_sem,r1,r4,r5,r6,r7,r8,r9,hc])
  all_goals try exact fin _ fx
  all_goals (cases t<;>simp only[go_sem,r1,r4,r5,r6,r7,r8,r9,hc])
  all_goals try exact fin _ fx
  all_goals (cases to<;>simp only[go_sem,r1,r4,r5,r6,r7,r8,r9,hc])
  all_goals try exact fin _ fx
 by_cases k3:o.kind=3
 ·rw[k3]at fx hc
  clear k1 k2
  all_goals (cases c<;>simp only[go_sem,r1,r4,r5,r6,r7,r8,r9,hc])
  all_goals try exact fin _ fx
  all_goals (cases f<;>simp only[go_sem,r1,r4,r5,r6,r7,r8,r9,hc])
  all_goals try exact fin _ fx
  all_goals (cases v<;>simp only[go_sem,r1,r4,r5,r6,r7,r8,r9,hc])
  all_goals try exact fin _ fx
  all_goals (cases r<;>simp only[go_sem,r1,r4,r5,r6,r7,r8,r9,hc])
  all_goals try exact fin _ fx
  all_goals (cases t<;>simp only[go_sem,r1,r4,r5,r6,r7,r8,r9,hc])
  all_goals try exact fin _ fx
  all_goals (cases to<;>simp only[go_sem,r1,r4,r5,r6,r7,r8,r9,hc])
  all_goals try exact fin _ fx
 by_cases k4:o.kind=4
 ·rw[k4]at fx hc
  clear k1 k2 k3
  all_goals (cases c<;>simp only[go_sem,r1,r4,r5,r6,r7,r8,r9,hc])
  all_goals try exact fin _ fx
  all_goals (cases f<;>simp only[go_sem,r1,r4,r5,r6,r7,r8,r9,hc])
  all_goals try exact fin _ fx
  all_goals (cases v<;>simp only[go_sem,r1,r4,r5,r6,r7,r8,r9,hc])
  all_goals try exact fin _ fx
  all_goals (cases r<;>simp only[go_sem,r1,r4,r5,r6,r7,r8,r9,hc])
  all_goals try exact fin _ fx
  all_goals (cases t<;>simp only[go_sem,r1,r4,r5,r6,r7,r8,r9,hc])
  all_goals try exact fin _ fx
  all_goals (cases to<;>simp only[go_sem,r1,r4,r5,r6,r7,r8,r9,hc])
  all_goals try exact fin _ fx
 by_cases k5:o.kind=5
 ·rw[k5]at fx hc
  clear k1 k2 k3 k4
  all_goals (cases c<;>simp only[go_sem,r1,r4,r5,r6,r7,r8,r9,hc])
  all_goals try exact fin _ fx
  all_goals (cases f<;>simp only[go_sem,r1,r4,r5,r6,r7,r8,r9,hc])
  all_goals try exact fin _ fx
  all_goals (cases v<;>simp only[go_sem,r1,r4,r5,r6,r7,r8,r9,hc])
  all_goals try exact fin _ fx
  all_goals (cases d1:decide (0<o.review)<;>rw[d1]at fx<;>simp only[go_sem,r1,r4,r5,r6,r7,r8,r9,hc,d1])
  all_goals try exact fin _ fx
  all_goals (cases t<;>simp only[go_sem,r1,r4,r5,r6,r7,r8,r9,hc,d1])
  all_goals try exact fin _ fx
  all_goals (cases to<;>simp only[go_sem,r1,r4,r5,r6,r7,r8,r9,hc,d1])
  all_goals try exact fin _ fx
 by_cases k6:o.kind=6
 ·rw[k6]at fx hc
  clear k1 k2 k3 k4 k5
  all_goals (cases c<;>simp only[go_sem,r1,r4,r5,r6,r7,r8,r9,hc])
  all_goals try exact fin _ fx
  all_goals (cases f<;>simp only[go_sem,r1,r4,r5,r6,r7,r8,r9,hc])
  all_goals try exact fin _ fx
  all_goals (cases v<;>simp only[go_sem,r1,r4,r5,r6,r7,r8,r9,hc])
  all_goals try exact fin _ fx
  all_goals (cases r<;>simp only[go_sem,r1,r4,r5,r6,r7,r8,r9,hc])
  all_goals try exact fin _ fx
  all_goals (cases t<;>simp only[go_sem,r1,r4,r5,r6,r7,r8,r9,hc])
  all_goals try exact fin _ fx
  all_goals (cases to<;>simp only[go_sem,r1,r4,r5,r6,r7,r8,r9,hc])
  all_goals try exact fin _ fx
 by_cases k7:o.kind=7
 ·rw[k7]at fx hc
  clear k1 k2 k3 k4 k5 k6
  all_goals (cases c<;>simp only[go_sem,r1,r4,r5,r6,r7,r8,r9,hc])
  all_goals try exact fin _ fx
  all_goals (cases f<;>simp only[go_sem,r1,r4,r5,r6,r7,r8,r9,hc])
  all_goals try exact fin _ fx
  all_goals (cases v<;>simp only[go_sem,r1,r4,r5,r6,r7,r8,r9,hc])
  all_goals try exact fin _ fx
  all_goals (cases r<;>simp only[go_sem,r1,r4,r5,r6,r7,r8,r9,hc])
  all_goals try exact fin _ fx
  all_goals (cases to<;>simp only[go_sem,r1,r4,r5,r6,r7,r8,r9,hc])
  all_goals try exact fin _ fx
 by_cases k8:o.kind=8
 ·rw[k8]at fx hc
  clear k1 k2 k3 k4 k5 k6 k7
  all_goals (cases c<;>simp only[go_sem,r1,r4,r5,r6,r7,r8,r9,hc])
  all_goals try exact fin _ fx
  all_goals (cases f<;>simp only[go_sem,r1,r4,r5,r6,r7,r8,r9,hc])
  all_goals try exact fin _ fx
  all_goals (cases v<;>simp only[go_sem,r1,r4,r5,r6,r7,r8,r9,hc])
  all_goals try exact fin _ fx
  all_goals (cases d1:decide (0<o.review)<;>rw[d1]at fx<;>simp only[go_sem,r1,r4,r5,r6,r7,r8,r9,hc,d1])
  all_goals try exact fin _ fx
  all_goals (cases d2:decide (o.review≤1099511627776)<;>rw[d2]at fx<;>simp only[go_sem,r1,r4,r5,r6,r7,r8,r9,hc,d1,d2])
  all_goals try exact fin _ fx
  all_goals (cases t<;>simp only[go_sem,r1,r4,r5,r6,r7,r8,r9,hc,d1,d2])
  all_goals try exact fin _ fx
  all_goals (cases to<;>simp only[go_sem,r1,r4,r5,r6,r7,r8,r9,hc,d1,d2])
  all_goals try exact fin _ fx
 simp only[go_sem,r1,r4,r5,r6,r7,r8,r9,hc,beq_eq_false_iff_ne.2 k1,beq_eq_false_iff_ne.2 k2,beq_eq_false_iff_ne.2 k3,beq_eq_false_iff_ne.2 k4,beq_eq_false_iff_ne.2 k5,beq_eq_false_iff_ne.2 k6,beq_eq_false_iff_ne.2 k7,beq_eq_false_iff_ne.2 k8];exact fin _ (by rw[fx,if_neg k1,if_neg k2,if_neg k3,if_neg k4,if_neg k5,if_neg k6,if_neg k7,if_neg k8])
theorem Hl(y:AV)(l:Txt)(o:OpD)(g h:Heap)(ha:fE g h y l)(hl:l.length≤100000)(h64:nO o)(ho:OpL o):
  ai prog 11 [y,opA o] h fun r h' =>fE g h' r (l++iL o):=by
 obtain⟨k1,k2,k3,k4⟩:=h64;have hnk:=fT o.kind;have hnr:=fT o.review;obtain⟨l1,l2,l3,l4,l5,l6,l7⟩:=ho;have t1:=cO o.subj;have t2:=cO o.case;have t3:=cO o.field;have t4:=cO o.to;have t6:=cO o.text;have t7:=cO o.reason;have e2:(gr o.val).length≤100020:=by grind [gr,acE,fT,cO]
 refine acJ func11 46 [.tmp 4] fun hwf=>?_
 simp only[go_sem,opA,opC];intro id hid;have hs0:Ab.Sub h (upd h id (some (.obj (opC o) 25))):=(Ab.Sub.refl h).new hid _;have hc:upd h id (some (.obj (opC o) 25)) id=some (.obj (opC o) 25):=ah ..;replace ha:=ha.on hs0;clear hs0;unfold opC at hc ha;generalize upd h id _=H at hc ha⊢;simp only[go_sem,hc];refine(yE y l o.kind g H ha acK k1).mono fun r H1 ⟨ha,hK⟩=>?_
 replace hc:=hK _ _ _ hc;clear hK;simp only[go_sem,hc];generalize hm1:l++dP o.kind=m1 at ha;have hl1:m1.length≤100010:=acL;refine(nI r m1 o.subj g H1 ha acK acK).mono fun r H2 ⟨ha,hK⟩=>?_
 replace hc:=hK _ _ _ hc;clear hK;simp only[go_sem,hc];generalize hm2:m1++bN o.subj=m2 at ha;have hl2:m2.length≤200020:=acL;refine(nI r m2 o.case g H2 ha acK acK).mono fun r H3 ⟨ha,hK⟩=>?_
 replace hc:=hK _ _ _ hc;clear hK;simp only[go_sem,hc];generalize hm3:m2++bN o.case=m3 at ha;have hl3:m3.length≤300030:=acL;refine(nI r m3 o.field g H3 ha acK acK).mono fun r H4 ⟨ha,hK⟩=>?_
 replace hc:=hK _ _ _ hc;clear hK;simp only[go_sem,hc];generalize hm4:m3++bN o.field=m4 at ha;have hl4:m4.length≤400040:=acL;refine(nI r m4 o.to g H4 ha acK acK).mono fun r H5 ⟨ha,hK⟩=>?_
 replace hc:=hK _ _ _ hc;clear hK;simp only[go_sem,hc];generalize hm5:m4++bN o.to=m5 at ha;have hl5:m5.length≤500050:=acL;refine(ME r m5 o.val g H5 ha acK k2 k3 acK).mono fun r H6 ⟨ha,hK⟩=>?_
 replace hc:=hK _ _ _ hc;clear hK;simp only[go_sem,hc];generalize hm6:m5++gr o.val=m6 at ha;have hl6:m6.length≤600070:=acL;refine(yE r m6 o.review g H6 ha acK k4).mono fun r H7 ⟨ha,hK⟩=>?_
 replace hc:=hK _ _ _ hc;clear hK;simp only[go_sem,hc];generalize hm7:m6++dP o.review=m7 at ha;have hl7:m7.length≤600080:=acL;refine(nI r m7 o.text g H7 ha acK acK).mono fun r H8 ⟨ha,hK⟩=>?_
 replace hc:=hK _ _ _ hc;clear hK;simp only[go_sem,hc];generalize hm8:m7++bN o.text=m8 at ha;have hl8:m8.length≤700090:=acL;refine(nI r m8 o.reason g H8 ha acK acK).mono fun r H9 ⟨ha,hK⟩=>?_
 replace hc:=hK _ _ _ hc;clear hK;simp only[go_sem,hc];generalize hm9:m8++bN o.reason=m9 at ha;have hl9:m9.length≤800100:=acL;refine(Qr o.glass H9).pthen ?_;simp only[go_sem];refine(ME r m9 (cE o.glass) g H9 ha acK ?_ ?_ ?_).mono fun r H10 ⟨ha,hK⟩=>?_
 ·cases o.glass<;>exact⟨acN,acN⟩
 ·cases o.glass<;>exact⟨acN,acN⟩
 ·cases o.glass<;>decide
 simp only[go_sem];refine .same (.refl _) ?_;rw[←hm9,←hm8,←hm7,←hm6,←hm5,←hm4,←hm3,←hm2,←hm1]at ha;unfold iL;simp only[List.append_assoc]at ha⊢;exact ha
theorem L8(ch:BitVec 64)(o:OpD)(h64:nO o)(ho:OpL o)(h:Heap):ai prog 13 [.v (.int .u64 (ch.toNat:Int)),opA o] h fun r h' =>r= .sl ((gm ch o).map aI) .no∧h' =h:=
 fE.pure fun g0 _=>by
 refine acJ func13 22 [.tmp 4] fun hwf=>?_
 simp only[go_sem,opA,opC];intro id hid;generalize hH:upd g0 id _=H;have hHid:H id=some (.obj (opC o) 25):=by rw[←hH];exact ah ..
 have hsub:Ab.Sub g0 H:=by rw[←hH];exact(Sub.refl g0).new hid _
 clear hH;simp only[go_sem];refine .intro (fun k ρ g=>∃(i:Nat) (v:BitVec 64) (l:Txt) (z:AV),fE H g z l∧i+k=8∧v.toNat=ch.toNat / 2 ^ (8*i)∧l++lQ k v=lQ 8 ch∧lk ρ 0=some (.v (.int .u64 (ch.toNat:Int)))∧lk ρ 3=some (.ptr id 0)∧lk ρ 5=some z∧lk ρ 6=some (.i (i:Int))) 8 ?_ ?_
 ·refine⟨0,ch,[],_,Acc.full (.refl _),rfl,acS,rfl,?_,?_,?_,?_⟩<;>simp only[go_sem]
  all_goals rfl
 rintro k ρ g ⟨i,v,l,z,ha,hk,hvn,hv,r0,r3,r5,r6⟩
 have hll:=congrArg List.length hv;rw[acE,ku,ku]at hll;rcases k with _|k
 ·have d1:decide ((i:Int)<8)=false:=decide_eq_false acK
  have hg:=ha.1 _ _ hHid;unfold opC at hg;rw[show lQ 0 v= []from rfl,List.append_nil]at hv
  subst hv;simp only[go_sem,r0,r3,r5,r6,d1,hg];refine(Hl z _ o H g ha acK h64 ho).mono fun r g2 ha' =>?_
  simp only[go_sem];exact .same (.refl _) (ha'.base hsub)
 ·have d1:decide ((i:Int)<8)=true:=decide_eq_true acK
  have w1:IntKind.i64.wrap ((i:Int)+1)=((i+1:Nat):Int):=acX;have w2:IntKind.i64.wrap ((8:Int)*(i:Int))=((8*i:Nat):Int):=ac4;simp only[go_sem,r0,r3,r5,r6,d1,w2,wY ch.toNat (8*i) .i64 acK,←hvn,wu8];refine fE.app ha (m:=[UInt8.ofNat v.toNat]) (fun _ hk=>hk) acL fun z' h2 ha' =>?_
  have e8:(v>>>8).toNat=ch.toNat / 2 ^ (8*(i+1)):=by
   rw[show 8*(i+1)=8*i+8 by omega,Nat.pow_add,←Nat.div_div_eq_div_mul,←hvn]
   simp[BitVec.toNat_ushiftRight,Nat.shiftRight_eq_div_pow]
  simp only[go_sem,r0,r3,r5,r6,w1];refine⟨k,acK,i+1,v>>>8,l++ [UInt8.ofNat v.toNat],z',ha',acK,e8,?_,?_,?_,?_,?_⟩
  ·grind [lQ]
  all_goals simp only[go_sem,r0,r3]
theorem L0(hw:WfR s):WfR (jC s).2:=by
 unfold jC;split
 ·rename_i hc
  exact⟨by have:=hc.2.1;show s.at_+2≤s.b.length;omega,hw.2⟩
 ·exact wO hw
theorem LY(hw:WfR s):i64 (jC s).1.kind∧i64 (jC s).1.n:=by grind [jC,Ch,Hr]
def KC(l:Txt):AV:=.tup [opA ((ur l).getD nU),.v (.bool (ur l).isSome)]
theorem Ol(l:Txt):zP l=(let k:=cj ⟨l,0,false⟩;let s1:=aM k.2 16;let s2:=aM s1.2 16;let s3:=aM s2.2 16;let s4:=aM s3.2 16;let v:=jC s4.2;let r:=cj v.2;let t:=aM r.2 4096;let w:=aM t.2 64;let g:=iC w.2
 (⟨k.1,s1.1,s2.1,s3.1,s4.1,v.1,r.1,t.1,w.1,g.1.n==1⟩,g.1,g.2)):=rfl
theorem LZ(h:¬(s.bad=false∧s.at_+1<s.b.length∧s.b.getD s.at_ 0=0∧s.b.getD (s.at_+1) 0=0)):jC s=iC s:=if_neg h
set_option maxHeartbeats 1000000 in
theorem NI(l:Txt)(q:Perm)(hl:l.length≤1000000)(h:Heap):ai prog 6 [.sl (l.map aI) q] h fun r h' =>r=KC l∧h' =h:=by
 refine ai.of_wp hU func6 rfl acO 102 rfl [.cell 2 25,.tmp 3] rfl (acz rfl) ?_;refine .one hU hm ?_;simp only[go_sem];intro i1 h1;simp only[go_sem];refine .one hU hm ?_;simp only[go_sem];intro id hid;have n1:=aH hid;have m0:=aB hid;simp only[go_sem];refine .one hU hm ?_;simp only[go_sem];intro i2 h2;have n2:=aH h2;have h2' :=aB h2;have n21:=aH h2';have m2:=aB h2';simp only[go_sem];generalize e0:upd _ i2 _=g0;have w0:WfR ⟨l,0,false⟩:=⟨Nat.zero_le _,hl⟩;have b0:XAt q h id g0 ⟨l,0,false⟩:=⟨by rw[←e0,ag _ _ n2.symm,ah];rfl,fun j b hj e=>by rw[←e0];grind [ag]⟩
 have c0:g0 i1=some (.obj (opC nU) 25):=by rw[←e0,ag _ _ n21.symm,ag _ _ n1.symm,ah];rfl
 have d0:g0 i2=some (.obj (opC nU) 25):=by rw[←e0,ah];rfl
 clear e0 hid h2 h2';have e:=Ol l;simp only at e;unfold opC nU an at d0;refine .one hU hm ?_;simp only[go_sem];refine b0.step (G0 _ w0) fun g1 b1 k1=>?_
 have c1:=(k1 i1 n1.symm).trans c0;have d1:=(k1 i2 n2).trans d0;clear b0 c0 d0 k1;have w1:=iT (lo:= -9223372036854775808) (hi:=9223372036854775807) w0;have q1:=pE w0
 change WfR (cj _).2 at w1
 have hb1:(cj ⟨l,0,false⟩).2.b=l:=LX;generalize cj ⟨l,0,false⟩=x1 at e w1 q1 hb1 b1⊢;obtain⟨v1,s1⟩:=x1;simp only at e w1 q1 hb1 b1⊢;simp only[go_sem,d1,ah];generalize e1:upd g1 i2 _=g2;have b2:=b1.yQ e1 m2 n2;have c2:=gb e1 n21 c1;have d2:=mR e1;clear b1 c1 d1 e1;refine .one hU hm ?_;simp only[go_sem];refine b2.step (sE _ w1 16 acN) fun g3 b3 k3=>?_
 have c3:=(k3 i1 n1.symm).trans c2;have d3:=(k3 i2 n2).trans d2;clear b2 c2 d2 k3;have w2:=dR (most:=16) w1 acN;have hb2:(aM s1 16).2.b=l:=nC.trans hb1;generalize aM s1 16=x2 at e w2 hb2 b3⊢;obtain⟨v2,s2⟩:=x2;simp only at e w2 hb2 b3⊢;simp only[go_sem];refine b3.step (sE _ w2 16 acN) fun g4 b4 k4=>?_
 have c4:=(k4 i1 n1.symm).trans c3;have d4:=(k4 i2 n2).trans d3;clear b3 c3 d3 k4;have w3:=dR (most:=16) w2 acN;have hb3:(aM s2 16).2.b=l:=nC.trans hb2;generalize aM s2 16=x3 at e w3 hb3 b4⊢;obtain⟨v3,s3⟩:=x3;simp only at e w3 hb3 b4⊢;simp only[go_sem];refine b4.step (sE _ w3 16 acN) fun g5 b5 k5=>?_
 have c5:=(k5 i1 n1.symm).trans c4;have d5:=(k5 i2 n2).trans d4;clear b4 c4 d4 k5;have w4:=dR (most:=16) w3 acN;have hb4:(aM s3 16).2.b=l:=nC.trans hb3;generalize aM s3 16=x4 at e w4 hb4 b5⊢;obtain⟨v4,s4⟩:=x4;simp only at e w4 hb4 b5⊢;simp only[go_sem];refine b5.step (sE _ w4 16 acN) fun g6 b6 k6=>?_
 have c6:=(k6 i1 n1.symm).trans c5;have d6:=(k6 i2 n2).trans d5;clear b5 c5 d5 k6;have w5:=dR (most:=16) w4 acN;have hb5:(aM s4 16).2.b=l:=nC.trans hb4;generalize aM s4 16=x5 at e w5 hb5 b6⊢;obtain⟨v5,s5⟩:=x5;simp only at e w5 hb5 b6⊢;simp only[go_sem,d6,ah];generalize e6:upd g6 i2 _=g7;have b7:=b6.yQ e6 m2 n2;have c7:=gb e6 n21 c6;have d7:=mR e6;clear b6 c6 d6 e6;have w6:=L0 w5;have q6:=LY w5;refine .cut (fun ρ g=>XAt q h id g (jC s5).2∧g i1=some (.obj (opC nU) 25)∧g i2=some (.obj [.i v1,.s v2,.s v3,.s v4,.s v5,.v (.int .i64 (jC s5).1.kind),.v (.int .i64 (jC s5).1.n),.s (jC s5).1.s,.i 0,.s [],.s [],.b false] 25)∧lk ρ 2=some (.ptr i1 0)∧lk ρ 4=some (.ptr id 0)∧lk ρ 5=some (.ptr i2 0)) (.vc hU hm ?_) ?_
 ·have hg:=b7.here
  unfold RX at hg;have ha5:=w5.1;have hl5:=w5.2;rw[show l.map aI=s5.b.map aI by rw[hb5]]at*
  have w1:IntKind.i64.wrap ((s5.at_:Int)+1)=((s5.at_+1:Nat):Int):=ac4
  by_cases hX:s5.bad=false∧s5.at_+1<s5.b.length∧s5.b.getD s5.at_ 0=0∧s5.b.getD (s5.at_+1) 0=0
  ·have eX:jC s5=(an,{s5 with at_:=s5.at_+2}):=if_pos hX
   obtain⟨x1,x2,x3,x4⟩:=hX;rw[x1,vv]at hg;have w2:IntKind.i64.wrap ((s5.at_:Int)+2)=((s5.at_+2:Nat):Int):=ac4;have e1:s5.b[s5.at_]'acK=0:=acL;have e2:s5.b[s5.at_+1]=0:=acL;have z0:(((0:UInt8).toNat:Int)==0)=true:=rfl;simp only[go_sem,hg,w1,acA,decide_eq_true (show((s5.at_+1:Nat):Int)<(s5.b.length:Int) by omega)]
   refine .at s5.at_ ade acZ ?_;simp only[go_sem,hg,w1,acB,e1,aI,z0];refine .at (s5.at_+1) ade acZ ?_;simp only[go_sem,hg,w2,acB,e2,aI,z0];generalize eG:upd g7 id _=G;rw[eX];refine⟨b7.RH eG (by unfold RX;rw[x1];rfl),gb eG n1 c7,gb eG n2.symm d7,?_,?_,?_⟩<;>simp only[go_sem]
  ·rw[LZ hX]
   cases x1:s5.bad
   case' true=>rw[x1,xz]at hg;simp only[go_sem,hg]
   case' false=>
    rw[x1,vv]at hg
    by_cases x2:s5.at_+1<s5.b.length
    case' neg=>simp only[go_sem,hg,w1,acA,decide_eq_false (show¬((s5.at_+1:Nat):Int)<(s5.b.length:Int) by omega)]
    case' pos=>
     simp only[go_sem,hg,w1,acA,decide_eq_true (show((s5.at_+1:Nat):Int)<(s5.b.length:Int) by omega)]
     refine .at s5.at_ ade acZ ?_;cases x3:(((s5.b[s5.at_]'acK).toNat:Int)==0)
     case' false=>simp only[go_sem,hg,w1,acB,aI,x3]
     case' true=>
      simp only[go_sem,hg,w1,acB,aI,x3];refine .at (s5.at_+1) ade acZ ?_;cases x4:((s5.b[s5.at_+1].toNat:Int)==0)
      case' true=>
       refine(hX ⟨x1,x2,?_,?_⟩).elim
       ·have h0:s5.b[s5.at_]'acK=0:=UInt8.toNat_inj.1 (by have:=eq_of_beq x3;simp;omega)
        grind
       ·have h0:s5.b[s5.at_+1]=0:=UInt8.toNat_inj.1 (by have:=eq_of_beq x4;simp;omega)
        grind
      case' false=>simp only[go_sem,hg,w1,acB,aI,x4]
   all_goals
    refine b7.step (PJ s5 w5) fun G bG kG=>?_
    have cG:=(kG i1 n1.symm).trans c7;have dG:=(kG i2 n2).trans d7;simp only[go_sem,dG,aP];generalize eG:upd G i2 _=M;refine⟨bG.yQ eG m2 n2,gb eG n21 cG,mR eG,?_,?_,?_⟩<;>simp only[go_sem]
 clear b7 c7 d7
 rintro ρ g7 ⟨b7,c7,d7,r2,r4,r5⟩
 generalize jC s5=x6 at e w6 q6 b7 d7;obtain⟨v6,s6⟩:=x6;simp only at e w6 q6 b7 d7;refine .one hU hm ?_;simp only[go_sem,r2,r4,r5];refine b7.step (G0 _ w6) fun g8 b8 k8=>?_
 have c8:=(k8 i1 n1.symm).trans c7;have d8:=(k8 i2 n2).trans d7;clear b7 c7 d7 k8;have w7:=iT (lo:= -9223372036854775808) (hi:=9223372036854775807) w6;have q7:=pE w6
 change WfR (cj _).2 at w7
 generalize cj s6=x7 at e w7 q7 b8⊢;obtain⟨v7,s7⟩:=x7;simp only at e w7 q7 b8⊢;simp only[go_sem,d8,ah,r2,r4,r5];generalize e8:upd g8 i2 _=g9;have b9:=b8.yQ e8 m2 n2;have c9:=gb e8 n21 c8;have d9:=mR e8;clear b8 c8 d8 e8;refine .one hU hm ?_;simp only[go_sem,r2,r4,r5];refine b9.step (sE _ w7 4096 acN) fun g10 b10 k10=>?_
 have c10:=(k10 i1 n1.symm).trans c9;have d10:=(k10 i2 n2).trans d9;clear b9 c9 d9 k10;have w8:=dR (most:=4096) w7 acN;generalize aM s7 4096=x8 at e w8 b10⊢;obtain⟨v8,s8⟩:=x8;simp only at e w8 b10⊢;simp only[go_sem,r2,r4,r5];refine b10.step (sE _ w8 64 acN) fun g11 b11 k11=>?_
 have c11:=(k11 i1 n1.symm).trans c10;have d11:=(k11 i2 n2).trans d10;clear b10 c10 d10 k11;have w9:=dR (most:=64) w8 acN;generalize aM s8 64=x9 at e w9 b11⊢;obtain⟨v9,s9⟩:=x9;simp only at e w9 b11⊢;simp only[go_sem,d11,ah,r2,r4,r5];generalize e11:upd g11 i2 _=g12;have b12:=b11.yQ e11 m2 n2;have c12:=gb e11 n21 c11;have d12:=mR e11;clear b11 c11 d11 e11;refine .one hU hm ?_;simp only[go_sem,r2,r4,r5];refine b12.step (PJ _ w9) fun g13 b13 k13=>?_
 have c13:=(k13 i1 n1.symm).trans c12;have d13:=(k13 i2 n2).trans d12;clear b12 c12 d12 k13;have w10:=wO w9;generalize iC s9=x10 at e w10 b13⊢;obtain⟨v10,s10⟩:=x10;simp only at e w10 b13⊢;simp only[go_sem,r2,r4,r5,aP];intro i6 h6;have n6:=b13.ne h6;have n61:i6≠i1:=fun e=>by rw[e,c13]at h6;cases h6
 have n62:i6≠i2:=fun e=>by rw[e,d13]at h6;cases h6
 have m6:=b13.none h6;simp only[go_sem,r2,r4,r5];generalize e13:upd g13 i6 _=g14;have b14:=b13.yQ e13 m6 n6;have c14:=gb e13 n61 c13;have d14:=gb e13 n62 d13;have f14:=mR e13;clear b13 c13 d13 e13 h6;refine .one hU hm ?_;simp only[go_sem,r2,r4,r5,f14,d14];generalize e14:upd g14 i2 _=g15;have b15:=b14.yQ e14 m2 n2;have c15:=gb e14 n21 c14;have d15:=mR e14;have f15:=gb e14 n62.symm f14;clear b14 c14 d14 e14 f14;refine .vc hU hm ?_;simp only[go_sem,r2,r4,r5];refine b15.step (TY _ w10) fun g16 b16 k16=>?_
 have c16:=(k16 i1 n1.symm).trans c15;have d16:=(k16 i2 n2).trans d15;have f16:=(k16 i6 n6).trans f15;clear b15 c15 d15 f15 k16;generalize hgl:(v10.n==1)=gl at e d16;generalize ho:(⟨v1,v2,v3,v4,v5,v6,v7,v8,v9,gl⟩:OpD)=o at e;have hd:g16 i2=some (.obj (opC o) 25):=by rw[d16,←ho];rfl
 have hc:=c16;clear d16 c16 ho;have hnone:∀(g:Heap),XAt q h id g s10→ur l=none→lV [opA nU,.b false] g fun r h' =>r=KC l∧h' =h:=fun g hg en=>.mk _ (.refl _) (hg.base m0) ⟨by unfold KC;rw[en];rfl,rfl⟩
 unfold opC nU an at hc;unfold opC at hd;cases de:nW s10
 ·have en:ur l=none:=by simp[ur,e,de]
  simp only[go_sem,de,hc,ah,r2,r4,r5];exact afc
 simp only[go_sem,de,f16,r2,r4,r5];cases dk:(v10.kind==1)
 ·have en:ur l=none:=by simp[ur,e,de,dk]
  simp only[go_sem,dk,bne,hc,ah,r2,r4,r5];exact afc
 simp only[go_sem,dk,bne,hd,r2,r4,r5];refine(KQ o _).pthen ?_;rw[CZ];cases df:dD o
 ·have en:ur l=none:=by simp[ur,e,de,dk,df]
  simp only[go_sem,hc,ah,r2,r4,r5];exact afc
 ·have en:ur l=some o:=by simp[ur,e,de,dk,df]
  simp only[go_sem,hc,hd,ah,r2,r4,r5];exact .mk _ (.refl _) ((b16.put h1 n1.symm).base m0) ⟨by unfold KC;rw[en];rfl,rfl⟩
theorem Ph(s q:BitVec 64):IntKind.u64.wrap (IntKind.u64.wrap (((BitVec.ofInt 64 (s.toNat:Int) ^^^ BitVec.ofInt 64 (q.toNat:Int)).toNat:Nat):Int)*1099511628211)=(((s ^^^ q)*1099511628211#64).toNat:Int):=by rw[BitVec.ofInt_natCast,BitVec.ofInt_natCast,BitVec.ofNat_toNat,BitVec.ofNat_toNat,BitVec.setWidth_eq,BitVec.setWidth_eq];generalize s ^^^ q=x;rw[MO _ x.isLt];have e:(x.toNat:Int)*1099511628211=((x.toNat*1099511628211:Nat):Int):=acK;rw[e,PR,BitVec.toNat_mul,BitVec.toNat_ofNat]
theorem Qk(p:BitVec 64):p.toNat % 256=(p &&& 255#64).toNat:=by exact(Nat.and_two_pow_sub_one_eq_mod p.toNat 8).symm
theorem CC(prev:BitVec 64)(y:AV)(l:Txt)(h:Heap)(hb:By h y l)(hl:l.length≤1000000):
  ai prog 38 [.v (.int .u64 (prev.toNat:Int)),y] h fun r h' =>r= .v (.int .u64 ((rY prev l).toNat:Int))∧h' =h:=by
 refine acJ func38 31 [.tmp 4] fun hwf=>?_
 simp only[go_sem];refine .intro (fun k ρ g=>g=h∧∃(i:Nat) (p s:BitVec 64),i+k=8∧IB k p s=IB 8 prev 14695981039346656037#64∧lk ρ 0=some (.v (.int .u64 (p.toNat:Int)))∧lk ρ 1=some y∧lk ρ 5=some (.v (.int .u64 (s.toNat:Int)))∧lk ρ 8=some (.i (i:Int))) 8 ?_ ?_
 ·refine⟨rfl,0,prev,14695981039346656037#64,rfl,rfl,?_,?_,?_,?_⟩<;>simp only[go_sem]
  rfl
 rintro k ρ g ⟨rfl,i,p,s,hk,hv,r0,r1,r5,r8⟩
 rcases k with _|k
 ·have d1:decide ((i:Int)<8)=false:=decide_eq_false acK
  simp only[go_sem,r0,r1,r5,r8,d1,hb.len];refine .intro (fun k ρ g' =>g' =g∧∃(i:Nat) (s:BitVec 64),i+k=l.length∧(l.drop i).foldl (fun h c=>fnv h c.toNat) s=rY prev l∧lk ρ 5=some (.v (.int .u64 (s.toNat:Int)))∧lk ρ 18=some y∧lk ρ 19=some (.i (l.length:Int))∧lk ρ 20=some (.i (i:Int))) l.length ?_ ?_
  ·refine⟨rfl,0,s,acK,by grind [ID,rY],?_,?_,?_,?_⟩<;>simp only[go_sem,r5,r1]
   all_goals rfl
  clear r0 r1 r5 r8 hv
  rintro k ρ g' ⟨rfl,i,s,hk,hv,r5,r18,r19,r20⟩
  rcases k with _|k
  ·have d1:decide ((i:Int)<(l.length:Int))=false:=decide_eq_false acK
   simp only[go_sem,r5,r18,r19,r20,d1];rw[List.drop_eq_nil_of_le acK]at hv;exact .same (.refl _) ⟨by rw[←hv];rfl,rfl⟩
  ·have hlt:i<l.length:=by omega
   have d1:decide ((i:Int)<(l.length:Int))=true:=decide_eq_true acK;have w1:IntKind.i64.wrap ((i:Int)+1)=((i+1:Nat):Int):=acX;rw[List.drop_eq_getElem_cons hlt]at hv;simp only[go_sem,r5,r18,r19,r20,d1];refine hb.idx i rfl hlt u5 u5a fun q hq=>?_
   generalize l[i]=c at hq hv;have hcl:=c.toNat_lt;have w2:IntKind.u64.wrap (c.toNat:Int)=((BitVec.ofNat 64 c.toNat).toNat:Int):=acY;have hx:=hq (fun v=>v=aI c)
   simp only[go_sem,r5,r18,r19,r20,hq _,aI,w2,w1];refine⟨k,acK,rfl,i+1,fnv s c.toNat,acK,acL,?_,?_,?_,?_⟩<;>simp only[go_sem,r18,r19,fnv]
   exact congrArg (fun z=>some (AV.v (Value.int IntKind.u64 z))) (Ph s _)
 ·have d1:decide ((i:Int)<8)=true:=decide_eq_true acK
  have w1:IntKind.i64.wrap ((i:Int)+1)=((i+1:Nat):Int):=acX;have e8:p.toNat / 256=(p>>>8).toNat:=afa;have hp:=p.isLt;simp only[go_sem,r0,r1,r5,r8,d1,w1,show p.toNat<18446744073709551616 from hp,Qk,e8]
  refine⟨k,acK,rfl,i+1,p>>>8,fnv s (p &&& 255#64).toNat,acK,by grind [IC],?_,?_,?_,?_⟩<;>simp only[go_sem,r1,fnv,BitVec.ofNat_toNat,BitVec.setWidth_eq]
  exact congrArg (fun z=>some (AV.v (Value.int IntKind.u64 z))) (Ph s _)
def jt(s:aq):List AV:=[.i s.tick,gh s.cases,kj s.reviews,lC s.notices,dY s.roles]++fZ s.policy++ [.i s.version]
def lY(jid:Nat)(e:iG)(yl:AV):Blk:=.obj ([.ptr jid 0]++jt e.s++ [yl,.v (.int .u64 (e.ch.toNat:Int))]) 102
theorem cQ(s:aq):∃a1 a2 a3 a4 a5 a6 a7,jt s= [.i s.tick,gh s.cases,kj s.reviews,lC s.notices,dY s.roles,a1,a2,a3,a4,a5,a6,a7,.i s.version]:=by obtain⟨tick,cases,reviews,notices,roles,policy,version⟩:=s;obtain⟨id,set,alg,tgt,rules,kids,obls⟩:=policy;exact⟨_,_,_,_,_,_,_,rfl⟩
def A3(e:iG)(l:Txt):AV:=.tup [opA ((nD e l).getD nU),.v (.bool (nD e l).isSome)]
theorem BO{o:OpD}(hl:l.length≤1000000)(h:ld l=some o):nO o:=by
 unfold ld at h;split at h
 ·cases h
  have w0:WfR ⟨l,0,false⟩:=⟨Nat.zero_le _,hl⟩;have w1:WfR (cj ⟨l,0,false⟩).2:=iT w0;have w2:=dR (most:=16) w1 acN;have w3:=dR (most:=16) w2 acN;have w4:=dR (most:=16) w3 acN;have w5:=dR (most:=16) w4 acN;exact⟨pE w0,(B6 w5).1,(B6 w5).2,pE (Hq w5)⟩
 grind
theorem KJ(l:Txt)(q:Perm)(e:iG)(yl:AV)(jid x:Nat)(h:Heap)(hl:l.length≤900000)(hx:h x=some (lY jid e yl)):ai prog 59 [.ptr x 0,.sl (l.map aI) q] h fun r h' =>r=A3 e l∧h' =h:=by
 obtain⟨a1,a2,a3,a4,a5,a6,a7,es⟩:=cQ e.s;have g:=hx;unfold lY at g;rw[es]at g;simp only[List.cons_append,List.nil_append]at g;refine acJ func59 33 [.cell 4 25,.tmp 5] fun hwf=>?_
 simp only[go_sem];intro i1 h1;have n1:i1≠x:=fun e=>acL
 by_cases hs:l.length<8
 ·have d1:decide ((l.length:Int)<8)=true:=decide_eq_true acK
  have er:nD e l=none:=by simp_all [nD,if_pos]
  simp only[go_sem,acA,d1,ah];exact .mk _ (.refl _) ((Sub.refl h).new h1 _) ⟨af2,rfl⟩
 have d1:decide ((l.length:Int)<8)=false:=decide_eq_false acK;simp only[go_sem,acA,d1];refine⟨acK,acK,?_⟩;refine(xV (l.drop 8) _ acL _).pthen ?_;have er0:nD e l=(match ld (l.drop 8)with|some o=>if gm e.ch o=l then some o else none|none=>none):=by unfold nD;grind
 cases hg:ld (l.drop 8)with
 |none=>
  have er:nD e l=none:=acL;simp only[go_sem,C4,hg,opA,opC,nU,an,Option.getD,Option.isSome];intro i2 h2;have n2:=aB h2;have n21:=aH h2;simp only[go_sem,ak,n21,n21.symm,n1,n1.symm];generalize hH:upd (upd h i1 _) i2 _=H;have k1:H i1=some (.obj (opC nU) 25):=ad0;have k2:H i2=some (.obj (opC nU) 25):=aeF;have kx:H x=some (lY jid e yl):=by rw[←hH,ag _ _ (fun e2=>acL),ag _ _ (Ne.symm n1)];omega
  have hsub:Ab.Sub h H:=ado;clear hH g;unfold lY at kx;rw[es]at kx;simp only[List.cons_append,List.nil_append]at kx;unfold opC nU an at k1;refine .quiet acO ?_;simp only[go_sem];simp only[go_sem,k1,ah];exact ail
 |some o=>
  obtain⟨hf,hp⟩:=get_some hg;have h64:=BO acL hg;have er1:nD e l=if gm e.ch o=l then some o else none:=acL
  simp only[go_sem,C4,hg,opA,opC,Option.getD,Option.isSome];intro i2 h2;have n2:=aB h2;have n21:=aH h2;simp only[go_sem,ak,n21,n21.symm,n1,n1.symm];generalize hH:upd (upd h i1 _) i2 _=H;have k1:H i1=some (.obj (opC nU) 25):=ad0;have k2:H i2=some (.obj (opC o) 25):=aeF;have kx:H x=some (lY jid e yl):=by rw[←hH,ag _ _ (fun e2=>acL),ag _ _ (Ne.symm n1)];omega
  have hsub:Ab.Sub h H:=ado;clear hH g;unfold lY at kx;rw[es]at kx;simp only[List.cons_append,List.nil_append]at kx;unfold opC nU an at k1;unfold opC at k2;refine .quiet acO ?_;simp only[go_sem,kx,k2];refine⟨_,yX e.ch o h64 (f_l (nS hf)) acL _,?_⟩;simp only[go_sem];refine⟨_,Cy (gm e.ch o) l _ _ _,?_⟩;cases dp:decide (gm e.ch o=l)
  ·have er:nD e l=none:=by grind
   simp only[go_sem,k1,ah];exact ail
  ·have er:nD e l=some o:=by grind
   simp only[go_sem,k1,k2,ah];exact ail
def ldA(d:qc):AV:=.agg (xE d)
def mU(h:Heap)(y:AV)(ds:List qc)(sp:List Nat):Prop:=(y= .sl [] .full∧ds= []∧sp= [])∨∃k,y= .sl (ds.map ldA) (.own k)∧h k=some (.spare ds.length 16)∧sp= [k]
theorem uD:(U 104).sz=16:=acY
theorem mU.row(hg:mU h y ds sp):∃q,y= .sl (ds.map ldA) q:=by rcases hg with⟨rfl,rfl,_⟩|⟨k,rfl,_⟩<;>exact⟨_,rfl⟩
theorem mU.touch(hg:mU h y ds sp)(ht:Touch S h h')(hn:∀i∈sp,i∉S):mU h' y ds sp:=by
 rcases hg with⟨rfl,rfl,rfl⟩|⟨k,rfl,k1,rfl⟩
 ·exact .inl ⟨rfl,rfl,rfl⟩
 ·exact .inr ⟨k,rfl,ht _ _ (hn k acS) k1,rfl⟩
theorem mU.has(hg:mU h y ds sp):∀i∈sp,∃n,h i=some (.spare n 16):=by
 rcases hg with⟨rfl,rfl,rfl⟩|⟨k,rfl,k1,rfl⟩
 ·simp
 grind
theorem Dp(ds:List qc):Sized 16 (ds.map ldA):=fun z hz=>by obtain⟨d,_,rfl⟩:=List.mem_map.1 hz;rfl
theorem uDb:∃n,(U 104).bytes=n∧n≠0∧n≤1000:=⟨_,rfl,acN,acN⟩
theorem mU.app{d:qc}(hg:mU h y ds sp)(hl:ds.length≤1000000)
  (hk:∀y' h' sp',mU h' y' (ds++ [d]) sp'→Touch sp h h'→(∀i∈sp',i∈sp∨h i=none)→Q y' h'):apK U h y (.sl [ldA d] q) Q (.slice 104):=by
 obtain⟨n,hb,hb0,hb1⟩:=uDb;have hm:(ds.length+1)*n≤140737488355328:=by
  have:=Nat.mul_le_mul (show ds.length+1≤1000001 by omega) hb1
  omega
 have s2:Sized 16 [ldA d]:=Dp [d];rcases hg with⟨rfl,rfl,rfl⟩|⟨k,rfl,k1,rfl⟩
 ·refine(qg ..).mpr ⟨acN,acK,?_⟩
  refine⟨by simp[Sized],by grind [uD],acL,And.intro (fun hn=>by cases hn) (fun hn=>oc.own fun id hid=>?_)⟩
  rw[uD];exact hk _ _ [id] (.inr ⟨id,rfl,agL,rfl⟩) (.of ((Ab.Sub.refl h).new hid _)) acL
 ·refine(BB ..).mpr ⟨acN,acK,?_⟩
  refine⟨by grind [uD,Dp],by grind [uD],acL,by grind [uD],?_⟩
  rw[uD];exact hk _ _ [k] (.inr ⟨k,acS,agL,rfl⟩) .upd acS
theorem GH(e:iG)(s:aq)(d:qc)(p:Txt)(q:Perm)(jid x:Nat)(yl:AV)(sp:List Nat)(h:Heap)(hx:h x=some (lY jid e yl))(hg:mU h yl e.log sp)(hl:e.log.length≤1000000)(hp:p.length≤1000000):
  ai prog 61 [.ptr x 0,cN s,.agg (xE d),.sl (p.map aI) q] h fun r h' =>r= .tup []∧∃yl' sp',h' x=some (lY jid {e with s:=s,log:=e.log++ [d],ch:=rY e.ch p} yl')∧mU h' yl' (e.log++ [d]) sp'∧Touch (x::sp) h h'∧(∀i∈sp',i∈sp∨h i=none):=by
 obtain⟨a1,a2,a3,a4,a5,a6,a7,es⟩:=cQ e.s;obtain⟨b1,b2,b3,b4,b5,b6,b7,es2⟩:=cQ s;have g:=hx;unfold lY at g;rw[es]at g;simp only[List.cons_append,List.nil_append]at g;rw[show cN s= .agg (jt s)from rfl,es2]
 refine ai.of_wp hU func61 rfl acY 31 rfl [] rfl (acz rfl) ?_;refine .one hU hm ?_;simp only[go_sem];intro i1 h1;simp only[go_sem,xE,opC];intro i2 h2;have n2:=aB h2;have n21:=aH h2;have x1:i1≠x:=fun e=>afz
 have x2:i2≠x:=fun e=>afA
 generalize hH:upd (upd h i1 _) i2 _=H;have k1:H i1=some (.obj [.i s.tick,gh s.cases,kj s.reviews,lC s.notices,dY s.roles,b1,b2,b3,b4,b5,b6,b7,.i s.version] 98):=by rw[←hH,ag _ _ (Ne.symm n21),ah]
 have k2:H i2=some (.obj [.i d.op.kind,.s d.op.subj,.s d.op.case,.s d.op.field,.s d.op.to,.i d.op.val.kind,.i d.op.val.n,.s d.op.val.s,.i d.op.review,.s d.op.text,.s d.op.reason,.b d.op.glass,.i d.version,aR d.mark,.b d.glass,aA d.obls] 104):=by rw[←hH,ah]
 have kx:H x=_:=(by rw[←hH,ag _ _ (Ne.symm x2),ag _ _ (Ne.symm x1)]:H x=h x).trans g
 have hsub:Ab.Sub h H:=ado;clear hH g;simp only[go_sem];refine .one hU hm ?_;simp only[go_sem,kx,k1];generalize hK:upd H x _=K;have kx2:K x=some (.obj [.ptr jid 0,.i s.tick,gh s.cases,kj s.reviews,lC s.notices,dY s.roles,b1,b2,b3,b4,b5,b6,b7,.i s.version,yl,.v (.int .u64 (e.ch.toNat:Int))] 102):=by rw[←hK,ah]
 have k22:K i2=_:=(by rw[←hK,ag _ _ x2]:K i2=H i2).trans k2
 have hT:Touch [x] H K:=by rw[←hK];exact .upd
 clear hK
 show WP _ _ _ _ _ _
 refine .one hU hm ?_;simp only[go_sem];refine .last (hm2 x (.obj [.ptr jid 0,.i s.tick,gh s.cases,kj s.reviews,lC s.notices,dY s.roles,b1,b2,b3,b4,b5,b6,b7,.i s.version,yl,.v (.int .u64 (e.ch.toNat:Int))] 102) i2 (.obj [.i d.op.kind,.s d.op.subj,.s d.op.case,.s d.op.field,.s d.op.to,.i d.op.val.kind,.i d.op.val.n,.s d.op.val.s,.i d.op.review,.s d.op.text,.s d.op.reason,.b d.op.glass,.i d.version,aR d.mark,.b d.glass,aA d.obls] 104)) [0,1,2,3,4,5,6,7,8,9] (.hm2 kx2 k22) acO rfl acO rfl ?_;simp only[go_sem,kx2,k22,ru _ _ (Ne.symm x2),ry];have hno:∀i∈sp,i≠x∧i≠i1∧i≠i2:=fun i hi=>by obtain⟨n,hn⟩:=hg.has i hi;exact⟨fun e=>(by rw[e,hx]at hn;cases hn),fun e=>acL,fun e=>acL⟩
 have hgK:mU K yl e.log sp:=(hg.touch (S:=[]) (.of hsub) acS).touch hT acL;refine hgK.app hl fun z G sp' hg4 ht4 hsp' =>?_
 have kx3:=ht4 _ _ acL kx2;have k23:=ht4 _ _ acL k22;have xG:∀i∈sp',i≠x:=fun i hi e2=>by obtain⟨n,hn⟩:=hg4.has i hi;rw[e2,kx3]at hn;cases hn
 refine⟨.hm2 kx3 k23,?_⟩;have hrow:=hg4.row;obtain⟨qz,ez⟩:=hrow;subst ez;simp only[go_sem,kx3];refine .vc hU hm ?_;simp only[go_sem,ah];refine(CC e.ch _ p _ (.sl _ _) hp).pthen ?_;simp only[go_sem,ah,nK];have hF:Touch [x] G (upd G x (some (.obj [.ptr jid 0,.i s.tick,gh s.cases,kj s.reviews,lC s.notices,dY s.roles,b1,b2,b3,b4,b5,b6,b7,.i s.version,(.sl ((e.log++ [d]).map ldA) qz),.v (.int .u64 ((rY e.ch p).toNat:Int))] 102))):=.upd;refine .same (.refl _) ⟨rfl,_,sp',?_,hg4.touch hF acL,?_,fun i hi=>?_⟩
 ·simp_all [lY,ah]
 ·exact((((Touch.of (S:=[]) hsub).trans hT).trans ht4).trans hF).mono acL
 ·rcases hsp' i hi with h3|h3
  ·grind
  ·right
   have:K i=none:=h3;cases hh:h i with
   |none=>rfl
   |some b=>have hxi:i≠x:=xG i hi;have:=hT _ _ acL (hsub _ _ hh);rw[h3]at this;cases this
def jI(h:Heap)(x jid did:Nat)(e:iG)(spl spj:List Nat):Prop:=
 ∃yl,h x=some (lY jid e yl)∧mU h yl e.log spl∧JAt h 116 jid did e.ps e.down spj
theorem Kt(x jid did:Nat)(e:iG)(spl spj:List Nat)(h:Heap)(he:jI h x jid did e spl spj):ai prog 37 [.ptr x 0] h fun r h' =>r= .v (.int .u64 (e.ch.toNat:Int))∧h' =h:=by
 obtain⟨yl,hx,hg,hj⟩:=he;obtain⟨a1,a2,a3,a4,a5,a6,a7,es⟩:=cQ e.s;have g:=hx;unfold lY at g;rw[es]at g;refine acJ func37 7 [.tmp 2] fun hwf=>?_
 simp only[go_sem,g];exact acW
theorem CQ(x jid did:Nat)(e:iG)(spl spj:List Nat)(h:Heap)(he:jI h x jid did e spl spj)(hl:e.ps.length≤1000000)(hp:∀p∈e.ps,p.length≤1000000):ai prog 36 [.ptr x 0] h fun r h' =>∃q,r= .sl (e.ps.map kL) q∧Ab.Sub h h' :=by
 obtain⟨yl,hx,hg,hj⟩:=he;have g:=hx;unfold lY at g;refine acJ func36 8 [.tmp 2] fun hwf=>?_
 simp only[go_sem,g];refine(yY jid did e.ps e.down spj h hj hl hp).mono fun r h' ⟨q,e1,hs⟩=>?_
 subst e1;simp only[go_sem];exact .same (.refl _) ⟨q,rfl,hs⟩
theorem Nw(x jid did:Nat)(e:iG)(spl spj:List Nat)(o:OpD)(h:Heap)(he:jI h x jid did e spl spj)(hd:e.down=true):ai prog 35 [.ptr x 0,opA o] h fun r h' =>r= .agg (nX (Im 9))∧h' =h:=by
 obtain⟨yl,hx,hg,hj⟩:=he;have g:=hx;unfold lY at g;refine acJ func35 53 [.cell 4 67] fun hwf=>?_
 simp only[go_sem,opA,opC];intro i1 h1;have x1:i1≠x:=fun e=>acL
 simp only[go_sem];intro i2 h2;have n2:=aB h2;have x2:i2≠x:=fun e=>acL
 generalize hH:upd (upd h i1 _) i2 _=H;have kx:H x=_:=(by rw[←hH,ag _ _ (Ne.symm x2),ag _ _ (Ne.symm x1)]:H x=h x).trans g
 have k2:H i2=some (.obj nM 67):=aeF;have hsub:Ab.Sub h H:=ado;unfold nM at k2;simp only[go_sem,kx];refine(wH jid did e.ps e.down spj H (hj.sub hsub)).pthen ?_;rw[hd];simp only[go_sem,k2,ah];refine .mk _ (.refl _) (hsub.put n2 _) ⟨?_,rfl⟩;rfl
theorem oT(s:aq)(r:lN)(d:qc)(e:Int):jQ (s,r,d,e)= .tup [cN s,.agg [.i r.err,.v (.complex .f64 (hbit r.mark.1) (hbit r.mark.2)),.b r.glass,.i r.val.kind,.i r.val.n,.s r.val.s,.b r.hidden,.i r.at_],.agg [.i d.op.kind,.s d.op.subj,.s d.op.case,.s d.op.field,.s d.op.to,.i d.op.val.kind,.i d.op.val.n,.s d.op.val.s,.i d.op.review,.s d.op.text,.s d.op.reason,.b d.op.glass,.i d.version,.v (.complex .f64 (hbit d.mark.1) (hbit d.mark.2)),.b d.glass,.sl (d.obls.map bu) .no],.i e]:=rfl
theorem QC(x jid did:Nat)(e:iG)(spl spj:List Nat)(o:OpD)(h:Heap)(he:jI h x jid did e spl spj)(hd:e.down=false)(hG:oJ k e.s)(hk:k≤1000)(h64:nO o)(her:l8 h)(hne:(bA e.s o).2.2.2≠0):ai prog 35 [.ptr x 0,opA o] h fun r h' =>r= .agg (nX (bA e.s o).2.1)∧h' =h:=by
 have hgd:=fun(G:Heap) (hG' :Ab.Sub h G)=>oS e.s hG hk o h64 G (her.sub hG')
 have he0:=he;obtain⟨yl,hx,hg,hj⟩:=he;obtain⟨a1,a2,a3,a4,a5,a6,a7,es⟩:=cQ e.s;have g:=hx;unfold lY at g;rw[es]at g;simp only[List.cons_append,List.nil_append]at g;refine acJ func35 53 [.cell 4 67] fun hwf=>?_
 simp only[go_sem,opA,opC];intro i1 h1;have x1:i1≠x:=fun e=>afz
 simp only[go_sem];intro i2 h2;have n2:=aB h2;have x2:i2≠x:=fun e=>afA
 have n21:=aH h2;generalize hH:upd (upd h i1 _) i2 _=H;have kx:H x=_:=(by rw[←hH,ag _ _ (Ne.symm x2),ag _ _ (Ne.symm x1)]:H x=h x).trans g
 have k2:H i2=some (.obj nM 67):=aeF;have k1:H i1=some (.obj (opC o) 25):=ad0;have hsub:Ab.Sub h H:=ado;clear hH g;unfold nM at k2;simp only[go_sem,kx];refine(wH jid did e.ps e.down spj H (hj.sub hsub)).pthen ?_;rw[hd];generalize bA e.s o=gd at hgd hne⊢;obtain⟨S,R,D,E⟩:=gd;simp only at hne⊢;obtain⟨b1,b2,b3,b4,b5,b6,b7,es2⟩:=cQ S;rw[oT,show cN e.s= .agg (jt e.s)from rfl,es,show cN S= .agg (jt S)from rfl,es2]at hgd
 simp only[opA,opC]at hgd;unfold opC at k1;simp only[go_sem];refine .tree _ (.quiet [0,1,2,3,4] 5 (.news [6,7,8,9,10] [11,12,13] (.seq [14,15,16,17]))) (.refl _) acO rfl ?_;simp only[go_sem,kx,k1];refine⟨_,fun G hs=>hgd G (hsub.trans hs),?_⟩
 simp only[go_sem];refine⟨.refl _,acS,?_⟩;intro jd hjd je hje jf hjf;have ned:=aH hje;have kje:=aB hje;have nfe:=aH hjf;have nfd:=aH (aB hjf);have kjf:=aB (aB hjf);simp only[go_sem,ak,ned,ned.symm,nfe,nfe.symm,nfd,nfd.symm];refine⟨acU,acU,acU,?_⟩;have mjd:=hsub.none hjd;have mje:=hsub.none kje;have mjf:=hsub.none kjf;have j2:jd≠i2:=fun e=>agi
 have j2e:je≠i2:=fun e=>agj
 have j2f:jf≠i2:=fun e=>agk
 have dE:(E==0)=false:=beq_eq_false_iff_ne.mpr hne;have dE2:(E !=0)=true:=bne_iff_ne.mpr hne;simp only[go_sem,ak,dE,dE2,ned,ned.symm,nfe,nfe.symm,nfd,nfd.symm,j2,j2.symm,j2e,j2e.symm,j2f,j2f.symm,k2];refine .mk _ (.refl _) ?_ ⟨rfl,rfl⟩
 repeat (first|exact hsub|refine Ab.Sub.put ?_ acV _)
theorem Gt{P:Program}{U:TypeId→TI}{l:List Oper}{ρ:Env}{K:Exit→Env→Heap→Prop}(hh:∀H2,H2=h→lU P U n l ρ H2 K):lU P U n l ρ h K:=hh h rfl
theorem bR.upd{id i:Nat}{t:TypeId}{b:Option Blk}(hd:bR h id d)(hi:h i=some (.obj cs t))(h1:t≠82)(h2:t≠5):bR (Ab.upd h i b) id d:=by
 obtain⟨y,hy,hb⟩:=hd;refine⟨y,?_,?_⟩
 ·grind [ag,Option.some.inj]
 ·rcases hb with hb|⟨j,off,cs2,rfl,a1,a2,a3⟩
  ·exact agD
  ·refine .oa ?_ a2 a3
   grind [ag,Option.some.inj]
theorem QE(x jid did:Nat)(e:iG)(d:D)(spl spj:List Nat)(o:OpD)(h:Heap)(he:jI h x jid did e spl spj)(hdk:bR h did d)(hdo:d.ok)(hps:e.ps.length≤1000000)(hlg:e.log.length≤1000000)(hd:e.down=false)(hG:oJ k e.s)(hk:k≤1000)(h64:nO o)(her:l8 h)(hne:(bA e.s o).2.2.2=0)(hcode:(jadd d e.ps false (gm e.ch o)).2≠0):
  ai prog 35 [.ptr x 0,opA o] h fun r h' =>r= .agg (nX (doE e d o).2.2)∧∃spl' spj',jI h' x jid did (doE e d o).1 spl' spj'∧bR h' did (doE e d o).2.1∧Touch (x::did::jid::(spl++spj)) h h'∧(∀i∈spl',i∈spl∨h i=none)∧(∀i∈spj',i∈spj∨h i=none):=by
 have hF:=nS (oU hne);have hrl:=wP (h:=e.ch) hF;have hpl:=tU hF;have edo:doE e d o=(let a:=jadd d e.ps false (gm e.ch o);if a.2=0 then({qD e (bA e.s o) (gm e.ch o)with ps:=a.1.2.1,down:=a.1.2.2},a.1.1,(bA e.s o).2.1)else({e with ps:=a.1.2.1,down:=a.1.2.2},a.1.1,Im (a.2:Int))):=by exact aix
 have hgd:=fun(G:Heap) (hG' :Ab.Sub h G)=>oS e.s hG hk o h64 G (her.sub hG')
 have he0:=he;obtain⟨yl,hx,hg,hj⟩:=he;obtain⟨a1,a2,a3,a4,a5,a6,a7,es⟩:=cQ e.s;have g:=hx;unfold lY at g;rw[es]at g;simp only[List.cons_append,List.nil_append]at g;refine acJ func35 53 [.cell 4 67] fun hwf=>?_
 simp only[go_sem,opA,opC];intro i1 h1;have x1:i1≠x:=fun e=>afz
 simp only[go_sem];intro i2 h2;have n2:=aB h2;have x2:i2≠x:=fun e=>afA
 have n21:=aH h2;generalize hH:upd (upd h i1 _) i2 _=H;have kx:H x=_:=(by rw[←hH,ag _ _ (Ne.symm x2),ag _ _ (Ne.symm x1)]:H x=h x).trans g
 have k2:H i2=some (.obj nM 67):=aeF;have k1:H i1=some (.obj (opC o) 25):=ad0;have hsub:Ab.Sub h H:=ado;clear hH g;unfold nM at k2;simp only[go_sem,kx];refine(wH jid did e.ps e.down spj H (hj.sub hsub)).pthen ?_;rw[hd];generalize bA e.s o=gd at hgd hne edo⊢;obtain⟨S,R,D,E⟩:=gd;simp only at hne edo⊢;subst hne;obtain⟨b1,b2,b3,b4,b5,b6,b7,es2⟩:=cQ S;rw[oT,show cN e.s= .agg (jt e.s)from rfl,es,show cN S= .agg (jt S)from rfl,es2]at hgd
 simp only[opA,opC]at hgd;unfold opC at k1;simp only[go_sem];refine .tree _ (.quiet [0,1,2,3,4] 5 (.news [6,7,8,9,10] [11,12,13] (.seq [14,15,16,17]))) (.refl _) acO rfl ?_;simp only[go_sem,kx,k1];refine⟨_,fun G hs=>hgd G (hsub.trans hs),?_⟩
 simp only[go_sem];refine⟨.refl _,acS,?_⟩;intro jd hjd je hje jf hjf;have ned:=aH hje;have kje:=aB hje;have nfe:=aH hjf;have nfd:=aH (aB hjf);have kjf:=aB (aB hjf);simp only[go_sem,ak,ned,ned.symm,nfe,nfe.symm,nfd,nfd.symm];refine⟨acU,acU,acU,?_⟩;have mjd:=hsub.none hjd;have mje:=hsub.none kje;have mjf:=hsub.none kjf;have j2:jd≠i2:=fun e=>agi
 have j2e:je≠i2:=fun e=>agj
 have j2f:jf≠i2:=fun e=>agk
 refine Gt fun H2 w2=>?_
 have xjd:jd≠x:=fun e=>agm
 have xje:je≠x:=fun e=>agn
 have xjf:jf≠x:=fun e=>ago
 have y1:jd≠i1:=fun e=>by rw[e,k1]at hjd;cases hjd
 have y2:je≠i1:=fun e=>by rw[e,k1]at kje;cases kje
 have y3:jf≠i1:=fun e=>by rw[e,k1]at kjf;cases kjf
 have hs2:Ab.Sub h H2:=aeD;have fx:H2 x=_:=(by rw[w2];simp only[ak,xjd,xjd.symm,xje,xje.symm,xjf,xjf.symm,ne_eq,not_false_eq_true]:H2 x=H x).trans kx
 have f1:H2 i1=_:=(by rw[w2];simp only[ak,y1,y1.symm,y2,y2.symm,y3,y3.symm,ne_eq,not_false_eq_true]:H2 i1=H i1).trans k1
 have f2:H2 i2=_:=(by rw[w2];simp only[ak,j2,j2.symm,j2e,j2e.symm,j2f,j2f.symm,ne_eq,not_false_eq_true]:H2 i2=H i2).trans k2
 have fd:H2 jd=some (.obj [.i S.tick,gh S.cases,kj S.reviews,lC S.notices,dY S.roles,b1,b2,b3,b4,b5,b6,b7,.i S.version] 98):=ac6;have fe:H2 je=some (.obj [.i R.err,.v (.complex .f64 (hbit R.mark.1) (hbit R.mark.2)),.b R.glass,.i R.val.kind,.i R.val.n,.s R.val.s,.b R.hidden,.i R.at_] 67):=ac6;have ff:H2 jf=some (.obj (xE D) 104):=adz;clear w2;refine .quiet acO ?_;simp only[go_sem,fx,f1];refine⟨_,yX e.ch o h64 (f_l hF) acK _,?_⟩;simp only[go_sem,fx];refine(GO d hdo did jid e.ps e.down spj H2 _ (gm e.ch o) (hdk.keep hs2.fR) (hj.sub hs2) (.sl _ _) acK hps).mono fun r H3 ⟨er,spj',hd3,hj3,hT3,hs3⟩=>?_
 subst er;have hin:∀q∈did::jid::spj,∃b,h q=some b∧∀cs,b≠ .obj cs 102:=fun q hq=>by exact ahi
 have out:∀q,h q=none→q∉did::jid::spj:=fun q hq hi=>by obtain⟨b,hb,_⟩:=hin q hi;rw[hq]at hb;cases hb
 have outx:x∉did::jid::spj:=fun hi=>by exact aiF
 have fx3:=hT3 _ _ outx fx;have f23:=hT3 _ _ (out i2 n2) f2;have fd3:=hT3 _ _ (out jd mjd) fd;have fe3:=hT3 _ _ (out je mje) fe;have ff3:=hT3 _ _ (out jf mjf) ff;rw[hd]at hd3 hj3⊢;generalize jadd d e.ps false (gm e.ch o)=a at hd3 hj3 edo hcode⊢;obtain⟨⟨d2,ps2,dn2⟩,code⟩:=a;simp only at hd3 hj3 edo hcode⊢;cases dc:((code:Int)==0)
 ·have hc:code≠0:=fun e2=>by subst e2;cases dc
  have dc2:((code:Int) !=0)=true:=by rw[bne,dc];rfl
  rw[if_neg hc]at edo;simp only[go_sem,dc2,f23,ah];have hsp:∀i∈spl,i∉did::jid::spj:=fun i hi hq=>by exact ahh
  have hg3:=(hg.touch (S:=[]) (.of hs2) (fun i hi hh=>aea)).touch hT3 hsp
  have hnl:∀i∈spl,i∉ [i2]:=fun i hi hh=>by obtain⟨n,hn⟩:=hg.has i hi;rw[List.mem_singleton.1 hh,n2]at hn;cases hn
  have hF4:∀b,Touch [i2] H3 (upd H3 i2 b):=fun b=> .upd
  have hj3' :=hj3;obtain⟨z,zs,hz1,hz2,_⟩:=hj3';refine .same (.refl _) ⟨by rw[edo];rfl,spl,spj',?_,?_,?_,fun i hi=> .inl hi,fun i hi=>?_⟩
  ·rw[edo]
   refine⟨yl,?_,hg3.touch (hF4 _) hnl,hj3.touch (hF4 _) ?_ ?_⟩
   ·rw[ag _ _ (Ne.symm x2),fx3]
    unfold lY;rw[es];rfl
   ·intro hh
    rw[List.mem_singleton.1 hh,f23]at hz1;cases hz1
   ·intro i hi hh
    obtain⟨n,hn⟩:=hz2.has i hi;rw[List.mem_singleton.1 hh,f23]at hn;cases hn
  ·rw[edo]
   exact hd3.upd f23 acN acN
  ·exact(((Touch.of (S:=[]) hs2).trans hT3).trans (hF4 _)).mono (fun i hi=>by
    simp only[List.nil_append,List.mem_append,List.mem_cons,List.mem_singleton,List.not_mem_nil,or_false]at hi;rcases hi with(h3|h3|h3)|h3
    ·left;simp[h3]
    ·left;simp[h3]
    ·left;simp[h3]
    ·right;rw[h3];exact n2)
  ·rcases hs3 i hi with h3|h3
   ·exact .inl h3
   ·right;exact hs2.none h3
 ·exact absurd (eq_of_beq dc) acK
theorem bR.touch{id:Nat}(hd:bR h id d)(ht:Touch S h h')(hS:∀i∈S,∀cs,h i≠some (.obj cs 82)∧h i≠some (.obj cs 5)):bR h' id d:=by
 obtain⟨y,hy,hb⟩:=hd;refine⟨y,ht _ _ acL hy,?_⟩;rcases hb with hb|⟨j,off,cs2,rfl,a1,a2,a3⟩
 ·exact agD
 ·exact .oa (ht _ _ acL a1) a2 a3
theorem QD(x jid did:Nat)(e:iG)(d:D)(spl spj:List Nat)(o:OpD)(h:Heap)(he:jI h x jid did e spl spj)(hdk:bR h did d)(hdo:d.ok)(hps:e.ps.length≤1000000)(hlg:e.log.length≤1000000)(hd:e.down=false)(hG:oJ k e.s)(hk:k≤1000)(h64:nO o)(her:l8 h)(hne:(bA e.s o).2.2.2=0)(hcode:(jadd d e.ps false (gm e.ch o)).2=0):
  ai prog 35 [.ptr x 0,opA o] h fun r h' =>r= .agg (nX (doE e d o).2.2)∧∃spl' spj',jI h' x jid did (doE e d o).1 spl' spj'∧bR h' did (doE e d o).2.1∧Touch (x::did::jid::(spl++spj)) h h'∧(∀i∈spl',i∈spl∨i∈spj∨h i=none)∧(∀i∈spj',i∈spj∨h i=none):=by
 have hF:=nS (oU hne);have hrl:=wP (h:=e.ch) hF;have hpl:=tU hF;have edo:doE e d o=(let a:=jadd d e.ps false (gm e.ch o);if a.2=0 then({qD e (bA e.s o) (gm e.ch o)with ps:=a.1.2.1,down:=a.1.2.2},a.1.1,(bA e.s o).2.1)else({e with ps:=a.1.2.1,down:=a.1.2.2},a.1.1,Im (a.2:Int))):=by exact aix
 have hgd:=fun(G:Heap) (hG' :Ab.Sub h G)=>oS e.s hG hk o h64 G (her.sub hG')
 have he0:=he;obtain⟨yl,hx,hg,hj⟩:=he;obtain⟨a1,a2,a3,a4,a5,a6,a7,es⟩:=cQ e.s;have g:=hx;unfold lY at g;rw[es]at g;simp only[List.cons_append,List.nil_append]at g;refine acJ func35 53 [.cell 4 67] fun hwf=>?_
 simp only[go_sem,opA,opC];intro i1 h1;have x1:i1≠x:=fun e=>afz
 simp only[go_sem];intro i2 h2;have n2:=aB h2;have x2:i2≠x:=fun e=>afA
 have n21:=aH h2;generalize hH:upd (upd h i1 _) i2 _=H;have kx:H x=_:=(by rw[←hH,ag _ _ (Ne.symm x2),ag _ _ (Ne.symm x1)]:H x=h x).trans g
 have k2:H i2=some (.obj nM 67):=aeF;have k1:H i1=some (.obj (opC o) 25):=ad0;have hsub:Ab.Sub h H:=ado;clear hH g;unfold nM at k2;simp only[go_sem,kx];refine(wH jid did e.ps e.down spj H (hj.sub hsub)).pthen ?_;rw[hd];generalize bA e.s o=gd at hgd hne edo⊢;obtain⟨S,R,D,E⟩:=gd;simp only at hne edo⊢;subst hne;obtain⟨b1,b2,b3,b4,b5,b6,b7,es2⟩:=cQ S;rw[oT,show cN e.s= .agg (jt e.s)from rfl,es,show cN S= .agg (jt S)from rfl,es2]at hgd
 simp only[opA,opC]at hgd;unfold opC at k1;simp only[go_sem];refine .tree _ (.quiet [0,1,2,3,4] 5 (.news [6,7,8,9,10] [11,12,13] (.seq [14,15,16,17]))) (.refl _) acO rfl ?_;simp only[go_sem,kx,k1];refine⟨_,fun G hs=>hgd G (hsub.trans hs),?_⟩
 simp only[go_sem];refine⟨.refl _,acS,?_⟩;intro jd hjd je hje jf hjf;have ned:=aH hje;have kje:=aB hje;have nfe:=aH hjf;have nfd:=aH (aB hjf);have kjf:=aB (aB hjf);simp only[go_sem,ak,ned,ned.symm,nfe,nfe.symm,nfd,nfd.symm];refine⟨acU,acU,acU,?_⟩;have mjd:=hsub.none hjd;have mje:=hsub.none kje;have mjf:=hsub.none kjf;have j2:jd≠i2:=fun e=>agi
 have j2e:je≠i2:=fun e=>agj
 have j2f:jf≠i2:=fun e=>agk
 refine Gt fun H2 w2=>?_
 have xjd:jd≠x:=fun e=>agm
 have xje:je≠x:=fun e=>agn
 have xjf:jf≠x:=fun e=>ago
 have y1:jd≠i1:=fun e=>by rw[e,k1]at hjd;cases hjd
 have y2:je≠i1:=fun e=>by rw[e,k1]at kje;cases kje
 have y3:jf≠i1:=fun e=>by rw[e,k1]at kjf;cases kjf
 have hs2:Ab.Sub h H2:=aeD;have fx:H2 x=_:=(by rw[w2];simp only[ak,xjd,xjd.symm,xje,xje.symm,xjf,xjf.symm,ne_eq,not_false_eq_true]:H2 x=H x).trans kx
 have f1:H2 i1=_:=(by rw[w2];simp only[ak,y1,y1.symm,y2,y2.symm,y3,y3.symm,ne_eq,not_false_eq_true]:H2 i1=H i1).trans k1
 have f2:H2 i2=_:=(by rw[w2];simp only[ak,j2,j2.symm,j2e,j2e.symm,j2f,j2f.symm,ne_eq,not_false_eq_true]:H2 i2=H i2).trans k2
 have fd:H2 jd=some (.obj [.i S.tick,gh S.cases,kj S.reviews,lC S.notices,dY S.roles,b1,b2,b3,b4,b5,b6,b7,.i S.version] 98):=ac6;have fe:H2 je=some (.obj [.i R.err,.v (.complex .f64 (hbit R.mark.1) (hbit R.mark.2)),.b R.glass,.i R.val.kind,.i R.val.n,.s R.val.s,.b R.hidden,.i R.at_] 67):=ac6;have ff:H2 jf=some (.obj (xE D) 104):=adz;clear w2;refine .quiet acO ?_;simp only[go_sem,fx,f1];refine⟨_,yX e.ch o h64 (f_l hF) acK _,?_⟩;simp only[go_sem,fx];refine(GO d hdo did jid e.ps e.down spj H2 _ (gm e.ch o) (hdk.keep hs2.fR) (hj.sub hs2) (.sl _ _) acK hps).mono fun r H3 ⟨er,spj',hd3,hj3,hT3,hs3⟩=>?_
 subst er;have hin:∀q∈did::jid::spj,∃b,h q=some b∧∀cs,b≠ .obj cs 102:=fun q hq=>by exact ahi
 have out:∀q,h q=none→q∉did::jid::spj:=fun q hq hi=>by obtain⟨b,hb,_⟩:=hin q hi;rw[hq]at hb;cases hb
 have outx:x∉did::jid::spj:=fun hi=>by exact aiF
 have fx3:=hT3 _ _ outx fx;have f23:=hT3 _ _ (out i2 n2) f2;have fd3:=hT3 _ _ (out jd mjd) fd;have fe3:=hT3 _ _ (out je mje) fe;have ff3:=hT3 _ _ (out jf mjf) ff;rw[hd]at hd3 hj3⊢;generalize jadd d e.ps false (gm e.ch o)=a at hd3 hj3 edo hcode⊢;obtain⟨⟨d2,ps2,dn2⟩,code⟩:=a;simp only at hd3 hj3 edo hcode⊢;subst hcode;rw[if_pos rfl]at edo;simp only[xE,opC,List.cons_append,List.nil_append]at ff3;have hsp:∀i∈spl,i∉did::jid::spj:=fun i hi hq=>by exact ahh
 have hg3:=(hg.touch (S:=[]) (.of hs2) (fun i hi hh=>aea)).touch hT3 hsp
 have hx3:H3 x=some (lY jid e yl):=by rw[fx3];unfold lY;rw[es];rfl
 have hgo:=GH e S D (gm e.ch o) .no jid x yl spl H3 hx3 hg3 hlg acK;rw[show cN S= .agg (jt S)from rfl,es2]at hgo
 simp only[xE,opC,List.cons_append,List.nil_append]at hgo;simp only[go_sem,fd3,ff3];refine hgo.mono fun r H4 ⟨er,yl',spl',hx4,hg4,hT4,hs4⟩=>?_
 subst er;have hnl:∀q,h q=none→q∉x::spl:=fun q hq hh=>by
  rcases List.mem_cons.1 hh with rfl|hh
  ·rw[hx]at hq;cases hq
  ·obtain⟨n,hn⟩:=hg.has q hh
   rw[hn]at hq;cases hq
 have fe4:=hT4 _ _ (hnl je mje) fe3;have f24:=hT4 _ _ (hnl i2 n2) f23;simp only[go_sem,fe4,f24,ah];have hF4:∀b,Touch [i2] H4 (upd H4 i2 b):=fun b=> .upd
 have hj3' :=hj3;obtain⟨z,zs,hz1,hz2,_⟩:=hj3';have jx:jid∉x::spl:=fun hh=>by exact ahU
 have sx:∀i∈spj',i∉x::spl:=fun i hi hh=>by
  obtain⟨n,hn⟩:=hz2.has i hi;rcases List.mem_cons.1 hh with rfl|hh
  ·rw[hx3]at hn;cases hn
  ·obtain⟨n2,hn2⟩:=hg3.has i hh
   rw[hn2]at hn;cases hn
 have hj4:=hj3.touch hT4 jx sx;have hj4' :=hj4;obtain⟨z4,zs4,hz41,hz42,_⟩:=hj4';have hd4:=hd3.touch hT4 (fun i hi cs=>by
  rcases List.mem_cons.1 hi with rfl|hi
  ·rw[hx3];exact⟨fun hh=>aea,fun hh=>aea⟩
  ·obtain⟨n,hn⟩:=hg3.has i hi
   rw[hn];exact⟨fun hh=>aea,fun hh=>aea⟩)
 refine .same (.refl _) ⟨by rw[edo];rfl,spl',spj',?_,?_,?_,fun i hi=>?_,fun i hi=>?_⟩
 ·rw[edo]
  refine⟨yl',?_,hg4.touch (hF4 _) ?_,hj4.touch (hF4 _) ?_ ?_⟩
  ·rw[ag _ _ (Ne.symm x2),hx4]
   unfold lY;simp only[qD]
  ·intro i hi hh
   obtain⟨n,hn⟩:=hg4.has i hi;rw[List.mem_singleton.1 hh,f24]at hn;cases hn
  ·intro hh
   rw[List.mem_singleton.1 hh,f24]at hz41;cases hz41
  ·intro i hi hh
   obtain⟨n,hn⟩:=hz42.has i hi;rw[List.mem_singleton.1 hh,f24]at hn;cases hn
 ·rw[edo]
  exact hd4.upd f24 acN acN
 ·exact((((Touch.of (S:=[]) hs2).trans hT3).trans hT4).trans (hF4 _)).mono (fun i hi=>by
   simp only[List.nil_append,List.mem_append,List.mem_cons,List.mem_singleton,List.not_mem_nil,or_false]at hi;rcases hi with((h3|h3|h3)|(h3|h3))|h3
   ·left;simp[h3]
   ·left;simp[h3]
   ·left;simp[h3]
   ·left;simp[h3]
   ·left;simp[h3]
   ·right;rw[h3];exact n2)
 ·rcases hs4 i hi with h3|h3
  ·exact .inl h3
  ·right
   cases hh:h i with
   |none=>exact .inr rfl
   |some b=>
    left
    by_cases hm3:i∈did::jid::spj
    ·simp only[List.mem_cons]at hm3
     rcases hm3 with rfl|rfl|hm3
     ·obtain⟨w,hw,_⟩:=hd3
      rw[hw]at h3;cases h3
     ·rw[hz1]at h3;cases h3
     ·exact hm3
    ·have:=hT3 _ _ hm3 (hs2 _ _ hh)
     rw[h3]at this;cases this
 ·rcases hs3 i hi with h3|h3
  ·exact .inl h3
  ·right;exact hs2.none h3
theorem TQ(x jid did:Nat)(e:iG)(d:D)(spl spj:List Nat)(o:OpD)(h:Heap)(he:jI h x jid did e spl spj)(hdk:bR h did d)(hdo:d.ok)(hps:e.ps.length≤1000000)(hlg:e.log.length≤1000000)(hG:oJ k e.s)(hk:k≤1000)(h64:nO o)(her:l8 h):
  ai prog 35 [.ptr x 0,opA o] h fun r h' =>r= .agg (nX (doE e d o).2.2)∧∃spl' spj',jI h' x jid did (doE e d o).1 spl' spj'∧bR h' did (doE e d o).2.1∧Touch (x::did::jid::(spl++spj)) h h'∧(∀i∈spl',i∈spl∨i∈spj∨h i=none)∧(∀i∈spj',i∈spj∨h i=none):=by
 have stay:∀R:lN,doE e d o=(e,d,R)→∀(r:AV) (h' :Heap),(r= .agg (nX R)∧h' =h)→r= .agg (nX (doE e d o).2.2)∧∃spl' spj',jI h' x jid did (doE e d o).1 spl' spj'∧bR h' did (doE e d o).2.1∧Touch (x::did::jid::(spl++spj)) h h'∧(∀i∈spl',i∈spl∨i∈spj∨h i=none)∧(∀i∈spj',i∈spj∨h i=none):=fun R ed r h' ⟨e1,e2⟩=>by subst e2;rw[ed];exact⟨e1,spl,spj,he,hdk,.refl _ _,fun i hi=> .inl hi,fun i hi=> .inl hi⟩
 cases hd:e.down
 case true=>exact(Nw x jid did e spl spj o h he hd).mono (stay _ (by simp_all [doE,if_pos]))
 by_cases hne:(bA e.s o).2.2.2=0
 case neg=>exact(QC x jid did e spl spj o h he hd hG hk h64 her hne).mono (stay _ (by simp_all [doE,if_neg,if_pos]))
 by_cases hcode:(jadd d e.ps false (gm e.ch o)).2=0
 ·exact QD x jid did e d spl spj o h he hdk hdo hps hlg hd hG hk h64 her hne hcode
 ·exact(QE x jid did e d spl spj o h he hdk hdo hps hlg hd hG hk h64 her hne hcode).mono fun r h' ⟨a,s1,s2,b,c,f,g,i⟩=>⟨a,s1,s2,b,c,f,fun q hq=>(g q hq).imp id .inr,i⟩
end Go.Proofs.YteaaeelhjnhaaaaGreatDoor
