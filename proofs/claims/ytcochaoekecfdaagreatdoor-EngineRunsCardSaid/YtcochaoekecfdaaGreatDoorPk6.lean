/- The law EngineRuns: pack 6 of its texts. -/
import Derived.Test.YtcochaoekecfdaaGreatDoorPk1
import Derived.Test.YtcochaoekecfdaaGreatDoorPk2
import Derived.Test.YtcochaoekecfdaaGreatDoorPk3
import Derived.Test.YtcochaoekecfdaaGreatDoorPk4
import Derived.Test.YtcochaoekecfdaaGreatDoorPk5
set_option linter.unusedSimpArgs false
set_option linter.unusedVariables false
set_option maxRecDepth 100000
namespace Go.Proofs.YtcochaoekecfdaaGreatDoor
open Go Go.Ab Go.Bf
theorem JT{h:Heap}(r:oV){k1 k2:Nat}{subj:Txt}{s:an}(hk1:h k1=some (.obj [.s subj] 9))(hk2:h k2=some (.obj (sL s) 67))(ht:0≤s.tick∧s.tick≤1099511627776)(hr:0≤r.tick∧r.tick≤1099511627776):
  ai Tryz.prog 176 [ie r,.ptr k1 0,.ptr k2 0] h fun x h' =>x= .b (r.subj==subj && pZ s r)∧h' =h:=by
 have w:IntKind.i64.wrap (s.tick - r.tick)=s.tick - r.tick:=bg _ aar;obtain⟨tick,cs,rv,nt,ro,⟨pid,pset,palg,ptgt,prules,pkids,pobls⟩,ver⟩:=s;simp only[sL]at hk2;simp only at w;refine aaq Tryz.func176 21 [.tmp 4] fun hwf=> ?_
 simp only[go_sem,ie];intro i3 h3;have n31:i3≠k1:=fun e=>aas
 have n32:i3≠k2:=fun e=>aas
 cases d1:(r.subj==subj)
 ·simp only[go_sem,ak,n31.symm,hk1,d1]
  exact .mk _ (.refl _) (.aj h3) ⟨rfl,rfl⟩
 cases d2:r.isOpen
 ·simp only[go_sem,ak,n31.symm,hk1,d1]
  exact .mk _ (.refl _) (.aj h3) ⟨by simp only[pZ,d2];rfl,rfl⟩
 ·simp only[go_sem,ak,n31.symm,n32.symm,hk1,hk2,d1,w]
  exact .mk _ (.refl _) (.aj h3) ⟨by simp only[pZ,d2];rfl,rfl⟩
theorem Me(s:an)(subj:Txt)(hn:s.reviews.length≤1000000)(ht:0≤s.tick∧s.tick≤1099511627776)(hr:gJ s)(h:Heap):ai Tryz.prog 128 [cH s,.s subj] h fun x h' =>x= .b (JU s subj)∧h' =h:=by
 have hl1:=fun(H:Heap) (k1 k2:Nat) (e1:H k1=some (.obj [.s subj] 9)) (e2:H k2=some (.obj (sL s) 67))=>Hx (jJ s.reviews) s.reviews (fun r=>r.subj==subj && pZ s r) 176 [.ptr k1 0,.ptr k2 0] H (dZ ie 7 (fun _=>rfl) H _) aar fun i h2=>JT _ e1 e2 ht (hr _ (aam h2))
 have hst:=ur s;obtain⟨tick,cs,rv,nt,ro,⟨pid,pset,palg,ptgt,prules,pkids,pobls⟩,ver⟩:=s;rw[hst];simp only[sL]at hl1⊢;refine aaq Tryz.func128 9 [.tmp 4] fun hwf=> ?_
 simp only[go_sem];intro i2 h2;simp only[go_sem];intro i3 h3;have n32:=aF h3;have n3:=aB h3;have hs:∀x y,Ab.Sub h (upd (upd h i2 x) i3 y):=fun x y=>((Sub.refl h).put h2 x).put n3 y
 simp only[go_sem,ak,n32.symm];refine(hl1 _ i3 i2 (ah ..) (by grind [ag,ah])).pthen ?_
 simp only[go_sem];exact abV
theorem Gx(s:an)(o:OpD)(m:aR)(hm9:M9 m)(hn:s.reviews.length≤1000000)(hro:s.roles.length≤1000000)(ht:0≤s.tick∧s.tick≤1099511627776)(hr:gJ s)(h:Heap):ai Tryz.prog 71 [cH s,opA o,aP m] h fun x h' =>x= .b (rS s o m)∧h' =h:=by
 have hla:=fun G=>Me s o.subj hn ht hr G
 have hha:=fun G=>Ei (rdS G s) o.subj A2 aar
 have hbd:rS s o m=(o.glass && (m==cB||m==naM) && xk s.roles ⟨o.subj,A2⟩ && !JU s o.subj):=rfl
 have de:=(nb hm9).de;have na:=(nb hm9).na;have hst:=ur s;obtain⟨tick,cs,rv,nt,ro,⟨pid,pset,palg,ptgt,prules,pkids,pobls⟩,ver⟩:=s;rw[hst]at hla hha⊢;simp only[sL,A2]at hla hha hbd⊢;refine aaq Tryz.func71 30 [.tmp 6] fun hwf=> ?_
 simp only[go_sem,opA,opC,aP];intro i3 h3;simp only[go_sem];intro i4 h4;have n43:=aF h4;have n4:=aB h4;have hs:∀x y,Ab.Sub h (upd (upd h i3 x) i4 y):=fun x y=>((Sub.refl h).put h3 x).put n4 y
 cases dg:o.glass
 ·simp only[go_sem]
  exact .mk _ (.refl _) (hs _ _) ⟨by rw[hbd,dg];rfl,rfl⟩
 cases d1:(m==cB)<;>cases d2:(m==naM)
 case false.false=>
  simp only[go_sem,de,na,d1,d2];exact .mk _ (.refl _) (hs _ _) ⟨by rw[hbd,dg,d1,d2];rfl,rfl⟩
 all_goals
  simp only[go_sem,ak,n43.symm,de,na,d1,d2];refine(hha _).pthen ?_;cases dh:xk ro ⟨o.subj,[103,108,97,115,115]⟩
  ·simp only[go_sem]
   exact .mk _ (.refl _) (hs _ _) ⟨by rw[hbd,dg,d1,d2,dh];rfl,rfl⟩
  ·simp only[go_sem,ak,n43.symm]
   refine(hla _).pthen ?_;simp only[go_sem];exact .mk _ (.refl _) (hs _ _) ⟨by rw[hbd,dg,d1,d2,dh];rfl,rfl⟩
theorem Hz{h:Heap}(x:cA){k:Nat}{field:Txt}(hk:h k=some (.obj [.s field] 9)):ai Tryz.prog 138 [bl x,.ptr k 0] h fun r h' =>r= .b (x.kind==2 && x.arg==field)∧h' =h:=by
 refine aaq Tryz.func138 13 [.tmp 3] fun hwf=> ?_
 simp only[go_sem,bl];intro i2 h2;have n2:i2≠k:=fun e=>aas
 cases d1:(x.kind==2)
 all_goals
  simp only[go_sem,ak,n2.symm,hk,d1];exact .mk _ (.refl _) (.aj h2) ⟨rfl,rfl⟩
theorem JF(l:List cA)(hl:l.length≤1000000000)(field:Txt)(h:Heap):ai Tryz.prog 75 [az l,.s field] h fun r h' =>r= .b (jr l field)∧h' =h:=by
 refine aaq Tryz.func75 8 [.tmp 4] fun hwf=> ?_
 simp only[go_sem,az];intro i3 h3;simp only[go_sem];refine(Hw (.sl (l.map bl) .no) l (fun x=>x.kind==2 && x.arg==field) _ [.ptr i3 0] _ (dZ bl 3 (fun _=>rfl) _ _) hl fun i h2=>Hz _ (ah ..)).pthen ?_
 simp only[go_sem];exact .mk _ (.refl _) (.aj h3) ⟨rfl,rfl⟩
theorem Kh{h:Heap}{x:AV}{c:aJ}(hb:RdC h x c):ai Tryz.prog 144 [x] h fun r h' =>r= .b (decide (256<c.log.length))∧h' =h:=by
 obtain⟨f,l,rfl,hf,hl⟩:=hb;have e:decide ((256:Int)<(c.log.length:Int))=decide (256<c.log.length):=by
  grind
 refine aaq Tryz.func144 7 [.tmp 2] fun hwf=> ?_
 simp only[go_sem];intro i1 h1;simp only[go_sem,hl.len,aah,e];exact aaI
theorem Kj{h:Heap}{x:AV}{s:an}(hb:RdS h x s)(hc:s.cases.length≤1000000):ai Tryz.prog 79 [x] h fun r h' =>r= .b (qV s)∧h' =h:=by
 obtain⟨y1,y2,y3,y4,rfl,⟨xs,hx,hn,hcs⟩,h2,h3,h4⟩:=hb;have hod:qV s=(decide (256<s.reviews.length)||decide (256<s.notices.length)||s.cases.any fun c=>decide (256<c.log.length)):=rfl
 have e2:decide ((256:Int)<(s.reviews.length:Int))=decide (256<s.reviews.length):=by
  grind
 have e3:decide ((256:Int)<(s.notices.length:Int))=decide (256<s.notices.length):=by
  grind
 have hca:=fun(G:Heap) (hG:Ab.Sub h G)=>Ef y1 xs s.cases (fun c=>decide (256<c.log.length)) 144 [] G (hx.sub hG) hn aar (yI.agg hn hcs) fun i a b=>Kh ((hcs i a b).sub hG)
 cases hpp:s.policy with
 |mk pid pset palg ptgt prules pkids pobls=>
 refine aaq Tryz.func79 18 [.tmp 2] fun hwf=> ?_
 simp only[go_sem,fJ,aV,List.cons_append,List.nil_append];intro i1 h1;cases d2:decide (256<s.reviews.length)
 case true=>
  simp only[go_sem,h2.len,aah,e2,d2];exact .mk _ (.refl _) (.aj h1) ⟨by rw[hod,d2];rfl,rfl⟩
 cases d3:decide (256<s.notices.length)
 case true=>
  simp only[go_sem,h2.len,h3.len,aah,e2,e3,d2,d3];exact .mk _ (.refl _) (.aj h1) ⟨by rw[hod,d2,d3];rfl,rfl⟩
 simp only[go_sem,h2.len,h3.len,aah,e2,e3,d2,d3];refine(hca _ (.aj h1)).pthen ?_;simp only[go_sem];exact .mk _ (.refl _) (.aj h1) ⟨by rw[hod,d2,d3];rfl,rfl⟩
theorem J0{h:Heap}{x:AV}{c:aJ}(hb:RdC h x c){k:Nat}{o:OpD}(hk:h k=some (.obj (opC o) 32)):ai Tryz.prog 185 [x,.ptr k 0] h fun r h' =>r= .b (c.id==o.case)∧h' =h:=by
 obtain⟨f,l,rfl,hf,hl⟩:=hb;simp only[opC]at hk;refine aaq Tryz.func185 9 [.tmp 3] fun hwf=> ?_
 simp only[go_sem];exact aeM
end Go.Proofs.YtcochaoekecfdaaGreatDoor
namespace Go.Ab
open Go
theorem OwE.more{tb:TypeId}{g h0 h:Heap}{sz:Nat}{y:AV}{xs:List AV}(hw:OwE tb h0 h sz y xs)(hg:∀id,h0 id=Option.none→h id≠Option.none→g id=Option.none):OwE tb g h sz y xs:=by
 rcases hw with hw|⟨id,e,hw⟩
 ·exact ael
 ·exact .inr ⟨id,hg _ e hw.none,hw⟩
end Go.Ab
namespace Go.Proofs.YtcochaoekecfdaaGreatDoor
open Go Go.Ab Go.Bf
theorem eS.more{g h0 h:Heap}{ys:List AV}{x:AV}{c:aJ}(hm:eS h0 h ys x c)(hg:∀id,h0 id=none→h id≠none→g id=none):eS g h ys x c:=by
 obtain⟨f,l,e,a,b,c⟩:=hm;exact⟨f,l,e,a.more hg,b.more hg,c⟩
theorem kY.more{g h0 h:Heap}{ys:List AV}{y:AV}{cs:List aJ}{i0:Nat}(ho:kY h0 h ys y cs i0)(hg:∀id,h0 id=none→h id≠none→g id=none):kY g h ys y cs i0:=by
 obtain⟨xs,a,b,c,d⟩:=ho;exact⟨xs,a.more hg,b,c,fun h1 h2=>(d h1 h2).more hg⟩
theorem OwR.more{g h0 h:Heap}{y:AV}{rs:List gI}(hr:OwR h0 h y rs)(hg:∀id,h0 id=none→h id≠none→g id=none):OwR g h y rs:=by
 rcases hr with hr|hr
 ·exact .inl hr
 ·exact .inr (hr.more hg)
theorem gY.more{g h0 h:Heap}{y1 y2 y3 y4:AV}{s:an}{j:Nat}(ho:gY h0 h y1 y2 y3 y4 s j)(hg:∀id,h0 id=none→h id≠none→g id=none):gY g h y1 y2 y3 y4 s j:=
 {ho with cs:=ho.cs.more hg,rv:=ho.rv.more hg,nt:=ho.nt.more hg,rl:=ho.rl.more hg}
def GSt(g H:Heap)(k:Nat)(s:an)(j:Nat):Prop:=∃y1 y2 y3 y4,H k=some (.obj (stC s y1 y2 y3 y4) 67)∧gY g H y1 y2 y3 y4 s j∧g k≠none∧∀i b,i≠k→g i=some b→H i=some b
theorem GSt.box{g H:Heap}{k:Nat}{s:an}{j:Nat}(hG:GSt g H k s j){i:Nat}(hi:H i=none)(b:Blk):GSt (upd g i (some b)) (upd H i (some b)) k s j:=by
 obtain⟨y1,y2,y3,y4,hk,ho,hgk,hfr⟩:=hG;refine⟨y1,y2,y3,y4,aaZ,(ho.more (g:=upd g i (some b)) fun id h0 hne=> ?_).keep fun id _ hne=>ag _ _ fun e=>hne aas,aaZ,fun q c hq hc=> ?_⟩
 ·grind [ag]
 grind [ah,ag]
theorem GSt.unbox{g H:Heap}{k:Nat}{s:an}{j:Nat}{i:Nat}{b:Blk}(hG:GSt (upd g i (some b)) H k s j)(hi:i≠k)(hgi:g i=none):GSt g H k s j∧H i=some b:=by
 obtain⟨y1,y2,y3,y4,hk,ho,hgk,hfr⟩:=hG;refine⟨⟨y1,y2,y3,y4,hk,ho.bH fun q hq=> ?_,aaZ,fun q c hq hc=>hfr q c hq ?_⟩,hfr i b hi (ah ..)⟩
 ·grind [ag]
 grind [ag]
theorem GSt.base{g H:Heap}{k:Nat}{s:an}{j:Nat}(hG:GSt g H k s j):∃G,Ab.Sub G H∧(∀i,G i=none↔g i=none)∧∀i,i≠k→G i=g i:=by
 obtain⟨y1,y2,y3,y4,hk,ho,hgk,hfr⟩:=hG;refine⟨upd g k (H k),fun i b hi=> ?_,fun i=> ?_,fun i hi=>ag _ _ hi⟩
 ·grind [ah,ag]
 grind [ah,ag]
theorem GSt.rd{g H:Heap}{k:Nat}{s:an}{j:Nat}(hG:GSt g H k s j):∃y1 y2 y3 y4,H k=some (.obj (stC s y1 y2 y3 y4) 67)∧RdS H (.agg (stC s y1 y2 y3 y4)) s:=by
 obtain⟨y1,y2,y3,y4,hk,ho,_⟩:=hG;exact⟨y1,y2,y3,y4,hk,ho.rd⟩
theorem CK{g H:Heap}{k:Nat}{s:an}{j:Nat}(hG:GSt g H k s j)(o:OpD)(w:Txt)(hk64:i64 o.kind)(hn:s.reviews.length≤1000000000):
  ai Tryz.prog 73 [.ptr k 0,opA o,.s w] H fun r H' =>GSt g H' k (bZ s o w) j:=by
 obtain⟨G,sG,nG,oG⟩:=hG.base;obtain⟨y1,y2,y3,y4,hk,ho,hgk,hfr⟩:=hG;have ho2:gY G H y1 y2 y3 y4 s j:=ho.bH fun i hi=>(nG i).2 hi
 have w1:IntKind.i64.wrap ((s.reviews.length:Int)+1)=(s.reviews.length:Int)+1:=bg _ aar;obtain⟨pid,pset,palg,ptgt,prules,pkids,pobls,hpp⟩:∃a b c d e f g,s.policy= .mk a b c d e f g:=by cases s.policy;simp
 have hst:∀z,stC (bZ s o w) y1 z y3 y4= [.i s.tick,y1,z,y3,y4,.s pid,.b pset,.i palg,aT ptgt,.sl (prules.map aA) .no,.sl (pkids.map aK) .no,az pobls,.i s.version]:=fun z=>by simp[stC,bZ,hpp,fJ,aV]
 have hst0:stC s y1 y2 y3 y4= [.i s.tick,y1,y2,y3,y4,.s pid,.b pset,.i palg,aT ptgt,.sl (prules.map aA) .no,.sl (pkids.map aK) .no,az pobls,.i s.version]:=aeb;rw[hst0]at hk;refine aaq Tryz.func73 34 [] fun hwf=> ?_
 simp only[go_sem,opA,opC];intro i4 h4;have n4k:i4≠k:=fun e=>aas
 simp only[go_sem];obtain⟨K,eK⟩:∃K,upd H i4 (some (.obj [.i o.kind,.s o.subj,.s o.case,.s o.field,.s o.to,.i o.val.kind,.i o.val.n,.s o.val.s,.i o.review,.s o.text,.s o.reason,.b o.glass] 32))=K:=⟨_,rfl⟩;have sK:Ab.Sub H K:=by rw[←eK];exact .aj h4
 have k4:K i4=some (.obj [.i o.kind,.s o.subj,.s o.case,.s o.field,.s o.to,.i o.val.kind,.i o.val.n,.s o.val.s,.i o.review,.s o.text,.s o.reason,.b o.glass] 32):=by rw[←eK,ah]
 have kk:=sK _ _ hk;have hoK:gY G K y1 y2 y3 y4 s j:=ho2.keep fun id _ hne=>by rw[←eK];grind [ag]
 rw[eK];have p4:=(bz (H:=K) (l:=[k,i4]) (show i4∈ [k,i4] by simp)).trans k4
 have pk:=(bz (H:=K) (l:=[k,i4]) (show k∈ [k,i4] by simp)).trans kk
 refine .stage (pick K [k,i4]) [0,1,2,3,4,5,6,7,8,9,10,11,12,13,14,15,16,17,18,19,20,22,21,23,24,25,26,27] [28] bO aav ?_;simp only[go_sem,pk,p4,hoK.rv.rd.len,aah,w1];refine(zm o.kind hk64 _).pthen ?_;refine⟨bO, ?_⟩;simp only[go_sem];have hap1:Rd K 7 (.sl [ie (Af s o w)] .full) [ie (Af s o w)]:=.sl aa9 .full;refine OwE.app (U:=U) (tb:=143) hoK.rv (sG.trans sK) hap1 aaG aau aau aaG aaz aaW fun id y' K2 hid hor how hoth=> ?_
 have hor' :K id=none∨nid y2=some id:=by
  rcases hor with hor|⟨l,c,ey⟩
  ·grind
  ·exact .inr aef
 have nik:k≠id:=fun e=>hgk ((nG k).1 aas)
 have ni4:i4≠id:=by
  rcases hor' with hor|hor
  ·grind
  ·exact fun e=>(ho2.rv.nid hor).2.1 aas
 have m4:=(hoth i4 ni4).trans k4;have mk:=(hoth k nik).trans kk;refine⟨ic fun q hq=> ?_, ?_⟩
 ·grind
 simp only[go_sem];refine⟨di,fun _ _ e=>aaU, ?_⟩
 simp only[go_sem,mk,how.rd.fit,how.rd.cells];refine⟨fun _ _ e=>aaU, ?_⟩
 refine .same (.refl _) ⟨y1,y',y3,y4,aeq,gY.bH (h0:=G) ?_ fun i hi=>(nG i).1 hi,hgk,fun i b hi hb=> ?_⟩
 ·refine hoK.revs (rs:=s.reviews++ [Af s o w]) (.inr ⟨id,hid,by rw[List.map_append];exact how.same (ag _ _ nik.symm)⟩) (fun q hq=> ?_) fun q hq hne hz=> ?_
  ·have:id=q:=by have:=how.nid;rw[hq]at this;exact(Option.some.inj this).symm
   rw[←this];exact hor'
  grind [ag]
 ·have n2:i≠id:=fun e=>by
   grind
  rw[ag _ _ hi,hoth i n2];exact sK _ _ (hfr i b hi hb)
end Go.Proofs.YtcochaoekecfdaaGreatDoor
namespace Go.Bf
open Go Go.Ab Go.Proofs.YtcochaoekecfdaaGreatDoor
theorem Cy{s:an}{o:OpD}{w:Txt}(h:¬(ia s.cases o.case<s.cases.length∧o.kind≠6)):iq s o w=s:=by simp_all [iq,if_neg]
theorem J1{s:an}{o:OpD}{w:Txt}{j:Nat}(h1:ia s.cases o.case<s.cases.length)(h2:o.kind≠6)(e:ia s.cases o.case=j):iq s o w= {s with cases:=s.cases.modify j fun c=>iP s c o.subj w}:=by simp_all [iq,if_pos]
end Go.Bf
namespace Go.Proofs.YtcochaoekecfdaaGreatDoor
open Go Go.Ab Go.Bf
theorem J2{g H:Heap}{k:Nat}{s:an}{j:Nat}(hG:GSt g H k s j)(o:OpD)(w:Txt)(hc:s.cases.length≤1000000)(hl:∀c∈s.cases,c.log.length≤1000000000)(hj:ia s.cases o.case<s.cases.length→o.kind≠6→j=ia s.cases o.case):
  ai Tryz.prog 142 [.ptr k 0,opA o,.s w] H fun r H' =>GSt g H' k (iq s o w) j:=by
 obtain⟨G,sG,nG,oG⟩:=hG.base;obtain⟨y1,y2,y3,y4,hk,ho,hgk,hfr⟩:=hG;have ho2:gY G H y1 y2 y3 y4 s j:=ho.bH fun i hi=>(nG i).2 hi
 obtain⟨pid,pset,palg,ptgt,prules,pkids,pobls,hpp⟩:∃a b c d e f g,s.policy= .mk a b c d e f g:=by cases s.policy;exact⟨_,_,_,_,_,_,_,rfl⟩
 have hst0:stC s y1 y2 y3 y4= [.i s.tick,y1,y2,y3,y4,.s pid,.b pset,.i palg,aT ptgt,.sl (prules.map aA) .no,.sl (pkids.map aK) .no,az pobls,.i s.version]:=aeb;rw[hst0]at hk;refine aaq Tryz.func142 44 [] fun hwf=> ?_
 simp only[go_sem,opA,opC];intro i4 h4;have n4k:i4≠k:=fun e=>by rw[e,hk]at h4;cases h4
 obtain⟨K,eK⟩:∃K,upd H i4 (some (.obj [.i o.kind,.s o.subj,.s o.case,.s o.field,.s o.to,.i o.val.kind,.i o.val.n,.s o.val.s,.i o.review,.s o.text,.s o.reason,.b o.glass] 32))=K:=⟨_,rfl⟩;have sK:Ab.Sub H K:=by rw[←eK];exact .aj h4
 have k4:K i4=some (.obj [.i o.kind,.s o.subj,.s o.case,.s o.field,.s o.to,.i o.val.kind,.i o.val.n,.s o.val.s,.i o.review,.s o.text,.s o.reason,.b o.glass] 32):=by rw[←eK,ah]
 have kk:=sK _ _ hk;have hoK:gY G K y1 y2 y3 y4 s j:=ho2.keep fun id _ hne=>by rw[←eK];exact ag _ _ fun e=>hne (by rw[e];exact h4)
 have hfin:GSt g K k s j:=⟨y1,y2,y3,y4,by rw[hst0];exact kk,hoK.bH fun i hi=>(nG i).1 hi,hgk,fun i b hi hb=>sK _ _ (hfr i b hi hb)⟩
 have hix:ai Tryz.prog 168 [y1,.fn 185 [.ptr i4 0]] K fun r h' =>r= .i (ixD (fun c:aJ=>c.id==o.case) s.cases)∧h' =K:=by
  obtain⟨xs,hx,hn,hcs⟩:=hoK.cs.rd;exact tP y1 xs s.cases (fun c=>c.id==o.case) _ [.ptr i4 0] K hx hn aar (yI.agg hn hcs) fun i a b=>J0 (hcs i a b) k4
 have hcsK:=hoK.cs;have n4G:∀id,G id=none→K id≠none→id≠i4→H id=K id:=fun id _ _ h=>by rw[←eK,ag _ _ h]
 simp only[go_sem,ak,n4k.symm,hk];rw[eK];refine hix.pthen ?_
 by_cases hx:ia s.cases o.case<s.cases.length
 case neg=>
  have e1:ixD (fun c:aJ=>c.id==o.case) s.cases= -1:=if_neg hx
  have d1:decide ((-1:Int)<0)=true:=rfl;rw[e1];simp only[go_sem,d1];exact .same (.refl _) (by rw[Cy fun h=>hx h.1];exact hfin)
 have e1:ixD (fun c:aJ=>c.id==o.case) s.cases=(ia s.cases o.case:Nat):=if_pos hx
 have d1:decide (((ia s.cases o.case:Nat):Int)<0)=false:=decide_eq_false aar;rw[e1];cases d6:(o.kind==6)
 case true=>
  have h6:o.kind=6:=by simpa using d6
  simp only[go_sem,d1,k4,d6];exact .same (.refl _) (by rw[Cy fun h=>h.2 h6];exact hfin)
 have h6:o.kind≠6:=by simpa using d6
 have hjj:=hj hx h6;have hlo:=J1 (w:=w) hx h6 hjj.symm;have hjc:j<s.cases.length:=by rw[hjj];exact hx
 rw[←hjj]at d1⊢;rw[hlo];obtain⟨xs,w1,hnx,hlw,hmy⟩:=hcsK;have hjx:j<xs.length:=aar;obtain⟨f,l,ex,of,ol,hap,hys⟩:=hmy hjx hjc;obtain⟨id1,hg1,o1⟩:=w1.ow adj;have o1' :=o1;obtain⟨cap,rest,ey,hid,hrl,hcap,hsz⟩:=o1';have lA:j*5=(aq (xs.take j)).length:=abq;have hidK:K id1=some (.obj (aq (xs.take j)++(bY s.cases[j] f l++(aq (xs.drop (j+1))++rest))) 134):=by
  rw[hid,AZ hjx,ex];simp[bY,AV.cells]
 have n1k:id1≠k:=kV o1 kk aau;have n14:id1≠i4:=kV o1 k4 aau;have hll:=hl _ (aam hjc);have p4:=(bz (H:=K) (l:=[k,i4,id1]) (show i4∈ [k,i4,id1] by simp)).trans k4
 have pk:=(bz (H:=K) (l:=[k,i4,id1]) (show k∈ [k,i4,id1] by simp)).trans kk
 have p1:=(bz (H:=K) (l:=[k,i4,id1]) (show id1∈ [k,i4,id1] by simp)).trans hidK
 have hc4:(aq (xs.take j)++(bY s.cases[j] f l++(aq (xs.drop (j+1))++rest)))[j*5+4]? =some l:=by rw[lA,List.getElem?_append_right aar,Nat.add_sub_cancel_left];rfl
 obtain⟨CS,eCS⟩:∃CS,aq (xs.take j)++(bY s.cases[j] f l++(aq (xs.drop (j+1))++rest))=CS:=⟨_,rfl⟩;rw[eCS]at hc4 p1 hidK;simp only[go_sem,d1,k4,d6,kk];refine o1.idx (U:=U) (e:=134) j rfl hjx mH aau ?_;simp only[go_sem];refine .stage (pick K [k,i4,id1]) [0,1,2,3,4,5,6,7,8,9,10,11,12,13,14,15,16] [17] bO aav ?_;simp only[go_sem,pk,p4,p1,hc4];have hap1:Rd K 3 (.sl [hY ⟨s.tick,o.subj,w⟩] .full) [hY ⟨s.tick,o.subj,w⟩]:=.sl aa9 .full;refine OwE.app (U:=U) (tb:=205) ol (sG.trans sK) hap1 aaA aau aaw aaA aaz aaW fun id2 y' K2 g2 hor how hoth=> ?_
 have hor' :K id2=none∨nid l=some id2:=by
  exact ae3
 have n2:∀ {q b t},K q=some (.obj b t)→t≠205→q≠id2:=fun {q b t} hq ht e=>by
  rcases hor' with h|h
  ·rw[e,h]at hq;cases hq
  ·exact kV (ol.nid h).2.2 hq ht e.symm
 have m4:=(hoth i4 (n2 k4 aau)).trans k4;have mk:=(hoth k (n2 kk aau)).trans kk;have m1:=(hoth id1 (n2 hidK aau)).trans hidK;refine⟨ic fun q hq=> ?_, ?_⟩
 ·simp only[List.mem_cons,List.not_mem_nil,or_false]at hq
  rcases hq with rfl|rfl|rfl
  ·rw[mk,kk]
  ·rw[m4,k4]
  ·rw[m1,hidK]
 simp only[go_sem];refine⟨di,fun _ _ e=>aaU, ?_⟩
 simp only[go_sem,m1,how.rd.fit,how.rd.cells];have e5:List.take (j*5+4) CS++ [y']++List.drop (j*5+4+1) CS=aq (xs.take j)++(bY s.cases[j] f y' ++(aq (xs.drop (j+1))++rest)):=by
  have:=nT (A:=aq (xs.take j)++ [.s s.cases[j].id,.s s.cases[j].owner,.s s.cases[j].state,f]) (B:=[l]) (C:=aq (xs.drop (j+1))++rest) (X:=[y']) (k:=j*5+4) (m:=1) (by rw[lA];simp) rfl rfl
  exact afW
 rw[e5];refine⟨by rw[←eCS];simp only[aal,←lA,bY,List.length_cons,List.length_nil];omega,(fun _ _ e=>aaU), ?_⟩
 obtain⟨F,eF⟩:∃F,upd K2 id1 (some (.obj (aq (xs.take j)++(bY s.cases[j] f y' ++(aq (xs.drop (j+1))++rest))) 134))=F:=⟨_,rfl⟩;have kF:∀q,q≠id1→q≠id2→F q=K q:=fun q a b=>by rw[←eF,ag _ _ a,hoth q b]
 have kF' :∀q,K q≠none→q≠id1→nid l≠some q→F q=K q:=fun q a b c=>kF q b fun e=>by
  rcases hor' with h|h
  ·exact a (by rw[e];exact h)
  ·exact c (by rw[e];exact h)
 have hF1:F id1=some (.obj (aq (xs.take j)++(bY s.cases[j] f y' ++(aq (xs.drop (j+1))++rest))) 134):=by rw[←eF,ah]
 have n12:id1≠id2:=n2 hidK aau;have hX5:Sized 5 (xs.set j (.agg (bY s.cases[j] f y'))):=fun z hz=>by
  exact ae9
 have hOw:Ow 134 F 5 id1 y1 (xs.set j (.agg (bY s.cases[j] f y'))):=⟨cap,rest,acH,by rw[hF1,se hjx];simp[AV.cells],ady,acz,hX5⟩
 have hl' :OwE 205 G F 3 y' ((s.cases[j].log++ [(⟨s.tick,o.subj,w⟩:wj)]).map hY):=by
  rw[List.map_append];exact .inr ⟨id2,g2,how.same (by rw[←eF,ag _ _ n12.symm])⟩
 have hny:∀q,nid y' =some q→q=id2:=fun q hq=>by have:=how.nid;rw[hq]at this;exact Option.some.inj this
 have nf1:nid f≠some id1:=fun e=>(hys y1 aaz).1 id1 e o1.nid
 have hof:OwE 215 G F 4 f (s.cases[j].fields.map bJ):=of.keep fun q e=>kF' q (of.nid e).2.1 (fun e' =>nf1 (by rw[←e'];exact e)) (hap q e)
 have hnid:∀ {y:AV},y∈ [y1,y2,y3,y4]→∀q,nid y=some q→K q≠none:=fun hy q e=>(hoK.mem hy e).2
 have hap2:∀ {y:AV},y∈ [y1,y2,y3,y4]→apart y' y:=fun {y} hy q e1 e2=>by
  have:=hny q e1;subst this;rcases hor' with h|h
  ·exact hnid hy _ e2 h
  ·exact(hys y hy).2 _ h e2
 have hkp:∀ {y:AV},y∈ [y2,y3,y4]→apart y1 y→∀q,nid y=some q→F q=K q:=fun {y} hy ha q e=>by
  have hy' :y∈ [y1,y2,y3,y4]:=List.mem_cons_of_mem _ hy;refine kF' q (hnid hy' q e) (fun e' =>ha id1 o1.nid (by rw[←e'];exact e)) fun e' =>(hys y hy').2 q e' e
 rw[eF];refine .same (.refl _) ⟨y1,y2,y3,y4, ?_,gY.bH (h0:=G) ?_ fun i hi=>(nG i).1 hi,hgk,fun i b hi hb=> ?_⟩
 ·rw[kF k n1k.symm (n2 kk aau),kk]
  simp[stC,hpp,fJ,aV]
 ·refine⟨Be (X:=.agg (bY s.cases[j] f y')) (.inr ⟨id1,hg1,hOw⟩) hnx (fun q h1 h2 hq=>hlw q h1 h2 hq) fun hh=>⟨f,y',rfl,hof,hl',fun q e1 e2=> ?_,fun y hy=>⟨(hys y hy).1,hap2 hy⟩⟩,hoK.rv.keep (hkp aaz hoK.a12),hoK.nt.keep (hkp aaz hoK.a13),hoK.rl.keep (hkp aaz hoK.a14),hoK.a12,hoK.a13,hoK.a14,hoK.a23,hoK.a24,hoK.a34⟩
  have:=hny q e2;subst this;rcases hor' with h|h
  ·exact(of.nid e1).2.1 h
  ·exact hap _ e1 h
 ·have hGi:G i=some b:=by rw[oG i hi];exact hb
  rw[kF i (fun e=>by rw[e,hg1]at hGi;cases hGi) (fun e=>by rw[e,g2]at hGi;cases hGi)]
  exact sK _ _ (hfr i b hi hb)
end Go.Proofs.YtcochaoekecfdaaGreatDoor
namespace Go.Bf
open Go Go.Ab Go.Proofs.YtcochaoekecfdaaGreatDoor
def qQ(B:Nat)(s:an):Prop:=(∀c∈s.cases,c.log.length≤B)∧s.reviews.length≤B∧s.notices.length≤B
theorem qQ.up{B C:Nat}{s:an}(h:qQ B s)(hc:B≤C):qQ C s:=⟨fun c hcc=>Nat.le_trans (h.1 c hcc) hc,Nat.le_trans h.2.1 hc,Nat.le_trans h.2.2 hc⟩
theorem Hq{B:Nat}{s:an}(o:OpD)(done:Bool)(x:cA)(h:qQ B s):qQ (B+1) (fc o done s x):=by
 unfold fc;split
 ·unfold iq
  split
  ·refine⟨fun c hc=> ?_,Nat.le_succ_of_le h.2.1,Nat.le_succ_of_le h.2.2⟩
   rcases mem_modify hc with hc|⟨hi,rfl⟩
   ·exact Nat.le_succ_of_le (h.1 c hc)
   ·have:=h.1 _ (aam hi)
    simp only[iP,aal,List.length_singleton];omega
  ·exact h.up aar
 ·split
  ·refine⟨fun c hc=>Nat.le_succ_of_le (h.1 c hc), ?_,Nat.le_succ_of_le h.2.2⟩
   have:=h.2.1;simp only[bZ,aal,List.length_singleton];omega
  ·split
   ·refine⟨fun c hc=>Nat.le_succ_of_le (h.1 c hc),Nat.le_succ_of_le h.2.1, ?_⟩
    have:=h.2.2;simp only[aal,List.length_singleton];omega
   ·exact h.up aar
theorem u7(o:OpD)(done:Bool):∀(l:List cA) {B:Nat} {s:an},qQ B s→qQ (B+l.length) (cX s o l done)
 | [],B,s,h=>h
 |x::l,B,s,h=>(u7 o done l (Hq o done x h)).up aas
theorem BW(s:an)(o:OpD)(done:Bool){l:List cA}{i:Nat}(h:i<l.length):cX s o (l.take (i+1)) done=fc o done (cX s o (l.take i) done) l[i]:=by
 grind [cX,List.take_succ_eq_append_getElem]
theorem vf(o:OpD)(done:Bool)(id:Txt):∀(l:List cA) (s:an),ia (cX s o l done).cases id=ia s.cases id∧(cX s o l done).cases.length=s.cases.length
 | [],s=>⟨rfl,rfl⟩
 |x::l,s=>by
  obtain⟨a1,a2⟩:=HD o done s x id;obtain⟨b1,b2⟩:=vf o done id l (fc o done s x);exact⟨b1.trans a1,b2.trans a2⟩
theorem GL{o:OpD}{s:an}{x:cA}(h:x.kind=1):fc o true s x=iq s o x.arg:=by unfold fc;grind
theorem DW{o:OpD}{done:Bool}{s:an}{x:cA}(h:x.kind=3):fc o done s x=bZ s o x.arg:=by simp_all [fc,if_neg,if_pos]
theorem DX{o:OpD}{done:Bool}{s:an}{x:cA}(h:x.kind=4):fc o done s x= {s with notices:=s.notices++ [⟨s.tick,o.case,x.arg⟩]}:=by simp_all [fc,if_neg,if_pos]
theorem BX{o:OpD}{done:Bool}{s:an}{x:cA}(h1:¬(x.kind=1∧done=true))(h3:x.kind≠3)(h4:x.kind≠4):fc o done s x=s:=by simp_all [fc,if_neg]
end Go.Bf
namespace Go.Proofs.YtcochaoekecfdaaGreatDoor
open Go Go.Ab Go.Bf
theorem DU{g H:Heap}{k:Nat}{s:an}{j:Nat}(hG:GSt g H k s j)(o:OpD)(hk64:i64 o.kind)(l:List cA)(hll:l.length≤100000000)(done:Bool)(hc:s.cases.length≤1000000)(hgr:qQ 1000 s)(hj:done=true→ia s.cases o.case<s.cases.length→o.kind≠6→j=ia s.cases o.case):
  ai Tryz.prog 78 [.ptr k 0,opA o,az l,.b done] H fun r H' =>GSt g H' k (cX s o l done) j:=by
 have hkn:H k≠none:=by obtain⟨y1,y2,y3,y4,hk,_⟩:=hG;rw[hk];simp
 refine aaq Tryz.func78 60 [] fun hwf=> ?_
 simp only[go_sem,opA,opC,az];intro i5 h5;have n5k:i5≠k:=fun e=>hkn (by rw[←e];exact h5)
 have hg5:g i5=none:=by
  obtain⟨y1,y2,y3,y4,hk,ho,hgk,hfr⟩:=hG;cases hh:g i5 with
  |none=>rfl
  |some b=>have:=hfr i5 b n5k hh;rw[h5]at this;cases this
 have hG5:=hG.box h5 (.obj [.i o.kind,.s o.subj,.s o.case,.s o.field,.s o.to,.i o.val.kind,.i o.val.n,.s o.val.s,.i o.review,.s o.text,.s o.reason,.b o.glass] 32);obtain⟨g5,eg5⟩:∃g5,upd g i5 (some (.obj [.i o.kind,.s o.subj,.s o.case,.s o.field,.s o.to,.i o.val.kind,.i o.val.n,.s o.val.s,.i o.review,.s o.text,.s o.reason,.b o.glass] 32))=g5:=⟨_,rfl⟩;have g55:g5 i5=some (.obj [.i o.kind,.s o.subj,.s o.case,.s o.field,.s o.to,.i o.val.kind,.i o.val.n,.s o.val.s,.i o.review,.s o.text,.s o.reason,.b o.glass] 32):=by rw[←eg5,ah]
 rw[eg5]at hG5;have hback:∀ {H' :Heap} {s' :an},GSt g5 H' k s' j→GSt g H' k s' j:=fun {H' s'} h=>by
  rw[←eg5]at h;exact(h.unbox n5k hg5).1
 have hgk5:g5 k≠none:=by obtain⟨_,_,_,_,_,_,h,_⟩:=hG5;exact h
 simp only[go_sem,aah];refine .intro (fun m ρ H2=>∃i:Nat,GSt g5 H2 k (cX s o (l.take i) done) j∧i≤l.length∧m=l.length - i∧lk ρ 0=some (.ptr k 0)∧lk ρ 3=some (.b done)∧lk ρ 5=some (.ptr i5 0)∧lk ρ 10=some (.sl (l.map bl) .no)∧lk ρ 11=some (.i l.length)∧lk ρ 12=some (.i i)) l.length ?_ ?_
 ·refine⟨0,hG5,aar,rfl, ?_, ?_, ?_, ?_, ?_, ?_⟩<;>simp only[go_sem]
 ·rintro m ρ H2 ⟨i,hS,hi,rfl,r0,r3,r5,r10,r11,r12⟩
  simp only[go_sem,r11,r12];refine .intro (fun e=> ?_) (fun e=> ?_)
  ·have hlt:i<l.length:=aao e
   have w1:=aan i aar;have hsn:=BW s o done hlt;have hgi:=u7 o done (l.take i) hgr;have hgi:qQ 1000000000 (cX s o (l.take i) done):=hgi.up ack;obtain⟨hix,hcl⟩:=vf o done o.case (l.take i) s;have ix:=fun k=>fz.eq (xs:=l.map bl) (sz:=3) i aaQ aaH k
   rw[aai]at ix;obtain⟨x,ex⟩:∃x,l[i]=x:=⟨_,rfl⟩;rw[ex]at ix hsn;obtain⟨t,et⟩:∃t,cX s o (l.take i) done=t:=⟨_,rfl⟩;rw[et]at hS hsn hgi hix hcl;have hjt:done=true→ia t.cases o.case<t.cases.length→o.kind≠6→j=ia t.cases o.case:=fun a b c=>by rw[hix]at b⊢;rw[hcl]at b;exact hj a b c
   simp only[bl]at ix;simp only[go_sem,r10,r12,ix];intro i9 h9;have kkn:H2 k≠none:=by obtain⟨y1,y2,y3,y4,hk,_⟩:=hS;rw[hk];simp
   have n9k:i9≠k:=fun e=>kkn (by rw[←e];exact h9)
   have hg9:g5 i9=none:=by
    obtain⟨y1,y2,y3,y4,hk,ho,hgk,hfr⟩:=hS;cases hh:g5 i9 with
    |none=>rfl
    |some b=>have:=hfr i9 b n9k hh;rw[h9]at this;cases this
   have n95:i9≠i5:=fun e=>by rw[e,g55]at hg9;cases hg9
   have k5:H2 i5=some (.obj [.i o.kind,.s o.subj,.s o.case,.s o.field,.s o.to,.i o.val.kind,.i o.val.n,.s o.val.s,.i o.review,.s o.text,.s o.reason,.b o.glass] 32):=by obtain⟨_,_,_,_,_,_,_,hfr⟩:=hS;exact hfr i5 _ n5k g55
   have hS9:=hS.box h9 (.obj [.i x.on,.i x.kind,.s x.arg] 158);have hb9:∀ {H' :Heap} {s' :an},GSt (upd g5 i9 (some (.obj [.i x.on,.i x.kind,.s x.arg] 158))) H' k s' j→GSt g5 H' k s' j:=fun {H' s'} h=>(h.unbox n9k hg9).1
   have hlog:=fun(hd:done=true)=>J2 hS9 o x.arg (by rw[hcl];exact hc) hgi.1 (hjt hd)
   have hopen:=CK hS9 o x.arg hk64 hgi.2.1;simp only[opA,opC]at hlog hopen;cases a1:(x.kind==1)
   case true=>
    have e1:x.kind=1:=by simpa using a1
    have a3:(x.kind==3)=false:=by rw[e1];rfl
    have a4:(x.kind==4)=false:=by rw[e1];rfl
    cases done
    ·simp only[go_sem,r3,r12,a1,a3,a4,w1]
     refine⟨_, ?_,i+1,by rw[hsn,BX (fun h=>by cases h.2) (by rw[e1];decide) (by rw[e1];decide)];exact hb9 hS9,aar,rfl, ?_, ?_, ?_, ?_, ?_, ?_⟩
     ·omega
     all_goals simp only[go_sem,r0,r3,r5,r10,r11]
    ·simp only[go_sem,r0,r3,r5,a1,ak,n95.symm,k5]
     refine(hlog rfl).mono fun r H3 h3=> ?_
     simp only[go_sem,r12,w1];refine⟨_, ?_,i+1,by rw[hsn,GL e1];exact hb9 h3,aar,rfl, ?_, ?_, ?_, ?_, ?_, ?_⟩
     ·omega
     all_goals simp only[go_sem,r0,r3,r5,r10,r11]
   have e1:¬(x.kind=1∧done=true):=fun h=>by rw[h.1]at a1;cases a1
   cases a3:(x.kind==3)
   case true=>
    have e3:x.kind=3:=by simpa using a3
    simp only[go_sem,r0,r5,a1,a3,ak,n95.symm,k5];refine hopen.mono fun r H3 h3=> ?_
    simp only[go_sem,r12,w1];refine⟨_, ?_,i+1,by rw[hsn,DW e3];exact hb9 h3,aar,rfl, ?_, ?_, ?_, ?_, ?_, ?_⟩
    ·omega
    all_goals simp only[go_sem,r0,r3,r5,r10,r11]
   have e3:x.kind≠3:=by simpa using a3
   cases a4:(x.kind==4)
   case false=>
    have e4:x.kind≠4:=by simpa using a4
    simp only[go_sem,r12,a1,a3,a4,w1];refine⟨_, ?_,i+1,by rw[hsn,BX e1 e3 e4];exact hb9 hS9,aar,rfl, ?_, ?_, ?_, ?_, ?_, ?_⟩
    ·omega
    all_goals simp only[go_sem,r0,r3,r5,r10,r11]
   have e4:x.kind=4:=by simpa using a4
   rw[DX e4]at hsn;obtain⟨G,sG,nG,oG⟩:=hS9.base;obtain⟨y1,y2,y3,y4,kk,ho,hgk,hfr⟩:=hS9;obtain⟨K,eK⟩:∃K,upd H2 i9 (some (.obj [.i x.on,.i x.kind,.s x.arg] 158))=K:=⟨_,rfl⟩;have k9:K i9=some (.obj [.i x.on,.i x.kind,.s x.arg] 158):=by rw[←eK,ah]
   have k5' :K i5=some (.obj [.i o.kind,.s o.subj,.s o.case,.s o.field,.s o.to,.i o.val.kind,.i o.val.n,.s o.val.s,.i o.review,.s o.text,.s o.reason,.b o.glass] 32):=by rw[←eK,ag _ _ n95.symm];exact k5
   rw[eK]at sG kk ho hfr;have hoK:gY G K y1 y2 y3 y4 t j:=ho.bH fun i hi=>(nG i).2 hi
   obtain⟨pid,pset,palg,ptgt,prules,pkids,pobls,hpp⟩:∃a b c d e f g,t.policy= .mk a b c d e f g:=by cases t.policy;exact⟨_,_,_,_,_,_,_,rfl⟩
   have hst:∀z (n:List Gq),stC {t with notices:=n} y1 y2 z y4= [.i t.tick,y1,y2,z,y4,.s pid,.b pset,.i palg,aT ptgt,.sl (prules.map aA) .no,.sl (pkids.map aK) .no,az pobls,.i t.version]:=fun z n=>aeb
   have hst0:stC t y1 y2 y3 y4= [.i t.tick,y1,y2,y3,y4,.s pid,.b pset,.i palg,aT ptgt,.sl (prules.map aA) .no,.sl (pkids.map aK) .no,az pobls,.i t.version]:=aeb;rw[hst0]at kk;have p9:=(bz (H:=K) (l:=[k,i5,i9]) (show i9∈ [k,i5,i9] by simp)).trans k9
   have p5:=(bz (H:=K) (l:=[k,i5,i9]) (show i5∈ [k,i5,i9] by simp)).trans k5'
   have pk:=(bz (H:=K) (l:=[k,i5,i9]) (show k∈ [k,i5,i9] by simp)).trans kk
   simp only[go_sem,a1,a3,a4];rw[eK];refine .stage (pick K [k,i5,i9]) [0,1,2,3,4,5,6,7,8,9,10,11,12,13,14,15,16,17] [18] bO aav ?_;simp only[go_sem,r0,r5,pk,p5,p9];have hap1:Rd K 3 (.sl [lY ⟨t.tick,o.case,x.arg⟩] .full) [lY ⟨t.tick,o.case,x.arg⟩]:=.sl aa9 .full;have hnl:=hgi.2.2;refine OwE.app (U:=U) (tb:=146) hoK.nt sG hap1 aaA aau aaw aaA aaz aaW fun id y' K2 hid hor how hoth=> ?_
   have hor' :K id=none∨nid y3=some id:=by
    exact ae3
   have n2:∀ {q b t},K q=some (.obj b t)→t≠146→q≠id:=fun {q b t} hq ht e=>by
    rcases hor' with h|h
    ·rw[e,h]at hq;cases hq
    ·exact kV (hoK.nt.nid h).2.2 hq ht e.symm
   have m9:=(hoth i9 (n2 k9 aau)).trans k9;have m5:=(hoth i5 (n2 k5' aau)).trans k5';have nik:=n2 kk aau;have mk:=(hoth k nik).trans kk;refine⟨ic fun q hq=> ?_, ?_⟩
   ·simp only[List.mem_cons,List.not_mem_nil,or_false]at hq
    rcases hq with rfl|rfl|rfl
    ·rw[mk,kk]
    ·rw[m5,k5']
    ·rw[m9,k9]
   simp only[go_sem];refine⟨di,fun _ _ e=>aaU, ?_⟩
   simp only[go_sem,r12,mk,how.rd.fit,how.rd.cells];refine⟨fun _ _ e=>aaU, ?_⟩
   simp only[go_sem,w1];obtain⟨F,eF⟩:∃F,upd K2 k (some (.obj [.i t.tick,y1,y2,y',y4,.s pid,.b pset,.i palg,aT ptgt,.sl (prules.map aA) .no,.sl (pkids.map aK) .no,az pobls,.i t.version] 67))=F:=⟨_,rfl⟩;have Fk:F k=(some (.obj [.i t.tick,y1,y2,y',y4,.s pid,.b pset,.i palg,aT ptgt,.sl (prules.map aA) .no,.sl (pkids.map aK) .no,az pobls,.i t.version] 67)):=by rw[←eF,ah]
   have Fo:∀q,q≠k→F q=K2 q:=fun q hq=>by rw[←eF,ag _ _ hq]
   have hoz:OwE 146 G F 3 y' ((t.notices++ [(⟨t.tick,o.case,x.arg⟩:Gq)]).map lY):=by
    rw[List.map_append];exact .inr ⟨id,hid,how.same (Fo id nik.symm)⟩
   have hop:gY G F y1 y2 y' y4 {t with notices:=t.notices++ [⟨t.tick,o.case,x.arg⟩]} j:=by
    refine gY.nots (h:=K) (h' :=F) hoK hoz (fun q hq=> ?_) fun q hq hne hz=> ?_
    ·have:id=q:=by have:=how.nid;rw[hq]at this;exact(Option.some.inj this).symm
     rw[←this];exact hor'
    ·have n1:q≠k:=fun e=>hgk ((nG k).1 (by rw[←e];exact hq))
     have n2:q≠id:=fun e=>by
      rcases hor' with h|h
      ·exact hne (by rw[e];exact h)
      ·exact hz (by rw[e];exact h)
     rw[Fo q n1,hoth q n2]
   have hgs:GSt (upd g5 i9 (some (.obj [.i x.on,.i x.kind,.s x.arg] 158))) F k {t with notices:=t.notices++ [⟨t.tick,o.case,x.arg⟩]} j:=by
    refine⟨y1,y2,y',y4,by rw[Fk,hst],gY.bH hop fun i hi=>(nG i).1 hi,hgk,fun i b hi hb=> ?_⟩
    have n2:i≠id:=fun e=>by
     have:=(nG id).1 hid;rw[←e,hb]at this;cases this
    rw[Fo i hi,hoth i n2];exact hfr i b hi hb
   rw[←eF]at hgs;refine⟨_, ?_,i+1,by rw[hsn];exact hb9 hgs,aar,rfl, ?_, ?_, ?_, ?_, ?_, ?_⟩
   ·omega
   all_goals simp only[go_sem,r0,r3,r5,r10,r11]
  ·have hge:i=l.length:=by have:=aak e;omega
   subst hge;rw[List.take_length]at hS;simp only[go_sem];exact .same (.refl _) (hback hS)
theorem L4(s:an)(hf:Few s)(h:Heap):ai Tryz.prog 72 [cH s] h fun r h' =>∃y1 y2 y3,r= .agg (stC s y1 y2 y3 (dM s.roles))∧gY h h' y1 y2 y3 (dM s.roles) s s.cases.length∧Ab.Sub h h' :=by
 have hst:=ur s;have hsc:∀y1 y2 y3,stC s y1 y2 y3 (dM s.roles)=stC s y1 y2 y3 (dM s.roles):=fun _ _ _=>rfl
 have hfc:=hf.cases;have hfg:=hf.log;have hfr:=hf.reviews;have hfn:=hf.notices;obtain⟨tick,cs,rv,nt,ro,⟨pid,pset,palg,ptgt,prules,pkids,pobls⟩,ver⟩:=s;simp only at hfc hfg hfr hfn;rw[hst];simp only[sL,fM,jJ,kD,dM,aV];refine aaq Tryz.func72 35 [.cell 2 67] fun hwf=> ?_
 simp only[go_sem];intro i1 h1;simp only[go_sem];intro i2 h2;have n21:=aF h2;have n2:=aB h2;simp only[go_sem];obtain⟨H,eH⟩:∃H,upd (upd h i1 (some (.obj [.i tick,.sl (cs.map cm) .no,.sl (rv.map ie) .no,.sl (nt.map lY) .no,.sl (ro.map dU) .no,.s pid,.b pset,.i palg,aT ptgt,.sl (prules.map aA) .no,.sl (pkids.map aK) .no,az pobls,.i ver] 67))) i2 (some (.obj [.i 0,.sl [] .full,.sl [] .full,.sl [] .full,.sl [] .full,.s [],.b false,.i 0,.sl [] .full,.sl [] .full,.sl [] .full,.sl [] .full,.i 0] 67))=H:=⟨_,rfl⟩;have hH:Ab.Sub h H:=abl;have g1:H i1=some (.obj [.i tick,.sl (cs.map cm) .no,.sl (rv.map ie) .no,.sl (nt.map lY) .no,.sl (ro.map dU) .no,.s pid,.b pset,.i palg,aT ptgt,.sl (prules.map aA) .no,.sl (pkids.map aK) .no,az pobls,.i ver] 67):=abU;have g2:H i2=some (.obj [.i 0,.sl [] .full,.sl [] .full,.sl [] .full,.sl [] .full,.s [],.b false,.i 0,.sl [] .full,.sl [] .full,.sl [] .full,.sl [] .full,.i 0] 67):=abM;rw[eH];clear eH;refine .stage (hm1 i1 (.obj [.i tick,.sl (cs.map cm) .no,.sl (rv.map ie) .no,.sl (nt.map lY) .no,.sl (ro.map dU) .no,.s pid,.b pset,.i palg,aT ptgt,.sl (prules.map aA) .no,.sl (pkids.map aK) .no,az pobls,.i ver] 67)) [0,1,3,4,6,7,2,9,5,8] [10,11,12,13,14] (.hm1 g1) aav ?_;simp only[go_sem,fN];refine(uQ _ (rv.map ie) H (dZ ie 7 (fun _=>rfl) _ _) aas).mono fun z2 H1 ⟨o2,s1⟩=> ?_
 refine⟨.hm1 (s1 _ _ g1), ?_⟩;simp only[go_sem];refine(uN _ (nt.map lY) H1 (dZ lY 3 (fun _=>rfl) _ _) aas).mono fun z3 H2 ⟨o3,s2⟩=> ?_
 refine⟨.hm1 (s2 _ _ (s1 _ _ g1)), ?_⟩;simp only[go_sem];refine(zp _ (cs.map cm) H2 (dZ cm 5 (fun _=>rfl) _ _) aas).mono fun z1 H3 ⟨o1,s3⟩=> ?_
 have s03:Ab.Sub H H3:=s1.trans (s2.trans s3);have q1' :=s03 _ _ g1;have q2' :=s03 _ _ g2;refine⟨.hm1 q1',di,(fun _ _ e=>aaU), ?_⟩
 simp only[go_sem,q1',o1.rd.fit,o1.rd.cells,o2.rd.fit,o2.rd.cells,o3.rd.fit,o3.rd.cells];refine⟨fun _ _ e=>aaU,fun _ _ e=>aaU,fun _ _ e=>aaU, ?_⟩
 obtain⟨M,eM⟩:∃M,upd H3 i1 (some (.obj [.i tick,z1,z2,z3,.sl (ro.map dU) .no,.s pid,.b pset,.i palg,aT ptgt,.sl (prules.map aA) .no,.sl (pkids.map aK) .no,az pobls,.i ver] 67))=M:=⟨_,rfl⟩;have oM:∀q,q≠i1→M q=H3 q:=fun q hq=>by rw[←eM,ag _ _ hq]
 have m1:M i1=some (.obj [.i tick,z1,z2,z3,.sl (ro.map dU) .no,.s pid,.b pset,.i palg,aT ptgt,.sl (prules.map aA) .no,.sl (pkids.map aK) .no,az pobls,.i ver] 67):=by rw[←eM,ah]
 have m2:=(oM i2 n21).trans q2';have hM:Ab.Sub h M:=by rw[←eM];exact(hH.trans s03).put h1 _
 have new:∀ {tb:TypeId} {z:AV} {xs:List AV} {n:Nat} {g:Heap},OwE tb g H3 n z xs→Ab.Sub H g→OwE tb h M n z xs:=fun w hg=>(w.less (hH.trans hg)).keep fun id e=>oM id (cC (w.nid e).1 (hg _ _ g1))
 have w1:=new o1 (s1.trans s2);have w2:=new (o2.sub (s2.trans s3)) (.refl _);have w3:=new (o3.sub s3) s1;have a12:apart z1 z2:=(dL o1 (o2.there s2.some)).symm;have a13:apart z1 z3:=(dL o1 (o3.there fun k hk=>hk)).symm
 have a23:apart z2 z3:=dL o3 (o2.there fun k hk=>hk)
 simp only[go_sem,o1.rd.len,aah];rw[eM];have h12:i1≠i2:=n21.symm;refine .intro (fun m ρ G=>∃i:Nat,Ab.Sub M G∧i≤cs.length∧m=cs.length - i∧lk ρ 1=some (.ptr i1 0)∧lk ρ 2=some (.ptr i2 0)∧lk ρ 18=some z1∧lk ρ 19=some (.i cs.length)∧lk ρ 20=some (.i i)) cs.length ?_ ?_
 ·refine⟨0,.refl _,aar,rfl, ?_, ?_, ?_, ?_, ?_⟩<;>simp only[go_sem]
 ·rintro m ρ G ⟨i,hs,hi,rfl,r1,r2,r18,r19,r20⟩
  have v1:=w1.sub hs;simp only[go_sem,r19,r20];refine .intro (fun e=> ?_) (fun e=> ?_)
  ·have hlt:i<cs.length:=aao e
   have w1' :IntKind.i64.wrap ((i:Int)+1)=((i+1:Nat):Int):=aaE;have hfl:=hfg _ (aam hlt);have hxi:(cs.map cm)[i]'aas=cm cs[i]:=aai ..;simp only[go_sem,r18,r20];refine v1.rd.idx (U:=U) (e:=134) i rfl aas mH aau fun p hp1=> ?_
   have hld:=hp1.all (U:=U) (ty:=134) aau (by rw[mH,hxi];rfl) (by simp only[go_sem];rw[hxi];rfl)
   obtain⟨c,ec⟩:∃c,cs[i]=c:=⟨_,rfl⟩;rw[hxi,ec]at hld;rw[ec]at hfl hxi;simp only[cm,mq,fV,rD]at hld;simp only[go_sem,hld];intro i4 h4;have k1:=hs _ _ m1;have n41:i4≠i1:=cC h4 k1;obtain⟨G4,eG4⟩:∃G4,upd G i4 (some (.obj [.s c.id,.s c.owner,.s c.state,.sl (c.fields.map bJ) .no,.sl (c.log.map hY) .no] 134))=G4:=⟨_,rfl⟩;have sG:Ab.Sub G G4:=adI;have p1:=sG _ _ k1;have p4:G4 i4=some (.obj [.s c.id,.s c.owner,.s c.state,.sl (c.fields.map bJ) .no,.sl (c.log.map hY) .no] 134):=by rw[←eG4,ah]
   simp only[go_sem];rw[eG4];refine .stage (hm2 i1 (.obj [.i tick,z1,z2,z3,.sl (ro.map dU) .no,.s pid,.b pset,.i palg,aT ptgt,.sl (prules.map aA) .no,.sl (pkids.map aK) .no,az pobls,.i ver] 67) i4 (.obj [.s c.id,.s c.owner,.s c.state,.sl (c.fields.map bJ) .no,.sl (c.log.map hY) .no] 134)) [0,1,2,3,4,5,6,7] [8] (.hm2 p1 p4) aav ?_;simp only[go_sem,r1,qA _ _ n41.symm,qB];refine(vE _ (c.log.map hY) G4 (dZ hY 3 (fun _=>rfl) _ _) aas (bn (fun _=>rfl) _)).pthen ?_
   refine⟨.hm2 p1 p4, ?_⟩;simp only[go_sem];obtain⟨id1,hg1,u1⟩:=(v1.sub sG).ow aas;refine u1.idx (U:=U) (e:=134) i rfl aas mH aau ?_;simp only[go_sem];refine⟨di,(fun _ _ e=>aaU), ?_⟩
   have u1' :=u1;obtain⟨cap,rest,ey,hid,hr,hcap,hsz⟩:=u1';have hbd:i*5+5≤(aq (cs.map cm)++rest).length:=by
    grind [aal,aW,aah]
   have e5:List.take (i*5+4) (aq (cs.map cm)++rest)++ [.sl (c.log.map hY) .no]++List.drop (i*5+4+1) (aq (cs.map cm)++rest)=aq (cs.map cm)++rest:=by
    refine(kG hsz i aas 4 [.sl (c.log.map hY) .no] (aag rfl)).trans ?_;rw[qg];rw[List.getElem?_eq_getElem aas,hxi];rfl
   simp only[go_sem,r20,hid];rw[e5,ux hid];refine⟨aar,(fun _ _ e=>aaU), ?_⟩
   simp only[go_sem,w1'];refine⟨_, ?_,i+1,hs.trans sG,aar,rfl, ?_, ?_, ?_, ?_, ?_⟩
   ·omega
   all_goals simp only[go_sem,r1,r2,r18,r19]
  ·have hge:i=cs.length:=by grind
   have k1:=hs _ _ m1;have k2:=hs _ _ m2;have n21' :i2≠i1:=n21;simp only[go_sem,r1,r2,k1,k2];have kp:∀b q,h q=none→M q≠none→q≠i2→upd G i2 b q=M q:=fun b q a c d=>by
    rw[ag _ _ d];cases hh:M q with
    |none=>grind
    |some b=>exact hs _ _ hh
   have ne2:∀ {tb:TypeId} {z:AV} {xs:List AV} {n:Nat},OwE tb h M n z xs→tb≠67→∀q,nid z=some q→q≠i2:=fun w ht q e=>kV (w.nid e).2.2 m2 ht.symm
   refine .mk _ (.refl _) (.refl _) ⟨z1,z2,z3,by simp[stC,fJ,aV]<;>rfl,⟨⟨cs.map cm,w1.keep fun q e=>kp _ q (w1.nid e).1 (w1.nid e).2.1 (ne2 w1 aau q e),aaz,fun j a b _=>aai ..,fun a b=>absurd b (Nat.lt_irrefl _)⟩,w2.keep fun q e=>kp _ q (w2.nid e).1 (w2.nid e).2.1 (ne2 w2 aau q e),w3.keep fun q e=>kp _ q (w3.nid e).1 (w3.nid e).2.1 (ne2 w3 aau q e),.inl rfl,a12,a13,fun q _ e=>aaU,a23,fun q _ e=>aaU,fun q _ e=>aaU⟩,(hM.trans hs).put n2 _⟩
end Go.Proofs.YtcochaoekecfdaaGreatDoor
namespace Go.Bf
open Go Go.Ab Go.Proofs.YtcochaoekecfdaaGreatDoor
def mR(r:kO):List AV:=[.i r.err,aP r.mark,.b r.glass,.i r.val.kind,.i r.val.n,.s r.val.s,.b r.hidden,.i r.at_]
def wN(d:oU):List AV:=opC d.op++ [.i d.version,aP d.mark,.b d.glass,az d.obls]
def mK:List AV:=[.i 0,.v (.complex .f64 0 0),.b false,.i 0,.i 0,.s [],.b false,.i 0]
def jq(x:an×kO×oU×Int):AV:=.tup [cH x.1,.agg (mR x.2.1),.agg (wN x.2.2.1),.i x.2.2.2]
theorem zE{cs ds:List aJ}(h:ds.map (·.id)=cs.map (·.id))(id:Txt):findD ds id=findD cs id:=by
 have e:∀l:List aJ,findD l id=(l.map (·.id)).findIdx fun x=>geB x id:=fun l=>by
  rw[List.findIdx_map];rfl
 rw[e,e,h]
theorem JC(id:Txt):geB id id=true:=by
 have:Op.bytesLess id id=false:=by simpa[lt]using lt_irrefl id
 simp[geB,this]
theorem GK{s:an}{o:OpD}(hr:bI s o=0):findD (dI aO s o).cases o.case=findD s.cases o.case:=by
 unfold dI;rw[if_pos hr];unfold doD
 by_cases k1:o.kind=1
 ·simp only[k1,if_true]
  obtain⟨f,ef⟩:∃f,findD s.cases o.case=f:=⟨_,rfl⟩;have hf:f≤s.cases.length:=by rw[←ef];exact List.findIdx_le_length
  rw[ef];refine(List.findIdx_eq aas).2 ⟨?_,fun j hj=> ?_⟩
  ·have:((List.take f s.cases++ [iP s ⟨o.case,o.subj,jb,[],[]⟩ o.subj [110,101,119]]++List.drop f s.cases)[f]?)=some (iP s ⟨o.case,o.subj,jb,[],[]⟩ o.subj [110,101,119]):=by
    grind
   rw[(List.getElem_eq_iff _).2 this];exact JC _
  ·have hj2:j<s.cases.length:=by omega
   have:((List.take f s.cases++ [iP s ⟨o.case,o.subj,jb,[],[]⟩ o.subj [110,101,119]]++List.drop f s.cases)[j]?)=some s.cases[j]:=by
    grind
   rw[(List.getElem_eq_iff _).2 this];have h3:j<s.cases.findIdx fun c=>geB c.id o.case:=by grind [findD]
   simpa using List.not_of_lt_findIdx h3
 ·by_cases k3:o.kind=3
  ·simp only[k3,show¬(3:Int)=1 by decide,if_false,if_true]
   exact zE (jO (f:=fun c=>iP s {c with fields:=eL c.fields o.field o.val} o.subj [119,114,105,116,101]) (g:=fun c:aJ=>c.id) fun c=>rfl) _
  ·by_cases k4:o.kind=4
   ·simp only[k4,show¬(4:Int)=1 by decide,show¬(4:Int)=3 by decide,if_false,if_true]
    exact zE (jO (f:=fun c=>iP s {c with state:=o.to} o.subj o.to) (g:=fun c:aJ=>c.id) fun c=>rfl) _
   grind
theorem LX{k:Nat}{s:an}{o:OpD}(h:cV k s)(hr:bI s o=0)(hx:ia (dI aO s o).cases o.case<(dI aO s o).cases.length):findD s.cases o.case=ia (dI aO s o).cases o.case:=by
 rw[←GK hr];exact Em (ov o h).asc hx
theorem HU{t:Txt}(h:(aO t).2.1=0):(aO t).2.2=0:=by
 unfold aO at h⊢;cases hl:rC t with
 |bad e a=>
  rw[hl]at h;simp only at h;have:=(xz hl).1;omega
 |ok ts=>
  simp only[xN]at h⊢
  grind
end Go.Bf
namespace Go.Proofs.YtcochaoekecfdaaGreatDoor
open Go Go.Ab Go.Bf
theorem HX(c:aJ):cG (cm c)=true:=by
 simp[cm,mq,cG,gF,fV,rD,bn (f:=bJ) (fun _=>rfl),bn (f:=hY) (fun _=>rfl)]
theorem OZ{g h:Heap}(s:an):Frz g h (cH s) (cH s):=by
 have:=tJ (g:=g) (h:=h) (s:=s) (y1:=fM s.cases) (y2:=jJ s.reviews) (y3:=kD s.notices) (y4:=dM s.roles) (.pure (by grind [fM,cG,bn,HX])) (.pure (by simp only[jJ,cG];exact bn (fun _=>rfl) _)) (.pure (by simp only[kD,cG];exact bn (fun _=>rfl) _)) (.pure (by simp only[dM,cG];exact bn (fun _=>rfl) _))
 exact aa8
theorem JA{g h:Heap}(l:List cA)(q:Perm):Frz g h (.sl (l.map bl) q) (az l):=.sl _ _ _ rfl aar fun i h1 h2 j h3 h4=>by
 refine .pure ?_;have:cG (l.map bl)[i]=true:=aaH;exact mD this _ aaz
theorem zG{g h:Heap}{x:AV}{S:an}(r:kO)(d:oU)(e:Int)(a:Frz g h x (cH S))(q:Perm):Frz g h (.tup [x,.agg (mR r),.agg (opC d.op++ [.i d.version,aP d.mark,.b d.glass,.sl (d.obls.map bl) q]),.i e]) (jq (S,r,d,e)):=by
 refine .tup _ _ rfl fun i h1 h2=> ?_
 rcases i with _|_|_|_|i
 ·exact a
 ·exact aaL
 ·refine .agg _ _ aaG fun j h3 h4=> ?_
  rcases j with _|_|_|_|_|_|_|_|_|_|_|_|_|_|_|_|j
  ·exact aaL
  ·exact aaL
  ·exact aaL
  ·exact aaL
  ·exact aaL
  ·exact aaL
  ·exact aaL
  ·exact aaL
  ·exact aaL
  ·exact aaL
  ·exact aaL
  ·exact aaL
  ·exact aaL
  ·exact aaL
  ·exact aaL
  ·exact JA d.obls q
  ·simp[opC]at h3;omega
 ·exact aaL
 grind
theorem GSt.put{g H:Heap}{k:Nat}{s:an}{j:Nat}(hG:GSt g H k s j){i:Nat}(hi:i≠k)(hgi:g i≠none)(b:Blk):GSt (upd g i (some b)) (upd H i (some b)) k s j:=by
 obtain⟨y1,y2,y3,y4,hk,ho,hgk,hfr⟩:=hG;refine⟨y1,y2,y3,y4,aaZ,(ho.more (g:=upd g i (some b)) fun q hq _=>aaZ).keep fun q hq _=>ag _ _ fun e=> ?_,aaZ,fun q c hq hc=> ?_⟩
 ·grind [ah]
 grind [ah,ag]
theorem GSt.at{g H:Heap}{k:Nat}{s:an}{j:Nat}(hG:GSt g H k s j){i:Nat}{b:Blk}(hi:i≠k)(hb:g i=some b):H i=some b:=by
 obtain⟨_,_,_,_,_,_,_,hfr⟩:=hG
 grind
theorem GSt.sub{f g H:Heap}{k:Nat}{s:an}{j:Nat}(hG:GSt g H k s j)(hs:Ab.Sub f g)(hk:f k=none):Ab.Sub f H:=fun i b hi=>by
 obtain⟨_,_,_,_,_,_,_,hfr⟩:=hG;exact hfr i b aas (hs i b hi)
theorem GSt.same{g H H' :Heap}{k:Nat}{s:an}{j:Nat}(hG:GSt g H k s j)(hs:Ab.Sub H H'):GSt g H' k s j:=by
 obtain⟨y1,y2,y3,y4,hk,ho,hgk,hfr⟩:=hG;exact⟨y1,y2,y3,y4,hs _ _ hk,ho.keep fun q _ hne=>by
  cases hh:H q with
  |none=>grind
  |some b=>exact hs _ _ hh,hgk,fun i b hi hb=>hs _ _ (hfr i b hi hb)⟩
theorem qn{s:an}{pid:Txt}{pset:Bool}{palg:Int}{ptgt:fQ}{prules:List cK}{pkids:List bG}{pobls:List cA}(hpp:s.policy= .mk pid pset palg ptgt prules pkids pobls)(y1 y2 y3 y4:AV):stC s y1 y2 y3 y4= [.i s.tick,y1,y2,y3,y4,.s pid,.b pset,.i palg,.sl (ptgt.map cM) .no,.sl (prules.map aA) .no,.sl (pkids.map aK) .no,.sl (pobls.map bl) .no,.i s.version]:=by
 simp[stC,hpp,fJ,aV,aT,az]
theorem Kq(p:bG):∃a b c d e f g,p= .mk a b c d e f g:=by cases p;simp
theorem nM{k:Nat}(s:an)(hG:nD k s)(hk:k≤1000)(o:OpD)(ho:vB o)(h:Heap)(he:lJ h):ai Tryz.prog 28 [cH s,opA o] h fun r h' =>r=jq (bt s o)∧h' =h:=
 ai.freeze fun g hg _=>by
 replace he:=he.sub hg;obtain⟨pid,pset,palg,ptgt,prules,pkids,pobls,hpp⟩:∃a b c d e f g,s.policy= .mk a b c d e f g:=by cases s.policy;exact⟨_,_,_,_,_,_,_,rfl⟩
 have hst:cH s= .agg [.i s.tick,.sl (s.cases.map cm) .no,.sl (s.reviews.map ie) .no,.sl (s.notices.map lY) .no,.sl (s.roles.map dU) .no,.s pid,.b pset,.i palg,.sl (ptgt.map cM) .no,.sl (prules.map aA) .no,.sl (pkids.map aK) .no,.sl (pobls.map bl) .no,.i s.version]:=by
  simp[cH,fJ,hpp,fM,jJ,kD,dM,aV,aT,az]
 rw[hst];refine ai.of_wp hU Tryz.func28 rfl aav 131 rfl [.cell 4 67,.cell 5 36,.cell 6 71,.tmp 7] rfl (aag rfl) ?_;refine .one hU hm ?_;simp -implicitDefEqProofs only[go_sem,opA,opC];intro i2 h2;simp -implicitDefEqProofs only[go_sem];obtain⟨H2,e2⟩:∃H2,upd g i2 (some (.obj [.i s.tick,.sl (s.cases.map cm) .no,.sl (s.reviews.map ie) .no,.sl (s.notices.map lY) .no,.sl (s.roles.map dU) .no,.s pid,.b pset,.i palg,.sl (ptgt.map cM) .no,.sl (prules.map aA) .no,.sl (pkids.map aK) .no,.sl (pobls.map bl) .no,.i s.version] 67))=H2:=⟨_,rfl⟩;have s2:Ab.Sub g H2:=by rw[←e2];exact .aj h2
 have b2:H2 i2=some (.obj [.i s.tick,.sl (s.cases.map cm) .no,.sl (s.reviews.map ie) .no,.sl (s.notices.map lY) .no,.sl (s.roles.map dU) .no,.s pid,.b pset,.i palg,.sl (ptgt.map cM) .no,.sl (prules.map aA) .no,.sl (pkids.map aK) .no,.sl (pobls.map bl) .no,.i s.version] 67):=by rw[←e2,ah]
 have q2:g i2=none:=h2;have sg:Ab.Sub g H2:=s2;rw[e2];clear e2;intro i3 h3;simp -implicitDefEqProofs only[go_sem];obtain⟨H3,e3⟩:∃H3,upd H2 i3 (some (.obj [.i o.kind,.s o.subj,.s o.case,.s o.field,.s o.to,.i o.val.kind,.i o.val.n,.s o.val.s,.i o.review,.s o.text,.s o.reason,.b o.glass] 32))=H3:=⟨_,rfl⟩;have s3:Ab.Sub H2 H3:=by rw[←e3];exact .aj h3
 have n3_2:i3≠i2:=fun e=>by rw[e,b2]at h3;cases h3
 replace b2:=s3 _ _ b2;have b3:H3 i3=some (.obj [.i o.kind,.s o.subj,.s o.case,.s o.field,.s o.to,.i o.val.kind,.i o.val.n,.s o.val.s,.i o.review,.s o.text,.s o.reason,.b o.glass] 32):=by rw[←e3,ah]
 have q3:g i3=none:=sg.none h3;have sg:Ab.Sub g H3:=sg.trans s3;rw[e3];clear e3;intro i4 h4;simp -implicitDefEqProofs only[go_sem];obtain⟨H4,e4⟩:∃H4,upd H3 i4 (some (.obj [.i 0,.sl [] .full,.sl [] .full,.sl [] .full,.sl [] .full,.s [],.b false,.i 0,.sl [] .full,.sl [] .full,.sl [] .full,.sl [] .full,.i 0] 67))=H4:=⟨_,rfl⟩;have s4:Ab.Sub H3 H4:=by rw[←e4];exact .aj h4
 have n4_2:i4≠i2:=fun e=>by rw[e,b2]at h4;cases h4
 have n4_3:i4≠i3:=fun e=>by rw[e,b3]at h4;cases h4
 replace b2:=s4 _ _ b2;replace b3:=s4 _ _ b3;have b4:H4 i4=some (.obj [.i 0,.sl [] .full,.sl [] .full,.sl [] .full,.sl [] .full,.s [],.b false,.i 0,.sl [] .full,.sl [] .full,.sl [] .full,.sl [] .full,.i 0] 67):=by rw[←e4,ah]
 have q4:g i4=none:=sg.none h4;have sg:Ab.Sub g H4:=sg.trans s4;rw[e4];clear e4;intro i5 h5;simp -implicitDefEqProofs only[go_sem];obtain⟨H5,e5⟩:∃H5,upd H4 i5 (some (.obj [.i 0,.v (.complex .f64 0 0),.b false,.i 0,.i 0,.s [],.b false,.i 0] 36))=H5:=⟨_,rfl⟩;have s5:Ab.Sub H4 H5:=by rw[←e5];exact .aj h5
 have n5_2:i5≠i2:=fun e=>by rw[e,b2]at h5;cases h5
 have n5_3:i5≠i3:=fun e=>by rw[e,b3]at h5;cases h5
 have n5_4:i5≠i4:=fun e=>by rw[e,b4]at h5;cases h5
 replace b2:=s5 _ _ b2;replace b3:=s5 _ _ b3;replace b4:=s5 _ _ b4;have b5:H5 i5=some (.obj [.i 0,.v (.complex .f64 0 0),.b false,.i 0,.i 0,.s [],.b false,.i 0] 36):=by rw[←e5,ah]
 have q5:g i5=none:=sg.none h5;have sg:Ab.Sub g H5:=sg.trans s5;rw[e5];clear e5;intro i6 h6;simp -implicitDefEqProofs only[go_sem];obtain⟨H6,e6⟩:∃H6,upd H5 i6 (some (.obj [.i 0,.s [],.s [],.s [],.s [],.i 0,.i 0,.s [],.i 0,.s [],.s [],.b false,.i 0,.v (.complex .f64 0 0),.b false,.sl [] .full] 71))=H6:=⟨_,rfl⟩;have s6:Ab.Sub H5 H6:=by rw[←e6];exact .aj h6
 have n6_2:i6≠i2:=fun e=>by rw[e,b2]at h6;cases h6
 have n6_3:i6≠i3:=fun e=>by rw[e,b3]at h6;cases h6
 have n6_4:i6≠i4:=fun e=>by rw[e,b4]at h6;cases h6
 have n6_5:i6≠i5:=fun e=>by rw[e,b5]at h6;cases h6
 replace b2:=s6 _ _ b2;replace b3:=s6 _ _ b3;replace b4:=s6 _ _ b4;replace b5:=s6 _ _ b5;have b6:H6 i6=some (.obj [.i 0,.s [],.s [],.s [],.s [],.i 0,.i 0,.s [],.i 0,.s [],.s [],.b false,.i 0,.v (.complex .f64 0 0),.b false,.sl [] .full] 71):=by rw[←e6,ah]
 have q6:g i6=none:=sg.none h6;have sg:Ab.Sub g H6:=sg.trans s6;rw[e6];clear e6;refine WP.KJ hU hm 0 (fun(_:Nat) (ρ:Env) (H' :Heap)=>∃(e a:Int),Ab.Sub g H'∧H' i2=some (.obj [.i s.tick,.sl (s.cases.map cm) .no,.sl (s.reviews.map ie) .no,.sl (s.notices.map lY) .no,.sl (s.roles.map dU) .no,.s pid,.b pset,.i palg,.sl (ptgt.map cM) .no,.sl (prules.map aA) .no,.sl (pkids.map aK) .no,.sl (pobls.map bl) .no,.i s.version] 67)∧H' i4=some (.obj [.i 0,.sl [] .full,.sl [] .full,.sl [] .full,.sl [] .full,.s [],.b false,.i 0,.sl [] .full,.sl [] .full,.sl [] .full,.sl [] .full,.i 0] 67)∧H' i5=some (.obj [.i 0,.v (.complex .f64 0 0),.b false,.i 0,.i 0,.s [],.b false,.i 0] 36)∧H' i6=some (.obj [.i 0,.s [],.s [],.s [],.s [],.i 0,.i 0,.s [],.i 0,.s [],.s [],.b false,.i 0,.v (.complex .f64 0 0),.b false,.sl [] .full] 71)∧lk ρ 2=some (.ptr i2 0)∧lk ρ 4=some (.ptr i4 0)∧lk ρ 5=some (.ptr i5 0)∧lk ρ 6=some (.ptr i6 0)∧lk ρ 12=some (.i e)∧lk ρ 13=some (.i a)∧bt s o=(s,⟨e,naM,false,ax,false,a⟩,wh,e)) rfl ?_ ?_
 ·rintro m ρ H' ⟨e,a,sg',b2,b4,b5,b6,r2,r4,r5,r6,r12,r13,hgd⟩
  refine .vc hU hm ?_;simp -implicitDefEqProofs only[go_sem,r2,r4,r5,r6,r12,r13,b2,b4,b5,b6,ak,n5_4,n5_4.symm,n6_4,n6_4.symm,n6_5,n6_5.symm];refine .mk _ (.refl _) (.refl _) ⟨((sg'.put q4 _).put q5 _).put q6 _,_, ?_,rfl⟩;rw[hgd];exact zG (S:=s) ⟨e,naM,false,ax,false,a⟩ wh e (by rw[←hst];exact OZ s) .full
 intro _;refine .one hU hm ?_;simp -implicitDefEqProofs only[go_sem];intro i8 h8;simp -implicitDefEqProofs only[go_sem];obtain⟨H8,e8⟩:∃H8,upd H6 i8 (some (.obj [.v (.complex .f64 0 0),.sl [] .full] 119))=H8:=⟨_,rfl⟩;have s8:Ab.Sub H6 H8:=by rw[←e8];exact .aj h8
 have n8_2:i8≠i2:=fun e=>by rw[e,b2]at h8;cases h8
 have n8_3:i8≠i3:=fun e=>by rw[e,b3]at h8;cases h8
 have n8_4:i8≠i4:=fun e=>by rw[e,b4]at h8;cases h8
 have n8_5:i8≠i5:=fun e=>by rw[e,b5]at h8;cases h8
 have n8_6:i8≠i6:=fun e=>by rw[e,b6]at h8;cases h8
 replace b2:=s8 _ _ b2;replace b3:=s8 _ _ b3;replace b4:=s8 _ _ b4;replace b5:=s8 _ _ b5;replace b6:=s8 _ _ b6;have b8:H8 i8=some (.obj [.v (.complex .f64 0 0),.sl [] .full] 119):=by rw[←e8,ah]
 have q8:g i8=none:=sg.none h8;have sg:Ab.Sub g H8:=sg.trans s8;rw[e8];clear e8;refine .one hU hm ?_;simp -implicitDefEqProofs only[go_sem];intro i9 h9;simp -implicitDefEqProofs only[go_sem];obtain⟨H9,e9⟩:∃H9,upd H8 i9 (some (.obj [.i 0,.v (.complex .f64 0 0),.b false,.i 0,.i 0,.s [],.b false,.i 0] 36))=H9:=⟨_,rfl⟩;have s9:Ab.Sub H8 H9:=by rw[←e9];exact .aj h9
 have n9_2:i9≠i2:=fun e=>by rw[e,b2]at h9;cases h9
 have n9_3:i9≠i3:=fun e=>by rw[e,b3]at h9;cases h9
 have n9_4:i9≠i4:=fun e=>by rw[e,b4]at h9;cases h9
 have n9_5:i9≠i5:=fun e=>by rw[e,b5]at h9;cases h9
 have n9_6:i9≠i6:=fun e=>by rw[e,b6]at h9;cases h9
 have n9_8:i9≠i8:=fun e=>by rw[e,b8]at h9;cases h9
 replace b2:=s9 _ _ b2;replace b3:=s9 _ _ b3;replace b4:=s9 _ _ b4;replace b5:=s9 _ _ b5;replace b6:=s9 _ _ b6;replace b8:=s9 _ _ b8;have b9:H9 i9=some (.obj [.i 0,.v (.complex .f64 0 0),.b false,.i 0,.i 0,.s [],.b false,.i 0] 36):=by rw[←e9,ah]
 have q9:g i9=none:=sg.none h9;have sg:Ab.Sub g H9:=sg.trans s9;rw[e9];clear e9;refine .one hU hm ?_;simp -implicitDefEqProofs only[go_sem];intro i10 h10;simp -implicitDefEqProofs only[go_sem];obtain⟨H10,e10⟩:∃H10,upd H9 i10 (some (.obj [.i 0,.sl [] .full,.sl [] .full,.sl [] .full,.sl [] .full,.s [],.b false,.i 0,.sl [] .full,.sl [] .full,.sl [] .full,.sl [] .full,.i 0] 67))=H10:=⟨_,rfl⟩;have s10:Ab.Sub H9 H10:=by rw[←e10];exact .aj h10
 have n10_2:i10≠i2:=fun e=>by rw[e,b2]at h10;cases h10
 have n10_3:i10≠i3:=fun e=>by rw[e,b3]at h10;cases h10
 have n10_4:i10≠i4:=fun e=>by rw[e,b4]at h10;cases h10
 have n10_5:i10≠i5:=fun e=>by rw[e,b5]at h10;cases h10
 have n10_6:i10≠i6:=fun e=>by rw[e,b6]at h10;cases h10
 have n10_8:i10≠i8:=fun e=>by rw[e,b8]at h10;cases h10
 have n10_9:i10≠i9:=fun e=>by rw[e,b9]at h10;cases h10
 replace b2:=s10 _ _ b2;replace b3:=s10 _ _ b3;replace b4:=s10 _ _ b4;replace b5:=s10 _ _ b5;replace b6:=s10 _ _ b6;replace b8:=s10 _ _ b8;replace b9:=s10 _ _ b9;have b10:H10 i10=some (.obj [.i 0,.sl [] .full,.sl [] .full,.sl [] .full,.sl [] .full,.s [],.b false,.i 0,.sl [] .full,.sl [] .full,.sl [] .full,.sl [] .full,.i 0] 67):=by rw[←e10,ah]
 have q10:g i10=none:=sg.none h10;have sg:Ab.Sub g H10:=sg.trans s10;rw[e10];clear e10;refine .one hU hm ?_;simp -implicitDefEqProofs only[go_sem];have hrd:=fun G=>C7 (rdS G s) o hG.few ho.2.2.2 hG.E1
 have hpa:=fun(G:Heap) (hs:Ab.Sub g G)=>xO o.text G (he.sub hs)
 rw[hst]at hrd;simp only[opA,opC]at hrd;refine .one hU hm ?_;simp -implicitDefEqProofs only[go_sem,b2,b3];refine(hrd _).pthen ?_;simp -implicitDefEqProofs only[go_sem];refine .cut (fun ρ H' =>H' =H10∧lk ρ 2=some (.ptr i2 0)∧lk ρ 3=some (.ptr i3 0)∧lk ρ 4=some (.ptr i4 0)∧lk ρ 5=some (.ptr i5 0)∧lk ρ 6=some (.ptr i6 0)∧lk ρ 8=some (.ptr i8 0)∧lk ρ 9=some (.ptr i9 0)∧lk ρ 10=some (.ptr i10 0)∧lk ρ 11=some (.b false)∧lk ρ 12=some (.v (.int .i64 (jE s o).1))∧lk ρ 13=some (.v (.int .i64 (jE s o).2))) ?_ ?_
 ·refine .vc hU hm ?_
  cases dr:(bI s o==0)
  ·have er:bI s o≠0:=by simpa using dr
   have ep:jE s o=(bI s o,0):=by unfold jE;rw[if_neg fun hh=>er hh.1]
   simp -implicitDefEqProofs only[go_sem,dr];refine⟨rfl, ?_, ?_, ?_, ?_, ?_, ?_, ?_, ?_, ?_, ?_, ?_⟩<;>simp -implicitDefEqProofs only[go_sem,ep]
  have er:bI s o=0:=by simpa using dr
  cases d7:(o.kind==7)
  ·have e7:o.kind≠7:=by simpa using d7
   have ep:jE s o=(bI s o,0):=by unfold jE;rw[if_neg fun hh=>e7 hh.2]
   simp -implicitDefEqProofs only[go_sem,b3,dr,d7];refine⟨rfl, ?_, ?_, ?_, ?_, ?_, ?_, ?_, ?_, ?_, ?_, ?_⟩<;>simp -implicitDefEqProofs only[go_sem,ep]
  ·have e7:o.kind=7:=by simpa using d7
   have ep:jE s o=((aO o.text).2.1,(aO o.text).2.2):=by unfold jE;rw[if_pos ⟨er,e7⟩]
   simp -implicitDefEqProofs only[go_sem,b3,dr,d7];refine(hpa _ sg).pthen ?_;obtain⟨⟨pp,e,a⟩,epp⟩:∃x,aO o.text=x:=⟨_,rfl⟩;rw[epp]at ep;simp -implicitDefEqProofs only[go_sem,jw,epp];refine⟨rfl, ?_, ?_, ?_, ?_, ?_, ?_, ?_, ?_, ?_, ?_, ?_⟩<;>simp -implicitDefEqProofs only[go_sem,ep]
 rintro ρ H' ⟨rfl,r2,r3,r4,r5,r6,r8,r9,r10,r11,r12,r13⟩
 refine .one hU hm ?_;cases de:((jE s o).1 !=0)
 case true=>
  have ee:(jE s o).1≠0:=by simpa using de
  simp -implicitDefEqProofs only[go_sem,r2,r4,r5,r6,r12,r13,de];exact⟨0,(jE s o).1,(jE s o).2,sg,b2,b4,b5,b6,rfl,rfl,by unfold bt;rw[if_pos ee]⟩
 have ee:(jE s o).1=0:=by simpa using de
 simp -implicitDefEqProofs only[go_sem,r12,de];obtain⟨hr0,hform,hpar⟩:=sR ee;have hfg:=I1 (Gu hG.tocV hform);have hask:=fun G=>Ov (rdS G s) o hG.few ho.1
 have hdec:=fun G=>Co s.policy hG.pol (fl s o) hfg G
 have hm6:=AX (fl s o) s.policy;have hol:=Jt (fl s o) hG.lU;have hmk:gw s o=fh (fl s o) s.policy:=rfl;obtain⟨⟨m,ob⟩,em⟩:∃x,fh (fl s o) s.policy=x:=⟨_,rfl⟩;rw[em]at hdec hm6 hol hmk;simp only at hm6 hol;rw[hpp]at hdec;simp only[aK,aT,az,aV,bE,rsA,aP]at hdec;rw[hst]at hask;simp only[opA,opC,bE]at hask;have p2:=(bz (H:=H') (l:=[i2,i3]) (show i2∈ [i2,i3] by simp)).trans b2
 have p3:=(bz (H:=H') (l:=[i2,i3]) (show i3∈ [i2,i3] by simp)).trans b3
 refine .one hU hm ?_;simp -implicitDefEqProofs only[go_sem];refine .calls (pick H' [i2,i3]) [0,1,2,3,4,5,6,7,8,9,10] bO aav rfl ?_;simp -implicitDefEqProofs only[go_sem,r2,r3,p2,p3];refine(hask _).pthen ?_;refine⟨bO, ?_⟩;simp -implicitDefEqProofs only[go_sem];refine(hdec _).pthen ?_;refine⟨bO, ?_⟩;simp -implicitDefEqProofs only[go_sem,r8,b8];refine⟨bO.put (by simp[pick,n8_2,n8_3]) _, ?_⟩
 obtain⟨H11,eH11⟩:∃H11,upd H' i8 (some (.obj [.v (.complex .f64 (hbit m.1) (hbit m.2)),.sl (ob.map bl) .no] 119))=H11:=⟨_,rfl⟩;replace b2:H11 i2=some (.obj [.i s.tick,.sl (s.cases.map cm) .no,.sl (s.reviews.map ie) .no,.sl (s.notices.map lY) .no,.sl (s.roles.map dU) .no,.s pid,.b pset,.i palg,.sl (ptgt.map cM) .no,.sl (prules.map aA) .no,.sl (pkids.map aK) .no,.sl (pobls.map bl) .no,.i s.version] 67):=by rw[←eH11,ag _ _ n8_2.symm];exact b2
 replace b3:H11 i3=some (.obj [.i o.kind,.s o.subj,.s o.case,.s o.field,.s o.to,.i o.val.kind,.i o.val.n,.s o.val.s,.i o.review,.s o.text,.s o.reason,.b o.glass] 32):=by rw[←eH11,ag _ _ n8_3.symm];exact b3
 replace b4:H11 i4=some (.obj [.i 0,.sl [] .full,.sl [] .full,.sl [] .full,.sl [] .full,.s [],.b false,.i 0,.sl [] .full,.sl [] .full,.sl [] .full,.sl [] .full,.i 0] 67):=by rw[←eH11,ag _ _ n8_4.symm];exact b4
 replace b5:H11 i5=some (.obj [.i 0,.v (.complex .f64 0 0),.b false,.i 0,.i 0,.s [],.b false,.i 0] 36):=by rw[←eH11,ag _ _ n8_5.symm];exact b5
 replace b6:H11 i6=some (.obj [.i 0,.s [],.s [],.s [],.s [],.i 0,.i 0,.s [],.i 0,.s [],.s [],.b false,.i 0,.v (.complex .f64 0 0),.b false,.sl [] .full] 71):=by rw[←eH11,ag _ _ n8_6.symm];exact b6
 replace b9:H11 i9=some (.obj [.i 0,.v (.complex .f64 0 0),.b false,.i 0,.i 0,.s [],.b false,.i 0] 36):=by rw[←eH11,ag _ _ n9_8];exact b9
 replace b10:H11 i10=some (.obj [.i 0,.sl [] .full,.sl [] .full,.sl [] .full,.sl [] .full,.s [],.b false,.i 0,.sl [] .full,.sl [] .full,.sl [] .full,.sl [] .full,.i 0] 67):=by rw[←eH11,ag _ _ n10_8];exact b10
 replace b8:H11 i8=some (.obj [.v (.complex .f64 (hbit m.1) (hbit m.2)),.sl (ob.map bl) .no] 119):=by rw[←eH11,ah]
 replace sg:Ab.Sub g H11:=by rw[←eH11];exact sg.put q8 _
 rw[eH11];clear eH11;have hbr:=fun G=>Gx s o m hm6.m9 (by have:=hG.nr;omega) (by have:=hG.roles;omega) hG.tick hG.ticks G
 rw[hst]at hbr;simp only[opA,opC,aP]at hbr;obtain⟨gl,egl⟩:∃gl,rS s o m=gl:=⟨_,rfl⟩;have hgl:fm s o=gl:=by unfold fm;rw[hmk];exact egl
 rw[egl]at hbr;have p2:=(bz (H:=H11) (l:=[i2,i3,i8]) (show i2∈ [i2,i3,i8] by simp)).trans b2
 have p3:=(bz (H:=H11) (l:=[i2,i3,i8]) (show i3∈ [i2,i3,i8] by simp)).trans b3
 have p8:=(bz (H:=H11) (l:=[i2,i3,i8]) (show i8∈ [i2,i3,i8] by simp)).trans b8
 refine .one hU hm ?_;simp -implicitDefEqProofs only[go_sem];refine .stage (pick H11 [i2,i3,i8]) [0,1,2,3,4,5,7,6] [8,9,10] bO aav ?_;simp -implicitDefEqProofs only[go_sem,r2,r3,r8,r9,p2,p3,p8];refine(hbr _).pthen ?_;refine⟨bO,di,fun _ _ e=>aaU, ?_⟩
 simp -implicitDefEqProofs only[go_sem,r9,b9];refine⟨fun _ _ e=>aaU,fun _ _ e=>aaU, ?_⟩
 obtain⟨H12,eH12⟩:∃H12,upd H11 i9 (some (.obj [.i 0,.v (.complex .f64 (hbit m.1) (hbit m.2)),.b gl,.i 0,.i 0,.s [],.b false,.i 0] 36))=H12:=⟨_,rfl⟩;replace b2:H12 i2=some (.obj [.i s.tick,.sl (s.cases.map cm) .no,.sl (s.reviews.map ie) .no,.sl (s.notices.map lY) .no,.sl (s.roles.map dU) .no,.s pid,.b pset,.i palg,.sl (ptgt.map cM) .no,.sl (prules.map aA) .no,.sl (pkids.map aK) .no,.sl (pobls.map bl) .no,.i s.version] 67):=by rw[←eH12,ag _ _ n9_2.symm];exact b2
 replace b3:H12 i3=some (.obj [.i o.kind,.s o.subj,.s o.case,.s o.field,.s o.to,.i o.val.kind,.i o.val.n,.s o.val.s,.i o.review,.s o.text,.s o.reason,.b o.glass] 32):=by rw[←eH12,ag _ _ n9_3.symm];exact b3
 replace b4:H12 i4=some (.obj [.i 0,.sl [] .full,.sl [] .full,.sl [] .full,.sl [] .full,.s [],.b false,.i 0,.sl [] .full,.sl [] .full,.sl [] .full,.sl [] .full,.i 0] 67):=by rw[←eH12,ag _ _ n9_4.symm];exact b4
 replace b5:H12 i5=some (.obj [.i 0,.v (.complex .f64 0 0),.b false,.i 0,.i 0,.s [],.b false,.i 0] 36):=by rw[←eH12,ag _ _ n9_5.symm];exact b5
 replace b6:H12 i6=some (.obj [.i 0,.s [],.s [],.s [],.s [],.i 0,.i 0,.s [],.i 0,.s [],.s [],.b false,.i 0,.v (.complex .f64 0 0),.b false,.sl [] .full] 71):=by rw[←eH12,ag _ _ n9_6.symm];exact b6
 replace b8:H12 i8=some (.obj [.v (.complex .f64 (hbit m.1) (hbit m.2)),.sl (ob.map bl) .no] 119):=by rw[←eH12,ag _ _ n9_8.symm];exact b8
 replace b10:H12 i10=some (.obj [.i 0,.sl [] .full,.sl [] .full,.sl [] .full,.sl [] .full,.s [],.b false,.i 0,.sl [] .full,.sl [] .full,.sl [] .full,.sl [] .full,.i 0] 67):=by rw[←eH12,ag _ _ n10_9];exact b10
 replace b9:H12 i9=some (.obj [.i 0,.v (.complex .f64 (hbit m.1) (hbit m.2)),.b gl,.i 0,.i 0,.s [],.b false,.i 0] 36):=by rw[←eH12,ah]
 replace sg:Ab.Sub g H12:=by rw[←eH12];exact sg.put q9 _
 rw[eH12];clear eH12;obtain⟨dn,edn⟩:∃dn,(decide (m=aZ)||gl)=dn:=⟨_,rfl⟩
 have hdn:rU s o=dn:=by unfold rU;rw[hmk,hgl];exact edn
 have pe:=(nb hm6.m9).pe;refine .cut (fun ρ H' =>H' =H12∧lk ρ 2=some (.ptr i2 0)∧lk ρ 3=some (.ptr i3 0)∧lk ρ 4=some (.ptr i4 0)∧lk ρ 5=some (.ptr i5 0)∧lk ρ 6=some (.ptr i6 0)∧lk ρ 8=some (.ptr i8 0)∧lk ρ 9=some (.ptr i9 0)∧lk ρ 10=some (.ptr i10 0)∧lk ρ 11=some (.b dn)∧lk ρ 13=some (.v (.int .i64 (jE s o).2))) ?_ ?_
 ·refine .vc hU hm ?_
  cases dp:(m==aZ)
  ·have e1:decide (m=aZ)=false:=decide_eq_false (by simpa using dp)
   rw[e1,Bool.false_or]at edn;simp -implicitDefEqProofs only[go_sem,r8,r9,b8,b9,pe,dp];refine⟨rfl, ?_, ?_, ?_, ?_, ?_, ?_, ?_, ?_, ?_, ?_⟩<;>simp -implicitDefEqProofs only[go_sem,r2,r3,r4,r5,r6,r8,r9,r10,r13,edn]
  ·have e1:decide (m=aZ)=true:=decide_eq_true (by simpa using dp)
   rw[e1,Bool.true_or]at edn;simp -implicitDefEqProofs only[go_sem,r8,b8,pe,dp];refine⟨rfl, ?_, ?_, ?_, ?_, ?_, ?_, ?_, ?_, ?_, ?_⟩<;>simp -implicitDefEqProofs only[go_sem,r2,r3,r4,r5,r6,r8,r9,r10,r13,edn]
 clear r2 r3 r4 r5 r6 r8 r9 r10 r11 r12 r13
 rintro ρ H' ⟨rfl,r2,r3,r4,r5,r6,r8,r9,r10,r11,r13⟩
 have how:=fun G=>L4 s hG.few G
 rw[hst]at how;refine .one hU hm ?_;simp -implicitDefEqProofs only[go_sem,r2,b2];refine(how _).mono fun r H13 ⟨y1,y2,y3,er,hown,hs13⟩=> ?_
 subst er;rw[qn hpp];simp only[dM];simp -implicitDefEqProofs only[go_sem,r10,hs13 _ _ b10];obtain⟨H14,e14⟩:∃H14,upd H13 i10 (some (.obj [.i s.tick,y1,y2,y3,.sl (s.roles.map dU) .no,.s pid,.b pset,.i palg,.sl (ptgt.map cM) .no,.sl (prules.map aA) .no,.sl (pkids.map aK) .no,.sl (pobls.map bl) .no,.i s.version] 67))=H14:=⟨_,rfl⟩;have hS:GSt H' H14 i10 s s.cases.length:=⟨y1,y2,y3,dM s.roles,by rw[←e14,ah,qn hpp];rfl,hown.keep (fun q hq _=>by rw[←e14];exact ag _ _ fun e=>by rw[e,b10]at hq;cases hq),by rw[b10];simp,fun i b hi hb=>by rw[←e14,ag _ _ hi];exact hs13 _ _ hb⟩
 rw[e14];clear e14;have sGB:=sg;have hroom:s.reviews.length≤1000:=hG.nrev;refine .cut (fun ρ H2=>GSt H' H2 i10 (if gl=true then bZ s o o.reason else s) s.cases.length∧lk ρ 2=some (.ptr i2 0)∧lk ρ 3=some (.ptr i3 0)∧lk ρ 4=some (.ptr i4 0)∧lk ρ 5=some (.ptr i5 0)∧lk ρ 6=some (.ptr i6 0)∧lk ρ 8=some (.ptr i8 0)∧lk ρ 9=some (.ptr i9 0)∧lk ρ 10=some (.ptr i10 0)∧lk ρ 11=some (.b dn)∧lk ρ 13=some (.v (.int .i64 (jE s o).2))) ?_ ?_
 ·refine .vc hU hm ?_
  have c9:=hS.at n10_9.symm b9;have c3:=hS.at n10_3.symm b3;have hop:=CK hS o o.reason ho.1 aar;simp only[opA,opC]at hop;cases gl
  ·simp -implicitDefEqProofs only[go_sem,r9,c9]
   refine⟨hS, ?_, ?_, ?_, ?_, ?_, ?_, ?_, ?_, ?_, ?_⟩<;>simp -implicitDefEqProofs only[go_sem,r2,r3,r4,r5,r6,r8,r9,r10,r11,r13]
  ·simp -implicitDefEqProofs only[go_sem,r3,r9,r10,c9,c3]
   refine hop.mono fun r H3 h3=> ?_
   simp -implicitDefEqProofs only[go_sem];refine⟨h3, ?_, ?_, ?_, ?_, ?_, ?_, ?_, ?_, ?_, ?_⟩<;>simp -implicitDefEqProofs only[go_sem,r2,r3,r4,r5,r6,r8,r9,r10,r11,r13]
 clear hS r2 r3 r4 r5 r6 r8 r9 r10 r11 r13
 rintro ρ H2 ⟨hS,r2,r3,r4,r5,r6,r8,r9,r10,r11,r13⟩
 have hbd:cQ s o=cX (if dn=true then dI aO (if gl=true then bZ s o o.reason else s) o else(if gl=true then bZ s o o.reason else s)) o ob dn:=by
  unfold cQ;rw[hgl,hdn,hmk]
 have hO1:cV k (if gl=true then bZ s o o.reason else s):=by
  split
  ·exact Bd o _ hG.tocV (by have:=hG.nr;omega)
  ·exact hG.tocV
 have hc1:(if gl=true then bZ s o o.reason else s).cases=s.cases:=by split<;>rfl
 have hp1:(if gl=true then bZ s o o.reason else s).policy= .mk pid pset palg ptgt prules pkids pobls:=by split<;>exact hpp
 have hg1:qQ 999 (if gl=true then bZ s o o.reason else s):=by
  have h1:=hG.nr;have h2:=hG.nn;have h3:=fun c hc=>(hG.case c hc).log2
  split
  ·exact⟨fun c hc=>by have:=h3 c hc;omega,by simp only[bZ,aal,List.length_singleton];omega,by simp only[bZ];omega⟩
  ·exact⟨fun c hc=>by have:=h3 c hc;omega,aar,aar⟩
 have hr1:bI (if gl=true then bZ s o o.reason else s) o=0:=by
  split
  ·rename_i hgt
   have hgo:=xe hform (Cc (hgl.trans hgt));rw[←hr0];unfold bI;have k5:o.kind≠5:=aar;have k6:o.kind≠6:=aar;have k8:o.kind≠8:=aar;simp only[k5,k6,k8,if_false];rfl
  ·exact hr0
 obtain⟨s1,es1⟩:∃s1,(if gl=true then bZ s o o.reason else s)=s1:=⟨_,rfl⟩
 rw[es1]at hS hbd hO1 hc1 hp1 hg1 hr1;have hre:om s o=⟨if dn=true then 0 else 12,m,gl,if(dn && o.kind==2 && !jr ob o.field)=true then dX (br s.cases o.case).fields o.field else ax,dn && o.kind==2 && jr ob o.field,0⟩:=by
  unfold om;rw[hgl,hdn,hmk]
 have hve:=hO1.ver;have b9n:H' i9≠none:=by rw[b9];simp
 refine .cut (fun ρ H3=>lk ρ 2=some (.ptr i2 0)∧lk ρ 3=some (.ptr i3 0)∧lk ρ 4=some (.ptr i4 0)∧lk ρ 5=some (.ptr i5 0)∧lk ρ 6=some (.ptr i6 0)∧lk ρ 8=some (.ptr i8 0)∧lk ρ 9=some (.ptr i9 0)∧lk ρ 10=some (.ptr i10 0)∧lk ρ 11=some (.b dn)∧lk ρ 13=some (.v (.int .i64 (jE s o).2))∧∃(GB:Heap) (j:Nat),GSt GB H3 i10 (if dn=true then dI aO s1 o else s1) j∧Ab.Sub g GB∧(dn=true→ia (if dn=true then dI aO s1 o else s1).cases o.case<(if dn=true then dI aO s1 o else s1).cases.length→o.kind≠6→j=ia (if dn=true then dI aO s1 o else s1).cases o.case)∧GB i2=some (.obj [.i s.tick,.sl (s.cases.map cm) .no,.sl (s.reviews.map ie) .no,.sl (s.notices.map lY) .no,.sl (s.roles.map dU) .no,.s pid,.b pset,.i palg,.sl (ptgt.map cM) .no,.sl (prules.map aA) .no,.sl (pkids.map aK) .no,.sl (pobls.map bl) .no,.i s.version] 67)∧GB i3=some (.obj [.i o.kind,.s o.subj,.s o.case,.s o.field,.s o.to,.i o.val.kind,.i o.val.n,.s o.val.s,.i o.review,.s o.text,.s o.reason,.b o.glass] 32)∧GB i4=some (.obj [.i 0,.sl [] .full,.sl [] .full,.sl [] .full,.sl [] .full,.s [],.b false,.i 0,.sl [] .full,.sl [] .full,.sl [] .full,.sl [] .full,.i 0] 67)∧GB i5=some (.obj [.i 0,.v (.complex .f64 0 0),.b false,.i 0,.i 0,.s [],.b false,.i 0] 36)∧GB i6=some (.obj [.i 0,.s [],.s [],.s [],.s [],.i 0,.i 0,.s [],.i 0,.s [],.s [],.b false,.i 0,.v (.complex .f64 0 0),.b false,.sl [] .full] 71)∧GB i8=some (.obj [.v (.complex .f64 (hbit m.1) (hbit m.2)),.sl (ob.map bl) .no] 119)∧GB i9=some (.obj [.i (if dn=true then 0 else 12),.v (.complex .f64 (hbit m.1) (hbit m.2)),.b gl,.v (.int .i64 (if(dn && o.kind==2 && !jr ob o.field)=true then dX (br s.cases o.case).fields o.field else ax).kind),.v (.int .i64 (if(dn && o.kind==2 && !jr ob o.field)=true then dX (br s.cases o.case).fields o.field else ax).n),.s (if(dn && o.kind==2 && !jr ob o.field)=true then dX (br s.cases o.case).fields o.field else ax).s,.b (dn && o.kind==2 && jr ob o.field),.i 0] 36)) ?_ ?_
 ·refine .vc hU hm ?_
  have c9:=hS.at n10_9.symm b9;have c3:=hS.at n10_3.symm b3;have c8:=hS.at n10_8.symm b8;have c2:=hS.at n10_2.symm b2;cases dn
  ·simp -implicitDefEqProofs only[go_sem,r9,r11,c9]
   refine⟨?_, ?_, ?_, ?_, ?_, ?_, ?_, ?_, ?_, ?_,upd H' i9 _,s.cases.length,hS.put n10_9.symm b9n _,sGB.put q9 _,fun e=>aaU,adA,adB,adC,adD,adE,adF,ah ..⟩<;>simp -implicitDefEqProofs only[go_sem,r2,r3,r4,r5,r6,r8,r9,r10,r11,r13]
  ·obtain⟨z1,z2,z3,z4,hk10,hrd⟩:=hS.rd
   have sH2:Ab.Sub g H2:=hS.sub sGB q10;have hdo:=Jo hrd o hO1.few hO1.lU ho.2.2.2 hO1.E1 ⟨hve.1,aar⟩ (he.sub sH2);have hjj:=fun hx (_:o.kind≠6)=>LX (o:=o) hO1 hr1 hx
   rw[qn hp1]at hk10 hdo;simp only[opA,opC]at hdo;simp -implicitDefEqProofs only[go_sem,r3,r10,r11,hk10,c3];refine hdo.mono fun r H3 ⟨hs3,j,hOS,hj⟩=> ?_
   have hj:=hj hr1;obtain⟨x1,x2,x3,x4,er,hOP⟩:=hOS.parts;subst er;obtain⟨did,dset,dalg,dtgt,drules,dkids,dobls,hpd⟩:=Kq (dI aO s1 o).policy;rw[qn hpd];have k10:=hs3 _ _ hk10;obtain⟨H4,e4⟩:∃H4,upd H3 i10 (some (.obj [.v (.int .i64 (dI aO s1 o).tick),x1,x2,x3,x4,.s did,.b dset,.i dalg,.sl (dtgt.map cM) .no,.sl (drules.map aA) .no,.sl (dkids.map aK) .no,.sl (dobls.map bl) .no,.v (.int .i64 (dI aO s1 o).version)] 67))=H4:=⟨_,rfl⟩;have hS4:GSt H' H4 i10 (dI aO s1 o) j:=by
    obtain⟨_,_,_,_,_,_,hgk,hfr⟩:=hS;refine⟨x1,x2,x3,x4,by rw[←e4,ah,qn hpd],(hOP.keep fun q hq _=>by rw[←e4];exact ag _ _ fun e=>by rw[e,hk10]at hq;cases hq).bH fun q hq=> ?_,hgk,fun i b hi hb=>by rw[←e4,ag _ _ hi];exact hs3 _ _ (hfr i b hi hb)⟩
    cases hh:H' q with
    |none=>rfl
    |some b=>
     by_cases e:q=i10
     ·rw[e,hk10]at hq;cases hq
     ·rw[hfr q b e hh]at hq;cases hq
   have d9:=hS4.at n10_9.symm b9;have d3:=hS4.at n10_3.symm b3;have d8:=hS4.at n10_8.symm b8;have d2:=hS4.at n10_2.symm b2;have hjx:true=true→ia (dI aO s1 o).cases o.case<(dI aO s1 o).cases.length→o.kind≠6→j=ia (dI aO s1 o).cases o.case:=fun _ hx h6=>hj.trans (hjj hx h6)
   have hhi:=fun G=>JF ob aar o.field G
   simp only[az]at hhi;have hca:=fun G=>AQ (rdS G s) o.case hG.few
   rw[hst]at hca;have hcf:(br s.cases o.case).fields.length≤1000000000:=by
    unfold br;split
    ·by_cases hlt:findD s.cases o.case<s.cases.length
     ·rw[show s.cases.getD (findD s.cases o.case) ny=s.cases[findD s.cases o.case] by simp[List.getD,List.getElem?_eq_getElem hlt]]
      have:=(hG.case _ (aam hlt)).nfields;omega
     ·rw[show s.cases.getD (findD s.cases o.case) ny=ny by simp[List.getD,List.getElem?_eq_none (Nat.le_of_not_lt hlt)]]
      exact adw
    ·exact adw
   have hfd:=fun G=>B4 (rdC G (br s.cases o.case)) o.field hcf
   simp only[cm,mq,fV,rD]at hca hfd;simp -implicitDefEqProofs only[go_sem,r3,r10,k10];rw[e4];clear e4;cases d7:(o.kind==2)
   ·simp -implicitDefEqProofs only[go_sem,r3,r9,d9,d3,d7,n9_3.symm]
    refine⟨?_, ?_, ?_, ?_, ?_, ?_, ?_, ?_, ?_, ?_,upd H' i9 _,j,hS4.put n10_9.symm b9n _,sGB.put q9 _,(fun _=>hjx rfl),adA,adB,adC,adD,adE,adF,ah ..⟩<;>simp -implicitDefEqProofs only[go_sem,r2,r3,r4,r5,r6,r8,r9,r10,r11,r13]
   ·simp -implicitDefEqProofs only[go_sem,r3,r8,d3,d8,d7]
    refine(hhi _).pthen ?_;cases hh:jr ob o.field
    ·simp -implicitDefEqProofs only[go_sem,r2,r3,r9,d9,d3,d2,d7,n9_2.symm,n9_3.symm]
     refine(hca _).pthen ?_;simp -implicitDefEqProofs only[go_sem];intro i14 h14;have t9:i14≠i9:=fun e=>by rw[e,ah]at h14;cases h14
     have t3:i14≠i3:=fun e=>by rw[e,ag _ _ n9_3.symm,d3]at h14;cases h14
     simp -implicitDefEqProofs only[go_sem,r3,d3,n9_3.symm,t3.symm];refine(hfd _).pthen ?_;simp -implicitDefEqProofs only[go_sem,r9,t9.symm,aQ];refine⟨?_, ?_, ?_, ?_, ?_, ?_, ?_, ?_, ?_, ?_,upd (upd H' i9 _) i9 _,j,((hS4.put n10_9.symm b9n _).same (.aj h14)).put n10_9.symm (by rw[ah];simp) _,(sGB.put q9 _).put q9 _,(fun _=>hjx rfl),by rw[ag _ _ n9_2.symm,ag _ _ n9_2.symm];exact b2,by rw[ag _ _ n9_3.symm,ag _ _ n9_3.symm];exact b3,by rw[ag _ _ n9_4.symm,ag _ _ n9_4.symm];exact b4,by rw[ag _ _ n9_5.symm,ag _ _ n9_5.symm];exact b5,by rw[ag _ _ n9_6.symm,ag _ _ n9_6.symm];exact b6,by rw[ag _ _ n9_8.symm,ag _ _ n9_8.symm];exact b8,ah ..⟩<;>simp -implicitDefEqProofs only[go_sem,r2,r3,r4,r5,r6,r8,r9,r10,r11,r13]
    ·simp -implicitDefEqProofs only[go_sem,r3,r9,d9,d3,d7,n9_3.symm]
     refine⟨?_, ?_, ?_, ?_, ?_, ?_, ?_, ?_, ?_, ?_,upd H' i9 _,j,hS4.put n10_9.symm b9n _,sGB.put q9 _,(fun _=>hjx rfl),adA,adB,adC,adD,adE,adF,ah ..⟩<;>simp -implicitDefEqProofs only[go_sem,r2,r3,r4,r5,r6,r8,r9,r10,r11,r13]
 clear hS b2 b3 b4 b5 b6 b8 b9 b10 r2 r3 r4 r5 r6 r8 r9 r10 r11 r13
 rintro ρ H3 ⟨r2,r3,r4,r5,r6,r8,r9,r10,r11,r13,GB,j,hS,sG2,hjx,b2,b3,b4,b5,b6,b8,b9⟩
 have hO2:cV (k+1) (if dn=true then dI aO s1 o else s1):=by
  split
  ·exact ov o hO1
  ·exact {hO1 with ver:=⟨hO1.ver.1,by have:=hO1.ver.2;omega⟩}
 obtain⟨s2,es2⟩:∃s2,(if dn=true then dI aO s1 o else s1)=s2:=⟨_,rfl⟩
 rw[es2]at hS hjx hbd hO2;have hdu:=DU hS o ho.1 ob aar dn (by have:=hO2.ncases;omega) ⟨fun c hc=>by have:=(hO2.case c hc).log2;omega,hO2.nrev,hO2.nnot⟩ hjx
 rw[←hbd]at hdu;simp only[opA,opC,az]at hdu;have c3:=hS.at n10_3.symm b3;have c8:=hS.at n10_8.symm b8;refine .one hU hm ?_;simp -implicitDefEqProofs only[go_sem,r3,r8,r10,r11,c3,c8];refine hdu.mono fun r H4 h4=> ?_
 simp -implicitDefEqProofs only[go_sem];clear c3 c8 hdu hS;have hat:(jE s o).2=0:=by
  unfold jE at ee⊢;split
  ·rename_i hc;rw[if_pos hc]at ee;exact HU ee
  ·rfl
 have hbl:(cQ s o).cases.length≤1000000:=by
  rw[hbd,wO];have:=hO2.ncases;omega
 obtain⟨x1,x2,x3,x4,k10,hOP,_,_⟩:=id h4;have hov:=Kj hOP.rd hbl;obtain⟨did,dset,dalg,dtgt,drules,dkids,dobls,hpd⟩:=Kq (cQ s o).policy;have hfz:∀H5,(∀q,GB q=none→H5 q=H4 q)→Frz g H5 (.agg (stC (cQ s o) x1 x2 x3 x4)) (cH (cQ s o)):=fun H5 hq=>((hOP.keep fun q hg _=>hq q hg).bH fun q hg=>by
  cases hh:g q with
  |none=>rfl
  |some b=>rw[sG2 _ _ hh]at hg;cases hg).frz
 rw[qn hpd]at k10 hov hfz;have c2:=h4.at n10_2.symm b2;have c3:=h4.at n10_3.symm b3;have c4:=h4.at n10_4.symm b4;have c5:=h4.at n10_5.symm b5;have c6:=h4.at n10_6.symm b6;have c8:=h4.at n10_8.symm b8;have c9:=h4.at n10_9.symm b9;have sg4:Ab.Sub g H4:=h4.sub sG2 q10;refine .one hU hm ?_;simp -implicitDefEqProofs only[go_sem,r10,k10];refine hov.pthen ?_;cases dov:qV (cQ s o)
 case true=>
  simp -implicitDefEqProofs only[go_sem,r2,r4,r5,r6,r13];exact⟨0,6,0,sg4,c2,c4,c5,c6,rfl,by rw[hat],by unfold bt;rw[if_neg (by rw[ee];simp),if_pos dov]⟩
 have hgd:bt s o=(cQ s o,⟨if dn=true then 0 else 12,m,gl,if(dn && o.kind==2 && !jr ob o.field)=true then dX (br s.cases o.case).fields o.field else ax,dn && o.kind==2 && jr ob o.field,0⟩,⟨o,s.version,m,gl,ob⟩,0):=by
  unfold bt;rw[if_neg (by rw[ee];simp),if_neg (by rw[dov];decide),hre,hmk,hgl]
 simp -implicitDefEqProofs only[go_sem];have p2:=(bz (H:=H4) (l:=[i2,i3,i8,i9,i10]) (show i2∈ [i2,i3,i8,i9,i10] by simp)).trans c2
 have p3:=(bz (H:=H4) (l:=[i2,i3,i8,i9,i10]) (show i3∈ [i2,i3,i8,i9,i10] by simp)).trans c3
 have p8:=(bz (H:=H4) (l:=[i2,i3,i8,i9,i10]) (show i8∈ [i2,i3,i8,i9,i10] by simp)).trans c8
 have p9:=(bz (H:=H4) (l:=[i2,i3,i8,i9,i10]) (show i9∈ [i2,i3,i8,i9,i10] by simp)).trans c9
 have p10:=(bz (H:=H4) (l:=[i2,i3,i8,i9,i10]) (show i10∈ [i2,i3,i8,i9,i10] by simp)).trans k10
 have t4:pick H4 [i2,i3,i8,i9,i10] i4=none:=by simp[pick,n4_2,n4_3,n8_4.symm,n9_4.symm,n10_4.symm]
 have t5:pick H4 [i2,i3,i8,i9,i10] i5=none:=by simp[pick,n5_2,n5_3,n8_5.symm,n9_5.symm,n10_5.symm]
 have t6:pick H4 [i2,i3,i8,i9,i10] i6=none:=by simp[pick,n6_2,n6_3,n8_6.symm,n9_6.symm,n10_6.symm]
 refine .one hU hm ?_;simp -implicitDefEqProofs only[go_sem];refine .calls (pick H4 [i2,i3,i8,i9,i10]) [0,1,2,3,4,5,6,7,8,9,10,11,12,13,14,15] bO aav rfl ?_;simp -implicitDefEqProofs only[go_sem,r2,r3,r4,r5,r6,r8,r9,r10,p2,p3,p8,p9,p10,c4,c5,c6,n5_4,n5_4.symm,n6_4,n6_4.symm,n6_5,n6_5.symm];refine⟨bO.put t4 _,(bO.put t4 _).put t5 _,((bO.put t4 _).put t5 _).put t6 _, ?_⟩;refine .mk _ (.refl _) (.refl _) ⟨((sg4.put q4 _).put q5 _).put q6 _,_, ?_,rfl⟩;rw[hgd,←qn hpd];exact zG (S:=cQ s o) ⟨if dn=true then 0 else 12,m,gl,if(dn && o.kind==2 && !jr ob o.field)=true then dX (br s.cases o.case).fields o.field else ax,dn && o.kind==2 && jr ob o.field,0⟩ ⟨o,s.version,m,gl,ob⟩ 0 (by
  rw[qn hpd];exact hfz _ fun q hq=>by
   have x6:q≠i6:=fun e=>by rw[e,b6]at hq;cases hq
   have x5:q≠i5:=fun e=>by rw[e,b5]at hq;cases hq
   have x4:q≠i4:=fun e=>by rw[e,b4]at hq;cases hq
   rw[ag _ _ x6,ag _ _ x5,ag _ _ x4]) .no
end Go.Proofs.YtcochaoekecfdaaGreatDoor
namespace Go.Ab
open Go
theorem M1(n:Nat)(hn:n<18446744073709551616):IntKind.u64.wrap (n:Int)=n:=N1 .u64 n rfl ad7
theorem Tb(n:Int):IntKind.u64.wrap n=((n % 18446744073709551616).toNat:Int):=by
 grind [Int.emod_nonneg,Int,IntKind.wrap,IntKind.signed,IntKind.bits]
theorem N2(n:Nat):IntKind.u64.wrap (n:Int)=((n % 18446744073709551616:Nat):Int):=by
 rfl
theorem DG(a b:Nat)(f:BitVec 64→BitVec 64→BitVec 64):IntKind.u64.wrap (((f (BitVec.ofInt IntKind.u64.bits (a:Int)) (BitVec.ofInt IntKind.u64.bits (b:Int))).toNat:Nat):Int)=((f (BitVec.ofNat 64 a) (BitVec.ofNat 64 b)).toNat:Int):=by
 exact M1 _ (f _ _).isLt
theorem Mw(a b k:Nat)(ha:a<2 ^ k)(hlt:a+b*2 ^ k<18446744073709551616):(BitVec.ofNat 64 a|||BitVec.ofNat 64 (b*2 ^ k)).toNat=a+b*2 ^ k:=by
 exact afd
theorem Mr(n:Nat)(hn:n<18446744073709551616):(BitVec.ofNat 64 18446744073709551615 ^^^ BitVec.ofNat 64 n).toNat=18446744073709551615 - n:=by
 have e:BitVec.ofNat 64 18446744073709551615 ^^^ BitVec.ofNat 64 n= ~~~ BitVec.ofNat 64 n:=by
  rfl
 rw[e,BitVec.toNat_not,BitVec.toNat_ofNat,Nat.mod_eq_of_lt aar]
section
variable {U : TypeId → TI} {ty : TypeId} {K : AV → Prop}
@[go_sem high] theorem Uq(n:Nat)(hn:n<18446744073709551616):unA .xor (.v (.int .u64 (n:Int))) K=K (.v (.int .u64 ((18446744073709551615 - n:Nat):Int))):=by
 have h:=(DG 18446744073709551615 n (· ^^^ ·)).trans (congrArg (fun z:Nat=>(z:Int)) (Mr n hn))
 exact(Bs ..).trans (congrArg (fun z=>K (.v (.int .u64 z))) h)
@[go_sem high] theorem TY(n:Int)(h1: -9223372036854775808≤n)(h2:n≤9223372036854775807):unA .xor (.i n) K=K (.i (-n - 1)):=by
 have e:(BitVec.ofInt 64 (-1) ^^^ BitVec.ofInt 64 n)= ~~~ BitVec.ofInt 64 n:=by
  rfl
 have e2:(((BitVec.ofInt 64 (-1) ^^^ BitVec.ofInt 64 n).toNat:Nat):Int)=(-n - 1) % 18446744073709551616:=by
  grind [BitVec.toNat_not,BitVec.ofInt,BitVec.toNat_ofInt]
 have h:IntKind.i64.wrap (((BitVec.ofInt 64 (-1) ^^^ BitVec.ofInt 64 n).toNat:Nat):Int)= -n - 1:=by
  grind [IntKind.wrap,IntKind.signed,IntKind.bits]
 exact(Bs ..).trans (congrArg (fun z=>K (.i z)) h)
theorem u64_and(n k:Nat)(hn:n<18446744073709551616)(hk:k≤63):ct U .and ty (.v (.int .u64 (n:Int))) (.v (.int .u64 ((2 ^ k - 1:Nat):Int))) K=K (.v (.int .u64 ((n % 2 ^ k:Nat):Int))):=by
 have h63:2 ^ k≤2 ^ 63:=Nat.pow_le_pow_right aau hk;have e:(BitVec.ofNat 64 n &&& BitVec.ofNat 64 (2 ^ k - 1)).toNat=n % 2 ^ k:=by
  grind [BitVec.toNat_and,BitVec.toNat_ofNat,Nat.mod_eq_of_lt,Nat.and_two_pow_sub_one_eq_mod]
 have h:=(DG n (2 ^ k - 1) (· &&& ·)).trans (congrArg (fun z:Nat=>(z:Int)) e)
 exact(I5 ..).trans (congrArg (fun z=>K (.v (.int .u64 z))) h)
@[go_sem high] theorem u64_or(a b k:Nat)(ha:a<2 ^ k)(hlt:a+b*2 ^ k<18446744073709551616):ct U .or ty (.v (.int .u64 (a:Int))) (.v (.int .u64 ((b*2 ^ k:Nat):Int))) K=K (.v (.int .u64 ((a+b*2 ^ k:Nat):Int))):=by
 have h:=(DG a (b*2 ^ k) (· ||| ·)).trans (congrArg (fun z:Nat=>(z:Int)) (Mw a b k ha hlt))
 exact(RF ..).trans (congrArg (fun z=>K (.v (.int .u64 z))) h)
theorem Bp(n k:Nat)(kk:IntKind)(hk:k≤63):ct U .shr ty (.v (.int .u64 (n:Int))) (.v (.int kk (k:Int))) K=K (.v (.int .u64 ((n / 2 ^ k:Nat):Int))):=by
 grind [I6,min,Int,IntKind.bits,Int.fdiv_eq_ediv_of_nonneg,Int.le_of_lt,Int.pow_pos]
@[go_sem high] theorem MV(n k:Nat)(kk:IntKind)(hk:k≤63):ct U .shl ty (.v (.int .u64 (n:Int))) (.v (.int kk (k:Int))) K=K (.v (.int .u64 ((n*2 ^ k % 18446744073709551616:Nat):Int))):=by
 rw[Nl];have:min (k:Int).toNat IntKind.u64.bits=k:=ad7;rw[this,show((n:Int)*2 ^ k)=((n*2 ^ k:Nat):Int) by simp,N2]
 exact propext ⟨fun h=>h.2,fun h=>⟨Int.natCast_nonneg k,h⟩⟩
@[go_sem high] theorem SV(m:Nat):ct U .shl ty (.v (.int .u64 (m:Int))) (.v (.int .u64 1)) K=K (.v (.int .u64 ((m*2 % 18446744073709551616:Nat):Int))):=MV m 1 .u64 aau
@[go_sem high] theorem SW(m:Nat):ct U .shr ty (.v (.int .u64 (m:Int))) (.v (.int .u64 1)) K=K (.v (.int .u64 ((m / 2:Nat):Int))):=Bp m 1 .u64 aau
@[go_sem high] theorem SX(m:Nat):ct U .shr ty (.v (.int .u64 (m:Int))) (.v (.int .u64 7)) K=K (.v (.int .u64 ((m / 128:Nat):Int))):=Bp m 7 .u64 aau
@[go_sem high] theorem SY(m:Nat):ct U .shr ty (.v (.int .u64 (m:Int))) (.v (.int .u64 8)) K=K (.v (.int .u64 ((m / 256:Nat):Int))):=Bp m 8 .u64 aau
@[go_sem high] theorem SU(m:Nat)(hm:m<18446744073709551616):ct U .and ty (.v (.int .u64 (m:Int))) (.v (.int .u64 1)) K=K (.v (.int .u64 ((m % 2:Nat):Int))):=u64_and m 1 hm aau
@[go_sem high] theorem PY(m:Nat)(hm:m<18446744073709551616):ct U .and ty (.v (.int .u64 (m:Int))) (.v (.int .u64 127)) K=K (.v (.int .u64 ((m % 128:Nat):Int))):=u64_and m 7 hm aau
@[go_sem high] theorem PZ(m:Nat)(hm:m<18446744073709551616):ct U .and ty (.v (.int .u64 (m:Int))) (.v (.int .u64 255)) K=K (.v (.int .u64 ((m % 256:Nat):Int))):=u64_and m 8 hm aau
@[go_sem high] theorem Iy(m:Nat)(hm:m<128):ct U .or ty (.v (.int .u64 (m:Int))) (.v (.int .u64 128)) K=K (.v (.int .u64 ((m+128:Nat):Int))):=u64_or m 1 7 hm aar
theorem wu8(n:Nat):IntKind.u8.wrap (n:Int)=((UInt8.ofNat n).toNat:Int):=by
 rfl
@[go_sem high] theorem Rk(c:UInt8):ct U .and ty (.v (.int .u8 (c.toNat:Int))) (.v (.int .u8 127)) K=K (.v (.int .u8 ((c.toNat % 128:Nat):Int))):=by
 have hc:=c.toNat_lt;have e:(BitVec.ofNat 8 c.toNat &&& BitVec.ofNat 8 127).toNat=c.toNat % 128:=by
  rw[BitVec.toNat_and,BitVec.toNat_ofNat,BitVec.toNat_ofNat,Nat.mod_eq_of_lt aar,Nat.mod_eq_of_lt aar];exact Nat.and_two_pow_sub_one_eq_mod c.toNat 7
 have h:IntKind.u8.wrap (((BitVec.ofInt IntKind.u8.bits (c.toNat:Int) &&& BitVec.ofInt IntKind.u8.bits 127).toNat:Nat):Int)=((c.toNat % 128:Nat):Int):=by
  grind [IntKind.wrap,IntKind.signed,IntKind.bits]
 exact(I5 ..).trans (congrArg (fun z=>K (.v (.int .u8 z))) h)
end
end Go.Ab
namespace Go.Proofs.YtcochaoekecfdaaGreatDoor
open Go Go.Ab Go.Bf
abbrev j5(h h' :Heap)(y:AV)(l:Txt):Prop:=Acc U 5 h h' y (l.map aL)
theorem u5n:(U 5).sz≠0:=aau
theorem Vp:(U 5).bytes≠0:=aau
theorem j5.frz{g h:Heap}{y:AV}{l:Txt}(ha:j5 g h y l):Frz g h y (.sl (l.map aL) .no):=by
 obtain⟨q,rfl⟩:=Acc.row ha;refine .sl _ _ _ rfl aar fun i h1 h2 j h3 h4=> .keep _ ?_
 simp only[aai,aL,AV.cells,List.getElem_singleton];exact acG
theorem j5.pure{f:FuncId}{args:List AV}{h:Heap}{l:Txt}(hf:∀g,Ab.Sub h g→ai Tryz.prog f args g fun r h' =>j5 g h' r l):ai Tryz.prog f args h fun r h' =>r= .sl (l.map aL) .no∧h' =h:=
 ai.freeze fun g hg _=>(hf g hg).mono fun r h' hr=>⟨hr.1,_,j5.frz hr,rfl⟩
theorem j5.app{g h:Heap}{y v:AV}{l m:Txt}{Q:AV→Heap→Prop}(ha:j5 g h y l)(hsrc:∀k:List AV→Prop,k (m.map aL)→gU U 5 h v k)(hlen:l.length+m.length≤140737488355328)
  (hk:∀y' h',j5 g h' y' (l++m)→Q y' h'):apK U h y v Q (.slice 5):=
 Acc.app ha u5n Vp hsrc (by grind [u5,iY]) (by grind [u5,iY]) (by grind [PX]) fun y' h' hy _=>hk y' h' aas
theorem zq(y:AV)(l:Txt)(h:Heap)(hb:By h y l)(hl:l.length≤140737488355328):
  ai Tryz.prog 92 [y] h fun r h' =>j5 h h' r l:=by
 refine aaq Tryz.func92 8 [.tmp 2] fun hwf=> ?_
 simp -implicitDefEqProofs only[go_sem];refine hb.SA fun b hbn=> ?_
 simp -implicitDefEqProofs only[go_sem];refine mV.intro (fun e=> ?_) (fun e=> ?_)
 ·have hl0:l= []:=Classical.byContradiction fun hh=>by grind
  subst hl0;simp -implicitDefEqProofs only[go_sem];exact .same (.refl _) (Acc.full (.refl _))
 ·simp -implicitDefEqProofs only[go_sem]
  rw[hb.src u5];simp -implicitDefEqProofs only[go_sem];refine⟨aar,fun hn=> ?_,fun hn=> ?_⟩
  ·have hl0:l= []:=by simp_all
   subst hl0;simp -implicitDefEqProofs only[go_sem];exact .same (.refl _) (Acc.full (.refl _))
  ·refine .own fun id hid=> ?_
   simp -implicitDefEqProofs only[go_sem];exact .same (.refl _) ⟨(Ab.Sub.refl h).new hid _,.inr ⟨id,hid,rfl,by rw[ah,u5,aah]⟩⟩
theorem Qa(n:Int)(hn:i64 n):∃m:Nat,IntKind.u64.wrap n=(m:Int)∧m<18446744073709551616∧(0≤n→m*2 % 18446744073709551616=zig n)∧(n<0→18446744073709551615 - m*2 % 18446744073709551616=zig n):=by
 unfold i64 at hn;refine⟨(n % 18446744073709551616).toNat,Tb n,aar,fun h=> ?_,fun h=> ?_⟩<;>unfold zig
 ·grind
 grind
theorem FT(y:AV)(l:Txt)(n:Int)(h:Heap)(hb:By h y l)(hl:l.length≤1000000)(hn:i64 n):
  ai Tryz.prog 56 [y,.i n] h fun r h' =>j5 h h' r (l++nX n):=by
 obtain⟨m,hm0,hm2,hm3,hm4⟩:=Qa n hn;have hz:=P9 hn;have hz64:=Ll hn;refine ai.of_wp hU Tryz.func56 rfl aaG 32 rfl [.tmp 4] rfl (aag rfl) ?_;refine .cut (fun ρ g=>g=h∧lk ρ 0=some y∧lk ρ 1=some (.i n)) (.vc hU hm ?_) ?_
 ·simp -implicitDefEqProofs only[go_sem]
  refine⟨rfl, ?_, ?_⟩<;>simp -implicitDefEqProofs only[go_sem]
 rintro ρ g ⟨rfl,r0,r1⟩
 refine .cut (fun ρ g' =>g' =g∧lk ρ 0=some y∧lk ρ 1=some (.i n)∧lk ρ 5=some (.v (.int .u64 ((m*2 % 18446744073709551616:Nat):Int)))) (.vc hU hm ?_) ?_
 ·simp -implicitDefEqProofs only[go_sem,r0,r1,hm0]
  refine⟨rfl, ?_, ?_, ?_⟩<;>simp -implicitDefEqProofs only[go_sem,r0,r1]
 clear r0 r1
 rintro ρ g' ⟨rfl,r0,r1,r5⟩
 refine .cut (fun ρ g=>g=g'∧lk ρ 0=some y∧lk ρ 5=some (.v (.int .u64 ((zig n:Nat):Int)))) (.vc hU hm ?_) ?_
 ·cases d1:decide (n<0)
  ·have h0:=aak d1
   simp -implicitDefEqProofs only[go_sem,r0,r1,r5,d1,hm3 aar];rw[←hm3 aar]at*;refine⟨rfl, ?_, ?_⟩<;>simp -implicitDefEqProofs only[go_sem,r0,r5]
  ·have h0:=aaj d1
   simp -implicitDefEqProofs only[go_sem,r0,r1,r5,d1,hm4 h0,show m*2 % 18446744073709551616<18446744073709551616 from aar]
   refine⟨rfl, ?_, ?_⟩<;>simp -implicitDefEqProofs only[go_sem,r0]
 clear r0 r1 r5 hm3 hm4
 rintro ρ g ⟨rfl,r0,r5⟩
 refine .vc hU hm ?_;simp -implicitDefEqProofs only[go_sem,r0,r5];refine(zq y l g hb aar).mono fun r h1 ha=> ?_
 simp -implicitDefEqProofs only[go_sem,r0,r5];refine .intro (fun k ρ h' =>∃(v:Nat) (o:Txt) (z:AV),j5 g h' z (l++o)∧o++uz k v=nX n∧v<128 ^ k∧v<18446744073709551616∧0<k∧o.length≤10∧lk ρ 5=some (.v (.int .u64 (v:Int)))∧lk ρ 6=some z) 10 ?_ ?_
 ·refine⟨zig n,[],r,aas,rfl,hz,hz64,aau,aaz, ?_, ?_⟩<;>simp -implicitDefEqProofs only[go_sem,r5]
 clear r0 r5
 rintro k ρ h' ⟨v,o,z,ha,ho,hv,hv64,hk,hol,r5,r6⟩
 obtain⟨k,rfl⟩:∃j,k=j+1:=⟨k - 1,aar⟩;have hlo:=congrArg List.length ho;rw[aal]at hlo;have hnl:=jv n;cases d1:decide ((128:Int)≤(v:Int))
 ·have h0:=aak d1
  have e:uz (k+1) v= [UInt8.ofNat v]:=by unfold uz;grind
  simp -implicitDefEqProofs only[go_sem,r5,r6,d1,wu8];refine j5.app ha (m:=[UInt8.ofNat v]) (fun _ hk=>hk) aas fun z' h2 ha' => ?_
  simp -implicitDefEqProofs only[go_sem];refine .same (.refl _) ?_;rw[←ho,e,←List.append_assoc];exact ha'
 ·have h0:=aaj d1
  have e:uz (k+1) v=UInt8.ofNat (v % 128+128)::uz k (v / 128):=by conv=>lhs;unfold uz;rw[if_neg aar]
  rw[e]at hlo ho;simp only[List.length_cons]at hlo;have hk1:0<k:=by
   grind
  simp -implicitDefEqProofs only[go_sem,r5,r6,d1,hv64,Iy _ (Nat.mod_lt v (show 128>0 by decide)),wu8]
  refine j5.app ha (m:=[UInt8.ofNat (v % 128+128)]) (fun _ hk=>hk) aas fun z' h2 ha' => ?_
  simp -implicitDefEqProofs only[go_sem,r5];refine⟨k,aar,v / 128,o++ [UInt8.ofNat (v % 128+128)],z', ?_, ?_, ?_,aar,hk1, ?_, ?_, ?_⟩
  ·grind
  ·grind
  ·omega
  ·grind
  ·rfl
  rfl
theorem Ba(y:AV)(l:Txt)(n:Int)(h:Heap)(hb:By h y l)(hl:l.length≤1000000)(hn:i64 n):
  ai Tryz.prog 56 [y,.i n] h fun r h' =>r= .sl ((l++nX n).map aL) .no∧h' =h:=
 j5.pure fun g hg=>FT y l n g (hb.sub hg) hl hn
theorem KT(y:AV)(l s:Txt)(h:Heap)(hb:By h y l)(hl:l.length≤1000000)(hs:s.length≤1000000):
  ai Tryz.prog 57 [y,.s s] h fun r h' =>j5 h h' r (l++fk s):=by
 have hn:i64 (s.length:Int):=⟨aar,aar⟩;refine aaq Tryz.func57 11 [.tmp 4] fun hwf=> ?_
 simp -implicitDefEqProofs only[go_sem];refine(FT y l s.length h hb hl hn).mono fun r h' ha=> ?_
 simp -implicitDefEqProofs only[go_sem];have hnl:=jv s.length;refine j5.app ha (m:=s) (fun _ hk=>(PJ ..).mpr ⟨aaG,u5,hk⟩) aas fun z' h2 ha' => ?_
 simp -implicitDefEqProofs only[go_sem];refine .same (.refl _) ?_;unfold fk;rw[←List.append_assoc];exact ha'
theorem wg(y:AV)(l s:Txt)(h:Heap)(hb:By h y l)(hl:l.length≤1000000)(hs:s.length≤1000000):
  ai Tryz.prog 57 [y,.s s] h fun r h' =>r= .sl ((l++fk s).map aL) .no∧h' =h:=
 j5.pure fun g hg=>KT y l s g (hb.sub hg) hl hs
theorem F1(y:AV)(l:Txt)(v:bw)(h:Heap)(hb:By h y l)(hl:l.length≤900000)(hk:i64 v.kind)(hn:i64 v.n)(hs:v.s.length≤1000000):
  ai Tryz.prog 58 [y,aQ v] h fun r h' =>r= .sl ((l++yA v).map aL) .no∧h' =h:=by
 have hnl:=jv v.kind;have hl2:(l++nX v.kind).length≤1000000:=aas;refine aaq Tryz.func58 20 [.tmp 4] fun hwf=> ?_
 simp -implicitDefEqProofs only[go_sem,aQ];intro id hid;simp -implicitDefEqProofs only[go_sem];refine(Ba y l v.kind _ (hb.new hid) aar hk).pthen ?_;simp -implicitDefEqProofs only[go_sem];refine(yw v.kind _).pthen ?_;simp -implicitDefEqProofs only[go_sem];cases d1:(v.kind==3||v.kind==5)
 ·have e:¬(v.kind=3∨v.kind=5):=by grind
  simp -implicitDefEqProofs only[go_sem];refine(Ba (.sl ((l++nX v.kind).map aL) .no) (l++nX v.kind) v.n _ (.sl _ _) hl2 hn).pthen ?_;simp -implicitDefEqProofs only[go_sem];refine .mk _ (.refl _) (.aj hid) ⟨?_,rfl⟩;unfold yA;rw[if_neg e,List.append_assoc];rfl
 ·have e:v.kind=3∨v.kind=5:=by grind
  simp -implicitDefEqProofs only[go_sem];refine(wg (.sl ((l++nX v.kind).map aL) .no) (l++nX v.kind) v.s _ (.sl _ _) hl2 hs).pthen ?_;simp -implicitDefEqProofs only[go_sem];refine .mk _ (.refl _) (.aj hid) ⟨?_,rfl⟩;unfold yA;rw[if_pos e,List.append_assoc];rfl
theorem Dn(b:Bool)(h:Heap):ai Tryz.prog 59 [.b b] h fun r h' =>r=aQ (eJ b)∧h' =h:=by
 refine aaq Tryz.func59 8 [.cell 2 30] fun hwf=> ?_
 simp -implicitDefEqProofs only[go_sem];intro i1 h1;simp -implicitDefEqProofs only[go_sem];intro i2 h2;have hne:=aF h2;have n2:=aB h2;cases b
 ·exact afH
 ·exact afH
def RO(s:RS):Blk:=.obj [.sl (s.b.map aL) .no,.i (s.at_:Int),.b s.bad] 176
def WfR(s:RS):Prop:=s.at_≤s.b.length∧s.b.length≤1000000
def RC(f:FuncId)(args:List AV)(s:RS)(R:AV)(s' :RS):Prop:=∀(h:Heap) (id:Nat),h id=some (RO s)→ai Tryz.prog f (.ptr id 0::args) h fun r h' =>r=R∧h' =upd h id (some (RO s'))
theorem RC.go{f:FuncId}{args:List AV}{s s' :RS}{R:AV}(hc:RC f args s R s'){h:Heap}{id:Nat}{Q:AV→Heap→Prop}(hid:h id=some (RO s))(k:Q R (upd h id (some (RO s')))):ai Tryz.prog f (.ptr id 0::args) h Q:=
 (hc h id hid).mono fun r h' ⟨e1,e2⟩=>ac0
theorem xW{s:RS}{a:Nat}(h:WfR s):WfR (kW s a):=by
 unfold kW;split
 ·rename_i hc
  exact⟨by have:=h.1;show a≤s.b.length;omega,h.2⟩
 omega
theorem xX:∀(f i u:Nat) (l:Txt),(uk f i u l).2≤i+l.length∧((uk f i u l).2=0∨i<(uk f i u l).2)
 |0,_,_,_=>⟨Nat.zero_le _,.inl rfl⟩
 |_+1,_,_,[]=>⟨Nat.zero_le _,.inl rfl⟩
 |f+1,i,u,c::r=>by
  unfold uk;split
  ·omega
  ·split
   ·simp
   ·obtain⟨h1,h2⟩:=xX f (i+1) (u+c.toNat % 128*128 ^ i) r
    grind
theorem kT{s:RS}{lo hi:Int}(h:WfR s):WfR (rIn s lo hi).2:=by
 unfold rIn;split
 ·exact h
 ·simp only
  split
  ·exact xW h
  ·have:=(xX 10 0 0 (s.b.drop s.at_)).1
   exact⟨aas,h.2⟩
theorem nJ(s:RS)(a:Nat):RC 110 [.i (a:Int)] s (.tup []) (kW s a):=fun h id hid=>by
 refine aaq Tryz.func110 28 [] fun hwf=> ?_
 have g:=hid;have d0:decide ((0:Int)≤(a:Int))=true:=decide_eq_true aar;unfold RO at g;cases d1:s.bad
 ·rw[d1]at g
  cases d2:decide ((a:Int)≤(s.at_:Int))
  ·have h2:=aak d2
   simp -implicitDefEqProofs only[go_sem,g,d0,d2];exact .mk _ (.refl _) (.refl _) ⟨rfl,by simp_all [kW,if_neg,bB]⟩
  ·have h2:=aaj d2
   simp -implicitDefEqProofs only[go_sem,g,d0,d2];exact .mk _ (.refl _) (.refl _) ⟨rfl,by rw[kW,if_pos ⟨d1,aar⟩];rfl⟩
 ·rw[d1]at g
  simp -implicitDefEqProofs only[go_sem,g];exact .mk _ (.refl _) (.refl _) ⟨rfl,by simp_all [kW,if_neg,bB]⟩
theorem I3(s:RS):RC 111 [] s (.i (s.at_:Int)) s:=fun h id hid=>by
 refine aaq Tryz.func111 7 [.tmp 2] fun hwf=> ?_
 have g:=hid;unfold RO at g;simp -implicitDefEqProofs only[go_sem,g];exact ac6
theorem yG(s:RS):RC 112 [] s (.i (if s.bad then 7 else 0)) s:=fun h id hid=>by
 refine aaq Tryz.func112 7 [.tmp 2] fun hwf=> ?_
 have g:=hid;unfold RO at g;cases d1:s.bad<;>rw[d1]at g<;>simp -implicitDefEqProofs only[go_sem,g]<;>exact .mk _ (.refl _) (.refl _) ⟨rfl,(bB hid).symm⟩
theorem OV(s:RS):RC 65 [] s (.i (if Ku s then 0 else 7)) s:=fun h id hid=>by
 refine aaq Tryz.func65 15 [.tmp 2] fun hwf=> ?_
 have g:=hid;unfold RO at g;cases d1:decide ((s.at_:Int)<(s.b.length:Int))
 ·have h1:=aak d1
  simp -implicitDefEqProofs only[go_sem,g,aah,d1];refine⟨.of aav, ?_⟩;refine(yG s).go hid ?_;rw[bB hid];simp -implicitDefEqProofs only[go_sem];refine .mk _ (.refl _) (.refl _) ⟨?_,rfl⟩;unfold Ku;rw[decide_eq_true (show s.b.length≤s.at_ by omega)]
  cases s.bad<;>rfl
 ·have h1:=aaj d1
  simp -implicitDefEqProofs only[go_sem,g,aah,d1];refine⟨.of aav, ?_⟩;refine .mk _ (.refl _) (.refl _) ⟨?_,(bB hid).symm⟩;unfold Ku;rw[decide_eq_false (show¬s.b.length≤s.at_ by omega)]
  rfl
theorem ME(y:AV)(l:Txt)(h:Heap)(hb:By h y l)(hl:l.length≤1000000):
  ai Tryz.prog 60 [y] h fun r h' =>∃id,h id=none∧r= .ptr id 0∧h' =upd h id (some (RO ⟨l,0,false⟩)):=by
 refine aaq Tryz.func60 7 [.tmp 2] fun hwf=> ?_
 simp -implicitDefEqProofs only[go_sem];refine(j5.pure fun g hg=>zq y l g (hb.sub hg) aar).pthen ?_
 simp -implicitDefEqProofs only[go_sem];intro id hid;simp -implicitDefEqProofs only[go_sem];exact .mk _ (.refl _) (.refl _) ⟨id,hid,rfl,rfl⟩
theorem HN(s:RS)(hw:WfR s)(h:Heap)(id:Nat)(hid:h id=some (RO s)):
  ai Tryz.prog 158 [.ptr id 0] h fun r h' =>r= .tup [.v (.int .i64 (uk 10 0 0 (s.b.drop s.at_)).1),.i ((uk 10 0 0 (s.b.drop s.at_)).2:Nat)]∧h' =h:=by
 refine aaq Tryz.func158 74 [.tmp 2,.tmp 3] fun hwf=> ?_
 have hw1:=hw.1;have hw2:=hw.2;have g:=hid;unfold RO at g;simp -implicitDefEqProofs only[go_sem];generalize hx:uk 10 0 0 (s.b.drop s.at_)=x;refine .intro (fun k ρ h' =>h' =h∧∃(i u:Nat),k+i=10∧uk k i u (s.b.drop (s.at_+i))=x∧u<128 ^ i∧lk ρ 0=some (.ptr id 0)∧lk ρ 4=some (.v (.int .u64 (u:Int)))∧lk ρ 5=some (.i (i:Int))) 10 ?_ ?_
 ·refine⟨rfl,0,0,rfl,hx,aau, ?_, ?_, ?_⟩<;>simp -implicitDefEqProofs only[go_sem]
  all_goals rfl
 rintro k ρ h' ⟨rfl,i,u,hki,hr,hu,r0,r4,r5⟩
 rcases k with _|k
 ·have d1:decide ((i:Int)<10)=false:=decide_eq_false aar
  simp -implicitDefEqProofs only[go_sem,r0,r4,r5,d1];exact⟨.of aav,.mk _ (.refl _) (.refl _) ⟨acw,rfl⟩⟩
 have d1:decide ((i:Int)<10)=true:=decide_eq_true aar;have w1:IntKind.i64.wrap ((s.at_:Int)+(i:Int))=((s.at_+i:Nat):Int):=aaV;have w2:=aan i aar
 by_cases hc:s.at_+i<s.b.length
 case neg=>
  have d2:decide (((s.at_+i:Nat):Int)<(s.b.length:Int))=false:=decide_eq_false aar;simp -implicitDefEqProofs only[go_sem,r0,r4,r5,d1,g,w1,aah,d2];rw[List.drop_eq_nil_of_le aar]at hr;exact⟨.of aav,.mk _ (.refl _) (.refl _) ⟨acw,rfl⟩⟩
 have d2:decide (((s.at_+i:Nat):Int)<(s.b.length:Int))=true:=decide_eq_true aar;rw[List.drop_eq_getElem_cons hc]at hr;generalize hcc:s.b[s.at_+i]=c at hr;simp -implicitDefEqProofs only[go_sem,r0,r4,r5,d1,g,w1,aah,d2];refine⟨.of aav,.of aav, ?_⟩;refine .at (s.at_+i) (by simpa using hc) aaH ?_
 simp -implicitDefEqProofs only[go_sem,r0,r4,r5,aai,hcc,aL];have hclt:=c.toNat_lt;have pw:(2:Nat) ^ (7*i)=128 ^ i:=by rw[Nat.pow_mul]
 have p9:(128:Nat) ^ 9=9223372036854775808:=aau;unfold uk at hr
 by_cases hb:(i=9∧1<c.toNat)∨(0<i∧c.toNat=0)
 ·rw[if_pos hb]at hr
  by_cases h9:i=9∧1<c.toNat
  ·have d3:((i:Int)==9)=true:=by simp;omega
   have d4:decide ((1:Int)<(c.toNat:Int))=true:=decide_eq_true aar;simp -implicitDefEqProofs only[go_sem,r0,r4,r5,d3,d4];exact .mk _ (.refl _) (.refl _) ⟨acw,rfl⟩
  ·have hb:0<i∧c.toNat=0:=by omega
   have d4:decide ((1:Int)<(c.toNat:Int))=false:=decide_eq_false aar;have d5:decide ((0:Int)<(i:Int))=true:=decide_eq_true aar;have d6:((c.toNat:Int)==0)=true:=aa7;cases d3:((i:Int)==9)<;>simp -implicitDefEqProofs only[go_sem,r0,r4,r5,d3,d4,d5,d6]<;>exact .mk _ (.refl _) (.refl _) ⟨acw,rfl⟩
 rw[if_neg hb]at hr;have hi9:i≤9:=aar;have hle:c.toNat % 128*128 ^ i+u<18446744073709551616:=by
  by_cases e9:i=9
  ·subst e9
   rw[p9]at hu⊢;omega
  ·have h1:(128:Nat) ^ i≤128 ^ 8:=Nat.pow_le_pow_right aau aar
   have h2:(128:Nat) ^ 8=72057594037927936:=aau;exact af8
 have w3:IntKind.u64.wrap ((c.toNat % 128:Nat):Int)=((c.toNat % 128:Nat):Int):=M1 _ aar;have w4:IntKind.i64.wrap ((7:Int)*(i:Int))=((7*i:Nat):Int):=aaV;have w5:IntKind.u64.wrap ((7*i:Nat):Int)=((7*i:Nat):Int):=M1 _ aar;have h63:7*i≤63:=aar;have hu' :u<2 ^ (7*i):=by rw[pw];exact hu
 have hor:u+c.toNat % 128*2 ^ (7*i)<18446744073709551616:=by rw[pw];omega
 have wS:c.toNat % 128*2 ^ (7*i) % 18446744073709551616=c.toNat % 128*2 ^ (7*i):=Nat.mod_eq_of_lt aar;have three:(i=9∧c.toNat≤1∧c.toNat≠0)∨(i<9∧0<i∧c.toNat≠0)∨i=0:=aar;cases d7:decide ((c.toNat:Int)<128)
 ·have h7:=aak d7
  rw[if_neg aar]at hr;have hnew:u+c.toNat % 128*2 ^ (7*i)<128 ^ (i+1):=by
   rw[pw,Nat.pow_succ];exact af8
  rw[←pw,Nat.add_assoc]at hr;generalize hU' :u+c.toNat % 128*2 ^ (7*i)=u' at hr hnew hor;rcases three with⟨t1,t2,t3⟩|⟨t1,t2,t3⟩|t1
  ·have d3:((i:Int)==9)=true:=by simp;omega
   have d4:decide ((1:Int)<(c.toNat:Int))=false:=decide_eq_false aar;have d5:decide ((0:Int)<(i:Int))=true:=decide_eq_true aar;have d6:((c.toNat:Int)==0)=false:=aa7;simp -implicitDefEqProofs only[go_sem,r0,r4,r5,d3,d4,d5,d6,w3,w4,w5,h63,wS,hu',hU',hor,d7,w2];refine⟨k,aar,rfl,i+1,u',aar,hr,hnew, ?_, ?_, ?_⟩<;>simp -implicitDefEqProofs only[go_sem,r0]
  ·have d3:((i:Int)==9)=false:=by simp;omega
   have d5:decide ((0:Int)<(i:Int))=true:=decide_eq_true aar;have d6:((c.toNat:Int)==0)=false:=aa7;simp -implicitDefEqProofs only[go_sem,r0,r4,r5,d3,d5,d6,w3,w4,w5,h63,wS,hu',hU',hor,d7,w2];refine⟨k,aar,rfl,i+1,u',aar,hr,hnew, ?_, ?_, ?_⟩<;>simp -implicitDefEqProofs only[go_sem,r0]
  ·have d3:((i:Int)==9)=false:=by simp;omega
   have d5:decide ((0:Int)<(i:Int))=false:=decide_eq_false aar;simp -implicitDefEqProofs only[go_sem,r0,r4,r5,d3,d5,w3,w4,w5,h63,wS,hu',hU',hor,d7,w2];refine⟨k,aar,rfl,i+1,u',aar,hr,hnew, ?_, ?_, ?_⟩<;>simp -implicitDefEqProofs only[go_sem,r0]
 ·have h7:=aaj d7
  rw[if_pos aar]at hr;have ec:c.toNat % 128=c.toNat:=aar;rw[←pw]at hr;have hU0:u+c.toNat*2 ^ (7*i)=u+c.toNat % 128*2 ^ (7*i):=by rw[ec]
  rw[hU0]at hr;generalize hU' :u+c.toNat % 128*2 ^ (7*i)=u' at hr hor;have w6:IntKind.i64.wrap ((u' / 2:Nat):Int)=((u' / 2:Nat):Int):=bg _ aar;have b1:(-9223372036854775808:Int)≤((u' / 2:Nat):Int):=aar;have b2:((u' / 2:Nat):Int)≤9223372036854775807:=aar;have un:unzig u' =if u' % 2=1 then -((u' / 2:Nat):Int) - 1 else((u' / 2:Nat):Int):=rfl
  cases d8:(((u' % 2:Nat):Int)==1)
  ·have h8:¬u' % 2=1:=by intro hh;rw[hh]at d8;cases d8
   rw[if_neg h8]at un;rw[un]at hr;rcases three with⟨t1,t2,t3⟩|⟨t1,t2,t3⟩|t1
   ·have d3:((i:Int)==9)=true:=by simp;omega
    have d4:decide ((1:Int)<(c.toNat:Int))=false:=decide_eq_false aar;have d5:decide ((0:Int)<(i:Int))=true:=decide_eq_true aar;have d6:((c.toNat:Int)==0)=false:=aa7;simp -implicitDefEqProofs only[go_sem,r0,r4,r5,d3,d4,d5,d6,w3,w4,w5,h63,wS,hu',hU',hor,d7,w6,d8,w2];exact .mk _ (.refl _) (.refl _) ⟨acw,rfl⟩
   ·have d3:((i:Int)==9)=false:=by simp;omega
    have d5:decide ((0:Int)<(i:Int))=true:=decide_eq_true aar;have d6:((c.toNat:Int)==0)=false:=aa7;simp -implicitDefEqProofs only[go_sem,r0,r4,r5,d3,d5,d6,w3,w4,w5,h63,wS,hu',hU',hor,d7,w6,d8,w2];exact .mk _ (.refl _) (.refl _) ⟨acw,rfl⟩
   ·have d3:((i:Int)==9)=false:=by simp;omega
    have d5:decide ((0:Int)<(i:Int))=false:=decide_eq_false aar;simp -implicitDefEqProofs only[go_sem,r0,r4,r5,d3,d5,w3,w4,w5,h63,wS,hu',hU',hor,d7,w6,d8,w2];exact .mk _ (.refl _) (.refl _) ⟨acw,rfl⟩
  ·have h8:u' % 2=1:=by have:=eq_of_beq d8;omega
   rw[if_pos h8]at un;rw[un]at hr;rcases three with⟨t1,t2,t3⟩|⟨t1,t2,t3⟩|t1
   ·have d3:((i:Int)==9)=true:=by simp;omega
    have d4:decide ((1:Int)<(c.toNat:Int))=false:=decide_eq_false aar;have d5:decide ((0:Int)<(i:Int))=true:=decide_eq_true aar;have d6:((c.toNat:Int)==0)=false:=aa7;simp -implicitDefEqProofs only[go_sem,r0,r4,r5,d3,d4,d5,d6,w3,w4,w5,h63,wS,hu',hU',hor,d7,w6,d8,b1,b2,w2];exact .mk _ (.refl _) (.refl _) ⟨acw,rfl⟩
   ·have d3:((i:Int)==9)=false:=by simp;omega
    have d5:decide ((0:Int)<(i:Int))=true:=decide_eq_true aar;have d6:((c.toNat:Int)==0)=false:=aa7;simp -implicitDefEqProofs only[go_sem,r0,r4,r5,d3,d5,d6,w3,w4,w5,h63,wS,hu',hU',hor,d7,w6,d8,b1,b2,w2];exact .mk _ (.refl _) (.refl _) ⟨acw,rfl⟩
   ·have d3:((i:Int)==9)=false:=by simp;omega
    have d5:decide ((0:Int)<(i:Int))=false:=decide_eq_false aar;simp -implicitDefEqProofs only[go_sem,r0,r4,r5,d3,d5,w3,w4,w5,h63,wS,hu',hU',hor,d7,w6,d8,b1,b2,w2];exact .mk _ (.refl _) (.refl _) ⟨acw,rfl⟩
theorem RC.step{f:FuncId}{args:List AV}{s s' :RS}{R:AV}(hc:RC f args s R s'){h:Heap}{id:Nat}{Q:AV→Heap→Prop}(hid:h id=some (RO s))
  (k:∀h2,h2=upd h id (some (RO s'))→h2 id=some (RO s')→(∀b,upd h2 id b=upd h id b)→Q R h2):ai Tryz.prog f (.ptr id 0::args) h Q:=
 hc.go hid (k _ rfl (ah ..) fun b=>by
  grind [ah,ag])
theorem Cl(s:RS)(hw:WfR s)(lo hi:Int):RC 109 [.i lo,.i hi] s (.v (.int .i64 (rIn s lo hi).1)) (rIn s lo hi).2:=fun h id hid=>by
 have hw1:=hw.1;have hw2:=hw.2;refine aaq Tryz.func109 45 [.tmp 6] fun hwf=> ?_
 have g:=hid;unfold RO at g;cases d1:s.bad
 case true=>
  rw[d1]at g;simp -implicitDefEqProofs only[go_sem,g];exact .mk _ (.refl _) (.refl _) ⟨by rw[rIn,if_pos d1];rfl,by rw[rIn,if_pos d1,bB hid]⟩
 have e:rIn s lo hi=(let x:=uk 10 0 0 (s.b.drop s.at_);if x.2=0∨x.1<lo∨hi<x.1 then(0,kW s s.at_)else(x.1,{s with at_:=s.at_+x.2})):=by
  simp_all [rIn,if_neg]
 rw[d1]at g;simp -implicitDefEqProofs only[go_sem,g];refine(HN s hw h id hid).pthen ?_;have hlen:=(xX 10 0 0 (s.b.drop s.at_)).1;rw[List.length_drop]at hlen;generalize uk 10 0 0 (s.b.drop s.at_)=x at e hlen⊢;obtain⟨n,z⟩:=x;simp only at e hlen⊢
 by_cases hb:z=0∨n<lo∨hi<n
 ·rw[if_pos hb]at e
  rw[e];have fin:∀P:Prop,P→P:=fun _ p=>p
  rcases Decidable.em (z=0)with c1|c1
  ·have d2:((z:Int)==0)=true:=by grind
   simp -implicitDefEqProofs only[go_sem,g,d2];refine(nJ s s.at_).go hid ?_;exact ae1
  have d2:((z:Int)==0)=false:=aas;rcases Decidable.em (n<lo)with c2|c2
  ·simp -implicitDefEqProofs only[go_sem,g,d2,decide_eq_true c2]
   refine(nJ s s.at_).go hid ?_;exact ae1
  ·simp -implicitDefEqProofs only[go_sem,g,d2,decide_eq_false c2,decide_eq_true (show hi<n by omega)]
   refine(nJ s s.at_).go hid ?_;exact ae1
 ·rw[if_neg hb]at e
  rw[e];have d2:((z:Int)==0)=false:=aas;have w1:IntKind.i64.wrap ((s.at_:Int)+(z:Int))=((s.at_+z:Nat):Int):=aaE;simp -implicitDefEqProofs only[go_sem,g,d2,decide_eq_false (show¬n<lo by omega),decide_eq_false (show¬hi<n by omega),w1]
  exact .mk _ (.refl _) (.refl _) ⟨rfl,by grind [RO]⟩
theorem Ej(s:RS)(hw:WfR s):RC 61 [] s (.v (.int .i64 (fX s).1)) (fX s).2:=fun h id hid=>by
 refine aaq Tryz.func61 5 [.tmp 2] fun hwf=> ?_
 simp -implicitDefEqProofs only[go_sem];refine(Cl s hw _ _).go hid ?_;exact ae1
theorem Bh{s:RS}{lo hi:Int}(hw:WfR s)(h0:lo≤0)(h1:0≤hi):lo≤(rIn s lo hi).1∧(rIn s lo hi).1≤hi:=by
 grind [rIn]
theorem gm{s:RS}{most:Int}(hw:WfR s)(hm:0≤most):WfR (bT s most).2:=by
 have h1:=kT (lo:=0) (hi:=most) hw;have h2:=Bh (lo:=0) (hi:=most) hw (Int.le_refl 0) hm;unfold bT;simp only;split
 ·exact xW h1
 ·exact⟨aas,h1.2⟩
theorem oA(s:RS)(hw:WfR s)(most:Int)(hmo:0≤most):RC 62 [.i most] s (.s (bT s most).1) (bT s most).2:=fun h id hid=>by
 have hx:=kT (lo:=0) (hi:=most) hw;have hx2:=Bh (lo:=0) (hi:=most) hw (Int.le_refl 0) hmo;refine aaq Tryz.func62 59 [.tmp 4] fun hwf=> ?_
 have g:=hid;unfold RO at g;simp -implicitDefEqProofs only[go_sem,g];refine(Cl s hw 0 most).step hid ?_;have e:bT s most=(let x:=rIn s 0 most;if x.2.bad∨(x.2.b.length:Int) - x.2.at_<x.1 then([],kW x.2 s.at_)else((x.2.b.drop x.2.at_).take x.1.toNat,{x.2 with at_:=x.2.at_+x.1.toNat})):=rfl
 generalize rIn s 0 most=x at e hx hx2⊢;obtain⟨n,t⟩:=x;simp only at e hx hx2⊢;obtain⟨m,rfl⟩:=Int.eq_ofNat_of_zero_le hx2.1;have ht1:=hx.1;have ht2:=hx.2;intro h2 eh2 hid2 hup;have g2:=hid2;unfold RO at g2;have w1:IntKind.i64.wrap ((t.b.length:Int) - (t.at_:Int))=(t.b.length:Int) - (t.at_:Int):=bg _ aar;clear eh2 hid g
 by_cases hb:t.bad=true∨(t.b.length:Int) - t.at_<((m:Nat):Int)
 ·rw[if_pos hb]at e
  rw[e];cases d1:t.bad<;>rw[d1]at g2
  ·have hb:(t.b.length:Int) - t.at_<((m:Nat):Int):=by
    grind
   simp -implicitDefEqProofs only[go_sem,g2,w1,aah,decide_eq_true hb];exact afp
  ·simp -implicitDefEqProofs only[go_sem,g2]
   exact afp
 ·rw[if_neg hb]at e
  rw[e];have d1:t.bad=false:=by
   grind
  rw[d1]at g2;have hle:t.at_+m≤t.b.length:=aar;have w2:IntKind.i64.wrap ((t.at_:Int)+(m:Int))=((t.at_+m:Nat):Int):=aaE;have w3:IntKind.i64.wrap (((t.at_+m:Nat):Int) - (m:Int))=(t.at_:Int):=aaE;simp -implicitDefEqProofs only[go_sem,g2,w1,aah,decide_eq_false (show¬(t.b.length:Int) - t.at_<((m:Nat):Int) by omega)]
  refine⟨.of aav, ?_⟩;simp -implicitDefEqProofs only[go_sem,g2,w2,w3,aah];exact⟨.of aav,aar,aar,aar,.mk _ (.refl _) (.refl _) ⟨by rw[show t.at_+m - t.at_=m by omega];rfl,by grind [RO]⟩⟩
structure RAt (h0:Heap) (id:Nat) (h:Heap) (s:RS):Prop where
 here:h id=some (RO s)
 sub:∀j b,j≠id→h0 j=some b→h j=some b
theorem RAt.start{h:Heap}{id:Nat}{s:RS}(hid:h id=some (RO s)):RAt h id h s:=⟨hid,fun _ _ _ e=>e⟩
theorem RAt.fin{h0 h:Heap}{id:Nat}{s:RS}(hr:RAt h0 id h s):Ab.Sub (upd h0 id (some (RO s))) h:=fun j b e=>by
 by_cases hj:j=id
 ·subst hj;rw[ah]at e;rw[hr.here,e]
 ·rw[ag _ _ hj]at e;exact hr.sub j b hj e
theorem RAt.ne{h0 h:Heap}{id i:Nat}{s:RS}(hr:RAt h0 id h s)(hi:h i=none):i≠id:=fun e=>by rw[e,hr.here]at hi;grind
theorem RAt.none{h0 h:Heap}{id i:Nat}{s:RS}(hr:RAt h0 id h s)(hi:h i=Option.none):h0 i=Option.none:=by
 cases e:h0 i with
 |none=>rfl
 |some b=>rw[hr.sub i b (hr.ne hi) e]at hi;omega
theorem RAt.put{h0 h:Heap}{id i:Nat}{s:RS}{b:Option Blk}(hr:RAt h0 id h s)(hi:h0 i=Option.none)(hn:i≠id):RAt h0 id (upd h i b) s:=
 ⟨by rw[ag _ _ (Ne.symm hn)];exact hr.here,fun j c hj e=>by
  rw[ag _ _ fun e2=>aas]
  exact hr.sub j c hj e⟩
theorem RAt.step{f:FuncId}{args:List AV}{s s' :RS}{R:AV}{h0 h:Heap}{id:Nat}{Q:AV→Heap→Prop}(hr:RAt h0 id h s)(hc:RC f args s R s')(k:∀h2,RAt h0 id h2 s'→(∀j,j≠id→h2 j=h j)→Q R h2):ai Tryz.prog f (.ptr id 0::args) h Q:=
 hc.go hr.here (k _ ⟨ah ..,fun j b hj e=>by rw[ag _ _ hj];exact hr.sub j b hj e⟩ fun j hj=>ag _ _ hj)
theorem F4{s:RS}(hw:WfR s):WfR (qO s).2:=by
 have h1:=kT (lo:=1) (hi:=5) hw;unfold qO;simp only;generalize rIn s 1 5=x at h1⊢;have h2:WfR (if sv x.1=true then((⟨x.1,0,(bT x.2 64).1⟩,(bT x.2 64).2):bw×RS)else(⟨x.1,(fX x.2).1,[]⟩,(fX x.2).2)).2:=by
  split
  ·grind [gm]
  ·exact kT h1
 generalize (if sv x.1=true then((⟨x.1,0,(bT x.2 64).1⟩,(bT x.2 64).2):bw×RS)else(⟨x.1,(fX x.2).1,[]⟩,(fX x.2).2))=y at h2⊢
 split
 ·exact aet
 ·split
  ·exact xW h2
  ·exact aet
theorem E4(s:RS)(hw:WfR s):RC 64 [] s (aQ (qO s).1) (qO s).2:=fun h id hid=>by
 have hw1:=kT (lo:=1) (hi:=5) hw;refine aaq Tryz.func64 31 [.cell 2 30] fun hwf=> ?_
 simp -implicitDefEqProofs only[go_sem];intro i1 h1;have a0:=RAt.start hid;have n1:=a0.ne h1;have m1:=a0.none h1;have a1:=a0.put (b:=some (.obj [.i 0,.i 0,.s []] 30)) m1 n1;simp -implicitDefEqProofs only[go_sem];refine a1.step (I3 s) fun g1 b1 k1=> ?_
 have c1:=k1 i1 n1;rw[ah]at c1;clear a0 a1 k1;simp -implicitDefEqProofs only[go_sem];refine b1.step (Cl s hw 1 5) fun g2 b2 k2=> ?_
 have c2:=(k2 i1 n1).trans c1;clear b1 c1 k2;simp -implicitDefEqProofs only[go_sem];intro i2 h2;have n2:=b2.ne h2;have m2:=b2.none h2;have n21:i2≠i1:=fun e=>by rw[e,c2]at h2;cases h2
 have e:qO s=(let x:=rIn s 1 5;let y:bw×RS:=if sv x.1 then(let t:=bT x.2 64;(⟨x.1,0,t.1⟩,t.2))else(let t:=fX x.2;(⟨x.1,t.1,[]⟩,t.2));if y.2.bad then(ax,y.2)else if bF y.1=false then(ax,kW y.2 s.at_)else y):=rfl
 generalize rIn s 1 5=x at e hw1 b2⊢;obtain⟨kd,t⟩:=x;simp only at e hw1 b2⊢;have b3:=b2.put (b:=some (.obj [.i kd,.i 0,.s []] 30)) m2 n2;have c3:upd g2 i2 (some (.obj [.i kd,.i 0,.s []] 30)) i1=_:=(ag _ _ (Ne.symm n21)).trans c2;have d3:upd g2 i2 (some (.obj [.i kd,.i 0,.s []] 30)) i2=_:=ah ..;clear b2 c2 h2;simp -implicitDefEqProofs only[go_sem,ah];generalize upd g2 i2 (some (.obj [.i kd,.i 0,.s []] 30))=g3 at b3 c3 d3⊢;refine(yw kd _).pthen ?_;simp -implicitDefEqProofs only[go_sem];cases dt:(kd==3||kd==5)
 ·have et:sv kd=false:=dt
  rw[et]at e;simp only[Bool.false_eq_true,if_false]at e;simp -implicitDefEqProofs only[go_sem];refine b3.step (Ej t hw1) fun g4 b4 k4=> ?_
  have c4:=(k4 i1 n1).trans c3;have d4:=(k4 i2 n2).trans d3;have e5:qO s=(if(fX t).2.bad then(ax,(fX t).2)else if bF (⟨kd,(fX t).1,[]⟩:bw)=false then(ax,kW (fX t).2 s.at_)else((⟨kd,(fX t).1,[]⟩:bw),(fX t).2)):=e
  have wT:WfR (fX t).2:=kT hw1;have b5:=b4.put (b:=(some (.obj [.i kd,.v (.int .i64 (fX t).1),.s []] 30))) m2 n2;have c5:upd g4 i2 (some (.obj [.i kd,.v (.int .i64 (fX t).1),.s []] 30)) i1=_:=(ag _ _ (Ne.symm n21)).trans c4;have d5:upd g4 i2 (some (.obj [.i kd,.v (.int .i64 (fX t).1),.s []] 30)) i2=_:=ah ..;simp -implicitDefEqProofs only[go_sem,d4];generalize upd g4 i2 (some (.obj [.i kd,.v (.int .i64 (fX t).1),.s []] 30))=g5 at b5 c5 d5⊢;clear b4 c4 d4 k4 e;refine b5.step (yG _) fun g6 b6 k6=> ?_
  have c6:=(k6 i1 n1).trans c5;have d6:=(k6 i2 n2).trans d5;clear b5 c5 d5 k6;cases db:(fX t).2.bad
  ·rw[db,if_neg aau]at e5
   simp -implicitDefEqProofs only[go_sem,db,d6];refine(fT (⟨kd,(fX t).1,[]⟩:bw) g6).pthen ?_;cases dv:bF (⟨kd,(fX t).1,[]⟩:bw)
   ·exact afc
   ·exact afX
  ·exact afY
 ·have et:sv kd=true:=dt
  rw[et]at e;simp only[if_true]at e;simp -implicitDefEqProofs only[go_sem];refine b3.step (oA t hw1 64 aau) fun g4 b4 k4=> ?_
  have c4:=(k4 i1 n1).trans c3;have d4:=(k4 i2 n2).trans d3;have e5:qO s=(if(bT t 64).2.bad then(ax,(bT t 64).2)else if bF (⟨kd,0,(bT t 64).1⟩:bw)=false then(ax,kW (bT t 64).2 s.at_)else((⟨kd,0,(bT t 64).1⟩:bw),(bT t 64).2)):=e
  have wT:WfR (bT t 64).2:=gm hw1 aau;have b5:=b4.put (b:=(some (.obj [.i kd,.i 0,.s (bT t 64).1] 30))) m2 n2;have c5:upd g4 i2 (some (.obj [.i kd,.i 0,.s (bT t 64).1] 30)) i1=_:=(ag _ _ (Ne.symm n21)).trans c4;have d5:upd g4 i2 (some (.obj [.i kd,.i 0,.s (bT t 64).1] 30)) i2=_:=ah ..;simp -implicitDefEqProofs only[go_sem,d4];generalize upd g4 i2 (some (.obj [.i kd,.i 0,.s (bT t 64).1] 30))=g5 at b5 c5 d5⊢;clear b4 c4 d4 k4 e;refine b5.step (yG _) fun g6 b6 k6=> ?_
  have c6:=(k6 i1 n1).trans c5;have d6:=(k6 i2 n2).trans d5;clear b5 c5 d5 k6;cases db:(bT t 64).2.bad
  ·rw[db,if_neg aau]at e5
   simp -implicitDefEqProofs only[go_sem,db,d6];refine(fT (⟨kd,0,(bT t 64).1⟩:bw) g6).pthen ?_;cases dv:bF (⟨kd,0,(bT t 64).1⟩:bw)
   ·exact afc
   ·exact afX
  ·exact afY
theorem F3{s:RS}(hw:WfR s):WfR (qN s).2:=by
 grind [qN,kT,F4]
theorem Ph(s:RS)(hw:WfR s)(q:Perm):RC 63 [.sl (s.b.map aL) q] s (aQ (qN s).1) (qN s).2:=fun h id hid=>by
 have hw1:=hw.1;have hw2:=hw.2;refine aaq Tryz.func63 25 [.cell 4 30] fun hwf=> ?_
 simp -implicitDefEqProofs only[go_sem];intro i1 h1;have a0:=RAt.start hid;have n1:=a0.ne h1;have m1:=a0.none h1;have a1:=a0.put (b:=some (.obj [.i 0,.i 0,.s []] 30)) m1 n1;simp -implicitDefEqProofs only[go_sem];refine a1.step (I3 s) fun g1 b1 k1=> ?_
 have c1:=k1 i1 n1;rw[ah]at c1;clear a0 a1 k1
 by_cases hlt:s.at_<s.b.length
 ·have d1:decide ((s.at_:Int)<(s.b.length:Int))=true:=decide_eq_true aar
  simp -implicitDefEqProofs only[go_sem,aah,d1];refine b1.step (I3 s) fun g2 b2 k2=> ?_
  have c2:=(k2 i1 n1).trans c1;clear b1 c1 k2;simp -implicitDefEqProofs only[go_sem];refine .at s.at_ aas aaH ?_;have hg:s.b.getD s.at_ 0=s.b[s.at_]:=aas;generalize hcc:s.b[s.at_]=c at hg;cases d2:((c.toNat:Int)==0)
  ·have hne:c≠0:=fun e=>by simp_all
   have e:qN s=qO s:=by simp_all [qN,if_neg]
   rw[e];simp -implicitDefEqProofs only[go_sem,aai,hcc,aL,d2];refine b2.step (E4 s hw) fun g3 b3 k3=> ?_
   have c3:=(k3 i1 n1).trans c2;simp -implicitDefEqProofs only[go_sem,c3,ah,aQ];exact ac9
  ·have he:c=0:=by
    have:=eq_of_beq d2;exact UInt8.toNat_inj.1 aas
   have e:qN s=(ax,(rIn (rIn s 0 0).2 0 0).2):=by simp_all [qN,if_pos]
   rw[e];simp -implicitDefEqProofs only[go_sem,aai,hcc,aL,d2];refine b2.step (Cl s hw 0 0) fun g3 b3 k3=> ?_
   have c3:=(k3 i1 n1).trans c2;simp -implicitDefEqProofs only[go_sem];refine b3.step (Cl _ (kT hw) 0 0) fun g4 b4 k4=> ?_
   have c4:=(k4 i1 n1).trans c3;simp -implicitDefEqProofs only[go_sem,c4,ah];exact .mk _ (.refl _) (b4.put m1 n1).fin ⟨rfl,rfl⟩
 ·have d1:decide ((s.at_:Int)<(s.b.length:Int))=false:=decide_eq_false aar
  have e:qN s=qO s:=by simp_all [qN,if_neg]
  rw[e];simp -implicitDefEqProofs only[go_sem,aah,d1];refine b1.step (E4 s hw) fun g3 b3 k3=> ?_
  have c3:=(k3 i1 n1).trans c1;simp -implicitDefEqProofs only[go_sem,c3,ah,aQ];exact ac9
theorem BK(a b:Txt)(p q:Perm)(h:Heap):ai Tryz.prog 66 [.sl (a.map aL) p,.sl (b.map aL) q] h fun r h' =>r= .b (decide (a=b))∧h' =h:=by
 refine aaq Tryz.func66 10 [.tmp 4] fun hwf=> ?_
 simp -implicitDefEqProofs only[go_sem];exact .same (.refl _) ⟨by
  grind [au],rfl⟩
structure OpL (o:OpD):Prop where
 subj:o.subj.length≤100000
 case:o.case.length≤100000
 field:o.field.length≤100000
 to:o.to.length≤100000
 val:o.val.s.length≤100000
 text:o.text.length≤100000
 reason:o.reason.length≤100000
def opT(o:OpD):List Txt:=[o.subj,o.case,o.field,o.to]
theorem Kt(o:OpD)(h64:vB o)(hl:OpL o)(h:Heap):ai Tryz.prog 23 [opA o] h fun r h' =>r= .sl ((uj o).map aL) .no∧h' =h:=by
 obtain⟨k1,k2,k3,k4⟩:=h64;have hnk:=jv o.kind;obtain⟨l1,l2,l3,l4,l5,l6,l7⟩:=hl;have t1:=fE o.subj;have t2:=fE o.case;have t3:=fE o.field;have t4:=fE o.to;refine aaq Tryz.func23 46 [.tmp 2] fun hwf=> ?_
 simp -implicitDefEqProofs only[go_sem,opA,opC];intro id hid;simp -implicitDefEqProofs only[go_sem];refine(Ba (.sl [] .full) [] o.kind _ (.nil _) aaz k1).pthen ?_;simp -implicitDefEqProofs only[go_sem];generalize hH:upd h id _=H;have hHid:H id=some (.obj (opC o) 32):=by rw[←hH];exact ah ..
 have hsub:Ab.Sub h H:=by rw[←hH];exact(Sub.refl h).new hid _
 unfold opC at hHid;clear hH;refine .intro (fun m ρ h' =>h' =H∧∃i:Nat,i≤4∧m=4 - i∧lk ρ 1=some (.ptr id 0)∧lk ρ 3=some (.sl ((nX o.kind++(((opT o).map fk).take i).flatten).map aL) .no)∧(∃q,lk ρ 17=some (.sl ((opT o).map .s) q))∧lk ρ 18=some (.i 4)∧lk ρ 19=some (.i i)) 4 ?_ ?_
 ·refine⟨rfl,0,aar,rfl, ?_, ?_, ?_, ?_, ?_⟩
  ·rfl
  ·simp -implicitDefEqProofs only[go_sem]
   simp
  ·refine⟨?_, ?_⟩
   rotate_left
   ·simp -implicitDefEqProofs only[go_sem]
    rfl
  ·rfl
  rfl
 rintro m ρ h' ⟨rfl,i,hi,rfl,r1,r3,⟨q,r17⟩,r18,r19⟩
 have hLl:((opT o).map fk).length=4:=rfl;have hOl:(opT o).length=4:=rfl;have hF:((opT o).map fk).flatten.length≤400040:=by grind [opT]
 have hf:=nL ((opT o).map fk) i;have hall:∀t∈opT o,t.length≤100000:=by simp_all [opT]
 by_cases hc:i<4
 ·have d1:decide ((i:Int)<4)=true:=decide_eq_true aar
  have w1:IntKind.i64.wrap ((i:Int)+1)=((i+1:Nat):Int):=aaE;have hs:=mP ((opT o).map fk) i aar;rw[aai]at hs;have ht:=hall _ (aam (show i<(opT o).length by omega))
  simp -implicitDefEqProofs only[go_sem,r1,r3,r17,r18,r19,d1];refine .at i aas aaH ?_;simp -implicitDefEqProofs only[go_sem,r1,r3,r17,r18,r19,aai];refine(wg _ (nX o.kind++(((opT o).map fk).take i).flatten) (opT o)[i] _ (.sl _ _) aas aar).pthen ?_;simp -implicitDefEqProofs only[go_sem,r1,r3,r17,r18,r19,w1];refine⟨3 - i,aar,rfl,i+1,aar,aar, ?_, ?_,⟨q, ?_⟩, ?_, ?_⟩
  ·simp -implicitDefEqProofs only[go_sem,r1]
  ·simp -implicitDefEqProofs only[go_sem,hs,List.append_assoc]
   rfl
  ·simp -implicitDefEqProofs only[go_sem,r17]
  ·simp -implicitDefEqProofs only[go_sem,r18]
  ·simp -implicitDefEqProofs only[go_sem]
 ·have e:i=4:=by omega
  subst e;have e4:(((opT o).map fk).take 4).flatten=fk o.subj++(fk o.case++(fk o.field++fk o.to)):=by simp[opT]
  rw[e4]at r3 hf;have d1:decide ((4:Int)<4)=false:=rfl;generalize hP:nX o.kind++(fk o.subj++(fk o.case++(fk o.field++fk o.to)))=P1 at r3;have hP1:P1.length≤400050:=aas;simp -implicitDefEqProofs only[go_sem,r1,r3,r17,r18,r19,hHid,d1];refine .quiet aav ?_;simp -implicitDefEqProofs only[go_sem,r1,r3,r17,r18,r19,hHid,d1];refine⟨_,F1 _ P1 o.val _ (.sl _ _) aar k2 k3 aar, ?_⟩;have e2:(yA o.val).length≤100020:=by
   grind [yA,aal,jv,fE]
  simp -implicitDefEqProofs only[go_sem,r1,hHid];refine⟨_,Ba _ (P1++yA o.val) o.review _ (.sl _ _) aas k4, ?_⟩;generalize hP2:P1++yA o.val++nX o.review=P2;have hP2l:P2.length≤500080:=by
   grind [jv,aal]
  simp -implicitDefEqProofs only[go_sem,r1,hHid];refine .quiet aav ?_;simp -implicitDefEqProofs only[go_sem,r1,hHid];refine⟨_,wg _ P2 o.text _ (.sl _ _) aar aar, ?_⟩;have e3:=fE o.text;simp -implicitDefEqProofs only[go_sem,r1,hHid];refine⟨_,wg _ (P2++fk o.text) o.reason _ (.sl _ _) aas aar, ?_⟩;generalize hP3:P2++fk o.text++fk o.reason=P3;have e4:=fE o.reason;have hP3l:P3.length≤800000:=aas;simp -implicitDefEqProofs only[go_sem,r1,hHid];refine(Dn o.glass _).pthen ?_;simp -implicitDefEqProofs only[go_sem];refine(F1 _ P3 (eJ o.glass) _ (.sl _ _) aar ?_ ?_ ?_).pthen ?_
  ·cases o.glass<;>exact⟨aau,aau⟩
  ·cases o.glass<;>exact⟨aau,aau⟩
  ·cases o.glass<;>decide
  simp -implicitDefEqProofs only[go_sem];refine .mk _ (.refl _) hsub ⟨?_,rfl⟩
  grind [uj,List.append_assoc,au]
theorem j5.base{h H g:Heap}{y:AV}{l:Txt}(hs:Ab.Sub h H)(ha:j5 H g y l):j5 h g y l:=by
 obtain⟨h1,h2|⟨id,i1,h2,h3⟩⟩:=ha
 ·exact⟨hs.trans h1,.inl h2⟩
 ·exact⟨hs.trans h1,.inr ⟨id,hs.none i1,h2,h3⟩⟩
theorem MF(ch:BitVec 64)(o:OpD)(h64:vB o)(hl:OpL o)(hp:(uj o).length≤1000000)(h:Heap):ai Tryz.prog 18 [.v (.int .u64 (ch.toNat:Int)),opA o] h fun r h' =>j5 h h' r (gG ch o):=by
 refine aaq Tryz.func18 20 [.tmp 4] fun hwf=> ?_
 simp -implicitDefEqProofs only[go_sem,opA,opC];intro id hid;generalize hH:upd h id _=H;have hHid:H id=some (.obj (opC o) 32):=by rw[←hH];exact ah ..
 have hsub:Ab.Sub h H:=by rw[←hH];exact(Sub.refl h).new hid _
 clear hH;simp -implicitDefEqProofs only[go_sem];refine .intro (fun k ρ g=>∃(i:Nat) (v:BitVec 64) (l:Txt) (z:AV),j5 H g z l∧i+k=8∧l++pF k v=pF 8 ch∧lk ρ 0=some (.v (.int .u64 (v.toNat:Int)))∧lk ρ 3=some (.ptr id 0)∧lk ρ 5=some z∧lk ρ 6=some (.i (i:Int))) 8 ?_ ?_
 ·refine⟨0,ch,[],_,Acc.full (.refl _),rfl,rfl, ?_, ?_, ?_, ?_⟩<;>simp -implicitDefEqProofs only[go_sem]
  all_goals rfl
 rintro k ρ g ⟨i,v,l,z,ha,hk,hv,r0,r3,r5,r6⟩
 have hll:=congrArg List.length hv;rw[aal,qx,qx]at hll;rcases k with _|k
 ·have d1:decide ((i:Int)<8)=false:=decide_eq_false aar
  have hg:=ha.1 _ _ hHid;unfold opC at hg;rw[show pF 0 v= []from rfl,List.append_nil]at hv
  subst hv;simp -implicitDefEqProofs only[go_sem,r0,r3,r5,r6,d1,hg];refine(Kt o h64 hl g).pthen ?_;simp -implicitDefEqProofs only[go_sem];refine j5.app ha (m:=uj o) (fun _ hk=>hk) aar fun z' h2 ha' => ?_
  simp -implicitDefEqProofs only[go_sem];exact .same (.refl _) (ha'.base hsub)
 ·have d1:decide ((i:Int)<8)=true:=decide_eq_true aar
  have w1:IntKind.i64.wrap ((i:Int)+1)=((i+1:Nat):Int):=aaE;simp -implicitDefEqProofs only[go_sem,r0,r3,r5,r6,d1,wu8];refine j5.app ha (m:=[UInt8.ofNat v.toNat]) (fun _ hk=>hk) aas fun z' h2 ha' => ?_
  have e8:v.toNat / 256=(v>>>8).toNat:=acO;simp -implicitDefEqProofs only[go_sem,r0,r3,r5,r6,w1,e8];refine⟨k,aar,i+1,v>>>8,l++ [UInt8.ofNat v.toNat],z',ha',aar, ?_, ?_, ?_, ?_, ?_⟩
  ·grind [pF]
  all_goals simp -implicitDefEqProofs only[go_sem,r3]
theorem Bl(ch:BitVec 64)(o:OpD)(h64:vB o)(hl:OpL o)(hp:(uj o).length≤1000000)(h:Heap):ai Tryz.prog 18 [.v (.int .u64 (ch.toNat:Int)),opA o] h fun r h' =>r= .sl ((gG ch o).map aL) .no∧h' =h:=
 j5.pure fun g _=>MF ch o h64 hl hp g
theorem sU{s:RS}(hw:WfR s):i64 (fX s).1:=Bh hw aau aau
theorem Gp:i64 ax.kind∧i64 ax.n:=⟨⟨aau,aau⟩,⟨aau,aau⟩⟩
theorem F2{s:RS}{a:Nat}:(kW s a).b=s.b:=by grind [kW]
theorem NO{s:RS}{lo hi:Int}:(rIn s lo hi).2.b=s.b:=by
 grind [rIn,F2]
theorem vV{s:RS}{m:Int}:(bT s m).2.b=s.b:=by
 grind [bT,F2,NO]
theorem MA{s:RS}(hw:WfR s):i64 (qO s).1.kind∧i64 (qO s).1.n:=by
 have hz:=Gp;have h1:=kT (lo:=1) (hi:=5) hw;have h2: -1≤(rIn s 1 5).1∧(rIn s 1 5).1≤5:=by
  grind [rIn]
 unfold qO;simp only;generalize rIn s 1 5=x at h1 h2⊢;have h3:i64 (if sv x.1=true then((⟨x.1,0,(bT x.2 64).1⟩,(bT x.2 64).2):bw×RS)else(⟨x.1,(fX x.2).1,[]⟩,(fX x.2).2)).1.kind∧i64 (if sv x.1=true then((⟨x.1,0,(bT x.2 64).1⟩,(bT x.2 64).2):bw×RS)else(⟨x.1,(fX x.2).1,[]⟩,(fX x.2).2)).1.n:=by
  split
  ·exact⟨⟨aas,aas⟩,⟨aaz,aaz⟩⟩
  ·exact⟨⟨aas,aas⟩,sU h1⟩
 generalize (if sv x.1=true then((⟨x.1,0,(bT x.2 64).1⟩,(bT x.2 64).2):bw×RS)else(⟨x.1,(fX x.2).1,[]⟩,(fX x.2).2))=y at h3⊢
 split
 ·exact hz
 ·split
  ·exact hz
  ·exact h3
theorem Bi{s:RS}(hw:WfR s):i64 (qN s).1.kind∧i64 (qN s).1.n:=by
 grind [qN,Gp,MA]
def tV:OpD:=⟨0,[],[],[],[],ax,0,[],[],false⟩
def Hp(l:Txt):AV:=.tup [opA ((oR l).getD tV),.v (.bool (oR l).isSome)]
theorem PB(l:Txt):rOp l=(let k:=fX ⟨l,0,false⟩;let s1:=bT k.2 16;let s2:=bT s1.2 16;let s3:=bT s2.2 16;let s4:=bT s3.2 16;let v:=qN s4.2;let r:=fX v.2;let t:=bT r.2 4096;let w:=bT t.2 64;let g:=qO w.2
 (⟨k.1,s1.1,s2.1,s3.1,s4.1,v.1,r.1,t.1,w.1,eqV g.1 (eJ true)⟩,g.2)):=rfl
theorem f_l{o:OpD}(h:OpF o):OpL o:=by
 obtain⟨a,b,c,d,e,f,g⟩:=h;refine⟨aar,aar,aar,aar, ?_,aar,aar⟩;rcases e with e|e
 ·rw[e];decide
 ·by_cases hk:o.val.kind=3∨o.val.kind=5
  ·have:=(Aq e hk).2;omega
  grind [IB]
theorem RAt.base{h g:Heap}{id:Nat}{s:RS}(hr:RAt h id g s)(hn:h id=Option.none):Ab.Sub h g:=fun j b e=>hr.sub j b aas e
set_option maxHeartbeats 1000000 in
theorem JD(l:Txt)(q:Perm)(hl:l.length≤1000000)(h:Heap):ai Tryz.prog 24 [.sl (l.map aL) q] h fun r h' =>r=Hp l∧h' =h:=by
 refine aaq Tryz.func24 58 [.cell 2 32,.tmp 3] fun hwf=> ?_
 simp -implicitDefEqProofs only[go_sem];intro i1 h1;simp -implicitDefEqProofs only[go_sem];refine(ME _ l _ (.sl _ _) hl).mono fun r g ⟨id,hid,er,eg⟩=> ?_
 subst er;have n1:i1≠id:=fun e=>aeq
 have m0:h id=none:=by simp_all [ag,Ne.symm]
 have w0:WfR ⟨l,0,false⟩:=⟨Nat.zero_le _,hl⟩;have b0:RAt h id g ⟨l,0,false⟩:=⟨by simp_all [ah],fun j b hj e=>by
  rw[eg,ag _ _ hj,ag _ _ fun e2=>aas]
  exact e⟩
 have c0:g i1=some (.obj (opC tV) 32):=by rw[eg,ag _ _ n1];exact ah ..
 clear eg hid;simp -implicitDefEqProofs only[go_sem];intro i2 h2;have n2:=b0.ne h2;have m1:=h1;have m2:=b0.none h2;have n21:i2≠i1:=fun e=>aas
 clear h2;have e:=PB l;simp only at e;have g0e:g=g:=rfl;generalize g=g0 at b0 c0⊢;clear g0e;simp -implicitDefEqProofs only[go_sem];have b0' :=b0.put (b:=(some (.obj [.i 0,.s [],.s [],.s [],.s [],.i 0,.i 0,.s [],.i 0,.s [],.s [],.b false] 32))) m2 n2;have c0' :upd g0 i2 (some (.obj [.i 0,.s [],.s [],.s [],.s [],.i 0,.i 0,.s [],.i 0,.s [],.s [],.b false] 32)) i1=_:=(ag _ _ (Ne.symm n21)).trans c0;have d0' :upd g0 i2 (some (.obj [.i 0,.s [],.s [],.s [],.s [],.i 0,.i 0,.s [],.i 0,.s [],.s [],.b false] 32)) i2=_:=ah ..;clear b0 c0;generalize upd g0 i2 (some (.obj [.i 0,.s [],.s [],.s [],.s [],.i 0,.i 0,.s [],.i 0,.s [],.s [],.b false] 32))=g1 at b0' c0' d0'⊢;have b1:=b0';have c1:=c0';have d1:=d0';clear b0' c0' d0';refine b1.step (Ej _ w0) fun g2 b2 k2=> ?_
 have c2:=(k2 i1 n1).trans c1;have d2:=(k2 i2 n2).trans d1;clear b1 c1 d1 k2;have w1:=kT (lo:= -9223372036854775808) (hi:=9223372036854775807) w0;have q1:=sU w0
 change WfR (fX _).2 at w1
 have hb1:(fX ⟨l,0,false⟩).2.b=l:=NO;generalize fX ⟨l,0,false⟩=x1 at e w1 q1 hb1 b2⊢;obtain⟨v1,s1⟩:=x1;simp only at e w1 q1 hb1 b2⊢;simp -implicitDefEqProofs only[go_sem,d2,ah];have b2' :=b2.put (b:=(some (.obj [.i v1,.s [],.s [],.s [],.s [],.i 0,.i 0,.s [],.i 0,.s [],.s [],.b false] 32))) m2 n2;have c2' :upd g2 i2 (some (.obj [.i v1,.s [],.s [],.s [],.s [],.i 0,.i 0,.s [],.i 0,.s [],.s [],.b false] 32)) i1=_:=(ag _ _ (Ne.symm n21)).trans c2;have d2' :upd g2 i2 (some (.obj [.i v1,.s [],.s [],.s [],.s [],.i 0,.i 0,.s [],.i 0,.s [],.s [],.b false] 32)) i2=_:=ah ..;clear b2 c2 d2;generalize upd g2 i2 (some (.obj [.i v1,.s [],.s [],.s [],.s [],.i 0,.i 0,.s [],.i 0,.s [],.s [],.b false] 32))=g3 at b2' c2' d2'⊢;have b3:=b2';have c3:=c2';have d3:=d2';clear b2' c2' d2';refine b3.step (oA _ w1 16 aau) fun g4 b4 k4=> ?_
 have c4:=(k4 i1 n1).trans c3;have d4:=(k4 i2 n2).trans d3;clear b3 c3 d3 k4;have w2:=gm (most:=16) w1 aau;have hb2:(bT s1 16).2.b=l:=vV.trans hb1;generalize bT s1 16=x2 at e w2 hb2 b4⊢;obtain⟨v2,s2⟩:=x2;simp only at e w2 hb2 b4⊢;simp -implicitDefEqProofs only[go_sem];refine b4.step (oA _ w2 16 aau) fun g5 b5 k5=> ?_
 have c5:=(k5 i1 n1).trans c4;have d5:=(k5 i2 n2).trans d4;clear b4 c4 d4 k5;have w3:=gm (most:=16) w2 aau;have hb3:(bT s2 16).2.b=l:=vV.trans hb2;generalize bT s2 16=x3 at e w3 hb3 b5⊢;obtain⟨v3,s3⟩:=x3;simp only at e w3 hb3 b5⊢;simp -implicitDefEqProofs only[go_sem];refine b5.step (oA _ w3 16 aau) fun g6 b6 k6=> ?_
 have c6:=(k6 i1 n1).trans c5;have d6:=(k6 i2 n2).trans d5;clear b5 c5 d5 k6;have w4:=gm (most:=16) w3 aau;have hb4:(bT s3 16).2.b=l:=vV.trans hb3;generalize bT s3 16=x4 at e w4 hb4 b6⊢;obtain⟨v4,s4⟩:=x4;simp only at e w4 hb4 b6⊢;simp -implicitDefEqProofs only[go_sem];refine b6.step (oA _ w4 16 aau) fun g7 b7 k7=> ?_
 have c7:=(k7 i1 n1).trans c6;have d7:=(k7 i2 n2).trans d6;clear b6 c6 d6 k7;have w5:=gm (most:=16) w4 aau;have hb5:(bT s4 16).2.b=l:=vV.trans hb4;generalize bT s4 16=x5 at e w5 hb5 b7⊢;obtain⟨v5,s5⟩:=x5;simp only at e w5 hb5 b7⊢;simp -implicitDefEqProofs only[go_sem,d7,ah];have b7' :=b7.put (b:=(some (.obj [.i v1,.s v2,.s v3,.s v4,.s v5,.i 0,.i 0,.s [],.i 0,.s [],.s [],.b false] 32))) m2 n2;have c7' :upd g7 i2 (some (.obj [.i v1,.s v2,.s v3,.s v4,.s v5,.i 0,.i 0,.s [],.i 0,.s [],.s [],.b false] 32)) i1=_:=(ag _ _ (Ne.symm n21)).trans c7;have d7' :upd g7 i2 (some (.obj [.i v1,.s v2,.s v3,.s v4,.s v5,.i 0,.i 0,.s [],.i 0,.s [],.s [],.b false] 32)) i2=_:=ah ..;clear b7 c7 d7;generalize upd g7 i2 (some (.obj [.i v1,.s v2,.s v3,.s v4,.s v5,.i 0,.i 0,.s [],.i 0,.s [],.s [],.b false] 32))=g8 at b7' c7' d7'⊢;have b8:=b7';have c8:=c7';have d8:=d7';clear b7' c7' d7';rw[show l.map aL=s5.b.map aL by grind]
 refine b8.step (Ph _ w5 _) fun g9 b9 k9=> ?_
 have c9:=(k9 i1 n1).trans c8;have d9:=(k9 i2 n2).trans d8;clear b8 c8 d8 k9;have w6:=F3 w5;have q6:=Bi w5;generalize qN s5=x6 at e w6 q6 b9⊢;obtain⟨v6,s6⟩:=x6;simp only at e w6 q6 b9⊢;simp -implicitDefEqProofs only[go_sem,d9,ah,aQ];have b9' :=b9.put (b:=(some (.obj [.i v1,.s v2,.s v3,.s v4,.s v5,.i v6.kind,.i v6.n,.s v6.s,.i 0,.s [],.s [],.b false] 32))) m2 n2;have c9' :upd g9 i2 (some (.obj [.i v1,.s v2,.s v3,.s v4,.s v5,.i v6.kind,.i v6.n,.s v6.s,.i 0,.s [],.s [],.b false] 32)) i1=_:=(ag _ _ (Ne.symm n21)).trans c9;have d9' :upd g9 i2 (some (.obj [.i v1,.s v2,.s v3,.s v4,.s v5,.i v6.kind,.i v6.n,.s v6.s,.i 0,.s [],.s [],.b false] 32)) i2=_:=ah ..;clear b9 c9 d9;generalize upd g9 i2 (some (.obj [.i v1,.s v2,.s v3,.s v4,.s v5,.i v6.kind,.i v6.n,.s v6.s,.i 0,.s [],.s [],.b false] 32))=g10 at b9' c9' d9'⊢;have b10:=b9';have c10:=c9';have d10:=d9';clear b9' c9' d9';refine b10.step (Ej _ w6) fun g11 b11 k11=> ?_
 have c11:=(k11 i1 n1).trans c10;have d11:=(k11 i2 n2).trans d10;clear b10 c10 d10 k11;have w7:=kT (lo:= -9223372036854775808) (hi:=9223372036854775807) w6;have q7:=sU w6
 change WfR (fX _).2 at w7
 generalize fX s6=x7 at e w7 q7 b11⊢;obtain⟨v7,s7⟩:=x7;simp only at e w7 q7 b11⊢;simp -implicitDefEqProofs only[go_sem,d11,ah];have b11' :=b11.put (b:=(some (.obj [.i v1,.s v2,.s v3,.s v4,.s v5,.i v6.kind,.i v6.n,.s v6.s,.i v7,.s [],.s [],.b false] 32))) m2 n2;have c11' :upd g11 i2 (some (.obj [.i v1,.s v2,.s v3,.s v4,.s v5,.i v6.kind,.i v6.n,.s v6.s,.i v7,.s [],.s [],.b false] 32)) i1=_:=(ag _ _ (Ne.symm n21)).trans c11;have d11' :upd g11 i2 (some (.obj [.i v1,.s v2,.s v3,.s v4,.s v5,.i v6.kind,.i v6.n,.s v6.s,.i v7,.s [],.s [],.b false] 32)) i2=_:=ah ..;clear b11 c11 d11;generalize upd g11 i2 (some (.obj [.i v1,.s v2,.s v3,.s v4,.s v5,.i v6.kind,.i v6.n,.s v6.s,.i v7,.s [],.s [],.b false] 32))=g12 at b11' c11' d11'⊢;have b12:=b11';have c12:=c11';have d12:=d11';clear b11' c11' d11';refine b12.step (oA _ w7 4096 aau) fun g13 b13 k13=> ?_
 have c13:=(k13 i1 n1).trans c12;have d13:=(k13 i2 n2).trans d12;clear b12 c12 d12 k13;have w8:=gm (most:=4096) w7 aau;generalize bT s7 4096=x8 at e w8 b13⊢;obtain⟨v8,s8⟩:=x8;simp only at e w8 b13⊢;simp -implicitDefEqProofs only[go_sem];refine b13.step (oA _ w8 64 aau) fun g14 b14 k14=> ?_
 have c14:=(k14 i1 n1).trans c13;have d14:=(k14 i2 n2).trans d13;clear b13 c13 d13 k14;have w9:=gm (most:=64) w8 aau;generalize bT s8 64=x9 at e w9 b14⊢;obtain⟨v9,s9⟩:=x9;simp only at e w9 b14⊢;simp -implicitDefEqProofs only[go_sem,d14,ah];have b14' :=b14.put (b:=(some (.obj [.i v1,.s v2,.s v3,.s v4,.s v5,.i v6.kind,.i v6.n,.s v6.s,.i v7,.s v8,.s v9,.b false] 32))) m2 n2;have c14' :upd g14 i2 (some (.obj [.i v1,.s v2,.s v3,.s v4,.s v5,.i v6.kind,.i v6.n,.s v6.s,.i v7,.s v8,.s v9,.b false] 32)) i1=_:=(ag _ _ (Ne.symm n21)).trans c14;have d14' :upd g14 i2 (some (.obj [.i v1,.s v2,.s v3,.s v4,.s v5,.i v6.kind,.i v6.n,.s v6.s,.i v7,.s v8,.s v9,.b false] 32)) i2=_:=ah ..;clear b14 c14 d14;generalize upd g14 i2 (some (.obj [.i v1,.s v2,.s v3,.s v4,.s v5,.i v6.kind,.i v6.n,.s v6.s,.i v7,.s v8,.s v9,.b false] 32))=g15 at b14' c14' d14'⊢;have b15:=b14';have c15:=c14';have d15:=d14';clear b14' c14' d14';refine b15.step (E4 _ w9) fun g16 b16 k16=> ?_
 have c16:=(k16 i1 n1).trans c15;have d16:=(k16 i2 n2).trans d15;clear b15 c15 d15 k16;have w10:=F4 w9;generalize qO s9=x10 at e w10 b16⊢;obtain⟨v10,s10⟩:=x10;simp only at e w10 b16⊢;simp -implicitDefEqProofs only[go_sem];refine(Dn true _).pthen ?_;simp -implicitDefEqProofs only[go_sem,d16,ah,aQ,eJ];generalize hgl:(v10.kind==1 && (v10.n==1 && v10.s== []))=gl;have egl:eqV v10 (eJ true)=gl:=hgl;rw[egl]at e;clear egl hgl;have b16' :=b16.put (b:=(some (.obj [.i v1,.s v2,.s v3,.s v4,.s v5,.i v6.kind,.i v6.n,.s v6.s,.i v7,.s v8,.s v9,.b gl] 32))) m2 n2;have c16' :upd g16 i2 (some (.obj [.i v1,.s v2,.s v3,.s v4,.s v5,.i v6.kind,.i v6.n,.s v6.s,.i v7,.s v8,.s v9,.b gl] 32)) i1=_:=(ag _ _ (Ne.symm n21)).trans c16;have d16' :upd g16 i2 (some (.obj [.i v1,.s v2,.s v3,.s v4,.s v5,.i v6.kind,.i v6.n,.s v6.s,.i v7,.s v8,.s v9,.b gl] 32)) i2=_:=ah ..;clear b16 c16 d16;generalize upd g16 i2 (some (.obj [.i v1,.s v2,.s v3,.s v4,.s v5,.i v6.kind,.i v6.n,.s v6.s,.i v7,.s v8,.s v9,.b gl] 32))=g17 at b16' c16' d16'⊢;have b17:=b16';have c17:=c16';have d17:=d16';clear b16' c16' d16';refine b17.step (OV _) fun g18 b18 k18=> ?_
 have c18:=(k18 i1 n1).trans c17;have d18:=(k18 i2 n2).trans d17;clear b17 c17 d17 k18;generalize ho:(⟨v1,v2,v3,v4,v5,v6,v7,v8,v9,gl⟩:OpD)=o at e;have hd:g18 i2=some (.obj (opC o) 32):=by rw[d18,←ho];rfl
 have h64:vB o:=by rw[←ho];exact⟨q1,q6.1,q6.2,q7⟩
 have hc:g18 i1=some (.obj (opC tV) 32):=c18;clear d18 c18 ho;have hnone:∀(g:Heap),RAt h id g s10→oR l=none→mb [opA tV,.b false] g fun r h' =>r=Hp l∧h' =h:=fun g hg en=>
  .mk _ (.refl _) (hg.base m0) ⟨by unfold Hp;rw[en];rfl,rfl⟩
 unfold opC tV ax at hc;unfold opC at hd;cases de:Ku s10
 ·have en:oR l=none:=by grind [oR]
  simp -implicitDefEqProofs only[go_sem,de,hc,ah];exact adr
 simp -implicitDefEqProofs only[go_sem,de,hd];refine(Fz o _).pthen ?_;cases df:eN o
 ·exact af4
 have hF:=tI df;simp -implicitDefEqProofs only[go_sem,hd];refine(Kt o h64 (f_l hF) _).pthen ?_;simp -implicitDefEqProofs only[go_sem];rw[hb5];refine(BK (uj o) l _ _ _).pthen ?_;cases dp:decide (uj o=l)
 ·exact af4
 ·have en:oR l=some o:=by grind [oR]
  simp -implicitDefEqProofs only[go_sem,hc,hd,ah];exact .mk _ (.refl _) ((b18.put m1 n1).base m0) ⟨by unfold Hp;rw[en];rfl,rfl⟩
theorem Ny(s q:BitVec 64):IntKind.u64.wrap (IntKind.u64.wrap (((BitVec.ofInt 64 (s.toNat:Int) ^^^ BitVec.ofInt 64 (q.toNat:Int)).toNat:Nat):Int)*1099511628211)=(((s ^^^ q)*1099511628211#64).toNat:Int):=by
 rw[BitVec.ofInt_natCast,BitVec.ofInt_natCast,BitVec.ofNat_toNat,BitVec.ofNat_toNat,BitVec.setWidth_eq,BitVec.setWidth_eq];generalize s ^^^ q=x;rw[M1 _ x.isLt];have e:(x.toNat:Int)*1099511628211=((x.toNat*1099511628211:Nat):Int):=aar;rw[e,N2,BitVec.toNat_mul,BitVec.toNat_ofNat]
theorem Ot(p:BitVec 64):p.toNat % 256=(p &&& 255#64).toNat:=by
 exact(Nat.and_two_pow_sub_one_eq_mod p.toNat 8).symm
theorem BO(prev:BitVec 64)(y:AV)(l:Txt)(h:Heap)(hb:By h y l)(hl:l.length≤1000000):
  ai Tryz.prog 20 [.v (.int .u64 (prev.toNat:Int)),y] h fun r h' =>r= .v (.int .u64 ((rj prev l).toNat:Int))∧h' =h:=by
 refine aaq Tryz.func20 31 [.tmp 4] fun hwf=> ?_
 simp -implicitDefEqProofs only[go_sem];refine .intro (fun k ρ g=>g=h∧∃(i:Nat) (p s:BitVec 64),i+k=8∧Hf k p s=Hf 8 prev 14695981039346656037#64∧lk ρ 0=some (.v (.int .u64 (p.toNat:Int)))∧lk ρ 1=some y∧lk ρ 5=some (.v (.int .u64 (s.toNat:Int)))∧lk ρ 8=some (.i (i:Int))) 8 ?_ ?_
 ·refine⟨rfl,0,prev,14695981039346656037#64,rfl,rfl, ?_, ?_, ?_, ?_⟩<;>simp -implicitDefEqProofs only[go_sem]
  rfl
 rintro k ρ g ⟨rfl,i,p,s,hk,hv,r0,r1,r5,r8⟩
 rcases k with _|k
 ·have d1:decide ((i:Int)<8)=false:=decide_eq_false aar
  simp -implicitDefEqProofs only[go_sem,r0,r1,r5,r8,d1,hb.len];refine .intro (fun k ρ g' =>g' =g∧∃(i:Nat) (s:BitVec 64),i+k=l.length∧(l.drop i).foldl (fun h c=>fnv h c.toNat) s=rj prev l∧lk ρ 5=some (.v (.int .u64 (s.toNat:Int)))∧lk ρ 18=some y∧lk ρ 19=some (.i (l.length:Int))∧lk ρ 20=some (.i (i:Int))) l.length ?_ ?_
  ·refine⟨rfl,0,s,aar,by grind [Hh,rj], ?_, ?_, ?_, ?_⟩<;>simp -implicitDefEqProofs only[go_sem,r5,r1]
   all_goals rfl
  clear r0 r1 r5 r8 hv
  rintro k ρ g' ⟨rfl,i,s,hk,hv,r5,r18,r19,r20⟩
  rcases k with _|k
  ·have d1:decide ((i:Int)<(l.length:Int))=false:=decide_eq_false aar
   simp -implicitDefEqProofs only[go_sem,r5,r18,r19,r20,d1];rw[List.drop_eq_nil_of_le aar]at hv;exact .same (.refl _) ⟨by rw[←hv];rfl,rfl⟩
  ·have hlt:i<l.length:=by omega
   have d1:decide ((i:Int)<(l.length:Int))=true:=decide_eq_true aar;have w1:IntKind.i64.wrap ((i:Int)+1)=((i+1:Nat):Int):=aaE;rw[List.drop_eq_getElem_cons hlt]at hv;simp -implicitDefEqProofs only[go_sem,r5,r18,r19,r20,d1];refine hb.idx i rfl hlt u5 u5a fun q hq=> ?_
   generalize l[i]=c at hq hv;have hcl:=c.toNat_lt;have w2:IntKind.u64.wrap (c.toNat:Int)=((BitVec.ofNat 64 c.toNat).toNat:Int):=aaG;have hx:=hq (fun v=>v=aL c)
   simp -implicitDefEqProofs only[go_sem,r5,r18,r19,r20,hq _,aL,w2,w1];refine⟨k,aar,rfl,i+1,fnv s c.toNat,aar,aas, ?_, ?_, ?_, ?_⟩<;>simp -implicitDefEqProofs only[go_sem,r18,r19,fnv]
   exact congrArg (fun z=>some (AV.v (Value.int IntKind.u64 z))) (Ny s _)
 ·have d1:decide ((i:Int)<8)=true:=decide_eq_true aar
  have w1:IntKind.i64.wrap ((i:Int)+1)=((i+1:Nat):Int):=aaE;have e8:p.toNat / 256=(p>>>8).toNat:=acO;have hp:=p.isLt;simp -implicitDefEqProofs only[go_sem,r0,r1,r5,r8,d1,w1,show p.toNat<18446744073709551616 from hp,Ot,e8]
  refine⟨k,aar,rfl,i+1,p>>>8,fnv s (p &&& 255#64).toNat,aar,by grind [Hg], ?_, ?_, ?_, ?_⟩<;>simp -implicitDefEqProofs only[go_sem,r1,fnv,BitVec.ofNat_toNat,BitVec.setWidth_eq]
  exact congrArg (fun z=>some (AV.v (Value.int IntKind.u64 z))) (Ny s _)
def iT(s:an):List AV:=[.i s.tick,fM s.cases,jJ s.reviews,kD s.notices,dM s.roles]++fJ s.policy++ [.i s.version]
def kX(jid:Nat)(e:gX)(yl:AV):Blk:=.obj ([.ptr jid 0]++iT e.s++ [yl,.v (.int .u64 (e.ch.toNat:Int))]) 101
theorem cJ(s:an):∃a1 a2 a3 a4 a5 a6 a7,iT s= [.i s.tick,fM s.cases,jJ s.reviews,kD s.notices,dM s.roles,a1,a2,a3,a4,a5,a6,a7,.i s.version]:=by
 obtain⟨tick,cases,reviews,notices,roles,policy,version⟩:=s;obtain⟨id,set,alg,tgt,rules,kids,obls⟩:=policy;exact⟨_,_,_,_,_,_,_,rfl⟩
def Ad(e:gX)(l:Txt):AV:=.tup [opA ((mE e l).getD tV),.v (.bool (mE e l).isSome)]
theorem FD{l:Txt}{o:OpD}(hl:l.length≤1000000)(h:oR l=some o):vB o:=by
 unfold oR at h;split at h
 ·cases h
  have w0:WfR ⟨l,0,false⟩:=⟨Nat.zero_le _,hl⟩;have w1:WfR (fX ⟨l,0,false⟩).2:=kT w0;have w2:=gm (most:=16) w1 aau;have w3:=gm (most:=16) w2 aau;have w4:=gm (most:=16) w3 aau;have w5:=gm (most:=16) w4 aau;exact⟨sU w0,(Bi w5).1,(Bi w5).2,sU (F3 w5)⟩
 grind
theorem Js(l:Txt)(q:Perm)(e:gX)(yl:AV)(jid x:Nat)(h:Heap)(hl:l.length≤900000)(hx:h x=some (kX jid e yl)):ai Tryz.prog 46 [.ptr x 0,.sl (l.map aL) q] h fun r h' =>r=Ad e l∧h' =h:=by
 obtain⟨a1,a2,a3,a4,a5,a6,a7,es⟩:=cJ e.s;have g:=hx;unfold kX at g;rw[es]at g;simp only[List.cons_append,List.nil_append]at g;refine aaq Tryz.func46 33 [.cell 4 32,.tmp 5] fun hwf=> ?_
 simp -implicitDefEqProofs only[go_sem];intro i1 h1;have n1:i1≠x:=fun e=>aas
 by_cases hs:l.length<8
 ·have d1:decide ((l.length:Int)<8)=true:=decide_eq_true aar
  have er:mE e l=none:=by simp_all [mE,if_pos]
  simp -implicitDefEqProofs only[go_sem,aah,d1,ah];exact .mk _ (.refl _) ((Sub.refl h).new h1 _) ⟨adJ,rfl⟩
 have d1:decide ((l.length:Int)<8)=false:=decide_eq_false aar;simp -implicitDefEqProofs only[go_sem,aah,d1];refine⟨aar,aar, ?_⟩;refine(JD (l.drop 8) _ aas _).pthen ?_;have er0:mE e l=(match oR (l.drop 8)with|some o=>if gG e.ch o=l then some o else none|none=>none):=by unfold mE;grind
 cases hg:oR (l.drop 8)with
 |none=>
  have er:mE e l=none:=aas;simp -implicitDefEqProofs only[go_sem,Hp,hg,opA,opC,tV,ax,Option.getD,Option.isSome];intro i2 h2;have n2:=aB h2;have n21:=aF h2;simp -implicitDefEqProofs only[go_sem,ak,n21,n21.symm,n1,n1.symm];generalize hH:upd (upd h i1 _) i2 _=H;have k1:H i1=some (.obj (opC tV) 32):=abC;have k2:H i2=some (.obj (opC tV) 32):=acA;have kx:H x=some (kX jid e yl):=by
   rw[←hH,ag _ _ (fun e2=>aas),ag _ _ (Ne.symm n1)];omega
  have hsub:Ab.Sub h H:=aa1;clear hH g;unfold kX at kx;rw[es]at kx;simp only[List.cons_append,List.nil_append]at kx;unfold opC tV ax at k1;refine .quiet aav ?_;simp -implicitDefEqProofs only[go_sem];simp -implicitDefEqProofs only[go_sem,k1,ah];exact afN
 |some o=>
  obtain⟨hf,hp⟩:=get_some hg;have h64:=FD aas hg;have er1:mE e l=if gG e.ch o=l then some o else none:=aas
  simp -implicitDefEqProofs only[go_sem,Hp,hg,opA,opC,Option.getD,Option.isSome];intro i2 h2;have n2:=aB h2;have n21:=aF h2;simp -implicitDefEqProofs only[go_sem,ak,n21,n21.symm,n1,n1.symm];generalize hH:upd (upd h i1 _) i2 _=H;have k1:H i1=some (.obj (opC tV) 32):=abC;have k2:H i2=some (.obj (opC o) 32):=acA;have kx:H x=some (kX jid e yl):=by
   rw[←hH,ag _ _ (fun e2=>aas),ag _ _ (Ne.symm n1)];omega
  have hsub:Ab.Sub h H:=aa1;clear hH g;unfold kX at kx;rw[es]at kx;simp only[List.cons_append,List.nil_append]at kx;unfold opC tV ax at k1;unfold opC at k2;refine .quiet aav ?_;simp -implicitDefEqProofs only[go_sem,kx,k2];refine⟨_,Bl e.ch o h64 (f_l (tI hf)) aas _, ?_⟩;simp -implicitDefEqProofs only[go_sem];refine⟨_,BK (gG e.ch o) l _ _ _, ?_⟩;cases dp:decide (gG e.ch o=l)
  ·have er:mE e l=none:=by grind
   simp -implicitDefEqProofs only[go_sem,k1,ah];exact afN
  ·have er:mE e l=some o:=by grind
   simp -implicitDefEqProofs only[go_sem,k1,k2,ah];exact afN
def ldA(d:oU):AV:=.agg (wN d)
def l9(h:Heap)(y:AV)(ds:List oU)(sp:List Nat):Prop:=(y= .sl [] .full∧ds= []∧sp= [])∨∃k,y= .sl (ds.map ldA) (.own k)∧h k=some (.spare ds.length 16)∧sp= [k]
theorem uD:(U 71).sz=16:=aaG
theorem l9.row{h:Heap}{y:AV}{ds:List oU}{sp:List Nat}(hg:l9 h y ds sp):∃q,y= .sl (ds.map ldA) q:=by
 rcases hg with⟨rfl,rfl,_⟩|⟨k,rfl,_⟩<;>exact⟨_,rfl⟩
theorem l9.touch{h h' :Heap}{y:AV}{ds:List oU}{sp S:List Nat}(hg:l9 h y ds sp)(ht:Touch S h h')(hn:∀i∈sp,i∉S):l9 h' y ds sp:=by
 rcases hg with⟨rfl,rfl,rfl⟩|⟨k,rfl,k1,rfl⟩
 ·exact .inl ⟨rfl,rfl,rfl⟩
 ·exact .inr ⟨k,rfl,ht _ _ (hn k aaz) k1,rfl⟩
theorem l9.has{h:Heap}{y:AV}{ds:List oU}{sp:List Nat}(hg:l9 h y ds sp):∀i∈sp,∃n,h i=some (.spare n 16):=by
 rcases hg with⟨rfl,rfl,rfl⟩|⟨k,rfl,k1,rfl⟩
 ·simp
 grind
theorem Cv(ds:List oU):Sized 16 (ds.map ldA):=fun z hz=>by
 obtain⟨d,_,rfl⟩:=List.mem_map.1 hz;rfl
theorem uDb:∃n,(U 71).bytes=n∧n≠0∧n≤1000:=⟨_,rfl,aau,aau⟩
theorem l9.app{h:Heap}{y:AV}{ds:List oU}{d:oU}{q:Perm}{sp:List Nat}{Q:AV→Heap→Prop}(hg:l9 h y ds sp)(hl:ds.length≤1000000)
  (hk:∀y' h' sp',l9 h' y' (ds++ [d]) sp'→Touch sp h h'→(∀i∈sp',i∈sp∨h i=none)→Q y' h'):apK U h y (.sl [ldA d] q) Q (.slice 71):=by
 obtain⟨n,hb,hb0,hb1⟩:=uDb;have hm:(ds.length+1)*n≤140737488355328:=by
  have:=Nat.mul_le_mul (show ds.length+1≤1000001 by omega) hb1
  omega
 have s2:Sized 16 [ldA d]:=Cv [d];rcases hg with⟨rfl,rfl,rfl⟩|⟨k,rfl,k1,rfl⟩
 ·refine(oX ..).mpr ⟨aau,aar, ?_⟩
  refine⟨by simp[Sized],by grind [uD],aas,And.intro (fun hn=>by cases hn) (fun hn=>mU.own fun id hid=> ?_)⟩
  rw[uD];exact hk _ _ [id] (.inr ⟨id,rfl,aeq,rfl⟩) (.of ((Ab.Sub.refl h).new hid _)) aas
 ·refine(AN ..).mpr ⟨aau,aar, ?_⟩
  refine⟨by grind [uD,Cv],by grind [uD],aas,by grind [uD], ?_⟩
  rw[uD];exact hk _ _ [k] (.inr ⟨k,aaz,aeq,rfl⟩) .upd aaz
theorem FE(e:gX)(s:an)(d:oU)(p:Txt)(q:Perm)(jid x:Nat)(yl:AV)(sp:List Nat)(h:Heap)(hx:h x=some (kX jid e yl))(hg:l9 h yl e.log sp)(hl:e.log.length≤1000000)(hp:p.length≤1000000):
  ai Tryz.prog 47 [.ptr x 0,cH s,.agg (wN d),.sl (p.map aL) q] h fun r h' =>r= .tup []∧∃yl' sp',h' x=some (kX jid {e with s:=s,log:=e.log++ [d],ch:=rj e.ch p} yl')∧l9 h' yl' (e.log++ [d]) sp'∧Touch (x::sp) h h'∧(∀i∈sp',i∈sp∨h i=none):=by
 obtain⟨a1,a2,a3,a4,a5,a6,a7,es⟩:=cJ e.s;obtain⟨b1,b2,b3,b4,b5,b6,b7,es2⟩:=cJ s;have g:=hx;unfold kX at g;rw[es]at g;simp only[List.cons_append,List.nil_append]at g;rw[show cH s= .agg (iT s)from rfl,es2]
 refine ai.of_wp hU Tryz.func47 rfl aaG 31 rfl [] rfl (aag rfl) ?_;refine .one hU hm ?_;simp -implicitDefEqProofs only[go_sem];intro i1 h1;simp -implicitDefEqProofs only[go_sem,wN,opC];intro i2 h2;have n2:=aB h2;have n21:=aF h2;have x1:i1≠x:=fun e=>adg
 have x2:i2≠x:=fun e=>adh
 generalize hH:upd (upd h i1 _) i2 _=H;have k1:H i1=some (.obj [.i s.tick,fM s.cases,jJ s.reviews,kD s.notices,dM s.roles,b1,b2,b3,b4,b5,b6,b7,.i s.version] 67):=by rw[←hH,ag _ _ (Ne.symm n21),ah]
 have k2:H i2=some (.obj [.i d.op.kind,.s d.op.subj,.s d.op.case,.s d.op.field,.s d.op.to,.i d.op.val.kind,.i d.op.val.n,.s d.op.val.s,.i d.op.review,.s d.op.text,.s d.op.reason,.b d.op.glass,.i d.version,aP d.mark,.b d.glass,az d.obls] 71):=by rw[←hH,ah]
 have kx:H x=_:=(by rw[←hH,ag _ _ (Ne.symm x2),ag _ _ (Ne.symm x1)]:H x=h x).trans g
 have hsub:Ab.Sub h H:=aa1;clear hH g;simp -implicitDefEqProofs only[go_sem];refine .one hU hm ?_;simp -implicitDefEqProofs only[go_sem,kx,k1];generalize hK:upd H x _=K;have kx2:K x=some (.obj [.ptr jid 0,.i s.tick,fM s.cases,jJ s.reviews,kD s.notices,dM s.roles,b1,b2,b3,b4,b5,b6,b7,.i s.version,yl,.v (.int .u64 (e.ch.toNat:Int))] 101):=by rw[←hK,ah]
 have k22:K i2=_:=(by rw[←hK,ag _ _ x2]:K i2=H i2).trans k2
 have hT:Touch [x] H K:=by rw[←hK];exact .upd
 clear hK
 show WP _ _ _ _ _ _
 refine .one hU hm ?_;simp -implicitDefEqProofs only[go_sem];refine .last (hm2 x (.obj [.ptr jid 0,.i s.tick,fM s.cases,jJ s.reviews,kD s.notices,dM s.roles,b1,b2,b3,b4,b5,b6,b7,.i s.version,yl,.v (.int .u64 (e.ch.toNat:Int))] 101) i2 (.obj [.i d.op.kind,.s d.op.subj,.s d.op.case,.s d.op.field,.s d.op.to,.i d.op.val.kind,.i d.op.val.n,.s d.op.val.s,.i d.op.review,.s d.op.text,.s d.op.reason,.b d.op.glass,.i d.version,aP d.mark,.b d.glass,az d.obls] 71)) [0,1,2,3,4,5,6,7,8,9] (.hm2 kx2 k22) aav rfl aav rfl ?_;simp -implicitDefEqProofs only[go_sem,kx2,k22,qA _ _ (Ne.symm x2),qB];have hno:∀i∈sp,i≠x∧i≠i1∧i≠i2:=fun i hi=>by
  obtain⟨n,hn⟩:=hg.has i hi;exact⟨fun e=>(by rw[e,hx]at hn;cases hn),fun e=>aas,fun e=>aas⟩
 have hgK:l9 K yl e.log sp:=(hg.touch (S:=[]) (.of hsub) aaz).touch hT aas;refine hgK.app hl fun z G sp' hg4 ht4 hsp' => ?_
 have kx3:=ht4 _ _ aas kx2;have k23:=ht4 _ _ aas k22;have xG:∀i∈sp',i≠x:=fun i hi e2=>by
  obtain⟨n,hn⟩:=hg4.has i hi;rw[e2,kx3]at hn;cases hn
 refine⟨.hm2 kx3 k23, ?_⟩;have hrow:=hg4.row;obtain⟨qz,ez⟩:=hrow;subst ez;simp -implicitDefEqProofs only[go_sem,kx3];refine .vc hU hm ?_;simp -implicitDefEqProofs only[go_sem,ah];refine(BO e.ch _ p _ (.sl _ _) hp).pthen ?_;simp -implicitDefEqProofs only[go_sem,ah,mI];have hF:Touch [x] G (upd G x (some (.obj [.ptr jid 0,.i s.tick,fM s.cases,jJ s.reviews,kD s.notices,dM s.roles,b1,b2,b3,b4,b5,b6,b7,.i s.version,(.sl ((e.log++ [d]).map ldA) qz),.v (.int .u64 ((rj e.ch p).toNat:Int))] 101))):=.upd;refine .same (.refl _) ⟨rfl,_,sp', ?_,hg4.touch hF aas, ?_,fun i hi=> ?_⟩
 ·simp_all [kX,ah]
 ·exact((((Touch.of (S:=[]) hsub).trans hT).trans ht4).trans hF).mono aas
 ·rcases hsp' i hi with h3|h3
  ·grind
  ·right
   have:K i=none:=h3;cases hh:h i with
   |none=>rfl
   |some b=>
    have hxi:i≠x:=xG i hi;have:=hT _ _ aas (hsub _ _ hh);rw[h3]at this;cases this
def jj(h:Heap)(x jid did:Nat)(e:gX)(spl spj:List Nat):Prop:=
 ∃yl,h x=some (kX jid e yl)∧l9 h yl e.log spl∧JAt h 173 jid did e.ps e.down spj
theorem Jf(x jid did:Nat)(e:gX)(spl spj:List Nat)(h:Heap)(he:jj h x jid did e spl spj):ai Tryz.prog 19 [.ptr x 0] h fun r h' =>r= .v (.int .u64 (e.ch.toNat:Int))∧h' =h:=by
 obtain⟨yl,hx,hg,hj⟩:=he;obtain⟨a1,a2,a3,a4,a5,a6,a7,es⟩:=cJ e.s;have g:=hx;unfold kX at g;rw[es]at g;refine aaq Tryz.func19 7 [.tmp 2] fun hwf=> ?_
 simp -implicitDefEqProofs only[go_sem,g];exact aaD
theorem B0(x jid did:Nat)(e:gX)(spl spj:List Nat)(h:Heap)(he:jj h x jid did e spl spj)(hl:e.ps.length≤1000000)(hp:∀p∈e.ps,p.length≤1000000):ai Tryz.prog 16 [.ptr x 0] h fun r h' =>∃q,r= .sl (e.ps.map jS) q∧Ab.Sub h h' :=by
 obtain⟨yl,hx,hg,hj⟩:=he;have g:=hx;unfold kX at g;refine aaq Tryz.func16 8 [.tmp 2] fun hwf=> ?_
 simp -implicitDefEqProofs only[go_sem,g];refine(yb jid did e.ps e.down spj h hj hl hp).mono fun r h' ⟨q,e1,hs⟩=> ?_
 subst e1;simp -implicitDefEqProofs only[go_sem];exact .same (.refl _) ⟨q,rfl,hs⟩
theorem LV(x jid did:Nat)(e:gX)(spl spj:List Nat)(o:OpD)(h:Heap)(he:jj h x jid did e spl spj)(hd:e.down=true):ai Tryz.prog 15 [.ptr x 0,opA o] h fun r h' =>r= .agg (mR (GO 9))∧h' =h:=by
 obtain⟨yl,hx,hg,hj⟩:=he;have g:=hx;unfold kX at g;refine aaq Tryz.func15 53 [.cell 4 36] fun hwf=> ?_
 simp -implicitDefEqProofs only[go_sem,opA,opC];intro i1 h1;have x1:i1≠x:=fun e=>aas
 simp -implicitDefEqProofs only[go_sem];intro i2 h2;have n2:=aB h2;have x2:i2≠x:=fun e=>aas
 generalize hH:upd (upd h i1 _) i2 _=H;have kx:H x=_:=(by rw[←hH,ag _ _ (Ne.symm x2),ag _ _ (Ne.symm x1)]:H x=h x).trans g
 have k2:H i2=some (.obj mK 36):=acA;have hsub:Ab.Sub h H:=aa1;unfold mK at k2;simp -implicitDefEqProofs only[go_sem,kx];refine(vP jid did e.ps e.down spj H (hj.sub hsub)).pthen ?_;rw[hd];simp -implicitDefEqProofs only[go_sem,k2,ah];refine .mk _ (.refl _) (hsub.put n2 _) ⟨?_,rfl⟩;rfl
theorem nN(s:an)(r:kO)(d:oU)(e:Int):jq (s,r,d,e)= .tup [cH s,.agg [.i r.err,.v (.complex .f64 (hbit r.mark.1) (hbit r.mark.2)),.b r.glass,.i r.val.kind,.i r.val.n,.s r.val.s,.b r.hidden,.i r.at_],.agg [.i d.op.kind,.s d.op.subj,.s d.op.case,.s d.op.field,.s d.op.to,.i d.op.val.kind,.i d.op.val.n,.s d.op.val.s,.i d.op.review,.s d.op.text,.s d.op.reason,.b d.op.glass,.i d.version,.v (.complex .f64 (hbit d.mark.1) (hbit d.mark.2)),.b d.glass,.sl (d.obls.map bl) .no],.i e]:=rfl
theorem OH(x jid did:Nat)(e:gX)(spl spj:List Nat)(o:OpD)(h:Heap)(he:jj h x jid did e spl spj)(hd:e.down=false){k:Nat}(hG:nD k e.s)(hk:k≤1000)(h64:vB o)(her:lJ h)(hne:(bt e.s o).2.2.2≠0):ai Tryz.prog 15 [.ptr x 0,opA o] h fun r h' =>r= .agg (mR (bt e.s o).2.1)∧h' =h:=by
 have hgd:=fun(G:Heap) (hG' :Ab.Sub h G)=>nM e.s hG hk o h64 G (her.sub hG')
 have he0:=he;obtain⟨yl,hx,hg,hj⟩:=he;obtain⟨a1,a2,a3,a4,a5,a6,a7,es⟩:=cJ e.s;have g:=hx;unfold kX at g;rw[es]at g;simp only[List.cons_append,List.nil_append]at g;refine aaq Tryz.func15 53 [.cell 4 36] fun hwf=> ?_
 simp -implicitDefEqProofs only[go_sem,opA,opC];intro i1 h1;have x1:i1≠x:=fun e=>adg
 simp -implicitDefEqProofs only[go_sem];intro i2 h2;have n2:=aB h2;have x2:i2≠x:=fun e=>adh
 have n21:=aF h2;generalize hH:upd (upd h i1 _) i2 _=H;have kx:H x=_:=(by rw[←hH,ag _ _ (Ne.symm x2),ag _ _ (Ne.symm x1)]:H x=h x).trans g
 have k2:H i2=some (.obj mK 36):=acA;have k1:H i1=some (.obj (opC o) 32):=abC;have hsub:Ab.Sub h H:=aa1;clear hH g;unfold mK at k2;simp -implicitDefEqProofs only[go_sem,kx];refine(vP jid did e.ps e.down spj H (hj.sub hsub)).pthen ?_;rw[hd];generalize bt e.s o=gd at hgd hne⊢;obtain⟨S,R,D,E⟩:=gd;simp only at hne⊢;obtain⟨b1,b2,b3,b4,b5,b6,b7,es2⟩:=cJ S;rw[nN,show cH e.s= .agg (iT e.s)from rfl,es,show cH S= .agg (iT S)from rfl,es2]at hgd
 simp only[opA,opC]at hgd;unfold opC at k1;simp -implicitDefEqProofs only[go_sem];refine .tree _ (.quiet [0,1,2,3,4] 5 (.news [6,7,8,9,10] [11,12,13] (.seq [14,15,16,17]))) (.refl _) aav rfl ?_;simp -implicitDefEqProofs only[go_sem,kx,k1];refine⟨_,fun G hs=>hgd G (hsub.trans hs), ?_⟩
 simp -implicitDefEqProofs only[go_sem];refine⟨.refl _,aaz, ?_⟩;intro jd hjd je hje jf hjf;have ned:=aF hje;have kje:=aB hje;have nfe:=aF hjf;have nfd:=aF (aB hjf);have kjf:=aB (aB hjf);simp -implicitDefEqProofs only[go_sem,ak,ned,ned.symm,nfe,nfe.symm,nfd,nfd.symm];refine⟨aaB,aaB,aaB, ?_⟩;have mjd:=hsub.none hjd;have mje:=hsub.none kje;have mjf:=hsub.none kjf;have j2:jd≠i2:=fun e=>adZ
 have j2e:je≠i2:=fun e=>ad0
 have j2f:jf≠i2:=fun e=>ad1
 have dE:(E==0)=false:=beq_eq_false_iff_ne.mpr hne;have dE2:(E !=0)=true:=bne_iff_ne.mpr hne;simp -implicitDefEqProofs only[go_sem,ak,dE,dE2,ned,ned.symm,nfe,nfe.symm,nfd,nfd.symm,j2,j2.symm,j2e,j2e.symm,j2f,j2f.symm,k2];refine .mk _ (.refl _) ?_ ⟨rfl,rfl⟩
 repeat (first|exact hsub|refine Ab.Sub.put ?_ aaC _)
theorem Fs{P:Program}{U:TypeId→TI}{n:Nat}{l:List Oper}{ρ:Env}{h:Heap}{K:Exit→Env→Heap→Prop}(hh:∀H2,H2=h→l8 P U n l ρ H2 K):l8 P U n l ρ h K:=hh h rfl
theorem bP.upd{h:Heap}{id i:Nat}{d:D}{cs:List AV}{t:TypeId}{b:Option Blk}(hd:bP h id d)(hi:h i=some (.obj cs t))(h1:t≠96)(h2:t≠5):bP (Ab.upd h i b) id d:=by
 obtain⟨y,hy,hb⟩:=hd;refine⟨y, ?_, ?_⟩
 ·grind [ag,Option.some.inj]
 ·rcases hb with hb|⟨j,off,cs2,rfl,a1,a2,a3⟩
  ·exact aek
  ·refine .oa ?_ a2 a3
   grind [ag,Option.some.inj]
theorem OJ(x jid did:Nat)(e:gX)(d:D)(spl spj:List Nat)(o:OpD)(h:Heap)(he:jj h x jid did e spl spj)(hdk:bP h did d)(hdo:d.ok)(hps:e.ps.length≤1000000)(hlg:e.log.length≤1000000)(hd:e.down=false){k:Nat}(hG:nD k e.s)(hk:k≤1000)(h64:vB o)(her:lJ h)(hne:(bt e.s o).2.2.2=0)(hcode:(jadd d e.ps false (gG e.ch o)).2≠0):
  ai Tryz.prog 15 [.ptr x 0,opA o] h fun r h' =>r= .agg (mR (doE e d o).2.2)∧∃spl' spj',jj h' x jid did (doE e d o).1 spl' spj'∧bP h' did (doE e d o).2.1∧Touch (x::did::jid::(spl++spj)) h h'∧(∀i∈spl',i∈spl∨h i=none)∧(∀i∈spj',i∈spj∨h i=none):=by
 have hF:=tI (nO hne);have hrl:=vW (h:=e.ch) hF;have hpl:=vU hF;have edo:doE e d o=(let a:=jadd d e.ps false (gG e.ch o);if a.2=0 then({pK e (bt e.s o) (gG e.ch o)with ps:=a.1.2.1,down:=a.1.2.2},a.1.1,(bt e.s o).2.1)else({e with ps:=a.1.2.1,down:=a.1.2.2},a.1.1,GO (a.2:Int))):=by
  exact af1
 have hgd:=fun(G:Heap) (hG' :Ab.Sub h G)=>nM e.s hG hk o h64 G (her.sub hG')
 have he0:=he;obtain⟨yl,hx,hg,hj⟩:=he;obtain⟨a1,a2,a3,a4,a5,a6,a7,es⟩:=cJ e.s;have g:=hx;unfold kX at g;rw[es]at g;simp only[List.cons_append,List.nil_append]at g;refine aaq Tryz.func15 53 [.cell 4 36] fun hwf=> ?_
 simp -implicitDefEqProofs only[go_sem,opA,opC];intro i1 h1;have x1:i1≠x:=fun e=>adg
 simp -implicitDefEqProofs only[go_sem];intro i2 h2;have n2:=aB h2;have x2:i2≠x:=fun e=>adh
 have n21:=aF h2;generalize hH:upd (upd h i1 _) i2 _=H;have kx:H x=_:=(by rw[←hH,ag _ _ (Ne.symm x2),ag _ _ (Ne.symm x1)]:H x=h x).trans g
 have k2:H i2=some (.obj mK 36):=acA;have k1:H i1=some (.obj (opC o) 32):=abC;have hsub:Ab.Sub h H:=aa1;clear hH g;unfold mK at k2;simp -implicitDefEqProofs only[go_sem,kx];refine(vP jid did e.ps e.down spj H (hj.sub hsub)).pthen ?_;rw[hd];generalize bt e.s o=gd at hgd hne edo⊢;obtain⟨S,R,D,E⟩:=gd;simp only at hne edo⊢;subst hne;obtain⟨b1,b2,b3,b4,b5,b6,b7,es2⟩:=cJ S;rw[nN,show cH e.s= .agg (iT e.s)from rfl,es,show cH S= .agg (iT S)from rfl,es2]at hgd
 simp only[opA,opC]at hgd;unfold opC at k1;simp -implicitDefEqProofs only[go_sem];refine .tree _ (.quiet [0,1,2,3,4] 5 (.news [6,7,8,9,10] [11,12,13] (.seq [14,15,16,17]))) (.refl _) aav rfl ?_;simp -implicitDefEqProofs only[go_sem,kx,k1];refine⟨_,fun G hs=>hgd G (hsub.trans hs), ?_⟩
 simp -implicitDefEqProofs only[go_sem];refine⟨.refl _,aaz, ?_⟩;intro jd hjd je hje jf hjf;have ned:=aF hje;have kje:=aB hje;have nfe:=aF hjf;have nfd:=aF (aB hjf);have kjf:=aB (aB hjf);simp -implicitDefEqProofs only[go_sem,ak,ned,ned.symm,nfe,nfe.symm,nfd,nfd.symm];refine⟨aaB,aaB,aaB, ?_⟩;have mjd:=hsub.none hjd;have mje:=hsub.none kje;have mjf:=hsub.none kjf;have j2:jd≠i2:=fun e=>adZ
 have j2e:je≠i2:=fun e=>ad0
 have j2f:jf≠i2:=fun e=>ad1
 refine Fs fun H2 w2=> ?_
 have xjd:jd≠x:=fun e=>ad3
 have xje:je≠x:=fun e=>ad4
 have xjf:jf≠x:=fun e=>ad5
 have y1:jd≠i1:=fun e=>by rw[e,k1]at hjd;cases hjd
 have y2:je≠i1:=fun e=>by rw[e,k1]at kje;cases kje
 have y3:jf≠i1:=fun e=>by rw[e,k1]at kjf;cases kjf
 have hs2:Ab.Sub h H2:=acf;have fx:H2 x=_:=(by rw[w2];simp only[ak,xjd,xjd.symm,xje,xje.symm,xjf,xjf.symm,ne_eq,not_false_eq_true]:H2 x=H x).trans kx
 have f1:H2 i1=_:=(by rw[w2];simp only[ak,y1,y1.symm,y2,y2.symm,y3,y3.symm,ne_eq,not_false_eq_true]:H2 i1=H i1).trans k1
 have f2:H2 i2=_:=(by rw[w2];simp only[ak,j2,j2.symm,j2e,j2e.symm,j2f,j2f.symm,ne_eq,not_false_eq_true]:H2 i2=H i2).trans k2
 have fd:H2 jd=some (.obj [.i S.tick,fM S.cases,jJ S.reviews,kD S.notices,dM S.roles,b1,b2,b3,b4,b5,b6,b7,.i S.version] 67):=aaM;have fe:H2 je=some (.obj [.i R.err,.v (.complex .f64 (hbit R.mark.1) (hbit R.mark.2)),.b R.glass,.i R.val.kind,.i R.val.n,.s R.val.s,.b R.hidden,.i R.at_] 36):=aaM;have ff:H2 jf=some (.obj (wN D) 71):=abd;clear w2;refine .quiet aav ?_;simp -implicitDefEqProofs only[go_sem,fx,f1];refine⟨_,Bl e.ch o h64 (f_l hF) aar _, ?_⟩;simp -implicitDefEqProofs only[go_sem,fx];refine(FL d hdo did jid e.ps e.down spj H2 _ (gG e.ch o) (hdk.keep hs2.fL) (hj.sub hs2) (.sl _ _) aar hps).mono fun r H3 ⟨er,spj',hd3,hj3,hT3,hs3⟩=> ?_
 subst er;have hin:∀q∈did::jid::spj,∃b,h q=some b∧∀cs,b≠ .obj cs 101:=fun q hq=>by
  exact aeX
 have out:∀q,h q=none→q∉did::jid::spj:=fun q hq hi=>by
  obtain⟨b,hb,_⟩:=hin q hi;rw[hq]at hb;cases hb
 have outx:x∉did::jid::spj:=fun hi=>by
  exact af7
 have fx3:=hT3 _ _ outx fx;have f23:=hT3 _ _ (out i2 n2) f2;have fd3:=hT3 _ _ (out jd mjd) fd;have fe3:=hT3 _ _ (out je mje) fe;have ff3:=hT3 _ _ (out jf mjf) ff;rw[hd]at hd3 hj3⊢;generalize jadd d e.ps false (gG e.ch o)=a at hd3 hj3 edo hcode⊢;obtain⟨⟨d2,ps2,dn2⟩,code⟩:=a;simp only at hd3 hj3 edo hcode⊢;cases dc:((code:Int)==0)
 ·have hc:code≠0:=fun e2=>by subst e2;cases dc
  have dc2:((code:Int) !=0)=true:=by rw[bne,dc];rfl
  rw[if_neg hc]at edo;simp -implicitDefEqProofs only[go_sem,dc2,f23,ah];have hsp:∀i∈spl,i∉did::jid::spj:=fun i hi hq=>by
   exact aeW
  have hg3:=(hg.touch (S:=[]) (.of hs2) (fun i hi hh=>abR)).touch hT3 hsp
  have hnl:∀i∈spl,i∉ [i2]:=fun i hi hh=>by
   obtain⟨n,hn⟩:=hg.has i hi;rw[List.mem_singleton.1 hh,n2]at hn;cases hn
  have hF4:∀b,Touch [i2] H3 (upd H3 i2 b):=fun b=> .upd
  have hj3' :=hj3;obtain⟨z,zs,hz1,hz2,_⟩:=hj3';refine .same (.refl _) ⟨by rw[edo];rfl,spl,spj', ?_, ?_, ?_,fun i hi=> .inl hi,fun i hi=> ?_⟩
  ·rw[edo]
   refine⟨yl, ?_,hg3.touch (hF4 _) hnl,hj3.touch (hF4 _) ?_ ?_⟩
   ·rw[ag _ _ (Ne.symm x2),fx3]
    unfold kX;rw[es];rfl
   ·intro hh
    rw[List.mem_singleton.1 hh,f23]at hz1;cases hz1
   ·intro i hi hh
    obtain⟨n,hn⟩:=hz2.has i hi;rw[List.mem_singleton.1 hh,f23]at hn;cases hn
  ·rw[edo]
   exact hd3.upd f23 aau aau
  ·exact(((Touch.of (S:=[]) hs2).trans hT3).trans (hF4 _)).mono (fun i hi=>by
    simp only[List.nil_append,List.mem_append,List.mem_cons,List.mem_singleton,List.not_mem_nil,or_false]at hi;rcases hi with(h3|h3|h3)|h3
    ·left;simp[h3]
    ·left;simp[h3]
    ·left;simp[h3]
    ·right;rw[h3];exact n2)
  ·rcases hs3 i hi with h3|h3
   ·exact .inl h3
   ·right;exact hs2.none h3
 ·exact absurd (eq_of_beq dc) aar
theorem bP.touch{h h' :Heap}{id:Nat}{d:D}{S:List Nat}(hd:bP h id d)(ht:Touch S h h')(hS:∀i∈S,∀cs,h i≠some (.obj cs 96)∧h i≠some (.obj cs 5)):bP h' id d:=by
 obtain⟨y,hy,hb⟩:=hd;refine⟨y,ht _ _ aas hy, ?_⟩;rcases hb with hb|⟨j,off,cs2,rfl,a1,a2,a3⟩
 ·exact aek
 ·exact .oa (ht _ _ aas a1) a2 a3
theorem OI(x jid did:Nat)(e:gX)(d:D)(spl spj:List Nat)(o:OpD)(h:Heap)(he:jj h x jid did e spl spj)(hdk:bP h did d)(hdo:d.ok)(hps:e.ps.length≤1000000)(hlg:e.log.length≤1000000)(hd:e.down=false){k:Nat}(hG:nD k e.s)(hk:k≤1000)(h64:vB o)(her:lJ h)(hne:(bt e.s o).2.2.2=0)(hcode:(jadd d e.ps false (gG e.ch o)).2=0):
  ai Tryz.prog 15 [.ptr x 0,opA o] h fun r h' =>r= .agg (mR (doE e d o).2.2)∧∃spl' spj',jj h' x jid did (doE e d o).1 spl' spj'∧bP h' did (doE e d o).2.1∧Touch (x::did::jid::(spl++spj)) h h'∧(∀i∈spl',i∈spl∨i∈spj∨h i=none)∧(∀i∈spj',i∈spj∨h i=none):=by
 have hF:=tI (nO hne);have hrl:=vW (h:=e.ch) hF;have hpl:=vU hF;have edo:doE e d o=(let a:=jadd d e.ps false (gG e.ch o);if a.2=0 then({pK e (bt e.s o) (gG e.ch o)with ps:=a.1.2.1,down:=a.1.2.2},a.1.1,(bt e.s o).2.1)else({e with ps:=a.1.2.1,down:=a.1.2.2},a.1.1,GO (a.2:Int))):=by
  exact af1
 have hgd:=fun(G:Heap) (hG' :Ab.Sub h G)=>nM e.s hG hk o h64 G (her.sub hG')
 have he0:=he;obtain⟨yl,hx,hg,hj⟩:=he;obtain⟨a1,a2,a3,a4,a5,a6,a7,es⟩:=cJ e.s;have g:=hx;unfold kX at g;rw[es]at g;simp only[List.cons_append,List.nil_append]at g;refine aaq Tryz.func15 53 [.cell 4 36] fun hwf=> ?_
 simp -implicitDefEqProofs only[go_sem,opA,opC];intro i1 h1;have x1:i1≠x:=fun e=>adg
 simp -implicitDefEqProofs only[go_sem];intro i2 h2;have n2:=aB h2;have x2:i2≠x:=fun e=>adh
 have n21:=aF h2;generalize hH:upd (upd h i1 _) i2 _=H;have kx:H x=_:=(by rw[←hH,ag _ _ (Ne.symm x2),ag _ _ (Ne.symm x1)]:H x=h x).trans g
 have k2:H i2=some (.obj mK 36):=acA;have k1:H i1=some (.obj (opC o) 32):=abC;have hsub:Ab.Sub h H:=aa1;clear hH g;unfold mK at k2;simp -implicitDefEqProofs only[go_sem,kx];refine(vP jid did e.ps e.down spj H (hj.sub hsub)).pthen ?_;rw[hd];generalize bt e.s o=gd at hgd hne edo⊢;obtain⟨S,R,D,E⟩:=gd;simp only at hne edo⊢;subst hne;obtain⟨b1,b2,b3,b4,b5,b6,b7,es2⟩:=cJ S;rw[nN,show cH e.s= .agg (iT e.s)from rfl,es,show cH S= .agg (iT S)from rfl,es2]at hgd
 simp only[opA,opC]at hgd;unfold opC at k1;simp -implicitDefEqProofs only[go_sem];refine .tree _ (.quiet [0,1,2,3,4] 5 (.news [6,7,8,9,10] [11,12,13] (.seq [14,15,16,17]))) (.refl _) aav rfl ?_;simp -implicitDefEqProofs only[go_sem,kx,k1];refine⟨_,fun G hs=>hgd G (hsub.trans hs), ?_⟩
 simp -implicitDefEqProofs only[go_sem];refine⟨.refl _,aaz, ?_⟩;intro jd hjd je hje jf hjf;have ned:=aF hje;have kje:=aB hje;have nfe:=aF hjf;have nfd:=aF (aB hjf);have kjf:=aB (aB hjf);simp -implicitDefEqProofs only[go_sem,ak,ned,ned.symm,nfe,nfe.symm,nfd,nfd.symm];refine⟨aaB,aaB,aaB, ?_⟩;have mjd:=hsub.none hjd;have mje:=hsub.none kje;have mjf:=hsub.none kjf;have j2:jd≠i2:=fun e=>adZ
 have j2e:je≠i2:=fun e=>ad0
 have j2f:jf≠i2:=fun e=>ad1
 refine Fs fun H2 w2=> ?_
 have xjd:jd≠x:=fun e=>ad3
 have xje:je≠x:=fun e=>ad4
 have xjf:jf≠x:=fun e=>ad5
 have y1:jd≠i1:=fun e=>by rw[e,k1]at hjd;cases hjd
 have y2:je≠i1:=fun e=>by rw[e,k1]at kje;cases kje
 have y3:jf≠i1:=fun e=>by rw[e,k1]at kjf;cases kjf
 have hs2:Ab.Sub h H2:=acf;have fx:H2 x=_:=(by rw[w2];simp only[ak,xjd,xjd.symm,xje,xje.symm,xjf,xjf.symm,ne_eq,not_false_eq_true]:H2 x=H x).trans kx
 have f1:H2 i1=_:=(by rw[w2];simp only[ak,y1,y1.symm,y2,y2.symm,y3,y3.symm,ne_eq,not_false_eq_true]:H2 i1=H i1).trans k1
 have f2:H2 i2=_:=(by rw[w2];simp only[ak,j2,j2.symm,j2e,j2e.symm,j2f,j2f.symm,ne_eq,not_false_eq_true]:H2 i2=H i2).trans k2
 have fd:H2 jd=some (.obj [.i S.tick,fM S.cases,jJ S.reviews,kD S.notices,dM S.roles,b1,b2,b3,b4,b5,b6,b7,.i S.version] 67):=aaM;have fe:H2 je=some (.obj [.i R.err,.v (.complex .f64 (hbit R.mark.1) (hbit R.mark.2)),.b R.glass,.i R.val.kind,.i R.val.n,.s R.val.s,.b R.hidden,.i R.at_] 36):=aaM;have ff:H2 jf=some (.obj (wN D) 71):=abd;clear w2;refine .quiet aav ?_;simp -implicitDefEqProofs only[go_sem,fx,f1];refine⟨_,Bl e.ch o h64 (f_l hF) aar _, ?_⟩;simp -implicitDefEqProofs only[go_sem,fx];refine(FL d hdo did jid e.ps e.down spj H2 _ (gG e.ch o) (hdk.keep hs2.fL) (hj.sub hs2) (.sl _ _) aar hps).mono fun r H3 ⟨er,spj',hd3,hj3,hT3,hs3⟩=> ?_
 subst er;have hin:∀q∈did::jid::spj,∃b,h q=some b∧∀cs,b≠ .obj cs 101:=fun q hq=>by
  exact aeX
 have out:∀q,h q=none→q∉did::jid::spj:=fun q hq hi=>by
  obtain⟨b,hb,_⟩:=hin q hi;rw[hq]at hb;cases hb
 have outx:x∉did::jid::spj:=fun hi=>by
  exact af7
 have fx3:=hT3 _ _ outx fx;have f23:=hT3 _ _ (out i2 n2) f2;have fd3:=hT3 _ _ (out jd mjd) fd;have fe3:=hT3 _ _ (out je mje) fe;have ff3:=hT3 _ _ (out jf mjf) ff;rw[hd]at hd3 hj3⊢;generalize jadd d e.ps false (gG e.ch o)=a at hd3 hj3 edo hcode⊢;obtain⟨⟨d2,ps2,dn2⟩,code⟩:=a;simp only at hd3 hj3 edo hcode⊢;subst hcode;rw[if_pos rfl]at edo;simp only[wN,opC,List.cons_append,List.nil_append]at ff3;have hsp:∀i∈spl,i∉did::jid::spj:=fun i hi hq=>by
  exact aeW
 have hg3:=(hg.touch (S:=[]) (.of hs2) (fun i hi hh=>abR)).touch hT3 hsp
 have hx3:H3 x=some (kX jid e yl):=by rw[fx3];unfold kX;rw[es];rfl
 have hgo:=FE e S D (gG e.ch o) .no jid x yl spl H3 hx3 hg3 hlg aar;rw[show cH S= .agg (iT S)from rfl,es2]at hgo
 simp only[wN,opC,List.cons_append,List.nil_append]at hgo;simp -implicitDefEqProofs only[go_sem,fd3,ff3];refine hgo.mono fun r H4 ⟨er,yl',spl',hx4,hg4,hT4,hs4⟩=> ?_
 subst er;have hnl:∀q,h q=none→q∉x::spl:=fun q hq hh=>by
  rcases List.mem_cons.1 hh with rfl|hh
  ·rw[hx]at hq;cases hq
  ·obtain⟨n,hn⟩:=hg.has q hh
   rw[hn]at hq;cases hq
 have fe4:=hT4 _ _ (hnl je mje) fe3;have f24:=hT4 _ _ (hnl i2 n2) f23;simp -implicitDefEqProofs only[go_sem,fe4,f24,ah];have hF4:∀b,Touch [i2] H4 (upd H4 i2 b):=fun b=> .upd
 have hj3' :=hj3;obtain⟨z,zs,hz1,hz2,_⟩:=hj3';have jx:jid∉x::spl:=fun hh=>by
  exact afu
 have sx:∀i∈spj',i∉x::spl:=fun i hi hh=>by
  obtain⟨n,hn⟩:=hz2.has i hi;rcases List.mem_cons.1 hh with rfl|hh
  ·rw[hx3]at hn;cases hn
  ·obtain⟨n2,hn2⟩:=hg3.has i hh
   rw[hn2]at hn;cases hn
 have hj4:=hj3.touch hT4 jx sx;have hj4' :=hj4;obtain⟨z4,zs4,hz41,hz42,_⟩:=hj4';have hd4:=hd3.touch hT4 (fun i hi cs=>by
  rcases List.mem_cons.1 hi with rfl|hi
  ·rw[hx3];exact⟨fun hh=>abR,fun hh=>abR⟩
  ·obtain⟨n,hn⟩:=hg3.has i hi
   rw[hn];exact⟨fun hh=>abR,fun hh=>abR⟩)
 refine .same (.refl _) ⟨by rw[edo];rfl,spl',spj', ?_, ?_, ?_,fun i hi=> ?_,fun i hi=> ?_⟩
 ·rw[edo]
  refine⟨yl', ?_,hg4.touch (hF4 _) ?_,hj4.touch (hF4 _) ?_ ?_⟩
  ·rw[ag _ _ (Ne.symm x2),hx4]
   unfold kX;simp only[pK]
  ·intro i hi hh
   obtain⟨n,hn⟩:=hg4.has i hi;rw[List.mem_singleton.1 hh,f24]at hn;cases hn
  ·intro hh
   rw[List.mem_singleton.1 hh,f24]at hz41;cases hz41
  ·intro i hi hh
   obtain⟨n,hn⟩:=hz42.has i hi;rw[List.mem_singleton.1 hh,f24]at hn;cases hn
 ·rw[edo]
  exact hd4.upd f24 aau aau
 ·exact((((Touch.of (S:=[]) hs2).trans hT3).trans hT4).trans (hF4 _)).mono (fun i hi=>by
   simp only[List.nil_append,List.mem_append,List.mem_cons,List.mem_singleton,List.not_mem_nil,or_false]at hi;rcases hi with((h3|h3|h3)|(h3|h3))|h3
   ·left;simp[h3]
   ·left;simp[h3]
   ·left;simp[h3]
   ·left;simp[h3]
   ·left;simp[h3]
   ·right;rw[h3];exact n2)
 ·rcases hs4 i hi with h3|h3
  ·exact .inl h3
  ·right
   cases hh:h i with
   |none=>exact .inr rfl
   |some b=>
    left
    by_cases hm3:i∈did::jid::spj
    ·simp only[List.mem_cons]at hm3
     rcases hm3 with rfl|rfl|hm3
     ·obtain⟨w,hw,_⟩:=hd3
      rw[hw]at h3;cases h3
     ·rw[hz1]at h3;cases h3
     ·exact hm3
    ·have:=hT3 _ _ hm3 (hs2 _ _ hh)
     rw[h3]at this;cases this
 ·rcases hs3 i hi with h3|h3
  ·exact .inl h3
  ·right;exact hs2.none h3
theorem RX(x jid did:Nat)(e:gX)(d:D)(spl spj:List Nat)(o:OpD)(h:Heap)(he:jj h x jid did e spl spj)(hdk:bP h did d)(hdo:d.ok)(hps:e.ps.length≤1000000)(hlg:e.log.length≤1000000){k:Nat}(hG:nD k e.s)(hk:k≤1000)(h64:vB o)(her:lJ h):
  ai Tryz.prog 15 [.ptr x 0,opA o] h fun r h' =>r= .agg (mR (doE e d o).2.2)∧∃spl' spj',jj h' x jid did (doE e d o).1 spl' spj'∧bP h' did (doE e d o).2.1∧Touch (x::did::jid::(spl++spj)) h h'∧(∀i∈spl',i∈spl∨i∈spj∨h i=none)∧(∀i∈spj',i∈spj∨h i=none):=by
 have stay:∀R:kO,doE e d o=(e,d,R)→∀(r:AV) (h' :Heap),(r= .agg (mR R)∧h' =h)→r= .agg (mR (doE e d o).2.2)∧∃spl' spj',jj h' x jid did (doE e d o).1 spl' spj'∧bP h' did (doE e d o).2.1∧Touch (x::did::jid::(spl++spj)) h h'∧(∀i∈spl',i∈spl∨i∈spj∨h i=none)∧(∀i∈spj',i∈spj∨h i=none):=fun R ed r h' ⟨e1,e2⟩=>by
  subst e2;rw[ed];exact⟨e1,spl,spj,he,hdk,.refl _ _,fun i hi=> .inl hi,fun i hi=> .inl hi⟩
 cases hd:e.down
 case true=>
  exact(LV x jid did e spl spj o h he hd).mono (stay _ (by simp_all [doE,if_pos]))
 by_cases hne:(bt e.s o).2.2.2=0
 case neg=>
  exact(OH x jid did e spl spj o h he hd hG hk h64 her hne).mono (stay _ (by
   simp_all [doE,if_neg,if_pos]))
 by_cases hcode:(jadd d e.ps false (gG e.ch o)).2=0
 ·exact OI x jid did e d spl spj o h he hdk hdo hps hlg hd hG hk h64 her hne hcode
 ·exact(OJ x jid did e d spl spj o h he hdk hdo hps hlg hd hG hk h64 her hne hcode).mono fun r h' ⟨a,s1,s2,b,c,f,g,i⟩=>⟨a,s1,s2,b,c,f,fun q hq=>(g q hq).imp id .inr,i⟩
theorem RQ{P:Program}{U:TypeId→TI}{n:Nat}{a b:Code}{ρ:Env}{h:Heap}{K:Exit→Env→Heap→Prop}{y:AV}(hh:∀H2,H2=h→mV P U n a b ρ H2 K y):mV P U n a b ρ h K y:=hh h rfl
theorem lJ.touch{h h' :Heap}{S:List Nat}(he:lJ h)(ht:Touch S h h')(hS:∀i∈S,∀b vs,h i≠some (.ro b vs)):lJ h' :=by
 obtain⟨ev,hev,id,hi⟩:=he;exact⟨ev,hev,id,ht _ _ aas hi⟩
theorem Ea{e:gX}{l:List Txt}{i:Nat}(hi:i<l.length){e1:gX}(h:oH e (l.take i)=some e1):oH e (l.take (i+1))=qW e1 l[i]:=by
 grind [List.take_succ_eq_append_getElem,xb]
theorem D9{e:gX}{l:List Txt}{i:Nat}(h:oH e (l.take i)=none):oH e l=none:=by
 rw[←List.take_append_drop i l];generalize l.take i=a at h⊢
 induction a generalizing e with
 |nil=>cases h
 |cons p a ih=>
  simp only[List.cons_append,oH]at h⊢
  grind
theorem MC{e:gX}{p:Txt}{o:OpD}(h:mE e p=some o)(hl:p.length≤1000000):vB o:=by
 grind [mE,FD,List.length_drop]
def wo(h h' :Heap)(did:Nat)(ps:List Txt)(r:AV):Prop:=match EW ps with
 |none=>r= .tup [.v (.pointer none),.i 7]
 |some e=>∃x jid spl spj,r= .tup [.ptr x 0,.i 0]∧jj h' x jid did e spl spj∧(∀i∈x::jid::(spl++spj),h i=none)
theorem newL:iT vH= [.i 0,.sl [] .no,.sl [] .no,.sl [] .no,.sl [] .no,.s jb,.b false,.i 6,.sl [] .no,.sl [] .no,.sl [] .no,.sl [] .no,.i 0]:=rfl
theorem KL(d:D)(hdo:d.ok)(did:Nat)(h:Heap)(hdk:bP h did d)(her:lJ h)(hps:(scan d.b).1.length≤900):
  ai Tryz.prog 14 [.ptr did 0] h fun r h' =>bP h' did d.bZ.1∧Keep did h h'∧if d.bZ.2=0 then wo h h' did (scan d.b).1 r else r= .tup [.v (.pointer none),.i (d.bZ.2:Nat)]:=by
 have hlen:=(MK d.b).2;refine aaq Tryz.func14 62 [.tmp 2,.tmp 3] fun hwf=> ?_
 simp -implicitDefEqProofs only[go_sem];refine(JO d hdo did h hdk).mono fun r h1 ⟨J,e1,hd1,kp1,hif⟩=> ?_
 subst e1;have her1:lJ h1:=her.touch (.keep kp1) (fun i hi b vs hh=>by
  obtain⟨y,hy,_⟩:=hdk;rw[List.mem_singleton.1 hi,hy]at hh;cases hh)
 generalize (scan d.b).1=ps at hps hlen hif⊢;generalize d.bZ=od at hd1 hif⊢;obtain⟨d1,c1⟩:=od;simp only at hd1 hif⊢
 by_cases hc:c1=0
 case neg=>
  rw[if_neg hc]at hif;subst hif;have t1:(((c1:Nat):Int) !=0)=true:=by simp[hc]
  simp -implicitDefEqProofs only[go_sem,t1];exact .same (.refl _) ⟨hd1,kp1,by rw[if_neg hc];rfl⟩
 subst hc;rw[if_pos rfl]at hif;obtain⟨jid,spj,rfl,hjn,hj,hsn⟩:=hif;simp -implicitDefEqProofs only[go_sem];refine(Pm h1 her1).pthen ?_;rw[show cH vH= .agg (iT vH)from rfl,newL]
 simp -implicitDefEqProofs only[go_sem];intro x hx;have hxh:h x=none:=by
  cases hh:h x with
  |none=>rfl
  |some k=>
   by_cases e:x=did
   ·subst e
    obtain⟨y,hy,_⟩:=hd1;rw[hy]at hx;cases hx
   ·rw[kp1 _ _ e hh]at hx;cases hx
 simp -implicitDefEqProofs only[go_sem];refine inH fun H1 w1=> ?_
 have hs1:Ab.Sub h1 H1:=by rw[w1];exact(Sub.refl h1).new hx _
 have hE1:jj H1 x jid did (jh ps) [] spj:=⟨_,by rw[w1,ah];rfl,.inl ⟨rfl,rfl,rfl⟩,hj.sub hs1⟩
 clear w1;have hK1:Keep did h H1:=kp1.trans (hs1.keep did);refine(yb jid did ps false spj H1 (hj.sub hs1) aar (fun p hp=>by have:=hlen p hp;omega)).mono fun r h2 ⟨q,er,hs2⟩=> ?_
 subst er;simp -implicitDefEqProofs only[go_sem,aah];refine .intro (fun m ρ H=>∃(i:Nat) (e:gX) (spl:List Nat),oH (jh ps) (ps.take i)=some e∧e.ps=ps∧e.down=false∧e.log.length=i∧nD i e.s∧jj H x jid did e spl spj∧bP H did d1∧Keep did h H∧(∀j∈spl,h j=none)∧i≤ps.length∧m=ps.length - i∧lk ρ 6=some (.ptr x 0)∧lk ρ 28=some (.sl (ps.map jS) q)∧lk ρ 29=some (.i ps.length)∧lk ρ 30=some (.i i)) (ps.length - 0) ?_ ?_
 ·obtain⟨yl,a,b,c⟩:=hE1
  refine⟨0,jh ps,[],rfl,rfl,rfl,rfl,xh,⟨yl,hs2 _ _ a,b.touch (S:=[]) (.of hs2) (fun i hi=>by cases hi),c.sub hs2⟩,(hd1.keep hs1.fL).keep hs2.fL,hK1.trans (hs2.keep did),fun j hj=>(by cases hj),aar,rfl, ?_, ?_, ?_, ?_⟩<;>simp -implicitDefEqProofs only[go_sem]
 rintro m ρ H ⟨i,e,spl,hf,hps2,hdn,hlg,hG,hE,hD,hK,hsl,hi,rfl,r6,r28,r29,r30⟩
 by_cases hlt:i<ps.length
 case neg=>
  have ei:i=ps.length:=aar;have t1:decide ((i:Int)<(ps.length:Int))=false:=decide_eq_false aar;rw[ei,List.take_length]at hf;simp -implicitDefEqProofs only[go_sem,r6,r28,r29,r30,t1];refine .same (.refl _) ⟨hD,hK, ?_⟩
  show wo h H did ps (.tup [.ptr x 0,.i 0])
  unfold wo EW;rw[hf];exact⟨x,jid,spl,spj,rfl,hE,fun j hj=>by
   simp only[List.mem_cons,List.mem_append]at hj;rcases hj with rfl|rfl|hj|hj
   ·exact hxh
   ·exact hjn
   ·exact hsl _ hj
   ·exact(hsn _ hj).1⟩
 have t1:decide ((i:Int)<(ps.length:Int))=true:=decide_eq_true aar;have w3:=aan i aar;have ix:=fun k=>fz.eq (xs:=ps.map jS) (sz:=1) i aaQ aaH k
 have hf1:=Ea hlt hf;have hpl:=hlen _ (aam hlt);rw[aai]at ix;obtain⟨p,ep⟩:∃p,ps[i]=p:=⟨_,rfl⟩;rw[ep]at ix hf1 hpl;simp only[jS]at ix;have hEx:=hE;obtain⟨yl,hx2,hgl,hj2⟩:=hE;simp -implicitDefEqProofs only[go_sem,r6,r28,r29,r30,t1,ix];refine(Js p .no e yl jid x H aar hx2).pthen ?_;unfold Ad;have her2:lJ H:=her.touch (.keep hK) (fun i hi b vs hh=>by
  obtain⟨y,hy,_⟩:=hdk;rw[List.mem_singleton.1 hi,hy]at hh;cases hh)
 have bad:∀H',Ab.Sub H H'→qW e p=none→bP H' did d1∧Keep did h H'∧wo h H' did ps (.tup [.v (.pointer none),.i 7]):=fun H' hs hn=>by
  refine⟨hD.keep hs.fL,hK.trans (hs.keep did), ?_⟩;unfold wo EW;rw[D9 (hf1.trans hn)]
 cases hr:mE e p with
 |none=>
  have hn:qW e p=none:=by unfold qW;rw[hr]
  simp -implicitDefEqProofs only[go_sem,hr,opA,opC,tV,ax,Option.getD,Option.isSome];intro i9 h9;simp -implicitDefEqProofs only[go_sem];exact .mk _ (.refl _) (.refl _) (bad _ ((Sub.refl H).new h9 _) hn)
 |some o=>
  have h64:=MC hr aar;have hst:qW e p=if(bt e.s o).2.2.2=0 then some (pK e (bt e.s o) p)else none:=by unfold qW;rw[hr]
  obtain⟨a1,a2,a3,a4,a5,a6,a7,es⟩:=cJ e.s;have hgd:=fun(G:Heap) (hG' :Ab.Sub H G)=>nM e.s hG aar o h64 G (her2.sub hG')
  have hG2:=Ce o hG;have g:=hx2;unfold kX at g;rw[es]at g;simp only[List.cons_append,List.nil_append]at g;simp -implicitDefEqProofs only[go_sem,hr,opA,opC,Option.getD,Option.isSome];intro i9 h9;have x9:i9≠x:=fun e=>by rw[e,hx2]at h9;cases h9
  simp -implicitDefEqProofs only[go_sem];generalize hH:upd H i9 _=H1;have kx:H1 x=_:=(by rw[←hH,ag _ _ (Ne.symm x9)]:H1 x=H x).trans g
  have k9:H1 i9=some (.obj (opC o) 32):=acA;have hsub:Ab.Sub H H1:=by rw[←hH];exact(Sub.refl H).new h9 _
  clear hH g;generalize bt e.s o=gd at hgd hst hG2⊢;obtain⟨S,R,D,E⟩:=gd;simp only at hst hG2;obtain⟨b1,b2,b3,b4,b5,b6,b7,es2⟩:=cJ S;rw[nN,show cH e.s= .agg (iT e.s)from rfl,es,show cH S= .agg (iT S)from rfl,es2]at hgd
  simp only[opA,opC]at hgd;unfold opC at k9;refine .tree _ (.quiet [0,1,2,3,4] 5 (.news [6,7,8,9,10] [11,12,13] (.seq [14,15,16,17]))) (.refl _) aav rfl ?_;simp -implicitDefEqProofs only[go_sem,r6,kx,k9];refine⟨_,fun G hs=>hgd G (hsub.trans hs), ?_⟩
  simp -implicitDefEqProofs only[go_sem];refine⟨.refl _,aaz, ?_⟩;intro jd hjd je hje jf hjf;have ned:=aF hje;have kje:=aB hje;have nfe:=aF hjf;have nfd:=aF (aB hjf);have kjf:=aB (aB hjf);simp -implicitDefEqProofs only[go_sem,ak,ned,ned.symm,nfe,nfe.symm,nfd,nfd.symm];refine⟨aaB,aaB,aaB, ?_⟩;refine RQ fun H2 w2=> ?_
  have xjd:jd≠x:=fun e=>ad3
  have xje:je≠x:=fun e=>ad4
  have xjf:jf≠x:=fun e=>ad5
  have hs2:Ab.Sub H H2:=by
   have:=hsub.none hjd;have:=hsub.none kje;have:=hsub.none kjf;rw[w2];repeat (first|exact hsub|refine Ab.Sub.put ?_ aaC _)
  have fx:H2 x=_:=(by rw[w2];simp only[ak,xjd,xjd.symm,xje,xje.symm,xjf,xjf.symm,ne_eq,not_false_eq_true]:H2 x=H1 x).trans kx
  have fd:H2 jd=some (.obj [.i S.tick,fM S.cases,jJ S.reviews,kD S.notices,dM S.roles,b1,b2,b3,b4,b5,b6,b7,.i S.version] 67):=by rw[w2];simp only[ak,ned,ned.symm,nfe,nfe.symm,nfd,nfd.symm,ah,ne_eq,not_false_eq_true]
  have ff:H2 jf=some (.obj (wN D) 71):=by rw[w2];simp only[ak,ned,ned.symm,nfe,nfe.symm,nfd,nfd.symm,ah,ne_eq,not_false_eq_true];rfl
  clear w2;simp only[wN,opC,List.cons_append,List.nil_append]at ff
  by_cases hE0:E=0
  case neg=>
   have t2:(E !=0)=true:=by simp[hE0]
   rw[if_neg hE0]at hst;simp -implicitDefEqProofs only[go_sem,t2];exact .same (.refl _) (bad _ hs2 hst)
  subst hE0;rw[if_pos rfl]at hst;have hx3:H2 x=some (kX jid e yl):=by rw[fx];unfold kX;rw[es];rfl
  have hg3:=hgl.touch (S:=[]) (.of hs2) (fun i hi hh=>abR)
  have hgo:=FE e S D p .no jid x yl spl H2 hx3 hg3 aar aar;rw[show cH S= .agg (iT S)from rfl,es2]at hgo
  simp only[wN,opC,List.cons_append,List.nil_append]at hgo;simp -implicitDefEqProofs only[go_sem,r6,fd,ff];refine hgo.mono fun r H4 ⟨er,yl',spl',hx4,hg4,hT4,hs4⟩=> ?_
  subst er;simp -implicitDefEqProofs only[go_sem,r6,r28,r29,r30,w3];have hout:∀j∈x::spl,h j=none:=fun j hj=>by
   rcases List.mem_cons.1 hj with rfl|hj
   ·exact hxh
   ·exact hsl _ hj
  have hdid:h did≠none:=by
   obtain⟨y,hy,_⟩:=hdk;rw[hy];simp
  have hj3:=hj2.sub hs2;have hD2:=hD.keep hs2.fL;refine⟨_, ?_,i+1,pK e (S,R,D,0) p,spl',hf1.trans hst,hps2,hdn, ?_,hG2,⟨yl',hx4,hg4, ?_⟩, ?_, ?_, ?_,aar,rfl, ?_, ?_, ?_, ?_⟩
  ·omega
  ·simp[pK,hlg]
  ·refine hj3.touch hT4 ?_ ?_
   ·obtain⟨z,zs,hz1,_⟩:=hj3
    intro hh;exact afu
   ·obtain⟨z,zs,_,hz2,_⟩:=hj3
    intro j hj hh;obtain⟨n,hn⟩:=hz2.has j hj;rcases List.mem_cons.1 hh with rfl|hh
    ·rw[hx3]at hn;cases hn
    ·obtain⟨n2,hn2⟩:=hg3.has j hh
     rw[hn2]at hn;cases hn
  ·exact hD2.touch hT4 (fun j hj cs=>by
    rcases List.mem_cons.1 hj with rfl|hj
    ·rw[hx3];exact⟨fun hh=>abR,fun hh=>abR⟩
    ·obtain⟨n,hn⟩:=hg3.has j hj
     rw[hn];exact⟨fun hh=>abR,fun hh=>abR⟩)
  ·intro j k hj hk
   exact hT4 _ _ (fun hh=>by rw[hout j hh]at hk;cases hk) (hs2 _ _ (hK _ _ hj hk))
  ·intro j hj
   rcases hs4 j hj with hh|hh
   ·exact hsl _ hh
   ·cases hk:h j with
    |none=>rfl
    |some k=>
     by_cases e1:j=did
     ·subst e1
      obtain⟨y,hy,_⟩:=hD2;rw[hy]at hh;cases hh
     ·rw[hs2 _ _ (hK _ _ e1 hk)]at hh;cases hh
  all_goals simp -implicitDefEqProofs only[go_sem,r6,r28,r29]
theorem jj.sub{h h' :Heap}{x jid did:Nat}{e:gX}{spl spj:List Nat}(he:jj h x jid did e spl spj)(hs:Ab.Sub h h'):jj h' x jid did e spl spj:=by
 obtain⟨yl,a,b,c⟩:=he;exact⟨yl,hs _ _ a,b.touch (S:=[]) (.of hs) aaz,c.sub hs⟩
end Go.Proofs.YtcochaoekecfdaaGreatDoor
namespace Go.Bf
open Go Go.Ab Go.Proofs.YtcochaoekecfdaaGreatDoor
theorem UP{e:gX}{d d' :D}{o:OpD}{ps:List Txt}{dn:Bool}{c:Nat}(h:e.down=false)(hg:(bt e.s o).2.2.2=0)(hj:jadd d e.ps false (gG e.ch o)=((d',ps,dn),c)):
  doE e d o=if c=0 then({pK e (bt e.s o) (gG e.ch o)with ps:=ps,down:=dn},d',(bt e.s o).2.1)else({e with ps:=ps,down:=dn},d',GO (c:Int)):=by
 simp_all [doE,if_neg]
theorem LW{e:gX}{d:D}{o:OpD}(h:e.down=false)(hg:(bt e.s o).2.2.2=0)(h1:d.off=false)(h2:d.f=0)(hr:d.b.length+(frame (gG e.ch o)).length≤d.q):
  doE e d o=({pK e (bt e.s o) (gG e.ch o)with ps:=e.ps++ [gG e.ch o],down:=false},{d with b:=d.b++frame (gG e.ch o),sy:=(d.b++frame (gG e.ch o)).length},(bt e.s o).2.1):=by
 have hl:=vW (h:=e.ch) (tI (nO hg));rw[UP h hg (Ss h1 h2 aar aar hr),if_pos rfl]
end Go.Bf
namespace Go.Proofs.YtcochaoekecfdaaGreatDoor
open Go Go.Ab Go.Bf
theorem Ak{h0 h h' :Heap}{S:List Nat}(hs:Ab.Sub h0 h)(ht:Touch S h h')(hn:∀i∈S,h0 i=none):Ab.Sub h0 h' :=fun j k hj=>ht j k aas (hs j k hj)
theorem KQ{h0 h h' :Heap}{i:Nat}(hs:Ab.Sub h0 h)(ht:Keep i h h')(hn:h0 i=none):Ab.Sub h0 h' :=Ak hs (.keep ht) aas
theorem OW{h:Heap}{x jid did:Nat}{e:gX}{d:D}{spl spj:List Nat}(he:jj h x jid did e spl spj)(hd:bP h did d):∀i∈x::did::jid::(spl++spj),h i≠none:=fun i hi=>by
 obtain⟨yl,a,b,z,zs,c1,c2,_⟩:=he;obtain⟨y,d1,_⟩:=hd;simp only[List.mem_cons,List.mem_append]at hi;rcases hi with rfl|rfl|rfl|hi|hi
 ·grind
 ·grind
 ·grind
 ·obtain⟨n,e⟩:=b.has i hi;grind
 ·obtain⟨n,e⟩:=c2.has i hi;grind
theorem Ip(q:Nat)(hq:q≤1048576)(did:Nat)(h:Heap)(hdk:bP h did ⟨q,[],0,0,false⟩)(her:lJ h):
  ai Tryz.prog 14 [.ptr did 0] h fun r h' =>∃x jid spl spj,r= .tup [.ptr x 0,.i 0]∧jj h' x jid did (jh []) spl spj∧bP h' did ⟨q,[],0,0,false⟩∧Keep did h h'∧(∀i∈x::jid::(spl++spj),h i=none):=by
 have hok:D.ok ⟨q,[],0,0,false⟩:=⟨Nat.zero_le _,hq,Nat.zero_le _,(by decide:(0:Nat)<9223372036854775808)⟩
 have ho:=D.Pu hok rfl rfl;simp only[yf,List.take_nil]at ho;refine(KL _ hok did h hdk her (by simp[yf])).mono fun r h' ⟨h1,h2,h3⟩=> ?_
 simp only[if_true,yf]at h3;obtain⟨x,jid,spl,spj,a,b,c⟩:=h3
 grind
theorem NQ:(bt vH pV).2.1=⟨0,aZ,false,ax,false,0⟩∧(bt vH pV).2.2.2=0:=⟨aaG,aaG⟩
theorem J6:vB pV:=⟨⟨aau,aau⟩,⟨aau,aau⟩,⟨aau,aau⟩,⟨aau,aau⟩⟩
theorem Sy:opA pV= .agg [.i 1,.s [97,110,110],.s [99],.s [],.s [],.i 0,.i 0,.s [],.i 0,.s [],.s [],.b false]:=rfl
theorem yM(h:Heap)(he:lJ h):ai Tryz.prog 3 [] h fun r h' =>r= .b true∧h' =h:=
 ai.freeze fun g hgs _=>by
 have he:=he.sub hgs;have hF:=tI (nO NQ.2);have hput:=vU hF;have hrl:=vW (h:=0#64) hF;have hrec:=fun G=>Bl 0#64 pV J6 (f_l hF) aar G
 have hpl:=sn (gG 0#64 pV);have hdo:=LW (e:=jh []) (d:=⟨1000,[],0,0,false⟩) (o:=pV) rfl NQ.2 rfl rfl aau;rw[Sy]at hrec;refine aaq Tryz.func3 67 [.tmp 0] fun hwf=> ?_
 simp -implicitDefEqProofs only[go_sem];refine(Jm 1000 aau g).mono fun r h1 ⟨did,hn,er,hdk,s1⟩=> ?_
 subst er;simp -implicitDefEqProofs only[go_sem];refine(Ip 1000 aau did h1 hdk (he.sub s1)).mono fun r h2 ⟨x,jid,spl,spj,er,hE,hD,hK,hnew⟩=> ?_
 subst er;have s2:Ab.Sub g h2:=KQ s1 hK hn;have hnew' :∀i∈x::did::jid::(spl++spj),g i=none:=fun i hi=>by
  simp only[List.mem_cons]at hi hnew;rcases hi with rfl|rfl|hi
  ·exact s1.none (hnew _ (.inl rfl))
  ·omega
  ·exact s1.none (hnew _ (.inr hi))
 simp -implicitDefEqProofs only[go_sem];intro i5 h5;simp -implicitDefEqProofs only[go_sem];have e5:∀ {b:Option Blk},Ab.Sub h2 (upd h2 i5 b):=fun {b}=>(Sub.refl h2).new h5 b
 generalize hH:upd h2 i5 _=H;have f5:H i5=some (.obj (opC pV) 32):=acA;have s5:Ab.Sub h2 H:=by rw[←hH];exact e5
 clear hH;have f5' :H i5=some (.obj [.i 1,.s [97,110,110],.s [99],.s [],.s [],.i 0,.i 0,.s [],.i 0,.s [],.s [],.b false] 32):=f5;refine(show ai Tryz.prog _ [.ptr x 0,opA pV] _ _ from(RX x jid did (jh []) ⟨1000,[],0,0,false⟩ spl spj pV H (hE.sub s5) (hD.keep s5.fL) ⟨Nat.zero_le _,aau,Nat.zero_le _,aau⟩ aau aau xh aau J6 ((he.sub s2).sub s5)).mono fun r h3 ⟨er,spl',spj',hE3,hD3,hT3,_⟩=> ?_)
 subst er;rw[hdo]at hE3 hD3⊢;have n5:i5∉x::did::jid::(spl++spj):=fun hi=>OW hE hD _ hi h5
 have f53:=hT3 _ _ n5 f5';have s3:Ab.Sub g h3:=Ak (s2.trans s5) hT3 hnew';have er2:mR (bt (jh []).s pV).2.1= [.i 0,.v (.complex .f64 4607182418800017408 0),.b false,.i 0,.i 0,.s [],.b false,.i 0]:=aaG;rw[er2];obtain⟨E,eE⟩:∃E,({pK (jh []) (bt (jh []).s pV) (gG (jh []).ch pV)with ps:=(jh []).ps++ [gG (jh []).ch pV],down:=false}:gX)=E:=⟨_,rfl⟩
 have eps:E.ps= [gG 0#64 pV]:=by rw[←eE];rfl
 have ech:E.ch=rj 0#64 (gG 0#64 pV):=by rw[←eE];rfl
 simp only[eE]at hE3;clear eE hdo er2;simp -implicitDefEqProofs only[go_sem];intro i6 h6;simp -implicitDefEqProofs only[go_sem];generalize hH4:upd h3 i6 _=H4;have f6:H4 i6=some (.obj [.i 0,.v (.complex .f64 4607182418800017408 0),.b false,.i 0,.i 0,.s [],.b false,.i 0] 36):=by rw[←hH4,ah]
 have s6:Ab.Sub h3 H4:=by rw[←hH4];exact(Sub.refl h3).new h6 _
 clear hH4;obtain⟨p,ep⟩:∃p,gG 0#64 pV=p:=⟨_,rfl⟩;rw[ep]at eps ech hrec hrl hpl;refine(B0 x jid did E spl' spj' H4 (hE3.sub s6) aeu (by rw[eps];intro q hq;rw[List.mem_singleton.1 hq];omega)).mono fun r H5 ⟨q,er,s7⟩=> ?_
 subst er;rw[eps];have f65:=s7 _ _ f6;have f55:=s7 _ _ (s6 _ _ f53);have hE5:=(hE3.sub s6).sub s7;have ix:=fun(K:AV→Prop)=>fz.eq (xs:=[jS p]) (sz:=1) 0 aaz rfl K
 simp only[Int.natCast_zero,List.getElem_cons_zero,jS]at ix;have qd:eqC (.v (.complex .f64 4607182418800017408 0)) (.v (.complex .f64 4607182418800017408 0))=true:=rfl;simp -implicitDefEqProofs only[go_sem];refine .quiet aav ?_;simp -implicitDefEqProofs only[go_sem,f65,f55,qd,ix,List.map_cons,List.map_nil,jS];refine⟨_,show ai Tryz.prog _ [.v (.int .u64 0),_] _ _ from hrec H5, ?_⟩
 have d8:decide ((8:Int)<(p.length:Int))=true:=decide_eq_true aar;simp -implicitDefEqProofs only[go_sem,f65,f55,qd,ix];refine⟨_,MI _ _ p p _ (.sl _ _) (.sl _ _) aar, ?_⟩;rw[show decide (p=p)=true from aaz]
 simp -implicitDefEqProofs only[go_sem,ix,aah,d8];refine⟨_,Jf x jid did E spl' spj' H5 hE5, ?_⟩;simp -implicitDefEqProofs only[go_sem,ix];refine⟨_,show ai Tryz.prog _ [.v (.int .u64 0),_] _ _ from BO 0#64 _ p _ (.sl _ _) aar, ?_⟩
 simp -implicitDefEqProofs only[go_sem,ech,beq_self_eq_true];exact .same (.refl _) ⟨s3.trans (s6.trans s7),_,.pure rfl,rfl⟩
theorem wQ(ev:Value)(hev:ev= .nilIface∨∃te pe,ev= .iface te pe):ai Tryz.prog 3 [] (vM [(3,Bg),(2,[ev])]) fun r _=>r= .b true:=(yM _ (Io hev)).mono fun _ _ h=>h.1
end Go.Proofs.YtcochaoekecfdaaGreatDoor
