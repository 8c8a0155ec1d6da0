/- The law ScriptForm,ScriptWhat,ScriptBack: pack 5 of its texts. -/
import Derived.Lib.ItoaLen
import Derived.Test.YtfdgemhnlennbaaGreatDoorPk1
import Derived.Test.YtfdgemhnlennbaaGreatDoorPk2
import Derived.Test.YtfdgemhnlennbaaGreatDoorPk3
import Derived.Test.YtfdgemhnlennbaaGreatDoorPk4
set_option linter.unusedSimpArgs false
set_option linter.unusedVariables false
set_option maxRecDepth 100000
namespace Go.Proofs.YtfdgemhnlennbaaGreatDoor
open Go Go.Ab Go.Bf
theorem EP{l:List ij}{subj:Txt}{i:Nat}(h:i<l.length)(h1:l[i].subj=subj)(h2:(cZ (l.take i) subj).length<16):cZ (l.take (i+1)) subj=cZ (l.take i) subj++ [idV l[i].role]:=by
 unfold cZ at h2⊢;rw[List.take_succ_eq_append_getElem h,List.filter_append,List.map_append]
 grind [List.length_take,idV,List.take_append,List.take_of_length_le]
theorem zF{l:List ij}{subj:Txt}{i:Nat}(h:i<l.length)(h1:l[i].subj≠subj∨¬(cZ (l.take i) subj).length<16):cZ (l.take (i+1)) subj=cZ (l.take i) subj:=by
 grind [cZ,List.take_succ_eq_append_getElem,List.take_append,List.length_take]
theorem GN(l:List ij)(subj:Txt):(cZ l subj).length≤16:=by grind [cZ,List.length_take]
def cP(s:aq)(o:OpD):List bp:=[⟨1,idT,[idV o.subj]⟩,⟨1,[114,111,108,101],cZ s.roles o.subj⟩,⟨2,[110,97,109,101],[idV (cy o.kind)]⟩]
theorem yy{s:aq}(hf:Few s)(id:Txt):(bz s.cases id).log.length≤1000000∧(bz s.cases id).fields.length≤1000000:=by
 cases e:bY s.cases id
 ·rw[Dc e];decide
 ·rw[Db e];exact⟨hf.log _ adR,hf.fields _ adR⟩
theorem C7(c:aL)(subj:Txt):(cE c subj).length≤6+c.fields.length:=by
 grind [qB,adE,sO,fP,adA,List.length_filter_le,sM]
theorem jL{h G:Heap}{i:Nat}(hs:Ab.Sub h G)(hi:G i=none):h i=none:=hs.none hi
theorem CQ:(U 33).sz=3:=adV
theorem RI{h:Heap}{x:AV}{s:aq}(hb:RdS h x s)(o:OpD)(hf:Few s)(hk:i64 o.kind):ai Tryz.prog 53 [x,opA o] h fun r h' =>r=bL (fI s o)∧h' =h:=by
 have hca:=fun(G:Heap) (hG:Ab.Sub h G)=>Cf (hb.sub hG) o.case hf
 obtain⟨y1,y2,y3,y4,rfl,⟨xs,hc,hn,hcs⟩,h2,h3,h4⟩:=hb;cases hpp:s.policy with
 |mk pid pset palg ptgt prules pkids pobls=>
 have hcC:gb (.mk pid pset palg ptgt prules pkids pobls)= [.s pid,.b pset,.i palg,aV ptgt,.sl (prules.map aC) .no,.sl (pkids.map aM) .no,aA pobls]:=agO;rw[hpp,hcC]at hca;simp only[List.cons_append,List.nil_append]at hca;have hfr:=hf.roles;refine adJ Tryz.func53 99 [.tmp 4] fun hwf=>?_
 simp only[go_sem,hcC,opA,opC,List.cons_append,List.nil_append];intro i1 h1;simp only[go_sem];intro i2 h2';have n21:=aH h2';have n2:=aB h2';simp only[go_sem,ak,n21.symm,h4.len,adA];obtain⟨H,eH⟩:∃H,upd (upd h i1 (some (.obj [.i s.tick,y1,y2,y3,y4,.s pid,.b pset,.i palg,aV ptgt,.sl (prules.map aC) .no,.sl (pkids.map aM) .no,aA pobls,.i s.version] 63))) i2 (some (.obj (opC o) 39))=H:=⟨_,rfl⟩;have hH:Ab.Sub h H:=aeJ;have g1:H i1=some (.obj [.i s.tick,y1,y2,y3,y4,.s pid,.b pset,.i palg,aV ptgt,.sl (prules.map aC) .no,.sl (pkids.map aM) .no,aA pobls,.i s.version] 63):=afk;have g2:H i2=some (.obj (opC o) 39):=afc;simp only[opC]at eH g2;rw[eH];clear eH;refine .intro (fun m ρ G=>∃(i:Nat) (y:AV),Acc U 33 H G y ((cZ (s.roles.take i) o.subj).map aP)∧i≤s.roles.length∧m=s.roles.length - i∧lk ρ 5=some y∧lk ρ 2=some (.ptr i1 0)∧lk ρ 3=some (.ptr i2 0)∧lk ρ 12=some y4∧lk ρ 13=some (.i s.roles.length)∧lk ρ 14=some (.i i)) s.roles.length ?_ ?_
 ·refine⟨0,_,.full (.refl _),adK,rfl,?_,?_,?_,?_,?_,?_⟩<;>simp only[go_sem,cZ,List.take_zero,List.filter_nil,List.map_nil]
 ·rintro m ρ G ⟨i,y,hy,hi,rfl,r5,r2,r3,r12,r13,r14⟩
  have k1:=hy.1 _ _ g1;have k2:=hy.1 _ _ g2;simp only[go_sem,r13,r14];refine .intro (fun e=>?_) (fun e=>?_)
  ·have hlt:i<s.roles.length:=adH e
   have w1:=adG i adK;simp only[go_sem,r12,r14];refine(h4.sub (hH.trans hy.1)).idx (e:=141) i rfl aeb IL adO fun p hp1=>?_
   have hld:=hp1.all (U:=U) (ty:=141) adU (by rw[IL,adB];rfl) aeo
   simp only[go_sem,hld,adB,eJ];intro i7 h7;have n71:i1≠i7:=fun e=>by rw[←e,k1]at h7;cases h7
   have n72:i2≠i7:=fun e=>by rw[←e,k2]at h7;cases h7
   simp only[go_sem,ak,n72,k2,r3];have hy7:=hy.sub (.aj h7 (k:=some (.obj [.s s.roles[i].subj,.s s.roles[i].role] 141)));have lr:=GN (s.roles.take i) o.subj;cases d1:(s.roles[i].subj==o.subj)
   ·have p1:s.roles[i].subj≠o.subj:=by simpa using d1
    simp only[go_sem,r14,w1];refine⟨_,?_,i+1,y,by rw[zF hlt (.inl p1)];exact hy7,adK,rfl,?_,?_,?_,?_,?_,?_⟩
    ·omega
    all_goals simp only[go_sem,r5,r2,r3,r12,r13]
   ·have p1:s.roles[i].subj=o.subj:=by simpa using d1
    simp only[go_sem,r5,hy.len,adA];cases d2:decide (((cZ (s.roles.take i) o.subj).length:Int)<16)
    ·have p2:¬(cZ (s.roles.take i) o.subj).length<16:=by have:=adD d2;omega
     simp only[go_sem,r14,w1];refine⟨_,?_,i+1,y,by rw[zF hlt (.inr p2)];exact hy7,adK,rfl,?_,?_,?_,?_,?_,?_⟩
     ·omega
     all_goals simp only[go_sem,r5,r2,r3,r12,r13]
    ·have p2:(cZ (s.roles.take i) o.subj).length<16:=by have:=adC d2;omega
     simp only[go_sem,r5];refine(sn _ _).pthen ?_;simp only[go_sem,aP,idV];refine hy7.app (zs:=[aP (idV s.roles[i].role)]) (by rw[CQ];decide) adP (fun k hk=>(Rd.sl (fun z hz=>agE) .full:Rd _ 3 _ _).src CQ hk) (by rw[CQ];exact bx (f:=aP) (fun _=>rfl) _) (by rw[CQ];exact bx (f:=aP) (fun _=>rfl) [idV s.roles[i].role]) aeZ fun y' H' hy' kp=>?_
     simp only[go_sem,r14,w1];refine⟨_,?_,i+1,y',by rw[EP hlt p1 p2,List.map_append];exact hy',adK,rfl,?_,?_,?_,?_,?_,?_⟩
     ·omega
     all_goals simp only[go_sem,r2,r3,r12,r13]
  ·have hge:i=s.roles.length:=by have:=adD e;omega
   subst hge;rw[List.take_length]at hy;simp only[go_sem];obtain⟨q5,rfl⟩:=hy.row;refine .quiet adN ?_;simp only[go_sem,k2,r3];refine⟨_,sn _ _,?_⟩;simp only[go_sem,aP,idV];refine⟨_,dO _ _ _ _ _,?_⟩;simp only[go_sem,r5];refine⟨_,dO _ _ _ _ _,?_⟩;simp only[go_sem,k2,r3];refine⟨_,rJ _ hk _,?_⟩;simp only[go_sem];refine⟨_,sn _ _,?_⟩;simp only[go_sem,aP,idV];refine⟨_,dO _ _ _ _ _,?_⟩;simp only[go_sem,k2,r3];have hak:=fun(G:Heap)=>FA (h:=G) (bz s.cases o.case) o.subj (yy hf o.case).1 (yy hf o.case).2
   simp only[cr,nO,gy,sQ]at hak;have hakl:=C7 (bz s.cases o.case) o.subj;have hakf:=(yy hf o.case).2;have hr0:GRow [.agg [.i 1,.s [105,100],.sl [.agg [.i 5,.i 0,.s o.subj]] .full],.agg [.i 1,.s [114,111,108,101],.sl ((cZ s.roles o.subj).map aP) q5],.agg [.i 2,.s [110,97,109,101],.sl [.agg [.i 5,.i 0,.s (cy o.kind)]] .full]] (cP s o):=(GRow.one ⟨1,idT,[idV o.subj]⟩ .full).app ((GRow.one ⟨1,[114,111,108,101],cZ s.roles o.subj⟩ q5).app (GRow.one ⟨2,[110,97,109,101],[idV (cy o.kind)]⟩ .full))
   by_cases pf:o.field= []
   ·have df:(o.field==([]:Txt))=true:=by simp[pf]
    simp only[go_sem,k2,r3,df]
    by_cases pt:o.to= []
    ·have dt:(o.to==([]:Txt))=true:=by simp[pt]
     simp only[go_sem,k1,r2,dt];refine(dO _ _ _ _ _).pthen ?_;simp only[go_sem];refine .accs hy.1 fun y1 G1 hy1 kp1=>?_
     have k1_1:=kp1 _ _ _ k1;have k2_1:=kp1 _ _ _ k2;have hr1:=hr0.app (GRow.one (⟨4,[110,111,119],[⟨4,s.tick,[]⟩]⟩:bp) .full);simp only[go_sem,k1_1,k2_1,r2,r3];refine(hca _ (hH.trans hy1.1)).pthen ?_;simp only[go_sem,cr,nO,gy,sQ];intro i20 h20;have n21:i1≠i20:=fun e=>by rw[←e,k1_1]at h20;cases h20
     have n22:i2≠i20:=fun e=>by rw[←e,k2_1]at h20;cases h20
     simp only[go_sem];obtain⟨q2,eq2⟩:=hy1.row;cases dth:bY s.cases o.case
     ·simp only[go_sem]
      exact .mk (bL (fI s o)) (show Weak y1 _ by rw[eq2,show fI s o=(cP s o++ [(⟨4,[110,111,119],[⟨4,s.tick,[]⟩]⟩:bp)]) by simp[fI,cP,dth,pf,pt]];exact hr1.weak q2) ((hH.trans hy1.1).put (jL (hH.trans hy1.1) h20) _) ⟨rfl,rfl⟩
     ·simp only[go_sem,ak,n22,k2_1,r3]
      by_cases p6:o.kind=6
      ·have d6:(o.kind !=6)=false:=by simp[p6]
       simp only[go_sem,d6];exact .mk (bL (fI s o)) (show Weak y1 _ by rw[eq2,show fI s o=(cP s o++ [(⟨4,[110,111,119],[⟨4,s.tick,[]⟩]⟩:bp)]) by simp[fI,cP,dth,p6,pf,pt]];exact hr1.weak q2) ((hH.trans hy1.1).put (jL (hH.trans hy1.1) h20) _) ⟨rfl,rfl⟩
      ·have d6:(o.kind !=6)=true:=by simp[p6]
       simp only[go_sem,ak,n22,k2_1,r3,d6];refine(hak _).pthen ?_;simp only[go_sem,bL];refine(hy1.sub (.aj h20)).app (zs:=(cE (bz s.cases o.case) o.subj).map lB) af1 adP (fun k hk=>(eS lB 3 (fun _=>rfl) _ _).src ct hk) (by rw[ct];exact hr1.sized) afn aeD fun yz Gz hyz kpz=>?_
       simp only[go_sem];obtain⟨qz,eqz⟩:=hyz.row;exact .mk (bL (fI s o)) (show Weak yz _ by rw[eqz,show fI s o=(cP s o++ [(⟨4,[110,111,119],[⟨4,s.tick,[]⟩]⟩:bp)])++cE (bz s.cases o.case) o.subj by simp[fI,cP,dth,p6,pf,pt]];exact(hr1.app (GRow.givs _)).weak qz) (hH.trans hyz.1) ⟨rfl,rfl⟩
    ·have dt:(o.to==([]:Txt))=false:=by simp[pt]
     simp only[go_sem,k2,r3,dt];refine(sn _ _).pthen ?_;simp only[go_sem,aP,idV];refine(dO _ _ _ _ _).pthen ?_;simp only[go_sem];refine .accs hy.1 fun y3 G3 hy3 kp3=>?_
     have k1_3:=kp3 _ _ _ k1;have k2_3:=kp3 _ _ _ k2;have hr3:=hr0.app (GRow.one (⟨2,[116,111],[idV o.to]⟩:bp) .full);simp only[go_sem,k1_3,r2];refine(dO _ _ _ _ _).pthen ?_;simp only[go_sem];refine hy3.app (zs:=[Aj (⟨4,[110,111,119],[⟨4,s.tick,[]⟩]⟩) .full]) af1 adP (fun k hk=>(Rd.sl (fN _ _) .full:Rd _ 3 _ _).src ct hk) (by rw[ct];exact hr3.sized) ahe aeL fun y4 G4 hy4 kp4=>?_
     have k1_4:=kp4 _ _ _ k1_3;have k2_4:=kp4 _ _ _ k2_3;have hr4:=hr3.app (GRow.one (⟨4,[110,111,119],[⟨4,s.tick,[]⟩]⟩:bp) .full);simp only[go_sem,k1_4,k2_4,r2,r3];refine(hca _ (hH.trans hy4.1)).pthen ?_;simp only[go_sem,cr,nO,gy,sQ];intro i50 h50;have n51:i1≠i50:=fun e=>by rw[←e,k1_4]at h50;cases h50
     have n52:i2≠i50:=fun e=>by rw[←e,k2_4]at h50;cases h50
     simp only[go_sem];obtain⟨q5,eq5⟩:=hy4.row;cases dth:bY s.cases o.case
     ·simp only[go_sem]
      exact .mk (bL (fI s o)) (show Weak y4 _ by rw[eq5,show fI s o=((cP s o++ [(⟨2,[116,111],[idV o.to]⟩:bp)])++ [(⟨4,[110,111,119],[⟨4,s.tick,[]⟩]⟩:bp)]) by simp[fI,cP,dth,pf,pt]];exact hr4.weak q5) ((hH.trans hy4.1).put (jL (hH.trans hy4.1) h50) _) ⟨rfl,rfl⟩
     ·simp only[go_sem,ak,n52,k2_4,r3]
      by_cases p6:o.kind=6
      ·have d6:(o.kind !=6)=false:=by simp[p6]
       simp only[go_sem,d6];exact .mk (bL (fI s o)) (show Weak y4 _ by rw[eq5,show fI s o=((cP s o++ [(⟨2,[116,111],[idV o.to]⟩:bp)])++ [(⟨4,[110,111,119],[⟨4,s.tick,[]⟩]⟩:bp)]) by simp[fI,cP,dth,p6,pf,pt]];exact hr4.weak q5) ((hH.trans hy4.1).put (jL (hH.trans hy4.1) h50) _) ⟨rfl,rfl⟩
      ·have d6:(o.kind !=6)=true:=by simp[p6]
       simp only[go_sem,ak,n52,k2_4,r3,d6];refine(hak _).pthen ?_;simp only[go_sem,bL];refine(hy4.sub (.aj h50)).app (zs:=(cE (bz s.cases o.case) o.subj).map lB) af1 adP (fun k hk=>(eS lB 3 (fun _=>rfl) _ _).src ct hk) (by rw[ct];exact hr4.sized) afn aeD fun yz Gz hyz kpz=>?_
       simp only[go_sem];obtain⟨qz,eqz⟩:=hyz.row;exact .mk (bL (fI s o)) (show Weak yz _ by rw[eqz,show fI s o=((cP s o++ [(⟨2,[116,111],[idV o.to]⟩:bp)])++ [(⟨4,[110,111,119],[⟨4,s.tick,[]⟩]⟩:bp)])++cE (bz s.cases o.case) o.subj by simp[fI,cP,dth,p6,pf,pt]];exact(hr4.app (GRow.givs _)).weak qz) (hH.trans hyz.1) ⟨rfl,rfl⟩
   ·have df:(o.field==([]:Txt))=false:=by simp[pf]
    simp only[go_sem,k2,r3,df];refine(sn _ _).pthen ?_;simp only[go_sem,aP,idV];refine(dO _ _ _ _ _).pthen ?_;simp only[go_sem];refine .accs hy.1 fun y6 G6 hy6 kp6=>?_
    have k1_6:=kp6 _ _ _ k1;have k2_6:=kp6 _ _ _ k2;have hr6:=hr0.app (GRow.one (⟨2,[102,105,101,108,100],[idV o.field]⟩:bp) .full);simp only[go_sem,k2_6,r3]
    by_cases pt:o.to= []
    ·have dt:(o.to==([]:Txt))=true:=by simp[pt]
     simp only[go_sem,k1_6,r2,dt];refine(dO _ _ _ _ _).pthen ?_;simp only[go_sem];refine hy6.app (zs:=[Aj (⟨4,[110,111,119],[⟨4,s.tick,[]⟩]⟩) .full]) af1 adP (fun k hk=>(Rd.sl (fN _ _) .full:Rd _ 3 _ _).src ct hk) (by rw[ct];exact hr6.sized) ahe aeL fun y7 G7 hy7 kp7=>?_
     have k1_7:=kp7 _ _ _ k1_6;have k2_7:=kp7 _ _ _ k2_6;have hr7:=hr6.app (GRow.one (⟨4,[110,111,119],[⟨4,s.tick,[]⟩]⟩:bp) .full);simp only[go_sem,k1_7,k2_7,r2,r3];refine(hca _ (hH.trans hy7.1)).pthen ?_;simp only[go_sem,cr,nO,gy,sQ];intro i80 h80;have n81:i1≠i80:=fun e=>by rw[←e,k1_7]at h80;cases h80
     have n82:i2≠i80:=fun e=>by rw[←e,k2_7]at h80;cases h80
     simp only[go_sem];obtain⟨q8,eq8⟩:=hy7.row;cases dth:bY s.cases o.case
     ·simp only[go_sem]
      exact .mk (bL (fI s o)) (show Weak y7 _ by rw[eq8,show fI s o=((cP s o++ [(⟨2,[102,105,101,108,100],[idV o.field]⟩:bp)])++ [(⟨4,[110,111,119],[⟨4,s.tick,[]⟩]⟩:bp)]) by simp[fI,cP,dth,pf,pt]];exact hr7.weak q8) ((hH.trans hy7.1).put (jL (hH.trans hy7.1) h80) _) ⟨rfl,rfl⟩
     ·simp only[go_sem,ak,n82,k2_7,r3]
      by_cases p6:o.kind=6
      ·have d6:(o.kind !=6)=false:=by simp[p6]
       simp only[go_sem,d6];exact .mk (bL (fI s o)) (show Weak y7 _ by rw[eq8,show fI s o=((cP s o++ [(⟨2,[102,105,101,108,100],[idV o.field]⟩:bp)])++ [(⟨4,[110,111,119],[⟨4,s.tick,[]⟩]⟩:bp)]) by simp[fI,cP,dth,p6,pf,pt]];exact hr7.weak q8) ((hH.trans hy7.1).put (jL (hH.trans hy7.1) h80) _) ⟨rfl,rfl⟩
      ·have d6:(o.kind !=6)=true:=by simp[p6]
       simp only[go_sem,ak,n82,k2_7,r3,d6];refine(hak _).pthen ?_;simp only[go_sem,bL];refine(hy7.sub (.aj h80)).app (zs:=(cE (bz s.cases o.case) o.subj).map lB) af1 adP (fun k hk=>(eS lB 3 (fun _=>rfl) _ _).src ct hk) (by rw[ct];exact hr7.sized) afn aeD fun yz Gz hyz kpz=>?_
       simp only[go_sem];obtain⟨qz,eqz⟩:=hyz.row;exact .mk (bL (fI s o)) (show Weak yz _ by rw[eqz,show fI s o=((cP s o++ [(⟨2,[102,105,101,108,100],[idV o.field]⟩:bp)])++ [(⟨4,[110,111,119],[⟨4,s.tick,[]⟩]⟩:bp)])++cE (bz s.cases o.case) o.subj by simp[fI,cP,dth,p6,pf,pt]];exact(hr7.app (GRow.givs _)).weak qz) (hH.trans hyz.1) ⟨rfl,rfl⟩
    ·have dt:(o.to==([]:Txt))=false:=by simp[pt]
     simp only[go_sem,k2_6,r3,dt];refine(sn _ _).pthen ?_;simp only[go_sem,aP,idV];refine(dO _ _ _ _ _).pthen ?_;simp only[go_sem];refine hy6.app (zs:=[Aj (⟨2,[116,111],[idV o.to]⟩) .full]) af1 adP (fun k hk=>(Rd.sl (fN _ _) .full:Rd _ 3 _ _).src ct hk) (by rw[ct];exact hr6.sized) ahe aeL fun y9 G9 hy9 kp9=>?_
     have k1_9:=kp9 _ _ _ k1_6;have k2_9:=kp9 _ _ _ k2_6;have hr9:=hr6.app (GRow.one (⟨2,[116,111],[idV o.to]⟩:bp) .full);simp only[go_sem,k1_9,r2];refine(dO _ _ _ _ _).pthen ?_;simp only[go_sem];refine hy9.app (zs:=[Aj (⟨4,[110,111,119],[⟨4,s.tick,[]⟩]⟩) .full]) af1 adP (fun k hk=>(Rd.sl (fN _ _) .full:Rd _ 3 _ _).src ct hk) (by rw[ct];exact hr9.sized) ahe aeL fun y10 G10 hy10 kp10=>?_
     have k1_10:=kp10 _ _ _ k1_9;have k2_10:=kp10 _ _ _ k2_9;have hr10:=hr9.app (GRow.one (⟨4,[110,111,119],[⟨4,s.tick,[]⟩]⟩:bp) .full);simp only[go_sem,k1_10,k2_10,r2,r3];refine(hca _ (hH.trans hy10.1)).pthen ?_;simp only[go_sem,cr,nO,gy,sQ];intro i110 h110;have n111:i1≠i110:=fun e=>by rw[←e,k1_10]at h110;cases h110
     have n112:i2≠i110:=fun e=>by rw[←e,k2_10]at h110;cases h110
     simp only[go_sem];obtain⟨q11,eq11⟩:=hy10.row;cases dth:bY s.cases o.case
     ·simp only[go_sem]
      exact .mk (bL (fI s o)) (show Weak y10 _ by rw[eq11,show fI s o=(((cP s o++ [(⟨2,[102,105,101,108,100],[idV o.field]⟩:bp)])++ [(⟨2,[116,111],[idV o.to]⟩:bp)])++ [(⟨4,[110,111,119],[⟨4,s.tick,[]⟩]⟩:bp)]) by simp[fI,cP,dth,pf,pt]];exact hr10.weak q11) ((hH.trans hy10.1).put (jL (hH.trans hy10.1) h110) _) ⟨rfl,rfl⟩
     ·simp only[go_sem,ak,n112,k2_10,r3]
      by_cases p6:o.kind=6
      ·have d6:(o.kind !=6)=false:=by simp[p6]
       simp only[go_sem,d6];exact .mk (bL (fI s o)) (show Weak y10 _ by rw[eq11,show fI s o=(((cP s o++ [(⟨2,[102,105,101,108,100],[idV o.field]⟩:bp)])++ [(⟨2,[116,111],[idV o.to]⟩:bp)])++ [(⟨4,[110,111,119],[⟨4,s.tick,[]⟩]⟩:bp)]) by simp[fI,cP,dth,p6,pf,pt]];exact hr10.weak q11) ((hH.trans hy10.1).put (jL (hH.trans hy10.1) h110) _) ⟨rfl,rfl⟩
      ·have d6:(o.kind !=6)=true:=by simp[p6]
       simp only[go_sem,ak,n112,k2_10,r3,d6];refine(hak _).pthen ?_;simp only[go_sem,bL];refine(hy10.sub (.aj h110)).app (zs:=(cE (bz s.cases o.case) o.subj).map lB) af1 adP (fun k hk=>(eS lB 3 (fun _=>rfl) _ _).src ct hk) (by rw[ct];exact hr10.sized) afn aeD fun yz Gz hyz kpz=>?_
       simp only[go_sem];obtain⟨qz,eqz⟩:=hyz.row;exact .mk (bL (fI s o)) (show Weak yz _ by rw[eqz,show fI s o=(((cP s o++ [(⟨2,[102,105,101,108,100],[idV o.field]⟩:bp)])++ [(⟨2,[116,111],[idV o.to]⟩:bp)])++ [(⟨4,[110,111,119],[⟨4,s.tick,[]⟩]⟩:bp)])++cE (bz s.cases o.case) o.subj by simp[fI,cP,dth,p6,pf,pt]];exact(hr10.app (GRow.givs _)).weak qz) (hH.trans hyz.1) ⟨rfl,rfl⟩
end Go.Proofs.YtfdgemhnlennbaaGreatDoor
namespace Go.Bf
open Go Go.Ab
def OM(a b:bQ):Bool:=a.attr.cat==b.attr.cat && (a.attr.name==b.attr.name && (a.attr.must==b.attr.must && (a.op==b.op && (a.val.kind==b.val.kind && (a.val.n==b.val.n && a.val.s==b.val.s)))))
def Sf(a b:aQ):Bool:=a.op==b.op && (a.val.kind==b.val.kind && (a.val.n==b.val.n && (a.val.s==b.val.s && (a.attr.cat==b.attr.cat && (a.attr.name==b.attr.name && a.attr.must==b.attr.must)))))
def QK(a b:cC):Bool:=a.on==b.on && (a.kind==b.kind && a.arg==b.arg)
def eqL{α:Type}(f:α→α→Bool):List α→List α→Bool
 | [],[]=>true
 |x::a,y::b=>f x y && eqL f a b
 |_,_=>false
theorem any_succ{α:Type}{q:α→Bool}{l:List α}{i:Nat}(h:i<l.length):(l.take (i+1)).any q=((l.take i).any q||q l[i]):=by
 grind [List.take_succ_eq_append_getElem]
end Go.Bf
namespace Go.Bf
def XL:Txt:=[97,110,110]
end Go.Bf
namespace Go.Proofs.YtfdgemhnlennbaaGreatDoor
open Go Go.Ab Go.Bf
def S3(ev:Value):Heap:=uE [(3,nu),(2,[ev])]
theorem vL{ev:Value}(hev:ev= .nilIface∨∃te pe,ev= .iface te pe):ja (S3 ev):=⟨ev,hev,1,rfl⟩
end Go.Proofs.YtfdgemhnlennbaaGreatDoor
namespace Go.Bf
open Go Go.Ab
def MS(o:OpD):OpD:={o with subj:=o.subj.take 20,case:=o.case.take 20,field:=o.field.take 20,to:=o.to.take 20,val:={o.val with s:=o.val.s.take 70},reason:=o.reason.take 70,text:=if o.text.length≤4096 then o.text.take 1000 else o.text}
end Go.Bf
namespace Go.Proofs.YtfdgemhnlennbaaGreatDoor
open Go Go.Ab Go.Bf
theorem nw(s:Txt)(n:Nat)(hn:n≤1000000)(h:Heap):ai Tryz.prog 50 [.s s,.i n] h fun r h' =>r= .s (s.take n)∧h' =h:=by
 refine adJ Tryz.func50 11 [.tmp 4] fun hwf=>?_
 have e:(if(n:Int)<(s.length:Int)then(n:Int)else(s.length:Int))=((min n s.length:Nat):Int):=adK
 simp only[go_sem,e];refine⟨adK,adK,adK,?_⟩;simp only[go_sem,Option.isSome_none,Option.isSome_some,tG,Int.toNat_natCast];exact .same (.refl _) ⟨by rw[List.take_eq_take_min (i:=n) (l:=s)];rfl,rfl⟩
theorem SP(o:OpD)(h:Heap):ai Tryz.prog 18 [opA o] h fun r h' =>r=opA (MS o)∧h' =h:=by
 refine adJ Tryz.func18 38 [.cell 2 39] fun hwf=>?_
 simp only[go_sem,opA,opC];intro i1 h1;simp only[go_sem];intro i2 h2;have n21:=aH h2;have n2:=aB h2;simp only[go_sem];have hns:∀G,Ab.Sub cH G:=fun G _ _ e=>ad8
 have hs:∀a b,Ab.Sub h (upd (upd h i1 a) i2 b):=fun a b=>((Sub.refl h).put h1 a).put n2 b
 refine .stage (pick (upd (upd h i1 (some (.obj [.i o.kind,.s o.subj,.s o.case,.s o.field,.s o.to,.i o.val.kind,.i o.val.n,.s o.val.s,.i o.review,.s o.text,.s o.reason,.b o.glass] 39))) i2 _) [i1]) [0,1,3,4,6,7,9,10,2,12,5,8,11] [13,14,15,16,17,18,19] bA adN ?_;simp only[go_sem,bD (show i1∈ [i1] by simp),ak,n21.symm]
 refine(show ai Tryz.prog 50 [_,.i ((20:Nat):Int)] _ _ from(nw _ 20 adO _).mono fun r h' ⟨e1,e2⟩=>?_)
 subst e1;subst e2
 refine⟨bA,?_⟩;simp only[go_sem];refine(show ai Tryz.prog 50 [_,.i ((20:Nat):Int)] _ _ from(nw _ 20 adO _).mono fun r h' ⟨e1,e2⟩=>?_)
 subst e1;subst e2
 refine⟨bA,?_⟩;simp only[go_sem];refine(show ai Tryz.prog 50 [_,.i ((20:Nat):Int)] _ _ from(nw _ 20 adO _).mono fun r h' ⟨e1,e2⟩=>?_)
 subst e1;subst e2
 refine⟨bA,?_⟩;simp only[go_sem];refine(show ai Tryz.prog 50 [_,.i ((20:Nat):Int)] _ _ from(nw _ 20 adO _).mono fun r h' ⟨e1,e2⟩=>?_)
 subst e1;subst e2
 refine⟨bA,?_⟩;simp only[go_sem];refine⟨cH,hns _,?_⟩;simp only[go_sem,ak,n21.symm];refine⟨hns _,hns _,hns _,hns _,?_⟩;refine .stage (pick _ [i1]) [0,1,2,4,5,3,7,8,6] [9,10,11] bA adN ?_;simp only[go_sem,bD (show i1∈ [i1] by simp)]
 refine(show ai Tryz.prog 50 [_,.i ((70:Nat):Int)] _ _ from(nw _ 70 adO _).mono fun r h' ⟨e1,e2⟩=>?_)
 subst e1;subst e2
 refine⟨bA,?_⟩;simp only[go_sem];refine(show ai Tryz.prog 50 [_,.i ((70:Nat):Int)] _ _ from(nw _ 70 adO _).mono fun r h' ⟨e1,e2⟩=>?_)
 subst e1;subst e2
 refine⟨bA,?_⟩;simp only[go_sem];refine⟨cH,hns _,?_⟩;simp only[go_sem];refine⟨hns _,hns _,?_⟩;cases d1:decide ((o.text.length:Int)≤4096)
 ·have p1:¬o.text.length≤4096:=by grind
  exact aje
 ·have p1:o.text.length≤4096:=by grind
  simp only[go_sem];refine(show ai Tryz.prog 50 [_,.i ((1000:Nat):Int)] _ _ from(nw _ 1000 adO _).mono fun r h' ⟨e1,e2⟩=>?_)
  subst e1;subst e2
  exact aje
end Go.Proofs.YtfdgemhnlennbaaGreatDoor
namespace Go.Bf
open Go Go.Ab
def iV(cat:Int)(name:Txt)(g:bp):Bool:=g.cat==cat && g.name==name
def getD(l:List bp)(cat:Int)(name:Txt):List bt:=match l.find? (iV cat name)with
 |some g=>g.bag
 |none=>[]
end Go.Bf
namespace Go.Proofs.YtfdgemhnlennbaaGreatDoor
open Go Go.Ab Go.Bf
theorem Me{α:Type}(y:AV)(xs:List AV)(ds:List α)(q:α→Bool)(g:FuncId)(cap:List AV)(h:Heap)(hb:Rd h 3 y xs)(hn:xs.length=ds.length)(hl:xs.length≤1000000000)(hx:∀x∈xs,bC x=true)
  (hp:∀i (h1:i<xs.length) (h2:i<ds.length),ai Tryz.prog g (xs[i]::cap) h fun r h' =>r= .b (q ds[i])∧h' =h):
  ai Tryz.prog 307 [y,.fn g cap] h fun r h' =>r= .i (ixD q ds)∧h' =h:=by
 refine adJ Tryz.func307 19 [.tmp 4] fun hwf=>?_
 simp only[go_sem,hb.len];refine .intro (fun m ρ h' =>h' =h∧∃i:Nat,i≤xs.length∧m=xs.length - i∧(∀j (hj:j<i) (h2:j<ds.length),q ds[j]=false)∧lk ρ 0=some y∧lk ρ 1=some (.fn g cap)∧lk ρ 7=some (.i xs.length)∧lk ρ 8=some (.i i)) xs.length ?_ ?_
 ·refine⟨rfl,0,adK,rfl,fun j hj=>adK,?_,?_,?_,?_⟩<;>simp only[go_sem]
 ·rintro m ρ h' ⟨rfl,i,hi,rfl,hc,r0,r1,r7,r8⟩
  simp only[go_sem,r7,r8];refine .intro (fun e=>?_) (fun e=>?_)
  ·have hlt:i<xs.length:=adH e
   have hlt2:i<ds.length:=adK;have w1:IntKind.i64.wrap ((i:Int)+1)=((i+1:Nat):Int):=adY;simp only[go_sem,r0,r1,r8];refine hb.idx (e:=182) i rfl hlt adV adO fun p hp1=>?_
   have hld:=hp1.all (U:=U) (ty:=182) adO aeE afz;simp only[go_sem,hld];refine(show ai Tryz.prog g (xs[i]::cap) _ _ from hp i hlt hlt2).pthen ?_
   cases d1:q ds[i]
   ·simp only[go_sem,r8,w1]
    refine⟨_,?_,rfl,i+1,adK,rfl,fun j hj h2=>?_,?_,?_,?_,?_⟩
    ·omega
    ·grind
    all_goals simp only[go_sem,r0,r1,r7]
   ·simp only[go_sem]
    exact .same (.refl _) ⟨aet,rfl⟩
  ·have hge:i=xs.length:=by grind
   simp only[go_sem];exact .same (.refl _) ⟨aee,rfl⟩
theorem Kn{h:Heap}(g:bp){k1 k2:Nat}{cat:Int}{name:Txt}(h1:h k1=some (.obj [.i cat] 3))(h2:h k2=some (.obj [.s name] 9)):ai Tryz.prog 308 [lB g,.ptr k1 0,.ptr k2 0] h fun r h' =>r= .b (iV cat name g)∧h' =h:=by
 refine adJ Tryz.func308 15 [.tmp 4] fun hwf=>?_
 simp only[go_sem,lB];intro i1 hi1;have n1:k1≠i1:=fun e=>adL
 have n2:k2≠i1:=fun e=>adL
 simp only[go_sem,ak,n1,h1];cases d1:(g.cat==cat)
 ·simp only[go_sem]
  exact .mk _ (.refl _) (.aj hi1) ⟨by simp only[iV,d1];rfl,rfl⟩
 ·simp only[go_sem,ak,n2,h2]
  exact .mk _ (.refl _) (.aj hi1) ⟨by simp only[iV,d1];rfl,rfl⟩
theorem M1(gs:List bp)(cat:Int)(name:Txt)(hl:gs.length≤1000000000)(h:Heap):ai Tryz.prog 279 [bL gs,.i cat,.s name] h fun r h' =>r= .i (ixD (iV cat name) gs)∧h' =h:=by
 refine adJ Tryz.func279 10 [.tmp 6] fun hwf=>?_
 simp only[go_sem,bL];intro i1 h1;simp only[go_sem];intro i2 h2;have n2:=aB h2;have hs:∀a b,Ab.Sub h (upd (upd h i1 a) i2 b):=fun a b=>((Sub.refl h).put h1 a).put n2 b
 simp only[go_sem];refine(Me _ _ gs (iV cat name) _ [.ptr i1 0,.ptr i2 0] _ (eS lB 3 (fun _=>rfl) _ gs) adR adL (o7 (fun _=>rfl) _) fun i a b=>by
  rw[adB];exact Kn _ (by grind [ag,ah]) (ah ..)).pthen ?_
 simp only[go_sem];exact afl
theorem get_at{gs:List bp}{cat:Int}{name:Txt}(h:gs.findIdx (iV cat name)<gs.length):getD gs cat name=gs[gs.findIdx (iV cat name)].bag:=by
 unfold getD;rw[show gs.find? (iV cat name)=some gs[gs.findIdx (iV cat name)]from List.find?_eq_some_iff_getElem.2 ⟨List.findIdx_getElem (w:=h),_,h,rfl,fun j hj=>adL⟩]
theorem Sj{gs:List bp}{cat:Int}{name:Txt}(h:¬gs.findIdx (iV cat name)<gs.length):getD gs cat name= []:=by
 grind [getD,iV,List.findIdx_le_length,List.find?_eq_none,List.findIdx_eq_length]
end Go.Proofs.YtfdgemhnlennbaaGreatDoor
namespace Go.Bf
open Go Go.Ab
def cT:Txt:=[99]
def stC(st:Txt)(log:List xR):aL:=⟨cT,XL,st,[],log⟩
def pZ:List Txt:=[jN,xl,A2,hY]
abbrev lt(a b:Txt):Prop:=Op.bytesLess a b=true
theorem lt_irrefl:∀a:Txt,¬lt a a
 | []=>adO
 |a::x=>by
  have:=lt_irrefl x;simp only[lt,Op.bytesLess,Bool.or_eq_true,Bool.and_eq_true,decide_eq_true_eq,beq_self_eq_true,true_and,not_or];exact⟨UInt8.lt_irrefl a,this⟩
theorem lt_trans:∀ {a b c:Txt},lt a b→lt b c→lt a c
 |_,[],_,h,_=>by simp_all [Txt,lt,Op.bytesLess]
 | [],b::y,c,_,h=>by cases c<;>simp[lt,Op.bytesLess]at h⊢
 |a::x,b::y,[],_,h=>by simp[lt,Op.bytesLess]at h
 |a::x,b::y,c::z,h1,h2=>by
  simp only[lt,Op.bytesLess,Bool.or_eq_true,Bool.and_eq_true,decide_eq_true_eq,beq_iff_eq]at h1 h2⊢;rcases h1 with h1|⟨rfl,h1⟩
  ·grind
  ·rcases h2 with h2|⟨rfl,h2⟩
   ·grind
   ·exact .inr ⟨rfl,lt_trans h1 h2⟩
theorem Bm:∀a b:Txt,lt a b∨a=b∨lt b a
 | [],[]=>adR
 | [],b::y=> .inl rfl
 |a::x,[]=> .inr (.inr rfl)
 |a::x,b::y=>by
  simp only[lt,Op.bytesLess,Bool.or_eq_true,Bool.and_eq_true,decide_eq_true_eq,beq_iff_eq];rcases UInt8.lt_or_lt_of_ne (a:=a) (b:=b)with h
  by_cases e:a=b
  ·subst e
   rcases Bm x y with h|rfl|h
   ·grind
   ·simp
   grind
  grind
def Asc(cs:List aL):Prop:=cs.Pairwise fun a b=>lt a.id b.id
theorem HK{c:aL}{cs:List aL}{id:Txt}(h:¬lt c.id id):findD (c::cs) id=0:=by
 simp_all [Op.bytesLess,false,findD,List.findIdx_cons,geB]
theorem HL{c:aL}{cs:List aL}{id:Txt}(h:lt c.id id):findD (c::cs) id=findD cs id+1:=by
 simp_all [Op.bytesLess,true,findD,List.findIdx_cons,geB]
theorem vO:∀ {cs:List aL},Asc cs→∀id,bY cs id=cs.any fun c=>c.id==id
 | [],_,id=>rfl
 |c::cs,h,id=>by
  obtain⟨h1,h2⟩:=List.pairwise_cons.1 h
  by_cases hl:lt c.id id
  ·have hne:(c.id==id)=false:=by
    grind [beq_eq_false_iff_ne,lt_irrefl]
   have e:bY (c::cs) id=bY cs id:=by
    grind [bY,HL]
   rw[e,vO h2 id,List.any_cons,hne,Bool.false_or]
  ·have e:bY (c::cs) id=(c.id==id):=by
    grind [bY,HK]
   rw[e,List.any_cons];cases hc:(c.id==id)
   ·have hlt:lt id c.id:=by
     rcases Bm c.id id with h|h|h
     ·grind
     ·grind
     omega
    grind
   ·simp
theorem Hx:∀ {cs:List aL},Asc cs→∀c:aL,(cs.any fun d=>d.id==c.id)=false→Asc (cs.take (findD cs c.id)++ [c]++cs.drop (findD cs c.id))
 | [],_,c,_=>by simp[Asc,findD]
 |d::cs,h,c,hn=>by
  obtain⟨h1,h2⟩:=List.pairwise_cons.1 h;simp only[List.any_cons,Bool.or_eq_false_iff]at hn
  by_cases hl:lt d.id c.id
  ·rw[HL hl]
   simp only[List.take_succ_cons,List.drop_succ_cons,List.cons_append];refine List.pairwise_cons.2 ⟨fun e he=>?_,Hx h2 c hn.2⟩
   grind
  ·rw[HK hl]
   have hlt:lt c.id d.id:=by
    rcases Bm d.id c.id with h|h|h
    ·grind
    ·grind
    omega
   refine List.pairwise_cons.2 ⟨fun e he=>?_,h⟩
   rcases List.mem_cons.1 he with rfl|he
   ·omega
   grind [lt_trans]
def Fq(fs:List di):Prop:=fs.Pairwise fun a b=>lt a.name b.name
theorem BY(name:Txt)(v:bt):fj [] name v= [⟨name,v⟩]:=rfl
theorem Aa{f:di}{fs:List di}{name:Txt}{v:bt}(h:lt f.name name):fj (f::fs) name v=f::fj fs name v:=by
 have hb:Op.bytesLess f.name name=true:=h;unfold fj;simp only[List.findIdx_cons,geB,hb,Bool.not_true,cond_false,List.getElem?_cons_succ];generalize hi:fs.findIdx (fun f=> !Op.bytesLess f.name name)=i
 cases e:fs[i]? with
 |none=>simp
 |some g=>
  by_cases hg:g.name=name
  ·simp[hg]
  ·simp[hg]
theorem z7{f:di}{fs:List di}{name:Txt}{v:bt}(h:f.name=name):fj (f::fs) name v=⟨f.name,v⟩::fs:=by
 subst h;have hb:Op.bytesLess f.name f.name=false:=by
  grind [Op.bytesLess,lt_irrefl]
 unfold fj;simp[List.findIdx_cons,geB,hb]
theorem z8{f:di}{fs:List di}{name:Txt}{v:bt}(h:lt name f.name):fj (f::fs) name v=⟨name,v⟩::f::fs:=by
 have hb:Op.bytesLess f.name name=false:=by
  grind [Op.bytesLess,lt_irrefl,lt_trans]
 have hne:f.name≠name:=fun e=>by rw[e]at h;exact lt_irrefl _ h
 unfold fj;simp[List.findIdx_cons,geB,hb,hne]
theorem vT:∀ {fs:List di} {name:Txt} {v:bt} {g:di},g∈fj fs name v→g=⟨name,v⟩∨g∈fs
 | [],name,v,g,h=>by grind [BY,List.mem_singleton]
 |f::fs,name,v,g,h=>by
  rcases Bm f.name name with hl|hl|hl
  ·rw[Aa hl]at h
   rcases List.mem_cons.1 h with rfl|h
   ·simp
   ·rcases vT h with h|h
    ·grind
    grind
  ·rw[z7 hl]at h
   grind
  ·rw[z8 hl]at h
   grind
theorem BW:∀ {fs:List di} {name:Txt} {v:bt},Fq fs→Fq (fj fs name v)
 | [],name,v,_=>by grind [BY,Fq]
 |f::fs,name,v,h=>by
  obtain⟨h1,h2⟩:=List.pairwise_cons.1 h;rcases Bm f.name name with hl|hl|hl
  ·rw[Aa hl]
   refine List.pairwise_cons.2 ⟨fun g hg=>?_,BW h2⟩
   rcases vT hg with rfl|hg
   ·omega
   grind
  ·rw[z7 hl]
   exact List.pairwise_cons.2 ⟨h1,h2⟩
  ·rw[z8 hl]
   refine List.pairwise_cons.2 ⟨fun g hg=>?_,h⟩
   rcases List.mem_cons.1 hg with rfl|hg
   ·omega
   grind [lt_trans]
theorem BX:∀ {fs:List di} {name:Txt} {v:bt},Fq fs→(fj fs name v).length=if fs.any (fun f=>f.name==name)then fs.length else fs.length+1
 | [],name,v,_=>rfl
 |f::fs,name,v,h=>by
  obtain⟨h1,h2⟩:=List.pairwise_cons.1 h;rcases Bm f.name name with hl|hl|hl
  ·have hne:(f.name==name)=false:=by grind [beq_eq_false_iff_ne,lt_irrefl]
   rw[Aa hl,List.length_cons,BX h2,List.any_cons,hne,Bool.false_or];split<;>simp
  ·grind [z7]
  ·have hne:(f.name==name)=false:=by grind [beq_eq_false_iff_ne,lt_irrefl]
   have hno:(fs.any fun f=>f.name==name)=false:=List.any_eq_false.2 fun g hg he=>by
    have:=lt_trans hl (h1 g hg);rw[beq_iff_eq.1 he]at this;exact lt_irrefl _ this
   rw[z8 hl,List.any_cons,hne,hno];simp
theorem FY(f:di)(fs:List di)(n:Txt):eO (f::fs) n=if f.name=n then f.val else eO fs n:=by
 grind [eO]
def mkC(who id:Txt):aL:=⟨id,who,jN,[],[⟨0,who,[110,101,119]⟩]⟩
def Yd(cs:List aL)(id:Txt):Bool:=cs.any fun c=>c.id==id
end Go.Bf
namespace Go.Ab
open Go
section
variable {α : Type}
def dget(l:List (List UInt8×α))(k:List UInt8):Option α:=(l.find? fun p=>p.1==k).map (·.2)
def dset(l:List (List UInt8×α))(k:List UInt8)(v:α):List (List UInt8×α):=if(dget l k).isSome then l.map (fun p=>if p.1==k then(p.1,v)else p)else l++ [(k,v)]
end
end Go.Ab
namespace Go.Bf
open Go Go.Ab Go.Proofs.YtfdgemhnlennbaaGreatDoor
structure Own (cs:List aL) (own:List (Txt×Txt)):Prop where
 asc:Asc cs
 len:cs.length=own.length
 small:cs.length≤64
 mem:∀c∈cs,c=mkC c.owner c.id∧dget own c.id=some c.owner
 has:∀id,Yd cs id=(dget own id).isSome
 who:∀id w,dget own id=some w→w≠ []
 keys:∀p∈own,p.1.length≤3
theorem qF:∀ {cs:List aL},Asc cs→∀ {id:Txt},bY cs id=true→bz cs id∈cs∧(bz cs id).id=id:=by
 unfold bz
 grind [bY,List.getElem?_eq_getElem]
end Go.Bf
namespace Go.Proofs.YtfdgemhnlennbaaGreatDoor
open Go Go.Ab Go.Bf
def mO(o:OpD):Prop:=i64 o.kind∧i64 o.val.kind∧i64 o.val.n∧i64 o.review
theorem LM{x:AV}(h:Dat U 33 x):∃v,x=aP v∧i64 v.kind∧i64 v.n:=by
 obtain⟨ys,rfl,hys⟩:=h.BL (show(U 33).k= .strct [(0,3),(1,3),(2,9)] by rfl)
 obtain⟨y0,_,rfl,d0,y1,_,rfl,d1,y2,_,rfl,d2,rfl⟩:=hys;obtain⟨n,rfl,hn⟩:=d0.i64 adV;obtain⟨m,rfl,hm⟩:=d1.i64 adV;obtain⟨s,rfl,_⟩:=d2.mC adV;exact⟨⟨n,m,s⟩,adV,hn,hm⟩
theorem RY{x:AV}(h:Dat U 39 x):∃o,x=opA o∧mO o:=by
 obtain⟨ys,rfl,hys⟩:=h.BL (show(U 39).k= .strct [(0,3),(1,9),(2,9),(3,9),(4,9),(5,33),(8,3),(9,9),(10,9),(11,4)] by rfl)
 obtain⟨y0,_,rfl,d0,y1,_,rfl,d1,y2,_,rfl,d2,y3,_,rfl,d3,y4,_,rfl,d4,y5,_,rfl,d5,y6,_,rfl,d6,y7,_,rfl,d7,y8,_,rfl,d8,y9,_,rfl,d9,rfl⟩:=hys;obtain⟨a,rfl,ha⟩:=d0.i64 adV;obtain⟨b,rfl,_⟩:=d1.mC adV;obtain⟨c,rfl,_⟩:=d2.mC adV;obtain⟨d,rfl,_⟩:=d3.mC adV;obtain⟨e,rfl,_⟩:=d4.mC adV;obtain⟨v,rfl,hv1,hv2⟩:=LM d5;obtain⟨r,rfl,hr⟩:=d6.i64 adV;obtain⟨t,rfl,_⟩:=d7.mC adV;obtain⟨s,rfl,_⟩:=d8.mC adV;obtain⟨g,rfl⟩:=d9.Ly adV;exact⟨⟨a,b,c,d,e,v,r,t,s,g⟩,adV,ha,hv1,hv2,hr⟩
theorem SO{o:OpD}(h:mO o):mO (MS o):=h
theorem inH{P:Program}{f:FuncId}{args:List AV}{h:Heap}{Q:AV→Heap→Prop}(hh:∀H2,H2=h→ai P f args H2 Q):ai P f args h Q:=hh h rfl
end Go.Proofs.YtfdgemhnlennbaaGreatDoor
namespace Go.Bf
open Go Go.Ab Go.Proofs.YtfdgemhnlennbaaGreatDoor
def Ye(v:Int):bt:=⟨2,v,[]⟩
structure Last (fs:List di) (last:List (Txt×Int)):Prop where
 asc:Fq fs
 len:fs.length=last.length
 small:fs.length≤16
 kind:∀f∈fs,f.val.kind=2
 get:∀n,eO fs n=((dget last n).map Ye).getD an
 keys:∀p∈last,p.1.length=2
end Go.Bf
namespace Go.Bf
open Go Go.Ab
def Fine(n:Nat)(st:PS):Prop:=(st.bad=0∨st.bad=5∨st.bad=6)∧0≤st.place∧st.place≤n
def BZ(n:Nat)(ts:List lg):Prop:=∀i,0≤(ts.getD i ⟨7,0,0,[]⟩).pos∧(ts.getD i ⟨7,0,0,[]⟩).pos≤n
theorem yB{n:Nat}{st:PS}{e p:Int}(h:Fine n st)(he:e=5∨e=6)(h0:0≤p)(h1:p≤n):Fine n (bI st e p):=by
 unfold bI;split
 ·exact⟨.inr he,h0,h1⟩
 omega
theorem DB{n:Nat}{a b:PS}(h:Rch a b)(ht:BZ n a.ts)(hf:Fine n a):Fine n b:=by
 induction h with
 |refl=>omega
 |wrong e p h1 he hp ih=>
  obtain⟨i,_,rfl⟩:=hp;rw[(rU h1).1];exact yB ih he (ht i).1 (ht i).2
 |next _ _ _ ih=>exact ih
theorem Iy{a b:PS}(h:oo a b):b.ts=a.ts:=by
 induction h with
 |refl=>rfl
 |small _ h1 ih=>grind [rU,trans]
 |rule _ _ _ _ ih=>exact ih
theorem Ju{n:Nat}{a b:PS}(h:oo a b)(ht:BZ n a.ts)(hf:Fine n a):Fine n b:=by
 induction h with
 |refl=>omega
 |small h1 h2 ih=>grind [DB,Iy]
 |rule _ _ _ _ ih=>exact ih
theorem yJ{s:Txt}{ts:List lg}(h:pK s= .ok ts):BZ s.length ts:=by
 obtain⟨pre,rfl,_,h3,_⟩:=Bk h;intro i
 grind
theorem L3{s:Txt}{ts:List lg}(h:pK s= .ok ts):Fine s.length (qp s (gH 4 ⟨ts,0,0,0,0⟩)):=by
 have h0:Fine s.length ⟨ts,0,0,0,0⟩:=⟨.inl rfl,Int.le_refl _,adR⟩;have hr:=CK 4 ⟨ts,0,0,0,0⟩;have h1:=Ju hr (yJ h) h0;have ht:BZ s.length (gH 4 ⟨ts,0,0,0,0⟩).2.ts:=by rw[Iy hr];exact yJ h
 have h2:Fine s.length (if(aK (gH 4 ⟨ts,0,0,0,0⟩).2).kind=7 then(gH 4 ⟨ts,0,0,0,0⟩).2 else bn (gH 4 ⟨ts,0,0,0,0⟩).2):=by
  grind [DB,kO]
 unfold qp;generalize (if(aK (gH 4 ⟨ts,0,0,0,0⟩).2).kind=7 then(gH 4 ⟨ts,0,0,0,0⟩).2 else bn (gH 4 ⟨ts,0,0,0,0⟩).2)=st1 at h2⊢
 split
 ·exact yB h2 (.inl rfl) adK (Int.le_refl _)
 ·exact ahR
theorem Et(s:Txt):(aR s).2.1=0∧(aR s).2.2=0∧gC (aR s).1=0∨
  ((aR s).2.1=5∨(aR s).2.1=6)∧0≤(aR s).2.2∧(aR s).2.2≤s.length∧(aR s).1=oZ:=by
 unfold aR;cases h:pK s with
 |bad e a=>
  have:=ua h;exact .inr ⟨this.1,this.2.1,this.2.2,rfl⟩
 |ok ts=>
  have hf:=L3 h;simp only[zk];split
  ·rename_i hb
   refine .inl ⟨rfl,rfl,?_⟩;simp only;unfold qp at hb;generalize (if(aK (gH 4 ⟨ts,0,0,0,0⟩).2).kind=7 then(gH 4 ⟨ts,0,0,0,0⟩).2 else bn (gH 4 ⟨ts,0,0,0,0⟩).2)=st1 at hb
   split at hb
   ·simp_all [bI,if_pos,absurd,Int]
   omega
  ·rename_i hb
   exact .inr ⟨hf.1.resolve_left hb,hf.2.1,hf.2.2,rfl⟩
end Go.Bf
namespace Go.Bf
open Go Go.Ab Go.Proofs.YtfdgemhnlennbaaGreatDoor
theorem ru{p:bJ}(h:gC p=0):nq 1 p:=by
 cases hw:kN ⟨[],0⟩ 1 p with
 |bad e=>
  have:=uu 4 1 _ _ e rfl hw;rw[gC,hw]at h;exact(this h).elim
 |ok m=>grind [Is]
theorem RH{fs:List di}(h:∀f∈fs,eqV f.val an=false)(n:Txt):(fs.any fun f=>f.name==n)= !(eqV (eO fs n) an):=by
 induction fs with
 |nil=>rfl
 |cons f fs ih=>
  rw[FY,List.any_cons]
  grind
structure uT (c:aL):Prop where
 id:aX c.id=true
 owner:aX c.owner=true
 state:c.state∈pZ
 asc:Fq c.fields
 nfields:c.fields.length≤16
 field:∀f∈c.fields,aX f.name=true∧br f.val=true∧eqV f.val an=false
 log1:1≤c.log.length
 log2:c.log.length≤256
 actor:∀x∈c.log,aX x.actor=true∧i64 x.tick
structure dD (k:Nat) (s:aq):Prop where
 tick:0≤s.tick∧s.tick≤1099511627776
 asc:Asc s.cases
 ncases:s.cases.length≤64
 case:∀c∈s.cases,uT c
 nrev:s.reviews.length≤1000
 nnot:s.notices.length≤1000
 roles:s.roles.length≤64
 role:∀r∈s.roles,aX r.subj=true∧aX r.role=true
 pol:gC s.policy=0
 ver:0≤s.version∧s.version≤k
theorem dD.few{k:Nat}{s:aq}(h:dD k s):Few s:=by
 have h1:=h.ncases;have h2:=h.nrev;have h3:=h.nnot;have h4:=h.roles;refine⟨adK,fun c hc=>?_,fun c hc=>?_,adK,adK,adK⟩
 ·have:=(h.case c hc).nfields;omega
 ·have:=(h.case c hc).log2;omega
theorem dD.nq{k:Nat}{s:aq}(h:dD k s):nq 1 s.policy:=ru h.pol
theorem dD.Hf{k:Nat}{s:aq}(h:dD k s):i64 s.tick:=by
 have:=h.tick;constructor<;>omega
theorem KG:dD 0 zf:=by
 refine⟨adO,.nil,adO,fun c h=>aeC,adO,adO,adO,fun r h=>aeC,adV,adO⟩
theorem kI{s:Txt}(h:gQ s=true)(hn:s≠ []):aX s=true:=by
 simp_all [gQ,Bool.or_eq_true,beq_iff_eq]
structure Rl (o:OpD):Prop where
 subj:aX o.subj=true
 kind:1≤o.kind∧o.kind≤8
 case:gQ o.case=true
 field:gQ o.field=true
 to:gQ o.to=true
 val:eqV o.val an=true∨br o.val=true
 text:o.text.length≤4096
 ok:okD o=true
theorem mX{o:OpD}(h:cB o=true):Rl o:=by
 simp only[cB,Bool.and_eq_true,decide_eq_true_eq,Bool.or_eq_true,dj]at h;obtain⟨⟨⟨⟨⟨⟨⟨h1,h2⟩,h3⟩,h4⟩,h5⟩,h6⟩,h7⟩,⟨⟨h8,h9⟩,h10⟩,h11⟩:=h;exact⟨h1,⟨h8,h9⟩,h4,h5,h6,h7,h3,h10⟩
theorem yC{a b:Txt}(h:mV a b=true):b∈pZ:=by
 unfold mV at h;simp only[pZ,List.mem_cons,List.not_mem_nil,or_false]
 grind
theorem mem_modify{α:Type}{l:List α}{i:Nat}{f:α→α}{x:α}(h:x∈l.modify i f):x∈l∨∃hi:i<l.length,x=f l[i]:=by
 obtain⟨j,hj,rfl⟩:=List.mem_iff_getElem.1 h
 grind
theorem kL{α β:Type}{l:List α}{i:Nat}{f:α→α}{g:α→β}(h:∀x,g (f x)=g x):(l.modify i f).map g=l.map g:=by
 refine List.ext_getElem adR fun j h1 h2=>?_
 grind
theorem Cc{cs cs' :List aL}(h:cs'.map (·.id)=cs.map (·.id))(ha:Asc cs):Asc cs' :=by
 unfold Asc at*;have h1:(cs.map (·.id)).Pairwise lt:=adL
 rw[←h,List.pairwise_map]at h1;exact h1
theorem Pp{cs:List aL}{i:Nat}{c d:aL}(h:d∈cs.take i++ [c]++cs.drop i):d=c∨d∈cs:=by
 grind
theorem NC{k:Nat}{s:aq}{o:OpD}(hs:dD k s)(hr:bN s o=0):dD (k+1) (doD aR s o):=by
 have hf:cB o=true:=by
  unfold bN at hr
  grind
 have F:=mX hf;have vk:0≤s.version∧s.version≤((k+1:Nat):Int):=⟨hs.ver.1,by have:=hs.ver.2;omega⟩
 unfold bN at hr;rw[hf]at hr;simp only[Bool.true_eq_false,if_false]at hr;have hok:=F.ok;unfold okD at hok;have t64:=hs.Hf;unfold doD
 by_cases k1:o.kind=1
 ·simp only[k1,if_true]at hr hok⊢
  have hno:bY s.cases o.case=false:=by
   grind
  rw[hno]at hr;simp only[Bool.false_eq_true,if_false]at hr;have hlt:¬64≤s.cases.length:=fun h=>ahE
  have hc:aX o.case=true:=kI F.case adL;rw[vO hs.asc]at hno;refine {hs with asc:= ?_,ncases:= ?_,case:= ?_,ver:=vk}
  ·exact Hx hs.asc (jA s ⟨o.case,o.subj,jN,[],[]⟩ o.subj [110,101,119]) hno
  ·grind
  ·intro c h
   rcases Pp h with rfl|h
   ·exact⟨hc,F.subj,by simp[jA,pZ],.nil,ahS,fun f h=>aeC,ahS,ahS,fun x h=>by
     simp only[jA,List.nil_append,List.mem_singleton]at h;subst h;exact⟨F.subj,t64⟩⟩
   ·exact hs.case c h
 ·simp only[k1,if_false]at hr hok⊢
  by_cases k3:o.kind=3
  ·have hk:2≤o.kind∧o.kind≤4:=by omega
   simp only[hk,and_self,if_true]at hr;simp only[k3,if_true];have e2:¬(o.kind=2∨o.kind=6):=adK;simp only[k3,if_true,show¬((3:Int)=2∨(3:Int)=6) by decide,if_false,Bool.and_eq_true,Bool.not_eq_true']at hok
   have hth:bY s.cases o.case=true:=by
    unfold bX at hr
    grind
   unfold bX at hr;rw[hth]at hr;simp only[Bool.true_eq_false,if_false,k3,true_and]at hr;obtain⟨hm,hid⟩:=qF hs.asc hth;have hlt:=jP hth;have hce:bz s.cases o.case=s.cases[findD s.cases o.case]:=by
    simp_all [bz,if_pos]
   rw[hce]at hr hm;generalize hcc:s.cases[findD s.cases o.case]=c at hr hm;have hc:=hs.case c hm;have h16:¬(c.fields.length≥16∧eqV (eO c.fields o.field) an=true):=fun h=>by simp[h.1,h.2]at hr
   rw[if_neg h16]at hr;have hlg:¬c.log.length≥256:=fun h=>ahE
   have hnf:aX o.field=true:=kI F.field adL;have hvz:eqV o.val an=false:=hok.2;have hv:br o.val=true:=F.val.resolve_left adL;refine {hs with asc:= ?_,ncases:= ?_,case:= ?_,ver:=vk}
   ·exact Cc (kL fun x=>rfl) hs.asc
   ·simpa using hs.ncases
   ·intro d hd
    rcases mem_modify hd with hd|⟨hi,rfl⟩
    ·exact hs.case d hd
    ·rw[hcc]
     have hany:=RH (fun f hf=>(hc.field f hf).2.2) o.field
     have hlen:=BX (v:=o.val) (name:=o.field) hc.asc;refine⟨hc.id,hc.owner,hc.state,BW hc.asc,?_,?_,ahS,?_,?_⟩
     ·simp only[jA]
      rw[hlen,hany];have:=hc.nfields;cases he:eqV (eO c.fields o.field) an
      ·simp;omega
      ·rw[he]at h16;simp at h16⊢;omega
     ·intro f hf
      rcases vT hf with rfl|hf
      ·grind
      ·exact hc.field f hf
     ·grind [jA,adE,List.length_singleton]
     ·intro x hx
      exact ai4
  ·simp only[k3,if_false]at hok⊢
   by_cases k4:o.kind=4
   ·have hk:2≤o.kind∧o.kind≤4:=by omega
    simp only[hk,and_self,if_true]at hr;simp only[k4,if_true];have hth:bY s.cases o.case=true:=by
     unfold bX at hr
     grind
    unfold bX at hr;rw[hth]at hr;simp only[Bool.true_eq_false,if_false,k4]at hr;obtain⟨hm,hid⟩:=qF hs.asc hth;have hlt:=jP hth;have hce:bz s.cases o.case=s.cases[findD s.cases o.case]:=by
     simp_all [bz,if_pos]
    rw[hce]at hr hm;generalize hcc:s.cases[findD s.cases o.case]=c at hr hm;have hc:=hs.case c hm;simp only[show¬((4:Int)=3) by decide,false_and,if_false,show((4:Int)≠2) by decide,ne_eq,not_false_eq_true,true_and,false_or]at hr
    have hlg:¬c.log.length≥256:=fun h=>ahE
    rw[if_neg hlg]at hr;have hfo:mV c.state o.to=true:=by
     grind
    refine {hs with asc:= ?_,ncases:= ?_,case:= ?_,ver:=vk}
    ·exact Cc (kL fun x=>rfl) hs.asc
    ·simpa using hs.ncases
    ·intro d hd
     rcases mem_modify hd with hd|⟨hi,rfl⟩
     ·exact hs.case d hd
     ·rw[hcc]
      refine⟨hc.id,hc.owner,yC hfo,hc.asc,hc.nfields,hc.field,ahS,?_,?_⟩
      ·grind [jA,adE,List.length_singleton]
      ·intro x hx
       exact ai4
   ·simp only[k4,if_false]at hok⊢
    by_cases k5:o.kind=5
    ·simp only[k5,if_true]
     refine {hs with nrev:= ?_,ver:=vk}
     simpa using hs.nrev
    ·simp only[k5,if_false]at hok⊢
     by_cases k6:o.kind=6
     ·have hk:¬(2≤o.kind∧o.kind≤4):=by omega
      simp only[k6,if_true]at hr;simp only[k6,if_true];simp only[k6,or_true,if_true,Bool.and_eq_true]at hok;have hc:aX o.case=true:=kI F.case adL;have hfd:aX o.field=true:=kI F.field adL;cases hh:yG s.roles ⟨o.case,o.field⟩with
      |true=>simp only[if_true];exact {hs with ver:=vk}
      |false=>
       rw[hh]at hr;have hlt:¬s.roles.length≥64:=fun h=>ahE
       simp only[Bool.false_eq_true,if_false];refine {hs with roles:= ?_,role:= ?_,ver:=vk}
       ·grind
       ·intro r h
        rcases List.mem_append.1 h with h|h
        ·exact hs.role r h
        grind
     ·simp only[k6,if_false]
      by_cases k7:o.kind=7
      ·simp only[k7,if_true]
       by_cases hp:(aR o.text).2.1=0
       ·simp only[hp,if_true]
        have hr0:gC (aR o.text).1=0:=by
         grind [Et,absurd]
        refine {hs with pol:=hr0,ver:= ?_}
        have:=hs.ver;constructor
        ·grind
        grind
       ·simp only[hp,if_false]
        exact {hs with ver:=vk}
      ·simp only[k7,if_false]
       by_cases k8:o.kind=8
       ·simp only[k8,if_true]
        have hk:¬(2≤o.kind∧o.kind≤4):=adK;simp only[k8,if_true]at hr;have hlt:¬s.tick>1099511627776 - o.review:=fun h=>ahE
        simp only[k8,show¬((8:Int)=2∨(8:Int)=6) by decide,if_false,if_true,Bool.and_eq_true,decide_eq_true_eq]at hok
        refine {hs with tick:= ?_,ver:=vk}
        have:=hs.tick;constructor
        ·grind
        grind
       ·simp only[k8,if_false]
        exact {hs with ver:=vk}
theorem qb{k:Nat}{s:aq}(o:OpD)(hs:dD k s):dD (k+1) (dR aR s o):=by
 unfold dR
 by_cases h:bN s o=0
 ·simp_all [if_pos,NC]
 ·rw[if_neg h]
  exact {hs with ver:=⟨hs.ver.1,by have:=hs.ver.2;omega⟩}
theorem fo.eq{xs:List AV}{sz:Nat}(j:Nat)(hj:j<xs.length)(hz:xs[j].cells.length=sz)(k:AV→Prop):fo xs (j:Int) sz k=k (.pe xs[j] 0):=propext ⟨fun h=>by
 obtain⟨_,b,hb,_,hk⟩:=h;have:xs[j]? =some xs[j]:=adR;rw[show((j:Int).toNat)=j by simp,this]at hb
 cases hb;exact hk,fun h=>fo.at j hj hz h⟩
def AL(l:List bt):Prop:=l.length≤16∧∀v∈l,br v=true∧∀w∈l.head?,v.kind=w.kind
structure Qo (gs:List bp):Prop where
 len:gs.length≤64
 each:∀g∈gs,1≤g.cat∧g.cat≤4∧aX g.name=true∧AL g.bag
 dist:gs.Pairwise fun a b=>iV b.cat b.name a=false
def xu(g:bp):Int×Txt:=(g.cat,g.name)
theorem LP(gs:List bp):(gs.Pairwise fun a b=>iV b.cat b.name a=false)↔(gs.map xu).Nodup:=by
 simp[List.Nodup,List.pairwise_map,bp,iV,false,xu]
theorem ju{v:bt}(h:br v=true):AL [v]:=⟨adR,fun w hw=>adL⟩
theorem pJ{s:Txt}(h:aX s=true):br (idV s)=true:=by grind [br,idV]
theorem I3{l:List ij}(h:∀r∈l,aX r.role=true)(s:Txt):AL (cZ l s):=by
 have hv:∀v∈cZ l s,br v=true∧v.kind=5:=fun v hv=>by
  have:=List.mem_of_mem_take hv;obtain⟨r,hr,rfl⟩:=List.mem_map.1 this;exact⟨pJ adL,rfl⟩
 refine⟨by grind [cZ,List.length_take],fun v hm=>⟨(hv v hm).1,fun w hw=>?_⟩⟩
 grind
theorem LD{c:UInt8}{i j:Nat}(h:qG c j=true)(hi:i≠0):qG c i=true:=by
 simp only[qG,Bool.or_eq_true,Bool.and_eq_true,decide_eq_true_eq]at h⊢
 grind
theorem FZ{n:Txt}(h:aX n=true)(hl:n.length≤14):aX ([102,95]++n)=true:=by
 simp only[aX,Bool.and_eq_true,decide_eq_true_eq]at h⊢;obtain⟨⟨h1,h2⟩,h3⟩:=h;refine⟨⟨?_,adR⟩,adL⟩;unfold tF at h1⊢;rw[List.all_eq_true]at h1⊢
 rintro⟨c,i⟩ hp
 rw[List.mk_mem_zipIdx_iff_getElem?]at hp
 match i,hp with
 |0,hp=>cases hp;rfl
 |1,hp=>cases hp;rfl
 |i+2,hp=>
  exact LD (h1 (c,i) (List.mk_mem_zipIdx_iff_getElem?.2 hp)) adK
theorem GZ{s:Txt}(h:s∈pZ):aX s=true:=by
 simp only[pZ,List.mem_cons,List.not_mem_nil,or_false]at h;rcases h with rfl|rfl|rfl|rfl<;>kernel_rfl
theorem C2(k:Int)(h:1≤k∧k≤8):aX (cy k)=true:=by
 have:(List.range 9).all (fun n=>aX (cy n))=true:=adV
 have h2:=List.all_eq_true.1 this k.toNat adL
 rwa [show((k.toNat:Nat):Int)=k by omega]at h2
theorem NK(l:List xR)(s:Txt):br (uJ l s)=true:=by
 unfold uJ;cases l.any fun x=>x.actor==s<;>rfl
theorem I8{c:aL}(hc:uT c)(s:Txt):∀g∈cE c s,g.cat=3∧aX g.name=true∧AL g.bag:=by
 intro g hg;simp only[cE,List.mem_append,List.mem_cons,List.not_mem_nil,or_false]at hg;rcases hg with((rfl|rfl|rfl|rfl|rfl)|hg)|hg
 ·exact⟨rfl,adV,ju (pJ hc.id)⟩
 ·exact⟨rfl,adV,ju (pJ hc.owner)⟩
 ·exact⟨rfl,adV,ju (pJ (GZ hc.state))⟩
 ·exact⟨rfl,adV,ju adV⟩
 ·exact⟨rfl,adV,ju (NK _ _)⟩
 ·cases hl:c.log.getLast? with
  |none=>grind
  |some x=>
   rw[hl]at hg;rw[List.mem_singleton.1 hg];exact⟨rfl,adV,ju (pJ (hc.actor x (List.mem_of_getLast? hl)).1)⟩
 ·obtain⟨f,hf,rfl⟩:=List.mem_map.1 hg
  obtain⟨hf1,hf2⟩:=List.mem_filter.1 hf;have hf2:f.name.length≤14:=adL;obtain⟨h1,h2,_⟩:=hc.field f hf1;exact⟨rfl,FZ h1 hf2,ju h2⟩
theorem I7{c:aL}(hc:uT c)(s:Txt):((cE c s).map xu).Nodup:=by
 have hfn:(((c.fields.filter fun f=>decide (f.name.length≤14)).map fun f=>(⟨3,[102,95]++f.name,[f.val]⟩:bp)).map xu).Nodup:=by
  rw[List.map_map,List.Nodup,List.pairwise_map];refine((List.Pairwise.filter _ hc.asc).imp fun {a b} hab he=>?_)
  simp_all [Function.comp,xu,Prod.mk.injEq,true_and,List.append_cancel_left_eq,lt_irrefl]
 have hff:∀x∈((c.fields.filter fun f=>decide (f.name.length≤14)).map fun f=>(⟨3,[102,95]++f.name,[f.val]⟩:bp)).map xu,∃t,x=(3,102::t):=by
  intro x hx;obtain⟨g,hg,rfl⟩:=List.mem_map.1 hx;obtain⟨f,hf,rfl⟩:=List.mem_map.1 hg;exact⟨_,rfl⟩
 unfold cE;rw[List.map_append,List.nodup_append];refine⟨?_,hfn,?_⟩
 ·cases c.log.getLast? with
  |none=>simp[xu,idT]
  |some x=>simp[xu,idT]
 ·intro a ha b hb
  obtain⟨t,rfl⟩:=hff b hb;intro e;cases hl:c.log.getLast? with
  |none=>
   simp_all [xu,idT]
  |some x=>
   simp_all [xu,idT]
theorem I2{k:Nat}{s:aq}{o:OpD}(hs:dD k s)(hf:cB o=true):Qo (fI s o):=by
 have F:=mX hf;have hcs:∀g∈(if bY s.cases o.case=true∧o.kind≠6 then cE (bz s.cases o.case) o.subj else []),g.cat=3∧aX g.name=true∧AL g.bag:=by
  intro g hg;split at hg
  ·rename_i ht
   exact I8 (hs.case _ (qF hs.asc ht.1).1) _ g hg
  ·cases hg
 have hcd:((if bY s.cases o.case=true∧o.kind≠6 then cE (bz s.cases o.case) o.subj else []).map xu).Nodup:=by
  split
  ·rename_i ht
   exact I7 (hs.case _ (qF hs.asc ht.1).1) _
  ·exact .nil
 have hcl:(if bY s.cases o.case=true∧o.kind≠6 then cE (bz s.cases o.case) o.subj else []).length≤22:=by
  split
  ·rename_i ht
   have hc:=hs.case _ (qF hs.asc ht.1).1;have h16:=hc.nfields;have:((bz s.cases o.case).fields.filter fun f=>decide (f.name.length≤14)).length≤(bz s.cases o.case).fields.length:=List.length_filter_le _ _
   simp only[cE,adE,adA,List.length_cons,List.length_nil];cases (bz s.cases o.case).log.getLast? <;>simp<;>omega
  ·simp
 unfold fI;generalize (if bY s.cases o.case=true∧o.kind≠6 then cE (bz s.cases o.case) o.subj else [])=C at hcs hcd hcl⊢
 have e1:(if o.field= []then []else [(⟨2,[102,105,101,108,100],[idV o.field]⟩:bp)])=if o.field= []then []else [(⟨2,[102,105,101,108,100],[idV o.field]⟩:bp)]:=rfl
 have hro:AL (cZ s.roles o.subj):=I3 (fun r hr=>(hs.role r hr).2) _
 have htk:br ⟨4,s.tick,[]⟩=true:=by
  have:=hs.tick;simp[br,this]
 have hac:=pJ (C2 o.kind F.kind);have hsu:=pJ F.subj;refine⟨?_,?_,?_⟩
 ·by_cases p1:o.field= []<;>by_cases p2:o.to= []<;>simp[p1,p2]<;>omega
 ·intro g hg
  simp only[List.mem_append,List.mem_cons,List.not_mem_nil,or_false]at hg;rcases hg with((((rfl|rfl|rfl)|hg)|hg)|rfl)|hg
  ·exact⟨adR,adR,adN,ju hsu⟩
  ·exact⟨adR,adR,adN,hro⟩
  ·exact⟨adR,adR,adN,ju hac⟩
  ·split at hg
   ·cases hg
   ·rename_i hne
    rw[List.mem_singleton.1 hg];exact⟨adR,adR,adN,ju (pJ (kI F.field hne))⟩
  ·split at hg
   ·cases hg
   ·rename_i hne
    rw[List.mem_singleton.1 hg];exact⟨adR,adR,adN,ju (pJ (kI F.to hne))⟩
  ·exact⟨adR,adR,adN,ju htk⟩
  ·obtain⟨h1,h2,h3⟩:=hcs g hg
   exact⟨adK,adK,h2,h3⟩
 ·rw[LP,List.map_append,List.nodup_append]
  refine⟨?_,hcd,?_⟩
  ·by_cases p1:o.field= []<;>by_cases p2:o.to= []<;>simp[p1,p2,xu,idT]
  ·intro a ha b hb e
   subst e;obtain⟨g,hg,rfl⟩:=List.mem_map.1 hb;have h3:=(hcs g hg).1;have hne:∀x∈([⟨1,idT,[idV o.subj]⟩,⟨1,[114,111,108,101],cZ s.roles o.subj⟩,⟨2,[110,97,109,101],[idV (cy o.kind)]⟩]++(if o.field= []then []else [⟨2,[102,105,101,108,100],[idV o.field]⟩])++(if o.to= []then []else [⟨2,[116,111],[idV o.to]⟩])++ [⟨4,[110,111,119],[⟨4,s.tick,[]⟩]⟩]:List bp),x.cat≠3:=by
    intro x hx;simp only[List.mem_append,List.mem_cons,List.not_mem_nil,or_false]at hx;rcases hx with(((rfl|rfl|rfl)|hx)|hx)|rfl
    ·simp
    ·simp
    ·simp
    ·split at hx
     ·cases hx
     ·rw[List.mem_singleton.1 hx];simp
    ·split at hx
     ·cases hx
     ·rw[List.mem_singleton.1 hx];simp
    ·simp
   obtain⟨x,hx,he⟩:=List.mem_map.1 ha;have:x.cat=g.cat:=congrArg Prod.fst he;exact hne x hx (by rw[this,h3])
def sL:aq→List AV
 |⟨tick,cs,rv,nt,ro,.mk pid set alg tgt rules kids obls,ver⟩=>[.i tick,gm cs,kE rv,lH nt,dZ ro,.s pid,.b set,.i alg,aV tgt,.sl (rules.map aC) .no,.sl (fH kids) .no,aA obls,.i ver]
theorem vM(s:aq):cO s= .agg (sL s):=by
 obtain⟨tick,cs,rv,nt,ro,⟨pid,set,alg,tgt,rules,kids,obls⟩,ver⟩:=s;rfl
structure Stays (cs cs' :List aL) (id:Txt):Prop where
 len:cs'.length≤cs.length+1
 ids:∀c∈cs,∃d∈cs',d.id=c.id
 rest:∀c∈cs,c.id≠id→c∈cs'
abbrev aS:=Nat×Nat
def naM:aS:=(0,0)
def bf:aS:=(2,0)
def cF:aS:=(0,2)
def wI:aS:=(1,0)
def wH:aS:=(0,1)
def mZ:aS:=(1,1)
def vr:List aS:=[naM,bf,cF,wI,wH,mZ]
abbrev jS:=aS×List cC
def gR(m:aS):aS:=if m=bf then wI else if m=cF then wH else m
def oO(a b:aS):aS:=(max a.1 b.1,max a.2 b.2)
def E9(m:aS):aS:=(m.2,m.1)
def qY(j:aS):aS:=
 if j.2=2 then cF else if j.2=1∧1≤j.1 then mZ else if j.2=1 then wH else if j.1=2 then bf else if j.1=1 then wI else naM
def xF(l:List aS):aS:=l.foldl oO naM
def firstM(l:List aS):aS:=(l.find? fun m=>decide (m≠naM)).getD naM
def zR(m:aS):Bool:=decide (m=naM∨m=bf∨m=cF)
def oU:List aS→aS→aS
 | [],j=>j
 |m::r,j=>if zR m=false then mZ else oU r (if j=naM then m else if m≠naM then mZ else j)
def ia(alg:Int)(l:List aS):aS:=
 if alg=1 then qY (xF l)
 else if alg=2 then E9 (qY (E9 (xF l)))
 else if alg=3 then firstM l
 else if alg=4 then oU l naM
 else if alg=5 then(if bf∈l then bf else cF)
 else if alg=6 then(if cF∈l then cF else bf)
 else naM
def yd(gs:List bp)(a:qu):List bt:=getD gs a.cat a.name
def nT(a b:bt):Option Bool:=
 if br a=false∨br b=false∨a.kind≠b.kind∨a.kind=1 then none
 else if a.kind=3∨a.kind=5 then some (Op.bytesLess a.s b.s)else some (decide (a.n<b.n))
def cS(m:bQ)(v:bt):Option Bool:=
 if m.op=1 then(if v.kind=m.val.kind then some (eqV v m.val)else none)
 else if m.op=2 then nT v m.val else nT m.val v
def j0(gs:List bp)(m:bQ):Nat:=
 if yd gs m.attr= []∧m.attr.must=true then 1
 else if(yd gs m.attr).any fun v=>cS m v==some true then 2
 else if(yd gs m.attr).any fun v=>cS m v==none then 1 else 0
def C4(gs:List bp)(l:List bQ):Nat:=l.foldl (fun a m=>min a (j0 gs m)) 2
def Af(gs:List bp)(l:List (List bQ)):Nat:=l.foldl (fun a x=>max a (C4 gs x)) 0
def nj(gs:List bp)(t:gj):Nat:=t.foldl (fun a x=>min a (Af gs x)) 2
structure jI where
 bag:List bt
 v:bt
 e:Int
def dN(b:Bool):bt:=⟨1,if b then 1 else 0,[]⟩
def jh(b:Bool):jI:=⟨[],dN b,0⟩
def isI(x:jI)(n:Int):Bool:=x.e==0 && eqV x.v ⟨1,n,[]⟩
abbrev w64(n:Int):Int:=IntKind.i64.wrap n
def Lf(a b:Int):Bool:=decide (0<b) && decide (w64 (9223372036854775807 - b)<a)||decide (b<0) && decide (a<w64 (-9223372036854775808 - b))
def ND(a b:Int):Bool:=decide (0<b) && decide (a<w64 (-9223372036854775808+b))||decide (b<0) && decide (w64 (9223372036854775807+b)<a)
def Kc(a b:Int):Bool:=a== -1 && b== -9223372036854775808||b== -1 && a== -9223372036854775808||a !=0 && w64 ((w64 (a*b)).tdiv a) !=b
def ot(e:Int):bt×Int:=(an,e)
def Ap(o:Bool)(n:Int):bt×Int:=if o then ot 3 else(⟨2,w64 n,[]⟩,0)
def gZ(op:Int)(l:List bt):bt×Int:=
 if¬(6≤op∧op≤13)∨l.length≠(if op=11 then 1 else 2)∨(l.all br)=false then ot 1
 else
  let a:=l.getD 0 an;let b:=l.getD 1 an
  if op=6 then(if a.kind=b.kind then(dN (eqV a b),0)else ot 2)
  else if op=7 then(match nT a b with
   |some x=>(dN x,0)
   |none=>ot 2)
  else if op=8∨op=9∨op=10 then
   (if l.all fun v=>v.kind==2 then(if op=8 then Ap (Lf a.n b.n) (a.n+b.n)else if op=9 then Ap (ND a.n b.n) (a.n - b.n)else Ap (Kc a.n b.n) (a.n*b.n))else ot 2)
  else if(l.all fun v=>v.kind==1)=false then ot 2
  else if op=11 then(dN (a.n==0),0)
  else if op=12 then(dN (a.n==1 && b.n==1),0)
  else(dN (a.n==1||b.n==1),0)
def opsOf(op:Int):Nat:=if op=1∨op=2 then 0 else if op=3∨op=4∨op=11 then 1 else 2
def AJ(r:bt×Int):jI:=⟨[],r.1,r.2⟩
def lG(gs:List bp)(n:aQ)(l:List jI):jI:=
 if n.op=1 then⟨[],n.val,0⟩
 else if n.op=2 then(if yd gs n.attr= []∧n.attr.must=true then⟨[],an,4⟩else⟨yd gs n.attr,an,0⟩)
 else if(n.op=12∨n.op=13)∧(l.any fun x=>isI x (n.op - 12))=true then jh (n.op==13)
 else match l.find? fun x=>x.e !=0 with
  |some x=>⟨[],an,x.e⟩
  |none=>
   if n.op=3 then(match (l.headD ⟨[],an,0⟩).bag with
    | [v]=>⟨[],v,0⟩
    |_=>⟨[],an,4⟩)
   else if n.op=4 then⟨[],⟨2,(l.headD ⟨[],an,0⟩).bag.length,[]⟩,0⟩
   else if n.op=5 then jh ((l.headD ⟨[],an,0⟩).bag.any fun v=>eqV v (l.getD 1 ⟨[],an,0⟩).v)
   else AJ (gZ n.op (l.map (·.v)))
def zQ(gs:List bp)(st:List jI)(n:aQ):List jI:=st.take (st.length - opsOf n.op)++ [lG gs n (st.drop (st.length - opsOf n.op))]
def wJ(gs:List bp)(l:List aQ):jI:=if l= []then AJ (ot 1)else(l.foldl (zQ gs) []).headD (AJ (ot 1))
def qJ(gs:List bp)(l:List aQ):Nat:=if l.isEmpty then 2 else if isI (wJ gs l) 1 then 2 else if isI (wJ gs l) 0 then 0 else 1
def eN(l:List cC)(m:aS):List cC:=l.filter fun o=>o.on==1 && m==bf||o.on==2 && m==cF
def nP(r:cR)(t c:Nat):jS:=
 let m:=if r.deny then cF else bf
 if t=0∨t=2∧c=0 then(naM,[])else if t=1∨c=1 then(gR m,[])else(m,eN r.obls m)
def iC(gs:List bp)(r:cR):jS:=nP r (nj gs r.tgt) (qJ gs r.cond)
def eR(alg:Int)(m:aS)(parts:List jS):List cC:=
 if alg=3 then((parts.find? fun x=>x.1==m).map (·.2)).getD []else((parts.filter fun x=>x.1==m).map (·.2)).flatten
def qi(alg:Int)(obls:List cC)(t:Nat)(parts:List jS):jS:=
 let m:=ia alg (parts.map (·.1))
 if t=0 then(naM,[])else if t=1 then(gR m,[])else if m≠bf∧m≠cF then(m,[])
 else(m,eR alg m parts++eN obls m)
mutual
def fG(gs:List bp):bJ→jS
 |.mk id set alg tgt rules kids obls=>if nj gs tgt=0 then(naM,[])else qi alg obls (nj gs tgt) (rules.map (iC gs)++mT gs kids)
def mT(gs:List bp):List bJ→List jS
 | []=>[]
 |k::r=>fG gs k::mT gs r
end
theorem tN(gs:List bp):∀l:List bJ,mT gs l=l.map (fG gs)
 | []=>adV
 |k::r=>by simp[mT,tN gs r]
def sW:bJ→gj
 |.mk _ _ _ t _ _ _=>t
def oP:gj→Option bQ
 | []=>none
 | [l]::r=>match l.find? fun m=>m.op==1 && !m.attr.must with
  |some m=>some m
  |none=>oP r
 |_::r=>oP r
def sR(gs:List bp)(p:bJ):Bool:=match oP (sW p)with
 |none=>true
 |some m=>decide (j0 gs m≠0)
mutual
def lI(gs:List bp):bJ→bJ
 |.mk id set alg tgt rules kids obls=> .mk id set alg tgt rules (kD gs kids) obls
def kD(gs:List bp):List bJ→List bJ
 | []=>[]
 |k::r=>if sR gs k then lI gs k::kD gs r else kD gs r
end
end Go.Bf
namespace Go.Ab
open Go
section
variable {U : TypeId → TI} {ρ : Env} {h0 h h' : Heap} {sz id : Nat} {tb : TypeId} {y : AV} {xs : List AV} {e : TypeId} {K : AV → Prop} {x : IntKind} {m : Int}
theorem ve(xs:List AV)(j:Nat):au xs=au (xs.take j)++au (xs.drop j):=ag9
theorem OwE.cut(hw:OwE tb h0 h sz y xs){hi:Operand}(j:Nat)(hm:ev ρ hi=some (.v (.int x m)))(hj:m=j)(hl:j≤xs.length)(hz:(U tb).sz=sz)(h1:sz≠0)
  (hk:∀z,OwE tb h0 h sz z (xs.take j)→(z=y∨∃id l l' c,y= .ob id 0 l c sz∧z= .ob id 0 l' c sz)→K z):gU U ρ y none (some hi) none K (.slice tb):=by
 subst hj;subst hz
 rcases hw with⟨rfl,rfl⟩|⟨id,h2,cap,rest,rfl,h3,h4,h5,h6⟩
 ·rw[rz,fM,hm]
  refine⟨h1,?_⟩;have:j=0:=adL;subst this;refine⟨adK,adR,?_⟩;exact hk _ (.inl ⟨rfl,rfl⟩) (.inl rfl)
 ·rw[BK]
  refine⟨h1,rfl,?_⟩;simp only[mJ,fM,hm,dF,nR];refine⟨adK,adK,adK,?_⟩;simp only[Int.toNat_natCast,Nat.zero_mul,Nat.add_zero,Nat.sub_zero,show(((0:Nat):Int)).toNat=0 from rfl]
  have e1:(xs.take j).length=j:=adL;have hs:Sized (U tb).sz (xs.drop j):=fun z hz=>h6 z (List.mem_of_mem_drop hz)
  refine hk _ (.inr ⟨id,h2,cap,au (xs.drop j)++rest,by rw[e1],by grind [ve,List.append_assoc],?_,adK,fun z hz=>h6 z (List.mem_of_mem_take hz)⟩) (.inr ⟨id,_,_,cap,rfl,rfl⟩)
  rw[adE,aZ hs,h4,List.length_drop,e1,←Nat.add_mul]
  grind
theorem OwE.from(hw:OwE tb h0 h sz y xs){lo:Operand}(j:Nat)(hm:ev ρ lo=some (.v (.int x m)))(hj:m=j)(hl:j≤xs.length)(hz:(U tb).sz=sz)(h1:sz≠0)
  (hk:∀z,Rd h sz z (xs.drop j)→K z):gU U ρ y (some lo) none none K (.slice tb):=by
 subst hj;subst hz
 rcases hw with⟨rfl,rfl⟩|⟨id,h2,cap,rest,rfl,h3,h4,h5,h6⟩
 ·have:j=0:=by grind
  subst this;rw[rA,fM,hm];refine⟨h1,by simp[Sized],?_⟩
  exact⟨adK,adR,adR,hk _ (.sl (by intro z hz;grind [nF]) _)⟩
 ·rw[BK]
  refine⟨h1,rfl,?_⟩;simp only[mJ,fM,hm,dF,nR];refine⟨adK,adK,adK,?_⟩;simp only[Int.toNat_natCast,Nat.zero_add];have e1:(xs.drop j).length=xs.length - j:=adR;have hs:Sized (U tb).sz (xs.drop j):=fun z hz=>h6 z adL
  have ht:Sized (U tb).sz (xs.take j):=fun z hz=>h6 z adL
  have e2:=aZ hs;have e3:=aZ ht;refine hk _ ⟨hs,.inr ⟨id,j*(U tb).sz,cap - j,_,tb,by rw[e1],h3,?_,?_⟩⟩
  ·grind [ve,adE]
  grind [ve,List.append_assoc,List.drop_left,List.take_left]
end
end Go.Ab
namespace Go.Bf
open Go Go.Ab Go.Proofs.YtfdgemhnlennbaaGreatDoor
def hbit:Nat→Nat
 |0=>0
 |1=>4602678819172646912
 |_=>4607182418800017408
def aN(m:aS):AV:=.v (.complex .f64 (hbit m.1) (hbit m.2))
def M9(m:aS):Prop:=m.1≤2∧m.2≤2
def M6(m:aS):Prop:=m∈vr
instance (m:aS):Decidable (M9 m):=inferInstanceAs (Decidable (_∧_))
instance (m:aS):Decidable (M6 m):=inferInstanceAs (Decidable (m∈vr))
theorem M6.m9{m:aS}(h:M6 m):M9 m:=by
 exact aiv
theorem le2{n:Nat}(h:n≤2):n=0∨n=1∨n=2:=adK
theorem ze{m n:aS}(hmm:M9 m)(hn:M9 n)(K:AV→Prop):gx .eql (.complex .f64 (hbit m.1) (hbit m.2)) (.complex .f64 (hbit n.1) (hbit n.2)) K=K (.b (m==n)):=
 oT (fun P ty w=>by
  exact ais) K
theorem Ef{m n:aS}(hmm:M9 m)(hn:M9 n)(K:AV→Prop):gx .neq (.complex .f64 (hbit m.1) (hbit m.2)) (.complex .f64 (hbit n.1) (hbit n.2)) K=K (.b (!(m==n))):=
 oT (fun P ty w=>by
  exact ais) K
structure Nb (m:aS):Prop where
 na:∀K,gx .eql (.complex .f64 (hbit m.1) (hbit m.2)) (.complex .f64 0 0) K=K (.b (m==naM))
 pe:∀K,gx .eql (.complex .f64 (hbit m.1) (hbit m.2)) (.complex .f64 4607182418800017408 0) K=K (.b (m==bf))
 de:∀K,gx .eql (.complex .f64 (hbit m.1) (hbit m.2)) (.complex .f64 0 4607182418800017408) K=K (.b (m==cF))
 ip:∀K,gx .eql (.complex .f64 (hbit m.1) (hbit m.2)) (.complex .f64 4602678819172646912 0) K=K (.b (m==wI))
 id:∀K,gx .eql (.complex .f64 (hbit m.1) (hbit m.2)) (.complex .f64 0 4602678819172646912) K=K (.b (m==wH))
 ib:∀K,gx .eql (.complex .f64 (hbit m.1) (hbit m.2)) (.complex .f64 4602678819172646912 4602678819172646912) K=K (.b (m==mZ))
 nna:∀K,gx .neq (.complex .f64 (hbit m.1) (hbit m.2)) (.complex .f64 0 0) K=K (.b (!(m==naM)))
 npe:∀K,gx .neq (.complex .f64 (hbit m.1) (hbit m.2)) (.complex .f64 4607182418800017408 0) K=K (.b (!(m==bf)))
 nde:∀K,gx .neq (.complex .f64 (hbit m.1) (hbit m.2)) (.complex .f64 0 4607182418800017408) K=K (.b (!(m==cF)))
theorem nb{m:aS}(h:M9 m):Nb m:=
 ⟨ze (n:=naM) h adO,ze (n:=bf) h adO,ze (n:=cF) h adO,ze (n:=wI) h adO,ze (n:=wH) h adO,ze (n:=mZ) h adO,
  Ef (n:=naM) h adO,Ef (n:=bf) h adO,Ef (n:=cF) h adO⟩
theorem QV{a b:Nat}(ha:a≤2)(hb:b≤2)(k:AV→Prop):Am [.v (.float .f64 (hbit a)),.v (.float .f64 (hbit b))] k=k (.v (.float .f64 (hbit (max a b)))):=
 Gs (fun P ts ty w=>by
  rcases le2 ha with rfl|rfl|rfl<;>rcases le2 hb with rfl|rfl|rfl<;>rfl) k
structure Fb (a:Nat):Prop where
 one:∀K,gx .eql (.float .f64 (hbit a)) (.float .f64 4607182418800017408) K=K (.b (a==2))
 half:∀K,gx .eql (.float .f64 (hbit a)) (.float .f64 4602678819172646912) K=K (.b (a==1))
 ge:∀K,gx .geq (.float .f64 (hbit a)) (.float .f64 4602678819172646912) K=K (.b (decide (1≤a)))
theorem fb{a:Nat}(h:a≤2):Fb a:=by
 rcases le2 h with rfl|rfl|rfl<;>
  exact⟨oT fun P ty w=>rfl,oT fun P ty w=>rfl,oT fun P ty w=>rfl⟩
end Go.Bf
namespace Go.Proofs.YtfdgemhnlennbaaGreatDoor
open Go Go.Ab Go.Bf
theorem CB(m:aS)(hmm:M6 m)(h:Heap):ai Tryz.prog 272 [aN m] h fun r h' =>r= .b true∧h' =h:=by
 have hn:ai Tryz.prog 138 [aN m] h fun r h' =>(∃c l,r= .s (c::l))∧h' =h:=by
  obtain⟨n1,n2,n3,n4,n5,n6⟩:=nb hmm.m9;refine adJ Tryz.func138 16 [.tmp 2] fun hwf=>?_
  cases d1:(m==naM)
  case true=>simp only[go_sem,aN,n1,d1];exact .same (.refl _) ⟨⟨_,_,rfl⟩,rfl⟩
  cases d2:(m==bf)
  case true=>simp only[go_sem,aN,n1,n2,d1,d2];exact .same (.refl _) ⟨⟨_,_,rfl⟩,rfl⟩
  cases d3:(m==cF)
  case true=>simp only[go_sem,aN,n1,n2,n3,d1,d2,d3];exact .same (.refl _) ⟨⟨_,_,rfl⟩,rfl⟩
  cases d4:(m==wI)
  case true=>simp only[go_sem,aN,n1,n2,n3,n4,d1,d2,d3,d4];exact .same (.refl _) ⟨⟨_,_,rfl⟩,rfl⟩
  cases d5:(m==wH)
  case true=>simp only[go_sem,aN,n1,n2,n3,n4,n5,d1,d2,d3,d4,d5];exact .same (.refl _) ⟨⟨_,_,rfl⟩,rfl⟩
  have d6:(m==mZ)=true:=by
   unfold M6 vr at hmm
   grind
  simp only[go_sem,aN,n1,n2,n3,n4,n5,n6,d1,d2,d3,d4,d5,d6];exact .same (.refl _) ⟨⟨_,_,rfl⟩,rfl⟩
 refine adJ Tryz.func272 6 [.tmp 2] fun hwf=>?_
 simp only[go_sem];refine hn.mono ?_
 rintro r h' ⟨⟨c,l,rfl⟩,rfl⟩
 exact ah8
theorem yL(m:aS)(hmm:M9 m)(h:Heap):ai Tryz.prog 245 [aN m] h fun r h' =>r=aN (gR m)∧h' =h:=by
 obtain⟨n1,n2,n3,n4,n5,n6⟩:=nb hmm;refine adJ Tryz.func245 9 [.tmp 2] fun hwf=>?_
 cases d2:(m==bf)
 case true=>simp only[go_sem,aN,n2,d2];exact .same (.refl _) ⟨by rw[gR,if_pos adL];rfl,rfl⟩
 cases d3:(m==cF)
 case true=>simp only[go_sem,aN,n2,n3,d2,d3];exact .same (.refl _) ⟨by rw[gR,if_neg adL,if_pos adL];rfl,rfl⟩
 simp only[go_sem,aN,n2,n3,d2,d3];exact .same (.refl _) ⟨by rw[gR,if_neg adL,if_neg adL];rfl,rfl⟩
theorem uq(m:aS)(h:Heap):ai Tryz.prog 300 [aN m] h fun r h' =>r= .tup [.v (.float .f64 (hbit m.1)),.v (.float .f64 (hbit m.2))]∧h' =h:=by
 refine adJ Tryz.func300 10 [.tmp 2,.tmp 3] fun hwf=>?_
 simp only[go_sem,aN];exact adT
theorem Q1(a b:Nat)(h:Heap):ai Tryz.prog 301 [.v (.float .f64 (hbit a)),.v (.float .f64 (hbit b))] h fun r h' =>r=aN (a,b)∧h' =h:=by
 refine adJ Tryz.func301 8 [.tmp 4] fun hwf=>?_
 exact ah8
theorem Qb(m:aS)(h:Heap):ai Tryz.prog 275 [aN m] h fun r h' =>r=aN (E9 m)∧h' =h:=by
 refine adJ Tryz.func275 13 [.tmp 2] fun hwf=>?_
 simp only[go_sem];refine(uq m _).pthen ?_;simp only[go_sem];refine(Q1 m.2 m.1 _).pthen ?_;exact ah8
theorem O1(a b:aS)(ha:M9 a)(hb:M9 b)(h:Heap):ai Tryz.prog 273 [aN a,aN b] h fun r h' =>r=aN (oO a b)∧h' =h:=by
 have m1:=QV ha.1 hb.1;have m2:=QV ha.2 hb.2;refine adJ Tryz.func273 26 [.tmp 4] fun hwf=>?_
 simp only[go_sem];refine(uq a _).pthen ?_;simp only[go_sem];refine(uq b _).pthen ?_;simp only[go_sem,m1,m2];refine(Q1 _ _ _).pthen ?_;exact ah8
theorem M9.join{a b:aS}(ha:M9 a)(hb:M9 b):M9 (oO a b):=⟨Nat.max_le.2 ⟨ha.1,hb.1⟩,Nat.max_le.2 ⟨ha.2,hb.2⟩⟩
theorem Iq(j:aS):M6 (qY j):=by
 unfold qY
 repeat' split
 all_goals decide
theorem Ir(j:aS)(hj:M9 j)(h:Heap):ai Tryz.prog 274 [aN j] h fun r h' =>r=aN (qY j)∧h' =h:=by
 obtain⟨p1,p2,p3⟩:=fb hj.1;obtain⟨q1,q2,q3⟩:=fb hj.2;refine adJ Tryz.func274 29 [.tmp 2] fun hwf=>?_
 simp only[go_sem];refine(uq j _).pthen ?_;cases d1:(j.2==2)
 case true=>simp only[go_sem,q1,d1];exact .same (.refl _) ⟨by rw[qY,if_pos adL];rfl,rfl⟩
 have e1:¬j.2=2:=adL;cases d2:(j.2==1)
 case true=>
  have e2:j.2=1:=adL;cases d3:decide (1≤j.1)
  ·simp only[go_sem,p3,q1,q2,d1,d2,d3];exact .same (.refl _) ⟨by rw[qY,if_neg e1,if_neg adL,if_pos e2];rfl,rfl⟩
  ·simp only[go_sem,p3,q1,q2,d1,d2,d3];exact .same (.refl _) ⟨by rw[qY,if_neg e1,if_pos ⟨e2,adC d3⟩];rfl,rfl⟩
 have e2:¬j.2=1:=adL;cases d4:(j.1==2)
 case true=>simp only[go_sem,p1,q1,q2,d1,d2,d4];exact .same (.refl _) ⟨by rw[qY,if_neg e1,if_neg (fun h=>e2 h.1),if_neg e2,if_pos adL];rfl,rfl⟩
 cases d5:(j.1==1)
 case true=>simp only[go_sem,p1,p2,q1,q2,d1,d2,d4,d5];exact .same (.refl _) ⟨by rw[qY,if_neg e1,if_neg (fun h=>e2 h.1),if_neg e2,if_neg adL,if_pos adL];rfl,rfl⟩
 simp only[go_sem,p1,p2,q1,q2,d1,d2,d4,d5];exact .same (.refl _) ⟨by rw[qY,if_neg e1,if_neg (fun h=>e2 h.1),if_neg e2,if_neg adL,if_neg adL];rfl,rfl⟩
end Go.Proofs.YtfdgemhnlennbaaGreatDoor
namespace Go.Bf
open Go Go.Ab Go.Proofs.YtfdgemhnlennbaaGreatDoor
def yS(a b:bt):Int:=if br a=false∨br b=false then 1 else 2
def lE(a b:bt):AV:=match nT a b with
 |some x=> .tup [.b x,.i 0]
 |none=> .tup [.b false,.i (yS a b)]
theorem Bj{a b:bt}(h:br a=false∨br b=false):lE a b= .tup [.b false,.i 1]:=by
 unfold lE nT;rw[if_pos adL]
 simp_all [yS,if_pos]
theorem yR{a b:bt}(h1:br a=true)(h2:br b=true)(h:a.kind≠b.kind∨a.kind=1):lE a b= .tup [.b false,.i 2]:=by
 simp_all [lE,nT,if_pos,yS]
theorem Pf{a b:bt}(h1:br a=true)(h2:br b=true)(h:a.kind=b.kind)(h0:a.kind≠1)(ht:a.kind=3∨a.kind=5):lE a b= .tup [.b (Op.bytesLess a.s b.s),.i 0]:=by
 simp_all [lE,nT,if_neg,if_pos]
theorem Pe{a b:bt}(h1:br a=true)(h2:br b=true)(h:a.kind=b.kind)(h0:a.kind≠1)(ht:¬(a.kind=3∨a.kind=5)):lE a b= .tup [.b (decide (a.n<b.n)),.i 0]:=by
 simp_all [lE,nT,if_neg]
end Go.Bf
namespace Go.Proofs.YtfdgemhnlennbaaGreatDoor
open Go Go.Ab Go.Bf
theorem zT(k:Int)(h:Heap):ai Tryz.prog 190 [.i k] h fun r h' =>r= .b (k==3||k==5)∧h' =h:=by
 refine adJ Tryz.func190 9 [.tmp 2] fun hwf=>?_
 cases d1:(k==3)<;>cases d2:(k==5)
 all_goals
  simp only[go_sem,d1,d2];exact adT
theorem CA(a b:bt)(h:Heap):ai Tryz.prog 281 [aP a,aP b] h fun r h' =>r=lE a b∧h' =h:=by
 have ha:=fun(G:Heap)=>fU a G
 have hb:=fun(G:Heap)=>fU b G
 simp only[aP]at ha hb;refine adJ Tryz.func281 40 [.tmp 4,.tmp 5] fun hwf=>?_
 simp only[go_sem,aP];intro i1 h1;simp only[go_sem];intro i2 h2;have n21:=aH h2;have n2:=aB h2;have hs:∀x y,Ab.Sub h (upd (upd h i1 x) i2 y):=fun x y=>((Sub.refl h).put h1 x).put n2 y
 simp only[go_sem,ak,n21.symm];refine(ha _).pthen ?_;cases da:br a
 ·simp only[go_sem]
  exact .mk _ (.refl _) (hs _ _) ⟨by rw[Bj (.inl da)];rfl,rfl⟩
 simp only[go_sem];refine(hb _).pthen ?_;cases db:br b
 ·simp only[go_sem]
  exact .mk _ (.refl _) (hs _ _) ⟨by rw[Bj (.inr db)];rfl,rfl⟩
 cases dk:(a.kind !=b.kind)
 case true=>
  simp only[go_sem,ak,n21.symm,dk];exact .mk _ (.refl _) (hs _ _) ⟨by rw[yR da db (.inl adL)];rfl,rfl⟩
 have ek:a.kind=b.kind:=adL;cases d1:(a.kind==1)
 case true=>
  simp only[go_sem,ak,n21.symm,dk,d1];exact .mk _ (.refl _) (hs _ _) ⟨by rw[yR da db (.inr adL)];rfl,rfl⟩
 have e1:a.kind≠1:=adL;simp only[go_sem,ak,n21.symm,dk,d1];refine(zT _ _).pthen ?_;cases dt:(a.kind==3||a.kind==5)
 ·simp only[go_sem,ak,n21.symm]
  exact .mk _ (.refl _) (hs _ _) ⟨by rw[Pe da db ek e1 adL];rfl,rfl⟩
 ·simp only[go_sem,ak,n21.symm]
  exact .mk _ (.refl _) (hs _ _) ⟨by rw[Pf da db ek e1 adL];rfl,rfl⟩
def JF(bag:List bt)(must:Bool):AV:=if bag= []∧must=true then .tup [.sl [] .no,.i 4]else .tup [.sl (bag.map aP) .no,.i 0]
theorem HR(gs:List bp)(cat:Int)(name:Txt)(must:Bool)(hl:gs.length≤1000000000)(hb:∀g∈gs,g.bag.length≤1000000)(h:Heap):ai Tryz.prog 247 [bL gs,.agg [.i cat,.s name,.b must]] h fun r h' =>r=JF (getD gs cat name) must∧h' =h:=by
 have hpl:=fun G=>M1 gs cat name hl G
 simp only[bL]at hpl;have frz:∀(x:AV) (e:Int),Weak x (.sl [] .no)→Weak (.tup [x,.i e]) (.tup [.sl [] .no,.i e]):=fun x e hx=> .tup _ _ rfl fun i a b=>by
  rcases i with _|_|i
  ·grind
  ·exact ae4
  grind
 refine adJ Tryz.func247 30 [.tmp 4,.tmp 5] fun hwf=>?_
 simp only[go_sem,bL];intro i1 h1;simp only[go_sem];refine(hpl _).pthen ?_
 by_cases hx:gs.findIdx (iV cat name)<gs.length
 ·have e1:ixD (iV cat name) gs=(gs.findIdx (iV cat name):Nat):=by simp_all [ixD,if_pos]
  have d1:decide ((0:Int)≤((gs.findIdx (iV cat name):Nat):Int))=true:=decide_eq_true adK;rw[e1];simp only[go_sem,d1];refine .at (gs.findIdx (iV cat name)) adL ad0 ?_;simp only[go_sem,adB,lB];rw[if_neg (fun hh=>hh.1)]
  have hlb:=hb _ (adF hx);rw[get_at hx];obtain⟨B,eB⟩:∃B,gs[gs.findIdx (iV cat name)].bag=B:=⟨_,rfl⟩;rw[eB]at hlb⊢;refine(Dh _ (B.map aP) _ (eS aP 3 (fun _=>rfl) _ _) adL (bw (fun _=>rfl) _)).pthen ?_
  cases d2:((B.length:Int)==0)
  ·have e2:B≠ []:=by grind
   simp only[go_sem,d2,adA];exact .mk _ (.refl _) (.aj h1) ⟨by rw[JF,if_neg (fun hh=>e2 hh.1)];rfl,rfl⟩
  ·have e3:(B.length:Int)=0:=by grind
   have e2:B= []:=List.length_eq_zero_iff.1 adK;subst e2;cases must
   ·simp only[go_sem,List.map_nil,List.length_nil]
    exact ad1
   ·simp only[go_sem,List.map_nil,List.length_nil]
    exact afA
 ·have e1:ixD (iV cat name) gs= -1:=by simp_all [ixD,if_neg]
  have d1:decide ((0:Int)≤ -1)=false:=rfl;rw[e1,Sj hx];cases must
  ·simp only[go_sem,d1]
   exact .mk (.tup [.sl [] .no,.i 0]) (frz _ _ (.sl _ _)) (.aj h1) ⟨rfl,rfl⟩
  ·simp only[go_sem,d1]
   exact afA
def mQ(m:bQ)(v:bt):AV:=
 if m.op=1 then(if v.kind=m.val.kind then .tup [.b (eqV v m.val),.i 0]else .tup [.b false,.i 2])
 else if m.op=2 then lE v m.val else lE m.val v
theorem Fx(m:bQ)(v:bt)(h:Heap):ai Tryz.prog 248 [dM m,aP v] h fun r h' =>r=mQ m v∧h' =h:=by
 have hl1:=fun G=>CA v m.val G
 have hl2:=fun G=>CA m.val v G
 simp only[aP]at hl1 hl2;refine adJ Tryz.func248 42 [.tmp 4,.tmp 5] fun hwf=>?_
 simp only[go_sem,dM,aP];intro i1 h1;simp only[go_sem];intro i2 h2;have n21:=aH h2;have n2:=aB h2;have hs:∀x y,Ab.Sub h (upd (upd h i1 x) i2 y):=fun x y=>((Sub.refl h).put h1 x).put n2 y
 cases d1:(m.op==1)
 case true=>
  have e1:m.op=1:=adL;cases dk:(v.kind !=m.val.kind)
  ·have dk' :v.kind=m.val.kind:=by grind
   simp only[go_sem,ak,n21.symm,d1,dk];exact .mk _ (.refl _) (hs _ _) ⟨by rw[mQ,if_pos e1,if_pos dk'];rfl,rfl⟩
  ·simp only[go_sem,ak,n21.symm,d1,dk]
   exact .mk _ (.refl _) (hs _ _) ⟨by rw[mQ,if_pos e1,if_neg adL];rfl,rfl⟩
 have e1:m.op≠1:=adL;have aft:∀a b:bt,∃x e,lE a b= .tup [.b x,.i e]:=fun a b=>by
  unfold lE;split
  ·simp
  simp
 cases d2:(m.op==2)
 case true=>
  have e2:m.op=2:=adL;obtain⟨x,e,ee⟩:=aft v m.val;rw[ee]at hl1;simp only[go_sem,ak,n21.symm,d1,d2];refine(hl1 _).pthen ?_;simp only[go_sem];exact .mk _ (.refl _) (hs _ _) ⟨by rw[mQ,if_neg e1,if_pos e2,ee];rfl,rfl⟩
 ·have e2:m.op≠2:=by grind
  obtain⟨x,e,ee⟩:=aft m.val v;rw[ee]at hl2;simp only[go_sem,ak,n21.symm,d1,d2];refine(hl2 _).pthen ?_;simp only[go_sem];exact .mk _ (.refl _) (hs _ _) ⟨by rw[mQ,if_neg e1,if_neg e2,ee];rfl,rfl⟩
theorem B1(m:bQ)(v:bt):∃e:Int,(e !=0)=(cS m v==none)∧mQ m v= .tup [.b (cS m v==some true),.i e]:=by
 have hl:∀a b:bt,∃e:Int,(e !=0)=(nT a b==none)∧lE a b= .tup [.b (nT a b==some true),.i e]:=fun a b=>by
  unfold lE;cases hx:nT a b with
  |some x=>simp
  |none=>refine⟨yS a b,?_,rfl⟩;grind [yS]
 unfold mQ cS
 by_cases e1:m.op=1
 ·rw[if_pos e1,if_pos e1]
  by_cases ek:v.kind=m.val.kind
  ·rw[if_pos ek,if_pos ek]
   exact⟨0,rfl,adR⟩
  ·rw[if_neg ek,if_neg ek]
   exact⟨2,rfl,rfl⟩
 ·rw[if_neg e1,if_neg e1]
  by_cases e2:m.op=2
  ·rw[if_pos e2,if_pos e2];exact hl _ _
  ·rw[if_neg e2,if_neg e2];exact hl _ _
theorem JG(bag:List bt)(must:Bool):∃e:Int,(e !=0)=decide (bag= []∧must=true)∧JF bag must= .tup [.sl (bag.map aP) .no,.i e]:=by
 unfold JF;split
 ·simp_all
 grind
def rY(gs:List bp):Prop:=gs.length≤1000000∧∀g∈gs,g.bag.length≤1000000
theorem rY.bag{gs:List bp}(h:rY gs)(a:qu):(yd gs a).length≤1000000:=by
 unfold yd getD;split
 ·rename_i g hg;exact h.2 g adL
 ·simp
theorem Bn(m:bQ)(gs:List bp)(hf:rY gs)(h:Heap):ai Tryz.prog 210 [dM m,bL gs] h fun r h' =>r= .i (j0 gs m:Nat)∧h' =h:=by
 have hg:=fun G=>HR gs m.attr.cat m.attr.name m.attr.must (by have:=hf.1;omega) hf.2 G
 have hbl:=hf.bag m.attr;obtain⟨B,eB⟩:∃B,yd gs m.attr=B:=⟨_,rfl⟩;have eg:Go.Bf.getD gs m.attr.cat m.attr.name=B:=eB;rw[eB]at hbl;rw[eg]at hg;have hmm:j0 gs m=if B= []∧m.attr.must=true then 1 else if B.any (fun v=>cS m v==some true)then 2 else if B.any (fun v=>cS m v==none)then 1 else 0:=by
  unfold j0;rw[eB]
 obtain⟨eg,hge,hga⟩:=JG B m.attr.must;rw[hga]at hg;have hag:=fun(v:bt) (G:Heap)=>Fx m v G
 simp only[dM,bL,aP]at hag hg;refine adJ Tryz.func210 38 [.tmp 4] fun hwf=>?_
 simp only[go_sem,dM,bL];intro i1 h1;simp only[go_sem];refine(hg _).pthen ?_;cases d0:decide (B= []∧m.attr.must=true)
 case true=>
  rw[d0]at hge;simp only[go_sem,hge];exact .mk _ (.refl _) (.aj h1) ⟨by rw[hmm,if_pos (adC d0)];rfl,rfl⟩
 rw[d0]at hge;rw[if_neg (adD d0)]at hmm;simp only[go_sem,hge,adA];obtain⟨H,eH⟩:∃H,upd h i1 (some (.obj [.i m.attr.cat,.s m.attr.name,.b m.attr.must,.i m.op,.i m.val.kind,.i m.val.n,.s m.val.s] 265))=H:=⟨_,rfl⟩;have hH:Ab.Sub h H:=by rw[←eH];exact .aj h1
 have k1:H i1=some (.obj [.i m.attr.cat,.s m.attr.name,.b m.attr.must,.i m.op,.i m.val.kind,.i m.val.n,.s m.val.s] 265):=afc;rw[eH];clear eH;refine .intro (fun q ρ G=>Ab.Sub H G∧∃i:Nat,i≤B.length∧q=B.length - i∧(∀j (hj:j<i) (h2:j<B.length),(cS m B[j]==some true)=false)∧lk ρ 2=some (.ptr i1 0)∧lk ρ 7=some (.i (if(B.take i).any (fun v=>cS m v==none)then 1 else 0))∧lk ρ 21=some (.sl (B.map aP) .no)∧lk ρ 22=some (.i B.length)∧lk ρ 23=some (.i i)) B.length ?_ ?_
 ·refine⟨.refl _,0,adK,rfl,fun j hj=>adK,?_,?_,?_,?_,?_⟩<;>simp only[go_sem]
  simp
 ·rintro q ρ G ⟨hs,i,hi,rfl,hc,r2,r7,r21,r22,r23⟩
  have k1' :=hs _ _ k1;simp only[go_sem,r22,r23];refine .intro (fun e=>?_) (fun e=>?_)
  ·have hlt:i<B.length:=adH e
   have w1:=adG i adK;have hsn:(B.take (i+1)).any (fun v=>cS m v==none)=((B.take i).any (fun v=>cS m v==none)||(cS m B[i]==none)):=any_succ hlt
   have ix:=fun k=>fo.eq (xs:=B.map aP) (sz:=3) i aeb ad0 k
   rw[adB]at ix;have hci:=fun(d:(cS m B[i]==some true)=false)=>(fun j (hj:j<i+1) (h2:j<B.length)=>(by
    by_cases hji:j=i
    ·subst hji;exact d
    ·exact hc j adK h2:(cS m B[j]==some true)=false))
   have hat:=fun(d:(cS m B[i]==some true)=true)=>(List.any_eq_true.2 ⟨B[i],adF hlt,d⟩:B.any (fun v=>cS m v==some true)=true)
   obtain⟨v,ev⟩:∃v,B[i]=v:=⟨_,rfl⟩;rw[ev]at ix hsn hci hat;simp only[aP]at ix;obtain⟨e,he1,he2⟩:=B1 m v;have hag1:=hag v;rw[he2]at hag1;simp only[go_sem,r21,r23,ix];intro i4 h4;have n41:i4≠i1:=fun e=>by rw[e,k1']at h4;cases h4
   simp only[go_sem,r2,ak,n41.symm,k1'];refine(hag1 _).pthen ?_;cases d1:(cS m v==some true)
   ·cases d2:(cS m v==none)
    ·rw[d2]at he1 hsn
     rw[Bool.or_false]at hsn;simp only[go_sem,r23,he1,w1];refine⟨_,?_,hs.trans (.aj h4),i+1,adK,rfl,hci d1,?_,?_,?_,?_,?_⟩
     ·omega
     all_goals simp only[go_sem,r2,r7,r21,r22,hsn]
    ·rw[d2]at he1 hsn
     rw[Bool.or_true]at hsn;simp only[go_sem,r23,he1,w1];refine⟨_,?_,hs.trans (.aj h4),i+1,adK,rfl,hci d1,?_,?_,?_,?_,?_⟩
     ·omega
     all_goals simp only[go_sem,r2,r21,r22,hsn]
   ·simp only[go_sem]
    refine .mk _ (.refl _) (hH.trans (hs.trans (.aj h4))) ⟨by rw[hmm,if_pos (hat d1)];rfl,rfl⟩
  ·have hge:i=B.length:=by have:=adD e;omega
   subst hge;rw[List.take_length]at r7;simp only[go_sem,r7];refine .mk _ (.refl _) (hH.trans hs) ⟨?_,rfl⟩;have hno:B.any (fun v=>cS m v==some true)=false:=List.any_eq_false.2 fun x hx=>by
    obtain⟨j,hj,rfl⟩:=List.mem_iff_getElem.1 hx;rw[hc j hj hj];decide
   rw[hmm,hno];cases B.any (fun v=>cS m v==none)<;>rfl
theorem Ih(a b:Nat):(if((b:Int)<(a:Int))then(b:Int)else(a:Int))=((min a b:Nat):Int):=by
 grind
theorem Po(a b:Nat):(if((a:Int)<(b:Int))then(b:Int)else(a:Int))=((max a b:Nat):Int):=by
 grind
theorem Ok(l:List bQ)(hl:l.length≤1000000)(gs:List bp)(hf:rY gs)(h:Heap):ai Tryz.prog 241 [jb l,bL gs] h fun r h' =>r= .i (C4 gs l:Nat)∧h' =h:=by
 have hmt:=fun(m:bQ) (G:Heap)=>Bn m gs hf G
 simp only[dM,bL]at hmt;refine adJ Tryz.func241 21 [.tmp 4] fun hwf=>?_
 simp only[go_sem,jb,bL,adA];refine .intro (fun q ρ G=>Ab.Sub h G∧∃i:Nat,i≤l.length∧q=l.length - i∧lk ρ 1=some (.sl (gs.map lB) .no)∧lk ρ 5=some (.i (C4 gs (l.take i):Nat))∧lk ρ 8=some (.sl (l.map dM) .no)∧lk ρ 9=some (.i l.length)∧lk ρ 10=some (.i i)) l.length ?_ ?_
 ·exact ajr
 ·rintro q ρ G ⟨hs,i,hi,rfl,r1,r5,r8,r9,r10⟩
  simp only[go_sem,r9,r10];refine .intro (fun e=>?_) (fun e=>?_)
  ·have hlt:i<l.length:=adH e
   have w1:IntKind.i64.wrap ((i:Int)+1)=((i+1:Nat):Int):=adY;have hsn:C4 gs (l.take (i+1))=min (C4 gs (l.take i)) (j0 gs l[i]):=by
    grind [C4,List.take_succ_eq_append_getElem]
   have ix:=fun k=>fo.eq (xs:=l.map dM) (sz:=7) i adL ad0 k
   rw[adB]at ix;obtain⟨m,em⟩:∃m,l[i]=m:=⟨_,rfl⟩;rw[em]at ix hsn;have hmt1:=hmt m;simp only[dM]at ix;simp only[go_sem,r8,r10,ix];intro i4 h4;simp only[go_sem,r1,r5];refine(hmt1 _).pthen ?_;simp only[go_sem,r10,Ih,w1];refine⟨_,?_,hs.trans (.aj h4),i+1,adK,rfl,?_,?_,?_,?_,?_⟩
   ·omega
   all_goals simp only[go_sem,r1,r8,r9,hsn]
  ·have hge:i=l.length:=by grind
   exact ai9
def Ob(t:gj):Prop:=t.length≤1000000∧∀x∈t,x.length≤1000000∧∀l∈x,l.length≤1000000
theorem MF(t:gj)(ht:Ob t)(gs:List bp)(hf:rY gs)(h:Heap):ai Tryz.prog 206 [aV t,bL gs] h fun r h' =>r= .i (nj gs t:Nat)∧h' =h:=by
 have hat:=fun(l:List bQ) (hl:l.length≤1000000) (G:Heap)=>Ok l hl gs hf G
 simp only[jb,bL]at hat;have htl:=ht.1;refine adJ Tryz.func206 34 [.tmp 4] fun hwf=>?_
 simp only[go_sem,aV,bL,adA];refine .intro (fun q ρ G=>Ab.Sub h G∧∃i:Nat,i≤t.length∧q=t.length - i∧lk ρ 1=some (.sl (gs.map lB) .no)∧lk ρ 5=some (.i (nj gs (t.take i):Nat))∧lk ρ 11=some (.sl (t.map cU) .no)∧lk ρ 12=some (.i t.length)∧lk ρ 13=some (.i i)) t.length ?_ ?_
 ·exact ajr
 ·rintro q ρ G ⟨hs,i,hi,rfl,r1,r5,r11,r12,r13⟩
  simp only[go_sem,r12,r13];refine .intro (fun e=>?_) (fun e=>?_)
  ·have hlt:i<t.length:=adH e
   have w1:IntKind.i64.wrap ((i:Int)+1)=((i+1:Nat):Int):=adY;have hsn:nj gs (t.take (i+1))=min (nj gs (t.take i)) (Af gs t[i]):=by
    grind [nj,List.take_succ_eq_append_getElem]
   have ix:=fun k=>fo.eq (xs:=t.map cU) (sz:=1) i adL ad0 k
   rw[adB]at ix;obtain⟨hx1,hx2⟩:=ht.2 t[i] (adF hlt);obtain⟨x,ex⟩:∃x,t[i]=x:=⟨_,rfl⟩;rw[ex]at ix hsn hx1 hx2;simp only[cU]at ix;simp only[go_sem,r11,r13,ix,adA];refine .intro (fun q ρ' K=>Ab.Sub h K∧∃n:Nat,n≤x.length∧q=x.length - n∧lk ρ' 1=some (.sl (gs.map lB) .no)∧lk ρ' 5=some (.i (nj gs (t.take i):Nat))∧lk ρ' 8=some (.i (Af gs (x.take n):Nat))∧lk ρ' 11=some (.sl (t.map cU) .no)∧lk ρ' 12=some (.i t.length)∧lk ρ' 13=some (.i i)∧lk ρ' 17=some (.sl (x.map jb) .no)∧lk ρ' 18=some (.i x.length)∧lk ρ' 19=some (.i n)) x.length ?_ ?_
   ·refine⟨hs,0,adK,rfl,?_,?_,?_,?_,?_,?_,?_,?_,?_⟩<;>simp only[go_sem,r1,r5,r11,r12,r13]
    rfl
   ·rintro q ρ' K ⟨hs',n,hn,rfl,s1,s5,s8,s11,s12,s13,s17,s18,s19⟩
    simp only[go_sem,s18,s19];refine .intro (fun e=>?_) (fun e=>?_)
    ·have hlt2:n<x.length:=adH e
     have w2:IntKind.i64.wrap ((n:Int)+1)=((n+1:Nat):Int):=adY;have hsn2:Af gs (x.take (n+1))=max (Af gs (x.take n)) (C4 gs x[n]):=by
      grind [Af,List.take_succ_eq_append_getElem]
     have ix2:=fun k=>fo.eq (xs:=x.map jb) (sz:=1) n adL ad0 k
     rw[adB]at ix2;have hx3:=hx2 x[n] (adF hlt2);obtain⟨l,el⟩:∃l,x[n]=l:=⟨_,rfl⟩;rw[el]at ix2 hsn2 hx3;simp only[jb]at ix2;simp only[go_sem,s1,s8,s17,s19,ix2];refine(hat l hx3 _).pthen ?_;simp only[go_sem,s19,Po,w2];refine⟨_,?_,hs',n+1,adK,rfl,?_,?_,?_,?_,?_,?_,?_,?_,?_⟩
     ·omega
     all_goals simp only[go_sem,s1,s5,s11,s12,s13,s17,s18,hsn2]
    ·have hge:n=x.length:=by grind
     subst hge;rw[List.take_length]at s8;simp only[go_sem,s5,s8,s13,Ih,w1];refine⟨_,?_,hs',i+1,adK,rfl,?_,?_,?_,?_,?_⟩
     ·omega
     all_goals simp only[go_sem,s1,s11,s12,hsn]
  ·have hge:i=t.length:=by grind
   exact ai9
end Go.Proofs.YtfdgemhnlennbaaGreatDoor
namespace Go.Bf
open Go Go.Ab Go.Proofs.YtfdgemhnlennbaaGreatDoor
def Ao(o:Bool)(n:Int):AV:=if o then .tup [.i 0,.i 3]else .tup [.i (w64 n),.i 0]
def rF(r:bt×Int):AV:=.tup [aP r.1,.i r.2]
end Go.Bf
namespace Go.Proofs.YtfdgemhnlennbaaGreatDoor
open Go Go.Ab Go.Bf
theorem RD(a b:Int)(h:Heap):ai Tryz.prog 322 [.i a,.i b] h fun r h' =>r=Ao (Lf a b) (a+b)∧h' =h:=by
 refine adJ Tryz.func322 27 [.tmp 4,.tmp 5] fun hwf=>?_
 cases d1:decide (0<b)<;>cases d2:decide (IntKind.i64.wrap (9223372036854775807 - b)<a)<;>cases d3:decide (b<0)<;>cases d4:decide (a<IntKind.i64.wrap (-9223372036854775808 - b))
 all_goals
  simp -implicitDefEqProofs only[go_sem,d1,d2,d3,d4];exact .same (.refl _) ⟨by simp only[Ao,Lf,w64,d1,d2,d3,d4];rfl,rfl⟩
theorem S7(a b:Int)(h:Heap):ai Tryz.prog 323 [.i a,.i b] h fun r h' =>r=Ao (ND a b) (a - b)∧h' =h:=by
 refine adJ Tryz.func323 27 [.tmp 4,.tmp 5] fun hwf=>?_
 cases d1:decide (0<b)<;>cases d2:decide (a<IntKind.i64.wrap (-9223372036854775808+b))<;>cases d3:decide (b<0)<;>cases d4:decide (IntKind.i64.wrap (9223372036854775807+b)<a)
 all_goals
  simp -implicitDefEqProofs only[go_sem,d1,d2,d3,d4];exact .same (.refl _) ⟨by simp only[Ao,ND,w64,d1,d2,d3,d4];rfl,rfl⟩
theorem SF(a b:Int)(h:Heap):ai Tryz.prog 324 [.i a,.i b] h fun r h' =>r=Ao (Kc a b) (a*b)∧h' =h:=by
 refine adJ Tryz.func324 36 [.tmp 4,.tmp 5] fun hwf=>?_
 cases d0:(a !=0)
 ·have e0:a=0:=by grind
  subst e0;cases d1:(b== -1)
  all_goals
   simp -implicitDefEqProofs only[go_sem,d1];exact .same (.refl _) ⟨by simp[Ao,Kc,w64,ax],rfl⟩
 have e0:a≠0:=adL;cases d1:(a== -1)<;>cases d2:(b== -9223372036854775808)<;>cases d3:(b== -1)<;>cases d4:(a== -9223372036854775808)<;>cases d5:(IntKind.i64.wrap ((IntKind.i64.wrap (a*b)).tdiv a) !=b)
 all_goals
  simp -implicitDefEqProofs only[go_sem,d0,d1,d2,d3,d4,d5,e0];exact .same (.refl _) ⟨by simp only[Ao,Kc,w64,d0,d1,d2,d3,d4,d5];rfl,rfl⟩
theorem BQ(b:Bool)(h:Heap):ai Tryz.prog 320 [.b b] h fun r h' =>r=aP (dN b)∧h' =h:=by
 refine adJ Tryz.func320 8 [.cell 2 33] fun hwf=>?_
 simp only[go_sem];intro i1 h1;simp only[go_sem];intro i2 h2;have n21:=aH h2;have n2:=aB h2;cases b
 all_goals
  simp only[go_sem,ak,n21.symm];exact .mk _ (.refl _) ((((Sub.refl h).put h1 _).put n2 _).put h1 _) ⟨rfl,rfl⟩
theorem Ca(kind:Int)(l:List bt)(hl:l.length≤1000000)(p:Perm)(h:Heap):ai Tryz.prog 325 [.i kind,.sl (l.map aP) p] h fun r h' =>r= .b (l.all fun v=>v.kind==kind)∧h' =h:=by
 refine adJ Tryz.func325 18 [.tmp 4] fun hwf=>?_
 simp only[go_sem,adA];refine .intro (fun q ρ G=>Ab.Sub h G∧∃i:Nat,i≤l.length∧q=l.length - i∧(∀j (hj:j<i) (h2:j<l.length),(l[j].kind==kind)=true)∧lk ρ 0=some (.i kind)∧lk ρ 7=some (.sl (l.map aP) p)∧lk ρ 8=some (.i l.length)∧lk ρ 9=some (.i i)) l.length ?_ ?_
 ·refine⟨.refl _,0,adK,rfl,fun j hj=>adK,?_,?_,?_,?_⟩<;>simp only[go_sem]
 ·rintro q ρ G ⟨hs,i,hi,rfl,hc,r0,r7,r8,r9⟩
  simp only[go_sem,r8,r9];refine .intro (fun e=>?_) (fun e=>?_)
  ·have hlt:i<l.length:=adH e
   have w1:IntKind.i64.wrap ((i:Int)+1)=((i+1:Nat):Int):=adY;have ix:=fun k=>fo.eq (xs:=l.map aP) (sz:=3) i adL ad0 k
   rw[adB]at ix;have hci:=fun(d:(l[i].kind==kind)=true)=>(fun j (hj:j<i+1) (h2:j<l.length)=>(by
    grind:(l[j].kind==kind)=true))
   have hat:=fun(d:(l[i].kind==kind)=false)=>(List.all_eq_false.2 ⟨l[i],adF hlt,adL⟩:(l.all fun v=>v.kind==kind)=false)
   obtain⟨v,ev⟩:∃v,l[i]=v:=⟨_,rfl⟩;rw[ev]at ix hci hat;simp only[aP]at ix;cases d1:(v.kind==kind)
   ·have d2:(v.kind !=kind)=true:=by grind
    simp only[go_sem,r7,r9,ix];intro i4 h4;simp only[go_sem,r0,d2];exact .mk _ (.refl _) (hs.trans (.aj h4)) ⟨ahN,rfl⟩
   ·have d2:(v.kind !=kind)=false:=by grind
    simp only[go_sem,r7,r9,ix];intro i4 h4;simp only[go_sem,r0,r9,d2,w1];refine⟨_,?_,hs.trans (.aj h4),i+1,adK,rfl,hci d1,?_,?_,?_,?_⟩
    ·omega
    all_goals simp only[go_sem,r0,r7,r8]
  ·have hge:i=l.length:=by grind
   simp only[go_sem];exact .mk _ (.refl _) hs ⟨by rw[List.all_eq_true.2 fun x hx=>agt];rfl,rfl⟩
theorem GC(g:FuncId)(a b:bt)(o:Bool)(n:Int)(hg:∀G,ai Tryz.prog g [.i a.n,.i b.n] G fun r h' =>r=Ao o n∧h' =G)(p:Perm)(h:Heap):
  ai Tryz.prog 321 [.fn g [],.sl [aP a,aP b] p] h fun r h' =>r=rF (if([a,b].all fun v=>v.kind==2)then Ap o n else ot 2)∧h' =h:=by
 have ix0:=fun k=>fo.eq (xs:=[aP a,aP b]) (sz:=3) 0 adR rfl k
 have ix1:=fun k=>fo.eq (xs:=[aP a,aP b]) (sz:=3) 1 adR rfl k
 simp only[List.getElem_cons_zero,List.getElem_cons_succ,aP,Int.natCast_zero,Int.natCast_one]at ix0 ix1;have hal:=fun(G:Heap)=>Ca 2 [a,b] adR p G
 simp only[List.map_cons,List.map_nil,aP]at hal;refine adJ Tryz.func321 31 [.cell 4 33,.tmp 5] fun hwf=>?_
 simp only[go_sem,aP];intro i1 h1;simp only[go_sem];refine(hal _).pthen ?_;cases d1:([a,b].all fun v=>v.kind==2)
 ·simp only[go_sem]
  exact ad1
 ·simp only[go_sem]
  refine .quiet adN ?_;simp only[go_sem,ix0,ix1];cases o
  ·refine⟨_,hg _,?_⟩
   simp only[go_sem,Ao];exact ad1
  ·refine⟨_,hg _,?_⟩
   simp only[go_sem,Ao];exact ad1
theorem xH{α:Type}{l:List α}(h:l.length=2):∃a b,l= [a,b]:=by
 match l,h with
 | [a,b],_=>exact⟨a,b,rfl⟩
def Gt(op:Int)(l:List bt):Bool:= !(decide (op<6)||decide (13<op)||(l.length:Int) !=(if op==11 then 1 else 2)) && l.all br
theorem SC(op:Int)(l:List bt)(hl:l.length≤1000000)(p:Perm)(h:Heap):ai Tryz.prog 319 [.i op,.sl (l.map aP) p] h fun r h' =>r= .b (Gt op l)∧h' =h:=by
 have hvr:=fun(v:bt) (G:Heap)=>fU v G
 simp only[aP]at hvr;refine adJ Tryz.func319 32 [.tmp 4] fun hwf=>?_
 cases d11:(op==11)
 all_goals
  have hmm:Gt op l=(!(decide (op<6)||decide (13<op)||(l.length:Int) !=(if op==11 then 1 else 2)) && l.all br):=rfl
  rw[d11]at hmm;simp only[if_true,Bool.false_eq_true,if_false]at hmm;cases d6:decide (op<6)
  case true=>
   rw[d6]at hmm;simp only[go_sem,d11,d6];exact .same (.refl _) ⟨by rw[hmm];rfl,rfl⟩
  cases d13:decide (13<op)
  case true=>
   rw[d6,d13]at hmm;simp only[go_sem,d11,d6,d13];exact .same (.refl _) ⟨by rw[hmm];rfl,rfl⟩
  rw[d6,d13]at hmm;simp only[Bool.or_false,Bool.false_or]at hmm;obtain⟨b,eb⟩:∃b,((l.length:Int) !=(if op==11 then 1 else 2))=b:=⟨_,rfl⟩
  rw[d11]at eb;simp only[if_true,Bool.false_eq_true,if_false]at eb;rw[eb]at hmm;cases b
  case true=>
   simp only[go_sem,d11,d6,d13,adA,eb];exact .same (.refl _) ⟨by rw[hmm];rfl,rfl⟩
  simp only[Bool.not_false,Bool.true_and]at hmm;simp only[go_sem,d11,d6,d13,adA,eb];refine .intro (fun q ρ G=>Ab.Sub h G∧∃i:Nat,i≤l.length∧q=l.length - i∧(∀j (hj:j<i) (h2:j<l.length),br l[j]=true)∧lk ρ 22=some (.sl (l.map aP) p)∧lk ρ 23=some (.i l.length)∧lk ρ 24=some (.i i)) l.length ?_ ?_
  ·refine⟨.refl _,0,adK,rfl,fun j hj=>adK,?_,?_,?_⟩<;>simp only[go_sem]
  ·rintro q ρ G ⟨hs,i,hi,rfl,hc,r22,r23,r24⟩
   simp only[go_sem,r23,r24];refine .intro (fun e=>?_) (fun e=>?_)
   ·have hlt:i<l.length:=adH e
    have w1:IntKind.i64.wrap ((i:Int)+1)=((i+1:Nat):Int):=adY;have ix:=fun k=>fo.eq (xs:=l.map aP) (sz:=3) i adL ad0 k
    rw[adB]at ix;have hci:=fun(d:br l[i]=true)=>(fun j (hj:j<i+1) (h2:j<l.length)=>(by
     grind:br l[j]=true))
    have hat:=fun(d:br l[i]=false)=>(List.all_eq_false.2 ⟨l[i],adF hlt,adL⟩:l.all br=false)
    obtain⟨v,ev⟩:∃v,l[i]=v:=⟨_,rfl⟩;rw[ev]at ix hci hat;simp only[aP]at ix;simp only[go_sem,r22,r24,ix];intro i4 h4;simp only[go_sem];refine(hvr v _).pthen ?_;cases d1:br v
    ·simp only[go_sem]
     exact .mk _ (.refl _) (hs.trans (.aj h4)) ⟨by rw[hmm,hat d1];rfl,rfl⟩
    ·simp only[go_sem,r24,w1]
     refine⟨_,?_,hs.trans (.aj h4),i+1,adK,rfl,hci d1,?_,?_,?_⟩
     ·omega
     all_goals simp only[go_sem,r22,r23]
   ·have hge:i=l.length:=by grind
    simp only[go_sem];exact .mk _ (.refl _) hs ⟨by rw[hmm,List.all_eq_true.2 fun x hx=>agt];rfl,rfl⟩
theorem LC{op:Int}{l:List bt}(h:Gt op l=false):gZ op l=ot 1:=by
 unfold gZ;rw[if_pos]
 by_cases h1:6≤op∧op≤13
 ·by_cases h2:l.length=if op=11 then 1 else 2
  ·refine .inr (.inr ?_)
   unfold Gt at h
   grind
  omega
 omega
theorem I6{op:Int}{l:List bt}(h:Gt op l=true):(6≤op∧op≤13)∧l.all br=true∧(op=11∧(∃a,l= [a])∨op≠11∧∃a b,l= [a,b]):=by
 unfold Gt at h;simp only[Bool.and_eq_true,Bool.not_eq_true',Bool.or_eq_false_iff,decide_eq_false_iff_not]at h;obtain⟨⟨⟨h1,h2⟩,h3⟩,h4⟩:=h;refine⟨adK,h4,?_⟩
 by_cases e:op=11
 ·subst e
  have h3' :(l.length:Int)=1:=adL;exact .inl ⟨rfl,List.length_eq_one_iff.1 adK⟩
 ·have h3' :(l.length:Int)=2:=by grind
  exact .inr ⟨e,xH adK⟩
theorem Ce(op:Int)(l:List bt)(hl:l.length≤1000000)(p:Perm)(h:Heap):ai Tryz.prog 316 [.i op,.sl (l.map aP) p] h fun r h' =>r=rF (gZ op l)∧h' =h:=by
 have hmy:=fun G=>SC op l hl p G
 cases dm:Gt op l
 ·rw[dm]at hmy
  refine adJ Tryz.func316 111 [.cell 4 33,.tmp 5] fun hwf=>?_
  simp only[go_sem];intro i1 h1;simp only[go_sem];refine(hmy _).pthen ?_;simp only[go_sem];exact .mk _ (.refl _) (.aj h1) ⟨by rw[LC dm];rfl,rfl⟩
 rw[dm]at hmy;obtain⟨hop,hall,hf⟩:=I6 dm;rcases hf with⟨rfl,a,rfl⟩|⟨e11,a,b,rfl⟩
 ·have ix0:=fun k=>fo.eq (xs:=[aP a]) (sz:=3) 0 adR rfl k
  simp only[List.getElem_cons_zero,aP,Int.natCast_zero]at ix0;have hal:=fun(G:Heap)=>Ca 1 [a] adR p G
  simp only[List.map_cons,List.map_nil,aP]at hal hmy;have hc:gZ 11 [a]=if(([a].all fun v=>v.kind==1)=false)then ot 2 else(dN (a.n==0),0):=by
   unfold gZ;rw[if_neg (by simp[hall])]
   simp
  have htr:=fun G=>BQ (a.n==0) G
  refine adJ Tryz.func316 111 [.cell 4 33,.tmp 5] fun hwf=>?_
  simp only[go_sem,List.map_cons,List.map_nil,aP];intro i1 h1;simp only[go_sem];refine(hmy _).pthen ?_;simp only[go_sem];refine(hal _).pthen ?_;cases d1:([a].all fun v=>v.kind==1)
  ·simp only[go_sem]
   exact .mk _ (.refl _) (.aj h1) ⟨by rw[hc,if_pos d1];rfl,rfl⟩
  ·simp only[go_sem,ix0]
   refine(htr _).pthen ?_;simp only[go_sem,aP];exact .mk _ (.refl _) (.aj h1) ⟨by rw[hc,if_neg (by rw[d1];decide)];rfl,rfl⟩
 ·have ix0:=fun k=>fo.eq (xs:=[aP a,aP b]) (sz:=3) 0 adR rfl k
  have ix1:=fun k=>fo.eq (xs:=[aP a,aP b]) (sz:=3) 1 adR rfl k
  simp only[List.getElem_cons_zero,List.getElem_cons_succ,aP,Int.natCast_zero,Int.natCast_one]at ix0 ix1;have hal:=fun(G:Heap)=>Ca 1 [a,b] adR p G
  have hva:br a=true∧br b=true:=by simpa using hall
  have hnu:=fun(g:FuncId) (o:Bool) (n:Int) hg (G:Heap)=>GC g a b o n hg p G
  simp only[List.map_cons,List.map_nil,aP]at hal hmy hnu;have hle:=fun G=>CA a b G
  simp only[aP]at hle;have htr:=fun(x:Bool) G=>BQ x G
  have hc:gZ op [a,b]=if op=6 then(if a.kind=b.kind then(dN (eqV a b),0)else ot 2)
    else if op=7 then(match nT a b with
     |some x=>(dN x,0)
     |none=>ot 2)
    else if op=8∨op=9∨op=10 then
     (if [a,b].all fun v=>v.kind==2 then(if op=8 then Ap (Lf a.n b.n) (a.n+b.n)else if op=9 then Ap (ND a.n b.n) (a.n - b.n)else Ap (Kc a.n b.n) (a.n*b.n))else ot 2)
    else if([a,b].all fun v=>v.kind==1)=false then ot 2
    else if op=12 then(dN (a.n==1 && b.n==1),0)
    else(dN (a.n==1||b.n==1),0):=by
   unfold gZ;rw[if_neg (by simp[hall,e11,hop.1,hop.2])]
   simp only[e11,if_false];rfl
  refine adJ Tryz.func316 111 [.cell 4 33,.tmp 5] fun hwf=>?_
  simp only[go_sem,List.map_cons,List.map_nil,aP];intro i1 h1;simp only[go_sem];refine(hmy _).pthen ?_;rcases(show op=6∨op=7∨op=8∨op=9∨op=10∨op=12∨op=13 by omega)with rfl|rfl|rfl|rfl|rfl|rfl|rfl
  ·simp only[go_sem]
   refine⟨.of adN,?_⟩;cases dk:(a.kind !=b.kind)
   case true=>
    simp only[go_sem,ix0,ix1,dk];exact .mk _ (.refl _) (.aj h1) ⟨by rw[hc,if_pos rfl,if_neg (by simpa using dk)];rfl,rfl⟩
   ·simp only[go_sem,ix0,ix1,dk]
    refine .calls cH [0,1,2,3,4,5,6,7,8,9] (fun _ _ e=>ad8) adN rfl ?_
    simp only[go_sem,ix0,ix1];have htr1:=htr (eqV a b);simp only[eqV]at htr1;refine(htr1 _).pthen ?_;refine⟨fun _ _ e=>ad8,?_⟩
    simp only[go_sem,aP];refine⟨fun _ _ e=>ad8,?_⟩
    exact .mk _ (.refl _) (.aj h1) ⟨by rw[hc,if_pos rfl,if_pos (by simpa using dk)];rfl,rfl⟩
  ·have hc7:gZ 7 [a,b]=(match nT a b with
     |some x=>(dN x,0)
     |none=>ot 2):=by rw[hc];rfl
   simp only[go_sem];refine .quiet adN ?_;simp only[go_sem,ix0,ix1];refine⟨_,hle _,?_⟩;cases hl:nT a b with
   |none=>
    have e2:yS a b=2:=by simp[yS,hva]
    rw[hl]at hc7;simp only[go_sem,lE,hl,e2];exact .mk _ (.refl _) (.aj h1) ⟨by rw[hc7];rfl,rfl⟩
   |some x=>
    rw[hl]at hc7;simp only[go_sem,lE,hl];refine(htr x _).pthen ?_;simp only[go_sem,aP];exact .mk _ (.refl _) (.aj h1) ⟨by rw[hc7];rfl,rfl⟩
  ·have hc8:gZ 8 [a,b]=if [a,b].all (fun v=>v.kind==2)then Ap (Lf a.n b.n) (a.n+b.n)else ot 2:=by rw[hc];rfl
   have hg:=hnu 322 _ _ (fun G=>RD a.n b.n G)
   rw[←hc8]at hg;obtain⟨⟨v,e⟩,ex⟩:∃x,gZ 8 [a,b]=x:=⟨_,rfl⟩;exact aip
  ·have hc8:gZ 9 [a,b]=if [a,b].all (fun v=>v.kind==2)then Ap (ND a.n b.n) (a.n - b.n)else ot 2:=by rw[hc];rfl
   have hg:=hnu 323 _ _ (fun G=>S7 a.n b.n G)
   rw[←hc8]at hg;obtain⟨⟨v,e⟩,ex⟩:∃x,gZ 9 [a,b]=x:=⟨_,rfl⟩;exact aip
  ·have hc8:gZ 10 [a,b]=if [a,b].all (fun v=>v.kind==2)then Ap (Kc a.n b.n) (a.n*b.n)else ot 2:=by rw[hc];rfl
   have hg:=hnu 324 _ _ (fun G=>SF a.n b.n G)
   rw[←hc8]at hg;obtain⟨⟨v,e⟩,ex⟩:∃x,gZ 10 [a,b]=x:=⟨_,rfl⟩;exact aip
  ·have hc12:gZ 12 [a,b]=if([a,b].all fun v=>v.kind==1)=false then ot 2 else(dN (a.n==1 && b.n==1),0):=by rw[hc];rfl
   simp only[go_sem];refine(hal _).pthen ?_;cases d1:([a,b].all fun v=>v.kind==1)
   ·simp only[go_sem]
    exact .mk _ (.refl _) (.aj h1) ⟨by rw[hc12,if_pos d1];rfl,rfl⟩
   ·rw[if_neg (by rw[d1];decide)]at hc12
    cases da:(a.n==1)<;>cases db:(b.n==1)
    all_goals
     rw[da,db]at hc12;simp only[go_sem,ix0,ix1,da,db];refine(htr _ _).pthen ?_;simp only[go_sem,aP];exact .mk _ (.refl _) (.aj h1) ⟨by rw[hc12];rfl,rfl⟩
  ·have hc13:gZ 13 [a,b]=if([a,b].all fun v=>v.kind==1)=false then ot 2 else(dN (a.n==1||b.n==1),0):=by rw[hc];rfl
   simp only[go_sem];refine(hal _).pthen ?_;cases d1:([a,b].all fun v=>v.kind==1)
   ·simp only[go_sem]
    exact .mk _ (.refl _) (.aj h1) ⟨by rw[hc13,if_pos d1];rfl,rfl⟩
   ·rw[if_neg (by rw[d1];decide)]at hc13
    cases da:(a.n==1)<;>cases db:(b.n==1)
    all_goals
     rw[da,db]at hc13;simp only[go_sem,ix0,ix1,da,db];refine(htr _ _).pthen ?_;simp only[go_sem,aP];exact .mk _ (.refl _) (.aj h1) ⟨by rw[hc13];rfl,rfl⟩
end Go.Proofs.YtfdgemhnlennbaaGreatDoor
namespace Go.Bf
open Go Go.Ab Go.Proofs.YtfdgemhnlennbaaGreatDoor
def bP(x:jI):AV:=.agg [.sl (x.bag.map aP) .no,.i x.v.kind,.i x.v.n,.s x.v.s,.i x.e]
end Go.Bf
namespace Go.Proofs.YtfdgemhnlennbaaGreatDoor
open Go Go.Ab Go.Bf
theorem Sp(x:jI)(n:Int)(h:Heap):ai Tryz.prog 271 [bP x,.i n] h fun r h' =>r= .b (isI x n)∧h' =h:=by
 refine adJ Tryz.func271 15 [.tmp 4] fun hwf=>?_
 simp only[go_sem,bP];exact ail
theorem OX(x:jI)(n:Int)(h:Heap):ai Tryz.prog 271 [.agg [.sl [] .full,.i x.v.kind,.i x.v.n,.s x.v.s,.i x.e],.i n] h fun r h' =>r= .b (isI x n)∧h' =h:=by
 refine adJ Tryz.func271 15 [.tmp 4] fun hwf=>?_
 simp only[go_sem];exact ail
theorem vP(b:Bool)(h:Heap):ai Tryz.prog 314 [.b b] h fun r h' =>r=bP (jh b)∧h' =h:=by
 refine adJ Tryz.func314 10 [.cell 2 361] fun hwf=>?_
 simp only[go_sem];intro i1 h1;simp only[go_sem];intro i2 h2;have n21:=aH h2;have n2:=aB h2;cases b
 all_goals
  simp only[go_sem,ak,n21.symm];refine .mk (bP (jh _)) ?_ ((((Sub.refl h).put h1 _).put n2 _).put h1 _) ⟨rfl,rfl⟩;refine .agg _ _ rfl fun i a b=>?_
  rcases i with _|_|_|_|_|i
  ·exact agp
  all_goals first|exact .refl _|(simp at a;omega)
theorem FV(op:Int)(h:Heap):ai Tryz.prog 298 [.i op] h fun r h' =>r= .i (opsOf op:Nat)∧h' =h:=by
 refine adJ Tryz.func298 11 [.tmp 2] fun hwf=>?_
 cases d1:(op==1)
 case true=>simp only[go_sem,d1];exact .same (.refl _) ⟨by rw[opsOf,if_pos (.inl adL)];rfl,rfl⟩
 cases d2:(op==2)
 case true=>simp only[go_sem,d1,d2];exact .same (.refl _) ⟨by rw[opsOf,if_pos (.inr adL)];rfl,rfl⟩
 have e1:¬(op=1∨op=2):=adL;cases d3:(op==3)
 case true=>simp only[go_sem,d1,d2,d3];exact .same (.refl _) ⟨by rw[opsOf,if_neg e1,if_pos (.inl adL)];rfl,rfl⟩
 cases d4:(op==4)
 case true=>simp only[go_sem,d1,d2,d3,d4];exact .same (.refl _) ⟨by rw[opsOf,if_neg e1,if_pos (.inr (.inl adL))];rfl,rfl⟩
 cases d5:(op==11)
 case true=>simp only[go_sem,d1,d2,d3,d4,d5];exact .same (.refl _) ⟨by rw[opsOf,if_neg e1,if_pos (.inr (.inr adL))];rfl,rfl⟩
 have e2:¬(op=3∨op=4∨op=11):=adL;simp only[go_sem,d1,d2,d3,d4,d5];exact .same (.refl _) ⟨by rw[opsOf,if_neg e1,if_neg e2];rfl,rfl⟩
theorem Gj(vs:List bt)(hl:vs.length≤1000000000)(x:bt)(p:Perm)(h:Heap):
  ai Tryz.prog 326 [.sl (vs.map aP) p,aP x] h fun r h' =>r= .i (ixD (fun y=>eqV x y) vs)∧h' =h:=by
 refine adJ Tryz.func326 19 [.tmp 4] fun hwf=>?_
 simp only[go_sem,aP];intro i1 h1;simp only[go_sem,adA];refine .intro (fun m ρ G=>G=upd h i1 (some (.obj [.i x.kind,.i x.n,.s x.s] 33))∧∃i:Nat,i≤vs.length∧m=vs.length - i∧(∀j (hj:j<i) (h2:j<vs.length),eqV x vs[j]=false)∧lk ρ 0=some (.sl (vs.map aP) p)∧lk ρ 3=some (.ptr i1 0)∧lk ρ 7=some (.i vs.length)∧lk ρ 8=some (.i i)) vs.length ?_ ?_
 ·refine⟨rfl,0,adK,rfl,fun j hj=>adK,?_,?_,?_,?_⟩<;>simp only[go_sem]
 ·rintro m ρ G ⟨rfl,i,hi,rfl,hc,r0,r3,r7,r8⟩
  simp only[go_sem,r7,r8];refine .intro (fun e=>?_) (fun e=>?_)
  ·have hlt:i<vs.length:=adH e
   have w1:IntKind.i64.wrap ((i:Int)+1)=((i+1:Nat):Int):=adY;have ix:=fun k=>fo.eq (xs:=vs.map aP) (sz:=3) i adL ad0 k
   rw[adB]at ix;have hci:=fun(d:eqV x vs[i]=false)=>(fun j (hj:j<i+1) (h2:j<vs.length)=>(by
    grind:eqV x vs[j]=false))
   have hat:=fun(d:eqV x vs[i]=true)=>ov (q:=fun y=>eqV x y) hlt d fun j hj=>hc j hj adK
   obtain⟨v,ev⟩:∃v,vs[i]=v:=⟨_,rfl⟩;rw[ev]at ix hci hat;simp only[aP]at ix;simp only[go_sem,r0,r3,r8];refine⟨.of adN,?_⟩;cases d1:eqV x v
   ·have d2:=d1
    simp only[eqV]at d2;simp only[go_sem,r8,ix,d2,w1];refine⟨_,?_,rfl,i+1,adK,rfl,hci d1,?_,?_,?_,?_⟩
    ·omega
    all_goals simp only[go_sem,r0,r3,r7]
   ·have d2:=d1
    simp only[eqV]at d2;simp only[go_sem,ix,d2];exact .mk _ (.refl _) (.aj h1) ⟨ahN,rfl⟩
  ·have hge:i=vs.length:=by grind
   simp only[go_sem];exact .mk _ (.refl _) (.aj h1) ⟨aee,rfl⟩
theorem Ol{vs:List bt}{x:bt}:decide ((0:Int)≤ixD (fun y=>eqV x y) vs)=vs.any fun v=>eqV v x:=by
 have hsy:(fun v=>eqV v x)=fun v=>eqV x v:=by simp[funext,eqV,BEq.comm]
 rw[uX,hsy]
theorem Qj(vs:List bt)(hl:vs.length≤1000000000)(x:bt)(p:Perm)(h:Heap):ai Tryz.prog 315 [.sl (vs.map aP) p,aP x] h fun r h' =>r= .b (vs.any fun v=>eqV v x)∧h' =h:=by
 have h1:∀G,ai Tryz.prog 318 [.sl (vs.map aP) p,aP x] G fun r h' =>r= .b (vs.any fun v=>eqV v x)∧h' =G:=fun G=>by
  have hq:=fun K=>Gj vs hl x p K
  refine adJ Tryz.func318 9 [.tmp 4] fun hwf=>?_
  simp only[go_sem,aP];intro i1 h1;simp only[go_sem];refine(hq _).pthen ?_;simp only[go_sem,Ol];exact ad1
 refine adJ Tryz.func315 8 [.tmp 4] fun hwf=>?_
 simp only[go_sem,aP];intro i1 h1';simp only[go_sem];refine(h1 _).pthen ?_;simp only[go_sem];exact .mk _ (.refl _) (.aj h1') ⟨rfl,rfl⟩
theorem lD{L:List AV}{x:jI}(hL:L=x.bag.map aP)(q:Perm):Weak (.agg [.sl L q,.i x.v.kind,.i x.v.n,.s x.v.s,.i x.e]) (bP x):=by
 subst hL;refine .agg _ _ rfl fun i a b=>?_
 rcases i with _|_|_|_|_|i
 ·exact agp
 all_goals first|exact .refl _|(simp at a;omega)
theorem uf(op:Int):opsOf op≤2:=by
 grind [opsOf]
theorem vu{gs:List bp}{op:Int}{val:bt}{attr:qu}{l:List jI}{x:jI}(h1:op≠1)(h2:op≠2)(hno:¬((op=12∨op=13)∧(l.any fun x=>isI x (op - 12))=true))(hx:l.find? (fun x=>x.e !=0)=some x):lG gs ⟨op,val,attr⟩ l=⟨[],an,x.e⟩:=by
 simp_all [lG,if_neg]
theorem vt{gs:List bp}{op:Int}{val:bt}{attr:qu}{l:List jI}(h1:op≠1)(h2:op≠2)(hno:¬((op=12∨op=13)∧(l.any fun x=>isI x (op - 12))=true))(hx:l.find? (fun x=>x.e !=0)=none):lG gs ⟨op,val,attr⟩ l=(if op=3 then(match (l.headD ⟨[],an,0⟩).bag with
    | [v]=>⟨[],v,0⟩
    |_=>⟨[],an,4⟩)
   else if op=4 then⟨[],⟨2,(l.headD ⟨[],an,0⟩).bag.length,[]⟩,0⟩
   else if op=5 then jh ((l.headD ⟨[],an,0⟩).bag.any fun v=>eqV v (l.getD 1 ⟨[],an,0⟩).v)
   else Go.Bf.AJ (gZ op (l.map (·.v)))):=by
 unfold lG;simp only[if_neg h1,if_neg h2,if_neg hno,hx]
 all_goals rfl
theorem Pr{h:Heap}{y:AV}(n:aQ)(hop:1≤n.op∧n.op≤13)(l:List jI)(hb:Rd h 5 y (l.map bP))(hl:l.length=opsOf n.op)(hbag:∀x∈l,x.bag.length≤1000000)(gs:List bp)(hf:rY gs):
  ai Tryz.prog 299 [dI n,y,bL gs] h fun r h' =>r=bP (lG gs n l)∧h' =h:=by
 obtain⟨op,val,attr⟩:=n;simp only at hop hl;have hl2:l.length≤2:=by rw[hl];exact uf op
 have uV:(U 33).sz=3:=adU;have hg:=fun G=>HR gs attr.cat attr.name attr.must (by have:=hf.1;omega) hf.2 G
 simp only[bL]at hg;refine adJ Tryz.func299 122 [.cell 6 361] fun hwf=>?_
 simp only[go_sem,dI,bL];intro i3 h3;simp only[go_sem];intro i6 h6;have n63:=aH h6;have n6' :=aB h6;obtain⟨H0,eH⟩:∃H0,upd (upd h i3 (some (.obj [.i op,.i val.kind,.i val.n,.s val.s,.i attr.cat,.s attr.name,.b attr.must] 215))) i6 (some (.obj [.sl [] .full,.i 0,.i 0,.s [],.i 0] 361))=H0:=⟨_,rfl⟩;have hH0:Ab.Sub h H0:=agJ;have g3:H0 i3=some (.obj [.i op,.i val.kind,.i val.n,.s val.s,.i attr.cat,.s attr.name,.b attr.must] 215):=by rw[←eH,ag _ _ n63.symm,ah]
 have g6:H0 i6=some (.obj [.sl [] .full,.i 0,.i 0,.s [],.i 0] 361):=afc;rw[eH];clear eH;cases d1:(op==1)
 case true=>
  have e1:op=1:=agK;simp only[go_sem,d1,g3,g6];exact .mk (bP ⟨[],val,0⟩) (lD (x:=⟨[],val,0⟩) rfl _) (hH0.put n6' _) ⟨by unfold lG;simp only[e1,if_true],rfl⟩
 have hp1' :op≠1:=agK;cases d2:(op==2)
 case true=>
  have e2:op=2:=by simpa using d2
  simp only[go_sem,d1,d2,g3];refine(hg _).pthen ?_
  by_cases hh:yd gs attr= []∧attr.must=true
  ·have hh2:Go.Bf.getD gs attr.cat attr.name= []∧attr.must=true:=hh
   simp only[go_sem,JF,if_pos hh2,g6];exact .mk (bP ⟨[],an,4⟩) (lD (x:=⟨[],an,4⟩) rfl _) (hH0.put n6' _) ⟨by unfold lG;simp only[e2,if_neg (show¬(2:Int)=1 by decide),if_true,if_pos hh],rfl⟩
  ·have hh2:¬(Go.Bf.getD gs attr.cat attr.name= []∧attr.must=true):=hh
   simp only[go_sem,JF,if_neg hh2,g6];exact .mk (bP ⟨yd gs attr,an,0⟩) (lD (x:=⟨yd gs attr,an,0⟩) rfl _) (hH0.put n6' _) ⟨by unfold lG;simp only[e2,if_neg (show¬(2:Int)=1 by decide),if_true,if_neg hh],rfl⟩
 have hp2' :op≠2:=by simpa using d2
 have his:=fun(x:jI) (m:Int) (G:Heap)=>Sp x m G
 simp only[bP]at his;cases d12:(op==12)
 case true=>
  have e12:op=12:=by simpa using d12
  have htr:=fun G=>vP false G
  simp only[bP]at htr;obtain⟨a,b,hab⟩:∃a b,l= [a,b]:=xH (by rw[hl,e12];rfl)
  have wk:IntKind.i64.wrap (op - 12)=0:=agq;have han:(l.any fun x=>isI x (op - 12))=(isI a 0||isI b 0):=by rw[hab,e12];simp
  have hb0:l.map bP= [bP a,bP b]:=by rw[hab];rfl
  have q3:(op==3)=false:=agq;have q4:(op==4)=false:=agq;have q5:(op==5)=false:=agq;have hbH:=hb.sub hH0;simp only[go_sem,d2,d1,d12,g3,wk];refine hbH.idx (e:=361) 0 rfl afV adU adO fun p hp1=>?_
  have hld:=hp1.all (U:=U) (ty:=361) adU aeU aeU;simp only[go_sem,hld,hb0,List.getElem_cons_zero,bP];refine(his a 0 _).pthen ?_;cases da:isI a 0
  ·simp only[go_sem]
   refine hbH.idx (e:=361) 1 rfl afV adU adO fun p hp1=>?_
   have hld:=hp1.all (U:=U) (ty:=361) adU aeu aeu;simp only[go_sem,hld,hb0,List.getElem_cons_succ,List.getElem_cons_zero,bP];refine(his b 0 _).pthen ?_;cases db:isI b 0
   ·exact ahV
   ·simp only[go_sem]
    refine(htr _).pthen ?_;simp only[go_sem,g6];exact .mk (bP (jh false)) (lD (x:=(jh false)) rfl _) (hH0.put n6' _) ⟨by unfold lG;rw[han,da,db];simp[e12]<;>rfl,rfl⟩
  ·simp only[go_sem]
   refine(htr _).pthen ?_;simp only[go_sem,g6];exact .mk (bP (jh false)) (lD (x:=(jh false)) rfl _) (hH0.put n6' _) ⟨by unfold lG;rw[han,da];simp[e12]<;>rfl,rfl⟩
 have hn12:op≠12:=by simpa using d12
 cases d13:(op==13)
 case true=>
  have e12:op=13:=by simpa using d13
  have htr:=fun G=>vP true G
  simp only[bP]at htr;obtain⟨a,b,hab⟩:∃a b,l= [a,b]:=xH (by rw[hl,e12];rfl)
  have wk:IntKind.i64.wrap (op - 12)=1:=agq;have han:(l.any fun x=>isI x (op - 12))=(isI a 1||isI b 1):=by rw[hab,e12];simp
  have hb0:l.map bP= [bP a,bP b]:=by rw[hab];rfl
  have q3:(op==3)=false:=agq;have q4:(op==4)=false:=agq;have q5:(op==5)=false:=agq;have hbH:=hb.sub hH0;simp only[go_sem,d1,d2,d12,d13,g3,wk];refine hbH.idx (e:=361) 0 rfl afV adU adO fun p hp1=>?_
  have hld:=hp1.all (U:=U) (ty:=361) adU aeU aeU;simp only[go_sem,hld,hb0,List.getElem_cons_zero,bP];refine(his a 1 _).pthen ?_;cases da:isI a 1
  ·simp only[go_sem]
   refine hbH.idx (e:=361) 1 rfl afV adU adO fun p hp1=>?_
   have hld:=hp1.all (U:=U) (ty:=361) adU aeu aeu;simp only[go_sem,hld,hb0,List.getElem_cons_succ,List.getElem_cons_zero,bP];refine(his b 1 _).pthen ?_;cases db:isI b 1
   ·exact ahV
   ·simp only[go_sem]
    refine(htr _).pthen ?_;simp only[go_sem,g6];exact .mk (bP (jh true)) (lD (x:=(jh true)) rfl _) (hH0.put n6' _) ⟨by unfold lG;rw[han,da,db];simp[e12]<;>rfl,rfl⟩
  ·simp only[go_sem]
   refine(htr _).pthen ?_;simp only[go_sem,g6];exact .mk (bP (jh true)) (lD (x:=(jh true)) rfl _) (hH0.put n6' _) ⟨by unfold lG;rw[han,da];simp[e12]<;>rfl,rfl⟩
 have hn13:op≠13:=by simpa using d13
 have hno:¬((op=12∨op=13)∧(l.any fun x=>isI x (op - 12))=true):=fun hh=>hh.1.elim hn12 hn13
 simp only[go_sem,d1,d2,d12,d13,g3,hb.len,adA];refine .intro (fun m ρ H=>∃(i:Nat) (z:AV),Acc U 33 H0 H z ((l.take i).map fun x=>aP x.v)∧i≤l.length∧m=l.length - i∧(∀j (h1:j<l.length),j<i→l[j].e=0)∧lk ρ 1=some y∧lk ρ 3=some (.ptr i3 0)∧lk ρ 6=some (.ptr i6 0)∧lk ρ 10=some z∧lk ρ 55=some y∧lk ρ 56=some (.i l.length)∧lk ρ 57=some (.i i)) l.length ?_ ?_
 ·refine⟨0,.sl [] .full,.full (.refl _),adK,rfl,fun j _ hj=>adK,?_,?_,?_,?_,?_,?_,?_⟩<;>simp only[go_sem]
 ·rintro m ρ H ⟨i,z,hz,hi,rfl,hc,r1,r3,r6,r10,r55,r56,r57⟩
  have hsH:=hH0.trans hz.1;have hbH:=hb.sub hsH;have k3:=hz.1 _ _ g3;have k6:=hz.1 _ _ g6;simp only[go_sem,r56,r57];refine .intro (fun e=>?_) (fun e=>?_)
  ·have hlt:i<l.length:=adH e
   have w1:=adG i adK;have hsn:(l.take (i+1)).map (fun x=>aP x.v)=(l.take i).map (fun x=>aP x.v)++ [aP l[i].v]:=aeY
   simp only[go_sem,r55,r57];refine hbH.idx (e:=361) i rfl aeb adU adO fun p hp1=>?_
   have hld:=hp1.all (U:=U) (ty:=361) adU aeo aeo;obtain⟨x,ex⟩:∃x,l[i]=x:=⟨_,rfl⟩;rw[ex]at hsn;simp only[go_sem,hld,adB,ex,bP];intro i12 h12;have n126:i12≠i6:=fun e=>afM
   cases dx:(x.e !=0)
   ·have dx' :x.e=0:=by simpa using dx
    simp only[go_sem,r10,dx];refine(hz.sub (.aj h12)).app (zs:=[aP x.v]) adP adP (fun k hk=>hk) ae3 afj ad2 fun z' H' hz' kp=>?_
    simp only[go_sem,r57,w1];refine⟨_,?_,i+1,z',by rw[hsn];exact hz',adK,rfl,fun j h1 hj=>?_,?_,?_,?_,?_,?_,?_,?_⟩
    ·omega
    ·by_cases hji:j=i
     ·subst hji;rw[ex];exact dx'
     ·exact hc j h1 adK
    all_goals simp only[go_sem,r1,r3,r6,r55,r56]
   ·have hfi:l.find? (fun x=>x.e !=0)=some x:=by rw[←ex];exact List.find?_eq_some_iff_getElem.2 ⟨by rw[ex];exact dx,i,hlt,rfl,fun j hj=>ahg⟩
    simp only[go_sem,r6,dx,ak,n126.symm,k6];exact .mk (bP ⟨[],an,x.e⟩) (lD (x:=⟨[],an,x.e⟩) rfl _) ((hsH.trans (.aj h12)).put n6' _) ⟨ag3,rfl⟩
  ·have hge:i=l.length:=by have:=adD e;omega
   subst hge;have hfi:l.find? (fun x=>x.e !=0)=none:=List.find?_eq_none.2 fun x hx=>by
    obtain⟨j,hj,rfl⟩:=List.mem_iff_getElem.1 hx;rw[hc j hj hj];decide
   have hnd:=vt (gs:=gs) (val:=val) (attr:=attr) hp1' hp2' hno hfi;rw[List.take_length]at hz;obtain⟨qz,eqz⟩:=hz.row;subst eqz;have hcl:=fun G=>Ce op (l.map (·.v)) agW qz G
   rw[List.map_map]at hcl;have hcl:∀G,ai Tryz.prog 316 [.i op,.sl (l.map fun x=>aP x.v) qz] G fun r h' =>r=rF (gZ op (l.map (·.v)))∧h' =G:=hcl
   cases d3:(op==3)
   case true=>
    have e3:op=3:=ahF;obtain⟨a,ha⟩:∃a,l= [a]:=List.length_eq_one_iff.1 (by rw[hl,e3];rfl)
    have hb0:l.map bP= [bP a]:=by rw[ha];rfl
    simp only[e3,if_true,ha,List.headD_cons]at hnd;simp only[go_sem,r1,r3,k3,d3];refine hbH.idx (e:=361) 0 rfl afV adU adO fun p hp1=>?_
    (try simp only[go_sem])
    refine hp1.field (f:=0) (off:=0) (t:=179) rfl aey fun p2 hp2=>?_
    have hld:=hp2.part (U:=U) (ty:=179) aey aeK;simp only[hb0,List.getElem_cons_zero,bP,AV.cells]at hld;cases db:((a.bag.length:Int) !=1)
    ·have hb1:(a.bag.length:Int)=1:=by simpa using db
     obtain⟨v,hv⟩:=List.length_eq_one_iff.1 (show a.bag.length=1 by omega)
     rw[hv]at hnd hld;have iv:=fun K=>fo.eq (xs:=[aP v]) (sz:=3) 0 adR rfl K
     simp only[List.getElem_cons_zero,aP,Int.natCast_zero]at iv;simp only[go_sem,r1,hld,List.map_cons,List.map_nil,aP];refine hbH.idx (e:=361) 0 rfl afV adU adO fun p hp1=>?_
     (try simp only[go_sem])
     refine hp1.field (f:=0) (off:=0) (t:=179) rfl aey fun p2 hp2=>?_
     have hld:=hp2.part (U:=U) (ty:=179) aey aeK;simp only[hb0,List.getElem_cons_zero,bP,AV.cells,hv,List.map_cons,List.map_nil,aP]at hld;simp only[go_sem,hld,iv,r6,k6];exact .mk (bP ⟨[],v,0⟩) (lD (x:=⟨[],v,0⟩) rfl _) (hsH.put n6' _) ⟨by rw[e3,ha,hnd]<;>rfl,rfl⟩
    ·simp only[go_sem,hld,adA,db,r6,k6]
     refine .mk (bP ⟨[],an,4⟩) (lD (x:=⟨[],an,4⟩) rfl _) (hsH.put n6' _) ⟨?_,rfl⟩;rw[e3,ha,hnd]
     congr 1
     split
     ·rename_i v hv;rw[hv]at db;simp at db
     ·rfl
   cases d4:(op==4)
   case true=>
    have e4:op=4:=by simpa using d4
    obtain⟨a,ha⟩:∃a,l= [a]:=List.length_eq_one_iff.1 (by rw[hl,e4];rfl)
    have hb0:l.map bP= [bP a]:=by rw[ha];rfl
    simp only[go_sem,r1,r3,k3,d3,d4];refine hbH.idx (e:=361) 0 rfl afV adU adO fun p hp1=>?_
    (try simp only[go_sem])
    refine hp1.field (f:=0) (off:=0) (t:=179) rfl aey fun p2 hp2=>?_
    have hld:=hp2.part (U:=U) (ty:=179) aey aeK;simp only[hb0,List.getElem_cons_zero,bP,AV.cells]at hld;simp only[go_sem,hld,adA,r6,k6];exact .mk (bP ⟨[],⟨2,a.bag.length,[]⟩,0⟩) (lD (x:=⟨[],⟨2,a.bag.length,[]⟩,0⟩) rfl _) (hsH.put n6' _) ⟨by rw[hnd,e4,ha];rfl,rfl⟩
   cases d5:(op==5)
   case true=>
    have e5:op=5:=by simpa using d5
    obtain⟨a,b,hab⟩:∃a b,l= [a,b]:=xH (by rw[hl,e5];rfl)
    have hb0:l.map bP= [bP a,bP b]:=by rw[hab];rfl
    have hvh:=fun G=>Qj a.bag (by have:=hbag a (by rw[hab];simp);omega) b.v .no G
    simp only[aP]at hvh;have htr:=fun G=>vP (a.bag.any fun v=>eqV v b.v) G
    simp only[bP]at htr;simp only[go_sem,r3,k3,d3,d4,d5];refine .calls h [0,1,2,3,4,5,6,7,8,9,10] hsH adN rfl ?_;simp only[go_sem,r1];refine hb.idx (e:=361) 0 rfl afV adU adO fun p hp1=>?_
    simp only[go_sem];refine hp1.field (f:=0) (off:=0) (t:=179) rfl aey fun p2 hp2=>?_
    have hld:=hp2.part (U:=U) (ty:=179) aey aeK;simp only[hb0,List.getElem_cons_zero,bP,AV.cells]at hld;simp only[go_sem,hld,r1];refine hb.idx (e:=361) 1 rfl afV adU adO fun p hp3=>?_
    simp only[go_sem];refine hp3.field (f:=1) (off:=1) (t:=33) rfl aey fun p4 hp4=>?_
    have hld4:=hp4.part (U:=U) (ty:=33) aey (by simp only[go_sem,hb0,List.getElem_cons_succ,List.getElem_cons_zero];exact adz rfl)
    simp only[hb0,List.getElem_cons_succ,List.getElem_cons_zero,bP,AV.cells]at hld4;simp only[go_sem,hld4];refine(hvh _).pthen ?_;refine⟨hsH,?_⟩;simp only[go_sem];refine(htr _).pthen ?_;refine⟨hsH,?_⟩;simp only[go_sem,r6,k6];refine⟨hsH.put n6' _,?_⟩;exact .mk (bP (jh (a.bag.any fun v=>eqV v b.v))) (lD (x:=(jh (a.bag.any fun v=>eqV v b.v))) rfl _) (hsH.put n6' _) ⟨by rw[hnd,e5,hab];rfl,rfl⟩
   obtain⟨⟨v,e⟩,ev⟩:∃x,gZ op (l.map (·.v))=x:=⟨_,rfl⟩
   rw[ev]at hcl;simp only[go_sem,r3,r10,k3,d3,d4,d5];refine(hcl _).pthen ?_;simp only[go_sem,rF,aP];intro i13 h13;have n136:i13≠i6:=fun e=>aho
   simp only[go_sem,r6,ak,n136.symm,k6];exact .mk (bP ⟨[],v,e⟩) (lD (x:=⟨[],v,e⟩) rfl _) ((hsH.trans (.aj h13)).put n6' _) ⟨by rw[hnd];simp only[if_neg (show¬op=3 by simpa using d3),if_neg (show¬op=4 by simpa using d4),if_neg (show¬op=5 by simpa using d5)];rw[ev]<;>rfl,rfl⟩
end Go.Proofs.YtfdgemhnlennbaaGreatDoor
namespace Go.Bf
open Go Go.Ab Go.Proofs.YtfdgemhnlennbaaGreatDoor
theorem CN{t:gj}(h:lP t=0):Ob t:=by
 obtain⟨h1,h2⟩:=BO h;refine⟨adK,fun x hx=>?_⟩
 grind [AR,AQ]
theorem M6.turn{m:aS}(h:M6 m):M6 (E9 m):=by
 exact aiv
theorem M6.indet{m:aS}(h:M6 m):M6 (gR m):=by
 exact aiv
theorem M6.first{l:List aS}(h:∀m∈l,M6 m):M6 (firstM l):=by
 unfold firstM;cases hf:l.find? fun m=>decide (m≠naM)with
 |none=>decide
 |some m=>grind
theorem M6.only:∀(l:List aS) (j:aS),(∀m∈l,M6 m)→M6 j→M6 (oU l j)
 | [],j,_,hj=>hj
 |m::r,j,h,hj=>by
  simp only[oU];split
  ·decide
  ·refine M6.only r _ adL ?_
   split
   ·grind
   ·split
    ·decide
    omega
theorem HB{alg:Int}{l:List aS}(h:∀m∈l,M6 m):M6 (ia alg l):=by
 unfold ia;split
 ·exact Iq _
 ·split
  ·exact M6.turn (Iq _)
  ·split
   ·exact .first h
   ·split
    ·exact .only _ _ h adO
    ·split
     ·split<;>decide
     ·split
      ·split<;>decide
      decide
theorem A4(r:cR)(t c:Nat):M6 (nP r t c).1:=by
 unfold nP;cases r.deny
 all_goals
  simp only[if_true,Bool.false_eq_true,if_false];split
  ·decide
  ·split
   ·decide
   ·first|(show M6 bf;decide)|(show M6 cF;decide)
theorem OZ(alg:Int)(obls:List cC)(t:Nat){parts:List jS}(h:∀x∈parts,M6 x.1):M6 (qi alg obls t parts).1:=by
 have hc:M6 (ia alg (parts.map (·.1))):=HB fun m hm=>by
  grind
 unfold qi;simp only;split
 ·decide
 ·split
  ·exact hc.indet
  ·split
   ·exact hc
   ·exact hc
mutual
theorem Cl(gs:List bp):∀p:bJ,M6 (fG gs p).1
 |.mk id set alg tgt rules kids obls=>by
  have ih:=Dx gs kids;simp only[fG];split
  ·decide
  ·refine OZ alg obls _ fun x hx=>?_
   rcases List.mem_append.1 hx with hx|hx
   ·obtain⟨r,_,rfl⟩:=List.mem_map.1 hx
    exact A4 _ _ _
   ·exact ih x hx
theorem Dx(gs:List bp):∀l:List bJ,∀x∈mT gs l,M6 x.1
 | [],x,hx=>by simp[mT]at hx
 |k::r,x,hx=>by
  have h1:=Cl gs k;have h2:=Dx gs r;simp only[mT,List.mem_cons]at hx;rcases hx with rfl|hx
  ·exact h1
  ·exact h2 x hx
end
theorem Lm{gs:List bp}(h:Qo gs):rY gs:=⟨by have:=h.len;omega,fun g hg=>by have:=(h.each g hg).2.2.2.1;omega⟩
theorem HM{α:Type}(B:Nat):∀(L:List (List α)),(∀x∈L,x.length≤B)→L.flatten.length≤L.length*B
 | [],_=>adR
 |x::L,h=>by
  have h1:=h x adR;have h2:=HM B L fun y hy=>h y adL
  rw[List.flatten_cons,adE,List.length_cons,Nat.add_mul];omega
theorem uo{alg:Int}{m:aS}{parts:List jS}{B:Nat}(hp:∀x∈parts,x.2.length≤B)(hn:parts.length≤32):(eR alg m parts).length≤32*B+B:=by
 unfold eR;split
 ·cases hf:parts.find? fun x=>x.1==m with
  |none=>simp
  |some x=>grind
 ·have h1:=HM B (((parts.filter fun x=>x.1==m).map (·.2))) fun x hx=>by
   grind
  have h2:((parts.filter fun x=>x.1==m).map (·.2)).length≤32:=by
   grind
  have:=Nat.mul_le_mul_right B h2;omega
theorem kT(l:List cC)(m:aS):(eN l m).length≤l.length:=List.length_filter_le _ _
theorem A3(r:cR)(t c:Nat):(nP r t c).2.length≤r.obls.length:=by
 unfold nP
 all_goals
  grind [kT]
def oB:Nat→Nat
 |0=>8
 |n+1=>8+33*oB n
theorem VN(n:Nat):8≤oB n:=by
 cases n with
 |zero=>decide
 |succ n=>grind [oB]
theorem Ck(gs:List bp):∀(n d:Nat) (p:bJ),d+n=5→nq d p→(fG gs p).2.length≤oB n
 |0,d,.mk id set alg tgt rules kids obls,hd,h=>by grind [nq]
 |n+1,d,.mk id set alg tgt rules kids obls,hd,h=>by
  simp only[nq,qT]at h;obtain⟨_,_,_,_,_,_,g2,g3,g4,g5,g6,g7⟩:=h;have hob:=(kM g3).1;have h8:=VN n;simp only[fG];split
  ·simp
  ·unfold qi
   simp only;split
   ·simp
   ·split
    ·simp
    ·split
     ·simp
     ·have h1:=uo (alg:=alg) (m:=ia alg ((rules.map (iC gs)++mT gs kids).map (·.1))) (parts:=rules.map (iC gs)++mT gs kids) (B:=oB n) (fun x hx=>by
       rcases List.mem_append.1 hx with hx|hx
       ·obtain⟨r,hr,rfl⟩:=List.mem_map.1 hx
        have:=A3 r (nj gs r.tgt) (qJ gs r.cond);have:=(kM (g6 r hr).2.2.2).1
        show(nP r (nj gs r.tgt) (qJ gs r.cond)).2.length≤_
        omega
       ·rw[tN]at hx
        obtain⟨k,hk,rfl⟩:=List.mem_map.1 hx;exact Ck gs n (d+1) k adK (g7 k hk)) (by grind [adE,adA,tN])
      have h2:=kT obls (ia alg ((rules.map (iC gs)++mT gs kids).map (·.1)))
      simp only[adE,oB];omega
theorem LY(gs:List bp){p:bJ}(h:nq 1 p):(fG gs p).2.length≤10000000:=Nat.le_trans (Ck gs 4 1 p rfl h) adO
theorem KS{op:Int}{w:List Bool}(hw:iN op=some w):w.length=opsOf op∧1≤op∧op≤13:=by
 have h1:1≤op∧op≤13:=by
  grind [iN]
 refine⟨?_,h1⟩;rcases(show op=1∨op=2∨op=3∨op=4∨op=5∨op=6∨op=7∨op=8∨op=9∨op=10∨op=11∨op=12∨op=13 by omega)with rfl|rfl|rfl|rfl|rfl|rfl|rfl|rfl|rfl|rfl|rfl|rfl|rfl
 all_goals (simp[iN]at hw;subst hw;rfl)
theorem KF{bs bs' :List Bool}{n:aQ}(h:iM bs n=some bs'):(1≤n.op∧n.op≤13)∧opsOf n.op≤bs.length∧bs'.length=bs.length - opsOf n.op+1:=by
 unfold iM at h;cases hw:iN n.op with
 |none=>grind
 |some w=>
  grind [KS,adE,List.length_take,List.length_singleton]
theorem P5{l:List aQ}{z bs:List Bool}{i:Nat}(hl:fW [] l=some z)(hi:i<l.length)(hb:fW [] (l.take i)=some bs):∃bs',iM bs l[i]=some bs'∧fW [] (l.take (i+1))=some bs' :=by
 have h1:=j7 [] l i;rw[hl,hb,List.drop_eq_getElem_cons hi]at h1;simp only[fW]at h1;cases hs:iM bs l[i]with
 |none=>rw[hs]at h1;cases h1
 |some bs' =>
  rw[j7 [] _ i,List.take_take,Nat.min_eq_left adK,hb,List.take_succ_eq_append_getElem hi,List.drop_append_of_le_length adL,List.drop_of_length_le adL]
  grind [fW]
theorem MJ{gs:List bp}(hf:rY gs)(n:aQ)(l:List jI):(lG gs n l).bag.length≤1000000:=by
 unfold lG AJ jh
 repeat' split
 all_goals first|exact hf.bag _|simp
def VB(x:jI):AV:=.tup [aP x.v,.i x.e]
end Go.Bf
namespace Go.Proofs.YtfdgemhnlennbaaGreatDoor
open Go Go.Ab Go.Bf
theorem LZ(l:List aQ)(hn:l≠ [])(he:kr l=0)(gs:List bp)(hf:rY gs)(h:Heap):ai Tryz.prog 270 [fy l,bL gs] h fun r h' =>r=VB (wJ gs l)∧h' =h:=by
 obtain⟨h32,hst⟩:=yw he hn;have hex:=fun G=>HJ l G
 rw[he]at hex;simp only[fy]at hex;have dl:((l.length:Int)==0)=false:=ahD;refine adJ Tryz.func270 51 [.cell 4 33,.tmp 5] fun hwf=>?_
 simp only[go_sem,fy,bL];intro i4 h4;simp only[go_sem,adA,dl];refine(hex _).pthen ?_;simp only[go_sem,adA];obtain⟨H0,eH⟩:∃H0,upd h i4 (some (.obj [.i 0,.i 0,.s []] 33))=H0:=⟨_,rfl⟩;have hH0:Ab.Sub h H0:=by rw[←eH];exact .aj h4
 have g4:H0 i4=some (.obj [.i 0,.i 0,.s []] 33):=afc;rw[eH];clear eH;refine .intro (fun m ρ H=>∃(i:Nat) (y:AV) (st:List jI) (bs:List Bool),OwE 361 H0 H 5 y (st.map bP)∧Ab.Sub H0 H∧(l.take i).foldl (zQ gs) []=st∧fW [] (l.take i)=some bs∧bs.length=st.length∧(∀x∈st,x.bag.length≤1000000)∧i≤l.length∧m=l.length - i∧lk ρ 1=some (.sl (gs.map lB) .no)∧lk ρ 4=some (.ptr i4 0)∧lk ρ 6=some y∧lk ρ 19=some (.sl (l.map dI) .no)∧lk ρ 20=some (.i l.length)∧lk ρ 21=some (.i i)) l.length ?_ ?_
 ·refine⟨0,_,[],[],.inl ⟨rfl,rfl⟩,.refl _,rfl,rfl,rfl,fun x hx=>adL,adK,rfl,?_,?_,?_,?_,?_,?_⟩<;>simp only[go_sem]
 ·rintro m ρ H ⟨i,y,st,bs,hw,hsH,hfo,hbs,hlen,hbag,hi,rfl,r1,r4,r6,r19,r20,r21⟩
  have hsl:bs.length≤i:=by have:=su _ _ _ hbs;simpa[Nat.min_eq_left hi]using this
  simp only[go_sem,r20,r21];refine .intro (fun e=>?_) (fun e=>?_)
  ·have hlt:i<l.length:=adH e
   have w1:IntKind.i64.wrap ((i:Int)+1)=((i+1:Nat):Int):=adY;obtain⟨bs',hb1,hb2⟩:=P5 hst hlt hbs;have hfs:(l.take (i+1)).foldl (zQ gs) []=zQ gs st l[i]:=by grind [List.take_succ_eq_append_getElem]
   have ix:=fun k=>fo.eq (xs:=l.map dI) (sz:=7) i adL ad0 k
   rw[adB]at ix;obtain⟨n,en⟩:∃n,l[i]=n:=⟨_,rfl⟩;rw[en]at hb1 hfs ix;obtain⟨hop,hle,hln⟩:=KF hb1;rw[hlen]at hle;obtain⟨k,ek⟩:∃k,st.length - opsOf n.op=k:=⟨_,rfl⟩;have wk:IntKind.i64.wrap ((st.length:Int) - (opsOf n.op:Int))=(k:Int):=adY;have hstep:zQ gs st n=st.take k++ [lG gs n (st.drop k)]:=by grind [zQ]
   simp only[dI]at ix;simp only[go_sem,r19,r21,ix];intro i8 h8;obtain⟨H8,eH⟩:∃H8,upd H i8 (some (.obj [.i n.op,.i n.val.kind,.i n.val.n,.s n.val.s,.i n.attr.cat,.s n.attr.name,.b n.attr.must] 215))=H8:=⟨_,rfl⟩;have hs8:Ab.Sub H H8:=by rw[←eH];exact .aj h8
   have k8:H8 i8=some (.obj [.i n.op,.i n.val.kind,.i n.val.n,.s n.val.s,.i n.attr.cat,.s n.attr.name,.b n.attr.must] 215):=afc;have hw8:=hw.sub hs8;simp only[go_sem,r6,hw8.rd.len,adA];refine(FV n.op _).pthen ?_;rw[eH];clear eH;simp only[go_sem,wk];refine .calls (hm1 i8 (.obj [.i n.op,.i n.val.kind,.i n.val.n,.s n.val.s,.i n.attr.cat,.s n.attr.name,.b n.attr.must] 215)) [0,1,2,3,4,5,6,7,8,9,10,11] (.hm1 k8) adN rfl ?_;simp only[go_sem,r6];refine hw8.cut (U:=U) (x:=.i64) k adV rfl adL adV adO fun z hz hzy=>?_
   simp only[go_sem,r6,gp];refine hw8.from (U:=U) (x:=.i64) k adV rfl adL adV adO fun z2 hz2=>?_
   rw[←List.map_drop]at hz2;rw[←List.map_take]at hz;have hnd:=Pr n hop (st.drop k) hz2 adL (fun x hx=>hbag x (List.mem_of_mem_drop hx)) gs hf
   have hnb:=MJ hf n (st.drop k);obtain⟨x,ex⟩:∃x,lG gs n (st.drop k)=x:=⟨_,rfl⟩;rw[ex]at hnd hnb hstep;simp only[dI,bL,bP]at hnd;simp only[go_sem,r1];refine hnd.pthen ?_;refine⟨.hm1 k8,?_⟩;simp only[go_sem];have hone:Rd H8 5 (.sl [bP x] .full) [bP x]:=.sl (fun z hz=>agE) .full
   simp only[bP]at hone;refine OwE.app (U:=U) (tb:=361) hz (hsH.trans hs8) hone adV adO adO adV adR ad2 fun id y' H' hid hor how hoth=>?_
   have n8:i8≠id:=by
    intro e8;rcases hor with ho|⟨lz,cz,ez⟩
    ·grind
    ·exact mg (hz.nid (id:=id) (by rw[ez];rfl)).2.2 k8 adO e8.symm
   have hsub' :Ab.Sub H0 H' :=fun j b hj=>by rw[hoth j (fun e=>adL)];exact(hsH.trans hs8) _ _ hj
   refine⟨.hm1 adL,?_⟩;simp only[go_sem,r21,w1];refine⟨_,?_,i+1,y',zQ gs st n,bs',.inr ⟨id,hid,by rw[hstep,List.map_append];exact how⟩,hsub',hfs,hb2,adL,fun w hw=>?_,adK,rfl,?_,?_,?_,?_,?_,?_⟩
   ·omega
   ·grind
   all_goals simp only[go_sem,r1,r4,r19,r20]
  ·have hge:i=l.length:=by grind
   subst hge;rw[List.take_length]at hbs hfo;rw[hst]at hbs;cases hbs;obtain⟨x,rfl⟩:=List.length_eq_one_iff.1 hlen.symm;have hit:wJ gs l=x:=by simp_all [wJ,if_neg]
   obtain⟨id,hid,how⟩:=hw.ow adR;have hwp:Rd (pick H [id]) 5 y [bP x]:=(how.same (bD (List.mem_singleton.2 rfl))).rd;have n4:i4≠id:=fun e=>adL
   have k4:=hsH _ _ g4;simp only[go_sem];refine .calls (pick H [id]) [0,1,2,3,4,5,6,7,8,9] bA adN rfl ?_;simp only[go_sem,r6];refine hwp.idx (U:=U) (e:=361) 0 rfl adR adV adO fun p hp1=>?_
   simp only[go_sem];refine hp1.field (f:=1) (off:=1) (t:=33) rfl adO fun p2 hp2=>?_
   have hld:=hp2.part (U:=U) (ty:=33) adO af9;simp only[List.getElem_cons_zero,bP,AV.cells]at hld;simp only[go_sem,r6,hld];refine hwp.idx (U:=U) (e:=361) 0 rfl adR adV adO fun p3 hp3=>?_
   simp only[go_sem];refine hp3.field (f:=2) (off:=4) (t:=24) rfl adO fun p4 hp4=>?_
   have hld4:=hp4.part (U:=U) (ty:=24) adO af9;simp only[List.getElem_cons_zero,bP,AV.cells]at hld4;simp only[go_sem,r4,hld4,k4];refine⟨bA.put (by grind [pick]) _,?_⟩
   exact .mk _ (.refl _) ((hH0.trans hsH).put h4 _) ⟨by rw[hit];rfl,rfl⟩
theorem OA(l:List aQ)(he:kr l=0)(gs:List bp)(hf:rY gs)(h:Heap):ai Tryz.prog 243 [fy l,bL gs] h fun r h' =>r= .i (qJ gs l:Nat)∧h' =h:=by
 by_cases hn:l= []
 ·subst hn
  refine adJ Tryz.func243 26 [.tmp 4] fun hwf=>?_
  simp only[go_sem,fy,bL,List.map_nil,List.length_nil];exact adT
 have hv:=fun G=>LZ l hn he gs hf G
 have hcd:qJ gs l=if isI (wJ gs l) 1 then 2 else if isI (wJ gs l) 0 then 0 else 1:=by
  simp_all [qJ,if_neg]
 obtain⟨x,ex⟩:∃x,wJ gs l=x:=⟨_,rfl⟩;rw[ex]at hv hcd;simp only[fy,bL,VB,aP]at hv;have hi1:∀(m:Int) G,ai Tryz.prog 271 [.agg [.sl [] .full,.i x.v.kind,.i x.v.n,.s x.v.s,.i x.e],.i m] G fun r h' =>r= .b (isI x m)∧h' =G:=fun m G=>OX x m G
 have dl:((l.length:Int)==0)=false:=ahD;refine adJ Tryz.func243 26 [.tmp 4] fun hwf=>?_
 simp only[go_sem,fy,bL,adA,dl];refine(hv _).pthen ?_;simp only[go_sem];intro i5 h5;simp only[go_sem];intro i7 h7;have n7:=aB h7;have hs:∀x y,Ab.Sub h (upd (upd h i5 x) i7 y):=fun x y=>((Sub.refl h).put h5 x).put n7 y
 simp only[go_sem];refine(hi1 1 _).pthen ?_;cases d1:isI x 1
 case true=>
  rw[d1]at hcd;simp only[go_sem];exact .mk _ (.refl _) (hs _ _) ⟨by rw[hcd];rfl,rfl⟩
 simp only[go_sem];refine(hi1 0 _).pthen ?_;cases d0:isI x 0
 all_goals
  rw[d1,d0]at hcd;simp only[go_sem];exact .mk _ (.refl _) (hs _ _) ⟨by rw[hcd];rfl,rfl⟩
end Go.Proofs.YtfdgemhnlennbaaGreatDoor
namespace Go.Bf
open Go Go.Ab Go.Proofs.YtfdgemhnlennbaaGreatDoor
def jZ(l:List aS)(p:Perm):AV:=.sl (l.map aN) p
theorem M9.na:M9 naM:=adO
theorem Cv(l:List aS)(i:Nat)(h:i<l.length):(l.take (i+1)).foldl oO naM=oO ((l.take i).foldl oO naM) l[i]:=by
 grind [List.take_succ_eq_append_getElem]
theorem Jv{l:List aS}{q:aS→Bool}(hq:∀m,q m=decide (m≠naM))(h:l.findIdx q<l.length):firstM l=l[l.findIdx q]:=by
 unfold firstM;have e:q=fun m=>decide (m≠naM):=funext hq
 subst e;rw[show l.find? (fun m=>decide (m≠naM))=some l[l.findIdx fun m=>decide (m≠naM)]from List.find?_eq_some_iff_getElem.2 ⟨List.findIdx_getElem (w:=h),_,h,rfl,fun j hj=>adL⟩]
 rfl
theorem Jw{l:List aS}{q:aS→Bool}(hq:∀m,q m=decide (m≠naM))(h:¬l.findIdx q<l.length):firstM l=naM:=by
 unfold firstM;rw[List.find?_eq_none.2 fun x hx=>adL]
 rfl
def xd(j m:aS):aS:=if j=naM then m else if m≠naM then mZ else j
theorem MP{l:List aS}{i:Nat}(h:i<l.length)(j:aS):oU (l.drop i) j=if zR l[i]=false then mZ else oU (l.drop (i+1)) (xd j l[i]):=by
 rw[List.drop_eq_getElem_cons h];rfl
end Go.Bf
namespace Go.Proofs.YtfdgemhnlennbaaGreatDoor
open Go Go.Ab Go.Bf
theorem We:(U 31).sz=1:=adV
theorem JY(ms:List aS)(hl:ms.length≤1000000000)(q:aS→Bool)(g:FuncId)(cap:List AV)(p:Perm)(h:Heap)(hp:∀m∈ms,ai Tryz.prog g (aN m::cap) h fun r h' =>r= .b (q m)∧h' =h):
  ai Tryz.prog 302 [jZ ms p,.fn g cap] h fun r h' =>r= .i (ixD q ms)∧h' =h:=by
 refine adJ Tryz.func302 19 [.tmp 4] fun hwf=>?_
 simp only[go_sem,jZ,adA];refine .intro (fun m ρ h' =>h' =h∧∃i:Nat,i≤ms.length∧m=ms.length - i∧(∀j (hj:j<i) (h2:j<ms.length),q ms[j]=false)∧lk ρ 0=some (.sl (ms.map aN) p)∧lk ρ 1=some (.fn g cap)∧lk ρ 7=some (.i ms.length)∧lk ρ 8=some (.i i)) ms.length ?_ ?_
 ·refine⟨rfl,0,adK,rfl,fun j hj=>adK,?_,?_,?_,?_⟩<;>simp only[go_sem]
 ·rintro m ρ h' ⟨rfl,i,hi,rfl,hc,r0,r1,r7,r8⟩
  simp only[go_sem,r7,r8];refine .intro (fun e=>?_) (fun e=>?_)
  ·have hlt:i<ms.length:=adH e
   have w1:IntKind.i64.wrap ((i:Int)+1)=((i+1:Nat):Int):=adY;have ix:=fun k=>fo.eq (xs:=ms.map aN) (sz:=1) i adL ad0 k
   rw[adB]at ix;have hg:=hp ms[i] (adF hlt);have hci:=fun(d:q ms[i]=false)=>(fun j (hj:j<i+1) (h2:j<ms.length)=>(by
    grind:q ms[j]=false))
   have hat:=fun(d:q ms[i]=true)=>ov hlt d fun j hj=>hc j hj adK
   obtain⟨m,em⟩:∃m,ms[i]=m:=⟨_,rfl⟩;rw[em]at ix hg hci hat;simp only[aN]at ix;simp only[go_sem,r0,r1,r8,ix];refine(show ai Tryz.prog g (.v (.complex .f64 (hbit m.1) (hbit m.2))::cap) _ _ from hg).pthen ?_
   cases d1:q m
   ·simp only[go_sem,r8,w1]
    refine⟨_,?_,rfl,i+1,adK,rfl,hci d1,?_,?_,?_,?_⟩
    ·omega
    all_goals simp only[go_sem,r0,r1,r7]
   ·simp only[go_sem]
    exact .same (.refl _) ⟨ahN,rfl⟩
  ·have hge:i=ms.length:=by grind
   simp only[go_sem];exact .same (.refl _) ⟨aee,rfl⟩
theorem Gi(ms:List aS)(hl:ms.length≤1000000000)(hmm:∀m∈ms,M9 m)(x:aS)(hx:M9 x)(p:Perm)(h:Heap):
  ai Tryz.prog 317 [jZ ms p,aN x] h fun r h' =>r= .i (ixD (fun y=>x==y) ms)∧h' =h:=by
 refine adJ Tryz.func317 19 [.tmp 4] fun hwf=>?_
 simp only[go_sem,jZ,adA];refine .intro (fun m ρ h' =>h' =h∧∃i:Nat,i≤ms.length∧m=ms.length - i∧(∀j (hj:j<i) (h2:j<ms.length),(x==ms[j])=false)∧lk ρ 0=some (.sl (ms.map aN) p)∧lk ρ 1=some (aN x)∧lk ρ 7=some (.i ms.length)∧lk ρ 8=some (.i i)) ms.length ?_ ?_
 ·refine⟨rfl,0,adK,rfl,fun j hj=>adK,?_,?_,?_,?_⟩<;>simp only[go_sem]
 ·rintro m ρ h' ⟨rfl,i,hi,rfl,hc,r0,r1,r7,r8⟩
  simp only[go_sem,r7,r8];refine .intro (fun e=>?_) (fun e=>?_)
  ·have hlt:i<ms.length:=adH e
   have w1:IntKind.i64.wrap ((i:Int)+1)=((i+1:Nat):Int):=adY;have ix:=fun k=>fo.eq (xs:=ms.map aN) (sz:=1) i adL ad0 k
   rw[adB]at ix;have hm9:=hmm ms[i] (adF hlt);have hci:=fun(d:(x==ms[i])=false)=>(fun j (hj:j<i+1) (h2:j<ms.length)=>(by
    grind:(x==ms[j])=false))
   have hat:=fun(d:(x==ms[i])=true)=>ov (q:=fun y=>x==y) hlt d fun j hj=>hc j hj adK
   obtain⟨m,em⟩:∃m,ms[i]=m:=⟨_,rfl⟩;rw[em]at ix hm9 hci hat;simp only[aN]at ix r1;have ne:=ze hx hm9;cases d1:(x==m)
   ·simp only[go_sem,r0,r1,r8,ix,ne,d1,w1]
    refine⟨_,?_,rfl,i+1,adK,rfl,hci d1,?_,?_,?_,?_⟩
    ·omega
    all_goals simp only[go_sem,r0,r1,r7,aN]
   ·simp only[go_sem,r0,r1,r8,ix,ne,d1]
    exact .same (.refl _) ⟨ahN,rfl⟩
  ·have hge:i=ms.length:=by grind
   simp only[go_sem];exact .same (.refl _) ⟨aee,rfl⟩
theorem Gb(ms:List aS)(hl:ms.length≤1000000000)(hmm:∀m∈ms,M9 m)(x:aS)(hx:M9 x)(p:Perm)(h:Heap):
  ai Tryz.prog 306 [jZ ms p,aN x] h fun r h' =>r= .b (decide (x∈ms))∧h' =h:=by
 refine adJ Tryz.func306 9 [.tmp 4] fun hwf=>?_
 simp only[go_sem];refine(Gi ms hl hmm x hx p _).pthen ?_;simp only[go_sem];exact .same (.refl _) ⟨by rw[uX,show(ms.any fun y=>x==y)=decide (x∈ms) by grind];rfl,rfl⟩
theorem Fz(m:aS)(hmm:M9 m)(h:Heap):ai Tryz.prog 303 [aN m] h fun r h' =>r= .b (!(m==naM))∧h' =h:=by
 have n:=(nb hmm).nna;refine adJ Tryz.func303 5 [.tmp 2] fun hwf=>?_
 simp only[go_sem,aN,n];exact adT
theorem P8(m:aS)(hmm:M9 m)(h:Heap):ai Tryz.prog 304 [aN m] h fun r h' =>r= .b (zR m)∧h' =h:=by
 obtain⟨n1,n2,n3,_⟩:=nb hmm;refine adJ Tryz.func304 13 [.tmp 2] fun hwf=>?_
 have es:zR m=(m==naM||(m==bf||m==cF)):=by
  unfold zR
  grind
 rw[es];cases d1:(m==naM)<;>cases d2:(m==bf)<;>cases d3:(m==cF)
 all_goals
  simp only[go_sem,aN,n1,n2,n3,d1,d2,d3];exact adT
theorem L4(ms:List aS)(hl:ms.length≤1000000000)(hmm:∀m∈ms,M9 m)(p:Perm)(h:Heap):ai Tryz.prog 276 [jZ ms p] h fun r h' =>r=aN (firstM ms)∧h' =h:=by
 refine adJ Tryz.func276 12 [.tmp 2] fun hwf=>?_
 simp only[go_sem,jZ];refine(JY ms hl (fun m=> !(m==naM)) _ [] p _ fun m h=>Fz m (hmm m h) _).pthen ?_
 have hq:∀m:aS,(!(m==naM))=decide (m≠naM):=fun m=>adL
 by_cases hx:ms.findIdx (fun m=> !(m==naM))<ms.length
 ·obtain⟨i,ei⟩:∃i,ms.findIdx (fun m=> !(m==naM))=i:=⟨_,rfl⟩
  have ef:=Jv hq hx;have e1:ixD (fun m=> !(m==naM)) ms=(i:Nat):=by rw[ixD,ei];omega
  simp only[ei]at ef;have d1:decide ((0:Int)≤((i:Nat):Int))=true:=decide_eq_true adK;have ix:=fun k=>fo.eq (xs:=ms.map aN) (sz:=1) i adL ad0 k
  rw[adB,←ef]at ix;rw[e1];simp only[go_sem,d1,ix];exact adT
 ·have e1:ixD (fun m=> !(m==naM)) ms= -1:=by simp_all [ixD,if_neg]
  have d1:decide ((0:Int)≤ -1)=false:=rfl;rw[e1];simp only[go_sem,d1];exact .same (.refl _) ⟨by rw[Jw hq hx];rfl,rfl⟩
theorem NA(j m:aS)(hj:M9 j)(hmm:M9 m)(h:Heap):ai Tryz.prog 305 [.i 4,aN j,aN m] h fun r h' =>r=aN (xd j m)∧h' =h:=by
 have n1:=(nb hj).na;have n2:=(nb hmm).nna;refine adJ Tryz.func305 31 [.tmp 6] fun hwf=>?_
 cases d1:(j==naM)
 case true=>
  simp only[go_sem,aN,n1,d1];exact .same (.refl _) ⟨by rw[xd,if_pos adL];rfl,rfl⟩
 cases d2:(m==naM)
 ·simp only[go_sem,aN,n1,n2,d1,d2]
  exact .same (.refl _) ⟨by rw[xd,if_neg adL,if_pos adL];rfl,rfl⟩
 ·simp only[go_sem,aN,n1,n2,d1,d2]
  exact .same (.refl _) ⟨by rw[xd,if_neg adL,if_neg adL];rfl,rfl⟩
theorem M9.step{j m:aS}(hj:M9 j)(hmm:M9 m):M9 (xd j m):=by
 unfold xd
 repeat' split
 ·omega
 ·decide
 omega
theorem Pz(ms:List aS)(hl:ms.length≤1000000000)(hmm:∀m∈ms,M9 m)(p:Perm)(h:Heap):ai Tryz.prog 277 [jZ ms p] h fun r h' =>r=aN (oU ms naM)∧h' =h:=by
 refine adJ Tryz.func277 20 [.tmp 2] fun hwf=>?_
 simp only[go_sem,jZ,adA];refine .intro (fun m ρ h' =>h' =h∧∃(i:Nat) (j:aS),i≤ms.length∧m=ms.length - i∧M9 j∧oU (ms.drop i) j=oU ms naM∧lk ρ 3=some (aN j)∧lk ρ 6=some (.sl (ms.map aN) p)∧lk ρ 7=some (.i ms.length)∧lk ρ 8=some (.i i)) ms.length ?_ ?_
 ·refine⟨rfl,0,naM,adK,rfl,.na,rfl,?_,?_,?_,?_⟩<;>simp only[go_sem,aN,naM,hbit]
 ·rintro m ρ h' ⟨rfl,i,j,hi,rfl,hj,ho,r3,r6,r7,r8⟩
  simp only[go_sem,r7,r8];refine .intro (fun e=>?_) (fun e=>?_)
  ·have hlt:i<ms.length:=adH e
   have w1:IntKind.i64.wrap ((i:Int)+1)=((i+1:Nat):Int):=adY;have ix:=fun k=>fo.eq (xs:=ms.map aN) (sz:=1) i adL ad0 k
   rw[adB]at ix;have hm9:=hmm ms[i] (adF hlt);rw[MP hlt]at ho;obtain⟨m,em⟩:∃m,ms[i]=m:=⟨_,rfl⟩;rw[em]at ix hm9 ho;have hsu:=fun G=>P8 m hm9 G
   have hst:=fun G=>NA j m hj hm9 G
   simp only[aN]at ix hsu hst r3;simp only[go_sem,r6,r8,ix];refine(hsu _).pthen ?_;cases d1:zR m
   ·rw[if_pos d1]at ho
    simp only[go_sem];exact .same (.refl _) ⟨by rw[←ho];rfl,rfl⟩
   ·rw[if_neg adL]at ho
    simp only[go_sem,r3];refine(hst _).pthen ?_;simp only[go_sem,r8,w1];refine⟨_,?_,rfl,i+1,xd j m,adK,rfl,M9.step hj hm9,ho,?_,?_,?_,?_⟩
    ·omega
    all_goals simp only[go_sem,r6,r7,aN]
  ·have hge:i=ms.length:=by grind
   subst hge;rw[List.drop_length]at ho;simp only[go_sem,r3];exact .same (.refl _) ⟨by rw[←ho];rfl,rfl⟩
theorem BR(ms:List aS)(hl:ms.length≤1000000000)(hmm:∀m∈ms,M9 m)(a b:aS)(hb:M9 b)(p:Perm)(h:Heap):ai Tryz.prog 278 [jZ ms p,aN a,aN b] h fun r h' =>r=aN (if b∈ms then b else a)∧h' =h:=by
 refine adJ Tryz.func278 12 [.tmp 6] fun hwf=>?_
 simp only[go_sem];refine(Gb ms hl hmm b hb p _).pthen ?_
 by_cases d:b∈ms
 ·simp only[go_sem,decide_eq_true d,if_pos d]
  exact adT
 ·simp only[go_sem,decide_eq_false d,if_neg d]
  exact adT
theorem RF(alg:Int)(ha:1≤alg∧alg≤6)(ms:List aS)(hl:ms.length≤1000000000)(hmm:∀m∈ms,M6 m)(p:Perm)(h:Heap):ai Tryz.prog 244 [.i alg,jZ ms p] h fun r h' =>r= .tup [aN (ia alg ms),.i 0]∧h' =h:=by
 have hm9:=fun m h=>(hmm m h).m9
 refine adJ Tryz.func244 49 [.tmp 4,.tmp 5] fun hwf=>?_
 simp only[go_sem,jZ,adA];refine .intro (fun m ρ h' =>h' =h∧∃i:Nat,i≤ms.length∧m=ms.length - i∧M9 ((ms.take i).foldl oO naM)∧lk ρ 0=some (.i alg)∧lk ρ 1=some (.sl (ms.map aN) p)∧lk ρ 6=some (aN ((ms.take i).foldl oO naM))∧lk ρ 9=some (.sl (ms.map aN) p)∧lk ρ 10=some (.i ms.length)∧lk ρ 11=some (.i i)) ms.length ?_ ?_
 ·refine⟨rfl,0,adK,rfl,.na,?_,?_,?_,?_,?_,?_⟩<;>simp only[go_sem,aN,naM,hbit,List.take_zero,List.foldl_nil]
 ·rintro m ρ h' ⟨rfl,i,hi,rfl,hj,r0,r1,r6,r9,r10,r11⟩
  obtain⟨j,ej⟩:∃j,(ms.take i).foldl oO naM=j:=⟨_,rfl⟩;rw[ej]at hj r6;simp only[go_sem,r10,r11];refine .intro (fun e=>?_) (fun e=>?_)
  ·have hlt:i<ms.length:=adH e
   have w1:IntKind.i64.wrap ((i:Int)+1)=((i+1:Nat):Int):=adY;have ix:=fun k=>fo.eq (xs:=ms.map aN) (sz:=1) i adL ad0 k
   rw[adB]at ix;have hm6:=hmm ms[i] (adF hlt);have hsn:=Cv ms i hlt;rw[ej]at hsn;obtain⟨m,em⟩:∃m,ms[i]=m:=⟨_,rfl⟩;rw[em]at ix hm6 hsn;have hri:=fun G=>CB m hm6 G
   have hjo:=fun G=>O1 j m hj hm6.m9 G
   simp only[aN]at ix hri hjo r6;simp only[go_sem,r9,r11,ix];refine(hri _).pthen ?_;simp only[go_sem,r6];refine(hjo _).pthen ?_;simp only[go_sem,r11,w1];refine⟨_,?_,rfl,i+1,adK,rfl,by grind [M9.join],?_,?_,?_,?_,?_,?_⟩
   ·omega
   all_goals simp only[go_sem,r0,r1,r9,r10,aN,hsn]
  ·have hge:i=ms.length:=by grind
   subst hge;rw[List.take_length]at ej;have ej' :xF ms=j:=ej;have hov:=fun G=>Ir j hj G
   have htu:=fun(x:aS) (G:Heap)=>Qb x G
   have hov2:=fun G=>Ir (E9 j) ⟨hj.2,hj.1⟩ G
   have h1:=L4 ms hl hm9 p;have h2:=Pz ms hl hm9 p;have h3:=BR ms hl hm9 cF bf adO p;have h4:=BR ms hl hm9 bf cF adO p;simp only[jZ]at h1 h2 h3 h4;rcases(show alg=1∨alg=2∨alg=3∨alg=4∨alg=5∨alg=6 by omega)with rfl|rfl|rfl|rfl|rfl|rfl
   ·simp only[go_sem,r0,r6]
    refine(hov _).pthen ?_;simp only[go_sem];exact .same (.refl _) ⟨by simp only[ia,ej',if_true];rfl,rfl⟩
   ·simp only[go_sem,r0,r6]
    refine(htu _ _).pthen ?_;simp only[go_sem];refine(hov2 _).pthen ?_;simp only[go_sem];refine(htu _ _).pthen ?_;simp only[go_sem];exact .same (.refl _) ⟨by simp only[ia,ej'];rfl,rfl⟩
   ·simp only[go_sem,r0,r1]
    refine(h1 _).pthen ?_;exact ah8
   ·simp only[go_sem,r0,r1]
    refine(h2 _).pthen ?_;exact ah8
   ·simp only[go_sem,r0,r1]
    refine(h3 _).pthen ?_;exact ajK
   ·simp only[go_sem,r0,r1]
    refine(h4 _).pthen ?_;exact ajK
end Go.Proofs.YtfdgemhnlennbaaGreatDoor
namespace Go.Bf
open Go Go.Ab Go.Proofs.YtfdgemhnlennbaaGreatDoor
theorem tP{α:Type}(f:α→Nat):∀(l:List α) (a:Nat),l.foldl (fun a x=>min a (f x)) a≤a∧∀x∈l,l.foldl (fun a x=>min a (f x)) a≤f x
 | [],a=>adR
 |y::l,a=>by
  obtain⟨h1,h2⟩:=tP f l (min a (f y))
  grind
theorem O3{gs:List bp}:∀ {t:gj} {m:bQ},oP t=some m→j0 gs m=0→nj gs t=0:=by
 intro t;have main:∀(t:gj) (m:bQ),oP t=some m→j0 gs m=0→∃x∈t,Af gs x=0:=by
  intro t
  induction t with
  |nil=>intro m h;cases h
  |cons x r ih=>
   intro m h h0
   match x,h with
   | [],h=>obtain⟨y,hy,e⟩:=ih m h h0;exact⟨y,List.mem_cons_of_mem _ hy,e⟩
   | [l],h=>
    simp only[oP]at h;cases hf:l.find? fun m=>m.op==1 && !m.attr.must with
    |none=>rw[hf]at h;obtain⟨y,hy,e⟩:=ih m h h0;exact⟨y,List.mem_cons_of_mem _ hy,e⟩
    |some k=>
     rw[hf]at h;cases h;have hm:=List.mem_of_find?_eq_some hf;have hall:C4 gs l=0:=by
      have:=(tP (j0 gs) l 2).2 _ hm;rw[h0]at this;exact Nat.le_zero.1 this
     exact⟨[l],List.mem_cons_self ..,by grind [Af]⟩
   |a::b::c,h=>obtain⟨y,hy,e⟩:=ih m h h0;exact⟨y,List.mem_cons_of_mem _ hy,e⟩
 intro m h h0;obtain⟨x,hx,e⟩:=main t m h h0;have:=(tP (Af gs) t 2).2 x hx;rw[e]at this;exact Nat.le_zero.1 this
theorem Pt{gs:List bp}{p:bJ}(h:sR gs p=false):fG gs p=(naM,[]):=by
 obtain⟨id,set,alg,tgt,rules,kids,obls⟩:=p;unfold sR at h;simp only[sW]at h;cases hk:oP tgt with
 |none=>grind
 |some m=>
  simp_all [j0,fG,O3,if_true]
theorem O0(j:aS):oO j naM=j:=by simp[oO,naM]
inductive Drop:List jS→List jS→Prop
 |nil:Drop [] []
 |keep (x:jS) {a b:List jS} (h:Drop a b):Drop (x::a) (x::b)
 |skip {a b:List jS} (h:Drop a b):Drop a ((naM,[])::b)
theorem Drop.app{a b c:List jS}(h:Drop a b):Drop (c++a) (c++b):=by
 induction c with
 |nil=>exact h
 |cons x c ih=>grind [keep]
theorem Drop.join{a b:List jS}(h:Drop a b):∀j,(a.map (·.1)).foldl oO j=(b.map (·.1)).foldl oO j:=by
 induction h with
 |nil=>simp
 |keep x h ih=>grind
 |skip h ih=>grind [O0]
theorem Drop.first{a b:List jS}(h:Drop a b):firstM (a.map (·.1))=firstM (b.map (·.1)):=by
 unfold firstM
 congr 1
 induction h with
 |nil=>rfl
 |keep x h ih=>grind
 |skip h ih=>simpa using ih
theorem Drop.only{a b:List jS}(h:Drop a b):∀j,oU (a.map (·.1)) j=oU (b.map (·.1)) j:=by
 induction h with
 |nil=>simp
 |keep x h ih=>grind [oU]
 |skip h ih=>
  intro j;have hs:zR naM=true:=adO;simp only[List.map_cons,oU,hs,Bool.true_eq_false,if_false];rw[←ih]
  congr 1
  simp
theorem Drop.mem{a b:List jS}(h:Drop a b){m:aS}(hm:m≠naM):m∈a.map (·.1)↔m∈b.map (·.1):=by
 exact aiZ
theorem Drop.comb{a b:List jS}(h:Drop a b)(alg:Int):ia alg (a.map (·.1))=ia alg (b.map (·.1)):=by
 unfold ia xF;rw[h.join,h.first,h.only];simp only[h.mem (show bf≠naM by decide),h.mem (show cF≠naM by decide)]
theorem Drop.parts{a b:List jS}(h:Drop a b)(alg:Int){m:aS}(hm:m≠naM):eR alg m a=eR alg m b:=by
 have h1:(a.find? fun x=>x.1==m)=b.find? fun x=>x.1==m:=by
  exact aiZ
 have h2:(a.filter fun x=>x.1==m)=b.filter fun x=>x.1==m:=by
  clear h1;exact aiZ
 simp only[eR,h1,h2]
theorem Drop.qi{a b:List jS}(h:Drop a b)(alg:Int)(obls:List cC)(t:Nat):qi alg obls t a=qi alg obls t b:=by
 unfold Go.Bf.qi;simp only[h.comb alg]
 by_cases hp:ia alg (b.map (·.1))=bf
 ·rw[hp,h.parts alg adO]
 ·by_cases hd:ia alg (b.map (·.1))=cF
  ·rw[hd,h.parts alg adO]
  grind
mutual
theorem Bu(gs:List bp):∀p:bJ,fG gs (lI gs p)=fG gs p
 |.mk id set alg tgt rules kids obls=>by
  simp only[lI,fG]
  by_cases h:nj gs tgt=0
  ·simp only[h,if_true]
  ·simp only[h,if_false]
   exact(Bv gs kids).app.qi alg obls _
theorem Bv(gs:List bp):∀l:List bJ,Drop (mT gs (kD gs l)) (mT gs l)
 | []=>by simp only[kD,mT];exact .nil
 |k::r=>by
  have ih1:=Bu gs k;have ih2:=Bv gs r;simp only[kD,mT]
  by_cases h:sR gs k=true
  ·simp only[h,if_true,mT,ih1]
   exact .keep _ ih2
  ·have h:sR gs k=false:=by simpa using h
   simp only[h,Bool.false_eq_true,if_false,Pt h];exact .skip ih2
end
def rsA(r:jS):AV:=.agg [aN r.1,aA r.2]
theorem Jk(l:List cC)(m:aS)(i:Nat)(h:i<l.length):eN (l.take (i+1)) m=eN (l.take i) m++(if(l[i].on==1 && m==bf||l[i].on==2 && m==cF)=true then [l[i]]else []):=by
 grind [eN,List.take_succ_eq_append_getElem]
theorem rq(l:List cC)(m:aS){L:List AV}(hL:L=l.map bu)(q:Perm):Weak (.agg [aN m,.sl L q]) (rsA (m,l)):=by
 subst hL;refine .agg _ _ rfl fun i a b=>?_
 rcases i with _|_|i
 ·exact ae4
 ·exact agp
 grind
theorem zn(alg:Int)(m:aS)(l:List jS)(i:Nat)(h:i<l.length)(h3:alg≠3):eR alg m (l.take (i+1))=eR alg m (l.take i)++(if(l[i].1==m)=true then l[i].2 else []):=by
 unfold eR;rw[if_neg h3,if_neg h3,List.take_succ_eq_append_getElem h,List.filter_append,List.map_append,List.flatten_append]
 grind
theorem zm{m:aS}{l:List jS}(h:∀x∈l,(x.1==m)=false):eR 3 m l= []:=by
 unfold eR;rw[if_pos rfl,List.find?_eq_none.2 fun x hx=>adL]
 rfl
theorem wW{m:aS}{l:List jS}(i:Nat)(h:i<l.length)(h1:(l[i].1==m)=true)(h2:∀j (hj:j<i),((l[j]'adK).1==m)=false):eR 3 m l=l[i].2:=by
 unfold eR;rw[if_pos rfl,show(l.find? fun x=>x.1==m)=some l[i]from List.find?_eq_some_iff_getElem.2 ⟨h1,i,h,rfl,fun j hj=>adL⟩]
 rfl
end Go.Bf
namespace Go.Proofs.YtfdgemhnlennbaaGreatDoor
open Go Go.Ab Go.Bf
theorem Wg:(U 131).sz=3:=adV
theorem Wh:(U 107).sz=2:=adV
theorem rM(l:List cC)(hl:l.length≤1000000)(m:aS)(hpd:m=bf∨m=cF)(h:Heap):ai Tryz.prog 246 [aA l,aN m] h fun r h' =>r=aA (eN l m)∧h' =h:=by
 have h9:M9 m:=by rcases hpd with rfl|rfl<;>decide
 have pe:=(nb h9).pe;have de:=(nb h9).de;have uO:=Wg;obtain⟨b,b1,b2⟩:∃b,(m==bf)=b∧(m==cF)= !b:=by
  rcases hpd with rfl|rfl
  ·exact⟨true,adO,adO⟩
  ·exact⟨false,adO,adO⟩
 refine adJ Tryz.func246 36 [.tmp 4] fun hwf=>?_
 simp only[go_sem,aA,aN,adA];refine .intro (fun q ρ H=>∃(i:Nat) (y:AV),Acc U 131 h H y ((eN (l.take i) m).map bu)∧i≤l.length∧q=l.length - i∧lk ρ 1=some (.v (.complex .f64 (hbit m.1) (hbit m.2)))∧lk ρ 5=some y∧lk ρ 8=some (.sl (l.map bu) .no)∧lk ρ 9=some (.i l.length)∧lk ρ 10=some (.i i)) l.length ?_ ?_
 ·refine⟨0,.sl [] .full,by simpa[eN]using Acc.full (.refl _),adK,rfl,?_,?_,?_,?_,?_⟩<;>simp only[go_sem]
 ·rintro q ρ H ⟨i,y,hy,hi,rfl,r1,r5,r8,r9,r10⟩
  obtain⟨qy,eqy⟩:=hy.row;subst eqy;simp only[go_sem,r9,r10];refine .intro (fun e=>?_) (fun e=>?_)
  ·have hlt:i<l.length:=adH e
   have w1:=adG i adK;have hsn:=Jk l m i hlt;have ix:=fun k=>fo.eq (xs:=l.map bu) (sz:=3) i aeb ad0 k
   rw[adB]at ix;obtain⟨o,eo⟩:∃o,l[i]=o:=⟨_,rfl⟩;rw[eo]at ix hsn;simp only[bu]at ix;simp only[go_sem,r8,r10,ix];intro i7 h7;cases b
   ·cases a3:(o.on==2)
    ·cases a1:(o.on==1)
     ·simp only[go_sem,r10,a1,a3,w1]
      exact aic
     ·simp only[go_sem,r1,r10,a1,a3,b1,pe,w1]
      exact aic
    ·cases a1:(o.on==1)
     ·simp only[go_sem,r1,r5,a1,a3,b2,de]
      exact ah2
     ·simp only[go_sem,r1,r5,a1,a3,b1,b2,pe,de]
      exact ah2
   ·cases a1:(o.on==1)
    ·cases a3:(o.on==2)
     ·simp only[go_sem,r10,a1,a3,w1]
      exact aic
     ·simp only[go_sem,r1,r10,a1,a3,b2,de,w1]
      exact aic
    ·cases a3:(o.on==2)
     ·simp only[go_sem,r1,r5,a1,b1,pe]
      exact ah2
     ·simp only[go_sem,r1,r5,a1,b1,pe]
      exact ah2
  ·have hge:i=l.length:=by have:=adD e;omega
   subst hge;rw[List.take_length]at hy;simp only[go_sem,r5];exact .mk (aA (eN l m)) (by rw[List.take_length];exact .sl _ _) hy.1 ⟨rfl,rfl⟩
theorem tri{t:Nat}(h:t≤2):t=0∨t=1∨t=2:=adK
theorem Jl(r:cR)(hr:r.obls.length≤1000000)(t c:Nat)(ht:t≤2)(hc:c≤2)(h:Heap):ai Tryz.prog 242 [aC r,.i t,.i c] h fun x h' =>x=rsA (nP r t c)∧h' =h:=by
 obtain⟨id,deny,tgt,cond,obls⟩:=r;simp only at hr;have hdp:=fun G=>rM obls hr bf (.inl rfl) G
 have hdd:=fun G=>rM obls hr cF (.inr rfl) G
 have hip:=fun G=>yL bf adO G
 have hid:=fun G=>yL cF adO G
 simp only[aN,bf,cF,hbit,aA]at hdp hdd hip hid;refine adJ Tryz.func242 38 [.cell 6 107] fun hwf=>?_
 simp only[go_sem,aC];intro i3 h3;simp only[go_sem];intro i6 h6;have n63:=aH h6;have n6:=aB h6;have hs:∀x y,Ab.Sub h (upd (upd h i3 x) i6 y):=fun x y=>((Sub.refl h).put h3 x).put n6 y
 have hs2:∀x y z,Ab.Sub h (upd (upd (upd h i3 x) i6 y) i6 z):=fun x y z=>(hs x y).put n6 z
 cases deny
 ·rcases tri ht with rfl|rfl|rfl
  ·exact aiG
  ·exact ai1
  ·rcases tri hc with rfl|rfl|rfl
   ·exact aiG
   ·exact ai1
   ·simp only[go_sem,ak,n63.symm,aA]
    refine(hdp _).pthen ?_;simp only[go_sem];exact .mk (rsA (bf,eN obls bf)) (rq _ bf rfl _) (hs _ _) ⟨rfl,rfl⟩
 ·rcases tri ht with rfl|rfl|rfl
  ·exact aiG
  ·exact ai2
  ·rcases tri hc with rfl|rfl|rfl
   ·exact aiG
   ·exact ai2
   ·simp only[go_sem,ak,n63.symm,aA]
    refine(hdd _).pthen ?_;simp only[go_sem];exact .mk (rsA (cF,eN obls cF)) (rq _ cF rfl _) (hs _ _) ⟨rfl,rfl⟩
theorem ME(gs:List bp)(t:gj):nj gs t≤2:=(tP (Af gs) t 2).1
theorem LJ(gs:List bp)(l:List aQ):qJ gs l≤2:=by
 grind [qJ]
theorem Jm(r:cR)(hr:ER r)(gs:List bp)(hf:rY gs)(h:Heap):ai Tryz.prog 207 [aC r,bL gs] h fun x h' =>x=rsA (iC gs r)∧h' =h:=by
 have hob:=(kM hr.2.2.2).1;have hmt:=fun G=>MF r.tgt (CN hr.2.1) gs hf G
 have hcd:=fun G=>OA r.cond hr.2.2.1 gs hf G
 have hef:=fun G=>Jl r adK (nj gs r.tgt) (qJ gs r.cond) (ME _ _) (LJ _ _) G
 simp only[aC,bL]at hmt hcd hef;refine adJ Tryz.func207 15 [.cell 4 107] fun hwf=>?_
 simp only[go_sem,aC,bL];intro i2 h2;simp only[go_sem];intro i4 h4;have n42:=aH h4;have n4:=aB h4;obtain⟨H,eH⟩:∃H,upd (upd h i2 (some (.obj [.s r.id,.b r.deny,aV r.tgt,fy r.cond,aA r.obls] 210))) i4 (some (.obj [.v (.complex .f64 0 0),.sl [] .full] 107))=H:=⟨_,rfl⟩;have hH:Ab.Sub h H:=by rw[←eH];exact((Sub.refl h).put h2 _).put n4 _
 have g2:H i2=some (.obj [.s r.id,.b r.deny,aV r.tgt,fy r.cond,aA r.obls] 210):=ahs;have g4:H i4=some (.obj [.v (.complex .f64 0 0),.sl [] .full] 107):=afc;simp only[go_sem];rw[eH];clear eH;refine .calls (hm1 i2 (.obj [.s r.id,.b r.deny,aV r.tgt,fy r.cond,aA r.obls] 210)) [0,1,2,3,5,6,7,4,8,9,10] (.hm1 g2) adN rfl ?_;simp only[go_sem,gp];refine(hmt _).pthen ?_;refine⟨.hm1 g2,?_⟩;simp only[go_sem];refine(hcd _).pthen ?_;refine⟨.hm1 g2,?_⟩;simp only[go_sem];refine(hef _).pthen ?_;refine⟨.hm1 g2,?_⟩;simp only[go_sem,rsA,aA,aN,g4];refine⟨.hm1 (by rw[ag _ _ n42.symm];exact g2),?_⟩
 exact .mk _ (.refl _) (hH.put n4 _) ⟨rfl,rfl⟩
theorem BG(l:List jS):Sized 2 (l.map rsA):=bx (f:=rsA) (fun _=>rfl) l
theorem Gk{id:Txt}{set:Bool}{alg:Int}(ha:1≤alg∧alg≤6){tgt:gj}{rules:List cR}{kids:List bJ}{obls:List cC}(ho:obls.length≤1000000)(t:Nat)(ht:t=1∨t=2)(parts:List jS)(hp:∀x∈parts,M6 x.1)(hn:parts.length≤32){B:Nat}(hB:B≤10000000)(hpb:∀x∈parts,x.2.length≤B)(q:Perm)(h:Heap):
  ai Tryz.prog 208 [aM (.mk id set alg tgt rules kids obls),.i t,.sl (parts.map rsA) q] h fun r h' =>r=rsA (qi alg obls t parts)∧h' =h:=by
 have hm6:∀m∈parts.map (·.1),M6 m:=fun m hm=>by
  obtain⟨x,hx,rfl⟩:=List.mem_map.1 hm;exact hp x hx
 have hc6:M6 (ia alg (parts.map (·.1))):=HB hm6
 have uR:=Wh;have uO:=Wg;have uM:=We;have hall:=fun(p:Perm) (G:Heap)=>RF alg ha (parts.map (·.1)) (by rw[adA];omega) hm6 p G
 simp only[jZ]at hall;refine adJ Tryz.func208 84 [.cell 6 107] fun hwf=>?_
 simp only[go_sem,aM];intro i3 h3;simp only[go_sem];intro i6 h6;have n63:=aH h6;have n6' :=aB h6;obtain⟨H0,eH⟩:∃H0,upd (upd h i3 (some (.obj [.s id,.b set,.i alg,aV tgt,.sl (rules.map aC) .no,.sl (fH kids) .no,aA obls] 61))) i6 (some (.obj [.v (.complex .f64 0 0),.sl [] .full] 107))=H0:=⟨_,rfl⟩;have hH0:Ab.Sub h H0:=agJ;have g3:H0 i3=some (.obj [.s id,.b set,.i alg,aV tgt,.sl (rules.map aC) .no,.sl (fH kids) .no,aA obls] 61):=by rw[←eH,ag _ _ n63.symm,ah]
 have g6:H0 i6=some (.obj [.v (.complex .f64 0 0),.sl [] .full] 107):=afc;simp only[go_sem,adA];rw[eH];clear eH;refine .intro (fun m ρ H=>∃(i:Nat) (y:AV),Acc U 31 H0 H y (((parts.map (·.1)).take i).map aN)∧i≤parts.length∧m=parts.length - i∧lk ρ 1=some (.i t)∧lk ρ 2=some (.sl (parts.map rsA) q)∧lk ρ 3=some (.ptr i3 0)∧lk ρ 6=some (.ptr i6 0)∧lk ρ 7=some y∧lk ρ 15=some (.sl (parts.map rsA) q)∧lk ρ 16=some (.i parts.length)∧lk ρ 17=some (.i i)) parts.length ?_ ?_
 ·refine⟨0,.sl [] .full,.full (.refl _),adK,rfl,?_,?_,?_,?_,?_,?_,?_,?_⟩<;>simp only[go_sem]
 ·rintro m ρ H ⟨i,y,hy,hi,rfl,r1,r2,r3,r6,r7,r15,r16,r17⟩
  obtain⟨qy,eqy⟩:=hy.row;subst eqy;simp only[go_sem,r16,r17];refine .intro (fun e=>?_) (fun e=>?_)
  ·have hlt:i<parts.length:=adH e
   have w1:=adG i adK;have hsn:((parts.map (·.1)).take (i+1)).map aN=((parts.map (·.1)).take i).map aN++ [aN parts[i].1]:=by
    rw[List.take_succ_eq_append_getElem aeb,List.map_append,adB];rfl
   have ix:=fun k=>fo.eq (xs:=parts.map rsA) (sz:=2) i aeb ad0 k
   rw[adB]at ix;obtain⟨x,ex⟩:∃x,parts[i]=x:=⟨_,rfl⟩;rw[ex]at ix hsn;simp only[rsA,aN,aA]at ix;simp only[go_sem,r15,r17,ix];intro i9 h9;simp only[go_sem,r7];refine(hy.sub (.aj h9)).app (zs:=[aN x.1]) (by rw[uM];decide) adP (fun k hk=>hk) (by rw[uM];exact bx (f:=aN) (fun _=>rfl) _) (by rw[uM];intro z hz;rw[List.mem_singleton.1 hz];rfl) ad2 fun y' H' hy' kp=>?_
   simp only[go_sem,r17,w1];refine⟨_,?_,i+1,y',by rw[hsn];exact hy',adK,rfl,?_,?_,?_,?_,?_,?_,?_,?_⟩
   ·omega
   all_goals simp only[go_sem,r1,r2,r3,r6,r15,r16]
  ·have hge:i=parts.length:=by have:=adD e;omega
   subst hge;have htl:(parts.map (·.1)).take parts.length=parts.map (·.1):=List.take_of_length_le adR
   rw[htl]at hy;have k3:=hy.1 _ _ g3;have k6:=hy.1 _ _ g6;have hsH:=hH0.trans hy.1;have hjp:qi alg obls t parts=if t=0 then(naM,[])else if t=1 then(gR (ia alg (parts.map (·.1))),[])else if ia alg (parts.map (·.1))≠bf∧ia alg (parts.map (·.1))≠cF then(ia alg (parts.map (·.1)),[])
     else(ia alg (parts.map (·.1)),eR alg (ia alg (parts.map (·.1))) parts++eN obls (ia alg (parts.map (·.1)))):=rfl
   have hple:(eR alg (ia alg (parts.map (·.1))) parts).length≤32*B+B:=uo hpb hn
   have hal:=fun G=>hall qy G
   obtain⟨m,em⟩:∃m,ia alg (parts.map (·.1))=m:=⟨_,rfl⟩
   rw[em]at hc6 hjp hal hple;have hin:=fun G=>yL m hc6.m9 G
   have npe:=(nb hc6.m9).npe;have nde:=(nb hc6.m9).nde;simp only[aN]at hal hin;rw[htl]at r7;simp only[go_sem,r3,r7,k3];refine(hal _).pthen ?_;rcases ht with rfl|rfl
   ·simp only[go_sem,r1]
    refine(hin _).pthen ?_;simp only[go_sem,r6,k6];exact .mk (rsA (gR m,[])) (rq [] (gR m) rfl _) (hsH.put n6' _) ⟨by rw[hjp];rfl,rfl⟩
   have k6H:=k6;cases dp:(m==bf)
   case true=>
    have e1:m=bf:=by simpa using dp
    have hne:¬(m≠bf∧m≠cF):=fun hh=>hh.1 e1
    have hdu:=fun G=>rM obls ho m (.inl e1) G
    simp only[aA,aN]at hdu;simp only[go_sem,r1,npe,dp];exact ahT
   case false=>
    cases dd:(m==cF)
    case true=>
     have e1:m=cF:=by simpa using dd
     have hne:¬(m≠bf∧m≠cF):=fun hh=>hh.2 e1
     have hdu:=fun G=>rM obls ho m (.inr e1) G
     simp only[aA,aN]at hdu;simp only[go_sem,r1,npe,nde,dp,dd];exact ahT
    case false=>
     have e1:m≠bf:=by simpa using dp
     have e2:m≠cF:=by simpa using dd
     simp only[go_sem,r1,r6,npe,nde,dp,dd,k6];exact .mk (rsA (m,[])) (rq [] m rfl _) (hsH.put n6' _) ⟨by rw[hjp,if_neg adO,if_neg adO,if_pos ⟨e1,e2⟩],rfl⟩
theorem AZ:∀(n d:Nat),d+n=5→∀(p:bJ),nq d p→∀(gs:List bp),rY gs→∀(h:Heap),ai Tryz.prog 163 [aM p,bL gs] h fun r h' =>r=rsA (fG gs p)∧h' =h
 |0,d,hd,.mk id set alg tgt rules kids obls,hE,gs,hf,h=>by
  simp only[nq]at hE;omega
 |n+1,d,hd,.mk id set alg tgt rules kids obls,hE,gs,hf,h=>by
  have ih:=AZ n (d+1) adK;simp only[nq,qT]at hE;obtain⟨_,_,ha1,ha2,_,_,hT,hO,hR,hK,hRE,hKE⟩:=hE;have hob:=(kM hO).1;have hmt:=fun G=>MF tgt (CN hT) gs hf G
  have hev:fG gs (.mk id set alg tgt rules kids obls)=if nj gs tgt=0 then(naM,[])else qi alg obls (nj gs tgt) (rules.map (iC gs)++kids.map (fG gs)):=by simp only[fG,tN]
  have hjo:=fun(ht:nj gs tgt=1∨nj gs tgt=2) (q:Perm) (G:Heap)=>Gk (id:=id) (set:=set) (alg:=alg) ⟨ha1,ha2⟩ (tgt:=tgt) (rules:=rules) (kids:=kids) (obls:=obls) adK (nj gs tgt) ht (rules.map (iC gs)++kids.map (fG gs)) (fun x hx=>by
   rcases List.mem_append.1 hx with hx|hx
   ·obtain⟨r,_,rfl⟩:=List.mem_map.1 hx;exact A4 _ _ _
   ·obtain⟨r,_,rfl⟩:=List.mem_map.1 hx;exact Cl gs r) aep (B:=10000000) (Nat.le_refl _) (fun x hx=>by
   rcases List.mem_append.1 hx with hx|hx
   ·obtain⟨r,hr,rfl⟩:=List.mem_map.1 hx
    have h1:=A3 r (nj gs r.tgt) (qJ gs r.cond);have h2:=(kM (hRE r hr).2.2.2).1
    show(nP r (nj gs r.tgt) (qJ gs r.cond)).2.length≤_
    omega
   ·obtain⟨r,hr,rfl⟩:=List.mem_map.1 hx
    have h1:=Ck gs n (d+1) r adK (hKE r hr);have h2:oB n≤oB 4:=by
     have:n≤4:=adK;rcases(show n=0∨n=1∨n=2∨n=3∨n=4 by omega)with rfl|rfl|rfl|rfl|rfl<;>decide
    exact Nat.le_trans h1 (Nat.le_trans h2 adO)) q G
  have hrl:=fun(r:cR) (hr:ER r) (G:Heap)=>Jm r hr gs hf G
  have hml:=ME gs tgt;obtain⟨t,et⟩:∃t,nj gs tgt=t:=⟨_,rfl⟩;rw[et]at hmt hjo hev hml;simp only[aM,bL,aY,aV,aA]at hmt hjo hrl;have uR:=Wh;refine adJ Tryz.func163 50 [.cell 4 107] fun hwf=>?_
  simp only[go_sem,aM,bL,aY,aV,aA];intro i2 h2;simp only[go_sem];intro i4 h4;have n42:=aH h4;have n4' :=aB h4;obtain⟨H0,eH⟩:∃H0,upd (upd h i2 (some (.obj [.s id,.b set,.i alg,.sl (tgt.map cU) .no,.sl (rules.map aC) .no,.sl (kids.map aM) .no,.sl (obls.map bu) .no] 61))) i4 (some (.obj [.v (.complex .f64 0 0),.sl [] .full] 107))=H0:=⟨_,rfl⟩;have hH0:Ab.Sub h H0:=agI;have g2:H0 i2=some (.obj [.s id,.b set,.i alg,.sl (tgt.map cU) .no,.sl (rules.map aC) .no,.sl (kids.map aM) .no,.sl (obls.map bu) .no] 61):=ahs;have g4:H0 i4=some (.obj [.v (.complex .f64 0 0),.sl [] .full] 107):=afc;simp only[go_sem,ak,n42.symm];rw[eH];clear eH;refine(hmt _).pthen ?_;cases dt:((t:Int)==0)
  case true=>
   have e0:t=0:=by have:(t:Int)=0:=(by simpa using dt);omega
   simp only[go_sem,dt,g4];exact .mk (rsA (naM,[])) (rq [] naM rfl _) (hH0.put n4' _) ⟨by rw[hev,if_pos e0],rfl⟩
  have ht0:t≠0:=by rintro rfl;simp at dt
  have ht12:t=1∨t=2:=adK;rw[if_neg ht0]at hev;simp only[go_sem,dt,g2,adA];refine .intro (fun m ρ H=>∃(i:Nat) (y:AV),Acc U 107 H0 H y (((rules.map (iC gs)).take i).map rsA)∧i≤rules.length∧m=rules.length - i∧lk ρ 1=some (.sl (gs.map lB) .no)∧lk ρ 2=some (.ptr i2 0)∧lk ρ 4=some (.ptr i4 0)∧lk ρ 5=some (.i t)∧lk ρ 6=some y∧lk ρ 19=some (.sl (rules.map aC) .no)∧lk ρ 20=some (.i rules.length)∧lk ρ 21=some (.i i)) rules.length ?_ ?_
  ·refine⟨0,.sl [] .full,.full (.refl _),adK,rfl,?_,?_,?_,?_,?_,?_,?_,?_⟩<;>simp only[go_sem]
  ·rintro m ρ H ⟨i,y,hy,hi,rfl,r1,r2,r4,r5,r6,r19,r20,r21⟩
   obtain⟨qy,eqy⟩:=hy.row;subst eqy;simp only[go_sem,r20,r21];refine .intro (fun e=>?_) (fun e=>?_)
   ·have hlt:i<rules.length:=adH e
    have w1:=adG i adK;have hsn:((rules.map (iC gs)).take (i+1)).map rsA=((rules.map (iC gs)).take i).map rsA++ [rsA (iC gs rules[i])]:=by
     rw[List.take_succ_eq_append_getElem aeb,List.map_append,adB];rfl
    have ix:=fun k=>fo.eq (xs:=rules.map aC) (sz:=5) i aeb ad0 k
    rw[adB]at ix;have hre:=hRE _ (adF hlt);obtain⟨x,ex⟩:∃x,rules[i]=x:=⟨_,rfl⟩;rw[ex]at ix hsn hre;have hr1:=hrl x hre;simp only[aC,aV,aA]at ix hr1;simp only[go_sem,r19,r21,ix];intro i8 h8;simp only[go_sem,r1,r6];refine(hr1 _).pthen ?_;simp only[go_sem,rsA,aN,aA];refine(hy.sub (.aj h8)).app (zs:=[rsA (iC gs x)]) (by rw[uR];decide) adP (fun k hk=>hk) (by rw[uR];exact BG _) agi ad2 fun y' H' hy' kp=>?_
    simp only[go_sem,r21,w1];refine⟨_,?_,i+1,y',by rw[hsn];exact hy',adK,rfl,?_,?_,?_,?_,?_,?_,?_,?_⟩
    ·omega
    all_goals simp only[go_sem,r1,r2,r4,r5,r19,r20]
   ·have hge:i=rules.length:=by have:=adD e;omega
    subst hge;have htl:(rules.map (iC gs)).take rules.length=rules.map (iC gs):=List.take_of_length_le adR;rw[htl]at hy r6;have k2:=hy.1 _ _ g2;simp only[go_sem,r2,k2,adA];refine .intro (fun m ρ H=>∃(i:Nat) (y:AV),Acc U 107 H0 H y ((rules.map (iC gs)++(kids.map (fG gs)).take i).map rsA)∧i≤kids.length∧m=kids.length - i∧lk ρ 1=some (.sl (gs.map lB) .no)∧lk ρ 2=some (.ptr i2 0)∧lk ρ 4=some (.ptr i4 0)∧lk ρ 5=some (.i t)∧lk ρ 6=some y∧lk ρ 33=some (.sl (kids.map aM) .no)∧lk ρ 34=some (.i kids.length)∧lk ρ 35=some (.i i)) kids.length ?_ ?_
    ·refine⟨0,_,by rw[List.take_zero,List.append_nil];exact hy,adK,rfl,?_,?_,?_,?_,?_,?_,?_,?_⟩<;>simp only[go_sem,r1,r2,r4,r5,r6]
    ·rintro m ρ2 H2 ⟨i,y,hy,hi,rfl,s1,s2,s4,s5,s6,s33,s34,s35⟩
     obtain⟨qy,eqy⟩:=hy.row;subst eqy;simp only[go_sem,s34,s35];refine .intro (fun e=>?_) (fun e=>?_)
     ·have hlt:i<kids.length:=adH e
      have w1:=adG i adK;have hsn:(rules.map (iC gs)++(kids.map (fG gs)).take (i+1)).map rsA=(rules.map (iC gs)++(kids.map (fG gs)).take i).map rsA++ [rsA (fG gs kids[i])]:=by
       rw[List.take_succ_eq_append_getElem aeb,←List.append_assoc,List.map_append,adB];rfl
      have ix:=fun k=>fo.eq (xs:=kids.map aM) (sz:=7) i aeb (by rw[adB,jD]) k
      rw[adB]at ix;have hke:=hKE _ (adF hlt);obtain⟨x,ex⟩:∃x,kids[i]=x:=⟨_,rfl⟩;rw[ex]at ix hsn hke;have hr1:=ih x hke gs hf;obtain⟨kid,kset,kalg,ktgt,krules,kkids,kobls⟩:=x;simp only[aM,aV,aA,bL,aY]at ix hr1;simp only[go_sem,s33,s35,ix];intro i10 h10;simp only[go_sem,s1,s6];refine(hr1 _).pthen ?_;simp only[go_sem,rsA,aN,aA];refine(hy.sub (.aj h10)).app (zs:=[rsA (fG gs (.mk kid kset kalg ktgt krules kkids kobls))]) (by rw[uR];decide) adP (fun k hk=>hk) (by rw[uR];exact BG _) agi (by simp only[go_sem,adA,List.length_take,List.length_cons,List.length_nil,adE];omega) fun y' H' hy' kp=>?_
      simp only[go_sem,s35,w1];refine⟨_,?_,i+1,y',by rw[hsn];exact hy',adK,rfl,?_,?_,?_,?_,?_,?_,?_,?_⟩
      ·omega
      all_goals simp only[go_sem,s1,s2,s4,s5,s33,s34]
     ·have hge:i=kids.length:=by have:=adD e;omega
      subst hge;have htl:(kids.map (fG gs)).take kids.length=kids.map (fG gs):=List.take_of_length_le adR;rw[htl]at hy s6;have k2:=hy.1 _ _ g2;have k4:=hy.1 _ _ g4;have hj:=fun G=>hjo ht12 qy G
      rw[←hev]at hj;obtain⟨z,ez⟩:∃z,fG gs (.mk id set alg tgt rules kids obls)=z:=⟨_,rfl⟩;rw[ez]at hj;simp only[go_sem,s2,s5,s6,k2];refine(hj _).pthen ?_;simp only[go_sem,s4,rsA,aN,aA,k4];exact .mk (rsA z) (.refl _) ((hH0.trans hy.1).put n4' _) ⟨by rw[ez];rfl,rfl⟩
theorem Dv(p:bJ)(hp:gC p=0)(gs:List bp)(hf:rY gs)(h:Heap):ai Tryz.prog 104 [aM p,bL gs] h fun r h' =>r= .tup [rsA (fG gs p),.i 0]∧h' =h:=by
 have hd:=fun G=>AZ 4 1 rfl p (ru hp) gs hf G
 have hr:=fun G=>uB p G
 rw[hp]at hr;obtain⟨id,set,alg,tgt,rules,kids,obls⟩:=p;refine adJ Tryz.func104 13 [.cell 4 107,.tmp 5] fun hwf=>?_
 simp only[go_sem,aM,bL,aV,aA];intro i2 h2;simp only[go_sem];intro i4 h4;have n42:=aH h4;have n4:=aB h4;have hs:∀x y,Ab.Sub h (upd (upd h i2 x) i4 y):=fun x y=>((Sub.refl h).put h2 x).put n4 y
 simp only[go_sem,ak,n42.symm];refine(hr _).pthen ?_;simp only[go_sem,ak,n42.symm];refine(hd _).pthen ?_;simp only[go_sem,rsA,aN,aA];exact afl
end Go.Proofs.YtfdgemhnlennbaaGreatDoor
namespace Go.Bf
open Go Go.Ab Go.Proofs.YtfdgemhnlennbaaGreatDoor
structure ig where
 err:Int
 mark:aS
 glass:Bool
 val:bt
 hidden:Bool
 at_:Int
structure qv where
 op:OpD
 version:Int
 mark:aS
 glass:Bool
 obls:List cC
def Ql:OpD:=⟨0,[],[],[],[],an,0,[],[],false⟩
def xP:qv:=⟨Ql,0,naM,false,[]⟩
def Cq:Txt:=[103,108,97,115,115]
def qZ(s:aq)(r:qw):Bool:=r.isOpen && decide (100≤s.tick - r.tick)
def Mr(s:aq)(subj:Txt):Bool:=s.reviews.any fun r=>r.subj==subj && qZ s r
def tE(s:aq)(o:OpD)(m:aS):Bool:=o.glass && (m==cF||m==naM) && yG s.roles ⟨o.subj,Cq⟩ && !Mr s o.subj
def BH(s:aq)(o:OpD)(reason:Txt):qw:=⟨(s.reviews.length:Int)+1,s.tick,o.subj,o.case,cy o.kind,reason,true⟩
def cc(s:aq)(o:OpD)(reason:Txt):aq:={s with reviews:=s.reviews++ [BH s o reason]}
def jX(l:List cC)(field:Txt):Bool:=l.any fun x=>x.kind==2 && x.arg==field
def iR(cs:List aL)(id:Txt):Nat:=cs.findIdx fun c=>c.id==id
def iX(s:aq)(o:OpD)(what:Txt):aq:=
 if iR s.cases o.case<s.cases.length∧o.kind≠6 then {s with cases:=s.cases.modify (iR s.cases o.case) fun c=>jA s c o.subj what} else s
def fF(o:OpD)(done:Bool)(s:aq)(x:cC):aq:=
 if x.kind=1∧done=true then iX s o x.arg
 else if x.kind=3 then cc s o x.arg
 else if x.kind=4 then {s with notices:=s.notices++ [⟨s.tick,o.case,x.arg⟩]}
 else s
def dG(s:aq)(o:OpD)(l:List cC)(done:Bool):aq:=l.foldl (fF o done) s
def sr(s:aq):Bool:=decide (256<s.reviews.length)||decide (256<s.notices.length)||s.cases.any fun c=>decide (256<c.log.length)
def gS(s:aq)(o:OpD):jS:=fG (fI s o) s.policy
def kj(s:aq)(o:OpD):Int×Int:=if bN s o=0∧o.kind=7 then((aR o.text).2.1,(aR o.text).2.2)else(bN s o,0)
def fJ(s:aq)(o:OpD):Bool:=tE s o (gS s o).1
def tH(s:aq)(o:OpD):Bool:=decide ((gS s o).1=bf)||fJ s o
def cY(s:aq)(o:OpD):aq:=
 let s1:=if fJ s o then cc s o o.reason else s
 dG (if tH s o then dR aR s1 o else s1) o (gS s o).2 (tH s o)
def pW(s:aq)(o:OpD):ig:=
 ⟨if tH s o then 0 else 12,(gS s o).1,fJ s o,if tH s o && o.kind==2 && !jX (gS s o).2 o.field then eO (bz s.cases o.case).fields o.field else an,tH s o && o.kind==2 && jX (gS s o).2 o.field,0⟩
def aT(s:aq)(o:OpD):aq×ig×qv×Int:=
 if(kj s o).1≠0 then(s,⟨(kj s o).1,naM,false,an,false,(kj s o).2⟩,xP,(kj s o).1)
 else if sr (cY s o)then(s,⟨6,naM,false,an,false,0⟩,xP,6)
 else(cY s o,pW s o,⟨o,s.version,(gS s o).1,fJ s o,(gS s o).2⟩,0)
theorem yX(s:aq)(o:OpD)(w:Txt):(iX s o w).tick=s.tick∧(iX s o w).roles=s.roles∧(iX s o w).policy=s.policy∧(iX s o w).version=s.version∧(iX s o w).reviews=s.reviews∧(iX s o w).notices=s.notices:=by
 grind [iX]
theorem Dp(o:OpD)(done:Bool)(s:aq)(x:cC):(fF o done s x).tick=s.tick∧(fF o done s x).roles=s.roles∧(fF o done s x).policy=s.policy∧(fF o done s x).version=s.version:=by
 unfold fF;split
 ·grind [yX]
 ·split
  ·exact⟨rfl,rfl,rfl,rfl⟩
  grind
theorem FP(o:OpD)(done:Bool):∀(l:List cC) (s:aq),(dG s o l done).tick=s.tick∧(dG s o l done).roles=s.roles∧(dG s o l done).policy=s.policy∧(dG s o l done).version=s.version
 | [],s=>⟨rfl,rfl,rfl,rfl⟩
 |x::l,s=>by
  obtain⟨a1,a2,a3,a4⟩:=Dp o done s x;obtain⟨b1,b2,b3,b4⟩:=FP o done l (fF o done s x);exact⟨b1.trans a1,b2.trans a2,b3.trans a3,b4.trans a4⟩
def gO(o:OpD)(a b:List qw):Prop:=∃c,b=a++c∧∀i (h:i<c.length),c[i].id=((a.length+i+1:Nat):Int)∧c[i].isOpen=true∧c[i].subj=o.subj
theorem gO.refl(o:OpD)(a:List qw):gO o a a:=⟨[],adR,fun i h=>aeC⟩
theorem gO.trans{o:OpD}{a b c:List qw}(h1:gO o a b)(h2:gO o b c):gO o a c:=by
 obtain⟨x,rfl,hx⟩:=h1;obtain⟨y,rfl,hy⟩:=h2;refine⟨x++y,adR,fun i h=>?_⟩
 grind
theorem gO.open(s:aq)(o:OpD)(w:Txt):gO o s.reviews (cc s o w).reviews:=⟨[BH s o w],rfl,fun i h=>by
 have:i=0:=adL;subst this;exact⟨adV,rfl,rfl⟩⟩
theorem gO.duties(o:OpD)(done:Bool):∀(l:List cC) (s:aq),gO o s.reviews (dG s o l done).reviews
 | [],s=> .refl o _
 |x::l,s=>by
  have:gO o s.reviews (fF o done s x).reviews:=by
   unfold fF;split
   ·grind [yX,refl]
   ·split
    ·exact .open s o _
    grind [refl]
  exact this.trans (gO.duties o done l _)
structure Hq (c:aL):Prop where
 id:aX c.id=true
 owner:aX c.owner=true
 state:c.state∈pZ
 asc:Fq c.fields
 nfields:c.fields.length≤16
 field:∀f∈c.fields,aX f.name=true∧br f.val=true∧eqV f.val an=false
 log1:1≤c.log.length
 actor:∀x∈c.log,aX x.actor=true∧i64 x.tick
theorem uT.w{c:aL}(h:uT c):Hq c:=⟨h.id,h.owner,h.state,h.asc,h.nfields,h.field,h.log1,h.actor⟩
theorem Hq.ok{c:aL}(h:Hq c)(hl:c.log.length≤256):uT c:=⟨h.id,h.owner,h.state,h.asc,h.nfields,h.field,h.log1,hl,h.actor⟩
structure lU (k:Nat) (s:aq):Prop where
 tick:0≤s.tick∧s.tick≤1099511627776
 asc:Asc s.cases
 ncases:s.cases.length≤64
 case:∀c∈s.cases,Hq c
 roles:s.roles.length≤64
 role:∀r∈s.roles,aX r.subj=true∧aX r.role=true
 pol:gC s.policy=0
 ver:0≤s.version∧s.version≤k
theorem dD.w{k:Nat}{s:aq}(h:dD k s):lU k s:=⟨h.tick,h.asc,h.ncases,fun c hc=>(h.case c hc).w,h.roles,h.role,h.pol,h.ver⟩
theorem lU.ok{k:Nat}{s:aq}(h:lU k s)(ho:sr s=false):dD k s:=by
 unfold sr at ho;simp only[Bool.or_eq_false_iff,decide_eq_false_iff_not]at ho;refine⟨h.tick,h.asc,h.ncases,fun c hc=>(h.case c hc).ok ?_,adK,adK,h.roles,h.role,h.pol,h.ver⟩
 grind
theorem He{k:Nat}{s:aq}(o:OpD)(w:Txt)(h:lU k s):lU k (cc s o w):={h with}
theorem G8{k:Nat}{s:aq}{o:OpD}(hn:aX o.subj=true)(w:Txt)(h:lU k s):lU k (iX s o w):=by
 unfold iX;split
 ·refine {h with asc:=Cc (kL fun x=>rfl) h.asc,ncases:=by simpa using h.ncases,case:= ?_}
  intro d hd;rcases mem_modify hd with hd|⟨hi,rfl⟩
  ·exact h.case d hd
  ·have hc:=h.case _ (adF hi)
   refine⟨hc.id,hc.owner,hc.state,hc.asc,hc.nfields,hc.field,ahS,?_⟩;intro x hx;simp only[jA,List.mem_append,List.mem_singleton]at hx;rcases hx with hx|rfl
   ·exact hc.actor x hx
   ·exact⟨hn,by have:=h.tick;constructor<;>simp only<;>omega⟩
 omega
theorem G0{k:Nat}{o:OpD}(hn:aX o.subj=true)(done:Bool){s:aq}(x:cC)(h:lU k s):lU k (fF o done s x):=by
 unfold fF;split
 ·grind [G8]
 ·split
  ·grind [He]
  ·split
   ·exact {h with}
   omega
theorem uC{k:Nat}{o:OpD}(hn:aX o.subj=true)(done:Bool):∀(l:List cC) {s:aq},lU k s→lU k (dG s o l done)
 | [],s,h=>h
 |x::l,s,h=>uC hn done l (G0 hn done x h)
theorem CF{k:Nat}{s:aq}(o:OpD)(w:Txt)(h:dD k s)(hr:s.reviews.length≤999):dD k (cc s o w):={h with nrev:=by grind [cc]}
structure kR (k:Nat) (s:aq):Prop extends dD k s where
 ids:∀i (h:i<s.reviews.length),s.reviews[i].id=((i+1:Nat):Int)
 nr:s.reviews.length≤256
 nn:s.notices.length≤256
theorem JL:kR 0 zf:={KG with ids:=fun i h=>aeC,nr:=adO,nn:=adO}
theorem uv{s:aq}{o:OpD}(h:(kj s o).1=0):bN s o=0∧cB o=true∧(o.kind=7→(aR o.text).2.1=0):=by
 unfold kj at h;have hr:bN s o=0:=by
  grind
 have hf:cB o=true:=by
  unfold bN at hr
  grind
 exact⟨hr,hf,fun hk=>adL⟩
theorem Lu{k:Nat}{s:aq}{o:OpD}(h:kR k s)(hp:(kj s o).1=0):lU (k+1) (cY s o):=by
 have hn:=(mX (uv hp).2.1).subj;have h1:dD k (if fJ s o then cc s o o.reason else s):=by
  split
  ·exact CF o _ h.todD (by have:=h.nr;omega)
  ·exact h.todD
 refine uC hn _ _ ?_;split
 ·exact(qb o h1).w
 ·have:=h1.w
  exact {this with ver:=⟨this.ver.1,by have:=this.ver.2;omega⟩}
def shut(r:qw):qw:={r with isOpen:=false}
theorem u7(par:Txt→bJ×Int×Int)(s:aq)(o:OpD):(dR par s o).reviews=if bN s o=0∧o.kind=5 then s.reviews.modify (o.review - 1).toNat shut else s.reviews:=by
 unfold dR
 by_cases hr:bN s o=0
 ·rw[if_pos hr]
  unfold doD
  by_cases k1:o.kind=1
  ·grind
  ·by_cases k3:o.kind=3
   ·grind
   ·by_cases k4:o.kind=4
    ·grind
    ·by_cases k5:o.kind=5
     ·simp[k5,hr];rfl
     grind
 grind
theorem yD{o:OpD}(h:cB o=true)(hg:o.glass=true):1≤o.kind∧o.kind≤4:=by
 simp_all [cB,Bool.and_eq_true,kY,if_true,vw,decide_eq_true_eq]
theorem DH{s:aq}{o:OpD}(h:fJ s o=true):o.glass=true:=by
 simp_all [fJ,tE,Bool.and_eq_true]
structure Fv (s:aq) (o:OpD) (t:aq) (r:ig) (e:Int):Prop where
 len:s.reviews.length≤t.reviews.length
 old:∀i (h:i<s.reviews.length) (h' :i<t.reviews.length),(e=0∧r.err=0∧o.kind=5∧o.review=((i+1:Nat):Int)→o.subj≠s.reviews[i].subj∧s.reviews[i].isOpen=true∧t.reviews[i].isOpen=false∧t.reviews[i].id=s.reviews[i].id)∧
  (¬(e=0∧r.err=0∧o.kind=5∧o.review=((i+1:Nat):Int))→t.reviews[i]=s.reviews[i])
 new:∀i (h:i<t.reviews.length),s.reviews.length≤i→t.reviews[i].id=((i+1:Nat):Int)∧t.reviews[i].isOpen=true∧t.reviews[i].subj=o.subj
 glass:r.glass=true→∃h:s.reviews.length<t.reviews.length,t.reviews[s.reviews.length].reason=o.reason
theorem Fv.same(s:aq)(o:OpD)(e:Int)(r:ig)(he:e≠0)(hg:r.glass=false):Fv s o s r e:=
 ⟨Nat.le_refl _,fun i h h' =>⟨fun hc=>(he hc.1).elim,fun _=>rfl⟩,fun i h h' =>adK,fun h=>adL⟩
theorem Io{o:OpD}{a b:List qw}(h:gO o a b):a.length≤b.length∧(∀i (h1:i<a.length) (h2:i<b.length),b[i]=a[i])∧∀i (h1:i<b.length),a.length≤i→b[i].id=((i+1:Nat):Int)∧b[i].isOpen=true∧b[i].subj=o.subj:=by
 obtain⟨c,rfl,hc⟩:=h;refine⟨adR,fun i h1 h2=>adL,fun i h1 h2=>?_⟩
 grind
theorem Df{s:aq}{o:OpD}(hr:bN s o=0)(hf:cB o=true)(hk:o.kind=5):1≤o.review∧∃h:(o.review - 1).toNat<s.reviews.length,s.reviews[(o.review - 1).toNat].isOpen=true∧s.reviews[(o.review - 1).toNat].subj≠o.subj:=by
 have F:=mX hf;have hok:=F.ok;unfold okD at hok;simp only[hk,show¬(5:Int)=1 by decide,show¬((5:Int)=2∨(5:Int)=6) by decide,show¬(5:Int)=3 by decide,show¬(5:Int)=4 by decide,if_false,if_true,decide_eq_true_eq]at hok
 unfold bN at hr;simp only[hk,Bool.true_eq_false,show¬(5:Int)=1 by decide,show¬(2≤(5:Int)∧(5:Int)≤4) by decide,if_false,if_true]at hr
 unfold fS wX at hr;rw[if_pos (by omega:1≤o.review)]at hr
 refine⟨adK,?_⟩;cases hx:s.reviews[(o.review - 1).toNat]? with
 |none=>simp_all
 |some r=>
  rw[hx]at hr;obtain⟨h,rfl⟩:=List.getElem?_eq_some_iff.1 hx;refine⟨h,?_,?_⟩
  ·grind
  ·intro e
   simp only[e,if_true]at hr;omega
theorem GL{k:Nat}{s:aq}{o:OpD}(h:kR k s):Fv s o (aT s o).1 (aT s o).2.1 (aT s o).2.2.2:=by
 unfold aT
 by_cases hp:(kj s o).1=0
 ·rw[if_neg adK]
  by_cases ho:sr (cY s o)=true
  ·rw[if_pos ho];exact .same _ _ _ _ adR rfl
  ·rw[if_neg ho]
   obtain⟨hr,hf,_⟩:=uv hp;simp only
   by_cases hk:o.kind=5
   ·have hg:fJ s o=false:=by
     cases hg:fJ s o with
     |false=>rfl
     |true=>have:=yD hf (DH hg);omega
    obtain⟨hv1,hlt,hop,hsu⟩:=Df hr hf hk
    by_cases hd:tH s o=true
    ·have hb:cY s o=dG (dR aR s o) o (gS s o).2 true:=by
      grind [cY]
     have hrev:(dR aR s o).reviews=s.reviews.modify (o.review - 1).toNat shut:=by
      simp_all [u7,if_pos]
     have hon:=gO.duties o true (gS s o).2 (dR aR s o);rw[←hb,hrev]at hon;obtain⟨a1,a2,a3⟩:=Io hon;have hlm:(s.reviews.modify (o.review - 1).toNat shut).length=s.reviews.length:=adR;rw[hlm]at a1;refine⟨a1,fun i h1 h2=>⟨fun hc=>?_,fun hc=>?_⟩,fun i h1 h2=>a3 i h1 adK,fun hgl=>?_⟩
     ·have hi:(o.review - 1).toNat=i:=by omega
      subst hi;rw[a2 _ adK h2,List.getElem_modify,if_pos rfl];exact⟨fun e=>hsu e.symm,hop,rfl,rfl⟩
     ·have hi:(o.review - 1).toNat≠i:=fun e=>hc ⟨rfl,by simp[pW,hd],hk,adK⟩
      rw[a2 _ adK h2,List.getElem_modify,if_neg hi]
     simp_all [pW]
    ·have hd:tH s o=false:=by grind
     have hb:cY s o=dG s o (gS s o).2 false:=by
      grind [cY]
     have hon:=gO.duties o false (gS s o).2 s;rw[←hb]at hon;obtain⟨a1,a2,a3⟩:=Io hon;refine⟨a1,fun i h1 h2=>⟨fun hc=>?_,fun hc=>a2 i h1 h2⟩,a3,fun hgl=>?_⟩
     ·simp_all [pW]
     simp_all [pW]
   ·have hs1:gO o s.reviews (if fJ s o then cc s o o.reason else s).reviews:=by
     split
     ·exact .open s o _
     ·exact .refl o _
    have hs2:(if tH s o then dR aR (if fJ s o then cc s o o.reason else s) o else(if fJ s o then cc s o o.reason else s)).reviews=(if fJ s o then cc s o o.reason else s).reviews:=by
     split
     ·simp_all [u7,if_neg]
     ·rfl
    have hd:=gO.duties o (tH s o) (gS s o).2 (if tH s o then dR aR (if fJ s o then cc s o o.reason else s) o else(if fJ s o then cc s o o.reason else s))
    rw[hs2]at hd;have hon:gO o s.reviews (cY s o).reviews:=hs1.trans hd;obtain⟨a1,a2,a3⟩:=Io hon;refine⟨a1,fun i h1 h2=>⟨fun hc=>(hk hc.2.2.1).elim,fun hc=>a2 i h1 h2⟩,a3,fun hgl=>?_⟩
    have hg:fJ s o=true:=hgl;have hd' :=hd;simp only[hg,↓reduceIte]at hd';obtain⟨b1,b2,_⟩:=Io hd';have hb:(cY s o)=dG (if tH s o then dR aR (cc s o o.reason) o else cc s o o.reason) o (gS s o).2 (tH s o):=by
     grind [cY]
    rw[←hb]at b1 b2;have hl:(cc s o o.reason).reviews.length=s.reviews.length+1:=by simp[cc]
    refine⟨adK,?_⟩
    grind [cc,BH]
 ·rw[if_pos adK]
  exact .same _ _ _ _ adK rfl
theorem kR.up{k:Nat}{s:aq}(h:kR k s):kR (k+1) s:={h with ver:=⟨h.ver.1,by have:=h.ver.2;omega⟩}
theorem F8{k:Nat}{s:aq}(o:OpD)(h:kR k s):kR (k+1) (aT s o).1:=by
 have hrl:=GL (o:=o) h;unfold aT at hrl⊢
 by_cases hp:(kj s o).1=0
 ·rw[if_neg adK]at hrl⊢
  by_cases ho:sr (cY s o)=true
  ·rw[if_pos ho];exact h.up
  ·rw[if_neg ho]at hrl⊢
   have ho:sr (cY s o)=false:=adL;have hw:=(Lu h hp).ok ho;unfold sr at ho;refine {hw with ids:=fun i hi=>?_,nr:=adL,nn:=adL}
   by_cases hlt:i<s.reviews.length
   ·obtain⟨h1,h2⟩:=hrl.old i hlt hi
    by_cases hc:(0:Int)=0∧(pW s o).err=0∧o.kind=5∧o.review=((i+1:Nat):Int)
    ·rw[(h1 hc).2.2.2];exact h.ids i hlt
    ·rw[h2 hc];exact h.ids i hlt
   ·exact(hrl.new i hi adK).1
 ·rw[if_pos adK];exact h.up
structure Wu (s:aq) (o:OpD):Prop where
 err:(aT s o).2.2.2≠0→(aT s o).1=s∧(aT s o).2.1.err=(aT s o).2.2.2∧(aT s o).2.1.mark=naM
 ok:(aT s o).2.2.2=0→(aT s o).2.1.mark=(gS s o).1∧(aT s o).2.2.1=⟨o,s.version,(gS s o).1,fJ s o,(gS s o).2⟩∧(aT s o).2.1.glass=fJ s o∧(aT s o).1=cY s o∧(aT s o).2.1=pW s o
theorem ym(o:OpD)(done:Bool):∀(l:List cC) (s:aq),(dG s o l done).cases.length=s.cases.length
 | [],s=>rfl
 |x::l,s=>by
  have:(fF o done s x).cases.length=s.cases.length:=by
   unfold fF;split
   ·grind [iX]
   ·split
    ·rfl
    grind
  exact(ym o done l _).trans this
def rep(n:Nat)(t:Txt):Txt:=(List.replicate n t).flatten
def MLe(a b:eu):Prop:=(∀x∈a.met,x∈b.met)∧a.rules≤b.rules
theorem MLe.refl(a:eu):MLe a a:=⟨fun _ h=>h,Nat.le_refl _⟩
theorem MLe.trans{a b c:eu}(h1:MLe a b)(h2:MLe b c):MLe a c:=⟨fun x h=>h2.1 x (h1.1 x h),Nat.le_trans h1.2 h2.2⟩
theorem Ie{a b b' :eu}{s:Txt}(h:MLe a b)(hm:jr b s=some b'):∃a',jr a s=some a'∧MLe a' b' :=by
 unfold jr at hm⊢;split at hm
 ·rename_i hc
  cases hm;refine⟨_,if_pos ⟨fun hx=>hc.1 (h.1 s hx),hc.2⟩,fun x hx=>?_,h.2⟩
  rcases List.mem_append.1 hx with hx|hx
  ·exact List.mem_append.2 (.inl (h.1 x hx))
  grind
 grind
theorem Ig{b b' :eu}{s:Txt}(hm:jr b s=some b'):MLe b b' :=by
 unfold jr at hm;split at hm
 ·cases hm;exact⟨fun x hx=>List.mem_append.2 (.inl hx),Nat.le_refl _⟩
 grind
theorem oR{e:Int}{w:Went}{m:eu}(h:need e w= .ok m):e=0∧w= .ok m:=by
 grind [need]
theorem PR{a b b' :eu}{r:cR}(h:MLe a b)(hr:gw b r= .ok b'):(∃a',gw a r= .ok a'∧MLe a' b')∧MLe b b' :=by
 unfold gw at hr⊢;cases hm:jr b r.id with
 |none=>grind
 |some m=>
  rw[hm]at hr;obtain⟨a',ha,hl⟩:=Ie h hm;simp only at hr;split at hr
  ·grind
  ·obtain⟨e1,hr⟩:=oR hr
   obtain⟨e2,hr⟩:=oR hr;obtain⟨e3,hr⟩:=oR hr;cases hr;have hup:=Ig hm;refine⟨⟨⟨a'.met,a'.rules+1⟩,?_,hl.1,by have:=hl.2;simp only;omega⟩,hup.1,by have:=hup.2;simp only;omega⟩
   rw[ha];have:=hl.2;simp only[e1,e2,e3,need,if_true];rw[if_neg adK]
theorem ET:∀(l:List cR) {a b b' :eu},MLe a b→fC b l= .ok b'→(∃a',fC a l= .ok a'∧MLe a' b')∧MLe b b'
 | [],a,b,b',h,hr=>by
  cases hr;exact⟨⟨a,rfl,h⟩,.refl _⟩
 |r::l,a,b,b',h,hr=>by
  simp only[fC]at hr⊢;cases hw:gw b r with
  |bad e=>grind
  |ok m=>
   rw[hw]at hr;obtain⟨⟨a',ha,hl⟩,hu⟩:=PR h hw;obtain⟨⟨a'',ha',hl'⟩,hu'⟩:=ET l hl hr;exact⟨⟨a'',adL,hl'⟩,hu.trans hu'⟩
theorem OV{a b b' :eu}{id:Txt}{set:Bool}{alg:Int}{tgt:gj}{nr nk nk' :Nat}{obls:List cC}(h:MLe a b)(hk:nk'≤nk)(hr:fk b id set alg tgt nr nk obls= .ok b'):(∃a',fk a id set alg tgt nr nk' obls= .ok a'∧MLe a' b')∧MLe b b' :=by
 unfold fk at hr⊢;cases hm:jr b id with
 |none=>rw[hm]at hr;cases hr
 |some m=>
  rw[hm]at hr;obtain⟨a',ha,hl⟩:=Ie h hm;simp only at hr;split at hr
  ·cases hr
  ·rename_i h1
   split at hr
   ·cases hr
   ·rename_i h2
    obtain⟨e1,hr⟩:=oR hr;obtain⟨e2,hr⟩:=oR hr;split at hr
    ·cases hr
    ·rename_i h3
     cases hr;refine⟨⟨a',?_,hl⟩,Ig hm⟩;rw[ha];have h2' :¬(set=true∧nr>0∨set=false∧(nk' >0∨alg=4)):=by
      rintro(⟨p,q⟩|⟨p,q|q⟩)
      ·exact h2 (.inl ⟨p,q⟩)
      ·exact h2 (.inr ⟨p,.inl adK⟩)
      ·exact h2 (.inr ⟨p,.inr q⟩)
     simp only[if_neg h1,if_neg h2',e1,e2,need,if_true];rw[if_neg adK]
theorem Ew(gs:List bp):∀l:List bJ,(kD gs l).length≤l.length
 | []=>by simp[kD]
 |k::r=>by
  have:=Ew gs r;simp only[kD];split<;>simp<;>omega
mutual
theorem Ey(gs:List bp):∀(p:bJ) (d:Nat) {a b b' :eu},MLe a b→kN b d p= .ok b'→(∃a',kN a d (lI gs p)= .ok a'∧MLe a' b')∧MLe b b'
 |.mk id set alg tgt rules kids obls,d,a,b,b',h,hr=>by
  simp only[kN,lI]at hr⊢;split at hr
  ·cases hr
  ·rename_i hd
   rw[if_neg hd];cases hh:fk b id set alg tgt rules.length kids.length obls with
   |bad e=>rw[hh]at hr;cases hr
   |ok m=>
    rw[hh]at hr;simp only at hr;obtain⟨⟨a1,ha1,hl1⟩,hu1⟩:=OV h (Ew gs kids) hh;cases hw:fC m rules with
    |bad e=>rw[hw]at hr;cases hr
    |ok m2=>
     rw[hw]at hr;simp only at hr;obtain⟨⟨a2,ha2,hl2⟩,hu2⟩:=ET rules hl1 hw;obtain⟨⟨a3,ha3,hl3⟩,hu3⟩:=vo gs kids (d+1) hl2 hr;refine⟨⟨a3,?_,hl3⟩,(hu1.trans hu2).trans hu3⟩;rw[ha1];simp only[ha2];exact ha3
theorem vo(gs:List bp):∀(l:List bJ) (d:Nat) {a b b' :eu},MLe a b→iW b d l= .ok b'→(∃a',iW a d (kD gs l)= .ok a'∧MLe a' b')∧MLe b b'
 | [],d,a,b,b',h,hr=>by
  simp only[iW,kD]at hr⊢;cases hr;exact⟨⟨a,rfl,h⟩,.refl _⟩
 |k::r,d,a,b,b',h,hr=>by
  simp only[iW]at hr;cases hw:kN b d k with
  |bad e=>rw[hw]at hr;cases hr
  |ok m=>
   rw[hw]at hr;simp only at hr;obtain⟨⟨a1,ha1,hl1⟩,hu1⟩:=Ey gs k d h hw;simp only[kD];split
   ·obtain⟨⟨a2,ha2,hl2⟩,hu2⟩:=vo gs r d hl1 hr
    refine⟨⟨a2,?_,hl2⟩,hu1.trans hu2⟩;simp only[iW,ha1];exact ha2
   ·obtain⟨⟨a2,ha2,hl2⟩,hu2⟩:=vo gs r d (h.trans hu1) hr
    exact⟨⟨a2,ha2,hl2⟩,hu1.trans hu2⟩
end
theorem GM(gs:List bp){p:bJ}(h:gC p=0):gC (lI gs p)=0:=by
 unfold gC at*;cases hw:kN ⟨[],0⟩ 1 p with
 |bad e=>
  have:=uu 4 1 _ _ e rfl hw;rw[hw]at h;exact(this h).elim
 |ok m=>
  obtain⟨⟨a,ha,_⟩,_⟩:=Ey gs p 1 (.refl _) hw;rw[ha];rfl
def Wp:bQ:=⟨⟨0,[],false⟩,0,an⟩
def O2(k:Option bQ):AV:=match k with
 |some m=> .tup [dM m,.b true]
 |none=> .tup [dM Wp,.b false]
theorem Mo{x:List (List bQ)}{r:gj}(h:x.length≠1):oP (x::r)=oP r:=by
 match x,h with
 | [],_=>rfl
 | [l],h=>exact(h rfl).elim
 |a::b::c,_=>rfl
theorem Mn{l:List bQ}{r:gj}(h:(l.find? fun m=>m.op==1 && !m.attr.must)=none):oP ([l]::r)=oP r:=by
 grind [oP]
theorem Mp{l:List bQ}{r:gj}{m:bQ}(h:(l.find? fun m=>m.op==1 && !m.attr.must)=some m):oP ([l]::r)=some m:=by
 grind [oP]
theorem Ev(gs:List bp):∀l:List bJ,kD gs l=(l.filter (sR gs)).map (lI gs)
 | []=>adV
 |k::r=>by
  simp only[kD,List.filter_cons,Ev gs r]
  grind
def ixP(gs:List bp)(l:List bJ)(n:Nat):List Nat:=(List.range n).filter fun j=>sR gs (l.getD j l8)
theorem DU(gs:List bp)(l:List bJ){n:Nat}(h:n<l.length):ixP gs l (n+1)=ixP gs l n++(if sR gs l[n]=true then [n]else []):=by
 grind [ixP,List.range_succ,List.getD,List.getElem?_eq_getElem]
theorem DV(gs:List bp)(l:List bJ):∀n:Nat,n≤l.length→(ixP gs l n).map (fun j=>l.getD j l8)=(l.take n).filter (sR gs)
 |0,_=>adV
 |n+1,h=>by
  have hlt:n<l.length:=adK;rw[DU gs l hlt,List.map_append,DV gs l n adK,List.take_succ_eq_append_getElem hlt,List.filter_append,List.filter_cons]
  congr 1
  grind
theorem Sr{gs:List bp}{l:List bJ}{n j:Nat}(h:j∈ixP gs l n):j<n:=List.mem_range.1 (List.mem_filter.1 h).1
theorem HZ(gs:List bp)(l:List bJ)(n:Nat):(ixP gs l n).length≤n:=by
 grind [ixP,Nat.le_trans,List.length_filter_le]
theorem Mi(gs:List bp)(l:List bJ):(ixP gs l l.length).map (fun j=>lI gs (l.getD j l8))=kD gs l:=by
 rw[Ev,←List.take_length (l:=l),←DV gs l l.length (Nat.le_refl _),List.map_map,List.take_length];rfl
theorem oQ(m:bQ):dM m= .agg [.i m.attr.cat,.s m.attr.name,.b m.attr.must,.i m.op,.i m.val.kind,.i m.val.n,.s m.val.s]:=rfl
end Go.Bf
namespace Go.Proofs.YtfdgemhnlennbaaGreatDoor
open Go Go.Ab Go.Bf
theorem Ss(t:gj)(ht:Ob t)(h:Heap):ai Tryz.prog 209 [aV t] h fun r h' =>r=O2 (oP t)∧h' =h:=by
 have htl:=ht.1;refine adJ Tryz.func209 38 [.cell 2 265,.tmp 3] fun hwf=>?_
 simp only[go_sem,aV];intro i2 h2;simp only[go_sem,adA];have hH0:∀x,Ab.Sub h (upd h i2 x):=fun x=> .aj h2
 refine .intro (fun m ρ H=>Ab.Sub h H∧H i2=some (.obj [.i 0,.s [],.b false,.i 0,.i 0,.i 0,.s []] 265)∧∃i:Nat,i≤t.length∧m=t.length - i∧oP (t.drop i)=oP t∧lk ρ 2=some (.ptr i2 0)∧lk ρ 8=some (.sl (t.map cU) .no)∧lk ρ 9=some (.i t.length)∧lk ρ 10=some (.i i)) t.length ?_ ?_
 ·refine⟨hH0 _,ah ..,0,adK,rfl,rfl,?_,?_,?_,?_⟩<;>simp only[go_sem]
 ·rintro m ρ H ⟨hs,k2,i,hi,rfl,hk,r2,r8,r9,r10⟩
  simp only[go_sem,r9,r10];refine .intro (fun e=>?_) (fun e=>?_)
  ·have hlt:i<t.length:=adH e
   have w1:IntKind.i64.wrap ((i:Int)+1)=((i+1:Nat):Int):=adY;rw[List.drop_eq_getElem_cons hlt]at hk;have hxl:=(ht.2 _ (adF hlt)).2;have ix:=fun k=>fo.eq (xs:=t.map cU) (sz:=1) i adL ad0 k
   rw[adB]at ix;obtain⟨x,ex⟩:∃x,t[i]=x:=⟨_,rfl⟩;rw[ex]at ix hk hxl;simp only[cU]at ix;cases d1:((x.length:Int) !=1)
   case true=>
    have hx1:x.length≠1:=adL;rw[Mo hx1]at hk;simp only[go_sem,r8,r10,ix,adA,d1,w1];refine⟨_,?_,hs,k2,i+1,adK,rfl,hk,?_,?_,?_,?_⟩
    ·omega
    all_goals simp only[go_sem,r2,r8,r9]
   have hx1:x.length=1:=adL;obtain⟨l,rfl⟩:=List.length_eq_one_iff.1 hx1;have hll:=hxl l (List.mem_singleton.2 rfl);have iy:=fun k=>fo.eq (xs:=[jb l]) (sz:=1) 0 adR rfl k
   simp only[List.getElem_cons_zero,jb,Int.natCast_zero]at iy;simp only[go_sem,r8,r10,ix,adA,List.length_cons,List.length_nil,List.map_cons,List.map_nil,jb,iy];refine .intro (fun m ρ2 H2=>Ab.Sub h H2∧H2 i2=some (.obj [.i 0,.s [],.b false,.i 0,.i 0,.i 0,.s []] 265)∧∃j:Nat,j≤l.length∧m=l.length - j∧(∀k (h1:k<l.length),k<j→(l[k].op==1 && !l[k].attr.must)=false)∧lk ρ2 2=some (.ptr i2 0)∧lk ρ2 8=some (.sl (t.map cU) .no)∧lk ρ2 9=some (.i t.length)∧lk ρ2 10=some (.i i)∧lk ρ2 19=some (.sl (l.map dM) .no)∧lk ρ2 20=some (.i l.length)∧lk ρ2 21=some (.i j)) l.length ?_ ?_
   ·refine⟨hs,k2,0,adK,rfl,fun k _ hk=>adK,?_,?_,?_,?_,?_,?_,?_⟩<;>simp only[go_sem,r2,r8,r9,r10]
   ·rintro m ρ2 H2 ⟨hs2,k2,j,hj,rfl,hc,s2,s8,s9,s10,s19,s20,s21⟩
    simp only[go_sem,s20,s21];refine .intro (fun e=>?_) (fun e=>?_)
    ·have hlt2:j<l.length:=adH e
     have w2:IntKind.i64.wrap ((j:Int)+1)=((j+1:Nat):Int):=adY;have iz:=fun k=>fo.eq (xs:=l.map dM) (sz:=7) j adL ad0 k
     rw[adB]at iz;have hci:=fun(d:(l[j].op==1 && !l[j].attr.must)=false)=>(fun k (h1:k<l.length) (hk:k<j+1)=>(by
      grind:(l[k].op==1 && !l[k].attr.must)=false))
     have hat:=fun(d:(l[j].op==1 && !l[j].attr.must)=true)=>(List.find?_eq_some_iff_getElem.2 ⟨d,j,hlt2,rfl,fun k hk=>adL⟩:(l.find? fun m=>m.op==1 && !m.attr.must)=some l[j])
     obtain⟨z,ez⟩:∃z,l[j]=z:=⟨_,rfl⟩;rw[ez]at iz hci hat;simp only[oQ]at iz;simp only[go_sem,s19,s21,iz];intro i7 h7;have n72:i7≠i2:=fun e=>adL
     cases a1:(z.op==1)
     ·exact aiy
     ·cases a2:z.attr.must
      ·have hkk:=hk.symm.trans (Mp (hat adL))
       simp only[go_sem,s2,a1,ak,n72.symm,k2];exact .mk _ (.refl _) ((hs2.trans (.aj h7)).put h2 _) ⟨by rw[hkk];simp only[O2,oQ,a2];rfl,rfl⟩
      ·exact aiy
    ·have hge:j=l.length:=by grind
     subst hge;rw[Mn (List.find?_eq_none.2 fun z hz=>by
      obtain⟨k,hk,rfl⟩:=List.mem_iff_getElem.1 hz
      grind)]at hk
     simp only[go_sem,s10,w1];refine⟨_,?_,hs2,k2,i+1,adK,rfl,hk,?_,?_,?_,?_⟩
     ·omega
     all_goals simp only[go_sem,s2,s8,s9]
  ·have hge:i=t.length:=by grind
   subst hge;rw[List.drop_length]at hk;simp only[go_sem,r2,k2];exact .mk _ (.refl _) (hs.put h2 _) ⟨by rw[←hk];rfl,rfl⟩
theorem J9{gs:List bp}{p:bJ}(h:oP (sW p)=none):sR gs p=true:=by grind [sR]
theorem Ka{gs:List bp}{p:bJ}{m:bQ}(h:oP (sW p)=some m):sR gs p=decide (j0 gs m≠0):=by grind [sR]
def ue(n:Nat):AV:=.i n
theorem M0(l:List bJ)(hl:l.length≤1000)(ht:∀p∈l,Ob (sW p))(gs:List bp)(hf:rY gs)(h:Heap):ai Tryz.prog 164 [.sl (l.map aM) .no,bL gs] h fun r h' =>r= .sl ((ixP gs l l.length).map ue) .no∧h' =h:=by
 have hmt:=fun(m:bQ) (G:Heap)=>Bn m gs hf G
 simp only[oQ,bL]at hmt;have uI:(U 3).sz=1:=adV;refine adJ Tryz.func164 37 [.tmp 4] fun hwf=>?_
 simp only[go_sem,bL,adA];refine .intro (fun m ρ H=>∃(i:Nat) (y:AV),Acc U 3 h H y ((ixP gs l i).map ue)∧i≤l.length∧m=l.length - i∧lk ρ 1=some (.sl (gs.map lB) .no)∧lk ρ 5=some y∧lk ρ 10=some (.sl (l.map aM) .no)∧lk ρ 11=some (.i l.length)∧lk ρ 12=some (.i i)) l.length ?_ ?_
 ·refine⟨0,.sl [] .full,.full (.refl _),adK,rfl,?_,?_,?_,?_,?_⟩<;>simp only[go_sem]
 ·rintro m ρ H ⟨i,y,hy,hi,rfl,r1,r5,r10,r11,r12⟩
  obtain⟨qy,eqy⟩:=hy.row;subst eqy;simp only[go_sem,r11,r12];refine .intro (fun e=>?_) (fun e=>?_)
  ·have hlt:i<l.length:=adH e
   have w1:IntKind.i64.wrap ((i:Int)+1)=((i+1:Nat):Int):=adY;have hsn:=DU gs l hlt;have hpl:=HZ gs l i;have ix:=fun k=>fo.eq (xs:=l.map aM) (sz:=7) i adL (by rw[adB,jD]) k
   rw[adB]at ix;have hft:=ht _ (adF hlt);obtain⟨x,ex⟩:∃x,l[i]=x:=⟨_,rfl⟩;rw[ex]at ix hsn hft;have hky:=fun G=>Ss (sW x) hft G
   have mn:=fun h=>J9 (gs:=gs) (p:=x) h
   have ms:=fun m h=>Ka (gs:=gs) (p:=x) (m:=m) h
   obtain⟨kid,kset,kalg,ktgt,krules,kkids,kobls⟩:=x;simp only[sW]at hky hft mn ms;simp only[aM,aV,aA,aY]at ix;simp only[aV]at hky;simp only[go_sem,r10,r12,ix];intro i7 h7;simp only[go_sem];refine(hky _).pthen ?_;have hkeep:sR gs (.mk kid kset kalg ktgt krules kkids kobls)=true→ixP gs l (i+1)=ixP gs l i++ [i]:=fun e=>adL
   have hdrop:sR gs (.mk kid kset kalg ktgt krules kkids kobls)=false→ixP gs l (i+1)=ixP gs l i:=fun e=>adL
   cases hk:oP ktgt with
   |none=>
    simp only[go_sem,O2,oQ];intro i8 h8;simp only[go_sem,r5];exact aii
   |some m=>
    have hm2:=ms m hk;simp only[go_sem,O2,oQ];intro i8 h8;simp only[go_sem,r1];refine(hmt m _).pthen ?_;cases dm:((j0 gs m:Int) !=0)
    ·have e0:j0 gs m=0:=by grind
     simp only[go_sem,r12,dm,w1];refine⟨_,?_,i+1,_,by rw[hdrop adL];exact(hy.sub (.aj h7)).sub (.aj h8),adK,rfl,?_,?_,?_,?_,?_⟩
     ·omega
     all_goals simp only[go_sem,r1,r5,r10,r11]
    ·have e0:j0 gs m≠0:=by grind
     simp only[go_sem,r5,dm];exact aii
  ·have hge:i=l.length:=by grind
   subst hge;simp only[go_sem,r5];exact .mk _ (.sl _ _) hy.1 ⟨rfl,rfl⟩
theorem VS{id:Txt}{set:Bool}{alg:Int}{tgt:gj}{rules:List cR}{kids:List bJ}{obls:List cC}{L:List AV}(hL:L=kids.map aM)(q:Perm):Weak (.agg [.s id,.b set,.i alg,.sl (tgt.map cU) .no,.sl (rules.map aC) .no,.sl L q,.sl (obls.map bu) .no]) (aM (.mk id set alg tgt rules kids obls)):=by
 subst hL;rw[aM,aY];refine .agg _ _ rfl fun i a b=>?_
 rcases i with _|_|_|_|_|_|_|i
 ·exact ae4
 ·exact ae4
 ·exact ae4
 ·exact ae4
 ·exact ae4
 ·exact agp
 ·exact ae4
 ·simp at a;omega
theorem Bw:∀(n d:Nat),d+n=5→∀(p:bJ),nq d p→∀(gs:List bp),rY gs→∀(h:Heap),ai Tryz.prog 105 [aM p,bL gs] h fun r h' =>r=aM (lI gs p)∧h' =h
 |0,d,hd,.mk id set alg tgt rules kids obls,hE,gs,hf,h=>by
  simp only[nq]at hE;omega
 |n+1,d,hd,.mk id set alg tgt rules kids obls,hE,gs,hf,h=>by
  have ih:=Bw n (d+1) adK;simp only[nq,qT]at hE;obtain⟨_,_,_,_,_,_,hT,hO,hR,hK,hRE,hKE⟩:=hE;have hpk:=fun G=>M0 kids adK (fun p hp=>by
   have h1:=hKE p hp;obtain⟨kid,kset,kalg,ktgt,krules,kkids,kobls⟩:=p;simp only[nq]at h1;exact CN h1.2.2.2.2.2.2.1) gs hf G
  have hpe:lI gs (.mk id set alg tgt rules kids obls)= .mk id set alg tgt rules (kD gs kids) obls:=adV;have hfull:=Mi gs kids;have hIlt:∀j∈ixP gs kids kids.length,j<kids.length:=fun j hj=>Sr hj
  have hIl:(ixP gs kids kids.length).length≤16:=Nat.le_trans (HZ _ _ _) hK;obtain⟨I,eI⟩:∃I,ixP gs kids kids.length=I:=⟨_,rfl⟩;rw[eI]at hpk hfull hIlt hIl;simp only[bL]at hpk;have uP:(U 61).sz=7:=adV;refine adJ Tryz.func105 31 [.cell 4 61] fun hwf=>?_
  simp only[go_sem,aM,bL,aY,aV,aA];intro i2 h2;simp only[go_sem];intro i4 h4;have n42:=aH h4;have n4' :=aB h4;obtain⟨H0,eH⟩:∃H0,upd (upd h i2 (some (.obj [.s id,.b set,.i alg,.sl (tgt.map cU) .no,.sl (rules.map aC) .no,.sl (kids.map aM) .no,.sl (obls.map bu) .no] 61))) i4 (some (.obj [.s [],.b false,.i 0,.sl [] .full,.sl [] .full,.sl [] .full,.sl [] .full] 61))=H0:=⟨_,rfl⟩;have hH0:Ab.Sub h H0:=agI;have g2:H0 i2=some (.obj [.s id,.b set,.i alg,.sl (tgt.map cU) .no,.sl (rules.map aC) .no,.sl (kids.map aM) .no,.sl (obls.map bu) .no] 61):=ahs;have g4:H0 i4=some (.obj [.s [],.b false,.i 0,.sl [] .full,.sl [] .full,.sl [] .full,.sl [] .full] 61):=afc;simp only[go_sem,ak,n42.symm];rw[eH];clear eH;refine(hpk _).pthen ?_;simp only[go_sem,adA];refine .intro (fun m ρ H=>∃(i:Nat) (y:AV),Acc U 61 H0 H y (((I.map fun j=>lI gs (kids.getD j l8)).take i).map aM)∧i≤I.length∧m=I.length - i∧lk ρ 1=some (.sl (gs.map lB) .no)∧lk ρ 2=some (.ptr i2 0)∧lk ρ 4=some (.ptr i4 0)∧lk ρ 5=some y∧lk ρ 11=some (.sl (I.map ue) .no)∧lk ρ 12=some (.i I.length)∧lk ρ 13=some (.i i)) I.length ?_ ?_
  ·refine⟨0,.sl [] .full,.full (.refl _),adK,rfl,?_,?_,?_,?_,?_,?_,?_⟩<;>simp only[go_sem]
  ·rintro m ρ H ⟨i,y,hy,hi,rfl,r1,r2,r4,r5,r11,r12,r13⟩
   obtain⟨qy,eqy⟩:=hy.row;subst eqy;have k2:=hy.1 _ _ g2;simp only[go_sem,r12,r13];refine .intro (fun e=>?_) (fun e=>?_)
   ·have hlt:i<I.length:=adH e
    have w1:IntKind.i64.wrap ((i:Int)+1)=((i+1:Nat):Int):=adY;have hjlt:=hIlt _ (adF hlt);have hsn:((I.map fun j=>lI gs (kids.getD j l8)).take (i+1)).map aM=((I.map fun j=>lI gs (kids.getD j l8)).take i).map aM++ [aM (lI gs (kids.getD I[i] l8))]:=by
     grind [List.take_succ_eq_append_getElem]
    have ix:=fun k=>fo.eq (xs:=I.map ue) (sz:=1) i adL ad0 k
    rw[adB]at ix;obtain⟨j,ej⟩:∃j,I[i]=j:=⟨_,rfl⟩;rw[ej]at ix hsn hjlt;have iy:=fun k=>fo.eq (xs:=kids.map aM) (sz:=7) j adL (by rw[adB,jD]) k
    rw[adB]at iy;rw[show kids.getD j l8=kids[j] by grind]at hsn
    have hke:=hKE _ (adF hjlt);obtain⟨x,ex⟩:∃x,kids[j]=x:=⟨_,rfl⟩;rw[ex]at iy hsn hke;have hr1:=ih x hke gs hf;obtain⟨z,ez⟩:∃z,lI gs x=z:=⟨_,rfl⟩;rw[ez]at hr1 hsn;obtain⟨kid,kset,kalg,ktgt,krules,kkids,kobls⟩:=x;obtain⟨zid,zset,zalg,ztgt,zrules,zkids,zobls⟩:=z;simp only[aM,aV,aA,aY,bL]at iy hr1;simp only[ue]at ix;simp only[go_sem,r1,r2,r5,r11,r13,ix,k2,iy];refine(hr1 _).pthen ?_;simp only[go_sem];refine hy.app (zs:=[aM (.mk zid zset zalg ztgt zrules zkids zobls)]) adK adO (fun k hk=>show k _ from(by simpa only[aM,aV,aA,aY]using hk)) (by grind [bx,aM,jD]) (by rw[uP];intro z hz;grind [List.mem_singleton,jD]) ad2 fun y' H' hy' kp=>?_
    simp only[go_sem,r13,w1];refine⟨_,?_,i+1,y',adL,adK,rfl,?_,?_,?_,?_,?_,?_,?_⟩
    ·omega
    all_goals simp only[go_sem,r1,r2,r4,r11,r12]
   ·have hge:i=I.length:=by grind
    subst hge;have htl:(I.map fun j=>lI gs (kids.getD j l8)).take I.length=kD gs kids:=by grind [List.take_of_length_le]
    rw[htl]at r5 hy;have k4:=hy.1 _ _ g4;have n24:i2≠i4:=n42.symm;simp only[go_sem,r2,r4,r5,k2,ak,n42,k4];refine .mk (aM (.mk id set alg tgt rules (kD gs kids) obls)) (VS rfl _) (((hH0.trans hy.1).put h2 _).put n4' _) ⟨adV,rfl⟩
theorem DT(p:bJ)(hp:gC p=0)(gs:List bp)(hf:rY gs)(h:Heap):ai Tryz.prog 52 [aM p,bL gs] h fun r h' =>r= .tup [rsA (fG gs p),.i 0]∧h' =h:=by
 have hpk:=fun G=>Bw 4 1 rfl p (ru hp) gs hf G
 have hev:=fun G=>Dv (lI gs p) (GM gs hp) gs hf G
 have hr:=fun G=>uB p G
 rw[hp]at hr;rw[Bu]at hev;obtain⟨id,set,alg,tgt,rules,kids,obls⟩:=p;refine adJ Tryz.func52 17 [.cell 4 107,.tmp 5] fun hwf=>?_
 simp only[go_sem,aM,bL,aV,aA];intro i2 h2;simp only[go_sem];intro i4 h4;have n42:=aH h4;have n4:=aB h4;have hs:∀x y,Ab.Sub h (upd (upd h i2 x) i4 y):=fun x y=>((Sub.refl h).put h2 x).put n4 y
 simp only[go_sem,ak,n42.symm];refine(hr _).pthen ?_;simp only[go_sem,ak,n42.symm];refine(hpk _).pthen ?_;simp only[go_sem];refine(hev _).pthen ?_;simp only[go_sem,rsA,aN,aA];exact afl
def OwR(h0 h:Heap)(y:AV)(rs:List ij):Prop:=y=dZ rs∨OwE 141 h0 h 2 y (rs.map eJ)
theorem OwR.rd{h0 h:Heap}{y:AV}{rs:List ij}(hr:OwR h0 h y rs):Rd h 2 y (rs.map eJ):=by
 rcases hr with rfl|hr
 ·exact eS eJ 2 (fun _=>rfl) h rs
 ·exact hr.rd
theorem OwR.nid{h0 h:Heap}{y:AV}{rs:List ij}(hr:OwR h0 h y rs){k:Nat}(e:Ab.nid y=some k):h0 k=none∧h k≠none:=by
 rcases hr with rfl|hr
 ·cases e
 ·exact⟨(hr.nid e).1,(hr.nid e).2.1⟩
theorem OwR.keep{h0 h h' :Heap}{y:AV}{rs:List ij}(hr:OwR h0 h y rs)(hk:∀id,Ab.nid y=some id→h' id=h id):OwR h0 h' y rs:=by
 rcases hr with hr|hr
 ·exact .inl hr
 ·exact .inr (hr.keep hk)
theorem OwR.bM{g h0 h:Heap}{y:AV}{rs:List ij}(hr:OwR h0 h y rs)(hg:∀i,h0 i=none→g i=none):OwR g h y rs:=by
 rcases hr with hr|hr
 ·exact .inl hr
 ·exact .inr (hr.bM hg)
theorem OwR.frz{g h:Heap}{y:AV}{rs:List ij}(hr:OwR g h y rs):Frz g h y (dZ rs):=by
 rcases hr with rfl|hr
 ·exact .pure (by simp only[dZ,cN];exact bw (fun _=>rfl) _)
 ·exact hr.frz (bw (fun _=>rfl) _)
structure iO (h0 h:Heap) (y1 y2 y3 y4:AV) (s:aq) (j:Nat):Prop where
 cs:mq h0 h [y1,y2,y3,y4] y1 s.cases j
 rv:OwE 135 h0 h 7 y2 (s.reviews.map iU)
 nt:OwE 138 h0 h 3 y3 (s.notices.map nH)
 rl:OwR h0 h y4 s.roles
 a12:apart y1 y2
 a13:apart y1 y3
 a14:apart y1 y4
 a23:apart y2 y3
 a24:apart y2 y4
 a34:apart y3 y4
def stC(s:aq)(y1 y2 y3 y4:AV):List AV:=[.i s.tick,y1,y2,y3,y4]++gb s.policy++ [.i s.version]
theorem tr.parts{h0 h:Heap}{x:AV}{s:aq}{j:Nat}(ho:tr h0 h x s j):∃y1 y2 y3 y4,x= .agg (stC s y1 y2 y3 y4)∧iO h0 h y1 y2 y3 y4 s j:=by
 obtain⟨y1,y2,y3,y4,e,a,b,c,d,r1,r2,r3,r4,r5,r6⟩:=ho;exact⟨y1,y2,y3,y4,e,a,b,c,.inr d,r1,r2,r3,r4,r5,r6⟩
theorem iO.rd{h0 h:Heap}{y1 y2 y3 y4:AV}{s:aq}{j:Nat}(ho:iO h0 h y1 y2 y3 y4 s j):RdS h (.agg (stC s y1 y2 y3 y4)) s:=
 ⟨y1,y2,y3,y4,rfl,ho.cs.rd,ho.rv.rd,ho.nt.rd,ho.rl.rd⟩
theorem iO.frz{g h:Heap}{y1 y2 y3 y4:AV}{s:aq}{j:Nat}(ho:iO g h y1 y2 y3 y4 s j):Frz g h (.agg (stC s y1 y2 y3 y4)) (cO s):=
 vg (ho.cs.frz (.refl _)) (ho.rv.frz (bw (fun _=>rfl) _)) (ho.nt.frz (bw (fun _=>rfl) _)) ho.rl.frz
theorem iO.bM{g h0 h:Heap}{y1 y2 y3 y4:AV}{s:aq}{j:Nat}(ho:iO h0 h y1 y2 y3 y4 s j)(hg:∀i,h0 i=none→g i=none):iO g h y1 y2 y3 y4 s j:=
 {ho with cs:=ho.cs.bM hg,rv:=ho.rv.bM hg,nt:=ho.nt.bM hg,rl:=ho.rl.bM hg}
theorem iO.keep{h0 h h' :Heap}{y1 y2 y3 y4:AV}{s:aq}{j:Nat}(ho:iO h0 h y1 y2 y3 y4 s j)(hk:∀id,h0 id=none→h id≠none→h' id=h id):iO h0 h' y1 y2 y3 y4 s j:=
 {ho with cs:=ho.cs.keepb hk,rv:=ho.rv.keepb hk,nt:=ho.nt.keepb hk,rl:=ho.rl.keep fun id e=>hk id (ho.rl.nid e).1 (ho.rl.nid e).2}
theorem iO.mem{h0 h:Heap}{y1 y2 y3 y4:AV}{s:aq}{j:Nat}(ho:iO h0 h y1 y2 y3 y4 s j){w:AV}(hw:w∈ [y1,y2,y3,y4]){k:Nat}(e:Ab.nid w=some k):h0 k=none∧h k≠none:=by
 obtain⟨xs,a,_⟩:=ho.cs;simp only[List.mem_cons,List.not_mem_nil,or_false]at hw;rcases hw with rfl|rfl|rfl|rfl
 ·exact⟨(a.nid e).1,(a.nid e).2.1⟩
 ·exact⟨(ho.rv.nid e).1,(ho.rv.nid e).2.1⟩
 ·exact⟨(ho.nt.nid e).1,(ho.nt.nid e).2.1⟩
 ·exact ho.rl.nid e
theorem iO.revs{h0 h h' :Heap}{y1 y2 y3 y4 z:AV}{s:aq}{j:Nat}{rs:List qw}(ho:iO h0 h y1 y2 y3 y4 s j)(hz:OwE 135 h0 h' 7 z (rs.map iU))(hn:∀k,Ab.nid z=some k→h k=none∨Ab.nid y2=some k)
  (hk:∀id,h0 id=none→h id≠none→Ab.nid y2≠some id→h' id=h id):iO h0 h' y1 z y3 y4 {s with reviews:=rs} j:=by
 obtain⟨hcs,hrv,hnt,hrl,a12,a13,a14,a23,a24,a34⟩:=id ho;have ap:∀ {w:AV},w∈ [y1,y2,y3,y4]→apart w y2→apart w z:=fun hw ha k e1 e2=>(hn k e2).elim (fun h=>(ho.mem hw e1).2 h) (fun h=>ha k e1 h)
 refine⟨hcs.move (z:=y2) adR a12 hk fun w hw k e=>?_,hz,hnt.keep fun id e=>hk id (hnt.nid e).1 (hnt.nid e).2.1 fun e1=>a23 id e1 e,hrl.keep fun id e=>hk id (hrl.nid e).1 (hrl.nid e).2 fun e1=>a24 id e1 e,ap adR a12,a13,a14,(ap adR a23.symm).symm,(ap adR a24.symm).symm,a34⟩
 grind
theorem iO.nots{h0 h h' :Heap}{y1 y2 y3 y4 z:AV}{s:aq}{j:Nat}{rs:List IX}(ho:iO h0 h y1 y2 y3 y4 s j)(hz:OwE 138 h0 h' 3 z (rs.map nH))(hn:∀k,Ab.nid z=some k→h k=none∨Ab.nid y3=some k)
  (hk:∀id,h0 id=none→h id≠none→Ab.nid y3≠some id→h' id=h id):iO h0 h' y1 y2 z y4 {s with notices:=rs} j:=by
 obtain⟨hcs,hrv,hnt,hrl,a12,a13,a14,a23,a24,a34⟩:=id ho;have ap:∀ {w:AV},w∈ [y1,y2,y3,y4]→apart w y3→apart w z:=fun hw ha k e1 e2=>(hn k e2).elim (fun h=>(ho.mem hw e1).2 h) (fun h=>ha k e1 h)
 refine⟨hcs.move (z:=y3) adR a13 hk fun w hw k e=>?_,hrv.keep fun id e=>hk id (hrv.nid e).1 (hrv.nid e).2.1 fun e1=>a23 id e e1,hz,hrl.keep fun id e=>hk id (hrl.nid e).1 (hrl.nid e).2 fun e1=>a34 id e1 e,a12,ap adR a13,a14,ap adR a23,a24,(ap adR a34.symm).symm⟩
 grind
end Go.Proofs.YtfdgemhnlennbaaGreatDoor
namespace Go.Bf
open Go Go.Ab Go.Proofs.YtfdgemhnlennbaaGreatDoor
def iq(s:aq):Prop:=∀r∈s.reviews,0≤r.tick∧r.tick≤1099511627776
theorem BP{s:aq}(o:OpD)(w:Txt)(h:iq s)(ht:0≤s.tick∧s.tick≤1099511627776):iq (cc s o w):=fun r hr=>by
 simp only[cc,List.mem_append,List.mem_singleton]at hr;rcases hr with hr|rfl
 ·exact h r hr
 ·exact ht
theorem KL{s:aq}(o:OpD)(w:Txt)(h:iq s):iq (iX s o w):=fun r hr=>h r (by grind [yX])
theorem KK{s:aq}(o:OpD)(done:Bool)(x:cC)(h:iq s)(ht:0≤s.tick∧s.tick≤1099511627776):iq (fF o done s x):=by
 unfold fF;split
 ·grind [KL]
 ·split
  ·grind [BP]
  ·split<;>exact h
theorem xg(o:OpD)(done:Bool):∀(l:List cC) {s:aq},iq s→(0≤s.tick∧s.tick≤1099511627776)→iq (dG s o l done)
 | [],s,h,_=>h
 |x::l,s,h,ht=>xg o done l (by grind [KK]) (by grind [Dp])
theorem NI{s:aq}(par:Txt→bJ×Int×Int)(o:OpD)(h:iq s):iq (dR par s o):=fun r hr=>by
 rw[u7]at hr;split at hr
 ·rcases mem_modify hr with hr|⟨hi,rfl⟩
  ·exact h r hr
  ·have h2:=h _ (adF hi)
   exact ahR
 ·exact h r hr
theorem Hg{k:Nat}{s:aq}(o:OpD)(h:kR k s)(ht:iq s):iq (aT s o).1:=by
 unfold aT;split
 ·omega
 ·split
  ·omega
  ·show iq (cY s o)
   have h1:dD k (if fJ s o then cc s o o.reason else s):=by
    split
    ·exact CF o _ h.todD (by have:=h.nr;omega)
    ·exact h.todD
   have t1:iq (if fJ s o then cc s o o.reason else s):=by
    split
    ·exact BP o _ ht h.tick
    omega
   refine xg o _ _ ?_ ?_
   ·grind [NI]
   ·split
    ·exact(qb o h1).tick
    ·exact h1.tick
structure jw (k:Nat) (s:aq):Prop extends kR k s where
 ticks:iq s
theorem sI:jw 0 zf:={JL with ticks:=fun r h=>aeC}
theorem wF{k:Nat}{s:aq}(o:OpD)(h:jw k s):jw (k+1) (aT s o).1:={F8 o h.tokR with ticks:=Hg o h.tokR h.ticks}
theorem OY{cs:List aL}{id:Txt}(h:iR cs id<cs.length):cs[iR cs id].id=id:=by
 have:=List.findIdx_getElem (p:=fun c:aL=>c.id==id) (w:=h)
 exact eq_of_beq this
theorem Gh{cs:List aL}(ha:Asc cs){id:Txt}(h:iR cs id<cs.length):findD cs id=iR cs id:=by
 have hid:=OY h;have hin:bY cs id=true:=by grind [vO,List.any_eq_true,adF]
 have hir:Op.bytesLess id id=false:=by simpa[lt]using lt_irrefl id
 have h1:∃hl:findD cs id<cs.length,cs[findD cs id].id=id:=by
  unfold bY at hin
  grind
 rcases Nat.lt_trichotomy (findD cs id) (iR cs id)with hlt|heq|hgt
 ·exact absurd (List.not_of_lt_findIdx (p:=fun c:aL=>c.id==id) hlt) adL
 ·exact heq
 ·have:=List.not_of_lt_findIdx (p:=fun c:aL=>geB c.id id) hgt
  exact absurd this (by grind [geB])
theorem Mg{cs ds:List aL}(h:ds.map (·.id)=cs.map (·.id))(id:Txt):iR ds id=iR cs id:=by
 have e:∀l:List aL,iR l id=(l.map (·.id)).findIdx fun x=>x==id:=fun l=>by
  rw[List.findIdx_map];rfl
 rw[e,e,h]
theorem JX(s:aq)(o:OpD)(w:Txt)(id:Txt):iR (iX s o w).cases id=iR s.cases id∧(iX s o w).cases.length=s.cases.length:=by
 unfold iX;split
 ·exact⟨Mg (kL (f:=fun c=>jA s c o.subj w) (g:=fun c:aL=>c.id) fun c=>rfl) id,adR⟩
 omega
theorem JW(o:OpD)(done:Bool)(s:aq)(x:cC)(id:Txt):iR (fF o done s x).cases id=iR s.cases id∧(fF o done s x).cases.length=s.cases.length:=by
 unfold fF;split
 ·grind [JX]
 ·split
  ·exact⟨rfl,rfl⟩
  grind
end Go.Bf
namespace Go.Proofs.YtfdgemhnlennbaaGreatDoor
open Go Go.Ab Go.Bf
theorem Mj{α:Type}(y:AV)(xs:List AV)(ds:List α)(q:α→Bool)(g:FuncId)(cap:List AV)(h:Heap)(hb:Rd h 7 y xs)(hn:xs.length=ds.length)(hl:xs.length≤1000000000)(hx:∀x∈xs,bC x=true)
  (hp:∀i (h1:i<xs.length) (h2:i<ds.length),ai Tryz.prog g (xs[i]::cap) h fun r h' =>r= .b (q ds[i])∧h' =h):
  ai Tryz.prog 213 [y,.fn g cap] h fun r h' =>r= .i (ixD q ds)∧h' =h:=by
 refine adJ Tryz.func213 19 [.tmp 4] fun hwf=>?_
 simp only[go_sem,hb.len];refine .intro (fun m ρ h' =>h' =h∧∃i:Nat,i≤xs.length∧m=xs.length - i∧(∀j (hj:j<i) (h2:j<ds.length),q ds[j]=false)∧lk ρ 0=some y∧lk ρ 1=some (.fn g cap)∧lk ρ 7=some (.i xs.length)∧lk ρ 8=some (.i i)) xs.length ?_ ?_
 ·refine⟨rfl,0,adK,rfl,fun j hj=>adK,?_,?_,?_,?_⟩<;>simp only[go_sem]
 ·rintro m ρ h' ⟨rfl,i,hi,rfl,hc,r0,r1,r7,r8⟩
  simp only[go_sem,r7,r8];refine .intro (fun e=>?_) (fun e=>?_)
  ·have hlt:i<xs.length:=adH e
   have hlt2:i<ds.length:=adK;have w1:IntKind.i64.wrap ((i:Int)+1)=((i+1:Nat):Int):=adY;simp only[go_sem,r0,r1,r8];refine hb.idx (e:=135) i rfl hlt adV adO fun p hp1=>?_
   have hld:=hp1.all (U:=U) (ty:=135) adO aeE afz;simp only[go_sem,hld];refine(show ai Tryz.prog g (xs[i]::cap) _ _ from hp i hlt hlt2).pthen ?_
   cases d1:q ds[i]
   ·simp only[go_sem,r8,w1]
    refine⟨_,?_,rfl,i+1,adK,rfl,fun j hj h2=>?_,?_,?_,?_,?_⟩
    ·omega
    ·grind
    all_goals simp only[go_sem,r0,r1,r7]
   ·simp only[go_sem]
    exact .same (.refl _) ⟨aet,rfl⟩
  ·have hge:i=xs.length:=by grind
   simp only[go_sem];exact .same (.refl _) ⟨aee,rfl⟩
theorem Mh{α:Type}(y:AV)(xs:List AV)(ds:List α)(q:α→Bool)(g:FuncId)(cap:List AV)(h:Heap)(hb:Rd h 3 y xs)(hn:xs.length=ds.length)(hl:xs.length≤1000000000)(hx:∀x∈xs,bC x=true)
  (hp:∀i (h1:i<xs.length) (h2:i<ds.length),ai Tryz.prog g (xs[i]::cap) h fun r h' =>r= .b (q ds[i])∧h' =h):
  ai Tryz.prog 174 [y,.fn g cap] h fun r h' =>r= .i (ixD q ds)∧h' =h:=by
 refine adJ Tryz.func174 19 [.tmp 4] fun hwf=>?_
 simp only[go_sem,hb.len];refine .intro (fun m ρ h' =>h' =h∧∃i:Nat,i≤xs.length∧m=xs.length - i∧(∀j (hj:j<i) (h2:j<ds.length),q ds[j]=false)∧lk ρ 0=some y∧lk ρ 1=some (.fn g cap)∧lk ρ 7=some (.i xs.length)∧lk ρ 8=some (.i i)) xs.length ?_ ?_
 ·refine⟨rfl,0,adK,rfl,fun j hj=>adK,?_,?_,?_,?_⟩<;>simp only[go_sem]
 ·rintro m ρ h' ⟨rfl,i,hi,rfl,hc,r0,r1,r7,r8⟩
  simp only[go_sem,r7,r8];refine .intro (fun e=>?_) (fun e=>?_)
  ·have hlt:i<xs.length:=adH e
   have hlt2:i<ds.length:=adK;have w1:IntKind.i64.wrap ((i:Int)+1)=((i+1:Nat):Int):=adY;simp only[go_sem,r0,r1,r8];refine hb.idx (e:=131) i rfl hlt adV adO fun p hp1=>?_
   have hld:=hp1.all (U:=U) (ty:=131) adO aeE afz;simp only[go_sem,hld];refine(show ai Tryz.prog g (xs[i]::cap) _ _ from hp i hlt hlt2).pthen ?_
   cases d1:q ds[i]
   ·simp only[go_sem,r8,w1]
    refine⟨_,?_,rfl,i+1,adK,rfl,fun j hj h2=>?_,?_,?_,?_,?_⟩
    ·omega
    ·grind
    all_goals simp only[go_sem,r0,r1,r7]
   ·simp only[go_sem]
    exact .same (.refl _) ⟨aet,rfl⟩
  ·have hge:i=xs.length:=by grind
   simp only[go_sem];exact .same (.refl _) ⟨aee,rfl⟩
theorem JQ(y:AV)(ds:List qw)(q:qw→Bool)(g:FuncId)(cap:List AV)(h:Heap)(hb:Rd h 7 y (ds.map iU))(hl:ds.length≤1000000000)
  (hp:∀i (h2:i<ds.length),ai Tryz.prog g (iU ds[i]::cap) h fun r h' =>r= .b (q ds[i])∧h' =h):
  ai Tryz.prog 166 [y,.fn g cap] h fun r h' =>r= .b (ds.any q)∧h' =h:=by
 refine adJ Tryz.func166 9 [.tmp 4] fun hwf=>?_
 simp only[go_sem];refine(Mj y _ ds q g cap h hb adR adL (o7 (fun _=>rfl) _) fun i a b=>by rw[adB];exact hp i b).pthen ?_
 simp only[go_sem,uX];exact adT
theorem JP(y:AV)(ds:List cC)(q:cC→Bool)(g:FuncId)(cap:List AV)(h:Heap)(hb:Rd h 3 y (ds.map bu))(hl:ds.length≤1000000000)
  (hp:∀i (h2:i<ds.length),ai Tryz.prog g (bu ds[i]::cap) h fun r h' =>r= .b (q ds[i])∧h' =h):
  ai Tryz.prog 118 [y,.fn g cap] h fun r h' =>r= .b (ds.any q)∧h' =h:=by
 refine adJ Tryz.func118 9 [.tmp 4] fun hwf=>?_
 simp only[go_sem];refine(Mh y _ ds q g cap h hb adR adL (o7 (fun _=>rfl) _) fun i a b=>by rw[adB];exact hp i b).pthen ?_
 simp only[go_sem,uX];exact adT
theorem Ga(y:AV)(xs:List AV)(ds:List aL)(q:aL→Bool)(g:FuncId)(cap:List AV)(h:Heap)(hb:Rd h 5 y xs)(hn:xs.length=ds.length)(hl:xs.length≤1000000000)(hx:∀x∈xs,bC x=true)
  (hp:∀i (h1:i<xs.length) (h2:i<ds.length),ai Tryz.prog g (xs[i]::cap) h fun r h' =>r= .b (q ds[i])∧h' =h):
  ai Tryz.prog 124 [y,.fn g cap] h fun r h' =>r= .b (ds.any q)∧h' =h:=by
 refine adJ Tryz.func124 9 [.tmp 4] fun hwf=>?_
 simp only[go_sem];refine(vn y xs ds q g cap h hb hn hl hx hp).pthen ?_;simp only[go_sem,uX];exact adT
theorem Mq{h:Heap}(r:qw){k1 k2:Nat}{subj:Txt}{s:aq}(hk1:h k1=some (.obj [.s subj] 9))(hk2:h k2=some (.obj (sL s) 63))(ht:0≤s.tick∧s.tick≤1099511627776)(hr:0≤r.tick∧r.tick≤1099511627776):
  ai Tryz.prog 167 [iU r,.ptr k1 0,.ptr k2 0] h fun x h' =>x= .b (r.subj==subj && qZ s r)∧h' =h:=by
 have w:IntKind.i64.wrap (s.tick - r.tick)=s.tick - r.tick:=bh _ adK;obtain⟨tick,cs,rv,nt,ro,⟨pid,pset,palg,ptgt,prules,pkids,pobls⟩,ver⟩:=s;simp only[sL]at hk2;simp only at w;refine adJ Tryz.func167 21 [.tmp 4] fun hwf=>?_
 simp only[go_sem,iU];intro i3 h3;have n31:i3≠k1:=fun e=>adL
 have n32:i3≠k2:=fun e=>adL
 cases d1:(r.subj==subj)
 ·simp only[go_sem,ak,n31.symm,hk1,d1]
  exact afZ
 cases d2:r.isOpen
 ·simp only[go_sem,ak,n31.symm,hk1,d1]
  exact .mk _ (.refl _) (.aj h3) ⟨by simp only[qZ,d2];rfl,rfl⟩
 ·simp only[go_sem,ak,n31.symm,n32.symm,hk1,hk2,d1,w]
  exact .mk _ (.refl _) (.aj h3) ⟨by simp only[qZ,d2];rfl,rfl⟩
theorem O5(s:aq)(subj:Txt)(hn:s.reviews.length≤1000000)(ht:0≤s.tick∧s.tick≤1099511627776)(hr:iq s)(h:Heap):ai Tryz.prog 109 [cO s,.s subj] h fun x h' =>x= .b (Mr s subj)∧h' =h:=by
 have hl1:=fun(H:Heap) (k1 k2:Nat) (e1:H k1=some (.obj [.s subj] 9)) (e2:H k2=some (.obj (sL s) 63))=>JQ (kE s.reviews) s.reviews (fun r=>r.subj==subj && qZ s r) 167 [.ptr k1 0,.ptr k2 0] H (eS iU 7 (fun _=>rfl) H _) adK fun i h2=>Mq _ e1 e2 ht (hr _ (adF h2))
 have hst:=vM s;obtain⟨tick,cs,rv,nt,ro,⟨pid,pset,palg,ptgt,prules,pkids,pobls⟩,ver⟩:=s;rw[hst];simp only[sL]at hl1⊢;refine adJ Tryz.func109 9 [.tmp 4] fun hwf=>?_
 simp only[go_sem];intro i2 h2;simp only[go_sem];intro i3 h3;have n32:=aH h3;have n3:=aB h3;have hs:∀x y,Ab.Sub h (upd (upd h i2 x) i3 y):=fun x y=>((Sub.refl h).put h2 x).put n3 y
 simp only[go_sem,ak,n32.symm];refine(hl1 _ i3 i2 (ah ..) (by grind [ag,ah])).pthen ?_
 simp only[go_sem];exact afl
theorem I5(s:aq)(o:OpD)(m:aS)(hm9:M9 m)(hn:s.reviews.length≤1000000)(hro:s.roles.length≤1000000)(ht:0≤s.tick∧s.tick≤1099511627776)(hr:iq s)(h:Heap):ai Tryz.prog 54 [cO s,opA o,aN m] h fun x h' =>x= .b (tE s o m)∧h' =h:=by
 have hla:=fun G=>O5 s o.subj hn ht hr G
 have hha:=fun G=>Gd (rdS G s) o.subj Cq adK
 have hbd:tE s o m=(o.glass && (m==cF||m==naM) && yG s.roles ⟨o.subj,Cq⟩ && !Mr s o.subj):=rfl
 have de:=(nb hm9).de;have na:=(nb hm9).na;have hst:=vM s;obtain⟨tick,cs,rv,nt,ro,⟨pid,pset,palg,ptgt,prules,pkids,pobls⟩,ver⟩:=s;rw[hst]at hla hha⊢;simp only[sL,Cq]at hla hha hbd⊢;refine adJ Tryz.func54 30 [.tmp 6] fun hwf=>?_
 simp only[go_sem,opA,opC,aN];intro i3 h3;simp only[go_sem];intro i4 h4;have n43:=aH h4;have n4:=aB h4;have hs:∀x y,Ab.Sub h (upd (upd h i3 x) i4 y):=fun x y=>((Sub.refl h).put h3 x).put n4 y
 cases dg:o.glass
 ·simp only[go_sem]
  exact .mk _ (.refl _) (hs _ _) ⟨by rw[hbd,dg];rfl,rfl⟩
 cases d1:(m==cF)<;>cases d2:(m==naM)
 case false.false=>
  simp only[go_sem,de,na,d1,d2];exact .mk _ (.refl _) (hs _ _) ⟨by rw[hbd,dg,d1,d2];rfl,rfl⟩
 all_goals
  simp only[go_sem,ak,n43.symm,de,na,d1,d2];refine(hha _).pthen ?_;cases dh:yG ro ⟨o.subj,[103,108,97,115,115]⟩
  ·simp only[go_sem]
   exact .mk _ (.refl _) (hs _ _) ⟨by rw[hbd,dg,d1,d2,dh];rfl,rfl⟩
  ·simp only[go_sem,ak,n43.symm]
   refine(hla _).pthen ?_;simp only[go_sem];exact .mk _ (.refl _) (hs _ _) ⟨by rw[hbd,dg,d1,d2,dh];rfl,rfl⟩
theorem JS{h:Heap}(x:cC){k:Nat}{field:Txt}(hk:h k=some (.obj [.s field] 9)):ai Tryz.prog 119 [bu x,.ptr k 0] h fun r h' =>r= .b (x.kind==2 && x.arg==field)∧h' =h:=by
 refine adJ Tryz.func119 13 [.tmp 3] fun hwf=>?_
 simp only[go_sem,bu];intro i2 h2;have n2:i2≠k:=fun e=>adL
 cases d1:(x.kind==2)
 all_goals
  simp only[go_sem,ak,n2.symm,hk,d1];exact .mk _ (.refl _) (.aj h2) ⟨rfl,rfl⟩
theorem Mb(l:List cC)(hl:l.length≤1000000000)(field:Txt)(h:Heap):ai Tryz.prog 58 [aA l,.s field] h fun r h' =>r= .b (jX l field)∧h' =h:=by
 refine adJ Tryz.func58 8 [.tmp 4] fun hwf=>?_
 simp only[go_sem,aA];intro i3 h3;simp only[go_sem];refine(JP (.sl (l.map bu) .no) l (fun x=>x.kind==2 && x.arg==field) _ [.ptr i3 0] _ (eS bu 3 (fun _=>rfl) _ _) hl fun i h2=>JS _ (ah ..)).pthen ?_
 simp only[go_sem];exact afZ
theorem MT{h:Heap}{x:AV}{c:aL}(hb:RdC h x c):ai Tryz.prog 125 [x] h fun r h' =>r= .b (decide (256<c.log.length))∧h' =h:=by
 obtain⟨f,l,rfl,hf,hl⟩:=hb;have e:decide ((256:Int)<(c.log.length:Int))=decide (256<c.log.length):=by
  grind
 refine adJ Tryz.func125 7 [.tmp 2] fun hwf=>?_
 simp only[go_sem];intro i1 h1;simp only[go_sem,hl.len,adA,e];exact ad1
theorem MV{h:Heap}{x:AV}{s:aq}(hb:RdS h x s)(hc:s.cases.length≤1000000):ai Tryz.prog 62 [x] h fun r h' =>r= .b (sr s)∧h' =h:=by
 obtain⟨y1,y2,y3,y4,rfl,⟨xs,hx,hn,hcs⟩,h2,h3,h4⟩:=hb;have hod:sr s=(decide (256<s.reviews.length)||decide (256<s.notices.length)||s.cases.any fun c=>decide (256<c.log.length)):=rfl
 have e2:decide ((256:Int)<(s.reviews.length:Int))=decide (256<s.reviews.length):=by
  grind
 have e3:decide ((256:Int)<(s.notices.length:Int))=decide (256<s.notices.length):=by
  grind
 have hca:=fun(G:Heap) (hG:Ab.Sub h G)=>Ga y1 xs s.cases (fun c=>decide (256<c.log.length)) 125 [] G (hx.sub hG) hn adK (Ae.agg hn hcs) fun i a b=>MT ((hcs i a b).sub hG)
 cases hpp:s.policy with
 |mk pid pset palg ptgt prules pkids pobls=>
 refine adJ Tryz.func62 18 [.tmp 2] fun hwf=>?_
 simp only[go_sem,gb,aY,List.cons_append,List.nil_append];intro i1 h1;cases d2:decide (256<s.reviews.length)
 case true=>
  simp only[go_sem,h2.len,adA,e2,d2];exact .mk _ (.refl _) (.aj h1) ⟨by rw[hod,d2];rfl,rfl⟩
 cases d3:decide (256<s.notices.length)
 case true=>
  simp only[go_sem,h2.len,h3.len,adA,e2,e3,d2,d3];exact .mk _ (.refl _) (.aj h1) ⟨by rw[hod,d2,d3];rfl,rfl⟩
 simp only[go_sem,h2.len,h3.len,adA,e2,e3,d2,d3];refine(hca _ (.aj h1)).pthen ?_;simp only[go_sem];exact .mk _ (.refl _) (.aj h1) ⟨by rw[hod,d2,d3];rfl,rfl⟩
theorem MA{h:Heap}{x:AV}{c:aL}(hb:RdC h x c){k:Nat}{o:OpD}(hk:h k=some (.obj (opC o) 39)):ai Tryz.prog 176 [x,.ptr k 0] h fun r h' =>r= .b (c.id==o.case)∧h' =h:=by
 obtain⟨f,l,rfl,hf,hl⟩:=hb;simp only[opC]at hk;refine adJ Tryz.func176 9 [.tmp 3] fun hwf=>?_
 simp only[go_sem];exact aia
end Go.Proofs.YtfdgemhnlennbaaGreatDoor
namespace Go.Ab
open Go
theorem OwE.more{tb:TypeId}{g h0 h:Heap}{sz:Nat}{y:AV}{xs:List AV}(hw:OwE tb h0 h sz y xs)(hg:∀id,h0 id=Option.none→h id≠Option.none→g id=Option.none):OwE tb g h sz y xs:=by
 rcases hw with hw|⟨id,e,hw⟩
 ·exact ahJ
 ·exact .inr ⟨id,hg _ e hw.none,hw⟩
end Go.Ab
namespace Go.Proofs.YtfdgemhnlennbaaGreatDoor
open Go Go.Ab Go.Bf
theorem fq.more{g h0 h:Heap}{ys:List AV}{x:AV}{c:aL}(hm:fq h0 h ys x c)(hg:∀id,h0 id=none→h id≠none→g id=none):fq g h ys x c:=by
 obtain⟨f,l,e,a,b,c⟩:=hm;exact⟨f,l,e,a.more hg,b.more hg,c⟩
theorem mq.more{g h0 h:Heap}{ys:List AV}{y:AV}{cs:List aL}{i0:Nat}(ho:mq h0 h ys y cs i0)(hg:∀id,h0 id=none→h id≠none→g id=none):mq g h ys y cs i0:=by
 obtain⟨xs,a,b,c,d⟩:=ho;exact⟨xs,a.more hg,b,c,fun h1 h2=>(d h1 h2).more hg⟩
theorem OwR.more{g h0 h:Heap}{y:AV}{rs:List ij}(hr:OwR h0 h y rs)(hg:∀id,h0 id=none→h id≠none→g id=none):OwR g h y rs:=by
 rcases hr with hr|hr
 ·exact .inl hr
 ·exact .inr (hr.more hg)
theorem iO.more{g h0 h:Heap}{y1 y2 y3 y4:AV}{s:aq}{j:Nat}(ho:iO h0 h y1 y2 y3 y4 s j)(hg:∀id,h0 id=none→h id≠none→g id=none):iO g h y1 y2 y3 y4 s j:=
 {ho with cs:=ho.cs.more hg,rv:=ho.rv.more hg,nt:=ho.nt.more hg,rl:=ho.rl.more hg}
def GSt(g H:Heap)(k:Nat)(s:aq)(j:Nat):Prop:=∃y1 y2 y3 y4,H k=some (.obj (stC s y1 y2 y3 y4) 63)∧iO g H y1 y2 y3 y4 s j∧g k≠none∧∀i b,i≠k→g i=some b→H i=some b
theorem GSt.box{g H:Heap}{k:Nat}{s:aq}{j:Nat}(hG:GSt g H k s j){i:Nat}(hi:H i=none)(b:Blk):GSt (upd g i (some b)) (upd H i (some b)) k s j:=by
 obtain⟨y1,y2,y3,y4,hk,ho,hgk,hfr⟩:=hG;refine⟨y1,y2,y3,y4,ael,(ho.more (g:=upd g i (some b)) fun id h0 hne=>?_).keep fun id _ hne=>ag _ _ fun e=>hne adL,ael,fun q c hq hc=>?_⟩
 ·grind [ag]
 grind [ah,ag]
theorem GSt.unbox{g H:Heap}{k:Nat}{s:aq}{j:Nat}{i:Nat}{b:Blk}(hG:GSt (upd g i (some b)) H k s j)(hi:i≠k)(hgi:g i=none):GSt g H k s j∧H i=some b:=by
 obtain⟨y1,y2,y3,y4,hk,ho,hgk,hfr⟩:=hG;refine⟨⟨y1,y2,y3,y4,hk,ho.bM fun q hq=>?_,ael,fun q c hq hc=>hfr q c hq ?_⟩,hfr i b hi (ah ..)⟩
 ·grind [ag]
 grind [ag]
theorem GSt.base{g H:Heap}{k:Nat}{s:aq}{j:Nat}(hG:GSt g H k s j):∃G,Ab.Sub G H∧(∀i,G i=none↔g i=none)∧∀i,i≠k→G i=g i:=by
 obtain⟨y1,y2,y3,y4,hk,ho,hgk,hfr⟩:=hG;refine⟨upd g k (H k),fun i b hi=>?_,fun i=>?_,fun i hi=>ag _ _ hi⟩
 ·grind [ah,ag]
 grind [ah,ag]
theorem GSt.rd{g H:Heap}{k:Nat}{s:aq}{j:Nat}(hG:GSt g H k s j):∃y1 y2 y3 y4,H k=some (.obj (stC s y1 y2 y3 y4) 63)∧RdS H (.agg (stC s y1 y2 y3 y4)) s:=by
 obtain⟨y1,y2,y3,y4,hk,ho,_⟩:=hG;exact⟨y1,y2,y3,y4,hk,ho.rd⟩
theorem En{g H:Heap}{k:Nat}{s:aq}{j:Nat}(hG:GSt g H k s j)(o:OpD)(w:Txt)(hk64:i64 o.kind)(hn:s.reviews.length≤1000000000):
  ai Tryz.prog 56 [.ptr k 0,opA o,.s w] H fun r H' =>GSt g H' k (cc s o w) j:=by
 obtain⟨G,sG,nG,oG⟩:=hG.base;obtain⟨y1,y2,y3,y4,hk,ho,hgk,hfr⟩:=hG;have ho2:iO G H y1 y2 y3 y4 s j:=ho.bM fun i hi=>(nG i).2 hi
 have w1:IntKind.i64.wrap ((s.reviews.length:Int)+1)=(s.reviews.length:Int)+1:=bh _ adK;obtain⟨pid,pset,palg,ptgt,prules,pkids,pobls,hpp⟩:∃a b c d e f g,s.policy= .mk a b c d e f g:=by cases s.policy;simp
 have hst:∀z,stC (cc s o w) y1 z y3 y4= [.i s.tick,y1,z,y3,y4,.s pid,.b pset,.i palg,aV ptgt,.sl (prules.map aC) .no,.sl (pkids.map aM) .no,aA pobls,.i s.version]:=fun z=>by simp[stC,cc,hpp,gb,aY]
 have hst0:stC s y1 y2 y3 y4= [.i s.tick,y1,y2,y3,y4,.s pid,.b pset,.i palg,aV ptgt,.sl (prules.map aC) .no,.sl (pkids.map aM) .no,aA pobls,.i s.version]:=ahx;rw[hst0]at hk;refine adJ Tryz.func56 34 [] fun hwf=>?_
 simp only[go_sem,opA,opC];intro i4 h4;have n4k:i4≠k:=fun e=>adL
 simp only[go_sem];obtain⟨K,eK⟩:∃K,upd H i4 (some (.obj [.i o.kind,.s o.subj,.s o.case,.s o.field,.s o.to,.i o.val.kind,.i o.val.n,.s o.val.s,.i o.review,.s o.text,.s o.reason,.b o.glass] 39))=K:=⟨_,rfl⟩;have sK:Ab.Sub H K:=by rw[←eK];exact .aj h4
 have k4:K i4=some (.obj [.i o.kind,.s o.subj,.s o.case,.s o.field,.s o.to,.i o.val.kind,.i o.val.n,.s o.val.s,.i o.review,.s o.text,.s o.reason,.b o.glass] 39):=by rw[←eK,ah]
 have kk:=sK _ _ hk;have hoK:iO G K y1 y2 y3 y4 s j:=ho2.keep fun id _ hne=>by rw[←eK];grind [ag]
 rw[eK];have p4:=(bD (H:=K) (l:=[k,i4]) (show i4∈ [k,i4] by simp)).trans k4
 have pk:=(bD (H:=K) (l:=[k,i4]) (show k∈ [k,i4] by simp)).trans kk
 refine .stage (pick K [k,i4]) [0,1,2,3,4,5,6,7,8,9,10,11,12,13,14,15,16,17,18,19,20,22,21,23,24,25,26,27] [28] bA adN ?_;simp only[go_sem,pk,p4,hoK.rv.rd.len,adA,w1];refine(rJ o.kind hk64 _).pthen ?_;refine⟨bA,?_⟩;simp only[go_sem];have hap1:Rd K 7 (.sl [iU (BH s o w)] .full) [iU (BH s o w)]:=.sl aew .full;refine OwE.app (U:=U) (tb:=135) hoK.rv (sG.trans sK) hap1 adV adO adO adV adR aei fun id y' K2 hid hor how hoth=>?_
 have hor' :K id=none∨nid y2=some id:=by
  rcases hor with hor|⟨l,c,ey⟩
  ·grind
  ·exact .inr ahC
 have nik:k≠id:=fun e=>hgk ((nG k).1 adL)
 have ni4:i4≠id:=by
  rcases hor' with hor|hor
  ·grind
  ·exact fun e=>(ho2.rv.nid hor).2.1 adL
 have m4:=(hoth i4 ni4).trans k4;have mk:=(hoth k nik).trans kk;refine⟨iT fun q hq=>?_,?_⟩
 ·grind
 simp only[go_sem];refine⟨cH,fun _ _ e=>ad8,?_⟩
 simp only[go_sem,mk,how.rd.fit,how.rd.cells];refine⟨fun _ _ e=>ad8,?_⟩
 refine .same (.refl _) ⟨y1,y',y3,y4,ahO,iO.bM (h0:=G) ?_ fun i hi=>(nG i).1 hi,hgk,fun i b hi hb=>?_⟩
 ·refine hoK.revs (rs:=s.reviews++ [BH s o w]) (.inr ⟨id,hid,by rw[List.map_append];exact how.same (ag _ _ nik.symm)⟩) (fun q hq=>?_) fun q hq hne hz=>?_
  ·have:id=q:=by have:=how.nid;rw[hq]at this;exact(Option.some.inj this).symm
   rw[←this];exact hor'
  grind [ag]
 ·have n2:i≠id:=fun e=>by
   grind
  rw[ag _ _ hi,hoth i n2];exact sK _ _ (hfr i b hi hb)
end Go.Proofs.YtfdgemhnlennbaaGreatDoor
namespace Go.Bf
open Go Go.Ab Go.Proofs.YtfdgemhnlennbaaGreatDoor
theorem Ea{s:aq}{o:OpD}{w:Txt}(h:¬(iR s.cases o.case<s.cases.length∧o.kind≠6)):iX s o w=s:=by simp_all [iX,if_neg]
theorem MB{s:aq}{o:OpD}{w:Txt}{j:Nat}(h1:iR s.cases o.case<s.cases.length)(h2:o.kind≠6)(e:iR s.cases o.case=j):iX s o w= {s with cases:=s.cases.modify j fun c=>jA s c o.subj w}:=by simp_all [iX,if_pos]
end Go.Bf
namespace Go.Proofs.YtfdgemhnlennbaaGreatDoor
open Go Go.Ab Go.Bf
theorem MC{g H:Heap}{k:Nat}{s:aq}{j:Nat}(hG:GSt g H k s j)(o:OpD)(w:Txt)(hc:s.cases.length≤1000000)(hl:∀c∈s.cases,c.log.length≤1000000000)(hj:iR s.cases o.case<s.cases.length→o.kind≠6→j=iR s.cases o.case):
  ai Tryz.prog 123 [.ptr k 0,opA o,.s w] H fun r H' =>GSt g H' k (iX s o w) j:=by
 obtain⟨G,sG,nG,oG⟩:=hG.base;obtain⟨y1,y2,y3,y4,hk,ho,hgk,hfr⟩:=hG;have ho2:iO G H y1 y2 y3 y4 s j:=ho.bM fun i hi=>(nG i).2 hi
 obtain⟨pid,pset,palg,ptgt,prules,pkids,pobls,hpp⟩:∃a b c d e f g,s.policy= .mk a b c d e f g:=by cases s.policy;exact⟨_,_,_,_,_,_,_,rfl⟩
 have hst0:stC s y1 y2 y3 y4= [.i s.tick,y1,y2,y3,y4,.s pid,.b pset,.i palg,aV ptgt,.sl (prules.map aC) .no,.sl (pkids.map aM) .no,aA pobls,.i s.version]:=ahx;rw[hst0]at hk;refine adJ Tryz.func123 44 [] fun hwf=>?_
 simp only[go_sem,opA,opC];intro i4 h4;have n4k:i4≠k:=fun e=>by rw[e,hk]at h4;cases h4
 obtain⟨K,eK⟩:∃K,upd H i4 (some (.obj [.i o.kind,.s o.subj,.s o.case,.s o.field,.s o.to,.i o.val.kind,.i o.val.n,.s o.val.s,.i o.review,.s o.text,.s o.reason,.b o.glass] 39))=K:=⟨_,rfl⟩;have sK:Ab.Sub H K:=by rw[←eK];exact .aj h4
 have k4:K i4=some (.obj [.i o.kind,.s o.subj,.s o.case,.s o.field,.s o.to,.i o.val.kind,.i o.val.n,.s o.val.s,.i o.review,.s o.text,.s o.reason,.b o.glass] 39):=by rw[←eK,ah]
 have kk:=sK _ _ hk;have hoK:iO G K y1 y2 y3 y4 s j:=ho2.keep fun id _ hne=>by rw[←eK];exact ag _ _ fun e=>hne (by rw[e];exact h4)
 have hfin:GSt g K k s j:=⟨y1,y2,y3,y4,by rw[hst0];exact kk,hoK.bM fun i hi=>(nG i).1 hi,hgk,fun i b hi hb=>sK _ _ (hfr i b hi hb)⟩
 have hix:ai Tryz.prog 159 [y1,.fn 176 [.ptr i4 0]] K fun r h' =>r= .i (ixD (fun c:aL=>c.id==o.case) s.cases)∧h' =K:=by
  obtain⟨xs,hx,hn,hcs⟩:=hoK.cs.rd;exact vn y1 xs s.cases (fun c=>c.id==o.case) _ [.ptr i4 0] K hx hn adK (Ae.agg hn hcs) fun i a b=>MA (hcs i a b) k4
 have hcsK:=hoK.cs;have n4G:∀id,G id=none→K id≠none→id≠i4→H id=K id:=fun id _ _ h=>by rw[←eK,ag _ _ h]
 simp only[go_sem,ak,n4k.symm,hk];rw[eK];refine hix.pthen ?_
 by_cases hx:iR s.cases o.case<s.cases.length
 case neg=>
  have e1:ixD (fun c:aL=>c.id==o.case) s.cases= -1:=if_neg hx
  have d1:decide ((-1:Int)<0)=true:=rfl;rw[e1];simp only[go_sem,d1];exact .same (.refl _) (by rw[Ea fun h=>hx h.1];exact hfin)
 have e1:ixD (fun c:aL=>c.id==o.case) s.cases=(iR s.cases o.case:Nat):=if_pos hx
 have d1:decide (((iR s.cases o.case:Nat):Int)<0)=false:=decide_eq_false adK;rw[e1];cases d6:(o.kind==6)
 case true=>
  have h6:o.kind=6:=by simpa using d6
  simp only[go_sem,d1,k4,d6];exact .same (.refl _) (by rw[Ea fun h=>h.2 h6];exact hfin)
 have h6:o.kind≠6:=by simpa using d6
 have hjj:=hj hx h6;have hlo:=MB (w:=w) hx h6 hjj.symm;have hjc:j<s.cases.length:=by rw[hjj];exact hx
 rw[←hjj]at d1⊢;rw[hlo];obtain⟨xs,w1,hnx,hlw,hmy⟩:=hcsK;have hjx:j<xs.length:=adK;obtain⟨f,l,ex,of,ol,hap,hys⟩:=hmy hjx hjc;obtain⟨id1,hg1,o1⟩:=w1.ow agD;have o1' :=o1;obtain⟨cap,rest,ey,hid,hrl,hcap,hsz⟩:=o1';have lA:j*5=(au (xs.take j)).length:=aeP;have hidK:K id1=some (.obj (au (xs.take j)++(cg s.cases[j] f l++(au (xs.drop (j+1))++rest))) 122):=by
  rw[hid,Cn hjx,ex];simp[cg,AV.cells]
 have n1k:id1≠k:=mg o1 kk adO;have n14:id1≠i4:=mg o1 k4 adO;have hll:=hl _ (adF hjc);have p4:=(bD (H:=K) (l:=[k,i4,id1]) (show i4∈ [k,i4,id1] by simp)).trans k4
 have pk:=(bD (H:=K) (l:=[k,i4,id1]) (show k∈ [k,i4,id1] by simp)).trans kk
 have p1:=(bD (H:=K) (l:=[k,i4,id1]) (show id1∈ [k,i4,id1] by simp)).trans hidK
 have hc4:(au (xs.take j)++(cg s.cases[j] f l++(au (xs.drop (j+1))++rest)))[j*5+4]? =some l:=by rw[lA,List.getElem?_append_right adK,Nat.add_sub_cancel_left];rfl
 obtain⟨CS,eCS⟩:∃CS,au (xs.take j)++(cg s.cases[j] f l++(au (xs.drop (j+1))++rest))=CS:=⟨_,rfl⟩;rw[eCS]at hc4 p1 hidK;simp only[go_sem,d1,k4,d6,kk];refine o1.idx (U:=U) (e:=122) j rfl hjx oe adO ?_;simp only[go_sem];refine .stage (pick K [k,i4,id1]) [0,1,2,3,4,5,6,7,8,9,10,11,12,13,14,15,16] [17] bA adN ?_;simp only[go_sem,pk,p4,p1,hc4];have hap1:Rd K 3 (.sl [iQ ⟨s.tick,o.subj,w⟩] .full) [iQ ⟨s.tick,o.subj,w⟩]:=.sl aew .full;refine OwE.app (U:=U) (tb:=191) ol (sG.trans sK) hap1 adU adO adP adU adR aei fun id2 y' K2 g2 hor how hoth=>?_
 have hor' :K id2=none∨nid l=some id2:=by
  exact aiu
 have n2:∀ {q b t},K q=some (.obj b t)→t≠191→q≠id2:=fun {q b t} hq ht e=>by
  rcases hor' with h|h
  ·rw[e,h]at hq;cases hq
  ·exact mg (ol.nid h).2.2 hq ht e.symm
 have m4:=(hoth i4 (n2 k4 adO)).trans k4;have mk:=(hoth k (n2 kk adO)).trans kk;have m1:=(hoth id1 (n2 hidK adO)).trans hidK;refine⟨iT fun q hq=>?_,?_⟩
 ·simp only[List.mem_cons,List.not_mem_nil,or_false]at hq
  rcases hq with rfl|rfl|rfl
  ·rw[mk,kk]
  ·rw[m4,k4]
  ·rw[m1,hidK]
 simp only[go_sem];refine⟨cH,fun _ _ e=>ad8,?_⟩
 simp only[go_sem,m1,how.rd.fit,how.rd.cells];have e5:List.take (j*5+4) CS++ [y']++List.drop (j*5+4+1) CS=au (xs.take j)++(cg s.cases[j] f y' ++(au (xs.drop (j+1))++rest)):=by
  have:=pL (A:=au (xs.take j)++ [.s s.cases[j].id,.s s.cases[j].owner,.s s.cases[j].state,f]) (B:=[l]) (C:=au (xs.drop (j+1))++rest) (X:=[y']) (k:=j*5+4) (m:=1) (by rw[lA];simp) rfl rfl
  exact ajv
 rw[e5];refine⟨by rw[←eCS];simp only[adE,←lA,cg,List.length_cons,List.length_nil];omega,(fun _ _ e=>ad8),?_⟩
 obtain⟨F,eF⟩:∃F,upd K2 id1 (some (.obj (au (xs.take j)++(cg s.cases[j] f y' ++(au (xs.drop (j+1))++rest))) 122))=F:=⟨_,rfl⟩;have kF:∀q,q≠id1→q≠id2→F q=K q:=fun q a b=>by rw[←eF,ag _ _ a,hoth q b]
 have kF' :∀q,K q≠none→q≠id1→nid l≠some q→F q=K q:=fun q a b c=>kF q b fun e=>by
  rcases hor' with h|h
  ·exact a (by rw[e];exact h)
  ·exact c (by rw[e];exact h)
 have hF1:F id1=some (.obj (au (xs.take j)++(cg s.cases[j] f y' ++(au (xs.drop (j+1))++rest))) 122):=by rw[←eF,ah]
 have n12:id1≠id2:=n2 hidK adO;have hX5:Sized 5 (xs.set j (.agg (cg s.cases[j] f y'))):=fun z hz=>by
  exact aiB
 have hOw:Ow 122 F 5 id1 y1 (xs.set j (.agg (cg s.cases[j] f y'))):=⟨cap,rest,af0,by rw[hF1,tO hjx];simp[AV.cells],agV,afT,hX5⟩
 have hl' :OwE 191 G F 3 y' ((s.cases[j].log++ [(⟨s.tick,o.subj,w⟩:xR)]).map iQ):=by
  rw[List.map_append];exact .inr ⟨id2,g2,how.same (by rw[←eF,ag _ _ n12.symm])⟩
 have hny:∀q,nid y' =some q→q=id2:=fun q hq=>by have:=how.nid;rw[hq]at this;exact Option.some.inj this
 have nf1:nid f≠some id1:=fun e=>(hys y1 adR).1 id1 e o1.nid
 have hof:OwE 201 G F 4 f (s.cases[j].fields.map bO):=of.keep fun q e=>kF' q (of.nid e).2.1 (fun e' =>nf1 (by rw[←e'];exact e)) (hap q e)
 have hnid:∀ {y:AV},y∈ [y1,y2,y3,y4]→∀q,nid y=some q→K q≠none:=fun hy q e=>(hoK.mem hy e).2
 have hap2:∀ {y:AV},y∈ [y1,y2,y3,y4]→apart y' y:=fun {y} hy q e1 e2=>by
  have:=hny q e1;subst this;rcases hor' with h|h
  ·exact hnid hy _ e2 h
  ·exact(hys y hy).2 _ h e2
 have hkp:∀ {y:AV},y∈ [y2,y3,y4]→apart y1 y→∀q,nid y=some q→F q=K q:=fun {y} hy ha q e=>by
  have hy' :y∈ [y1,y2,y3,y4]:=List.mem_cons_of_mem _ hy;refine kF' q (hnid hy' q e) (fun e' =>ha id1 o1.nid (by rw[←e'];exact e)) fun e' =>(hys y hy').2 q e' e
 rw[eF];refine .same (.refl _) ⟨y1,y2,y3,y4,?_,iO.bM (h0:=G) ?_ fun i hi=>(nG i).1 hi,hgk,fun i b hi hb=>?_⟩
 ·rw[kF k n1k.symm (n2 kk adO),kk]
  simp[stC,hpp,gb,aY]
 ·refine⟨CG (X:=.agg (cg s.cases[j] f y')) (.inr ⟨id1,hg1,hOw⟩) hnx (fun q h1 h2 hq=>hlw q h1 h2 hq) fun hh=>⟨f,y',rfl,hof,hl',fun q e1 e2=>?_,fun y hy=>⟨(hys y hy).1,hap2 hy⟩⟩,hoK.rv.keep (hkp adR hoK.a12),hoK.nt.keep (hkp adR hoK.a13),hoK.rl.keep (hkp adR hoK.a14),hoK.a12,hoK.a13,hoK.a14,hoK.a23,hoK.a24,hoK.a34⟩
  have:=hny q e2;subst this;rcases hor' with h|h
  ·exact(of.nid e1).2.1 h
  ·exact hap _ e1 h
 ·have hGi:G i=some b:=by rw[oG i hi];exact hb
  rw[kF i (fun e=>by rw[e,hg1]at hGi;cases hGi) (fun e=>by rw[e,g2]at hGi;cases hGi)]
  exact sK _ _ (hfr i b hi hb)
end Go.Proofs.YtfdgemhnlennbaaGreatDoor
