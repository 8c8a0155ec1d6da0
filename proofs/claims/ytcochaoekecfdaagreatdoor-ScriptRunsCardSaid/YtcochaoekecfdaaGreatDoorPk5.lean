/- The law ScriptRuns: pack 5 of its texts. -/
import Derived.Lib.ItoaLen
import Derived.Test.YtcochaoekecfdaaGreatDoorPk1
import Derived.Test.YtcochaoekecfdaaGreatDoorPk2
import Derived.Test.YtcochaoekecfdaaGreatDoorPk3
import Derived.Test.YtcochaoekecfdaaGreatDoorPk4
set_option linter.unusedSimpArgs false
set_option linter.unusedVariables false
set_option maxRecDepth 100000
namespace Go.Proofs.YtcochaoekecfdaaGreatDoor
open Go Go.Ab Go.Bf
theorem Eh{l:List gV}{subj:Txt}{i:Nat}(h:i<l.length)(h1:l[i].subj=subj)(h2:(cU (l.take i) subj).length<16):cU (l.take (i+1)) subj=cU (l.take i) subj++ [idV l[i].role]:=by
 unfold cU at h2⊢;rw[List.take_succ_eq_append_getElem h,List.filter_append,List.map_append]
 grind [List.length_take,idV,List.take_append,List.take_of_length_le]
theorem zg{l:List gV}{subj:Txt}{i:Nat}(h:i<l.length)(h1:l[i].subj≠subj∨¬(cU (l.take i) subj).length<16):cU (l.take (i+1)) subj=cU (l.take i) subj:=by
 grind [cU,List.take_succ_eq_append_getElem,List.take_append,List.length_take]
theorem Gb(l:List gV)(subj:Txt):(cU l subj).length≤16:=by grind [cU,List.length_take]
def cJ(s:an)(o:OpD):List bn:=[⟨1,idT,[idV o.subj]⟩,⟨1,[114,111,108,101],cU s.roles o.subj⟩,⟨2,[110,97,109,101],[idV (iE o.kind)]⟩]
theorem xZ{s:an}(hf:Few s)(id:Txt):(bw s.cases id).log.length≤1000000∧(bw s.cases id).fields.length≤1000000:=by
 cases e:bX s.cases id
 ·rw[CL e];decide
 ·rw[CK e];exact⟨hf.log _ acD,hf.fields _ acD⟩
theorem CF(c:aK)(subj:Txt):(cB c subj).length≤6+c.fields.length:=by
 grind [qc,acn,sr,fK,aci,List.length_filter_le,sn]
theorem jv{h G:Heap}{i:Nat}(hs:Ab.Sub h G)(hi:G i=none):h i=none:=hs.none hi
theorem Cp:(U 30).sz=3:=acK
theorem QB{h:Heap}{x:AV}{s:an}(hb:RdS h x s)(o:OpD)(hf:Few s)(hk:i64 o.kind):ai Tryz.prog 70 [x,opA o] h fun r h' =>r=bH (fE s o)∧h' =h:=by
 have hca:=fun(G:Heap) (hG:Ab.Sub h G)=>BL (hb.sub hG) o.case hf
 obtain⟨y1,y2,y3,y4,rfl,⟨xs,hc,hn,hcs⟩,h2,h3,h4⟩:=hb;cases hpp:s.policy with
 |mk pid pset palg ptgt prules pkids pobls=>
 have hcC:fT (.mk pid pset palg ptgt prules pkids pobls)= [.s pid,.b pset,.i palg,aU ptgt,.sl (prules.map aB) .no,.sl (pkids.map aL) .no,az pobls]:=afC;rw[hpp,hcC]at hca;simp only[List.cons_append,List.nil_append]at hca;have hfr:=hf.roles;refine acs Tryz.func70 99 [.tmp 4] fun hwf=>?_
 simp only[go_sem,hcC,opA,opC,List.cons_append,List.nil_append];intro i1 h1;simp only[go_sem];intro i2 h2';have n21:=aF h2';have n2:=aA h2';simp only[go_sem,ak,n21.symm,h4.len,aci];obtain⟨H,eH⟩:∃H,upd (upd h i1 (some (.obj [.i s.tick,y1,y2,y3,y4,.s pid,.b pset,.i palg,aU ptgt,.sl (prules.map aB) .no,.sl (pkids.map aL) .no,az pobls,.i s.version] 67))) i2 (some (.obj (opC o) 32))=H:=⟨_,rfl⟩;have hH:Ab.Sub h H:=adv;have g1:H i1=some (.obj [.i s.tick,y1,y2,y3,y4,.s pid,.b pset,.i palg,aU ptgt,.sl (prules.map aB) .no,.sl (pkids.map aL) .no,az pobls,.i s.version] 67):=ad6;have g2:H i2=some (.obj (opC o) 32):=adX;simp only[opC]at eH g2;rw[eH];clear eH;refine .intro (fun m ρ G=>∃(i:Nat) (y:AV),Acc U 30 H G y ((cU (s.roles.take i) o.subj).map aO)∧i≤s.roles.length∧m=s.roles.length - i∧lk ρ 5=some y∧lk ρ 2=some (.ptr i1 0)∧lk ρ 3=some (.ptr i2 0)∧lk ρ 12=some y4∧lk ρ 13=some (.i s.roles.length)∧lk ρ 14=some (.i i)) s.roles.length ?_ ?_
 ·refine⟨0,_,.full (.refl _),acu,rfl,?_,?_,?_,?_,?_,?_⟩<;>simp only[go_sem,cU,List.take_zero,List.filter_nil,List.map_nil]
 ·rintro m ρ G ⟨i,y,hy,hi,rfl,r5,r2,r3,r12,r13,r14⟩
  have k1:=hy.1 _ _ g1;have k2:=hy.1 _ _ g2;simp only[go_sem,r13,r14];refine .intro (fun e=>?_) (fun e=>?_)
  ·have hlt:i<s.roles.length:=acq e
   have w1:=acp i acu;simp only[go_sem,r12,r14];refine(h4.sub (hH.trans hy.1)).idx (e:=149) i rfl acU HW acz fun p hp1=>?_
   have hld:=hp1.all (U:=U) (ty:=149) acF (by rw[HW,acj];rfl) ada
   simp only[go_sem,hld,acj,eD];intro i7 h7;have n71:i1≠i7:=fun e=>by rw[←e,k1]at h7;cases h7
   have n72:i2≠i7:=fun e=>by rw[←e,k2]at h7;cases h7
   simp only[go_sem,ak,n72,k2,r3];have hy7:=hy.sub (.aj h7 (k:=some (.obj [.s s.roles[i].subj,.s s.roles[i].role] 149)));have lr:=Gb (s.roles.take i) o.subj;cases d1:(s.roles[i].subj==o.subj)
   ·have p1:s.roles[i].subj≠o.subj:=by simpa using d1
    simp only[go_sem,r14,w1];refine⟨_,?_,i+1,y,by rw[zg hlt (.inl p1)];exact hy7,acu,rfl,?_,?_,?_,?_,?_,?_⟩
    ·omega
    all_goals simp only[go_sem,r5,r2,r3,r12,r13]
   ·have p1:s.roles[i].subj=o.subj:=by simpa using d1
    simp only[go_sem,r5,hy.len,aci];cases d2:decide (((cU (s.roles.take i) o.subj).length:Int)<16)
    ·have p2:¬(cU (s.roles.take i) o.subj).length<16:=by have:=acm d2;omega
     simp only[go_sem,r14,w1];refine⟨_,?_,i+1,y,by rw[zg hlt (.inr p2)];exact hy7,acu,rfl,?_,?_,?_,?_,?_,?_⟩
     ·omega
     all_goals simp only[go_sem,r5,r2,r3,r12,r13]
    ·have p2:(cU (s.roles.take i) o.subj).length<16:=by have:=ack d2;omega
     simp only[go_sem,r5];refine(rQ _ _).pthen ?_;simp only[go_sem,aO,idV];refine hy7.app (zs:=[aO (idV s.roles[i].role)]) (by rw[Cp];decide) acA (fun k hk=>(Rd.sl (fun z hz=>afr) .full:Rd _ 3 _ _).src Cp hk) (by rw[Cp];exact bu (f:=aO) (fun _=>rfl) _) (by rw[Cp];exact bu (f:=aO) (fun _=>rfl) [idV s.roles[i].role]) adL fun y' H' hy' kp=>?_
     simp only[go_sem,r14,w1];refine⟨_,?_,i+1,y',by rw[Eh hlt p1 p2,List.map_append];exact hy',acu,rfl,?_,?_,?_,?_,?_,?_⟩
     ·omega
     all_goals simp only[go_sem,r2,r3,r12,r13]
  ·have hge:i=s.roles.length:=by have:=acm e;omega
   subst hge;rw[List.take_length]at hy;simp only[go_sem];obtain⟨q5,rfl⟩:=hy.row;refine .quiet acw ?_;simp only[go_sem,k2,r3];refine⟨_,rQ _ _,?_⟩;simp only[go_sem,aO,idV];refine⟨_,dL _ _ _ _ _,?_⟩;simp only[go_sem,r5];refine⟨_,dL _ _ _ _ _,?_⟩;simp only[go_sem,k2,r3];refine⟨_,uv _ hk _,?_⟩;simp only[go_sem];refine⟨_,rQ _ _,?_⟩;simp only[go_sem,aO,idV];refine⟨_,dL _ _ _ _ _,?_⟩;simp only[go_sem,k2,r3];have hak:=fun(G:Heap)=>EW (h:=G) (bw s.cases o.case) o.subj (xZ hf o.case).1 (xZ hf o.case).2
   simp only[cp,ng,gq,su]at hak;have hakl:=CF (bw s.cases o.case) o.subj;have hakf:=(xZ hf o.case).2;have hr0:GRow [.agg [.i 1,.s [105,100],.sl [.agg [.i 5,.i 0,.s o.subj]] .full],.agg [.i 1,.s [114,111,108,101],.sl ((cU s.roles o.subj).map aO) q5],.agg [.i 2,.s [110,97,109,101],.sl [.agg [.i 5,.i 0,.s (iE o.kind)]] .full]] (cJ s o):=(GRow.one ⟨1,idT,[idV o.subj]⟩ .full).app ((GRow.one ⟨1,[114,111,108,101],cU s.roles o.subj⟩ q5).app (GRow.one ⟨2,[110,97,109,101],[idV (iE o.kind)]⟩ .full))
   by_cases pf:o.field= []
   ·have df:(o.field==([]:Txt))=true:=by simp[pf]
    simp only[go_sem,k2,r3,df]
    by_cases pt:o.to= []
    ·have dt:(o.to==([]:Txt))=true:=by simp[pt]
     simp only[go_sem,k1,r2,dt];refine(dL _ _ _ _ _).pthen ?_;simp only[go_sem];refine .accs hy.1 fun y1 G1 hy1 kp1=>?_
     have k1_1:=kp1 _ _ _ k1;have k2_1:=kp1 _ _ _ k2;have hr1:=hr0.app (GRow.one (⟨4,[110,111,119],[⟨4,s.tick,[]⟩]⟩:bn) .full);simp only[go_sem,k1_1,k2_1,r2,r3];refine(hca _ (hH.trans hy1.1)).pthen ?_;simp only[go_sem,cp,ng,gq,su];intro i20 h20;have n21:i1≠i20:=fun e=>by rw[←e,k1_1]at h20;cases h20
     have n22:i2≠i20:=fun e=>by rw[←e,k2_1]at h20;cases h20
     simp only[go_sem];obtain⟨q2,eq2⟩:=hy1.row;cases dth:bX s.cases o.case
     ·simp only[go_sem]
      exact .mk (bH (fE s o)) (show Weak y1 _ by rw[eq2,show fE s o=(cJ s o++ [(⟨4,[110,111,119],[⟨4,s.tick,[]⟩]⟩:bn)]) by simp[fE,cJ,dth,pf,pt]];exact hr1.weak q2) ((hH.trans hy1.1).put (jv (hH.trans hy1.1) h20) _) ⟨rfl,rfl⟩
     ·simp only[go_sem,ak,n22,k2_1,r3]
      by_cases p6:o.kind=6
      ·have d6:(o.kind !=6)=false:=by simp[p6]
       simp only[go_sem,d6];exact .mk (bH (fE s o)) (show Weak y1 _ by rw[eq2,show fE s o=(cJ s o++ [(⟨4,[110,111,119],[⟨4,s.tick,[]⟩]⟩:bn)]) by simp[fE,cJ,dth,p6,pf,pt]];exact hr1.weak q2) ((hH.trans hy1.1).put (jv (hH.trans hy1.1) h20) _) ⟨rfl,rfl⟩
      ·have d6:(o.kind !=6)=true:=by simp[p6]
       simp only[go_sem,ak,n22,k2_1,r3,d6];refine(hak _).pthen ?_;simp only[go_sem,bH];refine(hy1.sub (.aj h20)).app (zs:=(cB (bw s.cases o.case) o.subj).map kT) aeO acA (fun k hk=>(eP kT 3 (fun _=>rfl) _ _).src cq hk) (by rw[cq];exact hr1.sized) ad9 adp fun yz Gz hyz kpz=>?_
       simp only[go_sem];obtain⟨qz,eqz⟩:=hyz.row;exact .mk (bH (fE s o)) (show Weak yz _ by rw[eqz,show fE s o=(cJ s o++ [(⟨4,[110,111,119],[⟨4,s.tick,[]⟩]⟩:bn)])++cB (bw s.cases o.case) o.subj by simp[fE,cJ,dth,p6,pf,pt]];exact(hr1.app (GRow.givs _)).weak qz) (hH.trans hyz.1) ⟨rfl,rfl⟩
    ·have dt:(o.to==([]:Txt))=false:=by simp[pt]
     simp only[go_sem,k2,r3,dt];refine(rQ _ _).pthen ?_;simp only[go_sem,aO,idV];refine(dL _ _ _ _ _).pthen ?_;simp only[go_sem];refine .accs hy.1 fun y3 G3 hy3 kp3=>?_
     have k1_3:=kp3 _ _ _ k1;have k2_3:=kp3 _ _ _ k2;have hr3:=hr0.app (GRow.one (⟨2,[116,111],[idV o.to]⟩:bn) .full);simp only[go_sem,k1_3,r2];refine(dL _ _ _ _ _).pthen ?_;simp only[go_sem];refine hy3.app (zs:=[zM (⟨4,[110,111,119],[⟨4,s.tick,[]⟩]⟩) .full]) aeO acA (fun k hk=>(Rd.sl (fI _ _) .full:Rd _ 3 _ _).src cq hk) (by rw[cq];exact hr3.sized) af0 adx fun y4 G4 hy4 kp4=>?_
     have k1_4:=kp4 _ _ _ k1_3;have k2_4:=kp4 _ _ _ k2_3;have hr4:=hr3.app (GRow.one (⟨4,[110,111,119],[⟨4,s.tick,[]⟩]⟩:bn) .full);simp only[go_sem,k1_4,k2_4,r2,r3];refine(hca _ (hH.trans hy4.1)).pthen ?_;simp only[go_sem,cp,ng,gq,su];intro i50 h50;have n51:i1≠i50:=fun e=>by rw[←e,k1_4]at h50;cases h50
     have n52:i2≠i50:=fun e=>by rw[←e,k2_4]at h50;cases h50
     simp only[go_sem];obtain⟨q5,eq5⟩:=hy4.row;cases dth:bX s.cases o.case
     ·simp only[go_sem]
      exact .mk (bH (fE s o)) (show Weak y4 _ by rw[eq5,show fE s o=((cJ s o++ [(⟨2,[116,111],[idV o.to]⟩:bn)])++ [(⟨4,[110,111,119],[⟨4,s.tick,[]⟩]⟩:bn)]) by simp[fE,cJ,dth,pf,pt]];exact hr4.weak q5) ((hH.trans hy4.1).put (jv (hH.trans hy4.1) h50) _) ⟨rfl,rfl⟩
     ·simp only[go_sem,ak,n52,k2_4,r3]
      by_cases p6:o.kind=6
      ·have d6:(o.kind !=6)=false:=by simp[p6]
       simp only[go_sem,d6];exact .mk (bH (fE s o)) (show Weak y4 _ by rw[eq5,show fE s o=((cJ s o++ [(⟨2,[116,111],[idV o.to]⟩:bn)])++ [(⟨4,[110,111,119],[⟨4,s.tick,[]⟩]⟩:bn)]) by simp[fE,cJ,dth,p6,pf,pt]];exact hr4.weak q5) ((hH.trans hy4.1).put (jv (hH.trans hy4.1) h50) _) ⟨rfl,rfl⟩
      ·have d6:(o.kind !=6)=true:=by simp[p6]
       simp only[go_sem,ak,n52,k2_4,r3,d6];refine(hak _).pthen ?_;simp only[go_sem,bH];refine(hy4.sub (.aj h50)).app (zs:=(cB (bw s.cases o.case) o.subj).map kT) aeO acA (fun k hk=>(eP kT 3 (fun _=>rfl) _ _).src cq hk) (by rw[cq];exact hr4.sized) ad9 adp fun yz Gz hyz kpz=>?_
       simp only[go_sem];obtain⟨qz,eqz⟩:=hyz.row;exact .mk (bH (fE s o)) (show Weak yz _ by rw[eqz,show fE s o=((cJ s o++ [(⟨2,[116,111],[idV o.to]⟩:bn)])++ [(⟨4,[110,111,119],[⟨4,s.tick,[]⟩]⟩:bn)])++cB (bw s.cases o.case) o.subj by simp[fE,cJ,dth,p6,pf,pt]];exact(hr4.app (GRow.givs _)).weak qz) (hH.trans hyz.1) ⟨rfl,rfl⟩
   ·have df:(o.field==([]:Txt))=false:=by simp[pf]
    simp only[go_sem,k2,r3,df];refine(rQ _ _).pthen ?_;simp only[go_sem,aO,idV];refine(dL _ _ _ _ _).pthen ?_;simp only[go_sem];refine .accs hy.1 fun y6 G6 hy6 kp6=>?_
    have k1_6:=kp6 _ _ _ k1;have k2_6:=kp6 _ _ _ k2;have hr6:=hr0.app (GRow.one (⟨2,[102,105,101,108,100],[idV o.field]⟩:bn) .full);simp only[go_sem,k2_6,r3]
    by_cases pt:o.to= []
    ·have dt:(o.to==([]:Txt))=true:=by simp[pt]
     simp only[go_sem,k1_6,r2,dt];refine(dL _ _ _ _ _).pthen ?_;simp only[go_sem];refine hy6.app (zs:=[zM (⟨4,[110,111,119],[⟨4,s.tick,[]⟩]⟩) .full]) aeO acA (fun k hk=>(Rd.sl (fI _ _) .full:Rd _ 3 _ _).src cq hk) (by rw[cq];exact hr6.sized) af0 adx fun y7 G7 hy7 kp7=>?_
     have k1_7:=kp7 _ _ _ k1_6;have k2_7:=kp7 _ _ _ k2_6;have hr7:=hr6.app (GRow.one (⟨4,[110,111,119],[⟨4,s.tick,[]⟩]⟩:bn) .full);simp only[go_sem,k1_7,k2_7,r2,r3];refine(hca _ (hH.trans hy7.1)).pthen ?_;simp only[go_sem,cp,ng,gq,su];intro i80 h80;have n81:i1≠i80:=fun e=>by rw[←e,k1_7]at h80;cases h80
     have n82:i2≠i80:=fun e=>by rw[←e,k2_7]at h80;cases h80
     simp only[go_sem];obtain⟨q8,eq8⟩:=hy7.row;cases dth:bX s.cases o.case
     ·simp only[go_sem]
      exact .mk (bH (fE s o)) (show Weak y7 _ by rw[eq8,show fE s o=((cJ s o++ [(⟨2,[102,105,101,108,100],[idV o.field]⟩:bn)])++ [(⟨4,[110,111,119],[⟨4,s.tick,[]⟩]⟩:bn)]) by simp[fE,cJ,dth,pf,pt]];exact hr7.weak q8) ((hH.trans hy7.1).put (jv (hH.trans hy7.1) h80) _) ⟨rfl,rfl⟩
     ·simp only[go_sem,ak,n82,k2_7,r3]
      by_cases p6:o.kind=6
      ·have d6:(o.kind !=6)=false:=by simp[p6]
       simp only[go_sem,d6];exact .mk (bH (fE s o)) (show Weak y7 _ by rw[eq8,show fE s o=((cJ s o++ [(⟨2,[102,105,101,108,100],[idV o.field]⟩:bn)])++ [(⟨4,[110,111,119],[⟨4,s.tick,[]⟩]⟩:bn)]) by simp[fE,cJ,dth,p6,pf,pt]];exact hr7.weak q8) ((hH.trans hy7.1).put (jv (hH.trans hy7.1) h80) _) ⟨rfl,rfl⟩
      ·have d6:(o.kind !=6)=true:=by simp[p6]
       simp only[go_sem,ak,n82,k2_7,r3,d6];refine(hak _).pthen ?_;simp only[go_sem,bH];refine(hy7.sub (.aj h80)).app (zs:=(cB (bw s.cases o.case) o.subj).map kT) aeO acA (fun k hk=>(eP kT 3 (fun _=>rfl) _ _).src cq hk) (by rw[cq];exact hr7.sized) ad9 adp fun yz Gz hyz kpz=>?_
       simp only[go_sem];obtain⟨qz,eqz⟩:=hyz.row;exact .mk (bH (fE s o)) (show Weak yz _ by rw[eqz,show fE s o=((cJ s o++ [(⟨2,[102,105,101,108,100],[idV o.field]⟩:bn)])++ [(⟨4,[110,111,119],[⟨4,s.tick,[]⟩]⟩:bn)])++cB (bw s.cases o.case) o.subj by simp[fE,cJ,dth,p6,pf,pt]];exact(hr7.app (GRow.givs _)).weak qz) (hH.trans hyz.1) ⟨rfl,rfl⟩
    ·have dt:(o.to==([]:Txt))=false:=by simp[pt]
     simp only[go_sem,k2_6,r3,dt];refine(rQ _ _).pthen ?_;simp only[go_sem,aO,idV];refine(dL _ _ _ _ _).pthen ?_;simp only[go_sem];refine hy6.app (zs:=[zM (⟨2,[116,111],[idV o.to]⟩) .full]) aeO acA (fun k hk=>(Rd.sl (fI _ _) .full:Rd _ 3 _ _).src cq hk) (by rw[cq];exact hr6.sized) af0 adx fun y9 G9 hy9 kp9=>?_
     have k1_9:=kp9 _ _ _ k1_6;have k2_9:=kp9 _ _ _ k2_6;have hr9:=hr6.app (GRow.one (⟨2,[116,111],[idV o.to]⟩:bn) .full);simp only[go_sem,k1_9,r2];refine(dL _ _ _ _ _).pthen ?_;simp only[go_sem];refine hy9.app (zs:=[zM (⟨4,[110,111,119],[⟨4,s.tick,[]⟩]⟩) .full]) aeO acA (fun k hk=>(Rd.sl (fI _ _) .full:Rd _ 3 _ _).src cq hk) (by rw[cq];exact hr9.sized) af0 adx fun y10 G10 hy10 kp10=>?_
     have k1_10:=kp10 _ _ _ k1_9;have k2_10:=kp10 _ _ _ k2_9;have hr10:=hr9.app (GRow.one (⟨4,[110,111,119],[⟨4,s.tick,[]⟩]⟩:bn) .full);simp only[go_sem,k1_10,k2_10,r2,r3];refine(hca _ (hH.trans hy10.1)).pthen ?_;simp only[go_sem,cp,ng,gq,su];intro i110 h110;have n111:i1≠i110:=fun e=>by rw[←e,k1_10]at h110;cases h110
     have n112:i2≠i110:=fun e=>by rw[←e,k2_10]at h110;cases h110
     simp only[go_sem];obtain⟨q11,eq11⟩:=hy10.row;cases dth:bX s.cases o.case
     ·simp only[go_sem]
      exact .mk (bH (fE s o)) (show Weak y10 _ by rw[eq11,show fE s o=(((cJ s o++ [(⟨2,[102,105,101,108,100],[idV o.field]⟩:bn)])++ [(⟨2,[116,111],[idV o.to]⟩:bn)])++ [(⟨4,[110,111,119],[⟨4,s.tick,[]⟩]⟩:bn)]) by simp[fE,cJ,dth,pf,pt]];exact hr10.weak q11) ((hH.trans hy10.1).put (jv (hH.trans hy10.1) h110) _) ⟨rfl,rfl⟩
     ·simp only[go_sem,ak,n112,k2_10,r3]
      by_cases p6:o.kind=6
      ·have d6:(o.kind !=6)=false:=by simp[p6]
       simp only[go_sem,d6];exact .mk (bH (fE s o)) (show Weak y10 _ by rw[eq11,show fE s o=(((cJ s o++ [(⟨2,[102,105,101,108,100],[idV o.field]⟩:bn)])++ [(⟨2,[116,111],[idV o.to]⟩:bn)])++ [(⟨4,[110,111,119],[⟨4,s.tick,[]⟩]⟩:bn)]) by simp[fE,cJ,dth,p6,pf,pt]];exact hr10.weak q11) ((hH.trans hy10.1).put (jv (hH.trans hy10.1) h110) _) ⟨rfl,rfl⟩
      ·have d6:(o.kind !=6)=true:=by simp[p6]
       simp only[go_sem,ak,n112,k2_10,r3,d6];refine(hak _).pthen ?_;simp only[go_sem,bH];refine(hy10.sub (.aj h110)).app (zs:=(cB (bw s.cases o.case) o.subj).map kT) aeO acA (fun k hk=>(eP kT 3 (fun _=>rfl) _ _).src cq hk) (by rw[cq];exact hr10.sized) ad9 adp fun yz Gz hyz kpz=>?_
       simp only[go_sem];obtain⟨qz,eqz⟩:=hyz.row;exact .mk (bH (fE s o)) (show Weak yz _ by rw[eqz,show fE s o=(((cJ s o++ [(⟨2,[102,105,101,108,100],[idV o.field]⟩:bn)])++ [(⟨2,[116,111],[idV o.to]⟩:bn)])++ [(⟨4,[110,111,119],[⟨4,s.tick,[]⟩]⟩:bn)])++cB (bw s.cases o.case) o.subj by simp[fE,cJ,dth,p6,pf,pt]];exact(hr10.app (GRow.givs _)).weak qz) (hH.trans hyz.1) ⟨rfl,rfl⟩
end Go.Proofs.YtcochaoekecfdaaGreatDoor
namespace Go.Bf
open Go Go.Ab
def NO(a b:bN):Bool:=a.attr.cat==b.attr.cat && (a.attr.name==b.attr.name && (a.attr.must==b.attr.must && (a.op==b.op && (a.val.kind==b.val.kind && (a.val.n==b.val.n && a.val.s==b.val.s)))))
def Q6(a b:aN):Bool:=a.op==b.op && (a.val.kind==b.val.kind && (a.val.n==b.val.n && (a.val.s==b.val.s && (a.attr.cat==b.attr.cat && (a.attr.name==b.attr.name && a.attr.must==b.attr.must)))))
def Pz(a b:cA):Bool:=a.on==b.on && (a.kind==b.kind && a.arg==b.arg)
def eqL{α:Type}(f:α→α→Bool):List α→List α→Bool
 | [],[]=>true
 |x::a,y::b=>f x y && eqL f a b
 |_,_=>false
theorem any_succ{α:Type}{q:α→Bool}{l:List α}{i:Nat}(h:i<l.length):(l.take (i+1)).any q=((l.take i).any q||q l[i]):=by
 grind [List.take_succ_eq_append_getElem]
end Go.Bf
namespace Go.Bf
def Wu:Txt:=[97,110,110]
end Go.Bf
namespace Go.Proofs.YtcochaoekecfdaaGreatDoor
open Go Go.Ab Go.Bf
def RV(ev:Value):Heap:=xb [(3,yX),(2,[ev])]
theorem JT{ev:Value}(hev:ev= .nilIface∨∃te pe,ev= .iface te pe):jC (RV ev):=⟨ev,hev,1,rfl⟩
end Go.Proofs.YtcochaoekecfdaaGreatDoor
namespace Go.Bf
open Go Go.Ab
def iM(cat:Int)(name:Txt)(g:bn):Bool:=g.cat==cat && g.name==name
def getD(l:List bn)(cat:Int)(name:Txt):List bp:=match l.find? (iM cat name)with
 |some g=>g.bag
 |none=>[]
end Go.Bf
namespace Go.Proofs.YtcochaoekecfdaaGreatDoor
open Go Go.Ab Go.Bf
theorem Ll{α:Type}(y:AV)(xs:List AV)(ds:List α)(q:α→Bool)(g:FuncId)(cap:List AV)(h:Heap)(hb:Rd h 3 y xs)(hn:xs.length=ds.length)(hl:xs.length≤1000000000)(hx:∀x∈xs,bz x=true)
  (hp:∀i (h1:i<xs.length) (h2:i<ds.length),ai Tryz.prog g (xs[i]::cap) h fun r h' =>r= .b (q ds[i])∧h' =h):
  ai Tryz.prog 310 [y,.fn g cap] h fun r h' =>r= .i (ixD q ds)∧h' =h:=by
 refine acs Tryz.func310 19 [.tmp 4] fun hwf=>?_
 simp only[go_sem,hb.len];refine .intro (fun m ρ h' =>h' =h∧∃i:Nat,i≤xs.length∧m=xs.length - i∧(∀j (hj:j<i) (h2:j<ds.length),q ds[j]=false)∧lk ρ 0=some y∧lk ρ 1=some (.fn g cap)∧lk ρ 7=some (.i xs.length)∧lk ρ 8=some (.i i)) xs.length ?_ ?_
 ·refine⟨rfl,0,acu,rfl,fun j hj=>acu,?_,?_,?_,?_⟩<;>simp only[go_sem]
 ·rintro m ρ h' ⟨rfl,i,hi,rfl,hc,r0,r1,r7,r8⟩
  simp only[go_sem,r7,r8];refine .intro (fun e=>?_) (fun e=>?_)
  ·have hlt:i<xs.length:=acq e
   have hlt2:i<ds.length:=acu;have w1:IntKind.i64.wrap ((i:Int)+1)=((i+1:Nat):Int):=acI;simp only[go_sem,r0,r1,r8];refine hb.idx (e:=196) i rfl hlt acK acz fun p hp1=>?_
   have hld:=hp1.all (U:=U) (ty:=196) acz adq aek;simp only[go_sem,hld];refine(show ai Tryz.prog g (xs[i]::cap) _ _ from hp i hlt hlt2).pthen ?_
   cases d1:q ds[i]
   ·simp only[go_sem,r8,w1]
    refine⟨_,?_,rfl,i+1,acu,rfl,fun j hj h2=>?_,?_,?_,?_,?_⟩
    ·omega
    ·grind
    all_goals simp only[go_sem,r0,r1,r7]
   ·simp only[go_sem]
    exact .same (.refl _) ⟨adf,rfl⟩
  ·have hge:i=xs.length:=by grind
   simp only[go_sem];exact .same (.refl _) ⟨acY,rfl⟩
theorem JA{h:Heap}(g:bn){k1 k2:Nat}{cat:Int}{name:Txt}(h1:h k1=some (.obj [.i cat] 3))(h2:h k2=some (.obj [.s name] 9)):ai Tryz.prog 311 [kT g,.ptr k1 0,.ptr k2 0] h fun r h' =>r= .b (iM cat name g)∧h' =h:=by
 refine acs Tryz.func311 15 [.tmp 4] fun hwf=>?_
 simp only[go_sem,kT];intro i1 hi1;have n1:k1≠i1:=fun e=>acv
 have n2:k2≠i1:=fun e=>acv
 simp only[go_sem,ak,n1,h1];cases d1:(g.cat==cat)
 ·simp only[go_sem]
  exact .mk _ (.refl _) (.aj hi1) ⟨by simp only[iM,d1];rfl,rfl⟩
 ·simp only[go_sem,ak,n2,h2]
  exact .mk _ (.refl _) (.aj hi1) ⟨by simp only[iM,d1];rfl,rfl⟩
theorem L6(gs:List bn)(cat:Int)(name:Txt)(hl:gs.length≤1000000000)(h:Heap):ai Tryz.prog 282 [bH gs,.i cat,.s name] h fun r h' =>r= .i (ixD (iM cat name) gs)∧h' =h:=by
 refine acs Tryz.func282 10 [.tmp 6] fun hwf=>?_
 simp only[go_sem,bH];intro i1 h1;simp only[go_sem];intro i2 h2;have n2:=aA h2;have hs:∀a b,Ab.Sub h (upd (upd h i1 a) i2 b):=fun a b=>((Sub.refl h).put h1 a).put n2 b
 simp only[go_sem];refine(Ll _ _ gs (iM cat name) _ [.ptr i1 0,.ptr i2 0] _ (eP kT 3 (fun _=>rfl) _ gs) acD acv (oH (fun _=>rfl) _) fun i a b=>by
  rw[acj];exact JA _ (by grind [ag,ah]) (ah ..)).pthen ?_
 simp only[go_sem];exact ad7
theorem get_at{gs:List bn}{cat:Int}{name:Txt}(h:gs.findIdx (iM cat name)<gs.length):getD gs cat name=gs[gs.findIdx (iM cat name)].bag:=by
 unfold getD;rw[show gs.find? (iM cat name)=some gs[gs.findIdx (iM cat name)]from List.find?_eq_some_iff_getElem.2 ⟨List.findIdx_getElem (w:=h),_,h,rfl,fun j hj=>acv⟩]
theorem Ra{gs:List bn}{cat:Int}{name:Txt}(h:¬gs.findIdx (iM cat name)<gs.length):getD gs cat name= []:=by
 grind [getD,iM,List.findIdx_le_length,List.find?_eq_none,List.findIdx_eq_length]
end Go.Proofs.YtcochaoekecfdaaGreatDoor
namespace Go.Bf
open Go Go.Ab
def cT:Txt:=[99]
def stC(st:Txt)(log:List xz):aK:=⟨cT,Wu,st,[],log⟩
def pE:List Txt:=[jy,wN,Ax,gQ]
abbrev lt(a b:Txt):Prop:=Op.bytesLess a b=true
theorem lt_irrefl:∀a:Txt,¬lt a a
 | []=>acz
 |a::x=>by
  have:=lt_irrefl x;simp only[lt,Op.bytesLess,Bool.or_eq_true,Bool.and_eq_true,decide_eq_true_eq,beq_self_eq_true,true_and,not_or];exact⟨UInt8.lt_irrefl a,this⟩
theorem lt_trans:∀ {a b c:Txt},lt a b→lt b c→lt a c
 |_,[],_,h,_=>by simp_all [Txt,lt,Op.bytesLess]
 | [],b::y,c,_,h=>by cases c<;>simp[lt,Op.bytesLess]at h⊢
 |a::x,b::y,[],_,h=>by simp[lt,Op.bytesLess]at h
 |a::x,b::y,c::z,h1,h2=>by
  simp only[lt,Op.bytesLess,Bool.or_eq_true,Bool.and_eq_true,decide_eq_true_eq,beq_iff_eq]at h1 h2⊢;rcases h1 with h1|⟨rfl,h1⟩
  ·grind
  ·rcases h2 with h2|⟨rfl,h2⟩
   ·grind
   ·exact .inr ⟨rfl,lt_trans h1 h2⟩
theorem AO:∀a b:Txt,lt a b∨a=b∨lt b a
 | [],[]=>acD
 | [],b::y=> .inl rfl
 |a::x,[]=> .inr (.inr rfl)
 |a::x,b::y=>by
  simp only[lt,Op.bytesLess,Bool.or_eq_true,Bool.and_eq_true,decide_eq_true_eq,beq_iff_eq];rcases UInt8.lt_or_lt_of_ne (a:=a) (b:=b)with h
  by_cases e:a=b
  ·subst e
   rcases AO x y with h|rfl|h
   ·grind
   ·simp
   grind
  grind
def Asc(cs:List aK):Prop:=cs.Pairwise fun a b=>lt a.id b.id
theorem GU{c:aK}{cs:List aK}{id:Txt}(h:¬lt c.id id):findD (c::cs) id=0:=by
 simp_all [Op.bytesLess,false,findD,List.findIdx_cons,geB]
theorem GV{c:aK}{cs:List aK}{id:Txt}(h:lt c.id id):findD (c::cs) id=findD cs id+1:=by
 simp_all [Op.bytesLess,true,findD,List.findIdx_cons,geB]
theorem vo:∀ {cs:List aK},Asc cs→∀id,bX cs id=cs.any fun c=>c.id==id
 | [],_,id=>rfl
 |c::cs,h,id=>by
  obtain⟨h1,h2⟩:=List.pairwise_cons.1 h
  by_cases hl:lt c.id id
  ·have hne:(c.id==id)=false:=by
    grind [beq_eq_false_iff_ne,lt_irrefl]
   have e:bX (c::cs) id=bX cs id:=by
    grind [bX,GV]
   rw[e,vo h2 id,List.any_cons,hne,Bool.false_or]
  ·have e:bX (c::cs) id=(c.id==id):=by
    grind [bX,GU]
   rw[e,List.any_cons];cases hc:(c.id==id)
   ·have hlt:lt id c.id:=by
     rcases AO c.id id with h|h|h
     ·grind
     ·grind
     omega
    grind
   ·simp
theorem GJ:∀ {cs:List aK},Asc cs→∀c:aK,(cs.any fun d=>d.id==c.id)=false→Asc (cs.take (findD cs c.id)++ [c]++cs.drop (findD cs c.id))
 | [],_,c,_=>by simp[Asc,findD]
 |d::cs,h,c,hn=>by
  obtain⟨h1,h2⟩:=List.pairwise_cons.1 h;simp only[List.any_cons,Bool.or_eq_false_iff]at hn
  by_cases hl:lt d.id c.id
  ·rw[GV hl]
   simp only[List.take_succ_cons,List.drop_succ_cons,List.cons_append];refine List.pairwise_cons.2 ⟨fun e he=>?_,GJ h2 c hn.2⟩
   grind
  ·rw[GU hl]
   have hlt:lt c.id d.id:=by
    rcases AO d.id c.id with h|h|h
    ·grind
    ·grind
    omega
   refine List.pairwise_cons.2 ⟨fun e he=>?_,h⟩
   rcases List.mem_cons.1 he with rfl|he
   ·omega
   grind [lt_trans]
def EN(fs:List cV):Prop:=fs.Pairwise fun a b=>lt a.name b.name
theorem Bt(name:Txt)(v:bp):eY [] name v= [⟨name,v⟩]:=rfl
theorem zF{f:cV}{fs:List cV}{name:Txt}{v:bp}(h:lt f.name name):eY (f::fs) name v=f::eY fs name v:=by
 have hb:Op.bytesLess f.name name=true:=h;unfold eY;simp only[List.findIdx_cons,geB,hb,Bool.not_true,cond_false,List.getElem?_cons_succ];generalize hi:fs.findIdx (fun f=> !Op.bytesLess f.name name)=i
 cases e:fs[i]? with
 |none=>simp
 |some g=>
  by_cases hg:g.name=name
  ·simp[hg]
  ·simp[hg]
theorem zD{f:cV}{fs:List cV}{name:Txt}{v:bp}(h:f.name=name):eY (f::fs) name v=⟨f.name,v⟩::fs:=by
 subst h;have hb:Op.bytesLess f.name f.name=false:=by
  grind [Op.bytesLess,lt_irrefl]
 unfold eY;simp[List.findIdx_cons,geB,hb]
theorem zE{f:cV}{fs:List cV}{name:Txt}{v:bp}(h:lt name f.name):eY (f::fs) name v=⟨name,v⟩::f::fs:=by
 have hb:Op.bytesLess f.name name=false:=by
  grind [Op.bytesLess,lt_irrefl,lt_trans]
 have hne:f.name≠name:=fun e=>by rw[e]at h;exact lt_irrefl _ h
 unfold eY;simp[List.findIdx_cons,geB,hb,hne]
theorem vu:∀ {fs:List cV} {name:Txt} {v:bp} {g:cV},g∈eY fs name v→g=⟨name,v⟩∨g∈fs
 | [],name,v,g,h=>by grind [Bt,List.mem_singleton]
 |f::fs,name,v,g,h=>by
  rcases AO f.name name with hl|hl|hl
  ·rw[zF hl]at h
   rcases List.mem_cons.1 h with rfl|h
   ·simp
   ·rcases vu h with h|h
    ·grind
    grind
  ·rw[zD hl]at h
   grind
  ·rw[zE hl]at h
   grind
theorem Bq:∀ {fs:List cV} {name:Txt} {v:bp},EN fs→EN (eY fs name v)
 | [],name,v,_=>by grind [Bt,EN]
 |f::fs,name,v,h=>by
  obtain⟨h1,h2⟩:=List.pairwise_cons.1 h;rcases AO f.name name with hl|hl|hl
  ·rw[zF hl]
   refine List.pairwise_cons.2 ⟨fun g hg=>?_,Bq h2⟩
   rcases vu hg with rfl|hg
   ·omega
   grind
  ·rw[zD hl]
   exact List.pairwise_cons.2 ⟨h1,h2⟩
  ·rw[zE hl]
   refine List.pairwise_cons.2 ⟨fun g hg=>?_,h⟩
   rcases List.mem_cons.1 hg with rfl|hg
   ·omega
   grind [lt_trans]
theorem Bs:∀ {fs:List cV} {name:Txt} {v:bp},EN fs→(eY fs name v).length=if fs.any (fun f=>f.name==name)then fs.length else fs.length+1
 | [],name,v,_=>rfl
 |f::fs,name,v,h=>by
  obtain⟨h1,h2⟩:=List.pairwise_cons.1 h;rcases AO f.name name with hl|hl|hl
  ·have hne:(f.name==name)=false:=by grind [beq_eq_false_iff_ne,lt_irrefl]
   rw[zF hl,List.length_cons,Bs h2,List.any_cons,hne,Bool.false_or];split<;>simp
  ·grind [zD]
  ·have hne:(f.name==name)=false:=by grind [beq_eq_false_iff_ne,lt_irrefl]
   have hno:(fs.any fun f=>f.name==name)=false:=List.any_eq_false.2 fun g hg he=>by
    have:=lt_trans hl (h1 g hg);rw[beq_iff_eq.1 he]at this;exact lt_irrefl _ this
   rw[zE hl,List.any_cons,hne,hno];simp
theorem Fl(f:cV)(fs:List cV)(n:Txt):eN (f::fs) n=if f.name=n then f.val else eN fs n:=by
 grind [eN]
def mkC(who id:Txt):aK:=⟨id,who,jy,[],[⟨0,who,[110,101,119]⟩]⟩
def WX(cs:List aK)(id:Txt):Bool:=cs.any fun c=>c.id==id
end Go.Bf
namespace Go.Ab
open Go
section
variable {α : Type}
def dget(l:List (List UInt8×α))(k:List UInt8):Option α:=(l.find? fun p=>p.1==k).map (·.2)
def dset(l:List (List UInt8×α))(k:List UInt8)(v:α):List (List UInt8×α):=if(dget l k).isSome then l.map (fun p=>if p.1==k then(p.1,v)else p)else l++ [(k,v)]
end
end Go.Ab
namespace Go.Bf
open Go Go.Ab Go.Proofs.YtcochaoekecfdaaGreatDoor
structure Own (cs:List aK) (own:List (Txt×Txt)):Prop where
 asc:Asc cs
 len:cs.length=own.length
 small:cs.length≤64
 mem:∀c∈cs,c=mkC c.owner c.id∧dget own c.id=some c.owner
 has:∀id,WX cs id=(dget own id).isSome
 who:∀id w,dget own id=some w→w≠ []
 keys:∀p∈own,p.1.length≤3
theorem qg:∀ {cs:List aK},Asc cs→∀ {id:Txt},bX cs id=true→bw cs id∈cs∧(bw cs id).id=id:=by
 unfold bw
 grind [bX,List.getElem?_eq_getElem]
end Go.Bf
namespace Go.Proofs.YtcochaoekecfdaaGreatDoor
open Go Go.Ab Go.Bf
def nU(o:OpD):Prop:=i64 o.kind∧i64 o.val.kind∧i64 o.val.n∧i64 o.review
theorem inH{P:Program}{f:FuncId}{args:List AV}{h:Heap}{Q:AV→Heap→Prop}(hh:∀H2,H2=h→ai P f args H2 Q):ai P f args h Q:=hh h rfl
end Go.Proofs.YtcochaoekecfdaaGreatDoor
namespace Go.Bf
open Go Go.Ab Go.Proofs.YtcochaoekecfdaaGreatDoor
def WY(v:Int):bp:=⟨2,v,[]⟩
structure Last (fs:List cV) (last:List (Txt×Int)):Prop where
 asc:EN fs
 len:fs.length=last.length
 small:fs.length≤16
 kind:∀f∈fs,f.val.kind=2
 get:∀n,eN fs n=((dget last n).map WY).getD aq
 keys:∀p∈last,p.1.length=2
end Go.Bf
namespace Go.Bf
open Go Go.Ab
def Fine(n:Nat)(st:PS):Prop:=(st.bad=0∨st.bad=5∨st.bad=6)∧0≤st.place∧st.place≤n
def Bv(n:Nat)(ts:List pY):Prop:=∀i,0≤(ts.getD i ⟨7,0,0,[]⟩).pos∧(ts.getD i ⟨7,0,0,[]⟩).pos≤n
theorem yb{n:Nat}{st:PS}{e p:Int}(h:Fine n st)(he:e=5∨e=6)(h0:0≤p)(h1:p≤n):Fine n (bF st e p):=by
 unfold bF;split
 ·exact⟨.inr he,h0,h1⟩
 omega
theorem C7{n:Nat}{a b:PS}(h:Rch a b)(ht:Bv n a.ts)(hf:Fine n a):Fine n b:=by
 induction h with
 |refl=>omega
 |wrong e p h1 he hp ih=>
  obtain⟨i,_,rfl⟩:=hp;rw[(rE h1).1];exact yb ih he (ht i).1 (ht i).2
 |next _ _ _ ih=>exact ih
theorem HK{a b:PS}(h:nK a b):b.ts=a.ts:=by
 induction h with
 |refl=>rfl
 |small _ h1 ih=>grind [rE,trans]
 |rule _ _ _ _ ih=>exact ih
theorem IM{n:Nat}{a b:PS}(h:nK a b)(ht:Bv n a.ts)(hf:Fine n a):Fine n b:=by
 induction h with
 |refl=>omega
 |small h1 h2 ih=>grind [C7,HK]
 |rule _ _ _ _ ih=>exact ih
theorem yo{s:Txt}{ts:List pY}(h:qF s= .ok ts):Bv s.length ts:=by
 obtain⟨pre,rfl,_,h3,_⟩:=AM h;intro i
 grind
theorem K8{s:Txt}{ts:List pY}(h:qF s= .ok ts):Fine s.length (pS s (gy 4 ⟨ts,0,0,0,0⟩)):=by
 have h0:Fine s.length ⟨ts,0,0,0,0⟩:=⟨.inl rfl,Int.le_refl _,acD⟩;have hr:=Ci 4 ⟨ts,0,0,0,0⟩;have h1:=IM hr (yo h) h0;have ht:Bv s.length (gy 4 ⟨ts,0,0,0,0⟩).2.ts:=by rw[HK hr];exact yo h
 have h2:Fine s.length (if(aI (gy 4 ⟨ts,0,0,0,0⟩).2).kind=7 then(gy 4 ⟨ts,0,0,0,0⟩).2 else bl (gy 4 ⟨ts,0,0,0,0⟩).2):=by
  grind [C7,ko]
 unfold pS;generalize (if(aI (gy 4 ⟨ts,0,0,0,0⟩).2).kind=7 then(gy 4 ⟨ts,0,0,0,0⟩).2 else bl (gy 4 ⟨ts,0,0,0,0⟩).2)=st1 at h2⊢
 split
 ·exact yb h2 (.inl rfl) acu (Int.le_refl _)
 ·exact agF
theorem DV(s:Txt):(aQ s).2.1=0∧(aQ s).2.2=0∧gu (aQ s).1=0∨
  ((aQ s).2.1=5∨(aQ s).2.1=6)∧0≤(aQ s).2.2∧(aQ s).2.2≤s.length∧(aQ s).1=oE:=by
 unfold aQ;cases h:qF s with
 |bad e a=>
  have:=tD h;exact .inr ⟨this.1,this.2.1,this.2.2,rfl⟩
 |ok ts=>
  have hf:=K8 h;simp only[yQ];split
  ·rename_i hb
   refine .inl ⟨rfl,rfl,?_⟩;simp only;unfold pS at hb;generalize (if(aI (gy 4 ⟨ts,0,0,0,0⟩).2).kind=7 then(gy 4 ⟨ts,0,0,0,0⟩).2 else bl (gy 4 ⟨ts,0,0,0,0⟩).2)=st1 at hb
   split at hb
   ·simp_all [bF,if_pos,absurd,Int]
   omega
  ·rename_i hb
   exact .inr ⟨hf.1.resolve_left hb,hf.2.1,hf.2.2,rfl⟩
end Go.Bf
namespace Go.Bf
open Go Go.Ab Go.Proofs.YtcochaoekecfdaaGreatDoor
theorem qT{p:bG}(h:gu p=0):mI 1 p:=by
 cases hw:kj ⟨[],0⟩ 1 p with
 |bad e=>
  have:=tT 4 1 _ _ e rfl hw;rw[gu,hw]at h;exact(this h).elim
 |ok m=>grind [HE]
theorem QA{fs:List cV}(h:∀f∈fs,eqV f.val aq=false)(n:Txt):(fs.any fun f=>f.name==n)= !(eqV (eN fs n) aq):=by
 induction fs with
 |nil=>rfl
 |cons f fs ih=>
  rw[Fl,List.any_cons]
  grind
structure uo (c:aK):Prop where
 id:bh c.id=true
 owner:bh c.owner=true
 state:c.state∈pE
 asc:EN c.fields
 nfields:c.fields.length≤16
 field:∀f∈c.fields,bh f.name=true∧bx f.val=true∧eqV f.val aq=false
 log1:1≤c.log.length
 log2:c.log.length≤256
 actor:∀x∈c.log,bh x.actor=true∧i64 x.tick
structure cY (k:Nat) (s:an):Prop where
 tick:0≤s.tick∧s.tick≤1099511627776
 asc:Asc s.cases
 ncases:s.cases.length≤64
 case:∀c∈s.cases,uo c
 nrev:s.reviews.length≤1000
 nnot:s.notices.length≤1000
 roles:s.roles.length≤64
 role:∀r∈s.roles,bh r.subj=true∧bh r.role=true
 pol:gu s.policy=0
 ver:0≤s.version∧s.version≤k
theorem cY.few{k:Nat}{s:an}(h:cY k s):Few s:=by
 have h1:=h.ncases;have h2:=h.nrev;have h3:=h.nnot;have h4:=h.roles;refine⟨acu,fun c hc=>?_,fun c hc=>?_,acu,acu,acu⟩
 ·have:=(h.case c hc).nfields;omega
 ·have:=(h.case c hc).log2;omega
theorem cY.mI{k:Nat}{s:an}(h:cY k s):mI 1 s.policy:=qT h.pol
theorem cY.Gr{k:Nat}{s:an}(h:cY k s):i64 s.tick:=by
 have:=h.tick;constructor<;>omega
theorem JV:cY 0 yM:=by
 refine⟨acz,.nil,acz,fun c h=>adD,acz,acz,acz,fun r h=>adD,acK,acz⟩
theorem j7{s:Txt}(h:iS s=true)(hn:s≠ []):bh s=true:=by
 simp_all [iS,Bool.or_eq_true,beq_iff_eq]
structure Qf (o:OpD):Prop where
 subj:bh o.subj=true
 kind:1≤o.kind∧o.kind≤8
 case:iS o.case=true
 field:iS o.field=true
 to:iS o.to=true
 val:eqV o.val aq=true∨bx o.val=true
 text:o.text.length≤4096
 ok:okD o=true
theorem th{o:OpD}(h:dG o=true):Qf o:=by
 simp only[dG,Bool.and_eq_true,decide_eq_true_eq,Bool.or_eq_true,dJ]at h;obtain⟨⟨⟨⟨⟨⟨⟨h1,h2⟩,h3⟩,h4⟩,h5⟩,h6⟩,h7⟩,⟨⟨h8,h9⟩,h10⟩,h11⟩:=h;exact⟨h1,⟨h8,h9⟩,h4,h5,h6,h7,h3,h10⟩
theorem yc{a b:Txt}(h:mB a b=true):b∈pE:=by
 unfold mB at h;simp only[pE,List.mem_cons,List.not_mem_nil,or_false]
 grind
theorem mem_modify{α:Type}{l:List α}{i:Nat}{f:α→α}{x:α}(h:x∈l.modify i f):x∈l∨∃hi:i<l.length,x=f l[i]:=by
 obtain⟨j,hj,rfl⟩:=List.mem_iff_getElem.1 h
 grind
theorem j9{α β:Type}{l:List α}{i:Nat}{f:α→α}{g:α→β}(h:∀x,g (f x)=g x):(l.modify i f).map g=l.map g:=by
 refine List.ext_getElem acD fun j h1 h2=>?_
 grind
theorem BI{cs cs' :List aK}(h:cs'.map (·.id)=cs.map (·.id))(ha:Asc cs):Asc cs' :=by
 unfold Asc at*;have h1:(cs.map (·.id)).Pairwise lt:=acv
 rw[←h,List.pairwise_map]at h1;exact h1
theorem Oi{cs:List aK}{i:Nat}{c d:aK}(h:d∈cs.take i++ [c]++cs.drop i):d=c∨d∈cs:=by
 grind
theorem MB{k:Nat}{s:an}{o:OpD}(hs:cY k s)(hr:bJ s o=0):cY (k+1) (doD aQ s o):=by
 have hf:dG o=true:=by
  unfold bJ at hr
  grind
 have F:=th hf;have vk:0≤s.version∧s.version≤((k+1:Nat):Int):=⟨hs.ver.1,by have:=hs.ver.2;omega⟩
 unfold bJ at hr;rw[hf]at hr;simp only[Bool.true_eq_false,if_false]at hr;have hok:=F.ok;unfold okD at hok;have t64:=hs.Gr;unfold doD
 by_cases k1:o.kind=1
 ·simp only[k1,if_true]at hr hok⊢
  have hno:bX s.cases o.case=false:=by
   grind
  rw[hno]at hr;simp only[Bool.false_eq_true,if_false]at hr;have hlt:¬64≤s.cases.length:=fun h=>agr
  have hc:bh o.case=true:=j7 F.case acv;rw[vo hs.asc]at hno;refine {hs with asc:= ?_,ncases:= ?_,case:= ?_,ver:=vk}
  ·exact GJ hs.asc (jk s ⟨o.case,o.subj,jy,[],[]⟩ o.subj [110,101,119]) hno
  ·grind
  ·intro c h
   rcases Oi h with rfl|h
   ·exact⟨hc,F.subj,by simp[jk,pE],.nil,agG,fun f h=>adD,agG,agG,fun x h=>by
     simp only[jk,List.nil_append,List.mem_singleton]at h;subst h;exact⟨F.subj,t64⟩⟩
   ·exact hs.case c h
 ·simp only[k1,if_false]at hr hok⊢
  by_cases k3:o.kind=3
  ·have hk:2≤o.kind∧o.kind≤4:=by omega
   simp only[hk,and_self,if_true]at hr;simp only[k3,if_true];have e2:¬(o.kind=2∨o.kind=6):=acu;simp only[k3,if_true,show¬((3:Int)=2∨(3:Int)=6) by decide,if_false,Bool.and_eq_true,Bool.not_eq_true']at hok
   have hth:bX s.cases o.case=true:=by
    unfold bW at hr
    grind
   unfold bW at hr;rw[hth]at hr;simp only[Bool.true_eq_false,if_false,k3,true_and]at hr;obtain⟨hm,hid⟩:=qg hs.asc hth;have hlt:=jA hth;have hce:bw s.cases o.case=s.cases[findD s.cases o.case]:=by
    simp_all [bw,if_pos]
   rw[hce]at hr hm;generalize hcc:s.cases[findD s.cases o.case]=c at hr hm;have hc:=hs.case c hm;have h16:¬(c.fields.length≥16∧eqV (eN c.fields o.field) aq=true):=fun h=>by simp[h.1,h.2]at hr
   rw[if_neg h16]at hr;have hlg:¬c.log.length≥256:=fun h=>agr
   have hnf:bh o.field=true:=j7 F.field acv;have hvz:eqV o.val aq=false:=hok.2;have hv:bx o.val=true:=F.val.resolve_left acv;refine {hs with asc:= ?_,ncases:= ?_,case:= ?_,ver:=vk}
   ·exact BI (j9 fun x=>rfl) hs.asc
   ·simpa using hs.ncases
   ·intro d hd
    rcases mem_modify hd with hd|⟨hi,rfl⟩
    ·exact hs.case d hd
    ·rw[hcc]
     have hany:=QA (fun f hf=>(hc.field f hf).2.2) o.field
     have hlen:=Bs (v:=o.val) (name:=o.field) hc.asc;refine⟨hc.id,hc.owner,hc.state,Bq hc.asc,?_,?_,agG,?_,?_⟩
     ·simp only[jk]
      rw[hlen,hany];have:=hc.nfields;cases he:eqV (eN c.fields o.field) aq
      ·simp;omega
      ·rw[he]at h16;simp at h16⊢;omega
     ·intro f hf
      rcases vu hf with rfl|hf
      ·grind
      ·exact hc.field f hf
     ·grind [jk,acn,List.length_singleton]
     ·intro x hx
      exact ahP
  ·simp only[k3,if_false]at hok⊢
   by_cases k4:o.kind=4
   ·have hk:2≤o.kind∧o.kind≤4:=by omega
    simp only[hk,and_self,if_true]at hr;simp only[k4,if_true];have hth:bX s.cases o.case=true:=by
     unfold bW at hr
     grind
    unfold bW at hr;rw[hth]at hr;simp only[Bool.true_eq_false,if_false,k4]at hr;obtain⟨hm,hid⟩:=qg hs.asc hth;have hlt:=jA hth;have hce:bw s.cases o.case=s.cases[findD s.cases o.case]:=by
     simp_all [bw,if_pos]
    rw[hce]at hr hm;generalize hcc:s.cases[findD s.cases o.case]=c at hr hm;have hc:=hs.case c hm;simp only[show¬((4:Int)=3) by decide,false_and,if_false,show((4:Int)≠2) by decide,ne_eq,not_false_eq_true,true_and,false_or]at hr
    have hlg:¬c.log.length≥256:=fun h=>agr
    rw[if_neg hlg]at hr;have hfo:mB c.state o.to=true:=by
     grind
    refine {hs with asc:= ?_,ncases:= ?_,case:= ?_,ver:=vk}
    ·exact BI (j9 fun x=>rfl) hs.asc
    ·simpa using hs.ncases
    ·intro d hd
     rcases mem_modify hd with hd|⟨hi,rfl⟩
     ·exact hs.case d hd
     ·rw[hcc]
      refine⟨hc.id,hc.owner,yc hfo,hc.asc,hc.nfields,hc.field,agG,?_,?_⟩
      ·grind [jk,acn,List.length_singleton]
      ·intro x hx
       exact ahP
   ·simp only[k4,if_false]at hok⊢
    by_cases k5:o.kind=5
    ·simp only[k5,if_true]
     refine {hs with nrev:= ?_,ver:=vk}
     simpa using hs.nrev
    ·simp only[k5,if_false]at hok⊢
     by_cases k6:o.kind=6
     ·have hk:¬(2≤o.kind∧o.kind≤4):=by omega
      simp only[k6,if_true]at hr;simp only[k6,if_true];simp only[k6,or_true,if_true,Bool.and_eq_true]at hok;have hc:bh o.case=true:=j7 F.case acv;have hfd:bh o.field=true:=j7 F.field acv;cases hh:yh s.roles ⟨o.case,o.field⟩with
      |true=>simp only[if_true];exact {hs with ver:=vk}
      |false=>
       rw[hh]at hr;have hlt:¬s.roles.length≥64:=fun h=>agr
       simp only[Bool.false_eq_true,if_false];refine {hs with roles:= ?_,role:= ?_,ver:=vk}
       ·grind
       ·intro r h
        rcases List.mem_append.1 h with h|h
        ·exact hs.role r h
        grind
     ·simp only[k6,if_false]
      by_cases k7:o.kind=7
      ·simp only[k7,if_true]
       by_cases hp:(aQ o.text).2.1=0
       ·simp only[hp,if_true]
        have hr0:gu (aQ o.text).1=0:=by
         grind [DV,absurd]
        refine {hs with pol:=hr0,ver:= ?_}
        have:=hs.ver;constructor
        ·grind
        grind
       ·simp only[hp,if_false]
        exact {hs with ver:=vk}
      ·simp only[k7,if_false]
       by_cases k8:o.kind=8
       ·simp only[k8,if_true]
        have hk:¬(2≤o.kind∧o.kind≤4):=acu;simp only[k8,if_true]at hr;have hlt:¬s.tick>1099511627776 - o.review:=fun h=>agr
        simp only[k8,show¬((8:Int)=2∨(8:Int)=6) by decide,if_false,if_true,Bool.and_eq_true,decide_eq_true_eq]at hok
        refine {hs with tick:= ?_,ver:=vk}
        have:=hs.tick;constructor
        ·grind
        grind
       ·simp only[k8,if_false]
        exact {hs with ver:=vk}
theorem pF{k:Nat}{s:an}(o:OpD)(hs:cY k s):cY (k+1) (dO aQ s o):=by
 unfold dO
 by_cases h:bJ s o=0
 ·simp_all [if_pos,MB]
 ·rw[if_neg h]
  exact {hs with ver:=⟨hs.ver.1,by have:=hs.ver.2;omega⟩}
theorem fA.eq{xs:List AV}{sz:Nat}(j:Nat)(hj:j<xs.length)(hz:xs[j].cells.length=sz)(k:AV→Prop):fA xs (j:Int) sz k=k (.pe xs[j] 0):=propext ⟨fun h=>by
 obtain⟨_,b,hb,_,hk⟩:=h;have:xs[j]? =some xs[j]:=acD;rw[show((j:Int).toNat)=j by simp,this]at hb
 cases hb;exact hk,fun h=>fA.at j hj hz h⟩
def Ag(l:List bp):Prop:=l.length≤16∧∀v∈l,bx v=true∧∀w∈l.head?,v.kind=w.kind
structure Pa (gs:List bn):Prop where
 len:gs.length≤64
 each:∀g∈gs,1≤g.cat∧g.cat≤4∧bh g.name=true∧Ag g.bag
 dist:gs.Pairwise fun a b=>iM b.cat b.name a=false
def wU(g:bn):Int×Txt:=(g.cat,g.name)
theorem KQ(gs:List bn):(gs.Pairwise fun a b=>iM b.cat b.name a=false)↔(gs.map wU).Nodup:=by
 simp[List.Nodup,List.pairwise_map,bn,iM,false,wU]
theorem jg{v:bp}(h:bx v=true):Ag [v]:=⟨acD,fun w hw=>acv⟩
theorem oS{s:Txt}(h:bh s=true):bx (idV s)=true:=by grind [bx,idV]
theorem Im{l:List gV}(h:∀r∈l,bh r.role=true)(s:Txt):Ag (cU l s):=by
 have hv:∀v∈cU l s,bx v=true∧v.kind=5:=fun v hv=>by
  have:=List.mem_of_mem_take hv;obtain⟨r,hr,rfl⟩:=List.mem_map.1 this;exact⟨oS acv,rfl⟩
 refine⟨by grind [cU,List.length_take],fun v hm=>⟨(hv v hm).1,fun w hw=>?_⟩⟩
 grind
theorem KH{c:UInt8}{i j:Nat}(h:sU c j=true)(hi:i≠0):sU c i=true:=by
 simp only[sU,Bool.or_eq_true,Bool.and_eq_true,decide_eq_true_eq]at h⊢
 grind
theorem Fm{n:Txt}(h:bh n=true)(hl:n.length≤14):bh ([102,95]++n)=true:=by
 simp only[bh,Bool.and_eq_true,decide_eq_true_eq]at h⊢;obtain⟨⟨h1,h2⟩,h3⟩:=h;refine⟨⟨?_,acD⟩,acv⟩;unfold vG at h1⊢;rw[List.all_eq_true]at h1⊢
 rintro⟨c,i⟩ hp
 rw[List.mk_mem_zipIdx_iff_getElem?]at hp
 match i,hp with
 |0,hp=>cases hp;rfl
 |1,hp=>cases hp;rfl
 |i+2,hp=>
  exact KH (h1 (c,i) (List.mk_mem_zipIdx_iff_getElem?.2 hp)) acu
theorem Gm{s:Txt}(h:s∈pE):bh s=true:=by
 simp only[pE,List.mem_cons,List.not_mem_nil,or_false]at h;rcases h with rfl|rfl|rfl|rfl<;>kernel_rfl
theorem CA(k:Int)(h:1≤k∧k≤8):bh (iE k)=true:=by
 have:(List.range 9).all (fun n=>bh (iE n))=true:=acK
 have h2:=List.all_eq_true.1 this k.toNat acv
 rwa [show((k.toNat:Nat):Int)=k by omega]at h2
theorem MI(l:List xz)(s:Txt):bx (ug l s)=true:=by
 unfold ug;cases l.any fun x=>x.actor==s<;>rfl
theorem Is{c:aK}(hc:uo c)(s:Txt):∀g∈cB c s,g.cat=3∧bh g.name=true∧Ag g.bag:=by
 intro g hg;simp only[cB,List.mem_append,List.mem_cons,List.not_mem_nil,or_false]at hg;rcases hg with((rfl|rfl|rfl|rfl|rfl)|hg)|hg
 ·exact⟨rfl,acK,jg (oS hc.id)⟩
 ·exact⟨rfl,acK,jg (oS hc.owner)⟩
 ·exact⟨rfl,acK,jg (oS (Gm hc.state))⟩
 ·exact⟨rfl,acK,jg acK⟩
 ·exact⟨rfl,acK,jg (MI _ _)⟩
 ·cases hl:c.log.getLast? with
  |none=>grind
  |some x=>
   rw[hl]at hg;rw[List.mem_singleton.1 hg];exact⟨rfl,acK,jg (oS (hc.actor x (List.mem_of_getLast? hl)).1)⟩
 ·obtain⟨f,hf,rfl⟩:=List.mem_map.1 hg
  obtain⟨hf1,hf2⟩:=List.mem_filter.1 hf;have hf2:f.name.length≤14:=acv;obtain⟨h1,h2,_⟩:=hc.field f hf1;exact⟨rfl,Fm h1 hf2,jg h2⟩
theorem Ir{c:aK}(hc:uo c)(s:Txt):((cB c s).map wU).Nodup:=by
 have hfn:(((c.fields.filter fun f=>decide (f.name.length≤14)).map fun f=>(⟨3,[102,95]++f.name,[f.val]⟩:bn)).map wU).Nodup:=by
  rw[List.map_map,List.Nodup,List.pairwise_map];refine((List.Pairwise.filter _ hc.asc).imp fun {a b} hab he=>?_)
  simp_all [Function.comp,wU,Prod.mk.injEq,true_and,List.append_cancel_left_eq,lt_irrefl]
 have hff:∀x∈((c.fields.filter fun f=>decide (f.name.length≤14)).map fun f=>(⟨3,[102,95]++f.name,[f.val]⟩:bn)).map wU,∃t,x=(3,102::t):=by
  intro x hx;obtain⟨g,hg,rfl⟩:=List.mem_map.1 hx;obtain⟨f,hf,rfl⟩:=List.mem_map.1 hg;exact⟨_,rfl⟩
 unfold cB;rw[List.map_append,List.nodup_append];refine⟨?_,hfn,?_⟩
 ·cases c.log.getLast? with
  |none=>simp[wU,idT]
  |some x=>simp[wU,idT]
 ·intro a ha b hb
  obtain⟨t,rfl⟩:=hff b hb;intro e;cases hl:c.log.getLast? with
  |none=>
   simp_all [wU,idT]
  |some x=>
   simp_all [wU,idT]
theorem Il{k:Nat}{s:an}{o:OpD}(hs:cY k s)(hf:dG o=true):Pa (fE s o):=by
 have F:=th hf;have hcs:∀g∈(if bX s.cases o.case=true∧o.kind≠6 then cB (bw s.cases o.case) o.subj else []),g.cat=3∧bh g.name=true∧Ag g.bag:=by
  intro g hg;split at hg
  ·rename_i ht
   exact Is (hs.case _ (qg hs.asc ht.1).1) _ g hg
  ·cases hg
 have hcd:((if bX s.cases o.case=true∧o.kind≠6 then cB (bw s.cases o.case) o.subj else []).map wU).Nodup:=by
  split
  ·rename_i ht
   exact Ir (hs.case _ (qg hs.asc ht.1).1) _
  ·exact .nil
 have hcl:(if bX s.cases o.case=true∧o.kind≠6 then cB (bw s.cases o.case) o.subj else []).length≤22:=by
  split
  ·rename_i ht
   have hc:=hs.case _ (qg hs.asc ht.1).1;have h16:=hc.nfields;have:((bw s.cases o.case).fields.filter fun f=>decide (f.name.length≤14)).length≤(bw s.cases o.case).fields.length:=List.length_filter_le _ _
   simp only[cB,acn,aci,List.length_cons,List.length_nil];cases (bw s.cases o.case).log.getLast? <;>simp<;>omega
  ·simp
 unfold fE;generalize (if bX s.cases o.case=true∧o.kind≠6 then cB (bw s.cases o.case) o.subj else [])=C at hcs hcd hcl⊢
 have e1:(if o.field= []then []else [(⟨2,[102,105,101,108,100],[idV o.field]⟩:bn)])=if o.field= []then []else [(⟨2,[102,105,101,108,100],[idV o.field]⟩:bn)]:=rfl
 have hro:Ag (cU s.roles o.subj):=Im (fun r hr=>(hs.role r hr).2) _
 have htk:bx ⟨4,s.tick,[]⟩=true:=by
  have:=hs.tick;simp[bx,this]
 have hac:=oS (CA o.kind F.kind);have hsu:=oS F.subj;refine⟨?_,?_,?_⟩
 ·by_cases p1:o.field= []<;>by_cases p2:o.to= []<;>simp[p1,p2]<;>omega
 ·intro g hg
  simp only[List.mem_append,List.mem_cons,List.not_mem_nil,or_false]at hg;rcases hg with((((rfl|rfl|rfl)|hg)|hg)|rfl)|hg
  ·exact⟨acD,acD,acw,jg hsu⟩
  ·exact⟨acD,acD,acw,hro⟩
  ·exact⟨acD,acD,acw,jg hac⟩
  ·split at hg
   ·cases hg
   ·rename_i hne
    rw[List.mem_singleton.1 hg];exact⟨acD,acD,acw,jg (oS (j7 F.field hne))⟩
  ·split at hg
   ·cases hg
   ·rename_i hne
    rw[List.mem_singleton.1 hg];exact⟨acD,acD,acw,jg (oS (j7 F.to hne))⟩
  ·exact⟨acD,acD,acw,jg htk⟩
  ·obtain⟨h1,h2,h3⟩:=hcs g hg
   exact⟨acu,acu,h2,h3⟩
 ·rw[KQ,List.map_append,List.nodup_append]
  refine⟨?_,hcd,?_⟩
  ·by_cases p1:o.field= []<;>by_cases p2:o.to= []<;>simp[p1,p2,wU,idT]
  ·intro a ha b hb e
   subst e;obtain⟨g,hg,rfl⟩:=List.mem_map.1 hb;have h3:=(hcs g hg).1;have hne:∀x∈([⟨1,idT,[idV o.subj]⟩,⟨1,[114,111,108,101],cU s.roles o.subj⟩,⟨2,[110,97,109,101],[idV (iE o.kind)]⟩]++(if o.field= []then []else [⟨2,[102,105,101,108,100],[idV o.field]⟩])++(if o.to= []then []else [⟨2,[116,111],[idV o.to]⟩])++ [⟨4,[110,111,119],[⟨4,s.tick,[]⟩]⟩]:List bn),x.cat≠3:=by
    intro x hx;simp only[List.mem_append,List.mem_cons,List.not_mem_nil,or_false]at hx;rcases hx with(((rfl|rfl|rfl)|hx)|hx)|rfl
    ·simp
    ·simp
    ·simp
    ·split at hx
     ·cases hx
     ·rw[List.mem_singleton.1 hx];simp
    ·split at hx
     ·cases hx
     ·rw[List.mem_singleton.1 hx];simp
    ·simp
   obtain⟨x,hx,he⟩:=List.mem_map.1 ha;have:x.cat=g.cat:=congrArg Prod.fst he;exact hne x hx (by rw[this,h3])
def sL:an→List AV
 |⟨tick,cs,rv,nt,ro,.mk pid set alg tgt rules kids obls,ver⟩=>[.i tick,fX cs,j4 rv,kY nt,dV ro,.s pid,.b set,.i alg,aU tgt,.sl (rules.map aB) .no,.sl (fD kids) .no,az obls,.i ver]
theorem vm(s:an):cI s= .agg (sL s):=by
 obtain⟨tick,cs,rv,nt,ro,⟨pid,set,alg,tgt,rules,kids,obls⟩,ver⟩:=s;rfl
structure Stays (cs cs' :List aK) (id:Txt):Prop where
 len:cs'.length≤cs.length+1
 ids:∀c∈cs,∃d∈cs',d.id=c.id
 rest:∀c∈cs,c.id≠id→c∈cs'
abbrev aR:=Nat×Nat
def naM:aR:=(0,0)
def aY:aR:=(2,0)
def cC:aR:=(0,2)
def vY:aR:=(1,0)
def vX:aR:=(0,1)
def mD:aR:=(1,1)
def uW:List aR:=[naM,aY,cC,vY,vX,mD]
abbrev jF:=aR×List cA
def gG(m:aR):aR:=if m=aY then vY else if m=cC then vX else m
def og(a b:aR):aR:=(max a.1 b.1,max a.2 b.2)
def EB(m:aR):aR:=(m.2,m.1)
def qM(j:aR):aR:=
 if j.2=2 then cC else if j.2=1∧1≤j.1 then mD else if j.2=1 then vX else if j.1=2 then aY else if j.1=1 then vY else naM
def xk(l:List aR):aR:=l.foldl og naM
def firstM(l:List aR):aR:=(l.find? fun m=>decide (m≠naM)).getD naM
def zq(m:aR):Bool:=decide (m=naM∨m=aY∨m=cC)
def ou:List aR→aR→aR
 | [],j=>j
 |m::r,j=>if zq m=false then mD else ou r (if j=naM then m else if m≠naM then mD else j)
def gR(alg:Int)(l:List aR):aR:=
 if alg=1 then qM (xk l)
 else if alg=2 then EB (qM (EB (xk l)))
 else if alg=3 then firstM l
 else if alg=4 then ou l naM
 else if alg=5 then(if aY∈l then aY else cC)
 else if alg=6 then(if cC∈l then cC else aY)
 else naM
def xL(gs:List bn)(a:pV):List bp:=getD gs a.cat a.name
def nu(a b:bp):Option Bool:=
 if bx a=false∨bx b=false∨a.kind≠b.kind∨a.kind=1 then none
 else if a.kind=3∨a.kind=5 then some (Op.bytesLess a.s b.s)else some (decide (a.n<b.n))
def cM(m:bN)(v:bp):Option Bool:=
 if m.op=1 then(if v.kind=m.val.kind then some (eqV v m.val)else none)
 else if m.op=2 then nu v m.val else nu m.val v
def jM(gs:List bn)(m:bN):Nat:=
 if xL gs m.attr= []∧m.attr.must=true then 1
 else if(xL gs m.attr).any fun v=>cM m v==some true then 2
 else if(xL gs m.attr).any fun v=>cM m v==none then 1 else 0
def CC(gs:List bn)(l:List bN):Nat:=l.foldl (fun a m=>min a (jM gs m)) 2
def zJ(gs:List bn)(l:List (List bN)):Nat:=l.foldl (fun a x=>max a (CC gs x)) 0
def mH(gs:List bn)(t:fW):Nat:=t.foldl (fun a x=>min a (zJ gs x)) 2
structure jt where
 bag:List bp
 v:bp
 e:Int
def dK(b:Bool):bp:=⟨1,if b then 1 else 0,[]⟩
def iT(b:Bool):jt:=⟨[],dK b,0⟩
def isI(x:jt)(n:Int):Bool:=x.e==0 && eqV x.v ⟨1,n,[]⟩
abbrev w64(n:Int):Int:=IntKind.i64.wrap n
def Kn(a b:Int):Bool:=decide (0<b) && decide (w64 (9223372036854775807 - b)<a)||decide (b<0) && decide (a<w64 (-9223372036854775808 - b))
def MC(a b:Int):Bool:=decide (0<b) && decide (a<w64 (-9223372036854775808+b))||decide (b<0) && decide (w64 (9223372036854775807+b)<a)
def Jq(a b:Int):Bool:=a== -1 && b== -9223372036854775808||b== -1 && a== -9223372036854775808||a !=0 && w64 ((w64 (a*b)).tdiv a) !=b
def nL(e:Int):bp×Int:=(aq,e)
def zS(o:Bool)(n:Int):bp×Int:=if o then nL 3 else(⟨2,w64 n,[]⟩,0)
def gO(op:Int)(l:List bp):bp×Int:=
 if¬(6≤op∧op≤13)∨l.length≠(if op=11 then 1 else 2)∨(l.all bx)=false then nL 1
 else
  let a:=l.getD 0 aq;let b:=l.getD 1 aq
  if op=6 then(if a.kind=b.kind then(dK (eqV a b),0)else nL 2)
  else if op=7 then(match nu a b with
   |some x=>(dK x,0)
   |none=>nL 2)
  else if op=8∨op=9∨op=10 then
   (if l.all fun v=>v.kind==2 then(if op=8 then zS (Kn a.n b.n) (a.n+b.n)else if op=9 then zS (MC a.n b.n) (a.n - b.n)else zS (Jq a.n b.n) (a.n*b.n))else nL 2)
  else if(l.all fun v=>v.kind==1)=false then nL 2
  else if op=11 then(dK (a.n==0),0)
  else if op=12 then(dK (a.n==1 && b.n==1),0)
  else(dK (a.n==1||b.n==1),0)
def opsOf(op:Int):Nat:=if op=1∨op=2 then 0 else if op=3∨op=4∨op=11 then 1 else 2
def Ae(r:bp×Int):jt:=⟨[],r.1,r.2⟩
def kX(gs:List bn)(n:aN)(l:List jt):jt:=
 if n.op=1 then⟨[],n.val,0⟩
 else if n.op=2 then(if xL gs n.attr= []∧n.attr.must=true then⟨[],aq,4⟩else⟨xL gs n.attr,aq,0⟩)
 else if(n.op=12∨n.op=13)∧(l.any fun x=>isI x (n.op - 12))=true then iT (n.op==13)
 else match l.find? fun x=>x.e !=0 with
  |some x=>⟨[],aq,x.e⟩
  |none=>
   if n.op=3 then(match (l.headD ⟨[],aq,0⟩).bag with
    | [v]=>⟨[],v,0⟩
    |_=>⟨[],aq,4⟩)
   else if n.op=4 then⟨[],⟨2,(l.headD ⟨[],aq,0⟩).bag.length,[]⟩,0⟩
   else if n.op=5 then iT ((l.headD ⟨[],aq,0⟩).bag.any fun v=>eqV v (l.getD 1 ⟨[],aq,0⟩).v)
   else Ae (gO n.op (l.map (·.v)))
def zp(gs:List bn)(st:List jt)(n:aN):List jt:=st.take (st.length - opsOf n.op)++ [kX gs n (st.drop (st.length - opsOf n.op))]
def vZ(gs:List bn)(l:List aN):jt:=if l= []then Ae (nL 1)else(l.foldl (zp gs) []).headD (Ae (nL 1))
def qk(gs:List bn)(l:List aN):Nat:=if l.isEmpty then 2 else if isI (vZ gs l) 1 then 2 else if isI (vZ gs l) 0 then 0 else 1
def eJ(l:List cA)(m:aR):List cA:=l.filter fun o=>o.on==1 && m==aY||o.on==2 && m==cC
def nh(r:cK)(t c:Nat):jF:=
 let m:=if r.deny then cC else aY
 if t=0∨t=2∧c=0 then(naM,[])else if t=1∨c=1 then(gG m,[])else(m,eJ r.obls m)
def gZ(gs:List bn)(r:cK):jF:=nh r (mH gs r.tgt) (qk gs r.cond)
def eO(alg:Int)(m:aR)(parts:List jF):List cA:=
 if alg=3 then((parts.find? fun x=>x.1==m).map (·.2)).getD []else((parts.filter fun x=>x.1==m).map (·.2)).flatten
def pM(alg:Int)(obls:List cA)(t:Nat)(parts:List jF):jF:=
 let m:=gR alg (parts.map (·.1))
 if t=0 then(naM,[])else if t=1 then(gG m,[])else if m≠aY∧m≠cC then(m,[])
 else(m,eO alg m parts++eJ obls m)
mutual
def fC(gs:List bn):bG→jF
 |.mk id set alg tgt rules kids obls=>if mH gs tgt=0 then(naM,[])else pM alg obls (mH gs tgt) (rules.map (gZ gs)++mz gs kids)
def mz(gs:List bn):List bG→List jF
 | []=>[]
 |k::r=>fC gs k::mz gs r
end
theorem td(gs:List bn):∀l:List bG,mz gs l=l.map (fC gs)
 | []=>acK
 |k::r=>by simp[mz,td gs r]
def sB:bG→fW
 |.mk _ _ _ t _ _ _=>t
def oh:fW→Option bN
 | []=>none
 | [l]::r=>match l.find? fun m=>m.op==1 && !m.attr.must with
  |some m=>some m
  |none=>oh r
 |_::r=>oh r
def sv(gs:List bn)(p:bG):Bool:=match oh (sB p)with
 |none=>true
 |some m=>decide (jM gs m≠0)
mutual
def kZ(gs:List bn):bG→bG
 |.mk id set alg tgt rules kids obls=> .mk id set alg tgt rules (j3 gs kids) obls
def j3(gs:List bn):List bG→List bG
 | []=>[]
 |k::r=>if sv gs k then kZ gs k::j3 gs r else j3 gs r
end
end Go.Bf
namespace Go.Ab
open Go
section
variable {U : TypeId → TI} {ρ : Env} {h0 h h' : Heap} {sz id : Nat} {tb : TypeId} {y : AV} {xs : List AV} {e : TypeId} {K : AV → Prop} {x : IntKind} {m : Int}
theorem uF(xs:List AV)(j:Nat):au xs=au (xs.take j)++au (xs.drop j):=afU
theorem OwE.cut(hw:OwE tb h0 h sz y xs){hi:Operand}(j:Nat)(hm:ev ρ hi=some (.v (.int x m)))(hj:m=j)(hl:j≤xs.length)(hz:(U tb).sz=sz)(h1:sz≠0)
  (hk:∀z,OwE tb h0 h sz z (xs.take j)→(z=y∨∃id l l' c,y= .ob id 0 l c sz∧z= .ob id 0 l' c sz)→K z):gI U ρ y none (some hi) none K (.slice tb):=by
 subst hj;subst hz
 rcases hw with⟨rfl,rfl⟩|⟨id,h2,cap,rest,rfl,h3,h4,h5,h6⟩
 ·rw[qV,fH,hm]
  refine⟨h1,?_⟩;have:j=0:=acv;subst this;refine⟨acu,acD,?_⟩;exact hk _ (.inl ⟨rfl,rfl⟩) (.inl rfl)
 ·rw[Bd]
  refine⟨h1,rfl,?_⟩;simp only[mh,fH,hm,cZ,nj];refine⟨acu,acu,acu,?_⟩;simp only[Int.toNat_natCast,Nat.zero_mul,Nat.add_zero,Nat.sub_zero,show(((0:Nat):Int)).toNat=0 from rfl]
  have e1:(xs.take j).length=j:=acv;have hs:Sized (U tb).sz (xs.drop j):=fun z hz=>h6 z (List.mem_of_mem_drop hz)
  refine hk _ (.inr ⟨id,h2,cap,au (xs.drop j)++rest,by rw[e1],by grind [uF,List.append_assoc],?_,acu,fun z hz=>h6 z (List.mem_of_mem_take hz)⟩) (.inr ⟨id,_,_,cap,rfl,rfl⟩)
  rw[acn,aX hs,h4,List.length_drop,e1,←Nat.add_mul]
  grind
theorem OwE.from(hw:OwE tb h0 h sz y xs){lo:Operand}(j:Nat)(hm:ev ρ lo=some (.v (.int x m)))(hj:m=j)(hl:j≤xs.length)(hz:(U tb).sz=sz)(h1:sz≠0)
  (hk:∀z,Rd h sz z (xs.drop j)→K z):gI U ρ y (some lo) none none K (.slice tb):=by
 subst hj;subst hz
 rcases hw with⟨rfl,rfl⟩|⟨id,h2,cap,rest,rfl,h3,h4,h5,h6⟩
 ·have:j=0:=by grind
  subst this;rw[qW,fH,hm];refine⟨h1,by simp[Sized],?_⟩
  exact⟨acu,acD,acD,hk _ (.sl (by intro z hz;grind [mP]) _)⟩
 ·rw[Bd]
  refine⟨h1,rfl,?_⟩;simp only[mh,fH,hm,cZ,nj];refine⟨acu,acu,acu,?_⟩;simp only[Int.toNat_natCast,Nat.zero_add];have e1:(xs.drop j).length=xs.length - j:=acD;have hs:Sized (U tb).sz (xs.drop j):=fun z hz=>h6 z acv
  have ht:Sized (U tb).sz (xs.take j):=fun z hz=>h6 z acv
  have e2:=aX hs;have e3:=aX ht;refine hk _ ⟨hs,.inr ⟨id,j*(U tb).sz,cap - j,_,tb,by rw[e1],h3,?_,?_⟩⟩
  ·grind [uF,acn]
  grind [uF,List.append_assoc,List.drop_left,List.take_left]
end
end Go.Ab
namespace Go.Bf
open Go Go.Ab Go.Proofs.YtcochaoekecfdaaGreatDoor
def hbit:Nat→Nat
 |0=>0
 |1=>4602678819172646912
 |_=>4607182418800017408
def aM(m:aR):AV:=.v (.complex .f64 (hbit m.1) (hbit m.2))
def M9(m:aR):Prop:=m.1≤2∧m.2≤2
def M6(m:aR):Prop:=m∈uW
instance (m:aR):Decidable (M9 m):=inferInstanceAs (Decidable (_∧_))
instance (m:aR):Decidable (M6 m):=inferInstanceAs (Decidable (m∈uW))
theorem M6.m9{m:aR}(h:M6 m):M9 m:=by
 exact ahj
theorem le2{n:Nat}(h:n≤2):n=0∨n=1∨n=2:=acu
theorem yL{m n:aR}(hmm:M9 m)(hn:M9 n)(K:AV→Prop):gp .eql (.complex .f64 (hbit m.1) (hbit m.2)) (.complex .f64 (hbit n.1) (hbit n.2)) K=K (.b (m==n)):=
 ot (fun P ty w=>by
  exact ahg) K
theorem DH{m n:aR}(hmm:M9 m)(hn:M9 n)(K:AV→Prop):gp .neq (.complex .f64 (hbit m.1) (hbit m.2)) (.complex .f64 (hbit n.1) (hbit n.2)) K=K (.b (!(m==n))):=
 ot (fun P ty w=>by
  exact ahg) K
structure Nb (m:aR):Prop where
 na:∀K,gp .eql (.complex .f64 (hbit m.1) (hbit m.2)) (.complex .f64 0 0) K=K (.b (m==naM))
 pe:∀K,gp .eql (.complex .f64 (hbit m.1) (hbit m.2)) (.complex .f64 4607182418800017408 0) K=K (.b (m==aY))
 de:∀K,gp .eql (.complex .f64 (hbit m.1) (hbit m.2)) (.complex .f64 0 4607182418800017408) K=K (.b (m==cC))
 ip:∀K,gp .eql (.complex .f64 (hbit m.1) (hbit m.2)) (.complex .f64 4602678819172646912 0) K=K (.b (m==vY))
 id:∀K,gp .eql (.complex .f64 (hbit m.1) (hbit m.2)) (.complex .f64 0 4602678819172646912) K=K (.b (m==vX))
 ib:∀K,gp .eql (.complex .f64 (hbit m.1) (hbit m.2)) (.complex .f64 4602678819172646912 4602678819172646912) K=K (.b (m==mD))
 nna:∀K,gp .neq (.complex .f64 (hbit m.1) (hbit m.2)) (.complex .f64 0 0) K=K (.b (!(m==naM)))
 npe:∀K,gp .neq (.complex .f64 (hbit m.1) (hbit m.2)) (.complex .f64 4607182418800017408 0) K=K (.b (!(m==aY)))
 nde:∀K,gp .neq (.complex .f64 (hbit m.1) (hbit m.2)) (.complex .f64 0 4607182418800017408) K=K (.b (!(m==cC)))
theorem nb{m:aR}(h:M9 m):Nb m:=
 ⟨yL (n:=naM) h acz,yL (n:=aY) h acz,yL (n:=cC) h acz,yL (n:=vY) h acz,yL (n:=vX) h acz,yL (n:=mD) h acz,
  DH (n:=naM) h acz,DH (n:=aY) h acz,DH (n:=cC) h acz⟩
theorem PJ{a b:Nat}(ha:a≤2)(hb:b≤2)(k:AV→Prop):zP [.v (.float .f64 (hbit a)),.v (.float .f64 (hbit b))] k=k (.v (.float .f64 (hbit (max a b)))):=
 FT (fun P ts ty w=>by
  rcases le2 ha with rfl|rfl|rfl<;>rcases le2 hb with rfl|rfl|rfl<;>rfl) k
structure Fb (a:Nat):Prop where
 one:∀K,gp .eql (.float .f64 (hbit a)) (.float .f64 4607182418800017408) K=K (.b (a==2))
 half:∀K,gp .eql (.float .f64 (hbit a)) (.float .f64 4602678819172646912) K=K (.b (a==1))
 ge:∀K,gp .geq (.float .f64 (hbit a)) (.float .f64 4602678819172646912) K=K (.b (decide (1≤a)))
theorem fb{a:Nat}(h:a≤2):Fb a:=by
 rcases le2 h with rfl|rfl|rfl<;>
  exact⟨ot fun P ty w=>rfl,ot fun P ty w=>rfl,ot fun P ty w=>rfl⟩
end Go.Bf
namespace Go.Proofs.YtcochaoekecfdaaGreatDoor
open Go Go.Ab Go.Bf
theorem B9(m:aR)(hmm:M6 m)(h:Heap):ai Tryz.prog 275 [aM m] h fun r h' =>r= .b true∧h' =h:=by
 have hn:ai Tryz.prog 150 [aM m] h fun r h' =>(∃c l,r= .s (c::l))∧h' =h:=by
  obtain⟨n1,n2,n3,n4,n5,n6⟩:=nb hmm.m9;refine acs Tryz.func150 16 [.tmp 2] fun hwf=>?_
  cases d1:(m==naM)
  case true=>simp only[go_sem,aM,n1,d1];exact .same (.refl _) ⟨⟨_,_,rfl⟩,rfl⟩
  cases d2:(m==aY)
  case true=>simp only[go_sem,aM,n1,n2,d1,d2];exact .same (.refl _) ⟨⟨_,_,rfl⟩,rfl⟩
  cases d3:(m==cC)
  case true=>simp only[go_sem,aM,n1,n2,n3,d1,d2,d3];exact .same (.refl _) ⟨⟨_,_,rfl⟩,rfl⟩
  cases d4:(m==vY)
  case true=>simp only[go_sem,aM,n1,n2,n3,n4,d1,d2,d3,d4];exact .same (.refl _) ⟨⟨_,_,rfl⟩,rfl⟩
  cases d5:(m==vX)
  case true=>simp only[go_sem,aM,n1,n2,n3,n4,n5,d1,d2,d3,d4,d5];exact .same (.refl _) ⟨⟨_,_,rfl⟩,rfl⟩
  have d6:(m==mD)=true:=by
   unfold M6 uW at hmm
   grind
  simp only[go_sem,aM,n1,n2,n3,n4,n5,n6,d1,d2,d3,d4,d5,d6];exact .same (.refl _) ⟨⟨_,_,rfl⟩,rfl⟩
 refine acs Tryz.func275 6 [.tmp 2] fun hwf=>?_
 simp only[go_sem];refine hn.mono ?_
 rintro r h' ⟨⟨c,l,rfl⟩,rfl⟩
 exact agX
theorem yq(m:aR)(hmm:M9 m)(h:Heap):ai Tryz.prog 248 [aM m] h fun r h' =>r=aM (gG m)∧h' =h:=by
 obtain⟨n1,n2,n3,n4,n5,n6⟩:=nb hmm;refine acs Tryz.func248 9 [.tmp 2] fun hwf=>?_
 cases d2:(m==aY)
 case true=>simp only[go_sem,aM,n2,d2];exact .same (.refl _) ⟨by rw[gG,if_pos acv];rfl,rfl⟩
 cases d3:(m==cC)
 case true=>simp only[go_sem,aM,n2,n3,d2,d3];exact .same (.refl _) ⟨by rw[gG,if_neg acv,if_pos acv];rfl,rfl⟩
 simp only[go_sem,aM,n2,n3,d2,d3];exact .same (.refl _) ⟨by rw[gG,if_neg acv,if_neg acv];rfl,rfl⟩
theorem tP(m:aR)(h:Heap):ai Tryz.prog 303 [aM m] h fun r h' =>r= .tup [.v (.float .f64 (hbit m.1)),.v (.float .f64 (hbit m.2))]∧h' =h:=by
 refine acs Tryz.func303 10 [.tmp 2,.tmp 3] fun hwf=>?_
 simp only[go_sem,aM];exact acE
theorem PT(a b:Nat)(h:Heap):ai Tryz.prog 304 [.v (.float .f64 (hbit a)),.v (.float .f64 (hbit b))] h fun r h' =>r=aM (a,b)∧h' =h:=by
 refine acs Tryz.func304 8 [.tmp 4] fun hwf=>?_
 exact agX
theorem OW(m:aR)(h:Heap):ai Tryz.prog 278 [aM m] h fun r h' =>r=aM (EB m)∧h' =h:=by
 refine acs Tryz.func278 13 [.tmp 2] fun hwf=>?_
 simp only[go_sem];refine(tP m _).pthen ?_;simp only[go_sem];refine(PT m.2 m.1 _).pthen ?_;exact agX
theorem N1(a b:aR)(ha:M9 a)(hb:M9 b)(h:Heap):ai Tryz.prog 276 [aM a,aM b] h fun r h' =>r=aM (og a b)∧h' =h:=by
 have m1:=PJ ha.1 hb.1;have m2:=PJ ha.2 hb.2;refine acs Tryz.func276 26 [.tmp 4] fun hwf=>?_
 simp only[go_sem];refine(tP a _).pthen ?_;simp only[go_sem];refine(tP b _).pthen ?_;simp only[go_sem,m1,m2];refine(PT _ _ _).pthen ?_;exact agX
theorem M9.join{a b:aR}(ha:M9 a)(hb:M9 b):M9 (og a b):=⟨Nat.max_le.2 ⟨ha.1,hb.1⟩,Nat.max_le.2 ⟨ha.2,hb.2⟩⟩
theorem HC(j:aR):M6 (qM j):=by
 unfold qM
 repeat' split
 all_goals decide
theorem HD(j:aR)(hj:M9 j)(h:Heap):ai Tryz.prog 277 [aM j] h fun r h' =>r=aM (qM j)∧h' =h:=by
 obtain⟨p1,p2,p3⟩:=fb hj.1;obtain⟨q1,q2,q3⟩:=fb hj.2;refine acs Tryz.func277 29 [.tmp 2] fun hwf=>?_
 simp only[go_sem];refine(tP j _).pthen ?_;cases d1:(j.2==2)
 case true=>simp only[go_sem,q1,d1];exact .same (.refl _) ⟨by rw[qM,if_pos acv];rfl,rfl⟩
 have e1:¬j.2=2:=acv;cases d2:(j.2==1)
 case true=>
  have e2:j.2=1:=acv;cases d3:decide (1≤j.1)
  ·simp only[go_sem,p3,q1,q2,d1,d2,d3];exact .same (.refl _) ⟨by rw[qM,if_neg e1,if_neg acv,if_pos e2];rfl,rfl⟩
  ·simp only[go_sem,p3,q1,q2,d1,d2,d3];exact .same (.refl _) ⟨by rw[qM,if_neg e1,if_pos ⟨e2,ack d3⟩];rfl,rfl⟩
 have e2:¬j.2=1:=acv;cases d4:(j.1==2)
 case true=>simp only[go_sem,p1,q1,q2,d1,d2,d4];exact .same (.refl _) ⟨by rw[qM,if_neg e1,if_neg (fun h=>e2 h.1),if_neg e2,if_pos acv];rfl,rfl⟩
 cases d5:(j.1==1)
 case true=>simp only[go_sem,p1,p2,q1,q2,d1,d2,d4,d5];exact .same (.refl _) ⟨by rw[qM,if_neg e1,if_neg (fun h=>e2 h.1),if_neg e2,if_neg acv,if_pos acv];rfl,rfl⟩
 simp only[go_sem,p1,p2,q1,q2,d1,d2,d4,d5];exact .same (.refl _) ⟨by rw[qM,if_neg e1,if_neg (fun h=>e2 h.1),if_neg e2,if_neg acv,if_neg acv];rfl,rfl⟩
end Go.Proofs.YtcochaoekecfdaaGreatDoor
namespace Go.Bf
open Go Go.Ab Go.Proofs.YtcochaoekecfdaaGreatDoor
def yA(a b:bp):Int:=if bx a=false∨bx b=false then 1 else 2
def kV(a b:bp):AV:=match nu a b with
 |some x=> .tup [.b x,.i 0]
 |none=> .tup [.b false,.i (yA a b)]
theorem AL{a b:bp}(h:bx a=false∨bx b=false):kV a b= .tup [.b false,.i 1]:=by
 unfold kV nu;rw[if_pos acv]
 simp_all [yA,if_pos]
theorem yy{a b:bp}(h1:bx a=true)(h2:bx b=true)(h:a.kind≠b.kind∨a.kind=1):kV a b= .tup [.b false,.i 2]:=by
 simp_all [kV,nu,if_pos,yA]
theorem Of{a b:bp}(h1:bx a=true)(h2:bx b=true)(h:a.kind=b.kind)(h0:a.kind≠1)(ht:a.kind=3∨a.kind=5):kV a b= .tup [.b (Op.bytesLess a.s b.s),.i 0]:=by
 simp_all [kV,nu,if_neg,if_pos]
theorem Oe{a b:bp}(h1:bx a=true)(h2:bx b=true)(h:a.kind=b.kind)(h0:a.kind≠1)(ht:¬(a.kind=3∨a.kind=5)):kV a b= .tup [.b (decide (a.n<b.n)),.i 0]:=by
 simp_all [kV,nu,if_neg]
end Go.Bf
namespace Go.Proofs.YtcochaoekecfdaaGreatDoor
open Go Go.Ab Go.Bf
theorem zw(k:Int)(h:Heap):ai Tryz.prog 108 [.i k] h fun r h' =>r= .b (k==3||k==5)∧h' =h:=by
 refine acs Tryz.func108 9 [.tmp 2] fun hwf=>?_
 cases d1:(k==3)<;>cases d2:(k==5)
 all_goals
  simp only[go_sem,d1,d2];exact acE
theorem B8(a b:bp)(h:Heap):ai Tryz.prog 284 [aO a,aO b] h fun r h' =>r=kV a b∧h' =h:=by
 have ha:=fun(G:Heap)=>fO a G
 have hb:=fun(G:Heap)=>fO b G
 simp only[aO]at ha hb;refine acs Tryz.func284 40 [.tmp 4,.tmp 5] fun hwf=>?_
 simp only[go_sem,aO];intro i1 h1;simp only[go_sem];intro i2 h2;have n21:=aF h2;have n2:=aA h2;have hs:∀x y,Ab.Sub h (upd (upd h i1 x) i2 y):=fun x y=>((Sub.refl h).put h1 x).put n2 y
 simp only[go_sem,ak,n21.symm];refine(ha _).pthen ?_;cases da:bx a
 ·simp only[go_sem]
  exact .mk _ (.refl _) (hs _ _) ⟨by rw[AL (.inl da)];rfl,rfl⟩
 simp only[go_sem];refine(hb _).pthen ?_;cases db:bx b
 ·simp only[go_sem]
  exact .mk _ (.refl _) (hs _ _) ⟨by rw[AL (.inr db)];rfl,rfl⟩
 cases dk:(a.kind !=b.kind)
 case true=>
  simp only[go_sem,ak,n21.symm,dk];exact .mk _ (.refl _) (hs _ _) ⟨by rw[yy da db (.inl acv)];rfl,rfl⟩
 have ek:a.kind=b.kind:=acv;cases d1:(a.kind==1)
 case true=>
  simp only[go_sem,ak,n21.symm,dk,d1];exact .mk _ (.refl _) (hs _ _) ⟨by rw[yy da db (.inr acv)];rfl,rfl⟩
 have e1:a.kind≠1:=acv;simp only[go_sem,ak,n21.symm,dk,d1];refine(zw _ _).pthen ?_;cases dt:(a.kind==3||a.kind==5)
 ·simp only[go_sem,ak,n21.symm]
  exact .mk _ (.refl _) (hs _ _) ⟨by rw[Oe da db ek e1 acv];rfl,rfl⟩
 ·simp only[go_sem,ak,n21.symm]
  exact .mk _ (.refl _) (hs _ _) ⟨by rw[Of da db ek e1 acv];rfl,rfl⟩
def IZ(bag:List bp)(must:Bool):AV:=if bag= []∧must=true then .tup [.sl [] .no,.i 4]else .tup [.sl (bag.map aO) .no,.i 0]
theorem G8(gs:List bn)(cat:Int)(name:Txt)(must:Bool)(hl:gs.length≤1000000000)(hb:∀g∈gs,g.bag.length≤1000000)(h:Heap):ai Tryz.prog 250 [bH gs,.agg [.i cat,.s name,.b must]] h fun r h' =>r=IZ (getD gs cat name) must∧h' =h:=by
 have hpl:=fun G=>L6 gs cat name hl G
 simp only[bH]at hpl;have frz:∀(x:AV) (e:Int),Weak x (.sl [] .no)→Weak (.tup [x,.i e]) (.tup [.sl [] .no,.i e]):=fun x e hx=> .tup _ _ rfl fun i a b=>by
  rcases i with _|_|i
  ·grind
  ·exact adQ
  grind
 refine acs Tryz.func250 30 [.tmp 4,.tmp 5] fun hwf=>?_
 simp only[go_sem,bH];intro i1 h1;simp only[go_sem];refine(hpl _).pthen ?_
 by_cases hx:gs.findIdx (iM cat name)<gs.length
 ·have e1:ixD (iM cat name) gs=(gs.findIdx (iM cat name):Nat):=by simp_all [ixD,if_pos]
  have d1:decide ((0:Int)≤((gs.findIdx (iM cat name):Nat):Int))=true:=decide_eq_true acu;rw[e1];simp only[go_sem,d1];refine .at (gs.findIdx (iM cat name)) acv acL ?_;simp only[go_sem,acj,kT];rw[if_neg (fun hh=>hh.1)]
  have hlb:=hb _ (aco hx);rw[get_at hx];obtain⟨B,eB⟩:∃B,gs[gs.findIdx (iM cat name)].bag=B:=⟨_,rfl⟩;rw[eB]at hlb⊢;refine(CQ _ (B.map aO) _ (eP aO 3 (fun _=>rfl) _ _) acv (bt (fun _=>rfl) _)).pthen ?_
  cases d2:((B.length:Int)==0)
  ·have e2:B≠ []:=by grind
   simp only[go_sem,d2,aci];exact .mk _ (.refl _) (.aj h1) ⟨by rw[IZ,if_neg (fun hh=>e2 hh.1)];rfl,rfl⟩
  ·have e3:(B.length:Int)=0:=by grind
   have e2:B= []:=List.length_eq_zero_iff.1 acu;subst e2;cases must
   ·simp only[go_sem,List.map_nil,List.length_nil]
    exact acM
   ·simp only[go_sem,List.map_nil,List.length_nil]
    exact ael
 ·have e1:ixD (iM cat name) gs= -1:=by simp_all [ixD,if_neg]
  have d1:decide ((0:Int)≤ -1)=false:=rfl;rw[e1,Ra hx];cases must
  ·simp only[go_sem,d1]
   exact .mk (.tup [.sl [] .no,.i 0]) (frz _ _ (.sl _ _)) (.aj h1) ⟨rfl,rfl⟩
  ·simp only[go_sem,d1]
   exact ael
def mu(m:bN)(v:bp):AV:=
 if m.op=1 then(if v.kind=m.val.kind then .tup [.b (eqV v m.val),.i 0]else .tup [.b false,.i 2])
 else if m.op=2 then kV v m.val else kV m.val v
theorem ET(m:bN)(v:bp)(h:Heap):ai Tryz.prog 251 [dI m,aO v] h fun r h' =>r=mu m v∧h' =h:=by
 have hl1:=fun G=>B8 v m.val G
 have hl2:=fun G=>B8 m.val v G
 simp only[aO]at hl1 hl2;refine acs Tryz.func251 42 [.tmp 4,.tmp 5] fun hwf=>?_
 simp only[go_sem,dI,aO];intro i1 h1;simp only[go_sem];intro i2 h2;have n21:=aF h2;have n2:=aA h2;have hs:∀x y,Ab.Sub h (upd (upd h i1 x) i2 y):=fun x y=>((Sub.refl h).put h1 x).put n2 y
 cases d1:(m.op==1)
 case true=>
  have e1:m.op=1:=acv;cases dk:(v.kind !=m.val.kind)
  ·have dk' :v.kind=m.val.kind:=by grind
   simp only[go_sem,ak,n21.symm,d1,dk];exact .mk _ (.refl _) (hs _ _) ⟨by rw[mu,if_pos e1,if_pos dk'];rfl,rfl⟩
  ·simp only[go_sem,ak,n21.symm,d1,dk]
   exact .mk _ (.refl _) (hs _ _) ⟨by rw[mu,if_pos e1,if_neg acv];rfl,rfl⟩
 have e1:m.op≠1:=acv;have aft:∀a b:bp,∃x e,kV a b= .tup [.b x,.i e]:=fun a b=>by
  unfold kV;split
  ·simp
  simp
 cases d2:(m.op==2)
 case true=>
  have e2:m.op=2:=acv;obtain⟨x,e,ee⟩:=aft v m.val;rw[ee]at hl1;simp only[go_sem,ak,n21.symm,d1,d2];refine(hl1 _).pthen ?_;simp only[go_sem];exact .mk _ (.refl _) (hs _ _) ⟨by rw[mu,if_neg e1,if_pos e2,ee];rfl,rfl⟩
 ·have e2:m.op≠2:=by grind
  obtain⟨x,e,ee⟩:=aft m.val v;rw[ee]at hl2;simp only[go_sem,ak,n21.symm,d1,d2];refine(hl2 _).pthen ?_;simp only[go_sem];exact .mk _ (.refl _) (hs _ _) ⟨by rw[mu,if_neg e1,if_neg e2,ee];rfl,rfl⟩
theorem Bw(m:bN)(v:bp):∃e:Int,(e !=0)=(cM m v==none)∧mu m v= .tup [.b (cM m v==some true),.i e]:=by
 have hl:∀a b:bp,∃e:Int,(e !=0)=(nu a b==none)∧kV a b= .tup [.b (nu a b==some true),.i e]:=fun a b=>by
  unfold kV;cases hx:nu a b with
  |some x=>simp
  |none=>refine⟨yA a b,?_,rfl⟩;grind [yA]
 unfold mu cM
 by_cases e1:m.op=1
 ·rw[if_pos e1,if_pos e1]
  by_cases ek:v.kind=m.val.kind
  ·rw[if_pos ek,if_pos ek]
   exact⟨0,rfl,acD⟩
  ·rw[if_neg ek,if_neg ek]
   exact⟨2,rfl,rfl⟩
 ·rw[if_neg e1,if_neg e1]
  by_cases e2:m.op=2
  ·rw[if_pos e2,if_pos e2];exact hl _ _
  ·rw[if_neg e2,if_neg e2];exact hl _ _
theorem I0(bag:List bp)(must:Bool):∃e:Int,(e !=0)=decide (bag= []∧must=true)∧IZ bag must= .tup [.sl (bag.map aO) .no,.i e]:=by
 unfold IZ;split
 ·simp_all
 grind
def rI(gs:List bn):Prop:=gs.length≤1000000∧∀g∈gs,g.bag.length≤1000000
theorem rI.bag{gs:List bn}(h:rI gs)(a:pV):(xL gs a).length≤1000000:=by
 unfold xL getD;split
 ·rename_i g hg;exact h.2 g acv
 ·simp
theorem AP(m:bN)(gs:List bn)(hf:rI gs)(h:Heap):ai Tryz.prog 214 [dI m,bH gs] h fun r h' =>r= .i (jM gs m:Nat)∧h' =h:=by
 have hg:=fun G=>G8 gs m.attr.cat m.attr.name m.attr.must (by have:=hf.1;omega) hf.2 G
 have hbl:=hf.bag m.attr;obtain⟨B,eB⟩:∃B,xL gs m.attr=B:=⟨_,rfl⟩;have eg:Go.Bf.getD gs m.attr.cat m.attr.name=B:=eB;rw[eB]at hbl;rw[eg]at hg;have hmm:jM gs m=if B= []∧m.attr.must=true then 1 else if B.any (fun v=>cM m v==some true)then 2 else if B.any (fun v=>cM m v==none)then 1 else 0:=by
  unfold jM;rw[eB]
 obtain⟨eg,hge,hga⟩:=I0 B m.attr.must;rw[hga]at hg;have hag:=fun(v:bp) (G:Heap)=>ET m v G
 simp only[dI,bH,aO]at hag hg;refine acs Tryz.func214 38 [.tmp 4] fun hwf=>?_
 simp only[go_sem,dI,bH];intro i1 h1;simp only[go_sem];refine(hg _).pthen ?_;cases d0:decide (B= []∧m.attr.must=true)
 case true=>
  rw[d0]at hge;simp only[go_sem,hge];exact .mk _ (.refl _) (.aj h1) ⟨by rw[hmm,if_pos (ack d0)];rfl,rfl⟩
 rw[d0]at hge;rw[if_neg (acm d0)]at hmm;simp only[go_sem,hge,aci];obtain⟨H,eH⟩:∃H,upd h i1 (some (.obj [.i m.attr.cat,.s m.attr.name,.b m.attr.must,.i m.op,.i m.val.kind,.i m.val.n,.s m.val.s] 273))=H:=⟨_,rfl⟩;have hH:Ab.Sub h H:=by rw[←eH];exact .aj h1
 have k1:H i1=some (.obj [.i m.attr.cat,.s m.attr.name,.b m.attr.must,.i m.op,.i m.val.kind,.i m.val.n,.s m.val.s] 273):=adX;rw[eH];clear eH;refine .intro (fun q ρ G=>Ab.Sub H G∧∃i:Nat,i≤B.length∧q=B.length - i∧(∀j (hj:j<i) (h2:j<B.length),(cM m B[j]==some true)=false)∧lk ρ 2=some (.ptr i1 0)∧lk ρ 7=some (.i (if(B.take i).any (fun v=>cM m v==none)then 1 else 0))∧lk ρ 21=some (.sl (B.map aO) .no)∧lk ρ 22=some (.i B.length)∧lk ρ 23=some (.i i)) B.length ?_ ?_
 ·refine⟨.refl _,0,acu,rfl,fun j hj=>acu,?_,?_,?_,?_,?_⟩<;>simp only[go_sem]
  simp
 ·rintro q ρ G ⟨hs,i,hi,rfl,hc,r2,r7,r21,r22,r23⟩
  have k1' :=hs _ _ k1;simp only[go_sem,r22,r23];refine .intro (fun e=>?_) (fun e=>?_)
  ·have hlt:i<B.length:=acq e
   have w1:=acp i acu;have hsn:(B.take (i+1)).any (fun v=>cM m v==none)=((B.take i).any (fun v=>cM m v==none)||(cM m B[i]==none)):=any_succ hlt
   have ix:=fun k=>fA.eq (xs:=B.map aO) (sz:=3) i acU acL k
   rw[acj]at ix;have hci:=fun(d:(cM m B[i]==some true)=false)=>(fun j (hj:j<i+1) (h2:j<B.length)=>(by
    by_cases hji:j=i
    ·subst hji;exact d
    ·exact hc j acu h2:(cM m B[j]==some true)=false))
   have hat:=fun(d:(cM m B[i]==some true)=true)=>(List.any_eq_true.2 ⟨B[i],aco hlt,d⟩:B.any (fun v=>cM m v==some true)=true)
   obtain⟨v,ev⟩:∃v,B[i]=v:=⟨_,rfl⟩;rw[ev]at ix hsn hci hat;simp only[aO]at ix;obtain⟨e,he1,he2⟩:=Bw m v;have hag1:=hag v;rw[he2]at hag1;simp only[go_sem,r21,r23,ix];intro i4 h4;have n41:i4≠i1:=fun e=>by rw[e,k1']at h4;cases h4
   simp only[go_sem,r2,ak,n41.symm,k1'];refine(hag1 _).pthen ?_;cases d1:(cM m v==some true)
   ·cases d2:(cM m v==none)
    ·rw[d2]at he1 hsn
     rw[Bool.or_false]at hsn;simp only[go_sem,r23,he1,w1];refine⟨_,?_,hs.trans (.aj h4),i+1,acu,rfl,hci d1,?_,?_,?_,?_,?_⟩
     ·omega
     all_goals simp only[go_sem,r2,r7,r21,r22,hsn]
    ·rw[d2]at he1 hsn
     rw[Bool.or_true]at hsn;simp only[go_sem,r23,he1,w1];refine⟨_,?_,hs.trans (.aj h4),i+1,acu,rfl,hci d1,?_,?_,?_,?_,?_⟩
     ·omega
     all_goals simp only[go_sem,r2,r21,r22,hsn]
   ·simp only[go_sem]
    refine .mk _ (.refl _) (hH.trans (hs.trans (.aj h4))) ⟨by rw[hmm,if_pos (hat d1)];rfl,rfl⟩
  ·have hge:i=B.length:=by have:=acm e;omega
   subst hge;rw[List.take_length]at r7;simp only[go_sem,r7];refine .mk _ (.refl _) (hH.trans hs) ⟨?_,rfl⟩;have hno:B.any (fun v=>cM m v==some true)=false:=List.any_eq_false.2 fun x hx=>by
    obtain⟨j,hj,rfl⟩:=List.mem_iff_getElem.1 hx;rw[hc j hj hj];decide
   rw[hmm,hno];cases B.any (fun v=>cM m v==none)<;>rfl
theorem Hv(a b:Nat):(if((b:Int)<(a:Int))then(b:Int)else(a:Int))=((min a b:Nat):Int):=by
 grind
theorem Oh(a b:Nat):(if((a:Int)<(b:Int))then(b:Int)else(a:Int))=((max a b:Nat):Int):=by
 grind
theorem Np(l:List bN)(hl:l.length≤1000000)(gs:List bn)(hf:rI gs)(h:Heap):ai Tryz.prog 244 [iQ l,bH gs] h fun r h' =>r= .i (CC gs l:Nat)∧h' =h:=by
 have hmt:=fun(m:bN) (G:Heap)=>AP m gs hf G
 simp only[dI,bH]at hmt;refine acs Tryz.func244 21 [.tmp 4] fun hwf=>?_
 simp only[go_sem,iQ,bH,aci];refine .intro (fun q ρ G=>Ab.Sub h G∧∃i:Nat,i≤l.length∧q=l.length - i∧lk ρ 1=some (.sl (gs.map kT) .no)∧lk ρ 5=some (.i (CC gs (l.take i):Nat))∧lk ρ 8=some (.sl (l.map dI) .no)∧lk ρ 9=some (.i l.length)∧lk ρ 10=some (.i i)) l.length ?_ ?_
 ·exact aia
 ·rintro q ρ G ⟨hs,i,hi,rfl,r1,r5,r8,r9,r10⟩
  simp only[go_sem,r9,r10];refine .intro (fun e=>?_) (fun e=>?_)
  ·have hlt:i<l.length:=acq e
   have w1:IntKind.i64.wrap ((i:Int)+1)=((i+1:Nat):Int):=acI;have hsn:CC gs (l.take (i+1))=min (CC gs (l.take i)) (jM gs l[i]):=by
    grind [CC,List.take_succ_eq_append_getElem]
   have ix:=fun k=>fA.eq (xs:=l.map dI) (sz:=7) i acv acL k
   rw[acj]at ix;obtain⟨m,em⟩:∃m,l[i]=m:=⟨_,rfl⟩;rw[em]at ix hsn;have hmt1:=hmt m;simp only[dI]at ix;simp only[go_sem,r8,r10,ix];intro i4 h4;simp only[go_sem,r1,r5];refine(hmt1 _).pthen ?_;simp only[go_sem,r10,Hv,w1];refine⟨_,?_,hs.trans (.aj h4),i+1,acu,rfl,?_,?_,?_,?_,?_⟩
   ·omega
   all_goals simp only[go_sem,r1,r8,r9,hsn]
  ·have hge:i=l.length:=by grind
   exact ahT
def Nf(t:fW):Prop:=t.length≤1000000∧∀x∈t,x.length≤1000000∧∀l∈x,l.length≤1000000
theorem LM(t:fW)(ht:Nf t)(gs:List bn)(hf:rI gs)(h:Heap):ai Tryz.prog 210 [aU t,bH gs] h fun r h' =>r= .i (mH gs t:Nat)∧h' =h:=by
 have hat:=fun(l:List bN) (hl:l.length≤1000000) (G:Heap)=>Np l hl gs hf G
 simp only[iQ,bH]at hat;have htl:=ht.1;refine acs Tryz.func210 34 [.tmp 4] fun hwf=>?_
 simp only[go_sem,aU,bH,aci];refine .intro (fun q ρ G=>Ab.Sub h G∧∃i:Nat,i≤t.length∧q=t.length - i∧lk ρ 1=some (.sl (gs.map kT) .no)∧lk ρ 5=some (.i (mH gs (t.take i):Nat))∧lk ρ 11=some (.sl (t.map cN) .no)∧lk ρ 12=some (.i t.length)∧lk ρ 13=some (.i i)) t.length ?_ ?_
 ·exact aia
 ·rintro q ρ G ⟨hs,i,hi,rfl,r1,r5,r11,r12,r13⟩
  simp only[go_sem,r12,r13];refine .intro (fun e=>?_) (fun e=>?_)
  ·have hlt:i<t.length:=acq e
   have w1:IntKind.i64.wrap ((i:Int)+1)=((i+1:Nat):Int):=acI;have hsn:mH gs (t.take (i+1))=min (mH gs (t.take i)) (zJ gs t[i]):=by
    grind [mH,List.take_succ_eq_append_getElem]
   have ix:=fun k=>fA.eq (xs:=t.map cN) (sz:=1) i acv acL k
   rw[acj]at ix;obtain⟨hx1,hx2⟩:=ht.2 t[i] (aco hlt);obtain⟨x,ex⟩:∃x,t[i]=x:=⟨_,rfl⟩;rw[ex]at ix hsn hx1 hx2;simp only[cN]at ix;simp only[go_sem,r11,r13,ix,aci];refine .intro (fun q ρ' K=>Ab.Sub h K∧∃n:Nat,n≤x.length∧q=x.length - n∧lk ρ' 1=some (.sl (gs.map kT) .no)∧lk ρ' 5=some (.i (mH gs (t.take i):Nat))∧lk ρ' 8=some (.i (zJ gs (x.take n):Nat))∧lk ρ' 11=some (.sl (t.map cN) .no)∧lk ρ' 12=some (.i t.length)∧lk ρ' 13=some (.i i)∧lk ρ' 17=some (.sl (x.map iQ) .no)∧lk ρ' 18=some (.i x.length)∧lk ρ' 19=some (.i n)) x.length ?_ ?_
   ·refine⟨hs,0,acu,rfl,?_,?_,?_,?_,?_,?_,?_,?_,?_⟩<;>simp only[go_sem,r1,r5,r11,r12,r13]
    rfl
   ·rintro q ρ' K ⟨hs',n,hn,rfl,s1,s5,s8,s11,s12,s13,s17,s18,s19⟩
    simp only[go_sem,s18,s19];refine .intro (fun e=>?_) (fun e=>?_)
    ·have hlt2:n<x.length:=acq e
     have w2:IntKind.i64.wrap ((n:Int)+1)=((n+1:Nat):Int):=acI;have hsn2:zJ gs (x.take (n+1))=max (zJ gs (x.take n)) (CC gs x[n]):=by
      grind [zJ,List.take_succ_eq_append_getElem]
     have ix2:=fun k=>fA.eq (xs:=x.map iQ) (sz:=1) n acv acL k
     rw[acj]at ix2;have hx3:=hx2 x[n] (aco hlt2);obtain⟨l,el⟩:∃l,x[n]=l:=⟨_,rfl⟩;rw[el]at ix2 hsn2 hx3;simp only[iQ]at ix2;simp only[go_sem,s1,s8,s17,s19,ix2];refine(hat l hx3 _).pthen ?_;simp only[go_sem,s19,Oh,w2];refine⟨_,?_,hs',n+1,acu,rfl,?_,?_,?_,?_,?_,?_,?_,?_,?_⟩
     ·omega
     all_goals simp only[go_sem,s1,s5,s11,s12,s13,s17,s18,hsn2]
    ·have hge:n=x.length:=by grind
     subst hge;rw[List.take_length]at s8;simp only[go_sem,s5,s8,s13,Hv,w1];refine⟨_,?_,hs',i+1,acu,rfl,?_,?_,?_,?_,?_⟩
     ·omega
     all_goals simp only[go_sem,s1,s11,s12,hsn]
  ·have hge:i=t.length:=by grind
   exact ahT
end Go.Proofs.YtcochaoekecfdaaGreatDoor
namespace Go.Bf
open Go Go.Ab Go.Proofs.YtcochaoekecfdaaGreatDoor
def zR(o:Bool)(n:Int):AV:=if o then .tup [.i 0,.i 3]else .tup [.i (w64 n),.i 0]
def rf(r:bp×Int):AV:=.tup [aO r.1,.i r.2]
end Go.Bf
namespace Go.Proofs.YtcochaoekecfdaaGreatDoor
open Go Go.Ab Go.Bf
theorem Qw(a b:Int)(h:Heap):ai Tryz.prog 325 [.i a,.i b] h fun r h' =>r=zR (Kn a b) (a+b)∧h' =h:=by
 refine acs Tryz.func325 27 [.tmp 4,.tmp 5] fun hwf=>?_
 cases d1:decide (0<b)<;>cases d2:decide (IntKind.i64.wrap (9223372036854775807 - b)<a)<;>cases d3:decide (b<0)<;>cases d4:decide (a<IntKind.i64.wrap (-9223372036854775808 - b))
 all_goals
  simp -implicitDefEqProofs only[go_sem,d1,d2,d3,d4];exact .same (.refl _) ⟨by simp only[zR,Kn,w64,d1,d2,d3,d4];rfl,rfl⟩
theorem RZ(a b:Int)(h:Heap):ai Tryz.prog 326 [.i a,.i b] h fun r h' =>r=zR (MC a b) (a - b)∧h' =h:=by
 refine acs Tryz.func326 27 [.tmp 4,.tmp 5] fun hwf=>?_
 cases d1:decide (0<b)<;>cases d2:decide (a<IntKind.i64.wrap (-9223372036854775808+b))<;>cases d3:decide (b<0)<;>cases d4:decide (IntKind.i64.wrap (9223372036854775807+b)<a)
 all_goals
  simp -implicitDefEqProofs only[go_sem,d1,d2,d3,d4];exact .same (.refl _) ⟨by simp only[zR,MC,w64,d1,d2,d3,d4];rfl,rfl⟩
theorem Ru(a b:Int)(h:Heap):ai Tryz.prog 327 [.i a,.i b] h fun r h' =>r=zR (Jq a b) (a*b)∧h' =h:=by
 refine acs Tryz.func327 36 [.tmp 4,.tmp 5] fun hwf=>?_
 cases d0:(a !=0)
 ·have e0:a=0:=by grind
  subst e0;cases d1:(b== -1)
  all_goals
   simp -implicitDefEqProofs only[go_sem,d1];exact .same (.refl _) ⟨by simp[zR,Jq,w64,ax],rfl⟩
 have e0:a≠0:=acv;cases d1:(a== -1)<;>cases d2:(b== -9223372036854775808)<;>cases d3:(b== -1)<;>cases d4:(a== -9223372036854775808)<;>cases d5:(IntKind.i64.wrap ((IntKind.i64.wrap (a*b)).tdiv a) !=b)
 all_goals
  simp -implicitDefEqProofs only[go_sem,d0,d1,d2,d3,d4,d5,e0];exact .same (.refl _) ⟨by simp only[zR,Jq,w64,d0,d1,d2,d3,d4,d5];rfl,rfl⟩
theorem Bj(b:Bool)(h:Heap):ai Tryz.prog 323 [.b b] h fun r h' =>r=aO (dK b)∧h' =h:=by
 refine acs Tryz.func323 8 [.cell 2 30] fun hwf=>?_
 simp -implicitDefEqProofs only[go_sem];intro i1 h1;simp -implicitDefEqProofs only[go_sem];intro i2 h2;have n21:=aF h2;have n2:=aA h2;cases b
 all_goals
  simp -implicitDefEqProofs only[go_sem,ak,n21.symm];exact .mk _ (.refl _) ((((Sub.refl h).put h1 _).put n2 _).put h1 _) ⟨rfl,rfl⟩
theorem BG(kind:Int)(l:List bp)(hl:l.length≤1000000)(p:Perm)(h:Heap):ai Tryz.prog 328 [.i kind,.sl (l.map aO) p] h fun r h' =>r= .b (l.all fun v=>v.kind==kind)∧h' =h:=by
 refine acs Tryz.func328 18 [.tmp 4] fun hwf=>?_
 simp -implicitDefEqProofs only[go_sem,aci];refine .intro (fun q ρ G=>Ab.Sub h G∧∃i:Nat,i≤l.length∧q=l.length - i∧(∀j (hj:j<i) (h2:j<l.length),(l[j].kind==kind)=true)∧lk ρ 0=some (.i kind)∧lk ρ 7=some (.sl (l.map aO) p)∧lk ρ 8=some (.i l.length)∧lk ρ 9=some (.i i)) l.length ?_ ?_
 ·refine⟨.refl _,0,acu,rfl,fun j hj=>acu,?_,?_,?_,?_⟩<;>simp -implicitDefEqProofs only[go_sem]
 ·rintro q ρ G ⟨hs,i,hi,rfl,hc,r0,r7,r8,r9⟩
  simp -implicitDefEqProofs only[go_sem,r8,r9];refine .intro (fun e=>?_) (fun e=>?_)
  ·have hlt:i<l.length:=acq e
   have w1:IntKind.i64.wrap ((i:Int)+1)=((i+1:Nat):Int):=acI;have ix:=fun k=>fA.eq (xs:=l.map aO) (sz:=3) i acv acL k
   rw[acj]at ix;have hci:=fun(d:(l[i].kind==kind)=true)=>(fun j (hj:j<i+1) (h2:j<l.length)=>(by
    grind:(l[j].kind==kind)=true))
   have hat:=fun(d:(l[i].kind==kind)=false)=>(List.all_eq_false.2 ⟨l[i],aco hlt,acv⟩:(l.all fun v=>v.kind==kind)=false)
   obtain⟨v,ev⟩:∃v,l[i]=v:=⟨_,rfl⟩;rw[ev]at ix hci hat;simp only[aO]at ix;cases d1:(v.kind==kind)
   ·have d2:(v.kind !=kind)=true:=by grind
    simp -implicitDefEqProofs only[go_sem,r7,r9,ix];intro i4 h4;simp -implicitDefEqProofs only[go_sem,r0,d2];exact .mk _ (.refl _) (hs.trans (.aj h4)) ⟨agB,rfl⟩
   ·have d2:(v.kind !=kind)=false:=by grind
    simp -implicitDefEqProofs only[go_sem,r7,r9,ix];intro i4 h4;simp -implicitDefEqProofs only[go_sem,r0,r9,d2,w1];refine⟨_,?_,hs.trans (.aj h4),i+1,acu,rfl,hci d1,?_,?_,?_,?_⟩
    ·omega
    all_goals simp -implicitDefEqProofs only[go_sem,r0,r7,r8]
  ·have hge:i=l.length:=by grind
   simp -implicitDefEqProofs only[go_sem];exact .mk _ (.refl _) hs ⟨by rw[List.all_eq_true.2 fun x hx=>afg];rfl,rfl⟩
theorem F1(g:FuncId)(a b:bp)(o:Bool)(n:Int)(hg:∀G,ai Tryz.prog g [.i a.n,.i b.n] G fun r h' =>r=zR o n∧h' =G)(p:Perm)(h:Heap):
  ai Tryz.prog 324 [.fn g [],.sl [aO a,aO b] p] h fun r h' =>r=rf (if([a,b].all fun v=>v.kind==2)then zS o n else nL 2)∧h' =h:=by
 have ix0:=fun k=>fA.eq (xs:=[aO a,aO b]) (sz:=3) 0 acD rfl k
 have ix1:=fun k=>fA.eq (xs:=[aO a,aO b]) (sz:=3) 1 acD rfl k
 simp only[List.getElem_cons_zero,List.getElem_cons_succ,aO,Int.natCast_zero,Int.natCast_one]at ix0 ix1;have hal:=fun(G:Heap)=>BG 2 [a,b] acD p G
 simp only[List.map_cons,List.map_nil,aO]at hal;refine acs Tryz.func324 31 [.cell 4 30,.tmp 5] fun hwf=>?_
 simp -implicitDefEqProofs only[go_sem,aO];intro i1 h1;simp -implicitDefEqProofs only[go_sem];refine(hal _).pthen ?_;cases d1:([a,b].all fun v=>v.kind==2)
 ·simp -implicitDefEqProofs only[go_sem]
  exact acM
 ·simp -implicitDefEqProofs only[go_sem]
  refine .quiet acw ?_;simp -implicitDefEqProofs only[go_sem,ix0,ix1];cases o
  ·refine⟨_,hg _,?_⟩
   simp -implicitDefEqProofs only[go_sem,zR];exact acM
  ·refine⟨_,hg _,?_⟩
   simp -implicitDefEqProofs only[go_sem,zR];exact acM
theorem xl{α:Type}{l:List α}(h:l.length=2):∃a b,l= [a,b]:=by
 match l,h with
 | [a,b],_=>exact⟨a,b,rfl⟩
def FU(op:Int)(l:List bp):Bool:= !(decide (op<6)||decide (13<op)||(l.length:Int) !=(if op==11 then 1 else 2)) && l.all bx
theorem Rr(op:Int)(l:List bp)(hl:l.length≤1000000)(p:Perm)(h:Heap):ai Tryz.prog 322 [.i op,.sl (l.map aO) p] h fun r h' =>r= .b (FU op l)∧h' =h:=by
 have hvr:=fun(v:bp) (G:Heap)=>fO v G
 simp only[aO]at hvr;refine acs Tryz.func322 32 [.tmp 4] fun hwf=>?_
 cases d11:(op==11)
 all_goals
  have hmm:FU op l=(!(decide (op<6)||decide (13<op)||(l.length:Int) !=(if op==11 then 1 else 2)) && l.all bx):=rfl
  rw[d11]at hmm;simp only[if_true,Bool.false_eq_true,if_false]at hmm;cases d6:decide (op<6)
  case true=>
   rw[d6]at hmm;simp -implicitDefEqProofs only[go_sem,d11,d6];exact .same (.refl _) ⟨by rw[hmm];rfl,rfl⟩
  cases d13:decide (13<op)
  case true=>
   rw[d6,d13]at hmm;simp -implicitDefEqProofs only[go_sem,d11,d6,d13];exact .same (.refl _) ⟨by rw[hmm];rfl,rfl⟩
  rw[d6,d13]at hmm;simp only[Bool.or_false,Bool.false_or]at hmm;obtain⟨b,eb⟩:∃b,((l.length:Int) !=(if op==11 then 1 else 2))=b:=⟨_,rfl⟩
  rw[d11]at eb;simp only[if_true,Bool.false_eq_true,if_false]at eb;rw[eb]at hmm;cases b
  case true=>
   simp -implicitDefEqProofs only[go_sem,d11,d6,d13,aci,eb];exact .same (.refl _) ⟨by rw[hmm];rfl,rfl⟩
  simp only[Bool.not_false,Bool.true_and]at hmm;simp -implicitDefEqProofs only[go_sem,d11,d6,d13,aci,eb];refine .intro (fun q ρ G=>Ab.Sub h G∧∃i:Nat,i≤l.length∧q=l.length - i∧(∀j (hj:j<i) (h2:j<l.length),bx l[j]=true)∧lk ρ 22=some (.sl (l.map aO) p)∧lk ρ 23=some (.i l.length)∧lk ρ 24=some (.i i)) l.length ?_ ?_
  ·refine⟨.refl _,0,acu,rfl,fun j hj=>acu,?_,?_,?_⟩<;>simp -implicitDefEqProofs only[go_sem]
  ·rintro q ρ G ⟨hs,i,hi,rfl,hc,r22,r23,r24⟩
   simp -implicitDefEqProofs only[go_sem,r23,r24];refine .intro (fun e=>?_) (fun e=>?_)
   ·have hlt:i<l.length:=acq e
    have w1:IntKind.i64.wrap ((i:Int)+1)=((i+1:Nat):Int):=acI;have ix:=fun k=>fA.eq (xs:=l.map aO) (sz:=3) i acv acL k
    rw[acj]at ix;have hci:=fun(d:bx l[i]=true)=>(fun j (hj:j<i+1) (h2:j<l.length)=>(by
     grind:bx l[j]=true))
    have hat:=fun(d:bx l[i]=false)=>(List.all_eq_false.2 ⟨l[i],aco hlt,acv⟩:l.all bx=false)
    obtain⟨v,ev⟩:∃v,l[i]=v:=⟨_,rfl⟩;rw[ev]at ix hci hat;simp only[aO]at ix;simp -implicitDefEqProofs only[go_sem,r22,r24,ix];intro i4 h4;simp -implicitDefEqProofs only[go_sem];refine(hvr v _).pthen ?_;cases d1:bx v
    ·simp -implicitDefEqProofs only[go_sem]
     exact .mk _ (.refl _) (hs.trans (.aj h4)) ⟨by rw[hmm,hat d1];rfl,rfl⟩
    ·simp -implicitDefEqProofs only[go_sem,r24,w1]
     refine⟨_,?_,hs.trans (.aj h4),i+1,acu,rfl,hci d1,?_,?_,?_⟩
     ·omega
     all_goals simp -implicitDefEqProofs only[go_sem,r22,r23]
   ·have hge:i=l.length:=by grind
    simp -implicitDefEqProofs only[go_sem];exact .mk _ (.refl _) hs ⟨by rw[hmm,List.all_eq_true.2 fun x hx=>afg];rfl,rfl⟩
theorem KG{op:Int}{l:List bp}(h:FU op l=false):gO op l=nL 1:=by
 unfold gO;rw[if_pos]
 by_cases h1:6≤op∧op≤13
 ·by_cases h2:l.length=if op=11 then 1 else 2
  ·refine .inr (.inr ?_)
   unfold FU at h
   grind
  omega
 omega
theorem Iq{op:Int}{l:List bp}(h:FU op l=true):(6≤op∧op≤13)∧l.all bx=true∧(op=11∧(∃a,l= [a])∨op≠11∧∃a b,l= [a,b]):=by
 unfold FU at h;simp only[Bool.and_eq_true,Bool.not_eq_true',Bool.or_eq_false_iff,decide_eq_false_iff_not]at h;obtain⟨⟨⟨h1,h2⟩,h3⟩,h4⟩:=h;refine⟨acu,h4,?_⟩
 by_cases e:op=11
 ·subst e
  have h3' :(l.length:Int)=1:=acv;exact .inl ⟨rfl,List.length_eq_one_iff.1 acu⟩
 ·have h3' :(l.length:Int)=2:=by grind
  exact .inr ⟨e,xl acu⟩
theorem BK(op:Int)(l:List bp)(hl:l.length≤1000000)(p:Perm)(h:Heap):ai Tryz.prog 319 [.i op,.sl (l.map aO) p] h fun r h' =>r=rf (gO op l)∧h' =h:=by
 have hmy:=fun G=>Rr op l hl p G
 cases dm:FU op l
 ·rw[dm]at hmy
  refine acs Tryz.func319 111 [.cell 4 30,.tmp 5] fun hwf=>?_
  simp -implicitDefEqProofs only[go_sem];intro i1 h1;simp -implicitDefEqProofs only[go_sem];refine(hmy _).pthen ?_;simp -implicitDefEqProofs only[go_sem];exact .mk _ (.refl _) (.aj h1) ⟨by rw[KG dm];rfl,rfl⟩
 rw[dm]at hmy;obtain⟨hop,hall,hf⟩:=Iq dm;rcases hf with⟨rfl,a,rfl⟩|⟨e11,a,b,rfl⟩
 ·have ix0:=fun k=>fA.eq (xs:=[aO a]) (sz:=3) 0 acD rfl k
  simp only[List.getElem_cons_zero,aO,Int.natCast_zero]at ix0;have hal:=fun(G:Heap)=>BG 1 [a] acD p G
  simp only[List.map_cons,List.map_nil,aO]at hal hmy;have hc:gO 11 [a]=if(([a].all fun v=>v.kind==1)=false)then nL 2 else(dK (a.n==0),0):=by
   unfold gO;rw[if_neg (by simp[hall])]
   simp
  have htr:=fun G=>Bj (a.n==0) G
  refine acs Tryz.func319 111 [.cell 4 30,.tmp 5] fun hwf=>?_
  simp -implicitDefEqProofs only[go_sem,List.map_cons,List.map_nil,aO];intro i1 h1;simp -implicitDefEqProofs only[go_sem];refine(hmy _).pthen ?_;simp -implicitDefEqProofs only[go_sem];refine(hal _).pthen ?_;cases d1:([a].all fun v=>v.kind==1)
  ·simp -implicitDefEqProofs only[go_sem]
   exact .mk _ (.refl _) (.aj h1) ⟨by rw[hc,if_pos d1];rfl,rfl⟩
  ·simp -implicitDefEqProofs only[go_sem,ix0]
   refine(htr _).pthen ?_;simp -implicitDefEqProofs only[go_sem,aO];exact .mk _ (.refl _) (.aj h1) ⟨by rw[hc,if_neg (by rw[d1];decide)];rfl,rfl⟩
 ·have ix0:=fun k=>fA.eq (xs:=[aO a,aO b]) (sz:=3) 0 acD rfl k
  have ix1:=fun k=>fA.eq (xs:=[aO a,aO b]) (sz:=3) 1 acD rfl k
  simp only[List.getElem_cons_zero,List.getElem_cons_succ,aO,Int.natCast_zero,Int.natCast_one]at ix0 ix1;have hal:=fun(G:Heap)=>BG 1 [a,b] acD p G
  have hva:bx a=true∧bx b=true:=by simpa using hall
  have hnu:=fun(g:FuncId) (o:Bool) (n:Int) hg (G:Heap)=>F1 g a b o n hg p G
  simp only[List.map_cons,List.map_nil,aO]at hal hmy hnu;have hle:=fun G=>B8 a b G
  simp only[aO]at hle;have htr:=fun(x:Bool) G=>Bj x G
  have hc:gO op [a,b]=if op=6 then(if a.kind=b.kind then(dK (eqV a b),0)else nL 2)
    else if op=7 then(match nu a b with
     |some x=>(dK x,0)
     |none=>nL 2)
    else if op=8∨op=9∨op=10 then
     (if [a,b].all fun v=>v.kind==2 then(if op=8 then zS (Kn a.n b.n) (a.n+b.n)else if op=9 then zS (MC a.n b.n) (a.n - b.n)else zS (Jq a.n b.n) (a.n*b.n))else nL 2)
    else if([a,b].all fun v=>v.kind==1)=false then nL 2
    else if op=12 then(dK (a.n==1 && b.n==1),0)
    else(dK (a.n==1||b.n==1),0):=by
   unfold gO;rw[if_neg (by simp[hall,e11,hop.1,hop.2])]
   simp only[e11,if_false];rfl
  refine acs Tryz.func319 111 [.cell 4 30,.tmp 5] fun hwf=>?_
  simp -implicitDefEqProofs only[go_sem,List.map_cons,List.map_nil,aO];intro i1 h1;simp -implicitDefEqProofs only[go_sem];refine(hmy _).pthen ?_;rcases(show op=6∨op=7∨op=8∨op=9∨op=10∨op=12∨op=13 by omega)with rfl|rfl|rfl|rfl|rfl|rfl|rfl
  ·simp -implicitDefEqProofs only[go_sem]
   refine⟨.of acw,?_⟩;cases dk:(a.kind !=b.kind)
   case true=>
    simp -implicitDefEqProofs only[go_sem,ix0,ix1,dk];exact .mk _ (.refl _) (.aj h1) ⟨by rw[hc,if_pos rfl,if_neg (by simpa using dk)];rfl,rfl⟩
   ·simp -implicitDefEqProofs only[go_sem,ix0,ix1,dk]
    refine .calls cL [0,1,2,3,4,5,6,7,8,9] (fun _ _ e=>acV) acw rfl ?_
    simp -implicitDefEqProofs only[go_sem,ix0,ix1];have htr1:=htr (eqV a b);simp only[eqV]at htr1;refine(htr1 _).pthen ?_;refine⟨fun _ _ e=>acV,?_⟩
    simp -implicitDefEqProofs only[go_sem,aO];refine⟨fun _ _ e=>acV,?_⟩
    exact .mk _ (.refl _) (.aj h1) ⟨by rw[hc,if_pos rfl,if_pos (by simpa using dk)];rfl,rfl⟩
  ·have hc7:gO 7 [a,b]=(match nu a b with
     |some x=>(dK x,0)
     |none=>nL 2):=by rw[hc];rfl
   simp -implicitDefEqProofs only[go_sem];refine .quiet acw ?_;simp -implicitDefEqProofs only[go_sem,ix0,ix1];refine⟨_,hle _,?_⟩;cases hl:nu a b with
   |none=>
    have e2:yA a b=2:=by simp[yA,hva]
    rw[hl]at hc7;simp -implicitDefEqProofs only[go_sem,kV,hl,e2];exact .mk _ (.refl _) (.aj h1) ⟨by rw[hc7];rfl,rfl⟩
   |some x=>
    rw[hl]at hc7;simp -implicitDefEqProofs only[go_sem,kV,hl];refine(htr x _).pthen ?_;simp -implicitDefEqProofs only[go_sem,aO];exact .mk _ (.refl _) (.aj h1) ⟨by rw[hc7];rfl,rfl⟩
  ·have hc8:gO 8 [a,b]=if [a,b].all (fun v=>v.kind==2)then zS (Kn a.n b.n) (a.n+b.n)else nL 2:=by rw[hc];rfl
   have hg:=hnu 325 _ _ (fun G=>Qw a.n b.n G)
   rw[←hc8]at hg;obtain⟨⟨v,e⟩,ex⟩:∃x,gO 8 [a,b]=x:=⟨_,rfl⟩;exact ag3
  ·have hc8:gO 9 [a,b]=if [a,b].all (fun v=>v.kind==2)then zS (MC a.n b.n) (a.n - b.n)else nL 2:=by rw[hc];rfl
   have hg:=hnu 326 _ _ (fun G=>RZ a.n b.n G)
   rw[←hc8]at hg;obtain⟨⟨v,e⟩,ex⟩:∃x,gO 9 [a,b]=x:=⟨_,rfl⟩;exact ag3
  ·have hc8:gO 10 [a,b]=if [a,b].all (fun v=>v.kind==2)then zS (Jq a.n b.n) (a.n*b.n)else nL 2:=by rw[hc];rfl
   have hg:=hnu 327 _ _ (fun G=>Ru a.n b.n G)
   rw[←hc8]at hg;obtain⟨⟨v,e⟩,ex⟩:∃x,gO 10 [a,b]=x:=⟨_,rfl⟩;exact ag3
  ·have hc12:gO 12 [a,b]=if([a,b].all fun v=>v.kind==1)=false then nL 2 else(dK (a.n==1 && b.n==1),0):=by rw[hc];rfl
   simp -implicitDefEqProofs only[go_sem];refine(hal _).pthen ?_;cases d1:([a,b].all fun v=>v.kind==1)
   ·simp -implicitDefEqProofs only[go_sem]
    exact .mk _ (.refl _) (.aj h1) ⟨by rw[hc12,if_pos d1];rfl,rfl⟩
   ·rw[if_neg (by rw[d1];decide)]at hc12
    cases da:(a.n==1)<;>cases db:(b.n==1)
    all_goals
     rw[da,db]at hc12;simp -implicitDefEqProofs only[go_sem,ix0,ix1,da,db];refine(htr _ _).pthen ?_;simp -implicitDefEqProofs only[go_sem,aO];exact .mk _ (.refl _) (.aj h1) ⟨by rw[hc12];rfl,rfl⟩
  ·have hc13:gO 13 [a,b]=if([a,b].all fun v=>v.kind==1)=false then nL 2 else(dK (a.n==1||b.n==1),0):=by rw[hc];rfl
   simp -implicitDefEqProofs only[go_sem];refine(hal _).pthen ?_;cases d1:([a,b].all fun v=>v.kind==1)
   ·simp -implicitDefEqProofs only[go_sem]
    exact .mk _ (.refl _) (.aj h1) ⟨by rw[hc13,if_pos d1];rfl,rfl⟩
   ·rw[if_neg (by rw[d1];decide)]at hc13
    cases da:(a.n==1)<;>cases db:(b.n==1)
    all_goals
     rw[da,db]at hc13;simp -implicitDefEqProofs only[go_sem,ix0,ix1,da,db];refine(htr _ _).pthen ?_;simp -implicitDefEqProofs only[go_sem,aO];exact .mk _ (.refl _) (.aj h1) ⟨by rw[hc13];rfl,rfl⟩
end Go.Proofs.YtcochaoekecfdaaGreatDoor
namespace Go.Bf
open Go Go.Ab Go.Proofs.YtcochaoekecfdaaGreatDoor
def bM(x:jt):AV:=.agg [.sl (x.bag.map aO) .no,.i x.v.kind,.i x.v.n,.s x.v.s,.i x.e]
end Go.Bf
namespace Go.Proofs.YtcochaoekecfdaaGreatDoor
open Go Go.Ab Go.Bf
theorem Rg(x:jt)(n:Int)(h:Heap):ai Tryz.prog 274 [bM x,.i n] h fun r h' =>r= .b (isI x n)∧h' =h:=by
 refine acs Tryz.func274 15 [.tmp 4] fun hwf=>?_
 simp only[go_sem,bM];exact aha
theorem NX(x:jt)(n:Int)(h:Heap):ai Tryz.prog 274 [.agg [.sl [] .full,.i x.v.kind,.i x.v.n,.s x.v.s,.i x.e],.i n] h fun r h' =>r= .b (isI x n)∧h' =h:=by
 refine acs Tryz.func274 15 [.tmp 4] fun hwf=>?_
 simp only[go_sem];exact aha
theorem vp(b:Bool)(h:Heap):ai Tryz.prog 317 [.b b] h fun r h' =>r=bM (iT b)∧h' =h:=by
 refine acs Tryz.func317 10 [.cell 2 364] fun hwf=>?_
 simp only[go_sem];intro i1 h1;simp only[go_sem];intro i2 h2;have n21:=aF h2;have n2:=aA h2;cases b
 all_goals
  simp only[go_sem,ak,n21.symm];refine .mk (bM (iT _)) ?_ ((((Sub.refl h).put h1 _).put n2 _).put h1 _) ⟨rfl,rfl⟩;refine .agg _ _ rfl fun i a b=>?_
  rcases i with _|_|_|_|_|i
  ·exact afc
  all_goals first|exact .refl _|(simp at a;omega)
theorem Fh(op:Int)(h:Heap):ai Tryz.prog 301 [.i op] h fun r h' =>r= .i (opsOf op:Nat)∧h' =h:=by
 refine acs Tryz.func301 11 [.tmp 2] fun hwf=>?_
 cases d1:(op==1)
 case true=>simp only[go_sem,d1];exact .same (.refl _) ⟨by rw[opsOf,if_pos (.inl acv)];rfl,rfl⟩
 cases d2:(op==2)
 case true=>simp only[go_sem,d1,d2];exact .same (.refl _) ⟨by rw[opsOf,if_pos (.inr acv)];rfl,rfl⟩
 have e1:¬(op=1∨op=2):=acv;cases d3:(op==3)
 case true=>simp only[go_sem,d1,d2,d3];exact .same (.refl _) ⟨by rw[opsOf,if_neg e1,if_pos (.inl acv)];rfl,rfl⟩
 cases d4:(op==4)
 case true=>simp only[go_sem,d1,d2,d3,d4];exact .same (.refl _) ⟨by rw[opsOf,if_neg e1,if_pos (.inr (.inl acv))];rfl,rfl⟩
 cases d5:(op==11)
 case true=>simp only[go_sem,d1,d2,d3,d4,d5];exact .same (.refl _) ⟨by rw[opsOf,if_neg e1,if_pos (.inr (.inr acv))];rfl,rfl⟩
 have e2:¬(op=3∨op=4∨op=11):=acv;simp only[go_sem,d1,d2,d3,d4,d5];exact .same (.refl _) ⟨by rw[opsOf,if_neg e1,if_neg e2];rfl,rfl⟩
theorem FK(vs:List bp)(hl:vs.length≤1000000000)(x:bp)(p:Perm)(h:Heap):
  ai Tryz.prog 329 [.sl (vs.map aO) p,aO x] h fun r h' =>r= .i (ixD (fun y=>eqV x y) vs)∧h' =h:=by
 refine acs Tryz.func329 19 [.tmp 4] fun hwf=>?_
 simp only[go_sem,aO];intro i1 h1;simp only[go_sem,aci];refine .intro (fun m ρ G=>G=upd h i1 (some (.obj [.i x.kind,.i x.n,.s x.s] 30))∧∃i:Nat,i≤vs.length∧m=vs.length - i∧(∀j (hj:j<i) (h2:j<vs.length),eqV x vs[j]=false)∧lk ρ 0=some (.sl (vs.map aO) p)∧lk ρ 3=some (.ptr i1 0)∧lk ρ 7=some (.i vs.length)∧lk ρ 8=some (.i i)) vs.length ?_ ?_
 ·refine⟨rfl,0,acu,rfl,fun j hj=>acu,?_,?_,?_,?_⟩<;>simp only[go_sem]
 ·rintro m ρ G ⟨rfl,i,hi,rfl,hc,r0,r3,r7,r8⟩
  simp only[go_sem,r7,r8];refine .intro (fun e=>?_) (fun e=>?_)
  ·have hlt:i<vs.length:=acq e
   have w1:IntKind.i64.wrap ((i:Int)+1)=((i+1:Nat):Int):=acI;have ix:=fun k=>fA.eq (xs:=vs.map aO) (sz:=3) i acv acL k
   rw[acj]at ix;have hci:=fun(d:eqV x vs[i]=false)=>(fun j (hj:j<i+1) (h2:j<vs.length)=>(by
    grind:eqV x vs[j]=false))
   have hat:=fun(d:eqV x vs[i]=true)=>nN (q:=fun y=>eqV x y) hlt d fun j hj=>hc j hj acu
   obtain⟨v,ev⟩:∃v,vs[i]=v:=⟨_,rfl⟩;rw[ev]at ix hci hat;simp only[aO]at ix;simp only[go_sem,r0,r3,r8];refine⟨.of acw,?_⟩;cases d1:eqV x v
   ·have d2:=d1
    simp only[eqV]at d2;simp only[go_sem,r8,ix,d2,w1];refine⟨_,?_,rfl,i+1,acu,rfl,hci d1,?_,?_,?_,?_⟩
    ·omega
    all_goals simp only[go_sem,r0,r3,r7]
   ·have d2:=d1
    simp only[eqV]at d2;simp only[go_sem,ix,d2];exact .mk _ (.refl _) (.aj h1) ⟨agB,rfl⟩
  ·have hge:i=vs.length:=by grind
   simp only[go_sem];exact .mk _ (.refl _) (.aj h1) ⟨acY,rfl⟩
theorem Nq{vs:List bp}{x:bp}:decide ((0:Int)≤ixD (fun y=>eqV x y) vs)=vs.any fun v=>eqV v x:=by
 have hsy:(fun v=>eqV v x)=fun v=>eqV x v:=by simp[funext,eqV,BEq.comm]
 rw[uw,hsy]
theorem O5(vs:List bp)(hl:vs.length≤1000000000)(x:bp)(p:Perm)(h:Heap):ai Tryz.prog 318 [.sl (vs.map aO) p,aO x] h fun r h' =>r= .b (vs.any fun v=>eqV v x)∧h' =h:=by
 have h1:∀G,ai Tryz.prog 321 [.sl (vs.map aO) p,aO x] G fun r h' =>r= .b (vs.any fun v=>eqV v x)∧h' =G:=fun G=>by
  have hq:=fun K=>FK vs hl x p K
  refine acs Tryz.func321 9 [.tmp 4] fun hwf=>?_
  simp only[go_sem,aO];intro i1 h1;simp only[go_sem];refine(hq _).pthen ?_;simp only[go_sem,Nq];exact acM
 refine acs Tryz.func318 8 [.tmp 4] fun hwf=>?_
 simp only[go_sem,aO];intro i1 h1';simp only[go_sem];refine(h1 _).pthen ?_;simp only[go_sem];exact .mk _ (.refl _) (.aj h1') ⟨rfl,rfl⟩
theorem kU{L:List AV}{x:jt}(hL:L=x.bag.map aO)(q:Perm):Weak (.agg [.sl L q,.i x.v.kind,.i x.v.n,.s x.v.s,.i x.e]) (bM x):=by
 subst hL;refine .agg _ _ rfl fun i a b=>?_
 rcases i with _|_|_|_|_|i
 ·exact afc
 all_goals first|exact .refl _|(simp at a;omega)
theorem tI(op:Int):opsOf op≤2:=by
 grind [opsOf]
theorem uY{gs:List bn}{op:Int}{val:bp}{attr:pV}{l:List jt}{x:jt}(h1:op≠1)(h2:op≠2)(hno:¬((op=12∨op=13)∧(l.any fun x=>isI x (op - 12))=true))(hx:l.find? (fun x=>x.e !=0)=some x):kX gs ⟨op,val,attr⟩ l=⟨[],aq,x.e⟩:=by
 simp_all [kX,if_neg]
theorem uX{gs:List bn}{op:Int}{val:bp}{attr:pV}{l:List jt}(h1:op≠1)(h2:op≠2)(hno:¬((op=12∨op=13)∧(l.any fun x=>isI x (op - 12))=true))(hx:l.find? (fun x=>x.e !=0)=none):kX gs ⟨op,val,attr⟩ l=(if op=3 then(match (l.headD ⟨[],aq,0⟩).bag with
    | [v]=>⟨[],v,0⟩
    |_=>⟨[],aq,4⟩)
   else if op=4 then⟨[],⟨2,(l.headD ⟨[],aq,0⟩).bag.length,[]⟩,0⟩
   else if op=5 then iT ((l.headD ⟨[],aq,0⟩).bag.any fun v=>eqV v (l.getD 1 ⟨[],aq,0⟩).v)
   else Go.Bf.Ae (gO op (l.map (·.v)))):=by
 unfold kX;simp only[if_neg h1,if_neg h2,if_neg hno,hx]
 all_goals rfl
theorem Ok{h:Heap}{y:AV}(n:aN)(hop:1≤n.op∧n.op≤13)(l:List jt)(hb:Rd h 5 y (l.map bM))(hl:l.length=opsOf n.op)(hbag:∀x∈l,x.bag.length≤1000000)(gs:List bn)(hf:rI gs):
  ai Tryz.prog 302 [dz n,y,bH gs] h fun r h' =>r=bM (kX gs n l)∧h' =h:=by
 obtain⟨op,val,attr⟩:=n;simp only at hop hl;have hl2:l.length≤2:=by rw[hl];exact tI op
 have uV:(U 30).sz=3:=acF;have hg:=fun G=>G8 gs attr.cat attr.name attr.must (by have:=hf.1;omega) hf.2 G
 simp only[bH]at hg;refine acs Tryz.func302 122 [.cell 6 364] fun hwf=>?_
 simp only[go_sem,dz,bH];intro i3 h3;simp only[go_sem];intro i6 h6;have n63:=aF h6;have n6' :=aA h6;obtain⟨H0,eH⟩:∃H0,upd (upd h i3 (some (.obj [.i op,.i val.kind,.i val.n,.s val.s,.i attr.cat,.s attr.name,.b attr.must] 229))) i6 (some (.obj [.sl [] .full,.i 0,.i 0,.s [],.i 0] 364))=H0:=⟨_,rfl⟩;have hH0:Ab.Sub h H0:=afx;have g3:H0 i3=some (.obj [.i op,.i val.kind,.i val.n,.s val.s,.i attr.cat,.s attr.name,.b attr.must] 229):=by rw[←eH,ag _ _ n63.symm,ah]
 have g6:H0 i6=some (.obj [.sl [] .full,.i 0,.i 0,.s [],.i 0] 364):=adX;rw[eH];clear eH;cases d1:(op==1)
 case true=>
  have e1:op=1:=afy;simp only[go_sem,d1,g3,g6];exact .mk (bM ⟨[],val,0⟩) (kU (x:=⟨[],val,0⟩) rfl _) (hH0.put n6' _) ⟨by unfold kX;simp only[e1,if_true],rfl⟩
 have hp1' :op≠1:=afy;cases d2:(op==2)
 case true=>
  have e2:op=2:=by simpa using d2
  simp only[go_sem,d1,d2,g3];refine(hg _).pthen ?_
  by_cases hh:xL gs attr= []∧attr.must=true
  ·have hh2:Go.Bf.getD gs attr.cat attr.name= []∧attr.must=true:=hh
   simp only[go_sem,IZ,if_pos hh2,g6];exact .mk (bM ⟨[],aq,4⟩) (kU (x:=⟨[],aq,4⟩) rfl _) (hH0.put n6' _) ⟨by unfold kX;simp only[e2,if_neg (show¬(2:Int)=1 by decide),if_true,if_pos hh],rfl⟩
  ·have hh2:¬(Go.Bf.getD gs attr.cat attr.name= []∧attr.must=true):=hh
   simp only[go_sem,IZ,if_neg hh2,g6];exact .mk (bM ⟨xL gs attr,aq,0⟩) (kU (x:=⟨xL gs attr,aq,0⟩) rfl _) (hH0.put n6' _) ⟨by unfold kX;simp only[e2,if_neg (show¬(2:Int)=1 by decide),if_true,if_neg hh],rfl⟩
 have hp2' :op≠2:=by simpa using d2
 have his:=fun(x:jt) (m:Int) (G:Heap)=>Rg x m G
 simp only[bM]at his;cases d12:(op==12)
 case true=>
  have e12:op=12:=by simpa using d12
  have htr:=fun G=>vp false G
  simp only[bM]at htr;obtain⟨a,b,hab⟩:∃a b,l= [a,b]:=xl (by rw[hl,e12];rfl)
  have wk:IntKind.i64.wrap (op - 12)=0:=afd;have han:(l.any fun x=>isI x (op - 12))=(isI a 0||isI b 0):=by rw[hab,e12];simp
  have hb0:l.map bM= [bM a,bM b]:=by rw[hab];rfl
  have q3:(op==3)=false:=afd;have q4:(op==4)=false:=afd;have q5:(op==5)=false:=afd;have hbH:=hb.sub hH0;simp only[go_sem,d2,d1,d12,g3,wk];refine hbH.idx (e:=364) 0 rfl aeI acF acz fun p hp1=>?_
  have hld:=hp1.all (U:=U) (ty:=364) acF adG adG;simp only[go_sem,hld,hb0,List.getElem_cons_zero,bM];refine(his a 0 _).pthen ?_;cases da:isI a 0
  ·simp only[go_sem]
   refine hbH.idx (e:=364) 1 rfl aeI acF acz fun p hp1=>?_
   have hld:=hp1.all (U:=U) (ty:=364) acF adg adg;simp only[go_sem,hld,hb0,List.getElem_cons_succ,List.getElem_cons_zero,bM];refine(his b 0 _).pthen ?_;cases db:isI b 0
   ·exact agJ
   ·simp only[go_sem]
    refine(htr _).pthen ?_;simp only[go_sem,g6];exact .mk (bM (iT false)) (kU (x:=(iT false)) rfl _) (hH0.put n6' _) ⟨by unfold kX;rw[han,da,db];simp[e12]<;>rfl,rfl⟩
  ·simp only[go_sem]
   refine(htr _).pthen ?_;simp only[go_sem,g6];exact .mk (bM (iT false)) (kU (x:=(iT false)) rfl _) (hH0.put n6' _) ⟨by unfold kX;rw[han,da];simp[e12]<;>rfl,rfl⟩
 have hn12:op≠12:=by simpa using d12
 cases d13:(op==13)
 case true=>
  have e12:op=13:=by simpa using d13
  have htr:=fun G=>vp true G
  simp only[bM]at htr;obtain⟨a,b,hab⟩:∃a b,l= [a,b]:=xl (by rw[hl,e12];rfl)
  have wk:IntKind.i64.wrap (op - 12)=1:=afd;have han:(l.any fun x=>isI x (op - 12))=(isI a 1||isI b 1):=by rw[hab,e12];simp
  have hb0:l.map bM= [bM a,bM b]:=by rw[hab];rfl
  have q3:(op==3)=false:=afd;have q4:(op==4)=false:=afd;have q5:(op==5)=false:=afd;have hbH:=hb.sub hH0;simp only[go_sem,d1,d2,d12,d13,g3,wk];refine hbH.idx (e:=364) 0 rfl aeI acF acz fun p hp1=>?_
  have hld:=hp1.all (U:=U) (ty:=364) acF adG adG;simp only[go_sem,hld,hb0,List.getElem_cons_zero,bM];refine(his a 1 _).pthen ?_;cases da:isI a 1
  ·simp only[go_sem]
   refine hbH.idx (e:=364) 1 rfl aeI acF acz fun p hp1=>?_
   have hld:=hp1.all (U:=U) (ty:=364) acF adg adg;simp only[go_sem,hld,hb0,List.getElem_cons_succ,List.getElem_cons_zero,bM];refine(his b 1 _).pthen ?_;cases db:isI b 1
   ·exact agJ
   ·simp only[go_sem]
    refine(htr _).pthen ?_;simp only[go_sem,g6];exact .mk (bM (iT true)) (kU (x:=(iT true)) rfl _) (hH0.put n6' _) ⟨by unfold kX;rw[han,da,db];simp[e12]<;>rfl,rfl⟩
  ·simp only[go_sem]
   refine(htr _).pthen ?_;simp only[go_sem,g6];exact .mk (bM (iT true)) (kU (x:=(iT true)) rfl _) (hH0.put n6' _) ⟨by unfold kX;rw[han,da];simp[e12]<;>rfl,rfl⟩
 have hn13:op≠13:=by simpa using d13
 have hno:¬((op=12∨op=13)∧(l.any fun x=>isI x (op - 12))=true):=fun hh=>hh.1.elim hn12 hn13
 simp only[go_sem,d1,d2,d12,d13,g3,hb.len,aci];refine .intro (fun m ρ H=>∃(i:Nat) (z:AV),Acc U 30 H0 H z ((l.take i).map fun x=>aO x.v)∧i≤l.length∧m=l.length - i∧(∀j (h1:j<l.length),j<i→l[j].e=0)∧lk ρ 1=some y∧lk ρ 3=some (.ptr i3 0)∧lk ρ 6=some (.ptr i6 0)∧lk ρ 10=some z∧lk ρ 55=some y∧lk ρ 56=some (.i l.length)∧lk ρ 57=some (.i i)) l.length ?_ ?_
 ·refine⟨0,.sl [] .full,.full (.refl _),acu,rfl,fun j _ hj=>acu,?_,?_,?_,?_,?_,?_,?_⟩<;>simp only[go_sem]
 ·rintro m ρ H ⟨i,z,hz,hi,rfl,hc,r1,r3,r6,r10,r55,r56,r57⟩
  have hsH:=hH0.trans hz.1;have hbH:=hb.sub hsH;have k3:=hz.1 _ _ g3;have k6:=hz.1 _ _ g6;simp only[go_sem,r56,r57];refine .intro (fun e=>?_) (fun e=>?_)
  ·have hlt:i<l.length:=acq e
   have w1:=acp i acu;have hsn:(l.take (i+1)).map (fun x=>aO x.v)=(l.take i).map (fun x=>aO x.v)++ [aO l[i].v]:=adK
   simp only[go_sem,r55,r57];refine hbH.idx (e:=364) i rfl acU acF acz fun p hp1=>?_
   have hld:=hp1.all (U:=U) (ty:=364) acF ada ada;obtain⟨x,ex⟩:∃x,l[i]=x:=⟨_,rfl⟩;rw[ex]at hsn;simp only[go_sem,hld,acj,ex,bM];intro i12 h12;have n126:i12≠i6:=fun e=>aey
   cases dx:(x.e !=0)
   ·have dx' :x.e=0:=by simpa using dx
    simp only[go_sem,r10,dx];refine(hz.sub (.aj h12)).app (zs:=[aO x.v]) acA acA (fun k hk=>hk) adP ad5 acN fun z' H' hz' kp=>?_
    simp only[go_sem,r57,w1];refine⟨_,?_,i+1,z',by rw[hsn];exact hz',acu,rfl,fun j h1 hj=>?_,?_,?_,?_,?_,?_,?_,?_⟩
    ·omega
    ·by_cases hji:j=i
     ·subst hji;rw[ex];exact dx'
     ·exact hc j h1 acu
    all_goals simp only[go_sem,r1,r3,r6,r55,r56]
   ·have hfi:l.find? (fun x=>x.e !=0)=some x:=by rw[←ex];exact List.find?_eq_some_iff_getElem.2 ⟨by rw[ex];exact dx,i,hlt,rfl,fun j hj=>af2⟩
    simp only[go_sem,r6,dx,ak,n126.symm,k6];exact .mk (bM ⟨[],aq,x.e⟩) (kU (x:=⟨[],aq,x.e⟩) rfl _) ((hsH.trans (.aj h12)).put n6' _) ⟨afO,rfl⟩
  ·have hge:i=l.length:=by have:=acm e;omega
   subst hge;have hfi:l.find? (fun x=>x.e !=0)=none:=List.find?_eq_none.2 fun x hx=>by
    obtain⟨j,hj,rfl⟩:=List.mem_iff_getElem.1 hx;rw[hc j hj hj];decide
   have hnd:=uX (gs:=gs) (val:=val) (attr:=attr) hp1' hp2' hno hfi;rw[List.take_length]at hz;obtain⟨qz,eqz⟩:=hz.row;subst eqz;have hcl:=fun G=>BK op (l.map (·.v)) afH qz G
   rw[List.map_map]at hcl;have hcl:∀G,ai Tryz.prog 319 [.i op,.sl (l.map fun x=>aO x.v) qz] G fun r h' =>r=rf (gO op (l.map (·.v)))∧h' =G:=hcl
   cases d3:(op==3)
   case true=>
    have e3:op=3:=ags;obtain⟨a,ha⟩:∃a,l= [a]:=List.length_eq_one_iff.1 (by rw[hl,e3];rfl)
    have hb0:l.map bM= [bM a]:=by rw[ha];rfl
    simp only[e3,if_true,ha,List.headD_cons]at hnd;simp only[go_sem,r1,r3,k3,d3];refine hbH.idx (e:=364) 0 rfl aeI acF acz fun p hp1=>?_
    (try simp only[go_sem])
    refine hp1.field (f:=0) (off:=0) (t:=193) rfl adl fun p2 hp2=>?_
    have hld:=hp2.part (U:=U) (ty:=193) adl adw;simp only[hb0,List.getElem_cons_zero,bM,AV.cells]at hld;cases db:((a.bag.length:Int) !=1)
    ·have hb1:(a.bag.length:Int)=1:=by simpa using db
     obtain⟨v,hv⟩:=List.length_eq_one_iff.1 (show a.bag.length=1 by omega)
     rw[hv]at hnd hld;have iv:=fun K=>fA.eq (xs:=[aO v]) (sz:=3) 0 acD rfl K
     simp only[List.getElem_cons_zero,aO,Int.natCast_zero]at iv;simp only[go_sem,r1,hld,List.map_cons,List.map_nil,aO];refine hbH.idx (e:=364) 0 rfl aeI acF acz fun p hp1=>?_
     (try simp only[go_sem])
     refine hp1.field (f:=0) (off:=0) (t:=193) rfl adl fun p2 hp2=>?_
     have hld:=hp2.part (U:=U) (ty:=193) adl adw;simp only[hb0,List.getElem_cons_zero,bM,AV.cells,hv,List.map_cons,List.map_nil,aO]at hld;simp only[go_sem,hld,iv,r6,k6];exact .mk (bM ⟨[],v,0⟩) (kU (x:=⟨[],v,0⟩) rfl _) (hsH.put n6' _) ⟨by rw[e3,ha,hnd]<;>rfl,rfl⟩
    ·simp only[go_sem,hld,aci,db,r6,k6]
     refine .mk (bM ⟨[],aq,4⟩) (kU (x:=⟨[],aq,4⟩) rfl _) (hsH.put n6' _) ⟨?_,rfl⟩;rw[e3,ha,hnd]
     congr 1
     split
     ·rename_i v hv;rw[hv]at db;simp at db
     ·rfl
   cases d4:(op==4)
   case true=>
    have e4:op=4:=by simpa using d4
    obtain⟨a,ha⟩:∃a,l= [a]:=List.length_eq_one_iff.1 (by rw[hl,e4];rfl)
    have hb0:l.map bM= [bM a]:=by rw[ha];rfl
    simp only[go_sem,r1,r3,k3,d3,d4];refine hbH.idx (e:=364) 0 rfl aeI acF acz fun p hp1=>?_
    (try simp only[go_sem])
    refine hp1.field (f:=0) (off:=0) (t:=193) rfl adl fun p2 hp2=>?_
    have hld:=hp2.part (U:=U) (ty:=193) adl adw;simp only[hb0,List.getElem_cons_zero,bM,AV.cells]at hld;simp only[go_sem,hld,aci,r6,k6];exact .mk (bM ⟨[],⟨2,a.bag.length,[]⟩,0⟩) (kU (x:=⟨[],⟨2,a.bag.length,[]⟩,0⟩) rfl _) (hsH.put n6' _) ⟨by rw[hnd,e4,ha];rfl,rfl⟩
   cases d5:(op==5)
   case true=>
    have e5:op=5:=by simpa using d5
    obtain⟨a,b,hab⟩:∃a b,l= [a,b]:=xl (by rw[hl,e5];rfl)
    have hb0:l.map bM= [bM a,bM b]:=by rw[hab];rfl
    have hvh:=fun G=>O5 a.bag (by have:=hbag a (by rw[hab];simp);omega) b.v .no G
    simp only[aO]at hvh;have htr:=fun G=>vp (a.bag.any fun v=>eqV v b.v) G
    simp only[bM]at htr;simp only[go_sem,r3,k3,d3,d4,d5];refine .calls h [0,1,2,3,4,5,6,7,8,9,10] hsH acw rfl ?_;simp only[go_sem,r1];refine hb.idx (e:=364) 0 rfl aeI acF acz fun p hp1=>?_
    simp only[go_sem];refine hp1.field (f:=0) (off:=0) (t:=193) rfl adl fun p2 hp2=>?_
    have hld:=hp2.part (U:=U) (ty:=193) adl adw;simp only[hb0,List.getElem_cons_zero,bM,AV.cells]at hld;simp only[go_sem,hld,r1];refine hb.idx (e:=364) 1 rfl aeI acF acz fun p hp3=>?_
    simp only[go_sem];refine hp3.field (f:=1) (off:=1) (t:=30) rfl adl fun p4 hp4=>?_
    have hld4:=hp4.part (U:=U) (ty:=30) adl (by simp only[go_sem,hb0,List.getElem_cons_succ,List.getElem_cons_zero];exact ach rfl)
    simp only[hb0,List.getElem_cons_succ,List.getElem_cons_zero,bM,AV.cells]at hld4;simp only[go_sem,hld4];refine(hvh _).pthen ?_;refine⟨hsH,?_⟩;simp only[go_sem];refine(htr _).pthen ?_;refine⟨hsH,?_⟩;simp only[go_sem,r6,k6];refine⟨hsH.put n6' _,?_⟩;exact .mk (bM (iT (a.bag.any fun v=>eqV v b.v))) (kU (x:=(iT (a.bag.any fun v=>eqV v b.v))) rfl _) (hsH.put n6' _) ⟨by rw[hnd,e5,hab];rfl,rfl⟩
   obtain⟨⟨v,e⟩,ev⟩:∃x,gO op (l.map (·.v))=x:=⟨_,rfl⟩
   rw[ev]at hcl;simp only[go_sem,r3,r10,k3,d3,d4,d5];refine(hcl _).pthen ?_;simp only[go_sem,rf,aO];intro i13 h13;have n136:i13≠i6:=fun e=>agb
   simp only[go_sem,r6,ak,n136.symm,k6];exact .mk (bM ⟨[],v,e⟩) (kU (x:=⟨[],v,e⟩) rfl _) ((hsH.trans (.aj h13)).put n6' _) ⟨by rw[hnd];simp only[if_neg (show¬op=3 by simpa using d3),if_neg (show¬op=4 by simpa using d4),if_neg (show¬op=5 by simpa using d5)];rw[ev]<;>rfl,rfl⟩
end Go.Proofs.YtcochaoekecfdaaGreatDoor
namespace Go.Bf
open Go Go.Ab Go.Proofs.YtcochaoekecfdaaGreatDoor
theorem Cl{t:fW}(h:lu t=0):Nf t:=by
 obtain⟨h1,h2⟩:=Bh h;refine⟨acu,fun x hx=>?_⟩
 grind [An,Am]
theorem M6.turn{m:aR}(h:M6 m):M6 (EB m):=by
 exact ahj
theorem M6.indet{m:aR}(h:M6 m):M6 (gG m):=by
 exact ahj
theorem M6.first{l:List aR}(h:∀m∈l,M6 m):M6 (firstM l):=by
 unfold firstM;cases hf:l.find? fun m=>decide (m≠naM)with
 |none=>decide
 |some m=>grind
theorem M6.only:∀(l:List aR) (j:aR),(∀m∈l,M6 m)→M6 j→M6 (ou l j)
 | [],j,_,hj=>hj
 |m::r,j,h,hj=>by
  simp only[ou];split
  ·decide
  ·refine M6.only r _ acv ?_
   split
   ·grind
   ·split
    ·decide
    omega
theorem GM{alg:Int}{l:List aR}(h:∀m∈l,M6 m):M6 (gR alg l):=by
 unfold gR;split
 ·exact HC _
 ·split
  ·exact M6.turn (HC _)
  ·split
   ·exact .first h
   ·split
    ·exact .only _ _ h acz
    ·split
     ·split<;>decide
     ·split
      ·split<;>decide
      decide
theorem Az(r:cK)(t c:Nat):M6 (nh r t c).1:=by
 unfold nh;cases r.deny
 all_goals
  simp only[if_true,Bool.false_eq_true,if_false];split
  ·decide
  ·split
   ·decide
   ·first|(show M6 aY;decide)|(show M6 cC;decide)
theorem NZ(alg:Int)(obls:List cA)(t:Nat){parts:List jF}(h:∀x∈parts,M6 x.1):M6 (pM alg obls t parts).1:=by
 have hc:M6 (gR alg (parts.map (·.1))):=GM fun m hm=>by
  grind
 unfold pM;simp only;split
 ·decide
 ·split
  ·exact hc.indet
  ·split
   ·exact hc
   ·exact hc
mutual
theorem BT(gs:List bn):∀p:bG,M6 (fC gs p).1
 |.mk id set alg tgt rules kids obls=>by
  have ih:=C3 gs kids;simp only[fC];split
  ·decide
  ·refine NZ alg obls _ fun x hx=>?_
   rcases List.mem_append.1 hx with hx|hx
   ·obtain⟨r,_,rfl⟩:=List.mem_map.1 hx
    exact Az _ _ _
   ·exact ih x hx
theorem C3(gs:List bn):∀l:List bG,∀x∈mz gs l,M6 x.1
 | [],x,hx=>by simp[mz]at hx
 |k::r,x,hx=>by
  have h1:=BT gs k;have h2:=C3 gs r;simp only[mz,List.mem_cons]at hx;rcases hx with rfl|hx
  ·exact h1
  ·exact h2 x hx
end
theorem Kt{gs:List bn}(h:Pa gs):rI gs:=⟨by have:=h.len;omega,fun g hg=>by have:=(h.each g hg).2.2.2.1;omega⟩
theorem GW{α:Type}(B:Nat):∀(L:List (List α)),(∀x∈L,x.length≤B)→L.flatten.length≤L.length*B
 | [],_=>acD
 |x::L,h=>by
  have h1:=h x acD;have h2:=GW B L fun y hy=>h y acv
  rw[List.flatten_cons,acn,List.length_cons,Nat.add_mul];omega
theorem tO{alg:Int}{m:aR}{parts:List jF}{B:Nat}(hp:∀x∈parts,x.2.length≤B)(hn:parts.length≤32):(eO alg m parts).length≤32*B+B:=by
 unfold eO;split
 ·cases hf:parts.find? fun x=>x.1==m with
  |none=>simp
  |some x=>grind
 ·have h1:=GW B (((parts.filter fun x=>x.1==m).map (·.2))) fun x hx=>by
   grind
  have h2:((parts.filter fun x=>x.1==m).map (·.2)).length≤32:=by
   grind
  have:=Nat.mul_le_mul_right B h2;omega
theorem kE(l:List cA)(m:aR):(eJ l m).length≤l.length:=List.length_filter_le _ _
theorem Ay(r:cK)(t c:Nat):(nh r t c).2.length≤r.obls.length:=by
 unfold nh
 all_goals
  grind [kE]
def oB:Nat→Nat
 |0=>8
 |n+1=>8+33*oB n
theorem UB(n:Nat):8≤oB n:=by
 cases n with
 |zero=>decide
 |succ n=>grind [oB]
theorem BS(gs:List bn):∀(n d:Nat) (p:bG),d+n=5→mI d p→(fC gs p).2.length≤oB n
 |0,d,.mk id set alg tgt rules kids obls,hd,h=>by grind [mI]
 |n+1,d,.mk id set alg tgt rules kids obls,hd,h=>by
  simp only[mI,qD]at h;obtain⟨_,_,_,_,_,_,g2,g3,g4,g5,g6,g7⟩:=h;have hob:=(kg g3).1;have h8:=UB n;simp only[fC];split
  ·simp
  ·unfold pM
   simp only;split
   ·simp
   ·split
    ·simp
    ·split
     ·simp
     ·have h1:=tO (alg:=alg) (m:=gR alg ((rules.map (gZ gs)++mz gs kids).map (·.1))) (parts:=rules.map (gZ gs)++mz gs kids) (B:=oB n) (fun x hx=>by
       rcases List.mem_append.1 hx with hx|hx
       ·obtain⟨r,hr,rfl⟩:=List.mem_map.1 hx
        have:=Ay r (mH gs r.tgt) (qk gs r.cond);have:=(kg (g6 r hr).2.2.2).1
        show(nh r (mH gs r.tgt) (qk gs r.cond)).2.length≤_
        omega
       ·rw[td]at hx
        obtain⟨k,hk,rfl⟩:=List.mem_map.1 hx;exact BS gs n (d+1) k acu (g7 k hk)) (by grind [acn,aci,td])
      have h2:=kE obls (gR alg ((rules.map (gZ gs)++mz gs kids).map (·.1)))
      simp only[acn,oB];omega
theorem KY(gs:List bn){p:bG}(h:mI 1 p):(fC gs p).2.length≤10000000:=Nat.le_trans (BS gs 4 1 p rfl h) acz
theorem J6{op:Int}{w:List Bool}(hw:iC op=some w):w.length=opsOf op∧1≤op∧op≤13:=by
 have h1:1≤op∧op≤13:=by
  grind [iC]
 refine⟨?_,h1⟩;rcases(show op=1∨op=2∨op=3∨op=4∨op=5∨op=6∨op=7∨op=8∨op=9∨op=10∨op=11∨op=12∨op=13 by omega)with rfl|rfl|rfl|rfl|rfl|rfl|rfl|rfl|rfl|rfl|rfl|rfl|rfl
 all_goals (simp[iC]at hw;subst hw;rfl)
theorem JU{bs bs' :List Bool}{n:aN}(h:iB bs n=some bs'):(1≤n.op∧n.op≤13)∧opsOf n.op≤bs.length∧bs'.length=bs.length - opsOf n.op+1:=by
 unfold iB at h;cases hw:iC n.op with
 |none=>grind
 |some w=>
  grind [J6,acn,List.length_take,List.length_singleton]
theorem OQ{l:List aN}{z bs:List Bool}{i:Nat}(hl:fP [] l=some z)(hi:i<l.length)(hb:fP [] (l.take i)=some bs):∃bs',iB bs l[i]=some bs'∧fP [] (l.take (i+1))=some bs' :=by
 have h1:=jR [] l i;rw[hl,hb,List.drop_eq_getElem_cons hi]at h1;simp only[fP]at h1;cases hs:iB bs l[i]with
 |none=>rw[hs]at h1;cases h1
 |some bs' =>
  rw[jR [] _ i,List.take_take,Nat.min_eq_left acu,hb,List.take_succ_eq_append_getElem hi,List.drop_append_of_le_length acv,List.drop_of_length_le acv]
  grind [fP]
theorem LQ{gs:List bn}(hf:rI gs)(n:aN)(l:List jt):(kX gs n l).bag.length≤1000000:=by
 unfold kX Ae iT
 repeat' split
 all_goals first|exact hf.bag _|simp
def Uq(x:jt):AV:=.tup [aO x.v,.i x.e]
end Go.Bf
namespace Go.Proofs.YtcochaoekecfdaaGreatDoor
open Go Go.Ab Go.Bf
theorem KZ(l:List aN)(hn:l≠ [])(he:jY l=0)(gs:List bn)(hf:rI gs)(h:Heap):ai Tryz.prog 273 [fm l,bH gs] h fun r h' =>r=Uq (vZ gs l)∧h' =h:=by
 obtain⟨h32,hst⟩:=xX he hn;have hex:=fun G=>GS l G
 rw[he]at hex;simp only[fm]at hex;have dl:((l.length:Int)==0)=false:=by simp_all
 refine acs Tryz.func273 51 [.cell 4 30,.tmp 5] fun hwf=>?_
 simp only[go_sem,fm,bH];intro i4 h4;simp only[go_sem,aci,dl];refine(hex _).pthen ?_;simp only[go_sem,aci];obtain⟨H0,eH⟩:∃H0,upd h i4 (some (.obj [.i 0,.i 0,.s []] 30))=H0:=⟨_,rfl⟩;have hH0:Ab.Sub h H0:=by rw[←eH];exact .aj h4
 have g4:H0 i4=some (.obj [.i 0,.i 0,.s []] 30):=adX;rw[eH];clear eH;refine .intro (fun m ρ H=>∃(i:Nat) (y:AV) (st:List jt) (bs:List Bool),OwE 364 H0 H 5 y (st.map bM)∧Ab.Sub H0 H∧(l.take i).foldl (zp gs) []=st∧fP [] (l.take i)=some bs∧bs.length=st.length∧(∀x∈st,x.bag.length≤1000000)∧i≤l.length∧m=l.length - i∧lk ρ 1=some (.sl (gs.map kT) .no)∧lk ρ 4=some (.ptr i4 0)∧lk ρ 6=some y∧lk ρ 19=some (.sl (l.map dz) .no)∧lk ρ 20=some (.i l.length)∧lk ρ 21=some (.i i)) l.length ?_ ?_
 ·refine⟨0,_,[],[],.inl ⟨rfl,rfl⟩,.refl _,rfl,rfl,rfl,fun x hx=>acv,acu,rfl,?_,?_,?_,?_,?_,?_⟩<;>simp only[go_sem]
 ·rintro m ρ H ⟨i,y,st,bs,hw,hsH,hfo,hbs,hlen,hbag,hi,rfl,r1,r4,r6,r19,r20,r21⟩
  have hsl:bs.length≤i:=by have:=rT _ _ _ hbs;simpa[Nat.min_eq_left hi]using this
  simp only[go_sem,r20,r21];refine .intro (fun e=>?_) (fun e=>?_)
  ·have hlt:i<l.length:=acq e
   have w1:IntKind.i64.wrap ((i:Int)+1)=((i+1:Nat):Int):=acI;obtain⟨bs',hb1,hb2⟩:=OQ hst hlt hbs;have hfs:(l.take (i+1)).foldl (zp gs) []=zp gs st l[i]:=by grind [List.take_succ_eq_append_getElem]
   have ix:=fun k=>fA.eq (xs:=l.map dz) (sz:=7) i acv acL k
   rw[acj]at ix;obtain⟨n,en⟩:∃n,l[i]=n:=⟨_,rfl⟩;rw[en]at hb1 hfs ix;obtain⟨hop,hle,hln⟩:=JU hb1;rw[hlen]at hle;obtain⟨k,ek⟩:∃k,st.length - opsOf n.op=k:=⟨_,rfl⟩;have wk:IntKind.i64.wrap ((st.length:Int) - (opsOf n.op:Int))=(k:Int):=acI;have hstep:zp gs st n=st.take k++ [kX gs n (st.drop k)]:=by grind [zp]
   simp only[dz]at ix;simp only[go_sem,r19,r21,ix];intro i8 h8;obtain⟨H8,eH⟩:∃H8,upd H i8 (some (.obj [.i n.op,.i n.val.kind,.i n.val.n,.s n.val.s,.i n.attr.cat,.s n.attr.name,.b n.attr.must] 229))=H8:=⟨_,rfl⟩;have hs8:Ab.Sub H H8:=by rw[←eH];exact .aj h8
   have k8:H8 i8=some (.obj [.i n.op,.i n.val.kind,.i n.val.n,.s n.val.s,.i n.attr.cat,.s n.attr.name,.b n.attr.must] 229):=adX;have hw8:=hw.sub hs8;simp only[go_sem,r6,hw8.rd.len,aci];refine(Fh n.op _).pthen ?_;rw[eH];clear eH;simp only[go_sem,wk];refine .calls (hm1 i8 (.obj [.i n.op,.i n.val.kind,.i n.val.n,.s n.val.s,.i n.attr.cat,.s n.attr.name,.b n.attr.must] 229)) [0,1,2,3,4,5,6,7,8,9,10,11] (.hm1 k8) acw rfl ?_;simp only[go_sem,r6];refine hw8.cut (U:=U) (x:=.i64) k acK rfl acv acK acz fun z hz hzy=>?_
   simp only[go_sem,r6,fY];refine hw8.from (U:=U) (x:=.i64) k acK rfl acv acK acz fun z2 hz2=>?_
   rw[←List.map_drop]at hz2;rw[←List.map_take]at hz;have hnd:=Ok n hop (st.drop k) hz2 acv (fun x hx=>hbag x (List.mem_of_mem_drop hx)) gs hf
   have hnb:=LQ hf n (st.drop k);obtain⟨x,ex⟩:∃x,kX gs n (st.drop k)=x:=⟨_,rfl⟩;rw[ex]at hnd hnb hstep;simp only[dz,bH,bM]at hnd;simp only[go_sem,r1];refine hnd.pthen ?_;refine⟨.hm1 k8,?_⟩;simp only[go_sem];have hone:Rd H8 5 (.sl [bM x] .full) [bM x]:=.sl (fun z hz=>afr) .full
   simp only[bM]at hone;refine OwE.app (U:=U) (tb:=364) hz (hsH.trans hs8) hone acK acz acz acK acD acN fun id y' H' hid hor how hoth=>?_
   have n8:i8≠id:=by
    intro e8;rcases hor with ho|⟨lz,cz,ez⟩
    ·grind
    ·exact lO (hz.nid (id:=id) (by rw[ez];rfl)).2.2 k8 acz e8.symm
   have hsub' :Ab.Sub H0 H' :=fun j b hj=>by rw[hoth j (fun e=>acv)];exact(hsH.trans hs8) _ _ hj
   refine⟨.hm1 acv,?_⟩;simp only[go_sem,r21,w1];refine⟨_,?_,i+1,y',zp gs st n,bs',.inr ⟨id,hid,by rw[hstep,List.map_append];exact how⟩,hsub',hfs,hb2,acv,fun w hw=>?_,acu,rfl,?_,?_,?_,?_,?_,?_⟩
   ·omega
   ·grind
   all_goals simp only[go_sem,r1,r4,r19,r20]
  ·have hge:i=l.length:=by grind
   subst hge;rw[List.take_length]at hbs hfo;rw[hst]at hbs;cases hbs;obtain⟨x,rfl⟩:=List.length_eq_one_iff.1 hlen.symm;have hit:vZ gs l=x:=by simp_all [vZ,if_neg]
   obtain⟨id,hid,how⟩:=hw.ow acD;have hwp:Rd (pick H [id]) 5 y [bM x]:=(how.same (bB (List.mem_singleton.2 rfl))).rd;have n4:i4≠id:=fun e=>acv
   have k4:=hsH _ _ g4;simp only[go_sem];refine .calls (pick H [id]) [0,1,2,3,4,5,6,7,8,9] bQ acw rfl ?_;simp only[go_sem,r6];refine hwp.idx (U:=U) (e:=364) 0 rfl acD acK acz fun p hp1=>?_
   simp only[go_sem];refine hp1.field (f:=1) (off:=1) (t:=30) rfl acz fun p2 hp2=>?_
   have hld:=hp2.part (U:=U) (ty:=30) acz aeY;simp only[List.getElem_cons_zero,bM,AV.cells]at hld;simp only[go_sem,r6,hld];refine hwp.idx (U:=U) (e:=364) 0 rfl acD acK acz fun p3 hp3=>?_
   simp only[go_sem];refine hp3.field (f:=2) (off:=4) (t:=23) rfl acz fun p4 hp4=>?_
   have hld4:=hp4.part (U:=U) (ty:=23) acz aeY;simp only[List.getElem_cons_zero,bM,AV.cells]at hld4;simp only[go_sem,r4,hld4,k4];refine⟨bQ.put (by grind [pick]) _,?_⟩
   exact .mk _ (.refl _) ((hH0.trans hsH).put h4 _) ⟨by rw[hit];rfl,rfl⟩
theorem NC(l:List aN)(he:jY l=0)(gs:List bn)(hf:rI gs)(h:Heap):ai Tryz.prog 246 [fm l,bH gs] h fun r h' =>r= .i (qk gs l:Nat)∧h' =h:=by
 by_cases hn:l= []
 ·subst hn
  refine acs Tryz.func246 26 [.tmp 4] fun hwf=>?_
  simp only[go_sem,fm,bH,List.map_nil,List.length_nil];exact acE
 have hv:=fun G=>KZ l hn he gs hf G
 have hcd:qk gs l=if isI (vZ gs l) 1 then 2 else if isI (vZ gs l) 0 then 0 else 1:=by
  simp_all [qk,if_neg]
 obtain⟨x,ex⟩:∃x,vZ gs l=x:=⟨_,rfl⟩;rw[ex]at hv hcd;simp only[fm,bH,Uq,aO]at hv;have hi1:∀(m:Int) G,ai Tryz.prog 274 [.agg [.sl [] .full,.i x.v.kind,.i x.v.n,.s x.v.s,.i x.e],.i m] G fun r h' =>r= .b (isI x m)∧h' =G:=fun m G=>NX x m G
 have dl:((l.length:Int)==0)=false:=by simp_all
 refine acs Tryz.func246 26 [.tmp 4] fun hwf=>?_
 simp only[go_sem,fm,bH,aci,dl];refine(hv _).pthen ?_;simp only[go_sem];intro i5 h5;simp only[go_sem];intro i7 h7;have n7:=aA h7;have hs:∀x y,Ab.Sub h (upd (upd h i5 x) i7 y):=fun x y=>((Sub.refl h).put h5 x).put n7 y
 simp only[go_sem];refine(hi1 1 _).pthen ?_;cases d1:isI x 1
 case true=>
  rw[d1]at hcd;simp only[go_sem];exact .mk _ (.refl _) (hs _ _) ⟨by rw[hcd];rfl,rfl⟩
 simp only[go_sem];refine(hi1 0 _).pthen ?_;cases d0:isI x 0
 all_goals
  rw[d1,d0]at hcd;simp only[go_sem];exact .mk _ (.refl _) (hs _ _) ⟨by rw[hcd];rfl,rfl⟩
end Go.Proofs.YtcochaoekecfdaaGreatDoor
namespace Go.Bf
open Go Go.Ab Go.Proofs.YtcochaoekecfdaaGreatDoor
def jL(l:List aR)(p:Perm):AV:=.sl (l.map aM) p
theorem M9.na:M9 naM:=acz
theorem B5(l:List aR)(i:Nat)(h:i<l.length):(l.take (i+1)).foldl og naM=og ((l.take i).foldl og naM) l[i]:=by
 grind [List.take_succ_eq_append_getElem]
theorem IN{l:List aR}{q:aR→Bool}(hq:∀m,q m=decide (m≠naM))(h:l.findIdx q<l.length):firstM l=l[l.findIdx q]:=by
 unfold firstM;have e:q=fun m=>decide (m≠naM):=funext hq
 subst e;rw[show l.find? (fun m=>decide (m≠naM))=some l[l.findIdx fun m=>decide (m≠naM)]from List.find?_eq_some_iff_getElem.2 ⟨List.findIdx_getElem (w:=h),_,h,rfl,fun j hj=>acv⟩]
 rfl
theorem IP{l:List aR}{q:aR→Bool}(hq:∀m,q m=decide (m≠naM))(h:¬l.findIdx q<l.length):firstM l=naM:=by
 unfold firstM;rw[List.find?_eq_none.2 fun x hx=>acv]
 rfl
def wH(j m:aR):aR:=if j=naM then m else if m≠naM then mD else j
theorem LW{l:List aR}{i:Nat}(h:i<l.length)(j:aR):ou (l.drop i) j=if zq l[i]=false then mD else ou (l.drop (i+1)) (wH j l[i]):=by
 rw[List.drop_eq_getElem_cons h];rfl
end Go.Bf
namespace Go.Proofs.YtcochaoekecfdaaGreatDoor
open Go Go.Ab Go.Bf
theorem U3:(U 34).sz=1:=acK
theorem Jh(ms:List aR)(hl:ms.length≤1000000000)(q:aR→Bool)(g:FuncId)(cap:List AV)(p:Perm)(h:Heap)(hp:∀m∈ms,ai Tryz.prog g (aM m::cap) h fun r h' =>r= .b (q m)∧h' =h):
  ai Tryz.prog 305 [jL ms p,.fn g cap] h fun r h' =>r= .i (ixD q ms)∧h' =h:=by
 refine acs Tryz.func305 19 [.tmp 4] fun hwf=>?_
 simp only[go_sem,jL,aci];refine .intro (fun m ρ h' =>h' =h∧∃i:Nat,i≤ms.length∧m=ms.length - i∧(∀j (hj:j<i) (h2:j<ms.length),q ms[j]=false)∧lk ρ 0=some (.sl (ms.map aM) p)∧lk ρ 1=some (.fn g cap)∧lk ρ 7=some (.i ms.length)∧lk ρ 8=some (.i i)) ms.length ?_ ?_
 ·refine⟨rfl,0,acu,rfl,fun j hj=>acu,?_,?_,?_,?_⟩<;>simp only[go_sem]
 ·rintro m ρ h' ⟨rfl,i,hi,rfl,hc,r0,r1,r7,r8⟩
  simp only[go_sem,r7,r8];refine .intro (fun e=>?_) (fun e=>?_)
  ·have hlt:i<ms.length:=acq e
   have w1:IntKind.i64.wrap ((i:Int)+1)=((i+1:Nat):Int):=acI;have ix:=fun k=>fA.eq (xs:=ms.map aM) (sz:=1) i acv acL k
   rw[acj]at ix;have hg:=hp ms[i] (aco hlt);have hci:=fun(d:q ms[i]=false)=>(fun j (hj:j<i+1) (h2:j<ms.length)=>(by
    grind:q ms[j]=false))
   have hat:=fun(d:q ms[i]=true)=>nN hlt d fun j hj=>hc j hj acu
   obtain⟨m,em⟩:∃m,ms[i]=m:=⟨_,rfl⟩;rw[em]at ix hg hci hat;simp only[aM]at ix;simp only[go_sem,r0,r1,r8,ix];refine(show ai Tryz.prog g (.v (.complex .f64 (hbit m.1) (hbit m.2))::cap) _ _ from hg).pthen ?_
   cases d1:q m
   ·simp only[go_sem,r8,w1]
    refine⟨_,?_,rfl,i+1,acu,rfl,hci d1,?_,?_,?_,?_⟩
    ·omega
    all_goals simp only[go_sem,r0,r1,r7]
   ·simp only[go_sem]
    exact .same (.refl _) ⟨agB,rfl⟩
  ·have hge:i=ms.length:=by grind
   simp only[go_sem];exact .same (.refl _) ⟨acY,rfl⟩
theorem FJ(ms:List aR)(hl:ms.length≤1000000000)(hmm:∀m∈ms,M9 m)(x:aR)(hx:M9 x)(p:Perm)(h:Heap):
  ai Tryz.prog 320 [jL ms p,aM x] h fun r h' =>r= .i (ixD (fun y=>x==y) ms)∧h' =h:=by
 refine acs Tryz.func320 19 [.tmp 4] fun hwf=>?_
 simp only[go_sem,jL,aci];refine .intro (fun m ρ h' =>h' =h∧∃i:Nat,i≤ms.length∧m=ms.length - i∧(∀j (hj:j<i) (h2:j<ms.length),(x==ms[j])=false)∧lk ρ 0=some (.sl (ms.map aM) p)∧lk ρ 1=some (aM x)∧lk ρ 7=some (.i ms.length)∧lk ρ 8=some (.i i)) ms.length ?_ ?_
 ·refine⟨rfl,0,acu,rfl,fun j hj=>acu,?_,?_,?_,?_⟩<;>simp only[go_sem]
 ·rintro m ρ h' ⟨rfl,i,hi,rfl,hc,r0,r1,r7,r8⟩
  simp only[go_sem,r7,r8];refine .intro (fun e=>?_) (fun e=>?_)
  ·have hlt:i<ms.length:=acq e
   have w1:IntKind.i64.wrap ((i:Int)+1)=((i+1:Nat):Int):=acI;have ix:=fun k=>fA.eq (xs:=ms.map aM) (sz:=1) i acv acL k
   rw[acj]at ix;have hm9:=hmm ms[i] (aco hlt);have hci:=fun(d:(x==ms[i])=false)=>(fun j (hj:j<i+1) (h2:j<ms.length)=>(by
    grind:(x==ms[j])=false))
   have hat:=fun(d:(x==ms[i])=true)=>nN (q:=fun y=>x==y) hlt d fun j hj=>hc j hj acu
   obtain⟨m,em⟩:∃m,ms[i]=m:=⟨_,rfl⟩;rw[em]at ix hm9 hci hat;simp only[aM]at ix r1;have ne:=yL hx hm9;cases d1:(x==m)
   ·simp only[go_sem,r0,r1,r8,ix,ne,d1,w1]
    refine⟨_,?_,rfl,i+1,acu,rfl,hci d1,?_,?_,?_,?_⟩
    ·omega
    all_goals simp only[go_sem,r0,r1,r7,aM]
   ·simp only[go_sem,r0,r1,r8,ix,ne,d1]
    exact .same (.refl _) ⟨agB,rfl⟩
  ·have hge:i=ms.length:=by grind
   simp only[go_sem];exact .same (.refl _) ⟨acY,rfl⟩
theorem FB(ms:List aR)(hl:ms.length≤1000000000)(hmm:∀m∈ms,M9 m)(x:aR)(hx:M9 x)(p:Perm)(h:Heap):
  ai Tryz.prog 309 [jL ms p,aM x] h fun r h' =>r= .b (decide (x∈ms))∧h' =h:=by
 refine acs Tryz.func309 9 [.tmp 4] fun hwf=>?_
 simp only[go_sem];refine(FJ ms hl hmm x hx p _).pthen ?_;simp only[go_sem];exact .same (.refl _) ⟨by rw[uw,show(ms.any fun y=>x==y)=decide (x∈ms) by grind];rfl,rfl⟩
theorem EV(m:aR)(hmm:M9 m)(h:Heap):ai Tryz.prog 306 [aM m] h fun r h' =>r= .b (!(m==naM))∧h' =h:=by
 have n:=(nb hmm).nna;refine acs Tryz.func306 5 [.tmp 2] fun hwf=>?_
 simp only[go_sem,aM,n];exact acE
theorem OT(m:aR)(hmm:M9 m)(h:Heap):ai Tryz.prog 307 [aM m] h fun r h' =>r= .b (zq m)∧h' =h:=by
 obtain⟨n1,n2,n3,_⟩:=nb hmm;refine acs Tryz.func307 13 [.tmp 2] fun hwf=>?_
 have es:zq m=(m==naM||(m==aY||m==cC)):=by
  unfold zq
  grind
 rw[es];cases d1:(m==naM)<;>cases d2:(m==aY)<;>cases d3:(m==cC)
 all_goals
  simp only[go_sem,aM,n1,n2,n3,d1,d2,d3];exact acE
theorem K9(ms:List aR)(hl:ms.length≤1000000000)(hmm:∀m∈ms,M9 m)(p:Perm)(h:Heap):ai Tryz.prog 279 [jL ms p] h fun r h' =>r=aM (firstM ms)∧h' =h:=by
 refine acs Tryz.func279 12 [.tmp 2] fun hwf=>?_
 simp only[go_sem,jL];refine(Jh ms hl (fun m=> !(m==naM)) _ [] p _ fun m h=>EV m (hmm m h) _).pthen ?_
 have hq:∀m:aR,(!(m==naM))=decide (m≠naM):=fun m=>acv
 by_cases hx:ms.findIdx (fun m=> !(m==naM))<ms.length
 ·obtain⟨i,ei⟩:∃i,ms.findIdx (fun m=> !(m==naM))=i:=⟨_,rfl⟩
  have ef:=IN hq hx;have e1:ixD (fun m=> !(m==naM)) ms=(i:Nat):=by rw[ixD,ei];omega
  simp only[ei]at ef;have d1:decide ((0:Int)≤((i:Nat):Int))=true:=decide_eq_true acu;have ix:=fun k=>fA.eq (xs:=ms.map aM) (sz:=1) i acv acL k
  rw[acj,←ef]at ix;rw[e1];simp only[go_sem,d1,ix];exact acE
 ·have e1:ixD (fun m=> !(m==naM)) ms= -1:=by simp_all [ixD,if_neg]
  have d1:decide ((0:Int)≤ -1)=false:=rfl;rw[e1];simp only[go_sem,d1];exact .same (.refl _) ⟨by rw[IP hq hx];rfl,rfl⟩
theorem MA(j m:aR)(hj:M9 j)(hmm:M9 m)(h:Heap):ai Tryz.prog 308 [.i 4,aM j,aM m] h fun r h' =>r=aM (wH j m)∧h' =h:=by
 have n1:=(nb hj).na;have n2:=(nb hmm).nna;refine acs Tryz.func308 31 [.tmp 6] fun hwf=>?_
 cases d1:(j==naM)
 case true=>
  simp only[go_sem,aM,n1,d1];exact .same (.refl _) ⟨by rw[wH,if_pos acv];rfl,rfl⟩
 cases d2:(m==naM)
 ·simp only[go_sem,aM,n1,n2,d1,d2]
  exact .same (.refl _) ⟨by rw[wH,if_neg acv,if_pos acv];rfl,rfl⟩
 ·simp only[go_sem,aM,n1,n2,d1,d2]
  exact .same (.refl _) ⟨by rw[wH,if_neg acv,if_neg acv];rfl,rfl⟩
theorem M9.step{j m:aR}(hj:M9 j)(hmm:M9 m):M9 (wH j m):=by
 unfold wH
 repeat' split
 ·omega
 ·decide
 omega
theorem Ou(ms:List aR)(hl:ms.length≤1000000000)(hmm:∀m∈ms,M9 m)(p:Perm)(h:Heap):ai Tryz.prog 280 [jL ms p] h fun r h' =>r=aM (ou ms naM)∧h' =h:=by
 refine acs Tryz.func280 20 [.tmp 2] fun hwf=>?_
 simp only[go_sem,jL,aci];refine .intro (fun m ρ h' =>h' =h∧∃(i:Nat) (j:aR),i≤ms.length∧m=ms.length - i∧M9 j∧ou (ms.drop i) j=ou ms naM∧lk ρ 3=some (aM j)∧lk ρ 6=some (.sl (ms.map aM) p)∧lk ρ 7=some (.i ms.length)∧lk ρ 8=some (.i i)) ms.length ?_ ?_
 ·refine⟨rfl,0,naM,acu,rfl,.na,rfl,?_,?_,?_,?_⟩<;>simp only[go_sem,aM,naM,hbit]
 ·rintro m ρ h' ⟨rfl,i,j,hi,rfl,hj,ho,r3,r6,r7,r8⟩
  simp only[go_sem,r7,r8];refine .intro (fun e=>?_) (fun e=>?_)
  ·have hlt:i<ms.length:=acq e
   have w1:IntKind.i64.wrap ((i:Int)+1)=((i+1:Nat):Int):=acI;have ix:=fun k=>fA.eq (xs:=ms.map aM) (sz:=1) i acv acL k
   rw[acj]at ix;have hm9:=hmm ms[i] (aco hlt);rw[LW hlt]at ho;obtain⟨m,em⟩:∃m,ms[i]=m:=⟨_,rfl⟩;rw[em]at ix hm9 ho;have hsu:=fun G=>OT m hm9 G
   have hst:=fun G=>MA j m hj hm9 G
   simp only[aM]at ix hsu hst r3;simp only[go_sem,r6,r8,ix];refine(hsu _).pthen ?_;cases d1:zq m
   ·rw[if_pos d1]at ho
    simp only[go_sem];exact .same (.refl _) ⟨by rw[←ho];rfl,rfl⟩
   ·rw[if_neg acv]at ho
    simp only[go_sem,r3];refine(hst _).pthen ?_;simp only[go_sem,r8,w1];refine⟨_,?_,rfl,i+1,wH j m,acu,rfl,M9.step hj hm9,ho,?_,?_,?_,?_⟩
    ·omega
    all_goals simp only[go_sem,r6,r7,aM]
  ·have hge:i=ms.length:=by grind
   subst hge;rw[List.drop_length]at ho;simp only[go_sem,r3];exact .same (.refl _) ⟨by rw[←ho];rfl,rfl⟩
theorem Bk(ms:List aR)(hl:ms.length≤1000000000)(hmm:∀m∈ms,M9 m)(a b:aR)(hb:M9 b)(p:Perm)(h:Heap):ai Tryz.prog 281 [jL ms p,aM a,aM b] h fun r h' =>r=aM (if b∈ms then b else a)∧h' =h:=by
 refine acs Tryz.func281 12 [.tmp 6] fun hwf=>?_
 simp only[go_sem];refine(FB ms hl hmm b hb p _).pthen ?_
 by_cases d:b∈ms
 ·simp only[go_sem,decide_eq_true d,if_pos d]
  exact acE
 ·simp only[go_sem,decide_eq_false d,if_neg d]
  exact acE
theorem Qy(alg:Int)(ha:1≤alg∧alg≤6)(ms:List aR)(hl:ms.length≤1000000000)(hmm:∀m∈ms,M6 m)(p:Perm)(h:Heap):ai Tryz.prog 247 [.i alg,jL ms p] h fun r h' =>r= .tup [aM (gR alg ms),.i 0]∧h' =h:=by
 have hm9:=fun m h=>(hmm m h).m9
 refine acs Tryz.func247 49 [.tmp 4,.tmp 5] fun hwf=>?_
 simp only[go_sem,jL,aci];refine .intro (fun m ρ h' =>h' =h∧∃i:Nat,i≤ms.length∧m=ms.length - i∧M9 ((ms.take i).foldl og naM)∧lk ρ 0=some (.i alg)∧lk ρ 1=some (.sl (ms.map aM) p)∧lk ρ 6=some (aM ((ms.take i).foldl og naM))∧lk ρ 9=some (.sl (ms.map aM) p)∧lk ρ 10=some (.i ms.length)∧lk ρ 11=some (.i i)) ms.length ?_ ?_
 ·refine⟨rfl,0,acu,rfl,.na,?_,?_,?_,?_,?_,?_⟩<;>simp only[go_sem,aM,naM,hbit,List.take_zero,List.foldl_nil]
 ·rintro m ρ h' ⟨rfl,i,hi,rfl,hj,r0,r1,r6,r9,r10,r11⟩
  obtain⟨j,ej⟩:∃j,(ms.take i).foldl og naM=j:=⟨_,rfl⟩;rw[ej]at hj r6;simp only[go_sem,r10,r11];refine .intro (fun e=>?_) (fun e=>?_)
  ·have hlt:i<ms.length:=acq e
   have w1:IntKind.i64.wrap ((i:Int)+1)=((i+1:Nat):Int):=acI;have ix:=fun k=>fA.eq (xs:=ms.map aM) (sz:=1) i acv acL k
   rw[acj]at ix;have hm6:=hmm ms[i] (aco hlt);have hsn:=B5 ms i hlt;rw[ej]at hsn;obtain⟨m,em⟩:∃m,ms[i]=m:=⟨_,rfl⟩;rw[em]at ix hm6 hsn;have hri:=fun G=>B9 m hm6 G
   have hjo:=fun G=>N1 j m hj hm6.m9 G
   simp only[aM]at ix hri hjo r6;simp only[go_sem,r9,r11,ix];refine(hri _).pthen ?_;simp only[go_sem,r6];refine(hjo _).pthen ?_;simp only[go_sem,r11,w1];refine⟨_,?_,rfl,i+1,acu,rfl,by grind [M9.join],?_,?_,?_,?_,?_,?_⟩
   ·omega
   all_goals simp only[go_sem,r0,r1,r9,r10,aM,hsn]
  ·have hge:i=ms.length:=by grind
   subst hge;rw[List.take_length]at ej;have ej' :xk ms=j:=ej;have hov:=fun G=>HD j hj G
   have htu:=fun(x:aR) (G:Heap)=>OW x G
   have hov2:=fun G=>HD (EB j) ⟨hj.2,hj.1⟩ G
   have h1:=K9 ms hl hm9 p;have h2:=Ou ms hl hm9 p;have h3:=Bk ms hl hm9 cC aY acz p;have h4:=Bk ms hl hm9 aY cC acz p;simp only[jL]at h1 h2 h3 h4;rcases(show alg=1∨alg=2∨alg=3∨alg=4∨alg=5∨alg=6 by omega)with rfl|rfl|rfl|rfl|rfl|rfl
   ·simp only[go_sem,r0,r6]
    refine(hov _).pthen ?_;simp only[go_sem];exact .same (.refl _) ⟨by simp only[gR,ej',if_true];rfl,rfl⟩
   ·simp only[go_sem,r0,r6]
    refine(htu _ _).pthen ?_;simp only[go_sem];refine(hov2 _).pthen ?_;simp only[go_sem];refine(htu _ _).pthen ?_;simp only[go_sem];exact .same (.refl _) ⟨by simp only[gR,ej'];rfl,rfl⟩
   ·simp only[go_sem,r0,r1]
    refine(h1 _).pthen ?_;exact agX
   ·simp only[go_sem,r0,r1]
    refine(h2 _).pthen ?_;exact agX
   ·simp only[go_sem,r0,r1]
    refine(h3 _).pthen ?_;exact aiu
   ·simp only[go_sem,r0,r1]
    refine(h4 _).pthen ?_;exact aiu
end Go.Proofs.YtcochaoekecfdaaGreatDoor
namespace Go.Bf
open Go Go.Ab Go.Proofs.YtcochaoekecfdaaGreatDoor
theorem tg{α:Type}(f:α→Nat):∀(l:List α) (a:Nat),l.foldl (fun a x=>min a (f x)) a≤a∧∀x∈l,l.foldl (fun a x=>min a (f x)) a≤f x
 | [],a=>acD
 |y::l,a=>by
  obtain⟨h1,h2⟩:=tg f l (min a (f y))
  grind
theorem N3{gs:List bn}:∀ {t:fW} {m:bN},oh t=some m→jM gs m=0→mH gs t=0:=by
 intro t;have main:∀(t:fW) (m:bN),oh t=some m→jM gs m=0→∃x∈t,zJ gs x=0:=by
  intro t
  induction t with
  |nil=>intro m h;cases h
  |cons x r ih=>
   intro m h h0
   match x,h with
   | [],h=>obtain⟨y,hy,e⟩:=ih m h h0;exact⟨y,List.mem_cons_of_mem _ hy,e⟩
   | [l],h=>
    simp only[oh]at h;cases hf:l.find? fun m=>m.op==1 && !m.attr.must with
    |none=>rw[hf]at h;obtain⟨y,hy,e⟩:=ih m h h0;exact⟨y,List.mem_cons_of_mem _ hy,e⟩
    |some k=>
     rw[hf]at h;cases h;have hm:=List.mem_of_find?_eq_some hf;have hall:CC gs l=0:=by
      have:=(tg (jM gs) l 2).2 _ hm;rw[h0]at this;exact Nat.le_zero.1 this
     exact⟨[l],List.mem_cons_self ..,by grind [zJ]⟩
   |a::b::c,h=>obtain⟨y,hy,e⟩:=ih m h h0;exact⟨y,List.mem_cons_of_mem _ hy,e⟩
 intro m h h0;obtain⟨x,hx,e⟩:=main t m h h0;have:=(tg (zJ gs) t 2).2 x hx;rw[e]at this;exact Nat.le_zero.1 this
theorem Ol{gs:List bn}{p:bG}(h:sv gs p=false):fC gs p=(naM,[]):=by
 obtain⟨id,set,alg,tgt,rules,kids,obls⟩:=p;unfold sv at h;simp only[sB]at h;cases hk:oh tgt with
 |none=>grind
 |some m=>
  simp_all [jM,fC,N3,if_true]
theorem N0(j:aR):og j naM=j:=by simp[og,naM]
inductive Drop:List jF→List jF→Prop
 |nil:Drop [] []
 |keep (x:jF) {a b:List jF} (h:Drop a b):Drop (x::a) (x::b)
 |skip {a b:List jF} (h:Drop a b):Drop a ((naM,[])::b)
theorem Drop.app{a b c:List jF}(h:Drop a b):Drop (c++a) (c++b):=by
 induction c with
 |nil=>exact h
 |cons x c ih=>grind [keep]
theorem Drop.join{a b:List jF}(h:Drop a b):∀j,(a.map (·.1)).foldl og j=(b.map (·.1)).foldl og j:=by
 induction h with
 |nil=>simp
 |keep x h ih=>grind
 |skip h ih=>grind [N0]
theorem Drop.first{a b:List jF}(h:Drop a b):firstM (a.map (·.1))=firstM (b.map (·.1)):=by
 unfold firstM
 congr 1
 induction h with
 |nil=>rfl
 |keep x h ih=>grind
 |skip h ih=>simpa using ih
theorem Drop.only{a b:List jF}(h:Drop a b):∀j,ou (a.map (·.1)) j=ou (b.map (·.1)) j:=by
 induction h with
 |nil=>simp
 |keep x h ih=>grind [ou]
 |skip h ih=>
  intro j;have hs:zq naM=true:=acz;simp only[List.map_cons,ou,hs,Bool.true_eq_false,if_false];rw[←ih]
  congr 1
  simp
theorem Drop.mem{a b:List jF}(h:Drop a b){m:aR}(hm:m≠naM):m∈a.map (·.1)↔m∈b.map (·.1):=by
 exact ahK
theorem Drop.comb{a b:List jF}(h:Drop a b)(alg:Int):gR alg (a.map (·.1))=gR alg (b.map (·.1)):=by
 unfold gR xk;rw[h.join,h.first,h.only];simp only[h.mem (show aY≠naM by decide),h.mem (show cC≠naM by decide)]
theorem Drop.parts{a b:List jF}(h:Drop a b)(alg:Int){m:aR}(hm:m≠naM):eO alg m a=eO alg m b:=by
 have h1:(a.find? fun x=>x.1==m)=b.find? fun x=>x.1==m:=by
  exact ahK
 have h2:(a.filter fun x=>x.1==m)=b.filter fun x=>x.1==m:=by
  clear h1;exact ahK
 simp only[eO,h1,h2]
theorem Drop.pM{a b:List jF}(h:Drop a b)(alg:Int)(obls:List cA)(t:Nat):pM alg obls t a=pM alg obls t b:=by
 unfold Go.Bf.pM;simp only[h.comb alg]
 by_cases hp:gR alg (b.map (·.1))=aY
 ·rw[hp,h.parts alg acz]
 ·by_cases hd:gR alg (b.map (·.1))=cC
  ·rw[hd,h.parts alg acz]
  grind
mutual
theorem AW(gs:List bn):∀p:bG,fC gs (kZ gs p)=fC gs p
 |.mk id set alg tgt rules kids obls=>by
  simp only[kZ,fC]
  by_cases h:mH gs tgt=0
  ·simp only[h,if_true]
  ·simp only[h,if_false]
   exact(AX gs kids).app.pM alg obls _
theorem AX(gs:List bn):∀l:List bG,Drop (mz gs (j3 gs l)) (mz gs l)
 | []=>by simp only[j3,mz];exact .nil
 |k::r=>by
  have ih1:=AW gs k;have ih2:=AX gs r;simp only[j3,mz]
  by_cases h:sv gs k=true
  ·simp only[h,if_true,mz,ih1]
   exact .keep _ ih2
  ·have h:sv gs k=false:=by simpa using h
   simp only[h,Bool.false_eq_true,if_false,Ol h];exact .skip ih2
end
def rsA(r:jF):AV:=.agg [aM r.1,az r.2]
theorem IB(l:List cA)(m:aR)(i:Nat)(h:i<l.length):eJ (l.take (i+1)) m=eJ (l.take i) m++(if(l[i].on==1 && m==aY||l[i].on==2 && m==cC)=true then [l[i]]else []):=by
 grind [eJ,List.take_succ_eq_append_getElem]
theorem qS(l:List cA)(m:aR){L:List AV}(hL:L=l.map br)(q:Perm):Weak (.agg [aM m,.sl L q]) (rsA (m,l)):=by
 subst hL;refine .agg _ _ rfl fun i a b=>?_
 rcases i with _|_|i
 ·exact adQ
 ·exact afc
 grind
theorem yT(alg:Int)(m:aR)(l:List jF)(i:Nat)(h:i<l.length)(h3:alg≠3):eO alg m (l.take (i+1))=eO alg m (l.take i)++(if(l[i].1==m)=true then l[i].2 else []):=by
 unfold eO;rw[if_neg h3,if_neg h3,List.take_succ_eq_append_getElem h,List.filter_append,List.map_append,List.flatten_append]
 grind
theorem yS{m:aR}{l:List jF}(h:∀x∈l,(x.1==m)=false):eO 3 m l= []:=by
 unfold eO;rw[if_pos rfl,List.find?_eq_none.2 fun x hx=>acv]
 rfl
theorem wD{m:aR}{l:List jF}(i:Nat)(h:i<l.length)(h1:(l[i].1==m)=true)(h2:∀j (hj:j<i),((l[j]'acu).1==m)=false):eO 3 m l=l[i].2:=by
 unfold eO;rw[if_pos rfl,show(l.find? fun x=>x.1==m)=some l[i]from List.find?_eq_some_iff_getElem.2 ⟨h1,i,h,rfl,fun j hj=>acv⟩]
 rfl
end Go.Bf
namespace Go.Proofs.YtcochaoekecfdaaGreatDoor
open Go Go.Ab Go.Bf
theorem U4:(U 158).sz=3:=acK
theorem U5:(U 119).sz=2:=acK
theorem ru(l:List cA)(hl:l.length≤1000000)(m:aR)(hpd:m=aY∨m=cC)(h:Heap):ai Tryz.prog 249 [az l,aM m] h fun r h' =>r=az (eJ l m)∧h' =h:=by
 have h9:M9 m:=by rcases hpd with rfl|rfl<;>decide
 have pe:=(nb h9).pe;have de:=(nb h9).de;have uO:=U4;obtain⟨b,b1,b2⟩:∃b,(m==aY)=b∧(m==cC)= !b:=by
  rcases hpd with rfl|rfl
  ·exact⟨true,acz,acz⟩
  ·exact⟨false,acz,acz⟩
 refine acs Tryz.func249 36 [.tmp 4] fun hwf=>?_
 simp only[go_sem,az,aM,aci];refine .intro (fun q ρ H=>∃(i:Nat) (y:AV),Acc U 158 h H y ((eJ (l.take i) m).map br)∧i≤l.length∧q=l.length - i∧lk ρ 1=some (.v (.complex .f64 (hbit m.1) (hbit m.2)))∧lk ρ 5=some y∧lk ρ 8=some (.sl (l.map br) .no)∧lk ρ 9=some (.i l.length)∧lk ρ 10=some (.i i)) l.length ?_ ?_
 ·refine⟨0,.sl [] .full,by simpa[eJ]using Acc.full (.refl _),acu,rfl,?_,?_,?_,?_,?_⟩<;>simp only[go_sem]
 ·rintro q ρ H ⟨i,y,hy,hi,rfl,r1,r5,r8,r9,r10⟩
  obtain⟨qy,eqy⟩:=hy.row;subst eqy;simp only[go_sem,r9,r10];refine .intro (fun e=>?_) (fun e=>?_)
  ·have hlt:i<l.length:=acq e
   have w1:=acp i acu;have hsn:=IB l m i hlt;have ix:=fun k=>fA.eq (xs:=l.map br) (sz:=3) i acU acL k
   rw[acj]at ix;obtain⟨o,eo⟩:∃o,l[i]=o:=⟨_,rfl⟩;rw[eo]at ix hsn;simp only[br]at ix;simp only[go_sem,r8,r10,ix];intro i7 h7;cases b
   ·cases a3:(o.on==2)
    ·cases a1:(o.on==1)
     ·simp only[go_sem,r10,a1,a3,w1]
      exact ag1
     ·simp only[go_sem,r1,r10,a1,a3,b1,pe,w1]
      exact ag1
    ·cases a1:(o.on==1)
     ·simp only[go_sem,r1,r5,a1,a3,b2,de]
      exact agR
     ·simp only[go_sem,r1,r5,a1,a3,b1,b2,pe,de]
      exact agR
   ·cases a1:(o.on==1)
    ·cases a3:(o.on==2)
     ·simp only[go_sem,r10,a1,a3,w1]
      exact ag1
     ·simp only[go_sem,r1,r10,a1,a3,b2,de,w1]
      exact ag1
    ·cases a3:(o.on==2)
     ·simp only[go_sem,r1,r5,a1,b1,pe]
      exact agR
     ·simp only[go_sem,r1,r5,a1,b1,pe]
      exact agR
  ·have hge:i=l.length:=by have:=acm e;omega
   subst hge;rw[List.take_length]at hy;simp only[go_sem,r5];exact .mk (az (eJ l m)) (by rw[List.take_length];exact .sl _ _) hy.1 ⟨rfl,rfl⟩
theorem tri{t:Nat}(h:t≤2):t=0∨t=1∨t=2:=acu
theorem IC(r:cK)(hr:r.obls.length≤1000000)(t c:Nat)(ht:t≤2)(hc:c≤2)(h:Heap):ai Tryz.prog 245 [aB r,.i t,.i c] h fun x h' =>x=rsA (nh r t c)∧h' =h:=by
 obtain⟨id,deny,tgt,cond,obls⟩:=r;simp only at hr;have hdp:=fun G=>ru obls hr aY (.inl rfl) G
 have hdd:=fun G=>ru obls hr cC (.inr rfl) G
 have hip:=fun G=>yq aY acz G
 have hid:=fun G=>yq cC acz G
 simp only[aM,aY,cC,hbit,az]at hdp hdd hip hid;refine acs Tryz.func245 38 [.cell 6 119] fun hwf=>?_
 simp only[go_sem,aB];intro i3 h3;simp only[go_sem];intro i6 h6;have n63:=aF h6;have n6:=aA h6;have hs:∀x y,Ab.Sub h (upd (upd h i3 x) i6 y):=fun x y=>((Sub.refl h).put h3 x).put n6 y
 have hs2:∀x y z,Ab.Sub h (upd (upd (upd h i3 x) i6 y) i6 z):=fun x y z=>(hs x y).put n6 z
 cases deny
 ·rcases tri ht with rfl|rfl|rfl
  ·exact aht
  ·exact ahM
  ·rcases tri hc with rfl|rfl|rfl
   ·exact aht
   ·exact ahM
   ·simp only[go_sem,ak,n63.symm,az]
    refine(hdp _).pthen ?_;simp only[go_sem];exact .mk (rsA (aY,eJ obls aY)) (qS _ aY rfl _) (hs _ _) ⟨rfl,rfl⟩
 ·rcases tri ht with rfl|rfl|rfl
  ·exact aht
  ·exact ahN
  ·rcases tri hc with rfl|rfl|rfl
   ·exact aht
   ·exact ahN
   ·simp only[go_sem,ak,n63.symm,az]
    refine(hdd _).pthen ?_;simp only[go_sem];exact .mk (rsA (cC,eJ obls cC)) (qS _ cC rfl _) (hs _ _) ⟨rfl,rfl⟩
theorem LL(gs:List bn)(t:fW):mH gs t≤2:=(tg (zJ gs) t 2).1
theorem KK(gs:List bn)(l:List aN):qk gs l≤2:=by
 grind [qk]
theorem ID(r:cK)(hr:Ei r)(gs:List bn)(hf:rI gs)(h:Heap):ai Tryz.prog 211 [aB r,bH gs] h fun x h' =>x=rsA (gZ gs r)∧h' =h:=by
 have hob:=(kg hr.2.2.2).1;have hmt:=fun G=>LM r.tgt (Cl hr.2.1) gs hf G
 have hcd:=fun G=>NC r.cond hr.2.2.1 gs hf G
 have hef:=fun G=>IC r acu (mH gs r.tgt) (qk gs r.cond) (LL _ _) (KK _ _) G
 simp only[aB,bH]at hmt hcd hef;refine acs Tryz.func211 15 [.cell 4 119] fun hwf=>?_
 simp only[go_sem,aB,bH];intro i2 h2;simp only[go_sem];intro i4 h4;have n42:=aF h4;have n4:=aA h4;obtain⟨H,eH⟩:∃H,upd (upd h i2 (some (.obj [.s r.id,.b r.deny,aU r.tgt,fm r.cond,az r.obls] 224))) i4 (some (.obj [.v (.complex .f64 0 0),.sl [] .full] 119))=H:=⟨_,rfl⟩;have hH:Ab.Sub h H:=by rw[←eH];exact((Sub.refl h).put h2 _).put n4 _
 have g2:H i2=some (.obj [.s r.id,.b r.deny,aU r.tgt,fm r.cond,az r.obls] 224):=agf;have g4:H i4=some (.obj [.v (.complex .f64 0 0),.sl [] .full] 119):=adX;simp only[go_sem];rw[eH];clear eH;refine .calls (hm1 i2 (.obj [.s r.id,.b r.deny,aU r.tgt,fm r.cond,az r.obls] 224)) [0,1,2,3,5,6,7,4,8,9,10] (.hm1 g2) acw rfl ?_;simp only[go_sem,fY];refine(hmt _).pthen ?_;refine⟨.hm1 g2,?_⟩;simp only[go_sem];refine(hcd _).pthen ?_;refine⟨.hm1 g2,?_⟩;simp only[go_sem];refine(hef _).pthen ?_;refine⟨.hm1 g2,?_⟩;simp only[go_sem,rsA,az,aM,g4];refine⟨.hm1 (by rw[ag _ _ n42.symm];exact g2),?_⟩
 exact .mk _ (.refl _) (hH.put n4 _) ⟨rfl,rfl⟩
theorem A9(l:List jF):Sized 2 (l.map rsA):=bu (f:=rsA) (fun _=>rfl) l
theorem FL{id:Txt}{set:Bool}{alg:Int}(ha:1≤alg∧alg≤6){tgt:fW}{rules:List cK}{kids:List bG}{obls:List cA}(ho:obls.length≤1000000)(t:Nat)(ht:t=1∨t=2)(parts:List jF)(hp:∀x∈parts,M6 x.1)(hn:parts.length≤32){B:Nat}(hB:B≤10000000)(hpb:∀x∈parts,x.2.length≤B)(q:Perm)(h:Heap):
  ai Tryz.prog 212 [aL (.mk id set alg tgt rules kids obls),.i t,.sl (parts.map rsA) q] h fun r h' =>r=rsA (pM alg obls t parts)∧h' =h:=by
 have hm6:∀m∈parts.map (·.1),M6 m:=fun m hm=>by
  obtain⟨x,hx,rfl⟩:=List.mem_map.1 hm;exact hp x hx
 have hc6:M6 (gR alg (parts.map (·.1))):=GM hm6
 have uR:=U5;have uO:=U4;have uM:=U3;have hall:=fun(p:Perm) (G:Heap)=>Qy alg ha (parts.map (·.1)) (by rw[aci];omega) hm6 p G
 simp only[jL]at hall;refine acs Tryz.func212 84 [.cell 6 119] fun hwf=>?_
 simp only[go_sem,aL];intro i3 h3;simp only[go_sem];intro i6 h6;have n63:=aF h6;have n6' :=aA h6;obtain⟨H0,eH⟩:∃H0,upd (upd h i3 (some (.obj [.s id,.b set,.i alg,aU tgt,.sl (rules.map aB) .no,.sl (fD kids) .no,az obls] 65))) i6 (some (.obj [.v (.complex .f64 0 0),.sl [] .full] 119))=H0:=⟨_,rfl⟩;have hH0:Ab.Sub h H0:=afx;have g3:H0 i3=some (.obj [.s id,.b set,.i alg,aU tgt,.sl (rules.map aB) .no,.sl (fD kids) .no,az obls] 65):=by rw[←eH,ag _ _ n63.symm,ah]
 have g6:H0 i6=some (.obj [.v (.complex .f64 0 0),.sl [] .full] 119):=adX;simp only[go_sem,aci];rw[eH];clear eH;refine .intro (fun m ρ H=>∃(i:Nat) (y:AV),Acc U 34 H0 H y (((parts.map (·.1)).take i).map aM)∧i≤parts.length∧m=parts.length - i∧lk ρ 1=some (.i t)∧lk ρ 2=some (.sl (parts.map rsA) q)∧lk ρ 3=some (.ptr i3 0)∧lk ρ 6=some (.ptr i6 0)∧lk ρ 7=some y∧lk ρ 15=some (.sl (parts.map rsA) q)∧lk ρ 16=some (.i parts.length)∧lk ρ 17=some (.i i)) parts.length ?_ ?_
 ·refine⟨0,.sl [] .full,.full (.refl _),acu,rfl,?_,?_,?_,?_,?_,?_,?_,?_⟩<;>simp only[go_sem]
 ·rintro m ρ H ⟨i,y,hy,hi,rfl,r1,r2,r3,r6,r7,r15,r16,r17⟩
  obtain⟨qy,eqy⟩:=hy.row;subst eqy;simp only[go_sem,r16,r17];refine .intro (fun e=>?_) (fun e=>?_)
  ·have hlt:i<parts.length:=acq e
   have w1:=acp i acu;have hsn:((parts.map (·.1)).take (i+1)).map aM=((parts.map (·.1)).take i).map aM++ [aM parts[i].1]:=by
    rw[List.take_succ_eq_append_getElem acU,List.map_append,acj];rfl
   have ix:=fun k=>fA.eq (xs:=parts.map rsA) (sz:=2) i acU acL k
   rw[acj]at ix;obtain⟨x,ex⟩:∃x,parts[i]=x:=⟨_,rfl⟩;rw[ex]at ix hsn;simp only[rsA,aM,az]at ix;simp only[go_sem,r15,r17,ix];intro i9 h9;simp only[go_sem,r7];refine(hy.sub (.aj h9)).app (zs:=[aM x.1]) (by rw[uM];decide) acA (fun k hk=>hk) (by rw[uM];exact bu (f:=aM) (fun _=>rfl) _) (by rw[uM];intro z hz;rw[List.mem_singleton.1 hz];rfl) acN fun y' H' hy' kp=>?_
   simp only[go_sem,r17,w1];refine⟨_,?_,i+1,y',by rw[hsn];exact hy',acu,rfl,?_,?_,?_,?_,?_,?_,?_,?_⟩
   ·omega
   all_goals simp only[go_sem,r1,r2,r3,r6,r15,r16]
  ·have hge:i=parts.length:=by have:=acm e;omega
   subst hge;have htl:(parts.map (·.1)).take parts.length=parts.map (·.1):=List.take_of_length_le acD
   rw[htl]at hy;have k3:=hy.1 _ _ g3;have k6:=hy.1 _ _ g6;have hsH:=hH0.trans hy.1;have hjp:pM alg obls t parts=if t=0 then(naM,[])else if t=1 then(gG (gR alg (parts.map (·.1))),[])else if gR alg (parts.map (·.1))≠aY∧gR alg (parts.map (·.1))≠cC then(gR alg (parts.map (·.1)),[])
     else(gR alg (parts.map (·.1)),eO alg (gR alg (parts.map (·.1))) parts++eJ obls (gR alg (parts.map (·.1)))):=rfl
   have hple:(eO alg (gR alg (parts.map (·.1))) parts).length≤32*B+B:=tO hpb hn
   have hal:=fun G=>hall qy G
   obtain⟨m,em⟩:∃m,gR alg (parts.map (·.1))=m:=⟨_,rfl⟩
   rw[em]at hc6 hjp hal hple;have hin:=fun G=>yq m hc6.m9 G
   have npe:=(nb hc6.m9).npe;have nde:=(nb hc6.m9).nde;simp only[aM]at hal hin;rw[htl]at r7;simp only[go_sem,r3,r7,k3];refine(hal _).pthen ?_;rcases ht with rfl|rfl
   ·simp only[go_sem,r1]
    refine(hin _).pthen ?_;simp only[go_sem,r6,k6];exact .mk (rsA (gG m,[])) (qS [] (gG m) rfl _) (hsH.put n6' _) ⟨by rw[hjp];rfl,rfl⟩
   have k6H:=k6;cases dp:(m==aY)
   case true=>
    have e1:m=aY:=by simpa using dp
    have hne:¬(m≠aY∧m≠cC):=fun hh=>hh.1 e1
    have hdu:=fun G=>ru obls ho m (.inl e1) G
    simp only[az,aM]at hdu;simp only[go_sem,r1,npe,dp];exact agH
   case false=>
    cases dd:(m==cC)
    case true=>
     have e1:m=cC:=by simpa using dd
     have hne:¬(m≠aY∧m≠cC):=fun hh=>hh.2 e1
     have hdu:=fun G=>ru obls ho m (.inr e1) G
     simp only[az,aM]at hdu;simp only[go_sem,r1,npe,nde,dp,dd];exact agH
    case false=>
     have e1:m≠aY:=by simpa using dp
     have e2:m≠cC:=by simpa using dd
     simp only[go_sem,r1,r6,npe,nde,dp,dd,k6];exact .mk (rsA (m,[])) (qS [] m rfl _) (hsH.put n6' _) ⟨by rw[hjp,if_neg acz,if_neg acz,if_pos ⟨e1,e2⟩],rfl⟩
theorem Aw:∀(n d:Nat),d+n=5→∀(p:bG),mI d p→∀(gs:List bn),rI gs→∀(h:Heap),ai Tryz.prog 172 [aL p,bH gs] h fun r h' =>r=rsA (fC gs p)∧h' =h
 |0,d,hd,.mk id set alg tgt rules kids obls,hE,gs,hf,h=>by
  simp only[mI]at hE;omega
 |n+1,d,hd,.mk id set alg tgt rules kids obls,hE,gs,hf,h=>by
  have ih:=Aw n (d+1) acu;simp only[mI,qD]at hE;obtain⟨_,_,ha1,ha2,_,_,hT,hO,hR,hK,hRE,hKE⟩:=hE;have hob:=(kg hO).1;have hmt:=fun G=>LM tgt (Cl hT) gs hf G
  have hev:fC gs (.mk id set alg tgt rules kids obls)=if mH gs tgt=0 then(naM,[])else pM alg obls (mH gs tgt) (rules.map (gZ gs)++kids.map (fC gs)):=by simp only[fC,td]
  have hjo:=fun(ht:mH gs tgt=1∨mH gs tgt=2) (q:Perm) (G:Heap)=>FL (id:=id) (set:=set) (alg:=alg) ⟨ha1,ha2⟩ (tgt:=tgt) (rules:=rules) (kids:=kids) (obls:=obls) acu (mH gs tgt) ht (rules.map (gZ gs)++kids.map (fC gs)) (fun x hx=>by
   rcases List.mem_append.1 hx with hx|hx
   ·obtain⟨r,_,rfl⟩:=List.mem_map.1 hx;exact Az _ _ _
   ·obtain⟨r,_,rfl⟩:=List.mem_map.1 hx;exact BT gs r) adb (B:=10000000) (Nat.le_refl _) (fun x hx=>by
   rcases List.mem_append.1 hx with hx|hx
   ·obtain⟨r,hr,rfl⟩:=List.mem_map.1 hx
    have h1:=Ay r (mH gs r.tgt) (qk gs r.cond);have h2:=(kg (hRE r hr).2.2.2).1
    show(nh r (mH gs r.tgt) (qk gs r.cond)).2.length≤_
    omega
   ·obtain⟨r,hr,rfl⟩:=List.mem_map.1 hx
    have h1:=BS gs n (d+1) r acu (hKE r hr);have h2:oB n≤oB 4:=by
     have:n≤4:=acu;rcases(show n=0∨n=1∨n=2∨n=3∨n=4 by omega)with rfl|rfl|rfl|rfl|rfl<;>decide
    exact Nat.le_trans h1 (Nat.le_trans h2 acz)) q G
  have hrl:=fun(r:cK) (hr:Ei r) (G:Heap)=>ID r hr gs hf G
  have hml:=LL gs tgt;obtain⟨t,et⟩:∃t,mH gs tgt=t:=⟨_,rfl⟩;rw[et]at hmt hjo hev hml;simp only[aL,bH,aW,aU,az]at hmt hjo hrl;have uR:=U5;refine acs Tryz.func172 50 [.cell 4 119] fun hwf=>?_
  simp only[go_sem,aL,bH,aW,aU,az];intro i2 h2;simp only[go_sem];intro i4 h4;have n42:=aF h4;have n4' :=aA h4;obtain⟨H0,eH⟩:∃H0,upd (upd h i2 (some (.obj [.s id,.b set,.i alg,.sl (tgt.map cN) .no,.sl (rules.map aB) .no,.sl (kids.map aL) .no,.sl (obls.map br) .no] 65))) i4 (some (.obj [.v (.complex .f64 0 0),.sl [] .full] 119))=H0:=⟨_,rfl⟩;have hH0:Ab.Sub h H0:=afw;have g2:H0 i2=some (.obj [.s id,.b set,.i alg,.sl (tgt.map cN) .no,.sl (rules.map aB) .no,.sl (kids.map aL) .no,.sl (obls.map br) .no] 65):=agf;have g4:H0 i4=some (.obj [.v (.complex .f64 0 0),.sl [] .full] 119):=adX;simp only[go_sem,ak,n42.symm];rw[eH];clear eH;refine(hmt _).pthen ?_;cases dt:((t:Int)==0)
  case true=>
   have e0:t=0:=by have:(t:Int)=0:=(by simpa using dt);omega
   simp only[go_sem,dt,g4];exact .mk (rsA (naM,[])) (qS [] naM rfl _) (hH0.put n4' _) ⟨by rw[hev,if_pos e0],rfl⟩
  have ht0:t≠0:=by rintro rfl;simp at dt
  have ht12:t=1∨t=2:=acu;rw[if_neg ht0]at hev;simp only[go_sem,dt,g2,aci];refine .intro (fun m ρ H=>∃(i:Nat) (y:AV),Acc U 119 H0 H y (((rules.map (gZ gs)).take i).map rsA)∧i≤rules.length∧m=rules.length - i∧lk ρ 1=some (.sl (gs.map kT) .no)∧lk ρ 2=some (.ptr i2 0)∧lk ρ 4=some (.ptr i4 0)∧lk ρ 5=some (.i t)∧lk ρ 6=some y∧lk ρ 19=some (.sl (rules.map aB) .no)∧lk ρ 20=some (.i rules.length)∧lk ρ 21=some (.i i)) rules.length ?_ ?_
  ·refine⟨0,.sl [] .full,.full (.refl _),acu,rfl,?_,?_,?_,?_,?_,?_,?_,?_⟩<;>simp only[go_sem]
  ·rintro m ρ H ⟨i,y,hy,hi,rfl,r1,r2,r4,r5,r6,r19,r20,r21⟩
   obtain⟨qy,eqy⟩:=hy.row;subst eqy;simp only[go_sem,r20,r21];refine .intro (fun e=>?_) (fun e=>?_)
   ·have hlt:i<rules.length:=acq e
    have w1:=acp i acu;have hsn:((rules.map (gZ gs)).take (i+1)).map rsA=((rules.map (gZ gs)).take i).map rsA++ [rsA (gZ gs rules[i])]:=by
     rw[List.take_succ_eq_append_getElem acU,List.map_append,acj];rfl
    have ix:=fun k=>fA.eq (xs:=rules.map aB) (sz:=5) i acU acL k
    rw[acj]at ix;have hre:=hRE _ (aco hlt);obtain⟨x,ex⟩:∃x,rules[i]=x:=⟨_,rfl⟩;rw[ex]at ix hsn hre;have hr1:=hrl x hre;simp only[aB,aU,az]at ix hr1;simp only[go_sem,r19,r21,ix];intro i8 h8;simp only[go_sem,r1,r6];refine(hr1 _).pthen ?_;simp only[go_sem,rsA,aM,az];refine(hy.sub (.aj h8)).app (zs:=[rsA (gZ gs x)]) (by rw[uR];decide) acA (fun k hk=>hk) (by rw[uR];exact A9 _) ae6 acN fun y' H' hy' kp=>?_
    simp only[go_sem,r21,w1];refine⟨_,?_,i+1,y',by rw[hsn];exact hy',acu,rfl,?_,?_,?_,?_,?_,?_,?_,?_⟩
    ·omega
    all_goals simp only[go_sem,r1,r2,r4,r5,r19,r20]
   ·have hge:i=rules.length:=by have:=acm e;omega
    subst hge;have htl:(rules.map (gZ gs)).take rules.length=rules.map (gZ gs):=List.take_of_length_le acD;rw[htl]at hy r6;have k2:=hy.1 _ _ g2;simp only[go_sem,r2,k2,aci];refine .intro (fun m ρ H=>∃(i:Nat) (y:AV),Acc U 119 H0 H y ((rules.map (gZ gs)++(kids.map (fC gs)).take i).map rsA)∧i≤kids.length∧m=kids.length - i∧lk ρ 1=some (.sl (gs.map kT) .no)∧lk ρ 2=some (.ptr i2 0)∧lk ρ 4=some (.ptr i4 0)∧lk ρ 5=some (.i t)∧lk ρ 6=some y∧lk ρ 33=some (.sl (kids.map aL) .no)∧lk ρ 34=some (.i kids.length)∧lk ρ 35=some (.i i)) kids.length ?_ ?_
    ·refine⟨0,_,by rw[List.take_zero,List.append_nil];exact hy,acu,rfl,?_,?_,?_,?_,?_,?_,?_,?_⟩<;>simp only[go_sem,r1,r2,r4,r5,r6]
    ·rintro m ρ2 H2 ⟨i,y,hy,hi,rfl,s1,s2,s4,s5,s6,s33,s34,s35⟩
     obtain⟨qy,eqy⟩:=hy.row;subst eqy;simp only[go_sem,s34,s35];refine .intro (fun e=>?_) (fun e=>?_)
     ·have hlt:i<kids.length:=acq e
      have w1:=acp i acu;have hsn:(rules.map (gZ gs)++(kids.map (fC gs)).take (i+1)).map rsA=(rules.map (gZ gs)++(kids.map (fC gs)).take i).map rsA++ [rsA (fC gs kids[i])]:=by
       rw[List.take_succ_eq_append_getElem acU,←List.append_assoc,List.map_append,acj];rfl
      have ix:=fun k=>fA.eq (xs:=kids.map aL) (sz:=7) i acU (by rw[acj,jo]) k
      rw[acj]at ix;have hke:=hKE _ (aco hlt);obtain⟨x,ex⟩:∃x,kids[i]=x:=⟨_,rfl⟩;rw[ex]at ix hsn hke;have hr1:=ih x hke gs hf;obtain⟨kid,kset,kalg,ktgt,krules,kkids,kobls⟩:=x;simp only[aL,aU,az,bH,aW]at ix hr1;simp only[go_sem,s33,s35,ix];intro i10 h10;simp only[go_sem,s1,s6];refine(hr1 _).pthen ?_;simp only[go_sem,rsA,aM,az];refine(hy.sub (.aj h10)).app (zs:=[rsA (fC gs (.mk kid kset kalg ktgt krules kkids kobls))]) (by rw[uR];decide) acA (fun k hk=>hk) (by rw[uR];exact A9 _) ae6 (by simp only[go_sem,aci,List.length_take,List.length_cons,List.length_nil,acn];omega) fun y' H' hy' kp=>?_
      simp only[go_sem,s35,w1];refine⟨_,?_,i+1,y',by rw[hsn];exact hy',acu,rfl,?_,?_,?_,?_,?_,?_,?_,?_⟩
      ·omega
      all_goals simp only[go_sem,s1,s2,s4,s5,s33,s34]
     ·have hge:i=kids.length:=by have:=acm e;omega
      subst hge;have htl:(kids.map (fC gs)).take kids.length=kids.map (fC gs):=List.take_of_length_le acD;rw[htl]at hy s6;have k2:=hy.1 _ _ g2;have k4:=hy.1 _ _ g4;have hj:=fun G=>hjo ht12 qy G
      rw[←hev]at hj;obtain⟨z,ez⟩:∃z,fC gs (.mk id set alg tgt rules kids obls)=z:=⟨_,rfl⟩;rw[ez]at hj;simp only[go_sem,s2,s5,s6,k2];refine(hj _).pthen ?_;simp only[go_sem,s4,rsA,aM,az,k4];exact .mk (rsA z) (.refl _) ((hH0.trans hy.1).put n4' _) ⟨by rw[ez];rfl,rfl⟩
theorem C1(p:bG)(hp:gu p=0)(gs:List bn)(hf:rI gs)(h:Heap):ai Tryz.prog 123 [aL p,bH gs] h fun r h' =>r= .tup [rsA (fC gs p),.i 0]∧h' =h:=by
 have hd:=fun G=>Aw 4 1 rfl p (qT hp) gs hf G
 have hr:=fun G=>ua p G
 rw[hp]at hr;obtain⟨id,set,alg,tgt,rules,kids,obls⟩:=p;refine acs Tryz.func123 13 [.cell 4 119,.tmp 5] fun hwf=>?_
 simp only[go_sem,aL,bH,aU,az];intro i2 h2;simp only[go_sem];intro i4 h4;have n42:=aF h4;have n4:=aA h4;have hs:∀x y,Ab.Sub h (upd (upd h i2 x) i4 y):=fun x y=>((Sub.refl h).put h2 x).put n4 y
 simp only[go_sem,ak,n42.symm];refine(hr _).pthen ?_;simp only[go_sem,ak,n42.symm];refine(hd _).pthen ?_;simp only[go_sem,rsA,aM,az];exact ad7
end Go.Proofs.YtcochaoekecfdaaGreatDoor
namespace Go.Bf
open Go Go.Ab Go.Proofs.YtcochaoekecfdaaGreatDoor
structure gU where
 err:Int
 mark:aR
 glass:Bool
 val:bp
 hidden:Bool
 at_:Int
structure pW where
 op:OpD
 version:Int
 mark:aR
 glass:Bool
 obls:List cA
def O7:OpD:=⟨0,[],[],[],[],aq,0,[],[],false⟩
def xy:pW:=⟨O7,0,naM,false,[]⟩
def BZ:Txt:=[103,108,97,115,115]
def qN(s:an)(r:pX):Bool:=r.isOpen && decide (100≤s.tick - r.tick)
def Lz(s:an)(subj:Txt):Bool:=s.reviews.any fun r=>r.subj==subj && qN s r
def sS(s:an)(o:OpD)(m:aR):Bool:=o.glass && (m==cC||m==naM) && yh s.roles ⟨o.subj,BZ⟩ && !Lz s o.subj
def Ba(s:an)(o:OpD)(reason:Txt):pX:=⟨(s.reviews.length:Int)+1,s.tick,o.subj,o.case,iE o.kind,reason,true⟩
def bZ(s:an)(o:OpD)(reason:Txt):an:={s with reviews:=s.reviews++ [Ba s o reason]}
def jJ(l:List cA)(field:Txt):Bool:=l.any fun x=>x.kind==2 && x.arg==field
def iI(cs:List aK)(id:Txt):Nat:=cs.findIdx fun c=>c.id==id
def iO(s:an)(o:OpD)(what:Txt):an:=
 if iI s.cases o.case<s.cases.length∧o.kind≠6 then {s with cases:=s.cases.modify (iI s.cases o.case) fun c=>jk s c o.subj what} else s
def fB(o:OpD)(done:Bool)(s:an)(x:cA):an:=
 if x.kind=1∧done=true then iO s o x.arg
 else if x.kind=3 then bZ s o x.arg
 else if x.kind=4 then {s with notices:=s.notices++ [⟨s.tick,o.case,x.arg⟩]}
 else s
def di(s:an)(o:OpD)(l:List cA)(done:Bool):an:=l.foldl (fB o done) s
def rS(s:an):Bool:=decide (256<s.reviews.length)||decide (256<s.notices.length)||s.cases.any fun c=>decide (256<c.log.length)
def gH(s:an)(o:OpD):jF:=fC (fE s o) s.policy
def jV(s:an)(o:OpD):Int×Int:=if bJ s o=0∧o.kind=7 then((aQ o.text).2.1,(aQ o.text).2.2)else(bJ s o,0)
def fF(s:an)(o:OpD):Bool:=sS s o (gH s o).1
def sV(s:an)(o:OpD):Bool:=decide ((gH s o).1=aY)||fF s o
def cS(s:an)(o:OpD):an:=
 let s1:=if fF s o then bZ s o o.reason else s
 di (if sV s o then dO aQ s1 o else s1) o (gH s o).2 (sV s o)
def pn(s:an)(o:OpD):gU:=
 ⟨if sV s o then 0 else 12,(gH s o).1,fF s o,if sV s o && o.kind==2 && !jJ (gH s o).2 o.field then eN (bw s.cases o.case).fields o.field else aq,sV s o && o.kind==2 && jJ (gH s o).2 o.field,0⟩
def aS(s:an)(o:OpD):an×gU×pW×Int:=
 if(jV s o).1≠0 then(s,⟨(jV s o).1,naM,false,aq,false,(jV s o).2⟩,xy,(jV s o).1)
 else if rS (cS s o)then(s,⟨6,naM,false,aq,false,0⟩,xy,6)
 else(cS s o,pn s o,⟨o,s.version,(gH s o).1,fF s o,(gH s o).2⟩,0)
theorem yF(s:an)(o:OpD)(w:Txt):(iO s o w).tick=s.tick∧(iO s o w).roles=s.roles∧(iO s o w).policy=s.policy∧(iO s o w).version=s.version∧(iO s o w).reviews=s.reviews∧(iO s o w).notices=s.notices:=by
 grind [iO]
theorem CX(o:OpD)(done:Bool)(s:an)(x:cA):(fB o done s x).tick=s.tick∧(fB o done s x).roles=s.roles∧(fB o done s x).policy=s.policy∧(fB o done s x).version=s.version:=by
 unfold fB;split
 ·grind [yF]
 ·split
  ·exact⟨rfl,rfl,rfl,rfl⟩
  grind
theorem Fc(o:OpD)(done:Bool):∀(l:List cA) (s:an),(di s o l done).tick=s.tick∧(di s o l done).roles=s.roles∧(di s o l done).policy=s.policy∧(di s o l done).version=s.version
 | [],s=>⟨rfl,rfl,rfl,rfl⟩
 |x::l,s=>by
  obtain⟨a1,a2,a3,a4⟩:=CX o done s x;obtain⟨b1,b2,b3,b4⟩:=Fc o done l (fB o done s x);exact⟨b1.trans a1,b2.trans a2,b3.trans a3,b4.trans a4⟩
def gF(o:OpD)(a b:List pX):Prop:=∃c,b=a++c∧∀i (h:i<c.length),c[i].id=((a.length+i+1:Nat):Int)∧c[i].isOpen=true∧c[i].subj=o.subj
theorem gF.refl(o:OpD)(a:List pX):gF o a a:=⟨[],acD,fun i h=>adD⟩
theorem gF.trans{o:OpD}{a b c:List pX}(h1:gF o a b)(h2:gF o b c):gF o a c:=by
 obtain⟨x,rfl,hx⟩:=h1;obtain⟨y,rfl,hy⟩:=h2;refine⟨x++y,acD,fun i h=>?_⟩
 grind
theorem gF.open(s:an)(o:OpD)(w:Txt):gF o s.reviews (bZ s o w).reviews:=⟨[Ba s o w],rfl,fun i h=>by
 have:i=0:=acv;subst this;exact⟨acK,rfl,rfl⟩⟩
theorem gF.duties(o:OpD)(done:Bool):∀(l:List cA) (s:an),gF o s.reviews (di s o l done).reviews
 | [],s=> .refl o _
 |x::l,s=>by
  have:gF o s.reviews (fB o done s x).reviews:=by
   unfold fB;split
   ·grind [yF,refl]
   ·split
    ·exact .open s o _
    grind [refl]
  exact this.trans (gF.duties o done l _)
structure GA (c:aK):Prop where
 id:bh c.id=true
 owner:bh c.owner=true
 state:c.state∈pE
 asc:EN c.fields
 nfields:c.fields.length≤16
 field:∀f∈c.fields,bh f.name=true∧bx f.val=true∧eqV f.val aq=false
 log1:1≤c.log.length
 actor:∀x∈c.log,bh x.actor=true∧i64 x.tick
theorem uo.w{c:aK}(h:uo c):GA c:=⟨h.id,h.owner,h.state,h.asc,h.nfields,h.field,h.log1,h.actor⟩
theorem GA.ok{c:aK}(h:GA c)(hl:c.log.length≤256):uo c:=⟨h.id,h.owner,h.state,h.asc,h.nfields,h.field,h.log1,hl,h.actor⟩
structure lF (k:Nat) (s:an):Prop where
 tick:0≤s.tick∧s.tick≤1099511627776
 asc:Asc s.cases
 ncases:s.cases.length≤64
 case:∀c∈s.cases,GA c
 roles:s.roles.length≤64
 role:∀r∈s.roles,bh r.subj=true∧bh r.role=true
 pol:gu s.policy=0
 ver:0≤s.version∧s.version≤k
theorem cY.w{k:Nat}{s:an}(h:cY k s):lF k s:=⟨h.tick,h.asc,h.ncases,fun c hc=>(h.case c hc).w,h.roles,h.role,h.pol,h.ver⟩
theorem lF.ok{k:Nat}{s:an}(h:lF k s)(ho:rS s=false):cY k s:=by
 unfold rS at ho;simp only[Bool.or_eq_false_iff,decide_eq_false_iff_not]at ho;refine⟨h.tick,h.asc,h.ncases,fun c hc=>(h.case c hc).ok ?_,acu,acu,h.roles,h.role,h.pol,h.ver⟩
 grind
theorem Gq{k:Nat}{s:an}(o:OpD)(w:Txt)(h:lF k s):lF k (bZ s o w):={h with}
theorem Gp{k:Nat}{s:an}{o:OpD}(hn:bh o.subj=true)(w:Txt)(h:lF k s):lF k (iO s o w):=by
 unfold iO;split
 ·refine {h with asc:=BI (j9 fun x=>rfl) h.asc,ncases:=by simpa using h.ncases,case:= ?_}
  intro d hd;rcases mem_modify hd with hd|⟨hi,rfl⟩
  ·exact h.case d hd
  ·have hc:=h.case _ (aco hi)
   refine⟨hc.id,hc.owner,hc.state,hc.asc,hc.nfields,hc.field,agG,?_⟩;intro x hx;simp only[jk,List.mem_append,List.mem_singleton]at hx;rcases hx with hx|rfl
   ·exact hc.actor x hx
   ·exact⟨hn,by have:=h.tick;constructor<;>simp only<;>omega⟩
 omega
theorem Gn{k:Nat}{o:OpD}(hn:bh o.subj=true)(done:Bool){s:an}(x:cA)(h:lF k s):lF k (fB o done s x):=by
 unfold fB;split
 ·grind [Gp]
 ·split
  ·grind [Gq]
  ·split
   ·exact {h with}
   omega
theorem uc{k:Nat}{o:OpD}(hn:bh o.subj=true)(done:Bool):∀(l:List cA) {s:an},lF k s→lF k (di s o l done)
 | [],s,h=>h
 |x::l,s,h=>uc hn done l (Gn hn done x h)
theorem Cd{k:Nat}{s:an}(o:OpD)(w:Txt)(h:cY k s)(hr:s.reviews.length≤999):cY k (bZ s o w):={h with nrev:=by grind [bZ]}
structure kC (k:Nat) (s:an):Prop extends cY k s where
 ids:∀i (h:i<s.reviews.length),s.reviews[i].id=((i+1:Nat):Int)
 nr:s.reviews.length≤256
 nn:s.notices.length≤256
theorem I5:kC 0 yM:={JV with ids:=fun i h=>adD,nr:=acz,nn:=acz}
theorem tU{s:an}{o:OpD}(h:(jV s o).1=0):bJ s o=0∧dG o=true∧(o.kind=7→(aQ o.text).2.1=0):=by
 unfold jV at h;have hr:bJ s o=0:=by
  grind
 have hf:dG o=true:=by
  unfold bJ at hr
  grind
 exact⟨hr,hf,fun hk=>acv⟩
theorem KA{k:Nat}{s:an}{o:OpD}(h:kC k s)(hp:(jV s o).1=0):lF (k+1) (cS s o):=by
 have hn:=(th (tU hp).2.1).subj;have h1:cY k (if fF s o then bZ s o o.reason else s):=by
  split
  ·exact Cd o _ h.tocY (by have:=h.nr;omega)
  ·exact h.tocY
 refine uc hn _ _ ?_;split
 ·exact(pF o h1).w
 ·have:=h1.w
  exact {this with ver:=⟨this.ver.1,by have:=this.ver.2;omega⟩}
def shut(r:pX):pX:={r with isOpen:=false}
theorem uB(par:Txt→bG×Int×Int)(s:an)(o:OpD):(dO par s o).reviews=if bJ s o=0∧o.kind=5 then s.reviews.modify (o.review - 1).toNat shut else s.reviews:=by
 unfold dO
 by_cases hr:bJ s o=0
 ·rw[if_pos hr]
  unfold doD
  by_cases k1:o.kind=1
  ·grind
  ·by_cases k3:o.kind=3
   ·grind
   ·by_cases k4:o.kind=4
    ·grind
    ·by_cases k5:o.kind=5
     ·simp[k5,hr];rfl
     grind
 grind
theorem yd{o:OpD}(h:dG o=true)(hg:o.glass=true):1≤o.kind∧o.kind≤4:=by
 simp_all [dG,Bool.and_eq_true,lV,if_true,u0,decide_eq_true_eq]
theorem Dc{s:an}{o:OpD}(h:fF s o=true):o.glass=true:=by
 simp_all [fF,sS,Bool.and_eq_true]
structure ER (s:an) (o:OpD) (t:an) (r:gU) (e:Int):Prop where
 len:s.reviews.length≤t.reviews.length
 old:∀i (h:i<s.reviews.length) (h' :i<t.reviews.length),(e=0∧r.err=0∧o.kind=5∧o.review=((i+1:Nat):Int)→o.subj≠s.reviews[i].subj∧s.reviews[i].isOpen=true∧t.reviews[i].isOpen=false∧t.reviews[i].id=s.reviews[i].id)∧
  (¬(e=0∧r.err=0∧o.kind=5∧o.review=((i+1:Nat):Int))→t.reviews[i]=s.reviews[i])
 new:∀i (h:i<t.reviews.length),s.reviews.length≤i→t.reviews[i].id=((i+1:Nat):Int)∧t.reviews[i].isOpen=true∧t.reviews[i].subj=o.subj
 glass:r.glass=true→∃h:s.reviews.length<t.reviews.length,t.reviews[s.reviews.length].reason=o.reason
theorem ER.same(s:an)(o:OpD)(e:Int)(r:gU)(he:e≠0)(hg:r.glass=false):ER s o s r e:=
 ⟨Nat.le_refl _,fun i h h' =>⟨fun hc=>(he hc.1).elim,fun _=>rfl⟩,fun i h h' =>acu,fun h=>acv⟩
theorem HA{o:OpD}{a b:List pX}(h:gF o a b):a.length≤b.length∧(∀i (h1:i<a.length) (h2:i<b.length),b[i]=a[i])∧∀i (h1:i<b.length),a.length≤i→b[i].id=((i+1:Nat):Int)∧b[i].isOpen=true∧b[i].subj=o.subj:=by
 obtain⟨c,rfl,hc⟩:=h;refine⟨acD,fun i h1 h2=>acv,fun i h1 h2=>?_⟩
 grind
theorem CO{s:an}{o:OpD}(hr:bJ s o=0)(hf:dG o=true)(hk:o.kind=5):1≤o.review∧∃h:(o.review - 1).toNat<s.reviews.length,s.reviews[(o.review - 1).toNat].isOpen=true∧s.reviews[(o.review - 1).toNat].subj≠o.subj:=by
 have F:=th hf;have hok:=F.ok;unfold okD at hok;simp only[hk,show¬(5:Int)=1 by decide,show¬((5:Int)=2∨(5:Int)=6) by decide,show¬(5:Int)=3 by decide,show¬(5:Int)=4 by decide,if_false,if_true,decide_eq_true_eq]at hok
 unfold bJ at hr;simp only[hk,Bool.true_eq_false,show¬(5:Int)=1 by decide,show¬(2≤(5:Int)∧(5:Int)≤4) by decide,if_false,if_true]at hr
 unfold fM wE at hr;rw[if_pos (by omega:1≤o.review)]at hr
 refine⟨acu,?_⟩;cases hx:s.reviews[(o.review - 1).toNat]? with
 |none=>simp_all
 |some r=>
  rw[hx]at hr;obtain⟨h,rfl⟩:=List.getElem?_eq_some_iff.1 hx;refine⟨h,?_,?_⟩
  ·grind
  ·intro e
   simp only[e,if_true]at hr;omega
theorem F9{k:Nat}{s:an}{o:OpD}(h:kC k s):ER s o (aS s o).1 (aS s o).2.1 (aS s o).2.2.2:=by
 unfold aS
 by_cases hp:(jV s o).1=0
 ·rw[if_neg acu]
  by_cases ho:rS (cS s o)=true
  ·rw[if_pos ho];exact .same _ _ _ _ acD rfl
  ·rw[if_neg ho]
   obtain⟨hr,hf,_⟩:=tU hp;simp only
   by_cases hk:o.kind=5
   ·have hg:fF s o=false:=by
     cases hg:fF s o with
     |false=>rfl
     |true=>have:=yd hf (Dc hg);omega
    obtain⟨hv1,hlt,hop,hsu⟩:=CO hr hf hk
    by_cases hd:sV s o=true
    ·have hb:cS s o=di (dO aQ s o) o (gH s o).2 true:=by
      grind [cS]
     have hrev:(dO aQ s o).reviews=s.reviews.modify (o.review - 1).toNat shut:=by
      simp_all [uB,if_pos]
     have hon:=gF.duties o true (gH s o).2 (dO aQ s o);rw[←hb,hrev]at hon;obtain⟨a1,a2,a3⟩:=HA hon;have hlm:(s.reviews.modify (o.review - 1).toNat shut).length=s.reviews.length:=acD;rw[hlm]at a1;refine⟨a1,fun i h1 h2=>⟨fun hc=>?_,fun hc=>?_⟩,fun i h1 h2=>a3 i h1 acu,fun hgl=>?_⟩
     ·have hi:(o.review - 1).toNat=i:=by omega
      subst hi;rw[a2 _ acu h2,List.getElem_modify,if_pos rfl];exact⟨fun e=>hsu e.symm,hop,rfl,rfl⟩
     ·have hi:(o.review - 1).toNat≠i:=fun e=>hc ⟨rfl,by simp[pn,hd],hk,acu⟩
      rw[a2 _ acu h2,List.getElem_modify,if_neg hi]
     simp_all [pn]
    ·have hd:sV s o=false:=by grind
     have hb:cS s o=di s o (gH s o).2 false:=by
      grind [cS]
     have hon:=gF.duties o false (gH s o).2 s;rw[←hb]at hon;obtain⟨a1,a2,a3⟩:=HA hon;refine⟨a1,fun i h1 h2=>⟨fun hc=>?_,fun hc=>a2 i h1 h2⟩,a3,fun hgl=>?_⟩
     ·simp_all [pn]
     simp_all [pn]
   ·have hs1:gF o s.reviews (if fF s o then bZ s o o.reason else s).reviews:=by
     split
     ·exact .open s o _
     ·exact .refl o _
    have hs2:(if sV s o then dO aQ (if fF s o then bZ s o o.reason else s) o else(if fF s o then bZ s o o.reason else s)).reviews=(if fF s o then bZ s o o.reason else s).reviews:=by
     split
     ·simp_all [uB,if_neg]
     ·rfl
    have hd:=gF.duties o (sV s o) (gH s o).2 (if sV s o then dO aQ (if fF s o then bZ s o o.reason else s) o else(if fF s o then bZ s o o.reason else s))
    rw[hs2]at hd;have hon:gF o s.reviews (cS s o).reviews:=hs1.trans hd;obtain⟨a1,a2,a3⟩:=HA hon;refine⟨a1,fun i h1 h2=>⟨fun hc=>(hk hc.2.2.1).elim,fun hc=>a2 i h1 h2⟩,a3,fun hgl=>?_⟩
    have hg:fF s o=true:=hgl;have hd' :=hd;simp only[hg,↓reduceIte]at hd';obtain⟨b1,b2,_⟩:=HA hd';have hb:(cS s o)=di (if sV s o then dO aQ (bZ s o o.reason) o else bZ s o o.reason) o (gH s o).2 (sV s o):=by
     grind [cS]
    rw[←hb]at b1 b2;have hl:(bZ s o o.reason).reviews.length=s.reviews.length+1:=by simp[bZ]
    refine⟨acu,?_⟩
    grind [bZ,Ba]
 ·rw[if_pos acu]
  exact .same _ _ _ _ acu rfl
theorem kC.up{k:Nat}{s:an}(h:kC k s):kC (k+1) s:={h with ver:=⟨h.ver.1,by have:=h.ver.2;omega⟩}
theorem Fy{k:Nat}{s:an}(o:OpD)(h:kC k s):kC (k+1) (aS s o).1:=by
 have hrl:=F9 (o:=o) h;unfold aS at hrl⊢
 by_cases hp:(jV s o).1=0
 ·rw[if_neg acu]at hrl⊢
  by_cases ho:rS (cS s o)=true
  ·rw[if_pos ho];exact h.up
  ·rw[if_neg ho]at hrl⊢
   have ho:rS (cS s o)=false:=acv;have hw:=(KA h hp).ok ho;unfold rS at ho;refine {hw with ids:=fun i hi=>?_,nr:=acv,nn:=acv}
   by_cases hlt:i<s.reviews.length
   ·obtain⟨h1,h2⟩:=hrl.old i hlt hi
    by_cases hc:(0:Int)=0∧(pn s o).err=0∧o.kind=5∧o.review=((i+1:Nat):Int)
    ·rw[(h1 hc).2.2.2];exact h.ids i hlt
    ·rw[h2 hc];exact h.ids i hlt
   ·exact(hrl.new i hi acu).1
 ·rw[if_pos acu];exact h.up
structure Vi (s:an) (o:OpD):Prop where
 err:(aS s o).2.2.2≠0→(aS s o).1=s∧(aS s o).2.1.err=(aS s o).2.2.2∧(aS s o).2.1.mark=naM
 ok:(aS s o).2.2.2=0→(aS s o).2.1.mark=(gH s o).1∧(aS s o).2.2.1=⟨o,s.version,(gH s o).1,fF s o,(gH s o).2⟩∧(aS s o).2.1.glass=fF s o∧(aS s o).1=cS s o∧(aS s o).2.1=pn s o
theorem xT(o:OpD)(done:Bool):∀(l:List cA) (s:an),(di s o l done).cases.length=s.cases.length
 | [],s=>rfl
 |x::l,s=>by
  have:(fB o done s x).cases.length=s.cases.length:=by
   unfold fB;split
   ·grind [iO]
   ·split
    ·rfl
    grind
  exact(xT o done l _).trans this
def rep(n:Nat)(t:Txt):Txt:=(List.replicate n t).flatten
def MLe(a b:dX):Prop:=(∀x∈a.met,x∈b.met)∧a.rules≤b.rules
theorem MLe.refl(a:dX):MLe a a:=⟨fun _ h=>h,Nat.le_refl _⟩
theorem MLe.trans{a b c:dX}(h1:MLe a b)(h2:MLe b c):MLe a c:=⟨fun x h=>h2.1 x (h1.1 x h),Nat.le_trans h1.2 h2.2⟩
theorem Ht{a b b' :dX}{s:Txt}(h:MLe a b)(hm:ja b s=some b'):∃a',ja a s=some a'∧MLe a' b' :=by
 unfold ja at hm⊢;split at hm
 ·rename_i hc
  cases hm;refine⟨_,if_pos ⟨fun hx=>hc.1 (h.1 s hx),hc.2⟩,fun x hx=>?_,h.2⟩
  rcases List.mem_append.1 hx with hx|hx
  ·exact List.mem_append.2 (.inl (h.1 x hx))
  grind
 grind
theorem Hu{b b' :dX}{s:Txt}(hm:ja b s=some b'):MLe b b' :=by
 unfold ja at hm;split at hm
 ·cases hm;exact⟨fun x hx=>List.mem_append.2 (.inl hx),Nat.le_refl _⟩
 grind
theorem oo{e:Int}{w:Went}{m:dX}(h:need e w= .ok m):e=0∧w= .ok m:=by
 grind [need]
theorem OH{a b b' :dX}{r:cK}(h:MLe a b)(hr:gm b r= .ok b'):(∃a',gm a r= .ok a'∧MLe a' b')∧MLe b b' :=by
 unfold gm at hr⊢;cases hm:ja b r.id with
 |none=>grind
 |some m=>
  rw[hm]at hr;obtain⟨a',ha,hl⟩:=Ht h hm;simp only at hr;split at hr
  ·grind
  ·obtain⟨e1,hr⟩:=oo hr
   obtain⟨e2,hr⟩:=oo hr;obtain⟨e3,hr⟩:=oo hr;cases hr;have hup:=Hu hm;refine⟨⟨⟨a'.met,a'.rules+1⟩,?_,hl.1,by have:=hl.2;simp only;omega⟩,hup.1,by have:=hup.2;simp only;omega⟩
   rw[ha];have:=hl.2;simp only[e1,e2,e3,need,if_true];rw[if_neg acu]
theorem Ek:∀(l:List cK) {a b b' :dX},MLe a b→fq b l= .ok b'→(∃a',fq a l= .ok a'∧MLe a' b')∧MLe b b'
 | [],a,b,b',h,hr=>by
  cases hr;exact⟨⟨a,rfl,h⟩,.refl _⟩
 |r::l,a,b,b',h,hr=>by
  simp only[fq]at hr⊢;cases hw:gm b r with
  |bad e=>grind
  |ok m=>
   rw[hw]at hr;obtain⟨⟨a',ha,hl⟩,hu⟩:=OH h hw;obtain⟨⟨a'',ha',hl'⟩,hu'⟩:=Ek l hl hr;exact⟨⟨a'',acv,hl'⟩,hu.trans hu'⟩
theorem NW{a b b' :dX}{id:Txt}{set:Bool}{alg:Int}{tgt:fW}{nr nk nk' :Nat}{obls:List cA}(h:MLe a b)(hk:nk'≤nk)(hr:fc b id set alg tgt nr nk obls= .ok b'):(∃a',fc a id set alg tgt nr nk' obls= .ok a'∧MLe a' b')∧MLe b b' :=by
 unfold fc at hr⊢;cases hm:ja b id with
 |none=>rw[hm]at hr;cases hr
 |some m=>
  rw[hm]at hr;obtain⟨a',ha,hl⟩:=Ht h hm;simp only at hr;split at hr
  ·cases hr
  ·rename_i h1
   split at hr
   ·cases hr
   ·rename_i h2
    obtain⟨e1,hr⟩:=oo hr;obtain⟨e2,hr⟩:=oo hr;split at hr
    ·cases hr
    ·rename_i h3
     cases hr;refine⟨⟨a',?_,hl⟩,Hu hm⟩;rw[ha];have h2' :¬(set=true∧nr>0∨set=false∧(nk' >0∨alg=4)):=by
      rintro(⟨p,q⟩|⟨p,q|q⟩)
      ·exact h2 (.inl ⟨p,q⟩)
      ·exact h2 (.inr ⟨p,.inl acu⟩)
      ·exact h2 (.inr ⟨p,.inr q⟩)
     simp only[if_neg h1,if_neg h2',e1,e2,need,if_true];rw[if_neg acu]
theorem DY(gs:List bn):∀l:List bG,(j3 gs l).length≤l.length
 | []=>by simp[j3]
 |k::r=>by
  have:=DY gs r;simp only[j3];split<;>simp<;>omega
mutual
theorem D3(gs:List bn):∀(p:bG) (d:Nat) {a b b' :dX},MLe a b→kj b d p= .ok b'→(∃a',kj a d (kZ gs p)= .ok a'∧MLe a' b')∧MLe b b'
 |.mk id set alg tgt rules kids obls,d,a,b,b',h,hr=>by
  simp only[kj,kZ]at hr⊢;split at hr
  ·cases hr
  ·rename_i hd
   rw[if_neg hd];cases hh:fc b id set alg tgt rules.length kids.length obls with
   |bad e=>rw[hh]at hr;cases hr
   |ok m=>
    rw[hh]at hr;simp only at hr;obtain⟨⟨a1,ha1,hl1⟩,hu1⟩:=NW h (DY gs kids) hh;cases hw:fq m rules with
    |bad e=>rw[hw]at hr;cases hr
    |ok m2=>
     rw[hw]at hr;simp only at hr;obtain⟨⟨a2,ha2,hl2⟩,hu2⟩:=Ek rules hl1 hw;obtain⟨⟨a3,ha3,hl3⟩,hu3⟩:=uT gs kids (d+1) hl2 hr;refine⟨⟨a3,?_,hl3⟩,(hu1.trans hu2).trans hu3⟩;rw[ha1];simp only[ha2];exact ha3
theorem uT(gs:List bn):∀(l:List bG) (d:Nat) {a b b' :dX},MLe a b→iN b d l= .ok b'→(∃a',iN a d (j3 gs l)= .ok a'∧MLe a' b')∧MLe b b'
 | [],d,a,b,b',h,hr=>by
  simp only[iN,j3]at hr⊢;cases hr;exact⟨⟨a,rfl,h⟩,.refl _⟩
 |k::r,d,a,b,b',h,hr=>by
  simp only[iN]at hr;cases hw:kj b d k with
  |bad e=>rw[hw]at hr;cases hr
  |ok m=>
   rw[hw]at hr;simp only at hr;obtain⟨⟨a1,ha1,hl1⟩,hu1⟩:=D3 gs k d h hw;simp only[j3];split
   ·obtain⟨⟨a2,ha2,hl2⟩,hu2⟩:=uT gs r d hl1 hr
    refine⟨⟨a2,?_,hl2⟩,hu1.trans hu2⟩;simp only[iN,ha1];exact ha2
   ·obtain⟨⟨a2,ha2,hl2⟩,hu2⟩:=uT gs r d (h.trans hu1) hr
    exact⟨⟨a2,ha2,hl2⟩,hu1.trans hu2⟩
end
theorem Ga(gs:List bn){p:bG}(h:gu p=0):gu (kZ gs p)=0:=by
 unfold gu at*;cases hw:kj ⟨[],0⟩ 1 p with
 |bad e=>
  have:=tT 4 1 _ _ e rfl hw;rw[hw]at h;exact(this h).elim
 |ok m=>
  obtain⟨⟨a,ha,_⟩,_⟩:=D3 gs p 1 (.refl _) hw;rw[ha];rfl
def Vd:bN:=⟨⟨0,[],false⟩,0,aq⟩
def N2(k:Option bN):AV:=match k with
 |some m=> .tup [dI m,.b true]
 |none=> .tup [dI Vd,.b false]
theorem Lw{x:List (List bN)}{r:fW}(h:x.length≠1):oh (x::r)=oh r:=by
 match x,h with
 | [],_=>rfl
 | [l],h=>exact(h rfl).elim
 |a::b::c,_=>rfl
theorem Lv{l:List bN}{r:fW}(h:(l.find? fun m=>m.op==1 && !m.attr.must)=none):oh ([l]::r)=oh r:=by
 grind [oh]
theorem Lx{l:List bN}{r:fW}{m:bN}(h:(l.find? fun m=>m.op==1 && !m.attr.must)=some m):oh ([l]::r)=some m:=by
 grind [oh]
theorem DX(gs:List bn):∀l:List bG,j3 gs l=(l.filter (sv gs)).map (kZ gs)
 | []=>acK
 |k::r=>by
  simp only[j3,List.filter_cons,DX gs r]
  grind
def ixP(gs:List bn)(l:List bG)(n:Nat):List Nat:=(List.range n).filter fun j=>sv gs (l.getD j lI)
theorem Dr(gs:List bn)(l:List bG){n:Nat}(h:n<l.length):ixP gs l (n+1)=ixP gs l n++(if sv gs l[n]=true then [n]else []):=by
 grind [ixP,List.range_succ,List.getD,List.getElem?_eq_getElem]
theorem Ds(gs:List bn)(l:List bG):∀n:Nat,n≤l.length→(ixP gs l n).map (fun j=>l.getD j lI)=(l.take n).filter (sv gs)
 |0,_=>acK
 |n+1,h=>by
  have hlt:n<l.length:=acu;rw[Dr gs l hlt,List.map_append,Ds gs l n acu,List.take_succ_eq_append_getElem hlt,List.filter_append,List.filter_cons]
  congr 1
  grind
theorem Ri{gs:List bn}{l:List bG}{n j:Nat}(h:j∈ixP gs l n):j<n:=List.mem_range.1 (List.mem_filter.1 h).1
theorem Ho(gs:List bn)(l:List bG)(n:Nat):(ixP gs l n).length≤n:=by
 grind [ixP,Nat.le_trans,List.length_filter_le]
theorem Lp(gs:List bn)(l:List bG):(ixP gs l l.length).map (fun j=>kZ gs (l.getD j lI))=j3 gs l:=by
 rw[DX,←List.take_length (l:=l),←Ds gs l l.length (Nat.le_refl _),List.map_map,List.take_length];rfl
theorem om(m:bN):dI m= .agg [.i m.attr.cat,.s m.attr.name,.b m.attr.must,.i m.op,.i m.val.kind,.i m.val.n,.s m.val.s]:=rfl
end Go.Bf
namespace Go.Proofs.YtcochaoekecfdaaGreatDoor
open Go Go.Ab Go.Bf
theorem Rj(t:fW)(ht:Nf t)(h:Heap):ai Tryz.prog 213 [aU t] h fun r h' =>r=N2 (oh t)∧h' =h:=by
 have htl:=ht.1;refine acs Tryz.func213 38 [.cell 2 273,.tmp 3] fun hwf=>?_
 simp only[go_sem,aU];intro i2 h2;simp only[go_sem,aci];have hH0:∀x,Ab.Sub h (upd h i2 x):=fun x=> .aj h2
 refine .intro (fun m ρ H=>Ab.Sub h H∧H i2=some (.obj [.i 0,.s [],.b false,.i 0,.i 0,.i 0,.s []] 273)∧∃i:Nat,i≤t.length∧m=t.length - i∧oh (t.drop i)=oh t∧lk ρ 2=some (.ptr i2 0)∧lk ρ 8=some (.sl (t.map cN) .no)∧lk ρ 9=some (.i t.length)∧lk ρ 10=some (.i i)) t.length ?_ ?_
 ·refine⟨hH0 _,ah ..,0,acu,rfl,rfl,?_,?_,?_,?_⟩<;>simp only[go_sem]
 ·rintro m ρ H ⟨hs,k2,i,hi,rfl,hk,r2,r8,r9,r10⟩
  simp only[go_sem,r9,r10];refine .intro (fun e=>?_) (fun e=>?_)
  ·have hlt:i<t.length:=acq e
   have w1:IntKind.i64.wrap ((i:Int)+1)=((i+1:Nat):Int):=acI;rw[List.drop_eq_getElem_cons hlt]at hk;have hxl:=(ht.2 _ (aco hlt)).2;have ix:=fun k=>fA.eq (xs:=t.map cN) (sz:=1) i acv acL k
   rw[acj]at ix;obtain⟨x,ex⟩:∃x,t[i]=x:=⟨_,rfl⟩;rw[ex]at ix hk hxl;simp only[cN]at ix;cases d1:((x.length:Int) !=1)
   case true=>
    have hx1:x.length≠1:=acv;rw[Lw hx1]at hk;simp only[go_sem,r8,r10,ix,aci,d1,w1];refine⟨_,?_,hs,k2,i+1,acu,rfl,hk,?_,?_,?_,?_⟩
    ·omega
    all_goals simp only[go_sem,r2,r8,r9]
   have hx1:x.length=1:=acv;obtain⟨l,rfl⟩:=List.length_eq_one_iff.1 hx1;have hll:=hxl l (List.mem_singleton.2 rfl);have iy:=fun k=>fA.eq (xs:=[iQ l]) (sz:=1) 0 acD rfl k
   simp only[List.getElem_cons_zero,iQ,Int.natCast_zero]at iy;simp only[go_sem,r8,r10,ix,aci,List.length_cons,List.length_nil,List.map_cons,List.map_nil,iQ,iy];refine .intro (fun m ρ2 H2=>Ab.Sub h H2∧H2 i2=some (.obj [.i 0,.s [],.b false,.i 0,.i 0,.i 0,.s []] 273)∧∃j:Nat,j≤l.length∧m=l.length - j∧(∀k (h1:k<l.length),k<j→(l[k].op==1 && !l[k].attr.must)=false)∧lk ρ2 2=some (.ptr i2 0)∧lk ρ2 8=some (.sl (t.map cN) .no)∧lk ρ2 9=some (.i t.length)∧lk ρ2 10=some (.i i)∧lk ρ2 19=some (.sl (l.map dI) .no)∧lk ρ2 20=some (.i l.length)∧lk ρ2 21=some (.i j)) l.length ?_ ?_
   ·refine⟨hs,k2,0,acu,rfl,fun k _ hk=>acu,?_,?_,?_,?_,?_,?_,?_⟩<;>simp only[go_sem,r2,r8,r9,r10]
   ·rintro m ρ2 H2 ⟨hs2,k2,j,hj,rfl,hc,s2,s8,s9,s10,s19,s20,s21⟩
    simp only[go_sem,s20,s21];refine .intro (fun e=>?_) (fun e=>?_)
    ·have hlt2:j<l.length:=acq e
     have w2:IntKind.i64.wrap ((j:Int)+1)=((j+1:Nat):Int):=acI;have iz:=fun k=>fA.eq (xs:=l.map dI) (sz:=7) j acv acL k
     rw[acj]at iz;have hci:=fun(d:(l[j].op==1 && !l[j].attr.must)=false)=>(fun k (h1:k<l.length) (hk:k<j+1)=>(by
      grind:(l[k].op==1 && !l[k].attr.must)=false))
     have hat:=fun(d:(l[j].op==1 && !l[j].attr.must)=true)=>(List.find?_eq_some_iff_getElem.2 ⟨d,j,hlt2,rfl,fun k hk=>acv⟩:(l.find? fun m=>m.op==1 && !m.attr.must)=some l[j])
     obtain⟨z,ez⟩:∃z,l[j]=z:=⟨_,rfl⟩;rw[ez]at iz hci hat;simp only[om]at iz;simp only[go_sem,s19,s21,iz];intro i7 h7;have n72:i7≠i2:=fun e=>acv
     cases a1:(z.op==1)
     ·exact ahl
     ·cases a2:z.attr.must
      ·have hkk:=hk.symm.trans (Lx (hat acv))
       simp only[go_sem,s2,a1,ak,n72.symm,k2];exact .mk _ (.refl _) ((hs2.trans (.aj h7)).put h2 _) ⟨by rw[hkk];simp only[N2,om,a2];rfl,rfl⟩
      ·exact ahl
    ·have hge:j=l.length:=by grind
     subst hge;rw[Lv (List.find?_eq_none.2 fun z hz=>by
      obtain⟨k,hk,rfl⟩:=List.mem_iff_getElem.1 hz
      grind)]at hk
     simp only[go_sem,s10,w1];refine⟨_,?_,hs2,k2,i+1,acu,rfl,hk,?_,?_,?_,?_⟩
     ·omega
     all_goals simp only[go_sem,s2,s8,s9]
  ·have hge:i=t.length:=by grind
   subst hge;rw[List.drop_length]at hk;simp only[go_sem,r2,k2];exact .mk _ (.refl _) (hs.put h2 _) ⟨by rw[←hk];rfl,rfl⟩
theorem Jn{gs:List bn}{p:bG}(h:oh (sB p)=none):sv gs p=true:=by grind [sv]
theorem Jo{gs:List bn}{p:bG}{m:bN}(h:oh (sB p)=some m):sv gs p=decide (jM gs m≠0):=by grind [sv]
def tF(n:Nat):AV:=.i n
theorem L5(l:List bG)(hl:l.length≤1000)(ht:∀p∈l,Nf (sB p))(gs:List bn)(hf:rI gs)(h:Heap):ai Tryz.prog 173 [.sl (l.map aL) .no,bH gs] h fun r h' =>r= .sl ((ixP gs l l.length).map tF) .no∧h' =h:=by
 have hmt:=fun(m:bN) (G:Heap)=>AP m gs hf G
 simp only[om,bH]at hmt;have uI:(U 3).sz=1:=acK;refine acs Tryz.func173 37 [.tmp 4] fun hwf=>?_
 simp only[go_sem,bH,aci];refine .intro (fun m ρ H=>∃(i:Nat) (y:AV),Acc U 3 h H y ((ixP gs l i).map tF)∧i≤l.length∧m=l.length - i∧lk ρ 1=some (.sl (gs.map kT) .no)∧lk ρ 5=some y∧lk ρ 10=some (.sl (l.map aL) .no)∧lk ρ 11=some (.i l.length)∧lk ρ 12=some (.i i)) l.length ?_ ?_
 ·refine⟨0,.sl [] .full,.full (.refl _),acu,rfl,?_,?_,?_,?_,?_⟩<;>simp only[go_sem]
 ·rintro m ρ H ⟨i,y,hy,hi,rfl,r1,r5,r10,r11,r12⟩
  obtain⟨qy,eqy⟩:=hy.row;subst eqy;simp only[go_sem,r11,r12];refine .intro (fun e=>?_) (fun e=>?_)
  ·have hlt:i<l.length:=acq e
   have w1:IntKind.i64.wrap ((i:Int)+1)=((i+1:Nat):Int):=acI;have hsn:=Dr gs l hlt;have hpl:=Ho gs l i;have ix:=fun k=>fA.eq (xs:=l.map aL) (sz:=7) i acv (by rw[acj,jo]) k
   rw[acj]at ix;have hft:=ht _ (aco hlt);obtain⟨x,ex⟩:∃x,l[i]=x:=⟨_,rfl⟩;rw[ex]at ix hsn hft;have hky:=fun G=>Rj (sB x) hft G
   have mn:=fun h=>Jn (gs:=gs) (p:=x) h
   have ms:=fun m h=>Jo (gs:=gs) (p:=x) (m:=m) h
   obtain⟨kid,kset,kalg,ktgt,krules,kkids,kobls⟩:=x;simp only[sB]at hky hft mn ms;simp only[aL,aU,az,aW]at ix;simp only[aU]at hky;simp only[go_sem,r10,r12,ix];intro i7 h7;simp only[go_sem];refine(hky _).pthen ?_;have hkeep:sv gs (.mk kid kset kalg ktgt krules kkids kobls)=true→ixP gs l (i+1)=ixP gs l i++ [i]:=fun e=>acv
   have hdrop:sv gs (.mk kid kset kalg ktgt krules kkids kobls)=false→ixP gs l (i+1)=ixP gs l i:=fun e=>acv
   cases hk:oh ktgt with
   |none=>
    simp only[go_sem,N2,om];intro i8 h8;simp only[go_sem,r5];exact ag7
   |some m=>
    have hm2:=ms m hk;simp only[go_sem,N2,om];intro i8 h8;simp only[go_sem,r1];refine(hmt m _).pthen ?_;cases dm:((jM gs m:Int) !=0)
    ·have e0:jM gs m=0:=by grind
     simp only[go_sem,r12,dm,w1];refine⟨_,?_,i+1,_,by rw[hdrop acv];exact(hy.sub (.aj h7)).sub (.aj h8),acu,rfl,?_,?_,?_,?_,?_⟩
     ·omega
     all_goals simp only[go_sem,r1,r5,r10,r11]
    ·have e0:jM gs m≠0:=by grind
     simp only[go_sem,r5,dm];exact ag7
  ·have hge:i=l.length:=by grind
   subst hge;simp only[go_sem,r5];exact .mk _ (.sl _ _) hy.1 ⟨rfl,rfl⟩
theorem UG{id:Txt}{set:Bool}{alg:Int}{tgt:fW}{rules:List cK}{kids:List bG}{obls:List cA}{L:List AV}(hL:L=kids.map aL)(q:Perm):Weak (.agg [.s id,.b set,.i alg,.sl (tgt.map cN) .no,.sl (rules.map aB) .no,.sl L q,.sl (obls.map br) .no]) (aL (.mk id set alg tgt rules kids obls)):=by
 subst hL;rw[aL,aW];refine .agg _ _ rfl fun i a b=>?_
 rcases i with _|_|_|_|_|_|_|i
 ·exact adQ
 ·exact adQ
 ·exact adQ
 ·exact adQ
 ·exact adQ
 ·exact afc
 ·exact adQ
 ·simp at a;omega
theorem AY:∀(n d:Nat),d+n=5→∀(p:bG),mI d p→∀(gs:List bn),rI gs→∀(h:Heap),ai Tryz.prog 124 [aL p,bH gs] h fun r h' =>r=aL (kZ gs p)∧h' =h
 |0,d,hd,.mk id set alg tgt rules kids obls,hE,gs,hf,h=>by
  simp only[mI]at hE;omega
 |n+1,d,hd,.mk id set alg tgt rules kids obls,hE,gs,hf,h=>by
  have ih:=AY n (d+1) acu;simp only[mI,qD]at hE;obtain⟨_,_,_,_,_,_,hT,hO,hR,hK,hRE,hKE⟩:=hE;have hpk:=fun G=>L5 kids acu (fun p hp=>by
   have h1:=hKE p hp;obtain⟨kid,kset,kalg,ktgt,krules,kkids,kobls⟩:=p;simp only[mI]at h1;exact Cl h1.2.2.2.2.2.2.1) gs hf G
  have hpe:kZ gs (.mk id set alg tgt rules kids obls)= .mk id set alg tgt rules (j3 gs kids) obls:=acK;have hfull:=Lp gs kids;have hIlt:∀j∈ixP gs kids kids.length,j<kids.length:=fun j hj=>Ri hj
  have hIl:(ixP gs kids kids.length).length≤16:=Nat.le_trans (Ho _ _ _) hK;obtain⟨I,eI⟩:∃I,ixP gs kids kids.length=I:=⟨_,rfl⟩;rw[eI]at hpk hfull hIlt hIl;simp only[bH]at hpk;have uP:(U 65).sz=7:=acK;refine acs Tryz.func124 31 [.cell 4 65] fun hwf=>?_
  simp only[go_sem,aL,bH,aW,aU,az];intro i2 h2;simp only[go_sem];intro i4 h4;have n42:=aF h4;have n4' :=aA h4;obtain⟨H0,eH⟩:∃H0,upd (upd h i2 (some (.obj [.s id,.b set,.i alg,.sl (tgt.map cN) .no,.sl (rules.map aB) .no,.sl (kids.map aL) .no,.sl (obls.map br) .no] 65))) i4 (some (.obj [.s [],.b false,.i 0,.sl [] .full,.sl [] .full,.sl [] .full,.sl [] .full] 65))=H0:=⟨_,rfl⟩;have hH0:Ab.Sub h H0:=afw;have g2:H0 i2=some (.obj [.s id,.b set,.i alg,.sl (tgt.map cN) .no,.sl (rules.map aB) .no,.sl (kids.map aL) .no,.sl (obls.map br) .no] 65):=agf;have g4:H0 i4=some (.obj [.s [],.b false,.i 0,.sl [] .full,.sl [] .full,.sl [] .full,.sl [] .full] 65):=adX;simp only[go_sem,ak,n42.symm];rw[eH];clear eH;refine(hpk _).pthen ?_;simp only[go_sem,aci];refine .intro (fun m ρ H=>∃(i:Nat) (y:AV),Acc U 65 H0 H y (((I.map fun j=>kZ gs (kids.getD j lI)).take i).map aL)∧i≤I.length∧m=I.length - i∧lk ρ 1=some (.sl (gs.map kT) .no)∧lk ρ 2=some (.ptr i2 0)∧lk ρ 4=some (.ptr i4 0)∧lk ρ 5=some y∧lk ρ 11=some (.sl (I.map tF) .no)∧lk ρ 12=some (.i I.length)∧lk ρ 13=some (.i i)) I.length ?_ ?_
  ·refine⟨0,.sl [] .full,.full (.refl _),acu,rfl,?_,?_,?_,?_,?_,?_,?_⟩<;>simp only[go_sem]
  ·rintro m ρ H ⟨i,y,hy,hi,rfl,r1,r2,r4,r5,r11,r12,r13⟩
   obtain⟨qy,eqy⟩:=hy.row;subst eqy;have k2:=hy.1 _ _ g2;simp only[go_sem,r12,r13];refine .intro (fun e=>?_) (fun e=>?_)
   ·have hlt:i<I.length:=acq e
    have w1:IntKind.i64.wrap ((i:Int)+1)=((i+1:Nat):Int):=acI;have hjlt:=hIlt _ (aco hlt);have hsn:((I.map fun j=>kZ gs (kids.getD j lI)).take (i+1)).map aL=((I.map fun j=>kZ gs (kids.getD j lI)).take i).map aL++ [aL (kZ gs (kids.getD I[i] lI))]:=by
     grind [List.take_succ_eq_append_getElem]
    have ix:=fun k=>fA.eq (xs:=I.map tF) (sz:=1) i acv acL k
    rw[acj]at ix;obtain⟨j,ej⟩:∃j,I[i]=j:=⟨_,rfl⟩;rw[ej]at ix hsn hjlt;have iy:=fun k=>fA.eq (xs:=kids.map aL) (sz:=7) j acv (by rw[acj,jo]) k
    rw[acj]at iy;rw[show kids.getD j lI=kids[j] by grind]at hsn
    have hke:=hKE _ (aco hjlt);obtain⟨x,ex⟩:∃x,kids[j]=x:=⟨_,rfl⟩;rw[ex]at iy hsn hke;have hr1:=ih x hke gs hf;obtain⟨z,ez⟩:∃z,kZ gs x=z:=⟨_,rfl⟩;rw[ez]at hr1 hsn;obtain⟨kid,kset,kalg,ktgt,krules,kkids,kobls⟩:=x;obtain⟨zid,zset,zalg,ztgt,zrules,zkids,zobls⟩:=z;simp only[aL,aU,az,aW,bH]at iy hr1;simp only[tF]at ix;simp only[go_sem,r1,r2,r5,r11,r13,ix,k2,iy];refine(hr1 _).pthen ?_;simp only[go_sem];refine hy.app (zs:=[aL (.mk zid zset zalg ztgt zrules zkids zobls)]) acu acz (fun k hk=>show k _ from(by simpa only[aL,aU,az,aW]using hk)) (by grind [bu,aL,jo]) (by rw[uP];intro z hz;grind [List.mem_singleton,jo]) acN fun y' H' hy' kp=>?_
    simp only[go_sem,r13,w1];refine⟨_,?_,i+1,y',acv,acu,rfl,?_,?_,?_,?_,?_,?_,?_⟩
    ·omega
    all_goals simp only[go_sem,r1,r2,r4,r11,r12]
   ·have hge:i=I.length:=by grind
    subst hge;have htl:(I.map fun j=>kZ gs (kids.getD j lI)).take I.length=j3 gs kids:=by grind [List.take_of_length_le]
    rw[htl]at r5 hy;have k4:=hy.1 _ _ g4;have n24:i2≠i4:=n42.symm;simp only[go_sem,r2,r4,r5,k2,ak,n42,k4];refine .mk (aL (.mk id set alg tgt rules (j3 gs kids) obls)) (UG rfl _) (((hH0.trans hy.1).put h2 _).put n4' _) ⟨acK,rfl⟩
theorem Dq(p:bG)(hp:gu p=0)(gs:List bn)(hf:rI gs)(h:Heap):ai Tryz.prog 69 [aL p,bH gs] h fun r h' =>r= .tup [rsA (fC gs p),.i 0]∧h' =h:=by
 have hpk:=fun G=>AY 4 1 rfl p (qT hp) gs hf G
 have hev:=fun G=>C1 (kZ gs p) (Ga gs hp) gs hf G
 have hr:=fun G=>ua p G
 rw[hp]at hr;rw[AW]at hev;obtain⟨id,set,alg,tgt,rules,kids,obls⟩:=p;refine acs Tryz.func69 17 [.cell 4 119,.tmp 5] fun hwf=>?_
 simp only[go_sem,aL,bH,aU,az];intro i2 h2;simp only[go_sem];intro i4 h4;have n42:=aF h4;have n4:=aA h4;have hs:∀x y,Ab.Sub h (upd (upd h i2 x) i4 y):=fun x y=>((Sub.refl h).put h2 x).put n4 y
 simp only[go_sem,ak,n42.symm];refine(hr _).pthen ?_;simp only[go_sem,ak,n42.symm];refine(hpk _).pthen ?_;simp only[go_sem];refine(hev _).pthen ?_;simp only[go_sem,rsA,aM,az];exact ad7
def OwR(h0 h:Heap)(y:AV)(rs:List gV):Prop:=y=dV rs∨OwE 149 h0 h 2 y (rs.map eD)
theorem OwR.rd{h0 h:Heap}{y:AV}{rs:List gV}(hr:OwR h0 h y rs):Rd h 2 y (rs.map eD):=by
 rcases hr with rfl|hr
 ·exact eP eD 2 (fun _=>rfl) h rs
 ·exact hr.rd
theorem OwR.nid{h0 h:Heap}{y:AV}{rs:List gV}(hr:OwR h0 h y rs){k:Nat}(e:Ab.nid y=some k):h0 k=none∧h k≠none:=by
 rcases hr with rfl|hr
 ·cases e
 ·exact⟨(hr.nid e).1,(hr.nid e).2.1⟩
theorem OwR.keep{h0 h h' :Heap}{y:AV}{rs:List gV}(hr:OwR h0 h y rs)(hk:∀id,Ab.nid y=some id→h' id=h id):OwR h0 h' y rs:=by
 rcases hr with hr|hr
 ·exact .inl hr
 ·exact .inr (hr.keep hk)
theorem OwR.bI{g h0 h:Heap}{y:AV}{rs:List gV}(hr:OwR h0 h y rs)(hg:∀i,h0 i=none→g i=none):OwR g h y rs:=by
 rcases hr with hr|hr
 ·exact .inl hr
 ·exact .inr (hr.bI hg)
theorem OwR.frz{g h:Heap}{y:AV}{rs:List gV}(hr:OwR g h y rs):Frz g h y (dV rs):=by
 rcases hr with rfl|hr
 ·exact .pure (by simp only[dV,cH];exact bt (fun _=>rfl) _)
 ·exact hr.frz (bt (fun _=>rfl) _)
structure iD (h0 h:Heap) (y1 y2 y3 y4:AV) (s:an) (j:Nat):Prop where
 cs:lQ h0 h [y1,y2,y3,y4] y1 s.cases j
 rv:OwE 143 h0 h 7 y2 (s.reviews.map iL)
 nt:OwE 146 h0 h 3 y3 (s.notices.map mS)
 rl:OwR h0 h y4 s.roles
 a12:apart y1 y2
 a13:apart y1 y3
 a14:apart y1 y4
 a23:apart y2 y3
 a24:apart y2 y4
 a34:apart y3 y4
def stC(s:an)(y1 y2 y3 y4:AV):List AV:=[.i s.tick,y1,y2,y3,y4]++fT s.policy++ [.i s.version]
theorem sO.parts{h0 h:Heap}{x:AV}{s:an}{j:Nat}(ho:sO h0 h x s j):∃y1 y2 y3 y4,x= .agg (stC s y1 y2 y3 y4)∧iD h0 h y1 y2 y3 y4 s j:=by
 obtain⟨y1,y2,y3,y4,e,a,b,c,d,r1,r2,r3,r4,r5,r6⟩:=ho;exact⟨y1,y2,y3,y4,e,a,b,c,.inr d,r1,r2,r3,r4,r5,r6⟩
theorem iD.rd{h0 h:Heap}{y1 y2 y3 y4:AV}{s:an}{j:Nat}(ho:iD h0 h y1 y2 y3 y4 s j):RdS h (.agg (stC s y1 y2 y3 y4)) s:=
 ⟨y1,y2,y3,y4,rfl,ho.cs.rd,ho.rv.rd,ho.nt.rd,ho.rl.rd⟩
theorem iD.frz{g h:Heap}{y1 y2 y3 y4:AV}{s:an}{j:Nat}(ho:iD g h y1 y2 y3 y4 s j):Frz g h (.agg (stC s y1 y2 y3 y4)) (cI s):=
 uH (ho.cs.frz (.refl _)) (ho.rv.frz (bt (fun _=>rfl) _)) (ho.nt.frz (bt (fun _=>rfl) _)) ho.rl.frz
theorem iD.bI{g h0 h:Heap}{y1 y2 y3 y4:AV}{s:an}{j:Nat}(ho:iD h0 h y1 y2 y3 y4 s j)(hg:∀i,h0 i=none→g i=none):iD g h y1 y2 y3 y4 s j:=
 {ho with cs:=ho.cs.bI hg,rv:=ho.rv.bI hg,nt:=ho.nt.bI hg,rl:=ho.rl.bI hg}
theorem iD.keep{h0 h h' :Heap}{y1 y2 y3 y4:AV}{s:an}{j:Nat}(ho:iD h0 h y1 y2 y3 y4 s j)(hk:∀id,h0 id=none→h id≠none→h' id=h id):iD h0 h' y1 y2 y3 y4 s j:=
 {ho with cs:=ho.cs.keepb hk,rv:=ho.rv.keepb hk,nt:=ho.nt.keepb hk,rl:=ho.rl.keep fun id e=>hk id (ho.rl.nid e).1 (ho.rl.nid e).2}
theorem iD.mem{h0 h:Heap}{y1 y2 y3 y4:AV}{s:an}{j:Nat}(ho:iD h0 h y1 y2 y3 y4 s j){w:AV}(hw:w∈ [y1,y2,y3,y4]){k:Nat}(e:Ab.nid w=some k):h0 k=none∧h k≠none:=by
 obtain⟨xs,a,_⟩:=ho.cs;simp only[List.mem_cons,List.not_mem_nil,or_false]at hw;rcases hw with rfl|rfl|rfl|rfl
 ·exact⟨(a.nid e).1,(a.nid e).2.1⟩
 ·exact⟨(ho.rv.nid e).1,(ho.rv.nid e).2.1⟩
 ·exact⟨(ho.nt.nid e).1,(ho.nt.nid e).2.1⟩
 ·exact ho.rl.nid e
theorem iD.revs{h0 h h' :Heap}{y1 y2 y3 y4 z:AV}{s:an}{j:Nat}{rs:List pX}(ho:iD h0 h y1 y2 y3 y4 s j)(hz:OwE 143 h0 h' 7 z (rs.map iL))(hn:∀k,Ab.nid z=some k→h k=none∨Ab.nid y2=some k)
  (hk:∀id,h0 id=none→h id≠none→Ab.nid y2≠some id→h' id=h id):iD h0 h' y1 z y3 y4 {s with reviews:=rs} j:=by
 obtain⟨hcs,hrv,hnt,hrl,a12,a13,a14,a23,a24,a34⟩:=id ho;have ap:∀ {w:AV},w∈ [y1,y2,y3,y4]→apart w y2→apart w z:=fun hw ha k e1 e2=>(hn k e2).elim (fun h=>(ho.mem hw e1).2 h) (fun h=>ha k e1 h)
 refine⟨hcs.move (z:=y2) acD a12 hk fun w hw k e=>?_,hz,hnt.keep fun id e=>hk id (hnt.nid e).1 (hnt.nid e).2.1 fun e1=>a23 id e1 e,hrl.keep fun id e=>hk id (hrl.nid e).1 (hrl.nid e).2 fun e1=>a24 id e1 e,ap acD a12,a13,a14,(ap acD a23.symm).symm,(ap acD a24.symm).symm,a34⟩
 grind
theorem iD.nots{h0 h h' :Heap}{y1 y2 y3 y4 z:AV}{s:an}{j:Nat}{rs:List Ig}(ho:iD h0 h y1 y2 y3 y4 s j)(hz:OwE 146 h0 h' 3 z (rs.map mS))(hn:∀k,Ab.nid z=some k→h k=none∨Ab.nid y3=some k)
  (hk:∀id,h0 id=none→h id≠none→Ab.nid y3≠some id→h' id=h id):iD h0 h' y1 y2 z y4 {s with notices:=rs} j:=by
 obtain⟨hcs,hrv,hnt,hrl,a12,a13,a14,a23,a24,a34⟩:=id ho;have ap:∀ {w:AV},w∈ [y1,y2,y3,y4]→apart w y3→apart w z:=fun hw ha k e1 e2=>(hn k e2).elim (fun h=>(ho.mem hw e1).2 h) (fun h=>ha k e1 h)
 refine⟨hcs.move (z:=y3) acD a13 hk fun w hw k e=>?_,hrv.keep fun id e=>hk id (hrv.nid e).1 (hrv.nid e).2.1 fun e1=>a23 id e e1,hz,hrl.keep fun id e=>hk id (hrl.nid e).1 (hrl.nid e).2 fun e1=>a34 id e1 e,a12,ap acD a13,a14,ap acD a23,a24,(ap acD a34.symm).symm⟩
 grind
end Go.Proofs.YtcochaoekecfdaaGreatDoor
namespace Go.Bf
open Go Go.Ab Go.Proofs.YtcochaoekecfdaaGreatDoor
def gX(s:an):Prop:=∀r∈s.reviews,0≤r.tick∧r.tick≤1099511627776
theorem Bi{s:an}(o:OpD)(w:Txt)(h:gX s)(ht:0≤s.tick∧s.tick≤1099511627776):gX (bZ s o w):=fun r hr=>by
 simp only[bZ,List.mem_append,List.mem_singleton]at hr;rcases hr with hr|rfl
 ·exact h r hr
 ·exact ht
theorem J0{s:an}(o:OpD)(w:Txt)(h:gX s):gX (iO s o w):=fun r hr=>h r (by grind [yF])
theorem JZ{s:an}(o:OpD)(done:Bool)(x:cA)(h:gX s)(ht:0≤s.tick∧s.tick≤1099511627776):gX (fB o done s x):=by
 unfold fB;split
 ·grind [J0]
 ·split
  ·grind [Bi]
  ·split<;>exact h
theorem wJ(o:OpD)(done:Bool):∀(l:List cA) {s:an},gX s→(0≤s.tick∧s.tick≤1099511627776)→gX (di s o l done)
 | [],s,h,_=>h
 |x::l,s,h,ht=>wJ o done l (by grind [JZ]) (by grind [CX])
theorem MG{s:an}(par:Txt→bG×Int×Int)(o:OpD)(h:gX s):gX (dO par s o):=fun r hr=>by
 rw[uB]at hr;split at hr
 ·rcases mem_modify hr with hr|⟨hi,rfl⟩
  ·exact h r hr
  ·have h2:=h _ (aco hi)
   exact agF
 ·exact h r hr
theorem Gs{k:Nat}{s:an}(o:OpD)(h:kC k s)(ht:gX s):gX (aS s o).1:=by
 unfold aS;split
 ·omega
 ·split
  ·omega
  ·show gX (cS s o)
   have h1:cY k (if fF s o then bZ s o o.reason else s):=by
    split
    ·exact Cd o _ h.tocY (by have:=h.nr;omega)
    ·exact h.tocY
   have t1:gX (if fF s o then bZ s o o.reason else s):=by
    split
    ·exact Bi o _ ht h.tick
    omega
   refine wJ o _ _ ?_ ?_
   ·grind [MG]
   ·split
    ·exact(pF o h1).tick
    ·exact h1.tick
structure ji (k:Nat) (s:an):Prop extends kC k s where
 ticks:gX s
theorem yf:ji 0 yM:={I5 with ticks:=fun r h=>adD}
theorem vU{k:Nat}{s:an}(o:OpD)(h:ji k s):ji (k+1) (aS s o).1:={Fy o h.tokC with ticks:=Gs o h.tokC h.ticks}
theorem NY{cs:List aK}{id:Txt}(h:iI cs id<cs.length):cs[iI cs id].id=id:=by
 have:=List.findIdx_getElem (p:=fun c:aK=>c.id==id) (w:=h)
 exact eq_of_beq this
theorem FI{cs:List aK}(ha:Asc cs){id:Txt}(h:iI cs id<cs.length):findD cs id=iI cs id:=by
 have hid:=NY h;have hin:bX cs id=true:=by grind [vo,List.any_eq_true,aco]
 have hir:Op.bytesLess id id=false:=by simpa[lt]using lt_irrefl id
 have h1:∃hl:findD cs id<cs.length,cs[findD cs id].id=id:=by
  unfold bX at hin
  grind
 rcases Nat.lt_trichotomy (findD cs id) (iI cs id)with hlt|heq|hgt
 ·exact absurd (List.not_of_lt_findIdx (p:=fun c:aK=>c.id==id) hlt) acv
 ·exact heq
 ·have:=List.not_of_lt_findIdx (p:=fun c:aK=>geB c.id id) hgt
  exact absurd this (by grind [geB])
theorem Ln{cs ds:List aK}(h:ds.map (·.id)=cs.map (·.id))(id:Txt):iI ds id=iI cs id:=by
 have e:∀l:List aK,iI l id=(l.map (·.id)).findIdx fun x=>x==id:=fun l=>by
  rw[List.findIdx_map];rfl
 rw[e,e,h]
theorem Jg(s:an)(o:OpD)(w:Txt)(id:Txt):iI (iO s o w).cases id=iI s.cases id∧(iO s o w).cases.length=s.cases.length:=by
 unfold iO;split
 ·exact⟨Ln (j9 (f:=fun c=>jk s c o.subj w) (g:=fun c:aK=>c.id) fun c=>rfl) id,acD⟩
 omega
theorem Jf(o:OpD)(done:Bool)(s:an)(x:cA)(id:Txt):iI (fB o done s x).cases id=iI s.cases id∧(fB o done s x).cases.length=s.cases.length:=by
 unfold fB;split
 ·grind [Jg]
 ·split
  ·exact⟨rfl,rfl⟩
  grind
end Go.Bf
namespace Go.Proofs.YtcochaoekecfdaaGreatDoor
open Go Go.Ab Go.Bf
theorem Lr{α:Type}(y:AV)(xs:List AV)(ds:List α)(q:α→Bool)(g:FuncId)(cap:List AV)(h:Heap)(hb:Rd h 7 y xs)(hn:xs.length=ds.length)(hl:xs.length≤1000000000)(hx:∀x∈xs,bz x=true)
  (hp:∀i (h1:i<xs.length) (h2:i<ds.length),ai Tryz.prog g (xs[i]::cap) h fun r h' =>r= .b (q ds[i])∧h' =h):
  ai Tryz.prog 217 [y,.fn g cap] h fun r h' =>r= .i (ixD q ds)∧h' =h:=by
 refine acs Tryz.func217 19 [.tmp 4] fun hwf=>?_
 simp only[go_sem,hb.len];refine .intro (fun m ρ h' =>h' =h∧∃i:Nat,i≤xs.length∧m=xs.length - i∧(∀j (hj:j<i) (h2:j<ds.length),q ds[j]=false)∧lk ρ 0=some y∧lk ρ 1=some (.fn g cap)∧lk ρ 7=some (.i xs.length)∧lk ρ 8=some (.i i)) xs.length ?_ ?_
 ·refine⟨rfl,0,acu,rfl,fun j hj=>acu,?_,?_,?_,?_⟩<;>simp only[go_sem]
 ·rintro m ρ h' ⟨rfl,i,hi,rfl,hc,r0,r1,r7,r8⟩
  simp only[go_sem,r7,r8];refine .intro (fun e=>?_) (fun e=>?_)
  ·have hlt:i<xs.length:=acq e
   have hlt2:i<ds.length:=acu;have w1:IntKind.i64.wrap ((i:Int)+1)=((i+1:Nat):Int):=acI;simp only[go_sem,r0,r1,r8];refine hb.idx (e:=143) i rfl hlt acK acz fun p hp1=>?_
   have hld:=hp1.all (U:=U) (ty:=143) acz adq aek;simp only[go_sem,hld];refine(show ai Tryz.prog g (xs[i]::cap) _ _ from hp i hlt hlt2).pthen ?_
   cases d1:q ds[i]
   ·simp only[go_sem,r8,w1]
    refine⟨_,?_,rfl,i+1,acu,rfl,fun j hj h2=>?_,?_,?_,?_,?_⟩
    ·omega
    ·grind
    all_goals simp only[go_sem,r0,r1,r7]
   ·simp only[go_sem]
    exact .same (.refl _) ⟨adf,rfl⟩
  ·have hge:i=xs.length:=by grind
   simp only[go_sem];exact .same (.refl _) ⟨acY,rfl⟩
theorem Lo{α:Type}(y:AV)(xs:List AV)(ds:List α)(q:α→Bool)(g:FuncId)(cap:List AV)(h:Heap)(hb:Rd h 3 y xs)(hn:xs.length=ds.length)(hl:xs.length≤1000000000)(hx:∀x∈xs,bz x=true)
  (hp:∀i (h1:i<xs.length) (h2:i<ds.length),ai Tryz.prog g (xs[i]::cap) h fun r h' =>r= .b (q ds[i])∧h' =h):
  ai Tryz.prog 183 [y,.fn g cap] h fun r h' =>r= .i (ixD q ds)∧h' =h:=by
 refine acs Tryz.func183 19 [.tmp 4] fun hwf=>?_
 simp only[go_sem,hb.len];refine .intro (fun m ρ h' =>h' =h∧∃i:Nat,i≤xs.length∧m=xs.length - i∧(∀j (hj:j<i) (h2:j<ds.length),q ds[j]=false)∧lk ρ 0=some y∧lk ρ 1=some (.fn g cap)∧lk ρ 7=some (.i xs.length)∧lk ρ 8=some (.i i)) xs.length ?_ ?_
 ·refine⟨rfl,0,acu,rfl,fun j hj=>acu,?_,?_,?_,?_⟩<;>simp only[go_sem]
 ·rintro m ρ h' ⟨rfl,i,hi,rfl,hc,r0,r1,r7,r8⟩
  simp only[go_sem,r7,r8];refine .intro (fun e=>?_) (fun e=>?_)
  ·have hlt:i<xs.length:=acq e
   have hlt2:i<ds.length:=acu;have w1:IntKind.i64.wrap ((i:Int)+1)=((i+1:Nat):Int):=acI;simp only[go_sem,r0,r1,r8];refine hb.idx (e:=158) i rfl hlt acK acz fun p hp1=>?_
   have hld:=hp1.all (U:=U) (ty:=158) acz adq aek;simp only[go_sem,hld];refine(show ai Tryz.prog g (xs[i]::cap) _ _ from hp i hlt hlt2).pthen ?_
   cases d1:q ds[i]
   ·simp only[go_sem,r8,w1]
    refine⟨_,?_,rfl,i+1,acu,rfl,fun j hj h2=>?_,?_,?_,?_,?_⟩
    ·omega
    ·grind
    all_goals simp only[go_sem,r0,r1,r7]
   ·simp only[go_sem]
    exact .same (.refl _) ⟨adf,rfl⟩
  ·have hge:i=xs.length:=by grind
   simp only[go_sem];exact .same (.refl _) ⟨acY,rfl⟩
theorem I9(y:AV)(ds:List pX)(q:pX→Bool)(g:FuncId)(cap:List AV)(h:Heap)(hb:Rd h 7 y (ds.map iL))(hl:ds.length≤1000000000)
  (hp:∀i (h2:i<ds.length),ai Tryz.prog g (iL ds[i]::cap) h fun r h' =>r= .b (q ds[i])∧h' =h):
  ai Tryz.prog 175 [y,.fn g cap] h fun r h' =>r= .b (ds.any q)∧h' =h:=by
 refine acs Tryz.func175 9 [.tmp 4] fun hwf=>?_
 simp only[go_sem];refine(Lr y _ ds q g cap h hb acD acv (oH (fun _=>rfl) _) fun i a b=>by rw[acj];exact hp i b).pthen ?_
 simp only[go_sem,uw];exact acE
theorem I8(y:AV)(ds:List cA)(q:cA→Bool)(g:FuncId)(cap:List AV)(h:Heap)(hb:Rd h 3 y (ds.map br))(hl:ds.length≤1000000000)
  (hp:∀i (h2:i<ds.length),ai Tryz.prog g (br ds[i]::cap) h fun r h' =>r= .b (q ds[i])∧h' =h):
  ai Tryz.prog 137 [y,.fn g cap] h fun r h' =>r= .b (ds.any q)∧h' =h:=by
 refine acs Tryz.func137 9 [.tmp 4] fun hwf=>?_
 simp only[go_sem];refine(Lo y _ ds q g cap h hb acD acv (oH (fun _=>rfl) _) fun i a b=>by rw[acj];exact hp i b).pthen ?_
 simp only[go_sem,uw];exact acE
theorem FA(y:AV)(xs:List AV)(ds:List aK)(q:aK→Bool)(g:FuncId)(cap:List AV)(h:Heap)(hb:Rd h 5 y xs)(hn:xs.length=ds.length)(hl:xs.length≤1000000000)(hx:∀x∈xs,bz x=true)
  (hp:∀i (h1:i<xs.length) (h2:i<ds.length),ai Tryz.prog g (xs[i]::cap) h fun r h' =>r= .b (q ds[i])∧h' =h):
  ai Tryz.prog 143 [y,.fn g cap] h fun r h' =>r= .b (ds.any q)∧h' =h:=by
 refine acs Tryz.func143 9 [.tmp 4] fun hwf=>?_
 simp only[go_sem];refine(uS y xs ds q g cap h hb hn hl hx hp).pthen ?_;simp only[go_sem,uw];exact acE
theorem Ly{h:Heap}(r:pX){k1 k2:Nat}{subj:Txt}{s:an}(hk1:h k1=some (.obj [.s subj] 9))(hk2:h k2=some (.obj (sL s) 67))(ht:0≤s.tick∧s.tick≤1099511627776)(hr:0≤r.tick∧r.tick≤1099511627776):
  ai Tryz.prog 176 [iL r,.ptr k1 0,.ptr k2 0] h fun x h' =>x= .b (r.subj==subj && qN s r)∧h' =h:=by
 have w:IntKind.i64.wrap (s.tick - r.tick)=s.tick - r.tick:=bg _ acu;obtain⟨tick,cs,rv,nt,ro,⟨pid,pset,palg,ptgt,prules,pkids,pobls⟩,ver⟩:=s;simp only[sL]at hk2;simp only at w;refine acs Tryz.func176 21 [.tmp 4] fun hwf=>?_
 simp only[go_sem,iL];intro i3 h3;have n31:i3≠k1:=fun e=>acv
 have n32:i3≠k2:=fun e=>acv
 cases d1:(r.subj==subj)
 ·simp only[go_sem,ak,n31.symm,hk1,d1]
  exact .mk _ (.refl _) (.aj h3) ⟨rfl,rfl⟩
 cases d2:r.isOpen
 ·simp only[go_sem,ak,n31.symm,hk1,d1]
  exact .mk _ (.refl _) (.aj h3) ⟨by simp only[qN,d2];rfl,rfl⟩
 ·simp only[go_sem,ak,n31.symm,n32.symm,hk1,hk2,d1,w]
  exact .mk _ (.refl _) (.aj h3) ⟨by simp only[qN,d2];rfl,rfl⟩
theorem N5(s:an)(subj:Txt)(hn:s.reviews.length≤1000000)(ht:0≤s.tick∧s.tick≤1099511627776)(hr:gX s)(h:Heap):ai Tryz.prog 128 [cI s,.s subj] h fun x h' =>x= .b (Lz s subj)∧h' =h:=by
 have hl1:=fun(H:Heap) (k1 k2:Nat) (e1:H k1=some (.obj [.s subj] 9)) (e2:H k2=some (.obj (sL s) 67))=>I9 (j4 s.reviews) s.reviews (fun r=>r.subj==subj && qN s r) 176 [.ptr k1 0,.ptr k2 0] H (eP iL 7 (fun _=>rfl) H _) acu fun i h2=>Ly _ e1 e2 ht (hr _ (aco h2))
 have hst:=vm s;obtain⟨tick,cs,rv,nt,ro,⟨pid,pset,palg,ptgt,prules,pkids,pobls⟩,ver⟩:=s;rw[hst];simp only[sL]at hl1⊢;refine acs Tryz.func128 9 [.tmp 4] fun hwf=>?_
 simp only[go_sem];intro i2 h2;simp only[go_sem];intro i3 h3;have n32:=aF h3;have n3:=aA h3;have hs:∀x y,Ab.Sub h (upd (upd h i2 x) i3 y):=fun x y=>((Sub.refl h).put h2 x).put n3 y
 simp only[go_sem,ak,n32.symm];refine(hl1 _ i3 i2 (ah ..) (by grind [ag,ah])).pthen ?_
 simp only[go_sem];exact ad7
theorem Ip(s:an)(o:OpD)(m:aR)(hm9:M9 m)(hn:s.reviews.length≤1000000)(hro:s.roles.length≤1000000)(ht:0≤s.tick∧s.tick≤1099511627776)(hr:gX s)(h:Heap):ai Tryz.prog 71 [cI s,opA o,aM m] h fun x h' =>x= .b (sS s o m)∧h' =h:=by
 have hla:=fun G=>N5 s o.subj hn ht hr G
 have hha:=fun G=>FD (rdS G s) o.subj BZ acu
 have hbd:sS s o m=(o.glass && (m==cC||m==naM) && yh s.roles ⟨o.subj,BZ⟩ && !Lz s o.subj):=rfl
 have de:=(nb hm9).de;have na:=(nb hm9).na;have hst:=vm s;obtain⟨tick,cs,rv,nt,ro,⟨pid,pset,palg,ptgt,prules,pkids,pobls⟩,ver⟩:=s;rw[hst]at hla hha⊢;simp only[sL,BZ]at hla hha hbd⊢;refine acs Tryz.func71 30 [.tmp 6] fun hwf=>?_
 simp only[go_sem,opA,opC,aM];intro i3 h3;simp only[go_sem];intro i4 h4;have n43:=aF h4;have n4:=aA h4;have hs:∀x y,Ab.Sub h (upd (upd h i3 x) i4 y):=fun x y=>((Sub.refl h).put h3 x).put n4 y
 cases dg:o.glass
 ·simp only[go_sem]
  exact .mk _ (.refl _) (hs _ _) ⟨by rw[hbd,dg];rfl,rfl⟩
 cases d1:(m==cC)<;>cases d2:(m==naM)
 case false.false=>
  simp only[go_sem,de,na,d1,d2];exact .mk _ (.refl _) (hs _ _) ⟨by rw[hbd,dg,d1,d2];rfl,rfl⟩
 all_goals
  simp only[go_sem,ak,n43.symm,de,na,d1,d2];refine(hha _).pthen ?_;cases dh:yh ro ⟨o.subj,[103,108,97,115,115]⟩
  ·simp only[go_sem]
   exact .mk _ (.refl _) (hs _ _) ⟨by rw[hbd,dg,d1,d2,dh];rfl,rfl⟩
  ·simp only[go_sem,ak,n43.symm]
   refine(hla _).pthen ?_;simp only[go_sem];exact .mk _ (.refl _) (hs _ _) ⟨by rw[hbd,dg,d1,d2,dh];rfl,rfl⟩
theorem Jb{h:Heap}(x:cA){k:Nat}{field:Txt}(hk:h k=some (.obj [.s field] 9)):ai Tryz.prog 138 [br x,.ptr k 0] h fun r h' =>r= .b (x.kind==2 && x.arg==field)∧h' =h:=by
 refine acs Tryz.func138 13 [.tmp 3] fun hwf=>?_
 simp only[go_sem,br];intro i2 h2;have n2:i2≠k:=fun e=>acv
 cases d1:(x.kind==2)
 all_goals
  simp only[go_sem,ak,n2.symm,hk,d1];exact .mk _ (.refl _) (.aj h2) ⟨rfl,rfl⟩
theorem Lh(l:List cA)(hl:l.length≤1000000000)(field:Txt)(h:Heap):ai Tryz.prog 75 [az l,.s field] h fun r h' =>r= .b (jJ l field)∧h' =h:=by
 refine acs Tryz.func75 8 [.tmp 4] fun hwf=>?_
 simp only[go_sem,az];intro i3 h3;simp only[go_sem];refine(I8 (.sl (l.map br) .no) l (fun x=>x.kind==2 && x.arg==field) _ [.ptr i3 0] _ (eP br 3 (fun _=>rfl) _ _) hl fun i h2=>Jb _ (ah ..)).pthen ?_
 simp only[go_sem];exact .mk _ (.refl _) (.aj h3) ⟨rfl,rfl⟩
theorem L0{h:Heap}{x:AV}{c:aK}(hb:RdC h x c):ai Tryz.prog 144 [x] h fun r h' =>r= .b (decide (256<c.log.length))∧h' =h:=by
 obtain⟨f,l,rfl,hf,hl⟩:=hb;have e:decide ((256:Int)<(c.log.length:Int))=decide (256<c.log.length):=by
  grind
 refine acs Tryz.func144 7 [.tmp 2] fun hwf=>?_
 simp only[go_sem];intro i1 h1;simp only[go_sem,hl.len,aci,e];exact acM
theorem L2{h:Heap}{x:AV}{s:an}(hb:RdS h x s)(hc:s.cases.length≤1000000):ai Tryz.prog 79 [x] h fun r h' =>r= .b (rS s)∧h' =h:=by
 obtain⟨y1,y2,y3,y4,rfl,⟨xs,hx,hn,hcs⟩,h2,h3,h4⟩:=hb;have hod:rS s=(decide (256<s.reviews.length)||decide (256<s.notices.length)||s.cases.any fun c=>decide (256<c.log.length)):=rfl
 have e2:decide ((256:Int)<(s.reviews.length:Int))=decide (256<s.reviews.length):=by
  grind
 have e3:decide ((256:Int)<(s.notices.length:Int))=decide (256<s.notices.length):=by
  grind
 have hca:=fun(G:Heap) (hG:Ab.Sub h G)=>FA y1 xs s.cases (fun c=>decide (256<c.log.length)) 144 [] G (hx.sub hG) hn acu (zI.agg hn hcs) fun i a b=>L0 ((hcs i a b).sub hG)
 cases hpp:s.policy with
 |mk pid pset palg ptgt prules pkids pobls=>
 refine acs Tryz.func79 18 [.tmp 2] fun hwf=>?_
 simp only[go_sem,fT,aW,List.cons_append,List.nil_append];intro i1 h1;cases d2:decide (256<s.reviews.length)
 case true=>
  simp only[go_sem,h2.len,aci,e2,d2];exact .mk _ (.refl _) (.aj h1) ⟨by rw[hod,d2];rfl,rfl⟩
 cases d3:decide (256<s.notices.length)
 case true=>
  simp only[go_sem,h2.len,h3.len,aci,e2,e3,d2,d3];exact .mk _ (.refl _) (.aj h1) ⟨by rw[hod,d2,d3];rfl,rfl⟩
 simp only[go_sem,h2.len,h3.len,aci,e2,e3,d2,d3];refine(hca _ (.aj h1)).pthen ?_;simp only[go_sem];exact .mk _ (.refl _) (.aj h1) ⟨by rw[hod,d2,d3];rfl,rfl⟩
theorem LH{h:Heap}{x:AV}{c:aK}(hb:RdC h x c){k:Nat}{o:OpD}(hk:h k=some (.obj (opC o) 32)):ai Tryz.prog 185 [x,.ptr k 0] h fun r h' =>r= .b (c.id==o.case)∧h' =h:=by
 obtain⟨f,l,rfl,hf,hl⟩:=hb;simp only[opC]at hk;refine acs Tryz.func185 9 [.tmp 3] fun hwf=>?_
 simp only[go_sem];exact agZ
end Go.Proofs.YtcochaoekecfdaaGreatDoor
namespace Go.Ab
open Go
theorem OwE.more{tb:TypeId}{g h0 h:Heap}{sz:Nat}{y:AV}{xs:List AV}(hw:OwE tb h0 h sz y xs)(hg:∀id,h0 id=Option.none→h id≠Option.none→g id=Option.none):OwE tb g h sz y xs:=by
 rcases hw with hw|⟨id,e,hw⟩
 ·exact agx
 ·exact .inr ⟨id,hg _ e hw.none,hw⟩
end Go.Ab
namespace Go.Proofs.YtcochaoekecfdaaGreatDoor
open Go Go.Ab Go.Bf
theorem fk.more{g h0 h:Heap}{ys:List AV}{x:AV}{c:aK}(hm:fk h0 h ys x c)(hg:∀id,h0 id=none→h id≠none→g id=none):fk g h ys x c:=by
 obtain⟨f,l,e,a,b,c⟩:=hm;exact⟨f,l,e,a.more hg,b.more hg,c⟩
theorem lQ.more{g h0 h:Heap}{ys:List AV}{y:AV}{cs:List aK}{i0:Nat}(ho:lQ h0 h ys y cs i0)(hg:∀id,h0 id=none→h id≠none→g id=none):lQ g h ys y cs i0:=by
 obtain⟨xs,a,b,c,d⟩:=ho;exact⟨xs,a.more hg,b,c,fun h1 h2=>(d h1 h2).more hg⟩
theorem OwR.more{g h0 h:Heap}{y:AV}{rs:List gV}(hr:OwR h0 h y rs)(hg:∀id,h0 id=none→h id≠none→g id=none):OwR g h y rs:=by
 rcases hr with hr|hr
 ·exact .inl hr
 ·exact .inr (hr.more hg)
theorem iD.more{g h0 h:Heap}{y1 y2 y3 y4:AV}{s:an}{j:Nat}(ho:iD h0 h y1 y2 y3 y4 s j)(hg:∀id,h0 id=none→h id≠none→g id=none):iD g h y1 y2 y3 y4 s j:=
 {ho with cs:=ho.cs.more hg,rv:=ho.rv.more hg,nt:=ho.nt.more hg,rl:=ho.rl.more hg}
def GSt(g H:Heap)(k:Nat)(s:an)(j:Nat):Prop:=∃y1 y2 y3 y4,H k=some (.obj (stC s y1 y2 y3 y4) 67)∧iD g H y1 y2 y3 y4 s j∧g k≠none∧∀i b,i≠k→g i=some b→H i=some b
theorem GSt.box{g H:Heap}{k:Nat}{s:an}{j:Nat}(hG:GSt g H k s j){i:Nat}(hi:H i=none)(b:Blk):GSt (upd g i (some b)) (upd H i (some b)) k s j:=by
 obtain⟨y1,y2,y3,y4,hk,ho,hgk,hfr⟩:=hG;refine⟨y1,y2,y3,y4,ac7,(ho.more (g:=upd g i (some b)) fun id h0 hne=>?_).keep fun id _ hne=>ag _ _ fun e=>hne acv,ac7,fun q c hq hc=>?_⟩
 ·grind [ag]
 grind [ah,ag]
theorem GSt.unbox{g H:Heap}{k:Nat}{s:an}{j:Nat}{i:Nat}{b:Blk}(hG:GSt (upd g i (some b)) H k s j)(hi:i≠k)(hgi:g i=none):GSt g H k s j∧H i=some b:=by
 obtain⟨y1,y2,y3,y4,hk,ho,hgk,hfr⟩:=hG;refine⟨⟨y1,y2,y3,y4,hk,ho.bI fun q hq=>?_,ac7,fun q c hq hc=>hfr q c hq ?_⟩,hfr i b hi (ah ..)⟩
 ·grind [ag]
 grind [ag]
theorem GSt.base{g H:Heap}{k:Nat}{s:an}{j:Nat}(hG:GSt g H k s j):∃G,Ab.Sub G H∧(∀i,G i=none↔g i=none)∧∀i,i≠k→G i=g i:=by
 obtain⟨y1,y2,y3,y4,hk,ho,hgk,hfr⟩:=hG;refine⟨upd g k (H k),fun i b hi=>?_,fun i=>?_,fun i hi=>ag _ _ hi⟩
 ·grind [ah,ag]
 grind [ah,ag]
theorem GSt.rd{g H:Heap}{k:Nat}{s:an}{j:Nat}(hG:GSt g H k s j):∃y1 y2 y3 y4,H k=some (.obj (stC s y1 y2 y3 y4) 67)∧RdS H (.agg (stC s y1 y2 y3 y4)) s:=by
 obtain⟨y1,y2,y3,y4,hk,ho,_⟩:=hG;exact⟨y1,y2,y3,y4,hk,ho.rd⟩
theorem DP{g H:Heap}{k:Nat}{s:an}{j:Nat}(hG:GSt g H k s j)(o:OpD)(w:Txt)(hk64:i64 o.kind)(hn:s.reviews.length≤1000000000):
  ai Tryz.prog 73 [.ptr k 0,opA o,.s w] H fun r H' =>GSt g H' k (bZ s o w) j:=by
 obtain⟨G,sG,nG,oG⟩:=hG.base;obtain⟨y1,y2,y3,y4,hk,ho,hgk,hfr⟩:=hG;have ho2:iD G H y1 y2 y3 y4 s j:=ho.bI fun i hi=>(nG i).2 hi
 have w1:IntKind.i64.wrap ((s.reviews.length:Int)+1)=(s.reviews.length:Int)+1:=bg _ acu;obtain⟨pid,pset,palg,ptgt,prules,pkids,pobls,hpp⟩:∃a b c d e f g,s.policy= .mk a b c d e f g:=by cases s.policy;simp
 have hst:∀z,stC (bZ s o w) y1 z y3 y4= [.i s.tick,y1,z,y3,y4,.s pid,.b pset,.i palg,aU ptgt,.sl (prules.map aB) .no,.sl (pkids.map aL) .no,az pobls,.i s.version]:=fun z=>by simp[stC,bZ,hpp,fT,aW]
 have hst0:stC s y1 y2 y3 y4= [.i s.tick,y1,y2,y3,y4,.s pid,.b pset,.i palg,aU ptgt,.sl (prules.map aB) .no,.sl (pkids.map aL) .no,az pobls,.i s.version]:=agl;rw[hst0]at hk;refine acs Tryz.func73 34 [] fun hwf=>?_
 simp only[go_sem,opA,opC];intro i4 h4;have n4k:i4≠k:=fun e=>acv
 simp only[go_sem];obtain⟨K,eK⟩:∃K,upd H i4 (some (.obj [.i o.kind,.s o.subj,.s o.case,.s o.field,.s o.to,.i o.val.kind,.i o.val.n,.s o.val.s,.i o.review,.s o.text,.s o.reason,.b o.glass] 32))=K:=⟨_,rfl⟩;have sK:Ab.Sub H K:=by rw[←eK];exact .aj h4
 have k4:K i4=some (.obj [.i o.kind,.s o.subj,.s o.case,.s o.field,.s o.to,.i o.val.kind,.i o.val.n,.s o.val.s,.i o.review,.s o.text,.s o.reason,.b o.glass] 32):=by rw[←eK,ah]
 have kk:=sK _ _ hk;have hoK:iD G K y1 y2 y3 y4 s j:=ho2.keep fun id _ hne=>by rw[←eK];grind [ag]
 rw[eK];have p4:=(bB (H:=K) (l:=[k,i4]) (show i4∈ [k,i4] by simp)).trans k4
 have pk:=(bB (H:=K) (l:=[k,i4]) (show k∈ [k,i4] by simp)).trans kk
 refine .stage (pick K [k,i4]) [0,1,2,3,4,5,6,7,8,9,10,11,12,13,14,15,16,17,18,19,20,22,21,23,24,25,26,27] [28] bQ acw ?_;simp only[go_sem,pk,p4,hoK.rv.rd.len,aci,w1];refine(uv o.kind hk64 _).pthen ?_;refine⟨bQ,?_⟩;simp only[go_sem];have hap1:Rd K 7 (.sl [iL (Ba s o w)] .full) [iL (Ba s o w)]:=.sl adj .full;refine OwE.app (U:=U) (tb:=143) hoK.rv (sG.trans sK) hap1 acK acz acz acK acD ac3 fun id y' K2 hid hor how hoth=>?_
 have hor' :K id=none∨nid y2=some id:=by
  rcases hor with hor|⟨l,c,ey⟩
  ·grind
  ·exact .inr agq
 have nik:k≠id:=fun e=>hgk ((nG k).1 acv)
 have ni4:i4≠id:=by
  rcases hor' with hor|hor
  ·grind
  ·exact fun e=>(ho2.rv.nid hor).2.1 acv
 have m4:=(hoth i4 ni4).trans k4;have mk:=(hoth k nik).trans kk;refine⟨iK fun q hq=>?_,?_⟩
 ·grind
 simp only[go_sem];refine⟨cL,fun _ _ e=>acV,?_⟩
 simp only[go_sem,mk,how.rd.fit,how.rd.cells];refine⟨fun _ _ e=>acV,?_⟩
 refine .same (.refl _) ⟨y1,y',y3,y4,agC,iD.bI (h0:=G) ?_ fun i hi=>(nG i).1 hi,hgk,fun i b hi hb=>?_⟩
 ·refine hoK.revs (rs:=s.reviews++ [Ba s o w]) (.inr ⟨id,hid,by rw[List.map_append];exact how.same (ag _ _ nik.symm)⟩) (fun q hq=>?_) fun q hq hne hz=>?_
  ·have:id=q:=by have:=how.nid;rw[hq]at this;exact(Option.some.inj this).symm
   rw[←this];exact hor'
  grind [ag]
 ·have n2:i≠id:=fun e=>by
   grind
  rw[ag _ _ hi,hoth i n2];exact sK _ _ (hfr i b hi hb)
end Go.Proofs.YtcochaoekecfdaaGreatDoor
namespace Go.Bf
open Go Go.Ab Go.Proofs.YtcochaoekecfdaaGreatDoor
theorem DC{s:an}{o:OpD}{w:Txt}(h:¬(iI s.cases o.case<s.cases.length∧o.kind≠6)):iO s o w=s:=by simp_all [iO,if_neg]
theorem LI{s:an}{o:OpD}{w:Txt}{j:Nat}(h1:iI s.cases o.case<s.cases.length)(h2:o.kind≠6)(e:iI s.cases o.case=j):iO s o w= {s with cases:=s.cases.modify j fun c=>jk s c o.subj w}:=by simp_all [iO,if_pos]
end Go.Bf
namespace Go.Proofs.YtcochaoekecfdaaGreatDoor
open Go Go.Ab Go.Bf
theorem LJ{g H:Heap}{k:Nat}{s:an}{j:Nat}(hG:GSt g H k s j)(o:OpD)(w:Txt)(hc:s.cases.length≤1000000)(hl:∀c∈s.cases,c.log.length≤1000000000)(hj:iI s.cases o.case<s.cases.length→o.kind≠6→j=iI s.cases o.case):
  ai Tryz.prog 142 [.ptr k 0,opA o,.s w] H fun r H' =>GSt g H' k (iO s o w) j:=by
 obtain⟨G,sG,nG,oG⟩:=hG.base;obtain⟨y1,y2,y3,y4,hk,ho,hgk,hfr⟩:=hG;have ho2:iD G H y1 y2 y3 y4 s j:=ho.bI fun i hi=>(nG i).2 hi
 obtain⟨pid,pset,palg,ptgt,prules,pkids,pobls,hpp⟩:∃a b c d e f g,s.policy= .mk a b c d e f g:=by cases s.policy;exact⟨_,_,_,_,_,_,_,rfl⟩
 have hst0:stC s y1 y2 y3 y4= [.i s.tick,y1,y2,y3,y4,.s pid,.b pset,.i palg,aU ptgt,.sl (prules.map aB) .no,.sl (pkids.map aL) .no,az pobls,.i s.version]:=agl;rw[hst0]at hk;refine acs Tryz.func142 44 [] fun hwf=>?_
 simp only[go_sem,opA,opC];intro i4 h4;have n4k:i4≠k:=fun e=>by rw[e,hk]at h4;cases h4
 obtain⟨K,eK⟩:∃K,upd H i4 (some (.obj [.i o.kind,.s o.subj,.s o.case,.s o.field,.s o.to,.i o.val.kind,.i o.val.n,.s o.val.s,.i o.review,.s o.text,.s o.reason,.b o.glass] 32))=K:=⟨_,rfl⟩;have sK:Ab.Sub H K:=by rw[←eK];exact .aj h4
 have k4:K i4=some (.obj [.i o.kind,.s o.subj,.s o.case,.s o.field,.s o.to,.i o.val.kind,.i o.val.n,.s o.val.s,.i o.review,.s o.text,.s o.reason,.b o.glass] 32):=by rw[←eK,ah]
 have kk:=sK _ _ hk;have hoK:iD G K y1 y2 y3 y4 s j:=ho2.keep fun id _ hne=>by rw[←eK];exact ag _ _ fun e=>hne (by rw[e];exact h4)
 have hfin:GSt g K k s j:=⟨y1,y2,y3,y4,by rw[hst0];exact kk,hoK.bI fun i hi=>(nG i).1 hi,hgk,fun i b hi hb=>sK _ _ (hfr i b hi hb)⟩
 have hix:ai Tryz.prog 168 [y1,.fn 185 [.ptr i4 0]] K fun r h' =>r= .i (ixD (fun c:aK=>c.id==o.case) s.cases)∧h' =K:=by
  obtain⟨xs,hx,hn,hcs⟩:=hoK.cs.rd;exact uS y1 xs s.cases (fun c=>c.id==o.case) _ [.ptr i4 0] K hx hn acu (zI.agg hn hcs) fun i a b=>LH (hcs i a b) k4
 have hcsK:=hoK.cs;have n4G:∀id,G id=none→K id≠none→id≠i4→H id=K id:=fun id _ _ h=>by rw[←eK,ag _ _ h]
 simp only[go_sem,ak,n4k.symm,hk];rw[eK];refine hix.pthen ?_
 by_cases hx:iI s.cases o.case<s.cases.length
 case neg=>
  have e1:ixD (fun c:aK=>c.id==o.case) s.cases= -1:=if_neg hx
  have d1:decide ((-1:Int)<0)=true:=rfl;rw[e1];simp only[go_sem,d1];exact .same (.refl _) (by rw[DC fun h=>hx h.1];exact hfin)
 have e1:ixD (fun c:aK=>c.id==o.case) s.cases=(iI s.cases o.case:Nat):=if_pos hx
 have d1:decide (((iI s.cases o.case:Nat):Int)<0)=false:=decide_eq_false acu;rw[e1];cases d6:(o.kind==6)
 case true=>
  have h6:o.kind=6:=by simpa using d6
  simp only[go_sem,d1,k4,d6];exact .same (.refl _) (by rw[DC fun h=>h.2 h6];exact hfin)
 have h6:o.kind≠6:=by simpa using d6
 have hjj:=hj hx h6;have hlo:=LI (w:=w) hx h6 hjj.symm;have hjc:j<s.cases.length:=by rw[hjj];exact hx
 rw[←hjj]at d1⊢;rw[hlo];obtain⟨xs,w1,hnx,hlw,hmy⟩:=hcsK;have hjx:j<xs.length:=acu;obtain⟨f,l,ex,of,ol,hap,hys⟩:=hmy hjx hjc;obtain⟨id1,hg1,o1⟩:=w1.ow afq;have o1' :=o1;obtain⟨cap,rest,ey,hid,hrl,hcap,hsz⟩:=o1';have lA:j*5=(au (xs.take j)).length:=adB;have hidK:K id1=some (.obj (au (xs.take j)++(cc s.cases[j] f l++(au (xs.drop (j+1))++rest))) 134):=by
  rw[hid,BV hjx,ex];simp[cc,AV.cells]
 have n1k:id1≠k:=lO o1 kk acz;have n14:id1≠i4:=lO o1 k4 acz;have hll:=hl _ (aco hjc);have p4:=(bB (H:=K) (l:=[k,i4,id1]) (show i4∈ [k,i4,id1] by simp)).trans k4
 have pk:=(bB (H:=K) (l:=[k,i4,id1]) (show k∈ [k,i4,id1] by simp)).trans kk
 have p1:=(bB (H:=K) (l:=[k,i4,id1]) (show id1∈ [k,i4,id1] by simp)).trans hidK
 have hc4:(au (xs.take j)++(cc s.cases[j] f l++(au (xs.drop (j+1))++rest)))[j*5+4]? =some l:=by rw[lA,List.getElem?_append_right acu,Nat.add_sub_cancel_left];rfl
 obtain⟨CS,eCS⟩:∃CS,au (xs.take j)++(cc s.cases[j] f l++(au (xs.drop (j+1))++rest))=CS:=⟨_,rfl⟩;rw[eCS]at hc4 p1 hidK;simp only[go_sem,d1,k4,d6,kk];refine o1.idx (U:=U) (e:=134) j rfl hjx nE acz ?_;simp only[go_sem];refine .stage (pick K [k,i4,id1]) [0,1,2,3,4,5,6,7,8,9,10,11,12,13,14,15,16] [17] bQ acw ?_;simp only[go_sem,pk,p4,p1,hc4];have hap1:Rd K 3 (.sl [iH ⟨s.tick,o.subj,w⟩] .full) [iH ⟨s.tick,o.subj,w⟩]:=.sl adj .full;refine OwE.app (U:=U) (tb:=205) ol (sG.trans sK) hap1 acF acz acA acF acD ac3 fun id2 y' K2 g2 hor how hoth=>?_
 have hor' :K id2=none∨nid l=some id2:=by
  exact ahi
 have n2:∀ {q b t},K q=some (.obj b t)→t≠205→q≠id2:=fun {q b t} hq ht e=>by
  rcases hor' with h|h
  ·rw[e,h]at hq;cases hq
  ·exact lO (ol.nid h).2.2 hq ht e.symm
 have m4:=(hoth i4 (n2 k4 acz)).trans k4;have mk:=(hoth k (n2 kk acz)).trans kk;have m1:=(hoth id1 (n2 hidK acz)).trans hidK;refine⟨iK fun q hq=>?_,?_⟩
 ·simp only[List.mem_cons,List.not_mem_nil,or_false]at hq
  rcases hq with rfl|rfl|rfl
  ·rw[mk,kk]
  ·rw[m4,k4]
  ·rw[m1,hidK]
 simp only[go_sem];refine⟨cL,fun _ _ e=>acV,?_⟩
 simp only[go_sem,m1,how.rd.fit,how.rd.cells];have e5:List.take (j*5+4) CS++ [y']++List.drop (j*5+4+1) CS=au (xs.take j)++(cc s.cases[j] f y' ++(au (xs.drop (j+1))++rest)):=by
  have:=oT (A:=au (xs.take j)++ [.s s.cases[j].id,.s s.cases[j].owner,.s s.cases[j].state,f]) (B:=[l]) (C:=au (xs.drop (j+1))++rest) (X:=[y']) (k:=j*5+4) (m:=1) (by rw[lA];simp) rfl rfl
  exact aie
 rw[e5];refine⟨by rw[←eCS];simp only[acn,←lA,cc,List.length_cons,List.length_nil];omega,(fun _ _ e=>acV),?_⟩
 obtain⟨F,eF⟩:∃F,upd K2 id1 (some (.obj (au (xs.take j)++(cc s.cases[j] f y' ++(au (xs.drop (j+1))++rest))) 134))=F:=⟨_,rfl⟩;have kF:∀q,q≠id1→q≠id2→F q=K q:=fun q a b=>by rw[←eF,ag _ _ a,hoth q b]
 have kF' :∀q,K q≠none→q≠id1→nid l≠some q→F q=K q:=fun q a b c=>kF q b fun e=>by
  rcases hor' with h|h
  ·exact a (by rw[e];exact h)
  ·exact c (by rw[e];exact h)
 have hF1:F id1=some (.obj (au (xs.take j)++(cc s.cases[j] f y' ++(au (xs.drop (j+1))++rest))) 134):=by rw[←eF,ah]
 have n12:id1≠id2:=n2 hidK acz;have hX5:Sized 5 (xs.set j (.agg (cc s.cases[j] f y'))):=fun z hz=>by
  exact aho
 have hOw:Ow 134 F 5 id1 y1 (xs.set j (.agg (cc s.cases[j] f y'))):=⟨cap,rest,aeN,by rw[hF1,tf hjx];simp[AV.cells],afG,aeG,hX5⟩
 have hl' :OwE 205 G F 3 y' ((s.cases[j].log++ [(⟨s.tick,o.subj,w⟩:xz)]).map iH):=by
  rw[List.map_append];exact .inr ⟨id2,g2,how.same (by rw[←eF,ag _ _ n12.symm])⟩
 have hny:∀q,nid y' =some q→q=id2:=fun q hq=>by have:=how.nid;rw[hq]at this;exact Option.some.inj this
 have nf1:nid f≠some id1:=fun e=>(hys y1 acD).1 id1 e o1.nid
 have hof:OwE 215 G F 4 f (s.cases[j].fields.map bL):=of.keep fun q e=>kF' q (of.nid e).2.1 (fun e' =>nf1 (by rw[←e'];exact e)) (hap q e)
 have hnid:∀ {y:AV},y∈ [y1,y2,y3,y4]→∀q,nid y=some q→K q≠none:=fun hy q e=>(hoK.mem hy e).2
 have hap2:∀ {y:AV},y∈ [y1,y2,y3,y4]→apart y' y:=fun {y} hy q e1 e2=>by
  have:=hny q e1;subst this;rcases hor' with h|h
  ·exact hnid hy _ e2 h
  ·exact(hys y hy).2 _ h e2
 have hkp:∀ {y:AV},y∈ [y2,y3,y4]→apart y1 y→∀q,nid y=some q→F q=K q:=fun {y} hy ha q e=>by
  have hy' :y∈ [y1,y2,y3,y4]:=List.mem_cons_of_mem _ hy;refine kF' q (hnid hy' q e) (fun e' =>ha id1 o1.nid (by rw[←e'];exact e)) fun e' =>(hys y hy').2 q e' e
 rw[eF];refine .same (.refl _) ⟨y1,y2,y3,y4,?_,iD.bI (h0:=G) ?_ fun i hi=>(nG i).1 hi,hgk,fun i b hi hb=>?_⟩
 ·rw[kF k n1k.symm (n2 kk acz),kk]
  simp[stC,hpp,fT,aW]
 ·refine⟨Ce (X:=.agg (cc s.cases[j] f y')) (.inr ⟨id1,hg1,hOw⟩) hnx (fun q h1 h2 hq=>hlw q h1 h2 hq) fun hh=>⟨f,y',rfl,hof,hl',fun q e1 e2=>?_,fun y hy=>⟨(hys y hy).1,hap2 hy⟩⟩,hoK.rv.keep (hkp acD hoK.a12),hoK.nt.keep (hkp acD hoK.a13),hoK.rl.keep (hkp acD hoK.a14),hoK.a12,hoK.a13,hoK.a14,hoK.a23,hoK.a24,hoK.a34⟩
  have:=hny q e2;subst this;rcases hor' with h|h
  ·exact(of.nid e1).2.1 h
  ·exact hap _ e1 h
 ·have hGi:G i=some b:=by rw[oG i hi];exact hb
  rw[kF i (fun e=>by rw[e,hg1]at hGi;cases hGi) (fun e=>by rw[e,g2]at hGi;cases hGi)]
  exact sK _ _ (hfr i b hi hb)
end Go.Proofs.YtcochaoekecfdaaGreatDoor
