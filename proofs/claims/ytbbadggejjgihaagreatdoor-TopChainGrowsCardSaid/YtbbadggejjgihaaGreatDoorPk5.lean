/- The law TopVersions,TopChainGrows: pack 5 of its texts. -/
import Derived.Lib.ItoaLen
import Derived.Test.YtbbadggejjgihaaGreatDoorPk1
import Derived.Test.YtbbadggejjgihaaGreatDoorPk2
import Derived.Test.YtbbadggejjgihaaGreatDoorPk3
import Derived.Test.YtbbadggejjgihaaGreatDoorPk4
set_option linter.unusedSimpArgs false
set_option linter.unusedVariables false
set_option maxRecDepth 100000
namespace Go.Proofs.YtbbadggejjgihaaGreatDoor
open Go Go.Ab Go.Bf
theorem EN{l:List ij}{subj:Txt}{i:Nat}(h:i<l.length)(h1:l[i].subj=subj)(h2:(dD (l.take i) subj).length<16):dD (l.take (i+1)) subj=dD (l.take i) subj++ [idV l[i].role]:=by
 unfold dD at h2⊢;rw[List.take_succ_eq_append_getElem h,List.filter_append,List.map_append]
 grind [List.length_take,idV,List.take_append,List.take_of_length_le]
theorem zG{l:List ij}{subj:Txt}{i:Nat}(h:i<l.length)(h1:l[i].subj≠subj∨¬(dD (l.take i) subj).length<16):dD (l.take (i+1)) subj=dD (l.take i) subj:=by
 grind [dD,List.take_succ_eq_append_getElem,List.take_append,List.length_take]
theorem GN(l:List ij)(subj:Txt):(dD l subj).length≤16:=by grind [dD,List.length_take]
def cQ(s:an)(o:OpD):List br:=[⟨1,idT,[idV o.subj]⟩,⟨1,[114,111,108,101],dD s.roles o.subj⟩,⟨2,[110,97,109,101],[idV (iS o.kind)]⟩]
theorem yC{s:an}(hf:Few s)(id:Txt):(bw s.cases id).log.length≤1000000∧(bw s.cases id).fields.length≤1000000:=by
 cases e:bZ s.cases id
 ·rw[C7 e];decide
 ·rw[C6 e];exact⟨hf.log _ aeg,hf.fields _ aeg⟩
theorem C1(c:aM)(subj:Txt):(cG c subj).length≤6+c.fields.length:=by
 grind [qw,ad3,sM,fR,adZ,List.length_filter_le,sI]
theorem jP{h G:Heap}{i:Nat}(hs:Ab.Sub h G)(hi:G i=none):h i=none:=hs.none hi
theorem CK:(U 32).sz=3:=aeo
theorem R0{h:Heap}{x:AV}{s:an}(hb:RdS h x s)(o:OpD)(hf:Few s)(hk:i64 o.kind):ai Tryz.prog 52 [x,opA o] h fun r h' =>r=bJ (fL s o)∧h' =h:=by
 have hca:=fun(G:Heap) (hG:Ab.Sub h G)=>B8 (hb.sub hG) o.case hf
 obtain⟨y1,y2,y3,y4,rfl,⟨xs,hc,hn,hcs⟩,h2,h3,h4⟩:=hb;cases hpp:s.policy with
 |mk pid pset palg ptgt prules pkids pobls=>
 have hcC:gb (.mk pid pset palg ptgt prules pkids pobls)= [.s pid,.b pset,.i palg,aV ptgt,.sl (prules.map aC) .no,.sl (pkids.map aO) .no,ay pobls]:=ahd;rw[hpp,hcC]at hca;simp only[List.cons_append,List.nil_append]at hca;have hfr:=hf.roles;refine ad8 Tryz.func52 99 [.tmp 4] fun hwf=>?_
 simp only[go_sem,hcC,opA,opC,List.cons_append,List.nil_append];intro i1 h1;simp only[go_sem];intro i2 h2';have n21:=aI h2';have n2:=aB h2';simp only[go_sem,ak,n21.symm,h4.len,adZ];obtain⟨H,eH⟩:∃H,upd (upd h i1 (some (.obj [.i s.tick,y1,y2,y3,y4,.s pid,.b pset,.i palg,aV ptgt,.sl (prules.map aC) .no,.sl (pkids.map aO) .no,ay pobls,.i s.version] 51))) i2 (some (.obj (opC o) 34))=H:=⟨_,rfl⟩;have hH:Ab.Sub h H:=ae8;have g1:H i1=some (.obj [.i s.tick,y1,y2,y3,y4,.s pid,.b pset,.i palg,aV ptgt,.sl (prules.map aC) .no,.sl (pkids.map aO) .no,ay pobls,.i s.version] 51):=afK;have g2:H i2=some (.obj (opC o) 34):=afC;simp only[opC]at eH g2;rw[eH];clear eH;refine .intro (fun m ρ G=>∃(i:Nat) (y:AV),Acc U 32 H G y ((dD (s.roles.take i) o.subj).map aS)∧i≤s.roles.length∧m=s.roles.length - i∧lk ρ 5=some y∧lk ρ 2=some (.ptr i1 0)∧lk ρ 3=some (.ptr i2 0)∧lk ρ 12=some y4∧lk ρ 13=some (.i s.roles.length)∧lk ρ 14=some (.i i)) s.roles.length ?_ ?_
 ·refine⟨0,_,.full (.refl _),ad9,rfl,?_,?_,?_,?_,?_,?_⟩<;>simp only[go_sem,dD,List.take_zero,List.filter_nil,List.map_nil]
 ·rintro m ρ G ⟨i,y,hy,hi,rfl,r5,r2,r3,r12,r13,r14⟩
  have k1:=hy.1 _ _ g1;have k2:=hy.1 _ _ g2;simp only[go_sem,r13,r14];refine .intro (fun e=>?_) (fun e=>?_)
  ·have hlt:i<s.roles.length:=ad6 e
   have w1:=ad5 i ad9;simp only[go_sem,r12,r14];refine(h4.sub (hH.trans hy.1)).idx (e:=105) i rfl aew IN aed fun p hp1=>?_
   have hld:=hp1.all (U:=U) (ty:=105) aej (by rw[IN,ad0];rfl) aeN
   simp only[go_sem,hld,ad0,eV];intro i7 h7;have n71:i1≠i7:=fun e=>by rw[←e,k1]at h7;cases h7
   have n72:i2≠i7:=fun e=>by rw[←e,k2]at h7;cases h7
   simp only[go_sem,ak,n72,k2,r3];have hy7:=hy.sub (.aj h7 (k:=some (.obj [.s s.roles[i].subj,.s s.roles[i].role] 105)));have lr:=GN (s.roles.take i) o.subj;cases d1:(s.roles[i].subj==o.subj)
   ·have p1:s.roles[i].subj≠o.subj:=by simpa using d1
    simp only[go_sem,r14,w1];refine⟨_,?_,i+1,y,by rw[zG hlt (.inl p1)];exact hy7,ad9,rfl,?_,?_,?_,?_,?_,?_⟩
    ·omega
    all_goals simp only[go_sem,r5,r2,r3,r12,r13]
   ·have p1:s.roles[i].subj=o.subj:=by simpa using d1
    simp only[go_sem,r5,hy.len,adZ];cases d2:decide (((dD (s.roles.take i) o.subj).length:Int)<16)
    ·have p2:¬(dD (s.roles.take i) o.subj).length<16:=by have:=ad2 d2;omega
     simp only[go_sem,r14,w1];refine⟨_,?_,i+1,y,by rw[zG hlt (.inr p2)];exact hy7,ad9,rfl,?_,?_,?_,?_,?_,?_⟩
     ·omega
     all_goals simp only[go_sem,r5,r2,r3,r12,r13]
    ·have p2:(dD (s.roles.take i) o.subj).length<16:=by have:=ad1 d2;omega
     simp only[go_sem,r5];refine(sk _ _).pthen ?_;simp only[go_sem,aS,idV];refine hy7.app (zs:=[aS (idV s.roles[i].role)]) (by rw[CK];decide) aee (fun k hk=>(Rd.sl (fun z hz=>ag3) .full:Rd _ 3 _ _).src CK hk) (by rw[CK];exact bx (f:=aS) (fun _=>rfl) _) (by rw[CK];exact bx (f:=aS) (fun _=>rfl) [idV s.roles[i].role]) afo fun y' H' hy' kp=>?_
     simp only[go_sem,r14,w1];refine⟨_,?_,i+1,y',by rw[EN hlt p1 p2,List.map_append];exact hy',ad9,rfl,?_,?_,?_,?_,?_,?_⟩
     ·omega
     all_goals simp only[go_sem,r2,r3,r12,r13]
  ·have hge:i=s.roles.length:=by have:=ad2 e;omega
   subst hge;rw[List.take_length]at hy;simp only[go_sem];obtain⟨q5,rfl⟩:=hy.row;refine .quiet aec ?_;simp only[go_sem,k2,r3];refine⟨_,sk _ _,?_⟩;simp only[go_sem,aS,idV];refine⟨_,dV _ _ _ _ _,?_⟩;simp only[go_sem,r5];refine⟨_,dV _ _ _ _ _,?_⟩;simp only[go_sem,k2,r3];refine⟨_,uS _ hk _,?_⟩;simp only[go_sem];refine⟨_,sk _ _,?_⟩;simp only[go_sem,aS,idV];refine⟨_,dV _ _ _ _ _,?_⟩;simp only[go_sem,k2,r3];have hak:=fun(G:Heap)=>Fx (h:=G) (bw s.cases o.case) o.subj (yC hf o.case).1 (yC hf o.case).2
   simp only[ct,nL,gF,sO]at hak;have hakl:=C1 (bw s.cases o.case) o.subj;have hakf:=(yC hf o.case).2;have hr0:GRow [.agg [.i 1,.s [105,100],.sl [.agg [.i 5,.i 0,.s o.subj]] .full],.agg [.i 1,.s [114,111,108,101],.sl ((dD s.roles o.subj).map aS) q5],.agg [.i 2,.s [110,97,109,101],.sl [.agg [.i 5,.i 0,.s (iS o.kind)]] .full]] (cQ s o):=(GRow.one ⟨1,idT,[idV o.subj]⟩ .full).app ((GRow.one ⟨1,[114,111,108,101],dD s.roles o.subj⟩ q5).app (GRow.one ⟨2,[110,97,109,101],[idV (iS o.kind)]⟩ .full))
   by_cases pf:o.field= []
   ·have df:(o.field==([]:Txt))=true:=by simp[pf]
    simp only[go_sem,k2,r3,df]
    by_cases pt:o.to= []
    ·have dt:(o.to==([]:Txt))=true:=by simp[pt]
     simp only[go_sem,k1,r2,dt];refine(dV _ _ _ _ _).pthen ?_;simp only[go_sem];refine .accs hy.1 fun y1 G1 hy1 kp1=>?_
     have k1_1:=kp1 _ _ _ k1;have k2_1:=kp1 _ _ _ k2;have hr1:=hr0.app (GRow.one (⟨4,[110,111,119],[⟨4,s.tick,[]⟩]⟩:br) .full);simp only[go_sem,k1_1,k2_1,r2,r3];refine(hca _ (hH.trans hy1.1)).pthen ?_;simp only[go_sem,ct,nL,gF,sO];intro i20 h20;have n21:i1≠i20:=fun e=>by rw[←e,k1_1]at h20;cases h20
     have n22:i2≠i20:=fun e=>by rw[←e,k2_1]at h20;cases h20
     simp only[go_sem];obtain⟨q2,eq2⟩:=hy1.row;cases dth:bZ s.cases o.case
     ·simp only[go_sem]
      exact .mk (bJ (fL s o)) (show Weak y1 _ by rw[eq2,show fL s o=(cQ s o++ [(⟨4,[110,111,119],[⟨4,s.tick,[]⟩]⟩:br)]) by simp[fL,cQ,dth,pf,pt]];exact hr1.weak q2) ((hH.trans hy1.1).put (jP (hH.trans hy1.1) h20) _) ⟨rfl,rfl⟩
     ·simp only[go_sem,ak,n22,k2_1,r3]
      by_cases p6:o.kind=6
      ·have d6:(o.kind !=6)=false:=by simp[p6]
       simp only[go_sem,d6];exact .mk (bJ (fL s o)) (show Weak y1 _ by rw[eq2,show fL s o=(cQ s o++ [(⟨4,[110,111,119],[⟨4,s.tick,[]⟩]⟩:br)]) by simp[fL,cQ,dth,p6,pf,pt]];exact hr1.weak q2) ((hH.trans hy1.1).put (jP (hH.trans hy1.1) h20) _) ⟨rfl,rfl⟩
      ·have d6:(o.kind !=6)=true:=by simp[p6]
       simp only[go_sem,ak,n22,k2_1,r3,d6];refine(hak _).pthen ?_;simp only[go_sem,bJ];refine(hy1.sub (.aj h20)).app (zs:=(cG (bw s.cases o.case) o.subj).map lH) ags aee (fun k hk=>(eE lH 3 (fun _=>rfl) _ _).src cw hk) (by rw[cw];exact hr1.sized) afN ae2 fun yz Gz hyz kpz=>?_
       simp only[go_sem];obtain⟨qz,eqz⟩:=hyz.row;exact .mk (bJ (fL s o)) (show Weak yz _ by rw[eqz,show fL s o=(cQ s o++ [(⟨4,[110,111,119],[⟨4,s.tick,[]⟩]⟩:br)])++cG (bw s.cases o.case) o.subj by simp[fL,cQ,dth,p6,pf,pt]];exact(hr1.app (GRow.givs _)).weak qz) (hH.trans hyz.1) ⟨rfl,rfl⟩
    ·have dt:(o.to==([]:Txt))=false:=by simp[pt]
     simp only[go_sem,k2,r3,dt];refine(sk _ _).pthen ?_;simp only[go_sem,aS,idV];refine(dV _ _ _ _ _).pthen ?_;simp only[go_sem];refine .accs hy.1 fun y3 G3 hy3 kp3=>?_
     have k1_3:=kp3 _ _ _ k1;have k2_3:=kp3 _ _ _ k2;have hr3:=hr0.app (GRow.one (⟨2,[116,111],[idV o.to]⟩:br) .full);simp only[go_sem,k1_3,r2];refine(dV _ _ _ _ _).pthen ?_;simp only[go_sem];refine hy3.app (zs:=[Af (⟨4,[110,111,119],[⟨4,s.tick,[]⟩]⟩) .full]) ags aee (fun k hk=>(Rd.sl (fP _ _) .full:Rd _ 3 _ _).src cw hk) (by rw[cw];exact hr3.sized) ahB afa fun y4 G4 hy4 kp4=>?_
     have k1_4:=kp4 _ _ _ k1_3;have k2_4:=kp4 _ _ _ k2_3;have hr4:=hr3.app (GRow.one (⟨4,[110,111,119],[⟨4,s.tick,[]⟩]⟩:br) .full);simp only[go_sem,k1_4,k2_4,r2,r3];refine(hca _ (hH.trans hy4.1)).pthen ?_;simp only[go_sem,ct,nL,gF,sO];intro i50 h50;have n51:i1≠i50:=fun e=>by rw[←e,k1_4]at h50;cases h50
     have n52:i2≠i50:=fun e=>by rw[←e,k2_4]at h50;cases h50
     simp only[go_sem];obtain⟨q5,eq5⟩:=hy4.row;cases dth:bZ s.cases o.case
     ·simp only[go_sem]
      exact .mk (bJ (fL s o)) (show Weak y4 _ by rw[eq5,show fL s o=((cQ s o++ [(⟨2,[116,111],[idV o.to]⟩:br)])++ [(⟨4,[110,111,119],[⟨4,s.tick,[]⟩]⟩:br)]) by simp[fL,cQ,dth,pf,pt]];exact hr4.weak q5) ((hH.trans hy4.1).put (jP (hH.trans hy4.1) h50) _) ⟨rfl,rfl⟩
     ·simp only[go_sem,ak,n52,k2_4,r3]
      by_cases p6:o.kind=6
      ·have d6:(o.kind !=6)=false:=by simp[p6]
       simp only[go_sem,d6];exact .mk (bJ (fL s o)) (show Weak y4 _ by rw[eq5,show fL s o=((cQ s o++ [(⟨2,[116,111],[idV o.to]⟩:br)])++ [(⟨4,[110,111,119],[⟨4,s.tick,[]⟩]⟩:br)]) by simp[fL,cQ,dth,p6,pf,pt]];exact hr4.weak q5) ((hH.trans hy4.1).put (jP (hH.trans hy4.1) h50) _) ⟨rfl,rfl⟩
      ·have d6:(o.kind !=6)=true:=by simp[p6]
       simp only[go_sem,ak,n52,k2_4,r3,d6];refine(hak _).pthen ?_;simp only[go_sem,bJ];refine(hy4.sub (.aj h50)).app (zs:=(cG (bw s.cases o.case) o.subj).map lH) ags aee (fun k hk=>(eE lH 3 (fun _=>rfl) _ _).src cw hk) (by rw[cw];exact hr4.sized) afN ae2 fun yz Gz hyz kpz=>?_
       simp only[go_sem];obtain⟨qz,eqz⟩:=hyz.row;exact .mk (bJ (fL s o)) (show Weak yz _ by rw[eqz,show fL s o=((cQ s o++ [(⟨2,[116,111],[idV o.to]⟩:br)])++ [(⟨4,[110,111,119],[⟨4,s.tick,[]⟩]⟩:br)])++cG (bw s.cases o.case) o.subj by simp[fL,cQ,dth,p6,pf,pt]];exact(hr4.app (GRow.givs _)).weak qz) (hH.trans hyz.1) ⟨rfl,rfl⟩
   ·have df:(o.field==([]:Txt))=false:=by simp[pf]
    simp only[go_sem,k2,r3,df];refine(sk _ _).pthen ?_;simp only[go_sem,aS,idV];refine(dV _ _ _ _ _).pthen ?_;simp only[go_sem];refine .accs hy.1 fun y6 G6 hy6 kp6=>?_
    have k1_6:=kp6 _ _ _ k1;have k2_6:=kp6 _ _ _ k2;have hr6:=hr0.app (GRow.one (⟨2,[102,105,101,108,100],[idV o.field]⟩:br) .full);simp only[go_sem,k2_6,r3]
    by_cases pt:o.to= []
    ·have dt:(o.to==([]:Txt))=true:=by simp[pt]
     simp only[go_sem,k1_6,r2,dt];refine(dV _ _ _ _ _).pthen ?_;simp only[go_sem];refine hy6.app (zs:=[Af (⟨4,[110,111,119],[⟨4,s.tick,[]⟩]⟩) .full]) ags aee (fun k hk=>(Rd.sl (fP _ _) .full:Rd _ 3 _ _).src cw hk) (by rw[cw];exact hr6.sized) ahB afa fun y7 G7 hy7 kp7=>?_
     have k1_7:=kp7 _ _ _ k1_6;have k2_7:=kp7 _ _ _ k2_6;have hr7:=hr6.app (GRow.one (⟨4,[110,111,119],[⟨4,s.tick,[]⟩]⟩:br) .full);simp only[go_sem,k1_7,k2_7,r2,r3];refine(hca _ (hH.trans hy7.1)).pthen ?_;simp only[go_sem,ct,nL,gF,sO];intro i80 h80;have n81:i1≠i80:=fun e=>by rw[←e,k1_7]at h80;cases h80
     have n82:i2≠i80:=fun e=>by rw[←e,k2_7]at h80;cases h80
     simp only[go_sem];obtain⟨q8,eq8⟩:=hy7.row;cases dth:bZ s.cases o.case
     ·simp only[go_sem]
      exact .mk (bJ (fL s o)) (show Weak y7 _ by rw[eq8,show fL s o=((cQ s o++ [(⟨2,[102,105,101,108,100],[idV o.field]⟩:br)])++ [(⟨4,[110,111,119],[⟨4,s.tick,[]⟩]⟩:br)]) by simp[fL,cQ,dth,pf,pt]];exact hr7.weak q8) ((hH.trans hy7.1).put (jP (hH.trans hy7.1) h80) _) ⟨rfl,rfl⟩
     ·simp only[go_sem,ak,n82,k2_7,r3]
      by_cases p6:o.kind=6
      ·have d6:(o.kind !=6)=false:=by simp[p6]
       simp only[go_sem,d6];exact .mk (bJ (fL s o)) (show Weak y7 _ by rw[eq8,show fL s o=((cQ s o++ [(⟨2,[102,105,101,108,100],[idV o.field]⟩:br)])++ [(⟨4,[110,111,119],[⟨4,s.tick,[]⟩]⟩:br)]) by simp[fL,cQ,dth,p6,pf,pt]];exact hr7.weak q8) ((hH.trans hy7.1).put (jP (hH.trans hy7.1) h80) _) ⟨rfl,rfl⟩
      ·have d6:(o.kind !=6)=true:=by simp[p6]
       simp only[go_sem,ak,n82,k2_7,r3,d6];refine(hak _).pthen ?_;simp only[go_sem,bJ];refine(hy7.sub (.aj h80)).app (zs:=(cG (bw s.cases o.case) o.subj).map lH) ags aee (fun k hk=>(eE lH 3 (fun _=>rfl) _ _).src cw hk) (by rw[cw];exact hr7.sized) afN ae2 fun yz Gz hyz kpz=>?_
       simp only[go_sem];obtain⟨qz,eqz⟩:=hyz.row;exact .mk (bJ (fL s o)) (show Weak yz _ by rw[eqz,show fL s o=((cQ s o++ [(⟨2,[102,105,101,108,100],[idV o.field]⟩:br)])++ [(⟨4,[110,111,119],[⟨4,s.tick,[]⟩]⟩:br)])++cG (bw s.cases o.case) o.subj by simp[fL,cQ,dth,p6,pf,pt]];exact(hr7.app (GRow.givs _)).weak qz) (hH.trans hyz.1) ⟨rfl,rfl⟩
    ·have dt:(o.to==([]:Txt))=false:=by simp[pt]
     simp only[go_sem,k2_6,r3,dt];refine(sk _ _).pthen ?_;simp only[go_sem,aS,idV];refine(dV _ _ _ _ _).pthen ?_;simp only[go_sem];refine hy6.app (zs:=[Af (⟨2,[116,111],[idV o.to]⟩) .full]) ags aee (fun k hk=>(Rd.sl (fP _ _) .full:Rd _ 3 _ _).src cw hk) (by rw[cw];exact hr6.sized) ahB afa fun y9 G9 hy9 kp9=>?_
     have k1_9:=kp9 _ _ _ k1_6;have k2_9:=kp9 _ _ _ k2_6;have hr9:=hr6.app (GRow.one (⟨2,[116,111],[idV o.to]⟩:br) .full);simp only[go_sem,k1_9,r2];refine(dV _ _ _ _ _).pthen ?_;simp only[go_sem];refine hy9.app (zs:=[Af (⟨4,[110,111,119],[⟨4,s.tick,[]⟩]⟩) .full]) ags aee (fun k hk=>(Rd.sl (fP _ _) .full:Rd _ 3 _ _).src cw hk) (by rw[cw];exact hr9.sized) ahB afa fun y10 G10 hy10 kp10=>?_
     have k1_10:=kp10 _ _ _ k1_9;have k2_10:=kp10 _ _ _ k2_9;have hr10:=hr9.app (GRow.one (⟨4,[110,111,119],[⟨4,s.tick,[]⟩]⟩:br) .full);simp only[go_sem,k1_10,k2_10,r2,r3];refine(hca _ (hH.trans hy10.1)).pthen ?_;simp only[go_sem,ct,nL,gF,sO];intro i110 h110;have n111:i1≠i110:=fun e=>by rw[←e,k1_10]at h110;cases h110
     have n112:i2≠i110:=fun e=>by rw[←e,k2_10]at h110;cases h110
     simp only[go_sem];obtain⟨q11,eq11⟩:=hy10.row;cases dth:bZ s.cases o.case
     ·simp only[go_sem]
      exact .mk (bJ (fL s o)) (show Weak y10 _ by rw[eq11,show fL s o=(((cQ s o++ [(⟨2,[102,105,101,108,100],[idV o.field]⟩:br)])++ [(⟨2,[116,111],[idV o.to]⟩:br)])++ [(⟨4,[110,111,119],[⟨4,s.tick,[]⟩]⟩:br)]) by simp[fL,cQ,dth,pf,pt]];exact hr10.weak q11) ((hH.trans hy10.1).put (jP (hH.trans hy10.1) h110) _) ⟨rfl,rfl⟩
     ·simp only[go_sem,ak,n112,k2_10,r3]
      by_cases p6:o.kind=6
      ·have d6:(o.kind !=6)=false:=by simp[p6]
       simp only[go_sem,d6];exact .mk (bJ (fL s o)) (show Weak y10 _ by rw[eq11,show fL s o=(((cQ s o++ [(⟨2,[102,105,101,108,100],[idV o.field]⟩:br)])++ [(⟨2,[116,111],[idV o.to]⟩:br)])++ [(⟨4,[110,111,119],[⟨4,s.tick,[]⟩]⟩:br)]) by simp[fL,cQ,dth,p6,pf,pt]];exact hr10.weak q11) ((hH.trans hy10.1).put (jP (hH.trans hy10.1) h110) _) ⟨rfl,rfl⟩
      ·have d6:(o.kind !=6)=true:=by simp[p6]
       simp only[go_sem,ak,n112,k2_10,r3,d6];refine(hak _).pthen ?_;simp only[go_sem,bJ];refine(hy10.sub (.aj h110)).app (zs:=(cG (bw s.cases o.case) o.subj).map lH) ags aee (fun k hk=>(eE lH 3 (fun _=>rfl) _ _).src cw hk) (by rw[cw];exact hr10.sized) afN ae2 fun yz Gz hyz kpz=>?_
       simp only[go_sem];obtain⟨qz,eqz⟩:=hyz.row;exact .mk (bJ (fL s o)) (show Weak yz _ by rw[eqz,show fL s o=(((cQ s o++ [(⟨2,[102,105,101,108,100],[idV o.field]⟩:br)])++ [(⟨2,[116,111],[idV o.to]⟩:br)])++ [(⟨4,[110,111,119],[⟨4,s.tick,[]⟩]⟩:br)])++cG (bw s.cases o.case) o.subj by simp[fL,cQ,dth,p6,pf,pt]];exact(hr10.app (GRow.givs _)).weak qz) (hH.trans hyz.1) ⟨rfl,rfl⟩
end Go.Proofs.YtbbadggejjgihaaGreatDoor
namespace Go.Bf
open Go Go.Ab
def OY(a b:bP):Bool:=a.attr.cat==b.attr.cat && (a.attr.name==b.attr.name && (a.attr.must==b.attr.must && (a.op==b.op && (a.val.kind==b.val.kind && (a.val.n==b.val.n && a.val.s==b.val.s)))))
def St(a b:aR):Bool:=a.op==b.op && (a.val.kind==b.val.kind && (a.val.n==b.val.n && (a.val.s==b.val.s && (a.attr.cat==b.attr.cat && (a.attr.name==b.attr.name && a.attr.must==b.attr.must)))))
def Q0(a b:cD):Bool:=a.on==b.on && (a.kind==b.kind && a.arg==b.arg)
def eqL{α:Type}(f:α→α→Bool):List α→List α→Bool
 | [],[]=>true
 |x::a,y::b=>f x y && eqL f a b
 |_,_=>false
theorem any_succ{α:Type}{q:α→Bool}{l:List α}{i:Nat}(h:i<l.length):(l.take (i+1)).any q=((l.take i).any q||q l[i]):=by
 grind [List.take_succ_eq_append_getElem]
end Go.Bf
namespace Go.Bf
def X3:Txt:=[97,110,110]
end Go.Bf
namespace Go.Proofs.YtbbadggejjgihaaGreatDoor
open Go Go.Ab Go.Bf
def Tf(ev:Value):Heap:=vG [(3,qZ),(2,[ev])]
theorem BF{ev:Value}(hev:ev= .nilIface∨∃te pe,ev= .iface te pe):iQ (Tf ev):=⟨ev,hev,1,rfl⟩
end Go.Proofs.YtbbadggejjgihaaGreatDoor
namespace Go.Bf
open Go Go.Ab
def rV(m:Int)(b:Nat):Nat:=(if m.tmod (b+1)<0 then m.tmod (b+1)+(b+1)else m.tmod (b+1)).toNat
theorem Hr(m:Int)(b:Nat):rV m b≤b:=by
 have t1:=Int.tmod_lt_of_pos m (show(0:Int)<b+1 by omega)
 unfold rV;split<;>omega
end Go.Bf
namespace Go.Proofs.YtbbadggejjgihaaGreatDoor
open Go Go.Ab Go.Bf
theorem K7(m:Int)(b:Nat)(h:Heap)(hm' : -9223372036854775808≤m∧m≤9223372036854775807)(hb:b≤1099511627776):
  ai Tryz.prog 23 [.i m,.i 0,.i b] h fun r h' =>r= .i (rV m b)∧h' =h:=by
 have w0:IntKind.i64.wrap ((b:Int) - 0)=b:=IntWalk.i64_in _ ad9;have w1:IntKind.i64.wrap (b:Int)=b:=IntWalk.i64_in _ ad9;have w2:IntKind.i64.wrap ((b:Int)+1)=(b:Int)+1:=IntWalk.i64_in _ ad9;have t1:=Int.tmod_lt_of_pos m (show 0<(b:Int)+1 by omega)
 have t2:=Int.lt_tmod_of_pos m (show 0<(b:Int)+1 by omega)
 have hd:(rV m b:Int)=if m.tmod (b+1)<0 then m.tmod (b+1)+(b+1)else m.tmod (b+1):=by
  grind [rV]
 generalize hq:m.tmod ((b:Int)+1)=q at t1 t2 hd;have w3:IntKind.i64.wrap (q+b)=q+b:=IntWalk.i64_in _ ad9;have w4:IntKind.i64.wrap (q+b - 0)=q+b:=aea;have w5:IntKind.i64.wrap (q+b+1)=q+b+1:=IntWalk.i64_in _ ad9;refine ad8 Tryz.func23 24 [.tmp 6] fun hwf=>?_
 simp only[go_sem,w1,w2,hq,Int.sub_zero];refine⟨ad9,.intro (fun e=>?_) (fun e=>?_)⟩
 ·have e:=ad1 e
  rw[if_pos e]at hd;simp only[go_sem,w3,w5,Int.sub_zero];have w6:IntKind.i64.wrap (0+(q+b+1))=q+b+1:=aea;have w7:IntKind.i64.wrap (q+b+1)=q+b+1:=IntWalk.i64_in _ ad9;simp only[go_sem,w7,Int.zero_add];exact .same (.refl _) ⟨by grind [ax,Int.add_assoc],rfl⟩
 ·have e:=ad2 e
  rw[if_neg e]at hd;have w7:IntKind.i64.wrap q=q:=IntWalk.i64_in q ad9;have w6:IntKind.i64.wrap (0+q)=q:=aea;simp only[go_sem,w7,Int.zero_add];exact .same (.refl _) ⟨by rw[hd];rfl,rfl⟩
end Go.Proofs.YtbbadggejjgihaaGreatDoor
namespace Go.Bf
open Go Go.Ab
def ja(cat:Int)(name:Txt)(g:br):Bool:=g.cat==cat && g.name==name
def getD(l:List br)(cat:Int)(name:Txt):List bu:=match l.find? (ja cat name)with
 |some g=>g.bag
 |none=>[]
end Go.Bf
namespace Go.Proofs.YtbbadggejjgihaaGreatDoor
open Go Go.Ab Go.Bf
theorem Mm{α:Type}(y:AV)(xs:List AV)(ds:List α)(q:α→Bool)(g:FuncId)(cap:List AV)(h:Heap)(hb:Rd h 3 y xs)(hn:xs.length=ds.length)(hl:xs.length≤1000000000)(hx:∀x∈xs,bA x=true)
  (hp:∀i (h1:i<xs.length) (h2:i<ds.length),ai Tryz.prog g (xs[i]::cap) h fun r h' =>r= .b (q ds[i])∧h' =h):
  ai Tryz.prog 303 [y,.fn g cap] h fun r h' =>r= .i (ixD q ds)∧h' =h:=by
 refine ad8 Tryz.func303 19 [.tmp 4] fun hwf=>?_
 simp only[go_sem,hb.len];refine .intro (fun m ρ h' =>h' =h∧∃i:Nat,i≤xs.length∧m=xs.length - i∧(∀j (hj:j<i) (h2:j<ds.length),q ds[j]=false)∧lk ρ 0=some y∧lk ρ 1=some (.fn g cap)∧lk ρ 7=some (.i xs.length)∧lk ρ 8=some (.i i)) xs.length ?_ ?_
 ·refine⟨rfl,0,ad9,rfl,fun j hj=>ad9,?_,?_,?_,?_⟩<;>simp only[go_sem]
 ·rintro m ρ h' ⟨rfl,i,hi,rfl,hc,r0,r1,r7,r8⟩
  simp only[go_sem,r7,r8];refine .intro (fun e=>?_) (fun e=>?_)
  ·have hlt:i<xs.length:=ad6 e
   have hlt2:i<ds.length:=ad9;have w1:IntKind.i64.wrap ((i:Int)+1)=((i+1:Nat):Int):=aek;simp only[go_sem,r0,r1,r8];refine hb.idx (e:=199) i rfl hlt aeo aed fun p hp1=>?_
   have hld:=hp1.all (U:=U) (ty:=199) aed ae3 afY;simp only[go_sem,hld];refine(show ai Tryz.prog g (xs[i]::cap) _ _ from hp i hlt hlt2).pthen ?_
   cases d1:q ds[i]
   ·simp only[go_sem,r8,w1]
    refine⟨_,?_,rfl,i+1,ad9,rfl,fun j hj h2=>?_,?_,?_,?_,?_⟩
    ·omega
    ·grind
    all_goals simp only[go_sem,r0,r1,r7]
   ·simp only[go_sem]
    exact .same (.refl _) ⟨aeT,rfl⟩
  ·have hge:i=xs.length:=by grind
   simp only[go_sem];exact .same (.refl _) ⟨aeB,rfl⟩
theorem Km{h:Heap}(g:br){k1 k2:Nat}{cat:Int}{name:Txt}(h1:h k1=some (.obj [.i cat] 3))(h2:h k2=some (.obj [.s name] 9)):ai Tryz.prog 304 [lH g,.ptr k1 0,.ptr k2 0] h fun r h' =>r= .b (ja cat name g)∧h' =h:=by
 refine ad8 Tryz.func304 15 [.tmp 4] fun hwf=>?_
 simp only[go_sem,lH];intro i1 hi1;have n1:k1≠i1:=fun e=>aea
 have n2:k2≠i1:=fun e=>aea
 simp only[go_sem,ak,n1,h1];cases d1:(g.cat==cat)
 ·simp only[go_sem]
  exact .mk _ (.refl _) (.aj hi1) ⟨by simp only[ja,d1];rfl,rfl⟩
 ·simp only[go_sem,ak,n2,h2]
  exact .mk _ (.refl _) (.aj hi1) ⟨by simp only[ja,d1];rfl,rfl⟩
theorem Nd(gs:List br)(cat:Int)(name:Txt)(hl:gs.length≤1000000000)(h:Heap):ai Tryz.prog 281 [bJ gs,.i cat,.s name] h fun r h' =>r= .i (ixD (ja cat name) gs)∧h' =h:=by
 refine ad8 Tryz.func281 10 [.tmp 6] fun hwf=>?_
 simp only[go_sem,bJ];intro i1 h1;simp only[go_sem];intro i2 h2;have n2:=aB h2;have hs:∀a b,Ab.Sub h (upd (upd h i1 a) i2 b):=fun a b=>((Sub.refl h).put h1 a).put n2 b
 simp only[go_sem];refine(Mm _ _ gs (ja cat name) _ [.ptr i1 0,.ptr i2 0] _ (eE lH 3 (fun _=>rfl) _ gs) aeg aea (o6 (fun _=>rfl) _) fun i a b=>by
  rw[ad0];exact Km _ (by grind [ag,ah]) (ah ..)).pthen ?_
 simp only[go_sem];exact afL
theorem get_at{gs:List br}{cat:Int}{name:Txt}(h:gs.findIdx (ja cat name)<gs.length):getD gs cat name=gs[gs.findIdx (ja cat name)].bag:=by
 unfold getD;rw[show gs.find? (ja cat name)=some gs[gs.findIdx (ja cat name)]from List.find?_eq_some_iff_getElem.2 ⟨List.findIdx_getElem (w:=h),_,h,rfl,fun j hj=>aea⟩]
theorem Sx{gs:List br}{cat:Int}{name:Txt}(h:¬gs.findIdx (ja cat name)<gs.length):getD gs cat name= []:=by
 grind [getD,ja,List.findIdx_le_length,List.find?_eq_none,List.findIdx_eq_length]
end Go.Proofs.YtbbadggejjgihaaGreatDoor
namespace Go.Bf
open Go Go.Ab
def cT:Txt:=[99]
def stC(st:Txt)(log:List xV):aM:=⟨cT,X3,st,[],log⟩
def pV:List Txt:=[jR,xk,AT,hY]
abbrev lt(a b:Txt):Prop:=Op.bytesLess a b=true
theorem lt_irrefl:∀a:Txt,¬lt a a
 | []=>aed
 |a::x=>by
  have:=lt_irrefl x;simp only[lt,Op.bytesLess,Bool.or_eq_true,Bool.and_eq_true,decide_eq_true_eq,beq_self_eq_true,true_and,not_or];exact⟨UInt8.lt_irrefl a,this⟩
theorem lt_trans:∀ {a b c:Txt},lt a b→lt b c→lt a c
 |_,[],_,h,_=>by simp_all [Txt,lt,Op.bytesLess]
 | [],b::y,c,_,h=>by cases c<;>simp[lt,Op.bytesLess]at h⊢
 |a::x,b::y,[],_,h=>by simp[lt,Op.bytesLess]at h
 |a::x,b::y,c::z,h1,h2=>by
  simp only[lt,Op.bytesLess,Bool.or_eq_true,Bool.and_eq_true,decide_eq_true_eq,beq_iff_eq]at h1 h2⊢;rcases h1 with h1|⟨rfl,h1⟩
  ·grind
  ·rcases h2 with h2|⟨rfl,h2⟩
   ·grind
   ·exact .inr ⟨rfl,lt_trans h1 h2⟩
theorem Be:∀a b:Txt,lt a b∨a=b∨lt b a
 | [],[]=>aeg
 | [],b::y=> .inl rfl
 |a::x,[]=> .inr (.inr rfl)
 |a::x,b::y=>by
  simp only[lt,Op.bytesLess,Bool.or_eq_true,Bool.and_eq_true,decide_eq_true_eq,beq_iff_eq];rcases UInt8.lt_or_lt_of_ne (a:=a) (b:=b)with h
  by_cases e:a=b
  ·subst e
   rcases Be x y with h|rfl|h
   ·grind
   ·simp
   grind
  grind
def Asc(cs:List aM):Prop:=cs.Pairwise fun a b=>lt a.id b.id
theorem HM{c:aM}{cs:List aM}{id:Txt}(h:¬lt c.id id):findD (c::cs) id=0:=by
 simp_all [Op.bytesLess,false,findD,List.findIdx_cons,geB]
theorem HN{c:aM}{cs:List aM}{id:Txt}(h:lt c.id id):findD (c::cs) id=findD cs id+1:=by
 simp_all [Op.bytesLess,true,findD,List.findIdx_cons,geB]
theorem vJ:∀ {cs:List aM},Asc cs→∀id,bZ cs id=cs.any fun c=>c.id==id
 | [],_,id=>rfl
 |c::cs,h,id=>by
  obtain⟨h1,h2⟩:=List.pairwise_cons.1 h
  by_cases hl:lt c.id id
  ·have hne:(c.id==id)=false:=by
    grind [beq_eq_false_iff_ne,lt_irrefl]
   have e:bZ (c::cs) id=bZ cs id:=by
    grind [bZ,HN]
   rw[e,vJ h2 id,List.any_cons,hne,Bool.false_or]
  ·have e:bZ (c::cs) id=(c.id==id):=by
    grind [bZ,HM]
   rw[e,List.any_cons];cases hc:(c.id==id)
   ·have hlt:lt id c.id:=by
     rcases Be c.id id with h|h|h
     ·grind
     ·grind
     omega
    grind
   ·simp
theorem HA:∀ {cs:List aM},Asc cs→∀c:aM,(cs.any fun d=>d.id==c.id)=false→Asc (cs.take (findD cs c.id)++ [c]++cs.drop (findD cs c.id))
 | [],_,c,_=>by simp[Asc,findD]
 |d::cs,h,c,hn=>by
  obtain⟨h1,h2⟩:=List.pairwise_cons.1 h;simp only[List.any_cons,Bool.or_eq_false_iff]at hn
  by_cases hl:lt d.id c.id
  ·rw[HN hl]
   simp only[List.take_succ_cons,List.drop_succ_cons,List.cons_append];refine List.pairwise_cons.2 ⟨fun e he=>?_,HA h2 c hn.2⟩
   grind
  ·rw[HM hl]
   have hlt:lt c.id d.id:=by
    rcases Be d.id c.id with h|h|h
    ·grind
    ·grind
    omega
   refine List.pairwise_cons.2 ⟨fun e he=>?_,h⟩
   rcases List.mem_cons.1 he with rfl|he
   ·omega
   grind [lt_trans]
def Fl(fs:List cO):Prop:=fs.Pairwise fun a b=>lt a.name b.name
theorem BS(name:Txt)(v:bu):eN [] name v= [⟨name,v⟩]:=rfl
theorem z7{f:cO}{fs:List cO}{name:Txt}{v:bu}(h:lt f.name name):eN (f::fs) name v=f::eN fs name v:=by
 have hb:Op.bytesLess f.name name=true:=h;unfold eN;simp only[List.findIdx_cons,geB,hb,Bool.not_true,cond_false,List.getElem?_cons_succ];generalize hi:fs.findIdx (fun f=> !Op.bytesLess f.name name)=i
 cases e:fs[i]? with
 |none=>simp
 |some g=>
  by_cases hg:g.name=name
  ·simp[hg]
  ·simp[hg]
theorem zZ{f:cO}{fs:List cO}{name:Txt}{v:bu}(h:f.name=name):eN (f::fs) name v=⟨f.name,v⟩::fs:=by
 subst h;have hb:Op.bytesLess f.name f.name=false:=by
  grind [Op.bytesLess,lt_irrefl]
 unfold eN;simp[List.findIdx_cons,geB,hb]
theorem z6{f:cO}{fs:List cO}{name:Txt}{v:bu}(h:lt name f.name):eN (f::fs) name v=⟨name,v⟩::f::fs:=by
 have hb:Op.bytesLess f.name name=false:=by
  grind [Op.bytesLess,lt_irrefl,lt_trans]
 have hne:f.name≠name:=fun e=>by rw[e]at h;exact lt_irrefl _ h
 unfold eN;simp[List.findIdx_cons,geB,hb,hne]
theorem vP:∀ {fs:List cO} {name:Txt} {v:bu} {g:cO},g∈eN fs name v→g=⟨name,v⟩∨g∈fs
 | [],name,v,g,h=>by grind [BS,List.mem_singleton]
 |f::fs,name,v,g,h=>by
  rcases Be f.name name with hl|hl|hl
  ·rw[z7 hl]at h
   rcases List.mem_cons.1 h with rfl|h
   ·simp
   ·rcases vP h with h|h
    ·grind
    grind
  ·rw[zZ hl]at h
   grind
  ·rw[z6 hl]at h
   grind
theorem BQ:∀ {fs:List cO} {name:Txt} {v:bu},Fl fs→Fl (eN fs name v)
 | [],name,v,_=>by grind [BS,Fl]
 |f::fs,name,v,h=>by
  obtain⟨h1,h2⟩:=List.pairwise_cons.1 h;rcases Be f.name name with hl|hl|hl
  ·rw[z7 hl]
   refine List.pairwise_cons.2 ⟨fun g hg=>?_,BQ h2⟩
   rcases vP hg with rfl|hg
   ·omega
   grind
  ·rw[zZ hl]
   exact List.pairwise_cons.2 ⟨h1,h2⟩
  ·rw[z6 hl]
   refine List.pairwise_cons.2 ⟨fun g hg=>?_,h⟩
   rcases List.mem_cons.1 hg with rfl|hg
   ·omega
   grind [lt_trans]
theorem BR:∀ {fs:List cO} {name:Txt} {v:bu},Fl fs→(eN fs name v).length=if fs.any (fun f=>f.name==name)then fs.length else fs.length+1
 | [],name,v,_=>rfl
 |f::fs,name,v,h=>by
  obtain⟨h1,h2⟩:=List.pairwise_cons.1 h;rcases Be f.name name with hl|hl|hl
  ·have hne:(f.name==name)=false:=by grind [beq_eq_false_iff_ne,lt_irrefl]
   rw[z7 hl,List.length_cons,BR h2,List.any_cons,hne,Bool.false_or];split<;>simp
  ·grind [zZ]
  ·have hne:(f.name==name)=false:=by grind [beq_eq_false_iff_ne,lt_irrefl]
   have hno:(fs.any fun f=>f.name==name)=false:=List.any_eq_false.2 fun g hg he=>by
    have:=lt_trans hl (h1 g hg);rw[beq_iff_eq.1 he]at this;exact lt_irrefl _ this
   rw[z6 hl,List.any_cons,hne,hno];simp
theorem FT(f:cO)(fs:List cO)(n:Txt):dQ (f::fs) n=if f.name=n then f.val else dQ fs n:=by
 grind [dQ]
def mkC(who id:Txt):aM:=⟨id,who,jR,[],[⟨0,who,[110,101,119]⟩]⟩
def Yw(cs:List aM)(id:Txt):Bool:=cs.any fun c=>c.id==id
end Go.Bf
namespace Go.Ab
open Go
section
variable {α : Type}
def dget(l:List (List UInt8×α))(k:List UInt8):Option α:=(l.find? fun p=>p.1==k).map (·.2)
def dset(l:List (List UInt8×α))(k:List UInt8)(v:α):List (List UInt8×α):=if(dget l k).isSome then l.map (fun p=>if p.1==k then(p.1,v)else p)else l++ [(k,v)]
end
end Go.Ab
namespace Go.Bf
open Go Go.Ab Go.Proofs.YtbbadggejjgihaaGreatDoor
structure Own (cs:List aM) (own:List (Txt×Txt)):Prop where
 asc:Asc cs
 len:cs.length=own.length
 small:cs.length≤64
 mem:∀c∈cs,c=mkC c.owner c.id∧dget own c.id=some c.owner
 has:∀id,Yw cs id=(dget own id).isSome
 who:∀id w,dget own id=some w→w≠ []
 keys:∀p∈own,p.1.length≤3
theorem qD:∀ {cs:List aM},Asc cs→∀ {id:Txt},bZ cs id=true→bw cs id∈cs∧(bw cs id).id=id:=by
 unfold bw
 grind [bZ,List.getElem?_eq_getElem]
end Go.Bf
namespace Go.Proofs.YtbbadggejjgihaaGreatDoor
open Go Go.Ab Go.Bf
def oF(o:OpD):Prop:=i64 o.kind∧i64 o.val.kind∧i64 o.val.n∧i64 o.review
theorem inH{P:Program}{f:FuncId}{args:List AV}{h:Heap}{Q:AV→Heap→Prop}(hh:∀H2,H2=h→ai P f args H2 Q):ai P f args h Q:=hh h rfl
end Go.Proofs.YtbbadggejjgihaaGreatDoor
namespace Go.Bf
open Go Go.Ab Go.Proofs.YtbbadggejjgihaaGreatDoor
def Yx(v:Int):bu:=⟨2,v,[]⟩
structure Last (fs:List cO) (last:List (Txt×Int)):Prop where
 asc:Fl fs
 len:fs.length=last.length
 small:fs.length≤16
 kind:∀f∈fs,f.val.kind=2
 get:∀n,dQ fs n=((dget last n).map Yx).getD aq
 keys:∀p∈last,p.1.length=2
end Go.Bf
namespace Go.Bf
open Go Go.Ab
def Fine(n:Nat)(st:PS):Prop:=(st.bad=0∨st.bad=5∨st.bad=6)∧0≤st.place∧st.place≤n
def BT(n:Nat)(ts:List qj):Prop:=∀i,0≤(ts.getD i ⟨7,0,0,[]⟩).pos∧(ts.getD i ⟨7,0,0,[]⟩).pos≤n
theorem yE{n:Nat}{st:PS}{e p:Int}(h:Fine n st)(he:e=5∨e=6)(h0:0≤p)(h1:p≤n):Fine n (bH st e p):=by
 unfold bH;split
 ·exact⟨.inr he,h0,h1⟩
 omega
theorem Dy{n:Nat}{a b:PS}(h:Rch a b)(ht:BT n a.ts)(hf:Fine n a):Fine n b:=by
 induction h with
 |refl=>omega
 |wrong e p h1 he hp ih=>
  obtain⟨i,_,rfl⟩:=hp;rw[(rR h1).1];exact yE ih he (ht i).1 (ht i).2
 |next _ _ _ ih=>exact ih
theorem IA{a b:PS}(h:oe a b):b.ts=a.ts:=by
 induction h with
 |refl=>rfl
 |small _ h1 ih=>grind [rR,trans]
 |rule _ _ _ _ ih=>exact ih
theorem Jx{n:Nat}{a b:PS}(h:oe a b)(ht:BT n a.ts)(hf:Fine n a):Fine n b:=by
 induction h with
 |refl=>omega
 |small h1 h2 ih=>grind [Dy,IA]
 |rule _ _ _ _ ih=>exact ih
theorem yN{s:Txt}{ts:List qj}(h:pI s= .ok ts):BT s.length ts:=by
 obtain⟨pre,rfl,_,h3,_⟩:=Bb h;intro i
 grind
theorem Ma{s:Txt}{ts:List qj}(h:pI s= .ok ts):Fine s.length (qn s (gM 4 ⟨ts,0,0,0,0⟩)):=by
 have h0:Fine s.length ⟨ts,0,0,0,0⟩:=⟨.inl rfl,Int.le_refl _,aeg⟩;have hr:=CE 4 ⟨ts,0,0,0,0⟩;have h1:=Jx hr (yN h) h0;have ht:BT s.length (gM 4 ⟨ts,0,0,0,0⟩).2.ts:=by rw[IA hr];exact yN h
 have h2:Fine s.length (if(aK (gM 4 ⟨ts,0,0,0,0⟩).2).kind=7 then(gM 4 ⟨ts,0,0,0,0⟩).2 else bp (gM 4 ⟨ts,0,0,0,0⟩).2):=by
  grind [Dy,kV]
 unfold qn;generalize (if(aK (gM 4 ⟨ts,0,0,0,0⟩).2).kind=7 then(gM 4 ⟨ts,0,0,0,0⟩).2 else bp (gM 4 ⟨ts,0,0,0,0⟩).2)=st1 at h2⊢
 split
 ·exact yE h2 (.inl rfl) ad9 (Int.le_refl _)
 ·exact aih
theorem qY(s:Txt):(aQ s).2.1=0∧(aQ s).2.2=0∧gH (aQ s).1=0∨
  ((aQ s).2.1=5∨(aQ s).2.1=6)∧0≤(aQ s).2.2∧(aQ s).2.2≤s.length∧(aQ s).1=oX:=by
 unfold aQ;cases h:pI s with
 |bad e a=>
  have:=tW h;exact .inr ⟨this.1,this.2.1,this.2.2,rfl⟩
 |ok ts=>
  have hf:=Ma h;simp only[zn];split
  ·rename_i hb
   refine .inl ⟨rfl,rfl,?_⟩;simp only;unfold qn at hb;generalize (if(aK (gM 4 ⟨ts,0,0,0,0⟩).2).kind=7 then(gM 4 ⟨ts,0,0,0,0⟩).2 else bp (gM 4 ⟨ts,0,0,0,0⟩).2)=st1 at hb
   split at hb
   ·simp_all [bH,if_pos,absurd,Int]
   omega
  ·rename_i hb
   exact .inr ⟨hf.1.resolve_left hb,hf.2.1,hf.2.2,rfl⟩
end Go.Bf
namespace Go.Bf
open Go Go.Ab Go.Proofs.YtbbadggejjgihaaGreatDoor
theorem ry{p:bD}(h:gH p=0):mF 1 p:=by
 cases hw:kU ⟨[],0⟩ 1 p with
 |bad e=>
  have:=um 4 1 _ _ e rfl hw;rw[gH,hw]at h;exact(this h).elim
 |ok m=>grind [Iu]
theorem RZ{fs:List cO}(h:∀f∈fs,eqV f.val aq=false)(n:Txt):(fs.any fun f=>f.name==n)= !(eqV (dQ fs n) aq):=by
 induction fs with
 |nil=>rfl
 |cons f fs ih=>
  rw[FT,List.any_cons]
  grind
structure uK (c:aM):Prop where
 id:bn c.id=true
 owner:bn c.owner=true
 state:c.state∈pV
 asc:Fl c.fields
 nfields:c.fields.length≤16
 field:∀f∈c.fields,bn f.name=true∧bz f.val=true∧eqV f.val aq=false
 log1:1≤c.log.length
 log2:c.log.length≤256
 actor:∀x∈c.log,bn x.actor=true∧i64 x.tick
structure dI (k:Nat) (s:an):Prop where
 tick:0≤s.tick∧s.tick≤1099511627776
 asc:Asc s.cases
 ncases:s.cases.length≤64
 case:∀c∈s.cases,uK c
 nrev:s.reviews.length≤1000
 nnot:s.notices.length≤1000
 roles:s.roles.length≤64
 role:∀r∈s.roles,bn r.subj=true∧bn r.role=true
 pol:gH s.policy=0
 ver:0≤s.version∧s.version≤k
theorem dI.few{k:Nat}{s:an}(h:dI k s):Few s:=by
 have h1:=h.ncases;have h2:=h.nrev;have h3:=h.nnot;have h4:=h.roles;refine⟨ad9,fun c hc=>?_,fun c hc=>?_,ad9,ad9,ad9⟩
 ·have:=(h.case c hc).nfields;omega
 ·have:=(h.case c hc).log2;omega
theorem dI.mF{k:Nat}{s:an}(h:dI k s):mF 1 s.policy:=ry h.pol
theorem dI.Hf{k:Nat}{s:an}(h:dI k s):i64 s.tick:=by
 have:=h.tick;constructor<;>omega
theorem KI:dI 0 xx:=by
 refine⟨aed,.nil,aed,fun c h=>aeW,aed,aed,aed,fun r h=>aeW,aeo,aed⟩
theorem kQ{s:Txt}(h:jk s=true)(hn:s≠ []):bn s=true:=by
 simp_all [jk,Bool.or_eq_true,beq_iff_eq]
structure Rz (o:OpD):Prop where
 subj:bn o.subj=true
 kind:1≤o.kind∧o.kind≤8
 case:jk o.case=true
 field:jk o.field=true
 to:jk o.to=true
 val:eqV o.val aq=true∨bz o.val=true
 text:o.text.length≤4096
 ok:okD o=true
theorem tN{o:OpD}(h:cU o=true):Rz o:=by
 simp only[cU,Bool.and_eq_true,decide_eq_true_eq,Bool.or_eq_true,dU]at h;obtain⟨⟨⟨⟨⟨⟨⟨h1,h2⟩,h3⟩,h4⟩,h5⟩,h6⟩,h7⟩,⟨⟨h8,h9⟩,h10⟩,h11⟩:=h;exact⟨h1,⟨h8,h9⟩,h4,h5,h6,h7,h3,h10⟩
theorem yG{a b:Txt}(h:mU a b=true):b∈pV:=by
 unfold mU at h;simp only[pV,List.mem_cons,List.not_mem_nil,or_false]
 grind
theorem mem_modify{α:Type}{l:List α}{i:Nat}{f:α→α}{x:α}(h:x∈l.modify i f):x∈l∨∃hi:i<l.length,x=f l[i]:=by
 obtain⟨j,hj,rfl⟩:=List.mem_iff_getElem.1 h
 grind
theorem kS{α β:Type}{l:List α}{i:Nat}{f:α→α}{g:α→β}(h:∀x,g (f x)=g x):(l.modify i f).map g=l.map g:=by
 refine List.ext_getElem aeg fun j h1 h2=>?_
 grind
theorem B5{cs cs' :List aM}(h:cs'.map (·.id)=cs.map (·.id))(ha:Asc cs):Asc cs' :=by
 unfold Asc at*;have h1:(cs.map (·.id)).Pairwise lt:=aea
 rw[←h,List.pairwise_map]at h1;exact h1
theorem Py{cs:List aM}{i:Nat}{c d:aM}(h:d∈cs.take i++ [c]++cs.drop i):d=c∨d∈cs:=by
 grind
theorem NN{k:Nat}{s:an}{o:OpD}(hs:dI k s)(hr:bI s o=0):dI (k+1) (doD aQ s o):=by
 have hf:cU o=true:=by
  unfold bI at hr
  grind
 have F:=tN hf;have vk:0≤s.version∧s.version≤((k+1:Nat):Int):=⟨hs.ver.1,by have:=hs.ver.2;omega⟩
 unfold bI at hr;rw[hf]at hr;simp only[Bool.true_eq_false,if_false]at hr;have hok:=F.ok;unfold okD at hok;have t64:=hs.Hf;unfold doD
 by_cases k1:o.kind=1
 ·simp only[k1,if_true]at hr hok⊢
  have hno:bZ s.cases o.case=false:=by
   grind
  rw[hno]at hr;simp only[Bool.false_eq_true,if_false]at hr;have hlt:¬64≤s.cases.length:=fun h=>ah1
  have hc:bn o.case=true:=kQ F.case aea;rw[vJ hs.asc]at hno;refine {hs with asc:= ?_,ncases:= ?_,case:= ?_,ver:=vk}
  ·exact HA hs.asc (jD s ⟨o.case,o.subj,jR,[],[]⟩ o.subj [110,101,119]) hno
  ·grind
  ·intro c h
   rcases Py h with rfl|h
   ·exact⟨hc,F.subj,by simp[jD,pV],.nil,aij,fun f h=>aeW,aij,aij,fun x h=>by
     simp only[jD,List.nil_append,List.mem_singleton]at h;subst h;exact⟨F.subj,t64⟩⟩
   ·exact hs.case c h
 ·simp only[k1,if_false]at hr hok⊢
  by_cases k3:o.kind=3
  ·have hk:2≤o.kind∧o.kind≤4:=by omega
   simp only[hk,and_self,if_true]at hr;simp only[k3,if_true];have e2:¬(o.kind=2∨o.kind=6):=ad9;simp only[k3,if_true,show¬((3:Int)=2∨(3:Int)=6) by decide,if_false,Bool.and_eq_true,Bool.not_eq_true']at hok
   have hth:bZ s.cases o.case=true:=by
    unfold bT at hr
    grind
   unfold bT at hr;rw[hth]at hr;simp only[Bool.true_eq_false,if_false,k3,true_and]at hr;obtain⟨hm,hid⟩:=qD hs.asc hth;have hlt:=jS hth;have hce:bw s.cases o.case=s.cases[findD s.cases o.case]:=by
    simp_all [bw,if_pos]
   rw[hce]at hr hm;generalize hcc:s.cases[findD s.cases o.case]=c at hr hm;have hc:=hs.case c hm;have h16:¬(c.fields.length≥16∧eqV (dQ c.fields o.field) aq=true):=fun h=>by simp[h.1,h.2]at hr
   rw[if_neg h16]at hr;have hlg:¬c.log.length≥256:=fun h=>ah1
   have hnf:bn o.field=true:=kQ F.field aea;have hvz:eqV o.val aq=false:=hok.2;have hv:bz o.val=true:=F.val.resolve_left aea;refine {hs with asc:= ?_,ncases:= ?_,case:= ?_,ver:=vk}
   ·exact B5 (kS fun x=>rfl) hs.asc
   ·simpa using hs.ncases
   ·intro d hd
    rcases mem_modify hd with hd|⟨hi,rfl⟩
    ·exact hs.case d hd
    ·rw[hcc]
     have hany:=RZ (fun f hf=>(hc.field f hf).2.2) o.field
     have hlen:=BR (v:=o.val) (name:=o.field) hc.asc;refine⟨hc.id,hc.owner,hc.state,BQ hc.asc,?_,?_,aij,?_,?_⟩
     ·simp only[jD]
      rw[hlen,hany];have:=hc.nfields;cases he:eqV (dQ c.fields o.field) aq
      ·simp;omega
      ·rw[he]at h16;simp at h16⊢;omega
     ·intro f hf
      rcases vP hf with rfl|hf
      ·grind
      ·exact hc.field f hf
     ·grind [jD,ad3,List.length_singleton]
     ·intro x hx
      exact ajr
  ·simp only[k3,if_false]at hok⊢
   by_cases k4:o.kind=4
   ·have hk:2≤o.kind∧o.kind≤4:=by omega
    simp only[hk,and_self,if_true]at hr;simp only[k4,if_true];have hth:bZ s.cases o.case=true:=by
     unfold bT at hr
     grind
    unfold bT at hr;rw[hth]at hr;simp only[Bool.true_eq_false,if_false,k4]at hr;obtain⟨hm,hid⟩:=qD hs.asc hth;have hlt:=jS hth;have hce:bw s.cases o.case=s.cases[findD s.cases o.case]:=by
     simp_all [bw,if_pos]
    rw[hce]at hr hm;generalize hcc:s.cases[findD s.cases o.case]=c at hr hm;have hc:=hs.case c hm;simp only[show¬((4:Int)=3) by decide,false_and,if_false,show((4:Int)≠2) by decide,ne_eq,not_false_eq_true,true_and,false_or]at hr
    have hlg:¬c.log.length≥256:=fun h=>ah1
    rw[if_neg hlg]at hr;have hfo:mU c.state o.to=true:=by
     grind
    refine {hs with asc:= ?_,ncases:= ?_,case:= ?_,ver:=vk}
    ·exact B5 (kS fun x=>rfl) hs.asc
    ·simpa using hs.ncases
    ·intro d hd
     rcases mem_modify hd with hd|⟨hi,rfl⟩
     ·exact hs.case d hd
     ·rw[hcc]
      refine⟨hc.id,hc.owner,yG hfo,hc.asc,hc.nfields,hc.field,aij,?_,?_⟩
      ·grind [jD,ad3,List.length_singleton]
      ·intro x hx
       exact ajr
   ·simp only[k4,if_false]at hok⊢
    by_cases k5:o.kind=5
    ·simp only[k5,if_true]
     refine {hs with nrev:= ?_,ver:=vk}
     simpa using hs.nrev
    ·simp only[k5,if_false]at hok⊢
     by_cases k6:o.kind=6
     ·have hk:¬(2≤o.kind∧o.kind≤4):=by omega
      simp only[k6,if_true]at hr;simp only[k6,if_true];simp only[k6,or_true,if_true,Bool.and_eq_true]at hok;have hc:bn o.case=true:=kQ F.case aea;have hfd:bn o.field=true:=kQ F.field aea;cases hh:yK s.roles ⟨o.case,o.field⟩with
      |true=>simp only[if_true];exact {hs with ver:=vk}
      |false=>
       rw[hh]at hr;have hlt:¬s.roles.length≥64:=fun h=>ah1
       simp only[Bool.false_eq_true,if_false];refine {hs with roles:= ?_,role:= ?_,ver:=vk}
       ·grind
       ·intro r h
        rcases List.mem_append.1 h with h|h
        ·exact hs.role r h
        grind
     ·simp only[k6,if_false]
      by_cases k7:o.kind=7
      ·simp only[k7,if_true]
       by_cases hp:(aQ o.text).2.1=0
       ·simp only[hp,if_true]
        have hr0:gH (aQ o.text).1=0:=by
         grind [qY,absurd]
        refine {hs with pol:=hr0,ver:= ?_}
        have:=hs.ver;constructor
        ·grind
        grind
       ·simp only[hp,if_false]
        exact {hs with ver:=vk}
      ·simp only[k7,if_false]
       by_cases k8:o.kind=8
       ·simp only[k8,if_true]
        have hk:¬(2≤o.kind∧o.kind≤4):=ad9;simp only[k8,if_true]at hr;have hlt:¬s.tick>1099511627776 - o.review:=fun h=>ah1
        simp only[k8,show¬((8:Int)=2∨(8:Int)=6) by decide,if_false,if_true,Bool.and_eq_true,decide_eq_true_eq]at hok
        refine {hs with tick:= ?_,ver:=vk}
        have:=hs.tick;constructor
        ·grind
        grind
       ·simp only[k8,if_false]
        exact {hs with ver:=vk}
theorem pW{k:Nat}{s:an}(o:OpD)(hs:dI k s):dI (k+1) (cS aQ s o):=by
 unfold cS
 by_cases h:bI s o=0
 ·simp_all [if_pos,NN]
 ·rw[if_neg h]
  exact {hs with ver:=⟨hs.ver.1,by have:=hs.ver.2;omega⟩}
theorem eC.eq{xs:List AV}{sz:Nat}(j:Nat)(hj:j<xs.length)(hz:xs[j].cells.length=sz)(k:AV→Prop):eC xs (j:Int) sz k=k (.pe xs[j] 0):=propext ⟨fun h=>by
 obtain⟨_,b,hb,_,hk⟩:=h;have:xs[j]? =some xs[j]:=aeg;rw[show((j:Int).toNat)=j by simp,this]at hb
 cases hb;exact hk,fun h=>eC.at j hj hz h⟩
def AF(l:List bu):Prop:=l.length≤16∧∀v∈l,bz v=true∧∀w∈l.head?,v.kind=w.kind
structure QB (gs:List br):Prop where
 len:gs.length≤64
 each:∀g∈gs,1≤g.cat∧g.cat≤4∧bn g.name=true∧AF g.bag
 dist:gs.Pairwise fun a b=>ja b.cat b.name a=false
def xu(g:br):Int×Txt:=(g.cat,g.name)
theorem LX(gs:List br):(gs.Pairwise fun a b=>ja b.cat b.name a=false)↔(gs.map xu).Nodup:=by
 simp[List.Nodup,List.pairwise_map,br,ja,false,xu]
theorem jA{v:bu}(h:bz v=true):AF [v]:=⟨aeg,fun w hw=>aea⟩
theorem pH{s:Txt}(h:bn s=true):bz (idV s)=true:=by grind [bz,idV]
theorem I4{l:List ij}(h:∀r∈l,bn r.role=true)(s:Txt):AF (dD l s):=by
 have hv:∀v∈dD l s,bz v=true∧v.kind=5:=fun v hv=>by
  have:=List.mem_of_mem_take hv;obtain⟨r,hr,rfl⟩:=List.mem_map.1 this;exact⟨pH aea,rfl⟩
 refine⟨by grind [dD,List.length_take],fun v hm=>⟨(hv v hm).1,fun w hw=>?_⟩⟩
 grind
theorem LN{c:UInt8}{i j:Nat}(h:tC c j=true)(hi:i≠0):tC c i=true:=by
 simp only[tC,Bool.or_eq_true,Bool.and_eq_true,decide_eq_true_eq]at h⊢
 grind
theorem FU{n:Txt}(h:bn n=true)(hl:n.length≤14):bn ([102,95]++n)=true:=by
 simp only[bn,Bool.and_eq_true,decide_eq_true_eq]at h⊢;obtain⟨⟨h1,h2⟩,h3⟩:=h;refine⟨⟨?_,aeg⟩,aea⟩;unfold vX at h1⊢;rw[List.all_eq_true]at h1⊢
 rintro⟨c,i⟩ hp
 rw[List.mk_mem_zipIdx_iff_getElem?]at hp
 match i,hp with
 |0,hp=>cases hp;rfl
 |1,hp=>cases hp;rfl
 |i+2,hp=>
  exact LN (h1 (c,i) (List.mk_mem_zipIdx_iff_getElem?.2 hp)) ad9
theorem GZ{s:Txt}(h:s∈pV):bn s=true:=by
 simp only[pV,List.mem_cons,List.not_mem_nil,or_false]at h;rcases h with rfl|rfl|rfl|rfl<;>kernel_rfl
theorem CW(k:Int)(h:1≤k∧k≤8):bn (iS k)=true:=by
 have:(List.range 9).all (fun n=>bn (iS n))=true:=aeo
 have h2:=List.all_eq_true.1 this k.toNat aea
 rwa [show((k.toNat:Nat):Int)=k by omega]at h2
theorem NU(l:List xV)(s:Txt):bz (uC l s)=true:=by
 unfold uC;cases l.any fun x=>x.actor==s<;>rfl
theorem I9{c:aM}(hc:uK c)(s:Txt):∀g∈cG c s,g.cat=3∧bn g.name=true∧AF g.bag:=by
 intro g hg;simp only[cG,List.mem_append,List.mem_cons,List.not_mem_nil,or_false]at hg;rcases hg with((rfl|rfl|rfl|rfl|rfl)|hg)|hg
 ·exact⟨rfl,aeo,jA (pH hc.id)⟩
 ·exact⟨rfl,aeo,jA (pH hc.owner)⟩
 ·exact⟨rfl,aeo,jA (pH (GZ hc.state))⟩
 ·exact⟨rfl,aeo,jA aeo⟩
 ·exact⟨rfl,aeo,jA (NU _ _)⟩
 ·cases hl:c.log.getLast? with
  |none=>grind
  |some x=>
   rw[hl]at hg;rw[List.mem_singleton.1 hg];exact⟨rfl,aeo,jA (pH (hc.actor x (List.mem_of_getLast? hl)).1)⟩
 ·obtain⟨f,hf,rfl⟩:=List.mem_map.1 hg
  obtain⟨hf1,hf2⟩:=List.mem_filter.1 hf;have hf2:f.name.length≤14:=aea;obtain⟨h1,h2,_⟩:=hc.field f hf1;exact⟨rfl,FU h1 hf2,jA h2⟩
theorem I8{c:aM}(hc:uK c)(s:Txt):((cG c s).map xu).Nodup:=by
 have hfn:(((c.fields.filter fun f=>decide (f.name.length≤14)).map fun f=>(⟨3,[102,95]++f.name,[f.val]⟩:br)).map xu).Nodup:=by
  rw[List.map_map,List.Nodup,List.pairwise_map];refine((List.Pairwise.filter _ hc.asc).imp fun {a b} hab he=>?_)
  simp_all [Function.comp,xu,Prod.mk.injEq,true_and,List.append_cancel_left_eq,lt_irrefl]
 have hff:∀x∈((c.fields.filter fun f=>decide (f.name.length≤14)).map fun f=>(⟨3,[102,95]++f.name,[f.val]⟩:br)).map xu,∃t,x=(3,102::t):=by
  intro x hx;obtain⟨g,hg,rfl⟩:=List.mem_map.1 hx;obtain⟨f,hf,rfl⟩:=List.mem_map.1 hg;exact⟨_,rfl⟩
 unfold cG;rw[List.map_append,List.nodup_append];refine⟨?_,hfn,?_⟩
 ·cases c.log.getLast? with
  |none=>simp[xu,idT]
  |some x=>simp[xu,idT]
 ·intro a ha b hb
  obtain⟨t,rfl⟩:=hff b hb;intro e;cases hl:c.log.getLast? with
  |none=>
   simp_all [xu,idT]
  |some x=>
   simp_all [xu,idT]
theorem I3{k:Nat}{s:an}{o:OpD}(hs:dI k s)(hf:cU o=true):QB (fL s o):=by
 have F:=tN hf;have hcs:∀g∈(if bZ s.cases o.case=true∧o.kind≠6 then cG (bw s.cases o.case) o.subj else []),g.cat=3∧bn g.name=true∧AF g.bag:=by
  intro g hg;split at hg
  ·rename_i ht
   exact I9 (hs.case _ (qD hs.asc ht.1).1) _ g hg
  ·cases hg
 have hcd:((if bZ s.cases o.case=true∧o.kind≠6 then cG (bw s.cases o.case) o.subj else []).map xu).Nodup:=by
  split
  ·rename_i ht
   exact I8 (hs.case _ (qD hs.asc ht.1).1) _
  ·exact .nil
 have hcl:(if bZ s.cases o.case=true∧o.kind≠6 then cG (bw s.cases o.case) o.subj else []).length≤22:=by
  split
  ·rename_i ht
   have hc:=hs.case _ (qD hs.asc ht.1).1;have h16:=hc.nfields;have:((bw s.cases o.case).fields.filter fun f=>decide (f.name.length≤14)).length≤(bw s.cases o.case).fields.length:=List.length_filter_le _ _
   simp only[cG,ad3,adZ,List.length_cons,List.length_nil];cases (bw s.cases o.case).log.getLast? <;>simp<;>omega
  ·simp
 unfold fL;generalize (if bZ s.cases o.case=true∧o.kind≠6 then cG (bw s.cases o.case) o.subj else [])=C at hcs hcd hcl⊢
 have e1:(if o.field= []then []else [(⟨2,[102,105,101,108,100],[idV o.field]⟩:br)])=if o.field= []then []else [(⟨2,[102,105,101,108,100],[idV o.field]⟩:br)]:=rfl
 have hro:AF (dD s.roles o.subj):=I4 (fun r hr=>(hs.role r hr).2) _
 have htk:bz ⟨4,s.tick,[]⟩=true:=by
  have:=hs.tick;simp[bz,this]
 have hac:=pH (CW o.kind F.kind);have hsu:=pH F.subj;refine⟨?_,?_,?_⟩
 ·by_cases p1:o.field= []<;>by_cases p2:o.to= []<;>simp[p1,p2]<;>omega
 ·intro g hg
  simp only[List.mem_append,List.mem_cons,List.not_mem_nil,or_false]at hg;rcases hg with((((rfl|rfl|rfl)|hg)|hg)|rfl)|hg
  ·exact⟨aeg,aeg,aec,jA hsu⟩
  ·exact⟨aeg,aeg,aec,hro⟩
  ·exact⟨aeg,aeg,aec,jA hac⟩
  ·split at hg
   ·cases hg
   ·rename_i hne
    rw[List.mem_singleton.1 hg];exact⟨aeg,aeg,aec,jA (pH (kQ F.field hne))⟩
  ·split at hg
   ·cases hg
   ·rename_i hne
    rw[List.mem_singleton.1 hg];exact⟨aeg,aeg,aec,jA (pH (kQ F.to hne))⟩
  ·exact⟨aeg,aeg,aec,jA htk⟩
  ·obtain⟨h1,h2,h3⟩:=hcs g hg
   exact⟨ad9,ad9,h2,h3⟩
 ·rw[LX,List.map_append,List.nodup_append]
  refine⟨?_,hcd,?_⟩
  ·by_cases p1:o.field= []<;>by_cases p2:o.to= []<;>simp[p1,p2,xu,idT]
  ·intro a ha b hb e
   subst e;obtain⟨g,hg,rfl⟩:=List.mem_map.1 hb;have h3:=(hcs g hg).1;have hne:∀x∈([⟨1,idT,[idV o.subj]⟩,⟨1,[114,111,108,101],dD s.roles o.subj⟩,⟨2,[110,97,109,101],[idV (iS o.kind)]⟩]++(if o.field= []then []else [⟨2,[102,105,101,108,100],[idV o.field]⟩])++(if o.to= []then []else [⟨2,[116,111],[idV o.to]⟩])++ [⟨4,[110,111,119],[⟨4,s.tick,[]⟩]⟩]:List br),x.cat≠3:=by
    intro x hx;simp only[List.mem_append,List.mem_cons,List.not_mem_nil,or_false]at hx;rcases hx with(((rfl|rfl|rfl)|hx)|hx)|rfl
    ·simp
    ·simp
    ·simp
    ·split at hx
     ·cases hx
     ·rw[List.mem_singleton.1 hx];simp
    ·split at hx
     ·cases hx
     ·rw[List.mem_singleton.1 hx];simp
    ·simp
   obtain⟨x,hx,he⟩:=List.mem_map.1 ha;have:x.cat=g.cat:=congrArg Prod.fst he;exact hne x hx (by rw[this,h3])
def sL:an→List AV
 |⟨tick,cs,rv,nt,ro,.mk pid set alg tgt rules kids obls,ver⟩=>[.i tick,gm cs,kN rv,lO nt,eJ ro,.s pid,.b set,.i alg,aV tgt,.sl (rules.map aC) .no,.sl (fK kids) .no,ay obls,.i ver]
theorem vF(s:an):cI s= .agg (sL s):=by
 obtain⟨tick,cs,rv,nt,ro,⟨pid,set,alg,tgt,rules,kids,obls⟩,ver⟩:=s;rfl
structure Stays (cs cs' :List aM) (id:Txt):Prop where
 len:cs'.length≤cs.length+1
 ids:∀c∈cs,∃d∈cs',d.id=c.id
 rest:∀c∈cs,c.id≠id→c∈cs'
abbrev aT:=Nat×Nat
def naM:aT:=(0,0)
def aW:aT:=(2,0)
def cH:aT:=(0,2)
def wF:aT:=(1,0)
def wE:aT:=(0,1)
def mW:aT:=(1,1)
def vm:List aT:=[naM,aW,cH,wF,wE,mW]
abbrev jW:=aT×List cD
def gT(m:aT):aT:=if m=aW then wF else if m=cH then wE else m
def oO(a b:aT):aT:=(max a.1 b.1,max a.2 b.2)
def E5(m:aT):aT:=(m.2,m.1)
def qW(j:aT):aT:=
 if j.2=2 then cH else if j.2=1∧1≤j.1 then mW else if j.2=1 then wE else if j.1=2 then aW else if j.1=1 then wF else naM
def xJ(l:List aT):aT:=l.foldl oO naM
def firstM(l:List aT):aT:=(l.find? fun m=>decide (m≠naM)).getD naM
def zO(m:aT):Bool:=decide (m=naM∨m=aW∨m=cH)
def oT:List aT→aT→aT
 | [],j=>j
 |m::r,j=>if zO m=false then mW else oT r (if j=naM then m else if m≠naM then mW else j)
def ia(alg:Int)(l:List aT):aT:=
 if alg=1 then qW (xJ l)
 else if alg=2 then E5 (qW (E5 (xJ l)))
 else if alg=3 then firstM l
 else if alg=4 then oT l naM
 else if alg=5 then(if aW∈l then aW else cH)
 else if alg=6 then(if cH∈l then cH else aW)
 else naM
def yf(gs:List br)(a:qs):List bu:=getD gs a.cat a.name
def nQ(a b:bu):Option Bool:=
 if bz a=false∨bz b=false∨a.kind≠b.kind∨a.kind=1 then none
 else if a.kind=3∨a.kind=5 then some (Op.bytesLess a.s b.s)else some (decide (a.n<b.n))
def cW(m:bP)(v:bu):Option Bool:=
 if m.op=1 then(if v.kind=m.val.kind then some (eqV v m.val)else none)
 else if m.op=2 then nQ v m.val else nQ m.val v
def j9(gs:List br)(m:bP):Nat:=
 if yf gs m.attr= []∧m.attr.must=true then 1
 else if(yf gs m.attr).any fun v=>cW m v==some true then 2
 else if(yf gs m.attr).any fun v=>cW m v==none then 1 else 0
def CY(gs:List br)(l:List bP):Nat:=l.foldl (fun a m=>min a (j9 gs m)) 2
def Ad(gs:List br)(l:List (List bP)):Nat:=l.foldl (fun a x=>max a (CY gs x)) 0
def nc(gs:List br)(t:gj):Nat:=t.foldl (fun a x=>min a (Ad gs x)) 2
structure jM where
 bag:List bu
 v:bu
 e:Int
def dM(b:Bool):bu:=⟨1,if b then 1 else 0,[]⟩
def jl(b:Bool):jM:=⟨[],dM b,0⟩
def isI(x:jM)(n:Int):Bool:=x.e==0 && eqV x.v ⟨1,n,[]⟩
abbrev w64(n:Int):Int:=IntKind.i64.wrap n
def Ln(a b:Int):Bool:=decide (0<b) && decide (w64 (9223372036854775807 - b)<a)||decide (b<0) && decide (a<w64 (-9223372036854775808 - b))
def NO(a b:Int):Bool:=decide (0<b) && decide (a<w64 (-9223372036854775808+b))||decide (b<0) && decide (w64 (9223372036854775807+b)<a)
def Kb(a b:Int):Bool:=a== -1 && b== -9223372036854775808||b== -1 && a== -9223372036854775808||a !=0 && w64 ((w64 (a*b)).tdiv a) !=b
def og(e:Int):bu×Int:=(aq,e)
def Am(o:Bool)(n:Int):bu×Int:=if o then og 3 else(⟨2,w64 n,[]⟩,0)
def gZ(op:Int)(l:List bu):bu×Int:=
 if¬(6≤op∧op≤13)∨l.length≠(if op=11 then 1 else 2)∨(l.all bz)=false then og 1
 else
  let a:=l.getD 0 aq;let b:=l.getD 1 aq
  if op=6 then(if a.kind=b.kind then(dM (eqV a b),0)else og 2)
  else if op=7 then(match nQ a b with
   |some x=>(dM x,0)
   |none=>og 2)
  else if op=8∨op=9∨op=10 then
   (if l.all fun v=>v.kind==2 then(if op=8 then Am (Ln a.n b.n) (a.n+b.n)else if op=9 then Am (NO a.n b.n) (a.n - b.n)else Am (Kb a.n b.n) (a.n*b.n))else og 2)
  else if(l.all fun v=>v.kind==1)=false then og 2
  else if op=11 then(dM (a.n==0),0)
  else if op=12 then(dM (a.n==1 && b.n==1),0)
  else(dM (a.n==1||b.n==1),0)
def opsOf(op:Int):Nat:=if op=1∨op=2 then 0 else if op=3∨op=4∨op=11 then 1 else 2
def AD(r:bu×Int):jM:=⟨[],r.1,r.2⟩
def lN(gs:List br)(n:aR)(l:List jM):jM:=
 if n.op=1 then⟨[],n.val,0⟩
 else if n.op=2 then(if yf gs n.attr= []∧n.attr.must=true then⟨[],aq,4⟩else⟨yf gs n.attr,aq,0⟩)
 else if(n.op=12∨n.op=13)∧(l.any fun x=>isI x (n.op - 12))=true then jl (n.op==13)
 else match l.find? fun x=>x.e !=0 with
  |some x=>⟨[],aq,x.e⟩
  |none=>
   if n.op=3 then(match (l.headD ⟨[],aq,0⟩).bag with
    | [v]=>⟨[],v,0⟩
    |_=>⟨[],aq,4⟩)
   else if n.op=4 then⟨[],⟨2,(l.headD ⟨[],aq,0⟩).bag.length,[]⟩,0⟩
   else if n.op=5 then jl ((l.headD ⟨[],aq,0⟩).bag.any fun v=>eqV v (l.getD 1 ⟨[],aq,0⟩).v)
   else AD (gZ n.op (l.map (·.v)))
def zN(gs:List br)(st:List jM)(n:aR):List jM:=st.take (st.length - opsOf n.op)++ [lN gs n (st.drop (st.length - opsOf n.op))]
def wG(gs:List br)(l:List aR):jM:=if l= []then AD (og 1)else(l.foldl (zN gs) []).headD (AD (og 1))
def qG(gs:List br)(l:List aR):Nat:=if l.isEmpty then 2 else if isI (wG gs l) 1 then 2 else if isI (wG gs l) 0 then 0 else 1
def eW(l:List cD)(m:aT):List cD:=l.filter fun o=>o.on==1 && m==aW||o.on==2 && m==cH
def nM(r:cR)(t c:Nat):jW:=
 let m:=if r.deny then cH else aW
 if t=0∨t=2∧c=0 then(naM,[])else if t=1∨c=1 then(gT m,[])else(m,eW r.obls m)
def iC(gs:List br)(r:cR):jW:=nM r (nc gs r.tgt) (qG gs r.cond)
def fc(alg:Int)(m:aT)(parts:List jW):List cD:=
 if alg=3 then((parts.find? fun x=>x.1==m).map (·.2)).getD []else((parts.filter fun x=>x.1==m).map (·.2)).flatten
def qd(alg:Int)(obls:List cD)(t:Nat)(parts:List jW):jW:=
 let m:=ia alg (parts.map (·.1))
 if t=0 then(naM,[])else if t=1 then(gT m,[])else if m≠aW∧m≠cH then(m,[])
 else(m,fc alg m parts++eW obls m)
mutual
def fJ(gs:List br):bD→jW
 |.mk id set alg tgt rules kids obls=>if nc gs tgt=0 then(naM,[])else qd alg obls (nc gs tgt) (rules.map (iC gs)++mT gs kids)
def mT(gs:List br):List bD→List jW
 | []=>[]
 |k::r=>fJ gs k::mT gs r
end
theorem tK(gs:List br):∀l:List bD,mT gs l=l.map (fJ gs)
 | []=>aeo
 |k::r=>by simp[mT,tK gs r]
def sU:bD→gj
 |.mk _ _ _ t _ _ _=>t
def oP:gj→Option bP
 | []=>none
 | [l]::r=>match l.find? fun m=>m.op==1 && !m.attr.must with
  |some m=>some m
  |none=>oP r
 |_::r=>oP r
def sP(gs:List br)(p:bD):Bool:=match oP (sU p)with
 |none=>true
 |some m=>decide (j9 gs m≠0)
mutual
def lP(gs:List br):bD→bD
 |.mk id set alg tgt rules kids obls=> .mk id set alg tgt rules (kM gs kids) obls
def kM(gs:List br):List bD→List bD
 | []=>[]
 |k::r=>if sP gs k then lP gs k::kM gs r else kM gs r
end
end Go.Bf
namespace Go.Ab
open Go
section
variable {U : TypeId → TI} {ρ : Env} {h0 h h' : Heap} {sz id : Nat} {tb : TypeId} {y : AV} {xs : List AV} {e : TypeId} {K : AV → Prop} {x : IntKind} {m : Int}
theorem u6(xs:List AV)(j:Nat):au xs=au (xs.take j)++au (xs.drop j):=ahw
theorem OwE.cut(hw:OwE tb h0 h sz y xs){hi:Operand}(j:Nat)(hm:ev ρ hi=some (.v (.int x m)))(hj:m=j)(hl:j≤xs.length)(hz:(U tb).sz=sz)(h1:sz≠0)
  (hk:∀z,OwE tb h0 h sz z (xs.take j)→(z=y∨∃id l l' c,y= .ob id 0 l c sz∧z= .ob id 0 l' c sz)→K z):gI U ρ y none (some hi) none K (.slice tb):=by
 subst hj;subst hz
 rcases hw with⟨rfl,rfl⟩|⟨id,h2,cap,rest,rfl,h3,h4,h5,h6⟩
 ·rw[nW,fB,hm]
  refine⟨h1,?_⟩;have:j=0:=aea;subst this;refine⟨ad9,aeg,?_⟩;exact hk _ (.inl ⟨rfl,rfl⟩) (.inl rfl)
 ·rw[BE]
  refine⟨h1,rfl,?_⟩;simp only[mM,fB,hm,dJ,nO];refine⟨ad9,ad9,ad9,?_⟩;simp only[Int.toNat_natCast,Nat.zero_mul,Nat.add_zero,Nat.sub_zero,show(((0:Nat):Int)).toNat=0 from rfl]
  have e1:(xs.take j).length=j:=aea;have hs:Sized (U tb).sz (xs.drop j):=fun z hz=>h6 z (List.mem_of_mem_drop hz)
  refine hk _ (.inr ⟨id,h2,cap,au (xs.drop j)++rest,by rw[e1],by grind [u6,List.append_assoc],?_,ad9,fun z hz=>h6 z (List.mem_of_mem_take hz)⟩) (.inr ⟨id,_,_,cap,rfl,rfl⟩)
  rw[ad3,aX hs,h4,List.length_drop,e1,←Nat.add_mul]
  grind
theorem OwE.from(hw:OwE tb h0 h sz y xs){lo:Operand}(j:Nat)(hm:ev ρ lo=some (.v (.int x m)))(hj:m=j)(hl:j≤xs.length)(hz:(U tb).sz=sz)(h1:sz≠0)
  (hk:∀z,Rd h sz z (xs.drop j)→K z):gI U ρ y (some lo) none none K (.slice tb):=by
 subst hj;subst hz
 rcases hw with⟨rfl,rfl⟩|⟨id,h2,cap,rest,rfl,h3,h4,h5,h6⟩
 ·have:j=0:=by grind
  subst this;rw[rz,fB,hm];refine⟨h1,by simp[Sized],?_⟩
  exact⟨ad9,aeg,aeg,hk _ (.sl (by intro z hz;grind [nu]) _)⟩
 ·rw[BE]
  refine⟨h1,rfl,?_⟩;simp only[mM,fB,hm,dJ,nO];refine⟨ad9,ad9,ad9,?_⟩;simp only[Int.toNat_natCast,Nat.zero_add];have e1:(xs.drop j).length=xs.length - j:=aeg;have hs:Sized (U tb).sz (xs.drop j):=fun z hz=>h6 z aea
  have ht:Sized (U tb).sz (xs.take j):=fun z hz=>h6 z aea
  have e2:=aX hs;have e3:=aX ht;refine hk _ ⟨hs,.inr ⟨id,j*(U tb).sz,cap - j,_,tb,by rw[e1],h3,?_,?_⟩⟩
  ·grind [u6,ad3]
  grind [u6,List.append_assoc,List.drop_left,List.take_left]
end
end Go.Ab
namespace Go.Bf
open Go Go.Ab Go.Proofs.YtbbadggejjgihaaGreatDoor
def hbit:Nat→Nat
 |0=>0
 |1=>4602678819172646912
 |_=>4607182418800017408
def aN(m:aT):AV:=.v (.complex .f64 (hbit m.1) (hbit m.2))
def M9(m:aT):Prop:=m.1≤2∧m.2≤2
def M6(m:aT):Prop:=m∈vm
instance (m:aT):Decidable (M9 m):=inferInstanceAs (Decidable (_∧_))
instance (m:aT):Decidable (M6 m):=inferInstanceAs (Decidable (m∈vm))
theorem M6.m9{m:aT}(h:M6 m):M9 m:=by
 exact aiV
theorem le2{n:Nat}(h:n≤2):n=0∨n=1∨n=2:=ad9
theorem zi{m n:aT}(hmm:M9 m)(hn:M9 n)(K:AV→Prop):gD .eql (.complex .f64 (hbit m.1) (hbit m.2)) (.complex .f64 (hbit n.1) (hbit n.2)) K=K (.b (m==n)):=
 oS (fun P ty w=>by
  exact aiS) K
theorem Ee{m n:aT}(hmm:M9 m)(hn:M9 n)(K:AV→Prop):gD .neq (.complex .f64 (hbit m.1) (hbit m.2)) (.complex .f64 (hbit n.1) (hbit n.2)) K=K (.b (!(m==n))):=
 oS (fun P ty w=>by
  exact aiS) K
structure Nb (m:aT):Prop where
 na:∀K,gD .eql (.complex .f64 (hbit m.1) (hbit m.2)) (.complex .f64 0 0) K=K (.b (m==naM))
 pe:∀K,gD .eql (.complex .f64 (hbit m.1) (hbit m.2)) (.complex .f64 4607182418800017408 0) K=K (.b (m==aW))
 de:∀K,gD .eql (.complex .f64 (hbit m.1) (hbit m.2)) (.complex .f64 0 4607182418800017408) K=K (.b (m==cH))
 ip:∀K,gD .eql (.complex .f64 (hbit m.1) (hbit m.2)) (.complex .f64 4602678819172646912 0) K=K (.b (m==wF))
 id:∀K,gD .eql (.complex .f64 (hbit m.1) (hbit m.2)) (.complex .f64 0 4602678819172646912) K=K (.b (m==wE))
 ib:∀K,gD .eql (.complex .f64 (hbit m.1) (hbit m.2)) (.complex .f64 4602678819172646912 4602678819172646912) K=K (.b (m==mW))
 nna:∀K,gD .neq (.complex .f64 (hbit m.1) (hbit m.2)) (.complex .f64 0 0) K=K (.b (!(m==naM)))
 npe:∀K,gD .neq (.complex .f64 (hbit m.1) (hbit m.2)) (.complex .f64 4607182418800017408 0) K=K (.b (!(m==aW)))
 nde:∀K,gD .neq (.complex .f64 (hbit m.1) (hbit m.2)) (.complex .f64 0 4607182418800017408) K=K (.b (!(m==cH)))
theorem nb{m:aT}(h:M9 m):Nb m:=
 ⟨zi (n:=naM) h aed,zi (n:=aW) h aed,zi (n:=cH) h aed,zi (n:=wF) h aed,zi (n:=wE) h aed,zi (n:=mW) h aed,
  Ee (n:=naM) h aed,Ee (n:=aW) h aed,Ee (n:=cH) h aed⟩
theorem Q8{a b:Nat}(ha:a≤2)(hb:b≤2)(k:AV→Prop):Aj [.v (.float .f64 (hbit a)),.v (.float .f64 (hbit b))] k=k (.v (.float .f64 (hbit (max a b)))):=
 Gt (fun P ts ty w=>by
  rcases le2 ha with rfl|rfl|rfl<;>rcases le2 hb with rfl|rfl|rfl<;>rfl) k
structure Fb (a:Nat):Prop where
 one:∀K,gD .eql (.float .f64 (hbit a)) (.float .f64 4607182418800017408) K=K (.b (a==2))
 half:∀K,gD .eql (.float .f64 (hbit a)) (.float .f64 4602678819172646912) K=K (.b (a==1))
 ge:∀K,gD .geq (.float .f64 (hbit a)) (.float .f64 4602678819172646912) K=K (.b (decide (1≤a)))
theorem fb{a:Nat}(h:a≤2):Fb a:=by
 rcases le2 h with rfl|rfl|rfl<;>
  exact⟨oS fun P ty w=>rfl,oS fun P ty w=>rfl,oS fun P ty w=>rfl⟩
end Go.Bf
namespace Go.Proofs.YtbbadggejjgihaaGreatDoor
open Go Go.Ab Go.Bf
theorem Ct(m:aT)(hmm:M6 m)(h:Heap):ai Tryz.prog 274 [aN m] h fun r h' =>r= .b true∧h' =h:=by
 have hn:ai Tryz.prog 62 [aN m] h fun r h' =>(∃c l,r= .s (c::l))∧h' =h:=by
  obtain⟨n1,n2,n3,n4,n5,n6⟩:=nb hmm.m9;refine ad8 Tryz.func62 16 [.tmp 2] fun hwf=>?_
  cases d1:(m==naM)
  case true=>simp only[go_sem,aN,n1,d1];exact .same (.refl _) ⟨⟨_,_,rfl⟩,rfl⟩
  cases d2:(m==aW)
  case true=>simp only[go_sem,aN,n1,n2,d1,d2];exact .same (.refl _) ⟨⟨_,_,rfl⟩,rfl⟩
  cases d3:(m==cH)
  case true=>simp only[go_sem,aN,n1,n2,n3,d1,d2,d3];exact .same (.refl _) ⟨⟨_,_,rfl⟩,rfl⟩
  cases d4:(m==wF)
  case true=>simp only[go_sem,aN,n1,n2,n3,n4,d1,d2,d3,d4];exact .same (.refl _) ⟨⟨_,_,rfl⟩,rfl⟩
  cases d5:(m==wE)
  case true=>simp only[go_sem,aN,n1,n2,n3,n4,n5,d1,d2,d3,d4,d5];exact .same (.refl _) ⟨⟨_,_,rfl⟩,rfl⟩
  have d6:(m==mW)=true:=by
   unfold M6 vm at hmm
   grind
  simp only[go_sem,aN,n1,n2,n3,n4,n5,n6,d1,d2,d3,d4,d5,d6];exact .same (.refl _) ⟨⟨_,_,rfl⟩,rfl⟩
 refine ad8 Tryz.func274 6 [.tmp 2] fun hwf=>?_
 simp only[go_sem];refine hn.mono ?_
 rintro r h' ⟨⟨c,l,rfl⟩,rfl⟩
 exact aiz
theorem yP(m:aT)(hmm:M9 m)(h:Heap):ai Tryz.prog 249 [aN m] h fun r h' =>r=aN (gT m)∧h' =h:=by
 obtain⟨n1,n2,n3,n4,n5,n6⟩:=nb hmm;refine ad8 Tryz.func249 9 [.tmp 2] fun hwf=>?_
 cases d2:(m==aW)
 case true=>simp only[go_sem,aN,n2,d2];exact .same (.refl _) ⟨by rw[gT,if_pos aea];rfl,rfl⟩
 cases d3:(m==cH)
 case true=>simp only[go_sem,aN,n2,n3,d2,d3];exact .same (.refl _) ⟨by rw[gT,if_neg aea,if_pos aea];rfl,rfl⟩
 simp only[go_sem,aN,n2,n3,d2,d3];exact .same (.refl _) ⟨by rw[gT,if_neg aea,if_neg aea];rfl,rfl⟩
theorem uj(m:aT)(h:Heap):ai Tryz.prog 296 [aN m] h fun r h' =>r= .tup [.v (.float .f64 (hbit m.1)),.v (.float .f64 (hbit m.2))]∧h' =h:=by
 refine ad8 Tryz.func296 10 [.tmp 2,.tmp 3] fun hwf=>?_
 simp only[go_sem,aN];exact aei
theorem Rf(a b:Nat)(h:Heap):ai Tryz.prog 297 [.v (.float .f64 (hbit a)),.v (.float .f64 (hbit b))] h fun r h' =>r=aN (a,b)∧h' =h:=by
 refine ad8 Tryz.func297 8 [.tmp 4] fun hwf=>?_
 exact aiz
theorem Ql(m:aT)(h:Heap):ai Tryz.prog 277 [aN m] h fun r h' =>r=aN (E5 m)∧h' =h:=by
 refine ad8 Tryz.func277 13 [.tmp 2] fun hwf=>?_
 simp only[go_sem];refine(uj m _).pthen ?_;simp only[go_sem];refine(Rf m.2 m.1 _).pthen ?_;exact aiz
theorem Pd(a b:aT)(ha:M9 a)(hb:M9 b)(h:Heap):ai Tryz.prog 275 [aN a,aN b] h fun r h' =>r=aN (oO a b)∧h' =h:=by
 have m1:=Q8 ha.1 hb.1;have m2:=Q8 ha.2 hb.2;refine ad8 Tryz.func275 26 [.tmp 4] fun hwf=>?_
 simp only[go_sem];refine(uj a _).pthen ?_;simp only[go_sem];refine(uj b _).pthen ?_;simp only[go_sem,m1,m2];refine(Rf _ _ _).pthen ?_;exact aiz
theorem M9.join{a b:aT}(ha:M9 a)(hb:M9 b):M9 (oO a b):=⟨Nat.max_le.2 ⟨ha.1,hb.1⟩,Nat.max_le.2 ⟨ha.2,hb.2⟩⟩
theorem Is(j:aT):M6 (qW j):=by
 unfold qW
 repeat' split
 all_goals decide
theorem It(j:aT)(hj:M9 j)(h:Heap):ai Tryz.prog 276 [aN j] h fun r h' =>r=aN (qW j)∧h' =h:=by
 obtain⟨p1,p2,p3⟩:=fb hj.1;obtain⟨q1,q2,q3⟩:=fb hj.2;refine ad8 Tryz.func276 29 [.tmp 2] fun hwf=>?_
 simp only[go_sem];refine(uj j _).pthen ?_;cases d1:(j.2==2)
 case true=>simp only[go_sem,q1,d1];exact .same (.refl _) ⟨by rw[qW,if_pos aea];rfl,rfl⟩
 have e1:¬j.2=2:=aea;cases d2:(j.2==1)
 case true=>
  have e2:j.2=1:=aea;cases d3:decide (1≤j.1)
  ·simp only[go_sem,p3,q1,q2,d1,d2,d3];exact .same (.refl _) ⟨by rw[qW,if_neg e1,if_neg aea,if_pos e2];rfl,rfl⟩
  ·simp only[go_sem,p3,q1,q2,d1,d2,d3];exact .same (.refl _) ⟨by rw[qW,if_neg e1,if_pos ⟨e2,ad1 d3⟩];rfl,rfl⟩
 have e2:¬j.2=1:=aea;cases d4:(j.1==2)
 case true=>simp only[go_sem,p1,q1,q2,d1,d2,d4];exact .same (.refl _) ⟨by rw[qW,if_neg e1,if_neg (fun h=>e2 h.1),if_neg e2,if_pos aea];rfl,rfl⟩
 cases d5:(j.1==1)
 case true=>simp only[go_sem,p1,p2,q1,q2,d1,d2,d4,d5];exact .same (.refl _) ⟨by rw[qW,if_neg e1,if_neg (fun h=>e2 h.1),if_neg e2,if_neg aea,if_pos aea];rfl,rfl⟩
 simp only[go_sem,p1,p2,q1,q2,d1,d2,d4,d5];exact .same (.refl _) ⟨by rw[qW,if_neg e1,if_neg (fun h=>e2 h.1),if_neg e2,if_neg aea,if_neg aea];rfl,rfl⟩
end Go.Proofs.YtbbadggejjgihaaGreatDoor
namespace Go.Bf
open Go Go.Ab Go.Proofs.YtbbadggejjgihaaGreatDoor
def yX(a b:bu):Int:=if bz a=false∨bz b=false then 1 else 2
def lK(a b:bu):AV:=match nQ a b with
 |some x=> .tup [.b x,.i 0]
 |none=> .tup [.b false,.i (yX a b)]
theorem Ba{a b:bu}(h:bz a=false∨bz b=false):lK a b= .tup [.b false,.i 1]:=by
 unfold lK nQ;rw[if_pos aea]
 simp_all [yX,if_pos]
theorem yW{a b:bu}(h1:bz a=true)(h2:bz b=true)(h:a.kind≠b.kind∨a.kind=1):lK a b= .tup [.b false,.i 2]:=by
 simp_all [lK,nQ,if_pos,yX]
theorem Pv{a b:bu}(h1:bz a=true)(h2:bz b=true)(h:a.kind=b.kind)(h0:a.kind≠1)(ht:a.kind=3∨a.kind=5):lK a b= .tup [.b (Op.bytesLess a.s b.s),.i 0]:=by
 simp_all [lK,nQ,if_neg,if_pos]
theorem Pu{a b:bu}(h1:bz a=true)(h2:bz b=true)(h:a.kind=b.kind)(h0:a.kind≠1)(ht:¬(a.kind=3∨a.kind=5)):lK a b= .tup [.b (decide (a.n<b.n)),.i 0]:=by
 simp_all [lK,nQ,if_neg]
end Go.Bf
namespace Go.Proofs.YtbbadggejjgihaaGreatDoor
open Go Go.Ab Go.Bf
theorem zR(k:Int)(h:Heap):ai Tryz.prog 185 [.i k] h fun r h' =>r= .b (k==3||k==5)∧h' =h:=by
 refine ad8 Tryz.func185 9 [.tmp 2] fun hwf=>?_
 cases d1:(k==3)<;>cases d2:(k==5)
 all_goals
  simp only[go_sem,d1,d2];exact aei
theorem Cs(a b:bu)(h:Heap):ai Tryz.prog 283 [aS a,aS b] h fun r h' =>r=lK a b∧h' =h:=by
 have ha:=fun(G:Heap)=>fV a G
 have hb:=fun(G:Heap)=>fV b G
 simp only[aS]at ha hb;refine ad8 Tryz.func283 40 [.tmp 4,.tmp 5] fun hwf=>?_
 simp only[go_sem,aS];intro i1 h1;simp only[go_sem];intro i2 h2;have n21:=aI h2;have n2:=aB h2;have hs:∀x y,Ab.Sub h (upd (upd h i1 x) i2 y):=fun x y=>((Sub.refl h).put h1 x).put n2 y
 simp only[go_sem,ak,n21.symm];refine(ha _).pthen ?_;cases da:bz a
 ·simp only[go_sem]
  exact .mk _ (.refl _) (hs _ _) ⟨by rw[Ba (.inl da)];rfl,rfl⟩
 simp only[go_sem];refine(hb _).pthen ?_;cases db:bz b
 ·simp only[go_sem]
  exact .mk _ (.refl _) (hs _ _) ⟨by rw[Ba (.inr db)];rfl,rfl⟩
 cases dk:(a.kind !=b.kind)
 case true=>
  simp only[go_sem,ak,n21.symm,dk];exact .mk _ (.refl _) (hs _ _) ⟨by rw[yW da db (.inl aea)];rfl,rfl⟩
 have ek:a.kind=b.kind:=aea;cases d1:(a.kind==1)
 case true=>
  simp only[go_sem,ak,n21.symm,dk,d1];exact .mk _ (.refl _) (hs _ _) ⟨by rw[yW da db (.inr aea)];rfl,rfl⟩
 have e1:a.kind≠1:=aea;simp only[go_sem,ak,n21.symm,dk,d1];refine(zR _ _).pthen ?_;cases dt:(a.kind==3||a.kind==5)
 ·simp only[go_sem,ak,n21.symm]
  exact .mk _ (.refl _) (hs _ _) ⟨by rw[Pu da db ek e1 aea];rfl,rfl⟩
 ·simp only[go_sem,ak,n21.symm]
  exact .mk _ (.refl _) (hs _ _) ⟨by rw[Pv da db ek e1 aea];rfl,rfl⟩
def JI(bag:List bu)(must:Bool):AV:=if bag= []∧must=true then .tup [.sl [] .no,.i 4]else .tup [.sl (bag.map aS) .no,.i 0]
theorem HT(gs:List br)(cat:Int)(name:Txt)(must:Bool)(hl:gs.length≤1000000000)(hb:∀g∈gs,g.bag.length≤1000000)(h:Heap):ai Tryz.prog 251 [bJ gs,.agg [.i cat,.s name,.b must]] h fun r h' =>r=JI (getD gs cat name) must∧h' =h:=by
 have hpl:=fun G=>Nd gs cat name hl G
 simp only[bJ]at hpl;have frz:∀(x:AV) (e:Int),Weak x (.sl [] .no)→Weak (.tup [x,.i e]) (.tup [.sl [] .no,.i e]):=fun x e hx=> .tup _ _ rfl fun i a b=>by
  rcases i with _|_|i
  ·grind
  ·exact afu
  grind
 refine ad8 Tryz.func251 30 [.tmp 4,.tmp 5] fun hwf=>?_
 simp only[go_sem,bJ];intro i1 h1;simp only[go_sem];refine(hpl _).pthen ?_
 by_cases hx:gs.findIdx (ja cat name)<gs.length
 ·have e1:ixD (ja cat name) gs=(gs.findIdx (ja cat name):Nat):=by simp_all [ixD,if_pos]
  have d1:decide ((0:Int)≤((gs.findIdx (ja cat name):Nat):Int))=true:=decide_eq_true ad9;rw[e1];simp only[go_sem,d1];refine .at (gs.findIdx (ja cat name)) aea aen ?_;simp only[go_sem,ad0,lH];rw[if_neg (fun hh=>hh.1)]
  have hlb:=hb _ (ad4 hx);rw[get_at hx];obtain⟨B,eB⟩:∃B,gs[gs.findIdx (ja cat name)].bag=B:=⟨_,rfl⟩;rw[eB]at hlb⊢;refine(Dd _ (B.map aS) _ (eE aS 3 (fun _=>rfl) _ _) aea (bl (fun _=>rfl) _)).pthen ?_
  cases d2:((B.length:Int)==0)
  ·have e2:B≠ []:=by grind
   simp only[go_sem,d2,adZ];exact .mk _ (.refl _) (.aj h1) ⟨by rw[JI,if_neg (fun hh=>e2 hh.1)];rfl,rfl⟩
  ·have e3:(B.length:Int)=0:=by grind
   have e2:B= []:=List.length_eq_zero_iff.1 ad9;subst e2;cases must
   ·simp only[go_sem,List.map_nil,List.length_nil]
    exact aer
   ·simp only[go_sem,List.map_nil,List.length_nil]
    exact afZ
 ·have e1:ixD (ja cat name) gs= -1:=by simp_all [ixD,if_neg]
  have d1:decide ((0:Int)≤ -1)=false:=rfl;rw[e1,Sx hx];cases must
  ·simp only[go_sem,d1]
   exact .mk (.tup [.sl [] .no,.i 0]) (frz _ _ (.sl _ _)) (.aj h1) ⟨rfl,rfl⟩
  ·simp only[go_sem,d1]
   exact afZ
def mR(m:bP)(v:bu):AV:=
 if m.op=1 then(if v.kind=m.val.kind then .tup [.b (eqV v m.val),.i 0]else .tup [.b false,.i 2])
 else if m.op=2 then lK v m.val else lK m.val v
theorem Fu(m:bP)(v:bu)(h:Heap):ai Tryz.prog 252 [dR m,aS v] h fun r h' =>r=mR m v∧h' =h:=by
 have hl1:=fun G=>Cs v m.val G
 have hl2:=fun G=>Cs m.val v G
 simp only[aS]at hl1 hl2;refine ad8 Tryz.func252 42 [.tmp 4,.tmp 5] fun hwf=>?_
 simp only[go_sem,dR,aS];intro i1 h1;simp only[go_sem];intro i2 h2;have n21:=aI h2;have n2:=aB h2;have hs:∀x y,Ab.Sub h (upd (upd h i1 x) i2 y):=fun x y=>((Sub.refl h).put h1 x).put n2 y
 cases d1:(m.op==1)
 case true=>
  have e1:m.op=1:=aea;cases dk:(v.kind !=m.val.kind)
  ·have dk' :v.kind=m.val.kind:=by grind
   simp only[go_sem,ak,n21.symm,d1,dk];exact .mk _ (.refl _) (hs _ _) ⟨by rw[mR,if_pos e1,if_pos dk'];rfl,rfl⟩
  ·simp only[go_sem,ak,n21.symm,d1,dk]
   exact .mk _ (.refl _) (hs _ _) ⟨by rw[mR,if_pos e1,if_neg aea];rfl,rfl⟩
 have e1:m.op≠1:=aea;have aft:∀a b:bu,∃x e,lK a b= .tup [.b x,.i e]:=fun a b=>by
  unfold lK;split
  ·simp
  simp
 cases d2:(m.op==2)
 case true=>
  have e2:m.op=2:=aea;obtain⟨x,e,ee⟩:=aft v m.val;rw[ee]at hl1;simp only[go_sem,ak,n21.symm,d1,d2];refine(hl1 _).pthen ?_;simp only[go_sem];exact .mk _ (.refl _) (hs _ _) ⟨by rw[mR,if_neg e1,if_pos e2,ee];rfl,rfl⟩
 ·have e2:m.op≠2:=by grind
  obtain⟨x,e,ee⟩:=aft m.val v;rw[ee]at hl2;simp only[go_sem,ak,n21.symm,d1,d2];refine(hl2 _).pthen ?_;simp only[go_sem];exact .mk _ (.refl _) (hs _ _) ⟨by rw[mR,if_neg e1,if_neg e2,ee];rfl,rfl⟩
theorem BU(m:bP)(v:bu):∃e:Int,(e !=0)=(cW m v==none)∧mR m v= .tup [.b (cW m v==some true),.i e]:=by
 have hl:∀a b:bu,∃e:Int,(e !=0)=(nQ a b==none)∧lK a b= .tup [.b (nQ a b==some true),.i e]:=fun a b=>by
  unfold lK;cases hx:nQ a b with
  |some x=>simp
  |none=>refine⟨yX a b,?_,rfl⟩;grind [yX]
 unfold mR cW
 by_cases e1:m.op=1
 ·rw[if_pos e1,if_pos e1]
  by_cases ek:v.kind=m.val.kind
  ·rw[if_pos ek,if_pos ek]
   exact⟨0,rfl,aeg⟩
  ·rw[if_neg ek,if_neg ek]
   exact⟨2,rfl,rfl⟩
 ·rw[if_neg e1,if_neg e1]
  by_cases e2:m.op=2
  ·rw[if_pos e2,if_pos e2];exact hl _ _
  ·rw[if_neg e2,if_neg e2];exact hl _ _
theorem JJ(bag:List bu)(must:Bool):∃e:Int,(e !=0)=decide (bag= []∧must=true)∧JI bag must= .tup [.sl (bag.map aS) .no,.i e]:=by
 unfold JI;split
 ·simp_all
 grind
def rW(gs:List br):Prop:=gs.length≤1000000∧∀g∈gs,g.bag.length≤1000000
theorem rW.bag{gs:List br}(h:rW gs)(a:qs):(yf gs a).length≤1000000:=by
 unfold yf getD;split
 ·rename_i g hg;exact h.2 g aea
 ·simp
theorem Bg(m:bP)(gs:List br)(hf:rW gs)(h:Heap):ai Tryz.prog 211 [dR m,bJ gs] h fun r h' =>r= .i (j9 gs m:Nat)∧h' =h:=by
 have hg:=fun G=>HT gs m.attr.cat m.attr.name m.attr.must (by have:=hf.1;omega) hf.2 G
 have hbl:=hf.bag m.attr;obtain⟨B,eB⟩:∃B,yf gs m.attr=B:=⟨_,rfl⟩;have eg:Go.Bf.getD gs m.attr.cat m.attr.name=B:=eB;rw[eB]at hbl;rw[eg]at hg;have hmm:j9 gs m=if B= []∧m.attr.must=true then 1 else if B.any (fun v=>cW m v==some true)then 2 else if B.any (fun v=>cW m v==none)then 1 else 0:=by
  unfold j9;rw[eB]
 obtain⟨eg,hge,hga⟩:=JJ B m.attr.must;rw[hga]at hg;have hag:=fun(v:bu) (G:Heap)=>Fu m v G
 simp only[dR,bJ,aS]at hag hg;refine ad8 Tryz.func211 38 [.tmp 4] fun hwf=>?_
 simp only[go_sem,dR,bJ];intro i1 h1;simp only[go_sem];refine(hg _).pthen ?_;cases d0:decide (B= []∧m.attr.must=true)
 case true=>
  rw[d0]at hge;simp only[go_sem,hge];exact .mk _ (.refl _) (.aj h1) ⟨by rw[hmm,if_pos (ad1 d0)];rfl,rfl⟩
 rw[d0]at hge;rw[if_neg (ad2 d0)]at hmm;simp only[go_sem,hge,adZ];obtain⟨H,eH⟩:∃H,upd h i1 (some (.obj [.i m.attr.cat,.s m.attr.name,.b m.attr.must,.i m.op,.i m.val.kind,.i m.val.n,.s m.val.s] 233))=H:=⟨_,rfl⟩;have hH:Ab.Sub h H:=by rw[←eH];exact .aj h1
 have k1:H i1=some (.obj [.i m.attr.cat,.s m.attr.name,.b m.attr.must,.i m.op,.i m.val.kind,.i m.val.n,.s m.val.s] 233):=afC;rw[eH];clear eH;refine .intro (fun q ρ G=>Ab.Sub H G∧∃i:Nat,i≤B.length∧q=B.length - i∧(∀j (hj:j<i) (h2:j<B.length),(cW m B[j]==some true)=false)∧lk ρ 2=some (.ptr i1 0)∧lk ρ 7=some (.i (if(B.take i).any (fun v=>cW m v==none)then 1 else 0))∧lk ρ 21=some (.sl (B.map aS) .no)∧lk ρ 22=some (.i B.length)∧lk ρ 23=some (.i i)) B.length ?_ ?_
 ·refine⟨.refl _,0,ad9,rfl,fun j hj=>ad9,?_,?_,?_,?_,?_⟩<;>simp only[go_sem]
  simp
 ·rintro q ρ G ⟨hs,i,hi,rfl,hc,r2,r7,r21,r22,r23⟩
  have k1' :=hs _ _ k1;simp only[go_sem,r22,r23];refine .intro (fun e=>?_) (fun e=>?_)
  ·have hlt:i<B.length:=ad6 e
   have w1:=ad5 i ad9;have hsn:(B.take (i+1)).any (fun v=>cW m v==none)=((B.take i).any (fun v=>cW m v==none)||(cW m B[i]==none)):=any_succ hlt
   have ix:=fun k=>eC.eq (xs:=B.map aS) (sz:=3) i aew aen k
   rw[ad0]at ix;have hci:=fun(d:(cW m B[i]==some true)=false)=>(fun j (hj:j<i+1) (h2:j<B.length)=>(by
    by_cases hji:j=i
    ·subst hji;exact d
    ·exact hc j ad9 h2:(cW m B[j]==some true)=false))
   have hat:=fun(d:(cW m B[i]==some true)=true)=>(List.any_eq_true.2 ⟨B[i],ad4 hlt,d⟩:B.any (fun v=>cW m v==some true)=true)
   obtain⟨v,ev⟩:∃v,B[i]=v:=⟨_,rfl⟩;rw[ev]at ix hsn hci hat;simp only[aS]at ix;obtain⟨e,he1,he2⟩:=BU m v;have hag1:=hag v;rw[he2]at hag1;simp only[go_sem,r21,r23,ix];intro i4 h4;have n41:i4≠i1:=fun e=>by rw[e,k1']at h4;cases h4
   simp only[go_sem,r2,ak,n41.symm,k1'];refine(hag1 _).pthen ?_;cases d1:(cW m v==some true)
   ·cases d2:(cW m v==none)
    ·rw[d2]at he1 hsn
     rw[Bool.or_false]at hsn;simp only[go_sem,r23,he1,w1];refine⟨_,?_,hs.trans (.aj h4),i+1,ad9,rfl,hci d1,?_,?_,?_,?_,?_⟩
     ·omega
     all_goals simp only[go_sem,r2,r7,r21,r22,hsn]
    ·rw[d2]at he1 hsn
     rw[Bool.or_true]at hsn;simp only[go_sem,r23,he1,w1];refine⟨_,?_,hs.trans (.aj h4),i+1,ad9,rfl,hci d1,?_,?_,?_,?_,?_⟩
     ·omega
     all_goals simp only[go_sem,r2,r21,r22,hsn]
   ·simp only[go_sem]
    refine .mk _ (.refl _) (hH.trans (hs.trans (.aj h4))) ⟨by rw[hmm,if_pos (hat d1)];rfl,rfl⟩
  ·have hge:i=B.length:=by have:=ad2 e;omega
   subst hge;rw[List.take_length]at r7;simp only[go_sem,r7];refine .mk _ (.refl _) (hH.trans hs) ⟨?_,rfl⟩;have hno:B.any (fun v=>cW m v==some true)=false:=List.any_eq_false.2 fun x hx=>by
    obtain⟨j,hj,rfl⟩:=List.mem_iff_getElem.1 hx;rw[hc j hj hj];decide
   rw[hmm,hno];cases B.any (fun v=>cW m v==none)<;>rfl
theorem Ij(a b:Nat):(if((b:Int)<(a:Int))then(b:Int)else(a:Int))=((min a b:Nat):Int):=by
 grind
theorem Px(a b:Nat):(if((a:Int)<(b:Int))then(b:Int)else(a:Int))=((max a b:Nat):Int):=by
 grind
theorem OA(l:List bP)(hl:l.length≤1000000)(gs:List br)(hf:rW gs)(h:Heap):ai Tryz.prog 245 [jj l,bJ gs] h fun r h' =>r= .i (CY gs l:Nat)∧h' =h:=by
 have hmt:=fun(m:bP) (G:Heap)=>Bg m gs hf G
 simp only[dR,bJ]at hmt;refine ad8 Tryz.func245 21 [.tmp 4] fun hwf=>?_
 simp only[go_sem,jj,bJ,adZ];refine .intro (fun q ρ G=>Ab.Sub h G∧∃i:Nat,i≤l.length∧q=l.length - i∧lk ρ 1=some (.sl (gs.map lH) .no)∧lk ρ 5=some (.i (CY gs (l.take i):Nat))∧lk ρ 8=some (.sl (l.map dR) .no)∧lk ρ 9=some (.i l.length)∧lk ρ 10=some (.i i)) l.length ?_ ?_
 ·exact ajM
 ·rintro q ρ G ⟨hs,i,hi,rfl,r1,r5,r8,r9,r10⟩
  simp only[go_sem,r9,r10];refine .intro (fun e=>?_) (fun e=>?_)
  ·have hlt:i<l.length:=ad6 e
   have w1:IntKind.i64.wrap ((i:Int)+1)=((i+1:Nat):Int):=aek;have hsn:CY gs (l.take (i+1))=min (CY gs (l.take i)) (j9 gs l[i]):=by
    grind [CY,List.take_succ_eq_append_getElem]
   have ix:=fun k=>eC.eq (xs:=l.map dR) (sz:=7) i aea aen k
   rw[ad0]at ix;obtain⟨m,em⟩:∃m,l[i]=m:=⟨_,rfl⟩;rw[em]at ix hsn;have hmt1:=hmt m;simp only[dR]at ix;simp only[go_sem,r8,r10,ix];intro i4 h4;simp only[go_sem,r1,r5];refine(hmt1 _).pthen ?_;simp only[go_sem,r10,Ij,w1];refine⟨_,?_,hs.trans (.aj h4),i+1,ad9,rfl,?_,?_,?_,?_,?_⟩
   ·omega
   all_goals simp only[go_sem,r1,r8,r9,hsn]
  ·have hge:i=l.length:=by grind
   exact ajw
def On(t:gj):Prop:=t.length≤1000000∧∀x∈t,x.length≤1000000∧∀l∈x,l.length≤1000000
theorem MM(t:gj)(ht:On t)(gs:List br)(hf:rW gs)(h:Heap):ai Tryz.prog 207 [aV t,bJ gs] h fun r h' =>r= .i (nc gs t:Nat)∧h' =h:=by
 have hat:=fun(l:List bP) (hl:l.length≤1000000) (G:Heap)=>OA l hl gs hf G
 simp only[jj,bJ]at hat;have htl:=ht.1;refine ad8 Tryz.func207 34 [.tmp 4] fun hwf=>?_
 simp only[go_sem,aV,bJ,adZ];refine .intro (fun q ρ G=>Ab.Sub h G∧∃i:Nat,i≤t.length∧q=t.length - i∧lk ρ 1=some (.sl (gs.map lH) .no)∧lk ρ 5=some (.i (nc gs (t.take i):Nat))∧lk ρ 11=some (.sl (t.map cX) .no)∧lk ρ 12=some (.i t.length)∧lk ρ 13=some (.i i)) t.length ?_ ?_
 ·exact ajM
 ·rintro q ρ G ⟨hs,i,hi,rfl,r1,r5,r11,r12,r13⟩
  simp only[go_sem,r12,r13];refine .intro (fun e=>?_) (fun e=>?_)
  ·have hlt:i<t.length:=ad6 e
   have w1:IntKind.i64.wrap ((i:Int)+1)=((i+1:Nat):Int):=aek;have hsn:nc gs (t.take (i+1))=min (nc gs (t.take i)) (Ad gs t[i]):=by
    grind [nc,List.take_succ_eq_append_getElem]
   have ix:=fun k=>eC.eq (xs:=t.map cX) (sz:=1) i aea aen k
   rw[ad0]at ix;obtain⟨hx1,hx2⟩:=ht.2 t[i] (ad4 hlt);obtain⟨x,ex⟩:∃x,t[i]=x:=⟨_,rfl⟩;rw[ex]at ix hsn hx1 hx2;simp only[cX]at ix;simp only[go_sem,r11,r13,ix,adZ];refine .intro (fun q ρ' K=>Ab.Sub h K∧∃n:Nat,n≤x.length∧q=x.length - n∧lk ρ' 1=some (.sl (gs.map lH) .no)∧lk ρ' 5=some (.i (nc gs (t.take i):Nat))∧lk ρ' 8=some (.i (Ad gs (x.take n):Nat))∧lk ρ' 11=some (.sl (t.map cX) .no)∧lk ρ' 12=some (.i t.length)∧lk ρ' 13=some (.i i)∧lk ρ' 17=some (.sl (x.map jj) .no)∧lk ρ' 18=some (.i x.length)∧lk ρ' 19=some (.i n)) x.length ?_ ?_
   ·refine⟨hs,0,ad9,rfl,?_,?_,?_,?_,?_,?_,?_,?_,?_⟩<;>simp only[go_sem,r1,r5,r11,r12,r13]
    rfl
   ·rintro q ρ' K ⟨hs',n,hn,rfl,s1,s5,s8,s11,s12,s13,s17,s18,s19⟩
    simp only[go_sem,s18,s19];refine .intro (fun e=>?_) (fun e=>?_)
    ·have hlt2:n<x.length:=ad6 e
     have w2:IntKind.i64.wrap ((n:Int)+1)=((n+1:Nat):Int):=aek;have hsn2:Ad gs (x.take (n+1))=max (Ad gs (x.take n)) (CY gs x[n]):=by
      grind [Ad,List.take_succ_eq_append_getElem]
     have ix2:=fun k=>eC.eq (xs:=x.map jj) (sz:=1) n aea aen k
     rw[ad0]at ix2;have hx3:=hx2 x[n] (ad4 hlt2);obtain⟨l,el⟩:∃l,x[n]=l:=⟨_,rfl⟩;rw[el]at ix2 hsn2 hx3;simp only[jj]at ix2;simp only[go_sem,s1,s8,s17,s19,ix2];refine(hat l hx3 _).pthen ?_;simp only[go_sem,s19,Px,w2];refine⟨_,?_,hs',n+1,ad9,rfl,?_,?_,?_,?_,?_,?_,?_,?_,?_⟩
     ·omega
     all_goals simp only[go_sem,s1,s5,s11,s12,s13,s17,s18,hsn2]
    ·have hge:n=x.length:=by grind
     subst hge;rw[List.take_length]at s8;simp only[go_sem,s5,s8,s13,Ij,w1];refine⟨_,?_,hs',i+1,ad9,rfl,?_,?_,?_,?_,?_⟩
     ·omega
     all_goals simp only[go_sem,s1,s11,s12,hsn]
  ·have hge:i=t.length:=by grind
   exact ajw
end Go.Proofs.YtbbadggejjgihaaGreatDoor
namespace Go.Bf
open Go Go.Ab Go.Proofs.YtbbadggejjgihaaGreatDoor
def Al(o:Bool)(n:Int):AV:=if o then .tup [.i 0,.i 3]else .tup [.i (w64 n),.i 0]
def rE(r:bu×Int):AV:=.tup [aS r.1,.i r.2]
end Go.Bf
namespace Go.Proofs.YtbbadggejjgihaaGreatDoor
open Go Go.Ab Go.Bf
theorem RV(a b:Int)(h:Heap):ai Tryz.prog 316 [.i a,.i b] h fun r h' =>r=Al (Ln a b) (a+b)∧h' =h:=by
 refine ad8 Tryz.func316 27 [.tmp 4,.tmp 5] fun hwf=>?_
 cases d1:decide (0<b)<;>cases d2:decide (IntKind.i64.wrap (9223372036854775807 - b)<a)<;>cases d3:decide (b<0)<;>cases d4:decide (a<IntKind.i64.wrap (-9223372036854775808 - b))
 all_goals
  simp -implicitDefEqProofs only[go_sem,d1,d2,d3,d4];exact .same (.refl _) ⟨by simp only[Al,Ln,w64,d1,d2,d3,d4];rfl,rfl⟩
theorem Tk(a b:Int)(h:Heap):ai Tryz.prog 317 [.i a,.i b] h fun r h' =>r=Al (NO a b) (a - b)∧h' =h:=by
 refine ad8 Tryz.func317 27 [.tmp 4,.tmp 5] fun hwf=>?_
 cases d1:decide (0<b)<;>cases d2:decide (a<IntKind.i64.wrap (-9223372036854775808+b))<;>cases d3:decide (b<0)<;>cases d4:decide (IntKind.i64.wrap (9223372036854775807+b)<a)
 all_goals
  simp -implicitDefEqProofs only[go_sem,d1,d2,d3,d4];exact .same (.refl _) ⟨by simp only[Al,NO,w64,d1,d2,d3,d4];rfl,rfl⟩
theorem SU(a b:Int)(h:Heap):ai Tryz.prog 318 [.i a,.i b] h fun r h' =>r=Al (Kb a b) (a*b)∧h' =h:=by
 refine ad8 Tryz.func318 36 [.tmp 4,.tmp 5] fun hwf=>?_
 cases d0:(a !=0)
 ·have e0:a=0:=by grind
  subst e0;cases d1:(b== -1)
  all_goals
   simp -implicitDefEqProofs only[go_sem,d1];exact .same (.refl _) ⟨by simp[Al,Kb,w64,ax],rfl⟩
 have e0:a≠0:=aea;cases d1:(a== -1)<;>cases d2:(b== -9223372036854775808)<;>cases d3:(b== -1)<;>cases d4:(a== -9223372036854775808)<;>cases d5:(IntKind.i64.wrap ((IntKind.i64.wrap (a*b)).tdiv a) !=b)
 all_goals
  simp -implicitDefEqProofs only[go_sem,d0,d1,d2,d3,d4,d5,e0];exact .same (.refl _) ⟨by simp only[Al,Kb,w64,d0,d1,d2,d3,d4,d5];rfl,rfl⟩
theorem BK(b:Bool)(h:Heap):ai Tryz.prog 314 [.b b] h fun r h' =>r=aS (dM b)∧h' =h:=by
 refine ad8 Tryz.func314 8 [.cell 2 32] fun hwf=>?_
 simp only[go_sem];intro i1 h1;simp only[go_sem];intro i2 h2;have n21:=aI h2;have n2:=aB h2;cases b
 all_goals
  simp only[go_sem,ak,n21.symm];exact .mk _ (.refl _) ((((Sub.refl h).put h1 _).put n2 _).put h1 _) ⟨rfl,rfl⟩
theorem B3(kind:Int)(l:List bu)(hl:l.length≤1000000)(p:Perm)(h:Heap):ai Tryz.prog 319 [.i kind,.sl (l.map aS) p] h fun r h' =>r= .b (l.all fun v=>v.kind==kind)∧h' =h:=by
 refine ad8 Tryz.func319 18 [.tmp 4] fun hwf=>?_
 simp only[go_sem,adZ];refine .intro (fun q ρ G=>Ab.Sub h G∧∃i:Nat,i≤l.length∧q=l.length - i∧(∀j (hj:j<i) (h2:j<l.length),(l[j].kind==kind)=true)∧lk ρ 0=some (.i kind)∧lk ρ 7=some (.sl (l.map aS) p)∧lk ρ 8=some (.i l.length)∧lk ρ 9=some (.i i)) l.length ?_ ?_
 ·refine⟨.refl _,0,ad9,rfl,fun j hj=>ad9,?_,?_,?_,?_⟩<;>simp only[go_sem]
 ·rintro q ρ G ⟨hs,i,hi,rfl,hc,r0,r7,r8,r9⟩
  simp only[go_sem,r8,r9];refine .intro (fun e=>?_) (fun e=>?_)
  ·have hlt:i<l.length:=ad6 e
   have w1:IntKind.i64.wrap ((i:Int)+1)=((i+1:Nat):Int):=aek;have ix:=fun k=>eC.eq (xs:=l.map aS) (sz:=3) i aea aen k
   rw[ad0]at ix;have hci:=fun(d:(l[i].kind==kind)=true)=>(fun j (hj:j<i+1) (h2:j<l.length)=>(by
    grind:(l[j].kind==kind)=true))
   have hat:=fun(d:(l[i].kind==kind)=false)=>(List.all_eq_false.2 ⟨l[i],ad4 hlt,aea⟩:(l.all fun v=>v.kind==kind)=false)
   obtain⟨v,ev⟩:∃v,l[i]=v:=⟨_,rfl⟩;rw[ev]at ix hci hat;simp only[aS]at ix;cases d1:(v.kind==kind)
   ·have d2:(v.kind !=kind)=true:=by grind
    simp only[go_sem,r7,r9,ix];intro i4 h4;simp only[go_sem,r0,d2];exact .mk _ (.refl _) (hs.trans (.aj h4)) ⟨aib,rfl⟩
   ·have d2:(v.kind !=kind)=false:=by grind
    simp only[go_sem,r7,r9,ix];intro i4 h4;simp only[go_sem,r0,r9,d2,w1];refine⟨_,?_,hs.trans (.aj h4),i+1,ad9,rfl,hci d1,?_,?_,?_,?_⟩
    ·omega
    all_goals simp only[go_sem,r0,r7,r8]
  ·have hge:i=l.length:=by grind
   simp only[go_sem];exact .mk _ (.refl _) hs ⟨by rw[List.all_eq_true.2 fun x hx=>agS];rfl,rfl⟩
theorem GD(g:FuncId)(a b:bu)(o:Bool)(n:Int)(hg:∀G,ai Tryz.prog g [.i a.n,.i b.n] G fun r h' =>r=Al o n∧h' =G)(p:Perm)(h:Heap):
  ai Tryz.prog 315 [.fn g [],.sl [aS a,aS b] p] h fun r h' =>r=rE (if([a,b].all fun v=>v.kind==2)then Am o n else og 2)∧h' =h:=by
 have ix0:=fun k=>eC.eq (xs:=[aS a,aS b]) (sz:=3) 0 aeg rfl k
 have ix1:=fun k=>eC.eq (xs:=[aS a,aS b]) (sz:=3) 1 aeg rfl k
 simp only[List.getElem_cons_zero,List.getElem_cons_succ,aS,Int.natCast_zero,Int.natCast_one]at ix0 ix1;have hal:=fun(G:Heap)=>B3 2 [a,b] aeg p G
 simp only[List.map_cons,List.map_nil,aS]at hal;refine ad8 Tryz.func315 31 [.cell 4 32,.tmp 5] fun hwf=>?_
 simp only[go_sem,aS];intro i1 h1;simp only[go_sem];refine(hal _).pthen ?_;cases d1:([a,b].all fun v=>v.kind==2)
 ·simp only[go_sem]
  exact aer
 ·simp only[go_sem]
  refine .quiet aec ?_;simp only[go_sem,ix0,ix1];cases o
  ·refine⟨_,hg _,?_⟩
   simp only[go_sem,Al];exact aer
  ·refine⟨_,hg _,?_⟩
   simp only[go_sem,Al];exact aer
theorem xK{α:Type}{l:List α}(h:l.length=2):∃a b,l= [a,b]:=by
 match l,h with
 | [a,b],_=>exact⟨a,b,rfl⟩
def Gu(op:Int)(l:List bu):Bool:= !(decide (op<6)||decide (13<op)||(l.length:Int) !=(if op==11 then 1 else 2)) && l.all bz
theorem SQ(op:Int)(l:List bu)(hl:l.length≤1000000)(p:Perm)(h:Heap):ai Tryz.prog 313 [.i op,.sl (l.map aS) p] h fun r h' =>r= .b (Gu op l)∧h' =h:=by
 have hvr:=fun(v:bu) (G:Heap)=>fV v G
 simp only[aS]at hvr;refine ad8 Tryz.func313 32 [.tmp 4] fun hwf=>?_
 cases d11:(op==11)
 all_goals
  have hmm:Gu op l=(!(decide (op<6)||decide (13<op)||(l.length:Int) !=(if op==11 then 1 else 2)) && l.all bz):=rfl
  rw[d11]at hmm;simp only[if_true,Bool.false_eq_true,if_false]at hmm;cases d6:decide (op<6)
  case true=>
   rw[d6]at hmm;simp only[go_sem,d11,d6];exact .same (.refl _) ⟨by rw[hmm];rfl,rfl⟩
  cases d13:decide (13<op)
  case true=>
   rw[d6,d13]at hmm;simp only[go_sem,d11,d6,d13];exact .same (.refl _) ⟨by rw[hmm];rfl,rfl⟩
  rw[d6,d13]at hmm;simp only[Bool.or_false,Bool.false_or]at hmm;obtain⟨b,eb⟩:∃b,((l.length:Int) !=(if op==11 then 1 else 2))=b:=⟨_,rfl⟩
  rw[d11]at eb;simp only[if_true,Bool.false_eq_true,if_false]at eb;rw[eb]at hmm;cases b
  case true=>
   simp only[go_sem,d11,d6,d13,adZ,eb];exact .same (.refl _) ⟨by rw[hmm];rfl,rfl⟩
  simp only[Bool.not_false,Bool.true_and]at hmm;simp only[go_sem,d11,d6,d13,adZ,eb];refine .intro (fun q ρ G=>Ab.Sub h G∧∃i:Nat,i≤l.length∧q=l.length - i∧(∀j (hj:j<i) (h2:j<l.length),bz l[j]=true)∧lk ρ 22=some (.sl (l.map aS) p)∧lk ρ 23=some (.i l.length)∧lk ρ 24=some (.i i)) l.length ?_ ?_
  ·refine⟨.refl _,0,ad9,rfl,fun j hj=>ad9,?_,?_,?_⟩<;>simp only[go_sem]
  ·rintro q ρ G ⟨hs,i,hi,rfl,hc,r22,r23,r24⟩
   simp only[go_sem,r23,r24];refine .intro (fun e=>?_) (fun e=>?_)
   ·have hlt:i<l.length:=ad6 e
    have w1:IntKind.i64.wrap ((i:Int)+1)=((i+1:Nat):Int):=aek;have ix:=fun k=>eC.eq (xs:=l.map aS) (sz:=3) i aea aen k
    rw[ad0]at ix;have hci:=fun(d:bz l[i]=true)=>(fun j (hj:j<i+1) (h2:j<l.length)=>(by
     grind:bz l[j]=true))
    have hat:=fun(d:bz l[i]=false)=>(List.all_eq_false.2 ⟨l[i],ad4 hlt,aea⟩:l.all bz=false)
    obtain⟨v,ev⟩:∃v,l[i]=v:=⟨_,rfl⟩;rw[ev]at ix hci hat;simp only[aS]at ix;simp only[go_sem,r22,r24,ix];intro i4 h4;simp only[go_sem];refine(hvr v _).pthen ?_;cases d1:bz v
    ·simp only[go_sem]
     exact .mk _ (.refl _) (hs.trans (.aj h4)) ⟨by rw[hmm,hat d1];rfl,rfl⟩
    ·simp only[go_sem,r24,w1]
     refine⟨_,?_,hs.trans (.aj h4),i+1,ad9,rfl,hci d1,?_,?_,?_⟩
     ·omega
     all_goals simp only[go_sem,r22,r23]
   ·have hge:i=l.length:=by grind
    simp only[go_sem];exact .mk _ (.refl _) hs ⟨by rw[hmm,List.all_eq_true.2 fun x hx=>agS];rfl,rfl⟩
theorem LL{op:Int}{l:List bu}(h:Gu op l=false):gZ op l=og 1:=by
 unfold gZ;rw[if_pos]
 by_cases h1:6≤op∧op≤13
 ·by_cases h2:l.length=if op=11 then 1 else 2
  ·refine .inr (.inr ?_)
   unfold Gu at h
   grind
  omega
 omega
theorem I7{op:Int}{l:List bu}(h:Gu op l=true):(6≤op∧op≤13)∧l.all bz=true∧(op=11∧(∃a,l= [a])∨op≠11∧∃a b,l= [a,b]):=by
 unfold Gu at h;simp only[Bool.and_eq_true,Bool.not_eq_true',Bool.or_eq_false_iff,decide_eq_false_iff_not]at h;obtain⟨⟨⟨h1,h2⟩,h3⟩,h4⟩:=h;refine⟨ad9,h4,?_⟩
 by_cases e:op=11
 ·subst e
  have h3' :(l.length:Int)=1:=aea;exact .inl ⟨rfl,List.length_eq_one_iff.1 ad9⟩
 ·have h3' :(l.length:Int)=2:=by grind
  exact .inr ⟨e,xK ad9⟩
theorem B7(op:Int)(l:List bu)(hl:l.length≤1000000)(p:Perm)(h:Heap):ai Tryz.prog 310 [.i op,.sl (l.map aS) p] h fun r h' =>r=rE (gZ op l)∧h' =h:=by
 have hmy:=fun G=>SQ op l hl p G
 cases dm:Gu op l
 ·rw[dm]at hmy
  refine ad8 Tryz.func310 111 [.cell 4 32,.tmp 5] fun hwf=>?_
  simp only[go_sem];intro i1 h1;simp only[go_sem];refine(hmy _).pthen ?_;simp only[go_sem];exact .mk _ (.refl _) (.aj h1) ⟨by rw[LL dm];rfl,rfl⟩
 rw[dm]at hmy;obtain⟨hop,hall,hf⟩:=I7 dm;rcases hf with⟨rfl,a,rfl⟩|⟨e11,a,b,rfl⟩
 ·have ix0:=fun k=>eC.eq (xs:=[aS a]) (sz:=3) 0 aeg rfl k
  simp only[List.getElem_cons_zero,aS,Int.natCast_zero]at ix0;have hal:=fun(G:Heap)=>B3 1 [a] aeg p G
  simp only[List.map_cons,List.map_nil,aS]at hal hmy;have hc:gZ 11 [a]=if(([a].all fun v=>v.kind==1)=false)then og 2 else(dM (a.n==0),0):=by
   unfold gZ;rw[if_neg (by simp[hall])]
   simp
  have htr:=fun G=>BK (a.n==0) G
  refine ad8 Tryz.func310 111 [.cell 4 32,.tmp 5] fun hwf=>?_
  simp only[go_sem,List.map_cons,List.map_nil,aS];intro i1 h1;simp only[go_sem];refine(hmy _).pthen ?_;simp only[go_sem];refine(hal _).pthen ?_;cases d1:([a].all fun v=>v.kind==1)
  ·simp only[go_sem]
   exact .mk _ (.refl _) (.aj h1) ⟨by rw[hc,if_pos d1];rfl,rfl⟩
  ·simp only[go_sem,ix0]
   refine(htr _).pthen ?_;simp only[go_sem,aS];exact .mk _ (.refl _) (.aj h1) ⟨by rw[hc,if_neg (by rw[d1];decide)];rfl,rfl⟩
 ·have ix0:=fun k=>eC.eq (xs:=[aS a,aS b]) (sz:=3) 0 aeg rfl k
  have ix1:=fun k=>eC.eq (xs:=[aS a,aS b]) (sz:=3) 1 aeg rfl k
  simp only[List.getElem_cons_zero,List.getElem_cons_succ,aS,Int.natCast_zero,Int.natCast_one]at ix0 ix1;have hal:=fun(G:Heap)=>B3 1 [a,b] aeg p G
  have hva:bz a=true∧bz b=true:=by simpa using hall
  have hnu:=fun(g:FuncId) (o:Bool) (n:Int) hg (G:Heap)=>GD g a b o n hg p G
  simp only[List.map_cons,List.map_nil,aS]at hal hmy hnu;have hle:=fun G=>Cs a b G
  simp only[aS]at hle;have htr:=fun(x:Bool) G=>BK x G
  have hc:gZ op [a,b]=if op=6 then(if a.kind=b.kind then(dM (eqV a b),0)else og 2)
    else if op=7 then(match nQ a b with
     |some x=>(dM x,0)
     |none=>og 2)
    else if op=8∨op=9∨op=10 then
     (if [a,b].all fun v=>v.kind==2 then(if op=8 then Am (Ln a.n b.n) (a.n+b.n)else if op=9 then Am (NO a.n b.n) (a.n - b.n)else Am (Kb a.n b.n) (a.n*b.n))else og 2)
    else if([a,b].all fun v=>v.kind==1)=false then og 2
    else if op=12 then(dM (a.n==1 && b.n==1),0)
    else(dM (a.n==1||b.n==1),0):=by
   unfold gZ;rw[if_neg (by simp[hall,e11,hop.1,hop.2])]
   simp only[e11,if_false];rfl
  refine ad8 Tryz.func310 111 [.cell 4 32,.tmp 5] fun hwf=>?_
  simp only[go_sem,List.map_cons,List.map_nil,aS];intro i1 h1;simp only[go_sem];refine(hmy _).pthen ?_;rcases(show op=6∨op=7∨op=8∨op=9∨op=10∨op=12∨op=13 by omega)with rfl|rfl|rfl|rfl|rfl|rfl|rfl
  ·simp only[go_sem]
   refine⟨.of aec,?_⟩;cases dk:(a.kind !=b.kind)
   case true=>
    simp only[go_sem,ix0,ix1,dk];exact .mk _ (.refl _) (.aj h1) ⟨by rw[hc,if_pos rfl,if_neg (by simpa using dk)];rfl,rfl⟩
   ·simp only[go_sem,ix0,ix1,dk]
    refine .calls cV [0,1,2,3,4,5,6,7,8,9] (fun _ _ e=>aey) aec rfl ?_
    simp only[go_sem,ix0,ix1];have htr1:=htr (eqV a b);simp only[eqV]at htr1;refine(htr1 _).pthen ?_;refine⟨fun _ _ e=>aey,?_⟩
    simp only[go_sem,aS];refine⟨fun _ _ e=>aey,?_⟩
    exact .mk _ (.refl _) (.aj h1) ⟨by rw[hc,if_pos rfl,if_pos (by simpa using dk)];rfl,rfl⟩
  ·have hc7:gZ 7 [a,b]=(match nQ a b with
     |some x=>(dM x,0)
     |none=>og 2):=by rw[hc];rfl
   simp only[go_sem];refine .quiet aec ?_;simp only[go_sem,ix0,ix1];refine⟨_,hle _,?_⟩;cases hl:nQ a b with
   |none=>
    have e2:yX a b=2:=by simp[yX,hva]
    rw[hl]at hc7;simp only[go_sem,lK,hl,e2];exact .mk _ (.refl _) (.aj h1) ⟨by rw[hc7];rfl,rfl⟩
   |some x=>
    rw[hl]at hc7;simp only[go_sem,lK,hl];refine(htr x _).pthen ?_;simp only[go_sem,aS];exact .mk _ (.refl _) (.aj h1) ⟨by rw[hc7];rfl,rfl⟩
  ·have hc8:gZ 8 [a,b]=if [a,b].all (fun v=>v.kind==2)then Am (Ln a.n b.n) (a.n+b.n)else og 2:=by rw[hc];rfl
   have hg:=hnu 316 _ _ (fun G=>RV a.n b.n G)
   rw[←hc8]at hg;obtain⟨⟨v,e⟩,ex⟩:∃x,gZ 8 [a,b]=x:=⟨_,rfl⟩;exact aiP
  ·have hc8:gZ 9 [a,b]=if [a,b].all (fun v=>v.kind==2)then Am (NO a.n b.n) (a.n - b.n)else og 2:=by rw[hc];rfl
   have hg:=hnu 317 _ _ (fun G=>Tk a.n b.n G)
   rw[←hc8]at hg;obtain⟨⟨v,e⟩,ex⟩:∃x,gZ 9 [a,b]=x:=⟨_,rfl⟩;exact aiP
  ·have hc8:gZ 10 [a,b]=if [a,b].all (fun v=>v.kind==2)then Am (Kb a.n b.n) (a.n*b.n)else og 2:=by rw[hc];rfl
   have hg:=hnu 318 _ _ (fun G=>SU a.n b.n G)
   rw[←hc8]at hg;obtain⟨⟨v,e⟩,ex⟩:∃x,gZ 10 [a,b]=x:=⟨_,rfl⟩;exact aiP
  ·have hc12:gZ 12 [a,b]=if([a,b].all fun v=>v.kind==1)=false then og 2 else(dM (a.n==1 && b.n==1),0):=by rw[hc];rfl
   simp only[go_sem];refine(hal _).pthen ?_;cases d1:([a,b].all fun v=>v.kind==1)
   ·simp only[go_sem]
    exact .mk _ (.refl _) (.aj h1) ⟨by rw[hc12,if_pos d1];rfl,rfl⟩
   ·rw[if_neg (by rw[d1];decide)]at hc12
    cases da:(a.n==1)<;>cases db:(b.n==1)
    all_goals
     rw[da,db]at hc12;simp only[go_sem,ix0,ix1,da,db];refine(htr _ _).pthen ?_;simp only[go_sem,aS];exact .mk _ (.refl _) (.aj h1) ⟨by rw[hc12];rfl,rfl⟩
  ·have hc13:gZ 13 [a,b]=if([a,b].all fun v=>v.kind==1)=false then og 2 else(dM (a.n==1||b.n==1),0):=by rw[hc];rfl
   simp only[go_sem];refine(hal _).pthen ?_;cases d1:([a,b].all fun v=>v.kind==1)
   ·simp only[go_sem]
    exact .mk _ (.refl _) (.aj h1) ⟨by rw[hc13,if_pos d1];rfl,rfl⟩
   ·rw[if_neg (by rw[d1];decide)]at hc13
    cases da:(a.n==1)<;>cases db:(b.n==1)
    all_goals
     rw[da,db]at hc13;simp only[go_sem,ix0,ix1,da,db];refine(htr _ _).pthen ?_;simp only[go_sem,aS];exact .mk _ (.refl _) (.aj h1) ⟨by rw[hc13];rfl,rfl⟩
end Go.Proofs.YtbbadggejjgihaaGreatDoor
namespace Go.Bf
open Go Go.Ab Go.Proofs.YtbbadggejjgihaaGreatDoor
def bO(x:jM):AV:=.agg [.sl (x.bag.map aS) .no,.i x.v.kind,.i x.v.n,.s x.v.s,.i x.e]
end Go.Bf
namespace Go.Proofs.YtbbadggejjgihaaGreatDoor
open Go Go.Ab Go.Bf
theorem SD(x:jM)(n:Int)(h:Heap):ai Tryz.prog 273 [bO x,.i n] h fun r h' =>r= .b (isI x n)∧h' =h:=by
 refine ad8 Tryz.func273 15 [.tmp 4] fun hwf=>?_
 simp only[go_sem,bO];exact aiL
theorem O9(x:jM)(n:Int)(h:Heap):ai Tryz.prog 273 [.agg [.sl [] .full,.i x.v.kind,.i x.v.n,.s x.v.s,.i x.e],.i n] h fun r h' =>r= .b (isI x n)∧h' =h:=by
 refine ad8 Tryz.func273 15 [.tmp 4] fun hwf=>?_
 simp only[go_sem];exact aiL
theorem vL(b:Bool)(h:Heap):ai Tryz.prog 308 [.b b] h fun r h' =>r=bO (jl b)∧h' =h:=by
 refine ad8 Tryz.func308 10 [.cell 2 370] fun hwf=>?_
 simp only[go_sem];intro i1 h1;simp only[go_sem];intro i2 h2;have n21:=aI h2;have n2:=aB h2;cases b
 all_goals
  simp only[go_sem,ak,n21.symm];refine .mk (bO (jl _)) ?_ ((((Sub.refl h).put h1 _).put n2 _).put h1 _) ⟨rfl,rfl⟩;refine .agg _ _ rfl fun i a b=>?_
  rcases i with _|_|_|_|_|i
  ·exact agO
  all_goals first|exact .refl _|(simp at a;omega)
theorem FP(op:Int)(h:Heap):ai Tryz.prog 294 [.i op] h fun r h' =>r= .i (opsOf op:Nat)∧h' =h:=by
 refine ad8 Tryz.func294 11 [.tmp 2] fun hwf=>?_
 cases d1:(op==1)
 case true=>simp only[go_sem,d1];exact .same (.refl _) ⟨by rw[opsOf,if_pos (.inl aea)];rfl,rfl⟩
 cases d2:(op==2)
 case true=>simp only[go_sem,d1,d2];exact .same (.refl _) ⟨by rw[opsOf,if_pos (.inr aea)];rfl,rfl⟩
 have e1:¬(op=1∨op=2):=aea;cases d3:(op==3)
 case true=>simp only[go_sem,d1,d2,d3];exact .same (.refl _) ⟨by rw[opsOf,if_neg e1,if_pos (.inl aea)];rfl,rfl⟩
 cases d4:(op==4)
 case true=>simp only[go_sem,d1,d2,d3,d4];exact .same (.refl _) ⟨by rw[opsOf,if_neg e1,if_pos (.inr (.inl aea))];rfl,rfl⟩
 cases d5:(op==11)
 case true=>simp only[go_sem,d1,d2,d3,d4,d5];exact .same (.refl _) ⟨by rw[opsOf,if_neg e1,if_pos (.inr (.inr aea))];rfl,rfl⟩
 have e2:¬(op=3∨op=4∨op=11):=aea;simp only[go_sem,d1,d2,d3,d4,d5];exact .same (.refl _) ⟨by rw[opsOf,if_neg e1,if_neg e2];rfl,rfl⟩
theorem Gh(vs:List bu)(hl:vs.length≤1000000000)(x:bu)(p:Perm)(h:Heap):
  ai Tryz.prog 320 [.sl (vs.map aS) p,aS x] h fun r h' =>r= .i (ixD (fun y=>eqV x y) vs)∧h' =h:=by
 refine ad8 Tryz.func320 19 [.tmp 4] fun hwf=>?_
 simp only[go_sem,aS];intro i1 h1;simp only[go_sem,adZ];refine .intro (fun m ρ G=>G=upd h i1 (some (.obj [.i x.kind,.i x.n,.s x.s] 32))∧∃i:Nat,i≤vs.length∧m=vs.length - i∧(∀j (hj:j<i) (h2:j<vs.length),eqV x vs[j]=false)∧lk ρ 0=some (.sl (vs.map aS) p)∧lk ρ 3=some (.ptr i1 0)∧lk ρ 7=some (.i vs.length)∧lk ρ 8=some (.i i)) vs.length ?_ ?_
 ·refine⟨rfl,0,ad9,rfl,fun j hj=>ad9,?_,?_,?_,?_⟩<;>simp only[go_sem]
 ·rintro m ρ G ⟨rfl,i,hi,rfl,hc,r0,r3,r7,r8⟩
  simp only[go_sem,r7,r8];refine .intro (fun e=>?_) (fun e=>?_)
  ·have hlt:i<vs.length:=ad6 e
   have w1:IntKind.i64.wrap ((i:Int)+1)=((i+1:Nat):Int):=aek;have ix:=fun k=>eC.eq (xs:=vs.map aS) (sz:=3) i aea aen k
   rw[ad0]at ix;have hci:=fun(d:eqV x vs[i]=false)=>(fun j (hj:j<i+1) (h2:j<vs.length)=>(by
    grind:eqV x vs[j]=false))
   have hat:=fun(d:eqV x vs[i]=true)=>oo (q:=fun y=>eqV x y) hlt d fun j hj=>hc j hj ad9
   obtain⟨v,ev⟩:∃v,vs[i]=v:=⟨_,rfl⟩;rw[ev]at ix hci hat;simp only[aS]at ix;simp only[go_sem,r0,r3,r8];refine⟨.of aec,?_⟩;cases d1:eqV x v
   ·have d2:=d1
    simp only[eqV]at d2;simp only[go_sem,r8,ix,d2,w1];refine⟨_,?_,rfl,i+1,ad9,rfl,hci d1,?_,?_,?_,?_⟩
    ·omega
    all_goals simp only[go_sem,r0,r3,r7]
   ·have d2:=d1
    simp only[eqV]at d2;simp only[go_sem,ix,d2];exact .mk _ (.refl _) (.aj h1) ⟨aib,rfl⟩
  ·have hge:i=vs.length:=by grind
   simp only[go_sem];exact .mk _ (.refl _) (.aj h1) ⟨aeB,rfl⟩
theorem OB{vs:List bu}{x:bu}:decide ((0:Int)≤ixD (fun y=>eqV x y) vs)=vs.any fun v=>eqV v x:=by
 have hsy:(fun v=>eqV v x)=fun v=>eqV x v:=by simp[funext,eqV,BEq.comm]
 rw[uT,hsy]
theorem Qw(vs:List bu)(hl:vs.length≤1000000000)(x:bu)(p:Perm)(h:Heap):ai Tryz.prog 309 [.sl (vs.map aS) p,aS x] h fun r h' =>r= .b (vs.any fun v=>eqV v x)∧h' =h:=by
 have h1:∀G,ai Tryz.prog 312 [.sl (vs.map aS) p,aS x] G fun r h' =>r= .b (vs.any fun v=>eqV v x)∧h' =G:=fun G=>by
  have hq:=fun K=>Gh vs hl x p K
  refine ad8 Tryz.func312 9 [.tmp 4] fun hwf=>?_
  simp only[go_sem,aS];intro i1 h1;simp only[go_sem];refine(hq _).pthen ?_;simp only[go_sem,OB];exact aer
 refine ad8 Tryz.func309 8 [.tmp 4] fun hwf=>?_
 simp only[go_sem,aS];intro i1 h1';simp only[go_sem];refine(h1 _).pthen ?_;simp only[go_sem];exact .mk _ (.refl _) (.aj h1') ⟨rfl,rfl⟩
theorem lJ{L:List AV}{x:jM}(hL:L=x.bag.map aS)(q:Perm):Weak (.agg [.sl L q,.i x.v.kind,.i x.v.n,.s x.v.s,.i x.e]) (bO x):=by
 subst hL;refine .agg _ _ rfl fun i a b=>?_
 rcases i with _|_|_|_|_|i
 ·exact agO
 all_goals first|exact .refl _|(simp at a;omega)
theorem ua(op:Int):opsOf op≤2:=by
 grind [opsOf]
theorem vo{gs:List br}{op:Int}{val:bu}{attr:qs}{l:List jM}{x:jM}(h1:op≠1)(h2:op≠2)(hno:¬((op=12∨op=13)∧(l.any fun x=>isI x (op - 12))=true))(hx:l.find? (fun x=>x.e !=0)=some x):lN gs ⟨op,val,attr⟩ l=⟨[],aq,x.e⟩:=by
 simp_all [lN,if_neg]
theorem vn{gs:List br}{op:Int}{val:bu}{attr:qs}{l:List jM}(h1:op≠1)(h2:op≠2)(hno:¬((op=12∨op=13)∧(l.any fun x=>isI x (op - 12))=true))(hx:l.find? (fun x=>x.e !=0)=none):lN gs ⟨op,val,attr⟩ l=(if op=3 then(match (l.headD ⟨[],aq,0⟩).bag with
    | [v]=>⟨[],v,0⟩
    |_=>⟨[],aq,4⟩)
   else if op=4 then⟨[],⟨2,(l.headD ⟨[],aq,0⟩).bag.length,[]⟩,0⟩
   else if op=5 then jl ((l.headD ⟨[],aq,0⟩).bag.any fun v=>eqV v (l.getD 1 ⟨[],aq,0⟩).v)
   else Go.Bf.AD (gZ op (l.map (·.v)))):=by
 unfold lN;simp only[if_neg h1,if_neg h2,if_neg hno,hx]
 all_goals rfl
theorem PA{h:Heap}{y:AV}(n:aR)(hop:1≤n.op∧n.op≤13)(l:List jM)(hb:Rd h 5 y (l.map bO))(hl:l.length=opsOf n.op)(hbag:∀x∈l,x.bag.length≤1000000)(gs:List br)(hf:rW gs):
  ai Tryz.prog 295 [dL n,y,bJ gs] h fun r h' =>r=bO (lN gs n l)∧h' =h:=by
 obtain⟨op,val,attr⟩:=n;simp only at hop hl;have hl2:l.length≤2:=by rw[hl];exact ua op
 have uV:(U 32).sz=3:=aej;have hg:=fun G=>HT gs attr.cat attr.name attr.must (by have:=hf.1;omega) hf.2 G
 simp only[bJ]at hg;refine ad8 Tryz.func295 122 [.cell 6 370] fun hwf=>?_
 simp only[go_sem,dL,bJ];intro i3 h3;simp only[go_sem];intro i6 h6;have n63:=aI h6;have n6' :=aB h6;obtain⟨H0,eH⟩:∃H0,upd (upd h i3 (some (.obj [.i op,.i val.kind,.i val.n,.s val.s,.i attr.cat,.s attr.name,.b attr.must] 172))) i6 (some (.obj [.sl [] .full,.i 0,.i 0,.s [],.i 0] 370))=H0:=⟨_,rfl⟩;have hH0:Ab.Sub h H0:=ag8;have g3:H0 i3=some (.obj [.i op,.i val.kind,.i val.n,.s val.s,.i attr.cat,.s attr.name,.b attr.must] 172):=by rw[←eH,ag _ _ n63.symm,ah]
 have g6:H0 i6=some (.obj [.sl [] .full,.i 0,.i 0,.s [],.i 0] 370):=afC;rw[eH];clear eH;cases d1:(op==1)
 case true=>
  have e1:op=1:=ag9;simp only[go_sem,d1,g3,g6];exact .mk (bO ⟨[],val,0⟩) (lJ (x:=⟨[],val,0⟩) rfl _) (hH0.put n6' _) ⟨by unfold lN;simp only[e1,if_true],rfl⟩
 have hp1' :op≠1:=ag9;cases d2:(op==2)
 case true=>
  have e2:op=2:=by simpa using d2
  simp only[go_sem,d1,d2,g3];refine(hg _).pthen ?_
  by_cases hh:yf gs attr= []∧attr.must=true
  ·have hh2:Go.Bf.getD gs attr.cat attr.name= []∧attr.must=true:=hh
   simp only[go_sem,JI,if_pos hh2,g6];exact .mk (bO ⟨[],aq,4⟩) (lJ (x:=⟨[],aq,4⟩) rfl _) (hH0.put n6' _) ⟨by unfold lN;simp only[e2,if_neg (show¬(2:Int)=1 by decide),if_true,if_pos hh],rfl⟩
  ·have hh2:¬(Go.Bf.getD gs attr.cat attr.name= []∧attr.must=true):=hh
   simp only[go_sem,JI,if_neg hh2,g6];exact .mk (bO ⟨yf gs attr,aq,0⟩) (lJ (x:=⟨yf gs attr,aq,0⟩) rfl _) (hH0.put n6' _) ⟨by unfold lN;simp only[e2,if_neg (show¬(2:Int)=1 by decide),if_true,if_neg hh],rfl⟩
 have hp2' :op≠2:=by simpa using d2
 have his:=fun(x:jM) (m:Int) (G:Heap)=>SD x m G
 simp only[bO]at his;cases d12:(op==12)
 case true=>
  have e12:op=12:=by simpa using d12
  have htr:=fun G=>vL false G
  simp only[bO]at htr;obtain⟨a,b,hab⟩:∃a b,l= [a,b]:=xK (by rw[hl,e12];rfl)
  have wk:IntKind.i64.wrap (op - 12)=0:=agP;have han:(l.any fun x=>isI x (op - 12))=(isI a 0||isI b 0):=by rw[hab,e12];simp
  have hb0:l.map bO= [bO a,bO b]:=by rw[hab];rfl
  have q3:(op==3)=false:=agP;have q4:(op==4)=false:=agP;have q5:(op==5)=false:=agP;have hbH:=hb.sub hH0;simp only[go_sem,d2,d1,d12,g3,wk];refine hbH.idx (e:=370) 0 rfl agn aej aed fun p hp1=>?_
  have hld:=hp1.all (U:=U) (ty:=370) aej afi afi;simp only[go_sem,hld,hb0,List.getElem_cons_zero,bO];refine(his a 0 _).pthen ?_;cases da:isI a 0
  ·simp only[go_sem]
   refine hbH.idx (e:=370) 1 rfl agn aej aed fun p hp1=>?_
   have hld:=hp1.all (U:=U) (ty:=370) aej aeU aeU;simp only[go_sem,hld,hb0,List.getElem_cons_succ,List.getElem_cons_zero,bO];refine(his b 0 _).pthen ?_;cases db:isI b 0
   ·exact aim
   ·simp only[go_sem]
    refine(htr _).pthen ?_;simp only[go_sem,g6];exact .mk (bO (jl false)) (lJ (x:=(jl false)) rfl _) (hH0.put n6' _) ⟨by unfold lN;rw[han,da,db];simp[e12]<;>rfl,rfl⟩
  ·simp only[go_sem]
   refine(htr _).pthen ?_;simp only[go_sem,g6];exact .mk (bO (jl false)) (lJ (x:=(jl false)) rfl _) (hH0.put n6' _) ⟨by unfold lN;rw[han,da];simp[e12]<;>rfl,rfl⟩
 have hn12:op≠12:=by simpa using d12
 cases d13:(op==13)
 case true=>
  have e12:op=13:=by simpa using d13
  have htr:=fun G=>vL true G
  simp only[bO]at htr;obtain⟨a,b,hab⟩:∃a b,l= [a,b]:=xK (by rw[hl,e12];rfl)
  have wk:IntKind.i64.wrap (op - 12)=1:=agP;have han:(l.any fun x=>isI x (op - 12))=(isI a 1||isI b 1):=by rw[hab,e12];simp
  have hb0:l.map bO= [bO a,bO b]:=by rw[hab];rfl
  have q3:(op==3)=false:=agP;have q4:(op==4)=false:=agP;have q5:(op==5)=false:=agP;have hbH:=hb.sub hH0;simp only[go_sem,d1,d2,d12,d13,g3,wk];refine hbH.idx (e:=370) 0 rfl agn aej aed fun p hp1=>?_
  have hld:=hp1.all (U:=U) (ty:=370) aej afi afi;simp only[go_sem,hld,hb0,List.getElem_cons_zero,bO];refine(his a 1 _).pthen ?_;cases da:isI a 1
  ·simp only[go_sem]
   refine hbH.idx (e:=370) 1 rfl agn aej aed fun p hp1=>?_
   have hld:=hp1.all (U:=U) (ty:=370) aej aeU aeU;simp only[go_sem,hld,hb0,List.getElem_cons_succ,List.getElem_cons_zero,bO];refine(his b 1 _).pthen ?_;cases db:isI b 1
   ·exact aim
   ·simp only[go_sem]
    refine(htr _).pthen ?_;simp only[go_sem,g6];exact .mk (bO (jl true)) (lJ (x:=(jl true)) rfl _) (hH0.put n6' _) ⟨by unfold lN;rw[han,da,db];simp[e12]<;>rfl,rfl⟩
  ·simp only[go_sem]
   refine(htr _).pthen ?_;simp only[go_sem,g6];exact .mk (bO (jl true)) (lJ (x:=(jl true)) rfl _) (hH0.put n6' _) ⟨by unfold lN;rw[han,da];simp[e12]<;>rfl,rfl⟩
 have hn13:op≠13:=by simpa using d13
 have hno:¬((op=12∨op=13)∧(l.any fun x=>isI x (op - 12))=true):=fun hh=>hh.1.elim hn12 hn13
 simp only[go_sem,d1,d2,d12,d13,g3,hb.len,adZ];refine .intro (fun m ρ H=>∃(i:Nat) (z:AV),Acc U 32 H0 H z ((l.take i).map fun x=>aS x.v)∧i≤l.length∧m=l.length - i∧(∀j (h1:j<l.length),j<i→l[j].e=0)∧lk ρ 1=some y∧lk ρ 3=some (.ptr i3 0)∧lk ρ 6=some (.ptr i6 0)∧lk ρ 10=some z∧lk ρ 55=some y∧lk ρ 56=some (.i l.length)∧lk ρ 57=some (.i i)) l.length ?_ ?_
 ·refine⟨0,.sl [] .full,.full (.refl _),ad9,rfl,fun j _ hj=>ad9,?_,?_,?_,?_,?_,?_,?_⟩<;>simp only[go_sem]
 ·rintro m ρ H ⟨i,z,hz,hi,rfl,hc,r1,r3,r6,r10,r55,r56,r57⟩
  have hsH:=hH0.trans hz.1;have hbH:=hb.sub hsH;have k3:=hz.1 _ _ g3;have k6:=hz.1 _ _ g6;simp only[go_sem,r56,r57];refine .intro (fun e=>?_) (fun e=>?_)
  ·have hlt:i<l.length:=ad6 e
   have w1:=ad5 i ad9;have hsn:(l.take (i+1)).map (fun x=>aS x.v)=(l.take i).map (fun x=>aS x.v)++ [aS l[i].v]:=afn
   simp only[go_sem,r55,r57];refine hbH.idx (e:=370) i rfl aew aej aed fun p hp1=>?_
   have hld:=hp1.all (U:=U) (ty:=370) aej aeN aeN;obtain⟨x,ex⟩:∃x,l[i]=x:=⟨_,rfl⟩;rw[ex]at hsn;simp only[go_sem,hld,ad0,ex,bO];intro i12 h12;have n126:i12≠i6:=fun e=>agc
   cases dx:(x.e !=0)
   ·have dx' :x.e=0:=by simpa using dx
    simp only[go_sem,r10,dx];refine(hz.sub (.aj h12)).app (zs:=[aS x.v]) aee aee (fun k hk=>hk) afs afJ aes fun z' H' hz' kp=>?_
    simp only[go_sem,r57,w1];refine⟨_,?_,i+1,z',by rw[hsn];exact hz',ad9,rfl,fun j h1 hj=>?_,?_,?_,?_,?_,?_,?_,?_⟩
    ·omega
    ·by_cases hji:j=i
     ·subst hji;rw[ex];exact dx'
     ·exact hc j h1 ad9
    all_goals simp only[go_sem,r1,r3,r6,r55,r56]
   ·have hfi:l.find? (fun x=>x.e !=0)=some x:=by rw[←ex];exact List.find?_eq_some_iff_getElem.2 ⟨by rw[ex];exact dx,i,hlt,rfl,fun j hj=>ahD⟩
    simp only[go_sem,r6,dx,ak,n126.symm,k6];exact .mk (bO ⟨[],aq,x.e⟩) (lJ (x:=⟨[],aq,x.e⟩) rfl _) ((hsH.trans (.aj h12)).put n6' _) ⟨ahq,rfl⟩
  ·have hge:i=l.length:=by have:=ad2 e;omega
   subst hge;have hfi:l.find? (fun x=>x.e !=0)=none:=List.find?_eq_none.2 fun x hx=>by
    obtain⟨j,hj,rfl⟩:=List.mem_iff_getElem.1 hx;rw[hc j hj hj];decide
   have hnd:=vn (gs:=gs) (val:=val) (attr:=attr) hp1' hp2' hno hfi;rw[List.take_length]at hz;obtain⟨qz,eqz⟩:=hz.row;subst eqz;have hcl:=fun G=>B7 op (l.map (·.v)) ahj qz G
   rw[List.map_map]at hcl;have hcl:∀G,ai Tryz.prog 310 [.i op,.sl (l.map fun x=>aS x.v) qz] G fun r h' =>r=rE (gZ op (l.map (·.v)))∧h' =G:=hcl
   cases d3:(op==3)
   case true=>
    have e3:op=3:=ah2;obtain⟨a,ha⟩:∃a,l= [a]:=List.length_eq_one_iff.1 (by rw[hl,e3];rfl)
    have hb0:l.map bO= [bO a]:=by rw[ha];rfl
    simp only[e3,if_true,ha,List.headD_cons]at hnd;simp only[go_sem,r1,r3,k3,d3];refine hbH.idx (e:=370) 0 rfl agn aej aed fun p hp1=>?_
    (try simp only[go_sem])
    refine hp1.field (f:=0) (off:=0) (t:=196) rfl aeY fun p2 hp2=>?_
    have hld:=hp2.part (U:=U) (ty:=196) aeY ae9;simp only[hb0,List.getElem_cons_zero,bO,AV.cells]at hld;cases db:((a.bag.length:Int) !=1)
    ·have hb1:(a.bag.length:Int)=1:=by simpa using db
     obtain⟨v,hv⟩:=List.length_eq_one_iff.1 (show a.bag.length=1 by omega)
     rw[hv]at hnd hld;have iv:=fun K=>eC.eq (xs:=[aS v]) (sz:=3) 0 aeg rfl K
     simp only[List.getElem_cons_zero,aS,Int.natCast_zero]at iv;simp only[go_sem,r1,hld,List.map_cons,List.map_nil,aS];refine hbH.idx (e:=370) 0 rfl agn aej aed fun p hp1=>?_
     (try simp only[go_sem])
     refine hp1.field (f:=0) (off:=0) (t:=196) rfl aeY fun p2 hp2=>?_
     have hld:=hp2.part (U:=U) (ty:=196) aeY ae9;simp only[hb0,List.getElem_cons_zero,bO,AV.cells,hv,List.map_cons,List.map_nil,aS]at hld;simp only[go_sem,hld,iv,r6,k6];exact .mk (bO ⟨[],v,0⟩) (lJ (x:=⟨[],v,0⟩) rfl _) (hsH.put n6' _) ⟨by rw[e3,ha,hnd]<;>rfl,rfl⟩
    ·simp only[go_sem,hld,adZ,db,r6,k6]
     refine .mk (bO ⟨[],aq,4⟩) (lJ (x:=⟨[],aq,4⟩) rfl _) (hsH.put n6' _) ⟨?_,rfl⟩;rw[e3,ha,hnd]
     congr 1
     split
     ·rename_i v hv;rw[hv]at db;simp at db
     ·rfl
   cases d4:(op==4)
   case true=>
    have e4:op=4:=by simpa using d4
    obtain⟨a,ha⟩:∃a,l= [a]:=List.length_eq_one_iff.1 (by rw[hl,e4];rfl)
    have hb0:l.map bO= [bO a]:=by rw[ha];rfl
    simp only[go_sem,r1,r3,k3,d3,d4];refine hbH.idx (e:=370) 0 rfl agn aej aed fun p hp1=>?_
    (try simp only[go_sem])
    refine hp1.field (f:=0) (off:=0) (t:=196) rfl aeY fun p2 hp2=>?_
    have hld:=hp2.part (U:=U) (ty:=196) aeY ae9;simp only[hb0,List.getElem_cons_zero,bO,AV.cells]at hld;simp only[go_sem,hld,adZ,r6,k6];exact .mk (bO ⟨[],⟨2,a.bag.length,[]⟩,0⟩) (lJ (x:=⟨[],⟨2,a.bag.length,[]⟩,0⟩) rfl _) (hsH.put n6' _) ⟨by rw[hnd,e4,ha];rfl,rfl⟩
   cases d5:(op==5)
   case true=>
    have e5:op=5:=by simpa using d5
    obtain⟨a,b,hab⟩:∃a b,l= [a,b]:=xK (by rw[hl,e5];rfl)
    have hb0:l.map bO= [bO a,bO b]:=by rw[hab];rfl
    have hvh:=fun G=>Qw a.bag (by have:=hbag a (by rw[hab];simp);omega) b.v .no G
    simp only[aS]at hvh;have htr:=fun G=>vL (a.bag.any fun v=>eqV v b.v) G
    simp only[bO]at htr;simp only[go_sem,r3,k3,d3,d4,d5];refine .calls h [0,1,2,3,4,5,6,7,8,9,10] hsH aec rfl ?_;simp only[go_sem,r1];refine hb.idx (e:=370) 0 rfl agn aej aed fun p hp1=>?_
    simp only[go_sem];refine hp1.field (f:=0) (off:=0) (t:=196) rfl aeY fun p2 hp2=>?_
    have hld:=hp2.part (U:=U) (ty:=196) aeY ae9;simp only[hb0,List.getElem_cons_zero,bO,AV.cells]at hld;simp only[go_sem,hld,r1];refine hb.idx (e:=370) 1 rfl agn aej aed fun p hp3=>?_
    simp only[go_sem];refine hp3.field (f:=1) (off:=1) (t:=32) rfl aeY fun p4 hp4=>?_
    have hld4:=hp4.part (U:=U) (ty:=32) aeY (by simp only[go_sem,hb0,List.getElem_cons_succ,List.getElem_cons_zero];exact adY rfl)
    simp only[hb0,List.getElem_cons_succ,List.getElem_cons_zero,bO,AV.cells]at hld4;simp only[go_sem,hld4];refine(hvh _).pthen ?_;refine⟨hsH,?_⟩;simp only[go_sem];refine(htr _).pthen ?_;refine⟨hsH,?_⟩;simp only[go_sem,r6,k6];refine⟨hsH.put n6' _,?_⟩;exact .mk (bO (jl (a.bag.any fun v=>eqV v b.v))) (lJ (x:=(jl (a.bag.any fun v=>eqV v b.v))) rfl _) (hsH.put n6' _) ⟨by rw[hnd,e5,hab];rfl,rfl⟩
   obtain⟨⟨v,e⟩,ev⟩:∃x,gZ op (l.map (·.v))=x:=⟨_,rfl⟩
   rw[ev]at hcl;simp only[go_sem,r3,r10,k3,d3,d4,d5];refine(hcl _).pthen ?_;simp only[go_sem,rE,aS];intro i13 h13;have n136:i13≠i6:=fun e=>ahL
   simp only[go_sem,r6,ak,n136.symm,k6];exact .mk (bO ⟨[],v,e⟩) (lJ (x:=⟨[],v,e⟩) rfl _) ((hsH.trans (.aj h13)).put n6' _) ⟨by rw[hnd];simp only[if_neg (show¬op=3 by simpa using d3),if_neg (show¬op=4 by simpa using d4),if_neg (show¬op=5 by simpa using d5)];rw[ev]<;>rfl,rfl⟩
end Go.Proofs.YtbbadggejjgihaaGreatDoor
namespace Go.Bf
open Go Go.Ab Go.Proofs.YtbbadggejjgihaaGreatDoor
theorem CH{t:gj}(h:lU t=0):On t:=by
 obtain⟨h1,h2⟩:=BI h;refine⟨ad9,fun x hx=>?_⟩
 grind [AM,AL]
theorem M6.turn{m:aT}(h:M6 m):M6 (E5 m):=by
 exact aiV
theorem M6.indet{m:aT}(h:M6 m):M6 (gT m):=by
 exact aiV
theorem M6.first{l:List aT}(h:∀m∈l,M6 m):M6 (firstM l):=by
 unfold firstM;cases hf:l.find? fun m=>decide (m≠naM)with
 |none=>decide
 |some m=>grind
theorem M6.only:∀(l:List aT) (j:aT),(∀m∈l,M6 m)→M6 j→M6 (oT l j)
 | [],j,_,hj=>hj
 |m::r,j,h,hj=>by
  simp only[oT];split
  ·decide
  ·refine M6.only r _ aea ?_
   split
   ·grind
   ·split
    ·decide
    omega
theorem HE{alg:Int}{l:List aT}(h:∀m∈l,M6 m):M6 (ia alg l):=by
 unfold ia;split
 ·exact Is _
 ·split
  ·exact M6.turn (Is _)
  ·split
   ·exact .first h
   ·split
    ·exact .only _ _ h aed
    ·split
     ·split<;>decide
     ·split
      ·split<;>decide
      decide
theorem AW(r:cR)(t c:Nat):M6 (nM r t c).1:=by
 unfold nM;cases r.deny
 all_goals
  simp only[if_true,Bool.false_eq_true,if_false];split
  ·decide
  ·split
   ·decide
   ·first|(show M6 aW;decide)|(show M6 cH;decide)
theorem Pb(alg:Int)(obls:List cD)(t:Nat){parts:List jW}(h:∀x∈parts,M6 x.1):M6 (qd alg obls t parts).1:=by
 have hc:M6 (ia alg (parts.map (·.1))):=HE fun m hm=>by
  grind
 unfold qd;simp only;split
 ·decide
 ·split
  ·exact hc.indet
  ·split
   ·exact hc
   ·exact hc
mutual
theorem xF(gs:List br):∀p:bD,M6 (fJ gs p).1
 |.mk id set alg tgt rules kids obls=>by
  have ih:=Dt gs kids;simp only[fJ];split
  ·decide
  ·refine Pb alg obls _ fun x hx=>?_
   rcases List.mem_append.1 hx with hx|hx
   ·obtain⟨r,_,rfl⟩:=List.mem_map.1 hx
    exact AW _ _ _
   ·exact ih x hx
theorem Dt(gs:List br):∀l:List bD,∀x∈mT gs l,M6 x.1
 | [],x,hx=>by simp[mT]at hx
 |k::r,x,hx=>by
  have h1:=xF gs k;have h2:=Dt gs r;simp only[mT,List.mem_cons]at hx;rcases hx with rfl|hx
  ·exact h1
  ·exact h2 x hx
end
theorem Lv{gs:List br}(h:QB gs):rW gs:=⟨by have:=h.len;omega,fun g hg=>by have:=(h.each g hg).2.2.2.1;omega⟩
theorem HO{α:Type}(B:Nat):∀(L:List (List α)),(∀x∈L,x.length≤B)→L.flatten.length≤L.length*B
 | [],_=>aeg
 |x::L,h=>by
  have h1:=h x aeg;have h2:=HO B L fun y hy=>h y aea
  rw[List.flatten_cons,ad3,List.length_cons,Nat.add_mul];omega
theorem uh{alg:Int}{m:aT}{parts:List jW}{B:Nat}(hp:∀x∈parts,x.2.length≤B)(hn:parts.length≤32):(fc alg m parts).length≤32*B+B:=by
 unfold fc;split
 ·cases hf:parts.find? fun x=>x.1==m with
  |none=>simp
  |some x=>grind
 ·have h1:=HO B (((parts.filter fun x=>x.1==m).map (·.2))) fun x hx=>by
   grind
  have h2:((parts.filter fun x=>x.1==m).map (·.2)).length≤32:=by
   grind
  have:=Nat.mul_le_mul_right B h2;omega
theorem kY(l:List cD)(m:aT):(eW l m).length≤l.length:=List.length_filter_le _ _
theorem AU(r:cR)(t c:Nat):(nM r t c).2.length≤r.obls.length:=by
 unfold nM
 all_goals
  grind [kY]
def oB:Nat→Nat
 |0=>8
 |n+1=>8+33*oB n
theorem V3(n:Nat):8≤oB n:=by
 cases n with
 |zero=>decide
 |succ n=>grind [oB]
theorem Cd(gs:List br):∀(n d:Nat) (p:bD),d+n=5→mF d p→(fJ gs p).2.length≤oB n
 |0,d,.mk id set alg tgt rules kids obls,hd,h=>by grind [mF]
 |n+1,d,.mk id set alg tgt rules kids obls,hd,h=>by
  simp only[mF,qR]at h;obtain⟨_,_,_,_,_,_,g2,g3,g4,g5,g6,g7⟩:=h;have hob:=(kT g3).1;have h8:=V3 n;simp only[fJ];split
  ·simp
  ·unfold qd
   simp only;split
   ·simp
   ·split
    ·simp
    ·split
     ·simp
     ·have h1:=uh (alg:=alg) (m:=ia alg ((rules.map (iC gs)++mT gs kids).map (·.1))) (parts:=rules.map (iC gs)++mT gs kids) (B:=oB n) (fun x hx=>by
       rcases List.mem_append.1 hx with hx|hx
       ·obtain⟨r,hr,rfl⟩:=List.mem_map.1 hx
        have:=AU r (nc gs r.tgt) (qG gs r.cond);have:=(kT (g6 r hr).2.2.2).1
        show(nM r (nc gs r.tgt) (qG gs r.cond)).2.length≤_
        omega
       ·rw[tK]at hx
        obtain⟨k,hk,rfl⟩:=List.mem_map.1 hx;exact Cd gs n (d+1) k ad9 (g7 k hk)) (by grind [ad3,adZ,tK])
      have h2:=kY obls (ia alg ((rules.map (iC gs)++mT gs kids).map (·.1)))
      simp only[ad3,oB];omega
theorem Du(gs:List br){p:bD}(h:mF 1 p):(fJ gs p).2.length≤10000000:=Nat.le_trans (Cd gs 4 1 p rfl h) aed
theorem KZ{op:Int}{w:List Bool}(hw:iP op=some w):w.length=opsOf op∧1≤op∧op≤13:=by
 have h1:1≤op∧op≤13:=by
  grind [iP]
 refine⟨?_,h1⟩;rcases(show op=1∨op=2∨op=3∨op=4∨op=5∨op=6∨op=7∨op=8∨op=9∨op=10∨op=11∨op=12∨op=13 by omega)with rfl|rfl|rfl|rfl|rfl|rfl|rfl|rfl|rfl|rfl|rfl|rfl|rfl
 all_goals (simp[iP]at hw;subst hw;rfl)
theorem KH{bs bs' :List Bool}{n:aR}(h:iN bs n=some bs'):(1≤n.op∧n.op≤13)∧opsOf n.op≤bs.length∧bs'.length=bs.length - opsOf n.op+1:=by
 unfold iN at h;cases hw:iP n.op with
 |none=>grind
 |some w=>
  grind [KZ,ad3,List.length_take,List.length_singleton]
theorem Qd{l:List aR}{z bs:List Bool}{i:Nat}(hl:fX [] l=some z)(hi:i<l.length)(hb:fX [] (l.take i)=some bs):∃bs',iN bs l[i]=some bs'∧fX [] (l.take (i+1))=some bs' :=by
 have h1:=ku [] l i;rw[hl,hb,List.drop_eq_getElem_cons hi]at h1;simp only[fX]at h1;cases hs:iN bs l[i]with
 |none=>rw[hs]at h1;cases h1
 |some bs' =>
  rw[ku [] _ i,List.take_take,Nat.min_eq_left ad9,hb,List.take_succ_eq_append_getElem hi,List.drop_append_of_le_length aea,List.drop_of_length_le aea]
  grind [fX]
theorem MS{gs:List br}(hf:rW gs)(n:aR)(l:List jM):(lN gs n l).bag.length≤1000000:=by
 unfold lN AD jl
 repeat' split
 all_goals first|exact hf.bag _|simp
def VR(x:jM):AV:=.tup [aS x.v,.i x.e]
end Go.Bf
namespace Go.Proofs.YtbbadggejjgihaaGreatDoor
open Go Go.Ab Go.Bf
theorem L6(l:List aR)(hn:l≠ [])(he:kI l=0)(gs:List br)(hf:rW gs)(h:Heap):ai Tryz.prog 272 [fE l,bJ gs] h fun r h' =>r=VR (wG gs l)∧h' =h:=by
 obtain⟨h32,hst⟩:=yA he hn;have hex:=fun G=>HL l G
 rw[he]at hex;simp only[fE]at hex;have dl:((l.length:Int)==0)=false:=aic;refine ad8 Tryz.func272 51 [.cell 4 32,.tmp 5] fun hwf=>?_
 simp only[go_sem,fE,bJ];intro i4 h4;simp only[go_sem,adZ,dl];refine(hex _).pthen ?_;simp only[go_sem,adZ];obtain⟨H0,eH⟩:∃H0,upd h i4 (some (.obj [.i 0,.i 0,.s []] 32))=H0:=⟨_,rfl⟩;have hH0:Ab.Sub h H0:=by rw[←eH];exact .aj h4
 have g4:H0 i4=some (.obj [.i 0,.i 0,.s []] 32):=afC;rw[eH];clear eH;refine .intro (fun m ρ H=>∃(i:Nat) (y:AV) (st:List jM) (bs:List Bool),OwE 370 H0 H 5 y (st.map bO)∧Ab.Sub H0 H∧(l.take i).foldl (zN gs) []=st∧fX [] (l.take i)=some bs∧bs.length=st.length∧(∀x∈st,x.bag.length≤1000000)∧i≤l.length∧m=l.length - i∧lk ρ 1=some (.sl (gs.map lH) .no)∧lk ρ 4=some (.ptr i4 0)∧lk ρ 6=some y∧lk ρ 19=some (.sl (l.map dL) .no)∧lk ρ 20=some (.i l.length)∧lk ρ 21=some (.i i)) l.length ?_ ?_
 ·refine⟨0,_,[],[],.inl ⟨rfl,rfl⟩,.refl _,rfl,rfl,rfl,fun x hx=>aea,ad9,rfl,?_,?_,?_,?_,?_,?_⟩<;>simp only[go_sem]
 ·rintro m ρ H ⟨i,y,st,bs,hw,hsH,hfo,hbs,hlen,hbag,hi,rfl,r1,r4,r6,r19,r20,r21⟩
  have hsl:bs.length≤i:=by have:=sr _ _ _ hbs;simpa[Nat.min_eq_left hi]using this
  simp only[go_sem,r20,r21];refine .intro (fun e=>?_) (fun e=>?_)
  ·have hlt:i<l.length:=ad6 e
   have w1:IntKind.i64.wrap ((i:Int)+1)=((i+1:Nat):Int):=aek;obtain⟨bs',hb1,hb2⟩:=Qd hst hlt hbs;have hfs:(l.take (i+1)).foldl (zN gs) []=zN gs st l[i]:=by grind [List.take_succ_eq_append_getElem]
   have ix:=fun k=>eC.eq (xs:=l.map dL) (sz:=7) i aea aen k
   rw[ad0]at ix;obtain⟨n,en⟩:∃n,l[i]=n:=⟨_,rfl⟩;rw[en]at hb1 hfs ix;obtain⟨hop,hle,hln⟩:=KH hb1;rw[hlen]at hle;obtain⟨k,ek⟩:∃k,st.length - opsOf n.op=k:=⟨_,rfl⟩;have wk:IntKind.i64.wrap ((st.length:Int) - (opsOf n.op:Int))=(k:Int):=aek;have hstep:zN gs st n=st.take k++ [lN gs n (st.drop k)]:=by grind [zN]
   simp only[dL]at ix;simp only[go_sem,r19,r21,ix];intro i8 h8;obtain⟨H8,eH⟩:∃H8,upd H i8 (some (.obj [.i n.op,.i n.val.kind,.i n.val.n,.s n.val.s,.i n.attr.cat,.s n.attr.name,.b n.attr.must] 172))=H8:=⟨_,rfl⟩;have hs8:Ab.Sub H H8:=by rw[←eH];exact .aj h8
   have k8:H8 i8=some (.obj [.i n.op,.i n.val.kind,.i n.val.n,.s n.val.s,.i n.attr.cat,.s n.attr.name,.b n.attr.must] 172):=afC;have hw8:=hw.sub hs8;simp only[go_sem,r6,hw8.rd.len,adZ];refine(FP n.op _).pthen ?_;rw[eH];clear eH;simp only[go_sem,wk];refine .calls (hm1 i8 (.obj [.i n.op,.i n.val.kind,.i n.val.n,.s n.val.s,.i n.attr.cat,.s n.attr.name,.b n.attr.must] 172)) [0,1,2,3,4,5,6,7,8,9,10,11] (.hm1 k8) aec rfl ?_;simp only[go_sem,r6];refine hw8.cut (U:=U) (x:=.i64) k aeo rfl aea aeo aed fun z hz hzy=>?_
   simp only[go_sem,r6,gp];refine hw8.from (U:=U) (x:=.i64) k aeo rfl aea aeo aed fun z2 hz2=>?_
   rw[←List.map_drop]at hz2;rw[←List.map_take]at hz;have hnd:=PA n hop (st.drop k) hz2 aea (fun x hx=>hbag x (List.mem_of_mem_drop hx)) gs hf
   have hnb:=MS hf n (st.drop k);obtain⟨x,ex⟩:∃x,lN gs n (st.drop k)=x:=⟨_,rfl⟩;rw[ex]at hnd hnb hstep;simp only[dL,bJ,bO]at hnd;simp only[go_sem,r1];refine hnd.pthen ?_;refine⟨.hm1 k8,?_⟩;simp only[go_sem];have hone:Rd H8 5 (.sl [bO x] .full) [bO x]:=.sl (fun z hz=>ag3) .full
   simp only[bO]at hone;refine OwE.app (U:=U) (tb:=370) hz (hsH.trans hs8) hone aeo aed aed aeo aeg aes fun id y' H' hid hor how hoth=>?_
   have n8:i8≠id:=by
    intro e8;rcases hor with ho|⟨lz,cz,ez⟩
    ·grind
    ·exact mq (hz.nid (id:=id) (by rw[ez];rfl)).2.2 k8 aed e8.symm
   have hsub' :Ab.Sub H0 H' :=fun j b hj=>by rw[hoth j (fun e=>aea)];exact(hsH.trans hs8) _ _ hj
   refine⟨.hm1 aea,?_⟩;simp only[go_sem,r21,w1];refine⟨_,?_,i+1,y',zN gs st n,bs',.inr ⟨id,hid,by rw[hstep,List.map_append];exact how⟩,hsub',hfs,hb2,aea,fun w hw=>?_,ad9,rfl,?_,?_,?_,?_,?_,?_⟩
   ·omega
   ·grind
   all_goals simp only[go_sem,r1,r4,r19,r20]
  ·have hge:i=l.length:=by grind
   subst hge;rw[List.take_length]at hbs hfo;rw[hst]at hbs;cases hbs;obtain⟨x,rfl⟩:=List.length_eq_one_iff.1 hlen.symm;have hit:wG gs l=x:=by simp_all [wG,if_neg]
   obtain⟨id,hid,how⟩:=hw.ow aeg;have hwp:Rd (pick H [id]) 5 y [bO x]:=(how.same (bC (List.mem_singleton.2 rfl))).rd;have n4:i4≠id:=fun e=>aea
   have k4:=hsH _ _ g4;simp only[go_sem];refine .calls (pick H [id]) [0,1,2,3,4,5,6,7,8,9] bR aec rfl ?_;simp only[go_sem,r6];refine hwp.idx (U:=U) (e:=370) 0 rfl aeg aeo aed fun p hp1=>?_
   simp only[go_sem];refine hp1.field (f:=1) (off:=1) (t:=32) rfl aed fun p2 hp2=>?_
   have hld:=hp2.part (U:=U) (ty:=32) aed agA;simp only[List.getElem_cons_zero,bO,AV.cells]at hld;simp only[go_sem,r6,hld];refine hwp.idx (U:=U) (e:=370) 0 rfl aeg aeo aed fun p3 hp3=>?_
   simp only[go_sem];refine hp3.field (f:=2) (off:=4) (t:=55) rfl aed fun p4 hp4=>?_
   have hld4:=hp4.part (U:=U) (ty:=55) aed agA;simp only[List.getElem_cons_zero,bO,AV.cells]at hld4;simp only[go_sem,r4,hld4,k4];refine⟨bR.put (by grind [pick]) _,?_⟩
   exact .mk _ (.refl _) ((hH0.trans hsH).put h4 _) ⟨by rw[hit];rfl,rfl⟩
theorem OM(l:List aR)(he:kI l=0)(gs:List br)(hf:rW gs)(h:Heap):ai Tryz.prog 247 [fE l,bJ gs] h fun r h' =>r= .i (qG gs l:Nat)∧h' =h:=by
 by_cases hn:l= []
 ·subst hn
  refine ad8 Tryz.func247 26 [.tmp 4] fun hwf=>?_
  simp only[go_sem,fE,bJ,List.map_nil,List.length_nil];exact aei
 have hv:=fun G=>L6 l hn he gs hf G
 have hcd:qG gs l=if isI (wG gs l) 1 then 2 else if isI (wG gs l) 0 then 0 else 1:=by
  simp_all [qG,if_neg]
 obtain⟨x,ex⟩:∃x,wG gs l=x:=⟨_,rfl⟩;rw[ex]at hv hcd;simp only[fE,bJ,VR,aS]at hv;have hi1:∀(m:Int) G,ai Tryz.prog 273 [.agg [.sl [] .full,.i x.v.kind,.i x.v.n,.s x.v.s,.i x.e],.i m] G fun r h' =>r= .b (isI x m)∧h' =G:=fun m G=>O9 x m G
 have dl:((l.length:Int)==0)=false:=aic;refine ad8 Tryz.func247 26 [.tmp 4] fun hwf=>?_
 simp only[go_sem,fE,bJ,adZ,dl];refine(hv _).pthen ?_;simp only[go_sem];intro i5 h5;simp only[go_sem];intro i7 h7;have n7:=aB h7;have hs:∀x y,Ab.Sub h (upd (upd h i5 x) i7 y):=fun x y=>((Sub.refl h).put h5 x).put n7 y
 simp only[go_sem];refine(hi1 1 _).pthen ?_;cases d1:isI x 1
 case true=>
  rw[d1]at hcd;simp only[go_sem];exact .mk _ (.refl _) (hs _ _) ⟨by rw[hcd];rfl,rfl⟩
 simp only[go_sem];refine(hi1 0 _).pthen ?_;cases d0:isI x 0
 all_goals
  rw[d1,d0]at hcd;simp only[go_sem];exact .mk _ (.refl _) (hs _ _) ⟨by rw[hcd];rfl,rfl⟩
end Go.Proofs.YtbbadggejjgihaaGreatDoor
namespace Go.Bf
open Go Go.Ab Go.Proofs.YtbbadggejjgihaaGreatDoor
def j8(l:List aT)(p:Perm):AV:=.sl (l.map aN) p
theorem M9.na:M9 naM:=aed
theorem Co(l:List aT)(i:Nat)(h:i<l.length):(l.take (i+1)).foldl oO naM=oO ((l.take i).foldl oO naM) l[i]:=by
 grind [List.take_succ_eq_append_getElem]
theorem Jy{l:List aT}{q:aT→Bool}(hq:∀m,q m=decide (m≠naM))(h:l.findIdx q<l.length):firstM l=l[l.findIdx q]:=by
 unfold firstM;have e:q=fun m=>decide (m≠naM):=funext hq
 subst e;rw[show l.find? (fun m=>decide (m≠naM))=some l[l.findIdx fun m=>decide (m≠naM)]from List.find?_eq_some_iff_getElem.2 ⟨List.findIdx_getElem (w:=h),_,h,rfl,fun j hj=>aea⟩]
 rfl
theorem Jz{l:List aT}{q:aT→Bool}(hq:∀m,q m=decide (m≠naM))(h:¬l.findIdx q<l.length):firstM l=naM:=by
 unfold firstM;rw[List.find?_eq_none.2 fun x hx=>aea]
 rfl
def wZ(j m:aT):aT:=if j=naM then m else if m≠naM then mW else j
theorem MX{l:List aT}{i:Nat}(h:i<l.length)(j:aT):oT (l.drop i) j=if zO l[i]=false then mW else oT (l.drop (i+1)) (wZ j l[i]):=by
 rw[List.drop_eq_getElem_cons h];rfl
end Go.Bf
namespace Go.Proofs.YtbbadggejjgihaaGreatDoor
open Go Go.Ab Go.Bf
theorem Ww:(U 36).sz=1:=aeo
theorem J1(ms:List aT)(hl:ms.length≤1000000000)(q:aT→Bool)(g:FuncId)(cap:List AV)(p:Perm)(h:Heap)(hp:∀m∈ms,ai Tryz.prog g (aN m::cap) h fun r h' =>r= .b (q m)∧h' =h):
  ai Tryz.prog 298 [j8 ms p,.fn g cap] h fun r h' =>r= .i (ixD q ms)∧h' =h:=by
 refine ad8 Tryz.func298 19 [.tmp 4] fun hwf=>?_
 simp only[go_sem,j8,adZ];refine .intro (fun m ρ h' =>h' =h∧∃i:Nat,i≤ms.length∧m=ms.length - i∧(∀j (hj:j<i) (h2:j<ms.length),q ms[j]=false)∧lk ρ 0=some (.sl (ms.map aN) p)∧lk ρ 1=some (.fn g cap)∧lk ρ 7=some (.i ms.length)∧lk ρ 8=some (.i i)) ms.length ?_ ?_
 ·refine⟨rfl,0,ad9,rfl,fun j hj=>ad9,?_,?_,?_,?_⟩<;>simp only[go_sem]
 ·rintro m ρ h' ⟨rfl,i,hi,rfl,hc,r0,r1,r7,r8⟩
  simp only[go_sem,r7,r8];refine .intro (fun e=>?_) (fun e=>?_)
  ·have hlt:i<ms.length:=ad6 e
   have w1:IntKind.i64.wrap ((i:Int)+1)=((i+1:Nat):Int):=aek;have ix:=fun k=>eC.eq (xs:=ms.map aN) (sz:=1) i aea aen k
   rw[ad0]at ix;have hg:=hp ms[i] (ad4 hlt);have hci:=fun(d:q ms[i]=false)=>(fun j (hj:j<i+1) (h2:j<ms.length)=>(by
    grind:q ms[j]=false))
   have hat:=fun(d:q ms[i]=true)=>oo hlt d fun j hj=>hc j hj ad9
   obtain⟨m,em⟩:∃m,ms[i]=m:=⟨_,rfl⟩;rw[em]at ix hg hci hat;simp only[aN]at ix;simp only[go_sem,r0,r1,r8,ix];refine(show ai Tryz.prog g (.v (.complex .f64 (hbit m.1) (hbit m.2))::cap) _ _ from hg).pthen ?_
   cases d1:q m
   ·simp only[go_sem,r8,w1]
    refine⟨_,?_,rfl,i+1,ad9,rfl,hci d1,?_,?_,?_,?_⟩
    ·omega
    all_goals simp only[go_sem,r0,r1,r7]
   ·simp only[go_sem]
    exact .same (.refl _) ⟨aib,rfl⟩
  ·have hge:i=ms.length:=by grind
   simp only[go_sem];exact .same (.refl _) ⟨aeB,rfl⟩
theorem Gg(ms:List aT)(hl:ms.length≤1000000000)(hmm:∀m∈ms,M9 m)(x:aT)(hx:M9 x)(p:Perm)(h:Heap):
  ai Tryz.prog 311 [j8 ms p,aN x] h fun r h' =>r= .i (ixD (fun y=>x==y) ms)∧h' =h:=by
 refine ad8 Tryz.func311 19 [.tmp 4] fun hwf=>?_
 simp only[go_sem,j8,adZ];refine .intro (fun m ρ h' =>h' =h∧∃i:Nat,i≤ms.length∧m=ms.length - i∧(∀j (hj:j<i) (h2:j<ms.length),(x==ms[j])=false)∧lk ρ 0=some (.sl (ms.map aN) p)∧lk ρ 1=some (aN x)∧lk ρ 7=some (.i ms.length)∧lk ρ 8=some (.i i)) ms.length ?_ ?_
 ·refine⟨rfl,0,ad9,rfl,fun j hj=>ad9,?_,?_,?_,?_⟩<;>simp only[go_sem]
 ·rintro m ρ h' ⟨rfl,i,hi,rfl,hc,r0,r1,r7,r8⟩
  simp only[go_sem,r7,r8];refine .intro (fun e=>?_) (fun e=>?_)
  ·have hlt:i<ms.length:=ad6 e
   have w1:IntKind.i64.wrap ((i:Int)+1)=((i+1:Nat):Int):=aek;have ix:=fun k=>eC.eq (xs:=ms.map aN) (sz:=1) i aea aen k
   rw[ad0]at ix;have hm9:=hmm ms[i] (ad4 hlt);have hci:=fun(d:(x==ms[i])=false)=>(fun j (hj:j<i+1) (h2:j<ms.length)=>(by
    grind:(x==ms[j])=false))
   have hat:=fun(d:(x==ms[i])=true)=>oo (q:=fun y=>x==y) hlt d fun j hj=>hc j hj ad9
   obtain⟨m,em⟩:∃m,ms[i]=m:=⟨_,rfl⟩;rw[em]at ix hm9 hci hat;simp only[aN]at ix r1;have ne:=zi hx hm9;cases d1:(x==m)
   ·simp only[go_sem,r0,r1,r8,ix,ne,d1,w1]
    refine⟨_,?_,rfl,i+1,ad9,rfl,hci d1,?_,?_,?_,?_⟩
    ·omega
    all_goals simp only[go_sem,r0,r1,r7,aN]
   ·simp only[go_sem,r0,r1,r8,ix,ne,d1]
    exact .same (.refl _) ⟨aib,rfl⟩
  ·have hge:i=ms.length:=by grind
   simp only[go_sem];exact .same (.refl _) ⟨aeB,rfl⟩
theorem F9(ms:List aT)(hl:ms.length≤1000000000)(hmm:∀m∈ms,M9 m)(x:aT)(hx:M9 x)(p:Perm)(h:Heap):
  ai Tryz.prog 302 [j8 ms p,aN x] h fun r h' =>r= .b (decide (x∈ms))∧h' =h:=by
 refine ad8 Tryz.func302 9 [.tmp 4] fun hwf=>?_
 simp only[go_sem];refine(Gg ms hl hmm x hx p _).pthen ?_;simp only[go_sem];exact .same (.refl _) ⟨by rw[uT,show(ms.any fun y=>x==y)=decide (x∈ms) by grind];rfl,rfl⟩
theorem Fw(m:aT)(hmm:M9 m)(h:Heap):ai Tryz.prog 299 [aN m] h fun r h' =>r= .b (!(m==naM))∧h' =h:=by
 have n:=(nb hmm).nna;refine ad8 Tryz.func299 5 [.tmp 2] fun hwf=>?_
 simp only[go_sem,aN,n];exact aei
theorem Qi(m:aT)(hmm:M9 m)(h:Heap):ai Tryz.prog 300 [aN m] h fun r h' =>r= .b (zO m)∧h' =h:=by
 obtain⟨n1,n2,n3,_⟩:=nb hmm;refine ad8 Tryz.func300 13 [.tmp 2] fun hwf=>?_
 have es:zO m=(m==naM||(m==aW||m==cH)):=by
  unfold zO
  grind
 rw[es];cases d1:(m==naM)<;>cases d2:(m==aW)<;>cases d3:(m==cH)
 all_goals
  simp only[go_sem,aN,n1,n2,n3,d1,d2,d3];exact aei
theorem Mb(ms:List aT)(hl:ms.length≤1000000000)(hmm:∀m∈ms,M9 m)(p:Perm)(h:Heap):ai Tryz.prog 278 [j8 ms p] h fun r h' =>r=aN (firstM ms)∧h' =h:=by
 refine ad8 Tryz.func278 12 [.tmp 2] fun hwf=>?_
 simp only[go_sem,j8];refine(J1 ms hl (fun m=> !(m==naM)) _ [] p _ fun m h=>Fw m (hmm m h) _).pthen ?_
 have hq:∀m:aT,(!(m==naM))=decide (m≠naM):=fun m=>aea
 by_cases hx:ms.findIdx (fun m=> !(m==naM))<ms.length
 ·obtain⟨i,ei⟩:∃i,ms.findIdx (fun m=> !(m==naM))=i:=⟨_,rfl⟩
  have ef:=Jy hq hx;have e1:ixD (fun m=> !(m==naM)) ms=(i:Nat):=by rw[ixD,ei];omega
  simp only[ei]at ef;have d1:decide ((0:Int)≤((i:Nat):Int))=true:=decide_eq_true ad9;have ix:=fun k=>eC.eq (xs:=ms.map aN) (sz:=1) i aea aen k
  rw[ad0,←ef]at ix;rw[e1];simp only[go_sem,d1,ix];exact aei
 ·have e1:ixD (fun m=> !(m==naM)) ms= -1:=by simp_all [ixD,if_neg]
  have d1:decide ((0:Int)≤ -1)=false:=rfl;rw[e1];simp only[go_sem,d1];exact .same (.refl _) ⟨by rw[Jz hq hx];rfl,rfl⟩
theorem NL(j m:aT)(hj:M9 j)(hmm:M9 m)(h:Heap):ai Tryz.prog 301 [.i 4,aN j,aN m] h fun r h' =>r=aN (wZ j m)∧h' =h:=by
 have n1:=(nb hj).na;have n2:=(nb hmm).nna;refine ad8 Tryz.func301 31 [.tmp 6] fun hwf=>?_
 cases d1:(j==naM)
 case true=>
  simp only[go_sem,aN,n1,d1];exact .same (.refl _) ⟨by rw[wZ,if_pos aea];rfl,rfl⟩
 cases d2:(m==naM)
 ·simp only[go_sem,aN,n1,n2,d1,d2]
  exact .same (.refl _) ⟨by rw[wZ,if_neg aea,if_pos aea];rfl,rfl⟩
 ·simp only[go_sem,aN,n1,n2,d1,d2]
  exact .same (.refl _) ⟨by rw[wZ,if_neg aea,if_neg aea];rfl,rfl⟩
theorem M9.step{j m:aT}(hj:M9 j)(hmm:M9 m):M9 (wZ j m):=by
 unfold wZ
 repeat' split
 ·omega
 ·decide
 omega
theorem PJ(ms:List aT)(hl:ms.length≤1000000000)(hmm:∀m∈ms,M9 m)(p:Perm)(h:Heap):ai Tryz.prog 279 [j8 ms p] h fun r h' =>r=aN (oT ms naM)∧h' =h:=by
 refine ad8 Tryz.func279 20 [.tmp 2] fun hwf=>?_
 simp only[go_sem,j8,adZ];refine .intro (fun m ρ h' =>h' =h∧∃(i:Nat) (j:aT),i≤ms.length∧m=ms.length - i∧M9 j∧oT (ms.drop i) j=oT ms naM∧lk ρ 3=some (aN j)∧lk ρ 6=some (.sl (ms.map aN) p)∧lk ρ 7=some (.i ms.length)∧lk ρ 8=some (.i i)) ms.length ?_ ?_
 ·refine⟨rfl,0,naM,ad9,rfl,.na,rfl,?_,?_,?_,?_⟩<;>simp only[go_sem,aN,naM,hbit]
 ·rintro m ρ h' ⟨rfl,i,j,hi,rfl,hj,ho,r3,r6,r7,r8⟩
  simp only[go_sem,r7,r8];refine .intro (fun e=>?_) (fun e=>?_)
  ·have hlt:i<ms.length:=ad6 e
   have w1:IntKind.i64.wrap ((i:Int)+1)=((i+1:Nat):Int):=aek;have ix:=fun k=>eC.eq (xs:=ms.map aN) (sz:=1) i aea aen k
   rw[ad0]at ix;have hm9:=hmm ms[i] (ad4 hlt);rw[MX hlt]at ho;obtain⟨m,em⟩:∃m,ms[i]=m:=⟨_,rfl⟩;rw[em]at ix hm9 ho;have hsu:=fun G=>Qi m hm9 G
   have hst:=fun G=>NL j m hj hm9 G
   simp only[aN]at ix hsu hst r3;simp only[go_sem,r6,r8,ix];refine(hsu _).pthen ?_;cases d1:zO m
   ·rw[if_pos d1]at ho
    simp only[go_sem];exact .same (.refl _) ⟨by rw[←ho];rfl,rfl⟩
   ·rw[if_neg aea]at ho
    simp only[go_sem,r3];refine(hst _).pthen ?_;simp only[go_sem,r8,w1];refine⟨_,?_,rfl,i+1,wZ j m,ad9,rfl,M9.step hj hm9,ho,?_,?_,?_,?_⟩
    ·omega
    all_goals simp only[go_sem,r6,r7,aN]
  ·have hge:i=ms.length:=by grind
   subst hge;rw[List.drop_length]at ho;simp only[go_sem,r3];exact .same (.refl _) ⟨by rw[←ho];rfl,rfl⟩
theorem BL(ms:List aT)(hl:ms.length≤1000000000)(hmm:∀m∈ms,M9 m)(a b:aT)(hb:M9 b)(p:Perm)(h:Heap):ai Tryz.prog 280 [j8 ms p,aN a,aN b] h fun r h' =>r=aN (if b∈ms then b else a)∧h' =h:=by
 refine ad8 Tryz.func280 12 [.tmp 6] fun hwf=>?_
 simp only[go_sem];refine(F9 ms hl hmm b hb p _).pthen ?_
 by_cases d:b∈ms
 ·simp only[go_sem,decide_eq_true d,if_pos d]
  exact aei
 ·simp only[go_sem,decide_eq_false d,if_neg d]
  exact aei
theorem RX(alg:Int)(ha:1≤alg∧alg≤6)(ms:List aT)(hl:ms.length≤1000000000)(hmm:∀m∈ms,M6 m)(p:Perm)(h:Heap):ai Tryz.prog 248 [.i alg,j8 ms p] h fun r h' =>r= .tup [aN (ia alg ms),.i 0]∧h' =h:=by
 have hm9:=fun m h=>(hmm m h).m9
 refine ad8 Tryz.func248 49 [.tmp 4,.tmp 5] fun hwf=>?_
 simp only[go_sem,j8,adZ];refine .intro (fun m ρ h' =>h' =h∧∃i:Nat,i≤ms.length∧m=ms.length - i∧M9 ((ms.take i).foldl oO naM)∧lk ρ 0=some (.i alg)∧lk ρ 1=some (.sl (ms.map aN) p)∧lk ρ 6=some (aN ((ms.take i).foldl oO naM))∧lk ρ 9=some (.sl (ms.map aN) p)∧lk ρ 10=some (.i ms.length)∧lk ρ 11=some (.i i)) ms.length ?_ ?_
 ·refine⟨rfl,0,ad9,rfl,.na,?_,?_,?_,?_,?_,?_⟩<;>simp only[go_sem,aN,naM,hbit,List.take_zero,List.foldl_nil]
 ·rintro m ρ h' ⟨rfl,i,hi,rfl,hj,r0,r1,r6,r9,r10,r11⟩
  obtain⟨j,ej⟩:∃j,(ms.take i).foldl oO naM=j:=⟨_,rfl⟩;rw[ej]at hj r6;simp only[go_sem,r10,r11];refine .intro (fun e=>?_) (fun e=>?_)
  ·have hlt:i<ms.length:=ad6 e
   have w1:IntKind.i64.wrap ((i:Int)+1)=((i+1:Nat):Int):=aek;have ix:=fun k=>eC.eq (xs:=ms.map aN) (sz:=1) i aea aen k
   rw[ad0]at ix;have hm6:=hmm ms[i] (ad4 hlt);have hsn:=Co ms i hlt;rw[ej]at hsn;obtain⟨m,em⟩:∃m,ms[i]=m:=⟨_,rfl⟩;rw[em]at ix hm6 hsn;have hri:=fun G=>Ct m hm6 G
   have hjo:=fun G=>Pd j m hj hm6.m9 G
   simp only[aN]at ix hri hjo r6;simp only[go_sem,r9,r11,ix];refine(hri _).pthen ?_;simp only[go_sem,r6];refine(hjo _).pthen ?_;simp only[go_sem,r11,w1];refine⟨_,?_,rfl,i+1,ad9,rfl,by grind [M9.join],?_,?_,?_,?_,?_,?_⟩
   ·omega
   all_goals simp only[go_sem,r0,r1,r9,r10,aN,hsn]
  ·have hge:i=ms.length:=by grind
   subst hge;rw[List.take_length]at ej;have ej' :xJ ms=j:=ej;have hov:=fun G=>It j hj G
   have htu:=fun(x:aT) (G:Heap)=>Ql x G
   have hov2:=fun G=>It (E5 j) ⟨hj.2,hj.1⟩ G
   have h1:=Mb ms hl hm9 p;have h2:=PJ ms hl hm9 p;have h3:=BL ms hl hm9 cH aW aed p;have h4:=BL ms hl hm9 aW cH aed p;simp only[j8]at h1 h2 h3 h4;rcases(show alg=1∨alg=2∨alg=3∨alg=4∨alg=5∨alg=6 by omega)with rfl|rfl|rfl|rfl|rfl|rfl
   ·simp only[go_sem,r0,r6]
    refine(hov _).pthen ?_;simp only[go_sem];exact .same (.refl _) ⟨by simp only[ia,ej',if_true];rfl,rfl⟩
   ·simp only[go_sem,r0,r6]
    refine(htu _ _).pthen ?_;simp only[go_sem];refine(hov2 _).pthen ?_;simp only[go_sem];refine(htu _ _).pthen ?_;simp only[go_sem];exact .same (.refl _) ⟨by simp only[ia,ej'];rfl,rfl⟩
   ·simp only[go_sem,r0,r1]
    refine(h1 _).pthen ?_;exact aiz
   ·simp only[go_sem,r0,r1]
    refine(h2 _).pthen ?_;exact aiz
   ·simp only[go_sem,r0,r1]
    refine(h3 _).pthen ?_;exact aj5
   ·simp only[go_sem,r0,r1]
    refine(h4 _).pthen ?_;exact aj5
end Go.Proofs.YtbbadggejjgihaaGreatDoor
namespace Go.Bf
open Go Go.Ab Go.Proofs.YtbbadggejjgihaaGreatDoor
theorem tM{α:Type}(f:α→Nat):∀(l:List α) (a:Nat),l.foldl (fun a x=>min a (f x)) a≤a∧∀x∈l,l.foldl (fun a x=>min a (f x)) a≤f x
 | [],a=>aeg
 |y::l,a=>by
  obtain⟨h1,h2⟩:=tM f l (min a (f y))
  grind
theorem Pf{gs:List br}:∀ {t:gj} {m:bP},oP t=some m→j9 gs m=0→nc gs t=0:=by
 intro t;have main:∀(t:gj) (m:bP),oP t=some m→j9 gs m=0→∃x∈t,Ad gs x=0:=by
  intro t
  induction t with
  |nil=>intro m h;cases h
  |cons x r ih=>
   intro m h h0
   match x,h with
   | [],h=>obtain⟨y,hy,e⟩:=ih m h h0;exact⟨y,List.mem_cons_of_mem _ hy,e⟩
   | [l],h=>
    simp only[oP]at h;cases hf:l.find? fun m=>m.op==1 && !m.attr.must with
    |none=>rw[hf]at h;obtain⟨y,hy,e⟩:=ih m h h0;exact⟨y,List.mem_cons_of_mem _ hy,e⟩
    |some k=>
     rw[hf]at h;cases h;have hm:=List.mem_of_find?_eq_some hf;have hall:CY gs l=0:=by
      have:=(tM (j9 gs) l 2).2 _ hm;rw[h0]at this;exact Nat.le_zero.1 this
     exact⟨[l],List.mem_cons_self ..,by grind [Ad]⟩
   |a::b::c,h=>obtain⟨y,hy,e⟩:=ih m h h0;exact⟨y,List.mem_cons_of_mem _ hy,e⟩
 intro m h h0;obtain⟨x,hx,e⟩:=main t m h h0;have:=(tM (Ad gs) t 2).2 x hx;rw[e]at this;exact Nat.le_zero.1 this
theorem PB{gs:List br}{p:bD}(h:sP gs p=false):fJ gs p=(naM,[]):=by
 obtain⟨id,set,alg,tgt,rules,kids,obls⟩:=p;unfold sP at h;simp only[sU]at h;cases hk:oP tgt with
 |none=>grind
 |some m=>
  simp_all [j9,fJ,Pf,if_true]
theorem Pc(j:aT):oO j naM=j:=by simp[oO,naM]
inductive Drop:List jW→List jW→Prop
 |nil:Drop [] []
 |keep (x:jW) {a b:List jW} (h:Drop a b):Drop (x::a) (x::b)
 |skip {a b:List jW} (h:Drop a b):Drop a ((naM,[])::b)
theorem Drop.app{a b c:List jW}(h:Drop a b):Drop (c++a) (c++b):=by
 induction c with
 |nil=>exact h
 |cons x c ih=>grind [keep]
theorem Drop.join{a b:List jW}(h:Drop a b):∀j,(a.map (·.1)).foldl oO j=(b.map (·.1)).foldl oO j:=by
 induction h with
 |nil=>simp
 |keep x h ih=>grind
 |skip h ih=>grind [Pc]
theorem Drop.first{a b:List jW}(h:Drop a b):firstM (a.map (·.1))=firstM (b.map (·.1)):=by
 unfold firstM
 congr 1
 induction h with
 |nil=>rfl
 |keep x h ih=>grind
 |skip h ih=>simpa using ih
theorem Drop.only{a b:List jW}(h:Drop a b):∀j,oT (a.map (·.1)) j=oT (b.map (·.1)) j:=by
 induction h with
 |nil=>simp
 |keep x h ih=>grind [oT]
 |skip h ih=>
  intro j;have hs:zO naM=true:=aed;simp only[List.map_cons,oT,hs,Bool.true_eq_false,if_false];rw[←ih]
  congr 1
  simp
theorem Drop.mem{a b:List jW}(h:Drop a b){m:aT}(hm:m≠naM):m∈a.map (·.1)↔m∈b.map (·.1):=by
 exact ajm
theorem Drop.comb{a b:List jW}(h:Drop a b)(alg:Int):ia alg (a.map (·.1))=ia alg (b.map (·.1)):=by
 unfold ia xJ;rw[h.join,h.first,h.only];simp only[h.mem (show aW≠naM by decide),h.mem (show cH≠naM by decide)]
theorem Drop.parts{a b:List jW}(h:Drop a b)(alg:Int){m:aT}(hm:m≠naM):fc alg m a=fc alg m b:=by
 have h1:(a.find? fun x=>x.1==m)=b.find? fun x=>x.1==m:=by
  exact ajm
 have h2:(a.filter fun x=>x.1==m)=b.filter fun x=>x.1==m:=by
  clear h1;exact ajm
 simp only[fc,h1,h2]
theorem Drop.qd{a b:List jW}(h:Drop a b)(alg:Int)(obls:List cD)(t:Nat):qd alg obls t a=qd alg obls t b:=by
 unfold Go.Bf.qd;simp only[h.comb alg]
 by_cases hp:ia alg (b.map (·.1))=aW
 ·rw[hp,h.parts alg aed]
 ·by_cases hd:ia alg (b.map (·.1))=cH
  ·rw[hd,h.parts alg aed]
  grind
mutual
theorem Bm(gs:List br):∀p:bD,fJ gs (lP gs p)=fJ gs p
 |.mk id set alg tgt rules kids obls=>by
  simp only[lP,fJ]
  by_cases h:nc gs tgt=0
  ·simp only[h,if_true]
  ·simp only[h,if_false]
   exact(Bn gs kids).app.qd alg obls _
theorem Bn(gs:List br):∀l:List bD,Drop (mT gs (kM gs l)) (mT gs l)
 | []=>by simp only[kM,mT];exact .nil
 |k::r=>by
  have ih1:=Bm gs k;have ih2:=Bn gs r;simp only[kM,mT]
  by_cases h:sP gs k=true
  ·simp only[h,if_true,mT,ih1]
   exact .keep _ ih2
  ·have h:sP gs k=false:=by simpa using h
   simp only[h,Bool.false_eq_true,if_false,PB h];exact .skip ih2
end
def rsA(r:jW):AV:=.agg [aN r.1,ay r.2]
theorem Jm(l:List cD)(m:aT)(i:Nat)(h:i<l.length):eW (l.take (i+1)) m=eW (l.take i) m++(if(l[i].on==1 && m==aW||l[i].on==2 && m==cH)=true then [l[i]]else []):=by
 grind [eW,List.take_succ_eq_append_getElem]
theorem ru(l:List cD)(m:aT){L:List AV}(hL:L=l.map bt)(q:Perm):Weak (.agg [aN m,.sl L q]) (rsA (m,l)):=by
 subst hL;refine .agg _ _ rfl fun i a b=>?_
 rcases i with _|_|i
 ·exact afu
 ·exact agO
 grind
theorem zq(alg:Int)(m:aT)(l:List jW)(i:Nat)(h:i<l.length)(h3:alg≠3):fc alg m (l.take (i+1))=fc alg m (l.take i)++(if(l[i].1==m)=true then l[i].2 else []):=by
 unfold fc;rw[if_neg h3,if_neg h3,List.take_succ_eq_append_getElem h,List.filter_append,List.map_append,List.flatten_append]
 grind
theorem zp{m:aT}{l:List jW}(h:∀x∈l,(x.1==m)=false):fc 3 m l= []:=by
 unfold fc;rw[if_pos rfl,List.find?_eq_none.2 fun x hx=>aea]
 rfl
theorem wU{m:aT}{l:List jW}(i:Nat)(h:i<l.length)(h1:(l[i].1==m)=true)(h2:∀j (hj:j<i),((l[j]'ad9).1==m)=false):fc 3 m l=l[i].2:=by
 unfold fc;rw[if_pos rfl,show(l.find? fun x=>x.1==m)=some l[i]from List.find?_eq_some_iff_getElem.2 ⟨h1,i,h,rfl,fun j hj=>aea⟩]
 rfl
end Go.Bf
namespace Go.Proofs.YtbbadggejjgihaaGreatDoor
open Go Go.Ab Go.Bf
theorem Wx:(U 91).sz=3:=aeo
theorem Wy:(U 118).sz=2:=aeo
theorem rK(l:List cD)(hl:l.length≤1000000)(m:aT)(hpd:m=aW∨m=cH)(h:Heap):ai Tryz.prog 250 [ay l,aN m] h fun r h' =>r=ay (eW l m)∧h' =h:=by
 have h9:M9 m:=by rcases hpd with rfl|rfl<;>decide
 have pe:=(nb h9).pe;have de:=(nb h9).de;have uO:=Wx;obtain⟨b,b1,b2⟩:∃b,(m==aW)=b∧(m==cH)= !b:=by
  rcases hpd with rfl|rfl
  ·exact⟨true,aed,aed⟩
  ·exact⟨false,aed,aed⟩
 refine ad8 Tryz.func250 36 [.tmp 4] fun hwf=>?_
 simp only[go_sem,ay,aN,adZ];refine .intro (fun q ρ H=>∃(i:Nat) (y:AV),Acc U 91 h H y ((eW (l.take i) m).map bt)∧i≤l.length∧q=l.length - i∧lk ρ 1=some (.v (.complex .f64 (hbit m.1) (hbit m.2)))∧lk ρ 5=some y∧lk ρ 8=some (.sl (l.map bt) .no)∧lk ρ 9=some (.i l.length)∧lk ρ 10=some (.i i)) l.length ?_ ?_
 ·refine⟨0,.sl [] .full,by simpa[eW]using Acc.full (.refl _),ad9,rfl,?_,?_,?_,?_,?_⟩<;>simp only[go_sem]
 ·rintro q ρ H ⟨i,y,hy,hi,rfl,r1,r5,r8,r9,r10⟩
  obtain⟨qy,eqy⟩:=hy.row;subst eqy;simp only[go_sem,r9,r10];refine .intro (fun e=>?_) (fun e=>?_)
  ·have hlt:i<l.length:=ad6 e
   have w1:=ad5 i ad9;have hsn:=Jm l m i hlt;have ix:=fun k=>eC.eq (xs:=l.map bt) (sz:=3) i aew aen k
   rw[ad0]at ix;obtain⟨o,eo⟩:∃o,l[i]=o:=⟨_,rfl⟩;rw[eo]at ix hsn;simp only[bt]at ix;simp only[go_sem,r8,r10,ix];intro i7 h7;cases b
   ·cases a3:(o.on==2)
    ·cases a1:(o.on==1)
     ·simp only[go_sem,r10,a1,a3,w1]
      exact aiD
     ·simp only[go_sem,r1,r10,a1,a3,b1,pe,w1]
      exact aiD
    ·cases a1:(o.on==1)
     ·simp only[go_sem,r1,r5,a1,a3,b2,de]
      exact ait
     ·simp only[go_sem,r1,r5,a1,a3,b1,b2,pe,de]
      exact ait
   ·cases a1:(o.on==1)
    ·cases a3:(o.on==2)
     ·simp only[go_sem,r10,a1,a3,w1]
      exact aiD
     ·simp only[go_sem,r1,r10,a1,a3,b2,de,w1]
      exact aiD
    ·cases a3:(o.on==2)
     ·simp only[go_sem,r1,r5,a1,b1,pe]
      exact ait
     ·simp only[go_sem,r1,r5,a1,b1,pe]
      exact ait
  ·have hge:i=l.length:=by have:=ad2 e;omega
   subst hge;rw[List.take_length]at hy;simp only[go_sem,r5];exact .mk (ay (eW l m)) (by rw[List.take_length];exact .sl _ _) hy.1 ⟨rfl,rfl⟩
theorem tri{t:Nat}(h:t≤2):t=0∨t=1∨t=2:=ad9
theorem Jn(r:cR)(hr:r.obls.length≤1000000)(t c:Nat)(ht:t≤2)(hc:c≤2)(h:Heap):ai Tryz.prog 246 [aC r,.i t,.i c] h fun x h' =>x=rsA (nM r t c)∧h' =h:=by
 obtain⟨id,deny,tgt,cond,obls⟩:=r;simp only at hr;have hdp:=fun G=>rK obls hr aW (.inl rfl) G
 have hdd:=fun G=>rK obls hr cH (.inr rfl) G
 have hip:=fun G=>yP aW aed G
 have hid:=fun G=>yP cH aed G
 simp only[aN,aW,cH,hbit,ay]at hdp hdd hip hid;refine ad8 Tryz.func246 38 [.cell 6 118] fun hwf=>?_
 simp only[go_sem,aC];intro i3 h3;simp only[go_sem];intro i6 h6;have n63:=aI h6;have n6:=aB h6;have hs:∀x y,Ab.Sub h (upd (upd h i3 x) i6 y):=fun x y=>((Sub.refl h).put h3 x).put n6 y
 have hs2:∀x y z,Ab.Sub h (upd (upd (upd h i3 x) i6 y) i6 z):=fun x y z=>(hs x y).put n6 z
 cases deny
 ·rcases tri ht with rfl|rfl|rfl
  ·exact ai6
  ·exact ajo
  ·rcases tri hc with rfl|rfl|rfl
   ·exact ai6
   ·exact ajo
   ·simp only[go_sem,ak,n63.symm,ay]
    refine(hdp _).pthen ?_;simp only[go_sem];exact .mk (rsA (aW,eW obls aW)) (ru _ aW rfl _) (hs _ _) ⟨rfl,rfl⟩
 ·rcases tri ht with rfl|rfl|rfl
  ·exact ai6
  ·exact ajp
  ·rcases tri hc with rfl|rfl|rfl
   ·exact ai6
   ·exact ajp
   ·simp only[go_sem,ak,n63.symm,ay]
    refine(hdd _).pthen ?_;simp only[go_sem];exact .mk (rsA (cH,eW obls cH)) (ru _ cH rfl _) (hs _ _) ⟨rfl,rfl⟩
theorem ML(gs:List br)(t:gj):nc gs t≤2:=(tM (Ad gs) t 2).1
theorem LR(gs:List br)(l:List aR):qG gs l≤2:=by
 grind [qG]
theorem Jp(r:cR)(hr:EO r)(gs:List br)(hf:rW gs)(h:Heap):ai Tryz.prog 208 [aC r,bJ gs] h fun x h' =>x=rsA (iC gs r)∧h' =h:=by
 have hob:=(kT hr.2.2.2).1;have hmt:=fun G=>MM r.tgt (CH hr.2.1) gs hf G
 have hcd:=fun G=>OM r.cond hr.2.2.1 gs hf G
 have hef:=fun G=>Jn r ad9 (nc gs r.tgt) (qG gs r.cond) (ML _ _) (LR _ _) G
 simp only[aC,bJ]at hmt hcd hef;refine ad8 Tryz.func208 15 [.cell 4 118] fun hwf=>?_
 simp only[go_sem,aC,bJ];intro i2 h2;simp only[go_sem];intro i4 h4;have n42:=aI h4;have n4:=aB h4;obtain⟨H,eH⟩:∃H,upd (upd h i2 (some (.obj [.s r.id,.b r.deny,aV r.tgt,fE r.cond,ay r.obls] 167))) i4 (some (.obj [.v (.complex .f64 0 0),.sl [] .full] 118))=H:=⟨_,rfl⟩;have hH:Ab.Sub h H:=by rw[←eH];exact((Sub.refl h).put h2 _).put n4 _
 have g2:H i2=some (.obj [.s r.id,.b r.deny,aV r.tgt,fE r.cond,ay r.obls] 167):=ahP;have g4:H i4=some (.obj [.v (.complex .f64 0 0),.sl [] .full] 118):=afC;simp only[go_sem];rw[eH];clear eH;refine .calls (hm1 i2 (.obj [.s r.id,.b r.deny,aV r.tgt,fE r.cond,ay r.obls] 167)) [0,1,2,3,5,6,7,4,8,9,10] (.hm1 g2) aec rfl ?_;simp only[go_sem,gp];refine(hmt _).pthen ?_;refine⟨.hm1 g2,?_⟩;simp only[go_sem];refine(hcd _).pthen ?_;refine⟨.hm1 g2,?_⟩;simp only[go_sem];refine(hef _).pthen ?_;refine⟨.hm1 g2,?_⟩;simp only[go_sem,rsA,ay,aN,g4];refine⟨.hm1 (by rw[ag _ _ n42.symm];exact g2),?_⟩
 exact .mk _ (.refl _) (hH.put n4 _) ⟨rfl,rfl⟩
theorem Bz(l:List jW):Sized 2 (l.map rsA):=bx (f:=rsA) (fun _=>rfl) l
theorem Gi{id:Txt}{set:Bool}{alg:Int}(ha:1≤alg∧alg≤6){tgt:gj}{rules:List cR}{kids:List bD}{obls:List cD}(ho:obls.length≤1000000)(t:Nat)(ht:t=1∨t=2)(parts:List jW)(hp:∀x∈parts,M6 x.1)(hn:parts.length≤32){B:Nat}(hB:B≤10000000)(hpb:∀x∈parts,x.2.length≤B)(q:Perm)(h:Heap):
  ai Tryz.prog 209 [aO (.mk id set alg tgt rules kids obls),.i t,.sl (parts.map rsA) q] h fun r h' =>r=rsA (qd alg obls t parts)∧h' =h:=by
 have hm6:∀m∈parts.map (·.1),M6 m:=fun m hm=>by
  obtain⟨x,hx,rfl⟩:=List.mem_map.1 hm;exact hp x hx
 have hc6:M6 (ia alg (parts.map (·.1))):=HE hm6
 have uR:=Wy;have uO:=Wx;have uM:=Ww;have hall:=fun(p:Perm) (G:Heap)=>RX alg ha (parts.map (·.1)) (by rw[adZ];omega) hm6 p G
 simp only[j8]at hall;refine ad8 Tryz.func209 84 [.cell 6 118] fun hwf=>?_
 simp only[go_sem,aO];intro i3 h3;simp only[go_sem];intro i6 h6;have n63:=aI h6;have n6' :=aB h6;obtain⟨H0,eH⟩:∃H0,upd (upd h i3 (some (.obj [.s id,.b set,.i alg,aV tgt,.sl (rules.map aC) .no,.sl (fK kids) .no,ay obls] 49))) i6 (some (.obj [.v (.complex .f64 0 0),.sl [] .full] 118))=H0:=⟨_,rfl⟩;have hH0:Ab.Sub h H0:=ag8;have g3:H0 i3=some (.obj [.s id,.b set,.i alg,aV tgt,.sl (rules.map aC) .no,.sl (fK kids) .no,ay obls] 49):=by rw[←eH,ag _ _ n63.symm,ah]
 have g6:H0 i6=some (.obj [.v (.complex .f64 0 0),.sl [] .full] 118):=afC;simp only[go_sem,adZ];rw[eH];clear eH;refine .intro (fun m ρ H=>∃(i:Nat) (y:AV),Acc U 36 H0 H y (((parts.map (·.1)).take i).map aN)∧i≤parts.length∧m=parts.length - i∧lk ρ 1=some (.i t)∧lk ρ 2=some (.sl (parts.map rsA) q)∧lk ρ 3=some (.ptr i3 0)∧lk ρ 6=some (.ptr i6 0)∧lk ρ 7=some y∧lk ρ 15=some (.sl (parts.map rsA) q)∧lk ρ 16=some (.i parts.length)∧lk ρ 17=some (.i i)) parts.length ?_ ?_
 ·refine⟨0,.sl [] .full,.full (.refl _),ad9,rfl,?_,?_,?_,?_,?_,?_,?_,?_⟩<;>simp only[go_sem]
 ·rintro m ρ H ⟨i,y,hy,hi,rfl,r1,r2,r3,r6,r7,r15,r16,r17⟩
  obtain⟨qy,eqy⟩:=hy.row;subst eqy;simp only[go_sem,r16,r17];refine .intro (fun e=>?_) (fun e=>?_)
  ·have hlt:i<parts.length:=ad6 e
   have w1:=ad5 i ad9;have hsn:((parts.map (·.1)).take (i+1)).map aN=((parts.map (·.1)).take i).map aN++ [aN parts[i].1]:=by
    rw[List.take_succ_eq_append_getElem aew,List.map_append,ad0];rfl
   have ix:=fun k=>eC.eq (xs:=parts.map rsA) (sz:=2) i aew aen k
   rw[ad0]at ix;obtain⟨x,ex⟩:∃x,parts[i]=x:=⟨_,rfl⟩;rw[ex]at ix hsn;simp only[rsA,aN,ay]at ix;simp only[go_sem,r15,r17,ix];intro i9 h9;simp only[go_sem,r7];refine(hy.sub (.aj h9)).app (zs:=[aN x.1]) (by rw[uM];decide) aee (fun k hk=>hk) (by rw[uM];exact bx (f:=aN) (fun _=>rfl) _) (by rw[uM];intro z hz;rw[List.mem_singleton.1 hz];rfl) aes fun y' H' hy' kp=>?_
   simp only[go_sem,r17,w1];refine⟨_,?_,i+1,y',by rw[hsn];exact hy',ad9,rfl,?_,?_,?_,?_,?_,?_,?_,?_⟩
   ·omega
   all_goals simp only[go_sem,r1,r2,r3,r6,r15,r16]
  ·have hge:i=parts.length:=by have:=ad2 e;omega
   subst hge;have htl:(parts.map (·.1)).take parts.length=parts.map (·.1):=List.take_of_length_le aeg
   rw[htl]at hy;have k3:=hy.1 _ _ g3;have k6:=hy.1 _ _ g6;have hsH:=hH0.trans hy.1;have hjp:qd alg obls t parts=if t=0 then(naM,[])else if t=1 then(gT (ia alg (parts.map (·.1))),[])else if ia alg (parts.map (·.1))≠aW∧ia alg (parts.map (·.1))≠cH then(ia alg (parts.map (·.1)),[])
     else(ia alg (parts.map (·.1)),fc alg (ia alg (parts.map (·.1))) parts++eW obls (ia alg (parts.map (·.1)))):=rfl
   have hple:(fc alg (ia alg (parts.map (·.1))) parts).length≤32*B+B:=uh hpb hn
   have hal:=fun G=>hall qy G
   obtain⟨m,em⟩:∃m,ia alg (parts.map (·.1))=m:=⟨_,rfl⟩
   rw[em]at hc6 hjp hal hple;have hin:=fun G=>yP m hc6.m9 G
   have npe:=(nb hc6.m9).npe;have nde:=(nb hc6.m9).nde;simp only[aN]at hal hin;rw[htl]at r7;simp only[go_sem,r3,r7,k3];refine(hal _).pthen ?_;rcases ht with rfl|rfl
   ·simp only[go_sem,r1]
    refine(hin _).pthen ?_;simp only[go_sem,r6,k6];exact .mk (rsA (gT m,[])) (ru [] (gT m) rfl _) (hsH.put n6' _) ⟨by rw[hjp];rfl,rfl⟩
   have k6H:=k6;cases dp:(m==aW)
   case true=>
    have e1:m=aW:=by simpa using dp
    have hne:¬(m≠aW∧m≠cH):=fun hh=>hh.1 e1
    have hdu:=fun G=>rK obls ho m (.inl e1) G
    simp only[ay,aN]at hdu;simp only[go_sem,r1,npe,dp];exact aik
   case false=>
    cases dd:(m==cH)
    case true=>
     have e1:m=cH:=by simpa using dd
     have hne:¬(m≠aW∧m≠cH):=fun hh=>hh.2 e1
     have hdu:=fun G=>rK obls ho m (.inr e1) G
     simp only[ay,aN]at hdu;simp only[go_sem,r1,npe,nde,dp,dd];exact aik
    case false=>
     have e1:m≠aW:=by simpa using dp
     have e2:m≠cH:=by simpa using dd
     simp only[go_sem,r1,r6,npe,nde,dp,dd,k6];exact .mk (rsA (m,[])) (ru [] m rfl _) (hsH.put n6' _) ⟨by rw[hjp,if_neg aed,if_neg aed,if_pos ⟨e1,e2⟩],rfl⟩
theorem AS:∀(n d:Nat),d+n=5→∀(p:bD),mF d p→∀(gs:List br),rW gs→∀(h:Heap),ai Tryz.prog 159 [aO p,bJ gs] h fun r h' =>r=rsA (fJ gs p)∧h' =h
 |0,d,hd,.mk id set alg tgt rules kids obls,hE,gs,hf,h=>by
  simp only[mF]at hE;omega
 |n+1,d,hd,.mk id set alg tgt rules kids obls,hE,gs,hf,h=>by
  have ih:=AS n (d+1) ad9;simp only[mF,qR]at hE;obtain⟨_,_,ha1,ha2,_,_,hT,hO,hR,hK,hRE,hKE⟩:=hE;have hob:=(kT hO).1;have hmt:=fun G=>MM tgt (CH hT) gs hf G
  have hev:fJ gs (.mk id set alg tgt rules kids obls)=if nc gs tgt=0 then(naM,[])else qd alg obls (nc gs tgt) (rules.map (iC gs)++kids.map (fJ gs)):=by simp only[fJ,tK]
  have hjo:=fun(ht:nc gs tgt=1∨nc gs tgt=2) (q:Perm) (G:Heap)=>Gi (id:=id) (set:=set) (alg:=alg) ⟨ha1,ha2⟩ (tgt:=tgt) (rules:=rules) (kids:=kids) (obls:=obls) ad9 (nc gs tgt) ht (rules.map (iC gs)++kids.map (fJ gs)) (fun x hx=>by
   rcases List.mem_append.1 hx with hx|hx
   ·obtain⟨r,_,rfl⟩:=List.mem_map.1 hx;exact AW _ _ _
   ·obtain⟨r,_,rfl⟩:=List.mem_map.1 hx;exact xF gs r) aeO (B:=10000000) (Nat.le_refl _) (fun x hx=>by
   rcases List.mem_append.1 hx with hx|hx
   ·obtain⟨r,hr,rfl⟩:=List.mem_map.1 hx
    have h1:=AU r (nc gs r.tgt) (qG gs r.cond);have h2:=(kT (hRE r hr).2.2.2).1
    show(nM r (nc gs r.tgt) (qG gs r.cond)).2.length≤_
    omega
   ·obtain⟨r,hr,rfl⟩:=List.mem_map.1 hx
    have h1:=Cd gs n (d+1) r ad9 (hKE r hr);have h2:oB n≤oB 4:=by
     have:n≤4:=ad9;rcases(show n=0∨n=1∨n=2∨n=3∨n=4 by omega)with rfl|rfl|rfl|rfl|rfl<;>decide
    exact Nat.le_trans h1 (Nat.le_trans h2 aed)) q G
  have hrl:=fun(r:cR) (hr:EO r) (G:Heap)=>Jp r hr gs hf G
  have hml:=ML gs tgt;obtain⟨t,et⟩:∃t,nc gs tgt=t:=⟨_,rfl⟩;rw[et]at hmt hjo hev hml;simp only[aO,bJ,bf,aV,ay]at hmt hjo hrl;have uR:=Wy;refine ad8 Tryz.func159 50 [.cell 4 118] fun hwf=>?_
  simp only[go_sem,aO,bJ,bf,aV,ay];intro i2 h2;simp only[go_sem];intro i4 h4;have n42:=aI h4;have n4' :=aB h4;obtain⟨H0,eH⟩:∃H0,upd (upd h i2 (some (.obj [.s id,.b set,.i alg,.sl (tgt.map cX) .no,.sl (rules.map aC) .no,.sl (kids.map aO) .no,.sl (obls.map bt) .no] 49))) i4 (some (.obj [.v (.complex .f64 0 0),.sl [] .full] 118))=H0:=⟨_,rfl⟩;have hH0:Ab.Sub h H0:=ag7;have g2:H0 i2=some (.obj [.s id,.b set,.i alg,.sl (tgt.map cX) .no,.sl (rules.map aC) .no,.sl (kids.map aO) .no,.sl (obls.map bt) .no] 49):=ahP;have g4:H0 i4=some (.obj [.v (.complex .f64 0 0),.sl [] .full] 118):=afC;simp only[go_sem,ak,n42.symm];rw[eH];clear eH;refine(hmt _).pthen ?_;cases dt:((t:Int)==0)
  case true=>
   have e0:t=0:=by have:(t:Int)=0:=(by simpa using dt);omega
   simp only[go_sem,dt,g4];exact .mk (rsA (naM,[])) (ru [] naM rfl _) (hH0.put n4' _) ⟨by rw[hev,if_pos e0],rfl⟩
  have ht0:t≠0:=by rintro rfl;simp at dt
  have ht12:t=1∨t=2:=ad9;rw[if_neg ht0]at hev;simp only[go_sem,dt,g2,adZ];refine .intro (fun m ρ H=>∃(i:Nat) (y:AV),Acc U 118 H0 H y (((rules.map (iC gs)).take i).map rsA)∧i≤rules.length∧m=rules.length - i∧lk ρ 1=some (.sl (gs.map lH) .no)∧lk ρ 2=some (.ptr i2 0)∧lk ρ 4=some (.ptr i4 0)∧lk ρ 5=some (.i t)∧lk ρ 6=some y∧lk ρ 19=some (.sl (rules.map aC) .no)∧lk ρ 20=some (.i rules.length)∧lk ρ 21=some (.i i)) rules.length ?_ ?_
  ·refine⟨0,.sl [] .full,.full (.refl _),ad9,rfl,?_,?_,?_,?_,?_,?_,?_,?_⟩<;>simp only[go_sem]
  ·rintro m ρ H ⟨i,y,hy,hi,rfl,r1,r2,r4,r5,r6,r19,r20,r21⟩
   obtain⟨qy,eqy⟩:=hy.row;subst eqy;simp only[go_sem,r20,r21];refine .intro (fun e=>?_) (fun e=>?_)
   ·have hlt:i<rules.length:=ad6 e
    have w1:=ad5 i ad9;have hsn:((rules.map (iC gs)).take (i+1)).map rsA=((rules.map (iC gs)).take i).map rsA++ [rsA (iC gs rules[i])]:=by
     rw[List.take_succ_eq_append_getElem aew,List.map_append,ad0];rfl
    have ix:=fun k=>eC.eq (xs:=rules.map aC) (sz:=5) i aew aen k
    rw[ad0]at ix;have hre:=hRE _ (ad4 hlt);obtain⟨x,ex⟩:∃x,rules[i]=x:=⟨_,rfl⟩;rw[ex]at ix hsn hre;have hr1:=hrl x hre;simp only[aC,aV,ay]at ix hr1;simp only[go_sem,r19,r21,ix];intro i8 h8;simp only[go_sem,r1,r6];refine(hr1 _).pthen ?_;simp only[go_sem,rsA,aN,ay];refine(hy.sub (.aj h8)).app (zs:=[rsA (iC gs x)]) (by rw[uR];decide) aee (fun k hk=>hk) (by rw[uR];exact Bz _) agI aes fun y' H' hy' kp=>?_
    simp only[go_sem,r21,w1];refine⟨_,?_,i+1,y',by rw[hsn];exact hy',ad9,rfl,?_,?_,?_,?_,?_,?_,?_,?_⟩
    ·omega
    all_goals simp only[go_sem,r1,r2,r4,r5,r19,r20]
   ·have hge:i=rules.length:=by have:=ad2 e;omega
    subst hge;have htl:(rules.map (iC gs)).take rules.length=rules.map (iC gs):=List.take_of_length_le aeg;rw[htl]at hy r6;have k2:=hy.1 _ _ g2;simp only[go_sem,r2,k2,adZ];refine .intro (fun m ρ H=>∃(i:Nat) (y:AV),Acc U 118 H0 H y ((rules.map (iC gs)++(kids.map (fJ gs)).take i).map rsA)∧i≤kids.length∧m=kids.length - i∧lk ρ 1=some (.sl (gs.map lH) .no)∧lk ρ 2=some (.ptr i2 0)∧lk ρ 4=some (.ptr i4 0)∧lk ρ 5=some (.i t)∧lk ρ 6=some y∧lk ρ 33=some (.sl (kids.map aO) .no)∧lk ρ 34=some (.i kids.length)∧lk ρ 35=some (.i i)) kids.length ?_ ?_
    ·refine⟨0,_,by rw[List.take_zero,List.append_nil];exact hy,ad9,rfl,?_,?_,?_,?_,?_,?_,?_,?_⟩<;>simp only[go_sem,r1,r2,r4,r5,r6]
    ·rintro m ρ2 H2 ⟨i,y,hy,hi,rfl,s1,s2,s4,s5,s6,s33,s34,s35⟩
     obtain⟨qy,eqy⟩:=hy.row;subst eqy;simp only[go_sem,s34,s35];refine .intro (fun e=>?_) (fun e=>?_)
     ·have hlt:i<kids.length:=ad6 e
      have w1:=ad5 i ad9;have hsn:(rules.map (iC gs)++(kids.map (fJ gs)).take (i+1)).map rsA=(rules.map (iC gs)++(kids.map (fJ gs)).take i).map rsA++ [rsA (fJ gs kids[i])]:=by
       rw[List.take_succ_eq_append_getElem aew,←List.append_assoc,List.map_append,ad0];rfl
      have ix:=fun k=>eC.eq (xs:=kids.map aO) (sz:=7) i aew (by rw[ad0,jH]) k
      rw[ad0]at ix;have hke:=hKE _ (ad4 hlt);obtain⟨x,ex⟩:∃x,kids[i]=x:=⟨_,rfl⟩;rw[ex]at ix hsn hke;have hr1:=ih x hke gs hf;obtain⟨kid,kset,kalg,ktgt,krules,kkids,kobls⟩:=x;simp only[aO,aV,ay,bJ,bf]at ix hr1;simp only[go_sem,s33,s35,ix];intro i10 h10;simp only[go_sem,s1,s6];refine(hr1 _).pthen ?_;simp only[go_sem,rsA,aN,ay];refine(hy.sub (.aj h10)).app (zs:=[rsA (fJ gs (.mk kid kset kalg ktgt krules kkids kobls))]) (by rw[uR];decide) aee (fun k hk=>hk) (by rw[uR];exact Bz _) agI (by simp only[go_sem,adZ,List.length_take,List.length_cons,List.length_nil,ad3];omega) fun y' H' hy' kp=>?_
      simp only[go_sem,s35,w1];refine⟨_,?_,i+1,y',by rw[hsn];exact hy',ad9,rfl,?_,?_,?_,?_,?_,?_,?_,?_⟩
      ·omega
      all_goals simp only[go_sem,s1,s2,s4,s5,s33,s34]
     ·have hge:i=kids.length:=by have:=ad2 e;omega
      subst hge;have htl:(kids.map (fJ gs)).take kids.length=kids.map (fJ gs):=List.take_of_length_le aeg;rw[htl]at hy s6;have k2:=hy.1 _ _ g2;have k4:=hy.1 _ _ g4;have hj:=fun G=>hjo ht12 qy G
      rw[←hev]at hj;obtain⟨z,ez⟩:∃z,fJ gs (.mk id set alg tgt rules kids obls)=z:=⟨_,rfl⟩;rw[ez]at hj;simp only[go_sem,s2,s5,s6,k2];refine(hj _).pthen ?_;simp only[go_sem,s4,rsA,aN,ay,k4];exact .mk (rsA z) (.refl _) ((hH0.trans hy.1).put n4' _) ⟨by rw[ez];rfl,rfl⟩
theorem Dr(p:bD)(hp:gH p=0)(gs:List br)(hf:rW gs)(h:Heap):ai Tryz.prog 105 [aO p,bJ gs] h fun r h' =>r= .tup [rsA (fJ gs p),.i 0]∧h' =h:=by
 have hd:=fun G=>AS 4 1 rfl p (ry hp) gs hf G
 have hr:=fun G=>uw p G
 rw[hp]at hr;obtain⟨id,set,alg,tgt,rules,kids,obls⟩:=p;refine ad8 Tryz.func105 13 [.cell 4 118,.tmp 5] fun hwf=>?_
 simp only[go_sem,aO,bJ,aV,ay];intro i2 h2;simp only[go_sem];intro i4 h4;have n42:=aI h4;have n4:=aB h4;have hs:∀x y,Ab.Sub h (upd (upd h i2 x) i4 y):=fun x y=>((Sub.refl h).put h2 x).put n4 y
 simp only[go_sem,ak,n42.symm];refine(hr _).pthen ?_;simp only[go_sem,ak,n42.symm];refine(hd _).pthen ?_;simp only[go_sem,rsA,aN,ay];exact afL
end Go.Proofs.YtbbadggejjgihaaGreatDoor
namespace Go.Bf
open Go Go.Ab Go.Proofs.YtbbadggejjgihaaGreatDoor
structure ji where
 err:Int
 mark:aT
 glass:Bool
 val:bu
 hidden:Bool
 at_:Int
structure mw where
 op:OpD
 version:Int
 mark:aT
 glass:Bool
 obls:List cD
def Qy:OpD:=⟨0,[],[],[],[],aq,0,[],[],false⟩
def xT:mw:=⟨Qy,0,naM,false,[]⟩
def Cj:Txt:=[103,108,97,115,115]
def qX(s:an)(r:qt):Bool:=r.isOpen && decide (100≤s.tick - r.tick)
def Mz(s:an)(subj:Txt):Bool:=s.reviews.any fun r=>r.subj==subj && qX s r
def rI(s:an)(o:OpD)(m:aT):Bool:=o.glass && (m==cH||m==naM) && yK s.roles ⟨o.subj,Cj⟩ && !Mz s o.subj
def BA(s:an)(o:OpD)(reason:Txt):qt:=⟨(s.reviews.length:Int)+1,s.tick,o.subj,o.case,iS o.kind,reason,true⟩
def bX(s:an)(o:OpD)(reason:Txt):an:={s with reviews:=s.reviews++ [BA s o reason]}
def j6(l:List cD)(field:Txt):Bool:=l.any fun x=>x.kind==2 && x.arg==field
def iV(cs:List aM)(id:Txt):Nat:=cs.findIdx fun c=>c.id==id
def iF(s:an)(o:OpD)(what:Txt):an:=
 if iV s.cases o.case<s.cases.length∧o.kind≠6 then {s with cases:=s.cases.modify (iV s.cases o.case) fun c=>jD s c o.subj what} else s
def fo(o:OpD)(done:Bool)(s:an)(x:cD):an:=
 if x.kind=1∧done=true then iF s o x.arg
 else if x.kind=3 then bX s o x.arg
 else if x.kind=4 then {s with notices:=s.notices++ [⟨s.tick,o.case,x.arg⟩]}
 else s
def dw(s:an)(o:OpD)(l:List cD)(done:Bool):an:=l.foldl (fo o done) s
def so(s:an):Bool:=decide (256<s.reviews.length)||decide (256<s.notices.length)||s.cases.any fun c=>decide (256<c.log.length)
def fM(s:an)(o:OpD):jW:=fJ (fL s o) s.policy
def jI(s:an)(o:OpD):Int×Int:=if bI s o=0∧o.kind=7 then((aQ o.text).2.1,(aQ o.text).2.2)else(bI s o,0)
def dY(s:an)(o:OpD):Bool:=rI s o (fM s o).1
def sD(s:an)(o:OpD):Bool:=decide ((fM s o).1=aW)||dY s o
def cN(s:an)(o:OpD):an:=
 let s1:=if dY s o then bX s o o.reason else s
 dw (if sD s o then cS aQ s1 o else s1) o (fM s o).2 (sD s o)
def nh(s:an)(o:OpD):ji:=
 ⟨if sD s o then 0 else 12,(fM s o).1,dY s o,if sD s o && o.kind==2 && !j6 (fM s o).2 o.field then dQ (bw s.cases o.case).fields o.field else aq,sD s o && o.kind==2 && j6 (fM s o).2 o.field,0⟩
def aF(s:an)(o:OpD):an×ji×mw×Int:=
 if(jI s o).1≠0 then(s,⟨(jI s o).1,naM,false,aq,false,(jI s o).2⟩,xT,(jI s o).1)
 else if so (cN s o)then(s,⟨6,naM,false,aq,false,0⟩,xT,6)
 else(cN s o,nh s o,⟨o,s.version,(fM s o).1,dY s o,(fM s o).2⟩,0)
theorem zb(s:an)(o:OpD)(w:Txt):(iF s o w).tick=s.tick∧(iF s o w).roles=s.roles∧(iF s o w).policy=s.policy∧(iF s o w).version=s.version∧(iF s o w).reviews=s.reviews∧(iF s o w).notices=s.notices:=by
 grind [iF]
theorem Dl(o:OpD)(done:Bool)(s:an)(x:cD):(fo o done s x).tick=s.tick∧(fo o done s x).roles=s.roles∧(fo o done s x).policy=s.policy∧(fo o done s x).version=s.version:=by
 unfold fo;split
 ·grind [zb]
 ·split
  ·exact⟨rfl,rfl,rfl,rfl⟩
  grind
theorem yq(o:OpD)(done:Bool):∀(l:List cD) (s:an),(dw s o l done).tick=s.tick∧(dw s o l done).roles=s.roles∧(dw s o l done).policy=s.policy∧(dw s o l done).version=s.version
 | [],s=>⟨rfl,rfl,rfl,rfl⟩
 |x::l,s=>by
  obtain⟨a1,a2,a3,a4⟩:=Dl o done s x;obtain⟨b1,b2,b3,b4⟩:=yq o done l (fo o done s x);exact⟨b1.trans a1,b2.trans a2,b3.trans a3,b4.trans a4⟩
def gS(o:OpD)(a b:List qt):Prop:=∃c,b=a++c∧∀i (h:i<c.length),c[i].id=((a.length+i+1:Nat):Int)∧c[i].isOpen=true∧c[i].subj=o.subj
theorem gS.refl(o:OpD)(a:List qt):gS o a a:=⟨[],aeg,fun i h=>aeW⟩
theorem gS.trans{o:OpD}{a b c:List qt}(h1:gS o a b)(h2:gS o b c):gS o a c:=by
 obtain⟨x,rfl,hx⟩:=h1;obtain⟨y,rfl,hy⟩:=h2;refine⟨x++y,aeg,fun i h=>?_⟩
 grind
theorem gS.open(s:an)(o:OpD)(w:Txt):gS o s.reviews (bX s o w).reviews:=⟨[BA s o w],rfl,fun i h=>by
 have:i=0:=aea;subst this;exact⟨aeo,rfl,rfl⟩⟩
theorem gS.duties(o:OpD)(done:Bool):∀(l:List cD) (s:an),gS o s.reviews (dw s o l done).reviews
 | [],s=> .refl o _
 |x::l,s=>by
  have:gS o s.reviews (fo o done s x).reviews:=by
   unfold fo;split
   ·grind [zb,refl]
   ·split
    ·exact .open s o _
    grind [refl]
  exact this.trans (gS.duties o done l _)
structure Hu (c:aM):Prop where
 id:bn c.id=true
 owner:bn c.owner=true
 state:c.state∈pV
 asc:Fl c.fields
 nfields:c.fields.length≤16
 field:∀f∈c.fields,bn f.name=true∧bz f.val=true∧eqV f.val aq=false
 log1:1≤c.log.length
 actor:∀x∈c.log,bn x.actor=true∧i64 x.tick
theorem uK.w{c:aM}(h:uK c):Hu c:=⟨h.id,h.owner,h.state,h.asc,h.nfields,h.field,h.log1,h.actor⟩
theorem Hu.ok{c:aM}(h:Hu c)(hl:c.log.length≤256):uK c:=⟨h.id,h.owner,h.state,h.asc,h.nfields,h.field,h.log1,hl,h.actor⟩
structure l8 (k:Nat) (s:an):Prop where
 tick:0≤s.tick∧s.tick≤1099511627776
 asc:Asc s.cases
 ncases:s.cases.length≤64
 case:∀c∈s.cases,Hu c
 roles:s.roles.length≤64
 role:∀r∈s.roles,bn r.subj=true∧bn r.role=true
 pol:gH s.policy=0
 ver:0≤s.version∧s.version≤k
theorem dI.w{k:Nat}{s:an}(h:dI k s):l8 k s:=⟨h.tick,h.asc,h.ncases,fun c hc=>(h.case c hc).w,h.roles,h.role,h.pol,h.ver⟩
theorem l8.ok{k:Nat}{s:an}(h:l8 k s)(ho:so s=false):dI k s:=by
 unfold so at ho;simp only[Bool.or_eq_false_iff,decide_eq_false_iff_not]at ho;refine⟨h.tick,h.asc,h.ncases,fun c hc=>(h.case c hc).ok ?_,ad9,ad9,h.roles,h.role,h.pol,h.ver⟩
 grind
theorem He{k:Nat}{s:an}(o:OpD)(w:Txt)(h:l8 k s):l8 k (bX s o w):={h with}
theorem G8{k:Nat}{s:an}{o:OpD}(hn:bn o.subj=true)(w:Txt)(h:l8 k s):l8 k (iF s o w):=by
 unfold iF;split
 ·refine {h with asc:=B5 (kS fun x=>rfl) h.asc,ncases:=by simpa using h.ncases,case:= ?_}
  intro d hd;rcases mem_modify hd with hd|⟨hi,rfl⟩
  ·exact h.case d hd
  ·have hc:=h.case _ (ad4 hi)
   refine⟨hc.id,hc.owner,hc.state,hc.asc,hc.nfields,hc.field,aij,?_⟩;intro x hx;simp only[jD,List.mem_append,List.mem_singleton]at hx;rcases hx with hx|rfl
   ·exact hc.actor x hx
   ·exact⟨hn,by have:=h.tick;constructor<;>simp only<;>omega⟩
 omega
theorem G0{k:Nat}{o:OpD}(hn:bn o.subj=true)(done:Bool){s:an}(x:cD)(h:l8 k s):l8 k (fo o done s x):=by
 unfold fo;split
 ·grind [G8]
 ·split
  ·grind [He]
  ·split
   ·exact {h with}
   omega
theorem ux{k:Nat}{o:OpD}(hn:bn o.subj=true)(done:Bool):∀(l:List cD) {s:an},l8 k s→l8 k (dw s o l done)
 | [],s,h=>h
 |x::l,s,h=>ux hn done l (G0 hn done x h)
theorem Cy{k:Nat}{s:an}(o:OpD)(w:Txt)(h:dI k s)(hr:s.reviews.length≤999):dI k (bX s o w):={h with nrev:=by grind [bX]}
structure jy (k:Nat) (s:an):Prop extends dI k s where
 ids:∀i (h:i<s.reviews.length),s.reviews[i].id=((i+1:Nat):Int)
 nr:s.reviews.length≤256
 nn:s.notices.length≤256
theorem JO:jy 0 xx:={KI with ids:=fun i h=>aeW,nr:=aed,nn:=aed}
theorem rf{s:an}{o:OpD}(h:(jI s o).1=0):bI s o=0∧cU o=true∧(o.kind=7→(aQ o.text).2.1=0):=by
 unfold jI at h;have hr:bI s o=0:=by
  grind
 have hf:cU o=true:=by
  unfold bI at hr
  grind
 exact⟨hr,hf,fun hk=>aea⟩
theorem LF{k:Nat}{s:an}{o:OpD}(h:jy k s)(hp:(jI s o).1=0):l8 (k+1) (cN s o):=by
 have hn:=(tN (rf hp).2.1).subj;have h1:dI k (if dY s o then bX s o o.reason else s):=by
  split
  ·exact Cy o _ h.todI (by have:=h.nr;omega)
  ·exact h.todI
 refine ux hn _ _ ?_;split
 ·exact(pW o h1).w
 ·have:=h1.w
  exact {this with ver:=⟨this.ver.1,by have:=this.ver.2;omega⟩}
def shut(r:qt):qt:={r with isOpen:=false}
theorem uY(par:Txt→bD×Int×Int)(s:an)(o:OpD):(cS par s o).reviews=if bI s o=0∧o.kind=5 then s.reviews.modify (o.review - 1).toNat shut else s.reviews:=by
 unfold cS
 by_cases hr:bI s o=0
 ·rw[if_pos hr]
  unfold doD
  by_cases k1:o.kind=1
  ·grind
  ·by_cases k3:o.kind=3
   ·grind
   ·by_cases k4:o.kind=4
    ·grind
    ·by_cases k5:o.kind=5
     ·simp[k5,hr];rfl
     grind
 grind
theorem yH{o:OpD}(h:cU o=true)(hg:o.glass=true):1≤o.kind∧o.kind≤4:=by
 simp_all [cU,Bool.and_eq_true,lq,if_true,sQ,decide_eq_true_eq]
theorem DF{s:an}{o:OpD}(h:dY s o=true):o.glass=true:=by
 simp_all [dY,rI,Bool.and_eq_true]
structure Fs (s:an) (o:OpD) (t:an) (r:ji) (e:Int):Prop where
 len:s.reviews.length≤t.reviews.length
 old:∀i (h:i<s.reviews.length) (h' :i<t.reviews.length),(e=0∧r.err=0∧o.kind=5∧o.review=((i+1:Nat):Int)→o.subj≠s.reviews[i].subj∧s.reviews[i].isOpen=true∧t.reviews[i].isOpen=false∧t.reviews[i].id=s.reviews[i].id)∧
  (¬(e=0∧r.err=0∧o.kind=5∧o.review=((i+1:Nat):Int))→t.reviews[i]=s.reviews[i])
 new:∀i (h:i<t.reviews.length),s.reviews.length≤i→t.reviews[i].id=((i+1:Nat):Int)∧t.reviews[i].isOpen=true∧t.reviews[i].subj=o.subj
 glass:r.glass=true→∃h:s.reviews.length<t.reviews.length,t.reviews[s.reviews.length].reason=o.reason
theorem Fs.same(s:an)(o:OpD)(e:Int)(r:ji)(he:e≠0)(hg:r.glass=false):Fs s o s r e:=
 ⟨Nat.le_refl _,fun i h h' =>⟨fun hc=>(he hc.1).elim,fun _=>rfl⟩,fun i h h' =>ad9,fun h=>aea⟩
theorem Iq{o:OpD}{a b:List qt}(h:gS o a b):a.length≤b.length∧(∀i (h1:i<a.length) (h2:i<b.length),b[i]=a[i])∧∀i (h1:i<b.length),a.length≤i→b[i].id=((i+1:Nat):Int)∧b[i].isOpen=true∧b[i].subj=o.subj:=by
 obtain⟨c,rfl,hc⟩:=h;refine⟨aeg,fun i h1 h2=>aea,fun i h1 h2=>?_⟩
 grind
theorem Db{s:an}{o:OpD}(hr:bI s o=0)(hf:cU o=true)(hk:o.kind=5):1≤o.review∧∃h:(o.review - 1).toNat<s.reviews.length,s.reviews[(o.review - 1).toNat].isOpen=true∧s.reviews[(o.review - 1).toNat].subj≠o.subj:=by
 have F:=tN hf;have hok:=F.ok;unfold okD at hok;simp only[hk,show¬(5:Int)=1 by decide,show¬((5:Int)=2∨(5:Int)=6) by decide,show¬(5:Int)=3 by decide,show¬(5:Int)=4 by decide,if_false,if_true,decide_eq_true_eq]at hok
 unfold bI at hr;simp only[hk,Bool.true_eq_false,show¬(5:Int)=1 by decide,show¬(2≤(5:Int)∧(5:Int)≤4) by decide,if_false,if_true]at hr
 unfold fu wV at hr;rw[if_pos (by omega:1≤o.review)]at hr
 refine⟨ad9,?_⟩;cases hx:s.reviews[(o.review - 1).toNat]? with
 |none=>simp_all
 |some r=>
  rw[hx]at hr;obtain⟨h,rfl⟩:=List.getElem?_eq_some_iff.1 hx;refine⟨h,?_,?_⟩
  ·grind
  ·intro e
   simp only[e,if_true]at hr;omega
theorem GL{k:Nat}{s:an}{o:OpD}(h:jy k s):Fs s o (aF s o).1 (aF s o).2.1 (aF s o).2.2.2:=by
 unfold aF
 by_cases hp:(jI s o).1=0
 ·rw[if_neg ad9]
  by_cases ho:so (cN s o)=true
  ·rw[if_pos ho];exact .same _ _ _ _ aeg rfl
  ·rw[if_neg ho]
   obtain⟨hr,hf,_⟩:=rf hp;simp only
   by_cases hk:o.kind=5
   ·have hg:dY s o=false:=by
     cases hg:dY s o with
     |false=>rfl
     |true=>have:=yH hf (DF hg);omega
    obtain⟨hv1,hlt,hop,hsu⟩:=Db hr hf hk
    by_cases hd:sD s o=true
    ·have hb:cN s o=dw (cS aQ s o) o (fM s o).2 true:=by
      grind [cN]
     have hrev:(cS aQ s o).reviews=s.reviews.modify (o.review - 1).toNat shut:=by
      simp_all [uY,if_pos]
     have hon:=gS.duties o true (fM s o).2 (cS aQ s o);rw[←hb,hrev]at hon;obtain⟨a1,a2,a3⟩:=Iq hon;have hlm:(s.reviews.modify (o.review - 1).toNat shut).length=s.reviews.length:=aeg;rw[hlm]at a1;refine⟨a1,fun i h1 h2=>⟨fun hc=>?_,fun hc=>?_⟩,fun i h1 h2=>a3 i h1 ad9,fun hgl=>?_⟩
     ·have hi:(o.review - 1).toNat=i:=by omega
      subst hi;rw[a2 _ ad9 h2,List.getElem_modify,if_pos rfl];exact⟨fun e=>hsu e.symm,hop,rfl,rfl⟩
     ·have hi:(o.review - 1).toNat≠i:=fun e=>hc ⟨rfl,by simp[nh,hd],hk,ad9⟩
      rw[a2 _ ad9 h2,List.getElem_modify,if_neg hi]
     simp_all [nh]
    ·have hd:sD s o=false:=by grind
     have hb:cN s o=dw s o (fM s o).2 false:=by
      grind [cN]
     have hon:=gS.duties o false (fM s o).2 s;rw[←hb]at hon;obtain⟨a1,a2,a3⟩:=Iq hon;refine⟨a1,fun i h1 h2=>⟨fun hc=>?_,fun hc=>a2 i h1 h2⟩,a3,fun hgl=>?_⟩
     ·simp_all [nh]
     simp_all [nh]
   ·have hs1:gS o s.reviews (if dY s o then bX s o o.reason else s).reviews:=by
     split
     ·exact .open s o _
     ·exact .refl o _
    have hs2:(if sD s o then cS aQ (if dY s o then bX s o o.reason else s) o else(if dY s o then bX s o o.reason else s)).reviews=(if dY s o then bX s o o.reason else s).reviews:=by
     split
     ·simp_all [uY,if_neg]
     ·rfl
    have hd:=gS.duties o (sD s o) (fM s o).2 (if sD s o then cS aQ (if dY s o then bX s o o.reason else s) o else(if dY s o then bX s o o.reason else s))
    rw[hs2]at hd;have hon:gS o s.reviews (cN s o).reviews:=hs1.trans hd;obtain⟨a1,a2,a3⟩:=Iq hon;refine⟨a1,fun i h1 h2=>⟨fun hc=>(hk hc.2.2.1).elim,fun hc=>a2 i h1 h2⟩,a3,fun hgl=>?_⟩
    have hg:dY s o=true:=hgl;have hd' :=hd;simp only[hg,↓reduceIte]at hd';obtain⟨b1,b2,_⟩:=Iq hd';have hb:(cN s o)=dw (if sD s o then cS aQ (bX s o o.reason) o else bX s o o.reason) o (fM s o).2 (sD s o):=by
     grind [cN]
    rw[←hb]at b1 b2;have hl:(bX s o o.reason).reviews.length=s.reviews.length+1:=by simp[bX]
    refine⟨ad9,?_⟩
    grind [bX,BA]
 ·rw[if_pos ad9]
  exact .same _ _ _ _ ad9 rfl
theorem jy.up{k:Nat}{s:an}(h:jy k s):jy (k+1) s:={h with ver:=⟨h.ver.1,by have:=h.ver.2;omega⟩}
theorem F6{k:Nat}{s:an}(o:OpD)(h:jy k s):jy (k+1) (aF s o).1:=by
 have hrl:=GL (o:=o) h;unfold aF at hrl⊢
 by_cases hp:(jI s o).1=0
 ·rw[if_neg ad9]at hrl⊢
  by_cases ho:so (cN s o)=true
  ·rw[if_pos ho];exact h.up
  ·rw[if_neg ho]at hrl⊢
   have ho:so (cN s o)=false:=aea;have hw:=(LF h hp).ok ho;unfold so at ho;refine {hw with ids:=fun i hi=>?_,nr:=aea,nn:=aea}
   by_cases hlt:i<s.reviews.length
   ·obtain⟨h1,h2⟩:=hrl.old i hlt hi
    by_cases hc:(0:Int)=0∧(nh s o).err=0∧o.kind=5∧o.review=((i+1:Nat):Int)
    ·rw[(h1 hc).2.2.2];exact h.ids i hlt
    ·rw[h2 hc];exact h.ids i hlt
   ·exact(hrl.new i hi ad9).1
 ·rw[if_pos ad9];exact h.up
structure WN (s:an) (o:OpD):Prop where
 err:(aF s o).2.2.2≠0→(aF s o).1=s∧(aF s o).2.1.err=(aF s o).2.2.2∧(aF s o).2.1.mark=naM
 ok:(aF s o).2.2.2=0→(aF s o).2.1.mark=(fM s o).1∧(aF s o).2.2.1=⟨o,s.version,(fM s o).1,dY s o,(fM s o).2⟩∧(aF s o).2.1.glass=dY s o∧(aF s o).1=cN s o∧(aF s o).2.1=nh s o
theorem yt(o:OpD)(done:Bool):∀(l:List cD) (s:an),(dw s o l done).cases.length=s.cases.length
 | [],s=>rfl
 |x::l,s=>by
  have:(fo o done s x).cases.length=s.cases.length:=by
   unfold fo;split
   ·grind [iF]
   ·split
    ·rfl
    grind
  exact(yt o done l _).trans this
theorem LZ(par:Txt→bD×Int×Int)(s:an)(o:OpD)(hk:o.kind≠7):(cS par s o).policy=s.policy∧(cS par s o).version=s.version:=by
 unfold cS;split
 ·unfold doD
  simp only[hk,if_false];split
  ·simp
  ·split
   ·simp
   grind
 simp
def rep(n:Nat)(t:Txt):Txt:=(List.replicate n t).flatten
def MLe(a b:eO):Prop:=(∀x∈a.met,x∈b.met)∧a.rules≤b.rules
theorem MLe.refl(a:eO):MLe a a:=⟨fun _ h=>h,Nat.le_refl _⟩
theorem MLe.trans{a b c:eO}(h1:MLe a b)(h2:MLe b c):MLe a c:=⟨fun x h=>h2.1 x (h1.1 x h),Nat.le_trans h1.2 h2.2⟩
theorem Ih{a b b' :eO}{s:Txt}(h:MLe a b)(hm:jv b s=some b'):∃a',jv a s=some a'∧MLe a' b' :=by
 unfold jv at hm⊢;split at hm
 ·rename_i hc
  cases hm;refine⟨_,if_pos ⟨fun hx=>hc.1 (h.1 s hx),hc.2⟩,fun x hx=>?_,h.2⟩
  rcases List.mem_append.1 hx with hx|hx
  ·exact List.mem_append.2 (.inl (h.1 x hx))
  grind
 grind
theorem Ii{b b' :eO}{s:Txt}(hm:jv b s=some b'):MLe b b' :=by
 unfold jv at hm;split at hm
 ·cases hm;exact⟨fun x hx=>List.mem_append.2 (.inl hx),Nat.le_refl _⟩
 grind
theorem oR{e:Int}{w:Went}{m:eO}(h:need e w= .ok m):e=0∧w= .ok m:=by
 grind [need]
theorem P0{a b b' :eO}{r:cR}(h:MLe a b)(hr:gA b r= .ok b'):(∃a',gA a r= .ok a'∧MLe a' b')∧MLe b b' :=by
 unfold gA at hr⊢;cases hm:jv b r.id with
 |none=>grind
 |some m=>
  rw[hm]at hr;obtain⟨a',ha,hl⟩:=Ih h hm;simp only at hr;split at hr
  ·grind
  ·obtain⟨e1,hr⟩:=oR hr
   obtain⟨e2,hr⟩:=oR hr;obtain⟨e3,hr⟩:=oR hr;cases hr;have hup:=Ii hm;refine⟨⟨⟨a'.met,a'.rules+1⟩,?_,hl.1,by have:=hl.2;simp only;omega⟩,hup.1,by have:=hup.2;simp only;omega⟩
   rw[ha];have:=hl.2;simp only[e1,e2,e3,need,if_true];rw[if_neg ad9]
theorem ER:∀(l:List cR) {a b b' :eO},MLe a b→fG b l= .ok b'→(∃a',fG a l= .ok a'∧MLe a' b')∧MLe b b'
 | [],a,b,b',h,hr=>by
  cases hr;exact⟨⟨a,rfl,h⟩,.refl _⟩
 |r::l,a,b,b',h,hr=>by
  simp only[fG]at hr⊢;cases hw:gA b r with
  |bad e=>grind
  |ok m=>
   rw[hw]at hr;obtain⟨⟨a',ha,hl⟩,hu⟩:=P0 h hw;obtain⟨⟨a'',ha',hl'⟩,hu'⟩:=ER l hl hr;exact⟨⟨a'',aea,hl'⟩,hu.trans hu'⟩
theorem O7{a b b' :eO}{id:Txt}{set:Bool}{alg:Int}{tgt:gj}{nr nk nk' :Nat}{obls:List cD}(h:MLe a b)(hk:nk'≤nk)(hr:fq b id set alg tgt nr nk obls= .ok b'):(∃a',fq a id set alg tgt nr nk' obls= .ok a'∧MLe a' b')∧MLe b b' :=by
 unfold fq at hr⊢;cases hm:jv b id with
 |none=>rw[hm]at hr;cases hr
 |some m=>
  rw[hm]at hr;obtain⟨a',ha,hl⟩:=Ih h hm;simp only at hr;split at hr
  ·cases hr
  ·rename_i h1
   split at hr
   ·cases hr
   ·rename_i h2
    obtain⟨e1,hr⟩:=oR hr;obtain⟨e2,hr⟩:=oR hr;split at hr
    ·cases hr
    ·rename_i h3
     cases hr;refine⟨⟨a',?_,hl⟩,Ii hm⟩;rw[ha];have h2' :¬(set=true∧nr>0∨set=false∧(nk' >0∨alg=4)):=by
      rintro(⟨p,q⟩|⟨p,q|q⟩)
      ·exact h2 (.inl ⟨p,q⟩)
      ·exact h2 (.inr ⟨p,.inl ad9⟩)
      ·exact h2 (.inr ⟨p,.inr q⟩)
     simp only[if_neg h1,if_neg h2',e1,e2,need,if_true];rw[if_neg ad9]
theorem Ev(gs:List br):∀l:List bD,(kM gs l).length≤l.length
 | []=>by simp[kM]
 |k::r=>by
  have:=Ev gs r;simp only[kM];split<;>simp<;>omega
mutual
theorem Ex(gs:List br):∀(p:bD) (d:Nat) {a b b' :eO},MLe a b→kU b d p= .ok b'→(∃a',kU a d (lP gs p)= .ok a'∧MLe a' b')∧MLe b b'
 |.mk id set alg tgt rules kids obls,d,a,b,b',h,hr=>by
  simp only[kU,lP]at hr⊢;split at hr
  ·cases hr
  ·rename_i hd
   rw[if_neg hd];cases hh:fq b id set alg tgt rules.length kids.length obls with
   |bad e=>rw[hh]at hr;cases hr
   |ok m=>
    rw[hh]at hr;simp only at hr;obtain⟨⟨a1,ha1,hl1⟩,hu1⟩:=O7 h (Ev gs kids) hh;cases hw:fG m rules with
    |bad e=>rw[hw]at hr;cases hr
    |ok m2=>
     rw[hw]at hr;simp only at hr;obtain⟨⟨a2,ha2,hl2⟩,hu2⟩:=ER rules hl1 hw;obtain⟨⟨a3,ha3,hl3⟩,hu3⟩:=vj gs kids (d+1) hl2 hr;refine⟨⟨a3,?_,hl3⟩,(hu1.trans hu2).trans hu3⟩;rw[ha1];simp only[ha2];exact ha3
theorem vj(gs:List br):∀(l:List bD) (d:Nat) {a b b' :eO},MLe a b→jb b d l= .ok b'→(∃a',jb a d (kM gs l)= .ok a'∧MLe a' b')∧MLe b b'
 | [],d,a,b,b',h,hr=>by
  simp only[jb,kM]at hr⊢;cases hr;exact⟨⟨a,rfl,h⟩,.refl _⟩
 |k::r,d,a,b,b',h,hr=>by
  simp only[jb]at hr;cases hw:kU b d k with
  |bad e=>rw[hw]at hr;cases hr
  |ok m=>
   rw[hw]at hr;simp only at hr;obtain⟨⟨a1,ha1,hl1⟩,hu1⟩:=Ex gs k d h hw;simp only[kM];split
   ·obtain⟨⟨a2,ha2,hl2⟩,hu2⟩:=vj gs r d hl1 hr
    refine⟨⟨a2,?_,hl2⟩,hu1.trans hu2⟩;simp only[jb,ha1];exact ha2
   ·obtain⟨⟨a2,ha2,hl2⟩,hu2⟩:=vj gs r d (h.trans hu1) hr
    exact⟨⟨a2,ha2,hl2⟩,hu1.trans hu2⟩
end
theorem GM(gs:List br){p:bD}(h:gH p=0):gH (lP gs p)=0:=by
 unfold gH at*;cases hw:kU ⟨[],0⟩ 1 p with
 |bad e=>
  have:=um 4 1 _ _ e rfl hw;rw[hw]at h;exact(this h).elim
 |ok m=>
  obtain⟨⟨a,ha,_⟩,_⟩:=Ex gs p 1 (.refl _) hw;rw[ha];rfl
def WI:bP:=⟨⟨0,[],false⟩,0,aq⟩
def Pe(k:Option bP):AV:=match k with
 |some m=> .tup [dR m,.b true]
 |none=> .tup [dR WI,.b false]
theorem Mw{x:List (List bP)}{r:gj}(h:x.length≠1):oP (x::r)=oP r:=by
 match x,h with
 | [],_=>rfl
 | [l],h=>exact(h rfl).elim
 |a::b::c,_=>rfl
theorem Mv{l:List bP}{r:gj}(h:(l.find? fun m=>m.op==1 && !m.attr.must)=none):oP ([l]::r)=oP r:=by
 grind [oP]
theorem Mx{l:List bP}{r:gj}{m:bP}(h:(l.find? fun m=>m.op==1 && !m.attr.must)=some m):oP ([l]::r)=some m:=by
 grind [oP]
theorem Eu(gs:List br):∀l:List bD,kM gs l=(l.filter (sP gs)).map (lP gs)
 | []=>aeo
 |k::r=>by
  simp only[kM,List.filter_cons,Eu gs r]
  grind
def ixP(gs:List br)(l:List bD)(n:Nat):List Nat:=(List.range n).filter fun j=>sP gs (l.getD j mc)
theorem DT(gs:List br)(l:List bD){n:Nat}(h:n<l.length):ixP gs l (n+1)=ixP gs l n++(if sP gs l[n]=true then [n]else []):=by
 grind [ixP,List.range_succ,List.getD,List.getElem?_eq_getElem]
theorem DU(gs:List br)(l:List bD):∀n:Nat,n≤l.length→(ixP gs l n).map (fun j=>l.getD j mc)=(l.take n).filter (sP gs)
 |0,_=>aeo
 |n+1,h=>by
  have hlt:n<l.length:=ad9;rw[DT gs l hlt,List.map_append,DU gs l n ad9,List.take_succ_eq_append_getElem hlt,List.filter_append,List.filter_cons]
  congr 1
  grind
theorem SF{gs:List br}{l:List bD}{n j:Nat}(h:j∈ixP gs l n):j<n:=List.mem_range.1 (List.mem_filter.1 h).1
theorem Ia(gs:List br)(l:List bD)(n:Nat):(ixP gs l n).length≤n:=by
 grind [ixP,Nat.le_trans,List.length_filter_le]
theorem Mq(gs:List br)(l:List bD):(ixP gs l l.length).map (fun j=>lP gs (l.getD j mc))=kM gs l:=by
 rw[Eu,←List.take_length (l:=l),←DU gs l l.length (Nat.le_refl _),List.map_map,List.take_length];rfl
theorem oQ(m:bP):dR m= .agg [.i m.attr.cat,.s m.attr.name,.b m.attr.must,.i m.op,.i m.val.kind,.i m.val.n,.s m.val.s]:=rfl
end Go.Bf
namespace Go.Proofs.YtbbadggejjgihaaGreatDoor
open Go Go.Ab Go.Bf
theorem SG(t:gj)(ht:On t)(h:Heap):ai Tryz.prog 210 [aV t] h fun r h' =>r=Pe (oP t)∧h' =h:=by
 have htl:=ht.1;refine ad8 Tryz.func210 38 [.cell 2 233,.tmp 3] fun hwf=>?_
 simp only[go_sem,aV];intro i2 h2;simp only[go_sem,adZ];have hH0:∀x,Ab.Sub h (upd h i2 x):=fun x=> .aj h2
 refine .intro (fun m ρ H=>Ab.Sub h H∧H i2=some (.obj [.i 0,.s [],.b false,.i 0,.i 0,.i 0,.s []] 233)∧∃i:Nat,i≤t.length∧m=t.length - i∧oP (t.drop i)=oP t∧lk ρ 2=some (.ptr i2 0)∧lk ρ 8=some (.sl (t.map cX) .no)∧lk ρ 9=some (.i t.length)∧lk ρ 10=some (.i i)) t.length ?_ ?_
 ·refine⟨hH0 _,ah ..,0,ad9,rfl,rfl,?_,?_,?_,?_⟩<;>simp only[go_sem]
 ·rintro m ρ H ⟨hs,k2,i,hi,rfl,hk,r2,r8,r9,r10⟩
  simp only[go_sem,r9,r10];refine .intro (fun e=>?_) (fun e=>?_)
  ·have hlt:i<t.length:=ad6 e
   have w1:IntKind.i64.wrap ((i:Int)+1)=((i+1:Nat):Int):=aek;rw[List.drop_eq_getElem_cons hlt]at hk;have hxl:=(ht.2 _ (ad4 hlt)).2;have ix:=fun k=>eC.eq (xs:=t.map cX) (sz:=1) i aea aen k
   rw[ad0]at ix;obtain⟨x,ex⟩:∃x,t[i]=x:=⟨_,rfl⟩;rw[ex]at ix hk hxl;simp only[cX]at ix;cases d1:((x.length:Int) !=1)
   case true=>
    have hx1:x.length≠1:=aea;rw[Mw hx1]at hk;simp only[go_sem,r8,r10,ix,adZ,d1,w1];refine⟨_,?_,hs,k2,i+1,ad9,rfl,hk,?_,?_,?_,?_⟩
    ·omega
    all_goals simp only[go_sem,r2,r8,r9]
   have hx1:x.length=1:=aea;obtain⟨l,rfl⟩:=List.length_eq_one_iff.1 hx1;have hll:=hxl l (List.mem_singleton.2 rfl);have iy:=fun k=>eC.eq (xs:=[jj l]) (sz:=1) 0 aeg rfl k
   simp only[List.getElem_cons_zero,jj,Int.natCast_zero]at iy;simp only[go_sem,r8,r10,ix,adZ,List.length_cons,List.length_nil,List.map_cons,List.map_nil,jj,iy];refine .intro (fun m ρ2 H2=>Ab.Sub h H2∧H2 i2=some (.obj [.i 0,.s [],.b false,.i 0,.i 0,.i 0,.s []] 233)∧∃j:Nat,j≤l.length∧m=l.length - j∧(∀k (h1:k<l.length),k<j→(l[k].op==1 && !l[k].attr.must)=false)∧lk ρ2 2=some (.ptr i2 0)∧lk ρ2 8=some (.sl (t.map cX) .no)∧lk ρ2 9=some (.i t.length)∧lk ρ2 10=some (.i i)∧lk ρ2 19=some (.sl (l.map dR) .no)∧lk ρ2 20=some (.i l.length)∧lk ρ2 21=some (.i j)) l.length ?_ ?_
   ·refine⟨hs,k2,0,ad9,rfl,fun k _ hk=>ad9,?_,?_,?_,?_,?_,?_,?_⟩<;>simp only[go_sem,r2,r8,r9,r10]
   ·rintro m ρ2 H2 ⟨hs2,k2,j,hj,rfl,hc,s2,s8,s9,s10,s19,s20,s21⟩
    simp only[go_sem,s20,s21];refine .intro (fun e=>?_) (fun e=>?_)
    ·have hlt2:j<l.length:=ad6 e
     have w2:IntKind.i64.wrap ((j:Int)+1)=((j+1:Nat):Int):=aek;have iz:=fun k=>eC.eq (xs:=l.map dR) (sz:=7) j aea aen k
     rw[ad0]at iz;have hci:=fun(d:(l[j].op==1 && !l[j].attr.must)=false)=>(fun k (h1:k<l.length) (hk:k<j+1)=>(by
      grind:(l[k].op==1 && !l[k].attr.must)=false))
     have hat:=fun(d:(l[j].op==1 && !l[j].attr.must)=true)=>(List.find?_eq_some_iff_getElem.2 ⟨d,j,hlt2,rfl,fun k hk=>aea⟩:(l.find? fun m=>m.op==1 && !m.attr.must)=some l[j])
     obtain⟨z,ez⟩:∃z,l[j]=z:=⟨_,rfl⟩;rw[ez]at iz hci hat;simp only[oQ]at iz;simp only[go_sem,s19,s21,iz];intro i7 h7;have n72:i7≠i2:=fun e=>aea
     cases a1:(z.op==1)
     ·exact aiY
     ·cases a2:z.attr.must
      ·have hkk:=hk.symm.trans (Mx (hat aea))
       simp only[go_sem,s2,a1,ak,n72.symm,k2];exact .mk _ (.refl _) ((hs2.trans (.aj h7)).put h2 _) ⟨by rw[hkk];simp only[Pe,oQ,a2];rfl,rfl⟩
      ·exact aiY
    ·have hge:j=l.length:=by grind
     subst hge;rw[Mv (List.find?_eq_none.2 fun z hz=>by
      obtain⟨k,hk,rfl⟩:=List.mem_iff_getElem.1 hz
      grind)]at hk
     simp only[go_sem,s10,w1];refine⟨_,?_,hs2,k2,i+1,ad9,rfl,hk,?_,?_,?_,?_⟩
     ·omega
     all_goals simp only[go_sem,s2,s8,s9]
  ·have hge:i=t.length:=by grind
   subst hge;rw[List.drop_length]at hk;simp only[go_sem,r2,k2];exact .mk _ (.refl _) (hs.put h2 _) ⟨by rw[←hk];rfl,rfl⟩
theorem J8{gs:List br}{p:bD}(h:oP (sU p)=none):sP gs p=true:=by grind [sP]
theorem J9{gs:List br}{p:bD}{m:bP}(h:oP (sU p)=some m):sP gs p=decide (j9 gs m≠0):=by grind [sP]
def tX(n:Nat):AV:=.i n
theorem Nc(l:List bD)(hl:l.length≤1000)(ht:∀p∈l,On (sU p))(gs:List br)(hf:rW gs)(h:Heap):ai Tryz.prog 160 [.sl (l.map aO) .no,bJ gs] h fun r h' =>r= .sl ((ixP gs l l.length).map tX) .no∧h' =h:=by
 have hmt:=fun(m:bP) (G:Heap)=>Bg m gs hf G
 simp only[oQ,bJ]at hmt;have uI:(U 3).sz=1:=aeo;refine ad8 Tryz.func160 37 [.tmp 4] fun hwf=>?_
 simp only[go_sem,bJ,adZ];refine .intro (fun m ρ H=>∃(i:Nat) (y:AV),Acc U 3 h H y ((ixP gs l i).map tX)∧i≤l.length∧m=l.length - i∧lk ρ 1=some (.sl (gs.map lH) .no)∧lk ρ 5=some y∧lk ρ 10=some (.sl (l.map aO) .no)∧lk ρ 11=some (.i l.length)∧lk ρ 12=some (.i i)) l.length ?_ ?_
 ·refine⟨0,.sl [] .full,.full (.refl _),ad9,rfl,?_,?_,?_,?_,?_⟩<;>simp only[go_sem]
 ·rintro m ρ H ⟨i,y,hy,hi,rfl,r1,r5,r10,r11,r12⟩
  obtain⟨qy,eqy⟩:=hy.row;subst eqy;simp only[go_sem,r11,r12];refine .intro (fun e=>?_) (fun e=>?_)
  ·have hlt:i<l.length:=ad6 e
   have w1:IntKind.i64.wrap ((i:Int)+1)=((i+1:Nat):Int):=aek;have hsn:=DT gs l hlt;have hpl:=Ia gs l i;have ix:=fun k=>eC.eq (xs:=l.map aO) (sz:=7) i aea (by rw[ad0,jH]) k
   rw[ad0]at ix;have hft:=ht _ (ad4 hlt);obtain⟨x,ex⟩:∃x,l[i]=x:=⟨_,rfl⟩;rw[ex]at ix hsn hft;have hky:=fun G=>SG (sU x) hft G
   have mn:=fun h=>J8 (gs:=gs) (p:=x) h
   have ms:=fun m h=>J9 (gs:=gs) (p:=x) (m:=m) h
   obtain⟨kid,kset,kalg,ktgt,krules,kkids,kobls⟩:=x;simp only[sU]at hky hft mn ms;simp only[aO,aV,ay,bf]at ix;simp only[aV]at hky;simp only[go_sem,r10,r12,ix];intro i7 h7;simp only[go_sem];refine(hky _).pthen ?_;have hkeep:sP gs (.mk kid kset kalg ktgt krules kkids kobls)=true→ixP gs l (i+1)=ixP gs l i++ [i]:=fun e=>aea
   have hdrop:sP gs (.mk kid kset kalg ktgt krules kkids kobls)=false→ixP gs l (i+1)=ixP gs l i:=fun e=>aea
   cases hk:oP ktgt with
   |none=>
    simp only[go_sem,Pe,oQ];intro i8 h8;simp only[go_sem,r5];exact aiI
   |some m=>
    have hm2:=ms m hk;simp only[go_sem,Pe,oQ];intro i8 h8;simp only[go_sem,r1];refine(hmt m _).pthen ?_;cases dm:((j9 gs m:Int) !=0)
    ·have e0:j9 gs m=0:=by grind
     simp only[go_sem,r12,dm,w1];refine⟨_,?_,i+1,_,by rw[hdrop aea];exact(hy.sub (.aj h7)).sub (.aj h8),ad9,rfl,?_,?_,?_,?_,?_⟩
     ·omega
     all_goals simp only[go_sem,r1,r5,r10,r11]
    ·have e0:j9 gs m≠0:=by grind
     simp only[go_sem,r5,dm];exact aiI
  ·have hge:i=l.length:=by grind
   subst hge;simp only[go_sem,r5];exact .mk _ (.sl _ _) hy.1 ⟨rfl,rfl⟩
theorem Wa{id:Txt}{set:Bool}{alg:Int}{tgt:gj}{rules:List cR}{kids:List bD}{obls:List cD}{L:List AV}(hL:L=kids.map aO)(q:Perm):Weak (.agg [.s id,.b set,.i alg,.sl (tgt.map cX) .no,.sl (rules.map aC) .no,.sl L q,.sl (obls.map bt) .no]) (aO (.mk id set alg tgt rules kids obls)):=by
 subst hL;rw[aO,bf];refine .agg _ _ rfl fun i a b=>?_
 rcases i with _|_|_|_|_|_|_|i
 ·exact afu
 ·exact afu
 ·exact afu
 ·exact afu
 ·exact afu
 ·exact agO
 ·exact afu
 ·simp at a;omega
theorem Bo:∀(n d:Nat),d+n=5→∀(p:bD),mF d p→∀(gs:List br),rW gs→∀(h:Heap),ai Tryz.prog 106 [aO p,bJ gs] h fun r h' =>r=aO (lP gs p)∧h' =h
 |0,d,hd,.mk id set alg tgt rules kids obls,hE,gs,hf,h=>by
  simp only[mF]at hE;omega
 |n+1,d,hd,.mk id set alg tgt rules kids obls,hE,gs,hf,h=>by
  have ih:=Bo n (d+1) ad9;simp only[mF,qR]at hE;obtain⟨_,_,_,_,_,_,hT,hO,hR,hK,hRE,hKE⟩:=hE;have hpk:=fun G=>Nc kids ad9 (fun p hp=>by
   have h1:=hKE p hp;obtain⟨kid,kset,kalg,ktgt,krules,kkids,kobls⟩:=p;simp only[mF]at h1;exact CH h1.2.2.2.2.2.2.1) gs hf G
  have hpe:lP gs (.mk id set alg tgt rules kids obls)= .mk id set alg tgt rules (kM gs kids) obls:=aeo;have hfull:=Mq gs kids;have hIlt:∀j∈ixP gs kids kids.length,j<kids.length:=fun j hj=>SF hj
  have hIl:(ixP gs kids kids.length).length≤16:=Nat.le_trans (Ia _ _ _) hK;obtain⟨I,eI⟩:∃I,ixP gs kids kids.length=I:=⟨_,rfl⟩;rw[eI]at hpk hfull hIlt hIl;simp only[bJ]at hpk;have uP:(U 49).sz=7:=aeo;refine ad8 Tryz.func106 31 [.cell 4 49] fun hwf=>?_
  simp only[go_sem,aO,bJ,bf,aV,ay];intro i2 h2;simp only[go_sem];intro i4 h4;have n42:=aI h4;have n4' :=aB h4;obtain⟨H0,eH⟩:∃H0,upd (upd h i2 (some (.obj [.s id,.b set,.i alg,.sl (tgt.map cX) .no,.sl (rules.map aC) .no,.sl (kids.map aO) .no,.sl (obls.map bt) .no] 49))) i4 (some (.obj [.s [],.b false,.i 0,.sl [] .full,.sl [] .full,.sl [] .full,.sl [] .full] 49))=H0:=⟨_,rfl⟩;have hH0:Ab.Sub h H0:=ag7;have g2:H0 i2=some (.obj [.s id,.b set,.i alg,.sl (tgt.map cX) .no,.sl (rules.map aC) .no,.sl (kids.map aO) .no,.sl (obls.map bt) .no] 49):=ahP;have g4:H0 i4=some (.obj [.s [],.b false,.i 0,.sl [] .full,.sl [] .full,.sl [] .full,.sl [] .full] 49):=afC;simp only[go_sem,ak,n42.symm];rw[eH];clear eH;refine(hpk _).pthen ?_;simp only[go_sem,adZ];refine .intro (fun m ρ H=>∃(i:Nat) (y:AV),Acc U 49 H0 H y (((I.map fun j=>lP gs (kids.getD j mc)).take i).map aO)∧i≤I.length∧m=I.length - i∧lk ρ 1=some (.sl (gs.map lH) .no)∧lk ρ 2=some (.ptr i2 0)∧lk ρ 4=some (.ptr i4 0)∧lk ρ 5=some y∧lk ρ 11=some (.sl (I.map tX) .no)∧lk ρ 12=some (.i I.length)∧lk ρ 13=some (.i i)) I.length ?_ ?_
  ·refine⟨0,.sl [] .full,.full (.refl _),ad9,rfl,?_,?_,?_,?_,?_,?_,?_⟩<;>simp only[go_sem]
  ·rintro m ρ H ⟨i,y,hy,hi,rfl,r1,r2,r4,r5,r11,r12,r13⟩
   obtain⟨qy,eqy⟩:=hy.row;subst eqy;have k2:=hy.1 _ _ g2;simp only[go_sem,r12,r13];refine .intro (fun e=>?_) (fun e=>?_)
   ·have hlt:i<I.length:=ad6 e
    have w1:IntKind.i64.wrap ((i:Int)+1)=((i+1:Nat):Int):=aek;have hjlt:=hIlt _ (ad4 hlt);have hsn:((I.map fun j=>lP gs (kids.getD j mc)).take (i+1)).map aO=((I.map fun j=>lP gs (kids.getD j mc)).take i).map aO++ [aO (lP gs (kids.getD I[i] mc))]:=by
     grind [List.take_succ_eq_append_getElem]
    have ix:=fun k=>eC.eq (xs:=I.map tX) (sz:=1) i aea aen k
    rw[ad0]at ix;obtain⟨j,ej⟩:∃j,I[i]=j:=⟨_,rfl⟩;rw[ej]at ix hsn hjlt;have iy:=fun k=>eC.eq (xs:=kids.map aO) (sz:=7) j aea (by rw[ad0,jH]) k
    rw[ad0]at iy;rw[show kids.getD j mc=kids[j] by grind]at hsn
    have hke:=hKE _ (ad4 hjlt);obtain⟨x,ex⟩:∃x,kids[j]=x:=⟨_,rfl⟩;rw[ex]at iy hsn hke;have hr1:=ih x hke gs hf;obtain⟨z,ez⟩:∃z,lP gs x=z:=⟨_,rfl⟩;rw[ez]at hr1 hsn;obtain⟨kid,kset,kalg,ktgt,krules,kkids,kobls⟩:=x;obtain⟨zid,zset,zalg,ztgt,zrules,zkids,zobls⟩:=z;simp only[aO,aV,ay,bf,bJ]at iy hr1;simp only[tX]at ix;simp only[go_sem,r1,r2,r5,r11,r13,ix,k2,iy];refine(hr1 _).pthen ?_;simp only[go_sem];refine hy.app (zs:=[aO (.mk zid zset zalg ztgt zrules zkids zobls)]) ad9 aed (fun k hk=>show k _ from(by simpa only[aO,aV,ay,bf]using hk)) (by grind [bx,aO,jH]) (by rw[uP];intro z hz;grind [List.mem_singleton,jH]) aes fun y' H' hy' kp=>?_
    simp only[go_sem,r13,w1];refine⟨_,?_,i+1,y',aea,ad9,rfl,?_,?_,?_,?_,?_,?_,?_⟩
    ·omega
    all_goals simp only[go_sem,r1,r2,r4,r11,r12]
   ·have hge:i=I.length:=by grind
    subst hge;have htl:(I.map fun j=>lP gs (kids.getD j mc)).take I.length=kM gs kids:=by grind [List.take_of_length_le]
    rw[htl]at r5 hy;have k4:=hy.1 _ _ g4;have n24:i2≠i4:=n42.symm;simp only[go_sem,r2,r4,r5,k2,ak,n42,k4];refine .mk (aO (.mk id set alg tgt rules (kM gs kids) obls)) (Wa rfl _) (((hH0.trans hy.1).put h2 _).put n4' _) ⟨aeo,rfl⟩
theorem DS(p:bD)(hp:gH p=0)(gs:List br)(hf:rW gs)(h:Heap):ai Tryz.prog 51 [aO p,bJ gs] h fun r h' =>r= .tup [rsA (fJ gs p),.i 0]∧h' =h:=by
 have hpk:=fun G=>Bo 4 1 rfl p (ry hp) gs hf G
 have hev:=fun G=>Dr (lP gs p) (GM gs hp) gs hf G
 have hr:=fun G=>uw p G
 rw[hp]at hr;rw[Bm]at hev;obtain⟨id,set,alg,tgt,rules,kids,obls⟩:=p;refine ad8 Tryz.func51 17 [.cell 4 118,.tmp 5] fun hwf=>?_
 simp only[go_sem,aO,bJ,aV,ay];intro i2 h2;simp only[go_sem];intro i4 h4;have n42:=aI h4;have n4:=aB h4;have hs:∀x y,Ab.Sub h (upd (upd h i2 x) i4 y):=fun x y=>((Sub.refl h).put h2 x).put n4 y
 simp only[go_sem,ak,n42.symm];refine(hr _).pthen ?_;simp only[go_sem,ak,n42.symm];refine(hpk _).pthen ?_;simp only[go_sem];refine(hev _).pthen ?_;simp only[go_sem,rsA,aN,ay];exact afL
def OwR(h0 h:Heap)(y:AV)(rs:List ij):Prop:=y=eJ rs∨OwE 105 h0 h 2 y (rs.map eV)
theorem OwR.rd{h0 h:Heap}{y:AV}{rs:List ij}(hr:OwR h0 h y rs):Rd h 2 y (rs.map eV):=by
 rcases hr with rfl|hr
 ·exact eE eV 2 (fun _=>rfl) h rs
 ·exact hr.rd
theorem OwR.nid{h0 h:Heap}{y:AV}{rs:List ij}(hr:OwR h0 h y rs){k:Nat}(e:Ab.nid y=some k):h0 k=none∧h k≠none:=by
 rcases hr with rfl|hr
 ·cases e
 ·exact⟨(hr.nid e).1,(hr.nid e).2.1⟩
theorem OwR.keep{h0 h h' :Heap}{y:AV}{rs:List ij}(hr:OwR h0 h y rs)(hk:∀id,Ab.nid y=some id→h' id=h id):OwR h0 h' y rs:=by
 rcases hr with hr|hr
 ·exact .inl hr
 ·exact .inr (hr.keep hk)
theorem OwR.bL{g h0 h:Heap}{y:AV}{rs:List ij}(hr:OwR h0 h y rs)(hg:∀i,h0 i=none→g i=none):OwR g h y rs:=by
 rcases hr with hr|hr
 ·exact .inl hr
 ·exact .inr (hr.bL hg)
theorem OwR.frz{g h:Heap}{y:AV}{rs:List ij}(hr:OwR g h y rs):Frz g h y (eJ rs):=by
 rcases hr with rfl|hr
 ·exact .pure (by simp only[eJ,cK];exact bl (fun _=>rfl) _)
 ·exact hr.frz (bl (fun _=>rfl) _)
structure iR (h0 h:Heap) (y1 y2 y3 y4:AV) (s:an) (j:Nat):Prop where
 cs:mz h0 h [y1,y2,y3,y4] y1 s.cases j
 rv:OwE 99 h0 h 7 y2 (s.reviews.map iZ)
 nt:OwE 102 h0 h 3 y3 (s.notices.map nw)
 rl:OwR h0 h y4 s.roles
 a12:apart y1 y2
 a13:apart y1 y3
 a14:apart y1 y4
 a23:apart y2 y3
 a24:apart y2 y4
 a34:apart y3 y4
def stC(s:an)(y1 y2 y3 y4:AV):List AV:=[.i s.tick,y1,y2,y3,y4]++gb s.policy++ [.i s.version]
theorem tj.parts{h0 h:Heap}{x:AV}{s:an}{j:Nat}(ho:tj h0 h x s j):∃y1 y2 y3 y4,x= .agg (stC s y1 y2 y3 y4)∧iR h0 h y1 y2 y3 y4 s j:=by
 obtain⟨y1,y2,y3,y4,e,a,b,c,d,r1,r2,r3,r4,r5,r6⟩:=ho;exact⟨y1,y2,y3,y4,e,a,b,c,.inr d,r1,r2,r3,r4,r5,r6⟩
theorem iR.rd{h0 h:Heap}{y1 y2 y3 y4:AV}{s:an}{j:Nat}(ho:iR h0 h y1 y2 y3 y4 s j):RdS h (.agg (stC s y1 y2 y3 y4)) s:=
 ⟨y1,y2,y3,y4,rfl,ho.cs.rd,ho.rv.rd,ho.nt.rd,ho.rl.rd⟩
theorem iR.frz{g h:Heap}{y1 y2 y3 y4:AV}{s:an}{j:Nat}(ho:iR g h y1 y2 y3 y4 s j):Frz g h (.agg (stC s y1 y2 y3 y4)) (cI s):=
 u9 (ho.cs.frz (.refl _)) (ho.rv.frz (bl (fun _=>rfl) _)) (ho.nt.frz (bl (fun _=>rfl) _)) ho.rl.frz
theorem iR.bL{g h0 h:Heap}{y1 y2 y3 y4:AV}{s:an}{j:Nat}(ho:iR h0 h y1 y2 y3 y4 s j)(hg:∀i,h0 i=none→g i=none):iR g h y1 y2 y3 y4 s j:=
 {ho with cs:=ho.cs.bL hg,rv:=ho.rv.bL hg,nt:=ho.nt.bL hg,rl:=ho.rl.bL hg}
theorem iR.keep{h0 h h' :Heap}{y1 y2 y3 y4:AV}{s:an}{j:Nat}(ho:iR h0 h y1 y2 y3 y4 s j)(hk:∀id,h0 id=none→h id≠none→h' id=h id):iR h0 h' y1 y2 y3 y4 s j:=
 {ho with cs:=ho.cs.keepb hk,rv:=ho.rv.keepb hk,nt:=ho.nt.keepb hk,rl:=ho.rl.keep fun id e=>hk id (ho.rl.nid e).1 (ho.rl.nid e).2}
theorem iR.mem{h0 h:Heap}{y1 y2 y3 y4:AV}{s:an}{j:Nat}(ho:iR h0 h y1 y2 y3 y4 s j){w:AV}(hw:w∈ [y1,y2,y3,y4]){k:Nat}(e:Ab.nid w=some k):h0 k=none∧h k≠none:=by
 obtain⟨xs,a,_⟩:=ho.cs;simp only[List.mem_cons,List.not_mem_nil,or_false]at hw;rcases hw with rfl|rfl|rfl|rfl
 ·exact⟨(a.nid e).1,(a.nid e).2.1⟩
 ·exact⟨(ho.rv.nid e).1,(ho.rv.nid e).2.1⟩
 ·exact⟨(ho.nt.nid e).1,(ho.nt.nid e).2.1⟩
 ·exact ho.rl.nid e
theorem iR.revs{h0 h h' :Heap}{y1 y2 y3 y4 z:AV}{s:an}{j:Nat}{rs:List qt}(ho:iR h0 h y1 y2 y3 y4 s j)(hz:OwE 99 h0 h' 7 z (rs.map iZ))(hn:∀k,Ab.nid z=some k→h k=none∨Ab.nid y2=some k)
  (hk:∀id,h0 id=none→h id≠none→Ab.nid y2≠some id→h' id=h id):iR h0 h' y1 z y3 y4 {s with reviews:=rs} j:=by
 obtain⟨hcs,hrv,hnt,hrl,a12,a13,a14,a23,a24,a34⟩:=id ho;have ap:∀ {w:AV},w∈ [y1,y2,y3,y4]→apart w y2→apart w z:=fun hw ha k e1 e2=>(hn k e2).elim (fun h=>(ho.mem hw e1).2 h) (fun h=>ha k e1 h)
 refine⟨hcs.move (z:=y2) aeg a12 hk fun w hw k e=>?_,hz,hnt.keep fun id e=>hk id (hnt.nid e).1 (hnt.nid e).2.1 fun e1=>a23 id e1 e,hrl.keep fun id e=>hk id (hrl.nid e).1 (hrl.nid e).2 fun e1=>a24 id e1 e,ap aeg a12,a13,a14,(ap aeg a23.symm).symm,(ap aeg a24.symm).symm,a34⟩
 grind
theorem iR.nots{h0 h h' :Heap}{y1 y2 y3 y4 z:AV}{s:an}{j:Nat}{rs:List IY}(ho:iR h0 h y1 y2 y3 y4 s j)(hz:OwE 102 h0 h' 3 z (rs.map nw))(hn:∀k,Ab.nid z=some k→h k=none∨Ab.nid y3=some k)
  (hk:∀id,h0 id=none→h id≠none→Ab.nid y3≠some id→h' id=h id):iR h0 h' y1 y2 z y4 {s with notices:=rs} j:=by
 obtain⟨hcs,hrv,hnt,hrl,a12,a13,a14,a23,a24,a34⟩:=id ho;have ap:∀ {w:AV},w∈ [y1,y2,y3,y4]→apart w y3→apart w z:=fun hw ha k e1 e2=>(hn k e2).elim (fun h=>(ho.mem hw e1).2 h) (fun h=>ha k e1 h)
 refine⟨hcs.move (z:=y3) aeg a13 hk fun w hw k e=>?_,hrv.keep fun id e=>hk id (hrv.nid e).1 (hrv.nid e).2.1 fun e1=>a23 id e e1,hz,hrl.keep fun id e=>hk id (hrl.nid e).1 (hrl.nid e).2 fun e1=>a34 id e1 e,a12,ap aeg a13,a14,ap aeg a23,a24,(ap aeg a34.symm).symm⟩
 grind
end Go.Proofs.YtbbadggejjgihaaGreatDoor
namespace Go.Bf
open Go Go.Ab Go.Proofs.YtbbadggejjgihaaGreatDoor
def iq(s:an):Prop:=∀r∈s.reviews,0≤r.tick∧r.tick≤1099511627776
theorem BJ{s:an}(o:OpD)(w:Txt)(h:iq s)(ht:0≤s.tick∧s.tick≤1099511627776):iq (bX s o w):=fun r hr=>by
 simp only[bX,List.mem_append,List.mem_singleton]at hr;rcases hr with hr|rfl
 ·exact h r hr
 ·exact ht
theorem KN{s:an}(o:OpD)(w:Txt)(h:iq s):iq (iF s o w):=fun r hr=>h r (by grind [zb])
theorem KM{s:an}(o:OpD)(done:Bool)(x:cD)(h:iq s)(ht:0≤s.tick∧s.tick≤1099511627776):iq (fo o done s x):=by
 unfold fo;split
 ·grind [KN]
 ·split
  ·grind [BJ]
  ·split<;>exact h
theorem xd(o:OpD)(done:Bool):∀(l:List cD) {s:an},iq s→(0≤s.tick∧s.tick≤1099511627776)→iq (dw s o l done)
 | [],s,h,_=>h
 |x::l,s,h,ht=>xd o done l (by grind [KM]) (by grind [Dl])
theorem NS{s:an}(par:Txt→bD×Int×Int)(o:OpD)(h:iq s):iq (cS par s o):=fun r hr=>by
 rw[uY]at hr;split at hr
 ·rcases mem_modify hr with hr|⟨hi,rfl⟩
  ·exact h r hr
  ·have h2:=h _ (ad4 hi)
   exact aih
 ·exact h r hr
theorem Hg{k:Nat}{s:an}(o:OpD)(h:jy k s)(ht:iq s):iq (aF s o).1:=by
 unfold aF;split
 ·omega
 ·split
  ·omega
  ·show iq (cN s o)
   have h1:dI k (if dY s o then bX s o o.reason else s):=by
    split
    ·exact Cy o _ h.todI (by have:=h.nr;omega)
    ·exact h.todI
   have t1:iq (if dY s o then bX s o o.reason else s):=by
    split
    ·exact BJ o _ ht h.tick
    omega
   refine xd o _ _ ?_ ?_
   ·grind [NS]
   ·split
    ·exact(pW o h1).tick
    ·exact h1.tick
structure gC (k:Nat) (s:an):Prop extends jy k s where
 ticks:iq s
theorem sF:gC 0 xx:={JO with ticks:=fun r h=>aeW}
theorem qO{k:Nat}{s:an}(o:OpD)(h:gC k s):gC (k+1) (aF s o).1:={F6 o h.tojy with ticks:=Hg o h.tojy h.ticks}
theorem Pa{cs:List aM}{id:Txt}(h:iV cs id<cs.length):cs[iV cs id].id=id:=by
 have:=List.findIdx_getElem (p:=fun c:aM=>c.id==id) (w:=h)
 exact eq_of_beq this
theorem Gf{cs:List aM}(ha:Asc cs){id:Txt}(h:iV cs id<cs.length):findD cs id=iV cs id:=by
 have hid:=Pa h;have hin:bZ cs id=true:=by grind [vJ,List.any_eq_true,ad4]
 have hir:Op.bytesLess id id=false:=by simpa[lt]using lt_irrefl id
 have h1:∃hl:findD cs id<cs.length,cs[findD cs id].id=id:=by
  unfold bZ at hin
  grind
 rcases Nat.lt_trichotomy (findD cs id) (iV cs id)with hlt|heq|hgt
 ·exact absurd (List.not_of_lt_findIdx (p:=fun c:aM=>c.id==id) hlt) aea
 ·exact heq
 ·have:=List.not_of_lt_findIdx (p:=fun c:aM=>geB c.id id) hgt
  exact absurd this (by grind [geB])
theorem Mo{cs ds:List aM}(h:ds.map (·.id)=cs.map (·.id))(id:Txt):iV ds id=iV cs id:=by
 have e:∀l:List aM,iV l id=(l.map (·.id)).findIdx fun x=>x==id:=fun l=>by
  rw[List.findIdx_map];rfl
 rw[e,e,h]
theorem J0(s:an)(o:OpD)(w:Txt)(id:Txt):iV (iF s o w).cases id=iV s.cases id∧(iF s o w).cases.length=s.cases.length:=by
 unfold iF;split
 ·exact⟨Mo (kS (f:=fun c=>jD s c o.subj w) (g:=fun c:aM=>c.id) fun c=>rfl) id,aeg⟩
 omega
theorem JZ(o:OpD)(done:Bool)(s:an)(x:cD)(id:Txt):iV (fo o done s x).cases id=iV s.cases id∧(fo o done s x).cases.length=s.cases.length:=by
 unfold fo;split
 ·grind [J0]
 ·split
  ·exact⟨rfl,rfl⟩
  grind
end Go.Bf
namespace Go.Proofs.YtbbadggejjgihaaGreatDoor
open Go Go.Ab Go.Bf
theorem Mr{α:Type}(y:AV)(xs:List AV)(ds:List α)(q:α→Bool)(g:FuncId)(cap:List AV)(h:Heap)(hb:Rd h 7 y xs)(hn:xs.length=ds.length)(hl:xs.length≤1000000000)(hx:∀x∈xs,bA x=true)
  (hp:∀i (h1:i<xs.length) (h2:i<ds.length),ai Tryz.prog g (xs[i]::cap) h fun r h' =>r= .b (q ds[i])∧h' =h):
  ai Tryz.prog 214 [y,.fn g cap] h fun r h' =>r= .i (ixD q ds)∧h' =h:=by
 refine ad8 Tryz.func214 19 [.tmp 4] fun hwf=>?_
 simp only[go_sem,hb.len];refine .intro (fun m ρ h' =>h' =h∧∃i:Nat,i≤xs.length∧m=xs.length - i∧(∀j (hj:j<i) (h2:j<ds.length),q ds[j]=false)∧lk ρ 0=some y∧lk ρ 1=some (.fn g cap)∧lk ρ 7=some (.i xs.length)∧lk ρ 8=some (.i i)) xs.length ?_ ?_
 ·refine⟨rfl,0,ad9,rfl,fun j hj=>ad9,?_,?_,?_,?_⟩<;>simp only[go_sem]
 ·rintro m ρ h' ⟨rfl,i,hi,rfl,hc,r0,r1,r7,r8⟩
  simp only[go_sem,r7,r8];refine .intro (fun e=>?_) (fun e=>?_)
  ·have hlt:i<xs.length:=ad6 e
   have hlt2:i<ds.length:=ad9;have w1:IntKind.i64.wrap ((i:Int)+1)=((i+1:Nat):Int):=aek;simp only[go_sem,r0,r1,r8];refine hb.idx (e:=99) i rfl hlt aeo aed fun p hp1=>?_
   have hld:=hp1.all (U:=U) (ty:=99) aed ae3 afY;simp only[go_sem,hld];refine(show ai Tryz.prog g (xs[i]::cap) _ _ from hp i hlt hlt2).pthen ?_
   cases d1:q ds[i]
   ·simp only[go_sem,r8,w1]
    refine⟨_,?_,rfl,i+1,ad9,rfl,fun j hj h2=>?_,?_,?_,?_,?_⟩
    ·omega
    ·grind
    all_goals simp only[go_sem,r0,r1,r7]
   ·simp only[go_sem]
    exact .same (.refl _) ⟨aeT,rfl⟩
  ·have hge:i=xs.length:=by grind
   simp only[go_sem];exact .same (.refl _) ⟨aeB,rfl⟩
theorem Mp{α:Type}(y:AV)(xs:List AV)(ds:List α)(q:α→Bool)(g:FuncId)(cap:List AV)(h:Heap)(hb:Rd h 3 y xs)(hn:xs.length=ds.length)(hl:xs.length≤1000000000)(hx:∀x∈xs,bA x=true)
  (hp:∀i (h1:i<xs.length) (h2:i<ds.length),ai Tryz.prog g (xs[i]::cap) h fun r h' =>r= .b (q ds[i])∧h' =h):
  ai Tryz.prog 170 [y,.fn g cap] h fun r h' =>r= .i (ixD q ds)∧h' =h:=by
 refine ad8 Tryz.func170 19 [.tmp 4] fun hwf=>?_
 simp only[go_sem,hb.len];refine .intro (fun m ρ h' =>h' =h∧∃i:Nat,i≤xs.length∧m=xs.length - i∧(∀j (hj:j<i) (h2:j<ds.length),q ds[j]=false)∧lk ρ 0=some y∧lk ρ 1=some (.fn g cap)∧lk ρ 7=some (.i xs.length)∧lk ρ 8=some (.i i)) xs.length ?_ ?_
 ·refine⟨rfl,0,ad9,rfl,fun j hj=>ad9,?_,?_,?_,?_⟩<;>simp only[go_sem]
 ·rintro m ρ h' ⟨rfl,i,hi,rfl,hc,r0,r1,r7,r8⟩
  simp only[go_sem,r7,r8];refine .intro (fun e=>?_) (fun e=>?_)
  ·have hlt:i<xs.length:=ad6 e
   have hlt2:i<ds.length:=ad9;have w1:IntKind.i64.wrap ((i:Int)+1)=((i+1:Nat):Int):=aek;simp only[go_sem,r0,r1,r8];refine hb.idx (e:=91) i rfl hlt aeo aed fun p hp1=>?_
   have hld:=hp1.all (U:=U) (ty:=91) aed ae3 afY;simp only[go_sem,hld];refine(show ai Tryz.prog g (xs[i]::cap) _ _ from hp i hlt hlt2).pthen ?_
   cases d1:q ds[i]
   ·simp only[go_sem,r8,w1]
    refine⟨_,?_,rfl,i+1,ad9,rfl,fun j hj h2=>?_,?_,?_,?_,?_⟩
    ·omega
    ·grind
    all_goals simp only[go_sem,r0,r1,r7]
   ·simp only[go_sem]
    exact .same (.refl _) ⟨aeT,rfl⟩
  ·have hge:i=xs.length:=by grind
   simp only[go_sem];exact .same (.refl _) ⟨aeB,rfl⟩
theorem JT(y:AV)(ds:List qt)(q:qt→Bool)(g:FuncId)(cap:List AV)(h:Heap)(hb:Rd h 7 y (ds.map iZ))(hl:ds.length≤1000000000)
  (hp:∀i (h2:i<ds.length),ai Tryz.prog g (iZ ds[i]::cap) h fun r h' =>r= .b (q ds[i])∧h' =h):
  ai Tryz.prog 162 [y,.fn g cap] h fun r h' =>r= .b (ds.any q)∧h' =h:=by
 refine ad8 Tryz.func162 9 [.tmp 4] fun hwf=>?_
 simp only[go_sem];refine(Mr y _ ds q g cap h hb aeg aea (o6 (fun _=>rfl) _) fun i a b=>by rw[ad0];exact hp i b).pthen ?_
 simp only[go_sem,uT];exact aei
theorem JS(y:AV)(ds:List cD)(q:cD→Bool)(g:FuncId)(cap:List AV)(h:Heap)(hb:Rd h 3 y (ds.map bt))(hl:ds.length≤1000000000)
  (hp:∀i (h2:i<ds.length),ai Tryz.prog g (bt ds[i]::cap) h fun r h' =>r= .b (q ds[i])∧h' =h):
  ai Tryz.prog 119 [y,.fn g cap] h fun r h' =>r= .b (ds.any q)∧h' =h:=by
 refine ad8 Tryz.func119 9 [.tmp 4] fun hwf=>?_
 simp only[go_sem];refine(Mp y _ ds q g cap h hb aeg aea (o6 (fun _=>rfl) _) fun i a b=>by rw[ad0];exact hp i b).pthen ?_
 simp only[go_sem,uT];exact aei
theorem F8(y:AV)(xs:List AV)(ds:List aM)(q:aM→Bool)(g:FuncId)(cap:List AV)(h:Heap)(hb:Rd h 5 y xs)(hn:xs.length=ds.length)(hl:xs.length≤1000000000)(hx:∀x∈xs,bA x=true)
  (hp:∀i (h1:i<xs.length) (h2:i<ds.length),ai Tryz.prog g (xs[i]::cap) h fun r h' =>r= .b (q ds[i])∧h' =h):
  ai Tryz.prog 125 [y,.fn g cap] h fun r h' =>r= .b (ds.any q)∧h' =h:=by
 refine ad8 Tryz.func125 9 [.tmp 4] fun hwf=>?_
 simp only[go_sem];refine(vi y xs ds q g cap h hb hn hl hx hp).pthen ?_;simp only[go_sem,uT];exact aei
theorem My{h:Heap}(r:qt){k1 k2:Nat}{subj:Txt}{s:an}(hk1:h k1=some (.obj [.s subj] 9))(hk2:h k2=some (.obj (sL s) 51))(ht:0≤s.tick∧s.tick≤1099511627776)(hr:0≤r.tick∧r.tick≤1099511627776):
  ai Tryz.prog 163 [iZ r,.ptr k1 0,.ptr k2 0] h fun x h' =>x= .b (r.subj==subj && qX s r)∧h' =h:=by
 have w:IntKind.i64.wrap (s.tick - r.tick)=s.tick - r.tick:=aZ _ ad9;obtain⟨tick,cs,rv,nt,ro,⟨pid,pset,palg,ptgt,prules,pkids,pobls⟩,ver⟩:=s;simp only[sL]at hk2;simp only at w;refine ad8 Tryz.func163 21 [.tmp 4] fun hwf=>?_
 simp only[go_sem,iZ];intro i3 h3;have n31:i3≠k1:=fun e=>aea
 have n32:i3≠k2:=fun e=>aea
 cases d1:(r.subj==subj)
 ·simp only[go_sem,ak,n31.symm,hk1,d1]
  exact .mk _ (.refl _) (.aj h3) ⟨rfl,rfl⟩
 cases d2:r.isOpen
 ·simp only[go_sem,ak,n31.symm,hk1,d1]
  exact .mk _ (.refl _) (.aj h3) ⟨by simp only[qX,d2];rfl,rfl⟩
 ·simp only[go_sem,ak,n31.symm,n32.symm,hk1,hk2,d1,w]
  exact .mk _ (.refl _) (.aj h3) ⟨by simp only[qX,d2];rfl,rfl⟩
theorem Ph(s:an)(subj:Txt)(hn:s.reviews.length≤1000000)(ht:0≤s.tick∧s.tick≤1099511627776)(hr:iq s)(h:Heap):ai Tryz.prog 110 [cI s,.s subj] h fun x h' =>x= .b (Mz s subj)∧h' =h:=by
 have hl1:=fun(H:Heap) (k1 k2:Nat) (e1:H k1=some (.obj [.s subj] 9)) (e2:H k2=some (.obj (sL s) 51))=>JT (kN s.reviews) s.reviews (fun r=>r.subj==subj && qX s r) 163 [.ptr k1 0,.ptr k2 0] H (eE iZ 7 (fun _=>rfl) H _) ad9 fun i h2=>My _ e1 e2 ht (hr _ (ad4 h2))
 have hst:=vF s;obtain⟨tick,cs,rv,nt,ro,⟨pid,pset,palg,ptgt,prules,pkids,pobls⟩,ver⟩:=s;rw[hst];simp only[sL]at hl1⊢;refine ad8 Tryz.func110 9 [.tmp 4] fun hwf=>?_
 simp only[go_sem];intro i2 h2;simp only[go_sem];intro i3 h3;have n32:=aI h3;have n3:=aB h3;have hs:∀x y,Ab.Sub h (upd (upd h i2 x) i3 y):=fun x y=>((Sub.refl h).put h2 x).put n3 y
 simp only[go_sem,ak,n32.symm];refine(hl1 _ i3 i2 (ah ..) (by grind [ag,ah])).pthen ?_
 simp only[go_sem];exact afL
theorem I6(s:an)(o:OpD)(m:aT)(hm9:M9 m)(hn:s.reviews.length≤1000000)(hro:s.roles.length≤1000000)(ht:0≤s.tick∧s.tick≤1099511627776)(hr:iq s)(h:Heap):ai Tryz.prog 53 [cI s,opA o,aN m] h fun x h' =>x= .b (rI s o m)∧h' =h:=by
 have hla:=fun G=>Ph s o.subj hn ht hr G
 have hha:=fun G=>Gb (rdS G s) o.subj Cj ad9
 have hbd:rI s o m=(o.glass && (m==cH||m==naM) && yK s.roles ⟨o.subj,Cj⟩ && !Mz s o.subj):=rfl
 have de:=(nb hm9).de;have na:=(nb hm9).na;have hst:=vF s;obtain⟨tick,cs,rv,nt,ro,⟨pid,pset,palg,ptgt,prules,pkids,pobls⟩,ver⟩:=s;rw[hst]at hla hha⊢;simp only[sL,Cj]at hla hha hbd⊢;refine ad8 Tryz.func53 30 [.tmp 6] fun hwf=>?_
 simp only[go_sem,opA,opC,aN];intro i3 h3;simp only[go_sem];intro i4 h4;have n43:=aI h4;have n4:=aB h4;have hs:∀x y,Ab.Sub h (upd (upd h i3 x) i4 y):=fun x y=>((Sub.refl h).put h3 x).put n4 y
 cases dg:o.glass
 ·simp only[go_sem]
  exact .mk _ (.refl _) (hs _ _) ⟨by rw[hbd,dg];rfl,rfl⟩
 cases d1:(m==cH)<;>cases d2:(m==naM)
 case false.false=>
  simp only[go_sem,de,na,d1,d2];exact .mk _ (.refl _) (hs _ _) ⟨by rw[hbd,dg,d1,d2];rfl,rfl⟩
 all_goals
  simp only[go_sem,ak,n43.symm,de,na,d1,d2];refine(hha _).pthen ?_;cases dh:yK ro ⟨o.subj,[103,108,97,115,115]⟩
  ·simp only[go_sem]
   exact .mk _ (.refl _) (hs _ _) ⟨by rw[hbd,dg,d1,d2,dh];rfl,rfl⟩
  ·simp only[go_sem,ak,n43.symm]
   refine(hla _).pthen ?_;simp only[go_sem];exact .mk _ (.refl _) (hs _ _) ⟨by rw[hbd,dg,d1,d2,dh];rfl,rfl⟩
theorem JV{h:Heap}(x:cD){k:Nat}{field:Txt}(hk:h k=some (.obj [.s field] 9)):ai Tryz.prog 120 [bt x,.ptr k 0] h fun r h' =>r= .b (x.kind==2 && x.arg==field)∧h' =h:=by
 refine ad8 Tryz.func120 13 [.tmp 3] fun hwf=>?_
 simp only[go_sem,bt];intro i2 h2;have n2:i2≠k:=fun e=>aea
 cases d1:(x.kind==2)
 all_goals
  simp only[go_sem,ak,n2.symm,hk,d1];exact .mk _ (.refl _) (.aj h2) ⟨rfl,rfl⟩
theorem Mi(l:List cD)(hl:l.length≤1000000000)(field:Txt)(h:Heap):ai Tryz.prog 57 [ay l,.s field] h fun r h' =>r= .b (j6 l field)∧h' =h:=by
 refine ad8 Tryz.func57 8 [.tmp 4] fun hwf=>?_
 simp only[go_sem,ay];intro i3 h3;simp only[go_sem];refine(JS (.sl (l.map bt) .no) l (fun x=>x.kind==2 && x.arg==field) _ [.ptr i3 0] _ (eE bt 3 (fun _=>rfl) _ _) hl fun i h2=>JV _ (ah ..)).pthen ?_
 simp only[go_sem];exact .mk _ (.refl _) (.aj h3) ⟨rfl,rfl⟩
theorem M1{h:Heap}{x:AV}{c:aM}(hb:RdC h x c):ai Tryz.prog 126 [x] h fun r h' =>r= .b (decide (256<c.log.length))∧h' =h:=by
 obtain⟨f,l,rfl,hf,hl⟩:=hb;have e:decide ((256:Int)<(c.log.length:Int))=decide (256<c.log.length):=by
  grind
 refine ad8 Tryz.func126 7 [.tmp 2] fun hwf=>?_
 simp only[go_sem];intro i1 h1;simp only[go_sem,hl.len,adZ,e];exact aer
theorem M4{h:Heap}{x:AV}{s:an}(hb:RdS h x s)(hc:s.cases.length≤1000000):ai Tryz.prog 61 [x] h fun r h' =>r= .b (so s)∧h' =h:=by
 obtain⟨y1,y2,y3,y4,rfl,⟨xs,hx,hn,hcs⟩,h2,h3,h4⟩:=hb;have hod:so s=(decide (256<s.reviews.length)||decide (256<s.notices.length)||s.cases.any fun c=>decide (256<c.log.length)):=rfl
 have e2:decide ((256:Int)<(s.reviews.length:Int))=decide (256<s.reviews.length):=by
  grind
 have e3:decide ((256:Int)<(s.notices.length:Int))=decide (256<s.notices.length):=by
  grind
 have hca:=fun(G:Heap) (hG:Ab.Sub h G)=>F8 y1 xs s.cases (fun c=>decide (256<c.log.length)) 126 [] G (hx.sub hG) hn ad9 (Ac.agg hn hcs) fun i a b=>M1 ((hcs i a b).sub hG)
 cases hpp:s.policy with
 |mk pid pset palg ptgt prules pkids pobls=>
 refine ad8 Tryz.func61 18 [.tmp 2] fun hwf=>?_
 simp only[go_sem,gb,bf,List.cons_append,List.nil_append];intro i1 h1;cases d2:decide (256<s.reviews.length)
 case true=>
  simp only[go_sem,h2.len,adZ,e2,d2];exact .mk _ (.refl _) (.aj h1) ⟨by rw[hod,d2];rfl,rfl⟩
 cases d3:decide (256<s.notices.length)
 case true=>
  simp only[go_sem,h2.len,h3.len,adZ,e2,e3,d2,d3];exact .mk _ (.refl _) (.aj h1) ⟨by rw[hod,d2,d3];rfl,rfl⟩
 simp only[go_sem,h2.len,h3.len,adZ,e2,e3,d2,d3];refine(hca _ (.aj h1)).pthen ?_;simp only[go_sem];exact .mk _ (.refl _) (.aj h1) ⟨by rw[hod,d2,d3];rfl,rfl⟩
theorem MH{h:Heap}{x:AV}{c:aM}(hb:RdC h x c){k:Nat}{o:OpD}(hk:h k=some (.obj (opC o) 34)):ai Tryz.prog 172 [x,.ptr k 0] h fun r h' =>r= .b (c.id==o.case)∧h' =h:=by
 obtain⟨f,l,rfl,hf,hl⟩:=hb;simp only[opC]at hk;refine ad8 Tryz.func172 9 [.tmp 3] fun hwf=>?_
 simp only[go_sem];exact aiB
end Go.Proofs.YtbbadggejjgihaaGreatDoor
namespace Go.Ab
open Go
theorem OwE.more{tb:TypeId}{g h0 h:Heap}{sz:Nat}{y:AV}{xs:List AV}(hw:OwE tb h0 h sz y xs)(hg:∀id,h0 id=Option.none→h id≠Option.none→g id=Option.none):OwE tb g h sz y xs:=by
 rcases hw with hw|⟨id,e,hw⟩
 ·exact ah6
 ·exact .inr ⟨id,hg _ e hw.none,hw⟩
end Go.Ab
namespace Go.Proofs.YtbbadggejjgihaaGreatDoor
open Go Go.Ab Go.Bf
theorem fC.more{g h0 h:Heap}{ys:List AV}{x:AV}{c:aM}(hm:fC h0 h ys x c)(hg:∀id,h0 id=none→h id≠none→g id=none):fC g h ys x c:=by
 obtain⟨f,l,e,a,b,c⟩:=hm;exact⟨f,l,e,a.more hg,b.more hg,c⟩
theorem mz.more{g h0 h:Heap}{ys:List AV}{y:AV}{cs:List aM}{i0:Nat}(ho:mz h0 h ys y cs i0)(hg:∀id,h0 id=none→h id≠none→g id=none):mz g h ys y cs i0:=by
 obtain⟨xs,a,b,c,d⟩:=ho;exact⟨xs,a.more hg,b,c,fun h1 h2=>(d h1 h2).more hg⟩
theorem OwR.more{g h0 h:Heap}{y:AV}{rs:List ij}(hr:OwR h0 h y rs)(hg:∀id,h0 id=none→h id≠none→g id=none):OwR g h y rs:=by
 rcases hr with hr|hr
 ·exact .inl hr
 ·exact .inr (hr.more hg)
theorem iR.more{g h0 h:Heap}{y1 y2 y3 y4:AV}{s:an}{j:Nat}(ho:iR h0 h y1 y2 y3 y4 s j)(hg:∀id,h0 id=none→h id≠none→g id=none):iR g h y1 y2 y3 y4 s j:=
 {ho with cs:=ho.cs.more hg,rv:=ho.rv.more hg,nt:=ho.nt.more hg,rl:=ho.rl.more hg}
def GSt(g H:Heap)(k:Nat)(s:an)(j:Nat):Prop:=∃y1 y2 y3 y4,H k=some (.obj (stC s y1 y2 y3 y4) 51)∧iR g H y1 y2 y3 y4 s j∧g k≠none∧∀i b,i≠k→g i=some b→H i=some b
theorem GSt.box{g H:Heap}{k:Nat}{s:an}{j:Nat}(hG:GSt g H k s j){i:Nat}(hi:H i=none)(b:Blk):GSt (upd g i (some b)) (upd H i (some b)) k s j:=by
 obtain⟨y1,y2,y3,y4,hk,ho,hgk,hfr⟩:=hG;refine⟨y1,y2,y3,y4,aeK,(ho.more (g:=upd g i (some b)) fun id h0 hne=>?_).keep fun id _ hne=>ag _ _ fun e=>hne aea,aeK,fun q c hq hc=>?_⟩
 ·grind [ag]
 grind [ah,ag]
theorem GSt.unbox{g H:Heap}{k:Nat}{s:an}{j:Nat}{i:Nat}{b:Blk}(hG:GSt (upd g i (some b)) H k s j)(hi:i≠k)(hgi:g i=none):GSt g H k s j∧H i=some b:=by
 obtain⟨y1,y2,y3,y4,hk,ho,hgk,hfr⟩:=hG;refine⟨⟨y1,y2,y3,y4,hk,ho.bL fun q hq=>?_,aeK,fun q c hq hc=>hfr q c hq ?_⟩,hfr i b hi (ah ..)⟩
 ·grind [ag]
 grind [ag]
theorem GSt.base{g H:Heap}{k:Nat}{s:an}{j:Nat}(hG:GSt g H k s j):∃G,Ab.Sub G H∧(∀i,G i=none↔g i=none)∧∀i,i≠k→G i=g i:=by
 obtain⟨y1,y2,y3,y4,hk,ho,hgk,hfr⟩:=hG;refine⟨upd g k (H k),fun i b hi=>?_,fun i=>?_,fun i hi=>ag _ _ hi⟩
 ·grind [ah,ag]
 grind [ah,ag]
theorem GSt.rd{g H:Heap}{k:Nat}{s:an}{j:Nat}(hG:GSt g H k s j):∃y1 y2 y3 y4,H k=some (.obj (stC s y1 y2 y3 y4) 51)∧RdS H (.agg (stC s y1 y2 y3 y4)) s:=by
 obtain⟨y1,y2,y3,y4,hk,ho,_⟩:=hG;exact⟨y1,y2,y3,y4,hk,ho.rd⟩
theorem En{g H:Heap}{k:Nat}{s:an}{j:Nat}(hG:GSt g H k s j)(o:OpD)(w:Txt)(hk64:i64 o.kind)(hn:s.reviews.length≤1000000000):
  ai Tryz.prog 55 [.ptr k 0,opA o,.s w] H fun r H' =>GSt g H' k (bX s o w) j:=by
 obtain⟨G,sG,nG,oG⟩:=hG.base;obtain⟨y1,y2,y3,y4,hk,ho,hgk,hfr⟩:=hG;have ho2:iR G H y1 y2 y3 y4 s j:=ho.bL fun i hi=>(nG i).2 hi
 have w1:IntKind.i64.wrap ((s.reviews.length:Int)+1)=(s.reviews.length:Int)+1:=aZ _ ad9;obtain⟨pid,pset,palg,ptgt,prules,pkids,pobls,hpp⟩:∃a b c d e f g,s.policy= .mk a b c d e f g:=by cases s.policy;simp
 have hst:∀z,stC (bX s o w) y1 z y3 y4= [.i s.tick,y1,z,y3,y4,.s pid,.b pset,.i palg,aV ptgt,.sl (prules.map aC) .no,.sl (pkids.map aO) .no,ay pobls,.i s.version]:=fun z=>by simp[stC,bX,hpp,gb,bf]
 have hst0:stC s y1 y2 y3 y4= [.i s.tick,y1,y2,y3,y4,.s pid,.b pset,.i palg,aV ptgt,.sl (prules.map aC) .no,.sl (pkids.map aO) .no,ay pobls,.i s.version]:=ahU;rw[hst0]at hk;refine ad8 Tryz.func55 34 [] fun hwf=>?_
 simp only[go_sem,opA,opC];intro i4 h4;have n4k:i4≠k:=fun e=>aea
 simp only[go_sem];obtain⟨K,eK⟩:∃K,upd H i4 (some (.obj [.i o.kind,.s o.subj,.s o.case,.s o.field,.s o.to,.i o.val.kind,.i o.val.n,.s o.val.s,.i o.review,.s o.text,.s o.reason,.b o.glass] 34))=K:=⟨_,rfl⟩;have sK:Ab.Sub H K:=by rw[←eK];exact .aj h4
 have k4:K i4=some (.obj [.i o.kind,.s o.subj,.s o.case,.s o.field,.s o.to,.i o.val.kind,.i o.val.n,.s o.val.s,.i o.review,.s o.text,.s o.reason,.b o.glass] 34):=by rw[←eK,ah]
 have kk:=sK _ _ hk;have hoK:iR G K y1 y2 y3 y4 s j:=ho2.keep fun id _ hne=>by rw[←eK];grind [ag]
 rw[eK];have p4:=(bC (H:=K) (l:=[k,i4]) (show i4∈ [k,i4] by simp)).trans k4
 have pk:=(bC (H:=K) (l:=[k,i4]) (show k∈ [k,i4] by simp)).trans kk
 refine .stage (pick K [k,i4]) [0,1,2,3,4,5,6,7,8,9,10,11,12,13,14,15,16,17,18,19,20,22,21,23,24,25,26,27] [28] bR aec ?_;simp only[go_sem,pk,p4,hoK.rv.rd.len,adZ,w1];refine(uS o.kind hk64 _).pthen ?_;refine⟨bR,?_⟩;simp only[go_sem];have hap1:Rd K 7 (.sl [iZ (BA s o w)] .full) [iZ (BA s o w)]:=.sl aeP .full;refine OwE.app (U:=U) (tb:=99) hoK.rv (sG.trans sK) hap1 aeo aed aed aeo aeg aeI fun id y' K2 hid hor how hoth=>?_
 have hor' :K id=none∨nid y2=some id:=by
  rcases hor with hor|⟨l,c,ey⟩
  ·grind
  ·exact .inr ah0
 have nik:k≠id:=fun e=>hgk ((nG k).1 aea)
 have ni4:i4≠id:=by
  rcases hor' with hor|hor
  ·grind
  ·exact fun e=>(ho2.rv.nid hor).2.1 aea
 have m4:=(hoth i4 ni4).trans k4;have mk:=(hoth k nik).trans kk;refine⟨iY fun q hq=>?_,?_⟩
 ·grind
 simp only[go_sem];refine⟨cV,fun _ _ e=>aey,?_⟩
 simp only[go_sem,mk,how.rd.fit,how.rd.cells];refine⟨fun _ _ e=>aey,?_⟩
 refine .same (.refl _) ⟨y1,y',y3,y4,aid,iR.bL (h0:=G) ?_ fun i hi=>(nG i).1 hi,hgk,fun i b hi hb=>?_⟩
 ·refine hoK.revs (rs:=s.reviews++ [BA s o w]) (.inr ⟨id,hid,by rw[List.map_append];exact how.same (ag _ _ nik.symm)⟩) (fun q hq=>?_) fun q hq hne hz=>?_
  ·have:id=q:=by have:=how.nid;rw[hq]at this;exact(Option.some.inj this).symm
   rw[←this];exact hor'
  grind [ag]
 ·have n2:i≠id:=fun e=>by
   grind
  rw[ag _ _ hi,hoth i n2];exact sK _ _ (hfr i b hi hb)
end Go.Proofs.YtbbadggejjgihaaGreatDoor
namespace Go.Bf
open Go Go.Ab Go.Proofs.YtbbadggejjgihaaGreatDoor
theorem D9{s:an}{o:OpD}{w:Txt}(h:¬(iV s.cases o.case<s.cases.length∧o.kind≠6)):iF s o w=s:=by simp_all [iF,if_neg]
theorem MI{s:an}{o:OpD}{w:Txt}{j:Nat}(h1:iV s.cases o.case<s.cases.length)(h2:o.kind≠6)(e:iV s.cases o.case=j):iF s o w= {s with cases:=s.cases.modify j fun c=>jD s c o.subj w}:=by simp_all [iF,if_pos]
end Go.Bf
namespace Go.Proofs.YtbbadggejjgihaaGreatDoor
open Go Go.Ab Go.Bf
theorem MJ{g H:Heap}{k:Nat}{s:an}{j:Nat}(hG:GSt g H k s j)(o:OpD)(w:Txt)(hc:s.cases.length≤1000000)(hl:∀c∈s.cases,c.log.length≤1000000000)(hj:iV s.cases o.case<s.cases.length→o.kind≠6→j=iV s.cases o.case):
  ai Tryz.prog 124 [.ptr k 0,opA o,.s w] H fun r H' =>GSt g H' k (iF s o w) j:=by
 obtain⟨G,sG,nG,oG⟩:=hG.base;obtain⟨y1,y2,y3,y4,hk,ho,hgk,hfr⟩:=hG;have ho2:iR G H y1 y2 y3 y4 s j:=ho.bL fun i hi=>(nG i).2 hi
 obtain⟨pid,pset,palg,ptgt,prules,pkids,pobls,hpp⟩:∃a b c d e f g,s.policy= .mk a b c d e f g:=by cases s.policy;exact⟨_,_,_,_,_,_,_,rfl⟩
 have hst0:stC s y1 y2 y3 y4= [.i s.tick,y1,y2,y3,y4,.s pid,.b pset,.i palg,aV ptgt,.sl (prules.map aC) .no,.sl (pkids.map aO) .no,ay pobls,.i s.version]:=ahU;rw[hst0]at hk;refine ad8 Tryz.func124 44 [] fun hwf=>?_
 simp only[go_sem,opA,opC];intro i4 h4;have n4k:i4≠k:=fun e=>by rw[e,hk]at h4;cases h4
 obtain⟨K,eK⟩:∃K,upd H i4 (some (.obj [.i o.kind,.s o.subj,.s o.case,.s o.field,.s o.to,.i o.val.kind,.i o.val.n,.s o.val.s,.i o.review,.s o.text,.s o.reason,.b o.glass] 34))=K:=⟨_,rfl⟩;have sK:Ab.Sub H K:=by rw[←eK];exact .aj h4
 have k4:K i4=some (.obj [.i o.kind,.s o.subj,.s o.case,.s o.field,.s o.to,.i o.val.kind,.i o.val.n,.s o.val.s,.i o.review,.s o.text,.s o.reason,.b o.glass] 34):=by rw[←eK,ah]
 have kk:=sK _ _ hk;have hoK:iR G K y1 y2 y3 y4 s j:=ho2.keep fun id _ hne=>by rw[←eK];exact ag _ _ fun e=>hne (by rw[e];exact h4)
 have hfin:GSt g K k s j:=⟨y1,y2,y3,y4,by rw[hst0];exact kk,hoK.bL fun i hi=>(nG i).1 hi,hgk,fun i b hi hb=>sK _ _ (hfr i b hi hb)⟩
 have hix:ai Tryz.prog 155 [y1,.fn 172 [.ptr i4 0]] K fun r h' =>r= .i (ixD (fun c:aM=>c.id==o.case) s.cases)∧h' =K:=by
  obtain⟨xs,hx,hn,hcs⟩:=hoK.cs.rd;exact vi y1 xs s.cases (fun c=>c.id==o.case) _ [.ptr i4 0] K hx hn ad9 (Ac.agg hn hcs) fun i a b=>MH (hcs i a b) k4
 have hcsK:=hoK.cs;have n4G:∀id,G id=none→K id≠none→id≠i4→H id=K id:=fun id _ _ h=>by rw[←eK,ag _ _ h]
 simp only[go_sem,ak,n4k.symm,hk];rw[eK];refine hix.pthen ?_
 by_cases hx:iV s.cases o.case<s.cases.length
 case neg=>
  have e1:ixD (fun c:aM=>c.id==o.case) s.cases= -1:=if_neg hx
  have d1:decide ((-1:Int)<0)=true:=rfl;rw[e1];simp only[go_sem,d1];exact .same (.refl _) (by rw[D9 fun h=>hx h.1];exact hfin)
 have e1:ixD (fun c:aM=>c.id==o.case) s.cases=(iV s.cases o.case:Nat):=if_pos hx
 have d1:decide (((iV s.cases o.case:Nat):Int)<0)=false:=decide_eq_false ad9;rw[e1];cases d6:(o.kind==6)
 case true=>
  have h6:o.kind=6:=by simpa using d6
  simp only[go_sem,d1,k4,d6];exact .same (.refl _) (by rw[D9 fun h=>h.2 h6];exact hfin)
 have h6:o.kind≠6:=by simpa using d6
 have hjj:=hj hx h6;have hlo:=MI (w:=w) hx h6 hjj.symm;have hjc:j<s.cases.length:=by rw[hjj];exact hx
 rw[←hjj]at d1⊢;rw[hlo];obtain⟨xs,w1,hnx,hlw,hmy⟩:=hcsK;have hjx:j<xs.length:=ad9;obtain⟨f,l,ex,of,ol,hap,hys⟩:=hmy hjx hjc;obtain⟨id1,hg1,o1⟩:=w1.ow ag2;have o1' :=o1;obtain⟨cap,rest,ey,hid,hrl,hcap,hsz⟩:=o1';have lA:j*5=(au (xs.take j)).length:=afe;have hidK:K id1=some (.obj (au (xs.take j)++(cg s.cases[j] f l++(au (xs.drop (j+1))++rest))) 133):=by
  rw[hid,Cf hjx,ex];simp[cg,AV.cells]
 have n1k:id1≠k:=mq o1 kk aed;have n14:id1≠i4:=mq o1 k4 aed;have hll:=hl _ (ad4 hjc);have p4:=(bC (H:=K) (l:=[k,i4,id1]) (show i4∈ [k,i4,id1] by simp)).trans k4
 have pk:=(bC (H:=K) (l:=[k,i4,id1]) (show k∈ [k,i4,id1] by simp)).trans kk
 have p1:=(bC (H:=K) (l:=[k,i4,id1]) (show id1∈ [k,i4,id1] by simp)).trans hidK
 have hc4:(au (xs.take j)++(cg s.cases[j] f l++(au (xs.drop (j+1))++rest)))[j*5+4]? =some l:=by rw[lA,List.getElem?_append_right ad9,Nat.add_sub_cancel_left];rfl
 obtain⟨CS,eCS⟩:∃CS,au (xs.take j)++(cg s.cases[j] f l++(au (xs.drop (j+1))++rest))=CS:=⟨_,rfl⟩;rw[eCS]at hc4 p1 hidK;simp only[go_sem,d1,k4,d6,kk];refine o1.idx (U:=U) (e:=133) j rfl hjx nX aed ?_;simp only[go_sem];refine .stage (pick K [k,i4,id1]) [0,1,2,3,4,5,6,7,8,9,10,11,12,13,14,15,16] [17] bR aec ?_;simp only[go_sem,pk,p4,p1,hc4];have hap1:Rd K 3 (.sl [iU ⟨s.tick,o.subj,w⟩] .full) [iU ⟨s.tick,o.subj,w⟩]:=.sl aeP .full;refine OwE.app (U:=U) (tb:=163) ol (sG.trans sK) hap1 aej aed aee aej aeg aeI fun id2 y' K2 g2 hor how hoth=>?_
 have hor' :K id2=none∨nid l=some id2:=by
  exact aiU
 have n2:∀ {q b t},K q=some (.obj b t)→t≠163→q≠id2:=fun {q b t} hq ht e=>by
  rcases hor' with h|h
  ·rw[e,h]at hq;cases hq
  ·exact mq (ol.nid h).2.2 hq ht e.symm
 have m4:=(hoth i4 (n2 k4 aed)).trans k4;have mk:=(hoth k (n2 kk aed)).trans kk;have m1:=(hoth id1 (n2 hidK aed)).trans hidK;refine⟨iY fun q hq=>?_,?_⟩
 ·simp only[List.mem_cons,List.not_mem_nil,or_false]at hq
  rcases hq with rfl|rfl|rfl
  ·rw[mk,kk]
  ·rw[m4,k4]
  ·rw[m1,hidK]
 simp only[go_sem];refine⟨cV,fun _ _ e=>aey,?_⟩
 simp only[go_sem,m1,how.rd.fit,how.rd.cells];have e5:List.take (j*5+4) CS++ [y']++List.drop (j*5+4+1) CS=au (xs.take j)++(cg s.cases[j] f y' ++(au (xs.drop (j+1))++rest)):=by
  have:=pJ (A:=au (xs.take j)++ [.s s.cases[j].id,.s s.cases[j].owner,.s s.cases[j].state,f]) (B:=[l]) (C:=au (xs.drop (j+1))++rest) (X:=[y']) (k:=j*5+4) (m:=1) (by rw[lA];simp) rfl rfl
  exact ajQ
 rw[e5];refine⟨by rw[←eCS];simp only[ad3,←lA,cg,List.length_cons,List.length_nil];omega,(fun _ _ e=>aey),?_⟩
 obtain⟨F,eF⟩:∃F,upd K2 id1 (some (.obj (au (xs.take j)++(cg s.cases[j] f y' ++(au (xs.drop (j+1))++rest))) 133))=F:=⟨_,rfl⟩;have kF:∀q,q≠id1→q≠id2→F q=K q:=fun q a b=>by rw[←eF,ag _ _ a,hoth q b]
 have kF' :∀q,K q≠none→q≠id1→nid l≠some q→F q=K q:=fun q a b c=>kF q b fun e=>by
  rcases hor' with h|h
  ·exact a (by rw[e];exact h)
  ·exact c (by rw[e];exact h)
 have hF1:F id1=some (.obj (au (xs.take j)++(cg s.cases[j] f y' ++(au (xs.drop (j+1))++rest))) 133):=by rw[←eF,ah]
 have n12:id1≠id2:=n2 hidK aed;have hX5:Sized 5 (xs.set j (.agg (cg s.cases[j] f y'))):=fun z hz=>by
  exact ai1
 have hOw:Ow 133 F 5 id1 y1 (xs.set j (.agg (cg s.cases[j] f y'))):=⟨cap,rest,agr,by rw[hF1,tL hjx];simp[AV.cells],ahi,agl,hX5⟩
 have hl' :OwE 163 G F 3 y' ((s.cases[j].log++ [(⟨s.tick,o.subj,w⟩:xV)]).map iU):=by
  rw[List.map_append];exact .inr ⟨id2,g2,how.same (by rw[←eF,ag _ _ n12.symm])⟩
 have hny:∀q,nid y' =some q→q=id2:=fun q hq=>by have:=how.nid;rw[hq]at this;exact Option.some.inj this
 have nf1:nid f≠some id1:=fun e=>(hys y1 aeg).1 id1 e o1.nid
 have hof:OwE 160 G F 4 f (s.cases[j].fields.map bN):=of.keep fun q e=>kF' q (of.nid e).2.1 (fun e' =>nf1 (by rw[←e'];exact e)) (hap q e)
 have hnid:∀ {y:AV},y∈ [y1,y2,y3,y4]→∀q,nid y=some q→K q≠none:=fun hy q e=>(hoK.mem hy e).2
 have hap2:∀ {y:AV},y∈ [y1,y2,y3,y4]→apart y' y:=fun {y} hy q e1 e2=>by
  have:=hny q e1;subst this;rcases hor' with h|h
  ·exact hnid hy _ e2 h
  ·exact(hys y hy).2 _ h e2
 have hkp:∀ {y:AV},y∈ [y2,y3,y4]→apart y1 y→∀q,nid y=some q→F q=K q:=fun {y} hy ha q e=>by
  have hy' :y∈ [y1,y2,y3,y4]:=List.mem_cons_of_mem _ hy;refine kF' q (hnid hy' q e) (fun e' =>ha id1 o1.nid (by rw[←e'];exact e)) fun e' =>(hys y hy').2 q e' e
 rw[eF];refine .same (.refl _) ⟨y1,y2,y3,y4,?_,iR.bL (h0:=G) ?_ fun i hi=>(nG i).1 hi,hgk,fun i b hi hb=>?_⟩
 ·rw[kF k n1k.symm (n2 kk aed),kk]
  simp[stC,hpp,gb,bf]
 ·refine⟨Cz (X:=.agg (cg s.cases[j] f y')) (.inr ⟨id1,hg1,hOw⟩) hnx (fun q h1 h2 hq=>hlw q h1 h2 hq) fun hh=>⟨f,y',rfl,hof,hl',fun q e1 e2=>?_,fun y hy=>⟨(hys y hy).1,hap2 hy⟩⟩,hoK.rv.keep (hkp aeg hoK.a12),hoK.nt.keep (hkp aeg hoK.a13),hoK.rl.keep (hkp aeg hoK.a14),hoK.a12,hoK.a13,hoK.a14,hoK.a23,hoK.a24,hoK.a34⟩
  have:=hny q e2;subst this;rcases hor' with h|h
  ·exact(of.nid e1).2.1 h
  ·exact hap _ e1 h
 ·have hGi:G i=some b:=by rw[oG i hi];exact hb
  rw[kF i (fun e=>by rw[e,hg1]at hGi;cases hGi) (fun e=>by rw[e,g2]at hGi;cases hGi)]
  exact sK _ _ (hfr i b hi hb)
end Go.Proofs.YtbbadggejjgihaaGreatDoor
