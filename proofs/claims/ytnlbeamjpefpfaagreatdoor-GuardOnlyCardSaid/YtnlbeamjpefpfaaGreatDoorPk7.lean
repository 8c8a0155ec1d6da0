/- The law GuardOnly: pack 7 of its texts. -/
import Derived.Test.YtnlbeamjpefpfaaGreatDoorPk1
import Derived.Test.YtnlbeamjpefpfaaGreatDoorPk2
import Derived.Test.YtnlbeamjpefpfaaGreatDoorPk3
import Derived.Test.YtnlbeamjpefpfaaGreatDoorPk4
import Derived.Test.YtnlbeamjpefpfaaGreatDoorPk5
import Derived.Test.YtnlbeamjpefpfaaGreatDoorPk6
set_option linter.unusedSimpArgs false
set_option linter.unusedVariables false
namespace Go.Bf
open Go Go.Ab Go.Proofs.YtnlbeamjpefpfaaGreatDoor
theorem Fj {s:an} {o:OpD} (h:(bt s o).2.2.2=0):(hY s o).1=0:=by
 unfold bt at h
 by_cases hp:(hY s o).1=0
 ·exact hp
 ·rw [if_pos hp] at h; exact h
end Go.Bf
namespace Go.Proofs.YtnlbeamjpefpfaaGreatDoor
open Go Go.Ab Go.Bf
set_option maxRecDepth 100000 in
set_option maxHeartbeats 1000000 in
theorem zH (x y:AV) (dx:Dat U 22 x) (dy:Dat U 26 y) (h:Heap) (he:qq h):ak Tryz.prog 3 [x,y] h fun r h' =>r= .v (.bool true)∧h' =h:=by
 obtain ⟨l0,rfl,hl0,h640⟩:=JK dx;obtain ⟨o0,rfl,ho0⟩:=GZ dy;have haf:=fun (G:Heap) (hG:Ab.Sub h G)=>GF l0 h640 25 (by decide) .no G (he.sub hG)
 have hoq:=fun (G:Heap)=>Ih o0 G
 have ho64:zj (BA o0):=ho0;have hG:=vj (lJ l0 25);have hll:(lJ l0 25).length≤25:=by simp [lJ]; omega
 obtain ⟨l,el⟩:∃l,lJ l0 25=l:=⟨_,rfl⟩;obtain ⟨s,es⟩:∃s,fU (lJ l0 25)=s:=⟨_,rfl⟩;obtain ⟨o,eo⟩:∃o,BA o0=o:=⟨_,rfl⟩;rw [es] at haf hG;rw [el] at hll hG;rw [eo] at hoq ho64;have hga:=fun (G:Heap) (hG' :Ab.Sub h G)=>jC s hG (by omega) o ho64 G (he.sub hG')
 obtain ⟨lerr,lok⟩:=Ie s o;have hrl:=wR (o:=o) hG.tojL;have hpre:=Fj (s:=s) (o:=o);obtain ⟨a,ea⟩:∃t,(bt s o).1=t:=⟨_,rfl⟩;obtain ⟨rr,er⟩:∃t,(bt s o).2.1=t:=⟨_,rfl⟩;obtain ⟨dd,ed⟩:∃t,(bt s o).2.2.1=t:=⟨_,rfl⟩;obtain ⟨ee,eee⟩:∃t,(bt s o).2.2.2=t:=⟨_,rfl⟩;have eg:bt s o=(a,rr,dd,ee):=Prod.ext ea (Prod.ext er (Prod.ext ed eee));rw [eee] at lerr lok hpre;rw [ea,er] at lerr;rw [ea,er,ed] at lok;rw [eg] at hga hrl;have hlt:=fun (hg:rr.glass=true)=>(hrl.glass hg).1
 simp only at hlt;clear hrl;have hfin:∀(G:Heap),Ab.Sub h G→ak Tryz.prog 16 [] G fun r h' =>r= .v (.bool true)∧h' =G:=fun G hG=>zI _ (he.sub hG)
 rw [kQ,fM,fM] at hga;rw [fM] at haf;have hlate:=fun (G:Heap)=>D9 s o.subj (by have:=hG.nr; omega) hG.tick hG.ticks G
 have hhas:=fun (G:Heap)=>zK (rdS G s) o.subj lg (by have:=hG.roles; omega)
 have hask:=fun (G:Heap)=>GL (rdS G s) o hG.few ho64.1
 have hfew:=fun (hee:ee=0)=>Ao (xX hG.tocW (rS (hpre hee)).2.1)
 have hev:=fun (hee:ee=0) (G:Heap)=>tM s.policy hG.pol (eE s o) (hfew hee) G
 have hm9:=(uK (eE s o) s.policy).m9;have hden:=fun (hd:ld s o=false)=>AJ hd
 have hgw:=fun (hg:cJ s o=true)=>vL hg
 have hgn:=fun (hg:(cY s o).1=aM)=>sE hg
 have hrd:∀(e:(cY s o).1=aM∨cJ s o=true),(gM s o).err=0:=fun e=>by
  have:ld s o=true:=by unfold ld; rcases e with e|e<;>simp [e]
  simp [gM,this]
 have hdid:(cY s o).1≠aM→cJ s o=false→ld s o=false:=fun h1 h2=>by
  unfold ld; simp [h1,h2]
 have hmk:cY s o=dU (eE s o) s.policy:=rfl;obtain ⟨⟨m,ob⟩,em⟩:∃x,dU (eE s o) s.policy=x:=⟨_,rfl⟩;rw [em] at hmk hm9 hev;rw [hmk] at lok hgn hrd hdid;simp only at hm9 lok hgn hrd hdid;simp only [hmk] at hgw;obtain ⟨gs,egs⟩:∃g,eE s o=g:=⟨_,rfl⟩;rw [egs] at hask hev;rw [fM] at hlate hhas hask;obtain ⟨gl,egl⟩:∃g,cJ s o=g:=⟨_,rfl⟩;rw [egl] at lok hgw hgn hrd hdid;obtain ⟨di,edi⟩:∃g,ld s o=g:=⟨_,rfl⟩;rw [edi] at hden hdid;obtain ⟨bh,ebh⟩:∃g,bP s o=g:=⟨_,rfl⟩;rw [ebh] at lok hden;obtain ⟨rp,erp⟩:∃g,gM s o=g:=⟨_,rfl⟩;rw [erp] at lok hden hrd;clear hfew hpre em egs egl edi ebh erp hmk es eg ea er ed eee hG;obtain ⟨tick,cs,rv,nt,ro,⟨pid,pset,palg,ptgt,prules,pkids,pobls⟩,ver⟩:=s;obtain ⟨tick',cs',rv',nt',ro',⟨pid',pset',palg',ptgt',prules',pkids',pobls'⟩,ver'⟩:=a;simp only at lok hden hlt hgw lerr;simp only [sL,iY,qi,rF,dF,opA,opC] at hga haf hoq hlate hhas hask;simp only [aK,aT,au,aV,bB,rsA,aP] at hev;simp only [aT,au,aV,bB] at hga haf hlate hhas hask;refine ak.body hU hm Tryz.func3 rfl (by kernel_rfl) 209 rfl [.tmp 4] rfl (VZ rfl) (fun hwf=> ?_)
 simp -implicitDefEqProofs only [go_sem,opA,opC];intro i3 h3;simp -implicitDefEqProofs only [go_sem];refine .Ph _ (.quiet [0] 1 (.quiet [2] 3 (.seq [4,5]))) (.refl _) (by kernel_rfl) rfl (by kernel_rfl) rfl ?_
 simp -implicitDefEqProofs only [go_sem];have hsH:Ab.Sub h (upd h i3 (some (.obj [.v (.int .i64 o0.kind), .s o0.subj, .s o0.case, .s o0.field, .s o0.to, .v (.int .i64 o0.val.kind), .v (.int .i64 o0.val.n), .s o0.val.s, .v (.int .i64 o0.review), .s o0.text, .s o0.reason, .v (.bool o0.glass)] 26))):= .ai h3;refine ⟨_,fun G hs=>haf G (hsH.trans hs), ?_⟩
 simp -implicitDefEqProofs only [go_sem];refine ⟨_,fun G hs=>hoq G, ?_⟩
 simp -implicitDefEqProofs only [go_sem];intro i5 h5;have n53:=aH h5;have k5:=aD h5;simp -implicitDefEqProofs only [go_sem,aj,n53,n53.symm];refine ⟨.ai h5, .ai h5, ?_⟩;refine inH fun H1 w1=> ?_
 have hs1:Ab.Sub h H1:=by rw [w1]; exact ((hsH.put k5 _).put h3 _)
 have g3:H1 i3=some (.obj [.v (.int .i64 o.kind), .s o.subj, .s o.case, .s o.field, .s o.to, .v (.int .i64 o.val.kind), .v (.int .i64 o.val.n), .s o.val.s, .v (.int .i64 o.review), .s o.text, .s o.reason, .v (.bool o.glass)] 26):=by rw [w1,ah]
 have g5:H1 i5=some (.obj [.v (.int .i64 tick), .sl (cs.map bJ) .no, .sl (rv.map fL) .no, .sl (nt.map ku) .no, .sl (ro.map cD) .no, .s pid, .v (.bool pset), .v (.int .i64 palg), .sl (ptgt.map cH) .no, .sl (prules.map aB) .no, .sl (pkids.map aK) .no, .sl (pobls.map bf) .no, .v (.int .i64 ver)] 39):=by rw [w1,ag _ _ n53,ah]
 clear w1;refine (hga _ hs1).pthen ?_;simp -implicitDefEqProofs only [go_sem,g3,g5];intro ja hja;have a3:i3≠ja:=fun e=>by rw [←e,g3] at hja; cases hja
 have a5:i5≠ja:=fun e=>by rw [←e,g5] at hja; cases hja
 simp -implicitDefEqProofs only [go_sem,aj,a3,a5,g3,g5];intro jb hjb;have nba:=aH hjb;have kjb:=aD hjb;have b3:i3≠jb:=fun e=>by rw [←e,g3] at kjb; cases kjb
 have b5:i5≠jb:=fun e=>by rw [←e,g5] at kjb; cases kjb
 simp -implicitDefEqProofs only [go_sem,aj,nba,nba.symm,a3,a5,b3,b5,g3,g5];intro jc hjc;have ncb:=aH hjc;have nca:=aH (aD hjc);have kjc:=aD (aD hjc);have c3:i3≠jc:=fun e=>by rw [←e,g3] at kjc; cases kjc
 have c5:i5≠jc:=fun e=>by rw [←e,g5] at kjc; cases kjc
 have q1:=hs1.none hja;have q2:=hs1.none kjb;have q3:=hs1.none kjc;simp -implicitDefEqProofs only [go_sem,aj,nba,nba.symm,ncb,ncb.symm,nca,nca.symm,a3,a5,b3,b5,c3,c5,g3,g5];refine inH fun H2 w2=> ?_
 have hs2:Ab.Sub h H2:=by rw [w2]; exact ((((((hs1.put q1 _).put q2 _).put q3 _).put q1 _).put q2 _).put q3 _)
 have f3:H2 i3=some (.obj [.v (.int .i64 o.kind), .s o.subj, .s o.case, .s o.field, .s o.to, .v (.int .i64 o.val.kind), .v (.int .i64 o.val.n), .s o.val.s, .v (.int .i64 o.review), .s o.text, .s o.reason, .v (.bool o.glass)] 26):=by rw [w2]; simp only [aj,nba,nba.symm,ncb,ncb.symm,nca,nca.symm,a3,a5,b3,b5,c3,c5,g3,ne_eq,not_false_eq_true]
 have f5:H2 i5=some (.obj [.v (.int .i64 tick), .sl (cs.map bJ) .no, .sl (rv.map fL) .no, .sl (nt.map ku) .no, .sl (ro.map cD) .no, .s pid, .v (.bool pset), .v (.int .i64 palg), .sl (ptgt.map cH) .no, .sl (prules.map aB) .no, .sl (pkids.map aK) .no, .sl (pobls.map bf) .no, .v (.int .i64 ver)] 39):=by rw [w2]; simp only [aj,nba,nba.symm,ncb,ncb.symm,nca,nca.symm,a3,a5,b3,b5,c3,c5,g5,ne_eq,not_false_eq_true]
 have fa:H2 ja=some (.obj [.v (.int .i64 tick'), .sl (cs'.map bJ) .no, .sl (rv'.map fL) .no, .sl (nt'.map ku) .no, .sl (ro'.map cD) .no, .s pid', .v (.bool pset'), .v (.int .i64 palg'), .sl (ptgt'.map cH) .no, .sl (prules'.map aB) .no, .sl (pkids'.map aK) .no, .sl (pobls'.map bf) .no, .v (.int .i64 ver')] 39):=by rw [w2]; simp only [aj,ah,nba,nba.symm,ncb,ncb.symm,nca,nca.symm,ne_eq,not_false_eq_true]
 have fb:H2 jb=some (.obj [.v (.int .i64 rr.err), .v (.complex .f64 (hbit rr.mark.1) (hbit rr.mark.2)), .v (.bool rr.glass), .v (.int .i64 rr.val.kind), .v (.int .i64 rr.val.n), .s rr.val.s, .v (.bool rr.hidden), .v (.int .i64 rr.at_)] 46):=by rw [w2]; simp only [aj,ah,nba,nba.symm,ncb,ncb.symm,nca,nca.symm,ne_eq,not_false_eq_true]
 have fc:H2 jc=some (.obj [.v (.int .i64 dd.op.kind), .s dd.op.subj, .s dd.op.case, .s dd.op.field, .s dd.op.to, .v (.int .i64 dd.op.val.kind), .v (.int .i64 dd.op.val.n), .s dd.op.val.s, .v (.int .i64 dd.op.review), .s dd.op.text, .s dd.op.reason, .v (.bool dd.op.glass), .v (.int .i64 dd.version), .v (.complex .f64 (hbit dd.mark.1) (hbit dd.mark.2)), .v (.bool dd.glass), .sl (dd.obls.map bf) .no] 48):=by rw [w2]; simp only [aj,ah,nba,nba.symm,ncb,ncb.symm,nca,nca.symm,ne_eq,not_false_eq_true]
 clear w2;have qz:∀K,fH .eql (.complex .f64 (hbit naM.1) (hbit naM.2)) (.complex .f64 0 0) K=K (.v (.bool true)):=fun K=>(nb (m:=naM) M9.na).na K
 by_cases hee:ee=0
 rotate_left
 ·obtain ⟨ha,hre,hrm⟩:=lerr hee
  have de:(ee !=0)=true:=by simp [hee]
  rw [hre,hrm] at fb;clear lerr lok hlt hgw hden hev;cases ha;refine (vm (crows _) (crows _) .no .no _).pthen ?_;rw [vn];simp -implicitDefEqProofs only [go_sem,f3,f5,fa,fb,bne_self_eq_false,beq_self_eq_true,Bool.not_true,Bool.not_false];refine (o7 _ _ .no .no _).pthen ?_;rw [yO];simp -implicitDefEqProofs only [go_sem,f3,f5,fa,fb,de,bne_self_eq_false,beq_self_eq_true,Bool.not_true,Bool.not_false,qz,V0];refine (hfin _ hs2).pthen ?_;simp -implicitDefEqProofs only [go_sem];exact .mk _ (.refl _) hs2 ⟨rfl,rfl⟩
 subst hee;obtain ⟨k1,k2,k3,k4,k5⟩:=lok rfl;clear lok lerr;subst k5;subst k2;simp only at fc;have em9:=Hj hm9 hm9;rw [beq_self_eq_true] at em9;rw [k1,k3] at fb;rw [k3] at hlt
 by_cases hB:m≠aM∧gl=false
 ·obtain ⟨p1,p2,p3,p4,p5,p6⟩:=hden (hdid hB.1 hB.2)
  rw [←k4] at p1 p2 p3 p4;simp only at p1 p2 p3 p4;rw [p1,p2,p3,p4] at fa;rw [p5,p6] at fb;simp only [ay] at fb;rw [p1];refine (vm (crows _) (crows _) .no .no _).pthen ?_;rw [vn];simp -implicitDefEqProofs only [go_sem,f3,f5,fa,fb,bne_self_eq_false,beq_self_eq_true,Bool.not_true,Bool.not_false];refine (o7 _ _ .no .no _).pthen ?_;rw [yO];simp -implicitDefEqProofs only [go_sem,f3,f5,fa,fb,bne_self_eq_false,beq_self_eq_true,Bool.not_true,Bool.not_false,qz,V0];refine .tree _ (.quiet [0,1,2,3] 4 (.quiet [] 5 (.news [6,7,8] [9] (.seq [10,11])))) (.refl _) (by kernel_rfl) rfl ?_
  simp -implicitDefEqProofs only [go_sem,f3,f5];refine ⟨_,fun G hs=>hask G, ?_⟩
  simp -implicitDefEqProofs only [go_sem,f3,f5];refine ⟨_,fun G hs=>hev rfl G, ?_⟩
  simp -implicitDefEqProofs only [go_sem,f3,f5];refine ⟨.refl _,by simp, ?_⟩
  intro jd hjd;have d3:i3≠jd:=fun e=>by rw [←e,f3] at hjd; cases hjd
  have d5:i5≠jd:=fun e=>by rw [←e,f5] at hjd; cases hjd
  have da:ja≠jd:=fun e=>by rw [←e,fa] at hjd; cases hjd
  have db:jb≠jd:=fun e=>by rw [←e,fb] at hjd; cases hjd
  have dc:jc≠jd:=fun e=>by rw [←e,fc] at hjd; cases hjd
  have nmm:=wq hm9 hm9;rw [beq_self_eq_true,Bool.not_true] at nmm;simp -implicitDefEqProofs only [go_sem,aj,d3,d5,da,db,dc,f3,f5,fa,fb,fc,nmm];refine ⟨.ai hjd, ?_⟩;refine inH fun H3 w3=> ?_
  have hs3:Ab.Sub H2 H3:=by rw [w3]; exact .ai hjd
  have v3:=hs3 _ _ f3;have v5:=hs3 _ _ f5;have va:=hs3 _ _ fa;have vb:=hs3 _ _ fb;have vc:=hs3 _ _ fc;have vd:H3 jd=some (.obj [.v (.complex .f64 (hbit m.1) (hbit m.2)), .sl (ob.map bf) .no] 57):=by rw [w3,ah]
  clear w3;refine (show ak Tryz.prog _ [au ob,au ob] _ _ from wU ob ob _).pthen ?_
  rw [Bu];have npe:=(nb hm9).pe;simp -implicitDefEqProofs only [go_sem,v3,v5,va,vb,vc,vd,bne_self_eq_false,beq_self_eq_true,Bool.and_self,Bool.not_true,npe];have dp:(m==aM)=false:=by simpa using hB.1
  simp -implicitDefEqProofs only [go_sem,v3,v5,va,vb,vc,vd,dp,hB.2,beq_self_eq_true,Bool.and_self];refine (hfin _ (hs2.trans hs3)).pthen ?_;simp -implicitDefEqProofs only [go_sem];exact .mk _ (.refl _) (hs2.trans hs3) ⟨rfl,rfl⟩
 have hC:m=aM∨gl=true:=by
  by_cases e:m=aM
  ·exact .inl e
  ·right; cases g:gl with
   |true=>rfl
   |false=>exact (hB ⟨e,g⟩).elim
 have hr0:=hrd hC;rw [hr0] at fb;refine (vm (crows _) (crows _) .no .no _).pthen ?_;cases d1:eqL kH cs cs'
 case' true=>cases d2:(tick !=tick')
 case' true.false=>cases d3:(ver !=ver')
 case' true.false.false=>
  simp -implicitDefEqProofs only [go_sem,f3,f5,fa,fb,d1,d2,d3,Bool.not_true,Bool.not_false];refine (o7 _ _ .no .no _).pthen ?_;cases d4:eqL lS ro ro'
 all_goals
  first|simp -implicitDefEqProofs only [go_sem,f3,f5,fa,fb,d1,d2,d3,Bool.not_true,Bool.not_false]|simp -implicitDefEqProofs only [go_sem,f3,f5,fa,fb,d1,d2,Bool.not_true,Bool.not_false]|simp -implicitDefEqProofs only [go_sem,f3,f5,fa,fb,d1,Bool.not_true,Bool.not_false]
  refine .tree _ (.quiet [0,1,2,3] 4 (.quiet [] 5 (.news [6,7,8] [9] (.seq [10,11])))) (.refl _) (by kernel_rfl) rfl ?_
  simp -implicitDefEqProofs only [go_sem,f3,f5];refine ⟨_,fun G hs=>hask G, ?_⟩
  simp -implicitDefEqProofs only [go_sem,f3,f5];refine ⟨_,fun G hs=>hev rfl G, ?_⟩
  simp -implicitDefEqProofs only [go_sem,f3,f5];refine ⟨.refl _,by simp, ?_⟩
  intro jd hjd;have d3:i3≠jd:=fun e=>by rw [←e,f3] at hjd; cases hjd
  have d5:i5≠jd:=fun e=>by rw [←e,f5] at hjd; cases hjd
  have da:ja≠jd:=fun e=>by rw [←e,fa] at hjd; cases hjd
  have db:jb≠jd:=fun e=>by rw [←e,fb] at hjd; cases hjd
  have dc:jc≠jd:=fun e=>by rw [←e,fc] at hjd; cases hjd
  have nmm:=wq hm9 hm9;rw [beq_self_eq_true,Bool.not_true] at nmm;simp -implicitDefEqProofs only [go_sem,aj,d3,d5,da,db,dc,f3,f5,fa,fb,fc,nmm];refine ⟨.ai hjd, ?_⟩;refine inH fun H3 w3=> ?_
  have hs3:Ab.Sub H2 H3:=by rw [w3]; exact .ai hjd
  have v3:=hs3 _ _ f3;have v5:=hs3 _ _ f5;have va:=hs3 _ _ fa;have vb:=hs3 _ _ fb;have vc:=hs3 _ _ fc;have vd:H3 jd=some (.obj [.v (.complex .f64 (hbit m.1) (hbit m.2)), .sl (ob.map bf) .no] 57):=by rw [w3,ah]
  clear w3;refine (show ak Tryz.prog _ [au ob,au ob] _ _ from wU ob ob _).pthen ?_
  rw [Bu];have npe:=(nb hm9).pe;simp -implicitDefEqProofs only [go_sem,v3,v5,va,vb,vc,vd,bne_self_eq_false,beq_self_eq_true,Bool.and_self,Bool.not_true,npe];rcases hC with hC|hC
  ·have hg:=hgn hC
   have dp:(m==aM)=true:=by simp [hC]
   rw [hg] at vb;simp -implicitDefEqProofs only [go_sem,v3,v5,va,vb,vc,vd,dp,beq_self_eq_true,Bool.not_false,Bool.and_self];refine (hfin _ (hs2.trans hs3)).pthen ?_;simp -implicitDefEqProofs only [go_sem];exact .mk _ (.refl _) (hs2.trans hs3) ⟨rfl,rfl⟩
  ·obtain ⟨w1,w2,w3,w4⟩:=hgw hC
   have dp:(m==aM)=false:=by rcases w2 with e|e<;>rw [e]<;>rfl
   rw [hC] at vb;have hl2:decide ((rv.length:Int)<(rv'.length:Int))=true:=decide_eq_true (by have:=hlt hC; omega)
   have nde:=(nb hm9).de;have nna:=(nb hm9).na;simp -implicitDefEqProofs only [go_sem,v3,v5,va,vb,vc,vd,dp,beq_self_eq_true,w1,nde];cases dd1:(m==bV)
   case' true=>simp -implicitDefEqProofs only [go_sem,v3,v5,va,vb,vc,vd,dp,beq_self_eq_true,w1,nde,dd1]
   case' false=>
    have dn:(m==naM)=true:=by
     rcases w2 with e|e
     ·rw [e] at dd1; cases dd1
     ·simp [e]
    simp -implicitDefEqProofs only [go_sem,v3,v5,va,vb,vc,vd,dp,beq_self_eq_true,w1,nde,dd1,nna,dn]
   all_goals
    refine (show ak Tryz.prog _ [_, .s o.subj, .s lg] _ _ from hhas _).pthen ?_
    rw [w3];simp -implicitDefEqProofs only [go_sem,v3,v5,va,vb,vc,vd,beq_self_eq_true];refine (hlate _).pthen ?_;rw [w4];simp -implicitDefEqProofs only [go_sem,v3,v5,va,vb,vc,vd,beq_self_eq_true,Bool.not_false,V0,hl2];refine (hfin _ (hs2.trans hs3)).pthen ?_;simp -implicitDefEqProofs only [go_sem];exact .mk _ (.refl _) (hs2.trans hs3) ⟨rfl,rfl⟩
theorem xw (ev:Value) (hev:ev= .nilIface∨∃te pe,ev= .iface te pe) (x y:AV) (dx:Dat U 22 x) (dy:Dat U 26 y):ak Tryz.prog 3 [x,y] (uG [(3,zV),(2,[ev])]) fun r _=>r= .v (.bool true):=(zH x y dx dy _ (F7 hev)).mono fun _ _ h=>h.1
end Go.Proofs.YtnlbeamjpefpfaaGreatDoor
