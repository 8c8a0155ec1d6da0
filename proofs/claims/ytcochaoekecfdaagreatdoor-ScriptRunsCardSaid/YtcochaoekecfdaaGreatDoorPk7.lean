/- The law ScriptRuns: pack 7 of its texts. -/
import Derived.Test.YtcochaoekecfdaaGreatDoorPk1
import Derived.Test.YtcochaoekecfdaaGreatDoorPk2
import Derived.Test.YtcochaoekecfdaaGreatDoorPk3
import Derived.Test.YtcochaoekecfdaaGreatDoorPk4
import Derived.Test.YtcochaoekecfdaaGreatDoorPk5
import Derived.Test.YtcochaoekecfdaaGreatDoorPk6
set_option linter.unusedSimpArgs false
set_option linter.unusedVariables false
set_option maxRecDepth 100000
namespace Go.Proofs.YtcochaoekecfdaaGreatDoor
open Go Go.Ab Go.Bf
theorem bR.touch{h h' :Heap}{id:Nat}{d:D}{S:List Nat}(hd:bR h id d)(ht:Touch S h h')(hS:∀i∈S,∀cs,h i≠some (.obj cs 96)∧h i≠some (.obj cs 5)):bR h' id d:=by
 obtain⟨y,hy,hb⟩:=hd;refine⟨y,ht _ _ acv hy,?_⟩;rcases hb with hb|⟨j,off,cs2,rfl,a1,a2,a3⟩
 ·exact agw
 ·exact .oa (ht _ _ acv a1) a2 a3
theorem QO(x jid did:Nat)(e:dW)(d:D)(spl spj:List Nat)(o:OpD)(h:Heap)(he:lN h x jid did e spl spj)(hdk:bR h did d)(hdo:d.ok)(hps:e.ps.length≤1000000)(hlg:e.log.length≤1000000)(hd:e.down=false){k:Nat}(hG:ji k e.s)(hk:k≤1000)(h64:nU o)(her:jC h)(hne:(aS e.s o).2.2.2=0)(hcode:(jadd d e.ps false (dU e.ch o)).2=0):
  ai Tryz.prog 15 [.ptr x 0,opA o] h fun r h' =>r= .agg (lK (doE e d o).2.2)∧∃spl' spj',lN h' x jid did (doE e d o).1 spl' spj'∧bR h' did (doE e d o).2.1∧Touch (x::did::jid::(spl++spj)) h h'∧(∀i∈spl',i∈spl∨i∈spj∨h i=none)∧(∀i∈spj',i∈spj∨h i=none):=by
 have hF:=qu (jj hne);have hrl:=tZ (h:=e.ch) hF;have hpl:=Cf hF;have edo:doE e d o=(let a:=jadd d e.ps false (dU e.ch o);if a.2=0 then({ni e (aS e.s o) (dU e.ch o)with ps:=a.1.2.1,down:=a.1.2.2},a.1.1,(aS e.s o).2.1)else({e with ps:=a.1.2.1,down:=a.1.2.2},a.1.1,C0 (a.2:Int))):=by
  exact aik
 have hgd:=fun(G:Heap) (hG' :Ab.Sub h G)=>oO e.s hG hk o h64 G (her.sub hG')
 have he0:=he;obtain⟨yl,hx,hg,hj⟩:=he;obtain⟨a1,a2,a3,a4,a5,a6,a7,es⟩:=dD e.s;have g:=hx;unfold mN at g;rw[es]at g;simp only[List.cons_append,List.nil_append]at g;refine acs Tryz.func15 53 [.cell 4 36] fun hwf=>?_
 simp -implicitDefEqProofs only[go_sem,opA,opC];intro i1 h1;have x1:i1≠x:=fun e=>afo
 simp -implicitDefEqProofs only[go_sem];intro i2 h2;have n2:=aA h2;have x2:i2≠x:=fun e=>afp
 have n21:=aF h2;generalize hH:upd (upd h i1 _) i2 _=H;have kx:H x=_:=(by rw[←hH,ag _ _ (Ne.symm x2),ag _ _ (Ne.symm x1)]:H x=h x).trans g
 have k2:H i2=some (.obj nH 36):=aeX;have k1:H i1=some (.obj (opC o) 32):=adM;have hsub:Ab.Sub h H:=ac9;clear hH g;unfold nH at k2;simp -implicitDefEqProofs only[go_sem,kx];refine(xg jid did e.ps e.down spj H (hj.sub hsub)).pthen ?_;rw[hd];generalize aS e.s o=gd at hgd hne edo⊢;obtain⟨S,R,D,E⟩:=gd;simp only at hne edo⊢;subst hne;obtain⟨b1,b2,b3,b4,b5,b6,b7,es2⟩:=dD S;rw[oP,show cI e.s= .agg (jq e.s)from rfl,es,show cI S= .agg (jq S)from rfl,es2]at hgd
 simp only[opA,opC]at hgd;unfold opC at k1;simp -implicitDefEqProofs only[go_sem];refine .tree _ (.quiet [0,1,2,3,4] 5 (.news [6,7,8,9,10] [11,12,13] (.seq [14,15,16,17]))) (.refl _) acw rfl ?_;simp -implicitDefEqProofs only[go_sem,kx,k1];refine⟨_,fun G hs=>hgd G (hsub.trans hs),?_⟩
 simp -implicitDefEqProofs only[go_sem];refine⟨.refl _,acD,?_⟩;intro jd hjd je hje jf hjf;have ned:=aF hje;have kje:=aA hje;have nfe:=aF hjf;have nfd:=aF (aA hjf);have kjf:=aA (aA hjf);simp -implicitDefEqProofs only[go_sem,ak,ned,ned.symm,nfe,nfe.symm,nfd,nfd.symm];refine⟨acG,acG,acG,?_⟩;have mjd:=hsub.none hjd;have mje:=hsub.none kje;have mjf:=hsub.none kjf;have j2:jd≠i2:=fun e=>af8
 have j2e:je≠i2:=fun e=>af9
 have j2f:jf≠i2:=fun e=>aga
 refine GQ fun H2 w2=>?_
 have xjd:jd≠x:=fun e=>agc
 have xje:je≠x:=fun e=>agd
 have xjf:jf≠x:=fun e=>age
 have y1:jd≠i1:=fun e=>by rw[e,k1]at hjd;cases hjd
 have y2:je≠i1:=fun e=>by rw[e,k1]at kje;cases kje
 have y3:jf≠i1:=fun e=>by rw[e,k1]at kjf;cases kjf
 have hs2:Ab.Sub h H2:=aep;have fx:H2 x=_:=(by rw[w2];simp only[ak,xjd,xjd.symm,xje,xje.symm,xjf,xjf.symm,ne_eq,not_false_eq_true]:H2 x=H x).trans kx
 have f1:H2 i1=_:=(by rw[w2];simp only[ak,y1,y1.symm,y2,y2.symm,y3,y3.symm,ne_eq,not_false_eq_true]:H2 i1=H i1).trans k1
 have f2:H2 i2=_:=(by rw[w2];simp only[ak,j2,j2.symm,j2e,j2e.symm,j2f,j2f.symm,ne_eq,not_false_eq_true]:H2 i2=H i2).trans k2
 have fd:H2 jd=some (.obj [.i S.tick,fX S.cases,j4 S.reviews,kY S.notices,dV S.roles,b1,b2,b3,b4,b5,b6,b7,.i S.version] 67):=acQ;have fe:H2 je=some (.obj [.i R.err,.v (.complex .f64 (hbit R.mark.1) (hbit R.mark.2)),.b R.glass,.i R.val.kind,.i R.val.n,.s R.val.s,.b R.hidden,.i R.at_] 36):=acQ;have ff:H2 jf=some (.obj (xS D) 71):=adn;clear w2;refine .quiet acw ?_;simp -implicitDefEqProofs only[go_sem,fx,f1];refine⟨_,F7 e.ch o h64 (f_l hF) acu _,?_⟩;simp -implicitDefEqProofs only[go_sem,fx];refine(Hp d hdo did jid e.ps e.down spj H2 _ (dU e.ch o) (hdk.keep hs2.fV) (hj.sub hs2) (.sl _ _) acu hps).mono fun r H3 ⟨er,spj',hd3,hj3,hT3,hs3⟩=>?_
 subst er;have hin:∀q∈did::jid::spj,∃b,h q=some b∧∀cs,b≠ .obj cs 101:=fun q hq=>by
  exact ahd
 have out:∀q,h q=none→q∉did::jid::spj:=fun q hq hi=>by
  obtain⟨b,hb,_⟩:=hin q hi;rw[hq]at hb;cases hb
 have outx:x∉did::jid::spj:=fun hi=>by
  exact aiq
 have fx3:=hT3 _ _ outx fx;have f23:=hT3 _ _ (out i2 n2) f2;have fd3:=hT3 _ _ (out jd mjd) fd;have fe3:=hT3 _ _ (out je mje) fe;have ff3:=hT3 _ _ (out jf mjf) ff;rw[hd]at hd3 hj3⊢;generalize jadd d e.ps false (dU e.ch o)=a at hd3 hj3 edo hcode⊢;obtain⟨⟨d2,ps2,dn2⟩,code⟩:=a;simp only at hd3 hj3 edo hcode⊢;subst hcode;rw[if_pos rfl]at edo;simp only[xS,opC,List.cons_append,List.nil_append]at ff3;have hsp:∀i∈spl,i∉did::jid::spj:=fun i hi hq=>by
  exact ahb
 have hg3:=(hg.touch (S:=[]) (.of hs2) (fun i hi hh=>ad2)).touch hT3 hsp
 have hx3:H3 x=some (mN jid e yl):=by rw[fx3];unfold mN;rw[es];rfl
 have hgo:=Hf e S D (dU e.ch o) .no jid x yl spl H3 hx3 hg3 hlg acu;rw[show cI S= .agg (jq S)from rfl,es2]at hgo
 simp only[xS,opC,List.cons_append,List.nil_append]at hgo;simp -implicitDefEqProofs only[go_sem,fd3,ff3];refine hgo.mono fun r H4 ⟨er,yl',spl',hx4,hg4,hT4,hs4⟩=>?_
 subst er;have hnl:∀q,h q=none→q∉x::spl:=fun q hq hh=>by
  rcases List.mem_cons.1 hh with rfl|hh
  ·rw[hx]at hq;cases hq
  ·obtain⟨n,hn⟩:=hg.has q hh
   rw[hn]at hq;cases hq
 have fe4:=hT4 _ _ (hnl je mje) fe3;have f24:=hT4 _ _ (hnl i2 n2) f23;simp -implicitDefEqProofs only[go_sem,fe4,f24,ah];have hF4:∀b,Touch [i2] H4 (upd H4 i2 b):=fun b=> .upd
 have hj3' :=hj3;obtain⟨z,zs,hz1,hz2,_⟩:=hj3';have jx:jid∉x::spl:=fun hh=>by
  exact ahL
 have sx:∀i∈spj',i∉x::spl:=fun i hi hh=>by
  obtain⟨n,hn⟩:=hz2.has i hi;rcases List.mem_cons.1 hh with rfl|hh
  ·rw[hx3]at hn;cases hn
  ·obtain⟨n2,hn2⟩:=hg3.has i hh
   rw[hn2]at hn;cases hn
 have hj4:=hj3.touch hT4 jx sx;have hj4' :=hj4;obtain⟨z4,zs4,hz41,hz42,_⟩:=hj4';have hd4:=hd3.touch hT4 (fun i hi cs=>by
  rcases List.mem_cons.1 hi with rfl|hi
  ·rw[hx3];exact⟨fun hh=>ad2,fun hh=>ad2⟩
  ·obtain⟨n,hn⟩:=hg3.has i hi
   rw[hn];exact⟨fun hh=>ad2,fun hh=>ad2⟩)
 refine .same (.refl _) ⟨by rw[edo];rfl,spl',spj',?_,?_,?_,fun i hi=>?_,fun i hi=>?_⟩
 ·rw[edo]
  refine⟨yl',?_,hg4.touch (hF4 _) ?_,hj4.touch (hF4 _) ?_ ?_⟩
  ·rw[ag _ _ (Ne.symm x2),hx4]
   unfold mN;simp only[ni]
  ·intro i hi hh
   obtain⟨n,hn⟩:=hg4.has i hi;rw[List.mem_singleton.1 hh,f24]at hn;cases hn
  ·intro hh
   rw[List.mem_singleton.1 hh,f24]at hz41;cases hz41
  ·intro i hi hh
   obtain⟨n,hn⟩:=hz42.has i hi;rw[List.mem_singleton.1 hh,f24]at hn;cases hn
 ·rw[edo]
  exact hd4.upd f24 acz acz
 ·exact((((Touch.of (S:=[]) hs2).trans hT3).trans hT4).trans (hF4 _)).mono (fun i hi=>by
   simp only[List.nil_append,List.mem_append,List.mem_cons,List.mem_singleton,List.not_mem_nil,or_false]at hi;rcases hi with((h3|h3|h3)|(h3|h3))|h3
   ·left;simp[h3]
   ·left;simp[h3]
   ·left;simp[h3]
   ·left;simp[h3]
   ·left;simp[h3]
   ·right;rw[h3];exact n2)
 ·rcases hs4 i hi with h3|h3
  ·exact .inl h3
  ·right
   cases hh:h i with
   |none=>exact .inr rfl
   |some b=>
    left
    by_cases hm3:i∈did::jid::spj
    ·simp only[List.mem_cons]at hm3
     rcases hm3 with rfl|rfl|hm3
     ·obtain⟨w,hw,_⟩:=hd3
      rw[hw]at h3;cases h3
     ·rw[hz1]at h3;cases h3
     ·exact hm3
    ·have:=hT3 _ _ hm3 (hs2 _ _ hh)
     rw[h3]at this;cases this
 ·rcases hs3 i hi with h3|h3
  ·exact .inl h3
  ·right;exact hs2.none h3
theorem TU(x jid did:Nat)(e:dW)(d:D)(spl spj:List Nat)(o:OpD)(h:Heap)(he:lN h x jid did e spl spj)(hdk:bR h did d)(hdo:d.ok)(hps:e.ps.length≤1000000)(hlg:e.log.length≤1000000){k:Nat}(hG:ji k e.s)(hk:k≤1000)(h64:nU o)(her:jC h):
  ai Tryz.prog 15 [.ptr x 0,opA o] h fun r h' =>r= .agg (lK (doE e d o).2.2)∧∃spl' spj',lN h' x jid did (doE e d o).1 spl' spj'∧bR h' did (doE e d o).2.1∧Touch (x::did::jid::(spl++spj)) h h'∧(∀i∈spl',i∈spl∨i∈spj∨h i=none)∧(∀i∈spj',i∈spj∨h i=none):=by
 have stay:∀R:gU,doE e d o=(e,d,R)→∀(r:AV) (h' :Heap),(r= .agg (lK R)∧h' =h)→r= .agg (lK (doE e d o).2.2)∧∃spl' spj',lN h' x jid did (doE e d o).1 spl' spj'∧bR h' did (doE e d o).2.1∧Touch (x::did::jid::(spl++spj)) h h'∧(∀i∈spl',i∈spl∨i∈spj∨h i=none)∧(∀i∈spj',i∈spj∨h i=none):=fun R ed r h' ⟨e1,e2⟩=>by
  subst e2;rw[ed];exact⟨e1,spl,spj,he,hdk,.refl _ _,fun i hi=> .inl hi,fun i hi=> .inl hi⟩
 cases hd:e.down
 case true=>
  exact(NJ x jid did e spl spj o h he hd).mono (stay _ (by simp_all [doE,if_pos]))
 by_cases hne:(aS e.s o).2.2.2=0
 case neg=>
  exact(QN x jid did e spl spj o h he hd hG hk h64 her hne).mono (stay _ (by
   simp_all [doE,if_neg,if_pos]))
 by_cases hcode:(jadd d e.ps false (dU e.ch o)).2=0
 ·exact QO x jid did e d spl spj o h he hdk hdo hps hlg hd hG hk h64 her hne hcode
 ·exact(QS x jid did e d spl spj o h he hdk hdo hps hlg hd hG hk h64 her hne hcode).mono fun r h' ⟨a,s1,s2,b,c,f,g,i⟩=>⟨a,s1,s2,b,c,f,fun q hq=>(g q hq).imp id .inr,i⟩
theorem TN{P:Program}{U:TypeId→TI}{n:Nat}{a b:Code}{ρ:Env}{h:Heap}{K:Exit→Env→Heap→Prop}{y:AV}(hh:∀H2,H2=h→jX P U n a b ρ H2 K y):jX P U n a b ρ h K y:=hh h rfl
theorem jC.touch{h h' :Heap}{S:List Nat}(he:jC h)(ht:Touch S h h')(hS:∀i∈S,∀b vs,h i≠some (.ro b vs)):jC h' :=by
 obtain⟨ev,hev,id,hi⟩:=he;exact⟨ev,hev,id,ht _ _ acv hi⟩
theorem Fv{e:dW}{l:List Txt}{i:Nat}(hi:i<l.length){e1:dW}(h:mA e (l.take i)=some e1):mA e (l.take (i+1))=mL e1 l[i]:=by
 grind [List.take_succ_eq_append_getElem,rZ]
theorem Fu{e:dW}{l:List Txt}{i:Nat}(h:mA e (l.take i)=none):mA e l=none:=by
 rw[←List.take_append_drop i l];generalize l.take i=a at h⊢
 induction a generalizing e with
 |nil=>cases h
 |cons p a ih=>
  simp only[List.cons_append,mA]at h⊢
  grind
theorem OC{e:dW}{p:Txt}{o:OpD}(h:jz e p=some o)(hl:p.length≤1000000):nU o:=by
 grind [jz,He,List.length_drop]
def uu(h h' :Heap)(did:Nat)(ps:List Txt)(r:AV):Prop:=match vl ps with
 |none=>r= .tup [.v (.pointer none),.i 7]
 |some e=>∃x jid spl spj,r= .tup [.ptr x 0,.i 0]∧lN h' x jid did e spl spj∧(∀i∈x::jid::(spl++spj),h i=none)
theorem newL:jq yM= [.i 0,.sl [] .no,.sl [] .no,.sl [] .no,.sl [] .no,.s jy,.b false,.i 6,.sl [] .no,.sl [] .no,.sl [] .no,.sl [] .no,.i 0]:=rfl
theorem My(d:D)(hdo:d.ok)(did:Nat)(h:Heap)(hdk:bR h did d)(her:jC h)(hps:(scan d.b).1.length≤900):
  ai Tryz.prog 14 [.ptr did 0] h fun r h' =>bR h' did d.bZ.1∧Keep did h h'∧if d.bZ.2=0 then uu h h' did (scan d.b).1 r else r= .tup [.v (.pointer none),.i (d.bZ.2:Nat)]:=by
 have hlen:=(OK d.b).2;refine acs Tryz.func14 62 [.tmp 2,.tmp 3] fun hwf=>?_
 simp -implicitDefEqProofs only[go_sem];refine(Lt d hdo did h hdk).mono fun r h1 ⟨J,e1,hd1,kp1,hif⟩=>?_
 subst e1;have her1:jC h1:=her.touch (.keep kp1) (fun i hi b vs hh=>by
  obtain⟨y,hy,_⟩:=hdk;rw[List.mem_singleton.1 hi,hy]at hh;cases hh)
 generalize (scan d.b).1=ps at hps hlen hif⊢;generalize d.bZ=od at hd1 hif⊢;obtain⟨d1,c1⟩:=od;simp only at hd1 hif⊢
 by_cases hc:c1=0
 case neg=>
  rw[if_neg hc]at hif;subst hif;have t1:(((c1:Nat):Int) !=0)=true:=by simp[hc]
  simp -implicitDefEqProofs only[go_sem,t1];exact .same (.refl _) ⟨hd1,kp1,by rw[if_neg hc];rfl⟩
 subst hc;rw[if_pos rfl]at hif;obtain⟨jid,spj,rfl,hjn,hj,hsn⟩:=hif;simp -implicitDefEqProofs only[go_sem];refine(Rv h1 her1).pthen ?_;rw[show cI yM= .agg (jq yM)from rfl,newL]
 simp -implicitDefEqProofs only[go_sem];intro x hx;have hxh:h x=none:=by
  cases hh:h x with
  |none=>rfl
  |some k=>
   by_cases e:x=did
   ·subst e
    obtain⟨y,hy,_⟩:=hd1;rw[hy]at hx;cases hx
   ·rw[kp1 _ _ e hh]at hx;cases hx
 simp -implicitDefEqProofs only[go_sem];refine inH fun H1 w1=>?_
 have hs1:Ab.Sub h1 H1:=by rw[w1];exact(Sub.refl h1).new hx _
 have hE1:lN H1 x jid did (lE ps) [] spj:=⟨_,by rw[w1,ah];rfl,.inl ⟨rfl,rfl,rfl⟩,hj.sub hs1⟩
 clear w1;have hK1:Keep did h H1:=kp1.trans (hs1.keep did);refine(F8 jid did ps false spj H1 (hj.sub hs1) acu (fun p hp=>by have:=hlen p hp;omega)).mono fun r h2 ⟨q,er,hs2⟩=>?_
 subst er;simp -implicitDefEqProofs only[go_sem,aci];refine .intro (fun m ρ H=>∃(i:Nat) (e:dW) (spl:List Nat),mA (lE ps) (ps.take i)=some e∧e.ps=ps∧e.down=false∧e.log.length=i∧ji i e.s∧lN H x jid did e spl spj∧bR H did d1∧Keep did h H∧(∀j∈spl,h j=none)∧i≤ps.length∧m=ps.length - i∧lk ρ 6=some (.ptr x 0)∧lk ρ 28=some (.sl (ps.map mK) q)∧lk ρ 29=some (.i ps.length)∧lk ρ 30=some (.i i)) (ps.length - 0) ?_ ?_
 ·obtain⟨yl,a,b,c⟩:=hE1
  refine⟨0,lE ps,[],rfl,rfl,rfl,rfl,yf,⟨yl,hs2 _ _ a,b.touch (S:=[]) (.of hs2) (fun i hi=>by cases hi),c.sub hs2⟩,(hd1.keep hs1.fV).keep hs2.fV,hK1.trans (hs2.keep did),fun j hj=>(by cases hj),acu,rfl,?_,?_,?_,?_⟩<;>simp -implicitDefEqProofs only[go_sem]
 rintro m ρ H ⟨i,e,spl,hf,hps2,hdn,hlg,hG,hE,hD,hK,hsl,hi,rfl,r6,r28,r29,r30⟩
 by_cases hlt:i<ps.length
 case neg=>
  have ei:i=ps.length:=acu;have t1:decide ((i:Int)<(ps.length:Int))=false:=decide_eq_false acu;rw[ei,List.take_length]at hf;simp -implicitDefEqProofs only[go_sem,r6,r28,r29,r30,t1];refine .same (.refl _) ⟨hD,hK,?_⟩
  show uu h H did ps (.tup [.ptr x 0,.i 0])
  unfold uu vl;rw[hf];exact⟨x,jid,spl,spj,rfl,hE,fun j hj=>by
   simp only[List.mem_cons,List.mem_append]at hj;rcases hj with rfl|rfl|hj|hj
   ·exact hxh
   ·exact hjn
   ·exact hsl _ hj
   ·exact(hsn _ hj).1⟩
 have t1:decide ((i:Int)<(ps.length:Int))=true:=decide_eq_true acu;have w3:=acp i acu;have ix:=fun k=>fA.eq (xs:=ps.map mK) (sz:=1) i acU acL k
 have hf1:=Fv hlt hf;have hpl:=hlen _ (aco hlt);rw[acj]at ix;obtain⟨p,ep⟩:∃p,ps[i]=p:=⟨_,rfl⟩;rw[ep]at ix hf1 hpl;simp only[mK]at ix;have hEx:=hE;obtain⟨yl,hx2,hgl,hj2⟩:=hE;simp -implicitDefEqProofs only[go_sem,r6,r28,r29,r30,t1,ix];refine(KX p .no e yl jid x H acu hx2).pthen ?_;unfold A8;have her2:jC H:=her.touch (.keep hK) (fun i hi b vs hh=>by
  obtain⟨y,hy,_⟩:=hdk;rw[List.mem_singleton.1 hi,hy]at hh;cases hh)
 have bad:∀H',Ab.Sub H H'→mL e p=none→bR H' did d1∧Keep did h H'∧uu h H' did ps (.tup [.v (.pointer none),.i 7]):=fun H' hs hn=>by
  refine⟨hD.keep hs.fV,hK.trans (hs.keep did),?_⟩;unfold uu vl;rw[Fu (hf1.trans hn)]
 cases hr:jz e p with
 |none=>
  have hn:mL e p=none:=by unfold mL;rw[hr]
  simp -implicitDefEqProofs only[go_sem,hr,opA,opC,rL,aq,Option.getD,Option.isSome];intro i9 h9;simp -implicitDefEqProofs only[go_sem];exact .mk _ (.refl _) (.refl _) (bad _ ((Sub.refl H).new h9 _) hn)
 |some o=>
  have h64:=OC hr acu;have hst:mL e p=if(aS e.s o).2.2.2=0 then some (ni e (aS e.s o) p)else none:=by unfold mL;rw[hr]
  obtain⟨a1,a2,a3,a4,a5,a6,a7,es⟩:=dD e.s;have hgd:=fun(G:Heap) (hG' :Ab.Sub H G)=>oO e.s hG acu o h64 G (her2.sub hG')
  have hG2:=vU o hG;have g:=hx2;unfold mN at g;rw[es]at g;simp only[List.cons_append,List.nil_append]at g;simp -implicitDefEqProofs only[go_sem,hr,opA,opC,Option.getD,Option.isSome];intro i9 h9;have x9:i9≠x:=fun e=>by rw[e,hx2]at h9;cases h9
  simp -implicitDefEqProofs only[go_sem];generalize hH:upd H i9 _=H1;have kx:H1 x=_:=(by rw[←hH,ag _ _ (Ne.symm x9)]:H1 x=H x).trans g
  have k9:H1 i9=some (.obj (opC o) 32):=aeX;have hsub:Ab.Sub H H1:=by rw[←hH];exact(Sub.refl H).new h9 _
  clear hH g;generalize aS e.s o=gd at hgd hst hG2⊢;obtain⟨S,R,D,E⟩:=gd;simp only at hst hG2;obtain⟨b1,b2,b3,b4,b5,b6,b7,es2⟩:=dD S;rw[oP,show cI e.s= .agg (jq e.s)from rfl,es,show cI S= .agg (jq S)from rfl,es2]at hgd
  simp only[opA,opC]at hgd;unfold opC at k9;refine .tree _ (.quiet [0,1,2,3,4] 5 (.news [6,7,8,9,10] [11,12,13] (.seq [14,15,16,17]))) (.refl _) acw rfl ?_;simp -implicitDefEqProofs only[go_sem,r6,kx,k9];refine⟨_,fun G hs=>hgd G (hsub.trans hs),?_⟩
  simp -implicitDefEqProofs only[go_sem];refine⟨.refl _,acD,?_⟩;intro jd hjd je hje jf hjf;have ned:=aF hje;have kje:=aA hje;have nfe:=aF hjf;have nfd:=aF (aA hjf);have kjf:=aA (aA hjf);simp -implicitDefEqProofs only[go_sem,ak,ned,ned.symm,nfe,nfe.symm,nfd,nfd.symm];refine⟨acG,acG,acG,?_⟩;refine TN fun H2 w2=>?_
  have xjd:jd≠x:=fun e=>agc
  have xje:je≠x:=fun e=>agd
  have xjf:jf≠x:=fun e=>age
  have hs2:Ab.Sub H H2:=by
   have:=hsub.none hjd;have:=hsub.none kje;have:=hsub.none kjf;rw[w2];repeat (first|exact hsub|refine Ab.Sub.put ?_ acH _)
  have fx:H2 x=_:=(by rw[w2];simp only[ak,xjd,xjd.symm,xje,xje.symm,xjf,xjf.symm,ne_eq,not_false_eq_true]:H2 x=H1 x).trans kx
  have fd:H2 jd=some (.obj [.i S.tick,fX S.cases,j4 S.reviews,kY S.notices,dV S.roles,b1,b2,b3,b4,b5,b6,b7,.i S.version] 67):=by rw[w2];simp only[ak,ned,ned.symm,nfe,nfe.symm,nfd,nfd.symm,ah,ne_eq,not_false_eq_true]
  have ff:H2 jf=some (.obj (xS D) 71):=by rw[w2];simp only[ak,ned,ned.symm,nfe,nfe.symm,nfd,nfd.symm,ah,ne_eq,not_false_eq_true];rfl
  clear w2;simp only[xS,opC,List.cons_append,List.nil_append]at ff
  by_cases hE0:E=0
  case neg=>
   have t2:(E !=0)=true:=by simp[hE0]
   rw[if_neg hE0]at hst;simp -implicitDefEqProofs only[go_sem,t2];exact .same (.refl _) (bad _ hs2 hst)
  subst hE0;rw[if_pos rfl]at hst;have hx3:H2 x=some (mN jid e yl):=by rw[fx];unfold mN;rw[es];rfl
  have hg3:=hgl.touch (S:=[]) (.of hs2) (fun i hi hh=>ad2)
  have hgo:=Hf e S D p .no jid x yl spl H2 hx3 hg3 acu acu;rw[show cI S= .agg (jq S)from rfl,es2]at hgo
  simp only[xS,opC,List.cons_append,List.nil_append]at hgo;simp -implicitDefEqProofs only[go_sem,r6,fd,ff];refine hgo.mono fun r H4 ⟨er,yl',spl',hx4,hg4,hT4,hs4⟩=>?_
  subst er;simp -implicitDefEqProofs only[go_sem,r6,r28,r29,r30,w3];have hout:∀j∈x::spl,h j=none:=fun j hj=>by
   rcases List.mem_cons.1 hj with rfl|hj
   ·exact hxh
   ·exact hsl _ hj
  have hdid:h did≠none:=by
   obtain⟨y,hy,_⟩:=hdk;rw[hy];simp
  have hj3:=hj2.sub hs2;have hD2:=hD.keep hs2.fV;refine⟨_,?_,i+1,ni e (S,R,D,0) p,spl',hf1.trans hst,hps2,hdn,?_,hG2,⟨yl',hx4,hg4,?_⟩,?_,?_,?_,acu,rfl,?_,?_,?_,?_⟩
  ·omega
  ·simp[ni,hlg]
  ·refine hj3.touch hT4 ?_ ?_
   ·obtain⟨z,zs,hz1,_⟩:=hj3
    intro hh;exact ahL
   ·obtain⟨z,zs,_,hz2,_⟩:=hj3
    intro j hj hh;obtain⟨n,hn⟩:=hz2.has j hj;rcases List.mem_cons.1 hh with rfl|hh
    ·rw[hx3]at hn;cases hn
    ·obtain⟨n2,hn2⟩:=hg3.has j hh
     rw[hn2]at hn;cases hn
  ·exact hD2.touch hT4 (fun j hj cs=>by
    rcases List.mem_cons.1 hj with rfl|hj
    ·rw[hx3];exact⟨fun hh=>ad2,fun hh=>ad2⟩
    ·obtain⟨n,hn⟩:=hg3.has j hj
     rw[hn];exact⟨fun hh=>ad2,fun hh=>ad2⟩)
  ·intro j k hj hk
   exact hT4 _ _ (fun hh=>by rw[hout j hh]at hk;cases hk) (hs2 _ _ (hK _ _ hj hk))
  ·intro j hj
   rcases hs4 j hj with hh|hh
   ·exact hsl _ hh
   ·cases hk:h j with
    |none=>rfl
    |some k=>
     by_cases e1:j=did
     ·subst e1
      obtain⟨y,hy,_⟩:=hD2;rw[hy]at hh;cases hh
     ·rw[hs2 _ _ (hK _ _ e1 hk)]at hh;cases hh
  all_goals simp -implicitDefEqProofs only[go_sem,r6,r28,r29]
theorem lN.sub{h h' :Heap}{x jid did:Nat}{e:dW}{spl spj:List Nat}(he:lN h x jid did e spl spj)(hs:Ab.Sub h h'):lN h' x jid did e spl spj:=by
 obtain⟨yl,a,b,c⟩:=he;exact⟨yl,hs _ _ a,b.touch (S:=[]) (.of hs) acD,c.sub hs⟩
end Go.Proofs.YtcochaoekecfdaaGreatDoor
namespace Go.Bf
open Go Go.Ab Go.Proofs.YtcochaoekecfdaaGreatDoor
def Uy(e:dW)(o:OpD):dW:={ni e (aS e.s o) (dU e.ch o)with ps:=e.ps++ [dU e.ch o],down:=false}
theorem Pw{e:dW}(d:D){o:OpD}(h:e.down=false)(hg:(aS e.s o).2.2.2≠0):doE e d o=(e,d,(aS e.s o).2.1):=by
 simp_all [doE,if_neg,if_pos]
theorem TT{e:dW}{d d' :D}{o:OpD}{ps:List Txt}{dn:Bool}{c:Nat}(h:e.down=false)(hg:(aS e.s o).2.2.2=0)(hj:jadd d e.ps false (dU e.ch o)=((d',ps,dn),c)):
  doE e d o=if c=0 then({ni e (aS e.s o) (dU e.ch o)with ps:=ps,down:=dn},d',(aS e.s o).2.1)else({e with ps:=ps,down:=dn},d',C0 (c:Int)):=by
 simp_all [doE,if_neg]
theorem GP{e:dW}{d:D}{o:OpD}(h:e.down=false)(hg:(aS e.s o).2.2.2=0)(h1:d.off=false)(h2:d.f=0)(hr:d.b.length+(frame (dU e.ch o)).length≤d.q):
  doE e d o=({ni e (aS e.s o) (dU e.ch o)with ps:=e.ps++ [dU e.ch o],down:=false},{d with b:=d.b++frame (dU e.ch o),sy:=(d.b++frame (dU e.ch o)).length},(aS e.s o).2.1):=by
 have hl:=tZ (h:=e.ch) (qu (jj hg));rw[TT h hg (Ur h1 h2 acu acu hr),if_pos rfl]
theorem GO{e:dW}{d:D}{o:OpD}(h:e.down=false)(hg:(aS e.s o).2.2.2=0)(h1:d.off=false)(hr:d.q<d.b.length+(frame (dU e.ch o)).length):doE e d o=(e,d,C0 8):=by
 have hl:=tZ (h:=e.ch) (qu (jj hg));rw[TT h hg (Ls h1 acu acu hr),if_neg acz];obtain⟨_,_,_,_,dn⟩:=e;cases h;rfl
end Go.Bf
namespace Go.Proofs.YtcochaoekecfdaaGreatDoor
open Go Go.Ab Go.Bf
theorem Be{h0 h h' :Heap}{S:List Nat}(hs:Ab.Sub h0 h)(ht:Touch S h h')(hn:∀i∈S,h0 i=none):Ab.Sub h0 h' :=fun j k hj=>ht j k acv (hs j k hj)
theorem Ex{h0 h h' :Heap}{i:Nat}(hs:Ab.Sub h0 h)(ht:Keep i h h')(hn:h0 i=none):Ab.Sub h0 h' :=Be hs (.keep ht) acv
structure uq (h0 h:Heap) (x jid did:Nat) (e:dW) (d:D) (spl spj:List Nat):Prop where
 eng:lN h x jid did e spl spj
 disk:bR h did d
 ok:d.ok
 sub:Ab.Sub h0 h
 new:∀i∈x::did::jid::(spl++spj),h0 i=none
theorem uq.up{h0 h h' :Heap}{x jid did:Nat}{e:dW}{d:D}{spl spj:List Nat}(w:uq h0 h x jid did e d spl spj)(hs:Ab.Sub h h'):uq h0 h' x jid did e d spl spj:=
 ⟨w.eng.sub hs,w.disk.keep hs.fV,w.ok,w.sub.trans hs,w.new⟩
theorem uq.doS{h0 h:Heap}{x jid did:Nat}{e:dW}{d:D}{spl spj:List Nat}(w:uq h0 h x jid did e d spl spj)(o:OpD)(hps:e.ps.length≤1000000)(hlg:e.log.length≤1000000){k:Nat}(hG:ji k e.s)(hk:k≤1000)(h64:nU o)(her:jC h0)(hok:(doE e d o).2.1.ok):
  ai Tryz.prog 15 [.ptr x 0,opA o] h fun r h' =>r= .agg (lK (doE e d o).2.2)∧∃spl' spj',uq h0 h' x jid did (doE e d o).1 (doE e d o).2.1 spl' spj'∧Touch (x::did::jid::(spl++spj)) h h'∧(∀i∈x::did::jid::(spl' ++spj'),i∈x::did::jid::(spl++spj)∨h i=none):=
 (TU x jid did e d spl spj o h w.eng w.disk w.ok hps hlg hG hk h64 (her.sub w.sub)).mono fun r h' ⟨e1,spl',spj',a,b,c,f,g⟩=>by
  have hin:∀i∈x::did::jid::(spl' ++spj'),i∈x::did::jid::(spl++spj)∨h i=none:=fun i hi=>by
   simp only[List.mem_cons,List.mem_append]at hi⊢;rcases hi with hi|hi|hi|hi|hi
   ·exact .inl (.inl hi)
   ·exact .inl (.inr (.inl hi))
   ·exact .inl (.inr (.inr (.inl hi)))
   ·rcases f i hi with h1|h1|h1
    ·exact .inl (.inr (.inr (.inr (.inl h1))))
    ·exact .inl (.inr (.inr (.inr (.inr h1))))
    ·exact .inr h1
   ·rcases g i hi with h1|h1
    ·exact .inl (.inr (.inr (.inr (.inr h1))))
    ·exact .inr h1
  exact⟨e1,spl',spj',⟨a,b,hok,Be w.sub c w.new,fun i hi=>(hin i hi).elim (w.new i) w.sub.none⟩,c,hin⟩
end Go.Proofs.YtcochaoekecfdaaGreatDoor
namespace Go.Bf
open Go Go.Ab Go.Proofs.YtcochaoekecfdaaGreatDoor
def pO(e:dW)(d:D)(s:Txt):dW×D×Txt:=match qG s with
 |none=>(e,d,[119,104,97,116])
 |some o=>((doE e d o).1,(doE e d o).2.1,gK (doE e d o).2.2)
end Go.Bf
namespace Go.Proofs.YtcochaoekecfdaaGreatDoor
open Go Go.Ab Go.Bf
theorem uq.line{h0 h:Heap}{x jid did:Nat}{e:dW}{d:D}{spl spj:List Nat}(w:uq h0 h x jid did e d spl spj)(s:Txt)(hl:s.length≤900000)(hps:e.ps.length≤1000000)(hlg:e.log.length≤1000000){k:Nat}(hG:ji k e.s)(hk:k≤1000)(her:jC h0)(ht:Cw h0)(h64:∀o,qG s=some o→nU o)(hok:(pO e d s).2.1.ok)(hr:∀o,qG s=some o→xA (doE e d o).2.2):
  ai Tryz.prog 41 [.ptr x 0,.s s] h fun r h' =>r= .s (pO e d s).2.2∧∃spl' spj',uq h0 h' x jid did (pO e d s).1 (pO e d s).2.1 spl' spj'∧Touch (x::did::jid::(spl++spj)) h h'∧(∀i∈x::did::jid::(spl' ++spj'),i∈x::did::jid::(spl++spj)∨h i=none):=by
 refine acs Tryz.func41 18 [.tmp 4] fun hwf=>?_
 simp -implicitDefEqProofs only[go_sem];refine(FQ s hl _ (her.sub w.sub)).pthen ?_;unfold DA;cases eo:qG s with
 |none=>
  simp -implicitDefEqProofs only[go_sem];intro i hi;simp -implicitDefEqProofs only[go_sem,Option.isSome_none,Option.getD_none,opA,opC,rL,ah,dQ];refine .mk _ (.refl _) (.aj hi) ⟨by unfold pO;rw[eo];rfl,spl,spj,by unfold pO;rw[eo];exact w,.refl _ _,fun j hj=> .inl hj⟩
 |some o=>
  have ee:pO e d s=((doE e d o).1,(doE e d o).2.1,gK (doE e d o).2.2):=by unfold pO;rw[eo]
  rw[ee]at hok;have hr:=hr o eo;have h64:=h64 o eo;simp -implicitDefEqProofs only[go_sem];intro i hi;simp -implicitDefEqProofs only[go_sem,Option.isSome_some,Option.getD_some,opA,opC,aO,ah,dQ];generalize hH:upd h i _=H;have hsH:Ab.Sub h H:=by rw[←hH];exact .aj hi
  clear hH;refine(show ai Tryz.prog _ [.ptr x 0,opA o] _ _ from((w.up hsH).doS o hps hlg hG hk h64 her hok).mono fun r H2 ⟨er,spl',spj',w2,hT,hin⟩=>?_)
  subst er;simp -implicitDefEqProofs only[go_sem];refine(Ij _ hr _ (ht.sub w2.sub)).pthen ?_;simp -implicitDefEqProofs only[go_sem];exact .same (.refl _) ⟨by rw[ee];rfl,spl',spj',by rw[ee];exact w2,(Touch.of (S:=[]) hsH).trans hT,fun i hi=>(hin i hi).imp id hsH.none⟩
end Go.Proofs.YtcochaoekecfdaaGreatDoor
namespace Go.Bf
open Go Go.Ab
def eqT(a b:fW):Bool:=eqL (eqL (eqL NO)) a b
def eqR(r s:cK):Bool:=r.id==s.id && (r.deny==s.deny && (eqT r.tgt s.tgt && (eqL Q6 r.cond s.cond && eqL Pz r.obls s.obls)))
mutual
def eqP:bG→bG→Bool
 |.mk i1 s1 a1 t1 r1 k1 o1,.mk i2 s2 a2 t2 r2 k2 o2=>i1==i2 && (s1==s2 && (a1==a2 && (eqT t1 t2 && (eqL Pz o1 o2 && (eqL eqR r1 r2 && eqK k1 k2)))))
def eqK:List bG→List bG→Bool
 | [],[]=>true
 |x::a,y::b=>eqP x y && eqK a b
 |_,_=>false
end
end Go.Bf
namespace Go.Bf
open Go Go.Ab Go.Proofs.YtcochaoekecfdaaGreatDoor
theorem NK{k n:Nat}{e:dW}{b:Txt}{sy:Nat}(o:OpD)(hd:e.down=false)(hG:ji k e.s)(hok:D.ok ⟨n,b,sy,0,false⟩):
  ∃e' b' sy' RR,doE e ⟨n,b,sy,0,false⟩ o=(e',⟨n,b',sy',0,false⟩,RR)∧D.ok ⟨n,b',sy',0,false⟩∧e'.down=false∧e'.ps.length≤e.ps.length+1∧e'.log.length≤e.log.length+1∧ji (k+1) e'.s∧
   (((aS e.s o).2.2.2≠0∧RR=(aS e.s o).2.1∧e' =e)∨((aS e.s o).2.2.2=0∧n<b.length+16+(jE o).length∧RR=C0 8∧e' =e)∨((aS e.s o).2.2.2=0∧b.length+16+(jE o).length≤n∧RR=(aS e.s o).2.1∧e' =Uy e o)):=by
 have up:ji (k+1) e.s:={hG.tokC.up with ticks:=hG.ticks}
 have hl:(frame (dU e.ch o)).length=16+(jE o).length:=by grind [lT,dU,iG]
 by_cases hg:(aS e.s o).2.2.2=0
 case neg=>exact⟨e,b,sy,_,Pw _ hd hg,hok,hd,acu,acu,up,.inl ⟨hg,rfl,rfl⟩⟩
 by_cases hr:b.length+16+(jE o).length≤n
 ·refine⟨_,_,_,_,GP (d:=⟨n,b,sy,0,false⟩) hd hg rfl rfl acv,⟨?_,hok.2.1,Nat.le_refl _,hok.2.2.2⟩,rfl,acD,by simp[ni],vU o hG,.inr (.inr ⟨hg,hr,rfl,rfl⟩)⟩
  grind
 ·exact⟨e,b,sy,_,GO (d:=⟨n,b,sy,0,false⟩) hd hg rfl acv,hok,hd,acu,acu,up,.inr (.inl ⟨hg,acu,rfl,rfl⟩)⟩
structure Ie (e:dW) (b:Txt):Prop where
 ok:GC e
 b:b=frames e.ps
 len:∀p∈e.ps,9≤p.length∧p.length≤5008
 log:e.log.length=e.ps.length
theorem CY:Ie (lE []) []:=⟨rfl,rfl,fun p hp=>(by cases hp),rfl⟩
theorem KR{n:Nat}{e:dW}{b:Txt}{sy:Nat}{o:OpD}(hd:e.down=false)(h64:nU o)(hw:Ie e b){e' :dW}{b' :Txt}{sy' :Nat}{R:gU}(he:doE e ⟨n,b,sy,0,false⟩ o=(e',⟨n,b',sy',0,false⟩,R)):
  Ie e' b'∧(e'.ps=e.ps∨dG o=true∧e'.ps=e.ps++ [dU e.ch o])∧(sy=b.length→sy' =b'.length):=by
 have stay:e' =e→b' =b→sy' =sy→Ie e' b'∧(e'.ps=e.ps∨dG o=true∧e'.ps=e.ps++ [dU e.ch o])∧(sy=b.length→sy' =b'.length):=fun h1 h2 h3=>by
  subst h1 h2 h3;exact⟨hw,.inl rfl,fun h=>h⟩
 have hl:(frame (dU e.ch o)).length=16+(jE o).length:=by grind [lT,dU,iG]
 by_cases hg:(aS e.s o).2.2.2=0
 case neg=>
  rw[Pw _ hd hg]at he;injection he with h1 h2
  injection h2 with h2 _
  injection h2 with _ h3 h4
  exact stay h1.symm h3.symm h4.symm
 by_cases hr:b.length+16+(jE o).length≤n
 ·rw[GP (d:=⟨n,b,sy,0,false⟩) hd hg rfl rfl acv]at he
  injection he with h1 h2
  injection h2 with h2 _
  injection h2 with _ h3 h4
  subst h1 h3 h4;have hrl:=tZ (h:=e.ch) (qu (jj hg));refine⟨⟨Q5 hw.ok hg h64,?_,?_,?_⟩,.inr ⟨jj hg,rfl⟩,fun _=>rfl⟩
  ·show b++frame _=frames (e.ps++ [_])
   rw[vR,hw.b]
  ·intro p hp
   rcases List.mem_append.1 hp with hp|hp
   ·exact hw.len p hp
   grind
  ·simp[ni,hw.log]
 ·rw[GO (d:=⟨n,b,sy,0,false⟩) hd hg rfl acv]at he
  injection he with h1 h2
  injection h2 with h2 _
  injection h2 with _ h3 h4
  exact stay h1.symm h3.symm h4.symm
end Go.Bf
namespace Go.Proofs.YtcochaoekecfdaaGreatDoor
open Go Go.Ab Go.Bf
theorem Mx(y:dW){n:Nat}{B:Txt}(hW:Ie y B)(hdn:y.down=false)(hps:y.ps.length≤900)(d:D)(hdo:d.ok)(hop:d.bZ=(⟨n,B,B.length,0,false⟩,0))(hsc:(scan d.b).1=y.ps)(did:Nat)(g H:Heap)(hdk:bR H did d)(hs:Ab.Sub g H)(hn:g did=none)(her:jC g):
  ai Tryz.prog 14 [.ptr did 0] H fun r H' =>∃x jid spl spj,r= .tup [.ptr x 0,.i 0]∧uq g H' x jid did y ⟨n,B,B.length,0,false⟩ spl spj∧Keep did H H'∧(∀i∈x::jid::(spl++spj),H i=none):=
 (My d hdo did H hdk (her.sub hs) acv).mono fun r H' ⟨h1,h2,h3⟩=>by
  have hok:=D.LY hdo;rw[hop]at h1 h3 hok;unfold uu at h3;have hy:vl y.ps=some y:=by
   have:=hW.ok;rw[this];obtain⟨_,_,_,_,_⟩:=y;cases hdn;rfl
  rw[hsc,hy]at h3;obtain⟨x,jid,spl,spj,a,b,c⟩:=h3;exact⟨x,jid,spl,spj,a,⟨b,h1,hok,Ex hs h2 hn,fun i hi=>by
   simp only[List.mem_cons]at hi c;rcases hi with rfl|rfl|hi
   ·exact hs.none (c _ (.inl rfl))
   ·omega
   ·exact hs.none (c _ (.inr hi))⟩,h2,c⟩
theorem Gl(q:Nat)(hq:q≤1048576)(did:Nat)(h0 h:Heap)(hdk:bR h did ⟨q,[],0,0,false⟩)(hs:Ab.Sub h0 h)(hn:h0 did=none)(her:jC h0):
  ai Tryz.prog 14 [.ptr did 0] h fun r h' =>∃x jid spl spj,r= .tup [.ptr x 0,.i 0]∧uq h0 h' x jid did (lE []) ⟨q,[],0,0,false⟩ spl spj∧Keep did h h'∧(∀i∈x::jid::(spl++spj),h i=none):=
 Mx (lE []) CY rfl acz ⟨q,[],0,0,false⟩ ⟨Nat.zero_le _,hq,Nat.zero_le _,(by decide:(0:Nat)<9223372036854775808)⟩ acK (by rw[Mt];rfl) did h0 h hdk hs hn her
end Go.Proofs.YtcochaoekecfdaaGreatDoor
namespace Go.Bf
open Go Go.Ab Go.Proofs.YtcochaoekecfdaaGreatDoor
def JL:List Txt:=[[97,110,110,32,110,101,119,32,99],[97,110,110,32,119,114,105,116,101,32,99,32,120,32,45,53],[98,111,98,32,114,101,97,100,32,99,32,120],[97,110,110,32,109,111,118,101,32,99,32,100,111,110,101],[120],[97,110,110,32,112,111,108,105,99,121,32,112,111,108,105,99,121,32,112,32,100,101,110,121,117,110,108,101,115,115,32,123,32,125],[98,111,98,32,114,101,97,100,32,99,32,120],[97,110,110,32,112,111,108,105,99,121,32,120]]
def Mv:List Txt:=[[111,107],[111,107],[111,107,32,45,53],[101,114,114,111,114,32,49,51],[119,104,97,116],[111,107],[100,101,110,105,101,100,32,68,101,110,121],[101,114,114,111,114,32,53]]
def OL:Nat→Option OpD
 |0=>some ⟨1,[97,110,110],[99],[],[],aq,0,[],[],false⟩
 |1=>some ⟨3,[97,110,110],[99],[120],[],⟨2, -5,[]⟩,0,[],[],false⟩
 |2|6=>some ⟨2,[98,111,98],[99],[120],[],aq,0,[],[],false⟩
 |3=>some ⟨4,[97,110,110],[99],[],[100,111,110,101],aq,0,[],[],false⟩
 |5=>some ⟨7,[97,110,110],[],[],[],aq,0,[112,111,108,105,99,121,32,112,32,100,101,110,121,117,110,108,101,115,115,32,123,32,125],[],false⟩
 |7=>some ⟨7,[97,110,110],[],[],[],aq,0,[120],[],false⟩
 |_=>none
def zi:Nat→an
 |0=>yM
 |i+1=>match OL i with|none=>zi i|some o=>(aS (zi i) o).1
def UL(i:Nat):Prop:=qG (JL.getD i [])=OL i∧match OL i with
 |none=>Mv.getD i []= [119,104,97,116]
 |some o=>gK (aS (zi i) o).2.1=Mv.getD i []∧nU o∧(jE o).length≤300∧xA (aS (zi i) o).2.1
theorem kr(r:gU)(h:(decide (M9 r.mark) && decide (-1000≤r.err) && decide (r.err≤1000) && decide (-1000≤r.at_) && decide (r.at_≤1000) && decide (-1000≤r.val.n) && decide (r.val.n≤1000))=true):xA r:=by
 simp only[Bool.and_eq_true,decide_eq_true_eq]at h;obtain⟨⟨⟨⟨⟨⟨h1,h2⟩,h3⟩,h4⟩,h5⟩,h6⟩,h7⟩:=h;exact⟨h1,⟨acu,acu⟩,⟨acu,acu⟩,⟨acu,acu⟩⟩
theorem oY(o:OpD)(h:(decide (-1000≤o.kind) && decide (o.kind≤1000) && decide (-1000≤o.val.kind) && decide (o.val.kind≤1000) && decide (-1000≤o.val.n) && decide (o.val.n≤1000) && decide (-1000≤o.review) && decide (o.review≤1000))=true):nU o:=by
 simp only[Bool.and_eq_true,decide_eq_true_eq]at h;obtain⟨⟨⟨⟨⟨⟨⟨h1,h2⟩,h3⟩,h4⟩,h5⟩,h6⟩,h7⟩,h8⟩:=h;exact⟨⟨acu,acu⟩,⟨acu,acu⟩,⟨acu,acu⟩,⟨acu,acu⟩⟩
theorem RN:∀i,i<8→UL i
 |0,_=>⟨acw,acw,oY _ acw,ach acw,kr _ acw⟩
 |1,_=>⟨acw,acw,oY _ acw,ach acw,kr _ acw⟩
 |2,_=>⟨acw,acw,oY _ acw,ach acw,kr _ acw⟩
 |3,_=>⟨acw,acw,oY _ acw,ach acw,kr _ acw⟩
 |4,_=>⟨acK,acK⟩
 |5,_=>⟨acw,acw,oY _ acw,ach acw,kr _ acw⟩
 |6,_=>⟨acw,acw,oY _ acw,ach acw,kr _ acw⟩
 |7,_=>⟨acw,acw,oY _ acw,ach acw,kr _ acw⟩
 |n+8,h=>absurd h acu
end Go.Bf
namespace Go.Proofs.YtcochaoekecfdaaGreatDoor
open Go Go.Ab Go.Bf
theorem Lb(n:Nat)(hn:n≤1048576)(h0 h:Heap)(hs:Ab.Sub h0 h)(her:jC h0):ai Tryz.prog 40 [.i n] h fun r h' =>∃x jid did spl spj,r= .ptr x 0∧uq h0 h' x jid did (lE []) ⟨n,[],0,0,false⟩ spl spj∧Ab.Sub h h' :=by
 refine acs Tryz.func40 26 [.tmp 2] fun hwf=>?_
 simp -implicitDefEqProofs only[go_sem];refine(KP n hn h).mono fun r h1 ⟨did,hd,er,hdk,s1⟩=>?_
 subst er;simp -implicitDefEqProofs only[go_sem];refine(Gl n hn did h0 h1 hdk (hs.trans s1) (hs.none hd) her).mono fun r h2 ⟨x,jid,spl,spj,er,w,hK,hnew⟩=>?_
 subst er;simp -implicitDefEqProofs only[go_sem];exact .same (.refl _) ⟨x,jid,did,spl,spj,rfl,w,Ex s1 hK hd⟩
def Qt(g:Heap)(x:Nat)(i:Nat)(h:Heap):Prop:=∃jid did spl spj e b sy,uq g h x jid did e ⟨10000,b,sy,0,false⟩ spl spj∧Ie e b∧e.down=false∧ji i e.s∧e.s=zi i∧b.length≤316*i∧e.ps.length≤i
theorem Df{s:an}{o:OpD}(h:(aS s o).2.2.2≠0):(aS s o).1=s:=by
 unfold aS at h⊢;split
 ·rfl
 ·rename_i h1
  rw[if_neg h1]at h;split
  ·rfl
  ·rename_i h2
   rw[if_neg h2]at h;exact(h rfl).elim
theorem OM:∀i,i<8→(JL.getD i []).length≤900000:=acz
theorem El(g h:Heap)(her:jC g)(ht:Cw g)(x i:Nat)(hi:i<8)(hp:Qt g x i h):ai Tryz.prog 41 [.ptr x 0,.s (JL.getD i [])] h fun r h' =>r= .s (Mv.getD i [])∧Qt g x (i+1) h'∧Ab.Sub g h' :=by
 obtain⟨jid,did,spl,spj,e,b,sy,w,hW,hdn,hG,es,hb,hp⟩:=hp;have hl:=OM i hi;have hlg:=hW.log;obtain⟨h1,h2⟩:=RN i hi;generalize JL.getD i []=s at h1 hl⊢;cases eo:OL i with
 |none=>
  rw[eo]at h1 h2;simp only at h2;have el:pO e ⟨10000,b,sy,0,false⟩ s=(e,⟨10000,b,sy,0,false⟩,[119,104,97,116]):=by unfold pO;rw[h1]
  refine(w.line s hl acu acu hG acu her ht (fun o e=>acv) (by rw[el];exact w.ok) (fun o e=>acv)).mono fun r h' ⟨er,spl',spj',w',_,_⟩=>?_
  rw[el]at w' er;refine⟨by rw[er,h2],⟨jid,did,spl',spj',e,b,sy,w',hW,hdn,{hG.tokC.up with ticks:=hG.ticks},?_,acu,acu⟩,w'.sub⟩
  rw[es,zi,eo]
 |some o=>
  rw[eo]at h1 h2;simp only at h2;obtain⟨h3,h64,hpl,hrt⟩:=h2;obtain⟨e',b',sy',RR,ed,hok,hdn',hps',hlg',hG',hways⟩:=NK o hdn hG w.ok;obtain⟨hW',hp',hy'⟩:=KR hdn h64 hW ed;have el:pO e ⟨10000,b,sy,0,false⟩ s=(e',⟨10000,b',sy',0,false⟩,gK RR):=by unfold pO;rw[h1];simp only[ed]
  have en:zi (i+1)=(aS (zi i) o).1:=by rw[zi,eo]
  have hR:RR=(aS (zi i) o).2.1∧e'.s=zi (i+1):=by
   rw[en,←es];rcases hways with⟨a,b1,c⟩|⟨a,b1,c⟩|⟨a,b1,c,d⟩
   ·exact⟨b1,by rw[c,Df a]⟩
   ·omega
   ·exact⟨c,by rw[d];rfl⟩
  have hbl:b'.length≤316*(i+1):=by
   have e1:=hW.b;have e2:=hW'.b;have hl:(frame (dU e.ch o)).length=16+(jE o).length:=by grind [lT,dU,iG]
   rcases hp' with e3|⟨_,e3⟩
   ·rw[e2,e3,←e1];omega
   ·rw[e2,e3,vR,acn,←e1,hl]
    omega
  refine(w.line s hl acu acu hG acu her ht (fun o e=>acv) (by rw[el];exact hok) (fun o' e2=>?_)).mono fun r h' ⟨er,spl',spj',w',_,_⟩=>?_
  ·have:o' =o:=by grind
   rw[this,ed]
   show xA RR
   rw[hR.1];exact hrt
  rw[el]at w' er;exact⟨by rw[er,hR.1,h3],⟨jid,did,spl',spj',e',b',sy',w',hW',hdn',hG',hR.2,hbl,acu⟩,w'.sub⟩
theorem zY(h:Heap)(he:jC h)(ht:Cw h):ai Tryz.prog 9 [] h fun r h' =>r= .b true∧h' =h:=
 ai.freeze fun g hgs _=>by
 have he:=he.sub hgs;have ht:=ht.sub hgs;refine acs Tryz.func9 30 [.tmp 0] fun hwf=>?_
 simp -implicitDefEqProofs only[go_sem];refine(show ai Tryz.prog _ [.i 10000] _ _ from(Lb 10000 acz g g (.refl _) he).mono fun r h1 ⟨x,jid,did,spl,spj,er,w,s1⟩=>?_)
 subst er;have hc:∀ρ:Env,ev ρ (.const (.string ⟨#[97,110,110,32,112,111,108,105,99,121,32,112,111,108,105,99,121,32,112,32,100,101,110,121,117,110,108,101,115,115,32,123,32,125]⟩))=some (.s [97,110,110,32,112,111,108,105,99,121,32,112,111,108,105,99,121,32,112,32,100,101,110,121,117,110,108,101,115,115,32,123,32,125]):=fun ρ=>IE acz
 simp -implicitDefEqProofs only[go_sem,hc];obtain⟨L,eL⟩:∃L,(JL.take 7).map AV.s=L:=⟨_,rfl⟩;obtain⟨W,eW⟩:∃W,(Mv.take 7).map AV.s=W:=⟨_,rfl⟩;have lL:L.length=7:=by rw[←eL];rfl
 have lW:W.length=7:=by rw[←eW];rfl
 refine .intro (fun m ρ H=>∃i:Nat,Qt g x i H∧Ab.Sub g H∧i≤7∧m=7 - i∧lk ρ 1=some (.ptr x 0)∧lk ρ 2=some (.sl L .full)∧lk ρ 3=some (.sl W .full)∧lk ρ 11=some (.i 7)∧lk ρ 12=some (.i i)) 7 ?_ ?_
 ·refine⟨0,⟨jid,did,spl,spj,_,_,_,w,CY,rfl,yf,rfl,Nat.zero_le _,Nat.zero_le _⟩,s1,acu,rfl,?_,?_,?_,?_,?_⟩
  ·simp -implicitDefEqProofs only[go_sem]
  ·subst eL;simp -implicitDefEqProofs only[go_sem];rfl
  ·subst eW;simp -implicitDefEqProofs only[go_sem];rfl
  ·simp -implicitDefEqProofs only[go_sem]
  ·simp -implicitDefEqProofs only[go_sem]
 rintro m ρ H ⟨i,hP,hs,hi,rfl,r1,r2,r3,r11,r12⟩
 by_cases hc:i<7
 ·have d1:decide ((i:Int)<7)=true:=decide_eq_true acu
  have w1:IntKind.i64.wrap ((i:Int)+1)=((i+1:Nat):Int):=acI;have gL:∀h:i<L.length,L[i]= .s (JL.getD i []):=fun h=>by subst eL;simp[List.getD_eq_getElem?_getD];grind
  have gW:∀h:i<W.length,W[i]= .s (Mv.getD i []):=fun h=>by subst eW;simp[List.getD_eq_getElem?_getD];grind
  simp -implicitDefEqProofs only[go_sem,r1,r2,r3,r11,r12,d1];refine .calls cL [0,1,2,3,4,6,7,8,9,5,10] (fun _ _ e=>acV) acw rfl ?_
  have ixL:=fun K=>fA.eq (xs:=L) (sz:=1) i acu (by rw[gL];rfl) K
  have ixW:=fun K=>fA.eq (xs:=W) (sz:=1) i acu (by rw[gW];rfl) K
  simp only[gL acu]at ixL;simp only[gW acu]at ixW;simp -implicitDefEqProofs only[go_sem,r1,r2,r3,r11,r12,d1,ixL,ixW];refine(El g H he ht x i acu hP).mono fun r H2 ⟨er,hP2,hs2⟩=>?_
  subst er;refine⟨fun _ _ e=>acV,?_⟩
  simp -implicitDefEqProofs only[go_sem,r1,r2,r3,r11,r12,w1,bne_self_eq_false];exact⟨7 - (i+1),acu,i+1,hP2,hs2,acu,rfl,by simp -implicitDefEqProofs only[go_sem,r1],acW,by simp -implicitDefEqProofs only[go_sem,r3],by simp -implicitDefEqProofs only[go_sem,r11],ac5⟩
 ·have:i=7:=by omega
  subst this;have d1:decide ((7:Int)<7)=false:=acK;simp only[Int.cast_ofNat_Int]at r12;simp -implicitDefEqProofs only[go_sem,r1,r2,r3,r11,r12,d1];refine(show ai Tryz.prog _ [.ptr x 0,.s [97,110,110,32,112,111,108,105,99,121,32,120]] _ _ from(El g H he ht x 7 acu hP).mono fun r H2 ⟨er,hP2,hs2⟩=>?_)
  subst er;simp -implicitDefEqProofs only[go_sem];exact .same (.refl _) ⟨hs2,_,.pure rfl,rfl⟩
theorem zj(ev:Value)(hev:ev= .nilIface∨∃te pe,ev= .iface te pe):ai Tryz.prog 9 [] (xb [(3,yX),(2,[ev])]) fun r _=>r= .b true:=(zY _ (JT hev) ⟨0,rfl⟩).mono fun _ _ h=>h.1
end Go.Proofs.YtcochaoekecfdaaGreatDoor
