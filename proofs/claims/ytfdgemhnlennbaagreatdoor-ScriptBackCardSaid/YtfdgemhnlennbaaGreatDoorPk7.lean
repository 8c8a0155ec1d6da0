/- The law ScriptForm,ScriptWhat,ScriptBack: pack 7 of its texts. -/
import Derived.Lib.ItoaMem
import Derived.Test.YtfdgemhnlennbaaGreatDoorPk1
import Derived.Test.YtfdgemhnlennbaaGreatDoorPk2
import Derived.Test.YtfdgemhnlennbaaGreatDoorPk3
import Derived.Test.YtfdgemhnlennbaaGreatDoorPk4
import Derived.Test.YtfdgemhnlennbaaGreatDoorPk5
import Derived.Test.YtfdgemhnlennbaaGreatDoorPk6
set_option linter.unusedSimpArgs false
set_option linter.unusedVariables false
set_option maxRecDepth 100000
namespace Go.Proofs.YtfdgemhnlennbaaGreatDoor
open Go Go.Ab Go.Bf
theorem bS.touch{h h' :Heap}{id:Nat}{d:D}{S:List Nat}(hd:bS h id d)(ht:Touch S h h')(hS:∀i∈S,∀cs,h i≠some (.obj cs 87)∧h i≠some (.obj cs 5)):bS h' id d:=by
 obtain⟨y,hy,hb⟩:=hd;refine⟨y,ht _ _ adL hy,?_⟩;rcases hb with hb|⟨j,off,cs2,rfl,a1,a2,a3⟩
 ·exact ahI
 ·exact .oa (ht _ _ adL a1) a2 a3
theorem R0(x jid did:Nat)(e:dV)(d:D)(spl spj:List Nat)(o:OpD)(h:Heap)(he:ko h x jid did e spl spj)(hdk:bS h did d)(hdo:d.ok)(hps:e.ps.length≤1000000)(hlg:e.log.length≤1000000)(hd:e.down=false){k:Nat}(hG:jw k e.s)(hk:k≤1000)(h64:mO o)(her:ja h)(hne:(aT e.s o).2.2.2=0)(hcode:(jadd d e.ps false (dY e.ch o)).2=0):
  ai Tryz.prog 10 [.ptr x 0,opA o] h fun r h' =>r= .agg (mb (doE e d o).2.2)∧∃spl' spj',ko h' x jid did (doE e d o).1 spl' spj'∧bS h' did (doE e d o).2.1∧Touch (x::did::jid::(spl++spj)) h h'∧(∀i∈spl',i∈spl∨i∈spj∨h i=none)∧(∀i∈spj',i∈spj∨h i=none):=by
 have hF:=mW (jy hne);have hrl:=uA (h:=e.ch) hF;have hpl:=CH hF;have edo:doE e d o=(let a:=jadd d e.ps false (dY e.ch o);if a.2=0 then({nQ e (aT e.s o) (dY e.ch o)with ps:=a.1.2.1,down:=a.1.2.2},a.1.1,(aT e.s o).2.1)else({e with ps:=a.1.2.1,down:=a.1.2.2},a.1.1,Du (a.2:Int))):=by
  exact ajz
 have hgd:=fun(G:Heap) (hG' :Ab.Sub h G)=>pE e.s hG hk o h64 G (her.sub hG')
 have he0:=he;obtain⟨yl,hx,hg,hj⟩:=he;obtain⟨a1,a2,a3,a4,a5,a6,a7,es⟩:=cQ e.s;have g:=hx;unfold mo at g;rw[es]at g;simp only[List.cons_append,List.nil_append]at g;refine adJ Tryz.func10 53 [.cell 4 35] fun hwf=>?_
 simp -implicitDefEqProofs only[go_sem,opA,opC];intro i1 h1;have x1:i1≠x:=fun e=>agB
 simp -implicitDefEqProofs only[go_sem];intro i2 h2;have n2:=aB h2;have x2:i2≠x:=fun e=>agC
 have n21:=aH h2;generalize hH:upd (upd h i1 _) i2 _=H;have kx:H x=_:=(by rw[←hH,ag _ _ (Ne.symm x2),ag _ _ (Ne.symm x1)]:H x=h x).trans g
 have k2:H i2=some (.obj oh 35):=afG;have k1:H i1=some (.obj (opC o) 39):=ae0;have hsub:Ab.Sub h H:=aen;clear hH g;unfold oh at k2;simp -implicitDefEqProofs only[go_sem,kx];refine(xB jid did e.ps e.down spj H (hj.sub hsub)).pthen ?_;rw[hd];generalize aT e.s o=gd at hgd hne edo⊢;obtain⟨S,R,D,E⟩:=gd;simp only at hne edo⊢;subst hne;obtain⟨b1,b2,b3,b4,b5,b6,b7,es2⟩:=cQ S;rw[pG,show cO e.s= .agg (jE e.s)from rfl,es,show cO S= .agg (jE S)from rfl,es2]at hgd
 simp only[opA,opC]at hgd;unfold opC at k1;simp -implicitDefEqProofs only[go_sem];refine .tree _ (.quiet [0,1,2,3,4] 5 (.news [6,7,8,9,10] [11,12,13] (.seq [14,15,16,17]))) (.refl _) adN rfl ?_;simp -implicitDefEqProofs only[go_sem,kx,k1];refine⟨_,fun G hs=>hgd G (hsub.trans hs),?_⟩
 simp -implicitDefEqProofs only[go_sem];refine⟨.refl _,adR,?_⟩;intro jd hjd je hje jf hjf;have ned:=aH hje;have kje:=aB hje;have nfe:=aH hjf;have nfd:=aH (aB hjf);have kjf:=aB (aB hjf);simp -implicitDefEqProofs only[go_sem,ak,ned,ned.symm,nfe,nfe.symm,nfd,nfd.symm];refine⟨adW,adW,adW,?_⟩;have mjd:=hsub.none hjd;have mje:=hsub.none kje;have mjf:=hsub.none kjf;have j2:jd≠i2:=fun e=>ahl
 have j2e:je≠i2:=fun e=>ahm
 have j2f:jf≠i2:=fun e=>ahn
 refine HH fun H2 w2=>?_
 have xjd:jd≠x:=fun e=>ahp
 have xje:je≠x:=fun e=>ahq
 have xjf:jf≠x:=fun e=>ahr
 have y1:jd≠i1:=fun e=>by rw[e,k1]at hjd;cases hjd
 have y2:je≠i1:=fun e=>by rw[e,k1]at kje;cases kje
 have y3:jf≠i1:=fun e=>by rw[e,k1]at kjf;cases kjf
 have hs2:Ab.Sub h H2:=afE;have fx:H2 x=_:=(by rw[w2];simp only[ak,xjd,xjd.symm,xje,xje.symm,xjf,xjf.symm,ne_eq,not_false_eq_true]:H2 x=H x).trans kx
 have f1:H2 i1=_:=(by rw[w2];simp only[ak,y1,y1.symm,y2,y2.symm,y3,y3.symm,ne_eq,not_false_eq_true]:H2 i1=H i1).trans k1
 have f2:H2 i2=_:=(by rw[w2];simp only[ak,j2,j2.symm,j2e,j2e.symm,j2f,j2f.symm,ne_eq,not_false_eq_true]:H2 i2=H i2).trans k2
 have fd:H2 jd=some (.obj [.i S.tick,gm S.cases,kE S.reviews,lH S.notices,dZ S.roles,b1,b2,b3,b4,b5,b6,b7,.i S.version] 63):=ad5;have fe:H2 je=some (.obj [.i R.err,.v (.complex .f64 (hbit R.mark.1) (hbit R.mark.2)),.b R.glass,.i R.val.kind,.i R.val.n,.s R.val.s,.b R.hidden,.i R.at_] 35):=ad5;have ff:H2 jf=some (.obj (yj D) 68):=aeA;clear w2;refine .quiet adN ?_;simp -implicitDefEqProofs only[go_sem,fx,f1];refine⟨_,GK e.ch o h64 (f_l hF) adK _,?_⟩;simp -implicitDefEqProofs only[go_sem,fx];refine(H7 d hdo did jid e.ps e.down spj H2 _ (dY e.ch o) (hdk.keep hs2.gh) (hj.sub hs2) (.sl _ _) adK hps).mono fun r H3 ⟨er,spj',hd3,hj3,hT3,hs3⟩=>?_
 subst er;have hin:∀q∈did::jid::spj,∃b,h q=some b∧∀cs,b≠ .obj cs 92:=fun q hq=>by
  exact aio
 have out:∀q,h q=none→q∉did::jid::spj:=fun q hq hi=>by
  obtain⟨b,hb,_⟩:=hin q hi;rw[hq]at hb;cases hb
 have outx:x∉did::jid::spj:=fun hi=>by
  exact ajF
 have fx3:=hT3 _ _ outx fx;have f23:=hT3 _ _ (out i2 n2) f2;have fd3:=hT3 _ _ (out jd mjd) fd;have fe3:=hT3 _ _ (out je mje) fe;have ff3:=hT3 _ _ (out jf mjf) ff;rw[hd]at hd3 hj3⊢;generalize jadd d e.ps false (dY e.ch o)=a at hd3 hj3 edo hcode⊢;obtain⟨⟨d2,ps2,dn2⟩,code⟩:=a;simp only at hd3 hj3 edo hcode⊢;subst hcode;rw[if_pos rfl]at edo;simp only[yj,opC,List.cons_append,List.nil_append]at ff3;have hsp:∀i∈spl,i∉did::jid::spj:=fun i hi hq=>by
  exact aim
 have hg3:=(hg.touch (S:=[]) (.of hs2) (fun i hi hh=>ae9)).touch hT3 hsp
 have hx3:H3 x=some (mo jid e yl):=by rw[fx3];unfold mo;rw[es];rfl
 have hgo:=HT e S D (dY e.ch o) .no jid x yl spl H3 hx3 hg3 hlg adK;rw[show cO S= .agg (jE S)from rfl,es2]at hgo
 simp only[yj,opC,List.cons_append,List.nil_append]at hgo;simp -implicitDefEqProofs only[go_sem,fd3,ff3];refine hgo.mono fun r H4 ⟨er,yl',spl',hx4,hg4,hT4,hs4⟩=>?_
 subst er;have hnl:∀q,h q=none→q∉x::spl:=fun q hq hh=>by
  rcases List.mem_cons.1 hh with rfl|hh
  ·rw[hx]at hq;cases hq
  ·obtain⟨n,hn⟩:=hg.has q hh
   rw[hn]at hq;cases hq
 have fe4:=hT4 _ _ (hnl je mje) fe3;have f24:=hT4 _ _ (hnl i2 n2) f23;simp -implicitDefEqProofs only[go_sem,fe4,f24,ah];have hF4:∀b,Touch [i2] H4 (upd H4 i2 b):=fun b=> .upd
 have hj3' :=hj3;obtain⟨z,zs,hz1,hz2,_⟩:=hj3';have jx:jid∉x::spl:=fun hh=>by
  exact ai0
 have sx:∀i∈spj',i∉x::spl:=fun i hi hh=>by
  obtain⟨n,hn⟩:=hz2.has i hi;rcases List.mem_cons.1 hh with rfl|hh
  ·rw[hx3]at hn;cases hn
  ·obtain⟨n2,hn2⟩:=hg3.has i hh
   rw[hn2]at hn;cases hn
 have hj4:=hj3.touch hT4 jx sx;have hj4' :=hj4;obtain⟨z4,zs4,hz41,hz42,_⟩:=hj4';have hd4:=hd3.touch hT4 (fun i hi cs=>by
  rcases List.mem_cons.1 hi with rfl|hi
  ·rw[hx3];exact⟨fun hh=>ae9,fun hh=>ae9⟩
  ·obtain⟨n,hn⟩:=hg3.has i hi
   rw[hn];exact⟨fun hh=>ae9,fun hh=>ae9⟩)
 refine .same (.refl _) ⟨by rw[edo];rfl,spl',spj',?_,?_,?_,fun i hi=>?_,fun i hi=>?_⟩
 ·rw[edo]
  refine⟨yl',?_,hg4.touch (hF4 _) ?_,hj4.touch (hF4 _) ?_ ?_⟩
  ·rw[ag _ _ (Ne.symm x2),hx4]
   unfold mo;simp only[nQ]
  ·intro i hi hh
   obtain⟨n,hn⟩:=hg4.has i hi;rw[List.mem_singleton.1 hh,f24]at hn;cases hn
  ·intro hh
   rw[List.mem_singleton.1 hh,f24]at hz41;cases hz41
  ·intro i hi hh
   obtain⟨n,hn⟩:=hz42.has i hi;rw[List.mem_singleton.1 hh,f24]at hn;cases hn
 ·rw[edo]
  exact hd4.upd f24 adO adO
 ·exact((((Touch.of (S:=[]) hs2).trans hT3).trans hT4).trans (hF4 _)).mono (fun i hi=>by
   simp only[List.nil_append,List.mem_append,List.mem_cons,List.mem_singleton,List.not_mem_nil,or_false]at hi;rcases hi with((h3|h3|h3)|(h3|h3))|h3
   ·left;simp[h3]
   ·left;simp[h3]
   ·left;simp[h3]
   ·left;simp[h3]
   ·left;simp[h3]
   ·right;rw[h3];exact n2)
 ·rcases hs4 i hi with h3|h3
  ·exact .inl h3
  ·right
   cases hh:h i with
   |none=>exact .inr rfl
   |some b=>
    left
    by_cases hm3:i∈did::jid::spj
    ·simp only[List.mem_cons]at hm3
     rcases hm3 with rfl|rfl|hm3
     ·obtain⟨w,hw,_⟩:=hd3
      rw[hw]at h3;cases h3
     ·rw[hz1]at h3;cases h3
     ·exact hm3
    ·have:=hT3 _ _ hm3 (hs2 _ _ hh)
     rw[h3]at this;cases this
 ·rcases hs3 i hi with h3|h3
  ·exact .inl h3
  ·right;exact hs2.none h3
theorem U4(x jid did:Nat)(e:dV)(d:D)(spl spj:List Nat)(o:OpD)(h:Heap)(he:ko h x jid did e spl spj)(hdk:bS h did d)(hdo:d.ok)(hps:e.ps.length≤1000000)(hlg:e.log.length≤1000000){k:Nat}(hG:jw k e.s)(hk:k≤1000)(h64:mO o)(her:ja h):
  ai Tryz.prog 10 [.ptr x 0,opA o] h fun r h' =>r= .agg (mb (doE e d o).2.2)∧∃spl' spj',ko h' x jid did (doE e d o).1 spl' spj'∧bS h' did (doE e d o).2.1∧Touch (x::did::jid::(spl++spj)) h h'∧(∀i∈spl',i∈spl∨i∈spj∨h i=none)∧(∀i∈spj',i∈spj∨h i=none):=by
 have stay:∀R:ig,doE e d o=(e,d,R)→∀(r:AV) (h' :Heap),(r= .agg (mb R)∧h' =h)→r= .agg (mb (doE e d o).2.2)∧∃spl' spj',ko h' x jid did (doE e d o).1 spl' spj'∧bS h' did (doE e d o).2.1∧Touch (x::did::jid::(spl++spj)) h h'∧(∀i∈spl',i∈spl∨i∈spj∨h i=none)∧(∀i∈spj',i∈spj∨h i=none):=fun R ed r h' ⟨e1,e2⟩=>by
  subst e2;rw[ed];exact⟨e1,spl,spj,he,hdk,.refl _ _,fun i hi=> .inl hi,fun i hi=> .inl hi⟩
 cases hd:e.down
 case true=>
  exact(OH x jid did e spl spj o h he hd).mono (stay _ (by simp_all [doE,if_pos]))
 by_cases hne:(aT e.s o).2.2.2=0
 case neg=>
  exact(RZ x jid did e spl spj o h he hd hG hk h64 her hne).mono (stay _ (by
   simp_all [doE,if_neg,if_pos]))
 by_cases hcode:(jadd d e.ps false (dY e.ch o)).2=0
 ·exact R0 x jid did e d spl spj o h he hdk hdo hps hlg hd hG hk h64 her hne hcode
 ·exact(R1 x jid did e d spl spj o h he hdk hdo hps hlg hd hG hk h64 her hne hcode).mono fun r h' ⟨a,s1,s2,b,c,f,g,i⟩=>⟨a,s1,s2,b,c,f,fun q hq=>(g q hq).imp id .inr,i⟩
theorem UW{P:Program}{U:TypeId→TI}{n:Nat}{a b:Code}{ρ:Env}{h:Heap}{K:Exit→Env→Heap→Prop}{y:AV}(hh:∀H2,H2=h→jH P U n a b ρ H2 K y):jH P U n a b ρ h K y:=hh h rfl
theorem ja.touch{h h' :Heap}{S:List Nat}(he:ja h)(ht:Touch S h h')(hS:∀i∈S,∀b vs,h i≠some (.ro b vs)):ja h' :=by
 obtain⟨ev,hev,id,hi⟩:=he;exact⟨ev,hev,id,ht _ _ adL hi⟩
theorem F5{e:dV}{l:List Txt}{i:Nat}(hi:i<l.length){e1:dV}(h:mU e (l.take i)=some e1):mU e (l.take (i+1))=ny e1 l[i]:=by
 grind [List.take_succ_eq_append_getElem,sH]
theorem F4{e:dV}{l:List Txt}{i:Nat}(h:mU e (l.take i)=none):mU e l=none:=by
 rw[←List.take_append_drop i l];generalize l.take i=a at h⊢
 induction a generalizing e with
 |nil=>cases h
 |cons p a ih=>
  simp only[List.cons_append,mU]at h⊢
  grind
theorem PJ{e:dV}{p:Txt}{o:OpD}(h:jO e p=some o)(hl:p.length≤1000000):mO o:=by
 grind [jO,HS,List.length_drop]
def uW(h h' :Heap)(did:Nat)(ps:List Txt)(r:AV):Prop:=match vK ps with
 |none=>r= .tup [.v (.pointer none),.i 7]
 |some e=>∃x jid spl spj,r= .tup [.ptr x 0,.i 0]∧ko h' x jid did e spl spj∧(∀i∈x::jid::(spl++spj),h i=none)
theorem newL:jE zf= [.i 0,.sl [] .no,.sl [] .no,.sl [] .no,.sl [] .no,.s jN,.b false,.i 6,.sl [] .no,.sl [] .no,.sl [] .no,.sl [] .no,.i 0]:=rfl
theorem Ny(d:D)(hdo:d.ok)(did:Nat)(h:Heap)(hdk:bS h did d)(her:ja h)(hps:(scan d.b).1.length≤900):
  ai Tryz.prog 9 [.ptr did 0] h fun r h' =>bS h' did d.cc.1∧Keep did h h'∧if d.cc.2=0 then uW h h' did (scan d.b).1 r else r= .tup [.v (.pointer none),.i (d.cc.2:Nat)]:=by
 have hlen:=(PV d.b).2;refine adJ Tryz.func9 62 [.tmp 2,.tmp 3] fun hwf=>?_
 simp only[go_sem];refine(Ml d hdo did h hdk).mono fun r h1 ⟨J,e1,hd1,kp1,hif⟩=>?_
 subst e1;have her1:ja h1:=her.touch (.keep kp1) (fun i hi b vs hh=>by
  obtain⟨y,hy,_⟩:=hdk;rw[List.mem_singleton.1 hi,hy]at hh;cases hh)
 generalize (scan d.b).1=ps at hps hlen hif⊢;generalize d.cc=od at hd1 hif⊢;obtain⟨d1,c1⟩:=od;simp only at hd1 hif⊢
 by_cases hc:c1=0
 case neg=>
  rw[if_neg hc]at hif;subst hif;have t1:(((c1:Nat):Int) !=0)=true:=by simp[hc]
  simp only[go_sem,t1];exact .same (.refl _) ⟨hd1,kp1,by rw[if_neg hc];rfl⟩
 subst hc;rw[if_pos rfl]at hif;obtain⟨jid,spj,rfl,hjn,hj,hsn⟩:=hif;simp only[go_sem];refine(SG h1 her1).pthen ?_;rw[show cO zf= .agg (jE zf)from rfl,newL]
 simp only[go_sem];intro x hx;have hxh:h x=none:=by
  cases hh:h x with
  |none=>rfl
  |some k=>
   by_cases e:x=did
   ·subst e
    obtain⟨y,hy,_⟩:=hd1;rw[hy]at hx;cases hx
   ·rw[kp1 _ _ e hh]at hx;cases hx
 simp only[go_sem];refine inH fun H1 w1=>?_
 have hs1:Ab.Sub h1 H1:=by rw[w1];exact(Sub.refl h1).new hx _
 have hE1:ko H1 x jid did (iZ ps) [] spj:=⟨_,by rw[w1,ah];rfl,.inl ⟨rfl,rfl,rfl⟩,hj.sub hs1⟩
 clear w1;have hK1:Keep did h H1:=kp1.trans (hs1.keep did);refine(zD jid did ps false spj H1 (hj.sub hs1) adK (fun p hp=>by have:=hlen p hp;omega)).mono fun r h2 ⟨q,er,hs2⟩=>?_
 subst er;simp only[go_sem,adA];refine .intro (fun m ρ H=>∃(i:Nat) (e:dV) (spl:List Nat),mU (iZ ps) (ps.take i)=some e∧e.ps=ps∧e.down=false∧e.log.length=i∧jw i e.s∧ko H x jid did e spl spj∧bS H did d1∧Keep did h H∧(∀j∈spl,h j=none)∧i≤ps.length∧m=ps.length - i∧lk ρ 6=some (.ptr x 0)∧lk ρ 28=some (.sl (ps.map mB) q)∧lk ρ 29=some (.i ps.length)∧lk ρ 30=some (.i i)) (ps.length - 0) ?_ ?_
 ·obtain⟨yl,a,b,c⟩:=hE1
  refine⟨0,iZ ps,[],rfl,rfl,rfl,rfl,sI,⟨yl,hs2 _ _ a,b.touch (S:=[]) (.of hs2) (fun i hi=>by cases hi),c.sub hs2⟩,(hd1.keep hs1.gh).keep hs2.gh,hK1.trans (hs2.keep did),fun j hj=>(by cases hj),adK,rfl,?_,?_,?_,?_⟩<;>simp only[go_sem]
 rintro m ρ H ⟨i,e,spl,hf,hps2,hdn,hlg,hG,hE,hD,hK,hsl,hi,rfl,r6,r28,r29,r30⟩
 by_cases hlt:i<ps.length
 case neg=>
  have ei:i=ps.length:=adK;have t1:decide ((i:Int)<(ps.length:Int))=false:=decide_eq_false adK;rw[ei,List.take_length]at hf;simp only[go_sem,r6,r28,r29,r30,t1];refine .same (.refl _) ⟨hD,hK,?_⟩
  show uW h H did ps (.tup [.ptr x 0,.i 0])
  unfold uW vK;rw[hf];exact⟨x,jid,spl,spj,rfl,hE,fun j hj=>by
   simp only[List.mem_cons,List.mem_append]at hj;rcases hj with rfl|rfl|hj|hj
   ·exact hxh
   ·exact hjn
   ·exact hsl _ hj
   ·exact(hsn _ hj).1⟩
 have t1:decide ((i:Int)<(ps.length:Int))=true:=decide_eq_true adK;have w3:=adG i adK;have ix:=fun k=>fo.eq (xs:=ps.map mB) (sz:=1) i aeb ad0 k
 have hf1:=F5 hlt hf;have hpl:=hlen _ (adF hlt);rw[adB]at ix;obtain⟨p,ep⟩:∃p,ps[i]=p:=⟨_,rfl⟩;rw[ep]at ix hf1 hpl;simp only[mB]at ix;have hEx:=hE;obtain⟨yl,hx2,hgl,hj2⟩:=hE;simp only[go_sem,r6,r28,r29,r30,t1,ix];refine(LX p .no e yl jid x H adK hx2).pthen ?_;unfold BF;have her2:ja H:=her.touch (.keep hK) (fun i hi b vs hh=>by
  obtain⟨y,hy,_⟩:=hdk;rw[List.mem_singleton.1 hi,hy]at hh;cases hh)
 have bad:∀H',Ab.Sub H H'→ny e p=none→bS H' did d1∧Keep did h H'∧uW h H' did ps (.tup [.v (.pointer none),.i 7]):=fun H' hs hn=>by
  refine⟨hD.keep hs.gh,hK.trans (hs.keep did),?_⟩;unfold uW vK;rw[F4 (hf1.trans hn)]
 cases hr:jO e p with
 |none=>
  have hn:ny e p=none:=by unfold ny;rw[hr]
  simp only[go_sem,hr,opA,opC,oS,an,Option.getD,Option.isSome];intro i9 h9;simp only[go_sem];exact .mk _ (.refl _) (.refl _) (bad _ ((Sub.refl H).new h9 _) hn)
 |some o=>
  have h64:=PJ hr adK;have hst:ny e p=if(aT e.s o).2.2.2=0 then some (nQ e (aT e.s o) p)else none:=by unfold ny;rw[hr]
  obtain⟨a1,a2,a3,a4,a5,a6,a7,es⟩:=cQ e.s;have hgd:=fun(G:Heap) (hG' :Ab.Sub H G)=>pE e.s hG adK o h64 G (her2.sub hG')
  have hG2:=wF o hG;have g:=hx2;unfold mo at g;rw[es]at g;simp only[List.cons_append,List.nil_append]at g;simp only[go_sem,hr,opA,opC,Option.getD,Option.isSome];intro i9 h9;have x9:i9≠x:=fun e=>by rw[e,hx2]at h9;cases h9
  simp only[go_sem];generalize hH:upd H i9 _=H1;have kx:H1 x=_:=(by rw[←hH,ag _ _ (Ne.symm x9)]:H1 x=H x).trans g
  have k9:H1 i9=some (.obj (opC o) 39):=afG;have hsub:Ab.Sub H H1:=by rw[←hH];exact(Sub.refl H).new h9 _
  clear hH g;generalize aT e.s o=gd at hgd hst hG2⊢;obtain⟨S,R,D,E⟩:=gd;simp only at hst hG2;obtain⟨b1,b2,b3,b4,b5,b6,b7,es2⟩:=cQ S;rw[pG,show cO e.s= .agg (jE e.s)from rfl,es,show cO S= .agg (jE S)from rfl,es2]at hgd
  simp only[opA,opC]at hgd;unfold opC at k9;refine .tree _ (.quiet [0,1,2,3,4] 5 (.news [6,7,8,9,10] [11,12,13] (.seq [14,15,16,17]))) (.refl _) adN rfl ?_;simp only[go_sem,r6,kx,k9];refine⟨_,fun G hs=>hgd G (hsub.trans hs),?_⟩
  simp only[go_sem];refine⟨.refl _,adR,?_⟩;intro jd hjd je hje jf hjf;have ned:=aH hje;have kje:=aB hje;have nfe:=aH hjf;have nfd:=aH (aB hjf);have kjf:=aB (aB hjf);simp only[go_sem,ak,ned,ned.symm,nfe,nfe.symm,nfd,nfd.symm];refine⟨adW,adW,adW,?_⟩;refine UW fun H2 w2=>?_
  have xjd:jd≠x:=fun e=>ahp
  have xje:je≠x:=fun e=>ahq
  have xjf:jf≠x:=fun e=>ahr
  have hs2:Ab.Sub H H2:=by
   have:=hsub.none hjd;have:=hsub.none kje;have:=hsub.none kjf;rw[w2];repeat (first|exact hsub|refine Ab.Sub.put ?_ adX _)
  have fx:H2 x=_:=(by rw[w2];simp only[ak,xjd,xjd.symm,xje,xje.symm,xjf,xjf.symm,ne_eq,not_false_eq_true]:H2 x=H1 x).trans kx
  have fd:H2 jd=some (.obj [.i S.tick,gm S.cases,kE S.reviews,lH S.notices,dZ S.roles,b1,b2,b3,b4,b5,b6,b7,.i S.version] 63):=by rw[w2];simp only[ak,ned,ned.symm,nfe,nfe.symm,nfd,nfd.symm,ah,ne_eq,not_false_eq_true]
  have ff:H2 jf=some (.obj (yj D) 68):=by rw[w2];simp only[ak,ned,ned.symm,nfe,nfe.symm,nfd,nfd.symm,ah,ne_eq,not_false_eq_true];rfl
  clear w2;simp only[yj,opC,List.cons_append,List.nil_append]at ff
  by_cases hE0:E=0
  case neg=>
   have t2:(E !=0)=true:=by simp[hE0]
   rw[if_neg hE0]at hst;simp only[go_sem,t2];exact .same (.refl _) (bad _ hs2 hst)
  subst hE0;rw[if_pos rfl]at hst;have hx3:H2 x=some (mo jid e yl):=by rw[fx];unfold mo;rw[es];rfl
  have hg3:=hgl.touch (S:=[]) (.of hs2) (fun i hi hh=>ae9)
  have hgo:=HT e S D p .no jid x yl spl H2 hx3 hg3 adK adK;rw[show cO S= .agg (jE S)from rfl,es2]at hgo
  simp only[yj,opC,List.cons_append,List.nil_append]at hgo;simp only[go_sem,r6,fd,ff];refine hgo.mono fun r H4 ⟨er,yl',spl',hx4,hg4,hT4,hs4⟩=>?_
  subst er;simp only[go_sem,r6,r28,r29,r30,w3];have hout:∀j∈x::spl,h j=none:=fun j hj=>by
   rcases List.mem_cons.1 hj with rfl|hj
   ·exact hxh
   ·exact hsl _ hj
  have hdid:h did≠none:=by
   obtain⟨y,hy,_⟩:=hdk;rw[hy];simp
  have hj3:=hj2.sub hs2;have hD2:=hD.keep hs2.gh;refine⟨_,?_,i+1,nQ e (S,R,D,0) p,spl',hf1.trans hst,hps2,hdn,?_,hG2,⟨yl',hx4,hg4,?_⟩,?_,?_,?_,adK,rfl,?_,?_,?_,?_⟩
  ·omega
  ·simp[nQ,hlg]
  ·refine hj3.touch hT4 ?_ ?_
   ·obtain⟨z,zs,hz1,_⟩:=hj3
    intro hh;exact ai0
   ·obtain⟨z,zs,_,hz2,_⟩:=hj3
    intro j hj hh;obtain⟨n,hn⟩:=hz2.has j hj;rcases List.mem_cons.1 hh with rfl|hh
    ·rw[hx3]at hn;cases hn
    ·obtain⟨n2,hn2⟩:=hg3.has j hh
     rw[hn2]at hn;cases hn
  ·exact hD2.touch hT4 (fun j hj cs=>by
    rcases List.mem_cons.1 hj with rfl|hj
    ·rw[hx3];exact⟨fun hh=>ae9,fun hh=>ae9⟩
    ·obtain⟨n,hn⟩:=hg3.has j hj
     rw[hn];exact⟨fun hh=>ae9,fun hh=>ae9⟩)
  ·intro j k hj hk
   exact hT4 _ _ (fun hh=>by rw[hout j hh]at hk;cases hk) (hs2 _ _ (hK _ _ hj hk))
  ·intro j hj
   rcases hs4 j hj with hh|hh
   ·exact hsl _ hh
   ·cases hk:h j with
    |none=>rfl
    |some k=>
     by_cases e1:j=did
     ·subst e1
      obtain⟨y,hy,_⟩:=hD2;rw[hy]at hh;cases hh
     ·rw[hs2 _ _ (hK _ _ e1 hk)]at hh;cases hh
  all_goals simp only[go_sem,r6,r28,r29]
theorem ko.sub{h h' :Heap}{x jid did:Nat}{e:dV}{spl spj:List Nat}(he:ko h x jid did e spl spj)(hs:Ab.Sub h h'):ko h' x jid did e spl spj:=by
 obtain⟨yl,a,b,c⟩:=he;exact⟨yl,hs _ _ a,b.touch (S:=[]) (.of hs) adR,c.sub hs⟩
end Go.Proofs.YtfdgemhnlennbaaGreatDoor
namespace Go.Bf
open Go Go.Ab Go.Proofs.YtfdgemhnlennbaaGreatDoor
def VK(e:dV)(o:OpD):dV:={nQ e (aT e.s o) (dY e.ch o)with ps:=e.ps++ [dY e.ch o],down:=false}
theorem QH{e:dV}(d:D){o:OpD}(h:e.down=false)(hg:(aT e.s o).2.2.2≠0):doE e d o=(e,d,(aT e.s o).2.1):=by
 simp_all [doE,if_neg,if_pos]
theorem U3{e:dV}{d d' :D}{o:OpD}{ps:List Txt}{dn:Bool}{c:Nat}(h:e.down=false)(hg:(aT e.s o).2.2.2=0)(hj:jadd d e.ps false (dY e.ch o)=((d',ps,dn),c)):
  doE e d o=if c=0 then({nQ e (aT e.s o) (dY e.ch o)with ps:=ps,down:=dn},d',(aT e.s o).2.1)else({e with ps:=ps,down:=dn},d',Du (c:Int)):=by
 simp_all [doE,if_neg]
theorem HG{e:dV}{d:D}{o:OpD}(h:e.down=false)(hg:(aT e.s o).2.2.2=0)(h1:d.off=false)(h2:d.f=0)(hr:d.b.length+(frame (dY e.ch o)).length≤d.q):
  doE e d o=({nQ e (aT e.s o) (dY e.ch o)with ps:=e.ps++ [dY e.ch o],down:=false},{d with b:=d.b++frame (dY e.ch o),sy:=(d.b++frame (dY e.ch o)).length},(aT e.s o).2.1):=by
 have hl:=uA (h:=e.ch) (mW (jy hg));rw[U3 h hg (VC h1 h2 adK adK hr),if_pos rfl]
theorem HF{e:dV}{d:D}{o:OpD}(h:e.down=false)(hg:(aT e.s o).2.2.2=0)(h1:d.off=false)(hr:d.q<d.b.length+(frame (dY e.ch o)).length):doE e d o=(e,d,Du 8):=by
 have hl:=uA (h:=e.ch) (mW (jy hg));rw[U3 h hg (Mk h1 adK adK hr),if_neg adO];obtain⟨_,_,_,_,dn⟩:=e;cases h;rfl
end Go.Bf
namespace Go.Proofs.YtfdgemhnlennbaaGreatDoor
open Go Go.Ab Go.Bf
theorem BM{h0 h h' :Heap}{S:List Nat}(hs:Ab.Sub h0 h)(ht:Touch S h h')(hn:∀i∈S,h0 i=none):Ab.Sub h0 h' :=fun j k hj=>ht j k adL (hs j k hj)
theorem E4{h0 h h' :Heap}{i:Nat}(hs:Ab.Sub h0 h)(ht:Keep i h h')(hn:h0 i=none):Ab.Sub h0 h' :=BM hs (.keep ht) adL
structure tq (h0 h:Heap) (x jid did:Nat) (e:dV) (d:D) (spl spj:List Nat):Prop where
 eng:ko h x jid did e spl spj
 disk:bS h did d
 ok:d.ok
 sub:Ab.Sub h0 h
 new:∀i∈x::did::jid::(spl++spj),h0 i=none
theorem tq.up{h0 h h' :Heap}{x jid did:Nat}{e:dV}{d:D}{spl spj:List Nat}(w:tq h0 h x jid did e d spl spj)(hs:Ab.Sub h h'):tq h0 h' x jid did e d spl spj:=
 ⟨w.eng.sub hs,w.disk.keep hs.gh,w.ok,w.sub.trans hs,w.new⟩
theorem tq.doS{h0 h:Heap}{x jid did:Nat}{e:dV}{d:D}{spl spj:List Nat}(w:tq h0 h x jid did e d spl spj)(o:OpD)(hps:e.ps.length≤1000000)(hlg:e.log.length≤1000000){k:Nat}(hG:jw k e.s)(hk:k≤1000)(h64:mO o)(her:ja h0)(hok:(doE e d o).2.1.ok):
  ai Tryz.prog 10 [.ptr x 0,opA o] h fun r h' =>r= .agg (mb (doE e d o).2.2)∧∃spl' spj',tq h0 h' x jid did (doE e d o).1 (doE e d o).2.1 spl' spj'∧Touch (x::did::jid::(spl++spj)) h h'∧(∀i∈x::did::jid::(spl' ++spj'),i∈x::did::jid::(spl++spj)∨h i=none):=
 (U4 x jid did e d spl spj o h w.eng w.disk w.ok hps hlg hG hk h64 (her.sub w.sub)).mono fun r h' ⟨e1,spl',spj',a,b,c,f,g⟩=>by
  have hin:∀i∈x::did::jid::(spl' ++spj'),i∈x::did::jid::(spl++spj)∨h i=none:=fun i hi=>by
   simp only[List.mem_cons,List.mem_append]at hi⊢;rcases hi with hi|hi|hi|hi|hi
   ·exact .inl (.inl hi)
   ·exact .inl (.inr (.inl hi))
   ·exact .inl (.inr (.inr (.inl hi)))
   ·rcases f i hi with h1|h1|h1
    ·exact .inl (.inr (.inr (.inr (.inl h1))))
    ·exact .inl (.inr (.inr (.inr (.inr h1))))
    ·exact .inr h1
   ·rcases g i hi with h1|h1
    ·exact .inl (.inr (.inr (.inr (.inr h1))))
    ·exact .inr h1
  exact⟨e1,spl',spj',⟨a,b,hok,BM w.sub c w.new,fun i hi=>(hin i hi).elim (w.new i) w.sub.none⟩,c,hin⟩
end Go.Proofs.YtfdgemhnlennbaaGreatDoor
namespace Go.Bf
open Go Go.Ab Go.Proofs.YtfdgemhnlennbaaGreatDoor
def nU(e:dV)(d:D)(s:Txt):dV×D×Txt:=match jq s with
 |none=>(e,d,[119,104,97,116])
 |some o=>((doE e d o).1,(doE e d o).2.1,gX (doE e d o).2.2)
end Go.Bf
namespace Go.Proofs.YtfdgemhnlennbaaGreatDoor
open Go Go.Ab Go.Bf
theorem tq.line{h0 h:Heap}{x jid did:Nat}{e:dV}{d:D}{spl spj:List Nat}(w:tq h0 h x jid did e d spl spj)(s:Txt)(hl:s.length≤900000)(hps:e.ps.length≤1000000)(hlg:e.log.length≤1000000){k:Nat}(hG:jw k e.s)(hk:k≤1000)(her:ja h0)(ht:tu h0)(h64:∀o,jq s=some o→mO o)(hok:(nU e d s).2.1.ok)(hr:∀o,jq s=some o→B0 (doE e d o).2.2):
  ai Tryz.prog 34 [.ptr x 0,.s s] h fun r h' =>r= .s (nU e d s).2.2∧∃spl' spj',tq h0 h' x jid did (nU e d s).1 (nU e d s).2.1 spl' spj'∧Touch (x::did::jid::(spl++spj)) h h'∧(∀i∈x::did::jid::(spl' ++spj'),i∈x::did::jid::(spl++spj)∨h i=none):=by
 refine adJ Tryz.func34 18 [.tmp 4] fun hwf=>?_
 simp -implicitDefEqProofs only[go_sem];refine(ni s hl _ (her.sub w.sub)).pthen ?_;unfold uc;cases eo:jq s with
 |none=>
  simp -implicitDefEqProofs only[go_sem];intro i hi;simp -implicitDefEqProofs only[go_sem,Option.isSome_none,Option.getD_none,opA,opC,oS,ah,cI];refine .mk _ (.refl _) (.aj hi) ⟨by unfold nU;rw[eo];rfl,spl,spj,by grind [nU],.refl _ _,fun j hj=> .inl hj⟩
 |some o=>
  have ee:nU e d s=((doE e d o).1,(doE e d o).2.1,gX (doE e d o).2.2):=by grind [nU]
  rw[ee]at hok;have hr:=hr o eo;have h64:=h64 o eo;simp -implicitDefEqProofs only[go_sem];intro i hi;simp -implicitDefEqProofs only[go_sem,Option.isSome_some,Option.getD_some,opA,opC,aP,ah,cI];generalize hH:upd h i _=H;have hsH:Ab.Sub h H:=by rw[←hH];exact .aj hi
  refine(show ai Tryz.prog _ [.ptr x 0,opA o] _ _ from((w.up hsH).doS o hps hlg hG hk h64 her hok).mono fun r H2 ⟨er,spl',spj',w2,hT,hin⟩=>?_)
  subst er;simp -implicitDefEqProofs only[go_sem];refine(I0 _ hr _ (ht.sub w2.sub)).pthen ?_;simp -implicitDefEqProofs only[go_sem];exact .same (.refl _) ⟨by rw[ee];rfl,spl',spj',adL,(Touch.of (S:=[]) hsH).trans hT,fun i hi=>(hin i hi).imp id hsH.none⟩
end Go.Proofs.YtfdgemhnlennbaaGreatDoor
namespace Go.Bf
open Go Go.Ab
def eqT(a b:gj):Bool:=eqL (eqL (eqL OM)) a b
def eqR(r s:cR):Bool:=r.id==s.id && (r.deny==s.deny && (eqT r.tgt s.tgt && (eqL Sf r.cond s.cond && eqL QK r.obls s.obls)))
mutual
def eqP:bJ→bJ→Bool
 |.mk i1 s1 a1 t1 r1 k1 o1,.mk i2 s2 a2 t2 r2 k2 o2=>i1==i2 && (s1==s2 && (a1==a2 && (eqT t1 t2 && (eqL QK o1 o2 && (eqL eqR r1 r2 && eqK k1 k2)))))
def eqK:List bJ→List bJ→Bool
 | [],[]=>true
 |x::a,y::b=>eqP x y && eqK a b
 |_,_=>false
end
end Go.Bf
namespace Go.Bf
open Go Go.Ab Go.Proofs.YtfdgemhnlennbaaGreatDoor
theorem OI{k n:Nat}{e:dV}{b:Txt}{sy:Nat}(o:OpD)(hd:e.down=false)(hG:jw k e.s)(hok:D.ok ⟨n,b,sy,0,false⟩):
  ∃e' b' sy' RR,doE e ⟨n,b,sy,0,false⟩ o=(e',⟨n,b',sy',0,false⟩,RR)∧D.ok ⟨n,b',sy',0,false⟩∧e'.down=false∧e'.ps.length≤e.ps.length+1∧e'.log.length≤e.log.length+1∧jw (k+1) e'.s∧
   (((aT e.s o).2.2.2≠0∧RR=(aT e.s o).2.1∧e' =e)∨((aT e.s o).2.2.2=0∧n<b.length+16+(jQ o).length∧RR=Du 8∧e' =e)∨((aT e.s o).2.2.2=0∧b.length+16+(jQ o).length≤n∧RR=(aT e.s o).2.1∧e' =VK e o)):=by
 have up:jw (k+1) e.s:={hG.tokR.up with ticks:=hG.ticks}
 have hl:(frame (dY e.ch o)).length=16+(jQ o).length:=by grind [mz,dY,iP]
 by_cases hg:(aT e.s o).2.2.2=0
 case neg=>exact⟨e,b,sy,_,QH _ hd hg,hok,hd,adK,adK,up,.inl ⟨hg,rfl,rfl⟩⟩
 by_cases hr:b.length+16+(jQ o).length≤n
 ·refine⟨_,_,_,_,HG (d:=⟨n,b,sy,0,false⟩) hd hg rfl rfl adL,⟨?_,hok.2.1,Nat.le_refl _,hok.2.2.2⟩,rfl,adR,by simp[nQ],wF o hG,.inr (.inr ⟨hg,hr,rfl,rfl⟩)⟩
  grind
 ·exact⟨e,b,sy,_,HF (d:=⟨n,b,sy,0,false⟩) hd hg rfl adL,hok,hd,adK,adK,up,.inr (.inl ⟨hg,adK,rfl,rfl⟩)⟩
structure IW (e:dV) (b:Txt):Prop where
 ok:Hr e
 b:b=frames e.ps
 len:∀p∈e.ps,9≤p.length∧p.length≤5008
 log:e.log.length=e.ps.length
theorem Dr:IW (iZ []) []:=⟨rfl,rfl,fun p hp=>(by cases hp),rfl⟩
theorem LQ{n:Nat}{e:dV}{b:Txt}{sy:Nat}{o:OpD}(hd:e.down=false)(h64:mO o)(hw:IW e b){e' :dV}{b' :Txt}{sy' :Nat}{R:ig}(he:doE e ⟨n,b,sy,0,false⟩ o=(e',⟨n,b',sy',0,false⟩,R)):
  IW e' b'∧(e'.ps=e.ps∨cB o=true∧e'.ps=e.ps++ [dY e.ch o])∧(sy=b.length→sy' =b'.length):=by
 have stay:e' =e→b' =b→sy' =sy→IW e' b'∧(e'.ps=e.ps∨cB o=true∧e'.ps=e.ps++ [dY e.ch o])∧(sy=b.length→sy' =b'.length):=fun h1 h2 h3=>by
  subst h1 h2 h3;exact⟨hw,.inl rfl,fun h=>h⟩
 have hl:(frame (dY e.ch o)).length=16+(jQ o).length:=by grind [mz,dY,iP]
 by_cases hg:(aT e.s o).2.2.2=0
 case neg=>
  rw[QH _ hd hg]at he;injection he with h1 h2
  injection h2 with h2 _
  injection h2 with _ h3 h4
  exact stay h1.symm h3.symm h4.symm
 by_cases hr:b.length+16+(jQ o).length≤n
 ·rw[HG (d:=⟨n,b,sy,0,false⟩) hd hg rfl rfl adL]at he
  injection he with h1 h2
  injection h2 with h2 _
  injection h2 with _ h3 h4
  subst h1 h3 h4;have hrl:=uA (h:=e.ch) (mW (jy hg));refine⟨⟨Se hw.ok hg h64,?_,?_,?_⟩,.inr ⟨jy hg,rfl⟩,fun _=>rfl⟩
  ·show b++frame _=frames (e.ps++ [_])
   rw[wC,hw.b]
  ·intro p hp
   rcases List.mem_append.1 hp with hp|hp
   ·exact hw.len p hp
   grind
  ·simp[nQ,hw.log]
 ·rw[HF (d:=⟨n,b,sy,0,false⟩) hd hg rfl adL]at he
  injection he with h1 h2
  injection h2 with h2 _
  injection h2 with _ h3 h4
  exact stay h1.symm h3.symm h4.symm
end Go.Bf
namespace Go.Proofs.YtfdgemhnlennbaaGreatDoor
open Go Go.Ab Go.Bf
theorem Nx(y:dV){n:Nat}{B:Txt}(hW:IW y B)(hdn:y.down=false)(hps:y.ps.length≤900)(d:D)(hdo:d.ok)(hop:d.cc=(⟨n,B,B.length,0,false⟩,0))(hsc:(scan d.b).1=y.ps)(did:Nat)(g H:Heap)(hdk:bS H did d)(hs:Ab.Sub g H)(hn:g did=none)(her:ja g):
  ai Tryz.prog 9 [.ptr did 0] H fun r H' =>∃x jid spl spj,r= .tup [.ptr x 0,.i 0]∧tq g H' x jid did y ⟨n,B,B.length,0,false⟩ spl spj∧Keep did H H'∧(∀i∈x::jid::(spl++spj),H i=none):=
 (Ny d hdo did H hdk (her.sub hs) adL).mono fun r H' ⟨h1,h2,h3⟩=>by
  have hok:=D.MR hdo;rw[hop]at h1 h3 hok;unfold uW at h3;have hy:vK y.ps=some y:=by
   have:=hW.ok;rw[this];obtain⟨_,_,_,_,_⟩:=y;cases hdn;rfl
  rw[hsc,hy]at h3;obtain⟨x,jid,spl,spj,a,b,c⟩:=h3;exact⟨x,jid,spl,spj,a,⟨b,h1,hok,E4 hs h2 hn,fun i hi=>by
   simp only[List.mem_cons]at hi c;rcases hi with rfl|rfl|hi
   ·exact hs.none (c _ (.inl rfl))
   ·omega
   ·exact hs.none (c _ (.inr hi))⟩,h2,c⟩
theorem xS.join{P:Program}{U:TypeId→TI}{n:Nat}{c:Code}{K:Exit→Env→Heap→Prop}{ρ:Env}{h:Heap}(ex:Exit)(I:Env→Heap→Prop)(hK:∀ρ' H',I ρ' H'→K ex ρ' H')(hc:∀K' :Exit→Env→Heap→Prop,(∀ρ' H',I ρ' H'→K' ex ρ' H')→xS P U n c ρ h K'):xS P U n c ρ h K:=hc K hK
theorem GY(q:Nat)(hq:q≤1048576)(did:Nat)(h0 h:Heap)(hdk:bS h did ⟨q,[],0,0,false⟩)(hs:Ab.Sub h0 h)(hn:h0 did=none)(her:ja h0):
  ai Tryz.prog 9 [.ptr did 0] h fun r h' =>∃x jid spl spj,r= .tup [.ptr x 0,.i 0]∧tq h0 h' x jid did (iZ []) ⟨q,[],0,0,false⟩ spl spj∧Keep did h h'∧(∀i∈x::jid::(spl++spj),h i=none):=
 Nx (iZ []) Dr rfl adO ⟨q,[],0,0,false⟩ ⟨Nat.zero_le _,hq,Nat.zero_le _,(by decide:(0:Nat)<9223372036854775808)⟩ adV (by rw[Nt];rfl) did h0 h hdk hs hn her
end Go.Proofs.YtfdgemhnlennbaaGreatDoor
namespace Go.Bf
open Go Go.Ab Go.Proofs.YtfdgemhnlennbaaGreatDoor
def Kx:List Txt:=[[97,110,110,32,110,101,119,32,99],[97,110,110,32,119,114,105,116,101,32,99,32,120,32,45,53],[98,111,98,32,114,101,97,100,32,99,32,120],[97,110,110,32,109,111,118,101,32,99,32,100,111,110,101],[120],[97,110,110,32,112,111,108,105,99,121,32,112,111,108,105,99,121,32,112,32,100,101,110,121,117,110,108,101,115,115,32,123,32,125],[98,111,98,32,114,101,97,100,32,99,32,120],[97,110,110,32,112,111,108,105,99,121,32,120]]
def Nv:List Txt:=[[111,107],[111,107],[111,107,32,45,53],[101,114,114,111,114,32,49,51],[119,104,97,116],[111,107],[100,101,110,105,101,100,32,68,101,110,121],[101,114,114,111,114,32,53]]
def PW:Nat→Option OpD
 |0=>some ⟨1,[97,110,110],[99],[],[],an,0,[],[],false⟩
 |1=>some ⟨3,[97,110,110],[99],[120],[],⟨2, -5,[]⟩,0,[],[],false⟩
 |2|6=>some ⟨2,[98,111,98],[99],[120],[],an,0,[],[],false⟩
 |3=>some ⟨4,[97,110,110],[99],[],[100,111,110,101],an,0,[],[],false⟩
 |5=>some ⟨7,[97,110,110],[],[],[],an,0,[112,111,108,105,99,121,32,112,32,100,101,110,121,117,110,108,101,115,115,32,123,32,125],[],false⟩
 |7=>some ⟨7,[97,110,110],[],[],[],an,0,[120],[],false⟩
 |_=>none
def zH:Nat→aq
 |0=>zf
 |i+1=>match PW i with|none=>zH i|some o=>(aT (zH i) o).1
def VX(i:Nat):Prop:=jq (Kx.getD i [])=PW i∧match PW i with
 |none=>Nv.getD i []= [119,104,97,116]
 |some o=>gX (aT (zH i) o).2.1=Nv.getD i []∧mO o∧(jQ o).length≤300∧B0 (aT (zH i) o).2.1
theorem kP(r:ig)(h:(decide (M9 r.mark) && decide (-1000≤r.err) && decide (r.err≤1000) && decide (-1000≤r.at_) && decide (r.at_≤1000) && decide (-1000≤r.val.n) && decide (r.val.n≤1000))=true):B0 r:=by
 simp only[Bool.and_eq_true,decide_eq_true_eq]at h;obtain⟨⟨⟨⟨⟨⟨h1,h2⟩,h3⟩,h4⟩,h5⟩,h6⟩,h7⟩:=h;exact⟨h1,⟨adK,adK⟩,⟨adK,adK⟩,⟨adK,adK⟩⟩
theorem pQ(o:OpD)(h:(decide (-1000≤o.kind) && decide (o.kind≤1000) && decide (-1000≤o.val.kind) && decide (o.val.kind≤1000) && decide (-1000≤o.val.n) && decide (o.val.n≤1000) && decide (-1000≤o.review) && decide (o.review≤1000))=true):mO o:=by
 simp only[Bool.and_eq_true,decide_eq_true_eq]at h;exact⟨⟨adK,adK⟩,⟨adK,adK⟩,⟨adK,adK⟩,⟨adK,adK⟩⟩
theorem SY:∀i,i<8→VX i
 |0,_=>⟨adV,adV,pQ _ adN,adz adV,kP _ adN⟩
 |1,_=>⟨adV,adV,pQ _ adN,adz adV,kP _ adN⟩
 |2,_=>⟨adV,adN,pQ _ adN,adz adV,kP _ adN⟩
 |3,_=>⟨adV,adN,pQ _ adN,adz adV,kP _ adN⟩
 |4,_=>⟨adV,adV⟩
 |5,_=>⟨adV,adV,pQ _ adN,adz adV,kP _ adN⟩
 |6,_=>⟨adV,adV,pQ _ adN,adz adV,kP _ adN⟩
 |7,_=>⟨adV,adN,pQ _ adN,adz adV,kP _ adN⟩
 |n+8,h=>adK
end Go.Bf
namespace Go.Proofs.YtfdgemhnlennbaaGreatDoor
open Go Go.Ab Go.Bf
theorem DD(n:Nat)(hn:n≤1048576)(h0 h:Heap)(hs:Ab.Sub h0 h)(her:ja h0):ai Tryz.prog 33 [.i n] h fun r h' =>∃x jid did spl spj,r= .ptr x 0∧tq h0 h' x jid did (iZ []) ⟨n,[],0,0,false⟩ spl spj∧Ab.Sub h h' :=by
 refine adJ Tryz.func33 26 [.tmp 2] fun hwf=>?_
 simp -implicitDefEqProofs only[go_sem];refine(LO n hn h).mono fun r h1 ⟨did,hd,er,hdk,s1⟩=>?_
 subst er;simp -implicitDefEqProofs only[go_sem];refine(GY n hn did h0 h1 hdk (hs.trans s1) (hs.none hd) her).mono fun r h2 ⟨x,jid,spl,spj,er,w,hK,hnew⟩=>?_
 subst er;simp -implicitDefEqProofs only[go_sem];exact .same (.refl _) ⟨x,jid,did,spl,spj,rfl,w,E4 s1 hK hd⟩
def Rz(g:Heap)(x:Nat)(i:Nat)(h:Heap):Prop:=∃jid did spl spj e b sy,tq g h x jid did e ⟨10000,b,sy,0,false⟩ spl spj∧IW e b∧e.down=false∧jw i e.s∧e.s=zH i∧b.length≤316*i∧e.ps.length≤i
theorem DK{s:aq}{o:OpD}(h:(aT s o).2.2.2≠0):(aT s o).1=s:=by
 unfold aT at h⊢
 grind
theorem PX:∀i,i<8→(Kx.getD i []).length≤900000:=adO
theorem EU(g h:Heap)(her:ja g)(ht:tu g)(x i:Nat)(hi:i<8)(hp:Rz g x i h):ai Tryz.prog 34 [.ptr x 0,.s (Kx.getD i [])] h fun r h' =>r= .s (Nv.getD i [])∧Rz g x (i+1) h'∧Ab.Sub g h' :=by
 obtain⟨jid,did,spl,spj,e,b,sy,w,hW,hdn,hG,es,hb,hp⟩:=hp;have hl:=PX i hi;have hlg:=hW.log;obtain⟨h1,h2⟩:=SY i hi;generalize Kx.getD i []=s at h1 hl⊢;cases eo:PW i with
 |none=>
  rw[eo]at h1 h2;simp only at h2;have el:nU e ⟨10000,b,sy,0,false⟩ s=(e,⟨10000,b,sy,0,false⟩,[119,104,97,116]):=by grind [nU]
  refine(w.line s hl adK adK hG adK her ht (fun o e=>adL) (by rw[el];exact w.ok) (fun o e=>adL)).mono fun r h' ⟨er,spl',spj',w',_,_⟩=>?_
  rw[el]at w' er;refine⟨adL,⟨jid,did,spl',spj',e,b,sy,w',hW,hdn,{hG.tokR.up with ticks:=hG.ticks},?_,adK,adK⟩,w'.sub⟩
  grind [zH]
 |some o=>
  rw[eo]at h1 h2;simp only at h2;obtain⟨h3,h64,hpl,hrt⟩:=h2;obtain⟨e',b',sy',RR,ed,hok,hdn',hps',hlg',hG',hways⟩:=OI o hdn hG w.ok;obtain⟨hW',hp',hy'⟩:=LQ hdn h64 hW ed;have el:nU e ⟨10000,b,sy,0,false⟩ s=(e',⟨10000,b',sy',0,false⟩,gX RR):=by grind [nU]
  have en:zH (i+1)=(aT (zH i) o).1:=by rw[zH,eo]
  have hR:RR=(aT (zH i) o).2.1∧e'.s=zH (i+1):=by
   rw[en,←es];rcases hways with⟨a,b1,c⟩|⟨a,b1,c⟩|⟨a,b1,c,d⟩
   ·grind [DK]
   ·omega
   ·exact⟨c,by rw[d];rfl⟩
  have hbl:b'.length≤316*(i+1):=by
   have e1:=hW.b;have e2:=hW'.b;have hl:(frame (dY e.ch o)).length=16+(jQ o).length:=by grind [mz,dY,iP]
   rcases hp' with e3|⟨_,e3⟩
   ·rw[e2,e3,←e1];omega
   ·rw[e2,e3,wC,adE,←e1,hl]
    omega
  refine(w.line s hl adK adK hG adK her ht (fun o e=>adL) adL (fun o' e2=>?_)).mono fun r h' ⟨er,spl',spj',w',_,_⟩=>?_
  ·grind
  rw[el]at w' er;exact⟨adL,⟨jid,did,spl',spj',e',b',sy',w',hW',hdn',hG',hR.2,hbl,adK⟩,w'.sub⟩
theorem gM(h:Heap)(he:ja h)(ht:tu h):ai Tryz.prog 30 [] h fun r h' =>r= .b true∧h' =h:=
 ai.freeze fun g hgs _=>by
 have he:=he.sub hgs;have ht:=ht.sub hgs;refine adJ Tryz.func30 30 [.tmp 0] fun hwf=>?_
 simp -implicitDefEqProofs only[go_sem];refine(show ai Tryz.prog _ [.i 10000] _ _ from(DD 10000 adO g g (.refl _) he).mono fun r h1 ⟨x,jid,did,spl,spj,er,w,s1⟩=>?_)
 subst er;have hc:∀ρ:Env,ev ρ (.const (.string ⟨#[97,110,110,32,112,111,108,105,99,121,32,112,111,108,105,99,121,32,112,32,100,101,110,121,117,110,108,101,115,115,32,123,32,125]⟩))=some (.s [97,110,110,32,112,111,108,105,99,121,32,112,111,108,105,99,121,32,112,32,100,101,110,121,117,110,108,101,115,115,32,123,32,125]):=fun ρ=>Jn adO
 simp -implicitDefEqProofs only[go_sem,hc];obtain⟨L,eL⟩:∃L,(Kx.take 7).map AV.s=L:=⟨_,rfl⟩;obtain⟨W,eW⟩:∃W,(Nv.take 7).map AV.s=W:=⟨_,rfl⟩;have lL:L.length=7:=by rw[←eL];rfl
 have lW:W.length=7:=by rw[←eW];rfl
 refine .intro (fun m ρ H=>∃i:Nat,Rz g x i H∧Ab.Sub g H∧i≤7∧m=7 - i∧lk ρ 1=some (.ptr x 0)∧lk ρ 2=some (.sl L .full)∧lk ρ 3=some (.sl W .full)∧lk ρ 11=some (.i 7)∧lk ρ 12=some (.i i)) 7 ?_ ?_
 ·refine⟨0,⟨jid,did,spl,spj,_,_,_,w,Dr,rfl,sI,rfl,Nat.zero_le _,Nat.zero_le _⟩,s1,adK,rfl,?_,?_,?_,?_,?_⟩
  ·simp -implicitDefEqProofs only[go_sem]
  ·subst eL;simp -implicitDefEqProofs only[go_sem];rfl
  ·subst eW;simp -implicitDefEqProofs only[go_sem];rfl
  ·simp -implicitDefEqProofs only[go_sem]
  ·simp -implicitDefEqProofs only[go_sem]
 rintro m ρ H ⟨i,hP,hs,hi,rfl,r1,r2,r3,r11,r12⟩
 by_cases hc:i<7
 ·have d1:decide ((i:Int)<7)=true:=decide_eq_true adK
  have w1:IntKind.i64.wrap ((i:Int)+1)=((i+1:Nat):Int):=adY;have gL:∀h:i<L.length,L[i]= .s (Kx.getD i []):=fun h=>adL
  have gW:∀h:i<W.length,W[i]= .s (Nv.getD i []):=fun h=>adL
  simp -implicitDefEqProofs only[go_sem,r1,r2,r3,r11,r12,d1];refine .calls cH [0,1,2,3,4,6,7,8,9,5,10] (fun _ _ e=>ad8) adN rfl ?_
  have ixL:=fun K=>fo.eq (xs:=L) (sz:=1) i adK (by rw[gL];rfl) K
  have ixW:=fun K=>fo.eq (xs:=W) (sz:=1) i adK (by rw[gW];rfl) K
  simp only[gL adK]at ixL;simp only[gW adK]at ixW;simp -implicitDefEqProofs only[go_sem,r1,r2,r3,r11,r12,d1,ixL,ixW];refine(EU g H he ht x i adK hP).mono fun r H2 ⟨er,hP2,hs2⟩=>?_
  subst er;refine⟨fun _ _ e=>ad8,?_⟩
  simp -implicitDefEqProofs only[go_sem,r1,r2,r3,r11,r12,w1,bne_self_eq_false];exact⟨7 - (i+1),adK,i+1,hP2,hs2,adK,rfl,by simp -implicitDefEqProofs only[go_sem,r1],aec,aeR,by simp -implicitDefEqProofs only[go_sem,r11],adV⟩
 ·have:i=7:=by omega
  subst this;have d1:decide ((7:Int)<7)=false:=adV;simp only[Int.cast_ofNat_Int]at r12;simp -implicitDefEqProofs only[go_sem,r1,r2,r3,r11,r12,d1];refine(show ai Tryz.prog _ [.ptr x 0,.s [97,110,110,32,112,111,108,105,99,121,32,120]] _ _ from(EU g H he ht x 7 adK hP).mono fun r H2 ⟨er,hP2,hs2⟩=>?_)
  subst er;simp -implicitDefEqProofs only[go_sem];exact .same (.refl _) ⟨hs2,_,.pure rfl,rfl⟩
end Go.Proofs.YtfdgemhnlennbaaGreatDoor
namespace Go.Bf
open Go Go.Ab Go.Proofs.YtfdgemhnlennbaaGreatDoor
theorem A9{o:OpD}(h:o.kind=0):cB o=false:=by
 grind [cB,dj]
theorem fZ{w:Txt}(h:∀c∈w,c≠32)(r:Txt):cG w=(w,[])∧cG (w++32::r)=(w,r):=by
 have hp:∀c∈w,(fun c:UInt8=> !(c==32)) c=true:=adL
 have h1:∀l:Txt,(w++l).takeWhile (fun c=> !(c==32))=w++l.takeWhile (fun c=> !(c==32))∧(w++l).dropWhile (fun c=> !(c==32))=l.dropWhile (fun c=> !(c==32)):=fun l=>⟨List.takeWhile_append_of_pos hp,List.dropWhile_append_of_pos hp⟩
 have h2:=h1 [];rw[List.append_nil]at h2;unfold cG;rw[(h1 _).1,(h1 _).2,h2.1,h2.2];exact⟨adR,adR⟩
theorem Fj:∀(s:Txt),∀c∈(cG s).1,c≠32
 | [],c,hc=>by cases hc
 |a::l,c,hc=>by
  have ih:=Fj l c;unfold cG at hc ih;rw[List.takeWhile_cons]at hc
  grind
theorem rQ{s w:Txt}(h:cG s=(w,[])):jq s=none:=by
 have:(zz s).1.kind=0:=by
  unfold zz;rw[h];rfl
 unfold jq;rw[A9 this];simp
theorem J4{s:Txt}{o:OpD}(h:jq s=some o):cB o=true∧o.subj=(cG s).1:=by
 unfold jq at h;split at h
 ·rename_i h1
  injection h with h
  grind [zz,opL]
 grind
end Go.Bf
namespace Go.Proofs.YtfdgemhnlennbaaGreatDoor
open Go Go.Ab Go.Bf
theorem Ay(s:Txt)(h:Heap)(he:ja h)(ht:tu h):ai Tryz.prog 6 [.s s] h fun r h' =>r= .b true∧h' =h:=by
 refine adJ Tryz.func6 53 [.tmp 2] fun hwf=>?_
 simp -implicitDefEqProofs only[go_sem];refine jH.join (fun ρ H=>H=h∧∃s' :Txt,s'.length≤500∧lk ρ 0=some (.s s')) ?_ fun K1 hK1=>?_
 rotate_left
 ·cases d1:decide ((s.length:Int)>500)
  ·simp -implicitDefEqProofs only[go_sem,d1]
   exact hK1 _ _ ⟨rfl,s,adL,adV⟩
  ·have:=adC d1
   simp -implicitDefEqProofs only[go_sem,d1];exact⟨adK,adK,adK,hK1 _ _ ⟨rfl,s.take 500,adL,adV⟩⟩
 rintro ρ H ⟨rfl,s',hl,r0⟩
 clear hwf s;simp -implicitDefEqProofs only[go_sem,r0];refine(ni s' adK _ he).pthen ?_;unfold uc;cases eo:jq s' with
 |none=>
  simp -implicitDefEqProofs only[go_sem,Option.isSome_none,Option.getD_none,opA,opC,oS,an];intro i3 h3;simp -implicitDefEqProofs only[go_sem,Option.isSome_none,Option.getD_none,opA,opC,oS,an,ah,cI];refine((gM _ (he.sub (.aj h3)) (ht.sub (.aj h3))).pthen ?_);simp -implicitDefEqProofs only[go_sem];exact afZ
 |some o=>
  obtain⟨hf,hs⟩:=J4 eo;simp -implicitDefEqProofs only[go_sem,Option.isSome_some,Option.getD_some,opA,opC,aP];intro i3 h3;simp -implicitDefEqProofs only[go_sem,Option.isSome_some,Option.getD_some,opA,opC,aP,ah,cI];have hno:=Fj s';rw[←hs]at hno;obtain⟨w1,w2⟩:=fZ hno [];have hsl:=(mM s').1;rw[←hs]at hsl;refine(ni o.subj adK _ (he.sub (.aj h3))).pthen ?_;unfold uc;rw[rQ w1];simp -implicitDefEqProofs only[go_sem,Option.isSome_none,Option.getD_none,opA,opC,oS,an];intro i5 h5;generalize hH:upd H i3 _=H1 at h5⊢;have f3:H1 i3=some (.obj (opC o) 39):=afG;have s3:Ab.Sub H H1:=by rw[←hH];exact .aj h3
  clear hH;unfold opC at f3;have n53:i5≠i3:=fun e=>adL
  simp -implicitDefEqProofs only[go_sem,f3,ah,cI,ak,n53.symm];have hll:o.subj.length+1<lim:=by
   have:lim=9223372036854775808:=rfl;omega
  refine⟨hll,?_⟩;have s5:∀b,Ab.Sub H (upd H1 i5 b):=fun b=>s3.new h5 b
  refine(ni (o.subj++ [32]) adL _ (he.sub (s5 _))).pthen ?_;unfold uc;rw[rQ w2];simp -implicitDefEqProofs only[go_sem,Option.isSome_none,Option.getD_none,opA,opC,oS,an];intro i7 h7;generalize hH:upd H1 i5 _=H2 at h7⊢;have g3:H2 i3=some (.obj (opC o) 39):=by rw[←hH,ag _ _ n53.symm,f3];rfl
  have s6:Ab.Sub H H2:=adL;clear hH;unfold opC at g3;have n73:i7≠i3:=fun e=>adL
  simp -implicitDefEqProofs only[go_sem,g3,ah,cI,ak,n73.symm];have hfo:=fun G=>tQ o G
  simp only[opA,opC]at hfo;have s7:∀b,Ab.Sub H (upd H2 i7 b):=fun b=>s6.new h7 b
  refine(hfo _).pthen ?_;simp -implicitDefEqProofs only[go_sem,hf];refine(gM _ (he.sub (s7 _)) (ht.sub (s7 _))).pthen ?_;simp -implicitDefEqProofs only[go_sem];exact .mk _ (.refl _) (s7 _) ⟨rfl,rfl⟩
theorem zJ(ev:Value)(hev:ev= .nilIface∨∃te pe,ev= .iface te pe)(x:AV)(dx:Dat U 9 x):ai Tryz.prog 6 [x] (uE [(3,nu),(2,[ev])]) fun r _=>r= .b true:=by
 obtain⟨s,rfl,_⟩:=dx.mC adV;exact(Ay s _ (vL hev) ⟨0,rfl⟩).mono fun _ _ h=>h.1
end Go.Proofs.YtfdgemhnlennbaaGreatDoor
namespace Go.Bf
open Go Go.Ab Go.Proofs.YtfdgemhnlennbaaGreatDoor
def Letters(w:Txt):Prop:=∀c∈w,c≠32
def zY(w:Txt):List Txt:=[[],w,[32,110,101,119,32,99],w++ [32],[97,110,110,32,122,122]++w,[97,110,110,32,110,101,119],[97,110,110,32,110,101,119,32],[97,110,110,32,114,101,97,100,32,99],[97,110,110,32,119,114,105,116,101,32,99,32,120],[97,110,110,32,119,114,105,116,101,32,99,32,120,32,49,32,50],[97,110,110,32,109,111,118,101,32,99],[97,110,110,32,99,108,111,115,101,32,48],[97,110,110,32,99,108,111,115,101,32,48,49],[97,110,110,32,116,105,99,107],[97,110,110,32,116,105,99,107,32,45,49],[97,110,110,32,33,120,32,99,108,111,115,101,32,49],[97,110,110,32,33,32,110,101,119,32,99],[65,110,110,32,110,101,119,32,99]]
theorem Pg{w:Txt}(h:Letters w):jq ([97,110,110,32,122,122]++w)=none:=by
 have:(zz ([97,110,110,32,122,122]++w)).1.kind=0:=by
  rfl
 unfold jq;rw[A9 this];simp
theorem KW{w:Txt}(h:Letters w):∀q∈zY w,jq q=none:=by
 unfold zY;simp only[List.mem_cons,List.not_mem_nil,or_false,forall_eq_or_imp,forall_eq];refine⟨adV,rQ (fZ h []).1,adV,rQ (fZ h []).2,Pg h,?_⟩;exact⟨adV,adV,adV,adV,adV,adV,adV,adV,adV,adV,adV,adV,adV⟩
end Go.Bf
namespace Go.Proofs.YtfdgemhnlennbaaGreatDoor
open Go Go.Ab Go.Bf
theorem NX{w:Txt}(h:w.length≤8):∀q∈zY w,q.length≤900000:=by
 unfold zY;simp only[List.mem_cons,List.not_mem_nil,or_false,forall_eq_or_imp,forall_eq,adE,List.length_cons,List.length_nil];omega
theorem Az(s:Txt)(hsl:s.length<lim)(h:Heap)(he:ja h)(ht:tu h):ai Tryz.prog 7 [.s s] h fun r h' =>r= .b true∧h' =h:=
 ai.freeze fun g hgs _=>by
 have he:=he.sub hgs;have ht:=ht.sub hgs;refine adJ Tryz.func7 58 [.tmp 2] fun hwf=>?_
 simp -implicitDefEqProofs only[go_sem];refine(show ai Tryz.prog _ [.i 3000] _ _ from(DD 3000 adO g g (.refl _) he).mono fun r h1 ⟨x,jid,did,spl,spj,er,w,s1⟩=>?_)
 subst er;simp -implicitDefEqProofs only[go_sem];have hlim:lim=9223372036854775808:=rfl;refine xS.join (.exit 0) (fun ρ H=>H=h1∧∃v:Txt,Letters v∧v.length≤8∧lk ρ 3=some (.ptr x 0)∧lk ρ 4=some (.s v)) ?_ fun K1 hK1=>?_
 rotate_left
 ·refine .intro (fun m ρ H=>H=h1∧∃(i:Nat) (v:Txt),Letters v∧v.length=i∧i≤8∧i≤s.length∧m=8 - i∧lk ρ 0=some (.s s)∧lk ρ 3=some (.ptr x 0)∧lk ρ 4=some (.s v)∧lk ρ 5=some (.i i)) 8 ?_ ?_
  ·refine⟨rfl,0,[],fun c hc=>adL,rfl,adK,adK,rfl,?_,?_,?_,?_⟩<;>simp -implicitDefEqProofs only[go_sem]
  rintro m ρ H ⟨rfl,i,v,hv,hvl,hi,hi2,rfl,r0,r3,r4,r5⟩
  cases d1:decide ((i:Int)<(s.length:Int))
  ·simp -implicitDefEqProofs only[go_sem,r0,r3,r4,r5,d1]
   exact hK1 _ _ ⟨rfl,v,hv,adK,aeR,aea⟩
  have hi3:i<s.length:=adL;cases d2:decide ((i:Int)<8)
  ·simp -implicitDefEqProofs only[go_sem,r0,r3,r4,r5,d1,d2]
   exact hK1 _ _ ⟨rfl,v,hv,adK,aeR,aea⟩
  have hi8:i<8:=adL;simp -implicitDefEqProofs only[go_sem,r0,r3,r4,r5,d1,d2];refine .at i hi3 ?_;obtain⟨c,ec,hc32⟩:∃c:UInt8,AV.v (Value.int .u8 (IntKind.u8.wrap (97+((s[i].toNat:Nat):Int).tmod 26)))=aJ c∧c≠32:=by
   have hb:((s[i].toNat:Nat):Int).tmod 26=((s[i].toNat % 26:Nat):Int):=rfl;have hlt:s[i].toNat % 26<26:=Nat.mod_lt _ adK;rw[hb];generalize s[i].toNat % 26=n at hlt;have:∀n:Nat,n<26→IntKind.u8.wrap (97+(n:Int))=((UInt8.ofNat (97+n)).toNat:Int)∧UInt8.ofNat (97+n)≠32:=adO;exact⟨_,adV,(this n hlt).2⟩
  have cv:=fun K=>UY (U:=U) 5 [c] .full K
  rw[List.map_cons,List.map_nil,←ec]at cv;have w1:IntKind.i64.wrap ((i:Int)+1)=((i+1:Nat):Int):=adY;simp -implicitDefEqProofs only[go_sem,r0,r3,r4,r5,cv,w1];exact⟨adO,adK,8 - (i+1),adK,rfl,i+1,v++ [c],fun a ha=>(List.mem_append.1 ha).elim (hv a) fun e=>adL,adL,adK,adK,rfl,by simp -implicitDefEqProofs only[go_sem,r0],aeR,adV,adV⟩
 rintro ρ H ⟨rfl,v,hv,hvl,r3,r4⟩
 simp -implicitDefEqProofs only[go_sem,r3,r4];refine⟨adK,adK,?_⟩;obtain⟨L,eL⟩:∃L,(zY v).map AV.s=L:=⟨_,rfl⟩;have lL:L.length=18:=by rw[←eL];rfl
 refine .intro (fun m ρ H=>∃(i:Nat) (spl spj:List Nat),tq g H x jid did (iZ []) ⟨3000,[],0,0,false⟩ spl spj∧i≤18∧m=18 - i∧lk ρ 3=some (.ptr x 0)∧lk ρ 35=some (.sl L .full)∧lk ρ 36=some (.i 18)∧lk ρ 37=some (.i i)) 18 ?_ ?_
 ·refine⟨0,spl,spj,w,adK,rfl,?_,?_,?_,?_⟩
  ·simp -implicitDefEqProofs only[go_sem,r3]
  ·subst eL;simp -implicitDefEqProofs only[go_sem];rfl
  ·simp -implicitDefEqProofs only[go_sem]
  ·simp -implicitDefEqProofs only[go_sem]
 rintro m ρ H ⟨i,spl,spj,w,hi,rfl,r3,r35,r36,r37⟩
 by_cases hc:i<18
 ·have d1:decide ((i:Int)<18)=true:=decide_eq_true adK
  have w1:IntKind.i64.wrap ((i:Int)+1)=((i+1:Nat):Int):=adY;obtain⟨q,eq,hq⟩:∃q∈zY v,∀h:i<L.length,L[i]= .s q:=by
   subst eL;refine⟨(zY v)[i]'adL,adF _,fun h=>adR⟩
  have hn:=KW hv q eq;have hql:=NX hvl q eq;have ix:=fun K=>fo.eq (xs:=L) (sz:=1) i adK (by rw[hq];rfl) K
  simp only[hq adK]at ix;have el:nU (iZ []) ⟨3000,[],0,0,false⟩ q=(iZ [],⟨3000,[],0,0,false⟩,[119,104,97,116]):=by grind [nU]
  simp -implicitDefEqProofs only[go_sem,r3,r35,r36,r37,d1,ix];refine(w.line q hql adO adO sI adO he ht (fun o e=>adL) (by rw[el];exact w.ok) (fun o e=>adL)).mono fun r h' ⟨er,spl',spj',w',_,_⟩=>?_
  rw[el]at w' er;subst er;simp -implicitDefEqProofs only[go_sem,r3,r35,r36,r37,w1,bne_self_eq_false];exact⟨18 - (i+1),adK,i+1,spl',spj',w',adK,rfl,aeR,by simp -implicitDefEqProofs only[go_sem,r35],by simp -implicitDefEqProofs only[go_sem,r36],adV⟩
 ·have:i=18:=by omega
  subst this;have d1:decide ((18:Int)<18)=false:=adV;simp only[Int.cast_ofNat_Int]at r37;simp -implicitDefEqProofs only[go_sem,r3,r35,r36,r37,d1];refine(Dt x jid did _ spl spj H w.eng adO (fun p hp=>by cases hp)).mono fun r H5 ⟨q,er,s7⟩=>?_
  subst er;rw[show(iZ []).ps= []from rfl]
  simp -implicitDefEqProofs only[go_sem,adA,List.map_nil,r3];refine(LH x jid did _ spl spj H5 (w.eng.sub s7)).pthen ?_;rw[show((iZ []).ch.toNat:Int)=0 from rfl]
  simp -implicitDefEqProofs only[go_sem];refine(gM _ (he.sub (w.sub.trans s7)) (ht.sub (w.sub.trans s7))).pthen ?_;simp -implicitDefEqProofs only[go_sem];exact .same (.refl _) ⟨w.sub.trans s7,_,.pure rfl,rfl⟩
theorem zK(ev:Value)(hev:ev= .nilIface∨∃te pe,ev= .iface te pe)(x:AV)(dx:Dat U 9 x):ai Tryz.prog 7 [x] (uE [(3,nu),(2,[ev])]) fun r _=>r= .b true:=by
 obtain⟨s,rfl,hs⟩:=dx.mC adV;exact(Az s (Nat.lt_of_le_of_lt hs adO) _ (vL hev) ⟨0,rfl⟩).mono fun _ _ h=>h.1
end Go.Proofs.YtfdgemhnlennbaaGreatDoor
namespace Go.Bf
open Go Go.Ab
def er(t:lg):lg:=⟨t.kind,0,t.n,t.s⟩
def wdK(s:Txt):lg:=⟨1,0,0,s⟩
def Sep(r:Txt):Prop:=∀c l,r=c::l→wrd c=false
theorem Sep.nil:Sep []:=fun _ _ h=>aeC
def Lx(b:Bool)(s:Txt)(ks:List lg):Prop:=∀(rest:Txt) (f a:Nat) (out:List lg),(b=true→Sep rest)→(s++rest).length<f→
 ∃f' new,rest.length<f'∧new.map er=ks∧qq f (s++rest) a out=qq f' rest (a+s.length) (out++new)
theorem Lx.weaken{b:Bool}{s:Txt}{ks:List lg}(h:Lx b s ks):Lx true s ks:=fun rest f a out hr hf=>h rest f a out (fun _=>hr rfl) hf
theorem vq{b:Bool}{s:Txt}{k:lg}(hs:s≠ [])(hh:∀c l,s=c::l→lV c=false)(h:∀rest,(b=true→Sep rest)→er (bB (s++rest)).1=k∧(bB (s++rest)).2=s.length):Lx b s [k]:=fun rest f a out hr hf=>by
 obtain⟨g,rfl⟩:∃g,f=g+1:=⟨f - 1,adK⟩;obtain⟨h1,h2⟩:=h rest hr;obtain⟨c,l,rfl⟩:∃c l,s=c::l:=by
  cases s with
  |nil=>grind
  |cons c l=>simp
 refine⟨g,[{(bB (c::l++rest)).1 with pos:=a}],?_,?_,?_⟩
 ·grind
 ·rw[←h1];rfl
 simp_all [List.cons_append,qq,if_neg,List.drop_left]
theorem sv{p:UInt8→Bool}{s rest:Txt}(h1:∀c∈s,p c=true)(h2:∀c l,rest=c::l→p c=false):(s++rest).takeWhile p=s:=by
 rw[List.takeWhile_append_of_pos h1];cases rest with
 |nil=>simp
 |cons c l=>simp_all
theorem Pj{c:UInt8}(h:wrd c=false):ltr c=false∧dgt c=false:=by
 grind [wrd,Bool.or_eq_false_iff]
theorem LF{c:UInt8}{i:Nat}(h:qG c i=true):wrd c=true:=by
 simp only[qG,wrd,Bool.or_eq_true,Bool.and_eq_true]at h⊢
 grind
theorem nW{s:Txt}(h:aX s=true):∃c l,s=c::l∧ltr c=true∧∀x∈s,wrd x=true:=by
 simp only[aX,Bool.and_eq_true,decide_eq_true_eq]at h;obtain⟨⟨h1,h2⟩,_⟩:=h;cases s with
 |nil=>grind
 |cons c l=>
  refine⟨c,l,rfl,?_,fun x hx=>?_⟩
  ·simp_all [tF,List.zipIdx_cons,List.all_cons,Bool.and_eq_true,qG]
  ·obtain⟨i,hi,rfl⟩:=List.getElem_of_mem hx
   have:=List.all_eq_true.1 h1 ((c::l)[i],i) adL;exact LF this
theorem zZ{s rest:Txt}(h:aX s=true)(hr:Sep rest):iY (s++rest)=s:=by
 obtain⟨c,l,_,_,hw⟩:=nW h;unfold iY;rw[sv hw hr,if_pos h]
theorem J7{c:UInt8}(h:ltr c=true):lV c=false:=by
 simp only[ltr,Bool.and_eq_true,decide_eq_true_eq]at h;simp only[lV,Bool.or_eq_false_iff,beq_eq_false_iff_ne,ne_eq];omega
theorem Pk{s:Txt}(h:aX s=true):Lx true s [wdK s]:=by
 obtain⟨c,l,rfl,hc,hw⟩:=nW h;refine vq adR (by grind [J7]) fun rest hr=>?_
 have:=zZ h (hr rfl);rw[List.cons_append]at this⊢;simp only[bB,List.headD_cons,hc,if_true,this];exact agS
theorem VF{s:Txt}(h:aX s=true):Lx true (35::s) [⟨4,0,0,s⟩]:=by
 refine vq adR (fun c' l' e=>by cases e;decide) fun rest hr=>?_
 have:=zZ h (hr rfl);obtain⟨c,l,e,_,_⟩:=nW h;have hs:s≠ []:=adL;have d1:ltr 35=false:=adO;have d2:dgt 35=false:=adO;simp only[List.cons_append,bB,List.headD_cons,d1,d2,if_false,Bool.false_eq_true,List.drop_succ_cons,List.drop_zero,this,hs,if_true,List.length_cons];exact⟨rfl,rfl⟩
theorem Jh(l:Txt)(c:UInt8):kH (l++ [c])=kH l*10+(c.toNat - 48):=by simp[kH]
theorem rL(n:Nat)(h:n<10):(UInt8.ofNat (48+n)).toNat=48+n:=by
 grind [UInt8.toNat_ofNat']
theorem HD(n:Nat)(h:n<10):dgt (UInt8.ofNat (48+n))=true:=by
 simp only[dgt,rL n h,Bool.and_eq_true,decide_eq_true_eq];omega
theorem iB:∀(n u:Nat),u<n→(∀c∈Lib.decDigits u,dgt c=true)∧kH (Lib.decDigits u)=u∧(∃c l,Lib.decDigits u=c::l∧(1≤u→c≠48))∧(u<10→(Lib.decDigits u).length=1)
 |0,u,h=>adK
 |n+1,u,h=>by
  by_cases h10:u<10
  ·have e:Lib.decDigits u= [UInt8.ofNat (48+u)]:=by rw[Lib.decDigits,dif_pos h10]
   rw[e];refine⟨?_,?_,⟨_,_,rfl,fun h1 hc=>?_⟩,fun _=>rfl⟩
   ·grind [List.mem_singleton,HD]
   ·grind [kH,rL]
   ·have:=congrArg UInt8.toNat hc
    rw[rL u h10]at this;have h48:(48:UInt8).toNat=48:=rfl;omega
  ·have e:Lib.decDigits u=Lib.decDigits (u / 10)++ [UInt8.ofNat (48+u % 10)]:=by rw[Lib.decDigits,dif_neg h10]
   obtain⟨h1,h2,⟨c,l,h3,h4⟩,_⟩:=iB n (u / 10) adK;refine⟨?_,?_,⟨c,l++ [UInt8.ofNat (48+u % 10)],adL,fun _=>h4 adK⟩,fun h=>absurd h h10⟩
   ·grind [List.mem_singleton,HD]
   grind [Jh,rL]
theorem PZ{rest:Txt}(h:Sep rest):∀c l,rest=c::l→dgt c=false:=fun c l e=>(Pj (h c l e)).2
theorem zg(neg:Bool)(u:Nat){rest:Txt}(hr:Sep rest)(h: -9223372036854775808≤(if neg then -(u:Int)else(u:Int))∧(if neg then -(u:Int)else(u:Int))≤9223372036854775807):
  eP neg (Lib.decDigits u++rest)=(if neg then -(u:Int)else(u:Int),(Lib.decDigits u).length):=by
 obtain⟨h1,h2,⟨c,l,h3,h4⟩,h5⟩:=iB (u+1) u adK;have ht:(Lib.decDigits u++rest).takeWhile dgt=Lib.decDigits u:=sv h1 (PZ hr);unfold eP;simp only[ht,h2];rw[if_neg (by
  grind),if_pos h]
theorem Sz{n:Int}(h: -9223372036854775808≤n∧n≤9223372036854775807):Lx true (Lib.itoa n) [⟨2,0,n,[]⟩]:=by
 by_cases hn:n<0
 ·obtain⟨u,hu1,hu⟩:∃u:Nat,1≤u∧n= -(u:Int):=⟨n.natAbs,adK,adK⟩
  subst hu;rw[Lib.itoa_neg u hu1];refine vq adR (fun c' l' e=>by cases e;decide) fun rest hr=>?_
  have hd:=zg true u (hr rfl) adL;have d1:ltr 45=false:=adO;have d2:dgt 45=false:=adO;have h0: -(u:Int)≠0:=adK;simp only[List.cons_append,bB,List.headD_cons,d1,d2,if_false,Bool.false_eq_true,List.drop_succ_cons,List.drop_zero,hd,if_true,List.length_cons,h0];exact agS
 ·obtain⟨u,hu⟩:∃u:Nat,n=(u:Int):=⟨n.toNat,adK⟩
  subst hu;rw[Lib.itoa_nonneg u];obtain⟨h1,h2,⟨c,l,h3,h4⟩,h5⟩:=iB (u+1) u adK;have hc:dgt c=true:=h1 c adL;have hcr:=hc;simp only[dgt,Bool.and_eq_true,decide_eq_true_eq]at hcr;refine vq adL (fun c' l' e=>?_) fun rest hr=>?_
  ·rw[h3]at e;cases e
   simp only[lV,Bool.or_eq_false_iff,beq_eq_false_iff_ne,ne_eq];omega
  ·have hd:=zg false u (hr rfl) adK
   have d1:ltr c=false:=by
    grind [ltr,Bool.and_eq_false_iff,decide_eq_false_iff_not]
   have hh:(Lib.decDigits u++rest).headD 0=c:=adL;simp only[bB,hh,d1,hc,hd,if_true,if_false,Bool.false_eq_true];exact agS
theorem Pn{n:Int}(h0:0≤n)(h1:n≤1099511627776):Lx true ([64]++Lib.itoa n) [⟨3,0,n,[]⟩]:=by
 obtain⟨u,hu⟩:∃u:Nat,n=(u:Int):=⟨n.toNat,adK⟩;subst hu;rw[Lib.itoa_nonneg u];obtain⟨_,_,⟨c,l,h3,_⟩,_⟩:=iB (u+1) u adK;refine vq adR (fun c' l' e=>by cases e;decide) fun rest hr=>?_
 have hd:=zg false u (hr rfl) adK;have d1:ltr 64=false:=adO;have d2:dgt 64=false:=adO;have d3:¬(64:UInt8)=45:=adO;have hl:(Lib.decDigits u).length≠0:=adL;have hc:¬((Lib.decDigits u).length=0∨(u:Int)>1099511627776):=fun h=>h.elim hl adK
 simp only[List.cons_append,List.nil_append,bB,List.headD_cons,d1,d2,d3,if_false,Bool.false_eq_true,List.drop_succ_cons,List.drop_zero,hd,if_true,List.length_cons,hc];exact agS
theorem Bd:∀n:Fin 16,jg (tW n.val)=n.val:=adO
theorem rE:∀(l:Txt) (f at_:Nat) (rest out:Txt),(l.map gA).flatten.length<f→(out++l).length≤64→oV f ((l.map gA).flatten++34::rest) at_ out=(out++l,at_+(l.map gA).flatten.length+1)
 | [],f,at_,rest,out,hf,hl=>by
  obtain⟨g,rfl⟩:∃g,f=g+1:=⟨f - 1,adK⟩
  grind [oV]
 |c::r,f,at_,rest,out,hf,hl=>by
  obtain⟨g,rfl⟩:∃g,f=g+1:=⟨f - 1,adK⟩;have hl2:((out++ [c])++r).length≤64:=adL;cases ho:sS c
  ·have e:gA c= [c]:=by grind [gA]
   have h34:c≠34:=fun h=>by rw[h]at ho;revert ho;decide
   simp only[List.map_cons,e,List.flatten_cons,List.cons_append,List.nil_append,List.length_cons]at hf⊢;rw[oV,if_neg h34,if_pos ho,rE r g (at_+1) rest (out++ [c]) adK hl2];simp;omega
  ·have e:gA c= [92,tW (c.toNat / 16),tW (c.toNat % 16)]:=by grind [gA]
   have hc:=c.toNat_lt;have h1:=Bd ⟨c.toNat / 16,adK⟩;have h2:=Bd ⟨c.toNat % 16,adK⟩;simp only at h1 h2;have hv:UInt8.ofNat (16*jg (tW (c.toNat / 16))+jg (tW (c.toNat % 16))).toNat=c:=by
    rw[h1,h2];have:(16*((c.toNat / 16:Nat):Int)+((c.toNat % 16:Nat):Int)).toNat=c.toNat:=adK;rw[this,UInt8.ofNat_toNat]
   have hod:∀x,se (92::tW (c.toNat / 16)::tW (c.toNat % 16)::x)=some c:=fun x=>by
    simp only[se,hv]
    grind
   simp only[List.map_cons,e,List.flatten_cons,List.cons_append,List.nil_append,List.length_cons]at hf⊢;rw[oV,if_neg adO,if_neg adO,hod];simp only[List.drop_succ_cons,List.drop_zero];rw[rE r g (at_+3) rest (out++ [c]) adK hl2];simp;omega
theorem Pm{l:Txt}(h:l.length≤64):Lx false (iJ l) [⟨5,0,0,l⟩]:=by
 refine vq (by simp[iJ]) (fun c' l' e=>by simp only[iJ,List.cons_append,List.nil_append]at e;cases e;decide) fun rest hr=>?_
 have d1:ltr 34=false:=adO;have d2:dgt 34=false:=adO;have d3:¬(34:UInt8)=45:=adO;have d4:¬(34:UInt8)=64:=adO;have d5:¬(34:UInt8)=35:=adO;have e:iJ l++rest=34::((l.map gA).flatten++34::rest):=by simp[iJ]
 have ht:uF (34::((l.map gA).flatten++34::rest))=(l,(iJ l).length):=by
  grind [uF,rE,List.length_cons,adE,iJ]
 rw[e];simp only[bB,List.headD_cons,d1,d2,d3,d4,d5,if_false,Bool.false_eq_true,if_true,ht];exact agS
def Qi(v:bt):lg:=
 if v.kind=1 then wdK (Lib.formatBool (v.n==1))else if v.kind=4 then⟨3,0,v.n,[]⟩else if v.kind=5 then⟨4,0,0,v.s⟩else if v.kind=3 then⟨5,0,0,v.s⟩else⟨2,0,v.n,[]⟩
theorem SA{v:bt}(h:br v=true)(hi:inV v):Lx true (jR v) [Qi v]:=by
 unfold br at h;unfold jR Qi
 by_cases h1:v.kind=1
 ·simp only[h1,if_true]
  cases v.n==1<;>exact Pk adO
 by_cases h4:v.kind=4
 ·simp only[h4,if_true,show¬(4:Int)=1 by decide,show¬(4:Int)=2 by decide,show¬(4:Int)=3 by decide,if_false,Bool.and_eq_true,decide_eq_true_eq]at h⊢
  grind [Pn]
 by_cases h5:v.kind=5
 ·simp_all [if_true,Int,if_false,Bool.and_eq_true,VF]
 by_cases h3:v.kind=3
 ·simp only[h3,if_true,show¬(3:Int)=1 by decide,show¬(3:Int)=2 by decide,show¬(3:Int)=4 by decide,show¬(3:Int)=5 by decide,if_false,Bool.and_eq_true,decide_eq_true_eq]at h⊢
  exact(Pm h.2).weaken
 ·simp only[h1,h4,h5,h3,if_false]
  exact Sz hi
end Go.Bf
namespace Go.Bf
open Go Go.Ab Go.Proofs.YtfdgemhnlennbaaGreatDoor
theorem Ii{w:Txt}(h:aX w=true):∀c∈w,c≠32:=fun c hc e=>by
 obtain⟨a,l,_,_,h3⟩:=nW h;have:=h3 c hc;rw[e]at this;cases this
theorem yo{w:Txt}(h:gQ w=true):∀c∈w,c≠32:=by
 simp only[gQ,Bool.or_eq_true]at h;rcases h with h|h
 ·grind
 grind [Ii]
theorem D7{s:Txt}{k:lg}(h:Lx true s [k])(hl:s.length≤4096)(hk:k.pos=0):fB s=AH k:=by
 obtain⟨f',new,g1,g2,g3⟩:=h [] (s.length+1) 0 [] (fun _=> .nil) adR
 obtain⟨g,rfl⟩:∃g,f' =g+1:=⟨f' - 1,adK⟩;have hlex:pK s= .ok (new++ [⟨7,(s.length:Nat),0,[]⟩]):=by
  simp_all [pK,if_neg,qq]
 obtain⟨t,rfl⟩:∃t,new= [t]:=by
  match new,g2 with
  | [t],_=>exact⟨t,rfl⟩
 simp only[List.map_cons,List.map_nil,List.cons.injEq,and_true]at g2;unfold fB;rw[hlex];rw[←g2];rfl
theorem D8{v:bt}(h:br v=true)(hi:inV v):fB (oW v)=(v,true):=by
 have hl:=IM h hi.1 hi.2;have hk:(Qi v).pos=0:=by grind [Qi,wdK]
 unfold oW;rw[if_pos h,D7 (SA h hi) adK hk];obtain⟨k,n,s⟩:=v;unfold br at h
 by_cases h1:k=1
 ·subst h1
  simp only[if_true,Bool.and_eq_true,Bool.or_eq_true,beq_iff_eq]at h;obtain⟨rfl|rfl,rfl⟩:=h<;>rfl
 by_cases h2:k=2
 ·subst h2
  simp at h;subst h;rfl
 by_cases h3:k=3
 ·subst h3
  simp at h;obtain⟨rfl,_⟩:=h;rfl
 by_cases h4:k=4
 ·subst h4
  simp at h;obtain⟨_,rfl⟩:=h;rfl
 by_cases h5:k=5
 ·subst h5
  simp at h;obtain⟨rfl,_⟩:=h;rfl
 simp[h1,h2,h3,h4,h5]at h
def tailD(o:OpD):Txt:=
 if o.kind=1 then o.case else if o.kind=2∨o.kind=6 then o.case++32::o.field else if o.kind=3 then o.case++32::(o.field++32::oW o.val)
 else if o.kind=4 then o.case++32::o.to else if o.kind=7 then o.text else oW ⟨2,o.review,[]⟩
def ud(o:OpD):Txt:=o.subj++32::((if o.glass then 33::(o.reason++ [32])else [])++(cy o.kind++32::tailD o))
theorem J1{k:Int}(h1:1≤k)(h2:k≤8):tZ (cy k)=k∧(∀c∈cy k,c≠32∧c≠33)∧cy k≠ []:=by
 have hc:k=1∨k=2∨k=3∨k=4∨k=5∨k=6∨k=7∨k=8:=adK;rcases hc with rfl|rfl|rfl|rfl|rfl|rfl|rfl|rfl<;>decide
theorem HC:∀(k u:Nat),u<10 ^ (k+1)→(Lib.decDigits u).length≤k+1
 |0,u,h=>by simp_all [Lib.decDigits,dif_pos,Nat.le_refl]
 |k+1,u,h=>by
  rw[Lib.decDigits];split
  ·simp
  ·have:=HC k (u / 10) adK
   rw[adE];exact Nat.succ_le_succ this
theorem ML{n:Int}(h1:0<n)(h2:n≤999999999):fV (oW ⟨2,n,[]⟩)=n:=by
 obtain⟨u,rfl⟩:∃u:Nat,n=(u:Int):=⟨n.toNat,adK⟩;have e:oW ⟨2,(u:Int),[]⟩=Lib.decDigits u:=by
  rfl
 obtain⟨g1,g2,⟨c,l,g3,g4⟩,_⟩:=iB (u+1) u adK;have hl:=HC 8 u adK;unfold fV
 grind
theorem PA{o:OpD}(hf:cB o=true)(hi:inV o.val)(hr:o.review≤999999999):opL o.kind o.subj o.reason o.glass (tailD o)=(o,true):=by
 have F:=mX hf;have hcase:=yo F.case;have hfield:=yo F.field;have hto:=yo F.to;have hok:=F.ok;have hval:=F.val;have hkk:=F.kind;simp only[cB,dj,Bool.and_eq_true,decide_eq_true_eq]at hf;have heq:=hf.2.2;obtain⟨k,subj,case,field,to,v,review,text,reason,glass⟩:=o;simp only at hcase hfield hto hok hval hkk heq hi hr⊢;have hz:v.kind=an.kind→v.n=an.n→v.s=an.s→an=v:=by
  intro a b c;obtain⟨x,y,z⟩:=v
  simp_all
 have w1:=(fZ hcase field).2;have w2:=(fZ hcase to).2;have w3:=(fZ hcase (field++32::oW v)).2;have w4:=(fZ hfield (oW v)).2;have lv:eqV v an=false→fB (oW v)=(v,true):=fun e=>D8 (by simpa[e]using hval) hi
 have nb:=fun h=>ML (n:=review) h hr
 have hc:k=1∨k=2∨k=3∨k=4∨k=5∨k=6∨k=7∨k=8:=adK;rcases hc with rfl|rfl|rfl|rfl|rfl|rfl|rfl|rfl
 all_goals
  simp[mS,gF,iF]at heq;simp[okD]at hok;simp[opL,tailD]
  grind
theorem J3{o:OpD}(hf:cB o=true)(hi:inV o.val)(hr:o.review≤999999999)(hs:∀c∈o.reason,c≠32):jq (ud o)=some o:=by
 have F:=mX hf;obtain⟨k1,k2,k3⟩:=J1 F.kind.1 F.kind.2;have w1:cG (ud o)=(o.subj,(if o.glass then 33::(o.reason++ [32])else [])++(cy o.kind++32::tailD o)):=(fZ (Ii F.subj) _).2
 have w2:pF ((if o.glass then 33::(o.reason++ [32])else [])++(cy o.kind++32::tailD o))=(o.glass,o.reason,cy o.kind++32::tailD o):=by
  unfold pF;cases hg:o.glass
  ·have hre:o.reason= []:=by
    simp only[cB,Bool.and_eq_true]at hf;have:=hf.1.1.1.1.1.1.2;unfold kY at this;rw[hg]at this;exact eq_of_beq this
   obtain⟨c,l,hcl⟩:∃c l,cy o.kind=c::l:=by
    match h:cy o.kind,k3 with
    |c::l,_=>exact⟨c,l,rfl⟩
   have hc:=(k2 c adL).2;rw[if_neg,hre]
   ·rfl
   grind
  simp_all [if_pos,fZ,cy,tailD,if_true,List.cons_append,List.append_assoc,List.drop_succ_cons,List.drop_zero,List.nil_append]
 have w3:cG (cy o.kind++32::tailD o)=(cy o.kind,tailD o):=(fZ (fun c hc=>(k2 c hc).1) _).2
 have hraw:zz (ud o)=(o,true):=by
  grind [zz,PA]
 unfold jq;rw[hraw];simp[hf]
end Go.Bf
namespace Go.Proofs.YtfdgemhnlennbaaGreatDoor
open Go Go.Ab Go.Bf
def GI(o:OpD):Txt:=if o.glass then o.subj++ [32,33]++o.reason else o.subj
theorem EB(o:OpD):ud o=GI o++ [32]++cy o.kind++32::tailD o:=by
 grind [ud,GI]
theorem xV(k:Int):(cy k).length≤6:=by
 unfold cy;split
 ·decide
 ·obtain⟨n,hn⟩:∃n,(k - 1).toNat=n:=⟨_,rfl⟩
  rw[hn];unfold Qx
  match n with
  |0|1|2|3|4|5|6=>decide
  |n+7=>simp
theorem J8(o:OpD)(hf:cB o=true)(hi:inV o.val)(hr:i64 o.review)(h:Heap)(ht:tu h):ai Tryz.prog 32 [opA o] h fun r h' =>r= .s (ud o)∧h' =h:=by
 have F:=mW hf;have hl:lim=9223372036854775808:=rfl;have f1:=F.subj;have f2:=F.case;have f3:=F.field;have f4:=F.to;have f5:=F.text;have f6:=F.reason;have hal:=xV o.kind;have hkk:=(mX hf).kind;refine adJ Tryz.func32 81 [.tmp 2] fun hwf=>?_
 simp -implicitDefEqProofs only[go_sem,opA,opC];intro i1 h1;have hs1:∀b,Ab.Sub h (upd h i1 b):=fun b=> .aj h1
 simp -implicitDefEqProofs only[go_sem,ah];refine jH.join (fun ρ H=>∃B:Txt,B=GI o∧B.length≤200∧lk ρ 1=some (.ptr i1 0)∧lk ρ 3=some (.s B)∧H=upd h i1 (some (.obj [.i o.kind,.s o.subj,.s o.case,.s o.field,.s o.to,.i o.val.kind,.i o.val.n,.s o.val.s,.i o.review,.s o.text,.s o.reason,.b o.glass] 39))) ?_ fun K1 hK1=>?_
 rotate_left
 ·cases hg:o.glass
  ·simp -implicitDefEqProofs only[go_sem,hg]
   exact hK1 _ _ ⟨o.subj,by grind [GI],adK,adV,adV,by rw[hg]⟩
  ·simp -implicitDefEqProofs only[go_sem,hg,ah]
   exact⟨adK,adL,hK1 _ _ ⟨o.subj++ [32,33]++o.reason,by grind [GI],adL,adV,adV,by rw[hg]⟩⟩
 rintro ρ H ⟨B,hB,hBl,r1,r3,rfl⟩
 simp -implicitDefEqProofs only[go_sem,r1,r3,ah];refine⟨adK,?_⟩;refine(rJ o.kind ⟨adK,adK⟩ _).pthen ?_;obtain⟨A,hA⟩:∃A,B++ [32]++cy o.kind=A:=⟨_,rfl⟩;have hAl:A.length≤300:=adL;have hline:ud o=A++32::tailD o:=by grind [EB]
 have hv:=fun H (hH:tu H)=>zX vG o.val hi H hH
 have hn:=fun H (hH:tu H)=>zX vG ⟨2,o.review,[]⟩ hr H hH
 simp only[aP]at hv hn;have hvl:=uK o.val hi;have hnl:=uK ⟨2,o.review,[]⟩ hr;simp -implicitDefEqProofs only[go_sem,r1,r3,ah,hA];refine⟨adL,?_⟩;have fin:∀y:Txt,y=A++32::tailD o→mP [.s y] (upd h i1 (some (.obj [.i o.kind,.s o.subj,.s o.case,.s o.field,.s o.to,.i o.val.kind,.i o.val.n,.s o.val.s,.i o.review,.s o.text,.s o.reason,.b o.glass] 39))) fun r h' =>r= .s (ud o)∧h' =h:=fun y e=> .mk _ (.refl _) (.aj h1) ⟨by rw[e,←hline];rfl,rfl⟩
 unfold tailD at fin;obtain⟨k,ek⟩:∃k,o.kind=k:=⟨_,rfl⟩;rw[ek]at fin hkk⊢;have hc:k=1∨k=2∨k=3∨k=4∨k=5∨k=6∨k=7∨k=8:=adK;rcases hc with rfl|rfl|rfl|rfl|rfl|rfl|rfl|rfl
 ·exact ajH
 ·exact aiL
 ·simp -implicitDefEqProofs only[go_sem,r1,r3,ah]
  refine .quiet adN ?_;simp -implicitDefEqProofs only[go_sem,r1,r3,ah];refine⟨adK,adL,adL,adL,adL,_,hv _ (ht.sub (hs1 _)),?_⟩;simp -implicitDefEqProofs only[go_sem,r1,r3,ah]
  grind
 ·exact aiL
 ·exact aiP
 ·exact aiL
 ·exact ajH
 ·exact aiP
theorem My{o:OpD}(hf:cB o=true)(hi:inV o.val)(hr:i64 o.review):(ud o).length≤900000:=by
 have F:=mW hf;have f1:=F.subj;have f2:=F.case;have f3:=F.field;have f4:=F.to;have f5:=F.text;have f6:=F.reason;have hal:=xV o.kind;have hvl:=uK o.val hi;have hnl:=uK ⟨2,o.review,[]⟩ hr;have h1:(tailD o).length≤5000:=by
  grind [tailD,adE,List.length_cons]
 have h2:(GI o).length≤100:=by
  grind [GI,adE,List.length_cons,List.length_nil]
 rw[EB];exact ajh
theorem Ax(x:AV)(dx:Dat U 39 x)(h:Heap)(he:ja h)(ht:tu h):ai Tryz.prog 5 [x] h fun r h' =>r= .b true∧h' =h:=by
 obtain⟨o0,rfl,o64⟩:=RY dx;have hko:=fun H=>SP o0 H
 replace o64:=SO o64;generalize MS o0=o at hko o64;have hfo:=fun H=>tQ o H
 simp only[opA,opC]at hko hfo;refine adJ Tryz.func5 45 [.tmp 2] fun hwf=>?_
 simp -implicitDefEqProofs only[go_sem,opA,opC];intro i1 h1;simp -implicitDefEqProofs only[go_sem,ah];refine(hko _).pthen ?_;simp -implicitDefEqProofs only[go_sem,ah,cI];refine(hfo _).pthen ?_;have hs1:∀b,Ab.Sub h (upd h i1 b):=fun b=> .aj h1
 have hrun:=fun b=>gM _ (he.sub (hs1 b)) (ht.sub (hs1 b))
 generalize hH:upd h i1 _=H;have f1:H i1=some (.obj (opC o) 39):=afG;have hsH:Ab.Sub h H:=adL;clear hH hrun;have hrun:=gM H (he.sub hsH) (ht.sub hsH);unfold opC at f1;cases hf:cB o
 ·simp -implicitDefEqProofs only[go_sem,hf]
  exact aiW
 cases hr:decide (o.review>999999999)
 case true=>
  simp -implicitDefEqProofs only[go_sem,hf,f1,hr];exact aiW
 simp -implicitDefEqProofs only[go_sem,hf,f1,hr];have hr2:o.review≤999999999:=adL;refine .intro (fun m ρ G=>G=H∧∃i:Nat,(∀c∈o.reason.take i,c≠32)∧i≤o.reason.length∧m=o.reason.length - i∧lk ρ 1=some (.ptr i1 0)∧lk ρ 3=some (.i i)) o.reason.length ?_ ?_
 ·refine⟨rfl,0,fun c hc=>adL,adK,rfl,?_,?_⟩<;>simp -implicitDefEqProofs only[go_sem]
 rintro m ρ G ⟨rfl,i,hno,hi,rfl,r1,r3⟩
 cases d1:decide ((i:Int)<(o.reason.length:Int))
 case true=>
  have hi2:i<o.reason.length:=adL;have w1:IntKind.i64.wrap ((i:Int)+1)=((i+1:Nat):Int):=by
   have:=(mW hf).reason
   grind [bh]
  simp -implicitDefEqProofs only[go_sem,r1,r3,f1,d1];refine .at i hi2 ?_;cases d2:(((o.reason[i].toNat:Nat):Int)==32)
  ·simp -implicitDefEqProofs only[go_sem,r1,r3,f1,d2,aJ,w1]
   have hc:o.reason[i]≠32:=fun e=>ahD
   exact⟨o.reason.length - (i+1),adK,rfl,i+1,fun c hc2=>by
    grind [List.take_succ_eq_append_getElem,List.mem_singleton],adK,rfl,by simp -implicitDefEqProofs only[go_sem,r1],adV⟩
  ·simp -implicitDefEqProofs only[go_sem,r1,r3,f1,d2,aJ]
   exact aiW
 have hall:∀c∈o.reason,c≠32:=by
  grind
 simp -implicitDefEqProofs only[go_sem,r1,r3,f1,d1];have hw:=J8 o hf o64.2.2.1 o64.2.2.2 G (ht.sub hsH);simp only[opA,opC]at hw;refine hw.pthen ?_;simp -implicitDefEqProofs only[go_sem];refine(ni _ (My hf o64.2.2.1 o64.2.2.2) _ (he.sub hsH)).pthen ?_;unfold uc;rw[J3 hf o64.2.2.1 hr2 hall];simp -implicitDefEqProofs only[go_sem,Option.isSome_some,Option.getD_some,opA,opC];intro i4 h4;have n41:i4≠i1:=fun e=>adL
 simp -implicitDefEqProofs only[go_sem,r1,f1,ah,cI,ak,n41.symm,beq_self_eq_true,Bool.and_self];have hs4:∀b,Ab.Sub h (upd G i4 b):=fun b=>hsH.new h4 b
 refine(gM _ (he.sub (hs4 _)) (ht.sub (hs4 _))).pthen ?_;simp -implicitDefEqProofs only[go_sem];exact .mk _ (.refl _) (hs4 _) ⟨rfl,rfl⟩
theorem zI(ev:Value)(hev:ev= .nilIface∨∃te pe,ev= .iface te pe)(x:AV)(dx:Dat U 39 x):ai Tryz.prog 5 [x] (uE [(3,nu),(2,[ev])]) fun r _=>r= .b true:=(Ax x dx _ (vL hev) ⟨0,rfl⟩).mono fun _ _ h=>h.1
end Go.Proofs.YtfdgemhnlennbaaGreatDoor
