/- The law TopVersions,TopChainGrows: pack 7 of its texts. -/
import Derived.Test.YtbbadggejjgihaaGreatDoorPk1
import Derived.Test.YtbbadggejjgihaaGreatDoorPk2
import Derived.Test.YtbbadggejjgihaaGreatDoorPk3
import Derived.Test.YtbbadggejjgihaaGreatDoorPk4
import Derived.Test.YtbbadggejjgihaaGreatDoorPk5
import Derived.Test.YtbbadggejjgihaaGreatDoorPk6
set_option linter.unusedSimpArgs false
set_option linter.unusedVariables false
set_option maxRecDepth 100000
namespace Go.Proofs.YtbbadggejjgihaaGreatDoor
open Go Go.Ab Go.Bf
theorem bS.touch{h h' :Heap}{id:Nat}{d:D}{S:List Nat}(hd:bS h id d)(ht:Touch S h h')(hS:∀i∈S,∀cs,h i≠some (.obj cs 143)∧h i≠some (.obj cs 5)):bS h' id d:=by
 obtain⟨y,hy,hb⟩:=hd;refine⟨y,ht _ _ aea hy,?_⟩;rcases hb with hb|⟨j,off,cs2,rfl,a1,a2,a3⟩
 ·exact ah5
 ·exact .oa (ht _ _ aea a1) a2 a3
theorem Se(x jid did:Nat)(e:cB)(d:D)(spl spj:List Nat)(o:OpD)(h:Heap)(he:jL h x jid did e spl spj)(hdk:bS h did d)(hdo:d.ok)(hps:e.ps.length≤1000000)(hlg:e.log.length≤1000000)(hd:e.down=false){k:Nat}(hG:gC k e.s)(hk:k≤1000)(h64:oF o)(her:iQ h)(hne:(aF e.s o).2.2.2=0)(hcode:(jadd d e.ps false (dW e.ch o)).2=0):
  ai Tryz.prog 30 [.ptr x 0,opA o] h fun r h' =>r= .agg (mg (doE e d o).2.2)∧∃spl' spj',jL h' x jid did (doE e d o).1 spl' spj'∧bS h' did (doE e d o).2.1∧Touch (x::did::jid::(spl++spj)) h h'∧(∀i∈spl',i∈spl∨i∈spj∨h i=none)∧(∀i∈spj',i∈spj∨h i=none):=by
 have hF:=om (iE hne);have hrl:=uv (h:=e.ch) hF;have hpl:=CB hF;have edo:doE e d o=(let a:=jadd d e.ps false (dW e.ch o);if a.2=0 then({nN e (aF e.s o) (dW e.ch o)with ps:=a.1.2.1,down:=a.1.2.2},a.1.1,(aF e.s o).2.1)else({e with ps:=a.1.2.1,down:=a.1.2.2},a.1.1,Dq (a.2:Int))):=by
  exact ajV
 have hgd:=fun(G:Heap) (hG' :Ab.Sub h G)=>pz e.s hG hk o h64 G (her.sub hG')
 have he0:=he;obtain⟨yl,hx,hg,hj⟩:=he;obtain⟨a1,a2,a3,a4,a5,a6,a7,es⟩:=ck e.s;have g:=hx;unfold lD at g;rw[es]at g;simp only[List.cons_append,List.nil_append]at g;refine ad8 Tryz.func30 53 [.cell 4 66] fun hwf=>?_
 simp -implicitDefEqProofs only[go_sem,opA,opC];intro i1 h1;have x1:i1≠x:=fun e=>ag0
 simp -implicitDefEqProofs only[go_sem];intro i2 h2;have n2:=aB h2;have x2:i2≠x:=fun e=>ag1
 have n21:=aI h2;generalize hH:upd (upd h i1 _) i2 _=H;have kx:H x=_:=(by rw[←hH,ag _ _ (Ne.symm x2),ag _ _ (Ne.symm x1)]:H x=h x).trans g
 have k2:H i2=some (.obj nZ 66):=agz;have k1:H i1=some (.obj (opC o) 34):=afp;have hsub:Ab.Sub h H:=aeM;clear hH g;unfold nZ at k2;simp -implicitDefEqProofs only[go_sem,kx];refine(xD jid did e.ps e.down spj H (hj.sub hsub)).pthen ?_;rw[hd];generalize aF e.s o=gd at hgd hne edo⊢;obtain⟨S,R,D,E⟩:=gd;simp only at hne edo⊢;subst hne;obtain⟨b1,b2,b3,b4,b5,b6,b7,es2⟩:=ck S;rw[pE,show cI e.s= .agg (iO e.s)from rfl,es,show cI S= .agg (iO S)from rfl,es2]at hgd
 simp only[opA,opC]at hgd;unfold opC at k1;simp -implicitDefEqProofs only[go_sem];refine .tree _ (.quiet [0,1,2,3,4] 5 (.news [6,7,8,9,10] [11,12,13] (.seq [14,15,16,17]))) (.refl _) aec rfl ?_;simp -implicitDefEqProofs only[go_sem,kx,k1];refine⟨_,fun G hs=>hgd G (hsub.trans hs),?_⟩
 simp -implicitDefEqProofs only[go_sem];refine⟨.refl _,aeg,?_⟩;intro jd hjd je hje jf hjf;have ned:=aI hje;have kje:=aB hje;have nfe:=aI hjf;have nfd:=aI (aB hjf);have kjf:=aB (aB hjf);simp -implicitDefEqProofs only[go_sem,ak,ned,ned.symm,nfe,nfe.symm,nfd,nfd.symm];refine⟨ael,ael,ael,?_⟩;have mjd:=hsub.none hjd;have mje:=hsub.none kje;have mjf:=hsub.none kjf;have j2:jd≠i2:=fun e=>ahI
 have j2e:je≠i2:=fun e=>ahJ
 have j2f:jf≠i2:=fun e=>ahK
 refine HJ fun H2 w2=>?_
 have xjd:jd≠x:=fun e=>ahM
 have xje:je≠x:=fun e=>ahN
 have xjf:jf≠x:=fun e=>ahO
 have y1:jd≠i1:=fun e=>by rw[e,k1]at hjd;cases hjd
 have y2:je≠i1:=fun e=>by rw[e,k1]at kje;cases kje
 have y3:jf≠i1:=fun e=>by rw[e,k1]at kjf;cases kjf
 have hs2:Ab.Sub h H2:=af3;have fx:H2 x=_:=(by rw[w2];simp only[ak,xjd,xjd.symm,xje,xje.symm,xjf,xjf.symm,ne_eq,not_false_eq_true]:H2 x=H x).trans kx
 have f1:H2 i1=_:=(by rw[w2];simp only[ak,y1,y1.symm,y2,y2.symm,y3,y3.symm,ne_eq,not_false_eq_true]:H2 i1=H i1).trans k1
 have f2:H2 i2=_:=(by rw[w2];simp only[ak,j2,j2.symm,j2e,j2e.symm,j2f,j2f.symm,ne_eq,not_false_eq_true]:H2 i2=H i2).trans k2
 have fd:H2 jd=some (.obj [.i S.tick,gm S.cases,kN S.reviews,lO S.notices,eJ S.roles,b1,b2,b3,b4,b5,b6,b7,.i S.version] 51):=aeu;have fe:H2 je=some (.obj [.i R.err,.v (.complex .f64 (hbit R.mark.1) (hbit R.mark.2)),.b R.glass,.i R.val.kind,.i R.val.n,.s R.val.s,.b R.hidden,.i R.at_] 66):=aeu;have ff:H2 jf=some (.obj (tE D) 39):=ae0;clear w2;refine .quiet aec ?_;simp -implicitDefEqProofs only[go_sem,fx,f1];refine⟨_,GK e.ch o h64 (f_l hF) ad9 _,?_⟩;simp -implicitDefEqProofs only[go_sem,fx];refine(Ib d hdo did jid e.ps e.down spj H2 _ (dW e.ch o) (hdk.keep hs2.gh) (hj.sub hs2) (.sl _ _) ad9 hps).mono fun r H3 ⟨er,spj',hd3,hj3,hT3,hs3⟩=>?_
 subst er;have hin:∀q∈did::jid::spj,∃b,h q=some b∧∀cs,b≠ .obj cs 88:=fun q hq=>by
  exact aiO
 have out:∀q,h q=none→q∉did::jid::spj:=fun q hq hi=>by
  obtain⟨b,hb,_⟩:=hin q hi;rw[hq]at hb;cases hb
 have outx:x∉did::jid::spj:=fun hi=>by
  exact aj1
 have fx3:=hT3 _ _ outx fx;have f23:=hT3 _ _ (out i2 n2) f2;have fd3:=hT3 _ _ (out jd mjd) fd;have fe3:=hT3 _ _ (out je mje) fe;have ff3:=hT3 _ _ (out jf mjf) ff;rw[hd]at hd3 hj3⊢;generalize jadd d e.ps false (dW e.ch o)=a at hd3 hj3 edo hcode⊢;obtain⟨⟨d2,ps2,dn2⟩,code⟩:=a;simp only at hd3 hj3 edo hcode⊢;subst hcode;rw[if_pos rfl]at edo;simp only[tE,opC,List.cons_append,List.nil_append]at ff3;have hsp:∀i∈spl,i∉did::jid::spj:=fun i hi hq=>by
  exact aiM
 have hg3:=(hg.touch (S:=[]) (.of hs2) (fun i hi hh=>afz)).touch hT3 hsp
 have hx3:H3 x=some (lD jid e yl):=by rw[fx3];unfold lD;rw[es];rfl
 have hgo:=HV e S D (dW e.ch o) .no jid x yl spl H3 hx3 hg3 hlg ad9;rw[show cI S= .agg (iO S)from rfl,es2]at hgo
 simp only[tE,opC,List.cons_append,List.nil_append]at hgo;simp -implicitDefEqProofs only[go_sem,fd3,ff3];refine hgo.mono fun r H4 ⟨er,yl',spl',hx4,hg4,hT4,hs4⟩=>?_
 subst er;have hnl:∀q,h q=none→q∉x::spl:=fun q hq hh=>by
  rcases List.mem_cons.1 hh with rfl|hh
  ·rw[hx]at hq;cases hq
  ·obtain⟨n,hn⟩:=hg.has q hh
   rw[hn]at hq;cases hq
 have fe4:=hT4 _ _ (hnl je mje) fe3;have f24:=hT4 _ _ (hnl i2 n2) f23;simp -implicitDefEqProofs only[go_sem,fe4,f24,ah];have hF4:∀b,Touch [i2] H4 (upd H4 i2 b):=fun b=> .upd
 have hj3' :=hj3;obtain⟨z,zs,hz1,hz2,_⟩:=hj3';have jx:jid∉x::spl:=fun hh=>by
  exact ajn
 have sx:∀i∈spj',i∉x::spl:=fun i hi hh=>by
  obtain⟨n,hn⟩:=hz2.has i hi;rcases List.mem_cons.1 hh with rfl|hh
  ·rw[hx3]at hn;cases hn
  ·obtain⟨n2,hn2⟩:=hg3.has i hh
   rw[hn2]at hn;cases hn
 have hj4:=hj3.touch hT4 jx sx;have hj4' :=hj4;obtain⟨z4,zs4,hz41,hz42,_⟩:=hj4';have hd4:=hd3.touch hT4 (fun i hi cs=>by
  rcases List.mem_cons.1 hi with rfl|hi
  ·rw[hx3];exact⟨fun hh=>afz,fun hh=>afz⟩
  ·obtain⟨n,hn⟩:=hg3.has i hi
   rw[hn];exact⟨fun hh=>afz,fun hh=>afz⟩)
 refine .same (.refl _) ⟨by rw[edo];rfl,spl',spj',?_,?_,?_,fun i hi=>?_,fun i hi=>?_⟩
 ·rw[edo]
  refine⟨yl',?_,hg4.touch (hF4 _) ?_,hj4.touch (hF4 _) ?_ ?_⟩
  ·rw[ag _ _ (Ne.symm x2),hx4]
   unfold lD;simp only[nN]
  ·intro i hi hh
   obtain⟨n,hn⟩:=hg4.has i hi;rw[List.mem_singleton.1 hh,f24]at hn;cases hn
  ·intro hh
   rw[List.mem_singleton.1 hh,f24]at hz41;cases hz41
  ·intro i hi hh
   obtain⟨n,hn⟩:=hz42.has i hi;rw[List.mem_singleton.1 hh,f24]at hn;cases hn
 ·rw[edo]
  exact hd4.upd f24 aed aed
 ·exact((((Touch.of (S:=[]) hs2).trans hT3).trans hT4).trans (hF4 _)).mono (fun i hi=>by
   simp only[List.nil_append,List.mem_append,List.mem_cons,List.mem_singleton,List.not_mem_nil,or_false]at hi;rcases hi with((h3|h3|h3)|(h3|h3))|h3
   ·left;simp[h3]
   ·left;simp[h3]
   ·left;simp[h3]
   ·left;simp[h3]
   ·left;simp[h3]
   ·right;rw[h3];exact n2)
 ·rcases hs4 i hi with h3|h3
  ·exact .inl h3
  ·right
   cases hh:h i with
   |none=>exact .inr rfl
   |some b=>
    left
    by_cases hm3:i∈did::jid::spj
    ·simp only[List.mem_cons]at hm3
     rcases hm3 with rfl|rfl|hm3
     ·obtain⟨w,hw,_⟩:=hd3
      rw[hw]at h3;cases h3
     ·rw[hz1]at h3;cases h3
     ·exact hm3
    ·have:=hT3 _ _ hm3 (hs2 _ _ hh)
     rw[h3]at this;cases this
 ·rcases hs3 i hi with h3|h3
  ·exact .inl h3
  ·right;exact hs2.none h3
theorem Vk(x jid did:Nat)(e:cB)(d:D)(spl spj:List Nat)(o:OpD)(h:Heap)(he:jL h x jid did e spl spj)(hdk:bS h did d)(hdo:d.ok)(hps:e.ps.length≤1000000)(hlg:e.log.length≤1000000){k:Nat}(hG:gC k e.s)(hk:k≤1000)(h64:oF o)(her:iQ h):
  ai Tryz.prog 30 [.ptr x 0,opA o] h fun r h' =>r= .agg (mg (doE e d o).2.2)∧∃spl' spj',jL h' x jid did (doE e d o).1 spl' spj'∧bS h' did (doE e d o).2.1∧Touch (x::did::jid::(spl++spj)) h h'∧(∀i∈spl',i∈spl∨i∈spj∨h i=none)∧(∀i∈spj',i∈spj∨h i=none):=by
 have stay:∀R:ji,doE e d o=(e,d,R)→∀(r:AV) (h' :Heap),(r= .agg (mg R)∧h' =h)→r= .agg (mg (doE e d o).2.2)∧∃spl' spj',jL h' x jid did (doE e d o).1 spl' spj'∧bS h' did (doE e d o).2.1∧Touch (x::did::jid::(spl++spj)) h h'∧(∀i∈spl',i∈spl∨i∈spj∨h i=none)∧(∀i∈spj',i∈spj∨h i=none):=fun R ed r h' ⟨e1,e2⟩=>by
  subst e2;rw[ed];exact⟨e1,spl,spj,he,hdk,.refl _ _,fun i hi=> .inl hi,fun i hi=> .inl hi⟩
 cases hd:e.down
 case true=>
  exact(OS x jid did e spl spj o h he hd).mono (stay _ (by simp_all [doE,if_pos]))
 by_cases hne:(aF e.s o).2.2.2=0
 case neg=>
  exact(Sd x jid did e spl spj o h he hd hG hk h64 her hne).mono (stay _ (by
   simp_all [doE,if_neg,if_pos]))
 by_cases hcode:(jadd d e.ps false (dW e.ch o)).2=0
 ·exact Se x jid did e d spl spj o h he hdk hdo hps hlg hd hG hk h64 her hne hcode
 ·exact(Sf x jid did e d spl spj o h he hdk hdo hps hlg hd hG hk h64 her hne hcode).mono fun r h' ⟨a,s1,s2,b,c,f,g,i⟩=>⟨a,s1,s2,b,c,f,fun q hq=>(g q hq).imp id .inr,i⟩
theorem Vd{P:Program}{U:TypeId→TI}{n:Nat}{a b:Code}{ρ:Env}{h:Heap}{K:Exit→Env→Heap→Prop}{y:AV}(hh:∀H2,H2=h→kH P U n a b ρ H2 K y):kH P U n a b ρ h K y:=hh h rfl
theorem iQ.touch{h h' :Heap}{S:List Nat}(he:iQ h)(ht:Touch S h h')(hS:∀i∈S,∀b vs,h i≠some (.ro b vs)):iQ h' :=by
 obtain⟨ev,hev,id,hi⟩:=he;exact⟨ev,hev,id,ht _ _ aea hi⟩
theorem F0{e:cB}{l:List Txt}{i:Nat}(hi:i<l.length){e1:cB}(h:j3 e (l.take i)=some e1):j3 e (l.take (i+1))=jg e1 l[i]:=by
 grind [List.take_succ_eq_append_getElem,sE]
theorem FZ{e:cB}{l:List Txt}{i:Nat}(h:j3 e (l.take i)=none):j3 e l=none:=by
 rw[←List.take_append_drop i l];generalize l.take i=a at h⊢
 induction a generalizing e with
 |nil=>cases h
 |cons p a ih=>
  simp only[List.cons_append,j3]at h⊢
  grind
theorem Th{e e' :cB}{p:Txt}{k:Nat}(h:jg e p=some e')(hG:gC k e.s):gC (k+1) e'.s:=by
 unfold jg at h;cases hr:ic e p with
 |none=>grind
 |some o=>
  rw[hr]at h;simp only at h;split at h
  ·cases h;exact qO o hG
  grind
theorem PU{e:cB}{p:Txt}{o:OpD}(h:ic e p=some o)(hl:p.length≤1000000):oF o:=by
 grind [ic,HU,List.length_drop]
def uQ(h h' :Heap)(did:Nat)(ps:List Txt)(r:AV):Prop:=match vE ps with
 |none=>r= .tup [.v (.pointer none),.i 7]
 |some e=>∃x jid spl spj,r= .tup [.ptr x 0,.i 0]∧jL h' x jid did e spl spj∧(∀i∈x::jid::(spl++spj),h i=none)
theorem newL:iO xx= [.i 0,.sl [] .no,.sl [] .no,.sl [] .no,.sl [] .no,.s jR,.b false,.i 6,.sl [] .no,.sl [] .no,.sl [] .no,.sl [] .no,.i 0]:=rfl
theorem NJ(d:D)(hdo:d.ok)(did:Nat)(h:Heap)(hdk:bS h did d)(her:iQ h)(hps:(scan d.b).1.length≤900):
  ai Tryz.prog 14 [.ptr did 0] h fun r h' =>bS h' did d.bX.1∧Keep did h h'∧if d.bX.2=0 then uQ h h' did (scan d.b).1 r else r= .tup [.v (.pointer none),.i (d.bX.2:Nat)]:=by
 have hlen:=(P9 d.b).2;refine ad8 Tryz.func14 62 [.tmp 2,.tmp 3] fun hwf=>?_
 simp only[go_sem];refine(Mt d hdo did h hdk).mono fun r h1 ⟨J,e1,hd1,kp1,hif⟩=>?_
 subst e1;have her1:iQ h1:=her.touch (.keep kp1) (fun i hi b vs hh=>by
  obtain⟨y,hy,_⟩:=hdk;rw[List.mem_singleton.1 hi,hy]at hh;cases hh)
 generalize (scan d.b).1=ps at hps hlen hif⊢;generalize d.bX=od at hd1 hif⊢;obtain⟨d1,c1⟩:=od;simp only at hd1 hif⊢
 by_cases hc:c1=0
 case neg=>
  rw[if_neg hc]at hif;subst hif;have t1:(((c1:Nat):Int) !=0)=true:=by simp[hc]
  simp only[go_sem,t1];exact .same (.refl _) ⟨hd1,kp1,by rw[if_neg hc];rfl⟩
 subst hc;rw[if_pos rfl]at hif;obtain⟨jid,spj,rfl,hjn,hj,hsn⟩:=hif;simp only[go_sem];refine(SV h1 her1).pthen ?_;rw[show cI xx= .agg (iO xx)from rfl,newL]
 simp only[go_sem];intro x hx;have hxh:h x=none:=by
  cases hh:h x with
  |none=>rfl
  |some k=>
   by_cases e:x=did
   ·subst e
    obtain⟨y,hy,_⟩:=hd1;rw[hy]at hx;cases hx
   ·rw[kp1 _ _ e hh]at hx;cases hx
 simp only[go_sem];refine inH fun H1 w1=>?_
 have hs1:Ab.Sub h1 H1:=by rw[w1];exact(Sub.refl h1).new hx _
 have hE1:jL H1 x jid did (jh ps) [] spj:=⟨_,by rw[w1,ah];rfl,.inl ⟨rfl,rfl,rfl⟩,hj.sub hs1⟩
 clear w1;have hK1:Keep did h H1:=kp1.trans (hs1.keep did);refine(zE jid did ps false spj H1 (hj.sub hs1) ad9 (fun p hp=>by have:=hlen p hp;omega)).mono fun r h2 ⟨q,er,hs2⟩=>?_
 subst er;simp only[go_sem,adZ];refine .intro (fun m ρ H=>∃(i:Nat) (e:cB) (spl:List Nat),j3 (jh ps) (ps.take i)=some e∧e.ps=ps∧e.down=false∧e.log.length=i∧gC i e.s∧jL H x jid did e spl spj∧bS H did d1∧Keep did h H∧(∀j∈spl,h j=none)∧i≤ps.length∧m=ps.length - i∧lk ρ 6=some (.ptr x 0)∧lk ρ 28=some (.sl (ps.map gV) q)∧lk ρ 29=some (.i ps.length)∧lk ρ 30=some (.i i)) (ps.length - 0) ?_ ?_
 ·obtain⟨yl,a,b,c⟩:=hE1
  refine⟨0,jh ps,[],rfl,rfl,rfl,rfl,sF,⟨yl,hs2 _ _ a,b.touch (S:=[]) (.of hs2) (fun i hi=>by cases hi),c.sub hs2⟩,(hd1.keep hs1.gh).keep hs2.gh,hK1.trans (hs2.keep did),fun j hj=>(by cases hj),ad9,rfl,?_,?_,?_,?_⟩<;>simp only[go_sem]
 rintro m ρ H ⟨i,e,spl,hf,hps2,hdn,hlg,hG,hE,hD,hK,hsl,hi,rfl,r6,r28,r29,r30⟩
 by_cases hlt:i<ps.length
 case neg=>
  have ei:i=ps.length:=ad9;have t1:decide ((i:Int)<(ps.length:Int))=false:=decide_eq_false ad9;rw[ei,List.take_length]at hf;simp only[go_sem,r6,r28,r29,r30,t1];refine .same (.refl _) ⟨hD,hK,?_⟩
  show uQ h H did ps (.tup [.ptr x 0,.i 0])
  unfold uQ vE;rw[hf];exact⟨x,jid,spl,spj,rfl,hE,fun j hj=>by
   simp only[List.mem_cons,List.mem_append]at hj;rcases hj with rfl|rfl|hj|hj
   ·exact hxh
   ·exact hjn
   ·exact hsl _ hj
   ·exact(hsn _ hj).1⟩
 have t1:decide ((i:Int)<(ps.length:Int))=true:=decide_eq_true ad9;have w3:=ad5 i ad9;have ix:=fun k=>eC.eq (xs:=ps.map gV) (sz:=1) i aew aen k
 have hf1:=F0 hlt hf;have hpl:=hlen _ (ad4 hlt);rw[ad0]at ix;obtain⟨p,ep⟩:∃p,ps[i]=p:=⟨_,rfl⟩;rw[ep]at ix hf1 hpl;simp only[gV]at ix;have hEx:=hE;obtain⟨yl,hx2,hgl,hj2⟩:=hE;simp only[go_sem,r6,r28,r29,r30,t1,ix];refine(L5 p .no e yl jid x H ad9 hx2).pthen ?_;unfold Bx;have her2:iQ H:=her.touch (.keep hK) (fun i hi b vs hh=>by
  obtain⟨y,hy,_⟩:=hdk;rw[List.mem_singleton.1 hi,hy]at hh;cases hh)
 have bad:∀H',Ab.Sub H H'→jg e p=none→bS H' did d1∧Keep did h H'∧uQ h H' did ps (.tup [.v (.pointer none),.i 7]):=fun H' hs hn=>by
  refine⟨hD.keep hs.gh,hK.trans (hs.keep did),?_⟩;unfold uQ vE;rw[FZ (hf1.trans hn)]
 cases hr:ic e p with
 |none=>
  have hn:jg e p=none:=by unfold jg;rw[hr]
  simp only[go_sem,hr,opA,opC,sd,aq,Option.getD,Option.isSome];intro i9 h9;simp only[go_sem];exact .mk _ (.refl _) (.refl _) (bad _ ((Sub.refl H).new h9 _) hn)
 |some o=>
  have h64:=PU hr ad9;have hst:jg e p=if(aF e.s o).2.2.2=0 then some (nN e (aF e.s o) p)else none:=by unfold jg;rw[hr]
  obtain⟨a1,a2,a3,a4,a5,a6,a7,es⟩:=ck e.s;have hgd:=fun(G:Heap) (hG' :Ab.Sub H G)=>pz e.s hG ad9 o h64 G (her2.sub hG')
  have hG2:=qO o hG;have g:=hx2;unfold lD at g;rw[es]at g;simp only[List.cons_append,List.nil_append]at g;simp only[go_sem,hr,opA,opC,Option.getD,Option.isSome];intro i9 h9;have x9:i9≠x:=fun e=>by rw[e,hx2]at h9;cases h9
  simp only[go_sem];generalize hH:upd H i9 _=H1;have kx:H1 x=_:=(by rw[←hH,ag _ _ (Ne.symm x9)]:H1 x=H x).trans g
  have k9:H1 i9=some (.obj (opC o) 34):=agz;have hsub:Ab.Sub H H1:=by rw[←hH];exact(Sub.refl H).new h9 _
  clear hH g;generalize aF e.s o=gd at hgd hst hG2⊢;obtain⟨S,R,D,E⟩:=gd;simp only at hst hG2;obtain⟨b1,b2,b3,b4,b5,b6,b7,es2⟩:=ck S;rw[pE,show cI e.s= .agg (iO e.s)from rfl,es,show cI S= .agg (iO S)from rfl,es2]at hgd
  simp only[opA,opC]at hgd;unfold opC at k9;refine .tree _ (.quiet [0,1,2,3,4] 5 (.news [6,7,8,9,10] [11,12,13] (.seq [14,15,16,17]))) (.refl _) aec rfl ?_;simp only[go_sem,r6,kx,k9];refine⟨_,fun G hs=>hgd G (hsub.trans hs),?_⟩
  simp only[go_sem];refine⟨.refl _,aeg,?_⟩;intro jd hjd je hje jf hjf;have ned:=aI hje;have kje:=aB hje;have nfe:=aI hjf;have nfd:=aI (aB hjf);have kjf:=aB (aB hjf);simp only[go_sem,ak,ned,ned.symm,nfe,nfe.symm,nfd,nfd.symm];refine⟨ael,ael,ael,?_⟩;refine Vd fun H2 w2=>?_
  have xjd:jd≠x:=fun e=>ahM
  have xje:je≠x:=fun e=>ahN
  have xjf:jf≠x:=fun e=>ahO
  have hs2:Ab.Sub H H2:=by
   have:=hsub.none hjd;have:=hsub.none kje;have:=hsub.none kjf;rw[w2];repeat (first|exact hsub|refine Ab.Sub.put ?_ aem _)
  have fx:H2 x=_:=(by rw[w2];simp only[ak,xjd,xjd.symm,xje,xje.symm,xjf,xjf.symm,ne_eq,not_false_eq_true]:H2 x=H1 x).trans kx
  have fd:H2 jd=some (.obj [.i S.tick,gm S.cases,kN S.reviews,lO S.notices,eJ S.roles,b1,b2,b3,b4,b5,b6,b7,.i S.version] 51):=by rw[w2];simp only[ak,ned,ned.symm,nfe,nfe.symm,nfd,nfd.symm,ah,ne_eq,not_false_eq_true]
  have ff:H2 jf=some (.obj (tE D) 39):=by rw[w2];simp only[ak,ned,ned.symm,nfe,nfe.symm,nfd,nfd.symm,ah,ne_eq,not_false_eq_true];rfl
  clear w2;simp only[tE,opC,List.cons_append,List.nil_append]at ff
  by_cases hE0:E=0
  case neg=>
   have t2:(E !=0)=true:=by simp[hE0]
   rw[if_neg hE0]at hst;simp only[go_sem,t2];exact .same (.refl _) (bad _ hs2 hst)
  subst hE0;rw[if_pos rfl]at hst;have hx3:H2 x=some (lD jid e yl):=by rw[fx];unfold lD;rw[es];rfl
  have hg3:=hgl.touch (S:=[]) (.of hs2) (fun i hi hh=>afz)
  have hgo:=HV e S D p .no jid x yl spl H2 hx3 hg3 ad9 ad9;rw[show cI S= .agg (iO S)from rfl,es2]at hgo
  simp only[tE,opC,List.cons_append,List.nil_append]at hgo;simp only[go_sem,r6,fd,ff];refine hgo.mono fun r H4 ⟨er,yl',spl',hx4,hg4,hT4,hs4⟩=>?_
  subst er;simp only[go_sem,r6,r28,r29,r30,w3];have hout:∀j∈x::spl,h j=none:=fun j hj=>by
   rcases List.mem_cons.1 hj with rfl|hj
   ·exact hxh
   ·exact hsl _ hj
  have hdid:h did≠none:=by
   obtain⟨y,hy,_⟩:=hdk;rw[hy];simp
  have hj3:=hj2.sub hs2;have hD2:=hD.keep hs2.gh;refine⟨_,?_,i+1,nN e (S,R,D,0) p,spl',hf1.trans hst,hps2,hdn,?_,hG2,⟨yl',hx4,hg4,?_⟩,?_,?_,?_,ad9,rfl,?_,?_,?_,?_⟩
  ·omega
  ·simp[nN,hlg]
  ·refine hj3.touch hT4 ?_ ?_
   ·obtain⟨z,zs,hz1,_⟩:=hj3
    intro hh;exact ajn
   ·obtain⟨z,zs,_,hz2,_⟩:=hj3
    intro j hj hh;obtain⟨n,hn⟩:=hz2.has j hj;rcases List.mem_cons.1 hh with rfl|hh
    ·rw[hx3]at hn;cases hn
    ·obtain⟨n2,hn2⟩:=hg3.has j hh
     rw[hn2]at hn;cases hn
  ·exact hD2.touch hT4 (fun j hj cs=>by
    rcases List.mem_cons.1 hj with rfl|hj
    ·rw[hx3];exact⟨fun hh=>afz,fun hh=>afz⟩
    ·obtain⟨n,hn⟩:=hg3.has j hj
     rw[hn];exact⟨fun hh=>afz,fun hh=>afz⟩)
  ·intro j k hj hk
   exact hT4 _ _ (fun hh=>by rw[hout j hh]at hk;cases hk) (hs2 _ _ (hK _ _ hj hk))
  ·intro j hj
   rcases hs4 j hj with hh|hh
   ·exact hsl _ hh
   ·cases hk:h j with
    |none=>rfl
    |some k=>
     by_cases e1:j=did
     ·subst e1
      obtain⟨y,hy,_⟩:=hD2;rw[hy]at hh;cases hh
     ·rw[hs2 _ _ (hK _ _ e1 hk)]at hh;cases hh
  all_goals simp only[go_sem,r6,r28,r29]
theorem jL.sub{h h' :Heap}{x jid did:Nat}{e:cB}{spl spj:List Nat}(he:jL h x jid did e spl spj)(hs:Ab.Sub h h'):jL h' x jid did e spl spj:=by
 obtain⟨yl,a,b,c⟩:=he;exact⟨yl,hs _ _ a,b.touch (S:=[]) (.of hs) aeg,c.sub hs⟩
theorem LP(y:AV)(xs:List AV)(h:Heap)(hb:Rd h 16 y xs)(hl:xs.length≤1000000):ai Tryz.prog 31 [y] h fun r h' =>OwE 39 h h' 16 r xs∧Ab.Sub h h' :=by
 refine ad8 Tryz.func31 8 [.tmp 2] fun hwf=>?_
 simp only[go_sem];refine hb.nil fun b hxs=>?_
 cases b
 ·simp only[go_sem]
  refine hb.src (U:=U) (e:=39) aeo ⟨hb.1,ad9,OwE.jZ (U:=U) (sz:=16) aeo aeo hb.1 fun y' h' hw hs=>?_⟩
  exact aiu
 ·exact ais
theorem Jc(y:AV)(xs:List AV)(h:Heap)(hb:Rd h 3 y xs)(hl:xs.length≤10000000)(hp:gz xs=true):ai Tryz.prog 32 [y] h fun r h' =>r= .sl xs .no∧h' =h:=
 ai.freeze fun g hg _=>ai.mono (Q:=fun r h' =>OwE 91 g h' 3 r xs∧Ab.Sub g h') (by
  have hb:=hb.sub hg;refine ad8 Tryz.func32 8 [.tmp 2] fun hwf=>?_
  simp only[go_sem];refine hb.nil fun b hxs=>?_
  cases b
  ·simp only[go_sem]
   refine hb.src (U:=U) (e:=91) aeo ⟨hb.1,ad9,OwE.jZ (U:=U) (sz:=3) aeo aeo hb.1 fun y' h' hw hs=>?_⟩
   exact aiu
  ·have hx:xs= []:=by
    grind
   simp only[go_sem];exact .same (.refl _) ⟨.inl ⟨hx,rfl⟩,.refl _⟩) fun r h' ⟨h1,h2⟩=>⟨h2,_,h1.frz hp,rfl⟩
theorem Po(d:mw):cK (ldA d)=true:=by
 have:=bl (f:=bt) (fun _=>rfl) d.obls
 simp[ldA,tE,opC,ay,aN,cK,gz,this]
theorem Rp:(U 37).sz≠0:=aed
theorem Ts:(U 37).sz=1:=aeo
theorem OX(x jid did:Nat)(e:cB)(spl spj:List Nat)(h:Heap)(he:jL h x jid did e spl spj)(hl:e.log.length≤1000000)(ho:∀d∈e.log,d.obls.length≤10000000):
  ai Tryz.prog 11 [.ptr x 0] h fun r h' =>r= .sl (e.log.map ldA) .no∧h' =h:=
 ai.freeze fun g hgs _=>by
 obtain⟨yl,hx,hg,hj⟩:=he.sub hgs;obtain⟨a1,a2,a3,a4,a5,a6,a7,es⟩:=ck e.s;have gx:=hx;unfold lD at gx;rw[es]at gx;simp only[List.cons_append,List.nil_append]at gx;obtain⟨q,rfl⟩:=hg.row;generalize e.log=l at hl ho gx⊢;refine ad8 Tryz.func11 27 [.tmp 2] fun hwf=>?_
 simp only[go_sem,gx];refine(LP _ (l.map ldA) g (.sl (yV l) q) aea).mono fun z M ⟨o1,s1⟩=>?_
 simp only[go_sem,o1.rd.len,adZ];refine .intro (fun m ρ G=>∃i:Nat,Ab.Sub M G∧i≤l.length∧m=l.length - i∧lk ρ 3=some z∧lk ρ 11=some (.i l.length)∧lk ρ 12=some (.i i)) l.length ?_ ?_
 ·refine⟨0,.refl _,ad9,rfl,?_,?_,?_⟩<;>simp only[go_sem]
 rintro m ρ G ⟨i,hs,hi,rfl,r3,r11,r12⟩
 have v1:=o1.sub hs
 by_cases hlt:i<l.length
 case neg=>
  have d1:decide ((i:Int)<(l.length:Int))=false:=decide_eq_false ad9;simp only[go_sem,r3,r11,r12,d1];exact .same (.refl _) ⟨s1.trans hs,_,v1.frz (bl Po _),rfl⟩
 have d1:decide ((i:Int)<(l.length:Int))=true:=decide_eq_true ad9;have w1:IntKind.i64.wrap ((i:Int)+1)=((i+1:Nat):Int):=aek;have hob:=ho _ (ad4 hlt);obtain⟨d,ed⟩:∃d,l[i]=d:=⟨_,rfl⟩;have hxi:(l.map ldA)[i]'aea=ldA d:=aea;rw[ed]at hob;simp only[go_sem,r3,r11,r12,d1];refine v1.rd.idx (U:=U) (e:=39) i rfl aea uD aed fun p hp1=>?_
 simp only[go_sem];refine hp1.field (f:=4) (off:=15) (t:=37) rfl Rp fun p2 hp2=>?_
 have hld:=hp2.part (U:=U) (ty:=37) Rp (by rw[hxi,Ts];exact adY rfl)
 simp only[go_sem,hld,hxi,ldA,tE,opC,ay];refine(Jc _ (d.obls.map bt) G (eE bt 3 (fun _=>rfl) _ _) aea (bl (fun _=>rfl) _)).pthen ?_
 simp only[go_sem,r3,r12];obtain⟨id1,hg1,u1⟩:=v1.ow aea;refine u1.idx (U:=U) (e:=39) i rfl aea uD aed ?_;simp only[go_sem];have u1' :=u1;obtain⟨cap,rest,ey,hid,hr,hcap,hsz⟩:=u1';have hbd:i*16+16≤(au (l.map ldA)++rest).length:=by
  grind [ad3,aX,adZ]
 have e5:List.take (i*16+15) (au (l.map ldA)++rest)++ [.sl (d.obls.map bt) .no]++List.drop (i*16+15+1) (au (l.map ldA)++rest)=au (l.map ldA)++rest:=by
  refine(ko hsz i aea 15 [.sl (d.obls.map bt) .no] (adY rfl)).trans ?_;rw[oU];rw[List.getElem?_eq_getElem aea,hxi];rfl
 simp only[go_sem,r12,hid];rw[e5,sZ hid];refine⟨ad9,?_⟩;simp only[go_sem,w1];refine⟨_,?_,i+1,hs,ad9,rfl,?_,?_,?_⟩
 ·omega
 all_goals simp only[go_sem,r3,r11]
end Go.Proofs.YtbbadggejjgihaaGreatDoor
namespace Go.Bf
open Go Go.Ab Go.Proofs.YtbbadggejjgihaaGreatDoor
def MP(e:cB)(o:OpD):cB:={nN e (aF e.s o) (dW e.ch o)with ps:=e.ps++ [dW e.ch o],down:=false}
theorem QX{e:cB}(d:D){o:OpD}(h:e.down=false)(hg:(aF e.s o).2.2.2≠0):doE e d o=(e,d,(aF e.s o).2.1):=by
 simp_all [doE,if_neg,if_pos]
theorem Vj{e:cB}{d d' :D}{o:OpD}{ps:List Txt}{dn:Bool}{c:Nat}(h:e.down=false)(hg:(aF e.s o).2.2.2=0)(hj:jadd d e.ps false (dW e.ch o)=((d',ps,dn),c)):
  doE e d o=if c=0 then({nN e (aF e.s o) (dW e.ch o)with ps:=ps,down:=dn},d',(aF e.s o).2.1)else({e with ps:=ps,down:=dn},d',Dq (c:Int)):=by
 simp_all [doE,if_neg]
theorem HI{e:cB}{d:D}{o:OpD}(h:e.down=false)(hg:(aF e.s o).2.2.2=0)(h1:d.off=false)(h2:d.f=0)(hr:d.b.length+(frame (dW e.ch o)).length≤d.q):
  doE e d o=({nN e (aF e.s o) (dW e.ch o)with ps:=e.ps++ [dW e.ch o],down:=false},{d with b:=d.b++frame (dW e.ch o),sy:=(d.b++frame (dW e.ch o)).length},(aF e.s o).2.1):=by
 have hl:=uv (h:=e.ch) (om (iE hg));rw[Vj h hg (VS h1 h2 ad9 ad9 hr),if_pos rfl]
theorem HH{e:cB}{d:D}{o:OpD}(h:e.down=false)(hg:(aF e.s o).2.2.2=0)(h1:d.off=false)(hr:d.q<d.b.length+(frame (dW e.ch o)).length):doE e d o=(e,d,Dq 8):=by
 have hl:=uv (h:=e.ch) (om (iE hg));rw[Vj h hg (Ms h1 ad9 ad9 hr),if_neg aed];obtain⟨_,_,_,_,dn⟩:=e;cases h;rfl
end Go.Bf
namespace Go.Proofs.YtbbadggejjgihaaGreatDoor
open Go Go.Ab Go.Bf
theorem BG{h0 h h' :Heap}{S:List Nat}(hs:Ab.Sub h0 h)(ht:Touch S h h')(hn:∀i∈S,h0 i=none):Ab.Sub h0 h' :=fun j k hj=>ht j k aea (hs j k hj)
theorem E1{h0 h h' :Heap}{i:Nat}(hs:Ab.Sub h0 h)(ht:Keep i h h')(hn:h0 i=none):Ab.Sub h0 h' :=BG hs (.keep ht) aea
structure uL (h0 h:Heap) (x jid did:Nat) (e:cB) (d:D) (spl spj:List Nat):Prop where
 eng:jL h x jid did e spl spj
 disk:bS h did d
 ok:d.ok
 sub:Ab.Sub h0 h
 new:∀i∈x::did::jid::(spl++spj),h0 i=none
theorem uL.up{h0 h h' :Heap}{x jid did:Nat}{e:cB}{d:D}{spl spj:List Nat}(w:uL h0 h x jid did e d spl spj)(hs:Ab.Sub h h'):uL h0 h' x jid did e d spl spj:=
 ⟨w.eng.sub hs,w.disk.keep hs.gh,w.ok,w.sub.trans hs,w.new⟩
theorem uL.doS{h0 h:Heap}{x jid did:Nat}{e:cB}{d:D}{spl spj:List Nat}(w:uL h0 h x jid did e d spl spj)(o:OpD)(hps:e.ps.length≤1000000)(hlg:e.log.length≤1000000){k:Nat}(hG:gC k e.s)(hk:k≤1000)(h64:oF o)(her:iQ h0)(hok:(doE e d o).2.1.ok):
  ai Tryz.prog 30 [.ptr x 0,opA o] h fun r h' =>r= .agg (mg (doE e d o).2.2)∧∃spl' spj',uL h0 h' x jid did (doE e d o).1 (doE e d o).2.1 spl' spj'∧Touch (x::did::jid::(spl++spj)) h h'∧(∀i∈x::did::jid::(spl' ++spj'),i∈x::did::jid::(spl++spj)∨h i=none):=
 (Vk x jid did e d spl spj o h w.eng w.disk w.ok hps hlg hG hk h64 (her.sub w.sub)).mono fun r h' ⟨e1,spl',spj',a,b,c,f,g⟩=>by
  have hin:∀i∈x::did::jid::(spl' ++spj'),i∈x::did::jid::(spl++spj)∨h i=none:=fun i hi=>by
   simp only[List.mem_cons,List.mem_append]at hi⊢;rcases hi with hi|hi|hi|hi|hi
   ·exact .inl (.inl hi)
   ·exact .inl (.inr (.inl hi))
   ·exact .inl (.inr (.inr (.inl hi)))
   ·rcases f i hi with h1|h1|h1
    ·exact .inl (.inr (.inr (.inr (.inl h1))))
    ·exact .inl (.inr (.inr (.inr (.inr h1))))
    ·exact .inr h1
   ·rcases g i hi with h1|h1
    ·exact .inl (.inr (.inr (.inr (.inr h1))))
    ·exact .inr h1
  exact⟨e1,spl',spj',⟨a,b,hok,BG w.sub c w.new,fun i hi=>(hin i hi).elim (w.new i) w.sub.none⟩,c,hin⟩
end Go.Proofs.YtbbadggejjgihaaGreatDoor
namespace Go.Bf
open Go Go.Ab Go.Proofs.YtbbadggejjgihaaGreatDoor
def qf(e:cB)(d:D)(s:Txt):cB×D×Txt:=match gq s with
 |none=>(e,d,[119,104,97,116])
 |some o=>((doE e d o).1,(doE e d o).2.1,gE (doE e d o).2.2)
end Go.Bf
namespace Go.Proofs.YtbbadggejjgihaaGreatDoor
open Go Go.Ab Go.Bf
theorem uL.line{h0 h:Heap}{x jid did:Nat}{e:cB}{d:D}{spl spj:List Nat}(w:uL h0 h x jid did e d spl spj)(s:Txt)(hl:s.length≤900000)(hps:e.ps.length≤1000000)(hlg:e.log.length≤1000000){k:Nat}(hG:gC k e.s)(hk:k≤1000)(her:iQ h0)(ht:xm h0)(h64:∀o,gq s=some o→oF o)(hok:(qf e d s).2.1.ok)(hr:∀o,gq s=some o→Fq (doE e d o).2.2):
  ai Tryz.prog 10 [.ptr x 0,.s s] h fun r h' =>r= .s (qf e d s).2.2∧∃spl' spj',uL h0 h' x jid did (qf e d s).1 (qf e d s).2.1 spl' spj'∧Touch (x::did::jid::(spl++spj)) h h'∧(∀i∈x::did::jid::(spl' ++spj'),i∈x::did::jid::(spl++spj)∨h i=none):=by
 refine ad8 Tryz.func10 18 [.tmp 4] fun hwf=>?_
 simp -implicitDefEqProofs only[go_sem];refine(Gq s hl _ (her.sub w.sub)).pthen ?_;unfold D4;cases eo:gq s with
 |none=>
  simp -implicitDefEqProofs only[go_sem];intro i hi;simp -implicitDefEqProofs only[go_sem,Option.isSome_none,Option.getD_none,opA,opC,sd,ah,eu];refine .mk _ (.refl _) (.aj hi) ⟨by unfold qf;rw[eo];rfl,spl,spj,by grind [qf],.refl _ _,fun j hj=> .inl hj⟩
 |some o=>
  have ee:qf e d s=((doE e d o).1,(doE e d o).2.1,gE (doE e d o).2.2):=by grind [qf]
  rw[ee]at hok;have hr:=hr o eo;have h64:=h64 o eo;simp -implicitDefEqProofs only[go_sem];intro i hi;simp -implicitDefEqProofs only[go_sem,Option.isSome_some,Option.getD_some,opA,opC,aS,ah,eu];generalize hH:upd h i _=H;have hsH:Ab.Sub h H:=by rw[←hH];exact .aj hi
  refine(show ai Tryz.prog _ [.ptr x 0,opA o] _ _ from((w.up hsH).doS o hps hlg hG hk h64 her hok).mono fun r H2 ⟨er,spl',spj',w2,hT,hin⟩=>?_)
  subst er;simp -implicitDefEqProofs only[go_sem];refine(I1 _ hr _ (ht.sub w2.sub)).pthen ?_;simp -implicitDefEqProofs only[go_sem];exact .same (.refl _) ⟨by rw[ee];rfl,spl',spj',aea,(Touch.of (S:=[]) hsH).trans hT,fun i hi=>(hin i hi).imp id hsH.none⟩
end Go.Proofs.YtbbadggejjgihaaGreatDoor
namespace Go.Bf
open Go Go.Ab
def eqT(a b:gj):Bool:=eqL (eqL (eqL OY)) a b
def eqR(r s:cR):Bool:=r.id==s.id && (r.deny==s.deny && (eqT r.tgt s.tgt && (eqL St r.cond s.cond && eqL Q0 r.obls s.obls)))
mutual
def eqP:bD→bD→Bool
 |.mk i1 s1 a1 t1 r1 k1 o1,.mk i2 s2 a2 t2 r2 k2 o2=>i1==i2 && (s1==s2 && (a1==a2 && (eqT t1 t2 && (eqL Q0 o1 o2 && (eqL eqR r1 r2 && eqK k1 k2)))))
def eqK:List bD→List bD→Bool
 | [],[]=>true
 |x::a,y::b=>eqP x y && eqK a b
 |_,_=>false
end
end Go.Bf
namespace Go.Bf
open Go Go.Ab Go.Proofs.YtbbadggejjgihaaGreatDoor
theorem OT{k n:Nat}{e:cB}{b:Txt}{sy:Nat}(o:OpD)(hd:e.down=false)(hG:gC k e.s)(hok:D.ok ⟨n,b,sy,0,false⟩):
  ∃e' b' sy' RR,doE e ⟨n,b,sy,0,false⟩ o=(e',⟨n,b',sy',0,false⟩,RR)∧D.ok ⟨n,b',sy',0,false⟩∧e'.down=false∧e'.ps.length≤e.ps.length+1∧e'.log.length≤e.log.length+1∧gC (k+1) e'.s∧
   (((aF e.s o).2.2.2≠0∧RR=(aF e.s o).2.1∧e' =e)∨((aF e.s o).2.2.2=0∧n<b.length+16+(ie o).length∧RR=Dq 8∧e' =e)∨((aF e.s o).2.2.2=0∧b.length+16+(ie o).length≤n∧RR=(aF e.s o).2.1∧e' =MP e o)):=by
 have up:gC (k+1) e.s:={hG.tojy.up with ticks:=hG.ticks}
 have hl:(frame (dW e.ch o)).length=16+(ie o).length:=by grind [mD,dW,iT]
 by_cases hg:(aF e.s o).2.2.2=0
 case neg=>exact⟨e,b,sy,_,QX _ hd hg,hok,hd,ad9,ad9,up,.inl ⟨hg,rfl,rfl⟩⟩
 by_cases hr:b.length+16+(ie o).length≤n
 ·refine⟨_,_,_,_,HI (d:=⟨n,b,sy,0,false⟩) hd hg rfl rfl aea,⟨?_,hok.2.1,Nat.le_refl _,hok.2.2.2⟩,rfl,aeg,by simp[nN],qO o hG,.inr (.inr ⟨hg,hr,rfl,rfl⟩)⟩
  grind
 ·exact⟨e,b,sy,_,HH (d:=⟨n,b,sy,0,false⟩) hd hg rfl aea,hok,hd,ad9,ad9,up,.inr (.inl ⟨hg,ad9,rfl,rfl⟩)⟩
end Go.Bf
namespace Go.Proofs.YtbbadggejjgihaaGreatDoor
open Go Go.Ab Go.Bf
theorem DH{k:Nat}{s:an}(h:jy k s)(o:OpD):M9 (aF s o).2.1.mark∧M9 (aF s o).2.2.1.mark:=by
 have hm:M9 (fM s o).1:=(xF _ _).m9;unfold aF;split
 ·exact⟨M9.na,M9.na⟩
 ·split
  ·exact⟨M9.na,M9.na⟩
  ·exact⟨hm,hm⟩
end Go.Proofs.YtbbadggejjgihaaGreatDoor
namespace Go.Bf
open Go Go.Ab Go.Proofs.YtbbadggejjgihaaGreatDoor
def chL(c:BitVec 64)(l:List Txt):BitVec 64:=l.foldl l9 c
def rC:BitVec 64→List Txt→List (BitVec 64)
 |_,[]=>[]
 |c,p::r=>l9 c p::rC (l9 c p) r
theorem ni:∀(l:List Txt) (c:BitVec 64),(rC c l).length=l.length
 | [],_=>rfl
 |_::l,c=>by simp[rC,ni l]
theorem uy:∀(l:List Txt) (c:BitVec 64) (i:Nat) (h:i<(rC c l).length),(rC c l)[i]=chL c (l.take (i+1))
 | [],_,i,h=>aeW
 |p::l,c,0,h=>rfl
 |p::l,c,i+1,h=>uy l (l9 c p) i (by grind [rC])
theorem NM{e e' :cB}{p:Txt}(h:jg e p=some e'):(∃o,p=dW e.ch o)∧e'.ch=l9 e.ch p:=by
 unfold jg at h;cases hr:ic e p with
 |none=>grind
 |some o=>
  rw[hr]at h;simp only at h;split at h
  ·cases h
   refine⟨⟨o,?_⟩,rfl⟩
   grind [ic]
  grind
theorem DA:∀(l:List Txt) {e e' :cB},j3 e l=some e'→e'.ch=chL e.ch l∧∀(i:Nat) (h:i<l.length),∃o,l[i]=dW (chL e.ch (l.take i)) o
 | [],e,e',h=>by cases h;exact⟨rfl,fun i h=>aeW⟩
 |p::l,e,e',h=>by
  simp only[j3]at h;cases hs:jg e p with
  |none=>grind
  |some e1=>
   rw[hs]at h;obtain⟨h1,h2⟩:=NM hs;obtain⟨h3,h4⟩:=DA l h;rw[h2]at h3 h4;refine⟨h3,fun i hi=>?_⟩
   cases i with
   |zero=>exact h1
   |succ i=>exact h4 i aea
structure IX (e:cB) (b:Txt):Prop where
 ok:AI e
 b:b=frames e.ps
 len:∀p∈e.ps,9≤p.length∧p.length≤5008
 log:e.log.length=e.ps.length
theorem Dn:IX (jh []) []:=⟨rfl,rfl,fun p hp=>(by cases hp),rfl⟩
theorem LY{n:Nat}{e:cB}{b:Txt}{sy:Nat}{o:OpD}(hd:e.down=false)(h64:oF o)(hw:IX e b){e' :cB}{b' :Txt}{sy' :Nat}{R:ji}(he:doE e ⟨n,b,sy,0,false⟩ o=(e',⟨n,b',sy',0,false⟩,R)):
  IX e' b'∧(e'.ps=e.ps∨cU o=true∧e'.ps=e.ps++ [dW e.ch o])∧(sy=b.length→sy' =b'.length):=by
 have stay:e' =e→b' =b→sy' =sy→IX e' b'∧(e'.ps=e.ps∨cU o=true∧e'.ps=e.ps++ [dW e.ch o])∧(sy=b.length→sy' =b'.length):=fun h1 h2 h3=>by
  subst h1 h2 h3;exact⟨hw,.inl rfl,fun h=>h⟩
 have hl:(frame (dW e.ch o)).length=16+(ie o).length:=by grind [mD,dW,iT]
 by_cases hg:(aF e.s o).2.2.2=0
 case neg=>
  rw[QX _ hd hg]at he;injection he with h1 h2
  injection h2 with h2 _
  injection h2 with _ h3 h4
  exact stay h1.symm h3.symm h4.symm
 by_cases hr:b.length+16+(ie o).length≤n
 ·rw[HI (d:=⟨n,b,sy,0,false⟩) hd hg rfl rfl aea]at he
  injection he with h1 h2
  injection h2 with h2 _
  injection h2 with _ h3 h4
  subst h1 h3 h4;have hrl:=uv (h:=e.ch) (om (iE hg));refine⟨⟨Ss hw.ok hg h64,?_,?_,?_⟩,.inr ⟨iE hg,rfl⟩,fun _=>rfl⟩
  ·show b++frame _=frames (e.ps++ [_])
   rw[wA,hw.b]
  ·intro p hp
   rcases List.mem_append.1 hp with hp|hp
   ·exact hw.len p hp
   grind
  ·simp[nN,hw.log]
 ·rw[HH (d:=⟨n,b,sy,0,false⟩) hd hg rfl aea]at he
  injection he with h1 h2
  injection h2 with h2 _
  injection h2 with _ h3 h4
  exact stay h1.symm h3.symm h4.symm
theorem Nk{o:OpD}(hf:OpF o){T:Nat}(ht:o.text.length≤T):(ie o).length≤T+400:=by
 unfold ie;simp only[ad3];have h1:=iX o.kind;have h2:=dj o.subj;have h3:=dj o.case;have h4:=dj o.field;have h5:=dj o.to;have h6:=xS hf.val;have h7:=iX o.review;have h8:=dj o.text;have h9:=dj o.reason;have h10:=xS (v:=dM o.glass) (.inr (zU _));have:=hf.subj;have:=hf.case;have:=hf.field;have:=hf.to;have:=hf.reason;omega
end Go.Bf
namespace Go.Proofs.YtbbadggejjgihaaGreatDoor
open Go Go.Ab Go.Bf
def E6(c:BitVec 64):AV:=.v (.int .u64 (c.toNat:Int))
theorem Qh(ps:List Txt)(q:Perm)(h:Heap)(hl:ps.length≤1000000)(hp:∀p∈ps,p.length≤1000000):ai Tryz.prog 29 [.sl (ps.map gV) q] h fun r h' =>∃q',r= .sl ((rC 0#64 ps).map E6) q'∧Ab.Sub h h' :=by
 have st:∀i (hi:i<ps.length),rC 0#64 (ps.take (i+1))=rC 0#64 (ps.take i)++ [chL 0#64 (ps.take (i+1))]:=fun i hi=>by
  refine List.ext_getElem (by grind [ni]) fun j h1 h2=>?_
  rw[ni,List.length_take]at h1
  by_cases hj:j<i
  ·grind [List.getElem_append_left,ni,List.length_take,uy]
  grind [List.getElem_append_right,ni,List.length_take,uy]
 refine ad8 Tryz.func29 22 [.tmp 2] fun hwf=>?_
 simp only[go_sem,adZ];refine .intro (fun m ρ g=>∃(i:Nat) (z:AV),Acc U 60 h g z ((rC 0#64 (ps.take i)).map E6)∧i≤ps.length∧m=ps.length - i∧lk ρ 3=some z∧lk ρ 4=some (E6 (chL 0#64 (ps.take i)))∧lk ρ 7=some (.sl (ps.map gV) q)∧lk ρ 8=some (.i ps.length)∧lk ρ 9=some (.i i)) (ps.length - 0) ?_ ?_
 ·refine⟨0,_,.full (.refl h),ad9,rfl,?_,?_,?_,?_,?_⟩<;>simp only[go_sem]
  all_goals rfl
 rintro m ρ g ⟨i,z,ha,hi,rfl,r3,r4,r7,r8,r9⟩
 by_cases hc:i<ps.length
 ·have d1:decide ((i:Int)<(ps.length:Int))=true:=decide_eq_true ad9
  have w1:IntKind.i64.wrap ((i:Int)+1)=((i+1:Nat):Int):=aek;have ix:=fun k=>eC.eq (xs:=ps.map gV) (sz:=1) i aea aen k
  have hpl:=hp _ (ad4 hc);rw[ad0]at ix;simp only[gV]at ix;have ec:l9 (chL 0#64 (ps.take i)) ps[i]=chL 0#64 (ps.take (i+1)):=by
   grind [List.take_succ_eq_append_getElem,chL]
  unfold E6 at r4;simp only[go_sem,r3,r4,r7,r8,r9,d1,ix];refine(C9 _ _ ps[i] _ (.sl _ _) hpl).pthen ?_;rw[ec];simp only[go_sem,r3,r4,r7,r8,r9];refine ha.app (v:=.sl [E6 (chL 0#64 (ps.take (i+1)))] .full) (zs:=[E6 (chL 0#64 (ps.take (i+1)))]) aed aed (fun k hk=>hk) (by simp only[go_sem];intro v hv;obtain⟨c,_,rfl⟩:=List.mem_map.1 hv;rfl) (by simp only[go_sem];rfl) (by simp[ni];simp only[go_sem];omega) fun z' g2 ha' hk' =>?_
  simp only[go_sem,r3,r7,r8,r9,w1];refine⟨_,?_,i+1,z',aea,ad9,rfl,?_,?_,?_,?_,?_⟩
  ·omega
  all_goals simp only[go_sem,r3,r7,r8]
  rfl
 ·obtain rfl:i=ps.length:=by omega
  have d1:decide ((ps.length:Int)<(ps.length:Int))=false:=decide_eq_false ad9;simp only[go_sem,r3,r7,r8,r9,d1];rw[List.take_length]at ha;obtain⟨q',rfl⟩:=ha.row;exact .same (.refl _) ⟨q',rfl,ha.1⟩
theorem Sc{k:Nat}{s:an}(hG:gC k s)(o:OpD):(aF s o).2.2.1.obls.length≤10000000∧M9 (aF s o).2.2.1.mark:=by
 refine⟨?_,(DH hG.tojy o).2⟩;unfold aF;split
 ·exact agf
 ·split
  ·exact agf
  ·exact Du _ hG.mF
theorem Dz:∀(l:List Txt) {e e' :cB} {k:Nat},j3 e l=some e'→gC k e.s→(∀d∈e.log,d.obls.length≤10000000∧M9 d.mark)→(∀d∈e'.log,d.obls.length≤10000000∧M9 d.mark)
 | [],e,e',k,h,_,hl=>by cases h;omega
 |p::l,e,e',k,h,hG,hl=>by
  simp only[j3]at h;cases hs:jg e p with
  |none=>grind
  |some e1=>
   rw[hs]at h;refine Dz l h (Th hs hG) fun d hd=>?_
   unfold jg at hs;cases hr:ic e p with
   |none=>grind
   |some o=>
    rw[hr]at hs;simp only at hs;split at hs
    ·cases hs
     rcases List.mem_append.1 hd with hd|hd
     ·grind
     grind [List.mem_singleton,Sc]
    grind
theorem SO{e:cB}(he:AI e):∀d∈e.log,d.obls.length≤10000000∧M9 d.mark:=
 Dz e.ps (e' :={e with down:=false}) he sF (fun d hd=>by cases hd)
theorem NI(y:cB){n:Nat}{B:Txt}(hW:IX y B)(hdn:y.down=false)(hps:y.ps.length≤900)(d:D)(hdo:d.ok)(hop:d.bX=(⟨n,B,B.length,0,false⟩,0))(hsc:(scan d.b).1=y.ps)(did:Nat)(g H:Heap)(hdk:bS H did d)(hs:Ab.Sub g H)(hn:g did=none)(her:iQ g):
  ai Tryz.prog 14 [.ptr did 0] H fun r H' =>∃x jid spl spj,r= .tup [.ptr x 0,.i 0]∧uL g H' x jid did y ⟨n,B,B.length,0,false⟩ spl spj∧Keep did H H'∧(∀i∈x::jid::(spl++spj),H i=none):=
 (NJ d hdo did H hdk (her.sub hs) aea).mono fun r H' ⟨h1,h2,h3⟩=>by
  have hok:=D.M0 hdo;rw[hop]at h1 h3 hok;unfold uQ at h3;have hy:vE y.ps=some y:=by
   have:=hW.ok;rw[this];obtain⟨_,_,_,_,_⟩:=y;cases hdn;rfl
  rw[hsc,hy]at h3;obtain⟨x,jid,spl,spj,a,b,c⟩:=h3;exact⟨x,jid,spl,spj,a,⟨b,h1,hok,E1 hs h2 hn,fun i hi=>by
   simp only[List.mem_cons]at hi c;rcases hi with rfl|rfl|hi
   ·exact hs.none (c _ (.inl rfl))
   ·omega
   ·exact hs.none (c _ (.inr hi))⟩,h2,c⟩
theorem nE.join{P:Program}{U:TypeId→TI}{n:Nat}{c:Code}{K:Exit→Env→Heap→Prop}{ρ:Env}{h:Heap}(ex:Exit)(I:Env→Heap→Prop)(hK:∀ρ' H',I ρ' H'→K ex ρ' H')(hc:∀K' :Exit→Env→Heap→Prop,(∀ρ' H',I ρ' H'→K' ex ρ' H')→nE P U n c ρ h K'):nE P U n c ρ h K:=hc K hK
theorem F5{s:an}{o:OpD}(h:(aF s o).2.2.2≠0):(aF s o).1=s:=by
 unfold aF at h⊢
 grind
theorem Dh{x:AV}(h:Dat U 22 x):∃l:List Txt,x= .sl (l.map .s) .no∧l.length≤maxLen∧∀s∈l,s.length≤maxLen:=h.list (e:=9) aej fun y hy=>hy.Qg aej
end Go.Proofs.YtbbadggejjgihaaGreatDoor
namespace Go.Bf
open Go Go.Ab Go.Proofs.YtbbadggejjgihaaGreatDoor
theorem js:i64 0:=⟨aed,aed⟩
theorem Mj:i64 1:=⟨aed,aed⟩
theorem V2(neg:Bool)(s:Txt):i64 (eY neg s).1:=by
 unfold eY;simp only;split
 ·exact aii
 ·generalize (if neg=true then -(mB (s.takeWhile dgt):Int)else(mB (s.takeWhile dgt):Int))=v
  split
  ·assumption
  ·exact aii
theorem LD(s:Txt):i64 (bM s).1.n:=by
 unfold bM;simp only
 (repeat' split)<;>first|exact V2 _ _|exact js
theorem Gm:∀(f:Nat) (s:Txt) (a:Nat) (out l:List qj),qo f s a out= .ok l→(∀t∈out,i64 t.n)→∀t∈l,i64 t.n
 |0,_,_,_,_,h,_=>by simp[qo]at h
 |f+1,[],a,out,l,h,ho=>by
  simp only[qo,Lexed.ok.injEq]at h;subst h;intro t ht;rcases List.mem_append.1 ht with ht|ht
  ·exact ho t ht
  ·rw[List.mem_singleton.1 ht];exact js
 |f+1,c::r,a,out,l,h,ho=>by
  simp only[qo]at h;split at h
  ·exact Gm f r _ _ l h ho
  ·split at h
   ·cases h
   ·refine Gm f _ _ _ l h fun t ht=>?_
    rcases List.mem_append.1 ht with ht|ht
    ·exact ho t ht
    ·rw[List.mem_singleton.1 ht];exact LD _
theorem VU(s:Txt):i64 (fT s).1.kind∧i64 (fT s).1.n:=by
 have hk:∀k:Nat,k≤5→i64 (k:Int):=fun k h=>⟨ad9,ad9⟩
 unfold fT;cases h:pI s with
 |bad e a=>exact⟨js,js⟩
 |ok ts=>
  have ht:∀t∈ts,i64 t.n:=by
   unfold pI at h;split at h
   ·cases h
   ·exact Gm _ _ _ _ _ h fun t ht=>by cases ht
  simp only;split
  ·have hd:i64 (ts.headD ⟨0,0,0,[]⟩).n:=by
    cases ts with
    |nil=>exact js
    |cons a b=>exact ht a aeg
   unfold AA
   (repeat' split)<;>first|exact⟨hk 2 aed,hd⟩|exact⟨hk 4 aed,hd⟩|exact⟨hk 5 aed,hd⟩|exact⟨hk 3 aed,hd⟩|exact⟨Mj,Mj⟩|exact⟨Mj,js⟩|exact⟨js,js⟩
  ·exact⟨js,js⟩
theorem SX(s:Txt):i64 (Go.Bf.fW s):=by
 unfold Go.Bf.fW;split
 ·exact aii
 ·rename_i h
  simp only[not_or]at h;have h1:∀c∈s,dgt c=true:=by simpa using h.2.2.2
  have h2:=HF s h1;have h3:10 ^ s.length≤10 ^ 9:=Nat.pow_le_pow_right aed ad9;constructor<;>omega
theorem V9(k:Int)(hk:0≤k∧k≤8)(a b:Txt)(g:Bool)(s:Txt):oF (opL k a b g s).1:=by
 have hk:i64 k:=by constructor<;>omega
 have z:i64 aq.kind∧i64 aq.n:=⟨js,js⟩;have h1:=VU (cC (cC s).2).2;have h2:=SX s;unfold opL
 (repeat' split)<;>first|exact⟨hk,z.1,z.2,js⟩|exact⟨hk,h1.1,h1.2,js⟩|exact⟨hk,z.1,z.2,h2⟩
theorem SN{s:Txt}{o:OpD}(h:gq s=some o):oF o:=by
 unfold gq at h;split at h
 ·cases h
  exact V9 _ (wJ _) _ _ _ _
 ·cases h
theorem MY(k:Int)(a b:Txt)(g:Bool)(s:Txt):(opL k a b g s).1.text.length≤s.length:=by
 unfold opL
 (repeat' split)<;>first|exact Nat.zero_le _|exact Nat.le_refl _
theorem F3(s:Txt):(j4 s).2.2.length≤s.length:=by
 unfold j4;split
 ·have:=(jU (s.drop 1)).2
  simp only[List.length_drop]at this⊢;omega
 ·exact Nat.le_refl _
theorem J5{s:Txt}{o:OpD}(h:gq s=some o):cU o=true∧o.text.length≤s.length:=by
 unfold gq at h;split at h
 ·rename_i h1
  cases h;simp only[Bool.and_eq_true]at h1;refine⟨h1.2,?_⟩;unfold Ks;simp only;have h1:=MY (tV (cC (j4 (cC s).2).2.2).1) (cC s).1 (j4 (cC s).2).2.1 (j4 (cC s).2).1 (cC (j4 (cC s).2).2.2).2;have h2:=(jU (j4 (cC s).2).2.2).2;have h3:=F3 (cC s).2;have h4:=(jU s).2;omega
 ·cases h
def kP(s:an):Prop:=∀c∈s.cases,∀f∈c.fields,inV f.val
theorem N3:kP xx:=fun c hc=>by cases hc
theorem Hj{l:List cO}(h:∀f∈l,inV f.val)(n:Txt):inV (dQ l n):=by
 unfold dQ;split
 ·rename_i f hf;exact h f (List.mem_of_find?_eq_some hf)
 ·exact aii
theorem KT{s:an}(h:kP s)(id n:Txt):inV (dQ (bw s.cases id).fields n):=by
 refine Hj (fun f hf=>?_) n
 unfold bw at hf;split at hf
 ·rw[List.getD_eq_getElem?_getD]at hf
  cases hg:s.cases[findD s.cases id]? with
  |none=>rw[hg]at hf;cases hf
  |some c=>rw[hg]at hf;exact h c (List.mem_of_getElem? hg) f hf
 ·cases hf
theorem Ho{l:List cO}(h:∀f∈l,inV f.val)(n:Txt){v:bu}(hv:inV v):∀f∈eN l n v,inV f.val:=by
 intro f hf;unfold eN at hf;simp only at hf;split at hf
 ·grind
 ·split at hf
  ·rcases List.mem_or_eq_of_mem_set hf with hf|rfl
   ·exact h f hf
   ·exact hv
  ·simp only[List.mem_append,List.mem_singleton]at hf
   rcases hf with(hf|rfl)|hf
   ·exact h f (List.mem_of_mem_take hf)
   ·exact hv
   ·exact h f (List.mem_of_mem_drop hf)
theorem Qu{s:an}{o:OpD}(h:kP s)(ho:inV o.val):kP (cS aQ s o):=by
 unfold cS;split
 ·unfold doD
  simp only;intro c hc;split at hc
  ·simp only[List.mem_append,List.mem_singleton]at hc
   rcases hc with(hc|rfl)|hc
   ·exact h c (List.mem_of_mem_take hc)
   ·intro f hf;cases hf
   ·exact h c (List.mem_of_mem_drop hc)
  ·split at hc
   ·rcases mem_modify hc with hc|⟨hi,rfl⟩
    ·exact h c hc
    ·exact Ho (h _ (ad4 hi)) _ ho
   ·split at hc
    ·exact ajR
    ·(repeat' split at hc)<;>exact h c hc
 ·exact ahV
theorem KU{o:OpD}{d:Bool}{s:an}(x:cD)(h:kP s):kP (fo o d s x):=by
 unfold fo;split
 ·unfold iF
  split
  ·intro c hc
   exact ajR
  ·exact ahV
 ·(repeat' split)<;>exact h
theorem xh{o:OpD}{d:Bool}:∀(l:List cD) {s:an},kP s→kP (dw s o l d)
 | [],_,h=>h
 |x::l,_,h=>xh l (KU x h)
theorem Hl{s:an}{o:OpD}(h:kP s)(ho:inV o.val):kP (aF s o).1:=by
 unfold aF;split
 ·exact ahV
 ·split
  ·exact ahV
  ·unfold cN
   simp only;have h1:kP (if dY s o then bX s o o.reason else s):=by split<;>exact h
   refine xh _ ?_;split
   ·exact Qu h1 ho
   ·exact h1
theorem PZ{k:Nat}{s:an}(hG:jy k s)(hv:kP s)(o:OpD):Fq (aF s o).2.1:=by
 refine⟨(DH hG o).1,?_,?_,?_⟩
 ·have: -20≤(aF s o).2.1.err∧(aF s o).2.1.err≤20:=by
   grind [jI,qY,bI,bT,fu,aF,nh]
  omega
 ·have hp:cU o=true→0≤(aQ o.text).2.2∧(aQ o.text).2.2≤4096:=fun hf=>by
   have:=(om hf).text;rcases qY o.text with h|h<;>omega
  have h0:(0:Int)≤0∧(0:Int)≤4096:=aed;have:0≤(aF s o).2.1.at_∧(aF s o).2.1.at_≤4096:=by
   unfold aF;split
   ·simp only[jI]
    split
    ·rename_i h1 h2
     refine hp ?_;have:=h2.1;unfold bI at this
     grind
    ·exact h0
   ·split<;>exact h0
  omega
 ·unfold aF
  split
  ·exact aii
  ·split
   ·exact aii
   ·unfold nh
    simp only;split
    ·exact KT hv _ _
    ·exact aii
end Go.Bf
namespace Go.Proofs.YtbbadggejjgihaaGreatDoor
open Go Go.Ab Go.Bf
theorem GY(q:Nat)(hq:q≤1048576)(did:Nat)(h0 h:Heap)(hdk:bS h did ⟨q,[],0,0,false⟩)(hs:Ab.Sub h0 h)(hn:h0 did=none)(her:iQ h0):
  ai Tryz.prog 14 [.ptr did 0] h fun r h' =>∃x jid spl spj,r= .tup [.ptr x 0,.i 0]∧uL h0 h' x jid did (jh []) ⟨q,[],0,0,false⟩ spl spj∧Keep did h h'∧(∀i∈x::jid::(spl++spj),h i=none):=
 NI (jh []) Dn rfl aed ⟨q,[],0,0,false⟩ ⟨Nat.zero_le _,hq,Nat.zero_le _,(by decide:(0:Nat)<9223372036854775808)⟩ aeo (by rw[NF];rfl) did h0 h hdk hs hn her
end Go.Proofs.YtbbadggejjgihaaGreatDoor
namespace Go.Bf
open Go Go.Ab Go.Proofs.YtbbadggejjgihaaGreatDoor
def WG:Txt:=[119,104,97,116]
def Lt(s:an)(q:Txt):Txt:=match gq q with
 |none=>WG
 |some o=>gE (aF s o).2.1
def gw(e:cB)(q:Txt):cB:=match gq q with
 |none=>e
 |some o=>if(aF e.s o).2.2.2=0 then MP e o else e
def Il(s:an)(q:Txt):an:=match gq q with
 |none=>s
 |some o=>(aF s o).1
def iK(l:List Txt):cB:=l.foldl gw (jh [])
theorem Kv(l:List Txt)(q:Txt):iK (l++ [q])=gw (iK l) q:=by simp[iK]
theorem vB(l:List Txt)(i:Nat)(h:i<l.length):iK (l.take (i+1))=gw (iK (l.take i)) l[i]:=by
 rw[List.take_succ_eq_append_getElem h,Kv]
theorem zj(e:cB)(q:Txt):(gw e q).s=Il e.s q:=by
 unfold gw Il;cases gq q with
 |none=>rfl
 |some o=>
  simp only;split
  ·rfl
  ·rename_i h;exact(F5 h).symm
theorem Eg(e:cB)(q:Txt)(B:Nat)(h:∀o,gq q=some o→(ie o).length≤B):(frames (gw e q).ps).length≤(frames e.ps).length+(16+B):=by
 unfold gw;cases eo:gq q with
 |none=>simp
 |some o=>
  simp only;split
  ·have hl:(frame (dW e.ch o)).length=16+(ie o).length:=by grind [mD,dW,iT]
   show(frames (e.ps++ [dW e.ch o])).length≤_
   rw[wA,ad3,hl];have:=h o eo;omega
  ·omega
theorem D5{q:Txt}(hq:q.length≤600):∀o,gq q=some o→(ie o).length≤1000:=fun o ho=>by
 have h:=J5 ho;exact Nk (om h.1) ad9
theorem P4(l:List Txt)(h:∀q∈l,q.length≤600):(frames (iK l).ps).length≤1016*l.length:=by
 have go:∀(l:List Txt) (e:cB),(∀q∈l,q.length≤600)→(frames (l.foldl gw e).ps).length≤(frames e.ps).length+1016*l.length:=by
  intro l
  induction l with
  |nil=>intro e _;simp
  |cons q l ih=>
   intro e hq;have h1:=ih (gw e q) fun r hr=>hq r (by simp[hr])
   have h2:=Eg e q 1000 (D5 (hq q aeg));simp only[List.foldl_cons,List.length_cons];omega
 have:=go l (jh []) h;simpa[iK,jh,frames]using this
end Go.Bf
namespace Go.Proofs.YtbbadggejjgihaaGreatDoor
open Go Go.Ab Go.Bf
structure oY (n k:Nat) (g h:Heap) (x jid did:Nat) (e:cB) (spl spj:List Nat):Prop where
 w:uL g h x jid did e ⟨n,frames e.ps,(frames e.ps).length,0,false⟩ spl spj
 hW:IX e (frames e.ps)
 hG:gC k e.s
 hV:kP e.s
 hdn:e.down=false
 hps:e.ps.length≤k
theorem oY.up{n k:Nat}{g h h' :Heap}{x jid did:Nat}{e:cB}{spl spj:List Nat}(w:oY n k g h x jid did e spl spj)(hs:Ab.Sub h h'):oY n k g h' x jid did e spl spj:=
 ⟨w.w.up hs,w.hW,w.hG,w.hV,w.hdn,w.hps⟩
theorem oY.line{n k:Nat}{g h:Heap}{x jid did:Nat}{e:cB}{spl spj:List Nat}(w:oY n k g h x jid did e spl spj)(q:Txt)(hq:q.length≤600)(hk:k≤900)(her:iQ g)(ht:xm g)(hr:∀o,gq q=some o→(frames e.ps).length+16+(ie o).length≤n):
  ai Tryz.prog 10 [.ptr x 0,.s q] h fun r h' =>r= .s (Lt e.s q)∧∃spl' spj',oY n (k+1) g h' x jid did (gw e q) spl' spj'∧Touch (x::did::jid::(spl++spj)) h h'∧(∀i∈x::did::jid::(spl' ++spj'),i∈x::did::jid::(spl++spj)∨h i=none):=by
 obtain⟨w,hW,hG,hV,hdn,hps⟩:=w;have hlg:=hW.log;cases eo:gq q with
 |none=>
  have el:qf e ⟨n,frames e.ps,(frames e.ps).length,0,false⟩ q=(e,⟨n,frames e.ps,(frames e.ps).length,0,false⟩,[119,104,97,116]):=by grind [qf]
  refine(w.line q ad9 ad9 ad9 hG ad9 her ht (fun o e=>aea) (by rw[el];exact w.ok) (fun o e=>aea)).mono fun r h' ⟨er,spl',spj',w',hT,hin⟩=>?_
  rw[el]at w' er;have en:gw e q=e:=by unfold gw;rw[eo]
  rw[en];refine⟨by rw[er];unfold Lt;rw[eo];rfl,spl',spj',⟨w',hW,{hG.tojy.up with ticks:=hG.ticks},hV,hdn,ad9⟩,hT,hin⟩
 |some o=>
  have h64:=SN eo;have hrt:=PZ hG.tojy hV o;have hr:=hr o eo;obtain⟨e',b',sy',RR,ed,hok,hdn',hps',hlg',hG',hways⟩:=OT o hdn hG w.ok;obtain⟨hW',hp',hy'⟩:=LY hdn h64 hW ed;have el:qf e ⟨n,frames e.ps,(frames e.ps).length,0,false⟩ q=(e',⟨n,b',sy',0,false⟩,gE RR):=by grind [qf]
  have hR:RR=(aF e.s o).2.1∧e' =gw e q:=by
   unfold gw;rw[eo];simp only;rcases hways with⟨a,b1,c⟩|⟨a,b1,c⟩|⟨a,b1,c,d⟩
   ·rw[if_neg a];exact⟨b1,c⟩
   ·omega
   ·rw[if_pos a];exact⟨c,d⟩
  obtain⟨rfl,rfl⟩:=hR;have hb:=hW'.b;have hy:=hy' rfl;subst hb;subst hy;refine(w.line q ad9 ad9 ad9 hG ad9 her ht (fun o' e=>aea) (by rw[el];exact hok) (fun o' e2=>?_)).mono fun r h' ⟨er,spl',spj',w',hT,hin⟩=>?_
  ·rw[eo]at e2;cases e2;rw[ed];exact hrt
  rw[el]at w' er;refine⟨by rw[er];unfold Lt;rw[eo],spl',spj',⟨w',hW',hG',?_,hdn',ad9⟩,hT,hin⟩
  rw[zj];unfold Il;rw[eo];exact Hl hV h64.2.2.1
theorem oY.new{n:Nat}{g h:Heap}{x jid did:Nat}{spl spj:List Nat}(w:uL g h x jid did (jh []) ⟨n,[],0,0,false⟩ spl spj):oY n 0 g h x jid did (iK []) spl spj:=
 ⟨w,Dn,sF,N3,rfl,Nat.le_refl _⟩
theorem vI(n:Nat)(hn:n≤1048576)(h0 h:Heap)(hs:Ab.Sub h0 h)(her:iQ h0):ai Tryz.prog 8 [.i n] h fun r h' =>∃x jid did spl spj,r= .tup [.ptr x 0,.ptr did 0]∧oY n 0 h0 h' x jid did (iK []) spl spj∧Ab.Sub h h' :=by
 refine ad8 Tryz.func8 32 [.tmp 2,.tmp 3] fun hwf=>?_
 simp -implicitDefEqProofs only[go_sem];refine(LW n hn h).mono fun r h1 ⟨did,hd,er,hdk,s1⟩=>?_
 subst er;simp -implicitDefEqProofs only[go_sem];refine(GY n hn did h0 h1 hdk (hs.trans s1) (hs.none hd) her).mono fun r h2 ⟨x,jid,spl,spj,er,w,hK,hnew⟩=>?_
 subst er;simp -implicitDefEqProofs only[go_sem];exact .same (.refl _) ⟨x,jid,did,spl,spj,rfl,.new w,E1 s1 hK hd⟩
end Go.Proofs.YtbbadggejjgihaaGreatDoor
namespace Go.Bf
open Go Go.Ab Go.Proofs.YtbbadggejjgihaaGreatDoor
def Fe(d:mw):Bool:=d.op.kind==7 && d.mark==aW
def ny:Int→List mw→Option Int
 |a,[]=>some a
 |a,d::l=>if d.version=a then ny (if Fe d then a+1 else a) l else none
theorem vO(d:mw):∀(l:List mw) (a b:Int),ny a l=some b→d.version=b→ny a (l++ [d])=some (if Fe d then b+1 else b)
 | [],a,b,h,hd=>by
  simp only[ny,Option.some.injEq]at h;subst h;simp[ny,hd]
 |x::l,a,b,h,hd=>by
  simp only[ny,List.cons_append]at h⊢;split at h
  ·rename_i hx
   rw[if_pos hx];exact vO d l _ b h hd
  ·cases h
theorem F4{o:OpD}(hf:cU o=true)(h7:o.kind=7):o.glass=false:=by
 unfold cU at hf
 grind [lq,sQ]
theorem KY{s:an}{o:OpD}(h:(aF s o).2.2.2=0):(aF s o).2.2.1.version=s.version∧(aF s o).2.2.1.op=o∧(aF s o).1.version=if Fe (aF s o).2.2.1 then s.version+1 else s.version:=by
 have hf:=iE h;unfold aF at h⊢;split at h
 ·rename_i h1;exact(h1 h).elim
 ·rename_i h1
  have hp:=rf (by omega:(jI s o).1=0)
  split at h
  ·cases h
  ·rename_i h2
   rw[if_neg h1,if_neg h2];refine⟨rfl,rfl,?_⟩;unfold cN;simp only;rw[(yq _ _ _ _).2.2.2];have hv:(if dY s o=true then bX s o o.reason else s).version=s.version:=by split<;>rfl
   by_cases h7:o.kind=7
   ·have hg:dY s o=false:=by
     unfold dY rI;rw[F4 hf h7];rfl
    rw[hg];unfold sD Fe;rw[hg]
    by_cases hm:(fM s o).1=aW
    ·simp[hm,h7]
     unfold cS;rw[if_pos hp.1];unfold doD;simp[h7,hp.2.2 h7]
    ·simp[hm,h7]
   ·have:Fe ⟨o,s.version,(fM s o).1,dY s o,(fM s o).2⟩=false:=by simp[Fe,h7]
    rw[this];simp only[Bool.false_eq_true,if_false];split
    ·rw[(LZ aQ _ o h7).2,hv]
    ·exact hv
theorem N6{e:cB}(q:Txt)(h:ny 0 e.log=some e.s.version):ny 0 (gw e q).log=some (gw e q).s.version:=by
 unfold gw;cases gq q with
 |none=>exact h
 |some o=>
  simp only;split
  ·rename_i h0
   obtain⟨h1,_,h3⟩:=KY h0
   show ny 0 (e.log++ [(aF e.s o).2.2.1])=some (aF e.s o).1.version
   rw[vO _ _ _ _ h h1,h3]
  ·exact ahV
theorem Qv(l:List Txt):ny 0 (iK l).log=some (iK l).s.version:=by
 have go:∀(l:List Txt) (e:cB),ny 0 e.log=some e.s.version→ny 0 (l.foldl gw e).log=some (l.foldl gw e).s.version:=by
  intro l
  induction l with
  |nil=>intro e h;exact h
  |cons q l ih=>intro e h;exact ih _ (N6 q h)
 exact go l _ rfl
theorem IT:∀(l:List mw) (a b:Int),ny a l=some b→∀(i:Nat) (h:i<l.length),ny a (l.take i)=some l[i].version
 | [],_,_,_,i,h=>aeW
 |d::l,a,b,hv,0,_=>by
  simp only[ny]at hv;split at hv
  ·rename_i h;simp[ny,h]
  ·cases hv
 |d::l,a,b,hv,i+1,h=>by
  simp only[ny]at hv;split at hv
  ·rename_i hd
   simp only[List.take_succ_cons,List.getElem_cons_succ,ny];rw[if_pos hd];exact IT l _ b hv i ah9
  ·cases hv
theorem KX{l:List mw}{a b c:Int}(h:ny a l=some b){i:Nat}(hi:i<l.length)(hc:ny a (l.take i)=some c):l[i].version=c∧ny a (l.take (i+1))=some (if Fe l[i]then c+1 else c):=by
 have h1:=IT l a b h i hi;rw[hc]at h1;cases h1;refine⟨rfl,?_⟩;rw[List.take_succ_eq_append_getElem hi];exact vO _ _ _ _ hc rfl
def awP:Txt:=[112,111,108,105,99,121,32,112,32,102,105,114,115,116,32,123,32,100,101,110,121,32,100,32,119,104,101,110,32,40,97,99,116,105,111,110,46,110,97,109,101,32,61,32,35,119,114,105,116,101,41,59,32,112,101,114,109,105,116,32,114,59,32,125]
def awL:List Txt:=[[97,110,110,32,110,101,119,32,99],[97,110,110,32,119,114,105,116,101,32,99,32,102,32,55],[97,110,110,32,112,111,108,105,99,121,32]++awP,[97,110,110,32,119,114,105,116,101,32,99,32,102,32,56],[98,111,98,32,114,101,97,100,32,99,32,102]]
def awW:List Txt:=[[111,107],[111,107],[111,107],[100,101,110,105,101,100,32,68,101,110,121],[111,107,32,55]]
def awO:Nat→Option OpD
 |0=>some ⟨1,[97,110,110],[99],[],[],aq,0,[],[],false⟩
 |1=>some ⟨3,[97,110,110],[99],[102],[],⟨2,7,[]⟩,0,[],[],false⟩
 |2=>some ⟨7,[97,110,110],[],[],[],aq,0,awP,[],false⟩
 |3=>some ⟨3,[97,110,110],[99],[102],[],⟨2,8,[]⟩,0,[],[],false⟩
 |4=>some ⟨2,[98,111,98],[99],[102],[],aq,0,[],[],false⟩
 |_=>none
def awS:Nat→an
 |0=>xx
 |i+1=>match awO i with|none=>awS i|some o=>(aF (awS i) o).1
def X6(i:Nat):Prop:=gq (awL.getD i [])=awO i∧match awO i with
 |none=>False
 |some o=>gE (aF (awS i) o).2.1=awW.getD i []∧(ie o).length≤200
theorem QM:∀i,i<5→X6 i
 |0,_=>⟨aeo,aeo,adY aeo⟩
 |1,_=>⟨aeo,aeo,adY aeo⟩
 |2,_=>⟨aeo,aec,adY aeo⟩
 |3,_=>⟨aeo,aec,adY aeo⟩
 |4,_=>⟨aeo,aec,adY aeo⟩
 |n+5,h=>ad9
theorem R1:∀i,i<5→(awL.getD i []).length≤600:=aed
theorem LA:∀i,i≤5→(iK (awL.take i)).s=awS i∧(frames (iK (awL.take i)).ps).length≤216*i
 |0,_=>⟨rfl,aed⟩
 |i+1,h=>by
  obtain⟨h1,h2⟩:=LA i ad9;obtain⟨h3,h4⟩:=QM i ad9;have hl:awL.length=5:=rfl;have eg:awL.getD i []=awL[i]'ad9:=af5;rw[vB awL i ad9,←eg];have h5:=Eg (iK (awL.take i)) (awL.getD i []) 200 fun o ho=>by
   rw[h3]at ho;rw[ho]at h4;exact h4.2
  refine⟨?_,ad9⟩;rw[zj,h1];unfold Il;rw[h3];simp only[awS];all_goals(cases awO i<;>rfl)
end Go.Bf
namespace Go.Proofs.YtbbadggejjgihaaGreatDoor
open Go Go.Ab Go.Bf
def AwP(g:Heap)(x i:Nat)(h:Heap):Prop:=∃jid did spl spj,oY 4000 i g h x jid did (iK (awL.take i)) spl spj
theorem tv(g h:Heap)(her:iQ g)(ht:xm g)(x i:Nat)(hi:i<5)(hp:AwP g x i h):ai Tryz.prog 10 [.ptr x 0,.s (awL.getD i [])] h fun r h' =>r= .s (awW.getD i [])∧AwP g x (i+1) h'∧Ab.Sub g h' :=by
 obtain⟨jid,did,spl,spj,w⟩:=hp;obtain⟨h1,h2⟩:=LA i ad9;obtain⟨h3,h4⟩:=QM i hi;have hl:awL.length=5:=rfl;have eg:awL.getD i []=awL[i]'ad9:=af5;refine(w.line (awL.getD i []) (R1 i hi) ad9 her ht fun o ho=>?_).mono fun r h' ⟨er,spl',spj',w',_,_⟩=>?_
 ·rw[h3]at ho
  rw[ho]at h4;have:=h4.2;omega
 refine⟨?_,⟨jid,did,spl',spj',?_⟩,w'.w.sub⟩
 ·rw[er,h1]
  unfold Lt;rw[h3];cases eo:awO i with
  |none=>rw[eo]at h4;exact h4.elim
  |some o=>rw[eo]at h4;simp only at h4⊢;rw[h4.1]
 ·rw[vB awL i ad9,←eg];exact w'
theorem C4(h:Heap)(he:iQ h)(ht:xm h):ai Tryz.prog 13 [] h fun r h' =>r= .b true∧h' =h:=
 ai.freeze fun g hgs _=>by
 have he:=he.sub hgs;have ht:=ht.sub hgs;refine ad8 Tryz.func13 40 [.tmp 0] fun hwf=>?_
 simp -implicitDefEqProofs only[go_sem];refine(show ai Tryz.prog _ [.i 4000] _ _ from(vI 4000 aed g g (.refl _) he).mono fun r h1 ⟨x,jid,did,spl,spj,er,w,s1⟩=>?_)
 subst er;have hc:∀ρ:Env,ev ρ (.const (.string ⟨#[97,110,110,32,112,111,108,105,99,121,32,112,111,108,105,99,121,32,112,32,102,105,114,115,116,32,123,32,100,101,110,121,32,100,32,119,104,101,110,32,40,97,99,116,105,111,110,46,110,97,109,101,32,61,32,35,119,114,105,116,101,41,59,32,112,101,114,109,105,116,32,114,59,32,125]⟩))=some (.s ([97,110,110,32,112,111,108,105,99,121,32]++awP)):=fun ρ=>Jq aed
 simp -implicitDefEqProofs only[go_sem,hc];refine(show ai Tryz.prog _ [.ptr x 0,.s [97,110,110,32,110,101,119,32,99]] _ _ from(tv g h1 he ht x 0 ad9 ⟨jid,did,spl,spj,w⟩).mono fun r h2 ⟨er,w,_⟩=>?_)
 replace er:r= .s [111,107]:=er;subst er;simp -implicitDefEqProofs only[go_sem,hc];refine(show ai Tryz.prog _ [.ptr x 0,.s [97,110,110,32,119,114,105,116,101,32,99,32,102,32,55]] _ _ from(tv g h2 he ht x 1 ad9 w).mono fun r h3 ⟨er,w,_⟩=>?_)
 replace er:r= .s [111,107]:=er;subst er;simp -implicitDefEqProofs only[go_sem,hc];refine(show ai Tryz.prog _ [.ptr x 0,.s ([97,110,110,32,112,111,108,105,99,121,32]++awP)] _ _ from(tv g h3 he ht x 2 ad9 w).mono fun r h4 ⟨er,w,_⟩=>?_)
 replace er:r= .s [111,107]:=er;subst er;simp -implicitDefEqProofs only[go_sem];refine(show ai Tryz.prog _ [.ptr x 0,.s [97,110,110,32,119,114,105,116,101,32,99,32,102,32,56]] _ _ from(tv g h4 he ht x 3 ad9 w).mono fun r h5 ⟨er,w,_⟩=>?_)
 replace er:r= .s [100,101,110,105,101,100,32,68,101,110,121]:=er;subst er;simp -implicitDefEqProofs only[go_sem];refine(show ai Tryz.prog _ [.ptr x 0,.s [98,111,98,32,114,101,97,100,32,99,32,102]] _ _ from(tv g h5 he ht x 4 ad9 w).mono fun r h6 ⟨er,_,s6⟩=>?_)
 replace er:r= .s [111,107,32,55]:=er;subst er;simp -implicitDefEqProofs only[go_sem];exact .same (.refl _) ⟨s6,_,.pure rfl,rfl⟩
end Go.Proofs.YtbbadggejjgihaaGreatDoor
namespace Go.Bf
open Go Go.Ab Go.Proofs.YtbbadggejjgihaaGreatDoor
def jE(l:List Txt)(n:Nat):List Txt:=(l.take n).map fun q=>q.take 600
theorem D6{l:List Txt}{n:Nat}:∀q∈jE l n,q.length≤600:=fun q hq=>by
 obtain⟨r,_,rfl⟩:=List.mem_map.1 hq;rw[List.length_take];omega
theorem Bc(l:List Txt)(n:Nat):(jE l n).length≤n:=by
 unfold jE;rw[adZ,List.length_take];omega
theorem Gr{l:List Txt}{n i:Nat}(h:i<l.length)(hn:i<n):jE (l.take (i+1)) n=jE (l.take i) n++ [l[i].take 600]:=by
 unfold jE;rw[List.take_take,List.take_take,Nat.min_eq_right ad9,Nat.min_eq_right ad9,List.take_succ_eq_append_getElem h,List.map_append];rfl
theorem ND{l:List Txt}{i:Nat}(hl:l.length≤40)(hq:∀q∈l,q.length≤600)(hi:i<l.length):∀o,gq l[i]=some o→(frames (iK (l.take i)).ps).length+16+(ie o).length≤200000:=fun o ho=>by
 have h1:=P4 (l.take i) fun q h=>hq q (List.mem_of_mem_take h)
 rw[List.length_take]at h1;have h2:=D5 (hq _ (ad4 hi)) o ho;have h3:1016*min i l.length≤1016*40:=Nat.mul_le_mul_left _ ad9;omega
end Go.Bf
namespace Go.Proofs.YtbbadggejjgihaaGreatDoor
open Go Go.Ab Go.Bf
theorem D7(l:List Txt)(n:Nat)(hn:n≤1000)(h:Heap):ai Tryz.prog 9 [.sl (l.map .s) .no,.i n] h fun r h' =>r= .sl ((jE l n).map .s) .no∧h' =h:=by
 refine ad8 Tryz.func9 33 [.tmp 4] fun hwf=>?_
 simp -implicitDefEqProofs only[go_sem];have hsz:(U 9).sz=1:=aeo;refine nE.wf fun hw=>?_
 refine .intro (fun m ρ H=>∃(i:Nat) (y:AV),Acc U 9 h H y ((jE (l.take i) n).map .s)∧i≤l.length∧i≤n∧m=l.length - i∧lk ρ 0=some (.sl (l.map .s) .no)∧lk ρ 1=some (.i n)∧lk ρ 5=some y∧lk ρ 6=some (.i i)) l.length ?_ ?_
 ·refine⟨0,.sl [] .full,by simpa[jE]using Acc.full (.refl _),ad9,ad9,rfl,?_,?_,?_,?_⟩<;>simp -implicitDefEqProofs only[go_sem]
  all_goals rfl
 rintro m ρ H ⟨i,y,hy,hi,hin,rfl,r0,r1,r5,r6⟩
 obtain⟨q,eq⟩:=hy.row;subst eq
 by_cases hgo:i<l.length∧i<n
 ·have d1:decide ((i:Int)<(l.length:Int))=true:=decide_eq_true ad9
  have d2:decide ((i:Int)<(n:Int))=true:=decide_eq_true ad9;have w1:IntKind.i64.wrap ((i:Int)+1)=((i+1:Nat):Int):=aek;have ix:=fun k=>eC.eq (xs:=l.map AV.s) (sz:=1) i (by simpa using hgo.1) aen k
  rw[ad0]at ix;have e:(if(600:Int)<(l[i].length:Int)then(600:Int)else(l[i].length:Int))=((min 600 l[i].length:Nat):Int):=ad9
  have et:l[i].take (min 600 l[i].length)=l[i].take 600:=by rw[List.take_eq_take_min (i:=600) (l:=l[i])]
  simp -implicitDefEqProofs only[go_sem,r0,r1,r5,r6,adZ,d1,d2];refine .calls cV [0,1,2,3,4,5,6,7,8,9,10,11,12,13,14] (fun _ _ e=>aey) aec rfl ?_
  simp -implicitDefEqProofs only[go_sem,r0,r1,r5,r6,ix,e];refine⟨ad9,ad9,ad9,?_⟩;simp -implicitDefEqProofs only[go_sem,Option.isSome_none,Option.isSome_some,tD,Int.toNat_natCast,et];refine hy.app (zs:=[.s (l[i].take 600)]) aed aed (fun k hk=>hk) (by intro z hz;obtain⟨a,_,rfl⟩:=List.mem_map.1 hz;rfl) aeP (by simp only[go_sem,jE,adZ,List.length_take,List.length_cons,List.length_nil]<;>omega) fun y' H' hy' kp=>?_
  refine⟨fun _ _ e=>aey,?_⟩
  simp -implicitDefEqProofs only[go_sem,r6,w1];refine⟨_,?_,i+1,y',by rw[Gr hgo.1 hgo.2,List.map_append];exact hy',ad9,ad9,rfl,?_,?_,?_,?_⟩
  ·omega
  all_goals simp -implicitDefEqProofs only[go_sem,r0,r1]
 ·have hall:jE (l.take i) n=jE l n:=by
   unfold jE
   by_cases h1:i<l.length
   ·rw[List.take_take,Nat.min_eq_left ad9]
   ·rw[List.take_of_length_le (l:=l) ad9]
  rw[hall]at hy;cases d1:decide ((i:Int)<(l.length:Int))
  ·simp -implicitDefEqProofs only[go_sem,r0,r5,r6,adZ,d1]
   exact .mk _ (by rw[hall];exact .sl _ _) hy.1 ⟨rfl,rfl⟩
  ·have d2:decide ((i:Int)<(n:Int))=false:=decide_eq_false fun h3=>hgo ⟨aea,ad9⟩
   simp -implicitDefEqProofs only[go_sem,r0,r1,r5,r6,adZ,d1,d2];exact .mk _ (by rw[hall];exact .sl _ _) hy.1 ⟨rfl,rfl⟩
theorem oY.step{g h:Heap}{x jid did:Nat}{l:List Txt}{i:Nat}{spl spj:List Nat}(hl:l.length≤40)(hq:∀q∈l,q.length≤600)(hi:i<l.length)(w:oY 200000 i g h x jid did (iK (l.take i)) spl spj)(her:iQ g)(ht:xm g):
  ai Tryz.prog 10 [.ptr x 0,.s l[i]] h fun r h' =>r= .s (Lt (iK (l.take i)).s l[i])∧∃spl' spj',oY 200000 (i+1) g h' x jid did (iK (l.take (i+1))) spl' spj'∧Touch (x::did::jid::(spl++spj)) h h'∧(∀j∈x::did::jid::(spl' ++spj'),j∈x::did::jid::(spl++spj)∨h j=none):=by
 rw[vB l i hi];exact w.line l[i] (hq _ (ad4 hi)) ad9 her ht (ND hl hq hi)
theorem zT(y:AV)(dy:Dat U 22 y)(h:Heap)(he:iQ h)(ht:xm h):ai Tryz.prog 3 [y] h fun r h' =>r= .b true∧h' =h:=
 ai.freeze fun g hgs _=>by
 have he:=he.sub hgs;have ht:=ht.sub hgs;obtain⟨l0,rfl,hl0,hls⟩:=Dh dy;have hll:=Bc l0 40;have hlq:=D6 (l:=l0) (n:=40);have hlo:=fun(G:Heap)=>D7 l0 40 aed G
 obtain⟨l,el⟩:∃l,jE l0 40=l:=⟨_,rfl⟩;rw[el]at hll hlq;simp only[el]at hlo;refine ad8 Tryz.func3 58 [.tmp 2] fun hwf=>?_
 simp -implicitDefEqProofs only[go_sem];refine(show ai Tryz.prog _ [.i 200000] _ _ from(vI 200000 aed g g (.refl _) he).mono fun r h1 ⟨x,jid,did,spl,spj,er,w,s1⟩=>?_)
 subst er;simp -implicitDefEqProofs only[go_sem];refine(hlo h1).pthen ?_;simp -implicitDefEqProofs only[go_sem,adZ];refine nE.join (.exit 0) (fun ρ H=>∃spl spj,oY 200000 l.length g H x jid did (iK l) spl spj∧lk ρ 3=some (.ptr x 0)) ?_ fun K1 hK1=>?_
 rotate_left
 ·refine .intro (fun m ρ H=>∃(i:Nat) (spl spj:List Nat),oY 200000 i g H x jid did (iK (l.take i)) spl spj∧i≤l.length∧m=l.length - i∧lk ρ 3=some (.ptr x 0)∧lk ρ 17=some (.sl (l.map .s) .no)∧lk ρ 18=some (.i l.length)∧lk ρ 19=some (.i i)) l.length ?_ ?_
  ·refine⟨0,spl,spj,w,ad9,rfl,?_,?_,?_,?_⟩<;>simp -implicitDefEqProofs only[go_sem]
   all_goals rfl
  rintro m ρ H ⟨i,spl,spj,w,hi,rfl,r3,r17,r18,r19⟩
  by_cases hlt:i<l.length
  ·have t1:decide ((i:Int)<(l.length:Int))=true:=decide_eq_true ad9
   have w1:IntKind.i64.wrap ((i:Int)+1)=((i+1:Nat):Int):=aek;have ix:=fun k=>eC.eq (xs:=l.map AV.s) (sz:=1) i aew aen k
   rw[ad0]at ix;simp -implicitDefEqProofs only[go_sem,r3,r17,r18,r19,t1,ix];refine(w.step hll hlq hlt he ht).mono fun r H2 ⟨er,spl',spj',w2,_,_⟩=>?_
   subst er;simp -implicitDefEqProofs only[go_sem,r19,w1];refine⟨_,?_,i+1,spl',spj',w2,ad9,rfl,?_,?_,?_,?_⟩
   ·omega
   all_goals simp -implicitDefEqProofs only[go_sem,r3,r17,r18]
  ·obtain rfl:i=l.length:=by omega
   have t1:decide ((l.length:Int)<(l.length:Int))=false:=decide_eq_false ad9;simp -implicitDefEqProofs only[go_sem,r17,r18,r19,t1];rw[List.take_length]at w;exact hK1 _ _ ⟨spl,spj,w,by simp -implicitDefEqProofs only[go_sem,r3]⟩
 rintro ρ H ⟨spl,spj,w,r3⟩
 have hver:=Qv l;have hps:=w.hps;have hlog:=w.hW.log;have hlk:=SO w.hW.ok;obtain⟨e,ee⟩:∃e,iK l=e:=⟨_,rfl⟩;rw[ee]at w hver hps hlog hlk;obtain⟨L,eL⟩:∃L,e.log=L:=⟨_,rfl⟩;simp -implicitDefEqProofs only[go_sem,r3];refine(OX x jid did e spl spj H w.w.eng ad9 (fun d hd=>(hlk d hd).1)).pthen ?_
 rw[eL]at hver hlog hlk⊢;simp -implicitDefEqProofs only[go_sem,adZ];refine .intro (fun m ρ H' =>∃(i:Nat) (a:Int),Ab.Sub H H'∧ny 0 (L.take i)=some a∧0≤a∧a≤i∧i≤L.length∧m=L.length - i∧lk ρ 3=some (.ptr x 0)∧lk ρ 7=some (.i a)∧lk ρ 28=some (.sl (L.map ldA) .no)∧lk ρ 29=some (.i L.length)∧lk ρ 30=some (.i i)) L.length ?_ ?_
 ·refine⟨0,0,.refl _,rfl,ad9,ad9,ad9,rfl,?_,?_,?_,?_,?_⟩<;>simp -implicitDefEqProofs only[go_sem,r3]
  all_goals rfl
 rintro m ρ H' ⟨i,a,hs,hv,ha0,hai,hi,rfl,r3,r7,r28,r29,r30⟩
 by_cases hlt:i<L.length
 ·have t1:decide ((i:Int)<(L.length:Int))=true:=decide_eq_true ad9
  have w1:IntKind.i64.wrap ((i:Int)+1)=((i+1:Nat):Int):=aek;have w2:IntKind.i64.wrap (a+1)=a+1:=IntWalk.i64_in _ ad9;obtain⟨hd,hv2⟩:=KX hver hlt hv;have m9:=(hlk _ (ad4 hlt)).2;obtain⟨d,ed⟩:∃d,L[i]=d:=⟨_,rfl⟩;rw[ed]at hd hv2 m9;have ix:=fun(K:AV→Prop)=>eC.eq (xs:=L.map ldA) (sz:=16) i aea aen K
  rw[ad0,ed]at ix;simp only[ldA,tE,opC,aN,ay,List.cons_append,List.nil_append]at ix;have pe:=(nb m9).pe;have t2:(d.version !=a)=false:=by simp[hd]
  simp -implicitDefEqProofs only[go_sem,r28,r29,r30,t1,ix];intro i9 h9;simp -implicitDefEqProofs only[go_sem,r7,t2];unfold Fe at hv2;cases t3:(d.op.kind==7)
  ·rw[t3,Bool.false_and,if_neg aed]at hv2
   simp -implicitDefEqProofs only[go_sem,t3,r30,w1];refine⟨_,?_,i+1,a,hs.trans (.aj h9),hv2,ha0,ad9,ad9,rfl,?_,?_,?_,?_,?_⟩
   ·omega
   all_goals simp -implicitDefEqProofs only[go_sem,r3,r7,r28,r29]
  ·rw[t3,Bool.true_and]at hv2
   cases t4:(d.mark==aW)
   ·rw[t4,if_neg aed]at hv2
    simp -implicitDefEqProofs only[go_sem,t3,pe,t4,r30,w1];refine⟨_,?_,i+1,a,hs.trans (.aj h9),hv2,ha0,ad9,ad9,rfl,?_,?_,?_,?_,?_⟩
    ·omega
    all_goals simp -implicitDefEqProofs only[go_sem,r3,r7,r28,r29]
   ·rw[t4,if_pos rfl]at hv2
    simp -implicitDefEqProofs only[go_sem,t3,pe,t4,r7,w2,r30,w1];refine⟨_,?_,i+1,a+1,hs.trans (.aj h9),hv2,ad9,ad9,ad9,rfl,?_,?_,?_,?_,?_⟩
    ·omega
    all_goals simp -implicitDefEqProofs only[go_sem,r3,r28,r29]
 ·obtain rfl:i=L.length:=by omega
  have t1:decide ((L.length:Int)<(L.length:Int))=false:=decide_eq_false ad9;rw[List.take_length,hver]at hv;cases hv;obtain⟨a1,a2,a3,a4,a5,a6,a7,es⟩:=ck e.s;have hst:=Jo x jid did e spl spj H' (w.up hs).w.eng;rw[show cI e.s= .agg (iO e.s)from rfl,es]at hst
  have hsub:=w.w.sub.trans hs;simp -implicitDefEqProofs only[go_sem,r29,r30,t1,r3];refine hst.pthen ?_;simp -implicitDefEqProofs only[go_sem,r7,beq_self_eq_true];refine(C4 H' (he.sub hsub) (ht.sub hsub)).pthen ?_;simp -implicitDefEqProofs only[go_sem];exact agb
theorem xC(ev:Value)(hev:ev= .nilIface∨∃te pe,ev= .iface te pe)(x:AV)(dx:Dat U 22 x):ai Tryz.prog 3 [x] (vG [(3,qZ),(2,[ev])]) fun r _=>r= .b true:=(zT x dx _ (BF hev) ⟨0,rfl⟩).mono fun _ _ h=>h.1
end Go.Proofs.YtbbadggejjgihaaGreatDoor
namespace Go.Bf
open Go Go.Ab Go.Proofs.YtbbadggejjgihaaGreatDoor
theorem MQ(e:cB)(q:Txt):e.ps<+:(gw e q).ps∧(gw e q).ps.length≤e.ps.length+1:=by
 unfold gw;cases gq q with
 |none=>exact⟨List.prefix_rfl,Nat.le_succ _⟩
 |some o=>
  simp only;split
  ·exact⟨List.prefix_append _ _,by simp[MP]⟩
  ·exact⟨List.prefix_rfl,Nat.le_succ _⟩
theorem yF:∀(l:List Txt) (e:cB),e.ps<+:(l.foldl gw e).ps∧(l.foldl gw e).ps.length≤e.ps.length+l.length
 | [],e=>⟨List.prefix_rfl,Nat.le_refl _⟩
 |q::l,e=>by
  have h1:=MQ e q;have h2:=yF l (gw e q);exact⟨h1.1.trans h2.1,by simp only[List.foldl_cons,List.length_cons];omega⟩
theorem BD(l:List Txt):(iK l).ps.length≤l.length:=by
 have:=(yF l (jh [])).2;simpa[iK,jh]using this
theorem P5(l:List Txt)(k:Nat):(iK (l.take k)).ps<+:(iK l).ps:=by
 have e:iK l=(l.drop k).foldl gw (iK (l.take k)):=by
  unfold iK;rw[←List.foldl_append,List.take_append_drop]
 rw[e];exact(yF _ _).1
theorem V8{e:cB}(he:AI e):e.ch=chL 0#64 e.ps:=(DA e.ps he).1
end Go.Bf
namespace Go.Proofs.YtbbadggejjgihaaGreatDoor
open Go Go.Ab Go.Bf
set_option maxHeartbeats 400000 in
theorem vK(y z:AV)(dy:Dat U 22 y)(dz:Dat U 3 z)(h:Heap)(he:iQ h)(ht:xm h):ai Tryz.prog 7 [y,z] h fun r h' =>r= .b true∧h' =h:=
 ai.freeze fun g hgs _=>by
 have he:=he.sub hgs;have ht:=ht.sub hgs;obtain⟨l0,rfl,hl0,hls⟩:=Dh dy;obtain⟨cu,rfl,c64⟩:=dz.i64 aej;have hll:=Bc l0 40;have hlq:=D6 (l:=l0) (n:=40);have hlo:=fun(G:Heap)=>D7 l0 40 aed G
 obtain⟨l,el⟩:∃l,jE l0 40=l:=⟨_,rfl⟩;rw[el]at hll hlq;simp only[el]at hlo;have hwk:=Hr cu l.length;have hwi:=fun(G:Heap)=>K7 cu l.length G c64 ad9
 obtain⟨k,ek⟩:∃k,rV cu l.length=k:=⟨_,rfl⟩;rw[ek]at hwk;simp only[ek]at hwi;refine ad8 Tryz.func7 119 [.tmp 4] fun hwf=>?_
 simp -implicitDefEqProofs only[go_sem];refine(show ai Tryz.prog _ [.i 200000] _ _ from(vI 200000 aed g g (.refl _) he).mono fun r h1 ⟨x,jid,did,spl,spj,er,w,s1⟩=>?_)
 subst er;simp -implicitDefEqProofs only[go_sem];refine(hlo h1).pthen ?_;simp -implicitDefEqProofs only[go_sem,adZ];refine(hwi h1).pthen ?_;simp -implicitDefEqProofs only[go_sem,adZ];refine⟨ad9,ad9,?_⟩;have lt:((l.map AV.s).take k).length=k:=aeO;have ld:((l.map AV.s).drop k).length=l.length - k:=aeg;rw[lt];refine nE.join (.exit 0) (fun ρ H=>∃spl spj,oY 200000 k g H x jid did (iK (l.take k)) spl spj∧lk ρ 5=some (.ptr x 0)∧lk ρ 7=some (.sl (l.map .s) .no)∧lk ρ 8=some (.i k)) ?_ fun K1 hK1=>?_
 rotate_left
 ·refine .intro (fun m ρ H=>∃(i:Nat) (spl spj:List Nat),oY 200000 i g H x jid did (iK (l.take i)) spl spj∧i≤k∧m=k - i∧lk ρ 5=some (.ptr x 0)∧lk ρ 7=some (.sl (l.map .s) .no)∧lk ρ 8=some (.i k)∧lk ρ 32=some (.sl ((l.map .s).take k) .no)∧lk ρ 33=some (.i k)∧lk ρ 34=some (.i i)) k ?_ ?_
  ·refine⟨0,spl,spj,w,ad9,rfl,?_,?_,?_,?_,?_,?_⟩<;>simp -implicitDefEqProofs only[go_sem]
   all_goals rfl
  rintro m ρ H ⟨i,spl,spj,w,hi,rfl,r5,r7,r8,r32,r33,r34⟩
  by_cases hlt:i<k
  ·have t1:decide ((i:Int)<(k:Int))=true:=decide_eq_true ad9
   have w1:IntKind.i64.wrap ((i:Int)+1)=((i+1:Nat):Int):=aek;have ix:=fun K=>eC.eq (xs:=(l.map AV.s).take k) (sz:=1) i ad9 (by rw[List.getElem_take,ad0];rfl) K
   rw[List.getElem_take,ad0]at ix;simp -implicitDefEqProofs only[go_sem,r5,r32,r33,r34,t1,ix];refine(w.step hll hlq ad9 he ht).mono fun r H2 ⟨er,spl',spj',w2,_,_⟩=>?_
   subst er;simp -implicitDefEqProofs only[go_sem,r34,w1];refine⟨_,?_,i+1,spl',spj',w2,ad9,rfl,?_,?_,?_,?_,?_,?_⟩
   ·omega
   all_goals simp -implicitDefEqProofs only[go_sem,r5,r7,r8,r32,r33]
  ·obtain rfl:i=k:=by omega
   have t1:decide ((i:Int)<(i:Int))=false:=decide_eq_false ad9;simp -implicitDefEqProofs only[go_sem,r32,r33,r34,t1];exact hK1 _ _ ⟨spl,spj,w,by simp -implicitDefEqProofs only[go_sem,r5],by simp -implicitDefEqProofs only[go_sem,r7],by simp -implicitDefEqProofs only[go_sem,r8]⟩
 rintro ρ H ⟨spl,spj,w,r5,r7,r8⟩
 have hpre:=P5 l k;have hc1:=BD (l.take k);have hc2:=BD l;rw[List.length_take]at hc1;have hch:=V8 w.hW.ok;have hlen1:=w.hW.len;obtain⟨e1,ee1⟩:∃e1,iK (l.take k)=e1:=⟨_,rfl⟩;have w0:=w;rw[ee1]at hpre hc1 hch hlen1 w0;simp -implicitDefEqProofs only[go_sem,r5];refine(wj x jid did e1 spl spj H w0.w.eng ad9 (fun p hp=>by have:=(hlen1 p hp).2;omega)).mono fun r H1 ⟨q1,er,hs1⟩=>?_
 subst er;replace w:=w.up hs1;simp -implicitDefEqProofs only[go_sem,r5];refine(LO x jid did e1 spl spj H1 (w0.up hs1).w.eng).pthen ?_;simp -implicitDefEqProofs only[go_sem,r7,r8,adZ];refine⟨fun v hv=>by obtain⟨a,_,rfl⟩:=List.mem_map.1 hv;rfl,ad9,ad9,?_⟩
 rw[ld];refine nE.join (.exit 2) (fun ρ H=>∃spl spj,oY 200000 l.length g H x jid did (iK l) spl spj∧lk ρ 5=some (.ptr x 0)∧lk ρ 8=some (.i k)∧lk ρ 11=some (.sl (e1.ps.map gV) q1)∧lk ρ 12=some (.v (.int .u64 (e1.ch.toNat:Int)))) ?_ fun K2 hK2=>?_
 rotate_left
 ·refine .intro (fun m ρ H=>∃(i:Nat) (spl spj:List Nat),oY 200000 (k+i) g H x jid did (iK (l.take (k+i))) spl spj∧k+i≤l.length∧m=l.length - (k+i)∧lk ρ 5=some (.ptr x 0)∧lk ρ 8=some (.i k)∧lk ρ 11=some (.sl (e1.ps.map gV) q1)∧lk ρ 12=some (.v (.int .u64 (e1.ch.toNat:Int)))∧lk ρ 48=some (.sl ((l.map .s).drop k) .no)∧lk ρ 49=some (.i (l.length - k:Nat))∧lk ρ 50=some (.i i)) (l.length - k) ?_ ?_
  ·refine⟨0,spl,spj,w,ad9,rfl,?_,?_,?_,?_,?_,?_,?_⟩<;>simp -implicitDefEqProofs only[go_sem,r5,r8]
   all_goals rfl
  rintro m ρ H ⟨i,spl,spj,w,hi,rfl,r5,r8,r11,r12,r48,r49,r50⟩
  by_cases hlt:k+i<l.length
  ·have t1:decide ((i:Int)<((l.length - k:Nat):Int))=true:=decide_eq_true ad9
   have w1:IntKind.i64.wrap ((i:Int)+1)=((i+1:Nat):Int):=aek;have ix:=fun K=>eC.eq (xs:=(l.map AV.s).drop k) (sz:=1) i ad9 (by rw[List.getElem_drop,ad0];rfl) K
   rw[List.getElem_drop,ad0]at ix;simp -implicitDefEqProofs only[go_sem,r5,r48,r49,r50,t1,ix];refine(w.step hll hlq hlt he ht).mono fun r H2 ⟨er,spl',spj',w2,_,_⟩=>?_
   subst er;simp -implicitDefEqProofs only[go_sem,r50,w1];refine⟨_,?_,i+1,spl',spj',w2,ad9,rfl,?_,?_,?_,?_,?_,?_,?_⟩
   ·omega
   all_goals simp -implicitDefEqProofs only[go_sem,r5,r8,r11,r12,r48,r49]
  ·have hkl:k+i=l.length:=by omega
   have t1:decide ((i:Int)<((l.length - k:Nat):Int))=false:=decide_eq_false ad9;simp -implicitDefEqProofs only[go_sem,r48,r49,r50,t1];rw[hkl,List.take_length]at w;exact hK2 _ _ ⟨spl,spj,w,by simp -implicitDefEqProofs only[go_sem,r5],by simp -implicitDefEqProofs only[go_sem,r8],by simp -implicitDefEqProofs only[go_sem,r11],by simp -implicitDefEqProofs only[go_sem,r12]⟩
 clear w w0 s1
 rintro ρ H ⟨spl,spj,w,r5,r8,r11,r12⟩
 have hlen2:=w.hW.len;obtain⟨e2,ee2⟩:∃e2,iK l=e2:=⟨_,rfl⟩;rw[ee2]at hpre hc2 hlen2 w;obtain⟨ps1,ep1⟩:∃ps,e1.ps=ps:=⟨_,rfl⟩;rw[ep1]at hpre hc1 hch hlen1 r11;simp -implicitDefEqProofs only[go_sem,r5];refine(wj x jid did e2 spl spj H w.w.eng ad9 (fun p hp=>by have:=(hlen2 p hp).2;omega)).mono fun r H1 ⟨q2,er,hs1⟩=>?_
 subst er;replace w:=w.up hs1;obtain⟨ps2,ep2⟩:∃ps,e2.ps=ps:=⟨_,rfl⟩;rw[ep2]at hpre hc2 hlen2⊢;have hle:=hpre.length_le;have t2:decide ((ps2.length:Int)<(ps1.length:Int))=false:=decide_eq_false ad9;have t3:decide ((ps1.length:Int)>(k:Int))=false:=decide_eq_false ad9;have t3' :decide ((k:Int)<(ps1.length:Int))=false:=decide_eq_false ad9;simp -implicitDefEqProofs only[go_sem,r11,r8,adZ,t2,t3,t3'];refine nE.join (.exit 4) (fun ρ H=>H=H1∧lk ρ 11=some (.sl (ps1.map gV) q1)∧lk ρ 12=some (.v (.int .u64 (e1.ch.toNat:Int)))∧lk ρ 15=some (.sl (ps2.map gV) q2)) ?_ fun K3 hK3=>?_
 rotate_left
 ·refine .intro (fun m ρ H=>∃(i:Nat),H=H1∧i≤ps1.length∧m=ps1.length - i∧lk ρ 11=some (.sl (ps1.map gV) q1)∧lk ρ 12=some (.v (.int .u64 (e1.ch.toNat:Int)))∧lk ρ 15=some (.sl (ps2.map gV) q2)∧lk ρ 72=some (.i ps1.length)∧lk ρ 73=some (.i i)) ps1.length ?_ ?_
  ·refine⟨0,rfl,ad9,rfl,?_,?_,?_,?_,?_⟩<;>simp -implicitDefEqProofs only[go_sem,r11,r12]
   all_goals rfl
  rintro m ρ H ⟨i,rfl,hi,rfl,r11,r12,r15,r72,r73⟩
  by_cases hlt:i<ps1.length
  ·have t1:decide ((i:Int)<(ps1.length:Int))=true:=decide_eq_true ad9
   have w1:IntKind.i64.wrap ((i:Int)+1)=((i+1:Nat):Int):=aek;have ix1:=fun K=>eC.eq (xs:=ps1.map gV) (sz:=1) i aew aen K
   have ix2:=fun K=>eC.eq (xs:=ps2.map gV) (sz:=1) i (by rw[adZ];omega) aen K
   rw[ad0]at ix1 ix2;have hee:ps2[i]'ad9=ps1[i]:=(hpre.getElem hlt).symm;rw[hee]at ix2;have hpl:=(hlen1 _ (ad4 hlt)).2;simp only[gV]at ix1 ix2;simp -implicitDefEqProofs only[go_sem,r72,r73,t1];refine .quiet aec ?_;simp -implicitDefEqProofs only[go_sem,r11,r15,r73,ix1,ix2];refine⟨_,P6 _ _ ps1[i] ps1[i] H (.sl _ _) (.sl _ _) ad9,?_⟩;simp -implicitDefEqProofs only[go_sem,decide_true,Bool.not_true,r73,w1];refine⟨_,?_,i+1,rfl,ad9,rfl,?_,?_,?_,?_,?_⟩
   ·omega
   all_goals simp -implicitDefEqProofs only[go_sem,r11,r12,r15,r72]
  ·obtain rfl:i=ps1.length:=by omega
   have t1:decide ((ps1.length:Int)<(ps1.length:Int))=false:=decide_eq_false ad9;simp -implicitDefEqProofs only[go_sem,r72,r73,t1];exact hK3 _ _ ⟨rfl,by simp -implicitDefEqProofs only[go_sem,r11],by simp -implicitDefEqProofs only[go_sem,r12],by simp -implicitDefEqProofs only[go_sem,r15]⟩
 rintro ρ H' ⟨rfl,r11,r12,r15⟩
 simp -implicitDefEqProofs only[go_sem,r15];refine(Qh ps2 q2 H' ad9 (fun p hp=>by have:=(hlen2 p hp).2;omega)).mono fun r H2 ⟨q3,er,s3⟩=>?_
 subst er;have hsub:=w.w.sub.trans s3;have hsl:=ni ps2 0#64;have haw:=C4 H2 (he.sub hsub) (ht.sub hsub)
 by_cases h0:ps1= []
 ·have hc0:((e1.ch.toNat:Int)==0)=true:=by rw[hch,h0];rfl
  rw[h0]at r11;simp -implicitDefEqProofs only[go_sem,r15,adZ,hsl,r11,r12,hc0,List.map_nil,List.length_nil];refine haw.pthen ?_;simp -implicitDefEqProofs only[go_sem];exact agb
 have hpos:=List.length_pos_iff.2 h0;have hg:=uy ps2 0#64 (ps1.length - 1) (by rw[hsl];omega)
 rw[show ps1.length - 1+1=ps1.length by omega,←List.prefix_iff_eq_take.1 hpre,←hch]at hg
 have t5:((ps1.length:Int)==0)=false:=beq_eq_false_iff_ne.mpr ad9;have t6:decide ((ps1.length:Int)>0)=true:=decide_eq_true ad9;have t6' :decide (0<(ps1.length:Int))=true:=decide_eq_true ad9;have w5:IntKind.i64.wrap ((ps1.length:Int) - 1)=((ps1.length - 1:Nat):Int):=afk;have iz:=fun K=>eC.eq (xs:=(rC 0#64 ps2).map E6) (sz:=1) (ps1.length - 1) (by rw[adZ,hsl];omega) aen K
 rw[ad0,hg]at iz;simp only[E6]at iz;simp -implicitDefEqProofs only[go_sem,r15,adZ,hsl,r11,r12,t5,t6,t6',w5,iz];refine haw.pthen ?_;simp -implicitDefEqProofs only[go_sem];exact agb
theorem uE(ev:Value)(hev:ev= .nilIface∨∃te pe,ev= .iface te pe)(x y:AV)(dx:Dat U 22 x)(dy:Dat U 3 y):ai Tryz.prog 7 [x,y] (vG [(3,qZ),(2,[ev])]) fun r _=>r= .b true:=(vK x y dx dy _ (BF hev) ⟨0,rfl⟩).mono fun _ _ h=>h.1
end Go.Proofs.YtbbadggejjgihaaGreatDoor
