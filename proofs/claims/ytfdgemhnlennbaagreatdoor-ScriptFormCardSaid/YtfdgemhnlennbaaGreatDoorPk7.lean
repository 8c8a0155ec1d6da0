/- The law ScriptForm: pack 7 of its texts. -/
import Derived.Test.YtfdgemhnlennbaaGreatDoorPk1
import Derived.Test.YtfdgemhnlennbaaGreatDoorPk2
import Derived.Test.YtfdgemhnlennbaaGreatDoorPk3
import Derived.Test.YtfdgemhnlennbaaGreatDoorPk4
import Derived.Test.YtfdgemhnlennbaaGreatDoorPk5
import Derived.Test.YtfdgemhnlennbaaGreatDoorPk6
set_option linter.unusedSimpArgs false
set_option linter.unusedVariables false
set_option maxRecDepth 100000
namespace Go.Proofs.YtfdgemhnlennbaaGreatDoor
open Go Go.Ab Go.Bf
theorem Uq(x jid did:Nat)(e:dZ)(d:D)(spl spj:List Nat)(o:OpD)(h:Heap)(he:lT h x jid did e spl spj)(hdk:bS h did d)(hdo:d.ok)(hps:e.ps.length≤1000000)(hlg:e.log.length≤1000000){k:Nat}(hG:jl k e.s)(hk:k≤1000)(h64:oe o)(her:jj h):
  ai Tryz.prog 10 [.ptr x 0,opA o] h fun r h' =>r= .agg (lR (doE e d o).2.2)∧∃spl' spj',lT h' x jid did (doE e d o).1 spl' spj'∧bS h' did (doE e d o).2.1∧Touch (x::did::jid::(spl++spj)) h h'∧(∀i∈spl',i∈spl∨i∈spj∨h i=none)∧(∀i∈spj',i∈spj∨h i=none):=by
 have stay:∀R:gY,doE e d o=(e,d,R)→∀(r:AV) (h' :Heap),(r= .agg (lR R)∧h' =h)→r= .agg (lR (doE e d o).2.2)∧∃spl' spj',lT h' x jid did (doE e d o).1 spl' spj'∧bS h' did (doE e d o).2.1∧Touch (x::did::jid::(spl++spj)) h h'∧(∀i∈spl',i∈spl∨i∈spj∨h i=none)∧(∀i∈spj',i∈spj∨h i=none):=fun R ed r h' ⟨e1,e2⟩=>by
  subst e2;rw[ed];exact⟨e1,spl,spj,he,hdk,.refl _ _,fun i hi=> .inl hi,fun i hi=> .inl hi⟩
 cases hd:e.down
 case true=>
  exact(Oc x jid did e spl spj o h he hd).mono (stay _ (by simp_all [doE,if_pos]))
 by_cases hne:(aT e.s o).2.2.2=0
 case neg=>
  exact(Rk x jid did e spl spj o h he hd hG hk h64 her hne).mono (stay _ (by
   simp_all [doE,if_neg,if_pos]))
 by_cases hcode:(jadd d e.ps false (dX e.ch o)).2=0
 ·exact Rl x jid did e d spl spj o h he hdk hdo hps hlg hd hG hk h64 her hne hcode
 ·exact(Rm x jid did e d spl spj o h he hdk hdo hps hlg hd hG hk h64 her hne hcode).mono fun r h' ⟨a,s1,s2,b,c,f,g,i⟩=>⟨a,s1,s2,b,c,f,fun q hq=>(g q hq).imp id .inr,i⟩
theorem Uj{P:Program}{U:TypeId→TI}{n:Nat}{a b:Code}{ρ:Env}{h:Heap}{K:Exit→Env→Heap→Prop}{y:AV}(hh:∀H2,H2=h→jK P U n a b ρ H2 K y):jK P U n a b ρ h K y:=hh h rfl
theorem jj.touch{h h' :Heap}{S:List Nat}(he:jj h)(ht:Touch S h h')(hS:∀i∈S,∀b vs,h i≠some (.ro b vs)):jj h' :=by
 obtain⟨ev,hev,id,hi⟩:=he;exact⟨ev,hev,id,ht _ _ ac1 hi⟩
theorem FP{e:dZ}{l:List Txt}{i:Nat}(hi:i<l.length){e1:dZ}(h:mI e (l.take i)=some e1):mI e (l.take (i+1))=mT e1 l[i]:=by
 grind [List.take_succ_eq_append_getElem,sv]
theorem FO{e:dZ}{l:List Txt}{i:Nat}(h:mI e (l.take i)=none):mI e l=none:=by
 rw[←List.take_append_drop i l];generalize l.take i=a at h⊢
 induction a generalizing e with
 |nil=>cases h
 |cons p a ih=>
  simp only[List.cons_append,mI]at h⊢
  grind
theorem O5{e:dZ}{p:Txt}{o:OpD}(h:jF e p=some o)(hl:p.length≤1000000):oe o:=by
 grind [jF,HC,List.length_drop]
def uG(h h' :Heap)(did:Nat)(ps:List Txt)(r:AV):Prop:=match vA ps with
 |none=>r= .tup [.v (.pointer none),.i 7]
 |some e=>∃x jid spl spj,r= .tup [.ptr x 0,.i 0]∧lT h' x jid did e spl spj∧(∀i∈x::jid::(spl++spj),h i=none)
theorem newL:jt yZ= [.i 0,.sl [] .no,.sl [] .no,.sl [] .no,.sl [] .no,.s jE,.b false,.i 6,.sl [] .no,.sl [] .no,.sl [] .no,.sl [] .no,.i 0]:=rfl
theorem M1(d:D)(hdo:d.ok)(did:Nat)(h:Heap)(hdk:bS h did d)(her:jj h)(hps:(scan d.b).1.length≤900):
  ai Tryz.prog 9 [.ptr did 0] h fun r h' =>bS h' did d.cc.1∧Keep did h h'∧if d.cc.2=0 then uG h h' did (scan d.b).1 r else r= .tup [.v (.pointer none),.i (d.cc.2:Nat)]:=by
 have hlen:=(Pd d.b).2;refine acZ Tryz.func9 62 [.tmp 2,.tmp 3] fun hwf=>?_
 simp only[go_sem];refine(LW d hdo did h hdk).mono fun r h1 ⟨J,e1,hd1,kp1,hif⟩=>?_
 subst e1;have her1:jj h1:=her.touch (.keep kp1) (fun i hi b vs hh=>by
  obtain⟨y,hy,_⟩:=hdk;rw[List.mem_singleton.1 hi,hy]at hh;cases hh)
 generalize (scan d.b).1=ps at hps hlen hif⊢;generalize d.cc=od at hd1 hif⊢;obtain⟨d1,c1⟩:=od;simp only at hd1 hif⊢
 by_cases hc:c1=0
 case neg=>
  rw[if_neg hc]at hif;subst hif;have t1:(((c1:Nat):Int) !=0)=true:=by simp[hc]
  simp only[go_sem,t1];exact .same (.refl _) ⟨hd1,kp1,by rw[if_neg hc];rfl⟩
 subst hc;rw[if_pos rfl]at hif;obtain⟨jid,spj,rfl,hjn,hj,hsn⟩:=hif;simp only[go_sem];refine(R5 h1 her1).pthen ?_;rw[show cM yZ= .agg (jt yZ)from rfl,newL]
 simp only[go_sem];intro x hx;have hxh:h x=none:=by
  cases hh:h x with
  |none=>rfl
  |some k=>
   by_cases e:x=did
   ·subst e
    obtain⟨y,hy,_⟩:=hd1;rw[hy]at hx;cases hx
   ·rw[kp1 _ _ e hh]at hx;cases hx
 simp only[go_sem];refine inH fun H1 w1=>?_
 have hs1:Ab.Sub h1 H1:=by rw[w1];exact(Sub.refl h1).new hx _
 have hE1:lT H1 x jid did (lK ps) [] spj:=⟨_,by rw[w1,ah];rfl,.inl ⟨rfl,rfl,rfl⟩,hj.sub hs1⟩
 clear w1;have hK1:Keep did h H1:=kp1.trans (hs1.keep did);refine(Gt jid did ps false spj H1 (hj.sub hs1) ac0 (fun p hp=>by have:=hlen p hp;omega)).mono fun r h2 ⟨q,er,hs2⟩=>?_
 subst er;simp only[go_sem,acQ];refine .intro (fun m ρ H=>∃(i:Nat) (e:dZ) (spl:List Nat),mI (lK ps) (ps.take i)=some e∧e.ps=ps∧e.down=false∧e.log.length=i∧jl i e.s∧lT H x jid did e spl spj∧bS H did d1∧Keep did h H∧(∀j∈spl,h j=none)∧i≤ps.length∧m=ps.length - i∧lk ρ 6=some (.ptr x 0)∧lk ρ 28=some (.sl (ps.map mS) q)∧lk ρ 29=some (.i ps.length)∧lk ρ 30=some (.i i)) (ps.length - 0) ?_ ?_
 ·obtain⟨yl,a,b,c⟩:=hE1
  refine⟨0,lK ps,[],rfl,rfl,rfl,rfl,yy,⟨yl,hs2 _ _ a,b.touch (S:=[]) (.of hs2) (fun i hi=>by cases hi),c.sub hs2⟩,(hd1.keep hs1.fZ).keep hs2.fZ,hK1.trans (hs2.keep did),fun j hj=>(by cases hj),ac0,rfl,?_,?_,?_,?_⟩<;>simp only[go_sem]
 rintro m ρ H ⟨i,e,spl,hf,hps2,hdn,hlg,hG,hE,hD,hK,hsl,hi,rfl,r6,r28,r29,r30⟩
 by_cases hlt:i<ps.length
 case neg=>
  have ei:i=ps.length:=ac0;have t1:decide ((i:Int)<(ps.length:Int))=false:=decide_eq_false ac0;rw[ei,List.take_length]at hf;simp only[go_sem,r6,r28,r29,r30,t1];refine .same (.refl _) ⟨hD,hK,?_⟩
  show uG h H did ps (.tup [.ptr x 0,.i 0])
  unfold uG vA;rw[hf];exact⟨x,jid,spl,spj,rfl,hE,fun j hj=>by
   simp only[List.mem_cons,List.mem_append]at hj;rcases hj with rfl|rfl|hj|hj
   ·exact hxh
   ·exact hjn
   ·exact hsl _ hj
   ·exact(hsn _ hj).1⟩
 have t1:decide ((i:Int)<(ps.length:Int))=true:=decide_eq_true ac0;have w3:=acW i ac0;have ix:=fun k=>fD.eq (xs:=ps.map mS) (sz:=1) i adr adi k
 have hf1:=FP hlt hf;have hpl:=hlen _ (acV hlt);rw[acR]at ix;obtain⟨p,ep⟩:∃p,ps[i]=p:=⟨_,rfl⟩;rw[ep]at ix hf1 hpl;simp only[mS]at ix;have hEx:=hE;obtain⟨yl,hx2,hgl,hj2⟩:=hE;simp only[go_sem,r6,r28,r29,r30,t1,ix];refine(Lu p .no e yl jid x H ac0 hx2).pthen ?_;unfold Bn;have her2:jj H:=her.touch (.keep hK) (fun i hi b vs hh=>by
  obtain⟨y,hy,_⟩:=hdk;rw[List.mem_singleton.1 hi,hy]at hh;cases hh)
 have bad:∀H',Ab.Sub H H'→mT e p=none→bS H' did d1∧Keep did h H'∧uG h H' did ps (.tup [.v (.pointer none),.i 7]):=fun H' hs hn=>by
  refine⟨hD.keep hs.fZ,hK.trans (hs.keep did),?_⟩;unfold uG vA;rw[FO (hf1.trans hn)]
 cases hr:jF e p with
 |none=>
  have hn:mT e p=none:=by unfold mT;rw[hr]
  simp only[go_sem,hr,opA,opC,oI,aq,Option.getD,Option.isSome];intro i9 h9;simp only[go_sem];exact .mk _ (.refl _) (.refl _) (bad _ ((Sub.refl H).new h9 _) hn)
 |some o=>
  have h64:=O5 hr ac0;have hst:mT e p=if(aT e.s o).2.2.2=0 then some (nC e (aT e.s o) p)else none:=by unfold mT;rw[hr]
  obtain⟨a1,a2,a3,a4,a5,a6,a7,es⟩:=dJ e.s;have hgd:=fun(G:Heap) (hG' :Ab.Sub H G)=>oX e.s hG ac0 o h64 G (her2.sub hG')
  have hG2:=wq o hG;have g:=hx2;unfold mV at g;rw[es]at g;simp only[List.cons_append,List.nil_append]at g;simp only[go_sem,hr,opA,opC,Option.getD,Option.isSome];intro i9 h9;have x9:i9≠x:=fun e=>by rw[e,hx2]at h9;cases h9
  simp only[go_sem];generalize hH:upd H i9 _=H1;have kx:H1 x=_:=(by rw[←hH,ag _ _ (Ne.symm x9)]:H1 x=H x).trans g
  have k9:H1 i9=some (.obj (opC o) 39):=afb;have hsub:Ab.Sub H H1:=by rw[←hH];exact(Sub.refl H).new h9 _
  clear hH g;generalize aT e.s o=gd at hgd hst hG2⊢;obtain⟨S,R,D,E⟩:=gd;simp only at hst hG2;obtain⟨b1,b2,b3,b4,b5,b6,b7,es2⟩:=dJ S;rw[oY,show cM e.s= .agg (jt e.s)from rfl,es,show cM S= .agg (jt S)from rfl,es2]at hgd
  simp only[opA,opC]at hgd;unfold opC at k9;refine .tree _ (.quiet [0,1,2,3,4] 5 (.news [6,7,8,9,10] [11,12,13] (.seq [14,15,16,17]))) (.refl _) ac3 rfl ?_;simp only[go_sem,r6,kx,k9];refine⟨_,fun G hs=>hgd G (hsub.trans hs),?_⟩
  simp only[go_sem];refine⟨.refl _,ac7,?_⟩;intro jd hjd je hje jf hjf;have ned:=aH hje;have kje:=aB hje;have nfe:=aH hjf;have nfd:=aH (aB hjf);have kjf:=aB (aB hjf);simp only[go_sem,ak,ned,ned.symm,nfe,nfe.symm,nfd,nfd.symm];refine⟨adb,adb,adb,?_⟩;refine Uj fun H2 w2=>?_
  have xjd:jd≠x:=fun e=>agH
  have xje:je≠x:=fun e=>agI
  have xjf:jf≠x:=fun e=>agJ
  have hs2:Ab.Sub H H2:=by
   have:=hsub.none hjd;have:=hsub.none kje;have:=hsub.none kjf;rw[w2];repeat (first|exact hsub|refine Ab.Sub.put ?_ ade _)
  have fx:H2 x=_:=(by rw[w2];simp only[ak,xjd,xjd.symm,xje,xje.symm,xjf,xjf.symm,ne_eq,not_false_eq_true]:H2 x=H1 x).trans kx
  have fd:H2 jd=some (.obj [.i S.tick,gb S.cases,kj S.reviews,lu S.notices,dY S.roles,b1,b2,b3,b4,b5,b6,b7,.i S.version] 63):=by rw[w2];simp only[ak,ned,ned.symm,nfe,nfe.symm,nfd,nfd.symm,ah,ne_eq,not_false_eq_true]
  have ff:H2 jf=some (.obj (ye D) 68):=by rw[w2];simp only[ak,ned,ned.symm,nfe,nfe.symm,nfd,nfd.symm,ah,ne_eq,not_false_eq_true];rfl
  clear w2;simp only[ye,opC,List.cons_append,List.nil_append]at ff
  by_cases hE0:E=0
  case neg=>
   have t2:(E !=0)=true:=by simp[hE0]
   rw[if_neg hE0]at hst;simp only[go_sem,t2];exact .same (.refl _) (bad _ hs2 hst)
  subst hE0;rw[if_pos rfl]at hst;have hx3:H2 x=some (mV jid e yl):=by rw[fx];unfold mV;rw[es];rfl
  have hg3:=hgl.touch (S:=[]) (.of hs2) (fun i hi hh=>aeq)
  have hgo:=HD e S D p .no jid x yl spl H2 hx3 hg3 ac0 ac0;rw[show cM S= .agg (jt S)from rfl,es2]at hgo
  simp only[ye,opC,List.cons_append,List.nil_append]at hgo;simp only[go_sem,r6,fd,ff];refine hgo.mono fun r H4 ⟨er,yl',spl',hx4,hg4,hT4,hs4⟩=>?_
  subst er;simp only[go_sem,r6,r28,r29,r30,w3];have hout:∀j∈x::spl,h j=none:=fun j hj=>by
   rcases List.mem_cons.1 hj with rfl|hj
   ·exact hxh
   ·exact hsl _ hj
  have hdid:h did≠none:=by
   obtain⟨y,hy,_⟩:=hdk;rw[hy];simp
  have hj3:=hj2.sub hs2;have hD2:=hD.keep hs2.fZ;refine⟨_,?_,i+1,nC e (S,R,D,0) p,spl',hf1.trans hst,hps2,hdn,?_,hG2,⟨yl',hx4,hg4,?_⟩,?_,?_,?_,ac0,rfl,?_,?_,?_,?_⟩
  ·omega
  ·simp[nC,hlg]
  ·refine hj3.touch hT4 ?_ ?_
   ·obtain⟨z,zs,hz1,_⟩:=hj3
    intro hh;exact ail
   ·obtain⟨z,zs,_,hz2,_⟩:=hj3
    intro j hj hh;obtain⟨n,hn⟩:=hz2.has j hj;rcases List.mem_cons.1 hh with rfl|hh
    ·rw[hx3]at hn;cases hn
    ·obtain⟨n2,hn2⟩:=hg3.has j hh
     rw[hn2]at hn;cases hn
  ·exact hD2.touch hT4 (fun j hj cs=>by
    rcases List.mem_cons.1 hj with rfl|hj
    ·rw[hx3];exact⟨fun hh=>aeq,fun hh=>aeq⟩
    ·obtain⟨n,hn⟩:=hg3.has j hj
     rw[hn];exact⟨fun hh=>aeq,fun hh=>aeq⟩)
  ·intro j k hj hk
   exact hT4 _ _ (fun hh=>by rw[hout j hh]at hk;cases hk) (hs2 _ _ (hK _ _ hj hk))
  ·intro j hj
   rcases hs4 j hj with hh|hh
   ·exact hsl _ hh
   ·cases hk:h j with
    |none=>rfl
    |some k=>
     by_cases e1:j=did
     ·subst e1
      obtain⟨y,hy,_⟩:=hD2;rw[hy]at hh;cases hh
     ·rw[hs2 _ _ (hK _ _ e1 hk)]at hh;cases hh
  all_goals simp only[go_sem,r6,r28,r29]
theorem lT.sub{h h' :Heap}{x jid did:Nat}{e:dZ}{spl spj:List Nat}(he:lT h x jid did e spl spj)(hs:Ab.Sub h h'):lT h' x jid did e spl spj:=by
 obtain⟨yl,a,b,c⟩:=he;exact⟨yl,hs _ _ a,b.touch (S:=[]) (.of hs) ac7,c.sub hs⟩
end Go.Proofs.YtfdgemhnlennbaaGreatDoor
namespace Go.Bf
open Go Go.Ab Go.Proofs.YtfdgemhnlennbaaGreatDoor
def U4(e:dZ)(o:OpD):dZ:={nC e (aT e.s o) (dX e.ch o)with ps:=e.ps++ [dX e.ch o],down:=false}
theorem P9{e:dZ}(d:D){o:OpD}(h:e.down=false)(hg:(aT e.s o).2.2.2≠0):doE e d o=(e,d,(aT e.s o).2.1):=by
 simp_all [doE,if_neg,if_pos]
theorem Up{e:dZ}{d d' :D}{o:OpD}{ps:List Txt}{dn:Bool}{c:Nat}(h:e.down=false)(hg:(aT e.s o).2.2.2=0)(hj:jadd d e.ps false (dX e.ch o)=((d',ps,dn),c)):
  doE e d o=if c=0 then({nC e (aT e.s o) (dX e.ch o)with ps:=ps,down:=dn},d',(aT e.s o).2.1)else({e with ps:=ps,down:=dn},d',Df (c:Int)):=by
 simp_all [doE,if_neg]
theorem Hq{e:dZ}{d:D}{o:OpD}(h:e.down=false)(hg:(aT e.s o).2.2.2=0)(h1:d.off=false)(h2:d.f=0)(hr:d.b.length+(frame (dX e.ch o)).length≤d.q):
  doE e d o=({nC e (aT e.s o) (dX e.ch o)with ps:=e.ps++ [dX e.ch o],down:=false},{d with b:=d.b++frame (dX e.ch o),sy:=(d.b++frame (dX e.ch o)).length},(aT e.s o).2.1):=by
 have hl:=um (h:=e.ch) (qE (jn hg));rw[Up h hg (UX h1 h2 ac0 ac0 hr),if_pos rfl]
theorem Hp{e:dZ}{d:D}{o:OpD}(h:e.down=false)(hg:(aT e.s o).2.2.2=0)(h1:d.off=false)(hr:d.q<d.b.length+(frame (dX e.ch o)).length):doE e d o=(e,d,Df 8):=by
 have hl:=um (h:=e.ch) (qE (jn hg));rw[Up h hg (LV h1 ac0 ac0 hr),if_neg ac4];obtain⟨_,_,_,_,dn⟩:=e;cases h;rfl
end Go.Bf
namespace Go.Proofs.YtfdgemhnlennbaaGreatDoor
open Go Go.Ab Go.Bf
theorem Bu{h0 h h' :Heap}{S:List Nat}(hs:Ab.Sub h0 h)(ht:Touch S h h')(hn:∀i∈S,h0 i=none):Ab.Sub h0 h' :=fun j k hj=>ht j k ac1 (hs j k hj)
theorem ER{h0 h h' :Heap}{i:Nat}(hs:Ab.Sub h0 h)(ht:Keep i h h')(hn:h0 i=none):Ab.Sub h0 h' :=Bu hs (.keep ht) ac1
structure uE (h0 h:Heap) (x jid did:Nat) (e:dZ) (d:D) (spl spj:List Nat):Prop where
 eng:lT h x jid did e spl spj
 disk:bS h did d
 ok:d.ok
 sub:Ab.Sub h0 h
 new:∀i∈x::did::jid::(spl++spj),h0 i=none
theorem uE.up{h0 h h' :Heap}{x jid did:Nat}{e:dZ}{d:D}{spl spj:List Nat}(w:uE h0 h x jid did e d spl spj)(hs:Ab.Sub h h'):uE h0 h' x jid did e d spl spj:=
 ⟨w.eng.sub hs,w.disk.keep hs.fZ,w.ok,w.sub.trans hs,w.new⟩
theorem uE.doS{h0 h:Heap}{x jid did:Nat}{e:dZ}{d:D}{spl spj:List Nat}(w:uE h0 h x jid did e d spl spj)(o:OpD)(hps:e.ps.length≤1000000)(hlg:e.log.length≤1000000){k:Nat}(hG:jl k e.s)(hk:k≤1000)(h64:oe o)(her:jj h0)(hok:(doE e d o).2.1.ok):
  ai Tryz.prog 10 [.ptr x 0,opA o] h fun r h' =>r= .agg (lR (doE e d o).2.2)∧∃spl' spj',uE h0 h' x jid did (doE e d o).1 (doE e d o).2.1 spl' spj'∧Touch (x::did::jid::(spl++spj)) h h'∧(∀i∈x::did::jid::(spl' ++spj'),i∈x::did::jid::(spl++spj)∨h i=none):=
 (Uq x jid did e d spl spj o h w.eng w.disk w.ok hps hlg hG hk h64 (her.sub w.sub)).mono fun r h' ⟨e1,spl',spj',a,b,c,f,g⟩=>by
  have hin:∀i∈x::did::jid::(spl' ++spj'),i∈x::did::jid::(spl++spj)∨h i=none:=fun i hi=>by
   simp only[List.mem_cons,List.mem_append]at hi⊢;rcases hi with hi|hi|hi|hi|hi
   ·exact .inl (.inl hi)
   ·exact .inl (.inr (.inl hi))
   ·exact .inl (.inr (.inr (.inl hi)))
   ·rcases f i hi with h1|h1|h1
    ·exact .inl (.inr (.inr (.inr (.inl h1))))
    ·exact .inl (.inr (.inr (.inr (.inr h1))))
    ·exact .inr h1
   ·rcases g i hi with h1|h1
    ·exact .inl (.inr (.inr (.inr (.inr h1))))
    ·exact .inr h1
  exact⟨e1,spl',spj',⟨a,b,hok,Bu w.sub c w.new,fun i hi=>(hin i hi).elim (w.new i) w.sub.none⟩,c,hin⟩
end Go.Proofs.YtfdgemhnlennbaaGreatDoor
namespace Go.Bf
open Go Go.Ab Go.Proofs.YtfdgemhnlennbaaGreatDoor
def pW(e:dZ)(d:D)(s:Txt):dZ×D×Txt:=match lU s with
 |none=>(e,d,[119,104,97,116])
 |some o=>((doE e d o).1,(doE e d o).2.1,gO (doE e d o).2.2)
end Go.Bf
namespace Go.Proofs.YtfdgemhnlennbaaGreatDoor
open Go Go.Ab Go.Bf
theorem uE.line{h0 h:Heap}{x jid did:Nat}{e:dZ}{d:D}{spl spj:List Nat}(w:uE h0 h x jid did e d spl spj)(s:Txt)(hl:s.length≤900000)(hps:e.ps.length≤1000000)(hlg:e.log.length≤1000000){k:Nat}(hG:jl k e.s)(hk:k≤1000)(her:jj h0)(ht:BL h0)(h64:∀o,lU s=some o→oe o)(hok:(pW e d s).2.1.ok)(hr:∀o,lU s=some o→BM (doE e d o).2.2):
  ai Tryz.prog 34 [.ptr x 0,.s s] h fun r h' =>r= .s (pW e d s).2.2∧∃spl' spj',uE h0 h' x jid did (pW e d s).1 (pW e d s).2.1 spl' spj'∧Touch (x::did::jid::(spl++spj)) h h'∧(∀i∈x::did::jid::(spl' ++spj'),i∈x::did::jid::(spl++spj)∨h i=none):=by
 refine acZ Tryz.func34 18 [.tmp 4] fun hwf=>?_
 simp -implicitDefEqProofs only[go_sem];refine(o9 s hl _ (her.sub w.sub)).pthen ?_;unfold wL;cases eo:lU s with
 |none=>
  simp -implicitDefEqProofs only[go_sem];intro i hi;simp -implicitDefEqProofs only[go_sem,Option.isSome_none,Option.getD_none,opA,opC,oI,ah,cP];refine .mk _ (.refl _) (.aj hi) ⟨by unfold pW;rw[eo];rfl,spl,spj,by grind [pW],.refl _ _,fun j hj=> .inl hj⟩
 |some o=>
  have ee:pW e d s=((doE e d o).1,(doE e d o).2.1,gO (doE e d o).2.2):=by grind [pW]
  rw[ee]at hok;have hr:=hr o eo;have h64:=h64 o eo;simp -implicitDefEqProofs only[go_sem];intro i hi;simp -implicitDefEqProofs only[go_sem,Option.isSome_some,Option.getD_some,opA,opC,aQ,ah,cP];generalize hH:upd h i _=H;have hsH:Ab.Sub h H:=by rw[←hH];exact .aj hi
  refine(show ai Tryz.prog _ [.ptr x 0,opA o] _ _ from((w.up hsH).doS o hps hlg hG hk h64 her hok).mono fun r H2 ⟨er,spl',spj',w2,hT,hin⟩=>?_)
  subst er;simp -implicitDefEqProofs only[go_sem];refine(IG _ hr _ (ht.sub w2.sub)).pthen ?_;simp -implicitDefEqProofs only[go_sem];exact .same (.refl _) ⟨by rw[ee];rfl,spl',spj',ac1,(Touch.of (S:=[]) hsH).trans hT,fun i hi=>(hin i hi).imp id hsH.none⟩
end Go.Proofs.YtfdgemhnlennbaaGreatDoor
namespace Go.Bf
open Go Go.Ab
def eqT(a b:ga):Bool:=eqL (eqL (eqL Oh)) a b
def eqR(r s:cQ):Bool:=r.id==s.id && (r.deny==s.deny && (eqT r.tgt s.tgt && (eqL RA r.cond s.cond && eqL Qc r.obls s.obls)))
mutual
def eqP:bH→bH→Bool
 |.mk i1 s1 a1 t1 r1 k1 o1,.mk i2 s2 a2 t2 r2 k2 o2=>i1==i2 && (s1==s2 && (a1==a2 && (eqT t1 t2 && (eqL Qc o1 o2 && (eqL eqR r1 r2 && eqK k1 k2)))))
def eqK:List bH→List bH→Bool
 | [],[]=>true
 |x::a,y::b=>eqP x y && eqK a b
 |_,_=>false
end
end Go.Bf
namespace Go.Bf
open Go Go.Ab Go.Proofs.YtfdgemhnlennbaaGreatDoor
theorem Od{k n:Nat}{e:dZ}{b:Txt}{sy:Nat}(o:OpD)(hd:e.down=false)(hG:jl k e.s)(hok:D.ok ⟨n,b,sy,0,false⟩):
  ∃e' b' sy' RR,doE e ⟨n,b,sy,0,false⟩ o=(e',⟨n,b',sy',0,false⟩,RR)∧D.ok ⟨n,b',sy',0,false⟩∧e'.down=false∧e'.ps.length≤e.ps.length+1∧e'.log.length≤e.log.length+1∧jl (k+1) e'.s∧
   (((aT e.s o).2.2.2≠0∧RR=(aT e.s o).2.1∧e' =e)∨((aT e.s o).2.2.2=0∧n<b.length+16+(jJ o).length∧RR=Df 8∧e' =e)∨((aT e.s o).2.2.2=0∧b.length+16+(jJ o).length≤n∧RR=(aT e.s o).2.1∧e' =U4 e o)):=by
 have up:jl (k+1) e.s:={hG.tokM.up with ticks:=hG.ticks}
 have hl:(frame (dX e.ch o)).length=16+(jJ o).length:=by grind [mb,dX,iI]
 by_cases hg:(aT e.s o).2.2.2=0
 case neg=>exact⟨e,b,sy,_,P9 _ hd hg,hok,hd,ac0,ac0,up,.inl ⟨hg,rfl,rfl⟩⟩
 by_cases hr:b.length+16+(jJ o).length≤n
 ·refine⟨_,_,_,_,Hq (d:=⟨n,b,sy,0,false⟩) hd hg rfl rfl ac1,⟨?_,hok.2.1,Nat.le_refl _,hok.2.2.2⟩,rfl,ac7,by simp[nC],wq o hG,.inr (.inr ⟨hg,hr,rfl,rfl⟩)⟩
  grind
 ·exact⟨e,b,sy,_,Hp (d:=⟨n,b,sy,0,false⟩) hd hg rfl ac1,hok,hd,ac0,ac0,up,.inr (.inl ⟨hg,ac0,rfl,rfl⟩)⟩
structure IC (e:dZ) (b:Txt):Prop where
 ok:GZ e
 b:b=frames e.ps
 len:∀p∈e.ps,9≤p.length∧p.length≤5008
 log:e.log.length=e.ps.length
theorem Dd:IC (lK []) []:=⟨rfl,rfl,fun p hp=>(by cases hp),rfl⟩
theorem Lo{n:Nat}{e:dZ}{b:Txt}{sy:Nat}{o:OpD}(hd:e.down=false)(h64:oe o)(hw:IC e b){e' :dZ}{b' :Txt}{sy' :Nat}{R:gY}(he:doE e ⟨n,b,sy,0,false⟩ o=(e',⟨n,b',sy',0,false⟩,R)):
  IC e' b'∧(e'.ps=e.ps∨cV o=true∧e'.ps=e.ps++ [dX e.ch o])∧(sy=b.length→sy' =b'.length):=by
 have stay:e' =e→b' =b→sy' =sy→IC e' b'∧(e'.ps=e.ps∨cV o=true∧e'.ps=e.ps++ [dX e.ch o])∧(sy=b.length→sy' =b'.length):=fun h1 h2 h3=>by
  subst h1 h2 h3;exact⟨hw,.inl rfl,fun h=>h⟩
 have hl:(frame (dX e.ch o)).length=16+(jJ o).length:=by grind [mb,dX,iI]
 by_cases hg:(aT e.s o).2.2.2=0
 case neg=>
  rw[P9 _ hd hg]at he;injection he with h1 h2
  injection h2 with h2 _
  injection h2 with _ h3 h4
  exact stay h1.symm h3.symm h4.symm
 by_cases hr:b.length+16+(jJ o).length≤n
 ·rw[Hq (d:=⟨n,b,sy,0,false⟩) hd hg rfl rfl ac1]at he
  injection he with h1 h2
  injection h2 with h2 _
  injection h2 with _ h3 h4
  subst h1 h3 h4;have hrl:=um (h:=e.ch) (qE (jn hg));refine⟨⟨Rz hw.ok hg h64,?_,?_,?_⟩,.inr ⟨jn hg,rfl⟩,fun _=>rfl⟩
  ·show b++frame _=frames (e.ps++ [_])
   rw[wh,hw.b]
  ·intro p hp
   rcases List.mem_append.1 hp with hp|hp
   ·exact hw.len p hp
   grind
  ·simp[nC,hw.log]
 ·rw[Hp (d:=⟨n,b,sy,0,false⟩) hd hg rfl ac1]at he
  injection he with h1 h2
  injection h2 with h2 _
  injection h2 with _ h3 h4
  exact stay h1.symm h3.symm h4.symm
end Go.Bf
namespace Go.Proofs.YtfdgemhnlennbaaGreatDoor
open Go Go.Ab Go.Bf
theorem M0(y:dZ){n:Nat}{B:Txt}(hW:IC y B)(hdn:y.down=false)(hps:y.ps.length≤900)(d:D)(hdo:d.ok)(hop:d.cc=(⟨n,B,B.length,0,false⟩,0))(hsc:(scan d.b).1=y.ps)(did:Nat)(g H:Heap)(hdk:bS H did d)(hs:Ab.Sub g H)(hn:g did=none)(her:jj g):
  ai Tryz.prog 9 [.ptr did 0] H fun r H' =>∃x jid spl spj,r= .tup [.ptr x 0,.i 0]∧uE g H' x jid did y ⟨n,B,B.length,0,false⟩ spl spj∧Keep did H H'∧(∀i∈x::jid::(spl++spj),H i=none):=
 (M1 d hdo did H hdk (her.sub hs) ac1).mono fun r H' ⟨h1,h2,h3⟩=>by
  have hok:=D.Mq hdo;rw[hop]at h1 h3 hok;unfold uG at h3;have hy:vA y.ps=some y:=by
   have:=hW.ok;rw[this];obtain⟨_,_,_,_,_⟩:=y;cases hdn;rfl
  rw[hsc,hy]at h3;obtain⟨x,jid,spl,spj,a,b,c⟩:=h3;exact⟨x,jid,spl,spj,a,⟨b,h1,hok,ER hs h2 hn,fun i hi=>by
   simp only[List.mem_cons]at hi c;rcases hi with rfl|rfl|hi
   ·exact hs.none (c _ (.inl rfl))
   ·omega
   ·exact hs.none (c _ (.inr hi))⟩,h2,c⟩
theorem GJ(q:Nat)(hq:q≤1048576)(did:Nat)(h0 h:Heap)(hdk:bS h did ⟨q,[],0,0,false⟩)(hs:Ab.Sub h0 h)(hn:h0 did=none)(her:jj h0):
  ai Tryz.prog 9 [.ptr did 0] h fun r h' =>∃x jid spl spj,r= .tup [.ptr x 0,.i 0]∧uE h0 h' x jid did (lK []) ⟨q,[],0,0,false⟩ spl spj∧Keep did h h'∧(∀i∈x::jid::(spl++spj),h i=none):=
 M0 (lK []) Dd rfl ac4 ⟨q,[],0,0,false⟩ ⟨Nat.zero_le _,hq,Nat.zero_le _,(by decide:(0:Nat)<9223372036854775808)⟩ adg (by rw[MW];rfl) did h0 h hdk hs hn her
end Go.Proofs.YtfdgemhnlennbaaGreatDoor
namespace Go.Bf
open Go Go.Ab Go.Proofs.YtfdgemhnlennbaaGreatDoor
def Ka:List Txt:=[[97,110,110,32,110,101,119,32,99],[97,110,110,32,119,114,105,116,101,32,99,32,120,32,45,53],[98,111,98,32,114,101,97,100,32,99,32,120],[97,110,110,32,109,111,118,101,32,99,32,100,111,110,101],[120],[97,110,110,32,112,111,108,105,99,121,32,112,111,108,105,99,121,32,112,32,100,101,110,121,117,110,108,101,115,115,32,123,32,125],[98,111,98,32,114,101,97,100,32,99,32,120],[97,110,110,32,112,111,108,105,99,121,32,120]]
def MY:List Txt:=[[111,107],[111,107],[111,107,32,45,53],[101,114,114,111,114,32,49,51],[119,104,97,116],[111,107],[100,101,110,105,101,100,32,68,101,110,121],[101,114,114,111,114,32,53]]
def Pe:Nat→Option OpD
 |0=>some ⟨1,[97,110,110],[99],[],[],aq,0,[],[],false⟩
 |1=>some ⟨3,[97,110,110],[99],[120],[],⟨2, -5,[]⟩,0,[],[],false⟩
 |2|6=>some ⟨2,[98,111,98],[99],[120],[],aq,0,[],[],false⟩
 |3=>some ⟨4,[97,110,110],[99],[],[100,111,110,101],aq,0,[],[],false⟩
 |5=>some ⟨7,[97,110,110],[],[],[],aq,0,[112,111,108,105,99,121,32,112,32,100,101,110,121,117,110,108,101,115,115,32,123,32,125],[],false⟩
 |7=>some ⟨7,[97,110,110],[],[],[],aq,0,[120],[],false⟩
 |_=>none
def zy:Nat→an
 |0=>yZ
 |i+1=>match Pe i with|none=>zy i|some o=>(aT (zy i) o).1
def Vh(i:Nat):Prop:=lU (Ka.getD i [])=Pe i∧match Pe i with
 |none=>MY.getD i []= [119,104,97,116]
 |some o=>gO (aT (zy i) o).2.1=MY.getD i []∧oe o∧(jJ o).length≤300∧BM (aT (zy i) o).2.1
theorem kJ(r:gY)(h:(decide (M9 r.mark) && decide (-1000≤r.err) && decide (r.err≤1000) && decide (-1000≤r.at_) && decide (r.at_≤1000) && decide (-1000≤r.val.n) && decide (r.val.n≤1000))=true):BM r:=by
 simp only[Bool.and_eq_true,decide_eq_true_eq]at h;obtain⟨⟨⟨⟨⟨⟨h1,h2⟩,h3⟩,h4⟩,h5⟩,h6⟩,h7⟩:=h;exact⟨h1,⟨ac0,ac0⟩,⟨ac0,ac0⟩,⟨ac0,ac0⟩⟩
theorem pF(o:OpD)(h:(decide (-1000≤o.kind) && decide (o.kind≤1000) && decide (-1000≤o.val.kind) && decide (o.val.kind≤1000) && decide (-1000≤o.val.n) && decide (o.val.n≤1000) && decide (-1000≤o.review) && decide (o.review≤1000))=true):oe o:=by
 simp only[Bool.and_eq_true,decide_eq_true_eq]at h;exact⟨⟨ac0,ac0⟩,⟨ac0,ac0⟩,⟨ac0,ac0⟩,⟨ac0,ac0⟩⟩
theorem Sk:∀i,i<8→Vh i
 |0,_=>⟨adg,adg,pF _ ac3,acP adg,kJ _ ac3⟩
 |1,_=>⟨adg,adg,pF _ ac3,acP adg,kJ _ ac3⟩
 |2,_=>⟨adg,ac3,pF _ ac3,acP adg,kJ _ ac3⟩
 |3,_=>⟨adg,ac3,pF _ ac3,acP adg,kJ _ ac3⟩
 |4,_=>⟨adg,adg⟩
 |5,_=>⟨adg,adg,pF _ ac3,acP adg,kJ _ ac3⟩
 |6,_=>⟨adg,adg,pF _ ac3,acP adg,kJ _ ac3⟩
 |7,_=>⟨adg,ac3,pF _ ac3,acP adg,kJ _ ac3⟩
 |n+8,h=>ac0
end Go.Bf
namespace Go.Proofs.YtfdgemhnlennbaaGreatDoor
open Go Go.Ab Go.Bf
theorem LD(n:Nat)(hn:n≤1048576)(h0 h:Heap)(hs:Ab.Sub h0 h)(her:jj h0):ai Tryz.prog 33 [.i n] h fun r h' =>∃x jid did spl spj,r= .ptr x 0∧uE h0 h' x jid did (lK []) ⟨n,[],0,0,false⟩ spl spj∧Ab.Sub h h' :=by
 refine acZ Tryz.func33 26 [.tmp 2] fun hwf=>?_
 simp -implicitDefEqProofs only[go_sem];refine(Lm n hn h).mono fun r h1 ⟨did,hd,er,hdk,s1⟩=>?_
 subst er;simp -implicitDefEqProofs only[go_sem];refine(GJ n hn did h0 h1 hdk (hs.trans s1) (hs.none hd) her).mono fun r h2 ⟨x,jid,spl,spj,er,w,hK,hnew⟩=>?_
 subst er;simp -implicitDefEqProofs only[go_sem];exact .same (.refl _) ⟨x,jid,did,spl,spj,rfl,w,ER s1 hK hd⟩
def Q0(g:Heap)(x:Nat)(i:Nat)(h:Heap):Prop:=∃jid did spl spj e b sy,uE g h x jid did e ⟨10000,b,sy,0,false⟩ spl spj∧IC e b∧e.down=false∧jl i e.s∧e.s=zy i∧b.length≤316*i∧e.ps.length≤i
theorem Dv{s:an}{o:OpD}(h:(aT s o).2.2.2≠0):(aT s o).1=s:=by
 unfold aT at h⊢
 grind
theorem Pf:∀i,i<8→(Ka.getD i []).length≤900000:=ac4
theorem ED(g h:Heap)(her:jj g)(ht:BL g)(x i:Nat)(hi:i<8)(hp:Q0 g x i h):ai Tryz.prog 34 [.ptr x 0,.s (Ka.getD i [])] h fun r h' =>r= .s (MY.getD i [])∧Q0 g x (i+1) h'∧Ab.Sub g h' :=by
 obtain⟨jid,did,spl,spj,e,b,sy,w,hW,hdn,hG,es,hb,hp⟩:=hp;have hl:=Pf i hi;have hlg:=hW.log;obtain⟨h1,h2⟩:=Sk i hi;generalize Ka.getD i []=s at h1 hl⊢;cases eo:Pe i with
 |none=>
  rw[eo]at h1 h2;simp only at h2;have el:pW e ⟨10000,b,sy,0,false⟩ s=(e,⟨10000,b,sy,0,false⟩,[119,104,97,116]):=by grind [pW]
  refine(w.line s hl ac0 ac0 hG ac0 her ht (fun o e=>ac1) (by rw[el];exact w.ok) (fun o e=>ac1)).mono fun r h' ⟨er,spl',spj',w',_,_⟩=>?_
  rw[el]at w' er;refine⟨ac1,⟨jid,did,spl',spj',e,b,sy,w',hW,hdn,{hG.tokM.up with ticks:=hG.ticks},?_,ac0,ac0⟩,w'.sub⟩
  grind [zy]
 |some o=>
  rw[eo]at h1 h2;simp only at h2;obtain⟨h3,h64,hpl,hrt⟩:=h2;obtain⟨e',b',sy',RR,ed,hok,hdn',hps',hlg',hG',hways⟩:=Od o hdn hG w.ok;obtain⟨hW',hp',hy'⟩:=Lo hdn h64 hW ed;have el:pW e ⟨10000,b,sy,0,false⟩ s=(e',⟨10000,b',sy',0,false⟩,gO RR):=by grind [pW]
  have en:zy (i+1)=(aT (zy i) o).1:=by rw[zy,eo]
  have hR:RR=(aT (zy i) o).2.1∧e'.s=zy (i+1):=by
   rw[en,←es];rcases hways with⟨a,b1,c⟩|⟨a,b1,c⟩|⟨a,b1,c,d⟩
   ·grind [Dv]
   ·omega
   ·exact⟨c,by rw[d];rfl⟩
  have hbl:b'.length≤316*(i+1):=by
   have e1:=hW.b;have e2:=hW'.b;have hl:(frame (dX e.ch o)).length=16+(jJ o).length:=by grind [mb,dX,iI]
   rcases hp' with e3|⟨_,e3⟩
   ·rw[e2,e3,←e1];omega
   ·rw[e2,e3,wh,acU,←e1,hl]
    omega
  refine(w.line s hl ac0 ac0 hG ac0 her ht (fun o e=>ac1) ac1 (fun o' e2=>?_)).mono fun r h' ⟨er,spl',spj',w',_,_⟩=>?_
  ·grind
  rw[el]at w' er;exact⟨ac1,⟨jid,did,spl',spj',e',b',sy',w',hW',hdn',hG',hR.2,hbl,ac0⟩,w'.sub⟩
theorem se(h:Heap)(he:jj h)(ht:BL h):ai Tryz.prog 30 [] h fun r h' =>r= .b true∧h' =h:=
 ai.freeze fun g hgs _=>by
 have he:=he.sub hgs;have ht:=ht.sub hgs;refine acZ Tryz.func30 30 [.tmp 0] fun hwf=>?_
 simp -implicitDefEqProofs only[go_sem];refine(show ai Tryz.prog _ [.i 10000] _ _ from(LD 10000 ac4 g g (.refl _) he).mono fun r h1 ⟨x,jid,did,spl,spj,er,w,s1⟩=>?_)
 subst er;have hc:∀ρ:Env,ev ρ (.const (.string ⟨#[97,110,110,32,112,111,108,105,99,121,32,112,111,108,105,99,121,32,112,32,100,101,110,121,117,110,108,101,115,115,32,123,32,125]⟩))=some (.s [97,110,110,32,112,111,108,105,99,121,32,112,111,108,105,99,121,32,112,32,100,101,110,121,117,110,108,101,115,115,32,123,32,125]):=fun ρ=>I4 ac4
 simp -implicitDefEqProofs only[go_sem,hc];obtain⟨L,eL⟩:∃L,(Ka.take 7).map AV.s=L:=⟨_,rfl⟩;obtain⟨W,eW⟩:∃W,(MY.take 7).map AV.s=W:=⟨_,rfl⟩;have lL:L.length=7:=by rw[←eL];rfl
 have lW:W.length=7:=by rw[←eW];rfl
 refine .intro (fun m ρ H=>∃i:Nat,Q0 g x i H∧Ab.Sub g H∧i≤7∧m=7 - i∧lk ρ 1=some (.ptr x 0)∧lk ρ 2=some (.sl L .full)∧lk ρ 3=some (.sl W .full)∧lk ρ 11=some (.i 7)∧lk ρ 12=some (.i i)) 7 ?_ ?_
 ·refine⟨0,⟨jid,did,spl,spj,_,_,_,w,Dd,rfl,yy,rfl,Nat.zero_le _,Nat.zero_le _⟩,s1,ac0,rfl,?_,?_,?_,?_,?_⟩
  ·simp -implicitDefEqProofs only[go_sem]
  ·subst eL;simp -implicitDefEqProofs only[go_sem];rfl
  ·subst eW;simp -implicitDefEqProofs only[go_sem];rfl
  ·simp -implicitDefEqProofs only[go_sem]
  ·simp -implicitDefEqProofs only[go_sem]
 rintro m ρ H ⟨i,hP,hs,hi,rfl,r1,r2,r3,r11,r12⟩
 by_cases hc:i<7
 ·have d1:decide ((i:Int)<7)=true:=decide_eq_true ac0
  have w1:IntKind.i64.wrap ((i:Int)+1)=((i+1:Nat):Int):=adf;have gL:∀h:i<L.length,L[i]= .s (Ka.getD i []):=fun h=>ac1
  have gW:∀h:i<W.length,W[i]= .s (MY.getD i []):=fun h=>ac1
  simp -implicitDefEqProofs only[go_sem,r1,r2,r3,r11,r12,d1];refine .calls cR [0,1,2,3,4,6,7,8,9,5,10] (fun _ _ e=>ads) ac3 rfl ?_
  have ixL:=fun K=>fD.eq (xs:=L) (sz:=1) i ac0 (by rw[gL];rfl) K
  have ixW:=fun K=>fD.eq (xs:=W) (sz:=1) i ac0 (by rw[gW];rfl) K
  simp only[gL ac0]at ixL;simp only[gW ac0]at ixW;simp -implicitDefEqProofs only[go_sem,r1,r2,r3,r11,r12,d1,ixL,ixW];refine(ED g H he ht x i ac0 hP).mono fun r H2 ⟨er,hP2,hs2⟩=>?_
  subst er;refine⟨fun _ _ e=>ads,?_⟩
  simp -implicitDefEqProofs only[go_sem,r1,r2,r3,r11,r12,w1,bne_self_eq_false];exact⟨7 - (i+1),ac0,i+1,hP2,hs2,ac0,rfl,by simp -implicitDefEqProofs only[go_sem,r1],adt,by simp -implicitDefEqProofs only[go_sem,r3],by simp -implicitDefEqProofs only[go_sem,r11],adg⟩
 ·have:i=7:=by omega
  subst this;have d1:decide ((7:Int)<7)=false:=adg;simp only[Int.cast_ofNat_Int]at r12;simp -implicitDefEqProofs only[go_sem,r1,r2,r3,r11,r12,d1];refine(show ai Tryz.prog _ [.ptr x 0,.s [97,110,110,32,112,111,108,105,99,121,32,120]] _ _ from(ED g H he ht x 7 ac0 hP).mono fun r H2 ⟨er,hP2,hs2⟩=>?_)
  subst er;simp -implicitDefEqProofs only[go_sem];exact .same (.refl _) ⟨hs2,_,.pure rfl,rfl⟩
end Go.Proofs.YtfdgemhnlennbaaGreatDoor
namespace Go.Bf
open Go Go.Ab Go.Proofs.YtfdgemhnlennbaaGreatDoor
theorem Jl{o:OpD}(h:o.kind=0):cV o=false:=by
 grind [cV,dK]
theorem GV{w:Txt}(h:∀c∈w,c≠32)(r:Txt):cH w=(w,[])∧cH (w++32::r)=(w,r):=by
 have hp:∀c∈w,(fun c:UInt8=> !(c==32)) c=true:=ac1
 have h1:∀l:Txt,(w++l).takeWhile (fun c=> !(c==32))=w++l.takeWhile (fun c=> !(c==32))∧(w++l).dropWhile (fun c=> !(c==32))=l.dropWhile (fun c=> !(c==32)):=fun l=>⟨List.takeWhile_append_of_pos hp,List.dropWhile_append_of_pos hp⟩
 have h2:=h1 [];rw[List.append_nil]at h2;unfold cH;rw[(h1 _).1,(h1 _).2,h2.1,h2.2];exact⟨ac7,ac7⟩
theorem E4:∀(s:Txt),∀c∈(cH s).1,c≠32
 | [],c,hc=>by cases hc
 |a::l,c,hc=>by
  have ih:=E4 l c;unfold cH at hc ih;rw[List.takeWhile_cons]at hc
  grind
theorem A3{s w:Txt}(h:cH s=(w,[])):lU s=none:=by
 have:(Ep s).1.kind=0:=by
  unfold Ep;rw[h];rfl
 unfold lU;rw[Jl this];simp
theorem JJ{s:Txt}{o:OpD}(h:lU s=some o):cV o=true∧o.subj=(cH s).1:=by
 unfold lU at h;split at h
 ·rename_i h1
  injection h with h
  grind [Ep,opL]
 grind
end Go.Bf
namespace Go.Proofs.YtfdgemhnlennbaaGreatDoor
open Go Go.Ab Go.Bf
theorem Ak(s:Txt)(h:Heap)(he:jj h)(ht:BL h):ai Tryz.prog 6 [.s s] h fun r h' =>r= .b true∧h' =h:=by
 refine acZ Tryz.func6 53 [.tmp 2] fun hwf=>?_
 simp -implicitDefEqProofs only[go_sem];refine jK.join (fun ρ H=>H=h∧∃s' :Txt,s'.length≤500∧lk ρ 0=some (.s s')) ?_ fun K1 hK1=>?_
 rotate_left
 ·cases d1:decide ((s.length:Int)>500)
  ·simp -implicitDefEqProofs only[go_sem,d1]
   exact hK1 _ _ ⟨rfl,s,ac1,adg⟩
  ·have:=acS d1
   simp -implicitDefEqProofs only[go_sem,d1];exact⟨ac0,ac0,ac0,hK1 _ _ ⟨rfl,s.take 500,ac1,adg⟩⟩
 rintro ρ H ⟨rfl,s',hl,r0⟩
 clear hwf s;simp -implicitDefEqProofs only[go_sem,r0];refine(o9 s' ac0 _ he).pthen ?_;unfold wL;cases eo:lU s' with
 |none=>
  simp -implicitDefEqProofs only[go_sem,Option.isSome_none,Option.getD_none,opA,opC,oI,aq];intro i3 h3;simp -implicitDefEqProofs only[go_sem,Option.isSome_none,Option.getD_none,opA,opC,oI,aq,ah,cP];refine((se _ (he.sub (.aj h3)) (ht.sub (.aj h3))).pthen ?_);simp -implicitDefEqProofs only[go_sem];exact afh
 |some o=>
  obtain⟨hf,hs⟩:=JJ eo;simp -implicitDefEqProofs only[go_sem,Option.isSome_some,Option.getD_some,opA,opC,aQ];intro i3 h3;simp -implicitDefEqProofs only[go_sem,Option.isSome_some,Option.getD_some,opA,opC,aQ,ah,cP];have hno:=E4 s';rw[←hs]at hno;obtain⟨w1,w2⟩:=GV hno [];have hsl:=(mD s').1;rw[←hs]at hsl;refine(o9 o.subj ac0 _ (he.sub (.aj h3))).pthen ?_;unfold wL;rw[A3 w1];simp -implicitDefEqProofs only[go_sem,Option.isSome_none,Option.getD_none,opA,opC,oI,aq];intro i5 h5;generalize hH:upd H i3 _=H1 at h5⊢;have f3:H1 i3=some (.obj (opC o) 39):=afb;have s3:Ab.Sub H H1:=by rw[←hH];exact .aj h3
  clear hH;unfold opC at f3;have n53:i5≠i3:=fun e=>ac1
  simp -implicitDefEqProofs only[go_sem,f3,ah,cP,ak,n53.symm];have hll:o.subj.length+1<lim:=by
   have:lim=9223372036854775808:=rfl;omega
  refine⟨hll,?_⟩;have s5:∀b,Ab.Sub H (upd H1 i5 b):=fun b=>s3.new h5 b
  refine(o9 (o.subj++ [32]) ac1 _ (he.sub (s5 _))).pthen ?_;unfold wL;rw[A3 w2];simp -implicitDefEqProofs only[go_sem,Option.isSome_none,Option.getD_none,opA,opC,oI,aq];intro i7 h7;generalize hH:upd H1 i5 _=H2 at h7⊢;have g3:H2 i3=some (.obj (opC o) 39):=by rw[←hH,ag _ _ n53.symm,f3];rfl
  have s6:Ab.Sub H H2:=ac1;clear hH;unfold opC at g3;have n73:i7≠i3:=fun e=>ac1
  simp -implicitDefEqProofs only[go_sem,g3,ah,cP,ak,n73.symm];have hfo:=fun G=>xB o G
  simp only[opA,opC]at hfo;have s7:∀b,Ab.Sub H (upd H2 i7 b):=fun b=>s6.new h7 b
  refine(hfo _).pthen ?_;simp -implicitDefEqProofs only[go_sem,hf];refine(se _ (he.sub (s7 _)) (ht.sub (s7 _))).pthen ?_;simp -implicitDefEqProofs only[go_sem];exact .mk _ (.refl _) (s7 _) ⟨rfl,rfl⟩
theorem zz(ev:Value)(hev:ev= .nilIface∨∃te pe,ev= .iface te pe)(x:AV)(dx:Dat U 9 x):ai Tryz.prog 6 [x] (xu [(3,zk),(2,[ev])]) fun r _=>r= .b true:=by
 obtain⟨s,rfl,_⟩:=dx.Po adg;exact(Ak s _ (Kj hev) ⟨0,rfl⟩).mono fun _ _ h=>h.1
end Go.Proofs.YtfdgemhnlennbaaGreatDoor
