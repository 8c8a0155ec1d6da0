/- The law EngineBytes: pack 7 of its texts. -/
import Derived.Test.YteaaeelhjnhaaaaGreatDoorPk1
import Derived.Test.YteaaeelhjnhaaaaGreatDoorPk2
import Derived.Test.YteaaeelhjnhaaaaGreatDoorPk3
import Derived.Test.YteaaeelhjnhaaaaGreatDoorPk4
import Derived.Test.YteaaeelhjnhaaaaGreatDoorPk5
import Derived.Test.YteaaeelhjnhaaaaGreatDoorPk6
set_option linter.unusedSimpArgs false
set_option linter.unusedVariables false
set_option maxRecDepth 100000
namespace Go.Proofs.YteaaeelhjnhaaaaGreatDoor
open Go Go.Ab Go.Bf Tryz
variable {h h':Heap}{S spl spj:List Nat}{e e1:iG}{l:List Txt}
theorem TJ{P:Program}{U:TypeId→TI}{n:Nat}{a b:Code}{ρ:Env}{K:Exit→Env→Heap→Prop}{y:AV}(hh:∀H2,H2=h→oe P U n a b ρ H2 K y):oe P U n a b ρ h K y:=hh h rfl
theorem l8.touch(he:l8 h)(ht:Touch S h h')(hS:∀i∈S,∀b vs,h i≠some (.ro b vs)):l8 h' :=by obtain⟨ev,hev,id,hi⟩:=he;exact⟨ev,hev,id,ht _ _ acL hi⟩
theorem Fa{i:Nat}(hi:i<l.length)(h:pR e (l.take i)=some e1):pR e (l.take (i+1))=rS e1 l[i]:=by grind [List.take_succ_eq_append_getElem,xR]
theorem E9{i:Nat}(h:pR e (l.take i)=none):pR e l=none:=by
 rw[←List.take_append_drop i l];generalize l.take i=a at h⊢
 induction a generalizing e with
 |nil=>cases h
 |cons p a ih=>
  simp only[List.cons_append,pR]at h⊢
  grind
theorem Oo{p:Txt}{o:OpD}(h:nD e p=some o)(hl:p.length≤1000000):nO o:=by grind [nD,BO,List.length_drop]
def xe(h h' :Heap)(did:Nat)(ps:List Txt)(r:AV):Prop:=match F1 ps with
 |none=>r= .tup [.v (.pointer none),.i 7]
 |some e=>∃x jid spl spj,r= .tup [.ptr x 0,.i 0]∧jI h' x jid did e spl spj∧(∀i∈x::jid::(spl++spj),h i=none)
theorem newL:jt wB= [.i 0,.sl [] .no,.sl [] .no,.sl [] .no,.sl [] .no,.s jB,.b false,.i 6,.sl [] .no,.sl [] .no,.sl [] .no,.sl [] .no,.i 0]:=rfl
theorem Ml(d:D)(hdo:d.ok)(did:Nat)(h:Heap)(hdk:bR h did d)(her:l8 h)(hps:(scan d.b).1.length≤900):
  ai prog 34 [.ptr did 0] h fun r h' =>bR h' did d.cg.1∧Keep did h h'∧if d.cg.2=0 then xe h h' did (scan d.b).1 r else r= .tup [.v (.pointer none),.i (d.cg.2:Nat)]:=by
 have hlen:=(Oz d.b).2;refine acJ func34 62 [.tmp 2,.tmp 3] fun hwf=>?_
 simp only[go_sem];refine(Lb d hdo did h hdk).mono fun r h1 ⟨J,e1,hd1,kp1,hif⟩=>?_
 subst e1;have her1:l8 h1:=her.touch (.keep kp1) (fun i hi b vs hh=>by obtain⟨y,hy,_⟩:=hdk;rw[List.mem_singleton.1 hi,hy]at hh;cases hh)
 generalize (scan d.b).1=ps at hps hlen hif⊢;generalize d.cg=od at hd1 hif⊢;obtain⟨d1,c1⟩:=od;simp only at hd1 hif⊢
 by_cases hc:c1=0
 case neg=>
  rw[if_neg hc]at hif;subst hif;have t1:(((c1:Nat):Int) !=0)=true:=by simp[hc]
  simp only[go_sem,t1];exact .same (.refl _) ⟨hd1,kp1,by rw[if_neg hc];rfl⟩
 subst hc;rw[if_pos rfl]at hif;obtain⟨jid,spj,rfl,hjn,hj,hsn⟩:=hif;simp only[go_sem];refine(Rl h1 her1).pthen ?_;rw[show cN wB= .agg (jt wB)from rfl,newL]
 simp only[go_sem];intro x hx;have hxh:h x=none:=by
  cases hh:h x with
  |none=>rfl
  |some k=>
   by_cases e:x=did
   ·subst e
    obtain⟨y,hy,_⟩:=hd1;rw[hy]at hx;cases hx
   ·rw[kp1 _ _ e hh]at hx;cases hx
 simp only[go_sem];refine inH fun H1 w1=>?_
 have hs1:Ab.Sub h1 H1:=by rw[w1];exact(Sub.refl h1).new hx _
 have hE1:jI H1 x jid did (jF ps) [] spj:=⟨_,by rw[w1,ah];rfl,.inl ⟨rfl,rfl,rfl⟩,hj.sub hs1⟩
 clear w1;have hK1:Keep did h H1:=kp1.trans (hs1.keep did);refine(yY jid did ps false spj H1 (hj.sub hs1) acK (fun p hp=>by have:=hlen p hp;omega)).mono fun r h2 ⟨q,er,hs2⟩=>?_
 subst er;simp only[go_sem,acA];refine .intro (fun m ρ H=>∃(i:Nat) (e:iG) (spl:List Nat),pR (jF ps) (ps.take i)=some e∧e.ps=ps∧e.down=false∧e.log.length=i∧oJ i e.s∧jI H x jid did e spl spj∧bR H did d1∧Keep did h H∧(∀j∈spl,h j=none)∧i≤ps.length∧m=ps.length - i∧lk ρ 6=some (.ptr x 0)∧lk ρ 28=some (.sl (ps.map kL) q)∧lk ρ 29=some (.i ps.length)∧lk ρ 30=some (.i i)) (ps.length - 0) ?_ ?_
 ·obtain⟨yl,a,b,c⟩:=hE1
  refine⟨0,jF ps,[],rfl,rfl,rfl,rfl,xW,⟨yl,hs2 _ _ a,b.touch (S:=[]) (.of hs2) (fun i hi=>by cases hi),c.sub hs2⟩,(hd1.keep hs1.fR).keep hs2.fR,hK1.trans (hs2.keep did),fun j hj=>(by cases hj),acK,rfl,?_,?_,?_,?_⟩<;>simp only[go_sem]
 rintro m ρ H ⟨i,e,spl,hf,hps2,hdn,hlg,hG,hE,hD,hK,hsl,hi,rfl,r6,r28,r29,r30⟩
 by_cases hlt:i<ps.length
 case neg=>
  have ei:i=ps.length:=acK;have t1:decide ((i:Int)<(ps.length:Int))=false:=decide_eq_false acK;rw[ei,List.take_length]at hf;simp only[go_sem,r6,r28,r29,r30,t1];refine .same (.refl _) ⟨hD,hK,?_⟩
  show xe h H did ps (.tup [.ptr x 0,.i 0])
  unfold xe F1;rw[hf];exact⟨x,jid,spl,spj,rfl,hE,fun j hj=>by
   simp only[List.mem_cons,List.mem_append]at hj;rcases hj with rfl|rfl|hj|hj
   ·exact hxh
   ·exact hjn
   ·exact hsl _ hj
   ·exact(hsn _ hj).1⟩
 have t1:decide ((i:Int)<(ps.length:Int))=true:=decide_eq_true acK;have w3:=acG i acK;have ix:=fun k=>fP.eq (xs:=ps.map kL) (sz:=1) i ada acZ k
 have hf1:=Fa hlt hf;have hpl:=hlen _ (acF hlt);rw[acB]at ix;obtain⟨p,ep⟩:∃p,ps[i]=p:=⟨_,rfl⟩;rw[ep]at ix hf1 hpl;simp only[kL]at ix;have hEx:=hE;obtain⟨yl,hx2,hgl,hj2⟩:=hE;simp only[go_sem,r6,r28,r29,r30,t1,ix];refine(KJ p .no e yl jid x H acK hx2).pthen ?_;unfold A3;have her2:l8 H:=her.touch (.keep hK) (fun i hi b vs hh=>by obtain⟨y,hy,_⟩:=hdk;rw[List.mem_singleton.1 hi,hy]at hh;cases hh)
 have bad:∀H',Ab.Sub H H'→rS e p=none→bR H' did d1∧Keep did h H'∧xe h H' did ps (.tup [.v (.pointer none),.i 7]):=fun H' hs hn=>by refine⟨hD.keep hs.fR,hK.trans (hs.keep did),?_⟩;unfold xe F1;rw[E9 (hf1.trans hn)]
 cases hr:nD e p with
 |none=>
  have hn:rS e p=none:=by unfold rS;rw[hr]
  simp only[go_sem,hr,opA,opC,nU,an,Option.getD,Option.isSome];intro i9 h9;simp only[go_sem];exact .mk _ (.refl _) (.refl _) (bad _ ((Sub.refl H).new h9 _) hn)
 |some o=>
  have h64:=Oo hr acK;have hst:rS e p=if(bA e.s o).2.2.2=0 then some (qD e (bA e.s o) p)else none:=by unfold rS;rw[hr]
  obtain⟨a1,a2,a3,a4,a5,a6,a7,es⟩:=cQ e.s;have hgd:=fun(G:Heap) (hG' :Ab.Sub H G)=>oS e.s hG acK o h64 G (her2.sub hG')
  have hG2:=C7 o hG;have g:=hx2;unfold lY at g;rw[es]at g;simp only[List.cons_append,List.nil_append]at g;simp only[go_sem,hr,opA,opC,Option.getD,Option.isSome];intro i9 h9;have x9:i9≠x:=fun e=>by rw[e,hx2]at h9;cases h9
  simp only[go_sem];generalize hH:upd H i9 _=H1;have kx:H1 x=_:=(by rw[←hH,ag _ _ (Ne.symm x9)]:H1 x=H x).trans g
  have k9:H1 i9=some (.obj (opC o) 25):=aeF;have hsub:Ab.Sub H H1:=by rw[←hH];exact(Sub.refl H).new h9 _
  clear hH g;generalize bA e.s o=gd at hgd hst hG2⊢;obtain⟨S,R,D,E⟩:=gd;simp only at hst hG2;obtain⟨b1,b2,b3,b4,b5,b6,b7,es2⟩:=cQ S;rw[oT,show cN e.s= .agg (jt e.s)from rfl,es,show cN S= .agg (jt S)from rfl,es2]at hgd
  simp only[opA,opC]at hgd;unfold opC at k9;refine .tree _ (.quiet [0,1,2,3,4] 5 (.news [6,7,8,9,10] [11,12,13] (.seq [14,15,16,17]))) (.refl _) acO rfl ?_;simp only[go_sem,r6,kx,k9];refine⟨_,fun G hs=>hgd G (hsub.trans hs),?_⟩
  simp only[go_sem];refine⟨.refl _,acS,?_⟩;intro jd hjd je hje jf hjf;have ned:=aH hje;have kje:=aB hje;have nfe:=aH hjf;have nfd:=aH (aB hjf);have kjf:=aB (aB hjf);simp only[go_sem,ak,ned,ned.symm,nfe,nfe.symm,nfd,nfd.symm];refine⟨acU,acU,acU,?_⟩;refine TJ fun H2 w2=>?_
  have xjd:jd≠x:=fun e=>agm
  have xje:je≠x:=fun e=>agn
  have xjf:jf≠x:=fun e=>ago
  have hs2:Ab.Sub H H2:=by have:=hsub.none hjd;have:=hsub.none kje;have:=hsub.none kjf;rw[w2];repeat (first|exact hsub|refine Ab.Sub.put ?_ acV _)
  have fx:H2 x=_:=(by rw[w2];simp only[ak,xjd,xjd.symm,xje,xje.symm,xjf,xjf.symm,ne_eq,not_false_eq_true]:H2 x=H1 x).trans kx
  have fd:H2 jd=some (.obj [.i S.tick,gh S.cases,kj S.reviews,lC S.notices,dY S.roles,b1,b2,b3,b4,b5,b6,b7,.i S.version] 98):=by rw[w2];simp only[ak,ned,ned.symm,nfe,nfe.symm,nfd,nfd.symm,ah,ne_eq,not_false_eq_true]
  have ff:H2 jf=some (.obj (xE D) 104):=by rw[w2];simp only[ak,ned,ned.symm,nfe,nfe.symm,nfd,nfd.symm,ah,ne_eq,not_false_eq_true];rfl
  clear w2;simp only[xE,opC,List.cons_append,List.nil_append]at ff
  by_cases hE0:E=0
  case neg=>
   have t2:(E !=0)=true:=by simp[hE0]
   rw[if_neg hE0]at hst;simp only[go_sem,t2];exact .same (.refl _) (bad _ hs2 hst)
  subst hE0;rw[if_pos rfl]at hst;have hx3:H2 x=some (lY jid e yl):=by rw[fx];unfold lY;rw[es];rfl
  have hg3:=hgl.touch (S:=[]) (.of hs2) (fun i hi hh=>aea)
  have hgo:=GH e S D p .no jid x yl spl H2 hx3 hg3 acK acK;rw[show cN S= .agg (jt S)from rfl,es2]at hgo
  simp only[xE,opC,List.cons_append,List.nil_append]at hgo;simp only[go_sem,r6,fd,ff];refine hgo.mono fun r H4 ⟨er,yl',spl',hx4,hg4,hT4,hs4⟩=>?_
  subst er;simp only[go_sem,r6,r28,r29,r30,w3];have hout:∀j∈x::spl,h j=none:=fun j hj=>by
   rcases List.mem_cons.1 hj with rfl|hj
   ·exact hxh
   ·exact hsl _ hj
  have hdid:h did≠none:=by obtain⟨y,hy,_⟩:=hdk;rw[hy];simp
  have hj3:=hj2.sub hs2;have hD2:=hD.keep hs2.fR;refine⟨_,?_,i+1,qD e (S,R,D,0) p,spl',hf1.trans hst,hps2,hdn,?_,hG2,⟨yl',hx4,hg4,?_⟩,?_,?_,?_,acK,rfl,?_,?_,?_,?_⟩
  ·omega
  ·simp[qD,hlg]
  ·refine hj3.touch hT4 ?_ ?_
   ·obtain⟨z,zs,hz1,_⟩:=hj3
    intro hh;exact ahU
   ·obtain⟨z,zs,_,hz2,_⟩:=hj3
    intro j hj hh;obtain⟨n,hn⟩:=hz2.has j hj;rcases List.mem_cons.1 hh with rfl|hh
    ·rw[hx3]at hn;cases hn
    ·obtain⟨n2,hn2⟩:=hg3.has j hh
     rw[hn2]at hn;cases hn
  ·exact hD2.touch hT4 (fun j hj cs=>by
    rcases List.mem_cons.1 hj with rfl|hj
    ·rw[hx3];exact⟨fun hh=>aea,fun hh=>aea⟩
    ·obtain⟨n,hn⟩:=hg3.has j hj
     rw[hn];exact⟨fun hh=>aea,fun hh=>aea⟩)
  ·intro j k hj hk
   exact hT4 _ _ (fun hh=>by rw[hout j hh]at hk;cases hk) (hs2 _ _ (hK _ _ hj hk))
  ·intro j hj
   rcases hs4 j hj with hh|hh
   ·exact hsl _ hh
   ·cases hk:h j with
    |none=>rfl
    |some k=>
     by_cases e1:j=did
     ·subst e1
      obtain⟨y,hy,_⟩:=hD2;rw[hy]at hh;cases hh
     ·rw[hs2 _ _ (hK _ _ e1 hk)]at hh;cases hh
  all_goals simp only[go_sem,r6,r28,r29]
theorem jI.sub{x jid did:Nat}(he:jI h x jid did e spl spj)(hs:Ab.Sub h h'):jI h' x jid did e spl spj:=by obtain⟨yl,a,b,c⟩:=he;exact⟨yl,hs _ _ a,b.touch (S:=[]) (.of hs) acS,c.sub hs⟩
end Go.Proofs.YteaaeelhjnhaaaaGreatDoor
namespace Go.Bf
open Go Go.Ab Go.Proofs.YteaaeelhjnhaaaaGreatDoor
theorem W2{e:iG}{d d' :D}{o:OpD}{ps:List Txt}{dn:Bool}{c:Nat}(h:e.down=false)(hg:(bA e.s o).2.2.2=0)(hj:jadd d e.ps false (gm e.ch o)=((d',ps,dn),c)):
  doE e d o=if c=0 then({qD e (bA e.s o) (gm e.ch o)with ps:=ps,down:=dn},d',(bA e.s o).2.1)else({e with ps:=ps,down:=dn},d',Im (c:Int)):=by
 simp_all [doE,if_neg]
theorem Nx{e:iG}{d:D}{o:OpD}(h:e.down=false)(hg:(bA e.s o).2.2.2=0)(h1:d.off=false)(h2:d.f=0)(hr:d.b.length+(frame (gm e.ch o)).length≤d.q):
  doE e d o=({qD e (bA e.s o) (gm e.ch o)with ps:=e.ps++ [gm e.ch o],down:=false},{d with b:=d.b++frame (gm e.ch o),sy:=(d.b++frame (gm e.ch o)).length},(bA e.s o).2.1):=by
 have hl:=wP (h:=e.ch) (nS (oU hg));rw[W2 h hg (UB h1 h2 acK acK hr),if_pos rfl]
end Go.Bf
namespace Go.Proofs.YteaaeelhjnhaaaaGreatDoor
open Go Go.Ab Go.Bf Tryz
variable {h0 h h':Heap}{S spl spj:List Nat}
theorem Ba(hs:Ab.Sub h0 h)(ht:Touch S h h')(hn:∀i∈S,h0 i=none):Ab.Sub h0 h' :=fun j k hj=>ht j k acL (hs j k hj)
theorem Mq{i:Nat}(hs:Ab.Sub h0 h)(ht:Keep i h h')(hn:h0 i=none):Ab.Sub h0 h' :=Ba hs (.keep ht) acL
theorem QU{x jid did:Nat}{e:iG}{d:D}(he:jI h x jid did e spl spj)(hd:bR h did d):∀i∈x::did::jid::(spl++spj),h i≠none:=fun i hi=>by
 obtain⟨yl,a,b,z,zs,c1,c2,_⟩:=he;obtain⟨y,d1,_⟩:=hd;simp only[List.mem_cons,List.mem_append]at hi;rcases hi with rfl|rfl|rfl|hi|hi
 ·grind
 ·grind
 ·grind
 ·obtain⟨n,e⟩:=b.has i hi;grind
 ·obtain⟨n,e⟩:=c2.has i hi;grind
theorem JB(q:Nat)(hq:q≤1048576)(did:Nat)(h:Heap)(hdk:bR h did ⟨q,[],0,0,false⟩)(her:l8 h):
  ai prog 34 [.ptr did 0] h fun r h' =>∃x jid spl spj,r= .tup [.ptr x 0,.i 0]∧jI h' x jid did (jF []) spl spj∧bR h' did ⟨q,[],0,0,false⟩∧Keep did h h'∧(∀i∈x::jid::(spl++spj),h i=none):=by
 have hok:D.ok ⟨q,[],0,0,false⟩:=⟨Nat.zero_le _,hq,Nat.zero_le _,(by decide:(0:Nat)<9223372036854775808)⟩
 have ho:=D.Rt hok rfl rfl;simp only[zc,List.take_nil]at ho;refine(Ml _ hok did h hdk her (by simp[zc])).mono fun r h' ⟨h1,h2,h3⟩=>?_
 simp only[if_true,zc]at h3;obtain⟨x,jid,spl,spj,a,b,c⟩:=h3
 grind
theorem Pz:(bA wB qK).2.1=⟨0,bn,false,an,false,0⟩∧(bA wB qK).2.2.2=0:=⟨acY,acY⟩
theorem Lv:nO qK:=⟨⟨acN,acN⟩,⟨acN,acN⟩,⟨acN,acN⟩,⟨acN,acN⟩⟩
theorem UI:opA qK= .agg [.i 1,.s [97,110,110],.s [99],.s [],.s [],.i 0,.i 0,.s [],.i 0,.s [],.s [],.b false]:=rfl
theorem zE(h:Heap)(he:l8 h):ai prog 10 [] h fun r h' =>r= .b true∧h' =h:=
 ai.freeze fun g hgs _=>by
 have he:=he.sub hgs;have hF:=nS (oU Pz.2);have hput:=tU hF;have hrl:=wP (h:=0#64) hF;have hrec:=fun G=>yX 0#64 qK Lv (f_l hF) acK G
 have hpl:=tj (gm 0#64 qK);have hdo:=Nx (e:=jF []) (d:=⟨1000,[],0,0,false⟩) (o:=qK) rfl Pz.2 rfl rfl acN;rw[UI]at hrec;refine acJ func10 67 [.tmp 0] fun hwf=>?_
 simp only[go_sem];refine(KA 1000 acN g).mono fun r h1 ⟨did,hn,er,hdk,s1⟩=>?_
 subst er;simp only[go_sem];refine(JB 1000 acN did h1 hdk (he.sub s1)).mono fun r h2 ⟨x,jid,spl,spj,er,hE,hD,hK,hnew⟩=>?_
 subst er;have s2:Ab.Sub g h2:=Mq s1 hK hn;have hnew' :∀i∈x::did::jid::(spl++spj),g i=none:=fun i hi=>by
  simp only[List.mem_cons]at hi hnew;rcases hi with rfl|rfl|hi
  ·exact s1.none (hnew _ (.inl rfl))
  ·omega
  ·exact s1.none (hnew _ (.inr hi))
 simp only[go_sem];intro i5 h5;simp only[go_sem];have e5:∀ {b:Option Blk},Ab.Sub h2 (upd h2 i5 b):=fun {b}=>(Sub.refl h2).new h5 b
 generalize hH:upd h2 i5 _=H;have f5:H i5=some (.obj (opC qK) 25):=aeF;have s5:Ab.Sub h2 H:=by rw[←hH];exact e5
 clear hH;have f5' :H i5=some (.obj [.i 1,.s [97,110,110],.s [99],.s [],.s [],.i 0,.i 0,.s [],.i 0,.s [],.s [],.b false] 25):=f5;refine(show ai prog _ [.ptr x 0,opA qK] _ _ from(TQ x jid did (jF []) ⟨1000,[],0,0,false⟩ spl spj qK H (hE.sub s5) (hD.keep s5.fR) ⟨Nat.zero_le _,acN,Nat.zero_le _,acN⟩ acN acN xW acN Lv ((he.sub s2).sub s5)).mono fun r h3 ⟨er,spl',spj',hE3,hD3,hT3,_⟩=>?_)
 subst er;rw[hdo]at hE3 hD3⊢;have n5:i5∉x::did::jid::(spl++spj):=fun hi=>QU hE hD _ hi h5
 have f53:=hT3 _ _ n5 f5';have s3:Ab.Sub g h3:=Ba (s2.trans s5) hT3 hnew';have er2:nX (bA (jF []).s qK).2.1= [.i 0,.v (.complex .f64 4607182418800017408 0),.b false,.i 0,.i 0,.s [],.b false,.i 0]:=acY;rw[er2];obtain⟨E,eE⟩:∃E,({qD (jF []) (bA (jF []).s qK) (gm (jF []).ch qK)with ps:=(jF []).ps++ [gm (jF []).ch qK],down:=false}:iG)=E:=⟨_,rfl⟩
 have eps:E.ps= [gm 0#64 qK]:=by rw[←eE];rfl
 have ech:E.ch=rY 0#64 (gm 0#64 qK):=by rw[←eE];rfl
 simp only[eE]at hE3;clear eE hdo er2;simp only[go_sem];intro i6 h6;simp only[go_sem];generalize hH4:upd h3 i6 _=H4;have f6:H4 i6=some (.obj [.i 0,.v (.complex .f64 4607182418800017408 0),.b false,.i 0,.i 0,.s [],.b false,.i 0] 67):=by rw[←hH4,ah]
 have s6:Ab.Sub h3 H4:=by rw[←hH4];exact(Sub.refl h3).new h6 _
 clear hH4;obtain⟨p,ep⟩:∃p,gm 0#64 qK=p:=⟨_,rfl⟩;rw[ep]at eps ech hrec hrl hpl;refine(CQ x jid did E spl' spj' H4 (hE3.sub s6) agP (by rw[eps];intro q hq;rw[List.mem_singleton.1 hq];omega)).mono fun r H5 ⟨q,er,s7⟩=>?_
 subst er;rw[eps];have f65:=s7 _ _ f6;have f55:=s7 _ _ (s6 _ _ f53);have hE5:=(hE3.sub s6).sub s7;have ix:=fun(K:AV→Prop)=>fP.eq (xs:=[kL p]) (sz:=1) 0 acS rfl K
 simp only[Int.natCast_zero,List.getElem_cons_zero,kL]at ix;have qd:eqC (.v (.complex .f64 4607182418800017408 0)) (.v (.complex .f64 4607182418800017408 0))=true:=rfl;simp only[go_sem];refine .quiet acO ?_;simp only[go_sem,f65,f55,qd,ix,List.map_cons,List.map_nil,kL];refine⟨_,show ai prog _ [.v (.int .u64 0),_] _ _ from hrec H5,?_⟩
 have d8:decide ((8:Int)<(p.length:Int))=true:=decide_eq_true acK;simp only[go_sem,f65,f55,qd,ix];refine⟨_,wR _ _ p p _ (.sl _ _) (.sl _ _) acK,?_⟩;rw[show decide (p=p)=true from acS]
 simp only[go_sem,ix,acA,d8];refine⟨_,Kt x jid did E spl' spj' H5 hE5,?_⟩;simp only[go_sem,ix];refine⟨_,show ai prog _ [.v (.int .u64 0),_] _ _ from CC 0#64 _ p _ (.sl _ _) acK,?_⟩
 simp only[go_sem,ech,beq_self_eq_true];exact .same (.refl _) ⟨s3.trans (s6.trans s7),_,.pure rfl,rfl⟩
end Go.Proofs.YteaaeelhjnhaaaaGreatDoor
namespace Go.Bf
open Go Go.Ab Go.Proofs.YteaaeelhjnhaaaaGreatDoor
theorem KI(a b:OpD):ic a b=true↔a=b:=by obtain⟨a1,a2,a3,a4,a5,⟨a6,a7,a8⟩,a9,a10,a11,a12⟩:=a;obtain⟨b1,b2,b3,b4,b5,⟨b6,b7,b8⟩,b9,b10,b11,b12⟩:=b;simp[ic,and_assoc]
end Go.Bf
namespace Go.Proofs.YteaaeelhjnhaaaaGreatDoor
open Go Go.Ab Go.Bf Tryz
theorem LW(o:OpD)(h64:nO o)(ho:OpL o)(h:Heap):ai prog 11 [.sl [] .full,opA o] h fun r h' =>r= .sl ((iL o).map aI) .no∧h' =h:=
 fE.pure fun g _=>Hl _ [] o g g (Acc.full (.refl _)) acS h64 ho
theorem Aw(o:OpD):ic o o=true:=(KI o o).2 rfl
theorem xJ(x y z:AV)(dx:Dat U 25 x)(dy:Dat U 26 y)(dz:Dat U 27 z)(h:Heap)(he:l8 h):ai prog 3 [x,y,z] h fun r h' =>r= .b true∧h' =h:=
 ai.freeze fun g hgs _=>by
 replace he:=he.sub hgs;have hfin:∀G,Ab.Sub g G→ai prog 10 [] G fun r h' =>r= .b true∧h' =G:=fun G hG=>zE G (he.sub hG)
 obtain⟨a0,rfl,a64⟩:=QB dx;obtain⟨b,rfl,hbl⟩:=dy.bytes acY acY;obtain⟨n,rfl,hn⟩:=dz.BS (k:=.u64) acY;obtain⟨ch,rfl⟩:∃c:BitVec 64,n=(c.toNat:Int):=by
  have h2:0≤n∧n<18446744073709551616:=by simp[Lit.wf,IntKind.min,IntKind.max,IntKind.signed,IntKind.bits]at hn;omega
  exact⟨BitVec.ofNat 64 n.toNat,by rw[BitVec.toNat_ofNat];omega⟩
 have hka:=fun G=>Rv a0 G
 replace a64:=Ru a64;generalize LG a0=a at hka a64;simp only[opA,opC]at hka;refine acJ func3 83 [.tmp 6] fun hwf=>?_
 simp only[go_sem,opA,opC];intro i1 h1;simp only[go_sem];generalize hH:upd g i1 _=H;have f1:H i1=some (.obj (opC a0) 25):=aeF;have hs:Ab.Sub g H:=by rw[←hH];exact(Sub.refl g).put h1 _
 clear hH;unfold opC at f1;refine .late (hm1 i1 (.obj (opC a0) 25)) [0] [2,3,4,5,6,1,7,8] (.hm1 f1) acO ?_;have em:(if(300:Int)<(b.length:Int)then(300:Int)else(b.length:Int))=((min 300 b.length:Nat):Int):=by split<;>omega
 simp only[go_sem,opC,acA,em];refine⟨acK,acK,?_⟩;refine(hka _).pthen ?_;simp only[go_sem,f1];generalize hK:upd H i1 _=K;have k1:K i1=some (.obj (opC a) 25):=by rw[←hK,ah];rfl
 have hsK:Ab.Sub g K:=by rw[←hK];exact hs.put h1 _
 clear hK f1;unfold opC at k1;generalize hB:List.take (min 300 b.length) b=B;have hBl:B.length≤300:=by rw[←hB,List.length_take];omega
 clear hB em;refine(xV B .no acK K).pthen ?_;have hx:=fun G=>NI B .no acK G
 unfold KC at hx;simp only[Ny]at hx;unfold C4;obtain⟨p,ep⟩:∃p,(ld B).getD nU=p:=⟨_,rfl⟩;obtain⟨ok,eo⟩:∃k,(ld B).isSome=k:=⟨_,rfl⟩;have hp:ok=true→nO p∧OpL p∧iL p=B:=fun h=>by
  cases hg:ld B with
  |none=>rw[hg]at eo;rw[←eo]at h;cases h
  |some o=>rw[hg]at ep;obtain rfl:o=p:=ep;obtain⟨h1,h2⟩:=get_some hg;exact⟨BO acK hg,f_l (nS h1),h2⟩
 have es:=Aw p;unfold ic at es;rw[ep,eo]at hx⊢;simp only[opA,opC]at hx;clear ep eo;simp only[go_sem,opA,opC];intro i2 h2;simp only[go_sem];generalize hM:upd K i2 _=M1;have m2:M1 i2=some (.obj (opC p) 25):=by rw[←hM,ah];rfl
 have hs1:Ab.Sub K M1:=by rw[←hM];exact(Sub.refl K).new h2 _
 have m1:=hs1 _ _ k1;replace hs1:=hsK.trans hs1;clear hM h2 k1;unfold opC at m2;refine(hx _).pthen ?_;simp only[go_sem];intro i3 h3;have n32:i3≠i2:=fun e=>by rw[e,m2]at h3;cases h3
 simp only[go_sem,ak,n32.symm,m2,es];generalize hM:upd M1 i3 _=M;have hsM:Ab.Sub M1 M:=by rw[←hM];exact(Sub.refl M1).new h3 _
 replace m1:=hsM _ _ m1;replace m2:=hsM _ _ m2;replace hsM:=hs1.trans hsM;clear hM h3 hx hs1;cases ok
 case' true=>
  obtain⟨hp1,hp2,hp3⟩:=hp rfl;have hq:=B5 p hp1 hp2 M;simp only[opA,opC]at hq;simp only[go_sem,m2];refine hq.pthen ?_;simp only[go_sem];refine(wR _ _ (iL p) B _ (.sl _ _) (.sl _ _) (by rw[hp3];omega)).pthen ?_
  simp only[go_sem,decide_eq_true hp3,m1]
 case' false=>simp only[go_sem,m1]
 all_goals
  have hf:=KQ a M;rw[CZ]at hf;simp only[opA,opC]at hf;refine hf.pthen ?_;cases df:dD a
  ·simp only[go_sem]
   refine(hfin M hsM).pthen ?_;simp only[go_sem];exact .same (.refl _) ⟨hsM,_,.pure rfl,rfl⟩
  have hpl:=tU (nS df);have hL:=f_l (nS df);have hqa:=fun G=>B5 a a64 hL G
  have hqx:=fun G=>LW a a64 hL G
  have hra:=fun G=>yX ch a a64 hL acK G
  have hrx:=fun G=>L8 ch a a64 hL G
  have ea:=Aw a;unfold ic at ea;simp only[opA,opC]at hqa hqx hra hrx;simp only[go_sem,m1];refine(hqa M).pthen ?_;simp only[go_sem];refine(xV (iL a) .no acK M).pthen ?_;rw[C4,NK df a64];simp only[go_sem,opA,opC,Option.getD,Option.isSome];intro i4 h4;simp only[go_sem];generalize hN:upd M i4 _=N;have o4:N i4=some (.obj (opC a) 25):=by rw[←hN,ah];rfl
  have hsN:Ab.Sub M N:=by rw[←hN];exact(Sub.refl M).new h4 _
  have o1:=hsN _ _ m1;replace hsN:=hsM.trans hsN;clear hN h4 m1 m2;unfold opC at o4;refine .quiet acO ?_;simp only[go_sem,o1];refine⟨_,hqa N,?_⟩;simp only[go_sem,o1];refine⟨_,hqx N,?_⟩;simp only[go_sem];refine⟨_,wR _ _ (iL a) (iL a) _ (.sl _ _) (.sl _ _) acK,?_⟩;have hrl:(gm ch a).length≤1000000000:=by unfold gm;rw[acE,ku];omega
  simp only[go_sem,decide_true,o1,o4,ea];refine⟨_,hra N,?_⟩;simp only[go_sem,o1];refine⟨_,hrx N,?_⟩;simp only[go_sem];refine⟨_,wR _ _ (gm ch a) (gm ch a) _ (.sl _ _) (.sl _ _) hrl,?_⟩;simp only[go_sem,decide_true];refine⟨_,hfin N hsN,?_⟩;simp only[go_sem];exact .same (.refl _) ⟨hsN,_,.pure rfl,rfl⟩
theorem wu(ev:Value)(hev:ev= .nilIface∨∃te pe,ev= .iface te pe)(x y z:AV)(dx:Dat U 25 x)(dy:Dat U 26 y)(dz:Dat U 27 z):ai prog 3 [x,y,z] (wG [(3,B4),(2,[ev])]) fun r _=>r= .b true:=(xJ x y z dx dy dz _ (JA hev)).mono fun _ _ h=>h.1
end Go.Proofs.YteaaeelhjnhaaaaGreatDoor
