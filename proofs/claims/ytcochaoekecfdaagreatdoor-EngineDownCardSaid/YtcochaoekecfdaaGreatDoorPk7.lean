/- The law EngineDown: pack 7 of its texts. -/
import Derived.Test.YtcochaoekecfdaaGreatDoorPk1
import Derived.Test.YtcochaoekecfdaaGreatDoorPk2
import Derived.Test.YtcochaoekecfdaaGreatDoorPk3
import Derived.Test.YtcochaoekecfdaaGreatDoorPk4
import Derived.Test.YtcochaoekecfdaaGreatDoorPk5
import Derived.Test.YtcochaoekecfdaaGreatDoorPk6
set_option linter.unusedSimpArgs false
set_option linter.unusedVariables false
set_option maxRecDepth 100000
namespace Go.Proofs.YtcochaoekecfdaaGreatDoor
open Go Go.Ab Go.Bf
structure vV (h0 h:Heap) (x jid did:Nat) (e:fB) (d:D) (spl spj:List Nat):Prop where
 eng:gO h x jid did e spl spj
 disk:bC h did d
 ok:d.ok
 sub:Ab.Sub h0 h
 new:∀i∈x::did::jid::(spl++spj),h0 i=none
theorem vV.up{h0 h h' :Heap}{x jid did:Nat}{e:fB}{d:D}{spl spj:List Nat}(w:vV h0 h x jid did e d spl spj)(hs:Ab.Sub h h'):vV h0 h' x jid did e d spl spj:=
 ⟨w.eng.sub hs,w.disk.keep hs.fF,w.ok,w.sub.trans hs,w.new⟩
theorem vV.did{h0 h h' :Heap}{x jid did:Nat}{e:fB}{d d' :D}{spl spj:List Nat}(w:vV h0 h x jid did e d spl spj)(hd:bC h' did d')(hk:Keep did h h')(ho:d'.ok):vV h0 h' x jid did e d' spl spj:=by
 have hw:=w.disk;obtain⟨yl,a,b,c⟩:=w.eng;obtain⟨y,hy,_⟩:=hw;have h1:x∉ [did]:=fun hi=>by rw[List.mem_singleton.1 hi,hy]at a;cases a
 have h3:∀i∈spl,i∉ [did]:=fun i hi hh=>by
  obtain⟨n,hn⟩:=b.has i hi
  grind
 have h2:jid∉ [did]∧∀i∈spj,i∉ [did]:=by
  obtain⟨z,zs,c1,c2,_⟩:=c;refine⟨fun hi=>abJ,fun i hi hh=> ?_⟩
  obtain⟨n,hn⟩:=c2.has i hi
  grind
 exact⟨⟨yl,hk _ _ abJ a,b.touch (.keep hk) h3,c.touch (.keep hk) h2.1 h2.2⟩,hd,ho,tJ w.sub hk (w.new _ abQ),w.new⟩
theorem vV.doS{h0 h:Heap}{x jid did:Nat}{e:fB}{d:D}{spl spj:List Nat}(w:vV h0 h x jid did e d spl spj)(o:OpD)(hps:e.ps.length≤1000000)(hlg:e.log.length≤1000000){k:Nat}(hG:lS k e.s)(hk:k≤1000)(h64:o7 o)(her:kC h0)(hok:(doE e d o).2.1.ok):
  ai Tryz.prog 15 [.ptr x 0,opA o] h fun r h' =>r= .agg (lg (doE e d o).2.2)∧∃spl' spj',vV h0 h' x jid did (doE e d o).1 (doE e d o).2.1 spl' spj'∧Touch (x::did::jid::(spl++spj)) h h'∧(∀i∈x::did::jid::(spl' ++spj'),i∈x::did::jid::(spl++spj)∨h i=none):=
 (Ot x jid did e d spl spj o h w.eng w.disk w.ok hps hlg hG hk h64 (her.sub w.sub)).mono fun r h' ⟨e1,spl',spj',a,b,c,f,g⟩=>by
  have hin:∀i∈x::did::jid::(spl' ++spj'),i∈x::did::jid::(spl++spj)∨h i=none:=fun i hi=>by
   simp only[List.mem_cons,List.mem_append]at hi⊢;rcases hi with hi|hi|hi|hi|hi
   ·exact .inl (.inl hi)
   ·exact .inl (.inr (.inl hi))
   ·exact .inl (.inr (.inr (.inl hi)))
   ·rcases f i hi with h1|h1|h1
    ·exact .inl (.inr (.inr (.inr (.inl h1))))
    ·exact .inl (.inr (.inr (.inr (.inr h1))))
    ·exact .inr h1
   ·rcases g i hi with h1|h1
    ·exact .inl (.inr (.inr (.inr (.inr h1))))
    ·exact .inr h1
  exact⟨e1,spl',spj',⟨a,b,hok,uT w.sub c w.new,fun i hi=>(hin i hi).elim (w.new i) w.sub.none⟩,c,hin⟩
theorem yN(q:Nat)(hq:q≤1048576)(did:Nat)(h0 h:Heap)(hdk:bC h did ⟨q,[],0,0,false⟩)(hs:Ab.Sub h0 h)(hn:h0 did=none)(her:kC h0):
  ai Tryz.prog 14 [.ptr did 0] h fun r h' =>∃x jid spl spj,r= .tup [.ptr x 0,.i 0]∧vV h0 h' x jid did (gy []) ⟨q,[],0,0,false⟩ spl spj:=
 (AO q hq did h hdk (her.sub hs)).mono fun r h' ⟨x,jid,spl,spj,a,b,c,f,g⟩=>⟨x,jid,spl,spj,a,b,c,⟨Nat.zero_le _,hq,Nat.zero_le _,(by decide:(0:Nat)<9223372036854775808)⟩,tJ hs f hn,fun i hi=>by
  simp only[List.mem_cons]at hi g;rcases hi with rfl|rfl|hi
  ·exact hs.none (g _ (.inl rfl))
  ·omega
  ·exact hs.none (g _ (.inr hi))⟩
theorem IJ{d:D}(h:d.off=true):d.bV=(d,9):=by
 unfold D.bV;split
 ·have:d.cut ((scan d.b).2:Nat)=(d,9):=by simp_all [D.cut,if_pos]
  rw[this];rfl
 ·show(if(0:Nat)=0 then d.sync else(d,0))=_
  simp_all [D.sync,if_pos]
theorem L9:lg (Bp 9)= [.i 9,.v (.complex .f64 0 0),.b false,.i 0,.i 0,.s [],.b false,.i 0]:=rfl
theorem zj(x y:AV)(dx:Dat U 54 x)(dy:Dat U 3 y)(h:Heap)(he:kC h):ai Tryz.prog 8 [x,y] h fun r h' =>r= .b true∧h' =h:=
 ai.freeze fun g hgs _=>by
 replace he:=he.sub hgs;obtain⟨l0,rfl,hl0,h640⟩:=MK dx;obtain⟨n,rfl,hn64⟩:=dy.i64 abW;have hfin:∀G,Ab.Sub g G→ai Tryz.prog 3 [] G fun r h' =>r= .b true∧h' =G:=fun G hG=>zk G (he.sub hG)
 have hop:=fun(G:Heap)=>QD l0 10 abL G
 have h64:∀o∈rV l0 10,o7 o:=TO h640;have hll:(rV l0 10).length≤10:=by grind [rV]
 obtain⟨l,el⟩:∃l,rV l0 10=l:=⟨_,rfl⟩;rw[el]at hop h64 hll;have hF:=pX (jW GQ.2);have hpl:=gb (fU 0#64 mq);have hrl:=qU (h:=0#64) hF;have hwl:=FN n 1;obtain⟨k,ek⟩:∃k,qY n 1=k:=⟨_,rfl⟩;rw[ek]at hwl;have w1:IntKind.i64.wrap (1+(k:Int))=((1+k:Nat):Int):=by grind [IntWalk.i64_in]
 have hdo:=PI (e:=gy []) (d:=⟨60000,[],0,1+k,false⟩) (o:=mq) rfl GQ.2 rfl abJ (by show 0+_≤60000;decide)
 refine abH Tryz.func8 125 [.tmp 4] fun hwf=> ?_
 simp -implicitDefEqProofs only[go_sem];refine(Cq 60000 abL g).mono fun r h1 ⟨did,hn,er,hdk,s1⟩=> ?_
 subst er;simp -implicitDefEqProofs only[go_sem];refine(yN 60000 abL did g h1 hdk s1 hn he).mono fun r h2 ⟨x,jid,spl,spj,er,w⟩=> ?_
 subst er;simp -implicitDefEqProofs only[go_sem];refine(Jr n 1 _ hn64 abL).pthen ?_;rw[ek];simp -implicitDefEqProofs only[go_sem,w1];refine(Mx _ (1+k) did h2 w.disk).mono fun r h3 ⟨hd3,hk3⟩=> ?_
 have w3:=w.did hd3 hk3 ⟨Nat.zero_le _,abx rfl,Nat.zero_le _,abJ⟩;simp -implicitDefEqProofs only[go_sem];obtain⟨p,ep⟩:∃p,fU 0#64 mq=p:=⟨_,rfl⟩;rw[show(gy []).ch=0#64 from rfl,ep]at hdo
 rw[ep]at hpl hrl;have hok:D.ok ⟨60000,[]++frame p,0,0,true⟩:=⟨abJ,abx rfl,Nat.zero_le _,(by decide:(0:Nat)<9223372036854775808)⟩
 refine(show ai Tryz.prog _ [.ptr x 0,opA mq] _ _ from(w3.doS mq abL abL nZ abL Fa he abJ).mono fun r h4 ⟨er,spl',spj',w4,_,_⟩=> ?_)
 subst er;rw[hdo]at w4⊢;simp only at w4⊢;rw[L9];have qd:eqC (.v (.complex .f64 0 0)) (.v (.complex .f64 0 0))=true:=rfl;simp -implicitDefEqProofs only[go_sem];intro i9 h9;simp -implicitDefEqProofs only[go_sem,ah,qd];generalize hH:upd h4 i9 _=H5;have w5:=w4.up (h' :=H5) (by rw[←hH];exact(Sub.refl h4).new h9 _)
 clear hH;replace w5:vV g H5 x jid did ⟨rj,[],0#64,[],true⟩ ⟨60000,[]++frame p,0,0,true⟩ spl' spj' :=w5;obtain⟨e1,ee1⟩:∃e1,(⟨rj,[],0#64,[],true⟩:fB)=e1:=⟨_,rfl⟩;obtain⟨d1,ed1⟩:∃d1,(⟨60000,[]++frame p,0,0,true⟩:D)=d1:=⟨_,rfl⟩;have c1:e1.down=true:=abJ;have c2:e1.log= []:=abJ;have c3:cy e1.s= .agg (gH rj):=by rw[←ee1];rfl
 have c4:(e1.ch.toNat:Int)=0:=abJ;have c5:e1.ps= []:=abJ;have c6:lS 0 e1.s:=by grind [nZ]
 rw[newL]at c3;rw[ee1,ed1]at w5;refine(Cu x jid did _ spl' spj' H5 w5.eng).pthen ?_;rw[c1];simp -implicitDefEqProofs only[go_sem];refine(hop _).pthen ?_;simp -implicitDefEqProofs only[go_sem,aby];refine .intro (fun m ρ H=>∃(i:Nat) (spl spj:List Nat),vV g H x jid did e1 d1 spl spj∧i≤l.length∧m=l.length - i∧lk ρ 5=some (.ptr did 0)∧lk ρ 7=some (.ptr x 0)∧lk ρ 54=some (.sl (l.map opA) .no)∧lk ρ 55=some (.i l.length)∧lk ρ 56=some (.i i)) l.length ?_ ?_
 ·refine⟨0,spl',spj',w5,abI,rfl, ?_, ?_, ?_, ?_, ?_⟩<;>simp -implicitDefEqProofs only[go_sem]
 rintro m ρ H ⟨i,spl,spj,w,hi,rfl,r5,r7,r54,r55,r56⟩
 by_cases hlt:i<l.length
 ·have t1:decide ((i:Int)<(l.length:Int))=true:=decide_eq_true abI
  have w1:IntKind.i64.wrap ((i:Int)+1)=((i+1:Nat):Int):=abV;have ix:=fun k=>fm.eq (xs:=l.map opA) (sz:=12) i abJ abY k
  obtain⟨o,eo⟩:∃o,l[i]=o:=⟨_,rfl⟩;have o64:=h64 o abJ;rw[abz,eo]at ix;simp only[opA,opC]at ix;have hd2:=S0 d1 o c1;simp -implicitDefEqProofs only[go_sem,r5,r7,r54,r55,r56,t1,ix];intro i11 h11;simp -implicitDefEqProofs only[go_sem,ah,r7];generalize hH:upd H i11 _=H6;have w6:=w.up (h' :=H6) (by rw[←hH];exact(Sub.refl H).new h11 _)
  clear hH;refine(show ai Tryz.prog _ [.ptr x 0,opA o] _ _ from(w6.doS o abJ abJ c6 abL o64 he abJ).mono fun r H7 ⟨er,spl2,spj2,w7,_,_⟩=> ?_)
  subst er;rw[hd2]at w7⊢;simp only at w7⊢;rw[L9];simp -implicitDefEqProofs only[go_sem,qd,r7];refine(MQ x jid did e1 spl2 spj2 H7 w7.eng abJ abJ).pthen ?_;rw[c2];simp -implicitDefEqProofs only[go_sem,List.map_nil,List.length_nil,r7];refine(z8 x jid did e1 spl2 spj2 H7 w7.eng).pthen ?_;rw[c3];simp -implicitDefEqProofs only[go_sem,r7];refine(Ch x jid did e1 spl2 spj2 H7 w7.eng).pthen ?_;rw[c4];simp -implicitDefEqProofs only[go_sem,r56,w1];refine⟨_, ?_,i+1,spl2,spj2,w7,abI,rfl, ?_, ?_, ?_, ?_, ?_⟩
  ·omega
  all_goals simp -implicitDefEqProofs only[go_sem,r5,r7,r54,r55]
 ·have t1:decide ((i:Int)<(l.length:Int))=false:=decide_eq_false abI
  have off:=IJ (d:=d1) abJ;simp -implicitDefEqProofs only[go_sem,r5,r7,r54,r55,r56,t1];refine(DS d1 w.ok did H w.disk (he.sub w.sub) (by rw[←ed1];have:=I2 [p] [] abJ abL;simp only[vu,List.append_nil,List.nil_append,show frames []= []from rfl]at this⊢;rw[this];exact abx rfl)).mono fun r H8 ⟨hd8,hk8,hr⟩=> ?_
  rw[off]at hd8 hr;simp only at hd8 hr;rw[if_neg abL]at hr;subst hr;have w8:=w.did hd8 hk8 w.ok;simp -implicitDefEqProofs only[go_sem,r5];refine(MC d1 w.ok did H8 0 0 hd8).mono fun r H9 ⟨hd9,hk9⟩=> ?_
  have eb:d1.boot 0 0=⟨60000,[],0,0,false⟩:=by grind [D.boot,D.left,D.bad,kI]
  rw[eb]at hd9;have s9:=tJ w8.sub hk9 hn;simp -implicitDefEqProofs only[go_sem,r5];refine(yN 60000 abL did g H9 hd9 s9 hn he).mono fun r Ha ⟨x2,jid2,spl2,spj2,er,wa⟩=> ?_
  subst er;simp -implicitDefEqProofs only[go_sem];refine(z8 x2 jid2 did _ spl2 spj2 Ha wa.eng).pthen ?_;rw[show cy (gy []).s= .agg (gH rj)from rfl,newL]
  simp -implicitDefEqProofs only[go_sem];refine(Cu x2 jid2 did _ spl2 spj2 Ha wa.eng).pthen ?_;rw[show(gy []).down=false from rfl]
  simp -implicitDefEqProofs only[go_sem];refine(hfin _ wa.sub).pthen ?_;simp -implicitDefEqProofs only[go_sem];exact .same (.refl _) ⟨wa.sub,_,.pure rfl,rfl⟩
theorem xu(ev:Value)(hev:ev= .nilIface∨∃te pe,ev= .iface te pe)(x y:AV)(dx:Dat U 54 x)(dy:Dat U 3 y):ai Tryz.prog 8 [x,y] (wu [(3,BL),(2,[ev])]) fun r _=>r= .b true:=(zj x y dx dy _ (Jb hev)).mono fun _ _ h=>h.1
end Go.Proofs.YtcochaoekecfdaaGreatDoor
