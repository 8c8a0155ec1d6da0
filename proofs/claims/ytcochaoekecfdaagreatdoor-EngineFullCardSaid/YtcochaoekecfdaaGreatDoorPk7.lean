/- The law EngineFull: pack 7 of its texts. -/
import Derived.Test.YtcochaoekecfdaaGreatDoorPk1
import Derived.Test.YtcochaoekecfdaaGreatDoorPk2
import Derived.Test.YtcochaoekecfdaaGreatDoorPk3
import Derived.Test.YtcochaoekecfdaaGreatDoorPk4
import Derived.Test.YtcochaoekecfdaaGreatDoorPk5
import Derived.Test.YtcochaoekecfdaaGreatDoorPk6
set_option linter.unusedSimpArgs false
set_option linter.unusedVariables false
set_option maxRecDepth 100000
namespace Go.Proofs.YtcochaoekecfdaaGreatDoor
open Go Go.Ab Go.Bf
structure sR (h0 h:Heap) (x jid did:Nat) (e:eN) (d:D) (spl spj:List Nat):Prop where
 eng:iH h x jid did e spl spj
 disk:bR h did d
 ok:d.ok
 sub:Ab.Sub h0 h
 new:∀i∈x::did::jid::(spl++spj),h0 i=none
theorem sR.up{h0 h h' :Heap}{x jid did:Nat}{e:eN}{d:D}{spl spj:List Nat}(w:sR h0 h x jid did e d spl spj)(hs:Ab.Sub h h'):sR h0 h' x jid did e d spl spj:=
 ⟨w.eng.sub hs,w.disk.keep hs.fK,w.ok,w.sub.trans hs,w.new⟩
theorem sR.doS{h0 h:Heap}{x jid did:Nat}{e:eN}{d:D}{spl spj:List Nat}(w:sR h0 h x jid did e d spl spj)(o:OpD)(hps:e.ps.length≤1000000)(hlg:e.log.length≤1000000){k:Nat}(hG:jD k e.s)(hk:k≤1000)(h64:pQ o)(her:kR h0)(hok:(doE e d o).2.1.ok):
  ai Tryz.prog 15 [.ptr x 0,opA o] h fun r h' =>r= .agg (ku (doE e d o).2.2)∧∃spl' spj',sR h0 h' x jid did (doE e d o).1 (doE e d o).2.1 spl' spj'∧Touch (x::did::jid::(spl++spj)) h h'∧(∀i∈x::did::jid::(spl' ++spj'),i∈x::did::jid::(spl++spj)∨h i=none):=
 (O8 x jid did e d spl spj o h w.eng w.disk w.ok hps hlg hG hk h64 (her.sub w.sub)).mono fun r h' ⟨e1,spl',spj',a,b,c,f,g⟩=>by
  have hin:∀i∈x::did::jid::(spl' ++spj'),i∈x::did::jid::(spl++spj)∨h i=none:=fun i hi=>by
   simp only[List.mem_cons,List.mem_append]at hi⊢;rcases hi with hi|hi|hi|hi|hi
   ·exact .inl (.inl hi)
   ·exact .inl (.inr (.inl hi))
   ·exact .inl (.inr (.inr (.inl hi)))
   ·rcases f i hi with h1|h1|h1
    ·exact .inl (.inr (.inr (.inr (.inl h1))))
    ·exact .inl (.inr (.inr (.inr (.inr h1))))
    ·exact .inr h1
   ·rcases g i hi with h1|h1
    ·exact .inl (.inr (.inr (.inr (.inr h1))))
    ·exact .inr h1
  exact⟨e1,spl',spj',⟨a,b,hok,vr w.sub c w.new,fun i hi=>(hin i hi).elim (w.new i) w.sub.none⟩,c,hin⟩
theorem sR.fresh{h0 h:Heap}{x jid did:Nat}{e:eN}{d:D}{spl spj:List Nat}(w:sR h0 h x jid did e d spl spj){i:Nat}(hi:h i=none):i∉x::did::jid::(spl++spj):=fun hh=>KL w.eng w.disk i hh hi
theorem Gg(q:Nat)(hq:q≤1048576)(did:Nat)(h0 h:Heap)(hdk:bR h did ⟨q,[],0,0,false⟩)(hs:Ab.Sub h0 h)(hn:h0 did=none)(her:kR h0):
  ai Tryz.prog 14 [.ptr did 0] h fun r h' =>∃x jid spl spj,r= .tup [.ptr x 0,.i 0]∧sR h0 h' x jid did (iN []) ⟨q,[],0,0,false⟩ spl spj:=
 (Bg q hq did h hdk (her.sub hs)).mono fun r h' ⟨x,jid,spl,spj,a,b,c,f,g⟩=>⟨x,jid,spl,spj,a,b,c,⟨Nat.zero_le _,hq,Nat.zero_le _,(by decide:(0:Nat)<9223372036854775808)⟩,Eu hs f hn,fun i hi=>by
  simp only[List.mem_cons]at hi g;rcases hi with rfl|rfl|hi
  ·exact hs.none (g _ (.inl rfl))
  ·omega
  ·exact hs.none (g _ (.inr hi))⟩
end Go.Proofs.YtcochaoekecfdaaGreatDoor
namespace Go.Bf
open Go Go.Ab
def eqT(a b:fO):Bool:=eqL (eqL (eqL jH)) a b
def eqR(r s:cN):Bool:=r.id==s.id && (r.deny==s.deny && (eqT r.tgt s.tgt && (eqL oA r.cond s.cond && eqL qu r.obls s.obls)))
mutual
def eqP:bB→bB→Bool
 |.mk i1 s1 a1 t1 r1 k1 o1,.mk i2 s2 a2 t2 r2 k2 o2=>i1==i2 && (s1==s2 && (a1==a2 && (eqT t1 t2 && (eqL qu o1 o2 && (eqL eqR r1 r2 && eqK k1 k2)))))
def eqK:List bB→List bB→Bool
 | [],[]=>true
 |x::a,y::b=>eqP x y && eqK a b
 |_,_=>false
end
theorem wY:∀a b:List bB,eqK a b=eqL eqP a b
 | [],[]=>rfl
 | [],_::_=>rfl
 |_::_,[]=>rfl
 |x::a,y::b=>by simp only[eqK,eqL,wY a b]
theorem KR(a b:fO):eqT a b=true↔a=b:=si fun x y=>si fun x y=>si Ff
theorem QI(a b:cN):eqR a b=true↔a=b:=by
 obtain⟨a1,a2,a3,a4,a5⟩:=a;obtain⟨b1,b2,b3,b4,b5⟩:=b
 grind [eqR,KR,si,Iu,C1]
mutual
theorem KQ:∀a b:bB,eqP a b=true↔a=b
 |.mk i1 s1 a1 t1 r1 k1 o1,.mk i2 s2 a2 t2 r2 k2 o2=>by
  simp only[eqP,Bool.and_eq_true,beq_iff_eq,KR,si C1,si QI,KP k1 k2,bB.mk.injEq];constructor
  ·rintro⟨h1,h2,h3,h4,h5,h6,h7⟩;exact⟨h1,h2,h3,h4,h6,h7,h5⟩
  ·rintro⟨h1,h2,h3,h4,h5,h6,h7⟩;exact⟨h1,h2,h3,h4,h7,h5,h6⟩
theorem KP:∀a b:List bB,eqK a b=true↔a=b
 | [],[]=>by simp[eqK]
 | [],_::_=>by simp[eqK]
 |_::_,[]=>by simp[eqK]
 |x::a,y::b=>by simp[eqK,KQ x y,KP a b]
end
end Go.Bf
namespace Go.Proofs.YtcochaoekecfdaaGreatDoor
open Go Go.Ab Go.Bf
theorem zp(a b:fO)(h:Heap):ai Tryz.prog 147 [aS a,aS b] h fun r h' =>r= .b (eqT a b)∧h' =h:=by
 refine acn Tryz.func147 54 [.tmp 4] fun hwf=>?_
 cases d1:((a.length:Int) !=(b.length:Int))
 case true=>
  have e1:a.length≠b.length:=by
   grind
  simp only[go_sem,aS,acd,d1];exact .same (.refl _) ⟨by rw[eqT,gT e1];rfl,rfl⟩
 have e1:a.length=b.length:=acp;have hwa:=hwf (aS a) acw;simp only[aS,wfA,wf1,lim,acd]at hwa;simp only[go_sem,aS,acd,d1];refine .intro (fun m ρ h' =>Ab.Sub h h'∧∃i:Nat,i≤a.length∧m=a.length - i∧(∀j (h1:j<a.length) (h2:j<b.length),j<i→eqL (eqL jH) a[j] b[j]=true)∧lk ρ 0=some (.sl (a.map bP) .no)∧lk ρ 1=some (.sl (b.map bP) .no)∧lk ρ 13=some (.i a.length)∧lk ρ 14=some (.i i)) a.length ?_ ?_
 ·exact ahS
 ·rintro m ρ h' ⟨hs,i,hi,rfl,hc,r0,r1,r13,r14⟩
  simp only[go_sem,r0,r1,r13,r14,acd];refine .intro (fun e=>?_) (fun e=>?_)
  ·have hlt:i<a.length:=ack e
   have hlt2:i<b.length:=aco;have w1:IntKind.i64.wrap ((i:Int)+1)=((i+1:Nat):Int):=acE;simp only[go_sem,r0,r1,r13,r14,acd];refine⟨.of acs,?_⟩;refine .at i acp acz ?_;simp only[go_sem,r0,r1,r13,r14,ace,bP];refine .at i acp acz ?_;cases d2:((a[i].length:Int) !=(b[i].length:Int))
   case true=>
    have e2:a[i].length≠b[i].length:=by
     grind
    simp only[go_sem,r0,r1,r13,r14,ace,bP,acd,d2];exact .mk _ (.refl _) hs ⟨by rw[eqT,jh i hlt hlt2 (gT e2)];rfl,rfl⟩
   have e2:a[i].length=b[i].length:=acp;simp only[go_sem,r0,r1,r13,r14,ace,bP,acd,d2];refine .at i acp acz ?_;simp only[go_sem,r0,r1,r13,r14,ace,bP,acd];refine sS.wf fun hwi=>?_
   have hwk:=hwi 31 (.sl (a[i].map fP) .no) (by simp only[go_sem])
   simp only[wfA,wf1,lim,acd]at hwk;refine .intro (fun m ρ h' =>Ab.Sub h h'∧∃k:Nat,k≤a[i].length∧m=a[i].length - k∧(∀j (h1:j<a[i].length) (h2:j<b[i].length),j<k→eqL jH a[i][j] b[i][j]=true)∧lk ρ 5=some (.i i)∧lk ρ 0=some (.sl (a.map bP) .no)∧lk ρ 1=some (.sl (b.map bP) .no)∧lk ρ 13=some (.i a.length)∧lk ρ 14=some (.i i)∧lk ρ 32=some (.i a[i].length)∧lk ρ 33=some (.i k)) a[i].length ?_ ?_
   ·refine⟨hs,0,aco,rfl,fun j _ _ hj=>aco,?_,?_,?_,?_,?_,?_,?_⟩<;>simp only[go_sem,r0,r1,r13,r14]
   ·rintro m ρ h' ⟨hs,k,hk,rfl,hck,r5,r0,r1,r13,r14,r32,r33⟩
    simp only[go_sem,r0,r1,r5,r13,r14,r32,r33];refine .intro (fun e3=>?_) (fun e3=>?_)
    ·have hkt:k<a[i].length:=ack e3
     have hkt2:k<b[i].length:=aco;simp only[go_sem,r0,r1,r5,r13,r14,r32,r33];refine .quiet acs ?_;simp only[go_sem,r0,r1,r5,r13,r14,r32,r33];refine .at i acp acz ?_;simp only[go_sem,r0,r1,r5,r13,r14,r32,r33,ace,bP];have w2:IntKind.i64.wrap ((k:Int)+1)=((k+1:Nat):Int):=acE;refine .at k acp acz ?_;simp only[go_sem,r0,r1,r5,r13,r14,r32,r33,ace,fP];refine .at i acp acz ?_;simp only[go_sem,r0,r1,r5,r13,r14,r32,r33,ace,bP];refine .at k acp acz ?_;simp only[go_sem,r0,r1,r5,r13,r14,r32,r33,ace,fP];have hsm:=fun h=>Ci a[i][k] b[i][k] h
     simp only[fP]at hsm;refine⟨_,hsm _,?_⟩;cases d3:eqL jH a[i][k] b[i][k]
     ·simp only[go_sem,r0,r1,r5,r13,r14,r32,r33,d3]
      exact .mk _ (.refl _) hs ⟨by rw[eqT,jh i hlt hlt2 (jh k hkt hkt2 d3)];rfl,rfl⟩
     ·simp only[go_sem,r0,r1,r5,r13,r14,r32,r33,d3,w2]
      refine⟨_,?_,hs,k+1,aco,rfl,fun j h1 h2 hj=>?_,?_,?_,?_,?_,?_,?_,?_⟩
      ·omega
      ·grind
      all_goals simp only[go_sem,r0,r1,r5,r13,r14,r32,r33,w2]
    ·have hge:k=a[i].length:=by grind
     subst hge;simp only[go_sem,r0,r1,r5,r13,r14,r32,r33,w1];refine⟨_,?_,hs,i+1,aco,rfl,fun j h1 h2 hj=>?_,?_,?_,?_,?_⟩
     ·omega
     ·grind [cV]
     all_goals simp only[go_sem,r0,r1,r13,r14,w1]
  ·have hge:i=a.length:=by grind
   subst hge;simp only[go_sem,r0,r1,r13,r14];exact .mk _ (.refl _) hs ⟨by rw[eqT,cV e1 fun j h1 h2=>hc j h1 h2 h1];rfl,rfl⟩
theorem wz:∀(p q:bB) (h:Heap),ai Tryz.prog 84 [aK p,aK q] h fun r h' =>r= .b (eqP p q)∧h' =h
 |.mk i1 s1 a1 t1 r1 k1 o1,.mk i2 s2 a2 t2 r2 k2 o2,h=>by
  have ihk:∀(j:Nat) (hj:j<k1.length) (q:bB) (h:Heap),ai Tryz.prog 84 [aK k1[j],aK q] h fun r h' =>r= .b (eqP k1[j] q)∧h' =h:=
   fun j hj q h=>wz k1[j] q h
  refine acn Tryz.func84 134 [.tmp 4] fun hwf=>?_
  have hlen:k1.length<9223372036854775808∧r1.length<9223372036854775808:=by
   have:=hwf (aK (.mk i1 s1 a1 t1 r1 k1 o1)) acw;simp only[aK,wfA]at this;have g1:=this (.sl (cy k1) .no) acw;have g2:=this (.sl (r1.map aA) .no) acw;simp only[wf1,acd,aP]at g1 g2;exact⟨g1,g2⟩
  simp -implicitDefEqProofs only[go_sem,aK,aS,ay];intro ia hia;simp -implicitDefEqProofs only[go_sem];intro ib hib;have nab:=u0 hib;have hs0:Ab.Sub h (upd (upd h ia (some (.obj [.s i1,.b s1,.i a1,.sl (t1.map bP) .no,.sl (r1.map aA) .no,.sl (cy k1) .no,.sl (o1.map aW) .no] 65))) ib (some (.obj [.s i2,.b s2,.i a2,.sl (t2.map bP) .no,.sl (r2.map aA) .no,.sl (cy k2) .no,.sl (o2.map aW) .no] 65))):=(Sub.ak hia).trans (.ak hib);obtain⟨hb,ehb⟩:∃hb,upd (upd h ia (some (.obj [.s i1,.b s1,.i a1,.sl (t1.map bP) .no,.sl (r1.map aA) .no,.sl (cy k1) .no,.sl (o1.map aW) .no] 65))) ib (some (.obj [.s i2,.b s2,.i a2,.sl (t2.map bP) .no,.sl (r2.map aA) .no,.sl (cy k2) .no,.sl (o2.map aW) .no] 65))=hb:=⟨_,rfl⟩;have ga:hb ia=some (.obj [.s i1,.b s1,.i a1,.sl (t1.map bP) .no,.sl (r1.map aA) .no,.sl (cy k1) .no,.sl (o1.map aW) .no] 65):=by rw[←ehb,ag _ _ nab.symm,ah]
  have gb:hb ib=some (.obj [.s i2,.b s2,.i a2,.sl (t2.map bP) .no,.sl (r2.map aA) .no,.sl (cy k2) .no,.sl (o2.map aW) .no] 65):=by rw[←ehb,ah]
  rw[ehb]at hs0⊢;have bad:eqP (.mk i1 s1 a1 t1 r1 k1 o1) (.mk i2 s2 a2 t2 r2 k2 o2)=false→(.b false:AV)= .b (eqP (.mk i1 s1 a1 t1 r1 k1 o1) (.mk i2 s2 a2 t2 r2 k2 o2))∧h=h:=fun e=>⟨by rw[e],rfl⟩
  cases d1:(i1==i2)
  case false=>
   simp -implicitDefEqProofs only[go_sem,ga,gb,d1];exact .mk _ (.refl _) hs0 (bad (by simp[eqP,d1]))
  cases d2:(s1==s2)
  case false=>
   simp -implicitDefEqProofs only[go_sem,ga,gb,d1,d2];exact .mk _ (.refl _) hs0 (bad (by simp only[eqP,d2,Bool.false_and,Bool.and_false]))
  cases d3:(a1==a2)
  case false=>
   have d3' :(a1 !=a2)=true:=by simp only[bne,d3,Bool.not_false]
   simp -implicitDefEqProofs only[go_sem,ga,gb,d1,d2,d3'];exact .mk _ (.refl _) hs0 (bad (by simp only[eqP,d3,Bool.false_and,Bool.and_false]))
  have d3' :(a1 !=a2)=false:=by simp only[bne,d3,Bool.not_true]
  have f1:=zp t1 t2 hb;have f2:=zg o1 o2 hb;simp only[aS]at f1;simp only[ay]at f2;simp -implicitDefEqProofs only[go_sem,ga,gb,d1,d2,d3'];refine f1.pthen ?_;cases d4:eqT t1 t2
  case false=>
   simp -implicitDefEqProofs only[go_sem,ga,gb,d4];exact .mk _ (.refl _) hs0 (bad (by simp only[eqP,d4,Bool.false_and,Bool.and_false]))
  simp -implicitDefEqProofs only[go_sem,ga,gb,d4];refine f2.pthen ?_;cases d5:eqL qu o1 o2
  case false=>
   simp -implicitDefEqProofs only[go_sem,ga,gb,d5];exact .mk _ (.refl _) hs0 (bad (by simp only[eqP,d5,Bool.false_and,Bool.and_false]))
  cases d6:((r1.length:Int) !=(r2.length:Int))
  case true=>
   have e6:r1.length≠r2.length:=by intro e;rw[e]at d6;simp at d6
   simp -implicitDefEqProofs only[go_sem,ga,gb,d5,acd,d6];exact .mk _ (.refl _) hs0 (bad (by simp only[eqP,gT e6,Bool.false_and,Bool.and_false]))
  have e6:r1.length=r2.length:=by have:(r1.length:Int)=r2.length:=(by simpa using d6);omega
  cases d7:((k1.length:Int) !=(k2.length:Int))
  case true=>
   have e7:k1.length≠k2.length:=by intro e;rw[e]at d7;simp at d7
   simp -implicitDefEqProofs only[go_sem,ga,gb,d5,acd,d6,aP,d7];exact .mk _ (.refl _) hs0 (bad (by simp only[eqP,wY,gT e7,Bool.false_and,Bool.and_false]))
  have e7:k1.length=k2.length:=by have:(k1.length:Int)=k2.length:=(by simpa using d7);omega
  simp -implicitDefEqProofs only[go_sem,ga,gb,d5,acd,d6,aP,d7];refine .intro (fun m ρ h' =>Ab.Sub hb h'∧∃i:Nat,i≤r1.length∧m=r1.length - i∧(∀j (h1:j<r1.length) (h2:j<r2.length),j<i→eqR r1[j] r2[j]=true)∧lk ρ 2=some (.ptr ia 0)∧lk ρ 3=some (.ptr ib 0)∧lk ρ 64=some (.i r1.length)∧lk ρ 65=some (.i i)) r1.length ?_ ?_
  ·exact ahS
  ·rintro m ρ h' ⟨hs,i,hi,rfl,hc,q2,q3,q64,q65⟩
   have ga1:=hs _ _ ga;have gb1:=hs _ _ gb;simp -implicitDefEqProofs only[go_sem,q2,q3,q64,q65];refine .intro (fun e=>?_) (fun e=>?_)
   ·have hlt:i<r1.length:=ack e
    have hlt2:i<r2.length:=aco;have w1:=acj i aco;simp -implicitDefEqProofs only[go_sem,q2,q3,q64,q65,ga1,gb1];refine .fork (hm2 ia (.obj [.s i1,.b s1,.i a1,.sl (t1.map bP) .no,.sl (r1.map aA) .no,.sl (cy k1) .no,.sl (o1.map aW) .no] 65) ib (.obj [.s i2,.b s2,.i a2,.sl (t2.map bP) .no,.sl (r2.map aA) .no,.sl (cy k2) .no,.sl (o2.map aW) .no] 65)) (.fork [0,1,2,3,4,5,6,7,8,9] 10 (.seq [11,12,13]) 11 (.seq [10,12,13])) (fun ρ' h2=>Ab.Sub h' h2∧∃j6 j7,h2 j6=some (.obj [.s r1[i].id,.b r1[i].deny,.sl (r1[i].tgt.map bP) .no,.sl (r1[i].cond.map cJ) .no,.sl (r1[i].obls.map aW) .no] 224)∧h2 j7=some (.obj [.s r2[i].id,.b r2[i].deny,.sl (r2[i].tgt.map bP) .no,.sl (r2[i].cond.map cJ) .no,.sl (r2[i].obls.map aW) .no] 224)∧lk ρ' 6=some (.ptr j6 0)∧lk ρ' 7=some (.ptr j7 0)∧lk ρ' 2=some (.ptr ia 0)∧lk ρ' 3=some (.ptr ib 0)∧lk ρ' 64=some (.i r1.length)∧lk ρ' 65=some (.i i)) ?_ acs rfl (by simp -implicitDefEqProofs only[go_sem]) ?_ ?_
    ·exact .hm2 ga1 gb1
    ·have m1:=oL (i:=ia) (.obj [.s i1,.b s1,.i a1,.sl (t1.map bP) .no,.sl (r1.map aA) .no,.sl (cy k1) .no,.sl (o1.map aW) .no] 65) (j:=ib) (.obj [.s i2,.b s2,.i a2,.sl (t2.map bP) .no,.sl (r2.map aA) .no,.sl (cy k2) .no,.sl (o2.map aW) .no] 65) nab.symm
     have m2:=oN ia (.obj [.s i1,.b s1,.i a1,.sl (t1.map bP) .no,.sl (r1.map aA) .no,.sl (cy k1) .no,.sl (o1.map aW) .no] 65) ib (.obj [.s i2,.b s2,.i a2,.sl (t2.map bP) .no,.sl (r2.map aA) .no,.sl (cy k2) .no,.sl (o2.map aW) .no] 65);simp -implicitDefEqProofs only[go_sem,iM,q2,q3,q64,q65,m1,m2];refine .at i acN acz ?_;simp -implicitDefEqProofs only[go_sem,iM,q2,q3,q64,q65,m1,m2,ace,aA];refine .at i (by simpa using hlt2) acz ?_
     simp -implicitDefEqProofs only[go_sem,iM,q2,q3,q64,q65,m1,m2,ace,aA];refine⟨?_,?_⟩
     ·intro j6 h6
      have n6a:j6≠ia:=fun e=>by rw[e,ga1]at h6;cases h6
      have n6b:j6≠ib:=fun e=>by rw[e,gb1]at h6;cases h6
      have z6:=tI (.obj [.s i1,.b s1,.i a1,.sl (t1.map bP) .no,.sl (r1.map aA) .no,.sl (cy k1) .no,.sl (o1.map aW) .no] 65) (.obj [.s i2,.b s2,.i a2,.sl (t2.map bP) .no,.sl (r2.map aA) .no,.sl (cy k2) .no,.sl (o2.map aW) .no] 65) n6a n6b;refine⟨(Sub.hm2 ga1 gb1).put z6 _,?_⟩;simp -implicitDefEqProofs only[go_sem];intro j7 h7;have n67:j6≠j7:=(u0 h7).symm;have h72:=h7;rw[ag _ _ n67.symm]at h72;have n7a:j7≠ia:=fun e=>by rw[e,ga1]at h72;cases h72
      have n7b:j7≠ib:=fun e=>by rw[e,gb1]at h72;cases h72
      have z7:=tI (.obj [.s i1,.b s1,.i a1,.sl (t1.map bP) .no,.sl (r1.map aA) .no,.sl (cy k1) .no,.sl (o1.map aW) .no] 65) (.obj [.s i2,.b s2,.i a2,.sl (t2.map bP) .no,.sl (r2.map aA) .no,.sl (cy k2) .no,.sl (o2.map aW) .no] 65) n7a n7b;refine⟨((Sub.hm2 ga1 gb1).put z6 _).put z7 _,?_⟩;simp -implicitDefEqProofs only[go_sem,ag _ _ n67,ag _ _ n67.symm,ah];refine⟨acM,acM,?_⟩;refine⟨acM,j6,j7,?_,ah ..,?_,?_,?_,?_,?_,?_⟩
      ·rw[ag _ _ (by first|exact n67|exact n67.symm),ah];rfl
      all_goals simp -implicitDefEqProofs only[go_sem,q2,q3,q64,q65]
     ·intro j7 h7
      have n7a:j7≠ia:=fun e=>by rw[e,ga1]at h7;cases h7
      have n7b:j7≠ib:=fun e=>by rw[e,gb1]at h7;cases h7
      have z7:=tI (.obj [.s i1,.b s1,.i a1,.sl (t1.map bP) .no,.sl (r1.map aA) .no,.sl (cy k1) .no,.sl (o1.map aW) .no] 65) (.obj [.s i2,.b s2,.i a2,.sl (t2.map bP) .no,.sl (r2.map aA) .no,.sl (cy k2) .no,.sl (o2.map aW) .no] 65) n7a n7b;refine⟨(Sub.hm2 ga1 gb1).put z7 _,?_⟩;simp -implicitDefEqProofs only[go_sem];intro j6 h6;have n76:j7≠j6:=(u0 h6).symm;have h62:=h6;rw[ag _ _ n76.symm]at h62;have n6a:j6≠ia:=fun e=>by rw[e,ga1]at h62;cases h62
      have n6b:j6≠ib:=fun e=>by rw[e,gb1]at h62;cases h62
      have z6:=tI (.obj [.s i1,.b s1,.i a1,.sl (t1.map bP) .no,.sl (r1.map aA) .no,.sl (cy k1) .no,.sl (o1.map aW) .no] 65) (.obj [.s i2,.b s2,.i a2,.sl (t2.map bP) .no,.sl (r2.map aA) .no,.sl (cy k2) .no,.sl (o2.map aW) .no] 65) n6a n6b;refine⟨((Sub.hm2 ga1 gb1).put z7 _).put z6 _,?_⟩;simp -implicitDefEqProofs only[go_sem,ag _ _ n76,ag _ _ n76.symm,ah];refine⟨acM,acM,?_⟩;refine⟨acM,j6,j7,?_,ah ..,?_,?_,?_,?_,?_,?_⟩
      ·rw[ag _ _ (by first|exact n76|exact n76.symm),ah];rfl
      all_goals simp -implicitDefEqProofs only[go_sem,q2,q3,q64,q65]
    ·rintro ρ' h2 ⟨hs2,j6,j7,g6,g7,p6,p7,p2,p3,p64,p65⟩
     have hs3:=hs.trans hs2;have f1:=zp r1[i].tgt r2[i].tgt h2;have f2:=Eh r1[i].cond r2[i].cond h2;have f3:=zg r1[i].obls r2[i].obls h2;have bad2:eqR r1[i] r2[i]=false→(.b false:AV)= .b (eqP (.mk i1 s1 a1 t1 r1 k1 o1) (.mk i2 s2 a2 t2 r2 k2 o2))∧h=h:=fun e=>bad (by
      simp only[eqP,jh i hlt hlt2 e,Bool.false_and,Bool.and_false])
     cases c1:(r1[i].id==r2[i].id)
     case false=>
      simp -implicitDefEqProofs only[go_sem,p2,p3,p6,p7,p64,p65,g6,g7,c1];exact .mk _ (.refl _) (hs0.trans hs3) (bad2 (by simp only[eqR,c1,Bool.false_and,Bool.and_false]))
     cases c2:(r1[i].deny==r2[i].deny)
     case false=>
      simp -implicitDefEqProofs only[go_sem,p2,p3,p6,p7,p64,p65,g6,g7,c1,c2];exact .mk _ (.refl _) (hs0.trans hs3) (bad2 (by simp only[eqR,c2,Bool.false_and,Bool.and_false]))
     simp -implicitDefEqProofs only[go_sem,p2,p3,p6,p7,p64,p65,g6,g7,c1,c2];refine f1.pthen ?_;cases c3:eqT r1[i].tgt r2[i].tgt
     case false=>
      simp -implicitDefEqProofs only[go_sem,p2,p3,p6,p7,p64,p65,g6,g7,c3];exact .mk _ (.refl _) (hs0.trans hs3) (bad2 (by simp only[eqR,c3,Bool.false_and,Bool.and_false]))
     simp -implicitDefEqProofs only[go_sem,p2,p3,p6,p7,p64,p65,g6,g7,c3];refine f2.pthen ?_;cases c4:eqL oA r1[i].cond r2[i].cond
     case false=>
      simp -implicitDefEqProofs only[go_sem,p2,p3,p6,p7,p64,p65,g6,g7,c4];exact .mk _ (.refl _) (hs0.trans hs3) (bad2 (by simp only[eqR,c4,Bool.false_and,Bool.and_false]))
     simp -implicitDefEqProofs only[go_sem,p2,p3,p6,p7,p64,p65,g6,g7,c4];refine f3.pthen ?_;cases c5:eqL qu r1[i].obls r2[i].obls
     case false=>
      simp -implicitDefEqProofs only[go_sem,p2,p3,p6,p7,p64,p65,g6,g7,c5];exact .mk _ (.refl _) (hs0.trans hs3) (bad2 (by simp only[eqR,c5,Bool.false_and,Bool.and_false]))
     simp -implicitDefEqProofs only[go_sem,p2,p3,p6,p7,p64,p65,g6,g7,c5,w1];refine⟨_,?_,hs3,i+1,aco,rfl,fun j h1 h2 hj=>?_,?_,?_,?_,?_⟩
     ·omega
     ·by_cases hji:j=i
      ·subst hji;simp only[eqR,c1,c2,c3,c4,c5,Bool.and_self]
      ·exact hc j h1 h2 aco
     all_goals simp -implicitDefEqProofs only[go_sem,p2,p3,p64,p65,w1]
   ·have hge:i=r1.length:=by have:=acg e;omega
    subst hge;have hrr:eqL eqR r1 r2=true:=cV e6 fun j h1 h2=>hc j h1 h2 h1
    simp -implicitDefEqProofs only[go_sem,q2,q3,q64,q65,ga1,gb1,aP,acd];refine .intro (fun m ρ h' =>Ab.Sub hb h'∧∃i:Nat,i≤k1.length∧m=k1.length - i∧(∀j (h1:j<k1.length) (h2:j<k2.length),j<i→eqP k1[j] k2[j]=true)∧lk ρ 2=some (.ptr ia 0)∧lk ρ 3=some (.ptr ib 0)∧lk ρ 117=some (.i k1.length)∧lk ρ 118=some (.i i)) k1.length ?_ ?_
    ·refine⟨hs,0,aco,rfl,fun j _ _ hj=>aco,?_,?_,?_,?_⟩<;>simp -implicitDefEqProofs only[go_sem,q2,q3]
    ·rintro m ρ h' ⟨hs,i,hi,rfl,hc,q2,q3,q117,q118⟩
     have ga1:=hs _ _ ga;have gb1:=hs _ _ gb;simp -implicitDefEqProofs only[go_sem,q2,q3,q117,q118];refine .intro (fun e=>?_) (fun e=>?_)
     ·have hlt:i<k1.length:=ack e
      have hlt2:i<k2.length:=aco;have w1:=acj i aco;have ihi:=ihk i hlt k2[i] h';simp -implicitDefEqProofs only[go_sem,q2,q3,q117,q118,ga1,gb1];refine .quiet acs ?_;simp -implicitDefEqProofs only[go_sem,q2,q3,q117,q118,ga1,gb1,aP];cases ek1:k1[i]with
      |mk x1 x2 x3 x4 x5 x6 x7=>
      cases ek2:k2[i]with
      |mk y1 y2 y3 y4 y5 y6 y7=>
      have ihi2:=ihi;rw[ek1,ek2]at ihi;simp only[aK,aS,ay]at ihi;refine .at i acN (by rw[ace];exact yS _) ?_
      simp -implicitDefEqProofs only[go_sem,q2,q3,q117,q118,ga1,gb1,ace,ek1,aK,aS,ay,aP];refine .at i (by simpa using hlt2) (by rw[ace];exact yS _) ?_
      simp -implicitDefEqProofs only[go_sem,q2,q3,q117,q118,ga1,gb1,ace,ek2,aK,aS,ay,aP];simp only[aP]at ihi;refine⟨_,ihi,?_⟩;rw[←ek1,←ek2];cases c6:eqP k1[i] k2[i]
      ·simp -implicitDefEqProofs only[go_sem,q2,q3,q117,q118]
       exact .mk _ (.refl _) (hs0.trans hs) (bad (by simp only[eqP,wY,jh i hlt hlt2 c6,Bool.and_false]))
      ·simp -implicitDefEqProofs only[go_sem,q2,q3,q117,q118,w1]
       refine⟨_,?_,hs,i+1,aco,rfl,fun j h1 h2 hj=>?_,?_,?_,?_,?_⟩
       ·omega
       ·by_cases hji:j=i
        ·subst hji;exact c6
        ·exact hc j h1 h2 aco
       all_goals simp -implicitDefEqProofs only[go_sem,q2,q3,q117,q118,w1]
     ·have hge:i=k1.length:=by have:=acg e;omega
      subst hge;have hkk:eqL eqP k1 k2=true:=cV e7 fun j h1 h2=>hc j h1 h2 h1
      simp -implicitDefEqProofs only[go_sem,q2,q3,q117,q118];exact .mk _ (.refl _) (hs0.trans hs) ⟨by simp only[eqP,d1,d2,d3,d4,d5,hrr,wY,hkk,Bool.and_self];rfl,rfl⟩
termination_by p=>SizeOf.sizeOf p
decreasing_by
 have:=List.sizeOf_lt_of_mem (aci hj);simp only[bB.mk.sizeOf_spec];omega
def xB(s t:an):Bool:=s.tick==t.tick && eqL kH s.cases t.cases && eqL oD s.reviews t.reviews && eqL oC s.notices t.notices && eqL lS s.roles t.roles && s.version==t.version && eqP s.policy t.policy
theorem EO(s:an):xB s s=true:=by
 have h1:eqL oD s.reviews s.reviews=true:=cV rfl fun j _ _=>by simp[oD]
 have h2:eqL oC s.notices s.notices=true:=cV rfl fun j _ _=>by simp[oC]
 simp[xB,EX,h1,h2,Jv,(KQ s.policy s.policy).2 rfl]
theorem Kg(s t:an)(h:Heap):ai Tryz.prog 30 [cg s,cg t] h fun r h' =>r= .b (xB s t)∧h' =h:=by
 obtain⟨d,ed⟩:∃d,xB s t=d:=⟨_,rfl⟩;rw[ed];unfold xB at ed;have hs:=oc s;have ht:=oc t;obtain⟨tick,cs,rv,nt,ro,⟨pid,pset,palg,ptgt,prules,pkids,pobls⟩,ver⟩:=s;obtain⟨tick',cs',rv',nt',ro',⟨pid',pset',palg',ptgt',prules',pkids',pobls'⟩,ver'⟩:=t;simp only at ed;rw[hs,ht];simp only[sL,fk,ja,jw,dI];refine acn Tryz.func30 52 [.tmp 4] fun hwf=>?_
 simp -implicitDefEqProofs only[go_sem];intro i1 h1;simp -implicitDefEqProofs only[go_sem];intro i2 h2;have n21:=aH h2;have n2:=aC h2;have hsub:∀a b,Ab.Sub h (upd (upd h i1 a) i2 b):=fun a b=>((Sub.refl h).put h1 _).put n2 _
 cases d1:(tick==tick')
 ·simp -implicitDefEqProofs only[go_sem,aj,n21.symm,d1]
  exact .mk _ (.refl _) (hsub _ _) ⟨by rw[←ed,d1];rfl,rfl⟩
 simp -implicitDefEqProofs only[go_sem,aj,n21.symm,d1];refine(Kx (crows cs) (crows cs') .no .no _).pthen ?_;cases d2:eqL kH cs cs'
 ·simp -implicitDefEqProofs only[go_sem]
  exact .mk _ (.refl _) (hsub _ _) ⟨by rw[←ed,d1,d2];rfl,rfl⟩
 simp -implicitDefEqProofs only[go_sem,aj,n21.symm];refine(F5 rv rv' .no .no _).pthen ?_;cases d3:eqL oD rv rv'
 ·simp -implicitDefEqProofs only[go_sem]
  exact .mk _ (.refl _) (hsub _ _) ⟨by rw[←ed,d1,d2,d3];rfl,rfl⟩
 simp -implicitDefEqProofs only[go_sem,aj,n21.symm];refine(F4 nt nt' .no .no _).pthen ?_;cases d4:eqL oC nt nt'
 ·simp -implicitDefEqProofs only[go_sem]
  exact .mk _ (.refl _) (hsub _ _) ⟨by rw[←ed,d1,d2,d3,d4];rfl,rfl⟩
 simp -implicitDefEqProofs only[go_sem,aj,n21.symm];refine(Ei ro ro' .no .no _).pthen ?_;cases d5:eqL lS ro ro'
 ·simp -implicitDefEqProofs only[go_sem]
  exact .mk _ (.refl _) (hsub _ _) ⟨by rw[←ed,d1,d2,d3,d4,d5];rfl,rfl⟩
 cases d6:(ver==ver')
 ·simp -implicitDefEqProofs only[go_sem,aj,n21.symm,d6]
  exact aim
 simp -implicitDefEqProofs only[go_sem,aj,n21.symm,d6];refine ai.pthen (show ai Tryz.prog 84 [_,_] _ _ from wz (.mk pid pset palg ptgt prules pkids pobls) (.mk pid' pset' palg' ptgt' prules' pkids' pobls') _) ?_
 simp -implicitDefEqProofs only[go_sem];exact aim
end Go.Proofs.YtcochaoekecfdaaGreatDoor
namespace Go.Bf
open Go Go.Ab Go.Proofs.YtcochaoekecfdaaGreatDoor
theorem Nx{k n:Nat}{e:eN}{b:Txt}{sy:Nat}(o:OpD)(hd:e.down=false)(hG:jD k e.s)(hok:D.ok ⟨n,b,sy,0,false⟩):
  ∃e' b' sy' RR,doE e ⟨n,b,sy,0,false⟩ o=(e',⟨n,b',sy',0,false⟩,RR)∧D.ok ⟨n,b',sy',0,false⟩∧e'.down=false∧e'.ps.length≤e.ps.length+1∧e'.log.length≤e.log.length+1∧jD (k+1) e'.s∧
   (((aV e.s o).2.2.2≠0∧RR=(aV e.s o).2.1∧e' =e)∨((aV e.s o).2.2.2=0∧n<b.length+16+(lJ o).length∧RR=BR 8∧e' =e)∨((aV e.s o).2.2.2=0∧b.length+16+(lJ o).length≤n∧RR=(aV e.s o).2.1∧e' =Ui e o)):=by
 have up:jD (k+1) e.s:={hG.tojC.up with ticks:=hG.ticks}
 have hl:(frame (fX e.ch o)).length=16+(lJ o).length:=by grind [oJ,fX,nR]
 by_cases hg:(aV e.s o).2.2.2=0
 case neg=>exact⟨e,b,sy,_,TA _ hd hg,hok,hd,aco,aco,up,.inl ⟨hg,rfl,rfl⟩⟩
 by_cases hr:b.length+16+(lJ o).length≤n
 ·refine⟨_,_,_,_,GL (d:=⟨n,b,sy,0,false⟩) hd hg rfl rfl acp,⟨?_,hok.2.1,Nat.le_refl _,hok.2.2.2⟩,rfl,acw,by simp[nS],qB o hG,.inr (.inr ⟨hg,hr,rfl,rfl⟩)⟩
  grind
 ·exact⟨e,b,sy,_,Nw (d:=⟨n,b,sy,0,false⟩) hd hg rfl acp,hok,hd,aco,aco,up,.inr (.inl ⟨hg,aco,rfl,rfl⟩)⟩
end Go.Bf
namespace Go.Proofs.YtcochaoekecfdaaGreatDoor
open Go Go.Ab Go.Bf
theorem xC(s:an)(L:List AV)(hL:fC s=L)(h:Heap):ai Tryz.prog 30 [cg s,.agg L] h fun r h' =>r= .b true∧h' =h:=by
 subst hL;have:=Kg s s h;rw[EO]at this;exact ac8
theorem K9{k:Nat}{s:an}(h:jC k s)(o:OpD):M9 (aV s o).2.1.mark∧M9 (aV s o).2.2.1.mark:=by
 have hm:M9 (gv s o).1:=(wZ _ _).m9;unfold aV;split
 ·exact⟨M9.na,M9.na⟩
 ·split
  ·exact⟨M9.na,M9.na⟩
  ·exact⟨hm,hm⟩
theorem KO{m:aT}(h:M9 m):eqC (.v (.complex .f64 (hbit m.1) (hbit m.2))) (.v (.complex .f64 (hbit m.1) (hbit m.2)))=true:=by
 have:=KN h h;rw[beq_self_eq_true]at this;exact ac8
theorem sR.upd{h0 h:Heap}{x jid did:Nat}{e:eN}{d:D}{spl spj:List Nat}(w:sR h0 h x jid did e d spl spj){i:Nat}{cs:List AV}{t:TypeId}(b:Option Blk)(hi:h i=some (.obj cs t))(hn:i∉x::did::jid::(spl++spj))(h0i:h0 i=none)(t1:t≠96)(t2:t≠5):sR h0 (Ab.upd h i b) x jid did e d spl spj:=by
 obtain⟨yl,a,bb,c⟩:=w.eng;exact⟨⟨yl,by simp_all [ag,Ne.symm],bb.touch .upd acp,c.touch .upd acp acp⟩,w.disk.upd hi t1 t2,w.ok,fun j k hj=>(by rw[ag _ _ acp];exact w.sub _ _ hj),w.new⟩
theorem OK:ku (BR 8)= [.i 8,.v (.complex .f64 0 0),.b false,.i 0,.i 0,.s [],.b false,.i 0]:=rfl
theorem Mb(r:j5):ku r= [.i r.err,.v (.complex .f64 (hbit r.mark.1) (hbit r.mark.2)),.b r.glass,.i r.val.kind,.i r.val.n,.s r.val.s,.b r.hidden,.i r.at_]:=rfl
theorem zK(x y:AV)(dx:Dat U 3 x)(dy:Dat U 54 y)(h:Heap)(he:kR h):ai Tryz.prog 5 [x,y] h fun r h' =>r= .b true∧h' =h:=
 ai.freeze fun g hgs _=>by
 replace he:=he.sub hgs;obtain⟨n0,rfl,hn64⟩:=dx.i64 acA;obtain⟨l0,rfl,hl0,h640⟩:=Nu dy;have hfin:∀G,Ab.Sub g G→ai Tryz.prog 3 [] G fun r h' =>r= .b true∧h' =G:=fun G hG=>zL G (he.sub hG)
 have hop:=fun(G:Heap)=>Ri l0 25 acr G
 have h64:∀o∈sE l0 25,pQ o:=Uq h640;have hll:(sE l0 25).length≤25:=by simp[sE];omega
 obtain⟨l,el⟩:∃l,sE l0 25=l:=⟨_,rfl⟩;rw[el]at hop h64 hll;have hwl:=Gs n0 600;obtain⟨n,en⟩:∃n,rH n0 600=n:=⟨_,rfl⟩;rw[en]at hwl;refine acn Tryz.func5 97 [.tmp 4] fun hwf=>?_
 simp only[go_sem];refine(JY n0 600 _ hn64 acr).pthen ?_;rw[en];simp only[go_sem];refine(CV n aco g).mono fun r h1 ⟨did,hn,er,hdk,s1⟩=>?_
 subst er;simp only[go_sem];refine(Gg n aco did g h1 hdk s1 hn he).mono fun r h2 ⟨x,jid,spl,spj,er,w⟩=>?_
 subst er;simp only[go_sem];refine(LH h2 (he.sub w.sub)).pthen ?_;rw[show cg sD= .agg (fC sD)from rfl,newL]
 simp only[go_sem];intro i10 h10;have n10:=w.fresh h10;have g10:g i10=none:=w.sub.none h10;simp only[go_sem];refine inH fun H1 w1=>?_
 have sH1:Ab.Sub h2 H1:=by rw[w1];exact(Sub.refl h2).new h10 _
 have f10:H1 i10=some (.obj (fC sD) 67):=by rw[w1,ah,newL]
 have v1:=w.up sH1;clear w1;refine(hop _).pthen ?_;simp only[go_sem,acd];refine .intro (fun m ρ H=>∃(i:Nat) (e:eN) (b:Txt) (sy:Nat) (spl spj:List Nat),sR g H x jid did e ⟨n,b,sy,0,false⟩ spl spj∧H i10=some (.obj (fC e.s) 67)∧i10∉x::did::jid::(spl++spj)∧jD i e.s∧e.down=false∧e.ps.length≤i∧e.log.length≤i∧i≤l.length∧m=l.length - i∧lk ρ 5=some (.i n)∧lk ρ 6=some (.ptr did 0)∧lk ρ 8=some (.ptr x 0)∧lk ρ 10=some (.ptr i10 0)∧lk ρ 45=some (.sl (l.map opA) .no)∧lk ρ 46=some (.i l.length)∧lk ρ 47=some (.i i)) l.length ?_ ?_
 ·refine⟨0,iN [],[],0,spl,spj,v1,f10,n10,sj,rfl,Nat.le_refl _,Nat.le_refl _,aco,rfl,?_,?_,?_,?_,?_,?_,?_⟩<;>simp only[go_sem]
 rintro m ρ H ⟨i,e,b,sy,spl,spj,w,f10,n10,hG,hdn,hps,hlg,hi,rfl,r5,r6,r8,r10,r45,r46,r47⟩
 by_cases hlt:i<l.length
 case neg=>
  have t1:decide ((i:Int)<(l.length:Int))=false:=decide_eq_false aco;simp only[go_sem,r45,r46,r47,t1];refine(hfin _ w.sub).pthen ?_;simp only[go_sem];exact .same (.refl _) ⟨w.sub,_,.pure rfl,rfl⟩
 have t1:decide ((i:Int)<(l.length:Int))=true:=decide_eq_true aco;have w1:=acj i aco;have ix:=fun k=>fc.eq (xs:=l.map opA) (sz:=12) i acN acz k
 obtain⟨o,eo⟩:∃o,l[i]=o:=⟨_,rfl⟩;have o64:=h64 o (by rw[←eo];exact aci _)
 rw[ace,eo]at ix;simp only[opA,opC]at ix;have hgd:=mA e.s hG aco o o64;have m9:=(K9 hG.tojC o).1;have hG2:=qB o hG;obtain⟨a1,a2,a3,a4,a5,a6,a7,es⟩:=cq e.s;rw[show cg e.s= .agg (fC e.s)from rfl,es]at hgd
 rw[es]at f10;simp only[go_sem,r8,r10,r45,r46,r47,t1,ix];intro i12 h12;have q12:i12≠i10:=fun e=>by rw[e,f10]at h12;cases h12
 obtain⟨⟨S,R,D,E⟩,eg⟩:∃t,aV e.s o=t:=⟨_,rfl⟩;obtain⟨b1,b2,b3,b4,b5,b6,b7,es2⟩:=cq S;rw[eg]at hgd m9 hG2;rw[mB,show cg S= .agg (fC S)from rfl,es2]at hgd
 simp only[opA,opC]at hgd m9 hG2;simp only[go_sem,aj,q12.symm,f10,r10];refine(hgd _ ((he.sub w.sub).sub ((Sub.refl H).new h12 _))).pthen ?_;simp only[go_sem];intro i13 h13;simp only[go_sem];intro i14 h14;simp only[go_sem];intro i15 h15;have n43:=aH h14;have n54:=aH h15;have n53:=aH (aC h15);simp only[go_sem,aj,n43,n43.symm,n53,n53.symm,n54,n54.symm,r5,r6];refine inH fun H2 w2=>?_
 have f14:H2 i14=some (.obj [.i R.err,.v (.complex .f64 (hbit R.mark.1) (hbit R.mark.2)),.b R.glass,.i R.val.kind,.i R.val.n,.s R.val.s,.b R.hidden,.i R.at_] 36):=af9;have f13:H2 i13=some (.obj [.i S.tick,fk S.cases,ja S.reviews,jw S.notices,dI S.roles,b1,b2,b3,b4,b5,b6,b7,.i S.version] 67):=af9;have f12:H2 i12=some (.obj [.i o.kind,.s o.subj,.s o.case,.s o.field,.s o.to,.i o.val.kind,.i o.val.n,.s o.val.s,.i o.review,.s o.text,.s o.reason,.b o.glass] 32):=af9;have f10' :H2 i10=H i10:=af9;have s2:Ab.Sub H H2:=by rw[w2];grind [upd,Ab.Sub]
 clear w2;obtain⟨e',b',sy',RR,ed,hok,hdn',hps',hlg',hG',hways⟩:=Nx o hdn hG w.ok;have v2:=w.up s2;refine(Hi _ did H2 v2.disk).pthen ?_;have hbn:b.length≤n:=w.ok.1;have w3:IntKind.i64.wrap ((n:Int) - (b.length:Int))=((n - b.length:Nat):Int):=ada;simp only[go_sem,w3,r8,f12];refine(show ai Tryz.prog _ [.ptr x 0,opA o] _ _ from(v2.doS o aco aco hG aco o64 he (by rw[ed];exact hok)).mono fun r H3 ⟨er,spl',spj',v3,hT3,hin⟩=>?_)
 subst er;rw[ed]at v3⊢;simp only at v3⊢;rw[Mb];have n12:=w.fresh h12;have n13:=w.fresh (aC h13);have n14:=w.fresh (aC (aC h14));have k10:=hT3 _ _ n10 (f10'.trans f10);have k12:=hT3 _ _ n12 f12;have k13:=hT3 _ _ n13 f13;have k14:=hT3 _ _ n14 f14;have o10:i10∉x::did::jid::(spl' ++spj'):=fun hh=>by
  rcases hin _ hh with h1|h1
  ·exact n10 h1
  ·rw[f10',f10]at h1;cases h1
 simp only[go_sem];intro i18 h18;have x18:∀ {i:Nat} {b:Blk},H3 i=some b→i≠i18:=fun hh e=>by rw[←e,hh]at h18;cases h18
 simp only[go_sem];generalize hH:upd H3 i18 _=H4;have s4:Ab.Sub H3 H4:=by rw[←hH];exact(Sub.refl H3).new h18 _
 have f18:H4 i18=some (.obj [.i RR.err,.v (.complex .f64 (hbit RR.mark.1) (hbit RR.mark.2)),.b RR.glass,.i RR.val.kind,.i RR.val.n,.s RR.val.s,.b RR.hidden,.i RR.at_] 36):=by rw[←hH];exact ah ..
 clear hH;have v4:=v3.up s4;replace k10:=s4 _ _ k10;replace k12:=s4 _ _ k12;replace k13:=s4 _ _ k13;replace k14:=s4 _ _ k14;rw[eg]at hways;simp only at hways;have qm:=KO m9;rcases hways with⟨hE,rfl,hss⟩|⟨hE,hr,rfl,hss⟩|⟨hE,hr,rfl,hss⟩
 ·replace hss:=congrArg eN.s hss
  have t2:(E !=0)=true:=by simp[hE]
  simp only[go_sem,t2,f18,k14,qm,beq_self_eq_true];refine .quiet acs ?_;simp only[go_sem,r8,r10,k10];refine⟨_,uH x jid did e' spl' spj' _ v4.eng,?_⟩;simp only[go_sem,r10,k10];refine⟨_,xC e'.s _ (by rw[hss,es]) _,?_⟩
  simp only[go_sem,r8];refine⟨_,xS x jid did e' spl' spj' _ v4.eng,?_⟩;rw[hdn'];simp only[go_sem,r47,w1];refine⟨_,?_,i+1,e',b',sy',spl',spj',v4,by rw[hss,es];exact k10,o10,hG',hdn',aco,aco,aco,rfl,?_,?_,?_,?_,?_,?_,?_⟩
  ·omega
  all_goals simp only[go_sem,r5,r6,r8,r10,r45,r46]
 ·replace hss:=congrArg eN.s hss
  subst hE;have hF:=oI (ji (by rw[eg]))
  have hpl:=rA hF;have hpo:=Cb o o64 (f_l hF) H4;simp only[opA,opC]at hpo;have w4:IntKind.i64.wrap (16+((lJ o).length:Int))=((16+(lJ o).length:Nat):Int):=ada;have t3:decide (((16+(lJ o).length:Nat):Int)>((n - b.length:Nat):Int))=true:=decide_eq_true aco;have t4:decide (((n - b.length:Nat):Int)<((16+(lJ o).length:Nat):Int))=true:=decide_eq_true aco;have qd:eqC (.v (.complex .f64 0 0)) (.v (.complex .f64 0 0))=true:=rfl;rw[←Mb,OK]at f18;simp only[go_sem,k12];refine hpo.pthen ?_;simp only[go_sem,acd,w4,t3,t4,f18,qd];refine .quiet acs ?_;simp only[go_sem,r8,r10,k10];refine⟨_,uH x jid did e' spl' spj' _ v4.eng,?_⟩;simp only[go_sem,r10,k10];refine⟨_,xC e'.s _ (by rw[hss,es]) _,?_⟩
  simp only[go_sem,r8];refine⟨_,xS x jid did e' spl' spj' _ v4.eng,?_⟩;rw[hdn'];simp only[go_sem,r47,w1];refine⟨_,?_,i+1,e',b',sy',spl',spj',v4,by rw[hss,es];exact k10,o10,hG',hdn',aco,aco,aco,rfl,?_,?_,?_,?_,?_,?_,?_⟩
  ·omega
  all_goals simp only[go_sem,r5,r6,r8,r10,r45,r46]
 ·replace hss:e'.s=S:=by rw[hss];show(aV e.s o).1=S;rw[eg]
  subst hE;have hF:=oI (ji (by rw[eg]))
  have hpl:=rA hF;have hpo:=Cb o o64 (f_l hF) H4;simp only[opA,opC]at hpo;have w4:IntKind.i64.wrap (16+((lJ o).length:Int))=((16+(lJ o).length:Nat):Int):=ada;have t3:decide (((16+(lJ o).length:Nat):Int)>((n - b.length:Nat):Int))=false:=decide_eq_false aco;have t4:decide (((n - b.length:Nat):Int)<((16+(lJ o).length:Nat):Int))=false:=decide_eq_false aco;simp only[go_sem,k12];refine hpo.pthen ?_;simp only[go_sem,acd,w4,t3,t4,f18,k14,qm,beq_self_eq_true,k13,r10,k10];refine CW fun H5 w5=>?_
  have v5:sR g H5 x jid did e' ⟨n,b',sy',0,false⟩ spl' spj' :=by rw[w5];exact v4.upd _ k10 o10 g10 acr acr
  have j10:H5 i10=some (.obj [.i S.tick,fk S.cases,ja S.reviews,jw S.notices,dI S.roles,b1,b2,b3,b4,b5,b6,b7,.i S.version] 67):=by rw[w5];exact ah ..
  clear w5;refine .quiet acs ?_;simp only[go_sem,r8,r10,j10];refine⟨_,uH x jid did e' spl' spj' _ v5.eng,?_⟩;simp only[go_sem,r10,j10];refine⟨_,xC e'.s _ (by rw[hss,es2]) _,?_⟩
  simp only[go_sem,r8];refine⟨_,xS x jid did e' spl' spj' _ v5.eng,?_⟩;rw[hdn'];simp only[go_sem,r47,w1];refine⟨_,?_,i+1,e',b',sy',spl',spj',v5,by rw[hss,es2];exact j10,o10,hG',hdn',aco,aco,aco,rfl,?_,?_,?_,?_,?_,?_,?_⟩
  ·omega
  all_goals simp only[go_sem,r5,r6,r8,r10,r45,r46]
theorem xU(ev:Value)(hev:ev= .nilIface∨∃te pe,ev= .iface te pe)(x y:AV)(dx:Dat U 3 x)(dy:Dat U 54 y):ai Tryz.prog 5 [x,y] (wW [(3,Ca),(2,[ev])]) fun r _=>r= .b true:=(zK x y dx dy _ (JI hev)).mono fun _ _ h=>h.1
end Go.Proofs.YtcochaoekecfdaaGreatDoor
