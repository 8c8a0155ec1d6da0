/- The law TopLog,TopTampered: pack 4 of its texts. -/
import Derived.Lib.AtoiAll
import Derived.Shelf.Small.Strs
import Derived.Shelf.Small.Wraps
import Derived.Shelf.Strconv.AtoiAll
import Derived.Shelf.Strconv.ErrVarAll
import Derived.Shelf.Strings.Search1
import Derived.Test.YtelkmnkejghkeaaGreatDoorProg
import Derived.KernelRfl
import Derived.WalkKit
import Derived.BigCall
import Derived.Lib.ItoaLen
import Derived.Test.YtelkmnkejghkeaaGreatDoorPk1
import Derived.Test.YtelkmnkejghkeaaGreatDoorPk2
import Derived.Test.YtelkmnkejghkeaaGreatDoorPk3
set_option linter.unusedSimpArgs false
set_option linter.unusedVariables false
set_option maxRecDepth 100000
namespace Go.Proofs.YtelkmnkejghkeaaGreatDoor
open Go Go.Ab Go.Bf Tryz
variable {cs:List aM}{g h:Heap}{x:AV}{s:an}
theorem Dr{id:Txt}(h:bZ cs id=true):bw cs id=cs[findD cs id]'(jW h):=by simp_all [bw,if_pos,List.getD_eq_getElem?_getD,List.getElem?_eq_getElem,jW]
theorem Ds{id:Txt}(h:bZ cs id=false):bw cs id=pz:=by simp_all [bw,if_neg]
theorem mQ{p:Perm}:Frz g h (.sl [] p) (.sl [] .no):=.sl _ _ _ rfl aeC aeJ
theorem DZ(c:aM):Frz g h (cu c) (cu c):=.agg _ _ rfl fun j a b=>by
 rcases j with _|_|_|_|_|j
 ·exact aeW
 ·exact aeW
 ·exact aeW
 ·exact .pure (show cI (gI c.fields)=true from bn (fun _=>rfl) c.fields)
 ·exact .pure (show cI (tf c.log)=true from bn (fun _=>rfl) c.log)
 ·simp[nU]at a;omega
theorem Co(hb:RdS h x s)(id:Txt)(hf:Few s):ai prog 49 [x,.s id] h fun r h' =>r= .tup [cu (bw s.cases id),.b (bZ s.cases id)]∧h' =h:=
 ai.freeze fun g hg _=>by
 replace hb:=hb.sub hg;have hb0:=hb;obtain⟨y1,y2,y3,y4,rfl,⟨xs,hc,hn,hcs⟩,h2,h3,h4⟩:=hb;cases hpp:s.policy with
 |mk pid pset palg ptgt prules pkids pobls=>
 have hcC:gq (.mk pid pset palg ptgt prules pkids pobls)= [.s pid,.b pset,.i palg,aV ptgt,.sl (prules.map aC) .no,.sl (pkids.map aO) .no,ay pobls]:=ahF;rw[hpp,hcC]at hb0;refine aeB func49 23 [.cell 4 120,.tmp 5] fun hwf=>?_
 simp only[go_sem,hcC,List.cons_append,List.nil_append];intro i1 h1;simp only[go_sem];intro i2 h2';have n21:=aI h2';have n2:=aB h2';simp only[go_sem,ak,n21.symm];have hs:∀a b,Ab.Sub g (upd (upd g i1 a) i2 b):=fun a b=>((Sub.refl g).put h1 a).put n2 b
 refine(Cu (hb0.sub (hs _ _)) id hf.cases).pthen ?_;cases d1:bZ s.cases id
 ·simp only[go_sem]
  refine .mk _ (.refl _) (.refl _) ⟨hs _ _,.tup [.agg [.s [],.s [],.s [],.sl [] .no,.sl [] .no],.b false],.tup _ _ rfl fun i a b=>?_,by rw[Ds d1];rfl⟩
  rcases i with _|_|i
  ·refine .agg _ _ rfl fun j c d=>?_
   rcases j with _|_|_|_|_|j
   ·exact aeW
   ·exact aeW
   ·exact aeW
   ·exact mQ
   ·exact mQ
   grind
  ·exact aeW
  grind
 ·have hlt:=jW d1
  have hltx:findD s.cases id<xs.length:=aeC;obtain⟨f,l,ex,hfl,hlg⟩:=hcs _ hltx hlt;simp only[go_sem,ak,n21.symm];refine hc.idx (e:=120) (findD s.cases id) rfl hltx ot aeG fun p hp1=>?_
  have hld:=fun a b=>(hp1.sub (hs a b)).all (U:=U) (ty:=120) aeG (by rw[ot,ex];rfl) (by simp only[go_sem];rw[ex];rfl)
  simp only[go_sem,hld];refine(xl ((hcs _ hltx hlt).sub (hs _ _)) (hf.fields _ (aex hlt)) (hf.log _ (aex hlt))).pthen ?_;rw[←Dr d1];simp only[go_sem,cu,nU,gI,tf];refine .mk _ (.refl _) (.refl _) ⟨hs _ _,_,.tup _ _ rfl fun i a b=>?_,rfl⟩
  rcases i with _|_|i
  ·exact DZ _
  ·exact aeW
  grind
theorem CX(hb:RdS h x s)(o:OpD)(hf:Few s):ai prog 84 [x,opA o] h fun r h' =>r= .i (bT s o)∧h' =h:=by
 have hb0:=hb;obtain⟨y1,y2,y3,y4,rfl,⟨xs,hc,hn,hcs⟩,h2,h3,h4⟩:=hb;cases hpp:s.policy with
 |mk pid pset palg ptgt prules pkids pobls=>
 have hcC:gq (.mk pid pset palg ptgt prules pkids pobls)= [.s pid,.b pset,.i palg,aV ptgt,.sl (prules.map aC) .no,.sl (pkids.map aO) .no,ay pobls]:=ahF;rw[hpp,hcC]at hb0;refine aeB func84 67 [.tmp 4] fun hwf=>?_
 simp only[go_sem,hcC,opA,opC,List.cons_append,List.nil_append];intro i1 h1;simp only[go_sem];intro i2 h2';have n21:=aI h2';have n2:=aB h2';simp only[go_sem,ak,n21.symm];have hs:∀a b,Ab.Sub h (upd (upd h i1 a) i2 b):=fun a b=>((Sub.refl h).put h1 a).put n2 b
 refine(Co (hb0.sub (hs _ _)) o.case hf).pthen ?_;simp only[go_sem,cu,nU,gI,tf];intro i3 h3';have n32:=aI h3';have h3b:=aB h3';have n31:=aI h3b;have n3:=aB h3b;have hs3:∀a b d,Ab.Sub h (upd (upd (upd h i1 a) i2 b) i3 d):=fun a b d=>(((Sub.refl h).put h1 a).put n2 b).put n3 d
 have hA:=(fun a b d=>Sub.trans (Sub.refl h) (hs3 a b d))
 simp only[go_sem,ak,n32.symm];have hfl:(bw s.cases o.case).fields.length≤1000000000:=by
  unfold bw;split
  ·rename_i ht
   have hlt:=jW ht;rw[List.getD_eq_getElem?_getD,List.getElem?_eq_getElem hlt];exact Nat.le_trans (hf.fields _ (aex hlt)) aeG
  decide
 cases d1:bZ s.cases o.case
 ·simp only[go_sem]
  exact .mk _ (.refl _) (hs3 _ _ _) ⟨by simp only[bT,d1];rfl,rfl⟩
 ·simp only[go_sem,ak,n32.symm]
  cases k3:(o.kind==3)
  ·have p3:o.kind≠3:=by grind
   simp only[go_sem];cases k2:(o.kind==2)
   ·have p2:o.kind≠2:=by grind
    have k2n:(o.kind !=2)=true:=aeD;cases d256:decide ((256:Int)≤((bw s.cases o.case).log.length:Int))
    ·have p256:¬256≤(bw s.cases o.case).log.length:=by grind
     simp only[go_sem,ak,n32.symm,aes,k3,k2n,d256];cases k4:(o.kind==4)
     ·have p4:o.kind≠4:=by grind
      exact aiZ
     ·have p4:o.kind=4:=by grind
      simp only[go_sem,ak,n32.symm];refine(Gm _ _ _).pthen ?_;cases dfo:nq (bw s.cases o.case).state o.to
      ·exact aiZ
      ·exact aiZ
    ·have p256:256≤(bw s.cases o.case).log.length:=by grind
     simp only[go_sem,aes,k2n,d256];exact .mk _ (.refl _) (hs3 _ _ _) ⟨agl,rfl⟩
   ·have p2:o.kind=2:=by grind
    have k2n:(o.kind !=2)=false:=aeD;simp only[go_sem,ak,n32.symm,k3,k2n];cases k4:(o.kind==4)
    ·have p4:o.kind≠4:=by omega
     exact aiZ
    ·have p4:o.kind=4:=by grind
     omega
  ·have p3:o.kind=3:=by grind
   cases d16:decide ((16:Int)≤((bw s.cases o.case).fields.length:Int))
   ·have p16:¬16≤(bw s.cases o.case).fields.length:=by grind
    simp only[go_sem,aes,d16];exact aiS
   ·have p16:16≤(bw s.cases o.case).fields.length:=by grind
    simp only[go_sem,ak,n32.symm,aes,d16];refine(DS (show RdC _ (.agg [.s (bw s.cases o.case).id,.s (bw s.cases o.case).owner,.s (bw s.cases o.case).state,AV.sl ((bw s.cases o.case).fields.map bN) .no,AV.sl ((bw s.cases o.case).log.map iW) .no]) (bw s.cases o.case)from rdC _ _) o.field hfl).pthen ?_
    simp only[go_sem,aS];cases dv:((dU (bw s.cases o.case).fields o.field).kind==(0:Int) && ((dU (bw s.cases o.case).fields o.field).n==(0:Int) && (dU (bw s.cases o.case).fields o.field).s==([]:Txt)))
    ·have pv:eqV (dU (bw s.cases o.case).fields o.field) aq=false:=dv
     simp only[go_sem];exact aiS
    ·have pv:eqV (dU (bw s.cases o.case).fields o.field) aq=true:=dv
     exact aiZ
theorem AK(hb:RdS h x s)(o:OpD)(hf:Few s)(h0:0<o.review)(hr:o.review≤9223372036854775807):ai prog 85 [x,opA o] h fun r h' =>r= .i (fB s o)∧h' =h:=by
 obtain⟨y1,y2,y3,y4,rfl,⟨xs,hc,hn,hcs⟩,h2,h3,h4⟩:=hb;cases hpp:s.policy with
 |mk pid pset palg ptgt prules pkids pobls=>
 have hcC:gq (.mk pid pset palg ptgt prules pkids pobls)= [.s pid,.b pset,.i palg,aV ptgt,.sl (prules.map aC) .no,.sl (pkids.map aO) .no,ay pobls]:=ahF;have hfr:=hf.reviews;refine aeB func85 35 [.tmp 4] fun hwf=>?_
 simp only[go_sem,hcC,opA,opC,List.cons_append,List.nil_append];intro i1 h1;simp only[go_sem];intro i2 h2';have n21:=aI h2';have n2:=aB h2';have hs:∀a b,Ab.Sub h (upd (upd h i1 a) i2 b):=fun a b=>((Sub.refl h).put h1 a).put n2 b
 simp only[go_sem,ak,n21.symm,h2.len,aes];obtain⟨n,en⟩:∃n:Nat,o.review=((n:Nat):Int)+1:=⟨(o.review - 1).toNat,aeC⟩;have e1:xo s.reviews o.review=s.reviews[n]? :=by
  unfold xo;rw[if_pos aeC,show(o.review - 1).toNat=n by omega]
 have w1:IntKind.i64.wrap (o.review - 1)=((n:Nat):Int):=aeN;cases dlt:decide ((s.reviews.length:Int)<o.review)
 ·have hlt:n<s.reviews.length:=by grind
  have hgl:xo s.reviews o.review=some s.reviews[n]:=aeD;simp only[go_sem,ak,n21.symm,w1];refine h2.idx (e:=134) n rfl aeD aeR aeG fun p hp1=>?_
  simp only[go_sem];refine hp1.field (f:=6) (off:=6) (t:=4) rfl aeG fun p2 hp2=>?_
  have hld:=fun a b=>(hp2.sub (hs a b)).part (U:=U) (ty:=4) aeG (by rw[aet,show(U 4).sz=1 by rfl];exact aer rfl)
  simp only[go_sem,hld,aet,jb];cases dop:s.reviews[n].isOpen
  ·exact ajp
  ·simp only[go_sem,ak,n21.symm]
   refine⟨.of aeF,?_⟩;simp only[go_sem,w1];refine h2.idx (e:=134) n rfl aeD aeR aeG fun p hp1=>?_
   simp only[go_sem];refine hp1.field (f:=2) (off:=2) (t:=9) rfl Lt fun p2 hp2=>?_
   have hld:=fun a b=>(hp2.sub (hs a b)).part (U:=U) (ty:=9) Lt (by rw[aet,OC];exact aer rfl)
   simp only[go_sem,hld,aet,jb];cases dsu:(s.reviews[n].subj==o.subj)
   ·have psu:s.reviews[n].subj≠o.subj:=by grind
    exact ajp
   ·have psu:s.reviews[n].subj=o.subj:=by grind
    exact ajp
 ·have hge:¬n<s.reviews.length:=by grind
  have hgn:xo s.reviews o.review=none:=aeD;exact ajp
theorem E8(hb:RdS h x s)(o:OpD)(hf:Few s)(hr:i64 o.review)(ht:i64 s.tick):ai prog 40 [x,opA o] h fun r h' =>r= .i (bI s o)∧h' =h:=by
 have hb0:=hb;have hfo:=Cw o;have hrc:=fun(G:Heap) (hG:Ab.Sub h G)=>CX (hb.sub hG) o hf
 have hrl:=fun(G:Heap) (hG:Ab.Sub h G) (a:0<o.review)=>AK (hb.sub hG) o hf a hr.2
 have hfi:=fun(G:Heap) (hG:Ab.Sub h G)=>Cu (hb.sub hG) o.case hf.cases
 have hha:=fun(G:Heap) (hG:Ab.Sub h G)=>Gx (hb.sub hG) o.case o.field (Nat.le_trans hf.roles aeG)
 obtain⟨y1,y2,y3,y4,rfl,⟨xs,hc,hn,hcs⟩,h2,h3,h4⟩:=hb;cases hpp:s.policy with
 |mk pid pset palg ptgt prules pkids pobls=>
 have hcC:gq (.mk pid pset palg ptgt prules pkids pobls)= [.s pid,.b pset,.i palg,aV ptgt,.sl (prules.map aC) .no,.sl (pkids.map aO) .no,ay pobls]:=ahF;rw[hpp,hcC]at hb0 hrc hrl hfi hha;simp only[opA,opC,List.cons_append,List.nil_append]at hfo hrc hrl hfi hha;refine aeB func40 63 [.tmp 4] fun hwf=>?_
 simp only[go_sem,hcC,opA,opC,List.cons_append,List.nil_append];intro i1 h1;simp only[go_sem];intro i2 h2';have n21:=aI h2';have n2:=aB h2';have hs:∀a b,Ab.Sub h (upd (upd h i1 a) i2 b):=fun a b=>((Sub.refl h).put h1 a).put n2 b
 simp only[go_sem];refine(hfo _).pthen ?_;cases dform:cN o
 ·exact aiX
 ·simp only[go_sem]
  have hok:okD o=true:=by simp_all [cN,dW,Bool.and_eq_true]
  by_cases p1:o.kind=1
  ·have k1:(o.kind==1)=true:=by grind
   simp only[go_sem,ak,n21.symm,k1];refine(hfi _ (hs _ _)).pthen ?_;cases dth:bZ s.cases o.case
   ·simp only[go_sem,ak,n21.symm,hc.len,hn]
    cases d64:decide ((64:Int)≤(s.cases.length:Int))
    ·have p64:¬64≤s.cases.length:=by grind
     exact aiX
    ·have p64:64≤s.cases.length:=by grind
     exact aiX
   ·exact aiX
  have k1:(o.kind==1)=false:=aeD;simp only[go_sem,k1]
  by_cases p2:o.kind=2
  ·have k2:(o.kind==2)=true:=by grind
   simp only[go_sem,ak,n21.symm,k2];refine(hrc _ (hs _ _)).pthen ?_;exact aiX
  have k2:(o.kind==2)=false:=aeD;simp only[go_sem,k2]
  by_cases p3:o.kind=3
  ·have k3:(o.kind==3)=true:=by grind
   simp only[go_sem,ak,n21.symm,k3];refine(hrc _ (hs _ _)).pthen ?_;exact aiX
  have k3:(o.kind==3)=false:=aeD;simp only[go_sem,k3]
  by_cases p4:o.kind=4
  ·have k4:(o.kind==4)=true:=by grind
   simp only[go_sem,ak,n21.symm,k4];refine(hrc _ (hs _ _)).pthen ?_;exact aiX
  have k4:(o.kind==4)=false:=aeD;simp only[go_sem,k4]
  by_cases p5:o.kind=5
  ·have k5:(o.kind==5)=true:=by grind
   simp only[go_sem,ak,n21.symm,k5];have hrv:0<o.review:=by grind [okD]
   refine(hrl _ (hs _ _) hrv).pthen ?_;exact aiX
  have k5:(o.kind==5)=false:=aeD;simp only[go_sem,k5]
  by_cases p6:o.kind=6
  ·have k6:(o.kind==6)=true:=by grind
   simp only[go_sem,ak,n21.symm,k6];simp only[go_sem,h4.len,aes];cases d64:decide ((64:Int)≤(s.roles.length:Int))
   ·have p64:¬64≤s.roles.length:=by grind
    exact aiX
   ·have p64:64≤s.roles.length:=by grind
    simp only[go_sem,ak,n21.symm];refine(hha _ (hs _ _)).pthen ?_;cases dha:yZ s.roles ⟨o.case,o.field⟩
    ·exact aiX
    ·exact aiX
  have k6:(o.kind==6)=false:=aeD;simp only[go_sem,k6]
  by_cases p8:o.kind=8
  ·have k8:(o.kind==8)=true:=by grind
   simp only[go_sem,ak,n21.symm,k8];have hrv:0<o.review∧o.review≤1099511627776:=by grind [okD]
   have w1:IntKind.i64.wrap (1099511627776 - o.review)=1099511627776 - o.review:=aW _ aeC;cases dt:decide (1099511627776 - o.review<s.tick)
   ·have pt:¬1099511627776 - o.review<s.tick:=aev dt
    simp only[go_sem,w1,dt];exact .mk _ (.refl _) (hs _ _) ⟨af9,rfl⟩
   ·have pt:1099511627776 - o.review<s.tick:=aeu dt
    simp only[go_sem,w1,dt];exact .mk _ (.refl _) (hs _ _) ⟨af9,rfl⟩
  have k8:(o.kind==8)=false:=aeD;simp only[go_sem,k8];exact .mk _ (.refl _) (hs _ _) ⟨by have:¬(2≤o.kind∧o.kind≤4):=aeC;simp only[bI,dform,p1,p5,p6,p8,this,if_false,Bool.true_eq_false,ax],rfl⟩
end Go.Proofs.YtelkmnkejghkeaaGreatDoor
namespace Go.Bf
open Go Go.Ab
variable {s:Txt}
structure qC where
 kind:Int
 pos:Int
 n:Int
 s:Txt
variable {ts:List qC}
def fL(t:qC):AV:=.agg [.i t.kind,.i t.pos,.i t.n,.s t.s]
def wrd(c:UInt8):Bool:=ltr c||dgt c||(c.toNat:Int)==95
def mI(l:Txt):Nat:=l.foldl (fun n c=>n*10+(c.toNat - 48)) 0
def fc(neg:Bool)(s:Txt):Int×Nat:=
 let d:=s.takeWhile dgt
 if d= []∨(1<d.length∧s.head? =some 48)then(0,0)else
 let v:Int:=if neg then -(mI d:Int)else(mI d:Int)
 if -9223372036854775808≤v∧v≤9223372036854775807 then(v,d.length)else(0,0)
def jX(s:Txt):Txt:=if bp (s.takeWhile wrd)then s.takeWhile wrd else []
def jY(c:UInt8):Int:=if dgt c then(c.toNat:Int) - 48 else if 97≤(c.toNat:Int)∧(c.toNat:Int)≤102 then(c.toNat:Int) - 87 else -1
def ux:Txt→Option UInt8
 |b::x::y::_=>if b=92∧0≤jY x∧0≤jY y∧uw (UInt8.ofNat (16*jY x+jY y).toNat)=true then some (UInt8.ofNat (16*jY x+jY y).toNat)else none
 |_=>none
def uY:Nat→Txt→Nat→Txt→Txt×Nat
 |0,_,_,_=>([],0)
 |_+1,[],_,_=>([],0)
 |f+1,c::r,at_,out=>
  if c=34 then(if 64<out.length then([],0)else(out,at_+1))
  else if uw c=false then uY f r (at_+1) (out++ [c])
  else match ux (c::r)with
   |some b=>uY f (r.drop 2) (at_+3) (out++ [b])
   |none=>([],0)
def Aa(s:Txt):Txt×Nat:=uY s.length (s.drop 1) 1 []
def Ey(c:UInt8):Bool:=c∈([123,125,40,41,46,44,59,61,60,62,33]:Txt)
def bM(s:Txt):qC×Nat:=
 let c:=s.headD 0
 if ltr c then(⟨1,0,0,jX s⟩,(jX s).length)
 else if dgt c then(⟨2,0,(fc false s).1,[]⟩,(fc false s).2)
 else if c=45 then(⟨2,0,(fc true (s.drop 1)).1,[]⟩,if(fc true (s.drop 1)).1=0 then 0 else(fc true (s.drop 1)).2+1)
 else if c=64 then(⟨3,0,(fc false (s.drop 1)).1,[]⟩,if(fc false (s.drop 1)).2=0∨(fc false (s.drop 1)).1>1099511627776 then 0 else(fc false (s.drop 1)).2+1)
 else if c=35 then(⟨4,0,0,jX (s.drop 1)⟩,if jX (s.drop 1)= []then 0 else(jX (s.drop 1)).length+1)
 else if c=34 then(⟨5,0,0,(Aa s).1⟩,(Aa s).2)
 else if Ey c then(⟨6,0,0,[c]⟩,1)
 else(⟨0,0,0,[]⟩,0)
inductive Lexed where
 |bad (e:Int) (at_:Int)
 |ok (l:List qC)
def qQ(c:UInt8):Bool:=(c.toNat:Int)==32||(c.toNat:Int)==10
def qF:Nat→Txt→Nat→List qC→Lexed
 |0,_,at_,_=> .bad 5 at_
 |_+1,[],at_,out=> .ok (out++ [⟨7,at_,0,[]⟩])
 |f+1,c::r,at_,out=>
  if qQ c then qF f r (at_+1) out
  else if(bM (c::r)).2=0 then .bad 5 at_
  else qF f ((c::r).drop (bM (c::r)).2) (at_+(bM (c::r)).2) (out++ [{(bM (c::r)).1 with pos:=at_}])
def pR(s:Txt):Lexed:=if s.length>4096 then .bad 6 4096 else qF (s.length+1) s 0 []
theorem kH(p:UInt8→Bool)(s:Txt):(s.takeWhile p).length≤s.length:=(List.takeWhile_prefix p).length_le
theorem rR(p:UInt8→Bool)(s:Txt):s.take (s.takeWhile p).length=s.takeWhile p:=by
 obtain⟨t,ht⟩:=List.takeWhile_prefix (l:=s) p
 grind
theorem pV(neg:Bool)(s:Txt):(fc neg s).2≤s.length:=by
 have:=kH dgt s;unfold fc;simp only;split
 ·exact agH
 ·generalize (if neg=true then -(mI (s.takeWhile dgt):Int)else(mI (s.takeWhile dgt):Int))=v
  split
  ·exact afk
  ·exact agH
theorem ve(s:Txt):(jX s).length≤s.length:=by grind [kH,wrd,jX]
theorem EJ{b:UInt8}(h:ux s=some b):3≤s.length:=by
 match s,h with
 |_::_::_::_,_=>simp
theorem Ac:∀(f:Nat) (r:Txt) (at_:Nat) (out:Txt),(uY f r at_ out).2≤at_+r.length
 |0,_,_,_=>by simp[uY]
 |_+1,[],_,_=>by simp[uY]
 |f+1,c::r,at_,out=>by
  simp only[uY];split
  ·grind
  ·split
   ·have:=Ac f r (at_+1) (out++ [c]);simp only[List.length_cons];omega
   ·split
    ·rename_i b hb
     have h3:=EJ hb;have:=Ac f (r.drop 2) (at_+3) (out++ [b]);simp only[List.length_cons,List.length_drop]at this h3⊢;omega
    ·simp
theorem sP(s:Txt)(hs:s≠ []):(bM s).2≤s.length:=by
 have h1:1≤s.length:=aeD;have hd:(s.drop 1).length=s.length - 1:=aeJ;have k1:=ve s;have k2:=ve (s.drop 1);have k3:=pV false s;have k4:=pV false (s.drop 1);have k5:=pV true (s.drop 1);have k6:=Ac s.length (s.drop 1) 1 [];unfold bM;simp only;split
 ·exact k1
 split
 ·exact k3
 split
 ·simp only;split<;>omega
 split
 ·simp only;split<;>omega
 split
 ·simp only;split<;>omega
 split
 ·simp only[Aa];omega
 split
 ·simp only;omega
 ·simp
structure PS where
 ts:List qC
 pos:Nat
 rules:Nat
 bad:Int
 place:Int
variable {st a c:PS}
def aL(st:PS):qC:=st.ts.getD st.pos ⟨7,0,0,[]⟩
def bH(st:PS)(e p:Int):PS:=if st.bad=0 then {st with bad:=e,place:=p} else st
def br(st:PS):PS:=bH st 5 (aL st).pos
def bE(st:PS)(more:Bool):PS:=if more then bH st 6 (aL st).pos else st
def isD(st:PS)(s:Txt):Bool:=st.bad==0 && ((aL st).s==s && ((aL st).kind==1||(aL st).kind==6))
def bh(st:PS):PS:={st with pos:=st.pos+1}
def cq(st:PS)(s:Txt):Bool×PS:=if isD st s=true then(true,bh st)else(false,st)
def eu(st:PS)(s:Txt):PS:=if isD st s=true then bh st else br st
def cp(st:PS):Txt×PS:=
 if(aL st).kind=1∧st.bad=0 then((aL st).s,bh st)else([],if(aL st).kind=1 then st else br st)
def vB(s:Txt):List Txt→Option Nat
 | []=>none
 |w::r=>if w=s then some 0 else(vB s r).map (· +1)
def aZ(st:PS)(ws:List Txt):Int×PS:=match vB (aL st).s ws with
 |some i=>if(aL st).kind=1∧st.bad=0 then((i:Int)+1,bh st)else(0,br st)
 |none=>(0,br st)
def WfP(st:PS):Prop:=st.pos<st.ts.length∧(∀i (h:i<st.ts.length),st.ts[i].kind≠7→i+1<st.ts.length)∧st.ts.length≤5000
theorem Eb(h:st.pos<st.ts.length):aL st=st.ts[st.pos]:=by grind [aL,List.getElem?_eq_getElem]
theorem LC(e p:Int)(h:WfP st):WfP (bH st e p):=by unfold bH;split<;>exact h
theorem OL(h:WfP st)(hk:(aL st).kind≠7):WfP (bh st):=by rw[Eb h.1]at hk;exact⟨h.2.1 _ h.1 hk,h.2⟩
theorem dK(h:isD st s=true):(aL st).kind≠7:=by simp only[isD,Bool.and_eq_true,Bool.or_eq_true,beq_iff_eq]at h;omega
def Ah(st st' :PS):Prop:=WfP st'∧st'.ts=st.ts∧st.pos≤st'.pos
theorem Ah.refl(h:WfP st):Ah st st:=⟨h,rfl,Nat.le_refl _⟩
theorem Ah.trans{b:PS}(x:Ah a b)(y:Ah b c):Ah a c:=⟨y.1,y.2.1.trans x.2.1,Nat.le_trans x.2.2 y.2.2⟩
theorem yu(e p:Int)(h:WfP st):Ah st (bH st e p):=⟨LC e p h,by grind [bH],by unfold bH;grind⟩
theorem fo(h:WfP st)(hk:(aL st).kind≠7):Ah st (bh st):=⟨OL h hk,rfl,Nat.le_succ _⟩
theorem oT(h:WfP st):Ah st (br st):=yu _ _ h
theorem lJ(b:Bool)(h:WfP st):Ah st (bE st b):=by
 unfold bE;split
 ·grind [yu]
 ·exact agX
theorem O8(s:Txt)(h:WfP st):Ah st (cq st s).2:=by
 unfold cq;split
 ·grind [fo,dK]
 ·exact agX
theorem jC(s:Txt)(h:WfP st):Ah st (eu st s):=by grind [eu,fo,dK,oT]
theorem nQ(h:WfP st):Ah st (cp st).2:=by
 unfold cp;split
 ·grind [fo]
 ·simp only;split
  ·exact agX
  grind [oT]
theorem gN(ws:List Txt)(h:WfP st):Ah st (aZ st ws).2:=by grind [aZ,fo,oT]
def wC:List Txt:=[[115,117,98,106,101,99,116],[97,99,116,105,111,110],[99,97,115,101],[101,110,118]]
def gp(st:PS):qI×PS:=
 (⟨(aZ st wC).1,(cp (eu (aZ st wC).2 [46])).1,(cq (cp (eu (aZ st wC).2 [46])).2 [33]).1⟩,(cq (cp (eu (aZ st wC).2 [46])).2 [33]).2)
theorem Ce(h:WfP st):Ah st (gp st).2:=by have h1:=gN wC h;have h2:=jC [46] h1.1;have h3:=nQ h2.1;exact((h1.trans h2).trans h3).trans (O8 [33] h3.1)
def xA:Txt:=[116,114,117,101]
def qZ:Txt:=[102,97,108,115,101]
def gm(st:PS):bu×PS:=
 if(aL st).kind=2 then(⟨2,(aL st).n,(aL st).s⟩,st)
 else if(aL st).kind=3 then(⟨4,(aL st).n,(aL st).s⟩,st)
 else if(aL st).kind=4 then(⟨5,(aL st).n,(aL st).s⟩,st)
 else if(aL st).kind=5 then(⟨3,(aL st).n,(aL st).s⟩,st)
 else if isD st xA then(⟨1,1,[]⟩,st)
 else if isD st qZ then(⟨1,0,[]⟩,st)
 else(⟨0,(aL st).n,(aL st).s⟩,br st)
def aD(st:PS):bu×PS:=if(gm st).2.bad=0 then((gm st).1,bh (gm st).2)else(⟨0,0,[]⟩,(gm st).2)
theorem sw(st:PS):(br st).bad≠0:=by grind [br,bH,Int]
theorem u7(st:PS):(gm st).2=st∧(aL st).kind≠7∨(gm st).2=br st:=by
 unfold gm;split
 ·grind
 split
 ·grind
 split
 ·grind
 split
 ·grind
 split
 ·rename_i h;exact .inl ⟨rfl,dK h⟩
 split
 ·rename_i h;exact .inl ⟨rfl,dK h⟩
 simp
theorem Dh(h:WfP st):Ah st (aD st).2:=by
 unfold aD;rcases u7 st with⟨e,hk⟩|e
 ·rw[e];split
  ·grind [fo]
  ·exact agX
 simp_all [if_neg,sw,oT]
def opP(st:PS):Int×PS:=
 if isD st [61]then(1,bh st)else if isD st [60]then(2,bh st)else if isD st [62]then(3,bh st)else(0,br st)
theorem Vv(h:WfP st):Ah st (opP st).2:=by grind [opP,fo,dK,oT]
def gJ(st:PS):bP×PS:=(⟨(gp st).1,(opP (gp st).2).1,(aD (opP (gp st).2).2).1⟩,(aD (opP (gp st).2).2).2)
theorem qL(h:WfP st):Ah st (gJ st).2:=by have h1:=Ce h;have h2:=Vv h1.1;exact(h1.trans h2).trans (Dh h2.1)
def fZ{α:Type}(one:PS→α×PS)(w:Txt)(most:Nat):Nat→PS→List α→List α×PS
 |0,st,l=>(l,st)
 |f+1,st,l=>if isD st w=true then fZ one w most f (bE (one (bh st)).2 (decide (most<l.length+1))) (l++ [(one (bh st)).1])else(l,st)
theorem tP{α:Type}{one:PS→α×PS}(ho:∀st,WfP st→Ah st (one st).2)(w:Txt)(most:Nat):∀(f:Nat) (st:PS) (l:List α),WfP st→Ah st (fZ one w most f st l).2
 |0,st,l,h=> .refl h
 |f+1,st,l,h=>by
  unfold fZ;split
  ·rename_i hi
   have h1:=fo h (dK hi);have h2:=ho _ h1.1;have h3:=lJ (decide (most<l.length+1)) h2.1;exact((h1.trans h2).trans h3).trans (tP ho w most f _ _ h3.1)
  ·exact agX
def orT:Txt:=[111,114]
def Dk:Txt:=[97,110,100]
def FC:Txt:=[119,104,101,110]
def qD(st:PS):List bP×PS:=fZ gJ [44] 8 st.ts.length (gJ st).2 [(gJ st).1]
theorem Cc(h:WfP st):Ah st (qD st).2:=(qL h).trans (tP (fun _ h=>qL h) _ _ _ _ _ (qL h).1)
def sC(st:PS):List (List bP)×PS:=
 let a:=qD (eu st [40])
 let m:=fZ qD orT 8 st.ts.length a.2 [a.1]
 (m.1,eu m.2 [41])
theorem Cd(h:WfP st):Ah st (sC st).2:=by
 have h0:=jC [40] h;have h1:=Cc h0.1;have h2:=tP (fun _ h=>Cc h) orT 8 st.ts.length _ [(qD (eu st [40])).1] h1.1
 exact((h0.trans h1).trans h2).trans (jC [41] h2.1)
def ia(st:PS):gv×PS:=if isD st FC=true then fZ sC Dk 8 st.ts.length (sC (bh st)).2 [(sC (bh st)).1]else([],st)
theorem Ci(h:WfP st):Ah st (ia st).2:=by
 unfold ia;split
 ·rename_i hi
  have h0:=fo h (dK hi);have h1:=Cd h0.1;exact(h0.trans h1).trans (tP (by grind [Cd]) _ _ _ _ _ h1.1)
 ·exact agX
def mu:List Txt:=[[111,110,101],[115,105,122,101],[104,97,115],[101,113],[108,101,115,115],[97,100,100],[115,117,98],[109,117,108],[110,111,116],[97,110,100],[111,114]]
def opers(op:Int):List Bool:=if op=3∨op=4 then [true]else if op=5 then [true,false]else if op=11 then [false]else [false,false]
abbrev ExF:=PS→List aR→(List aR×Bool)×PS
variable {ex:ExF}
def iN(ex:ExF)(st:PS)(l:List aR)(must:Bool):List aR×PS:=
 ((ex st l).1.1,if(ex st l).1.2=must then(ex st l).2 else bH (ex st l).2 5 (aL st).pos)
def jJ(ex:ExF):List Bool→PS→List aR→List aR×PS
 | [],st,l=>(l,st)
 |b::bs,st,l=>if st.bad=0 then jJ ex bs (iN ex st l b).2 (iN ex st l b).1 else(l,st)
def ri(ex:ExF)(st:PS)(l:List aR):(List aR×aR)×PS:=
 (((jJ ex (opers (2+(aZ st mu).1)) (aZ st mu).2 l).1,⟨2+(aZ st mu).1,⟨0,0,[]⟩,⟨0,[],false⟩⟩),eu (jJ ex (opers (2+(aZ st mu).1)) (aZ st mu).2 l).2 [41])
def jv(ex:ExF)(st:PS)(l:List aR):(List aR×aR)×PS:=
 if isD st [40]=true then ri ex (bh st) l
 else if(aL st).kind=1∧(aL st).s≠xA∧(aL st).s≠qZ then((l,⟨2,⟨0,0,[]⟩,(gp st).1⟩),(gp st).2)
 else((l,⟨1,(aD st).1,⟨0,[],false⟩⟩),(aD st).2)
def eU:Nat→ExF
 |0,st,l=>((l,false),st)
 |f+1,st,l=>(((jv (eU f) st l).1.1++ [(jv (eU f) st l).1.2],(jv (eU f) st l).1.2.op==2),bE (jv (eU f) st l).2 (decide (32<(jv (eU f) st l).1.1.length+1)))
def FI(ex:ExF):Prop:=∀st l,WfP st→Ah st (ex st l).2∧(ex st l).1.1.length+2*st.pos≤l.length+2*(ex st l).2.pos+1
theorem zD(he:FI ex)(st:PS)(l:List aR)(b:Bool)(h:WfP st):Ah st (iN ex st l b).2∧(iN ex st l b).1.length+2*st.pos≤l.length+2*(iN ex st l b).2.pos+1:=by
 obtain⟨h1,h2⟩:=he st l h;unfold iN;split
 ·grind
 ·refine⟨h1.trans (yu _ _ h1.1),?_⟩
  grind [bH,aL]
theorem BE{ex:ExF}(he:FI ex):∀(bs:List Bool) (st:PS) (l:List aR),WfP st→Ah st (jJ ex bs st l).2∧(jJ ex bs st l).1.length+2*st.pos≤l.length+2*(jJ ex bs st l).2.pos+bs.length
 | [],st,l,h=>⟨.refl h,by simp[jJ]⟩
 |b::bs,st,l,h=>by
  unfold jJ;split
  ·obtain⟨h1,h2⟩:=zD he st l b h
   obtain⟨h3,h4⟩:=BE he bs (iN ex st l b).2 (iN ex st l b).1 h1.1;exact⟨h1.trans h3,aeD⟩
  ·exact⟨.refl h,aeJ⟩
theorem EN(op:Int):(opers op).length≤2:=by grind [opers]
theorem MM(he:FI ex)(st:PS)(l:List aR)(h:WfP st):Ah st (ri ex st l).2∧(ri ex st l).1.1.length+2*st.pos≤l.length+2*(ri ex st l).2.pos+2:=by have h1:=gN mu h;obtain⟨h2,h3⟩:=BE he (opers (2+(aZ st mu).1)) _ l h1.1;have h4:=jC [41] h2.1;have:=EN (2+(aZ st mu).1);have p1:=h1.2.2;have p4:=h4.2.2;unfold ri;exact⟨(h1.trans h2).trans h4,aeD⟩
theorem Ea(he:FI ex)(st:PS)(l:List aR)(h:WfP st):Ah st (jv ex st l).2∧(jv ex st l).1.1.length+2*st.pos≤l.length+2*(jv ex st l).2.pos:=by
 unfold jv;split
 ·rename_i hi
  have h1:=fo h (dK hi);obtain⟨h2,h3⟩:=MM he _ l h1.1;have:(bh st).pos=st.pos+1:=rfl;exact⟨h1.trans h2,aeC⟩
 ·split
  ·have h1:=Ce h
   have:=h1.2.2;exact⟨h1,aeD⟩
  ·have h1:=Dh h
   have:=h1.2.2;exact⟨h1,aeD⟩
theorem qY:∀f,FI (eU f)
 |0=>fun st l h=>⟨.refl h,by simp[eU]⟩
 |f+1=>fun st l h=>by
  obtain⟨h1,h2⟩:=Ea (qY f) st l h;have h3:=lJ (decide (32<(jv (eU f) st l).1.1.length+1)) h1.1;have:=h3.2.2;refine⟨h1.trans h3,?_⟩
  grind [eU,aew,List.length_singleton]
def vK:List Txt:=[[112,101,114,109,105,116],[100,101,110,121]]
def ni:List Txt:=[[108,111,103],[114,101,100,97,99,116],[114,101,118,105,101,119],[110,111,116,105,102,121]]
def xj:Txt:=[111,110]
def AG(st:PS):cB×PS:=
 (⟨(aZ st vK).1,(aZ (aZ st vK).2 ni).1,(cp (aZ (aZ st vK).2 ni).2).1⟩,(cp (aZ (aZ st vK).2 ni).2).2)
theorem LW(h:WfP st):Ah st (AG st).2:=by have h1:=gN vK h;have h2:=gN ni h1.1;exact(h1.trans h2).trans (nQ h2.1)
def gD(st:PS):List cB×PS:=fZ AG xj 8 st.ts.length st []
theorem Cg(h:WfP st):Ah st (gD st).2:=tP (fun _ h=>LW h) _ _ _ _ _ h
inductive Rch (a:PS):PS→Prop where
 |refl:Rch a a
 |wrong {b:PS} (e p:Int):Rch a b→(e=5∨e=6)→(∃i,i≤b.pos∧p=(b.ts.getD i ⟨7,0,0,[]⟩).pos)→Rch a (bH b e p)
 |next {b:PS}:Rch a b→b.bad=0→(aL b).kind≠7→Rch a (bh b)
theorem Rch.trans{b:PS}(x:Rch a b)(y:Rch b c):Rch a c:=by
 induction y with
 |refl=>exact x
 |wrong e p _ h1 h2 ih=>grind [wrong]
 |next _ h1 h2 ih=>grind [next]
theorem kZ(st:PS):Rch st (br st):=.wrong _ _ .refl (.inl rfl) ⟨st.pos,Nat.le_refl _,rfl⟩
theorem sk(st:PS)(b:Bool):Rch st (bE st b):=by
 unfold bE;split
 ·exact .wrong _ _ .refl (.inr rfl) ⟨st.pos,Nat.le_refl _,rfl⟩
 ·exact ag3
theorem IB(h:isD st s=true):st.bad=0:=by simp_all [isD,Bool.and_eq_true,beq_iff_eq]
theorem tC(h:isD st s=true):Rch st (bh st):=.next .refl (IB h) (dK h)
theorem NZ(st:PS)(s:Txt):Rch st (cq st s).2:=by
 unfold cq;split
 ·grind [tC]
 ·exact ag3
theorem nI(st:PS)(s:Txt):Rch st (eu st s):=by grind [eu,tC,kZ]
theorem uQ(st:PS):Rch st (cp st).2:=by
 unfold cp;split
 ·rename_i h;exact .next .refl h.2 aeC
 ·simp only;split
  ·exact ag3
  grind [kZ]
theorem mV(st:PS)(ws:List Txt):Rch st (aZ st ws).2:=by
 unfold aZ;split
 ·split
  ·rename_i h;exact .next .refl h.2 aeC
  grind [kZ]
 grind [kZ]
theorem E1(st:PS):Rch st (gp st).2:=(((mV st wC).trans (nI _ [46])).trans (uQ _)).trans (NZ _ [33])
theorem BO(st:PS):Rch st (aD st).2:=by
 unfold aD;rcases u7 st with⟨e,hk⟩|e
 ·rw[e];split
  ·rename_i h;exact .next .refl h hk
  ·exact ag3
 simp_all [if_neg,sw,kZ]
theorem TB(st:PS):Rch st (opP st).2:=by grind [opP,tC,kZ]
theorem BM(st:PS):Rch st (gJ st).2:=((E1 st).trans (TB _)).trans (BO _)
theorem rL{α:Type}{one:PS→α×PS}(ho:∀st,Rch st (one st).2)(w:Txt)(most:Nat):∀(f:Nat) (st:PS) (l:List α),Rch st (fZ one w most f st l).2
 |0,st,l=> .refl
 |f+1,st,l=>by
  unfold fZ;split
  ·rename_i h
   exact(((tC h).trans (ho _)).trans (sk _ _)).trans (rL ho w most f _ _)
  ·exact ag3
theorem I4(st:PS):Rch st (qD st).2:=(BM st).trans (rL BM _ _ _ _ _)
theorem I5(st:PS):Rch st (sC st).2:=(((nI st [40]).trans (I4 _)).trans (rL I4 orT 8 st.ts.length _ [(qD (eu st [40])).1])).trans (nI _ [41])
theorem I6(st:PS):Rch st (ia st).2:=by
 unfold ia;split
 ·rename_i h;exact((tC h).trans (I5 _)).trans (rL I5 _ _ _ _ _)
 ·exact ag3
theorem Qt(st:PS):Rch st (AG st).2:=((mV st vK).trans (mV _ ni)).trans (uQ _)
theorem E5(st:PS):Rch st (gD st).2:=rL Qt _ _ _ _ _
theorem sn{b:PS}(h:Rch a b):b.ts=a.ts∧a.pos≤b.pos∧b.rules=a.rules:=by
 induction h with
 |refl=>simp
 |wrong e p _ _ _ ih=>
  grind [bH]
 |next _ _ _ ih=>exact⟨ih.1,Nat.le_succ_of_le ih.2.1,ih.2.2⟩
theorem E6(he:∀st l,Rch st (ex st l).2)(st:PS)(l:List aR)(b:Bool):Rch st (iN ex st l b).2:=by
 unfold iN;simp only;split
 ·grind
 ·have:=sn (he st l)
  exact .wrong _ _ (he st l) (.inl rfl) ⟨st.pos,this.2.1,by rw[this.1];rfl⟩
theorem BN{ex:ExF}(he:∀st l,Rch st (ex st l).2):∀(bs:List Bool) (st:PS) (l:List aR),Rch st (jJ ex bs st l).2
 | [],st,l=> .refl
 |b::bs,st,l=>by
  unfold jJ;split
  ·exact(E6 he st l b).trans (BN he bs _ _)
  ·exact ag3
theorem E2:∀(f:Nat) (st:PS) (l:List aR),Rch st (eU f st l).2
 |0,st,l=> .refl
 |f+1,st,l=>by
  refine Rch.trans ?_ (sk _ _);unfold jv;split
  ·rename_i h
   exact(tC h).trans (((mV _ mu).trans (BN (E2 f) _ _ _)).trans (nI _ [41]))
  grind [E1,BO]
def ifT:Txt:=[105,102]
def pY:Txt:=[112,101,114,109,105,116]
def jt:Txt:=[100,101,110,121]
def pZ:Txt:=[112,111,108,105,99,121]
def Hr:Txt:=[115,101,116]
def nF:List Txt:=[pZ,Hr]
def yw:List Txt:=[[100,101,110,121,111,118,101,114],[112,101,114,109,105,116,111,118,101,114],[102,105,114,115,116],[111,110,108,121],[100,101,110,121,117,110,108,101,115,115],[112,101,114,109,105,116,117,110,108,101,115,115]]
def qV(st:PS):List aR×PS:=if isD st ifT=true then iN (eU st.ts.length) (bh st) [] false else([],st)
theorem NY(st:PS):Rch st (qV st).2:=by
 unfold qV;split
 ·rename_i h;exact(tC h).trans (E6 (E2 _) _ _ _)
 ·exact ag3
theorem HU(h:WfP st):Ah st (qV st).2:=by
 unfold qV;split
 ·rename_i hi
  have h1:=fo h (dK hi);exact h1.trans (zD (qY _) _ _ _ h1.1).1
 ·exact agX
def qx(deny:Bool)(st:PS):cQ×PS:=
 (⟨(cp st).1,deny,(ia (cp st).2).1,(qV (ia (cp st).2).2).1,(gD (qV (ia (cp st).2).2).2).1⟩,eu (gD (qV (ia (cp st).2).2).2).2 [59])
theorem zQ(deny:Bool)(st:PS):Rch st (qx deny st).2:=((((uQ st).trans (I6 _)).trans (NY _)).trans (E5 _)).trans (nI _ [59])
theorem Ch(deny:Bool)(h:WfP st):Ah st (qx deny st).2:=by have h1:=nQ h;have h2:=Ci h1.1;have h3:=HU h2.1;have h4:=Cg h3.1;exact(((h1.trans h2).trans h3).trans h4).trans (jC [59] h4.1)
inductive oD (a:PS):PS→Prop where
 |refl:oD a a
 |small {b c:PS}:oD a b→Rch b c→oD a c
 |rule {b:PS}:oD a b→b.bad=0→b.rules≠64→(aL b).kind≠7→oD a {bh b with rules:=b.rules+1}
theorem oD.trans{b:PS}(x:oD a b)(y:oD b c):oD a c:=by
 induction y with
 |refl=>exact x
 |small _ h1 ih=>grind [small]
 |rule _ h1 h2 h3 ih=>grind [rule]
theorem Rch.big{b:PS}(h:Rch a b):oD a b:=.small .refl h
def kD:Nat→PS→List cQ→List cQ×PS
 |0,st,l=>(l,st)
 |f+1,st,l=>if isD st pY=true∨isD st jt=true then
   if l.length=16∨st.rules=64 then(l,bE st true)
   else kD f (qx (isD st jt) {bh st with rules:=st.rules+1}).2 (l++ [(qx (isD st jt) {bh st with rules:=st.rules+1}).1])
  else(l,st)
abbrev PoF:=PS→bD×PS
variable {pol:PoF}
def kg(pol:PoF)(deep:Bool):Nat→PS→List bD→List bD×PS
 |0,st,l=>(l,st)
 |f+1,st,l=>if isD st pZ=true∨isD st Hr=true then
   if l.length=16∨deep=true then(l,bE st true)
   else kg pol deep f (pol st).2 (l++ [(pol st).1])
  else(l,st)
def cW(st:PS):(Bool×Txt×Int×gv)×PS:=
 (((aZ st nF).1==2,(cp (aZ st nF).2).1,(aZ (cp (aZ st nF).2).2 yw).1,(ia (aZ (cp (aZ st nF).2).2 yw).2).1),eu (ia (aZ (cp (aZ st nF).2).2 yw).2).2 [123])
theorem E3(st:PS):Rch st (cW st).2:=((((mV st nF).trans (uQ _)).trans (mV _ yw)).trans (I6 _)).trans (nI _ [123])
theorem O7(h:WfP st):Ah st (cW st).2:=by have h1:=gN nF h;have h2:=nQ h1.1;have h3:=gN yw h2.1;have h4:=Ci h3.1;exact(((h1.trans h2).trans h3).trans h4).trans (jC [123] h4.1)
def qs(pol:PoF)(deep:Bool)(set:Bool)(st:PS):(List cQ×List bD)×PS:=
 if set=true then(([],(kg pol deep 17 st []).1),(kg pol deep 17 st []).2)else(((kD 17 st []).1,[]),(kD 17 st []).2)
def gQ:Nat→PoF
 |0,st=>(.mk [] false 0 [] [] [] [],st)
 |r+1,st=>(.mk (cW st).1.2.1 (cW st).1.1 (cW st).1.2.2.1 (cW st).1.2.2.2 (qs (gQ r) (r==0) (cW st).1.1 (cW st).2).1.1 (qs (gQ r) (r==0) (cW st).1.1 (cW st).2).1.2
   (gD (eu (qs (gQ r) (r==0) (cW st).1.1 (cW st).2).2 [125])).1,(gD (eu (qs (gQ r) (r==0) (cW st).1.1 (cW st).2).2 [125])).2)
theorem nD{a b:Txt}(h:isD st a=true∨isD st b=true):st.bad=0∧(aL st).kind≠7:=by grind [IB,dK]
theorem yt(h:WfP st)(hk:(aL st).kind≠7):Ah st {bh st with rules:=st.rules+1}:=fo h hk
theorem HW:∀(f:Nat) (st:PS) (l:List cQ),WfP st→Ah st (kD f st l).2
 |0,st,l,h=> .refl h
 |f+1,st,l,h=>by
  unfold kD;split
  ·rename_i hi
   split
   ·exact lJ true h
   ·have h1:=yt h (nD hi).2
    have h2:=Ch (isD st jt) h1.1;exact(h1.trans h2).trans (HW f _ _ h2.1)
  ·exact agX
theorem E7:∀(f:Nat) (st:PS) (l:List cQ),oD st (kD f st l).2
 |0,st,l=> .refl
 |f+1,st,l=>by
  unfold kD;split
  ·rename_i hi
   split
   ·exact(sk st true).big
   ·rename_i hn
    have h1:oD st {bh st with rules:=st.rules+1}:=.rule .refl (nD hi).1 aeC (nD hi).2
    exact(h1.trans (zQ (isD st jt) _).big).trans (E7 f _ _)
  ·exact ag3
theorem HV{pol:PoF}(hp:∀st,WfP st→Ah st (pol st).2)(deep:Bool):∀(f:Nat) (st:PS) (l:List bD),WfP st→Ah st (kg pol deep f st l).2
 |0,st,l,h=> .refl h
 |f+1,st,l,h=>by
  unfold kg;split
  ·split
   ·exact lJ true h
   ·have h1:=hp st h
    exact h1.trans (HV hp deep f _ _ h1.1)
  ·exact agX
theorem E4{pol:PoF}(hp:∀st,oD st (pol st).2)(deep:Bool):∀(f:Nat) (st:PS) (l:List bD),oD st (kg pol deep f st l).2
 |0,st,l=> .refl
 |f+1,st,l=>by
  unfold kg;split
  ·split
   ·exact(sk st true).big
   ·exact(hp st).trans (E4 hp deep f _ _)
  ·exact ag3
theorem Cf(hp:∀st,WfP st→Ah st (pol st).2)(deep set:Bool)(h:WfP st):Ah st (qs pol deep set st).2:=by grind [qs,HV,HW]
theorem NX(hp:∀st,oD st (pol st).2)(deep set:Bool)(st:PS):oD st (qs pol deep set st).2:=by grind [qs,E4,E7]
theorem yq:∀(r:Nat) (st:PS),WfP st→Ah st (gQ r st).2
 |0,st,h=> .refl h
 |r+1,st,h=>by
  have h1:=O7 h;have h2:=Cf (yq r) (r==0) (cW st).1.1 h1.1;have h3:=jC [125] h2.1;exact((h1.trans h2).trans h3).trans (Cg h3.1)
theorem CW:∀(r:Nat) (st:PS),oD st (gQ r st).2
 |0,st=> .refl
 |r+1,st=>(((E3 st).big.trans (NX (CW r) _ _ _)).trans (nI _ [125]).big).trans (E5 _).big
theorem vQ{b:PS}(h:oD a b)(h0:a.rules≤64):b.rules≤64:=by
 induction h with
 |refl=>omega
 |small _ h1 ih=>rw[(sn h1).2.2];omega
 |rule _ _ h2 _ ih=>grind
theorem vF:∀(f:Nat) (s:Txt) (a:Nat) (out l:List qC),qF f s a out= .ok l→∃pre,l=out++pre++ [⟨7,(a+s.length:Nat),0,[]⟩]∧pre.length≤s.length∧∀t∈pre,(a:Int)≤t.pos∧t.pos<((a+s.length:Nat):Int)
 |0,_,_,_,_,h=>by grind [qF]
 |f+1,[],a,out,l,h=>by
  grind [qF,Lexed.ok.injEq]
 |f+1,c::r,a,out,l,h=>by
  simp only[qF]at h;split at h
  ·obtain⟨pre,e1,e2,e3⟩:=vF f r (a+1) out l h
   grind
  ·split at h
   ·cases h
   ·rename_i hn
    have hle:=sP (c::r) aeJ;obtain⟨pre,e1,e2,e3⟩:=vF f _ _ _ l h;have ee:((a+(bM (c::r)).2+((c::r).drop (bM (c::r)).2).length:Nat):Int)=((a+(c::r).length:Nat):Int):=aeD;refine⟨{(bM (c::r)).1 with pos:=a}::pre,aeD,aeD,fun t ht=>?_⟩
    grind
theorem Bs(h:pR s= .ok ts):∃pre,ts=pre++ [⟨7,s.length,0,[]⟩]∧pre.length≤s.length∧(∀t∈pre,0≤t.pos∧t.pos<(s.length:Int))∧s.length≤4096:=by grind [pR,vF]
theorem LB(h:pR s= .ok ts)(x:Nat)(e p:Int):WfP ⟨ts,0,x,e,p⟩:=by
 obtain⟨pre,rfl,h2,_,h3⟩:=Bs h;refine⟨aeJ,fun i hi hk=>?_,aeD⟩
 grind
theorem zn:∀(f:Nat) (s:Txt) (a:Nat) (out:List qC) (e p:Int),qF f s a out= .bad e p→e=5∧0≤p∧(s.length<f→p≤((a+s.length:Nat):Int))
 |0,s,a,out,e,p,h=>by
  simp only[qF,Lexed.bad.injEq]at h;omega
 |f+1,[],a,out,e,p,h=>by grind [qF]
 |f+1,c::r,a,out,e,p,h=>by
  simp only[qF]at h;split at h
  ·obtain⟨h1,h2,h3⟩:=zn f r (a+1) out e p h
   grind
  ·split at h
   ·grind
   ·obtain⟨h1,h2,h3⟩:=zn f _ _ _ e p h
    grind [sP,List.length_drop]
theorem ur{e a:Int}(h:pR s= .bad e a):(e=5∨e=6)∧0≤a∧a≤s.length:=by
 unfold pR at h;split at h
 ·grind
 ·obtain⟨h1,h2,h3⟩:=zn _ _ _ _ _ _ h
  omega
def pE:bD:=.mk [] false 0 [] [] [] []
def qE(s:Txt)(x:bD×PS):PS:=
 if(if(aL x.2).kind=7 then x.2 else br x.2).bad=0∧gK x.1≠0 then bH (if(aL x.2).kind=7 then x.2 else br x.2) 5 s.length else(if(aL x.2).kind=7 then x.2 else br x.2)
def zF(s:Txt)(ts:List qC):bD×Int×Int:=
 if(qE s (gQ 4 ⟨ts,0,0,0,0⟩)).bad=0 then((gQ 4 ⟨ts,0,0,0,0⟩).1,0,0)else(pE,(qE s (gQ 4 ⟨ts,0,0,0,0⟩)).bad,(qE s (gQ 4 ⟨ts,0,0,0,0⟩)).place)
def aQ(s:Txt):bD×Int×Int:=match pR s with
 |.bad e a=>(pE,e,a)
 |.ok ts=>zF s ts
end Go.Bf
namespace Go.Proofs.YtelkmnkejghkeaaGreatDoor
open Go Go.Ab Go.Bf Tryz
def Byt(g:FuncId)(p:UInt8→Bool):Prop:=∀(c:UInt8) (h:Heap),ai prog g [.v (.int .u8 c.toNat)] h fun r h' =>r= .b (p c)∧h' =h
theorem nE:Byt 186 dgt:=fun c h=>by
 refine aeB func186 9 [.tmp 2] fun hwf=>?_
 cases d1:decide (48≤(c.toNat:Int))<;>cases d2:decide ((c.toNat:Int)≤57)
 all_goals
  simp only[go_sem,d1,d2];exact .same (.refl _) ⟨by simp only[dgt,d1,d2];rfl,rfl⟩
theorem Kp:Byt 235 wrd:=fun c h=>by
 refine aeB func235 17 [.tmp 2] fun hwf=>?_
 cases d1:decide (97≤(c.toNat:Int))<;>cases d2:decide ((c.toNat:Int)≤122)<;>cases d3:dgt c<;>cases d4:((c.toNat:Int)==95)
 all_goals
  simp only[go_sem,d1,d2]
  first
   |exact .same (.refl _) ⟨by simp only[wrd,ltr,d1,d2,d3,d4];rfl,rfl⟩
   |(refine(nE c _).pthen ?_;simp only[go_sem,d3,d4];exact .same (.refl _) ⟨by simp only[wrd,ltr,d1,d2,d3,d4];rfl,rfl⟩)
theorem EU:Byt 236 (fun c=> !uw c):=fun c h=>by
 refine aeB func236 17 [.tmp 2] fun hwf=>?_
 cases d1:decide (32≤(c.toNat:Int))<;>cases d2:decide ((c.toNat:Int)≤126)<;>cases d3:((c.toNat:Int)==34)<;>cases d4:((c.toNat:Int)==92)
 all_goals
  simp only[go_sem,d1,d2,d3,d4,bne];refine .same (.refl _) ⟨?_,rfl⟩;have e1:decide ((c.toNat:Int)<32)= !decide (32≤(c.toNat:Int)):=by
   grind
  have e2:decide (126<(c.toNat:Int))= !decide ((c.toNat:Int)≤126):=by
   grind
  simp only[uw,e1,e2,d1,d2,d3,d4];rfl
theorem QT(p:UInt8→Bool)(s:Txt)(i:Nat)(hi:i<s.length)(h:i≤(s.takeWhile p).length)(hp:p s[i]=true):i+1≤(s.takeWhile p).length:=by exact ajr
theorem WQ(p:UInt8→Bool)(s:Txt)(i:Nat)(hi:i<s.length)(h:i≤(s.takeWhile p).length)(hp:p s[i]=false):(s.takeWhile p).length=i:=by exact ajr
theorem Oc(g:FuncId)(p:UInt8→Bool)(hg:Byt g p)(s:Txt)(h:Heap):ai prog 234 [.s s,.fn g []] h fun r h' =>r= .v (.int .i64 (s.takeWhile p).length)∧h' =h:=by
 refine aeB func234 20 [.tmp 4] fun hwf=>?_
 have hlen:=hwf (.s s) aeJ;simp only[wfA,wf1,lim]at hlen;simp only[go_sem];refine .intro (fun m ρ h' =>h' =h∧∃i:Nat,i≤s.length∧m=s.length - i∧i≤(s.takeWhile p).length∧lk ρ 0=some (.s s)∧lk ρ 1=some (.fn g [])∧lk ρ 5=some (.i i)) s.length ?_ ?_
 ·refine⟨rfl,0,aeC,rfl,aeC,?_,?_,?_⟩<;>simp only[go_sem]
 ·rintro m ρ h' ⟨rfl,i,hi,rfl,hc,r0,r1,r5⟩
  cases d1:decide ((i:Int)<(s.length:Int))
  ·have hge:i=s.length:=by grind
   have:=kH p s;simp only[go_sem,r0,r5,d1];exact .same (.refl _) ⟨by grind [ax],rfl⟩
  ·have hlt:i<s.length:=by grind
   have w1:IntKind.i64.wrap ((i:Int)+1)=((i+1:Nat):Int):=aeN;simp only[go_sem,r0,r1,r5,d1];refine .at i hlt ?_;simp only[go_sem,aJ];refine(hg s[i] _).pthen ?_;cases d2:p s[i]
   ·have:=WQ p s i hlt hc d2
    simp only[go_sem,r5];exact .same (.refl _) ⟨by rw[this];rfl,rfl⟩
   ·simp only[go_sem,r5,w1]
    refine⟨_,?_,rfl,i+1,aeC,rfl,QT p s i hlt hc d2,?_,?_,?_⟩
    ·omega
    all_goals simp only[go_sem,r0,r1]
theorem zA(s:Txt)(h:Heap):ai prog 185 [.s s] h fun r h' =>r= .s (jX s)∧h' =h:=by
 refine aeB func185 12 [.tmp 2] fun hwf=>?_
 simp only[go_sem];refine(Oc _ _ Kp s _).pthen ?_;simp only[go_sem];refine⟨aeC,aeC,?_⟩;simp only[go_sem,Option.isSome_none,Option.isSome_some,tV,Int.toNat_natCast,rR];refine⟨by grind [kH,wrd],?_⟩
 refine(pT _ _).pthen ?_;cases d1:bp (s.takeWhile wrd)
 ·exact akr
 ·exact akr
theorem wr8{x:Int}(h:0≤x∧x<256):IntKind.u8.wrap x=x:=by grind [IntKind.wrap,IntKind.signed,IntKind.bits]
theorem tW(c:UInt8)(h:Heap):ai prog 268 [.v (.int .u8 c.toNat)] h fun r h' =>r= .i (jY c)∧h' =h:=by
 refine aeB func268 20 [.tmp 2] fun hwf=>?_
 have hc:=c.toNat_lt;simp only[go_sem];refine(nE c _).pthen ?_;cases d1:dgt c
 case true=>
  have e1:48≤(c.toNat:Int)∧(c.toNat:Int)≤57:=by grind [dgt]
  have w1:IntKind.u8.wrap ((c.toNat:Int) - 48)=(c.toNat:Int) - 48:=wr8 aeC;have w2:IntKind.i64.wrap ((c.toNat:Int) - 48)=(c.toNat:Int) - 48:=aW _ aeC;simp only[go_sem,w1,w2];exact .same (.refl _) ⟨by grind [jY,ax],rfl⟩
 cases d2:decide (97≤(c.toNat:Int))<;>cases d3:decide ((c.toNat:Int)≤102)
 case true.true=>
  have e2:=aeu d2;have e3:=aeu d3;have w1:IntKind.u8.wrap ((c.toNat:Int) - 97)=(c.toNat:Int) - 97:=wr8 aeC;have w2:IntKind.i64.wrap ((c.toNat:Int) - 97)=(c.toNat:Int) - 97:=aW _ aeC;have w3:IntKind.i64.wrap ((c.toNat:Int) - 97+10)=(c.toNat:Int) - 87:=aeN;simp only[go_sem,d2,d3,w1,w2,w3];exact .same (.refl _) ⟨by grind [jY,ax],rfl⟩
 all_goals
  simp only[go_sem,d2,d3];simp only[decide_eq_true_eq,decide_eq_false_iff_not]at d2 d3;refine .same (.refl _) ⟨?_,rfl⟩
  grind [Int,jY,ax]
theorem Iw(c:UInt8): -1≤jY c∧jY c≤15:=by grind [jY,dgt]
theorem OB(n:Nat)(h:n<256):((UInt8.ofNat n).toNat:Int)=n:=by simp;omega
theorem Ts(s:Txt)(h:Heap):ai prog 237 [.s s] h fun r h' =>(∃x:Int,r= .tup [.v (.int .u8 x),.v (.bool (ux s).isSome)]∧∀c,ux s=some c→x=c.toNat)∧h' =h:=by
 refine aeB func237 38 [.tmp 2,.tmp 3] fun hwf=>?_
 have hlen:=hwf (.s s) aeJ;simp only[wfA,wf1,lim]at hlen;cases d0:decide ((s.length:Int)<3)
 case true=>
  have e0:s.length<3:=aeD;have:ux s=none:=by
   match s,e0 with
   | [],_=>rfl
   | [_],_=>rfl
   | [_,_],_=>rfl
  simp only[go_sem,d0];exact .same (.refl _) ⟨⟨0,by rw[this];rfl,fun c hc=>aeD⟩,rfl⟩
 have e0:3≤s.length:=aeD;obtain⟨b,x,y,t,rfl⟩:∃b x y t,s=b::x::y::t:=by
  match s,e0 with
  |b::x::y::t,_=>exact⟨b,x,y,t,rfl⟩
 simp only[List.length_cons]at d0;have bad:ux (b::x::y::t)=none→∃z:Int,AV.tup [.v (.int .u8 0),.b false]= .tup [.v (.int .u8 z),.v (.bool (ux (b::x::y::t)).isSome)]∧∀c,ux (b::x::y::t)=some c→z=c.toNat:=
  fun e=>⟨0,aeD,fun c hc=>aeD⟩
 cases d1:((b.toNat:Int) !=92)
 case true=>
  have e1:b≠92:=by rintro rfl;grind
  simp only[go_sem,d0];refine .at 0 aeJ ?_;simp only[go_sem,aJ,List.getElem_cons_zero,d1];exact akb
 have e1:b=92:=by
  have:(b.toNat:Int)=92:=aeD;exact UInt8.toNat_inj.1 aeD
 simp only[go_sem,d0];refine .at 0 aeJ ?_;simp only[go_sem,aJ,List.getElem_cons_zero,d1];refine .at 1 aeJ ?_;simp only[go_sem,aJ,List.getElem_cons_zero,List.getElem_cons_succ];refine(tW x _).pthen ?_;cases d2:decide (jY x<0)
 case true=>
  have e2:=aeu d2;simp only[go_sem,d2];exact akb
 have e2:0≤jY x:=aeD;simp only[go_sem,d2];refine .at 2 aeJ ?_;simp only[go_sem,aJ,List.getElem_cons_zero,List.getElem_cons_succ];refine(tW y _).pthen ?_;cases d3:decide (jY y<0)
 case true=>
  have e3:=aeu d3;simp only[go_sem,d3];exact akb
 have e3:0≤jY y:=aeD;have hx:=Iw x;have hy:=Iw y;have w1:IntKind.i64.wrap (16*jY x)=16*jY x:=aW _ aeC;have w2:IntKind.i64.wrap (16*jY x+jY y)=16*jY x+jY y:=aW _ aeC;have w3:IntKind.u8.wrap (16*jY x+jY y)=((UInt8.ofNat (16*jY x+jY y).toNat).toNat:Int):=by
  grind [wr8,OB]
 simp only[go_sem,d3];refine .quiet aeF ?_;simp only[go_sem];refine .at 1 aeJ ?_;simp only[go_sem,aJ,List.getElem_cons_zero,List.getElem_cons_succ];refine⟨_,tW x _,?_⟩;simp only[go_sem];refine .at 2 aeJ ?_;simp only[go_sem,aJ,List.getElem_cons_zero,List.getElem_cons_succ];refine⟨_,tW y _,?_⟩;simp only[go_sem,w1,w2,w3];refine(EU _ _).pthen ?_;simp only[go_sem];refine .same (.refl _) ⟨⟨((UInt8.ofNat (16*jY x+jY y).toNat).toNat:Int),?_,fun c hc=>?_⟩,rfl⟩
 ·grind [uw,UInt8.ofNat,jY,ux,ax]
 grind [ux]
theorem u5z:(U 5).sz=1:=aeR
theorem u5b:(U 5).bytes=1:=aeR
theorem nT(l:List UInt8):Sized 1 (l.map aJ):=fun z hz=>by
 obtain⟨c,_,rfl⟩:=List.mem_map.1 hz;rfl
theorem Jf(s:Txt)(hs:s.length≤10000)(h:Heap):ai prog 188 [.s s] h fun r h' =>r= .tup [.s (Aa s).1,.v (.int .i64 (Aa s).2)]∧h' =h:=by
 refine aeB func188 50 [.tmp 2,.tmp 3] fun hwf=>?_
 simp only[go_sem];refine .intro (fun m ρ h' =>∃(i f:Nat) (y:AV) (out:Txt),Acc U 5 h h' y (out.map aJ)∧out.length≤i∧m=s.length+1 - i∧i≤s.length+3∧s.length≤f+i∧uY f (s.drop i) i out=Aa s∧lk ρ 0=some (.s s)∧lk ρ 4=some y∧lk ρ 5=some (.i i)) s.length ?_ ?_
 ·refine⟨1,s.length,.sl [] .full,[],.full (.refl _),aeJ,aeC,aeC,aeC,rfl,?_,?_,?_⟩<;>simp only[go_sem]
 ·rintro m ρ h' ⟨i,f,y,out,hy,hoi,rfl,hi,hf,he,r0,r4,r5⟩
  cases d1:decide ((i:Int)<(s.length:Int))
  ·have hge:s.length≤i:=by grind
   have hd:s.drop i= []:=List.drop_of_length_le hge;have:Aa s=([],0):=by
    rw[←he,hd];cases f<;>rfl
   simp only[go_sem,r0,r5,d1];exact .mk _ (.refl _) hy.1 ⟨by rw[this];rfl,rfl⟩
  have hlt:i<s.length:=aeD;obtain⟨f,rfl⟩:∃g,f=g+1:=⟨f - 1,aeC⟩;have hdr:s.drop i=s[i]::s.drop (i+1):=List.drop_eq_getElem_cons hlt;rw[hdr]at he;simp only[uY]at he;have w1:IntKind.i64.wrap ((i:Int)+1)=((i+1:Nat):Int):=aeN;have w3:IntKind.i64.wrap ((i:Int)+3)=((i+3:Nat):Int):=aeN;simp only[go_sem,r0,r5,d1];refine .at i hlt ?_;cases d2:((s[i].toNat:Int)==34)
  case true=>
   have e2:s[i]=34:=by
    have:(s[i].toNat:Int)=34:=aeD;exact UInt8.toNat_inj.1 aeD
   rw[if_pos e2]at he;cases d3:decide (64<(out.length:Int))
   case true=>
    have e3:64<out.length:=aeD;rw[if_pos e3]at he;simp only[go_sem,r4,aJ,d2,hy.len,aes,d3];exact aj5
   have e3:¬64<out.length:=aeD;rw[if_neg e3]at he;simp only[go_sem,r4,aJ,d2,hy.len,aes,d3];obtain⟨q,rfl⟩:=hy.row;simp only[go_sem,r5,w1];exact aj5
  have e2:s[i]≠34:=by intro e;simp_all
  rw[if_neg e2]at he;simp only[go_sem,r0,r5,aJ,d2];refine .at i hlt ?_;simp only[go_sem,aJ];refine(EU _ _).pthen ?_;cases d4:uw s[i]
  ·rw[if_pos d4]at he
   simp only[go_sem,r0,r4,r5,d4];refine .at i hlt ?_;simp only[go_sem,aJ];refine hy.app (zs:=[aJ s[i]]) aeG aeG (fun k hk=>hk) (by grind [u5z,nT]) (by rw[u5z];exact nT [s[i]]) (by grind [u5b]) fun y' h2 hy' hk2=>?_
   simp only[go_sem,r5,w1];refine⟨_,?_,i+1,f,y',out++ [s[i]],aeD,aeD,rfl,aeC,aeC,he,?_,?_,?_⟩
   ·omega
   all_goals simp only[go_sem,r0]
  ·rw[if_neg aeD]at he
   simp only[go_sem,r0,r5,d4];refine⟨aeC,?_⟩;simp only[go_sem,Option.isSome_none,Option.isSome_some,mH,Int.toNat_natCast];refine⟨aeC,aeC,?_⟩;refine(Ts _ _).mono fun x h2 hx=>?_
   obtain⟨⟨v,rfl,hv⟩,rfl⟩:=hx;rw[←hdr]at he;cases e5:ux (s.drop i)with
   |none=>
    rw[e5]at he;simp only[go_sem,Option.isSome_none];exact aj5
   |some b=>
    rw[e5]at he;have hvb:=hv b e5;subst hvb;have h3:=EJ e5;simp only[List.length_drop]at h3;simp only[go_sem,r4,Option.isSome_some];refine hy.app (zs:=[aJ b]) aeG aeG (fun k hk=>hk) (by grind [u5z,nT]) (by rw[u5z];exact nT [b]) (by grind [u5b]) fun y' h2 hy' hk2=>?_
    simp only[go_sem,r5,w3];refine⟨_,?_,i+3,f,y',out++ [b],aeD,aeD,rfl,aeC,aeC,?_,?_,?_,?_⟩
    ·omega
    ·simp_all
    all_goals simp only[go_sem,r0]
end Go.Proofs.YtelkmnkejghkeaaGreatDoor
namespace Go.Bf
open Go Go.Ab
theorem Ic(c:UInt8):dgt c=true↔48≤c.toNat∧c.toNat≤57:=by simp only[dgt,Bool.and_eq_true,decide_eq_true_eq];omega
def JJ(acc:Nat)(l:Txt):Nat:=l.foldl (fun n c=>n*10+(c.toNat - 48)) acc
theorem A9(acc:Nat)(c:UInt8)(r:Txt):JJ acc (c::r)=JJ (acc*10+(c.toNat - 48)) r:=List.foldl_cons ..
theorem DE:∀(l:Txt) (acc:Nat),acc≤JJ acc l
 | [],acc=>Nat.le_refl _
 |c::r,acc=>by rw[A9];exact Nat.le_trans aeC (DE r (acc*10+(c.toNat - 48)))
theorem uC:∀(l:Txt) (acc:Nat),(∀c∈l,dgt c=true)→acc<18446744073709551616→
  Lib.parseUint10 acc l=if JJ acc l<18446744073709551616 then .ok (JJ acc l)else .range
 | [],acc,_,ha=>by
  have:JJ acc []=acc:=rfl;rw[this,if_pos ha];rfl
 |c::r,acc,hd,ha=>by
  have hc:=(Ic c).1 (hd c aeJ);have hm:=DE r (acc*10+(c.toNat - 48));rw[A9];unfold Lib.parseUint10;rw[if_pos hc];split
  ·rw[if_neg aeC]
  ·split
   ·rw[if_neg aeC]
   ·exact uC r _ aeD aeC
def qA(neg:Bool):Txt:=if neg then [45]else []
theorem wA(neg:Bool)(d:Txt)(h0:d≠ [])(hd:∀c∈d,dgt c=true):
  Lib.atoiAll (qA neg++d)=if -9223372036854775808≤(if neg then -(mI d:Int)else(mI d:Int))∧(if neg then -(mI d:Int)else(mI d:Int))≤9223372036854775807 then .ok (if neg then -(mI d:Int)else(mI d:Int))else .range:=by
 have hp:Lib.parseMag d=if mI d<18446744073709551616 then .ok (mI d)else .range:=by
  unfold Lib.parseMag;rw[if_neg h0];exact uC d 0 hd aeG
 cases neg
 ·obtain⟨c,r,rfl⟩:=List.exists_cons_of_ne_nil h0
  have hc:=(Ic c).1 (hd c aeJ);simp only[qA,Bool.false_eq_true,if_false,List.nil_append,Lib.atoiAll];rw[if_neg aeC,hp];have e45:(c.toNat=45)=False:=aeD;simp only[e45,not_false_eq_true,true_and,false_and,if_false];split
  ·rename_i h;split at h
   ·cases h
   ·cases h
  ·rename_i h;split at h
   ·cases h
   ·rw[if_neg aeC]
  ·rename_i u h;split at h
   ·cases h
    split
    ·rw[if_neg aeC]
    ·rw[if_pos aeC]
   ·cases h
 ·simp only[qA,if_true,List.cons_append,List.nil_append,Lib.atoiAll]
  rw[if_pos (.inr aeG),hp];simp only[show((45:UInt8).toNat=45)=True by simp,not_true_eq_false,false_and,if_false,true_and,if_true]
  split
  ·rename_i h;split at h
   ·cases h
   ·cases h
  ·rename_i h;split at h
   ·cases h
   ·rw[if_neg aeC]
  ·rename_i u h;split at h
   ·cases h
    split
    ·rw[if_neg aeC]
    ·rw[if_pos aeC]
   ·cases h
theorem AQ(s:Txt):∀c∈s.takeWhile dgt,dgt c=true:=fun c hc=>by
 induction s with
 |nil=>cases hc
 |cons x r ih=>
  simp only[List.takeWhile_cons]at hc
  grind
end Go.Bf
namespace Go.Proofs
open Go.Shelf
def Tryz.Eo:Go.Shelf.Ren:=⟨fun|137=>189|217=>230|266=>266|n=>n,fun|9=>9|5=>5|3=>3|n=>n,fun|n=>n⟩
theorem Tryz.IF:Go.Proofs.Lays.n137 Tryz.prog Tryz.Eo:={
 mixed:=aeR
 f137:=Tryz.func189.trans aeR
 f217:=Tryz.func230.trans aeR
 f266:=Tryz.func266.trans aeR
 t3:=Tryz.underlying3
 a3:=Tryz.isAgg3
 z3:=Tryz.sizeOf3
 v3:=Tryz.zeroValue3
 t5:=Tryz.underlying5
 a5:=Tryz.isAgg5
 z5:=Tryz.sizeOf5
 v5:=Tryz.zeroValue5
 t9:=Tryz.underlying9
 a9:=Tryz.isAgg9
 z9:=Tryz.sizeOf9
 v9:=Tryz.zeroValue9}
open Go.RowKit in
theorem Tryz.strings_IndexByte(s:ByteArray)(c:Int)(w:World):
  Calls Tryz.prog 189 #[.string s,.int .u8 c] w fun e w' =>e= .returned (.int .i64 (Lib.indexByte s.data.toList c.toNat.toUInt8))∧w' =w:=Any.strings_IndexByte Tryz.IF s c w
def Tryz.CH:Go.Shelf.Ren:=⟨fun|172=>77|244=>135|245=>136|247=>190|279=>191|280=>192|281=>193|282=>194|287=>238|316=>239|171=>69|205=>240|321=>269|322=>270|243=>128|246=>175|283=>224|284=>225|285=>226|286=>227|129=>261|317=>260|318=>262|319=>263|320=>264|337=>288|338=>289|n=>n,fun|9=>9|3=>3|75=>159|76=>160|4=>4|5=>5|167=>282|37=>76|0=>0|85=>283|2=>2|168=>285|53=>74|175=>322|46=>144|210=>325|127=>317|145=>360|143=>358|21=>21|171=>312|173=>315|212=>349|51=>273|20=>20|213=>350|232=>401|233=>402|80=>233|n=>n,fun|15=>1|16=>2|17=>3|18=>4|19=>5|n=>n⟩
theorem Tryz.Ep:Go.Proofs.LaysC.n172 Tryz.prog Tryz.CH:={
 mixed:=aeR
 f129:=Tryz.func261.trans aeR
 f171:=Tryz.func69.trans aeR
 f172:=Tryz.func77.trans aeR
 f205:=Tryz.func240.trans aeR
 f243:=Tryz.func128.trans aeR
 f244:=Tryz.func135.trans aeR
 f245:=Tryz.func136.trans aeR
 f246:=Tryz.func175.trans aeR
 f247:=Tryz.func190.trans aeR
 f279:=Tryz.func191.trans aeR
 f280:=Tryz.func192.trans aeR
 f281:=Tryz.func193.trans aeR
 f282:=Tryz.func194.trans aeR
 f283:=Tryz.func224.trans aeR
 f284:=Tryz.func225.trans aeR
 f285:=Tryz.func226.trans aeR
 f286:=Tryz.func227.trans aeR
 f287:=Tryz.func238.trans aeR
 f316:=Tryz.func239.trans aeR
 f317:=Tryz.func260.trans aeR
 f318:=Tryz.func262.trans aeR
 f319:=Tryz.func263.trans aeR
 f320:=Tryz.func264.trans aeR
 f321:=Tryz.func269.trans aeR
 f322:=Tryz.func270.trans aeR
 f337:=Tryz.func288.trans aeR
 f338:=Tryz.func289.trans aeR
 t0:=Tryz.underlying0
 a0:=Tryz.isAgg0
 z0:=Tryz.sizeOf0
 v0:=Tryz.zeroValue0
 t2:=Tryz.underlying2
 a2:=Tryz.isAgg2
 z2:=Tryz.sizeOf2
 v2:=Tryz.zeroValue2
 t3:=Tryz.underlying3
 a3:=Tryz.isAgg3
 z3:=Tryz.sizeOf3
 v3:=Tryz.zeroValue3
 t4:=Tryz.underlying4
 a4:=Tryz.isAgg4
 z4:=Tryz.sizeOf4
 v4:=Tryz.zeroValue4
 t5:=Tryz.underlying5
 a5:=Tryz.isAgg5
 z5:=Tryz.sizeOf5
 v5:=Tryz.zeroValue5
 t9:=Tryz.underlying9
 a9:=Tryz.isAgg9
 z9:=Tryz.sizeOf9
 v9:=Tryz.zeroValue9
 t20:=Tryz.underlying20
 a20:=Tryz.isAgg20
 z20:=Tryz.sizeOf20
 v20:=Tryz.zeroValue20
 t21:=Tryz.underlying21
 a21:=Tryz.isAgg21
 z21:=Tryz.sizeOf21
 v21:=Tryz.zeroValue21
 t37:=Tryz.underlying76
 a37:=Tryz.isAgg76
 z37:=Tryz.sizeOf76
 v37:=Tryz.zeroValue76
 t46:=Tryz.underlying144
 a46:=Tryz.isAgg144
 z46:=Tryz.sizeOf144
 v46:=Tryz.zeroValue144
 t51:=Tryz.underlying273
 a51:=Tryz.isAgg273
 z51:=Tryz.sizeOf273
 v51:=Tryz.zeroValue273
 t53:=Tryz.underlying74
 a53:=Tryz.isAgg74
 z53:=Tryz.sizeOf74
 v53:=Tryz.zeroValue74
 t75:=Tryz.underlying159
 a75:=Tryz.isAgg159
 z75:=Tryz.sizeOf159
 v75:=Tryz.zeroValue159
 t76:=Tryz.underlying160
 a76:=Tryz.isAgg160
 z76:=Tryz.sizeOf160
 v76:=Tryz.zeroValue160
 t85:=Tryz.underlying283
 a85:=Tryz.isAgg283
 z85:=Tryz.sizeOf283
 v85:=Tryz.zeroValue283
 t127:=Tryz.underlying317
 a127:=Tryz.isAgg317
 z127:=Tryz.sizeOf317
 v127:=Tryz.zeroValue317
 t143:=Tryz.underlying358
 a143:=Tryz.isAgg358
 z143:=Tryz.sizeOf358
 v143:=Tryz.zeroValue358
 t145:=Tryz.underlying360
 a145:=Tryz.isAgg360
 z145:=Tryz.sizeOf360
 v145:=Tryz.zeroValue360
 t167:=Tryz.underlying282
 a167:=Tryz.isAgg282
 z167:=Tryz.sizeOf282
 v167:=Tryz.zeroValue282
 t168:=Tryz.underlying285
 a168:=Tryz.isAgg285
 z168:=Tryz.sizeOf285
 v168:=Tryz.zeroValue285
 t171:=Tryz.underlying312
 a171:=Tryz.isAgg312
 z171:=Tryz.sizeOf312
 v171:=Tryz.zeroValue312
 t173:=Tryz.underlying315
 a173:=Tryz.isAgg315
 z173:=Tryz.sizeOf315
 v173:=Tryz.zeroValue315
 t175:=Tryz.underlying322
 a175:=Tryz.isAgg322
 z175:=Tryz.sizeOf322
 v175:=Tryz.zeroValue322
 t210:=Tryz.underlying325
 a210:=Tryz.isAgg325
 z210:=Tryz.sizeOf325
 v210:=Tryz.zeroValue325
 t212:=Tryz.underlying349
 a212:=Tryz.isAgg349
 z212:=Tryz.sizeOf349
 v212:=Tryz.zeroValue349
 t213:=Tryz.underlying350
 a213:=Tryz.isAgg350
 z213:=Tryz.sizeOf350
 t232:=Tryz.underlying401
 a232:=Tryz.isAgg401
 z232:=Tryz.sizeOf401
 v232:=Tryz.zeroValue401
 t233:=Tryz.underlying402
 a233:=Tryz.isAgg402
 z233:=Tryz.sizeOf402
 v233:=Tryz.zeroValue402
 g15:=aeF
 g16:=aeF
 g17:=aeF
 g18:=aeF
 g19:=aeF
 t80:=Tryz.underlying233
 a80:=Tryz.isAgg233
 z80:=Tryz.sizeOf233
 v80:=Tryz.zeroValue233
 i0:=aeF
 i2:=aeF
 i3:=aeF
 i4:=aeF
 i5:=aeF
 i9:=aeF
 i20:=aeF
 i21:=aeF
 i37:=aeF
 i46:=aeF
 i51:=aeF
 i53:=aeF
 i75:=aeF
 i76:=aeF
 i80:=aeF
 i85:=aeF
 i127:=aeF
 i143:=aeF
 i145:=aeF
 i167:=aeF
 i168:=aeF
 i171:=aeF
 i173:=aeF
 i175:=aeF
 i210:=aeF
 i212:=aeF
 i232:=aeF
 i233:=aeF
 m15:=aeR
 m16:=aeR
 m17:=aeR
 m18:=aeR
 m19:=aeR
 c0:=aeF
 c2:=aeF
 c3:=aeF
 c4:=aeF
 c5:=aeF
 c9:=aeF
 c20:=aeF
 c21:=aeF
 c37:=aeF
 c46:=aeF
 c51:=aeF
 c53:=aeF
 c75:=aeF
 c76:=aeF
 c80:=aeF
 c85:=aeF
 c127:=aeF
 c143:=aeF
 c145:=aeF
 c167:=aeF
 c168:=aeF
 c171:=aeF
 c173:=aeF
 c175:=aeF
 c210:=aeF
 c212:=aeF
 c213:=aeF
 c232:=aeF
 c233:=aeF}
open Go.RowKit in
theorem Tryz.strconv_Atoi_ok(s:ByteArray)(hmax:s.size≤9223372036854775806)(v:Int)(h:Lib.atoiAll s.data.toList= .ok v)(w:World):
  Calls Tryz.prog 77 #[.string s] w fun e w' =>e= .returned (.tuple #[.int .i64 v,.nilIface])∧(w' =w∨∃t,w' =Lib.bytesWorld w 5 t):=Any.strconv_Atoi_ok Tryz.Ep s hmax v h w
open Go.RowKit in
theorem Tryz.strconv_Atoi_range(s:ByteArray)(hlim:s.size≤281474976710656)(h:Lib.atoiAll s.data.toList= .range)(ev:Value)(w:World)(hv:w.cell? ⟨2,0,none⟩=some ev)(hev:ev= .nilIface∨∃te pe,ev= .iface te pe):
  Calls Tryz.prog 77 #[.string s] w fun e w' =>∃N,e= .returned (.tuple #[.int .i64 (Lib.atoiSat s.data.toList),.iface 285 (.pointer (some ⟨N,0,none⟩))])∧w.heap.size≤N∧w'.heap[N]? =some (.cells #[.string ⟨#[65,116,111,105]⟩,.string s,ev] 325 (0,0))∧Below w.heap.size w w' :=Any.strconv_Atoi_range Tryz.Ep s hlim h ev w hv hev
end Go.Proofs
namespace Go.Proofs.YtelkmnkejghkeaaGreatDoor
open Go Go.Ab Go.Bf Go.RowKit Tryz
theorem K0(s:Txt)(hs:s.length≤100000)(w:World):Calls prog 234 #[.string ⟨s.toArray⟩,.func (.func 186) #[] #[]] w fun e w' =>e= .returned (.int .i64 (s.takeWhile dgt).length)∧Below w.heap.size w w' :=by
 refine Go.Ab.ai.calls (args:=[.s s,.fn 186 []]) ⟨_,func234,aeR,rfl⟩ ((Oc _ _ nE s cS).mono fun _ _ h=>h.1) rfl (fun i hi=>?_)
 rcases i with _|_|i
 ·exact .s s (by grind [lim,Nat])
 ·exact .fn _ [] #[] rfl (fun i hi=>by cases hi)
 ·simp at hi;omega
def AT(neg:Bool)(d:Txt):Int:=if neg then -(mI d:Int)else(mI d:Int)
def inI(neg:Bool)(d:Txt):Prop:= -9223372036854775808≤(if neg then -(mI d:Int)else(mI d:Int))∧(if neg then -(mI d:Int)else(mI d:Int))≤9223372036854775807
instance (neg:Bool) (d:Txt):Decidable (inI neg d):=inferInstanceAs (Decidable (_∧_))
theorem zX(neg:Bool):(qA neg).length≤1:=by cases neg<;>decide
theorem Cm(neg:Bool)(d:Txt)(h0:d≠ [])(hd:∀c∈d,dgt c=true)(hlen:d.length≤10000)(S:ByteArray)(hS:S=⟨(qA neg++d).toArray⟩)(hr:inI neg d)(W:World):
  Calls prog 77 #[.string S] W fun e w' =>e= .returned (.tuple #[.int .i64 (AT neg d),.nilIface])∧Below W.heap.size W w' :=by
 have hl:=zX neg;have hsz:S.size≤10001:=by grind [ByteArray.size]
 have ha:Lib.atoiAll S.data.toList= .ok (AT neg d):=by
  rw[hS];rw[wA neg d h0 hd];exact if_pos hr
 refine(Tryz.strconv_Atoi_ok S aeC _ ha W).mono ?_
 rintro e w' ⟨rfl,rfl|⟨t,rfl⟩⟩
 ·exact⟨rfl,.refl _ _⟩
 ·exact⟨rfl,Lib.bytesWorld_below W _ t⟩
theorem Dn(neg:Bool)(d:Txt)(h0:d≠ [])(hd:∀c∈d,dgt c=true)(hlen:d.length≤10000)(S:ByteArray)(hS:S=⟨(qA neg++d).toArray⟩)(hr:¬inI neg d)(W:World)(ev:Value)(hv:W.cell? ⟨2,0,none⟩=some ev)(hev:ev= .nilIface∨∃te pe,ev= .iface te pe):
  Calls prog 77 #[.string S] W fun e w' =>(∃(x:Int) (N:Nat),e= .returned (.tuple #[.int .i64 x,.iface 285 (.pointer (some ⟨N,0,none⟩))]))∧Below W.heap.size W w' :=by
 have hl:=zX neg;have hsz:S.size≤10001:=by grind [ByteArray.size]
 have ha:Lib.atoiAll S.data.toList= .range:=by
  rw[hS];rw[wA neg d h0 hd];exact if_neg hr
 refine(Tryz.strconv_Atoi_range S aeC ha ev W hv hev).mono ?_
 grind
set_option maxHeartbeats 1000000 in
theorem EI(neg:Bool)(s:Txt)(hs:s.length≤10000)(w:World)(ev:Value)(hv:w.cell? ⟨2,0,none⟩=some ev)(hev:ev= .nilIface∨∃te pe,ev= .iface te pe)(hg:2<w.heap.size):
  Calls prog 187 #[.string ⟨(qA neg).toArray⟩,.string ⟨s.toArray⟩] w fun e w' =>e= .returned (.tuple #[.int .i64 (fc neg s).1,.int .i64 ((fc neg s).2:Nat)])∧Below w.heap.size w w' :=by
 have hle:=kH dgt s;obtain⟨d,ed⟩:∃d,s.takeWhile dgt=d:=⟨_,rfl⟩;have htk:s.take d.length=d:=by grind [rR]
 have hrun:=K0 s aeC w;have hall:=AQ s;rw[ed]at hrun hle hall
 go_enter func187,Tryz.ntmps187
 by_cases h0:d.length=0
 ·have e0:d= []:=by grind
  have en:fc neg s=(0,0):=by simp_all [fc,if_pos]
  go_wp2_with (go_at_call 234;refine hrun.mono ?_)
  rintro e W0 ⟨rfl,b0⟩
  rw[h0]
  go_wp2
  go_ret2
  simp_all
 ·have e0:d≠ []:=by grind
  go_wp2_with (go_at_call 234;refine hrun.mono ?_)
  rintro e W0 ⟨rfl,b0⟩
  have hpos:0<d.length:=aeC;have hs0:0<s.length:=aeC;have hsz:0<(⟨s.toArray⟩:ByteArray).size:=by grind [ByteArray.size]
  have hg0:(⟨s.toArray⟩:ByteArray)[0]=s[0]:=rfl;have hgn:∀x:UInt8,(s.head? =some x)↔s[0]=x:=fun x=>by
   rw[List.head?_eq_getElem?,List.getElem?_eq_getElem hs0];simp
  cases d0:((d.length:Int)==0)
  case true=>exact absurd aeD h0
  have hS:(⟨(qA neg).toArray⟩:ByteArray)++(⟨s.toArray⟩:ByteArray).extract 0 d.length=⟨(qA neg++d).toArray⟩:=by
   apply ByteArray.ext
   simp_all
  have hcat:¬9223372036854775807<List.length (qA neg)+d.length:=by grind [zX]
  cases d1:decide (1<(d.length:Int))
  ·have f1:¬1<d.length:=by grind
   have en:fc neg s=if inI neg d then(AT neg d,d.length)else(0,0):=by
    unfold fc;rw[ed,if_neg aeD];rfl
   have hv0:W0.cell? ⟨2,0,none⟩=some ev:=by rw[b0.cell hg];omega
   by_cases hr:inI neg d
   ·rw[if_pos hr]at en
    go_wp2_with (go_at_call 77;refine(Cm neg d e0 hall aeC _ aeR hr _).mono ?_)
    rintro e W1 ⟨rfl,b1⟩
    go_wp2
    go_ret2
    rw[en];exact agp
   ·rw[if_neg hr]at en
    go_wp2_with (go_at_call 77;refine(Dn neg d e0 hall aeC _ aeR hr _ ev hv0 hev).mono ?_)
    rintro e W1 ⟨⟨x,N,rfl⟩,b1⟩
    go_wp2
    go_ret2
    rw[en];exact agp
  ·have f1:1<d.length:=by grind
   cases d2:((s[0].toNat:Int)==48)
   ·have f2:s.head?≠some 48:=by
     rw[ne_eq,hgn];intro e;simp_all
    have en:fc neg s=if inI neg d then(AT neg d,d.length)else(0,0):=by
     unfold fc;rw[ed,if_neg aeD];rfl
    have hv0:W0.cell? ⟨2,0,none⟩=some ev:=by rw[b0.cell hg];omega
    by_cases hr:inI neg d
    ·rw[if_pos hr]at en
     go_wp2_with (go_at_call 77;refine(Cm neg d e0 hall aeC _ aeR hr _).mono ?_)
     rintro e W1 ⟨rfl,b1⟩
     go_wp2
     go_ret2
     rw[en];exact agp
    ·rw[if_neg hr]at en
     go_wp2_with (go_at_call 77;refine(Dn neg d e0 hall aeC _ aeR hr _ ev hv0 hev).mono ?_)
     rintro e W1 ⟨⟨x,N,rfl⟩,b1⟩
     go_wp2
     go_ret2
     rw[en];exact agp
   ·have f2:s.head? =some 48:=by
     rw[hgn];have:(s[0].toNat:Int)=48:=aeD;exact UInt8.toNat_inj.1 aeD
    have en:fc neg s=(0,0):=by simp_all [fc,if_pos]
    go_wp2
    go_ret2
    simp_all
def iB(h:Heap):Prop:=∃ev:Value,(ev= .nilIface∨∃te pe,ev= .iface te pe)∧Tab h 2 [ev]
theorem iB.sub{h h' :Heap}(he:iB h)(hs:Ab.Sub h h'):iB h' :=by obtain⟨ev,h1,h2⟩:=he;exact⟨ev,h1,h2.sub hs⟩
theorem mS(neg:Bool)(s:Txt)(hs:s.length≤10000)(h:Heap)(he:iB h):ai prog 187 [.s (qA neg),.s s] h fun r h' =>r= .tup [.v (.int .i64 (fc neg s).1),.i ((fc neg s).2:Nat)]∧h' =h:=by
 obtain⟨ev,hev,id,hi⟩:=he;refine .lib ⟨_,func187,aeR,rfl⟩ fun c vs hs' g h1 h2=>?_
 obtain⟨u,v,rfl⟩:∃u v,vs= #[u,v]:=by
  match vs,h1 with
  |⟨[u,v]⟩,_=>exact⟨u,v,rfl⟩
 have e1:u= .string ⟨(qA neg).toArray⟩:=((h2 0 aeJ).lW).1;have e2:v= .string ⟨s.toArray⟩:=((h2 1 aeJ).lW).1;subst e1;subst e2
 obtain⟨_,t,fr,hh⟩:=g.ro id _ _ (hs' _ _ hi);have hc:c.w.cell? ⟨2,0,none⟩=some ev:=by grind [World.cell?]
 refine(EI neg s hs c.w ev hc hev (cX hh)).mono ?_;exact ajF
end Go.Proofs.YtelkmnkejghkeaaGreatDoor
namespace Go.Bf
open Go Go.Ab
def marks:Txt:=[123,125,40,41,46,44,59,61,60,62,33]
theorem AA:∀n:Fin 256,decide (0≤Lib.indexByte marks (UInt8.ofNat n.val))=Ey (UInt8.ofNat n.val):=aeG
theorem se(c:UInt8):decide (0≤Lib.indexByte marks c)=Ey c:=by have:=AA ⟨c.toNat,c.toNat_lt⟩;simpa using this
end Go.Bf
namespace Go.Proofs.YtelkmnkejghkeaaGreatDoor
open Go Go.Ab Go.Bf Tryz
variable {f:FuncId}{args xs:List AV}{st st':PS}{R y:AV}{h G B H K a h':Heap}{Q:AV→Heap→Prop}{j idw mid nr nk d:Nat}{e:TypeId}{ex:ExF}{S:List Nat}{m m1:eP}{s:Txt}{alg:Int}{tgt:gv}{obls:List cB}{rules:List cQ}{kids:List bD}
theorem Ee(l:Txt)(c:UInt8)(h:Heap):ai prog 189 [.s l,.v (.int .u8 c.toNat)] h fun r h' =>r= .i (Lib.indexByte l c)∧h' =h:=by
 refine .lib ⟨_,func189,aeR,rfl⟩ fun cx vs hs' g h1 h2=>?_
 obtain⟨u,v,rfl⟩:∃u v,vs= #[u,v]:=by
  match vs,h1 with
  |⟨[u,v]⟩,_=>exact⟨u,v,rfl⟩
 have e1:u= .string ⟨l.toArray⟩:=((h2 0 aeJ).lW).1;have e2:v= .int .u8 c.toNat:=(h2 1 aeJ).bQ;subst e1;subst e2
 refine(Tryz.strings_IndexByte ⟨l.toArray⟩ c.toNat cx.w).mono ?_;exact ajN
theorem Jv(s:Txt)(h0:s≠ [])(hs:s.length≤4096)(h:Heap)(he:iB h):ai prog 134 [.s s] h fun r h' =>r= .tup [fL (bM s).1,.i ((bM s).2:Nat)]∧h' =h:=by
 refine aeB func134 106 [.cell 2 157,.tmp 3] fun hwf=>?_
 obtain⟨c,r,rfl⟩:=List.exists_cons_of_ne_nil h0;have hsl:r.length≤4095:=by simpa using hs
 simp only[go_sem];intro i2 hi2;simp only[go_sem];intro i4 hi4;have n24:=aI hi4;have g2:∀(f:Heap) (x:Option Blk),upd f i4 x i2=f i2:=fun f x=>ag f x n24.symm
 have g4:∀(f:Heap) (x:Option Blk),upd f i2 x i4=f i4:=fun f x=>ag f x n24
 have hsub:Ab.Sub h (upd (upd h i2 (some (.obj [.i 0,.i 0,.i 0,.s []] 157))) i4 (some (.obj [.i 0,.i 0,.i 0,.s []] 157))):=(Sub.aj hi2).trans (.aj hi4);have he2:=he.sub hsub;have hi4h:h i4=none:=by rw[ag _ _ n24]at hi4;exact hi4
 simp only[go_sem];refine .at 0 aeJ ?_;cases la:decide (97≤(c.toNat:Int))
 ·have hl:ltr c=false:=by simp only[ltr,la,Bool.false_and]
  simp only[go_sem,aJ,List.getElem_cons_zero,la];exact aiN
 ·cases lb:decide ((c.toNat:Int)≤122)
  ·have hl:ltr c=false:=by simp only[ltr,lb,Bool.and_false]
   simp only[go_sem,aJ,List.getElem_cons_zero,la,lb];exact aiN
  ·have hl:ltr c=true:=by simp only[ltr,la,lb];rfl
   simp only[go_sem,aJ,List.getElem_cons_zero,la,lb];refine(zA _ _).pthen ?_;simp only[go_sem,g2,ah];exact .mk _ (.refl _) aeE ⟨by simp[bM,hl,fL,ax],rfl⟩
theorem QV:(U 157).sz=4:=aeR
theorem WW:(U 157).bytes=40:=aeR
theorem qo(l:List qC):Sized 4 (l.map fL):=fun z hz=>by
 obtain⟨c,_,rfl⟩:=List.mem_map.1 hz;rfl
def GM:Lexed→AV
 |.bad e a=> .tup [.sl [] .no,.i e,.i a]
 |.ok l=> .tup [.sl (l.map fL) .no,.i 0,.i 0]
def LK(s:Txt)(h:Heap)(m:Nat)(ρ:Env)(h' :Heap):Prop:=
 ∃(i f:Nat) (y:AV) (out:List qC) (id:Nat),Acc U 157 h h' y (out.map fL)∧out.length≤i∧i≤s.length∧m=s.length - i∧s.length<f+i∧s.length≤4096∧h id=none∧(∃c0 c1 c2 c3,h' id=some (.obj [c0,c1,c2,c3] 157))∧qF f (s.drop i) i out=pR s∧lk ρ 0=some (.s s)∧lk ρ 5=some y∧lk ρ 6=some (.ptr id 0)∧lk ρ 7=some (.i i)
theorem yx(s:Txt)(h:Heap)(he:iB h):ai prog 76 [.s s] h fun r h' =>r=GM (pR s)∧h' =h:=by
 refine ai.of_wp hU func76 rfl aeR 52 rfl [.tmp 2,.tmp 3,.tmp 4] rfl (aer rfl) ?_;refine .one hU hm ?_;simp only[go_sem];refine WP.Of hU hm 0 (LK s h) rfl ?_ ?_
 ·rintro m ρ h' ⟨i,f,y,out,id,hy,hoi,hi,rfl,hf,hs,hid,⟨c0,c1,c2,c3,hob⟩,hl,r0,r5,r6,r7⟩
  refine .vc hU hm ?_;cases d1:((i:Int)==(s.length:Int))
  case true=>
   have e1:i=s.length:=aeD;subst e1;obtain⟨f,rfl⟩:∃g,f=g+1:=⟨f - 1,aeC⟩;rw[List.drop_length]at hl;simp only[qF]at hl;simp only[go_sem,r0,r5,r7,d1];refine hy.app (zs:=[fL ⟨7,s.length,0,[]⟩]) aeG aeG (fun k hk=>hk) (by grind [QV,qo]) (by rw[QV];exact qo [⟨7,s.length,0,[]⟩]) (by grind [WW]) fun y' h2 hy' hk2=>?_
   simp only[go_sem];obtain⟨q,rfl⟩:=hy'.row;refine .mk _ (B4 _ _ _ _) hy'.1 ⟨?_,rfl⟩
   grind [GM]
  have e1:i≠s.length:=aeD;have hlt:i<s.length:=aeC;obtain⟨f,rfl⟩:∃g,f=g+1:=⟨f - 1,aeC⟩;have hdr:s.drop i=s[i]::s.drop (i+1):=aeJ;have w1:IntKind.i64.wrap ((i:Int)+1)=((i+1:Nat):Int):=aeN;have hl2:=hl;rw[hdr]at hl2;simp only[qF]at hl2;rw[←hdr]at hl2;have blank:qQ s[i]=true→∃m',m' <s.length - i∧True:=fun _=>⟨s.length - (i+1),aeC,trivial⟩
  cases d2:((s[i].toNat:Int)==32)
  case true=>
   have hb:qQ s[i]=true:=by simp only[qQ,d2,Bool.true_or]
   rw[if_pos hb]at hl2;simp only[go_sem,r0,r7,d1];refine .at i hlt ?_;simp only[go_sem,r7,aJ,d2,w1];exact ajE
  cases d3:((s[i].toNat:Int)==10)
  case true=>
   have hb:qQ s[i]=true:=by simp only[qQ,d3,Bool.or_true]
   rw[if_pos hb]at hl2;simp only[go_sem,r0,r7,d1];refine .at i hlt ?_;simp only[go_sem,r0,r7,aJ,d2];refine .at i hlt ?_;simp only[go_sem,r7,aJ,d3,w1];exact ajE
  have hb:¬qQ s[i]=true:=by grind [qQ]
  rw[if_neg hb]at hl2;have hne:s.drop i≠ []:=fun e=>by have:=congrArg List.length e;simp at this;omega
  have hle:=sP (s.drop i) hne;have hdl:(s.drop i).length=s.length - i:=aeJ;have hbo:=fun hh eh=>Jv (s.drop i) hne aeC hh eh
  obtain⟨t,n,etn⟩:∃t n,bM (s.drop i)=(t,n):=⟨_,_,rfl⟩;rw[etn]at hbo hl2 hle;simp only[fL]at hbo hl2 hle;simp only[go_sem,r0,r7,d1];refine .at i hlt ?_;simp only[go_sem,r0,r7,aJ,d2];refine .at i hlt ?_;simp only[go_sem,r0,r7,aJ,d3,mH,Option.isSome_none,Option.isSome_some,Int.toNat_natCast];refine⟨aeC,aeC,aeC,?_⟩;refine(hbo _ (he.sub hy.1)).pthen ?_;cases d4:((n:Int)==0)
  case true=>
   have e4:n=0:=aeD;rw[if_pos e4]at hl2;simp only[go_sem,r6,r7,hob,d4];refine .mk _ (B4 _ _ _ _) (hy.1.put hid _) ⟨?_,rfl⟩;rw[←hl2];rfl
  have e4:n≠0:=aeD;rw[if_neg e4]at hl2;have w2:IntKind.i64.wrap ((i:Int)+(n:Int))=((i+n:Nat):Int):=aeN;simp only[go_sem,r5,r6,r7,hob,d4];refine(hy.put hid hob _).app (zs:=[fL {t with pos:=i}]) aeG aeG (fun k hk=>hk) (by grind [QV,qo]) (by rw[QV];exact qo [{t with pos:=i}]) (by grind [WW]) fun y' h2 hy' hk2=>?_
  simp only[go_sem,r7,w2];refine⟨s.length - (i+n),aeC,i+n,f,y',out++ [{t with pos:=i}],id,aeD,aeD,aeC,rfl,aeC,hs,hid,⟨_,_,_,_,hk2 _ _ _ (ah ..)⟩,?_,?_,?_,?_,?_⟩
  ·grind [List.drop_drop]
  all_goals simp only[go_sem,r0,r6]
 ·intro nx
  cases d0:decide (4096<(s.length:Int))
  case true=>
   have e0:s.length>4096:=aeD;refine .one hU hm ?_;simp only[go_sem,d0];exact .mk (.tup [.sl [] .no,.i 6,.i 4096]) (fM (.tup [.sl [] .full,.i 6,.i 4096])) (.refl _) ⟨by rw[pR,if_pos e0];rfl,rfl⟩
  have e0:¬s.length>4096:=aeD;refine .one hU hm ?_;simp only[go_sem,d0];refine .one hU hm ?_;simp only[go_sem];refine .one hU hm ?_;simp only[go_sem];intro id hid;simp only[go_sem];refine .one hU hm ?_;simp only[go_sem];refine .one hU hm ?_;simp only[go_sem];refine nx (s.length - 0) _ _ ⟨0,s.length+1,_,[],id,.full (.aj hid),aeJ,aeC,rfl,aeC,aeC,hid,⟨_,_,_,_,ah ..⟩,by simp_all [pR,if_neg],?_,?_,?_,?_⟩<;>simp only[go_sem]
def PO(st:PS):Blk:=.obj [.sl (st.ts.map fL) .no,.i st.pos,.i st.rules,.i st.bad,.i st.place] 168
def PC(f:FuncId)(args:List AV)(st:PS)(R:AV)(st' :PS):Prop:=∀(h:Heap) (id:Nat),h id=some (PO st)→ai prog f (.ptr id 0::args) h fun r h' =>r=R∧h' =upd h id (some (PO st'))
theorem PC.go(hc:PC f args st R st'){id:Nat}(hid:h id=some (PO st))(k:Q R (upd h id (some (PO st')))):ai prog f (.ptr id 0::args) h Q:=
 (hc h id hid).mono fun r h' ⟨e1,e2⟩=>ahd
theorem bF{id:Nat}{b:Option Blk}(e:h id=b):upd h id b=h:=by grind [ah,ag]
theorem rV(st:PS)(e p:Int):PC 91 [.i e,.i p] st (.tup []) (bH st e p):=fun h id hid=>by
 refine aeB func91 19 [] fun hwf=>?_
 have g:=hid;unfold PO at g;cases d1:(st.bad==0)
 ·have e1:st.bad≠0:=by grind
  simp only[go_sem,g,d1];exact .mk _ (.refl _) (.refl _) ⟨rfl,by rw[bH,if_neg e1,bF hid]⟩
 ·have e1:st.bad=0:=by grind
  simp only[go_sem,g,d1];exact .mk _ (.refl _) (.refl _) ⟨rfl,by rw[bH,if_pos e1];rfl⟩
theorem mL(st:PS)(hw:WfP st):PC 88 [] st (fL (aL st)) st:=fun h id hid=>by
 refine aeB func88 13 [.cell 2 157] fun hwf=>?_
 have g:=hid;unfold PO at g;simp only[go_sem];intro i2 hi2;have n2:id≠i2:=fun e=>aeD
 simp only[go_sem,g,ak,n2];refine⟨.of aeF,?_⟩;refine .at st.pos (by simpa using hw.1) aeQ ?_
 simp only[go_sem,aet,fL];refine .mk _ (.refl _) (.aj hi2) ⟨by rw[Eb hw.1];rfl,(bF hid).symm⟩
theorem lY(st:PS)(hw:WfP st):PC 89 [] st (.tup []) (br st):=fun h id hid=>by
 refine aeB func89 7 [] fun hwf=>?_
 simp only[go_sem];refine(mL st hw).go hid ?_;rw[bF hid];simp only[go_sem,fL];refine(rV st 5 _).go hid ?_;exact ajl
theorem cO(st:PS)(b:Bool)(hw:WfP st):PC 199 [.b b] st (.tup []) (bE st b):=fun h id hid=>by
 refine aeB func199 10 [] fun hwf=>?_
 cases b
 ·simp only[go_sem]
  exact ahj
 simp only[go_sem];refine(mL st hw).go hid ?_;rw[bF hid];simp only[go_sem,fL];refine(rV st 6 _).go hid ?_;exact ajl
theorem um(st:PS)(s:Txt)(hw:WfP st):PC 200 [.s s] st (.b (isD st s)) st:=fun h id hid=>by
 refine aeB func200 29 [.tmp 4] fun hwf=>?_
 have g:=hid;unfold PO at g;simp only[go_sem];refine(mL st hw).go hid ?_;rw[bF hid];simp only[go_sem,fL];intro i2 hi2;have n2:id≠i2:=fun e=>aeD
 cases d1:(st.bad==0)<;>cases d2:((aL st).s==s)<;>cases d3:((aL st).kind==1)<;>cases d4:((aL st).kind==6)
 all_goals
  simp only[go_sem,g,ak,n2,d1,d2,d3,d4];exact .mk _ (.refl _) (.aj hi2) ⟨by simp only[isD,d1,d2,d3,d4];rfl,rfl⟩
theorem kI(st:PS)(s:Txt)(hw:WfP st):PC 197 [.s s] st (.v (.bool (cq st s).1)) (cq st s).2:=fun h id hid=>by
 refine aeB func197 18 [.tmp 4] fun hwf=>?_
 have g:=hid;unfold PO at g;simp only[go_sem];refine(um st s hw).go hid ?_;rw[bF hid];cases d1:isD st s
 ·have e:cq st s=(false,st):=by grind [cq]
  simp only[go_sem];exact .mk _ (.refl _) (.refl _) ⟨aio,by grind [bF]⟩
 ·have e:cq st s=(true,bh st):=by grind [cq]
  have w1:IntKind.i64.wrap ((st.pos:Int)+1)=((st.pos+1:Nat):Int):=agj;simp only[go_sem,g,w1];exact .mk _ (.refl _) (.refl _) ⟨aio,aio⟩
theorem lB(st:PS)(s:Txt)(hw:WfP st):PC 146 [.s s] st (.tup []) (eu st s):=fun h id hid=>by
 refine aeB func146 10 [] fun hwf=>?_
 simp only[go_sem];refine(kI st s hw).go hid ?_;cases d1:isD st s
 ·have e:cq st s=(false,st):=by grind [cq]
  rw[e,bF hid];simp only[go_sem];refine(lY st hw).go hid ?_;exact akh
 ·have e:cq st s=(true,bh st):=by grind [cq]
  rw[e];exact akh
theorem uH(st:PS)(hw:WfP st):PC 144 [] st (.s (cp st).1) (cp st).2:=fun h id hid=>by
 refine aeB func144 25 [.tmp 2] fun hwf=>?_
 have g:=hid;unfold PO at g;have w1:IntKind.i64.wrap ((st.pos:Int)+1)=((st.pos+1:Nat):Int):=agj;simp only[go_sem];refine(mL st hw).go hid ?_;rw[bF hid];simp only[go_sem,fL];intro i2 hi2;have n2:id≠i2:=fun e=>aeD
 cases d1:((aL st).kind !=1)
 case true=>
  have e1:(aL st).kind≠1:=aeD;have en:cp st=([],br st):=by grind [cp]
  simp only[go_sem,d1];have hid2:upd h i2 (some (.obj [.v (.int .i64 (aL st).kind),.v (.int .i64 (aL st).pos),.v (.int .i64 (aL st).n),.s (aL st).s] 157)) id=some (PO st):=afe;refine(lY st hw).go hid2 ?_;have hb:(br st).bad≠0:=by
   grind [br,bH,Int]
  have d2:((br st).bad !=0)=true:=aeD;simp only[go_sem,PO,d2];exact .mk _ (.refl _) (Sub.both (.aj hi2) _ _) ⟨afu,aeD⟩
 have e1:(aL st).kind=1:=aeD;cases d2:(st.bad !=0)
 case true=>
  have e2:st.bad≠0:=aeD;have en:cp st=([],st):=by grind [cp]
  simp only[go_sem,g,ak,n2,d1,d2];exact .mk _ (.refl _) (.aj hi2) ⟨afu,by grind [bF]⟩
 have e2:st.bad=0:=aeD;have en:cp st=((aL st).s,bh st):=by grind [cp]
 simp only[go_sem,g,ak,n2,n2.symm,d1,d2,w1];exact .mk _ (.refl _) (Sub.both (.aj hi2) _ _) ⟨afu,by rw[en];try rfl⟩
theorem PC.run(hc:PC f args st R st'){id:Nat}(k:Q R (upd G id (some (PO st')))):ai prog f (.ptr id 0::args) (upd G id (some (PO st))) Q:=
 hc.go (ah ..) (by rw[ew];exact k)
theorem PC.of(hk:∀(G:Heap) (id:Nat),ai prog f (.ptr id 0::args) (upd G id (some (PO st))) fun r h' =>r=R∧h' =upd G id (some (PO st'))):PC f args st R st' :=fun h id hid=>by
 have:=hk h id;rw[bF hid]at this;exact afk
theorem cy{α:Type}(f:Nat→α){i:Nat}(x y:α)(h:i≠j):upd (upd f i x) j y=upd (upd f j y) i x:=by grind [ag,ah]
theorem CD{s:Txt}:∀ {ws:List Txt} {i:Nat},vB s ws=some i→i<ws.length
 |w::r,i,h=>by
  simp only[vB]at h;split at h
  ·grind
  ·cases hr:vB s r with
   |none=>grind
   |some j=>rw[hr]at h;cases h;have:=CD hr;simp;omega
theorem Ix{s:Txt}:∀ {ws:List Txt} (i:Nat) (hi:i<ws.length),(∀j (hj:j<ws.length),j<i→ws[j]≠s)→ws[i]=s→vB s ws=some i
 |w::r,0,_,_,h=>by grind [vB]
 |w::r,i+1,hi,hb,h=>by
  have h0:=hb 0 aeJ aeC;simp only[List.getElem_cons_zero]at h0;simp only[vB,if_neg h0];rw[Ix i aeD aeD aeD];rfl
theorem Bp{s:Txt}:∀ {ws:List Txt},(∀j (hj:j<ws.length),ws[j]≠s)→vB s ws=none
 | [],_=>rfl
 |w::r,hb=>by
  have h0:=hb 0 aeJ;simp only[List.getElem_cons_zero]at h0;simp only[vB,if_neg h0];rw[Bp (fun j hj=>by have:=hb (j+1) aeD;simpa using this)]
  rfl
def S3(o:Option Nat):Int:=match o with
 |some i=>i
 |none=> -1
theorem Ko(ws:List Txt)(q:Perm)(s:Txt)(hl:ws.length≤1000)(h:Heap):ai prog 196 [.sl (ws.map AV.s) q,.s s] h fun r h' =>r= .i (S3 (vB s ws))∧h' =h:=by
 refine aeB func196 19 [.tmp 4] fun hwf=>?_
 simp only[go_sem,aes];refine .intro (fun m ρ h' =>h' =h∧∃i:Nat,i≤ws.length∧m=ws.length - i∧(∀j (hj:j<ws.length),j<i→ws[j]≠s)∧lk ρ 0=some (.sl (ws.map AV.s) q)∧lk ρ 1=some (.s s)∧lk ρ 7=some (.i ws.length)∧lk ρ 8=some (.i i)) ws.length ?_ ?_
 ·refine⟨rfl,0,aeC,rfl,fun j _ hj=>aeC,?_,?_,?_,?_⟩<;>simp only[go_sem]
 ·rintro m ρ h' ⟨rfl,i,hi,rfl,hc,r0,r1,r7,r8⟩
  simp only[go_sem,r7,r8];refine .intro (fun e=>?_) (fun e=>?_)
  ·have hlt:i<ws.length:=aez e
   have w1:IntKind.i64.wrap ((i:Int)+1)=((i+1:Nat):Int):=aeN;simp only[go_sem,r0,r1,r8];refine .at i aeD aeQ ?_;cases d1:(s==ws[i])
   ·have e1:ws[i]≠s:=by grind
    simp only[go_sem,r8,aet,d1,w1];refine⟨_,?_,rfl,i+1,aeC,rfl,fun j hj hji=>?_,?_,?_,?_,?_⟩
    ·omega
    ·grind
    all_goals simp only[go_sem,r0,r1,r7]
   ·have e1:ws[i]=s:=by grind
    simp only[go_sem,aet,d1];exact .same (.refl _) ⟨by rw[Ix i hlt hc e1];rfl,rfl⟩
  ·have hge:i=ws.length:=by grind
   subst hge;simp only[go_sem];exact .same (.refl _) ⟨by rw[Bp fun j hj=>hc j hj hj];rfl,rfl⟩
theorem oU(st:PS)(ws:List Txt)(q:Perm)(hl:ws.length≤1000)(hw:WfP st):PC 143 [.sl (ws.map AV.s) q] st (.v (.int .i64 (aZ st ws).1)) (aZ st ws).2:=.of fun G id=>by
 refine aeB func143 28 [.tmp 4] fun hwf=>?_
 simp only[go_sem];refine(mL st hw).run ?_;simp only[go_sem,fL];intro i2 hi2;have n2:=aI hi2;have hG2:G i2=none:=afe;have c2:∀(f:Heap) (x y:Option Blk),upd (upd f id x) i2 y=upd (upd f i2 y) id x:=fun f x y=>cy f x y n2.symm
 cases d1:((aL st).kind==1)
 ·have e1:(aL st).kind≠1:=by grind
  have en:aZ st ws=(0,br st):=by grind [aZ]
  simp only[go_sem,c2,ak,n2,d1];exact aji
 have e1:(aL st).kind=1:=aeD;simp only[go_sem,c2,ak,n2,d1];refine(Ko ws q _ hl _).pthen ?_;cases ei:vB (aL st).s ws with
 |none=>
  have en:aZ st ws=(0,br st):=by grind [aZ]
  have dm:decide ((0:Int)≤ -1)=false:=aeG;simp only[go_sem,S3,dm];exact aji
 |some i=>
  have hil:=CD ei;have d2:decide (0≤(i:Int))=true:=aeJ;have w1:IntKind.i64.wrap ((i:Int)+1)=((i:Int)+1):=aeN;simp only[go_sem,S3,d2,ak,n2];refine(kI st _ hw).run ?_;cases d3:(st.bad==0)
  ·have e3:st.bad≠0:=by grind
   have et:cq st (aL st).s=(false,st):=by grind [cq,isD]
   have en:aZ st ws=(0,br st):=by grind [aZ]
   rw[et];simp only[go_sem];exact aji
  ·have e3:st.bad=0:=by grind
   have et:cq st (aL st).s=(true,bh st):=by grind [cq,isD]
   have en:aZ st ws=((i:Int)+1,bh st):=by grind [aZ]
   rw[et];simp only[go_sem,w1];exact .mk _ (.refl _) (Sub.both (.aj hG2) _ _) ⟨afu,by rw[en]⟩
theorem L4(st:PS)(hw:WfP st):PC 290 [] st (Dp (gp st).1) (gp st).2:=.of fun G id=>by
 have h1:=gN wC hw;have h2:=jC [46] h1.1;have h3:=nQ h2.1;refine aeB func290 17 [.cell 2 216] fun hwf=>?_
 simp only[go_sem];intro i2 hi2;have n2:=aI hi2;have hG2:G i2=none:=afe;have c2:∀(f:Heap) (x y:Option Blk),upd (upd f id x) i2 y=upd (upd f i2 y) id x:=fun f x y=>cy f x y n2.symm
 simp only[go_sem,c2];intro i3 hi3;have n3:=aI hi3;have hi3' :=hi3;rw[ag _ _ n3]at hi3';have n32:=aI hi3';have hG3:G i3=none:=afe;have c3:∀(f:Heap) (x y:Option Blk),upd (upd f id x) i3 y=upd (upd f i3 y) id x:=fun f x y=>cy f x y n3.symm
 have c23:∀(f:Heap) (x y:Option Blk),upd (upd f i3 x) i2 y=upd (upd f i2 y) i3 x:=fun f x y=>cy f x y n32
 have m32:¬i3=i2:=n32;have m23:¬i2=i3:=n32.symm;simp only[go_sem,c3];refine(oU st wC .full aeG hw).run ?_;simp only[go_sem,c3,ak,n3];refine(lB _ [46] h1.1).run ?_;simp only[go_sem];refine(uH _ h2.1).run ?_;simp only[go_sem,c3,ak,n3];refine(kI _ [33] h3.1).run ?_;simp only[go_sem,c2,c3,c23,ak,n2,n3,m23];exact .mk _ (.refl _) (Sub.both ae6 _ _) ⟨rfl,rfl⟩
theorem u9(st:PS)(hw:WfP st):PC 291 [] st (aS (aD st).1) (aD st).2:=.of fun G id=>by
 refine aeB func291 56 [.cell 2 48] fun hwf=>?_
 have w1:IntKind.i64.wrap ((st.pos:Int)+1)=((st.pos+1:Nat):Int):=agj;simp only[go_sem];intro i2 hi2;have n2:=aI hi2;have hG2:G i2=none:=by rw[ag _ _ n2]at hi2;exact hi2
 have c2:∀(f:Heap) (x y:Option Blk),upd (upd f id x) i2 y=upd (upd f i2 y) id x:=fun f x y=>cy f x y n2.symm
 simp only[go_sem,c2];refine(mL st hw).run ?_;simp only[go_sem,fL];intro i3 hi3;have n3:=aI hi3;have hi3' :=hi3;rw[ag _ _ n3]at hi3';have n32:=aI hi3';have hG3:G i3=none:=by rw[ag _ _ n32]at hi3';exact hi3'
 have c3:∀(f:Heap) (x y:Option Blk),upd (upd f id x) i3 y=upd (upd f i3 y) id x:=fun f x y=>cy f x y n3.symm
 have c23:∀(f:Heap) (x y:Option Blk),upd (upd f i3 x) i2 y=upd (upd f i2 y) i3 x:=fun f x y=>cy f x y n32
 have m32:¬i3=i2:=n32;have m23:¬i2=i3:=n32.symm;simp only[go_sem,c3,ak,n3];intro i4 hi4;have n4:=aI hi4;have hi4' :=hi4;rw[ag _ _ n4]at hi4';have n43:=aI hi4';have hi4'' :=hi4';rw[ag _ _ n43]at hi4'';have n42:=aI hi4'';have hG4:G i4=none:=by rw[ag _ _ n42]at hi4'';exact hi4''
 have c4:∀(f:Heap) (x y:Option Blk),upd (upd f id x) i4 y=upd (upd f i4 y) id x:=fun f x y=>cy f x y n4.symm
 have c24:∀(f:Heap) (x y:Option Blk),upd (upd f i4 x) i2 y=upd (upd f i2 y) i4 x:=fun f x y=>cy f x y n42
 have c34:∀(f:Heap) (x y:Option Blk),upd (upd f i4 x) i3 y=upd (upd f i3 y) i4 x:=fun f x y=>cy f x y n43
 have m42:¬i4=i2:=n42;have m24:¬i2=i4:=n42.symm;have m43:¬i4=i3:=n43;have m34:¬i3=i4:=n43.symm;cases k2:((aL st).kind==2)
 case true=>
  have e2:(aL st).kind=2:=by simpa using k2
  have ev:gm st=(⟨2,(aL st).n,(aL st).s⟩,st):=by simp[gm,e2]
  cases kb:(st.bad !=0)
  ·have eb:st.bad=0:=by simpa using kb
   have en:aD st=(⟨2,(aL st).n,(aL st).s⟩,bh st):=af0;simp only[go_sem,c2,c4,c23,c24,ak,n2,n3,n4,m23,m24,m34,k2,PO,kb,w1];exact aiT
  ·have eb:st.bad≠0:=by simpa using kb
   have en:aD st=(⟨0,0,[]⟩,st):=af0;simp only[go_sem,c2,c4,c23,c24,ak,n2,n3,n4,m23,m24,m34,k2,PO,kb];exact aiT
 have e2:(aL st).kind≠2:=by simpa using k2
 cases k3:((aL st).kind==3)
 case true=>
  have e3:(aL st).kind=3:=by simpa using k3
  have ev:gm st=(⟨4,(aL st).n,(aL st).s⟩,st):=by simp[gm,e3]
  cases kb:(st.bad !=0)
  ·have eb:st.bad=0:=by simpa using kb
   have en:aD st=(⟨4,(aL st).n,(aL st).s⟩,bh st):=af0;simp only[go_sem,c2,c4,c23,c24,ak,n2,n3,n4,m23,m24,m34,k2,k3,PO,kb,w1];exact aiT
  ·have eb:st.bad≠0:=by simpa using kb
   have en:aD st=(⟨0,0,[]⟩,st):=af0;simp only[go_sem,c2,c4,c23,c24,ak,n2,n3,n4,m23,m24,m34,k2,k3,PO,kb];exact aiT
 have e3:(aL st).kind≠3:=by simpa using k3
 cases k4:((aL st).kind==4)
 case true=>
  have e4:(aL st).kind=4:=by simpa using k4
  have ev:gm st=(⟨5,(aL st).n,(aL st).s⟩,st):=by simp[gm,e4]
  cases kb:(st.bad !=0)
  ·have eb:st.bad=0:=by simpa using kb
   have en:aD st=(⟨5,(aL st).n,(aL st).s⟩,bh st):=af0;simp only[go_sem,c2,c4,c23,c24,ak,n2,n3,n4,m23,m24,m34,k2,k3,k4,PO,kb,w1];exact aiT
  ·have eb:st.bad≠0:=by simpa using kb
   have en:aD st=(⟨0,0,[]⟩,st):=af0;simp only[go_sem,c2,c4,c23,c24,ak,n2,n3,n4,m23,m24,m34,k2,k3,k4,PO,kb];exact aiT
 have e4:(aL st).kind≠4:=by simpa using k4
 cases k5:((aL st).kind==5)
 case true=>
  have e5:(aL st).kind=5:=by simpa using k5
  have ev:gm st=(⟨3,(aL st).n,(aL st).s⟩,st):=by simp[gm,e5]
  cases kb:(st.bad !=0)
  ·have eb:st.bad=0:=by simpa using kb
   have en:aD st=(⟨3,(aL st).n,(aL st).s⟩,bh st):=af0;simp only[go_sem,c2,c4,c23,c24,ak,n2,n3,n4,m23,m24,m34,k2,k3,k4,k5,PO,kb,w1];exact aiT
  ·have eb:st.bad≠0:=by simpa using kb
   have en:aD st=(⟨0,0,[]⟩,st):=af0;simp only[go_sem,c2,c4,c23,c24,ak,n2,n3,n4,m23,m24,m34,k2,k3,k4,k5,PO,kb];exact aiT
 have e5:(aL st).kind≠5:=by simpa using k5
 simp only[go_sem,c4,ak,n3,n4,m34,k2,k3,k4,k5];refine(um st xA hw).run ?_;cases kt:isD st xA
 case true=>
  have ev:gm st=(⟨1,1,[]⟩,st):=by simp[gm,e2,e3,e4,e5,kt]
  cases kb:(st.bad !=0)
  ·have eb:st.bad=0:=by simpa using kb
   have en:aD st=(⟨1,1,[]⟩,bh st):=af0;simp only[go_sem,c2,c4,c23,c24,ak,n2,n4,m23,m24,PO,kb,w1];exact aiT
  ·have eb:st.bad≠0:=by simpa using kb
   have en:aD st=(⟨0,0,[]⟩,st):=af0;simp only[go_sem,c2,c4,c23,c24,ak,n2,n4,m23,m24,PO,kb];exact aiT
 simp only[go_sem];refine(um st qZ hw).run ?_;cases kf:isD st qZ
 case true=>
  have ev:gm st=(⟨1,0,[]⟩,st):=by simp[gm,e2,e3,e4,e5,kt,kf]
  cases kb:(st.bad !=0)
  ·have eb:st.bad=0:=by simpa using kb
   have en:aD st=(⟨1,0,[]⟩,bh st):=af0;simp only[go_sem,c2,c4,c23,c24,ak,n2,n4,m23,m24,PO,kb,w1];exact aiT
  ·have eb:st.bad≠0:=by simpa using kb
   have en:aD st=(⟨0,0,[]⟩,st):=af0;simp only[go_sem,c2,c4,c23,c24,ak,n2,n4,m23,m24,PO,kb];exact aiT
 have ev:gm st=(⟨0,(aL st).n,(aL st).s⟩,br st):=by simp[gm,e2,e3,e4,e5,kt,kf]
 have en:aD st=(⟨0,0,[]⟩,br st):=by simp[aD,ev,sw]
 have kb:((br st).bad !=0)=true:=by simpa using sw st
 simp only[go_sem];refine(lY st hw).run ?_;simp only[go_sem,c2,c23,c24,ak,n2,m23,m24,PO,kb];exact aiT
def uz:List Txt:=[[61],[60],[62]]
theorem Tt(i:Nat)(hi:i<uz.length)(hb:∀j (hj:j<uz.length),j<i→isD st uz[j]=false)(h:isD st uz[i]=true):opP st=((i:Int)+1,bh st):=by
 have h3:i<3:=hi;rcases(by omega:i=0∨i=1∨i=2)with rfl|rfl|rfl
 ·simp only[opP,show isD st [61]=true from h,if_true];rfl
 ·simp only[opP,show isD st [61]=false from hb 0 aeG aeG,show isD st [60]=true from h,if_true];rfl
 ·simp only[opP,show isD st [61]=false from hb 0 aeG aeG,show isD st [60]=false from hb 1 aeG aeG,show isD st [62]=true from h,if_true];rfl
theorem ND(hb:∀j (hj:j<uz.length),isD st uz[j]=false):opP st=(0,br st):=by simp only[opP,show isD st [61]=false from hb 0 aeG,show isD st [60]=false from hb 1 aeG,show isD st [62]=false from hb 2 aeG];rfl
theorem II(st:PS)(hw:WfP st):PC 271 [] st (dV (gJ st).1) (gJ st).2:=.of fun G id=>by
 have h1:=Ce hw;obtain⟨a,st1,e1⟩:∃a st1,gp st=(a,st1):=⟨_,_,rfl⟩;have hat:=L4 st hw;rw[e1]at h1 hat;simp only at h1 hat;refine aeB func271 32 [.cell 2 264] fun hwf=>?_
 simp only[go_sem];intro i2 hi2;have n2:=aI hi2;have hG2:G i2=none:=afe;have c2:∀(f:Heap) (x y:Option Blk),upd (upd f id x) i2 y=upd (upd f i2 y) id x:=fun f x y=>cy f x y n2.symm
 simp only[go_sem,c2];refine hat.run ?_;simp only[go_sem,Dp];intro i3 hi3;have n3:=aI hi3;have hi3' :=hi3;rw[ag _ _ n3]at hi3';have n32:=aI hi3';have hG3:G i3=none:=afe;have c3:∀(f:Heap) (x y:Option Blk),upd (upd f id x) i3 y=upd (upd f i3 y) id x:=fun f x y=>cy f x y n3.symm
 have c23:∀(f:Heap) (x y:Option Blk),upd (upd f i3 x) i2 y=upd (upd f i2 y) i3 x:=fun f x y=>cy f x y n32
 have m32:¬i3=i2:=n32;have m23:¬i2=i3:=n32.symm;simp only[go_sem,c3,ak,n3];refine .intro (fun m ρ H=>H=upd (upd (upd G i2 (some (.obj [.i 0,.s [],.b false,.i 0,.i 0,.i 0,.s []] 264))) i3 (some (.obj [.i a.cat,.s a.name,.b a.must,.i 0,.i 0,.i 0,.s []] 264))) id (some (PO st1))∧
  ∃i:Nat,i≤3∧m=3 - i∧(∀j (hj:j<uz.length),j<i→isD st1 uz[j]=false)∧lk ρ 0=some (.ptr id 0)∧lk ρ 2=some (.ptr i2 0)∧lk ρ 3=some (.ptr i3 0)∧lk ρ 9=some (.sl (uz.map AV.s) .full)∧lk ρ 10=some (.i 3)∧lk ρ 11=some (.i i)) 3 ?_ ?_
 ·refine⟨rfl,0,aeC,rfl,fun j _ hj=>aeC,?_,?_,?_,?_,?_,?_⟩<;>simp only[go_sem]<;>rfl
 ·rintro m ρ H ⟨rfl,i,hi,rfl,hb,r0,r2,r3,r9,r10,r11⟩
  simp only[go_sem,r10,r11];refine .intro (fun e=>?_) (fun e=>?_)
  ·have hlt:i<3:=by grind
   have hlo:i<uz.length:=hlt;have w1:IntKind.i64.wrap ((i:Int)+1)=((i+1:Nat):Int):=aeN;have w2:IntKind.i64.wrap (1+(i:Int))=((i:Int)+1):=aeD;simp only[go_sem,r9,r11];refine .at i aeD aeQ ?_;simp only[go_sem,r0,aet];refine(kI st1 uz[i] h1.1).run ?_;cases d1:isD st1 uz[i]
   ·have et:cq st1 uz[i]=(false,st1):=by grind [cq]
    rw[et];simp only[go_sem,r11,w1];refine⟨_,?_,rfl,i+1,aeC,rfl,fun j hj hji=>?_,?_,?_,?_,?_,?_,?_⟩
    ·omega
    ·grind
    all_goals simp only[go_sem,r0,r2,r3,r9,r10]
   ·have et:cq st1 uz[i]=(true,bh st1):=by grind [cq]
    have eo:=Tt i hlo hb d1;have h2:Ah st1 (bh st1):=fo h1.1 (dK d1);have en:gJ st=(⟨a,(i:Int)+1,(aD (bh st1)).1⟩,(aD (bh st1)).2):=by grind [gJ]
    have d2:(((i:Int)+1)==0)=false:=aeR;rw[et];simp only[go_sem,c3,ak,n3,r0,r3,w2,d2];refine(u9 (bh st1) h2.1).run ?_;exact ajJ
  ·have hge:i=3:=by grind
   subst hge;have eo:=ND fun j hj=>hb j hj hj
   have h2:Ah st1 (br st1):=oT h1.1;have en:gJ st=(⟨a,0,(aD (br st1)).1⟩,(aD (br st1)).2):=by grind [gJ]
   simp only[go_sem,r0,r3,ak,n3];refine(lY st1 h1.1).run ?_;simp only[go_sem,r0];refine(u9 (br st1) h2.1).run ?_;exact ajJ
theorem TY:(U 264).sz=7:=aeR
theorem W7:(U 264).bytes=72:=aeR
theorem Jb(l:List bP):Sized 7 (l.map dV):=fun z hz=>by
 obtain⟨c,_,rfl⟩:=List.mem_map.1 hz;rfl
theorem TX:(U 265).sz=1:=aeR
theorem W5:(U 265).bytes=24:=aeR
theorem Ja(l:List (List bP)):Sized 1 (l.map jl):=fun z hz=>by
 obtain⟨c,_,rfl⟩:=List.mem_map.1 hz;rfl
theorem TZ:(U 261).sz=1:=aeR
theorem W9:(U 261).bytes=24:=aeR
theorem Jd(l:List (List (List bP))):Sized 1 (l.map cV):=fun z hz=>by
 obtain⟨c,_,rfl⟩:=List.mem_map.1 hz;rfl
theorem Rh(st:PS)(hw:WfP st):PC 241 [] st (jl (qD st).1) (qD st).2:=.of fun G id=>by
 have h1:=qL hw;have hm1:=II st hw;obtain⟨x0,st1,e1⟩:∃x0 st1,gJ st=(x0,st1):=⟨_,_,rfl⟩;have ep:fZ gJ [44] 8 st.ts.length st1 [x0]=qD st:=by grind [qD]
 rw[e1]at h1 hm1;simp only[dV]at h1 hm1;refine aeB func241 20 [.tmp 2] fun hwf=>?_
 simp only[go_sem];refine hm1.run ?_;simp only[go_sem];have hB:upd G id none id=none:=ah ..;refine .intro (fun m ρ H=>∃(f:Nat) (st' :PS) (l:List _) (y:AV),H id=some (PO st')∧Acc U 264 (upd G id none) H y (l.map dV)∧Ah st1 st'∧fZ gJ [44] 8 f st' l=qD st∧st1.ts.length≤f+st'.pos∧l.length≤st'.pos+1∧m=st1.ts.length - st'.pos∧lk ρ 0=some (.ptr id 0)∧lk ρ 3=some y) (st1.ts.length - st1.pos) ?_ ?_
 ·refine⟨st.ts.length,st1,[x0],.sl ([x0].map dV) .full,ah ..,.full (base_start G id _),.refl h1.1,ep,by rw[h1.2.1];omega,aeJ,rfl,?_,?_⟩<;>simp only[go_sem]<;>rfl
 ·rintro m ρ H ⟨f,st',l,y,hH,hy,ha,hfin,hf,hll,rfl,r0,r3⟩
  have hlen:=ha.1.2.2;have hpos:=ha.1.1;have htl:=ha.2.1;simp only[go_sem,r0];refine(kI st' [44] ha.1).go hH ?_;cases d1:isD st' [44]
  ·have et:cq st' [44]=(false,st'):=by grind [cq]
   have ef:fZ gJ [44] 8 f st' l=(l,st'):=ah0;rw[et,bF hH];rw[ef]at hfin;simp only[go_sem,r3];exact .mk (h' :=upd G id (some (PO (qD st).2))) (jl l) hy.weak (by rw[←hfin];exact fG hy.1 hH) ⟨aeD,rfl⟩
  ·have et:cq st' [44]=(true,bh st'):=by grind [cq]
   obtain⟨g,rfl⟩:∃g,f=g+1:=⟨f - 1,aeD⟩;simp only[fZ,d1,if_true]at hfin;have h2:=fo ha.1 (dK d1);have hone:=II (bh st') h2.1;have h3:=(fun _ h=>qL h:∀st,WfP st→Ah st (gJ st).2) _ h2.1
   obtain⟨x,st2,e2⟩:∃x st2,gJ (bh st')=(x,st2):=⟨_,_,rfl⟩;rw[e2]at hfin hone h3;simp only[dV]at hfin hone h3;have hdec:decide ((8:Int)<((l.length+1:Nat):Int))=decide (8<l.length+1):=by
    grind
   have h4:=lJ (decide (8<l.length+1)) h3.1;have hnp:(bh st').pos=st'.pos+1:=rfl;have hp3:=h3.2.2;have hp4:=h4.2.2;rw[et];simp only[go_sem,r0,r3];refine hone.run ?_;simp only[go_sem];refine(hy.put hB hH _).app (zs:=[dV x]) (by grind [TY]) (by grind [W7]) (fun k hk=>hk) (by grind [TY,Jb]) (by rw[TY];exact Jb [x]) (by grind [W7]) fun y' H2 hy' hk2=>?_
   exact aiR
theorem Ri(st:PS)(hw:WfP st):PC 198 [] st (cV (sC st).1) (sC st).2:=.of fun G id=>by
 have h0:=jC [40] hw;have h1:=Cc h0.1;have hm1:=Rh _ h0.1;obtain⟨x0,st1,e1⟩:∃x0 st1,qD (eu st [40])=(x0,st1):=⟨_,_,rfl⟩;obtain⟨M,eM⟩:∃M,fZ qD orT 8 st.ts.length st1 [x0]=M:=⟨_,rfl⟩;have epp:(M.1,eu M.2 [41])=sC st:=by grind [sC]
 rw[e1]at h1 hm1;simp only[jl]at h1 hm1;refine aeB func198 24 [.tmp 2] fun hwf=>?_
 simp only[go_sem];refine(lB st [40] hw).run ?_;simp only[go_sem];refine hm1.run ?_;simp only[go_sem];have hB:upd G id none id=none:=ah ..;refine .intro (fun m ρ H=>∃(f:Nat) (st' :PS) (l:List _) (y:AV),H id=some (PO st')∧Acc U 265 (upd G id none) H y (l.map jl)∧Ah st1 st'∧fZ qD orT 8 f st' l=M∧st1.ts.length≤f+st'.pos∧l.length≤st'.pos+1∧m=st1.ts.length - st'.pos∧lk ρ 0=some (.ptr id 0)∧lk ρ 3=some y) (st1.ts.length - st1.pos) ?_ ?_
 ·refine⟨st.ts.length,st1,[x0],.sl ([x0].map jl) .full,ah ..,.full (base_start G id _),.refl h1.1,eM,by rw[h1.2.1,h0.2.1];omega,aeJ,rfl,?_,?_⟩<;>simp only[go_sem]<;>rfl
 ·rintro m ρ H ⟨f,st',l,y,hH,hy,ha,hfin,hf,hll,rfl,r0,r3⟩
  have hlen:=ha.1.2.2;have hpos:=ha.1.1;have htl:=ha.2.1;simp only[go_sem,r0];refine(kI st' orT ha.1).go hH ?_;cases d1:isD st' orT
  ·have et:cq st' orT=(false,st'):=by grind [cq]
   have ef:fZ qD orT 8 f st' l=(l,st'):=ah0;rw[et,bF hH];rw[ef]at hfin;simp only[go_sem,r0];refine(lB st' [41] ha.1).go hH ?_;simp only[go_sem,r3];exact .mk (h' :=upd G id (some (PO (sC st).2))) (cV l) hy.weak (by rw[←epp,←hfin];exact fG (hy.1.put hB _) (ah ..)) ⟨aeD,rfl⟩
  ·have et:cq st' orT=(true,bh st'):=by grind [cq]
   obtain⟨g,rfl⟩:∃g,f=g+1:=⟨f - 1,aeD⟩;simp only[fZ,d1,if_true]at hfin;have h2:=fo ha.1 (dK d1);have hone:=Rh (bh st') h2.1;have h3:=(fun _ h=>Cc h:∀st,WfP st→Ah st (qD st).2) _ h2.1
   obtain⟨x,st2,e2⟩:∃x st2,qD (bh st')=(x,st2):=⟨_,_,rfl⟩;rw[e2]at hfin hone h3;simp only[jl]at hfin hone h3;have hdec:decide ((8:Int)<((l.length+1:Nat):Int))=decide (8<l.length+1):=by
    grind
   have h4:=lJ (decide (8<l.length+1)) h3.1;have hnp:(bh st').pos=st'.pos+1:=rfl;have hp3:=h3.2.2;have hp4:=h4.2.2;rw[et];simp only[go_sem,r0,r3];refine hone.run ?_;simp only[go_sem];refine(hy.put hB hH _).app (zs:=[jl x]) (by grind [TX]) (by grind [W5]) (fun k hk=>hk) (by grind [TX,Ja]) (by rw[TX];exact Ja [x]) (by grind [W5]) fun y' H2 hy' hk2=>?_
   exact aiR
theorem RV(st:PS)(hw:WfP st):PC 145 [] st (aV (ia st).1) (ia st).2:=.of fun G id=>by
 refine aeB func145 23 [.tmp 2] fun hwf=>?_
 simp only[go_sem];refine(kI st FC hw).run ?_;cases d0:isD st FC
 ·have et:cq st FC=(false,st):=by grind [cq]
  have ep:ia st=([],st):=by grind [ia]
  rw[et];simp only[go_sem];exact .mk (h' :=upd G id (some (PO (ia st).2))) (aV []) (.sl _ _) (by rw[ep];exact .refl _) ⟨by rw[ep],rfl⟩
 have et:cq st FC=(true,bh st):=by grind [cq]
 have h0:=fo hw (dK d0);have h1:=Cd h0.1;have hm1:=Ri _ h0.1;obtain⟨x0,st1,e1⟩:∃x0 st1,sC (bh st)=(x0,st1):=⟨_,_,rfl⟩;obtain⟨M,eM⟩:∃M,fZ sC Dk 8 st.ts.length st1 [x0]=M:=⟨_,rfl⟩;have ep:M=ia st:=by simp_all [ia,if_true]
 rw[e1]at h1 hm1;simp only[cV]at h1 hm1;rw[et];simp only[go_sem];refine hm1.run ?_;simp only[go_sem];have hB:upd G id none id=none:=ah ..;refine .intro (fun m ρ H=>∃(f:Nat) (st' :PS) (l:List _) (y:AV),H id=some (PO st')∧Acc U 261 (upd G id none) H y (l.map cV)∧Ah st1 st'∧fZ sC Dk 8 f st' l=M∧st1.ts.length≤f+st'.pos∧l.length≤st'.pos+1∧m=st1.ts.length - st'.pos∧lk ρ 0=some (.ptr id 0)∧lk ρ 3=some y) (st1.ts.length - st1.pos) ?_ ?_
 ·refine⟨st.ts.length,st1,[x0],.sl ([x0].map cV) .full,ah ..,.full (base_start G id _),.refl h1.1,eM,by rw[h1.2.1,h0.2.1];omega,aeJ,rfl,?_,?_⟩<;>simp only[go_sem]<;>rfl
 ·rintro m ρ H ⟨f,st',l,y,hH,hy,ha,hfin,hf,hll,rfl,r0,r3⟩
  have hlen:=ha.1.2.2;have hpos:=ha.1.1;have htl:=ha.2.1;simp only[go_sem,r0];refine(kI st' Dk ha.1).go hH ?_;cases d1:isD st' Dk
  ·have et:cq st' Dk=(false,st'):=by grind [cq]
   have ef:fZ sC Dk 8 f st' l=(l,st'):=ah0;rw[et,bF hH];rw[ef]at hfin;simp only[go_sem,r3];exact .mk (h' :=upd G id (some (PO (ia st).2))) (aV l) hy.weak (by rw[←ep,←hfin];exact fG hy.1 hH) ⟨aeD,rfl⟩
  ·have et:cq st' Dk=(true,bh st'):=by grind [cq]
   obtain⟨g,rfl⟩:∃g,f=g+1:=⟨f - 1,aeD⟩;simp only[fZ,d1,if_true]at hfin;have h2:=fo ha.1 (dK d1);have hone:=Ri (bh st') h2.1;have h3:=(fun _ h=>Cd h:∀st,WfP st→Ah st (sC st).2) _ h2.1
   obtain⟨x,st2,e2⟩:∃x st2,sC (bh st')=(x,st2):=⟨_,_,rfl⟩;rw[e2]at hfin hone h3;simp only[cV]at hfin hone h3;have hdec:decide ((8:Int)<((l.length+1:Nat):Int))=decide (8<l.length+1):=by
    grind
   have h4:=lJ (decide (8<l.length+1)) h3.1;have hnp:(bh st').pos=st'.pos+1:=rfl;have hp3:=h3.2.2;have hp4:=h4.2.2;rw[et];simp only[go_sem,r0,r3];refine hone.run ?_;simp only[go_sem];refine(hy.put hB hH _).app (zs:=[cV x]) (by grind [TZ]) (by grind [W9]) (fun k hk=>hk) (by grind [TZ,Jd]) (by rw[TZ];exact Jd [x]) (by grind [W9]) fun y' H2 hy' hk2=>?_
   exact aiR
theorem EM(op:Int)(h:Heap):ai prog 308 [.i op] h fun r h' =>r= .sl ((opers op).map j4) .no∧h' =h:=by
 refine aeB func308 15 [.tmp 2] fun hwf=>?_
 cases k3:(op==3)<;>cases k4:(op==4)<;>cases k5:(op==5)<;>cases k11:(op==11)
 all_goals
  simp only[go_sem,k3,k4,k5,k11];simp only[beq_iff_eq,beq_eq_false_iff_ne]at k3 k4 k5 k11;refine .mk _ (.sl _ _) (.refl _) ⟨?_,rfl⟩
  grind [opers,j4]
theorem Xa:(U 90).sz=3:=aeR
theorem Zt:(U 90).bytes=32:=aeR
theorem Jc(l:List cB):Sized 3 (l.map bl):=fun z hz=>by
 obtain⟨c,_,rfl⟩:=List.mem_map.1 hz;rfl
theorem tX(st:PS)(hw:WfP st):PC 149 [] st (ay (gD st).1) (gD st).2:=.of fun G id=>by
 obtain⟨M,eM⟩:∃M,gD st=M:=⟨_,rfl⟩;have eM2:fZ AG xj 8 st.ts.length st []=M:=eM;refine aeB func149 28 [.tmp 2] fun hwf=>?_
 simp only[go_sem];have hB:upd G id none id=none:=ah ..;refine .intro (fun m ρ H=>∃(f:Nat) (st' :PS) (l:List cB) (y:AV),H id=some (PO st')∧Acc U 90 (upd G id none) H y (l.map bl)∧Ah st st'∧fZ AG xj 8 f st' l=M∧st.ts.length≤f+st'.pos∧l.length≤st'.pos+1∧m=st.ts.length - st'.pos∧lk ρ 0=some (.ptr id 0)∧lk ρ 3=some y) (st.ts.length - st.pos) ?_ ?_
 ·refine⟨st.ts.length,st,[],.sl ([].map bl) .full,ah ..,.full (base_start G id _),.refl hw,eM2,aeC,aeJ,rfl,?_,?_⟩<;>simp only[go_sem]<;>rfl
 ·rintro m ρ H ⟨f,st',l,y,hH,hy,ha,hfin,hf,hll,rfl,r0,r3⟩
  have hlen:=ha.1.2.2;have hpos:=ha.1.1;have htl:=ha.2.1;simp only[go_sem,r0];refine(kI st' xj ha.1).go hH ?_;cases d1:isD st' xj
  ·have et:cq st' xj=(false,st'):=by grind [cq]
   have ef:fZ AG xj 8 f st' l=(l,st'):=ah0;rw[et,bF hH];rw[ef]at hfin;simp only[go_sem,r3];exact .mk (h' :=upd G id (some (PO (gD st).2))) (ay l) hy.weak (by rw[eM,←hfin];exact fG hy.1 hH) ⟨aeD,rfl⟩
  ·have et:cq st' xj=(true,bh st'):=by grind [cq]
   obtain⟨g,rfl⟩:∃g,f=g+1:=⟨f - 1,aeD⟩;simp only[fZ,d1,if_true]at hfin;have h2:=fo ha.1 (dK d1);have ho1:=gN vK h2.1;have ho2:=gN ni ho1.1;have ho3:=nQ ho2.1;have h3:Ah (bh st') (AG (bh st')).2:=LW h2.1;have hdec:decide ((8:Int)<((l.length+1:Nat):Int))=decide (8<l.length+1):=by
    grind
   have h4:=lJ (decide (8<l.length+1)) h3.1;have hnp:(bh st').pos=st'.pos+1:=rfl;have hp3:=h3.2.2;have hp4:=h4.2.2;have eX:(AG (bh st'))=(⟨(aZ (bh st') vK).1,(aZ (aZ (bh st') vK).2 ni).1,(cp (aZ (aZ (bh st') vK).2 ni).2).1⟩,(cp (aZ (aZ (bh st') vK).2 ni).2).2):=rfl;obtain⟨x,st2,e2⟩:∃x st2,AG (bh st')=(x,st2):=⟨_,_,rfl⟩;rw[et];simp only[go_sem];intro i4 hi4;have n4:=aI hi4;have hH4:H i4=none:=afe;have c4:∀(f:Heap) (x y:Option Blk),upd (upd f id x) i4 y=upd (upd f i4 y) id x:=fun f x y=>cy f x y n4.symm
   simp only[go_sem,r0,c4];refine(oU _ vK .full aeG h2.1).run ?_;simp only[go_sem,r0,c4,ak,n4];refine(oU _ ni .full aeG ho1.1).run ?_;simp only[go_sem,r0,c4,ak,n4];refine(uH _ ho2.1).run ?_;simp only[go_sem,r3,c4,ak,n4];rw[e2]at hfin h3 h4 hp3 hp4;simp only at hfin h3 h4 hp3 hp4;have ex1:x=(AG (bh st')).1:=by rw[e2]
   have ex2:st2=(cp (aZ (aZ (bh st') vK).2 ni).2).2:=by
    grind
   rw[←ex2];refine((hy.sub (Sub.aj (k:=_) hH4)).put hB (by rw[ag _ _ n4.symm];exact hH) _).app (zs:=[bl x]) aeG aeG (fun k hk=>by rw[ex1]at hk;exact hk) (by grind [Xa,Jc]) (by rw[Xa];exact Jc [x]) (by grind [Zt]) fun y' H2 hy' hk2=>?_
   exact aiR
theorem tO{U:TypeId→TI}{B':Heap}(hs:Sub B B')(ha:Acc U e B' H y xs):Acc U e B H y xs:=by
 obtain⟨h1,rfl|⟨k,i1,rfl,i2⟩⟩:=ha
 ·exact⟨hs.trans h1,.inl rfl⟩
 ·refine⟨hs.trans h1,.inr ⟨k,?_,rfl,i2⟩⟩
  cases hk:B k with
  |none=>rfl
  |some b=>rw[hs _ _ hk]at i1;omega
theorem yp{U:TypeId→TI}(ha:Acc U e B H y xs){i:Nat}(hi:H i=none)(b:Option Blk):Acc U e (upd B i b) (upd H i b) y xs:=by
 obtain⟨h1,rfl|⟨k,i1,rfl,i2⟩⟩:=ha
 ·exact⟨h1.both _ _,.inl rfl⟩
 ·have hne:k≠i:=fun hh=>by subst hh;rw[hi]at i2;cases i2
  exact⟨h1.both _ _,.inr ⟨k,afe,rfl,afe⟩⟩
theorem oS{U:TypeId→TI}{id:Nat}(ha:Acc U e (upd G id none) (upd K id (some (PO st))) y xs)(st' :PS):Acc U e (upd G id none) (upd K id (some (PO st'))) y xs:=by have:=ha.put (id:=id) (ah ..) (cs:=_) (t:=_) (ah ..) (some (PO st'));rw[ew]at this;exact afk
def XC(f:FuncId)(args:List AV)(st:PS)(l:List aR)(mk:AV→AV)(st' :PS)(l' :List aR):Prop:=
 ∀(G K:Heap) (id:Nat) (y:AV),Acc U 218 (upd G id none) (upd K id (some (PO st))) y (l.map dL)→ai prog f (.ptr id 0::y::args) (upd K id (some (PO st))) fun r h' =>∃y',r=mk y'∧h' id=some (PO st')∧Acc U 218 (upd G id none) h' y' (l'.map dL)
theorem XC.run{l l' :List aR}{mk:AV→AV}(hc:XC f args st l mk st' l'){id:Nat}(ha:Acc U 218 (upd G id none) (upd K id (some (PO st))) y (l.map dL))
  (k:∀y' K',Acc U 218 (upd G id none) (upd K' id (some (PO st'))) y' (l'.map dL)→Q (mk y') (upd K' id (some (PO st')))):ai prog f (.ptr id 0::y::args) (upd K id (some (PO st))) Q:=
 (hc G K id y ha).mono fun r h' ⟨y',e1,e2,e3⟩=>by
  subst e1;have:=k y' h' (by grind [bF])
  rwa [bF e2]at this
def EH(ex:ExF)(f:Nat):Prop:=∀st l,WfP st→st.ts.length≤f+st.pos→l.length≤2*st.pos+1→XC 272 [] st l (fun y=> .tup [y,.v (.bool (ex st l).1.2)]) (ex st l).2 (ex st l).1.1
theorem Jq(st:PS)(ws:List Txt):0≤(aZ st ws).1∧(aZ st ws).1≤ws.length:=by
 unfold aZ;cases ei:vB (aL st).s ws with
 |none=>simp
 |some i=>
  have:=CD ei;simp only;split<;>simp<;>omega
theorem BD(ho:FI ex){f:Nat}(he:EH ex f)(st:PS)(l:List aR)(b:Bool)(hw:WfP st)(hf:st.ts.length≤f+st.pos)(hl:l.length≤2*st.pos+1):XC 242 [.b b] st l (fun y=>y) (iN ex st l b).2 (iN ex st l b).1:=fun G K id y ha=>by
 refine aeB func242 25 [.tmp 6] fun hwf=>?_
 simp only[go_sem];refine(mL st hw).run ?_;simp only[go_sem,fL];refine(he st l hw hf hl).run ha fun y' K' ha' =>?_
 cases db:((ex st l).1.2==b)
 ·have e1:(ex st l).1.2≠b:=by grind
  have en:iN ex st l b=((ex st l).1.1,bH (ex st l).2 5 (aL st).pos):=by grind [iN]
  simp only[go_sem,db,Bool.not_false];refine(rV _ 5 _).run ?_;simp only[go_sem];exact .mk (h' :=upd K' id (some (PO (bH (ex st l).2 5 (aL st).pos)))) y' (.refl _) (.refl _) ⟨y',rfl,aiF,by grind [oS]⟩
 ·have e1:(ex st l).1.2=b:=by grind
  have en:iN ex st l b=((ex st l).1.1,(ex st l).2):=by grind [iN]
  simp only[go_sem,db,Bool.not_true];exact .mk (h' :=upd K' id (some (PO (ex st l).2))) y' (.refl _) (.refl _) ⟨y',rfl,aiF,aeD⟩
theorem Gn(ho:FI ex){f:Nat}(he:EH ex f)(st:PS)(l:List aR)(hw:WfP st)(hf:st.ts.length≤f+st.pos)(hl:l.length+1≤2*st.pos):XC 292 [] st l (fun y=> .tup [y,dL (ri ex st l).1.2]) (ri ex st l).2 (ri ex st l).1.1:=fun G K id y ha=>by
 have h1:=gN mu hw;have hrg:=Jq st mu;have hfl:mu.length=11:=rfl;have w2:IntKind.i64.wrap (2+(aZ st mu).1)=2+(aZ st mu).1:=aeN;refine aeB func292 36 [.tmp 4,.cell 5 218] fun hwf=>?_
 simp only[go_sem];intro i5 hi5;have n5:=aI hi5;have hK5:K i5=none:=afe;have c5:∀(f:Heap) (x y:Option Blk),upd (upd f id x) i5 y=upd (upd f i5 y) id x:=fun f x y=>cy f x y n5.symm
 simp only[go_sem,c5];refine(oU _ mu .full aeG hw).run ?_;simp only[go_sem,w2];intro i6 hi6;have n6:=aI hi6;have c6:∀(f:Heap) (x y:Option Blk),upd (upd f id x) i6 y=upd (upd f i6 y) id x:=fun f x y=>cy f x y n6.symm
 have hi6' :=hi6;rw[ag _ _ n6]at hi6';have n65:=aI hi6';have hK6:K i6=none:=afe;simp only[go_sem,c6,ak,n6];refine(EM _ _).pthen ?_;simp only[go_sem];have h5f:=ha;obtain⟨bs,ebs⟩:∃bs,opers (2+(aZ st mu).1)=bs:=⟨_,rfl⟩;obtain⟨M,eM⟩:∃M,jJ ex bs (aZ st mu).2 l=M:=⟨_,rfl⟩;have hb2:bs.length≤2:=by grind [EN]
 have hMr:ri ex st l=((M.1,⟨2+(aZ st mu).1,⟨0,0,[]⟩,⟨0,[],false⟩⟩),eu M.2 [41]):=by grind [ri]
 obtain⟨st1,es1⟩:∃st1,(aZ st mu).2=st1:=⟨_,rfl⟩;have hac0:=yp (yp (oS ha st1) (by rw[ag _ _ n5];omega) (some (.obj [.i 0,.i 0,.i 0,.s [],.i 0,.s [],.b false] 218))) (by rw[ag _ _ n65,ag _ _ n6];omega) (some (.obj [.i (2+(aZ st mu).1),.i 0,.i 0,.s [],.i 0,.s [],.b false] 218))
 simp only[c5,c6]at hac0;obtain⟨G',eG⟩:∃G',G' =upd (upd G i5 (some (.obj [.i 0,.i 0,.i 0,.s [],.i 0,.s [],.b false] 218))) i6 (some (.obj [.i (2+(aZ st mu).1),.i 0,.i 0,.s [],.i 0,.s [],.b false] 218)):=⟨_,rfl⟩;have g5:upd G' id none i5=some (.obj [.i 0,.i 0,.i 0,.s [],.i 0,.s [],.b false] 218):=by simp_all [ag,Ne.symm,ah]
 have g6:upd G' id none i6=some (.obj [.i (2+(aZ st mu).1),.i 0,.i 0,.s [],.i 0,.s [],.b false] 218):=by simp_all [ag,ah]
 rw[←eG]at hac0;have gi5:upd G id none i5=none:=by
  cases hk:upd G id none i5 with
  |none=>rfl
  |some b=>rw[ha.1 _ _ hk]at hi5;omega
 have hsG:Sub (upd G id none) (upd G' id none):=fun k b hk=>by
  have hs1:=ha.1 k b hk;have hk5:k≠i5:=fun e=>aeD
  have hk6:k≠i6:=fun e=>by
   grind [ag]
  by_cases hkid:k=id
  ·subst hkid;rw[ah]at hk;cases hk
  ·rw[ag _ _ hkid]at hk⊢
   rw[eG,ag _ _ hk6,ag _ _ hk5];exact hk
 simp only[es1,ebs]at h1 eM⊢;refine .intro (fun m ρ H=>∃(i:Nat) (st' :PS) (l' :List aR) (y' :AV) (K' :Heap),H=upd K' id (some (PO st'))∧Acc U 218 (upd G' id none) (upd K' id (some (PO st'))) y' (l'.map dL)∧Ah st1 st'∧i≤bs.length∧jJ ex (bs.drop i) st' l' =M∧l'.length+1≤2*st'.pos+i∧m=bs.length - i∧lk ρ 0=some (.ptr id 0)∧lk ρ 1=some y'∧lk ρ 5=some (.ptr i5 0)∧lk ρ 6=some (.ptr i6 0)∧lk ρ 16=some (.sl (bs.map j4) .no)∧lk ρ 17=some (.i bs.length)∧lk ρ 18=some (.i i)) bs.length ?_ ?_
 ·refine⟨0,st1,l,y,_,rfl,hac0,.refl h1.1,aeC,aeD,by have:=h1.2.2;omega,rfl,?_,?_,?_,?_,?_,?_,?_⟩<;>simp only[go_sem]<;>(try rfl)<;>simp
 ·rintro m ρ H ⟨i,st',l',y',K',rfl,hac,hah,hi,hfin,hll,rfl,r0,r1,r5,r6,r16,r17,r18⟩
  simp only[go_sem,r17,r18];have k6:upd K' id (some (PO st')) i6=some (.obj [.i (2+(aZ st mu).1),.i 0,.i 0,.s [],.i 0,.s [],.b false] 218):=hac.1 _ _ g6;have k5:upd K' id (some (PO st')) i5=some (.obj [.i 0,.i 0,.i 0,.s [],.i 0,.s [],.b false] 218):=hac.1 _ _ g5;rw[ag _ _ n6]at k6;rw[ag _ _ n5]at k5;refine .intro (fun e=>?_) (fun e=>?_)
  ·have hlt:i<bs.length:=aez e
   simp only[go_sem,r16,r18];refine .at i aeD aeQ ?_;cases db:(st'.bad !=0)
   ·have e1:st'.bad=0:=by grind
    rw[List.drop_eq_getElem_cons hlt]at hfin;simp only[jJ,e1,if_true]at hfin;simp only[go_sem,r0,r1,aet,j4,PO,db];have hpl:=hah.2.2;refine(BD ho he st' l' bs[i] hah.1 (by rw[hah.2.1,h1.2.1];have:=h1.2.2;omega) aeC).run hac fun y2 K2 hac2=>?_
    obtain⟨q1,q2⟩:=zD ho st' l' bs[i] hah.1;have w1:IntKind.i64.wrap ((i:Int)+1)=((i+1:Nat):Int):=aeN;simp only[go_sem,r18,w1];refine⟨_,?_,i+1,(iN ex st' l' bs[i]).2,(iN ex st' l' bs[i]).1,y2,K2,rfl,hac2,hah.trans q1,hlt,hfin,aeC,rfl,?_⟩
    ·omega
    refine⟨?_,?_,?_,?_,?_,?_,?_⟩
    all_goals simp only[go_sem,r0,r5,r6,r16,r17]
   ·have e1:st'.bad≠0:=by grind
    have hfin2:(l',st')=M:=by
     grind [List.drop_eq_getElem_cons,jJ]
    clear hfin;have hfin:=hfin2;simp only[go_sem,r0,aet,j4,PO,db];refine(lB _ [41] hah.1).run ?_;simp only[go_sem,r1,r5,r6,ak,n5,n6,k5,k6];refine⟨.of aeF,?_⟩;exact .mk (.tup [y',dL ⟨2+(aZ st mu).1,⟨0,0,[]⟩,⟨0,[],false⟩⟩]) (.refl _) (.refl _) ⟨y',aeR,by rw[hMr,←hfin];exact(ag _ _ (Ne.symm n5)).trans (ah ..),af7⟩
  ·have hge:i=bs.length:=by grind
   subst hge;rw[List.drop_length]at hfin;simp only[jJ]at hfin;simp only[go_sem,r0];refine(lB _ [41] hah.1).run ?_;simp only[go_sem,r1,r5,r6,ak,n5,n6,k5,k6];refine⟨.of aeF,?_⟩;exact .mk (.tup [y',dL ⟨2+(aZ st mu).1,⟨0,0,[]⟩,⟨0,[],false⟩⟩]) (.refl _) (.refl _) ⟨y',aeR,by rw[hMr,←hfin];simp_all [ag,Ne.symm,trans,ah],af7⟩
theorem tI:(U 218).sz=7:=aeR
theorem AS:(U 218).bytes=72:=aeR
theorem lG(l:List aR):Sized 7 (l.map dL):=fun z hz=>by
 obtain⟨c,_,rfl⟩:=List.mem_map.1 hz;rfl
theorem SZ(f:Nat)(ih:EH (eU f) f):EH (eU (f+1)) (f+1):=fun st l hw hf hl G K id y ha=>by
 refine aeB func272 52 [.tmp 4,.tmp 5] fun hwf=>?_
 simp only[go_sem];intro i6 hi6;have n6:=aI hi6;have hK6:K i6=none:=by rw[ag _ _ n6]at hi6;exact hi6
 have c6:∀(f:Heap) (x y:Option Blk),upd (upd f id x) i6 y=upd (upd f i6 y) id x:=fun f x y=>cy f x y n6.symm
 have gi6:upd G id none i6=none:=by
  cases hk:upd G id none i6 with
  |none=>rfl
  |some b=>rw[ha.1 _ _ hk]at hi6;cases hi6
 have hac:=yp ha hi6 (some (.obj [.i 0,.i 0,.i 0,.s [],.i 0,.s [],.b false] 218));simp only[go_sem,c6];refine(mL st hw).run ?_;simp only[go_sem,fL];intro i7 hi7;have n7:=aI hi7;have hi7' :=hi7;rw[ag _ _ n7]at hi7';have n76:=aI hi7';have m76:¬i7=i6:=n76;have m67:¬i6=i7:=fun e=>n76 e.symm
 have hK7:K i7=none:=by rw[ag _ _ n76]at hi7';exact hi7'
 have c7:∀(f:Heap) (x y:Option Blk),upd (upd f id x) i7 y=upd (upd f i7 y) id x:=fun f x y=>cy f x y n7.symm
 have e6:upd (upd G id none) i6 (some (.obj [.i 0,.i 0,.i 0,.s [],.i 0,.s [],.b false] 218))=upd (upd G i6 (some (.obj [.i 0,.i 0,.i 0,.s [],.i 0,.s [],.b false] 218))) id none:=c6 G none _;have hac7:∀k,Acc U 218 (upd (upd G i6 (some (.obj [.i 0,.i 0,.i 0,.s [],.i 0,.s [],.b false] 218))) id none) (upd (upd (upd K i6 (some (.obj [.i 0,.i 0,.i 0,.s [],.i 0,.s [],.b false] 218))) i7 k) id (some (PO st))) y (l.map dL):=fun k=>by
  have:=hac.sub (Sub.aj (k:=k) (by rw[c6];exact hi7))
  rw[e6,c6 K,c7]at this;exact afk
 have hsG:Sub (upd G id none) (upd (upd G i6 (some (.obj [.i 0,.i 0,.i 0,.s [],.i 0,.s [],.b false] 218))) id none):=by
  rw[←e6];exact Sub.aj gi6
 have g6:upd (upd G i6 (some (.obj [.i 0,.i 0,.i 0,.s [],.i 0,.s [],.b false] 218))) id none i6=some (.obj [.i 0,.i 0,.i 0,.s [],.i 0,.s [],.b false] 218):=by rw[←e6,ah]
 simp only[go_sem,c7,ak,n7];refine(kI st [40] hw).run ?_;have hacX:∀tk NB st',Acc U 218 (upd G id none) (upd (upd (upd (upd K i6 (some (.obj [.i 0,.i 0,.i 0,.s [],.i 0,.s [],.b false] 218))) i7 tk) i6 NB) id (some (PO st'))) y (l.map dL):=fun tk NB st' =>by
  have:=(oS (tO hsG (hac7 tk)) st').put gi6 ((ag _ _ n6).trans ((ag _ _ m67).trans (ah ..))) NB;rw[c6]at this;exact afk
 obtain⟨⟨⟨lh,n⟩,sth⟩,eh⟩:∃x,jv (eU f) st l=x:=⟨_,rfl⟩;obtain⟨hha,hhl⟩:=Ea (qY f) st l hw;rw[eh]at hha hhl;simp only at hha hhl;have hwp:=hha.1.2.2;have hwq:=hha.1.1;have hpl:=hha.2.2;have hdec:decide ((32:Int)<((lh.length+1:Nat):Int))=decide (32<lh.length+1):=by
  by_cases h:32<lh.length+1
  ·simp only[h,decide_true];exact decide_eq_true aeC
  ·simp only[h,decide_false];exact decide_eq_false aeC
 cases d0:isD st [40]
 ·have et:cq st [40]=(false,st):=by simp[cq,d0]
  rw[et];cases d1:((aL st).kind==1)
  ·have en:jv (eU f) st l=((l,⟨1,(aD st).1,⟨0,[],false⟩⟩),(aD st).2):=by
    have:(aL st).kind≠1:=ahB;simp[jv,d0,this]
   simp only[go_sem,ak,n7,d1];exact aiQ
  ·have k1:(aL st).kind=1:=by simpa using d1
   cases d2:((aL st).s== [116,114,117,101])
   ·have k2:(aL st).s≠xA:=by unfold xA;simpa using d2
    cases d3:((aL st).s== [102,97,108,115,101])
    ·have k3:(aL st).s≠qZ:=by unfold qZ;simpa using d3
     have en:jv (eU f) st l=((l,⟨2,⟨0,0,[]⟩,(gp st).1⟩),(gp st).2):=by simp[jv,d0,k1,k2,k3]
     simp only[go_sem,ak,n7,d1,d2,d3,Bool.not_false];refine(L4 st hw).run ?_;rw[en]at eh;injection eh with eh1 eh2
     injection eh1 with eh3 eh4
     subst eh2;subst eh3;subst eh4;simp only[go_sem,c6,ak,n6,m67,Dp];refine(hacX _ _ _).app (zs:=[dL (⟨2,⟨0,0,[]⟩,(gp st).1⟩:aR)]) air aiq (fun k hk=>hk) ahJ (by rw[tI];exact lG [(⟨2,⟨0,0,[]⟩,(gp st).1⟩:aR)]) ahr fun y3 H3 hy3 hk3=>?_
     have hH3:H3 id=some (PO (gp st).2):=hk3 _ _ _ (ah ..);have hb3:H3 i6=some (.obj [.v (.int .i64 (⟨2,⟨0,0,[]⟩,(gp st).1⟩:aR).op),.v (.int .i64 (⟨2,⟨0,0,[]⟩,(gp st).1⟩:aR).val.kind),.v (.int .i64 (⟨2,⟨0,0,[]⟩,(gp st).1⟩:aR).val.n),.s (⟨2,⟨0,0,[]⟩,(gp st).1⟩:aR).val.s,.v (.int .i64 (⟨2,⟨0,0,[]⟩,(gp st).1⟩:aR).attr.cat),.s (⟨2,⟨0,0,[]⟩,(gp st).1⟩:aR).attr.name,.v (.bool (⟨2,⟨0,0,[]⟩,(gp st).1⟩:aR).attr.must)] 218):=hk3 _ _ _ ((ag _ _ n6).trans (ah ..));simp only[go_sem,hy3.len,aew,aes,List.length_cons,List.length_nil,Nat.zero_add,hdec];refine(cO (gp st).2 _ hha.1).go hH3 ?_;simp only[go_sem,ak,n6,hb3];refine⟨.of aeF,?_⟩;have efin:eU (f+1) st l=((l++ [(⟨2,⟨0,0,[]⟩,(gp st).1⟩:aR)],(⟨2,⟨0,0,[]⟩,(gp st).1⟩:aR).op==2),bE (gp st).2 (decide (32<l.length+1))):=aiw;exact .mk (.tup [y3,.b ((⟨2,⟨0,0,[]⟩,(gp st).1⟩:aR).op==2)]) (.refl _) (.refl _) ⟨y3,by rw[efin],ag4,afq⟩
    ·have k3:(aL st).s=qZ:=by unfold qZ;simpa using d3
     have en:jv (eU f) st l=((l,⟨1,(aD st).1,⟨0,[],false⟩⟩),(aD st).2):=by simp[jv,d0,k1,k3]
     simp only[go_sem,ak,n7,d1,d2,d3,Bool.not_false,Bool.not_true];exact aiQ
   ·have k2:(aL st).s=xA:=by unfold xA;simpa using d2
    have en:jv (eU f) st l=((l,⟨1,(aD st).1,⟨0,[],false⟩⟩),(aD st).2):=by simp[jv,d0,k1,k2]
    simp only[go_sem,ak,n7,d1,d2,Bool.not_true];exact aiQ
 ·have et:cq st [40]=(true,bh st):=by simp[cq,d0]
  have h1:=fo hw (dK d0);have hnp:(bh st).pos=st.pos+1:=rfl;have hnt:(bh st).ts=st.ts:=rfl;rw[et];simp only[go_sem];have ef:ri (eU f) (bh st) l=((lh,n),sth):=by rw[←eh];simp[jv,d0]
  have hfx:=Gn (qY f) ih (bh st) l h1.1 (by rw[hnt];omega) aeC
  simp only[ef]at hfx;refine hfx.run (oS (hac7 _) _) fun y2 K2 hac2=>?_
  have k6:=hac2.1 _ _ g6;rw[ag _ _ n6]at k6;simp only[go_sem,c6,ak,n6,k6,dL];have hac3:=(tO hsG hac2).put gi6 ((ag _ _ n6).trans k6) (some (.obj [.i n.op,.i n.val.kind,.i n.val.n,.s n.val.s,.i n.attr.cat,.s n.attr.name,.b n.attr.must] 218));rw[c6]at hac3;refine(hac3).app (zs:=[dL n]) air aiq (fun k hk=>hk) ahJ (by rw[tI];exact lG [n]) ahr fun y3 H3 hy3 hk3=>?_
  have hH3:H3 id=some (PO sth):=hk3 _ _ _ (ah ..);have hb3:H3 i6=some (.obj [.i n.op,.i n.val.kind,.i n.val.n,.s n.val.s,.i n.attr.cat,.s n.attr.name,.b n.attr.must] 218):=hk3 _ _ _ ((ag _ _ n6).trans (ah ..));simp only[go_sem,hy3.len,aew,aes,List.length_cons,List.length_nil,Nat.zero_add,hdec];refine(cO sth _ hha.1).go hH3 ?_;simp only[go_sem,ak,n6,hb3];refine⟨.of aeF,?_⟩;have efin:eU (f+1) st l=((lh++ [n],n.op==2),bE sth (decide (32<lh.length+1))):=by simp only[eU,eh]
  exact .mk (.tup [y3,.b (n.op==2)]) (.refl _) (.refl _) ⟨y3,by rw[efin],ag4,afq⟩
theorem MF:∀f,EH (eU f) f
 |0=>fun st l hw hf _=>absurd hw.1 aeC
 |f+1=>SZ f (MF f)
theorem Gj{P:Program}{Q':AV→Heap→Prop}(hf:ai P f args h Q)(hq:∀x h1,Q x h1→∃y h2,Weak x y∧Sub h2 h1∧Q' y h2):ai P f args h Q' :=
 fun c vs h1 h2 h3 h4=>(hf c vs h1 h2 h3 h4).mono fun u w' ⟨c',x,h',g1,g2,g3,g4,g5,g6⟩=>by
  obtain⟨y,h'',k1,k2,k3⟩:=hq x h' g6;exact⟨c',y,h'',g1,g2,g3,g4.weak k1,k2.trans g5,k3⟩
def flat:AV→AV
 |.sl xs _=> .sl xs .no
 |x=>x
theorem gA(xs:List AV):Weak (.agg xs) (.agg (xs.map flat)):=.agg _ _ aeJ fun i h1 h2=>by
 rw[aet];cases xs[i]<;>first|exact .refl _|exact .sl _ _
theorem KH(st:PS)(hw:WfP st):PC 242 [.sl [] .full,.b false] st (fH (iN (eU st.ts.length) st [] false).1) (iN (eU st.ts.length) st [] false).2:=.of fun G id=>by
 have hx:=BD (qY st.ts.length) (MF st.ts.length) st [] false hw aeC aeJ;refine Gj (hx G G id (.sl [] .full) (.full (base_start G id _))) fun r h1 ⟨y',e1,e2,e3⟩=>⟨_,upd G id (some (PO (iN (eU st.ts.length) st [] false).2)),?_,fG e3.1 e2,rfl,rfl⟩
 subst e1;exact e3.weak
theorem N5(deny:Bool)(st:PS)(hw:WfP st):PC 201 [.b deny] st (aC (qx deny st).1) (qx deny st).2:=.of fun G id=>by
 have h1:=nQ hw;have h2:=Ci h1.1;have h3:=HU h2.1;have h4:=Cg h3.1;have ht:=RV _ h1.1;simp only[aV]at ht;refine aeB func201 23 [.cell 4 213] fun hwf=>?_
 simp only[go_sem];intro i4 hi4;have n4:=aI hi4;have hG4:G i4=none:=afe;have c4:∀(f:Heap) (x y:Option Blk),upd (upd f id x) i4 y=upd (upd f i4 y) id x:=fun f x y=>cy f x y n4.symm
 simp only[go_sem,c4];refine(uH st hw).run ?_;simp only[go_sem];refine ht.run ?_;simp only[go_sem];intro i5 hi5;have n5:=aI hi5;have hi5' :=hi5;rw[ag _ _ n5]at hi5';have n54:=aI hi5';have m54:¬i5=i4:=n54;have m45:¬i4=i5:=n54.symm;have hG5:G i5=none:=afe;have c5:∀(f:Heap) (x y:Option Blk),upd (upd f id x) i5 y=upd (upd f i5 y) id x:=fun f x y=>cy f x y n5.symm
 have c45:∀(f:Heap) (x y:Option Blk),upd (upd f i5 x) i4 y=upd (upd f i4 y) i5 x:=fun f x y=>cy f x y n54
 simp only[go_sem,c5,ak,n5];refine(kI _ ifT h2.1).run ?_;cases d0:isD (ia (cp st).2).2 ifT
 ·have et:cq (ia (cp st).2).2 ifT=(false,(ia (cp st).2).2):=by grind [cq]
  have ec:qV (ia (cp st).2).2=([],(ia (cp st).2).2):=by grind [qV]
  have er:qx deny st=(⟨(cp st).1,deny,(ia (cp st).2).1,[],(gD (ia (cp st).2).2).1⟩,eu (gD (ia (cp st).2).2).2 [59]):=by grind [qx]
  rw[ec]at h4;have ho:=tX _ h2.1;simp only[ay]at ho;rw[et];simp only[go_sem];refine ho.run ?_;simp only[go_sem,c5,ak,n5];refine(lB _ [59] h4.1).run ?_;simp only[go_sem,c4,c45,ak,n4,n5,m45];exact .mk (h' :=upd G id (some (PO (eu (gD (ia (cp st).2).2).2 [59])))) (aC ⟨(cp st).1,deny,(ia (cp st).2).1,[],(gD (ia (cp st).2).2).1⟩) (gA _) (Sub.both ae6 _ _) ⟨by rw[er],by rw[er]⟩
 ·have et:cq (ia (cp st).2).2 ifT=(true,bh (ia (cp st).2).2):=by grind [cq]
  obtain⟨⟨cn,stc⟩,ec⟩:∃x,qV (ia (cp st).2).2=x:=⟨_,rfl⟩;have er:qx deny st=(⟨(cp st).1,deny,(ia (cp st).2).1,cn,(gD stc).1⟩,eu (gD stc).2 [59]):=by grind [qx]
  have hcnd:=KH (bh (ia (cp st).2).2) (fo h2.1 (dK d0)).1;have ec2:iN (eU (bh (ia (cp st).2).2).ts.length) (bh (ia (cp st).2).2) [] false=(cn,stc):=by rw[←ec];simp only[qV,d0,if_true];rfl
  rw[ec2]at hcnd;simp only[fH]at hcnd;rw[ec]at h3 h4;have ho:=tX _ h3.1;simp only[ay]at ho;rw[et];simp only[go_sem];refine hcnd.run ?_;simp only[go_sem,c5,ak,n5];refine ho.run ?_;simp only[go_sem,c5,ak,n5];refine(lB _ [59] h4.1).run ?_;simp only[go_sem,c4,c45,ak,n4,n5,m45];exact .mk (h' :=upd G id (some (PO (eu (gD stc).2 [59])))) (aC ⟨(cp st).1,deny,(ia (cp st).2).1,cn,(gD stc).1⟩) (gA _) (Sub.both ae6 _ _) ⟨by rw[er],by rw[er]⟩
theorem QX:(U 213).sz=5:=aeR
theorem W8:(U 213).bytes=96:=aeR
theorem yb(l:List cQ):Sized 5 (l.map aC):=fun z hz=>by
 obtain⟨c,_,rfl⟩:=List.mem_map.1 hz;rfl
theorem TE(st:PS)(hw:WfP st)(hr:st.rules≤64):PC 148 [] st (.sl ((kD 17 st []).1.map aC) .no) (kD 17 st []).2:=.of fun G id=>by
 obtain⟨M,eM⟩:∃M,kD 17 st []=M:=⟨_,rfl⟩;rw[eM];refine aeB func148 51 [.tmp 2] fun hwf=>?_
 simp only[go_sem];have hB:upd G id none id=none:=ah ..;refine .intro (fun m ρ H=>∃(f:Nat) (st' :PS) (l:List cQ) (y:AV),H id=some (PO st')∧Acc U 213 (upd G id none) H y (l.map aC)∧Ah st st'∧st'.rules≤64∧kD f st' l=M∧f+l.length=17∧l.length≤16∧m=f∧lk ρ 0=some (.ptr id 0)∧lk ρ 3=some y) 17 ?_ ?_
 ·refine⟨17,st,[],.sl ([].map aC) .full,ah ..,.full (base_start G id _),.refl hw,hr,eM,aeJ,aeJ,rfl,?_,?_⟩<;>simp only[go_sem]<;>rfl
 ·rintro m ρ H ⟨f,st',l,y,hH,hy,ha,hru,hfin,hf,hll,rfl,r0,r3⟩
  have hlen:=ha.1.2.2;have hpos:=ha.1.1;obtain⟨g,rfl⟩:∃g,m=g+1:=⟨m - 1,aeC⟩;simp only[go_sem,r0];refine(um st' pY ha.1).go hH ?_;rw[bF hH];have fin:isD st' pY=false→isD st' jt=false→(l,st')=M:=fun d1 d2=>by
   grind [kD]
  have rest:isD st' pY=true∨isD st' jt=true→True:=fun _=>trivial
  cases d1:isD st' pY
  ·simp only[go_sem,r0]
   refine(um st' jt ha.1).go hH ?_;rw[bF hH];cases d2:isD st' jt
   ·simp only[go_sem,r3]
    have e:=fin d1 d2;exact .mk (h' :=upd G id (some (PO M.2))) (.sl (M.1.map aC) .no) afI (by rw[←e];exact fG hy.1 hH) ⟨rfl,rfl⟩
   ·exact aiP
  ·exact aiP
theorem QW:(U 39).sz=7:=aeR
theorem W6:(U 39).bytes=128:=aeR
theorem ya(l:List bD):Sized 7 (l.map aO):=fun z hz=>by
 obtain⟨c,_,rfl⟩:=List.mem_map.1 hz;cases c;rfl
theorem Tb(pol:PoF)(d:Nat)(hd5:d≤5)(hp:∀st,WfP st→st.rules≤64→d≤4→PC 87 [.i d] st (aO (pol st).1) (pol st).2)(hpa:∀st,WfP st→Ah st (pol st).2)(hpr:∀st,oD st (pol st).2)
  (st:PS) (hw:WfP st) (hr:st.rules≤64):PC 147 [.i d] st (.sl ((kg pol (decide ((4:Int)<(d:Int))) 17 st []).1.map aO) .no) (kg pol (decide ((4:Int)<(d:Int))) 17 st []).2:=.of fun G id=>by
 obtain⟨M,eM⟩:∃M,kg pol (decide ((4:Int)<(d:Int))) 17 st []=M:=⟨_,rfl⟩;rw[eM];refine aeB func147 33 [.tmp 4] fun hwf=>?_
 simp only[go_sem];have hB:upd G id none id=none:=ah ..;refine .intro (fun m ρ H=>∃(f:Nat) (st' :PS) (l:List bD) (y:AV),H id=some (PO st')∧Acc U 39 (upd G id none) H y (l.map aO)∧Ah st st'∧st'.rules≤64∧kg pol (decide ((4:Int)<(d:Int))) f st' l=M∧f+l.length=17∧l.length≤16∧m=f∧lk ρ 0=some (.ptr id 0)∧lk ρ 1=some (.i d)∧lk ρ 5=some y) 17 ?_ ?_
 ·refine⟨17,st,[],.sl ([].map aO) .full,ah ..,.full (base_start G id _),.refl hw,hr,eM,aeJ,aeJ,rfl,?_,?_,?_⟩<;>simp only[go_sem]<;>rfl
 ·rintro m ρ H ⟨f,st',l,y,hH,hy,ha,hru,hfin,hf,hll,rfl,r0,r1,r5⟩
  have hlen:=ha.1.2.2;have hpos:=ha.1.1;obtain⟨g,rfl⟩:∃g,m=g+1:=⟨m - 1,aeC⟩;simp only[go_sem,r0];refine(um st' pZ ha.1).go hH ?_;rw[bF hH];have fin:isD st' pZ=false→isD st' Hr=false→(l,st')=M:=fun d1 d2=>by
   grind [kg]
  cases d1:isD st' pZ
  ·simp only[go_sem,r0]
   refine(um st' Hr ha.1).go hH ?_;rw[bF hH];cases d2:isD st' Hr
   ·simp only[go_sem,r5]
    have e:=fin d1 d2;exact .mk (h' :=upd G id (some (PO M.2))) (.sl (M.1.map aO) .no) afI (by rw[←e];exact fG hy.1 hH) ⟨rfl,rfl⟩
   ·have hd:isD st' pZ=true∨isD st' Hr=true:=by grind
    have eb:=(nD hd).1;have ek:=(nD hd).2;have db:(st'.bad !=0)=false:=aeD;have gP:=hH;unfold PO at gP;have lim:l.length=16∨decide ((4:Int)<(d:Int))=true→(l,bE st' true)=M:=fun h=>by
     rw[←hfin];simp only[kg,if_pos hd,if_pos h]
    have hdl:bE st' true=bH st' 6 (aL st').pos:=rfl;have hlb:((bE st' true).bad !=0)=true:=by grind [bH]
    cases dA:((l.length:Int)==16)
    ·cases dB:decide ((4:Int)<(d:Int))
     ·have nA:l.length≠16:=fun e=>by grind
      have hno:¬(l.length=16∨decide ((4:Int)<(d:Int))=true):=fun h=>h.elim nA (fun e=>aeD)
      simp only[kg,if_pos hd,if_neg hno]at hfin;rw[dB]at hfin;have hd4:d≤4:=aeD;simp only[go_sem,r0,r1,r5,hy.len,aes,dA,dB];refine(cO st' false ha.1).go hH ?_;rw[show bE st' false=st' from rfl,bF hH]
      have h3:=hpa st' ha.1;have hrp:=hp st' ha.1 hru hd4;have hr3:=vQ (hpr st') hru;obtain⟨x,st2,e2⟩:∃x st2,pol st' =(x,st2):=⟨_,_,rfl⟩;rw[e2]at hfin hrp h3 hr3;obtain⟨pid,pset,palg,ptgt,prules,pkids,pobls⟩:=x;simp only[aO]at hrp hfin h3 hr3;simp only[go_sem,r0,r1,r5,gP,db];refine hrp.go hH ?_;simp only[go_sem];refine(hy.put hB hH _).app (zs:=[aO ⟨pid,pset,palg,ptgt,prules,pkids,pobls⟩]) aeG aeG (fun k hk=>hk) (by grind [QW,ya]) agW (by grind [W6]) fun y' H2 hy' hk2=>?_
      have hH2:H2 id=some (PO st2):=hk2 _ _ _ (ah ..);simp only[go_sem];refine⟨_,?_,g,st2,l++ [⟨pid,pset,palg,ptgt,prules,pkids,pobls⟩],y',hH2,aeD,ha.trans h3,hr3,hfin,aeD,aeD,rfl,?_,?_,?_⟩
      ·omega
      all_goals simp only[go_sem,r0,r1]
     ·have e:=lim (.inr dB)
      simp only[go_sem,r0,r1,r5,hy.len,aes,dA,dB];refine(cO st' true ha.1).go hH ?_;have g3:upd H id (some (PO (bE st' true))) id=some (PO (bE st' true)):=ah ..;unfold PO at g3;simp only[go_sem,r0,r5,g3,hlb,PO];exact .mk (h' :=upd G id (some (PO M.2))) (.sl (M.1.map aO) .no) afI afd ⟨rfl,rfl⟩
    ·have nA:l.length=16:=by grind
     have e:=lim (.inl nA);simp only[go_sem,r0,r5,hy.len,aes,dA];refine(cO st' true ha.1).go hH ?_;have g3:upd H id (some (PO (bE st' true))) id=some (PO (bE st' true)):=ah ..;unfold PO at g3;simp only[go_sem,r0,r5,g3,hlb,PO];exact .mk (h' :=upd G id (some (PO M.2))) (.sl (M.1.map aO) .no) afI afd ⟨rfl,rfl⟩
  ·have hd:isD st' pZ=true∨isD st' Hr=true:=by grind
   have eb:=(nD hd).1;have ek:=(nD hd).2;have db:(st'.bad !=0)=false:=aeD;have gP:=hH;unfold PO at gP;have lim:l.length=16∨decide ((4:Int)<(d:Int))=true→(l,bE st' true)=M:=fun h=>by
    rw[←hfin];simp only[kg,if_pos hd,if_pos h]
   have hdl:bE st' true=bH st' 6 (aL st').pos:=rfl;have hlb:((bE st' true).bad !=0)=true:=by grind [bH]
   cases dA:((l.length:Int)==16)
   ·cases dB:decide ((4:Int)<(d:Int))
    ·have nA:l.length≠16:=fun e=>by grind
     have hno:¬(l.length=16∨decide ((4:Int)<(d:Int))=true):=fun h=>h.elim nA (fun e=>aeD)
     simp only[kg,if_pos hd,if_neg hno]at hfin;rw[dB]at hfin;have hd4:d≤4:=aeD;simp only[go_sem,r0,r1,r5,hy.len,aes,dA,dB];refine(cO st' false ha.1).go hH ?_;rw[show bE st' false=st' from rfl,bF hH]
     have h3:=hpa st' ha.1;have hrp:=hp st' ha.1 hru hd4;have hr3:=vQ (hpr st') hru;obtain⟨x,st2,e2⟩:∃x st2,pol st' =(x,st2):=⟨_,_,rfl⟩;rw[e2]at hfin hrp h3 hr3;obtain⟨pid,pset,palg,ptgt,prules,pkids,pobls⟩:=x;simp only[aO]at hrp hfin h3 hr3;simp only[go_sem,r0,r1,r5,gP,db];refine hrp.go hH ?_;simp only[go_sem];refine(hy.put hB hH _).app (zs:=[aO ⟨pid,pset,palg,ptgt,prules,pkids,pobls⟩]) aeG aeG (fun k hk=>hk) (by grind [QW,ya]) agW (by grind [W6]) fun y' H2 hy' hk2=>?_
     have hH2:H2 id=some (PO st2):=hk2 _ _ _ (ah ..);simp only[go_sem];refine⟨_,?_,g,st2,l++ [⟨pid,pset,palg,ptgt,prules,pkids,pobls⟩],y',hH2,aeD,ha.trans h3,hr3,hfin,aeD,aeD,rfl,?_,?_,?_⟩
     ·omega
     all_goals simp only[go_sem,r0,r1]
    ·have e:=lim (.inr dB)
     simp only[go_sem,r0,r1,r5,hy.len,aes,dA,dB];refine(cO st' true ha.1).go hH ?_;have g3:upd H id (some (PO (bE st' true))) id=some (PO (bE st' true)):=ah ..;unfold PO at g3;simp only[go_sem,r0,r5,g3,hlb,PO];exact .mk (h' :=upd G id (some (PO M.2))) (.sl (M.1.map aO) .no) afI afd ⟨rfl,rfl⟩
   ·have nA:l.length=16:=by grind
    have e:=lim (.inl nA);simp only[go_sem,r0,r5,hy.len,aes,dA];refine(cO st' true ha.1).go hH ?_;have g3:upd H id (some (PO (bE st' true))) id=some (PO (bE st' true)):=ah ..;unfold PO at g3;simp only[go_sem,r0,r5,g3,hlb,PO];exact .mk (h' :=upd G id (some (PO M.2))) (.sl (M.1.map aO) .no) afI afd ⟨rfl,rfl⟩
theorem EX(r:Nat)(d:Nat)(hrd:r+d=4)(hp:∀st,WfP st→st.rules≤64→d+1≤4→PC 87 [.i (d+1:Nat)] st (aO (gQ r st).1) (gQ r st).2)(st:PS)(hw:WfP st)(hr:st.rules≤64):
  PC 87 [.i d] st (aO (gQ (r+1) st).1) (gQ (r+1) st).2:=.of fun G id=>by
 have h1:=gN nF hw;have h2:=nQ h1.1;have h3:=gN yw h2.1;have h4:=Ci h3.1;have h5:Ah _ (cW st).2:=jC [123] h4.1;have ht:=RV _ h3.1;simp only[aV]at ht;have hrh:=vQ (E3 st).big hr;have hset:(cW st).1.1=((aZ st nF).1==2):=rfl;have w1:IntKind.i64.wrap ((d:Int)+1)=((d+1:Nat):Int):=aeN;have hdp:(r==0)=decide ((4:Int)<((d+1:Nat):Int)):=by
  grind
 have hk:=Tb (gQ r) (d+1) aeC hp (fun _ h=>yq r _ h) (CW r) _ h5.1 hrh
 have hs:=TE _ h5.1 hrh;refine aeB func87 39 [.cell 4 39] fun hwf=>?_
 simp only[go_sem];intro i4 hi4;have n4:=aI hi4;have hG4:G i4=none:=afe;have c4:∀(f:Heap) (x y:Option Blk),upd (upd f id x) i4 y=upd (upd f i4 y) id x:=fun f x y=>cy f x y n4.symm
 simp only[go_sem,c4];intro i5 hi5;have n5:=aI hi5;have hi5' :=hi5;rw[ag _ _ n5]at hi5';have n54:=aI hi5';have m54:¬i5=i4:=n54;have m45:¬i4=i5:=n54.symm;have hG5:G i5=none:=afe;have c5:∀(f:Heap) (x y:Option Blk),upd (upd f id x) i5 y=upd (upd f i5 y) id x:=fun f x y=>cy f x y n5.symm
 have c45:∀(f:Heap) (x y:Option Blk),upd (upd f i5 x) i4 y=upd (upd f i4 y) i5 x:=fun f x y=>cy f x y n54
 simp only[go_sem,c5];refine(oU st nF .full aeG hw).run ?_;simp only[go_sem,c5,ak,n5];refine(uH _ h1.1).run ?_;simp only[go_sem,c5,ak,n5];refine(oU _ yw .full aeG h2.1).run ?_;simp only[go_sem,c5,ak,n5];refine ht.run ?_;simp only[go_sem,c5,ak,n5];refine(lB _ [123] h4.1).run ?_;cases ds:((aZ st nF).1==2)
 ·rw[ds]at hset
  simp only[go_sem,ak,n5];have eb:qs (gQ r) (r==0) (cW st).1.1 (cW st).2=(((kD 17 (cW st).2 []).1,[]),(kD 17 (cW st).2 []).2):=by grind [qs]
  have hb:=Cf (fun _ h=>yq r _ h) (r==0) (cW st).1.1 h5.1
  obtain⟨⟨rl,stb⟩,er⟩:∃x,kD 17 (cW st).2 []=x:=⟨_,rfl⟩;rw[er]at eb hs;rw[eb]at hb;have ho:=tX _ (jC [125] hb.1).1;simp only[ay]at ho hs;refine hs.run ?_;simp only[go_sem,c5,ak,n5];refine(lB _ [125] hb.1).run ?_;simp only[go_sem];refine ho.run ?_;simp only[go_sem,c4,c5,c45,ak,n4,n5,m45];have efin:gQ (r+1) st=(.mk (cW st).1.2.1 false (cW st).1.2.2.1 (cW st).1.2.2.2 rl [] (gD (eu stb [125])).1,(gD (eu stb [125])).2):=by grind [gQ]
  exact .mk (h' :=upd G id (some (PO (gD (eu stb [125])).2))) (aO (.mk (cW st).1.2.1 false (cW st).1.2.2.1 (cW st).1.2.2.2 rl [] (gD (eu stb [125])).1)) (gA _) (Sub.both ae6 _ _) ⟨aeD,aeD⟩
 ·rw[ds]at hset
  simp only[go_sem,ak,n5,w1];have eb:qs (gQ r) (r==0) (cW st).1.1 (cW st).2=(([],(kg (gQ r) (r==0) 17 (cW st).2 []).1),(kg (gQ r) (r==0) 17 (cW st).2 []).2):=by grind [qs]
  have hb:=Cf (fun _ h=>yq r _ h) (r==0) (cW st).1.1 h5.1
  rw[←hdp]at hk;obtain⟨⟨kl,stb⟩,er⟩:∃x,kg (gQ r) (r==0) 17 (cW st).2 []=x:=⟨_,rfl⟩;rw[er]at eb hk;rw[eb]at hb;have ho:=tX _ (jC [125] hb.1).1;simp only[ay]at ho hk;refine hk.run ?_;simp only[go_sem,c5,ak,n5];refine(lB _ [125] hb.1).run ?_;simp only[go_sem];refine ho.run ?_;simp only[go_sem,c4,c5,c45,ak,n4,n5,m45];have efin:gQ (r+1) st=(.mk (cW st).1.2.1 true (cW st).1.2.2.1 (cW st).1.2.2.2 [] kl (gD (eu stb [125])).1,(gD (eu stb [125])).2):=by grind [gQ]
  exact .mk (h' :=upd G id (some (PO (gD (eu stb [125])).2))) (aO (.mk (cW st).1.2.1 true (cW st).1.2.2.1 (cW st).1.2.2.2 [] kl (gD (eu stb [125])).1)) (by simp only[aO,bf];exact gA _) (Sub.both ae6 _ _) ⟨aeD,aeD⟩
theorem EW:∀(r d:Nat),r+d=4→∀st,WfP st→st.rules≤64→PC 87 [.i d] st (aO (gQ (r+1) st).1) (gQ (r+1) st).2
 |0,d,hrd=>fun st hw hr=>EX 0 d hrd aeC st hw hr
 |r+1,d,hrd=>fun st hw hr=>EX (r+1) d hrd (fun st hw hr _=>EW r (d+1) aeC st hw hr) st hw hr
def Keeps(S:List Nat)(h h' :Heap):Prop:=∀j k,j∉S→h j=some k→h' j=some k
theorem Keeps.trans{b c:Heap}(x:Keeps S a b)(y:Keeps S b c):Keeps S a c:=fun j k hj e=>y j k hj (x j k hj e)
theorem Keeps.of{b:Heap}(x:Ab.Sub a b):Keeps S a b:=fun j k _ e=>x j k e
theorem Keeps.upd{i:Nat}{b:Option Blk}(hi:i∈S):Keeps S a (Ab.upd a i b):=fun j k hj e=>by
 grind [ag]
def iF(h:Heap)(idw mid:Nat)(m:eP):Prop:=h idw=some (.obj [.mp mid,.i m.rules] 242)∧h mid=some (.mp (AL m.met))∧(∀l∈m.met,l.length≤16)∧m.rules≤64
theorem iF.ne(hw:iF h idw mid m):idw≠mid:=fun e=>by
 have h1:=hw.1;have h2:=hw.2.1
 rw[e,h2]at h1;cases h1
theorem iF.keep(hw:iF h idw mid m)(hs:Ab.Sub h h'):iF h' idw mid m:=⟨hs _ _ hw.1,hs _ _ hw.2.1,hw.2.2⟩
theorem Zr:(U 364).sz=0:=aeR
theorem GV(h:bp s=true):s.length≤16:=by grind [bp]
theorem zz(h:s∈m.met∨bp s=false):jz m s=none:=by
 unfold jz
 grind
theorem FD(idw mid:Nat)(m:eP)(s:Txt)(h:Heap)(hw:iF h idw mid m):ai prog 243 [.ptr idw 0,.s s] h fun r h' =>match jz m s with
  |none=>r= .b false∧Ab.Sub h h'
  |some m' =>r= .b true∧Keeps [idw,mid] h h'∧iF h' idw mid m' :=by
 refine aeB func243 28 [.tmp 4] fun hwf=>?_
 obtain⟨w1,w2,w3,w4⟩:=hw;have hlen:s.length≤maxLen:=by
  have:=hwf (.s s) aeJ;simp only[wfA,wf1,lim]at this;unfold maxLen;omega
 have hkeys:A2 .str (AL m.met):=Ku fun l hl=>by grind [maxLen]
 simp only[go_sem,w1,w2];refine⟨hlen,.inr aeR,hkeys,?_⟩;rw[Kz _ _ Zr];simp only[go_sem];intro idv hidv;simp only[go_sem];cases d1:decide (s∈m.met)
 case true=>
  have hm:=zz (.inl (aeu d1));simp only[go_sem];rw[hm];exact .mk _ (.refl _) (.aj hidv) ⟨rfl,.refl _⟩
 have e1:=aev d1;simp only[go_sem];refine(pT _ _).pthen ?_;cases d2:bp s
 ·have hm:=zz (m:=m) (.inr d2)
  simp only[go_sem];rw[hm];exact .mk _ (.refl _) (.aj hidv) ⟨rfl,.refl _⟩
 have hm:jz m s=some ⟨m.met++ [s],m.rules⟩:=by grind [jz]
 have w1' :upd h idv (some (.obj [] 364)) idw=some (.obj [.mp mid,.i m.rules] 242):=afe;have w2' :upd h idv (some (.obj [] 364)) mid=some (.mp (AL m.met)):=afe;simp only[go_sem,w1',w2'];refine⟨hlen,hkeys,?_⟩;rw[Og e1];rw[hm];refine .same (.refl _) ⟨rfl,(Keeps.of (.aj hidv)).trans (.upd aeJ),?_,?_,?_,w4⟩
 ·grind [ag]
 ·rw[ah]
 grind [List.mem_singleton,GV]
theorem OO(idw mid:Nat)(m:eP)(r:cQ)(h:Heap)(hw:iF h idw mid m):ai prog 203 [.ptr idw 0,aC r] h fun x h' =>x= .v (.int .i64 (gF m r).err)∧Keeps [idw,mid] h h'∧∀m',gF m r= .ok m'→iF h' idw mid m' :=by
 refine aeB func203 39 [.tmp 4] fun hwf=>?_
 simp only[go_sem,aC,aV,fH,ay];intro id hid;have n1:idw≠id:=fun e=>by have:=hw.1;rw[e,hid]at this;cases this
 have n2:mid≠id:=fun e=>by have:=hw.2.1;rw[e,hid]at this;cases this
 have hwb:=hw.keep (Sub.aj (k:=some (.obj [.s r.id,.b r.deny,.sl (r.tgt.map cV) .no,.sl (r.cond.map dL) .no,.sl (r.obls.map bl) .no] 213)) hid);have hk0:Keeps [idw,mid] h (upd h id (some (.obj [.s r.id,.b r.deny,.sl (r.tgt.map cV) .no,.sl (r.cond.map dL) .no,.sl (r.obls.map bl) .no] 213))):=.of (.aj hid);simp only[go_sem];obtain⟨hb,ehb⟩:∃hb,upd h id (some (.obj [.s r.id,.b r.deny,.sl (r.tgt.map cV) .no,.sl (r.cond.map dL) .no,.sl (r.obls.map bl) .no] 213))=hb:=⟨_,rfl⟩;have hbid:hb id=some (.obj [.s r.id,.b r.deny,.sl (r.tgt.map cV) .no,.sl (r.cond.map dL) .no,.sl (r.obls.map bl) .no] 213):=ah2;rw[ehb]at hwb hk0⊢;refine(FD idw mid m r.id hb hwb).mono fun x h2 hx=>?_
 cases hm:jz m r.id with
 |none=>
  rw[hm]at hx;obtain⟨rfl,hs⟩:=hx;have hr:gF m r= .bad 1:=by grind [gF]
  simp only[go_sem];exact .same (.refl _) ⟨aiH,hk0.trans (.of hs),fun m' h' =>aeD⟩
 |some m1=>
  rw[hm]at hx;obtain⟨rfl,hk,hw2⟩:=hx;have g2:=hw2.1;have hle:=hw2.2.2.2;have hid2:h2 id=some (.obj [.s r.id,.b r.deny,.sl (r.tgt.map cV) .no,.sl (r.cond.map dL) .no,.sl (r.obls.map bl) .no] 213):=hk id _ aeD hbid;have w1:IntKind.i64.wrap ((m1.rules:Int)+1)=((m1.rules+1:Nat):Int):=aeN;have hk3:Keeps [idw,mid] h (upd h2 idw (some (.obj [.mp mid,.i ((m1.rules+1:Nat):Int)] 242))):=(hk0.trans hk).trans (.upd aeJ);have hid3:upd h2 idw (some (.obj [.mp mid,.i ((m1.rules+1:Nat):Int)] 242)) id=some (.obj [.s r.id,.b r.deny,.sl (r.tgt.map cV) .no,.sl (r.cond.map dL) .no,.sl (r.obls.map bl) .no] 213):=by
   grind [ag]
  cases d1:decide (64<((m1.rules+1:Nat):Int))
  case true=>
   have e1:m1.rules+1>64:=aeD;have hr:gF m r= .bad 6:=by grind [gF]
   simp only[go_sem,g2,w1,d1];exact ajH
  have e1:¬m1.rules+1>64:=aeD;have hr:gF m r=need (l9 r.tgt) (need (kN r.cond) (need (iM r.obls) (.ok ⟨m1.met,m1.rules+1⟩))):=by grind [gF]
  simp only[go_sem,g2,w1,d1,hid3];refine(vX r.tgt _).pthen ?_;cases d2:(l9 r.tgt !=0)
  case true=>
   have e2:l9 r.tgt≠0:=aeD;have hr:gF m r= .bad (l9 r.tgt):=by grind [need]
   simp only[go_sem,d2];exact ajH
  have e2:l9 r.tgt=0:=aeD;rw[need,if_pos e2]at hr;simp only[go_sem,d2,hid3];refine(Ik r.cond _).pthen ?_;cases d3:(kN r.cond !=0)
  case true=>
   have e3:kN r.cond≠0:=aeD;have hr:gF m r= .bad (kN r.cond):=by grind [need]
   simp only[go_sem,d3];exact ajH
  have e3:kN r.cond=0:=aeD;rw[need,if_pos e3]at hr;simp only[go_sem,d3,hid3];refine(CO r.obls _).pthen ?_;simp only[go_sem]
  by_cases e4:iM r.obls=0
  ·rw[need,if_pos e4]at hr
   refine .same (.refl _) ⟨by rw[hr,e4];rfl,hk3,fun m' h' =>?_⟩
   rw[hr]at h';cases h';refine⟨ah ..,?_,hw2.2.2.1,aeD⟩;rw[ag _ _ hw2.ne.symm];exact hw2.2.1
  ·rw[need,if_neg e4]at hr
   exact ajH
theorem y8{id:Txt}{set:Bool}(h:jz m id=none):fA m id set alg tgt nr nk obls= .bad 1:=by grind [fA]
theorem OM(idw mid:Nat)(m:eP)(id:Txt)(set:Bool)(alg:Int)(tgt:gv)(rules:List cQ)(kids:List bD)(obls:List cB)(h:Heap)(hw:iF h idw mid m):
  ai prog 202 [.ptr idw 0,aO (.mk id set alg tgt rules kids obls)] h fun x h' =>x= .v (.int .i64 (fA m id set alg tgt rules.length kids.length obls).err)∧Keeps [idw,mid] h h'∧∀m',fA m id set alg tgt rules.length kids.length obls= .ok m'→iF h' idw mid m' :=by
 refine aeB func202 68 [.tmp 4] fun hwf=>?_
 simp only[go_sem,aO,aV,ay];intro ip hip;have n1:idw≠ip:=fun e=>by have:=hw.1;rw[e,hip]at this;cases this
 have n2:mid≠ip:=fun e=>by have:=hw.2.1;rw[e,hip]at this;cases this
 have hwb:=hw.keep (Sub.aj (k:=some (.obj [.s id,.b set,.i alg,.sl (tgt.map cV) .no,.sl (rules.map aC) .no,.sl (fO kids) .no,.sl (obls.map bl) .no] 39)) hip);have hk0:Keeps [idw,mid] h (upd h ip (some (.obj [.s id,.b set,.i alg,.sl (tgt.map cV) .no,.sl (rules.map aC) .no,.sl (fO kids) .no,.sl (obls.map bl) .no] 39))):=.of (.aj hip);simp only[go_sem];obtain⟨hb,ehb⟩:∃hb,upd h ip (some (.obj [.s id,.b set,.i alg,.sl (tgt.map cV) .no,.sl (rules.map aC) .no,.sl (fO kids) .no,.sl (obls.map bl) .no] 39))=hb:=⟨_,rfl⟩;have hbip:hb ip=some (.obj [.s id,.b set,.i alg,.sl (tgt.map cV) .no,.sl (rules.map aC) .no,.sl (fO kids) .no,.sl (obls.map bl) .no] 39):=ah2;rw[ehb]at hwb hk0⊢;refine(FD idw mid m id hb hwb).mono fun x h2 hx=>?_
 cases hm:jz m id with
 |none=>
  rw[hm]at hx;obtain⟨rfl,hs⟩:=hx;simp only[go_sem];exact .same (.refl _) ⟨by rw[y8 hm];rfl,hk0.trans (.of hs),fun m' h' =>by rw[y8 hm]at h';cases h'⟩
 |some m1=>
  rw[hm]at hx;obtain⟨rfl,hk,hw2⟩:=hx;have hip2:h2 ip=some (.obj [.s id,.b set,.i alg,.sl (tgt.map cV) .no,.sl (rules.map aC) .no,.sl (fO kids) .no,.sl (obls.map bl) .no] 39):=hk ip _ (by simp[n1.symm,n2.symm]) hbip
  have hkk:=hk0.trans hk;have bad:∀e,fA m id set alg tgt rules.length kids.length obls= .bad e→(.i e:AV)= .v (.int .i64 (fA m id set alg tgt rules.length kids.length obls).err)∧Keeps [idw,mid] h h2∧∀m',fA m id set alg tgt rules.length kids.length obls= .ok m'→iF h2 idw mid m' :=
   fun e he=>⟨by rw[he];rfl,hkk,fun m' h' =>by rw[he]at h';cases h'⟩
  cases d1:decide (alg<1)
  case true=>
   have e1:=aeu d1;simp only[go_sem,d1,hip2];exact .same (.refl _) (bad 1 (by simp[fA,hm,e1]))
  cases d2:decide (6<alg)
  case true=>
   have e2:=aeu d2;simp only[go_sem,d1,d2,hip2];exact .same (.refl _) (bad 1 (by simp[fA,hm,e2]))
  have e1:¬(alg<1∨alg>6):=by have:=aev d1;have:=aev d2;omega
  have tail:∀(z:Unit),¬(set=true∧rules.length>0∨set=false∧(kids.length>0∨alg=4))→fA m id set alg tgt rules.length kids.length obls=need (l9 tgt) (need (iM obls) (if rules.length>16∨kids.length>16 then .bad 6 else .ok m1)):=fun _ hh=>by
   simp only[fA,hm];rw[if_neg e1,if_neg hh]
  cases set
  ·cases d4:decide (0<(kids.length:Int))
   case true=>
    have f4:0<kids.length:=by have:=aeu d4;omega
    simp only[go_sem,d1,d2,hip2,bf,aes,d4];exact .same (.refl _) (bad 1 (by simp[fA,hm,e1,f4]))
   have g4:¬0<kids.length:=by have:=aev d4;omega
   cases d5:(alg==4)
   case true=>
    have f5:alg=4:=by simpa using d5
    simp only[go_sem,d1,d2,hip2,bf,aes,d4,d5];exact .same (.refl _) (bad 1 (by simp[fA,hm,f5]))
   have g5:alg≠4:=by simpa using d5
   simp only[go_sem,d1,d2,hip2,bf,aes,d4,d5];have e3:=tail () (by simp[g4,g5])
   refine(vX tgt _).pthen ?_;cases t1:(l9 tgt !=0)
   case true=>
    exact aj0
   have f1:l9 tgt=0:=by simpa using t1
   simp only[go_sem,t1,hip2];refine(CO obls _).pthen ?_;cases t2:(iM obls !=0)
   case true=>
    exact ajW
   have f2:iM obls=0:=by simpa using t2
   cases t3:decide (16<(rules.length:Int))
   case true=>
    exact ajK
   have f3:¬16<rules.length:=by have:=aev t3;omega
   cases t4:decide (16<(kids.length:Int))
   case true=>
    exact ajI
   have f4:¬16<kids.length:=by have:=aev t4;omega
   simp only[go_sem,t2,hip2,aes,t3,bf,t4];have e4:fA m id false alg tgt rules.length kids.length obls= .ok m1:=by rw[e3];simp[need,f1,f2,f3,f4]
   exact akf
  ·cases d3:decide (0<(rules.length:Int))
   case true=>
    have f3:0<rules.length:=by have:=aeu d3;omega
    simp only[go_sem,d1,d2,hip2,aes,d3];exact .same (.refl _) (bad 1 (by simp[fA,hm,e1,f3]))
   have g3:¬0<rules.length:=by have:=aev d3;omega
   simp only[go_sem,d1,d2,hip2,aes,d3];have e3:=tail () (by simp[g3])
   refine(vX tgt _).pthen ?_;cases t1:(l9 tgt !=0)
   case true=>
    exact aj0
   have f1:l9 tgt=0:=by simpa using t1
   simp only[go_sem,t1,hip2];refine(CO obls _).pthen ?_;cases t2:(iM obls !=0)
   case true=>
    exact ajW
   have f2:iM obls=0:=by simpa using t2
   cases t3:decide (16<(rules.length:Int))
   case true=>
    exact ajK
   have f3:¬16<rules.length:=by have:=aev t3;omega
   cases t4:decide (16<(kids.length:Int))
   case true=>
    exact ajI
   have f4:¬16<kids.length:=by have:=aev t4;omega
   simp only[go_sem,t2,hip2,aes,t3,bf,t4];have e4:fA m id true alg tgt rules.length kids.length obls= .ok m1:=by rw[e3];simp[need,f1,f2,f3,f4]
   exact akf
theorem NQ(k:bD):(aO k).cells.length=7:=by cases k;rfl
theorem vM{p:bD}(h:4<d):kY m d p= .bad 6:=by cases p;grind [kY]
theorem vN{id:Txt}{set:Bool}{e:Int}(h:¬4<d)
  (hh:fA m id set alg tgt rules.length kids.length obls= .bad e):kY m d (.mk id set alg tgt rules kids obls)= .bad e:=by
 grind [kY]
theorem zL{id:Txt}{set:Bool}{e:Int}(h:¬4<d)
  (hh:fA m id set alg tgt rules.length kids.length obls= .ok m1) (hr:fK m1 rules= .bad e):kY m d (.mk id set alg tgt rules kids obls)= .bad e:=by
 grind [kY]
theorem BI{m2:eP}{id:Txt}{set:Bool}(h:¬4<d)
  (hh:fA m id set alg tgt rules.length kids.length obls= .ok m1) (hr:fK m1 rules= .ok m2):kY m d (.mk id set alg tgt rules kids obls)=jg m2 (d+1) kids:=by
 grind [kY]
theorem uJ:∀(n d:Nat) (m:eP) (p:bD) (e:Int),d+n=5→kY m d p= .bad e→e≠0
 |0,d,m,p,e,hd,h=>by grind [vM]
 |n+1,d,m,.mk id set alg tgt rules kids obls,e,hd,h=>by
  by_cases h4:4<d
  ·omega
  cases hh:fA m id set alg tgt rules.length kids.length obls with
  |bad e' =>grind [vN,Bl]
  |ok m1=>
   cases hr:fK m1 rules with
   |bad e' =>
    rw[zL h4 hh hr]at h;cases h
    clear hh hd
    induction rules generalizing m1 with
    |nil=>cases hr
    |cons r l ih=>
     grind [fK,gF,BS]
   |ok m2=>
    rw[BI h4 hh hr]at h;have ih:=fun m p e=>uJ n (d+1) m p e aeC
    clear hh hr
    induction kids generalizing m2 with
    |nil=>cases h
    |cons k l ihk=>
     simp only[jg]at h;cases hx:kY m2 (d+1) k with
     |bad x=>rw[hx]at h;cases h;exact ih _ _ _ hx
     |ok m3=>rw[hx]at h;exact ihk m3 h
theorem IM{e:Int}{w:Went}(h:need e w= .ok m):e=0∧w= .ok m:=by grind [need]
theorem MP{id:Txt}{set:Bool}(h:fA m id set alg tgt nr nk obls= .ok m1):
  jz m id=some m1∧1≤alg∧alg≤6∧(set=true→nr=0)∧(set=false→nk=0∧alg≠4)∧l9 tgt=0∧iM obls=0∧nr≤16∧nk≤16:=by
 unfold fA at h;split at h
 ·cases h
 split at h
 ·cases h
 split at h
 ·cases h
 obtain⟨h3,h⟩:=IM h;obtain⟨h4,h⟩:=IM h
 grind
theorem Jl:∀(n d:Nat),d+n=5→∀(idw mid:Nat) (m:eP) (p:bD) (h:Heap),iF h idw mid m→
  ai prog 150 [.ptr idw 0,aO p,.i d] h fun x h' =>x= .v (.int .i64 (kY m d p).err)∧Keeps [idw,mid] h h'∧∀m',kY m d p= .ok m'→iF h' idw mid m'
 |n,d,hd,idw,mid,m,.mk id set alg tgt rules kids obls,h,hw=>by
  refine aeB func150 52 [.tmp 6] fun hwf=>?_
  simp only[go_sem,aO,aV,ay];intro ip hip;have n1:idw≠ip:=fun e=>by have:=hw.1;rw[e,hip]at this;cases this
  have n2:mid≠ip:=fun e=>by have:=hw.2.1;rw[e,hip]at this;cases this
  have hwb:=hw.keep (Sub.aj (k:=some (.obj [.s id,.b set,.i alg,.sl (tgt.map cV) .no,.sl (rules.map aC) .no,.sl (fO kids) .no,.sl (obls.map bl) .no] 39)) hip);have hk0:Keeps [idw,mid] h (upd h ip (some (.obj [.s id,.b set,.i alg,.sl (tgt.map cV) .no,.sl (rules.map aC) .no,.sl (fO kids) .no,.sl (obls.map bl) .no] 39))):=.of (.aj hip);obtain⟨hb,ehb⟩:∃hb,upd h ip (some (.obj [.s id,.b set,.i alg,.sl (tgt.map cV) .no,.sl (rules.map aC) .no,.sl (fO kids) .no,.sl (obls.map bl) .no] 39))=hb:=⟨_,rfl⟩;have hbip:hb ip=some (.obj [.s id,.b set,.i alg,.sl (tgt.map cV) .no,.sl (rules.map aC) .no,.sl (fO kids) .no,.sl (obls.map bl) .no] 39):=ah2;rw[ehb]at hwb hk0⊢;cases d0:decide (4<(d:Int))
  case true=>
   have e0:4<d:=aeD;simp only[go_sem,d0];exact .same (.refl _) ⟨by rw[vM e0];rfl,hk0,fun m' h' =>by grind [vM]⟩
  have e0:¬4<d:=aeD;simp only[go_sem,d0,hbip];have hhead:=OM idw mid m id set alg tgt rules kids obls hb hwb;simp only[aO,aV,ay]at hhead;refine hhead.mono fun x h2 ⟨ex,hk,hw2⟩=>?_
  subst ex;have hk2:=hk0.trans hk;cases hh:fA m id set alg tgt rules.length kids.length obls with
  |bad e=>
   have hne:=Bl hh;have t1:(e !=0)=true:=aeD;simp only[go_sem,Went.err,t1];exact .same (.refl _) ⟨by rw[vN e0 hh];rfl,hk2,fun m' h' =>by grind [vN]⟩
  |ok m1=>
   have hw2:=hw2 _ hh;have hle:=(MP hh).2.2.2.2.2.2.2;have hip2:=hk ip _ aeD hbip;simp only[go_sem,Went.err,hip2,aes];refine .intro (fun k ρ h' =>∃(i:Nat) (mi:eP),i≤rules.length∧k=rules.length - i∧fK m1 (rules.take i)= .ok mi∧Keeps [idw,mid] h h'∧iF h' idw mid mi∧
    h' ip=some (.obj [.s id,.b set,.i alg,.sl (tgt.map cV) .no,.sl (rules.map aC) .no,.sl (fO kids) .no,.sl (obls.map bl) .no] 39)∧
    lk ρ 0=some (.ptr idw 0)∧lk ρ 2=some (.i d)∧lk ρ 4=some (.ptr ip 0)∧lk ρ 23=some (.sl (rules.map aC) .no)∧lk ρ 24=some (.i rules.length)∧lk ρ 25=some (.i i)) rules.length ?_ ?_
   ·refine⟨0,m1,aeC,rfl,rfl,hk2,hw2,hip2,?_,?_,?_,?_,?_,?_⟩<;>simp only[go_sem]
   ·rintro k ρ h' ⟨i,mi,hi,rfl,hri,hki,hwi,hipi,r0,r2,r4,r23,r24,r25⟩
    simp only[go_sem,r24,r25];refine .intro (fun e=>?_) (fun e=>?_)
    ·have hlt:i<rules.length:=aez e
     have w1:IntKind.i64.wrap ((i:Int)+1)=((i+1:Nat):Int):=aeN;simp only[go_sem,r23,r25];refine .at i aeD aeQ ?_;simp only[go_sem,aet,aC];intro ir hir;have hrl:=OO idw mid mi rules[i] _ (hwi.keep (Sub.aj (k:=some (.obj [.s rules[i].id,.b rules[i].deny,aV rules[i].tgt,fH rules[i].cond,ay rules[i].obls] 213)) hir));simp only[aC]at hrl;simp only[go_sem,r0];refine hrl.mono fun x h3 ⟨ex,hk3,hw3⟩=>?_
     subst ex;have hk4:=(hki.trans (.of (Sub.aj hir))).trans hk3;have hip3:=hk3 ip _ aeD ((Sub.aj hir) _ _ hipi);cases hx:gF mi rules[i]with
     |bad x=>
      have t1:(x !=0)=true:=by grind [BS]
      simp only[go_sem,Went.err,t1];have hp:=zL (d:=d) (kids:=kids) e0 hh (Fc hlt hri hx);exact .same (.refl _) ⟨by rw[hp];rfl,hk4,fun m' h' =>aeD⟩
     |ok m3=>
      simp only[go_sem,r25,Went.err,w1];refine⟨_,?_,i+1,m3,aeC,rfl,by grind [xp],hk4,hw3 _ hx,hip3,?_,?_,?_,?_,?_,?_⟩
      ·omega
      all_goals simp only[go_sem,r0,r2,r4,r23,r24]
    ·have hge:i=rules.length:=by grind
     subst hge;rw[List.take_length]at hri;have hpk:=BI (d:=d) (kids:=kids) e0 hh hri;simp only[go_sem,r4,hipi,bf,aes];refine .intro (fun k ρ h' =>∃(i:Nat) (mj:eP),i≤kids.length∧k=kids.length - i∧jg mi (d+1) (kids.take i)= .ok mj∧Keeps [idw,mid] h h'∧iF h' idw mid mj∧
      lk ρ 0=some (.ptr idw 0)∧lk ρ 2=some (.i d)∧lk ρ 37=some (.sl (kids.map aO) .no)∧lk ρ 38=some (.i kids.length)∧lk ρ 39=some (.i i)) kids.length ?_ ?_
     ·refine⟨0,mi,aeC,rfl,rfl,hki,hwi,?_,?_,?_,?_,?_⟩<;>simp only[go_sem,r0,r2]
     ·rintro k ρ h' ⟨i,mj,hi,rfl,hkj,hki,hwi,r0,r2,r37,r38,r39⟩
      simp only[go_sem,r38,r39];refine .intro (fun e=>?_) (fun e=>?_)
      ·have hlt:i<kids.length:=aez e
       have w1:IntKind.i64.wrap ((i:Int)+1)=((i+1:Nat):Int):=aeN;have w2:IntKind.i64.wrap ((d:Int)+1)=((d+1:Nat):Int):=aeN;obtain⟨n',rfl⟩:∃n',n=n' +1:=⟨n - 1,aeC⟩;have hrec:=Jl n' (d+1) aeC idw mid mj kids[i];cases hki' :kids[i]with
       |mk kid kset kalg ktgt krules kkids kobls=>
       rw[hki']at hrec;simp only[aO,aV,ay]at hrec;simp only[go_sem,r37,r39];refine .at i aeD (by grind [NQ]) ?_
       simp only[go_sem,aet,hki',aO,aV,ay];intro ir hir;simp only[go_sem,r0,r2,w2];refine(hrec _ (hwi.keep (Sub.aj hir))).mono fun x h3 ⟨ex,hk3,hw3⟩=>?_
       subst ex;have hk4:=(hki.trans (.of (Sub.aj hir))).trans hk3;cases hx:kY mj (d+1) (.mk kid kset kalg ktgt krules kkids kobls)with
       |bad x=>
        have t1:(x !=0)=true:=by simpa using uJ n' (d+1) _ _ _ aeC hx
        simp only[go_sem,Went.err,t1];have hp:=GI hlt hkj (by rw[hki'];exact hx)
        exact .same (.refl _) ⟨by rw[hpk,hp];rfl,hk4,fun m' h' =>aeD⟩
       |ok m3=>
        simp only[go_sem,r39,Went.err,w1];refine⟨_,?_,i+1,m3,aeC,rfl,by grind [zh],hk4,hw3 _ hx,?_,?_,?_,?_,?_⟩
        ·omega
        all_goals simp only[go_sem,r0,r2,r37,r38]
      ·have hge:i=kids.length:=by grind
       subst hge;rw[List.take_length]at hkj;simp only[go_sem];exact .same (.refl _) ⟨by rw[hpk,hkj];rfl,hki,fun m' h' =>aeD⟩
theorem GW{i:Nat}{b:Blk}(e:upd h i (some b) j=none):j≠i:=fun hh=>by
 subst hh;rw[ah]at e;cases e
theorem uT(p:bD)(h:Heap):ai prog 90 [aO p] h fun r h' =>r= .i (gK p)∧h' =h:=by
 cases p with
 |mk id set alg tgt rules kids obls=>
 refine aeB func90 10 [.tmp 2] fun hwf=>?_
 simp only[go_sem,aO,aV,ay];intro ip hip;simp only[go_sem];intro im him;simp only[go_sem];intro iw hiw;have n1:=GW him;have n2:=GW hiw;have hiw1:=hiw;rw[ag _ _ n2]at hiw1;have n3:=GW hiw1;have s1:Ab.Sub h (upd (upd (upd h ip (some (.obj [.s id,.b set,.i alg,.sl (tgt.map cV) .no,.sl (rules.map aC) .no,.sl (fO kids) .no,.sl (obls.map bl) .no] 39))) im (some (.mp []))) iw (some (.obj [.mp im,.i 0] 242))):=
  ((Sub.aj hip).trans (.aj him)).trans (.aj hiw)
 obtain⟨h3,e3⟩:∃h3,upd (upd (upd h ip (some (.obj [.s id,.b set,.i alg,.sl (tgt.map cV) .no,.sl (rules.map aC) .no,.sl (fO kids) .no,.sl (obls.map bl) .no] 39))) im (some (.mp []))) iw (some (.obj [.mp im,.i 0] 242))=h3:=⟨_,rfl⟩;have g1:h3 ip=some (.obj [.s id,.b set,.i alg,.sl (tgt.map cV) .no,.sl (rules.map aC) .no,.sl (fO kids) .no,.sl (obls.map bl) .no] 39):=by
  rw[←e3,ag _ _ n3.symm,ag _ _ n1.symm,ah]
 have g2:iF h3 iw im ⟨[],0⟩:=by
  refine⟨by rw[←e3,ah];rfl,by rw[←e3,ag _ _ n2.symm,ah];rfl,fun l hl=>aeD,aeG⟩
 have hi0:h im=none:=afe;have hw0:h iw=none:=afe;simp only[go_sem];rw[e3]at s1⊢;simp only[go_sem,g1];have hp:=Jl 4 1 rfl iw im ⟨[],0⟩ (.mk id set alg tgt rules kids obls) h3 g2;refine hp.mono fun x h4 ⟨ex,hk,_⟩=>?_
 subst ex;simp only[go_sem];refine .mk _ (.refl _) (fun j k hj=>?_) ⟨rfl,rfl⟩
 refine hk j k ?_ (s1 _ _ hj)
 grind
def ku(x:bD×Int×Int):AV:=.tup [aO x.1,.i x.2.1,.i x.2.2]
theorem jN(a b c:AV)(h:Weak a b)(d:AV):Weak (.tup [a,c,d]) (.tup [b,c,d]):=.tup _ _ rfl fun i h1 h2=>by
 rcases i with _|_|_|i
 ·exact h
 ·exact afX
 ·exact afX
 grind
theorem zG(s:Txt)(h:Heap)(he:iB h):ai prog 41 [.s s] h fun r h' =>r=ku (aQ s)∧h' =h:=by
 refine aeB func41 61 [.cell 2 39,.tmp 3,.tmp 4] fun hwf=>?_
 simp only[go_sem];intro i2 hi2;simp only[go_sem];refine(yx s _ (he.sub (.aj hi2))).pthen ?_;cases el:pR s with
 |bad e a=>
  have e1:=ur el;have d1:(e !=0)=true:=by
   grind
  have efin:aQ s=(pE,e,a):=by grind [aQ]
  simp only[go_sem,GM,d1];rw[efin];exact .mk (h' :=h) (ku (pE,e,a)) (jN _ _ _ (gA _) _) (.aj hi2) ⟨rfl,rfl⟩
 |ok ts=>
  have efin:aQ s=zF s ts:=by grind [aQ]
  have hw:=LB el 0 0 0;have hpol:=EW 3 1 rfl ⟨ts,0,0,0,0⟩ hw (Nat.zero_le _);have hap:=yq 4 ⟨ts,0,0,0,0⟩ hw;obtain⟨⟨⟨pid,pset,palg,ptgt,prules,pkids,pobls⟩,st1⟩,ep⟩:∃x,gQ 4 ⟨ts,0,0,0,0⟩=x:=⟨_,rfl⟩;rw[show 3+1=4 from rfl,ep]at hpol
  rw[ep]at hap;simp only[aO]at hpol hap;simp only[zF,ep]at efin;simp only[go_sem,GM];intro i8 hi8;have n8:=aI hi8;have m82:¬i8=i2:=n8;have m28:¬i2=i8:=fun e=>n8 e.symm
  have hh8:h i8=none:=afe;simp only[go_sem];refine hpol.go (ah ..) ?_;rw[ew];simp only[go_sem];intro i9 hi9;have n9:=aI hi9;have hi9' :=hi9;rw[ag _ _ n9]at hi9';have n92:=aI hi9';have m92:¬i9=i2:=n92;have m29:¬i2=i9:=fun e=>n92 e.symm
  have m98:¬i9=i8:=n9;have m89:¬i8=i9:=fun e=>n9 e.symm
  have hh9:h i9=none:=afe;have c9:∀(f:Heap) (x y:Option Blk),upd (upd f i8 x) i9 y=upd (upd f i9 y) i8 x:=fun f x y=>cy f x y n9.symm
  simp only[go_sem,c9,ak,m98];refine(mL st1 hap.1).run ?_;have subs:∀x y z,Sub h (upd (upd (upd h i2 x) i9 y) i8 z):=fun x y z=>((Sub.aj hi2).put hh9 _).put hh8 _
  cases d1:((aL st1).kind !=7)
  ·have k1:(aL st1).kind=7:=by grind
   have e2:(if(aL st1).kind=7 then st1 else br st1)=st1:=if_pos k1
   simp only[go_sem,fL,d1];cases db:((st1).bad==0)
   ·have eb:(st1).bad≠0:=by grind
    simp only[go_sem,PO,db];have eend:qE s (.mk pid pset palg ptgt prules pkids pobls,st1)=st1:=by
     simp_all [qE,if_neg]
    have hbb:(st1).bad≠0:=eb;have dn:((st1).bad !=0)=true:=aeD;simp only[go_sem,dn];refine .calls (hm1 i8 (PO (st1))) [0,1,2,3,4,5,6,7,8,9,10,11] (.hm1 (ah ..)) aeF rfl ?_;simp only[go_sem,ak,m28,m29,PO,gy];refine⟨.hm1 ((ag _ _ n8).trans (ah ..)),?_⟩;have efin2:aQ s=(pE,(st1).bad,(st1).place):=aeD;rw[efin2];exact .mk (h' :=h) (ku (pE,(st1).bad,(st1).place)) (jN _ _ _ (gA _) _) (Sub.put (subs _ _ _) hi2 _) ⟨rfl,rfl⟩
   ·have eb:(st1).bad=0:=by grind
    simp only[go_sem,ak,m98,PO,db];refine(uT (.mk pid pset palg ptgt prules pkids pobls) _).pthen ?_;cases dr:(gK (.mk pid pset palg ptgt prules pkids pobls) !=0)
    ·have er:gK (.mk pid pset palg ptgt prules pkids pobls)=0:=by grind
     have dn:((st1).bad !=0)=false:=aeD;simp only[go_sem,ak,m28,m29,m98,dr,dn];have eend:qE s (.mk pid pset palg ptgt prules pkids pobls,st1)=st1:=by
      simp_all [qE,if_neg]
     exact akq
    ·have er:gK (.mk pid pset palg ptgt prules pkids pobls)≠0:=by grind
     simp only[go_sem,dr];refine(rV (st1) 5 s.length).run ?_;have eend:qE s (.mk pid pset palg ptgt prules pkids pobls,st1)=bH (st1) 5 s.length:=by
      simp_all [qE,if_pos]
     have hwb:bH (st1) 5 s.length= {(st1)with bad:=5,place:=s.length}:=by rw[bH,if_pos eb]
     have hbb:(bH (st1) 5 s.length).bad≠0:=aeD;have dn:((bH (st1) 5 s.length).bad !=0)=true:=aeD;simp only[go_sem,PO,dn];refine .calls (hm1 i8 (PO (bH (st1) 5 s.length))) [0,1,2,3,4,5,6,7,8,9,10,11] (.hm1 (ah ..)) aeF rfl ?_;simp only[go_sem,ak,m28,m29,PO,gy];refine⟨.hm1 ((ag _ _ n8).trans (ah ..)),?_⟩;have efin2:aQ s=(pE,(bH (st1) 5 s.length).bad,(bH (st1) 5 s.length).place):=aeD;rw[efin2];exact .mk (h' :=h) (ku (pE,(bH (st1) 5 s.length).bad,(bH (st1) 5 s.length).place)) (jN _ _ _ (gA _) _) (Sub.put (subs _ _ _) hi2 _) ⟨rfl,rfl⟩
  ·have k1:(aL st1).kind≠7:=by grind
   have e2:(if(aL st1).kind=7 then st1 else br st1)=br st1:=if_neg k1
   simp only[go_sem,fL,d1];refine(lY st1 hap.1).run ?_;simp only[go_sem];cases db:((br st1).bad==0)
   ·have eb:(br st1).bad≠0:=by grind
    simp only[go_sem,PO,db];have eend:qE s (.mk pid pset palg ptgt prules pkids pobls,st1)=br st1:=by
     simp_all [qE,if_neg]
    have hbb:(br st1).bad≠0:=eb;have dn:((br st1).bad !=0)=true:=aeD;simp only[go_sem,dn];refine .calls (hm1 i8 (PO (br st1))) [0,1,2,3,4,5,6,7,8,9,10,11] (.hm1 (ah ..)) aeF rfl ?_;simp only[go_sem,ak,m28,m29,PO,gy];refine⟨.hm1 ((ag _ _ n8).trans (ah ..)),?_⟩;have efin2:aQ s=(pE,(br st1).bad,(br st1).place):=aeD;rw[efin2];exact .mk (h' :=h) (ku (pE,(br st1).bad,(br st1).place)) (jN _ _ _ (gA _) _) (Sub.put (subs _ _ _) hi2 _) ⟨rfl,rfl⟩
   ·have eb:(br st1).bad=0:=by grind
    simp only[go_sem,ak,m98,PO,db];refine(uT (.mk pid pset palg ptgt prules pkids pobls) _).pthen ?_;cases dr:(gK (.mk pid pset palg ptgt prules pkids pobls) !=0)
    ·have er:gK (.mk pid pset palg ptgt prules pkids pobls)=0:=by grind
     have dn:((br st1).bad !=0)=false:=aeD;simp only[go_sem,ak,m28,m29,m98,dr,dn];have eend:qE s (.mk pid pset palg ptgt prules pkids pobls,st1)=br st1:=by
      simp_all [qE,if_neg]
     exact akq
    ·have er:gK (.mk pid pset palg ptgt prules pkids pobls)≠0:=by grind
     simp only[go_sem,dr];refine(rV (br st1) 5 s.length).run ?_;have eend:qE s (.mk pid pset palg ptgt prules pkids pobls,st1)=bH (br st1) 5 s.length:=by
      simp_all [qE,if_pos]
     have hwb:bH (br st1) 5 s.length= {(br st1)with bad:=5,place:=s.length}:=by rw[bH,if_pos eb]
     have hbb:(bH (br st1) 5 s.length).bad≠0:=aeD;have dn:((bH (br st1) 5 s.length).bad !=0)=true:=aeD;simp only[go_sem,PO,dn];refine .calls (hm1 i8 (PO (bH (br st1) 5 s.length))) [0,1,2,3,4,5,6,7,8,9,10,11] (.hm1 (ah ..)) aeF rfl ?_;simp only[go_sem,ak,m28,m29,PO,gy];refine⟨.hm1 ((ag _ _ n8).trans (ah ..)),?_⟩;have efin2:aQ s=(pE,(bH (br st1) 5 s.length).bad,(bH (br st1) 5 s.length).place):=aeD;rw[efin2];exact .mk (h' :=h) (ku (pE,(bH (br st1) 5 s.length).bad,(bH (br st1) 5 s.length).place)) (jN _ _ _ (gA _) _) (Sub.put (subs _ _ _) hi2 _) ⟨rfl,rfl⟩
end Go.Proofs.YtelkmnkejghkeaaGreatDoor
namespace Go.Ab
open Go
theorem OwE.keepb{tb:TypeId}{h0 h h' :Heap}{sz:Nat}{y:AV}{xs:List AV}(hw:OwE tb h0 h sz y xs)(hk:∀id,h0 id=Option.none→h id≠Option.none→h' id=h id):OwE tb h0 h' sz y xs:=
 hw.keep fun id e=>hk id (hw.nid e).1 (hw.nid e).2.1
end Go.Ab
namespace Go.Proofs.YtelkmnkejghkeaaGreatDoor
open Go Go.Ab Go.Bf Tryz
variable {h0 h h' g:Heap}{ys xs:List AV}{x y:AV}{c:aM}{cs:List aM}{i0:Nat}{s:an}
theorem fF.keepb(hm:fF h0 h ys x c)(hk:∀id,h0 id=none→h id≠none→h' id=h id):fF h0 h' ys x c:=by obtain⟨f,l,e,a,b,c,d⟩:=hm;exact⟨f,l,e,a.keepb hk,b.keepb hk,c,d⟩
theorem mG.keepb(ho:mG h0 h ys y cs i0)(hk:∀id,h0 id=none→h id≠none→h' id=h id):mG h0 h' ys y cs i0:=by obtain⟨xs,a,b,c,d⟩:=ho;exact⟨xs,a.keepb hk,b,c,fun h1 h2=>(d h1 h2).keepb hk⟩
theorem tN.keepb(ho:tN h0 h x s i0)(hk:∀id,h0 id=none→h id≠none→h' id=h id):tN h0 h' x s i0:=by obtain⟨y1,y2,y3,y4,e,a,b,c,d,r⟩:=ho;exact⟨y1,y2,y3,y4,e,a.keepb hk,b.keepb hk,c.keepb hk,d.keepb hk,r⟩
theorem mG.keepx{z:AV}(ho:mG h0 h ys y cs i0)(hz:z∈ys)(hy:apart y z)(hk:∀id,h0 id=none→h id≠none→nid z≠some id→h' id=h id):mG h0 h' ys y cs i0:=by
 obtain⟨xs,a,b,c,d⟩:=ho;refine⟨xs,a.keep fun id e=>hk id (a.nid e).1 (a.nid e).2.1 (hy id e),b,c,fun h1 h2=>?_⟩
 obtain⟨f,l,e,of,ol,hap,hys⟩:=d h1 h2;exact⟨f,l,e,of.keep fun id e=>hk id (of.nid e).1 (of.nid e).2.1 ((hys z hz).1 id e),ol.keep fun id e=>hk id (ol.nid e).1 (ol.nid e).2.1 ((hys z hz).2 id e),hap,hys⟩
theorem fF.frz(hm:fF h0 h ys x c)(hg:Ab.Sub g h0):Frz g h x (cu c):=by
 obtain⟨f,l,rfl,a,b,_⟩:=hm;refine .agg _ _ rfl fun j h1 h2=>?_
 rcases j with _|_|_|_|_|j
 ·exact aeW
 ·exact aeW
 ·exact aeW
 ·exact(a.less hg).frz (bn (fun _=>rfl) _)
 ·exact(b.less hg).frz (bn (fun _=>rfl) _)
 ·simp at h1;omega
theorem J7(hw:OwE 120 h0 h 5 y xs)(hg:Ab.Sub g h0)(hn:xs.length=cs.length)(hx:∀j (h1:j<xs.length) (h2:j<cs.length),Frz g h xs[j] (cu cs[j])):Frz g h y (gw cs):=by
 rcases hw with⟨rfl,rfl⟩|⟨id,h1,hw⟩
 ·have:cs= []:=by grind
  subst this;exact .sl [] [] .full rfl aeC aeJ
 ·have hsz:∀i (h1:i<xs.length),xs[i].cells.length=5:=fun i h1=>hw.rd.1 _ aeJ
  refine hw.frz (hg.none h1) aeD (fun i h1 h2=>by rw[hsz i h1,aet];rfl) fun i h1 h2 j h3 h4=>?_
  have h2' :i<cs.length:=aeC;have hf:=hx i h1 h2';have key:∀x y:AV,Frz g h x y→bA y=true→cI y=true→∀j (h3:j<x.cells.length) (h4:j<y.cells.length),Frz g h x.cells[j] y.cells[j]:=by
   intro x y hf ha hp j h3 h4;cases hf with
   |keep x hx=>exact .pure (oh hp _ (aex h4))
   |agg xs ys hn hr=>exact hr j h3 h4
   |_=>cases ha
  have e:(cs.map cu)[i]'h2=cu cs[i]:=aeJ;simp only[e]at h4⊢;exact key _ _ hf rfl (by simp only[cu,nU,cI,gE,gI,tf,Bool.and_true,Bool.true_and,Bool.and_eq_true];exact⟨bn (fun _=>rfl) _,bn (fun _=>rfl) _⟩) j h3 h4
theorem mG.frz(ho:mG h0 h ys y cs i0)(hg:Ab.Sub g h0):Frz g h y (gw cs):=by
 obtain⟨xs,a,b,c,d⟩:=ho;refine J7 a hg b fun j h1 h2=>?_
 by_cases e:j=i0
 ·subst e;exact(d h1 h2).frz hg
 grind [DZ]
theorem NR(p:bD):∀x∈gq p,Frz g h x x:=fun x hx=>by
 refine .pure (oh (x:=aO p) (EY p) x ?_);rw[Qq];exact hx
theorem D3(hx:∀x∈xs,Frz g h x x):∀i (h1:i<xs.length) (h2:i<xs.length),Frz g h xs[i] xs[i]:=fun i h1 _=>hx _ (aex h1)
theorem Is{ps bs cs ds:List AV}(n1:ps.length=bs.length)(n2:cs.length=ds.length)(h1:∀i (a:i<ps.length) (b:i<bs.length),Frz g h ps[i] bs[i])(h2:∀i (a:i<cs.length) (b:i<ds.length),Frz g h cs[i] ds[i]):
  ∀i (a:i<(ps++cs).length) (b:i<(bs++ds).length),Frz g h (ps++cs)[i] (bs++ds)[i]:=fun i a b=>by
 by_cases e:i<ps.length
 ·rw[List.getElem_append_left e,List.getElem_append_left aeC];exact h1 i e aeC
 ·rw[List.getElem_append_right aeC,List.getElem_append_right aeC]
  simp only[aew]at a b;have:=h2 (i - ps.length) aeC aeC;simp only[n1]at this⊢;exact afk
theorem vu{y1 y2 y3 y4:AV}(a:Frz g h y1 (gw s.cases))(b:Frz g h y2 (kR s.reviews))(c:Frz g h y3 (lU s.notices))(d:Frz g h y4 (eJ s.roles)):
  Frz g h (.agg ([.i s.tick,y1,y2,y3,y4]++gq s.policy++ [.i s.version])) (cG s):=by
 refine .agg _ _ aeJ (Is aeJ rfl (Is rfl rfl (fun i h1 h2=>?_) (D3 (NR _))) (D3 fun x hx=>by rw[List.mem_singleton.1 hx];exact .pure rfl))
 rcases i with _|_|_|_|_|i
 ·exact aeW
 ·exact a
 ·exact b
 ·exact c
 ·exact d
 ·simp at h1;omega
theorem mG.rd(ho:mG h0 h ys y cs i0):Au h y cs:=by
 obtain⟨xs,a,b,c,d⟩:=ho;refine⟨xs,a.rd,b,fun j h1 h2=>?_⟩
 by_cases e:j=i0
 ·subst e
  obtain⟨f,l,e,a,b,_⟩:=d h1 h2;exact⟨f,l,e,a.rd,b.rd⟩
 grind [rdC]
theorem tN.rd(ho:tN h0 h x s i0):RdS h x s:=by obtain⟨y1,y2,y3,y4,rfl,a,b,c,d,r⟩:=ho;exact⟨y1,y2,y3,y4,rfl,a.rd,b.rd,c.rd,d.rd⟩
end Go.Proofs.YtelkmnkejghkeaaGreatDoor
namespace Go.Ab
open Go
theorem OwE.bL{tb:TypeId}{h0 h1 h:Heap}{sz:Nat}{y:AV}{xs:List AV}(hw:OwE tb h1 h sz y xs)(hs:∀i,h1 i=Option.none→h0 i=Option.none):OwE tb h0 h sz y xs:=by
 rcases hw with hw|⟨id,e,hw⟩
 ·exact aiz
 ·exact .inr ⟨id,hs _ e,hw⟩
end Go.Ab
namespace Go.Proofs.YtelkmnkejghkeaaGreatDoor
open Go Go.Ab Go.Bf Tryz
variable {g h0 h K:Heap}{ys ys' xs:List AV}{x y z r X:AV}{c C:aM}{cs A B:List aM}{i0 j:Nat}{s S:an}
theorem fF.bL(hm:fF h0 h ys x c)(hg:∀i,h0 i=none→g i=none):fF g h ys x c:=by obtain⟨f,l,e,a,b,c⟩:=hm;exact⟨f,l,e,a.bL hg,b.bL hg,c⟩
theorem mG.bL(ho:mG h0 h ys y cs i0)(hg:∀i,h0 i=none→g i=none):mG g h ys y cs i0:=by obtain⟨xs,a,b,c,d⟩:=ho;exact⟨xs,a.bL hg,b,c,fun h1 h2=>(d h1 h2).bL hg⟩
theorem tN.bL(ho:tN h0 h x s i0)(hg:∀i,h0 i=none→g i=none):tN g h x s i0:=by obtain⟨y1,y2,y3,y4,e,a,b,c,d,r⟩:=ho;exact⟨y1,y2,y3,y4,e,a.bL hg,b.bL hg,c.bL hg,d.bL hg,r⟩
theorem pX{y1 y2 y3 y4:AV}{tk ver palg:Int}{pid:Txt}{pset:Bool}{ptgt:gv}{prules:List cQ}{pkids:List bD}{pobls:List cB}(h1:S.tick=tk)(h2:S.policy= .mk pid pset palg ptgt prules pkids pobls)(h3:S.version=ver)
  (a:mG g K [y1,y2,y3,y4] y1 S.cases j) (b:OwE 134 g K 7 y2 (S.reviews.map jb)) (c:OwE 137 g K 3 y3 (S.notices.map nO)) (d:OwE 140 g K 2 y4 (S.roles.map eW)) (ap:apart y1 y2∧apart y1 y3∧apart y1 y4∧apart y2 y3∧apart y2 y4∧apart y3 y4):
  tN g K (.agg [.i tk,y1,y2,y3,y4,.s pid,.b pset,.i palg,aV ptgt,.sl (prules.map aC) .no,.sl (pkids.map aO) .no,ay pobls,.i ver]) S j:=by
 refine⟨y1,y2,y3,y4,?_,a,b,c,d,ap⟩;rw[h1,h2,h3,show gq (.mk pid pset palg ptgt prules pkids pobls)= [.s pid,.b pset,.i palg,aV ptgt,.sl (prules.map aC) .no,.sl (pkids.map aO) .no,ay pobls] by simp[gq,bf]]
 rfl
theorem mG.move{h':Heap}(ho:mG h0 h ys y cs i0)(hz:z∈ys)(hy:apart y z)(hk:∀id,h0 id=none→h id≠none→nid z≠some id→h' id=h id)
  (hr:∀y'∈ys',∀k,nid y' =some k→h k=none∨∃w∈ys,nid w=some k):mG h0 h' ys' y cs i0:=by
 obtain⟨xs,a,b,c,d⟩:=ho;refine⟨xs,a.keep fun id e=>hk id (a.nid e).1 (a.nid e).2.1 (hy id e),b,c,fun h1 h2=>?_⟩
 obtain⟨f,l,e,of,ol,hap,hys⟩:=d h1 h2;refine⟨f,l,e,of.keep fun id e=>hk id (of.nid e).1 (of.nid e).2.1 ((hys z hz).1 id e),ol.keep fun id e=>hk id (ol.nid e).1 (ol.nid e).2.1 ((hys z hz).2 id e),hap,fun w hw=>⟨fun k e1 e2=>?_,fun k e1 e2=>?_⟩⟩
 ·rcases hr w hw k e2 with hn|⟨v,hv,e3⟩
  ·exact(of.nid e1).2.1 hn
  ·exact(hys v hv).1 k e1 e3
 ·rcases hr w hw k e2 with hn|⟨v,hv,e3⟩
  ·exact(ol.nid e1).2.1 hn
  ·exact(hys v hv).2 k e1 e3
theorem Qp(hj:A.length=j)(hw:OwE 120 g K 5 r (A.map cu++([X]++B.map cu)))(hX:fF g K ys X C):mG g K ys r (A++ [C]++B) j:=by
 refine⟨_,hw,aeJ,fun k h1 h2 hk=>?_,fun h1 h2=>?_⟩
 ·grind
 grind
theorem CQ{F:aM→aM}(hw:OwE 120 g K 5 z (xs.set j X))(hn:xs.length=cs.length)(hlo:∀k (h1:k<xs.length) (h2:k<cs.length),k≠j→xs[k]=cu cs[k])(hX:∀h:j<cs.length,fF g K ys X (F cs[j])):mG g K ys z (cs.modify j F) j:=by
 refine⟨_,hw,aeD,fun k h1 h2 e=>?_,fun h1 h2=>?_⟩
 ·grind
 grind
theorem ue(hj:j<xs.length)(x:AV):au (xs.set j x)=au (xs.take j)++(x.cells++au (xs.drop (j+1))):=by simp_all [List.set_eq_take_append_cons_drop,if_pos,mP,au]
theorem Cv(hj:j<xs.length):au xs=au (xs.take j)++(xs[j].cells++au (xs.drop (j+1))):=by grind [ue,List.set_getElem_self]
theorem zR{o:OpD}(h:bI s o=0)(hk:o.kind=3∨o.kind=4):bZ s.cases o.case=true:=by grind [bZ,bI,bT]
theorem Mx(hb:RdS g x s)(o:OpD)(hf:Few s)(hp:mM 1 s.policy)(hr:i64 o.review)(ht:i64 s.tick)(hver:0≤s.version∧s.version≤1000000)(he:iB g):
  ai prog 47 [x,opA o] g fun r h' =>Ab.Sub g h'∧∃j,tN g h' r (cR aQ s o) j∧(bI s o=0→j=findD s.cases o.case):=by
 obtain⟨i0,ei0⟩:∃i0,(if o.kind=1 then s.cases.length else findD s.cases o.case)=i0:=⟨_,rfl⟩
 have hown:=fun(G:Heap) (hG:Ab.Sub g G)=>Tv (hb.sub hG) i0 hf hp
 have hrdy:=fun(G:Heap) (hG:Ab.Sub g G)=>E8 (hb.sub hG) o hf hr ht
 obtain⟨y1,y2,y3,y4,rfl,hb'⟩:=hb;cases hpp:s.policy with
 |mk pid pset palg ptgt prules pkids pobls=>
 have hcC:gq (.mk pid pset palg ptgt prules pkids pobls)= [.s pid,.v (.bool pset),.v (.int .i64 palg),aV ptgt,.sl (prules.map aC) .no,.sl (pkids.map aO) .no,ay pobls]:=ahF;rw[hpp,hcC]at hown hrdy;simp only[opA,opC,List.cons_append,List.nil_append]at hown hrdy;refine aeB func47 138 [.cell 4 41] fun hwf=>?_
 simp only[go_sem,hcC,opA,opC,List.cons_append,List.nil_append];intro i2 h2;simp only[go_sem];intro i3 h3;have n32:=aI h3;have h3' :=aB h3;simp only[go_sem];intro i4 h4;have n43:=aI h4;have h4a:=aB h4;have n42:=aI h4a;have h4' :=aB h4a;simp only[go_sem,ak,n32.symm,n42.symm];obtain⟨H,eH⟩:∃H,upd (upd (upd g i2 (some (.obj [.v (.int .i64 s.tick),y1,y2,y3,y4,.s pid,.v (.bool pset),.v (.int .i64 palg),aV ptgt,.sl (prules.map aC) .no,.sl (pkids.map aO) .no,ay pobls,.v (.int .i64 s.version)] 41))) i3 (some (.obj (opC o) 50))) i4 (some (.obj [.v (.int .i64 0),.sl [] .full,.sl [] .full,.sl [] .full,.sl [] .full,.s [],.v (.bool false),.v (.int .i64 0),.sl [] .full,.sl [] .full,.sl [] .full,.sl [] .full,.v (.int .i64 0)] 41))=H:=⟨_,rfl⟩;have hH:Ab.Sub g H:=by rw[←eH];exact(((Sub.refl g).put h2 _).put h3' _).put h4' _
 have g2:H i2=some (.obj [.v (.int .i64 s.tick),y1,y2,y3,y4,.s pid,.v (.bool pset),.v (.int .i64 palg),aV ptgt,.sl (prules.map aC) .no,.sl (pkids.map aO) .no,ay pobls,.v (.int .i64 s.version)] 41):=by rw[←eH,ag _ _ n42.symm,ag _ _ n32.symm,ah]
 have g3:H i3=some (.obj (opC o) 50):=by rw[←eH,ag _ _ n43.symm,ah]
 have g4:H i4=some (.obj [.v (.int .i64 0),.sl [] .full,.sl [] .full,.sl [] .full,.sl [] .full,.s [],.v (.bool false),.v (.int .i64 0),.sl [] .full,.sl [] .full,.sl [] .full,.sl [] .full,.v (.int .i64 0)] 41):=af5;simp only[opC]at eH g3;rw[eH];clear eH;refine(hown H hH).mono fun r H1 ⟨hS,s1⟩=>?_
 obtain⟨z1,z2,z3,z4,er,hS1⟩:=id hS;subst er;rw[hpp,hcC]at hS⊢;obtain⟨hC,w2,w3,w4,a12,a13,a14,a23,a24,a34⟩:=hS1;obtain⟨xs,w1,hnx,hlo,hmy⟩:=id hC;simp only[go_sem,List.cons_append,List.nil_append];intro i5 h5;simp only[go_sem];have q2:=s1 _ _ g2;have q3:=s1 _ _ g3;have q4:=s1 _ _ g4;have n52:i2≠i5:=fun e=>by rw[←e,q2]at h5;cases h5
 have n53:i3≠i5:=fun e=>by rw[←e,q3]at h5;cases h5
 have n54:i4≠i5:=fun e=>by rw[←e,q4]at h5;cases h5
 obtain⟨K,eK⟩:∃K,upd H1 i5 (some (.obj [.v (.int .i64 s.tick),z1,z2,z3,z4,.s pid,.v (.bool pset),.v (.int .i64 palg),aV ptgt,.sl (prules.map aC) .no,.sl (pkids.map aO) .no,ay pobls,.v (.int .i64 s.version)] 41))=K:=⟨_,rfl⟩;have sK:Ab.Sub H1 K:=by rw[←eK];exact .aj h5
 have k5:K i5=some (.obj [.v (.int .i64 s.tick),z1,z2,z3,z4,.s pid,.v (.bool pset),.v (.int .i64 palg),aV ptgt,.sl (prules.map aC) .no,.sl (pkids.map aO) .no,ay pobls,.v (.int .i64 s.version)] 41):=by rw[←eK,ah]
 rw[eK];have hz5:∀k,H k=none→H1 k≠none→k≠i5:=fun k _ hk e=>hk (by rw[e];exact h5)
 have k2:=sK _ _ q2;have k3:=sK _ _ q3;have k4:=sK _ _ q4;clear eK;have sg:Ab.Sub g K:=hH.trans (s1.trans sK);simp only[go_sem,k2,k3];refine(hrdy K sg).pthen ?_;have g5:g i5=none:=(hH.trans s1).none h5;have kK:∀k,H1 k≠none→K k=H1 k:=fun k hk=>by
  cases e:H1 k with
  |none=>exact(hk e).elim
  |some b=>exact sK _ _ e
 have hz4:∀k,H k=none→k≠i4:=fun k hk e=>by rw[e,g4]at hk;cases hk
 by_cases p0:bI s o=0
 ·have d0:(bI s o !=0)=false:=by simp[p0]
  simp only[go_sem,d0];simp only[go_sem,k5,k3];have hSK:tN H K (.agg ([.v (.int .i64 s.tick),z1,z2,z3,z4]++gq s.policy++ [.v (.int .i64 s.version)])) s i0:=by
   rw[hpp,hcC];exact hS.keepb fun k _ hk=>kK k hk
  have hfi:=Cu hSK.rd o.case hf.cases;rw[hpp,hcC]at hfi;simp only[List.cons_append,List.nil_append]at hfi;refine hfi.pthen ?_;simp only[go_sem,k3];have hform:cN o=true:=by
   cases e:cN o
   ·simp[bI,e]at p0
   ·rfl
  have hdone:cR aQ s o=doD aQ s o:=by simp[cR,p0]
  rw[hdone]
  by_cases p1:o.kind=1
  ·have k1:(o.kind==1)=true:=by simp[p1]
   simp only[go_sem,k1];simp only[go_sem,k3];intro i8 h8;have n82:i2≠i8:=fun e=>by rw[←e,k2]at h8;cases h8
   have n83:i3≠i8:=fun e=>by rw[←e,k3]at h8;cases h8
   have n84:i4≠i8:=fun e=>by rw[←e,k4]at h8;cases h8
   have n85:i5≠i8:=fun e=>by rw[←e,k5]at h8;cases h8
   simp only[go_sem];obtain⟨K2,eK2⟩:∃K2,upd K i8 (some (.obj [.s o.case,.s o.subj,.s [111,112,101,110],.sl [] .full,.sl [] .full] 120))=K2:=⟨_,rfl⟩;have sK2:Ab.Sub K K2:=by rw[←eK2];exact .aj h8
   have e8:K2 i8=some (.obj [.s o.case,.s o.subj,.s [111,112,101,110],.sl [] .full,.sl [] .full] 120):=by rw[←eK2,ah]
   rw[eK2];clear eK2;have m3:=sK2 _ _ k3;have m4:=sK2 _ _ k4;have m5:=sK2 _ _ k5;simp only[go_sem,m3,m5];have hha:=sX (h0:=H) (s:=s) z1 z2 z3 z4 (k:=i8) (o:=0) (A:=[]) (B:=[]) (t:=120) (c:=⟨o.case,o.subj,jV,[],[]⟩) (f:=.sl [] .full) (l:=.sl [] .full) rfl e8 aeG (.inl ⟨rfl,rfl⟩) (s1.trans (sK.trans sK2)) (Nat.zero_le _) o.subj [110,101,119];rw[hpp,hcC]at hha;simp only[List.cons_append,List.nil_append]at hha;refine hha.mono fun r K3 ⟨l',ol,e8',fr3,ap3⟩=>?_
   have kK3:∀k,K2 k≠none→k≠i8→K3 k=K2 k:=fun k hk hk8=>fr3 k hk hk8 (by simp[nid])
   have m3' :K3 i3=_:=(kK3 i3 (by rw[m3];simp) n83).trans m3
   have m4' :K3 i4=_:=(kK3 i4 (by rw[m4];simp) n84).trans m4
   have m5' :K3 i5=_:=(kK3 i5 (by rw[m5];simp) n85).trans m5
   simp only[cg,List.append_nil]at e8';simp only[go_sem];simp only[go_sem,m5',e8'];have kk2:∀k,H1 k≠none→K2 k=H1 k:=fun k hk=>by
    have:=kK k hk;cases e:K k with
    |none=>rw[e]at this;exact(hk this.symm).elim
    |some b=>rw[sK2 _ _ e,←e,this]
   have k8:∀k,H1 k≠none→k≠i8:=fun k hk e=>hk (by have:=kK k hk;rw[e,h8]at this;rw[e];exact this.symm)
   have kk3:∀k,H1 k≠none→K3 k=H1 k:=fun k hk=>(kK3 k (by rw[kk2 k hk];exact hk) (k8 k hk)).trans (kk2 k hk)
   have sH3:Ab.Sub H1 K3:=fun k b hk=>by rw[kk3 k (by rw[hk];simp)];exact hk
   have hfl:findD s.cases o.case≤s.cases.length:=List.findIdx_le_length;have hfc:=hf.cases;refine(GC z1 xs (.agg [.s o.case,.s o.subj,.s jV,.sl [] .full,l']) (findD s.cases o.case) H K3 (w1.keepb fun k _ hk=>kk3 k hk) (s1.trans sH3) aeC aeC rfl (by simp[Ab.fit])).mono fun r K4 ⟨ow5,fr4,ap4⟩=>?_
   have m4'' :K4 i4=_:=(fr4 i4 (by rw[m4'];simp) (fun e=>by have:=(w1.nid e).1;rw[g4]at this;cases this)).trans m4'
   have m5'' :K4 i5=_:=(fr4 i5 (by rw[m5'];simp) (fun e=>(w1.nid e).2.1 h5)).trans m5'
   simp only[go_sem,m5'',ow5.rd.fit,ow5.rd.cells];simp only[go_sem,ak,n54,m4''];have hi0:i0=s.cases.length:=by rw[←ei0,if_pos p1]
   have hxs:xs=s.cases.map cu:=List.ext_getElem (by simpa using hnx) fun j a b=>by rw[hlo j a aeC aeC,aet]
   have kk4:∀k,H1 k≠none→nid z1≠some k→K4 k=H1 k:=fun k hk hz=>(fr4 k (by rw[kk3 k hk];exact hk) hz).trans (kk3 k hk)
   obtain⟨K5,eK5⟩:∃K5,upd (upd K4 i5 (some (.obj [.v (.int .i64 s.tick),r,z2,z3,z4,.s pid,.v (.bool pset),.v (.int .i64 palg),aV ptgt,.sl (prules.map aC) .no,.sl (pkids.map aO) .no,ay pobls,.v (.int .i64 s.version)] 41))) i4 (some (.obj [.v (.int .i64 s.tick),r,z2,z3,z4,.s pid,.v (.bool pset),.v (.int .i64 palg),aV ptgt,.sl (prules.map aC) .no,.sl (pkids.map aO) .no,ay pobls,.v (.int .i64 s.version)] 41))=K5:=⟨_,rfl⟩;rw[eK5];have o5:∀k,k≠i4→k≠i5→K5 k=K4 k:=fun k a b=>by rw[←eK5,ag _ _ a,ag _ _ b]
   have kk5:∀k,H k=none→H1 k≠none→nid z1≠some k→K5 k=H1 k:=fun k a b c=>(o5 k (hz4 k a) (hz5 k a b)).trans (kk4 k b c)
   have ow:OwE 120 H K5 5 r (List.take (findD s.cases o.case) xs++([.agg [.s o.case,.s o.subj,.s jV,.sl [] .full,l']]++List.drop (findD s.cases o.case) xs)):=ow5.keep fun id e=>o5 id (hz4 id (ow5.nid e).1) fun e5=>by
    subst e5;rcases ap4 _ e with h|h
    ·rw[m5']at h;cases h
    ·exact(w1.nid h).2.1 h5
   have ol5:OwE 186 H K5 3 l' _:=ol.keep fun id e=>by
    have h2n:K2 id=none:=(ap3 id e).resolve_right (by simp[nid])
    have hz:nid z1≠some id:=fun e1=>by
     have:=kk2 id (w1.nid e1).2.1;rw[h2n]at this;exact(w1.nid e1).2.1 this.symm
    rw[o5 id (hz4 id (ol.nid e).1) (fun e5=>by rw[e5,m5]at h2n;cases h2n),fr4 id (ol.nid e).2.1 hz]
   have hmc:fF H K5 [] (.agg [.s o.case,.s o.subj,.s jV,.sl [] .full,l']) (jG s ⟨o.case,o.subj,jV,[],[]⟩ o.subj [110,101,119]):=⟨.sl [] .full,l',rfl,.inl ⟨rfl,rfl⟩,ol5,(fun i e=>ae2),fun y hy=>by cases hy⟩
   have sg4:Ab.Sub g K4:=fun k b hk=>by
    have h1:=hH _ _ hk;have h2:=s1 _ _ h1;rw[kk4 k (by rw[h2];simp) (fun e=>by have:=(w1.nid e).1;rw[h1]at this;cases this)]
    exact aiJ
   have sg5:Ab.Sub g K5:=by rw[←eK5];exact(sg4.put g5 _).put h4' _
   have hdo:doD aQ s o= {s with cases:=s.cases.take (findD s.cases o.case)++ [jG s ⟨o.case,o.subj,jV,[],[]⟩ o.subj [110,101,119]]++s.cases.drop (findD s.cases o.case)}:=by simp[doD,p1]
   refine .mk _ (.refl _) (.refl _) ⟨sg5,_,?_,fun _=>rfl⟩
   rw[hdo];have apr:∀k,nid r=some k→H1 k=none∨nid z1=some k:=fun k e=>(ap4 k e).imp (fun h=>sH3.none h) id
   have hro:∀ {w:AV},apart z1 w→(∀k,nid w=some k→H1 k≠none)→apart r w:=fun ha hw k e1 e2=>(apr k e1).elim (fun h=>hw k e2 h) (fun h=>ha k h e2)
   have hl0:∀k,nid l' =some k→H1 k=none:=fun k e=>(sK.trans sK2).none ((ap3 k e).resolve_right (by simp[nid]))
   have hlr:apart l' r:=fun k e1 e2=>(ap4 k e2).elim (fun h=>(ol.nid e1).2.1 h) (fun h=>(w1.nid h).2.1 (hl0 k e1))
   rw[hxs,←List.map_take,←List.map_drop]at ow;refine pX rfl hpp rfl (Qp agb (ow.bL (fun _ e=>hH.none e)) ⟨.sl [] .full,l',rfl,.inl ⟨rfl,rfl⟩,ol5.bL (fun _ e=>hH.none e),(fun i e=>ae2),fun y hy=>⟨(fun i e=>ae2),?_⟩⟩) ((w2.keep fun id e=>kk5 id (w2.nid e).1 (w2.nid e).2.1 fun e1=>a12 id e1 e).bL fun _ e=>hH.none e) ((w3.keep fun id e=>kk5 id (w3.nid e).1 (w3.nid e).2.1 fun e1=>a13 id e1 e).bL fun _ e=>hH.none e) ((w4.keep fun id e=>kk5 id (w4.nid e).1 (w4.nid e).2.1 fun e1=>a14 id e1 e).bL fun _ e=>hH.none e) ⟨hro a12 fun k e=>(w2.nid e).2.1,hro a13 fun k e=>(w3.nid e).2.1,hro a14 fun k e=>(w4.nid e).2.1,a23,a24,a34⟩
   simp only[List.mem_cons,List.not_mem_nil,or_false]at hy;rcases hy with rfl|rfl|rfl|rfl
   ·exact hlr
   ·exact fun k e1 e2=>(w2.nid e2).2.1 (hl0 k e1)
   ·exact fun k e1 e2=>(w3.nid e2).2.1 (hl0 k e1)
   ·exact fun k e1 e2=>(w4.nid e2).2.1 (hl0 k e1)
  have k1:(o.kind==1)=false:=by simp[p1]
  have hi0:i0=findD s.cases o.case:=by rw[←ei0,if_neg p1]
  simp only[go_sem,k1]
  by_cases p3:o.kind=3
  ·have k3' :(o.kind==3)=true:=by simp[p3]
   simp only[go_sem,k3'];have hth:=zR p0 (.inl p3);have hlt:=jW hth;obtain⟨j,ej⟩:∃j,findD s.cases o.case=j:=⟨_,rfl⟩;have hj:j<s.cases.length:=by rw[←ej];exact hlt
   have hjx:j<xs.length:=aeC;rw[ej]at hi0;subst hi0;obtain⟨f,l,ex,of,ol,hap,hys⟩:=hmy hjx hj;obtain⟨id1,hg1,o1⟩:=w1.ow ahu;have o1' :=o1;obtain⟨cap,rest,ey,hid,hrl,hcap,hsz⟩:=o1';have lA:i0*5=(au (xs.take i0)).length:=afJ;have hidK:K id1=some (.obj (au (xs.take i0)++(cg s.cases[i0] f l++(au (xs.drop (i0+1))++rest))) 120):=by
    rw[sK _ _ hid,Cv hjx,ex];simp[cg,AV.cells]
   have n14:id1≠i4:=hz4 id1 hg1;have n13:id1≠i3:=fun e=>by rw[e,g3]at hg1;cases hg1
   have n15:id1≠i5:=fun e=>o1.none (by rw[e];exact h5)
   have nf4:∀k,nid f=some k→k≠i3∧k≠i4∧k≠i5∧k≠id1:=fun k e=>⟨(fun e' =>aho),hz4 k (of.nid e).1,hz5 k (of.nid e).1 (of.nid e).2.1,fun e' =>(hys z1 aeJ).1 k e ah4⟩
   have nl4:∀k,nid l=some k→k≠i3∧k≠i4∧k≠i5∧k≠id1:=fun k e=>⟨(fun e' =>ahp),hz4 k (ol.nid e).1,hz5 k (ol.nid e).1 (ol.nid e).2.1,fun e' =>(hys z1 aeJ).2 k e ah4⟩
   have hff:=hf.fields _ (aex hj);have hfl:=hf.log _ (aex hj);rw[ej];refine .calls (pick K [i3,i5]) [0,1,2,3,4,5,6,7,8] bS aeF rfl ?_;simp only[go_sem,bC (show i5∈ [i3,i5] by simp),k3,k5]
   refine(o1.sub sK).idx (U:=U) (e:=120) i0 rfl hjx ot aeG ?_;simp only[go_sem,bC (show i3∈ [i3,i5] by simp),k3,k5]
   refine(show ai prog 105 [.ptr id1 (i0*5),.s o.field,.agg [.v (.int .i64 o.val.kind),.v (.int .i64 o.val.n),.s o.val.s]] K _ from ON lA hidK aeG (of.sub sK) (s1.trans sK) hff o.field o.val).mono fun r K3 ⟨f',of',e1',fr3,ap3⟩=>?_
   have kk3:∀k,H1 k≠none→k≠id1→nid f≠some k→K3 k=H1 k:=fun k a b c=>(fr3 k (by rw[kK k a];exact a) b c).trans (kK k a)
   have m3:K3 i3=_:=(fr3 i3 (by rw[k3];simp) n13.symm fun e=>(nf4 _ e).1 rfl).trans k3
   have m4:K3 i4=_:=(fr3 i4 (by rw[k4];simp) n14.symm fun e=>(nf4 _ e).2.1 rfl).trans k4
   have m5:K3 i5=_:=(fr3 i5 (by rw[k5];simp) n15.symm fun e=>(nf4 _ e).2.2.1 rfl).trans k5
   refine⟨ja fun k hk=>?_,?_⟩
   ·simp only[List.mem_cons,List.not_mem_nil,or_false]at hk
    rcases hk with rfl|rfl
    ·rw[m3,k3]
    ·rw[m5,k5]
   simp only[go_sem];have sH3:Ab.Sub H K3:=fun k b hk=>afl
   have ol3:OwE 186 H K3 3 l (s.cases[i0].log.map iW):=ol.keep fun k e=>kk3 k (ol.nid e).2.1 (nl4 k e).2.2.2 (fun e1=>hap k e1 e)
   have hX5:∀y1 y2:AV,Sized 5 (xs.set i0 (.agg (cg s.cases[i0] y1 y2))):=fun y1 y2 z hz=>by
    exact ajt
   have mkO:∀ {G:Heap} {y1 y2:AV},G id1=some (.obj (au (xs.take i0)++(cg s.cases[i0] y1 y2++(au (xs.drop (i0+1))++rest))) 120)→Ow 120 G 5 id1 z1 (xs.set i0 (.agg (cg s.cases[i0] y1 y2))):=fun {G y1 y2} hG=>⟨cap,rest,agT,by rw[hG,ue hjx];simp[AV.cells],ahK,agM,hX5 _ _⟩
   have hjs:∀x:AV,i0<(xs.set i0 x).length:=fun x=>by rw[List.length_set];exact hjx
   refine .calls (pick K3 [i3,i5]) [0,1,2,3,4,5,6,7] bS aeF rfl ?_;simp only[go_sem,bC (show i5∈ [i3,i5] by simp),m3,m5]
   refine(mkO e1').idx (U:=U) (e:=120) i0 rfl (hjs _) ot aeG ?_;simp only[go_sem,bC (show i3∈ [i3,i5] by simp),m3,m5]
   have hha:=sX (h0:=H) (h:=K3) (s:=s) z1 z2 z3 z4 (k:=id1) (c:=s.cases[i0]) (f:=f') (l:=l) lA e1' aeG ol3 sH3 hfl o.subj [119,114,105,116,101];rw[hpp,hcC]at hha;simp only[List.cons_append,List.nil_append]at hha;refine hha.mono fun r K4 ⟨l',ol',e1'',fr4,ap4⟩=>?_
   have m3' :K4 i3=_:=(fr4 i3 (by rw[m3];simp) n13.symm fun e=>(nl4 _ e).1 rfl).trans m3
   have m4' :K4 i4=_:=(fr4 i4 (by rw[m4];simp) n14.symm fun e=>(nl4 _ e).2.1 rfl).trans m4
   have m5' :K4 i5=_:=(fr4 i5 (by rw[m5];simp) n15.symm fun e=>(nl4 _ e).2.2.1 rfl).trans m5
   refine⟨ja fun k hk=>?_,?_⟩
   ·simp only[List.mem_cons,List.not_mem_nil,or_false]at hk
    rcases hk with rfl|rfl
    ·rw[m3',m3]
    ·rw[m5',m5]
   simp only[go_sem];simp only[go_sem,m5',m4'];obtain⟨K5,eK5⟩:∃K5,upd K4 i4 (some (.obj [.v (.int .i64 s.tick),z1,z2,z3,z4,.s pid,.v (.bool pset),.v (.int .i64 palg),aV ptgt,.sl (prules.map aC) .no,.sl (pkids.map aO) .no,ay pobls,.v (.int .i64 s.version)] 41))=K5:=⟨_,rfl⟩;rw[eK5];have o5:∀k,k≠i4→K5 k=K4 k:=fun k a=>by rw[←eK5,ag _ _ a]
   have kk5:∀k,H k=none→H1 k≠none→k≠id1→nid f≠some k→nid l≠some k→K5 k=H1 k:=fun k a b c d e=>by
    exact aky
   have of5:OwE 196 H K5 4 f' _:=of'.keep fun id e=>by
    exact ai8
   have ol5:OwE 186 H K5 3 l' _:=ol'.keep fun id e=>o5 id (hz4 id (ol'.nid e).1)
   have sg4:Ab.Sub g K4:=fun k b hk=>by
    exact ajC
   have sg5:Ab.Sub g K5:=by rw[←eK5];exact sg4.put h4' _
   have n1' :nid z1=some id1:=o1.nid;have hdo:doD aQ s o= {s with cases:=s.cases.modify i0 fun c=>jG s {c with fields:=eO c.fields o.field o.val} o.subj [119,114,105,116,101]}:=by simp[doD,p3,ej]
   refine .mk _ (.refl _) (.refl _) ⟨sg5,_,?_,fun _=>rfl⟩
   rw[hdo];have thr:∀w∈ [z1,z2,z3,z4],∀k,nid w=some k→H1 k≠none:=fun w hw k e=>by
    exact ajz
   refine pX rfl hpp rfl ?_ ((w2.keep fun id e=>kk5 id (w2.nid e).1 (w2.nid e).2.1 (fun e1=>a12 id1 n1' ahl) (fun e1=>(hys z2 aeJ).1 id e1 e) (fun e1=>(hys z2 aeJ).2 id e1 e)).bL fun _ e=>hH.none e) ((w3.keep fun id e=>kk5 id (w3.nid e).1 (w3.nid e).2.1 (fun e1=>a13 id1 n1' ahl) (fun e1=>(hys z3 aeJ).1 id e1 e) (fun e1=>(hys z3 aeJ).2 id e1 e)).bL fun _ e=>hH.none e) ((w4.keep fun id e=>kk5 id (w4.nid e).1 (w4.nid e).2.1 (fun e1=>a14 id1 n1' ahl) (fun e1=>(hys z4 aeJ).1 id e1 e) (fun e1=>(hys z4 aeJ).2 id e1 e)).bL fun _ e=>hH.none e) ⟨a12,a13,a14,a23,a24,a34⟩
   refine CQ (X:=.agg (cg s.cases[i0] f' l')) ((show OwE 120 H K5 5 z1 _ from .inr ⟨id1,hg1,mkO ((o5 id1 n14).trans e1'')⟩).bL (fun _ e=>hH.none e)) hnx (fun k h1 h2 hk=>hlo k h1 h2 hk) fun hh=>⟨f',l',rfl,of5.bL (fun _ e=>hH.none e),ol5.bL (fun _ e=>hH.none e),fun k e1 e2=>?_,fun w hw=>⟨fun k e1 e2=>?_,fun k e1 e2=>?_⟩⟩
   ·rcases ap4 k e2 with h|h
    ·exact(of'.nid e1).2.1 h
    ·rcases ap3 k e1 with h' |h'
     ·exact(ol.nid h).2.1 (sK.none h')
     ·exact hap k h' h
   ·rcases ap3 k e1 with h|h
    ·exact thr w hw k e2 (sK.none h)
    ·exact(hys w hw).1 k h e2
   ·rcases ap4 k e1 with h|h
    ·by_cases h1:k=id1
     ·subst h1;rw[e1']at h;cases h
     ·have:=kk3 k (thr w hw k e2) h1 (fun e=>(hys w hw).1 k e e2)
      rw[h]at this;exact thr w hw k e2 this.symm
    ·exact(hys w hw).2 k h e2
  have k3' :(o.kind==3)=false:=by simp[p3]
  simp only[go_sem,k3']
  by_cases p4:o.kind=4
  ·have k4' :(o.kind==4)=true:=by simp[p4]
   simp only[go_sem,k4'];have hth:=zR p0 (.inr p4);have hlt:=jW hth;obtain⟨j,ej⟩:∃j,findD s.cases o.case=j:=⟨_,rfl⟩;have hj:j<s.cases.length:=by rw[←ej];exact hlt
   have hjx:j<xs.length:=aeC;rw[ej]at hi0;subst hi0;obtain⟨f,l,ex,of,ol,hap,hys⟩:=hmy hjx hj;obtain⟨id1,hg1,o1⟩:=w1.ow ahu;have o1' :=o1;obtain⟨cap,rest,ey,hid,hrl,hcap,hsz⟩:=o1';have lA:i0*5=(au (xs.take i0)).length:=afJ;have hidK:K id1=some (.obj (au (xs.take i0)++(cg s.cases[i0] f l++(au (xs.drop (i0+1))++rest))) 120):=by
    rw[sK _ _ hid,Cv hjx,ex];simp[cg,AV.cells]
   have n14:id1≠i4:=hz4 id1 hg1;have n13:id1≠i3:=fun e=>by rw[e,g3]at hg1;cases hg1
   have n15:id1≠i5:=fun e=>o1.none (by rw[e];exact h5)
   have nf4:∀k,nid f=some k→k≠i3∧k≠i4∧k≠i5∧k≠id1:=fun k e=>⟨(fun e' =>aho),hz4 k (of.nid e).1,hz5 k (of.nid e).1 (of.nid e).2.1,fun e' =>(hys z1 aeJ).1 k e ah4⟩
   have nl4:∀k,nid l=some k→k≠i3∧k≠i4∧k≠i5∧k≠id1:=fun k e=>⟨(fun e' =>ahp),hz4 k (ol.nid e).1,hz5 k (ol.nid e).1 (ol.nid e).2.1,fun e' =>(hys z1 aeJ).2 k e ah4⟩
   have hff:=hf.fields _ (aex hj);have hfl:=hf.log _ (aex hj);rw[ej];simp only[go_sem,k5,k3];refine(o1.sub sK).idx (U:=U) (e:=120) i0 rfl hjx ot aeG ?_;simp only[go_sem,hidK];have e2:List.take (i0*5+2) (au (xs.take i0)++(cg s.cases[i0] f l++(au (xs.drop (i0+1))++rest)))++ [.s o.to]++List.drop (i0*5+2+1) (au (xs.take i0)++(cg s.cases[i0] f l++(au (xs.drop (i0+1))++rest)))=au (xs.take i0)++(cg {s.cases[i0]with state:=o.to} f l++(au (xs.drop (i0+1))++rest)):=by
    have:=pS (A:=au (xs.take i0)++ [.s s.cases[i0].id,.s s.cases[i0].owner]) (B:=[.s s.cases[i0].state]) (C:=f::l::(au (xs.drop (i0+1))++rest)) (X:=[.s o.to]) (k:=i0*5+2) (m:=1) (by rw[lA];simp) rfl rfl
    exact aku
   rw[e2];obtain⟨K3,eK3⟩:∃K3,upd K id1 (some (.obj (au (xs.take i0)++(cg {s.cases[i0]with state:=o.to} f l++(au (xs.drop (i0+1))++rest))) 120))=K3:=⟨_,rfl⟩
   rw[eK3];refine⟨by simp only[aew,←lA,cg,List.length_cons,List.length_nil];omega,?_⟩
   have e1' :K3 id1=some (.obj (au (xs.take i0)++(cg {s.cases[i0]with state:=o.to} f l++(au (xs.drop (i0+1))++rest))) 120):=by rw[←eK3,ah]
   have fr3:∀k,K k≠none→k≠id1→nid f≠some k→K3 k=K k:=fun k _ hk _=>by rw[←eK3,ag _ _ hk]
   have ap3:∀k,nid f=some k→K k=none∨nid f=some k:=fun k hk=> .inr hk
   have kk3:∀k,H1 k≠none→k≠id1→nid f≠some k→K3 k=H1 k:=fun k a b c=>(fr3 k (by rw[kK k a];exact a) b c).trans (kK k a)
   have m3:K3 i3=_:=(fr3 i3 (by rw[k3];simp) n13.symm fun e=>(nf4 _ e).1 rfl).trans k3
   have m4:K3 i4=_:=(fr3 i4 (by rw[k4];simp) n14.symm fun e=>(nf4 _ e).2.1 rfl).trans k4
   have m5:K3 i5=_:=(fr3 i5 (by rw[k5];simp) n15.symm fun e=>(nf4 _ e).2.2.1 rfl).trans k5
   obtain⟨f',of',ef'⟩:∃f',OwE 196 H K3 4 f' (s.cases[i0].fields.map bN)∧f=f' :=⟨f,of.keep fun k e=>by rw[←eK3,ag _ _ (nf4 k e).2.2.2,kK k (of.nid e).2.1],rfl⟩
   rw[ef']at e1';replace ap3:∀k,nid f' =some k→K k=none∨nid f=some k:=by rw[←ef'];exact ap3
   have sH3:Ab.Sub H K3:=fun k b hk=>afl
   have ol3:OwE 186 H K3 3 l (s.cases[i0].log.map iW):=ol.keep fun k e=>kk3 k (ol.nid e).2.1 (nl4 k e).2.2.2 (fun e1=>hap k e1 e)
   have hX5:∀y1 y2:AV,Sized 5 (xs.set i0 (.agg (cg ({s.cases[i0]with state:=o.to}:aM) y1 y2))):=fun y1 y2 z hz=>by
    exact ajt
   have mkO:∀ {G:Heap} {y1 y2:AV},G id1=some (.obj (au (xs.take i0)++(cg ({s.cases[i0]with state:=o.to}:aM) y1 y2++(au (xs.drop (i0+1))++rest))) 120)→Ow 120 G 5 id1 z1 (xs.set i0 (.agg (cg ({s.cases[i0]with state:=o.to}:aM) y1 y2))):=fun {G y1 y2} hG=>⟨cap,rest,agT,by rw[hG,ue hjx];simp[AV.cells],ahK,agM,hX5 _ _⟩
   have hjs:∀x:AV,i0<(xs.set i0 x).length:=fun x=>by rw[List.length_set];exact hjx
   refine .calls (pick K3 [i3,i5]) [0,1,2,3,4,5,6,7,8,9] bS aeF rfl ?_;simp only[go_sem,bC (show i5∈ [i3,i5] by simp),m3,m5]
   refine(mkO e1').idx (U:=U) (e:=120) i0 rfl (hjs _) ot aeG ?_;simp only[go_sem,bC (show i3∈ [i3,i5] by simp),m3,m5]
   have hha:=sX (h0:=H) (h:=K3) (s:=s) z1 z2 z3 z4 (k:=id1) (c:=({s.cases[i0]with state:=o.to}:aM)) (f:=f') (l:=l) lA e1' aeG ol3 sH3 hfl o.subj o.to
   rw[hpp,hcC]at hha;simp only[List.cons_append,List.nil_append]at hha;refine hha.mono fun r K4 ⟨l',ol',e1'',fr4,ap4⟩=>?_
   have m3' :K4 i3=_:=(fr4 i3 (by rw[m3];simp) n13.symm fun e=>(nl4 _ e).1 rfl).trans m3
   have m4' :K4 i4=_:=(fr4 i4 (by rw[m4];simp) n14.symm fun e=>(nl4 _ e).2.1 rfl).trans m4
   have m5' :K4 i5=_:=(fr4 i5 (by rw[m5];simp) n15.symm fun e=>(nl4 _ e).2.2.1 rfl).trans m5
   refine⟨ja fun k hk=>?_,?_⟩
   ·simp only[List.mem_cons,List.not_mem_nil,or_false]at hk
    rcases hk with rfl|rfl
    ·rw[m3',m3]
    ·rw[m5',m5]
   simp only[go_sem];simp only[go_sem,m5',m4'];obtain⟨K5,eK5⟩:∃K5,upd K4 i4 (some (.obj [.v (.int .i64 s.tick),z1,z2,z3,z4,.s pid,.v (.bool pset),.v (.int .i64 palg),aV ptgt,.sl (prules.map aC) .no,.sl (pkids.map aO) .no,ay pobls,.v (.int .i64 s.version)] 41))=K5:=⟨_,rfl⟩;rw[eK5];have o5:∀k,k≠i4→K5 k=K4 k:=fun k a=>by rw[←eK5,ag _ _ a]
   have kk5:∀k,H k=none→H1 k≠none→k≠id1→nid f≠some k→nid l≠some k→K5 k=H1 k:=fun k a b c d e=>by
    exact aky
   have of5:OwE 196 H K5 4 f' _:=of'.keep fun id e=>by
    exact ai8
   have ol5:OwE 186 H K5 3 l' _:=ol'.keep fun id e=>o5 id (hz4 id (ol'.nid e).1)
   have sg4:Ab.Sub g K4:=fun k b hk=>by
    exact ajC
   have sg5:Ab.Sub g K5:=by rw[←eK5];exact sg4.put h4' _
   have n1' :nid z1=some id1:=o1.nid;have hdo:doD aQ s o= {s with cases:=s.cases.modify i0 fun c=>jG s {c with state:=o.to} o.subj o.to}:=by simp[doD,p4,ej]
   refine .mk _ (.refl _) (.refl _) ⟨sg5,_,?_,fun _=>rfl⟩
   rw[hdo];have thr:∀w∈ [z1,z2,z3,z4],∀k,nid w=some k→H1 k≠none:=fun w hw k e=>by
    exact ajz
   refine pX rfl hpp rfl ?_ ((w2.keep fun id e=>kk5 id (w2.nid e).1 (w2.nid e).2.1 (fun e1=>a12 id1 n1' ahl) (fun e1=>(hys z2 aeJ).1 id e1 e) (fun e1=>(hys z2 aeJ).2 id e1 e)).bL fun _ e=>hH.none e) ((w3.keep fun id e=>kk5 id (w3.nid e).1 (w3.nid e).2.1 (fun e1=>a13 id1 n1' ahl) (fun e1=>(hys z3 aeJ).1 id e1 e) (fun e1=>(hys z3 aeJ).2 id e1 e)).bL fun _ e=>hH.none e) ((w4.keep fun id e=>kk5 id (w4.nid e).1 (w4.nid e).2.1 (fun e1=>a14 id1 n1' ahl) (fun e1=>(hys z4 aeJ).1 id e1 e) (fun e1=>(hys z4 aeJ).2 id e1 e)).bL fun _ e=>hH.none e) ⟨a12,a13,a14,a23,a24,a34⟩
   refine CQ (X:=.agg (cg ({s.cases[i0]with state:=o.to}:aM) f' l')) ((show OwE 120 H K5 5 z1 _ from .inr ⟨id1,hg1,mkO ((o5 id1 n14).trans e1'')⟩).bL (fun _ e=>hH.none e)) hnx (fun k h1 h2 hk=>hlo k h1 h2 hk) fun hh=>⟨f',l',rfl,of5.bL (fun _ e=>hH.none e),ol5.bL (fun _ e=>hH.none e),fun k e1 e2=>?_,fun w hw=>⟨fun k e1 e2=>?_,fun k e1 e2=>?_⟩⟩
   ·rcases ap4 k e2 with h|h
    ·exact(of'.nid e1).2.1 h
    ·rcases ap3 k e1 with h' |h'
     ·exact(ol.nid h).2.1 (sK.none h')
     ·exact hap k h' h
   ·rcases ap3 k e1 with h|h
    ·exact thr w hw k e2 (sK.none h)
    ·exact(hys w hw).1 k h e2
   ·rcases ap4 k e1 with h|h
    ·by_cases h1:k=id1
     ·subst h1;rw[e1']at h;cases h
     ·have:=kk3 k (thr w hw k e2) h1 (fun e=>(hys w hw).1 k e e2)
      rw[h]at this;exact thr w hw k e2 this.symm
    ·exact(hys w hw).2 k h e2
  have k4' :(o.kind==4)=false:=by simp[p4]
  simp only[go_sem,k4'];have kkK:∀k,H k=none→H1 k≠none→K k=H1 k:=fun k _ b=>kK k b
  by_cases p5:o.kind=5
  ·have k5' :(o.kind==5)=true:=by simp[p5]
   simp only[go_sem,k5'];have hrv:0<o.review:=by
    simp only[cN,dW,Bool.and_eq_true]at hform;simpa[okD,p5]using hform.2.1.2
   obtain⟨n,en⟩:∃n:Nat,o.review=((n:Nat):Int)+1:=⟨(o.review - 1).toNat,aeC⟩;have w5:IntKind.i64.wrap (o.review - 1)=((n:Nat):Int):=by rw[aW _ (by have:=hr.2;omega)];omega
   have hn5:n<s.reviews.length:=by
    have:fB s o=0:=by simpa[bI,hform,p5]using p0
    unfold fB at this;have e1:xo s.reviews o.review=s.reviews[n]? :=by unfold xo;rw[if_pos aeC,show(o.review - 1).toNat=n by omega]
    rw[e1]at this
    by_cases hlt:n<s.reviews.length
    ·exact hlt
    ·rw[List.getElem?_eq_none aeC]at this;cases this
   have hnm:n<(s.reviews.map jb).length:=by simpa using hn5
   obtain⟨id2,hg2,o2⟩:=w2.ow (by intro e;rw[e]at hnm;cases hnm)
   have o2' :=o2;obtain⟨cap,rest,ey,hid,hrl,hcap,hsz⟩:=o2';have n24:id2≠i4:=hz4 id2 hg2;have n25:id2≠i5:=hz5 id2 hg2 o2.none;have hidK:=sK _ _ hid;simp only[go_sem,k5,k3,w5];refine(o2.sub sK).idx (U:=U) (e:=134) n rfl hnm aeM aeG ?_;simp only[go_sem,hidK];have e2:List.take (n*7+6) (au (s.reviews.map jb)++rest)++ [.v (.bool false)]++List.drop (n*7+6+1) (au (s.reviews.map jb)++rest)=au ((s.reviews.modify n fun r=> {r with isOpen:=false}).map jb)++rest:=by
    refine(kC hsz n hnm 6 [.v (.bool false)] (aer rfl)).trans ?_
    congr 2
    refine List.ext_getElem aeJ fun j h1 h2=>?_
    by_cases e:j=n
    ·subst e;simp[jb,AV.cells,Ab.over]
    ·rw[List.getElem_set_ne (Ne.symm e)];simp[Ne.symm e]
   rw[e2];refine⟨by rw[aew,aX hsz];omega,?_⟩
   have k5b:∀b,upd K id2 b i5=_:=fun b=>(ag _ _ n25.symm).trans k5
   have k4b:∀b,upd K id2 b i4=_:=fun b=>(ag _ _ n24.symm).trans k4
   simp only[go_sem,k5b,k4b];have hdo:doD aQ s o= {s with reviews:=s.reviews.modify n fun r=> {r with isOpen:=false}}:=by simp[doD,p5,en]
   have kz:∀a b k,H k=none→H1 k≠none→nid z2≠some k→upd (upd K id2 a) i4 b k=H1 k:=fun a b k c d e=>by rw[ag _ _ (hz4 k c),ag _ _ (fun e' =>e (by rw[e'];exact o2.nid)),kK k d]
   refine .mk _ (.refl _) (.refl _) ⟨(Sub.put (i:=id2) sg (hH.none hg2) _).put h4' _,_,?_,fun _=>hi0⟩
   rw[hdo];exact pX rfl hpp rfl ((hC.keepx (z:=z2) aeJ a12 (kz _ _)).bL (fun _ e=>hH.none e)) (.inr ⟨id2,hH.none hg2,cap,rest,by rw[ey];simp,by rw[ag _ _ n24,ah],by rw[hrl];simp,by simpa using hcap,bx (f:=jb) (n:=7) (fun _=>rfl) _⟩) ((w3.keep fun id e=>kz _ _ id (w3.nid e).1 (w3.nid e).2.1 fun e1=>a23 id e1 e).bL fun _ e=>hH.none e) ((w4.keep fun id e=>kz _ _ id (w4.nid e).1 (w4.nid e).2.1 fun e1=>a24 id e1 e).bL fun _ e=>hH.none e) ⟨a12,a13,a14,a23,a24,a34⟩
  have k5' :(o.kind==5)=false:=by simp[p5]
  simp only[go_sem,k5']
  by_cases p6:o.kind=6
  ·have k6' :(o.kind==6)=true:=by simp[p6]
   simp only[go_sem,k6'];simp only[go_sem,k5,k3];have hha6:=Gx hSK.rd o.case o.field (Nat.le_trans hf.roles aeG);rw[hpp,hcC]at hha6;simp only[List.cons_append,List.nil_append]at hha6;refine hha6.pthen ?_;cases dha:yZ s.roles ⟨o.case,o.field⟩
   ·simp only[go_sem]
    simp only[go_sem,k5,k3];have hap1:Rd K 2 (.sl [eW ⟨o.case,o.field⟩] .full) [eW ⟨o.case,o.field⟩]:=.sl afi .full;have hfr:=hf.roles;refine OwE.app (U:=U) (tb:=140) (w4.sub sK) (s1.trans sK) hap1 aeM aeG aeH aeM aeJ afc fun id4 y' K3 g4' hor hw ho2=>?_
    have hor' :K id4=none∨nid z4=some id4:=by
     exact ajm
    have n44:i4≠id4:=fun e=>by rw[←e,g4]at g4';cases g4'
    have n45:i5≠id4:=fun e=>by
     rcases hor' with hor|hor
     ·rw[←e,k5]at hor;cases hor
     ·exact(w4.nid hor).2.1 (by rw[←e];exact h5)
    have m4:K3 i4=_:=(ho2 i4 n44).trans k4;have m5:K3 i5=_:=(ho2 i5 n45).trans k5;simp only[go_sem,m5,hw.rd.fit,hw.rd.cells];simp only[go_sem,ak,n54,m4];have hdo:doD aQ s o= {s with roles:=s.roles++ [⟨o.case,o.field⟩]}:=by simp[doD,p6,dha]
    have gid4:g id4=none:=hH.none g4';have kz:∀a b k,H k=none→H1 k≠none→nid z4≠some k→upd (upd K3 i5 a) i4 b k=H1 k:=fun a b k c d e=>by
     have:k≠id4:=fun e' =>by
      rcases hor' with hor|hor
      ·have:=kK k d;rw[e',hor]at this;exact d (by rw[e'];exact this.symm)
      ·exact e (by rw[e'];exact hor)
     rw[ag _ _ (hz4 k c),ag _ _ (hz5 k c d),ho2 k this,kK k d]
    have sg3:Ab.Sub g K3:=fun k b hk=>by rw[ho2 k (fun e=>by rw[e,gid4]at hk;cases hk)];exact sg _ _ hk
    refine .mk _ (.refl _) (.refl _) ⟨(sg3.put g5 _).put h4' _,_,?_,fun _=>hi0⟩
    rw[hdo];have hw' :OwE 140 g K3 2 y' ((s.roles++ [(⟨o.case,o.field⟩:iD)]).map eW):=by rw[List.map_append];exact .inr ⟨id4,gid4,hw⟩
    have hry:∀k,nid y' =some k→H1 k=none∨nid z4=some k:=fun k e=>by
     have:id4=k:=by have:=hw.nid;rw[e]at this;exact(Option.some.inj this).symm
     subst this;exact hor'.imp (fun h=>sK.none h) id
    have har:∀ {w:AV},apart w z4→(∀k,nid w=some k→H1 k≠none)→apart w y' :=fun ha hh k e1 e2=>(hry k e2).elim (fun h=>hh k e1 h) (fun h=>ha k e1 h)
    refine pX rfl hpp rfl ((hC.move (z:=z4) aeJ a14 (kz _ _) fun w hw k e=>?_).bL (fun _ e=>hH.none e)) ((w2.keep fun id e=>kz _ _ id (w2.nid e).1 (w2.nid e).2.1 fun e1=>a24 id e e1).bL fun _ e=>hH.none e) ((w3.keep fun id e=>kz _ _ id (w3.nid e).1 (w3.nid e).2.1 fun e1=>a34 id e e1).bL fun _ e=>hH.none e) (hw'.keep fun id e=>?_) ⟨a12,a13,har a14 fun k e=>(w1.nid e).2.1,a23,har a24 fun k e=>(w2.nid e).2.1,har a34 fun k e=>(w3.nid e).2.1⟩
    ·simp only[List.mem_cons,List.not_mem_nil,or_false]at hw
     rcases hw with rfl|rfl|rfl|rfl
     ·exact .inr ⟨w,aeJ,e⟩
     ·exact .inr ⟨w,aeJ,e⟩
     ·exact .inr ⟨w,aeJ,e⟩
     ·exact(hry k e).imp id fun h=>⟨z4,aeJ,h⟩
    ·have:id=id4:=by have:=hw.nid;rw[e]at this;exact Option.some.inj this
     rw[this,ag _ _ n44.symm,ag _ _ n45.symm]
   ·simp only[go_sem]
    simp only[go_sem,k5,k4];have hdo:doD aQ s o=s:=by simp[doD,p6,dha]
    rw[hdo];refine .mk _ (.refl _) (.refl _) ⟨sg.put h4' _,_,(hS.keepb fun k hk hk1=>?_).bL fun _ e=>hH.none e,fun _=>hi0⟩
    rw[ag _ _ (hz4 k hk),kK k hk1]
  have k6' :(o.kind==6)=false:=by simp[p6]
  simp only[go_sem,k6']
  by_cases p7:o.kind=7
  ·have k7' :(o.kind==7)=true:=by simp[p7]
   simp only[go_sem,k7'];simp only[go_sem,k3];refine(zG o.text _ (he.sub sg)).pthen ?_;obtain⟨⟨pp,e,a⟩,epp⟩:∃x,aQ o.text=x:=⟨_,rfl⟩;obtain⟨qid,qset,qalg,qtgt,qrules,qkids,qobls⟩:=pp;rw[epp];simp only[go_sem,ku,aO,bf];intro i9 h9;have n95:i5≠i9:=fun e=>by rw[←e,k5]at h9;cases h9
   have n94:i4≠i9:=fun e=>by rw[←e,k4]at h9;cases h9
   simp only[go_sem];have g9:g i9=none:=sg.none h9;have sg9:∀b,Ab.Sub g (upd K i9 b):=fun b=>sg.put g9 b
   have hz9:∀k,H1 k≠none→k≠i9:=fun k hk e=>hk (by have:=kK k hk;rw[e,h9]at this;rw[e];exact this.symm)
   by_cases pe:e=0
   ·have de:(e==0)=true:=by simp[pe]
    have wv:IntKind.i64.wrap (s.version+1)=s.version+1:=aW _ aeC;simp only[go_sem,de];simp only[go_sem,ak,n95,n94,n54,k5,k4,wv];have hdo:doD aQ s o= {s with policy:=.mk qid qset qalg qtgt qrules qkids qobls,version:=s.version+1}:=by simp[doD,p7,epp,pe]
    have kz:∀a b c k,H k=none→H1 k≠none→upd (upd (upd K i9 a) i5 b) i4 c k=H1 k:=fun a b c k d e=>by rw[ag _ _ (hz4 k d),ag _ _ (hz5 k d e),ag _ _ (hz9 k e),kK k e]
    refine .mk _ (.refl _) (.refl _) ⟨((sg9 _).put g5 _).put h4' _,_,?_,fun _=>hi0⟩
    rw[hdo];exact pX rfl rfl rfl ((hC.keepb (kz _ _ _)).bL (fun _ e=>hH.none e)) ((w2.keepb (kz _ _ _)).bL (fun _ e=>hH.none e)) ((w3.keepb (kz _ _ _)).bL (fun _ e=>hH.none e)) ((w4.keepb (kz _ _ _)).bL (fun _ e=>hH.none e)) ⟨a12,a13,a14,a23,a24,a34⟩
   ·have de:(e==0)=false:=by simp[pe]
    simp only[go_sem,de];simp only[go_sem,ak,n95,n94,k5,k4];have hdo:doD aQ s o=s:=by simp[doD,p7,epp,pe]
    rw[hdo];refine .mk _ (.refl _) (.refl _) ⟨(sg9 _).put h4' _,_,(hS.keepb fun k hk hk1=>?_).bL fun _ e=>hH.none e,fun _=>hi0⟩
    rw[ag _ _ (hz4 k hk),ag _ _ (hz9 k hk1),kK k hk1]
  have k7' :(o.kind==7)=false:=by simp[p7]
  simp only[go_sem,k7']
  by_cases p8:o.kind=8
  ·have k8' :(o.kind==8)=true:=by simp[p8]
   simp only[go_sem,k8'];have hrv:0<o.review∧o.review≤1099511627776:=by
    simp only[cN,dW,Bool.and_eq_true]at hform;simpa[okD,p8]using hform.2.1.2
   have htk:¬s.tick>1099511627776 - o.review:=by
    intro hgt;simp[bI,hform,p8,hgt]at p0
   have w8:IntKind.i64.wrap (s.tick+o.review)=s.tick+o.review:=aW _ (by have:=ht.1;omega)
   simp only[go_sem,k5,k3,w8];simp only[go_sem,ak,n54,k4];have hdo:doD aQ s o= {s with tick:=s.tick+o.review}:=by simp[doD,p8]
   have kz:∀a b k,H k=none→H1 k≠none→upd (upd K i5 a) i4 b k=H1 k:=fun a b k c d=>by rw[ag _ _ (hz4 k c),ag _ _ (hz5 k c d),kK k d]
   refine .mk _ (.refl _) (.refl _) ⟨(sg.put g5 _).put h4' _,_,?_,fun _=>hi0⟩
   rw[hdo];exact pX rfl hpp rfl ((hC.keepb (kz _ _)).bL (fun _ e=>hH.none e)) ((w2.keepb (kz _ _)).bL (fun _ e=>hH.none e)) ((w3.keepb (kz _ _)).bL (fun _ e=>hH.none e)) ((w4.keepb (kz _ _)).bL (fun _ e=>hH.none e)) ⟨a12,a13,a14,a23,a24,a34⟩
  have k8' :(o.kind==8)=false:=by simp[p8]
  simp only[go_sem,k8'];simp only[go_sem,k5,k4];have hdo:doD aQ s o=s:=by simp[doD,p1,p3,p4,p5,p6,p7,p8]
  rw[hdo];refine .mk _ (.refl _) (.refl _) ⟨sg.put h4' _,_,(hS.keepb fun k hk hk1=>?_).bL fun _ e=>hH.none e,fun _=>hi0⟩
  rw[ag _ _ (hz4 k hk),kK k hk1]
 ·have d0:(bI s o !=0)=true:=by simp[p0]
  simp only[go_sem,d0];simp only[go_sem,k5,k4];have hdone:cR aQ s o=s:=by simp[cR,p0]
  rw[hdone];refine .mk _ (.refl _) (.refl _) ⟨sg.put h4' _,_,(hS.keepb fun k hk hk1=>?_).bL fun _ e=>hH.none e,fun h=>(p0 h).elim⟩
  rw[ag _ _ (hz4 k hk),kK k hk1]
end Go.Proofs.YtelkmnkejghkeaaGreatDoor
namespace Go.Bf
def Nd:Txt:=[112,111,108,105,99,121,32,111,112,101,110,32,112,101,114,109,105,116,117,110,108,101,115,115,32,123,32,125]
def mz:bD:=.mk jV false 6 [] [] [] []
def th:an:=⟨0,[],[],[],[],mz,0⟩
end Go.Bf
namespace Go.Proofs.YtelkmnkejghkeaaGreatDoor
open Go Go.Ab Go.Bf Tryz
variable {g K H h G:Heap}{S s:an}{pid subj:Txt}{x:AV}{ys:List AV}{gs:List bt}{l:List iD}
theorem PE{y1 y2 y3 y4:AV}{tk ver palg:Int}{pset:Bool}{ptgt:gv}{prules:List cQ}{pkids:List bD}{pobls:List cB}(h1:S.tick=tk)(h2:S.policy= .mk pid pset palg ptgt prules pkids pobls)(h3:S.version=ver)
  (a:Frz g K y1 (gw S.cases)) (b:Frz g K y2 (kR S.reviews)) (c:Frz g K y3 (lU S.notices)) (d:Frz g K y4 (eJ S.roles)):
  Frz g K (.agg [.i tk,y1,y2,y3,y4,.s pid,.b pset,.i palg,aV ptgt,.sl (prules.map aC) .no,.sl (pkids.map aO) .no,ay pobls,.i ver]) (cG S):=by
 have:=vu a b c d;rw[h1,h2,h3,show gq (.mk pid pset palg ptgt prules pkids pobls)= [.s pid,.b pset,.i palg,aV ptgt,.sl (prules.map aC) .no,.sl (pkids.map aO) .no,ay pobls] by simp[gq,bf]]at this
 exact afk
theorem Lv{i j:Nat}{a b:Option Blk}(c:Option Blk)(h:i≠j):upd (upd (upd H i a) j b) i c=upd (upd H i c) j b:=by grind [ah,ag]
theorem Nf:aQ Nd=(mz,0,0):=aeR
theorem Nr(h:Heap)(he:iB h):ai prog 20 [] h fun r h' =>r=cG th∧h' =h:=
 ai.freeze fun g hg _=>by
 replace he:=he.sub hg;refine aeB func20 11 [.cell 0 41] fun hwf=>?_
 simp only[go_sem];intro i1 h1;simp only[go_sem];refine(zG Nd _ (he.sub (.aj h1))).pthen ?_;rw[Nf];simp only[go_sem,ku,mz,aO,aV,ay,fO,jV,List.map_nil];intro i2 h2;have n21:=aI h2;have n2:=aB h2;simp only[go_sem,ak,n21.symm];refine .mk _ (.refl _) (.refl _) ⟨?_,cG th,PE (S:=th) rfl rfl rfl mQ mQ mQ mQ,rfl⟩;rw[Lv _ n21.symm];exact((Sub.refl g).put h1 _).put n2 _
theorem sI(s:Txt)(h:Heap):ai prog 94 [.s s] h fun r h' =>r=aS (idV s)∧h' =h:=by
 refine aeB func94 5 [.cell 2 48] fun hwf=>?_
 exact akd
theorem dX(cat:Int)(name:Txt)(xs:List AV)(q:Perm)(h:Heap):ai prog 95 [.i cat,.s name,.sl xs q] h fun r h' =>r= .agg [.i cat,.s name,.sl xs q]∧h' =h:=by
 refine aeB func95 11 [.cell 6 177] fun hwf=>?_
 exact akd
theorem MV{α:Type}(y:AV)(xs:List AV)(ds:List α)(q:α→Bool)(g:FuncId)(cap:List AV)(h:Heap)(hb:Rd h 3 y xs)(hn:xs.length=ds.length)(hl:xs.length≤1000000000)(hx:∀x∈xs,bA x=true)
  (hp:∀i (h1:i<xs.length) (h2:i<ds.length),ai prog g (xs[i]::cap) h fun r h' =>r= .b (q ds[i])∧h' =h):
  ai prog 255 [y,.fn g cap] h fun r h' =>r= .i (ixD q ds)∧h' =h:=by
 refine aeB func255 19 [.tmp 4] fun hwf=>?_
 simp only[go_sem,hb.len];refine .intro (fun m ρ h' =>h' =h∧∃i:Nat,i≤xs.length∧m=xs.length - i∧(∀j (hj:j<i) (h2:j<ds.length),q ds[j]=false)∧lk ρ 0=some y∧lk ρ 1=some (.fn g cap)∧lk ρ 7=some (.i xs.length)∧lk ρ 8=some (.i i)) xs.length ?_ ?_
 ·refine⟨rfl,0,aeC,rfl,fun j hj=>aeC,?_,?_,?_,?_⟩<;>simp only[go_sem]
 ·rintro m ρ h' ⟨rfl,i,hi,rfl,hc,r0,r1,r7,r8⟩
  simp only[go_sem,r7,r8];refine .intro (fun e=>?_) (fun e=>?_)
  ·have hlt:i<xs.length:=aez e
   have hlt2:i<ds.length:=aeC;have w1:IntKind.i64.wrap ((i:Int)+1)=((i+1:Nat):Int):=aeN;simp only[go_sem,r0,r1,r8];refine hb.idx (e:=186) i rfl hlt aeR aeG fun p hp1=>?_
   have hld:=hp1.all (U:=U) (ty:=186) aeG afy agt;simp only[go_sem,hld];refine(show ai prog g (xs[i]::cap) _ _ from hp i hlt hlt2).pthen ?_
   cases d1:q ds[i]
   ·simp only[go_sem,r8,w1]
    refine⟨_,?_,rfl,i+1,aeC,rfl,fun j hj h2=>?_,?_,?_,?_,?_⟩
    ·omega
    ·grind
    all_goals simp only[go_sem,r0,r1,r7]
   ·simp only[go_sem]
    exact .same (.refl _) ⟨afm,rfl⟩
  ·have hge:i=xs.length:=by grind
   simp only[go_sem];exact .same (.refl _) ⟨ae7,rfl⟩
theorem Ou(x:yj){k:Nat}(hk:h k=some (.obj [.s subj] 9)):ai prog 210 [iW x,.ptr k 0] h fun r h' =>r= .b (x.actor==subj)∧h' =h:=by
 refine aeB func210 8 [.tmp 3] fun hwf=>?_
 simp only[go_sem,iW];exact ai3
theorem vj{α:Type}(q:α→Bool)(l:List α):decide ((0:Int)≤ixD q l)=l.any q:=by
 unfold ixD
 grind
theorem Ki(y:AV)(ds:List yj)(q:yj→Bool)(g:FuncId)(cap:List AV)(h:Heap)(hb:Rd h 3 y (ds.map iW))(hl:ds.length≤1000000000)
  (hp:∀i (h2:i<ds.length),ai prog g (iW ds[i]::cap) h fun r h' =>r= .b (q ds[i])∧h' =h):
  ai prog 209 [y,.fn g cap] h fun r h' =>r= .b (ds.any q)∧h' =h:=by
 refine aeB func209 9 [.tmp 4] fun hwf=>?_
 simp only[go_sem];refine(MV y _ ds q g cap h hb aeJ aeD (pH (fun _=>rfl) _) fun i a b=>by rw[aet];exact hp i b).pthen ?_
 simp only[go_sem,vj];exact aeL
theorem QO{c:aM}(hb:RdC h x c)(subj:Txt)(hl:c.log.length≤1000000000):ai prog 153 [x,.s subj] h fun r h' =>r=aS (u6 c.log subj)∧h' =h:=by
 obtain⟨f,l,rfl,hf,hlg⟩:=hb;refine aeB func153 13 [.cell 4 48] fun hwf=>?_
 simp only[go_sem];intro i1 h1;simp only[go_sem];intro i2 h2;have n21:=aI h2;have n2:=aB h2;simp only[go_sem];intro i3 h3;have h3' :=aB h3;have n31:=aI h3';have n3:=aB h3';simp only[go_sem];intro i4 h4;have n43:=aI h4;have h4' :=aB h4;have h4'' :=aB h4';have n41:=aI h4'';have n4:=aB h4'';have hs:∀a b d e,Ab.Sub h (upd (upd (upd (upd h i1 a) i2 b) i3 d) i4 e):=fun a b d e=>((((Sub.refl h).put h1 a).put n2 b).put n3 d).put n4 e
 simp only[go_sem,ak,n21.symm,n31.symm,n41.symm];refine(Ki l c.log (fun x=>x.actor==subj) _ [.ptr i2 0] _ (hlg.sub (hs _ _ _ _)) hl fun i b=>Ou _ (by grind [ak,gz,not_false_eq_true])).pthen ?_
 cases d1:c.log.any fun x=>x.actor==subj
 ·exact ajT
 ·exact ajT
def Ay(g:bt)(q:Perm):AV:=.agg [.i g.cat,.s g.name,.sl (g.bag.map aS) q]
def GRow(ys:List AV)(gs:List bt):Prop:=ys.length=gs.length∧∀j (h1:j<ys.length) (h2:j<gs.length),∃q,ys[j]=Ay gs[j] q
theorem GRow.sized(h:GRow ys gs):Sized 3 ys:=fun z hz=>by
 obtain⟨i,hi,rfl⟩:=List.mem_iff_getElem.1 hz;obtain⟨q,e⟩:=h.2 i hi (by rw[←h.1];omega)
 rw[e];rfl
theorem GRow.one(g:bt)(q:Perm):GRow [Ay g q] [g]:=⟨rfl,fun j h1 h2=>by
 grind⟩
theorem GRow.app{zs:List AV}{ks:List bt}(h:GRow ys gs)(k:GRow zs ks):GRow (ys++zs) (gs++ks):=⟨by simp[h.1,k.1],fun j h1 h2=>by
 have hl:=h.1
 by_cases e:j<ys.length
 ·rw[List.getElem_append_left e,List.getElem_append_left aeC];exact h.2 j e aeC
 ·rw[List.getElem_append_right aeC,List.getElem_append_right aeC]
  simp only[aew]at h1 h2;obtain⟨q,e'⟩:=k.2 (j - ys.length) aeC aeC;exact⟨q,aeD⟩⟩
theorem GRow.weak(h:GRow ys gs)(q:Perm):Weak (.sl ys q) (bJ gs):=by
 refine .deep _ _ q (by simp[h.1]) (fun k h1 h2=>?_) fun k h1 h2 j h3 h4=>?_
 ·obtain⟨q',e'⟩:=h.2 k h1 aeD
  rw[e',aet];rfl
 ·obtain⟨q',e'⟩:=h.2 k h1 aeD
  simp only[e',aet];simp only[e',Ay,AV.cells]at h3;rcases j with _|_|_|j
  ·exact afX
  ·exact afX
  ·exact ahg
  ·simp at h3;omega
theorem GRow.givs(gs:List bt):GRow (gs.map lO) gs:=⟨aeJ,fun j h1 h2=>⟨.no,aeQ⟩⟩
theorem cw:(U 177).sz=3:=aeR
theorem fU(g:bt)(q:Perm):Sized 3 [Ay g q]:=fun z hz=>ahv
def sY(c:aM)(subj:Txt):List bt:=[⟨3,idT,[idV c.id]⟩,⟨3,[111,119,110,101,114],[idV c.owner]⟩,⟨3,[115,116,97,116,101],[idV c.state]⟩,⟨3,[101,118,101,110,116,115],[⟨2,c.log.length,[]⟩]⟩,⟨3,[116,111,111,107],[u6 c.log subj]⟩]
def tc(c:aM):List bt:=match c.log.getLast? with
 |some x=>[⟨3,[108,97,115,116],[idV x.actor]⟩]
 |none=>[]
def fV(l:List cM):List bt:=(l.filter fun f=>decide (f.name.length≤14)).map fun f=>⟨3,[102,95]++f.name,[f.val]⟩
theorem mJ(l:List cM)(i:Nat)(h:i<l.length):fV (l.take (i+1))=fV (l.take i)++(if l[i].name.length≤14 then [⟨3,[102,95]++l[i].name,[l[i].val]⟩]else []):=by grind [fV,List.take_succ_eq_append_getElem]
theorem qN(c:aM)(subj:Txt):cE c subj=sY c subj++tc c++fV c.fields:=rfl
theorem FQ(c:aM)(subj:Txt)(hl:c.log.length≤1000000)(hlf:c.fields.length≤1000000):ai prog 96 [cu c,.s subj] h fun r h' =>r=bJ (cE c subj)∧h' =h:=by
 refine aeB func96 77 [.tmp 4] fun hwf=>?_
 simp only[go_sem,cu,nU,gI,tf];intro i1 h1;simp only[go_sem];refine .quiet aeF ?_;simp only[go_sem];refine⟨_,sI _ _,?_⟩;simp only[go_sem,aS,idV];refine⟨_,dX _ _ _ _ _,?_⟩;simp only[go_sem];refine⟨_,sI _ _,?_⟩;simp only[go_sem,aS,idV];refine⟨_,dX _ _ _ _ _,?_⟩;simp only[go_sem];refine⟨_,sI _ _,?_⟩;simp only[go_sem,aS,idV];refine⟨_,dX _ _ _ _ _,?_⟩;simp only[go_sem];refine⟨_,dX _ _ _ _ _,?_⟩;simp only[go_sem];refine⟨_,QO (show RdC _ (.agg [.s c.id,.s c.owner,.s c.state,.sl (c.fields.map bN) .no,.sl (c.log.map iW) .no]) c from rdC _ c) subj aeC,?_⟩
 simp only[go_sem,aS];refine⟨_,dX _ _ _ _ _,?_⟩;simp only[go_sem,aes];have hs1:∀b,Ab.Sub h (upd h i1 b):=fun b=>(Sub.refl h).put h1 b
 have hrow5:GRow [.agg [.i 3,.s [105,100],.sl [.agg [.i 5,.i 0,.s c.id]] .full],.agg [.i 3,.s [111,119,110,101,114],.sl [.agg [.i 5,.i 0,.s c.owner]] .full],.agg [.i 3,.s [115,116,97,116,101],.sl [.agg [.i 5,.i 0,.s c.state]] .full],.agg [.i 3,.s [101,118,101,110,116,115],.sl [.agg [.i 2,.i c.log.length,.s []]] .full],.agg [.i 3,.s [116,111,111,107],.sl [aS (u6 c.log subj)] .full]] (sY c subj):=(GRow.one ⟨3,idT,[idV c.id]⟩ .full).app ((GRow.one ⟨3,[111,119,110,101,114],[idV c.owner]⟩ .full).app ((GRow.one ⟨3,[115,116,97,116,101],[idV c.state]⟩ .full).app ((GRow.one ⟨3,[101,118,101,110,116,115],[⟨2,c.log.length,[]⟩]⟩ .full).app (GRow.one ⟨3,[116,111,111,107],[u6 c.log subj]⟩ .full))));simp only[aS]at hrow5;cases d1:decide ((0:Int)<(c.log.length:Int))
 ·have hl0:c.log= []:=List.length_eq_zero_iff.1 aeD
  simp only[go_sem];simp only[go_sem,aes];refine .intro (fun m ρ H=>∃(i:Nat) (y:AV) (ys:List AV),Acc U 177 h H y ys∧H i1=some (.obj [.s c.id,.s c.owner,.s c.state,.sl (c.fields.map bN) .no,.sl (c.log.map iW) .no] 120)∧GRow ys (sY c subj++fV (c.fields.take i))∧i≤c.fields.length∧m=c.fields.length - i∧lk ρ 5=some y∧lk ρ 2=some (.ptr i1 0)∧lk ρ 55=some (.sl (c.fields.map bN) .no)∧lk ρ 56=some (.i c.fields.length)∧lk ρ 57=some (.i i)) c.fields.length ?_ ?_
  ·refine⟨0,_,_,.full (hs1 _),ah ..,(by have:=hrow5;simpa[fV]using this),aeC,rfl,?_,?_,?_,?_,?_⟩<;>simp only[go_sem]
  ·rintro m ρ H ⟨i,y,ys,hy,g1,hrow,hi,rfl,r5,r2,r55,r56,r57⟩
   simp only[go_sem,r56,r57];refine .intro (fun e=>?_) (fun e=>?_)
   ·have hlt:i<c.fields.length:=aez e
    have w1:IntKind.i64.wrap ((i:Int)+1)=((i+1:Nat):Int):=aeN;simp only[go_sem,r55,r57];refine .at i aeD aeQ ?_;simp only[go_sem,aet,bN];intro i8 h8;have n81:i1≠i8:=fun e=>aeD
    simp only[go_sem];cases d2:decide ((c.fields[i].name.length:Int)≤14)
    ·exact ai7
    ·simp only[go_sem,r5]
     have h14:c.fields[i].name.length≤14:=aeD;refine⟨by grind [Nat,lim],?_⟩
     refine(dX _ _ _ _ _).pthen ?_;simp only[go_sem];refine(hy.sub (.aj h8)).app (zs:=[Ay ⟨3,[102,95]++c.fields[i].name,[c.fields[i].val]⟩ .full]) aeG aeG (fun k hk=>(Rd.sl (fU _ _) .full:Rd _ 3 _ _).src cw hk) (by rw[cw];exact hrow.sized) (by grind [cw,fU]) (by
      have hln:(fV (c.fields.take i)).length≤i:=agI;simp only[go_sem,hrow.1,List.length_cons,List.length_nil,sY];omega) fun y' H' hy' kp=>?_
     exact ajs
   ·have hge:i=c.fields.length:=by grind
    subst hge;rw[List.take_length]at hrow;obtain⟨q,rfl⟩:=hy.row;simp only[go_sem,r5];exact .mk (bJ (cE c subj)) (show Weak (.sl ys q) _ by rw[qN,tc,hl0];simpa using hrow.weak q) hy.1 ⟨rfl,rfl⟩
 ·have hl1:0<c.log.length:=by grind
  simp only[go_sem];have w0:IntKind.i64.wrap ((c.log.length:Int) - 1)=((c.log.length - 1:Nat):Int):=aeN;simp only[go_sem,w0];refine .at (c.log.length - 1) aeD aeQ ?_;simp only[go_sem,aet,iW];rw[if_neg (fun hh=>hh.1)]
  refine(sI _ _).pthen ?_;simp only[go_sem,aS,idV];refine(dX _ _ _ _ _).pthen ?_;simp only[go_sem];have hgl:c.log.getLast? =some c.log[c.log.length - 1]:=aeD;have hlast:GRow [.agg [.i 3,.s [108,97,115,116],.sl [.agg [.i 5,.i 0,.s c.log[c.log.length - 1].actor]] .full]] (tc c):=by
   unfold tc;rw[hgl];exact GRow.one ⟨3,[108,97,115,116],[idV c.log[c.log.length - 1].actor]⟩ .full
  refine .accs (hs1 _) fun y0 H0 hy0 kp0=>?_
  simp only[go_sem,kp0 _ _ _ (ah ..),aes];refine .intro (fun m ρ H=>∃(i:Nat) (y:AV) (ys:List AV),Acc U 177 h H y ys∧H i1=some (.obj [.s c.id,.s c.owner,.s c.state,.sl (c.fields.map bN) .no,.sl (c.log.map iW) .no] 120)∧GRow ys ((sY c subj++tc c)++fV (c.fields.take i))∧i≤c.fields.length∧m=c.fields.length - i∧lk ρ 5=some y∧lk ρ 2=some (.ptr i1 0)∧lk ρ 55=some (.sl (c.fields.map bN) .no)∧lk ρ 56=some (.i c.fields.length)∧lk ρ 57=some (.i i)) c.fields.length ?_ ?_
  ·refine⟨0,_,_,hy0,kp0 _ _ _ (ah ..),(by have:=hrow5.app hlast;simpa[fV]using this),aeC,rfl,?_,?_,?_,?_,?_⟩<;>simp only[go_sem]
  ·rintro m ρ H ⟨i,y,ys,hy,g1,hrow,hi,rfl,r5,r2,r55,r56,r57⟩
   simp only[go_sem,r56,r57];refine .intro (fun e=>?_) (fun e=>?_)
   ·have hlt:i<c.fields.length:=aez e
    have w1:IntKind.i64.wrap ((i:Int)+1)=((i+1:Nat):Int):=aeN;simp only[go_sem,r55,r57];refine .at i aeD aeQ ?_;simp only[go_sem,aet,bN];intro i8 h8;have n81:i1≠i8:=fun e=>aeD
    simp only[go_sem];cases d2:decide ((c.fields[i].name.length:Int)≤14)
    ·exact ai7
    ·simp only[go_sem,r5]
     have h14:c.fields[i].name.length≤14:=aeD;refine⟨by grind [Nat,lim],?_⟩
     refine(dX _ _ _ _ _).pthen ?_;simp only[go_sem];refine(hy.sub (.aj h8)).app (zs:=[Ay ⟨3,[102,95]++c.fields[i].name,[c.fields[i].val]⟩ .full]) aeG aeG (fun k hk=>(Rd.sl (fU _ _) .full:Rd _ 3 _ _).src cw hk) (by rw[cw];exact hrow.sized) (by grind [cw,fU]) (by
      have hln:(fV (c.fields.take i)).length≤i:=agI;simp only[go_sem,hrow.1,List.length_cons,List.length_nil,sY,tc,hgl];omega) fun y' H' hy' kp=>?_
     exact ajs
   ·have hge:i=c.fields.length:=by grind
    subst hge;rw[List.take_length]at hrow;obtain⟨q,rfl⟩:=hy.row;simp only[go_sem,r5];exact .mk (bJ (cE c subj)) (show Weak (.sl ys q) _ by rw[qN];exact hrow.weak q) hy.1 ⟨rfl,rfl⟩
theorem E9{i:Nat}(h:i<l.length)(h1:l[i].subj=subj)(h2:(dw (l.take i) subj).length<16):dw (l.take (i+1)) subj=dw (l.take i) subj++ [idV l[i].role]:=by
 unfold dw at h2⊢;rw[List.take_succ_eq_append_getElem h,List.filter_append,List.map_append]
 grind [List.length_take,idV,List.take_append,List.take_of_length_le]
theorem zV{i:Nat}(h:i<l.length)(h1:l[i].subj≠subj∨¬(dw (l.take i) subj).length<16):dw (l.take (i+1)) subj=dw (l.take i) subj:=by grind [dw,List.take_succ_eq_append_getElem,List.take_append,List.length_take]
theorem Ho(l:List iD)(subj:Txt):(dw l subj).length≤16:=by grind [dw,List.length_take]
def cP(s:an)(o:OpD):List bt:=[⟨1,idT,[idV o.subj]⟩,⟨1,[114,111,108,101],dw s.roles o.subj⟩,⟨2,[110,97,109,101],[idV (iV o.kind)]⟩]
theorem yS(hf:Few s)(id:Txt):(bw s.cases id).log.length≤1000000∧(bw s.cases id).fields.length≤1000000:=by
 cases e:bZ s.cases id
 ·rw[Ds e];decide
 ·rw[Dr e];exact⟨hf.log _ aeJ,hf.fields _ aeJ⟩
theorem Dm(c:aM)(subj:Txt):(cE c subj).length≤6+c.fields.length:=by grind [qN,aew,tc,fV,aes,List.length_filter_le,sY]
theorem jS{i:Nat}(hs:Ab.Sub h G)(hi:G i=none):h i=none:=hs.none hi
theorem C3:(U 48).sz=3:=aeR
theorem Ss(hb:RdS h x s)(o:OpD)(hf:Few s)(hk:i64 o.kind):ai prog 43 [x,opA o] h fun r h' =>r=bJ (fQ s o)∧h' =h:=by
 have hca:=fun(G:Heap) (hG:Ab.Sub h G)=>Co (hb.sub hG) o.case hf
 obtain⟨y1,y2,y3,y4,rfl,⟨xs,hc,hn,hcs⟩,h2,h3,h4⟩:=hb;cases hpp:s.policy with
 |mk pid pset palg ptgt prules pkids pobls=>
 have hcC:gq (.mk pid pset palg ptgt prules pkids pobls)= [.s pid,.b pset,.i palg,aV ptgt,.sl (prules.map aC) .no,.sl (pkids.map aO) .no,ay pobls]:=ahF;rw[hpp,hcC]at hca;simp only[List.cons_append,List.nil_append]at hca;have hfr:=hf.roles;refine aeB func43 99 [.tmp 4] fun hwf=>?_
 simp only[go_sem,hcC,opA,opC,List.cons_append,List.nil_append];intro i1 h1;simp only[go_sem];intro i2 h2';have n21:=aI h2';have n2:=aB h2';simp only[go_sem,ak,n21.symm,h4.len,aes];obtain⟨H,eH⟩:∃H,upd (upd h i1 (some (.obj [.i s.tick,y1,y2,y3,y4,.s pid,.b pset,.i palg,aV ptgt,.sl (prules.map aC) .no,.sl (pkids.map aO) .no,ay pobls,.i s.version] 41))) i2 (some (.obj (opC o) 50))=H:=⟨_,rfl⟩;have hH:Ab.Sub h H:=afC;have g1:H i1=some (.obj [.i s.tick,y1,y2,y3,y4,.s pid,.b pset,.i palg,aV ptgt,.sl (prules.map aC) .no,.sl (pkids.map aO) .no,ay pobls,.i s.version] 41):=age;have g2:H i2=some (.obj (opC o) 50):=af5;simp only[opC]at eH g2;rw[eH];clear eH;refine .intro (fun m ρ G=>∃(i:Nat) (y:AV),Acc U 48 H G y ((dw (s.roles.take i) o.subj).map aS)∧i≤s.roles.length∧m=s.roles.length - i∧lk ρ 5=some y∧lk ρ 2=some (.ptr i1 0)∧lk ρ 3=some (.ptr i2 0)∧lk ρ 12=some y4∧lk ρ 13=some (.i s.roles.length)∧lk ρ 14=some (.i i)) s.roles.length ?_ ?_
 ·refine⟨0,_,.full (.refl _),aeC,rfl,?_,?_,?_,?_,?_,?_⟩<;>simp only[go_sem,dw,List.take_zero,List.filter_nil,List.map_nil]
 ·rintro m ρ G ⟨i,y,hy,hi,rfl,r5,r2,r3,r12,r13,r14⟩
  have k1:=hy.1 _ _ g1;have k2:=hy.1 _ _ g2;simp only[go_sem,r13,r14];refine .intro (fun e=>?_) (fun e=>?_)
  ·have hlt:i<s.roles.length:=aez e
   have w1:=aey i aeC;simp only[go_sem,r12,r14];refine(h4.sub (hH.trans hy.1)).idx (e:=140) i rfl aeX Jg aeG fun p hp1=>?_
   have hld:=hp1.all (U:=U) (ty:=140) aeM (by rw[Jg,aet];rfl) afh
   simp only[go_sem,hld,aet,eW];intro i7 h7;have n71:i1≠i7:=fun e=>by rw[←e,k1]at h7;cases h7
   have n72:i2≠i7:=fun e=>by rw[←e,k2]at h7;cases h7
   simp only[go_sem,ak,n72,k2,r3];have hy7:=hy.sub (.aj h7 (k:=some (.obj [.s s.roles[i].subj,.s s.roles[i].role] 140)));have lr:=Ho (s.roles.take i) o.subj;cases d1:(s.roles[i].subj==o.subj)
   ·have p1:s.roles[i].subj≠o.subj:=by simpa using d1
    simp only[go_sem,r14,w1];refine⟨_,?_,i+1,y,by rw[zV hlt (.inl p1)];exact hy7,aeC,rfl,?_,?_,?_,?_,?_,?_⟩
    ·omega
    all_goals simp only[go_sem,r5,r2,r3,r12,r13]
   ·have p1:s.roles[i].subj=o.subj:=by simpa using d1
    simp only[go_sem,r5,hy.len,aes];cases d2:decide (((dw (s.roles.take i) o.subj).length:Int)<16)
    ·have p2:¬(dw (s.roles.take i) o.subj).length<16:=by have:=aev d2;omega
     simp only[go_sem,r14,w1];refine⟨_,?_,i+1,y,by rw[zV hlt (.inr p2)];exact hy7,aeC,rfl,?_,?_,?_,?_,?_,?_⟩
     ·omega
     all_goals simp only[go_sem,r5,r2,r3,r12,r13]
    ·have p2:(dw (s.roles.take i) o.subj).length<16:=by have:=aeu d2;omega
     simp only[go_sem,r5];refine(sI _ _).pthen ?_;simp only[go_sem,aS,idV];refine hy7.app (zs:=[aS (idV s.roles[i].role)]) (by rw[C3];decide) aeH (fun k hk=>(Rd.sl (fun z hz=>ahv) .full:Rd _ 3 _ _).src C3 hk) (by rw[C3];exact bx (f:=aS) (fun _=>rfl) _) (by rw[C3];exact bx (f:=aS) (fun _=>rfl) [idV s.roles[i].role]) afS fun y' H' hy' kp=>?_
     simp only[go_sem,r14,w1];refine⟨_,?_,i+1,y',by rw[E9 hlt p1 p2,List.map_append];exact hy',aeC,rfl,?_,?_,?_,?_,?_,?_⟩
     ·omega
     all_goals simp only[go_sem,r2,r3,r12,r13]
  ·have hge:i=s.roles.length:=by have:=aev e;omega
   subst hge;rw[List.take_length]at hy;simp only[go_sem];obtain⟨q5,rfl⟩:=hy.row;refine .quiet aeF ?_;simp only[go_sem,k2,r3];refine⟨_,sI _ _,?_⟩;simp only[go_sem,aS,idV];refine⟨_,dX _ _ _ _ _,?_⟩;simp only[go_sem,r5];refine⟨_,dX _ _ _ _ _,?_⟩;simp only[go_sem,k2,r3];refine⟨_,vi _ hk _,?_⟩;simp only[go_sem];refine⟨_,sI _ _,?_⟩;simp only[go_sem,aS,idV];refine⟨_,dX _ _ _ _ _,?_⟩;simp only[go_sem,k2,r3];have hak:=fun(G:Heap)=>FQ (h:=G) (bw s.cases o.case) o.subj (yS hf o.case).1 (yS hf o.case).2
   simp only[cu,nU,gI,tf]at hak;have hakl:=Dm (bw s.cases o.case) o.subj;have hakf:=(yS hf o.case).2;have hr0:GRow [.agg [.i 1,.s [105,100],.sl [.agg [.i 5,.i 0,.s o.subj]] .full],.agg [.i 1,.s [114,111,108,101],.sl ((dw s.roles o.subj).map aS) q5],.agg [.i 2,.s [110,97,109,101],.sl [.agg [.i 5,.i 0,.s (iV o.kind)]] .full]] (cP s o):=(GRow.one ⟨1,idT,[idV o.subj]⟩ .full).app ((GRow.one ⟨1,[114,111,108,101],dw s.roles o.subj⟩ q5).app (GRow.one ⟨2,[110,97,109,101],[idV (iV o.kind)]⟩ .full))
   by_cases pf:o.field= []
   ·have df:(o.field==([]:Txt))=true:=by simp[pf]
    simp only[go_sem,k2,r3,df]
    by_cases pt:o.to= []
    ·have dt:(o.to==([]:Txt))=true:=by simp[pt]
     simp only[go_sem,k1,r2,dt];refine(dX _ _ _ _ _).pthen ?_;simp only[go_sem];refine .accs hy.1 fun y1 G1 hy1 kp1=>?_
     have k1_1:=kp1 _ _ _ k1;have k2_1:=kp1 _ _ _ k2;have hr1:=hr0.app (GRow.one (⟨4,[110,111,119],[⟨4,s.tick,[]⟩]⟩:bt) .full);simp only[go_sem,k1_1,k2_1,r2,r3];refine(hca _ (hH.trans hy1.1)).pthen ?_;simp only[go_sem,cu,nU,gI,tf];intro i20 h20;have n21:i1≠i20:=fun e=>by rw[←e,k1_1]at h20;cases h20
     have n22:i2≠i20:=fun e=>by rw[←e,k2_1]at h20;cases h20
     simp only[go_sem];obtain⟨q2,eq2⟩:=hy1.row;cases dth:bZ s.cases o.case
     ·simp only[go_sem]
      exact .mk (bJ (fQ s o)) (show Weak y1 _ by rw[eq2,show fQ s o=(cP s o++ [(⟨4,[110,111,119],[⟨4,s.tick,[]⟩]⟩:bt)]) by simp[fQ,cP,dth,pf,pt]];exact hr1.weak q2) ((hH.trans hy1.1).put (jS (hH.trans hy1.1) h20) _) ⟨rfl,rfl⟩
     ·simp only[go_sem,ak,n22,k2_1,r3]
      by_cases p6:o.kind=6
      ·have d6:(o.kind !=6)=false:=by simp[p6]
       simp only[go_sem,d6];exact .mk (bJ (fQ s o)) (show Weak y1 _ by rw[eq2,show fQ s o=(cP s o++ [(⟨4,[110,111,119],[⟨4,s.tick,[]⟩]⟩:bt)]) by simp[fQ,cP,dth,p6,pf,pt]];exact hr1.weak q2) ((hH.trans hy1.1).put (jS (hH.trans hy1.1) h20) _) ⟨rfl,rfl⟩
      ·have d6:(o.kind !=6)=true:=by simp[p6]
       simp only[go_sem,ak,n22,k2_1,r3,d6];refine(hak _).pthen ?_;simp only[go_sem,bJ];refine(hy1.sub (.aj h20)).app (zs:=(cE (bw s.cases o.case) o.subj).map lO) agU aeH (fun k hk=>(eE lO 3 (fun _=>rfl) _ _).src cw hk) (by rw[cw];exact hr1.sized) agi afx fun yz Gz hyz kpz=>?_
       simp only[go_sem];obtain⟨qz,eqz⟩:=hyz.row;exact .mk (bJ (fQ s o)) (show Weak yz _ by rw[eqz,show fQ s o=(cP s o++ [(⟨4,[110,111,119],[⟨4,s.tick,[]⟩]⟩:bt)])++cE (bw s.cases o.case) o.subj by simp[fQ,cP,dth,p6,pf,pt]];exact(hr1.app (GRow.givs _)).weak qz) (hH.trans hyz.1) ⟨rfl,rfl⟩
    ·have dt:(o.to==([]:Txt))=false:=by simp[pt]
     simp only[go_sem,k2,r3,dt];refine(sI _ _).pthen ?_;simp only[go_sem,aS,idV];refine(dX _ _ _ _ _).pthen ?_;simp only[go_sem];refine .accs hy.1 fun y3 G3 hy3 kp3=>?_
     have k1_3:=kp3 _ _ _ k1;have k2_3:=kp3 _ _ _ k2;have hr3:=hr0.app (GRow.one (⟨2,[116,111],[idV o.to]⟩:bt) .full);simp only[go_sem,k1_3,r2];refine(dX _ _ _ _ _).pthen ?_;simp only[go_sem];refine hy3.app (zs:=[Ay (⟨4,[110,111,119],[⟨4,s.tick,[]⟩]⟩) .full]) agU aeH (fun k hk=>(Rd.sl (fU _ _) .full:Rd _ 3 _ _).src cw hk) (by rw[cw];exact hr3.sized) ah3 afE fun y4 G4 hy4 kp4=>?_
     have k1_4:=kp4 _ _ _ k1_3;have k2_4:=kp4 _ _ _ k2_3;have hr4:=hr3.app (GRow.one (⟨4,[110,111,119],[⟨4,s.tick,[]⟩]⟩:bt) .full);simp only[go_sem,k1_4,k2_4,r2,r3];refine(hca _ (hH.trans hy4.1)).pthen ?_;simp only[go_sem,cu,nU,gI,tf];intro i50 h50;have n51:i1≠i50:=fun e=>by rw[←e,k1_4]at h50;cases h50
     have n52:i2≠i50:=fun e=>by rw[←e,k2_4]at h50;cases h50
     simp only[go_sem];obtain⟨q5,eq5⟩:=hy4.row;cases dth:bZ s.cases o.case
     ·simp only[go_sem]
      exact .mk (bJ (fQ s o)) (show Weak y4 _ by rw[eq5,show fQ s o=((cP s o++ [(⟨2,[116,111],[idV o.to]⟩:bt)])++ [(⟨4,[110,111,119],[⟨4,s.tick,[]⟩]⟩:bt)]) by simp[fQ,cP,dth,pf,pt]];exact hr4.weak q5) ((hH.trans hy4.1).put (jS (hH.trans hy4.1) h50) _) ⟨rfl,rfl⟩
     ·simp only[go_sem,ak,n52,k2_4,r3]
      by_cases p6:o.kind=6
      ·have d6:(o.kind !=6)=false:=by simp[p6]
       simp only[go_sem,d6];exact .mk (bJ (fQ s o)) (show Weak y4 _ by rw[eq5,show fQ s o=((cP s o++ [(⟨2,[116,111],[idV o.to]⟩:bt)])++ [(⟨4,[110,111,119],[⟨4,s.tick,[]⟩]⟩:bt)]) by simp[fQ,cP,dth,p6,pf,pt]];exact hr4.weak q5) ((hH.trans hy4.1).put (jS (hH.trans hy4.1) h50) _) ⟨rfl,rfl⟩
      ·have d6:(o.kind !=6)=true:=by simp[p6]
       simp only[go_sem,ak,n52,k2_4,r3,d6];refine(hak _).pthen ?_;simp only[go_sem,bJ];refine(hy4.sub (.aj h50)).app (zs:=(cE (bw s.cases o.case) o.subj).map lO) agU aeH (fun k hk=>(eE lO 3 (fun _=>rfl) _ _).src cw hk) (by rw[cw];exact hr4.sized) agi afx fun yz Gz hyz kpz=>?_
       simp only[go_sem];obtain⟨qz,eqz⟩:=hyz.row;exact .mk (bJ (fQ s o)) (show Weak yz _ by rw[eqz,show fQ s o=((cP s o++ [(⟨2,[116,111],[idV o.to]⟩:bt)])++ [(⟨4,[110,111,119],[⟨4,s.tick,[]⟩]⟩:bt)])++cE (bw s.cases o.case) o.subj by simp[fQ,cP,dth,p6,pf,pt]];exact(hr4.app (GRow.givs _)).weak qz) (hH.trans hyz.1) ⟨rfl,rfl⟩
   ·have df:(o.field==([]:Txt))=false:=by simp[pf]
    simp only[go_sem,k2,r3,df];refine(sI _ _).pthen ?_;simp only[go_sem,aS,idV];refine(dX _ _ _ _ _).pthen ?_;simp only[go_sem];refine .accs hy.1 fun y6 G6 hy6 kp6=>?_
    have k1_6:=kp6 _ _ _ k1;have k2_6:=kp6 _ _ _ k2;have hr6:=hr0.app (GRow.one (⟨2,[102,105,101,108,100],[idV o.field]⟩:bt) .full);simp only[go_sem,k2_6,r3]
    by_cases pt:o.to= []
    ·have dt:(o.to==([]:Txt))=true:=by simp[pt]
     simp only[go_sem,k1_6,r2,dt];refine(dX _ _ _ _ _).pthen ?_;simp only[go_sem];refine hy6.app (zs:=[Ay (⟨4,[110,111,119],[⟨4,s.tick,[]⟩]⟩) .full]) agU aeH (fun k hk=>(Rd.sl (fU _ _) .full:Rd _ 3 _ _).src cw hk) (by rw[cw];exact hr6.sized) ah3 afE fun y7 G7 hy7 kp7=>?_
     have k1_7:=kp7 _ _ _ k1_6;have k2_7:=kp7 _ _ _ k2_6;have hr7:=hr6.app (GRow.one (⟨4,[110,111,119],[⟨4,s.tick,[]⟩]⟩:bt) .full);simp only[go_sem,k1_7,k2_7,r2,r3];refine(hca _ (hH.trans hy7.1)).pthen ?_;simp only[go_sem,cu,nU,gI,tf];intro i80 h80;have n81:i1≠i80:=fun e=>by rw[←e,k1_7]at h80;cases h80
     have n82:i2≠i80:=fun e=>by rw[←e,k2_7]at h80;cases h80
     simp only[go_sem];obtain⟨q8,eq8⟩:=hy7.row;cases dth:bZ s.cases o.case
     ·simp only[go_sem]
      exact .mk (bJ (fQ s o)) (show Weak y7 _ by rw[eq8,show fQ s o=((cP s o++ [(⟨2,[102,105,101,108,100],[idV o.field]⟩:bt)])++ [(⟨4,[110,111,119],[⟨4,s.tick,[]⟩]⟩:bt)]) by simp[fQ,cP,dth,pf,pt]];exact hr7.weak q8) ((hH.trans hy7.1).put (jS (hH.trans hy7.1) h80) _) ⟨rfl,rfl⟩
     ·simp only[go_sem,ak,n82,k2_7,r3]
      by_cases p6:o.kind=6
      ·have d6:(o.kind !=6)=false:=by simp[p6]
       simp only[go_sem,d6];exact .mk (bJ (fQ s o)) (show Weak y7 _ by rw[eq8,show fQ s o=((cP s o++ [(⟨2,[102,105,101,108,100],[idV o.field]⟩:bt)])++ [(⟨4,[110,111,119],[⟨4,s.tick,[]⟩]⟩:bt)]) by simp[fQ,cP,dth,p6,pf,pt]];exact hr7.weak q8) ((hH.trans hy7.1).put (jS (hH.trans hy7.1) h80) _) ⟨rfl,rfl⟩
      ·have d6:(o.kind !=6)=true:=by simp[p6]
       simp only[go_sem,ak,n82,k2_7,r3,d6];refine(hak _).pthen ?_;simp only[go_sem,bJ];refine(hy7.sub (.aj h80)).app (zs:=(cE (bw s.cases o.case) o.subj).map lO) agU aeH (fun k hk=>(eE lO 3 (fun _=>rfl) _ _).src cw hk) (by rw[cw];exact hr7.sized) agi afx fun yz Gz hyz kpz=>?_
       simp only[go_sem];obtain⟨qz,eqz⟩:=hyz.row;exact .mk (bJ (fQ s o)) (show Weak yz _ by rw[eqz,show fQ s o=((cP s o++ [(⟨2,[102,105,101,108,100],[idV o.field]⟩:bt)])++ [(⟨4,[110,111,119],[⟨4,s.tick,[]⟩]⟩:bt)])++cE (bw s.cases o.case) o.subj by simp[fQ,cP,dth,p6,pf,pt]];exact(hr7.app (GRow.givs _)).weak qz) (hH.trans hyz.1) ⟨rfl,rfl⟩
    ·have dt:(o.to==([]:Txt))=false:=by simp[pt]
     simp only[go_sem,k2_6,r3,dt];refine(sI _ _).pthen ?_;simp only[go_sem,aS,idV];refine(dX _ _ _ _ _).pthen ?_;simp only[go_sem];refine hy6.app (zs:=[Ay (⟨2,[116,111],[idV o.to]⟩) .full]) agU aeH (fun k hk=>(Rd.sl (fU _ _) .full:Rd _ 3 _ _).src cw hk) (by rw[cw];exact hr6.sized) ah3 afE fun y9 G9 hy9 kp9=>?_
     have k1_9:=kp9 _ _ _ k1_6;have k2_9:=kp9 _ _ _ k2_6;have hr9:=hr6.app (GRow.one (⟨2,[116,111],[idV o.to]⟩:bt) .full);simp only[go_sem,k1_9,r2];refine(dX _ _ _ _ _).pthen ?_;simp only[go_sem];refine hy9.app (zs:=[Ay (⟨4,[110,111,119],[⟨4,s.tick,[]⟩]⟩) .full]) agU aeH (fun k hk=>(Rd.sl (fU _ _) .full:Rd _ 3 _ _).src cw hk) (by rw[cw];exact hr9.sized) ah3 afE fun y10 G10 hy10 kp10=>?_
     have k1_10:=kp10 _ _ _ k1_9;have k2_10:=kp10 _ _ _ k2_9;have hr10:=hr9.app (GRow.one (⟨4,[110,111,119],[⟨4,s.tick,[]⟩]⟩:bt) .full);simp only[go_sem,k1_10,k2_10,r2,r3];refine(hca _ (hH.trans hy10.1)).pthen ?_;simp only[go_sem,cu,nU,gI,tf];intro i110 h110;have n111:i1≠i110:=fun e=>by rw[←e,k1_10]at h110;cases h110
     have n112:i2≠i110:=fun e=>by rw[←e,k2_10]at h110;cases h110
     simp only[go_sem];obtain⟨q11,eq11⟩:=hy10.row;cases dth:bZ s.cases o.case
     ·simp only[go_sem]
      exact .mk (bJ (fQ s o)) (show Weak y10 _ by rw[eq11,show fQ s o=(((cP s o++ [(⟨2,[102,105,101,108,100],[idV o.field]⟩:bt)])++ [(⟨2,[116,111],[idV o.to]⟩:bt)])++ [(⟨4,[110,111,119],[⟨4,s.tick,[]⟩]⟩:bt)]) by simp[fQ,cP,dth,pf,pt]];exact hr10.weak q11) ((hH.trans hy10.1).put (jS (hH.trans hy10.1) h110) _) ⟨rfl,rfl⟩
     ·simp only[go_sem,ak,n112,k2_10,r3]
      by_cases p6:o.kind=6
      ·have d6:(o.kind !=6)=false:=by simp[p6]
       simp only[go_sem,d6];exact .mk (bJ (fQ s o)) (show Weak y10 _ by rw[eq11,show fQ s o=(((cP s o++ [(⟨2,[102,105,101,108,100],[idV o.field]⟩:bt)])++ [(⟨2,[116,111],[idV o.to]⟩:bt)])++ [(⟨4,[110,111,119],[⟨4,s.tick,[]⟩]⟩:bt)]) by simp[fQ,cP,dth,p6,pf,pt]];exact hr10.weak q11) ((hH.trans hy10.1).put (jS (hH.trans hy10.1) h110) _) ⟨rfl,rfl⟩
      ·have d6:(o.kind !=6)=true:=by simp[p6]
       simp only[go_sem,ak,n112,k2_10,r3,d6];refine(hak _).pthen ?_;simp only[go_sem,bJ];refine(hy10.sub (.aj h110)).app (zs:=(cE (bw s.cases o.case) o.subj).map lO) agU aeH (fun k hk=>(eE lO 3 (fun _=>rfl) _ _).src cw hk) (by rw[cw];exact hr10.sized) agi afx fun yz Gz hyz kpz=>?_
       simp only[go_sem];obtain⟨qz,eqz⟩:=hyz.row;exact .mk (bJ (fQ s o)) (show Weak yz _ by rw[eqz,show fQ s o=(((cP s o++ [(⟨2,[102,105,101,108,100],[idV o.field]⟩:bt)])++ [(⟨2,[116,111],[idV o.to]⟩:bt)])++ [(⟨4,[110,111,119],[⟨4,s.tick,[]⟩]⟩:bt)])++cE (bw s.cases o.case) o.subj by simp[fQ,cP,dth,p6,pf,pt]];exact(hr10.app (GRow.givs _)).weak qz) (hH.trans hyz.1) ⟨rfl,rfl⟩
end Go.Proofs.YtelkmnkejghkeaaGreatDoor
namespace Go.Bf
open Go Go.Ab
def Pz(a b:bP):Bool:=a.attr.cat==b.attr.cat && (a.attr.name==b.attr.name && (a.attr.must==b.attr.must && (a.op==b.op && (a.val.kind==b.val.kind && (a.val.n==b.val.n && a.val.s==b.val.s)))))
def SX(a b:aR):Bool:=a.op==b.op && (a.val.kind==b.val.kind && (a.val.n==b.val.n && (a.val.s==b.val.s && (a.attr.cat==b.attr.cat && (a.attr.name==b.attr.name && a.attr.must==b.attr.must)))))
def ua(a b:cB):Bool:=a.on==b.on && (a.kind==b.kind && a.arg==b.arg)
def eqL{α:Type}(f:α→α→Bool):List α→List α→Bool
 | [],[]=>true
 |x::a,y::b=>f x y && eqL f a b
 |_,_=>false
theorem yP{α:Type}{f:α→α→Bool}:∀ {a b:List α},a.length=b.length→(∀j (h1:j<a.length) (h2:j<b.length),f a[j] b[j]=true)→eqL f a b=true
 | [],[],_,_=>rfl
 |x::a,y::b,hl,h=>by
  simp only[eqL,Bool.and_eq_true];exact⟨h 0 aeJ aeJ,yP aeD fun j h1 h2=>h (j+1) aeD aeD⟩
theorem Ii{α:Type}{f:α→α→Bool}:∀ {a b:List α},a.length≠b.length→eqL f a b=false
 | [],[],h=>aeC
 | [],_::_,_=>rfl
 |_::_,[],_=>rfl
 |x::a,y::b,h=>by
  simp only[eqL];rw[Ii aeD,Bool.and_false]
theorem MC{α:Type}{f:α→α→Bool}:∀ {a b:List α} (j:Nat) (h1:j<a.length) (h2:j<b.length),f a[j] b[j]=false→eqL f a b=false
 |x::a,y::b,0,_,_,h=>by grind [eqL]
 |x::a,y::b,j+1,h1,h2,h=>by
  simp only[eqL];rw[MC j aeD aeD aeD,Bool.and_false]
end Go.Bf
namespace Go.Proofs.YtelkmnkejghkeaaGreatDoor
open Go Go.Ab Go.Bf Tryz
theorem Hq(a b:List cB)(h:Heap):ai prog 64 [ay a,ay b] h fun r h' =>r= .b (eqL ua a b)∧h' =h:=by
 refine aeB func64 26 [.tmp 4] fun hwf=>?_
 cases d1:((a.length:Int) !=(b.length:Int))
 case true=>
  have e1:a.length≠b.length:=by
   grind
  simp only[go_sem,ay,aes,d1];exact .same (.refl _) ⟨by rw[Ii e1];rfl,rfl⟩
 have e1:a.length=b.length:=aeD;simp only[go_sem,ay,aes,d1];refine .intro (fun m ρ h' =>Ab.Sub h h'∧∃i:Nat,i≤a.length∧m=a.length - i∧(∀j (h1:j<a.length) (h2:j<b.length),j<i→ua a[j] b[j]=true)∧lk ρ 0=some (.sl (a.map bl) .no)∧lk ρ 1=some (.sl (b.map bl) .no)∧lk ρ 5=some (.i i)) a.length ?_ ?_
 ·refine⟨.refl _,0,aeC,rfl,fun j _ _ hj=>aeC,?_,?_,?_⟩<;>simp only[go_sem]
 ·rintro m ρ h' ⟨hs,i,hi,rfl,hc,r0,r1,r5⟩
  simp only[go_sem,r0,r5,aes];refine .intro (fun e=>?_) (fun e=>?_)
  ·have hlt:i<a.length:=aez e
   have hlt2:i<b.length:=aeC;have w1:IntKind.i64.wrap ((i:Int)+1)=((i+1:Nat):Int):=by
    have:=hwf (ay a) aeJ;simp only[ay,wfA,wf1,lim,aes]at this;rw[aW _ aeC];omega
   simp only[go_sem,r0,r5];refine⟨.of aeF,?_⟩;refine .at i aeD aeQ ?_;simp only[go_sem,r1,r5,aet,bl];refine .at i aeD aeQ ?_;simp only[go_sem,aet,bl];cases d3:ua a[i] b[i]
   ·have d4:=d3
    simp only[ua]at d4;simp only[go_sem,d4];exact .mk _ (.refl _) hs ⟨by rw[MC i hlt hlt2 d3];rfl,rfl⟩
   ·have d4:=d3
    simp only[ua]at d4;simp only[go_sem,r5,d4,w1];refine⟨_,?_,hs,i+1,aeC,rfl,fun j h1 h2 hj=>?_,?_,?_,?_⟩
    ·omega
    ·grind
    all_goals simp only[go_sem,r0,r1]
  ·have hge:i=a.length:=by grind
   subst hge;simp only[go_sem];exact .mk _ (.refl _) hs ⟨by rw[yP e1 fun j h1 h2=>hc j h1 h2 h1];rfl,rfl⟩
end Go.Proofs.YtelkmnkejghkeaaGreatDoor
namespace Go.Bf
open Go Go.Ab
theorem any_succ{α:Type}{q:α→Bool}{l:List α}{i:Nat}(h:i<l.length):(l.take (i+1)).any q=((l.take i).any q||q l[i]):=by grind [List.take_succ_eq_append_getElem]
end Go.Bf
namespace Go.Bf
def Yu:Txt:=[97,110,110]
end Go.Bf
namespace Go.Proofs.YtelkmnkejghkeaaGreatDoor
open Go Go.Ab Go.Bf Tryz
def TH(ev:Value):Heap:=vW [(3,rG),(2,[ev])]
theorem BV{ev:Value}(hev:ev= .nilIface∨∃te pe,ev= .iface te pe):iB (TH ev):=⟨ev,hev,1,rfl⟩
end Go.Proofs.YtelkmnkejghkeaaGreatDoor
namespace Go.Bf
open Go Go.Ab
def qq(m:Int)(b:Nat):Nat:=(if m.tmod (b+1)<0 then m.tmod (b+1)+(b+1)else m.tmod (b+1)).toNat
theorem Am(m:Int)(b:Nat):qq m b≤b:=by
 have t1:=Int.tmod_lt_of_pos m (show(0:Int)<b+1 by omega)
 unfold qq;split<;>omega
end Go.Bf
namespace Go.Proofs.YtelkmnkejghkeaaGreatDoor
open Go Go.Ab Go.Bf Tryz
theorem B5(m:Int)(b:Nat)(h:Heap)(hm' : -9223372036854775808≤m∧m≤9223372036854775807)(hb:b≤1099511627776):
  ai prog 8 [.i m,.i 0,.i b] h fun r h' =>r= .i (qq m b)∧h' =h:=by
 have w0:IntKind.i64.wrap ((b:Int) - 0)=b:=IntWalk.i64_in _ aeC;have w1:IntKind.i64.wrap (b:Int)=b:=IntWalk.i64_in _ aeC;have w2:IntKind.i64.wrap ((b:Int)+1)=(b:Int)+1:=IntWalk.i64_in _ aeC;have t1:=Int.tmod_lt_of_pos m (show 0<(b:Int)+1 by omega)
 have t2:=Int.lt_tmod_of_pos m (show 0<(b:Int)+1 by omega)
 have hd:(qq m b:Int)=if m.tmod (b+1)<0 then m.tmod (b+1)+(b+1)else m.tmod (b+1):=by
  grind [qq]
 generalize hq:m.tmod ((b:Int)+1)=q at t1 t2 hd;have w3:IntKind.i64.wrap (q+b)=q+b:=IntWalk.i64_in _ aeC;have w4:IntKind.i64.wrap (q+b - 0)=q+b:=aeD;have w5:IntKind.i64.wrap (q+b+1)=q+b+1:=IntWalk.i64_in _ aeC;refine aeB func8 24 [.tmp 6] fun hwf=>?_
 simp only[go_sem,w1,w2,hq,Int.sub_zero];refine⟨aeC,.intro (fun e=>?_) (fun e=>?_)⟩
 ·have e:=aeu e
  rw[if_pos e]at hd;simp only[go_sem,w3,w5,Int.sub_zero];have w6:IntKind.i64.wrap (0+(q+b+1))=q+b+1:=aeD;have w7:IntKind.i64.wrap (q+b+1)=q+b+1:=IntWalk.i64_in _ aeC;simp only[go_sem,w7,Int.zero_add];exact .same (.refl _) ⟨by grind [ax,Int.add_assoc],rfl⟩
 ·have e:=aev e
  rw[if_neg e]at hd;have w7:IntKind.i64.wrap q=q:=IntWalk.i64_in q aeC;have w6:IntKind.i64.wrap (0+q)=q:=aeD;simp only[go_sem,w7,Int.zero_add];exact .same (.refl _) ⟨by rw[hd];rfl,rfl⟩
end Go.Proofs.YtelkmnkejghkeaaGreatDoor
