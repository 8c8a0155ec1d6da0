/- The law EngineKeeps: pack 5 of its texts. -/
import Derived.WalkKit
import Derived.Lib.Walk
import Derived.Lib.SliceRun
import Derived.Lib.AppendZerosOnto
import Derived.Test.YtokahfmoollblaaGreatDoorPk1
import Derived.Test.YtokahfmoollblaaGreatDoorPk2
import Derived.Test.YtokahfmoollblaaGreatDoorPk3
import Derived.Test.YtokahfmoollblaaGreatDoorPk4
set_option linter.unusedSimpArgs false
set_option linter.unusedVariables false
set_option maxRecDepth 100000
namespace Go.Bf
open Go Go.Ab
def mkC(who id:Txt):aK:=⟨id,who,jQ,[],[⟨0,who,[110,101,119]⟩]⟩
def Yj(cs:List aK)(id:Txt):Bool:=cs.any fun c=>c.id==id
end Go.Bf
namespace Go.Ab
open Go
section
variable {α : Type}
def dget(l:List (List UInt8×α))(k:List UInt8):Option α:=(l.find? fun p=>p.1==k).map (·.2)
def dset(l:List (List UInt8×α))(k:List UInt8)(v:α):List (List UInt8×α):=if(dget l k).isSome then l.map (fun p=>if p.1==k then(p.1,v)else p)else l++ [(k,v)]
end
end Go.Ab
namespace Go.Bf
open Go Go.Ab Go.Proofs.YtokahfmoollblaaGreatDoor
structure Own (cs:List aK) (own:List (Txt×Txt)):Prop where
 asc:Asc cs
 len:cs.length=own.length
 small:cs.length≤64
 mem:∀c∈cs,c=mkC c.owner c.id∧dget own c.id=some c.owner
 has:∀id,Yj cs id=(dget own id).isSome
 who:∀id w,dget own id=some w→w≠ []
 keys:∀p∈own,p.1.length≤3
theorem qT:∀ {cs:List aK},Asc cs→∀ {id:Txt},cj cs id=true→bx cs id∈cs∧(bx cs id).id=id:=by
 unfold bx
 grind [cj,List.getElem?_eq_getElem]
end Go.Bf
namespace Go.Proofs.YtokahfmoollblaaGreatDoor
open Go Go.Ab Go.Bf Tryz
theorem Ks(rs:List gG):eqL mG rs rs=true:=cU rfl fun j h1 h2=>by simp[mG]
def kW(o:OpD):Prop:=i64 o.kind∧i64 o.val.kind∧i64 o.val.n∧i64 o.review
theorem LQ{x:AV}(h:Dat U 44 x):∃v,x=aV v∧i64 v.kind∧i64 v.n:=by
 obtain⟨ys,rfl,hys⟩:=h.BQ (show(U 44).k= .strct [(0,3),(1,3),(2,9)] by rfl)
 obtain⟨y0,_,rfl,d0,y1,_,rfl,d1,y2,_,rfl,d2,rfl⟩:=hys;obtain⟨n,rfl,hn⟩:=d0.i64 aei;obtain⟨m,rfl,hm⟩:=d1.i64 aei;obtain⟨s,rfl,_⟩:=d2.qs aei;exact⟨⟨n,m,s⟩,aei,hn,hm⟩
theorem LP{x:AV}(h:Dat U 46 x):∃o,x=opA o∧kW o:=by
 obtain⟨ys,rfl,hys⟩:=h.BQ (show(U 46).k= .strct [(0,3),(1,9),(2,9),(3,9),(4,9),(5,44),(8,3),(9,9),(10,9),(11,4)] by rfl)
 obtain⟨y0,_,rfl,d0,y1,_,rfl,d1,y2,_,rfl,d2,y3,_,rfl,d3,y4,_,rfl,d4,y5,_,rfl,d5,y6,_,rfl,d6,y7,_,rfl,d7,y8,_,rfl,d8,y9,_,rfl,d9,rfl⟩:=hys;obtain⟨a,rfl,ha⟩:=d0.i64 aei;obtain⟨b,rfl,_⟩:=d1.qs aei;obtain⟨c,rfl,_⟩:=d2.qs aei;obtain⟨d,rfl,_⟩:=d3.qs aei;obtain⟨e,rfl,_⟩:=d4.qs aei;obtain⟨v,rfl,hv1,hv2⟩:=LQ d5;obtain⟨r,rfl,hr⟩:=d6.i64 aei;obtain⟨t,rfl,_⟩:=d7.qs aei;obtain⟨s,rfl,_⟩:=d8.qs aei;obtain⟨g,rfl⟩:=d9.LA aei;exact⟨⟨a,b,c,d,e,v,r,t,s,g⟩,aei,ha,hv1,hv2,hr⟩
theorem SN{o:OpD}(h:kW o):kW (vG o):=h
theorem inH{P:Program}{f:FuncId}{args:List AV}{h:Heap}{Q:AV→Heap→Prop}(hh:∀H2,H2=h→ai P f args H2 Q):ai P f args h Q:=hh h rfl
end Go.Proofs.YtokahfmoollblaaGreatDoor
namespace Go.Bf
open Go Go.Ab Go.Proofs.YtokahfmoollblaaGreatDoor
def Yk(v:Int):bB:=⟨2,v,[]⟩
structure Last (fs:List cR) (last:List (Txt×Int)):Prop where
 asc:Fu fs
 len:fs.length=last.length
 small:fs.length≤16
 kind:∀f∈fs,f.val.kind=2
 get:∀n,eV fs n=((dget last n).map Yk).getD ax
 keys:∀p∈last,p.1.length=2
end Go.Bf
namespace Go.Bf
open Go Go.Ab
variable {n:Nat}{st a:PS}{s:Txt}{ts:List so}
def Fine(n:Nat)(st:PS):Prop:=(st.bad=0∨st.bad=5∨st.bad=6)∧0≤st.place∧st.place≤n
def B4(n:Nat)(ts:List so):Prop:=∀i,0≤(ts.getD i ⟨7,0,0,[]⟩).pos∧(ts.getD i ⟨7,0,0,[]⟩).pos≤n
theorem yJ{e p:Int}(h:Fine n st)(he:e=5∨e=6)(h0:0≤p)(h1:p≤n):Fine n (bM st e p):=by
 unfold bM;split
 ·exact⟨.inr he,h0,h1⟩
 omega
theorem DO{b:PS}(h:Rch a b)(ht:B4 n a.ts)(hf:Fine n a):Fine n b:=by
 induction h with
 |refl=>omega
 |wrong e p h1 he hp ih=>obtain⟨i,_,rfl⟩:=hp;rw[(sd h1).1];exact yJ ih he (ht i).1 (ht i).2
 |next _ _ _ ih=>exact ih
theorem IB{b:PS}(h:om a b):b.ts=a.ts:=by
 induction h with
 |refl=>rfl
 |small _ h1 ih=>grind [sd,trans]
 |rule _ _ _ _ ih=>exact ih
theorem Ju{b:PS}(h:om a b)(ht:B4 n a.ts)(hf:Fine n a):Fine n b:=by
 induction h with
 |refl=>omega
 |small h1 h2 ih=>grind [DO,IB]
 |rule _ _ _ _ ih=>exact ih
theorem yT(h:sX s= .ok ts):B4 s.length ts:=by
 obtain⟨pre,rfl,_,h3,_⟩:=Bp h;intro i
 grind
theorem Mc(h:sX s= .ok ts):Fine s.length (qH s (gU 4 ⟨ts,0,0,0,0⟩)):=by
 have h0:Fine s.length ⟨ts,0,0,0,0⟩:=⟨.inl rfl,Int.le_refl _,aea⟩;have hr:=CL 4 ⟨ts,0,0,0,0⟩;have h1:=Ju hr (yT h) h0;have ht:B4 s.length (gU 4 ⟨ts,0,0,0,0⟩).2.ts:=by rw[IB hr];exact yT h
 have h2:Fine s.length (if(aM (gU 4 ⟨ts,0,0,0,0⟩).2).kind=7 then(gU 4 ⟨ts,0,0,0,0⟩).2 else br (gU 4 ⟨ts,0,0,0,0⟩).2):=by grind [DO,lg]
 unfold qH;generalize (if(aM (gU 4 ⟨ts,0,0,0,0⟩).2).kind=7 then(gU 4 ⟨ts,0,0,0,0⟩).2 else br (gU 4 ⟨ts,0,0,0,0⟩).2)=st1 at h2⊢
 split
 ·exact yJ h2 (.inl rfl) ad3 (Int.le_refl _)
 ·exact ahR
theorem wP(s:Txt):(aS s).2.1=0∧(aS s).2.2=0∧gQ (aS s).1=0∨
  ((aS s).2.1=5∨(aS s).2.1=6)∧0≤(aS s).2.2∧(aS s).2.2≤s.length∧(aS s).1=pg:=by
 unfold aS;cases h:sX s with
 |bad e a=>have:=ze h;exact .inr ⟨this.1,this.2.1,this.2.2,rfl⟩
 |ok ts=>
  have hf:=Mc h;simp only[zv];split
  ·rename_i hb
   refine .inl ⟨rfl,rfl,?_⟩;simp only;unfold qH at hb;generalize (if(aM (gU 4 ⟨ts,0,0,0,0⟩).2).kind=7 then(gU 4 ⟨ts,0,0,0,0⟩).2 else br (gU 4 ⟨ts,0,0,0,0⟩).2)=st1 at hb
   split at hb
   ·simp_all [bM,if_pos,absurd,Int]
   omega
  ·rename_i hb
   exact .inr ⟨hf.1.resolve_left hb,hf.2.1,hf.2.2,rfl⟩
end Go.Bf
namespace Go.Bf
open Go Go.Ab Go.Proofs.YtokahfmoollblaaGreatDoor
variable {k:Nat}{s:an}{o:OpD}{cs:List aK}
theorem rL{p:bF}(h:gQ p=0):mJ 1 p:=by
 cases hw:lf ⟨[],0⟩ 1 p with
 |bad e=>have:=uB 4 1 _ _ e rfl hw;rw[gQ,hw]at h;exact(this h).elim
 |ok m=>grind [Iv]
theorem RA{fs:List cR}(h:∀f∈fs,eqV f.val ax=false)(n:Txt):(fs.any fun f=>f.name==n)= !(eqV (eV fs n) ax):=by
 induction fs with
 |nil=>rfl
 |cons f fs ih=>
  rw[F3,List.any_cons]
  grind
structure uZ (c:aK):Prop where
 id:bw c.id=true
 owner:bw c.owner=true
 state:c.state∈qp
 asc:Fu c.fields
 nfields:c.fields.length≤16
 field:∀f∈c.fields,bw f.name=true∧bH f.val=true∧eqV f.val ax=false
 log1:1≤c.log.length
 log2:c.log.length≤256
 actor:∀x∈c.log,bw x.actor=true∧i64 x.tick
structure dM (k:Nat) (s:an):Prop where
 tick:0≤s.tick∧s.tick≤1099511627776
 asc:Asc s.cases
 ncases:s.cases.length≤64
 case:∀c∈s.cases,uZ c
 nrev:s.reviews.length≤1000
 nnot:s.notices.length≤1000
 roles:s.roles.length≤64
 role:∀r∈s.roles,bw r.subj=true∧bw r.role=true
 pol:gQ s.policy=0
 ver:0≤s.version∧s.version≤k
theorem dM.few(h:dM k s):Few s:=by
 have h1:=h.ncases;have h2:=h.nrev;have h3:=h.nnot;have h4:=h.roles;refine⟨ad3,fun c hc=>?_,fun c hc=>?_,ad3,ad3,ad3⟩
 ·have:=(h.case c hc).nfields;omega
 ·have:=(h.case c hc).log2;omega
theorem dM.mJ(h:dM k s):mJ 1 s.policy:=rL h.pol
theorem dM.Ho(h:dM k s):i64 s.tick:=by have:=h.tick;constructor<;>omega
theorem KI:dM 0 td:=by refine⟨ad6,.nil,ad6,fun c h=>aeV,ad6,ad6,ad6,fun r h=>aeV,aei,ad6⟩
theorem kX{s:Txt}(h:jg s=true)(hn:s≠ []):bw s=true:=by simp_all [jg,Bool.or_eq_true,beq_iff_eq]
structure Rh (o:OpD):Prop where
 subj:bw o.subj=true
 kind:1≤o.kind∧o.kind≤8
 case:jg o.case=true
 field:jg o.field=true
 to:jg o.to=true
 val:eqV o.val ax=true∨bH o.val=true
 text:o.text.length≤4096
 ok:okD o=true
theorem ud(h:dH o=true):Rh o:=by simp only[dH,Bool.and_eq_true,decide_eq_true_eq,Bool.or_eq_true,dX]at h;obtain⟨⟨⟨⟨⟨⟨⟨h1,h2⟩,h3⟩,h4⟩,h5⟩,h6⟩,h7⟩,⟨⟨h8,h9⟩,h10⟩,h11⟩:=h;exact⟨h1,⟨h8,h9⟩,h4,h5,h6,h7,h3,h10⟩
theorem yL{a b:Txt}(h:ng a b=true):b∈qp:=by
 unfold ng at h;simp only[qp,List.mem_cons,List.not_mem_nil,or_false]
 grind
theorem mem_modify{α:Type}{l:List α}{i:Nat}{f:α→α}{x:α}(h:x∈l.modify i f):x∈l∨∃hi:i<l.length,x=f l[i]:=by
 obtain⟨j,hj,rfl⟩:=List.mem_iff_getElem.1 h
 grind
theorem kZ{α β:Type}{l:List α}{i:Nat}{f:α→α}{g:α→β}(h:∀x,g (f x)=g x):(l.modify i f).map g=l.map g:=by
 refine List.ext_getElem aea fun j h1 h2=>?_
 grind
theorem Cg{cs':List aK}(h:cs'.map (·.id)=cs.map (·.id))(ha:Asc cs):Asc cs' :=by
 unfold Asc at*;have h1:(cs.map (·.id)).Pairwise lt:=ad4
 rw[←h,List.pairwise_map]at h1;exact h1
theorem Pm{i:Nat}{c d:aK}(h:d∈cs.take i++ [c]++cs.drop i):d=c∨d∈cs:=by grind
theorem NH(hs:dM k s)(hr:bQ s o=0):dM (k+1) (doD aS s o):=by
 have hf:dH o=true:=by
  unfold bQ at hr
  grind
 have F:=ud hf;have vk:0≤s.version∧s.version≤((k+1:Nat):Int):=⟨hs.ver.1,by have:=hs.ver.2;omega⟩
 unfold bQ at hr;rw[hf]at hr;simp only[Bool.true_eq_false,if_false]at hr;have hok:=F.ok;unfold okD at hok;have t64:=hs.Ho;unfold doD
 by_cases k1:o.kind=1
 ·simp only[k1,if_true]at hr hok⊢
  have hno:cj s.cases o.case=false:=by grind
  rw[hno]at hr;simp only[Bool.false_eq_true,if_false]at hr;have hlt:¬64≤s.cases.length:=fun h=>ahT
  have hc:bw o.case=true:=kX F.case ad4;rw[vR hs.asc]at hno;refine {hs with asc:= ?_,ncases:= ?_,case:= ?_,ver:=vk}
  ·exact HD hs.asc (jD s ⟨o.case,o.subj,jQ,[],[]⟩ o.subj [110,101,119]) hno
  ·grind
  ·intro c h
   rcases Pm h with rfl|h
   ·exact⟨hc,F.subj,by simp[jD,qp],.nil,ah9,fun f h=>aeV,ah9,ah9,fun x h=>by simp only[jD,List.nil_append,List.mem_singleton]at h;subst h;exact⟨F.subj,t64⟩⟩
   ·exact hs.case c h
 ·simp only[k1,if_false]at hr hok⊢
  by_cases k3:o.kind=3
  ·have hk:2≤o.kind∧o.kind≤4:=by omega
   simp only[hk,and_self,if_true]at hr;simp only[k3,if_true];have e2:¬(o.kind=2∨o.kind=6):=ad3;simp only[k3,if_true,show¬((3:Int)=2∨(3:Int)=6) by decide,if_false,Bool.and_eq_true,Bool.not_eq_true']at hok
   have hth:cj s.cases o.case=true:=by
    unfold bX at hr
    grind
   unfold bX at hr;rw[hth]at hr;simp only[Bool.true_eq_false,if_false,k3,true_and]at hr;obtain⟨hm,hid⟩:=qT hs.asc hth;have hlt:=jS hth;have hce:bx s.cases o.case=s.cases[findD s.cases o.case]:=by simp_all [bx,if_pos]
   rw[hce]at hr hm;generalize hcc:s.cases[findD s.cases o.case]=c at hr hm;have hc:=hs.case c hm;have h16:¬(c.fields.length≥16∧eqV (eV c.fields o.field) ax=true):=fun h=>by simp[h.1,h.2]at hr
   rw[if_neg h16]at hr;have hlg:¬c.log.length≥256:=fun h=>ahT
   have hnf:bw o.field=true:=kX F.field ad4;have hvz:eqV o.val ax=false:=hok.2;have hv:bH o.val=true:=F.val.resolve_left ad4;refine {hs with asc:= ?_,ncases:= ?_,case:= ?_,ver:=vk}
   ·exact Cg (kZ fun x=>rfl) hs.asc
   ·simpa using hs.ncases
   ·intro d hd
    rcases mem_modify hd with hd|⟨hi,rfl⟩
    ·exact hs.case d hd
    ·rw[hcc]
     have hany:=RA (fun f hf=>(hc.field f hf).2.2) o.field
     have hlen:=B1 (v:=o.val) (name:=o.field) hc.asc;refine⟨hc.id,hc.owner,hc.state,B0 hc.asc,?_,?_,ah9,?_,?_⟩
     ·simp only[jD]
      rw[hlen,hany];have:=hc.nfields;cases he:eqV (eV c.fields o.field) ax
      ·simp;omega
      ·rw[he]at h16;simp at h16⊢;omega
     ·intro f hf
      rcases vW hf with rfl|hf
      ·grind
      ·exact hc.field f hf
     ·grind [jD,adX,List.length_singleton]
     ·intro x hx
      exact ajk
  ·simp only[k3,if_false]at hok⊢
   by_cases k4:o.kind=4
   ·have hk:2≤o.kind∧o.kind≤4:=by omega
    simp only[hk,and_self,if_true]at hr;simp only[k4,if_true];have hth:cj s.cases o.case=true:=by
     unfold bX at hr
     grind
    unfold bX at hr;rw[hth]at hr;simp only[Bool.true_eq_false,if_false,k4]at hr;obtain⟨hm,hid⟩:=qT hs.asc hth;have hlt:=jS hth;have hce:bx s.cases o.case=s.cases[findD s.cases o.case]:=by simp_all [bx,if_pos]
    rw[hce]at hr hm;generalize hcc:s.cases[findD s.cases o.case]=c at hr hm;have hc:=hs.case c hm;simp only[show¬((4:Int)=3) by decide,false_and,if_false,show((4:Int)≠2) by decide,ne_eq,not_false_eq_true,true_and,false_or]at hr
    have hlg:¬c.log.length≥256:=fun h=>ahT
    rw[if_neg hlg]at hr;have hfo:ng c.state o.to=true:=by grind
    refine {hs with asc:= ?_,ncases:= ?_,case:= ?_,ver:=vk}
    ·exact Cg (kZ fun x=>rfl) hs.asc
    ·simpa using hs.ncases
    ·intro d hd
     rcases mem_modify hd with hd|⟨hi,rfl⟩
     ·exact hs.case d hd
     ·rw[hcc]
      refine⟨hc.id,hc.owner,yL hfo,hc.asc,hc.nfields,hc.field,ah9,?_,?_⟩
      ·grind [jD,adX,List.length_singleton]
      ·intro x hx
       exact ajk
   ·simp only[k4,if_false]at hok⊢
    by_cases k5:o.kind=5
    ·simp only[k5,if_true]
     refine {hs with nrev:= ?_,ver:=vk}
     simpa using hs.nrev
    ·simp only[k5,if_false]at hok⊢
     by_cases k6:o.kind=6
     ·have hk:¬(2≤o.kind∧o.kind≤4):=by omega
      simp only[k6,if_true]at hr;simp only[k6,if_true];simp only[k6,or_true,if_true,Bool.and_eq_true]at hok;have hc:bw o.case=true:=kX F.case ad4;have hfd:bw o.field=true:=kX F.field ad4;cases hh:yQ s.roles ⟨o.case,o.field⟩with
      |true=>simp only[if_true];exact {hs with ver:=vk}
      |false=>
       rw[hh]at hr;have hlt:¬s.roles.length≥64:=fun h=>ahT
       simp only[Bool.false_eq_true,if_false];refine {hs with roles:= ?_,role:= ?_,ver:=vk}
       ·grind
       ·intro r h
        rcases List.mem_append.1 h with h|h
        ·exact hs.role r h
        grind
     ·simp only[k6,if_false]
      by_cases k7:o.kind=7
      ·simp only[k7,if_true]
       by_cases hp:(aS o.text).2.1=0
       ·simp only[hp,if_true]
        have hr0:gQ (aS o.text).1=0:=by grind [wP,absurd]
        refine {hs with pol:=hr0,ver:= ?_}
        have:=hs.ver;constructor
        ·grind
        grind
       ·simp only[hp,if_false]
        exact {hs with ver:=vk}
      ·simp only[k7,if_false]
       by_cases k8:o.kind=8
       ·simp only[k8,if_true]
        have hk:¬(2≤o.kind∧o.kind≤4):=ad3;simp only[k8,if_true]at hr;have hlt:¬s.tick>1099511627776 - o.review:=fun h=>ahT
        simp only[k8,show¬((8:Int)=2∨(8:Int)=6) by decide,if_false,if_true,Bool.and_eq_true,decide_eq_true_eq]at hok
        refine {hs with tick:= ?_,ver:=vk}
        have:=hs.tick;constructor
        ·grind
        grind
       ·simp only[k8,if_false]
        exact {hs with ver:=vk}
theorem qq(o:OpD)(hs:dM k s):dM (k+1) (ew aS s o):=by
 unfold ew
 by_cases h:bQ s o=0
 ·simp_all [if_pos,NH]
 ·rw[if_neg h]
  exact {hs with ver:=⟨hs.ver.1,by have:=hs.ver.2;omega⟩}
def lD(a b:aK):Bool:=a.id==b.id && (a.owner==b.owner && (a.state==b.state && (eqL jk a.fields b.fields && eqL oo a.log b.log)))
def sv(l:List OpD)(n:Nat):List OpD:=(l.take n).map vG
theorem fC.eq{xs:List AV}{sz:Nat}(j:Nat)(hj:j<xs.length)(hz:xs[j].cells.length=sz)(k:AV→Prop):fC xs (j:Int) sz k=k (.pe xs[j] 0):=propext ⟨fun h=>by
 obtain⟨_,b,hb,_,hk⟩:=h;have:xs[j]? =some xs[j]:=aea;rw[show((j:Int).toNat)=j by simp,this]at hb
 cases hb;exact hk,fun h=>fC.at j hj hz h⟩
end Go.Bf
namespace Go.Proofs.YtokahfmoollblaaGreatDoor
open Go Go.Ab Go.Bf Tryz
def CRow(x:AV)(c:aK):Prop:=∃qf ql,x= .agg [.s c.id,.s c.owner,.s c.state,.sl (c.fields.map bC) qf,.sl (c.log.map gv) ql]
def CRows(xs:List AV)(cs:List aK):Prop:=xs.length=cs.length∧∀i (h1:i<xs.length) (h2:i<cs.length),CRow xs[i] cs[i]
theorem crows(cs:List aK):CRows (cs.map cq) cs:=⟨aea,fun i h1 h2=>by rw[adU];exact⟨_,_,rfl⟩⟩
theorem LG{xs ys:List AV}{cs ds:List aK}(h1:CRows xs cs)(h2:CRows ys ds)(q1 q2:Perm)(h:Heap):ai prog 60 [.sl xs q1,.sl ys q2] h fun r h' =>r= .b (eqL lD cs ds)∧h' =h:=by
 refine ad2 func60 82 [.tmp 4] fun hwf=>?_
 cases d1:((xs.length:Int) !=(ys.length:Int))
 ·have e1:xs.length=ys.length:=by grind
  have e2:cs.length=ds.length:=by rw[←h1.1,←h2.1,e1]
  simp only[go_sem,d1];refine oJ.wf fun hw=>?_
  have hxl:=hw 11 (.sl xs q1) aei;simp only[wfA,wf1,lim]at hxl;refine .intro (fun m ρ h' =>h' =h∧∃i:Nat,i≤xs.length∧m=xs.length - i∧(∀j (a:j<cs.length) (b:j<ds.length),j<i→lD cs[j] ds[j]=true)∧lk ρ 0=some (.sl xs q1)∧lk ρ 1=some (.sl ys q2)∧lk ρ 12=some (.i xs.length)∧lk ρ 13=some (.i i)) xs.length ?_ ?_
  ·refine⟨rfl,0,ad3,rfl,fun j _ _ hj=>ad3,?_,?_,?_,?_⟩<;>simp only[go_sem]
  ·rintro m ρ h' ⟨rfl,i,hi,rfl,hc,r0,r1,r12,r13⟩
   cases e3:decide ((i:Int)<(xs.length:Int))
   ·have hge:i=xs.length:=by grind
    simp only[go_sem,r12,r13,e3];exact .same (.refl _) ⟨by rw[cU e2 fun j a b=>hc j a b (by rw[hge,h1.1];exact a)];rfl,rfl⟩
   ·have hlt:i<xs.length:=ad0 e3
    have hlt2:i<ys.length:=ad3;have hlt3:i<cs.length:=by rw[←h1.1];omega
    have hlt4:i<ds.length:=ad3;have w1:IntKind.i64.wrap ((i:Int)+1)=((i+1:Nat):Int):=aeg;obtain⟨qf,ql,ex⟩:=h1.2 i hlt hlt3;obtain⟨qf',ql',ey⟩:=h2.2 i hlt2 hlt4;have ix:=fun k=>fC.eq (sz:=5) i hlt (by rw[ex];rfl) k
    have iy:=fun k=>fC.eq (sz:=5) i hlt2 ahu k
    rw[ex]at ix;rw[ey]at iy;have hno:lD cs[i] ds[i]=false→eqL lD cs ds=false:=fun e=>jy i hlt3 hlt4 e
    have hdef:lD cs[i] ds[i]=(cs[i].id==ds[i].id && (cs[i].owner==ds[i].owner && (cs[i].state==ds[i].state && (eqL jk cs[i].fields ds[i].fields && eqL oo cs[i].log ds[i].log)))):=rfl;have hst:=hc;obtain⟨c,ec⟩:∃c,cs[i]=c:=⟨_,rfl⟩;obtain⟨d,ed⟩:∃d,ds[i]=d:=⟨_,rfl⟩;rw[ec,ed]at hdef hno;rw[ec]at ix;rw[ed]at iy;simp only[go_sem,r12,r13,e3];simp only[List.append];simp only[go_sem];refine .quiet ad7 ?_;simp only[go_sem,r0,r1,ix,iy,and_self];cases a1:(c.id==d.id)
    case false=>exact aiC
    simp only[go_sem,r0,r1,ix,iy,and_self];cases a2:(c.owner==d.owner)
    case false=>exact aiC
    simp only[go_sem,r0,r1,ix,iy,and_self];cases a3:(c.state==d.state)
    case false=>exact aiC
    simp only[go_sem,r0,r1,ix,iy,and_self];refine⟨_,CP c.fields d.fields qf qf' _,?_⟩;cases a4:eqL jk c.fields d.fields
    ·exact aiC
    simp only[go_sem,r0,r1,ix,iy,and_self];refine⟨_,GR c.log d.log ql ql' _,?_⟩;cases a5:eqL oo c.log d.log
    ·exact aiC
    simp only[go_sem,r13,w1];refine⟨_,?_,rfl,i+1,ad3,rfl,fun j a b hj=>?_,?_,?_,?_,?_⟩
    ·omega
    ·grind
    all_goals simp only[go_sem,r0,r1,r12]
 ·have e2:cs.length≠ds.length:=by
   rw[←h1.1,←h2.1]
   grind
  simp only[go_sem,d1];exact .same (.refl _) ⟨by rw[iD e2];rfl,rfl⟩
theorem SO(l:List OpD)(n:Nat)(hn:n≤1000)(h:Heap):ai prog 21 [.sl (l.map opA) .no,.i n] h fun r h' =>r= .sl ((sv l n).map opA) .no∧h' =h:=by
 refine ad2 func21 27 [.tmp 4] fun hwf=>?_
 simp only[go_sem];have hsz:(U 46).sz=12:=aei;refine oJ.wf fun hw=>?_
 refine .intro (fun m ρ H=>∃(i:Nat) (y:AV),Acc U 46 h H y ((sv (l.take i) n).map opA)∧i≤l.length∧i≤n∧m=l.length - i∧lk ρ 0=some (.sl (l.map opA) .no)∧lk ρ 1=some (.i n)∧lk ρ 5=some y∧lk ρ 6=some (.i i)) l.length ?_ ?_
 ·refine⟨0,.sl [] .full,by simpa[sv]using Acc.full (.refl _),ad3,ad3,rfl,?_,?_,?_,?_⟩<;>simp only[go_sem]
 ·rintro m ρ H ⟨i,y,hy,hi,hin,rfl,r0,r1,r5,r6⟩
  obtain⟨q,eq⟩:=hy.row;subst eq
  by_cases hgo:i<l.length∧i<n
  ·have d1:decide ((i:Int)<(l.length:Int))=true:=decide_eq_true ad3
   have d2:decide ((i:Int)<(n:Int))=true:=decide_eq_true ad3;have w1:IntKind.i64.wrap ((i:Int)+1)=((i+1:Nat):Int):=aeg;have hsn:sv (l.take (i+1)) n=sv (l.take i) n++ [vG l[i]]:=by grind [sv,Nat.min_eq_right,List.take_append_getElem]
   simp only[go_sem,r0,r1,r5,r6,adT,d1,d2];refine .at i ad4 aec ?_;have hok:=fun(G:Heap)=>M3 l[i] G
   simp only[opA,opC]at hok;simp only[go_sem,adU,opA,opC];refine(hok _).pthen ?_;simp only[go_sem];refine Acc.app hy (zs:=[opA (vG l[i])]) ad3 ad6 (fun k hk=>hk) (by rw[hsz];exact bu (f:=opA) (fun _=>rfl) _) (by rw[hsz];intro z hz;rw[List.mem_singleton.1 hz];rfl) (by simp only[go_sem,sv,adT,List.length_take,List.length_cons,List.length_nil]<;>omega) fun yz Gz hyz kpz=>?_
   simp only[go_sem,r6,w1];refine⟨_,?_,i+1,yz,ad4,ad3,ad3,rfl,?_,?_,?_,?_⟩
   ·omega
   all_goals simp only[go_sem,r0,r1]
  ·have hall:sv (l.take i) n=sv l n:=by grind [sv,Nat.lt_or_ge,Nat.min_self,List.take_of_length_le]
   rw[hall]at hy;cases d1:decide ((i:Int)<(l.length:Int))
   ·simp only[go_sem,r0,r5,r6,adT,d1]
    exact .mk _ (by rw[hall];exact .sl _ _) hy.1 ⟨rfl,rfl⟩
   ·have d2:decide ((i:Int)<(n:Int))=false:=decide_eq_false fun h3=>hgo ⟨ad4,ad3⟩
    simp only[go_sem,r0,r1,r5,r6,adT,d1,d2];exact .mk _ (by rw[hall];exact .sl _ _) hy.1 ⟨rfl,rfl⟩
end Go.Proofs.YtokahfmoollblaaGreatDoor
namespace Go.Bf
open Go Go.Ab Go.Proofs.YtokahfmoollblaaGreatDoor
def AO(l:List bB):Prop:=l.length≤16∧∀v∈l,bH v=true∧∀w∈l.head?,v.kind=w.kind
structure Qg (gs:List bt):Prop where
 len:gs.length≤64
 each:∀g∈gs,1≤g.cat∧g.cat≤4∧bw g.name=true∧AO g.bag
 dist:gs.Pairwise fun a b=>iY b.cat b.name a=false
def xw(g:bt):Int×Txt:=(g.cat,g.name)
theorem LS(gs:List bt):(gs.Pairwise fun a b=>iY b.cat b.name a=false)↔(gs.map xw).Nodup:=by simp[List.Nodup,List.pairwise_map,bt,iY,false,xw]
theorem jt{v:bB}(h:bH v=true):AO [v]:=⟨aea,fun w hw=>ad4⟩
theorem pU{s:Txt}(h:bw s=true):bH (idV s)=true:=by grind [bH,idV]
theorem I3{l:List gG}(h:∀r∈l,bw r.role=true)(s:Txt):AO (dG l s):=by
 have hv:∀v∈dG l s,bH v=true∧v.kind=5:=fun v hv=>by have:=List.mem_of_mem_take hv;obtain⟨r,hr,rfl⟩:=List.mem_map.1 this;exact⟨pU ad4,rfl⟩
 refine⟨by grind [dG,List.length_take],fun v hm=>⟨(hv v hm).1,fun w hw=>?_⟩⟩
 grind
theorem LH{c:UInt8}{i j:Nat}(h:tN c j=true)(hi:i≠0):tN c i=true:=by
 simp only[tN,Bool.or_eq_true,Bool.and_eq_true,decide_eq_true_eq]at h⊢
 grind
theorem F4{n:Txt}(h:bw n=true)(hl:n.length≤14):bw ([102,95]++n)=true:=by
 simp only[bw,Bool.and_eq_true,decide_eq_true_eq]at h⊢;obtain⟨⟨h1,h2⟩,h3⟩:=h;refine⟨⟨?_,aea⟩,ad4⟩;unfold wo at h1⊢;rw[List.all_eq_true]at h1⊢
 rintro⟨c,i⟩ hp
 rw[List.mk_mem_zipIdx_iff_getElem?]at hp
 match i,hp with
 |0,hp=>cases hp;rfl
 |1,hp=>cases hp;rfl
 |i+2,hp=>exact LH (h1 (c,i) (List.mk_mem_zipIdx_iff_getElem?.2 hp)) ad3
theorem Hh{s:Txt}(h:s∈qp):bw s=true:=by simp only[qp,List.mem_cons,List.not_mem_nil,or_false]at h;rcases h with rfl|rfl|rfl|rfl<;>kernel_rfl
theorem C7(k:Int)(h:1≤k∧k≤8):bw (jY k)=true:=by
 have:(List.range 9).all (fun n=>bw (jY n))=true:=aei
 have h2:=List.all_eq_true.1 this k.toNat ad4
 rwa [show((k.toNat:Nat):Int)=k by omega]at h2
theorem NO(l:List u0)(s:Txt):bH (uT l s)=true:=by unfold uT;cases l.any fun x=>x.actor==s<;>rfl
theorem I9{c:aK}(hc:uZ c)(s:Txt):∀g∈cH c s,g.cat=3∧bw g.name=true∧AO g.bag:=by
 intro g hg;simp only[cH,List.mem_append,List.mem_cons,List.not_mem_nil,or_false]at hg;rcases hg with((rfl|rfl|rfl|rfl|rfl)|hg)|hg
 ·exact⟨rfl,aei,jt (pU hc.id)⟩
 ·exact⟨rfl,aei,jt (pU hc.owner)⟩
 ·exact⟨rfl,aei,jt (pU (Hh hc.state))⟩
 ·exact⟨rfl,aei,jt aei⟩
 ·exact⟨rfl,aei,jt (NO _ _)⟩
 ·cases hl:c.log.getLast? with
  |none=>grind
  |some x=>rw[hl]at hg;rw[List.mem_singleton.1 hg];exact⟨rfl,aei,jt (pU (hc.actor x (List.mem_of_getLast? hl)).1)⟩
 ·obtain⟨f,hf,rfl⟩:=List.mem_map.1 hg
  obtain⟨hf1,hf2⟩:=List.mem_filter.1 hf;have hf2:f.name.length≤14:=ad4;obtain⟨h1,h2,_⟩:=hc.field f hf1;exact⟨rfl,F4 h1 hf2,jt h2⟩
theorem I8{c:aK}(hc:uZ c)(s:Txt):((cH c s).map xw).Nodup:=by
 have hfn:(((c.fields.filter fun f=>decide (f.name.length≤14)).map fun f=>(⟨3,[102,95]++f.name,[f.val]⟩:bt)).map xw).Nodup:=by
  rw[List.map_map,List.Nodup,List.pairwise_map];refine((List.Pairwise.filter _ hc.asc).imp fun {a b} hab he=>?_)
  simp_all [Function.comp,xw,Prod.mk.injEq,true_and,List.append_cancel_left_eq,lt_irrefl]
 have hff:∀x∈((c.fields.filter fun f=>decide (f.name.length≤14)).map fun f=>(⟨3,[102,95]++f.name,[f.val]⟩:bt)).map xw,∃t,x=(3,102::t):=by intro x hx;obtain⟨g,hg,rfl⟩:=List.mem_map.1 hx;obtain⟨f,hf,rfl⟩:=List.mem_map.1 hg;exact⟨_,rfl⟩
 unfold cH;rw[List.map_append,List.nodup_append];refine⟨?_,hfn,?_⟩
 ·cases c.log.getLast? with
  |none=>simp[xw,idT]
  |some x=>simp[xw,idT]
 ·intro a ha b hb
  obtain⟨t,rfl⟩:=hff b hb;intro e;cases hl:c.log.getLast? with
  |none=>simp_all [xw,idT]
  |some x=>simp_all [xw,idT]
theorem I2{k:Nat}{s:an}{o:OpD}(hs:dM k s)(hf:dH o=true):Qg (fN s o):=by
 have F:=ud hf;have hcs:∀g∈(if cj s.cases o.case=true∧o.kind≠6 then cH (bx s.cases o.case) o.subj else []),g.cat=3∧bw g.name=true∧AO g.bag:=by
  intro g hg;split at hg
  ·rename_i ht
   exact I9 (hs.case _ (qT hs.asc ht.1).1) _ g hg
  ·cases hg
 have hcd:((if cj s.cases o.case=true∧o.kind≠6 then cH (bx s.cases o.case) o.subj else []).map xw).Nodup:=by
  split
  ·rename_i ht
   exact I8 (hs.case _ (qT hs.asc ht.1).1) _
  ·exact .nil
 have hcl:(if cj s.cases o.case=true∧o.kind≠6 then cH (bx s.cases o.case) o.subj else []).length≤22:=by
  split
  ·rename_i ht
   have hc:=hs.case _ (qT hs.asc ht.1).1;have h16:=hc.nfields;have:((bx s.cases o.case).fields.filter fun f=>decide (f.name.length≤14)).length≤(bx s.cases o.case).fields.length:=List.length_filter_le _ _
   simp only[cH,adX,adT,List.length_cons,List.length_nil];cases (bx s.cases o.case).log.getLast? <;>simp<;>omega
  ·simp
 unfold fN;generalize (if cj s.cases o.case=true∧o.kind≠6 then cH (bx s.cases o.case) o.subj else [])=C at hcs hcd hcl⊢
 have e1:(if o.field= []then []else [(⟨2,[102,105,101,108,100],[idV o.field]⟩:bt)])=if o.field= []then []else [(⟨2,[102,105,101,108,100],[idV o.field]⟩:bt)]:=rfl
 have hro:AO (dG s.roles o.subj):=I3 (fun r hr=>(hs.role r hr).2) _
 have htk:bH ⟨4,s.tick,[]⟩=true:=by have:=hs.tick;simp[bH,this]
 have hac:=pU (C7 o.kind F.kind);have hsu:=pU F.subj;refine⟨?_,?_,?_⟩
 ·by_cases p1:o.field= []<;>by_cases p2:o.to= []<;>simp[p1,p2]<;>omega
 ·intro g hg
  simp only[List.mem_append,List.mem_cons,List.not_mem_nil,or_false]at hg;rcases hg with((((rfl|rfl|rfl)|hg)|hg)|rfl)|hg
  ·exact⟨aea,aea,ad7,jt hsu⟩
  ·exact⟨aea,aea,ad7,hro⟩
  ·exact⟨aea,aea,ad7,jt hac⟩
  ·split at hg
   ·cases hg
   ·rename_i hne
    rw[List.mem_singleton.1 hg];exact⟨aea,aea,ad7,jt (pU (kX F.field hne))⟩
  ·split at hg
   ·cases hg
   ·rename_i hne
    rw[List.mem_singleton.1 hg];exact⟨aea,aea,ad7,jt (pU (kX F.to hne))⟩
  ·exact⟨aea,aea,ad7,jt htk⟩
  ·obtain⟨h1,h2,h3⟩:=hcs g hg
   exact⟨ad3,ad3,h2,h3⟩
 ·rw[LS,List.map_append,List.nodup_append]
  refine⟨?_,hcd,?_⟩
  ·by_cases p1:o.field= []<;>by_cases p2:o.to= []<;>simp[p1,p2,xw,idT]
  ·intro a ha b hb e
   subst e;obtain⟨g,hg,rfl⟩:=List.mem_map.1 hb;have h3:=(hcs g hg).1;have hne:∀x∈([⟨1,idT,[idV o.subj]⟩,⟨1,[114,111,108,101],dG s.roles o.subj⟩,⟨2,[110,97,109,101],[idV (jY o.kind)]⟩]++(if o.field= []then []else [⟨2,[102,105,101,108,100],[idV o.field]⟩])++(if o.to= []then []else [⟨2,[116,111],[idV o.to]⟩])++ [⟨4,[110,111,119],[⟨4,s.tick,[]⟩]⟩]:List bt),x.cat≠3:=by
    intro x hx;simp only[List.mem_append,List.mem_cons,List.not_mem_nil,or_false]at hx;rcases hx with(((rfl|rfl|rfl)|hx)|hx)|rfl
    ·simp
    ·simp
    ·simp
    ·split at hx
     ·cases hx
     ·rw[List.mem_singleton.1 hx];simp
    ·split at hx
     ·cases hx
     ·rw[List.mem_singleton.1 hx];simp
    ·simp
   obtain⟨x,hx,he⟩:=List.mem_map.1 ha;have:x.cat=g.cat:=congrArg Prod.fst he;exact hne x hx (by rw[this,h3])
def sL:an→List AV
 |⟨tick,cs,rv,nt,ro,.mk pid set alg tgt rules kids obls,ver⟩=>[.i tick,fO cs,jR rv,ku nt,dW ro,.s pid,.b set,.i alg,aT tgt,.sl (rules.map aC) .no,.sl (fc kids) .no,ay obls,.i ver]
theorem o6(s:an):bN s= .agg (sL s):=by obtain⟨tick,cs,rv,nt,ro,⟨pid,set,alg,tgt,rules,kids,obls⟩,ver⟩:=s;rfl
theorem DD(c:aK):lD c c=true:=by
 have h1:eqL jk c.fields c.fields=true:=cU rfl fun j _ _=>by simp[jk]
 have h2:eqL oo c.log c.log=true:=cU rfl fun j _ _=>by simp[oo]
 simp[lD,h1,h2]
theorem FH(cs:List aK):eqL lD cs cs=true:=cU rfl fun j _ _=>DD _
end Go.Bf
namespace Go.Proofs.YtokahfmoollblaaGreatDoor
open Go Go.Ab Go.Bf Tryz
theorem OM{x:AV}(h:Dat U 67 x):∃l:List OpD,x= .sl (l.map opA) .no∧l.length≤maxLen∧∀o∈l,kW o:=h.list aei fun y hy=>LP hy
theorem VY{l:List OpD}{n:Nat}(h:∀o∈l,kW o):∀o∈sv l n,kW o:=fun o ho=>by obtain⟨a,ha,rfl⟩:=List.mem_map.1 ho;exact h a ad4
end Go.Proofs.YtokahfmoollblaaGreatDoor
namespace Go.Bf
open Go Go.Ab Go.Proofs.YtokahfmoollblaaGreatDoor
structure Stays (cs cs' :List aK) (id:Txt):Prop where
 len:cs'.length≤cs.length+1
 ids:∀c∈cs,∃d∈cs',d.id=c.id
 rest:∀c∈cs,c.id≠id→c∈cs'
abbrev aU:=Nat×Nat
def naM:aU:=(0,0)
def bp:aU:=(2,0)
def cM:aU:=(0,2)
def Bn:aU:=(1,0)
def Bm:aU:=(0,1)
def pV:aU:=(1,1)
def vw:List aU:=[naM,bp,cM,Bn,Bm,pV]
abbrev jX:=aU×List cE
def hY(m:aU):aU:=if m=bp then Bn else if m=cM then Bm else m
def oT(a b:aU):aU:=(max a.1 b.1,max a.2 b.2)
def Fg(m:aU):aU:=(m.2,m.1)
def rF(j:aU):aU:=
 if j.2=2 then cM else if j.2=1∧1≤j.1 then pV else if j.2=1 then Bm else if j.1=2 then bp else if j.1=1 then Bn else naM
def xL(l:List aU):aU:=l.foldl oT naM
def firstM(l:List aU):aU:=(l.find? fun m=>decide (m≠naM)).getD naM
def zV(m:aU):Bool:=decide (m=naM∨m=bp∨m=cM)
def oY:List aU→aU→aU
 | [],j=>j
 |m::r,j=>if zV m=false then pV else oY r (if j=naM then m else if m≠naM then pV else j)
def iC(alg:Int)(l:List aU):aU:=
 if alg=1 then rF (xL l)
 else if alg=2 then Fg (rF (Fg (xL l)))
 else if alg=3 then firstM l
 else if alg=4 then oY l naM
 else if alg=5 then(if bp∈l then bp else cM)
 else if alg=6 then(if cM∈l then cM else bp)
 else naM
def yj(gs:List bt)(a:qK):List bB:=getD gs a.cat a.name
def nS(a b:bB):Option Bool:=
 if bH a=false∨bH b=false∨a.kind≠b.kind∨a.kind=1 then none
 else if a.kind=3∨a.kind=5 then some (Op.bytesLess a.s b.s)else some (decide (a.n<b.n))
def cZ(m:bR)(v:bB):Option Bool:=
 if m.op=1 then(if v.kind=m.val.kind then some (eqV v m.val)else none)
 else if m.op=2 then nS v m.val else nS m.val v
def ko(gs:List bt)(m:bR):Nat:=
 if yj gs m.attr= []∧m.attr.must=true then 1
 else if(yj gs m.attr).any fun v=>cZ m v==some true then 2
 else if(yj gs m.attr).any fun v=>cZ m v==none then 1 else 0
def C9(gs:List bt)(l:List bR):Nat:=l.foldl (fun a m=>min a (ko gs m)) 2
def Am(gs:List bt)(l:List (List bR)):Nat:=l.foldl (fun a x=>max a (C9 gs x)) 0
def nu(gs:List bt)(t:gj):Nat:=t.foldl (fun a x=>min a (Am gs x)) 2
structure jJ where
 bag:List bB
 v:bB
 e:Int
def dR(b:Bool):bB:=⟨1,if b then 1 else 0,[]⟩
def jh(b:Bool):jJ:=⟨[],dR b,0⟩
def isI(x:jJ)(n:Int):Bool:=x.e==0 && eqV x.v ⟨1,n,[]⟩
abbrev w64(n:Int):Int:=IntKind.i64.wrap n
def Li(a b:Int):Bool:=decide (0<b) && decide (w64 (9223372036854775807 - b)<a)||decide (b<0) && decide (a<w64 (-9223372036854775808 - b))
def NI(a b:Int):Bool:=decide (0<b) && decide (a<w64 (-9223372036854775808+b))||decide (b<0) && decide (w64 (9223372036854775807+b)<a)
def Ka(a b:Int):Bool:=a== -1 && b== -9223372036854775808||b== -1 && a== -9223372036854775808||a !=0 && w64 ((w64 (a*b)).tdiv a) !=b
def ot(e:Int):bB×Int:=(ax,e)
def Az(o:Bool)(n:Int):bB×Int:=if o then ot 3 else(⟨2,w64 n,[]⟩,0)
def iu(op:Int)(l:List bB):bB×Int:=
 if¬(6≤op∧op≤13)∨l.length≠(if op=11 then 1 else 2)∨(l.all bH)=false then ot 1
 else
  let a:=l.getD 0 ax;let b:=l.getD 1 ax
  if op=6 then(if a.kind=b.kind then(dR (eqV a b),0)else ot 2)
  else if op=7 then(match nS a b with
   |some x=>(dR x,0)
   |none=>ot 2)
  else if op=8∨op=9∨op=10 then
   (if l.all fun v=>v.kind==2 then(if op=8 then Az (Li a.n b.n) (a.n+b.n)else if op=9 then Az (NI a.n b.n) (a.n - b.n)else Az (Ka a.n b.n) (a.n*b.n))else ot 2)
  else if(l.all fun v=>v.kind==1)=false then ot 2
  else if op=11 then(dR (a.n==0),0)
  else if op=12 then(dR (a.n==1 && b.n==1),0)
  else(dR (a.n==1||b.n==1),0)
def opsOf(op:Int):Nat:=if op=1∨op=2 then 0 else if op=3∨op=4∨op=11 then 1 else 2
def AM(r:bB×Int):jJ:=⟨[],r.1,r.2⟩
def lV(gs:List bt)(n:aO)(l:List jJ):jJ:=
 if n.op=1 then⟨[],n.val,0⟩
 else if n.op=2 then(if yj gs n.attr= []∧n.attr.must=true then⟨[],ax,4⟩else⟨yj gs n.attr,ax,0⟩)
 else if(n.op=12∨n.op=13)∧(l.any fun x=>isI x (n.op - 12))=true then jh (n.op==13)
 else match l.find? fun x=>x.e !=0 with
  |some x=>⟨[],ax,x.e⟩
  |none=>
   if n.op=3 then(match (l.headD ⟨[],ax,0⟩).bag with
    | [v]=>⟨[],v,0⟩
    |_=>⟨[],ax,4⟩)
   else if n.op=4 then⟨[],⟨2,(l.headD ⟨[],ax,0⟩).bag.length,[]⟩,0⟩
   else if n.op=5 then jh ((l.headD ⟨[],ax,0⟩).bag.any fun v=>eqV v (l.getD 1 ⟨[],ax,0⟩).v)
   else AM (iu n.op (l.map (·.v)))
def zU(gs:List bt)(st:List jJ)(n:aO):List jJ:=st.take (st.length - opsOf n.op)++ [lV gs n (st.drop (st.length - opsOf n.op))]
def wI(gs:List bt)(l:List aO):jJ:=if l= []then AM (ot 1)else(l.foldl (zU gs) []).headD (AM (ot 1))
def qX(gs:List bt)(l:List aO):Nat:=if l.isEmpty then 2 else if isI (wI gs l) 1 then 2 else if isI (wI gs l) 0 then 0 else 1
def eU(l:List cE)(m:aU):List cE:=l.filter fun o=>o.on==1 && m==bp||o.on==2 && m==cM
def nP(r:cS)(t c:Nat):jX:=
 let m:=if r.deny then cM else bp
 if t=0∨t=2∧c=0 then(naM,[])else if t=1∨c=1 then(hY m,[])else(m,eU r.obls m)
def iI(gs:List bt)(r:cS):jX:=nP r (nu gs r.tgt) (qX gs r.cond)
def eW(alg:Int)(m:aU)(parts:List jX):List cE:=
 if alg=3 then((parts.find? fun x=>x.1==m).map (·.2)).getD []else((parts.filter fun x=>x.1==m).map (·.2)).flatten
def qB(alg:Int)(obls:List cE)(t:Nat)(parts:List jX):jX:=
 let m:=iC alg (parts.map (·.1))
 if t=0 then(naM,[])else if t=1 then(hY m,[])else if m≠bp∧m≠cM then(m,[])
 else(m,eW alg m parts++eU obls m)
mutual
def fL(gs:List bt):bF→jX
 |.mk id set alg tgt rules kids obls=>if nu gs tgt=0 then(naM,[])else qB alg obls (nu gs tgt) (rules.map (iI gs)++nc gs kids)
def nc(gs:List bt):List bF→List jX
 | []=>[]
 |k::r=>fL gs k::nc gs r
end
theorem tZ(gs:List bt):∀l:List bF,nc gs l=l.map (fL gs)
 | []=>aei
 |k::r=>by simp[nc,tZ gs r]
def th:bF→gj
 |.mk _ _ _ t _ _ _=>t
def oU:gj→Option bR
 | []=>none
 | [l]::r=>match l.find? fun m=>m.op==1 && !m.attr.must with
  |some m=>some m
  |none=>oU r
 |_::r=>oU r
def tc(gs:List bt)(p:bF):Bool:=match oU (th p)with
 |none=>true
 |some m=>decide (ko gs m≠0)
mutual
def lW(gs:List bt):bF→bF
 |.mk id set alg tgt rules kids obls=> .mk id set alg tgt rules (kT gs kids) obls
def kT(gs:List bt):List bF→List bF
 | []=>[]
 |k::r=>if tc gs k then lW gs k::kT gs r else kT gs r
end
end Go.Bf
namespace Go.Bf
open Go Go.Ab
variable {n:Int}{r t:Txt}
def o8:Nat→Nat→Txt
 |0,_=>[]
 |f+1,u=>if u<128 then [UInt8.ofNat u]else UInt8.ofNat (u % 128+128)::o8 f (u / 128)
def zig(n:Int):Nat:=if 0≤n then 2*n.toNat else 2*(-n).toNat - 1
def iU(n:Int):Txt:=o8 10 (zig n)
def dI(s:Txt):Txt:=iU s.length++s
def oH(v:bB):Txt:=iU v.kind++(if v.kind=3∨v.kind=5 then dI v.s else iU v.n)
def gO(o:OpD):Txt:=iU o.kind++(dI o.subj++(dI o.case++(dI o.field++(dI o.to++(oH o.val++(iU o.review++(dI o.text++(dI o.reason++oH (dR o.glass)))))))))
theorem N8(h:i64 n):zig n<128 ^ 10:=by grind [i64,zig,Nat]
structure XN (v:bB):Prop where
 kind:i64 v.kind
 n:i64 v.n
 s:v.s.length≤1000000
 one:(v.kind=3∨v.kind=5→v.n=0)∧(¬(v.kind=3∨v.kind=5)→v.s= [])
structure OpC (o:OpD):Prop where
 kind:i64 o.kind
 subj:o.subj.length≤1000000
 case:o.case.length≤1000000
 field:o.field.length≤1000000
 to:o.to.length≤1000000
 val:XN o.val
 review:i64 o.review
 text:o.text.length≤1000000
 reason:o.reason.length≤1000000
structure RS where
 b:Txt
 at_:Nat
 bad:Bool
variable {s:RS}
def unzig(u:Nat):Int:=if u % 2=1 then -((u / 2:Nat):Int) - 1 else((u / 2:Nat):Int)
def rI:Nat→Nat→Nat→Txt→Int×Nat
 |0,_,_,_=>(0,0)
 |_+1,_,_,[]=>(0,0)
 |f+1,i,u,c::r=>
  if(i=9∧1<c.toNat)∨(0<i∧c.toNat=0)then(0,0)
  else if c.toNat<128 then(unzig (u+c.toNat*128 ^ i),i+1)
  else rI f (i+1) (u+c.toNat % 128*128 ^ i) r
def mB(s:RS)(a:Nat):RS:=if s.bad=false∧a≤s.at_ then {s with at_:=a,bad:=true} else s
def rIn(s:RS)(lo hi:Int):Int×RS:=
 if s.bad then(0,s)else
 let x:=rI 10 0 0 (s.b.drop s.at_)
 if x.2=0∨x.1<lo∨hi<x.1 then(0,mB s s.at_)else(x.1,{s with at_:=s.at_+x.2})
def gF(s:RS):Int×RS:=rIn s (-9223372036854775808) 9223372036854775807
def bY(s:RS)(most:Int):Txt×RS:=
 let x:=rIn s 0 most
 if x.2.bad∨(x.2.b.length:Int) - x.2.at_<x.1 then([],mB x.2 s.at_)else((x.2.b.drop x.2.at_).take x.1.toNat,{x.2 with at_:=x.2.at_+x.1.toNat})
def oS(k:Int):Bool:=k==3||k==5
def qJ(s:RS):bB×RS:=
 let x:=rIn s 1 5
 let y:bB×RS:=if oS x.1 then(let t:=bY x.2 64;(⟨x.1,0,t.1⟩,t.2))else(let t:=gF x.2;(⟨x.1,t.1,[]⟩,t.2))
 if y.2.bad then(ax,y.2)else if bH y.1=false then(ax,mB y.2 s.at_)else y
def qj(s:RS):bB×RS:=
 if s.at_<s.b.length∧s.b.getD s.at_ 0=0 then(ax,(rIn (rIn s 0 0).2 0 0).2)else qJ s
def rOp(b:Txt):OpD×RS:=
 let k:=gF ⟨b,0,false⟩
 let s1:=bY k.2 16
 let s2:=bY s1.2 16
 let s3:=bY s2.2 16
 let s4:=bY s3.2 16
 let v:=qj s4.2
 let r:=gF v.2
 let t:=bY r.2 4096
 let w:=bY t.2 64
 let g:=qJ w.2
 (⟨k.1,s1.1,s2.1,s3.1,s4.1,v.1,r.1,t.1,w.1,eqV g.1 (dR true)⟩,g.2)
def Kq(s:RS):Bool:=decide (s.b.length≤s.at_) && !s.bad
def oR(b:Txt):Option OpD:=if Kq (rOp b).2 && dH (rOp b).1 && decide (gO (rOp b).1=b)then some (rOp b).1 else none
theorem KT(n:Int):unzig (zig n)=n:=by grind [unzig,zig]
theorem Ft(h:i64 n):zig n<18446744073709551616:=by grind [i64,zig]
theorem IU:∀(f v:Nat),0<f→o8 f v≠ []
 |0,_,h=>ad3
 |f+1,v,_=>by grind [o8]
theorem Ip:∀(f i u v:Nat) (r:Txt),f+i=10→0<f→v<128 ^ f→u<128 ^ i→u+v*128 ^ i<18446744073709551616→(0<i→0<v)→
  rI f i u (o8 f v++r)=(unzig (u+v*128 ^ i),i+(o8 f v).length)
 |0,i,u,v,r,_,h,_,_,_,_=>ad3
 |f+1,i,u,v,r,hfi,_,hv,hu,ht,h0=>by
  have p9:(128:Nat) ^ 9=9223372036854775808:=ad6;have hlt:∀n,n<256→(UInt8.ofNat n).toNat=n:=fun n hn=>by rw[UInt8.toNat_ofNat'];omega
  by_cases hs:v<128
  ·have e:o8 (f+1) v= [UInt8.ofNat v]:=by simp_all [o8,if_pos]
   rw[e];simp only[List.singleton_append,rI,hlt v ad3,List.length_singleton];have hn:¬((i=9∧1<v)∨(0<i∧v=0)):=by grind
   rw[if_neg hn,if_pos hs]
  ·have e:o8 (f+1) v=UInt8.ofNat (v % 128+128)::o8 f (v / 128):=by simp_all [o8,if_neg]
   rw[e];simp only[List.cons_append,rI,hlt (v % 128+128) ad3,List.length_cons];have hi9:i≠9:=by grind
   have hn:¬((i=9∧1<v % 128+128)∨(0<i∧v % 128+128=0)):=by omega
   rw[if_neg hn,if_neg ad3];have hp:(128:Nat) ^ (i+1)=128 ^ i*128:=aei;have hsum:u+(v % 128+128) % 128*128 ^ i+v / 128*128 ^ (i+1)=u+v*128 ^ i:=by
    have h1:(v % 128+128) % 128=v % 128:=ad3;rw[h1,hp,Nat.mul_comm (128 ^ i) 128,←Nat.mul_assoc,Nat.add_assoc,←Nat.add_mul]
    congr 2
    omega
   have hf:0<f:=by omega
   have hv' :v / 128<128 ^ f:=by omega
   have hu' :u+(v % 128+128) % 128*128 ^ i<128 ^ (i+1):=by have h1:(v % 128+128) % 128≤127:=ad3;have h2:=Nat.mul_le_mul_right (128 ^ i) h1;rw[hp];omega
   rw[Ip f (i+1) _ (v / 128) r ad3 hf hv' hu' ad3 ad3,hsum]
   congr 1
   omega
theorem Pu(h:i64 n)(r:Txt):rI 10 0 0 (iU n++r)=(n,(iU n).length):=by
 have:=Ip 10 0 0 (zig n) r rfl ad6 (N8 h) ad6 (by grind [Ft]) ad3
 simp only[Nat.pow_zero,Nat.mul_one,Nat.zero_add]at this;unfold iU;rw[this,KT]
def rAt(s:RS)(x:Txt):Prop:=s.bad=false∧s.at_≤s.b.length∧s.b.drop s.at_=x
def rOn(s:RS)(n:Nat):RS:={s with at_:=s.at_+n}
theorem rAt.on{x y:Txt}(h:rAt s (x++y)):rAt (rOn s x.length) y:=by
 obtain⟨h1,h2,h3⟩:=h;have hl:=congrArg List.length h3;refine⟨h1,by grind [rOn],?_⟩
 grind [rOn,List.drop_drop,List.drop_left]
theorem yU{lo hi:Int}(h:rAt s (iU n++r))(hn:i64 n)(h1:lo≤n)(h2:n≤hi):rIn s lo hi=(n,rOn s (iU n).length):=by
 unfold rIn;have hl:0<(iU n).length:=List.length_pos_iff.2 (IU 10 _ ad6);rw[if_neg (by rw[h.1];simp),h.2.2,Pu hn]
 rw[if_neg ad3];rfl
theorem Cu(h:rAt s (iU n++r))(hn:i64 n):gF s=(n,rOn s (iU n).length):=yU h hn hn.1 hn.2
theorem nC{most:Nat}(h:rAt s (dI t++r))(ht:t.length≤most)(hm:most≤100000):bY s most=(t,rOn s (dI t).length):=by
 unfold dI at h⊢;rw[List.append_assoc]at h;have h6:i64 (t.length:Int):=⟨ad3,ad3⟩;have ha:=h.on;unfold bY;rw[yU (lo:=0) (hi:=most) h h6 ad3 ad3];have hl:=congrArg List.length ha.2.2;have hle:=ha.2.1;rw[if_neg (by rw[ha.1];grind),ha.2.2]
 simp[rOn,adX,Nat.add_assoc]
theorem Ac{v:bB}(h:bH v=true):1≤v.kind∧v.kind≤5:=by grind [bH]
end Go.Bf
namespace Go.Bf
open Go Go.Ab Go.Proofs.YtokahfmoollblaaGreatDoor
variable {v:bB}{s:an}{r t:Txt}{k:Nat}{c:aK}{o:OpD}{gs:List bt}{a:List jX}
theorem Ct{n:Int}(h1: -1000000≤n)(h2:n≤1000000):i64 n:=⟨ad3,ad3⟩
theorem vU(h:bH v=true)(hk:v.kind=3∨v.kind=5):v.n=0∧v.s.length≤64:=by
 unfold bH at h;rcases hk with e|e
 ·grind
 ·rw[if_neg ad3,if_neg ad3,if_neg ad3,if_neg ad3,if_pos e]at h
  simp only[bw,Bool.and_eq_true,beq_iff_eq,decide_eq_true_eq]at h;omega
theorem BW(h:bH v=true)(hk:¬(v.kind=3∨v.kind=5)):v.s= []:=by
 unfold bH at h
 grind
theorem IT{s:RS}(h:rAt s (oH v++r))(hv:bH v=true)(hn:i64 v.n):qJ s=(v,rOn s (oH v).length):=by
 obtain⟨hk1,hk2⟩:=Ac hv;unfold oH at h⊢;rw[List.append_assoc]at h;have ha:=h.on;unfold qJ;rw[yU (lo:=1) (hi:=5) h (by grind [Ct]) hk1 hk2]
 by_cases e:v.kind=3∨v.kind=5
 ·obtain⟨e1,e2⟩:=vU hv e
  rw[if_pos e]at ha⊢;have ht:oS v.kind=true:=by grind [oS]
  have hx:=nC (most:=64) ha e2 ad3;simp only[ht,if_true];rw[show((64:Nat):Int)=64 from rfl]at hx
  rw[hx];have ev:(⟨v.kind,0,v.s⟩:bB)=v:=by rw[←e1]
  exact ajX
 ·have e1:=BW hv e
  rw[if_neg e]at ha⊢;have ht:oS v.kind=false:=by simp_all [oS,not_or]
  have hx:=Cu ha hn;simp only[ht,Bool.false_eq_true,if_false];rw[hx];have ev:(⟨v.kind,v.n,[]⟩:bB)=v:=by rw[←e1]
  exact ajX
theorem Eo:iU 0= [0]:=aei
theorem MV{k:Int}(h1:1≤k)(h2:k≤5):∃c,iU k= [c]∧c≠0:=by
 have:k=1∨k=2∨k=3∨k=4∨k=5:=ad3;rcases this with rfl|rfl|rfl|rfl|rfl
 ·exact⟨2,aei,ad6⟩
 ·exact⟨4,aei,ad6⟩
 ·exact⟨6,aei,ad6⟩
 ·exact⟨8,aei,ad6⟩
 ·exact⟨10,aei,ad6⟩
theorem rAt.head{s:RS}{c:UInt8}{x:Txt}(h:rAt s (c::x)):s.at_<s.b.length∧s.b.getD s.at_ 0=c:=by
 have hl:=congrArg List.length h.2.2;rw[List.length_drop,List.length_cons]at hl;refine⟨ad3,?_⟩;have:=congrArg (fun l=>l[0]?) h.2.2
 simp only[List.getElem?_drop,Nat.add_zero,List.getElem?_cons_zero]at this;rw[List.getD_eq_getElem?_getD,this];rfl
theorem J9{s:RS}(h:rAt s (oH v++r))(hv:v=ax∨bH v=true)(hn:i64 v.n):qj s=(v,rOn s (oH v).length):=by
 rcases hv with rfl|hv
 ·have e:oH ax= [0,0]:=by rfl
  rw[e]at h⊢;have hh:=rAt.head (c:=0) (x:=0::r) h;unfold qj;rw[if_pos ⟨hh.1,hh.2⟩];have h' :rAt s (iU 0++(iU 0++r)):=by grind [Eo]
  rw[yU h' (by grind [Ct]) (Int.le_refl 0) (Int.le_refl 0)]
  rw[yU h'.on (by grind [Ct]) (Int.le_refl 0) (Int.le_refl 0)]
  simp[Eo,rOn,Nat.add_assoc]
 ·obtain⟨hk1,hk2⟩:=Ac hv
  obtain⟨c,e,hc⟩:=MV hk1 hk2;have hh:rAt s (c::((if v.kind=3∨v.kind=5 then dI v.s else iU v.n)++r)):=by grind [oH]
  unfold qj;rw[if_neg (by grind [rAt.head])]
  exact IT h hv hn
theorem vh(h:jg t=true):t.length≤16:=by
 unfold jg at h;simp only[Bool.or_eq_true,beq_iff_eq]at h;rcases h with rfl|h
 ·simp
 simp_all [bw,Bool.and_eq_true,decide_eq_true_eq]
structure OpF (o:OpD):Prop where
 subj:o.subj.length≤16
 case:o.case.length≤16
 field:o.field.length≤16
 to:o.to.length≤16
 val:o.val=ax∨bH o.val=true
 text:o.text.length≤4096
 reason:o.reason.length≤64
theorem jz(h:dH o=true):OpF o:=by
 simp only[dH,Bool.and_eq_true,decide_eq_true_eq]at h;obtain⟨⟨⟨⟨⟨⟨⟨h1,h2⟩,h3⟩,h4⟩,h5⟩,h6⟩,h7⟩,h8⟩:=h;simp only[bw,Bool.and_eq_true,decide_eq_true_eq]at h1;refine⟨h1.2,vh h4,vh h5,vh h6,?_,h3,?_⟩
 ·simp only[Bool.or_eq_true]at h7
  rcases h7 with h7|h7
  ·left
   generalize o.val=v at h7;obtain⟨k,n,s⟩:=v;simp only[eqV,ax,Bool.and_eq_true,beq_iff_eq]at h7;obtain⟨rfl,rfl,rfl⟩:=h7;rfl
  grind
 ·unfold mK at h2
  grind
theorem z8(b:Bool):bH (dR b)=true:=by cases b<;>rfl
theorem NP(b:Bool):eqV (dR b) (dR true)=b:=by cases b<;>rfl
theorem SM(hf:OpF o)(h64:kW o):rOp (gO o)=(o,⟨gO o,(gO o).length,false⟩):=by
 have h0:rAt ⟨gO o,0,false⟩ (gO o):=⟨rfl,Nat.zero_le _,rfl⟩;obtain⟨k1,k2,k3,k4⟩:=h64;unfold gO at h0;have e0:=Cu h0 k1;have h1:=h0.on;have e1:=nC (most:=16) h1 hf.subj ad3;have h2:=h1.on;have e2:=nC (most:=16) h2 hf.case ad3;have h3:=h2.on;have e3:=nC (most:=16) h3 hf.field ad3;have h4:=h3.on;have e4:=nC (most:=16) h4 hf.to ad3;have h5:=h4.on;have e5:=J9 h5 hf.val k3;have h6:=h5.on;have e6:=Cu h6 k4;have h7:=h6.on;have e7:=nC (most:=4096) h7 hf.text ad3;have h8:=h7.on;have e8:=nC (most:=64) h8 hf.reason ad3;have h9:=h8.on;have h9' :=h9;rw[←List.append_nil (oH (dR o.glass))]at h9';have e9:=IT h9' (z8 _) (by cases o.glass<;>exact⟨ad6,ad6⟩)
 have h10:=h9'.on;simp only[List.append_nil]at e9 h10;simp only[show((16:Nat):Int)=16 from rfl,show((4096:Nat):Int)=4096 from rfl,show((64:Nat):Int)=64 from rfl]at e1 e2 e3 e4 e7 e8
 have hend:=congrArg List.length h10.2.2;rw[List.length_drop,List.length_nil]at hend;have hle:=h10.2.1;unfold rOp;rw[show gO o=iU o.kind++(dI o.subj++(dI o.case++(dI o.field++(dI o.to++(oH o.val++(iU o.review++(dI o.text++(dI o.reason++oH (dR o.glass)))))))))from rfl]
 simp only[e0,e1,e2,e3,e4,e5,e6,e7,e8,e9,NP];simp only[rOn]at hend hle⊢;refine Prod.ext rfl ?_;simp only[RS.mk.injEq,and_true,true_and];omega
theorem OW(hf:dH o=true)(h64:kW o):oR (gO o)=some o:=by grind [oR,SM,jz,Kq]
theorem get_some{b:Txt}(h:oR b=some o):dH o=true∧gO o=b:=by
 unfold oR at h
 grind
theorem uc{α:Type}(f:α→Nat):∀(l:List α) (a:Nat),l.foldl (fun a x=>min a (f x)) a≤a∧∀x∈l,l.foldl (fun a x=>min a (f x)) a≤f x
 | [],a=>aea
 |y::l,a=>by
  obtain⟨h1,h2⟩:=uc f l (min a (f y))
  grind
theorem O8:∀ {t:gj} {m:bR},oU t=some m→ko gs m=0→nu gs t=0:=by
 intro t;have main:∀(t:gj) (m:bR),oU t=some m→ko gs m=0→∃x∈t,Am gs x=0:=by
  intro t
  induction t with
  |nil=>intro m h;cases h
  |cons x r ih=>
   intro m h h0
   match x,h with
   | [],h=>obtain⟨y,hy,e⟩:=ih m h h0;exact⟨y,List.mem_cons_of_mem _ hy,e⟩
   | [l],h=>
    simp only[oU]at h;cases hf:l.find? fun m=>m.op==1 && !m.attr.must with
    |none=>rw[hf]at h;obtain⟨y,hy,e⟩:=ih m h h0;exact⟨y,List.mem_cons_of_mem _ hy,e⟩
    |some k=>
     rw[hf]at h;cases h;have hm:=List.mem_of_find?_eq_some hf;have hall:C9 gs l=0:=by have:=(uc (ko gs) l 2).2 _ hm;rw[h0]at this;exact Nat.le_zero.1 this
     exact⟨[l],List.mem_cons_self ..,by grind [Am]⟩
   |a::b::c,h=>obtain⟨y,hy,e⟩:=ih m h h0;exact⟨y,List.mem_cons_of_mem _ hy,e⟩
 intro m h h0;obtain⟨x,hx,e⟩:=main t m h h0;have:=(uc (Am gs) t 2).2 x hx;rw[e]at this;exact Nat.le_zero.1 this
theorem Pp{p:bF}(h:tc gs p=false):fL gs p=(naM,[]):=by
 obtain⟨id,set,alg,tgt,rules,kids,obls⟩:=p;unfold tc at h;simp only[th]at h;cases hk:oU tgt with
 |none=>grind
 |some m=>simp_all [ko,fL,O8,if_true]
theorem O5(j:aU):oT j naM=j:=by simp[oT,naM]
inductive Drop:List jX→List jX→Prop
 |nil:Drop [] []
 |keep (x:jX) {a b:List jX} (h:Drop a b):Drop (x::a) (x::b)
 |skip {a b:List jX} (h:Drop a b):Drop a ((naM,[])::b)
theorem Drop.app{b c:List jX}(h:Drop a b):Drop (c++a) (c++b):=by
 induction c with
 |nil=>exact h
 |cons x c ih=>grind [keep]
theorem Drop.join{b:List jX}(h:Drop a b):∀j,(a.map (·.1)).foldl oT j=(b.map (·.1)).foldl oT j:=by
 induction h with
 |nil=>simp
 |keep x h ih=>grind
 |skip h ih=>grind [O5]
theorem Drop.first{b:List jX}(h:Drop a b):firstM (a.map (·.1))=firstM (b.map (·.1)):=by
 unfold firstM
 congr 1
 induction h with
 |nil=>rfl
 |keep x h ih=>grind
 |skip h ih=>simpa using ih
theorem Drop.only{b:List jX}(h:Drop a b):∀j,oY (a.map (·.1)) j=oY (b.map (·.1)) j:=by
 induction h with
 |nil=>simp
 |keep x h ih=>grind [oY]
 |skip h ih=>
  intro j;have hs:zV naM=true:=ad6;simp only[List.map_cons,oY,hs,Bool.true_eq_false,if_false];rw[←ih]
  congr 1
  simp
theorem Drop.mem{b:List jX}(h:Drop a b){m:aU}(hm:m≠naM):m∈a.map (·.1)↔m∈b.map (·.1):=by exact aje
theorem Drop.comb{b:List jX}(h:Drop a b)(alg:Int):iC alg (a.map (·.1))=iC alg (b.map (·.1)):=by unfold iC xL;rw[h.join,h.first,h.only];simp only[h.mem (show bp≠naM by decide),h.mem (show cM≠naM by decide)]
theorem Drop.parts{b:List jX}(h:Drop a b)(alg:Int){m:aU}(hm:m≠naM):eW alg m a=eW alg m b:=by
 have h1:(a.find? fun x=>x.1==m)=b.find? fun x=>x.1==m:=by exact aje
 have h2:(a.filter fun x=>x.1==m)=b.filter fun x=>x.1==m:=by clear h1;exact aje
 simp only[eW,h1,h2]
theorem Drop.qB{b:List jX}(h:Drop a b)(alg:Int)(obls:List cE)(t:Nat):qB alg obls t a=qB alg obls t b:=by
 unfold Go.Bf.qB;simp only[h.comb alg]
 by_cases hp:iC alg (b.map (·.1))=bp
 ·rw[hp,h.parts alg ad6]
 ·by_cases hd:iC alg (b.map (·.1))=cM
  ·rw[hd,h.parts alg ad6]
  grind
mutual
theorem BA(gs:List bt):∀p:bF,fL gs (lW gs p)=fL gs p
 |.mk id set alg tgt rules kids obls=>by
  simp only[lW,fL]
  by_cases h:nu gs tgt=0
  ·simp only[h,if_true]
  ·simp only[h,if_false]
   exact(BB gs kids).app.qB alg obls _
theorem BB(gs:List bt):∀l:List bF,Drop (nc gs (kT gs l)) (nc gs l)
 | []=>by simp only[kT,nc];exact .nil
 |k::r=>by
  have ih1:=BA gs k;have ih2:=BB gs r;simp only[kT,nc]
  by_cases h:tc gs k=true
  ·simp only[h,if_true,nc,ih1]
   exact .keep _ ih2
  ·have h:tc gs k=false:=by simpa using h
   simp only[h,Bool.false_eq_true,if_false,Pp h];exact .skip ih2
end
structure jW where
 err:Int
 mark:aU
 glass:Bool
 val:bB
 hidden:Bool
 at_:Int
structure pn where
 op:OpD
 version:Int
 mark:aU
 glass:Bool
 obls:List cE
def Qd:OpD:=⟨0,[],[],[],[],ax,0,[],[],false⟩
def xX:pn:=⟨Qd,0,naM,false,[]⟩
def Cs:Txt:=[103,108,97,115,115]
def rG(s:an)(r:pq):Bool:=r.isOpen && decide (100≤s.tick - r.tick)
def MB(s:an)(subj:Txt):Bool:=s.reviews.any fun r=>r.subj==subj && rG s r
def tM(s:an)(o:OpD)(m:aU):Bool:=o.glass && (m==cM||m==naM) && yQ s.roles ⟨o.subj,Cs⟩ && !MB s o.subj
def BL(s:an)(o:OpD)(reason:Txt):pq:=⟨(s.reviews.length:Int)+1,s.tick,o.subj,o.case,jY o.kind,reason,true⟩
def bW(s:an)(o:OpD)(reason:Txt):an:={s with reviews:=s.reviews++ [BL s o reason]}
def j9(l:List cE)(field:Txt):Bool:=l.any fun x=>x.kind==2 && x.arg==field
def iT(cs:List aK)(id:Txt):Nat:=cs.findIdx fun c=>c.id==id
def ja(s:an)(o:OpD)(what:Txt):an:=
 if iT s.cases o.case<s.cases.length∧o.kind≠6 then {s with cases:=s.cases.modify (iT s.cases o.case) fun c=>jD s c o.subj what} else s
def fK(o:OpD)(done:Bool)(s:an)(x:cE):an:=
 if x.kind=1∧done=true then ja s o x.arg
 else if x.kind=3 then bW s o x.arg
 else if x.kind=4 then {s with notices:=s.notices++ [⟨s.tick,o.case,x.arg⟩]}
 else s
def dO(s:an)(o:OpD)(l:List cE)(done:Bool):an:=l.foldl (fK o done) s
def sE(s:an):Bool:=decide (256<s.reviews.length)||decide (256<s.notices.length)||s.cases.any fun c=>decide (256<c.log.length)
def gM(s:an)(o:OpD):jX:=fL (fN s o) s.policy
def kE(s:an)(o:OpD):Int×Int:=if bQ s o=0∧o.kind=7 then((aS o.text).2.1,(aS o.text).2.2)else(bQ s o,0)
def fP(s:an)(o:OpD):Bool:=tM s o (gM s o).1
def tQ(s:an)(o:OpD):Bool:=decide ((gM s o).1=bp)||fP s o
def dF(s:an)(o:OpD):an:=
 let s1:=if fP s o then bW s o o.reason else s
 dO (if tQ s o then ew aS s1 o else s1) o (gM s o).2 (tQ s o)
def oD(s:an)(o:OpD):jW:=
 ⟨if tQ s o then 0 else 12,(gM s o).1,fP s o,if tQ s o && o.kind==2 && !j9 (gM s o).2 o.field then eV (bx s.cases o.case).fields o.field else ax,tQ s o && o.kind==2 && j9 (gM s o).2 o.field,0⟩
def aI(s:an)(o:OpD):an×jW×pn×Int:=
 if(kE s o).1≠0 then(s,⟨(kE s o).1,naM,false,ax,false,(kE s o).2⟩,xX,(kE s o).1)
 else if sE (dF s o)then(s,⟨6,naM,false,ax,false,0⟩,xX,6)
 else(dF s o,oD s o,⟨o,s.version,(gM s o).1,fP s o,(gM s o).2⟩,0)
theorem zi(s:an)(o:OpD)(w:Txt):(ja s o w).tick=s.tick∧(ja s o w).roles=s.roles∧(ja s o w).policy=s.policy∧(ja s o w).version=s.version∧(ja s o w).reviews=s.reviews∧(ja s o w).notices=s.notices:=by grind [ja]
theorem Dz(o:OpD)(done:Bool)(s:an)(x:cE):(fK o done s x).tick=s.tick∧(fK o done s x).roles=s.roles∧(fK o done s x).policy=s.policy∧(fK o done s x).version=s.version:=by
 unfold fK;split
 ·grind [zi]
 ·split
  ·exact⟨rfl,rfl,rfl,rfl⟩
  grind
theorem FV(o:OpD)(done:Bool):∀(l:List cE) (s:an),(dO s o l done).tick=s.tick∧(dO s o l done).roles=s.roles∧(dO s o l done).policy=s.policy∧(dO s o l done).version=s.version
 | [],s=>⟨rfl,rfl,rfl,rfl⟩
 |x::l,s=>by obtain⟨a1,a2,a3,a4⟩:=Dz o done s x;obtain⟨b1,b2,b3,b4⟩:=FV o done l (fK o done s x);exact⟨b1.trans a1,b2.trans a2,b3.trans a3,b4.trans a4⟩
def gZ(o:OpD)(a b:List pq):Prop:=∃c,b=a++c∧∀i (h:i<c.length),c[i].id=((a.length+i+1:Nat):Int)∧c[i].isOpen=true∧c[i].subj=o.subj
theorem gZ.refl(o:OpD)(a:List pq):gZ o a a:=⟨[],aea,fun i h=>aeV⟩
theorem gZ.trans{a b c:List pq}(h1:gZ o a b)(h2:gZ o b c):gZ o a c:=by
 obtain⟨x,rfl,hx⟩:=h1;obtain⟨y,rfl,hy⟩:=h2;refine⟨x++y,aea,fun i h=>?_⟩
 grind
theorem gZ.open(s:an)(o:OpD)(w:Txt):gZ o s.reviews (bW s o w).reviews:=⟨[BL s o w],rfl,fun i h=>by have:i=0:=ad4;subst this;exact⟨aei,rfl,rfl⟩⟩
theorem gZ.duties(o:OpD)(done:Bool):∀(l:List cE) (s:an),gZ o s.reviews (dO s o l done).reviews
 | [],s=> .refl o _
 |x::l,s=>by
  have:gZ o s.reviews (fK o done s x).reviews:=by
   unfold fK;split
   ·grind [zi,refl]
   ·split
    ·exact .open s o _
    grind [refl]
  exact this.trans (gZ.duties o done l _)
structure Hx (c:aK):Prop where
 id:bw c.id=true
 owner:bw c.owner=true
 state:c.state∈qp
 asc:Fu c.fields
 nfields:c.fields.length≤16
 field:∀f∈c.fields,bw f.name=true∧bH f.val=true∧eqV f.val ax=false
 log1:1≤c.log.length
 actor:∀x∈c.log,bw x.actor=true∧i64 x.tick
theorem uZ.w(h:uZ c):Hx c:=⟨h.id,h.owner,h.state,h.asc,h.nfields,h.field,h.log1,h.actor⟩
theorem Hx.ok(h:Hx c)(hl:c.log.length≤256):uZ c:=⟨h.id,h.owner,h.state,h.asc,h.nfields,h.field,h.log1,hl,h.actor⟩
structure mg (k:Nat) (s:an):Prop where
 tick:0≤s.tick∧s.tick≤1099511627776
 asc:Asc s.cases
 ncases:s.cases.length≤64
 case:∀c∈s.cases,Hx c
 roles:s.roles.length≤64
 role:∀r∈s.roles,bw r.subj=true∧bw r.role=true
 pol:gQ s.policy=0
 ver:0≤s.version∧s.version≤k
theorem dM.w(h:dM k s):mg k s:=⟨h.tick,h.asc,h.ncases,fun c hc=>(h.case c hc).w,h.roles,h.role,h.pol,h.ver⟩
theorem mg.ok(h:mg k s)(ho:sE s=false):dM k s:=by
 unfold sE at ho;simp only[Bool.or_eq_false_iff,decide_eq_false_iff_not]at ho;refine⟨h.tick,h.asc,h.ncases,fun c hc=>(h.case c hc).ok ?_,ad3,ad3,h.roles,h.role,h.pol,h.ver⟩
 grind
theorem Hl(o:OpD)(w:Txt)(h:mg k s):mg k (bW s o w):={h with}
theorem Hj(hn:bw o.subj=true)(w:Txt)(h:mg k s):mg k (ja s o w):=by
 unfold ja;split
 ·refine {h with asc:=Cg (kZ fun x=>rfl) h.asc,ncases:=by simpa using h.ncases,case:= ?_}
  intro d hd;rcases mem_modify hd with hd|⟨hi,rfl⟩
  ·exact h.case d hd
  ·have hc:=h.case _ (adY hi)
   refine⟨hc.id,hc.owner,hc.state,hc.asc,hc.nfields,hc.field,ah9,?_⟩;intro x hx;simp only[jD,List.mem_append,List.mem_singleton]at hx;rcases hx with hx|rfl
   ·exact hc.actor x hx
   ·exact⟨hn,by have:=h.tick;constructor<;>simp only<;>omega⟩
 omega
theorem Hi(hn:bw o.subj=true)(done:Bool)(x:cE)(h:mg k s):mg k (fK o done s x):=by
 unfold fK;split
 ·grind [Hj]
 ·split
  ·grind [Hl]
  ·split
   ·exact {h with}
   omega
theorem uK{k:Nat}{o:OpD}(hn:bw o.subj=true)(done:Bool):∀(l:List cE) {s:an},mg k s→mg k (dO s o l done)
 | [],s,h=>h
 |x::l,s,h=>uK hn done l (Hi hn done x h)
theorem CG(o:OpD)(w:Txt)(h:dM k s)(hr:s.reviews.length≤999):dM k (bW s o w):={h with nrev:=by grind [bW]}
structure jV (k:Nat) (s:an):Prop extends dM k s where
 ids:∀i (h:i<s.reviews.length),s.reviews[i].id=((i+1:Nat):Int)
 nr:s.reviews.length≤256
 nn:s.notices.length≤256
theorem JO:jV 0 td:={KI with ids:=fun i h=>aeV,nr:=ad6,nn:=ad6}
theorem uC(h:(kE s o).1=0):bQ s o=0∧dH o=true∧(o.kind=7→(aS o.text).2.1=0):=by
 unfold kE at h;have hr:bQ s o=0:=by grind
 have hf:dH o=true:=by
  unfold bQ at hr
  grind
 exact⟨hr,hf,fun hk=>ad4⟩
theorem Lx(h:jV k s)(hp:(kE s o).1=0):mg (k+1) (dF s o):=by
 have hn:=(ud (uC hp).2.1).subj;have h1:dM k (if fP s o then bW s o o.reason else s):=by
  split
  ·exact CG o _ h.todM (by have:=h.nr;omega)
  ·exact h.todM
 refine uK hn _ _ ?_;split
 ·exact(qq o h1).w
 ·have:=h1.w
  exact {this with ver:=⟨this.ver.1,by have:=this.ver.2;omega⟩}
def shut(r:pq):pq:={r with isOpen:=false}
theorem vg(par:Txt→bF×Int×Int)(s:an)(o:OpD):(ew par s o).reviews=if bQ s o=0∧o.kind=5 then s.reviews.modify (o.review - 1).toNat shut else s.reviews:=by
 unfold ew
 by_cases hr:bQ s o=0
 ·rw[if_pos hr]
  unfold doD
  by_cases k1:o.kind=1
  ·grind
  ·by_cases k3:o.kind=3
   ·grind
   ·by_cases k4:o.kind=4
    ·grind
    ·by_cases k5:o.kind=5
     ·simp[k5,hr];rfl
     grind
 grind
theorem yM(h:dH o=true)(hg:o.glass=true):1≤o.kind∧o.kind≤4:=by simp_all [dH,Bool.and_eq_true,mK,if_true,vE,decide_eq_true_eq]
theorem DW(h:fP s o=true):o.glass=true:=by simp_all [fP,tM,Bool.and_eq_true]
structure Fx (s:an) (o:OpD) (t:an) (r:jW) (e:Int):Prop where
 len:s.reviews.length≤t.reviews.length
 old:∀i (h:i<s.reviews.length) (h' :i<t.reviews.length),(e=0∧r.err=0∧o.kind=5∧o.review=((i+1:Nat):Int)→o.subj≠s.reviews[i].subj∧s.reviews[i].isOpen=true∧t.reviews[i].isOpen=false∧t.reviews[i].id=s.reviews[i].id)∧
  (¬(e=0∧r.err=0∧o.kind=5∧o.review=((i+1:Nat):Int))→t.reviews[i]=s.reviews[i])
 new:∀i (h:i<t.reviews.length),s.reviews.length≤i→t.reviews[i].id=((i+1:Nat):Int)∧t.reviews[i].isOpen=true∧t.reviews[i].subj=o.subj
 glass:r.glass=true→∃h:s.reviews.length<t.reviews.length,t.reviews[s.reviews.length].reason=o.reason
theorem Fx.same(s:an)(o:OpD)(e:Int)(r:jW)(he:e≠0)(hg:r.glass=false):Fx s o s r e:=
 ⟨Nat.le_refl _,fun i h h' =>⟨fun hc=>(he hc.1).elim,fun _=>rfl⟩,fun i h h' =>ad3,fun h=>ad4⟩
theorem Ir{a b:List pq}(h:gZ o a b):a.length≤b.length∧(∀i (h1:i<a.length) (h2:i<b.length),b[i]=a[i])∧∀i (h1:i<b.length),a.length≤i→b[i].id=((i+1:Nat):Int)∧b[i].isOpen=true∧b[i].subj=o.subj:=by
 obtain⟨c,rfl,hc⟩:=h;refine⟨aea,fun i h1 h2=>ad4,fun i h1 h2=>?_⟩
 grind
theorem Dm(hr:bQ s o=0)(hf:dH o=true)(hk:o.kind=5):1≤o.review∧∃h:(o.review - 1).toNat<s.reviews.length,s.reviews[(o.review - 1).toNat].isOpen=true∧s.reviews[(o.review - 1).toNat].subj≠o.subj:=by
 have F:=ud hf;have hok:=F.ok;unfold okD at hok;simp only[hk,show¬(5:Int)=1 by decide,show¬((5:Int)=2∨(5:Int)=6) by decide,show¬(5:Int)=3 by decide,show¬(5:Int)=4 by decide,if_false,if_true,decide_eq_true_eq]at hok
 unfold bQ at hr;simp only[hk,Bool.true_eq_false,show¬(5:Int)=1 by decide,show¬(2≤(5:Int)∧(5:Int)≤4) by decide,if_false,if_true]at hr
 unfold fy wU at hr;rw[if_pos (by omega:1≤o.review)]at hr
 refine⟨ad3,?_⟩;cases hx:s.reviews[(o.review - 1).toNat]? with
 |none=>simp_all
 |some r=>
  rw[hx]at hr;obtain⟨h,rfl⟩:=List.getElem?_eq_some_iff.1 hx;refine⟨h,?_,?_⟩
  ·grind
  ·intro e
   simp only[e,if_true]at hr;omega
theorem GO(h:jV k s):Fx s o (aI s o).1 (aI s o).2.1 (aI s o).2.2.2:=by
 unfold aI
 by_cases hp:(kE s o).1=0
 ·rw[if_neg ad3]
  by_cases ho:sE (dF s o)=true
  ·rw[if_pos ho];exact .same _ _ _ _ aea rfl
  ·rw[if_neg ho]
   obtain⟨hr,hf,_⟩:=uC hp;simp only
   by_cases hk:o.kind=5
   ·have hg:fP s o=false:=by
     cases hg:fP s o with
     |false=>rfl
     |true=>have:=yM hf (DW hg);omega
    obtain⟨hv1,hlt,hop,hsu⟩:=Dm hr hf hk
    by_cases hd:tQ s o=true
    ·have hb:dF s o=dO (ew aS s o) o (gM s o).2 true:=by grind [dF]
     have hrev:(ew aS s o).reviews=s.reviews.modify (o.review - 1).toNat shut:=by simp_all [vg,if_pos]
     have hon:=gZ.duties o true (gM s o).2 (ew aS s o);rw[←hb,hrev]at hon;obtain⟨a1,a2,a3⟩:=Ir hon;have hlm:(s.reviews.modify (o.review - 1).toNat shut).length=s.reviews.length:=aea;rw[hlm]at a1;refine⟨a1,fun i h1 h2=>⟨fun hc=>?_,fun hc=>?_⟩,fun i h1 h2=>a3 i h1 ad3,fun hgl=>?_⟩
     ·have hi:(o.review - 1).toNat=i:=by omega
      subst hi;rw[a2 _ ad3 h2,List.getElem_modify,if_pos rfl];exact⟨fun e=>hsu e.symm,hop,rfl,rfl⟩
     ·have hi:(o.review - 1).toNat≠i:=fun e=>hc ⟨rfl,by simp[oD,hd],hk,ad3⟩
      rw[a2 _ ad3 h2,List.getElem_modify,if_neg hi]
     simp_all [oD]
    ·have hd:tQ s o=false:=by grind
     have hb:dF s o=dO s o (gM s o).2 false:=by grind [dF]
     have hon:=gZ.duties o false (gM s o).2 s;rw[←hb]at hon;obtain⟨a1,a2,a3⟩:=Ir hon;refine⟨a1,fun i h1 h2=>⟨fun hc=>?_,fun hc=>a2 i h1 h2⟩,a3,fun hgl=>?_⟩
     ·simp_all [oD]
     simp_all [oD]
   ·have hs1:gZ o s.reviews (if fP s o then bW s o o.reason else s).reviews:=by
     split
     ·exact .open s o _
     ·exact .refl o _
    have hs2:(if tQ s o then ew aS (if fP s o then bW s o o.reason else s) o else(if fP s o then bW s o o.reason else s)).reviews=(if fP s o then bW s o o.reason else s).reviews:=by
     split
     ·simp_all [vg,if_neg]
     ·rfl
    have hd:=gZ.duties o (tQ s o) (gM s o).2 (if tQ s o then ew aS (if fP s o then bW s o o.reason else s) o else(if fP s o then bW s o o.reason else s))
    rw[hs2]at hd;have hon:gZ o s.reviews (dF s o).reviews:=hs1.trans hd;obtain⟨a1,a2,a3⟩:=Ir hon;refine⟨a1,fun i h1 h2=>⟨fun hc=>(hk hc.2.2.1).elim,fun hc=>a2 i h1 h2⟩,a3,fun hgl=>?_⟩
    have hg:fP s o=true:=hgl;have hd' :=hd;simp only[hg,↓reduceIte]at hd';obtain⟨b1,b2,_⟩:=Ir hd';have hb:(dF s o)=dO (if tQ s o then ew aS (bW s o o.reason) o else bW s o o.reason) o (gM s o).2 (tQ s o):=by grind [dF]
    rw[←hb]at b1 b2;have hl:(bW s o o.reason).reviews.length=s.reviews.length+1:=by simp[bW]
    refine⟨ad3,?_⟩
    grind [bW,BL]
 ·rw[if_pos ad3]
  exact .same _ _ _ _ ad3 rfl
theorem jV.up(h:jV k s):jV (k+1) s:={h with ver:=⟨h.ver.1,by have:=h.ver.2;omega⟩}
theorem Gd(o:OpD)(h:jV k s):jV (k+1) (aI s o).1:=by
 have hrl:=GO (o:=o) h;unfold aI at hrl⊢
 by_cases hp:(kE s o).1=0
 ·rw[if_neg ad3]at hrl⊢
  by_cases ho:sE (dF s o)=true
  ·rw[if_pos ho];exact h.up
  ·rw[if_neg ho]at hrl⊢
   have ho:sE (dF s o)=false:=ad4;have hw:=(Lx h hp).ok ho;unfold sE at ho;refine {hw with ids:=fun i hi=>?_,nr:=ad4,nn:=ad4}
   by_cases hlt:i<s.reviews.length
   ·obtain⟨h1,h2⟩:=hrl.old i hlt hi
    by_cases hc:(0:Int)=0∧(oD s o).err=0∧o.kind=5∧o.review=((i+1:Nat):Int)
    ·rw[(h1 hc).2.2.2];exact h.ids i hlt
    ·rw[h2 hc];exact h.ids i hlt
   ·exact(hrl.new i hi ad3).1
 ·rw[if_pos ad3];exact h.up
structure Wz (s:an) (o:OpD):Prop where
 err:(aI s o).2.2.2≠0→(aI s o).1=s∧(aI s o).2.1.err=(aI s o).2.2.2∧(aI s o).2.1.mark=naM
 ok:(aI s o).2.2.2=0→(aI s o).2.1.mark=(gM s o).1∧(aI s o).2.2.1=⟨o,s.version,(gM s o).1,fP s o,(gM s o).2⟩∧(aI s o).2.1.glass=fP s o∧(aI s o).1=dF s o∧(aI s o).2.1=oD s o
theorem yy(o:OpD)(done:Bool):∀(l:List cE) (s:an),(dO s o l done).cases.length=s.cases.length
 | [],s=>rfl
 |x::l,s=>by
  have:(fK o done s x).cases.length=s.cases.length:=by
   unfold fK;split
   ·grind [ja]
   ·split
    ·rfl
    grind
  exact(yy o done l _).trans this
end Go.Bf
namespace Go.Ab
open Go
section
variable {U : TypeId → TI} {ρ : Env} {h0 h h' : Heap} {sz id : Nat} {tb : TypeId} {y : AV} {xs : List AV} {e : TypeId} {K : AV → Prop} {x : IntKind} {m : Int}
theorem vj(xs:List AV)(j:Nat):aq xs=aq (xs.take j)++aq (xs.drop j):=ahm
theorem OwE.cut(hw:OwE tb h0 h sz y xs){hi:Operand}(j:Nat)(hm:ev ρ hi=some (.v (.int x m)))(hj:m=j)(hl:j≤xs.length)(hz:(U tb).sz=sz)(h1:sz≠0)
  (hk:∀z,OwE tb h0 h sz z (xs.take j)→(z=y∨∃id l l' c,y= .ob id 0 l c sz∧z= .ob id 0 l' c sz)→K z):ie U ρ y none (some hi) none K (.slice tb):=by
 subst hj;subst hz
 rcases hw with⟨rfl,rfl⟩|⟨id,h2,cap,rest,rfl,h3,h4,h5,h6⟩
 ·rw[rM,fU,hm]
  refine⟨h1,?_⟩;have:j=0:=ad4;subst this;refine⟨ad3,aea,?_⟩;exact hk _ (.inl ⟨rfl,rfl⟩) (.inl rfl)
 ·rw[BP]
  refine⟨h1,rfl,?_⟩;simp only[mS,fU,hm,dN,nR];refine⟨ad3,ad3,ad3,?_⟩;simp only[Int.toNat_natCast,Nat.zero_mul,Nat.add_zero,Nat.sub_zero,show(((0:Nat):Int)).toNat=0 from rfl]
  have e1:(xs.take j).length=j:=ad4;have hs:Sized (U tb).sz (xs.drop j):=fun z hz=>h6 z (List.mem_of_mem_drop hz)
  refine hk _ (.inr ⟨id,h2,cap,aq (xs.drop j)++rest,by rw[e1],by grind [vj,List.append_assoc],?_,ad3,fun z hz=>h6 z (List.mem_of_mem_take hz)⟩) (.inr ⟨id,_,_,cap,rfl,rfl⟩)
  rw[adX,aZ hs,h4,List.length_drop,e1,←Nat.add_mul]
  grind
theorem OwE.from(hw:OwE tb h0 h sz y xs){lo:Operand}(j:Nat)(hm:ev ρ lo=some (.v (.int x m)))(hj:m=j)(hl:j≤xs.length)(hz:(U tb).sz=sz)(h1:sz≠0)
  (hk:∀z,Rd h sz z (xs.drop j)→K z):ie U ρ y (some lo) none none K (.slice tb):=by
 subst hj;subst hz
 rcases hw with⟨rfl,rfl⟩|⟨id,h2,cap,rest,rfl,h3,h4,h5,h6⟩
 ·have:j=0:=by grind
  subst this;rw[rN,fU,hm];refine⟨h1,by simp[Sized],?_⟩
  exact⟨ad3,aea,aea,hk _ (.sl (by intro z hz;grind [pG]) _)⟩
 ·rw[BP]
  refine⟨h1,rfl,?_⟩;simp only[mS,fU,hm,dN,nR];refine⟨ad3,ad3,ad3,?_⟩;simp only[Int.toNat_natCast,Nat.zero_add];have e1:(xs.drop j).length=xs.length - j:=aea;have hs:Sized (U tb).sz (xs.drop j):=fun z hz=>h6 z ad4
  have ht:Sized (U tb).sz (xs.take j):=fun z hz=>h6 z ad4
  have e2:=aZ hs;have e3:=aZ ht;refine hk _ ⟨hs,.inr ⟨id,j*(U tb).sz,cap - j,_,tb,by rw[e1],h3,?_,?_⟩⟩
  ·grind [vj,adX]
  grind [vj,List.append_assoc,List.drop_left,List.take_left]
end
end Go.Ab
namespace Go.Bf
open Go Go.Ab Go.Proofs.YtokahfmoollblaaGreatDoor
def hbit:Nat→Nat
 |0=>0
 |1=>4602678819172646912
 |_=>4607182418800017408
def aR(m:aU):AV:=.v (.complex .f64 (hbit m.1) (hbit m.2))
def M9(m:aU):Prop:=m.1≤2∧m.2≤2
def M6(m:aU):Prop:=m∈vw
instance (m:aU):Decidable (M9 m):=inferInstanceAs (Decidable (_∧_))
instance (m:aU):Decidable (M6 m):=inferInstanceAs (Decidable (m∈vw))
theorem M6.m9{m:aU}(h:M6 m):M9 m:=by exact aiO
theorem le2{n:Nat}(h:n≤2):n=0∨n=1∨n=2:=ad3
theorem QF{a b:Nat}(ha:a≤2)(hb:b≤2):Op.floatEq .f64 (hbit a) (hbit b)=(a==b):=by rcases le2 ha with rfl|rfl|rfl<;>rcases le2 hb with rfl|rfl|rfl<;>rfl
theorem Pj(m n:aU):(m==n)=(m.1==n.1 && m.2==n.2):=rfl
theorem L4{m n:aU}(hmm:M9 m)(hn:M9 n):eqC (aR m) (aR n)=(m==n):=by simp only[aR,eqC,QF hmm.1 hn.1,QF hmm.2 hn.2,Pj]
theorem zo{m n:aU}(hmm:M9 m)(hn:M9 n)(K:AV→Prop):gy .eql (.complex .f64 (hbit m.1) (hbit m.2)) (.complex .f64 (hbit n.1) (hbit n.2)) K=K (.b (m==n)):=
 oX (fun P ty w=>by exact aiL) K
theorem Bu{m n:aU}(hmm:M9 m)(hn:M9 n)(K:AV→Prop):gy .neq (.complex .f64 (hbit m.1) (hbit m.2)) (.complex .f64 (hbit n.1) (hbit n.2)) K=K (.b (!(m==n))):=
 oX (fun P ty w=>by exact aiL) K
structure Nb (m:aU):Prop where
 na:∀K,gy .eql (.complex .f64 (hbit m.1) (hbit m.2)) (.complex .f64 0 0) K=K (.b (m==naM))
 pe:∀K,gy .eql (.complex .f64 (hbit m.1) (hbit m.2)) (.complex .f64 4607182418800017408 0) K=K (.b (m==bp))
 de:∀K,gy .eql (.complex .f64 (hbit m.1) (hbit m.2)) (.complex .f64 0 4607182418800017408) K=K (.b (m==cM))
 ip:∀K,gy .eql (.complex .f64 (hbit m.1) (hbit m.2)) (.complex .f64 4602678819172646912 0) K=K (.b (m==Bn))
 id:∀K,gy .eql (.complex .f64 (hbit m.1) (hbit m.2)) (.complex .f64 0 4602678819172646912) K=K (.b (m==Bm))
 ib:∀K,gy .eql (.complex .f64 (hbit m.1) (hbit m.2)) (.complex .f64 4602678819172646912 4602678819172646912) K=K (.b (m==pV))
 nna:∀K,gy .neq (.complex .f64 (hbit m.1) (hbit m.2)) (.complex .f64 0 0) K=K (.b (!(m==naM)))
 npe:∀K,gy .neq (.complex .f64 (hbit m.1) (hbit m.2)) (.complex .f64 4607182418800017408 0) K=K (.b (!(m==bp)))
 nde:∀K,gy .neq (.complex .f64 (hbit m.1) (hbit m.2)) (.complex .f64 0 4607182418800017408) K=K (.b (!(m==cM)))
theorem nb{m:aU}(h:M9 m):Nb m:=
 ⟨zo (n:=naM) h ad6,zo (n:=bp) h ad6,zo (n:=cM) h ad6,zo (n:=Bn) h ad6,zo (n:=Bm) h ad6,zo (n:=pV) h ad6,
  Bu (n:=naM) h ad6,Bu (n:=bp) h ad6,Bu (n:=cM) h ad6⟩
theorem QL{a b:Nat}(ha:a≤2)(hb:b≤2)(k:AV→Prop):Aw [.v (.float .f64 (hbit a)),.v (.float .f64 (hbit b))] k=k (.v (.float .f64 (hbit (max a b)))):=
 Gv (fun P ts ty w=>by rcases le2 ha with rfl|rfl|rfl<;>rcases le2 hb with rfl|rfl|rfl<;>rfl) k
structure Fb (a:Nat):Prop where
 one:∀K,gy .eql (.float .f64 (hbit a)) (.float .f64 4607182418800017408) K=K (.b (a==2))
 half:∀K,gy .eql (.float .f64 (hbit a)) (.float .f64 4602678819172646912) K=K (.b (a==1))
 ge:∀K,gy .geq (.float .f64 (hbit a)) (.float .f64 4602678819172646912) K=K (.b (decide (1≤a)))
theorem fb{a:Nat}(h:a≤2):Fb a:=by
 rcases le2 h with rfl|rfl|rfl<;>
  exact⟨oX fun P ty w=>rfl,oX fun P ty w=>rfl,oX fun P ty w=>rfl⟩
end Go.Bf
namespace Go.Proofs.YtokahfmoollblaaGreatDoor
open Go Go.Ab Go.Bf Tryz
variable {rs:List gG}{k j:Nat}{s:an}{y1 y2 y3 y4 z:AV}
theorem CC(m:aU)(hmm:M6 m)(h:Heap):ai prog 278 [aR m] h fun r h' =>r= .b true∧h' =h:=by
 have hn:ai prog 52 [aR m] h fun r h' =>(∃c l,r= .s (c::l))∧h' =h:=by
  obtain⟨n1,n2,n3,n4,n5,n6⟩:=nb hmm.m9;refine ad2 func52 16 [.tmp 2] fun hwf=>?_
  cases d1:(m==naM)
  case true=>simp only[go_sem,aR,n1,d1];exact .same (.refl _) ⟨⟨_,_,rfl⟩,rfl⟩
  cases d2:(m==bp)
  case true=>simp only[go_sem,aR,n1,n2,d1,d2];exact .same (.refl _) ⟨⟨_,_,rfl⟩,rfl⟩
  cases d3:(m==cM)
  case true=>simp only[go_sem,aR,n1,n2,n3,d1,d2,d3];exact .same (.refl _) ⟨⟨_,_,rfl⟩,rfl⟩
  cases d4:(m==Bn)
  case true=>simp only[go_sem,aR,n1,n2,n3,n4,d1,d2,d3,d4];exact .same (.refl _) ⟨⟨_,_,rfl⟩,rfl⟩
  cases d5:(m==Bm)
  case true=>simp only[go_sem,aR,n1,n2,n3,n4,n5,d1,d2,d3,d4,d5];exact .same (.refl _) ⟨⟨_,_,rfl⟩,rfl⟩
  have d6:(m==pV)=true:=by
   unfold M6 vw at hmm
   grind
  simp only[go_sem,aR,n1,n2,n3,n4,n5,n6,d1,d2,d3,d4,d5,d6];exact .same (.refl _) ⟨⟨_,_,rfl⟩,rfl⟩
 refine ad2 func278 6 [.tmp 2] fun hwf=>?_
 simp only[go_sem];refine hn.mono ?_
 rintro r h' ⟨⟨c,l,rfl⟩,rfl⟩
 exact aiE
theorem yV(m:aU)(hmm:M9 m)(h:Heap):ai prog 252 [aR m] h fun r h' =>r=aR (hY m)∧h' =h:=by
 obtain⟨n1,n2,n3,n4,n5,n6⟩:=nb hmm;refine ad2 func252 9 [.tmp 2] fun hwf=>?_
 cases d2:(m==bp)
 case true=>simp only[go_sem,aR,n2,d2];exact .same (.refl _) ⟨by rw[hY,if_pos ad4];rfl,rfl⟩
 cases d3:(m==cM)
 case true=>simp only[go_sem,aR,n2,n3,d2,d3];exact .same (.refl _) ⟨by rw[hY,if_neg ad4,if_pos ad4];rfl,rfl⟩
 simp only[go_sem,aR,n2,n3,d2,d3];exact .same (.refl _) ⟨by rw[hY,if_neg ad4,if_neg ad4];rfl,rfl⟩
theorem uz(m:aU)(h:Heap):ai prog 300 [aR m] h fun r h' =>r= .tup [.v (.float .f64 (hbit m.1)),.v (.float .f64 (hbit m.2))]∧h' =h:=by
 refine ad2 func300 10 [.tmp 2,.tmp 3] fun hwf=>?_
 simp only[go_sem,aR];exact aeh
theorem QU(a b:Nat)(h:Heap):ai prog 301 [.v (.float .f64 (hbit a)),.v (.float .f64 (hbit b))] h fun r h' =>r=aR (a,b)∧h' =h:=by
 refine ad2 func301 8 [.tmp 4] fun hwf=>?_
 exact aiE
theorem P0(m:aU)(h:Heap):ai prog 281 [aR m] h fun r h' =>r=aR (Fg m)∧h' =h:=by
 refine ad2 func281 13 [.tmp 2] fun hwf=>?_
 simp only[go_sem];refine(uz m _).pthen ?_;simp only[go_sem];refine(QU m.2 m.1 _).pthen ?_;exact aiE
theorem O6(a b:aU)(ha:M9 a)(hb:M9 b)(h:Heap):ai prog 279 [aR a,aR b] h fun r h' =>r=aR (oT a b)∧h' =h:=by
 have m1:=QL ha.1 hb.1;have m2:=QL ha.2 hb.2;refine ad2 func279 26 [.tmp 4] fun hwf=>?_
 simp only[go_sem];refine(uz a _).pthen ?_;simp only[go_sem];refine(uz b _).pthen ?_;simp only[go_sem,m1,m2];refine(QU _ _ _).pthen ?_;exact aiE
theorem M9.join{a b:aU}(ha:M9 a)(hb:M9 b):M9 (oT a b):=⟨Nat.max_le.2 ⟨ha.1,hb.1⟩,Nat.max_le.2 ⟨ha.2,hb.2⟩⟩
theorem It(j:aU):M6 (rF j):=by
 unfold rF
 repeat' split
 all_goals decide
theorem Iu(j:aU)(hj:M9 j)(h:Heap):ai prog 280 [aR j] h fun r h' =>r=aR (rF j)∧h' =h:=by
 obtain⟨p1,p2,p3⟩:=fb hj.1;obtain⟨q1,q2,q3⟩:=fb hj.2;refine ad2 func280 29 [.tmp 2] fun hwf=>?_
 simp only[go_sem];refine(uz j _).pthen ?_;cases d1:(j.2==2)
 case true=>simp only[go_sem,q1,d1];exact .same (.refl _) ⟨by rw[rF,if_pos ad4];rfl,rfl⟩
 have e1:¬j.2=2:=ad4;cases d2:(j.2==1)
 case true=>
  have e2:j.2=1:=ad4;cases d3:decide (1≤j.1)
  ·simp only[go_sem,p3,q1,q2,d1,d2,d3];exact .same (.refl _) ⟨by rw[rF,if_neg e1,if_neg ad4,if_pos e2];rfl,rfl⟩
  ·simp only[go_sem,p3,q1,q2,d1,d2,d3];exact .same (.refl _) ⟨by rw[rF,if_neg e1,if_pos ⟨e2,adV d3⟩];rfl,rfl⟩
 have e2:¬j.2=1:=ad4;cases d4:(j.1==2)
 case true=>simp only[go_sem,p1,q1,q2,d1,d2,d4];exact .same (.refl _) ⟨by rw[rF,if_neg e1,if_neg (fun h=>e2 h.1),if_neg e2,if_pos ad4];rfl,rfl⟩
 cases d5:(j.1==1)
 case true=>simp only[go_sem,p1,p2,q1,q2,d1,d2,d4,d5];exact .same (.refl _) ⟨by rw[rF,if_neg e1,if_neg (fun h=>e2 h.1),if_neg e2,if_neg ad4,if_pos ad4];rfl,rfl⟩
 simp only[go_sem,p1,p2,q1,q2,d1,d2,d4,d5];exact .same (.refl _) ⟨by rw[rF,if_neg e1,if_neg (fun h=>e2 h.1),if_neg e2,if_neg ad4,if_neg ad4];rfl,rfl⟩
def OwR(h0 h:Heap)(y:AV)(rs:List gG):Prop:=y=dW rs∨OwE 138 h0 h 2 y (rs.map dw)
theorem OwR.rd{h0 h:Heap}{y:AV}(hr:OwR h0 h y rs):Rd h 2 y (rs.map dw):=by
 rcases hr with rfl|hr
 ·exact eL dw 2 (fun _=>rfl) h rs
 ·exact hr.rd
theorem OwR.nid{h0 h:Heap}{y:AV}(hr:OwR h0 h y rs)(e:Ab.nid y=some k):h0 k=none∧h k≠none:=by
 rcases hr with rfl|hr
 ·cases e
 ·exact⟨(hr.nid e).1,(hr.nid e).2.1⟩
theorem OwR.keep{h0 h h' :Heap}{y:AV}(hr:OwR h0 h y rs)(hk:∀id,Ab.nid y=some id→h' id=h id):OwR h0 h' y rs:=by
 rcases hr with hr|hr
 ·exact .inl hr
 ·exact .inr (hr.keep hk)
theorem OwR.bS{g h0 h:Heap}{y:AV}(hr:OwR h0 h y rs)(hg:∀i,h0 i=none→g i=none):OwR g h y rs:=by
 rcases hr with hr|hr
 ·exact .inl hr
 ·exact .inr (hr.bS hg)
theorem OwR.frz{g h:Heap}{y:AV}(hr:OwR g h y rs):Frz g h y (dW rs):=by
 rcases hr with rfl|hr
 ·exact .pure (by simp only[dW,cO];exact bn (fun _=>rfl) _)
 ·exact hr.frz (bn (fun _=>rfl) _)
structure iS (h0 h:Heap) (y1 y2 y3 y4:AV) (s:an) (j:Nat):Prop where
 cs:mE h0 h [y1,y2,y3,y4] y1 s.cases j
 rv:OwE 132 h0 h 7 y2 (s.reviews.map gA)
 nt:OwE 135 h0 h 3 y3 (s.notices.map kr)
 rl:OwR h0 h y4 s.roles
 a12:apart y1 y2
 a13:apart y1 y3
 a14:apart y1 y4
 a23:apart y2 y3
 a24:apart y2 y4
 a34:apart y3 y4
def stC(s:an)(y1 y2 y3 y4:AV):List AV:=[.i s.tick,y1,y2,y3,y4]++gw s.policy++ [.i s.version]
theorem tI.parts{h0 h:Heap}{x:AV}(ho:tI h0 h x s j):∃y1 y2 y3 y4,x= .agg (stC s y1 y2 y3 y4)∧iS h0 h y1 y2 y3 y4 s j:=by obtain⟨y1,y2,y3,y4,e,a,b,c,d,r1,r2,r3,r4,r5,r6⟩:=ho;exact⟨y1,y2,y3,y4,e,a,b,c,.inr d,r1,r2,r3,r4,r5,r6⟩
theorem iS.rd{h0 h:Heap}(ho:iS h0 h y1 y2 y3 y4 s j):RdS h (.agg (stC s y1 y2 y3 y4)) s:=
 ⟨y1,y2,y3,y4,rfl,ho.cs.rd,ho.rv.rd,ho.nt.rd,ho.rl.rd⟩
theorem iS.frz{g h:Heap}(ho:iS g h y1 y2 y3 y4 s j):Frz g h (.agg (stC s y1 y2 y3 y4)) (bN s):=
 vm (ho.cs.frz (.refl _)) (ho.rv.frz (bn (fun _=>rfl) _)) (ho.nt.frz (bn (fun _=>rfl) _)) ho.rl.frz
theorem iS.bS{g h0 h:Heap}(ho:iS h0 h y1 y2 y3 y4 s j)(hg:∀i,h0 i=none→g i=none):iS g h y1 y2 y3 y4 s j:=
 {ho with cs:=ho.cs.bS hg,rv:=ho.rv.bS hg,nt:=ho.nt.bS hg,rl:=ho.rl.bS hg}
theorem iS.keep{h0 h h' :Heap}(ho:iS h0 h y1 y2 y3 y4 s j)(hk:∀id,h0 id=none→h id≠none→h' id=h id):iS h0 h' y1 y2 y3 y4 s j:=
 {ho with cs:=ho.cs.keepb hk,rv:=ho.rv.keepb hk,nt:=ho.nt.keepb hk,rl:=ho.rl.keep fun id e=>hk id (ho.rl.nid e).1 (ho.rl.nid e).2}
theorem iS.mem{h0 h:Heap}(ho:iS h0 h y1 y2 y3 y4 s j){w:AV}(hw:w∈ [y1,y2,y3,y4])(e:Ab.nid w=some k):h0 k=none∧h k≠none:=by
 obtain⟨xs,a,_⟩:=ho.cs;simp only[List.mem_cons,List.not_mem_nil,or_false]at hw;rcases hw with rfl|rfl|rfl|rfl
 ·exact⟨(a.nid e).1,(a.nid e).2.1⟩
 ·exact⟨(ho.rv.nid e).1,(ho.rv.nid e).2.1⟩
 ·exact⟨(ho.nt.nid e).1,(ho.nt.nid e).2.1⟩
 ·exact ho.rl.nid e
theorem iS.revs{h0 h h' :Heap}{rs:List pq}(ho:iS h0 h y1 y2 y3 y4 s j)(hz:OwE 132 h0 h' 7 z (rs.map gA))(hn:∀k,Ab.nid z=some k→h k=none∨Ab.nid y2=some k)
  (hk:∀id,h0 id=none→h id≠none→Ab.nid y2≠some id→h' id=h id):iS h0 h' y1 z y3 y4 {s with reviews:=rs} j:=by
 obtain⟨hcs,hrv,hnt,hrl,a12,a13,a14,a23,a24,a34⟩:=id ho;have ap:∀ {w:AV},w∈ [y1,y2,y3,y4]→apart w y2→apart w z:=fun hw ha k e1 e2=>(hn k e2).elim (fun h=>(ho.mem hw e1).2 h) (fun h=>ha k e1 h)
 refine⟨hcs.move (z:=y2) aea a12 hk fun w hw k e=>?_,hz,hnt.keep fun id e=>hk id (hnt.nid e).1 (hnt.nid e).2.1 fun e1=>a23 id e1 e,hrl.keep fun id e=>hk id (hrl.nid e).1 (hrl.nid e).2 fun e1=>a24 id e1 e,ap aea a12,a13,a14,(ap aea a23.symm).symm,(ap aea a24.symm).symm,a34⟩
 grind
theorem iS.nots{h0 h h' :Heap}{rs:List C2}(ho:iS h0 h y1 y2 y3 y4 s j)(hz:OwE 135 h0 h' 3 z (rs.map kr))(hn:∀k,Ab.nid z=some k→h k=none∨Ab.nid y3=some k)
  (hk:∀id,h0 id=none→h id≠none→Ab.nid y3≠some id→h' id=h id):iS h0 h' y1 y2 z y4 {s with notices:=rs} j:=by
 obtain⟨hcs,hrv,hnt,hrl,a12,a13,a14,a23,a24,a34⟩:=id ho;have ap:∀ {w:AV},w∈ [y1,y2,y3,y4]→apart w y3→apart w z:=fun hw ha k e1 e2=>(hn k e2).elim (fun h=>(ho.mem hw e1).2 h) (fun h=>ha k e1 h)
 refine⟨hcs.move (z:=y3) aea a13 hk fun w hw k e=>?_,hrv.keep fun id e=>hk id (hrv.nid e).1 (hrv.nid e).2.1 fun e1=>a23 id e e1,hz,hrl.keep fun id e=>hk id (hrl.nid e).1 (hrl.nid e).2 fun e1=>a34 id e1 e,a12,ap aea a13,a14,ap aea a23,a24,(ap aea a34.symm).symm⟩
 grind
end Go.Proofs.YtokahfmoollblaaGreatDoor
namespace Go.Bf
open Go Go.Ab Go.Proofs.YtokahfmoollblaaGreatDoor
variable {s:an}{k:Nat}{cs:List aK}
def iF(s:an):Prop:=∀r∈s.reviews,0≤r.tick∧r.tick≤1099511627776
theorem BT(o:OpD)(w:Txt)(h:iF s)(ht:0≤s.tick∧s.tick≤1099511627776):iF (bW s o w):=fun r hr=>by
 simp only[bW,List.mem_append,List.mem_singleton]at hr;rcases hr with hr|rfl
 ·exact h r hr
 ·exact ht
theorem KN(o:OpD)(w:Txt)(h:iF s):iF (ja s o w):=fun r hr=>h r (by grind [zi])
theorem KM(o:OpD)(done:Bool)(x:cE)(h:iF s)(ht:0≤s.tick∧s.tick≤1099511627776):iF (fK o done s x):=by
 unfold fK;split
 ·grind [KN]
 ·split
  ·grind [BT]
  ·split<;>exact h
theorem xd(o:OpD)(done:Bool):∀(l:List cE) {s:an},iF s→(0≤s.tick∧s.tick≤1099511627776)→iF (dO s o l done)
 | [],s,h,_=>h
 |x::l,s,h,ht=>xd o done l (by grind [KM]) (by grind [Dz])
theorem NM(par:Txt→bF×Int×Int)(o:OpD)(h:iF s):iF (ew par s o):=fun r hr=>by
 rw[vg]at hr;split at hr
 ·rcases mem_modify hr with hr|⟨hi,rfl⟩
  ·exact h r hr
  ·have h2:=h _ (adY hi)
   exact ahR
 ·exact h r hr
theorem Hp(o:OpD)(h:jV k s)(ht:iF s):iF (aI s o).1:=by
 unfold aI;split
 ·omega
 ·split
  ·omega
  ·show iF (dF s o)
   have h1:dM k (if fP s o then bW s o o.reason else s):=by
    split
    ·exact CG o _ h.todM (by have:=h.nr;omega)
    ·exact h.todM
   have t1:iF (if fP s o then bW s o o.reason else s):=by
    split
    ·exact BT o _ ht h.tick
    omega
   refine xd o _ _ ?_ ?_
   ·grind [NM]
   ·split
    ·exact(qq o h1).tick
    ·exact h1.tick
structure fM (k:Nat) (s:an):Prop extends jV k s where
 ticks:iF s
theorem pP:fM 0 td:={JO with ticks:=fun r h=>aeV}
theorem nQ(o:OpD)(h:fM k s):fM (k+1) (aI s o).1:={Gd o h.tojV with ticks:=Hp o h.tojV h.ticks}
theorem O3{id:Txt}(h:iT cs id<cs.length):cs[iT cs id].id=id:=by
 have:=List.findIdx_getElem (p:=fun c:aK=>c.id==id) (w:=h)
 exact eq_of_beq this
theorem Gm(ha:Asc cs){id:Txt}(h:iT cs id<cs.length):findD cs id=iT cs id:=by
 have hid:=O3 h;have hin:cj cs id=true:=by grind [vR,List.any_eq_true,adY]
 have hir:Op.bytesLess id id=false:=by simpa[lt]using lt_irrefl id
 have h1:∃hl:findD cs id<cs.length,cs[findD cs id].id=id:=by
  unfold cj at hin
  grind
 rcases Nat.lt_trichotomy (findD cs id) (iT cs id)with hlt|heq|hgt
 ·exact absurd (List.not_of_lt_findIdx (p:=fun c:aK=>c.id==id) hlt) ad4
 ·exact heq
 ·have:=List.not_of_lt_findIdx (p:=fun c:aK=>geB c.id id) hgt
  exact absurd this (by grind [geB])
theorem Mp{ds:List aK}(h:ds.map (·.id)=cs.map (·.id))(id:Txt):iT ds id=iT cs id:=by
 have e:∀l:List aK,iT l id=(l.map (·.id)).findIdx fun x=>x==id:=fun l=>by rw[List.findIdx_map];rfl
 rw[e,e,h]
theorem J0(s:an)(o:OpD)(w:Txt)(id:Txt):iT (ja s o w).cases id=iT s.cases id∧(ja s o w).cases.length=s.cases.length:=by
 unfold ja;split
 ·exact⟨Mp (kZ (f:=fun c=>jD s c o.subj w) (g:=fun c:aK=>c.id) fun c=>rfl) id,aea⟩
 omega
theorem JZ(o:OpD)(done:Bool)(s:an)(x:cE)(id:Txt):iT (fK o done s x).cases id=iT s.cases id∧(fK o done s x).cases.length=s.cases.length:=by
 unfold fK;split
 ·grind [J0]
 ·split
  ·exact⟨rfl,rfl⟩
  grind
end Go.Bf
namespace Go.Proofs.YtokahfmoollblaaGreatDoor
open Go Go.Ab
abbrev By:=Bytes 5
theorem u5:(U 5).sz=1:=aei
theorem u5a:(U 5).k.agg=false:=aei
theorem qW(y:AV)(l:List UInt8)(h:Heap)(hb:By h y l)(hl:l.length≤140737488355328):
  ai Tryz.prog 55 [y] h fun r h' =>h' =h∧r= .sl (l.map aN) .no:=by
 refine ad2 Tryz.func55 8 [.tmp 2] fun hwf=>?_
 simp only[go_sem];refine hb.SF fun b hbn=>?_
 simp only[go_sem];refine nF.intro (fun e=>?_) (fun e=>?_)
 ·have hl0:l= []:=Classical.byContradiction fun hh=>by grind
  subst hl0;simp only[go_sem];exact agf
 ·simp only[go_sem]
  rw[hb.src u5];simp only[go_sem];refine⟨ad3,fun hn=>?_,fun hn=>?_⟩
  ·have hl0:l= []:=by simp_all
   subst hl0;simp only[go_sem];exact agf
  ·refine .own fun id hid=>?_
   simp only[go_sem];exact .mk _ (.sl _ _) (.ak hid) ⟨rfl,rfl⟩
theorem LK(y:AV)(l:List UInt8)(h:Heap)(hb:By h y l)(hl:l.length≤140737488355328):
  ai Tryz.prog 55 [y] h fun r h' =>(l= []∧r= .sl [] .no∧h' =h)∨(l≠ []∧∃id m,h id=none∧r= .oa id 0 l.length∧h' =upd h id (some (.obj (l.map aN++List.replicate m (aN 0)) 5))):=by
 refine ad2 Tryz.func55 8 [.tmp 2] fun hwf=>?_
 simp only[go_sem];refine hb.SF fun b hbn=>?_
 simp only[go_sem];refine nF.intro (fun e=>?_) (fun e=>?_)
 ·have hl0:l= []:=Classical.byContradiction fun hh=>by grind
  subst hl0;simp only[go_sem];exact .mk (.sl [] .no) (.sl _ _) (.refl _) aea
 ·simp only[go_sem]
  rw[hb.src u5];simp only[go_sem];refine⟨ad3,fun hn=>?_,fun hn=>?_⟩
  ·have hl0:l= []:=by simp_all
   subst hl0;simp only[go_sem];exact .mk (.sl [] .no) (.sl _ _) (.refl _) aea
  ·refine .oa u5 ?_ ?_ (wL l) fun id m hid=>?_
   ·simp only[go_sem]
   ·rfl
   ·simp only[go_sem]
    exact .mk _ (.refl _) (.refl _) (.inr ⟨ad4,id,m,hid,rfl,rfl⟩)
end Go.Proofs.YtokahfmoollblaaGreatDoor
namespace Go.Proofs.YtokahfmoollblaaGreatDoor
open Go Go.Ab Go.RowKit Go.Lib
theorem i5:∃i z,Tryz.prog.info? 5=some i∧i.zero=some z∧i.size=1∧i.bytes=1∧z.cells.size=1:=by obtain⟨i,h1,h2,h3,z,h4,h5,_⟩:=(hU 5).info ad6;exact⟨i,z,h1,h4,h2,by rw[h3];rfl,h5⟩
set_option maxHeartbeats 1000000 in
theorem JM(a:Option Addr)(w:World):Calls Tryz.prog 135 #[.slice a 0 0,.int .i64 0] w fun e w' =>e= .returned (.slice a 0 0)∧w' =w:=by
 go_enter Tryz.func135,Tryz.ntmps135
 go_wp2
 go_ret
 simp
set_option maxHeartbeats 1000000 in
theorem JL(a:Option Addr)(n:Nat)(h0:0<n)(hn:n≤20000000)(w:World):Calls Tryz.prog 135 #[.slice a 0 0,.int .i64 n] w fun e w' =>
  ∃z:Value,z.cells.size=1∧e= .returned (.slice (some ⟨w.heap.size,0,none⟩) 0 (grownCap w n 0 5))∧
   w' =w.drew.alloc (.cells (Builtin.zeroCells z.cells n++Builtin.zeroCells z.cells (grownCap w n 0 5 - n)) 5):=by
 obtain⟨i,z,e1,e2,e3,e4,e5⟩:=i5;have hsl:Tryz.prog.underlying 82=some (.slice 5):=by rfl
 have hin:Tryz.prog.underlying 3=some (.int .i64):=by rfl
 have hold:(Builtin.firstCells i.size 0 (.slice a 0 0)).run Tryz.prog w.drew= .ok (#[]:Array Value) w.drew:=by cases a<;>simp[Builtin.firstCells,loadCells,loadCellsFrom]
 have hrz:∀ty,(Builtin.append_ #[82,3] ty #[.slice a 0 0,.int .i64 (n:Int)]).run Tryz.prog w=
   .ok (.slice (some ⟨w.heap.size,0,none⟩) n (grownCap w n 0 5)) (w.drew.alloc (.cells (Builtin.zeroCells z.cells n++Builtin.zeroCells z.cells (grownCap w n 0 5 - n)) 5)):=fun ty=>by
  have h:=Lib.run_append_grow_zeros w 82 3 ty 5 i z .i64 .i64 hsl hin e1 e2 a 0 0 [] ad3 n h0 ad3 ad3 ad3
   ad4
   (by rw[e4];exact growslice_fits ad3 ad3)
  simpa using h
 have hG:=grownCap_ge w n 0 5;have hG63:grownCap w n 0 5≤9223372036854775807:=by grind [grownCap_le_maxLen,maxLen]
 obtain⟨G,hGe⟩:∃G,G=grownCap w n 0 5:=⟨_,rfl⟩;rw[←hGe]at hrz hG hG63⊢;have h3:wrap64 ((n:Int) - 0)=(n:Int):=by grind [wrap64]
 have h4:¬((n:Int)<0):=ad3;have h5:(n:Int)>0:=ad3;refine Calls.mono (R:=fun e w' =>e= .returned (.slice (some ⟨w.heap.size,0,none⟩) 0 G)∧w' =w.drew.alloc (.cells (Builtin.zeroCells z.cells n++Builtin.zeroCells z.cells (G - n)) 5)) ?_ ad4
 clear hold hGe
 go_enter Tryz.func135,Tryz.ntmps135
 cases a with
 |none=>
  go_wp2_with (at_builtin;refine Lib.wpList_append_run _ rfl _ _ _ _ rfl _ _ rfl rfl _ _ (hrz _) ?_)
  all_goals (go_ret;simp)
 |some q=>
  obtain⟨ab,ao,asp⟩:=q
  go_wp2_with (at_builtin;refine Lib.wpList_append_run _ rfl _ _ _ _ rfl _ _ rfl rfl _ _ (hrz _) ?_)
  all_goals (go_ret;simp)
end Go.Proofs.YtokahfmoollblaaGreatDoor
namespace Go.Proofs.YtokahfmoollblaaGreatDoor
open Go Go.Ab
variable {l p:List UInt8}{cs cs' args:List AV}{Q:AV→Heap→Prop}{n at_:Nat}{ps:List (List UInt8)}{sp S T:List Nat}{down:Bool}
theorem Te:(U 5).bytes=1:=aei
theorem OY(n:Nat)(hn:n≤20000000)(h:Heap):ai Tryz.prog 135 [.sl [] .full,.i n] h fun r h' =>Acc U 5 h h' r []∧fW h h' :=by
 refine fun c vs hs g hv hr=> .inl ⟨⟨_,Tryz.func135,aei,rfl⟩,?_⟩
 have h0:=hr 0 aea;have h1:=hr 1 aea;obtain⟨a,cap,sz,val,e0,sl⟩:=h0.iO;have hcap:cap=0:=sl.hp;subst hcap;have e1:=h1.bZ;have ev:vs= #[.slice a 0 0,.int .i64 n]:=by
  apply Array.ext
  ·omega
  ·intro i h2 h3
   have h3' :i<2:=h3;have:i=0∨i=1:=ad3;rcases this with rfl|rfl
   ·simpa[Array.getD,h2]using e0
   ·simpa[Array.getD,h2]using e1
 subst ev
 by_cases hn0:n=0
 ·subst hn0
  refine(JM a c.w).mono ?_
  rintro e w' ⟨rfl,rfl⟩
  exact⟨_,rfl,c,.sl [] .full,h,rfl,g,.refl c,h0,hs,.full (.refl h),.refl h⟩
 ·refine(JL a n ad3 hn c.w).mono ?_
  rintro e w' ⟨z,hz,rfl,rfl⟩
  refine⟨_,rfl,?_⟩;have hG:=grownCap_ge c.w n 0 5;have hG63:grownCap c.w n 0 5≤9223372036854775807:=by grind [grownCap_le_maxLen,maxLen]
  generalize hGe:grownCap c.w n 0 5=G at hG hG63;generalize hcells:Builtin.zeroCells z.cells n++Builtin.zeroCells z.cells (G - n)=cells;have hcs:cells.size=G:=by grind [size_zeroCells]
  obtain⟨id,hid⟩:=g.fresh;have g1:Ab.Good ({c with w:=c.w.drew}:Cx):=g.draw rfl rfl rfl rfl
  have e1:Ext c {c with w:=c.w.drew}:=Ext.draw rfl rfl rfl rfl
  have hh:h id=none:=yN hs hid;refine⟨Cx.aA {c with w:=c.w.drew} (.cells cells 5) id ⟨c.w.heap.size,0,none⟩ (.spare 0 1),.sl [] (.own id),upd h id (some (.spare 0 1)),rfl,?_,e1.trans (Ext.aA _ _ id _ _ rfl (.inl hid)),?_,hs.upd id _,?_,?_⟩
  ·exact g1.aA _ _ _ id _ _ rfl (.inl hid) aea aea
  ·refine .sl [] _ (some ⟨c.w.heap.size,0,none⟩) G 1 (fun _ _=>undef) (Nat.zero_le _) (by grind [lim]) aea (fun q hq _=>by cases hq;exact⟨rfl,by simp[Cx.aA]⟩)
    aea aea aea aea ?_
   exact⟨0,agm,Nat.le_refl _,fun _=>⟨_,rfl,agm,cells,5,(0,0),heap_alloc_new c.w.drew _,ad4⟩⟩
  ·exact⟨(Sub.refl h).new hh _,.inr ⟨id,hh,rfl,by grind [ah,u5]⟩⟩
  ·exact((Sub.refl h).new hh _).fZ
theorem PL(x y:AV)(a b:List UInt8)(h:Heap)(hx:By h x a)(hy:By h y b)(ha:a.length≤1000000000):
  ai Tryz.prog 72 [x,y] h fun r h' =>r= .b (decide (a=b))∧h' =h:=by
 refine ad2 Tryz.func72 26 [.tmp 4] fun hwf=>?_
 simp only[go_sem,hx.len,hy.len];refine .intro (fun e=>?_) (fun e=>?_)
 ·simp only[go_sem]
  refine .same (.refl _) ⟨?_,rfl⟩;have:a≠b:=fun hh=>by simp[hh]at e
  simp[this,au]
 ·have hl:a.length=b.length:=by simpa[Int.natCast_inj]using e
  simp only[go_sem];refine .intro (fun m ρ h' =>h' =h∧∃i:Nat,i≤a.length∧m=a.length - i∧a.take i=b.take i∧lk ρ 0=some x∧lk ρ 1=some y∧lk ρ 5=some (.i i)) a.length ?_ ?_
  ·refine⟨rfl,0,Nat.zero_le _,rfl,rfl,?_,?_,?_⟩<;>simp only[go_sem]
   all_goals rfl
  ·rintro m ρ h' ⟨rfl,i,hi,rfl,hab,r0,r1,r5⟩
   simp only[go_sem,r0,r1,r5,hx.len];refine .intro (fun e=>?_) (fun e=>?_)
   ·have hlt:i<a.length:=by simpa using e
    have hltb:i<b.length:=ad3;simp only[go_sem,r0,r1,r5];refine⟨.of ad7,hx.idx i rfl hlt u5 u5a fun p hp=>?_⟩
    simp only[go_sem,r0,r1,r5,hp _];refine hy.idx i rfl hltb u5 u5a fun p' hp' =>?_
    simp only[go_sem,r0,r1,r5,hp' _];refine .intro (fun e=>?_) (fun e=>?_)
    ·simp only[go_sem]
     refine .same (.refl _) ⟨?_,rfl⟩;have:a≠b:=fun hh=>by subst hh;simp at e
     simp[this,au]
    ·have hc:a[i]=b[i]:=by have:(a[i].toNat:Int)=b[i].toNat:=ah1;exact UInt8.toNat_inj.1 ad3
     have w1:IntKind.i64.wrap ((i:Int)+1)=((i+1:Nat):Int):=aez;simp only[go_sem,r0,r1,r5,w1];refine⟨a.length - (i+1),ad3,rfl,i+1,hlt,rfl,?_,?_,?_,?_⟩
     ·rw[List.take_succ_eq_append_getElem hlt,List.take_succ_eq_append_getElem hltb,hab,hc]
     all_goals simp only[go_sem,r0,r1,r5]
   ·have hge:i=a.length:=by have:¬(i<a.length):=ah1;omega
    simp only[go_sem];refine .same (.refl _) ⟨?_,rfl⟩;have:a=b:=by subst hge;rw[List.take_length]at hab;rw[hab,hl,List.take_length]
    simp[this,au]
theorem u27:(U 82).sz=1:=aei
theorem ou(ls:List (List UInt8))(i:Nat)(hi:i<ls.length):(ls.take (i+1)).flatten=(ls.take i).flatten++ls[i]:=by rw[List.take_succ_eq_append_getElem hi,List.flatten_append,List.flatten_cons,List.flatten_nil,List.append_nil]
theorem pN(ls:List (List UInt8))(i:Nat):(ls.take i).flatten.length≤ls.flatten.length:=by grind [List.take_append_drop,List.flatten_append,adX]
theorem A2(ys:List AV)(ls:List (List UInt8))(q:Perm)(h:Heap)(hr:Ab.Rows 5 h ys ls)(hl:ls.flatten.length≤20000000)(hn:ls.length≤20000000):
  ai Tryz.prog 75 [.sl ys q] h fun r h' =>r= .sl (ls.flatten.map aN) .no∧Sub h h' :=by
 have hlen:=hr.1;refine ad2 Tryz.func75 36 [.tmp 2] fun hwf=>?_
 simp only[go_sem];refine .intro (fun m ρ h' =>h' =h∧∃i:Nat,i≤ls.length∧m=ls.length - i∧lk ρ 0=some (.sl ys q)∧lk ρ 9=some (.sl ys q)∧lk ρ 10=some (.i ys.length)∧
  lk ρ 11=some (.i i)∧lk ρ 3=some (.v (.int .i64 (ls.take i).flatten.length))) ls.length ?_ ?_
 ·refine⟨rfl,0,Nat.zero_le _,rfl,?_,?_,?_,?_,?_⟩<;>simp only[go_sem]
  all_goals first|rfl|simp
 ·rintro m ρ h' ⟨rfl,i,hi,rfl,r0,r9,r10,r11,r3⟩
  simp only[go_sem,r0,r9,r10,r11,r3];refine .intro (fun e=>?_) (fun e=>?_)
  ·have hlt:i<ys.length:=by simpa using e
   have hlt2:i<ls.length:=ad3;have hb:=hr.2 i hlt hlt2;simp only[go_sem,r0,r9,r10,r11,r3];refine .at i hlt (by rw[hb.cells];rfl) ?_
   have t1:=pN ls (i+1);have t2:=ou ls i hlt2;have w1:IntKind.i64.wrap (((ls.take i).flatten.length:Int)+(ls[i].length:Int))=((ls.take (i+1)).flatten.length:Nat):=by rw[t2,adX]at t1⊢;rw[IntWalk.i64_in _ ad3];omega
   simp only[go_sem,r0,r9,r10,r11,r3,hb.cells,hb.MR,and_self,hb.len,w1];refine .no (decide_eq_false ad3) ?_;have w2:IntKind.i64.wrap ((i:Int)+1)=((i+1:Nat):Int):=aez;simp only[go_sem,r0,r9,r10,r11,r3,w2];refine⟨ls.length - (i+1),ad3,rfl,i+1,hlt2,rfl,?_,?_,?_,?_,?_⟩<;>simp only[go_sem,r0,r9,r10,r11,r3]
  ·have hge:i=ls.length:=by have:¬(i<ys.length):=ah1;omega
   subst hge;rw[List.take_length]at r3;simp only[go_sem,r0,r9,r10,r11,r3];refine(OY ls.flatten.length hl h').mono fun g1 h1 ⟨ha,hk⟩=>?_
   simp only[go_sem,r0,r9,r10,r11,r3];refine .intro (fun m ρ h2=>∃g:AV,∃i:Nat,Acc U 5 h' h2 g ((ls.take i).flatten.map aN)∧fW h' h2∧i≤ls.length∧m=ls.length - i∧lk ρ 25=some (.sl ys q)∧lk ρ 26=some (.i ys.length)∧
    lk ρ 27=some (.i i)∧lk ρ 6=some g) ls.length ?_ ?_
   ·refine⟨g1,0,ha,hk,Nat.zero_le _,rfl,?_,?_,?_,?_⟩<;>simp only[go_sem]
    all_goals rfl
   ·rintro m ρ h2 ⟨g,i,ha,hk,hi,rfl,r25,r26,r27,r6⟩
    simp only[go_sem,r25,r26,r27,r6];refine .intro (fun e=>?_) (fun e=>?_)
    ·have hlt:i<ys.length:=by simpa using e
     have hlt2:i<ls.length:=ad3;have hb:=(hr.2 i hlt hlt2).fZ hk;have t1:=pN ls (i+1);have t2:=ou ls i hlt2;simp only[go_sem,r25,r26,r27,r6];refine .at i hlt (by rw[hb.cells];rfl) ?_
     simp only[go_sem,r25,r26,r27,r6,hb.cells,hb.MR,and_self];refine ha.app (zs:=ls[i].map aN) (by rw[u5];decide) (by rw[Te];decide) (fun k hk=>by rw[hb.src u5];exact hk) (by rw[u5,jK];trivial) (by rw[u5,jK];trivial) ?_ fun g' h3 ha' hk' =>?_
     ·rw[Te,adT,adT]
      rw[t2,adX]at t1;omega
     ·have w2:IntKind.i64.wrap ((i:Int)+1)=((i+1:Nat):Int):=by rw[IntWalk.i64_in _ ad3];omega
      simp only[go_sem,r25,r26,r27,r6,w2];rw[←List.map_append,←t2]at ha';refine⟨ls.length - (i+1),ad3,g',i+1,ha',hk.trans hk',hlt2,rfl,?_,?_,?_,?_⟩<;>simp only[go_sem,r25,r26,r27,r6]
    ·have hge:i=ls.length:=by have:¬(i<ys.length):=ah1;omega
     subst hge;rw[List.take_length]at ha;simp only[go_sem,r25,r26,r27,r6];exact .mk _ ha.weak (.refl _) ⟨rfl,ha.1⟩
structure D where
 q:Nat
 b:List UInt8
 sy:Nat
 f:Nat
 off:Bool
variable {d:D}
def D.ok(d:D):Prop:=d.b.length≤d.q∧d.q≤1048576∧d.sy≤d.b.length∧d.f<9223372036854775808
def D.burn(d:D):D:=if 0<d.f then {d with f:=d.f - 1,off:=decide (d.f=1)} else d
def D.cells(d:D)(y:AV):List AV:=[.i d.q,y,.i d.sy,.i d.f,.b d.off]
def bA(h:Heap)(id:Nat)(d:D):Prop:=∃y,h id=some (.obj (d.cells y) 121)∧By h y d.b
theorem bA.keep{h h' :Heap}{id:Nat}(hd:bA h id d)(hs:fW h h'):bA h' id d:=by obtain⟨y,h1,h2⟩:=hd;exact⟨y,hs _ _ _ h1,h2.fZ hs⟩
theorem By.set{h:Heap}{id:Nat}{x:AV}(hb:By h x l)(hid:h id=some (.obj cs 121)):By (upd h id (some (.obj cs' 121))) x l:=hb.keep (Keep.upd id _) hid ad6
theorem Dv(q:Nat)(hq:q≤1048576)(h:Heap):
  ai Tryz.prog 19 [.i q] h fun r h' =>∃id,h id=none∧r= .tup [.ptr id 0,.i 0]∧bA h' id ⟨q,[],0,0,false⟩∧Sub h h' :=by
 refine ad2 Tryz.func19 13 [.tmp 2,.tmp 3] fun hwf=>?_
 simp only[go_sem];refine .intro (fun e=>absurd (adV e) ad3) (fun e=>?_)
 simp only[go_sem];refine .no (decide_eq_false ad3) ?_;simp only[go_sem];intro id hid;simp only[go_sem];exact .same (.refl _) ⟨id,hid,rfl,⟨_,ah ..,.inl ⟨.full,rfl⟩⟩,(Sub.refl h).new hid _⟩
theorem pF(d:D)(hd:d.ok)(id:Nat)(h:Heap)(y:AV)(hid:h id=some (.obj (d.cells y) 121)):
  ai Tryz.prog 76 [.ptr id 0] h fun r h' =>r= .b d.burn.off∧h' =upd h id (some (.obj (d.burn.cells y) 121)):=by
 obtain⟨q,b,sy,f,off⟩:=d;obtain⟨d1,d2,d3,d4⟩:=hd;simp only at d1 d2 d3 d4;simp only[D.cells]at hid;refine ad2 Tryz.func76 27 [.tmp 2] fun hwf=>?_
 simp only[go_sem,hid];refine .intro (fun e=>?_) (fun e=>?_)
 ·have e:=adV e
  have w1:IntKind.i64.wrap ((f:Int) - 1)=((f - 1:Nat):Int):=aez;simp only[go_sem,hid,w1];have hb:(((f - 1:Nat):Int)==0)=decide (f=1):=by
   by_cases h1:f=1
   ·simp[h1]
   ·have:f - 1≠0:=by omega
    simp[h1,Int.natCast_eq_zero,this]
  refine .same (.refl _) ⟨?_,?_⟩
  ·simp only[D.burn,if_pos (show 0<f by omega),hb,au]
  ·simp only[D.burn,D.cells,if_pos (show 0<f by omega),hb]
 ·have e:=adW e
  have hf:¬0<f:=ad3;simp only[go_sem,hid];refine .same (.refl _) ⟨?_,?_⟩
  ·simp only[D.burn,if_neg hf,au]
  ·simp only[D.burn,D.cells,if_neg hf]
   funext j
   simp only[upd];split
   ·rename_i e;subst e;exact hid
   ·rfl
theorem D.pF(hd:d.ok):d.burn.ok:=by
 obtain⟨d1,d2,d3,d4⟩:=hd;unfold D.burn;split
 ·exact⟨d1,d2,d3,ad4⟩
 ·exact⟨d1,d2,d3,d4⟩
theorem D.vf(d:D):d.burn.b=d.b:=by grind [D.burn]
theorem D.LD(d:D):d.burn.q=d.q:=by grind [D.burn]
theorem D.OE(d:D):d.burn.sy=d.sy:=by grind [D.burn]
theorem OU(d:D)(hd:d.ok)(id:Nat)(h:Heap)(y:AV)(hid:h id=some (.obj (d.cells y) 121))(hb:By h y d.b):
  ai Tryz.prog 74 [.ptr id 0] h fun r h' =>r= .i (d.q - d.b.length:Nat)∧h' =h:=by
 obtain⟨q,b,sy,f,off⟩:=d;obtain⟨d1,d2,d3,d4⟩:=hd;simp only at d1 d2 d3 d4 hb;simp only[D.cells]at hid;refine ad2 Tryz.func74 13 [.tmp 2] fun hwf=>?_
 have w1:IntKind.i64.wrap ((q:Int) - b.length)=((q - b.length:Nat):Int):=aez;simp only[go_sem,hid,hb.len,w1];exact⟨.of ad7,.same (.refl _) ⟨rfl,rfl⟩⟩
theorem Sz(d:D)(id:Nat)(h:Heap)(y:AV)(hid:h id=some (.obj (d.cells y) 121))(hb:By h y d.b):
  ai Tryz.prog 125 [.ptr id 0] h fun r h' =>r= .i d.b.length∧h' =h:=by
 simp only[D.cells]at hid;refine ad2 Tryz.func125 8 [.tmp 2] fun hwf=>?_
 simp only[go_sem,hid,hb.len];exact aeh
theorem PF(d:D)(hd:d.ok)(id:Nat)(h:Heap)(y:AV)(hid:h id=some (.obj (d.cells y) 121))(hb:By h y d.b):
  ai Tryz.prog 124 [.ptr id 0] h fun r h' =>r= .sl (d.b.map aN) .no∧h' =h:=by
 obtain⟨d1,d2,d3,d4⟩:=hd;simp only[D.cells]at hid;refine ad2 Tryz.func124 8 [.tmp 2] fun hwf=>?_
 simp only[go_sem,hid];refine(qW y d.b h hb ad3).mono fun r h' ⟨e1,e2⟩=>?_
 subst e1;subst e2
 simp only[go_sem];exact aeh
theorem RB(d:D)(n:Int)(id:Nat)(h:Heap)(y:AV)(hid:h id=some (.obj (d.cells y) 121)):
  ai Tryz.prog 23 [.ptr id 0,.i n] h fun r h' =>h' =upd h id (some (.obj (({d with f:=n.toNat}:D).cells y) 121)):=by
 simp only[D.cells]at hid;refine ad2 Tryz.func23 9 [] fun hwf=>?_
 simp only[go_sem,hid];refine .same (.refl _) ?_;have:(if n<0 then(0:Int)else n)=(n.toNat:Int):=ah2
 simp only[D.cells,this]
def D.append(d:D)(b:List UInt8):D×Nat:=
 if d.off then(d,9)else if d.q<d.b.length+b.length then(d,8)else
  let e:=D.burn {d with b:=d.b++b}
  (e,if e.off then 9 else 0)
def D.sync(d:D):D×Nat:=
 if d.off then(d,9)else if d.burn.off then(d.burn,9)else({d.burn with sy:=d.b.length},0)
def D.cut(d:D)(n:Int):D×Nat:=
 if d.off then(d,9)else if n<0∨(d.b.length:Int)<n then(d,1)else
  if d.burn.off then(d.burn,9)else({d.burn with b:=d.b.take n.toNat,sy:=min d.sy n.toNat},0)
theorem D.vb(hd:d.ok)(b:List UInt8):(d.append b).1.ok:=by
 unfold D.append;split
 ·omega
 ·split
  ·omega
  ·refine D.pF ⟨?_,hd.2.1,?_,hd.2.2.2⟩
   ·grind
   ·have:=hd.2.2.1
    grind
theorem D.xT(hd:d.ok):d.sync.1.ok:=by
 have hb:=D.pF hd;unfold D.sync;split
 ·exact hd
 ·split
  ·exact hb
  ·obtain⟨d1,d2,d3,d4⟩:=hb
   refine⟨d1,d2,?_,d4⟩;simp[D.vf,Nat.le_refl]
theorem D.Ck(hd:d.ok)(n:Int):(d.cut n).1.ok:=by
 have hb:=D.pF hd;unfold D.cut;split
 ·exact hd
 ·split
  ·exact hd
  ·split
   ·exact hb
   ·obtain⟨d1,d2,d3,d4⟩:=hb
    obtain⟨e1,e2,e3,e4⟩:=hd;refine⟨?_,?_,?_,d4⟩
    ·grind [D.LD,List.length_take]
    ·grind [D.LD]
    grind
theorem vb(d:D)(hd:d.ok)(id:Nat)(h:Heap)(x:AV)(b:List UInt8)(hdk:bA h id d)(hx:By h x b)(hl:b.length≤1000000000):
  ai Tryz.prog 31 [.ptr id 0,x] h fun r h' =>r= .v (.int .i64 (d.append b).2)∧bA h' id (d.append b).1∧Keep id h h' :=by
 obtain⟨y,hid0,hb⟩:=hdk;have hid:=hid0;simp only[D.cells]at hid;have hok:=hd;obtain⟨d1,d2,d3,d4⟩:=hd;refine ad2 Tryz.func31 26 [.tmp 4] fun hwf=>?_
 simp only[go_sem,hid];refine .intro (fun e=>?_) (fun e=>?_)
 ·simp only[go_sem]
  refine .same (.refl _) ?_;simp only[D.append,e,if_true,au];exact afy
 ·simp only[go_sem,hid,hx.len]
  refine(OU d hok id h y hid0 hb).mono fun r h' ⟨e1,e2⟩=>?_
  subst e1;subst e2
  simp only[go_sem];refine .intro (fun e2=>?_) (fun e2=>?_)
  ·have e2:=adV e2
   simp only[go_sem];refine .same (.refl _) ?_;simp only[D.append,e,if_pos (show d.q<d.b.length+b.length by omega),au]
   exact afy
  ·have e2:=adW e2
   have hno:¬d.q<d.b.length+b.length:=ad3;simp only[go_sem,hid,hb.fit,hx.fit];refine(A2 [y,x] [d.b,b] .full h' (.cons hb (.cons hx .nil)) ?_ aea).mono fun r h1 ⟨e1,hs⟩=>?_
   ·simp only[List.flatten_cons,List.flatten_nil,List.append_nil,adX];omega
   ·subst e1
    have hid1:=hs _ _ hid;simp only[go_sem,hid1];have hok2:D.ok {d with b:=d.b++b}:=⟨by show(d.b++b).length≤d.q;rw[adX];omega,d2,by show d.sy≤(d.b++b).length;rw[adX];omega,d4⟩
    refine(pF {d with b:=d.b++b} hok2 id _ (.sl ((d.b++b).map aN) .no) ?_).mono fun r h2 ⟨e1,e2⟩=>?_
    ·rw[ah]
     simp only[D.cells,List.flatten_cons,List.flatten_nil,List.append_nil]
    ·subst e1;subst e2
     have hk:Keep id h' (upd (upd h1 id (some (.obj (d.cells (.sl ((d.b++b).map aN) .no)) 121))) id (some (.obj ((D.burn {d with b:=d.b++b}).cells (.sl ((d.b++b).map aN) .no)) 121))):=
      (hs.keep id).trans ((Keep.upd id _).trans (Keep.upd id _))
     have hA:d.append b=(D.burn {d with b:=d.b++b},if(D.burn {d with b:=d.b++b}).off then 9 else 0):=by unfold D.append;rw[if_neg ah7,if_neg hno]
     simp only[go_sem];refine .intro (fun e3=>?_) (fun e3=>?_)
     ·simp only[go_sem]
      refine .same (.refl _) ?_;rw[hA,if_pos e3];refine⟨rfl,⟨_,ah ..,?_⟩,fun j k hj hk2=>?_⟩
      ·simp only[D.vf];exact .sl _ _
      ·rw[ag _ _ hj];exact hs _ _ hk2
     ·simp only[go_sem]
      refine .same (.refl _) ?_;rw[hA,if_neg (by simp[e3])]
      refine⟨rfl,⟨_,ah ..,?_⟩,fun j k hj hk2=>?_⟩
      ·simp only[D.vf];exact .sl _ _
      ·rw[ag _ _ hj];exact hs _ _ hk2
theorem xT(d:D)(hd:d.ok)(id:Nat)(h:Heap)(hdk:bA h id d):
  ai Tryz.prog 127 [.ptr id 0] h fun r h' =>r= .i d.sync.2∧bA h' id d.sync.1∧Keep id h h' :=by
 obtain⟨y,hid0,hb⟩:=hdk;have hid:=hid0;simp only[D.cells]at hid;refine ad2 Tryz.func127 19 [.tmp 2] fun hwf=>?_
 simp only[go_sem,hid];refine .intro (fun e=>?_) (fun e=>?_)
 ·simp only[go_sem,e]
  refine .same (.refl _) ?_;simp only[D.sync,e,if_true,au];exact afy
 ·simp only[go_sem,e]
  refine(pF d hd id h y hid0).mono fun r h1 ⟨e1,e2⟩=>?_
  subst e1;subst e2
  simp only[go_sem];refine .intro (fun e3=>?_) (fun e3=>?_)
  ·simp only[go_sem]
   refine .same (.refl _) ?_;rw[show d.sync=(d.burn,9) by unfold D.sync;rw[if_neg ah7,if_pos e3]]
   exact⟨rfl,⟨_,ah ..,by rw[D.vf];exact hb.set hid⟩,Keep.upd id _⟩
  ·simp only[D.cells]
   simp only[go_sem,hb.len];refine .same (.refl _) ?_;rw[show d.sync=({d.burn with sy:=d.b.length},0) by unfold D.sync;rw[if_neg ah7,if_neg (by simp[e3])]]
   exact⟨rfl,⟨_,ah ..,by show By _ _ d.burn.b;rw[D.vf];exact hb.set hid⟩,Keep.upd id _⟩
theorem Ck(d:D)(hd:d.ok)(id:Nat)(h:Heap)(n:Int)(hdk:bA h id d):
  ai Tryz.prog 126 [.ptr id 0,.i n] h fun r h' =>r= .v (.int .i64 (d.cut n).2)∧bA h' id (d.cut n).1∧Keep id h h' :=by
 obtain⟨y,hid0,hb⟩:=hdk;have hid:=hid0;simp only[D.cells]at hid;have hok:=hd;obtain⟨d1,d2,d3,d4⟩:=hd;refine ad2 Tryz.func126 41 [.tmp 4] fun hwf=>?_
 simp only[go_sem,hid];refine .intro (fun e=>?_) (fun e=>?_)
 ·simp only[go_sem]
  refine .same (.refl _) ?_;simp only[D.cut,e,if_true,au];exact afy
 ·simp only[go_sem,hid]
  have bad:(n<0∨(d.b.length:Int)<n)→nJ [.i 1] h fun r h' =>r= .v (.int .i64 (d.cut n).2)∧bA h' id (d.cut n).1∧Keep id h h' :=fun hbad=>by refine .same (.refl _) ?_;simp only[D.cut,e,if_pos hbad,au];exact afy
  refine .intro (fun e2=>?_) (fun e2=>?_)
  ·have e2' :=adV e2
   simp only[go_sem,e2];exact bad (.inl e2')
  ·have e2' :=adW e2
   simp only[go_sem,e2,hid,hb.len];refine .intro (fun e3=>?_) (fun e3=>?_)
   ·have e3' :=adV e3
    simp only[go_sem];exact bad (.inr e3')
   ·have e3' :=adW e3
    have hno:¬(n<0∨(d.b.length:Int)<n):=ad3;simp only[go_sem];refine(pF d hok id h y hid0).mono fun r h1 ⟨e1,e2⟩=>?_
    subst e1;subst e2
    simp only[go_sem];refine .intro (fun e4=>?_) (fun e4=>?_)
    ·simp only[go_sem]
     refine .same (.refl _) ?_;rw[show d.cut n=(d.burn,9) by unfold D.cut;rw[if_neg ah7,if_neg hno,if_pos e4]]
     exact⟨rfl,⟨_,ah ..,by rw[D.vf];exact hb.set hid⟩,Keep.upd id _⟩
    ·have hb1:By (upd h id (some (.obj (d.burn.cells y) 121))) y d.b:=hb.set hid
     simp only[D.cells]at hb1⊢;simp only[go_sem];refine hb1.take (m:=n) (x:=.i64) n.toNat ?_ ad3 ad3 u5 fun z hz=>?_
     ·simp only[go_sem]
     ·simp only[go_sem]
      refine(qW z _ _ hz afA).mono fun r h1 ⟨e1,e2⟩=>?_
      subst e1;subst e2
      simp only[go_sem];refine .same (.refl _) ?_;rw[show d.cut n=({d.burn with b:=d.b.take n.toNat,sy:=min d.sy n.toNat},0) by unfold D.cut;rw[if_neg ah7,if_neg hno,if_neg (by simp[e4])]]
      refine⟨rfl,⟨.sl ((d.b.take n.toNat).map aN) .no,?_,.sl _ _⟩,Keep.upd id _⟩;simp only[ah,D.cells,D.OE];have:(if n<(d.sy:Int)then n else(d.sy:Int))=((min d.sy n.toNat:Nat):Int):=ah2
      rw[this]
def D.left(d:D)(keep:Int):Nat:=d.sy+min keep.toNat (d.b.length - d.sy)
def D.bad(d:D)(keep torn:Int):Nat:=min torn.toNat (d.left keep - d.sy)
def bO(l:List UInt8)(i:Nat):List UInt8:=l.take i++(l.drop i).map (~~~ ·)
def D.boot(d:D)(keep torn:Int):D:={d with b:=bO (d.b.take (d.left keep)) (d.left keep - d.bad keep torn),sy:=d.left keep,f:=0,off:=false}
theorem D.Ig(hd:d.ok)(keep:Int):d.sy≤d.left keep∧d.left keep≤d.b.length:=by
 obtain⟨d1,d2,d3,d4⟩:=hd
 grind [D.left]
theorem jv(l:List UInt8)(i:Nat):(bO l i).length=l.length:=by grind [bO]
theorem D.xD(hd:d.ok)(keep torn:Int):(d.boot keep torn).ok:=by
 obtain⟨d1,d2,d3,d4⟩:=hd;obtain⟨l1,l2⟩:=D.Ig ⟨d1,d2,d3,d4⟩ keep;refine⟨?_,d2,?_,by show(0:Nat)<_;decide⟩
 ·show(bO _ _).length≤d.q
  grind [jv,List.length_take]
 ·show d.left keep≤(bO _ _).length
  grind [jv,List.length_take]
theorem JA(c:UInt8):IntKind.u8.wrap ((BitVec.ofInt IntKind.u8.bits (if IntKind.u8.signed=true then -1 else IntKind.u8.max) ^^^ BitVec.ofInt IntKind.u8.bits (c.toNat:Int)).toNat)=((~~~ c).toNat:Int):=by
 revert c;have:∀i:Fin 256,IntKind.u8.wrap ((BitVec.ofInt IntKind.u8.bits (if IntKind.u8.signed=true then -1 else IntKind.u8.max) ^^^ BitVec.ofInt IntKind.u8.bits ((UInt8.ofNat i).toNat:Int)).toNat)=((~~~ (UInt8.ofNat i)).toNat:Int):=by decide+kernel
 intro c;have h:=this ⟨c.toNat,c.toNat_lt⟩;simpa using h
theorem NU(c:UInt8)(k:AV→Prop):unA .xor (.v (.int .u8 (c.toNat:Int))) k=k (.v (.int .u8 ((~~~ c).toNat:Int))):=by rw[xV,JA]
theorem NW{α:Type}{f:Nat→α}{i j:Nat}(hij:¬i=j)(a b c:α):upd (upd (upd f i a) j b) i c=upd (upd f i c) j b:=by grind [upd]
theorem xD(d:D)(hd:d.ok)(id:Nat)(h:Heap)(keep torn:Int)(hdk:bA h id d):
  ai Tryz.prog 13 [.ptr id 0,.i keep,.i torn] h fun _ h' =>bA h' id (d.boot keep torn)∧Keep id h h' :=by
 obtain⟨y,hid0,hb⟩:=hdk;have hid:=hid0;simp only[D.cells]at hid;obtain⟨d1,d2,d3,d4⟩:=hd;obtain⟨l1,l2⟩:=D.Ig ⟨d1,d2,d3,d4⟩ keep;have w1:IntKind.i64.wrap ((d.b.length:Int) - d.sy)=((d.b.length - d.sy:Nat):Int):=aez;have m1:(if keep<0 then(0:Int)else keep)=(keep.toNat:Int):=ah2
 have m2:(if(((d.b.length - d.sy:Nat):Int))<(keep.toNat:Int)then(((d.b.length - d.sy:Nat):Int))else(keep.toNat:Int))=((min keep.toNat (d.b.length - d.sy):Nat):Int):=ah2
 have w2:IntKind.i64.wrap ((d.sy:Int)+((min keep.toNat (d.b.length - d.sy):Nat):Int))=(d.left keep:Int):=by unfold D.left at*;rw[IntWalk.i64_in _ ad3];omega
 have w3:IntKind.i64.wrap ((d.left keep:Int) - d.sy)=((d.left keep - d.sy:Nat):Int):=aez;have m3:(if torn<0 then(0:Int)else torn)=(torn.toNat:Int):=ah2
 have m4:(if(((d.left keep - d.sy:Nat):Int))<(torn.toNat:Int)then(((d.left keep - d.sy:Nat):Int))else(torn.toNat:Int))=(d.bad keep torn:Int):=by unfold D.bad;split<;>omega
 have hbad:d.bad keep torn≤d.left keep:=by unfold D.bad;omega
 have w4:IntKind.i64.wrap ((d.left keep:Int) - (d.bad keep torn:Int))=((d.left keep - d.bad keep torn:Nat):Int):=aez;refine ad2 Tryz.func13 78 [] fun hwf=>?_
 simp only[go_sem,hid,hb.len,w1,m1,m2,w2];refine⟨.of ad7,?_⟩;simp only[go_sem,hid,w3,m3,m4];refine hb.take (m:=d.left keep) (x:=.i64) (d.left keep) ?_ rfl l2 u5 fun z hz=>?_
 ·simp only[go_sem]
 ·simp only[go_sem]
  have hlen:(d.b.take (d.left keep)).length=d.left keep:=afA;refine(LK z _ _ hz ad3).mono fun r h1 hr=>?_
  rcases hr with⟨hl0,rfl,rfl⟩|⟨hl0,id2,m,hid2,rfl,rfl⟩
  ·have hl00:d.left keep=0:=by rw[hl0]at hlen;simpa using hlen.symm
   have hb0:d.bad keep torn=0:=ad3;have hf:d.boot keep torn=⟨d.q,[],0,0,false⟩:=by unfold D.boot;rw[hl0,hl00];simp[bO]
   simp only[go_sem,hid,w4];refine .intro (fun m ρ h' =>h' =upd h1 id (some (.obj [.i d.q,.sl [] .no,.i d.sy,.i d.f,.b d.off] 121))∧lk ρ 0=some (.ptr id 0)∧lk ρ 6=some (.i 0)∧lk ρ 8=some (.i 0)) 0 ?_ ?_
   ·refine⟨rfl,?_,?_,?_⟩<;>simp only[go_sem]
    ·rw[hl00];rfl
    ·rw[hl00,hb0];rfl
   ·rintro m ρ h' ⟨rfl,r0,r6,r8⟩
    simp only[go_sem,r0,r6,r8];refine .no ad6 ?_;simp only[go_sem,r0,r6,r8];refine .same (.refl _) ⟨⟨.sl [] .no,?_,?_⟩,Keep.upd id _⟩
    ·rw[ah,hf];rfl
    ·rw[hf];exact .nil _
  ·have hne:¬id=id2:=fun e=>by subst e;rw[hid]at hid2;cases hid2
   have hne' :¬id2=id:=fun e=>hne e.symm
   simp only[go_sem,hid,hne,w4];generalize hL:d.b.take (d.left keep)=L at*;generalize hs:d.left keep - d.bad keep torn=s at*;rw[hlen];refine .intro (fun k ρ h' =>∃(i:Nat) (cs:List AV),k=d.left keep - i∧s≤i∧i≤d.left keep∧cs.length=d.left keep+m∧(∀j (hj:j<L.length),cs[j]? =some (aN (if s≤j∧j<i then ~~~ L[j]else L[j])))∧
    h' =upd (upd h id2 (some (.obj cs 5))) id (some (.obj [.i d.q,.oa id2 0 (d.left keep),.i d.sy,.i d.f,.b d.off] 121))∧lk ρ 0=some (.ptr id 0)∧lk ρ 6=some (.i (d.left keep:Nat))∧lk ρ 8=some (.i (i:Nat))) (d.left keep - s) ?_ ?_
   ·refine⟨s,_,rfl,Nat.le_refl _,ad3,?_,fun j hj=>?_,rfl,?_,?_,?_⟩
    ·simp[hlen]
    ·rw[List.getElem?_append_left (by simpa using hj),List.getElem?_map,List.getElem?_eq_getElem hj,if_neg ad3];rfl
    all_goals simp only[go_sem]
   ·rintro k ρ h' ⟨i,cs,rfl,hi1,hi2,hcl,hcs,rfl,r0,r6,r8⟩
    simp only[go_sem,r0,r6,r8];refine .intro (fun e=>?_) (fun e=>?_)
    ·have hlt:i<d.left keep:=by simpa using e
     have c1:((0:Int)≤(i:Int))=True:=eq_true ad3;have c2:((i:Int)<((d.left keep:Nat):Int))=True:=eq_true ad3;have c3:=hcs i ad3;rw[if_neg ad3]at c3;have c4:(i+1≤cs.length)=True:=eq_true ad3;have w5:IntKind.i64.wrap ((i:Int)+1)=((i+1:Nat):Int):=aez;simp only[go_sem,r0,r6,r8,hne,hne',c1,c2,c3,c4,Nat.mul_one,Int.toNat_natCast,↓NU];refine⟨.of ad7,?_⟩;simp only[go_sem,r0,r6,r8,w5];refine⟨d.left keep - (i+1),ad3,i+1,_,rfl,ad3,hlt,?_,?_,NW hne' ..,?_,?_,?_⟩
     ·simp;omega
     ·intro j hj
      show _=some (aN (if s≤j∧j<i+1 then ~~~ L[j]else L[j]))
      have hjc:j<cs.length:=ad3;have hold:=hcs j hj
      by_cases hji:j=i
      ·subst hji
       rw[if_pos ⟨hi1,ad3⟩];rw[List.append_assoc,List.getElem?_append_right aeD];simp[show j≤cs.length by omega,aN]
      ·have hcond:(s≤j∧j<i+1)↔(s≤j∧j<i):=by omega
       simp only[hcond];rw[←show cs[j]? =some (aN (if s≤j∧j<i then ~~~ L[j]else L[j]))from hold]
       rcases Nat.lt_or_ge j i with hlt2|hge2
       ·rw[List.append_assoc,List.getElem?_append_left aeD,List.getElem?_take,if_pos ad3]
       ·rw[List.getElem?_append_right aeD,List.getElem?_drop]
        congr 1
        simp;omega
     all_goals simp only[go_sem,r0,r6,r8,w5]
    ·have hge:i=d.left keep:=by have:¬(i<d.left keep):=ah1;omega
     subst hge;simp only[go_sem,r0,r6,r8,hne,hne'];refine .same (.refl _) ⟨⟨.oa id2 0 (d.left keep),?_,?_⟩,?_⟩
     ·rw[ah]
      rfl
     ·have hbl:(d.boot keep torn).b=bO L s:=by unfold D.boot;rw[hL,hs]
      have hll:(bO L s).length=d.left keep:=by rw[jv,hlen]
      rw[hbl,←hll];refine .oa (cs:=cs) ?_ ad3 ?_
      ·rw[ag _ _ hne',ah]
      ·apply List.ext_getElem?
       intro j;rw[List.drop_zero,List.getElem?_take,List.getElem?_map]
       by_cases hj:j<d.left keep
       ·have hj2:j<L.length:=by omega
        have:=hcs j hj2;rw[if_pos ad3,show cs[j]? =_ from this]
        unfold bO
        by_cases hsj:s≤j
        ·rw[if_pos ⟨hsj,hj⟩,List.getElem?_append_right aeD]
         have:min s L.length=s:=ad3;simp[this,hj2,show s+(j - s)=j by omega,aN]
        ·rw[if_neg ad3,List.getElem?_append_left aeD,List.getElem?_take,if_pos ad3,List.getElem?_eq_getElem hj2];rfl
       ·rw[if_neg ad3,List.getElem?_eq_none ad3];rfl
     ·intro j k hj hk
      have h3:¬j=id2:=fun e=>by subst e;rw[hid2]at hk;cases hk
      rw[ag _ _ hj,ag _ _ h3];exact hk
theorem D.Ov{b:List UInt8}(h1:d.off=false)(h2:d.f=0)(h3:d.b.length+b.length≤d.q):d.append b=({d with b:=d.b++b},0):=by
 rcases d with⟨q,b0,sy,f,off⟩
 subst h1;subst h2
 unfold D.append;rw[if_neg aea,if_neg ad4];rfl
theorem D.Q3(h1:d.off=false)(h2:d.f=0):d.sync=({d with sy:=d.b.length},0):=by simp_all [D.sync,D.burn,if_neg]
theorem dthen{f:FuncId}{h:Heap}{X:AV}{id:Nat}(hf:ai Tryz.prog f args h fun r h' =>r=X∧bA h' id d∧Keep id h h')(k:∀h',bA h' id d→Keep id h h'→Q X h'):ai Tryz.prog f args h Q:=
 hf.mono fun r h' ⟨e1,e2,e3⟩=>by subst e1;exact k h' e2 e3
theorem Oy(d:D)(n:Nat)(id:Nat)(h:Heap)(hd:bA h id d):ai Tryz.prog 23 [.ptr id 0,.i n] h fun r h' =>bA h' id {d with f:=n}∧Keep id h h' :=by
 obtain⟨y,h1,h2⟩:=hd;refine(RB d n id h y h1).mono fun r h' e=>?_
 subst e;exact⟨⟨y,ahS,h2.set h1⟩,Keep.upd _ _⟩
theorem Nq(d:D)(hk:d.ok)(id:Nat)(h:Heap)(hd:bA h id d):ai Tryz.prog 124 [.ptr id 0] h fun r h' =>r= .sl (d.b.map aN) .no∧h' =h:=by obtain⟨y,h1,h2⟩:=hd;exact PF d hk id h y h1 h2
theorem Pd(d:D)(id:Nat)(h:Heap)(hd:bA h id d):ai Tryz.prog 125 [.ptr id 0] h fun r h' =>r= .i d.b.length∧h' =h:=by obtain⟨y,h1,h2⟩:=hd;exact Sz d id h y h1 h2
theorem jL{b:List UInt8}(h1:d.off=false)(h2:d.b.length+b.length≤d.q):d.append b=(D.burn {d with b:=d.b++b},if(D.burn {d with b:=d.b++b}).off then 9 else 0):=by simp_all [D.append,if_neg]
theorem D.Qu(h:d.f=0):d.burn=d:=by simp_all [D.burn,if_neg]
theorem D.X4(h1:d.off=false)(h2:d.f=0)(h3:n≤d.b.length):d.cut n=({d with b:=d.b.take n,sy:=min d.sy n},0):=by simp_all [D.cut,if_neg,D.Qu]
theorem D.FB{b:List UInt8}(h1:d.off=false)(h2:d.q<d.b.length+b.length):d.append b=(d,8):=by simp_all [D.append,if_neg,if_pos]
def qZ(s:BitVec 32):BitVec 32:=if s &&& 1#32=1#32 then(s>>>1) ^^^ 0xedb88320#32 else s>>>1
def yu:Nat→BitVec 32→BitVec 32
 |0,s=>s
 |n+1,s=>qZ (yu n s)
def ju(s:BitVec 32)(c:UInt8):BitVec 32:=yu 8 (s ^^^ BitVec.ofNat 32 c.toNat)
def crc(l:List UInt8):BitVec 32:= ~~~ (l.foldl ju (BitVec.allOnes 32))
theorem RG(c:UInt8):IntKind.u32.wrap (c.toNat:Int)=((BitVec.ofNat 32 c.toNat).toNat:Int):=by rfl
theorem GJ(x:BitVec 32):(((x &&& 1#32).toNat:Int)==1)=decide (x &&& 1#32=1#32):=by
 rw[Bool.eq_iff_iff,beq_iff_eq,decide_eq_true_iff];constructor
 ·intro h
  apply BitVec.eq_of_toNat_eq
  grind
 grind
theorem NJ(y:AV)(l:List UInt8)(h:Heap)(hb:By h y l)(hl:l.length≤1000000000):
  ai Tryz.prog 78 [y] h fun r h' =>r= .v (.int .u32 ((crc l).toNat:Int))∧h' =h:=by
 refine ad2 Tryz.func78 31 [.tmp 2] fun hwf=>?_
 simp only[go_sem,hb.len];refine .intro (fun m ρ h' =>h' =h∧∃i:Nat,i≤l.length∧m=l.length - i∧lk ρ 7=some y∧lk ρ 8=some (.i l.length)∧lk ρ 9=some (.i i)∧lk ρ 3=some (.v (.int .u32 (((l.take i).foldl ju (BitVec.allOnes 32)).toNat:Int)))) l.length ?_ ?_
 ·refine⟨rfl,0,ad3,rfl,?_,?_,?_,?_⟩<;>simp only[go_sem]
  rfl
 ·rintro m ρ h' ⟨rfl,i,hi,rfl,r7,r8,r9,r3⟩
  simp only[go_sem,r7,r8,r9,r3];refine .intro (fun e=>?_) (fun e=>?_)
  ·have hlt:i<l.length:=ad0 e
   have w1:IntKind.i64.wrap ((i:Int)+1)=((i+1:Nat):Int):=aeg;have hs:(l.take (i+1)).foldl ju (BitVec.allOnes 32)=ju ((l.take i).foldl ju (BitVec.allOnes 32)) l[i]:=by grind [List.take_succ_eq_append_getElem]
   generalize (l.take i).foldl ju (BitVec.allOnes 32)=s at r3 hs;simp only[go_sem,r7,r8,r9,r3];refine hb.idx i rfl hlt u5 u5a fun p hp=>?_
   simp only[go_sem,r7,r8,r9,r3,hp _,RG];refine .intro (fun m ρ h2=>h2=h'∧∃j:Nat,j≤8∧m=8 - j∧lk ρ 7=some y∧lk ρ 8=some (.i l.length)∧lk ρ 9=some (.i i)∧lk ρ 17=some (.i j)∧lk ρ 3=some (.v (.int .u32 ((yu j (s ^^^ BitVec.ofNat 32 l[i].toNat)).toNat:Int)))) 8 ?_ ?_
   ·refine⟨rfl,0,ad3,rfl,?_,?_,?_,?_,?_⟩<;>simp only[go_sem,r7,r8,r9,r3]
    rfl
   ·rintro m ρ h2 ⟨rfl,j,hj,rfl,q7,q8,q9,q17,q3⟩
    simp only[go_sem,q7,q8,q9,q17,q3];refine .intro (fun e=>?_) (fun e=>?_)
    ·have hjl:j<8:=by grind
     have w2:IntKind.i64.wrap ((j:Int)+1)=((j+1:Nat):Int):=aeg;have hc:yu (j+1) (s ^^^ BitVec.ofNat 32 l[i].toNat)=qZ (yu j (s ^^^ BitVec.ofNat 32 l[i].toNat)):=rfl;generalize yu j (s ^^^ BitVec.ofNat 32 l[i].toNat)=z at q3 hc;simp only[go_sem,q7,q8,q9,q17,q3,GJ];refine .intro (fun e2=>?_) (fun e2=>?_)
     ·simp only[go_sem,q7,q8,q9,q17,q3,GJ,w2]
      refine⟨_,?_,rfl,j+1,ad3,rfl,?_,?_,?_,?_,?_⟩
      rotate_left 5
      ·simp only[go_sem,q7,q8,q9,q17,q3]
       simp_all [qZ,if_pos,adV]
      ·omega
      all_goals simp only[go_sem,q7,q8,q9,q17,q3,w2]
     ·simp only[go_sem,q7,q8,q9,q17,q3,GJ,w2]
      refine⟨_,?_,rfl,j+1,ad3,rfl,?_,?_,?_,?_,?_⟩
      rotate_left 5
      ·simp only[go_sem,q7,q8,q9,q17,q3]
       simp_all [qZ,if_neg,adW]
      ·omega
      all_goals simp only[go_sem,q7,q8,q9,q17,q3,w2]
    ·have hj8:j=8:=by grind
     subst hj8;simp only[go_sem,q7,q8,q9,q17,q3,w1];refine⟨_,?_,rfl,i+1,ad3,rfl,?_,?_,?_,?_⟩
     rotate_left 4
     ·simp only[go_sem,q7,q8,q9,q17,q3]
      rw[hs];rfl
     ·omega
     all_goals simp only[go_sem,q7,q8,q9,q17,q3,w1]
  ·have hge:i=l.length:=by grind
   subst hge;rw[List.take_length]at r3;simp only[go_sem,r7,r8,r9,r3];exact aeh
def oQ(n:Nat):List UInt8:=[UInt8.ofNat n,UInt8.ofNat (n / 256),UInt8.ofNat (n / 65536),UInt8.ofNat (n / 16777216)]
def fJ(l:List UInt8):Nat:=(l.getD 0 0).toNat+(l.getD 1 0).toNat*256+(l.getD 2 0).toNat*65536+(l.getD 3 0).toNat*16777216
theorem HT(n:Nat)(hn:n<4294967296)(h:Heap):ai Tryz.prog 77 [.v (.int .u32 (n:Int))] h fun r h' =>r= .sl ((oQ n).map aN) .no∧h' =h:=by
 refine ad2 Tryz.func77 15 [.tmp 2] fun hwf=>?_
 have s8:=fun K=>LC (U:=U) (ty:=152) (K:=K) n 8 .u64 ad6
 have s16:=fun K=>LC (U:=U) (ty:=152) (K:=K) n 16 .u64 ad6
 have s24:=fun K=>LC (U:=U) (ty:=152) (K:=K) n 24 .u64 ad6
 simp only[Int.cast_ofNat_Int]at s8 s16 s24;simp only[go_sem,↓s8,↓s16,↓s24,w8];exact agf
theorem DR(y:AV)(l:List UInt8)(h:Heap)(hb:By h y l)(hl:4≤l.length):ai Tryz.prog 225 [y] h fun r h' =>r= .v (.int .u32 (fJ l:Nat))∧h' =h:=by
 refine ad2 Tryz.func225 25 [.tmp 2] fun hwf=>?_
 have lt:∀c:UInt8,c.toNat<256:=fun c=>c.toNat_lt
 have hnum:fJ l=l[0].toNat+l[1].toNat*2 ^ 8+l[2].toNat*2 ^ 16+l[3].toNat*2 ^ 24:=by grind [fJ]
 generalize hc0:l[0]=c0 at hnum;generalize hc1:l[1]=c1 at hnum;generalize hc2:l[2]=c2 at hnum;generalize hc3:l[3]=c3 at hnum;have v:=fun c:UInt8=>w32 c.toNat ad4
 have s1:=fun K=>FG (U:=U) (ty:=152) (K:=K) c1.toNat 8 .u64 ad6 (lt _)
 have s2:=fun K=>FG (U:=U) (ty:=152) (K:=K) c2.toNat 16 .u64 ad6 (lt _)
 have s3:=fun K=>FG (U:=U) (ty:=152) (K:=K) c3.toNat 24 .u64 ad6 (lt _)
 have o1:=fun K=>LB (U:=U) (ty:=152) (K:=K) c0.toNat c1.toNat 8 ad4 ad6 (lt _)
 have o2:=fun K=>LB (U:=U) (ty:=152) (K:=K) (c0.toNat+c1.toNat*2 ^ 8) c2.toNat 16 ad4 ad6 (lt _)
 have o3:=fun K=>LB (U:=U) (ty:=152) (K:=K) (c0.toNat+c1.toNat*2 ^ 8+c2.toNat*2 ^ 16) c3.toNat 24 ad4 ad6 (lt _)
 simp only[Int.cast_ofNat_Int]at s1 s2 s3;simp only[go_sem];refine⟨.of ad7,?_⟩;refine hb.idx 0 rfl ad3 u5 u5a fun p0 hp0=>?_
 rw[hc0]at hp0;simp only[go_sem,hp0 _,v];refine hb.idx 1 rfl ad3 u5 u5a fun p1 hp1=>?_
 rw[hc1]at hp1;simp only[go_sem,hp1 _,v,↓s1,↓o1];refine hb.idx 2 rfl ad3 u5 u5a fun p2 hp2=>?_
 rw[hc2]at hp2;simp only[go_sem,hp2 _,v,↓s2,↓o2];refine hb.idx 3 rfl ad3 u5 u5a fun p3 hp3=>?_
 rw[hc3]at hp3;simp only[go_sem,hp3 _,v,↓s3,↓o3];refine .same (.refl _) ⟨?_,rfl⟩;rw[hnum];rfl
theorem and_one(s:BitVec 32):(s &&& 1#32=1#32)↔s.getLsbD 0=true:=by
 constructor
 ·intro h
  have:=congrArg (fun x=>x.getLsbD 0) h
  simpa using this
 grind
theorem xlc(a b c:BitVec 32):a ^^^ (b ^^^ c)=b ^^^ (a ^^^ c):=ad4
theorem xss(a b:BitVec 32):a ^^^ (b ^^^ a)=b:=ad4
theorem FQ(a b:BitVec 32):qZ (a ^^^ b)=qZ a ^^^ qZ b:=by unfold qZ;simp only[and_one,BitVec.getLsbD_xor,BitVec.ushiftRight_xor_distrib];cases a.getLsbD 0<;>cases b.getLsbD 0<;>simp[BitVec.xor_assoc,BitVec.xor_comm,xlc,xss]
theorem LN(n:Nat)(a b:BitVec 32):yu n (a ^^^ b)=yu n a ^^^ yu n b:=by
 induction n with
 |zero=>rfl
 |succ n ih=>grind [yu,FQ]
def turned:Nat→BitVec 32
 |0=>0#32
 |k+1=>yu 8 (turned k ^^^ 255#32)
theorem Si(c:UInt8):BitVec.ofNat 32 (~~~ c).toNat=BitVec.ofNat 32 c.toNat ^^^ 255#32:=by
 have:∀i:Fin 256,BitVec.ofNat 32 (~~~ (UInt8.ofNat i)).toNat=BitVec.ofNat 32 (UInt8.ofNat i).toNat ^^^ 255#32:=by decide+kernel
 have h:=this ⟨c.toNat,c.toNat_lt⟩;simpa using h
theorem JF(l:List UInt8):∀(s d:BitVec 32) (k:Nat),d=turned k→(l.map (~~~ ·)).foldl ju (s ^^^ d)=l.foldl ju s ^^^ turned (k+l.length):=by
 induction l with
 |nil=>simp
 |cons c l ih=>
  intro s d k hd;simp only[List.map_cons,List.foldl_cons,List.length_cons];have:ju (s ^^^ d) (~~~ c)=ju s c ^^^ turned (k+1):=by
   unfold ju;rw[Si,show s ^^^ d ^^^ (BitVec.ofNat 32 c.toNat ^^^ 255#32)=(s ^^^ BitVec.ofNat 32 c.toNat) ^^^ (d ^^^ 255#32) by grind,LN,hd]
   rfl
  rw[this,ih _ _ (k+1) rfl]
  congr 2;omega
theorem Dq(a u:List UInt8):crc (a++u.map (~~~ ·))=crc (a++u) ^^^ turned u.length:=by
 unfold crc;have:=JF u (a.foldl ju (BitVec.allOnes 32)) 0#32 0 rfl;apply BitVec.eq_of_getLsbD_eq
 grind
theorem Hq(k:Nat)(h1:1≤k)(h2:k≤3):(turned k).toNat % 256≠0:=by have:k=1∨k=2∨k=3:=ad3;rcases this with rfl|rfl|rfl<;>decide+kernel
theorem KQ(k:Nat)(h1:1≤k)(h2:k≤4):turned k≠0#32:=by have:k=1∨k=2∨k=3∨k=4:=ad3;rcases this with rfl|rfl|rfl|rfl<;>decide+kernel
theorem Qc(a d:BitVec 32)(h:(a ^^^ d).toNat % 256=a.toNat % 256):d.toNat % 256=0:=by
 rw[BitVec.toNat_xor]at h;have e:∀x y:Nat,(x ^^^ y) % 256=(x % 256) ^^^ (y % 256):=fun x y=>by rw[show 256=2 ^ 8 by rfl,Nat.xor_mod_two_pow]
 rw[e]at h;have:=congrArg (fun z=>(a.toNat % 256) ^^^ z) h
 simpa[←Nat.xor_assoc]using this
theorem To(a d:BitVec 32)(hd:d≠0#32):a ^^^ d≠a:=fun h=>hd (by
 have:=congrArg (fun z=>a ^^^ z) h
 simpa[←BitVec.xor_assoc]using this)
theorem ue(n:Nat):(oQ n).length=4:=rfl
theorem rX(n:Nat)(hn:n<4294967296)(r:List UInt8):fJ (oQ n++r)=n:=by grind [fJ,oQ,List.getD_cons_zero,List.getD_cons_succ,UInt8.toNat_ofNat']
theorem Pr(l:List UInt8):fJ l<4294967296:=by
 have h:∀c:UInt8,c.toNat<256:=fun c=>c.toNat_lt
 have h0:=h (l.getD 0 0);have h1:=h (l.getD 1 0);have h2:=h (l.getD 2 0);have h3:=h (l.getD 3 0);unfold fJ;omega
def frame(p:List UInt8):List UInt8:=oQ p.length++oQ (crc p).toNat++p
theorem cJ(p:List UInt8):(frame p).length=8+p.length:=by grind [frame,ue]
def fI(l:List UInt8):Option (List UInt8):=
 if l.length<8 then none else if fJ l<1∨8192<fJ l∨l.length - 8<fJ l then none else
  if(crc ((l.drop 8).take (fJ l))).toNat=fJ (l.drop 4)then some ((l.drop 8).take (fJ l))else none
theorem nM(h:fI l=some p):8+p.length≤l.length∧1≤p.length∧p.length≤8192:=by
 unfold fI at h;split at h
 ·cases h
 ·split at h
  ·cases h
  ·split at h
   ·simp only[Option.some.injEq]at h
    subst h;rw[List.length_take,List.length_drop];omega
   ·cases h
theorem An(p r:List UInt8)(h1:1≤p.length)(h2:p.length≤8192):fI (frame p++r)=some p:=by
 have e1:fJ (frame p++r)=p.length:=by grind [frame,List.append_assoc,rX]
 have e2:(frame p++r).drop 4=oQ (crc p).toNat++(p++r):=by rfl
 have e3:(frame p++r).drop 8=p++r:=by rfl
 unfold fI;rw[if_neg (by grind [adX,cJ]),e1,if_neg (by grind [adX,cJ]),e2,e3,List.take_left,rX _ (crc p).isLt,if_pos rfl]
theorem lB(l:List UInt8)(h:l.length<8):fI l=none:=by simp_all [fI,if_pos]
def scan(l:List UInt8):List (List UInt8)×Nat:=match h:fI l with
 |none=>([],0)
 |some p=>let r:=scan (l.drop (8+p.length));(p::r.1,8+p.length+r.2)
termination_by l.length
decreasing_by
 have:=nM h;rw[List.length_drop];omega
theorem mV(h:fI l=none):scan l=([],0):=by grind [scan]
theorem se(h:fI l=some p):scan l=(p::(scan (l.drop (8+p.length))).1,8+p.length+(scan (l.drop (8+p.length))).2):=by grind [scan]
def frames(ps:List (List UInt8)):List UInt8:=(ps.map frame).flatten
theorem DS(p:List UInt8)(ps:List (List UInt8)):frames (p::ps)=frame p++frames ps:=aei
theorem jM(p:List UInt8)(ps:List (List UInt8)):frames (ps++ [p])=frames ps++frame p:=by simp[frames]
theorem wX(ps:List (List UInt8))(r:List UInt8)(h:∀p∈ps,1≤p.length∧p.length≤8192):scan (frames ps++r)=(ps++(scan r).1,(frames ps).length+(scan r).2):=by
 induction ps with
 |nil=>simp[frames]
 |cons p ps ih=>
  have hp:=h p aea;have hb:=An p (frames ps++r) hp.1 hp.2;rw[DS,List.append_assoc,se hb,List.drop_left' (cJ p),ih fun q hq=>h q ad4]
  simp[cJ];omega
theorem II(l:List UInt8):(scan l).2≤l.length:=by
 induction hn:l.length using Nat.strongRecOn generalizing l with
 |_ n ih=>
  cases hb:fI l with
  |none=>simp_all [mV,Nat.zero_le]
  |some p=>have hl:=nM hb;rw[se hb];have:=ih (l.drop (8+p.length)).length ad4 _ rfl;rw[List.length_drop]at this;omega
theorem ov(l:List UInt8)(s k:Nat)(h:k≤s):(bO l s).drop k=bO (l.drop k) (s - k):=by
 unfold bO;rcases Nat.lt_or_ge l.length s with hs|hs
 ·grind [List.drop_eq_nil_of_le,List.take_of_length_le,List.drop_drop,List.length_drop]
 grind [List.length_take,List.drop_drop,List.drop_take]
theorem yK(l:List UInt8)(s k:Nat)(h:s≤k)(hs:s≤l.length):(bO l s).drop k=(l.drop k).map (~~~ ·):=by simp_all [bO,List.drop_append,List.drop_eq_nil_of_le,List.length_take,List.nil_append,List.map_drop,List.drop_drop]
theorem sB(l:List UInt8)(s i:Nat)(h:i<s):(bO l s).getD i 0=l.getD i 0:=by
 unfold bO
 grind
theorem Bv(l:List UInt8)(s:Nat)(h:4≤s):fJ (bO l s)=fJ l:=by grind [fJ,sB]
theorem Kb(l:List UInt8)(k:Nat)(h:4≤k):fJ (l.take k)=fJ l:=by
 have:∀i,i<4→(l.take k).getD i 0=l.getD i 0:=fun i hi=>by simp only[List.getD_eq_getElem?_getD,List.getElem?_take,if_pos (show i<k by omega)]
 unfold fJ;rw[this 0 ad3,this 1 ad3,this 2 ad3,this 3 ad3]
theorem MU(l:List UInt8):fJ l % 256=(l.getD 0 0).toNat:=by have:=(l.getD 0 0).toNat_lt;unfold fJ;omega
theorem KP(p:List UInt8)(h1:1≤p.length)(h2:p.length≤8192)(K t:Nat)(hK:K≤(frame p).length)(ht:t≤4)(hne:¬(K=(frame p).length∧t=0)):fI (bO ((frame p).take K) (K - min t K))=none:=by
 have hl:=cJ p;have hlen:(bO ((frame p).take K) (K - min t K)).length=K:=by grind [jv,List.length_take]
 rcases Nat.lt_or_ge K 8 with h8|h8
 ·exact lB _ ad3
 ·have e1:fJ (bO ((frame p).take K) (K - min t K))=p.length:=by grind [Bv,Kb,frame,List.append_assoc,rX]
  unfold fI;rw[if_neg ad3,e1,hlen];rcases Nat.lt_or_ge K (frame p).length with hf|hf
  ·rw[if_pos ad3]
  ·obtain rfl:K=(frame p).length:=by omega
   rw[if_neg ad3,if_neg ?_];have hm:min t (frame p).length=t:=ad3;rw[hm,List.take_length];have t0:1≤t:=ad3;have e3:(frame p).drop 8=p:=aei;have e4:(frame p).drop 4=oQ (crc p).toNat++p:=aei;rcases Nat.lt_or_ge p.length t with hp|hp
   ·
    have d8:(bO (frame p) ((frame p).length - t)).drop 8=p.map (~~~ ·):=by grind [yK]
    have hc:crc (p.map (~~~ ·))=crc p ^^^ turned p.length:=by have:=Dq [] p;simpa using this
    rw[d8,List.take_of_length_le aea,hc];intro hh;have hlow:=MU ((bO (frame p) ((frame p).length - t)).drop 4);rw[←hh,ov _ _ _ ad3,e4,sB _ _ _ ad3]at hlow;have h4:((oQ (crc p).toNat++p).getD 0 0).toNat=(crc p).toNat % 256:=by rfl
    rw[h4]at hlow;exact Hq p.length h1 ad3 (Qc _ _ hlow)
   ·have d8:(bO (frame p) ((frame p).length - t)).drop 8=p.take (p.length - t)++(p.drop (p.length - t)).map (~~~ ·):=by rw[ov _ _ _ ad3,e3,hl,show 8+p.length - t - 8=p.length - t by omega];rfl
    have hc:crc (p.take (p.length - t)++(p.drop (p.length - t)).map (~~~ ·))=crc p ^^^ turned t:=by rw[Dq,List.take_append_drop,List.length_drop,show p.length - (p.length - t)=t by omega]
    have d4:fJ ((bO (frame p) ((frame p).length - t)).drop 4)=(crc p).toNat:=by
     rw[ov _ _ _ ad3,Bv _ _ ad3,e4]
     grind [rX,crc]
    rw[d8,List.take_of_length_le aea,hc,d4];intro hh
    grind [To,KQ,BitVec.eq_of_toNat_eq]
theorem Me(y:AV)(l:List UInt8)(h:Heap)(hb:By h y l)(hl:l.length≤1000000):
  ai Tryz.prog 32 [y] h fun r h' =>r= .sl ((frame l).map aN) .no∧Sub h h' :=by
 refine ad2 Tryz.func32 13 [.tmp 2] fun hwf=>?_
 have w1:=w32 l.length ad3;simp only[go_sem,hb.len,w1];refine(HT l.length ad3 h).pthen ?_;simp only[go_sem];refine(NJ y l h hb ad3).pthen ?_;simp only[go_sem];refine(HT (crc l).toNat (crc l).isLt h).pthen ?_;simp only[go_sem,hb.cells,hb.fit];refine(A2 [.sl ((oQ l.length).map aN) .no,.sl ((oQ (crc l).toNat).map aN) .no,y] [oQ l.length,oQ (crc l).toNat,l] .full h (.cons (.sl _ _) (.cons (.sl _ _) (.cons hb .nil))) ?_ aea).sthen fun h' hs=>?_
 ·grind [ue]
 simp only[go_sem];refine .same (.refl _) ⟨?_,hs⟩;simp[frame,au]
theorem Cq(y:AV)(l:List UInt8)(h:Heap)(hb:By h y l)(hl:l.length≤2000000):
  ai Tryz.prog 173 [y] h fun r h' =>(∃P p b,r= .tup [P,.b b]∧By h P p∧fI l=if b=true then some p else none)∧h' =h:=by
 refine ad2 Tryz.func173 36 [.tmp 2,.tmp 3] fun hwf=>?_
 rcases Nat.lt_or_ge l.length 8 with h8|h8
 ·have t1:decide ((l.length:Int)<8)=true:=decide_eq_true ad3
  simp only[go_sem,hb.len,t1];exact .same (.refl _) ⟨⟨_,[],false,rfl,.nil _,lB l h8⟩,rfl⟩
 ·have t1:decide ((l.length:Int)<8)=false:=decide_eq_false ad3
  simp only[go_sem,hb.len,t1];refine(DR y l h hb ad3).pthen ?_;have hn:=Pr l;have w1:IntKind.i64.wrap ((fJ l:Nat):Int)=((fJ l:Nat):Int):=aY _ ad3;have w2:IntKind.i64.wrap ((l.length:Int) - 8)=((l.length - 8:Nat):Int):=aeA
  by_cases hbad:fJ l<1∨8192<fJ l∨l.length - 8<fJ l
  ·have hnone:fI l=none:=by unfold fI;rw[if_neg ad3,if_pos hbad]
   have fin:∀Z:Prop,Z→Z:=fun _ z=>z
   by_cases c1:fJ l<1
   ·have t2:decide (((fJ l:Nat):Int)<1)=true:=decide_eq_true ad3
    simp only[go_sem,hb.len,w1,w2,t2];exact afw
   ·have t2:decide (((fJ l:Nat):Int)<1)=false:=decide_eq_false ad3
    by_cases c2:8192<fJ l
    ·have t3:decide ((8192:Int)<((fJ l:Nat):Int))=true:=decide_eq_true ad3
     simp only[go_sem,hb.len,w1,w2,t2,t3];exact afw
    ·have t3:decide ((8192:Int)<((fJ l:Nat):Int))=false:=decide_eq_false ad3
     have t4:decide (((l.length - 8:Nat):Int)<((fJ l:Nat):Int))=true:=decide_eq_true ad3;simp only[go_sem,hb.len,w1,w2,t2,t3,t4];exact afw
  ·have t2:decide (((fJ l:Nat):Int)<1)=false:=decide_eq_false ad3
   have t3:decide ((8192:Int)<((fJ l:Nat):Int))=false:=decide_eq_false ad3;have t4:decide (((l.length - 8:Nat):Int)<((fJ l:Nat):Int))=false:=decide_eq_false ad3;have w3:IntKind.i64.wrap ((8:Int)+((fJ l:Nat):Int))=((8+fJ l:Nat):Int):=aeA;simp only[go_sem,hb.len,w1,w2,t2,t3,t4,w3];refine hb.cut (m:=8) (m2:=(8+fJ l:Nat)) (x:=.i64) (x2:=.i64) 8 (8+fJ l) ?_ rfl ?_ rfl ad3 ad3 u5 fun z hz=>?_
   ·simp only[go_sem]
   ·simp only[go_sem]
   rw[Nat.add_sub_cancel_left]at hz;have hzl:((l.drop 8).take (fJ l)).length≤1000000:=by rw[List.length_take,List.length_drop];omega
   simp only[go_sem];refine .quiet ad7 ?_;simp only[go_sem];refine⟨_,NJ z _ h hz ad3,?_⟩;simp only[go_sem];refine hb.from (m:=4) (x:=.i64) 4 ?_ rfl ad3 u5 fun z4 hz4=>?_
   ·simp only[go_sem]
   simp only[go_sem];refine⟨_,DR z4 _ h hz4 afZ,?_⟩;simp only[go_sem];refine .same (.refl _) ⟨⟨z,_,_,rfl,hz,?_⟩,rfl⟩;unfold fI;rw[if_neg ad3,if_neg hbad]
   by_cases hc:(crc ((l.drop 8).take (fJ l))).toNat=fJ (l.drop 4)
   ·rw[if_pos hc,hc];simp
   ·rw[if_neg hc,if_neg]
    simp only[beq_iff_eq];omega
theorem P5:(U 82).bytes=24:=aei
def lp(p:List UInt8):AV:=.sl (p.map aN) .no
theorem IG(ps:List (List UInt8))(h:Heap):Ab.Rows 5 h (ps.map lp) ps:=⟨aea,fun i h1 h2=>by simp only[adU];exact .sl _ _⟩
theorem zN(ps:List (List UInt8)):Sized 1 (ps.map lp):=(IG ps cX).sized
def iE(h:Heap)(y:AV)(xs:List AV)(sp:List Nat):Prop:=(y= .sl xs .full∧sp= [])∨∃k,y= .sl xs (.own k)∧h k=some (.spare xs.length 1)∧sp= [k]
theorem Kw(h:scan l=(ps++(scan (l.drop at_)).1,at_+(scan (l.drop at_)).2))(hp:fI (l.drop at_)=some p):
  scan l=((ps++ [p])++(scan (l.drop (at_+(8+p.length)))).1,(at_+(8+p.length))+(scan (l.drop (at_+(8+p.length)))).2):=by
 simp_all [se,List.drop_drop,Nat.add_assoc]
theorem PM(y:AV)(l:List UInt8)(h:Heap)(hb:By h y l)(hl:l.length≤2000000):
  ai Tryz.prog 123 [y] h fun r h' =>∃z sp,r= .tup [z,.i ((scan l).2:Nat)]∧iE h' z ((scan l).1.map lp) sp∧Sub h h'∧∀i∈sp,h i=none:=by
 refine ad2 Tryz.func123 29 [.tmp 2,.tmp 3] fun hwf=>?_
 simp only[go_sem];refine .intro (fun m ρ h' =>∃(i:Nat) (ps:List (List UInt8)) (z:AV),Acc U 82 h h' z (ps.map lp)∧fW h h'∧ps.length≤i∧i≤l.length∧m=l.length - i∧scan l=(ps++(scan (l.drop i)).1,i+(scan (l.drop i)).2)∧
  lk ρ 0=some y∧lk ρ 4=some z∧lk ρ 5=some (.i (i:Nat))) l.length ?_ ?_
 ·refine⟨0,[],_,.full (.refl h),.refl h,aea,ad3,rfl,aea,?_,?_,?_⟩<;>simp only[go_sem]
 ·rintro m ρ h' ⟨i,ps,z,ha,hk,hpi,hi,rfl,hsc,r0,r4,r5⟩
  have hb' :=hb.fZ hk;simp only[go_sem,r0,r4,r5];refine hb'.from (m:=i) (x:=.i64) i ?_ rfl hi u5 fun y2 hy2=>?_
  ·rfl
  simp only[go_sem,r0,r4,r5];refine(Cq y2 (l.drop i) h' hy2 ad4).mono fun r h2 ⟨⟨P,p,b,e1,hP,hbg⟩,e2⟩=>?_
  subst e1;subst e2
  cases b with
  |false=>
   rw[if_neg aea]at hbg;rw[mV hbg]at hsc;simp only[go_sem,r0,r4,r5];have hs:=ha.1;rw[hsc];rcases ha.2 with rfl|⟨k,k1,rfl,k2⟩
   ·exact .same (.refl _) ⟨_,[],rfl,.inl ⟨aea,rfl⟩,hs,aea⟩
   ·rw[u27]at k2
    exact .same (.refl _) ⟨_,[k],rfl,.inr ⟨k,aea,ad4,rfl⟩,hs,ad4⟩
  |true=>
   rw[if_pos rfl]at hbg;have hpl:=nM hbg;rw[List.length_drop]at hpl;have hsc' :=Kw hsc hbg;have w1:IntKind.i64.wrap ((8:Int)+(p.length:Int))=((8+p.length:Nat):Int):=aeg;have w2:IntKind.i64.wrap ((i:Int)+((8+p.length:Nat):Int))=((i+(8+p.length):Nat):Int):=aeg;simp only[go_sem,r0,r4,r5];refine(qW P p h2 hP ad3).pthen' ?_;simp only[go_sem,r0,r4,r5];refine ha.app (zs:=[lp p]) ad6 ad6 (fun k hk=>hk) (by grind [u27,zN]) (by grind [u27,Sized,lp,AV.cells]) (by grind [P5]) fun z' h3 ha' hk' =>?_
   rw[show ps.map lp++ [lp p]=(ps++ [p]).map lp by simp]at ha'
   have hP3:=hP.fZ hk';simp only[go_sem,r0,r4,r5,hP3.len,w1,w2];refine⟨_,?_,i+(8+p.length),ps++ [p],z',ha',hk.trans hk',ad4,ad3,rfl,hsc',?_,?_,?_⟩
   ·omega
   all_goals simp only[go_sem,r0,r4,r5,hP3.len,w1,w2]
theorem PN(l:List UInt8):(scan l).1.length≤l.length∧∀p∈(scan l).1,p.length≤8192:=by
 induction hn:l.length using Nat.strongRecOn generalizing l with
 |_ n ih=>
  cases hb:fI l with
  |none=>simp_all [mV,Nat.zero_le]
  |some p=>
   have hl:=nM hb;rw[se hb]
   grind
theorem iE.row{h:Heap}{y:AV}{xs:List AV}(hg:iE h y xs sp):∃q,y= .sl xs q:=by rcases hg with⟨rfl,_⟩|⟨k,rfl,_⟩<;>exact⟨_,rfl⟩
def Touch(S:List Nat)(h h' :Heap):Prop:=∀j k,j∉S→h j=some k→h' j=some k
theorem Touch.refl(S:List Nat)(h:Heap):Touch S h h:=fun _ _ _ e=>e
theorem Touch.trans{a b c:Heap}(x:Touch S a b)(y:Touch T b c):Touch (S++T) a c:=fun j k e hj=>y j k ad4 (x j k ad4 hj)
theorem Touch.of{h h' :Heap}(hs:Ab.Sub h h'):Touch S h h' :=fun _ _ _ e=>hs _ _ e
theorem Touch.keep{i:Nat}{h h' :Heap}(hs:Keep i h h'):Touch [i] h h' :=fun j k e hj=>hs j k ad4 hj
theorem Touch.upd{h:Heap}{i:Nat}{k:Option Blk}:Touch [i] h (upd h i k):=Touch.keep (Keep.upd i k)
theorem Touch.mono{h h' :Heap}(ht:Touch S h h')(hs:∀i∈S,i∈T∨h i=none):Touch T h h' :=fun j k e hj=>ht j k ad4 hj
theorem iE.touch{h h' :Heap}{y:AV}{xs:List AV}(hg:iE h y xs sp)(ht:Touch S h h')(hn:∀i∈sp,i∉S):iE h' y xs sp:=by
 rcases hg with⟨rfl,rfl⟩|⟨k,rfl,k1,rfl⟩
 ·exact .inl ⟨rfl,rfl⟩
 ·exact .inr ⟨k,rfl,ht _ _ (hn k aea) k1,rfl⟩
theorem iE.has{h:Heap}{y:AV}{xs:List AV}(hg:iE h y xs sp):∀i∈sp,∃n,h i=some (.spare n 1):=by
 rcases hg with⟨rfl,rfl⟩|⟨k,rfl,k1,rfl⟩
 ·simp
 grind
theorem iE.app{h:Heap}{y v:AV}{xs zs:List AV}(hg:iE h y xs sp)(hsrc:∀k:List AV→Prop,k zs→iP U 82 h v k)(s1:Sized 1 xs)(s2:Sized 1 zs)
  (hlen:xs.length+zs.length≤1000000000000) (hk:∀y' h' sp',iE h' y' (xs++zs) sp'→Touch sp h h'→(∀i∈sp',i∈sp∨h i=none)→Q y' h'):apK U h y v Q (.slice 82):=by
 rcases hg with⟨rfl,rfl⟩|⟨k,rfl,k1,rfl⟩
 ·refine(qN ..).mpr ⟨ad6,ad6,hsrc _ ⟨by grind [u27],by grind [u27],by grind [P5],fun hn=>?_,fun hn=> .own fun id hid=>?_⟩⟩
  ·subst hn
   exact hk _ _ [] (.inl ⟨aea,rfl⟩) (.refl _ _) aea
  ·rw[u27]
   exact hk _ _ [id] (.inr ⟨id,rfl,by rw[ah,adX],rfl⟩) (.of ((Ab.Sub.refl h).new hid _)) ad4
 ·refine(Cf ..).mpr ⟨ad6,ad6,hsrc _ ⟨by grind [u27],by grind [u27],by grind [P5],by grind [u27],?_⟩⟩
  rw[u27];exact hk _ _ [k] (.inr ⟨k,rfl,by rw[ah,adX],rfl⟩) .upd aea
def JAt(h:Heap)(t jid did:Nat)(ps:List (List UInt8))(down:Bool)(sp:List Nat):Prop:=
 ∃y xs,h jid=some (.obj [.ptr did 0,y,.b down] t)∧iE h y xs sp∧∀g,Ab.Rows 5 g xs ps
theorem JAt.touch{h h' :Heap}{t jid did:Nat}(hj:JAt h t jid did ps down sp)(ht:Touch S h h')(h1:jid∉S)(hn:∀i∈sp,i∉S):JAt h' t jid did ps down sp:=by obtain⟨y,xs,a,b,c⟩:=hj;exact⟨y,xs,ht _ _ h1 a,b.touch ht hn,c⟩
theorem JAt.sub{h h' :Heap}{t jid did:Nat}(hj:JAt h t jid did ps down sp)(ht:Ab.Sub h h'):JAt h' t jid did ps down sp:=
 hj.touch (S:=[]) (.of ht) aea aea
theorem Kt{h:Heap}{xs:List AV}{x:AV}(hr:Ab.Rows 5 h xs ps)(hx:By h x p):Ab.Rows 5 h (xs++ [x]) (ps++ [p]):=⟨by simp[hr.1],fun i h1 h2=>by
 have hl:=hr.1
 by_cases hi:i<xs.length
 ·rw[List.getElem_append_left hi,List.getElem_append_left ad3]
  exact hr.2 i hi ad3
 ·have e:i=xs.length:=by grind
  subst e;simpa[hl]using hx⟩
theorem tU(jid did:Nat)(ps:List (List UInt8))(down:Bool)(sp:List Nat)(h:Heap)(hj:JAt h 211 jid did ps down sp):ai Tryz.prog 66 [.ptr jid 0] h fun r h' =>r= .b down∧h' =h:=by
 obtain⟨y,xs,a,_,_⟩:=hj;refine ad2 Tryz.func66 7 [.tmp 2] fun hwf=>?_
 simp only[go_sem,a];exact aeh
theorem zK(jid did:Nat)(ps:List (List UInt8))(down:Bool)(sp:List Nat)(h:Heap)(hj:JAt h 211 jid did ps down sp)(hl:ps.length≤1000000)(hp:∀p∈ps,p.length≤1000000):
  ai Tryz.prog 57 [.ptr jid 0] h fun r h' =>∃q,r= .sl (ps.map lp) q∧Ab.Sub h h' :=by
 obtain⟨y,xs,a,b,c⟩:=hj;refine ad2 Tryz.func57 22 [.tmp 2] fun hwf=>?_
 obtain⟨qy,rfl⟩:=b.row;have hlen:=(c h).1;simp only[go_sem,a];refine .intro (fun m ρ g=>∃(i:Nat) (z:AV),Acc U 82 h g z ((ps.take i).map lp)∧i≤ps.length∧m=ps.length - i∧lk ρ 3=some z∧lk ρ 9=some (.sl xs qy)∧lk ρ 10=some (.i xs.length)∧lk ρ 11=some (.i i)) (ps.length - 0) ?_ ?_
 ·refine⟨0,_,.full (.refl h),ad3,rfl,?_,?_,?_,?_⟩<;>simp only[go_sem]
 ·rintro m ρ g ⟨i,z,ha,hi,rfl,r3,r9,r10,r11⟩
  by_cases hc:i<ps.length
  ·have d1:decide ((i:Int)<(xs.length:Int))=true:=decide_eq_true ad3
   have w1:IntKind.i64.wrap ((i:Int)+1)=((i+1:Nat):Int):=aeg;have hx:=(c g).2 i ad3 hc;simp only[go_sem,r3,r9,r10,r11,d1];refine .at i ad3 (by rw[hx.cells];rfl) ?_
   simp only[go_sem,r3,r9,r10,r11,hx.cells,hx.MR,and_self];refine(qW xs[i] ps[i] g hx ad4).pthen' ?_;simp only[go_sem,r3,r9,r10,r11];refine ha.app (v:=.sl [lp ps[i]] .full) (zs:=[lp ps[i]]) ad6 ad6 (fun k hk=>hk) (by grind [u27,zN]) (by grind [u27,Sized,lp,AV.cells]) (by grind [P5]) fun z' g2 ha' hk' =>?_
   simp only[go_sem,r3,r9,r10,r11,w1];refine⟨_,?_,i+1,z',?_,ad3,rfl,?_,?_,?_,?_⟩
   ·omega
   ·grind [List.take_succ_eq_append_getElem]
   all_goals simp only[go_sem,r3,r9,r10,r11,w1]
  ·obtain rfl:i=ps.length:=by omega
   have d1:decide ((ps.length:Int)<(xs.length:Int))=false:=decide_eq_false ad3;simp only[go_sem,r3,r9,r10,r11,d1];rw[List.take_length]at ha;obtain⟨q,rfl⟩:=ha.row;exact .same (.refl _) ⟨q,rfl,ha.1⟩
def D.bW(d:D):D×Nat:=
 let c:=if(scan d.b).2<d.b.length then d.cut ((scan d.b).2:Nat)else(d,0)
 if c.2=0 then c.1.sync else c
theorem D.M1(hd:d.ok):d.bW.1.ok:=by grind [scan,Nat,ok,D.Ck,D.bW,sync,D.xT]
theorem Mv(d:D)(hd:d.ok)(id:Nat)(h:Heap)(hdk:bA h id d):
  ai Tryz.prog 56 [.ptr id 0] h fun r h' =>∃J,r= .tup [J,.i (d.bW.2:Nat)]∧bA h' id d.bW.1∧Keep id h h'∧
   if d.bW.2=0 then∃jid sp,J= .ptr jid 0∧h jid=none∧JAt h' 211 jid id (scan d.b).1 false sp∧∀i∈sp,h i=none∧i≠jid else J= .v (.pointer none):=by
 refine ai.of_wp hU Tryz.func56 rfl aei 35 rfl [.tmp 2,.tmp 3] rfl (adS rfl) ?_;refine .one hU hm ?_;simp only[go_sem]
 show WP _ _ _ _ _ _
 refine .one hU hm ?_;simp only[go_sem]
 show WP _ _ _ _ _ _
 have hlen:d.b.length≤2000000:=by have:=hd.1;have:=hd.2.1;omega
 obtain⟨at_,hat⟩:∃n,(scan d.b).2=n:=⟨_,rfl⟩;have hatl:=II d.b;rw[hat]at hatl;refine .cut (fun ρ g=>∃z sp,iE g z ((scan d.b).1.map lp) sp∧Ab.Sub h g∧(∀i∈sp,h i=none)∧lk ρ 0=some (.ptr id 0)∧lk ρ 4=some z∧lk ρ 5=some (.i at_)) (.vc hU hm ?_) ?_
 ·simp only[go_sem]
  refine(Nq d hd id h hdk).pthen ?_;simp only[go_sem];refine(PM _ d.b h (.sl _ _) hlen).mono fun r g ⟨z,sp,e1,hg,hs,hsp⟩=>?_
  subst e1;rw[hat];simp only[go_sem];refine⟨z,sp,hg,hs,hsp,?_,?_,?_⟩<;>simp only[go_sem]
 rintro ρ g ⟨z,sp,hg,hs,hsp,r0,r4,r5⟩
 have hdk1:=hdk.keep hs.fZ;have hob:∀i∈sp,i≠id:=fun i hi e=>by
  obtain⟨y,hy,_⟩:=hdk
  grind
 refine .cut (fun ρ g=>∃d1,d.bW=d1.sync∧d1.ok∧bA g id d1∧iE g z ((scan d.b).1.map lp) sp∧Keep id h g∧lk ρ 0=some (.ptr id 0)∧lk ρ 4=some z) (.vc hU hm ?_) ?_
 ·simp only[go_sem,r0,r4,r5]
  refine(Pd d id g hdk1).pthen ?_;simp only[go_sem,r0,r4,r5];refine .intro (fun e=>?_) (fun e=>?_)
  ·have e:=adV e
   have e' :at_<d.b.length:=ad3;simp only[go_sem,r0,r4,r5];refine dthen (Ck d hd id g at_ hdk1) fun g1 hd1 kp=>?_
   have hO:d.bW=if(d.cut (at_:Nat)).2=0 then(d.cut (at_:Nat)).1.sync else d.cut (at_:Nat):=by simp_all [D.bW,if_pos]
   have ok1:=D.Ck hd at_;generalize d.cut (at_:Nat)=D0 at hO hd1 ok1⊢;obtain⟨D1,c1⟩:=D0;simp only at hO hd1 ok1⊢;simp only[go_sem,r0,r4,r5]
   by_cases hc:c1=0
   ·subst hc
    rw[if_pos rfl]at hO;simp only[go_sem,r0,r4,r5];refine⟨D1,hO,ok1,hd1,hg.touch (Touch.keep kp) ad4,(hs.keep id).trans kp,?_,?_⟩<;>simp only[go_sem,r0,r4]
   ·rw[if_neg hc]at hO
    have t1:(((c1:Nat):Int) !=0)=true:=ad4;simp only[go_sem,r0,r4,r5,t1];refine .same (.refl _) ⟨_,by rw[hO];rfl,ad4,(hs.keep id).trans kp,?_⟩
    grind
  ·have e:=adW e
   have e' :¬at_<d.b.length:=ad3;have hO:d.bW=d.sync:=by simp_all [D.bW,if_neg]
   simp only[go_sem,r0,r4,r5];refine⟨d,hO,hd,hdk1,hg,hs.keep id,?_,?_⟩<;>simp only[go_sem,r0,r4]
 rintro ρ g1 ⟨d1,hO,ok1,hd1,hg1,kp1,r0,r4⟩
 refine .vc hU hm ?_;simp only[go_sem,r0,r4];refine dthen (xT d1 ok1 id g1 hd1) fun g2 hd2 kp2=>?_
 rw[hO];generalize d1.sync=D0 at hd2⊢;obtain⟨D2,c2⟩:=D0;simp only at hd2⊢;have kp:=kp1.trans kp2;have hg2:=hg1.touch (Touch.keep kp2) ad4;simp only[go_sem,r0,r4]
 by_cases hc:c2=0
 ·subst hc
  obtain⟨qz,rfl⟩:=hg2.row;simp only[go_sem,r0,r4];intro jid hjid;simp only[go_sem,r0,r4];have hne:jid≠id:=fun e=>by
   obtain⟨y,hy,_⟩:=hd2
   grind
  have hjh:h jid=none:=by
   cases hh:h jid with
   |none=>rfl
   |some k=>rw[kp _ _ hne hh]at hjid;omega
  have hsj:∀i∈sp,i≠jid:=fun i hi e=>by
   obtain⟨n,hn⟩:=hg2.has i hi
   grind
  refine .same (.refl _) ⟨_,rfl,hd2.keep (.new hjid),fun j k e hj=>?_,jid,sp,rfl,hjh,⟨_,_,ah ..,hg2.touch .upd ad4,fun g=>IG _ g⟩,fun i hi=>⟨hsp i hi,hsj i hi⟩⟩
  have h2:=kp j k e hj;rw[ag _ _ ad4];exact ahR
 ·have t1:(((c2:Nat):Int) !=0)=true:=by grind
  simp only[go_sem,r0,r4,t1];exact .same (.refl _) ⟨_,rfl,hd2,kp,ad4⟩
def jadd(d:D)(ps:List (List UInt8))(down:Bool)(p:List UInt8):(D×List (List UInt8)×Bool)×Nat:=
 if down=true then((d,ps,true),9)else if p.length=0∨8192<p.length then((d,ps,false),1)else
  if(d.append (frame p)).2=8 then(((d.append (frame p)).1,ps,false),8)else
   if(if(d.append (frame p)).2=0 then(d.append (frame p)).1.sync else d.append (frame p)).2=0 then
    (((if(d.append (frame p)).2=0 then(d.append (frame p)).1.sync else d.append (frame p)).1,ps++ [p],false),0)
   else(((if(d.append (frame p)).2=0 then(d.append (frame p)).1.sync else d.append (frame p)).1,ps,true),9)
theorem D.Db(d:D)(b:List UInt8):(d.append b).2=0∨(d.append b).2=8∨(d.append b).2=9:=by grind [D.append]
theorem D.KJ(d:D):d.sync.2=0∨d.sync.2=9:=by grind [D.sync]
theorem Ie(d:D)(hd:d.ok)(id jid:Nat)(ps:List (List UInt8))(down:Bool)(sp:List Nat)(h:Heap)(x:AV)(p:List UInt8)(hdk:bA h id d)(hj:JAt h 211 jid id ps down sp)(hx:By h x p)(hp:p.length≤1000000)(hps:ps.length≤1000000):
  ai Tryz.prog 68 [.ptr jid 0,x] h fun r h' =>r= .i ((jadd d ps down p).2:Nat)∧∃sp',bA h' id (jadd d ps down p).1.1∧JAt h' 211 jid id (jadd d ps down p).1.2.1 (jadd d ps down p).1.2.2 sp'∧
   Touch (id::jid::sp) h h'∧∀i∈sp',i∈sp∨h i=none:=by
 obtain⟨y,xs,hjid,hg,hrs⟩:=hj;have hne:jid≠id:=fun e=>by obtain⟨z,hz,_⟩:=hdk;rw[←e,hjid]at hz;simp only[Option.some.injEq,Blk.obj.injEq]at hz;exact absurd hz.2 ad6
 refine ai.of_wp hU Tryz.func68 rfl ad7 51 rfl [.tmp 4] rfl (adS rfl) ?_;refine .one hU hm ?_;simp only[go_sem]
 show WP _ _ _ _ _ _
 refine .one hU hm ?_;cases down with
 |true=>
  have hJ:jadd d ps true p=((d,ps,true),9):=by simp[jadd]
  simp only[go_sem,hjid];refine .same (.refl _) ?_;rw[hJ];exact⟨rfl,sp,hdk,⟨y,xs,hjid,hg,hrs⟩,.refl _ _,fun i hi=> .inl hi⟩
 |false=>
  simp only[go_sem,hjid]
  show WP _ _ _ _ _ _
  refine .one hU hm ?_;have bad:(p.length=0∨8192<p.length)→nJ [.i 1] h fun r h' =>r= .i ((jadd d ps false p).2:Nat)∧∃sp',bA h' id (jadd d ps false p).1.1∧JAt h' 211 jid id (jadd d ps false p).1.2.1 (jadd d ps false p).1.2.2 sp'∧
    Touch (id::jid::sp) h h'∧∀i∈sp',i∈sp∨h i=none:=fun hb=>by
   have hJ:jadd d ps false p=((d,ps,false),1):=by unfold jadd;rw[if_neg aea,if_pos hb]
   refine .same (.refl _) ?_;rw[hJ];exact⟨rfl,sp,hdk,⟨y,xs,hjid,hg,hrs⟩,.refl _ _,fun i hi=> .inl hi⟩
  by_cases h0:p.length=0
  ·have t0:(((p.length:Nat):Int)==0)=true:=by simp[h0]
   simp only[go_sem,hx.len,t0];exact bad (.inl h0)
  ·have t0:(((p.length:Nat):Int)==0)=false:=beq_eq_false_iff_ne.mpr ad3
   by_cases h1:8192<p.length
   ·have t1:decide ((8192:Int)<(p.length:Int))=true:=decide_eq_true ad3
    simp only[go_sem,hx.len,t0,t1];exact bad (.inr h1)
   ·have t1:decide ((8192:Int)<(p.length:Int))=false:=decide_eq_false ad3
    have hJ:jadd d ps false p=if(d.append (frame p)).2=8 then(((d.append (frame p)).1,ps,false),8)else
      if(if(d.append (frame p)).2=0 then(d.append (frame p)).1.sync else d.append (frame p)).2=0 then
       (((if(d.append (frame p)).2=0 then(d.append (frame p)).1.sync else d.append (frame p)).1,ps++ [p],false),0)
      else(((if(d.append (frame p)).2=0 then(d.append (frame p)).1.sync else d.append (frame p)).1,ps,true),9):=by
     have hno:¬(p.length=0∨8192<p.length):=ad3;unfold jadd;rw[if_neg aea,if_neg hno]
    have hcode:=D.Db d (frame p);simp only[go_sem,hx.len,t0,t1]
    show WP _ _ _ _ _ _
    refine .one hU hm ?_;simp only[go_sem];refine .calls (hm1 jid _) [0,1,2,3,4,5,6,7] (.hm1 hjid) ad7 rfl ?_;simp only[go_sem,hjid];refine(Me x p h hx hp).sthen fun g1 hs1=>?_
    refine⟨.hm1 (hs1 _ _ hjid),?_⟩;simp only[go_sem];refine dthen (vb d hd id g1 _ (frame p) (hdk.keep hs1.fZ) (.sl _ _) (by rw[cJ];omega)) fun g2 hd2 kp=>?_
    have hj2:g2 jid=some (.obj [.ptr id 0,y,.b false] 211):=kp _ _ hne (hs1 _ _ hjid);refine⟨.hm1 hj2,?_⟩;have ok2:=D.vb hd (frame p);have hkp:Keep id h g2:=(hs1.keep id).trans kp;have hgid:∀i∈sp,i≠id:=fun i hi e=>by obtain⟨n,hn⟩:=hg.has i hi;obtain⟨z,hz,_⟩:=hdk;rw[e,hz]at hn;cases hn
    have hg2:iE g2 y xs sp:=hg.touch (Touch.keep hkp) (fun i hi=>by simp[hgid i hi])
    have hx2:By g2 x p:=by obtain⟨z,hz,_⟩:=hdk;exact(hx.keep hkp hz ad6)
    have hT2:Touch (id::jid::sp) h g2:=(Touch.keep hkp).mono (fun i hi=> .inl (by simp at hi;simp[hi]))
    generalize d.append (frame p)=A at hJ hcode hd2 ok2⊢;obtain⟨d2,c2⟩:=A;simp only at hJ hcode hd2 ok2⊢;simp only[go_sem]
    show WP _ _ _ _ _ _
    refine .one hU hm ?_;have downed:∀(g:Heap) (e:D) (ρ:Env),bA g id e→g jid=some (.obj [.ptr id 0,y,.b false] 211)→iE g y xs sp→Touch (id::jid::sp) h g→jadd d ps false p=((e,ps,true),9)→
      (nJ [.i 9] (upd g jid (some (.obj [.ptr id 0,y,.b true] 211))) fun r h' =>r= .i ((jadd d ps false p).2:Nat)∧∃sp',bA h' id (jadd d ps false p).1.1∧JAt h' 211 jid id (jadd d ps false p).1.2.1 (jadd d ps false p).1.2.2 sp'∧
       Touch (id::jid::sp) h h'∧∀i∈sp',i∈sp∨h i=none):=fun g e ρ a1 a2 a3 a4 hJ=>by
     rw[hJ];have hsj:∀i∈sp,i≠jid:=fun i hi e=>by obtain⟨n,hn⟩:=hg.has i hi;rw[e,hjid]at hn;cases hn
     have ht:Touch [jid] g (upd g jid (some (.obj [.ptr id 0,y,.b true] 211))):=.upd;refine .same (.refl _) ⟨rfl,sp,?_,⟨y,xs,ah ..,a3.touch ht (fun i hi=>by simp[hsj i hi]),hrs⟩,(a4.trans ht).mono (fun i hi=> .inl (by simp at hi⊢;rcases hi with h|h|h|h<;>simp[h])),fun i hi=> .inl hi⟩
     obtain⟨z,z1,z2⟩:=a1;exact⟨z,ht _ _ (by simp;exact fun e=>hne e.symm) z1,z2.keep (Keep.upd jid _) a2 ad6⟩
    have hc0:=hcode;rcases hcode with rfl|rfl|rfl
    ·
     simp only[go_sem];refine .one hU hm ?_;simp only[go_sem,hj2];refine dthen (xT d2 ok2 id g2 hd2) fun g3 hd3 kp3=>?_
     have hj3:g3 jid=some (.obj [.ptr id 0,y,.b false] 211):=kp3 _ _ hne hj2;have hg3:iE g3 y xs sp:=hg2.touch (Touch.keep kp3) (fun i hi=>by simp[hgid i hi])
     have hx3:By g3 x p:=by obtain⟨z,hz,_⟩:=hd2;exact(hx2.keep kp3 hz ad6)
     have hT3:Touch (id::jid::sp) h g3:=(hT2.trans (Touch.keep kp3)).mono (fun i hi=> .inl (by simp at hi⊢;rcases hi with h|h|h|h<;>simp[h]))
     have hcs:=D.KJ d2;rw[if_neg ad6,if_pos rfl]at hJ;generalize d2.sync=A at hJ hcs hd3⊢;obtain⟨d3,c3⟩:=A;simp only at hJ hcs hd3⊢;rcases hcs with rfl|rfl
     ·simp only[go_sem]
      refine .one hU hm ?_;simp only[go_sem];refine .one hU hm ?_;simp only[go_sem];refine .last (hm1 jid _) [0,1,2,3,4,5,6,7,8,9,10] (.hm1 hj3) ad7 rfl ad7 rfl ?_;simp only[go_sem,hj3];refine(qW x p g3 hx3 ad3).pthen' ?_;obtain⟨qy,rfl⟩:=hg3.row;refine⟨.hm1 hj3,?_⟩;simp only[go_sem,hj3];refine hg3.app (v:=.sl [lp p] .full) (zs:=[lp p]) (fun k hk=>hk) (hrs h).sized (by simp[Sized,lp,AV.cells]) (by have:=(hrs h).1;simp;omega) fun z g4 sp' hg4 ht4 hsp' =>?_
      have hsj:∀i∈sp,i≠jid:=fun i hi e=>by obtain⟨n,hn⟩:=hg.has i hi;rw[e,hjid]at hn;cases hn
      have hj4:g4 jid=some (.obj [.ptr id 0,.sl xs qy,.b false] 211):=ht4 _ _ (fun hi=>hsj _ hi rfl) hj3
      refine⟨.hm1 hj4,?_⟩;obtain⟨qz,rfl⟩:=hg4.row;simp only[go_sem,hj4];refine .vc hU hm ?_;simp only[go_sem];have ht5:Touch [jid] g4 (upd g4 jid (some (.obj [.ptr id 0,.sl (xs++ [lp p]) qz,.b false] 211))):=.upd;have hsj' :∀i∈sp',i≠jid:=fun i hi e=>by obtain⟨n,hn⟩:=hg4.has i hi;rw[e,hj4]at hn;cases hn
      rw[if_pos rfl]at hJ;refine .same (.refl _) ?_;rw[hJ];refine⟨rfl,sp',?_,⟨_,_,ah ..,hg4.touch ht5 (fun i hi=>by simp[hsj' i hi]),fun g=>Kt (hrs g) (.sl _ _)⟩,?_,fun i hi=>?_⟩
      ·obtain⟨z,z1,z2⟩:=hd3
       have hid4:g4 id=some (.obj (d3.cells z) 121):=ht4 _ _ (fun hi=>hgid _ hi rfl) z1
       have z4:By g4 z d3.b:=by
        rcases z2 with z2|⟨i,off,cs,rfl,a1,a2,a3⟩
        ·exact .inl z2
        ·exact .oa (ht4 _ _ (fun hi=>by obtain⟨n,hn⟩:=hg3.has i hi;rw[a1]at hn;cases hn) a1) a2 a3
       exact⟨z,ht5 _ _ (by simp;exact fun e=>hne e.symm) hid4,z4.keep (Keep.upd jid _) hj4 ad6⟩
      ·exact((hT3.trans ht4).trans ht5).mono (fun i hi=> .inl (by simp at hi⊢;grind))
      ·rcases hsp' i hi with h1|h1
       ·exact .inl h1
       ·cases hh:h i with
        |none=>exact .inr rfl
        |some k=>
         by_cases hin:i∈id::jid::sp
         ·simp only[List.mem_cons]at hin
          rcases hin with e|e|e
          ·subst e;rw[hd3.choose_spec.1]at h1;cases h1
          ·subst e;rw[hj3]at h1;cases h1
          ·exact .inl e
         ·rw[hT3 i k hin hh]at h1;cases h1
     ·simp only[go_sem]
      refine .one hU hm ?_;simp only[go_sem,hj3];exact downed g3 d3 [] hd3 hj3 hg3 hT3 hJ
    ·
     simp only[go_sem];refine .same (.refl _) ?_;rw[hJ];exact⟨rfl,sp,hd2,⟨y,xs,hj2,hg2,hrs⟩,hT2,fun i hi=> .inl hi⟩
    ·simp only[go_sem]
     refine .one hU hm ?_;simp only[go_sem,hj2];refine .one hU hm ?_;simp only[go_sem,hj2];exact downed g2 d2 [] hd2 hj2 hg2 hT2 hJ
theorem D.GI(hd:d.ok)(h1:d.off=false)(h2:d.f=0):d.bW=({d with b:=d.b.take (scan d.b).2,sy:=(scan d.b).2},0):=by
 have hl:=II d.b;have Q3:∀e:D,e.off=false→e.f=0→e.sync=({e with sy:=e.b.length},0):=fun e h1 h2=>by unfold D.sync;rw[if_neg (by simp[h1]),D.Qu h2,if_neg (by simp[h1])]
 unfold D.bW
 by_cases h:(scan d.b).2<d.b.length
 ·rw[if_pos h,D.X4 h1 h2 hl]
  grind
 ·have e:(scan d.b).2=d.b.length:=by omega
  grind
theorem BO(ps:List (List UInt8))(r:List UInt8)(h:∀p∈ps,1≤p.length∧p.length≤8192)(hr:r.length<8):scan (frames ps++r)=(ps,(frames ps).length):=by grind [wX,mV,lB]
theorem VK(h1:d.off=false)(h2:d.f=0)(hp1:1≤p.length)(hp2:p.length≤8192)(hf:d.b.length+(frame p).length≤d.q):
  jadd d ps false p=(({d with b:=d.b++frame p,sy:=(d.b++frame p).length},ps++ [p],false),0):=by
 have hno:¬(p.length=0∨8192<p.length):=ad3;have hs:({d with b:=d.b++frame p}:D).sync=({d with b:=d.b++frame p,sy:=(d.b++frame p).length},0):=D.Q3 h1 h2
 unfold jadd;rw[if_neg aea,if_neg hno,D.Ov h1 h2 hf,if_neg ad3,if_pos rfl,hs,if_pos rfl]
theorem Mt(h1:d.off=false)(hp1:1≤p.length)(hp2:p.length≤8192)(hf:d.q<d.b.length+(frame p).length):
  jadd d ps false p=((d,ps,false),8):=by
 have hno:¬(p.length=0∨8192<p.length):=ad3;unfold jadd;rw[if_neg aea,if_neg hno,D.FB h1 hf,if_pos rfl]
theorem uJ:scan []=([],0):=by grind [mV,lB]
theorem xu(a b:List UInt8)(s:Nat):bO (a++b) (a.length+s)=a++bO b s:=by grind [bO,List.take_length_add_append,List.drop_length_add_append,List.append_assoc]
theorem I5(q:Nat)(ps:List (List UInt8))(p:List UInt8)(hps:∀p∈ps,1≤p.length∧p.length≤8192)(hp1:1≤p.length)(hp2:p.length≤8192)(k t:Nat)(ht:t≤4):
  ∃G,(G=ps∨G=ps++ [p])∧scan (D.boot ⟨q,frames ps++frame p,(frames ps).length,0,true⟩ k t).b=(G,(frames G).length)∧(D.boot ⟨q,frames ps++frame p,(frames ps).length,0,true⟩ k t).b.take (frames G).length=frames G:=by
 have hb:(D.boot ⟨q,frames ps++frame p,(frames ps).length,0,true⟩ k t).b=frames ps++bO ((frame p).take (min k (frame p).length)) (min k (frame p).length - min t (min k (frame p).length)):=by
  show bO ((frames ps++frame p).take (D.left _ _)) (D.left _ _ - D.bad _ _ _)=_
  have e1:D.left ⟨q,frames ps++frame p,(frames ps).length,0,true⟩ k=(frames ps).length+min k (frame p).length:=by
   show(frames ps).length+min (k:Int).toNat ((frames ps++frame p).length - (frames ps).length)=_
   simp
  have e2:D.bad ⟨q,frames ps++frame p,(frames ps).length,0,true⟩ k t=min t (min k (frame p).length):=by grind [D.bad,min,Int,frames,frame,Nat.add_sub_cancel_left,Int.toNat_natCast]
  rw[e1,e2,List.take_length_add_append,Nat.add_sub_assoc ad3,xu]
 rw[hb]
 by_cases hw:min k (frame p).length=(frame p).length∧t=0
 ·obtain⟨h1,rfl⟩:=hw
  have e:bO ((frame p).take (min k (frame p).length)) (min k (frame p).length - min 0 (min k (frame p).length))=frame p:=by grind [List.take_length,bO]
  rw[e];refine⟨ps++ [p],.inr rfl,?_,?_⟩
  ·have:=BO (ps++ [p]) [] ad4 ad6
   rw[List.append_nil,jM]at this;rw[this,jM]
  ·rw[jM,List.take_length]
 ·refine⟨ps,.inl rfl,?_,List.take_left ..⟩
  have hn:=KP p hp1 hp2 (min k (frame p).length) t ad3 ht hw;rw[wX _ _ hps,mV hn];simp
end Go.Proofs.YtokahfmoollblaaGreatDoor
namespace Go.Bf
open Go Go.Ab Go.Proofs.YtokahfmoollblaaGreatDoor
variable {o:OpD}{v a:bB}
def fnv(h:BitVec 64)(n:Nat):BitVec 64:=(h ^^^ BitVec.ofNat 64 n)*1099511628211#64
def OT(g:BitVec 64→Nat→BitVec 64):Nat→BitVec 64→BitVec 64→BitVec 64
 |0,_,h=>h
 |n+1,p,h=>OT g n (p>>>8) (g h (p &&& 255#64).toNat)
def JB(n:Nat)(p h:BitVec 64):BitVec 64:=OT fnv n p h
theorem JE(g:BitVec 64→Nat→BitVec 64)(n:Nat)(p h:BitVec 64):OT g (n+1) p h=OT g n (p>>>8) (g h (p &&& 255#64).toNat):=rfl
theorem JD(p h:BitVec 64):JB 0 p h=h:=rfl
theorem JC(n:Nat)(p h:BitVec 64):JB (n+1) p h=JB n (p>>>8) (fnv h (p &&& 255#64).toNat):=JE fnv n p h
def sP(prev:BitVec 64)(l:Txt):BitVec 64:=l.foldl (fun h c=>fnv h c.toNat) (JB 8 prev 14695981039346656037#64)
def rf:Nat→BitVec 64→Txt
 |0,_=>[]
 |n+1,h=>UInt8.ofNat h.toNat::rf n (h>>>8)
def cK(h:BitVec 64)(o:OpD):Txt:=rf 8 h++gO o
theorem fS:∀(n:Nat) (h:BitVec 64),(rf n h).length=n
 |0,_=>rfl
 |n+1,h=>by simp[rf,fS n]
structure cI where
 s:an
 log:List pn
 ch:BitVec 64
 ps:List Txt
 down:Bool
def jc(e:cI)(p:Txt):Option OpD:=if p.length<8 then none else match oR (p.drop 8)with
 |some o=>if cK e.ch o=p then some o else none
 |none=>none
def mz(e:cI)(g:an×jW×pn×Int)(p:Txt):cI:={e with s:=g.1,log:=e.log++ [g.2.2.1],ch:=sP e.ch p}
def kJ(e:cI)(p:Txt):Option cI:=match jc e p with
 |some o=>if(aI e.s o).2.2.2=0 then some (mz e (aI e.s o) p)else none
 |none=>none
def lP:cI→List Txt→Option cI
 |e,[]=>some e
 |e,p::r=>match kJ e p with
  |some e' =>lP e' r
  |none=>none
def gE(ps:List Txt):cI:=⟨td,[],0,ps,false⟩
def vO(ps:List Txt):Option cI:=lP (gE ps) ps
def xq(n:Int):jW:=⟨n,naM,false,ax,false,0⟩
def doE(e:cI)(d:D)(o:OpD):cI×D×jW:=
 if e.down then(e,d,xq 9)else
 let g:=aI e.s o
 if g.2.2.2≠0 then(e,d,g.2.1)else
 let p:=cK e.ch o
 let a:=jadd d e.ps e.down p
 if a.2=0 then({mz e g p with ps:=a.1.2.1,down:=a.1.2.2},a.1.1,g.2.1)else({e with ps:=a.1.2.1,down:=a.1.2.2},a.1.1,xq (a.2:Int))
theorem sR:∀(l:List Txt) (e:cI) (p:Txt),lP e (l++ [p])=(lP e l).bind fun e' =>kJ e' p
 | [],e,p=>by grind [lP,kJ]
 |q::l,e,p=>by
  simp only[List.cons_append,lP];cases kJ e q with
  |none=>rfl
  |some e' =>exact sR l e' p
theorem PW{e e' :cI}{p:Txt}(h:kJ e p=some e')(ps:List Txt):kJ {e with ps:=ps} p=some {e' with ps:=ps}:=by
 unfold kJ at h⊢;have hr:jc {e with ps:=ps} p=jc e p:=rfl
 rw[hr];cases hq:jc e p with
 |none=>rw[hq]at h;cases h
 |some o=>
  rw[hq]at h;simp only at h⊢;split at h
  ·rename_i hg
   rw[if_pos hg];cases h;rfl
  ·cases h
theorem HR:∀(l:List Txt) {e e' :cI},lP e l=some e'→∀ps,lP {e with ps:=ps} l=some {e' with ps:=ps}
 | [],e,e',h,ps=>by cases h;rfl
 |p::l,e,e',h,ps=>by
  simp only[lP]at h⊢;cases hs:kJ e p with
  |none=>grind
  |some e1=>rw[hs]at h;rw[PW hs ps];exact HR l h ps
def C0(e:cI):Prop:=vO e.ps=some {e with down:=false}
theorem Nr{e:cI}(hf:dH o=true)(h64:kW o):jc e (cK e.ch o)=some o:=by
 unfold jc;rw[if_neg (by simp[cK,fS])]
 grind [cK,gO,List.drop_left',fS,OW]
theorem dP{s:an}(h:(aI s o).2.2.2=0):dH o=true:=by
 have hp:(kE s o).1=0:=by
  unfold aI at h
  grind
 exact(uC hp).2.1
theorem L1{e:cI}(he:C0 e)(hg:(aI e.s o).2.2.2=0)(h64:kW o):C0 {mz e (aI e.s o) (cK e.ch o)with ps:=e.ps++ [cK e.ch o],down:=false}:=by
 unfold C0 vO at he⊢;have h1:=HR _ he (e.ps++ [cK e.ch o]);rw[sR,show gE (e.ps++ [cK e.ch o])= {gE e.ps with ps:=e.ps++ [cK e.ch o]} from rfl,h1]
 simp only[Option.bind_some];unfold kJ;have hr:jc {({e with down:=false}:cI)with ps:=e.ps++ [cK e.ch o]} (cK e.ch o)=some o:=by
  have:=Nr (e:={({e with down:=false}:cI)with ps:=e.ps++ [cK e.ch o]}) (dP hg) h64
  exact aeE
 rw[hr];simp only;generalize cK e.ch o=p;rw[if_pos hg];rfl
theorem IV:∀(f v:Nat),(o8 f v).length≤f
 |0,_=>by simp[o8]
 |f+1,v=>by
  unfold o8;split
  ·simp
  ·simp only[List.length_cons]
   have:=IV f (v / 128);omega
theorem iV(n:Int):(iU n).length≤10:=IV 10 _
theorem Pt(n:Int):1≤(iU n).length:=List.length_pos_iff.2 (IU 10 _ ad6)
theorem dD(s:Txt):(dI s).length≤10+s.length:=by grind [dI,adX,iV]
theorem xW(h:v=ax∨bH v=true):(oH v).length≤84:=by
 have hs:v.kind=3∨v.kind=5→v.s.length≤64:=fun e=>by
  rcases h with rfl|h
  ·decide
  simp_all [vU]
 unfold oH;rw[adX];have h1:=iV v.kind;split
 ·rename_i e
  have:=dD v.s;omega
 ·have:=iV v.n
  omega
theorem xN(hf:OpF o):1≤(gO o).length∧(gO o).length≤5000:=by unfold gO;simp only[adX];have h1:=iV o.kind;have h0:=Pt o.kind;have h2:=dD o.subj;have h3:=dD o.case;have h4:=dD o.field;have h5:=dD o.to;have h6:=xW hf.val;have h7:=iV o.review;have h8:=dD o.text;have h9:=dD o.reason;have h10:=xW (v:=dR o.glass) (.inr (z8 _));have:=hf.subj;have:=hf.case;have:=hf.field;have:=hf.to;have:=hf.text;have:=hf.reason;omega
theorem mL{h:BitVec 64}(hf:OpF o):9≤(cK h o).length∧(cK h o).length≤5008:=by grind [xN,cK,adX,fS]
def zc(a b:bB):Int:=if bH a=false∨bH b=false then 1 else 2
def lT(a b:bB):AV:=match nS a b with
 |some x=> .tup [.b x,.i 0]
 |none=> .tup [.b false,.i (zc a b)]
theorem Bo{b:bB}(h:bH a=false∨bH b=false):lT a b= .tup [.b false,.i 1]:=by
 unfold lT nS;rw[if_pos ad4]
 simp_all [zc,if_pos]
theorem zb{b:bB}(h1:bH a=true)(h2:bH b=true)(h:a.kind≠b.kind∨a.kind=1):lT a b= .tup [.b false,.i 2]:=by simp_all [lT,nS,if_pos,zc]
theorem Pg{b:bB}(h1:bH a=true)(h2:bH b=true)(h:a.kind=b.kind)(h0:a.kind≠1)(ht:a.kind=3∨a.kind=5):lT a b= .tup [.b (Op.bytesLess a.s b.s),.i 0]:=by simp_all [lT,nS,if_neg,if_pos]
theorem Pf{b:bB}(h1:bH a=true)(h2:bH b=true)(h:a.kind=b.kind)(h0:a.kind≠1)(ht:¬(a.kind=3∨a.kind=5)):lT a b= .tup [.b (decide (a.n<b.n)),.i 0]:=by simp_all [lT,nS,if_neg]
end Go.Bf
namespace Go.Proofs.YtokahfmoollblaaGreatDoor
open Go Go.Ab Go.Bf Tryz
theorem zZ(k:Int)(h:Heap):ai prog 229 [.i k] h fun r h' =>r= .b (k==3||k==5)∧h' =h:=by
 refine ad2 func229 9 [.tmp 2] fun hwf=>?_
 cases d1:(k==3)<;>cases d2:(k==5)
 all_goals
  simp only[go_sem,d1,d2];exact aeh
theorem CB(a b:bB)(h:Heap):ai prog 287 [aV a,aV b] h fun r h' =>r=lT a b∧h' =h:=by
 have ha:=fun(G:Heap)=>gK a G
 have hb:=fun(G:Heap)=>gK b G
 simp only[aV]at ha hb;refine ad2 func287 40 [.tmp 4,.tmp 5] fun hwf=>?_
 simp only[go_sem,aV];intro i1 h1;simp only[go_sem];intro i2 h2;have n21:=aF h2;have n2:=aB h2;have hs:∀x y,Ab.Sub h (upd (upd h i1 x) i2 y):=fun x y=>((Sub.refl h).put h1 x).put n2 y
 simp only[go_sem,aj,n21.symm];refine(ha _).pthen ?_;cases da:bH a
 ·simp only[go_sem]
  exact .mk _ (.refl _) (hs _ _) ⟨by rw[Bo (.inl da)];rfl,rfl⟩
 simp only[go_sem];refine(hb _).pthen ?_;cases db:bH b
 ·simp only[go_sem]
  exact .mk _ (.refl _) (hs _ _) ⟨by rw[Bo (.inr db)];rfl,rfl⟩
 cases dk:(a.kind !=b.kind)
 case true=>simp only[go_sem,aj,n21.symm,dk];exact .mk _ (.refl _) (hs _ _) ⟨by rw[zb da db (.inl ad4)];rfl,rfl⟩
 have ek:a.kind=b.kind:=ad4;cases d1:(a.kind==1)
 case true=>simp only[go_sem,aj,n21.symm,dk,d1];exact .mk _ (.refl _) (hs _ _) ⟨by rw[zb da db (.inr ad4)];rfl,rfl⟩
 have e1:a.kind≠1:=ad4;simp only[go_sem,aj,n21.symm,dk,d1];refine(zZ _ _).pthen ?_;cases dt:(a.kind==3||a.kind==5)
 ·simp only[go_sem,aj,n21.symm]
  exact .mk _ (.refl _) (hs _ _) ⟨by rw[Pf da db ek e1 ad4];rfl,rfl⟩
 ·simp only[go_sem,aj,n21.symm]
  exact .mk _ (.refl _) (hs _ _) ⟨by rw[Pg da db ek e1 ad4];rfl,rfl⟩
def JH(bag:List bB)(must:Bool):AV:=if bag= []∧must=true then .tup [.sl [] .no,.i 4]else .tup [.sl (bag.map aV) .no,.i 0]
theorem HV(gs:List bt)(cat:Int)(name:Txt)(must:Bool)(hl:gs.length≤1000000000)(hb:∀g∈gs,g.bag.length≤1000000)(h:Heap):ai prog 254 [bP gs,.agg [.i cat,.s name,.b must]] h fun r h' =>r=JH (getD gs cat name) must∧h' =h:=by
 have hpl:=fun G=>Ng gs cat name hl G
 simp only[bP]at hpl;have frz:∀(x:AV) (e:Int),Weak x (.sl [] .no)→Weak (.tup [x,.i e]) (.tup [.sl [] .no,.i e]):=fun x e hx=> .tup _ _ rfl fun i a b=>by
  rcases i with _|_|i
  ·grind
  ·exact afn
  grind
 refine ad2 func254 30 [.tmp 4,.tmp 5] fun hwf=>?_
 simp only[go_sem,bP];intro i1 h1;simp only[go_sem];refine(hpl _).pthen ?_
 by_cases hx:gs.findIdx (iY cat name)<gs.length
 ·have e1:ixD (iY cat name) gs=(gs.findIdx (iY cat name):Nat):=by simp_all [ixD,if_pos]
  have d1:decide ((0:Int)≤((gs.findIdx (iY cat name):Nat):Int))=true:=decide_eq_true ad3;rw[e1];simp only[go_sem,d1];refine .at (gs.findIdx (iY cat name)) ad4 aec ?_;simp only[go_sem,adU,lQ];rw[if_neg (fun hh=>hh.1)]
  have hlb:=hb _ (adY hx);rw[get_at hx];obtain⟨B,eB⟩:∃B,gs[gs.findIdx (iY cat name)].bag=B:=⟨_,rfl⟩;rw[eB]at hlb⊢;refine(Dp _ (B.map aV) _ (eL aV 3 (fun _=>rfl) _ _) ad4 (bn (fun _=>rfl) _)).pthen ?_
  cases d2:((B.length:Int)==0)
  ·have e2:B≠ []:=by grind
   simp only[go_sem,d2,adT];exact .mk _ (.refl _) (.ak h1) ⟨by rw[JH,if_neg (fun hh=>e2 hh.1)];rfl,rfl⟩
  ·have e3:(B.length:Int)=0:=by grind
   have e2:B= []:=List.length_eq_zero_iff.1 ad3;subst e2;cases must
   ·simp only[go_sem,List.map_nil,List.length_nil]
    exact ael
   ·simp only[go_sem,List.map_nil,List.length_nil]
    exact afR
 ·have e1:ixD (iY cat name) gs= -1:=by simp_all [ixD,if_neg]
  have d1:decide ((0:Int)≤ -1)=false:=rfl;rw[e1,Sk hx];cases must
  ·simp only[go_sem,d1]
   exact .mk (.tup [.sl [] .no,.i 0]) (frz _ _ (.sl _ _)) (.ak h1) ⟨rfl,rfl⟩
  ·simp only[go_sem,d1]
   exact afR
def mX(m:bR)(v:bB):AV:=
 if m.op=1 then(if v.kind=m.val.kind then .tup [.b (eqV v m.val),.i 0]else .tup [.b false,.i 2])
 else if m.op=2 then lT v m.val else lT m.val v
theorem Fz(m:bR)(v:bB)(h:Heap):ai prog 255 [cW m,aV v] h fun r h' =>r=mX m v∧h' =h:=by
 have hl1:=fun G=>CB v m.val G
 have hl2:=fun G=>CB m.val v G
 simp only[aV]at hl1 hl2;refine ad2 func255 42 [.tmp 4,.tmp 5] fun hwf=>?_
 simp only[go_sem,cW,aV];intro i1 h1;simp only[go_sem];intro i2 h2;have n21:=aF h2;have n2:=aB h2;have hs:∀x y,Ab.Sub h (upd (upd h i1 x) i2 y):=fun x y=>((Sub.refl h).put h1 x).put n2 y
 cases d1:(m.op==1)
 case true=>
  have e1:m.op=1:=ad4;cases dk:(v.kind !=m.val.kind)
  ·have dk' :v.kind=m.val.kind:=by grind
   simp only[go_sem,aj,n21.symm,d1,dk];exact .mk _ (.refl _) (hs _ _) ⟨by rw[mX,if_pos e1,if_pos dk'];rfl,rfl⟩
  ·simp only[go_sem,aj,n21.symm,d1,dk]
   exact .mk _ (.refl _) (hs _ _) ⟨by rw[mX,if_pos e1,if_neg ad4];rfl,rfl⟩
 have e1:m.op≠1:=ad4;have aft:∀a b:bB,∃x e,lT a b= .tup [.b x,.i e]:=fun a b=>by
  unfold lT;split
  ·simp
  simp
 cases d2:(m.op==2)
 case true=>have e2:m.op=2:=ad4;obtain⟨x,e,ee⟩:=aft v m.val;rw[ee]at hl1;simp only[go_sem,aj,n21.symm,d1,d2];refine(hl1 _).pthen ?_;simp only[go_sem];exact .mk _ (.refl _) (hs _ _) ⟨by rw[mX,if_neg e1,if_pos e2,ee];rfl,rfl⟩
 ·have e2:m.op≠2:=by grind
  obtain⟨x,e,ee⟩:=aft m.val v;rw[ee]at hl2;simp only[go_sem,aj,n21.symm,d1,d2];refine(hl2 _).pthen ?_;simp only[go_sem];exact .mk _ (.refl _) (hs _ _) ⟨by rw[mX,if_neg e1,if_neg e2,ee];rfl,rfl⟩
theorem B5(m:bR)(v:bB):∃e:Int,(e !=0)=(cZ m v==none)∧mX m v= .tup [.b (cZ m v==some true),.i e]:=by
 have hl:∀a b:bB,∃e:Int,(e !=0)=(nS a b==none)∧lT a b= .tup [.b (nS a b==some true),.i e]:=fun a b=>by
  unfold lT;cases hx:nS a b with
  |some x=>simp
  |none=>refine⟨zc a b,?_,rfl⟩;grind [zc]
 unfold mX cZ
 by_cases e1:m.op=1
 ·rw[if_pos e1,if_pos e1]
  by_cases ek:v.kind=m.val.kind
  ·rw[if_pos ek,if_pos ek]
   exact⟨0,rfl,aea⟩
  ·rw[if_neg ek,if_neg ek]
   exact⟨2,rfl,rfl⟩
 ·rw[if_neg e1,if_neg e1]
  by_cases e2:m.op=2
  ·rw[if_pos e2,if_pos e2];exact hl _ _
  ·rw[if_neg e2,if_neg e2];exact hl _ _
theorem JI(bag:List bB)(must:Bool):∃e:Int,(e !=0)=decide (bag= []∧must=true)∧JH bag must= .tup [.sl (bag.map aV) .no,.i e]:=by
 unfold JH;split
 ·simp_all
 grind
def sk(gs:List bt):Prop:=gs.length≤1000000∧∀g∈gs,g.bag.length≤1000000
theorem sk.bag{gs:List bt}(h:sk gs)(a:qK):(yj gs a).length≤1000000:=by
 unfold yj getD;split
 ·rename_i g hg;exact h.2 g ad4
 ·simp
theorem Bt(m:bR)(gs:List bt)(hf:sk gs)(h:Heap):ai prog 209 [cW m,bP gs] h fun r h' =>r= .i (ko gs m:Nat)∧h' =h:=by
 have hg:=fun G=>HV gs m.attr.cat m.attr.name m.attr.must (by have:=hf.1;omega) hf.2 G
 have hbl:=hf.bag m.attr;obtain⟨B,eB⟩:∃B,yj gs m.attr=B:=⟨_,rfl⟩;have eg:Go.Bf.getD gs m.attr.cat m.attr.name=B:=eB;rw[eB]at hbl;rw[eg]at hg;have hmm:ko gs m=if B= []∧m.attr.must=true then 1 else if B.any (fun v=>cZ m v==some true)then 2 else if B.any (fun v=>cZ m v==none)then 1 else 0:=by unfold ko;rw[eB]
 obtain⟨eg,hge,hga⟩:=JI B m.attr.must;rw[hga]at hg;have hag:=fun(v:bB) (G:Heap)=>Fz m v G
 simp only[cW,bP,aV]at hag hg;refine ad2 func209 38 [.tmp 4] fun hwf=>?_
 simp only[go_sem,cW,bP];intro i1 h1;simp only[go_sem];refine(hg _).pthen ?_;cases d0:decide (B= []∧m.attr.must=true)
 case true=>rw[d0]at hge;simp only[go_sem,hge];exact .mk _ (.refl _) (.ak h1) ⟨by rw[hmm,if_pos (adV d0)];rfl,rfl⟩
 rw[d0]at hge;rw[if_neg (adW d0)]at hmm;simp only[go_sem,hge,adT];obtain⟨H,eH⟩:∃H,upd h i1 (some (.obj [.i m.attr.cat,.s m.attr.name,.b m.attr.must,.i m.op,.i m.val.kind,.i m.val.n,.s m.val.s] 269))=H:=⟨_,rfl⟩;have hH:Ab.Sub h H:=by rw[←eH];exact .ak h1
 have k1:H i1=some (.obj [.i m.attr.cat,.s m.attr.name,.b m.attr.must,.i m.op,.i m.val.kind,.i m.val.n,.s m.val.s] 269):=afv;rw[eH];clear eH;refine .intro (fun q ρ G=>Ab.Sub H G∧∃i:Nat,i≤B.length∧q=B.length - i∧(∀j (hj:j<i) (h2:j<B.length),(cZ m B[j]==some true)=false)∧lk ρ 2=some (.ptr i1 0)∧lk ρ 7=some (.i (if(B.take i).any (fun v=>cZ m v==none)then 1 else 0))∧lk ρ 21=some (.sl (B.map aV) .no)∧lk ρ 22=some (.i B.length)∧lk ρ 23=some (.i i)) B.length ?_ ?_
 ·refine⟨.refl _,0,ad3,rfl,fun j hj=>ad3,?_,?_,?_,?_,?_⟩<;>simp only[go_sem]
  simp
 ·rintro q ρ G ⟨hs,i,hi,rfl,hc,r2,r7,r21,r22,r23⟩
  have k1' :=hs _ _ k1;simp only[go_sem,r22,r23];refine .intro (fun e=>?_) (fun e=>?_)
  ·have hlt:i<B.length:=ad0 e
   have w1:=adZ i ad3;have hsn:(B.take (i+1)).any (fun v=>cZ m v==none)=((B.take i).any (fun v=>cZ m v==none)||(cZ m B[i]==none)):=any_succ hlt
   have ix:=fun k=>fC.eq (xs:=B.map aV) (sz:=3) i aep aec k
   rw[adU]at ix;have hci:=fun(d:(cZ m B[i]==some true)=false)=>(fun j (hj:j<i+1) (h2:j<B.length)=>(by
    by_cases hji:j=i
    ·subst hji;exact d
    ·exact hc j ad3 h2:(cZ m B[j]==some true)=false))
   have hat:=fun(d:(cZ m B[i]==some true)=true)=>(List.any_eq_true.2 ⟨B[i],adY hlt,d⟩:B.any (fun v=>cZ m v==some true)=true)
   obtain⟨v,ev⟩:∃v,B[i]=v:=⟨_,rfl⟩;rw[ev]at ix hsn hci hat;simp only[aV]at ix;obtain⟨e,he1,he2⟩:=B5 m v;have hag1:=hag v;rw[he2]at hag1;simp only[go_sem,r21,r23,ix];intro i4 h4;have n41:i4≠i1:=fun e=>by rw[e,k1']at h4;cases h4
   simp only[go_sem,r2,aj,n41.symm,k1'];refine(hag1 _).pthen ?_;cases d1:(cZ m v==some true)
   ·cases d2:(cZ m v==none)
    ·rw[d2]at he1 hsn
     rw[Bool.or_false]at hsn;simp only[go_sem,r23,he1,w1];refine⟨_,?_,hs.trans (.ak h4),i+1,ad3,rfl,hci d1,?_,?_,?_,?_,?_⟩
     ·omega
     all_goals simp only[go_sem,r2,r7,r21,r22,hsn]
    ·rw[d2]at he1 hsn
     rw[Bool.or_true]at hsn;simp only[go_sem,r23,he1,w1];refine⟨_,?_,hs.trans (.ak h4),i+1,ad3,rfl,hci d1,?_,?_,?_,?_,?_⟩
     ·omega
     all_goals simp only[go_sem,r2,r21,r22,hsn]
   ·simp only[go_sem]
    refine .mk _ (.refl _) (hH.trans (hs.trans (.ak h4))) ⟨by rw[hmm,if_pos (hat d1)];rfl,rfl⟩
  ·have hge:i=B.length:=by have:=adW e;omega
   subst hge;rw[List.take_length]at r7;simp only[go_sem,r7];refine .mk _ (.refl _) (hH.trans hs) ⟨?_,rfl⟩;have hno:B.any (fun v=>cZ m v==some true)=false:=List.any_eq_false.2 fun x hx=>by obtain⟨j,hj,rfl⟩:=List.mem_iff_getElem.1 hx;rw[hc j hj hj];decide
   rw[hmm,hno];cases B.any (fun v=>cZ m v==none)<;>rfl
theorem Il(a b:Nat):(if((b:Int)<(a:Int))then(b:Int)else(a:Int))=((min a b:Nat):Int):=by grind
theorem Pk(a b:Nat):(if((a:Int)<(b:Int))then(b:Int)else(a:Int))=((max a b:Nat):Int):=by grind
theorem Ot(l:List bR)(hl:l.length≤1000000)(gs:List bt)(hf:sk gs)(h:Heap):ai prog 248 [gm l,bP gs] h fun r h' =>r= .i (C9 gs l:Nat)∧h' =h:=by
 have hmt:=fun(m:bR) (G:Heap)=>Bt m gs hf G
 simp only[cW,bP]at hmt;refine ad2 func248 21 [.tmp 4] fun hwf=>?_
 simp only[go_sem,gm,bP,adT];refine .intro (fun q ρ G=>Ab.Sub h G∧∃i:Nat,i≤l.length∧q=l.length - i∧lk ρ 1=some (.sl (gs.map lQ) .no)∧lk ρ 5=some (.i (C9 gs (l.take i):Nat))∧lk ρ 8=some (.sl (l.map cW) .no)∧lk ρ 9=some (.i l.length)∧lk ρ 10=some (.i i)) l.length ?_ ?_
 ·exact ajG
 ·rintro q ρ G ⟨hs,i,hi,rfl,r1,r5,r8,r9,r10⟩
  simp only[go_sem,r9,r10];refine .intro (fun e=>?_) (fun e=>?_)
  ·have hlt:i<l.length:=ad0 e
   have w1:IntKind.i64.wrap ((i:Int)+1)=((i+1:Nat):Int):=aeg;have hsn:C9 gs (l.take (i+1))=min (C9 gs (l.take i)) (ko gs l[i]):=by grind [C9,List.take_succ_eq_append_getElem]
   have ix:=fun k=>fC.eq (xs:=l.map cW) (sz:=7) i ad4 aec k
   rw[adU]at ix;obtain⟨m,em⟩:∃m,l[i]=m:=⟨_,rfl⟩;rw[em]at ix hsn;have hmt1:=hmt m;simp only[cW]at ix;simp only[go_sem,r8,r10,ix];intro i4 h4;simp only[go_sem,r1,r5];refine(hmt1 _).pthen ?_;simp only[go_sem,r10,Il,w1];refine⟨_,?_,hs.trans (.ak h4),i+1,ad3,rfl,?_,?_,?_,?_,?_⟩
   ·omega
   all_goals simp only[go_sem,r1,r8,r9,hsn]
  ·have hge:i=l.length:=by grind
   exact ajp
def Og(t:gj):Prop:=t.length≤1000000∧∀x∈t,x.length≤1000000∧∀l∈x,l.length≤1000000
theorem MN(t:gj)(ht:Og t)(gs:List bt)(hf:sk gs)(h:Heap):ai prog 205 [aT t,bP gs] h fun r h' =>r= .i (nu gs t:Nat)∧h' =h:=by
 have hat:=fun(l:List bR) (hl:l.length≤1000000) (G:Heap)=>Ot l hl gs hf G
 simp only[gm,bP]at hat;have htl:=ht.1;refine ad2 func205 34 [.tmp 4] fun hwf=>?_
 simp only[go_sem,aT,bP,adT];refine .intro (fun q ρ G=>Ab.Sub h G∧∃i:Nat,i≤t.length∧q=t.length - i∧lk ρ 1=some (.sl (gs.map lQ) .no)∧lk ρ 5=some (.i (nu gs (t.take i):Nat))∧lk ρ 11=some (.sl (t.map cB) .no)∧lk ρ 12=some (.i t.length)∧lk ρ 13=some (.i i)) t.length ?_ ?_
 ·exact ajG
 ·rintro q ρ G ⟨hs,i,hi,rfl,r1,r5,r11,r12,r13⟩
  simp only[go_sem,r12,r13];refine .intro (fun e=>?_) (fun e=>?_)
  ·have hlt:i<t.length:=ad0 e
   have w1:IntKind.i64.wrap ((i:Int)+1)=((i+1:Nat):Int):=aeg;have hsn:nu gs (t.take (i+1))=min (nu gs (t.take i)) (Am gs t[i]):=by grind [nu,List.take_succ_eq_append_getElem]
   have ix:=fun k=>fC.eq (xs:=t.map cB) (sz:=1) i ad4 aec k
   rw[adU]at ix;obtain⟨hx1,hx2⟩:=ht.2 t[i] (adY hlt);obtain⟨x,ex⟩:∃x,t[i]=x:=⟨_,rfl⟩;rw[ex]at ix hsn hx1 hx2;simp only[cB]at ix;simp only[go_sem,r11,r13,ix,adT];refine .intro (fun q ρ' K=>Ab.Sub h K∧∃n:Nat,n≤x.length∧q=x.length - n∧lk ρ' 1=some (.sl (gs.map lQ) .no)∧lk ρ' 5=some (.i (nu gs (t.take i):Nat))∧lk ρ' 8=some (.i (Am gs (x.take n):Nat))∧lk ρ' 11=some (.sl (t.map cB) .no)∧lk ρ' 12=some (.i t.length)∧lk ρ' 13=some (.i i)∧lk ρ' 17=some (.sl (x.map gm) .no)∧lk ρ' 18=some (.i x.length)∧lk ρ' 19=some (.i n)) x.length ?_ ?_
   ·refine⟨hs,0,ad3,rfl,?_,?_,?_,?_,?_,?_,?_,?_,?_⟩<;>simp only[go_sem,r1,r5,r11,r12,r13]
    rfl
   ·rintro q ρ' K ⟨hs',n,hn,rfl,s1,s5,s8,s11,s12,s13,s17,s18,s19⟩
    simp only[go_sem,s18,s19];refine .intro (fun e=>?_) (fun e=>?_)
    ·have hlt2:n<x.length:=ad0 e
     have w2:IntKind.i64.wrap ((n:Int)+1)=((n+1:Nat):Int):=aeg;have hsn2:Am gs (x.take (n+1))=max (Am gs (x.take n)) (C9 gs x[n]):=by grind [Am,List.take_succ_eq_append_getElem]
     have ix2:=fun k=>fC.eq (xs:=x.map gm) (sz:=1) n ad4 aec k
     rw[adU]at ix2;have hx3:=hx2 x[n] (adY hlt2);obtain⟨l,el⟩:∃l,x[n]=l:=⟨_,rfl⟩;rw[el]at ix2 hsn2 hx3;simp only[gm]at ix2;simp only[go_sem,s1,s8,s17,s19,ix2];refine(hat l hx3 _).pthen ?_;simp only[go_sem,s19,Pk,w2];refine⟨_,?_,hs',n+1,ad3,rfl,?_,?_,?_,?_,?_,?_,?_,?_,?_⟩
     ·omega
     all_goals simp only[go_sem,s1,s5,s11,s12,s13,s17,s18,hsn2]
    ·have hge:n=x.length:=by grind
     subst hge;rw[List.take_length]at s8;simp only[go_sem,s5,s8,s13,Il,w1];refine⟨_,?_,hs',i+1,ad3,rfl,?_,?_,?_,?_,?_⟩
     ·omega
     all_goals simp only[go_sem,s1,s11,s12,hsn]
  ·have hge:i=t.length:=by grind
   exact ajp
end Go.Proofs.YtokahfmoollblaaGreatDoor
namespace Go.Bf
open Go Go.Ab Go.Proofs.YtokahfmoollblaaGreatDoor
def Ay(o:Bool)(n:Int):AV:=if o then .tup [.i 0,.i 3]else .tup [.i (w64 n),.i 0]
def rR(r:bB×Int):AV:=.tup [aV r.1,.i r.2]
end Go.Bf
namespace Go.Proofs.YtokahfmoollblaaGreatDoor
open Go Go.Ab Go.Bf Tryz
theorem Rw(a b:Int)(h:Heap):ai prog 320 [.i a,.i b] h fun r h' =>r=Ay (Li a b) (a+b)∧h' =h:=by
 refine ad2 func320 27 [.tmp 4,.tmp 5] fun hwf=>?_
 cases d1:decide (0<b)<;>cases d2:decide (IntKind.i64.wrap (9223372036854775807 - b)<a)<;>cases d3:decide (b<0)<;>cases d4:decide (a<IntKind.i64.wrap (-9223372036854775808 - b))
 all_goals
  simp only[go_sem,d1,d2,d3,d4];exact .same (.refl _) ⟨by simp only[Ay,Li,w64,d1,d2,d3,d4];rfl,rfl⟩
theorem S9(a b:Int)(h:Heap):ai prog 321 [.i a,.i b] h fun r h' =>r=Ay (NI a b) (a - b)∧h' =h:=by
 refine ad2 func321 27 [.tmp 4,.tmp 5] fun hwf=>?_
 cases d1:decide (0<b)<;>cases d2:decide (a<IntKind.i64.wrap (-9223372036854775808+b))<;>cases d3:decide (b<0)<;>cases d4:decide (IntKind.i64.wrap (9223372036854775807+b)<a)
 all_goals
  simp only[go_sem,d1,d2,d3,d4];exact .same (.refl _) ⟨by simp only[Ay,NI,w64,d1,d2,d3,d4];rfl,rfl⟩
theorem SE(a b:Int)(h:Heap):ai prog 322 [.i a,.i b] h fun r h' =>r=Ay (Ka a b) (a*b)∧h' =h:=by
 refine ad2 func322 36 [.tmp 4,.tmp 5] fun hwf=>?_
 cases d0:(a !=0)
 ·have e0:a=0:=by grind
  subst e0;cases d1:(b== -1)
  all_goals
   simp only[go_sem,d1];exact .same (.refl _) ⟨by simp[Ay,Ka,w64,au],rfl⟩
 have e0:a≠0:=ad4;cases d1:(a== -1)<;>cases d2:(b== -9223372036854775808)<;>cases d3:(b== -1)<;>cases d4:(a== -9223372036854775808)<;>cases d5:(IntKind.i64.wrap ((IntKind.i64.wrap (a*b)).tdiv a) !=b)
 all_goals
  simp only[go_sem,d0,d1,d2,d3,d4,d5,e0];exact .same (.refl _) ⟨by simp only[Ay,Ka,w64,d0,d1,d2,d3,d4,d5];rfl,rfl⟩
theorem BU(b:Bool)(h:Heap):ai prog 318 [.b b] h fun r h' =>r=aV (dR b)∧h' =h:=by
 refine ad2 func318 8 [.cell 2 44] fun hwf=>?_
 simp only[go_sem];intro i1 h1;simp only[go_sem];intro i2 h2;have n21:=aF h2;have n2:=aB h2;cases b
 all_goals
  simp only[go_sem,aj,n21.symm];exact .mk _ (.refl _) ((((Sub.refl h).put h1 _).put n2 _).put h1 _) ⟨rfl,rfl⟩
theorem Ce(kind:Int)(l:List bB)(hl:l.length≤1000000)(p:Perm)(h:Heap):ai prog 323 [.i kind,.sl (l.map aV) p] h fun r h' =>r= .b (l.all fun v=>v.kind==kind)∧h' =h:=by
 refine ad2 func323 18 [.tmp 4] fun hwf=>?_
 simp only[go_sem,adT];refine .intro (fun q ρ G=>Ab.Sub h G∧∃i:Nat,i≤l.length∧q=l.length - i∧(∀j (hj:j<i) (h2:j<l.length),(l[j].kind==kind)=true)∧lk ρ 0=some (.i kind)∧lk ρ 7=some (.sl (l.map aV) p)∧lk ρ 8=some (.i l.length)∧lk ρ 9=some (.i i)) l.length ?_ ?_
 ·refine⟨.refl _,0,ad3,rfl,fun j hj=>ad3,?_,?_,?_,?_⟩<;>simp only[go_sem]
 ·rintro q ρ G ⟨hs,i,hi,rfl,hc,r0,r7,r8,r9⟩
  simp only[go_sem,r8,r9];refine .intro (fun e=>?_) (fun e=>?_)
  ·have hlt:i<l.length:=ad0 e
   have w1:IntKind.i64.wrap ((i:Int)+1)=((i+1:Nat):Int):=aeg;have ix:=fun k=>fC.eq (xs:=l.map aV) (sz:=3) i ad4 aec k
   rw[adU]at ix;have hci:=fun(d:(l[i].kind==kind)=true)=>(fun j (hj:j<i+1) (h2:j<l.length)=>(by grind:(l[j].kind==kind)=true))
   have hat:=fun(d:(l[i].kind==kind)=false)=>(List.all_eq_false.2 ⟨l[i],adY hlt,ad4⟩:(l.all fun v=>v.kind==kind)=false)
   obtain⟨v,ev⟩:∃v,l[i]=v:=⟨_,rfl⟩;rw[ev]at ix hci hat;simp only[aV]at ix;cases d1:(v.kind==kind)
   ·have d2:(v.kind !=kind)=true:=by grind
    simp only[go_sem,r7,r9,ix];intro i4 h4;simp only[go_sem,r0,d2];exact .mk _ (.refl _) (hs.trans (.ak h4)) ⟨ah4,rfl⟩
   ·have d2:(v.kind !=kind)=false:=by grind
    simp only[go_sem,r7,r9,ix];intro i4 h4;simp only[go_sem,r0,r9,d2,w1];refine⟨_,?_,hs.trans (.ak h4),i+1,ad3,rfl,hci d1,?_,?_,?_,?_⟩
    ·omega
    all_goals simp only[go_sem,r0,r7,r8]
  ·have hge:i=l.length:=by grind
   simp only[go_sem];exact .mk _ (.refl _) hs ⟨by rw[List.all_eq_true.2 fun x hx=>agK];rfl,rfl⟩
theorem GG(g:FuncId)(a b:bB)(o:Bool)(n:Int)(hg:∀G,ai prog g [.i a.n,.i b.n] G fun r h' =>r=Ay o n∧h' =G)(p:Perm)(h:Heap):
  ai prog 319 [.fn g [],.sl [aV a,aV b] p] h fun r h' =>r=rR (if([a,b].all fun v=>v.kind==2)then Az o n else ot 2)∧h' =h:=by
 have ix0:=fun k=>fC.eq (xs:=[aV a,aV b]) (sz:=3) 0 aea rfl k
 have ix1:=fun k=>fC.eq (xs:=[aV a,aV b]) (sz:=3) 1 aea rfl k
 simp only[List.getElem_cons_zero,List.getElem_cons_succ,aV,Int.natCast_zero,Int.natCast_one]at ix0 ix1;have hal:=fun(G:Heap)=>Ce 2 [a,b] aea p G
 simp only[List.map_cons,List.map_nil,aV]at hal;refine ad2 func319 31 [.cell 4 44,.tmp 5] fun hwf=>?_
 simp only[go_sem,aV];intro i1 h1;simp only[go_sem];refine(hal _).pthen ?_;cases d1:([a,b].all fun v=>v.kind==2)
 ·simp only[go_sem]
  exact ael
 ·simp only[go_sem]
  refine .quiet ad7 ?_;simp only[go_sem,ix0,ix1];cases o
  ·refine⟨_,hg _,?_⟩
   simp only[go_sem,Ay];exact ael
  ·refine⟨_,hg _,?_⟩
   simp only[go_sem,Ay];exact ael
theorem xM{α:Type}{l:List α}(h:l.length=2):∃a b,l= [a,b]:=by
 match l,h with
 | [a,b],_=>exact⟨a,b,rfl⟩
def Gw(op:Int)(l:List bB):Bool:= !(decide (op<6)||decide (13<op)||(l.length:Int) !=(if op==11 then 1 else 2)) && l.all bH
theorem SB(op:Int)(l:List bB)(hl:l.length≤1000000)(p:Perm)(h:Heap):ai prog 317 [.i op,.sl (l.map aV) p] h fun r h' =>r= .b (Gw op l)∧h' =h:=by
 have hvr:=fun(v:bB) (G:Heap)=>gK v G
 simp only[aV]at hvr;refine ad2 func317 32 [.tmp 4] fun hwf=>?_
 cases d11:(op==11)
 all_goals
  have hmm:Gw op l=(!(decide (op<6)||decide (13<op)||(l.length:Int) !=(if op==11 then 1 else 2)) && l.all bH):=rfl
  rw[d11]at hmm;simp only[if_true,Bool.false_eq_true,if_false]at hmm;cases d6:decide (op<6)
  case true=>rw[d6]at hmm;simp only[go_sem,d11,d6];exact .same (.refl _) ⟨by rw[hmm];rfl,rfl⟩
  cases d13:decide (13<op)
  case true=>rw[d6,d13]at hmm;simp only[go_sem,d11,d6,d13];exact .same (.refl _) ⟨by rw[hmm];rfl,rfl⟩
  rw[d6,d13]at hmm;simp only[Bool.or_false,Bool.false_or]at hmm;obtain⟨b,eb⟩:∃b,((l.length:Int) !=(if op==11 then 1 else 2))=b:=⟨_,rfl⟩
  rw[d11]at eb;simp only[if_true,Bool.false_eq_true,if_false]at eb;rw[eb]at hmm;cases b
  case true=>simp only[go_sem,d11,d6,d13,adT,eb];exact .same (.refl _) ⟨by rw[hmm];rfl,rfl⟩
  simp only[Bool.not_false,Bool.true_and]at hmm;simp only[go_sem,d11,d6,d13,adT,eb];refine .intro (fun q ρ G=>Ab.Sub h G∧∃i:Nat,i≤l.length∧q=l.length - i∧(∀j (hj:j<i) (h2:j<l.length),bH l[j]=true)∧lk ρ 22=some (.sl (l.map aV) p)∧lk ρ 23=some (.i l.length)∧lk ρ 24=some (.i i)) l.length ?_ ?_
  ·refine⟨.refl _,0,ad3,rfl,fun j hj=>ad3,?_,?_,?_⟩<;>simp only[go_sem]
  ·rintro q ρ G ⟨hs,i,hi,rfl,hc,r22,r23,r24⟩
   simp only[go_sem,r23,r24];refine .intro (fun e=>?_) (fun e=>?_)
   ·have hlt:i<l.length:=ad0 e
    have w1:IntKind.i64.wrap ((i:Int)+1)=((i+1:Nat):Int):=aeg;have ix:=fun k=>fC.eq (xs:=l.map aV) (sz:=3) i ad4 aec k
    rw[adU]at ix;have hci:=fun(d:bH l[i]=true)=>(fun j (hj:j<i+1) (h2:j<l.length)=>(by grind:bH l[j]=true))
    have hat:=fun(d:bH l[i]=false)=>(List.all_eq_false.2 ⟨l[i],adY hlt,ad4⟩:l.all bH=false)
    obtain⟨v,ev⟩:∃v,l[i]=v:=⟨_,rfl⟩;rw[ev]at ix hci hat;simp only[aV]at ix;simp only[go_sem,r22,r24,ix];intro i4 h4;simp only[go_sem];refine(hvr v _).pthen ?_;cases d1:bH v
    ·simp only[go_sem]
     exact .mk _ (.refl _) (hs.trans (.ak h4)) ⟨by rw[hmm,hat d1];rfl,rfl⟩
    ·simp only[go_sem,r24,w1]
     refine⟨_,?_,hs.trans (.ak h4),i+1,ad3,rfl,hci d1,?_,?_,?_⟩
     ·omega
     all_goals simp only[go_sem,r22,r23]
   ·have hge:i=l.length:=by grind
    simp only[go_sem];exact .mk _ (.refl _) hs ⟨by rw[hmm,List.all_eq_true.2 fun x hx=>agK];rfl,rfl⟩
theorem LF{op:Int}{l:List bB}(h:Gw op l=false):iu op l=ot 1:=by
 unfold iu;rw[if_pos]
 by_cases h1:6≤op∧op≤13
 ·by_cases h2:l.length=if op=11 then 1 else 2
  ·refine .inr (.inr ?_)
   unfold Gw at h
   grind
  omega
 omega
theorem I7{op:Int}{l:List bB}(h:Gw op l=true):(6≤op∧op≤13)∧l.all bH=true∧(op=11∧(∃a,l= [a])∨op≠11∧∃a b,l= [a,b]):=by
 unfold Gw at h;simp only[Bool.and_eq_true,Bool.not_eq_true',Bool.or_eq_false_iff,decide_eq_false_iff_not]at h;obtain⟨⟨⟨h1,h2⟩,h3⟩,h4⟩:=h;refine⟨ad3,h4,?_⟩
 by_cases e:op=11
 ·subst e
  have h3' :(l.length:Int)=1:=ad4;exact .inl ⟨rfl,List.length_eq_one_iff.1 ad3⟩
 ·have h3' :(l.length:Int)=2:=by grind
  exact .inr ⟨e,xM ad3⟩
theorem Ch(op:Int)(l:List bB)(hl:l.length≤1000000)(p:Perm)(h:Heap):ai prog 314 [.i op,.sl (l.map aV) p] h fun r h' =>r=rR (iu op l)∧h' =h:=by
 have hmy:=fun G=>SB op l hl p G
 cases dm:Gw op l
 ·rw[dm]at hmy
  refine ad2 func314 111 [.cell 4 44,.tmp 5] fun hwf=>?_
  simp only[go_sem];intro i1 h1;simp only[go_sem];refine(hmy _).pthen ?_;simp only[go_sem];exact .mk _ (.refl _) (.ak h1) ⟨by rw[LF dm];rfl,rfl⟩
 rw[dm]at hmy;obtain⟨hop,hall,hf⟩:=I7 dm;rcases hf with⟨rfl,a,rfl⟩|⟨e11,a,b,rfl⟩
 ·have ix0:=fun k=>fC.eq (xs:=[aV a]) (sz:=3) 0 aea rfl k
  simp only[List.getElem_cons_zero,aV,Int.natCast_zero]at ix0;have hal:=fun(G:Heap)=>Ce 1 [a] aea p G
  simp only[List.map_cons,List.map_nil,aV]at hal hmy;have hc:iu 11 [a]=if(([a].all fun v=>v.kind==1)=false)then ot 2 else(dR (a.n==0),0):=by
   unfold iu;rw[if_neg (by simp[hall])]
   simp
  have htr:=fun G=>BU (a.n==0) G
  refine ad2 func314 111 [.cell 4 44,.tmp 5] fun hwf=>?_
  simp only[go_sem,List.map_cons,List.map_nil,aV];intro i1 h1;simp only[go_sem];refine(hmy _).pthen ?_;simp only[go_sem];refine(hal _).pthen ?_;cases d1:([a].all fun v=>v.kind==1)
  ·simp only[go_sem]
   exact .mk _ (.refl _) (.ak h1) ⟨by rw[hc,if_pos d1];rfl,rfl⟩
  ·simp only[go_sem,ix0]
   refine(htr _).pthen ?_;simp only[go_sem,aV];exact .mk _ (.refl _) (.ak h1) ⟨by rw[hc,if_neg (by rw[d1];decide)];rfl,rfl⟩
 ·have ix0:=fun k=>fC.eq (xs:=[aV a,aV b]) (sz:=3) 0 aea rfl k
  have ix1:=fun k=>fC.eq (xs:=[aV a,aV b]) (sz:=3) 1 aea rfl k
  simp only[List.getElem_cons_zero,List.getElem_cons_succ,aV,Int.natCast_zero,Int.natCast_one]at ix0 ix1;have hal:=fun(G:Heap)=>Ce 1 [a,b] aea p G
  have hva:bH a=true∧bH b=true:=by simpa using hall
  have hnu:=fun(g:FuncId) (o:Bool) (n:Int) hg (G:Heap)=>GG g a b o n hg p G
  simp only[List.map_cons,List.map_nil,aV]at hal hmy hnu;have hle:=fun G=>CB a b G
  simp only[aV]at hle;have htr:=fun(x:Bool) G=>BU x G
  have hc:iu op [a,b]=if op=6 then(if a.kind=b.kind then(dR (eqV a b),0)else ot 2)
    else if op=7 then(match nS a b with
     |some x=>(dR x,0)
     |none=>ot 2)
    else if op=8∨op=9∨op=10 then
     (if [a,b].all fun v=>v.kind==2 then(if op=8 then Az (Li a.n b.n) (a.n+b.n)else if op=9 then Az (NI a.n b.n) (a.n - b.n)else Az (Ka a.n b.n) (a.n*b.n))else ot 2)
    else if([a,b].all fun v=>v.kind==1)=false then ot 2
    else if op=12 then(dR (a.n==1 && b.n==1),0)
    else(dR (a.n==1||b.n==1),0):=by
   unfold iu;rw[if_neg (by simp[hall,e11,hop.1,hop.2])]
   simp only[e11,if_false];rfl
  refine ad2 func314 111 [.cell 4 44,.tmp 5] fun hwf=>?_
  simp only[go_sem,List.map_cons,List.map_nil,aV];intro i1 h1;simp only[go_sem];refine(hmy _).pthen ?_;rcases(show op=6∨op=7∨op=8∨op=9∨op=10∨op=12∨op=13 by omega)with rfl|rfl|rfl|rfl|rfl|rfl|rfl
  ·simp only[go_sem]
   refine⟨.of ad7,?_⟩;cases dk:(a.kind !=b.kind)
   case true=>simp only[go_sem,ix0,ix1,dk];exact .mk _ (.refl _) (.ak h1) ⟨by rw[hc,if_pos rfl,if_neg (by simpa using dk)];rfl,rfl⟩
   ·simp only[go_sem,ix0,ix1,dk]
    refine .calls cX [0,1,2,3,4,5,6,7,8,9] (fun _ _ e=>aet) ad7 rfl ?_
    simp only[go_sem,ix0,ix1];have htr1:=htr (eqV a b);simp only[eqV]at htr1;refine(htr1 _).pthen ?_;refine⟨fun _ _ e=>aet,?_⟩
    simp only[go_sem,aV];refine⟨fun _ _ e=>aet,?_⟩
    exact .mk _ (.refl _) (.ak h1) ⟨by rw[hc,if_pos rfl,if_pos (by simpa using dk)];rfl,rfl⟩
  ·have hc7:iu 7 [a,b]=(match nS a b with
     |some x=>(dR x,0)
     |none=>ot 2):=by rw[hc];rfl
   simp only[go_sem];refine .quiet ad7 ?_;simp only[go_sem,ix0,ix1];refine⟨_,hle _,?_⟩;cases hl:nS a b with
   |none=>
    have e2:zc a b=2:=by simp[zc,hva]
    rw[hl]at hc7;simp only[go_sem,lT,hl,e2];exact .mk _ (.refl _) (.ak h1) ⟨by rw[hc7];rfl,rfl⟩
   |some x=>rw[hl]at hc7;simp only[go_sem,lT,hl];refine(htr x _).pthen ?_;simp only[go_sem,aV];exact .mk _ (.refl _) (.ak h1) ⟨by rw[hc7];rfl,rfl⟩
  ·have hc8:iu 8 [a,b]=if [a,b].all (fun v=>v.kind==2)then Az (Li a.n b.n) (a.n+b.n)else ot 2:=by rw[hc];rfl
   have hg:=hnu 320 _ _ (fun G=>Rw a.n b.n G)
   rw[←hc8]at hg;obtain⟨⟨v,e⟩,ex⟩:∃x,iu 8 [a,b]=x:=⟨_,rfl⟩;exact aiI
  ·have hc8:iu 9 [a,b]=if [a,b].all (fun v=>v.kind==2)then Az (NI a.n b.n) (a.n - b.n)else ot 2:=by rw[hc];rfl
   have hg:=hnu 321 _ _ (fun G=>S9 a.n b.n G)
   rw[←hc8]at hg;obtain⟨⟨v,e⟩,ex⟩:∃x,iu 9 [a,b]=x:=⟨_,rfl⟩;exact aiI
  ·have hc8:iu 10 [a,b]=if [a,b].all (fun v=>v.kind==2)then Az (Ka a.n b.n) (a.n*b.n)else ot 2:=by rw[hc];rfl
   have hg:=hnu 322 _ _ (fun G=>SE a.n b.n G)
   rw[←hc8]at hg;obtain⟨⟨v,e⟩,ex⟩:∃x,iu 10 [a,b]=x:=⟨_,rfl⟩;exact aiI
  ·have hc12:iu 12 [a,b]=if([a,b].all fun v=>v.kind==1)=false then ot 2 else(dR (a.n==1 && b.n==1),0):=by rw[hc];rfl
   simp only[go_sem];refine(hal _).pthen ?_;cases d1:([a,b].all fun v=>v.kind==1)
   ·simp only[go_sem]
    exact .mk _ (.refl _) (.ak h1) ⟨by rw[hc12,if_pos d1];rfl,rfl⟩
   ·rw[if_neg (by rw[d1];decide)]at hc12
    cases da:(a.n==1)<;>cases db:(b.n==1)
    all_goals
     rw[da,db]at hc12;simp only[go_sem,ix0,ix1,da,db];refine(htr _ _).pthen ?_;simp only[go_sem,aV];exact .mk _ (.refl _) (.ak h1) ⟨by rw[hc12];rfl,rfl⟩
  ·have hc13:iu 13 [a,b]=if([a,b].all fun v=>v.kind==1)=false then ot 2 else(dR (a.n==1||b.n==1),0):=by rw[hc];rfl
   simp only[go_sem];refine(hal _).pthen ?_;cases d1:([a,b].all fun v=>v.kind==1)
   ·simp only[go_sem]
    exact .mk _ (.refl _) (.ak h1) ⟨by rw[hc13,if_pos d1];rfl,rfl⟩
   ·rw[if_neg (by rw[d1];decide)]at hc13
    cases da:(a.n==1)<;>cases db:(b.n==1)
    all_goals
     rw[da,db]at hc13;simp only[go_sem,ix0,ix1,da,db];refine(htr _ _).pthen ?_;simp only[go_sem,aV];exact .mk _ (.refl _) (.ak h1) ⟨by rw[hc13];rfl,rfl⟩
end Go.Proofs.YtokahfmoollblaaGreatDoor
namespace Go.Bf
open Go Go.Ab Go.Proofs.YtokahfmoollblaaGreatDoor
def bT(x:jJ):AV:=.agg [.sl (x.bag.map aV) .no,.i x.v.kind,.i x.v.n,.s x.v.s,.i x.e]
end Go.Bf
namespace Go.Proofs.YtokahfmoollblaaGreatDoor
open Go Go.Ab Go.Bf Tryz
variable {gs:List bt}{op:Int}{val:bB}{attr:qK}{l:List jJ}
theorem Sq(x:jJ)(n:Int)(h:Heap):ai prog 277 [bT x,.i n] h fun r h' =>r= .b (isI x n)∧h' =h:=by
 refine ad2 func277 15 [.tmp 4] fun hwf=>?_
 simp only[go_sem,bT];exact aiF
theorem O2(x:jJ)(n:Int)(h:Heap):ai prog 277 [.agg [.sl [] .full,.i x.v.kind,.i x.v.n,.s x.v.s,.i x.e],.i n] h fun r h' =>r= .b (isI x n)∧h' =h:=by
 refine ad2 func277 15 [.tmp 4] fun hwf=>?_
 simp only[go_sem];exact aiF
theorem vS(b:Bool)(h:Heap):ai prog 312 [.b b] h fun r h' =>r=bT (jh b)∧h' =h:=by
 refine ad2 func312 10 [.cell 2 371] fun hwf=>?_
 simp only[go_sem];intro i1 h1;simp only[go_sem];intro i2 h2;have n21:=aF h2;have n2:=aB h2;cases b
 all_goals
  simp only[go_sem,aj,n21.symm];refine .mk (bT (jh _)) ?_ ((((Sub.refl h).put h1 _).put n2 _).put h1 _) ⟨rfl,rfl⟩;refine .agg _ _ rfl fun i a b=>?_
  rcases i with _|_|_|_|_|i
  ·exact agG
  all_goals first|exact .refl _|(simp at a;omega)
theorem F0(op:Int)(h:Heap):ai prog 298 [.i op] h fun r h' =>r= .i (opsOf op:Nat)∧h' =h:=by
 refine ad2 func298 11 [.tmp 2] fun hwf=>?_
 cases d1:(op==1)
 case true=>simp only[go_sem,d1];exact .same (.refl _) ⟨by rw[opsOf,if_pos (.inl ad4)];rfl,rfl⟩
 cases d2:(op==2)
 case true=>simp only[go_sem,d1,d2];exact .same (.refl _) ⟨by rw[opsOf,if_pos (.inr ad4)];rfl,rfl⟩
 have e1:¬(op=1∨op=2):=ad4;cases d3:(op==3)
 case true=>simp only[go_sem,d1,d2,d3];exact .same (.refl _) ⟨by rw[opsOf,if_neg e1,if_pos (.inl ad4)];rfl,rfl⟩
 cases d4:(op==4)
 case true=>simp only[go_sem,d1,d2,d3,d4];exact .same (.refl _) ⟨by rw[opsOf,if_neg e1,if_pos (.inr (.inl ad4))];rfl,rfl⟩
 cases d5:(op==11)
 case true=>simp only[go_sem,d1,d2,d3,d4,d5];exact .same (.refl _) ⟨by rw[opsOf,if_neg e1,if_pos (.inr (.inr ad4))];rfl,rfl⟩
 have e2:¬(op=3∨op=4∨op=11):=ad4;simp only[go_sem,d1,d2,d3,d4,d5];exact .same (.refl _) ⟨by rw[opsOf,if_neg e1,if_neg e2];rfl,rfl⟩
theorem Gp(vs:List bB)(hl:vs.length≤1000000000)(x:bB)(p:Perm)(h:Heap):
  ai prog 324 [.sl (vs.map aV) p,aV x] h fun r h' =>r= .i (ixD (fun y=>eqV x y) vs)∧h' =h:=by
 refine ad2 func324 19 [.tmp 4] fun hwf=>?_
 simp only[go_sem,aV];intro i1 h1;simp only[go_sem,adT];refine .intro (fun m ρ G=>G=upd h i1 (some (.obj [.i x.kind,.i x.n,.s x.s] 44))∧∃i:Nat,i≤vs.length∧m=vs.length - i∧(∀j (hj:j<i) (h2:j<vs.length),eqV x vs[j]=false)∧lk ρ 0=some (.sl (vs.map aV) p)∧lk ρ 3=some (.ptr i1 0)∧lk ρ 7=some (.i vs.length)∧lk ρ 8=some (.i i)) vs.length ?_ ?_
 ·refine⟨rfl,0,ad3,rfl,fun j hj=>ad3,?_,?_,?_,?_⟩<;>simp only[go_sem]
 ·rintro m ρ G ⟨rfl,i,hi,rfl,hc,r0,r3,r7,r8⟩
  simp only[go_sem,r7,r8];refine .intro (fun e=>?_) (fun e=>?_)
  ·have hlt:i<vs.length:=ad0 e
   have w1:IntKind.i64.wrap ((i:Int)+1)=((i+1:Nat):Int):=aeg;have ix:=fun k=>fC.eq (xs:=vs.map aV) (sz:=3) i ad4 aec k
   rw[adU]at ix;have hci:=fun(d:eqV x vs[i]=false)=>(fun j (hj:j<i+1) (h2:j<vs.length)=>(by grind:eqV x vs[j]=false))
   have hat:=fun(d:eqV x vs[i]=true)=>oA (q:=fun y=>eqV x y) hlt d fun j hj=>hc j hj ad3
   obtain⟨v,ev⟩:∃v,vs[i]=v:=⟨_,rfl⟩;rw[ev]at ix hci hat;simp only[aV]at ix;simp only[go_sem,r0,r3,r8];refine⟨.of ad7,?_⟩;cases d1:eqV x v
   ·have d2:=d1
    simp only[eqV]at d2;simp only[go_sem,r8,ix,d2,w1];refine⟨_,?_,rfl,i+1,ad3,rfl,hci d1,?_,?_,?_,?_⟩
    ·omega
    all_goals simp only[go_sem,r0,r3,r7]
   ·have d2:=d1
    simp only[eqV]at d2;simp only[go_sem,ix,d2];exact .mk _ (.refl _) (.ak h1) ⟨ah4,rfl⟩
  ·have hge:i=vs.length:=by grind
   simp only[go_sem];exact .mk _ (.refl _) (.ak h1) ⟨aew,rfl⟩
theorem Ou{vs:List bB}{x:bB}:decide ((0:Int)≤ixD (fun y=>eqV x y) vs)=vs.any fun v=>eqV v x:=by
 have hsy:(fun v=>eqV v x)=fun v=>eqV x v:=by simp[funext,eqV,BEq.comm]
 rw[u9,hsy]
theorem Qa(vs:List bB)(hl:vs.length≤1000000000)(x:bB)(p:Perm)(h:Heap):ai prog 313 [.sl (vs.map aV) p,aV x] h fun r h' =>r= .b (vs.any fun v=>eqV v x)∧h' =h:=by
 have h1:∀G,ai prog 316 [.sl (vs.map aV) p,aV x] G fun r h' =>r= .b (vs.any fun v=>eqV v x)∧h' =G:=fun G=>by
  have hq:=fun K=>Gp vs hl x p K
  refine ad2 func316 9 [.tmp 4] fun hwf=>?_
  simp only[go_sem,aV];intro i1 h1;simp only[go_sem];refine(hq _).pthen ?_;simp only[go_sem,Ou];exact ael
 refine ad2 func313 8 [.tmp 4] fun hwf=>?_
 simp only[go_sem,aV];intro i1 h1';simp only[go_sem];refine(h1 _).pthen ?_;simp only[go_sem];exact .mk _ (.refl _) (.ak h1') ⟨rfl,rfl⟩
theorem lS{L:List AV}{x:jJ}(hL:L=x.bag.map aV)(q:Perm):Weak (.agg [.sl L q,.i x.v.kind,.i x.v.n,.s x.v.s,.i x.e]) (bT x):=by
 subst hL;refine .agg _ _ rfl fun i a b=>?_
 rcases i with _|_|_|_|_|i
 ·exact agG
 all_goals first|exact .refl _|(simp at a;omega)
theorem uq(op:Int):opsOf op≤2:=by grind [opsOf]
theorem vC{x:jJ}(h1:op≠1)(h2:op≠2)(hno:¬((op=12∨op=13)∧(l.any fun x=>isI x (op - 12))=true))(hx:l.find? (fun x=>x.e !=0)=some x):lV gs ⟨op,val,attr⟩ l=⟨[],ax,x.e⟩:=by simp_all [lV,if_neg]
theorem vB(h1:op≠1)(h2:op≠2)(hno:¬((op=12∨op=13)∧(l.any fun x=>isI x (op - 12))=true))(hx:l.find? (fun x=>x.e !=0)=none):lV gs ⟨op,val,attr⟩ l=(if op=3 then(match (l.headD ⟨[],ax,0⟩).bag with
    | [v]=>⟨[],v,0⟩
    |_=>⟨[],ax,4⟩)
   else if op=4 then⟨[],⟨2,(l.headD ⟨[],ax,0⟩).bag.length,[]⟩,0⟩
   else if op=5 then jh ((l.headD ⟨[],ax,0⟩).bag.any fun v=>eqV v (l.getD 1 ⟨[],ax,0⟩).v)
   else Go.Bf.AM (iu op (l.map (·.v)))):=by
 unfold lV;simp only[if_neg h1,if_neg h2,if_neg hno,hx]
 all_goals rfl
theorem Po{h:Heap}{y:AV}(n:aO)(hop:1≤n.op∧n.op≤13)(l:List jJ)(hb:Rd h 5 y (l.map bT))(hl:l.length=opsOf n.op)(hbag:∀x∈l,x.bag.length≤1000000)(gs:List bt)(hf:sk gs):
  ai prog 299 [cN n,y,bP gs] h fun r h' =>r=bT (lV gs n l)∧h' =h:=by
 obtain⟨op,val,attr⟩:=n;simp only at hop hl;have hl2:l.length≤2:=by rw[hl];exact uq op
 have uV:(U 44).sz=3:=aed;have hg:=fun G=>HV gs attr.cat attr.name attr.must (by have:=hf.1;omega) hf.2 G
 simp only[bP]at hg;refine ad2 func299 122 [.cell 6 371] fun hwf=>?_
 simp only[go_sem,cN,bP];intro i3 h3;simp only[go_sem];intro i6 h6;have n63:=aF h6;have n6' :=aB h6;obtain⟨H0,eH⟩:∃H0,upd (upd h i3 (some (.obj [.i op,.i val.kind,.i val.n,.s val.s,.i attr.cat,.s attr.name,.b attr.must] 222))) i6 (some (.obj [.sl [] .full,.i 0,.i 0,.s [],.i 0] 371))=H0:=⟨_,rfl⟩;have hH0:Ab.Sub h H0:=ag0;have g3:H0 i3=some (.obj [.i op,.i val.kind,.i val.n,.s val.s,.i attr.cat,.s attr.name,.b attr.must] 222):=by rw[←eH,ag _ _ n63.symm,ah]
 have g6:H0 i6=some (.obj [.sl [] .full,.i 0,.i 0,.s [],.i 0] 371):=afv;rw[eH];clear eH;cases d1:(op==1)
 case true=>have e1:op=1:=ag1;simp only[go_sem,d1,g3,g6];exact .mk (bT ⟨[],val,0⟩) (lS (x:=⟨[],val,0⟩) rfl _) (hH0.put n6' _) ⟨by unfold lV;simp only[e1,if_true],rfl⟩
 have hp1' :op≠1:=ag1;cases d2:(op==2)
 case true=>
  have e2:op=2:=by simpa using d2
  simp only[go_sem,d1,d2,g3];refine(hg _).pthen ?_
  by_cases hh:yj gs attr= []∧attr.must=true
  ·have hh2:Go.Bf.getD gs attr.cat attr.name= []∧attr.must=true:=hh
   simp only[go_sem,JH,if_pos hh2,g6];exact .mk (bT ⟨[],ax,4⟩) (lS (x:=⟨[],ax,4⟩) rfl _) (hH0.put n6' _) ⟨by unfold lV;simp only[e2,if_neg (show¬(2:Int)=1 by decide),if_true,if_pos hh],rfl⟩
  ·have hh2:¬(Go.Bf.getD gs attr.cat attr.name= []∧attr.must=true):=hh
   simp only[go_sem,JH,if_neg hh2,g6];exact .mk (bT ⟨yj gs attr,ax,0⟩) (lS (x:=⟨yj gs attr,ax,0⟩) rfl _) (hH0.put n6' _) ⟨by unfold lV;simp only[e2,if_neg (show¬(2:Int)=1 by decide),if_true,if_neg hh],rfl⟩
 have hp2' :op≠2:=by simpa using d2
 have his:=fun(x:jJ) (m:Int) (G:Heap)=>Sq x m G
 simp only[bT]at his;cases d12:(op==12)
 case true=>
  have e12:op=12:=by simpa using d12
  have htr:=fun G=>vS false G
  simp only[bT]at htr;obtain⟨a,b,hab⟩:∃a b,l= [a,b]:=xM (by rw[hl,e12];rfl)
  have wk:IntKind.i64.wrap (op - 12)=0:=agH;have han:(l.any fun x=>isI x (op - 12))=(isI a 0||isI b 0):=by rw[hab,e12];simp
  have hb0:l.map bT= [bT a,bT b]:=by rw[hab];rfl
  have q3:(op==3)=false:=agH;have q4:(op==4)=false:=agH;have q5:(op==5)=false:=agH;have hbH:=hb.sub hH0;simp only[go_sem,d2,d1,d12,g3,wk];refine hbH.idx (e:=371) 0 rfl agc aed ad6 fun p hp1=>?_
  have hld:=hp1.all (U:=U) (ty:=371) aed afd afd;simp only[go_sem,hld,hb0,List.getElem_cons_zero,bT];refine(his a 0 _).pthen ?_;cases da:isI a 0
  ·simp only[go_sem]
   refine hbH.idx (e:=371) 1 rfl agc aed ad6 fun p hp1=>?_
   have hld:=hp1.all (U:=U) (ty:=371) aed aeM aeM;simp only[go_sem,hld,hb0,List.getElem_cons_succ,List.getElem_cons_zero,bT];refine(his b 0 _).pthen ?_;cases db:isI b 0
   ·exact aic
   ·simp only[go_sem]
    refine(htr _).pthen ?_;simp only[go_sem,g6];exact .mk (bT (jh false)) (lS (x:=(jh false)) rfl _) (hH0.put n6' _) ⟨by unfold lV;rw[han,da,db];simp[e12]<;>rfl,rfl⟩
  ·simp only[go_sem]
   refine(htr _).pthen ?_;simp only[go_sem,g6];exact .mk (bT (jh false)) (lS (x:=(jh false)) rfl _) (hH0.put n6' _) ⟨by unfold lV;rw[han,da];simp[e12]<;>rfl,rfl⟩
 have hn12:op≠12:=by simpa using d12
 cases d13:(op==13)
 case true=>
  have e12:op=13:=by simpa using d13
  have htr:=fun G=>vS true G
  simp only[bT]at htr;obtain⟨a,b,hab⟩:∃a b,l= [a,b]:=xM (by rw[hl,e12];rfl)
  have wk:IntKind.i64.wrap (op - 12)=1:=agH;have han:(l.any fun x=>isI x (op - 12))=(isI a 1||isI b 1):=by rw[hab,e12];simp
  have hb0:l.map bT= [bT a,bT b]:=by rw[hab];rfl
  have q3:(op==3)=false:=agH;have q4:(op==4)=false:=agH;have q5:(op==5)=false:=agH;have hbH:=hb.sub hH0;simp only[go_sem,d1,d2,d12,d13,g3,wk];refine hbH.idx (e:=371) 0 rfl agc aed ad6 fun p hp1=>?_
  have hld:=hp1.all (U:=U) (ty:=371) aed afd afd;simp only[go_sem,hld,hb0,List.getElem_cons_zero,bT];refine(his a 1 _).pthen ?_;cases da:isI a 1
  ·simp only[go_sem]
   refine hbH.idx (e:=371) 1 rfl agc aed ad6 fun p hp1=>?_
   have hld:=hp1.all (U:=U) (ty:=371) aed aeM aeM;simp only[go_sem,hld,hb0,List.getElem_cons_succ,List.getElem_cons_zero,bT];refine(his b 1 _).pthen ?_;cases db:isI b 1
   ·exact aic
   ·simp only[go_sem]
    refine(htr _).pthen ?_;simp only[go_sem,g6];exact .mk (bT (jh true)) (lS (x:=(jh true)) rfl _) (hH0.put n6' _) ⟨by unfold lV;rw[han,da,db];simp[e12]<;>rfl,rfl⟩
  ·simp only[go_sem]
   refine(htr _).pthen ?_;simp only[go_sem,g6];exact .mk (bT (jh true)) (lS (x:=(jh true)) rfl _) (hH0.put n6' _) ⟨by unfold lV;rw[han,da];simp[e12]<;>rfl,rfl⟩
 have hn13:op≠13:=by simpa using d13
 have hno:¬((op=12∨op=13)∧(l.any fun x=>isI x (op - 12))=true):=fun hh=>hh.1.elim hn12 hn13
 simp only[go_sem,d1,d2,d12,d13,g3,hb.len,adT];refine .intro (fun m ρ H=>∃(i:Nat) (z:AV),Acc U 44 H0 H z ((l.take i).map fun x=>aV x.v)∧i≤l.length∧m=l.length - i∧(∀j (h1:j<l.length),j<i→l[j].e=0)∧lk ρ 1=some y∧lk ρ 3=some (.ptr i3 0)∧lk ρ 6=some (.ptr i6 0)∧lk ρ 10=some z∧lk ρ 55=some y∧lk ρ 56=some (.i l.length)∧lk ρ 57=some (.i i)) l.length ?_ ?_
 ·refine⟨0,.sl [] .full,.full (.refl _),ad3,rfl,fun j _ hj=>ad3,?_,?_,?_,?_,?_,?_,?_⟩<;>simp only[go_sem]
 ·rintro m ρ H ⟨i,z,hz,hi,rfl,hc,r1,r3,r6,r10,r55,r56,r57⟩
  have hsH:=hH0.trans hz.1;have hbH:=hb.sub hsH;have k3:=hz.1 _ _ g3;have k6:=hz.1 _ _ g6;simp only[go_sem,r56,r57];refine .intro (fun e=>?_) (fun e=>?_)
  ·have hlt:i<l.length:=ad0 e
   have w1:=adZ i ad3;have hsn:(l.take (i+1)).map (fun x=>aV x.v)=(l.take i).map (fun x=>aV x.v)++ [aV l[i].v]:=afh
   simp only[go_sem,r55,r57];refine hbH.idx (e:=371) i rfl aep aed ad6 fun p hp1=>?_
   have hld:=hp1.all (U:=U) (ty:=371) aed aeJ aeJ;obtain⟨x,ex⟩:∃x,l[i]=x:=⟨_,rfl⟩;rw[ex]at hsn;simp only[go_sem,hld,adU,ex,bT];intro i12 h12;have n126:i12≠i6:=fun e=>af2
   cases dx:(x.e !=0)
   ·have dx' :x.e=0:=by simpa using dx
    simp only[go_sem,r10,dx];refine(hz.sub (.ak h12)).app (zs:=[aV x.v]) ad8 ad8 (fun k hk=>hk) afm afC aem fun z' H' hz' kp=>?_
    simp only[go_sem,r57,w1];refine⟨_,?_,i+1,z',by rw[hsn];exact hz',ad3,rfl,fun j h1 hj=>?_,?_,?_,?_,?_,?_,?_,?_⟩
    ·omega
    ·by_cases hji:j=i
     ·subst hji;rw[ex];exact dx'
     ·exact hc j h1 ad3
    all_goals simp only[go_sem,r1,r3,r6,r55,r56]
   ·have hfi:l.find? (fun x=>x.e !=0)=some x:=by rw[←ex];exact List.find?_eq_some_iff_getElem.2 ⟨by rw[ex];exact dx,i,hlt,rfl,fun j hj=>ahv⟩
    simp only[go_sem,r6,dx,aj,n126.symm,k6];exact .mk (bT ⟨[],ax,x.e⟩) (lS (x:=⟨[],ax,x.e⟩) rfl _) ((hsH.trans (.ak h12)).put n6' _) ⟨ahg,rfl⟩
  ·have hge:i=l.length:=by have:=adW e;omega
   subst hge;have hfi:l.find? (fun x=>x.e !=0)=none:=List.find?_eq_none.2 fun x hx=>by obtain⟨j,hj,rfl⟩:=List.mem_iff_getElem.1 hx;rw[hc j hj hj];decide
   have hnd:=vB (gs:=gs) (val:=val) (attr:=attr) hp1' hp2' hno hfi;rw[List.take_length]at hz;obtain⟨qz,eqz⟩:=hz.row;subst eqz;have hcl:=fun G=>Ch op (l.map (·.v)) ag9 qz G
   rw[List.map_map]at hcl;have hcl:∀G,ai prog 314 [.i op,.sl (l.map fun x=>aV x.v) qz] G fun r h' =>r=rR (iu op (l.map (·.v)))∧h' =G:=hcl
   cases d3:(op==3)
   case true=>
    have e3:op=3:=ahU;obtain⟨a,ha⟩:∃a,l= [a]:=List.length_eq_one_iff.1 (by rw[hl,e3];rfl)
    have hb0:l.map bT= [bT a]:=by rw[ha];rfl
    simp only[e3,if_true,ha,List.headD_cons]at hnd;simp only[go_sem,r1,r3,k3,d3];refine hbH.idx (e:=371) 0 rfl agc aed ad6 fun p hp1=>?_
    (try simp only[go_sem])
    refine hp1.field (f:=0) (off:=0) (t:=177) rfl aeR fun p2 hp2=>?_
    have hld:=hp2.part (U:=U) (ty:=177) aeR ae2;simp only[hb0,List.getElem_cons_zero,bT,AV.cells]at hld;cases db:((a.bag.length:Int) !=1)
    ·have hb1:(a.bag.length:Int)=1:=by simpa using db
     obtain⟨v,hv⟩:=List.length_eq_one_iff.1 (show a.bag.length=1 by omega)
     rw[hv]at hnd hld;have iv:=fun K=>fC.eq (xs:=[aV v]) (sz:=3) 0 aea rfl K
     simp only[List.getElem_cons_zero,aV,Int.natCast_zero]at iv;simp only[go_sem,r1,hld,List.map_cons,List.map_nil,aV];refine hbH.idx (e:=371) 0 rfl agc aed ad6 fun p hp1=>?_
     (try simp only[go_sem])
     refine hp1.field (f:=0) (off:=0) (t:=177) rfl aeR fun p2 hp2=>?_
     have hld:=hp2.part (U:=U) (ty:=177) aeR ae2;simp only[hb0,List.getElem_cons_zero,bT,AV.cells,hv,List.map_cons,List.map_nil,aV]at hld;simp only[go_sem,hld,iv,r6,k6];exact .mk (bT ⟨[],v,0⟩) (lS (x:=⟨[],v,0⟩) rfl _) (hsH.put n6' _) ⟨by rw[e3,ha,hnd]<;>rfl,rfl⟩
    ·simp only[go_sem,hld,adT,db,r6,k6]
     refine .mk (bT ⟨[],ax,4⟩) (lS (x:=⟨[],ax,4⟩) rfl _) (hsH.put n6' _) ⟨?_,rfl⟩;rw[e3,ha,hnd]
     congr 1
     split
     ·rename_i v hv;rw[hv]at db;simp at db
     ·rfl
   cases d4:(op==4)
   case true=>
    have e4:op=4:=by simpa using d4
    obtain⟨a,ha⟩:∃a,l= [a]:=List.length_eq_one_iff.1 (by rw[hl,e4];rfl)
    have hb0:l.map bT= [bT a]:=by rw[ha];rfl
    simp only[go_sem,r1,r3,k3,d3,d4];refine hbH.idx (e:=371) 0 rfl agc aed ad6 fun p hp1=>?_
    (try simp only[go_sem])
    refine hp1.field (f:=0) (off:=0) (t:=177) rfl aeR fun p2 hp2=>?_
    have hld:=hp2.part (U:=U) (ty:=177) aeR ae2;simp only[hb0,List.getElem_cons_zero,bT,AV.cells]at hld;simp only[go_sem,hld,adT,r6,k6];exact .mk (bT ⟨[],⟨2,a.bag.length,[]⟩,0⟩) (lS (x:=⟨[],⟨2,a.bag.length,[]⟩,0⟩) rfl _) (hsH.put n6' _) ⟨by rw[hnd,e4,ha];rfl,rfl⟩
   cases d5:(op==5)
   case true=>
    have e5:op=5:=by simpa using d5
    obtain⟨a,b,hab⟩:∃a b,l= [a,b]:=xM (by rw[hl,e5];rfl)
    have hb0:l.map bT= [bT a,bT b]:=by rw[hab];rfl
    have hvh:=fun G=>Qa a.bag (by have:=hbag a (by rw[hab];simp);omega) b.v .no G
    simp only[aV]at hvh;have htr:=fun G=>vS (a.bag.any fun v=>eqV v b.v) G
    simp only[bT]at htr;simp only[go_sem,r3,k3,d3,d4,d5];refine .calls h [0,1,2,3,4,5,6,7,8,9,10] hsH ad7 rfl ?_;simp only[go_sem,r1];refine hb.idx (e:=371) 0 rfl agc aed ad6 fun p hp1=>?_
    simp only[go_sem];refine hp1.field (f:=0) (off:=0) (t:=177) rfl aeR fun p2 hp2=>?_
    have hld:=hp2.part (U:=U) (ty:=177) aeR ae2;simp only[hb0,List.getElem_cons_zero,bT,AV.cells]at hld;simp only[go_sem,hld,r1];refine hb.idx (e:=371) 1 rfl agc aed ad6 fun p hp3=>?_
    simp only[go_sem];refine hp3.field (f:=1) (off:=1) (t:=44) rfl aeR fun p4 hp4=>?_
    have hld4:=hp4.part (U:=U) (ty:=44) aeR (by simp only[go_sem,hb0,List.getElem_cons_succ,List.getElem_cons_zero];exact adS rfl)
    simp only[hb0,List.getElem_cons_succ,List.getElem_cons_zero,bT,AV.cells]at hld4;simp only[go_sem,hld4];refine(hvh _).pthen ?_;refine⟨hsH,?_⟩;simp only[go_sem];refine(htr _).pthen ?_;refine⟨hsH,?_⟩;simp only[go_sem,r6,k6];refine⟨hsH.put n6' _,?_⟩;exact .mk (bT (jh (a.bag.any fun v=>eqV v b.v))) (lS (x:=(jh (a.bag.any fun v=>eqV v b.v))) rfl _) (hsH.put n6' _) ⟨by rw[hnd,e5,hab];rfl,rfl⟩
   obtain⟨⟨v,e⟩,ev⟩:∃x,iu op (l.map (·.v))=x:=⟨_,rfl⟩
   rw[ev]at hcl;simp only[go_sem,r3,r10,k3,d3,d4,d5];refine(hcl _).pthen ?_;simp only[go_sem,rR,aV];intro i13 h13;have n136:i13≠i6:=fun e=>ahE
   simp only[go_sem,r6,aj,n136.symm,k6];exact .mk (bT ⟨[],v,e⟩) (lS (x:=⟨[],v,e⟩) rfl _) ((hsH.trans (.ak h13)).put n6' _) ⟨by rw[hnd];simp only[if_neg (show¬op=3 by simpa using d3),if_neg (show¬op=4 by simpa using d4),if_neg (show¬op=5 by simpa using d5)];rw[ev]<;>rfl,rfl⟩
end Go.Proofs.YtokahfmoollblaaGreatDoor
namespace Go.Bf
open Go Go.Ab Go.Proofs.YtokahfmoollblaaGreatDoor
variable {l:List aU}{alg op:Int}{gs:List bt}{bs bs' z:List Bool}
theorem CT{t:gj}(h:l8 t=0):Og t:=by
 obtain⟨h1,h2⟩:=BS h;refine⟨ad3,fun x hx=>?_⟩
 grind [AW,AU]
theorem M6.turn{m:aU}(h:M6 m):M6 (Fg m):=by exact aiO
theorem M6.indet{m:aU}(h:M6 m):M6 (hY m):=by exact aiO
theorem M6.first(h:∀m∈l,M6 m):M6 (firstM l):=by
 unfold firstM;cases hf:l.find? fun m=>decide (m≠naM)with
 |none=>decide
 |some m=>grind
theorem M6.only:∀(l:List aU) (j:aU),(∀m∈l,M6 m)→M6 j→M6 (oY l j)
 | [],j,_,hj=>hj
 |m::r,j,h,hj=>by
  simp only[oY];split
  ·decide
  ·refine M6.only r _ ad4 ?_
   split
   ·grind
   ·split
    ·decide
    omega
theorem HI(h:∀m∈l,M6 m):M6 (iC alg l):=by
 unfold iC;split
 ·exact It _
 ·split
  ·exact M6.turn (It _)
  ·split
   ·exact .first h
   ·split
    ·exact .only _ _ h ad6
    ·split
     ·split<;>decide
     ·split
      ·split<;>decide
      decide
theorem A8(r:cS)(t c:Nat):M6 (nP r t c).1:=by
 unfold nP;cases r.deny
 all_goals
  simp only[if_true,Bool.false_eq_true,if_false];split
  ·decide
  ·split
   ·decide
   ·first|(show M6 bp;decide)|(show M6 cM;decide)
theorem O4(alg:Int)(obls:List cE)(t:Nat){parts:List jX}(h:∀x∈parts,M6 x.1):M6 (qB alg obls t parts).1:=by
 have hc:M6 (iC alg (parts.map (·.1))):=HI fun m hm=>by grind
 unfold qB;simp only;split
 ·decide
 ·split
  ·exact hc.indet
  ·split
   ·exact hc
   ·exact hc
mutual
theorem xI(gs:List bt):∀p:bF,M6 (fL gs p).1
 |.mk id set alg tgt rules kids obls=>by
  have ih:=DJ gs kids;simp only[fL];split
  ·decide
  ·refine O4 alg obls _ fun x hx=>?_
   rcases List.mem_append.1 hx with hx|hx
   ·obtain⟨r,_,rfl⟩:=List.mem_map.1 hx
    exact A8 _ _ _
   ·exact ih x hx
theorem DJ(gs:List bt):∀l:List bF,∀x∈nc gs l,M6 x.1
 | [],x,hx=>by simp[nc]at hx
 |k::r,x,hx=>by
  have h1:=xI gs k;have h2:=DJ gs r;simp only[nc,List.mem_cons]at hx;rcases hx with rfl|hx
  ·exact h1
  ·exact h2 x hx
end
theorem Lr(h:Qg gs):sk gs:=⟨by have:=h.len;omega,fun g hg=>by have:=(h.each g hg).2.2.2.1;omega⟩
theorem HP{α:Type}(B:Nat):∀(L:List (List α)),(∀x∈L,x.length≤B)→L.flatten.length≤L.length*B
 | [],_=>aea
 |x::L,h=>by
  have h1:=h x aea;have h2:=HP B L fun y hy=>h y ad4
  rw[List.flatten_cons,adX,List.length_cons,Nat.add_mul];omega
theorem uy{m:aU}{parts:List jX}{B:Nat}(hp:∀x∈parts,x.2.length≤B)(hn:parts.length≤32):(eW alg m parts).length≤32*B+B:=by
 unfold eW;split
 ·cases hf:parts.find? fun x=>x.1==m with
  |none=>simp
  |some x=>grind
 ·have h1:=HP B (((parts.filter fun x=>x.1==m).map (·.2))) fun x hx=>by grind
  have h2:((parts.filter fun x=>x.1==m).map (·.2)).length≤32:=by grind
  have:=Nat.mul_le_mul_right B h2;omega
theorem lC(l:List cE)(m:aU):(eU l m).length≤l.length:=List.length_filter_le _ _
theorem A7(r:cS)(t c:Nat):(nP r t c).2.length≤r.obls.length:=by
 unfold nP
 all_goals
  grind [lC]
def oB:Nat→Nat
 |0=>8
 |n+1=>8+33*oB n
theorem VT(n:Nat):8≤oB n:=by
 cases n with
 |zero=>decide
 |succ n=>grind [oB]
theorem Cn(gs:List bt):∀(n d:Nat) (p:bF),d+n=5→mJ d p→(fL gs p).2.length≤oB n
 |0,d,.mk id set alg tgt rules kids obls,hd,h=>by grind [mJ]
 |n+1,d,.mk id set alg tgt rules kids obls,hd,h=>by
  simp only[mJ,rz]at h;obtain⟨_,_,_,_,_,_,g2,g3,g4,g5,g6,g7⟩:=h;have hob:=(ld g3).1;have h8:=VT n;simp only[fL];split
  ·simp
  ·unfold qB
   simp only;split
   ·simp
   ·split
    ·simp
    ·split
     ·simp
     ·have h1:=uy (alg:=alg) (m:=iC alg ((rules.map (iI gs)++nc gs kids).map (·.1))) (parts:=rules.map (iI gs)++nc gs kids) (B:=oB n) (fun x hx=>by
       rcases List.mem_append.1 hx with hx|hx
       ·obtain⟨r,hr,rfl⟩:=List.mem_map.1 hx
        have:=A7 r (nu gs r.tgt) (qX gs r.cond);have:=(ld (g6 r hr).2.2.2).1
        show(nP r (nu gs r.tgt) (qX gs r.cond)).2.length≤_
        omega
       ·rw[tZ]at hx
        obtain⟨k,hk,rfl⟩:=List.mem_map.1 hx;exact Cn gs n (d+1) k ad3 (g7 k hk)) (by grind [adX,adT,tZ])
      have h2:=lC obls (iC alg ((rules.map (iI gs)++nc gs kids).map (·.1)))
      simp only[adX,oB];omega
theorem DK(gs:List bt){p:bF}(h:mJ 1 p):(fL gs p).2.length≤10000000:=Nat.le_trans (Cn gs 4 1 p rfl h) ad6
theorem KX{w:List Bool}(hw:iR op=some w):w.length=opsOf op∧1≤op∧op≤13:=by
 have h1:1≤op∧op≤13:=by grind [iR]
 refine⟨?_,h1⟩;rcases(show op=1∨op=2∨op=3∨op=4∨op=5∨op=6∨op=7∨op=8∨op=9∨op=10∨op=11∨op=12∨op=13 by omega)with rfl|rfl|rfl|rfl|rfl|rfl|rfl|rfl|rfl|rfl|rfl|rfl|rfl
 all_goals (simp[iR]at hw;subst hw;rfl)
theorem KH{n:aO}(h:iQ bs n=some bs'):(1≤n.op∧n.op≤13)∧opsOf n.op≤bs.length∧bs'.length=bs.length - opsOf n.op+1:=by
 unfold iQ at h;cases hw:iR n.op with
 |none=>grind
 |some w=>grind [KX,adX,List.length_take,List.length_singleton]
theorem PU{l:List aO}{i:Nat}(hl:gp [] l=some z)(hi:i<l.length)(hb:gp [] (l.take i)=some bs):∃bs',iQ bs l[i]=some bs'∧gp [] (l.take (i+1))=some bs' :=by
 have h1:=kL [] l i;rw[hl,hb,List.drop_eq_getElem_cons hi]at h1;simp only[gp]at h1;cases hs:iQ bs l[i]with
 |none=>rw[hs]at h1;cases h1
 |some bs' =>
  rw[kL [] _ i,List.take_take,Nat.min_eq_left ad3,hb,List.take_succ_eq_append_getElem hi,List.drop_append_of_le_length ad4,List.drop_of_length_le ad4]
  grind [gp]
theorem MS(hf:sk gs)(n:aO)(l:List jJ):(lV gs n l).bag.length≤1000000:=by
 unfold lV AM jh
 repeat' split
 all_goals first|exact hf.bag _|simp
def VJ(x:jJ):AV:=.tup [aV x.v,.i x.e]
end Go.Bf
namespace Go.Proofs.YtokahfmoollblaaGreatDoor
open Go Go.Ab Go.Bf Tryz
theorem L9(l:List aO)(hn:l≠ [])(he:kQ l=0)(gs:List bt)(hf:sk gs)(h:Heap):ai prog 276 [dY l,bP gs] h fun r h' =>r=VJ (wI gs l)∧h' =h:=by
 obtain⟨h32,hst⟩:=yF he hn;have hex:=fun G=>HM l G
 rw[he]at hex;simp only[dY]at hex;have dl:((l.length:Int)==0)=false:=ah8;refine ad2 func276 51 [.cell 4 44,.tmp 5] fun hwf=>?_
 simp only[go_sem,dY,bP];intro i4 h4;simp only[go_sem,adT,dl];refine(hex _).pthen ?_;simp only[go_sem,adT];obtain⟨H0,eH⟩:∃H0,upd h i4 (some (.obj [.i 0,.i 0,.s []] 44))=H0:=⟨_,rfl⟩;have hH0:Ab.Sub h H0:=by rw[←eH];exact .ak h4
 have g4:H0 i4=some (.obj [.i 0,.i 0,.s []] 44):=afv;rw[eH];clear eH;refine .intro (fun m ρ H=>∃(i:Nat) (y:AV) (st:List jJ) (bs:List Bool),OwE 371 H0 H 5 y (st.map bT)∧Ab.Sub H0 H∧(l.take i).foldl (zU gs) []=st∧gp [] (l.take i)=some bs∧bs.length=st.length∧(∀x∈st,x.bag.length≤1000000)∧i≤l.length∧m=l.length - i∧lk ρ 1=some (.sl (gs.map lQ) .no)∧lk ρ 4=some (.ptr i4 0)∧lk ρ 6=some y∧lk ρ 19=some (.sl (l.map cN) .no)∧lk ρ 20=some (.i l.length)∧lk ρ 21=some (.i i)) l.length ?_ ?_
 ·refine⟨0,_,[],[],.inl ⟨rfl,rfl⟩,.refl _,rfl,rfl,rfl,fun x hx=>ad4,ad3,rfl,?_,?_,?_,?_,?_,?_⟩<;>simp only[go_sem]
 ·rintro m ρ H ⟨i,y,st,bs,hw,hsH,hfo,hbs,hlen,hbag,hi,rfl,r1,r4,r6,r19,r20,r21⟩
  have hsl:bs.length≤i:=by have:=sF _ _ _ hbs;simpa[Nat.min_eq_left hi]using this
  simp only[go_sem,r20,r21];refine .intro (fun e=>?_) (fun e=>?_)
  ·have hlt:i<l.length:=ad0 e
   have w1:IntKind.i64.wrap ((i:Int)+1)=((i+1:Nat):Int):=aeg;obtain⟨bs',hb1,hb2⟩:=PU hst hlt hbs;have hfs:(l.take (i+1)).foldl (zU gs) []=zU gs st l[i]:=by grind [List.take_succ_eq_append_getElem]
   have ix:=fun k=>fC.eq (xs:=l.map cN) (sz:=7) i ad4 aec k
   rw[adU]at ix;obtain⟨n,en⟩:∃n,l[i]=n:=⟨_,rfl⟩;rw[en]at hb1 hfs ix;obtain⟨hop,hle,hln⟩:=KH hb1;rw[hlen]at hle;obtain⟨k,ek⟩:∃k,st.length - opsOf n.op=k:=⟨_,rfl⟩;have wk:IntKind.i64.wrap ((st.length:Int) - (opsOf n.op:Int))=(k:Int):=aeg;have hstep:zU gs st n=st.take k++ [lV gs n (st.drop k)]:=by grind [zU]
   simp only[cN]at ix;simp only[go_sem,r19,r21,ix];intro i8 h8;obtain⟨H8,eH⟩:∃H8,upd H i8 (some (.obj [.i n.op,.i n.val.kind,.i n.val.n,.s n.val.s,.i n.attr.cat,.s n.attr.name,.b n.attr.must] 222))=H8:=⟨_,rfl⟩;have hs8:Ab.Sub H H8:=by rw[←eH];exact .ak h8
   have k8:H8 i8=some (.obj [.i n.op,.i n.val.kind,.i n.val.n,.s n.val.s,.i n.attr.cat,.s n.attr.name,.b n.attr.must] 222):=afv;have hw8:=hw.sub hs8;simp only[go_sem,r6,hw8.rd.len,adT];refine(F0 n.op _).pthen ?_;rw[eH];clear eH;simp only[go_sem,wk];refine .calls (hm1 i8 (.obj [.i n.op,.i n.val.kind,.i n.val.n,.s n.val.s,.i n.attr.cat,.s n.attr.name,.b n.attr.must] 222)) [0,1,2,3,4,5,6,7,8,9,10,11] (.hm1 k8) ad7 rfl ?_;simp only[go_sem,r6];refine hw8.cut (U:=U) (x:=.i64) k aei rfl ad4 aei ad6 fun z hz hzy=>?_
   simp only[go_sem,r6,gz];refine hw8.from (U:=U) (x:=.i64) k aei rfl ad4 aei ad6 fun z2 hz2=>?_
   rw[←List.map_drop]at hz2;rw[←List.map_take]at hz;have hnd:=Po n hop (st.drop k) hz2 ad4 (fun x hx=>hbag x (List.mem_of_mem_drop hx)) gs hf
   have hnb:=MS hf n (st.drop k);obtain⟨x,ex⟩:∃x,lV gs n (st.drop k)=x:=⟨_,rfl⟩;rw[ex]at hnd hnb hstep;simp only[cN,bP,bT]at hnd;simp only[go_sem,r1];refine hnd.pthen ?_;refine⟨.hm1 k8,?_⟩;simp only[go_sem];have hone:Rd H8 5 (.sl [bT x] .full) [bT x]:=.sl (fun z hz=>agV) .full
   simp only[bT]at hone;refine OwE.app (U:=U) (tb:=371) hz (hsH.trans hs8) hone aei ad6 ad6 aei aea aem fun id y' H' hid hor how hoth=>?_
   have n8:i8≠id:=by
    intro e8;rcases hor with ho|⟨lz,cz,ez⟩
    ·grind
    ·exact mA (hz.nid (id:=id) (by rw[ez];rfl)).2.2 k8 ad6 e8.symm
   have hsub' :Ab.Sub H0 H' :=fun j b hj=>by rw[hoth j (fun e=>ad4)];exact(hsH.trans hs8) _ _ hj
   refine⟨.hm1 ad4,?_⟩;simp only[go_sem,r21,w1];refine⟨_,?_,i+1,y',zU gs st n,bs',.inr ⟨id,hid,by rw[hstep,List.map_append];exact how⟩,hsub',hfs,hb2,ad4,fun w hw=>?_,ad3,rfl,?_,?_,?_,?_,?_,?_⟩
   ·omega
   ·grind
   all_goals simp only[go_sem,r1,r4,r19,r20]
  ·have hge:i=l.length:=by grind
   subst hge;rw[List.take_length]at hbs hfo;rw[hst]at hbs;cases hbs;obtain⟨x,rfl⟩:=List.length_eq_one_iff.1 hlen.symm;have hit:wI gs l=x:=by simp_all [wI,if_neg]
   obtain⟨id,hid,how⟩:=hw.ow aea;have hwp:Rd (pick H [id]) 5 y [bT x]:=(how.same (bG (List.mem_singleton.2 rfl))).rd;have n4:i4≠id:=fun e=>ad4
   have k4:=hsH _ _ g4;simp only[go_sem];refine .calls (pick H [id]) [0,1,2,3,4,5,6,7,8,9] bz ad7 rfl ?_;simp only[go_sem,r6];refine hwp.idx (U:=U) (e:=371) 0 rfl aea aei ad6 fun p hp1=>?_
   simp only[go_sem];refine hp1.field (f:=1) (off:=1) (t:=44) rfl ad6 fun p2 hp2=>?_
   have hld:=hp2.part (U:=U) (ty:=44) ad6 ags;simp only[List.getElem_cons_zero,bT,AV.cells]at hld;simp only[go_sem,r6,hld];refine hwp.idx (U:=U) (e:=371) 0 rfl aea aei ad6 fun p3 hp3=>?_
   simp only[go_sem];refine hp3.field (f:=2) (off:=4) (t:=49) rfl ad6 fun p4 hp4=>?_
   have hld4:=hp4.part (U:=U) (ty:=49) ad6 ags;simp only[List.getElem_cons_zero,bT,AV.cells]at hld4;simp only[go_sem,r4,hld4,k4];refine⟨bz.put (by grind [pick]) _,?_⟩
   exact .mk _ (.refl _) ((hH0.trans hsH).put h4 _) ⟨by rw[hit];rfl,rfl⟩
theorem OH(l:List aO)(he:kQ l=0)(gs:List bt)(hf:sk gs)(h:Heap):ai prog 250 [dY l,bP gs] h fun r h' =>r= .i (qX gs l:Nat)∧h' =h:=by
 by_cases hn:l= []
 ·subst hn
  refine ad2 func250 26 [.tmp 4] fun hwf=>?_
  simp only[go_sem,dY,bP,List.map_nil,List.length_nil];exact aeh
 have hv:=fun G=>L9 l hn he gs hf G
 have hcd:qX gs l=if isI (wI gs l) 1 then 2 else if isI (wI gs l) 0 then 0 else 1:=by simp_all [qX,if_neg]
 obtain⟨x,ex⟩:∃x,wI gs l=x:=⟨_,rfl⟩;rw[ex]at hv hcd;simp only[dY,bP,VJ,aV]at hv;have hi1:∀(m:Int) G,ai prog 277 [.agg [.sl [] .full,.i x.v.kind,.i x.v.n,.s x.v.s,.i x.e],.i m] G fun r h' =>r= .b (isI x m)∧h' =G:=fun m G=>O2 x m G
 have dl:((l.length:Int)==0)=false:=ah8;refine ad2 func250 26 [.tmp 4] fun hwf=>?_
 simp only[go_sem,dY,bP,adT,dl];refine(hv _).pthen ?_;simp only[go_sem];intro i5 h5;simp only[go_sem];intro i7 h7;have n7:=aB h7;have hs:∀x y,Ab.Sub h (upd (upd h i5 x) i7 y):=fun x y=>((Sub.refl h).put h5 x).put n7 y
 simp only[go_sem];refine(hi1 1 _).pthen ?_;cases d1:isI x 1
 case true=>rw[d1]at hcd;simp only[go_sem];exact .mk _ (.refl _) (hs _ _) ⟨by rw[hcd];rfl,rfl⟩
 simp only[go_sem];refine(hi1 0 _).pthen ?_;cases d0:isI x 0
 all_goals
  rw[d1,d0]at hcd;simp only[go_sem];exact .mk _ (.refl _) (hs _ _) ⟨by rw[hcd];rfl,rfl⟩
end Go.Proofs.YtokahfmoollblaaGreatDoor
namespace Go.Bf
open Go Go.Ab Go.Proofs.YtokahfmoollblaaGreatDoor
variable {l:List aU}{q:aU→Bool}
def kj(l:List aU)(p:Perm):AV:=.sl (l.map aR) p
theorem M9.na:M9 naM:=ad6
theorem Cy(l:List aU)(i:Nat)(h:i<l.length):(l.take (i+1)).foldl oT naM=oT ((l.take i).foldl oT naM) l[i]:=by grind [List.take_succ_eq_append_getElem]
theorem Jv(hq:∀m,q m=decide (m≠naM))(h:l.findIdx q<l.length):firstM l=l[l.findIdx q]:=by
 unfold firstM;have e:q=fun m=>decide (m≠naM):=funext hq
 subst e;rw[show l.find? (fun m=>decide (m≠naM))=some l[l.findIdx fun m=>decide (m≠naM)]from List.find?_eq_some_iff_getElem.2 ⟨List.findIdx_getElem (w:=h),_,h,rfl,fun j hj=>ad4⟩]
 rfl
theorem Jw(hq:∀m,q m=decide (m≠naM))(h:¬l.findIdx q<l.length):firstM l=naM:=by
 unfold firstM;rw[List.find?_eq_none.2 fun x hx=>ad4]
 rfl
def wZ(j m:aU):aU:=if j=naM then m else if m≠naM then pV else j
theorem MZ{i:Nat}(h:i<l.length)(j:aU):oY (l.drop i) j=if zV l[i]=false then pV else oY (l.drop (i+1)) (wZ j l[i]):=by rw[List.drop_eq_getElem_cons h];rfl
end Go.Bf
namespace Go.Proofs.YtokahfmoollblaaGreatDoor
open Go Go.Ab Go.Bf Tryz
theorem Wk:(U 51).sz=1:=aei
theorem J1(ms:List aU)(hl:ms.length≤1000000000)(q:aU→Bool)(g:FuncId)(cap:List AV)(p:Perm)(h:Heap)(hp:∀m∈ms,ai prog g (aR m::cap) h fun r h' =>r= .b (q m)∧h' =h):
  ai prog 302 [kj ms p,.fn g cap] h fun r h' =>r= .i (ixD q ms)∧h' =h:=by
 refine ad2 func302 19 [.tmp 4] fun hwf=>?_
 simp only[go_sem,kj,adT];refine .intro (fun m ρ h' =>h' =h∧∃i:Nat,i≤ms.length∧m=ms.length - i∧(∀j (hj:j<i) (h2:j<ms.length),q ms[j]=false)∧lk ρ 0=some (.sl (ms.map aR) p)∧lk ρ 1=some (.fn g cap)∧lk ρ 7=some (.i ms.length)∧lk ρ 8=some (.i i)) ms.length ?_ ?_
 ·refine⟨rfl,0,ad3,rfl,fun j hj=>ad3,?_,?_,?_,?_⟩<;>simp only[go_sem]
 ·rintro m ρ h' ⟨rfl,i,hi,rfl,hc,r0,r1,r7,r8⟩
  simp only[go_sem,r7,r8];refine .intro (fun e=>?_) (fun e=>?_)
  ·have hlt:i<ms.length:=ad0 e
   have w1:IntKind.i64.wrap ((i:Int)+1)=((i+1:Nat):Int):=aeg;have ix:=fun k=>fC.eq (xs:=ms.map aR) (sz:=1) i ad4 aec k
   rw[adU]at ix;have hg:=hp ms[i] (adY hlt);have hci:=fun(d:q ms[i]=false)=>(fun j (hj:j<i+1) (h2:j<ms.length)=>(by grind:q ms[j]=false))
   have hat:=fun(d:q ms[i]=true)=>oA hlt d fun j hj=>hc j hj ad3
   obtain⟨m,em⟩:∃m,ms[i]=m:=⟨_,rfl⟩;rw[em]at ix hg hci hat;simp only[aR]at ix;simp only[go_sem,r0,r1,r8,ix];refine(show ai prog g (.v (.complex .f64 (hbit m.1) (hbit m.2))::cap) _ _ from hg).pthen ?_
   cases d1:q m
   ·simp only[go_sem,r8,w1]
    refine⟨_,?_,rfl,i+1,ad3,rfl,hci d1,?_,?_,?_,?_⟩
    ·omega
    all_goals simp only[go_sem,r0,r1,r7]
   ·simp only[go_sem]
    exact .same (.refl _) ⟨ah4,rfl⟩
  ·have hge:i=ms.length:=by grind
   simp only[go_sem];exact .same (.refl _) ⟨aew,rfl⟩
theorem Gn(ms:List aU)(hl:ms.length≤1000000000)(hmm:∀m∈ms,M9 m)(x:aU)(hx:M9 x)(p:Perm)(h:Heap):
  ai prog 315 [kj ms p,aR x] h fun r h' =>r= .i (ixD (fun y=>x==y) ms)∧h' =h:=by
 refine ad2 func315 19 [.tmp 4] fun hwf=>?_
 simp only[go_sem,kj,adT];refine .intro (fun m ρ h' =>h' =h∧∃i:Nat,i≤ms.length∧m=ms.length - i∧(∀j (hj:j<i) (h2:j<ms.length),(x==ms[j])=false)∧lk ρ 0=some (.sl (ms.map aR) p)∧lk ρ 1=some (aR x)∧lk ρ 7=some (.i ms.length)∧lk ρ 8=some (.i i)) ms.length ?_ ?_
 ·refine⟨rfl,0,ad3,rfl,fun j hj=>ad3,?_,?_,?_,?_⟩<;>simp only[go_sem]
 ·rintro m ρ h' ⟨rfl,i,hi,rfl,hc,r0,r1,r7,r8⟩
  simp only[go_sem,r7,r8];refine .intro (fun e=>?_) (fun e=>?_)
  ·have hlt:i<ms.length:=ad0 e
   have w1:IntKind.i64.wrap ((i:Int)+1)=((i+1:Nat):Int):=aeg;have ix:=fun k=>fC.eq (xs:=ms.map aR) (sz:=1) i ad4 aec k
   rw[adU]at ix;have hm9:=hmm ms[i] (adY hlt);have hci:=fun(d:(x==ms[i])=false)=>(fun j (hj:j<i+1) (h2:j<ms.length)=>(by grind:(x==ms[j])=false))
   have hat:=fun(d:(x==ms[i])=true)=>oA (q:=fun y=>x==y) hlt d fun j hj=>hc j hj ad3
   obtain⟨m,em⟩:∃m,ms[i]=m:=⟨_,rfl⟩;rw[em]at ix hm9 hci hat;simp only[aR]at ix r1;have ne:=zo hx hm9;cases d1:(x==m)
   ·simp only[go_sem,r0,r1,r8,ix,ne,d1,w1]
    refine⟨_,?_,rfl,i+1,ad3,rfl,hci d1,?_,?_,?_,?_⟩
    ·omega
    all_goals simp only[go_sem,r0,r1,r7,aR]
   ·simp only[go_sem,r0,r1,r8,ix,ne,d1]
    exact .same (.refl _) ⟨ah4,rfl⟩
  ·have hge:i=ms.length:=by grind
   simp only[go_sem];exact .same (.refl _) ⟨aew,rfl⟩
theorem Gg(ms:List aU)(hl:ms.length≤1000000000)(hmm:∀m∈ms,M9 m)(x:aU)(hx:M9 x)(p:Perm)(h:Heap):
  ai prog 306 [kj ms p,aR x] h fun r h' =>r= .b (decide (x∈ms))∧h' =h:=by
 refine ad2 func306 9 [.tmp 4] fun hwf=>?_
 simp only[go_sem];refine(Gn ms hl hmm x hx p _).pthen ?_;simp only[go_sem];exact .same (.refl _) ⟨by rw[u9,show(ms.any fun y=>x==y)=decide (x∈ms) by grind];rfl,rfl⟩
theorem FC(m:aU)(hmm:M9 m)(h:Heap):ai prog 303 [aR m] h fun r h' =>r= .b (!(m==naM))∧h' =h:=by
 have n:=(nb hmm).nna;refine ad2 func303 5 [.tmp 2] fun hwf=>?_
 simp only[go_sem,aR,n];exact aeh
theorem PX(m:aU)(hmm:M9 m)(h:Heap):ai prog 304 [aR m] h fun r h' =>r= .b (zV m)∧h' =h:=by
 obtain⟨n1,n2,n3,_⟩:=nb hmm;refine ad2 func304 13 [.tmp 2] fun hwf=>?_
 have es:zV m=(m==naM||(m==bp||m==cM)):=by
  unfold zV
  grind
 rw[es];cases d1:(m==naM)<;>cases d2:(m==bp)<;>cases d3:(m==cM)
 all_goals
  simp only[go_sem,aR,n1,n2,n3,d1,d2,d3];exact aeh
theorem Md(ms:List aU)(hl:ms.length≤1000000000)(hmm:∀m∈ms,M9 m)(p:Perm)(h:Heap):ai prog 282 [kj ms p] h fun r h' =>r=aR (firstM ms)∧h' =h:=by
 refine ad2 func282 12 [.tmp 2] fun hwf=>?_
 simp only[go_sem,kj];refine(J1 ms hl (fun m=> !(m==naM)) _ [] p _ fun m h=>FC m (hmm m h) _).pthen ?_
 have hq:∀m:aU,(!(m==naM))=decide (m≠naM):=fun m=>ad4
 by_cases hx:ms.findIdx (fun m=> !(m==naM))<ms.length
 ·obtain⟨i,ei⟩:∃i,ms.findIdx (fun m=> !(m==naM))=i:=⟨_,rfl⟩
  have ef:=Jv hq hx;have e1:ixD (fun m=> !(m==naM)) ms=(i:Nat):=by rw[ixD,ei];omega
  simp only[ei]at ef;have d1:decide ((0:Int)≤((i:Nat):Int))=true:=decide_eq_true ad3;have ix:=fun k=>fC.eq (xs:=ms.map aR) (sz:=1) i ad4 aec k
  rw[adU,←ef]at ix;rw[e1];simp only[go_sem,d1,ix];exact aeh
 ·have e1:ixD (fun m=> !(m==naM)) ms= -1:=by simp_all [ixD,if_neg]
  have d1:decide ((0:Int)≤ -1)=false:=rfl;rw[e1];simp only[go_sem,d1];exact .same (.refl _) ⟨by rw[Jw hq hx];rfl,rfl⟩
theorem NG(j m:aU)(hj:M9 j)(hmm:M9 m)(h:Heap):ai prog 305 [.i 4,aR j,aR m] h fun r h' =>r=aR (wZ j m)∧h' =h:=by
 have n1:=(nb hj).na;have n2:=(nb hmm).nna;refine ad2 func305 31 [.tmp 6] fun hwf=>?_
 cases d1:(j==naM)
 case true=>simp only[go_sem,aR,n1,d1];exact .same (.refl _) ⟨by rw[wZ,if_pos ad4];rfl,rfl⟩
 cases d2:(m==naM)
 ·simp only[go_sem,aR,n1,n2,d1,d2]
  exact .same (.refl _) ⟨by rw[wZ,if_neg ad4,if_pos ad4];rfl,rfl⟩
 ·simp only[go_sem,aR,n1,n2,d1,d2]
  exact .same (.refl _) ⟨by rw[wZ,if_neg ad4,if_neg ad4];rfl,rfl⟩
theorem M9.step{j m:aU}(hj:M9 j)(hmm:M9 m):M9 (wZ j m):=by
 unfold wZ
 repeat' split
 ·omega
 ·decide
 omega
theorem Pw(ms:List aU)(hl:ms.length≤1000000000)(hmm:∀m∈ms,M9 m)(p:Perm)(h:Heap):ai prog 283 [kj ms p] h fun r h' =>r=aR (oY ms naM)∧h' =h:=by
 refine ad2 func283 20 [.tmp 2] fun hwf=>?_
 simp only[go_sem,kj,adT];refine .intro (fun m ρ h' =>h' =h∧∃(i:Nat) (j:aU),i≤ms.length∧m=ms.length - i∧M9 j∧oY (ms.drop i) j=oY ms naM∧lk ρ 3=some (aR j)∧lk ρ 6=some (.sl (ms.map aR) p)∧lk ρ 7=some (.i ms.length)∧lk ρ 8=some (.i i)) ms.length ?_ ?_
 ·refine⟨rfl,0,naM,ad3,rfl,.na,rfl,?_,?_,?_,?_⟩<;>simp only[go_sem,aR,naM,hbit]
 ·rintro m ρ h' ⟨rfl,i,j,hi,rfl,hj,ho,r3,r6,r7,r8⟩
  simp only[go_sem,r7,r8];refine .intro (fun e=>?_) (fun e=>?_)
  ·have hlt:i<ms.length:=ad0 e
   have w1:IntKind.i64.wrap ((i:Int)+1)=((i+1:Nat):Int):=aeg;have ix:=fun k=>fC.eq (xs:=ms.map aR) (sz:=1) i ad4 aec k
   rw[adU]at ix;have hm9:=hmm ms[i] (adY hlt);rw[MZ hlt]at ho;obtain⟨m,em⟩:∃m,ms[i]=m:=⟨_,rfl⟩;rw[em]at ix hm9 ho;have hsu:=fun G=>PX m hm9 G
   have hst:=fun G=>NG j m hj hm9 G
   simp only[aR]at ix hsu hst r3;simp only[go_sem,r6,r8,ix];refine(hsu _).pthen ?_;cases d1:zV m
   ·rw[if_pos d1]at ho
    simp only[go_sem];exact .same (.refl _) ⟨by rw[←ho];rfl,rfl⟩
   ·rw[if_neg ad4]at ho
    simp only[go_sem,r3];refine(hst _).pthen ?_;simp only[go_sem,r8,w1];refine⟨_,?_,rfl,i+1,wZ j m,ad3,rfl,M9.step hj hm9,ho,?_,?_,?_,?_⟩
    ·omega
    all_goals simp only[go_sem,r6,r7,aR]
  ·have hge:i=ms.length:=by grind
   subst hge;rw[List.drop_length]at ho;simp only[go_sem,r3];exact .same (.refl _) ⟨by rw[←ho];rfl,rfl⟩
theorem BV(ms:List aU)(hl:ms.length≤1000000000)(hmm:∀m∈ms,M9 m)(a b:aU)(hb:M9 b)(p:Perm)(h:Heap):ai prog 284 [kj ms p,aR a,aR b] h fun r h' =>r=aR (if b∈ms then b else a)∧h' =h:=by
 refine ad2 func284 12 [.tmp 6] fun hwf=>?_
 simp only[go_sem];refine(Gg ms hl hmm b hb p _).pthen ?_
 by_cases d:b∈ms
 ·simp only[go_sem,decide_eq_true d,if_pos d]
  exact aeh
 ·simp only[go_sem,decide_eq_false d,if_neg d]
  exact aeh
theorem Ry(alg:Int)(ha:1≤alg∧alg≤6)(ms:List aU)(hl:ms.length≤1000000000)(hmm:∀m∈ms,M6 m)(p:Perm)(h:Heap):ai prog 251 [.i alg,kj ms p] h fun r h' =>r= .tup [aR (iC alg ms),.i 0]∧h' =h:=by
 have hm9:=fun m h=>(hmm m h).m9
 refine ad2 func251 49 [.tmp 4,.tmp 5] fun hwf=>?_
 simp only[go_sem,kj,adT];refine .intro (fun m ρ h' =>h' =h∧∃i:Nat,i≤ms.length∧m=ms.length - i∧M9 ((ms.take i).foldl oT naM)∧lk ρ 0=some (.i alg)∧lk ρ 1=some (.sl (ms.map aR) p)∧lk ρ 6=some (aR ((ms.take i).foldl oT naM))∧lk ρ 9=some (.sl (ms.map aR) p)∧lk ρ 10=some (.i ms.length)∧lk ρ 11=some (.i i)) ms.length ?_ ?_
 ·refine⟨rfl,0,ad3,rfl,.na,?_,?_,?_,?_,?_,?_⟩<;>simp only[go_sem,aR,naM,hbit,List.take_zero,List.foldl_nil]
 ·rintro m ρ h' ⟨rfl,i,hi,rfl,hj,r0,r1,r6,r9,r10,r11⟩
  obtain⟨j,ej⟩:∃j,(ms.take i).foldl oT naM=j:=⟨_,rfl⟩;rw[ej]at hj r6;simp only[go_sem,r10,r11];refine .intro (fun e=>?_) (fun e=>?_)
  ·have hlt:i<ms.length:=ad0 e
   have w1:IntKind.i64.wrap ((i:Int)+1)=((i+1:Nat):Int):=aeg;have ix:=fun k=>fC.eq (xs:=ms.map aR) (sz:=1) i ad4 aec k
   rw[adU]at ix;have hm6:=hmm ms[i] (adY hlt);have hsn:=Cy ms i hlt;rw[ej]at hsn;obtain⟨m,em⟩:∃m,ms[i]=m:=⟨_,rfl⟩;rw[em]at ix hm6 hsn;have hri:=fun G=>CC m hm6 G
   have hjo:=fun G=>O6 j m hj hm6.m9 G
   simp only[aR]at ix hri hjo r6;simp only[go_sem,r9,r11,ix];refine(hri _).pthen ?_;simp only[go_sem,r6];refine(hjo _).pthen ?_;simp only[go_sem,r11,w1];refine⟨_,?_,rfl,i+1,ad3,rfl,by grind [M9.join],?_,?_,?_,?_,?_,?_⟩
   ·omega
   all_goals simp only[go_sem,r0,r1,r9,r10,aR,hsn]
  ·have hge:i=ms.length:=by grind
   subst hge;rw[List.take_length]at ej;have ej' :xL ms=j:=ej;have hov:=fun G=>Iu j hj G
   have htu:=fun(x:aU) (G:Heap)=>P0 x G
   have hov2:=fun G=>Iu (Fg j) ⟨hj.2,hj.1⟩ G
   have h1:=Md ms hl hm9 p;have h2:=Pw ms hl hm9 p;have h3:=BV ms hl hm9 cM bp ad6 p;have h4:=BV ms hl hm9 bp cM ad6 p;simp only[kj]at h1 h2 h3 h4;rcases(show alg=1∨alg=2∨alg=3∨alg=4∨alg=5∨alg=6 by omega)with rfl|rfl|rfl|rfl|rfl|rfl
   ·simp only[go_sem,r0,r6]
    refine(hov _).pthen ?_;simp only[go_sem];exact .same (.refl _) ⟨by simp only[iC,ej',if_true];rfl,rfl⟩
   ·simp only[go_sem,r0,r6]
    refine(htu _ _).pthen ?_;simp only[go_sem];refine(hov2 _).pthen ?_;simp only[go_sem];refine(htu _ _).pthen ?_;simp only[go_sem];exact .same (.refl _) ⟨by simp only[iC,ej'];rfl,rfl⟩
   ·simp only[go_sem,r0,r1]
    refine(h1 _).pthen ?_;exact aiE
   ·simp only[go_sem,r0,r1]
    refine(h2 _).pthen ?_;exact aiE
   ·simp only[go_sem,r0,r1]
    refine(h3 _).pthen ?_;exact aj0
   ·simp only[go_sem,r0,r1]
    refine(h4 _).pthen ?_;exact aj0
end Go.Proofs.YtokahfmoollblaaGreatDoor
