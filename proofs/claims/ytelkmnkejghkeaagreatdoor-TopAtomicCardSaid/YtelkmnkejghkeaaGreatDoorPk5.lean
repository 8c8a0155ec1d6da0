/- The law TopAtomic: pack 5 of its texts. -/
import Derived.WalkKit
import Derived.Lib.Walk
import Derived.Lib.SliceRun
import Derived.Lib.AppendZerosOnto
import Derived.Test.YtelkmnkejghkeaaGreatDoorPk1
import Derived.Test.YtelkmnkejghkeaaGreatDoorPk2
import Derived.Test.YtelkmnkejghkeaaGreatDoorPk3
import Derived.Test.YtelkmnkejghkeaaGreatDoorPk4
set_option linter.unusedSimpArgs false
set_option linter.unusedVariables false
set_option maxRecDepth 100000
namespace Go.Bf
open Go Go.Ab
variable {n:Nat}{st a:PS}{s:Txt}{ts:List qO}
def Fine(n:Nat)(st:PS):Prop:=(st.bad=0∨st.bad=5∨st.bad=6)∧0≤st.place∧st.place≤n
def CB(n:Nat)(ts:List qO):Prop:=∀i,0≤(ts.getD i ⟨7,0,0,[]⟩).pos∧(ts.getD i ⟨7,0,0,[]⟩).pos≤n
theorem zh{e p:Int}(h:Fine n st)(he:e=5∨e=6)(h0:0≤p)(h1:p≤n):Fine n (bJ st e p):=by
 unfold bJ;split
 ·exact⟨.inr he,h0,h1⟩
 omega
theorem Ep{b:PS}(h:Rch a b)(ht:CB n a.ts)(hf:Fine n a):Fine n b:=by
 induction h with
 |refl=>omega
 |wrong e p h1 he hp ih=>obtain⟨i,_,rfl⟩:=hp;rw[(sE h1).1];exact zh ih he (ht i).1 (ht i).2
 |next _ _ _ ih=>exact ih
theorem Jz{b:PS}(h:oL a b):b.ts=a.ts:=by
 induction h with
 |refl=>rfl
 |small _ h1 ih=>grind [sE,trans]
 |rule _ _ _ _ ih=>exact ih
theorem Ku{b:PS}(h:oL a b)(ht:CB n a.ts)(hf:Fine n a):Fine n b:=by
 induction h with
 |refl=>omega
 |small h1 h2 ih=>grind [Ep,Jz]
 |rule _ _ _ _ ih=>exact ih
theorem zq(h:qg s= .ok ts):CB s.length ts:=by
 obtain⟨pre,rfl,_,h3,_⟩:=BR h;intro i
 grind
theorem Nq(h:qg s= .ok ts):Fine s.length (qQ s (gZ 4 ⟨ts,0,0,0,0⟩)):=by
 have h0:Fine s.length ⟨ts,0,0,0,0⟩:=⟨.inl rfl,Int.le_refl _,afB⟩;have hr:=Dq 4 ⟨ts,0,0,0,0⟩;have h1:=Ku hr (zq h) h0;have ht:CB s.length (gZ 4 ⟨ts,0,0,0,0⟩).2.ts:=by rw[Jz hr];exact zq h
 have h2:Fine s.length (if(aN (gZ 4 ⟨ts,0,0,0,0⟩).2).kind=7 then(gZ 4 ⟨ts,0,0,0,0⟩).2 else br (gZ 4 ⟨ts,0,0,0,0⟩).2):=by grind [Ep,lD]
 unfold qQ;generalize (if(aN (gZ 4 ⟨ts,0,0,0,0⟩).2).kind=7 then(gZ 4 ⟨ts,0,0,0,0⟩).2 else br (gZ 4 ⟨ts,0,0,0,0⟩).2)=st1 at h2⊢
 split
 ·exact zh h2 (.inl rfl) afu (Int.le_refl _)
 ·exact ajE
theorem rR(s:Txt):(aS s).2.1=0∧(aS s).2.2=0∧gV (aS s).1=0∨
  ((aS s).2.1=5∨(aS s).2.1=6)∧0≤(aS s).2.2∧(aS s).2.2≤s.length∧(aS s).1=pO:=by
 unfold aS;cases h:qg s with
 |bad e a=>have:=uC h;exact .inr ⟨this.1,this.2.1,this.2.2,rfl⟩
 |ok ts=>
  have hf:=Nq h;simp only[zW];split
  ·rename_i hb
   refine .inl ⟨rfl,rfl,?_⟩;simp only;unfold qQ at hb;generalize (if(aN (gZ 4 ⟨ts,0,0,0,0⟩).2).kind=7 then(gZ 4 ⟨ts,0,0,0,0⟩).2 else br (gZ 4 ⟨ts,0,0,0,0⟩).2)=st1 at hb
   split at hb
   ·simp_all [bJ,if_pos,absurd,Int]
   omega
  ·rename_i hb
   exact .inr ⟨hf.1.resolve_left hb,hf.2.1,hf.2.2,rfl⟩
end Go.Bf
namespace Go.Bf
open Go Go.Ab Go.Proofs.YtelkmnkejghkeaaGreatDoor
variable {k:Nat}{s:an}{o:OpD}{cs:List aL}
theorem rX{p:bC}(h:gV p=0):mU 1 p:=by
 cases hw:lC ⟨[],0⟩ 1 p with
 |bad e=>have:=uW 4 1 _ _ e rfl hw;rw[gV,hw]at h;exact(this h).elim
 |ok m=>grind [Jt]
theorem S9{fs:List cK}(h:∀f∈fs,eqV f.val aq=false)(n:Txt):(fs.any fun f=>f.name==n)= !(eqV (dZ fs n) aq):=by
 induction fs with
 |nil=>rfl
 |cons f fs ih=>
  rw[GM,List.any_cons]
  grind
structure vn (c:aL):Prop where
 id:bp c.id=true
 owner:bp c.owner=true
 state:c.state∈qA
 asc:F8 c.fields
 nfields:c.fields.length≤16
 field:∀f∈c.fields,bp f.name=true∧bz f.val=true∧eqV f.val aq=false
 log1:1≤c.log.length
 log2:c.log.length≤256
 actor:∀x∈c.log,bp x.actor=true∧i64 x.tick
structure dP (k:Nat) (s:an):Prop where
 tick:0≤s.tick∧s.tick≤1099511627776
 asc:Asc s.cases
 ncases:s.cases.length≤64
 case:∀c∈s.cases,vn c
 nrev:s.reviews.length≤1000
 nnot:s.notices.length≤1000
 roles:s.roles.length≤64
 role:∀r∈s.roles,bp r.subj=true∧bp r.role=true
 pol:gV s.policy=0
 ver:0≤s.version∧s.version≤k
theorem dP.few(h:dP k s):Few s:=by
 have h1:=h.ncases;have h2:=h.nrev;have h3:=h.nnot;have h4:=h.roles;refine⟨afu,fun c hc=>?_,fun c hc=>?_,afu,afu,afu⟩
 ·have:=(h.case c hc).nfields;omega
 ·have:=(h.case c hc).log2;omega
theorem dP.mU(h:dP k s):mU 1 s.policy:=rX h.pol
theorem dP.Io(h:dP k s):i64 s.tick:=by have:=h.tick;constructor<;>omega
theorem LW:dP 0 xX:=by refine⟨afy,.nil,afy,fun c h=>agp,afy,afy,afy,fun r h=>agp,afJ,afy⟩
theorem lp{s:Txt}(h:jr s=true)(hn:s≠ []):bp s=true:=by simp_all [jr,Bool.or_eq_true,beq_iff_eq]
structure SO (o:OpD):Prop where
 subj:bp o.subj=true
 kind:1≤o.kind∧o.kind≤8
 case:jr o.case=true
 field:jr o.field=true
 to:jr o.to=true
 val:eqV o.val aq=true∨bz o.val=true
 text:o.text.length≤4096
 ok:okD o=true
theorem uv(h:dK o=true):SO o:=by simp only[dK,Bool.and_eq_true,decide_eq_true_eq,Bool.or_eq_true,ew]at h;obtain⟨⟨⟨⟨⟨⟨⟨h1,h2⟩,h3⟩,h4⟩,h5⟩,h6⟩,h7⟩,⟨⟨h8,h9⟩,h10⟩,h11⟩:=h;exact⟨h1,⟨h8,h9⟩,h4,h5,h6,h7,h3,h10⟩
theorem zj{a b:Txt}(h:nH a b=true):b∈qA:=by
 unfold nH at h;simp only[qA,List.mem_cons,List.not_mem_nil,or_false]
 grind
theorem mem_modify{α:Type}{l:List α}{i:Nat}{f:α→α}{x:α}(h:x∈l.modify i f):x∈l∨∃hi:i<l.length,x=f l[i]:=by
 obtain⟨j,hj,rfl⟩:=List.mem_iff_getElem.1 h
 grind
theorem lu{α β:Type}{l:List α}{i:Nat}{f:α→α}{g:α→β}(h:∀x,g (f x)=g x):(l.modify i f).map g=l.map g:=by
 refine List.ext_getElem afB fun j h1 h2=>?_
 grind
theorem CN{cs':List aL}(h:cs'.map (·.id)=cs.map (·.id))(ha:Asc cs):Asc cs' :=by
 unfold Asc at*;have h1:(cs.map (·.id)).Pairwise lt:=afv
 rw[←h,List.pairwise_map]at h1;exact h1
theorem QW{i:Nat}{c d:aL}(h:d∈cs.take i++ [c]++cs.drop i):d=c∨d∈cs:=by grind
theorem O1(hs:dP k s)(hr:bL s o=0):dP (k+1) (doD aS s o):=by
 have hf:dK o=true:=by
  unfold bL at hr
  grind
 have F:=uv hf;have vk:0≤s.version∧s.version≤((k+1:Nat):Int):=⟨hs.ver.1,by have:=hs.ver.2;omega⟩
 unfold bL at hr;rw[hf]at hr;simp only[Bool.true_eq_false,if_false]at hr;have hok:=F.ok;unfold okD at hok;have t64:=hs.Io;unfold doD
 by_cases k1:o.kind=1
 ·simp only[k1,if_true]at hr hok⊢
  have hno:ck s.cases o.case=false:=by grind
  rw[hno]at hr;simp only[Bool.false_eq_true,if_false]at hr;have hlt:¬64≤s.cases.length:=fun h=>ajo
  have hc:bp o.case=true:=lp F.case afv;rw[wA hs.asc]at hno;refine {hs with asc:= ?_,ncases:= ?_,case:= ?_,ver:=vk}
  ·exact IG hs.asc (jL s ⟨o.case,o.subj,jY,[],[]⟩ o.subj [110,101,119]) hno
  ·grind
  ·intro c h
   rcases QW h with rfl|h
   ·exact⟨hc,F.subj,by simp[jL,qA],.nil,ajG,fun f h=>agp,ajG,ajG,fun x h=>by simp only[jL,List.nil_append,List.mem_singleton]at h;subst h;exact⟨F.subj,t64⟩⟩
   ·exact hs.case c h
 ·simp only[k1,if_false]at hr hok⊢
  by_cases k3:o.kind=3
  ·have hk:2≤o.kind∧o.kind≤4:=by omega
   simp only[hk,and_self,if_true]at hr;simp only[k3,if_true];have e2:¬(o.kind=2∨o.kind=6):=afu;simp only[k3,if_true,show¬((3:Int)=2∨(3:Int)=6) by decide,if_false,Bool.and_eq_true,Bool.not_eq_true']at hok
   have hth:ck s.cases o.case=true:=by
    unfold bY at hr
    grind
   unfold bY at hr;rw[hth]at hr;simp only[Bool.true_eq_false,if_false,k3,true_and]at hr;obtain⟨hm,hid⟩:=rm hs.asc hth;have hlt:=j0 hth;have hce:bw s.cases o.case=s.cases[findD s.cases o.case]:=by simp_all [bw,if_pos]
   rw[hce]at hr hm;generalize hcc:s.cases[findD s.cases o.case]=c at hr hm;have hc:=hs.case c hm;have h16:¬(c.fields.length≥16∧eqV (dZ c.fields o.field) aq=true):=fun h=>by simp[h.1,h.2]at hr
   rw[if_neg h16]at hr;have hlg:¬c.log.length≥256:=fun h=>ajo
   have hnf:bp o.field=true:=lp F.field afv;have hvz:eqV o.val aq=false:=hok.2;have hv:bz o.val=true:=F.val.resolve_left afv;refine {hs with asc:= ?_,ncases:= ?_,case:= ?_,ver:=vk}
   ·exact CN (lu fun x=>rfl) hs.asc
   ·simpa using hs.ncases
   ·intro d hd
    rcases mem_modify hd with hd|⟨hi,rfl⟩
    ·exact hs.case d hd
    ·rw[hcc]
     have hany:=S9 (fun f hf=>(hc.field f hf).2.2) o.field
     have hlen:=Cz (v:=o.val) (name:=o.field) hc.asc;refine⟨hc.id,hc.owner,hc.state,Cy hc.asc,?_,?_,ajG,?_,?_⟩
     ·simp only[jL]
      rw[hlen,hany];have:=hc.nfields;cases he:eqV (dZ c.fields o.field) aq
      ·simp;omega
      ·rw[he]at h16;simp at h16⊢;omega
     ·intro f hf
      rcases wE hf with rfl|hf
      ·grind
      ·exact hc.field f hf
     ·grind [jL,afn,List.length_singleton]
     ·intro x hx
      exact akX
  ·simp only[k3,if_false]at hok⊢
   by_cases k4:o.kind=4
   ·have hk:2≤o.kind∧o.kind≤4:=by omega
    simp only[hk,and_self,if_true]at hr;simp only[k4,if_true];have hth:ck s.cases o.case=true:=by
     unfold bY at hr
     grind
    unfold bY at hr;rw[hth]at hr;simp only[Bool.true_eq_false,if_false,k4]at hr;obtain⟨hm,hid⟩:=rm hs.asc hth;have hlt:=j0 hth;have hce:bw s.cases o.case=s.cases[findD s.cases o.case]:=by simp_all [bw,if_pos]
    rw[hce]at hr hm;generalize hcc:s.cases[findD s.cases o.case]=c at hr hm;have hc:=hs.case c hm;simp only[show¬((4:Int)=3) by decide,false_and,if_false,show((4:Int)≠2) by decide,ne_eq,not_false_eq_true,true_and,false_or]at hr
    have hlg:¬c.log.length≥256:=fun h=>ajo
    rw[if_neg hlg]at hr;have hfo:nH c.state o.to=true:=by grind
    refine {hs with asc:= ?_,ncases:= ?_,case:= ?_,ver:=vk}
    ·exact CN (lu fun x=>rfl) hs.asc
    ·simpa using hs.ncases
    ·intro d hd
     rcases mem_modify hd with hd|⟨hi,rfl⟩
     ·exact hs.case d hd
     ·rw[hcc]
      refine⟨hc.id,hc.owner,zj hfo,hc.asc,hc.nfields,hc.field,ajG,?_,?_⟩
      ·grind [jL,afn,List.length_singleton]
      ·intro x hx
       exact akX
   ·simp only[k4,if_false]at hok⊢
    by_cases k5:o.kind=5
    ·simp only[k5,if_true]
     refine {hs with nrev:= ?_,ver:=vk}
     simpa using hs.nrev
    ·simp only[k5,if_false]at hok⊢
     by_cases k6:o.kind=6
     ·have hk:¬(2≤o.kind∧o.kind≤4):=by omega
      simp only[k6,if_true]at hr;simp only[k6,if_true];simp only[k6,or_true,if_true,Bool.and_eq_true]at hok;have hc:bp o.case=true:=lp F.case afv;have hfd:bp o.field=true:=lp F.field afv;cases hh:zn s.roles ⟨o.case,o.field⟩with
      |true=>simp only[if_true];exact {hs with ver:=vk}
      |false=>
       rw[hh]at hr;have hlt:¬s.roles.length≥64:=fun h=>ajo
       simp only[Bool.false_eq_true,if_false];refine {hs with roles:= ?_,role:= ?_,ver:=vk}
       ·grind
       ·intro r h
        rcases List.mem_append.1 h with h|h
        ·exact hs.role r h
        grind
     ·simp only[k6,if_false]
      by_cases k7:o.kind=7
      ·simp only[k7,if_true]
       by_cases hp:(aS o.text).2.1=0
       ·simp only[hp,if_true]
        have hr0:gV (aS o.text).1=0:=by grind [rR,absurd]
        refine {hs with pol:=hr0,ver:= ?_}
        have:=hs.ver;constructor
        ·grind
        grind
       ·simp only[hp,if_false]
        exact {hs with ver:=vk}
      ·simp only[k7,if_false]
       by_cases k8:o.kind=8
       ·simp only[k8,if_true]
        have hk:¬(2≤o.kind∧o.kind≤4):=afu;simp only[k8,if_true]at hr;have hlt:¬s.tick>1099511627776 - o.review:=fun h=>ajo
        simp only[k8,show¬((8:Int)=2∨(8:Int)=6) by decide,if_false,if_true,Bool.and_eq_true,decide_eq_true_eq]at hok
        refine {hs with tick:= ?_,ver:=vk}
        have:=hs.tick;constructor
        ·grind
        grind
       ·simp only[k8,if_false]
        exact {hs with ver:=vk}
theorem qB(o:OpD)(hs:dP k s):dP (k+1) (dX aS s o):=by
 unfold dX
 by_cases h:bL s o=0
 ·simp_all [if_pos,O1]
 ·rw[if_neg h]
  exact {hs with ver:=⟨hs.ver.1,by have:=hs.ver.2;omega⟩}
def lJ(a b:aL):Bool:=a.id==b.id && (a.owner==b.owner && (a.state==b.state && (eqL jw a.fields b.fields && eqL oN a.log b.log)))
theorem fF.eq{xs:List AV}{sz:Nat}(j:Nat)(hj:j<xs.length)(hz:xs[j].cells.length=sz)(k:AV→Prop):fF xs (j:Int) sz k=k (.pe xs[j] 0):=propext ⟨fun h=>by
 obtain⟨_,b,hb,_,hk⟩:=h;have:xs[j]? =some xs[j]:=afB;rw[show((j:Int).toNat)=j by simp,this]at hb
 cases hb;exact hk,fun h=>fF.at j hj hz h⟩
end Go.Bf
namespace Go.Proofs.YtelkmnkejghkeaaGreatDoor
open Go Go.Ab Go.Bf Tryz
def CRow(x:AV)(c:aL):Prop:=∃qf ql,x= .agg [.s c.id,.s c.owner,.s c.state,.sl (c.fields.map bA) qf,.sl (c.log.map gC) ql]
def CRows(xs:List AV)(cs:List aL):Prop:=xs.length=cs.length∧∀i (h1:i<xs.length) (h2:i<cs.length),CRow xs[i] cs[i]
theorem crows(cs:List aL):CRows (cs.map cr) cs:=⟨afB,fun i h1 h2=>by rw[afk];exact⟨_,_,rfl⟩⟩
theorem MQ{xs ys:List AV}{cs ds:List aL}(h1:CRows xs cs)(h2:CRows ys ds)(q1 q2:Perm)(h:Heap):ai prog 58 [.sl xs q1,.sl ys q2] h fun r h' =>r= .b (eqL lJ cs ds)∧h' =h:=by
 refine aw func58 82 [.tmp 4] ?_
 cases d1:((xs.length:Int) !=(ys.length:Int))
 ·have e1:xs.length=ys.length:=by grind
  have e2:cs.length=ds.length:=by rw[←h1.1,←h2.1,e1]
  simp only[go_sem,d1];refine tW.wf fun hw=>?_
  have hxl:=hw 11 (.sl xs q1) afJ;simp only[wfA,wf1,lim]at hxl;refine .intro (fun m ρ h' =>h' =h∧∃i:Nat,i≤xs.length∧m=xs.length - i∧(∀j (a:j<cs.length) (b:j<ds.length),j<i→lJ cs[j] ds[j]=true)∧lk ρ 0=some (.sl xs q1)∧lk ρ 1=some (.sl ys q2)∧lk ρ 12=some (.i xs.length)∧lk ρ 13=some (.i i)) xs.length ?_ ?_
  ·refine⟨rfl,0,afu,rfl,fun j _ _ hj=>afu,?_,?_,?_,?_⟩<;>simp only[go_sem]
  ·rintro m ρ h' ⟨rfl,i,hi,rfl,hc,r0,r1,r12,r13⟩
   cases e3:decide ((i:Int)<(xs.length:Int))
   ·have hge:i=xs.length:=by grind
    simp only[go_sem,r12,r13,e3];exact .same (.refl _) ⟨by rw[di e2 fun j a b=>hc j a b (by rw[hge,h1.1];exact a)];rfl,rfl⟩
   ·have hlt:i<xs.length:=afq e3
    have hlt2:i<ys.length:=afu;have hlt3:i<cs.length:=by rw[←h1.1];omega
    have hlt4:i<ds.length:=afu;have w1:IntKind.i64.wrap ((i:Int)+1)=((i+1:Nat):Int):=afG;obtain⟨qf,ql,ex⟩:=h1.2 i hlt hlt3;obtain⟨qf',ql',ey⟩:=h2.2 i hlt2 hlt4;have ix:=fun k=>fF.eq (sz:=5) i hlt (by rw[ex];rfl) k
    have iy:=fun k=>fF.eq (sz:=5) i hlt2 ai0 k
    rw[ex]at ix;rw[ey]at iy;have hno:lJ cs[i] ds[i]=false→eqL lJ cs ds=false:=fun e=>jJ i hlt3 hlt4 e
    have hdef:lJ cs[i] ds[i]=(cs[i].id==ds[i].id && (cs[i].owner==ds[i].owner && (cs[i].state==ds[i].state && (eqL jw cs[i].fields ds[i].fields && eqL oN cs[i].log ds[i].log)))):=rfl;have hst:=hc;obtain⟨c,ec⟩:∃c,cs[i]=c:=⟨_,rfl⟩;obtain⟨d,ed⟩:∃d,ds[i]=d:=⟨_,rfl⟩;rw[ec,ed]at hdef hno;rw[ec]at ix;rw[ed]at iy;simp only[go_sem,r12,r13,e3];simp only[List.append];simp only[go_sem];refine .quiet afx ?_;simp only[go_sem,r0,r1,ix,iy,and_self];cases a1:(c.id==d.id)
    case false=>exact akc
    simp only[go_sem,r0,r1,ix,iy,and_self];cases a2:(c.owner==d.owner)
    case false=>exact akc
    simp only[go_sem,r0,r1,ix,iy,and_self];cases a3:(c.state==d.state)
    case false=>exact akc
    simp only[go_sem,r0,r1,ix,iy,and_self];refine⟨_,Ds c.fields d.fields qf qf' _,?_⟩;cases a4:eqL jw c.fields d.fields
    ·exact akc
    simp only[go_sem,r0,r1,ix,iy,and_self];refine⟨_,HU c.log d.log ql ql' _,?_⟩;cases a5:eqL oN c.log d.log
    ·exact akc
    simp only[go_sem,r13,w1];refine⟨_,?_,rfl,i+1,afu,rfl,fun j a b hj=>?_,?_,?_,?_,?_⟩
    ·omega
    ·grind
    all_goals simp only[go_sem,r0,r1,r12]
 ·have e2:cs.length≠ds.length:=by
   rw[←h1.1,←h2.1]
   grind
  simp only[go_sem,d1];exact .same (.refl _) ⟨by rw[iH e2];rfl,rfl⟩
end Go.Proofs.YtelkmnkejghkeaaGreatDoor
namespace Go.Bf
open Go Go.Ab Go.Proofs.YtelkmnkejghkeaaGreatDoor
def Bn(l:List bu):Prop:=l.length≤16∧∀v∈l,bz v=true∧∀w∈l.head?,v.kind=w.kind
structure RT (gs:List bt):Prop where
 len:gs.length≤64
 each:∀g∈gs,1≤g.cat∧g.cat≤4∧bp g.name=true∧Bn g.bag
 dist:gs.Pairwise fun a b=>jl b.cat b.name a=false
def xV(g:bt):Int×Txt:=(g.cat,g.name)
theorem M4(gs:List bt):(gs.Pairwise fun a b=>jl b.cat b.name a=false)↔(gs.map xV).Nodup:=by simp[List.Nodup,List.pairwise_map,bt,jl,false,xV]
theorem jF{v:bu}(h:bz v=true):Bn [v]:=⟨afB,fun w hw=>afv⟩
theorem qe{s:Txt}(h:bp s=true):bz (idV s)=true:=by grind [bz,idV]
theorem J0{l:List gL}(h:∀r∈l,bp r.role=true)(s:Txt):Bn (dJ l s):=by
 have hv:∀v∈dJ l s,bz v=true∧v.kind=5:=fun v hv=>by have:=List.mem_of_mem_take hv;obtain⟨r,hr,rfl⟩:=List.mem_map.1 this;exact⟨qe afv,rfl⟩
 refine⟨by grind [dJ,List.length_take],fun v hm=>⟨(hv v hm).1,fun w hw=>?_⟩⟩
 grind
theorem MR{c:UInt8}{i j:Nat}(h:ue c j=true)(hi:i≠0):ue c i=true:=by
 simp only[ue,Bool.or_eq_true,Bool.and_eq_true,decide_eq_true_eq]at h⊢
 grind
theorem GN{n:Txt}(h:bp n=true)(hl:n.length≤14):bp ([102,95]++n)=true:=by
 simp only[bp,Bool.and_eq_true,decide_eq_true_eq]at h⊢;obtain⟨⟨h1,h2⟩,h3⟩:=h;refine⟨⟨?_,afB⟩,afv⟩;unfold wM at h1⊢;rw[List.all_eq_true]at h1⊢
 rintro⟨c,i⟩ hp
 rw[List.mk_mem_zipIdx_iff_getElem?]at hp
 match i,hp with
 |0,hp=>cases hp;rfl
 |1,hp=>cases hp;rfl
 |i+2,hp=>exact MR (h1 (c,i) (List.mk_mem_zipIdx_iff_getElem?.2 hp)) afu
theorem Ij{s:Txt}(h:s∈qA):bp s=true:=by simp only[qA,List.mem_cons,List.not_mem_nil,or_false]at h;rcases h with rfl|rfl|rfl|rfl<;>kernel_rfl
theorem DL(k:Int)(h:1≤k∧k≤8):bp (jc k)=true:=by
 have:(List.range 9).all (fun n=>bp (jc n))=true:=afJ
 have h2:=List.all_eq_true.1 this k.toNat afv
 rwa [show((k.toNat:Nat):Int)=k by omega]at h2
theorem O8(l:List vo)(s:Txt):bz (vh l s)=true:=by unfold vh;cases l.any fun x=>x.actor==s<;>rfl
theorem J6{c:aL}(hc:vn c)(s:Txt):∀g∈cI c s,g.cat=3∧bp g.name=true∧Bn g.bag:=by
 intro g hg;simp only[cI,List.mem_append,List.mem_cons,List.not_mem_nil,or_false]at hg;rcases hg with((rfl|rfl|rfl|rfl|rfl)|hg)|hg
 ·exact⟨rfl,afJ,jF (qe hc.id)⟩
 ·exact⟨rfl,afJ,jF (qe hc.owner)⟩
 ·exact⟨rfl,afJ,jF (qe (Ij hc.state))⟩
 ·exact⟨rfl,afJ,jF afJ⟩
 ·exact⟨rfl,afJ,jF (O8 _ _)⟩
 ·cases hl:c.log.getLast? with
  |none=>grind
  |some x=>rw[hl]at hg;rw[List.mem_singleton.1 hg];exact⟨rfl,afJ,jF (qe (hc.actor x (List.mem_of_getLast? hl)).1)⟩
 ·obtain⟨f,hf,rfl⟩:=List.mem_map.1 hg
  obtain⟨hf1,hf2⟩:=List.mem_filter.1 hf;have hf2:f.name.length≤14:=afv;obtain⟨h1,h2,_⟩:=hc.field f hf1;exact⟨rfl,GN h1 hf2,jF h2⟩
theorem J5{c:aL}(hc:vn c)(s:Txt):((cI c s).map xV).Nodup:=by
 have hfn:(((c.fields.filter fun f=>decide (f.name.length≤14)).map fun f=>(⟨3,[102,95]++f.name,[f.val]⟩:bt)).map xV).Nodup:=by
  rw[List.map_map,List.Nodup,List.pairwise_map];refine((List.Pairwise.filter _ hc.asc).imp fun {a b} hab he=>?_)
  simp_all [Function.comp,xV,Prod.mk.injEq,true_and,List.append_cancel_left_eq,lt_irrefl]
 have hff:∀x∈((c.fields.filter fun f=>decide (f.name.length≤14)).map fun f=>(⟨3,[102,95]++f.name,[f.val]⟩:bt)).map xV,∃t,x=(3,102::t):=by intro x hx;obtain⟨g,hg,rfl⟩:=List.mem_map.1 hx;obtain⟨f,hf,rfl⟩:=List.mem_map.1 hg;exact⟨_,rfl⟩
 unfold cI;rw[List.map_append,List.nodup_append];refine⟨?_,hfn,?_⟩
 ·cases c.log.getLast? with
  |none=>simp[xV,idT]
  |some x=>simp[xV,idT]
 ·intro a ha b hb
  obtain⟨t,rfl⟩:=hff b hb;intro e;cases hl:c.log.getLast? with
  |none=>simp_all [xV,idT]
  |some x=>simp_all [xV,idT]
theorem JZ{k:Nat}{s:an}{o:OpD}(hs:dP k s)(hf:dK o=true):RT (fS s o):=by
 have F:=uv hf;have hcs:∀g∈(if ck s.cases o.case=true∧o.kind≠6 then cI (bw s.cases o.case) o.subj else []),g.cat=3∧bp g.name=true∧Bn g.bag:=by
  intro g hg;split at hg
  ·rename_i ht
   exact J6 (hs.case _ (rm hs.asc ht.1).1) _ g hg
  ·cases hg
 have hcd:((if ck s.cases o.case=true∧o.kind≠6 then cI (bw s.cases o.case) o.subj else []).map xV).Nodup:=by
  split
  ·rename_i ht
   exact J5 (hs.case _ (rm hs.asc ht.1).1) _
  ·exact .nil
 have hcl:(if ck s.cases o.case=true∧o.kind≠6 then cI (bw s.cases o.case) o.subj else []).length≤22:=by
  split
  ·rename_i ht
   have hc:=hs.case _ (rm hs.asc ht.1).1;have h16:=hc.nfields;have:((bw s.cases o.case).fields.filter fun f=>decide (f.name.length≤14)).length≤(bw s.cases o.case).fields.length:=List.length_filter_le _ _
   simp only[cI,afn,afj,List.length_cons,List.length_nil];cases (bw s.cases o.case).log.getLast? <;>simp<;>omega
  ·simp
 unfold fS;generalize (if ck s.cases o.case=true∧o.kind≠6 then cI (bw s.cases o.case) o.subj else [])=C at hcs hcd hcl⊢
 have e1:(if o.field= []then []else [(⟨2,[102,105,101,108,100],[idV o.field]⟩:bt)])=if o.field= []then []else [(⟨2,[102,105,101,108,100],[idV o.field]⟩:bt)]:=rfl
 have hro:Bn (dJ s.roles o.subj):=J0 (fun r hr=>(hs.role r hr).2) _
 have htk:bz ⟨4,s.tick,[]⟩=true:=by have:=hs.tick;simp[bz,this]
 have hac:=qe (DL o.kind F.kind);have hsu:=qe F.subj;refine⟨?_,?_,?_⟩
 ·by_cases p1:o.field= []<;>by_cases p2:o.to= []<;>simp[p1,p2]<;>omega
 ·intro g hg
  simp only[List.mem_append,List.mem_cons,List.not_mem_nil,or_false]at hg;rcases hg with((((rfl|rfl|rfl)|hg)|hg)|rfl)|hg
  ·exact⟨afB,afB,afx,jF hsu⟩
  ·exact⟨afB,afB,afx,hro⟩
  ·exact⟨afB,afB,afx,jF hac⟩
  ·split at hg
   ·cases hg
   ·rename_i hne
    rw[List.mem_singleton.1 hg];exact⟨afB,afB,afx,jF (qe (lp F.field hne))⟩
  ·split at hg
   ·cases hg
   ·rename_i hne
    rw[List.mem_singleton.1 hg];exact⟨afB,afB,afx,jF (qe (lp F.to hne))⟩
  ·exact⟨afB,afB,afx,jF htk⟩
  ·obtain⟨h1,h2,h3⟩:=hcs g hg
   exact⟨afu,afu,h2,h3⟩
 ·rw[M4,List.map_append,List.nodup_append]
  refine⟨?_,hcd,?_⟩
  ·by_cases p1:o.field= []<;>by_cases p2:o.to= []<;>simp[p1,p2,xV,idT]
  ·intro a ha b hb e
   subst e;obtain⟨g,hg,rfl⟩:=List.mem_map.1 hb;have h3:=(hcs g hg).1;have hne:∀x∈([⟨1,idT,[idV o.subj]⟩,⟨1,[114,111,108,101],dJ s.roles o.subj⟩,⟨2,[110,97,109,101],[idV (jc o.kind)]⟩]++(if o.field= []then []else [⟨2,[102,105,101,108,100],[idV o.field]⟩])++(if o.to= []then []else [⟨2,[116,111],[idV o.to]⟩])++ [⟨4,[110,111,119],[⟨4,s.tick,[]⟩]⟩]:List bt),x.cat≠3:=by
    intro x hx;simp only[List.mem_append,List.mem_cons,List.not_mem_nil,or_false]at hx;rcases hx with(((rfl|rfl|rfl)|hx)|hx)|rfl
    ·simp
    ·simp
    ·simp
    ·split at hx
     ·cases hx
     ·rw[List.mem_singleton.1 hx];simp
    ·split at hx
     ·cases hx
     ·rw[List.mem_singleton.1 hx];simp
    ·simp
   obtain⟨x,hx,he⟩:=List.mem_map.1 ha;have:x.cat=g.cat:=congrArg Prod.fst he;exact hne x hx (by rw[this,h3])
def sL:an→List AV
 |⟨tick,cs,rv,nt,ro,.mk pid set alg tgt rules kids obls,ver⟩=>[.i tick,fT cs,jZ rv,kM nt,eu ro,.s pid,.b set,.i alg,aU tgt,.sl (rules.map aC) .no,.sl (fl kids) .no,ay obls,.i ver]
theorem pL(s:an):bQ s= .agg (sL s):=by obtain⟨tick,cs,rv,nt,ro,⟨pid,set,alg,tgt,rules,kids,obls⟩,ver⟩:=s;rfl
theorem Ef(c:aL):lJ c c=true:=by
 have h1:eqL jw c.fields c.fields=true:=di rfl fun j _ _=>by simp[jw]
 have h2:eqL oN c.log c.log=true:=di rfl fun j _ _=>by simp[oN]
 simp[lJ,h1,h2]
theorem Gl(cs:List aL):eqL lJ cs cs=true:=di rfl fun j _ _=>Ef _
structure Stays (cs cs' :List aL) (id:Txt):Prop where
 len:cs'.length≤cs.length+1
 ids:∀c∈cs,∃d∈cs',d.id=c.id
 rest:∀c∈cs,c.id≠id→c∈cs'
abbrev aV:=Nat×Nat
def naM:aV:=(0,0)
def bf:aV:=(2,0)
def cJ:aV:=(0,2)
def xd:aV:=(1,0)
def xb:aV:=(0,1)
def nL:aV:=(1,1)
def vS:List aV:=[naM,bf,cJ,xd,xb,nL]
abbrev j9:=aV×List cE
def iq(m:aV):aV:=if m=bf then xd else if m=cJ then xb else m
def pz(a b:aV):aV:=(max a.1 b.1,max a.2 b.2)
def FX(m:aV):aV:=(m.2,m.1)
def rP(j:aV):aV:=
 if j.2=2 then cJ else if j.2=1∧1≤j.1 then nL else if j.2=1 then xb else if j.1=2 then bf else if j.1=1 then xd else naM
def yp(l:List aV):aV:=l.foldl pz naM
def firstM(l:List aV):aV:=(l.find? fun m=>decide (m≠naM)).getD naM
def Ax(m:aV):Bool:=decide (m=naM∨m=bf∨m=cJ)
def pJ:List aV→aV→aV
 | [],j=>j
 |m::r,j=>if Ax m=false then nL else pJ r (if j=naM then m else if m≠naM then nL else j)
def iG(alg:Int)(l:List aV):aV:=
 if alg=1 then rP (yp l)
 else if alg=2 then FX (rP (FX (yp l)))
 else if alg=3 then firstM l
 else if alg=4 then pJ l naM
 else if alg=5 then(if bf∈l then bf else cJ)
 else if alg=6 then(if cJ∈l then cJ else bf)
 else naM
def yQ(gs:List bt)(a:qU):List bu:=getD gs a.cat a.name
def ov(a b:bu):Option Bool:=
 if bz a=false∨bz b=false∨a.kind≠b.kind∨a.kind=1 then none
 else if a.kind=3∨a.kind=5 then some (Op.bytesLess a.s b.s)else some (decide (a.n<b.n))
def cZ(m:bO)(v:bu):Option Bool:=
 if m.op=1 then(if v.kind=m.val.kind then some (eqV v m.val)else none)
 else if m.op=2 then ov v m.val else ov m.val v
def kJ(gs:List bt)(m:bO):Nat:=
 if yQ gs m.attr= []∧m.attr.must=true then 1
 else if(yQ gs m.attr).any fun v=>cZ m v==some true then 2
 else if(yQ gs m.attr).any fun v=>cZ m v==none then 1 else 0
def DN(gs:List bt)(l:List bO):Nat:=l.foldl (fun a m=>min a (kJ gs m)) 2
def AS(gs:List bt)(l:List (List bO)):Nat:=l.foldl (fun a x=>max a (DN gs x)) 0
def nP(gs:List bt)(t:gu):Nat:=t.foldl (fun a x=>min a (AS gs x)) 2
structure jS where
 bag:List bu
 v:bu
 e:Int
def dV(b:Bool):bu:=⟨1,if b then 1 else 0,[]⟩
def js(b:Bool):jS:=⟨[],dV b,0⟩
def isI(x:jS)(n:Int):Bool:=x.e==0 && eqV x.v ⟨1,n,[]⟩
abbrev w64(n:Int):Int:=IntKind.i64.wrap n
def Mt(a b:Int):Bool:=decide (0<b) && decide (w64 (9223372036854775807 - b)<a)||decide (b<0) && decide (a<w64 (-9223372036854775808 - b))
def O2(a b:Int):Bool:=decide (0<b) && decide (a<w64 (-9223372036854775808+b))||decide (b<0) && decide (w64 (9223372036854775807+b)<a)
def Li(a b:Int):Bool:=a== -1 && b== -9223372036854775808||b== -1 && a== -9223372036854775808||a !=0 && w64 ((w64 (a*b)).tdiv a) !=b
def oO(e:Int):bu×Int:=(aq,e)
def A5(o:Bool)(n:Int):bu×Int:=if o then oO 3 else(⟨2,w64 n,[]⟩,0)
def iE(op:Int)(l:List bu):bu×Int:=
 if¬(6≤op∧op≤13)∨l.length≠(if op=11 then 1 else 2)∨(l.all bz)=false then oO 1
 else
  let a:=l.getD 0 aq;let b:=l.getD 1 aq
  if op=6 then(if a.kind=b.kind then(dV (eqV a b),0)else oO 2)
  else if op=7 then(match ov a b with
   |some x=>(dV x,0)
   |none=>oO 2)
  else if op=8∨op=9∨op=10 then
   (if l.all fun v=>v.kind==2 then(if op=8 then A5 (Mt a.n b.n) (a.n+b.n)else if op=9 then A5 (O2 a.n b.n) (a.n - b.n)else A5 (Li a.n b.n) (a.n*b.n))else oO 2)
  else if(l.all fun v=>v.kind==1)=false then oO 2
  else if op=11 then(dV (a.n==0),0)
  else if op=12 then(dV (a.n==1 && b.n==1),0)
  else(dV (a.n==1||b.n==1),0)
def opsOf(op:Int):Nat:=if op=1∨op=2 then 0 else if op=3∨op=4∨op=11 then 1 else 2
def Bl(r:bu×Int):jS:=⟨[],r.1,r.2⟩
def mb(gs:List bt)(n:aP)(l:List jS):jS:=
 if n.op=1 then⟨[],n.val,0⟩
 else if n.op=2 then(if yQ gs n.attr= []∧n.attr.must=true then⟨[],aq,4⟩else⟨yQ gs n.attr,aq,0⟩)
 else if(n.op=12∨n.op=13)∧(l.any fun x=>isI x (n.op - 12))=true then js (n.op==13)
 else match l.find? fun x=>x.e !=0 with
  |some x=>⟨[],aq,x.e⟩
  |none=>
   if n.op=3 then(match (l.headD ⟨[],aq,0⟩).bag with
    | [v]=>⟨[],v,0⟩
    |_=>⟨[],aq,4⟩)
   else if n.op=4 then⟨[],⟨2,(l.headD ⟨[],aq,0⟩).bag.length,[]⟩,0⟩
   else if n.op=5 then js ((l.headD ⟨[],aq,0⟩).bag.any fun v=>eqV v (l.getD 1 ⟨[],aq,0⟩).v)
   else Bl (iE n.op (l.map (·.v)))
def Aw(gs:List bt)(st:List jS)(n:aP):List jS:=st.take (st.length - opsOf n.op)++ [mb gs n (st.drop (st.length - opsOf n.op))]
def xe(gs:List bt)(l:List aP):jS:=if l= []then Bl (oO 1)else(l.foldl (Aw gs) []).headD (Bl (oO 1))
def ry(gs:List bt)(l:List aP):Nat:=if l.isEmpty then 2 else if isI (xe gs l) 1 then 2 else if isI (xe gs l) 0 then 0 else 1
def fc(l:List cE)(m:aV):List cE:=l.filter fun o=>o.on==1 && m==bf||o.on==2 && m==cJ
def oo(r:cR)(t c:Nat):j9:=
 let m:=if r.deny then cJ else bf
 if t=0∨t=2∧c=0 then(naM,[])else if t=1∨c=1 then(iq m,[])else(m,fc r.obls m)
def iP(gs:List bt)(r:cR):j9:=oo r (nP gs r.tgt) (ry gs r.cond)
def fj(alg:Int)(m:aV)(parts:List j9):List cE:=
 if alg=3 then((parts.find? fun x=>x.1==m).map (·.2)).getD []else((parts.filter fun x=>x.1==m).map (·.2)).flatten
def qH(alg:Int)(obls:List cE)(t:Nat)(parts:List j9):j9:=
 let m:=iG alg (parts.map (·.1))
 if t=0 then(naM,[])else if t=1 then(iq m,[])else if m≠bf∧m≠cJ then(m,[])
 else(m,fj alg m parts++fc obls m)
mutual
def fR(gs:List bt):bC→j9
 |.mk id set alg tgt rules kids obls=>if nP gs tgt=0 then(naM,[])else qH alg obls (nP gs tgt) (rules.map (iP gs)++nF gs kids)
def nF(gs:List bt):List bC→List j9
 | []=>[]
 |k::r=>fR gs k::nF gs r
end
theorem uq(gs:List bt):∀l:List bC,nF gs l=l.map (fR gs)
 | []=>afJ
 |k::r=>by simp[nF,uq gs r]
def tI:bC→gu
 |.mk _ _ _ t _ _ _=>t
def pE:gu→Option bO
 | []=>none
 | [l]::r=>match l.find? fun m=>m.op==1 && !m.attr.must with
  |some m=>some m
  |none=>pE r
 |_::r=>pE r
def tF(gs:List bt)(p:bC):Bool:=match pE (tI p)with
 |none=>true
 |some m=>decide (kJ gs m≠0)
mutual
def mc(gs:List bt):bC→bC
 |.mk id set alg tgt rules kids obls=> .mk id set alg tgt rules (lf gs kids) obls
def lf(gs:List bt):List bC→List bC
 | []=>[]
 |k::r=>if tF gs k then mc gs k::lf gs r else lf gs r
end
end Go.Bf
namespace Go.Bf
open Go Go.Ab
variable {n:Int}{r t:Txt}
def pM:Nat→Nat→Txt
 |0,_=>[]
 |f+1,u=>if u<128 then [UInt8.ofNat u]else UInt8.ofNat (u % 128+128)::pM f (u / 128)
def zig(n:Int):Nat:=if 0≤n then 2*n.toNat else 2*(-n).toNat - 1
def jh(n:Int):Txt:=pM 10 (zig n)
def dM(s:Txt):Txt:=jh s.length++s
def oY(v:bu):Txt:=jh v.kind++(if v.kind=3∨v.kind=5 then dM v.s else jh v.n)
def gE(o:OpD):Txt:=jh o.kind++(dM o.subj++(dM o.case++(dM o.field++(dM o.to++(oY o.val++(jh o.review++(dM o.text++(dM o.reason++oY (dV o.glass)))))))))
theorem Px(h:i64 n):zig n<128 ^ 10:=by grind [i64,zig,Nat]
structure Zh (v:bu):Prop where
 kind:i64 v.kind
 n:i64 v.n
 s:v.s.length≤1000000
 one:(v.kind=3∨v.kind=5→v.n=0)∧(¬(v.kind=3∨v.kind=5)→v.s= [])
structure OpC (o:OpD):Prop where
 kind:i64 o.kind
 subj:o.subj.length≤1000000
 case:o.case.length≤1000000
 field:o.field.length≤1000000
 to:o.to.length≤1000000
 val:Zh o.val
 review:i64 o.review
 text:o.text.length≤1000000
 reason:o.reason.length≤1000000
structure RS where
 b:Txt
 at_:Nat
 bad:Bool
variable {s:RS}
def unzig(u:Nat):Int:=if u % 2=1 then -((u / 2:Nat):Int) - 1 else((u / 2:Nat):Int)
def rU:Nat→Nat→Nat→Txt→Int×Nat
 |0,_,_,_=>(0,0)
 |_+1,_,_,[]=>(0,0)
 |f+1,i,u,c::r=>
  if(i=9∧1<c.toNat)∨(0<i∧c.toNat=0)then(0,0)
  else if c.toNat<128 then(unzig (u+c.toNat*128 ^ i),i+1)
  else rU f (i+1) (u+c.toNat % 128*128 ^ i) r
def mL(s:RS)(a:Nat):RS:=if s.bad=false∧a≤s.at_ then {s with at_:=a,bad:=true} else s
def rIn(s:RS)(lo hi:Int):Int×RS:=
 if s.bad then(0,s)else
 let x:=rU 10 0 0 (s.b.drop s.at_)
 if x.2=0∨x.1<lo∨hi<x.1 then(0,mL s s.at_)else(x.1,{s with at_:=s.at_+x.2})
def gK(s:RS):Int×RS:=rIn s (-9223372036854775808) 9223372036854775807
def bZ(s:RS)(most:Int):Txt×RS:=
 let x:=rIn s 0 most
 if x.2.bad∨(x.2.b.length:Int) - x.2.at_<x.1 then([],mL x.2 s.at_)else((x.2.b.drop x.2.at_).take x.1.toNat,{x.2 with at_:=x.2.at_+x.1.toNat})
def pq(k:Int):Bool:=k==3||k==5
def qT(s:RS):bu×RS:=
 let x:=rIn s 1 5
 let y:bu×RS:=if pq x.1 then(let t:=bZ x.2 64;(⟨x.1,0,t.1⟩,t.2))else(let t:=gK x.2;(⟨x.1,t.1,[]⟩,t.2))
 if y.2.bad then(aq,y.2)else if bz y.1=false then(aq,mL y.2 s.at_)else y
def qv(s:RS):bu×RS:=
 if s.at_<s.b.length∧s.b.getD s.at_ 0=0 then(aq,(rIn (rIn s 0 0).2 0 0).2)else qT s
def rOp(b:Txt):OpD×RS:=
 let k:=gK ⟨b,0,false⟩
 let s1:=bZ k.2 16
 let s2:=bZ s1.2 16
 let s3:=bZ s2.2 16
 let s4:=bZ s3.2 16
 let v:=qv s4.2
 let r:=gK v.2
 let t:=bZ r.2 4096
 let w:=bZ t.2 64
 let g:=qT w.2
 (⟨k.1,s1.1,s2.1,s3.1,s4.1,v.1,r.1,t.1,w.1,eqV g.1 (dV true)⟩,g.2)
def LA(s:RS):Bool:=decide (s.b.length≤s.at_) && !s.bad
def pn(b:Txt):Option OpD:=if LA (rOp b).2 && dK (rOp b).1 && decide (gE (rOp b).1=b)then some (rOp b).1 else none
theorem L7(n:Int):unzig (zig n)=n:=by grind [unzig,zig]
theorem F7(h:i64 n):zig n<18446744073709551616:=by grind [i64,zig]
theorem JP:∀(f v:Nat),0<f→pM f v≠ []
 |0,_,h=>afu
 |f+1,v,_=>by grind [pM]
theorem Jn:∀(f i u v:Nat) (r:Txt),f+i=10→0<f→v<128 ^ f→u<128 ^ i→u+v*128 ^ i<18446744073709551616→(0<i→0<v)→
  rU f i u (pM f v++r)=(unzig (u+v*128 ^ i),i+(pM f v).length)
 |0,i,u,v,r,_,h,_,_,_,_=>afu
 |f+1,i,u,v,r,hfi,_,hv,hu,ht,h0=>by
  have p9:(128:Nat) ^ 9=9223372036854775808:=afy;have hlt:∀n,n<256→(UInt8.ofNat n).toNat=n:=fun n hn=>by rw[UInt8.toNat_ofNat'];omega
  by_cases hs:v<128
  ·have e:pM (f+1) v= [UInt8.ofNat v]:=by simp_all [pM,if_pos]
   rw[e];simp only[List.singleton_append,rU,hlt v afu,List.length_singleton];have hn:¬((i=9∧1<v)∨(0<i∧v=0)):=by grind
   rw[if_neg hn,if_pos hs]
  ·have e:pM (f+1) v=UInt8.ofNat (v % 128+128)::pM f (v / 128):=by simp_all [pM,if_neg]
   rw[e];simp only[List.cons_append,rU,hlt (v % 128+128) afu,List.length_cons];have hi9:i≠9:=by grind
   have hn:¬((i=9∧1<v % 128+128)∨(0<i∧v % 128+128=0)):=by omega
   rw[if_neg hn,if_neg afu];have hp:(128:Nat) ^ (i+1)=128 ^ i*128:=afJ;have hsum:u+(v % 128+128) % 128*128 ^ i+v / 128*128 ^ (i+1)=u+v*128 ^ i:=by
    have h1:(v % 128+128) % 128=v % 128:=afu;rw[h1,hp,Nat.mul_comm (128 ^ i) 128,←Nat.mul_assoc,Nat.add_assoc,←Nat.add_mul]
    congr 2
    omega
   have hf:0<f:=by omega
   have hv' :v / 128<128 ^ f:=by omega
   have hu' :u+(v % 128+128) % 128*128 ^ i<128 ^ (i+1):=by have h1:(v % 128+128) % 128≤127:=afu;have h2:=Nat.mul_le_mul_right (128 ^ i) h1;rw[hp];omega
   rw[Jn f (i+1) _ (v / 128) r afu hf hv' hu' afu afu,hsum]
   congr 1
   omega
theorem Q3(h:i64 n)(r:Txt):rU 10 0 0 (jh n++r)=(n,(jh n).length):=by
 have:=Jn 10 0 0 (zig n) r rfl afy (Px h) afy (by grind [F7]) afu
 simp only[Nat.pow_zero,Nat.mul_one,Nat.zero_add]at this;unfold jh;rw[this,L7]
def rAt(s:RS)(x:Txt):Prop:=s.bad=false∧s.at_≤s.b.length∧s.b.drop s.at_=x
def rOn(s:RS)(n:Nat):RS:={s with at_:=s.at_+n}
theorem rAt.on{x y:Txt}(h:rAt s (x++y)):rAt (rOn s x.length) y:=by
 obtain⟨h1,h2,h3⟩:=h;have hl:=congrArg List.length h3;refine⟨h1,by grind [rOn],?_⟩
 grind [rOn,List.drop_drop,List.drop_left]
theorem zu{lo hi:Int}(h:rAt s (jh n++r))(hn:i64 n)(h1:lo≤n)(h2:n≤hi):rIn s lo hi=(n,rOn s (jh n).length):=by
 unfold rIn;have hl:0<(jh n).length:=List.length_pos_iff.2 (JP 10 _ afy);rw[if_neg (by rw[h.1];simp),h.2.2,Q3 hn]
 rw[if_neg afu];rfl
theorem C5(h:rAt s (jh n++r))(hn:i64 n):gK s=(n,rOn s (jh n).length):=zu h hn hn.1 hn.2
theorem nT{most:Nat}(h:rAt s (dM t++r))(ht:t.length≤most)(hm:most≤100000):bZ s most=(t,rOn s (dM t).length):=by
 unfold dM at h⊢;rw[List.append_assoc]at h;have h6:i64 (t.length:Int):=⟨afu,afu⟩;have ha:=h.on;unfold bZ;rw[zu (lo:=0) (hi:=most) h h6 afu afu];have hl:=congrArg List.length ha.2.2;have hle:=ha.2.1;rw[if_neg (by rw[ha.1];grind),ha.2.2]
 simp[rOn,afn,Nat.add_assoc]
theorem AG{v:bu}(h:bz v=true):1≤v.kind∧v.kind≤5:=by grind [bz]
end Go.Bf
namespace Go.Bf
open Go Go.Ab Go.Proofs.YtelkmnkejghkeaaGreatDoor
variable {v:bu}{s:an}{r t:Txt}{k:Nat}{c:aL}{o:OpD}{gs:List bt}{a:List j9}
theorem C4{n:Int}(h1: -1000000≤n)(h2:n≤1000000):i64 n:=⟨afu,afu⟩
theorem wD(h:bz v=true)(hk:v.kind=3∨v.kind=5):v.n=0∧v.s.length≤64:=by
 unfold bz at h;rcases hk with e|e
 ·grind
 ·rw[if_neg afu,if_neg afu,if_neg afu,if_neg afu,if_pos e]at h
  simp only[bp,Bool.and_eq_true,beq_iff_eq,decide_eq_true_eq]at h;omega
theorem Ct(h:bz v=true)(hk:¬(v.kind=3∨v.kind=5)):v.s= []:=by
 unfold bz at h
 grind
theorem JO{s:RS}(h:rAt s (oY v++r))(hv:bz v=true)(hn:i64 v.n):qT s=(v,rOn s (oY v).length):=by
 obtain⟨hk1,hk2⟩:=AG hv;unfold oY at h⊢;rw[List.append_assoc]at h;have ha:=h.on;unfold qT;rw[zu (lo:=1) (hi:=5) h (by grind [C4]) hk1 hk2]
 by_cases e:v.kind=3∨v.kind=5
 ·obtain⟨e1,e2⟩:=wD hv e
  rw[if_pos e]at ha⊢;have ht:pq v.kind=true:=by grind [pq]
  have hx:=nT (most:=64) ha e2 afu;simp only[ht,if_true];rw[show((64:Nat):Int)=64 from rfl]at hx
  rw[hx];have ev:(⟨v.kind,0,v.s⟩:bu)=v:=by rw[←e1]
  exact alE
 ·have e1:=Ct hv e
  rw[if_neg e]at ha⊢;have ht:pq v.kind=false:=by simp_all [pq,not_or]
  have hx:=C5 ha hn;simp only[ht,Bool.false_eq_true,if_false];rw[hx];have ev:(⟨v.kind,v.n,[]⟩:bu)=v:=by rw[←e1]
  exact alE
theorem E6:jh 0= [0]:=afJ
theorem Of{k:Int}(h1:1≤k)(h2:k≤5):∃c,jh k= [c]∧c≠0:=by
 have:k=1∨k=2∨k=3∨k=4∨k=5:=afu;rcases this with rfl|rfl|rfl|rfl|rfl
 ·exact⟨2,afJ,afy⟩
 ·exact⟨4,afJ,afy⟩
 ·exact⟨6,afJ,afy⟩
 ·exact⟨8,afJ,afy⟩
 ·exact⟨10,afJ,afy⟩
theorem rAt.head{s:RS}{c:UInt8}{x:Txt}(h:rAt s (c::x)):s.at_<s.b.length∧s.b.getD s.at_ 0=c:=by
 have hl:=congrArg List.length h.2.2;rw[List.length_drop,List.length_cons]at hl;refine⟨afu,?_⟩;have:=congrArg (fun l=>l[0]?) h.2.2
 simp only[List.getElem?_drop,Nat.add_zero,List.getElem?_cons_zero]at this;rw[List.getD_eq_getElem?_getD,this];rfl
theorem Lh{s:RS}(h:rAt s (oY v++r))(hv:v=aq∨bz v=true)(hn:i64 v.n):qv s=(v,rOn s (oY v).length):=by
 rcases hv with rfl|hv
 ·have e:oY aq= [0,0]:=by rfl
  rw[e]at h⊢;have hh:=rAt.head (c:=0) (x:=0::r) h;unfold qv;rw[if_pos ⟨hh.1,hh.2⟩];have h' :rAt s (jh 0++(jh 0++r)):=by grind [E6]
  rw[zu h' (by grind [C4]) (Int.le_refl 0) (Int.le_refl 0)]
  rw[zu h'.on (by grind [C4]) (Int.le_refl 0) (Int.le_refl 0)]
  simp[E6,rOn,Nat.add_assoc]
 ·obtain⟨hk1,hk2⟩:=AG hv
  obtain⟨c,e,hc⟩:=Of hk1 hk2;have hh:rAt s (c::((if v.kind=3∨v.kind=5 then dM v.s else jh v.n)++r)):=by grind [oY]
  unfold qv;rw[if_neg (by grind [rAt.head])]
  exact JO h hv hn
theorem vE(h:jr t=true):t.length≤16:=by
 unfold jr at h;simp only[Bool.or_eq_true,beq_iff_eq]at h;rcases h with rfl|h
 ·simp
 simp_all [bp,Bool.and_eq_true,decide_eq_true_eq]
structure OpF (o:OpD):Prop where
 subj:o.subj.length≤16
 case:o.case.length≤16
 field:o.field.length≤16
 to:o.to.length≤16
 val:o.val=aq∨bz o.val=true
 text:o.text.length≤4096
 reason:o.reason.length≤64
theorem kC(h:dK o=true):OpF o:=by
 simp only[dK,Bool.and_eq_true,decide_eq_true_eq]at h;obtain⟨⟨⟨⟨⟨⟨⟨h1,h2⟩,h3⟩,h4⟩,h5⟩,h6⟩,h7⟩,h8⟩:=h;simp only[bp,Bool.and_eq_true,decide_eq_true_eq]at h1;refine⟨h1.2,vE h4,vE h5,vE h6,?_,h3,?_⟩
 ·simp only[Bool.or_eq_true]at h7
  rcases h7 with h7|h7
  ·left
   generalize o.val=v at h7;obtain⟨k,n,s⟩:=v;simp only[eqV,aq,Bool.and_eq_true,beq_iff_eq]at h7;obtain⟨rfl,rfl,rfl⟩:=h7;rfl
  grind
 ·unfold mV at h2
  grind
theorem AE(b:Bool):bz (dV b)=true:=by cases b<;>rfl
theorem O9(b:Bool):eqV (dV b) (dV true)=b:=by cases b<;>rfl
theorem Uj(hf:OpF o)(h64:mN o):rOp (gE o)=(o,⟨gE o,(gE o).length,false⟩):=by
 have h0:rAt ⟨gE o,0,false⟩ (gE o):=⟨rfl,Nat.zero_le _,rfl⟩;obtain⟨k1,k2,k3,k4⟩:=h64;unfold gE at h0;have e0:=C5 h0 k1;have h1:=h0.on;have e1:=nT (most:=16) h1 hf.subj afu;have h2:=h1.on;have e2:=nT (most:=16) h2 hf.case afu;have h3:=h2.on;have e3:=nT (most:=16) h3 hf.field afu;have h4:=h3.on;have e4:=nT (most:=16) h4 hf.to afu;have h5:=h4.on;have e5:=Lh h5 hf.val k3;have h6:=h5.on;have e6:=C5 h6 k4;have h7:=h6.on;have e7:=nT (most:=4096) h7 hf.text afu;have h8:=h7.on;have e8:=nT (most:=64) h8 hf.reason afu;have h9:=h8.on;have h9' :=h9;rw[←List.append_nil (oY (dV o.glass))]at h9';have e9:=JO h9' (AE _) (by cases o.glass<;>exact⟨afy,afy⟩)
 have h10:=h9'.on;simp only[List.append_nil]at e9 h10;simp only[show((16:Nat):Int)=16 from rfl,show((4096:Nat):Int)=4096 from rfl,show((64:Nat):Int)=64 from rfl]at e1 e2 e3 e4 e7 e8
 have hend:=congrArg List.length h10.2.2;rw[List.length_drop,List.length_nil]at hend;have hle:=h10.2.1;unfold rOp;rw[show gE o=jh o.kind++(dM o.subj++(dM o.case++(dM o.field++(dM o.to++(oY o.val++(jh o.review++(dM o.text++(dM o.reason++oY (dV o.glass)))))))))from rfl]
 simp only[e0,e1,e2,e3,e4,e5,e6,e7,e8,e9,O9];simp only[rOn]at hend hle⊢;refine Prod.ext rfl ?_;simp only[RS.mk.injEq,and_true,true_and];omega
theorem Qr(hf:dK o=true)(h64:mN o):pn (gE o)=some o:=by grind [pn,Uj,kC,LA]
theorem get_some{b:Txt}(h:pn b=some o):dK o=true∧gE o=b:=by
 unfold pn at h
 grind
theorem uu{α:Type}(f:α→Nat):∀(l:List α) (a:Nat),l.foldl (fun a x=>min a (f x)) a≤a∧∀x∈l,l.foldl (fun a x=>min a (f x)) a≤f x
 | [],a=>afB
 |y::l,a=>by
  obtain⟨h1,h2⟩:=uu f l (min a (f y))
  grind
theorem QD:∀ {t:gu} {m:bO},pE t=some m→kJ gs m=0→nP gs t=0:=by
 intro t;have main:∀(t:gu) (m:bO),pE t=some m→kJ gs m=0→∃x∈t,AS gs x=0:=by
  intro t
  induction t with
  |nil=>intro m h;cases h
  |cons x r ih=>
   intro m h h0
   match x,h with
   | [],h=>obtain⟨y,hy,e⟩:=ih m h h0;exact⟨y,List.mem_cons_of_mem _ hy,e⟩
   | [l],h=>
    simp only[pE]at h;cases hf:l.find? fun m=>m.op==1 && !m.attr.must with
    |none=>rw[hf]at h;obtain⟨y,hy,e⟩:=ih m h h0;exact⟨y,List.mem_cons_of_mem _ hy,e⟩
    |some k=>
     rw[hf]at h;cases h;have hm:=List.mem_of_find?_eq_some hf;have hall:DN gs l=0:=by have:=(uu (kJ gs) l 2).2 _ hm;rw[h0]at this;exact Nat.le_zero.1 this
     exact⟨[l],List.mem_cons_self ..,by grind [AS]⟩
   |a::b::c,h=>obtain⟨y,hy,e⟩:=ih m h h0;exact⟨y,List.mem_cons_of_mem _ hy,e⟩
 intro m h h0;obtain⟨x,hx,e⟩:=main t m h h0;have:=(uu (AS gs) t 2).2 x hx;rw[e]at this;exact Nat.le_zero.1 this
theorem QZ{p:bC}(h:tF gs p=false):fR gs p=(naM,[]):=by
 obtain⟨id,set,alg,tgt,rules,kids,obls⟩:=p;unfold tF at h;simp only[tI]at h;cases hk:pE tgt with
 |none=>grind
 |some m=>simp_all [kJ,fR,QD,if_true]
theorem QA(j:aV):pz j naM=j:=by simp[pz,naM]
inductive Drop:List j9→List j9→Prop
 |nil:Drop [] []
 |keep (x:j9) {a b:List j9} (h:Drop a b):Drop (x::a) (x::b)
 |skip {a b:List j9} (h:Drop a b):Drop a ((naM,[])::b)
theorem Drop.app{b c:List j9}(h:Drop a b):Drop (c++a) (c++b):=by
 induction c with
 |nil=>exact h
 |cons x c ih=>grind [keep]
theorem Drop.join{b:List j9}(h:Drop a b):∀j,(a.map (·.1)).foldl pz j=(b.map (·.1)).foldl pz j:=by
 induction h with
 |nil=>simp
 |keep x h ih=>grind
 |skip h ih=>grind [QA]
theorem Drop.first{b:List j9}(h:Drop a b):firstM (a.map (·.1))=firstM (b.map (·.1)):=by
 unfold firstM
 congr 1
 induction h with
 |nil=>rfl
 |keep x h ih=>grind
 |skip h ih=>simpa using ih
theorem Drop.only{b:List j9}(h:Drop a b):∀j,pJ (a.map (·.1)) j=pJ (b.map (·.1)) j:=by
 induction h with
 |nil=>simp
 |keep x h ih=>grind [pJ]
 |skip h ih=>
  intro j;have hs:Ax naM=true:=afy;simp only[List.map_cons,pJ,hs,Bool.true_eq_false,if_false];rw[←ih]
  congr 1
  simp
theorem Drop.mem{b:List j9}(h:Drop a b){m:aV}(hm:m≠naM):m∈a.map (·.1)↔m∈b.map (·.1):=by exact akR
theorem Drop.comb{b:List j9}(h:Drop a b)(alg:Int):iG alg (a.map (·.1))=iG alg (b.map (·.1)):=by unfold iG yp;rw[h.join,h.first,h.only];simp only[h.mem (show bf≠naM by decide),h.mem (show cJ≠naM by decide)]
theorem Drop.parts{b:List j9}(h:Drop a b)(alg:Int){m:aV}(hm:m≠naM):fj alg m a=fj alg m b:=by
 have h1:(a.find? fun x=>x.1==m)=b.find? fun x=>x.1==m:=by exact akR
 have h2:(a.filter fun x=>x.1==m)=b.filter fun x=>x.1==m:=by clear h1;exact akR
 simp only[fj,h1,h2]
theorem Drop.qH{b:List j9}(h:Drop a b)(alg:Int)(obls:List cE)(t:Nat):qH alg obls t a=qH alg obls t b:=by
 unfold Go.Bf.qH;simp only[h.comb alg]
 by_cases hp:iG alg (b.map (·.1))=bf
 ·rw[hp,h.parts alg afy]
 ·by_cases hd:iG alg (b.map (·.1))=cJ
  ·rw[hd,h.parts alg afy]
  grind
mutual
theorem B3(gs:List bt):∀p:bC,fR gs (mc gs p)=fR gs p
 |.mk id set alg tgt rules kids obls=>by
  simp only[mc,fR]
  by_cases h:nP gs tgt=0
  ·simp only[h,if_true]
  ·simp only[h,if_false]
   exact(B4 gs kids).app.qH alg obls _
theorem B4(gs:List bt):∀l:List bC,Drop (nF gs (lf gs l)) (nF gs l)
 | []=>by simp only[lf,nF];exact .nil
 |k::r=>by
  have ih1:=B3 gs k;have ih2:=B4 gs r;simp only[lf,nF]
  by_cases h:tF gs k=true
  ·simp only[h,if_true,nF,ih1]
   exact .keep _ ih2
  ·have h:tF gs k=false:=by simpa using h
   simp only[h,Bool.false_eq_true,if_false,QZ h];exact .skip ih2
end
structure iJ where
 err:Int
 mark:aV
 glass:Bool
 val:bu
 hidden:Bool
 at_:Int
structure qM where
 op:OpD
 version:Int
 mark:aV
 glass:Bool
 obls:List cE
def RN:OpD:=⟨0,[],[],[],[],aq,0,[],[],false⟩
def yE:qM:=⟨RN,0,naM,false,[]⟩
def C3:Txt:=[103,108,97,115,115]
def rQ(s:an)(r:pP):Bool:=r.isOpen && decide (100≤s.tick - r.tick)
def NS(s:an)(subj:Txt):Bool:=s.reviews.any fun r=>r.subj==subj && rQ s r
def ud(s:an)(o:OpD)(m:aV):Bool:=o.glass && (m==cJ||m==naM) && zn s.roles ⟨o.subj,C3⟩ && !NS s o.subj
def Cf(s:an)(o:OpD)(reason:Txt):pP:=⟨(s.reviews.length:Int)+1,s.tick,o.subj,o.case,jc o.kind,reason,true⟩
def bT(s:an)(o:OpD)(reason:Txt):an:={s with reviews:=s.reviews++ [Cf s o reason]}
def kE(l:List cE)(field:Txt):Bool:=l.any fun x=>x.kind==2 && x.arg==field
def jg(cs:List aL)(id:Txt):Nat:=cs.findIdx fun c=>c.id==id
def iS(s:an)(o:OpD)(what:Txt):an:=
 if jg s.cases o.case<s.cases.length∧o.kind≠6 then {s with cases:=s.cases.modify (jg s.cases o.case) fun c=>jL s c o.subj what} else s
def fA(o:OpD)(done:Bool)(s:an)(x:cE):an:=
 if x.kind=1∧done=true then iS s o x.arg
 else if x.kind=3 then bT s o x.arg
 else if x.kind=4 then {s with notices:=s.notices++ [⟨s.tick,o.case,x.arg⟩]}
 else s
def dI(s:an)(o:OpD)(l:List cE)(done:Bool):an:=l.foldl (fA o done) s
def sW(s:an):Bool:=decide (256<s.reviews.length)||decide (256<s.notices.length)||s.cases.any fun c=>decide (256<c.log.length)
def gT(s:an)(o:OpD):j9:=fR (fS s o) s.policy
def j5(s:an)(o:OpD):Int×Int:=if bL s o=0∧o.kind=7 then((aS o.text).2.1,(aS o.text).2.2)else(bL s o,0)
def fJ(s:an)(o:OpD):Bool:=ud s o (gT s o).1
def ug(s:an)(o:OpD):Bool:=decide ((gT s o).1=bf)||fJ s o
def cW(s:an)(o:OpD):an:=
 let s1:=if fJ s o then bT s o o.reason else s
 dI (if ug s o then dX aS s1 o else s1) o (gT s o).2 (ug s o)
def nR(s:an)(o:OpD):iJ:=
 ⟨if ug s o then 0 else 12,(gT s o).1,fJ s o,if ug s o && o.kind==2 && !kE (gT s o).2 o.field then dZ (bw s.cases o.case).fields o.field else aq,ug s o && o.kind==2 && kE (gT s o).2 o.field,0⟩
def aE(s:an)(o:OpD):an×iJ×qM×Int:=
 if(j5 s o).1≠0 then(s,⟨(j5 s o).1,naM,false,aq,false,(j5 s o).2⟩,yE,(j5 s o).1)
 else if sW (cW s o)then(s,⟨6,naM,false,aq,false,0⟩,yE,6)
 else(cW s o,nR s o,⟨o,s.version,(gT s o).1,fJ s o,(gT s o).2⟩,0)
theorem zJ(s:an)(o:OpD)(w:Txt):(iS s o w).tick=s.tick∧(iS s o w).roles=s.roles∧(iS s o w).policy=s.policy∧(iS s o w).version=s.version∧(iS s o w).reviews=s.reviews∧(iS s o w).notices=s.notices:=by grind [iS]
theorem Ec(o:OpD)(done:Bool)(s:an)(x:cE):(fA o done s x).tick=s.tick∧(fA o done s x).roles=s.roles∧(fA o done s x).policy=s.policy∧(fA o done s x).version=s.version:=by
 unfold fA;split
 ·grind [zJ]
 ·split
  ·exact⟨rfl,rfl,rfl,rfl⟩
  grind
theorem GC(o:OpD)(done:Bool):∀(l:List cE) (s:an),(dI s o l done).tick=s.tick∧(dI s o l done).roles=s.roles∧(dI s o l done).policy=s.policy∧(dI s o l done).version=s.version
 | [],s=>⟨rfl,rfl,rfl,rfl⟩
 |x::l,s=>by obtain⟨a1,a2,a3,a4⟩:=Ec o done s x;obtain⟨b1,b2,b3,b4⟩:=GC o done l (fA o done s x);exact⟨b1.trans a1,b2.trans a2,b3.trans a3,b4.trans a4⟩
def ij(o:OpD)(a b:List pP):Prop:=∃c,b=a++c∧∀i (h:i<c.length),c[i].id=((a.length+i+1:Nat):Int)∧c[i].isOpen=true∧c[i].subj=o.subj
theorem ij.refl(o:OpD)(a:List pP):ij o a a:=⟨[],afB,fun i h=>agp⟩
theorem ij.trans{a b c:List pP}(h1:ij o a b)(h2:ij o b c):ij o a c:=by
 obtain⟨x,rfl,hx⟩:=h1;obtain⟨y,rfl,hy⟩:=h2;refine⟨x++y,afB,fun i h=>?_⟩
 grind
theorem ij.open(s:an)(o:OpD)(w:Txt):ij o s.reviews (bT s o w).reviews:=⟨[Cf s o w],rfl,fun i h=>by have:i=0:=afv;subst this;exact⟨afJ,rfl,rfl⟩⟩
theorem ij.duties(o:OpD)(done:Bool):∀(l:List cE) (s:an),ij o s.reviews (dI s o l done).reviews
 | [],s=> .refl o _
 |x::l,s=>by
  have:ij o s.reviews (fA o done s x).reviews:=by
   unfold fA;split
   ·grind [zJ,refl]
   ·split
    ·exact .open s o _
    grind [refl]
  exact this.trans (ij.duties o done l _)
structure IA (c:aL):Prop where
 id:bp c.id=true
 owner:bp c.owner=true
 state:c.state∈qA
 asc:F8 c.fields
 nfields:c.fields.length≤16
 field:∀f∈c.fields,bp f.name=true∧bz f.val=true∧eqV f.val aq=false
 log1:1≤c.log.length
 actor:∀x∈c.log,bp x.actor=true∧i64 x.tick
theorem vn.w(h:vn c):IA c:=⟨h.id,h.owner,h.state,h.asc,h.nfields,h.field,h.log1,h.actor⟩
theorem IA.ok(h:IA c)(hl:c.log.length≤256):vn c:=⟨h.id,h.owner,h.state,h.asc,h.nfields,h.field,h.log1,hl,h.actor⟩
structure mB (k:Nat) (s:an):Prop where
 tick:0≤s.tick∧s.tick≤1099511627776
 asc:Asc s.cases
 ncases:s.cases.length≤64
 case:∀c∈s.cases,IA c
 roles:s.roles.length≤64
 role:∀r∈s.roles,bp r.subj=true∧bp r.role=true
 pol:gV s.policy=0
 ver:0≤s.version∧s.version≤k
theorem dP.w(h:dP k s):mB k s:=⟨h.tick,h.asc,h.ncases,fun c hc=>(h.case c hc).w,h.roles,h.role,h.pol,h.ver⟩
theorem mB.ok(h:mB k s)(ho:sW s=false):dP k s:=by
 unfold sW at ho;simp only[Bool.or_eq_false_iff,decide_eq_false_iff_not]at ho;refine⟨h.tick,h.asc,h.ncases,fun c hc=>(h.case c hc).ok ?_,afu,afu,h.roles,h.role,h.pol,h.ver⟩
 grind
theorem Im(o:OpD)(w:Txt)(h:mB k s):mB k (bT s o w):={h with}
theorem Il(hn:bp o.subj=true)(w:Txt)(h:mB k s):mB k (iS s o w):=by
 unfold iS;split
 ·refine {h with asc:=CN (lu fun x=>rfl) h.asc,ncases:=by simpa using h.ncases,case:= ?_}
  intro d hd;rcases mem_modify hd with hd|⟨hi,rfl⟩
  ·exact h.case d hd
  ·have hc:=h.case _ (afo hi)
   refine⟨hc.id,hc.owner,hc.state,hc.asc,hc.nfields,hc.field,ajG,?_⟩;intro x hx;simp only[jL,List.mem_append,List.mem_singleton]at hx;rcases hx with hx|rfl
   ·exact hc.actor x hx
   ·exact⟨hn,by have:=h.tick;constructor<;>simp only<;>omega⟩
 omega
theorem Ik(hn:bp o.subj=true)(done:Bool)(x:cE)(h:mB k s):mB k (fA o done s x):=by
 unfold fA;split
 ·grind [Il]
 ·split
  ·grind [Im]
  ·split
   ·exact {h with}
   omega
theorem u9{k:Nat}{o:OpD}(hn:bp o.subj=true)(done:Bool):∀(l:List cE) {s:an},mB k s→mB k (dI s o l done)
 | [],s,h=>h
 |x::l,s,h=>u9 hn done l (Ik hn done x h)
theorem Dk(o:OpD)(w:Txt)(h:dP k s)(hr:s.reviews.length≤999):dP k (bT s o w):={h with nrev:=by grind [bT]}
structure jD (k:Nat) (s:an):Prop extends dP k s where
 ids:∀i (h:i<s.reviews.length),s.reviews[i].id=((i+1:Nat):Int)
 nr:s.reviews.length≤256
 nn:s.notices.length≤256
theorem KN:jD 0 xX:={LW with ids:=fun i h=>agp,nr:=afy,nn:=afy}
theorem uX(h:(j5 s o).1=0):bL s o=0∧dK o=true∧(o.kind=7→(aS o.text).2.1=0):=by
 unfold j5 at h;have hr:bL s o=0:=by grind
 have hf:dK o=true:=by
  unfold bL at hr
  grind
 exact⟨hr,hf,fun hk=>afv⟩
theorem MJ(h:jD k s)(hp:(j5 s o).1=0):mB (k+1) (cW s o):=by
 have hn:=(uv (uX hp).2.1).subj;have h1:dP k (if fJ s o then bT s o o.reason else s):=by
  split
  ·exact Dk o _ h.todP (by have:=h.nr;omega)
  ·exact h.todP
 refine u9 hn _ _ ?_;split
 ·exact(qB o h1).w
 ·have:=h1.w
  exact {this with ver:=⟨this.ver.1,by have:=this.ver.2;omega⟩}
def shut(r:pP):pP:={r with isOpen:=false}
theorem vD(par:Txt→bC×Int×Int)(s:an)(o:OpD):(dX par s o).reviews=if bL s o=0∧o.kind=5 then s.reviews.modify (o.review - 1).toNat shut else s.reviews:=by
 unfold dX
 by_cases hr:bL s o=0
 ·rw[if_pos hr]
  unfold doD
  by_cases k1:o.kind=1
  ·grind
  ·by_cases k3:o.kind=3
   ·grind
   ·by_cases k4:o.kind=4
    ·grind
    ·by_cases k5:o.kind=5
     ·simp[k5,hr];rfl
     grind
 grind
theorem zk(h:dK o=true)(hg:o.glass=true):1≤o.kind∧o.kind≤4:=by simp_all [dK,Bool.and_eq_true,mV,if_true,vW,decide_eq_true_eq]
theorem Ex(h:fJ s o=true):o.glass=true:=by simp_all [fJ,ud,Bool.and_eq_true]
structure Gb (s:an) (o:OpD) (t:an) (r:iJ) (e:Int):Prop where
 len:s.reviews.length≤t.reviews.length
 old:∀i (h:i<s.reviews.length) (h' :i<t.reviews.length),(e=0∧r.err=0∧o.kind=5∧o.review=((i+1:Nat):Int)→o.subj≠s.reviews[i].subj∧s.reviews[i].isOpen=true∧t.reviews[i].isOpen=false∧t.reviews[i].id=s.reviews[i].id)∧
  (¬(e=0∧r.err=0∧o.kind=5∧o.review=((i+1:Nat):Int))→t.reviews[i]=s.reviews[i])
 new:∀i (h:i<t.reviews.length),s.reviews.length≤i→t.reviews[i].id=((i+1:Nat):Int)∧t.reviews[i].isOpen=true∧t.reviews[i].subj=o.subj
 glass:r.glass=true→∃h:s.reviews.length<t.reviews.length,t.reviews[s.reviews.length].reason=o.reason
theorem Gb.same(s:an)(o:OpD)(e:Int)(r:iJ)(he:e≠0)(hg:r.glass=false):Gb s o s r e:=
 ⟨Nat.le_refl _,fun i h h' =>⟨fun hc=>(he hc.1).elim,fun _=>rfl⟩,fun i h h' =>afu,fun h=>afv⟩
theorem Jp{a b:List pP}(h:ij o a b):a.length≤b.length∧(∀i (h1:i<a.length) (h2:i<b.length),b[i]=a[i])∧∀i (h1:i<b.length),a.length≤i→b[i].id=((i+1:Nat):Int)∧b[i].isOpen=true∧b[i].subj=o.subj:=by
 obtain⟨c,rfl,hc⟩:=h;refine⟨afB,fun i h1 h2=>afv,fun i h1 h2=>?_⟩
 grind
theorem DZ(hr:bL s o=0)(hf:dK o=true)(hk:o.kind=5):1≤o.review∧∃h:(o.review - 1).toNat<s.reviews.length,s.reviews[(o.review - 1).toNat].isOpen=true∧s.reviews[(o.review - 1).toNat].subj≠o.subj:=by
 have F:=uv hf;have hok:=F.ok;unfold okD at hok;simp only[hk,show¬(5:Int)=1 by decide,show¬((5:Int)=2∨(5:Int)=6) by decide,show¬(5:Int)=3 by decide,show¬(5:Int)=4 by decide,if_false,if_true,decide_eq_true_eq]at hok
 unfold bL at hr;simp only[hk,Bool.true_eq_false,show¬(5:Int)=1 by decide,show¬(2≤(5:Int)∧(5:Int)≤4) by decide,if_false,if_true]at hr
 unfold fC xA at hr;rw[if_pos (by omega:1≤o.review)]at hr
 refine⟨afu,?_⟩;cases hx:s.reviews[(o.review - 1).toNat]? with
 |none=>simp_all
 |some r=>
  rw[hx]at hr;obtain⟨h,rfl⟩:=List.getElem?_eq_some_iff.1 hx;refine⟨h,?_,?_⟩
  ·grind
  ·intro e
   simp only[e,if_true]at hr;omega
theorem HR(h:jD k s):Gb s o (aE s o).1 (aE s o).2.1 (aE s o).2.2.2:=by
 unfold aE
 by_cases hp:(j5 s o).1=0
 ·rw[if_neg afu]
  by_cases ho:sW (cW s o)=true
  ·rw[if_pos ho];exact .same _ _ _ _ afB rfl
  ·rw[if_neg ho]
   obtain⟨hr,hf,_⟩:=uX hp;simp only
   by_cases hk:o.kind=5
   ·have hg:fJ s o=false:=by
     cases hg:fJ s o with
     |false=>rfl
     |true=>have:=zk hf (Ex hg);omega
    obtain⟨hv1,hlt,hop,hsu⟩:=DZ hr hf hk
    by_cases hd:ug s o=true
    ·have hb:cW s o=dI (dX aS s o) o (gT s o).2 true:=by grind [cW]
     have hrev:(dX aS s o).reviews=s.reviews.modify (o.review - 1).toNat shut:=by simp_all [vD,if_pos]
     have hon:=ij.duties o true (gT s o).2 (dX aS s o);rw[←hb,hrev]at hon;obtain⟨a1,a2,a3⟩:=Jp hon;have hlm:(s.reviews.modify (o.review - 1).toNat shut).length=s.reviews.length:=afB;rw[hlm]at a1;refine⟨a1,fun i h1 h2=>⟨fun hc=>?_,fun hc=>?_⟩,fun i h1 h2=>a3 i h1 afu,fun hgl=>?_⟩
     ·have hi:(o.review - 1).toNat=i:=by omega
      subst hi;rw[a2 _ afu h2,List.getElem_modify,if_pos rfl];exact⟨fun e=>hsu e.symm,hop,rfl,rfl⟩
     ·have hi:(o.review - 1).toNat≠i:=fun e=>hc ⟨rfl,by simp[nR,hd],hk,afu⟩
      rw[a2 _ afu h2,List.getElem_modify,if_neg hi]
     simp_all [nR]
    ·have hd:ug s o=false:=by grind
     have hb:cW s o=dI s o (gT s o).2 false:=by grind [cW]
     have hon:=ij.duties o false (gT s o).2 s;rw[←hb]at hon;obtain⟨a1,a2,a3⟩:=Jp hon;refine⟨a1,fun i h1 h2=>⟨fun hc=>?_,fun hc=>a2 i h1 h2⟩,a3,fun hgl=>?_⟩
     ·simp_all [nR]
     simp_all [nR]
   ·have hs1:ij o s.reviews (if fJ s o then bT s o o.reason else s).reviews:=by
     split
     ·exact .open s o _
     ·exact .refl o _
    have hs2:(if ug s o then dX aS (if fJ s o then bT s o o.reason else s) o else(if fJ s o then bT s o o.reason else s)).reviews=(if fJ s o then bT s o o.reason else s).reviews:=by
     split
     ·simp_all [vD,if_neg]
     ·rfl
    have hd:=ij.duties o (ug s o) (gT s o).2 (if ug s o then dX aS (if fJ s o then bT s o o.reason else s) o else(if fJ s o then bT s o o.reason else s))
    rw[hs2]at hd;have hon:ij o s.reviews (cW s o).reviews:=hs1.trans hd;obtain⟨a1,a2,a3⟩:=Jp hon;refine⟨a1,fun i h1 h2=>⟨fun hc=>(hk hc.2.2.1).elim,fun hc=>a2 i h1 h2⟩,a3,fun hgl=>?_⟩
    have hg:fJ s o=true:=hgl;have hd' :=hd;simp only[hg,↓reduceIte]at hd';obtain⟨b1,b2,_⟩:=Jp hd';have hb:(cW s o)=dI (if ug s o then dX aS (bT s o o.reason) o else bT s o o.reason) o (gT s o).2 (ug s o):=by grind [cW]
    rw[←hb]at b1 b2;have hl:(bT s o o.reason).reviews.length=s.reviews.length+1:=by simp[bT]
    refine⟨afu,?_⟩
    grind [bT,Cf]
 ·rw[if_pos afu]
  exact .same _ _ _ _ afu rfl
theorem jD.up(h:jD k s):jD (k+1) s:={h with ver:=⟨h.ver.1,by have:=h.ver.2;omega⟩}
theorem GZ(o:OpD)(h:jD k s):jD (k+1) (aE s o).1:=by
 have hrl:=HR (o:=o) h;unfold aE at hrl⊢
 by_cases hp:(j5 s o).1=0
 ·rw[if_neg afu]at hrl⊢
  by_cases ho:sW (cW s o)=true
  ·rw[if_pos ho];exact h.up
  ·rw[if_neg ho]at hrl⊢
   have ho:sW (cW s o)=false:=afv;have hw:=(MJ h hp).ok ho;unfold sW at ho;refine {hw with ids:=fun i hi=>?_,nr:=afv,nn:=afv}
   by_cases hlt:i<s.reviews.length
   ·obtain⟨h1,h2⟩:=hrl.old i hlt hi
    by_cases hc:(0:Int)=0∧(nR s o).err=0∧o.kind=5∧o.review=((i+1:Nat):Int)
    ·rw[(h1 hc).2.2.2];exact h.ids i hlt
    ·rw[h2 hc];exact h.ids i hlt
   ·exact(hrl.new i hi afu).1
 ·rw[if_pos afu];exact h.up
structure X4 (s:an) (o:OpD):Prop where
 err:(aE s o).2.2.2≠0→(aE s o).1=s∧(aE s o).2.1.err=(aE s o).2.2.2∧(aE s o).2.1.mark=naM
 ok:(aE s o).2.2.2=0→(aE s o).2.1.mark=(gT s o).1∧(aE s o).2.2.1=⟨o,s.version,(gT s o).1,fJ s o,(gT s o).2⟩∧(aE s o).2.1.glass=fJ s o∧(aE s o).1=cW s o∧(aE s o).2.1=nR s o
theorem yY(o:OpD)(done:Bool):∀(l:List cE) (s:an),(dI s o l done).cases.length=s.cases.length
 | [],s=>rfl
 |x::l,s=>by
  have:(fA o done s x).cases.length=s.cases.length:=by
   unfold fA;split
   ·grind [iS]
   ·split
    ·rfl
    grind
  exact(yY o done l _).trans this
end Go.Bf
namespace Go.Ab
open Go
section
variable {U : TypeId → TI} {ρ : Env} {h0 h h' : Heap} {sz id : Nat} {tb : TypeId} {y : AV} {xs : List AV} {e : TypeId} {K : AV → Prop} {x : IntKind} {m : Int}
theorem vH(xs:List AV)(j:Nat):au xs=au (xs.take j)++au (xs.drop j):=aiT
theorem OwE.cut(hw:OwE tb h0 h sz y xs){hi:Operand}(j:Nat)(hm:ev ρ hi=some (.v (.int x m)))(hj:m=j)(hl:j≤xs.length)(hz:(U tb).sz=sz)(h1:sz≠0)
  (hk:∀z,OwE tb h0 h sz z (xs.take j)→(z=y∨∃id l l' c,y= .ob id 0 l c sz∧z= .ob id 0 l' c sz)→K z):iB U ρ y none (some hi) none K (.slice tb):=by
 subst hj;subst hz
 rcases hw with⟨rfl,rfl⟩|⟨id,h2,cap,rest,rfl,h3,h4,h5,h6⟩
 ·rw[rY,fX,hm]
  refine⟨h1,?_⟩;have:j=0:=afv;subst this;refine⟨afu,afB,?_⟩;exact hk _ (.inl ⟨rfl,rfl⟩) (.inl rfl)
 ·rw[Ck]
  refine⟨h1,rfl,?_⟩;simp only[nj,fX,hm,dQ,ot];refine⟨afu,afu,afu,?_⟩;simp only[Int.toNat_natCast,Nat.zero_mul,Nat.add_zero,Nat.sub_zero,show(((0:Nat):Int)).toNat=0 from rfl]
  have e1:(xs.take j).length=j:=afv;have hs:Sized (U tb).sz (xs.drop j):=fun z hz=>h6 z (List.mem_of_mem_drop hz)
  refine hk _ (.inr ⟨id,h2,cap,au (xs.drop j)++rest,by rw[e1],by grind [vH,List.append_assoc],?_,afu,fun z hz=>h6 z (List.mem_of_mem_take hz)⟩) (.inr ⟨id,_,_,cap,rfl,rfl⟩)
  rw[afn,aY hs,h4,List.length_drop,e1,←Nat.add_mul]
  grind
theorem OwE.from(hw:OwE tb h0 h sz y xs){lo:Operand}(j:Nat)(hm:ev ρ lo=some (.v (.int x m)))(hj:m=j)(hl:j≤xs.length)(hz:(U tb).sz=sz)(h1:sz≠0)
  (hk:∀z,Rd h sz z (xs.drop j)→K z):iB U ρ y (some lo) none none K (.slice tb):=by
 subst hj;subst hz
 rcases hw with⟨rfl,rfl⟩|⟨id,h2,cap,rest,rfl,h3,h4,h5,h6⟩
 ·have:j=0:=by grind
  subst this;rw[rZ,fX,hm];refine⟨h1,by simp[Sized],?_⟩
  exact⟨afu,afB,afB,hk _ (.sl (by intro z hz;grind [nV]) _)⟩
 ·rw[Ck]
  refine⟨h1,rfl,?_⟩;simp only[nj,fX,hm,dQ,ot];refine⟨afu,afu,afu,?_⟩;simp only[Int.toNat_natCast,Nat.zero_add];have e1:(xs.drop j).length=xs.length - j:=afB;have hs:Sized (U tb).sz (xs.drop j):=fun z hz=>h6 z afv
  have ht:Sized (U tb).sz (xs.take j):=fun z hz=>h6 z afv
  have e2:=aY hs;have e3:=aY ht;refine hk _ ⟨hs,.inr ⟨id,j*(U tb).sz,cap - j,_,tb,by rw[e1],h3,?_,?_⟩⟩
  ·grind [vH,afn]
  grind [vH,List.append_assoc,List.drop_left,List.take_left]
end
end Go.Ab
namespace Go.Bf
open Go Go.Ab Go.Proofs.YtelkmnkejghkeaaGreatDoor
def hbit:Nat→Nat
 |0=>0
 |1=>4602678819172646912
 |_=>4607182418800017408
def aO(m:aV):AV:=.v (.complex .f64 (hbit m.1) (hbit m.2))
def M9(m:aV):Prop:=m.1≤2∧m.2≤2
def M6(m:aV):Prop:=m∈vS
instance (m:aV):Decidable (M9 m):=inferInstanceAs (Decidable (_∧_))
instance (m:aV):Decidable (M6 m):=inferInstanceAs (Decidable (m∈vS))
theorem M6.m9{m:aV}(h:M6 m):M9 m:=by exact ako
theorem le2{n:Nat}(h:n≤2):n=0∨n=1∨n=2:=afu
theorem zP{m n:aV}(hmm:M9 m)(hn:M9 n)(K:AV→Prop):gR .eql (.complex .f64 (hbit m.1) (hbit m.2)) (.complex .f64 (hbit n.1) (hbit n.2)) K=K (.b (m==n)):=
 pI (fun P ty w=>by exact akl) K
theorem E3{m n:aV}(hmm:M9 m)(hn:M9 n)(K:AV→Prop):gR .neq (.complex .f64 (hbit m.1) (hbit m.2)) (.complex .f64 (hbit n.1) (hbit n.2)) K=K (.b (!(m==n))):=
 pI (fun P ty w=>by exact akl) K
structure Nb (m:aV):Prop where
 na:∀K,gR .eql (.complex .f64 (hbit m.1) (hbit m.2)) (.complex .f64 0 0) K=K (.b (m==naM))
 pe:∀K,gR .eql (.complex .f64 (hbit m.1) (hbit m.2)) (.complex .f64 4607182418800017408 0) K=K (.b (m==bf))
 de:∀K,gR .eql (.complex .f64 (hbit m.1) (hbit m.2)) (.complex .f64 0 4607182418800017408) K=K (.b (m==cJ))
 ip:∀K,gR .eql (.complex .f64 (hbit m.1) (hbit m.2)) (.complex .f64 4602678819172646912 0) K=K (.b (m==xd))
 id:∀K,gR .eql (.complex .f64 (hbit m.1) (hbit m.2)) (.complex .f64 0 4602678819172646912) K=K (.b (m==xb))
 ib:∀K,gR .eql (.complex .f64 (hbit m.1) (hbit m.2)) (.complex .f64 4602678819172646912 4602678819172646912) K=K (.b (m==nL))
 nna:∀K,gR .neq (.complex .f64 (hbit m.1) (hbit m.2)) (.complex .f64 0 0) K=K (.b (!(m==naM)))
 npe:∀K,gR .neq (.complex .f64 (hbit m.1) (hbit m.2)) (.complex .f64 4607182418800017408 0) K=K (.b (!(m==bf)))
 nde:∀K,gR .neq (.complex .f64 (hbit m.1) (hbit m.2)) (.complex .f64 0 4607182418800017408) K=K (.b (!(m==cJ)))
theorem nb{m:aV}(h:M9 m):Nb m:=
 ⟨zP (n:=naM) h afy,zP (n:=bf) h afy,zP (n:=cJ) h afy,zP (n:=xd) h afy,zP (n:=xb) h afy,zP (n:=nL) h afy,
  E3 (n:=naM) h afy,E3 (n:=bf) h afy,E3 (n:=cJ) h afy⟩
theorem Sn{a b:Nat}(ha:a≤2)(hb:b≤2)(k:AV→Prop):A2 [.v (.float .f64 (hbit a)),.v (.float .f64 (hbit b))] k=k (.v (.float .f64 (hbit (max a b)))):=
 HB (fun P ts ty w=>by rcases le2 ha with rfl|rfl|rfl<;>rcases le2 hb with rfl|rfl|rfl<;>rfl) k
structure Fb (a:Nat):Prop where
 one:∀K,gR .eql (.float .f64 (hbit a)) (.float .f64 4607182418800017408) K=K (.b (a==2))
 half:∀K,gR .eql (.float .f64 (hbit a)) (.float .f64 4602678819172646912) K=K (.b (a==1))
 ge:∀K,gR .geq (.float .f64 (hbit a)) (.float .f64 4602678819172646912) K=K (.b (decide (1≤a)))
theorem fb{a:Nat}(h:a≤2):Fb a:=by
 rcases le2 h with rfl|rfl|rfl<;>
  exact⟨pI fun P ty w=>rfl,pI fun P ty w=>rfl,pI fun P ty w=>rfl⟩
end Go.Bf
namespace Go.Proofs.YtelkmnkejghkeaaGreatDoor
open Go Go.Ab Go.Bf Tryz
variable {rs:List gL}{k j:Nat}{s:an}{y1 y2 y3 y4 z:AV}
theorem Df(m:aV)(hmm:M6 m)(h:Heap):ai prog 277 [aO m] h fun r h' =>r= .b true∧h' =h:=by
 have hn:ai prog 68 [aO m] h fun r h' =>(∃c l,r= .s (c::l))∧h' =h:=by
  obtain⟨n1,n2,n3,n4,n5,n6⟩:=nb hmm.m9;refine afs func68 16 [.tmp 2] fun hwf=>?_
  cases d1:(m==naM)
  case true=>simp only[go_sem,aO,n1,d1];exact .same (.refl _) ⟨⟨_,_,rfl⟩,rfl⟩
  cases d2:(m==bf)
  case true=>simp only[go_sem,aO,n1,n2,d1,d2];exact .same (.refl _) ⟨⟨_,_,rfl⟩,rfl⟩
  cases d3:(m==cJ)
  case true=>simp only[go_sem,aO,n1,n2,n3,d1,d2,d3];exact .same (.refl _) ⟨⟨_,_,rfl⟩,rfl⟩
  cases d4:(m==xd)
  case true=>simp only[go_sem,aO,n1,n2,n3,n4,d1,d2,d3,d4];exact .same (.refl _) ⟨⟨_,_,rfl⟩,rfl⟩
  cases d5:(m==xb)
  case true=>simp only[go_sem,aO,n1,n2,n3,n4,n5,d1,d2,d3,d4,d5];exact .same (.refl _) ⟨⟨_,_,rfl⟩,rfl⟩
  have d6:(m==nL)=true:=by
   unfold M6 vS at hmm
   grind
  simp only[go_sem,aO,n1,n2,n3,n4,n5,n6,d1,d2,d3,d4,d5,d6];exact .same (.refl _) ⟨⟨_,_,rfl⟩,rfl⟩
 refine aw func277 6 [.tmp 2] ?_
 simp only[go_sem];refine hn.mono ?_
 rintro r h' ⟨⟨c,l,rfl⟩,rfl⟩
 exact aj0
theorem zv(m:aV)(hmm:M9 m)(h:Heap):ai prog 251 [aO m] h fun r h' =>r=aO (iq m)∧h' =h:=by
 obtain⟨n1,n2,n3,n4,n5,n6⟩:=nb hmm;refine aw func251 9 [.tmp 2] ?_
 cases d2:(m==bf)
 case true=>simp only[go_sem,aO,n2,d2];exact .same (.refl _) ⟨by rw[iq,if_pos afv];rfl,rfl⟩
 cases d3:(m==cJ)
 case true=>simp only[go_sem,aO,n2,n3,d2,d3];exact .same (.refl _) ⟨by rw[iq,if_neg afv,if_pos afv];rfl,rfl⟩
 simp only[go_sem,aO,n2,n3,d2,d3];exact .same (.refl _) ⟨by rw[iq,if_neg afv,if_neg afv];rfl,rfl⟩
theorem uT(m:aV)(h:Heap):ai prog 299 [aO m] h fun r h' =>r= .tup [.v (.float .f64 (hbit m.1)),.v (.float .f64 (hbit m.2))]∧h' =h:=by
 refine aw func299 10 [.tmp 2,.tmp 3] ?_
 simp only[go_sem,aO];exact afE
theorem St(a b:Nat)(h:Heap):ai prog 300 [.v (.float .f64 (hbit a)),.v (.float .f64 (hbit b))] h fun r h' =>r=aO (a,b)∧h' =h:=by
 refine aw func300 8 [.tmp 4] ?_
 exact aj0
theorem Rx(m:aV)(h:Heap):ai prog 280 [aO m] h fun r h' =>r=aO (FX m)∧h' =h:=by
 refine aw func280 13 [.tmp 2] ?_
 simp only[go_sem];refine(uT m _).pthen ?_;simp only[go_sem];refine(St m.2 m.1 _).pthen ?_;exact aj0
theorem QB(a b:aV)(ha:M9 a)(hb:M9 b)(h:Heap):ai prog 278 [aO a,aO b] h fun r h' =>r=aO (pz a b)∧h' =h:=by
 have m1:=Sn ha.1 hb.1;have m2:=Sn ha.2 hb.2;refine aw func278 26 [.tmp 4] ?_
 simp only[go_sem];refine(uT a _).pthen ?_;simp only[go_sem];refine(uT b _).pthen ?_;simp only[go_sem,m1,m2];refine(St _ _ _).pthen ?_;exact aj0
theorem M9.join{a b:aV}(ha:M9 a)(hb:M9 b):M9 (pz a b):=⟨Nat.max_le.2 ⟨ha.1,hb.1⟩,Nat.max_le.2 ⟨ha.2,hb.2⟩⟩
theorem Jr(j:aV):M6 (rP j):=by
 unfold rP
 repeat' split
 all_goals decide
theorem Js(j:aV)(hj:M9 j)(h:Heap):ai prog 279 [aO j] h fun r h' =>r=aO (rP j)∧h' =h:=by
 obtain⟨p1,p2,p3⟩:=fb hj.1;obtain⟨q1,q2,q3⟩:=fb hj.2;refine aw func279 29 [.tmp 2] ?_
 simp only[go_sem];refine(uT j _).pthen ?_;cases d1:(j.2==2)
 case true=>simp only[go_sem,q1,d1];exact .same (.refl _) ⟨by rw[rP,if_pos afv];rfl,rfl⟩
 have e1:¬j.2=2:=afv;cases d2:(j.2==1)
 case true=>
  have e2:j.2=1:=afv;cases d3:decide (1≤j.1)
  ·simp only[go_sem,p3,q1,q2,d1,d2,d3];exact .same (.refl _) ⟨by rw[rP,if_neg e1,if_neg afv,if_pos e2];rfl,rfl⟩
  ·simp only[go_sem,p3,q1,q2,d1,d2,d3];exact .same (.refl _) ⟨by rw[rP,if_neg e1,if_pos ⟨e2,afl d3⟩];rfl,rfl⟩
 have e2:¬j.2=1:=afv;cases d4:(j.1==2)
 case true=>simp only[go_sem,p1,q1,q2,d1,d2,d4];exact .same (.refl _) ⟨by rw[rP,if_neg e1,if_neg (fun h=>e2 h.1),if_neg e2,if_pos afv];rfl,rfl⟩
 cases d5:(j.1==1)
 case true=>simp only[go_sem,p1,p2,q1,q2,d1,d2,d4,d5];exact .same (.refl _) ⟨by rw[rP,if_neg e1,if_neg (fun h=>e2 h.1),if_neg e2,if_neg afv,if_pos afv];rfl,rfl⟩
 simp only[go_sem,p1,p2,q1,q2,d1,d2,d4,d5];exact .same (.refl _) ⟨by rw[rP,if_neg e1,if_neg (fun h=>e2 h.1),if_neg e2,if_neg afv,if_neg afv];rfl,rfl⟩
def OwR(h0 h:Heap)(y:AV)(rs:List gL):Prop:=y=eu rs∨OwE 140 h0 h 2 y (rs.map dF)
theorem OwR.rd{h0 h:Heap}{y:AV}(hr:OwR h0 h y rs):Rd h 2 y (rs.map dF):=by
 rcases hr with rfl|hr
 ·exact eP dF 2 (fun _=>rfl) h rs
 ·exact hr.rd
theorem OwR.nid{h0 h:Heap}{y:AV}(hr:OwR h0 h y rs)(e:Ab.nid y=some k):h0 k=none∧h k≠none:=by
 rcases hr with rfl|hr
 ·cases e
 ·exact⟨(hr.nid e).1,(hr.nid e).2.1⟩
theorem OwR.keep{h0 h h' :Heap}{y:AV}(hr:OwR h0 h y rs)(hk:∀id,Ab.nid y=some id→h' id=h id):OwR h0 h' y rs:=by
 rcases hr with hr|hr
 ·exact .inl hr
 ·exact .inr (hr.keep hk)
theorem OwR.bP{g h0 h:Heap}{y:AV}(hr:OwR h0 h y rs)(hg:∀i,h0 i=none→g i=none):OwR g h y rs:=by
 rcases hr with hr|hr
 ·exact .inl hr
 ·exact .inr (hr.bP hg)
theorem OwR.frz{g h:Heap}{y:AV}(hr:OwR g h y rs):Frz g h y (eu rs):=by
 rcases hr with rfl|hr
 ·exact .pure (by simp only[eu,cN];exact bn (fun _=>rfl) _)
 ·exact hr.frz (bn (fun _=>rfl) _)
structure jb (h0 h:Heap) (y1 y2 y3 y4:AV) (s:an) (j:Nat):Prop where
 cs:mO h0 h [y1,y2,y3,y4] y1 s.cases j
 rv:OwE 134 h0 h 7 y2 (s.reviews.map gH)
 nt:OwE 137 h0 h 3 y3 (s.notices.map kL)
 rl:OwR h0 h y4 s.roles
 a12:apart y1 y2
 a13:apart y1 y3
 a14:apart y1 y4
 a23:apart y2 y3
 a24:apart y2 y4
 a34:apart y3 y4
def stC(s:an)(y1 y2 y3 y4:AV):List AV:=[.i s.tick,y1,y2,y3,y4]++gD s.policy++ [.i s.version]
theorem tX.parts{h0 h:Heap}{x:AV}(ho:tX h0 h x s j):∃y1 y2 y3 y4,x= .agg (stC s y1 y2 y3 y4)∧jb h0 h y1 y2 y3 y4 s j:=by obtain⟨y1,y2,y3,y4,e,a,b,c,d,r1,r2,r3,r4,r5,r6⟩:=ho;exact⟨y1,y2,y3,y4,e,a,b,c,.inr d,r1,r2,r3,r4,r5,r6⟩
theorem jb.rd{h0 h:Heap}(ho:jb h0 h y1 y2 y3 y4 s j):RdS h (.agg (stC s y1 y2 y3 y4)) s:=
 ⟨y1,y2,y3,y4,rfl,ho.cs.rd,ho.rv.rd,ho.nt.rd,ho.rl.rd⟩
theorem jb.frz{g h:Heap}(ho:jb g h y1 y2 y3 y4 s j):Frz g h (.agg (stC s y1 y2 y3 y4)) (bQ s):=
 vJ (ho.cs.frz (.refl _)) (ho.rv.frz (bn (fun _=>rfl) _)) (ho.nt.frz (bn (fun _=>rfl) _)) ho.rl.frz
theorem jb.bP{g h0 h:Heap}(ho:jb h0 h y1 y2 y3 y4 s j)(hg:∀i,h0 i=none→g i=none):jb g h y1 y2 y3 y4 s j:=
 {ho with cs:=ho.cs.bP hg,rv:=ho.rv.bP hg,nt:=ho.nt.bP hg,rl:=ho.rl.bP hg}
theorem jb.keep{h0 h h' :Heap}(ho:jb h0 h y1 y2 y3 y4 s j)(hk:∀id,h0 id=none→h id≠none→h' id=h id):jb h0 h' y1 y2 y3 y4 s j:=
 {ho with cs:=ho.cs.keepb hk,rv:=ho.rv.keepb hk,nt:=ho.nt.keepb hk,rl:=ho.rl.keep fun id e=>hk id (ho.rl.nid e).1 (ho.rl.nid e).2}
theorem jb.mem{h0 h:Heap}(ho:jb h0 h y1 y2 y3 y4 s j){w:AV}(hw:w∈ [y1,y2,y3,y4])(e:Ab.nid w=some k):h0 k=none∧h k≠none:=by
 obtain⟨xs,a,_⟩:=ho.cs;simp only[List.mem_cons,List.not_mem_nil,or_false]at hw;rcases hw with rfl|rfl|rfl|rfl
 ·exact⟨(a.nid e).1,(a.nid e).2.1⟩
 ·exact⟨(ho.rv.nid e).1,(ho.rv.nid e).2.1⟩
 ·exact⟨(ho.nt.nid e).1,(ho.nt.nid e).2.1⟩
 ·exact ho.rl.nid e
theorem jb.revs{h0 h h' :Heap}{rs:List pP}(ho:jb h0 h y1 y2 y3 y4 s j)(hz:OwE 134 h0 h' 7 z (rs.map gH))(hn:∀k,Ab.nid z=some k→h k=none∨Ab.nid y2=some k)
  (hk:∀id,h0 id=none→h id≠none→Ab.nid y2≠some id→h' id=h id):jb h0 h' y1 z y3 y4 {s with reviews:=rs} j:=by
 obtain⟨hcs,hrv,hnt,hrl,a12,a13,a14,a23,a24,a34⟩:=id ho;have ap:∀ {w:AV},w∈ [y1,y2,y3,y4]→apart w y2→apart w z:=fun hw ha k e1 e2=>(hn k e2).elim (fun h=>(ho.mem hw e1).2 h) (fun h=>ha k e1 h)
 refine⟨hcs.move (z:=y2) afB a12 hk fun w hw k e=>?_,hz,hnt.keep fun id e=>hk id (hnt.nid e).1 (hnt.nid e).2.1 fun e1=>a23 id e1 e,hrl.keep fun id e=>hk id (hrl.nid e).1 (hrl.nid e).2 fun e1=>a24 id e1 e,ap afB a12,a13,a14,(ap afB a23.symm).symm,(ap afB a24.symm).symm,a34⟩
 grind
theorem jb.nots{h0 h h' :Heap}{rs:List DG}(ho:jb h0 h y1 y2 y3 y4 s j)(hz:OwE 137 h0 h' 3 z (rs.map kL))(hn:∀k,Ab.nid z=some k→h k=none∨Ab.nid y3=some k)
  (hk:∀id,h0 id=none→h id≠none→Ab.nid y3≠some id→h' id=h id):jb h0 h' y1 y2 z y4 {s with notices:=rs} j:=by
 obtain⟨hcs,hrv,hnt,hrl,a12,a13,a14,a23,a24,a34⟩:=id ho;have ap:∀ {w:AV},w∈ [y1,y2,y3,y4]→apart w y3→apart w z:=fun hw ha k e1 e2=>(hn k e2).elim (fun h=>(ho.mem hw e1).2 h) (fun h=>ha k e1 h)
 refine⟨hcs.move (z:=y3) afB a13 hk fun w hw k e=>?_,hrv.keep fun id e=>hk id (hrv.nid e).1 (hrv.nid e).2.1 fun e1=>a23 id e e1,hz,hrl.keep fun id e=>hk id (hrl.nid e).1 (hrl.nid e).2 fun e1=>a34 id e1 e,a12,ap afB a13,a14,ap afB a23,a24,(ap afB a34.symm).symm⟩
 grind
end Go.Proofs.YtelkmnkejghkeaaGreatDoor
namespace Go.Bf
open Go Go.Ab Go.Proofs.YtelkmnkejghkeaaGreatDoor
variable {s:an}{k:Nat}{cs:List aL}
def iK(s:an):Prop:=∀r∈s.reviews,0≤r.tick∧r.tick≤1099511627776
theorem Cq(o:OpD)(w:Txt)(h:iK s)(ht:0≤s.tick∧s.tick≤1099511627776):iK (bT s o w):=fun r hr=>by
 simp only[bT,List.mem_append,List.mem_singleton]at hr;rcases hr with hr|rfl
 ·exact h r hr
 ·exact ht
theorem L1(o:OpD)(w:Txt)(h:iK s):iK (iS s o w):=fun r hr=>h r (by grind [zJ])
theorem L0(o:OpD)(done:Bool)(x:cE)(h:iK s)(ht:0≤s.tick∧s.tick≤1099511627776):iK (fA o done s x):=by
 unfold fA;split
 ·grind [L1]
 ·split
  ·grind [Cq]
  ·split<;>exact h
theorem xI(o:OpD)(done:Bool):∀(l:List cE) {s:an},iK s→(0≤s.tick∧s.tick≤1099511627776)→iK (dI s o l done)
 | [],s,h,_=>h
 |x::l,s,h,ht=>xI o done l (by grind [L0]) (by grind [Ec])
theorem O6(par:Txt→bC×Int×Int)(o:OpD)(h:iK s):iK (dX par s o):=fun r hr=>by
 rw[vD]at hr;split at hr
 ·rcases mem_modify hr with hr|⟨hi,rfl⟩
  ·exact h r hr
  ·have h2:=h _ (afo hi)
   exact ajE
 ·exact h r hr
theorem Ip(o:OpD)(h:jD k s)(ht:iK s):iK (aE s o).1:=by
 unfold aE;split
 ·omega
 ·split
  ·omega
  ·show iK (cW s o)
   have h1:dP k (if fJ s o then bT s o o.reason else s):=by
    split
    ·exact Dk o _ h.todP (by have:=h.nr;omega)
    ·exact h.todP
   have t1:iK (if fJ s o then bT s o o.reason else s):=by
    split
    ·exact Cq o _ ht h.tick
    omega
   refine xI o _ _ ?_ ?_
   ·grind [O6]
   ·split
    ·exact(qB o h1).tick
    ·exact h1.tick
structure fG (k:Nat) (s:an):Prop extends jD k s where
 ticks:iK s
theorem tj:fG 0 xX:={KN with ticks:=fun r h=>agp}
theorem lW(o:OpD)(h:fG k s):fG (k+1) (aE s o).1:={GZ o h.tojD with ticks:=Ip o h.tojD h.ticks}
theorem Qy{id:Txt}(h:jg cs id<cs.length):cs[jg cs id].id=id:=by
 have:=List.findIdx_getElem (p:=fun c:aL=>c.id==id) (w:=h)
 exact eq_of_beq this
theorem Ho(ha:Asc cs){id:Txt}(h:jg cs id<cs.length):findD cs id=jg cs id:=by
 have hid:=Qy h;have hin:ck cs id=true:=by grind [wA,List.any_eq_true,afo]
 have hir:Op.bytesLess id id=false:=by simpa[lt]using lt_irrefl id
 have h1:∃hl:findD cs id<cs.length,cs[findD cs id].id=id:=by
  unfold ck at hin
  grind
 rcases Nat.lt_trichotomy (findD cs id) (jg cs id)with hlt|heq|hgt
 ·exact absurd (List.not_of_lt_findIdx (p:=fun c:aL=>c.id==id) hlt) afv
 ·exact heq
 ·have:=List.not_of_lt_findIdx (p:=fun c:aL=>geB c.id id) hgt
  exact absurd this (by grind [geB])
theorem NG{ds:List aL}(h:ds.map (·.id)=cs.map (·.id))(id:Txt):jg ds id=jg cs id:=by
 have e:∀l:List aL,jg l id=(l.map (·.id)).findIdx fun x=>x==id:=fun l=>by rw[List.findIdx_map];rfl
 rw[e,e,h]
theorem K0(s:an)(o:OpD)(w:Txt)(id:Txt):jg (iS s o w).cases id=jg s.cases id∧(iS s o w).cases.length=s.cases.length:=by
 unfold iS;split
 ·exact⟨NG (lu (f:=fun c=>jL s c o.subj w) (g:=fun c:aL=>c.id) fun c=>rfl) id,afB⟩
 omega
theorem KZ(o:OpD)(done:Bool)(s:an)(x:cE)(id:Txt):jg (fA o done s x).cases id=jg s.cases id∧(fA o done s x).cases.length=s.cases.length:=by
 unfold fA;split
 ·grind [K0]
 ·split
  ·exact⟨rfl,rfl⟩
  grind
end Go.Bf
namespace Go.Proofs.YtelkmnkejghkeaaGreatDoor
open Go Go.Ab
abbrev By:=Bytes 5
theorem u5:(U 5).sz=1:=afJ
theorem u5a:(U 5).k.agg=false:=afJ
theorem ru(y:AV)(l:List UInt8)(h:Heap)(hb:By h y l)(hl:l.length≤140737488355328):
  ai Tryz.prog 53 [y] h fun r h' =>h' =h∧r= .sl (l.map aK) .no:=by
 refine aw Tryz.func53 8 [.tmp 2] ?_
 simp only[go_sem];refine hb.Ua fun b hbn=>?_
 simp only[go_sem];refine jR.intro (fun e=>?_) (fun e=>?_)
 ·have hl0:l= []:=Classical.byContradiction fun hh=>by grind
  subst hl0;simp only[go_sem];exact ahL
 ·simp only[go_sem]
  rw[hb.src u5];simp only[go_sem];refine⟨afu,fun hn=>?_,fun hn=>?_⟩
  ·have hl0:l= []:=by simp_all
   subst hl0;simp only[go_sem];exact ahL
  ·refine .own fun id hid=>?_
   simp only[go_sem];exact .mk _ (.sl _ _) (.aj hid) ⟨rfl,rfl⟩
theorem MV(y:AV)(l:List UInt8)(h:Heap)(hb:By h y l)(hl:l.length≤140737488355328):
  ai Tryz.prog 53 [y] h fun r h' =>(l= []∧r= .sl [] .no∧h' =h)∨(l≠ []∧∃id m,h id=none∧r= .oa id 0 l.length∧h' =upd h id (some (.obj (l.map aK++List.replicate m (aK 0)) 5))):=by
 refine aw Tryz.func53 8 [.tmp 2] ?_
 simp only[go_sem];refine hb.Ua fun b hbn=>?_
 simp only[go_sem];refine jR.intro (fun e=>?_) (fun e=>?_)
 ·have hl0:l= []:=Classical.byContradiction fun hh=>by grind
  subst hl0;simp only[go_sem];exact .mk (.sl [] .no) (.sl _ _) (.refl _) afB
 ·simp only[go_sem]
  rw[hb.src u5];simp only[go_sem];refine⟨afu,fun hn=>?_,fun hn=>?_⟩
  ·have hl0:l= []:=by simp_all
   subst hl0;simp only[go_sem];exact .mk (.sl [] .no) (.sl _ _) (.refl _) afB
  ·refine .oa u5 ?_ ?_ (xq l) fun id m hid=>?_
   ·simp only[go_sem]
   ·rfl
   ·simp only[go_sem]
    exact .mk _ (.refl _) (.refl _) (.inr ⟨afv,id,m,hid,rfl,rfl⟩)
end Go.Proofs.YtelkmnkejghkeaaGreatDoor
namespace Go.Proofs.YtelkmnkejghkeaaGreatDoor
open Go Go.Ab Go.RowKit Go.Lib
theorem i5:∃i z,Tryz.prog.info? 5=some i∧i.zero=some z∧i.size=1∧i.bytes=1∧z.cells.size=1:=by obtain⟨i,h1,h2,h3,z,h4,h5,_⟩:=(hU 5).info afy;exact⟨i,z,h1,h4,h2,by rw[h3];rfl,h5⟩
set_option maxHeartbeats 1000000 in
theorem KM(a:Option Addr)(w:World):Calls Tryz.prog 229 #[.slice a 0 0,.int .i64 0] w fun e w' =>e= .returned (.slice a 0 0)∧w' =w:=by
 go_enter Tryz.func229,Tryz.ntmps229
 go_wp2
 go_ret
 simp
set_option maxHeartbeats 1000000 in
theorem KL(a:Option Addr)(n:Nat)(h0:0<n)(hn:n≤20000000)(w:World):Calls Tryz.prog 229 #[.slice a 0 0,.int .i64 n] w fun e w' =>
  ∃z:Value,z.cells.size=1∧e= .returned (.slice (some ⟨w.heap.size,0,none⟩) 0 (grownCap w n 0 5))∧
   w' =w.drew.alloc (.cells (Builtin.zeroCells z.cells n++Builtin.zeroCells z.cells (grownCap w n 0 5 - n)) 5):=by
 obtain⟨i,z,e1,e2,e3,e4,e5⟩:=i5;have hsl:Tryz.prog.underlying 76=some (.slice 5):=by rfl
 have hin:Tryz.prog.underlying 3=some (.int .i64):=by rfl
 have hold:(Builtin.firstCells i.size 0 (.slice a 0 0)).run Tryz.prog w.drew= .ok (#[]:Array Value) w.drew:=by cases a<;>simp[Builtin.firstCells,loadCells,loadCellsFrom]
 have hrz:∀ty,(Builtin.append_ #[76,3] ty #[.slice a 0 0,.int .i64 (n:Int)]).run Tryz.prog w=
   .ok (.slice (some ⟨w.heap.size,0,none⟩) n (grownCap w n 0 5)) (w.drew.alloc (.cells (Builtin.zeroCells z.cells n++Builtin.zeroCells z.cells (grownCap w n 0 5 - n)) 5)):=fun ty=>by
  have h:=Lib.run_append_grow_zeros w 76 3 ty 5 i z .i64 .i64 hsl hin e1 e2 a 0 0 [] afu n h0 afu afu afu
   afv
   (by rw[e4];exact growslice_fits afu afu)
  simpa using h
 have hG:=grownCap_ge w n 0 5;have hG63:grownCap w n 0 5≤9223372036854775807:=by grind [grownCap_le_maxLen,maxLen]
 obtain⟨G,hGe⟩:∃G,G=grownCap w n 0 5:=⟨_,rfl⟩;rw[←hGe]at hrz hG hG63⊢;have h3:wrap64 ((n:Int) - 0)=(n:Int):=by grind [wrap64]
 have h4:¬((n:Int)<0):=afu;have h5:(n:Int)>0:=afu;refine Calls.mono (R:=fun e w' =>e= .returned (.slice (some ⟨w.heap.size,0,none⟩) 0 G)∧w' =w.drew.alloc (.cells (Builtin.zeroCells z.cells n++Builtin.zeroCells z.cells (G - n)) 5)) ?_ afv
 clear hold hGe
 go_enter Tryz.func229,Tryz.ntmps229
 cases a with
 |none=>
  go_wp2_with (at_builtin;refine Lib.wpList_append_run _ rfl _ _ _ _ rfl _ _ rfl rfl _ _ (hrz _) ?_)
  all_goals (go_ret;simp)
 |some q=>
  obtain⟨ab,ao,asp⟩:=q
  go_wp2_with (at_builtin;refine Lib.wpList_append_run _ rfl _ _ _ _ rfl _ _ rfl rfl _ _ (hrz _) ?_)
  all_goals (go_ret;simp)
end Go.Proofs.YtelkmnkejghkeaaGreatDoor
namespace Go.Proofs.YtelkmnkejghkeaaGreatDoor
open Go Go.Ab
variable {l p:List UInt8}{cs cs' args:List AV}{Q:AV→Heap→Prop}{n at_:Nat}{ps:List (List UInt8)}{sp S T:List Nat}{down:Bool}
theorem UF:(U 5).bytes=1:=afJ
theorem Qt(n:Nat)(hn:n≤20000000)(h:Heap):ai Tryz.prog 229 [.sl [] .full,.i n] h fun r h' =>Acc U 5 h h' r []∧fZ h h' :=by
 refine fun c vs hs g hv hr=> .inl ⟨⟨_,Tryz.func229,afJ,rfl⟩,?_⟩
 have h0:=hr 0 afB;have h1:=hr 1 afB;obtain⟨a,cap,sz,val,e0,sl⟩:=h0.iX;have hcap:cap=0:=sl.hp;subst hcap;have e1:=h1.bV;have ev:vs= #[.slice a 0 0,.int .i64 n]:=by
  apply Array.ext
  ·omega
  ·intro i h2 h3
   have h3' :i<2:=h3;have:i=0∨i=1:=afu;rcases this with rfl|rfl
   ·simpa[Array.getD,h2]using e0
   ·simpa[Array.getD,h2]using e1
 subst ev
 by_cases hn0:n=0
 ·subst hn0
  refine(KM a c.w).mono ?_
  rintro e w' ⟨rfl,rfl⟩
  exact⟨_,rfl,c,.sl [] .full,h,rfl,g,.refl c,h0,hs,.full (.refl h),.refl h⟩
 ·refine(KL a n afu hn c.w).mono ?_
  rintro e w' ⟨z,hz,rfl,rfl⟩
  refine⟨_,rfl,?_⟩;have hG:=grownCap_ge c.w n 0 5;have hG63:grownCap c.w n 0 5≤9223372036854775807:=by grind [grownCap_le_maxLen,maxLen]
  generalize hGe:grownCap c.w n 0 5=G at hG hG63;generalize hcells:Builtin.zeroCells z.cells n++Builtin.zeroCells z.cells (G - n)=cells;have hcs:cells.size=G:=by grind [size_zeroCells]
  obtain⟨id,hid⟩:=g.fresh;have g1:Ab.Good ({c with w:=c.w.drew}:Cx):=g.draw rfl rfl rfl rfl
  have e1:Ext c {c with w:=c.w.drew}:=Ext.draw rfl rfl rfl rfl
  have hh:h id=none:=zl hs hid;refine⟨Cx.aB {c with w:=c.w.drew} (.cells cells 5) id ⟨c.w.heap.size,0,none⟩ (.spare 0 1),.sl [] (.own id),upd h id (some (.spare 0 1)),rfl,?_,e1.trans (Ext.aB _ _ id _ _ rfl (.inl hid)),?_,hs.upd id _,?_,?_⟩
  ·exact g1.aB _ _ _ id _ _ rfl (.inl hid) afB afB
  ·refine .sl [] _ (some ⟨c.w.heap.size,0,none⟩) G 1 (fun _ _=>undef) (Nat.zero_le _) (by grind [lim]) afB (fun q hq _=>by cases hq;exact⟨rfl,by simp[Cx.aB]⟩)
    afB afB afB afB ?_
   exact⟨0,ahQ,Nat.le_refl _,fun _=>⟨_,rfl,ahQ,cells,5,(0,0),heap_alloc_new c.w.drew _,afv⟩⟩
  ·exact⟨(Sub.refl h).new hh _,.inr ⟨id,hh,rfl,by grind [ah,u5]⟩⟩
  ·exact((Sub.refl h).new hh _).gF
theorem u27:(U 76).sz=1:=afJ
theorem oP(ls:List (List UInt8))(i:Nat)(hi:i<ls.length):(ls.take (i+1)).flatten=(ls.take i).flatten++ls[i]:=by rw[List.take_succ_eq_append_getElem hi,List.flatten_append,List.flatten_cons,List.flatten_nil,List.append_nil]
theorem pZ(ls:List (List UInt8))(i:Nat):(ls.take i).flatten.length≤ls.flatten.length:=by grind [List.take_append_drop,List.flatten_append,afn]
theorem Bz(ys:List AV)(ls:List (List UInt8))(q:Perm)(h:Heap)(hr:Ab.Rows 5 h ys ls)(hl:ls.flatten.length≤20000000)(hn:ls.length≤20000000):
  ai Tryz.prog 181 [.sl ys q] h fun r h' =>r= .sl (ls.flatten.map aK) .no∧Sub h h' :=by
 have hlen:=hr.1;refine aw Tryz.func181 36 [.tmp 2] ?_
 simp only[go_sem];refine .intro (fun m ρ h' =>h' =h∧∃i:Nat,i≤ls.length∧m=ls.length - i∧lk ρ 0=some (.sl ys q)∧lk ρ 9=some (.sl ys q)∧lk ρ 10=some (.i ys.length)∧
  lk ρ 11=some (.i i)∧lk ρ 3=some (.v (.int .i64 (ls.take i).flatten.length))) ls.length ?_ ?_
 ·refine⟨rfl,0,Nat.zero_le _,rfl,?_,?_,?_,?_,?_⟩<;>simp only[go_sem]
  all_goals first|rfl|simp
 ·rintro m ρ h' ⟨rfl,i,hi,rfl,r0,r9,r10,r11,r3⟩
  simp only[go_sem,r0,r9,r10,r11,r3];refine .intro (fun e=>?_) (fun e=>?_)
  ·have hlt:i<ys.length:=by simpa using e
   have hlt2:i<ls.length:=afu;have hb:=hr.2 i hlt hlt2;simp only[go_sem,r0,r9,r10,r11,r3];refine .at i hlt (by rw[hb.cells];rfl) ?_
   have t1:=pZ ls (i+1);have t2:=oP ls i hlt2;have w1:IntKind.i64.wrap (((ls.take i).flatten.length:Int)+(ls[i].length:Int))=((ls.take (i+1)).flatten.length:Nat):=by rw[t2,afn]at t1⊢;rw[IntWalk.i64_in _ afu];omega
   simp only[go_sem,r0,r9,r10,r11,r3,hb.cells,hb.Ob,and_self,hb.len,w1];refine .no (decide_eq_false afu) ?_;have w2:IntKind.i64.wrap ((i:Int)+1)=((i+1:Nat):Int):=af6;simp only[go_sem,r0,r9,r10,r11,r3,w2];refine⟨ls.length - (i+1),afu,rfl,i+1,hlt2,rfl,?_,?_,?_,?_,?_⟩<;>simp only[go_sem,r0,r9,r10,r11,r3]
  ·have hge:i=ls.length:=by
    have:¬(i<ys.length):=by simpa using e
    omega
   subst hge;rw[List.take_length]at r3;simp only[go_sem,r0,r9,r10,r11,r3];refine(Qt ls.flatten.length hl h').mono fun g1 h1 ⟨ha,hk⟩=>?_
   simp only[go_sem,r0,r9,r10,r11,r3];refine .intro (fun m ρ h2=>∃g:AV,∃i:Nat,Acc U 5 h' h2 g ((ls.take i).flatten.map aK)∧fZ h' h2∧i≤ls.length∧m=ls.length - i∧lk ρ 25=some (.sl ys q)∧lk ρ 26=some (.i ys.length)∧
    lk ρ 27=some (.i i)∧lk ρ 6=some g) ls.length ?_ ?_
   ·refine⟨g1,0,ha,hk,Nat.zero_le _,rfl,?_,?_,?_,?_⟩<;>simp only[go_sem]
    all_goals rfl
   ·rintro m ρ h2 ⟨g,i,ha,hk,hi,rfl,r25,r26,r27,r6⟩
    simp only[go_sem,r25,r26,r27,r6];refine .intro (fun e=>?_) (fun e=>?_)
    ·have hlt:i<ys.length:=by simpa using e
     have hlt2:i<ls.length:=afu;have hb:=(hr.2 i hlt hlt2).gF hk;have t1:=pZ ls (i+1);have t2:=oP ls i hlt2;simp only[go_sem,r25,r26,r27,r6];refine .at i hlt (by rw[hb.cells];rfl) ?_
     simp only[go_sem,r25,r26,r27,r6,hb.cells,hb.Ob,and_self];refine ha.app (zs:=ls[i].map aK) (by rw[u5];decide) (by rw[UF];decide) (fun k hk=>by rw[hb.src u5];exact hk) (by rw[u5,jT];trivial) (by rw[u5,jT];trivial) ?_ fun g' h3 ha' hk' =>?_
     ·rw[UF,afj,afj]
      rw[t2,afn]at t1;omega
     ·have w2:IntKind.i64.wrap ((i:Int)+1)=((i+1:Nat):Int):=by rw[IntWalk.i64_in _ afu];omega
      simp only[go_sem,r25,r26,r27,r6,w2];rw[←List.map_append,←t2]at ha';refine⟨ls.length - (i+1),afu,g',i+1,ha',hk.trans hk',hlt2,rfl,?_,?_,?_,?_⟩<;>simp only[go_sem,r25,r26,r27,r6]
    ·have hge:i=ls.length:=by
      have:¬(i<ys.length):=by simpa using e
      omega
     subst hge;rw[List.take_length]at ha;simp only[go_sem,r25,r26,r27,r6];exact .mk _ ha.weak (.refl _) ⟨rfl,ha.1⟩
structure D where
 q:Nat
 b:List UInt8
 sy:Nat
 f:Nat
 off:Bool
variable {d:D}
def D.ok(d:D):Prop:=d.b.length≤d.q∧d.q≤1048576∧d.sy≤d.b.length∧d.f<9223372036854775808
def D.burn(d:D):D:=if 0<d.f then {d with f:=d.f - 1,off:=decide (d.f=1)} else d
def D.cells(d:D)(y:AV):List AV:=[.i d.q,y,.i d.sy,.i d.f,.b d.off]
def bF(h:Heap)(id:Nat)(d:D):Prop:=∃y,h id=some (.obj (d.cells y) 92)∧By h y d.b
theorem bF.keep{h h' :Heap}{id:Nat}(hd:bF h id d)(hs:fZ h h'):bF h' id d:=by obtain⟨y,h1,h2⟩:=hd;exact⟨y,hs _ _ _ h1,h2.gF hs⟩
theorem By.set{h:Heap}{id:Nat}{x:AV}(hb:By h x l)(hid:h id=some (.obj cs 92)):By (upd h id (some (.obj cs' 92))) x l:=hb.keep (Keep.upd id _) hid afy
theorem M3(q:Nat)(hq:q≤1048576)(h:Heap):
  ai Tryz.prog 29 [.i q] h fun r h' =>∃id,h id=none∧r= .tup [.ptr id 0,.i 0]∧bF h' id ⟨q,[],0,0,false⟩∧Sub h h' :=by
 refine aw Tryz.func29 13 [.tmp 2,.tmp 3] ?_
 simp only[go_sem];refine .intro (fun e=>absurd (afl e) afu) (fun e=>?_)
 simp only[go_sem];refine .no (decide_eq_false afu) ?_;simp only[go_sem];intro id hid;simp only[go_sem];exact .same (.refl _) ⟨id,hid,rfl,⟨_,ah ..,.inl ⟨.full,rfl⟩⟩,(Sub.refl h).new hid _⟩
theorem pS(d:D)(hd:d.ok)(id:Nat)(h:Heap)(y:AV)(hid:h id=some (.obj (d.cells y) 92)):
  ai Tryz.prog 166 [.ptr id 0] h fun r h' =>r= .b d.burn.off∧h' =upd h id (some (.obj (d.burn.cells y) 92)):=by
 obtain⟨q,b,sy,f,off⟩:=d;obtain⟨d1,d2,d3,d4⟩:=hd;simp only at d1 d2 d3 d4;simp only[D.cells]at hid;refine aw Tryz.func166 27 [.tmp 2] ?_
 simp only[go_sem,hid];refine .intro (fun e=>?_) (fun e=>?_)
 ·have e:=afl e
  have w1:IntKind.i64.wrap ((f:Int) - 1)=((f - 1:Nat):Int):=af6;simp only[go_sem,hid,w1];have hb:(((f - 1:Nat):Int)==0)=decide (f=1):=by
   by_cases h1:f=1
   ·simp[h1]
   ·have:f - 1≠0:=by omega
    simp[h1,Int.natCast_eq_zero,this]
  refine .same (.refl _) ⟨?_,?_⟩
  ·simp only[D.burn,if_pos (show 0<f by omega),hb,ax]
  ·simp only[D.burn,D.cells,if_pos (show 0<f by omega),hb]
 ·have e:=afm e
  have hf:¬0<f:=afu;simp only[go_sem,hid];refine .same (.refl _) ⟨?_,?_⟩
  ·simp only[D.burn,if_neg hf,ax]
  ·simp only[D.burn,D.cells,if_neg hf]
   funext j
   simp only[upd];split
   ·rename_i e;subst e;exact hid
   ·rfl
theorem D.pS(hd:d.ok):d.burn.ok:=by
 obtain⟨d1,d2,d3,d4⟩:=hd;unfold D.burn;split
 ·exact⟨d1,d2,d3,afv⟩
 ·exact⟨d1,d2,d3,d4⟩
theorem D.vA(d:D):d.burn.b=d.b:=by grind [D.burn]
theorem D.MO(d:D):d.burn.q=d.q:=by grind [D.burn]
theorem D.P7(d:D):d.burn.sy=d.sy:=by grind [D.burn]
theorem Qp(d:D)(hd:d.ok)(id:Nat)(h:Heap)(y:AV)(hid:h id=some (.obj (d.cells y) 92))(hb:By h y d.b):
  ai Tryz.prog 180 [.ptr id 0] h fun r h' =>r= .i (d.q - d.b.length:Nat)∧h' =h:=by
 obtain⟨q,b,sy,f,off⟩:=d;obtain⟨d1,d2,d3,d4⟩:=hd;simp only at d1 d2 d3 d4 hb;simp only[D.cells]at hid;refine aw Tryz.func180 13 [.tmp 2] ?_
 have w1:IntKind.i64.wrap ((q:Int) - b.length)=((q - b.length:Nat):Int):=af6;simp only[go_sem,hid,hb.len,w1];exact⟨.of afx,.same (.refl _) ⟨rfl,rfl⟩⟩
theorem T3(d:D)(id:Nat)(h:Heap)(y:AV)(hid:h id=some (.obj (d.cells y) 92))(hb:By h y d.b):
  ai Tryz.prog 116 [.ptr id 0] h fun r h' =>r= .i d.b.length∧h' =h:=by
 simp only[D.cells]at hid;refine aw Tryz.func116 8 [.tmp 2] ?_
 simp only[go_sem,hid,hb.len];exact afE
theorem Uh(d:D)(id:Nat)(h:Heap)(y:AV)(hid:h id=some (.obj (d.cells y) 92)):
  ai Tryz.prog 15 [.ptr id 0] h fun r h' =>r= .b d.off∧h' =h:=by
 simp only[D.cells]at hid;refine aw Tryz.func15 7 [.tmp 2] ?_
 simp only[go_sem,hid];exact afE
theorem Rg(d:D)(hd:d.ok)(id:Nat)(h:Heap)(y:AV)(hid:h id=some (.obj (d.cells y) 92))(hb:By h y d.b):
  ai Tryz.prog 115 [.ptr id 0] h fun r h' =>r= .sl (d.b.map aK) .no∧h' =h:=by
 obtain⟨d1,d2,d3,d4⟩:=hd;simp only[D.cells]at hid;refine aw Tryz.func115 8 [.tmp 2] ?_
 simp only[go_sem,hid];refine(ru y d.b h hb afu).mono fun r h' ⟨e1,e2⟩=>?_
 subst e1;subst e2
 simp only[go_sem];exact afE
theorem Ta(d:D)(n:Int)(id:Nat)(h:Heap)(y:AV)(hid:h id=some (.obj (d.cells y) 92)):
  ai Tryz.prog 11 [.ptr id 0,.i n] h fun r h' =>h' =upd h id (some (.obj (({d with f:=n.toNat}:D).cells y) 92)):=by
 simp only[D.cells]at hid;refine aw Tryz.func11 9 [] ?_
 simp only[go_sem,hid];refine .same (.refl _) ?_;have:(if n<0 then(0:Int)else n)=(n.toNat:Int):=ajw
 simp only[D.cells,this]
def D.append(d:D)(b:List UInt8):D×Nat:=
 if d.off then(d,9)else if d.q<d.b.length+b.length then(d,8)else
  let e:=D.burn {d with b:=d.b++b}
  (e,if e.off then 9 else 0)
def D.sync(d:D):D×Nat:=
 if d.off then(d,9)else if d.burn.off then(d.burn,9)else({d.burn with sy:=d.b.length},0)
def D.cut(d:D)(n:Int):D×Nat:=
 if d.off then(d,9)else if n<0∨(d.b.length:Int)<n then(d,1)else
  if d.burn.off then(d.burn,9)else({d.burn with b:=d.b.take n.toNat,sy:=min d.sy n.toNat},0)
theorem D.vv(hd:d.ok)(b:List UInt8):(d.append b).1.ok:=by
 unfold D.append;split
 ·omega
 ·split
  ·omega
  ·refine D.pS ⟨?_,hd.2.1,?_,hd.2.2.2⟩
   ·grind
   ·have:=hd.2.2.1
    grind
theorem D.yA(hd:d.ok):d.sync.1.ok:=by
 have hb:=D.pS hd;unfold D.sync;split
 ·exact hd
 ·split
  ·exact hb
  ·obtain⟨d1,d2,d3,d4⟩:=hb
   refine⟨d1,d2,?_,d4⟩;simp[D.vA,Nat.le_refl]
theorem D.CT(hd:d.ok)(n:Int):(d.cut n).1.ok:=by
 have hb:=D.pS hd;unfold D.cut;split
 ·exact hd
 ·split
  ·exact hd
  ·split
   ·exact hb
   ·obtain⟨d1,d2,d3,d4⟩:=hb
    obtain⟨e1,e2,e3,e4⟩:=hd;refine⟨?_,?_,?_,d4⟩
    ·grind [D.MO,List.length_take]
    ·grind [D.MO]
    grind
theorem vv(d:D)(hd:d.ok)(id:Nat)(h:Heap)(x:AV)(b:List UInt8)(hdk:bF h id d)(hx:By h x b)(hl:b.length≤1000000000):
  ai Tryz.prog 131 [.ptr id 0,x] h fun r h' =>r= .v (.int .i64 (d.append b).2)∧bF h' id (d.append b).1∧Keep id h h' :=by
 obtain⟨y,hid0,hb⟩:=hdk;have hid:=hid0;simp only[D.cells]at hid;have hok:=hd;obtain⟨d1,d2,d3,d4⟩:=hd;refine aw Tryz.func131 26 [.tmp 4] ?_
 simp only[go_sem,hid];refine .intro (fun e=>?_) (fun e=>?_)
 ·simp only[go_sem]
  refine .same (.refl _) ?_;simp only[D.append,e,if_true,ax];exact ag2
 ·simp only[go_sem,hid,hx.len]
  refine(Qp d hok id h y hid0 hb).mono fun r h' ⟨e1,e2⟩=>?_
  subst e1;subst e2
  simp only[go_sem];refine .intro (fun e2=>?_) (fun e2=>?_)
  ·have e2:=afl e2
   simp only[go_sem];refine .same (.refl _) ?_;simp only[D.append,e,if_pos (show d.q<d.b.length+b.length by omega),ax]
   exact ag2
  ·have e2:=afm e2
   have hno:¬d.q<d.b.length+b.length:=afu;simp only[go_sem,hid,hb.fit,hx.fit];refine(Bz [y,x] [d.b,b] .full h' (.cons hb (.cons hx .nil)) ?_ afB).mono fun r h1 ⟨e1,hs⟩=>?_
   ·simp only[List.flatten_cons,List.flatten_nil,List.append_nil,afn];omega
   ·subst e1
    have hid1:=hs _ _ hid;simp only[go_sem,hid1];have hok2:D.ok {d with b:=d.b++b}:=⟨by show(d.b++b).length≤d.q;rw[afn];omega,d2,by show d.sy≤(d.b++b).length;rw[afn];omega,d4⟩
    refine(pS {d with b:=d.b++b} hok2 id _ (.sl ((d.b++b).map aK) .no) ?_).mono fun r h2 ⟨e1,e2⟩=>?_
    ·rw[ah]
     simp only[D.cells,List.flatten_cons,List.flatten_nil,List.append_nil]
    ·subst e1;subst e2
     have hk:Keep id h' (upd (upd h1 id (some (.obj (d.cells (.sl ((d.b++b).map aK) .no)) 92))) id (some (.obj ((D.burn {d with b:=d.b++b}).cells (.sl ((d.b++b).map aK) .no)) 92))):=
      (hs.keep id).trans ((Keep.upd id _).trans (Keep.upd id _))
     have hA:d.append b=(D.burn {d with b:=d.b++b},if(D.burn {d with b:=d.b++b}).off then 9 else 0):=by unfold D.append;rw[if_neg ajz,if_neg hno]
     simp only[go_sem];refine .intro (fun e3=>?_) (fun e3=>?_)
     ·simp only[go_sem]
      refine .same (.refl _) ?_;rw[hA,if_pos e3];refine⟨rfl,⟨_,ah ..,?_⟩,fun j k hj hk2=>?_⟩
      ·simp only[D.vA];exact .sl _ _
      ·rw[ag _ _ hj];exact hs _ _ hk2
     ·simp only[go_sem]
      refine .same (.refl _) ?_;rw[hA,if_neg (by simp[e3])]
      refine⟨rfl,⟨_,ah ..,?_⟩,fun j k hj hk2=>?_⟩
      ·simp only[D.vA];exact .sl _ _
      ·rw[ag _ _ hj];exact hs _ _ hk2
theorem yA(d:D)(hd:d.ok)(id:Nat)(h:Heap)(hdk:bF h id d):
  ai Tryz.prog 118 [.ptr id 0] h fun r h' =>r= .i d.sync.2∧bF h' id d.sync.1∧Keep id h h' :=by
 obtain⟨y,hid0,hb⟩:=hdk;have hid:=hid0;simp only[D.cells]at hid;refine aw Tryz.func118 19 [.tmp 2] ?_
 simp only[go_sem,hid];refine .intro (fun e=>?_) (fun e=>?_)
 ·simp only[go_sem,e]
  refine .same (.refl _) ?_;simp only[D.sync,e,if_true,ax];exact ag2
 ·simp only[go_sem,e]
  refine(pS d hd id h y hid0).mono fun r h1 ⟨e1,e2⟩=>?_
  subst e1;subst e2
  simp only[go_sem];refine .intro (fun e3=>?_) (fun e3=>?_)
  ·simp only[go_sem]
   refine .same (.refl _) ?_;rw[show d.sync=(d.burn,9) by unfold D.sync;rw[if_neg ajz,if_pos e3]]
   exact⟨rfl,⟨_,ah ..,by rw[D.vA];exact hb.set hid⟩,Keep.upd id _⟩
  ·simp only[D.cells]
   simp only[go_sem,hb.len];refine .same (.refl _) ?_;rw[show d.sync=({d.burn with sy:=d.b.length},0) by unfold D.sync;rw[if_neg ajz,if_neg (by simp[e3])]]
   exact⟨rfl,⟨_,ah ..,by show By _ _ d.burn.b;rw[D.vA];exact hb.set hid⟩,Keep.upd id _⟩
theorem CT(d:D)(hd:d.ok)(id:Nat)(h:Heap)(n:Int)(hdk:bF h id d):
  ai Tryz.prog 117 [.ptr id 0,.i n] h fun r h' =>r= .v (.int .i64 (d.cut n).2)∧bF h' id (d.cut n).1∧Keep id h h' :=by
 obtain⟨y,hid0,hb⟩:=hdk;have hid:=hid0;simp only[D.cells]at hid;have hok:=hd;obtain⟨d1,d2,d3,d4⟩:=hd;refine aw Tryz.func117 41 [.tmp 4] ?_
 simp only[go_sem,hid];refine .intro (fun e=>?_) (fun e=>?_)
 ·simp only[go_sem]
  refine .same (.refl _) ?_;simp only[D.cut,e,if_true,ax];exact ag2
 ·simp only[go_sem,hid]
  have bad:(n<0∨(d.b.length:Int)<n)→nZ [.i 1] h fun r h' =>r= .v (.int .i64 (d.cut n).2)∧bF h' id (d.cut n).1∧Keep id h h' :=fun hbad=>by refine .same (.refl _) ?_;simp only[D.cut,e,if_pos hbad,ax];exact ag2
  refine .intro (fun e2=>?_) (fun e2=>?_)
  ·have e2' :=afl e2
   simp only[go_sem,e2];exact bad (.inl e2')
  ·have e2' :=afm e2
   simp only[go_sem,e2,hid,hb.len];refine .intro (fun e3=>?_) (fun e3=>?_)
   ·have e3' :=afl e3
    simp only[go_sem];exact bad (.inr e3')
   ·have e3' :=afm e3
    have hno:¬(n<0∨(d.b.length:Int)<n):=afu;simp only[go_sem];refine(pS d hok id h y hid0).mono fun r h1 ⟨e1,e2⟩=>?_
    subst e1;subst e2
    simp only[go_sem];refine .intro (fun e4=>?_) (fun e4=>?_)
    ·simp only[go_sem]
     refine .same (.refl _) ?_;rw[show d.cut n=(d.burn,9) by unfold D.cut;rw[if_neg ajz,if_neg hno,if_pos e4]]
     exact⟨rfl,⟨_,ah ..,by rw[D.vA];exact hb.set hid⟩,Keep.upd id _⟩
    ·have hb1:By (upd h id (some (.obj (d.burn.cells y) 92))) y d.b:=hb.set hid
     simp only[D.cells]at hb1⊢;simp only[go_sem];refine hb1.take (m:=n) (x:=.i64) n.toNat ?_ afu afu u5 fun z hz=>?_
     ·simp only[go_sem]
     ·simp only[go_sem]
      refine(ru z _ _ hz ag5).mono fun r h1 ⟨e1,e2⟩=>?_
      subst e1;subst e2
      simp only[go_sem];refine .same (.refl _) ?_;rw[show d.cut n=({d.burn with b:=d.b.take n.toNat,sy:=min d.sy n.toNat},0) by unfold D.cut;rw[if_neg ajz,if_neg hno,if_neg (by simp[e4])]]
      refine⟨rfl,⟨.sl ((d.b.take n.toNat).map aK) .no,?_,.sl _ _⟩,Keep.upd id _⟩;simp only[ah,D.cells,D.P7];have:(if n<(d.sy:Int)then n else(d.sy:Int))=((min d.sy n.toNat:Nat):Int):=ajw
      rw[this]
def D.left(d:D)(keep:Int):Nat:=d.sy+min keep.toNat (d.b.length - d.sy)
def D.bad(d:D)(keep torn:Int):Nat:=min torn.toNat (d.left keep - d.sy)
def bM(l:List UInt8)(i:Nat):List UInt8:=l.take i++(l.drop i).map (~~~ ·)
def D.boot(d:D)(keep torn:Int):D:={d with b:=bM (d.b.take (d.left keep)) (d.left keep - d.bad keep torn),sy:=d.left keep,f:=0,off:=false}
theorem D.Jf(hd:d.ok)(keep:Int):d.sy≤d.left keep∧d.left keep≤d.b.length:=by
 obtain⟨d1,d2,d3,d4⟩:=hd
 grind [D.left]
theorem jH(l:List UInt8)(i:Nat):(bM l i).length=l.length:=by grind [bM]
theorem D.ye(hd:d.ok)(keep torn:Int):(d.boot keep torn).ok:=by
 obtain⟨d1,d2,d3,d4⟩:=hd;obtain⟨l1,l2⟩:=D.Jf ⟨d1,d2,d3,d4⟩ keep;refine⟨?_,d2,?_,by show(0:Nat)<_;decide⟩
 ·show(bM _ _).length≤d.q
  grind [jH,List.length_take]
 ·show d.left keep≤(bM _ _).length
  grind [jH,List.length_take]
theorem KA(c:UInt8):IntKind.u8.wrap ((BitVec.ofInt IntKind.u8.bits (if IntKind.u8.signed=true then -1 else IntKind.u8.max) ^^^ BitVec.ofInt IntKind.u8.bits (c.toNat:Int)).toNat)=((~~~ c).toNat:Int):=by
 revert c;have:∀i:Fin 256,IntKind.u8.wrap ((BitVec.ofInt IntKind.u8.bits (if IntKind.u8.signed=true then -1 else IntKind.u8.max) ^^^ BitVec.ofInt IntKind.u8.bits ((UInt8.ofNat i).toNat:Int)).toNat)=((~~~ (UInt8.ofNat i)).toNat:Int):=by decide+kernel
 intro c;have h:=this ⟨c.toNat,c.toNat_lt⟩;simpa using h
theorem Pe(c:UInt8)(k:AV→Prop):unA .xor (.v (.int .u8 (c.toNat:Int))) k=k (.v (.int .u8 ((~~~ c).toNat:Int))):=by rw[yC,KA]
theorem Pg{α:Type}{f:Nat→α}{i j:Nat}(hij:¬i=j)(a b c:α):upd (upd (upd f i a) j b) i c=upd (upd f i c) j b:=by grind [upd]
theorem ye(d:D)(hd:d.ok)(id:Nat)(h:Heap)(keep torn:Int)(hdk:bF h id d):
  ai Tryz.prog 16 [.ptr id 0,.i keep,.i torn] h fun _ h' =>bF h' id (d.boot keep torn)∧Keep id h h' :=by
 obtain⟨y,hid0,hb⟩:=hdk;have hid:=hid0;simp only[D.cells]at hid;obtain⟨d1,d2,d3,d4⟩:=hd;obtain⟨l1,l2⟩:=D.Jf ⟨d1,d2,d3,d4⟩ keep;have w1:IntKind.i64.wrap ((d.b.length:Int) - d.sy)=((d.b.length - d.sy:Nat):Int):=af6;have m1:(if keep<0 then(0:Int)else keep)=(keep.toNat:Int):=ajw
 have m2:(if(((d.b.length - d.sy:Nat):Int))<(keep.toNat:Int)then(((d.b.length - d.sy:Nat):Int))else(keep.toNat:Int))=((min keep.toNat (d.b.length - d.sy):Nat):Int):=ajw
 have w2:IntKind.i64.wrap ((d.sy:Int)+((min keep.toNat (d.b.length - d.sy):Nat):Int))=(d.left keep:Int):=by unfold D.left at*;rw[IntWalk.i64_in _ afu];omega
 have w3:IntKind.i64.wrap ((d.left keep:Int) - d.sy)=((d.left keep - d.sy:Nat):Int):=af6;have m3:(if torn<0 then(0:Int)else torn)=(torn.toNat:Int):=ajw
 have m4:(if(((d.left keep - d.sy:Nat):Int))<(torn.toNat:Int)then(((d.left keep - d.sy:Nat):Int))else(torn.toNat:Int))=(d.bad keep torn:Int):=by unfold D.bad;split<;>omega
 have hbad:d.bad keep torn≤d.left keep:=by unfold D.bad;omega
 have w4:IntKind.i64.wrap ((d.left keep:Int) - (d.bad keep torn:Int))=((d.left keep - d.bad keep torn:Nat):Int):=af6;refine aw Tryz.func16 78 [] ?_
 simp only[go_sem,hid,hb.len,w1,m1,m2,w2];refine⟨.of afx,?_⟩;simp only[go_sem,hid,w3,m3,m4];refine hb.take (m:=d.left keep) (x:=.i64) (d.left keep) ?_ rfl l2 u5 fun z hz=>?_
 ·simp only[go_sem]
 ·simp only[go_sem]
  have hlen:(d.b.take (d.left keep)).length=d.left keep:=ag5;refine(MV z _ _ hz afu).mono fun r h1 hr=>?_
  rcases hr with⟨hl0,rfl,rfl⟩|⟨hl0,id2,m,hid2,rfl,rfl⟩
  ·have hl00:d.left keep=0:=by rw[hl0]at hlen;simpa using hlen.symm
   have hb0:d.bad keep torn=0:=afu;have hf:d.boot keep torn=⟨d.q,[],0,0,false⟩:=by unfold D.boot;rw[hl0,hl00];simp[bM]
   simp only[go_sem,hid,w4];refine .intro (fun m ρ h' =>h' =upd h1 id (some (.obj [.i d.q,.sl [] .no,.i d.sy,.i d.f,.b d.off] 92))∧lk ρ 0=some (.ptr id 0)∧lk ρ 6=some (.i 0)∧lk ρ 8=some (.i 0)) 0 ?_ ?_
   ·refine⟨rfl,?_,?_,?_⟩<;>simp only[go_sem]
    ·rw[hl00];rfl
    ·rw[hl00,hb0];rfl
   ·rintro m ρ h' ⟨rfl,r0,r6,r8⟩
    simp only[go_sem,r0,r6,r8];refine .no afy ?_;simp only[go_sem,r0,r6,r8];refine .same (.refl _) ⟨⟨.sl [] .no,?_,?_⟩,Keep.upd id _⟩
    ·rw[ah,hf];rfl
    ·rw[hf];exact .nil _
  ·have hne:¬id=id2:=fun e=>by subst e;rw[hid]at hid2;cases hid2
   have hne' :¬id2=id:=fun e=>hne e.symm
   simp only[go_sem,hid,hne,w4];generalize hL:d.b.take (d.left keep)=L at*;generalize hs:d.left keep - d.bad keep torn=s at*;rw[hlen];refine .intro (fun k ρ h' =>∃(i:Nat) (cs:List AV),k=d.left keep - i∧s≤i∧i≤d.left keep∧cs.length=d.left keep+m∧(∀j (hj:j<L.length),cs[j]? =some (aK (if s≤j∧j<i then ~~~ L[j]else L[j])))∧
    h' =upd (upd h id2 (some (.obj cs 5))) id (some (.obj [.i d.q,.oa id2 0 (d.left keep),.i d.sy,.i d.f,.b d.off] 92))∧lk ρ 0=some (.ptr id 0)∧lk ρ 6=some (.i (d.left keep:Nat))∧lk ρ 8=some (.i (i:Nat))) (d.left keep - s) ?_ ?_
   ·refine⟨s,_,rfl,Nat.le_refl _,afu,?_,fun j hj=>?_,rfl,?_,?_,?_⟩
    ·simp[hlen]
    ·rw[List.getElem?_append_left (by simpa using hj),List.getElem?_map,List.getElem?_eq_getElem hj,if_neg afu];rfl
    all_goals simp only[go_sem]
   ·rintro k ρ h' ⟨i,cs,rfl,hi1,hi2,hcl,hcs,rfl,r0,r6,r8⟩
    simp only[go_sem,r0,r6,r8];refine .intro (fun e=>?_) (fun e=>?_)
    ·have hlt:i<d.left keep:=by simpa using e
     have c1:((0:Int)≤(i:Int))=True:=eq_true afu;have c2:((i:Int)<((d.left keep:Nat):Int))=True:=eq_true afu;have c3:=hcs i afu;rw[if_neg afu]at c3;have c4:(i+1≤cs.length)=True:=eq_true afu;have w5:IntKind.i64.wrap ((i:Int)+1)=((i+1:Nat):Int):=af6;simp only[go_sem,r0,r6,r8,hne,hne',c1,c2,c3,c4,Nat.mul_one,Int.toNat_natCast,↓Pe];refine⟨.of afx,?_⟩;simp only[go_sem,r0,r6,r8,w5];refine⟨d.left keep - (i+1),afu,i+1,_,rfl,afu,hlt,?_,?_,Pg hne' ..,?_,?_,?_⟩
     ·simp;omega
     ·intro j hj
      show _=some (aK (if s≤j∧j<i+1 then ~~~ L[j]else L[j]))
      have hjc:j<cs.length:=afu;have hold:=hcs j hj
      by_cases hji:j=i
      ·subst hji
       rw[if_pos ⟨hi1,afu⟩];rw[List.append_assoc,List.getElem?_append_right afZ];simp[show j≤cs.length by omega,aK]
      ·have hcond:(s≤j∧j<i+1)↔(s≤j∧j<i):=by omega
       simp only[hcond];rw[←show cs[j]? =some (aK (if s≤j∧j<i then ~~~ L[j]else L[j]))from hold]
       rcases Nat.lt_or_ge j i with hlt2|hge2
       ·rw[List.append_assoc,List.getElem?_append_left afZ,List.getElem?_take,if_pos afu]
       ·rw[List.getElem?_append_right afZ,List.getElem?_drop]
        congr 1
        simp;omega
     all_goals simp only[go_sem,r0,r6,r8,w5]
    ·have hge:i=d.left keep:=by
      have:¬(i<d.left keep):=by simpa using e
      omega
     subst hge;simp only[go_sem,r0,r6,r8,hne,hne'];refine .same (.refl _) ⟨⟨.oa id2 0 (d.left keep),?_,?_⟩,?_⟩
     ·rw[ah]
      rfl
     ·have hbl:(d.boot keep torn).b=bM L s:=by unfold D.boot;rw[hL,hs]
      have hll:(bM L s).length=d.left keep:=by rw[jH,hlen]
      rw[hbl,←hll];refine .oa (cs:=cs) ?_ afu ?_
      ·rw[ag _ _ hne',ah]
      ·apply List.ext_getElem?
       intro j;rw[List.drop_zero,List.getElem?_take,List.getElem?_map]
       by_cases hj:j<d.left keep
       ·have hj2:j<L.length:=by omega
        have:=hcs j hj2;rw[if_pos afu,show cs[j]? =_ from this]
        unfold bM
        by_cases hsj:s≤j
        ·rw[if_pos ⟨hsj,hj⟩,List.getElem?_append_right afZ]
         have:min s L.length=s:=afu;simp[this,hj2,show s+(j - s)=j by omega,aK]
        ·rw[if_neg afu,List.getElem?_append_left afZ,List.getElem?_take,if_pos afu,List.getElem?_eq_getElem hj2];rfl
       ·rw[if_neg afu,List.getElem?_eq_none afu];rfl
     ·intro j k hj hk
      have h3:¬j=id2:=fun e=>by subst e;rw[hid2]at hk;cases hk
      rw[ag _ _ hj,ag _ _ h3];exact hk
theorem D.PW{b:List UInt8}(h1:d.off=false)(h2:d.f=0)(h3:d.b.length+b.length≤d.q):d.append b=({d with b:=d.b++b},0):=by
 rcases d with⟨q,b0,sy,f,off⟩
 subst h1;subst h2
 unfold D.append;rw[if_neg afB,if_neg afv];rfl
theorem D.SB(h1:d.off=false)(h2:d.f=0):d.sync=({d with sy:=d.b.length},0):=by simp_all [D.sync,D.burn,if_neg]
theorem dthen{f:FuncId}{h:Heap}{X:AV}{id:Nat}(hf:ai Tryz.prog f args h fun r h' =>r=X∧bF h' id d∧Keep id h h')(k:∀h',bF h' id d→Keep id h h'→Q X h'):ai Tryz.prog f args h Q:=
 hf.mono fun r h' ⟨e1,e2,e3⟩=>by subst e1;exact k h' e2 e3
theorem PY(d:D)(n:Nat)(id:Nat)(h:Heap)(hd:bF h id d):ai Tryz.prog 11 [.ptr id 0,.i n] h fun r h' =>bF h' id {d with f:=n}∧Keep id h h' :=by
 obtain⟨y,h1,h2⟩:=hd;refine(Ta d n id h y h1).mono fun r h' e=>?_
 subst e;exact⟨⟨y,ajn,h2.set h1⟩,Keep.upd _ _⟩
theorem Q5(d:D)(id:Nat)(h:Heap)(hd:bF h id d):ai Tryz.prog 15 [.ptr id 0] h fun r h' =>r= .b d.off∧h' =h:=by obtain⟨y,h1,h2⟩:=hd;exact Uh d id h y h1
theorem OJ(d:D)(hk:d.ok)(id:Nat)(h:Heap)(hd:bF h id d):ai Tryz.prog 115 [.ptr id 0] h fun r h' =>r= .sl (d.b.map aK) .no∧h' =h:=by obtain⟨y,h1,h2⟩:=hd;exact Rg d hk id h y h1 h2
theorem QM(d:D)(id:Nat)(h:Heap)(hd:bF h id d):ai Tryz.prog 116 [.ptr id 0] h fun r h' =>r= .i d.b.length∧h' =h:=by obtain⟨y,h1,h2⟩:=hd;exact T3 d id h y h1 h2
theorem iN{b:List UInt8}(h1:d.off=false)(h2:d.b.length+b.length≤d.q):d.append b=(D.burn {d with b:=d.b++b},if(D.burn {d with b:=d.b++b}).off then 9 else 0):=by simp_all [D.append,if_neg]
theorem D.R8(h:d.f=0):d.burn=d:=by simp_all [D.burn,if_neg]
theorem D.ZA(h1:d.off=false)(h2:d.f=0)(h3:n≤d.b.length):d.cut n=({d with b:=d.b.take n,sy:=min d.sy n},0):=by simp_all [D.cut,if_neg,D.R8]
theorem D.Gf{b:List UInt8}(h1:d.off=false)(h2:d.q<d.b.length+b.length):d.append b=(d,8):=by simp_all [D.append,if_neg,if_pos]
def rA(s:BitVec 32):BitVec 32:=if s &&& 1#32=1#32 then(s>>>1) ^^^ 0xedb88320#32 else s>>>1
def yV:Nat→BitVec 32→BitVec 32
 |0,s=>s
 |n+1,s=>rA (yV n s)
def jG(s:BitVec 32)(c:UInt8):BitVec 32:=yV 8 (s ^^^ BitVec.ofNat 32 c.toNat)
def crc(l:List UInt8):BitVec 32:= ~~~ (l.foldl jG (BitVec.allOnes 32))
theorem Tf(c:UInt8):IntKind.u32.wrap (c.toNat:Int)=((BitVec.ofNat 32 c.toNat).toNat:Int):=by rfl
theorem HK(x:BitVec 32):(((x &&& 1#32).toNat:Int)==1)=decide (x &&& 1#32=1#32):=by
 rw[Bool.eq_iff_iff,beq_iff_eq,decide_eq_true_iff];constructor
 ·intro h
  apply BitVec.eq_of_toNat_eq
  grind
 grind
theorem O3(y:AV)(l:List UInt8)(h:Heap)(hb:By h y l)(hl:l.length≤1000000000):
  ai Tryz.prog 183 [y] h fun r h' =>r= .v (.int .u32 ((crc l).toNat:Int))∧h' =h:=by
 refine aw Tryz.func183 31 [.tmp 2] ?_
 simp only[go_sem,hb.len];refine .intro (fun m ρ h' =>h' =h∧∃i:Nat,i≤l.length∧m=l.length - i∧lk ρ 7=some y∧lk ρ 8=some (.i l.length)∧lk ρ 9=some (.i i)∧lk ρ 3=some (.v (.int .u32 (((l.take i).foldl jG (BitVec.allOnes 32)).toNat:Int)))) l.length ?_ ?_
 ·refine⟨rfl,0,afu,rfl,?_,?_,?_,?_⟩<;>simp only[go_sem]
  rfl
 ·rintro m ρ h' ⟨rfl,i,hi,rfl,r7,r8,r9,r3⟩
  simp only[go_sem,r7,r8,r9,r3];refine .intro (fun e=>?_) (fun e=>?_)
  ·have hlt:i<l.length:=afq e
   have w1:IntKind.i64.wrap ((i:Int)+1)=((i+1:Nat):Int):=afG;have hs:(l.take (i+1)).foldl jG (BitVec.allOnes 32)=jG ((l.take i).foldl jG (BitVec.allOnes 32)) l[i]:=by grind [List.take_succ_eq_append_getElem]
   generalize (l.take i).foldl jG (BitVec.allOnes 32)=s at r3 hs;simp only[go_sem,r7,r8,r9,r3];refine hb.idx i rfl hlt u5 u5a fun p hp=>?_
   simp only[go_sem,r7,r8,r9,r3,hp _,Tf];refine .intro (fun m ρ h2=>h2=h'∧∃j:Nat,j≤8∧m=8 - j∧lk ρ 7=some y∧lk ρ 8=some (.i l.length)∧lk ρ 9=some (.i i)∧lk ρ 17=some (.i j)∧lk ρ 3=some (.v (.int .u32 ((yV j (s ^^^ BitVec.ofNat 32 l[i].toNat)).toNat:Int)))) 8 ?_ ?_
   ·refine⟨rfl,0,afu,rfl,?_,?_,?_,?_,?_⟩<;>simp only[go_sem,r7,r8,r9,r3]
    rfl
   ·rintro m ρ h2 ⟨rfl,j,hj,rfl,q7,q8,q9,q17,q3⟩
    simp only[go_sem,q7,q8,q9,q17,q3];refine .intro (fun e=>?_) (fun e=>?_)
    ·have hjl:j<8:=by grind
     have w2:IntKind.i64.wrap ((j:Int)+1)=((j+1:Nat):Int):=afG;have hc:yV (j+1) (s ^^^ BitVec.ofNat 32 l[i].toNat)=rA (yV j (s ^^^ BitVec.ofNat 32 l[i].toNat)):=rfl;generalize yV j (s ^^^ BitVec.ofNat 32 l[i].toNat)=z at q3 hc;simp only[go_sem,q7,q8,q9,q17,q3,HK];refine .intro (fun e2=>?_) (fun e2=>?_)
     ·simp only[go_sem,q7,q8,q9,q17,q3,HK,w2]
      refine⟨_,?_,rfl,j+1,afu,rfl,?_,?_,?_,?_,?_⟩
      rotate_left 5
      ·simp only[go_sem,q7,q8,q9,q17,q3]
       simp_all [rA,if_pos,afl]
      ·omega
      all_goals simp only[go_sem,q7,q8,q9,q17,q3,w2]
     ·simp only[go_sem,q7,q8,q9,q17,q3,HK,w2]
      refine⟨_,?_,rfl,j+1,afu,rfl,?_,?_,?_,?_,?_⟩
      rotate_left 5
      ·simp only[go_sem,q7,q8,q9,q17,q3]
       simp_all [rA,if_neg,afm]
      ·omega
      all_goals simp only[go_sem,q7,q8,q9,q17,q3,w2]
    ·have hj8:j=8:=by grind
     subst hj8;simp only[go_sem,q7,q8,q9,q17,q3,w1];refine⟨_,?_,rfl,i+1,afu,rfl,?_,?_,?_,?_⟩
     rotate_left 4
     ·simp only[go_sem,q7,q8,q9,q17,q3]
      rw[hs];rfl
     ·omega
     all_goals simp only[go_sem,q7,q8,q9,q17,q3,w1]
  ·have hge:i=l.length:=by grind
   subst hge;rw[List.take_length]at r3;simp only[go_sem,r7,r8,r9,r3];exact afE
def pg(n:Nat):List UInt8:=[UInt8.ofNat n,UInt8.ofNat (n / 256),UInt8.ofNat (n / 65536),UInt8.ofNat (n / 16777216)]
def fQ(l:List UInt8):Nat:=(l.getD 0 0).toNat+(l.getD 1 0).toNat*256+(l.getD 2 0).toNat*65536+(l.getD 3 0).toNat*16777216
theorem I2(n:Nat)(hn:n<4294967296)(h:Heap):ai Tryz.prog 182 [.v (.int .u32 (n:Int))] h fun r h' =>r= .sl ((pg n).map aK) .no∧h' =h:=by
 refine aw Tryz.func182 15 [.tmp 2] ?_
 have s8:=fun K=>MN (U:=U) (ty:=273) (K:=K) n 8 .u64 afy
 have s16:=fun K=>MN (U:=U) (ty:=273) (K:=K) n 16 .u64 afy
 have s24:=fun K=>MN (U:=U) (ty:=273) (K:=K) n 24 .u64 afy
 simp only[Int.cast_ofNat_Int]at s8 s16 s24;simp only[go_sem,↓s8,↓s16,↓s24,w8];exact ahL
theorem Es(y:AV)(l:List UInt8)(h:Heap)(hb:By h y l)(hl:4≤l.length):ai Tryz.prog 219 [y] h fun r h' =>r= .v (.int .u32 (fQ l:Nat))∧h' =h:=by
 refine aw Tryz.func219 25 [.tmp 2] ?_
 have lt:∀c:UInt8,c.toNat<256:=fun c=>c.toNat_lt
 have hnum:fQ l=l[0].toNat+l[1].toNat*2 ^ 8+l[2].toNat*2 ^ 16+l[3].toNat*2 ^ 24:=by grind [fQ]
 generalize hc0:l[0]=c0 at hnum;generalize hc1:l[1]=c1 at hnum;generalize hc2:l[2]=c2 at hnum;generalize hc3:l[3]=c3 at hnum;have v:=fun c:UInt8=>w32 c.toNat afv
 have s1:=fun K=>Gk (U:=U) (ty:=273) (K:=K) c1.toNat 8 .u64 afy (lt _)
 have s2:=fun K=>Gk (U:=U) (ty:=273) (K:=K) c2.toNat 16 .u64 afy (lt _)
 have s3:=fun K=>Gk (U:=U) (ty:=273) (K:=K) c3.toNat 24 .u64 afy (lt _)
 have o1:=fun K=>MM (U:=U) (ty:=273) (K:=K) c0.toNat c1.toNat 8 afv afy (lt _)
 have o2:=fun K=>MM (U:=U) (ty:=273) (K:=K) (c0.toNat+c1.toNat*2 ^ 8) c2.toNat 16 afv afy (lt _)
 have o3:=fun K=>MM (U:=U) (ty:=273) (K:=K) (c0.toNat+c1.toNat*2 ^ 8+c2.toNat*2 ^ 16) c3.toNat 24 afv afy (lt _)
 simp only[Int.cast_ofNat_Int]at s1 s2 s3;simp only[go_sem];refine⟨.of afx,?_⟩;refine hb.idx 0 rfl afu u5 u5a fun p0 hp0=>?_
 rw[hc0]at hp0;simp only[go_sem,hp0 _,v];refine hb.idx 1 rfl afu u5 u5a fun p1 hp1=>?_
 rw[hc1]at hp1;simp only[go_sem,hp1 _,v,↓s1,↓o1];refine hb.idx 2 rfl afu u5 u5a fun p2 hp2=>?_
 rw[hc2]at hp2;simp only[go_sem,hp2 _,v,↓s2,↓o2];refine hb.idx 3 rfl afu u5 u5a fun p3 hp3=>?_
 rw[hc3]at hp3;simp only[go_sem,hp3 _,v,↓s3,↓o3];refine .same (.refl _) ⟨?_,rfl⟩;rw[hnum];rfl
theorem and_one(s:BitVec 32):(s &&& 1#32=1#32)↔s.getLsbD 0=true:=by
 constructor
 ·intro h
  have:=congrArg (fun x=>x.getLsbD 0) h
  simpa using this
 grind
theorem xlc(a b c:BitVec 32):a ^^^ (b ^^^ c)=b ^^^ (a ^^^ c):=afv
theorem xss(a b:BitVec 32):a ^^^ (b ^^^ a)=b:=afv
theorem Gw(a b:BitVec 32):rA (a ^^^ b)=rA a ^^^ rA b:=by unfold rA;simp only[and_one,BitVec.getLsbD_xor,BitVec.ushiftRight_xor_distrib];cases a.getLsbD 0<;>cases b.getLsbD 0<;>simp[BitVec.xor_assoc,BitVec.xor_comm,xlc,xss]
theorem MY(n:Nat)(a b:BitVec 32):yV n (a ^^^ b)=yV n a ^^^ yV n b:=by
 induction n with
 |zero=>rfl
 |succ n ih=>grind [yV,Gw]
def turned:Nat→BitVec 32
 |0=>0#32
 |k+1=>yV 8 (turned k ^^^ 255#32)
theorem TJ(c:UInt8):BitVec.ofNat 32 (~~~ c).toNat=BitVec.ofNat 32 c.toNat ^^^ 255#32:=by
 have:∀i:Fin 256,BitVec.ofNat 32 (~~~ (UInt8.ofNat i)).toNat=BitVec.ofNat 32 (UInt8.ofNat i).toNat ^^^ 255#32:=by decide+kernel
 have h:=this ⟨c.toNat,c.toNat_lt⟩;simpa using h
theorem KF(l:List UInt8):∀(s d:BitVec 32) (k:Nat),d=turned k→(l.map (~~~ ·)).foldl jG (s ^^^ d)=l.foldl jG s ^^^ turned (k+l.length):=by
 induction l with
 |nil=>simp
 |cons c l ih=>
  intro s d k hd;simp only[List.map_cons,List.foldl_cons,List.length_cons];have:jG (s ^^^ d) (~~~ c)=jG s c ^^^ turned (k+1):=by
   unfold jG;rw[TJ,show s ^^^ d ^^^ (BitVec.ofNat 32 c.toNat ^^^ 255#32)=(s ^^^ BitVec.ofNat 32 c.toNat) ^^^ (d ^^^ 255#32) by grind,MY,hd]
   rfl
  rw[this,ih _ _ (k+1) rfl]
  congr 2;omega
theorem D5(a u:List UInt8):crc (a++u.map (~~~ ·))=crc (a++u) ^^^ turned u.length:=by
 unfold crc;have:=KF u (a.foldl jG (BitVec.allOnes 32)) 0#32 0 rfl;apply BitVec.eq_of_getLsbD_eq
 grind
theorem Iq(k:Nat)(h1:1≤k)(h2:k≤3):(turned k).toNat % 256≠0:=by have:k=1∨k=2∨k=3:=afu;rcases this with rfl|rfl|rfl<;>decide+kernel
theorem L4(k:Nat)(h1:1≤k)(h2:k≤4):turned k≠0#32:=by have:k=1∨k=2∨k=3∨k=4:=afu;rcases this with rfl|rfl|rfl|rfl<;>decide+kernel
theorem RM(a d:BitVec 32)(h:(a ^^^ d).toNat % 256=a.toNat % 256):d.toNat % 256=0:=by
 rw[BitVec.toNat_xor]at h;have e:∀x y:Nat,(x ^^^ y) % 256=(x % 256) ^^^ (y % 256):=fun x y=>by rw[show 256=2 ^ 8 by rfl,Nat.xor_mod_two_pow]
 rw[e]at h;have:=congrArg (fun z=>(a.toNat % 256) ^^^ z) h
 simpa[←Nat.xor_assoc]using this
theorem UP(a d:BitVec 32)(hd:d≠0#32):a ^^^ d≠a:=fun h=>hd (by
 have:=congrArg (fun z=>a ^^^ z) h
 simpa[←BitVec.xor_assoc]using this)
theorem uw(n:Nat):(pg n).length=4:=rfl
theorem sA(n:Nat)(hn:n<4294967296)(r:List UInt8):fQ (pg n++r)=n:=by grind [fQ,pg,List.getD_cons_zero,List.getD_cons_succ,UInt8.toNat_ofNat']
theorem Q1(l:List UInt8):fQ l<4294967296:=by
 have h:∀c:UInt8,c.toNat<256:=fun c=>c.toNat_lt
 have h0:=h (l.getD 0 0);have h1:=h (l.getD 1 0);have h2:=h (l.getD 2 0);have h3:=h (l.getD 3 0);unfold fQ;omega
def frame(p:List UInt8):List UInt8:=pg p.length++pg (crc p).toNat++p
theorem cX(p:List UInt8):(frame p).length=8+p.length:=by grind [frame,uw]
def fP(l:List UInt8):Option (List UInt8):=
 if l.length<8 then none else if fQ l<1∨8192<fQ l∨l.length - 8<fQ l then none else
  if(crc ((l.drop 8).take (fQ l))).toNat=fQ (l.drop 4)then some ((l.drop 8).take (fQ l))else none
theorem og(h:fP l=some p):8+p.length≤l.length∧1≤p.length∧p.length≤8192:=by
 unfold fP at h;split at h
 ·cases h
 ·split at h
  ·cases h
  ·split at h
   ·simp only[Option.some.injEq]at h
    subst h;rw[List.length_take,List.length_drop];omega
   ·cases h
theorem AT(p r:List UInt8)(h1:1≤p.length)(h2:p.length≤8192):fP (frame p++r)=some p:=by
 have e1:fQ (frame p++r)=p.length:=by grind [frame,List.append_assoc,sA]
 have e2:(frame p++r).drop 4=pg (crc p).toNat++(p++r):=by rfl
 have e3:(frame p++r).drop 8=p++r:=by rfl
 unfold fP;rw[if_neg (by grind [afn,cX]),e1,if_neg (by grind [afn,cX]),e2,e3,List.take_left,sA _ (crc p).isLt,if_pos rfl]
theorem lH(l:List UInt8)(h:l.length<8):fP l=none:=by simp_all [fP,if_pos]
def scan(l:List UInt8):List (List UInt8)×Nat:=match h:fP l with
 |none=>([],0)
 |some p=>let r:=scan (l.drop (8+p.length));(p::r.1,8+p.length+r.2)
termination_by l.length
decreasing_by
 have:=og h;rw[List.length_drop];omega
theorem nv(h:fP l=none):scan l=([],0):=by grind [scan]
theorem sF(h:fP l=some p):scan l=(p::(scan (l.drop (8+p.length))).1,8+p.length+(scan (l.drop (8+p.length))).2):=by grind [scan]
def frames(ps:List (List UInt8)):List UInt8:=(ps.map frame).flatten
theorem Et(p:List UInt8)(ps:List (List UInt8)):frames (p::ps)=frame p++frames ps:=afJ
theorem iR(p:List UInt8)(ps:List (List UInt8)):frames (ps++ [p])=frames ps++frame p:=by simp[frames]
theorem xD(ps:List (List UInt8))(r:List UInt8)(h:∀p∈ps,1≤p.length∧p.length≤8192):scan (frames ps++r)=(ps++(scan r).1,(frames ps).length+(scan r).2):=by
 induction ps with
 |nil=>simp[frames]
 |cons p ps ih=>
  have hp:=h p afB;have hb:=AT p (frames ps++r) hp.1 hp.2;rw[Et,List.append_assoc,sF hb,List.drop_left' (cX p),ih fun q hq=>h q afv]
  simp[cX];omega
theorem JG(l:List UInt8):(scan l).2≤l.length:=by
 induction hn:l.length using Nat.strongRecOn generalizing l with
 |_ n ih=>
  cases hb:fP l with
  |none=>simp_all [nv,Nat.zero_le]
  |some p=>have hl:=og hb;rw[sF hb];have:=ih (l.drop (8+p.length)).length afv _ rfl;rw[List.length_drop]at this;omega
theorem oQ(l:List UInt8)(s k:Nat)(h:k≤s):(bM l s).drop k=bM (l.drop k) (s - k):=by
 unfold bM;rcases Nat.lt_or_ge l.length s with hs|hs
 ·grind [List.drop_eq_nil_of_le,List.take_of_length_le,List.drop_drop,List.length_drop]
 grind [List.length_take,List.drop_drop,List.drop_take]
theorem zi(l:List UInt8)(s k:Nat)(h:s≤k)(hs:s≤l.length):(bM l s).drop k=(l.drop k).map (~~~ ·):=by simp_all [bM,List.drop_append,List.drop_eq_nil_of_le,List.length_take,List.nil_append,List.map_drop,List.drop_drop]
theorem sS(l:List UInt8)(s i:Nat)(h:i<s):(bM l s).getD i 0=l.getD i 0:=by
 unfold bM
 grind
theorem BZ(l:List UInt8)(s:Nat)(h:4≤s):fQ (bM l s)=fQ l:=by grind [fQ,sS]
theorem Ll(l:List UInt8)(k:Nat)(h:4≤k):fQ (l.take k)=fQ l:=by
 have:∀i,i<4→(l.take k).getD i 0=l.getD i 0:=fun i hi=>by simp only[List.getD_eq_getElem?_getD,List.getElem?_take,if_pos (show i<k by omega)]
 unfold fQ;rw[this 0 afu,this 1 afu,this 2 afu,this 3 afu]
theorem Oe(l:List UInt8):fQ l % 256=(l.getD 0 0).toNat:=by have:=(l.getD 0 0).toNat_lt;unfold fQ;omega
theorem L3(p:List UInt8)(h1:1≤p.length)(h2:p.length≤8192)(K t:Nat)(hK:K≤(frame p).length)(ht:t≤4)(hne:¬(K=(frame p).length∧t=0)):fP (bM ((frame p).take K) (K - min t K))=none:=by
 have hl:=cX p;have hlen:(bM ((frame p).take K) (K - min t K)).length=K:=by grind [jH,List.length_take]
 rcases Nat.lt_or_ge K 8 with h8|h8
 ·exact lH _ afu
 ·have e1:fQ (bM ((frame p).take K) (K - min t K))=p.length:=by grind [BZ,Ll,frame,List.append_assoc,sA]
  unfold fP;rw[if_neg afu,e1,hlen];rcases Nat.lt_or_ge K (frame p).length with hf|hf
  ·rw[if_pos afu]
  ·obtain rfl:K=(frame p).length:=by omega
   rw[if_neg afu,if_neg ?_];have hm:min t (frame p).length=t:=afu;rw[hm,List.take_length];have t0:1≤t:=afu;have e3:(frame p).drop 8=p:=afJ;have e4:(frame p).drop 4=pg (crc p).toNat++p:=afJ;rcases Nat.lt_or_ge p.length t with hp|hp
   ·
    have d8:(bM (frame p) ((frame p).length - t)).drop 8=p.map (~~~ ·):=by grind [zi]
    have hc:crc (p.map (~~~ ·))=crc p ^^^ turned p.length:=by have:=D5 [] p;simpa using this
    rw[d8,List.take_of_length_le afB,hc];intro hh;have hlow:=Oe ((bM (frame p) ((frame p).length - t)).drop 4);rw[←hh,oQ _ _ _ afu,e4,sS _ _ _ afu]at hlow;have h4:((pg (crc p).toNat++p).getD 0 0).toNat=(crc p).toNat % 256:=by rfl
    rw[h4]at hlow;exact Iq p.length h1 afu (RM _ _ hlow)
   ·have d8:(bM (frame p) ((frame p).length - t)).drop 8=p.take (p.length - t)++(p.drop (p.length - t)).map (~~~ ·):=by rw[oQ _ _ _ afu,e3,hl,show 8+p.length - t - 8=p.length - t by omega];rfl
    have hc:crc (p.take (p.length - t)++(p.drop (p.length - t)).map (~~~ ·))=crc p ^^^ turned t:=by rw[D5,List.take_append_drop,List.length_drop,show p.length - (p.length - t)=t by omega]
    have d4:fQ ((bM (frame p) ((frame p).length - t)).drop 4)=(crc p).toNat:=by
     rw[oQ _ _ _ afu,BZ _ _ afu,e4]
     grind [sA,crc]
    rw[d8,List.take_of_length_le afB,hc,d4];intro hh
    grind [UP,L4,BitVec.eq_of_toNat_eq]
theorem Ns(y:AV)(l:List UInt8)(h:Heap)(hb:By h y l)(hl:l.length≤1000000):
  ai Tryz.prog 132 [y] h fun r h' =>r= .sl ((frame l).map aK) .no∧Sub h h' :=by
 refine aw Tryz.func132 13 [.tmp 2] ?_
 have w1:=w32 l.length afu;simp only[go_sem,hb.len,w1];refine(I2 l.length afu h).pthen ?_;simp only[go_sem];refine(O3 y l h hb afu).pthen ?_;simp only[go_sem];refine(I2 (crc l).toNat (crc l).isLt h).pthen ?_;simp only[go_sem,hb.cells,hb.fit];refine(Bz [.sl ((pg l.length).map aK) .no,.sl ((pg (crc l).toNat).map aK) .no,y] [pg l.length,pg (crc l).toNat,l] .full h (.cons (.sl _ _) (.cons (.sl _ _) (.cons hb .nil))) ?_ afB).sthen fun h' hs=>?_
 ·grind [uw]
 simp only[go_sem];refine .same (.refl _) ⟨?_,hs⟩;simp[frame,ax]
theorem C1(y:AV)(l:List UInt8)(h:Heap)(hb:By h y l)(hl:l.length≤2000000):
  ai Tryz.prog 165 [y] h fun r h' =>(∃P p b,r= .tup [P,.b b]∧By h P p∧fP l=if b=true then some p else none)∧h' =h:=by
 refine aw Tryz.func165 36 [.tmp 2,.tmp 3] ?_
 rcases Nat.lt_or_ge l.length 8 with h8|h8
 ·have t1:decide ((l.length:Int)<8)=true:=decide_eq_true afu
  simp only[go_sem,hb.len,t1];exact .same (.refl _) ⟨⟨_,[],false,rfl,.nil _,lH l h8⟩,rfl⟩
 ·have t1:decide ((l.length:Int)<8)=false:=decide_eq_false afu
  simp only[go_sem,hb.len,t1];refine(Es y l h hb afu).pthen ?_;have hn:=Q1 l;have w1:IntKind.i64.wrap ((fQ l:Nat):Int)=((fQ l:Nat):Int):=aW _ afu;have w2:IntKind.i64.wrap ((l.length:Int) - 8)=((l.length - 8:Nat):Int):=af0
  by_cases hbad:fQ l<1∨8192<fQ l∨l.length - 8<fQ l
  ·have hnone:fP l=none:=by unfold fP;rw[if_neg afu,if_pos hbad]
   have fin:∀Z:Prop,Z→Z:=fun _ z=>z
   by_cases c1:fQ l<1
   ·have t2:decide (((fQ l:Nat):Int)<1)=true:=decide_eq_true afu
    simp only[go_sem,hb.len,w1,w2,t2];exact ag0
   ·have t2:decide (((fQ l:Nat):Int)<1)=false:=decide_eq_false afu
    by_cases c2:8192<fQ l
    ·have t3:decide ((8192:Int)<((fQ l:Nat):Int))=true:=decide_eq_true afu
     simp only[go_sem,hb.len,w1,w2,t2,t3];exact ag0
    ·have t3:decide ((8192:Int)<((fQ l:Nat):Int))=false:=decide_eq_false afu
     have t4:decide (((l.length - 8:Nat):Int)<((fQ l:Nat):Int))=true:=decide_eq_true afu;simp only[go_sem,hb.len,w1,w2,t2,t3,t4];exact ag0
  ·have t2:decide (((fQ l:Nat):Int)<1)=false:=decide_eq_false afu
   have t3:decide ((8192:Int)<((fQ l:Nat):Int))=false:=decide_eq_false afu;have t4:decide (((l.length - 8:Nat):Int)<((fQ l:Nat):Int))=false:=decide_eq_false afu;have w3:IntKind.i64.wrap ((8:Int)+((fQ l:Nat):Int))=((8+fQ l:Nat):Int):=af0;simp only[go_sem,hb.len,w1,w2,t2,t3,t4,w3];refine hb.cut (m:=8) (m2:=(8+fQ l:Nat)) (x:=.i64) (x2:=.i64) 8 (8+fQ l) ?_ rfl ?_ rfl afu afu u5 fun z hz=>?_
   ·simp only[go_sem]
   ·simp only[go_sem]
   rw[Nat.add_sub_cancel_left]at hz;have hzl:((l.drop 8).take (fQ l)).length≤1000000:=by rw[List.length_take,List.length_drop];omega
   simp only[go_sem];refine .quiet afx ?_;simp only[go_sem];refine⟨_,O3 z _ h hz afu,?_⟩;simp only[go_sem];refine hb.from (m:=4) (x:=.i64) 4 ?_ rfl afu u5 fun z4 hz4=>?_
   ·simp only[go_sem]
   simp only[go_sem];refine⟨_,Es z4 _ h hz4 ag4,?_⟩;simp only[go_sem];refine .same (.refl _) ⟨⟨z,_,_,rfl,hz,?_⟩,rfl⟩;unfold fP;rw[if_neg afu,if_neg hbad]
   by_cases hc:(crc ((l.drop 8).take (fQ l))).toNat=fQ (l.drop 4)
   ·rw[if_pos hc,hc];simp
   ·rw[if_neg hc,if_neg]
    simp only[beq_iff_eq];omega
theorem Rz:(U 76).bytes=24:=afJ
def nS(p:List UInt8):AV:=.sl (p.map aK) .no
theorem JF(ps:List (List UInt8))(h:Heap):Ab.Rows 5 h (ps.map nS) ps:=⟨afB,fun i h1 h2=>by simp only[afk];exact .sl _ _⟩
theorem An(ps:List (List UInt8)):Sized 1 (ps.map nS):=(JF ps cY).sized
def iI(h:Heap)(y:AV)(xs:List AV)(sp:List Nat):Prop:=(y= .sl xs .full∧sp= [])∨∃k,y= .sl xs (.own k)∧h k=some (.spare xs.length 1)∧sp= [k]
theorem LK(h:scan l=(ps++(scan (l.drop at_)).1,at_+(scan (l.drop at_)).2))(hp:fP (l.drop at_)=some p):
  scan l=((ps++ [p])++(scan (l.drop (at_+(8+p.length)))).1,(at_+(8+p.length))+(scan (l.drop (at_+(8+p.length)))).2):=by
 simp_all [sF,List.drop_drop,Nat.add_assoc]
theorem Rl(y:AV)(l:List UInt8)(h:Heap)(hb:By h y l)(hl:l.length≤2000000):
  ai Tryz.prog 114 [y] h fun r h' =>∃z sp,r= .tup [z,.i ((scan l).2:Nat)]∧iI h' z ((scan l).1.map nS) sp∧Sub h h'∧∀i∈sp,h i=none:=by
 refine aw Tryz.func114 29 [.tmp 2,.tmp 3] ?_
 simp only[go_sem];refine .intro (fun m ρ h' =>∃(i:Nat) (ps:List (List UInt8)) (z:AV),Acc U 76 h h' z (ps.map nS)∧fZ h h'∧ps.length≤i∧i≤l.length∧m=l.length - i∧scan l=(ps++(scan (l.drop i)).1,i+(scan (l.drop i)).2)∧
  lk ρ 0=some y∧lk ρ 4=some z∧lk ρ 5=some (.i (i:Nat))) l.length ?_ ?_
 ·refine⟨0,[],_,.full (.refl h),.refl h,afB,afu,rfl,afB,?_,?_,?_⟩<;>simp only[go_sem]
 ·rintro m ρ h' ⟨i,ps,z,ha,hk,hpi,hi,rfl,hsc,r0,r4,r5⟩
  have hb' :=hb.gF hk;simp only[go_sem,r0,r4,r5];refine hb'.from (m:=i) (x:=.i64) i ?_ rfl hi u5 fun y2 hy2=>?_
  ·rfl
  simp only[go_sem,r0,r4,r5];refine(C1 y2 (l.drop i) h' hy2 afv).mono fun r h2 ⟨⟨P,p,b,e1,hP,hbg⟩,e2⟩=>?_
  subst e1;subst e2
  cases b with
  |false=>
   rw[if_neg afB]at hbg;rw[nv hbg]at hsc;simp only[go_sem,r0,r4,r5];have hs:=ha.1;rw[hsc];rcases ha.2 with rfl|⟨k,k1,rfl,k2⟩
   ·exact .same (.refl _) ⟨_,[],rfl,.inl ⟨afB,rfl⟩,hs,afB⟩
   ·rw[u27]at k2
    exact .same (.refl _) ⟨_,[k],rfl,.inr ⟨k,afB,afv,rfl⟩,hs,afv⟩
  |true=>
   rw[if_pos rfl]at hbg;have hpl:=og hbg;rw[List.length_drop]at hpl;have hsc' :=LK hsc hbg;have w1:IntKind.i64.wrap ((8:Int)+(p.length:Int))=((8+p.length:Nat):Int):=afG;have w2:IntKind.i64.wrap ((i:Int)+((8+p.length:Nat):Int))=((i+(8+p.length):Nat):Int):=afG;simp only[go_sem,r0,r4,r5];refine(ru P p h2 hP afu).pthen' ?_;simp only[go_sem,r0,r4,r5];refine ha.app (zs:=[nS p]) afy afy (fun k hk=>hk) (by grind [u27,An]) (by grind [u27,Sized,nS,AV.cells]) (by grind [Rz]) fun z' h3 ha' hk' =>?_
   rw[show ps.map nS++ [nS p]=(ps++ [p]).map nS by simp]at ha'
   have hP3:=hP.gF hk';simp only[go_sem,r0,r4,r5,hP3.len,w1,w2];refine⟨_,?_,i+(8+p.length),ps++ [p],z',ha',hk.trans hk',afv,afu,rfl,hsc',?_,?_,?_⟩
   ·omega
   all_goals simp only[go_sem,r0,r4,r5,hP3.len,w1,w2]
theorem Rm(l:List UInt8):(scan l).1.length≤l.length∧∀p∈(scan l).1,p.length≤8192:=by
 induction hn:l.length using Nat.strongRecOn generalizing l with
 |_ n ih=>
  cases hb:fP l with
  |none=>simp_all [nv,Nat.zero_le]
  |some p=>
   have hl:=og hb;rw[sF hb]
   grind
theorem iI.row{h:Heap}{y:AV}{xs:List AV}(hg:iI h y xs sp):∃q,y= .sl xs q:=by rcases hg with⟨rfl,_⟩|⟨k,rfl,_⟩<;>exact⟨_,rfl⟩
def Touch(S:List Nat)(h h' :Heap):Prop:=∀j k,j∉S→h j=some k→h' j=some k
theorem Touch.refl(S:List Nat)(h:Heap):Touch S h h:=fun _ _ _ e=>e
theorem Touch.trans{a b c:Heap}(x:Touch S a b)(y:Touch T b c):Touch (S++T) a c:=fun j k e hj=>y j k afv (x j k afv hj)
theorem Touch.of{h h' :Heap}(hs:Ab.Sub h h'):Touch S h h' :=fun _ _ _ e=>hs _ _ e
theorem Touch.keep{i:Nat}{h h' :Heap}(hs:Keep i h h'):Touch [i] h h' :=fun j k e hj=>hs j k afv hj
theorem Touch.upd{h:Heap}{i:Nat}{k:Option Blk}:Touch [i] h (upd h i k):=Touch.keep (Keep.upd i k)
theorem Touch.mono{h h' :Heap}(ht:Touch S h h')(hs:∀i∈S,i∈T∨h i=none):Touch T h h' :=fun j k e hj=>ht j k afv hj
theorem iI.touch{h h' :Heap}{y:AV}{xs:List AV}(hg:iI h y xs sp)(ht:Touch S h h')(hn:∀i∈sp,i∉S):iI h' y xs sp:=by
 rcases hg with⟨rfl,rfl⟩|⟨k,rfl,k1,rfl⟩
 ·exact .inl ⟨rfl,rfl⟩
 ·exact .inr ⟨k,rfl,ht _ _ (hn k afB) k1,rfl⟩
theorem iI.has{h:Heap}{y:AV}{xs:List AV}(hg:iI h y xs sp):∀i∈sp,∃n,h i=some (.spare n 1):=by
 rcases hg with⟨rfl,rfl⟩|⟨k,rfl,k1,rfl⟩
 ·simp
 grind
theorem iI.app{h:Heap}{y v:AV}{xs zs:List AV}(hg:iI h y xs sp)(hsrc:∀k:List AV→Prop,k zs→iY U 76 h v k)(s1:Sized 1 xs)(s2:Sized 1 zs)
  (hlen:xs.length+zs.length≤1000000000000) (hk:∀y' h' sp',iI h' y' (xs++zs) sp'→Touch sp h h'→(∀i∈sp',i∈sp∨h i=none)→Q y' h'):apK U h y v Q (.slice 76):=by
 rcases hg with⟨rfl,rfl⟩|⟨k,rfl,k1,rfl⟩
 ·refine(qX ..).mpr ⟨afy,afy,hsrc _ ⟨by grind [u27],by grind [u27],by grind [Rz],fun hn=>?_,fun hn=> .own fun id hid=>?_⟩⟩
  ·subst hn
   exact hk _ _ [] (.inl ⟨afB,rfl⟩) (.refl _ _) afB
  ·rw[u27]
   exact hk _ _ [id] (.inr ⟨id,rfl,by rw[ah,afn],rfl⟩) (.of ((Ab.Sub.refl h).new hid _)) afv
 ·refine(CM ..).mpr ⟨afy,afy,hsrc _ ⟨by grind [u27],by grind [u27],by grind [Rz],by grind [u27],?_⟩⟩
  rw[u27];exact hk _ _ [k] (.inr ⟨k,rfl,by rw[ah,afn],rfl⟩) .upd afB
def JAt(h:Heap)(t jid did:Nat)(ps:List (List UInt8))(down:Bool)(sp:List Nat):Prop:=
 ∃y xs,h jid=some (.obj [.ptr did 0,y,.b down] t)∧iI h y xs sp∧∀g,Ab.Rows 5 g xs ps
theorem JAt.touch{h h' :Heap}{t jid did:Nat}(hj:JAt h t jid did ps down sp)(ht:Touch S h h')(h1:jid∉S)(hn:∀i∈sp,i∉S):JAt h' t jid did ps down sp:=by obtain⟨y,xs,a,b,c⟩:=hj;exact⟨y,xs,ht _ _ h1 a,b.touch ht hn,c⟩
theorem JAt.sub{h h' :Heap}{t jid did:Nat}(hj:JAt h t jid did ps down sp)(ht:Ab.Sub h h'):JAt h' t jid did ps down sp:=
 hj.touch (S:=[]) (.of ht) afB afB
theorem LG{h:Heap}{xs:List AV}{x:AV}(hr:Ab.Rows 5 h xs ps)(hx:By h x p):Ab.Rows 5 h (xs++ [x]) (ps++ [p]):=⟨by simp[hr.1],fun i h1 h2=>by
 have hl:=hr.1
 by_cases hi:i<xs.length
 ·rw[List.getElem_append_left hi,List.getElem_append_left afu]
  exact hr.2 i hi afu
 ·have e:i=xs.length:=by grind
  subst e;simpa[hl]using hx⟩
theorem yf(jid did:Nat)(ps:List (List UInt8))(down:Bool)(sp:List Nat)(h:Heap)(hj:JAt h 207 jid did ps down sp):ai Tryz.prog 71 [.ptr jid 0] h fun r h' =>r= .b down∧h' =h:=by
 obtain⟨y,xs,a,_,_⟩:=hj;refine aw Tryz.func71 7 [.tmp 2] ?_
 simp only[go_sem,a];exact afE
theorem HQ(jid did:Nat)(ps:List (List UInt8))(down:Bool)(sp:List Nat)(h:Heap)(hj:JAt h 207 jid did ps down sp)(hl:ps.length≤1000000)(hp:∀p∈ps,p.length≤1000000):
  ai Tryz.prog 55 [.ptr jid 0] h fun r h' =>∃q,r= .sl (ps.map nS) q∧Ab.Sub h h' :=by
 obtain⟨y,xs,a,b,c⟩:=hj;refine aw Tryz.func55 22 [.tmp 2] ?_
 obtain⟨qy,rfl⟩:=b.row;have hlen:=(c h).1;simp only[go_sem,a];refine .intro (fun m ρ g=>∃(i:Nat) (z:AV),Acc U 76 h g z ((ps.take i).map nS)∧i≤ps.length∧m=ps.length - i∧lk ρ 3=some z∧lk ρ 9=some (.sl xs qy)∧lk ρ 10=some (.i xs.length)∧lk ρ 11=some (.i i)) (ps.length - 0) ?_ ?_
 ·refine⟨0,_,.full (.refl h),afu,rfl,?_,?_,?_,?_⟩<;>simp only[go_sem]
 ·rintro m ρ g ⟨i,z,ha,hi,rfl,r3,r9,r10,r11⟩
  by_cases hc:i<ps.length
  ·have d1:decide ((i:Int)<(xs.length:Int))=true:=decide_eq_true afu
   have w1:IntKind.i64.wrap ((i:Int)+1)=((i+1:Nat):Int):=afG;have hx:=(c g).2 i afu hc;simp only[go_sem,r3,r9,r10,r11,d1];refine .at i afu (by rw[hx.cells];rfl) ?_
   simp only[go_sem,r3,r9,r10,r11,hx.cells,hx.Ob,and_self];refine(ru xs[i] ps[i] g hx afv).pthen' ?_;simp only[go_sem,r3,r9,r10,r11];refine ha.app (v:=.sl [nS ps[i]] .full) (zs:=[nS ps[i]]) afy afy (fun k hk=>hk) (by grind [u27,An]) (by grind [u27,Sized,nS,AV.cells]) (by grind [Rz]) fun z' g2 ha' hk' =>?_
   simp only[go_sem,r3,r9,r10,r11,w1];refine⟨_,?_,i+1,z',?_,afu,rfl,?_,?_,?_,?_⟩
   ·omega
   ·grind [List.take_succ_eq_append_getElem]
   all_goals simp only[go_sem,r3,r9,r10,r11,w1]
  ·obtain rfl:i=ps.length:=by omega
   have d1:decide ((ps.length:Int)<(xs.length:Int))=false:=decide_eq_false afu;simp only[go_sem,r3,r9,r10,r11,d1];rw[List.take_length]at ha;obtain⟨q,rfl⟩:=ha.row;exact .same (.refl _) ⟨q,rfl,ha.1⟩
def D.bT(d:D):D×Nat:=
 let c:=if(scan d.b).2<d.b.length then d.cut ((scan d.b).2:Nat)else(d,0)
 if c.2=0 then c.1.sync else c
theorem D.Om(hd:d.ok):d.bT.1.ok:=by grind [scan,Nat,ok,D.CT,D.bT,sync,D.yA]
theorem NM(d:D)(hd:d.ok)(id:Nat)(h:Heap)(hdk:bF h id d):
  ai Tryz.prog 54 [.ptr id 0] h fun r h' =>∃J,r= .tup [J,.i (d.bT.2:Nat)]∧bF h' id d.bT.1∧Keep id h h'∧
   if d.bT.2=0 then∃jid sp,J= .ptr jid 0∧h jid=none∧JAt h' 207 jid id (scan d.b).1 false sp∧∀i∈sp,h i=none∧i≠jid else J= .v (.pointer none):=by
 refine ai.of_wp hU Tryz.func54 rfl afJ 35 rfl [.tmp 2,.tmp 3] rfl (afi rfl) ?_;refine .one hU hm ?_;simp only[go_sem]
 show WP _ _ _ _ _ _
 refine .one hU hm ?_;simp only[go_sem]
 show WP _ _ _ _ _ _
 have hlen:d.b.length≤2000000:=by have:=hd.1;have:=hd.2.1;omega
 obtain⟨at_,hat⟩:∃n,(scan d.b).2=n:=⟨_,rfl⟩;have hatl:=JG d.b;rw[hat]at hatl;refine .cut (fun ρ g=>∃z sp,iI g z ((scan d.b).1.map nS) sp∧Ab.Sub h g∧(∀i∈sp,h i=none)∧lk ρ 0=some (.ptr id 0)∧lk ρ 4=some z∧lk ρ 5=some (.i at_)) (.vc hU hm ?_) ?_
 ·simp only[go_sem]
  refine(OJ d hd id h hdk).pthen ?_;simp only[go_sem];refine(Rl _ d.b h (.sl _ _) hlen).mono fun r g ⟨z,sp,e1,hg,hs,hsp⟩=>?_
  subst e1;rw[hat];simp only[go_sem];refine⟨z,sp,hg,hs,hsp,?_,?_,?_⟩<;>simp only[go_sem]
 rintro ρ g ⟨z,sp,hg,hs,hsp,r0,r4,r5⟩
 have hdk1:=hdk.keep hs.gF;have hob:∀i∈sp,i≠id:=fun i hi e=>by
  obtain⟨y,hy,_⟩:=hdk
  grind
 refine .cut (fun ρ g=>∃d1,d.bT=d1.sync∧d1.ok∧bF g id d1∧iI g z ((scan d.b).1.map nS) sp∧Keep id h g∧lk ρ 0=some (.ptr id 0)∧lk ρ 4=some z) (.vc hU hm ?_) ?_
 ·simp only[go_sem,r0,r4,r5]
  refine(QM d id g hdk1).pthen ?_;simp only[go_sem,r0,r4,r5];refine .intro (fun e=>?_) (fun e=>?_)
  ·have e:=afl e
   have e' :at_<d.b.length:=afu;simp only[go_sem,r0,r4,r5];refine dthen (CT d hd id g at_ hdk1) fun g1 hd1 kp=>?_
   have hO:d.bT=if(d.cut (at_:Nat)).2=0 then(d.cut (at_:Nat)).1.sync else d.cut (at_:Nat):=by simp_all [D.bT,if_pos]
   have ok1:=D.CT hd at_;generalize d.cut (at_:Nat)=D0 at hO hd1 ok1⊢;obtain⟨D1,c1⟩:=D0;simp only at hO hd1 ok1⊢;simp only[go_sem,r0,r4,r5]
   by_cases hc:c1=0
   ·subst hc
    rw[if_pos rfl]at hO;simp only[go_sem,r0,r4,r5];refine⟨D1,hO,ok1,hd1,hg.touch (Touch.keep kp) afv,(hs.keep id).trans kp,?_,?_⟩<;>simp only[go_sem,r0,r4]
   ·rw[if_neg hc]at hO
    have t1:(((c1:Nat):Int) !=0)=true:=afv;simp only[go_sem,r0,r4,r5,t1];refine .same (.refl _) ⟨_,by rw[hO];rfl,afv,(hs.keep id).trans kp,?_⟩
    grind
  ·have e:=afm e
   have e' :¬at_<d.b.length:=afu;have hO:d.bT=d.sync:=by simp_all [D.bT,if_neg]
   simp only[go_sem,r0,r4,r5];refine⟨d,hO,hd,hdk1,hg,hs.keep id,?_,?_⟩<;>simp only[go_sem,r0,r4]
 rintro ρ g1 ⟨d1,hO,ok1,hd1,hg1,kp1,r0,r4⟩
 refine .vc hU hm ?_;simp only[go_sem,r0,r4];refine dthen (yA d1 ok1 id g1 hd1) fun g2 hd2 kp2=>?_
 rw[hO];generalize d1.sync=D0 at hd2⊢;obtain⟨D2,c2⟩:=D0;simp only at hd2⊢;have kp:=kp1.trans kp2;have hg2:=hg1.touch (Touch.keep kp2) afv;simp only[go_sem,r0,r4]
 by_cases hc:c2=0
 ·subst hc
  obtain⟨qz,rfl⟩:=hg2.row;simp only[go_sem,r0,r4];intro jid hjid;simp only[go_sem,r0,r4];have hne:jid≠id:=fun e=>by
   obtain⟨y,hy,_⟩:=hd2
   grind
  have hjh:h jid=none:=by
   cases hh:h jid with
   |none=>rfl
   |some k=>rw[kp _ _ hne hh]at hjid;omega
  have hsj:∀i∈sp,i≠jid:=fun i hi e=>by
   obtain⟨n,hn⟩:=hg2.has i hi
   grind
  refine .same (.refl _) ⟨_,rfl,hd2.keep (.new hjid),fun j k e hj=>?_,jid,sp,rfl,hjh,⟨_,_,ah ..,hg2.touch .upd afv,fun g=>JF _ g⟩,fun i hi=>⟨hsp i hi,hsj i hi⟩⟩
  have h2:=kp j k e hj;rw[ag _ _ afv];exact ajE
 ·have t1:(((c2:Nat):Int) !=0)=true:=by grind
  simp only[go_sem,r0,r4,t1];exact .same (.refl _) ⟨_,rfl,hd2,kp,afv⟩
def jadd(d:D)(ps:List (List UInt8))(down:Bool)(p:List UInt8):(D×List (List UInt8)×Bool)×Nat:=
 if down=true then((d,ps,true),9)else if p.length=0∨8192<p.length then((d,ps,false),1)else
  if(d.append (frame p)).2=8 then(((d.append (frame p)).1,ps,false),8)else
   if(if(d.append (frame p)).2=0 then(d.append (frame p)).1.sync else d.append (frame p)).2=0 then
    (((if(d.append (frame p)).2=0 then(d.append (frame p)).1.sync else d.append (frame p)).1,ps++ [p],false),0)
   else(((if(d.append (frame p)).2=0 then(d.append (frame p)).1.sync else d.append (frame p)).1,ps,true),9)
theorem D.DP(d:D)(b:List UInt8):(d.append b).2=0∨(d.append b).2=8∨(d.append b).2=9:=by grind [D.append]
theorem D.LX(d:D):d.sync.2=0∨d.sync.2=9:=by grind [D.sync]
theorem Jd(d:D)(hd:d.ok)(id jid:Nat)(ps:List (List UInt8))(down:Bool)(sp:List Nat)(h:Heap)(x:AV)(p:List UInt8)(hdk:bF h id d)(hj:JAt h 207 jid id ps down sp)(hx:By h x p)(hp:p.length≤1000000)(hps:ps.length≤1000000):
  ai Tryz.prog 72 [.ptr jid 0,x] h fun r h' =>r= .i ((jadd d ps down p).2:Nat)∧∃sp',bF h' id (jadd d ps down p).1.1∧JAt h' 207 jid id (jadd d ps down p).1.2.1 (jadd d ps down p).1.2.2 sp'∧
   Touch (id::jid::sp) h h'∧∀i∈sp',i∈sp∨h i=none:=by
 obtain⟨y,xs,hjid,hg,hrs⟩:=hj;have hne:jid≠id:=fun e=>by obtain⟨z,hz,_⟩:=hdk;rw[←e,hjid]at hz;simp only[Option.some.injEq,Blk.obj.injEq]at hz;exact absurd hz.2 afy
 refine ai.of_wp hU Tryz.func72 rfl afx 51 rfl [.tmp 4] rfl (afi rfl) ?_;refine .one hU hm ?_;simp only[go_sem]
 show WP _ _ _ _ _ _
 refine .one hU hm ?_;cases down with
 |true=>
  have hJ:jadd d ps true p=((d,ps,true),9):=by simp[jadd]
  simp only[go_sem,hjid];refine .same (.refl _) ?_;rw[hJ];exact⟨rfl,sp,hdk,⟨y,xs,hjid,hg,hrs⟩,.refl _ _,fun i hi=> .inl hi⟩
 |false=>
  simp only[go_sem,hjid]
  show WP _ _ _ _ _ _
  refine .one hU hm ?_;have bad:(p.length=0∨8192<p.length)→nZ [.i 1] h fun r h' =>r= .i ((jadd d ps false p).2:Nat)∧∃sp',bF h' id (jadd d ps false p).1.1∧JAt h' 207 jid id (jadd d ps false p).1.2.1 (jadd d ps false p).1.2.2 sp'∧
    Touch (id::jid::sp) h h'∧∀i∈sp',i∈sp∨h i=none:=fun hb=>by
   have hJ:jadd d ps false p=((d,ps,false),1):=by unfold jadd;rw[if_neg afB,if_pos hb]
   refine .same (.refl _) ?_;rw[hJ];exact⟨rfl,sp,hdk,⟨y,xs,hjid,hg,hrs⟩,.refl _ _,fun i hi=> .inl hi⟩
  by_cases h0:p.length=0
  ·have t0:(((p.length:Nat):Int)==0)=true:=by simp[h0]
   simp only[go_sem,hx.len,t0];exact bad (.inl h0)
  ·have t0:(((p.length:Nat):Int)==0)=false:=beq_eq_false_iff_ne.mpr afu
   by_cases h1:8192<p.length
   ·have t1:decide ((8192:Int)<(p.length:Int))=true:=decide_eq_true afu
    simp only[go_sem,hx.len,t0,t1];exact bad (.inr h1)
   ·have t1:decide ((8192:Int)<(p.length:Int))=false:=decide_eq_false afu
    have hJ:jadd d ps false p=if(d.append (frame p)).2=8 then(((d.append (frame p)).1,ps,false),8)else
      if(if(d.append (frame p)).2=0 then(d.append (frame p)).1.sync else d.append (frame p)).2=0 then
       (((if(d.append (frame p)).2=0 then(d.append (frame p)).1.sync else d.append (frame p)).1,ps++ [p],false),0)
      else(((if(d.append (frame p)).2=0 then(d.append (frame p)).1.sync else d.append (frame p)).1,ps,true),9):=by
     have hno:¬(p.length=0∨8192<p.length):=afu;unfold jadd;rw[if_neg afB,if_neg hno]
    have hcode:=D.DP d (frame p);simp only[go_sem,hx.len,t0,t1]
    show WP _ _ _ _ _ _
    refine .one hU hm ?_;simp only[go_sem];refine .calls (hm1 jid _) [0,1,2,3,4,5,6,7] (.hm1 hjid) afx rfl ?_;simp only[go_sem,hjid];refine(Ns x p h hx hp).sthen fun g1 hs1=>?_
    refine⟨.hm1 (hs1 _ _ hjid),?_⟩;simp only[go_sem];refine dthen (vv d hd id g1 _ (frame p) (hdk.keep hs1.gF) (.sl _ _) (by rw[cX];omega)) fun g2 hd2 kp=>?_
    have hj2:g2 jid=some (.obj [.ptr id 0,y,.b false] 207):=kp _ _ hne (hs1 _ _ hjid);refine⟨.hm1 hj2,?_⟩;have ok2:=D.vv hd (frame p);have hkp:Keep id h g2:=(hs1.keep id).trans kp;have hgid:∀i∈sp,i≠id:=fun i hi e=>by obtain⟨n,hn⟩:=hg.has i hi;obtain⟨z,hz,_⟩:=hdk;rw[e,hz]at hn;cases hn
    have hg2:iI g2 y xs sp:=hg.touch (Touch.keep hkp) (fun i hi=>by simp[hgid i hi])
    have hx2:By g2 x p:=by obtain⟨z,hz,_⟩:=hdk;exact(hx.keep hkp hz afy)
    have hT2:Touch (id::jid::sp) h g2:=(Touch.keep hkp).mono (fun i hi=> .inl (by simp at hi;simp[hi]))
    generalize d.append (frame p)=A at hJ hcode hd2 ok2⊢;obtain⟨d2,c2⟩:=A;simp only at hJ hcode hd2 ok2⊢;simp only[go_sem]
    show WP _ _ _ _ _ _
    refine .one hU hm ?_;have downed:∀(g:Heap) (e:D) (ρ:Env),bF g id e→g jid=some (.obj [.ptr id 0,y,.b false] 207)→iI g y xs sp→Touch (id::jid::sp) h g→jadd d ps false p=((e,ps,true),9)→
      (nZ [.i 9] (upd g jid (some (.obj [.ptr id 0,y,.b true] 207))) fun r h' =>r= .i ((jadd d ps false p).2:Nat)∧∃sp',bF h' id (jadd d ps false p).1.1∧JAt h' 207 jid id (jadd d ps false p).1.2.1 (jadd d ps false p).1.2.2 sp'∧
       Touch (id::jid::sp) h h'∧∀i∈sp',i∈sp∨h i=none):=fun g e ρ a1 a2 a3 a4 hJ=>by
     rw[hJ];have hsj:∀i∈sp,i≠jid:=fun i hi e=>by obtain⟨n,hn⟩:=hg.has i hi;rw[e,hjid]at hn;cases hn
     have ht:Touch [jid] g (upd g jid (some (.obj [.ptr id 0,y,.b true] 207))):=.upd;refine .same (.refl _) ⟨rfl,sp,?_,⟨y,xs,ah ..,a3.touch ht (fun i hi=>by simp[hsj i hi]),hrs⟩,(a4.trans ht).mono (fun i hi=> .inl (by simp at hi⊢;rcases hi with h|h|h|h<;>simp[h])),fun i hi=> .inl hi⟩
     obtain⟨z,z1,z2⟩:=a1;exact⟨z,ht _ _ (by simp;exact fun e=>hne e.symm) z1,z2.keep (Keep.upd jid _) a2 afy⟩
    have hc0:=hcode;rcases hcode with rfl|rfl|rfl
    ·
     simp only[go_sem];refine .one hU hm ?_;simp only[go_sem,hj2];refine dthen (yA d2 ok2 id g2 hd2) fun g3 hd3 kp3=>?_
     have hj3:g3 jid=some (.obj [.ptr id 0,y,.b false] 207):=kp3 _ _ hne hj2;have hg3:iI g3 y xs sp:=hg2.touch (Touch.keep kp3) (fun i hi=>by simp[hgid i hi])
     have hx3:By g3 x p:=by obtain⟨z,hz,_⟩:=hd2;exact(hx2.keep kp3 hz afy)
     have hT3:Touch (id::jid::sp) h g3:=(hT2.trans (Touch.keep kp3)).mono (fun i hi=> .inl (by simp at hi⊢;rcases hi with h|h|h|h<;>simp[h]))
     have hcs:=D.LX d2;rw[if_neg afy,if_pos rfl]at hJ;generalize d2.sync=A at hJ hcs hd3⊢;obtain⟨d3,c3⟩:=A;simp only at hJ hcs hd3⊢;rcases hcs with rfl|rfl
     ·simp only[go_sem]
      refine .one hU hm ?_;simp only[go_sem];refine .one hU hm ?_;simp only[go_sem];refine .last (hm1 jid _) [0,1,2,3,4,5,6,7,8,9,10] (.hm1 hj3) afx rfl afx rfl ?_;simp only[go_sem,hj3];refine(ru x p g3 hx3 afu).pthen' ?_;obtain⟨qy,rfl⟩:=hg3.row;refine⟨.hm1 hj3,?_⟩;simp only[go_sem,hj3];refine hg3.app (v:=.sl [nS p] .full) (zs:=[nS p]) (fun k hk=>hk) (hrs h).sized (by simp[Sized,nS,AV.cells]) (by have:=(hrs h).1;simp;omega) fun z g4 sp' hg4 ht4 hsp' =>?_
      have hsj:∀i∈sp,i≠jid:=fun i hi e=>by obtain⟨n,hn⟩:=hg.has i hi;rw[e,hjid]at hn;cases hn
      have hj4:g4 jid=some (.obj [.ptr id 0,.sl xs qy,.b false] 207):=ht4 _ _ (fun hi=>hsj _ hi rfl) hj3
      refine⟨.hm1 hj4,?_⟩;obtain⟨qz,rfl⟩:=hg4.row;simp only[go_sem,hj4];refine .vc hU hm ?_;simp only[go_sem];have ht5:Touch [jid] g4 (upd g4 jid (some (.obj [.ptr id 0,.sl (xs++ [nS p]) qz,.b false] 207))):=.upd;have hsj' :∀i∈sp',i≠jid:=fun i hi e=>by obtain⟨n,hn⟩:=hg4.has i hi;rw[e,hj4]at hn;cases hn
      rw[if_pos rfl]at hJ;refine .same (.refl _) ?_;rw[hJ];refine⟨rfl,sp',?_,⟨_,_,ah ..,hg4.touch ht5 (fun i hi=>by simp[hsj' i hi]),fun g=>LG (hrs g) (.sl _ _)⟩,?_,fun i hi=>?_⟩
      ·obtain⟨z,z1,z2⟩:=hd3
       have hid4:g4 id=some (.obj (d3.cells z) 92):=ht4 _ _ (fun hi=>hgid _ hi rfl) z1
       have z4:By g4 z d3.b:=by
        rcases z2 with z2|⟨i,off,cs,rfl,a1,a2,a3⟩
        ·exact .inl z2
        ·exact .oa (ht4 _ _ (fun hi=>by obtain⟨n,hn⟩:=hg3.has i hi;rw[a1]at hn;cases hn) a1) a2 a3
       exact⟨z,ht5 _ _ (by simp;exact fun e=>hne e.symm) hid4,z4.keep (Keep.upd jid _) hj4 afy⟩
      ·exact((hT3.trans ht4).trans ht5).mono (fun i hi=> .inl (by simp at hi⊢;grind))
      ·rcases hsp' i hi with h1|h1
       ·exact .inl h1
       ·cases hh:h i with
        |none=>exact .inr rfl
        |some k=>
         by_cases hin:i∈id::jid::sp
         ·simp only[List.mem_cons]at hin
          rcases hin with e|e|e
          ·subst e;rw[hd3.choose_spec.1]at h1;cases h1
          ·subst e;rw[hj3]at h1;cases h1
          ·exact .inl e
         ·rw[hT3 i k hin hh]at h1;cases h1
     ·simp only[go_sem]
      refine .one hU hm ?_;simp only[go_sem,hj3];exact downed g3 d3 [] hd3 hj3 hg3 hT3 hJ
    ·
     simp only[go_sem];refine .same (.refl _) ?_;rw[hJ];exact⟨rfl,sp,hd2,⟨y,xs,hj2,hg2,hrs⟩,hT2,fun i hi=> .inl hi⟩
    ·simp only[go_sem]
     refine .one hU hm ?_;simp only[go_sem,hj2];refine .one hU hm ?_;simp only[go_sem,hj2];exact downed g2 d2 [] hd2 hj2 hg2 hT2 hJ
theorem D.Ol(hd:d.ok)(h1:d.off=false)(h2:d.f=0):d.bT=({d with b:=d.b.take (scan d.b).2,sy:=(scan d.b).2},0):=by
 have hl:=JG d.b;have SB:∀e:D,e.off=false→e.f=0→e.sync=({e with sy:=e.b.length},0):=fun e h1 h2=>by unfold D.sync;rw[if_neg (by simp[h1]),D.R8 h2,if_neg (by simp[h1])]
 unfold D.bT
 by_cases h:(scan d.b).2<d.b.length
 ·rw[if_pos h,D.ZA h1 h2 hl]
  grind
 ·have e:(scan d.b).2=d.b.length:=by omega
  grind
theorem Cj(ps:List (List UInt8))(r:List UInt8)(h:∀p∈ps,1≤p.length∧p.length≤8192)(hr:r.length<8):scan (frames ps++r)=(ps,(frames ps).length):=by grind [xD,nv,lH]
theorem Xb(h1:d.off=false)(h2:d.f=0)(hp1:1≤p.length)(hp2:p.length≤8192)(hf:d.b.length+(frame p).length≤d.q):
  jadd d ps false p=(({d with b:=d.b++frame p,sy:=(d.b++frame p).length},ps++ [p],false),0):=by
 have hno:¬(p.length=0∨8192<p.length):=afu;have hs:({d with b:=d.b++frame p}:D).sync=({d with b:=d.b++frame p,sy:=(d.b++frame p).length},0):=D.SB h1 h2
 unfold jadd;rw[if_neg afB,if_neg hno,D.PW h1 h2 hf,if_neg afu,if_pos rfl,hs,if_pos rfl]
theorem NK(h1:d.off=false)(hp1:1≤p.length)(hp2:p.length≤8192)(hf:d.q<d.b.length+(frame p).length):
  jadd d ps false p=((d,ps,false),8):=by
 have hno:¬(p.length=0∨8192<p.length):=afu;unfold jadd;rw[if_neg afB,if_neg hno,D.Gf h1 hf,if_pos rfl]
theorem OV:scan []=([],0):=by grind [nv,lH]
theorem xU(a b:List UInt8)(s:Nat):bM (a++b) (a.length+s)=a++bM b s:=by grind [bM,List.take_length_add_append,List.drop_length_add_append,List.append_assoc]
theorem J2(q:Nat)(ps:List (List UInt8))(p:List UInt8)(hps:∀p∈ps,1≤p.length∧p.length≤8192)(hp1:1≤p.length)(hp2:p.length≤8192)(k t:Nat)(ht:t≤4):
  ∃G,(G=ps∨G=ps++ [p])∧scan (D.boot ⟨q,frames ps++frame p,(frames ps).length,0,true⟩ k t).b=(G,(frames G).length)∧(D.boot ⟨q,frames ps++frame p,(frames ps).length,0,true⟩ k t).b.take (frames G).length=frames G:=by
 have hb:(D.boot ⟨q,frames ps++frame p,(frames ps).length,0,true⟩ k t).b=frames ps++bM ((frame p).take (min k (frame p).length)) (min k (frame p).length - min t (min k (frame p).length)):=by
  show bM ((frames ps++frame p).take (D.left _ _)) (D.left _ _ - D.bad _ _ _)=_
  have e1:D.left ⟨q,frames ps++frame p,(frames ps).length,0,true⟩ k=(frames ps).length+min k (frame p).length:=by
   show(frames ps).length+min (k:Int).toNat ((frames ps++frame p).length - (frames ps).length)=_
   simp
  have e2:D.bad ⟨q,frames ps++frame p,(frames ps).length,0,true⟩ k t=min t (min k (frame p).length):=by grind [D.bad,min,Int,frames,frame,Nat.add_sub_cancel_left,Int.toNat_natCast]
  rw[e1,e2,List.take_length_add_append,Nat.add_sub_assoc afu,xU]
 rw[hb]
 by_cases hw:min k (frame p).length=(frame p).length∧t=0
 ·obtain⟨h1,rfl⟩:=hw
  have e:bM ((frame p).take (min k (frame p).length)) (min k (frame p).length - min 0 (min k (frame p).length))=frame p:=by grind [List.take_length,bM]
  rw[e];refine⟨ps++ [p],.inr rfl,?_,?_⟩
  ·have:=Cj (ps++ [p]) [] afv afy
   rw[List.append_nil,iR]at this;rw[this,iR]
  ·rw[iR,List.take_length]
 ·refine⟨ps,.inl rfl,?_,List.take_left ..⟩
  have hn:=L3 p hp1 hp2 (min k (frame p).length) t afu ht hw;rw[xD _ _ hps,nv hn];simp
end Go.Proofs.YtelkmnkejghkeaaGreatDoor
namespace Go.Bf
open Go Go.Ab Go.Proofs.YtelkmnkejghkeaaGreatDoor
variable {o:OpD}{v a:bu}
def fnv(h:BitVec 64)(n:Nat):BitVec 64:=(h ^^^ BitVec.ofNat 64 n)*1099511628211#64
def Qo(g:BitVec 64→Nat→BitVec 64):Nat→BitVec 64→BitVec 64→BitVec 64
 |0,_,h=>h
 |n+1,p,h=>Qo g n (p>>>8) (g h (p &&& 255#64).toNat)
def KB(n:Nat)(p h:BitVec 64):BitVec 64:=Qo fnv n p h
theorem KE(g:BitVec 64→Nat→BitVec 64)(n:Nat)(p h:BitVec 64):Qo g (n+1) p h=Qo g n (p>>>8) (g h (p &&& 255#64).toNat):=rfl
theorem KD(p h:BitVec 64):KB 0 p h=h:=rfl
theorem KC(n:Nat)(p h:BitVec 64):KB (n+1) p h=KB n (p>>>8) (fnv h (p &&& 255#64).toNat):=KE fnv n p h
def vB(prev:BitVec 64)(l:Txt):BitVec 64:=l.foldl (fun h c=>fnv h c.toNat) (KB 8 prev 14695981039346656037#64)
def rC:Nat→BitVec 64→Txt
 |0,_=>[]
 |n+1,h=>UInt8.ofNat h.toNat::rC n (h>>>8)
def cF(h:BitVec 64)(o:OpD):Txt:=rC 8 h++gE o
theorem fV:∀(n:Nat) (h:BitVec 64),(rC n h).length=n
 |0,_=>rfl
 |n+1,h=>by simp[rC,fV n]
structure cg where
 s:an
 log:List qM
 ch:BitVec 64
 ps:List Txt
 down:Bool
def jq(e:cg)(p:Txt):Option OpD:=if p.length<8 then none else match pn (p.drop 8)with
 |some o=>if cF e.ch o=p then some o else none
 |none=>none
def mI(e:cg)(g:an×iJ×qM×Int)(p:Txt):cg:={e with s:=g.1,log:=e.log++ [g.2.2.1],ch:=vB e.ch p}
def kR(e:cg)(p:Txt):Option cg:=match jq e p with
 |some o=>if(aE e.s o).2.2.2=0 then some (mI e (aE e.s o) p)else none
 |none=>none
def lU:cg→List Txt→Option cg
 |e,[]=>some e
 |e,p::r=>match kR e p with
  |some e' =>lU e' r
  |none=>none
def kW(ps:List Txt):cg:=⟨xX,[],0,ps,false⟩
def wq(ps:List Txt):Option cg:=lU (kW ps) ps
def xT(n:Int):iJ:=⟨n,naM,false,aq,false,0⟩
def doE(e:cg)(d:D)(o:OpD):cg×D×iJ:=
 if e.down then(e,d,xT 9)else
 let g:=aE e.s o
 if g.2.2.2≠0 then(e,d,g.2.1)else
 let p:=cF e.ch o
 let a:=jadd d e.ps e.down p
 if a.2=0 then({mI e g p with ps:=a.1.2.1,down:=a.1.2.2},a.1.1,g.2.1)else({e with ps:=a.1.2.1,down:=a.1.2.2},a.1.1,xT (a.2:Int))
theorem th:∀(l:List Txt) (e:cg) (p:Txt),lU e (l++ [p])=(lU e l).bind fun e' =>kR e' p
 | [],e,p=>by grind [lU,kR]
 |q::l,e,p=>by
  simp only[List.cons_append,lU];cases kR e q with
  |none=>rfl
  |some e' =>exact th l e' p
theorem Rs{e e' :cg}{p:Txt}(h:kR e p=some e')(ps:List Txt):kR {e with ps:=ps} p=some {e' with ps:=ps}:=by
 unfold kR at h⊢;have hr:jq {e with ps:=ps} p=jq e p:=rfl
 rw[hr];cases hq:jq e p with
 |none=>rw[hq]at h;cases h
 |some o=>
  rw[hq]at h;simp only at h⊢;split at h
  ·rename_i hg
   rw[if_pos hg];cases h;rfl
  ·cases h
theorem I1:∀(l:List Txt) {e e' :cg},lU e l=some e'→∀ps,lU {e with ps:=ps} l=some {e' with ps:=ps}
 | [],e,e',h,ps=>by cases h;rfl
 |p::l,e,e',h,ps=>by
  simp only[lU]at h⊢;cases hs:kR e p with
  |none=>grind
  |some e1=>rw[hs]at h;rw[Rs hs ps];exact I1 l h ps
def DD(e:cg):Prop:=wq e.ps=some {e with down:=false}
theorem OK{e:cg}(hf:dK o=true)(h64:mN o):jq e (cF e.ch o)=some o:=by
 unfold jq;rw[if_neg (by simp[cF,fV])]
 grind [cF,gE,List.drop_left',fV,Qr]
theorem fK{s:an}(h:(aE s o).2.2.2=0):dK o=true:=by
 have hp:(j5 s o).1=0:=by
  unfold aE at h
  grind
 exact(uX hp).2.1
theorem Nf{e:cg}(he:DD e)(hg:(aE e.s o).2.2.2=0)(h64:mN o):DD {mI e (aE e.s o) (cF e.ch o)with ps:=e.ps++ [cF e.ch o],down:=false}:=by
 unfold DD wq at he⊢;have h1:=I1 _ he (e.ps++ [cF e.ch o]);rw[th,show kW (e.ps++ [cF e.ch o])= {kW e.ps with ps:=e.ps++ [cF e.ch o]} from rfl,h1]
 simp only[Option.bind_some];unfold kR;have hr:jq {({e with down:=false}:cg)with ps:=e.ps++ [cF e.ch o]} (cF e.ch o)=some o:=by
  have:=OK (e:={({e with down:=false}:cg)with ps:=e.ps++ [cF e.ch o]}) (fK hg) h64
  exact agc
 rw[hr];simp only;generalize cF e.ch o=p;rw[if_pos hg];rfl
theorem JQ:∀(f v:Nat),(pM f v).length≤f
 |0,_=>by simp[pM]
 |f+1,v=>by
  unfold pM;split
  ·simp
  ·simp only[List.length_cons]
   have:=JQ f (v / 128);omega
theorem ji(n:Int):(jh n).length≤10:=JQ 10 _
theorem Q2(n:Int):1≤(jh n).length:=List.length_pos_iff.2 (JP 10 _ afy)
theorem dG(s:Txt):(dM s).length≤10+s.length:=by grind [dM,afn,ji]
theorem yD(h:v=aq∨bz v=true):(oY v).length≤84:=by
 have hs:v.kind=3∨v.kind=5→v.s.length≤64:=fun e=>by
  rcases h with rfl|h
  ·decide
  simp_all [wD]
 unfold oY;rw[afn];have h1:=ji v.kind;split
 ·rename_i e
  have:=dG v.s;omega
 ·have:=ji v.n
  omega
theorem Dm(hf:OpF o):1≤(gE o).length∧(gE o).length≤5000:=by unfold gE;simp only[afn];have h1:=ji o.kind;have h0:=Q2 o.kind;have h2:=dG o.subj;have h3:=dG o.case;have h4:=dG o.field;have h5:=dG o.to;have h6:=yD hf.val;have h7:=ji o.review;have h8:=dG o.text;have h9:=dG o.reason;have h10:=yD (v:=dV o.glass) (.inr (AE _));have:=hf.subj;have:=hf.case;have:=hf.field;have:=hf.to;have:=hf.text;have:=hf.reason;omega
theorem mW{h:BitVec 64}(hf:OpF o):9≤(cF h o).length∧(cF h o).length≤5008:=by grind [Dm,cF,afn,fV]
def zD(a b:bu):Int:=if bz a=false∨bz b=false then 1 else 2
def l8(a b:bu):AV:=match ov a b with
 |some x=> .tup [.b x,.i 0]
 |none=> .tup [.b false,.i (zD a b)]
theorem BQ{b:bu}(h:bz a=false∨bz b=false):l8 a b= .tup [.b false,.i 1]:=by
 unfold l8 ov;rw[if_pos afv]
 simp_all [zD,if_pos]
theorem zC{b:bu}(h1:bz a=true)(h2:bz b=true)(h:a.kind≠b.kind∨a.kind=1):l8 a b= .tup [.b false,.i 2]:=by simp_all [l8,ov,if_pos,zD]
theorem QT{b:bu}(h1:bz a=true)(h2:bz b=true)(h:a.kind=b.kind)(h0:a.kind≠1)(ht:a.kind=3∨a.kind=5):l8 a b= .tup [.b (Op.bytesLess a.s b.s),.i 0]:=by simp_all [l8,ov,if_neg,if_pos]
theorem QS{b:bu}(h1:bz a=true)(h2:bz b=true)(h:a.kind=b.kind)(h0:a.kind≠1)(ht:¬(a.kind=3∨a.kind=5)):l8 a b= .tup [.b (decide (a.n<b.n)),.i 0]:=by simp_all [l8,ov,if_neg]
end Go.Bf
namespace Go.Proofs.YtelkmnkejghkeaaGreatDoor
open Go Go.Ab Go.Bf Tryz
theorem AB(k:Int)(h:Heap):ai prog 174 [.i k] h fun r h' =>r= .b (k==3||k==5)∧h' =h:=by
 refine aw func174 9 [.tmp 2] ?_
 cases d1:(k==3)<;>cases d2:(k==5)
 all_goals
  simp only[go_sem,d1,d2];exact afE
theorem Dd(a b:bu)(h:Heap):ai prog 286 [aT a,aT b] h fun r h' =>r=l8 a b∧h' =h:=by
 have ha:=fun(G:Heap)=>gr a G
 have hb:=fun(G:Heap)=>gr b G
 simp only[aT]at ha hb;refine aw func286 40 [.tmp 4,.tmp 5] ?_
 simp only[go_sem,aT];intro i1 h1;simp only[go_sem];intro i2 h2;have n21:=aH h2;have n2:=aA h2;have hs:∀x y,Ab.Sub h (upd (upd h i1 x) i2 y):=fun x y=>((Sub.refl h).put h1 x).put n2 y
 simp only[go_sem,ak,n21.symm];refine(ha _).pthen ?_;cases da:bz a
 ·simp only[go_sem]
  exact .mk _ (.refl _) (hs _ _) ⟨by rw[BQ (.inl da)];rfl,rfl⟩
 simp only[go_sem];refine(hb _).pthen ?_;cases db:bz b
 ·simp only[go_sem]
  exact .mk _ (.refl _) (hs _ _) ⟨by rw[BQ (.inr db)];rfl,rfl⟩
 cases dk:(a.kind !=b.kind)
 case true=>simp only[go_sem,ak,n21.symm,dk];exact .mk _ (.refl _) (hs _ _) ⟨by rw[zC da db (.inl afv)];rfl,rfl⟩
 have ek:a.kind=b.kind:=afv;cases d1:(a.kind==1)
 case true=>simp only[go_sem,ak,n21.symm,dk,d1];exact .mk _ (.refl _) (hs _ _) ⟨by rw[zC da db (.inr afv)];rfl,rfl⟩
 have e1:a.kind≠1:=afv;simp only[go_sem,ak,n21.symm,dk,d1];refine(AB _ _).pthen ?_;cases dt:(a.kind==3||a.kind==5)
 ·simp only[go_sem,ak,n21.symm]
  exact .mk _ (.refl _) (hs _ _) ⟨by rw[QS da db ek e1 afv];rfl,rfl⟩
 ·simp only[go_sem,ak,n21.symm]
  exact .mk _ (.refl _) (hs _ _) ⟨by rw[QT da db ek e1 afv];rfl,rfl⟩
def KH(bag:List bu)(must:Bool):AV:=if bag= []∧must=true then .tup [.sl [] .no,.i 4]else .tup [.sl (bag.map aT) .no,.i 0]
theorem I4(gs:List bt)(cat:Int)(name:Txt)(must:Bool)(hl:gs.length≤1000000000)(hb:∀g∈gs,g.bag.length≤1000000)(h:Heap):ai prog 253 [bN gs,.agg [.i cat,.s name,.b must]] h fun r h' =>r=KH (getD gs cat name) must∧h' =h:=by
 have hpl:=fun G=>Oz gs cat name hl G
 simp only[bN]at hpl;have frz:∀(x:AV) (e:Int),Weak x (.sl [] .no)→Weak (.tup [x,.i e]) (.tup [.sl [] .no,.i e]):=fun x e hx=> .tup _ _ rfl fun i a b=>by
  rcases i with _|_|i
  ·grind
  ·exact agR
  grind
 refine aw func253 30 [.tmp 4,.tmp 5] ?_
 simp only[go_sem,bN];intro i1 h1;simp only[go_sem];refine(hpl _).pthen ?_
 by_cases hx:gs.findIdx (jl cat name)<gs.length
 ·have e1:ixD (jl cat name) gs=(gs.findIdx (jl cat name):Nat):=by simp_all [ixD,if_pos]
  have d1:decide ((0:Int)≤((gs.findIdx (jl cat name):Nat):Int))=true:=decide_eq_true afu;rw[e1];simp only[go_sem,d1];refine .at (gs.findIdx (jl cat name)) afv afD ?_;simp only[go_sem,afk,lV];rw[if_neg (fun hh=>hh.1)]
  have hlb:=hb _ (afo hx);rw[get_at hx];obtain⟨B,eB⟩:∃B,gs[gs.findIdx (jl cat name)].bag=B:=⟨_,rfl⟩;rw[eB]at hlb⊢;refine(D4 _ (B.map aT) _ (eP aT 3 (fun _=>rfl) _ _) afv (bn (fun _=>rfl) _)).pthen ?_
  cases d2:((B.length:Int)==0)
  ·have e2:B≠ []:=by grind
   simp only[go_sem,d2,afj];exact .mk _ (.refl _) (.aj h1) ⟨by rw[KH,if_neg (fun hh=>e2 hh.1)];rfl,rfl⟩
  ·have e3:(B.length:Int)=0:=by grind
   have e2:B= []:=List.length_eq_zero_iff.1 afu;subst e2;cases must
   ·simp only[go_sem,List.map_nil,List.length_nil]
    exact afM
   ·simp only[go_sem,List.map_nil,List.length_nil]
    exact ahn
 ·have e1:ixD (jl cat name) gs= -1:=by simp_all [ixD,if_neg]
  have d1:decide ((0:Int)≤ -1)=false:=rfl;rw[e1,TM hx];cases must
  ·simp only[go_sem,d1]
   exact .mk (.tup [.sl [] .no,.i 0]) (frz _ _ (.sl _ _)) (.aj h1) ⟨rfl,rfl⟩
  ·simp only[go_sem,d1]
   exact ahn
def nC(m:bO)(v:bu):AV:=
 if m.op=1 then(if v.kind=m.val.kind then .tup [.b (eqV v m.val),.i 0]else .tup [.b false,.i 2])
 else if m.op=2 then l8 v m.val else l8 m.val v
theorem Gd(m:bO)(v:bu)(h:Heap):ai prog 254 [cU m,aT v] h fun r h' =>r=nC m v∧h' =h:=by
 have hl1:=fun G=>Dd v m.val G
 have hl2:=fun G=>Dd m.val v G
 simp only[aT]at hl1 hl2;refine aw func254 42 [.tmp 4,.tmp 5] ?_
 simp only[go_sem,cU,aT];intro i1 h1;simp only[go_sem];intro i2 h2;have n21:=aH h2;have n2:=aA h2;have hs:∀x y,Ab.Sub h (upd (upd h i1 x) i2 y):=fun x y=>((Sub.refl h).put h1 x).put n2 y
 cases d1:(m.op==1)
 case true=>
  have e1:m.op=1:=afv;cases dk:(v.kind !=m.val.kind)
  ·have dk' :v.kind=m.val.kind:=by grind
   simp only[go_sem,ak,n21.symm,d1,dk];exact .mk _ (.refl _) (hs _ _) ⟨by rw[nC,if_pos e1,if_pos dk'];rfl,rfl⟩
  ·simp only[go_sem,ak,n21.symm,d1,dk]
   exact .mk _ (.refl _) (hs _ _) ⟨by rw[nC,if_pos e1,if_neg afv];rfl,rfl⟩
 have e1:m.op≠1:=afv;have aft:∀a b:bu,∃x e,l8 a b= .tup [.b x,.i e]:=fun a b=>by
  unfold l8;split
  ·simp
  simp
 cases d2:(m.op==2)
 case true=>have e2:m.op=2:=afv;obtain⟨x,e,ee⟩:=aft v m.val;rw[ee]at hl1;simp only[go_sem,ak,n21.symm,d1,d2];refine(hl1 _).pthen ?_;simp only[go_sem];exact .mk _ (.refl _) (hs _ _) ⟨by rw[nC,if_neg e1,if_pos e2,ee];rfl,rfl⟩
 ·have e2:m.op≠2:=by grind
  obtain⟨x,e,ee⟩:=aft m.val v;rw[ee]at hl2;simp only[go_sem,ak,n21.symm,d1,d2];refine(hl2 _).pthen ?_;simp only[go_sem];exact .mk _ (.refl _) (hs _ _) ⟨by rw[nC,if_neg e1,if_neg e2,ee];rfl,rfl⟩
theorem CC(m:bO)(v:bu):∃e:Int,(e !=0)=(cZ m v==none)∧nC m v= .tup [.b (cZ m v==some true),.i e]:=by
 have hl:∀a b:bu,∃e:Int,(e !=0)=(ov a b==none)∧l8 a b= .tup [.b (ov a b==some true),.i e]:=fun a b=>by
  unfold l8;cases hx:ov a b with
  |some x=>simp
  |none=>refine⟨zD a b,?_,rfl⟩;grind [zD]
 unfold nC cZ
 by_cases e1:m.op=1
 ·rw[if_pos e1,if_pos e1]
  by_cases ek:v.kind=m.val.kind
  ·rw[if_pos ek,if_pos ek]
   exact⟨0,rfl,afB⟩
  ·rw[if_neg ek,if_neg ek]
   exact⟨2,rfl,rfl⟩
 ·rw[if_neg e1,if_neg e1]
  by_cases e2:m.op=2
  ·rw[if_pos e2,if_pos e2];exact hl _ _
  ·rw[if_neg e2,if_neg e2];exact hl _ _
theorem KI(bag:List bu)(must:Bool):∃e:Int,(e !=0)=decide (bag= []∧must=true)∧KH bag must= .tup [.sl (bag.map aT) .no,.i e]:=by
 unfold KH;split
 ·simp_all
 grind
def sM(gs:List bt):Prop:=gs.length≤1000000∧∀g∈gs,g.bag.length≤1000000
theorem sM.bag{gs:List bt}(h:sM gs)(a:qU):(yQ gs a).length≤1000000:=by
 unfold yQ getD;split
 ·rename_i g hg;exact h.2 g afv
 ·simp
theorem BV(m:bO)(gs:List bt)(hf:sM gs)(h:Heap):ai prog 208 [cU m,bN gs] h fun r h' =>r= .i (kJ gs m:Nat)∧h' =h:=by
 have hg:=fun G=>I4 gs m.attr.cat m.attr.name m.attr.must (by have:=hf.1;omega) hf.2 G
 have hbl:=hf.bag m.attr;obtain⟨B,eB⟩:∃B,yQ gs m.attr=B:=⟨_,rfl⟩;have eg:Go.Bf.getD gs m.attr.cat m.attr.name=B:=eB;rw[eB]at hbl;rw[eg]at hg;have hmm:kJ gs m=if B= []∧m.attr.must=true then 1 else if B.any (fun v=>cZ m v==some true)then 2 else if B.any (fun v=>cZ m v==none)then 1 else 0:=by unfold kJ;rw[eB]
 obtain⟨eg,hge,hga⟩:=KI B m.attr.must;rw[hga]at hg;have hag:=fun(v:bu) (G:Heap)=>Gd m v G
 simp only[cU,bN,aT]at hag hg;refine aw func208 38 [.tmp 4] ?_
 simp only[go_sem,cU,bN];intro i1 h1;simp only[go_sem];refine(hg _).pthen ?_;cases d0:decide (B= []∧m.attr.must=true)
 case true=>rw[d0]at hge;simp only[go_sem,hge];exact .mk _ (.refl _) (.aj h1) ⟨by rw[hmm,if_pos (afl d0)];rfl,rfl⟩
 rw[d0]at hge;rw[if_neg (afm d0)]at hmm;simp only[go_sem,hge,afj];obtain⟨H,eH⟩:∃H,upd h i1 (some (.obj [.i m.attr.cat,.s m.attr.name,.b m.attr.must,.i m.op,.i m.val.kind,.i m.val.n,.s m.val.s] 264))=H:=⟨_,rfl⟩;have hH:Ab.Sub h H:=by rw[←eH];exact .aj h1
 have k1:H i1=some (.obj [.i m.attr.cat,.s m.attr.name,.b m.attr.must,.i m.op,.i m.val.kind,.i m.val.n,.s m.val.s] 264):=agZ;rw[eH];clear eH;refine .intro (fun q ρ G=>Ab.Sub H G∧∃i:Nat,i≤B.length∧q=B.length - i∧(∀j (hj:j<i) (h2:j<B.length),(cZ m B[j]==some true)=false)∧lk ρ 2=some (.ptr i1 0)∧lk ρ 7=some (.i (if(B.take i).any (fun v=>cZ m v==none)then 1 else 0))∧lk ρ 21=some (.sl (B.map aT) .no)∧lk ρ 22=some (.i B.length)∧lk ρ 23=some (.i i)) B.length ?_ ?_
 ·refine⟨.refl _,0,afu,rfl,fun j hj=>afu,?_,?_,?_,?_,?_⟩<;>simp only[go_sem]
  simp
 ·rintro q ρ G ⟨hs,i,hi,rfl,hc,r2,r7,r21,r22,r23⟩
  have k1' :=hs _ _ k1;simp only[go_sem,r22,r23];refine .intro (fun e=>?_) (fun e=>?_)
  ·have hlt:i<B.length:=afq e
   have w1:=afp i afu;have hsn:(B.take (i+1)).any (fun v=>cZ m v==none)=((B.take i).any (fun v=>cZ m v==none)||(cZ m B[i]==none)):=any_succ hlt
   have ix:=fun k=>fF.eq (xs:=B.map aT) (sz:=3) i afQ afD k
   rw[afk]at ix;have hci:=fun(d:(cZ m B[i]==some true)=false)=>(fun j (hj:j<i+1) (h2:j<B.length)=>(by
    by_cases hji:j=i
    ·subst hji;exact d
    ·exact hc j afu h2:(cZ m B[j]==some true)=false))
   have hat:=fun(d:(cZ m B[i]==some true)=true)=>(List.any_eq_true.2 ⟨B[i],afo hlt,d⟩:B.any (fun v=>cZ m v==some true)=true)
   obtain⟨v,ev⟩:∃v,B[i]=v:=⟨_,rfl⟩;rw[ev]at ix hsn hci hat;simp only[aT]at ix;obtain⟨e,he1,he2⟩:=CC m v;have hag1:=hag v;rw[he2]at hag1;simp only[go_sem,r21,r23,ix];intro i4 h4;have n41:i4≠i1:=fun e=>by rw[e,k1']at h4;cases h4
   simp only[go_sem,r2,ak,n41.symm,k1'];refine(hag1 _).pthen ?_;cases d1:(cZ m v==some true)
   ·cases d2:(cZ m v==none)
    ·rw[d2]at he1 hsn
     rw[Bool.or_false]at hsn;simp only[go_sem,r23,he1,w1];refine⟨_,?_,hs.trans (.aj h4),i+1,afu,rfl,hci d1,?_,?_,?_,?_,?_⟩
     ·omega
     all_goals simp only[go_sem,r2,r7,r21,r22,hsn]
    ·rw[d2]at he1 hsn
     rw[Bool.or_true]at hsn;simp only[go_sem,r23,he1,w1];refine⟨_,?_,hs.trans (.aj h4),i+1,afu,rfl,hci d1,?_,?_,?_,?_,?_⟩
     ·omega
     all_goals simp only[go_sem,r2,r21,r22,hsn]
   ·simp only[go_sem]
    refine .mk _ (.refl _) (hH.trans (hs.trans (.aj h4))) ⟨by rw[hmm,if_pos (hat d1)];rfl,rfl⟩
  ·have hge:i=B.length:=by have:=afm e;omega
   subst hge;rw[List.take_length]at r7;simp only[go_sem,r7];refine .mk _ (.refl _) (hH.trans hs) ⟨?_,rfl⟩;have hno:B.any (fun v=>cZ m v==some true)=false:=List.any_eq_false.2 fun x hx=>by obtain⟨j,hj,rfl⟩:=List.mem_iff_getElem.1 hx;rw[hc j hj hj];decide
   rw[hmm,hno];cases B.any (fun v=>cZ m v==none)<;>rfl
theorem Jk(a b:Nat):(if((b:Int)<(a:Int))then(b:Int)else(a:Int))=((min a b:Nat):Int):=by grind
theorem QV(a b:Nat):(if((a:Int)<(b:Int))then(b:Int)else(a:Int))=((max a b:Nat):Int):=by grind
theorem PU(l:List bO)(hl:l.length≤1000000)(gs:List bt)(hf:sM gs)(h:Heap):ai prog 247 [gv l,bN gs] h fun r h' =>r= .i (DN gs l:Nat)∧h' =h:=by
 have hmt:=fun(m:bO) (G:Heap)=>BV m gs hf G
 simp only[cU,bN]at hmt;refine aw func247 21 [.tmp 4] ?_
 simp only[go_sem,gv,bN,afj];refine .intro (fun q ρ G=>Ab.Sub h G∧∃i:Nat,i≤l.length∧q=l.length - i∧lk ρ 1=some (.sl (gs.map lV) .no)∧lk ρ 5=some (.i (DN gs (l.take i):Nat))∧lk ρ 8=some (.sl (l.map cU) .no)∧lk ρ 9=some (.i l.length)∧lk ρ 10=some (.i i)) l.length ?_ ?_
 ·exact alk
 ·rintro q ρ G ⟨hs,i,hi,rfl,r1,r5,r8,r9,r10⟩
  simp only[go_sem,r9,r10];refine .intro (fun e=>?_) (fun e=>?_)
  ·have hlt:i<l.length:=afq e
   have w1:IntKind.i64.wrap ((i:Int)+1)=((i+1:Nat):Int):=afG;have hsn:DN gs (l.take (i+1))=min (DN gs (l.take i)) (kJ gs l[i]):=by grind [DN,List.take_succ_eq_append_getElem]
   have ix:=fun k=>fF.eq (xs:=l.map cU) (sz:=7) i afv afD k
   rw[afk]at ix;obtain⟨m,em⟩:∃m,l[i]=m:=⟨_,rfl⟩;rw[em]at ix hsn;have hmt1:=hmt m;simp only[cU]at ix;simp only[go_sem,r8,r10,ix];intro i4 h4;simp only[go_sem,r1,r5];refine(hmt1 _).pthen ?_;simp only[go_sem,r10,Jk,w1];refine⟨_,?_,hs.trans (.aj h4),i+1,afu,rfl,?_,?_,?_,?_,?_⟩
   ·omega
   all_goals simp only[go_sem,r1,r8,r9,hsn]
  ·have hge:i=l.length:=by grind
   exact ak2
def PG(t:gu):Prop:=t.length≤1000000∧∀x∈t,x.length≤1000000∧∀l∈x,l.length≤1000000
theorem N7(t:gu)(ht:PG t)(gs:List bt)(hf:sM gs)(h:Heap):ai prog 204 [aU t,bN gs] h fun r h' =>r= .i (nP gs t:Nat)∧h' =h:=by
 have hat:=fun(l:List bO) (hl:l.length≤1000000) (G:Heap)=>PU l hl gs hf G
 simp only[gv,bN]at hat;have htl:=ht.1;refine aw func204 34 [.tmp 4] ?_
 simp only[go_sem,aU,bN,afj];refine .intro (fun q ρ G=>Ab.Sub h G∧∃i:Nat,i≤t.length∧q=t.length - i∧lk ρ 1=some (.sl (gs.map lV) .no)∧lk ρ 5=some (.i (nP gs (t.take i):Nat))∧lk ρ 11=some (.sl (t.map cC) .no)∧lk ρ 12=some (.i t.length)∧lk ρ 13=some (.i i)) t.length ?_ ?_
 ·exact alk
 ·rintro q ρ G ⟨hs,i,hi,rfl,r1,r5,r11,r12,r13⟩
  simp only[go_sem,r12,r13];refine .intro (fun e=>?_) (fun e=>?_)
  ·have hlt:i<t.length:=afq e
   have w1:IntKind.i64.wrap ((i:Int)+1)=((i+1:Nat):Int):=afG;have hsn:nP gs (t.take (i+1))=min (nP gs (t.take i)) (AS gs t[i]):=by grind [nP,List.take_succ_eq_append_getElem]
   have ix:=fun k=>fF.eq (xs:=t.map cC) (sz:=1) i afv afD k
   rw[afk]at ix;obtain⟨hx1,hx2⟩:=ht.2 t[i] (afo hlt);obtain⟨x,ex⟩:∃x,t[i]=x:=⟨_,rfl⟩;rw[ex]at ix hsn hx1 hx2;simp only[cC]at ix;simp only[go_sem,r11,r13,ix,afj];refine .intro (fun q ρ' K=>Ab.Sub h K∧∃n:Nat,n≤x.length∧q=x.length - n∧lk ρ' 1=some (.sl (gs.map lV) .no)∧lk ρ' 5=some (.i (nP gs (t.take i):Nat))∧lk ρ' 8=some (.i (AS gs (x.take n):Nat))∧lk ρ' 11=some (.sl (t.map cC) .no)∧lk ρ' 12=some (.i t.length)∧lk ρ' 13=some (.i i)∧lk ρ' 17=some (.sl (x.map gv) .no)∧lk ρ' 18=some (.i x.length)∧lk ρ' 19=some (.i n)) x.length ?_ ?_
   ·refine⟨hs,0,afu,rfl,?_,?_,?_,?_,?_,?_,?_,?_,?_⟩<;>simp only[go_sem,r1,r5,r11,r12,r13]
    rfl
   ·rintro q ρ' K ⟨hs',n,hn,rfl,s1,s5,s8,s11,s12,s13,s17,s18,s19⟩
    simp only[go_sem,s18,s19];refine .intro (fun e=>?_) (fun e=>?_)
    ·have hlt2:n<x.length:=afq e
     have w2:IntKind.i64.wrap ((n:Int)+1)=((n+1:Nat):Int):=afG;have hsn2:AS gs (x.take (n+1))=max (AS gs (x.take n)) (DN gs x[n]):=by grind [AS,List.take_succ_eq_append_getElem]
     have ix2:=fun k=>fF.eq (xs:=x.map gv) (sz:=1) n afv afD k
     rw[afk]at ix2;have hx3:=hx2 x[n] (afo hlt2);obtain⟨l,el⟩:∃l,x[n]=l:=⟨_,rfl⟩;rw[el]at ix2 hsn2 hx3;simp only[gv]at ix2;simp only[go_sem,s1,s8,s17,s19,ix2];refine(hat l hx3 _).pthen ?_;simp only[go_sem,s19,QV,w2];refine⟨_,?_,hs',n+1,afu,rfl,?_,?_,?_,?_,?_,?_,?_,?_,?_⟩
     ·omega
     all_goals simp only[go_sem,s1,s5,s11,s12,s13,s17,s18,hsn2]
    ·have hge:n=x.length:=by grind
     subst hge;rw[List.take_length]at s8;simp only[go_sem,s5,s8,s13,Jk,w1];refine⟨_,?_,hs',i+1,afu,rfl,?_,?_,?_,?_,?_⟩
     ·omega
     all_goals simp only[go_sem,s1,s11,s12,hsn]
  ·have hge:i=t.length:=by grind
   exact ak2
end Go.Proofs.YtelkmnkejghkeaaGreatDoor
namespace Go.Bf
open Go Go.Ab Go.Proofs.YtelkmnkejghkeaaGreatDoor
def A4(o:Bool)(n:Int):AV:=if o then .tup [.i 0,.i 3]else .tup [.i (w64 n),.i 0]
def sj(r:bu×Int):AV:=.tup [aT r.1,.i r.2]
end Go.Bf
namespace Go.Proofs.YtelkmnkejghkeaaGreatDoor
open Go Go.Ab Go.Bf Tryz
theorem S5(a b:Int)(h:Heap):ai prog 319 [.i a,.i b] h fun r h' =>r=A4 (Mt a b) (a+b)∧h' =h:=by
 refine aw func319 27 [.tmp 4,.tmp 5] ?_
 cases d1:decide (0<b)<;>cases d2:decide (IntKind.i64.wrap (9223372036854775807 - b)<a)<;>cases d3:decide (b<0)<;>cases d4:decide (a<IntKind.i64.wrap (-9223372036854775808 - b))
 all_goals
  simp only[go_sem,d1,d2,d3,d4];exact .same (.refl _) ⟨by simp only[A4,Mt,w64,d1,d2,d3,d4];rfl,rfl⟩
theorem UA(a b:Int)(h:Heap):ai prog 320 [.i a,.i b] h fun r h' =>r=A4 (O2 a b) (a - b)∧h' =h:=by
 refine aw func320 27 [.tmp 4,.tmp 5] ?_
 cases d1:decide (0<b)<;>cases d2:decide (a<IntKind.i64.wrap (-9223372036854775808+b))<;>cases d3:decide (b<0)<;>cases d4:decide (IntKind.i64.wrap (9223372036854775807+b)<a)
 all_goals
  simp only[go_sem,d1,d2,d3,d4];exact .same (.refl _) ⟨by simp only[A4,O2,w64,d1,d2,d3,d4];rfl,rfl⟩
theorem T8(a b:Int)(h:Heap):ai prog 321 [.i a,.i b] h fun r h' =>r=A4 (Li a b) (a*b)∧h' =h:=by
 refine aw func321 36 [.tmp 4,.tmp 5] ?_
 cases d0:(a !=0)
 ·have e0:a=0:=by grind
  subst e0;cases d1:(b== -1)
  all_goals
   simp only[go_sem,d1];exact .same (.refl _) ⟨by simp[A4,Li,w64,ax],rfl⟩
 have e0:a≠0:=afv;cases d1:(a== -1)<;>cases d2:(b== -9223372036854775808)<;>cases d3:(b== -1)<;>cases d4:(a== -9223372036854775808)<;>cases d5:(IntKind.i64.wrap ((IntKind.i64.wrap (a*b)).tdiv a) !=b)
 all_goals
  simp only[go_sem,d0,d1,d2,d3,d4,d5,e0];exact .same (.refl _) ⟨by simp only[A4,Li,w64,d0,d1,d2,d3,d4,d5];rfl,rfl⟩
theorem Cr(b:Bool)(h:Heap):ai prog 317 [.b b] h fun r h' =>r=aT (dV b)∧h' =h:=by
 refine aw func317 8 [.cell 2 48] ?_
 simp only[go_sem];intro i1 h1;simp only[go_sem];intro i2 h2;have n21:=aH h2;have n2:=aA h2;cases b
 all_goals
  simp only[go_sem,ak,n21.symm];exact .mk _ (.refl _) ((((Sub.refl h).put h1 _).put n2 _).put h1 _) ⟨rfl,rfl⟩
theorem CL(kind:Int)(l:List bu)(hl:l.length≤1000000)(p:Perm)(h:Heap):ai prog 322 [.i kind,.sl (l.map aT) p] h fun r h' =>r= .b (l.all fun v=>v.kind==kind)∧h' =h:=by
 refine aw func322 18 [.tmp 4] ?_
 simp only[go_sem,afj];refine .intro (fun q ρ G=>Ab.Sub h G∧∃i:Nat,i≤l.length∧q=l.length - i∧(∀j (hj:j<i) (h2:j<l.length),(l[j].kind==kind)=true)∧lk ρ 0=some (.i kind)∧lk ρ 7=some (.sl (l.map aT) p)∧lk ρ 8=some (.i l.length)∧lk ρ 9=some (.i i)) l.length ?_ ?_
 ·refine⟨.refl _,0,afu,rfl,fun j hj=>afu,?_,?_,?_,?_⟩<;>simp only[go_sem]
 ·rintro q ρ G ⟨hs,i,hi,rfl,hc,r0,r7,r8,r9⟩
  simp only[go_sem,r8,r9];refine .intro (fun e=>?_) (fun e=>?_)
  ·have hlt:i<l.length:=afq e
   have w1:IntKind.i64.wrap ((i:Int)+1)=((i+1:Nat):Int):=afG;have ix:=fun k=>fF.eq (xs:=l.map aT) (sz:=3) i afv afD k
   rw[afk]at ix;have hci:=fun(d:(l[i].kind==kind)=true)=>(fun j (hj:j<i+1) (h2:j<l.length)=>(by grind:(l[j].kind==kind)=true))
   have hat:=fun(d:(l[i].kind==kind)=false)=>(List.all_eq_false.2 ⟨l[i],afo hlt,afv⟩:(l.all fun v=>v.kind==kind)=false)
   obtain⟨v,ev⟩:∃v,l[i]=v:=⟨_,rfl⟩;rw[ev]at ix hci hat;simp only[aT]at ix;cases d1:(v.kind==kind)
   ·have d2:(v.kind !=kind)=true:=by grind
    simp only[go_sem,r7,r9,ix];intro i4 h4;simp only[go_sem,r0,d2];exact .mk _ (.refl _) (hs.trans (.aj h4)) ⟨ajy,rfl⟩
   ·have d2:(v.kind !=kind)=false:=by grind
    simp only[go_sem,r7,r9,ix];intro i4 h4;simp only[go_sem,r0,r9,d2,w1];refine⟨_,?_,hs.trans (.aj h4),i+1,afu,rfl,hci d1,?_,?_,?_,?_⟩
    ·omega
    all_goals simp only[go_sem,r0,r7,r8]
  ·have hge:i=l.length:=by grind
   simp only[go_sem];exact .mk _ (.refl _) hs ⟨by rw[List.all_eq_true.2 fun x hx=>aie];rfl,rfl⟩
theorem HI(g:FuncId)(a b:bu)(o:Bool)(n:Int)(hg:∀G,ai prog g [.i a.n,.i b.n] G fun r h' =>r=A4 o n∧h' =G)(p:Perm)(h:Heap):
  ai prog 318 [.fn g [],.sl [aT a,aT b] p] h fun r h' =>r=sj (if([a,b].all fun v=>v.kind==2)then A5 o n else oO 2)∧h' =h:=by
 have ix0:=fun k=>fF.eq (xs:=[aT a,aT b]) (sz:=3) 0 afB rfl k
 have ix1:=fun k=>fF.eq (xs:=[aT a,aT b]) (sz:=3) 1 afB rfl k
 simp only[List.getElem_cons_zero,List.getElem_cons_succ,aT,Int.natCast_zero,Int.natCast_one]at ix0 ix1;have hal:=fun(G:Heap)=>CL 2 [a,b] afB p G
 simp only[List.map_cons,List.map_nil,aT]at hal;refine aw func318 31 [.cell 4 48,.tmp 5] ?_
 simp only[go_sem,aT];intro i1 h1;simp only[go_sem];refine(hal _).pthen ?_;cases d1:([a,b].all fun v=>v.kind==2)
 ·simp only[go_sem]
  exact afM
 ·simp only[go_sem]
  refine .quiet afx ?_;simp only[go_sem,ix0,ix1];cases o
  ·refine⟨_,hg _,?_⟩
   simp only[go_sem,A4];exact afM
  ·refine⟨_,hg _,?_⟩
   simp only[go_sem,A4];exact afM
theorem yq{α:Type}{l:List α}(h:l.length=2):∃a b,l= [a,b]:=by
 match l,h with
 | [a,b],_=>exact⟨a,b,rfl⟩
def HC(op:Int)(l:List bu):Bool:= !(decide (op<6)||decide (13<op)||(l.length:Int) !=(if op==11 then 1 else 2)) && l.all bz
theorem T5(op:Int)(l:List bu)(hl:l.length≤1000000)(p:Perm)(h:Heap):ai prog 316 [.i op,.sl (l.map aT) p] h fun r h' =>r= .b (HC op l)∧h' =h:=by
 have hvr:=fun(v:bu) (G:Heap)=>gr v G
 simp only[aT]at hvr;refine aw func316 32 [.tmp 4] ?_
 cases d11:(op==11)
 all_goals
  have hmm:HC op l=(!(decide (op<6)||decide (13<op)||(l.length:Int) !=(if op==11 then 1 else 2)) && l.all bz):=rfl
  rw[d11]at hmm;simp only[if_true,Bool.false_eq_true,if_false]at hmm;cases d6:decide (op<6)
  case true=>rw[d6]at hmm;simp only[go_sem,d11,d6];exact .same (.refl _) ⟨by rw[hmm];rfl,rfl⟩
  cases d13:decide (13<op)
  case true=>rw[d6,d13]at hmm;simp only[go_sem,d11,d6,d13];exact .same (.refl _) ⟨by rw[hmm];rfl,rfl⟩
  rw[d6,d13]at hmm;simp only[Bool.or_false,Bool.false_or]at hmm;obtain⟨b,eb⟩:∃b,((l.length:Int) !=(if op==11 then 1 else 2))=b:=⟨_,rfl⟩
  rw[d11]at eb;simp only[if_true,Bool.false_eq_true,if_false]at eb;rw[eb]at hmm;cases b
  case true=>simp only[go_sem,d11,d6,d13,afj,eb];exact .same (.refl _) ⟨by rw[hmm];rfl,rfl⟩
  simp only[Bool.not_false,Bool.true_and]at hmm;simp only[go_sem,d11,d6,d13,afj,eb];refine .intro (fun q ρ G=>Ab.Sub h G∧∃i:Nat,i≤l.length∧q=l.length - i∧(∀j (hj:j<i) (h2:j<l.length),bz l[j]=true)∧lk ρ 22=some (.sl (l.map aT) p)∧lk ρ 23=some (.i l.length)∧lk ρ 24=some (.i i)) l.length ?_ ?_
  ·refine⟨.refl _,0,afu,rfl,fun j hj=>afu,?_,?_,?_⟩<;>simp only[go_sem]
  ·rintro q ρ G ⟨hs,i,hi,rfl,hc,r22,r23,r24⟩
   simp only[go_sem,r23,r24];refine .intro (fun e=>?_) (fun e=>?_)
   ·have hlt:i<l.length:=afq e
    have w1:IntKind.i64.wrap ((i:Int)+1)=((i+1:Nat):Int):=afG;have ix:=fun k=>fF.eq (xs:=l.map aT) (sz:=3) i afv afD k
    rw[afk]at ix;have hci:=fun(d:bz l[i]=true)=>(fun j (hj:j<i+1) (h2:j<l.length)=>(by grind:bz l[j]=true))
    have hat:=fun(d:bz l[i]=false)=>(List.all_eq_false.2 ⟨l[i],afo hlt,afv⟩:l.all bz=false)
    obtain⟨v,ev⟩:∃v,l[i]=v:=⟨_,rfl⟩;rw[ev]at ix hci hat;simp only[aT]at ix;simp only[go_sem,r22,r24,ix];intro i4 h4;simp only[go_sem];refine(hvr v _).pthen ?_;cases d1:bz v
    ·simp only[go_sem]
     exact .mk _ (.refl _) (hs.trans (.aj h4)) ⟨by rw[hmm,hat d1];rfl,rfl⟩
    ·simp only[go_sem,r24,w1]
     refine⟨_,?_,hs.trans (.aj h4),i+1,afu,rfl,hci d1,?_,?_,?_⟩
     ·omega
     all_goals simp only[go_sem,r22,r23]
   ·have hge:i=l.length:=by grind
    simp only[go_sem];exact .mk _ (.refl _) hs ⟨by rw[hmm,List.all_eq_true.2 fun x hx=>aie];rfl,rfl⟩
theorem MP{op:Int}{l:List bu}(h:HC op l=false):iE op l=oO 1:=by
 unfold iE;rw[if_pos]
 by_cases h1:6≤op∧op≤13
 ·by_cases h2:l.length=if op=11 then 1 else 2
  ·refine .inr (.inr ?_)
   unfold HC at h
   grind
  omega
 omega
theorem J4{op:Int}{l:List bu}(h:HC op l=true):(6≤op∧op≤13)∧l.all bz=true∧(op=11∧(∃a,l= [a])∨op≠11∧∃a b,l= [a,b]):=by
 unfold HC at h;simp only[Bool.and_eq_true,Bool.not_eq_true',Bool.or_eq_false_iff,decide_eq_false_iff_not]at h;obtain⟨⟨⟨h1,h2⟩,h3⟩,h4⟩:=h;refine⟨afu,h4,?_⟩
 by_cases e:op=11
 ·subst e
  have h3' :(l.length:Int)=1:=afv;exact .inl ⟨rfl,List.length_eq_one_iff.1 afu⟩
 ·have h3' :(l.length:Int)=2:=by grind
  exact .inr ⟨e,yq afu⟩
theorem CP(op:Int)(l:List bu)(hl:l.length≤1000000)(p:Perm)(h:Heap):ai prog 313 [.i op,.sl (l.map aT) p] h fun r h' =>r=sj (iE op l)∧h' =h:=by
 have hmy:=fun G=>T5 op l hl p G
 cases dm:HC op l
 ·rw[dm]at hmy
  refine afs func313 111 [.cell 4 48,.tmp 5] fun hwf=>?_
  simp only[go_sem];intro i1 h1;simp only[go_sem];refine(hmy _).pthen ?_;simp only[go_sem];exact .mk _ (.refl _) (.aj h1) ⟨by rw[MP dm];rfl,rfl⟩
 rw[dm]at hmy;obtain⟨hop,hall,hf⟩:=J4 dm;rcases hf with⟨rfl,a,rfl⟩|⟨e11,a,b,rfl⟩
 ·have ix0:=fun k=>fF.eq (xs:=[aT a]) (sz:=3) 0 afB rfl k
  simp only[List.getElem_cons_zero,aT,Int.natCast_zero]at ix0;have hal:=fun(G:Heap)=>CL 1 [a] afB p G
  simp only[List.map_cons,List.map_nil,aT]at hal hmy;have hc:iE 11 [a]=if(([a].all fun v=>v.kind==1)=false)then oO 2 else(dV (a.n==0),0):=by
   unfold iE;rw[if_neg (by simp[hall])]
   simp
  have htr:=fun G=>Cr (a.n==0) G
  refine afs func313 111 [.cell 4 48,.tmp 5] fun hwf=>?_
  simp only[go_sem,List.map_cons,List.map_nil,aT];intro i1 h1;simp only[go_sem];refine(hmy _).pthen ?_;simp only[go_sem];refine(hal _).pthen ?_;cases d1:([a].all fun v=>v.kind==1)
  ·simp only[go_sem]
   exact .mk _ (.refl _) (.aj h1) ⟨by rw[hc,if_pos d1];rfl,rfl⟩
  ·simp only[go_sem,ix0]
   refine(htr _).pthen ?_;simp only[go_sem,aT];exact .mk _ (.refl _) (.aj h1) ⟨by rw[hc,if_neg (by rw[d1];decide)];rfl,rfl⟩
 ·have ix0:=fun k=>fF.eq (xs:=[aT a,aT b]) (sz:=3) 0 afB rfl k
  have ix1:=fun k=>fF.eq (xs:=[aT a,aT b]) (sz:=3) 1 afB rfl k
  simp only[List.getElem_cons_zero,List.getElem_cons_succ,aT,Int.natCast_zero,Int.natCast_one]at ix0 ix1;have hal:=fun(G:Heap)=>CL 1 [a,b] afB p G
  have hva:bz a=true∧bz b=true:=by simpa using hall
  have hnu:=fun(g:FuncId) (o:Bool) (n:Int) hg (G:Heap)=>HI g a b o n hg p G
  simp only[List.map_cons,List.map_nil,aT]at hal hmy hnu;have hle:=fun G=>Dd a b G
  simp only[aT]at hle;have htr:=fun(x:Bool) G=>Cr x G
  have hc:iE op [a,b]=if op=6 then(if a.kind=b.kind then(dV (eqV a b),0)else oO 2)
    else if op=7 then(match ov a b with
     |some x=>(dV x,0)
     |none=>oO 2)
    else if op=8∨op=9∨op=10 then
     (if [a,b].all fun v=>v.kind==2 then(if op=8 then A5 (Mt a.n b.n) (a.n+b.n)else if op=9 then A5 (O2 a.n b.n) (a.n - b.n)else A5 (Li a.n b.n) (a.n*b.n))else oO 2)
    else if([a,b].all fun v=>v.kind==1)=false then oO 2
    else if op=12 then(dV (a.n==1 && b.n==1),0)
    else(dV (a.n==1||b.n==1),0):=by
   unfold iE;rw[if_neg (by simp[hall,e11,hop.1,hop.2])]
   simp only[e11,if_false];rfl
  refine aw func313 111 [.cell 4 48,.tmp 5] ?_
  simp only[go_sem,List.map_cons,List.map_nil,aT];intro i1 h1;simp only[go_sem];refine(hmy _).pthen ?_;rcases(show op=6∨op=7∨op=8∨op=9∨op=10∨op=12∨op=13 by omega)with rfl|rfl|rfl|rfl|rfl|rfl|rfl
  ·simp only[go_sem]
   refine⟨.of afx,?_⟩;cases dk:(a.kind !=b.kind)
   case true=>simp only[go_sem,ix0,ix1,dk];exact .mk _ (.refl _) (.aj h1) ⟨by rw[hc,if_pos rfl,if_neg (by simpa using dk)];rfl,rfl⟩
   ·simp only[go_sem,ix0,ix1,dk]
    refine .calls cY [0,1,2,3,4,5,6,7,8,9] (fun _ _ e=>afT) afx rfl ?_
    simp only[go_sem,ix0,ix1];have htr1:=htr (eqV a b);simp only[eqV]at htr1;refine(htr1 _).pthen ?_;refine⟨fun _ _ e=>afT,?_⟩
    simp only[go_sem,aT];refine⟨fun _ _ e=>afT,?_⟩
    exact .mk _ (.refl _) (.aj h1) ⟨by rw[hc,if_pos rfl,if_pos (by simpa using dk)];rfl,rfl⟩
  ·have hc7:iE 7 [a,b]=(match ov a b with
     |some x=>(dV x,0)
     |none=>oO 2):=by rw[hc];rfl
   simp only[go_sem];refine .quiet afx ?_;simp only[go_sem,ix0,ix1];refine⟨_,hle _,?_⟩;cases hl:ov a b with
   |none=>
    have e2:zD a b=2:=by simp[zD,hva]
    rw[hl]at hc7;simp only[go_sem,l8,hl,e2];exact .mk _ (.refl _) (.aj h1) ⟨by rw[hc7];rfl,rfl⟩
   |some x=>rw[hl]at hc7;simp only[go_sem,l8,hl];refine(htr x _).pthen ?_;simp only[go_sem,aT];exact .mk _ (.refl _) (.aj h1) ⟨by rw[hc7];rfl,rfl⟩
  ·have hc8:iE 8 [a,b]=if [a,b].all (fun v=>v.kind==2)then A5 (Mt a.n b.n) (a.n+b.n)else oO 2:=by rw[hc];rfl
   have hg:=hnu 319 _ _ (fun G=>S5 a.n b.n G)
   rw[←hc8]at hg;obtain⟨⟨v,e⟩,ex⟩:∃x,iE 8 [a,b]=x:=⟨_,rfl⟩;exact aki
  ·have hc8:iE 9 [a,b]=if [a,b].all (fun v=>v.kind==2)then A5 (O2 a.n b.n) (a.n - b.n)else oO 2:=by rw[hc];rfl
   have hg:=hnu 320 _ _ (fun G=>UA a.n b.n G)
   rw[←hc8]at hg;obtain⟨⟨v,e⟩,ex⟩:∃x,iE 9 [a,b]=x:=⟨_,rfl⟩;exact aki
  ·have hc8:iE 10 [a,b]=if [a,b].all (fun v=>v.kind==2)then A5 (Li a.n b.n) (a.n*b.n)else oO 2:=by rw[hc];rfl
   have hg:=hnu 321 _ _ (fun G=>T8 a.n b.n G)
   rw[←hc8]at hg;obtain⟨⟨v,e⟩,ex⟩:∃x,iE 10 [a,b]=x:=⟨_,rfl⟩;exact aki
  ·have hc12:iE 12 [a,b]=if([a,b].all fun v=>v.kind==1)=false then oO 2 else(dV (a.n==1 && b.n==1),0):=by rw[hc];rfl
   simp only[go_sem];refine(hal _).pthen ?_;cases d1:([a,b].all fun v=>v.kind==1)
   ·simp only[go_sem]
    exact .mk _ (.refl _) (.aj h1) ⟨by rw[hc12,if_pos d1];rfl,rfl⟩
   ·rw[if_neg (by rw[d1];decide)]at hc12
    cases da:(a.n==1)<;>cases db:(b.n==1)
    all_goals
     rw[da,db]at hc12;simp only[go_sem,ix0,ix1,da,db];refine(htr _ _).pthen ?_;simp only[go_sem,aT];exact .mk _ (.refl _) (.aj h1) ⟨by rw[hc12];rfl,rfl⟩
  ·have hc13:iE 13 [a,b]=if([a,b].all fun v=>v.kind==1)=false then oO 2 else(dV (a.n==1||b.n==1),0):=by rw[hc];rfl
   simp only[go_sem];refine(hal _).pthen ?_;cases d1:([a,b].all fun v=>v.kind==1)
   ·simp only[go_sem]
    exact .mk _ (.refl _) (.aj h1) ⟨by rw[hc13,if_pos d1];rfl,rfl⟩
   ·rw[if_neg (by rw[d1];decide)]at hc13
    cases da:(a.n==1)<;>cases db:(b.n==1)
    all_goals
     rw[da,db]at hc13;simp only[go_sem,ix0,ix1,da,db];refine(htr _ _).pthen ?_;simp only[go_sem,aT];exact .mk _ (.refl _) (.aj h1) ⟨by rw[hc13];rfl,rfl⟩
end Go.Proofs.YtelkmnkejghkeaaGreatDoor
namespace Go.Bf
open Go Go.Ab Go.Proofs.YtelkmnkejghkeaaGreatDoor
def bS(x:jS):AV:=.agg [.sl (x.bag.map aT) .no,.i x.v.kind,.i x.v.n,.s x.v.s,.i x.e]
end Go.Bf
namespace Go.Proofs.YtelkmnkejghkeaaGreatDoor
open Go Go.Ab Go.Bf Tryz
variable {gs:List bt}{op:Int}{val:bu}{attr:qU}{l:List jS}
theorem TS(x:jS)(n:Int)(h:Heap):ai prog 276 [bS x,.i n] h fun r h' =>r= .b (isI x n)∧h' =h:=by
 refine aw func276 15 [.tmp 4] ?_
 simp only[go_sem,bS];exact ake
theorem Qx(x:jS)(n:Int)(h:Heap):ai prog 276 [.agg [.sl [] .full,.i x.v.kind,.i x.v.n,.s x.v.s,.i x.e],.i n] h fun r h' =>r= .b (isI x n)∧h' =h:=by
 refine aw func276 15 [.tmp 4] ?_
 simp only[go_sem];exact ake
theorem wB(b:Bool)(h:Heap):ai prog 311 [.b b] h fun r h' =>r=bS (js b)∧h' =h:=by
 refine aw func311 10 [.cell 2 373] ?_
 simp only[go_sem];intro i1 h1;simp only[go_sem];intro i2 h2;have n21:=aH h2;have n2:=aA h2;cases b
 all_goals
  simp only[go_sem,ak,n21.symm];refine .mk (bS (js _)) ?_ ((((Sub.refl h).put h1 _).put n2 _).put h1 _) ⟨rfl,rfl⟩;refine .agg _ _ rfl fun i a b=>?_
  rcases i with _|_|_|_|_|i
  ·exact aia
  all_goals first|exact .refl _|(simp at a;omega)
theorem GJ(op:Int)(h:Heap):ai prog 297 [.i op] h fun r h' =>r= .i (opsOf op:Nat)∧h' =h:=by
 refine aw func297 11 [.tmp 2] ?_
 cases d1:(op==1)
 case true=>simp only[go_sem,d1];exact .same (.refl _) ⟨by rw[opsOf,if_pos (.inl afv)];rfl,rfl⟩
 cases d2:(op==2)
 case true=>simp only[go_sem,d1,d2];exact .same (.refl _) ⟨by rw[opsOf,if_pos (.inr afv)];rfl,rfl⟩
 have e1:¬(op=1∨op=2):=afv;cases d3:(op==3)
 case true=>simp only[go_sem,d1,d2,d3];exact .same (.refl _) ⟨by rw[opsOf,if_neg e1,if_pos (.inl afv)];rfl,rfl⟩
 cases d4:(op==4)
 case true=>simp only[go_sem,d1,d2,d3,d4];exact .same (.refl _) ⟨by rw[opsOf,if_neg e1,if_pos (.inr (.inl afv))];rfl,rfl⟩
 cases d5:(op==11)
 case true=>simp only[go_sem,d1,d2,d3,d4,d5];exact .same (.refl _) ⟨by rw[opsOf,if_neg e1,if_pos (.inr (.inr afv))];rfl,rfl⟩
 have e2:¬(op=3∨op=4∨op=11):=afv;simp only[go_sem,d1,d2,d3,d4,d5];exact .same (.refl _) ⟨by rw[opsOf,if_neg e1,if_neg e2];rfl,rfl⟩
theorem Hq(vs:List bu)(hl:vs.length≤1000000000)(x:bu)(p:Perm)(h:Heap):
  ai prog 323 [.sl (vs.map aT) p,aT x] h fun r h' =>r= .i (ixD (fun y=>eqV x y) vs)∧h' =h:=by
 refine aw func323 19 [.tmp 4] ?_
 simp only[go_sem,aT];intro i1 h1;simp only[go_sem,afj];refine .intro (fun m ρ G=>G=upd h i1 (some (.obj [.i x.kind,.i x.n,.s x.s] 48))∧∃i:Nat,i≤vs.length∧m=vs.length - i∧(∀j (hj:j<i) (h2:j<vs.length),eqV x vs[j]=false)∧lk ρ 0=some (.sl (vs.map aT) p)∧lk ρ 3=some (.ptr i1 0)∧lk ρ 7=some (.i vs.length)∧lk ρ 8=some (.i i)) vs.length ?_ ?_
 ·refine⟨rfl,0,afu,rfl,fun j hj=>afu,?_,?_,?_,?_⟩<;>simp only[go_sem]
 ·rintro m ρ G ⟨rfl,i,hi,rfl,hc,r0,r3,r7,r8⟩
  simp only[go_sem,r7,r8];refine .intro (fun e=>?_) (fun e=>?_)
  ·have hlt:i<vs.length:=afq e
   have w1:IntKind.i64.wrap ((i:Int)+1)=((i+1:Nat):Int):=afG;have ix:=fun k=>fF.eq (xs:=vs.map aT) (sz:=3) i afv afD k
   rw[afk]at ix;have hci:=fun(d:eqV x vs[i]=false)=>(fun j (hj:j<i+1) (h2:j<vs.length)=>(by grind:eqV x vs[j]=false))
   have hat:=fun(d:eqV x vs[i]=true)=>oS (q:=fun y=>eqV x y) hlt d fun j hj=>hc j hj afu
   obtain⟨v,ev⟩:∃v,vs[i]=v:=⟨_,rfl⟩;rw[ev]at ix hci hat;simp only[aT]at ix;simp only[go_sem,r0,r3,r8];refine⟨.of afx,?_⟩;cases d1:eqV x v
   ·have d2:=d1
    simp only[eqV]at d2;simp only[go_sem,r8,ix,d2,w1];refine⟨_,?_,rfl,i+1,afu,rfl,hci d1,?_,?_,?_,?_⟩
    ·omega
    all_goals simp only[go_sem,r0,r3,r7]
   ·have d2:=d1
    simp only[eqV]at d2;simp only[go_sem,ix,d2];exact .mk _ (.refl _) (.aj h1) ⟨ajy,rfl⟩
  ·have hge:i=vs.length:=by grind
   simp only[go_sem];exact .mk _ (.refl _) (.aj h1) ⟨afW,rfl⟩
theorem PV{vs:List bu}{x:bu}:decide ((0:Int)≤ixD (fun y=>eqV x y) vs)=vs.any fun v=>eqV v x:=by
 have hsy:(fun v=>eqV v x)=fun v=>eqV x v:=by simp[funext,eqV,BEq.comm]
 rw[vu,hsy]
theorem RI(vs:List bu)(hl:vs.length≤1000000000)(x:bu)(p:Perm)(h:Heap):ai prog 312 [.sl (vs.map aT) p,aT x] h fun r h' =>r= .b (vs.any fun v=>eqV v x)∧h' =h:=by
 have h1:∀G,ai prog 315 [.sl (vs.map aT) p,aT x] G fun r h' =>r= .b (vs.any fun v=>eqV v x)∧h' =G:=fun G=>by
  have hq:=fun K=>Hq vs hl x p K
  refine afs func315 9 [.tmp 4] fun hwf=>?_
  simp only[go_sem,aT];intro i1 h1;simp only[go_sem];refine(hq _).pthen ?_;simp only[go_sem,PV];exact afM
 refine aw func312 8 [.tmp 4] ?_
 simp only[go_sem,aT];intro i1 h1';simp only[go_sem];refine(h1 _).pthen ?_;simp only[go_sem];exact .mk _ (.refl _) (.aj h1') ⟨rfl,rfl⟩
theorem lY{L:List AV}{x:jS}(hL:L=x.bag.map aT)(q:Perm):Weak (.agg [.sl L q,.i x.v.kind,.i x.v.n,.s x.v.s,.i x.e]) (bS x):=by
 subst hL;refine .agg _ _ rfl fun i a b=>?_
 rcases i with _|_|_|_|_|i
 ·exact aia
 all_goals first|exact .refl _|(simp at a;omega)
theorem uH(op:Int):opsOf op≤2:=by grind [opsOf]
theorem vU{x:jS}(h1:op≠1)(h2:op≠2)(hno:¬((op=12∨op=13)∧(l.any fun x=>isI x (op - 12))=true))(hx:l.find? (fun x=>x.e !=0)=some x):mb gs ⟨op,val,attr⟩ l=⟨[],aq,x.e⟩:=by simp_all [mb,if_neg]
theorem vT(h1:op≠1)(h2:op≠2)(hno:¬((op=12∨op=13)∧(l.any fun x=>isI x (op - 12))=true))(hx:l.find? (fun x=>x.e !=0)=none):mb gs ⟨op,val,attr⟩ l=(if op=3 then(match (l.headD ⟨[],aq,0⟩).bag with
    | [v]=>⟨[],v,0⟩
    |_=>⟨[],aq,4⟩)
   else if op=4 then⟨[],⟨2,(l.headD ⟨[],aq,0⟩).bag.length,[]⟩,0⟩
   else if op=5 then js ((l.headD ⟨[],aq,0⟩).bag.any fun v=>eqV v (l.getD 1 ⟨[],aq,0⟩).v)
   else Go.Bf.Bl (iE op (l.map (·.v)))):=by
 unfold mb;simp only[if_neg h1,if_neg h2,if_neg hno,hx]
 all_goals rfl
theorem QY{h:Heap}{y:AV}(n:aP)(hop:1≤n.op∧n.op≤13)(l:List jS)(hb:Rd h 5 y (l.map bS))(hl:l.length=opsOf n.op)(hbag:∀x∈l,x.bag.length≤1000000)(gs:List bt)(hf:sM gs):
  ai prog 298 [cM n,y,bN gs] h fun r h' =>r=bS (mb gs n l)∧h' =h:=by
 obtain⟨op,val,attr⟩:=n;simp only at hop hl;have hl2:l.length≤2:=by rw[hl];exact uH op
 have uV:(U 48).sz=3:=afF;have hg:=fun G=>I4 gs attr.cat attr.name attr.must (by have:=hf.1;omega) hf.2 G
 simp only[bN]at hg;refine aw func298 122 [.cell 6 373] ?_
 simp only[go_sem,cM,bN];intro i3 h3;simp only[go_sem];intro i6 h6;have n63:=aH h6;have n6' :=aA h6;obtain⟨H0,eH⟩:∃H0,upd (upd h i3 (some (.obj [.i op,.i val.kind,.i val.n,.s val.s,.i attr.cat,.s attr.name,.b attr.must] 218))) i6 (some (.obj [.sl [] .full,.i 0,.i 0,.s [],.i 0] 373))=H0:=⟨_,rfl⟩;have hH0:Ab.Sub h H0:=aiv;have g3:H0 i3=some (.obj [.i op,.i val.kind,.i val.n,.s val.s,.i attr.cat,.s attr.name,.b attr.must] 218):=by rw[←eH,ag _ _ n63.symm,ah]
 have g6:H0 i6=some (.obj [.sl [] .full,.i 0,.i 0,.s [],.i 0] 373):=agZ;rw[eH];clear eH;cases d1:(op==1)
 case true=>have e1:op=1:=aiw;simp only[go_sem,d1,g3,g6];exact .mk (bS ⟨[],val,0⟩) (lY (x:=⟨[],val,0⟩) rfl _) (hH0.put n6' _) ⟨by unfold mb;simp only[e1,if_true],rfl⟩
 have hp1' :op≠1:=aiw;cases d2:(op==2)
 case true=>
  have e2:op=2:=by simpa using d2
  simp only[go_sem,d1,d2,g3];refine(hg _).pthen ?_
  by_cases hh:yQ gs attr= []∧attr.must=true
  ·have hh2:Go.Bf.getD gs attr.cat attr.name= []∧attr.must=true:=hh
   simp only[go_sem,KH,if_pos hh2,g6];exact .mk (bS ⟨[],aq,4⟩) (lY (x:=⟨[],aq,4⟩) rfl _) (hH0.put n6' _) ⟨by unfold mb;simp only[e2,if_neg (show¬(2:Int)=1 by decide),if_true,if_pos hh],rfl⟩
  ·have hh2:¬(Go.Bf.getD gs attr.cat attr.name= []∧attr.must=true):=hh
   simp only[go_sem,KH,if_neg hh2,g6];exact .mk (bS ⟨yQ gs attr,aq,0⟩) (lY (x:=⟨yQ gs attr,aq,0⟩) rfl _) (hH0.put n6' _) ⟨by unfold mb;simp only[e2,if_neg (show¬(2:Int)=1 by decide),if_true,if_neg hh],rfl⟩
 have hp2' :op≠2:=by simpa using d2
 have his:=fun(x:jS) (m:Int) (G:Heap)=>TS x m G
 simp only[bS]at his;cases d12:(op==12)
 case true=>
  have e12:op=12:=by simpa using d12
  have htr:=fun G=>wB false G
  simp only[bS]at htr;obtain⟨a,b,hab⟩:∃a b,l= [a,b]:=yq (by rw[hl,e12];rfl)
  have wk:IntKind.i64.wrap (op - 12)=0:=aib;have han:(l.any fun x=>isI x (op - 12))=(isI a 0||isI b 0):=by rw[hab,e12];simp
  have hb0:l.map bS= [bS a,bS b]:=by rw[hab];rfl
  have q3:(op==3)=false:=aib;have q4:(op==4)=false:=aib;have q5:(op==5)=false:=aib;have hbH:=hb.sub hH0;simp only[go_sem,d2,d1,d12,g3,wk];refine hbH.idx (e:=373) 0 rfl ahI afF afy fun p hp1=>?_
  have hld:=hp1.all (U:=U) (ty:=373) afF agH agH;simp only[go_sem,hld,hb0,List.getElem_cons_zero,bS];refine(his a 0 _).pthen ?_;cases da:isI a 0
  ·simp only[go_sem]
   refine hbH.idx (e:=373) 1 rfl ahI afF afy fun p hp1=>?_
   have hld:=hp1.all (U:=U) (ty:=373) afF agi agi;simp only[go_sem,hld,hb0,List.getElem_cons_succ,List.getElem_cons_zero,bS];refine(his b 0 _).pthen ?_;cases db:isI b 0
   ·exact ajJ
   ·simp only[go_sem]
    refine(htr _).pthen ?_;simp only[go_sem,g6];exact .mk (bS (js false)) (lY (x:=(js false)) rfl _) (hH0.put n6' _) ⟨by unfold mb;rw[han,da,db];simp[e12]<;>rfl,rfl⟩
  ·simp only[go_sem]
   refine(htr _).pthen ?_;simp only[go_sem,g6];exact .mk (bS (js false)) (lY (x:=(js false)) rfl _) (hH0.put n6' _) ⟨by unfold mb;rw[han,da];simp[e12]<;>rfl,rfl⟩
 have hn12:op≠12:=by simpa using d12
 cases d13:(op==13)
 case true=>
  have e12:op=13:=by simpa using d13
  have htr:=fun G=>wB true G
  simp only[bS]at htr;obtain⟨a,b,hab⟩:∃a b,l= [a,b]:=yq (by rw[hl,e12];rfl)
  have wk:IntKind.i64.wrap (op - 12)=1:=aib;have han:(l.any fun x=>isI x (op - 12))=(isI a 1||isI b 1):=by rw[hab,e12];simp
  have hb0:l.map bS= [bS a,bS b]:=by rw[hab];rfl
  have q3:(op==3)=false:=aib;have q4:(op==4)=false:=aib;have q5:(op==5)=false:=aib;have hbH:=hb.sub hH0;simp only[go_sem,d1,d2,d12,d13,g3,wk];refine hbH.idx (e:=373) 0 rfl ahI afF afy fun p hp1=>?_
  have hld:=hp1.all (U:=U) (ty:=373) afF agH agH;simp only[go_sem,hld,hb0,List.getElem_cons_zero,bS];refine(his a 1 _).pthen ?_;cases da:isI a 1
  ·simp only[go_sem]
   refine hbH.idx (e:=373) 1 rfl ahI afF afy fun p hp1=>?_
   have hld:=hp1.all (U:=U) (ty:=373) afF agi agi;simp only[go_sem,hld,hb0,List.getElem_cons_succ,List.getElem_cons_zero,bS];refine(his b 1 _).pthen ?_;cases db:isI b 1
   ·exact ajJ
   ·simp only[go_sem]
    refine(htr _).pthen ?_;simp only[go_sem,g6];exact .mk (bS (js true)) (lY (x:=(js true)) rfl _) (hH0.put n6' _) ⟨by unfold mb;rw[han,da,db];simp[e12]<;>rfl,rfl⟩
  ·simp only[go_sem]
   refine(htr _).pthen ?_;simp only[go_sem,g6];exact .mk (bS (js true)) (lY (x:=(js true)) rfl _) (hH0.put n6' _) ⟨by unfold mb;rw[han,da];simp[e12]<;>rfl,rfl⟩
 have hn13:op≠13:=by simpa using d13
 have hno:¬((op=12∨op=13)∧(l.any fun x=>isI x (op - 12))=true):=fun hh=>hh.1.elim hn12 hn13
 simp only[go_sem,d1,d2,d12,d13,g3,hb.len,afj];refine .intro (fun m ρ H=>∃(i:Nat) (z:AV),Acc U 48 H0 H z ((l.take i).map fun x=>aT x.v)∧i≤l.length∧m=l.length - i∧(∀j (h1:j<l.length),j<i→l[j].e=0)∧lk ρ 1=some y∧lk ρ 3=some (.ptr i3 0)∧lk ρ 6=some (.ptr i6 0)∧lk ρ 10=some z∧lk ρ 55=some y∧lk ρ 56=some (.i l.length)∧lk ρ 57=some (.i i)) l.length ?_ ?_
 ·refine⟨0,.sl [] .full,.full (.refl _),afu,rfl,fun j _ hj=>afu,?_,?_,?_,?_,?_,?_,?_⟩<;>simp only[go_sem]
 ·rintro m ρ H ⟨i,z,hz,hi,rfl,hc,r1,r3,r6,r10,r55,r56,r57⟩
  have hsH:=hH0.trans hz.1;have hbH:=hb.sub hsH;have k3:=hz.1 _ _ g3;have k6:=hz.1 _ _ g6;simp only[go_sem,r56,r57];refine .intro (fun e=>?_) (fun e=>?_)
  ·have hlt:i<l.length:=afq e
   have w1:=afp i afu;have hsn:(l.take (i+1)).map (fun x=>aT x.v)=(l.take i).map (fun x=>aT x.v)++ [aT l[i].v]:=agL
   simp only[go_sem,r55,r57];refine hbH.idx (e:=373) i rfl afQ afF afy fun p hp1=>?_
   have hld:=hp1.all (U:=U) (ty:=373) afF agd agd;obtain⟨x,ex⟩:∃x,l[i]=x:=⟨_,rfl⟩;rw[ex]at hsn;simp only[go_sem,hld,afk,ex,bS];intro i12 h12;have n126:i12≠i6:=fun e=>ahx
   cases dx:(x.e !=0)
   ·have dx' :x.e=0:=by simpa using dx
    simp only[go_sem,r10,dx];refine(hz.sub (.aj h12)).app (zs:=[aT x.v]) afz afz (fun k hk=>hk) agQ ag7 afN fun z' H' hz' kp=>?_
    simp only[go_sem,r57,w1];refine⟨_,?_,i+1,z',by rw[hsn];exact hz',afu,rfl,fun j h1 hj=>?_,?_,?_,?_,?_,?_,?_,?_⟩
    ·omega
    ·by_cases hji:j=i
     ·subst hji;rw[ex];exact dx'
     ·exact hc j h1 afu
    all_goals simp only[go_sem,r1,r3,r6,r55,r56]
   ·have hfi:l.find? (fun x=>x.e !=0)=some x:=by rw[←ex];exact List.find?_eq_some_iff_getElem.2 ⟨by rw[ex];exact dx,i,hlt,rfl,fun j hj=>ai1⟩
    simp only[go_sem,r6,dx,ak,n126.symm,k6];exact .mk (bS ⟨[],aq,x.e⟩) (lY (x:=⟨[],aq,x.e⟩) rfl _) ((hsH.trans (.aj h12)).put n6' _) ⟨aiN,rfl⟩
  ·have hge:i=l.length:=by have:=afm e;omega
   subst hge;have hfi:l.find? (fun x=>x.e !=0)=none:=List.find?_eq_none.2 fun x hx=>by obtain⟨j,hj,rfl⟩:=List.mem_iff_getElem.1 hx;rw[hc j hj hj];decide
   have hnd:=vT (gs:=gs) (val:=val) (attr:=attr) hp1' hp2' hno hfi;rw[List.take_length]at hz;obtain⟨qz,eqz⟩:=hz.row;subst eqz;have hcl:=fun G=>CP op (l.map (·.v)) aiG qz G
   rw[List.map_map]at hcl;have hcl:∀G,ai prog 313 [.i op,.sl (l.map fun x=>aT x.v) qz] G fun r h' =>r=sj (iE op (l.map (·.v)))∧h' =G:=hcl
   cases d3:(op==3)
   case true=>
    have e3:op=3:=ajp;obtain⟨a,ha⟩:∃a,l= [a]:=List.length_eq_one_iff.1 (by rw[hl,e3];rfl)
    have hb0:l.map bS= [bS a]:=by rw[ha];rfl
    simp only[e3,if_true,ha,List.headD_cons]at hnd;simp only[go_sem,r1,r3,k3,d3];refine hbH.idx (e:=373) 0 rfl ahI afF afy fun p hp1=>?_
    (try simp only[go_sem])
    refine hp1.field (f:=0) (off:=0) (t:=174) rfl agl fun p2 hp2=>?_
    have hld:=hp2.part (U:=U) (ty:=174) agl agx;simp only[hb0,List.getElem_cons_zero,bS,AV.cells]at hld;cases db:((a.bag.length:Int) !=1)
    ·have hb1:(a.bag.length:Int)=1:=by simpa using db
     obtain⟨v,hv⟩:=List.length_eq_one_iff.1 (show a.bag.length=1 by omega)
     rw[hv]at hnd hld;have iv:=fun K=>fF.eq (xs:=[aT v]) (sz:=3) 0 afB rfl K
     simp only[List.getElem_cons_zero,aT,Int.natCast_zero]at iv;simp only[go_sem,r1,hld,List.map_cons,List.map_nil,aT];refine hbH.idx (e:=373) 0 rfl ahI afF afy fun p hp1=>?_
     (try simp only[go_sem])
     refine hp1.field (f:=0) (off:=0) (t:=174) rfl agl fun p2 hp2=>?_
     have hld:=hp2.part (U:=U) (ty:=174) agl agx;simp only[hb0,List.getElem_cons_zero,bS,AV.cells,hv,List.map_cons,List.map_nil,aT]at hld;simp only[go_sem,hld,iv,r6,k6];exact .mk (bS ⟨[],v,0⟩) (lY (x:=⟨[],v,0⟩) rfl _) (hsH.put n6' _) ⟨by rw[e3,ha,hnd]<;>rfl,rfl⟩
    ·simp only[go_sem,hld,afj,db,r6,k6]
     refine .mk (bS ⟨[],aq,4⟩) (lY (x:=⟨[],aq,4⟩) rfl _) (hsH.put n6' _) ⟨?_,rfl⟩;rw[e3,ha,hnd]
     congr 1
     split
     ·rename_i v hv;rw[hv]at db;simp at db
     ·rfl
   cases d4:(op==4)
   case true=>
    have e4:op=4:=by simpa using d4
    obtain⟨a,ha⟩:∃a,l= [a]:=List.length_eq_one_iff.1 (by rw[hl,e4];rfl)
    have hb0:l.map bS= [bS a]:=by rw[ha];rfl
    simp only[go_sem,r1,r3,k3,d3,d4];refine hbH.idx (e:=373) 0 rfl ahI afF afy fun p hp1=>?_
    (try simp only[go_sem])
    refine hp1.field (f:=0) (off:=0) (t:=174) rfl agl fun p2 hp2=>?_
    have hld:=hp2.part (U:=U) (ty:=174) agl agx;simp only[hb0,List.getElem_cons_zero,bS,AV.cells]at hld;simp only[go_sem,hld,afj,r6,k6];exact .mk (bS ⟨[],⟨2,a.bag.length,[]⟩,0⟩) (lY (x:=⟨[],⟨2,a.bag.length,[]⟩,0⟩) rfl _) (hsH.put n6' _) ⟨by rw[hnd,e4,ha];rfl,rfl⟩
   cases d5:(op==5)
   case true=>
    have e5:op=5:=by simpa using d5
    obtain⟨a,b,hab⟩:∃a b,l= [a,b]:=yq (by rw[hl,e5];rfl)
    have hb0:l.map bS= [bS a,bS b]:=by rw[hab];rfl
    have hvh:=fun G=>RI a.bag (by have:=hbag a (by rw[hab];simp);omega) b.v .no G
    simp only[aT]at hvh;have htr:=fun G=>wB (a.bag.any fun v=>eqV v b.v) G
    simp only[bS]at htr;simp only[go_sem,r3,k3,d3,d4,d5];refine .calls h [0,1,2,3,4,5,6,7,8,9,10] hsH afx rfl ?_;simp only[go_sem,r1];refine hb.idx (e:=373) 0 rfl ahI afF afy fun p hp1=>?_
    simp only[go_sem];refine hp1.field (f:=0) (off:=0) (t:=174) rfl agl fun p2 hp2=>?_
    have hld:=hp2.part (U:=U) (ty:=174) agl agx;simp only[hb0,List.getElem_cons_zero,bS,AV.cells]at hld;simp only[go_sem,hld,r1];refine hb.idx (e:=373) 1 rfl ahI afF afy fun p hp3=>?_
    simp only[go_sem];refine hp3.field (f:=1) (off:=1) (t:=48) rfl agl fun p4 hp4=>?_
    have hld4:=hp4.part (U:=U) (ty:=48) agl (by simp only[go_sem,hb0,List.getElem_cons_succ,List.getElem_cons_zero];exact afi rfl)
    simp only[hb0,List.getElem_cons_succ,List.getElem_cons_zero,bS,AV.cells]at hld4;simp only[go_sem,hld4];refine(hvh _).pthen ?_;refine⟨hsH,?_⟩;simp only[go_sem];refine(htr _).pthen ?_;refine⟨hsH,?_⟩;simp only[go_sem,r6,k6];refine⟨hsH.put n6' _,?_⟩;exact .mk (bS (js (a.bag.any fun v=>eqV v b.v))) (lY (x:=(js (a.bag.any fun v=>eqV v b.v))) rfl _) (hsH.put n6' _) ⟨by rw[hnd,e5,hab];rfl,rfl⟩
   obtain⟨⟨v,e⟩,ev⟩:∃x,iE op (l.map (·.v))=x:=⟨_,rfl⟩
   rw[ev]at hcl;simp only[go_sem,r3,r10,k3,d3,d4,d5];refine(hcl _).pthen ?_;simp only[go_sem,sj,aT];intro i13 h13;have n136:i13≠i6:=fun e=>ai9
   simp only[go_sem,r6,ak,n136.symm,k6];exact .mk (bS ⟨[],v,e⟩) (lY (x:=⟨[],v,e⟩) rfl _) ((hsH.trans (.aj h13)).put n6' _) ⟨by rw[hnd];simp only[if_neg (show¬op=3 by simpa using d3),if_neg (show¬op=4 by simpa using d4),if_neg (show¬op=5 by simpa using d5)];rw[ev]<;>rfl,rfl⟩
end Go.Proofs.YtelkmnkejghkeaaGreatDoor
namespace Go.Bf
open Go Go.Ab Go.Proofs.YtelkmnkejghkeaaGreatDoor
variable {l:List aV}{alg op:Int}{gs:List bt}{bs bs' z:List Bool}
theorem Dv{t:gu}(h:mq t=0):PG t:=by
 obtain⟨h1,h2⟩:=Cp h;refine⟨afu,fun x hx=>?_⟩
 grind [Bu,Bt]
theorem M6.turn{m:aV}(h:M6 m):M6 (FX m):=by exact ako
theorem M6.indet{m:aV}(h:M6 m):M6 (iq m):=by exact ako
theorem M6.first(h:∀m∈l,M6 m):M6 (firstM l):=by
 unfold firstM;cases hf:l.find? fun m=>decide (m≠naM)with
 |none=>decide
 |some m=>grind
theorem M6.only:∀(l:List aV) (j:aV),(∀m∈l,M6 m)→M6 j→M6 (pJ l j)
 | [],j,_,hj=>hj
 |m::r,j,h,hj=>by
  simp only[pJ];split
  ·decide
  ·refine M6.only r _ afv ?_
   split
   ·grind
   ·split
    ·decide
    omega
theorem IL(h:∀m∈l,M6 m):M6 (iG alg l):=by
 unfold iG;split
 ·exact Jr _
 ·split
  ·exact M6.turn (Jr _)
  ·split
   ·exact .first h
   ·split
    ·exact .only _ _ h afy
    ·split
     ·split<;>decide
     ·split
      ·split<;>decide
      decide
theorem BE(r:cR)(t c:Nat):M6 (oo r t c).1:=by
 unfold oo;cases r.deny
 all_goals
  simp only[if_true,Bool.false_eq_true,if_false];split
  ·decide
  ·split
   ·decide
   ·first|(show M6 bf;decide)|(show M6 cJ;decide)
theorem Qz(alg:Int)(obls:List cE)(t:Nat){parts:List j9}(h:∀x∈parts,M6 x.1):M6 (qH alg obls t parts).1:=by
 have hc:M6 (iG alg (parts.map (·.1))):=IL fun m hm=>by grind
 unfold qH;simp only;split
 ·decide
 ·split
  ·exact hc.indet
  ·split
   ·exact hc
   ·exact hc
mutual
theorem yj(gs:List bt):∀p:bC,M6 (fR gs p).1
 |.mk id set alg tgt rules kids obls=>by
  have ih:=Ek gs kids;simp only[fR];split
  ·decide
  ·refine Qz alg obls _ fun x hx=>?_
   rcases List.mem_append.1 hx with hx|hx
   ·obtain⟨r,_,rfl⟩:=List.mem_map.1 hx
    exact BE _ _ _
   ·exact ih x hx
theorem Ek(gs:List bt):∀l:List bC,∀x∈nF gs l,M6 x.1
 | [],x,hx=>by simp[nF]at hx
 |k::r,x,hx=>by
  have h1:=yj gs k;have h2:=Ek gs r;simp only[nF,List.mem_cons]at hx;rcases hx with rfl|hx
  ·exact h1
  ·exact h2 x hx
end
theorem Mz(h:RT gs):sM gs:=⟨by have:=h.len;omega,fun g hg=>by have:=(h.each g hg).2.2.2.1;omega⟩
theorem IZ{α:Type}(B:Nat):∀(L:List (List α)),(∀x∈L,x.length≤B)→L.flatten.length≤L.length*B
 | [],_=>afB
 |x::L,h=>by
  have h1:=h x afB;have h2:=IZ B L fun y hy=>h y afv
  rw[List.flatten_cons,afn,List.length_cons,Nat.add_mul];omega
theorem uS{m:aV}{parts:List j9}{B:Nat}(hp:∀x∈parts,x.2.length≤B)(hn:parts.length≤32):(fj alg m parts).length≤32*B+B:=by
 unfold fj;split
 ·cases hf:parts.find? fun x=>x.1==m with
  |none=>simp
  |some x=>grind
 ·have h1:=IZ B (((parts.filter fun x=>x.1==m).map (·.2))) fun x hx=>by grind
  have h2:((parts.filter fun x=>x.1==m).map (·.2)).length≤32:=by grind
  have:=Nat.mul_le_mul_right B h2;omega
theorem lI(l:List cE)(m:aV):(fc l m).length≤l.length:=List.length_filter_le _ _
theorem BD(r:cR)(t c:Nat):(oo r t c).2.length≤r.obls.length:=by
 unfold oo
 all_goals
  grind [lI]
def oB:Nat→Nat
 |0=>8
 |n+1=>8+33*oB n
theorem Xl(n:Nat):8≤oB n:=by
 cases n with
 |zero=>decide
 |succ n=>grind [oB]
theorem CX(gs:List bt):∀(n d:Nat) (p:bC),d+n=5→mU d p→(fR gs p).2.length≤oB n
 |0,d,.mk id set alg tgt rules kids obls,hd,h=>by grind [mU]
 |n+1,d,.mk id set alg tgt rules kids obls,hd,h=>by
  simp only[mU,rK]at h;obtain⟨_,_,_,_,_,_,g2,g3,g4,g5,g6,g7⟩:=h;have hob:=(lB g3).1;have h8:=Xl n;simp only[fR];split
  ·simp
  ·unfold qH
   simp only;split
   ·simp
   ·split
    ·simp
    ·split
     ·simp
     ·have h1:=uS (alg:=alg) (m:=iG alg ((rules.map (iP gs)++nF gs kids).map (·.1))) (parts:=rules.map (iP gs)++nF gs kids) (B:=oB n) (fun x hx=>by
       rcases List.mem_append.1 hx with hx|hx
       ·obtain⟨r,hr,rfl⟩:=List.mem_map.1 hx
        have:=BD r (nP gs r.tgt) (ry gs r.cond);have:=(lB (g6 r hr).2.2.2).1
        show(oo r (nP gs r.tgt) (ry gs r.cond)).2.length≤_
        omega
       ·rw[uq]at hx
        obtain⟨k,hk,rfl⟩:=List.mem_map.1 hx;exact CX gs n (d+1) k afu (g7 k hk)) (by grind [afn,afj,uq])
      have h2:=lI obls (iG alg ((rules.map (iP gs)++nF gs kids).map (·.1)))
      simp only[afn,oB];omega
theorem El(gs:List bt){p:bC}(h:mU 1 p):(fR gs p).2.length≤10000000:=Nat.le_trans (CX gs 4 1 p rfl h) afy
theorem Mc{w:List Bool}(hw:ja op=some w):w.length=opsOf op∧1≤op∧op≤13:=by
 have h1:1≤op∧op≤13:=by grind [ja]
 refine⟨?_,h1⟩;rcases(show op=1∨op=2∨op=3∨op=4∨op=5∨op=6∨op=7∨op=8∨op=9∨op=10∨op=11∨op=12∨op=13 by omega)with rfl|rfl|rfl|rfl|rfl|rfl|rfl|rfl|rfl|rfl|rfl|rfl|rfl
 all_goals (simp[ja]at hw;subst hw;rfl)
theorem LV{n:aP}(h:iZ bs n=some bs'):(1≤n.op∧n.op≤13)∧opsOf n.op≤bs.length∧bs'.length=bs.length - opsOf n.op+1:=by
 unfold iZ at h;cases hw:ja n.op with
 |none=>grind
 |some w=>grind [Mc,afn,List.length_take,List.length_singleton]
theorem Rq{l:List aP}{i:Nat}(hl:gw [] l=some z)(hi:i<l.length)(hb:gw [] (l.take i)=some bs):∃bs',iZ bs l[i]=some bs'∧gw [] (l.take (i+1))=some bs' :=by
 have h1:=kS [] l i;rw[hl,hb,List.drop_eq_getElem_cons hi]at h1;simp only[gw]at h1;cases hs:iZ bs l[i]with
 |none=>rw[hs]at h1;cases h1
 |some bs' =>
  rw[kS [] _ i,List.take_take,Nat.min_eq_left afu,hb,List.take_succ_eq_append_getElem hi,List.drop_append_of_le_length afv,List.drop_of_length_le afv]
  grind [gw]
theorem Oc(hf:sM gs)(n:aP)(l:List jS):(mb gs n l).bag.length≤1000000:=by
 unfold mb Bl js
 repeat' split
 all_goals first|exact hf.bag _|simp
def Xa(x:jS):AV:=.tup [aT x.v,.i x.e]
end Go.Bf
namespace Go.Proofs.YtelkmnkejghkeaaGreatDoor
open Go Go.Ab Go.Bf Tryz
theorem Nl(l:List aP)(hn:l≠ [])(he:kY l=0)(gs:List bt)(hf:sM gs)(h:Heap):ai prog 275 [eC l,bN gs] h fun r h' =>r=Xa (xe gs l)∧h' =h:=by
 obtain⟨h32,hst⟩:=zc he hn;have hex:=fun G=>IW l G
 rw[he]at hex;simp only[eC]at hex;have dl:((l.length:Int)==0)=false:=ajB;refine aw func275 51 [.cell 4 48,.tmp 5] ?_
 simp only[go_sem,eC,bN];intro i4 h4;simp only[go_sem,afj,dl];refine(hex _).pthen ?_;simp only[go_sem,afj];obtain⟨H0,eH⟩:∃H0,upd h i4 (some (.obj [.i 0,.i 0,.s []] 48))=H0:=⟨_,rfl⟩;have hH0:Ab.Sub h H0:=by rw[←eH];exact .aj h4
 have g4:H0 i4=some (.obj [.i 0,.i 0,.s []] 48):=agZ;rw[eH];clear eH;refine .intro (fun m ρ H=>∃(i:Nat) (y:AV) (st:List jS) (bs:List Bool),OwE 373 H0 H 5 y (st.map bS)∧Ab.Sub H0 H∧(l.take i).foldl (Aw gs) []=st∧gw [] (l.take i)=some bs∧bs.length=st.length∧(∀x∈st,x.bag.length≤1000000)∧i≤l.length∧m=l.length - i∧lk ρ 1=some (.sl (gs.map lV) .no)∧lk ρ 4=some (.ptr i4 0)∧lk ρ 6=some y∧lk ρ 19=some (.sl (l.map cM) .no)∧lk ρ 20=some (.i l.length)∧lk ρ 21=some (.i i)) l.length ?_ ?_
 ·refine⟨0,_,[],[],.inl ⟨rfl,rfl⟩,.refl _,rfl,rfl,rfl,fun x hx=>afv,afu,rfl,?_,?_,?_,?_,?_,?_⟩<;>simp only[go_sem]
 ·rintro m ρ H ⟨i,y,st,bs,hw,hsH,hfo,hbs,hlen,hbag,hi,rfl,r1,r4,r6,r19,r20,r21⟩
  have hsl:bs.length≤i:=by have:=sX _ _ _ hbs;simpa[Nat.min_eq_left hi]using this
  simp only[go_sem,r20,r21];refine .intro (fun e=>?_) (fun e=>?_)
  ·have hlt:i<l.length:=afq e
   have w1:IntKind.i64.wrap ((i:Int)+1)=((i+1:Nat):Int):=afG;obtain⟨bs',hb1,hb2⟩:=Rq hst hlt hbs;have hfs:(l.take (i+1)).foldl (Aw gs) []=Aw gs st l[i]:=by grind [List.take_succ_eq_append_getElem]
   have ix:=fun k=>fF.eq (xs:=l.map cM) (sz:=7) i afv afD k
   rw[afk]at ix;obtain⟨n,en⟩:∃n,l[i]=n:=⟨_,rfl⟩;rw[en]at hb1 hfs ix;obtain⟨hop,hle,hln⟩:=LV hb1;rw[hlen]at hle;obtain⟨k,ek⟩:∃k,st.length - opsOf n.op=k:=⟨_,rfl⟩;have wk:IntKind.i64.wrap ((st.length:Int) - (opsOf n.op:Int))=(k:Int):=afG;have hstep:Aw gs st n=st.take k++ [mb gs n (st.drop k)]:=by grind [Aw]
   simp only[cM]at ix;simp only[go_sem,r19,r21,ix];intro i8 h8;obtain⟨H8,eH⟩:∃H8,upd H i8 (some (.obj [.i n.op,.i n.val.kind,.i n.val.n,.s n.val.s,.i n.attr.cat,.s n.attr.name,.b n.attr.must] 218))=H8:=⟨_,rfl⟩;have hs8:Ab.Sub H H8:=by rw[←eH];exact .aj h8
   have k8:H8 i8=some (.obj [.i n.op,.i n.val.kind,.i n.val.n,.s n.val.s,.i n.attr.cat,.s n.attr.name,.b n.attr.must] 218):=agZ;have hw8:=hw.sub hs8;simp only[go_sem,r6,hw8.rd.len,afj];refine(GJ n.op _).pthen ?_;rw[eH];clear eH;simp only[go_sem,wk];refine .calls (hm1 i8 (.obj [.i n.op,.i n.val.kind,.i n.val.n,.s n.val.s,.i n.attr.cat,.s n.attr.name,.b n.attr.must] 218)) [0,1,2,3,4,5,6,7,8,9,10,11] (.hm1 k8) afx rfl ?_;simp only[go_sem,r6];refine hw8.cut (U:=U) (x:=.i64) k afJ rfl afv afJ afy fun z hz hzy=>?_
   simp only[go_sem,r6,gG];refine hw8.from (U:=U) (x:=.i64) k afJ rfl afv afJ afy fun z2 hz2=>?_
   rw[←List.map_drop]at hz2;rw[←List.map_take]at hz;have hnd:=QY n hop (st.drop k) hz2 afv (fun x hx=>hbag x (List.mem_of_mem_drop hx)) gs hf
   have hnb:=Oc hf n (st.drop k);obtain⟨x,ex⟩:∃x,mb gs n (st.drop k)=x:=⟨_,rfl⟩;rw[ex]at hnd hnb hstep;simp only[cM,bN,bS]at hnd;simp only[go_sem,r1];refine hnd.pthen ?_;refine⟨.hm1 k8,?_⟩;simp only[go_sem];have hone:Rd H8 5 (.sl [bS x] .full) [bS x]:=.sl (fun z hz=>aiq) .full
   simp only[bS]at hone;refine OwE.app (U:=U) (tb:=373) hz (hsH.trans hs8) hone afJ afy afy afJ afB afN fun id y' H' hid hor how hoth=>?_
   have n8:i8≠id:=by
    intro e8;rcases hor with ho|⟨lz,cz,ez⟩
    ·grind
    ·exact mK (hz.nid (id:=id) (by rw[ez];rfl)).2.2 k8 afy e8.symm
   have hsub' :Ab.Sub H0 H' :=fun j b hj=>by rw[hoth j (fun e=>afv)];exact(hsH.trans hs8) _ _ hj
   refine⟨.hm1 afv,?_⟩;simp only[go_sem,r21,w1];refine⟨_,?_,i+1,y',Aw gs st n,bs',.inr ⟨id,hid,by rw[hstep,List.map_append];exact how⟩,hsub',hfs,hb2,afv,fun w hw=>?_,afu,rfl,?_,?_,?_,?_,?_,?_⟩
   ·omega
   ·grind
   all_goals simp only[go_sem,r1,r4,r19,r20]
  ·have hge:i=l.length:=by grind
   subst hge;rw[List.take_length]at hbs hfo;rw[hst]at hbs;cases hbs;obtain⟨x,rfl⟩:=List.length_eq_one_iff.1 hlen.symm;have hit:xe gs l=x:=by simp_all [xe,if_neg]
   obtain⟨id,hid,how⟩:=hw.ow afB;have hwp:Rd (pick H [id]) 5 y [bS x]:=(how.same (bE (List.mem_singleton.2 rfl))).rd;have n4:i4≠id:=fun e=>afv
   have k4:=hsH _ _ g4;simp only[go_sem];refine .calls (pick H [id]) [0,1,2,3,4,5,6,7,8,9] bW afx rfl ?_;simp only[go_sem,r6];refine hwp.idx (U:=U) (e:=373) 0 rfl afB afJ afy fun p hp1=>?_
   simp only[go_sem];refine hp1.field (f:=1) (off:=1) (t:=48) rfl afy fun p2 hp2=>?_
   have hld:=hp2.part (U:=U) (ty:=48) afy ahW;simp only[List.getElem_cons_zero,bS,AV.cells]at hld;simp only[go_sem,r6,hld];refine hwp.idx (U:=U) (e:=373) 0 rfl afB afJ afy fun p3 hp3=>?_
   simp only[go_sem];refine hp3.field (f:=2) (off:=4) (t:=53) rfl afy fun p4 hp4=>?_
   have hld4:=hp4.part (U:=U) (ty:=53) afy ahW;simp only[List.getElem_cons_zero,bS,AV.cells]at hld4;simp only[go_sem,r4,hld4,k4];refine⟨bW.put (by grind [pick]) _,?_⟩
   exact .mk _ (.refl _) ((hH0.trans hsH).put h4 _) ⟨by rw[hit];rfl,rfl⟩
theorem Qa(l:List aP)(he:kY l=0)(gs:List bt)(hf:sM gs)(h:Heap):ai prog 249 [eC l,bN gs] h fun r h' =>r= .i (ry gs l:Nat)∧h' =h:=by
 by_cases hn:l= []
 ·subst hn
  refine afs func249 26 [.tmp 4] fun hwf=>?_
  simp only[go_sem,eC,bN,List.map_nil,List.length_nil];exact afE
 have hv:=fun G=>Nl l hn he gs hf G
 have hcd:ry gs l=if isI (xe gs l) 1 then 2 else if isI (xe gs l) 0 then 0 else 1:=by simp_all [ry,if_neg]
 obtain⟨x,ex⟩:∃x,xe gs l=x:=⟨_,rfl⟩;rw[ex]at hv hcd;simp only[eC,bN,Xa,aT]at hv;have hi1:∀(m:Int) G,ai prog 276 [.agg [.sl [] .full,.i x.v.kind,.i x.v.n,.s x.v.s,.i x.e],.i m] G fun r h' =>r= .b (isI x m)∧h' =G:=fun m G=>Qx x m G
 have dl:((l.length:Int)==0)=false:=ajB;refine aw func249 26 [.tmp 4] ?_
 simp only[go_sem,eC,bN,afj,dl];refine(hv _).pthen ?_;simp only[go_sem];intro i5 h5;simp only[go_sem];intro i7 h7;have n7:=aA h7;have hs:∀x y,Ab.Sub h (upd (upd h i5 x) i7 y):=fun x y=>((Sub.refl h).put h5 x).put n7 y
 simp only[go_sem];refine(hi1 1 _).pthen ?_;cases d1:isI x 1
 case true=>rw[d1]at hcd;simp only[go_sem];exact .mk _ (.refl _) (hs _ _) ⟨by rw[hcd];rfl,rfl⟩
 simp only[go_sem];refine(hi1 0 _).pthen ?_;cases d0:isI x 0
 all_goals
  rw[d1,d0]at hcd;simp only[go_sem];exact .mk _ (.refl _) (hs _ _) ⟨by rw[hcd];rfl,rfl⟩
end Go.Proofs.YtelkmnkejghkeaaGreatDoor
namespace Go.Bf
open Go Go.Ab Go.Proofs.YtelkmnkejghkeaaGreatDoor
variable {l:List aV}{q:aV→Bool}
def kI(l:List aV)(p:Perm):AV:=.sl (l.map aO) p
theorem M9.na:M9 naM:=afy
theorem C8(l:List aV)(i:Nat)(h:i<l.length):(l.take (i+1)).foldl pz naM=pz ((l.take i).foldl pz naM) l[i]:=by grind [List.take_succ_eq_append_getElem]
theorem Kv(hq:∀m,q m=decide (m≠naM))(h:l.findIdx q<l.length):firstM l=l[l.findIdx q]:=by
 unfold firstM;have e:q=fun m=>decide (m≠naM):=funext hq
 subst e;rw[show l.find? (fun m=>decide (m≠naM))=some l[l.findIdx fun m=>decide (m≠naM)]from List.find?_eq_some_iff_getElem.2 ⟨List.findIdx_getElem (w:=h),_,h,rfl,fun j hj=>afv⟩]
 rfl
theorem Kw(hq:∀m,q m=decide (m≠naM))(h:¬l.findIdx q<l.length):firstM l=naM:=by
 unfold firstM;rw[List.find?_eq_none.2 fun x hx=>afv]
 rfl
def xF(j m:aV):aV:=if j=naM then m else if m≠naM then nL else j
theorem Oi{i:Nat}(h:i<l.length)(j:aV):pJ (l.drop i) j=if Ax l[i]=false then nL else pJ (l.drop (i+1)) (xF j l[i]):=by rw[List.drop_eq_getElem_cons h];rfl
end Go.Bf
namespace Go.Proofs.YtelkmnkejghkeaaGreatDoor
open Go Go.Ab Go.Bf Tryz
theorem XO:(U 55).sz=1:=afJ
theorem K6(ms:List aV)(hl:ms.length≤1000000000)(q:aV→Bool)(g:FuncId)(cap:List AV)(p:Perm)(h:Heap)(hp:∀m∈ms,ai prog g (aO m::cap) h fun r h' =>r= .b (q m)∧h' =h):
  ai prog 301 [kI ms p,.fn g cap] h fun r h' =>r= .i (ixD q ms)∧h' =h:=by
 refine aw func301 19 [.tmp 4] ?_
 simp only[go_sem,kI,afj];refine .intro (fun m ρ h' =>h' =h∧∃i:Nat,i≤ms.length∧m=ms.length - i∧(∀j (hj:j<i) (h2:j<ms.length),q ms[j]=false)∧lk ρ 0=some (.sl (ms.map aO) p)∧lk ρ 1=some (.fn g cap)∧lk ρ 7=some (.i ms.length)∧lk ρ 8=some (.i i)) ms.length ?_ ?_
 ·refine⟨rfl,0,afu,rfl,fun j hj=>afu,?_,?_,?_,?_⟩<;>simp only[go_sem]
 ·rintro m ρ h' ⟨rfl,i,hi,rfl,hc,r0,r1,r7,r8⟩
  simp only[go_sem,r7,r8];refine .intro (fun e=>?_) (fun e=>?_)
  ·have hlt:i<ms.length:=afq e
   have w1:IntKind.i64.wrap ((i:Int)+1)=((i+1:Nat):Int):=afG;have ix:=fun k=>fF.eq (xs:=ms.map aO) (sz:=1) i afv afD k
   rw[afk]at ix;have hg:=hp ms[i] (afo hlt);have hci:=fun(d:q ms[i]=false)=>(fun j (hj:j<i+1) (h2:j<ms.length)=>(by grind:q ms[j]=false))
   have hat:=fun(d:q ms[i]=true)=>oS hlt d fun j hj=>hc j hj afu
   obtain⟨m,em⟩:∃m,ms[i]=m:=⟨_,rfl⟩;rw[em]at ix hg hci hat;simp only[aO]at ix;simp only[go_sem,r0,r1,r8,ix];refine(show ai prog g (.v (.complex .f64 (hbit m.1) (hbit m.2))::cap) _ _ from hg).pthen ?_
   cases d1:q m
   ·simp only[go_sem,r8,w1]
    refine⟨_,?_,rfl,i+1,afu,rfl,hci d1,?_,?_,?_,?_⟩
    ·omega
    all_goals simp only[go_sem,r0,r1,r7]
   ·simp only[go_sem]
    exact .same (.refl _) ⟨ajy,rfl⟩
  ·have hge:i=ms.length:=by grind
   simp only[go_sem];exact .same (.refl _) ⟨afW,rfl⟩
theorem Hp(ms:List aV)(hl:ms.length≤1000000000)(hmm:∀m∈ms,M9 m)(x:aV)(hx:M9 x)(p:Perm)(h:Heap):
  ai prog 314 [kI ms p,aO x] h fun r h' =>r= .i (ixD (fun y=>x==y) ms)∧h' =h:=by
 refine aw func314 19 [.tmp 4] ?_
 simp only[go_sem,kI,afj];refine .intro (fun m ρ h' =>h' =h∧∃i:Nat,i≤ms.length∧m=ms.length - i∧(∀j (hj:j<i) (h2:j<ms.length),(x==ms[j])=false)∧lk ρ 0=some (.sl (ms.map aO) p)∧lk ρ 1=some (aO x)∧lk ρ 7=some (.i ms.length)∧lk ρ 8=some (.i i)) ms.length ?_ ?_
 ·refine⟨rfl,0,afu,rfl,fun j hj=>afu,?_,?_,?_,?_⟩<;>simp only[go_sem]
 ·rintro m ρ h' ⟨rfl,i,hi,rfl,hc,r0,r1,r7,r8⟩
  simp only[go_sem,r7,r8];refine .intro (fun e=>?_) (fun e=>?_)
  ·have hlt:i<ms.length:=afq e
   have w1:IntKind.i64.wrap ((i:Int)+1)=((i+1:Nat):Int):=afG;have ix:=fun k=>fF.eq (xs:=ms.map aO) (sz:=1) i afv afD k
   rw[afk]at ix;have hm9:=hmm ms[i] (afo hlt);have hci:=fun(d:(x==ms[i])=false)=>(fun j (hj:j<i+1) (h2:j<ms.length)=>(by grind:(x==ms[j])=false))
   have hat:=fun(d:(x==ms[i])=true)=>oS (q:=fun y=>x==y) hlt d fun j hj=>hc j hj afu
   obtain⟨m,em⟩:∃m,ms[i]=m:=⟨_,rfl⟩;rw[em]at ix hm9 hci hat;simp only[aO]at ix r1;have ne:=zP hx hm9;cases d1:(x==m)
   ·simp only[go_sem,r0,r1,r8,ix,ne,d1,w1]
    refine⟨_,?_,rfl,i+1,afu,rfl,hci d1,?_,?_,?_,?_⟩
    ·omega
    all_goals simp only[go_sem,r0,r1,r7,aO]
   ·simp only[go_sem,r0,r1,r8,ix,ne,d1]
    exact .same (.refl _) ⟨ajy,rfl⟩
  ·have hge:i=ms.length:=by grind
   simp only[go_sem];exact .same (.refl _) ⟨afW,rfl⟩
theorem He(ms:List aV)(hl:ms.length≤1000000000)(hmm:∀m∈ms,M9 m)(x:aV)(hx:M9 x)(p:Perm)(h:Heap):
  ai prog 305 [kI ms p,aO x] h fun r h' =>r= .b (decide (x∈ms))∧h' =h:=by
 refine aw func305 9 [.tmp 4] ?_
 simp only[go_sem];refine(Hp ms hl hmm x hx p _).pthen ?_;simp only[go_sem];exact .same (.refl _) ⟨by rw[vu,show(ms.any fun y=>x==y)=decide (x∈ms) by grind];rfl,rfl⟩
theorem Gg(m:aV)(hmm:M9 m)(h:Heap):ai prog 302 [aO m] h fun r h' =>r= .b (!(m==naM))∧h' =h:=by
 have n:=(nb hmm).nna;refine aw func302 5 [.tmp 2] ?_
 simp only[go_sem,aO,n];exact afE
theorem Ru(m:aV)(hmm:M9 m)(h:Heap):ai prog 303 [aO m] h fun r h' =>r= .b (Ax m)∧h' =h:=by
 obtain⟨n1,n2,n3,_⟩:=nb hmm;refine aw func303 13 [.tmp 2] ?_
 have es:Ax m=(m==naM||(m==bf||m==cJ)):=by
  unfold Ax
  grind
 rw[es];cases d1:(m==naM)<;>cases d2:(m==bf)<;>cases d3:(m==cJ)
 all_goals
  simp only[go_sem,aO,n1,n2,n3,d1,d2,d3];exact afE
theorem Nr(ms:List aV)(hl:ms.length≤1000000000)(hmm:∀m∈ms,M9 m)(p:Perm)(h:Heap):ai prog 281 [kI ms p] h fun r h' =>r=aO (firstM ms)∧h' =h:=by
 refine aw func281 12 [.tmp 2] ?_
 simp only[go_sem,kI];refine(K6 ms hl (fun m=> !(m==naM)) _ [] p _ fun m h=>Gg m (hmm m h) _).pthen ?_
 have hq:∀m:aV,(!(m==naM))=decide (m≠naM):=fun m=>afv
 by_cases hx:ms.findIdx (fun m=> !(m==naM))<ms.length
 ·obtain⟨i,ei⟩:∃i,ms.findIdx (fun m=> !(m==naM))=i:=⟨_,rfl⟩
  have ef:=Kv hq hx;have e1:ixD (fun m=> !(m==naM)) ms=(i:Nat):=by rw[ixD,ei];omega
  simp only[ei]at ef;have d1:decide ((0:Int)≤((i:Nat):Int))=true:=decide_eq_true afu;have ix:=fun k=>fF.eq (xs:=ms.map aO) (sz:=1) i afv afD k
  rw[afk,←ef]at ix;rw[e1];simp only[go_sem,d1,ix];exact afE
 ·have e1:ixD (fun m=> !(m==naM)) ms= -1:=by simp_all [ixD,if_neg]
  have d1:decide ((0:Int)≤ -1)=false:=rfl;rw[e1];simp only[go_sem,d1];exact .same (.refl _) ⟨by rw[Kw hq hx];rfl,rfl⟩
theorem O0(j m:aV)(hj:M9 j)(hmm:M9 m)(h:Heap):ai prog 304 [.i 4,aO j,aO m] h fun r h' =>r=aO (xF j m)∧h' =h:=by
 have n1:=(nb hj).na;have n2:=(nb hmm).nna;refine aw func304 31 [.tmp 6] ?_
 cases d1:(j==naM)
 case true=>simp only[go_sem,aO,n1,d1];exact .same (.refl _) ⟨by rw[xF,if_pos afv];rfl,rfl⟩
 cases d2:(m==naM)
 ·simp only[go_sem,aO,n1,n2,d1,d2]
  exact .same (.refl _) ⟨by rw[xF,if_neg afv,if_pos afv];rfl,rfl⟩
 ·simp only[go_sem,aO,n1,n2,d1,d2]
  exact .same (.refl _) ⟨by rw[xF,if_neg afv,if_neg afv];rfl,rfl⟩
theorem M9.step{j m:aV}(hj:M9 j)(hmm:M9 m):M9 (xF j m):=by
 unfold xF
 repeat' split
 ·omega
 ·decide
 omega
theorem Q6(ms:List aV)(hl:ms.length≤1000000000)(hmm:∀m∈ms,M9 m)(p:Perm)(h:Heap):ai prog 282 [kI ms p] h fun r h' =>r=aO (pJ ms naM)∧h' =h:=by
 refine aw func282 20 [.tmp 2] ?_
 simp only[go_sem,kI,afj];refine .intro (fun m ρ h' =>h' =h∧∃(i:Nat) (j:aV),i≤ms.length∧m=ms.length - i∧M9 j∧pJ (ms.drop i) j=pJ ms naM∧lk ρ 3=some (aO j)∧lk ρ 6=some (.sl (ms.map aO) p)∧lk ρ 7=some (.i ms.length)∧lk ρ 8=some (.i i)) ms.length ?_ ?_
 ·refine⟨rfl,0,naM,afu,rfl,.na,rfl,?_,?_,?_,?_⟩<;>simp only[go_sem,aO,naM,hbit]
 ·rintro m ρ h' ⟨rfl,i,j,hi,rfl,hj,ho,r3,r6,r7,r8⟩
  simp only[go_sem,r7,r8];refine .intro (fun e=>?_) (fun e=>?_)
  ·have hlt:i<ms.length:=afq e
   have w1:IntKind.i64.wrap ((i:Int)+1)=((i+1:Nat):Int):=afG;have ix:=fun k=>fF.eq (xs:=ms.map aO) (sz:=1) i afv afD k
   rw[afk]at ix;have hm9:=hmm ms[i] (afo hlt);rw[Oi hlt]at ho;obtain⟨m,em⟩:∃m,ms[i]=m:=⟨_,rfl⟩;rw[em]at ix hm9 ho;have hsu:=fun G=>Ru m hm9 G
   have hst:=fun G=>O0 j m hj hm9 G
   simp only[aO]at ix hsu hst r3;simp only[go_sem,r6,r8,ix];refine(hsu _).pthen ?_;cases d1:Ax m
   ·rw[if_pos d1]at ho
    simp only[go_sem];exact .same (.refl _) ⟨by rw[←ho];rfl,rfl⟩
   ·rw[if_neg afv]at ho
    simp only[go_sem,r3];refine(hst _).pthen ?_;simp only[go_sem,r8,w1];refine⟨_,?_,rfl,i+1,xF j m,afu,rfl,M9.step hj hm9,ho,?_,?_,?_,?_⟩
    ·omega
    all_goals simp only[go_sem,r6,r7,aO]
  ·have hge:i=ms.length:=by grind
   subst hge;rw[List.drop_length]at ho;simp only[go_sem,r3];exact .same (.refl _) ⟨by rw[←ho];rfl,rfl⟩
theorem Cs(ms:List aV)(hl:ms.length≤1000000000)(hmm:∀m∈ms,M9 m)(a b:aV)(hb:M9 b)(p:Perm)(h:Heap):ai prog 283 [kI ms p,aO a,aO b] h fun r h' =>r=aO (if b∈ms then b else a)∧h' =h:=by
 refine aw func283 12 [.tmp 6] ?_
 simp only[go_sem];refine(He ms hl hmm b hb p _).pthen ?_
 by_cases d:b∈ms
 ·simp only[go_sem,decide_eq_true d,if_pos d]
  exact afE
 ·simp only[go_sem,decide_eq_false d,if_neg d]
  exact afE
theorem S7(alg:Int)(ha:1≤alg∧alg≤6)(ms:List aV)(hl:ms.length≤1000000000)(hmm:∀m∈ms,M6 m)(p:Perm)(h:Heap):ai prog 250 [.i alg,kI ms p] h fun r h' =>r= .tup [aO (iG alg ms),.i 0]∧h' =h:=by
 have hm9:=fun m h=>(hmm m h).m9
 refine aw func250 49 [.tmp 4,.tmp 5] ?_
 simp only[go_sem,kI,afj];refine .intro (fun m ρ h' =>h' =h∧∃i:Nat,i≤ms.length∧m=ms.length - i∧M9 ((ms.take i).foldl pz naM)∧lk ρ 0=some (.i alg)∧lk ρ 1=some (.sl (ms.map aO) p)∧lk ρ 6=some (aO ((ms.take i).foldl pz naM))∧lk ρ 9=some (.sl (ms.map aO) p)∧lk ρ 10=some (.i ms.length)∧lk ρ 11=some (.i i)) ms.length ?_ ?_
 ·refine⟨rfl,0,afu,rfl,.na,?_,?_,?_,?_,?_,?_⟩<;>simp only[go_sem,aO,naM,hbit,List.take_zero,List.foldl_nil]
 ·rintro m ρ h' ⟨rfl,i,hi,rfl,hj,r0,r1,r6,r9,r10,r11⟩
  obtain⟨j,ej⟩:∃j,(ms.take i).foldl pz naM=j:=⟨_,rfl⟩;rw[ej]at hj r6;simp only[go_sem,r10,r11];refine .intro (fun e=>?_) (fun e=>?_)
  ·have hlt:i<ms.length:=afq e
   have w1:IntKind.i64.wrap ((i:Int)+1)=((i+1:Nat):Int):=afG;have ix:=fun k=>fF.eq (xs:=ms.map aO) (sz:=1) i afv afD k
   rw[afk]at ix;have hm6:=hmm ms[i] (afo hlt);have hsn:=C8 ms i hlt;rw[ej]at hsn;obtain⟨m,em⟩:∃m,ms[i]=m:=⟨_,rfl⟩;rw[em]at ix hm6 hsn;have hri:=fun G=>Df m hm6 G
   have hjo:=fun G=>QB j m hj hm6.m9 G
   simp only[aO]at ix hri hjo r6;simp only[go_sem,r9,r11,ix];refine(hri _).pthen ?_;simp only[go_sem,r6];refine(hjo _).pthen ?_;simp only[go_sem,r11,w1];refine⟨_,?_,rfl,i+1,afu,rfl,by grind [M9.join],?_,?_,?_,?_,?_,?_⟩
   ·omega
   all_goals simp only[go_sem,r0,r1,r9,r10,aO,hsn]
  ·have hge:i=ms.length:=by grind
   subst hge;rw[List.take_length]at ej;have ej' :yp ms=j:=ej;have hov:=fun G=>Js j hj G
   have htu:=fun(x:aV) (G:Heap)=>Rx x G
   have hov2:=fun G=>Js (FX j) ⟨hj.2,hj.1⟩ G
   have h1:=Nr ms hl hm9 p;have h2:=Q6 ms hl hm9 p;have h3:=Cs ms hl hm9 cJ bf afy p;have h4:=Cs ms hl hm9 bf cJ afy p;simp only[kI]at h1 h2 h3 h4;rcases(show alg=1∨alg=2∨alg=3∨alg=4∨alg=5∨alg=6 by omega)with rfl|rfl|rfl|rfl|rfl|rfl
   ·simp only[go_sem,r0,r6]
    refine(hov _).pthen ?_;simp only[go_sem];exact .same (.refl _) ⟨by simp only[iG,ej',if_true];rfl,rfl⟩
   ·simp only[go_sem,r0,r6]
    refine(htu _ _).pthen ?_;simp only[go_sem];refine(hov2 _).pthen ?_;simp only[go_sem];refine(htu _ _).pthen ?_;simp only[go_sem];exact .same (.refl _) ⟨by simp only[iG,ej'];rfl,rfl⟩
   ·simp only[go_sem,r0,r1]
    refine(h1 _).pthen ?_;exact aj0
   ·simp only[go_sem,r0,r1]
    refine(h2 _).pthen ?_;exact aj0
   ·simp only[go_sem,r0,r1]
    refine(h3 _).pthen ?_;exact alH
   ·simp only[go_sem,r0,r1]
    refine(h4 _).pthen ?_;exact alH
end Go.Proofs.YtelkmnkejghkeaaGreatDoor
namespace Go.Bf
open Go Go.Ab Go.Proofs.YtelkmnkejghkeaaGreatDoor
def rsA(r:j9):AV:=.agg [aO r.1,ay r.2]
theorem Kj(l:List cE)(m:aV)(i:Nat)(h:i<l.length):fc (l.take (i+1)) m=fc (l.take i) m++(if(l[i].on==1 && m==bf||l[i].on==2 && m==cJ)=true then [l[i]]else []):=by grind [fc,List.take_succ_eq_append_getElem]
theorem rW(l:List cE)(m:aV){L:List AV}(hL:L=l.map bh)(q:Perm):Weak (.agg [aO m,.sl L q]) (rsA (m,l)):=by
 subst hL;refine .agg _ _ rfl fun i a b=>?_
 rcases i with _|_|i
 ·exact agR
 ·exact aia
 grind
theorem zZ(alg:Int)(m:aV)(l:List j9)(i:Nat)(h:i<l.length)(h3:alg≠3):fj alg m (l.take (i+1))=fj alg m (l.take i)++(if(l[i].1==m)=true then l[i].2 else []):=by
 unfold fj;rw[if_neg h3,if_neg h3,List.take_succ_eq_append_getElem h,List.filter_append,List.map_append,List.flatten_append]
 grind
theorem zY{m:aV}{l:List j9}(h:∀x∈l,(x.1==m)=false):fj 3 m l= []:=by
 unfold fj;rw[if_pos rfl,List.find?_eq_none.2 fun x hx=>afv]
 rfl
theorem xy{m:aV}{l:List j9}(i:Nat)(h:i<l.length)(h1:(l[i].1==m)=true)(h2:∀j (hj:j<i),((l[j]'afu).1==m)=false):fj 3 m l=l[i].2:=by
 unfold fj;rw[if_pos rfl,show(l.find? fun x=>x.1==m)=some l[i]from List.find?_eq_some_iff_getElem.2 ⟨h1,i,h,rfl,fun j hj=>afv⟩]
 rfl
end Go.Bf
namespace Go.Proofs.YtelkmnkejghkeaaGreatDoor
open Go Go.Ab Go.Bf Tryz
theorem XP:(U 90).sz=3:=afJ
theorem XQ:(U 103).sz=2:=afJ
theorem sr(l:List cE)(hl:l.length≤1000000)(m:aV)(hpd:m=bf∨m=cJ)(h:Heap):ai prog 252 [ay l,aO m] h fun r h' =>r=ay (fc l m)∧h' =h:=by
 have h9:M9 m:=by rcases hpd with rfl|rfl<;>decide
 have pe:=(nb h9).pe;have de:=(nb h9).de;have uO:=XP;obtain⟨b,b1,b2⟩:∃b,(m==bf)=b∧(m==cJ)= !b:=by
  rcases hpd with rfl|rfl
  ·exact⟨true,afy,afy⟩
  ·exact⟨false,afy,afy⟩
 refine aw func252 36 [.tmp 4] ?_
 simp only[go_sem,ay,aO,afj];refine .intro (fun q ρ H=>∃(i:Nat) (y:AV),Acc U 90 h H y ((fc (l.take i) m).map bh)∧i≤l.length∧q=l.length - i∧lk ρ 1=some (.v (.complex .f64 (hbit m.1) (hbit m.2)))∧lk ρ 5=some y∧lk ρ 8=some (.sl (l.map bh) .no)∧lk ρ 9=some (.i l.length)∧lk ρ 10=some (.i i)) l.length ?_ ?_
 ·refine⟨0,.sl [] .full,by simpa[fc]using Acc.full (.refl _),afu,rfl,?_,?_,?_,?_,?_⟩<;>simp only[go_sem]
 ·rintro q ρ H ⟨i,y,hy,hi,rfl,r1,r5,r8,r9,r10⟩
  obtain⟨qy,eqy⟩:=hy.row;subst eqy;simp only[go_sem,r9,r10];refine .intro (fun e=>?_) (fun e=>?_)
  ·have hlt:i<l.length:=afq e
   have w1:=afp i afu;have hsn:=Kj l m i hlt;have ix:=fun k=>fF.eq (xs:=l.map bh) (sz:=3) i afQ afD k
   rw[afk]at ix;obtain⟨o,eo⟩:∃o,l[i]=o:=⟨_,rfl⟩;rw[eo]at ix hsn;simp only[bh]at ix;simp only[go_sem,r8,r10,ix];intro i7 h7;cases b
   ·cases a3:(o.on==2)
    ·cases a1:(o.on==1)
     ·simp only[go_sem,r10,a1,a3,w1]
      exact aj5
     ·simp only[go_sem,r1,r10,a1,a3,b1,pe,w1]
      exact aj5
    ·cases a1:(o.on==1)
     ·simp only[go_sem,r1,r5,a1,a3,b2,de]
      exact ajR
     ·simp only[go_sem,r1,r5,a1,a3,b1,b2,pe,de]
      exact ajR
   ·cases a1:(o.on==1)
    ·cases a3:(o.on==2)
     ·simp only[go_sem,r10,a1,a3,w1]
      exact aj5
     ·simp only[go_sem,r1,r10,a1,a3,b2,de,w1]
      exact aj5
    ·cases a3:(o.on==2)
     ·simp only[go_sem,r1,r5,a1,b1,pe]
      exact ajR
     ·simp only[go_sem,r1,r5,a1,b1,pe]
      exact ajR
  ·have hge:i=l.length:=by have:=afm e;omega
   subst hge;rw[List.take_length]at hy;simp only[go_sem,r5];exact .mk (ay (fc l m)) (by rw[List.take_length];exact .sl _ _) hy.1 ⟨rfl,rfl⟩
theorem tri{t:Nat}(h:t≤2):t=0∨t=1∨t=2:=afu
theorem Kk(r:cR)(hr:r.obls.length≤1000000)(t c:Nat)(ht:t≤2)(hc:c≤2)(h:Heap):ai prog 248 [aC r,.i t,.i c] h fun x h' =>x=rsA (oo r t c)∧h' =h:=by
 obtain⟨id,deny,tgt,cond,obls⟩:=r;simp only at hr;have hdp:=fun G=>sr obls hr bf (.inl rfl) G
 have hdd:=fun G=>sr obls hr cJ (.inr rfl) G
 have hip:=fun G=>zv bf afy G
 have hid:=fun G=>zv cJ afy G
 simp only[aO,bf,cJ,hbit,ay]at hdp hdd hip hid;refine aw func248 38 [.cell 6 103] ?_
 simp only[go_sem,aC];intro i3 h3;simp only[go_sem];intro i6 h6;have n63:=aH h6;have n6:=aA h6;have hs:∀x y,Ab.Sub h (upd (upd h i3 x) i6 y):=fun x y=>((Sub.refl h).put h3 x).put n6 y
 have hs2:∀x y z,Ab.Sub h (upd (upd (upd h i3 x) i6 y) i6 z):=fun x y z=>(hs x y).put n6 z
 cases deny
 ·rcases tri ht with rfl|rfl|rfl
  ·exact akB
  ·exact akU
  ·rcases tri hc with rfl|rfl|rfl
   ·exact akB
   ·exact akU
   ·simp only[go_sem,ak,n63.symm,ay]
    refine(hdp _).pthen ?_;simp only[go_sem];exact .mk (rsA (bf,fc obls bf)) (rW _ bf rfl _) (hs _ _) ⟨rfl,rfl⟩
 ·rcases tri ht with rfl|rfl|rfl
  ·exact akB
  ·exact akV
  ·rcases tri hc with rfl|rfl|rfl
   ·exact akB
   ·exact akV
   ·simp only[go_sem,ak,n63.symm,ay]
    refine(hdd _).pthen ?_;simp only[go_sem];exact .mk (rsA (cJ,fc obls cJ)) (rW _ cJ rfl _) (hs _ _) ⟨rfl,rfl⟩
theorem N6(gs:List bt)(t:gu):nP gs t≤2:=(uu (AS gs) t 2).1
theorem MW(gs:List bt)(l:List aP):ry gs l≤2:=by grind [ry]
theorem Km(r:cR)(hr:FE r)(gs:List bt)(hf:sM gs)(h:Heap):ai prog 205 [aC r,bN gs] h fun x h' =>x=rsA (iP gs r)∧h' =h:=by
 have hob:=(lB hr.2.2.2).1;have hmt:=fun G=>N7 r.tgt (Dv hr.2.1) gs hf G
 have hcd:=fun G=>Qa r.cond hr.2.2.1 gs hf G
 have hef:=fun G=>Kk r afu (nP gs r.tgt) (ry gs r.cond) (N6 _ _) (MW _ _) G
 simp only[aC,bN]at hmt hcd hef;refine aw func205 15 [.cell 4 103] ?_
 simp only[go_sem,aC,bN];intro i2 h2;simp only[go_sem];intro i4 h4;have n42:=aH h4;have n4:=aA h4;obtain⟨H,eH⟩:∃H,upd (upd h i2 (some (.obj [.s r.id,.b r.deny,aU r.tgt,eC r.cond,ay r.obls] 213))) i4 (some (.obj [.v (.complex .f64 0 0),.sl [] .full] 103))=H:=⟨_,rfl⟩;have hH:Ab.Sub h H:=by rw[←eH];exact((Sub.refl h).put h2 _).put n4 _
 have g2:H i2=some (.obj [.s r.id,.b r.deny,aU r.tgt,eC r.cond,ay r.obls] 213):=ajd;have g4:H i4=some (.obj [.v (.complex .f64 0 0),.sl [] .full] 103):=agZ;simp only[go_sem];rw[eH];clear eH;refine .calls (hm1 i2 (.obj [.s r.id,.b r.deny,aU r.tgt,eC r.cond,ay r.obls] 213)) [0,1,2,3,5,6,7,4,8,9,10] (.hm1 g2) afx rfl ?_;simp only[go_sem,gG];refine(hmt _).pthen ?_;refine⟨.hm1 g2,?_⟩;simp only[go_sem];refine(hcd _).pthen ?_;refine⟨.hm1 g2,?_⟩;simp only[go_sem];refine(hef _).pthen ?_;refine⟨.hm1 g2,?_⟩;simp only[go_sem,rsA,ay,aO,g4];refine⟨.hm1 (by rw[ag _ _ n42.symm];exact g2),?_⟩
 exact .mk _ (.refl _) (hH.put n4 _) ⟨rfl,rfl⟩
end Go.Proofs.YtelkmnkejghkeaaGreatDoor
