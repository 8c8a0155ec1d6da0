/- The law GuardRuns: pack 6 of its texts. -/
import Derived.Test.YtmlhcdeamjkpjaaGreatDoorPk1
import Derived.Test.YtmlhcdeamjkpjaaGreatDoorPk2
import Derived.Test.YtmlhcdeamjkpjaaGreatDoorPk3
import Derived.Test.YtmlhcdeamjkpjaaGreatDoorPk4
import Derived.Test.YtmlhcdeamjkpjaaGreatDoorPk5
set_option linter.unusedSimpArgs false
set_option linter.unusedVariables false
namespace Go.Bf
open Go Go.Ab Go.Proofs.YtmlhcdeamjkpjaaGreatDoor
structure pg where
 err:Int
 mark:aQ
 glass:Bool
 val:bR
 hidden:Bool
 at_:Int
structure Fm where
 op:OpD
 version:Int
 mark:aQ
 glass:Bool
 obls:List cr
def Ji:OpD:=⟨0,[],[],[],[],az,0,[],[],false⟩
def tU:Fm:=⟨Ji,0,naM,false,[]⟩
def nE:Txt:= [103,108,97,115,115]
def lS (s:an) (r:lW):Bool:=r.isOpen && decide (100≤s.tick - r.tick)
def C5 (s:an) (subj:Txt):Bool:=s.reviews.any fun r=>r.subj==subj && lS s r
def pX (s:an) (o:OpD) (m:aQ):Bool:=o.glass && (m==bV||m==naM) && uG s.roles ⟨o.subj,nE⟩ && !C5 s o.subj
def vC (s:an) (o:OpD) (reason:Txt):lW:=⟨(s.reviews.length:Int)+1,s.tick,o.subj,o.case,iJ o.kind,reason,true⟩
def cS (s:an) (o:OpD) (reason:Txt):an:= {s with reviews:=s.reviews++ [vC s o reason]}
def iN (l:List cr) (field:Txt):Bool:=l.any fun x=>x.kind==2 && x.arg==field
def gr (cs:List aK) (id:Txt):Nat:=cs.findIdx fun c=>c.id==id
def gN (s:an) (o:OpD) (what:Txt):an:=
 if gr s.cases o.case<s.cases.length∧o.kind≠6 then {s with cases:=s.cases.modify (gr s.cases o.case) fun c=>hY s c o.subj what} else s
def eR (o:OpD) (done:Bool) (s:an) (x:cr):an:=
 if x.kind=1∧done=true then gN s o x.arg
 else if x.kind=3 then cS s o x.arg
 else if x.kind=4 then {s with notices:=s.notices++ [⟨s.tick,o.case,x.arg⟩]}
 else s
def cO (s:an) (o:OpD) (l:List cr) (done:Bool):an:=l.foldl (eR o done) s
def oX (s:an):Bool:=decide (256<s.reviews.length)||decide (256<s.notices.length)||s.cases.any fun c=>decide (256<c.log.length)
def fV (s:an) (o:OpD):iI:=dX (eT s o) s.policy
def jo (s:an) (o:OpD):Int×Int:=if bD s o=0∧o.kind=7 then ((aN o.text).2.1,(aN o.text).2.2) else (bD s o,0)
def eU (s:an) (o:OpD):Bool:=pX s o (fV s o).1
def qb (s:an) (o:OpD):Bool:=decide ((fV s o).1=aT)||eU s o
def cC (s:an) (o:OpD):an:=
 let s1:=if eU s o then cS s o o.reason else s
 cO (if qb s o then dw aN s1 o else s1) o (fV s o).2 (qb s o)
def mD (s:an) (o:OpD):pg:=
 ⟨if qb s o then 0 else 12,(fV s o).1,eU s o,if qb s o && o.kind==2 && !iN (fV s o).2 o.field then dQ (bl s.cases o.case).fields o.field else az,qb s o && o.kind==2 && iN (fV s o).2 o.field,0⟩
def cu (s:an) (o:OpD):an×pg×Fm×Int:=
 if (jo s o).1≠0 then (s,⟨(jo s o).1,naM,false,az,false,(jo s o).2⟩,tU,(jo s o).1)
 else if oX (cC s o) then (s,⟨6,naM,false,az,false,0⟩,tU,6)
 else (cC s o,mD s o,⟨o,s.version,(fV s o).1,eU s o,(fV s o).2⟩,0)
theorem u0 (s:an) (o:OpD) (w:Txt):(gN s o w).tick=s.tick∧(gN s o w).roles=s.roles∧(gN s o w).policy=s.policy∧(gN s o w).version=s.version∧(gN s o w).reviews=s.reviews∧(gN s o w).notices=s.notices:=by
 unfold gN;split<;>simp
theorem zA (o:OpD) (done:Bool) (s:an) (x:cr):(eR o done s x).tick=s.tick∧(eR o done s x).roles=s.roles∧(eR o done s x).policy=s.policy∧(eR o done s x).version=s.version:=by
 unfold eR;split
 ·have:=u0 s o x.arg; exact ⟨this.1,this.2.1,this.2.2.1,this.2.2.2.1⟩
 ·split
  ·exact ⟨rfl,rfl,rfl,rfl⟩
  ·split<;>exact ⟨rfl,rfl,rfl,rfl⟩
theorem BB (o:OpD) (done:Bool):∀(l:List cr) (s:an),(cO s o l done).tick=s.tick∧(cO s o l done).roles=s.roles∧(cO s o l done).policy=s.policy∧(cO s o l done).version=s.version
 | [],s=>⟨rfl,rfl,rfl,rfl⟩
 |x::l,s=>by
  obtain ⟨a1,a2,a3,a4⟩:=zA o done s x;obtain ⟨b1,b2,b3,b4⟩:=BB o done l (eR o done s x);exact ⟨b1.trans a1,b2.trans a2,b3.trans a3,b4.trans a4⟩
def fS (o:OpD) (a b:List lW):Prop:=∃c,b=a++c∧∀i (h:i<c.length),c[i].id=((a.length+i+1:Nat):Int)∧c[i].isOpen=true∧c[i].subj=o.subj
theorem fS.refl (o:OpD) (a:List lW):fS o a a:=⟨[],by simp,fun i h=>by cases h⟩
theorem fS.trans {o:OpD} {a b c:List lW} (h1:fS o a b) (h2:fS o b c):fS o a c:=by
 obtain ⟨x,rfl,hx⟩:=h1;obtain ⟨y,rfl,hy⟩:=h2;refine ⟨x++y,by simp,fun i h=> ?_⟩
 by_cases hi:i<x.length
 ·rw [List.getElem_append_left hi]; exact hx i hi
 ·rw [List.getElem_append_right (by omega)]
  have:=hy (i - x.length) (by simp at h; omega)
  refine ⟨?_,this.2⟩;rw [this.1,Uk]
  congr 1
  omega
theorem fS.open (s:an) (o:OpD) (w:Txt):fS o s.reviews (cS s o w).reviews:=⟨[vC s o w],rfl,fun i h=>by
 have:i=0:=by simpa using h
 subst this;exact ⟨by simp [vC],rfl,rfl⟩⟩
theorem fS.duties (o:OpD) (done:Bool):∀(l:List cr) (s:an),fS o s.reviews (cO s o l done).reviews
 | [],s=> .refl o _
 |x::l,s=>by
  have:fS o s.reviews (eR o done s x).reviews:=by
   unfold eR;split
   ·rw [(u0 s o x.arg).2.2.2.2.1]; exact .refl o _
   ·split
    ·exact .open s o _
    ·split<;>exact .refl o _
  exact this.trans (fS.duties o done l _)
structure CE (c:aK):Prop where
 id:bn c.id=true
 owner:bn c.owner=true
 state:c.state∈mG
 asc:Bd c.fields
 nfields:c.fields.length≤16
 field:∀f∈c.fields,bn f.name=true∧bX f.val=true∧eqV f.val az=false
 log1:1≤c.log.length
 actor:∀x∈c.log,bn x.actor=true∧i64 x.tick
theorem q7.w {c:aK} (h:q7 c):CE c:=⟨h.id,h.owner,h.state,h.asc,h.nfields,h.field,h.log1,h.actor⟩
theorem CE.ok {c:aK} (h:CE c) (hl:c.log.length≤256):q7 c:=⟨h.id,h.owner,h.state,h.asc,h.nfields,h.field,h.log1,hl,h.actor⟩
structure jR (k:Nat) (s:an):Prop where
 tick:0≤s.tick∧s.tick≤1099511627776
 asc:Asc s.cases
 ncases:s.cases.length≤64
 case:∀c∈s.cases,CE c
 roles:s.roles.length≤64
 role:∀r∈s.roles,bn r.subj=true∧bn r.role=true
 pol:fK s.policy=0
 ver:0≤s.version∧s.version≤k
theorem cN.w {k:Nat} {s:an} (h:cN k s):jR k s:=⟨h.tick,h.asc,h.ncases,fun c hc=>(h.case c hc).w,h.roles,h.role,h.pol,h.ver⟩
theorem jR.ok {k:Nat} {s:an} (h:jR k s) (ho:oX s=false):cN k s:=by
 unfold oX at ho;simp only [Bool.or_eq_false_iff,decide_eq_false_iff_not] at ho;obtain ⟨⟨h1,h2⟩,h3⟩:=ho;refine ⟨h.tick,h.asc,h.ncases,fun c hc=>(h.case c hc).ok ?_,by omega,by omega,h.roles,h.role,h.pol,h.ver⟩
 have:=List.any_eq_false.1 h3 c hc;simpa using this
theorem Cv {k:Nat} {s:an} (o:OpD) (w:Txt) (h:jR k s):jR k (cS s o w):= {h with}
theorem Cu {k:Nat} {s:an} {o:OpD} (hn:bn o.subj=true) (w:Txt) (h:jR k s):jR k (gN s o w):=by
 unfold gN;split
 ·refine {h with asc:=yj (jj fun x=>rfl) h.asc,ncases:=by simpa using h.ncases,case:= ?_}
  intro d hd;rcases mem_modify hd with hd|⟨hi,rfl⟩
  ·exact h.case d hd
  ·have hc:=h.case _ (Ul hi)
   refine ⟨hc.id,hc.owner,hc.state,hc.asc,hc.nfields,hc.field,by simp [hY], ?_⟩
   intro x hx;simp only [hY,List.mem_append,List.mem_singleton] at hx;rcases hx with hx|rfl
   ·exact hc.actor x hx
   ·exact ⟨hn,by have:=h.tick; constructor<;>simp only<;>omega⟩
 ·exact h
theorem Ct {k:Nat} {o:OpD} (hn:bn o.subj=true) (done:Bool) {s:an} (x:cr) (h:jR k s):jR k (eR o done s x):=by
 unfold eR;split
 ·exact Cu hn _ h
 ·split
  ·exact Cv o _ h
  ·split
   ·exact {h with}
   ·exact h
theorem qR {k:Nat} {o:OpD} (hn:bn o.subj=true) (done:Bool):∀(l:List cr) {s:an},jR k s→jR k (cO s o l done)
 | [],s,h=>h
 |x::l,s,h=>qR hn done l (Ct hn done x h)
theorem yJ {k:Nat} {s:an} (o:OpD) (w:Txt) (h:cN k s) (hr:s.reviews.length≤999):cN k (cS s o w):= {h with nrev:=by simp [cS]; omega}
structure js (k:Nat) (s:an):Prop extends cN k s where
 ids:∀i (h:i<s.reviews.length),s.reviews[i].id=((i+1:Nat):Int)
 nr:s.reviews.length≤256
 nn:s.notices.length≤256
theorem Eb:js 0 wg:= {EY with ids:=fun i h=>(by cases h),nr:=by decide,nn:=by decide}
theorem vr {s:an} {o:OpD} (h:(jo s o).1=0):bD s o=0∧fq o=true∧(o.kind=7→(aN o.text).2.1=0):=by
 unfold jo at h;have hr:bD s o=0:=by
  split at h
  ·rename_i hc; exact hc.1
  ·exact h
 have hf:fq o=true:=by
  unfold bD at hr;cases h:fq o with
  |true=>rfl
  |false=>rw [h] at hr; simp at hr
 exact ⟨hr,hf,fun hk=>by rw [if_pos ⟨hr,hk⟩] at h; exact h⟩
theorem FF {k:Nat} {s:an} {o:OpD} (h:js k s) (hp:(jo s o).1=0):jR (k+1) (cC s o):=by
 have hn:=(qp (vr hp).2.1).subj;have h1:cN k (if eU s o then cS s o o.reason else s):=by
  split
  ·exact yJ o _ h.tocN (by have:=h.nr; omega)
  ·exact h.tocN
 unfold cC;refine qR hn _ _ ?_;split
 ·exact (mH o h1).w
 ·have:=h1.w
  exact {this with ver:=⟨this.ver.1,by have:=this.ver.2; omega⟩}
def shut (r:lW):lW:= {r with isOpen:=false}
theorem rq (par:Txt→bB×Int×Int) (s:an) (o:OpD):(dw par s o).reviews=if bD s o=0∧o.kind=5 then s.reviews.modify (o.review - 1).toNat shut else s.reviews:=by
 unfold dw
 by_cases hr:bD s o=0
 ·rw [if_pos hr]
  unfold doD
  by_cases k1:o.kind=1
  ·simp [k1]
  ·by_cases k3:o.kind=3
   ·simp [k3]
   ·by_cases k4:o.kind=4
    ·simp [k4]
    ·by_cases k5:o.kind=5
     ·simp [k5,hr]; rfl
     ·simp only [k1,k3,k4,k5,if_false,and_false]
      split
      ·split<;>rfl
      ·split
       ·split<;>rfl
       ·split<;>rfl
 ·simp [hr]
theorem uC {o:OpD} (h:fq o=true) (hg:o.glass=true):1≤o.kind∧o.kind≤4:=by
 simp only [fq,Bool.and_eq_true] at h;have:=h.1.1.1.1.1.1.2;unfold kZ at this;rw [hg] at this;simp only [if_true,Bool.and_eq_true,rJ,decide_eq_true_eq] at this;exact this.1.1
theorem zN {s:an} {o:OpD} (h:eU s o=true):o.glass=true:=by
 unfold eU pX at h;simp only [Bool.and_eq_true] at h;exact h.1.1.1
structure Bg (s:an) (o:OpD) (t:an) (r:pg) (e:Int):Prop where
 len:s.reviews.length≤t.reviews.length
 old:∀i (h:i<s.reviews.length) (h' :i<t.reviews.length),(e=0∧r.err=0∧o.kind=5∧o.review=((i+1:Nat):Int)→o.subj≠s.reviews[i].subj∧s.reviews[i].isOpen=true∧t.reviews[i].isOpen=false∧t.reviews[i].id=s.reviews[i].id)∧
  (¬(e=0∧r.err=0∧o.kind=5∧o.review=((i+1:Nat):Int))→t.reviews[i]=s.reviews[i])
 new:∀i (h:i<t.reviews.length),s.reviews.length≤i→t.reviews[i].id=((i+1:Nat):Int)∧t.reviews[i].isOpen=true∧t.reviews[i].subj=o.subj
 glass:r.glass=true→∃h:s.reviews.length<t.reviews.length,t.reviews[s.reviews.length].reason=o.reason
theorem Bg.same (s:an) (o:OpD) (e:Int) (r:pg) (he:e≠0) (hg:r.glass=false):Bg s o s r e:=
 ⟨Nat.le_refl _,fun i h h' =>⟨fun hc=>(he hc.1).elim,fun _=>rfl⟩,fun i h h' =>by omega,fun h=>by rw [hg] at h; cases h⟩
theorem Dd {o:OpD} {a b:List lW} (h:fS o a b):a.length≤b.length∧(∀i (h1:i<a.length) (h2:i<b.length),b[i]=a[i])∧∀i (h1:i<b.length),a.length≤i→b[i].id=((i+1:Nat):Int)∧b[i].isOpen=true∧b[i].subj=o.subj:=by
 obtain ⟨c,rfl,hc⟩:=h;refine ⟨by simp,fun i h1 h2=>by rw [List.getElem_append_left h1],fun i h1 h2=> ?_⟩
 rw [List.getElem_append_right h2];have:=hc (i - a.length) (by simp at h1; omega)
 refine ⟨?_,this.2⟩;rw [this.1]
 congr 1
 omega
theorem zm {s:an} {o:OpD} (hr:bD s o=0) (hf:fq o=true) (hk:o.kind=5):1≤o.review∧∃h:(o.review - 1).toNat<s.reviews.length,s.reviews[(o.review - 1).toNat].isOpen=true∧s.reviews[(o.review - 1).toNat].subj≠o.subj:=by
 have F:=qp hf;have hok:=F.ok;unfold okD at hok;simp only [hk,show¬(5:Int)=1 by decide,show¬((5:Int)=2∨(5:Int)=6) by decide,show¬(5:Int)=3 by decide,show¬(5:Int)=4 by decide,if_false,if_true,decide_eq_true_eq] at hok
 unfold bD at hr;rw [hf] at hr;simp only [hk,Bool.true_eq_false,show¬(5:Int)=1 by decide,show¬(2≤(5:Int)∧(5:Int)≤4) by decide,if_false,if_true] at hr
 unfold fj sU at hr;rw [if_pos (by omega:1≤o.review)] at hr
 refine ⟨by omega, ?_⟩
 cases hx:s.reviews[(o.review - 1).toNat]? with
 |none=>rw [hx] at hr; simp at hr
 |some r=>
  rw [hx] at hr;obtain ⟨h,rfl⟩:=List.getElem?_eq_some_iff.1 hx;refine ⟨h, ?_, ?_⟩
  ·cases ho:s.reviews[(o.review - 1).toNat].isOpen with
   |true=>rfl
   |false=>simp only [ho,if_true] at hr; exact absurd hr (by decide)
  ·intro e
   simp only [e,if_true] at hr;split at hr<;>simp at hr
theorem Cf {k:Nat} {s:an} {o:OpD} (h:js k s):Bg s o (cu s o).1 (cu s o).2.1 (cu s o).2.2.2:=by
 unfold cu
 by_cases hp:(jo s o).1=0
 ·rw [if_neg (by simp [hp])]
  by_cases ho:oX (cC s o)=true
  ·rw [if_pos ho]; exact .same _ _ _ _ (by show (6:Int)≠0; decide) rfl
  ·rw [if_neg ho]
   obtain ⟨hr,hf,_⟩:=vr hp;simp only
   by_cases hk:o.kind=5
   ·have hg:eU s o=false:=by
     cases hg:eU s o with
     |false=>rfl
     |true=>have:=uC hf (zN hg); omega
    obtain ⟨hv1,hlt,hop,hsu⟩:=zm hr hf hk
    by_cases hd:qb s o=true
    ·have hb:cC s o=cO (dw aN s o) o (fV s o).2 true:=by
      unfold cC; simp [hg,hd]
     have hrev:(dw aN s o).reviews=s.reviews.modify (o.review - 1).toNat shut:=by
      rw [rq,if_pos ⟨hr,hk⟩]
     have hon:=fS.duties o true (fV s o).2 (dw aN s o);rw [←hb,hrev] at hon;obtain ⟨a1,a2,a3⟩:=Dd hon;have hlm:(s.reviews.modify (o.review - 1).toNat shut).length=s.reviews.length:=by simp
     rw [hlm] at a1;refine ⟨a1,fun i h1 h2=>⟨fun hc=> ?_,fun hc=> ?_⟩,fun i h1 h2=>a3 i h1 (by rw [hlm]; exact h2),fun hgl=> ?_⟩
     ·have hi:(o.review - 1).toNat=i:=by omega
      subst hi;rw [a2 _ (by rw [hlm]; exact h1) h2,List.getElem_modify,if_pos rfl]
      exact ⟨fun e=>hsu e.symm,hop,rfl,rfl⟩
     ·have hi:(o.review - 1).toNat≠i:=fun e=>hc ⟨rfl,by simp [mD,hd],hk,by omega⟩
      rw [a2 _ (by rw [hlm]; exact h1) h2,List.getElem_modify,if_neg hi]
     ·simp [mD,hg] at hgl
    ·have hd:qb s o=false:=by simpa using hd
     have hb:cC s o=cO s o (fV s o).2 false:=by
      unfold cC; simp [hg,hd]
     have hon:=fS.duties o false (fV s o).2 s;rw [←hb] at hon;obtain ⟨a1,a2,a3⟩:=Dd hon;refine ⟨a1,fun i h1 h2=>⟨fun hc=> ?_,fun hc=>a2 i h1 h2⟩,a3,fun hgl=> ?_⟩
     ·have:=hc.2.1
      simp [mD,hd] at this
     ·simp [mD,hg] at hgl
   ·have hs1:fS o s.reviews (if eU s o then cS s o o.reason else s).reviews:=by
     split
     ·exact .open s o _
     ·exact .refl o _
    have hs2:(if qb s o then dw aN (if eU s o then cS s o o.reason else s) o else (if eU s o then cS s o o.reason else s)).reviews=(if eU s o then cS s o o.reason else s).reviews:=by
     split
     ·rw [rq,if_neg (fun h=>hk h.2)]
     ·rfl
    have hd:=fS.duties o (qb s o) (fV s o).2 (if qb s o then dw aN (if eU s o then cS s o o.reason else s) o else (if eU s o then cS s o o.reason else s))
    rw [hs2] at hd;have hon:fS o s.reviews (cC s o).reviews:=hs1.trans hd;obtain ⟨a1,a2,a3⟩:=Dd hon;refine ⟨a1,fun i h1 h2=>⟨fun hc=>(hk hc.2.2.1).elim,fun hc=>a2 i h1 h2⟩,a3,fun hgl=> ?_⟩
    have hg:eU s o=true:=hgl;have hd' :=hd;simp only [hg,↓reduceIte] at hd';obtain ⟨b1,b2,_⟩:=Dd hd';have hb:(cC s o)=cO (if qb s o then dw aN (cS s o o.reason) o else cS s o o.reason) o (fV s o).2 (qb s o):=by
     unfold cC; simp [hg]
    rw [←hb] at b1 b2;have hl:(cS s o o.reason).reviews.length=s.reviews.length+1:=by simp [cS]
    refine ⟨by omega, ?_⟩
    rw [b2 s.reviews.length (by omega) (by omega)]
    simp [cS,vC]
 ·rw [if_pos (by simpa using hp)]
  exact .same _ _ _ _ (by simpa using hp) rfl
theorem js.up {k:Nat} {s:an} (h:js k s):js (k+1) s:= {h with ver:=⟨h.ver.1,by have:=h.ver.2; omega⟩}
theorem BO {k:Nat} {s:an} (o:OpD) (h:js k s):js (k+1) (cu s o).1:=by
 have hrl:=Cf (o:=o) h;unfold cu at hrl⊢
 by_cases hp:(jo s o).1=0
 ·rw [if_neg (by simp [hp])] at hrl⊢
  by_cases ho:oX (cC s o)=true
  ·rw [if_pos ho]; exact h.up
  ·rw [if_neg ho] at hrl⊢
   have ho:oX (cC s o)=false:=by simpa using ho
   have hw:=(FF h hp).ok ho;unfold oX at ho;simp only [Bool.or_eq_false_iff,decide_eq_false_iff_not] at ho;refine {hw with ids:=fun i hi=> ?_,nr:=by have:=ho.1.1; simp only; omega,nn:=by have:=ho.1.2; simp only; omega}
   by_cases hlt:i<s.reviews.length
   ·obtain ⟨h1,h2⟩:=hrl.old i hlt hi
    by_cases hc:(0:Int)=0∧(mD s o).err=0∧o.kind=5∧o.review=((i+1:Nat):Int)
    ·rw [(h1 hc).2.2.2]; exact h.ids i hlt
    ·rw [h2 hc]; exact h.ids i hlt
   ·exact (hrl.new i hi (by omega)).1
 ·rw [if_pos (by simpa using hp)]; exact h.up
structure Ok (s:an) (o:OpD):Prop where
 err:(cu s o).2.2.2≠0→(cu s o).1=s∧(cu s o).2.1.err=(cu s o).2.2.2∧(cu s o).2.1.mark=naM
 ok:(cu s o).2.2.2=0→(cu s o).2.1.mark=(fV s o).1∧(cu s o).2.2.1=⟨o,s.version,(fV s o).1,eU s o,(fV s o).2⟩∧(cu s o).2.1.glass=eU s o∧(cu s o).1=cC s o∧(cu s o).2.1=mD s o
theorem uq (o:OpD) (done:Bool):∀(l:List cr) (s:an),(cO s o l done).cases.length=s.cases.length
 | [],s=>rfl
 |x::l,s=>by
  have:(eR o done s x).cases.length=s.cases.length:=by
   unfold eR;split
   ·unfold gN; split<;>simp
   ·split
    ·rfl
    ·split<;>rfl
  exact (uq o done l _).trans this
def Jt (alg:Int):bB:= .mk [112] false alg [] [] [] []
def pq:OpD:=⟨6,tu,tu,nE,[],az,0,[],[],false⟩
def KF:Txt:= [112,111,108,105,99,121,32,112,32,100,101,110,121,117,110,108,101,115,115,32,123,32,125]
def Bz:OpD:=⟨7,tu,[],[],[],az,0,KF,[],false⟩
def JE:Txt:= [102,105,114,101]
def Ex:OpD:=⟨1,tu,cT,[],[],az,0,[],[],false⟩
def Am:OpD:=⟨1,tu,cT,[],[],az,0,[],JE,true⟩
def oY:an:=⟨0,[],[],[],[⟨tu,nE⟩],ji,0⟩
def jK:an:=⟨0,[],[],[],[⟨tu,nE⟩],Jt 5,1⟩
def vE:lW:=⟨1,0,tu,cT,[110,101,119],JE,true⟩
def oZ:an:=⟨0,[⟨cT,tu,gw,[],[⟨0,tu,[110,101,119]⟩]⟩],[vE],[],[⟨tu,nE⟩],Jt 5,1⟩
theorem JT:cu wg pq=(oY,⟨0,aT,false,az,false,0⟩,⟨pq,0,aT,false,[]⟩,0):=by kernel_rfl
theorem JU:cu oY Bz=(jK,⟨0,aT,false,az,false,0⟩,⟨Bz,0,aT,false,[]⟩,0):=by kernel_rfl
theorem N3:cu jK Ex=(jK,⟨12,bV,false,az,false,0⟩,⟨Ex,1,bV,false,[]⟩,0):=by kernel_rfl
theorem JV:cu jK Am=(oZ,⟨0,bV,true,az,false,0⟩,⟨Am,1,bV,true,[]⟩,0):=by kernel_rfl
def rep (n:Nat) (t:Txt):Txt:=(List.replicate n t).flatten
def MLe (a b:dI):Prop:=(∀x∈a.met,x∈b.met)∧a.rules≤b.rules
theorem MLe.refl (a:dI):MLe a a:=⟨fun _ h=>h,Nat.le_refl _⟩
theorem MLe.trans {a b c:dI} (h1:MLe a b) (h2:MLe b c):MLe a c:=⟨fun x h=>h2.1 x (h1.1 x h),Nat.le_trans h1.2 h2.2⟩
theorem C8 {a b b' :dI} {s:Txt} (h:MLe a b) (hm:gY b s=some b'):∃a',gY a s=some a'∧MLe a' b' :=by
 unfold gY at hm⊢;split at hm
 ·rename_i hc
  cases hm;refine ⟨_,if_pos ⟨fun hx=>hc.1 (h.1 s hx),hc.2⟩,fun x hx=> ?_,h.2⟩
  rcases List.mem_append.1 hx with hx|hx
  ·exact List.mem_append.2 (.inl (h.1 x hx))
  ·exact List.mem_append.2 (.inr hx)
 ·cases hm
theorem C9 {b b' :dI} {s:Txt} (hm:gY b s=some b'):MLe b b' :=by
 unfold gY at hm;split at hm
 ·cases hm; exact ⟨fun x hx=>List.mem_append.2 (.inl hx),Nat.le_refl _⟩
 ·cases hm
theorem lO {e:Int} {w:Went} {m:dI} (h:need e w= .ok m):e=0∧w= .ok m:=by
 unfold need at h;split at h
 ·exact ⟨by assumption,h⟩
 ·cases h
theorem I5 {a b b' :dI} {r:cH} (h:MLe a b) (hr:fH b r= .ok b'):(∃a',fH a r= .ok a'∧MLe a' b')∧MLe b b' :=by
 unfold fH at hr⊢;cases hm:gY b r.id with
 |none=>rw [hm] at hr; cases hr
 |some m=>
  rw [hm] at hr;obtain ⟨a',ha,hl⟩:=C8 h hm;simp only at hr;split at hr
  ·cases hr
  ·obtain ⟨e1,hr⟩:=lO hr
   obtain ⟨e2,hr⟩:=lO hr;obtain ⟨e3,hr⟩:=lO hr;cases hr;have hup:=C9 hm;refine ⟨⟨⟨a'.met,a'.rules+1⟩, ?_,hl.1,by have:=hl.2; simp only; omega⟩,hup.1,by have:=hup.2; simp only; omega⟩
   rw [ha];have:=hl.2;simp only [e1,e2,e3,need,if_true];rw [if_neg (by omega)]
theorem AT:∀(l:List cH) {a b b' :dI},MLe a b→dU b l= .ok b'→(∃a',dU a l= .ok a'∧MLe a' b')∧MLe b b'
 | [],a,b,b',h,hr=>by
  simp only [dU] at hr;cases hr;exact ⟨⟨a,rfl,h⟩, .refl _⟩
 |r::l,a,b,b',h,hr=>by
  simp only [dU] at hr⊢;cases hw:fH b r with
  |bad e=>rw [hw] at hr; cases hr
  |ok m=>
   rw [hw] at hr;obtain ⟨⟨a',ha,hl⟩,hu⟩:=I5 h hw;obtain ⟨⟨a'',ha',hl'⟩,hu'⟩:=AT l hl hr;exact ⟨⟨a'',by rw [ha]; exact ha',hl'⟩,hu.trans hu'⟩
theorem IB {a b b' :dI} {id:Txt} {set:Bool} {alg:Int} {tgt:fE} {nr nk nk' :Nat} {obls:List cr} (h:MLe a b) (hk:nk'≤nk) (hr:dY b id set alg tgt nr nk obls= .ok b'):(∃a',dY a id set alg tgt nr nk' obls= .ok a'∧MLe a' b')∧MLe b b' :=by
 unfold dY at hr⊢;cases hm:gY b id with
 |none=>rw [hm] at hr; cases hr
 |some m=>
  rw [hm] at hr;obtain ⟨a',ha,hl⟩:=C8 h hm;simp only at hr;split at hr
  ·cases hr
  ·rename_i h1
   split at hr
   ·cases hr
   ·rename_i h2
    obtain ⟨e1,hr⟩:=lO hr;obtain ⟨e2,hr⟩:=lO hr;split at hr
    ·cases hr
    ·rename_i h3
     cases hr;refine ⟨⟨a', ?_,hl⟩,C9 hm⟩;rw [ha];have h2' :¬(set=true∧nr>0∨set=false∧(nk' >0∨alg=4)):=by
      rintro (⟨p,q⟩|⟨p,q|q⟩)
      ·exact h2 (.inl ⟨p,q⟩)
      ·exact h2 (.inr ⟨p, .inl (by omega)⟩)
      ·exact h2 (.inr ⟨p, .inr q⟩)
     simp only [if_neg h1,if_neg h2',e1,e2,need,if_true];rw [if_neg (by omega)]
theorem AA (gs:List bf):∀l:List bB,(iR gs l).length≤l.length
 | []=>by simp [iR]
 |k::r=>by
  have:=AA gs r;simp only [iR];split<;>simp<;>omega
mutual
theorem AD (gs:List bf):∀(p:bB) (d:Nat) {a b b' :dI},MLe a b→jn b d p= .ok b'→(∃a',jn a d (iS gs p)= .ok a'∧MLe a' b')∧MLe b b'
 | .mk id set alg tgt rules kids obls,d,a,b,b',h,hr=>by
  simp only [jn,iS] at hr⊢;split at hr
  ·cases hr
  ·rename_i hd
   rw [if_neg hd];cases hh:dY b id set alg tgt rules.length kids.length obls with
   |bad e=>rw [hh] at hr; cases hr
   |ok m=>
    rw [hh] at hr;simp only at hr;obtain ⟨⟨a1,ha1,hl1⟩,hu1⟩:=IB h (AA gs kids) hh;cases hw:dU m rules with
    |bad e=>rw [hw] at hr; cases hr
    |ok m2=>
     rw [hw] at hr;simp only at hr;obtain ⟨⟨a2,ha2,hl2⟩,hu2⟩:=AT rules hl1 hw;obtain ⟨⟨a3,ha3,hl3⟩,hu3⟩:=rE gs kids (d+1) hl2 hr;refine ⟨⟨a3, ?_,hl3⟩,(hu1.trans hu2).trans hu3⟩;rw [ha1];simp only [ha2];exact ha3
theorem rE (gs:List bf):∀(l:List bB) (d:Nat) {a b b' :dI},MLe a b→gu b d l= .ok b'→(∃a',gu a d (iR gs l)= .ok a'∧MLe a' b')∧MLe b b'
 | [],d,a,b,b',h,hr=>by
  simp only [gu,iR] at hr⊢;cases hr;exact ⟨⟨a,rfl,h⟩, .refl _⟩
 |k::r,d,a,b,b',h,hr=>by
  simp only [gu] at hr;cases hw:jn b d k with
  |bad e=>rw [hw] at hr; cases hr
  |ok m=>
   rw [hw] at hr;simp only at hr;obtain ⟨⟨a1,ha1,hl1⟩,hu1⟩:=AD gs k d h hw;simp only [iR];split
   ·obtain ⟨⟨a2,ha2,hl2⟩,hu2⟩:=rE gs r d hl1 hr
    refine ⟨⟨a2, ?_,hl2⟩,hu1.trans hu2⟩;simp only [gu,ha1];exact ha2
   ·obtain ⟨⟨a2,ha2,hl2⟩,hu2⟩:=rE gs r d (h.trans hu1) hr
    exact ⟨⟨a2,ha2,hl2⟩,hu1.trans hu2⟩
end
theorem Cg (gs:List bf) {p:bB} (h:fK p=0):fK (iS gs p)=0:=by
 unfold fK at*;cases hw:jn ⟨[],0⟩ 1 p with
 |bad e=>
  have:=qM 4 1 _ _ e rfl hw;rw [hw] at h;exact (this h).elim
 |ok m=>
  obtain ⟨⟨a,ha,_⟩,_⟩:=AD gs p 1 (.refl _) hw;rw [ha]; rfl
def Of:bH:=⟨⟨0,[],false⟩,0,az⟩
def IJ (k:Option bH):AV:=match k with
 |some m=> .tup [cV m, .v (.bool true)]
 |none=> .tup [cV Of, .v (.bool false)]
theorem Gi {x:List (List bH)} {r:fE} (h:x.length≠1):lM (x::r)=lM r:=by
 match x,h with
 | [],_=>rfl
 | [l],h=>exact (h rfl).elim
 |a::b::c,_=>rfl
theorem Gh {l:List bH} {r:fE} (h:(l.find? fun m=>m.op==1 && !m.attr.must)=none):lM ([l]::r)=lM r:=by
 simp only [lM,h]
theorem Gj {l:List bH} {r:fE} {m:bH} (h:(l.find? fun m=>m.op==1 && !m.attr.must)=some m):lM ([l]::r)=some m:=by
 simp only [lM,h]
theorem Az (gs:List bf):∀l:List bB,iR gs l=(l.filter (pJ gs)).map (iS gs)
 | []=>by simp [iR]
 |k::r=>by
  simp only [iR,List.filter_cons,Az gs r];split<;>simp
def ixP (gs:List bf) (l:List bB) (n:Nat):List Nat:=(List.range n).filter fun j=>pJ gs (l.getD j ji)
theorem z6 (gs:List bf) (l:List bB) {n:Nat} (h:n<l.length):ixP gs l (n+1)=ixP gs l n++(if pJ gs l[n]=true then [n] else []):=by
 unfold ixP;rw [List.range_succ,List.filter_append,List.filter_cons];simp [List.getD,List.getElem?_eq_getElem h]
theorem z7 (gs:List bf) (l:List bB):∀n:Nat,n≤l.length→(ixP gs l n).map (fun j=>l.getD j ji)=(l.take n).filter (pJ gs)
 |0,_=>by simp [ixP]
 |n+1,h=>by
  have hlt:n<l.length:=by omega
  rw [z6 gs l hlt,List.map_append,z7 gs l n (by omega),List.take_succ_eq_append_getElem hlt,List.filter_append,List.filter_cons]
  congr 1
  split<;>simp [List.getD,List.getElem?_eq_getElem hlt]
theorem K0 {gs:List bf} {l:List bB} {n j:Nat} (h:j∈ixP gs l n):j<n:=List.mem_range.1 (List.mem_filter.1 h).1
theorem C4 (gs:List bf) (l:List bB) (n:Nat):(ixP gs l n).length≤n:=by
 unfold ixP;exact Nat.le_trans (List.length_filter_le _ _) (by simp)
theorem Ge (gs:List bf) (l:List bB):(ixP gs l l.length).map (fun j=>iS gs (l.getD j ji))=iR gs l:=by
 rw [Az,←List.take_length (l:=l),←z7 gs l l.length (Nat.le_refl _),List.map_map,List.take_length];rfl
theorem lN (m:bH):cV m= .agg [.v (.int .i64 m.attr.cat), .s m.attr.name, .v (.bool m.attr.must), .v (.int .i64 m.op), .v (.int .i64 m.val.kind), .v (.int .i64 m.val.n), .s m.val.s]:=rfl
end Go.Bf
namespace Go.Proofs.YtmlhcdeamjkpjaaGreatDoor
open Go Go.Ab Go.Bf
set_option maxRecDepth 100000 in
theorem K1 (t:fE) (ht:HW t) (h:Heap):ak Tryz.prog 227 [aR t] h fun r h' =>r=IJ (lM t)∧h' =h:=by
 have htl:=ht.1;refine ak.body hU hm Tryz.func227 rfl (by kernel_rfl) 38 rfl [.cell 2 246, .tmp 3] rfl (Uf rfl) (fun hwf=> ?_)
 simp only [go_sem,aR];intro i2 h2;simp only [go_sem,Ug];have hH0:∀x,Ab.Sub h (upd h i2 x):=fun x=> .ai h2
 refine .intro (fun m ρ H=>Ab.Sub h H∧H i2=some (.obj [.v (.int .i64 0), .s [], .v (.bool false), .v (.int .i64 0), .v (.int .i64 0), .v (.int .i64 0), .s []] 246)∧∃i:Nat,i≤t.length∧m=t.length - i∧lM (t.drop i)=lM t∧lk ρ 2=some (.ptr i2 0)∧lk ρ 8=some (.sl (t.map cG) .no)∧lk ρ 9=some (.v (.int .i64 t.length))∧lk ρ 10=some (.v (.int .i64 i))) t.length ?_ ?_
 ·refine ⟨hH0 _,ah ..,0,by omega,rfl,rfl, ?_, ?_, ?_, ?_⟩<;>simp only [go_sem]
 ·rintro m ρ H ⟨hs,k2,i,hi,rfl,hk,r2,r8,r9,r10⟩
  simp only [go_sem,r9,r10];refine .intro (fun e=> ?_) (fun e=> ?_)
  ·have hlt:i<t.length:=Un e
   have w1:=Um i (by omega)
   rw [List.drop_eq_getElem_cons hlt] at hk;have hxl:=(ht.2 _ (Ul hlt)).2;have ix:=fun k=>fu.eq (xs:=t.map cG) (sz:=1) i (by simpa using hlt) (by rw [Uh]; rfl) k
   rw [Uh] at ix;obtain ⟨x,ex⟩:∃x,t[i]=x:=⟨_,rfl⟩;rw [ex] at ix hk hxl;simp only [cG] at ix;cases d1:((x.length:Int) !=1)
   case true=>
    have hx1:x.length≠1:=by intro e1; rw [e1] at d1; simp at d1
    rw [Gi hx1] at hk;simp only [go_sem,r8,r10,ix,Ug,d1,w1];refine ⟨_, ?_,hs,k2,i+1,by omega,rfl,hk, ?_, ?_, ?_, ?_⟩
    ·omega
    all_goals simp only [go_sem,r2,r8,r9]
   have hx1:x.length=1:=by have:(x.length:Int)=1:=(by simpa using d1); omega
   obtain ⟨l,rfl⟩:=List.length_eq_one_iff.1 hx1;have hll:=hxl l (List.mem_singleton.2 rfl);have iy:=fun k=>fu.eq (xs:= [gE l]) (sz:=1) 0 (by simp) rfl k
   simp only [List.getElem_cons_zero,gE,Int.natCast_zero] at iy;simp only [go_sem,r8,r10,ix,Ug,List.length_cons,List.length_nil,List.map_cons,List.map_nil,gE,iy];refine .intro (fun m ρ2 H2=>Ab.Sub h H2∧H2 i2=some (.obj [.v (.int .i64 0), .s [], .v (.bool false), .v (.int .i64 0), .v (.int .i64 0), .v (.int .i64 0), .s []] 246)∧∃j:Nat,j≤l.length∧m=l.length - j∧(∀k (h1:k<l.length),k<j→(l[k].op==1 && !l[k].attr.must)=false)∧lk ρ2 2=some (.ptr i2 0)∧lk ρ2 8=some (.sl (t.map cG) .no)∧lk ρ2 9=some (.v (.int .i64 t.length))∧lk ρ2 10=some (.v (.int .i64 i))∧lk ρ2 19=some (.sl (l.map cV) .no)∧lk ρ2 20=some (.v (.int .i64 l.length))∧lk ρ2 21=some (.v (.int .i64 j))) l.length ?_ ?_
   ·refine ⟨hs,k2,0,by omega,rfl,fun k _ hk=>(by omega), ?_, ?_, ?_, ?_, ?_, ?_, ?_⟩<;>simp only [go_sem,r2,r8,r9,r10]
   ·rintro m ρ2 H2 ⟨hs2,k2,j,hj,rfl,hc,s2,s8,s9,s10,s19,s20,s21⟩
    simp only [go_sem,s20,s21];refine .intro (fun e=> ?_) (fun e=> ?_)
    ·have hlt2:j<l.length:=Un e
     have w2:=Um j (by omega)
     have iz:=fun k=>fu.eq (xs:=l.map cV) (sz:=7) j (by simpa using hlt2) (by rw [Uh]; rfl) k
     rw [Uh] at iz;have hci:=fun (d:(l[j].op==1 && !l[j].attr.must)=false)=>(fun k (h1:k<l.length) (hk:k<j+1)=>(by
      by_cases hji:k=j
      ·subst hji; exact d
      ·exact hc k h1 (by omega):(l[k].op==1 && !l[k].attr.must)=false))
     have hat:=fun (d:(l[j].op==1 && !l[j].attr.must)=true)=>(List.find?_eq_some_iff_getElem.2 ⟨d,j,hlt2,rfl,fun k hk=>by rw [hc k (by omega) hk]; rfl⟩:(l.find? fun m=>m.op==1 && !m.attr.must)=some l[j])
     obtain ⟨z,ez⟩:∃z,l[j]=z:=⟨_,rfl⟩;rw [ez] at iz hci hat;simp only [lN] at iz;simp only [go_sem,s19,s21,iz];intro i7 h7;have n72:i7≠i2:=fun e=>by rw [e,k2] at h7; cases h7
     cases a1:(z.op==1)
     ·simp only [go_sem,s21,a1,w2]
      refine ⟨_, ?_,hs2.trans (.ai h7),by rw [ag _ _ n72.symm]; exact k2,j+1,by omega,rfl,hci (by rw [a1]; rfl), ?_, ?_, ?_, ?_, ?_, ?_, ?_⟩
      ·omega
      all_goals simp only [go_sem,s2,s8,s9,s10,s19,s20]
     ·cases a2:z.attr.must
      ·have hkk:=hk.symm.trans (Gj (hat (by rw [a1,a2]; rfl)))
       simp only [go_sem,s2,a1,aj,n72.symm,k2];exact .mk _ (.refl _) ((hs2.trans (.ai h7)).put h2 _) ⟨by rw [hkk]; simp only [IJ,lN,a2]; rfl,rfl⟩
      ·simp only [go_sem,s21,a1,w2]
       refine ⟨_, ?_,hs2.trans (.ai h7),by rw [ag _ _ n72.symm]; exact k2,j+1,by omega,rfl,hci (by rw [a1,a2]; rfl), ?_, ?_, ?_, ?_, ?_, ?_, ?_⟩
       ·omega
       all_goals simp only [go_sem,s2,s8,s9,s10,s19,s20]
    ·have hge:j=l.length:=by have:=Uj e; omega
     subst hge;rw [Gh (List.find?_eq_none.2 fun z hz=>by
      obtain ⟨k,hk,rfl⟩:=List.mem_iff_getElem.1 hz;rw [hc k hk hk]; decide)] at hk
     simp only [go_sem,s10,w1];refine ⟨_, ?_,hs2,k2,i+1,by omega,rfl,hk, ?_, ?_, ?_, ?_⟩
     ·omega
     all_goals simp only [go_sem,s2,s8,s9]
  ·have hge:i=t.length:=by have:=Uj e; omega
   subst hge;rw [List.drop_length] at hk;simp only [go_sem,r2,k2];exact .mk _ (.refl _) (hs.put h2 _) ⟨by rw [←hk]; rfl,rfl⟩
theorem Eu {gs:List bf} {p:bB} (h:lM (pM p)=none):pJ gs p=true:=by unfold pJ; rw [h]
theorem Ev {gs:List bf} {p:bB} {m:bH} (h:lM (pM p)=some m):pJ gs p=decide (ig gs m≠0):=by unfold pJ; rw [h]
def qB (n:Nat):AV:= .v (.int .i64 n)
set_option maxRecDepth 100000 in
theorem GN (l:List bB) (hl:l.length≤1000) (ht:∀p∈l,HW (pM p)) (gs:List bf) (hf:oL gs) (h:Heap):ak Tryz.prog 183 [.sl (l.map aJ) .no,bw gs] h fun r h' =>r= .sl ((ixP gs l l.length).map qB) .no∧h' =h:=by
 have hmt:=fun (m:bH) (G:Heap)=>xw m gs hf G
 simp only [lN,bw] at hmt;have uI:(U 3).sz=1:=by simp only [go_sem]
 refine ak.body hU hm Tryz.func183 rfl (by kernel_rfl) 37 rfl [.tmp 4] rfl (Uf rfl) (fun hwf=> ?_)
 simp only [go_sem,bw,Ug];refine .intro (fun m ρ H=>∃(i:Nat) (y:AV),Acc U 3 h H y ((ixP gs l i).map qB)∧i≤l.length∧m=l.length - i∧lk ρ 1=some (.sl (gs.map jh) .no)∧lk ρ 5=some y∧lk ρ 10=some (.sl (l.map aJ) .no)∧lk ρ 11=some (.v (.int .i64 l.length))∧lk ρ 12=some (.v (.int .i64 i))) l.length ?_ ?_
 ·refine ⟨0, .sl [] .full, .full (.refl _),by omega,rfl, ?_, ?_, ?_, ?_, ?_⟩<;>simp only [go_sem]
 ·rintro m ρ H ⟨i,y,hy,hi,rfl,r1,r5,r10,r11,r12⟩
  obtain ⟨qy,eqy⟩:=hy.row;subst eqy;simp only [go_sem,r11,r12];refine .intro (fun e=> ?_) (fun e=> ?_)
  ·have hlt:i<l.length:=Un e
   have w1:=Um i (by omega)
   have hsn:=z6 gs l hlt;have hpl:=C4 gs l i;have ix:=fun k=>fu.eq (xs:=l.map aJ) (sz:=7) i (by simpa using hlt) (by rw [Uh,iu]) k
   rw [Uh] at ix;have hft:=ht _ (Ul hlt);obtain ⟨x,ex⟩:∃x,l[i]=x:=⟨_,rfl⟩;rw [ex] at ix hsn hft;have hky:=fun G=>K1 (pM x) hft G
   have mn:=fun h=>Eu (gs:=gs) (p:=x) h
   have ms:=fun m h=>Ev (gs:=gs) (p:=x) (m:=m) h
   obtain ⟨kid,kset,kalg,ktgt,krules,kkids,kobls⟩:=x;simp only [pM] at hky hft mn ms;simp only [aJ,aR,ax,aW] at ix;simp only [aR] at hky;simp only [go_sem,r10,r12,ix];intro i7 h7;simp only [go_sem];refine (hky _).pthen ?_;have hkeep:pJ gs (.mk kid kset kalg ktgt krules kkids kobls)=true→ixP gs l (i+1)=ixP gs l i++ [i]:=fun e=>by rw [hsn,if_pos e]
   have hdrop:pJ gs (.mk kid kset kalg ktgt krules kkids kobls)=false→ixP gs l (i+1)=ixP gs l i:=fun e=>by rw [hsn,if_neg (by rw [e]; decide),List.append_nil]
   cases hk:lM ktgt with
   |none=>
    simp only [go_sem,IJ,lN];intro i8 h8;simp only [go_sem,r5];refine ((hy.sub (.ai h7)).sub (.ai h8)).app (zs:= [qB i]) (by rw [uI]; decide) (by simp only [go_sem,ne_eq,not_false_eq_true]) (fun k hk=>hk) (by rw [uI]; exact bh (f:=qB) (fun _=>rfl) _) (by rw [uI]; intro z hz; rw [List.mem_singleton.1 hz]; rfl) (by simp only [go_sem,Ug,List.length_cons,List.length_nil]; omega) fun y' H' hy' kp=> ?_
    simp only [go_sem,r12,w1];refine ⟨_, ?_,i+1,y',by rw [hkeep (mn hk),List.map_append]; exact hy',by omega,rfl, ?_, ?_, ?_, ?_, ?_⟩
    ·omega
    all_goals simp only [go_sem,r1,r10,r11]
   |some m=>
    have hm2:=ms m hk;simp only [go_sem,IJ,lN];intro i8 h8;simp only [go_sem,r1];refine (hmt m _).pthen ?_;cases dm:((ig gs m:Int) !=0)
    ·have e0:ig gs m=0:=by have:(ig gs m:Int)=0:=(by simpa using dm); omega
     simp only [go_sem,r12,dm,w1];refine ⟨_, ?_,i+1,_,by rw [hdrop (by rw [hm2,e0]; rfl)]; exact (hy.sub (.ai h7)).sub (.ai h8),by omega,rfl, ?_, ?_, ?_, ?_, ?_⟩
     ·omega
     all_goals simp only [go_sem,r1,r5,r10,r11]
    ·have e0:ig gs m≠0:=by intro e0; rw [e0] at dm; simp at dm
     simp only [go_sem,r5,dm];refine ((hy.sub (.ai h7)).sub (.ai h8)).app (zs:= [qB i]) (by rw [uI]; decide) (by simp only [go_sem,ne_eq,not_false_eq_true]) (fun k hk=>hk) (by rw [uI]; exact bh (f:=qB) (fun _=>rfl) _) (by rw [uI]; intro z hz; rw [List.mem_singleton.1 hz]; rfl) (by simp only [go_sem,Ug,List.length_cons,List.length_nil]; omega) fun y' H' hy' kp=> ?_
     simp only [go_sem,r12,w1];refine ⟨_, ?_,i+1,y',by rw [hkeep (by rw [hm2]; exact decide_eq_true e0),List.map_append]; exact hy',by omega,rfl, ?_, ?_, ?_, ?_, ?_⟩
     ·omega
     all_goals simp only [go_sem,r1,r10,r11]
  ·have hge:i=l.length:=by have:=Uj e; omega
   subst hge;simp only [go_sem,r5];exact .mk _ (.sl _ _) hy.1 ⟨rfl,rfl⟩
theorem NY {id:Txt} {set:Bool} {alg:Int} {tgt:fE} {rules:List cH} {kids:List bB} {obls:List cr} {L:List AV} (hL:L=kids.map aJ) (q:Perm):Weak (.agg [.s id, .v (.bool set), .v (.int .i64 alg), .sl (tgt.map cG) .no, .sl (rules.map aA) .no, .sl L q, .sl (obls.map bk) .no]) (aJ (.mk id set alg tgt rules kids obls)):=by
 subst hL;rw [aJ,aW];refine .agg _ _ rfl fun i a b=> ?_
 rcases i with _|_|_|_|_|_|_|i
 ·exact .refl _
 ·exact .refl _
 ·exact .refl _
 ·exact .refl _
 ·exact .refl _
 ·exact .sl _ _
 ·exact .refl _
 ·simp at a; omega
set_option maxRecDepth 100000 in
theorem xB:∀(n d:Nat),d+n=5→∀(p:bB),kE d p→∀(gs:List bf),oL gs→∀(h:Heap),ak Tryz.prog 134 [aJ p,bw gs] h fun r h' =>r=aJ (iS gs p)∧h' =h
 |0,d,hd, .mk id set alg tgt rules kids obls,hE,gs,hf,h=>by
  simp only [kE] at hE;omega
 |n+1,d,hd, .mk id set alg tgt rules kids obls,hE,gs,hf,h=>by
  have ih:=xB n (d+1) (by omega)
  simp only [kE,nN] at hE;obtain ⟨_,_,_,_,_,_,hT,hO,hR,hK,hRE,hKE⟩:=hE;have hpk:=fun G=>GN kids (by omega) (fun p hp=>by
   have h1:=hKE p hp;obtain ⟨kid,kset,kalg,ktgt,krules,kkids,kobls⟩:=p;simp only [kE] at h1;exact yP h1.2.2.2.2.2.2.1) gs hf G
  have hpe:iS gs (.mk id set alg tgt rules kids obls)= .mk id set alg tgt rules (iR gs kids) obls:=by simp only [iS]
  have hfull:=Ge gs kids;have hIlt:∀j∈ixP gs kids kids.length,j<kids.length:=fun j hj=>K0 hj
  have hIl:(ixP gs kids kids.length).length≤16:=Nat.le_trans (C4 _ _ _) hK;obtain ⟨I,eI⟩:∃I,ixP gs kids kids.length=I:=⟨_,rfl⟩;rw [eI] at hpk hfull hIlt hIl;simp only [bw] at hpk;have uP:(U 34).sz=7:=by simp only [go_sem]
  refine ak.body hU hm Tryz.func134 rfl (by kernel_rfl) 31 rfl [.cell 4 34] rfl (Uf rfl) (fun hwf=> ?_)
  simp only [go_sem,aJ,bw,aW,aR,ax];intro i2 h2;simp only [go_sem];intro i4 h4;have n42:=aH h4;have n4' :=aE h4;obtain ⟨H0,eH⟩:∃H0,upd (upd h i2 (some (.obj [.s id, .v (.bool set), .v (.int .i64 alg), .sl (tgt.map cG) .no, .sl (rules.map aA) .no, .sl (kids.map aJ) .no, .sl (obls.map bk) .no] 34))) i4 (some (.obj [.s [], .v (.bool false), .v (.int .i64 0), .sl [] .full, .sl [] .full, .sl [] .full, .sl [] .full] 34))=H0:=⟨_,rfl⟩;have hH0:Ab.Sub h H0:=by rw [←eH]; exact ((Sub.refl h).put h2 _).put n4' _
  have g2:H0 i2=some (.obj [.s id, .v (.bool set), .v (.int .i64 alg), .sl (tgt.map cG) .no, .sl (rules.map aA) .no, .sl (kids.map aJ) .no, .sl (obls.map bk) .no] 34):=by rw [←eH,ag _ _ n42.symm,ah]
  have g4:H0 i4=some (.obj [.s [], .v (.bool false), .v (.int .i64 0), .sl [] .full, .sl [] .full, .sl [] .full, .sl [] .full] 34):=by rw [←eH,ah]
  simp only [go_sem,aj,n42.symm];rw [eH];clear eH;refine (hpk _).pthen ?_;simp only [go_sem,Ug];refine .intro (fun m ρ H=>∃(i:Nat) (y:AV),Acc U 34 H0 H y (((I.map fun j=>iS gs (kids.getD j ji)).take i).map aJ)∧i≤I.length∧m=I.length - i∧lk ρ 1=some (.sl (gs.map jh) .no)∧lk ρ 2=some (.ptr i2 0)∧lk ρ 4=some (.ptr i4 0)∧lk ρ 5=some y∧lk ρ 11=some (.sl (I.map qB) .no)∧lk ρ 12=some (.v (.int .i64 I.length))∧lk ρ 13=some (.v (.int .i64 i))) I.length ?_ ?_
  ·refine ⟨0, .sl [] .full, .full (.refl _),by omega,rfl, ?_, ?_, ?_, ?_, ?_, ?_, ?_⟩<;>simp only [go_sem]
  ·rintro m ρ H ⟨i,y,hy,hi,rfl,r1,r2,r4,r5,r11,r12,r13⟩
   obtain ⟨qy,eqy⟩:=hy.row;subst eqy;have k2:=hy.1 _ _ g2;simp only [go_sem,r12,r13];refine .intro (fun e=> ?_) (fun e=> ?_)
   ·have hlt:i<I.length:=Un e
    have w1:=Um i (by omega)
    have hjlt:=hIlt _ (Ul hlt);have hsn:((I.map fun j=>iS gs (kids.getD j ji)).take (i+1)).map aJ=((I.map fun j=>iS gs (kids.getD j ji)).take i).map aJ++ [aJ (iS gs (kids.getD I[i] ji))]:=by
     rw [List.take_succ_eq_append_getElem (by simpa using hlt),List.map_append,Uh]; rfl
    have ix:=fun k=>fu.eq (xs:=I.map qB) (sz:=1) i (by simpa using hlt) (by rw [Uh]; rfl) k
    rw [Uh] at ix;obtain ⟨j,ej⟩:∃j,I[i]=j:=⟨_,rfl⟩;rw [ej] at ix hsn hjlt;have iy:=fun k=>fu.eq (xs:=kids.map aJ) (sz:=7) j (by simpa using hjlt) (by rw [Uh,iu]) k
    rw [Uh] at iy;rw [show kids.getD j ji=kids[j] by simp [List.getD,List.getElem?_eq_getElem hjlt]] at hsn
    have hke:=hKE _ (Ul hjlt);obtain ⟨x,ex⟩:∃x,kids[j]=x:=⟨_,rfl⟩;rw [ex] at iy hsn hke;have hr1:=ih x hke gs hf;obtain ⟨z,ez⟩:∃z,iS gs x=z:=⟨_,rfl⟩;rw [ez] at hr1 hsn;obtain ⟨kid,kset,kalg,ktgt,krules,kkids,kobls⟩:=x;obtain ⟨zid,zset,zalg,ztgt,zrules,zkids,zobls⟩:=z;simp only [aJ,aR,ax,aW,bw] at iy hr1;simp only [qB] at ix;simp only [go_sem,r1,r2,r5,r11,r13,ix,k2,iy];refine (hr1 _).pthen ?_;simp only [go_sem];refine hy.app (zs:= [aJ (.mk zid zset zalg ztgt zrules zkids zobls)]) (by rw [uP]; decide) (by simp only [go_sem,ne_eq,not_false_eq_true]) (fun k hk=>show k _ from (by simpa only [aJ,aR,ax,aW] using hk)) (by rw [uP]; exact bh (f:=aJ) iu _) (by rw [uP]; intro z hz; rw [List.mem_singleton.1 hz,iu]) (by simp only [go_sem,Ug,List.length_take,List.length_cons,List.length_nil]; omega) fun y' H' hy' kp=> ?_
    simp only [go_sem,r13,w1];refine ⟨_, ?_,i+1,y',by rw [hsn]; exact hy',by omega,rfl, ?_, ?_, ?_, ?_, ?_, ?_, ?_⟩
    ·omega
    all_goals simp only [go_sem,r1,r2,r4,r11,r12]
   ·have hge:i=I.length:=by have:=Uj e; omega
    subst hge;have htl:(I.map fun j=>iS gs (kids.getD j ji)).take I.length=iR gs kids:=by rw [List.take_of_length_le (by simp)]; exact hfull
    rw [htl] at r5 hy;have k4:=hy.1 _ _ g4;have n24:i2≠i4:=n42.symm;simp only [go_sem,r2,r4,r5,k2,aj,n42,k4];refine .mk (aJ (.mk id set alg tgt rules (iR gs kids) obls)) (NY rfl _) (((hH0.trans hy.1).put h2 _).put n4' _) ⟨by rw [hpe],rfl⟩
theorem zZ (p:bB) (hp:fK p=0) (gs:List bf) (hf:oL gs) (h:Heap):ak Tryz.prog 88 [aJ p,bw gs] h fun r h' =>r= .tup [rsA (dX gs p), .v (.int .i64 0)]∧h' =h:=by
 have hpk:=fun G=>xB 4 1 rfl p (od hp) gs hf G
 have hev:=fun G=>zC (iS gs p) (Cg gs hp) gs hf G
 have hr:=fun G=>qQ p G
 rw [hp] at hr;rw [xz] at hev;obtain ⟨w,ew⟩:∃w,iS gs p=w:=⟨_,rfl⟩;rw [ew] at hpk hev;obtain ⟨z,ez⟩:∃z,dX gs p=z:=⟨_,rfl⟩;rw [ez] at hev⊢;obtain ⟨id,set,alg,tgt,rules,kids,obls⟩:=p;obtain ⟨wid,wset,walg,wtgt,wrules,wkids,wobls⟩:=w;simp only [aJ,aR,ax,bw] at hpk hr hev;refine ak.body hU hm Tryz.func88 rfl (by kernel_rfl) 17 rfl [.cell 4 85, .tmp 5] rfl (Uf rfl) (fun hwf=> ?_)
 simp only [go_sem,aJ,bw,aR,ax];intro i2 h2;simp only [go_sem];intro i4 h4;have n42:=aH h4;have n4:=aE h4;have hs:∀x y,Ab.Sub h (upd (upd h i2 x) i4 y):=fun x y=>((Sub.refl h).put h2 x).put n4 y
 simp only [go_sem,aj,n42.symm];refine (hr _).pthen ?_;simp only [go_sem,aj,n42.symm];refine (hpk _).pthen ?_;simp only [go_sem];refine (hev _).pthen ?_;simp only [go_sem,rsA,aO,ax];exact .mk _ (.refl _) (hs _ _) ⟨rfl,rfl⟩
def OwR (h0 h:Heap) (y:AV) (rs:List gj):Prop:=y=di rs∨OwE 71 h0 h 2 y (rs.map dD)
theorem OwR.rd {h0 h:Heap} {y:AV} {rs:List gj} (hr:OwR h0 h y rs):Rd h 2 y (rs.map dD):=by
 rcases hr with rfl|hr
 ·exact dS dD 2 (fun _=>rfl) h rs
 ·exact hr.rd
theorem OwR.nid {h0 h:Heap} {y:AV} {rs:List gj} (hr:OwR h0 h y rs) {k:Nat} (e:Ab.nid y=some k):h0 k=none∧h k≠none:=by
 rcases hr with rfl|hr
 ·cases e
 ·exact ⟨(hr.nid e).1,(hr.nid e).2.1⟩
theorem OwR.keep {h0 h h' :Heap} {y:AV} {rs:List gj} (hr:OwR h0 h y rs) (hk:∀id,Ab.nid y=some id→h' id=h id):OwR h0 h' y rs:=by
 rcases hr with hr|hr
 ·exact .inl hr
 ·exact .inr (hr.keep hk)
theorem OwR.bC {g h0 h:Heap} {y:AV} {rs:List gj} (hr:OwR h0 h y rs) (hg:∀i,h0 i=none→g i=none):OwR g h y rs:=by
 rcases hr with hr|hr
 ·exact .inl hr
 ·exact .inr (hr.bC hg)
theorem OwR.frz {g h:Heap} {y:AV} {rs:List gj} (hr:OwR g h y rs):Frz g h y (di rs):=by
 rcases hr with rfl|hr
 ·exact .pure (by simp only [di,ct]; exact bg (fun _=>rfl) _)
 ·exact hr.frz (bg (fun _=>rfl) _)
structure gD (h0 h:Heap) (y1 y2 y3 y4:AV) (s:an) (j:Nat):Prop where
 cs:jW h0 h [y1,y2,y3,y4] y1 s.cases j
 rv:OwE 82 h0 h 7 y2 (s.reviews.map fP)
 nt:OwE 98 h0 h 3 y3 (s.notices.map kM)
 rl:OwR h0 h y4 s.roles
 a12:apart y1 y2
 a13:apart y1 y3
 a14:apart y1 y4
 a23:apart y2 y3
 a24:apart y2 y4
 a34:apart y3 y4
def stC (s:an) (y1 y2 y3 y4:AV):List AV:= [.v (.int .i64 s.tick),y1,y2,y3,y4]++fl s.policy++ [.v (.int .i64 s.version)]
theorem pT.parts {h0 h:Heap} {x:AV} {s:an} {j:Nat} (ho:pT h0 h x s j):∃y1 y2 y3 y4,x= .agg (stC s y1 y2 y3 y4)∧gD h0 h y1 y2 y3 y4 s j:=by
 obtain ⟨y1,y2,y3,y4,e,a,b,c,d,r1,r2,r3,r4,r5,r6⟩:=ho;exact ⟨y1,y2,y3,y4,e,a,b,c, .inr d,r1,r2,r3,r4,r5,r6⟩
theorem gD.rd {h0 h:Heap} {y1 y2 y3 y4:AV} {s:an} {j:Nat} (ho:gD h0 h y1 y2 y3 y4 s j):RdS h (.agg (stC s y1 y2 y3 y4)) s:=
 ⟨y1,y2,y3,y4,rfl,ho.cs.rd,ho.rv.rd,ho.nt.rd,ho.rl.rd⟩
theorem gD.frz {g h:Heap} {y1 y2 y3 y4:AV} {s:an} {j:Nat} (ho:gD g h y1 y2 y3 y4 s j):Frz g h (.agg (stC s y1 y2 y3 y4)) (dj s):=
 rz (ho.cs.frz (.refl _)) (ho.rv.frz (bg (fun _=>rfl) _)) (ho.nt.frz (bg (fun _=>rfl) _)) ho.rl.frz
theorem gD.bC {g h0 h:Heap} {y1 y2 y3 y4:AV} {s:an} {j:Nat} (ho:gD h0 h y1 y2 y3 y4 s j) (hg:∀i,h0 i=none→g i=none):gD g h y1 y2 y3 y4 s j:=
 {ho with cs:=ho.cs.bC hg,rv:=ho.rv.bC hg,nt:=ho.nt.bC hg,rl:=ho.rl.bC hg}
theorem gD.keep {h0 h h' :Heap} {y1 y2 y3 y4:AV} {s:an} {j:Nat} (ho:gD h0 h y1 y2 y3 y4 s j) (hk:∀id,h0 id=none→h id≠none→h' id=h id):gD h0 h' y1 y2 y3 y4 s j:=
 {ho with cs:=ho.cs.keepb hk,rv:=ho.rv.keepb hk,nt:=ho.nt.keepb hk,rl:=ho.rl.keep fun id e=>hk id (ho.rl.nid e).1 (ho.rl.nid e).2}
theorem gD.mem {h0 h:Heap} {y1 y2 y3 y4:AV} {s:an} {j:Nat} (ho:gD h0 h y1 y2 y3 y4 s j) {w:AV} (hw:w∈ [y1,y2,y3,y4]) {k:Nat} (e:Ab.nid w=some k):h0 k=none∧h k≠none:=by
 obtain ⟨xs,a,_⟩:=ho.cs;simp only [List.mem_cons,List.not_mem_nil,or_false] at hw;rcases hw with rfl|rfl|rfl|rfl
 ·exact ⟨(a.nid e).1,(a.nid e).2.1⟩
 ·exact ⟨(ho.rv.nid e).1,(ho.rv.nid e).2.1⟩
 ·exact ⟨(ho.nt.nid e).1,(ho.nt.nid e).2.1⟩
 ·exact ho.rl.nid e
theorem gD.revs {h0 h h' :Heap} {y1 y2 y3 y4 z:AV} {s:an} {j:Nat} {rs:List lW} (ho:gD h0 h y1 y2 y3 y4 s j) (hz:OwE 82 h0 h' 7 z (rs.map fP)) (hn:∀k,Ab.nid z=some k→h k=none∨Ab.nid y2=some k)
  (hk:∀id,h0 id=none→h id≠none→Ab.nid y2≠some id→h' id=h id):gD h0 h' y1 z y3 y4 {s with reviews:=rs} j:=by
 obtain ⟨hcs,hrv,hnt,hrl,a12,a13,a14,a23,a24,a34⟩:=id ho;have ap:∀ {w:AV},w∈ [y1,y2,y3,y4]→apart w y2→apart w z:=fun hw ha k e1 e2=>(hn k e2).elim (fun h=>(ho.mem hw e1).2 h) (fun h=>ha k e1 h)
 refine ⟨hcs.move (z:=y2) (by simp) a12 hk fun w hw k e=> ?_,hz,hnt.keep fun id e=>hk id (hnt.nid e).1 (hnt.nid e).2.1 fun e1=>a23 id e1 e,hrl.keep fun id e=>hk id (hrl.nid e).1 (hrl.nid e).2 fun e1=>a24 id e1 e,ap (by simp) a12,a13,a14,(ap (by simp) a23.symm).symm,(ap (by simp) a24.symm).symm,a34⟩
 simp only [List.mem_cons,List.not_mem_nil,or_false] at hw;rcases hw with rfl|rfl|rfl|rfl
 ·exact .inr ⟨w,by simp,e⟩
 ·exact (hn k e).imp id fun h=>⟨y2,by simp,h⟩
 ·exact .inr ⟨w,by simp,e⟩
 ·exact .inr ⟨w,by simp,e⟩
theorem gD.nots {h0 h h' :Heap} {y1 y2 y3 y4 z:AV} {s:an} {j:Nat} {rs:List Dz} (ho:gD h0 h y1 y2 y3 y4 s j) (hz:OwE 98 h0 h' 3 z (rs.map kM)) (hn:∀k,Ab.nid z=some k→h k=none∨Ab.nid y3=some k)
  (hk:∀id,h0 id=none→h id≠none→Ab.nid y3≠some id→h' id=h id):gD h0 h' y1 y2 z y4 {s with notices:=rs} j:=by
 obtain ⟨hcs,hrv,hnt,hrl,a12,a13,a14,a23,a24,a34⟩:=id ho;have ap:∀ {w:AV},w∈ [y1,y2,y3,y4]→apart w y3→apart w z:=fun hw ha k e1 e2=>(hn k e2).elim (fun h=>(ho.mem hw e1).2 h) (fun h=>ha k e1 h)
 refine ⟨hcs.move (z:=y3) (by simp) a13 hk fun w hw k e=> ?_,hrv.keep fun id e=>hk id (hrv.nid e).1 (hrv.nid e).2.1 fun e1=>a23 id e e1,hz,hrl.keep fun id e=>hk id (hrl.nid e).1 (hrl.nid e).2 fun e1=>a34 id e1 e,a12,ap (by simp) a13,a14,ap (by simp) a23,a24,(ap (by simp) a34.symm).symm⟩
 simp only [List.mem_cons,List.not_mem_nil,or_false] at hw;rcases hw with rfl|rfl|rfl|rfl
 ·exact .inr ⟨w,by simp,e⟩
 ·exact .inr ⟨w,by simp,e⟩
 ·exact (hn k e).imp id fun h=>⟨y3,by simp,h⟩
 ·exact .inr ⟨w,by simp,e⟩
end Go.Proofs.YtmlhcdeamjkpjaaGreatDoor
namespace Go.Bf
open Go Go.Ab Go.Proofs.YtmlhcdeamjkpjaaGreatDoor
def gm (s:an):Prop:=∀r∈s.reviews,0≤r.tick∧r.tick≤1099511627776
theorem xP {s:an} (o:OpD) (w:Txt) (h:gm s) (ht:0≤s.tick∧s.tick≤1099511627776):gm (cS s o w):=fun r hr=>by
 simp only [cS,List.mem_append,List.mem_singleton] at hr;rcases hr with hr|rfl
 ·exact h r hr
 ·exact ht
theorem E2 {s:an} (o:OpD) (w:Txt) (h:gm s):gm (gN s o w):=fun r hr=>h r (by rw [(u0 s o w).2.2.2.2.1] at hr; exact hr)
theorem E1 {s:an} (o:OpD) (done:Bool) (x:cr) (h:gm s) (ht:0≤s.tick∧s.tick≤1099511627776):gm (eR o done s x):=by
 unfold eR;split
 ·exact E2 o _ h
 ·split
  ·exact xP o _ h ht
  ·split<;>exact h
theorem tc (o:OpD) (done:Bool):∀(l:List cr) {s:an},gm s→(0≤s.tick∧s.tick≤1099511627776)→gm (cO s o l done)
 | [],s,h,_=>h
 |x::l,s,h,ht=>tc o done l (E1 o done x h ht) (by rw [(zA o done s x).1]; exact ht)
theorem Hx {s:an} (par:Txt→bB×Int×Int) (o:OpD) (h:gm s):gm (dw par s o):=fun r hr=>by
 rw [rq] at hr;split at hr
 ·rcases mem_modify hr with hr|⟨hi,rfl⟩
  ·exact h r hr
  ·have h2:=h _ (Ul hi)
   exact h2
 ·exact h r hr
theorem Cy {k:Nat} {s:an} (o:OpD) (h:js k s) (ht:gm s):gm (cu s o).1:=by
 unfold cu;split
 ·exact ht
 ·split
  ·exact ht
  ·show gm (cC s o)
   have h1:cN k (if eU s o then cS s o o.reason else s):=by
    split
    ·exact yJ o _ h.tocN (by have:=h.nr; omega)
    ·exact h.tocN
   have t1:gm (if eU s o then cS s o o.reason else s):=by
    split
    ·exact xP o _ ht h.tick
    ·exact ht
   unfold cC;refine tc o _ _ ?_ ?_
   ·split
    ·exact Hx _ o t1
    ·exact t1
   ·split
    ·exact (mH o h1).tick
    ·exact h1.tick
structure o8 (k:Nat) (s:an):Prop extends js k s where
 ticks:gm s
theorem uE:o8 0 wg:= {Eb with ticks:=fun r h=>(by cases h)}
theorem nF {k:Nat} {s:an} (o:OpD) (h:o8 k s):o8 (k+1) (cu s o).1:= {BO o h.tojs with ticks:=Cy o h.tojs h.ticks}
theorem ID {cs:List aK} {id:Txt} (h:gr cs id<cs.length):cs[gr cs id].id=id:=by
 have:=List.findIdx_getElem (p:=fun c:aK=>c.id==id) (w:=h)
 exact eq_of_beq this
theorem BV {cs:List aK} (ha:Asc cs) {id:Txt} (h:gr cs id<cs.length):findD cs id=gr cs id:=by
 have hid:=ID h;have hin:bG cs id=true:=by rw [rU ha id]; exact List.any_eq_true.2 ⟨_,Ul h,by simp [hid]⟩
 have hir:Op.bytesLess id id=false:=by simpa [lt] using lt_irrefl id
 have h1:∃hl:findD cs id<cs.length,cs[findD cs id].id=id:=by
  unfold bG at hin;cases hf:cs[findD cs id]? with
  |none=>rw [hf] at hin; cases hin
  |some c=>
   rw [hf] at hin;obtain ⟨hl,e⟩:=List.getElem?_eq_some_iff.1 hf;exact ⟨hl,by rw [e]; simpa using hin⟩
 obtain ⟨hl,e⟩:=h1;rcases Nat.lt_trichotomy (findD cs id) (gr cs id) with hlt|heq|hgt
 ·exact absurd (List.not_of_lt_findIdx (p:=fun c:aK=>c.id==id) hlt) (by simp [e])
 ·exact heq
 ·have:=List.not_of_lt_findIdx (p:=fun c:aK=>geB c.id id) hgt
  rw [hid] at this;exact absurd this (by simp [geB,hir])
theorem Gc {cs ds:List aK} (h:ds.map (·.id)=cs.map (·.id)) (id:Txt):gr ds id=gr cs id:=by
 have e:∀l:List aK,gr l id=(l.map (·.id)).findIdx fun x=>x==id:=fun l=>by
  unfold gr;rw [List.findIdx_map];rfl
 rw [e,e,h]
theorem En (s:an) (o:OpD) (w:Txt) (id:Txt):gr (gN s o w).cases id=gr s.cases id∧(gN s o w).cases.length=s.cases.length:=by
 unfold gN;split
 ·exact ⟨Gc (jj (f:=fun c=>hY s c o.subj w) (g:=fun c:aK=>c.id) fun c=>rfl) id,by simp⟩
 ·exact ⟨rfl,rfl⟩
theorem Em (o:OpD) (done:Bool) (s:an) (x:cr) (id:Txt):gr (eR o done s x).cases id=gr s.cases id∧(eR o done s x).cases.length=s.cases.length:=by
 unfold eR;split
 ·exact En s o x.arg id
 ·split
  ·exact ⟨rfl,rfl⟩
  ·split<;>exact ⟨rfl,rfl⟩
end Go.Bf
namespace Go.Proofs.YtmlhcdeamjkpjaaGreatDoor
open Go Go.Ab Go.Bf
theorem Gf {α:Type} (y:AV) (xs:List AV) (ds:List α) (q:α→Bool) (g:FuncId) (cap:List AV) (h:Heap) (hb:Rd h 7 y xs) (hn:xs.length=ds.length) (hl:xs.length≤1000000000) (hx:∀x∈xs,bp x=true)
  (hp:∀i (h1:i<xs.length) (h2:i<ds.length),ak Tryz.prog g (xs[i]::cap) h fun r h' =>r= .v (.bool (q ds[i]))∧h' =h):
  ak Tryz.prog 144 [y, .fn g cap] h fun r h' =>r= .v (.int .i64 (ixD q ds))∧h' =h:=by
 refine ak.body hU hm Tryz.func144 rfl (by kernel_rfl) 19 rfl [.tmp 4] rfl (Uf rfl) (fun hwf=> ?_)
 simp only [go_sem,hb.len];refine .intro (fun m ρ h' =>h' =h∧∃i:Nat,i≤xs.length∧m=xs.length - i∧(∀j (hj:j<i) (h2:j<ds.length),q ds[j]=false)∧lk ρ 0=some y∧lk ρ 1=some (.fn g cap)∧lk ρ 7=some (.v (.int .i64 xs.length))∧lk ρ 8=some (.v (.int .i64 i))) xs.length ?_ ?_
 ·refine ⟨rfl,0,by omega,rfl,fun j hj=>(by omega), ?_, ?_, ?_, ?_⟩<;>simp only [go_sem]
 ·rintro m ρ h' ⟨rfl,i,hi,rfl,hc,r0,r1,r7,r8⟩
  simp only [go_sem,r7,r8];refine .intro (fun e=> ?_) (fun e=> ?_)
  ·have hlt:i<xs.length:=Un e
   have hlt2:i<ds.length:=by omega
   have w1:=Um i (by omega)
   simp only [go_sem,r0,r1,r8];refine hb.idx (e:=82) i rfl hlt (by simp only [go_sem]) (by decide) fun p hp1=> ?_
   have hld:=hp1.all (U:=U) (ty:=82) (by simp only [go_sem]) (by simp only [go_sem]; exact hb.1 _ (Ul hlt)) (by simp only [go_sem]; rw [hx _ (Ul hlt)])
   simp only [go_sem,hld];refine (show ak Tryz.prog g (xs[i]::cap) _ _ from hp i hlt hlt2).pthen ?_
   cases d1:q ds[i]
   ·simp only [go_sem,r8,w1]
    refine ⟨_, ?_,rfl,i+1,by omega,rfl,fun j hj h2=> ?_, ?_, ?_, ?_, ?_⟩
    ·omega
    ·by_cases hji:j=i
     ·subst hji; exact d1
     ·exact hc j (by omega) h2
    all_goals simp only [go_sem,r0,r1,r7]
   ·simp only [go_sem]
    exact .same (.refl _) ⟨by rw [lD hlt2 d1 fun j hj=>hc j hj (by omega)]; rfl,rfl⟩
  ·have hge:i=xs.length:=by have:=Uj e; omega
   simp only [go_sem];exact .same (.refl _) ⟨by rw [gX fun j hj=>hc j (by omega) hj]; rfl,rfl⟩
theorem Gd {α:Type} (y:AV) (xs:List AV) (ds:List α) (q:α→Bool) (g:FuncId) (cap:List AV) (h:Heap) (hb:Rd h 3 y xs) (hn:xs.length=ds.length) (hl:xs.length≤1000000000) (hx:∀x∈xs,bp x=true)
  (hp:∀i (h1:i<xs.length) (h2:i<ds.length),ak Tryz.prog g (xs[i]::cap) h fun r h' =>r= .v (.bool (q ds[i]))∧h' =h):
  ak Tryz.prog 184 [y, .fn g cap] h fun r h' =>r= .v (.int .i64 (ixD q ds))∧h' =h:=by
 refine ak.body hU hm Tryz.func184 rfl (by kernel_rfl) 19 rfl [.tmp 4] rfl (Uf rfl) (fun hwf=> ?_)
 simp only [go_sem,hb.len];refine .intro (fun m ρ h' =>h' =h∧∃i:Nat,i≤xs.length∧m=xs.length - i∧(∀j (hj:j<i) (h2:j<ds.length),q ds[j]=false)∧lk ρ 0=some y∧lk ρ 1=some (.fn g cap)∧lk ρ 7=some (.v (.int .i64 xs.length))∧lk ρ 8=some (.v (.int .i64 i))) xs.length ?_ ?_
 ·refine ⟨rfl,0,by omega,rfl,fun j hj=>(by omega), ?_, ?_, ?_, ?_⟩<;>simp only [go_sem]
 ·rintro m ρ h' ⟨rfl,i,hi,rfl,hc,r0,r1,r7,r8⟩
  simp only [go_sem,r7,r8];refine .intro (fun e=> ?_) (fun e=> ?_)
  ·have hlt:i<xs.length:=Un e
   have hlt2:i<ds.length:=by omega
   have w1:=Um i (by omega)
   simp only [go_sem,r0,r1,r8];refine hb.idx (e:=90) i rfl hlt (by simp only [go_sem]) (by decide) fun p hp1=> ?_
   have hld:=hp1.all (U:=U) (ty:=90) (by simp only [go_sem]) (by simp only [go_sem]; exact hb.1 _ (Ul hlt)) (by simp only [go_sem]; rw [hx _ (Ul hlt)])
   simp only [go_sem,hld];refine (show ak Tryz.prog g (xs[i]::cap) _ _ from hp i hlt hlt2).pthen ?_
   cases d1:q ds[i]
   ·simp only [go_sem,r8,w1]
    refine ⟨_, ?_,rfl,i+1,by omega,rfl,fun j hj h2=> ?_, ?_, ?_, ?_, ?_⟩
    ·omega
    ·by_cases hji:j=i
     ·subst hji; exact d1
     ·exact hc j (by omega) h2
    all_goals simp only [go_sem,r0,r1,r7]
   ·simp only [go_sem]
    exact .same (.refl _) ⟨by rw [lD hlt2 d1 fun j hj=>hc j hj (by omega)]; rfl,rfl⟩
  ·have hge:i=xs.length:=by have:=Uj e; omega
   simp only [go_sem];exact .same (.refl _) ⟨by rw [gX fun j hj=>hc j (by omega) hj]; rfl,rfl⟩
theorem Ef (y:AV) (ds:List lW) (q:lW→Bool) (g:FuncId) (cap:List AV) (h:Heap) (hb:Rd h 7 y (ds.map fP)) (hl:ds.length≤1000000000)
  (hp:∀i (h2:i<ds.length),ak Tryz.prog g (fP ds[i]::cap) h fun r h' =>r= .v (.bool (q ds[i]))∧h' =h):
  ak Tryz.prog 97 [y, .fn g cap] h fun r h' =>r= .v (.bool (ds.any q))∧h' =h:=by
 refine ak.body hU hm Tryz.func97 rfl (by kernel_rfl) 9 rfl [.tmp 4] rfl (Uf rfl) (fun hwf=> ?_)
 simp only [go_sem];refine (Gf y _ ds q g cap h hb (by simp) (by simpa using hl) (lY (fun _=>rfl) _) fun i a b=>by rw [Uh]; exact hp i b).pthen ?_
 simp only [go_sem,ri];exact .same (.refl _) ⟨rfl,rfl⟩
theorem Ee (y:AV) (ds:List cr) (q:cr→Bool) (g:FuncId) (cap:List AV) (h:Heap) (hb:Rd h 3 y (ds.map bk)) (hl:ds.length≤1000000000)
  (hp:∀i (h2:i<ds.length),ak Tryz.prog g (bk ds[i]::cap) h fun r h' =>r= .v (.bool (q ds[i]))∧h' =h):
  ak Tryz.prog 135 [y, .fn g cap] h fun r h' =>r= .v (.bool (ds.any q))∧h' =h:=by
 refine ak.body hU hm Tryz.func135 rfl (by kernel_rfl) 9 rfl [.tmp 4] rfl (Uf rfl) (fun hwf=> ?_)
 simp only [go_sem];refine (Gd y _ ds q g cap h hb (by simp) (by simpa using hl) (lY (fun _=>rfl) _) fun i a b=>by rw [Uh]; exact hp i b).pthen ?_
 simp only [go_sem,ri];exact .same (.refl _) ⟨rfl,rfl⟩
theorem BQ (y:AV) (xs:List AV) (ds:List aK) (q:aK→Bool) (g:FuncId) (cap:List AV) (h:Heap) (hb:Rd h 5 y xs) (hn:xs.length=ds.length) (hl:xs.length≤1000000000) (hx:∀x∈xs,bp x=true)
  (hp:∀i (h1:i<xs.length) (h2:i<ds.length),ak Tryz.prog g (xs[i]::cap) h fun r h' =>r= .v (.bool (q ds[i]))∧h' =h):
  ak Tryz.prog 138 [y, .fn g cap] h fun r h' =>r= .v (.bool (ds.any q))∧h' =h:=by
 refine ak.body hU hm Tryz.func138 rfl (by kernel_rfl) 9 rfl [.tmp 4] rfl (Uf rfl) (fun hwf=> ?_)
 simp only [go_sem];refine (rD y xs ds q g cap h hb hn hl hx hp).pthen ?_;simp only [go_sem,ri];exact .same (.refl _) ⟨rfl,rfl⟩
theorem Gk {h:Heap} (r:lW) {k1 k2:Nat} {subj:Txt} {s:an} (hk1:h k1=some (.obj [.s subj] 9)) (hk2:h k2=some (.obj (sL s) 36)) (ht:0≤s.tick∧s.tick≤1099511627776) (hr:0≤r.tick∧r.tick≤1099511627776):
  ak Tryz.prog 98 [fP r, .ptr k1 0, .ptr k2 0] h fun x h' =>x= .v (.bool (r.subj==subj && lS s r))∧h' =h:=by
 have w:IntKind.i64.wrap (s.tick - r.tick)=s.tick - r.tick:=bz _ (by omega)
 obtain ⟨tick,cs,rv,nt,ro,⟨pid,pset,palg,ptgt,prules,pkids,pobls⟩,ver⟩:=s;simp only [sL] at hk2;simp only at w;refine ak.body hU hm Tryz.func98 rfl (by kernel_rfl) 21 rfl [.tmp 4] rfl (Uf rfl) (fun hwf=> ?_)
 simp only [go_sem,fP];intro i3 h3;have n31:i3≠k1:=fun e=>by rw [e,hk1] at h3; cases h3
 have n32:i3≠k2:=fun e=>by rw [e,hk2] at h3; cases h3
 cases d1:(r.subj==subj)
 ·simp only [go_sem,aj,n31.symm,hk1,d1]
  exact .mk _ (.refl _) (.ai h3) ⟨rfl,rfl⟩
 cases d2:r.isOpen
 ·simp only [go_sem,aj,n31.symm,hk1,d1]
  exact .mk _ (.refl _) (.ai h3) ⟨by simp only [lS,d2]; rfl,rfl⟩
 ·simp only [go_sem,aj,n31.symm,n32.symm,hk1,hk2,d1,w]
  exact .mk _ (.refl _) (.ai h3) ⟨by simp only [lS,d2]; rfl,rfl⟩
set_option maxRecDepth 100000 in
theorem IL (s:an) (subj:Txt) (hn:s.reviews.length≤1000000) (ht:0≤s.tick∧s.tick≤1099511627776) (hr:gm s) (h:Heap):ak Tryz.prog 42 [dj s, .s subj] h fun x h' =>x= .v (.bool (C5 s subj))∧h' =h:=by
 have hl1:=fun (H:Heap) (k1 k2:Nat) (e1:H k1=some (.obj [.s subj] 9)) (e2:H k2=some (.obj (sL s) 36))=>Ef (qP s.reviews) s.reviews (fun r=>r.subj==subj && lS s r) 98 [.ptr k1 0, .ptr k2 0] H (dS fP 7 (fun _=>rfl) H _) (by omega) fun i h2=>Gk _ e1 e2 ht (hr _ (Ul h2))
 simp only [show∀l:List lW,(l.any fun r=>r.subj==subj && lS s r)=C5 {s with reviews:=l} subj from fun l=>rfl] at hl1
 have hst:=rS s;obtain ⟨tick,cs,rv,nt,ro,⟨pid,pset,palg,ptgt,prules,pkids,pobls⟩,ver⟩:=s;rw [hst];simp only [sL] at hl1⊢;refine ak.body hU hm Tryz.func42 rfl (by kernel_rfl) 9 rfl [.tmp 4] rfl (Uf rfl) (fun hwf=> ?_)
 simp only [go_sem];intro i2 h2;simp only [go_sem];intro i3 h3;have n32:=aH h3;have n3:=aE h3;have hs:∀x y,Ab.Sub h (upd (upd h i2 x) i3 y):=fun x y=>((Sub.refl h).put h2 x).put n3 y
 simp only [go_sem,aj,n32.symm];refine (hl1 _ i3 i2 (ah ..) (by rw [ag _ _ n32.symm,ah])).pthen ?_
 simp only [go_sem];exact .mk _ (.refl _) (hs _ _) ⟨rfl,rfl⟩
set_option maxRecDepth 100000 in
theorem DG (s:an) (o:OpD) (m:aQ) (hm9:M9 m) (hn:s.reviews.length≤1000000) (hro:s.roles.length≤1000000) (ht:0≤s.tick∧s.tick≤1099511627776) (hr:gm s) (h:Heap):ak Tryz.prog 89 [dj s,opA o,aO m] h fun x h' =>x= .v (.bool (pX s o m))∧h' =h:=by
 have hla:=fun G=>IL s o.subj hn ht hr G
 have hha:=fun G=>BT (rdS G s) o.subj nE (by omega)
 have hbd:pX s o m=(o.glass && (m==bV||m==naM) && uG s.roles ⟨o.subj,nE⟩ && !C5 s o.subj):=rfl
 have de:=(nb hm9).de;have na:=(nb hm9).na;have hst:=rS s;obtain ⟨tick,cs,rv,nt,ro,⟨pid,pset,palg,ptgt,prules,pkids,pobls⟩,ver⟩:=s;rw [hst] at hla hha⊢;simp only [sL,nE] at hla hha hbd⊢;refine ak.body hU hm Tryz.func89 rfl (by kernel_rfl) 30 rfl [.tmp 6] rfl (Uf rfl) (fun hwf=> ?_)
 simp only [go_sem,opA,opC,aO];intro i3 h3;simp only [go_sem];intro i4 h4;have n43:=aH h4;have n4:=aE h4;have hs:∀x y,Ab.Sub h (upd (upd h i3 x) i4 y):=fun x y=>((Sub.refl h).put h3 x).put n4 y
 cases dg:o.glass
 ·simp only [go_sem]
  exact .mk _ (.refl _) (hs _ _) ⟨by rw [hbd,dg]; rfl,rfl⟩
 cases d1:(m==bV)<;>cases d2:(m==naM)
 case false.false=>
  simp only [go_sem,de,na,d1,d2];exact .mk _ (.refl _) (hs _ _) ⟨by rw [hbd,dg,d1,d2]; rfl,rfl⟩
 all_goals
  simp only [go_sem,aj,n43.symm,de,na,d1,d2];refine (hha _).pthen ?_;cases dh:uG ro ⟨o.subj,[103,108,97,115,115]⟩
  ·simp only [go_sem]
   exact .mk _ (.refl _) (hs _ _) ⟨by rw [hbd,dg,d1,d2,dh]; rfl,rfl⟩
  ·simp only [go_sem,aj,n43.symm]
   refine (hla _).pthen ?_;simp only [go_sem];exact .mk _ (.refl _) (hs _ _) ⟨by rw [hbd,dg,d1,d2,dh]; rfl,rfl⟩
theorem Eh {h:Heap} (x:cr) {k:Nat} {field:Txt} (hk:h k=some (.obj [.s field] 9)):ak Tryz.prog 136 [bk x, .ptr k 0] h fun r h' =>r= .v (.bool (x.kind==2 && x.arg==field))∧h' =h:=by
 refine ak.body hU hm Tryz.func136 rfl (by kernel_rfl) 13 rfl [.tmp 3] rfl (Uf rfl) (fun hwf=> ?_)
 simp only [go_sem,bk];intro i2 h2;have n2:i2≠k:=fun e=>by rw [e,hk] at h2; cases h2
 cases d1:(x.kind==2)
 all_goals
  simp only [go_sem,aj,n2.symm,hk,d1];exact .mk _ (.refl _) (.ai h2) ⟨rfl,rfl⟩
theorem F6 (l:List cr) (hl:l.length≤1000000000) (field:Txt) (h:Heap):ak Tryz.prog 92 [ax l, .s field] h fun r h' =>r= .v (.bool (iN l field))∧h' =h:=by
 refine ak.body hU hm Tryz.func92 rfl (by kernel_rfl) 8 rfl [.tmp 4] rfl (Uf rfl) (fun hwf=> ?_)
 simp only [go_sem,ax];intro i3 h3;simp only [go_sem];refine (Ee (.sl (l.map bk) .no) l (fun x=>x.kind==2 && x.arg==field) _ [.ptr i3 0] _ (dS bk 3 (fun _=>rfl) _ _) hl fun i h2=>Eh _ (ah ..)).pthen ?_
 simp only [go_sem];exact .mk _ (.refl _) (.ai h3) ⟨rfl,rfl⟩
theorem GH {h:Heap} {x:AV} {c:aK} (hb:RdC h x c):ak Tryz.prog 139 [x] h fun r h' =>r= .v (.bool (decide (256<c.log.length)))∧h' =h:=by
 obtain ⟨f,l,rfl,hf,hl⟩:=hb;have e:decide ((256:Int)<(c.log.length:Int))=decide (256<c.log.length):=by
  rw [decide_eq_decide]; omega
 refine ak.body hU hm Tryz.func139 rfl (by kernel_rfl) 7 rfl [.tmp 2] rfl (Uf rfl) (fun hwf=> ?_)
 simp only [go_sem];intro i1 h1;simp only [go_sem,hl.len,Ug,e];exact .mk _ (.refl _) (.ai h1) ⟨rfl,rfl⟩
set_option maxRecDepth 100000 in
theorem GJ {h:Heap} {x:AV} {s:an} (hb:RdS h x s) (hc:s.cases.length≤1000000):ak Tryz.prog 94 [x] h fun r h' =>r= .v (.bool (oX s))∧h' =h:=by
 obtain ⟨y1,y2,y3,y4,rfl,⟨xs,hx,hn,hcs⟩,h2,h3,h4⟩:=hb;have hod:oX s=(decide (256<s.reviews.length)||decide (256<s.notices.length)||s.cases.any fun c=>decide (256<c.log.length)):=rfl
 have e2:decide ((256:Int)<(s.reviews.length:Int))=decide (256<s.reviews.length):=by
  rw [decide_eq_decide]; omega
 have e3:decide ((256:Int)<(s.notices.length:Int))=decide (256<s.notices.length):=by
  rw [decide_eq_decide]; omega
 have hca:=fun (G:Heap) (hG:Ab.Sub h G)=>BQ y1 xs s.cases (fun c=>decide (256<c.log.length)) 139 [] G (hx.sub hG) hn (by omega) (vV.agg hn hcs) fun i a b=>GH ((hcs i a b).sub hG)
 cases hpp:s.policy with
 |mk pid pset palg ptgt prules pkids pobls=>
 refine ak.body hU hm Tryz.func94 rfl (by kernel_rfl) 18 rfl [.tmp 2] rfl (Uf rfl) (fun hwf=> ?_)
 simp only [go_sem,fl,aW,List.cons_append,List.nil_append];intro i1 h1;cases d2:decide (256<s.reviews.length)
 case true=>
  simp only [go_sem,h2.len,Ug,e2,d2];exact .mk _ (.refl _) (.ai h1) ⟨by rw [hod,d2]; rfl,rfl⟩
 cases d3:decide (256<s.notices.length)
 case true=>
  simp only [go_sem,h2.len,h3.len,Ug,e2,e3,d2,d3];exact .mk _ (.refl _) (.ai h1) ⟨by rw [hod,d2,d3]; rfl,rfl⟩
 simp only [go_sem,h2.len,h3.len,Ug,e2,e3,d2,d3];refine (hca _ (.ai h1)).pthen ?_;simp only [go_sem];exact .mk _ (.refl _) (.ai h1) ⟨by rw [hod,d2,d3]; rfl,rfl⟩
theorem Gr {h:Heap} {x:AV} {c:aK} (hb:RdC h x c) {k:Nat} {o:OpD} (hk:h k=some (.obj (opC o) 44)):ak Tryz.prog 185 [x, .ptr k 0] h fun r h' =>r= .v (.bool (c.id==o.case))∧h' =h:=by
 obtain ⟨f,l,rfl,hf,hl⟩:=hb;simp only [opC] at hk;refine ak.body hU hm Tryz.func185 rfl (by kernel_rfl) 9 rfl [.tmp 3] rfl (Uf rfl) (fun hwf=> ?_)
 simp only [go_sem];intro i1 h1;have n1:k≠i1:=fun e=>by subst e; rw [hk] at h1; cases h1
 simp only [go_sem,aj,n1,hk];exact .mk _ (.refl _) (.ai h1) ⟨rfl,rfl⟩
end Go.Proofs.YtmlhcdeamjkpjaaGreatDoor
namespace Go.Ab
open Go
theorem OwE.more {tb:TypeId} {g h0 h:Heap} {sz:Nat} {y:AV} {xs:List AV} (hw:OwE tb h0 h sz y xs) (hg:∀id,h0 id=Option.none→h id≠Option.none→g id=Option.none):OwE tb g h sz y xs:=by
 rcases hw with hw|⟨id,e,hw⟩
 ·exact .inl hw
 ·exact .inr ⟨id,hg _ e hw.none,hw⟩
end Go.Ab
namespace Go.Proofs.YtmlhcdeamjkpjaaGreatDoor
open Go Go.Ab Go.Bf
theorem eC.more {g h0 h:Heap} {ys:List AV} {x:AV} {c:aK} (hm:eC h0 h ys x c) (hg:∀id,h0 id=none→h id≠none→g id=none):eC g h ys x c:=by
 obtain ⟨f,l,e,a,b,c⟩:=hm;exact ⟨f,l,e,a.more hg,b.more hg,c⟩
theorem jW.more {g h0 h:Heap} {ys:List AV} {y:AV} {cs:List aK} {i0:Nat} (ho:jW h0 h ys y cs i0) (hg:∀id,h0 id=none→h id≠none→g id=none):jW g h ys y cs i0:=by
 obtain ⟨xs,a,b,c,d⟩:=ho;exact ⟨xs,a.more hg,b,c,fun h1 h2=>(d h1 h2).more hg⟩
theorem OwR.more {g h0 h:Heap} {y:AV} {rs:List gj} (hr:OwR h0 h y rs) (hg:∀id,h0 id=none→h id≠none→g id=none):OwR g h y rs:=by
 rcases hr with hr|hr
 ·exact .inl hr
 ·exact .inr (hr.more hg)
theorem gD.more {g h0 h:Heap} {y1 y2 y3 y4:AV} {s:an} {j:Nat} (ho:gD h0 h y1 y2 y3 y4 s j) (hg:∀id,h0 id=none→h id≠none→g id=none):gD g h y1 y2 y3 y4 s j:=
 {ho with cs:=ho.cs.more hg,rv:=ho.rv.more hg,nt:=ho.nt.more hg,rl:=ho.rl.more hg}
def GSt (g H:Heap) (k:Nat) (s:an) (j:Nat):Prop:=∃y1 y2 y3 y4,H k=some (.obj (stC s y1 y2 y3 y4) 36)∧gD g H y1 y2 y3 y4 s j∧g k≠none∧∀i b,i≠k→g i=some b→H i=some b
theorem GSt.box {g H:Heap} {k:Nat} {s:an} {j:Nat} (hG:GSt g H k s j) {i:Nat} (hi:H i=none) (b:Blk):GSt (upd g i (some b)) (upd H i (some b)) k s j:=by
 obtain ⟨y1,y2,y3,y4,hk,ho,hgk,hfr⟩:=hG;have nk:i≠k:=fun e=>by rw [e,hk] at hi; cases hi
 refine ⟨y1,y2,y3,y4,by rw [ag _ _ nk.symm]; exact hk,(ho.more (g:=upd g i (some b)) fun id h0 hne=> ?_).keep fun id _ hne=>ag _ _ fun e=>hne (by rw [e]; exact hi),by rw [ag _ _ nk.symm]; exact hgk,fun q c hq hc=> ?_⟩
 ·rw [ag _ _ fun e=>hne (by rw [e]; exact hi)]; exact h0
 ·by_cases e:q=i
  ·subst e; rw [ah] at hc⊢; exact hc
  ·rw [ag _ _ e] at hc⊢; exact hfr q c hq hc
theorem GSt.unbox {g H:Heap} {k:Nat} {s:an} {j:Nat} {i:Nat} {b:Blk} (hG:GSt (upd g i (some b)) H k s j) (hi:i≠k) (hgi:g i=none):GSt g H k s j∧H i=some b:=by
 obtain ⟨y1,y2,y3,y4,hk,ho,hgk,hfr⟩:=hG;refine ⟨⟨y1,y2,y3,y4,hk,ho.bC fun q hq=> ?_,by rw [ag _ _ hi.symm] at hgk; exact hgk,fun q c hq hc=>hfr q c hq ?_⟩,hfr i b hi (ah ..)⟩
 ·by_cases e:q=i
  ·rw [e]; exact hgi
  ·rw [ag _ _ e] at hq; exact hq
 ·rw [ag _ _ fun e=>by rw [e,hgi] at hc; cases hc]; exact hc
theorem GSt.base {g H:Heap} {k:Nat} {s:an} {j:Nat} (hG:GSt g H k s j):∃G,Ab.Sub G H∧(∀i,G i=none↔g i=none)∧∀i,i≠k→G i=g i:=by
 obtain ⟨y1,y2,y3,y4,hk,ho,hgk,hfr⟩:=hG;refine ⟨upd g k (H k),fun i b hi=> ?_,fun i=> ?_,fun i hi=>ag _ _ hi⟩
 ·by_cases e:i=k
  ·subst e; rw [ah] at hi; exact hi
  ·rw [ag _ _ e] at hi; exact hfr i b e hi
 ·by_cases e:i=k
  ·subst e; rw [ah,hk]; simp [hgk]
  ·rw [ag _ _ e]
theorem GSt.rd {g H:Heap} {k:Nat} {s:an} {j:Nat} (hG:GSt g H k s j):∃y1 y2 y3 y4,H k=some (.obj (stC s y1 y2 y3 y4) 36)∧RdS H (.agg (stC s y1 y2 y3 y4)) s:=by
 obtain ⟨y1,y2,y3,y4,hk,ho,_⟩:=hG;exact ⟨y1,y2,y3,y4,hk,ho.rd⟩
set_option maxRecDepth 100000 in
theorem Ar {g H:Heap} {k:Nat} {s:an} {j:Nat} (hG:GSt g H k s j) (o:OpD) (w:Txt) (hk64:i64 o.kind) (hn:s.reviews.length≤1000000000):
  ak Tryz.prog 91 [.ptr k 0,opA o, .s w] H fun r H' =>GSt g H' k (cS s o w) j:=by
 obtain ⟨G,sG,nG,oG⟩:=hG.base;obtain ⟨y1,y2,y3,y4,hk,ho,hgk,hfr⟩:=hG;have ho2:gD G H y1 y2 y3 y4 s j:=ho.bC fun i hi=>(nG i).2 hi
 have w1:IntKind.i64.wrap ((s.reviews.length:Int)+1)=(s.reviews.length:Int)+1:=bz _ (by omega)
 obtain ⟨pid,pset,palg,ptgt,prules,pkids,pobls,hpp⟩:∃a b c d e f g,s.policy= .mk a b c d e f g:=by cases s.policy; exact ⟨_,_,_,_,_,_,_,rfl⟩
 have hst:∀z,stC (cS s o w) y1 z y3 y4= [.v (.int .i64 s.tick),y1,z,y3,y4, .s pid, .v (.bool pset), .v (.int .i64 palg),aR ptgt, .sl (prules.map aA) .no, .sl (pkids.map aJ) .no,ax pobls, .v (.int .i64 s.version)]:=fun z=>by simp [stC,cS,hpp,fl,aW]
 have hst0:stC s y1 y2 y3 y4= [.v (.int .i64 s.tick),y1,y2,y3,y4, .s pid, .v (.bool pset), .v (.int .i64 palg),aR ptgt, .sl (prules.map aA) .no, .sl (pkids.map aJ) .no,ax pobls, .v (.int .i64 s.version)]:=by simp [stC,hpp,fl,aW]
 rw [hst0] at hk;refine ak.body hU hm Tryz.func91 rfl (by kernel_rfl) 34 rfl [] rfl (Uf rfl) (fun hwf=> ?_)
 simp only [go_sem,opA,opC];intro i4 h4;have n4k:i4≠k:=fun e=>by rw [e,hk] at h4; cases h4
 simp only [go_sem];obtain ⟨K,eK⟩:∃K,upd H i4 (some (.obj [.v (.int .i64 o.kind), .s o.subj, .s o.case, .s o.field, .s o.to, .v (.int .i64 o.val.kind), .v (.int .i64 o.val.n), .s o.val.s, .v (.int .i64 o.review), .s o.text, .s o.reason, .v (.bool o.glass)] 44))=K:=⟨_,rfl⟩;have sK:Ab.Sub H K:=by rw [←eK]; exact .ai h4
 have k4:K i4=some (.obj [.v (.int .i64 o.kind), .s o.subj, .s o.case, .s o.field, .s o.to, .v (.int .i64 o.val.kind), .v (.int .i64 o.val.n), .s o.val.s, .v (.int .i64 o.review), .s o.text, .s o.reason, .v (.bool o.glass)] 44):=by rw [←eK,ah]
 have kk:=sK _ _ hk;have hoK:gD G K y1 y2 y3 y4 s j:=ho2.keep fun id _ hne=>by rw [←eK]; exact ag _ _ fun e=>hne (by rw [e]; exact h4)
 rw [eK];have p4:=(bu (H:=K) (l:= [k,i4]) (show i4∈ [k,i4] by simp)).trans k4
 have pk:=(bu (H:=K) (l:= [k,i4]) (show k∈ [k,i4] by simp)).trans kk
 refine .stage (pick K [k,i4]) [0,1,2,3,4,5,6,7,8,9,10,11,12,13,14,15,16,17,18,19,20,22,21,23,24,25,26,27] [28] bJ (by kernel_rfl) ?_
 simp only [go_sem,pk,p4,hoK.rv.rd.len,Ug,w1];refine (wO o.kind hk64 _).pthen ?_;refine ⟨bJ, ?_⟩;simp only [go_sem];have hap1:Rd K 7 (.sl [fP (vC s o w)] .full) [fP (vC s o w)]:= .sl (by intro z hz; rw [List.mem_singleton.1 hz]; rfl) .full
 refine OwE.app (U:=U) (tb:=82) hoK.rv (sG.trans sK) hap1 (by simp only [go_sem]) (by decide) (by simp only [go_sem,ne_eq,not_false_eq_true]) (by simp only [go_sem]) (by simp) (by simp only [go_sem,List.length_cons,List.length_nil,Ug]; omega) fun id y' K2 hid hor how hoth=> ?_
 have hor' :K id=none∨nid y2=some id:=by
  rcases hor with hor|⟨l,c,ey⟩
  ·exact .inl hor
  ·exact .inr (by rw [ey]; rfl)
 have nik:k≠id:=fun e=>hgk ((nG k).1 (by rw [e]; exact hid))
 have ni4:i4≠id:=by
  rcases hor' with hor|hor
  ·exact fun e=>by rw [←e,k4] at hor; cases hor
  ·exact fun e=>(ho2.rv.nid hor).2.1 (by rw [←e]; exact h4)
 have m4:=(hoth i4 ni4).trans k4;have mk:=(hoth k nik).trans kk;refine ⟨gJ fun q hq=> ?_, ?_⟩
 ·simp only [List.mem_cons,List.not_mem_nil,or_false] at hq
  rcases hq with rfl|rfl
  ·rw [mk,kk]
  ·rw [m4,k4]
 simp only [go_sem];refine ⟨cW,fun _ _ e=>(by cases e), ?_⟩
 simp only [go_sem,mk,how.rd.fit,how.rd.cells];refine ⟨fun _ _ e=>(by cases e), ?_⟩
 refine .same (.refl _) ⟨y1,y',y3,y4,by rw [ah,hst],gD.bC (h0:=G) ?_ fun i hi=>(nG i).1 hi,hgk,fun i b hi hb=> ?_⟩
 ·refine hoK.revs (rs:=s.reviews++ [vC s o w]) (.inr ⟨id,hid,by rw [List.map_append]; exact how.same (ag _ _ nik.symm)⟩) (fun q hq=> ?_) fun q hq hne hz=> ?_
  ·have:id=q:=by have:=how.nid; rw [hq] at this; exact (Option.some.inj this).symm
   rw [←this]; exact hor'
  ·have n1:q≠k:=fun e=>hgk ((nG k).1 (by rw [←e]; exact hq))
   have n2:q≠id:=fun e=>by
    rcases hor' with h|h
    ·exact hne (by rw [e]; exact h)
    ·exact hz (by rw [e]; exact h)
   rw [ag _ _ n1,hoth q n2]
 ·have n2:i≠id:=fun e=>by
   have:=(nG id).1 hid;rw [←e,hb] at this; cases this
  rw [ag _ _ hi,hoth i n2];exact sK _ _ (hfr i b hi hb)
end Go.Proofs.YtmlhcdeamjkpjaaGreatDoor
namespace Go.Bf
open Go Go.Ab Go.Proofs.YtmlhcdeamjkpjaaGreatDoor
theorem Af {s:an} {o:OpD} {w:Txt} (h:¬(gr s.cases o.case<s.cases.length∧o.kind≠6)):gN s o w=s:=by unfold gN; rw [if_neg h]
theorem Gs {s:an} {o:OpD} {w:Txt} {j:Nat} (h1:gr s.cases o.case<s.cases.length) (h2:o.kind≠6) (e:gr s.cases o.case=j):gN s o w= {s with cases:=s.cases.modify j fun c=>hY s c o.subj w}:=by unfold gN; rw [if_pos ⟨h1,h2⟩,e]
end Go.Bf
namespace Go.Proofs.YtmlhcdeamjkpjaaGreatDoor
open Go Go.Ab Go.Bf
set_option maxRecDepth 100000 in
theorem Gt {g H:Heap} {k:Nat} {s:an} {j:Nat} (hG:GSt g H k s j) (o:OpD) (w:Txt) (hc:s.cases.length≤1000000) (hl:∀c∈s.cases,c.log.length≤1000000000) (hj:gr s.cases o.case<s.cases.length→o.kind≠6→j=gr s.cases o.case):
  ak Tryz.prog 137 [.ptr k 0,opA o, .s w] H fun r H' =>GSt g H' k (gN s o w) j:=by
 obtain ⟨G,sG,nG,oG⟩:=hG.base;obtain ⟨y1,y2,y3,y4,hk,ho,hgk,hfr⟩:=hG;have ho2:gD G H y1 y2 y3 y4 s j:=ho.bC fun i hi=>(nG i).2 hi
 obtain ⟨pid,pset,palg,ptgt,prules,pkids,pobls,hpp⟩:∃a b c d e f g,s.policy= .mk a b c d e f g:=by cases s.policy; exact ⟨_,_,_,_,_,_,_,rfl⟩
 have hst0:stC s y1 y2 y3 y4= [.v (.int .i64 s.tick),y1,y2,y3,y4, .s pid, .v (.bool pset), .v (.int .i64 palg),aR ptgt, .sl (prules.map aA) .no, .sl (pkids.map aJ) .no,ax pobls, .v (.int .i64 s.version)]:=by simp [stC,hpp,fl,aW]
 rw [hst0] at hk;refine ak.body hU hm Tryz.func137 rfl (by kernel_rfl) 44 rfl [] rfl (Uf rfl) (fun hwf=> ?_)
 simp only [go_sem,opA,opC];intro i4 h4;have n4k:i4≠k:=fun e=>by rw [e,hk] at h4; cases h4
 obtain ⟨K,eK⟩:∃K,upd H i4 (some (.obj [.v (.int .i64 o.kind), .s o.subj, .s o.case, .s o.field, .s o.to, .v (.int .i64 o.val.kind), .v (.int .i64 o.val.n), .s o.val.s, .v (.int .i64 o.review), .s o.text, .s o.reason, .v (.bool o.glass)] 44))=K:=⟨_,rfl⟩;have sK:Ab.Sub H K:=by rw [←eK]; exact .ai h4
 have k4:K i4=some (.obj [.v (.int .i64 o.kind), .s o.subj, .s o.case, .s o.field, .s o.to, .v (.int .i64 o.val.kind), .v (.int .i64 o.val.n), .s o.val.s, .v (.int .i64 o.review), .s o.text, .s o.reason, .v (.bool o.glass)] 44):=by rw [←eK,ah]
 have kk:=sK _ _ hk;have hoK:gD G K y1 y2 y3 y4 s j:=ho2.keep fun id _ hne=>by rw [←eK]; exact ag _ _ fun e=>hne (by rw [e]; exact h4)
 have hfin:GSt g K k s j:=⟨y1,y2,y3,y4,by rw [hst0]; exact kk,hoK.bC fun i hi=>(nG i).1 hi,hgk,fun i b hi hb=>sK _ _ (hfr i b hi hb)⟩
 have hix:ak Tryz.prog 117 [y1, .fn 185 [.ptr i4 0]] K fun r h' =>r= .v (.int .i64 (ixD (fun c:aK=>c.id==o.case) s.cases))∧h' =K:=by
  obtain ⟨xs,hx,hn,hcs⟩:=hoK.cs.rd;exact rD y1 xs s.cases (fun c=>c.id==o.case) _ [.ptr i4 0] K hx hn (by omega) (vV.agg hn hcs) fun i a b=>Gr (hcs i a b) k4
 have hcsK:=hoK.cs;have n4G:∀id,G id=none→K id≠none→id≠i4→H id=K id:=fun id _ _ h=>by rw [←eK,ag _ _ h]
 simp only [go_sem,aj,n4k.symm,hk];rw [eK];refine hix.pthen ?_
 by_cases hx:gr s.cases o.case<s.cases.length
 case neg=>
  have e1:ixD (fun c:aK=>c.id==o.case) s.cases= -1:=if_neg hx
  have d1:decide ((-1:Int)<0)=true:=rfl;rw [e1];simp only [go_sem,d1];exact .same (.refl _) (by rw [Af fun h=>hx h.1]; exact hfin)
 have e1:ixD (fun c:aK=>c.id==o.case) s.cases=(gr s.cases o.case:Nat):=if_pos hx
 have d1:decide (((gr s.cases o.case:Nat):Int)<0)=false:=decide_eq_false (by omega)
 rw [e1];cases d6:(o.kind==6)
 case true=>
  have h6:o.kind=6:=by simpa using d6
  simp only [go_sem,d1,k4,d6];exact .same (.refl _) (by rw [Af fun h=>h.2 h6]; exact hfin)
 have h6:o.kind≠6:=by simpa using d6
 have hjj:=hj hx h6;have hlo:=Gs (w:=w) hx h6 hjj.symm;have hjc:j<s.cases.length:=by rw [hjj]; exact hx
 rw [←hjj] at d1⊢;rw [hlo];obtain ⟨xs,w1,hnx,hlw,hmy⟩:=hcsK;have hjx:j<xs.length:=by omega
 obtain ⟨f,l,ex,of,ol,hap,hys⟩:=hmy hjx hjc;obtain ⟨id1,hg1,o1⟩:=w1.ow (by intro e; rw [e] at hjx; cases hjx)
 have o1' :=o1;obtain ⟨cap,rest,ey,hid,hrl,hcap,hsz⟩:=o1';have lA:j*5=(aq (xs.take j)).length:=by rw [aU fun z hz=>hsz z (List.mem_of_mem_take hz),List.length_take]; omega
 have hidK:K id1=some (.obj (aq (xs.take j)++(bT s.cases[j] f l++(aq (xs.drop (j+1))++rest))) 57):=by
  rw [hid,yw hjx,ex];simp [bT,AV.cells]
 have n1k:id1≠k:=jV o1 kk (by decide)
 have n14:id1≠i4:=jV o1 k4 (by decide)
 have hll:=hl _ (Ul hjc);have p4:=(bu (H:=K) (l:= [k,i4,id1]) (show i4∈ [k,i4,id1] by simp)).trans k4
 have pk:=(bu (H:=K) (l:= [k,i4,id1]) (show k∈ [k,i4,id1] by simp)).trans kk
 have p1:=(bu (H:=K) (l:= [k,i4,id1]) (show id1∈ [k,i4,id1] by simp)).trans hidK
 have hc4:(aq (xs.take j)++(bT s.cases[j] f l++(aq (xs.drop (j+1))++rest)))[j*5+4]? =some l:=by rw [lA,List.getElem?_append_right (by omega),Nat.add_sub_cancel_left]; rfl
 obtain ⟨CS,eCS⟩:∃CS,aq (xs.take j)++(bT s.cases[j] f l++(aq (xs.drop (j+1))++rest))=CS:=⟨_,rfl⟩;rw [eCS] at hc4 p1 hidK;simp only [go_sem,d1,k4,d6,kk];refine o1.idx (U:=U) (e:=57) j rfl hjx lp (by decide) ?_
 simp only [go_sem];refine .stage (pick K [k,i4,id1]) [0,1,2,3,4,5,6,7,8,9,10,11,12,13,14,15,16] [17] bJ (by kernel_rfl) ?_
 simp only [go_sem,pk,p4,p1,hc4];have hap1:Rd K 3 (.sl [gG ⟨s.tick,o.subj,w⟩] .full) [gG ⟨s.tick,o.subj,w⟩]:= .sl (by intro z hz; rw [List.mem_singleton.1 hz]; rfl) .full
 refine OwE.app (U:=U) (tb:=96) ol (sG.trans sK) hap1 (by simp only [go_sem]) (by decide) (by simp only [go_sem,ne_eq,not_false_eq_true]) (by simp only [go_sem]) (by simp) (by simp only [go_sem,List.length_cons,List.length_nil,Ug]; omega) fun id2 y' K2 g2 hor how hoth=> ?_
 have hor' :K id2=none∨nid l=some id2:=by
  rcases hor with hor|⟨l,c,ey⟩
  ·exact .inl hor
  ·exact .inr (by rw [ey]; rfl)
 have n2:∀ {q b t},K q=some (.obj b t)→t≠96→q≠id2:=fun {q b t} hq ht e=>by
  rcases hor' with h|h
  ·rw [e,h] at hq; cases hq
  ·exact jV (ol.nid h).2.2 hq ht e.symm
 have m4:=(hoth i4 (n2 k4 (by decide))).trans k4
 have mk:=(hoth k (n2 kk (by decide))).trans kk
 have m1:=(hoth id1 (n2 hidK (by decide))).trans hidK
 refine ⟨gJ fun q hq=> ?_, ?_⟩
 ·simp only [List.mem_cons,List.not_mem_nil,or_false] at hq
  rcases hq with rfl|rfl|rfl
  ·rw [mk,kk]
  ·rw [m4,k4]
  ·rw [m1,hidK]
 simp only [go_sem];refine ⟨cW,fun _ _ e=>(by cases e), ?_⟩
 simp only [go_sem,m1,how.rd.fit,how.rd.cells];have e5:List.take (j*5+4) CS++ [y']++List.drop (j*5+4+1) CS=aq (xs.take j)++(bT s.cases[j] f y' ++(aq (xs.drop (j+1))++rest)):=by
  have:=mc (A:=aq (xs.take j)++ [.s s.cases[j].id, .s s.cases[j].owner, .s s.cases[j].state,f]) (B:= [l]) (C:=aq (xs.drop (j+1))++rest) (X:= [y']) (k:=j*5+4) (m:=1) (by rw [lA]; simp) rfl rfl
  simp only [←eCS,bT,List.append_assoc,List.cons_append,List.nil_append] at this⊢;exact this
 rw [e5];refine ⟨by rw [←eCS]; simp only [Uk,←lA,bT,List.length_cons,List.length_nil]; omega,(fun _ _ e=>by cases e), ?_⟩
 obtain ⟨F,eF⟩:∃F,upd K2 id1 (some (.obj (aq (xs.take j)++(bT s.cases[j] f y' ++(aq (xs.drop (j+1))++rest))) 57))=F:=⟨_,rfl⟩;have kF:∀q,q≠id1→q≠id2→F q=K q:=fun q a b=>by rw [←eF,ag _ _ a,hoth q b]
 have kF' :∀q,K q≠none→q≠id1→nid l≠some q→F q=K q:=fun q a b c=>kF q b fun e=>by
  rcases hor' with h|h
  ·exact a (by rw [e]; exact h)
  ·exact c (by rw [e]; exact h)
 have hF1:F id1=some (.obj (aq (xs.take j)++(bT s.cases[j] f y' ++(aq (xs.drop (j+1))++rest))) 57):=by rw [←eF,ah]
 have n12:id1≠id2:=n2 hidK (by decide)
 have hX5:Sized 5 (xs.set j (.agg (bT s.cases[j] f y'))):=fun z hz=>by
  rcases List.mem_or_eq_of_mem_set hz with hz|rfl
  ·exact hsz z hz
  ·rfl
 have hOw:Ow 57 F 5 id1 y1 (xs.set j (.agg (bT s.cases[j] f y'))):=⟨cap,rest,by rw [List.length_set]; exact ey,by rw [hF1,qn hjx]; simp [AV.cells],by rw [List.length_set]; exact hrl,by rw [List.length_set]; exact hcap,hX5⟩
 have hl' :OwE 96 G F 3 y' ((s.cases[j].log++ [(⟨s.tick,o.subj,w⟩:tW)]).map gG):=by
  rw [List.map_append];exact .inr ⟨id2,g2,how.same (by rw [←eF,ag _ _ n12.symm])⟩
 have hny:∀q,nid y' =some q→q=id2:=fun q hq=>by have:=how.nid; rw [hq] at this; exact Option.some.inj this
 have nf1:nid f≠some id1:=fun e=>(hys y1 (by simp)).1 id1 e o1.nid
 have hof:OwE 131 G F 4 f (s.cases[j].fields.map bE):=of.keep fun q e=>kF' q (of.nid e).2.1 (fun e' =>nf1 (by rw [←e']; exact e)) (hap q e)
 have hnid:∀ {y:AV},y∈ [y1,y2,y3,y4]→∀q,nid y=some q→K q≠none:=fun hy q e=>(hoK.mem hy e).2
 have hap2:∀ {y:AV},y∈ [y1,y2,y3,y4]→apart y' y:=fun {y} hy q e1 e2=>by
  have:=hny q e1;subst this;rcases hor' with h|h
  ·exact hnid hy _ e2 h
  ·exact (hys y hy).2 _ h e2
 have hkp:∀ {y:AV},y∈ [y2,y3,y4]→apart y1 y→∀q,nid y=some q→F q=K q:=fun {y} hy ha q e=>by
  have hy' :y∈ [y1,y2,y3,y4]:=List.mem_cons_of_mem _ hy;refine kF' q (hnid hy' q e) (fun e' =>ha id1 o1.nid (by rw [←e']; exact e)) fun e' =>(hys y hy').2 q e' e
 rw [eF];refine .same (.refl _) ⟨y1,y2,y3,y4, ?_,gD.bC (h0:=G) ?_ fun i hi=>(nG i).1 hi,hgk,fun i b hi hb=> ?_⟩
 ·rw [kF k n1k.symm (n2 kk (by decide)),kk]
  simp [stC,hpp,fl,aW]
 ·refine ⟨yK (X:= .agg (bT s.cases[j] f y')) (.inr ⟨id1,hg1,hOw⟩) hnx (fun q h1 h2 hq=>hlw q h1 h2 hq) fun hh=>⟨f,y',rfl,hof,hl',fun q e1 e2=> ?_,fun y hy=>⟨(hys y hy).1,hap2 hy⟩⟩,hoK.rv.keep (hkp (by simp) hoK.a12),hoK.nt.keep (hkp (by simp) hoK.a13),hoK.rl.keep (hkp (by simp) hoK.a14),hoK.a12,hoK.a13,hoK.a14,hoK.a23,hoK.a24,hoK.a34⟩
  have:=hny q e2;subst this;rcases hor' with h|h
  ·exact (of.nid e1).2.1 h
  ·exact hap _ e1 h
 ·have hGi:G i=some b:=by rw [oG i hi]; exact hb
  rw [kF i (fun e=>by rw [e,hg1] at hGi; cases hGi) (fun e=>by rw [e,g2] at hGi; cases hGi)]
  exact sK _ _ (hfr i b hi hb)
end Go.Proofs.YtmlhcdeamjkpjaaGreatDoor
namespace Go.Bf
open Go Go.Ab Go.Proofs.YtmlhcdeamjkpjaaGreatDoor
def oS (B:Nat) (s:an):Prop:=(∀c∈s.cases,c.log.length≤B)∧s.reviews.length≤B∧s.notices.length≤B
theorem oS.up {B C:Nat} {s:an} (h:oS B s) (hc:B≤C):oS C s:=⟨fun c hcc=>Nat.le_trans (h.1 c hcc) hc,Nat.le_trans h.2.1 hc,Nat.le_trans h.2.2 hc⟩
theorem Ea {B:Nat} {s:an} (o:OpD) (done:Bool) (x:cr) (h:oS B s):oS (B+1) (eR o done s x):=by
 unfold eR;split
 ·unfold gN
  split
  ·refine ⟨fun c hc=> ?_,Nat.le_succ_of_le h.2.1,Nat.le_succ_of_le h.2.2⟩
   rcases mem_modify hc with hc|⟨hi,rfl⟩
   ·exact Nat.le_succ_of_le (h.1 c hc)
   ·have:=h.1 _ (Ul hi)
    simp only [hY,Uk,List.length_singleton];omega
  ·exact h.up (by omega)
 ·split
  ·refine ⟨fun c hc=>Nat.le_succ_of_le (h.1 c hc), ?_,Nat.le_succ_of_le h.2.2⟩
   have:=h.2.1;simp only [cS,Uk,List.length_singleton];omega
  ·split
   ·refine ⟨fun c hc=>Nat.le_succ_of_le (h.1 c hc),Nat.le_succ_of_le h.2.1, ?_⟩
    have:=h.2.2;simp only [Uk,List.length_singleton];omega
   ·exact h.up (by omega)
theorem sF (o:OpD) (done:Bool):∀(l:List cr) {B:Nat} {s:an},oS B s→oS (B+l.length) (cO s o l done)
 | [],B,s,h=>h
 |x::l,B,s,h=>(sF o done l (Ea o done x h)).up (by rw [List.length_cons]; omega)
theorem zy (s:an) (o:OpD) (done:Bool) {l:List cr} {i:Nat} (h:i<l.length):cO s o (l.take (i+1)) done=eR o done (cO s o (l.take i) done) l[i]:=by
 unfold cO;rw [List.take_succ_eq_append_getElem h,List.foldl_append];rfl
theorem sM (o:OpD) (done:Bool) (id:Txt):∀(l:List cr) (s:an),gr (cO s o l done).cases id=gr s.cases id∧(cO s o l done).cases.length=s.cases.length
 | [],s=>⟨rfl,rfl⟩
 |x::l,s=>by
  obtain ⟨a1,a2⟩:=Em o done s x id;obtain ⟨b1,b2⟩:=sM o done id l (eR o done s x);exact ⟨b1.trans a1,b2.trans a2⟩
theorem DR {o:OpD} {s:an} {x:cr} (h:x.kind=1):eR o true s x=gN s o x.arg:=by unfold eR; rw [if_pos ⟨h,rfl⟩]
theorem BC {o:OpD} {done:Bool} {s:an} {x:cr} (h:x.kind=3):eR o done s x=cS s o x.arg:=by unfold eR; rw [if_neg (by rw [h]; simp),if_pos h]
theorem BD {o:OpD} {done:Bool} {s:an} {x:cr} (h:x.kind=4):eR o done s x= {s with notices:=s.notices++ [⟨s.tick,o.case,x.arg⟩]}:=by unfold eR; rw [if_neg (by rw [h]; simp),if_neg (by rw [h]; decide),if_pos h]
theorem zz {o:OpD} {done:Bool} {s:an} {x:cr} (h1:¬(x.kind=1∧done=true)) (h3:x.kind≠3) (h4:x.kind≠4):eR o done s x=s:=by unfold eR; rw [if_neg h1,if_neg h3,if_neg h4]
end Go.Bf
namespace Go.Proofs.YtmlhcdeamjkpjaaGreatDoor
open Go Go.Ab Go.Bf
set_option maxRecDepth 100000 in
theorem BA {g H:Heap} {k:Nat} {s:an} {j:Nat} (hG:GSt g H k s j) (o:OpD) (hk64:i64 o.kind) (l:List cr) (hll:l.length≤100000000) (done:Bool) (hc:s.cases.length≤1000000) (hgr:oS 1000 s) (hj:done=true→gr s.cases o.case<s.cases.length→o.kind≠6→j=gr s.cases o.case):
  ak Tryz.prog 93 [.ptr k 0,opA o,ax l, .v (.bool done)] H fun r H' =>GSt g H' k (cO s o l done) j:=by
 have hkn:H k≠none:=by obtain ⟨y1,y2,y3,y4,hk,_⟩:=hG; rw [hk]; simp
 refine ak.body hU hm Tryz.func93 rfl (by kernel_rfl) 60 rfl [] rfl (Uf rfl) (fun hwf=> ?_)
 simp only [go_sem,opA,opC,ax];intro i5 h5;have n5k:i5≠k:=fun e=>hkn (by rw [←e]; exact h5)
 have hg5:g i5=none:=by
  obtain ⟨y1,y2,y3,y4,hk,ho,hgk,hfr⟩:=hG;cases hh:g i5 with
  |none=>rfl
  |some b=>have:=hfr i5 b n5k hh; rw [h5] at this; cases this
 have hG5:=hG.box h5 (.obj [.v (.int .i64 o.kind), .s o.subj, .s o.case, .s o.field, .s o.to, .v (.int .i64 o.val.kind), .v (.int .i64 o.val.n), .s o.val.s, .v (.int .i64 o.review), .s o.text, .s o.reason, .v (.bool o.glass)] 44);obtain ⟨g5,eg5⟩:∃g5,upd g i5 (some (.obj [.v (.int .i64 o.kind), .s o.subj, .s o.case, .s o.field, .s o.to, .v (.int .i64 o.val.kind), .v (.int .i64 o.val.n), .s o.val.s, .v (.int .i64 o.review), .s o.text, .s o.reason, .v (.bool o.glass)] 44))=g5:=⟨_,rfl⟩;have g55:g5 i5=some (.obj [.v (.int .i64 o.kind), .s o.subj, .s o.case, .s o.field, .s o.to, .v (.int .i64 o.val.kind), .v (.int .i64 o.val.n), .s o.val.s, .v (.int .i64 o.review), .s o.text, .s o.reason, .v (.bool o.glass)] 44):=by rw [←eg5,ah]
 rw [eg5] at hG5;have hback:∀ {H' :Heap} {s' :an},GSt g5 H' k s' j→GSt g H' k s' j:=fun {H' s'} h=>by
  rw [←eg5] at h;exact (h.unbox n5k hg5).1
 have hgk5:g5 k≠none:=by obtain ⟨_,_,_,_,_,_,h,_⟩:=hG5; exact h
 simp only [go_sem,Ug];refine .intro (fun m ρ H2=>∃i:Nat,GSt g5 H2 k (cO s o (l.take i) done) j∧i≤l.length∧m=l.length - i∧lk ρ 0=some (.ptr k 0)∧lk ρ 3=some (.v (.bool done))∧lk ρ 5=some (.ptr i5 0)∧lk ρ 10=some (.sl (l.map bk) .no)∧lk ρ 11=some (.v (.int .i64 l.length))∧lk ρ 12=some (.v (.int .i64 i))) l.length ?_ ?_
 ·refine ⟨0,hG5,by omega,rfl, ?_, ?_, ?_, ?_, ?_, ?_⟩<;>simp only [go_sem]
 ·rintro m ρ H2 ⟨i,hS,hi,rfl,r0,r3,r5,r10,r11,r12⟩
  simp only [go_sem,r11,r12];refine .intro (fun e=> ?_) (fun e=> ?_)
  ·have hlt:i<l.length:=Un e
   have w1:=Um i (by omega)
   have hsn:=zy s o done hlt;have hgi:=sF o done (l.take i) hgr;have hgi:oS 1000000000 (cO s o (l.take i) done):=hgi.up (by rw [List.length_take]; omega)
   obtain ⟨hix,hcl⟩:=sM o done o.case (l.take i) s;have ix:=fun k=>fu.eq (xs:=l.map bk) (sz:=3) i (by simpa using hlt) (by rw [Uh]; rfl) k
   rw [Uh] at ix;obtain ⟨x,ex⟩:∃x,l[i]=x:=⟨_,rfl⟩;rw [ex] at ix hsn;obtain ⟨t,et⟩:∃t,cO s o (l.take i) done=t:=⟨_,rfl⟩;rw [et] at hS hsn hgi hix hcl;have hjt:done=true→gr t.cases o.case<t.cases.length→o.kind≠6→j=gr t.cases o.case:=fun a b c=>by rw [hix] at b⊢; rw [hcl] at b; exact hj a b c
   simp only [bk] at ix;simp only [go_sem,r10,r12,ix];intro i9 h9;have kkn:H2 k≠none:=by obtain ⟨y1,y2,y3,y4,hk,_⟩:=hS; rw [hk]; simp
   have n9k:i9≠k:=fun e=>kkn (by rw [←e]; exact h9)
   have hg9:g5 i9=none:=by
    obtain ⟨y1,y2,y3,y4,hk,ho,hgk,hfr⟩:=hS;cases hh:g5 i9 with
    |none=>rfl
    |some b=>have:=hfr i9 b n9k hh; rw [h9] at this; cases this
   have n95:i9≠i5:=fun e=>by rw [e,g55] at hg9; cases hg9
   have k5:H2 i5=some (.obj [.v (.int .i64 o.kind), .s o.subj, .s o.case, .s o.field, .s o.to, .v (.int .i64 o.val.kind), .v (.int .i64 o.val.n), .s o.val.s, .v (.int .i64 o.review), .s o.text, .s o.reason, .v (.bool o.glass)] 44):=by obtain ⟨_,_,_,_,_,_,_,hfr⟩:=hS; exact hfr i5 _ n5k g55
   have hS9:=hS.box h9 (.obj [.v (.int .i64 x.on), .v (.int .i64 x.kind), .s x.arg] 90);have hb9:∀ {H' :Heap} {s' :an},GSt (upd g5 i9 (some (.obj [.v (.int .i64 x.on), .v (.int .i64 x.kind), .s x.arg] 90))) H' k s' j→GSt g5 H' k s' j:=fun {H' s'} h=>(h.unbox n9k hg9).1
   have hlog:=fun (hd:done=true)=>Gt hS9 o x.arg (by rw [hcl]; exact hc) hgi.1 (hjt hd)
   have hopen:=Ar hS9 o x.arg hk64 hgi.2.1;simp only [opA,opC] at hlog hopen;cases a1:(x.kind==1)
   case true=>
    have e1:x.kind=1:=by simpa using a1
    have a3:(x.kind==3)=false:=by rw [e1]; rfl
    have a4:(x.kind==4)=false:=by rw [e1]; rfl
    cases done
    ·simp only [go_sem,r3,r12,a1,a3,a4,w1]
     refine ⟨_, ?_,i+1,by rw [hsn,zz (fun h=>by cases h.2) (by rw [e1]; decide) (by rw [e1]; decide)]; exact hb9 hS9,by omega,rfl, ?_, ?_, ?_, ?_, ?_, ?_⟩
     ·omega
     all_goals simp only [go_sem,r0,r3,r5,r10,r11]
    ·simp only [go_sem,r0,r3,r5,a1,aj,n95.symm,k5]
     refine (hlog rfl).mono fun r H3 h3=> ?_
     simp only [go_sem,r12,w1];refine ⟨_, ?_,i+1,by rw [hsn,DR e1]; exact hb9 h3,by omega,rfl, ?_, ?_, ?_, ?_, ?_, ?_⟩
     ·omega
     all_goals simp only [go_sem,r0,r3,r5,r10,r11]
   have e1:¬(x.kind=1∧done=true):=fun h=>by rw [h.1] at a1; cases a1
   cases a3:(x.kind==3)
   case true=>
    have e3:x.kind=3:=by simpa using a3
    simp only [go_sem,r0,r5,a1,a3,aj,n95.symm,k5];refine hopen.mono fun r H3 h3=> ?_
    simp only [go_sem,r12,w1];refine ⟨_, ?_,i+1,by rw [hsn,BC e3]; exact hb9 h3,by omega,rfl, ?_, ?_, ?_, ?_, ?_, ?_⟩
    ·omega
    all_goals simp only [go_sem,r0,r3,r5,r10,r11]
   have e3:x.kind≠3:=by simpa using a3
   cases a4:(x.kind==4)
   case false=>
    have e4:x.kind≠4:=by simpa using a4
    simp only [go_sem,r12,a1,a3,a4,w1];refine ⟨_, ?_,i+1,by rw [hsn,zz e1 e3 e4]; exact hb9 hS9,by omega,rfl, ?_, ?_, ?_, ?_, ?_, ?_⟩
    ·omega
    all_goals simp only [go_sem,r0,r3,r5,r10,r11]
   have e4:x.kind=4:=by simpa using a4
   rw [BD e4] at hsn;obtain ⟨G,sG,nG,oG⟩:=hS9.base;obtain ⟨y1,y2,y3,y4,kk,ho,hgk,hfr⟩:=hS9;obtain ⟨K,eK⟩:∃K,upd H2 i9 (some (.obj [.v (.int .i64 x.on), .v (.int .i64 x.kind), .s x.arg] 90))=K:=⟨_,rfl⟩;have k9:K i9=some (.obj [.v (.int .i64 x.on), .v (.int .i64 x.kind), .s x.arg] 90):=by rw [←eK,ah]
   have k5' :K i5=some (.obj [.v (.int .i64 o.kind), .s o.subj, .s o.case, .s o.field, .s o.to, .v (.int .i64 o.val.kind), .v (.int .i64 o.val.n), .s o.val.s, .v (.int .i64 o.review), .s o.text, .s o.reason, .v (.bool o.glass)] 44):=by rw [←eK,ag _ _ n95.symm]; exact k5
   rw [eK] at sG kk ho hfr;have hoK:gD G K y1 y2 y3 y4 t j:=ho.bC fun i hi=>(nG i).2 hi
   obtain ⟨pid,pset,palg,ptgt,prules,pkids,pobls,hpp⟩:∃a b c d e f g,t.policy= .mk a b c d e f g:=by cases t.policy; exact ⟨_,_,_,_,_,_,_,rfl⟩
   have hst:∀z (n:List Dz),stC {t with notices:=n} y1 y2 z y4= [.v (.int .i64 t.tick),y1,y2,z,y4, .s pid, .v (.bool pset), .v (.int .i64 palg),aR ptgt, .sl (prules.map aA) .no, .sl (pkids.map aJ) .no,ax pobls, .v (.int .i64 t.version)]:=fun z n=>by simp [stC,hpp,fl,aW]
   have hst0:stC t y1 y2 y3 y4= [.v (.int .i64 t.tick),y1,y2,y3,y4, .s pid, .v (.bool pset), .v (.int .i64 palg),aR ptgt, .sl (prules.map aA) .no, .sl (pkids.map aJ) .no,ax pobls, .v (.int .i64 t.version)]:=by simp [stC,hpp,fl,aW]
   rw [hst0] at kk;have p9:=(bu (H:=K) (l:= [k,i5,i9]) (show i9∈ [k,i5,i9] by simp)).trans k9
   have p5:=(bu (H:=K) (l:= [k,i5,i9]) (show i5∈ [k,i5,i9] by simp)).trans k5'
   have pk:=(bu (H:=K) (l:= [k,i5,i9]) (show k∈ [k,i5,i9] by simp)).trans kk
   simp only [go_sem,a1,a3,a4];rw [eK];refine .stage (pick K [k,i5,i9]) [0,1,2,3,4,5,6,7,8,9,10,11,12,13,14,15,16,17] [18] bJ (by kernel_rfl) ?_
   simp only [go_sem,r0,r5,pk,p5,p9];have hap1:Rd K 3 (.sl [kM ⟨t.tick,o.case,x.arg⟩] .full) [kM ⟨t.tick,o.case,x.arg⟩]:= .sl (by intro z hz; rw [List.mem_singleton.1 hz]; rfl) .full
   have hnl:=hgi.2.2;refine OwE.app (U:=U) (tb:=98) hoK.nt sG hap1 (by simp only [go_sem]) (by decide) (by simp only [go_sem,ne_eq,not_false_eq_true]) (by simp only [go_sem]) (by simp) (by simp only [go_sem,List.length_cons,List.length_nil,Ug]; omega) fun id y' K2 hid hor how hoth=> ?_
   have hor' :K id=none∨nid y3=some id:=by
    rcases hor with hor|⟨l,c,ey⟩
    ·exact .inl hor
    ·exact .inr (by rw [ey]; rfl)
   have n2:∀ {q b t},K q=some (.obj b t)→t≠98→q≠id:=fun {q b t} hq ht e=>by
    rcases hor' with h|h
    ·rw [e,h] at hq; cases hq
    ·exact jV (hoK.nt.nid h).2.2 hq ht e.symm
   have m9:=(hoth i9 (n2 k9 (by decide))).trans k9
   have m5:=(hoth i5 (n2 k5' (by decide))).trans k5'
   have nik:=n2 kk (by decide)
   have mk:=(hoth k nik).trans kk;refine ⟨gJ fun q hq=> ?_, ?_⟩
   ·simp only [List.mem_cons,List.not_mem_nil,or_false] at hq
    rcases hq with rfl|rfl|rfl
    ·rw [mk,kk]
    ·rw [m5,k5']
    ·rw [m9,k9]
   simp only [go_sem];refine ⟨cW,fun _ _ e=>(by cases e), ?_⟩
   simp only [go_sem,r12,mk,how.rd.fit,how.rd.cells];refine ⟨fun _ _ e=>(by cases e), ?_⟩
   simp only [go_sem,w1];obtain ⟨F,eF⟩:∃F,upd K2 k (some (.obj [.v (.int .i64 t.tick),y1,y2,y',y4, .s pid, .v (.bool pset), .v (.int .i64 palg),aR ptgt, .sl (prules.map aA) .no, .sl (pkids.map aJ) .no,ax pobls, .v (.int .i64 t.version)] 36))=F:=⟨_,rfl⟩;have Fk:F k=(some (.obj [.v (.int .i64 t.tick),y1,y2,y',y4, .s pid, .v (.bool pset), .v (.int .i64 palg),aR ptgt, .sl (prules.map aA) .no, .sl (pkids.map aJ) .no,ax pobls, .v (.int .i64 t.version)] 36)):=by rw [←eF,ah]
   have Fo:∀q,q≠k→F q=K2 q:=fun q hq=>by rw [←eF,ag _ _ hq]
   have hoz:OwE 98 G F 3 y' ((t.notices++ [(⟨t.tick,o.case,x.arg⟩:Dz)]).map kM):=by
    rw [List.map_append];exact .inr ⟨id,hid,how.same (Fo id nik.symm)⟩
   have hop:gD G F y1 y2 y' y4 {t with notices:=t.notices++ [⟨t.tick,o.case,x.arg⟩]} j:=by
    refine gD.nots (h:=K) (h' :=F) hoK hoz (fun q hq=> ?_) fun q hq hne hz=> ?_
    ·have:id=q:=by have:=how.nid; rw [hq] at this; exact (Option.some.inj this).symm
     rw [←this]; exact hor'
    ·have n1:q≠k:=fun e=>hgk ((nG k).1 (by rw [←e]; exact hq))
     have n2:q≠id:=fun e=>by
      rcases hor' with h|h
      ·exact hne (by rw [e]; exact h)
      ·exact hz (by rw [e]; exact h)
     rw [Fo q n1,hoth q n2]
   have hgs:GSt (upd g5 i9 (some (.obj [.v (.int .i64 x.on), .v (.int .i64 x.kind), .s x.arg] 90))) F k {t with notices:=t.notices++ [⟨t.tick,o.case,x.arg⟩]} j:=by
    refine ⟨y1,y2,y',y4,by rw [Fk,hst],gD.bC hop fun i hi=>(nG i).1 hi,hgk,fun i b hi hb=> ?_⟩
    have n2:i≠id:=fun e=>by
     have:=(nG id).1 hid;rw [←e,hb] at this; cases this
    rw [Fo i hi,hoth i n2];exact hfr i b hi hb
   rw [←eF] at hgs;refine ⟨_, ?_,i+1,by rw [hsn]; exact hb9 hgs,by omega,rfl, ?_, ?_, ?_, ?_, ?_, ?_⟩
   ·omega
   all_goals simp only [go_sem,r0,r3,r5,r10,r11]
  ·have hge:i=l.length:=by have:=Uj e; omega
   subst hge;rw [List.take_length] at hS;simp only [go_sem];exact .same (.refl _) (hback hS)
set_option maxRecDepth 100000 in
theorem IA (s:an) (hf:Few s) (h:Heap):ak Tryz.prog 90 [dj s] h fun r h' =>∃y1 y2 y3,r= .agg (stC s y1 y2 y3 (di s.roles))∧gD h h' y1 y2 y3 (di s.roles) s s.cases.length∧Ab.Sub h h' :=by
 have hst:=rS s;have hsc:∀y1 y2 y3,stC s y1 y2 y3 (di s.roles)=stC s y1 y2 y3 (di s.roles):=fun _ _ _=>rfl
 have hfc:=hf.cases;have hfg:=hf.log;have hfr:=hf.reviews;have hfn:=hf.notices;obtain ⟨tick,cs,rv,nt,ro,⟨pid,pset,palg,ptgt,prules,pkids,pobls⟩,ver⟩:=s;simp only at hfc hfg hfr hfn;rw [hst];simp only [sL,je,qP,sO,di,aW];refine ak.body hU hm Tryz.func90 rfl (by kernel_rfl) 35 rfl [.cell 2 36] rfl (Uf rfl) (fun hwf=> ?_)
 simp only [go_sem];intro i1 h1;simp only [go_sem];intro i2 h2;have n21:=aH h2;have n2:=aE h2;simp only [go_sem];obtain ⟨H,eH⟩:∃H,upd (upd h i1 (some (.obj [.v (.int .i64 tick), .sl (cs.map bM) .no, .sl (rv.map fP) .no, .sl (nt.map kM) .no, .sl (ro.map dD) .no, .s pid, .v (.bool pset), .v (.int .i64 palg),aR ptgt, .sl (prules.map aA) .no, .sl (pkids.map aJ) .no,ax pobls, .v (.int .i64 ver)] 36))) i2 (some (.obj [.v (.int .i64 0), .sl [] .full, .sl [] .full, .sl [] .full, .sl [] .full, .s [], .v (.bool false), .v (.int .i64 0), .sl [] .full, .sl [] .full, .sl [] .full, .sl [] .full, .v (.int .i64 0)] 36))=H:=⟨_,rfl⟩;have hH:Ab.Sub h H:=by rw [←eH]; exact ((Sub.refl h).put h1 _).put n2 _
 have g1:H i1=some (.obj [.v (.int .i64 tick), .sl (cs.map bM) .no, .sl (rv.map fP) .no, .sl (nt.map kM) .no, .sl (ro.map dD) .no, .s pid, .v (.bool pset), .v (.int .i64 palg),aR ptgt, .sl (prules.map aA) .no, .sl (pkids.map aJ) .no,ax pobls, .v (.int .i64 ver)] 36):=by rw [←eH,ag _ _ n21.symm,ah]
 have g2:H i2=some (.obj [.v (.int .i64 0), .sl [] .full, .sl [] .full, .sl [] .full, .sl [] .full, .s [], .v (.bool false), .v (.int .i64 0), .sl [] .full, .sl [] .full, .sl [] .full, .sl [] .full, .v (.int .i64 0)] 36):=by rw [←eH,ah]
 rw [eH];clear eH;refine .stage (hm1 i1 (.obj [.v (.int .i64 tick), .sl (cs.map bM) .no, .sl (rv.map fP) .no, .sl (nt.map kM) .no, .sl (ro.map dD) .no, .s pid, .v (.bool pset), .v (.int .i64 palg),aR ptgt, .sl (prules.map aA) .no, .sl (pkids.map aJ) .no,ax pobls, .v (.int .i64 ver)] 36)) [0,1,3,4,6,7,2,9,5,8] [10,11,12,13,14] (.hm1 g1) (by kernel_rfl) ?_
 simp only [go_sem,fz];refine (sv _ (rv.map fP) H (dS fP 7 (fun _=>rfl) _ _) (by simpa using hfr)).mono fun z2 H1 ⟨o2,s1⟩=> ?_
 refine ⟨.hm1 (s1 _ _ g1), ?_⟩;simp only [go_sem];refine (su _ (nt.map kM) H1 (dS kM 3 (fun _=>rfl) _ _) (by simpa using hfn)).mono fun z3 H2 ⟨o3,s2⟩=> ?_
 refine ⟨.hm1 (s2 _ _ (s1 _ _ g1)), ?_⟩;simp only [go_sem];refine (wR _ (cs.map bM) H2 (dS bM 5 (fun _=>rfl) _ _) (by simpa using hfc)).mono fun z1 H3 ⟨o1,s3⟩=> ?_
 have s03:Ab.Sub H H3:=s1.trans (s2.trans s3);have q1' :=s03 _ _ g1;have q2' :=s03 _ _ g2;refine ⟨.hm1 q1',cW,(fun _ _ e=>by cases e), ?_⟩
 simp only [go_sem,q1',o1.rd.fit,o1.rd.cells,o2.rd.fit,o2.rd.cells,o3.rd.fit,o3.rd.cells];refine ⟨fun _ _ e=>(by cases e),fun _ _ e=>(by cases e),fun _ _ e=>(by cases e), ?_⟩
 obtain ⟨M,eM⟩:∃M,upd H3 i1 (some (.obj [.v (.int .i64 tick),z1,z2,z3, .sl (ro.map dD) .no, .s pid, .v (.bool pset), .v (.int .i64 palg),aR ptgt, .sl (prules.map aA) .no, .sl (pkids.map aJ) .no,ax pobls, .v (.int .i64 ver)] 36))=M:=⟨_,rfl⟩;have oM:∀q,q≠i1→M q=H3 q:=fun q hq=>by rw [←eM,ag _ _ hq]
 have m1:M i1=some (.obj [.v (.int .i64 tick),z1,z2,z3, .sl (ro.map dD) .no, .s pid, .v (.bool pset), .v (.int .i64 palg),aR ptgt, .sl (prules.map aA) .no, .sl (pkids.map aJ) .no,ax pobls, .v (.int .i64 ver)] 36):=by rw [←eM,ah]
 have m2:=(oM i2 n21).trans q2';have hM:Ab.Sub h M:=by rw [←eM]; exact (hH.trans s03).put h1 _
 have new:∀ {tb:TypeId} {z:AV} {xs:List AV} {n:Nat} {g:Heap},OwE tb g H3 n z xs→Ab.Sub H g→OwE tb h M n z xs:=fun w hg=>(w.less (hH.trans hg)).keep fun id e=>oM id (cA (w.nid e).1 (hg _ _ g1))
 have w1:=new o1 (s1.trans s2);have w2:=new (o2.sub (s2.trans s3)) (.refl _);have w3:=new (o3.sub s3) s1;have a12:apart z1 z2:=(dH o1 (o2.there s2.some)).symm;have a13:apart z1 z3:=(dH o1 (o3.there fun k hk=>hk)).symm
 have a23:apart z2 z3:=dH o3 (o2.there fun k hk=>hk)
 simp only [go_sem,o1.rd.len,Ug];rw [eM];have h12:i1≠i2:=n21.symm;refine .intro (fun m ρ G=>∃i:Nat,Ab.Sub M G∧i≤cs.length∧m=cs.length - i∧lk ρ 1=some (.ptr i1 0)∧lk ρ 2=some (.ptr i2 0)∧lk ρ 18=some z1∧lk ρ 19=some (.v (.int .i64 cs.length))∧lk ρ 20=some (.v (.int .i64 i))) cs.length ?_ ?_
 ·refine ⟨0, .refl _,by omega,rfl, ?_, ?_, ?_, ?_, ?_⟩<;>simp only [go_sem]
 ·rintro m ρ G ⟨i,hs,hi,rfl,r1,r2,r18,r19,r20⟩
  have v1:=w1.sub hs;simp only [go_sem,r19,r20];refine .intro (fun e=> ?_) (fun e=> ?_)
  ·have hlt:i<cs.length:=Un e
   have w1' :IntKind.i64.wrap ((i:Int)+1)=((i+1:Nat):Int):=by rw [bz _ (by omega)]; omega
   have hfl:=hfg _ (Ul hlt);have hxi:(cs.map bM)[i]'(by simpa using hlt)=bM cs[i]:=Uh ..
   simp only [go_sem,r18,r20];refine v1.rd.idx (U:=U) (e:=57) i rfl (by simpa using hlt) lp (by decide) fun p hp1=> ?_
   have hld:=hp1.all (U:=U) (ty:=57) (by simp only [go_sem]) (by rw [lp,hxi]; rfl) (by simp only [go_sem]; rw [hxi]; rfl)
   obtain ⟨c,ec⟩:∃c,cs[i]=c:=⟨_,rfl⟩;rw [hxi,ec] at hld;rw [ec] at hfl hxi;simp only [bM,ko,fy,oQ] at hld;simp only [go_sem,hld];intro i4 h4;have k1:=hs _ _ m1;have n41:i4≠i1:=cA h4 k1;obtain ⟨G4,eG4⟩:∃G4,upd G i4 (some (.obj [.s c.id, .s c.owner, .s c.state, .sl (c.fields.map bE) .no, .sl (c.log.map gG) .no] 57))=G4:=⟨_,rfl⟩;have sG:Ab.Sub G G4:=by rw [←eG4]; exact .ai h4
   have p1:=sG _ _ k1;have p4:G4 i4=some (.obj [.s c.id, .s c.owner, .s c.state, .sl (c.fields.map bE) .no, .sl (c.log.map gG) .no] 57):=by rw [←eG4,ah]
   simp only [go_sem];rw [eG4];refine .stage (hm2 i1 (.obj [.v (.int .i64 tick),z1,z2,z3, .sl (ro.map dD) .no, .s pid, .v (.bool pset), .v (.int .i64 palg),aR ptgt, .sl (prules.map aA) .no, .sl (pkids.map aJ) .no,ax pobls, .v (.int .i64 ver)] 36) i4 (.obj [.s c.id, .s c.owner, .s c.state, .sl (c.fields.map bE) .no, .sl (c.log.map gG) .no] 57)) [0,1,2,3,4,5,6,7] [8] (.hm2 p1 p4) (by kernel_rfl) ?_
   simp only [go_sem,r1,qt _ _ n41.symm,qu];refine (tC _ (c.log.map gG) G4 (dS gG 3 (fun _=>rfl) _ _) (by simpa using hfl) (bg (fun _=>rfl) _)).pthen ?_
   refine ⟨.hm2 p1 p4, ?_⟩;simp only [go_sem];obtain ⟨id1,hg1,u1⟩:=(v1.sub sG).ow (by intro e; rw [List.map_eq_nil_iff] at e; rw [e] at hlt; cases hlt)
   refine u1.idx (U:=U) (e:=57) i rfl (by simpa using hlt) lp (by decide) ?_
   simp only [go_sem];refine ⟨cW,(fun _ _ e=>by cases e), ?_⟩
   have u1' :=u1;obtain ⟨cap,rest,ey,hid,hr,hcap,hsz⟩:=u1';have hbd:i*5+5≤(aq (cs.map bM)++rest).length:=by
    rw [Uk,aU hsz,Ug]; omega
   have e5:List.take (i*5+4) (aq (cs.map bM)++rest)++ [.sl (c.log.map gG) .no]++List.drop (i*5+4+1) (aq (cs.map bM)++rest)=aq (cs.map bM)++rest:=by
    refine (jJ hsz i (by simpa using hlt) 4 [.sl (c.log.map gG) .no] (Uf rfl)).trans ?_
    rw [oe];rw [List.getElem?_eq_getElem (by simpa using hlt),hxi]; rfl
   simp only [go_sem,r20,hid];rw [e5,rW hid];refine ⟨by omega,(fun _ _ e=>by cases e), ?_⟩
   simp only [go_sem,w1'];refine ⟨_, ?_,i+1,hs.trans sG,by omega,rfl, ?_, ?_, ?_, ?_, ?_⟩
   ·omega
   all_goals simp only [go_sem,r1,r2,r18,r19]
  ·have hge:i=cs.length:=by have:=Uj e; omega
   have k1:=hs _ _ m1;have k2:=hs _ _ m2;have n21' :i2≠i1:=n21;simp only [go_sem,r1,r2,k1,k2];have kp:∀b q,h q=none→M q≠none→q≠i2→upd G i2 b q=M q:=fun b q a c d=>by
    rw [ag _ _ d];cases hh:M q with
    |none=>exact (c hh).elim
    |some b=>exact hs _ _ hh
   have ne2:∀ {tb:TypeId} {z:AV} {xs:List AV} {n:Nat},OwE tb h M n z xs→tb≠36→∀q,nid z=some q→q≠i2:=fun w ht q e=>jV (w.nid e).2.2 m2 ht.symm
   refine .mk _ (.refl _) (.refl _) ⟨z1,z2,z3,by simp [stC,fl,aW]<;>rfl,⟨⟨cs.map bM,w1.keep fun q e=>kp _ q (w1.nid e).1 (w1.nid e).2.1 (ne2 w1 (by decide) q e),by simp,fun j a b _=>Uh ..,fun a b=>absurd b (Nat.lt_irrefl _)⟩,w2.keep fun q e=>kp _ q (w2.nid e).1 (w2.nid e).2.1 (ne2 w2 (by decide) q e),w3.keep fun q e=>kp _ q (w3.nid e).1 (w3.nid e).2.1 (ne2 w3 (by decide) q e), .inl rfl,a12,a13,fun q _ e=>(by cases e),a23,fun q _ e=>(by cases e),fun q _ e=>(by cases e)⟩,(hM.trans hs).put n2 _⟩
end Go.Proofs.YtmlhcdeamjkpjaaGreatDoor
namespace Go.Bf
open Go Go.Ab Go.Proofs.YtmlhcdeamjkpjaaGreatDoor
def GZ (r:pg):List AV:= [.v (.int .i64 r.err),aO r.mark, .v (.bool r.glass), .v (.int .i64 r.val.kind), .v (.int .i64 r.val.n), .s r.val.s, .v (.bool r.hidden), .v (.int .i64 r.at_)]
def yp (d:Fm):List AV:=opC d.op++ [.v (.int .i64 d.version),aO d.mark, .v (.bool d.glass),ax d.obls]
def fU (x:an×pg×Fm×Int):AV:= .tup [dj x.1, .agg (GZ x.2.1), .agg (yp x.2.2.1), .v (.int .i64 x.2.2.2)]
theorem w7 {cs ds:List aK} (h:ds.map (·.id)=cs.map (·.id)) (id:Txt):findD ds id=findD cs id:=by
 have e:∀l:List aK,findD l id=(l.map (·.id)).findIdx fun x=>geB x id:=fun l=>by
  unfold findD;rw [List.findIdx_map];rfl
 rw [e,e,h]
theorem F4 (id:Txt):geB id id=true:=by
 have:Op.bytesLess id id=false:=by simpa [lt] using lt_irrefl id
 simp [geB,this]
theorem DP {s:an} {o:OpD} (hr:bD s o=0):findD (dw aN s o).cases o.case=findD s.cases o.case:=by
 unfold dw;rw [if_pos hr];unfold doD
 by_cases k1:o.kind=1
 ·simp only [k1,if_true]
  obtain ⟨f,ef⟩:∃f,findD s.cases o.case=f:=⟨_,rfl⟩;have hf:f≤s.cases.length:=by rw [←ef]; exact List.findIdx_le_length
  rw [ef];unfold findD;refine (List.findIdx_eq (by simp; omega)).2 ⟨?_,fun j hj=> ?_⟩
  ·have:((List.take f s.cases++ [hY s ⟨o.case,o.subj,gw,[],[]⟩ o.subj [110,101,119]]++List.drop f s.cases)[f]?)=some (hY s ⟨o.case,o.subj,gw,[],[]⟩ o.subj [110,101,119]):=by
    rw [List.append_assoc,List.getElem?_append_right (by simp; omega)]
    simp [Nat.min_eq_left hf]
   rw [(List.getElem_eq_iff _).2 this];exact F4 _
  ·have hj2:j<s.cases.length:=by omega
   have:((List.take f s.cases++ [hY s ⟨o.case,o.subj,gw,[],[]⟩ o.subj [110,101,119]]++List.drop f s.cases)[j]?)=some s.cases[j]:=by
    rw [List.append_assoc,List.getElem?_append_left (by simp; omega),List.getElem?_take,if_pos hj,List.getElem?_eq_getElem hj2]
   rw [(List.getElem_eq_iff _).2 this];have h3:j<s.cases.findIdx fun c=>geB c.id o.case:=by show j<findD s.cases o.case; omega
   simpa using List.not_of_lt_findIdx h3
 ·by_cases k3:o.kind=3
  ·simp only [k3,show¬(3:Int)=1 by decide,if_false,if_true]
   exact w7 (jj (f:=fun c=>hY s {c with fields:=dW c.fields o.field o.val} o.subj [119,114,105,116,101]) (g:=fun c:aK=>c.id) fun c=>rfl) _
  ·by_cases k4:o.kind=4
   ·simp only [k4,show¬(4:Int)=1 by decide,show¬(4:Int)=3 by decide,if_false,if_true]
    exact w7 (jj (f:=fun c=>hY s {c with state:=o.to} o.subj o.to) (g:=fun c:aK=>c.id) fun c=>rfl) _
   ·simp only [k1,k3,k4,if_false]
    split
    ·rfl
    ·split
     ·split<;>rfl
     ·split
      ·split<;>rfl
      ·split<;>rfl
theorem Iu {k:Nat} {s:an} {o:OpD} (h:cN k s) (hr:bD s o=0) (hx:gr (dw aN s o).cases o.case<(dw aN s o).cases.length):findD s.cases o.case=gr (dw aN s o).cases o.case:=by
 rw [←DP hr];exact BV (mH o h).asc hx
theorem ED {t:Txt} (h:(aN t).2.1=0):(aN t).2.2=0:=by
 unfold aN at h⊢;cases hl:pH t with
 |bad e a=>
  rw [hl] at h;simp only at h;have:=(uW hl).1;omega
 |ok ts=>
  rw [hl] at h;simp only [vj] at h⊢;split at h
  ·rename_i hb; rw [if_pos hb]
  ·rename_i hb; exact (hb h).elim
end Go.Bf
namespace Go.Proofs.YtmlhcdeamjkpjaaGreatDoor
open Go Go.Ab Go.Bf
theorem EI (c:aK):ct (bM c)=true:=by
 simp [bM,ko,ct,gh,fy,oQ,bg (f:=bE) (fun _=>rfl),bg (f:=gG) (fun _=>rfl)]
theorem KR {g h:Heap} (s:an):Frz g h (dj s) (dj s):=by
 have:=rz (g:=g) (h:=h) (s:=s) (y1:=je s.cases) (y2:=qP s.reviews) (y3:=sO s.notices) (y4:=di s.roles) (.pure (by simp only [je,ct]; exact bg EI _)) (.pure (by simp only [qP,ct]; exact bg (fun _=>rfl) _)) (.pure (by simp only [sO,ct]; exact bg (fun _=>rfl) _)) (.pure (by simp only [di,ct]; exact bg (fun _=>rfl) _))
 exact this
theorem F2 {g h:Heap} (l:List cr) (q:Perm):Frz g h (.sl (l.map bk) q) (ax l):= .sl _ _ _ rfl (fun _ _ _=>rfl) fun i h1 h2 j h3 h4=>by
 refine .pure ?_;have:ct (l.map bk)[i]=true:=by rw [Uh]; rfl
 exact kY this _ (Ul h3)
theorem xb {g h:Heap} {x:AV} {S:an} (r:pg) (d:Fm) (e:Int) (a:Frz g h x (dj S)) (q:Perm):Frz g h (.tup [x, .agg (GZ r), .agg (opC d.op++ [.v (.int .i64 d.version),aO d.mark, .v (.bool d.glass), .sl (d.obls.map bk) q]), .v (.int .i64 e)]) (fU (S,r,d,e)):=by
 refine .tup _ _ rfl fun i h1 h2=> ?_
 rcases i with _|_|_|_|i
 ·exact a
 ·exact .pure rfl
 ·refine .agg _ _ (by simp [yp]) fun j h3 h4=> ?_
  rcases j with _|_|_|_|_|_|_|_|_|_|_|_|_|_|_|_|j
  ·exact .pure rfl
  ·exact .pure rfl
  ·exact .pure rfl
  ·exact .pure rfl
  ·exact .pure rfl
  ·exact .pure rfl
  ·exact .pure rfl
  ·exact .pure rfl
  ·exact .pure rfl
  ·exact .pure rfl
  ·exact .pure rfl
  ·exact .pure rfl
  ·exact .pure rfl
  ·exact .pure rfl
  ·exact .pure rfl
  ·exact F2 d.obls q
  ·simp [opC] at h3; omega
 ·exact .pure rfl
 ·simp at h1; omega
theorem GSt.put {g H:Heap} {k:Nat} {s:an} {j:Nat} (hG:GSt g H k s j) {i:Nat} (hi:i≠k) (hgi:g i≠none) (b:Blk):GSt (upd g i (some b)) (upd H i (some b)) k s j:=by
 obtain ⟨y1,y2,y3,y4,hk,ho,hgk,hfr⟩:=hG;have hn:∀q,g q=none→q≠i:=fun q hq e=>hgi (by rw [←e]; exact hq)
 refine ⟨y1,y2,y3,y4,by rw [ag _ _ hi.symm]; exact hk,(ho.more (g:=upd g i (some b)) fun q hq _=>by rw [ag _ _ (hn q hq)]; exact hq).keep fun q hq _=>ag _ _ fun e=> ?_,by rw [ag _ _ hi.symm]; exact hgk,fun q c hq hc=> ?_⟩
 ·rw [e,ah] at hq; cases hq
 ·by_cases e:q=i
  ·subst e; rw [ah] at hc⊢; exact hc
  ·rw [ag _ _ e] at hc⊢; exact hfr q c hq hc
theorem GSt.at {g H:Heap} {k:Nat} {s:an} {j:Nat} (hG:GSt g H k s j) {i:Nat} {b:Blk} (hi:i≠k) (hb:g i=some b):H i=some b:=by
 obtain ⟨_,_,_,_,_,_,_,hfr⟩:=hG;exact hfr i b hi hb
theorem GSt.sub {f g H:Heap} {k:Nat} {s:an} {j:Nat} (hG:GSt g H k s j) (hs:Ab.Sub f g) (hk:f k=none):Ab.Sub f H:=fun i b hi=>by
 obtain ⟨_,_,_,_,_,_,_,hfr⟩:=hG;exact hfr i b (fun e=>by rw [e,hk] at hi; cases hi) (hs i b hi)
theorem GSt.same {g H H' :Heap} {k:Nat} {s:an} {j:Nat} (hG:GSt g H k s j) (hs:Ab.Sub H H'):GSt g H' k s j:=by
 obtain ⟨y1,y2,y3,y4,hk,ho,hgk,hfr⟩:=hG;exact ⟨y1,y2,y3,y4,hs _ _ hk,ho.keep fun q _ hne=>by
  cases hh:H q with
  |none=>exact (hne hh).elim
  |some b=>exact hs _ _ hh,hgk,fun i b hi hb=>hs _ _ (hfr i b hi hb)⟩
theorem oh {s:an} {pid:Txt} {pset:Bool} {palg:Int} {ptgt:fE} {prules:List cH} {pkids:List bB} {pobls:List cr} (hpp:s.policy= .mk pid pset palg ptgt prules pkids pobls) (y1 y2 y3 y4:AV):stC s y1 y2 y3 y4= [.v (.int .i64 s.tick),y1,y2,y3,y4, .s pid, .v (.bool pset), .v (.int .i64 palg), .sl (ptgt.map cG) .no, .sl (prules.map aA) .no, .sl (pkids.map aJ) .no, .sl (pobls.map bk) .no, .v (.int .i64 s.version)]:=by
 simp [stC,hpp,fl,aW,aR,ax]
theorem GR (p:bB):∃a b c d e f g,p= .mk a b c d e f g:=by cases p; exact ⟨_,_,_,_,_,_,_,rfl⟩
set_option maxRecDepth 100000 in
theorem l6 {k:Nat} (s:an) (hG:o8 k s) (hk:k≤1000) (o:OpD) (ho:Pn o) (h:Heap) (he:tq h):ak Tryz.prog 38 [dj s,opA o] h fun r h' =>r=fU (cu s o)∧h' =h:=
 ak.freeze fun g hg _=>by
 replace he:=he.sub hg;obtain ⟨pid,pset,palg,ptgt,prules,pkids,pobls,hpp⟩:∃a b c d e f g,s.policy= .mk a b c d e f g:=by cases s.policy; exact ⟨_,_,_,_,_,_,_,rfl⟩
 have hst:dj s= .agg [.v (.int .i64 s.tick), .sl (s.cases.map bM) .no, .sl (s.reviews.map fP) .no, .sl (s.notices.map kM) .no, .sl (s.roles.map dD) .no, .s pid, .v (.bool pset), .v (.int .i64 palg), .sl (ptgt.map cG) .no, .sl (prules.map aA) .no, .sl (pkids.map aJ) .no, .sl (pobls.map bk) .no, .v (.int .i64 s.version)]:=by
  simp [dj,fl,hpp,je,qP,sO,di,aW,aR,ax]
 rw [hst];refine ak.of_wp hU Tryz.func38 rfl (by kernel_rfl) 131 rfl [.cell 4 36, .cell 5 76, .cell 6 78, .tmp 7] rfl (Uf rfl) ?_
 refine .one hU hm ?_;simp -implicitDefEqProofs only [go_sem,opA,opC];intro i2 h2;simp -implicitDefEqProofs only [go_sem];obtain ⟨H2,e2⟩:∃H2,upd g i2 (some (.obj [.v (.int .i64 s.tick), .sl (s.cases.map bM) .no, .sl (s.reviews.map fP) .no, .sl (s.notices.map kM) .no, .sl (s.roles.map dD) .no, .s pid, .v (.bool pset), .v (.int .i64 palg), .sl (ptgt.map cG) .no, .sl (prules.map aA) .no, .sl (pkids.map aJ) .no, .sl (pobls.map bk) .no, .v (.int .i64 s.version)] 36))=H2:=⟨_,rfl⟩;have s2:Ab.Sub g H2:=by rw [←e2]; exact .ai h2
 have b2:H2 i2=some (.obj [.v (.int .i64 s.tick), .sl (s.cases.map bM) .no, .sl (s.reviews.map fP) .no, .sl (s.notices.map kM) .no, .sl (s.roles.map dD) .no, .s pid, .v (.bool pset), .v (.int .i64 palg), .sl (ptgt.map cG) .no, .sl (prules.map aA) .no, .sl (pkids.map aJ) .no, .sl (pobls.map bk) .no, .v (.int .i64 s.version)] 36):=by rw [←e2,ah]
 have q2:g i2=none:=h2;have sg:Ab.Sub g H2:=s2;rw [e2];clear e2;intro i3 h3;simp -implicitDefEqProofs only [go_sem];obtain ⟨H3,e3⟩:∃H3,upd H2 i3 (some (.obj [.v (.int .i64 o.kind), .s o.subj, .s o.case, .s o.field, .s o.to, .v (.int .i64 o.val.kind), .v (.int .i64 o.val.n), .s o.val.s, .v (.int .i64 o.review), .s o.text, .s o.reason, .v (.bool o.glass)] 44))=H3:=⟨_,rfl⟩;have s3:Ab.Sub H2 H3:=by rw [←e3]; exact .ai h3
 have n3_2:i3≠i2:=fun e=>by rw [e,b2] at h3; cases h3
 replace b2:=s3 _ _ b2;have b3:H3 i3=some (.obj [.v (.int .i64 o.kind), .s o.subj, .s o.case, .s o.field, .s o.to, .v (.int .i64 o.val.kind), .v (.int .i64 o.val.n), .s o.val.s, .v (.int .i64 o.review), .s o.text, .s o.reason, .v (.bool o.glass)] 44):=by rw [←e3,ah]
 have q3:g i3=none:=sg.none h3;have sg:Ab.Sub g H3:=sg.trans s3;rw [e3];clear e3;intro i4 h4;simp -implicitDefEqProofs only [go_sem];obtain ⟨H4,e4⟩:∃H4,upd H3 i4 (some (.obj [.v (.int .i64 0), .sl [] .full, .sl [] .full, .sl [] .full, .sl [] .full, .s [], .v (.bool false), .v (.int .i64 0), .sl [] .full, .sl [] .full, .sl [] .full, .sl [] .full, .v (.int .i64 0)] 36))=H4:=⟨_,rfl⟩;have s4:Ab.Sub H3 H4:=by rw [←e4]; exact .ai h4
 have n4_2:i4≠i2:=fun e=>by rw [e,b2] at h4; cases h4
 have n4_3:i4≠i3:=fun e=>by rw [e,b3] at h4; cases h4
 replace b2:=s4 _ _ b2;replace b3:=s4 _ _ b3;have b4:H4 i4=some (.obj [.v (.int .i64 0), .sl [] .full, .sl [] .full, .sl [] .full, .sl [] .full, .s [], .v (.bool false), .v (.int .i64 0), .sl [] .full, .sl [] .full, .sl [] .full, .sl [] .full, .v (.int .i64 0)] 36):=by rw [←e4,ah]
 have q4:g i4=none:=sg.none h4;have sg:Ab.Sub g H4:=sg.trans s4;rw [e4];clear e4;intro i5 h5;simp -implicitDefEqProofs only [go_sem];obtain ⟨H5,e5⟩:∃H5,upd H4 i5 (some (.obj [.v (.int .i64 0), .v (.complex .f64 0 0), .v (.bool false), .v (.int .i64 0), .v (.int .i64 0), .s [], .v (.bool false), .v (.int .i64 0)] 76))=H5:=⟨_,rfl⟩;have s5:Ab.Sub H4 H5:=by rw [←e5]; exact .ai h5
 have n5_2:i5≠i2:=fun e=>by rw [e,b2] at h5; cases h5
 have n5_3:i5≠i3:=fun e=>by rw [e,b3] at h5; cases h5
 have n5_4:i5≠i4:=fun e=>by rw [e,b4] at h5; cases h5
 replace b2:=s5 _ _ b2;replace b3:=s5 _ _ b3;replace b4:=s5 _ _ b4;have b5:H5 i5=some (.obj [.v (.int .i64 0), .v (.complex .f64 0 0), .v (.bool false), .v (.int .i64 0), .v (.int .i64 0), .s [], .v (.bool false), .v (.int .i64 0)] 76):=by rw [←e5,ah]
 have q5:g i5=none:=sg.none h5;have sg:Ab.Sub g H5:=sg.trans s5;rw [e5];clear e5;intro i6 h6;simp -implicitDefEqProofs only [go_sem];obtain ⟨H6,e6⟩:∃H6,upd H5 i6 (some (.obj [.v (.int .i64 0), .s [], .s [], .s [], .s [], .v (.int .i64 0), .v (.int .i64 0), .s [], .v (.int .i64 0), .s [], .s [], .v (.bool false), .v (.int .i64 0), .v (.complex .f64 0 0), .v (.bool false), .sl [] .full] 78))=H6:=⟨_,rfl⟩;have s6:Ab.Sub H5 H6:=by rw [←e6]; exact .ai h6
 have n6_2:i6≠i2:=fun e=>by rw [e,b2] at h6; cases h6
 have n6_3:i6≠i3:=fun e=>by rw [e,b3] at h6; cases h6
 have n6_4:i6≠i4:=fun e=>by rw [e,b4] at h6; cases h6
 have n6_5:i6≠i5:=fun e=>by rw [e,b5] at h6; cases h6
 replace b2:=s6 _ _ b2;replace b3:=s6 _ _ b3;replace b4:=s6 _ _ b4;replace b5:=s6 _ _ b5;have b6:H6 i6=some (.obj [.v (.int .i64 0), .s [], .s [], .s [], .s [], .v (.int .i64 0), .v (.int .i64 0), .s [], .v (.int .i64 0), .s [], .s [], .v (.bool false), .v (.int .i64 0), .v (.complex .f64 0 0), .v (.bool false), .sl [] .full] 78):=by rw [←e6,ah]
 have q6:g i6=none:=sg.none h6;have sg:Ab.Sub g H6:=sg.trans s6;rw [e6];clear e6;refine WP.Hp hU hm 0 (fun (_:Nat) (ρ:Env) (H' :Heap)=>∃(e a:Int),Ab.Sub g H'∧H' i2=some (.obj [.v (.int .i64 s.tick), .sl (s.cases.map bM) .no, .sl (s.reviews.map fP) .no, .sl (s.notices.map kM) .no, .sl (s.roles.map dD) .no, .s pid, .v (.bool pset), .v (.int .i64 palg), .sl (ptgt.map cG) .no, .sl (prules.map aA) .no, .sl (pkids.map aJ) .no, .sl (pobls.map bk) .no, .v (.int .i64 s.version)] 36)∧H' i4=some (.obj [.v (.int .i64 0), .sl [] .full, .sl [] .full, .sl [] .full, .sl [] .full, .s [], .v (.bool false), .v (.int .i64 0), .sl [] .full, .sl [] .full, .sl [] .full, .sl [] .full, .v (.int .i64 0)] 36)∧H' i5=some (.obj [.v (.int .i64 0), .v (.complex .f64 0 0), .v (.bool false), .v (.int .i64 0), .v (.int .i64 0), .s [], .v (.bool false), .v (.int .i64 0)] 76)∧H' i6=some (.obj [.v (.int .i64 0), .s [], .s [], .s [], .s [], .v (.int .i64 0), .v (.int .i64 0), .s [], .v (.int .i64 0), .s [], .s [], .v (.bool false), .v (.int .i64 0), .v (.complex .f64 0 0), .v (.bool false), .sl [] .full] 78)∧lk ρ 2=some (.ptr i2 0)∧lk ρ 4=some (.ptr i4 0)∧lk ρ 5=some (.ptr i5 0)∧lk ρ 6=some (.ptr i6 0)∧lk ρ 12=some (.v (.int .i64 e))∧lk ρ 13=some (.v (.int .i64 a))∧cu s o=(s,⟨e,naM,false,az,false,a⟩,tU,e)) rfl ?_ ?_
 ·rintro m ρ H' ⟨e,a,sg',b2,b4,b5,b6,r2,r4,r5,r6,r12,r13,hgd⟩
  refine .vc hU hm ?_;simp -implicitDefEqProofs only [go_sem,r2,r4,r5,r6,r12,r13,b2,b4,b5,b6,aj,n5_4,n5_4.symm,n6_4,n6_4.symm,n6_5,n6_5.symm];refine .mk _ (.refl _) (.refl _) ⟨((sg'.put q4 _).put q5 _).put q6 _,_, ?_,rfl⟩;rw [hgd];exact xb (S:=s) ⟨e,naM,false,az,false,a⟩ tU e (by rw [←hst]; exact KR s) .full
 intro _;refine .one hU hm ?_;simp -implicitDefEqProofs only [go_sem];intro i8 h8;simp -implicitDefEqProofs only [go_sem];obtain ⟨H8,e8⟩:∃H8,upd H6 i8 (some (.obj [.v (.complex .f64 0 0), .sl [] .full] 85))=H8:=⟨_,rfl⟩;have s8:Ab.Sub H6 H8:=by rw [←e8]; exact .ai h8
 have n8_2:i8≠i2:=fun e=>by rw [e,b2] at h8; cases h8
 have n8_3:i8≠i3:=fun e=>by rw [e,b3] at h8; cases h8
 have n8_4:i8≠i4:=fun e=>by rw [e,b4] at h8; cases h8
 have n8_5:i8≠i5:=fun e=>by rw [e,b5] at h8; cases h8
 have n8_6:i8≠i6:=fun e=>by rw [e,b6] at h8; cases h8
 replace b2:=s8 _ _ b2;replace b3:=s8 _ _ b3;replace b4:=s8 _ _ b4;replace b5:=s8 _ _ b5;replace b6:=s8 _ _ b6;have b8:H8 i8=some (.obj [.v (.complex .f64 0 0), .sl [] .full] 85):=by rw [←e8,ah]
 have q8:g i8=none:=sg.none h8;have sg:Ab.Sub g H8:=sg.trans s8;rw [e8];clear e8;refine .one hU hm ?_;simp -implicitDefEqProofs only [go_sem];intro i9 h9;simp -implicitDefEqProofs only [go_sem];obtain ⟨H9,e9⟩:∃H9,upd H8 i9 (some (.obj [.v (.int .i64 0), .v (.complex .f64 0 0), .v (.bool false), .v (.int .i64 0), .v (.int .i64 0), .s [], .v (.bool false), .v (.int .i64 0)] 76))=H9:=⟨_,rfl⟩;have s9:Ab.Sub H8 H9:=by rw [←e9]; exact .ai h9
 have n9_2:i9≠i2:=fun e=>by rw [e,b2] at h9; cases h9
 have n9_3:i9≠i3:=fun e=>by rw [e,b3] at h9; cases h9
 have n9_4:i9≠i4:=fun e=>by rw [e,b4] at h9; cases h9
 have n9_5:i9≠i5:=fun e=>by rw [e,b5] at h9; cases h9
 have n9_6:i9≠i6:=fun e=>by rw [e,b6] at h9; cases h9
 have n9_8:i9≠i8:=fun e=>by rw [e,b8] at h9; cases h9
 replace b2:=s9 _ _ b2;replace b3:=s9 _ _ b3;replace b4:=s9 _ _ b4;replace b5:=s9 _ _ b5;replace b6:=s9 _ _ b6;replace b8:=s9 _ _ b8;have b9:H9 i9=some (.obj [.v (.int .i64 0), .v (.complex .f64 0 0), .v (.bool false), .v (.int .i64 0), .v (.int .i64 0), .s [], .v (.bool false), .v (.int .i64 0)] 76):=by rw [←e9,ah]
 have q9:g i9=none:=sg.none h9;have sg:Ab.Sub g H9:=sg.trans s9;rw [e9];clear e9;refine .one hU hm ?_;simp -implicitDefEqProofs only [go_sem];intro i10 h10;simp -implicitDefEqProofs only [go_sem];obtain ⟨H10,e10⟩:∃H10,upd H9 i10 (some (.obj [.v (.int .i64 0), .sl [] .full, .sl [] .full, .sl [] .full, .sl [] .full, .s [], .v (.bool false), .v (.int .i64 0), .sl [] .full, .sl [] .full, .sl [] .full, .sl [] .full, .v (.int .i64 0)] 36))=H10:=⟨_,rfl⟩;have s10:Ab.Sub H9 H10:=by rw [←e10]; exact .ai h10
 have n10_2:i10≠i2:=fun e=>by rw [e,b2] at h10; cases h10
 have n10_3:i10≠i3:=fun e=>by rw [e,b3] at h10; cases h10
 have n10_4:i10≠i4:=fun e=>by rw [e,b4] at h10; cases h10
 have n10_5:i10≠i5:=fun e=>by rw [e,b5] at h10; cases h10
 have n10_6:i10≠i6:=fun e=>by rw [e,b6] at h10; cases h10
 have n10_8:i10≠i8:=fun e=>by rw [e,b8] at h10; cases h10
 have n10_9:i10≠i9:=fun e=>by rw [e,b9] at h10; cases h10
 replace b2:=s10 _ _ b2;replace b3:=s10 _ _ b3;replace b4:=s10 _ _ b4;replace b5:=s10 _ _ b5;replace b6:=s10 _ _ b6;replace b8:=s10 _ _ b8;replace b9:=s10 _ _ b9;have b10:H10 i10=some (.obj [.v (.int .i64 0), .sl [] .full, .sl [] .full, .sl [] .full, .sl [] .full, .s [], .v (.bool false), .v (.int .i64 0), .sl [] .full, .sl [] .full, .sl [] .full, .sl [] .full, .v (.int .i64 0)] 36):=by rw [←e10,ah]
 have q10:g i10=none:=sg.none h10;have sg:Ab.Sub g H10:=sg.trans s10;rw [e10];clear e10;refine .one hU hm ?_;simp -implicitDefEqProofs only [go_sem];have hrd:=fun G=>AP (rdS G s) o hG.few ho.2.2.2 hG.Cw
 have hpa:=fun (G:Heap) (hs:Ab.Sub g G)=>vl o.text G (he.sub hs)
 rw [hst] at hrd;simp only [opA,opC] at hrd;refine .one hU hm ?_;simp -implicitDefEqProofs only [go_sem,b2,b3];refine (hrd _).pthen ?_;simp -implicitDefEqProofs only [go_sem];refine .cut (fun ρ H' =>H' =H10∧lk ρ 2=some (.ptr i2 0)∧lk ρ 3=some (.ptr i3 0)∧lk ρ 4=some (.ptr i4 0)∧lk ρ 5=some (.ptr i5 0)∧lk ρ 6=some (.ptr i6 0)∧lk ρ 8=some (.ptr i8 0)∧lk ρ 9=some (.ptr i9 0)∧lk ρ 10=some (.ptr i10 0)∧lk ρ 11=some (.v (.bool false))∧lk ρ 12=some (.v (.int .i64 (jo s o).1))∧lk ρ 13=some (.v (.int .i64 (jo s o).2))) ?_ ?_
 ·refine .vc hU hm ?_
  cases dr:(bD s o==0)
  ·have er:bD s o≠0:=by simpa using dr
   have ep:jo s o=(bD s o,0):=by unfold jo; rw [if_neg fun hh=>er hh.1]
   simp -implicitDefEqProofs only [go_sem,dr];refine ⟨rfl, ?_, ?_, ?_, ?_, ?_, ?_, ?_, ?_, ?_, ?_, ?_⟩<;>simp -implicitDefEqProofs only [go_sem,ep]
  have er:bD s o=0:=by simpa using dr
  cases d7:(o.kind==7)
  ·have e7:o.kind≠7:=by simpa using d7
   have ep:jo s o=(bD s o,0):=by unfold jo; rw [if_neg fun hh=>e7 hh.2]
   simp -implicitDefEqProofs only [go_sem,b3,dr,d7];refine ⟨rfl, ?_, ?_, ?_, ?_, ?_, ?_, ?_, ?_, ?_, ?_, ?_⟩<;>simp -implicitDefEqProofs only [go_sem,ep]
  ·have e7:o.kind=7:=by simpa using d7
   have ep:jo s o=((aN o.text).2.1,(aN o.text).2.2):=by unfold jo; rw [if_pos ⟨er,e7⟩]
   simp -implicitDefEqProofs only [go_sem,b3,dr,d7];refine (hpa _ sg).pthen ?_;obtain ⟨⟨pp,e,a⟩,epp⟩:∃x,aN o.text=x:=⟨_,rfl⟩;rw [epp] at ep;simp -implicitDefEqProofs only [go_sem,iQ,epp];refine ⟨rfl, ?_, ?_, ?_, ?_, ?_, ?_, ?_, ?_, ?_, ?_, ?_⟩<;>simp -implicitDefEqProofs only [go_sem,ep]
 rintro ρ H' ⟨rfl,r2,r3,r4,r5,r6,r8,r9,r10,r11,r12,r13⟩
 refine .one hU hm ?_;cases de:((jo s o).1 !=0)
 case true=>
  have ee:(jo s o).1≠0:=by simpa using de
  simp -implicitDefEqProofs only [go_sem,r2,r4,r5,r6,r12,r13,de];exact ⟨0,(jo s o).1,(jo s o).2,sg,b2,b4,b5,b6,rfl,rfl,by unfold cu; rw [if_pos ee]⟩
 have ee:(jo s o).1=0:=by simpa using de
 simp -implicitDefEqProofs only [go_sem,r12,de];obtain ⟨hr0,hform,hpar⟩:=vr ee;have hfg:=FD (DD hG.tocN hform);have hask:=fun G=>Kt (rdS G s) o hG.few ho.1
 have hdec:=fun G=>zZ s.policy hG.pol (eT s o) hfg G
 have hm6:=yt (eT s o) s.policy;have hol:=FW (eT s o) hG.kE;have hmk:fV s o=dX (eT s o) s.policy:=rfl;obtain ⟨⟨m,ob⟩,em⟩:∃x,dX (eT s o) s.policy=x:=⟨_,rfl⟩;rw [em] at hdec hm6 hol hmk;simp only at hm6 hol;rw [hpp] at hdec;simp only [aJ,aR,ax,aW,bw,rsA,aO] at hdec;rw [hst] at hask;simp only [opA,opC,bw] at hask;have p2:=(bu (H:=H') (l:= [i2,i3]) (show i2∈ [i2,i3] by simp)).trans b2
 have p3:=(bu (H:=H') (l:= [i2,i3]) (show i3∈ [i2,i3] by simp)).trans b3
 refine .one hU hm ?_;simp -implicitDefEqProofs only [go_sem];refine .calls (pick H' [i2,i3]) [0,1,2,3,4,5,6,7,8,9,10] bJ (by kernel_rfl) rfl ?_
 simp -implicitDefEqProofs only [go_sem,r2,r3,p2,p3];refine (hask _).pthen ?_;refine ⟨bJ, ?_⟩;simp -implicitDefEqProofs only [go_sem];refine (hdec _).pthen ?_;refine ⟨bJ, ?_⟩;simp -implicitDefEqProofs only [go_sem,r8,b8];refine ⟨bJ.put (by simp [pick,n8_2,n8_3]) _, ?_⟩
 obtain ⟨H11,eH11⟩:∃H11,upd H' i8 (some (.obj [.v (.complex .f64 (hbit m.1) (hbit m.2)), .sl (ob.map bk) .no] 85))=H11:=⟨_,rfl⟩;replace b2:H11 i2=some (.obj [.v (.int .i64 s.tick), .sl (s.cases.map bM) .no, .sl (s.reviews.map fP) .no, .sl (s.notices.map kM) .no, .sl (s.roles.map dD) .no, .s pid, .v (.bool pset), .v (.int .i64 palg), .sl (ptgt.map cG) .no, .sl (prules.map aA) .no, .sl (pkids.map aJ) .no, .sl (pobls.map bk) .no, .v (.int .i64 s.version)] 36):=by rw [←eH11,ag _ _ n8_2.symm]; exact b2
 replace b3:H11 i3=some (.obj [.v (.int .i64 o.kind), .s o.subj, .s o.case, .s o.field, .s o.to, .v (.int .i64 o.val.kind), .v (.int .i64 o.val.n), .s o.val.s, .v (.int .i64 o.review), .s o.text, .s o.reason, .v (.bool o.glass)] 44):=by rw [←eH11,ag _ _ n8_3.symm]; exact b3
 replace b4:H11 i4=some (.obj [.v (.int .i64 0), .sl [] .full, .sl [] .full, .sl [] .full, .sl [] .full, .s [], .v (.bool false), .v (.int .i64 0), .sl [] .full, .sl [] .full, .sl [] .full, .sl [] .full, .v (.int .i64 0)] 36):=by rw [←eH11,ag _ _ n8_4.symm]; exact b4
 replace b5:H11 i5=some (.obj [.v (.int .i64 0), .v (.complex .f64 0 0), .v (.bool false), .v (.int .i64 0), .v (.int .i64 0), .s [], .v (.bool false), .v (.int .i64 0)] 76):=by rw [←eH11,ag _ _ n8_5.symm]; exact b5
 replace b6:H11 i6=some (.obj [.v (.int .i64 0), .s [], .s [], .s [], .s [], .v (.int .i64 0), .v (.int .i64 0), .s [], .v (.int .i64 0), .s [], .s [], .v (.bool false), .v (.int .i64 0), .v (.complex .f64 0 0), .v (.bool false), .sl [] .full] 78):=by rw [←eH11,ag _ _ n8_6.symm]; exact b6
 replace b9:H11 i9=some (.obj [.v (.int .i64 0), .v (.complex .f64 0 0), .v (.bool false), .v (.int .i64 0), .v (.int .i64 0), .s [], .v (.bool false), .v (.int .i64 0)] 76):=by rw [←eH11,ag _ _ n9_8]; exact b9
 replace b10:H11 i10=some (.obj [.v (.int .i64 0), .sl [] .full, .sl [] .full, .sl [] .full, .sl [] .full, .s [], .v (.bool false), .v (.int .i64 0), .sl [] .full, .sl [] .full, .sl [] .full, .sl [] .full, .v (.int .i64 0)] 36):=by rw [←eH11,ag _ _ n10_8]; exact b10
 replace b8:H11 i8=some (.obj [.v (.complex .f64 (hbit m.1) (hbit m.2)), .sl (ob.map bk) .no] 85):=by rw [←eH11,ah]
 replace sg:Ab.Sub g H11:=by rw [←eH11]; exact sg.put q8 _
 rw [eH11];clear eH11;have hbr:=fun G=>DG s o m hm6.m9 (by have:=hG.nr; omega) (by have:=hG.roles; omega) hG.tick hG.ticks G
 rw [hst] at hbr;simp only [opA,opC,aO] at hbr;obtain ⟨gl,egl⟩:∃gl,pX s o m=gl:=⟨_,rfl⟩;have hgl:eU s o=gl:=by unfold eU; rw [hmk]; exact egl
 rw [egl] at hbr;have p2:=(bu (H:=H11) (l:= [i2,i3,i8]) (show i2∈ [i2,i3,i8] by simp)).trans b2
 have p3:=(bu (H:=H11) (l:= [i2,i3,i8]) (show i3∈ [i2,i3,i8] by simp)).trans b3
 have p8:=(bu (H:=H11) (l:= [i2,i3,i8]) (show i8∈ [i2,i3,i8] by simp)).trans b8
 refine .one hU hm ?_;simp -implicitDefEqProofs only [go_sem];refine .stage (pick H11 [i2,i3,i8]) [0,1,2,3,4,5,7,6] [8,9,10] bJ (by kernel_rfl) ?_
 simp -implicitDefEqProofs only [go_sem,r2,r3,r8,r9,p2,p3,p8];refine (hbr _).pthen ?_;refine ⟨bJ,cW,fun _ _ e=>(by cases e), ?_⟩
 simp -implicitDefEqProofs only [go_sem,r9,b9];refine ⟨fun _ _ e=>(by cases e),fun _ _ e=>(by cases e), ?_⟩
 obtain ⟨H12,eH12⟩:∃H12,upd H11 i9 (some (.obj [.v (.int .i64 0), .v (.complex .f64 (hbit m.1) (hbit m.2)), .v (.bool gl), .v (.int .i64 0), .v (.int .i64 0), .s [], .v (.bool false), .v (.int .i64 0)] 76))=H12:=⟨_,rfl⟩;replace b2:H12 i2=some (.obj [.v (.int .i64 s.tick), .sl (s.cases.map bM) .no, .sl (s.reviews.map fP) .no, .sl (s.notices.map kM) .no, .sl (s.roles.map dD) .no, .s pid, .v (.bool pset), .v (.int .i64 palg), .sl (ptgt.map cG) .no, .sl (prules.map aA) .no, .sl (pkids.map aJ) .no, .sl (pobls.map bk) .no, .v (.int .i64 s.version)] 36):=by rw [←eH12,ag _ _ n9_2.symm]; exact b2
 replace b3:H12 i3=some (.obj [.v (.int .i64 o.kind), .s o.subj, .s o.case, .s o.field, .s o.to, .v (.int .i64 o.val.kind), .v (.int .i64 o.val.n), .s o.val.s, .v (.int .i64 o.review), .s o.text, .s o.reason, .v (.bool o.glass)] 44):=by rw [←eH12,ag _ _ n9_3.symm]; exact b3
 replace b4:H12 i4=some (.obj [.v (.int .i64 0), .sl [] .full, .sl [] .full, .sl [] .full, .sl [] .full, .s [], .v (.bool false), .v (.int .i64 0), .sl [] .full, .sl [] .full, .sl [] .full, .sl [] .full, .v (.int .i64 0)] 36):=by rw [←eH12,ag _ _ n9_4.symm]; exact b4
 replace b5:H12 i5=some (.obj [.v (.int .i64 0), .v (.complex .f64 0 0), .v (.bool false), .v (.int .i64 0), .v (.int .i64 0), .s [], .v (.bool false), .v (.int .i64 0)] 76):=by rw [←eH12,ag _ _ n9_5.symm]; exact b5
 replace b6:H12 i6=some (.obj [.v (.int .i64 0), .s [], .s [], .s [], .s [], .v (.int .i64 0), .v (.int .i64 0), .s [], .v (.int .i64 0), .s [], .s [], .v (.bool false), .v (.int .i64 0), .v (.complex .f64 0 0), .v (.bool false), .sl [] .full] 78):=by rw [←eH12,ag _ _ n9_6.symm]; exact b6
 replace b8:H12 i8=some (.obj [.v (.complex .f64 (hbit m.1) (hbit m.2)), .sl (ob.map bk) .no] 85):=by rw [←eH12,ag _ _ n9_8.symm]; exact b8
 replace b10:H12 i10=some (.obj [.v (.int .i64 0), .sl [] .full, .sl [] .full, .sl [] .full, .sl [] .full, .s [], .v (.bool false), .v (.int .i64 0), .sl [] .full, .sl [] .full, .sl [] .full, .sl [] .full, .v (.int .i64 0)] 36):=by rw [←eH12,ag _ _ n10_9]; exact b10
 replace b9:H12 i9=some (.obj [.v (.int .i64 0), .v (.complex .f64 (hbit m.1) (hbit m.2)), .v (.bool gl), .v (.int .i64 0), .v (.int .i64 0), .s [], .v (.bool false), .v (.int .i64 0)] 76):=by rw [←eH12,ah]
 replace sg:Ab.Sub g H12:=by rw [←eH12]; exact sg.put q9 _
 rw [eH12];clear eH12;obtain ⟨dn,edn⟩:∃dn,(decide (m=aT)||gl)=dn:=⟨_,rfl⟩
 have hdn:qb s o=dn:=by unfold qb; rw [hmk,hgl]; exact edn
 have pe:=(nb hm6.m9).pe;refine .cut (fun ρ H' =>H' =H12∧lk ρ 2=some (.ptr i2 0)∧lk ρ 3=some (.ptr i3 0)∧lk ρ 4=some (.ptr i4 0)∧lk ρ 5=some (.ptr i5 0)∧lk ρ 6=some (.ptr i6 0)∧lk ρ 8=some (.ptr i8 0)∧lk ρ 9=some (.ptr i9 0)∧lk ρ 10=some (.ptr i10 0)∧lk ρ 11=some (.v (.bool dn))∧lk ρ 13=some (.v (.int .i64 (jo s o).2))) ?_ ?_
 ·refine .vc hU hm ?_
  cases dp:(m==aT)
  ·have e1:decide (m=aT)=false:=decide_eq_false (by simpa using dp)
   rw [e1,Bool.false_or] at edn;simp -implicitDefEqProofs only [go_sem,r8,r9,b8,b9,pe,dp];refine ⟨rfl, ?_, ?_, ?_, ?_, ?_, ?_, ?_, ?_, ?_, ?_⟩<;>simp -implicitDefEqProofs only [go_sem,r2,r3,r4,r5,r6,r8,r9,r10,r13,edn]
  ·have e1:decide (m=aT)=true:=decide_eq_true (by simpa using dp)
   rw [e1,Bool.true_or] at edn;simp -implicitDefEqProofs only [go_sem,r8,b8,pe,dp];refine ⟨rfl, ?_, ?_, ?_, ?_, ?_, ?_, ?_, ?_, ?_, ?_⟩<;>simp -implicitDefEqProofs only [go_sem,r2,r3,r4,r5,r6,r8,r9,r10,r13,edn]
 clear r2 r3 r4 r5 r6 r8 r9 r10 r11 r12 r13
 rintro ρ H' ⟨rfl,r2,r3,r4,r5,r6,r8,r9,r10,r11,r13⟩
 have how:=fun G=>IA s hG.few G
 rw [hst] at how;refine .one hU hm ?_;simp -implicitDefEqProofs only [go_sem,r2,b2];refine (how _).mono fun r H13 ⟨y1,y2,y3,er,hown,hs13⟩=> ?_
 subst er;rw [oh hpp];simp only [di];simp -implicitDefEqProofs only [go_sem,r10,hs13 _ _ b10];obtain ⟨H14,e14⟩:∃H14,upd H13 i10 (some (.obj [.v (.int .i64 s.tick),y1,y2,y3, .sl (s.roles.map dD) .no, .s pid, .v (.bool pset), .v (.int .i64 palg), .sl (ptgt.map cG) .no, .sl (prules.map aA) .no, .sl (pkids.map aJ) .no, .sl (pobls.map bk) .no, .v (.int .i64 s.version)] 36))=H14:=⟨_,rfl⟩;have hS:GSt H' H14 i10 s s.cases.length:=⟨y1,y2,y3,di s.roles,by rw [←e14,ah,oh hpp]; rfl,hown.keep (fun q hq _=>by rw [←e14]; exact ag _ _ fun e=>by rw [e,b10] at hq; cases hq),by rw [b10]; simp,fun i b hi hb=>by rw [←e14,ag _ _ hi]; exact hs13 _ _ hb⟩
 rw [e14];clear e14;have sGB:=sg;have hroom:s.reviews.length≤1000:=hG.nrev;refine .cut (fun ρ H2=>GSt H' H2 i10 (if gl=true then cS s o o.reason else s) s.cases.length∧lk ρ 2=some (.ptr i2 0)∧lk ρ 3=some (.ptr i3 0)∧lk ρ 4=some (.ptr i4 0)∧lk ρ 5=some (.ptr i5 0)∧lk ρ 6=some (.ptr i6 0)∧lk ρ 8=some (.ptr i8 0)∧lk ρ 9=some (.ptr i9 0)∧lk ρ 10=some (.ptr i10 0)∧lk ρ 11=some (.v (.bool dn))∧lk ρ 13=some (.v (.int .i64 (jo s o).2))) ?_ ?_
 ·refine .vc hU hm ?_
  have c9:=hS.at n10_9.symm b9;have c3:=hS.at n10_3.symm b3;have hop:=Ar hS o o.reason ho.1 (by omega)
  simp only [opA,opC] at hop;cases gl
  ·simp -implicitDefEqProofs only [go_sem,r9,c9]
   refine ⟨hS, ?_, ?_, ?_, ?_, ?_, ?_, ?_, ?_, ?_, ?_⟩<;>simp -implicitDefEqProofs only [go_sem,r2,r3,r4,r5,r6,r8,r9,r10,r11,r13]
  ·simp -implicitDefEqProofs only [go_sem,r3,r9,r10,c9,c3]
   refine hop.mono fun r H3 h3=> ?_
   simp -implicitDefEqProofs only [go_sem];refine ⟨h3, ?_, ?_, ?_, ?_, ?_, ?_, ?_, ?_, ?_, ?_⟩<;>simp -implicitDefEqProofs only [go_sem,r2,r3,r4,r5,r6,r8,r9,r10,r11,r13]
 clear hS r2 r3 r4 r5 r6 r8 r9 r10 r11 r13
 rintro ρ H2 ⟨hS,r2,r3,r4,r5,r6,r8,r9,r10,r11,r13⟩
 have hbd:cC s o=cO (if dn=true then dw aN (if gl=true then cS s o o.reason else s) o else (if gl=true then cS s o o.reason else s)) o ob dn:=by
  unfold cC;rw [hgl,hdn,hmk]
 have hO1:cN k (if gl=true then cS s o o.reason else s):=by
  split
  ·exact yJ o _ hG.tocN (by have:=hG.nr; omega)
  ·exact hG.tocN
 have hc1:(if gl=true then cS s o o.reason else s).cases=s.cases:=by split<;>rfl
 have hp1:(if gl=true then cS s o o.reason else s).policy= .mk pid pset palg ptgt prules pkids pobls:=by split<;>exact hpp
 have hg1:oS 999 (if gl=true then cS s o o.reason else s):=by
  have h1:=hG.nr;have h2:=hG.nn;have h3:=fun c hc=>(hG.case c hc).log2
  split
  ·exact ⟨fun c hc=>by have:=h3 c hc; omega,by simp only [cS,Uk,List.length_singleton]; omega,by simp only [cS]; omega⟩
  ·exact ⟨fun c hc=>by have:=h3 c hc; omega,by omega,by omega⟩
 have hr1:bD (if gl=true then cS s o o.reason else s) o=0:=by
  split
  ·rename_i hgt
   have hgo:=uC hform (zN (hgl.trans hgt));rw [←hr0];unfold bD;have k5:o.kind≠5:=by omega
   have k6:o.kind≠6:=by omega
   have k8:o.kind≠8:=by omega
   simp only [k5,k6,k8,if_false];rfl
  ·exact hr0
 obtain ⟨s1,es1⟩:∃s1,(if gl=true then cS s o o.reason else s)=s1:=⟨_,rfl⟩
 rw [es1] at hS hbd hO1 hc1 hp1 hg1 hr1;have hre:mD s o=⟨if dn=true then 0 else 12,m,gl,if (dn && o.kind==2 && !iN ob o.field)=true then dQ (bl s.cases o.case).fields o.field else az,dn && o.kind==2 && iN ob o.field,0⟩:=by
  unfold mD;rw [hgl,hdn,hmk]
 have hve:=hO1.ver;have b9n:H' i9≠none:=by rw [b9]; simp
 refine .cut (fun ρ H3=>lk ρ 2=some (.ptr i2 0)∧lk ρ 3=some (.ptr i3 0)∧lk ρ 4=some (.ptr i4 0)∧lk ρ 5=some (.ptr i5 0)∧lk ρ 6=some (.ptr i6 0)∧lk ρ 8=some (.ptr i8 0)∧lk ρ 9=some (.ptr i9 0)∧lk ρ 10=some (.ptr i10 0)∧lk ρ 11=some (.v (.bool dn))∧lk ρ 13=some (.v (.int .i64 (jo s o).2))∧∃(GB:Heap) (j:Nat),GSt GB H3 i10 (if dn=true then dw aN s1 o else s1) j∧Ab.Sub g GB∧(dn=true→gr (if dn=true then dw aN s1 o else s1).cases o.case<(if dn=true then dw aN s1 o else s1).cases.length→o.kind≠6→j=gr (if dn=true then dw aN s1 o else s1).cases o.case)∧GB i2=some (.obj [.v (.int .i64 s.tick), .sl (s.cases.map bM) .no, .sl (s.reviews.map fP) .no, .sl (s.notices.map kM) .no, .sl (s.roles.map dD) .no, .s pid, .v (.bool pset), .v (.int .i64 palg), .sl (ptgt.map cG) .no, .sl (prules.map aA) .no, .sl (pkids.map aJ) .no, .sl (pobls.map bk) .no, .v (.int .i64 s.version)] 36)∧GB i3=some (.obj [.v (.int .i64 o.kind), .s o.subj, .s o.case, .s o.field, .s o.to, .v (.int .i64 o.val.kind), .v (.int .i64 o.val.n), .s o.val.s, .v (.int .i64 o.review), .s o.text, .s o.reason, .v (.bool o.glass)] 44)∧GB i4=some (.obj [.v (.int .i64 0), .sl [] .full, .sl [] .full, .sl [] .full, .sl [] .full, .s [], .v (.bool false), .v (.int .i64 0), .sl [] .full, .sl [] .full, .sl [] .full, .sl [] .full, .v (.int .i64 0)] 36)∧GB i5=some (.obj [.v (.int .i64 0), .v (.complex .f64 0 0), .v (.bool false), .v (.int .i64 0), .v (.int .i64 0), .s [], .v (.bool false), .v (.int .i64 0)] 76)∧GB i6=some (.obj [.v (.int .i64 0), .s [], .s [], .s [], .s [], .v (.int .i64 0), .v (.int .i64 0), .s [], .v (.int .i64 0), .s [], .s [], .v (.bool false), .v (.int .i64 0), .v (.complex .f64 0 0), .v (.bool false), .sl [] .full] 78)∧GB i8=some (.obj [.v (.complex .f64 (hbit m.1) (hbit m.2)), .sl (ob.map bk) .no] 85)∧GB i9=some (.obj [.v (.int .i64 (if dn=true then 0 else 12)), .v (.complex .f64 (hbit m.1) (hbit m.2)), .v (.bool gl), .v (.int .i64 (if (dn && o.kind==2 && !iN ob o.field)=true then dQ (bl s.cases o.case).fields o.field else az).kind), .v (.int .i64 (if (dn && o.kind==2 && !iN ob o.field)=true then dQ (bl s.cases o.case).fields o.field else az).n), .s (if (dn && o.kind==2 && !iN ob o.field)=true then dQ (bl s.cases o.case).fields o.field else az).s, .v (.bool (dn && o.kind==2 && iN ob o.field)), .v (.int .i64 0)] 76)) ?_ ?_
 ·refine .vc hU hm ?_
  have c9:=hS.at n10_9.symm b9;have c3:=hS.at n10_3.symm b3;have c8:=hS.at n10_8.symm b8;have c2:=hS.at n10_2.symm b2;cases dn
  ·simp -implicitDefEqProofs only [go_sem,r9,r11,c9]
   refine ⟨?_, ?_, ?_, ?_, ?_, ?_, ?_, ?_, ?_, ?_,upd H' i9 _,s.cases.length,hS.put n10_9.symm b9n _,sGB.put q9 _,fun e=>(by cases e),by rw [ag _ _ n9_2.symm]; exact b2,by rw [ag _ _ n9_3.symm]; exact b3,by rw [ag _ _ n9_4.symm]; exact b4,by rw [ag _ _ n9_5.symm]; exact b5,by rw [ag _ _ n9_6.symm]; exact b6,by rw [ag _ _ n9_8.symm]; exact b8,ah ..⟩<;>simp -implicitDefEqProofs only [go_sem,r2,r3,r4,r5,r6,r8,r9,r10,r11,r13]
  ·obtain ⟨z1,z2,z3,z4,hk10,hrd⟩:=hS.rd
   have sH2:Ab.Sub g H2:=hS.sub sGB q10;have hdo:=FR hrd o hO1.few hO1.kE ho.2.2.2 hO1.Cw ⟨hve.1,by omega⟩ (he.sub sH2)
   have hjj:=fun hx (_:o.kind≠6)=>Iu (o:=o) hO1 hr1 hx
   rw [oh hp1] at hk10 hdo;simp only [opA,opC] at hdo;simp -implicitDefEqProofs only [go_sem,r3,r10,r11,hk10,c3];refine hdo.mono fun r H3 ⟨hs3,j,hOS,hj⟩=> ?_
   have hj:=hj hr1;obtain ⟨x1,x2,x3,x4,er,hOP⟩:=hOS.parts;subst er;obtain ⟨did,dset,dalg,dtgt,drules,dkids,dobls,hpd⟩:=GR (dw aN s1 o).policy;rw [oh hpd];have k10:=hs3 _ _ hk10;obtain ⟨H4,e4⟩:∃H4,upd H3 i10 (some (.obj [.v (.int .i64 (dw aN s1 o).tick),x1,x2,x3,x4, .s did, .v (.bool dset), .v (.int .i64 dalg), .sl (dtgt.map cG) .no, .sl (drules.map aA) .no, .sl (dkids.map aJ) .no, .sl (dobls.map bk) .no, .v (.int .i64 (dw aN s1 o).version)] 36))=H4:=⟨_,rfl⟩;have hS4:GSt H' H4 i10 (dw aN s1 o) j:=by
    obtain ⟨_,_,_,_,_,_,hgk,hfr⟩:=hS;refine ⟨x1,x2,x3,x4,by rw [←e4,ah,oh hpd],(hOP.keep fun q hq _=>by rw [←e4]; exact ag _ _ fun e=>by rw [e,hk10] at hq; cases hq).bC fun q hq=> ?_,hgk,fun i b hi hb=>by rw [←e4,ag _ _ hi]; exact hs3 _ _ (hfr i b hi hb)⟩
    cases hh:H' q with
    |none=>rfl
    |some b=>
     by_cases e:q=i10
     ·rw [e,hk10] at hq; cases hq
     ·rw [hfr q b e hh] at hq; cases hq
   have d9:=hS4.at n10_9.symm b9;have d3:=hS4.at n10_3.symm b3;have d8:=hS4.at n10_8.symm b8;have d2:=hS4.at n10_2.symm b2;have hjx:true=true→gr (dw aN s1 o).cases o.case<(dw aN s1 o).cases.length→o.kind≠6→j=gr (dw aN s1 o).cases o.case:=fun _ hx h6=>hj.trans (hjj hx h6)
   have hhi:=fun G=>F6 ob (by omega) o.field G
   simp only [ax] at hhi;have hca:=fun G=>tI (rdS G s) o.case hG.few
   rw [hst] at hca;have hcf:(bl s.cases o.case).fields.length≤1000000000:=by
    unfold bl;split
    ·by_cases hlt:findD s.cases o.case<s.cases.length
     ·rw [show s.cases.getD (findD s.cases o.case) kI=s.cases[findD s.cases o.case] by simp [List.getD,List.getElem?_eq_getElem hlt]]
      have:=(hG.case _ (Ul hlt)).nfields;omega
     ·rw [show s.cases.getD (findD s.cases o.case) kI=kI by simp [List.getD,List.getElem?_eq_none (Nat.le_of_not_lt hlt)]]
      exact Nat.zero_le _
    ·exact Nat.zero_le _
   have hfd:=fun G=>zF (rdC G (bl s.cases o.case)) o.field hcf
   simp only [bM,ko,fy,oQ] at hca hfd;simp -implicitDefEqProofs only [go_sem,r3,r10,k10];rw [e4];clear e4;cases d7:(o.kind==2)
   ·simp -implicitDefEqProofs only [go_sem,r3,r9,d9,d3,d7,n9_3.symm]
    refine ⟨?_, ?_, ?_, ?_, ?_, ?_, ?_, ?_, ?_, ?_,upd H' i9 _,j,hS4.put n10_9.symm b9n _,sGB.put q9 _,(fun _=>hjx rfl),by rw [ag _ _ n9_2.symm]; exact b2,by rw [ag _ _ n9_3.symm]; exact b3,by rw [ag _ _ n9_4.symm]; exact b4,by rw [ag _ _ n9_5.symm]; exact b5,by rw [ag _ _ n9_6.symm]; exact b6,by rw [ag _ _ n9_8.symm]; exact b8,ah ..⟩<;>simp -implicitDefEqProofs only [go_sem,r2,r3,r4,r5,r6,r8,r9,r10,r11,r13]
   ·simp -implicitDefEqProofs only [go_sem,r3,r8,d3,d8,d7]
    refine (hhi _).pthen ?_;cases hh:iN ob o.field
    ·simp -implicitDefEqProofs only [go_sem,r2,r3,r9,d9,d3,d2,d7,n9_2.symm,n9_3.symm]
     refine (hca _).pthen ?_;simp -implicitDefEqProofs only [go_sem];intro i14 h14;have t9:i14≠i9:=fun e=>by rw [e,ah] at h14; cases h14
     have t3:i14≠i3:=fun e=>by rw [e,ag _ _ n9_3.symm,d3] at h14; cases h14
     simp -implicitDefEqProofs only [go_sem,r3,d3,n9_3.symm,t3.symm];refine (hfd _).pthen ?_;simp -implicitDefEqProofs only [go_sem,r9,t9.symm,aS];refine ⟨?_, ?_, ?_, ?_, ?_, ?_, ?_, ?_, ?_, ?_,upd (upd H' i9 _) i9 _,j,((hS4.put n10_9.symm b9n _).same (.ai h14)).put n10_9.symm (by rw [ah]; simp) _,(sGB.put q9 _).put q9 _,(fun _=>hjx rfl),by rw [ag _ _ n9_2.symm,ag _ _ n9_2.symm]; exact b2,by rw [ag _ _ n9_3.symm,ag _ _ n9_3.symm]; exact b3,by rw [ag _ _ n9_4.symm,ag _ _ n9_4.symm]; exact b4,by rw [ag _ _ n9_5.symm,ag _ _ n9_5.symm]; exact b5,by rw [ag _ _ n9_6.symm,ag _ _ n9_6.symm]; exact b6,by rw [ag _ _ n9_8.symm,ag _ _ n9_8.symm]; exact b8,ah ..⟩<;>simp -implicitDefEqProofs only [go_sem,r2,r3,r4,r5,r6,r8,r9,r10,r11,r13]
    ·simp -implicitDefEqProofs only [go_sem,r3,r9,d9,d3,d7,n9_3.symm]
     refine ⟨?_, ?_, ?_, ?_, ?_, ?_, ?_, ?_, ?_, ?_,upd H' i9 _,j,hS4.put n10_9.symm b9n _,sGB.put q9 _,(fun _=>hjx rfl),by rw [ag _ _ n9_2.symm]; exact b2,by rw [ag _ _ n9_3.symm]; exact b3,by rw [ag _ _ n9_4.symm]; exact b4,by rw [ag _ _ n9_5.symm]; exact b5,by rw [ag _ _ n9_6.symm]; exact b6,by rw [ag _ _ n9_8.symm]; exact b8,ah ..⟩<;>simp -implicitDefEqProofs only [go_sem,r2,r3,r4,r5,r6,r8,r9,r10,r11,r13]
 clear hS b2 b3 b4 b5 b6 b8 b9 b10 r2 r3 r4 r5 r6 r8 r9 r10 r11 r13
 rintro ρ H3 ⟨r2,r3,r4,r5,r6,r8,r9,r10,r11,r13,GB,j,hS,sG2,hjx,b2,b3,b4,b5,b6,b8,b9⟩
 have hO2:cN (k+1) (if dn=true then dw aN s1 o else s1):=by
  split
  ·exact mH o hO1
  ·exact {hO1 with ver:=⟨hO1.ver.1,by have:=hO1.ver.2; omega⟩}
 obtain ⟨s2,es2⟩:∃s2,(if dn=true then dw aN s1 o else s1)=s2:=⟨_,rfl⟩
 rw [es2] at hS hjx hbd hO2;have hdu:=BA hS o ho.1 ob (by omega) dn (by have:=hO2.ncases; omega) ⟨fun c hc=>by have:=(hO2.case c hc).log2; omega,hO2.nrev,hO2.nnot⟩ hjx
 rw [←hbd] at hdu;simp only [opA,opC,ax] at hdu;have c3:=hS.at n10_3.symm b3;have c8:=hS.at n10_8.symm b8;refine .one hU hm ?_;simp -implicitDefEqProofs only [go_sem,r3,r8,r10,r11,c3,c8];refine hdu.mono fun r H4 h4=> ?_
 simp -implicitDefEqProofs only [go_sem];clear c3 c8 hdu hS;have hat:(jo s o).2=0:=by
  unfold jo at ee⊢;split
  ·rename_i hc; rw [if_pos hc] at ee; exact ED ee
  ·rfl
 have hbl:(cC s o).cases.length≤1000000:=by
  rw [hbd,uq];have:=hO2.ncases;omega
 obtain ⟨x1,x2,x3,x4,k10,hOP,_,_⟩:=id h4;have hov:=GJ hOP.rd hbl;obtain ⟨did,dset,dalg,dtgt,drules,dkids,dobls,hpd⟩:=GR (cC s o).policy;have hfz:∀H5,(∀q,GB q=none→H5 q=H4 q)→Frz g H5 (.agg (stC (cC s o) x1 x2 x3 x4)) (dj (cC s o)):=fun H5 hq=>((hOP.keep fun q hg _=>hq q hg).bC fun q hg=>by
  cases hh:g q with
  |none=>rfl
  |some b=>rw [sG2 _ _ hh] at hg; cases hg).frz
 rw [oh hpd] at k10 hov hfz;have c2:=h4.at n10_2.symm b2;have c3:=h4.at n10_3.symm b3;have c4:=h4.at n10_4.symm b4;have c5:=h4.at n10_5.symm b5;have c6:=h4.at n10_6.symm b6;have c8:=h4.at n10_8.symm b8;have c9:=h4.at n10_9.symm b9;have sg4:Ab.Sub g H4:=h4.sub sG2 q10;refine .one hU hm ?_;simp -implicitDefEqProofs only [go_sem,r10,k10];refine hov.pthen ?_;cases dov:oX (cC s o)
 case true=>
  simp -implicitDefEqProofs only [go_sem,r2,r4,r5,r6,r13];exact ⟨0,6,0,sg4,c2,c4,c5,c6,rfl,by rw [hat],by unfold cu; rw [if_neg (by rw [ee]; simp),if_pos dov]⟩
 have hgd:cu s o=(cC s o,⟨if dn=true then 0 else 12,m,gl,if (dn && o.kind==2 && !iN ob o.field)=true then dQ (bl s.cases o.case).fields o.field else az,dn && o.kind==2 && iN ob o.field,0⟩,⟨o,s.version,m,gl,ob⟩,0):=by
  unfold cu;rw [if_neg (by rw [ee]; simp),if_neg (by rw [dov]; decide),hre,hmk,hgl]
 simp -implicitDefEqProofs only [go_sem];have p2:=(bu (H:=H4) (l:= [i2,i3,i8,i9,i10]) (show i2∈ [i2,i3,i8,i9,i10] by simp)).trans c2
 have p3:=(bu (H:=H4) (l:= [i2,i3,i8,i9,i10]) (show i3∈ [i2,i3,i8,i9,i10] by simp)).trans c3
 have p8:=(bu (H:=H4) (l:= [i2,i3,i8,i9,i10]) (show i8∈ [i2,i3,i8,i9,i10] by simp)).trans c8
 have p9:=(bu (H:=H4) (l:= [i2,i3,i8,i9,i10]) (show i9∈ [i2,i3,i8,i9,i10] by simp)).trans c9
 have p10:=(bu (H:=H4) (l:= [i2,i3,i8,i9,i10]) (show i10∈ [i2,i3,i8,i9,i10] by simp)).trans k10
 have t4:pick H4 [i2,i3,i8,i9,i10] i4=none:=by simp [pick,n4_2,n4_3,n8_4.symm,n9_4.symm,n10_4.symm]
 have t5:pick H4 [i2,i3,i8,i9,i10] i5=none:=by simp [pick,n5_2,n5_3,n8_5.symm,n9_5.symm,n10_5.symm]
 have t6:pick H4 [i2,i3,i8,i9,i10] i6=none:=by simp [pick,n6_2,n6_3,n8_6.symm,n9_6.symm,n10_6.symm]
 refine .one hU hm ?_;simp -implicitDefEqProofs only [go_sem];refine .calls (pick H4 [i2,i3,i8,i9,i10]) [0,1,2,3,4,5,6,7,8,9,10,11,12,13,14,15] bJ (by kernel_rfl) rfl ?_
 simp -implicitDefEqProofs only [go_sem,r2,r3,r4,r5,r6,r8,r9,r10,p2,p3,p8,p9,p10,c4,c5,c6,n5_4,n5_4.symm,n6_4,n6_4.symm,n6_5,n6_5.symm];refine ⟨bJ.put t4 _,(bJ.put t4 _).put t5 _,((bJ.put t4 _).put t5 _).put t6 _, ?_⟩;refine .mk _ (.refl _) (.refl _) ⟨((sg4.put q4 _).put q5 _).put q6 _,_, ?_,rfl⟩;rw [hgd,←oh hpd];exact xb (S:=cC s o) ⟨if dn=true then 0 else 12,m,gl,if (dn && o.kind==2 && !iN ob o.field)=true then dQ (bl s.cases o.case).fields o.field else az,dn && o.kind==2 && iN ob o.field,0⟩ ⟨o,s.version,m,gl,ob⟩ 0 (by
  rw [oh hpd];exact hfz _ fun q hq=>by
   have x6:q≠i6:=fun e=>by rw [e,b6] at hq; cases hq
   have x5:q≠i5:=fun e=>by rw [e,b5] at hq; cases hq
   have x4:q≠i4:=fun e=>by rw [e,b4] at hq; cases hq
   rw [ag _ _ x6,ag _ _ x5,ag _ _ x4]) .no
theorem Hl:o8 1 oY:=by have h:=nF pq uE; rw [JT] at h; exact h
theorem Ci:o8 2 jK:=by have h:=nF Bz Hl; rw [JU] at h; exact h
theorem Lv:o8 3 oZ:=by have h:=nF Am Ci; rw [JV] at h; exact h
set_option maxRecDepth 100000 in
theorem yy (h:Heap) (he:tq h):ak Tryz.prog 5 [] h fun r h' =>r= .v (.bool true)∧h' =h:=by
 have hh1:=fun (G:Heap) (hG:Ab.Sub h G)=>l6 wg uE (by decide) pq ⟨⟨by decide,by decide⟩,⟨by decide,by decide⟩,⟨by decide,by decide⟩,⟨by decide,by decide⟩⟩ G (he.sub hG)
 have hh2:=fun (G:Heap) (hG:Ab.Sub h G)=>l6 oY Hl (by decide) Bz ⟨⟨by decide,by decide⟩,⟨by decide,by decide⟩,⟨by decide,by decide⟩,⟨by decide,by decide⟩⟩ G (he.sub hG)
 have hh3:=fun (G:Heap) (hG:Ab.Sub h G)=>l6 jK Ci (by decide) Ex ⟨⟨by decide,by decide⟩,⟨by decide,by decide⟩,⟨by decide,by decide⟩,⟨by decide,by decide⟩⟩ G (he.sub hG)
 have hh4:=fun (G:Heap) (hG:Ab.Sub h G)=>l6 jK Ci (by decide) Am ⟨⟨by decide,by decide⟩,⟨by decide,by decide⟩,⟨by decide,by decide⟩,⟨by decide,by decide⟩⟩ G (he.sub hG)
 have e1:fU (cu wg pq)= .tup [dj oY, .agg [.v (.int .i64 0), .v (.complex .f64 4607182418800017408 0), .v (.bool false), .v (.int .i64 0), .v (.int .i64 0), .s [], .v (.bool false), .v (.int .i64 0)], .agg (yp ⟨pq,0,aT,false,[]⟩), .v (.int .i64 0)]:=by rw [JT]; rfl
 have e2:fU (cu oY Bz)= .tup [dj jK, .agg [.v (.int .i64 0), .v (.complex .f64 4607182418800017408 0), .v (.bool false), .v (.int .i64 0), .v (.int .i64 0), .s [], .v (.bool false), .v (.int .i64 0)], .agg (yp ⟨Bz,0,aT,false,[]⟩), .v (.int .i64 0)]:=by rw [JU]; rfl
 have e3:fU (cu jK Ex)= .tup [dj jK, .agg [.v (.int .i64 12), .v (.complex .f64 0 4607182418800017408), .v (.bool false), .v (.int .i64 0), .v (.int .i64 0), .s [], .v (.bool false), .v (.int .i64 0)], .agg (yp ⟨Ex,1,bV,false,[]⟩), .v (.int .i64 0)]:=by rw [N3]; rfl
 have e4:fU (cu jK Am)= .tup [dj oZ, .agg [.v (.int .i64 0), .v (.complex .f64 0 4607182418800017408), .v (.bool true), .v (.int .i64 0), .v (.int .i64 0), .s [], .v (.bool false), .v (.int .i64 0)], .agg (yp ⟨Am,1,bV,true,[]⟩), .v (.int .i64 0)]:=by rw [JV]; rfl
 rw [e1] at hh1;rw [e2] at hh2;rw [e3] at hh3;rw [e4] at hh4;simp only [yp,opC,aO,ax,List.map_nil,List.cons_append,List.nil_append] at hh1 hh2 hh3 hh4;have es1:dj oY= .agg [.v (.int .i64 0), .sl [] .no, .sl [] .no, .sl [] .no,di oY.roles, .s gw, .v (.bool false), .v (.int .i64 6), .sl [] .no, .sl [] .no, .sl [] .no, .sl [] .no, .v (.int .i64 0)]:=rfl;have es2:dj jK= .agg [.v (.int .i64 0), .sl [] .no, .sl [] .no, .sl [] .no,di jK.roles, .s [112], .v (.bool false), .v (.int .i64 5), .sl [] .no, .sl [] .no, .sl [] .no, .sl [] .no, .v (.int .i64 1)]:=rfl;have es3:dj oZ= .agg [.v (.int .i64 0),je oZ.cases, .sl [fP vE] .no, .sl [] .no,di oZ.roles, .s [112], .v (.bool false), .v (.int .i64 5), .sl [] .no, .sl [] .no, .sl [] .no, .sl [] .no, .v (.int .i64 1)]:=rfl;have hc:=fun (G:Heap)=>tI (rdS G oZ) cT Lv.few
 rw [es3] at hc;refine ak.body hU hm Tryz.func5 rfl (by kernel_rfl) 100 rfl [.tmp 0] rfl (Uf rfl) (fun hwf=> ?_)
 simp only [go_sem];refine (Lf _ he).pthen ?_;simp only [go_sem];refine (show ak Tryz.prog _ [dj wg,opA pq] _ _ from hh1 _ (.refl _)).pthen ?_
 rw [es1];simp only [go_sem];intro i1 h1;simp only [go_sem];intro i2 h2;have n21:=aH h2;simp only [go_sem];intro i3 h3;have n32:=aH h3;have n31:=aH (aE h3);simp only [go_sem,aj,n21,n21.symm,n31,n31.symm,n32,n32.symm];refine inH fun H1 w1=> ?_
 have t2:=aE h2;have t3:=aE (aE h3);have s1:Ab.Sub h H1:=by rw [w1]; exact (((((Ab.Sub.ai h1).put t2 _).put t3 _).put h1 _).put t2 _).put t3 _
 have g1:H1 i1=some (.obj [.v (.int .i64 0), .sl [] .no, .sl [] .no, .sl [] .no,di oY.roles, .s gw, .v (.bool false), .v (.int .i64 6), .sl [] .no, .sl [] .no, .sl [] .no, .sl [] .no, .v (.int .i64 0)] 36):=by rw [w1,ag _ _ n31.symm,ag _ _ n21.symm,ah]
 clear w1;refine (show ak Tryz.prog _ [.agg [.v (.int .i64 0), .sl [] .no, .sl [] .no, .sl [] .no,di oY.roles, .s gw, .v (.bool false), .v (.int .i64 6), .sl [] .no, .sl [] .no, .sl [] .no, .sl [] .no, .v (.int .i64 0)],opA Bz] _ _ from hh2 _ s1).pthen ?_
 rw [es2];simp only [go_sem];intro i5 h5;have n51:i5≠i1:=fun e=>by rw [e,g1] at h5; cases h5
 simp only [go_sem];intro i6 h6;have n65:=aH h6;have t6:=aE h6;have n61:i6≠i1:=fun e=>by rw [e,g1] at t6; cases t6
 simp only [go_sem,g1,aj,n51,n51.symm,n61,n61.symm,n65,n65.symm];refine inH fun H2 w2=> ?_
 have s2:Ab.Sub h H2:=by rw [w2]; exact ((((s1.put (s1.none h5) _).put (s1.none t6) _).put h1 _).put (s1.none h5) _).put (s1.none t6) _
 have g2:H2 i1=some (.obj [.v (.int .i64 0), .sl [] .no, .sl [] .no, .sl [] .no,di jK.roles, .s [112], .v (.bool false), .v (.int .i64 5), .sl [] .no, .sl [] .no, .sl [] .no, .sl [] .no, .v (.int .i64 1)] 36):=by rw [w2,ag _ _ n61.symm,ag _ _ n51.symm,ah]
 clear w2 g1 s1;refine (show ak Tryz.prog _ [.agg [.v (.int .i64 0), .sl [] .no, .sl [] .no, .sl [] .no,di jK.roles, .s [112], .v (.bool false), .v (.int .i64 5), .sl [] .no, .sl [] .no, .sl [] .no, .sl [] .no, .v (.int .i64 1)],opA Ex] _ _ from hh3 _ s2).pthen ?_
 rw [es2];simp only [go_sem];intro i8 h8;have n81:i8≠i1:=fun e=>by rw [e,g2] at h8; cases h8
 simp only [go_sem];intro i9 h9;have n98:=aH h9;have t9:=aE h9;have n91:i9≠i1:=fun e=>by rw [e,g2] at t9; cases t9
 simp only [go_sem];intro i10 h10;have na9:=aH h10;have na8:=aH (aE h10);have t10:=aE (aE h10);have na1:i10≠i1:=fun e=>by rw [e,g2] at t10; cases t10
 simp only [go_sem,g2,aj,n81.symm,n91.symm,n98,n98.symm,na1.symm,na8,na8.symm,na9,na9.symm];refine inH fun H3 w3=> ?_
 have s3:Ab.Sub h H3:=by rw [w3]; exact (((((s2.put (s2.none h8) _).put (s2.none t9) _).put (s2.none t10) _).put (s2.none h8) _).put (s2.none t9) _).put (s2.none t10) _
 have g3:H3 i1=some (.obj [.v (.int .i64 0), .sl [] .no, .sl [] .no, .sl [] .no,di jK.roles, .s [112], .v (.bool false), .v (.int .i64 5), .sl [] .no, .sl [] .no, .sl [] .no, .sl [] .no, .v (.int .i64 1)] 36):=by rw [w3,ag _ _ na1.symm,ag _ _ n91.symm,ag _ _ n81.symm,ag _ _ na1.symm,ag _ _ n91.symm,ag _ _ n81.symm,g2]
 have g3a:H3 i9=some (.obj [.v (.int .i64 12), .v (.complex .f64 0 4607182418800017408), .v (.bool false), .v (.int .i64 0), .v (.int .i64 0), .s [], .v (.bool false), .v (.int .i64 0)] 76):=by rw [w3,ag _ _ na9.symm,ah]
 clear w3 g2 s2;refine (show ak Tryz.prog _ [.agg [.v (.int .i64 0), .sl [] .no, .sl [] .no, .sl [] .no,di jK.roles, .s [112], .v (.bool false), .v (.int .i64 5), .sl [] .no, .sl [] .no, .sl [] .no, .sl [] .no, .v (.int .i64 1)],opA Am] _ _ from hh4 _ s3).pthen ?_
 rw [es3];simp only [go_sem];intro ic hc1;have nc1:ic≠i1:=fun e=>by rw [e,g3] at hc1; cases hc1
 have nc9:ic≠i9:=fun e=>by rw [e,g3a] at hc1; cases hc1
 simp only [go_sem];intro id hd1;have ndc:=aH hd1;have td:=aE hd1;have nd1:id≠i1:=fun e=>by rw [e,g3] at td; cases td
 have nd9:id≠i9:=fun e=>by rw [e,g3a] at td; cases td
 simp only [go_sem];intro ie he1;have ned:=aH he1;have nec:=aH (aE he1);have te:=aE (aE he1);have ne1:ie≠i1:=fun e=>by rw [e,g3] at te; cases te
 have ne9:ie≠i9:=fun e=>by rw [e,g3a] at te; cases te
 simp only [go_sem,aj,ndc,ndc.symm,ned,ned.symm,nec,nec.symm];refine inH fun H4 w4=> ?_
 have s4:Ab.Sub h H4:=by rw [w4]; exact (((((s3.put (s3.none hc1) _).put (s3.none td) _).put (s3.none te) _).put (s3.none hc1) _).put (s3.none td) _).put (s3.none te) _
 have g4a:H4 i9=some (.obj [.v (.int .i64 12), .v (.complex .f64 0 4607182418800017408), .v (.bool false), .v (.int .i64 0), .v (.int .i64 0), .s [], .v (.bool false), .v (.int .i64 0)] 76):=by rw [w4,ag _ _ ne9.symm,ag _ _ nd9.symm,ag _ _ nc9.symm,ag _ _ ne9.symm,ag _ _ nd9.symm,ag _ _ nc9.symm,g3a]
 have g4t:H4 ic=some (.obj [.v (.int .i64 0),je oZ.cases, .sl [fP vE] .no, .sl [] .no,di oZ.roles, .s [112], .v (.bool false), .v (.int .i64 5), .sl [] .no, .sl [] .no, .sl [] .no, .sl [] .no, .v (.int .i64 1)] 36):=by rw [w4,ag _ _ nec.symm,ag _ _ ndc.symm,ah]
 have g4b:H4 id=some (.obj [.v (.int .i64 0), .v (.complex .f64 0 4607182418800017408), .v (.bool true), .v (.int .i64 0), .v (.int .i64 0), .s [], .v (.bool false), .v (.int .i64 0)] 76):=by rw [w4,ag _ _ ned.symm,ah]
 have g4d:H4 ie=some (.obj (yp ⟨Am,1,bV,true,[]⟩) 78):=by rw [w4,ah]; rfl
 clear w4 g3 g3a s3;refine (hc _).pthen ?_;rw [show bG oZ.cases cT=true from by kernel_rfl]
 simp only [go_sem,bM,ko,fy,oQ];intro ik hk1;have nki:∀ {i:Nat} {b:Blk},H4 i=some b→i≠ik:=fun hh e=>by rw [←e,hh] at hk1; cases hk1
 have qd:eqC (.v (.complex .f64 0 4607182418800017408)) (.v (.complex .f64 0 4607182418800017408))=true:=rfl;have qr:fP vE= .agg [.v (.int .i64 1), .v (.int .i64 0), .s [97,110,110], .s [99], .s [110,101,119], .s [102,105,114,101], .v (.bool true)]:=rfl;simp only [yp,opC,aO,ax,List.cons_append,List.nil_append] at g4d;have ix:=fun (K:AV→Prop)=>fu.eq (xs:= [fP vE]) (sz:=7) 0 (by decide) rfl K
 simp only [qr,Int.natCast_zero,List.getElem_cons_zero] at ix;simp only [go_sem,aj,nki g4a,nki g4t,nki g4b,nki g4d,g4a,g4t,g4b,g4d,qd,qr,ix];exact .mk _ (.refl _) (s4.trans (.ai hk1)) ⟨rfl,rfl⟩
theorem vZ (ev:Value) (hev:ev= .nilIface∨∃te pe,ev= .iface te pe):ak Tryz.prog 5 [] (tH [(3,yL),(2,[ev])]) fun r _=>r= .v (.bool true):=(yy _ (EW hev)).mono fun _ _ h=>h.1
end Go.Proofs.YtmlhcdeamjkpjaaGreatDoor
