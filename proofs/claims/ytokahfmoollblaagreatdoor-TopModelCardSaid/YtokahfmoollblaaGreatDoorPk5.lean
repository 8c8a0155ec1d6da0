/- The law TopModel,TopReplay: pack 5 of its texts. -/
import Derived.WalkKit
import Derived.Lib.Walk
import Derived.Lib.SliceRun
import Derived.Lib.AppendZerosOnto
import Derived.Test.YtokahfmoollblaaGreatDoorPk1
import Derived.Test.YtokahfmoollblaaGreatDoorPk2
import Derived.Test.YtokahfmoollblaaGreatDoorPk3
import Derived.Test.YtokahfmoollblaaGreatDoorPk4
set_option linter.unusedSimpArgs false
set_option linter.unusedVariables false
set_option maxRecDepth 100000
namespace Go.Bf
open Go Go.Ab Go.Proofs.YtokahfmoollblaaGreatDoor
def xD(g:bt):Int×Txt:=(g.cat,g.name)
theorem Mq(gs:List bt):(gs.Pairwise fun a b=>jg b.cat b.name a=false)↔(gs.map xD).Nodup:=by simp[List.Nodup,List.pairwise_map,bt,jg,false,xD]
theorem jC{v:bu}(h:bz v=true):AS [v]:=⟨aeR,fun w hw=>aeL⟩
theorem pN{s:Txt}(h:bp s=true):bz (idV s)=true:=by grind [bz,idV]
theorem Js{l:List ie}(h:∀r∈l,bp r.role=true)(s:Txt):AS (dG l s):=by
 have hv:∀v∈dG l s,bz v=true∧v.kind=5:=fun v hv=>by have:=List.mem_of_mem_take hv;obtain⟨r,hr,rfl⟩:=List.mem_map.1 this;exact⟨pN aeL,rfl⟩
 refine⟨by grind [dG,List.length_take],fun v hm=>⟨(hv v hm).1,fun w hw=>?_⟩⟩
 grind
theorem Me{c:UInt8}{i j:Nat}(h:tM c j=true)(hi:i≠0):tM c i=true:=by
 simp only[tM,Bool.or_eq_true,Bool.and_eq_true,decide_eq_true_eq]at h⊢
 grind
theorem Gi{n:Txt}(h:bp n=true)(hl:n.length≤14):bp ([102,95]++n)=true:=by
 simp only[bp,Bool.and_eq_true,decide_eq_true_eq]at h⊢;obtain⟨⟨h1,h2⟩,h3⟩:=h;refine⟨⟨?_,aeR⟩,aeL⟩;unfold wq at h1⊢;rw[List.all_eq_true]at h1⊢
 rintro⟨c,i⟩ hp
 rw[List.mk_mem_zipIdx_iff_getElem?]at hp
 match i,hp with
 |0,hp=>cases hp;rfl
 |1,hp=>cases hp;rfl
 |i+2,hp=>exact Me (h1 (c,i) (List.mk_mem_zipIdx_iff_getElem?.2 hp)) aeK
theorem HC{s:Txt}(h:s∈qc):bp s=true:=by simp only[qc,List.mem_cons,List.not_mem_nil,or_false]at h;rcases h with rfl|rfl|rfl|rfl<;>kernel_rfl
theorem Dh(k:Int)(h:1≤k∧k≤8):bp (iW k)=true:=by
 have:(List.range 9).all (fun n=>bp (iW n))=true:=aeZ
 have h2:=List.all_eq_true.1 this k.toNat aeL
 rwa [show((k.toNat:Nat):Int)=k by omega]at h2
theorem On(l:List xx)(s:Txt):bz (uW l s)=true:=by unfold uW;cases l.any fun x=>x.actor==s<;>rfl
theorem Jx{c:aN}(hc:u6 c)(s:Txt):∀g∈cI c s,g.cat=3∧bp g.name=true∧AS g.bag:=by
 intro g hg;simp only[cI,List.mem_append,List.mem_cons,List.not_mem_nil,or_false]at hg;rcases hg with((rfl|rfl|rfl|rfl|rfl)|hg)|hg
 ·exact⟨rfl,aeZ,jC (pN hc.id)⟩
 ·exact⟨rfl,aeZ,jC (pN hc.owner)⟩
 ·exact⟨rfl,aeZ,jC (pN (HC hc.state))⟩
 ·exact⟨rfl,aeZ,jC aeZ⟩
 ·exact⟨rfl,aeZ,jC (On _ _)⟩
 ·cases hl:c.log.getLast? with
  |none=>grind
  |some x=>rw[hl]at hg;rw[List.mem_singleton.1 hg];exact⟨rfl,aeZ,jC (pN (hc.actor x (List.mem_of_getLast? hl)).1)⟩
 ·obtain⟨f,hf,rfl⟩:=List.mem_map.1 hg
  obtain⟨hf1,hf2⟩:=List.mem_filter.1 hf;have hf2:f.name.length≤14:=aeL;obtain⟨h1,h2,_⟩:=hc.field f hf1;exact⟨rfl,Gi h1 hf2,jC h2⟩
theorem Jw{c:aN}(hc:u6 c)(s:Txt):((cI c s).map xD).Nodup:=by
 have hfn:(((c.fields.filter fun f=>decide (f.name.length≤14)).map fun f=>(⟨3,[102,95]++f.name,[f.val]⟩:bt)).map xD).Nodup:=by
  rw[List.map_map,List.Nodup,List.pairwise_map];refine((List.Pairwise.filter _ hc.asc).imp fun {a b} hab he=>?_)
  simp_all [Function.comp,xD,Prod.mk.injEq,true_and,List.append_cancel_left_eq,lt_irrefl]
 have hff:∀x∈((c.fields.filter fun f=>decide (f.name.length≤14)).map fun f=>(⟨3,[102,95]++f.name,[f.val]⟩:bt)).map xD,∃t,x=(3,102::t):=by intro x hx;obtain⟨g,hg,rfl⟩:=List.mem_map.1 hx;obtain⟨f,hf,rfl⟩:=List.mem_map.1 hg;exact⟨_,rfl⟩
 unfold cI;rw[List.map_append,List.nodup_append];refine⟨?_,hfn,?_⟩
 ·cases c.log.getLast? with
  |none=>simp[xD,idT]
  |some x=>simp[xD,idT]
 ·intro a ha b hb
  obtain⟨t,rfl⟩:=hff b hb;intro e;cases hl:c.log.getLast? with
  |none=>simp_all [xD,idT]
  |some x=>simp_all [xD,idT]
theorem Jr{k:Nat}{s:an}{o:OpD}(hs:dL k s)(hf:dH o=true):Q1 (fL s o):=by
 have F:=uc hf;have hcs:∀g∈(if cj s.cases o.case=true∧o.kind≠6 then cI (bw s.cases o.case) o.subj else []),g.cat=3∧bp g.name=true∧AS g.bag:=by
  intro g hg;split at hg
  ·rename_i ht
   exact Jx (hs.case _ (qL hs.asc ht.1).1) _ g hg
  ·cases hg
 have hcd:((if cj s.cases o.case=true∧o.kind≠6 then cI (bw s.cases o.case) o.subj else []).map xD).Nodup:=by
  split
  ·rename_i ht
   exact Jw (hs.case _ (qL hs.asc ht.1).1) _
  ·exact .nil
 have hcl:(if cj s.cases o.case=true∧o.kind≠6 then cI (bw s.cases o.case) o.subj else []).length≤22:=by
  split
  ·rename_i ht
   have hc:=hs.case _ (qL hs.asc ht.1).1;have h16:=hc.nfields;have:((bw s.cases o.case).fields.filter fun f=>decide (f.name.length≤14)).length≤(bw s.cases o.case).fields.length:=List.length_filter_le _ _
   simp only[cI,aeE,aeA,List.length_cons,List.length_nil];cases (bw s.cases o.case).log.getLast? <;>simp<;>omega
  ·simp
 unfold fL;generalize (if cj s.cases o.case=true∧o.kind≠6 then cI (bw s.cases o.case) o.subj else [])=C at hcs hcd hcl⊢
 have e1:(if o.field= []then []else [(⟨2,[102,105,101,108,100],[idV o.field]⟩:bt)])=if o.field= []then []else [(⟨2,[102,105,101,108,100],[idV o.field]⟩:bt)]:=rfl
 have hro:AS (dG s.roles o.subj):=Js (fun r hr=>(hs.role r hr).2) _
 have htk:bz ⟨4,s.tick,[]⟩=true:=by have:=hs.tick;simp[bz,this]
 have hac:=pN (Dh o.kind F.kind);have hsu:=pN F.subj;refine⟨?_,?_,?_⟩
 ·by_cases p1:o.field= []<;>by_cases p2:o.to= []<;>simp[p1,p2]<;>omega
 ·intro g hg
  simp only[List.mem_append,List.mem_cons,List.not_mem_nil,or_false]at hg;rcases hg with((((rfl|rfl|rfl)|hg)|hg)|rfl)|hg
  ·exact⟨aeR,aeR,aeN,jC hsu⟩
  ·exact⟨aeR,aeR,aeN,hro⟩
  ·exact⟨aeR,aeR,aeN,jC hac⟩
  ·split at hg
   ·cases hg
   ·rename_i hne
    rw[List.mem_singleton.1 hg];exact⟨aeR,aeR,aeN,jC (pN (kX F.field hne))⟩
  ·split at hg
   ·cases hg
   ·rename_i hne
    rw[List.mem_singleton.1 hg];exact⟨aeR,aeR,aeN,jC (pN (kX F.to hne))⟩
  ·exact⟨aeR,aeR,aeN,jC htk⟩
  ·obtain⟨h1,h2,h3⟩:=hcs g hg
   exact⟨aeK,aeK,h2,h3⟩
 ·rw[Mq,List.map_append,List.nodup_append]
  refine⟨?_,hcd,?_⟩
  ·by_cases p1:o.field= []<;>by_cases p2:o.to= []<;>simp[p1,p2,xD,idT]
  ·intro a ha b hb e
   subst e;obtain⟨g,hg,rfl⟩:=List.mem_map.1 hb;have h3:=(hcs g hg).1;have hne:∀x∈([⟨1,idT,[idV o.subj]⟩,⟨1,[114,111,108,101],dG s.roles o.subj⟩,⟨2,[110,97,109,101],[idV (iW o.kind)]⟩]++(if o.field= []then []else [⟨2,[102,105,101,108,100],[idV o.field]⟩])++(if o.to= []then []else [⟨2,[116,111],[idV o.to]⟩])++ [⟨4,[110,111,119],[⟨4,s.tick,[]⟩]⟩]:List bt),x.cat≠3:=by
    intro x hx;simp only[List.mem_append,List.mem_cons,List.not_mem_nil,or_false]at hx;rcases hx with(((rfl|rfl|rfl)|hx)|hx)|rfl
    ·simp
    ·simp
    ·simp
    ·split at hx
     ·cases hx
     ·rw[List.mem_singleton.1 hx];simp
    ·split at hx
     ·cases hx
     ·rw[List.mem_singleton.1 hx];simp
    ·simp
   obtain⟨x,hx,he⟩:=List.mem_map.1 ha;have:x.cat=g.cat:=congrArg Prod.fst he;exact hne x hx (by rw[this,h3])
def sL:an→List AV
 |⟨tick,cs,rv,nt,ro,.mk pid set alg tgt rules kids obls,ver⟩=>[.i tick,fM cs,jV rv,kE nt,dW ro,.s pid,.b set,.i alg,aW tgt,.sl (rules.map aC) .no,.sl (fF kids) .no,ay obls,.i ver]
theorem sn(s:an):bY s= .agg (sL s):=by obtain⟨tick,cs,rv,nt,ro,⟨pid,set,alg,tgt,rules,kids,obls⟩,ver⟩:=s;rfl
structure Stays (cs cs' :List aN) (id:Txt):Prop where
 len:cs'.length≤cs.length+1
 ids:∀c∈cs,∃d∈cs',d.id=c.id
 rest:∀c∈cs,c.id≠id→c∈cs'
abbrev aT:=Nat×Nat
def naM:aT:=(0,0)
def bg:aT:=(2,0)
def cJ:aT:=(0,2)
def wK:aT:=(1,0)
def wJ:aT:=(0,1)
def nq:aT:=(1,1)
def vC:List aT:=[naM,bg,cJ,wK,wJ,nq]
abbrev j3:=aT×List cC
def gX(m:aT):aT:=if m=bg then wK else if m=cJ then wJ else m
def oU(a b:aT):aT:=(max a.1 b.1,max a.2 b.2)
def Fy(m:aT):aT:=(m.2,m.1)
def rz(j:aT):aT:=
 if j.2=2 then cJ else if j.2=1∧1≤j.1 then nq else if j.2=1 then wJ else if j.1=2 then bg else if j.1=1 then wK else naM
def xP(l:List aT):aT:=l.foldl oU naM
def firstM(l:List aT):aT:=(l.find? fun m=>decide (m≠naM)).getD naM
def zV(m:aT):Bool:=decide (m=naM∨m=bg∨m=cJ)
def oZ:List aT→aT→aT
 | [],j=>j
 |m::r,j=>if zV m=false then nq else oZ r (if j=naM then m else if m≠naM then nq else j)
def iu(alg:Int)(l:List aT):aT:=
 if alg=1 then rz (xP l)
 else if alg=2 then Fy (rz (Fy (xP l)))
 else if alg=3 then firstM l
 else if alg=4 then oZ l naM
 else if alg=5 then(if bg∈l then bg else cJ)
 else if alg=6 then(if cJ∈l then cJ else bg)
 else naM
def yq(gs:List bt)(a:qD):List bu:=getD gs a.cat a.name
def nU(a b:bu):Option Bool:=
 if bz a=false∨bz b=false∨a.kind≠b.kind∨a.kind=1 then none
 else if a.kind=3∨a.kind=5 then some (Op.bytesLess a.s b.s)else some (decide (a.n<b.n))
def cX(m:bP)(v:bu):Option Bool:=
 if m.op=1 then(if v.kind=m.val.kind then some (eqV v m.val)else none)
 else if m.op=2 then nU v m.val else nU m.val v
def kC(gs:List bt)(m:bP):Nat:=
 if yq gs m.attr= []∧m.attr.must=true then 1
 else if(yq gs m.attr).any fun v=>cX m v==some true then 2
 else if(yq gs m.attr).any fun v=>cX m v==none then 1 else 0
def Dj(gs:List bt)(l:List bP):Nat:=l.foldl (fun a m=>min a (kC gs m)) 2
def Ao(gs:List bt)(l:List (List bP)):Nat:=l.foldl (fun a x=>max a (Dj gs x)) 0
def ny(gs:List bt)(t:gp):Nat:=t.foldl (fun a x=>min a (Ao gs x)) 2
structure jN where
 bag:List bu
 v:bu
 e:Int
def dP(b:Bool):bu:=⟨1,if b then 1 else 0,[]⟩
def jo(b:Bool):jN:=⟨[],dP b,0⟩
def isI(x:jN)(n:Int):Bool:=x.e==0 && eqV x.v ⟨1,n,[]⟩
abbrev w64(n:Int):Int:=IntKind.i64.wrap n
def LP(a b:Int):Bool:=decide (0<b) && decide (w64 (9223372036854775807 - b)<a)||decide (b<0) && decide (a<w64 (-9223372036854775808 - b))
def Oh(a b:Int):Bool:=decide (0<b) && decide (a<w64 (-9223372036854775808+b))||decide (b<0) && decide (w64 (9223372036854775807+b)<a)
def KC(a b:Int):Bool:=a== -1 && b== -9223372036854775808||b== -1 && a== -9223372036854775808||a !=0 && w64 ((w64 (a*b)).tdiv a) !=b
def ou(e:Int):bu×Int:=(aq,e)
def AA(o:Bool)(n:Int):bu×Int:=if o then ou 3 else(⟨2,w64 n,[]⟩,0)
def ij(op:Int)(l:List bu):bu×Int:=
 if¬(6≤op∧op≤13)∨l.length≠(if op=11 then 1 else 2)∨(l.all bz)=false then ou 1
 else
  let a:=l.getD 0 aq;let b:=l.getD 1 aq
  if op=6 then(if a.kind=b.kind then(dP (eqV a b),0)else ou 2)
  else if op=7 then(match nU a b with
   |some x=>(dP x,0)
   |none=>ou 2)
  else if op=8∨op=9∨op=10 then
   (if l.all fun v=>v.kind==2 then(if op=8 then AA (LP a.n b.n) (a.n+b.n)else if op=9 then AA (Oh a.n b.n) (a.n - b.n)else AA (KC a.n b.n) (a.n*b.n))else ou 2)
  else if(l.all fun v=>v.kind==1)=false then ou 2
  else if op=11 then(dP (a.n==0),0)
  else if op=12 then(dP (a.n==1 && b.n==1),0)
  else(dP (a.n==1||b.n==1),0)
def opsOf(op:Int):Nat:=if op=1∨op=2 then 0 else if op=3∨op=4∨op=11 then 1 else 2
def AQ(r:bu×Int):jN:=⟨[],r.1,r.2⟩
def lX(gs:List bt)(n:aQ)(l:List jN):jN:=
 if n.op=1 then⟨[],n.val,0⟩
 else if n.op=2 then(if yq gs n.attr= []∧n.attr.must=true then⟨[],aq,4⟩else⟨yq gs n.attr,aq,0⟩)
 else if(n.op=12∨n.op=13)∧(l.any fun x=>isI x (n.op - 12))=true then jo (n.op==13)
 else match l.find? fun x=>x.e !=0 with
  |some x=>⟨[],aq,x.e⟩
  |none=>
   if n.op=3 then(match (l.headD ⟨[],aq,0⟩).bag with
    | [v]=>⟨[],v,0⟩
    |_=>⟨[],aq,4⟩)
   else if n.op=4 then⟨[],⟨2,(l.headD ⟨[],aq,0⟩).bag.length,[]⟩,0⟩
   else if n.op=5 then jo ((l.headD ⟨[],aq,0⟩).bag.any fun v=>eqV v (l.getD 1 ⟨[],aq,0⟩).v)
   else AQ (ij n.op (l.map (·.v)))
def zU(gs:List bt)(st:List jN)(n:aQ):List jN:=st.take (st.length - opsOf n.op)++ [lX gs n (st.drop (st.length - opsOf n.op))]
def wL(gs:List bt)(l:List aQ):jN:=if l= []then AQ (ou 1)else(l.foldl (zU gs) []).headD (AQ (ou 1))
def qO(gs:List bt)(l:List aQ):Nat:=if l.isEmpty then 2 else if isI (wL gs l) 1 then 2 else if isI (wL gs l) 0 then 0 else 1
def eV(l:List cC)(m:aT):List cC:=l.filter fun o=>o.on==1 && m==bg||o.on==2 && m==cJ
def nQ(r:cV)(t c:Nat):j3:=
 let m:=if r.deny then cJ else bg
 if t=0∨t=2∧c=0 then(naM,[])else if t=1∨c=1 then(gX m,[])else(m,eV r.obls m)
def iK(gs:List bt)(r:cV):j3:=nQ r (ny gs r.tgt) (qO gs r.cond)
def eY(alg:Int)(m:aT)(parts:List j3):List cC:=
 if alg=3 then((parts.find? fun x=>x.1==m).map (·.2)).getD []else((parts.filter fun x=>x.1==m).map (·.2)).flatten
def qo(alg:Int)(obls:List cC)(t:Nat)(parts:List j3):j3:=
 let m:=iu alg (parts.map (·.1))
 if t=0 then(naM,[])else if t=1 then(gX m,[])else if m≠bg∧m≠cJ then(m,[])
 else(m,eY alg m parts++eV obls m)
mutual
def fK(gs:List bt):bE→j3
 |.mk id set alg tgt rules kids obls=>if ny gs tgt=0 then(naM,[])else qo alg obls (ny gs tgt) (rules.map (iK gs)++nc gs kids)
def nc(gs:List bt):List bE→List j3
 | []=>[]
 |k::r=>fK gs k::nc gs r
end
theorem tY(gs:List bt):∀l:List bE,nc gs l=l.map (fK gs)
 | []=>aeZ
 |k::r=>by simp[nc,tY gs r]
def tf:bE→gp
 |.mk _ _ _ t _ _ _=>t
def oV:gp→Option bP
 | []=>none
 | [l]::r=>match l.find? fun m=>m.op==1 && !m.attr.must with
  |some m=>some m
  |none=>oV r
 |_::r=>oV r
def sX(gs:List bt)(p:bE):Bool:=match oV (tf p)with
 |none=>true
 |some m=>decide (kC gs m≠0)
mutual
def lY(gs:List bt):bE→bE
 |.mk id set alg tgt rules kids obls=> .mk id set alg tgt rules (kU gs kids) obls
def kU(gs:List bt):List bE→List bE
 | []=>[]
 |k::r=>if sX gs k then lY gs k::kU gs r else kU gs r
end
end Go.Bf
namespace Go.Bf
open Go Go.Ab
variable {n:Int}{r t:Txt}
def o8:Nat→Nat→Txt
 |0,_=>[]
 |f+1,u=>if u<128 then [UInt8.ofNat u]else UInt8.ofNat (u % 128+128)::o8 f (u / 128)
def zig(n:Int):Nat:=if 0≤n then 2*n.toNat else 2*(-n).toNat - 1
def iZ(n:Int):Txt:=o8 10 (zig n)
def dI(s:Txt):Txt:=iZ s.length++s
def oK(v:bu):Txt:=iZ v.kind++(if v.kind=3∨v.kind=5 then dI v.s else iZ v.n)
def iE(o:OpD):Txt:=iZ o.kind++(dI o.subj++(dI o.case++(dI o.field++(dI o.to++(oK o.val++(iZ o.review++(dI o.text++(dI o.reason++oK (dP o.glass)))))))))
theorem ON(h:i64 n):zig n<128 ^ 10:=by grind [i64,zig,Nat]
structure Yv (v:bu):Prop where
 kind:i64 v.kind
 n:i64 v.n
 s:v.s.length≤1000000
 one:(v.kind=3∨v.kind=5→v.n=0)∧(¬(v.kind=3∨v.kind=5)→v.s= [])
structure OpC (o:OpD):Prop where
 kind:i64 o.kind
 subj:o.subj.length≤1000000
 case:o.case.length≤1000000
 field:o.field.length≤1000000
 to:o.to.length≤1000000
 val:Yv o.val
 review:i64 o.review
 text:o.text.length≤1000000
 reason:o.reason.length≤1000000
structure RS where
 b:Txt
 at_:Nat
 bad:Bool
variable {s:RS}
def unzig(u:Nat):Int:=if u % 2=1 then -((u / 2:Nat):Int) - 1 else((u / 2:Nat):Int)
def rF:Nat→Nat→Nat→Txt→Int×Nat
 |0,_,_,_=>(0,0)
 |_+1,_,_,[]=>(0,0)
 |f+1,i,u,c::r=>
  if(i=9∧1<c.toNat)∨(0<i∧c.toNat=0)then(0,0)
  else if c.toNat<128 then(unzig (u+c.toNat*128 ^ i),i+1)
  else rF f (i+1) (u+c.toNat % 128*128 ^ i) r
def mE(s:RS)(a:Nat):RS:=if s.bad=false∧a≤s.at_ then {s with at_:=a,bad:=true} else s
def rIn(s:RS)(lo hi:Int):Int×RS:=
 if s.bad then(0,s)else
 let x:=rF 10 0 0 (s.b.drop s.at_)
 if x.2=0∨x.1<lo∨hi<x.1 then(0,mE s s.at_)else(x.1,{s with at_:=s.at_+x.2})
def gD(s:RS):Int×RS:=rIn s (-9223372036854775808) 9223372036854775807
def bZ(s:RS)(most:Int):Txt×RS:=
 let x:=rIn s 0 most
 if x.2.bad∨(x.2.b.length:Int) - x.2.at_<x.1 then([],mE x.2 s.at_)else((x.2.b.drop x.2.at_).take x.1.toNat,{x.2 with at_:=x.2.at_+x.1.toNat})
def oT(k:Int):Bool:=k==3||k==5
def qC(s:RS):bu×RS:=
 let x:=rIn s 1 5
 let y:bu×RS:=if oT x.1 then(let t:=bZ x.2 64;(⟨x.1,0,t.1⟩,t.2))else(let t:=gD x.2;(⟨x.1,t.1,[]⟩,t.2))
 if y.2.bad then(aq,y.2)else if bz y.1=false then(aq,mE y.2 s.at_)else y
def pY(s:RS):bu×RS:=
 if s.at_<s.b.length∧s.b.getD s.at_ 0=0 then(aq,(rIn (rIn s 0 0).2 0 0).2)else qC s
def rOp(b:Txt):OpD×RS:=
 let k:=gD ⟨b,0,false⟩
 let s1:=bZ k.2 16
 let s2:=bZ s1.2 16
 let s3:=bZ s2.2 16
 let s4:=bZ s3.2 16
 let v:=pY s4.2
 let r:=gD v.2
 let t:=bZ r.2 4096
 let w:=bZ t.2 64
 let g:=qC w.2
 (⟨k.1,s1.1,s2.1,s3.1,s4.1,v.1,r.1,t.1,w.1,eqV g.1 (dP true)⟩,g.2)
def KR(s:RS):Bool:=decide (s.b.length≤s.at_) && !s.bad
def oS(b:Txt):Option OpD:=if KR (rOp b).2 && dH (rOp b).1 && decide (iE (rOp b).1=b)then some (rOp b).1 else none
theorem Lr(n:Int):unzig (zig n)=n:=by grind [unzig,zig]
theorem FI(h:i64 n):zig n<18446744073709551616:=by grind [i64,zig]
theorem Jj:∀(f v:Nat),0<f→o8 f v≠ []
 |0,_,h=>aeK
 |f+1,v,_=>by grind [o8]
theorem IP:∀(f i u v:Nat) (r:Txt),f+i=10→0<f→v<128 ^ f→u<128 ^ i→u+v*128 ^ i<18446744073709551616→(0<i→0<v)→
  rF f i u (o8 f v++r)=(unzig (u+v*128 ^ i),i+(o8 f v).length)
 |0,i,u,v,r,_,h,_,_,_,_=>aeK
 |f+1,i,u,v,r,hfi,_,hv,hu,ht,h0=>by
  have p9:(128:Nat) ^ 9=9223372036854775808:=aeO;have hlt:∀n,n<256→(UInt8.ofNat n).toNat=n:=fun n hn=>by rw[UInt8.toNat_ofNat'];omega
  by_cases hs:v<128
  ·have e:o8 (f+1) v= [UInt8.ofNat v]:=by simp_all [o8,if_pos]
   rw[e];simp only[List.singleton_append,rF,hlt v aeK,List.length_singleton];have hn:¬((i=9∧1<v)∨(0<i∧v=0)):=by grind
   rw[if_neg hn,if_pos hs]
  ·have e:o8 (f+1) v=UInt8.ofNat (v % 128+128)::o8 f (v / 128):=by simp_all [o8,if_neg]
   rw[e];simp only[List.cons_append,rF,hlt (v % 128+128) aeK,List.length_cons];have hi9:i≠9:=by grind
   have hn:¬((i=9∧1<v % 128+128)∨(0<i∧v % 128+128=0)):=by omega
   rw[if_neg hn,if_neg aeK];have hp:(128:Nat) ^ (i+1)=128 ^ i*128:=aeZ;have hsum:u+(v % 128+128) % 128*128 ^ i+v / 128*128 ^ (i+1)=u+v*128 ^ i:=by
    have h1:(v % 128+128) % 128=v % 128:=aeK;rw[h1,hp,Nat.mul_comm (128 ^ i) 128,←Nat.mul_assoc,Nat.add_assoc,←Nat.add_mul]
    congr 2
    omega
   have hf:0<f:=by omega
   have hv' :v / 128<128 ^ f:=by omega
   have hu' :u+(v % 128+128) % 128*128 ^ i<128 ^ (i+1):=by have h1:(v % 128+128) % 128≤127:=aeK;have h2:=Nat.mul_le_mul_right (128 ^ i) h1;rw[hp];omega
   rw[IP f (i+1) _ (v / 128) r aeK hf hv' hu' aeK aeK,hsum]
   congr 1
   omega
theorem Qg(h:i64 n)(r:Txt):rF 10 0 0 (iZ n++r)=(n,(iZ n).length):=by
 have:=IP 10 0 0 (zig n) r rfl aeO (ON h) aeO (by grind [FI]) aeK
 simp only[Nat.pow_zero,Nat.mul_one,Nat.zero_add]at this;unfold iZ;rw[this,Lr]
def rAt(s:RS)(x:Txt):Prop:=s.bad=false∧s.at_≤s.b.length∧s.b.drop s.at_=x
def rOn(s:RS)(n:Nat):RS:={s with at_:=s.at_+n}
theorem rAt.on{x y:Txt}(h:rAt s (x++y)):rAt (rOn s x.length) y:=by
 obtain⟨h1,h2,h3⟩:=h;have hl:=congrArg List.length h3;refine⟨h1,by grind [rOn],?_⟩
 grind [rOn,List.drop_drop,List.drop_left]
theorem yT{lo hi:Int}(h:rAt s (iZ n++r))(hn:i64 n)(h1:lo≤n)(h2:n≤hi):rIn s lo hi=(n,rOn s (iZ n).length):=by
 unfold rIn;have hl:0<(iZ n).length:=List.length_pos_iff.2 (Jj 10 _ aeO);rw[if_neg (by rw[h.1];simp),h.2.2,Qg hn]
 rw[if_neg aeK];rfl
theorem CC(h:rAt s (iZ n++r))(hn:i64 n):gD s=(n,rOn s (iZ n).length):=yT h hn hn.1 hn.2
theorem nE{most:Nat}(h:rAt s (dI t++r))(ht:t.length≤most)(hm:most≤100000):bZ s most=(t,rOn s (dI t).length):=by
 unfold dI at h⊢;rw[List.append_assoc]at h;have h6:i64 (t.length:Int):=⟨aeK,aeK⟩;have ha:=h.on;unfold bZ;rw[yT (lo:=0) (hi:=most) h h6 aeK aeK];have hl:=congrArg List.length ha.2.2;have hle:=ha.2.1;rw[if_neg (by rw[ha.1];grind),ha.2.2]
 simp[rOn,aeE,Nat.add_assoc]
theorem Ac{v:bu}(h:bz v=true):1≤v.kind∧v.kind≤5:=by grind [bz]
end Go.Bf
namespace Go.Bf
open Go Go.Ab Go.Proofs.YtokahfmoollblaaGreatDoor
variable {v:bu}{s:an}{r t:Txt}{k:Nat}{c:aN}{o:OpD}{gs:List bt}{a:List j3}
theorem CB{n:Int}(h1: -1000000≤n)(h2:n≤1000000):i64 n:=⟨aeK,aeK⟩
theorem vW(h:bz v=true)(hk:v.kind=3∨v.kind=5):v.n=0∧v.s.length≤64:=by
 unfold bz at h;rcases hk with e|e
 ·grind
 ·rw[if_neg aeK,if_neg aeK,if_neg aeK,if_neg aeK,if_pos e]at h
  simp only[bp,Bool.and_eq_true,beq_iff_eq,decide_eq_true_eq]at h;omega
theorem B2(h:bz v=true)(hk:¬(v.kind=3∨v.kind=5)):v.s= []:=by
 unfold bz at h
 grind
theorem Ji{s:RS}(h:rAt s (oK v++r))(hv:bz v=true)(hn:i64 v.n):qC s=(v,rOn s (oK v).length):=by
 obtain⟨hk1,hk2⟩:=Ac hv;unfold oK at h⊢;rw[List.append_assoc]at h;have ha:=h.on;unfold qC;rw[yT (lo:=1) (hi:=5) h (by grind [CB]) hk1 hk2]
 by_cases e:v.kind=3∨v.kind=5
 ·obtain⟨e1,e2⟩:=vW hv e
  rw[if_pos e]at ha⊢;have ht:oT v.kind=true:=by grind [oT]
  have hx:=nE (most:=64) ha e2 aeK;simp only[ht,if_true];rw[show((64:Nat):Int)=64 from rfl]at hx
  rw[hx];have ev:(⟨v.kind,0,v.s⟩:bu)=v:=by rw[←e1]
  exact akG
 ·have e1:=B2 hv e
  rw[if_neg e]at ha⊢;have ht:oT v.kind=false:=by simp_all [oT,not_or]
  have hx:=CC ha hn;simp only[ht,Bool.false_eq_true,if_false];rw[hx];have ev:(⟨v.kind,v.n,[]⟩:bu)=v:=by rw[←e1]
  exact akG
theorem EG:iZ 0= [0]:=aeZ
theorem Nv{k:Int}(h1:1≤k)(h2:k≤5):∃c,iZ k= [c]∧c≠0:=by
 have:k=1∨k=2∨k=3∨k=4∨k=5:=aeK;rcases this with rfl|rfl|rfl|rfl|rfl
 ·exact⟨2,aeZ,aeO⟩
 ·exact⟨4,aeZ,aeO⟩
 ·exact⟨6,aeZ,aeO⟩
 ·exact⟨8,aeZ,aeO⟩
 ·exact⟨10,aeZ,aeO⟩
theorem rAt.head{s:RS}{c:UInt8}{x:Txt}(h:rAt s (c::x)):s.at_<s.b.length∧s.b.getD s.at_ 0=c:=by
 have hl:=congrArg List.length h.2.2;rw[List.length_drop,List.length_cons]at hl;refine⟨aeK,?_⟩;have:=congrArg (fun l=>l[0]?) h.2.2
 simp only[List.getElem?_drop,Nat.add_zero,List.getElem?_cons_zero]at this;rw[List.getD_eq_getElem?_getD,this];rfl
theorem KB{s:RS}(h:rAt s (oK v++r))(hv:v=aq∨bz v=true)(hn:i64 v.n):pY s=(v,rOn s (oK v).length):=by
 rcases hv with rfl|hv
 ·have e:oK aq= [0,0]:=by rfl
  rw[e]at h⊢;have hh:=rAt.head (c:=0) (x:=0::r) h;unfold pY;rw[if_pos ⟨hh.1,hh.2⟩];have h' :rAt s (iZ 0++(iZ 0++r)):=by grind [EG]
  rw[yT h' (by grind [CB]) (Int.le_refl 0) (Int.le_refl 0)]
  rw[yT h'.on (by grind [CB]) (Int.le_refl 0) (Int.le_refl 0)]
  simp[EG,rOn,Nat.add_assoc]
 ·obtain⟨hk1,hk2⟩:=Ac hv
  obtain⟨c,e,hc⟩:=Nv hk1 hk2;have hh:rAt s (c::((if v.kind=3∨v.kind=5 then dI v.s else iZ v.n)++r)):=by grind [oK]
  unfold pY;rw[if_neg (by grind [rAt.head])]
  exact Ji h hv hn
theorem vj(h:jn t=true):t.length≤16:=by
 unfold jn at h;simp only[Bool.or_eq_true,beq_iff_eq]at h;rcases h with rfl|h
 ·simp
 simp_all [bp,Bool.and_eq_true,decide_eq_true_eq]
structure OpF (o:OpD):Prop where
 subj:o.subj.length≤16
 case:o.case.length≤16
 field:o.field.length≤16
 to:o.to.length≤16
 val:o.val=aq∨bz o.val=true
 text:o.text.length≤4096
 reason:o.reason.length≤64
theorem oA(h:dH o=true):OpF o:=by
 simp only[dH,Bool.and_eq_true,decide_eq_true_eq]at h;obtain⟨⟨⟨⟨⟨⟨⟨h1,h2⟩,h3⟩,h4⟩,h5⟩,h6⟩,h7⟩,h8⟩:=h;simp only[bp,Bool.and_eq_true,decide_eq_true_eq]at h1;refine⟨h1.2,vj h4,vj h5,vj h6,?_,h3,?_⟩
 ·simp only[Bool.or_eq_true]at h7
  rcases h7 with h7|h7
  ·left
   generalize o.val=v at h7;obtain⟨k,n,s⟩:=v;simp only[eqV,aq,Bool.and_eq_true,beq_iff_eq]at h7;obtain⟨rfl,rfl,rfl⟩:=h7;rfl
  grind
 ·unfold mL at h2
  grind
theorem z8(b:Bool):bz (dP b)=true:=by cases b<;>rfl
theorem Oo(b:Bool):eqV (dP b) (dP true)=b:=by cases b<;>rfl
theorem Ts(hf:OpF o)(h64:oN o):rOp (iE o)=(o,⟨iE o,(iE o).length,false⟩):=by
 have h0:rAt ⟨iE o,0,false⟩ (iE o):=⟨rfl,Nat.zero_le _,rfl⟩;obtain⟨k1,k2,k3,k4⟩:=h64;unfold iE at h0;have e0:=CC h0 k1;have h1:=h0.on;have e1:=nE (most:=16) h1 hf.subj aeK;have h2:=h1.on;have e2:=nE (most:=16) h2 hf.case aeK;have h3:=h2.on;have e3:=nE (most:=16) h3 hf.field aeK;have h4:=h3.on;have e4:=nE (most:=16) h4 hf.to aeK;have h5:=h4.on;have e5:=KB h5 hf.val k3;have h6:=h5.on;have e6:=CC h6 k4;have h7:=h6.on;have e7:=nE (most:=4096) h7 hf.text aeK;have h8:=h7.on;have e8:=nE (most:=64) h8 hf.reason aeK;have h9:=h8.on;have h9' :=h9;rw[←List.append_nil (oK (dP o.glass))]at h9';have e9:=Ji h9' (z8 _) (by cases o.glass<;>exact⟨aeO,aeO⟩)
 have h10:=h9'.on;simp only[List.append_nil]at e9 h10;simp only[show((16:Nat):Int)=16 from rfl,show((4096:Nat):Int)=4096 from rfl,show((64:Nat):Int)=64 from rfl]at e1 e2 e3 e4 e7 e8
 have hend:=congrArg List.length h10.2.2;rw[List.length_drop,List.length_nil]at hend;have hle:=h10.2.1;unfold rOp;rw[show iE o=iZ o.kind++(dI o.subj++(dI o.case++(dI o.field++(dI o.to++(oK o.val++(iZ o.review++(dI o.text++(dI o.reason++oK (dP o.glass)))))))))from rfl]
 simp only[e0,e1,e2,e3,e4,e5,e6,e7,e8,e9,Oo];simp only[rOn]at hend hle⊢;refine Prod.ext rfl ?_;simp only[RS.mk.injEq,and_true,true_and];omega
theorem Py(hf:dH o=true)(h64:oN o):oS (iE o)=some o:=by grind [oS,Ts,oA,KR]
theorem get_some{b:Txt}(h:oS b=some o):dH o=true∧iE o=b:=by
 unfold oS at h
 grind
theorem ua{α:Type}(f:α→Nat):∀(l:List α) (a:Nat),l.foldl (fun a x=>min a (f x)) a≤a∧∀x∈l,l.foldl (fun a x=>min a (f x)) a≤f x
 | [],a=>aeR
 |y::l,a=>by
  obtain⟨h1,h2⟩:=ua f l (min a (f y))
  grind
theorem PM:∀ {t:gp} {m:bP},oV t=some m→kC gs m=0→ny gs t=0:=by
 intro t;have main:∀(t:gp) (m:bP),oV t=some m→kC gs m=0→∃x∈t,Ao gs x=0:=by
  intro t
  induction t with
  |nil=>intro m h;cases h
  |cons x r ih=>
   intro m h h0
   match x,h with
   | [],h=>obtain⟨y,hy,e⟩:=ih m h h0;exact⟨y,List.mem_cons_of_mem _ hy,e⟩
   | [l],h=>
    simp only[oV]at h;cases hf:l.find? fun m=>m.op==1 && !m.attr.must with
    |none=>rw[hf]at h;obtain⟨y,hy,e⟩:=ih m h h0;exact⟨y,List.mem_cons_of_mem _ hy,e⟩
    |some k=>
     rw[hf]at h;cases h;have hm:=List.mem_of_find?_eq_some hf;have hall:Dj gs l=0:=by have:=(ua (kC gs) l 2).2 _ hm;rw[h0]at this;exact Nat.le_zero.1 this
     exact⟨[l],List.mem_cons_self ..,by grind [Ao]⟩
   |a::b::c,h=>obtain⟨y,hy,e⟩:=ih m h h0;exact⟨y,List.mem_cons_of_mem _ hy,e⟩
 intro m h h0;obtain⟨x,hx,e⟩:=main t m h h0;have:=(ua (Ao gs) t 2).2 x hx;rw[e]at this;exact Nat.le_zero.1 this
theorem Qc{p:bE}(h:sX gs p=false):fK gs p=(naM,[]):=by
 obtain⟨id,set,alg,tgt,rules,kids,obls⟩:=p;unfold sX at h;simp only[tf]at h;cases hk:oV tgt with
 |none=>grind
 |some m=>simp_all [kC,fK,PM,if_true]
theorem PJ(j:aT):oU j naM=j:=by simp[oU,naM]
inductive Drop:List j3→List j3→Prop
 |nil:Drop [] []
 |keep (x:j3) {a b:List j3} (h:Drop a b):Drop (x::a) (x::b)
 |skip {a b:List j3} (h:Drop a b):Drop a ((naM,[])::b)
theorem Drop.app{b c:List j3}(h:Drop a b):Drop (c++a) (c++b):=by
 induction c with
 |nil=>exact h
 |cons x c ih=>grind [keep]
theorem Drop.join{b:List j3}(h:Drop a b):∀j,(a.map (·.1)).foldl oU j=(b.map (·.1)).foldl oU j:=by
 induction h with
 |nil=>simp
 |keep x h ih=>grind
 |skip h ih=>grind [PJ]
theorem Drop.first{b:List j3}(h:Drop a b):firstM (a.map (·.1))=firstM (b.map (·.1)):=by
 unfold firstM
 congr 1
 induction h with
 |nil=>rfl
 |keep x h ih=>grind
 |skip h ih=>simpa using ih
theorem Drop.only{b:List j3}(h:Drop a b):∀j,oZ (a.map (·.1)) j=oZ (b.map (·.1)) j:=by
 induction h with
 |nil=>simp
 |keep x h ih=>grind [oZ]
 |skip h ih=>
  intro j;have hs:zV naM=true:=aeO;simp only[List.map_cons,oZ,hs,Bool.true_eq_false,if_false];rw[←ih]
  congr 1
  simp
theorem Drop.mem{b:List j3}(h:Drop a b){m:aT}(hm:m≠naM):m∈a.map (·.1)↔m∈b.map (·.1):=by exact aj0
theorem Drop.comb{b:List j3}(h:Drop a b)(alg:Int):iu alg (a.map (·.1))=iu alg (b.map (·.1)):=by unfold iu xP;rw[h.join,h.first,h.only];simp only[h.mem (show bg≠naM by decide),h.mem (show cJ≠naM by decide)]
theorem Drop.parts{b:List j3}(h:Drop a b)(alg:Int){m:aT}(hm:m≠naM):eY alg m a=eY alg m b:=by
 have h1:(a.find? fun x=>x.1==m)=b.find? fun x=>x.1==m:=by exact aj0
 have h2:(a.filter fun x=>x.1==m)=b.filter fun x=>x.1==m:=by clear h1;exact aj0
 simp only[eY,h1,h2]
theorem Drop.qo{b:List j3}(h:Drop a b)(alg:Int)(obls:List cC)(t:Nat):qo alg obls t a=qo alg obls t b:=by
 unfold Go.Bf.qo;simp only[h.comb alg]
 by_cases hp:iu alg (b.map (·.1))=bg
 ·rw[hp,h.parts alg aeO]
 ·by_cases hd:iu alg (b.map (·.1))=cJ
  ·rw[hd,h.parts alg aeO]
  grind
mutual
theorem BE(gs:List bt):∀p:bE,fK gs (lY gs p)=fK gs p
 |.mk id set alg tgt rules kids obls=>by
  simp only[lY,fK]
  by_cases h:ny gs tgt=0
  ·simp only[h,if_true]
  ·simp only[h,if_false]
   exact(BF gs kids).app.qo alg obls _
theorem BF(gs:List bt):∀l:List bE,Drop (nc gs (kU gs l)) (nc gs l)
 | []=>by simp only[kU,nc];exact .nil
 |k::r=>by
  have ih1:=BE gs k;have ih2:=BF gs r;simp only[kU,nc]
  by_cases h:sX gs k=true
  ·simp only[h,if_true,nc,ih1]
   exact .keep _ ih2
  ·have h:sX gs k=false:=by simpa using h
   simp only[h,Bool.false_eq_true,if_false,Qc h];exact .skip ih2
end
structure iG where
 err:Int
 mark:aT
 glass:Bool
 val:bu
 hidden:Bool
 at_:Int
structure pn where
 op:OpD
 version:Int
 mark:aT
 glass:Bool
 obls:List cC
def QY:OpD:=⟨0,[],[],[],[],aq,0,[],[],false⟩
def yb:pn:=⟨QY,0,naM,false,[]⟩
def CA:Txt:=[103,108,97,115,115]
def rA(s:an)(r:qu):Bool:=r.isOpen && decide (100≤s.tick - r.tick)
def M1(s:an)(subj:Txt):Bool:=s.reviews.any fun r=>r.subj==subj && rA s r
def tL(s:an)(o:OpD)(m:aT):Bool:=o.glass && (m==cJ||m==naM) && yP s.roles ⟨o.subj,CA⟩ && !M1 s o.subj
def BQ(s:an)(o:OpD)(reason:Txt):qu:=⟨(s.reviews.length:Int)+1,s.tick,o.subj,o.case,iW o.kind,reason,true⟩
def bW(s:an)(o:OpD)(reason:Txt):an:={s with reviews:=s.reviews++ [BQ s o reason]}
def ko(l:List cC)(field:Txt):Bool:=l.any fun x=>x.kind==2 && x.arg==field
def iY(cs:List aN)(id:Txt):Nat:=cs.findIdx fun c=>c.id==id
def iM(s:an)(o:OpD)(what:Txt):an:=
 if iY s.cases o.case<s.cases.length∧o.kind≠6 then {s with cases:=s.cases.modify (iY s.cases o.case) fun c=>jG s c o.subj what} else s
def fm(o:OpD)(done:Bool)(s:an)(x:cC):an:=
 if x.kind=1∧done=true then iM s o x.arg
 else if x.kind=3 then bW s o x.arg
 else if x.kind=4 then {s with notices:=s.notices++ [⟨s.tick,o.case,x.arg⟩]}
 else s
def dF(s:an)(o:OpD)(l:List cC)(done:Bool):an:=l.foldl (fm o done) s
def sE(s:an):Bool:=decide (256<s.reviews.length)||decide (256<s.notices.length)||s.cases.any fun c=>decide (256<c.log.length)
def gJ(s:an)(o:OpD):j3:=fK (fL s o) s.policy
def jZ(s:an)(o:OpD):Int×Int:=if bL s o=0∧o.kind=7 then((aR o.text).2.1,(aR o.text).2.2)else(bL s o,0)
def fD(s:an)(o:OpD):Bool:=tL s o (gJ s o).1
def tP(s:an)(o:OpD):Bool:=decide ((gJ s o).1=bg)||fD s o
def cU(s:an)(o:OpD):an:=
 let s1:=if fD s o then bW s o o.reason else s
 dF (if tP s o then dR aR s1 o else s1) o (gJ s o).2 (tP s o)
def nD(s:an)(o:OpD):iG:=
 ⟨if tP s o then 0 else 12,(gJ s o).1,fD s o,if tP s o && o.kind==2 && !ko (gJ s o).2 o.field then dV (bw s.cases o.case).fields o.field else aq,tP s o && o.kind==2 && ko (gJ s o).2 o.field,0⟩
def aI(s:an)(o:OpD):an×iG×pn×Int:=
 if(jZ s o).1≠0 then(s,⟨(jZ s o).1,naM,false,aq,false,(jZ s o).2⟩,yb,(jZ s o).1)
 else if sE (cU s o)then(s,⟨6,naM,false,aq,false,0⟩,yb,6)
 else(cU s o,nD s o,⟨o,s.version,(gJ s o).1,fD s o,(gJ s o).2⟩,0)
theorem zi(s:an)(o:OpD)(w:Txt):(iM s o w).tick=s.tick∧(iM s o w).roles=s.roles∧(iM s o w).policy=s.policy∧(iM s o w).version=s.version∧(iM s o w).reviews=s.reviews∧(iM s o w).notices=s.notices:=by grind [iM]
theorem DI(o:OpD)(done:Bool)(s:an)(x:cC):(fm o done s x).tick=s.tick∧(fm o done s x).roles=s.roles∧(fm o done s x).policy=s.policy∧(fm o done s x).version=s.version:=by
 unfold fm;split
 ·grind [zi]
 ·split
  ·exact⟨rfl,rfl,rfl,rfl⟩
  grind
theorem F9(o:OpD)(done:Bool):∀(l:List cC) (s:an),(dF s o l done).tick=s.tick∧(dF s o l done).roles=s.roles∧(dF s o l done).policy=s.policy∧(dF s o l done).version=s.version
 | [],s=>⟨rfl,rfl,rfl,rfl⟩
 |x::l,s=>by obtain⟨a1,a2,a3,a4⟩:=DI o done s x;obtain⟨b1,b2,b3,b4⟩:=F9 o done l (fm o done s x);exact⟨b1.trans a1,b2.trans a2,b3.trans a3,b4.trans a4⟩
def gW(o:OpD)(a b:List qu):Prop:=∃c,b=a++c∧∀i (h:i<c.length),c[i].id=((a.length+i+1:Nat):Int)∧c[i].isOpen=true∧c[i].subj=o.subj
theorem gW.refl(o:OpD)(a:List qu):gW o a a:=⟨[],aeR,fun i h=>afI⟩
theorem gW.trans{a b c:List qu}(h1:gW o a b)(h2:gW o b c):gW o a c:=by
 obtain⟨x,rfl,hx⟩:=h1;obtain⟨y,rfl,hy⟩:=h2;refine⟨x++y,aeR,fun i h=>?_⟩
 grind
theorem gW.open(s:an)(o:OpD)(w:Txt):gW o s.reviews (bW s o w).reviews:=⟨[BQ s o w],rfl,fun i h=>by have:i=0:=aeL;subst this;exact⟨aeZ,rfl,rfl⟩⟩
theorem gW.duties(o:OpD)(done:Bool):∀(l:List cC) (s:an),gW o s.reviews (dF s o l done).reviews
 | [],s=> .refl o _
 |x::l,s=>by
  have:gW o s.reviews (fm o done s x).reviews:=by
   unfold fm;split
   ·grind [zi,refl]
   ·split
    ·exact .open s o _
    grind [refl]
  exact this.trans (gW.duties o done l _)
structure HR (c:aN):Prop where
 id:bp c.id=true
 owner:bp c.owner=true
 state:c.state∈qc
 asc:FJ c.fields
 nfields:c.fields.length≤16
 field:∀f∈c.fields,bp f.name=true∧bz f.val=true∧eqV f.val aq=false
 log1:1≤c.log.length
 actor:∀x∈c.log,bp x.actor=true∧i64 x.tick
theorem u6.w(h:u6 c):HR c:=⟨h.id,h.owner,h.state,h.asc,h.nfields,h.field,h.log1,h.actor⟩
theorem HR.ok(h:HR c)(hl:c.log.length≤256):u6 c:=⟨h.id,h.owner,h.state,h.asc,h.nfields,h.field,h.log1,hl,h.actor⟩
structure mu (k:Nat) (s:an):Prop where
 tick:0≤s.tick∧s.tick≤1099511627776
 asc:Asc s.cases
 ncases:s.cases.length≤64
 case:∀c∈s.cases,HR c
 roles:s.roles.length≤64
 role:∀r∈s.roles,bp r.subj=true∧bp r.role=true
 pol:gL s.policy=0
 ver:0≤s.version∧s.version≤k
theorem dL.w(h:dL k s):mu k s:=⟨h.tick,h.asc,h.ncases,fun c hc=>(h.case c hc).w,h.roles,h.role,h.pol,h.ver⟩
theorem mu.ok(h:mu k s)(ho:sE s=false):dL k s:=by
 unfold sE at ho;simp only[Bool.or_eq_false_iff,decide_eq_false_iff_not]at ho;refine⟨h.tick,h.asc,h.ncases,fun c hc=>(h.case c hc).ok ?_,aeK,aeK,h.roles,h.role,h.pol,h.ver⟩
 grind
theorem HF(o:OpD)(w:Txt)(h:mu k s):mu k (bW s o w):={h with}
theorem HE(hn:bp o.subj=true)(w:Txt)(h:mu k s):mu k (iM s o w):=by
 unfold iM;split
 ·refine {h with asc:=Cl (kZ fun x=>rfl) h.asc,ncases:=by simpa using h.ncases,case:= ?_}
  intro d hd;rcases mem_modify hd with hd|⟨hi,rfl⟩
  ·exact h.case d hd
  ·have hc:=h.case _ (aeF hi)
   refine⟨hc.id,hc.owner,hc.state,hc.asc,hc.nfields,hc.field,aiW,?_⟩;intro x hx;simp only[jG,List.mem_append,List.mem_singleton]at hx;rcases hx with hx|rfl
   ·exact hc.actor x hx
   ·exact⟨hn,by have:=h.tick;constructor<;>simp only<;>omega⟩
 omega
theorem HD(hn:bp o.subj=true)(done:Bool)(x:cC)(h:mu k s):mu k (fm o done s x):=by
 unfold fm;split
 ·grind [HE]
 ·split
  ·grind [HF]
  ·split
   ·exact {h with}
   omega
theorem uN{k:Nat}{o:OpD}(hn:bp o.subj=true)(done:Bool):∀(l:List cC) {s:an},mu k s→mu k (dF s o l done)
 | [],s,h=>h
 |x::l,s,h=>uN hn done l (HD hn done x h)
theorem CP(o:OpD)(w:Txt)(h:dL k s)(hr:s.reviews.length≤999):dL k (bW s o w):={h with nrev:=by grind [bW]}
structure jA (k:Nat) (s:an):Prop extends dL k s where
 ids:∀i (h:i<s.reviews.length),s.reviews[i].id=((i+1:Nat):Int)
 nr:s.reviews.length≤256
 nn:s.notices.length≤256
theorem Ke:jA 0 sY:={Lg with ids:=fun i h=>afI,nr:=aeO,nn:=aeO}
theorem uE(h:(jZ s o).1=0):bL s o=0∧dH o=true∧(o.kind=7→(aR o.text).2.1=0):=by
 unfold jZ at h;have hr:bL s o=0:=by grind
 have hf:dH o=true:=by
  unfold bL at hr
  grind
 exact⟨hr,hf,fun hk=>aeL⟩
theorem L5(h:jA k s)(hp:(jZ s o).1=0):mu (k+1) (cU s o):=by
 have hn:=(uc (uE hp).2.1).subj;have h1:dL k (if fD s o then bW s o o.reason else s):=by
  split
  ·exact CP o _ h.todL (by have:=h.nr;omega)
  ·exact h.todL
 refine uN hn _ _ ?_;split
 ·exact(qd o h1).w
 ·have:=h1.w
  exact {this with ver:=⟨this.ver.1,by have:=this.ver.2;omega⟩}
def shut(r:qu):qu:={r with isOpen:=false}
theorem vi(par:Txt→bE×Int×Int)(s:an)(o:OpD):(dR par s o).reviews=if bL s o=0∧o.kind=5 then s.reviews.modify (o.review - 1).toNat shut else s.reviews:=by
 unfold dR
 by_cases hr:bL s o=0
 ·rw[if_pos hr]
  unfold doD
  by_cases k1:o.kind=1
  ·grind
  ·by_cases k3:o.kind=3
   ·grind
   ·by_cases k4:o.kind=4
    ·grind
    ·by_cases k5:o.kind=5
     ·simp[k5,hr];rfl
     grind
 grind
theorem yM(h:dH o=true)(hg:o.glass=true):1≤o.kind∧o.kind≤4:=by simp_all [dH,Bool.and_eq_true,mL,if_true,vG,decide_eq_true_eq]
theorem D8(h:fD s o=true):o.glass=true:=by simp_all [fD,tL,Bool.and_eq_true]
structure FO (s:an) (o:OpD) (t:an) (r:iG) (e:Int):Prop where
 len:s.reviews.length≤t.reviews.length
 old:∀i (h:i<s.reviews.length) (h' :i<t.reviews.length),(e=0∧r.err=0∧o.kind=5∧o.review=((i+1:Nat):Int)→o.subj≠s.reviews[i].subj∧s.reviews[i].isOpen=true∧t.reviews[i].isOpen=false∧t.reviews[i].id=s.reviews[i].id)∧
  (¬(e=0∧r.err=0∧o.kind=5∧o.review=((i+1:Nat):Int))→t.reviews[i]=s.reviews[i])
 new:∀i (h:i<t.reviews.length),s.reviews.length≤i→t.reviews[i].id=((i+1:Nat):Int)∧t.reviews[i].isOpen=true∧t.reviews[i].subj=o.subj
 glass:r.glass=true→∃h:s.reviews.length<t.reviews.length,t.reviews[s.reviews.length].reason=o.reason
theorem FO.same(s:an)(o:OpD)(e:Int)(r:iG)(he:e≠0)(hg:r.glass=false):FO s o s r e:=
 ⟨Nat.le_refl _,fun i h h' =>⟨fun hc=>(he hc.1).elim,fun _=>rfl⟩,fun i h h' =>aeK,fun h=>aeL⟩
theorem IS{a b:List qu}(h:gW o a b):a.length≤b.length∧(∀i (h1:i<a.length) (h2:i<b.length),b[i]=a[i])∧∀i (h1:i<b.length),a.length≤i→b[i].id=((i+1:Nat):Int)∧b[i].isOpen=true∧b[i].subj=o.subj:=by
 obtain⟨c,rfl,hc⟩:=h;refine⟨aeR,fun i h1 h2=>aeL,fun i h1 h2=>?_⟩
 grind
theorem Dx(hr:bL s o=0)(hf:dH o=true)(hk:o.kind=5):1≤o.review∧∃h:(o.review - 1).toNat<s.reviews.length,s.reviews[(o.review - 1).toNat].isOpen=true∧s.reviews[(o.review - 1).toNat].subj≠o.subj:=by
 have F:=uc hf;have hok:=F.ok;unfold okD at hok;simp only[hk,show¬(5:Int)=1 by decide,show¬((5:Int)=2∨(5:Int)=6) by decide,show¬(5:Int)=3 by decide,show¬(5:Int)=4 by decide,if_false,if_true,decide_eq_true_eq]at hok
 unfold bL at hr;simp only[hk,Bool.true_eq_false,show¬(5:Int)=1 by decide,show¬(2≤(5:Int)∧(5:Int)≤4) by decide,if_false,if_true]at hr
 unfold fq xd at hr;rw[if_pos (by omega:1≤o.review)]at hr
 refine⟨aeK,?_⟩;cases hx:s.reviews[(o.review - 1).toNat]? with
 |none=>simp_all
 |some r=>
  rw[hx]at hr;obtain⟨h,rfl⟩:=List.getElem?_eq_some_iff.1 hx;refine⟨h,?_,?_⟩
  ·grind
  ·intro e
   simp only[e,if_true]at hr;omega
theorem Ho(h:jA k s):FO s o (aI s o).1 (aI s o).2.1 (aI s o).2.2.2:=by
 unfold aI
 by_cases hp:(jZ s o).1=0
 ·rw[if_neg aeK]
  by_cases ho:sE (cU s o)=true
  ·rw[if_pos ho];exact .same _ _ _ _ aeR rfl
  ·rw[if_neg ho]
   obtain⟨hr,hf,_⟩:=uE hp;simp only
   by_cases hk:o.kind=5
   ·have hg:fD s o=false:=by
     cases hg:fD s o with
     |false=>rfl
     |true=>have:=yM hf (D8 hg);omega
    obtain⟨hv1,hlt,hop,hsu⟩:=Dx hr hf hk
    by_cases hd:tP s o=true
    ·have hb:cU s o=dF (dR aR s o) o (gJ s o).2 true:=by grind [cU]
     have hrev:(dR aR s o).reviews=s.reviews.modify (o.review - 1).toNat shut:=by simp_all [vi,if_pos]
     have hon:=gW.duties o true (gJ s o).2 (dR aR s o);rw[←hb,hrev]at hon;obtain⟨a1,a2,a3⟩:=IS hon;have hlm:(s.reviews.modify (o.review - 1).toNat shut).length=s.reviews.length:=aeR;rw[hlm]at a1;refine⟨a1,fun i h1 h2=>⟨fun hc=>?_,fun hc=>?_⟩,fun i h1 h2=>a3 i h1 aeK,fun hgl=>?_⟩
     ·have hi:(o.review - 1).toNat=i:=by omega
      subst hi;rw[a2 _ aeK h2,List.getElem_modify,if_pos rfl];exact⟨fun e=>hsu e.symm,hop,rfl,rfl⟩
     ·have hi:(o.review - 1).toNat≠i:=fun e=>hc ⟨rfl,by simp[nD,hd],hk,aeK⟩
      rw[a2 _ aeK h2,List.getElem_modify,if_neg hi]
     simp_all [nD]
    ·have hd:tP s o=false:=by grind
     have hb:cU s o=dF s o (gJ s o).2 false:=by grind [cU]
     have hon:=gW.duties o false (gJ s o).2 s;rw[←hb]at hon;obtain⟨a1,a2,a3⟩:=IS hon;refine⟨a1,fun i h1 h2=>⟨fun hc=>?_,fun hc=>a2 i h1 h2⟩,a3,fun hgl=>?_⟩
     ·simp_all [nD]
     simp_all [nD]
   ·have hs1:gW o s.reviews (if fD s o then bW s o o.reason else s).reviews:=by
     split
     ·exact .open s o _
     ·exact .refl o _
    have hs2:(if tP s o then dR aR (if fD s o then bW s o o.reason else s) o else(if fD s o then bW s o o.reason else s)).reviews=(if fD s o then bW s o o.reason else s).reviews:=by
     split
     ·simp_all [vi,if_neg]
     ·rfl
    have hd:=gW.duties o (tP s o) (gJ s o).2 (if tP s o then dR aR (if fD s o then bW s o o.reason else s) o else(if fD s o then bW s o o.reason else s))
    rw[hs2]at hd;have hon:gW o s.reviews (cU s o).reviews:=hs1.trans hd;obtain⟨a1,a2,a3⟩:=IS hon;refine⟨a1,fun i h1 h2=>⟨fun hc=>(hk hc.2.2.1).elim,fun hc=>a2 i h1 h2⟩,a3,fun hgl=>?_⟩
    have hg:fD s o=true:=hgl;have hd' :=hd;simp only[hg,↓reduceIte]at hd';obtain⟨b1,b2,_⟩:=IS hd';have hb:(cU s o)=dF (if tP s o then dR aR (bW s o o.reason) o else bW s o o.reason) o (gJ s o).2 (tP s o):=by grind [cU]
    rw[←hb]at b1 b2;have hl:(bW s o o.reason).reviews.length=s.reviews.length+1:=by simp[bW]
    refine⟨aeK,?_⟩
    grind [bW,BQ]
 ·rw[if_pos aeK]
  exact .same _ _ _ _ aeK rfl
theorem jA.up(h:jA k s):jA (k+1) s:={h with ver:=⟨h.ver.1,by have:=h.ver.2;omega⟩}
theorem Gv(o:OpD)(h:jA k s):jA (k+1) (aI s o).1:=by
 have hrl:=Ho (o:=o) h;unfold aI at hrl⊢
 by_cases hp:(jZ s o).1=0
 ·rw[if_neg aeK]at hrl⊢
  by_cases ho:sE (cU s o)=true
  ·rw[if_pos ho];exact h.up
  ·rw[if_neg ho]at hrl⊢
   have ho:sE (cU s o)=false:=aeL;have hw:=(L5 h hp).ok ho;unfold sE at ho;refine {hw with ids:=fun i hi=>?_,nr:=aeL,nn:=aeL}
   by_cases hlt:i<s.reviews.length
   ·obtain⟨h1,h2⟩:=hrl.old i hlt hi
    by_cases hc:(0:Int)=0∧(nD s o).err=0∧o.kind=5∧o.review=((i+1:Nat):Int)
    ·rw[(h1 hc).2.2.2];exact h.ids i hlt
    ·rw[h2 hc];exact h.ids i hlt
   ·exact(hrl.new i hi aeK).1
 ·rw[if_pos aeK];exact h.up
structure Xk (s:an) (o:OpD):Prop where
 err:(aI s o).2.2.2≠0→(aI s o).1=s∧(aI s o).2.1.err=(aI s o).2.2.2∧(aI s o).2.1.mark=naM
 ok:(aI s o).2.2.2=0→(aI s o).2.1.mark=(gJ s o).1∧(aI s o).2.2.1=⟨o,s.version,(gJ s o).1,fD s o,(gJ s o).2⟩∧(aI s o).2.1.glass=fD s o∧(aI s o).1=cU s o∧(aI s o).2.1=nD s o
theorem yA(o:OpD)(done:Bool):∀(l:List cC) (s:an),(dF s o l done).cases.length=s.cases.length
 | [],s=>rfl
 |x::l,s=>by
  have:(fm o done s x).cases.length=s.cases.length:=by
   unfold fm;split
   ·grind [iM]
   ·split
    ·rfl
    grind
  exact(yA o done l _).trans this
end Go.Bf
namespace Go.Ab
open Go
section
variable {U : TypeId → TI} {ρ : Env} {h0 h h' : Heap} {sz id : Nat} {tb : TypeId} {y : AV} {xs : List AV} {e : TypeId} {K : AV → Prop} {x : IntKind} {m : Int}
theorem vn(xs:List AV)(j:Nat):au xs=au (xs.take j)++au (xs.drop j):=aib
theorem OwE.cut(hw:OwE tb h0 h sz y xs){hi:Operand}(j:Nat)(hm:ev ρ hi=some (.v (.int x m)))(hj:m=j)(hl:j≤xs.length)(hz:(U tb).sz=sz)(h1:sz≠0)
  (hk:∀z,OwE tb h0 h sz z (xs.take j)→(z=y∨∃id l l' c,y= .ob id 0 l c sz∧z= .ob id 0 l' c sz)→K z):gZ U ρ y none (some hi) none K (.slice tb):=by
 subst hj;subst hz
 rcases hw with⟨rfl,rfl⟩|⟨id,h2,cap,rest,rfl,h3,h4,h5,h6⟩
 ·rw[rJ,fP,hm]
  refine⟨h1,?_⟩;have:j=0:=aeL;subst this;refine⟨aeK,aeR,?_⟩;exact hk _ (.inl ⟨rfl,rfl⟩) (.inl rfl)
 ·rw[BU]
  refine⟨h1,rfl,?_⟩;simp only[mS,fP,hm,dM,nS];refine⟨aeK,aeK,aeK,?_⟩;simp only[Int.toNat_natCast,Nat.zero_mul,Nat.add_zero,Nat.sub_zero,show(((0:Nat):Int)).toNat=0 from rfl]
  have e1:(xs.take j).length=j:=aeL;have hs:Sized (U tb).sz (xs.drop j):=fun z hz=>h6 z (List.mem_of_mem_drop hz)
  refine hk _ (.inr ⟨id,h2,cap,au (xs.drop j)++rest,by rw[e1],by grind [vn,List.append_assoc],?_,aeK,fun z hz=>h6 z (List.mem_of_mem_take hz)⟩) (.inr ⟨id,_,_,cap,rfl,rfl⟩)
  rw[aeE,aZ hs,h4,List.length_drop,e1,←Nat.add_mul]
  grind
theorem OwE.from(hw:OwE tb h0 h sz y xs){lo:Operand}(j:Nat)(hm:ev ρ lo=some (.v (.int x m)))(hj:m=j)(hl:j≤xs.length)(hz:(U tb).sz=sz)(h1:sz≠0)
  (hk:∀z,Rd h sz z (xs.drop j)→K z):gZ U ρ y (some lo) none none K (.slice tb):=by
 subst hj;subst hz
 rcases hw with⟨rfl,rfl⟩|⟨id,h2,cap,rest,rfl,h3,h4,h5,h6⟩
 ·have:j=0:=by grind
  subst this;rw[rK,fP,hm];refine⟨h1,by simp[Sized],?_⟩
  exact⟨aeK,aeR,aeR,hk _ (.sl (by intro z hz;grind [nH]) _)⟩
 ·rw[BU]
  refine⟨h1,rfl,?_⟩;simp only[mS,fP,hm,dM,nS];refine⟨aeK,aeK,aeK,?_⟩;simp only[Int.toNat_natCast,Nat.zero_add];have e1:(xs.drop j).length=xs.length - j:=aeR;have hs:Sized (U tb).sz (xs.drop j):=fun z hz=>h6 z aeL
  have ht:Sized (U tb).sz (xs.take j):=fun z hz=>h6 z aeL
  have e2:=aZ hs;have e3:=aZ ht;refine hk _ ⟨hs,.inr ⟨id,j*(U tb).sz,cap - j,_,tb,by rw[e1],h3,?_,?_⟩⟩
  ·grind [vn,aeE]
  grind [vn,List.append_assoc,List.drop_left,List.take_left]
end
end Go.Ab
namespace Go.Bf
open Go Go.Ab Go.Proofs.YtokahfmoollblaaGreatDoor
def hbit:Nat→Nat
 |0=>0
 |1=>4602678819172646912
 |_=>4607182418800017408
def aO(m:aT):AV:=.v (.complex .f64 (hbit m.1) (hbit m.2))
def M9(m:aT):Prop:=m.1≤2∧m.2≤2
def M6(m:aT):Prop:=m∈vC
instance (m:aT):Decidable (M9 m):=inferInstanceAs (Decidable (_∧_))
instance (m:aT):Decidable (M6 m):=inferInstanceAs (Decidable (m∈vC))
theorem M6.m9{m:aT}(h:M6 m):M9 m:=by exact ajz
theorem le2{n:Nat}(h:n≤2):n=0∨n=1∨n=2:=aeK
theorem zo{m n:aT}(hmm:M9 m)(hn:M9 n)(K:AV→Prop):gv .eql (.complex .f64 (hbit m.1) (hbit m.2)) (.complex .f64 (hbit n.1) (hbit n.2)) K=K (.b (m==n)):=
 oY (fun P ty w=>by exact ajw) K
theorem Bz{m n:aT}(hmm:M9 m)(hn:M9 n)(K:AV→Prop):gv .neq (.complex .f64 (hbit m.1) (hbit m.2)) (.complex .f64 (hbit n.1) (hbit n.2)) K=K (.b (!(m==n))):=
 oY (fun P ty w=>by exact ajw) K
structure Nb (m:aT):Prop where
 na:∀K,gv .eql (.complex .f64 (hbit m.1) (hbit m.2)) (.complex .f64 0 0) K=K (.b (m==naM))
 pe:∀K,gv .eql (.complex .f64 (hbit m.1) (hbit m.2)) (.complex .f64 4607182418800017408 0) K=K (.b (m==bg))
 de:∀K,gv .eql (.complex .f64 (hbit m.1) (hbit m.2)) (.complex .f64 0 4607182418800017408) K=K (.b (m==cJ))
 ip:∀K,gv .eql (.complex .f64 (hbit m.1) (hbit m.2)) (.complex .f64 4602678819172646912 0) K=K (.b (m==wK))
 id:∀K,gv .eql (.complex .f64 (hbit m.1) (hbit m.2)) (.complex .f64 0 4602678819172646912) K=K (.b (m==wJ))
 ib:∀K,gv .eql (.complex .f64 (hbit m.1) (hbit m.2)) (.complex .f64 4602678819172646912 4602678819172646912) K=K (.b (m==nq))
 nna:∀K,gv .neq (.complex .f64 (hbit m.1) (hbit m.2)) (.complex .f64 0 0) K=K (.b (!(m==naM)))
 npe:∀K,gv .neq (.complex .f64 (hbit m.1) (hbit m.2)) (.complex .f64 4607182418800017408 0) K=K (.b (!(m==bg)))
 nde:∀K,gv .neq (.complex .f64 (hbit m.1) (hbit m.2)) (.complex .f64 0 4607182418800017408) K=K (.b (!(m==cJ)))
theorem nb{m:aT}(h:M9 m):Nb m:=
 ⟨zo (n:=naM) h aeO,zo (n:=bg) h aeO,zo (n:=cJ) h aeO,zo (n:=wK) h aeO,zo (n:=wJ) h aeO,zo (n:=nq) h aeO,
  Bz (n:=naM) h aeO,Bz (n:=bg) h aeO,Bz (n:=cJ) h aeO⟩
theorem Rw{a b:Nat}(ha:a≤2)(hb:b≤2)(k:AV→Prop):Ax [.v (.float .f64 (hbit a)),.v (.float .f64 (hbit b))] k=k (.v (.float .f64 (hbit (max a b)))):=
 GV (fun P ts ty w=>by rcases le2 ha with rfl|rfl|rfl<;>rcases le2 hb with rfl|rfl|rfl<;>rfl) k
structure Fb (a:Nat):Prop where
 one:∀K,gv .eql (.float .f64 (hbit a)) (.float .f64 4607182418800017408) K=K (.b (a==2))
 half:∀K,gv .eql (.float .f64 (hbit a)) (.float .f64 4602678819172646912) K=K (.b (a==1))
 ge:∀K,gv .geq (.float .f64 (hbit a)) (.float .f64 4602678819172646912) K=K (.b (decide (1≤a)))
theorem fb{a:Nat}(h:a≤2):Fb a:=by
 rcases le2 h with rfl|rfl|rfl<;>
  exact⟨oY fun P ty w=>rfl,oY fun P ty w=>rfl,oY fun P ty w=>rfl⟩
end Go.Bf
namespace Go.Proofs.YtokahfmoollblaaGreatDoor
open Go Go.Ab Go.Bf Tryz
variable {rs:List ie}{k j:Nat}{s:an}{y1 y2 y3 y4 z:AV}
theorem CK(m:aT)(hmm:M6 m)(h:Heap):ai prog 278 [aO m] h fun r h' =>r= .b true∧h' =h:=by
 have hn:ai prog 52 [aO m] h fun r h' =>(∃c l,r= .s (c::l))∧h' =h:=by
  obtain⟨n1,n2,n3,n4,n5,n6⟩:=nb hmm.m9;refine aeJ func52 16 [.tmp 2] fun hwf=>?_
  cases d1:(m==naM)
  case true=>simp only[go_sem,aO,n1,d1];exact .same (.refl _) ⟨⟨_,_,rfl⟩,rfl⟩
  cases d2:(m==bg)
  case true=>simp only[go_sem,aO,n1,n2,d1,d2];exact .same (.refl _) ⟨⟨_,_,rfl⟩,rfl⟩
  cases d3:(m==cJ)
  case true=>simp only[go_sem,aO,n1,n2,n3,d1,d2,d3];exact .same (.refl _) ⟨⟨_,_,rfl⟩,rfl⟩
  cases d4:(m==wK)
  case true=>simp only[go_sem,aO,n1,n2,n3,n4,d1,d2,d3,d4];exact .same (.refl _) ⟨⟨_,_,rfl⟩,rfl⟩
  cases d5:(m==wJ)
  case true=>simp only[go_sem,aO,n1,n2,n3,n4,n5,d1,d2,d3,d4,d5];exact .same (.refl _) ⟨⟨_,_,rfl⟩,rfl⟩
  have d6:(m==nq)=true:=by
   unfold M6 vC at hmm
   grind
  simp only[go_sem,aO,n1,n2,n3,n4,n5,n6,d1,d2,d3,d4,d5,d6];exact .same (.refl _) ⟨⟨_,_,rfl⟩,rfl⟩
 refine aeJ func278 6 [.tmp 2] fun hwf=>?_
 simp only[go_sem];refine hn.mono ?_
 rintro r h' ⟨⟨c,l,rfl⟩,rfl⟩
 exact ajd
theorem yU(m:aT)(hmm:M9 m)(h:Heap):ai prog 252 [aO m] h fun r h' =>r=aO (gX m)∧h' =h:=by
 obtain⟨n1,n2,n3,n4,n5,n6⟩:=nb hmm;refine aeJ func252 9 [.tmp 2] fun hwf=>?_
 cases d2:(m==bg)
 case true=>simp only[go_sem,aO,n2,d2];exact .same (.refl _) ⟨by rw[gX,if_pos aeL];rfl,rfl⟩
 cases d3:(m==cJ)
 case true=>simp only[go_sem,aO,n2,n3,d2,d3];exact .same (.refl _) ⟨by rw[gX,if_neg aeL,if_pos aeL];rfl,rfl⟩
 simp only[go_sem,aO,n2,n3,d2,d3];exact .same (.refl _) ⟨by rw[gX,if_neg aeL,if_neg aeL];rfl,rfl⟩
theorem uA(m:aT)(h:Heap):ai prog 300 [aO m] h fun r h' =>r= .tup [.v (.float .f64 (hbit m.1)),.v (.float .f64 (hbit m.2))]∧h' =h:=by
 refine aeJ func300 10 [.tmp 2,.tmp 3] fun hwf=>?_
 simp only[go_sem,aO];exact aeV
theorem RD(a b:Nat)(h:Heap):ai prog 301 [.v (.float .f64 (hbit a)),.v (.float .f64 (hbit b))] h fun r h' =>r=aO (a,b)∧h' =h:=by
 refine aeJ func301 8 [.tmp 4] fun hwf=>?_
 exact ajd
theorem QJ(m:aT)(h:Heap):ai prog 281 [aO m] h fun r h' =>r=aO (Fy m)∧h' =h:=by
 refine aeJ func281 13 [.tmp 2] fun hwf=>?_
 simp only[go_sem];refine(uA m _).pthen ?_;simp only[go_sem];refine(RD m.2 m.1 _).pthen ?_;exact ajd
theorem PK(a b:aT)(ha:M9 a)(hb:M9 b)(h:Heap):ai prog 279 [aO a,aO b] h fun r h' =>r=aO (oU a b)∧h' =h:=by
 have m1:=Rw ha.1 hb.1;have m2:=Rw ha.2 hb.2;refine aeJ func279 26 [.tmp 4] fun hwf=>?_
 simp only[go_sem];refine(uA a _).pthen ?_;simp only[go_sem];refine(uA b _).pthen ?_;simp only[go_sem,m1,m2];refine(RD _ _ _).pthen ?_;exact ajd
theorem M9.join{a b:aT}(ha:M9 a)(hb:M9 b):M9 (oU a b):=⟨Nat.max_le.2 ⟨ha.1,hb.1⟩,Nat.max_le.2 ⟨ha.2,hb.2⟩⟩
theorem IU(j:aT):M6 (rz j):=by
 unfold rz
 repeat' split
 all_goals decide
theorem IV(j:aT)(hj:M9 j)(h:Heap):ai prog 280 [aO j] h fun r h' =>r=aO (rz j)∧h' =h:=by
 obtain⟨p1,p2,p3⟩:=fb hj.1;obtain⟨q1,q2,q3⟩:=fb hj.2;refine aeJ func280 29 [.tmp 2] fun hwf=>?_
 simp only[go_sem];refine(uA j _).pthen ?_;cases d1:(j.2==2)
 case true=>simp only[go_sem,q1,d1];exact .same (.refl _) ⟨by rw[rz,if_pos aeL];rfl,rfl⟩
 have e1:¬j.2=2:=aeL;cases d2:(j.2==1)
 case true=>
  have e2:j.2=1:=aeL;cases d3:decide (1≤j.1)
  ·simp only[go_sem,p3,q1,q2,d1,d2,d3];exact .same (.refl _) ⟨by rw[rz,if_neg e1,if_neg aeL,if_pos e2];rfl,rfl⟩
  ·simp only[go_sem,p3,q1,q2,d1,d2,d3];exact .same (.refl _) ⟨by rw[rz,if_neg e1,if_pos ⟨e2,aeC d3⟩];rfl,rfl⟩
 have e2:¬j.2=1:=aeL;cases d4:(j.1==2)
 case true=>simp only[go_sem,p1,q1,q2,d1,d2,d4];exact .same (.refl _) ⟨by rw[rz,if_neg e1,if_neg (fun h=>e2 h.1),if_neg e2,if_pos aeL];rfl,rfl⟩
 cases d5:(j.1==1)
 case true=>simp only[go_sem,p1,p2,q1,q2,d1,d2,d4,d5];exact .same (.refl _) ⟨by rw[rz,if_neg e1,if_neg (fun h=>e2 h.1),if_neg e2,if_neg aeL,if_pos aeL];rfl,rfl⟩
 simp only[go_sem,p1,p2,q1,q2,d1,d2,d4,d5];exact .same (.refl _) ⟨by rw[rz,if_neg e1,if_neg (fun h=>e2 h.1),if_neg e2,if_neg aeL,if_neg aeL];rfl,rfl⟩
def OwR(h0 h:Heap)(y:AV)(rs:List ie):Prop:=y=dW rs∨OwE 138 h0 h 2 y (rs.map dj)
theorem OwR.rd{h0 h:Heap}{y:AV}(hr:OwR h0 h y rs):Rd h 2 y (rs.map dj):=by
 rcases hr with rfl|hr
 ·exact eL dj 2 (fun _=>rfl) h rs
 ·exact hr.rd
theorem OwR.nid{h0 h:Heap}{y:AV}(hr:OwR h0 h y rs)(e:Ab.nid y=some k):h0 k=none∧h k≠none:=by
 rcases hr with rfl|hr
 ·cases e
 ·exact⟨(hr.nid e).1,(hr.nid e).2.1⟩
theorem OwR.keep{h0 h h' :Heap}{y:AV}(hr:OwR h0 h y rs)(hk:∀id,Ab.nid y=some id→h' id=h id):OwR h0 h' y rs:=by
 rcases hr with hr|hr
 ·exact .inl hr
 ·exact .inr (hr.keep hk)
theorem OwR.bN{g h0 h:Heap}{y:AV}(hr:OwR h0 h y rs)(hg:∀i,h0 i=none→g i=none):OwR g h y rs:=by
 rcases hr with hr|hr
 ·exact .inl hr
 ·exact .inr (hr.bN hg)
theorem OwR.frz{g h:Heap}{y:AV}(hr:OwR g h y rs):Frz g h y (dW rs):=by
 rcases hr with rfl|hr
 ·exact .pure (by simp only[dW,cN];exact bn (fun _=>rfl) _)
 ·exact hr.frz (bn (fun _=>rfl) _)
structure iV (h0 h:Heap) (y1 y2 y3 y4:AV) (s:an) (j:Nat):Prop where
 cs:mF h0 h [y1,y2,y3,y4] y1 s.cases j
 rv:OwE 132 h0 h 7 y2 (s.reviews.map gz)
 nt:OwE 135 h0 h 3 y3 (s.notices.map kD)
 rl:OwR h0 h y4 s.roles
 a12:apart y1 y2
 a13:apart y1 y3
 a14:apart y1 y4
 a23:apart y2 y3
 a24:apart y2 y4
 a34:apart y3 y4
def stC(s:an)(y1 y2 y3 y4:AV):List AV:=[.i s.tick,y1,y2,y3,y4]++gq s.policy++ [.i s.version]
theorem tG.parts{h0 h:Heap}{x:AV}(ho:tG h0 h x s j):∃y1 y2 y3 y4,x= .agg (stC s y1 y2 y3 y4)∧iV h0 h y1 y2 y3 y4 s j:=by obtain⟨y1,y2,y3,y4,e,a,b,c,d,r1,r2,r3,r4,r5,r6⟩:=ho;exact⟨y1,y2,y3,y4,e,a,b,c,.inr d,r1,r2,r3,r4,r5,r6⟩
theorem iV.rd{h0 h:Heap}(ho:iV h0 h y1 y2 y3 y4 s j):RdS h (.agg (stC s y1 y2 y3 y4)) s:=
 ⟨y1,y2,y3,y4,rfl,ho.cs.rd,ho.rv.rd,ho.nt.rd,ho.rl.rd⟩
theorem iV.frz{g h:Heap}(ho:iV g h y1 y2 y3 y4 s j):Frz g h (.agg (stC s y1 y2 y3 y4)) (bY s):=
 vp (ho.cs.frz (.refl _)) (ho.rv.frz (bn (fun _=>rfl) _)) (ho.nt.frz (bn (fun _=>rfl) _)) ho.rl.frz
theorem iV.bN{g h0 h:Heap}(ho:iV h0 h y1 y2 y3 y4 s j)(hg:∀i,h0 i=none→g i=none):iV g h y1 y2 y3 y4 s j:=
 {ho with cs:=ho.cs.bN hg,rv:=ho.rv.bN hg,nt:=ho.nt.bN hg,rl:=ho.rl.bN hg}
theorem iV.keep{h0 h h' :Heap}(ho:iV h0 h y1 y2 y3 y4 s j)(hk:∀id,h0 id=none→h id≠none→h' id=h id):iV h0 h' y1 y2 y3 y4 s j:=
 {ho with cs:=ho.cs.keepb hk,rv:=ho.rv.keepb hk,nt:=ho.nt.keepb hk,rl:=ho.rl.keep fun id e=>hk id (ho.rl.nid e).1 (ho.rl.nid e).2}
theorem iV.mem{h0 h:Heap}(ho:iV h0 h y1 y2 y3 y4 s j){w:AV}(hw:w∈ [y1,y2,y3,y4])(e:Ab.nid w=some k):h0 k=none∧h k≠none:=by
 obtain⟨xs,a,_⟩:=ho.cs;simp only[List.mem_cons,List.not_mem_nil,or_false]at hw;rcases hw with rfl|rfl|rfl|rfl
 ·exact⟨(a.nid e).1,(a.nid e).2.1⟩
 ·exact⟨(ho.rv.nid e).1,(ho.rv.nid e).2.1⟩
 ·exact⟨(ho.nt.nid e).1,(ho.nt.nid e).2.1⟩
 ·exact ho.rl.nid e
theorem iV.revs{h0 h h' :Heap}{rs:List qu}(ho:iV h0 h y1 y2 y3 y4 s j)(hz:OwE 132 h0 h' 7 z (rs.map gz))(hn:∀k,Ab.nid z=some k→h k=none∨Ab.nid y2=some k)
  (hk:∀id,h0 id=none→h id≠none→Ab.nid y2≠some id→h' id=h id):iV h0 h' y1 z y3 y4 {s with reviews:=rs} j:=by
 obtain⟨hcs,hrv,hnt,hrl,a12,a13,a14,a23,a24,a34⟩:=id ho;have ap:∀ {w:AV},w∈ [y1,y2,y3,y4]→apart w y2→apart w z:=fun hw ha k e1 e2=>(hn k e2).elim (fun h=>(ho.mem hw e1).2 h) (fun h=>ha k e1 h)
 refine⟨hcs.move (z:=y2) aeR a12 hk fun w hw k e=>?_,hz,hnt.keep fun id e=>hk id (hnt.nid e).1 (hnt.nid e).2.1 fun e1=>a23 id e1 e,hrl.keep fun id e=>hk id (hrl.nid e).1 (hrl.nid e).2 fun e1=>a24 id e1 e,ap aeR a12,a13,a14,(ap aeR a23.symm).symm,(ap aeR a24.symm).symm,a34⟩
 grind
theorem iV.nots{h0 h h' :Heap}{rs:List FM}(ho:iV h0 h y1 y2 y3 y4 s j)(hz:OwE 135 h0 h' 3 z (rs.map kD))(hn:∀k,Ab.nid z=some k→h k=none∨Ab.nid y3=some k)
  (hk:∀id,h0 id=none→h id≠none→Ab.nid y3≠some id→h' id=h id):iV h0 h' y1 y2 z y4 {s with notices:=rs} j:=by
 obtain⟨hcs,hrv,hnt,hrl,a12,a13,a14,a23,a24,a34⟩:=id ho;have ap:∀ {w:AV},w∈ [y1,y2,y3,y4]→apart w y3→apart w z:=fun hw ha k e1 e2=>(hn k e2).elim (fun h=>(ho.mem hw e1).2 h) (fun h=>ha k e1 h)
 refine⟨hcs.move (z:=y3) aeR a13 hk fun w hw k e=>?_,hrv.keep fun id e=>hk id (hrv.nid e).1 (hrv.nid e).2.1 fun e1=>a23 id e e1,hz,hrl.keep fun id e=>hk id (hrl.nid e).1 (hrl.nid e).2 fun e1=>a34 id e1 e,a12,ap aeR a13,a14,ap aeR a23,a24,(ap aeR a34.symm).symm⟩
 grind
end Go.Proofs.YtokahfmoollblaaGreatDoor
namespace Go.Bf
open Go Go.Ab Go.Proofs.YtokahfmoollblaaGreatDoor
variable {s:an}{k:Nat}{cs:List aN}
def iH(s:an):Prop:=∀r∈s.reviews,0≤r.tick∧r.tick≤1099511627776
theorem BZ(o:OpD)(w:Txt)(h:iH s)(ht:0≤s.tick∧s.tick≤1099511627776):iH (bW s o w):=fun r hr=>by
 simp only[bW,List.mem_append,List.mem_singleton]at hr;rcases hr with hr|rfl
 ·exact h r hr
 ·exact ht
theorem Lm(o:OpD)(w:Txt)(h:iH s):iH (iM s o w):=fun r hr=>h r (by grind [zi])
theorem Ll(o:OpD)(done:Bool)(x:cC)(h:iH s)(ht:0≤s.tick∧s.tick≤1099511627776):iH (fm o done s x):=by
 unfold fm;split
 ·grind [Lm]
 ·split
  ·grind [BZ]
  ·split<;>exact h
theorem xl(o:OpD)(done:Bool):∀(l:List cC) {s:an},iH s→(0≤s.tick∧s.tick≤1099511627776)→iH (dF s o l done)
 | [],s,h,_=>h
 |x::l,s,h,ht=>xl o done l (by grind [Ll]) (by grind [DI])
theorem Ol(par:Txt→bE×Int×Int)(o:OpD)(h:iH s):iH (dR par s o):=fun r hr=>by
 rw[vi]at hr;split at hr
 ·rcases mem_modify hr with hr|⟨hi,rfl⟩
  ·exact h r hr
  ·have h2:=h _ (aeF hi)
   exact aiU
 ·exact h r hr
theorem HH(o:OpD)(h:jA k s)(ht:iH s):iH (aI s o).1:=by
 unfold aI;split
 ·omega
 ·split
  ·omega
  ·show iH (cU s o)
   have h1:dL k (if fD s o then bW s o o.reason else s):=by
    split
    ·exact CP o _ h.todL (by have:=h.nr;omega)
    ·exact h.todL
   have t1:iH (if fD s o then bW s o o.reason else s):=by
    split
    ·exact BZ o _ ht h.tick
    omega
   refine xl o _ _ ?_ ?_
   ·grind [Ol]
   ·split
    ·exact(qd o h1).tick
    ·exact h1.tick
structure gH (k:Nat) (s:an):Prop extends jA k s where
 ticks:iH s
theorem sP:gH 0 sY:={Ke with ticks:=fun r h=>afI}
theorem qY(o:OpD)(h:gH k s):gH (k+1) (aI s o).1:={Gv o h.tojA with ticks:=HH o h.tojA h.ticks}
theorem PG{id:Txt}(h:iY cs id<cs.length):cs[iY cs id].id=id:=by
 have:=List.findIdx_getElem (p:=fun c:aN=>c.id==id) (w:=h)
 exact eq_of_beq this
theorem GI(ha:Asc cs){id:Txt}(h:iY cs id<cs.length):findD cs id=iY cs id:=by
 have hid:=PG h;have hin:cj cs id=true:=by grind [vT,List.any_eq_true,aeF]
 have hir:Op.bytesLess id id=false:=by simpa[lt]using lt_irrefl id
 have h1:∃hl:findD cs id<cs.length,cs[findD cs id].id=id:=by
  unfold cj at hin
  grind
 rcases Nat.lt_trichotomy (findD cs id) (iY cs id)with hlt|heq|hgt
 ·exact absurd (List.not_of_lt_findIdx (p:=fun c:aN=>c.id==id) hlt) aeL
 ·exact heq
 ·have:=List.not_of_lt_findIdx (p:=fun c:aN=>geB c.id id) hgt
  exact absurd this (by grind [geB])
theorem MQ{ds:List aN}(h:ds.map (·.id)=cs.map (·.id))(id:Txt):iY ds id=iY cs id:=by
 have e:∀l:List aN,iY l id=(l.map (·.id)).findIdx fun x=>x==id:=fun l=>by rw[List.findIdx_map];rfl
 rw[e,e,h]
theorem Kq(s:an)(o:OpD)(w:Txt)(id:Txt):iY (iM s o w).cases id=iY s.cases id∧(iM s o w).cases.length=s.cases.length:=by
 unfold iM;split
 ·exact⟨MQ (kZ (f:=fun c=>jG s c o.subj w) (g:=fun c:aN=>c.id) fun c=>rfl) id,aeR⟩
 omega
theorem Kp(o:OpD)(done:Bool)(s:an)(x:cC)(id:Txt):iY (fm o done s x).cases id=iY s.cases id∧(fm o done s x).cases.length=s.cases.length:=by
 unfold fm;split
 ·grind [Kq]
 ·split
  ·exact⟨rfl,rfl⟩
  grind
end Go.Bf
namespace Go.Proofs.YtokahfmoollblaaGreatDoor
open Go Go.Ab
abbrev By:=Bytes 5
theorem u5:(U 5).sz=1:=aeZ
theorem u5a:(U 5).k.agg=false:=aeZ
theorem qN(y:AV)(l:List UInt8)(h:Heap)(hb:By h y l)(hl:l.length≤140737488355328):
  ai Tryz.prog 55 [y] h fun r h' =>h' =h∧r= .sl (l.map aK) .no:=by
 refine aeJ Tryz.func55 8 [.tmp 2] fun hwf=>?_
 simp only[go_sem];refine hb.Tk fun b hbn=>?_
 simp only[go_sem];refine jq.intro (fun e=>?_) (fun e=>?_)
 ·have hl0:l= []:=Classical.byContradiction fun hh=>by grind
  subst hl0;simp only[go_sem];exact ag6
 ·simp only[go_sem]
  rw[hb.src u5];simp only[go_sem];refine⟨aeK,fun hn=>?_,fun hn=>?_⟩
  ·have hl0:l= []:=by simp_all
   subst hl0;simp only[go_sem];exact ag6
  ·refine .own fun id hid=>?_
   simp only[go_sem];exact .mk _ (.sl _ _) (.aj hid) ⟨rfl,rfl⟩
theorem Mi(y:AV)(l:List UInt8)(h:Heap)(hb:By h y l)(hl:l.length≤140737488355328):
  ai Tryz.prog 55 [y] h fun r h' =>(l= []∧r= .sl [] .no∧h' =h)∨(l≠ []∧∃id m,h id=none∧r= .oa id 0 l.length∧h' =upd h id (some (.obj (l.map aK++List.replicate m (aK 0)) 5))):=by
 refine aeJ Tryz.func55 8 [.tmp 2] fun hwf=>?_
 simp only[go_sem];refine hb.Tk fun b hbn=>?_
 simp only[go_sem];refine jq.intro (fun e=>?_) (fun e=>?_)
 ·have hl0:l= []:=Classical.byContradiction fun hh=>by grind
  subst hl0;simp only[go_sem];exact .mk (.sl [] .no) (.sl _ _) (.refl _) aeR
 ·simp only[go_sem]
  rw[hb.src u5];simp only[go_sem];refine⟨aeK,fun hn=>?_,fun hn=>?_⟩
  ·have hl0:l= []:=by simp_all
   subst hl0;simp only[go_sem];exact .mk (.sl [] .no) (.sl _ _) (.refl _) aeR
  ·refine .oa u5 ?_ ?_ (wW l) fun id m hid=>?_
   ·simp only[go_sem]
   ·rfl
   ·simp only[go_sem]
    exact .mk _ (.refl _) (.refl _) (.inr ⟨aeL,id,m,hid,rfl,rfl⟩)
end Go.Proofs.YtokahfmoollblaaGreatDoor
namespace Go.Proofs.YtokahfmoollblaaGreatDoor
open Go Go.Ab Go.RowKit Go.Lib
theorem i5:∃i z,Tryz.prog.info? 5=some i∧i.zero=some z∧i.size=1∧i.bytes=1∧z.cells.size=1:=by obtain⟨i,h1,h2,h3,z,h4,h5,_⟩:=(hU 5).info aeO;exact⟨i,z,h1,h4,h2,by rw[h3];rfl,h5⟩
set_option maxHeartbeats 1000000 in
theorem Kc(a:Option Addr)(w:World):Calls Tryz.prog 135 #[.slice a 0 0,.int .i64 0] w fun e w' =>e= .returned (.slice a 0 0)∧w' =w:=by
 go_enter Tryz.func135,Tryz.ntmps135
 go_wp2
 go_ret
 simp
set_option maxHeartbeats 1000000 in
theorem Kb(a:Option Addr)(n:Nat)(h0:0<n)(hn:n≤20000000)(w:World):Calls Tryz.prog 135 #[.slice a 0 0,.int .i64 n] w fun e w' =>
  ∃z:Value,z.cells.size=1∧e= .returned (.slice (some ⟨w.heap.size,0,none⟩) 0 (grownCap w n 0 5))∧
   w' =w.drew.alloc (.cells (Builtin.zeroCells z.cells n++Builtin.zeroCells z.cells (grownCap w n 0 5 - n)) 5):=by
 obtain⟨i,z,e1,e2,e3,e4,e5⟩:=i5;have hsl:Tryz.prog.underlying 82=some (.slice 5):=by rfl
 have hin:Tryz.prog.underlying 3=some (.int .i64):=by rfl
 have hold:(Builtin.firstCells i.size 0 (.slice a 0 0)).run Tryz.prog w.drew= .ok (#[]:Array Value) w.drew:=by cases a<;>simp[Builtin.firstCells,loadCells,loadCellsFrom]
 have hrz:∀ty,(Builtin.append_ #[82,3] ty #[.slice a 0 0,.int .i64 (n:Int)]).run Tryz.prog w=
   .ok (.slice (some ⟨w.heap.size,0,none⟩) n (grownCap w n 0 5)) (w.drew.alloc (.cells (Builtin.zeroCells z.cells n++Builtin.zeroCells z.cells (grownCap w n 0 5 - n)) 5)):=fun ty=>by
  have h:=Lib.run_append_grow_zeros w 82 3 ty 5 i z .i64 .i64 hsl hin e1 e2 a 0 0 [] aeK n h0 aeK aeK aeK
   aeL
   (by rw[e4];exact growslice_fits aeK aeK)
  simpa using h
 have hG:=grownCap_ge w n 0 5;have hG63:grownCap w n 0 5≤9223372036854775807:=by grind [grownCap_le_maxLen,maxLen]
 obtain⟨G,hGe⟩:∃G,G=grownCap w n 0 5:=⟨_,rfl⟩;rw[←hGe]at hrz hG hG63⊢;have h3:wrap64 ((n:Int) - 0)=(n:Int):=by grind [wrap64]
 have h4:¬((n:Int)<0):=aeK;have h5:(n:Int)>0:=aeK;refine Calls.mono (R:=fun e w' =>e= .returned (.slice (some ⟨w.heap.size,0,none⟩) 0 G)∧w' =w.drew.alloc (.cells (Builtin.zeroCells z.cells n++Builtin.zeroCells z.cells (G - n)) 5)) ?_ aeL
 clear hold hGe
 go_enter Tryz.func135,Tryz.ntmps135
 cases a with
 |none=>
  go_wp2_with (at_builtin;refine Lib.wpList_append_run _ rfl _ _ _ _ rfl _ _ rfl rfl _ _ (hrz _) ?_)
  all_goals (go_ret;simp)
 |some q=>
  obtain⟨ab,ao,asp⟩:=q
  go_wp2_with (at_builtin;refine Lib.wpList_append_run _ rfl _ _ _ _ rfl _ _ rfl rfl _ _ (hrz _) ?_)
  all_goals (go_ret;simp)
end Go.Proofs.YtokahfmoollblaaGreatDoor
namespace Go.Proofs.YtokahfmoollblaaGreatDoor
open Go Go.Ab
variable {l p:List UInt8}{cs cs' args:List AV}{Q:AV→Heap→Prop}{n at_:Nat}{ps:List (List UInt8)}{sp S T:List Nat}{down:Bool}
theorem TU:(U 5).bytes=1:=aeZ
theorem PA(n:Nat)(hn:n≤20000000)(h:Heap):ai Tryz.prog 135 [.sl [] .full,.i n] h fun r h' =>Acc U 5 h h' r []∧fR h h' :=by
 refine fun c vs hs g hv hr=> .inl ⟨⟨_,Tryz.func135,aeZ,rfl⟩,?_⟩
 have h0:=hr 0 aeR;have h1:=hr 1 aeR;obtain⟨a,cap,sz,val,e0,sl⟩:=h0.iR;have hcap:cap=0:=sl.hp;subst hcap;have e1:=h1.bR;have ev:vs= #[.slice a 0 0,.int .i64 n]:=by
  apply Array.ext
  ·omega
  ·intro i h2 h3
   have h3' :i<2:=h3;have:i=0∨i=1:=aeK;rcases this with rfl|rfl
   ·simpa[Array.getD,h2]using e0
   ·simpa[Array.getD,h2]using e1
 subst ev
 by_cases hn0:n=0
 ·subst hn0
  refine(Kc a c.w).mono ?_
  rintro e w' ⟨rfl,rfl⟩
  exact⟨_,rfl,c,.sl [] .full,h,rfl,g,.refl c,h0,hs,.full (.refl h),.refl h⟩
 ·refine(Kb a n aeK hn c.w).mono ?_
  rintro e w' ⟨z,hz,rfl,rfl⟩
  refine⟨_,rfl,?_⟩;have hG:=grownCap_ge c.w n 0 5;have hG63:grownCap c.w n 0 5≤9223372036854775807:=by grind [grownCap_le_maxLen,maxLen]
  generalize hGe:grownCap c.w n 0 5=G at hG hG63;generalize hcells:Builtin.zeroCells z.cells n++Builtin.zeroCells z.cells (G - n)=cells;have hcs:cells.size=G:=by grind [size_zeroCells]
  obtain⟨id,hid⟩:=g.fresh;have g1:Ab.Good ({c with w:=c.w.drew}:Cx):=g.draw rfl rfl rfl rfl
  have e1:Ext c {c with w:=c.w.drew}:=Ext.draw rfl rfl rfl rfl
  have hh:h id=none:=yN hs hid;refine⟨Cx.aA {c with w:=c.w.drew} (.cells cells 5) id ⟨c.w.heap.size,0,none⟩ (.spare 0 1),.sl [] (.own id),upd h id (some (.spare 0 1)),rfl,?_,e1.trans (Ext.aA _ _ id _ _ rfl (.inl hid)),?_,hs.upd id _,?_,?_⟩
  ·exact g1.aA _ _ _ id _ _ rfl (.inl hid) aeR aeR
  ·refine .sl [] _ (some ⟨c.w.heap.size,0,none⟩) G 1 (fun _ _=>undef) (Nat.zero_le _) (by grind [lim]) aeR (fun q hq _=>by cases hq;exact⟨rfl,by simp[Cx.aA]⟩)
    aeR aeR aeR aeR ?_
   exact⟨0,ag9,Nat.le_refl _,fun _=>⟨_,rfl,ag9,cells,5,(0,0),heap_alloc_new c.w.drew _,aeL⟩⟩
  ·exact⟨(Sub.refl h).new hh _,.inr ⟨id,hh,rfl,by grind [ah,u5]⟩⟩
  ·exact((Sub.refl h).new hh _).fJ
theorem u27:(U 82).sz=1:=aeZ
theorem ov(ls:List (List UInt8))(i:Nat)(hi:i<ls.length):(ls.take (i+1)).flatten=(ls.take i).flatten++ls[i]:=by rw[List.take_succ_eq_append_getElem hi,List.flatten_append,List.flatten_cons,List.flatten_nil,List.append_nil]
theorem pJ(ls:List (List UInt8))(i:Nat):(ls.take i).flatten.length≤ls.flatten.length:=by grind [List.take_append_drop,List.flatten_append,aeE]
theorem A6(ys:List AV)(ls:List (List UInt8))(q:Perm)(h:Heap)(hr:Ab.Rows 5 h ys ls)(hl:ls.flatten.length≤20000000)(hn:ls.length≤20000000):
  ai Tryz.prog 75 [.sl ys q] h fun r h' =>r= .sl (ls.flatten.map aK) .no∧Sub h h' :=by
 have hlen:=hr.1;refine aeJ Tryz.func75 36 [.tmp 2] fun hwf=>?_
 simp only[go_sem];refine .intro (fun m ρ h' =>h' =h∧∃i:Nat,i≤ls.length∧m=ls.length - i∧lk ρ 0=some (.sl ys q)∧lk ρ 9=some (.sl ys q)∧lk ρ 10=some (.i ys.length)∧
  lk ρ 11=some (.i i)∧lk ρ 3=some (.v (.int .i64 (ls.take i).flatten.length))) ls.length ?_ ?_
 ·refine⟨rfl,0,Nat.zero_le _,rfl,?_,?_,?_,?_,?_⟩<;>simp only[go_sem]
  all_goals first|rfl|simp
 ·rintro m ρ h' ⟨rfl,i,hi,rfl,r0,r9,r10,r11,r3⟩
  simp only[go_sem,r0,r9,r10,r11,r3];refine .intro (fun e=>?_) (fun e=>?_)
  ·have hlt:i<ys.length:=by simpa using e
   have hlt2:i<ls.length:=aeK;have hb:=hr.2 i hlt hlt2;simp only[go_sem,r0,r9,r10,r11,r3];refine .at i hlt (by rw[hb.cells];rfl) ?_
   have t1:=pJ ls (i+1);have t2:=ov ls i hlt2;have w1:IntKind.i64.wrap (((ls.take i).flatten.length:Int)+(ls[i].length:Int))=((ls.take (i+1)).flatten.length:Nat):=by rw[t2,aeE]at t1⊢;rw[IntWalk.i64_in _ aeK];omega
   simp only[go_sem,r0,r9,r10,r11,r3,hb.cells,hb.Ns,and_self,hb.len,w1];refine .no (decide_eq_false aeK) ?_;have w2:IntKind.i64.wrap ((i:Int)+1)=((i+1:Nat):Int):=afC;simp only[go_sem,r0,r9,r10,r11,r3,w2];refine⟨ls.length - (i+1),aeK,rfl,i+1,hlt2,rfl,?_,?_,?_,?_,?_⟩<;>simp only[go_sem,r0,r9,r10,r11,r3]
  ·have hge:i=ls.length:=by
    have:¬(i<ys.length):=by simpa using e
    omega
   subst hge;rw[List.take_length]at r3;simp only[go_sem,r0,r9,r10,r11,r3];refine(PA ls.flatten.length hl h').mono fun g1 h1 ⟨ha,hk⟩=>?_
   simp only[go_sem,r0,r9,r10,r11,r3];refine .intro (fun m ρ h2=>∃g:AV,∃i:Nat,Acc U 5 h' h2 g ((ls.take i).flatten.map aK)∧fR h' h2∧i≤ls.length∧m=ls.length - i∧lk ρ 25=some (.sl ys q)∧lk ρ 26=some (.i ys.length)∧
    lk ρ 27=some (.i i)∧lk ρ 6=some g) ls.length ?_ ?_
   ·refine⟨g1,0,ha,hk,Nat.zero_le _,rfl,?_,?_,?_,?_⟩<;>simp only[go_sem]
    all_goals rfl
   ·rintro m ρ h2 ⟨g,i,ha,hk,hi,rfl,r25,r26,r27,r6⟩
    simp only[go_sem,r25,r26,r27,r6];refine .intro (fun e=>?_) (fun e=>?_)
    ·have hlt:i<ys.length:=by simpa using e
     have hlt2:i<ls.length:=aeK;have hb:=(hr.2 i hlt hlt2).fJ hk;have t1:=pJ ls (i+1);have t2:=ov ls i hlt2;simp only[go_sem,r25,r26,r27,r6];refine .at i hlt (by rw[hb.cells];rfl) ?_
     simp only[go_sem,r25,r26,r27,r6,hb.cells,hb.Ns,and_self];refine ha.app (zs:=ls[i].map aK) (by rw[u5];decide) (by rw[TU];decide) (fun k hk=>by rw[hb.src u5];exact hk) (by rw[u5,jO];trivial) (by rw[u5,jO];trivial) ?_ fun g' h3 ha' hk' =>?_
     ·rw[TU,aeA,aeA]
      rw[t2,aeE]at t1;omega
     ·have w2:IntKind.i64.wrap ((i:Int)+1)=((i+1:Nat):Int):=by rw[IntWalk.i64_in _ aeK];omega
      simp only[go_sem,r25,r26,r27,r6,w2];rw[←List.map_append,←t2]at ha';refine⟨ls.length - (i+1),aeK,g',i+1,ha',hk.trans hk',hlt2,rfl,?_,?_,?_,?_⟩<;>simp only[go_sem,r25,r26,r27,r6]
    ·have hge:i=ls.length:=by
      have:¬(i<ys.length):=by simpa using e
      omega
     subst hge;rw[List.take_length]at ha;simp only[go_sem,r25,r26,r27,r6];exact .mk _ ha.weak (.refl _) ⟨rfl,ha.1⟩
structure D where
 q:Nat
 b:List UInt8
 sy:Nat
 f:Nat
 off:Bool
variable {d:D}
def D.ok(d:D):Prop:=d.b.length≤d.q∧d.q≤1048576∧d.sy≤d.b.length∧d.f<9223372036854775808
def D.burn(d:D):D:=if 0<d.f then {d with f:=d.f - 1,off:=decide (d.f=1)} else d
def D.cells(d:D)(y:AV):List AV:=[.i d.q,y,.i d.sy,.i d.f,.b d.off]
def bC(h:Heap)(id:Nat)(d:D):Prop:=∃y,h id=some (.obj (d.cells y) 121)∧By h y d.b
theorem bC.keep{h h' :Heap}{id:Nat}(hd:bC h id d)(hs:fR h h'):bC h' id d:=by obtain⟨y,h1,h2⟩:=hd;exact⟨y,hs _ _ _ h1,h2.fJ hs⟩
theorem By.set{h:Heap}{id:Nat}{x:AV}(hb:By h x l)(hid:h id=some (.obj cs 121)):By (upd h id (some (.obj cs' 121))) x l:=hb.keep (Keep.upd id _) hid aeO
theorem Mp(q:Nat)(hq:q≤1048576)(h:Heap):
  ai Tryz.prog 19 [.i q] h fun r h' =>∃id,h id=none∧r= .tup [.ptr id 0,.i 0]∧bC h' id ⟨q,[],0,0,false⟩∧Sub h h' :=by
 refine aeJ Tryz.func19 13 [.tmp 2,.tmp 3] fun hwf=>?_
 simp only[go_sem];refine .intro (fun e=>absurd (aeC e) aeK) (fun e=>?_)
 simp only[go_sem];refine .no (decide_eq_false aeK) ?_;simp only[go_sem];intro id hid;simp only[go_sem];exact .same (.refl _) ⟨id,hid,rfl,⟨_,ah ..,.inl ⟨.full,rfl⟩⟩,(Sub.refl h).new hid _⟩
theorem pE(d:D)(hd:d.ok)(id:Nat)(h:Heap)(y:AV)(hid:h id=some (.obj (d.cells y) 121)):
  ai Tryz.prog 76 [.ptr id 0] h fun r h' =>r= .b d.burn.off∧h' =upd h id (some (.obj (d.burn.cells y) 121)):=by
 obtain⟨q,b,sy,f,off⟩:=d;obtain⟨d1,d2,d3,d4⟩:=hd;simp only at d1 d2 d3 d4;simp only[D.cells]at hid;refine aeJ Tryz.func76 27 [.tmp 2] fun hwf=>?_
 simp only[go_sem,hid];refine .intro (fun e=>?_) (fun e=>?_)
 ·have e:=aeC e
  have w1:IntKind.i64.wrap ((f:Int) - 1)=((f - 1:Nat):Int):=afC;simp only[go_sem,hid,w1];have hb:(((f - 1:Nat):Int)==0)=decide (f=1):=by
   by_cases h1:f=1
   ·simp[h1]
   ·have:f - 1≠0:=by omega
    simp[h1,Int.natCast_eq_zero,this]
  refine .same (.refl _) ⟨?_,?_⟩
  ·simp only[D.burn,if_pos (show 0<f by omega),hb,ax]
  ·simp only[D.burn,D.cells,if_pos (show 0<f by omega),hb]
 ·have e:=aeD e
  have hf:¬0<f:=aeK;simp only[go_sem,hid];refine .same (.refl _) ⟨?_,?_⟩
  ·simp only[D.burn,if_neg hf,ax]
  ·simp only[D.burn,D.cells,if_neg hf]
   funext j
   simp only[upd];split
   ·rename_i e;subst e;exact hid
   ·rfl
theorem D.pE(hd:d.ok):d.burn.ok:=by
 obtain⟨d1,d2,d3,d4⟩:=hd;unfold D.burn;split
 ·exact⟨d1,d2,d3,aeL⟩
 ·exact⟨d1,d2,d3,d4⟩
theorem D.vg(d:D):d.burn.b=d.b:=by grind [D.burn]
theorem D.Mb(d:D):d.burn.q=d.q:=by grind [D.burn]
theorem D.Pc(d:D):d.burn.sy=d.sy:=by grind [D.burn]
theorem Pw(d:D)(hd:d.ok)(id:Nat)(h:Heap)(y:AV)(hid:h id=some (.obj (d.cells y) 121))(hb:By h y d.b):
  ai Tryz.prog 74 [.ptr id 0] h fun r h' =>r= .i (d.q - d.b.length:Nat)∧h' =h:=by
 obtain⟨q,b,sy,f,off⟩:=d;obtain⟨d1,d2,d3,d4⟩:=hd;simp only at d1 d2 d3 d4 hb;simp only[D.cells]at hid;refine aeJ Tryz.func74 13 [.tmp 2] fun hwf=>?_
 have w1:IntKind.i64.wrap ((q:Int) - b.length)=((q - b.length:Nat):Int):=afC;simp only[go_sem,hid,hb.len,w1];exact⟨.of aeN,.same (.refl _) ⟨rfl,rfl⟩⟩
theorem Td(d:D)(id:Nat)(h:Heap)(y:AV)(hid:h id=some (.obj (d.cells y) 121))(hb:By h y d.b):
  ai Tryz.prog 125 [.ptr id 0] h fun r h' =>r= .i d.b.length∧h' =h:=by
 simp only[D.cells]at hid;refine aeJ Tryz.func125 8 [.tmp 2] fun hwf=>?_
 simp only[go_sem,hid,hb.len];exact aeV
theorem Qq(d:D)(hd:d.ok)(id:Nat)(h:Heap)(y:AV)(hid:h id=some (.obj (d.cells y) 121))(hb:By h y d.b):
  ai Tryz.prog 124 [.ptr id 0] h fun r h' =>r= .sl (d.b.map aK) .no∧h' =h:=by
 obtain⟨d1,d2,d3,d4⟩:=hd;simp only[D.cells]at hid;refine aeJ Tryz.func124 8 [.tmp 2] fun hwf=>?_
 simp only[go_sem,hid];refine(qN y d.b h hb aeK).mono fun r h' ⟨e1,e2⟩=>?_
 subst e1;subst e2
 simp only[go_sem];exact aeV
def D.append(d:D)(b:List UInt8):D×Nat:=
 if d.off then(d,9)else if d.q<d.b.length+b.length then(d,8)else
  let e:=D.burn {d with b:=d.b++b}
  (e,if e.off then 9 else 0)
def D.sync(d:D):D×Nat:=
 if d.off then(d,9)else if d.burn.off then(d.burn,9)else({d.burn with sy:=d.b.length},0)
def D.cut(d:D)(n:Int):D×Nat:=
 if d.off then(d,9)else if n<0∨(d.b.length:Int)<n then(d,1)else
  if d.burn.off then(d.burn,9)else({d.burn with b:=d.b.take n.toNat,sy:=min d.sy n.toNat},0)
theorem D.rS(hd:d.ok)(b:List UInt8):(d.append b).1.ok:=by
 unfold D.append;split
 ·omega
 ·split
  ·omega
  ·refine D.pE ⟨?_,hd.2.1,?_,hd.2.2.2⟩
   ·grind
   ·have:=hd.2.2.1
    grind
theorem D.xW(hd:d.ok):d.sync.1.ok:=by
 have hb:=D.pE hd;unfold D.sync;split
 ·exact hd
 ·split
  ·exact hb
  ·obtain⟨d1,d2,d3,d4⟩:=hb
   refine⟨d1,d2,?_,d4⟩;simp[D.vg,Nat.le_refl]
theorem D.Cr(hd:d.ok)(n:Int):(d.cut n).1.ok:=by
 have hb:=D.pE hd;unfold D.cut;split
 ·exact hd
 ·split
  ·exact hd
  ·split
   ·exact hb
   ·obtain⟨d1,d2,d3,d4⟩:=hb
    obtain⟨e1,e2,e3,e4⟩:=hd;refine⟨?_,?_,?_,d4⟩
    ·grind [D.Mb,List.length_take]
    ·grind [D.Mb]
    grind
theorem rS(d:D)(hd:d.ok)(id:Nat)(h:Heap)(x:AV)(b:List UInt8)(hdk:bC h id d)(hx:By h x b)(hl:b.length≤1000000000):
  ai Tryz.prog 31 [.ptr id 0,x] h fun r h' =>r= .v (.int .i64 (d.append b).2)∧bC h' id (d.append b).1∧Keep id h h' :=by
 obtain⟨y,hid0,hb⟩:=hdk;have hid:=hid0;simp only[D.cells]at hid;have hok:=hd;obtain⟨d1,d2,d3,d4⟩:=hd;refine aeJ Tryz.func31 26 [.tmp 4] fun hwf=>?_
 simp only[go_sem,hid];refine .intro (fun e=>?_) (fun e=>?_)
 ·simp only[go_sem]
  refine .same (.refl _) ?_;simp only[D.append,e,if_true,ax];exact agk
 ·simp only[go_sem,hid,hx.len]
  refine(Pw d hok id h y hid0 hb).mono fun r h' ⟨e1,e2⟩=>?_
  subst e1;subst e2
  simp only[go_sem];refine .intro (fun e2=>?_) (fun e2=>?_)
  ·have e2:=aeC e2
   simp only[go_sem];refine .same (.refl _) ?_;simp only[D.append,e,if_pos (show d.q<d.b.length+b.length by omega),ax]
   exact agk
  ·have e2:=aeD e2
   have hno:¬d.q<d.b.length+b.length:=aeK;simp only[go_sem,hid,hb.fit,hx.fit];refine(A6 [y,x] [d.b,b] .full h' (.cons hb (.cons hx .nil)) ?_ aeR).mono fun r h1 ⟨e1,hs⟩=>?_
   ·simp only[List.flatten_cons,List.flatten_nil,List.append_nil,aeE];omega
   ·subst e1
    have hid1:=hs _ _ hid;simp only[go_sem,hid1];have hok2:D.ok {d with b:=d.b++b}:=⟨by show(d.b++b).length≤d.q;rw[aeE];omega,d2,by show d.sy≤(d.b++b).length;rw[aeE];omega,d4⟩
    refine(pE {d with b:=d.b++b} hok2 id _ (.sl ((d.b++b).map aK) .no) ?_).mono fun r h2 ⟨e1,e2⟩=>?_
    ·rw[ah]
     simp only[D.cells,List.flatten_cons,List.flatten_nil,List.append_nil]
    ·subst e1;subst e2
     have hk:Keep id h' (upd (upd h1 id (some (.obj (d.cells (.sl ((d.b++b).map aK) .no)) 121))) id (some (.obj ((D.burn {d with b:=d.b++b}).cells (.sl ((d.b++b).map aK) .no)) 121))):=
      (hs.keep id).trans ((Keep.upd id _).trans (Keep.upd id _))
     have hA:d.append b=(D.burn {d with b:=d.b++b},if(D.burn {d with b:=d.b++b}).off then 9 else 0):=by unfold D.append;rw[if_neg (by simp[e]),if_neg hno]
     simp only[go_sem];refine .intro (fun e3=>?_) (fun e3=>?_)
     ·simp only[go_sem]
      refine .same (.refl _) ?_;rw[hA,if_pos e3];refine⟨rfl,⟨_,ah ..,?_⟩,fun j k hj hk2=>?_⟩
      ·simp only[D.vg];exact .sl _ _
      ·rw[ag _ _ hj];exact hs _ _ hk2
     ·simp only[go_sem]
      refine .same (.refl _) ?_;rw[hA,if_neg (by simp[e3])]
      refine⟨rfl,⟨_,ah ..,?_⟩,fun j k hj hk2=>?_⟩
      ·simp only[D.vg];exact .sl _ _
      ·rw[ag _ _ hj];exact hs _ _ hk2
theorem xW(d:D)(hd:d.ok)(id:Nat)(h:Heap)(hdk:bC h id d):
  ai Tryz.prog 127 [.ptr id 0] h fun r h' =>r= .i d.sync.2∧bC h' id d.sync.1∧Keep id h h' :=by
 obtain⟨y,hid0,hb⟩:=hdk;have hid:=hid0;simp only[D.cells]at hid;refine aeJ Tryz.func127 19 [.tmp 2] fun hwf=>?_
 simp only[go_sem,hid];refine .intro (fun e=>?_) (fun e=>?_)
 ·simp only[go_sem,e]
  refine .same (.refl _) ?_;simp only[D.sync,e,if_true,ax];exact agk
 ·simp only[go_sem,e]
  refine(pE d hd id h y hid0).mono fun r h1 ⟨e1,e2⟩=>?_
  subst e1;subst e2
  simp only[go_sem];refine .intro (fun e3=>?_) (fun e3=>?_)
  ·simp only[go_sem]
   refine .same (.refl _) ?_;rw[show d.sync=(d.burn,9) by unfold D.sync;rw[if_neg (by simp[e]),if_pos e3]]
   exact⟨rfl,⟨_,ah ..,by rw[D.vg];exact hb.set hid⟩,Keep.upd id _⟩
  ·simp only[D.cells]
   simp only[go_sem,hb.len];refine .same (.refl _) ?_;rw[show d.sync=({d.burn with sy:=d.b.length},0) by unfold D.sync;rw[if_neg (by simp[e]),if_neg (by simp[e3])]]
   exact⟨rfl,⟨_,ah ..,by show By _ _ d.burn.b;rw[D.vg];exact hb.set hid⟩,Keep.upd id _⟩
theorem Cr(d:D)(hd:d.ok)(id:Nat)(h:Heap)(n:Int)(hdk:bC h id d):
  ai Tryz.prog 126 [.ptr id 0,.i n] h fun r h' =>r= .v (.int .i64 (d.cut n).2)∧bC h' id (d.cut n).1∧Keep id h h' :=by
 obtain⟨y,hid0,hb⟩:=hdk;have hid:=hid0;simp only[D.cells]at hid;have hok:=hd;obtain⟨d1,d2,d3,d4⟩:=hd;refine aeJ Tryz.func126 41 [.tmp 4] fun hwf=>?_
 simp only[go_sem,hid];refine .intro (fun e=>?_) (fun e=>?_)
 ·simp only[go_sem]
  refine .same (.refl _) ?_;simp only[D.cut,e,if_true,ax];exact agk
 ·simp only[go_sem,hid]
  have bad:(n<0∨(d.b.length:Int)<n)→nL [.i 1] h fun r h' =>r= .v (.int .i64 (d.cut n).2)∧bC h' id (d.cut n).1∧Keep id h h' :=fun hbad=>by refine .same (.refl _) ?_;simp only[D.cut,e,if_pos hbad,ax];exact agk
  refine .intro (fun e2=>?_) (fun e2=>?_)
  ·have e2' :=aeC e2
   simp only[go_sem,e2];exact bad (.inl e2')
  ·have e2' :=aeD e2
   simp only[go_sem,e2,hid,hb.len];refine .intro (fun e3=>?_) (fun e3=>?_)
   ·have e3' :=aeC e3
    simp only[go_sem];exact bad (.inr e3')
   ·have e3' :=aeD e3
    have hno:¬(n<0∨(d.b.length:Int)<n):=aeK;simp only[go_sem];refine(pE d hok id h y hid0).mono fun r h1 ⟨e1,e2⟩=>?_
    subst e1;subst e2
    simp only[go_sem];refine .intro (fun e4=>?_) (fun e4=>?_)
    ·simp only[go_sem]
     refine .same (.refl _) ?_;rw[show d.cut n=(d.burn,9) by unfold D.cut;rw[if_neg (by simp[e]),if_neg hno,if_pos e4]]
     exact⟨rfl,⟨_,ah ..,by rw[D.vg];exact hb.set hid⟩,Keep.upd id _⟩
    ·have hb1:By (upd h id (some (.obj (d.burn.cells y) 121))) y d.b:=hb.set hid
     simp only[D.cells]at hb1⊢;simp only[go_sem];refine hb1.take (m:=n) (x:=.i64) n.toNat ?_ aeK aeK u5 fun z hz=>?_
     ·simp only[go_sem]
     ·simp only[go_sem]
      refine(qN z _ _ hz agn).mono fun r h1 ⟨e1,e2⟩=>?_
      subst e1;subst e2
      simp only[go_sem];refine .same (.refl _) ?_;rw[show d.cut n=({d.burn with b:=d.b.take n.toNat,sy:=min d.sy n.toNat},0) by unfold D.cut;rw[if_neg (by simp[e]),if_neg hno,if_neg (by simp[e4])]]
      refine⟨rfl,⟨.sl ((d.b.take n.toNat).map aK) .no,?_,.sl _ _⟩,Keep.upd id _⟩;simp only[ah,D.cells,D.Pc];have:(if n<(d.sy:Int)then n else(d.sy:Int))=((min d.sy n.toNat:Nat):Int):=by split<;>omega
      rw[this]
def D.left(d:D)(keep:Int):Nat:=d.sy+min keep.toNat (d.b.length - d.sy)
def D.bad(d:D)(keep torn:Int):Nat:=min torn.toNat (d.left keep - d.sy)
def lQ(l:List UInt8)(i:Nat):List UInt8:=l.take i++(l.drop i).map (~~~ ·)
def D.boot(d:D)(keep torn:Int):D:={d with b:=lQ (d.b.take (d.left keep)) (d.left keep - d.bad keep torn),sy:=d.left keep,f:=0,off:=false}
theorem D.PY(hd:d.ok)(keep:Int):d.sy≤d.left keep∧d.left keep≤d.b.length:=by
 obtain⟨d1,d2,d3,d4⟩:=hd
 grind [D.left]
theorem xC(l:List UInt8)(i:Nat):(lQ l i).length=l.length:=by grind [lQ]
theorem J1(c:UInt8):IntKind.u8.wrap ((BitVec.ofInt IntKind.u8.bits (if IntKind.u8.signed=true then -1 else IntKind.u8.max) ^^^ BitVec.ofInt IntKind.u8.bits (c.toNat:Int)).toNat)=((~~~ c).toNat:Int):=by
 revert c;have:∀i:Fin 256,IntKind.u8.wrap ((BitVec.ofInt IntKind.u8.bits (if IntKind.u8.signed=true then -1 else IntKind.u8.max) ^^^ BitVec.ofInt IntKind.u8.bits ((UInt8.ofNat i).toNat:Int)).toNat)=((~~~ (UInt8.ofNat i)).toNat:Int):=by decide+kernel
 intro c;have h:=this ⟨c.toNat,c.toNat_lt⟩;simpa using h
theorem Ox(c:UInt8)(k:AV→Prop):unA .xor (.v (.int .u8 (c.toNat:Int))) k=k (.v (.int .u8 ((~~~ c).toNat:Int))):=by rw[xY,J1]
theorem Oz{α:Type}{f:Nat→α}{i j:Nat}(hij:¬i=j)(a b c:α):upd (upd (upd f i a) j b) i c=upd (upd f i c) j b:=by grind [upd]
theorem Pb(d:D)(hd:d.ok)(id:Nat)(h:Heap)(keep torn:Int)(hdk:bC h id d):
  ai Tryz.prog 13 [.ptr id 0,.i keep,.i torn] h fun _ h' =>bC h' id (d.boot keep torn)∧Keep id h h' :=by
 obtain⟨y,hid0,hb⟩:=hdk;have hid:=hid0;simp only[D.cells]at hid;obtain⟨d1,d2,d3,d4⟩:=hd;obtain⟨l1,l2⟩:=D.PY ⟨d1,d2,d3,d4⟩ keep;have w1:IntKind.i64.wrap ((d.b.length:Int) - d.sy)=((d.b.length - d.sy:Nat):Int):=afC;have m1:(if keep<0 then(0:Int)else keep)=(keep.toNat:Int):=by split<;>omega
 have m2:(if(((d.b.length - d.sy:Nat):Int))<(keep.toNat:Int)then(((d.b.length - d.sy:Nat):Int))else(keep.toNat:Int))=((min keep.toNat (d.b.length - d.sy):Nat):Int):=by split<;>omega
 have w2:IntKind.i64.wrap ((d.sy:Int)+((min keep.toNat (d.b.length - d.sy):Nat):Int))=(d.left keep:Int):=by unfold D.left at*;rw[IntWalk.i64_in _ aeK];omega
 have w3:IntKind.i64.wrap ((d.left keep:Int) - d.sy)=((d.left keep - d.sy:Nat):Int):=afC;have m3:(if torn<0 then(0:Int)else torn)=(torn.toNat:Int):=by split<;>omega
 have m4:(if(((d.left keep - d.sy:Nat):Int))<(torn.toNat:Int)then(((d.left keep - d.sy:Nat):Int))else(torn.toNat:Int))=(d.bad keep torn:Int):=by unfold D.bad;split<;>omega
 have hbad:d.bad keep torn≤d.left keep:=by unfold D.bad;omega
 have w4:IntKind.i64.wrap ((d.left keep:Int) - (d.bad keep torn:Int))=((d.left keep - d.bad keep torn:Nat):Int):=afC;refine aeJ Tryz.func13 78 [] fun hwf=>?_
 simp only[go_sem,hid,hb.len,w1,m1,m2,w2];refine⟨.of aeN,?_⟩;simp only[go_sem,hid,w3,m3,m4];refine hb.take (m:=d.left keep) (x:=.i64) (d.left keep) ?_ rfl l2 u5 fun z hz=>?_
 ·simp only[go_sem]
 ·simp only[go_sem]
  have hlen:(d.b.take (d.left keep)).length=d.left keep:=agn;refine(Mi z _ _ hz aeK).mono fun r h1 hr=>?_
  rcases hr with⟨hl0,rfl,rfl⟩|⟨hl0,id2,m,hid2,rfl,rfl⟩
  ·have hl00:d.left keep=0:=by rw[hl0]at hlen;simpa using hlen.symm
   have hb0:d.bad keep torn=0:=aeK;have hf:d.boot keep torn=⟨d.q,[],0,0,false⟩:=by unfold D.boot;rw[hl0,hl00];simp[lQ]
   simp only[go_sem,hid,w4];refine .intro (fun m ρ h' =>h' =upd h1 id (some (.obj [.i d.q,.sl [] .no,.i d.sy,.i d.f,.b d.off] 121))∧lk ρ 0=some (.ptr id 0)∧lk ρ 6=some (.i 0)∧lk ρ 8=some (.i 0)) 0 ?_ ?_
   ·refine⟨rfl,?_,?_,?_⟩<;>simp only[go_sem]
    ·rw[hl00];rfl
    ·rw[hl00,hb0];rfl
   ·rintro m ρ h' ⟨rfl,r0,r6,r8⟩
    simp only[go_sem,r0,r6,r8];refine .no aeO ?_;simp only[go_sem,r0,r6,r8];refine .same (.refl _) ⟨⟨.sl [] .no,?_,?_⟩,Keep.upd id _⟩
    ·rw[ah,hf];rfl
    ·rw[hf];exact .nil _
  ·have hne:¬id=id2:=fun e=>by subst e;rw[hid]at hid2;cases hid2
   have hne' :¬id2=id:=fun e=>hne e.symm
   simp only[go_sem,hid,hne,w4];generalize hL:d.b.take (d.left keep)=L at*;generalize hs:d.left keep - d.bad keep torn=s at*;rw[hlen];refine .intro (fun k ρ h' =>∃(i:Nat) (cs:List AV),k=d.left keep - i∧s≤i∧i≤d.left keep∧cs.length=d.left keep+m∧(∀j (hj:j<L.length),cs[j]? =some (aK (if s≤j∧j<i then ~~~ L[j]else L[j])))∧
    h' =upd (upd h id2 (some (.obj cs 5))) id (some (.obj [.i d.q,.oa id2 0 (d.left keep),.i d.sy,.i d.f,.b d.off] 121))∧lk ρ 0=some (.ptr id 0)∧lk ρ 6=some (.i (d.left keep:Nat))∧lk ρ 8=some (.i (i:Nat))) (d.left keep - s) ?_ ?_
   ·refine⟨s,_,rfl,Nat.le_refl _,aeK,?_,fun j hj=>?_,rfl,?_,?_,?_⟩
    ·simp[hlen]
    ·rw[List.getElem?_append_left (by simpa using hj),List.getElem?_map,List.getElem?_eq_getElem hj,if_neg aeK];rfl
    all_goals simp only[go_sem]
   ·rintro k ρ h' ⟨i,cs,rfl,hi1,hi2,hcl,hcs,rfl,r0,r6,r8⟩
    simp only[go_sem,r0,r6,r8];refine .intro (fun e=>?_) (fun e=>?_)
    ·have hlt:i<d.left keep:=by simpa using e
     have c1:((0:Int)≤(i:Int))=True:=eq_true aeK;have c2:((i:Int)<((d.left keep:Nat):Int))=True:=eq_true aeK;have c3:=hcs i aeK;rw[if_neg aeK]at c3;have c4:(i+1≤cs.length)=True:=eq_true aeK;have w5:IntKind.i64.wrap ((i:Int)+1)=((i+1:Nat):Int):=afC;simp only[go_sem,r0,r6,r8,hne,hne',c1,c2,c3,c4,Nat.mul_one,Int.toNat_natCast,↓Ox];refine⟨.of aeN,?_⟩;simp only[go_sem,r0,r6,r8,w5];refine⟨d.left keep - (i+1),aeK,i+1,_,rfl,aeK,hlt,?_,?_,Oz hne' ..,?_,?_,?_⟩
     ·simp;omega
     ·intro j hj
      show _=some (aK (if s≤j∧j<i+1 then ~~~ L[j]else L[j]))
      have hjc:j<cs.length:=aeK;have hold:=hcs j hj
      by_cases hji:j=i
      ·subst hji
       rw[if_pos ⟨hi1,aeK⟩];rw[List.append_assoc,List.getElem?_append_right afn];simp[show j≤cs.length by omega,aK]
      ·have hcond:(s≤j∧j<i+1)↔(s≤j∧j<i):=by omega
       simp only[hcond];rw[←show cs[j]? =some (aK (if s≤j∧j<i then ~~~ L[j]else L[j]))from hold]
       rcases Nat.lt_or_ge j i with hlt2|hge2
       ·rw[List.append_assoc,List.getElem?_append_left afn,List.getElem?_take,if_pos aeK]
       ·rw[List.getElem?_append_right afn,List.getElem?_drop]
        congr 1
        simp;omega
     all_goals simp only[go_sem,r0,r6,r8,w5]
    ·have hge:i=d.left keep:=by
      have:¬(i<d.left keep):=by simpa using e
      omega
     subst hge;simp only[go_sem,r0,r6,r8,hne,hne'];refine .same (.refl _) ⟨⟨.oa id2 0 (d.left keep),?_,?_⟩,?_⟩
     ·rw[ah]
      rfl
     ·have hbl:(d.boot keep torn).b=lQ L s:=by unfold D.boot;rw[hL,hs]
      have hll:(lQ L s).length=d.left keep:=by rw[xC,hlen]
      rw[hbl,←hll];refine .oa (cs:=cs) ?_ aeK ?_
      ·rw[ag _ _ hne',ah]
      ·apply List.ext_getElem?
       intro j;rw[List.drop_zero,List.getElem?_take,List.getElem?_map]
       by_cases hj:j<d.left keep
       ·have hj2:j<L.length:=by omega
        have:=hcs j hj2;rw[if_pos aeK,show cs[j]? =_ from this]
        unfold lQ
        by_cases hsj:s≤j
        ·rw[if_pos ⟨hsj,hj⟩,List.getElem?_append_right afn]
         have:min s L.length=s:=aeK;simp[this,hj2,show s+(j - s)=j by omega,aK]
        ·rw[if_neg aeK,List.getElem?_append_left afn,List.getElem?_take,if_pos aeK,List.getElem?_eq_getElem hj2];rfl
       ·rw[if_neg aeK,List.getElem?_eq_none aeK];rfl
     ·intro j k hj hk
      have h3:¬j=id2:=fun e=>by subst e;rw[hid2]at hk;cases hk
      rw[ag _ _ hj,ag _ _ h3];exact hk
theorem D.HX{b:List UInt8}(h1:d.off=false)(h2:d.f=0)(h3:d.b.length+b.length≤d.q):d.append b=({d with b:=d.b++b},0):=by
 rcases d with⟨q,b0,sy,f,off⟩
 subst h1;subst h2
 unfold D.append;rw[if_neg aeR,if_neg aeL];rfl
theorem D.RP(h1:d.off=false)(h2:d.f=0):d.sync=({d with sy:=d.b.length},0):=by simp_all [D.sync,D.burn,if_neg]
theorem dthen{f:FuncId}{h:Heap}{X:AV}{id:Nat}(hf:ai Tryz.prog f args h fun r h' =>r=X∧bC h' id d∧Keep id h h')(k:∀h',bC h' id d→Keep id h h'→Q X h'):ai Tryz.prog f args h Q:=
 hf.mono fun r h' ⟨e1,e2,e3⟩=>by subst e1;exact k h' e2 e3
theorem NX(d:D)(hk:d.ok)(id:Nat)(h:Heap)(hd:bC h id d):ai Tryz.prog 124 [.ptr id 0] h fun r h' =>r= .sl (d.b.map aK) .no∧h' =h:=by obtain⟨y,h1,h2⟩:=hd;exact Qq d hk id h y h1 h2
theorem P0(d:D)(id:Nat)(h:Heap)(hd:bC h id d):ai Tryz.prog 125 [.ptr id 0] h fun r h' =>r= .i d.b.length∧h' =h:=by obtain⟨y,h1,h2⟩:=hd;exact Td d id h y h1 h2
theorem lO{b:List UInt8}(h1:d.off=false)(h2:d.b.length+b.length≤d.q):d.append b=(D.burn {d with b:=d.b++b},if(D.burn {d with b:=d.b++b}).off then 9 else 0):=by simp_all [D.append,if_neg]
theorem D.Rh(h:d.f=0):d.burn=d:=by simp_all [D.burn,if_neg]
theorem D.YR(h1:d.off=false)(h2:d.f=0)(h3:n≤d.b.length):d.cut n=({d with b:=d.b.take n,sy:=min d.sy n},0):=by simp_all [D.cut,if_neg,D.Rh]
theorem D.FR{b:List UInt8}(h1:d.off=false)(h2:d.q<d.b.length+b.length):d.append b=(d,8):=by simp_all [D.append,if_neg,if_pos]
def Cp(s:BitVec 32):BitVec 32:=if s &&& 1#32=1#32 then(s>>>1) ^^^ 0xedb88320#32 else s>>>1
def JD:Nat→BitVec 32→BitVec 32
 |0,s=>s
 |n+1,s=>Cp (JD n s)
def rT(s:BitVec 32)(c:UInt8):BitVec 32:=JD 8 (s ^^^ BitVec.ofNat 32 c.toNat)
def crc(l:List UInt8):BitVec 32:= ~~~ (l.foldl rT (BitVec.allOnes 32))
theorem St(c:UInt8):IntKind.u32.wrap (c.toNat:Int)=((BitVec.ofNat 32 c.toNat).toNat:Int):=by rfl
theorem Hg(x:BitVec 32):(((x &&& 1#32).toNat:Int)==1)=decide (x &&& 1#32=1#32):=by
 rw[Bool.eq_iff_iff,beq_iff_eq,decide_eq_true_iff];constructor
 ·intro h
  apply BitVec.eq_of_toNat_eq
  grind
 grind
theorem Oi(y:AV)(l:List UInt8)(h:Heap)(hb:By h y l)(hl:l.length≤1000000000):
  ai Tryz.prog 78 [y] h fun r h' =>r= .v (.int .u32 ((crc l).toNat:Int))∧h' =h:=by
 refine aeJ Tryz.func78 31 [.tmp 2] fun hwf=>?_
 simp only[go_sem,hb.len];refine .intro (fun m ρ h' =>h' =h∧∃i:Nat,i≤l.length∧m=l.length - i∧lk ρ 7=some y∧lk ρ 8=some (.i l.length)∧lk ρ 9=some (.i i)∧lk ρ 3=some (.v (.int .u32 (((l.take i).foldl rT (BitVec.allOnes 32)).toNat:Int)))) l.length ?_ ?_
 ·refine⟨rfl,0,aeK,rfl,?_,?_,?_,?_⟩<;>simp only[go_sem]
  rfl
 ·rintro m ρ h' ⟨rfl,i,hi,rfl,r7,r8,r9,r3⟩
  simp only[go_sem,r7,r8,r9,r3];refine .intro (fun e=>?_) (fun e=>?_)
  ·have hlt:i<l.length:=aeH e
   have w1:IntKind.i64.wrap ((i:Int)+1)=((i+1:Nat):Int):=aeW;have hs:(l.take (i+1)).foldl rT (BitVec.allOnes 32)=rT ((l.take i).foldl rT (BitVec.allOnes 32)) l[i]:=by grind [List.take_succ_eq_append_getElem]
   generalize (l.take i).foldl rT (BitVec.allOnes 32)=s at r3 hs;simp only[go_sem,r7,r8,r9,r3];refine hb.idx i rfl hlt u5 u5a fun p hp=>?_
   simp only[go_sem,r7,r8,r9,r3,hp _,St];refine .intro (fun m ρ h2=>h2=h'∧∃j:Nat,j≤8∧m=8 - j∧lk ρ 7=some y∧lk ρ 8=some (.i l.length)∧lk ρ 9=some (.i i)∧lk ρ 17=some (.i j)∧lk ρ 3=some (.v (.int .u32 ((JD j (s ^^^ BitVec.ofNat 32 l[i].toNat)).toNat:Int)))) 8 ?_ ?_
   ·refine⟨rfl,0,aeK,rfl,?_,?_,?_,?_,?_⟩<;>simp only[go_sem,r7,r8,r9,r3]
    rfl
   ·rintro m ρ h2 ⟨rfl,j,hj,rfl,q7,q8,q9,q17,q3⟩
    simp only[go_sem,q7,q8,q9,q17,q3];refine .intro (fun e=>?_) (fun e=>?_)
    ·have hjl:j<8:=by grind
     have w2:IntKind.i64.wrap ((j:Int)+1)=((j+1:Nat):Int):=aeW;have hc:JD (j+1) (s ^^^ BitVec.ofNat 32 l[i].toNat)=Cp (JD j (s ^^^ BitVec.ofNat 32 l[i].toNat)):=rfl;generalize JD j (s ^^^ BitVec.ofNat 32 l[i].toNat)=z at q3 hc;simp only[go_sem,q7,q8,q9,q17,q3,Hg];refine .intro (fun e2=>?_) (fun e2=>?_)
     ·simp only[go_sem,q7,q8,q9,q17,q3,Hg,w2]
      refine⟨_,?_,rfl,j+1,aeK,rfl,?_,?_,?_,?_,?_⟩
      rotate_left 5
      ·simp only[go_sem,q7,q8,q9,q17,q3]
       simp_all [Cp,if_pos,aeC]
      ·omega
      all_goals simp only[go_sem,q7,q8,q9,q17,q3,w2]
     ·simp only[go_sem,q7,q8,q9,q17,q3,Hg,w2]
      refine⟨_,?_,rfl,j+1,aeK,rfl,?_,?_,?_,?_,?_⟩
      rotate_left 5
      ·simp only[go_sem,q7,q8,q9,q17,q3]
       simp_all [Cp,if_neg,aeD]
      ·omega
      all_goals simp only[go_sem,q7,q8,q9,q17,q3,w2]
    ·have hj8:j=8:=by grind
     subst hj8;simp only[go_sem,q7,q8,q9,q17,q3,w1];refine⟨_,?_,rfl,i+1,aeK,rfl,?_,?_,?_,?_⟩
     rotate_left 4
     ·simp only[go_sem,q7,q8,q9,q17,q3]
      rw[hs];rfl
     ·omega
     all_goals simp only[go_sem,q7,q8,q9,q17,q3,w1]
  ·have hge:i=l.length:=by grind
   subst hge;rw[List.take_length]at r3;simp only[go_sem,r7,r8,r9,r3];exact aeV
def qV(n:Nat):List UInt8:=[UInt8.ofNat n,UInt8.ofNat (n / 256),UInt8.ofNat (n / 65536),UInt8.ofNat (n / 16777216)]
def iD(l:List UInt8):Nat:=(l.getD 0 0).toNat+(l.getD 1 0).toNat*256+(l.getD 2 0).toNat*65536+(l.getD 3 0).toNat*16777216
theorem It(n:Nat)(hn:n<4294967296)(h:Heap):ai Tryz.prog 77 [.v (.int .u32 (n:Int))] h fun r h' =>r= .sl ((qV n).map aK) .no∧h' =h:=by
 refine aeJ Tryz.func77 15 [.tmp 2] fun hwf=>?_
 have s8:=fun K=>Ma (U:=U) (ty:=152) (K:=K) n 8 .u64 aeO
 have s16:=fun K=>Ma (U:=U) (ty:=152) (K:=K) n 16 .u64 aeO
 have s24:=fun K=>Ma (U:=U) (ty:=152) (K:=K) n 24 .u64 aeO
 simp only[Int.cast_ofNat_Int]at s8 s16 s24;simp only[go_sem,↓s8,↓s16,↓s24,w8];exact ag6
theorem DZ(y:AV)(l:List UInt8)(h:Heap)(hb:By h y l)(hl:4≤l.length):ai Tryz.prog 225 [y] h fun r h' =>r= .v (.int .u32 (iD l:Nat))∧h' =h:=by
 refine aeJ Tryz.func225 25 [.tmp 2] fun hwf=>?_
 have lt:∀c:UInt8,c.toNat<256:=fun c=>c.toNat_lt
 have hnum:iD l=l[0].toNat+l[1].toNat*2 ^ 8+l[2].toNat*2 ^ 16+l[3].toNat*2 ^ 24:=by grind [iD]
 generalize hc0:l[0]=c0 at hnum;generalize hc1:l[1]=c1 at hnum;generalize hc2:l[2]=c2 at hnum;generalize hc3:l[3]=c3 at hnum;have v:=fun c:UInt8=>w32 c.toNat aeL
 have s1:=fun K=>FY (U:=U) (ty:=152) (K:=K) c1.toNat 8 .u64 aeO (lt _)
 have s2:=fun K=>FY (U:=U) (ty:=152) (K:=K) c2.toNat 16 .u64 aeO (lt _)
 have s3:=fun K=>FY (U:=U) (ty:=152) (K:=K) c3.toNat 24 .u64 aeO (lt _)
 have o1:=fun K=>L9 (U:=U) (ty:=152) (K:=K) c0.toNat c1.toNat 8 aeL aeO (lt _)
 have o2:=fun K=>L9 (U:=U) (ty:=152) (K:=K) (c0.toNat+c1.toNat*2 ^ 8) c2.toNat 16 aeL aeO (lt _)
 have o3:=fun K=>L9 (U:=U) (ty:=152) (K:=K) (c0.toNat+c1.toNat*2 ^ 8+c2.toNat*2 ^ 16) c3.toNat 24 aeL aeO (lt _)
 simp only[Int.cast_ofNat_Int]at s1 s2 s3;simp only[go_sem];refine⟨.of aeN,?_⟩;refine hb.idx 0 rfl aeK u5 u5a fun p0 hp0=>?_
 rw[hc0]at hp0;simp only[go_sem,hp0 _,v];refine hb.idx 1 rfl aeK u5 u5a fun p1 hp1=>?_
 rw[hc1]at hp1;simp only[go_sem,hp1 _,v,↓s1,↓o1];refine hb.idx 2 rfl aeK u5 u5a fun p2 hp2=>?_
 rw[hc2]at hp2;simp only[go_sem,hp2 _,v,↓s2,↓o2];refine hb.idx 3 rfl aeK u5 u5a fun p3 hp3=>?_
 rw[hc3]at hp3;simp only[go_sem,hp3 _,v,↓s3,↓o3];refine .same (.refl _) ⟨?_,rfl⟩;rw[hnum];rfl
theorem ud(n:Nat):(qV n).length=4:=rfl
theorem BA(n:Nat)(hn:n<4294967296)(r:List UInt8):iD (qV n++r)=n:=by grind [iD,qV,List.getD_cons_zero,List.getD_cons_succ,UInt8.toNat_ofNat']
theorem Qe(l:List UInt8):iD l<4294967296:=by
 have h:∀c:UInt8,c.toNat<256:=fun c=>c.toNat_lt
 have h0:=h (l.getD 0 0);have h1:=h (l.getD 1 0);have h2:=h (l.getD 2 0);have h3:=h (l.getD 3 0);unfold iD;omega
def frame(p:List UInt8):List UInt8:=qV p.length++qV (crc p).toNat++p
theorem fT(p:List UInt8):(frame p).length=8+p.length:=by grind [frame,ud]
def gu(l:List UInt8):Option (List UInt8):=
 if l.length<8 then none else if iD l<1∨8192<iD l∨l.length - 8<iD l then none else
  if(crc ((l.drop 8).take (iD l))).toNat=iD (l.drop 4)then some ((l.drop 8).take (iD l))else none
theorem nO(h:gu l=some p):8+p.length≤l.length∧1≤p.length∧p.length≤8192:=by
 unfold gu at h;split at h
 ·cases h
 ·split at h
  ·cases h
  ·split at h
   ·simp only[Option.some.injEq]at h
    subst h;rw[List.length_take,List.length_drop];omega
   ·cases h
theorem Ap(p r:List UInt8)(h1:1≤p.length)(h2:p.length≤8192):gu (frame p++r)=some p:=by
 have e1:iD (frame p++r)=p.length:=by grind [frame,List.append_assoc,BA]
 have e2:(frame p++r).drop 4=qV (crc p).toNat++(p++r):=by rfl
 have e3:(frame p++r).drop 8=p++r:=by rfl
 unfold gu;rw[if_neg (by grind [aeE,fT]),e1,if_neg (by grind [aeE,fT]),e2,e3,List.take_left,BA _ (crc p).isLt,if_pos rfl]
theorem ot(l:List UInt8)(h:l.length<8):gu l=none:=by simp_all [gu,if_pos]
def scan(l:List UInt8):List (List UInt8)×Nat:=match h:gu l with
 |none=>([],0)
 |some p=>let r:=scan (l.drop (8+p.length));(p::r.1,8+p.length+r.2)
termination_by l.length
decreasing_by
 have:=nO h;rw[List.length_drop];omega
theorem o6(h:gu l=none):scan l=([],0):=by grind [scan]
theorem sj(h:gu l=some p):scan l=(p::(scan (l.drop (8+p.length))).1,8+p.length+(scan (l.drop (8+p.length))).2):=by grind [scan]
def frames(ps:List (List UInt8)):List UInt8:=(ps.map frame).flatten
theorem D4(p:List UInt8)(ps:List (List UInt8)):frames (p::ps)=frame p++frames ps:=aeZ
theorem qW(p:List UInt8)(ps:List (List UInt8)):frames (ps++ [p])=frames ps++frame p:=by simp[frames]
theorem Fg(ps:List (List UInt8))(r:List UInt8)(h:∀p∈ps,1≤p.length∧p.length≤8192):scan (frames ps++r)=(ps++(scan r).1,(frames ps).length+(scan r).2):=by
 induction ps with
 |nil=>simp[frames]
 |cons p ps ih=>
  have hp:=h p aeR;have hb:=Ap p (frames ps++r) hp.1 hp.2;rw[D4,List.append_assoc,sj hb,List.drop_left' (fT p),ih fun q hq=>h q aeL]
  simp[fT];omega
theorem Ja(l:List UInt8):(scan l).2≤l.length:=by
 induction hn:l.length using Nat.strongRecOn generalizing l with
 |_ n ih=>
  cases hb:gu l with
  |none=>simp_all [o6,Nat.zero_le]
  |some p=>have hl:=nO hb;rw[sj hb];have:=ih (l.drop (8+p.length)).length aeL _ rfl;rw[List.length_drop]at this;omega
theorem D3(y:AV)(l:List UInt8)(h:Heap)(hb:By h y l)(hl:l.length≤1000000):
  ai Tryz.prog 32 [y] h fun r h' =>r= .sl ((frame l).map aK) .no∧Sub h h' :=by
 refine aeJ Tryz.func32 13 [.tmp 2] fun hwf=>?_
 have w1:=w32 l.length aeK;simp only[go_sem,hb.len,w1];refine(It l.length aeK h).pthen ?_;simp only[go_sem];refine(Oi y l h hb aeK).pthen ?_;simp only[go_sem];refine(It (crc l).toNat (crc l).isLt h).pthen ?_;simp only[go_sem,hb.cells,hb.fit];refine(A6 [.sl ((qV l.length).map aK) .no,.sl ((qV (crc l).toNat).map aK) .no,y] [qV l.length,qV (crc l).toNat,l] .full h (.cons (.sl _ _) (.cons (.sl _ _) (.cons hb .nil))) ?_ aeR).sthen fun h' hs=>?_
 ·grind [ud]
 simp only[go_sem];refine .same (.refl _) ⟨?_,hs⟩;simp[frame,ax]
theorem Cy(y:AV)(l:List UInt8)(h:Heap)(hb:By h y l)(hl:l.length≤2000000):
  ai Tryz.prog 173 [y] h fun r h' =>(∃P p b,r= .tup [P,.b b]∧By h P p∧gu l=if b=true then some p else none)∧h' =h:=by
 refine aeJ Tryz.func173 36 [.tmp 2,.tmp 3] fun hwf=>?_
 rcases Nat.lt_or_ge l.length 8 with h8|h8
 ·have t1:decide ((l.length:Int)<8)=true:=decide_eq_true aeK
  simp only[go_sem,hb.len,t1];exact .same (.refl _) ⟨⟨_,[],false,rfl,.nil _,ot l h8⟩,rfl⟩
 ·have t1:decide ((l.length:Int)<8)=false:=decide_eq_false aeK
  simp only[go_sem,hb.len,t1];refine(DZ y l h hb aeK).pthen ?_;have hn:=Qe l;have w1:IntKind.i64.wrap ((iD l:Nat):Int)=((iD l:Nat):Int):=aU _ aeK;have w2:IntKind.i64.wrap ((l.length:Int) - 8)=((l.length - 8:Nat):Int):=afi
  by_cases hbad:iD l<1∨8192<iD l∨l.length - 8<iD l
  ·have hnone:gu l=none:=by unfold gu;rw[if_neg aeK,if_pos hbad]
   have fin:∀Z:Prop,Z→Z:=fun _ z=>z
   by_cases c1:iD l<1
   ·have t2:decide (((iD l:Nat):Int)<1)=true:=decide_eq_true aeK
    simp only[go_sem,hb.len,w1,w2,t2];exact agi
   ·have t2:decide (((iD l:Nat):Int)<1)=false:=decide_eq_false aeK
    by_cases c2:8192<iD l
    ·have t3:decide ((8192:Int)<((iD l:Nat):Int))=true:=decide_eq_true aeK
     simp only[go_sem,hb.len,w1,w2,t2,t3];exact agi
    ·have t3:decide ((8192:Int)<((iD l:Nat):Int))=false:=decide_eq_false aeK
     have t4:decide (((l.length - 8:Nat):Int)<((iD l:Nat):Int))=true:=decide_eq_true aeK;simp only[go_sem,hb.len,w1,w2,t2,t3,t4];exact agi
  ·have t2:decide (((iD l:Nat):Int)<1)=false:=decide_eq_false aeK
   have t3:decide ((8192:Int)<((iD l:Nat):Int))=false:=decide_eq_false aeK;have t4:decide (((l.length - 8:Nat):Int)<((iD l:Nat):Int))=false:=decide_eq_false aeK;have w3:IntKind.i64.wrap ((8:Int)+((iD l:Nat):Int))=((8+iD l:Nat):Int):=afi;simp only[go_sem,hb.len,w1,w2,t2,t3,t4,w3];refine hb.cut (m:=8) (m2:=(8+iD l:Nat)) (x:=.i64) (x2:=.i64) 8 (8+iD l) ?_ rfl ?_ rfl aeK aeK u5 fun z hz=>?_
   ·simp only[go_sem]
   ·simp only[go_sem]
   rw[Nat.add_sub_cancel_left]at hz;have hzl:((l.drop 8).take (iD l)).length≤1000000:=by rw[List.length_take,List.length_drop];omega
   simp only[go_sem];refine .quiet aeN ?_;simp only[go_sem];refine⟨_,Oi z _ h hz aeK,?_⟩;simp only[go_sem];refine hb.from (m:=4) (x:=.i64) 4 ?_ rfl aeK u5 fun z4 hz4=>?_
   ·simp only[go_sem]
   simp only[go_sem];refine⟨_,DZ z4 _ h hz4 agm,?_⟩;simp only[go_sem];refine .same (.refl _) ⟨⟨z,_,_,rfl,hz,?_⟩,rfl⟩;unfold gu;rw[if_neg aeK,if_neg hbad]
   by_cases hc:(crc ((l.drop 8).take (iD l))).toNat=iD (l.drop 4)
   ·rw[if_pos hc,hc];simp
   ·rw[if_neg hc,if_neg]
    simp only[beq_iff_eq];omega
theorem QL:(U 82).bytes=24:=aeZ
def lq(p:List UInt8):AV:=.sl (p.map aK) .no
theorem I8(ps:List (List UInt8))(h:Heap):Ab.Rows 5 h (ps.map lq) ps:=⟨aeR,fun i h1 h2=>by simp only[aeB];exact .sl _ _⟩
theorem zN(ps:List (List UInt8)):Sized 1 (ps.map lq):=(I8 ps cW).sized
def iF(h:Heap)(y:AV)(xs:List AV)(sp:List Nat):Prop:=(y= .sl xs .full∧sp= [])∨∃k,y= .sl xs (.own k)∧h k=some (.spare xs.length 1)∧sp= [k]
theorem K0(h:scan l=(ps++(scan (l.drop at_)).1,at_+(scan (l.drop at_)).2))(hp:gu (l.drop at_)=some p):
  scan l=((ps++ [p])++(scan (l.drop (at_+(8+p.length)))).1,(at_+(8+p.length))+(scan (l.drop (at_+(8+p.length)))).2):=by
 simp_all [sj,List.drop_drop,Nat.add_assoc]
theorem Qv(y:AV)(l:List UInt8)(h:Heap)(hb:By h y l)(hl:l.length≤2000000):
  ai Tryz.prog 123 [y] h fun r h' =>∃z sp,r= .tup [z,.i ((scan l).2:Nat)]∧iF h' z ((scan l).1.map lq) sp∧Sub h h'∧∀i∈sp,h i=none:=by
 refine aeJ Tryz.func123 29 [.tmp 2,.tmp 3] fun hwf=>?_
 simp only[go_sem];refine .intro (fun m ρ h' =>∃(i:Nat) (ps:List (List UInt8)) (z:AV),Acc U 82 h h' z (ps.map lq)∧fR h h'∧ps.length≤i∧i≤l.length∧m=l.length - i∧scan l=(ps++(scan (l.drop i)).1,i+(scan (l.drop i)).2)∧
  lk ρ 0=some y∧lk ρ 4=some z∧lk ρ 5=some (.i (i:Nat))) l.length ?_ ?_
 ·refine⟨0,[],_,.full (.refl h),.refl h,aeR,aeK,rfl,aeR,?_,?_,?_⟩<;>simp only[go_sem]
 ·rintro m ρ h' ⟨i,ps,z,ha,hk,hpi,hi,rfl,hsc,r0,r4,r5⟩
  have hb' :=hb.fJ hk;simp only[go_sem,r0,r4,r5];refine hb'.from (m:=i) (x:=.i64) i ?_ rfl hi u5 fun y2 hy2=>?_
  ·rfl
  simp only[go_sem,r0,r4,r5];refine(Cy y2 (l.drop i) h' hy2 aeL).mono fun r h2 ⟨⟨P,p,b,e1,hP,hbg⟩,e2⟩=>?_
  subst e1;subst e2
  cases b with
  |false=>
   rw[if_neg aeR]at hbg;rw[o6 hbg]at hsc;simp only[go_sem,r0,r4,r5];have hs:=ha.1;rw[hsc];rcases ha.2 with rfl|⟨k,k1,rfl,k2⟩
   ·exact .same (.refl _) ⟨_,[],rfl,.inl ⟨aeR,rfl⟩,hs,aeR⟩
   ·rw[u27]at k2
    exact .same (.refl _) ⟨_,[k],rfl,.inr ⟨k,aeR,aeL,rfl⟩,hs,aeL⟩
  |true=>
   rw[if_pos rfl]at hbg;have hpl:=nO hbg;rw[List.length_drop]at hpl;have hsc' :=K0 hsc hbg;have w1:IntKind.i64.wrap ((8:Int)+(p.length:Int))=((8+p.length:Nat):Int):=aeW;have w2:IntKind.i64.wrap ((i:Int)+((8+p.length:Nat):Int))=((i+(8+p.length):Nat):Int):=aeW;simp only[go_sem,r0,r4,r5];refine(qN P p h2 hP aeK).pthen' ?_;simp only[go_sem,r0,r4,r5];refine ha.app (zs:=[lq p]) aeO aeO (fun k hk=>hk) (by grind [u27,zN]) (by grind [u27,Sized,lq,AV.cells]) (by grind [QL]) fun z' h3 ha' hk' =>?_
   rw[show ps.map lq++ [lq p]=(ps++ [p]).map lq by simp]at ha'
   have hP3:=hP.fJ hk';simp only[go_sem,r0,r4,r5,hP3.len,w1,w2];refine⟨_,?_,i+(8+p.length),ps++ [p],z',ha',hk.trans hk',aeL,aeK,rfl,hsc',?_,?_,?_⟩
   ·omega
   all_goals simp only[go_sem,r0,r4,r5,hP3.len,w1,w2]
theorem Qw(l:List UInt8):(scan l).1.length≤l.length∧∀p∈(scan l).1,p.length≤8192:=by
 induction hn:l.length using Nat.strongRecOn generalizing l with
 |_ n ih=>
  cases hb:gu l with
  |none=>simp_all [o6,Nat.zero_le]
  |some p=>
   have hl:=nO hb;rw[sj hb]
   grind
theorem iF.row{h:Heap}{y:AV}{xs:List AV}(hg:iF h y xs sp):∃q,y= .sl xs q:=by rcases hg with⟨rfl,_⟩|⟨k,rfl,_⟩<;>exact⟨_,rfl⟩
def Touch(S:List Nat)(h h' :Heap):Prop:=∀j k,j∉S→h j=some k→h' j=some k
theorem Touch.refl(S:List Nat)(h:Heap):Touch S h h:=fun _ _ _ e=>e
theorem Touch.trans{a b c:Heap}(x:Touch S a b)(y:Touch T b c):Touch (S++T) a c:=fun j k e hj=>y j k aeL (x j k aeL hj)
theorem Touch.of{h h' :Heap}(hs:Ab.Sub h h'):Touch S h h' :=fun _ _ _ e=>hs _ _ e
theorem Touch.keep{i:Nat}{h h' :Heap}(hs:Keep i h h'):Touch [i] h h' :=fun j k e hj=>hs j k aeL hj
theorem Touch.upd{h:Heap}{i:Nat}{k:Option Blk}:Touch [i] h (upd h i k):=Touch.keep (Keep.upd i k)
theorem Touch.mono{h h' :Heap}(ht:Touch S h h')(hs:∀i∈S,i∈T∨h i=none):Touch T h h' :=fun j k e hj=>ht j k aeL hj
theorem iF.touch{h h' :Heap}{y:AV}{xs:List AV}(hg:iF h y xs sp)(ht:Touch S h h')(hn:∀i∈sp,i∉S):iF h' y xs sp:=by
 rcases hg with⟨rfl,rfl⟩|⟨k,rfl,k1,rfl⟩
 ·exact .inl ⟨rfl,rfl⟩
 ·exact .inr ⟨k,rfl,ht _ _ (hn k aeR) k1,rfl⟩
theorem iF.has{h:Heap}{y:AV}{xs:List AV}(hg:iF h y xs sp):∀i∈sp,∃n,h i=some (.spare n 1):=by
 rcases hg with⟨rfl,rfl⟩|⟨k,rfl,k1,rfl⟩
 ·simp
 grind
theorem iF.app{h:Heap}{y v:AV}{xs zs:List AV}(hg:iF h y xs sp)(hsrc:∀k:List AV→Prop,k zs→iS U 82 h v k)(s1:Sized 1 xs)(s2:Sized 1 zs)
  (hlen:xs.length+zs.length≤1000000000000) (hk:∀y' h' sp',iF h' y' (xs++zs) sp'→Touch sp h h'→(∀i∈sp',i∈sp∨h i=none)→Q y' h'):apK U h y v Q (.slice 82):=by
 rcases hg with⟨rfl,rfl⟩|⟨k,rfl,k1,rfl⟩
 ·refine(qF ..).mpr ⟨aeO,aeO,hsrc _ ⟨by grind [u27],by grind [u27],by grind [QL],fun hn=>?_,fun hn=> .own fun id hid=>?_⟩⟩
  ·subst hn
   exact hk _ _ [] (.inl ⟨aeR,rfl⟩) (.refl _ _) aeR
  ·rw[u27]
   exact hk _ _ [id] (.inr ⟨id,rfl,by rw[ah,aeE],rfl⟩) (.of ((Ab.Sub.refl h).new hid _)) aeL
 ·refine(Ck ..).mpr ⟨aeO,aeO,hsrc _ ⟨by grind [u27],by grind [u27],by grind [QL],by grind [u27],?_⟩⟩
  rw[u27];exact hk _ _ [k] (.inr ⟨k,rfl,by rw[ah,aeE],rfl⟩) .upd aeR
def JAt(h:Heap)(t jid did:Nat)(ps:List (List UInt8))(down:Bool)(sp:List Nat):Prop:=
 ∃y xs,h jid=some (.obj [.ptr did 0,y,.b down] t)∧iF h y xs sp∧∀g,Ab.Rows 5 g xs ps
theorem JAt.touch{h h' :Heap}{t jid did:Nat}(hj:JAt h t jid did ps down sp)(ht:Touch S h h')(h1:jid∉S)(hn:∀i∈sp,i∉S):JAt h' t jid did ps down sp:=by obtain⟨y,xs,a,b,c⟩:=hj;exact⟨y,xs,ht _ _ h1 a,b.touch ht hn,c⟩
theorem JAt.sub{h h' :Heap}{t jid did:Nat}(hj:JAt h t jid did ps down sp)(ht:Ab.Sub h h'):JAt h' t jid did ps down sp:=
 hj.touch (S:=[]) (.of ht) aeR aeR
theorem KU{h:Heap}{xs:List AV}{x:AV}(hr:Ab.Rows 5 h xs ps)(hx:By h x p):Ab.Rows 5 h (xs++ [x]) (ps++ [p]):=⟨by simp[hr.1],fun i h1 h2=>by
 have hl:=hr.1
 by_cases hi:i<xs.length
 ·rw[List.getElem_append_left hi,List.getElem_append_left aeK]
  exact hr.2 i hi aeK
 ·have e:i=xs.length:=by grind
  subst e;simpa[hl]using hx⟩
theorem xK(jid did:Nat)(ps:List (List UInt8))(down:Bool)(sp:List Nat)(h:Heap)(hj:JAt h 211 jid did ps down sp):ai Tryz.prog 66 [.ptr jid 0] h fun r h' =>r= .b down∧h' =h:=by
 obtain⟨y,xs,a,_,_⟩:=hj;refine aeJ Tryz.func66 7 [.tmp 2] fun hwf=>?_
 simp only[go_sem,a];exact aeV
theorem zK(jid did:Nat)(ps:List (List UInt8))(down:Bool)(sp:List Nat)(h:Heap)(hj:JAt h 211 jid did ps down sp)(hl:ps.length≤1000000)(hp:∀p∈ps,p.length≤1000000):
  ai Tryz.prog 57 [.ptr jid 0] h fun r h' =>∃q,r= .sl (ps.map lq) q∧Ab.Sub h h' :=by
 obtain⟨y,xs,a,b,c⟩:=hj;refine aeJ Tryz.func57 22 [.tmp 2] fun hwf=>?_
 obtain⟨qy,rfl⟩:=b.row;have hlen:=(c h).1;simp only[go_sem,a];refine .intro (fun m ρ g=>∃(i:Nat) (z:AV),Acc U 82 h g z ((ps.take i).map lq)∧i≤ps.length∧m=ps.length - i∧lk ρ 3=some z∧lk ρ 9=some (.sl xs qy)∧lk ρ 10=some (.i xs.length)∧lk ρ 11=some (.i i)) (ps.length - 0) ?_ ?_
 ·refine⟨0,_,.full (.refl h),aeK,rfl,?_,?_,?_,?_⟩<;>simp only[go_sem]
 ·rintro m ρ g ⟨i,z,ha,hi,rfl,r3,r9,r10,r11⟩
  by_cases hc:i<ps.length
  ·have d1:decide ((i:Int)<(xs.length:Int))=true:=decide_eq_true aeK
   have w1:IntKind.i64.wrap ((i:Int)+1)=((i+1:Nat):Int):=aeW;have hx:=(c g).2 i aeK hc;simp only[go_sem,r3,r9,r10,r11,d1];refine .at i aeK (by rw[hx.cells];rfl) ?_
   simp only[go_sem,r3,r9,r10,r11,hx.cells,hx.Ns,and_self];refine(qN xs[i] ps[i] g hx aeL).pthen' ?_;simp only[go_sem,r3,r9,r10,r11];refine ha.app (v:=.sl [lq ps[i]] .full) (zs:=[lq ps[i]]) aeO aeO (fun k hk=>hk) (by grind [u27,zN]) (by grind [u27,Sized,lq,AV.cells]) (by grind [QL]) fun z' g2 ha' hk' =>?_
   simp only[go_sem,r3,r9,r10,r11,w1];refine⟨_,?_,i+1,z',?_,aeK,rfl,?_,?_,?_,?_⟩
   ·omega
   ·grind [List.take_succ_eq_append_getElem]
   all_goals simp only[go_sem,r3,r9,r10,r11,w1]
  ·obtain rfl:i=ps.length:=by omega
   have d1:decide ((ps.length:Int)<(xs.length:Int))=false:=decide_eq_false aeK;simp only[go_sem,r3,r9,r10,r11,d1];rw[List.take_length]at ha;obtain⟨q,rfl⟩:=ha.row;exact .same (.refl _) ⟨q,rfl,ha.1⟩
def D.bW(d:D):D×Nat:=
 let c:=if(scan d.b).2<d.b.length then d.cut ((scan d.b).2:Nat)else(d,0)
 if c.2=0 then c.1.sync else c
theorem D.ND(hd:d.ok):d.bW.1.ok:=by grind [scan,Nat,ok,D.Cr,D.bW,sync,D.xW]
theorem MV(d:D)(hd:d.ok)(id:Nat)(h:Heap)(hdk:bC h id d):
  ai Tryz.prog 56 [.ptr id 0] h fun r h' =>∃J,r= .tup [J,.i (d.bW.2:Nat)]∧bC h' id d.bW.1∧Keep id h h'∧
   if d.bW.2=0 then∃jid sp,J= .ptr jid 0∧h jid=none∧JAt h' 211 jid id (scan d.b).1 false sp∧∀i∈sp,h i=none∧i≠jid else J= .v (.pointer none):=by
 refine ai.of_wp hU Tryz.func56 rfl aeZ 35 rfl [.tmp 2,.tmp 3] rfl (aez rfl) ?_;refine .one hU hm ?_;simp only[go_sem]
 show WP _ _ _ _ _ _
 refine .one hU hm ?_;simp only[go_sem]
 show WP _ _ _ _ _ _
 have hlen:d.b.length≤2000000:=by have:=hd.1;have:=hd.2.1;omega
 obtain⟨at_,hat⟩:∃n,(scan d.b).2=n:=⟨_,rfl⟩;have hatl:=Ja d.b;rw[hat]at hatl;refine .cut (fun ρ g=>∃z sp,iF g z ((scan d.b).1.map lq) sp∧Ab.Sub h g∧(∀i∈sp,h i=none)∧lk ρ 0=some (.ptr id 0)∧lk ρ 4=some z∧lk ρ 5=some (.i at_)) (.vc hU hm ?_) ?_
 ·simp only[go_sem]
  refine(NX d hd id h hdk).pthen ?_;simp only[go_sem];refine(Qv _ d.b h (.sl _ _) hlen).mono fun r g ⟨z,sp,e1,hg,hs,hsp⟩=>?_
  subst e1;rw[hat];simp only[go_sem];refine⟨z,sp,hg,hs,hsp,?_,?_,?_⟩<;>simp only[go_sem]
 rintro ρ g ⟨z,sp,hg,hs,hsp,r0,r4,r5⟩
 have hdk1:=hdk.keep hs.fJ;have hob:∀i∈sp,i≠id:=fun i hi e=>by
  obtain⟨y,hy,_⟩:=hdk
  grind
 refine .cut (fun ρ g=>∃d1,d.bW=d1.sync∧d1.ok∧bC g id d1∧iF g z ((scan d.b).1.map lq) sp∧Keep id h g∧lk ρ 0=some (.ptr id 0)∧lk ρ 4=some z) (.vc hU hm ?_) ?_
 ·simp only[go_sem,r0,r4,r5]
  refine(P0 d id g hdk1).pthen ?_;simp only[go_sem,r0,r4,r5];refine .intro (fun e=>?_) (fun e=>?_)
  ·have e:=aeC e
   have e' :at_<d.b.length:=aeK;simp only[go_sem,r0,r4,r5];refine dthen (Cr d hd id g at_ hdk1) fun g1 hd1 kp=>?_
   have hO:d.bW=if(d.cut (at_:Nat)).2=0 then(d.cut (at_:Nat)).1.sync else d.cut (at_:Nat):=by simp_all [D.bW,if_pos]
   have ok1:=D.Cr hd at_;generalize d.cut (at_:Nat)=D0 at hO hd1 ok1⊢;obtain⟨D1,c1⟩:=D0;simp only at hO hd1 ok1⊢;simp only[go_sem,r0,r4,r5]
   by_cases hc:c1=0
   ·subst hc
    rw[if_pos rfl]at hO;simp only[go_sem,r0,r4,r5];refine⟨D1,hO,ok1,hd1,hg.touch (Touch.keep kp) aeL,(hs.keep id).trans kp,?_,?_⟩<;>simp only[go_sem,r0,r4]
   ·rw[if_neg hc]at hO
    have t1:(((c1:Nat):Int) !=0)=true:=aeL;simp only[go_sem,r0,r4,r5,t1];refine .same (.refl _) ⟨_,by rw[hO];rfl,aeL,(hs.keep id).trans kp,?_⟩
    grind
  ·have e:=aeD e
   have e' :¬at_<d.b.length:=aeK;have hO:d.bW=d.sync:=by simp_all [D.bW,if_neg]
   simp only[go_sem,r0,r4,r5];refine⟨d,hO,hd,hdk1,hg,hs.keep id,?_,?_⟩<;>simp only[go_sem,r0,r4]
 rintro ρ g1 ⟨d1,hO,ok1,hd1,hg1,kp1,r0,r4⟩
 refine .vc hU hm ?_;simp only[go_sem,r0,r4];refine dthen (xW d1 ok1 id g1 hd1) fun g2 hd2 kp2=>?_
 rw[hO];generalize d1.sync=D0 at hd2⊢;obtain⟨D2,c2⟩:=D0;simp only at hd2⊢;have kp:=kp1.trans kp2;have hg2:=hg1.touch (Touch.keep kp2) aeL;simp only[go_sem,r0,r4]
 by_cases hc:c2=0
 ·subst hc
  obtain⟨qz,rfl⟩:=hg2.row;simp only[go_sem,r0,r4];intro jid hjid;simp only[go_sem,r0,r4];have hne:jid≠id:=fun e=>by
   obtain⟨y,hy,_⟩:=hd2
   grind
  have hjh:h jid=none:=by
   cases hh:h jid with
   |none=>rfl
   |some k=>rw[kp _ _ hne hh]at hjid;omega
  have hsj:∀i∈sp,i≠jid:=fun i hi e=>by
   obtain⟨n,hn⟩:=hg2.has i hi
   grind
  refine .same (.refl _) ⟨_,rfl,hd2.keep (.new hjid),fun j k e hj=>?_,jid,sp,rfl,hjh,⟨_,_,ah ..,hg2.touch .upd aeL,fun g=>I8 _ g⟩,fun i hi=>⟨hsp i hi,hsj i hi⟩⟩
  have h2:=kp j k e hj;rw[ag _ _ aeL];exact aiU
 ·have t1:(((c2:Nat):Int) !=0)=true:=by grind
  simp only[go_sem,r0,r4,t1];exact .same (.refl _) ⟨_,rfl,hd2,kp,aeL⟩
def jadd(d:D)(ps:List (List UInt8))(down:Bool)(p:List UInt8):(D×List (List UInt8)×Bool)×Nat:=
 if down=true then((d,ps,true),9)else if p.length=0∨8192<p.length then((d,ps,false),1)else
  if(d.append (frame p)).2=8 then(((d.append (frame p)).1,ps,false),8)else
   if(if(d.append (frame p)).2=0 then(d.append (frame p)).1.sync else d.append (frame p)).2=0 then
    (((if(d.append (frame p)).2=0 then(d.append (frame p)).1.sync else d.append (frame p)).1,ps++ [p],false),0)
   else(((if(d.append (frame p)).2=0 then(d.append (frame p)).1.sync else d.append (frame p)).1,ps,true),9)
theorem D.Dl(d:D)(b:List UInt8):(d.append b).2=0∨(d.append b).2=8∨(d.append b).2=9:=by grind [D.append]
theorem D.Lh(d:D):d.sync.2=0∨d.sync.2=9:=by grind [D.sync]
theorem IE(d:D)(hd:d.ok)(id jid:Nat)(ps:List (List UInt8))(down:Bool)(sp:List Nat)(h:Heap)(x:AV)(p:List UInt8)(hdk:bC h id d)(hj:JAt h 211 jid id ps down sp)(hx:By h x p)(hp:p.length≤1000000)(hps:ps.length≤1000000):
  ai Tryz.prog 68 [.ptr jid 0,x] h fun r h' =>r= .i ((jadd d ps down p).2:Nat)∧∃sp',bC h' id (jadd d ps down p).1.1∧JAt h' 211 jid id (jadd d ps down p).1.2.1 (jadd d ps down p).1.2.2 sp'∧
   Touch (id::jid::sp) h h'∧∀i∈sp',i∈sp∨h i=none:=by
 obtain⟨y,xs,hjid,hg,hrs⟩:=hj;have hne:jid≠id:=fun e=>by obtain⟨z,hz,_⟩:=hdk;rw[←e,hjid]at hz;simp only[Option.some.injEq,Blk.obj.injEq]at hz;exact absurd hz.2 aeO
 refine ai.of_wp hU Tryz.func68 rfl aeN 51 rfl [.tmp 4] rfl (aez rfl) ?_;refine .one hU hm ?_;simp only[go_sem]
 show WP _ _ _ _ _ _
 refine .one hU hm ?_;cases down with
 |true=>
  have hJ:jadd d ps true p=((d,ps,true),9):=by simp[jadd]
  simp only[go_sem,hjid];refine .same (.refl _) ?_;rw[hJ];exact⟨rfl,sp,hdk,⟨y,xs,hjid,hg,hrs⟩,.refl _ _,fun i hi=> .inl hi⟩
 |false=>
  simp only[go_sem,hjid]
  show WP _ _ _ _ _ _
  refine .one hU hm ?_;have bad:(p.length=0∨8192<p.length)→nL [.i 1] h fun r h' =>r= .i ((jadd d ps false p).2:Nat)∧∃sp',bC h' id (jadd d ps false p).1.1∧JAt h' 211 jid id (jadd d ps false p).1.2.1 (jadd d ps false p).1.2.2 sp'∧
    Touch (id::jid::sp) h h'∧∀i∈sp',i∈sp∨h i=none:=fun hb=>by
   have hJ:jadd d ps false p=((d,ps,false),1):=by unfold jadd;rw[if_neg aeR,if_pos hb]
   refine .same (.refl _) ?_;rw[hJ];exact⟨rfl,sp,hdk,⟨y,xs,hjid,hg,hrs⟩,.refl _ _,fun i hi=> .inl hi⟩
  by_cases h0:p.length=0
  ·have t0:(((p.length:Nat):Int)==0)=true:=by simp[h0]
   simp only[go_sem,hx.len,t0];exact bad (.inl h0)
  ·have t0:(((p.length:Nat):Int)==0)=false:=beq_eq_false_iff_ne.mpr aeK
   by_cases h1:8192<p.length
   ·have t1:decide ((8192:Int)<(p.length:Int))=true:=decide_eq_true aeK
    simp only[go_sem,hx.len,t0,t1];exact bad (.inr h1)
   ·have t1:decide ((8192:Int)<(p.length:Int))=false:=decide_eq_false aeK
    have hJ:jadd d ps false p=if(d.append (frame p)).2=8 then(((d.append (frame p)).1,ps,false),8)else
      if(if(d.append (frame p)).2=0 then(d.append (frame p)).1.sync else d.append (frame p)).2=0 then
       (((if(d.append (frame p)).2=0 then(d.append (frame p)).1.sync else d.append (frame p)).1,ps++ [p],false),0)
      else(((if(d.append (frame p)).2=0 then(d.append (frame p)).1.sync else d.append (frame p)).1,ps,true),9):=by
     have hno:¬(p.length=0∨8192<p.length):=aeK;unfold jadd;rw[if_neg aeR,if_neg hno]
    have hcode:=D.Dl d (frame p);simp only[go_sem,hx.len,t0,t1]
    show WP _ _ _ _ _ _
    refine .one hU hm ?_;simp only[go_sem];refine .calls (hm1 jid _) [0,1,2,3,4,5,6,7] (.hm1 hjid) aeN rfl ?_;simp only[go_sem,hjid];refine(D3 x p h hx hp).sthen fun g1 hs1=>?_
    refine⟨.hm1 (hs1 _ _ hjid),?_⟩;simp only[go_sem];refine dthen (rS d hd id g1 _ (frame p) (hdk.keep hs1.fJ) (.sl _ _) (by rw[fT];omega)) fun g2 hd2 kp=>?_
    have hj2:g2 jid=some (.obj [.ptr id 0,y,.b false] 211):=kp _ _ hne (hs1 _ _ hjid);refine⟨.hm1 hj2,?_⟩;have ok2:=D.rS hd (frame p);have hkp:Keep id h g2:=(hs1.keep id).trans kp;have hgid:∀i∈sp,i≠id:=fun i hi e=>by obtain⟨n,hn⟩:=hg.has i hi;obtain⟨z,hz,_⟩:=hdk;rw[e,hz]at hn;cases hn
    have hg2:iF g2 y xs sp:=hg.touch (Touch.keep hkp) (fun i hi=>by simp[hgid i hi])
    have hx2:By g2 x p:=by obtain⟨z,hz,_⟩:=hdk;exact(hx.keep hkp hz aeO)
    have hT2:Touch (id::jid::sp) h g2:=(Touch.keep hkp).mono (fun i hi=> .inl (by simp at hi;simp[hi]))
    generalize d.append (frame p)=A at hJ hcode hd2 ok2⊢;obtain⟨d2,c2⟩:=A;simp only at hJ hcode hd2 ok2⊢;simp only[go_sem]
    show WP _ _ _ _ _ _
    refine .one hU hm ?_;have downed:∀(g:Heap) (e:D) (ρ:Env),bC g id e→g jid=some (.obj [.ptr id 0,y,.b false] 211)→iF g y xs sp→Touch (id::jid::sp) h g→jadd d ps false p=((e,ps,true),9)→
      (nL [.i 9] (upd g jid (some (.obj [.ptr id 0,y,.b true] 211))) fun r h' =>r= .i ((jadd d ps false p).2:Nat)∧∃sp',bC h' id (jadd d ps false p).1.1∧JAt h' 211 jid id (jadd d ps false p).1.2.1 (jadd d ps false p).1.2.2 sp'∧
       Touch (id::jid::sp) h h'∧∀i∈sp',i∈sp∨h i=none):=fun g e ρ a1 a2 a3 a4 hJ=>by
     rw[hJ];have hsj:∀i∈sp,i≠jid:=fun i hi e=>by obtain⟨n,hn⟩:=hg.has i hi;rw[e,hjid]at hn;cases hn
     have ht:Touch [jid] g (upd g jid (some (.obj [.ptr id 0,y,.b true] 211))):=.upd;refine .same (.refl _) ⟨rfl,sp,?_,⟨y,xs,ah ..,a3.touch ht (fun i hi=>by simp[hsj i hi]),hrs⟩,(a4.trans ht).mono (fun i hi=> .inl (by simp at hi⊢;rcases hi with h|h|h|h<;>simp[h])),fun i hi=> .inl hi⟩
     obtain⟨z,z1,z2⟩:=a1;exact⟨z,ht _ _ (by simp;exact fun e=>hne e.symm) z1,z2.keep (Keep.upd jid _) a2 aeO⟩
    have hc0:=hcode;rcases hcode with rfl|rfl|rfl
    ·
     simp only[go_sem];refine .one hU hm ?_;simp only[go_sem,hj2];refine dthen (xW d2 ok2 id g2 hd2) fun g3 hd3 kp3=>?_
     have hj3:g3 jid=some (.obj [.ptr id 0,y,.b false] 211):=kp3 _ _ hne hj2;have hg3:iF g3 y xs sp:=hg2.touch (Touch.keep kp3) (fun i hi=>by simp[hgid i hi])
     have hx3:By g3 x p:=by obtain⟨z,hz,_⟩:=hd2;exact(hx2.keep kp3 hz aeO)
     have hT3:Touch (id::jid::sp) h g3:=(hT2.trans (Touch.keep kp3)).mono (fun i hi=> .inl (by simp at hi⊢;rcases hi with h|h|h|h<;>simp[h]))
     have hcs:=D.Lh d2;rw[if_neg aeO,if_pos rfl]at hJ;generalize d2.sync=A at hJ hcs hd3⊢;obtain⟨d3,c3⟩:=A;simp only at hJ hcs hd3⊢;rcases hcs with rfl|rfl
     ·simp only[go_sem]
      refine .one hU hm ?_;simp only[go_sem];refine .one hU hm ?_;simp only[go_sem];refine .last (hm1 jid _) [0,1,2,3,4,5,6,7,8,9,10] (.hm1 hj3) aeN rfl aeN rfl ?_;simp only[go_sem,hj3];refine(qN x p g3 hx3 aeK).pthen' ?_;obtain⟨qy,rfl⟩:=hg3.row;refine⟨.hm1 hj3,?_⟩;simp only[go_sem,hj3];refine hg3.app (v:=.sl [lq p] .full) (zs:=[lq p]) (fun k hk=>hk) (hrs h).sized (by simp[Sized,lq,AV.cells]) (by have:=(hrs h).1;simp;omega) fun z g4 sp' hg4 ht4 hsp' =>?_
      have hsj:∀i∈sp,i≠jid:=fun i hi e=>by obtain⟨n,hn⟩:=hg.has i hi;rw[e,hjid]at hn;cases hn
      have hj4:g4 jid=some (.obj [.ptr id 0,.sl xs qy,.b false] 211):=ht4 _ _ (fun hi=>hsj _ hi rfl) hj3
      refine⟨.hm1 hj4,?_⟩;obtain⟨qz,rfl⟩:=hg4.row;simp only[go_sem,hj4];refine .vc hU hm ?_;simp only[go_sem];have ht5:Touch [jid] g4 (upd g4 jid (some (.obj [.ptr id 0,.sl (xs++ [lq p]) qz,.b false] 211))):=.upd;have hsj' :∀i∈sp',i≠jid:=fun i hi e=>by obtain⟨n,hn⟩:=hg4.has i hi;rw[e,hj4]at hn;cases hn
      rw[if_pos rfl]at hJ;refine .same (.refl _) ?_;rw[hJ];refine⟨rfl,sp',?_,⟨_,_,ah ..,hg4.touch ht5 (fun i hi=>by simp[hsj' i hi]),fun g=>KU (hrs g) (.sl _ _)⟩,?_,fun i hi=>?_⟩
      ·obtain⟨z,z1,z2⟩:=hd3
       have hid4:g4 id=some (.obj (d3.cells z) 121):=ht4 _ _ (fun hi=>hgid _ hi rfl) z1
       have z4:By g4 z d3.b:=by
        rcases z2 with z2|⟨i,off,cs,rfl,a1,a2,a3⟩
        ·exact .inl z2
        ·exact .oa (ht4 _ _ (fun hi=>by obtain⟨n,hn⟩:=hg3.has i hi;rw[a1]at hn;cases hn) a1) a2 a3
       exact⟨z,ht5 _ _ (by simp;exact fun e=>hne e.symm) hid4,z4.keep (Keep.upd jid _) hj4 aeO⟩
      ·exact((hT3.trans ht4).trans ht5).mono (fun i hi=> .inl (by simp at hi⊢;grind))
      ·rcases hsp' i hi with h1|h1
       ·exact .inl h1
       ·cases hh:h i with
        |none=>exact .inr rfl
        |some k=>
         by_cases hin:i∈id::jid::sp
         ·simp only[List.mem_cons]at hin
          rcases hin with e|e|e
          ·subst e;rw[hd3.choose_spec.1]at h1;cases h1
          ·subst e;rw[hj3]at h1;cases h1
          ·exact .inl e
         ·rw[hT3 i k hin hh]at h1;cases h1
     ·simp only[go_sem]
      refine .one hU hm ?_;simp only[go_sem,hj3];exact downed g3 d3 [] hd3 hj3 hg3 hT3 hJ
    ·
     simp only[go_sem];refine .same (.refl _) ?_;rw[hJ];exact⟨rfl,sp,hd2,⟨y,xs,hj2,hg2,hrs⟩,hT2,fun i hi=> .inl hi⟩
    ·simp only[go_sem]
     refine .one hU hm ?_;simp only[go_sem,hj2];refine .one hU hm ?_;simp only[go_sem,hj2];exact downed g2 d2 [] hd2 hj2 hg2 hT2 hJ
theorem D.Tt(hd:d.ok)(h1:d.off=false)(h2:d.f=0):d.bW=({d with b:=d.b.take (scan d.b).2,sy:=(scan d.b).2},0):=by
 have hl:=Ja d.b;have RP:∀e:D,e.off=false→e.f=0→e.sync=({e with sy:=e.b.length},0):=fun e h1 h2=>by unfold D.sync;rw[if_neg (by simp[h1]),D.Rh h2,if_neg (by simp[h1])]
 unfold D.bW
 by_cases h:(scan d.b).2<d.b.length
 ·rw[if_pos h,D.YR h1 h2 hl]
  grind
 ·have e:(scan d.b).2=d.b.length:=by omega
  grind
theorem K6(ps:List (List UInt8))(r:List UInt8)(h:∀p∈ps,1≤p.length∧p.length≤8192)(hr:r.length<8):scan (frames ps++r)=(ps,(frames ps).length):=by grind [Fg,o6,ot]
theorem Wm(h1:d.off=false)(h2:d.f=0)(hp1:1≤p.length)(hp2:p.length≤8192)(hf:d.b.length+(frame p).length≤d.q):
  jadd d ps false p=(({d with b:=d.b++frame p,sy:=(d.b++frame p).length},ps++ [p],false),0):=by
 have hno:¬(p.length=0∨8192<p.length):=aeK;have hs:({d with b:=d.b++frame p}:D).sync=({d with b:=d.b++frame p,sy:=(d.b++frame p).length},0):=D.RP h1 h2
 unfold jadd;rw[if_neg aeR,if_neg hno,D.HX h1 h2 hf,if_neg aeK,if_pos rfl,hs,if_pos rfl]
theorem MU(h1:d.off=false)(hp1:1≤p.length)(hp2:p.length≤8192)(hf:d.q<d.b.length+(frame p).length):
  jadd d ps false p=((d,ps,false),8):=by
 have hno:¬(p.length=0∨8192<p.length):=aeK;unfold jadd;rw[if_neg aeR,if_neg hno,D.FR h1 hf,if_pos rfl]
theorem Oa:scan []=([],0):=by grind [o6,ot]
end Go.Proofs.YtokahfmoollblaaGreatDoor
namespace Go.Bf
open Go Go.Ab Go.Proofs.YtokahfmoollblaaGreatDoor
variable {o:OpD}{v a:bu}
def fnv(h:BitVec 64)(n:Nat):BitVec 64:=(h ^^^ BitVec.ofNat 64 n)*1099511628211#64
def Pv(g:BitVec 64→Nat→BitVec 64):Nat→BitVec 64→BitVec 64→BitVec 64
 |0,_,h=>h
 |n+1,p,h=>Pv g n (p>>>8) (g h (p &&& 255#64).toNat)
def J2(n:Nat)(p h:BitVec 64):BitVec 64:=Pv fnv n p h
theorem J5(g:BitVec 64→Nat→BitVec 64)(n:Nat)(p h:BitVec 64):Pv g (n+1) p h=Pv g n (p>>>8) (g h (p &&& 255#64).toNat):=rfl
theorem J4(p h:BitVec 64):J2 0 p h=h:=rfl
theorem J3(n:Nat)(p h:BitVec 64):J2 (n+1) p h=J2 n (p>>>8) (fnv h (p &&& 255#64).toNat):=J5 fnv n p h
def vh(prev:BitVec 64)(l:Txt):BitVec 64:=l.foldl (fun h c=>fnv h c.toNat) (J2 8 prev 14695981039346656037#64)
def qR:Nat→BitVec 64→Txt
 |0,_=>[]
 |n+1,h=>UInt8.ofNat h.toNat::qR n (h>>>8)
def eC(h:BitVec 64)(o:OpD):Txt:=qR 8 h++iE o
theorem iX:∀(n:Nat) (h:BitVec 64),(qR n h).length=n
 |0,_=>rfl
 |n+1,h=>by simp[qR,iX n]
structure cm where
 s:an
 log:List pn
 ch:BitVec 64
 ps:List Txt
 down:Bool
def jj(e:cm)(p:Txt):Option OpD:=if p.length<8 then none else match oS (p.drop 8)with
 |some o=>if eC e.ch o=p then some o else none
 |none=>none
def nR(e:cm)(g:an×iG×pn×Int)(p:Txt):cm:={e with s:=g.1,log:=e.log++ [g.2.2.1],ch:=vh e.ch p}
def kL(e:cm)(p:Txt):Option cm:=match jj e p with
 |some o=>if(aI e.s o).2.2.2=0 then some (nR e (aI e.s o) p)else none
 |none=>none
def lR:cm→List Txt→Option cm
 |e,[]=>some e
 |e,p::r=>match kL e p with
  |some e' =>lR e' r
  |none=>none
def jk(ps:List Txt):cm:=⟨sY,[],0,ps,false⟩
def vP(ps:List Txt):Option cm:=lR (jk ps) ps
def DN(n:Int):iG:=⟨n,naM,false,aq,false,0⟩
def doE(e:cm)(d:D)(o:OpD):cm×D×iG:=
 if e.down then(e,d,DN 9)else
 let g:=aI e.s o
 if g.2.2.2≠0 then(e,d,g.2.1)else
 let p:=eC e.ch o
 let a:=jadd d e.ps e.down p
 if a.2=0 then({nR e g p with ps:=a.1.2.1,down:=a.1.2.2},a.1.1,g.2.1)else({e with ps:=a.1.2.1,down:=a.1.2.2},a.1.1,DN (a.2:Int))
theorem sO:∀(l:List Txt) (e:cm) (p:Txt),lR e (l++ [p])=(lR e l).bind fun e' =>kL e' p
 | [],e,p=>by grind [lR,kL]
 |q::l,e,p=>by
  simp only[List.cons_append,lR];cases kL e q with
  |none=>rfl
  |some e' =>exact sO l e' p
theorem QE{e e' :cm}{p:Txt}(h:kL e p=some e')(ps:List Txt):kL {e with ps:=ps} p=some {e' with ps:=ps}:=by
 unfold kL at h⊢;have hr:jj {e with ps:=ps} p=jj e p:=rfl
 rw[hr];cases hq:jj e p with
 |none=>rw[hq]at h;cases h
 |some o=>
  rw[hq]at h;simp only at h⊢;split at h
  ·rename_i hg
   rw[if_pos hg];cases h;rfl
  ·cases h
theorem Is:∀(l:List Txt) {e e' :cm},lR e l=some e'→∀ps,lR {e with ps:=ps} l=some {e' with ps:=ps}
 | [],e,e',h,ps=>by cases h;rfl
 |p::l,e,e',h,ps=>by
  simp only[lR]at h⊢;cases hs:kL e p with
  |none=>grind
  |some e1=>rw[hs]at h;rw[QE hs ps];exact Is l h ps
def C8(e:cm):Prop:=vP e.ps=some {e with down:=false}
theorem NY{e:cm}(hf:dH o=true)(h64:oN o):jj e (eC e.ch o)=some o:=by
 unfold jj;rw[if_neg (by simp[eC,iX])]
 grind [eC,iE,List.drop_left',iX,Py]
theorem jE{s:an}(h:(aI s o).2.2.2=0):dH o=true:=by
 have hp:(jZ s o).1=0:=by
  unfold aI at h
  grind
 exact(uE hp).2.1
theorem SR{e:cm}(he:C8 e)(hg:(aI e.s o).2.2.2=0)(h64:oN o):C8 {nR e (aI e.s o) (eC e.ch o)with ps:=e.ps++ [eC e.ch o],down:=false}:=by
 unfold C8 vP at he⊢;have h1:=Is _ he (e.ps++ [eC e.ch o]);rw[sO,show jk (e.ps++ [eC e.ch o])= {jk e.ps with ps:=e.ps++ [eC e.ch o]} from rfl,h1]
 simp only[Option.bind_some];unfold kL;have hr:jj {({e with down:=false}:cm)with ps:=e.ps++ [eC e.ch o]} (eC e.ch o)=some o:=by
  have:=NY (e:={({e with down:=false}:cm)with ps:=e.ps++ [eC e.ch o]}) (jE hg) h64
  exact afv
 rw[hr];simp only;generalize eC e.ch o=p;rw[if_pos hg];rfl
theorem Jk:∀(f v:Nat),(o8 f v).length≤f
 |0,_=>by simp[o8]
 |f+1,v=>by
  unfold o8;split
  ·simp
  ·simp only[List.length_cons]
   have:=Jk f (v / 128);omega
theorem ja(n:Int):(iZ n).length≤10:=Jk 10 _
theorem Qf(n:Int):1≤(iZ n).length:=List.length_pos_iff.2 (Jj 10 _ aeO)
theorem dw(s:Txt):(dI s).length≤10+s.length:=by grind [dI,aeE,ja]
theorem xZ(h:v=aq∨bz v=true):(oK v).length≤84:=by
 have hs:v.kind=3∨v.kind=5→v.s.length≤64:=fun e=>by
  rcases h with rfl|h
  ·decide
  simp_all [vW]
 unfold oK;rw[aeE];have h1:=ja v.kind;split
 ·rename_i e
  have:=dw v.s;omega
 ·have:=ja v.n
  omega
theorem CT(hf:OpF o):1≤(iE o).length∧(iE o).length≤5000:=by unfold iE;simp only[aeE];have h1:=ja o.kind;have h0:=Qf o.kind;have h2:=dw o.subj;have h3:=dw o.case;have h4:=dw o.field;have h5:=dw o.to;have h6:=xZ hf.val;have h7:=ja o.review;have h8:=dw o.text;have h9:=dw o.reason;have h10:=xZ (v:=dP o.glass) (.inr (z8 _));have:=hf.subj;have:=hf.case;have:=hf.field;have:=hf.to;have:=hf.text;have:=hf.reason;omega
theorem uK{h:BitVec 64}(hf:OpF o):9≤(eC h o).length∧(eC h o).length≤5008:=by grind [CT,eC,aeE,iX]
def zb(a b:bu):Int:=if bz a=false∨bz b=false then 1 else 2
def lV(a b:bu):AV:=match nU a b with
 |some x=> .tup [.b x,.i 0]
 |none=> .tup [.b false,.i (zb a b)]
theorem Bo{b:bu}(h:bz a=false∨bz b=false):lV a b= .tup [.b false,.i 1]:=by
 unfold lV nU;rw[if_pos aeL]
 simp_all [zb,if_pos]
theorem za{b:bu}(h1:bz a=true)(h2:bz b=true)(h:a.kind≠b.kind∨a.kind=1):lV a b= .tup [.b false,.i 2]:=by simp_all [lV,nU,if_pos,zb]
theorem P7{b:bu}(h1:bz a=true)(h2:bz b=true)(h:a.kind=b.kind)(h0:a.kind≠1)(ht:a.kind=3∨a.kind=5):lV a b= .tup [.b (Op.bytesLess a.s b.s),.i 0]:=by simp_all [lV,nU,if_neg,if_pos]
theorem P6{b:bu}(h1:bz a=true)(h2:bz b=true)(h:a.kind=b.kind)(h0:a.kind≠1)(ht:¬(a.kind=3∨a.kind=5)):lV a b= .tup [.b (decide (a.n<b.n)),.i 0]:=by simp_all [lV,nU,if_neg]
end Go.Bf
namespace Go.Proofs.YtokahfmoollblaaGreatDoor
open Go Go.Ab Go.Bf Tryz
theorem zY(k:Int)(h:Heap):ai prog 229 [.i k] h fun r h' =>r= .b (k==3||k==5)∧h' =h:=by
 refine aeJ func229 9 [.tmp 2] fun hwf=>?_
 cases d1:(k==3)<;>cases d2:(k==5)
 all_goals
  simp only[go_sem,d1,d2];exact aeV
theorem CJ(a b:bu)(h:Heap):ai prog 287 [aS a,aS b] h fun r h' =>r=lV a b∧h' =h:=by
 have ha:=fun(G:Heap)=>fY a G
 have hb:=fun(G:Heap)=>fY b G
 simp only[aS]at ha hb;refine aeJ func287 40 [.tmp 4,.tmp 5] fun hwf=>?_
 simp only[go_sem,aS];intro i1 h1;simp only[go_sem];intro i2 h2;have n21:=aH h2;have n2:=aB h2;have hs:∀x y,Ab.Sub h (upd (upd h i1 x) i2 y):=fun x y=>((Sub.refl h).put h1 x).put n2 y
 simp only[go_sem,ak,n21.symm];refine(ha _).pthen ?_;cases da:bz a
 ·simp only[go_sem]
  exact .mk _ (.refl _) (hs _ _) ⟨by rw[Bo (.inl da)];rfl,rfl⟩
 simp only[go_sem];refine(hb _).pthen ?_;cases db:bz b
 ·simp only[go_sem]
  exact .mk _ (.refl _) (hs _ _) ⟨by rw[Bo (.inr db)];rfl,rfl⟩
 cases dk:(a.kind !=b.kind)
 case true=>simp only[go_sem,ak,n21.symm,dk];exact .mk _ (.refl _) (hs _ _) ⟨by rw[za da db (.inl aeL)];rfl,rfl⟩
 have ek:a.kind=b.kind:=aeL;cases d1:(a.kind==1)
 case true=>simp only[go_sem,ak,n21.symm,dk,d1];exact .mk _ (.refl _) (hs _ _) ⟨by rw[za da db (.inr aeL)];rfl,rfl⟩
 have e1:a.kind≠1:=aeL;simp only[go_sem,ak,n21.symm,dk,d1];refine(zY _ _).pthen ?_;cases dt:(a.kind==3||a.kind==5)
 ·simp only[go_sem,ak,n21.symm]
  exact .mk _ (.refl _) (hs _ _) ⟨by rw[P6 da db ek e1 aeL];rfl,rfl⟩
 ·simp only[go_sem,ak,n21.symm]
  exact .mk _ (.refl _) (hs _ _) ⟨by rw[P7 da db ek e1 aeL];rfl,rfl⟩
def J7(bag:List bu)(must:Bool):AV:=if bag= []∧must=true then .tup [.sl [] .no,.i 4]else .tup [.sl (bag.map aS) .no,.i 0]
theorem Iv(gs:List bt)(cat:Int)(name:Txt)(must:Bool)(hl:gs.length≤1000000000)(hb:∀g∈gs,g.bag.length≤1000000)(h:Heap):ai prog 254 [bM gs,.agg [.i cat,.s name,.b must]] h fun r h' =>r=J7 (getD gs cat name) must∧h' =h:=by
 have hpl:=fun G=>NN gs cat name hl G
 simp only[bM]at hpl;have frz:∀(x:AV) (e:Int),Weak x (.sl [] .no)→Weak (.tup [x,.i e]) (.tup [.sl [] .no,.i e]):=fun x e hx=> .tup _ _ rfl fun i a b=>by
  rcases i with _|_|i
  ·grind
  ·exact af8
  grind
 refine aeJ func254 30 [.tmp 4,.tmp 5] fun hwf=>?_
 simp only[go_sem,bM];intro i1 h1;simp only[go_sem];refine(hpl _).pthen ?_
 by_cases hx:gs.findIdx (jg cat name)<gs.length
 ·have e1:ixD (jg cat name) gs=(gs.findIdx (jg cat name):Nat):=by simp_all [ixD,if_pos]
  have d1:decide ((0:Int)≤((gs.findIdx (jg cat name):Nat):Int))=true:=decide_eq_true aeK;rw[e1];simp only[go_sem,d1];refine .at (gs.findIdx (jg cat name)) aeL aeU ?_;simp only[go_sem,aeB,lS];rw[if_neg (fun hh=>hh.1)]
  have hlb:=hb _ (aeF hx);rw[get_at hx];obtain⟨B,eB⟩:∃B,gs[gs.findIdx (jg cat name)].bag=B:=⟨_,rfl⟩;rw[eB]at hlb⊢;refine(Dz _ (B.map aS) _ (eL aS 3 (fun _=>rfl) _ _) aeL (bn (fun _=>rfl) _)).pthen ?_
  cases d2:((B.length:Int)==0)
  ·have e2:B≠ []:=by grind
   simp only[go_sem,d2,aeA];exact .mk _ (.refl _) (.aj h1) ⟨by rw[J7,if_neg (fun hh=>e2 hh.1)];rfl,rfl⟩
  ·have e3:(B.length:Int)=0:=by grind
   have e2:B= []:=List.length_eq_zero_iff.1 aeK;subst e2;cases must
   ·simp only[go_sem,List.map_nil,List.length_nil]
    exact ae3
   ·simp only[go_sem,List.map_nil,List.length_nil]
    exact agF
 ·have e1:ixD (jg cat name) gs= -1:=by simp_all [ixD,if_neg]
  have d1:decide ((0:Int)≤ -1)=false:=rfl;rw[e1,SY hx];cases must
  ·simp only[go_sem,d1]
   exact .mk (.tup [.sl [] .no,.i 0]) (frz _ _ (.sl _ _)) (.aj h1) ⟨rfl,rfl⟩
  ·simp only[go_sem,d1]
   exact agF
def mX(m:bP)(v:bu):AV:=
 if m.op=1 then(if v.kind=m.val.kind then .tup [.b (eqV v m.val),.i 0]else .tup [.b false,.i 2])
 else if m.op=2 then lV v m.val else lV m.val v
theorem FQ(m:bP)(v:bu)(h:Heap):ai prog 255 [cK m,aS v] h fun r h' =>r=mX m v∧h' =h:=by
 have hl1:=fun G=>CJ v m.val G
 have hl2:=fun G=>CJ m.val v G
 simp only[aS]at hl1 hl2;refine aeJ func255 42 [.tmp 4,.tmp 5] fun hwf=>?_
 simp only[go_sem,cK,aS];intro i1 h1;simp only[go_sem];intro i2 h2;have n21:=aH h2;have n2:=aB h2;have hs:∀x y,Ab.Sub h (upd (upd h i1 x) i2 y):=fun x y=>((Sub.refl h).put h1 x).put n2 y
 cases d1:(m.op==1)
 case true=>
  have e1:m.op=1:=aeL;cases dk:(v.kind !=m.val.kind)
  ·have dk' :v.kind=m.val.kind:=by grind
   simp only[go_sem,ak,n21.symm,d1,dk];exact .mk _ (.refl _) (hs _ _) ⟨by rw[mX,if_pos e1,if_pos dk'];rfl,rfl⟩
  ·simp only[go_sem,ak,n21.symm,d1,dk]
   exact .mk _ (.refl _) (hs _ _) ⟨by rw[mX,if_pos e1,if_neg aeL];rfl,rfl⟩
 have e1:m.op≠1:=aeL;have aft:∀a b:bu,∃x e,lV a b= .tup [.b x,.i e]:=fun a b=>by
  unfold lV;split
  ·simp
  simp
 cases d2:(m.op==2)
 case true=>have e2:m.op=2:=aeL;obtain⟨x,e,ee⟩:=aft v m.val;rw[ee]at hl1;simp only[go_sem,ak,n21.symm,d1,d2];refine(hl1 _).pthen ?_;simp only[go_sem];exact .mk _ (.refl _) (hs _ _) ⟨by rw[mX,if_neg e1,if_pos e2,ee];rfl,rfl⟩
 ·have e2:m.op≠2:=by grind
  obtain⟨x,e,ee⟩:=aft m.val v;rw[ee]at hl2;simp only[go_sem,ak,n21.symm,d1,d2];refine(hl2 _).pthen ?_;simp only[go_sem];exact .mk _ (.refl _) (hs _ _) ⟨by rw[mX,if_neg e1,if_neg e2,ee];rfl,rfl⟩
theorem Ca(m:bP)(v:bu):∃e:Int,(e !=0)=(cX m v==none)∧mX m v= .tup [.b (cX m v==some true),.i e]:=by
 have hl:∀a b:bu,∃e:Int,(e !=0)=(nU a b==none)∧lV a b= .tup [.b (nU a b==some true),.i e]:=fun a b=>by
  unfold lV;cases hx:nU a b with
  |some x=>simp
  |none=>refine⟨zb a b,?_,rfl⟩;grind [zb]
 unfold mX cX
 by_cases e1:m.op=1
 ·rw[if_pos e1,if_pos e1]
  by_cases ek:v.kind=m.val.kind
  ·rw[if_pos ek,if_pos ek]
   exact⟨0,rfl,aeR⟩
  ·rw[if_neg ek,if_neg ek]
   exact⟨2,rfl,rfl⟩
 ·rw[if_neg e1,if_neg e1]
  by_cases e2:m.op=2
  ·rw[if_pos e2,if_pos e2];exact hl _ _
  ·rw[if_neg e2,if_neg e2];exact hl _ _
theorem J8(bag:List bu)(must:Bool):∃e:Int,(e !=0)=decide (bag= []∧must=true)∧J7 bag must= .tup [.sl (bag.map aS) .no,.i e]:=by
 unfold J7;split
 ·simp_all
 grind
def sr(gs:List bt):Prop:=gs.length≤1000000∧∀g∈gs,g.bag.length≤1000000
theorem sr.bag{gs:List bt}(h:sr gs)(a:qD):(yq gs a).length≤1000000:=by
 unfold yq getD;split
 ·rename_i g hg;exact h.2 g aeL
 ·simp
theorem Bv(m:bP)(gs:List bt)(hf:sr gs)(h:Heap):ai prog 209 [cK m,bM gs] h fun r h' =>r= .i (kC gs m:Nat)∧h' =h:=by
 have hg:=fun G=>Iv gs m.attr.cat m.attr.name m.attr.must (by have:=hf.1;omega) hf.2 G
 have hbl:=hf.bag m.attr;obtain⟨B,eB⟩:∃B,yq gs m.attr=B:=⟨_,rfl⟩;have eg:Go.Bf.getD gs m.attr.cat m.attr.name=B:=eB;rw[eB]at hbl;rw[eg]at hg;have hmm:kC gs m=if B= []∧m.attr.must=true then 1 else if B.any (fun v=>cX m v==some true)then 2 else if B.any (fun v=>cX m v==none)then 1 else 0:=by unfold kC;rw[eB]
 obtain⟨eg,hge,hga⟩:=J8 B m.attr.must;rw[hga]at hg;have hag:=fun(v:bu) (G:Heap)=>FQ m v G
 simp only[cK,bM,aS]at hag hg;refine aeJ func209 38 [.tmp 4] fun hwf=>?_
 simp only[go_sem,cK,bM];intro i1 h1;simp only[go_sem];refine(hg _).pthen ?_;cases d0:decide (B= []∧m.attr.must=true)
 case true=>rw[d0]at hge;simp only[go_sem,hge];exact .mk _ (.refl _) (.aj h1) ⟨by rw[hmm,if_pos (aeC d0)];rfl,rfl⟩
 rw[d0]at hge;rw[if_neg (aeD d0)]at hmm;simp only[go_sem,hge,aeA];obtain⟨H,eH⟩:∃H,upd h i1 (some (.obj [.i m.attr.cat,.s m.attr.name,.b m.attr.must,.i m.op,.i m.val.kind,.i m.val.n,.s m.val.s] 269))=H:=⟨_,rfl⟩;have hH:Ab.Sub h H:=by rw[←eH];exact .aj h1
 have k1:H i1=some (.obj [.i m.attr.cat,.s m.attr.name,.b m.attr.must,.i m.op,.i m.val.kind,.i m.val.n,.s m.val.s] 269):=agh;rw[eH];clear eH;refine .intro (fun q ρ G=>Ab.Sub H G∧∃i:Nat,i≤B.length∧q=B.length - i∧(∀j (hj:j<i) (h2:j<B.length),(cX m B[j]==some true)=false)∧lk ρ 2=some (.ptr i1 0)∧lk ρ 7=some (.i (if(B.take i).any (fun v=>cX m v==none)then 1 else 0))∧lk ρ 21=some (.sl (B.map aS) .no)∧lk ρ 22=some (.i B.length)∧lk ρ 23=some (.i i)) B.length ?_ ?_
 ·refine⟨.refl _,0,aeK,rfl,fun j hj=>aeK,?_,?_,?_,?_,?_⟩<;>simp only[go_sem]
  simp
 ·rintro q ρ G ⟨hs,i,hi,rfl,hc,r2,r7,r21,r22,r23⟩
  have k1' :=hs _ _ k1;simp only[go_sem,r22,r23];refine .intro (fun e=>?_) (fun e=>?_)
  ·have hlt:i<B.length:=aeH e
   have w1:=aeG i aeK;have hsn:(B.take (i+1)).any (fun v=>cX m v==none)=((B.take i).any (fun v=>cX m v==none)||(cX m B[i]==none)):=any_succ hlt
   have ix:=fun k=>eu.eq (xs:=B.map aS) (sz:=3) i afc aeU k
   rw[aeB]at ix;have hci:=fun(d:(cX m B[i]==some true)=false)=>(fun j (hj:j<i+1) (h2:j<B.length)=>(by
    by_cases hji:j=i
    ·subst hji;exact d
    ·exact hc j aeK h2:(cX m B[j]==some true)=false))
   have hat:=fun(d:(cX m B[i]==some true)=true)=>(List.any_eq_true.2 ⟨B[i],aeF hlt,d⟩:B.any (fun v=>cX m v==some true)=true)
   obtain⟨v,ev⟩:∃v,B[i]=v:=⟨_,rfl⟩;rw[ev]at ix hsn hci hat;simp only[aS]at ix;obtain⟨e,he1,he2⟩:=Ca m v;have hag1:=hag v;rw[he2]at hag1;simp only[go_sem,r21,r23,ix];intro i4 h4;have n41:i4≠i1:=fun e=>by rw[e,k1']at h4;cases h4
   simp only[go_sem,r2,ak,n41.symm,k1'];refine(hag1 _).pthen ?_;cases d1:(cX m v==some true)
   ·cases d2:(cX m v==none)
    ·rw[d2]at he1 hsn
     rw[Bool.or_false]at hsn;simp only[go_sem,r23,he1,w1];refine⟨_,?_,hs.trans (.aj h4),i+1,aeK,rfl,hci d1,?_,?_,?_,?_,?_⟩
     ·omega
     all_goals simp only[go_sem,r2,r7,r21,r22,hsn]
    ·rw[d2]at he1 hsn
     rw[Bool.or_true]at hsn;simp only[go_sem,r23,he1,w1];refine⟨_,?_,hs.trans (.aj h4),i+1,aeK,rfl,hci d1,?_,?_,?_,?_,?_⟩
     ·omega
     all_goals simp only[go_sem,r2,r21,r22,hsn]
   ·simp only[go_sem]
    refine .mk _ (.refl _) (hH.trans (hs.trans (.aj h4))) ⟨by rw[hmm,if_pos (hat d1)];rfl,rfl⟩
  ·have hge:i=B.length:=by have:=aeD e;omega
   subst hge;rw[List.take_length]at r7;simp only[go_sem,r7];refine .mk _ (.refl _) (hH.trans hs) ⟨?_,rfl⟩;have hno:B.any (fun v=>cX m v==some true)=false:=List.any_eq_false.2 fun x hx=>by obtain⟨j,hj,rfl⟩:=List.mem_iff_getElem.1 hx;rw[hc j hj hj];decide
   rw[hmm,hno];cases B.any (fun v=>cX m v==none)<;>rfl
theorem IL(a b:Nat):(if((b:Int)<(a:Int))then(b:Int)else(a:Int))=((min a b:Nat):Int):=by grind
theorem P9(a b:Nat):(if((a:Int)<(b:Int))then(b:Int)else(a:Int))=((max a b:Nat):Int):=by grind
theorem O4(l:List bP)(hl:l.length≤1000000)(gs:List bt)(hf:sr gs)(h:Heap):ai prog 248 [iC l,bM gs] h fun r h' =>r= .i (Dj gs l:Nat)∧h' =h:=by
 have hmt:=fun(m:bP) (G:Heap)=>Bv m gs hf G
 simp only[cK,bM]at hmt;refine aeJ func248 21 [.tmp 4] fun hwf=>?_
 simp only[go_sem,iC,bM,aeA];refine .intro (fun q ρ G=>Ab.Sub h G∧∃i:Nat,i≤l.length∧q=l.length - i∧lk ρ 1=some (.sl (gs.map lS) .no)∧lk ρ 5=some (.i (Dj gs (l.take i):Nat))∧lk ρ 8=some (.sl (l.map cK) .no)∧lk ρ 9=some (.i l.length)∧lk ρ 10=some (.i i)) l.length ?_ ?_
 ·exact akp
 ·rintro q ρ G ⟨hs,i,hi,rfl,r1,r5,r8,r9,r10⟩
  simp only[go_sem,r9,r10];refine .intro (fun e=>?_) (fun e=>?_)
  ·have hlt:i<l.length:=aeH e
   have w1:IntKind.i64.wrap ((i:Int)+1)=((i+1:Nat):Int):=aeW;have hsn:Dj gs (l.take (i+1))=min (Dj gs (l.take i)) (kC gs l[i]):=by grind [Dj,List.take_succ_eq_append_getElem]
   have ix:=fun k=>eu.eq (xs:=l.map cK) (sz:=7) i aeL aeU k
   rw[aeB]at ix;obtain⟨m,em⟩:∃m,l[i]=m:=⟨_,rfl⟩;rw[em]at ix hsn;have hmt1:=hmt m;simp only[cK]at ix;simp only[go_sem,r8,r10,ix];intro i4 h4;simp only[go_sem,r1,r5];refine(hmt1 _).pthen ?_;simp only[go_sem,r10,IL,w1];refine⟨_,?_,hs.trans (.aj h4),i+1,aeK,rfl,?_,?_,?_,?_,?_⟩
   ·omega
   all_goals simp only[go_sem,r1,r8,r9,hsn]
  ·have hge:i=l.length:=by grind
   exact aky
def OV(t:gp):Prop:=t.length≤1000000∧∀x∈t,x.length≤1000000∧∀l∈x,l.length≤1000000
theorem Nk(t:gp)(ht:OV t)(gs:List bt)(hf:sr gs)(h:Heap):ai prog 205 [aW t,bM gs] h fun r h' =>r= .i (ny gs t:Nat)∧h' =h:=by
 have hat:=fun(l:List bP) (hl:l.length≤1000000) (G:Heap)=>O4 l hl gs hf G
 simp only[iC,bM]at hat;have htl:=ht.1;refine aeJ func205 34 [.tmp 4] fun hwf=>?_
 simp only[go_sem,aW,bM,aeA];refine .intro (fun q ρ G=>Ab.Sub h G∧∃i:Nat,i≤t.length∧q=t.length - i∧lk ρ 1=some (.sl (gs.map lS) .no)∧lk ρ 5=some (.i (ny gs (t.take i):Nat))∧lk ρ 11=some (.sl (t.map cE) .no)∧lk ρ 12=some (.i t.length)∧lk ρ 13=some (.i i)) t.length ?_ ?_
 ·exact akp
 ·rintro q ρ G ⟨hs,i,hi,rfl,r1,r5,r11,r12,r13⟩
  simp only[go_sem,r12,r13];refine .intro (fun e=>?_) (fun e=>?_)
  ·have hlt:i<t.length:=aeH e
   have w1:IntKind.i64.wrap ((i:Int)+1)=((i+1:Nat):Int):=aeW;have hsn:ny gs (t.take (i+1))=min (ny gs (t.take i)) (Ao gs t[i]):=by grind [ny,List.take_succ_eq_append_getElem]
   have ix:=fun k=>eu.eq (xs:=t.map cE) (sz:=1) i aeL aeU k
   rw[aeB]at ix;obtain⟨hx1,hx2⟩:=ht.2 t[i] (aeF hlt);obtain⟨x,ex⟩:∃x,t[i]=x:=⟨_,rfl⟩;rw[ex]at ix hsn hx1 hx2;simp only[cE]at ix;simp only[go_sem,r11,r13,ix,aeA];refine .intro (fun q ρ' K=>Ab.Sub h K∧∃n:Nat,n≤x.length∧q=x.length - n∧lk ρ' 1=some (.sl (gs.map lS) .no)∧lk ρ' 5=some (.i (ny gs (t.take i):Nat))∧lk ρ' 8=some (.i (Ao gs (x.take n):Nat))∧lk ρ' 11=some (.sl (t.map cE) .no)∧lk ρ' 12=some (.i t.length)∧lk ρ' 13=some (.i i)∧lk ρ' 17=some (.sl (x.map iC) .no)∧lk ρ' 18=some (.i x.length)∧lk ρ' 19=some (.i n)) x.length ?_ ?_
   ·refine⟨hs,0,aeK,rfl,?_,?_,?_,?_,?_,?_,?_,?_,?_⟩<;>simp only[go_sem,r1,r5,r11,r12,r13]
    rfl
   ·rintro q ρ' K ⟨hs',n,hn,rfl,s1,s5,s8,s11,s12,s13,s17,s18,s19⟩
    simp only[go_sem,s18,s19];refine .intro (fun e=>?_) (fun e=>?_)
    ·have hlt2:n<x.length:=aeH e
     have w2:IntKind.i64.wrap ((n:Int)+1)=((n+1:Nat):Int):=aeW;have hsn2:Ao gs (x.take (n+1))=max (Ao gs (x.take n)) (Dj gs x[n]):=by grind [Ao,List.take_succ_eq_append_getElem]
     have ix2:=fun k=>eu.eq (xs:=x.map iC) (sz:=1) n aeL aeU k
     rw[aeB]at ix2;have hx3:=hx2 x[n] (aeF hlt2);obtain⟨l,el⟩:∃l,x[n]=l:=⟨_,rfl⟩;rw[el]at ix2 hsn2 hx3;simp only[iC]at ix2;simp only[go_sem,s1,s8,s17,s19,ix2];refine(hat l hx3 _).pthen ?_;simp only[go_sem,s19,P9,w2];refine⟨_,?_,hs',n+1,aeK,rfl,?_,?_,?_,?_,?_,?_,?_,?_,?_⟩
     ·omega
     all_goals simp only[go_sem,s1,s5,s11,s12,s13,s17,s18,hsn2]
    ·have hge:n=x.length:=by grind
     subst hge;rw[List.take_length]at s8;simp only[go_sem,s5,s8,s13,IL,w1];refine⟨_,?_,hs',i+1,aeK,rfl,?_,?_,?_,?_,?_⟩
     ·omega
     all_goals simp only[go_sem,s1,s11,s12,hsn]
  ·have hge:i=t.length:=by grind
   exact aky
end Go.Proofs.YtokahfmoollblaaGreatDoor
namespace Go.Bf
open Go Go.Ab Go.Proofs.YtokahfmoollblaaGreatDoor
def Az(o:Bool)(n:Int):AV:=if o then .tup [.i 0,.i 3]else .tup [.i (w64 n),.i 0]
def rO(r:bu×Int):AV:=.tup [aS r.1,.i r.2]
end Go.Bf
namespace Go.Proofs.YtokahfmoollblaaGreatDoor
open Go Go.Ab Go.Bf Tryz
theorem Sk(a b:Int)(h:Heap):ai prog 320 [.i a,.i b] h fun r h' =>r=Az (LP a b) (a+b)∧h' =h:=by
 refine aeJ func320 27 [.tmp 4,.tmp 5] fun hwf=>?_
 cases d1:decide (0<b)<;>cases d2:decide (IntKind.i64.wrap (9223372036854775807 - b)<a)<;>cases d3:decide (b<0)<;>cases d4:decide (a<IntKind.i64.wrap (-9223372036854775808 - b))
 all_goals
  simp only[go_sem,d1,d2,d3,d4];exact .same (.refl _) ⟨by simp only[Az,LP,w64,d1,d2,d3,d4];rfl,rfl⟩
theorem TP(a b:Int)(h:Heap):ai prog 321 [.i a,.i b] h fun r h' =>r=Az (Oh a b) (a - b)∧h' =h:=by
 refine aeJ func321 27 [.tmp 4,.tmp 5] fun hwf=>?_
 cases d1:decide (0<b)<;>cases d2:decide (a<IntKind.i64.wrap (-9223372036854775808+b))<;>cases d3:decide (b<0)<;>cases d4:decide (IntKind.i64.wrap (9223372036854775807+b)<a)
 all_goals
  simp only[go_sem,d1,d2,d3,d4];exact .same (.refl _) ⟨by simp only[Az,Oh,w64,d1,d2,d3,d4];rfl,rfl⟩
theorem Tj(a b:Int)(h:Heap):ai prog 322 [.i a,.i b] h fun r h' =>r=Az (KC a b) (a*b)∧h' =h:=by
 refine aeJ func322 36 [.tmp 4,.tmp 5] fun hwf=>?_
 cases d0:(a !=0)
 ·have e0:a=0:=by grind
  subst e0;cases d1:(b== -1)
  all_goals
   simp only[go_sem,d1];exact .same (.refl _) ⟨by simp[Az,KC,w64,ax],rfl⟩
 have e0:a≠0:=aeL;cases d1:(a== -1)<;>cases d2:(b== -9223372036854775808)<;>cases d3:(b== -1)<;>cases d4:(a== -9223372036854775808)<;>cases d5:(IntKind.i64.wrap ((IntKind.i64.wrap (a*b)).tdiv a) !=b)
 all_goals
  simp only[go_sem,d0,d1,d2,d3,d4,d5,e0];exact .same (.refl _) ⟨by simp only[Az,KC,w64,d0,d1,d2,d3,d4,d5];rfl,rfl⟩
theorem B0(b:Bool)(h:Heap):ai prog 318 [.b b] h fun r h' =>r=aS (dP b)∧h' =h:=by
 refine aeJ func318 8 [.cell 2 44] fun hwf=>?_
 simp only[go_sem];intro i1 h1;simp only[go_sem];intro i2 h2;have n21:=aH h2;have n2:=aB h2;cases b
 all_goals
  simp only[go_sem,ak,n21.symm];exact .mk _ (.refl _) ((((Sub.refl h).put h1 _).put n2 _).put h1 _) ⟨rfl,rfl⟩
theorem Cj(kind:Int)(l:List bu)(hl:l.length≤1000000)(p:Perm)(h:Heap):ai prog 323 [.i kind,.sl (l.map aS) p] h fun r h' =>r= .b (l.all fun v=>v.kind==kind)∧h' =h:=by
 refine aeJ func323 18 [.tmp 4] fun hwf=>?_
 simp only[go_sem,aeA];refine .intro (fun q ρ G=>Ab.Sub h G∧∃i:Nat,i≤l.length∧q=l.length - i∧(∀j (hj:j<i) (h2:j<l.length),(l[j].kind==kind)=true)∧lk ρ 0=some (.i kind)∧lk ρ 7=some (.sl (l.map aS) p)∧lk ρ 8=some (.i l.length)∧lk ρ 9=some (.i i)) l.length ?_ ?_
 ·refine⟨.refl _,0,aeK,rfl,fun j hj=>aeK,?_,?_,?_,?_⟩<;>simp only[go_sem]
 ·rintro q ρ G ⟨hs,i,hi,rfl,hc,r0,r7,r8,r9⟩
  simp only[go_sem,r8,r9];refine .intro (fun e=>?_) (fun e=>?_)
  ·have hlt:i<l.length:=aeH e
   have w1:IntKind.i64.wrap ((i:Int)+1)=((i+1:Nat):Int):=aeW;have ix:=fun k=>eu.eq (xs:=l.map aS) (sz:=3) i aeL aeU k
   rw[aeB]at ix;have hci:=fun(d:(l[i].kind==kind)=true)=>(fun j (hj:j<i+1) (h2:j<l.length)=>(by grind:(l[j].kind==kind)=true))
   have hat:=fun(d:(l[i].kind==kind)=false)=>(List.all_eq_false.2 ⟨l[i],aeF hlt,aeL⟩:(l.all fun v=>v.kind==kind)=false)
   obtain⟨v,ev⟩:∃v,l[i]=v:=⟨_,rfl⟩;rw[ev]at ix hci hat;simp only[aS]at ix;cases d1:(v.kind==kind)
   ·have d2:(v.kind !=kind)=true:=by grind
    simp only[go_sem,r7,r9,ix];intro i4 h4;simp only[go_sem,r0,d2];exact .mk _ (.refl _) (hs.trans (.aj h4)) ⟨aiP,rfl⟩
   ·have d2:(v.kind !=kind)=false:=by grind
    simp only[go_sem,r7,r9,ix];intro i4 h4;simp only[go_sem,r0,r9,d2,w1];refine⟨_,?_,hs.trans (.aj h4),i+1,aeK,rfl,hci d1,?_,?_,?_,?_⟩
    ·omega
    all_goals simp only[go_sem,r0,r7,r8]
  ·have hge:i=l.length:=by grind
   simp only[go_sem];exact .mk _ (.refl _) hs ⟨by rw[List.all_eq_true.2 fun x hx=>ahx];rfl,rfl⟩
theorem He(g:FuncId)(a b:bu)(o:Bool)(n:Int)(hg:∀G,ai prog g [.i a.n,.i b.n] G fun r h' =>r=Az o n∧h' =G)(p:Perm)(h:Heap):
  ai prog 319 [.fn g [],.sl [aS a,aS b] p] h fun r h' =>r=rO (if([a,b].all fun v=>v.kind==2)then AA o n else ou 2)∧h' =h:=by
 have ix0:=fun k=>eu.eq (xs:=[aS a,aS b]) (sz:=3) 0 aeR rfl k
 have ix1:=fun k=>eu.eq (xs:=[aS a,aS b]) (sz:=3) 1 aeR rfl k
 simp only[List.getElem_cons_zero,List.getElem_cons_succ,aS,Int.natCast_zero,Int.natCast_one]at ix0 ix1;have hal:=fun(G:Heap)=>Cj 2 [a,b] aeR p G
 simp only[List.map_cons,List.map_nil,aS]at hal;refine aeJ func319 31 [.cell 4 44,.tmp 5] fun hwf=>?_
 simp only[go_sem,aS];intro i1 h1;simp only[go_sem];refine(hal _).pthen ?_;cases d1:([a,b].all fun v=>v.kind==2)
 ·simp only[go_sem]
  exact ae3
 ·simp only[go_sem]
  refine .quiet aeN ?_;simp only[go_sem,ix0,ix1];cases o
  ·refine⟨_,hg _,?_⟩
   simp only[go_sem,Az];exact ae3
  ·refine⟨_,hg _,?_⟩
   simp only[go_sem,Az];exact ae3
theorem xQ{α:Type}{l:List α}(h:l.length=2):∃a b,l= [a,b]:=by
 match l,h with
 | [a,b],_=>exact⟨a,b,rfl⟩
def GW(op:Int)(l:List bu):Bool:= !(decide (op<6)||decide (13<op)||(l.length:Int) !=(if op==11 then 1 else 2)) && l.all bz
theorem Tg(op:Int)(l:List bu)(hl:l.length≤1000000)(p:Perm)(h:Heap):ai prog 317 [.i op,.sl (l.map aS) p] h fun r h' =>r= .b (GW op l)∧h' =h:=by
 have hvr:=fun(v:bu) (G:Heap)=>fY v G
 simp only[aS]at hvr;refine aeJ func317 32 [.tmp 4] fun hwf=>?_
 cases d11:(op==11)
 all_goals
  have hmm:GW op l=(!(decide (op<6)||decide (13<op)||(l.length:Int) !=(if op==11 then 1 else 2)) && l.all bz):=rfl
  rw[d11]at hmm;simp only[if_true,Bool.false_eq_true,if_false]at hmm;cases d6:decide (op<6)
  case true=>rw[d6]at hmm;simp only[go_sem,d11,d6];exact .same (.refl _) ⟨by rw[hmm];rfl,rfl⟩
  cases d13:decide (13<op)
  case true=>rw[d6,d13]at hmm;simp only[go_sem,d11,d6,d13];exact .same (.refl _) ⟨by rw[hmm];rfl,rfl⟩
  rw[d6,d13]at hmm;simp only[Bool.or_false,Bool.false_or]at hmm;obtain⟨b,eb⟩:∃b,((l.length:Int) !=(if op==11 then 1 else 2))=b:=⟨_,rfl⟩
  rw[d11]at eb;simp only[if_true,Bool.false_eq_true,if_false]at eb;rw[eb]at hmm;cases b
  case true=>simp only[go_sem,d11,d6,d13,aeA,eb];exact .same (.refl _) ⟨by rw[hmm];rfl,rfl⟩
  simp only[Bool.not_false,Bool.true_and]at hmm;simp only[go_sem,d11,d6,d13,aeA,eb];refine .intro (fun q ρ G=>Ab.Sub h G∧∃i:Nat,i≤l.length∧q=l.length - i∧(∀j (hj:j<i) (h2:j<l.length),bz l[j]=true)∧lk ρ 22=some (.sl (l.map aS) p)∧lk ρ 23=some (.i l.length)∧lk ρ 24=some (.i i)) l.length ?_ ?_
  ·refine⟨.refl _,0,aeK,rfl,fun j hj=>aeK,?_,?_,?_⟩<;>simp only[go_sem]
  ·rintro q ρ G ⟨hs,i,hi,rfl,hc,r22,r23,r24⟩
   simp only[go_sem,r23,r24];refine .intro (fun e=>?_) (fun e=>?_)
   ·have hlt:i<l.length:=aeH e
    have w1:IntKind.i64.wrap ((i:Int)+1)=((i+1:Nat):Int):=aeW;have ix:=fun k=>eu.eq (xs:=l.map aS) (sz:=3) i aeL aeU k
    rw[aeB]at ix;have hci:=fun(d:bz l[i]=true)=>(fun j (hj:j<i+1) (h2:j<l.length)=>(by grind:bz l[j]=true))
    have hat:=fun(d:bz l[i]=false)=>(List.all_eq_false.2 ⟨l[i],aeF hlt,aeL⟩:l.all bz=false)
    obtain⟨v,ev⟩:∃v,l[i]=v:=⟨_,rfl⟩;rw[ev]at ix hci hat;simp only[aS]at ix;simp only[go_sem,r22,r24,ix];intro i4 h4;simp only[go_sem];refine(hvr v _).pthen ?_;cases d1:bz v
    ·simp only[go_sem]
     exact .mk _ (.refl _) (hs.trans (.aj h4)) ⟨by rw[hmm,hat d1];rfl,rfl⟩
    ·simp only[go_sem,r24,w1]
     refine⟨_,?_,hs.trans (.aj h4),i+1,aeK,rfl,hci d1,?_,?_,?_⟩
     ·omega
     all_goals simp only[go_sem,r22,r23]
   ·have hge:i=l.length:=by grind
    simp only[go_sem];exact .mk _ (.refl _) hs ⟨by rw[hmm,List.all_eq_true.2 fun x hx=>ahx];rfl,rfl⟩
theorem Mc{op:Int}{l:List bu}(h:GW op l=false):ij op l=ou 1:=by
 unfold ij;rw[if_pos]
 by_cases h1:6≤op∧op≤13
 ·by_cases h2:l.length=if op=11 then 1 else 2
  ·refine .inr (.inr ?_)
   unfold GW at h
   grind
  omega
 omega
theorem Jv{op:Int}{l:List bu}(h:GW op l=true):(6≤op∧op≤13)∧l.all bz=true∧(op=11∧(∃a,l= [a])∨op≠11∧∃a b,l= [a,b]):=by
 unfold GW at h;simp only[Bool.and_eq_true,Bool.not_eq_true',Bool.or_eq_false_iff,decide_eq_false_iff_not]at h;obtain⟨⟨⟨h1,h2⟩,h3⟩,h4⟩:=h;refine⟨aeK,h4,?_⟩
 by_cases e:op=11
 ·subst e
  have h3' :(l.length:Int)=1:=aeL;exact .inl ⟨rfl,List.length_eq_one_iff.1 aeK⟩
 ·have h3' :(l.length:Int)=2:=by grind
  exact .inr ⟨e,xQ aeK⟩
theorem Cn(op:Int)(l:List bu)(hl:l.length≤1000000)(p:Perm)(h:Heap):ai prog 314 [.i op,.sl (l.map aS) p] h fun r h' =>r=rO (ij op l)∧h' =h:=by
 have hmy:=fun G=>Tg op l hl p G
 cases dm:GW op l
 ·rw[dm]at hmy
  refine aeJ func314 111 [.cell 4 44,.tmp 5] fun hwf=>?_
  simp only[go_sem];intro i1 h1;simp only[go_sem];refine(hmy _).pthen ?_;simp only[go_sem];exact .mk _ (.refl _) (.aj h1) ⟨by rw[Mc dm];rfl,rfl⟩
 rw[dm]at hmy;obtain⟨hop,hall,hf⟩:=Jv dm;rcases hf with⟨rfl,a,rfl⟩|⟨e11,a,b,rfl⟩
 ·have ix0:=fun k=>eu.eq (xs:=[aS a]) (sz:=3) 0 aeR rfl k
  simp only[List.getElem_cons_zero,aS,Int.natCast_zero]at ix0;have hal:=fun(G:Heap)=>Cj 1 [a] aeR p G
  simp only[List.map_cons,List.map_nil,aS]at hal hmy;have hc:ij 11 [a]=if(([a].all fun v=>v.kind==1)=false)then ou 2 else(dP (a.n==0),0):=by
   unfold ij;rw[if_neg (by simp[hall])]
   simp
  have htr:=fun G=>B0 (a.n==0) G
  refine aeJ func314 111 [.cell 4 44,.tmp 5] fun hwf=>?_
  simp only[go_sem,List.map_cons,List.map_nil,aS];intro i1 h1;simp only[go_sem];refine(hmy _).pthen ?_;simp only[go_sem];refine(hal _).pthen ?_;cases d1:([a].all fun v=>v.kind==1)
  ·simp only[go_sem]
   exact .mk _ (.refl _) (.aj h1) ⟨by rw[hc,if_pos d1];rfl,rfl⟩
  ·simp only[go_sem,ix0]
   refine(htr _).pthen ?_;simp only[go_sem,aS];exact .mk _ (.refl _) (.aj h1) ⟨by rw[hc,if_neg (by rw[d1];decide)];rfl,rfl⟩
 ·have ix0:=fun k=>eu.eq (xs:=[aS a,aS b]) (sz:=3) 0 aeR rfl k
  have ix1:=fun k=>eu.eq (xs:=[aS a,aS b]) (sz:=3) 1 aeR rfl k
  simp only[List.getElem_cons_zero,List.getElem_cons_succ,aS,Int.natCast_zero,Int.natCast_one]at ix0 ix1;have hal:=fun(G:Heap)=>Cj 1 [a,b] aeR p G
  have hva:bz a=true∧bz b=true:=by simpa using hall
  have hnu:=fun(g:FuncId) (o:Bool) (n:Int) hg (G:Heap)=>He g a b o n hg p G
  simp only[List.map_cons,List.map_nil,aS]at hal hmy hnu;have hle:=fun G=>CJ a b G
  simp only[aS]at hle;have htr:=fun(x:Bool) G=>B0 x G
  have hc:ij op [a,b]=if op=6 then(if a.kind=b.kind then(dP (eqV a b),0)else ou 2)
    else if op=7 then(match nU a b with
     |some x=>(dP x,0)
     |none=>ou 2)
    else if op=8∨op=9∨op=10 then
     (if [a,b].all fun v=>v.kind==2 then(if op=8 then AA (LP a.n b.n) (a.n+b.n)else if op=9 then AA (Oh a.n b.n) (a.n - b.n)else AA (KC a.n b.n) (a.n*b.n))else ou 2)
    else if([a,b].all fun v=>v.kind==1)=false then ou 2
    else if op=12 then(dP (a.n==1 && b.n==1),0)
    else(dP (a.n==1||b.n==1),0):=by
   unfold ij;rw[if_neg (by simp[hall,e11,hop.1,hop.2])]
   simp only[e11,if_false];rfl
  refine aeJ func314 111 [.cell 4 44,.tmp 5] fun hwf=>?_
  simp only[go_sem,List.map_cons,List.map_nil,aS];intro i1 h1;simp only[go_sem];refine(hmy _).pthen ?_;rcases(show op=6∨op=7∨op=8∨op=9∨op=10∨op=12∨op=13 by omega)with rfl|rfl|rfl|rfl|rfl|rfl|rfl
  ·simp only[go_sem]
   refine⟨.of aeN,?_⟩;cases dk:(a.kind !=b.kind)
   case true=>simp only[go_sem,ix0,ix1,dk];exact .mk _ (.refl _) (.aj h1) ⟨by rw[hc,if_pos rfl,if_neg (by simpa using dk)];rfl,rfl⟩
   ·simp only[go_sem,ix0,ix1,dk]
    refine .calls cW [0,1,2,3,4,5,6,7,8,9] (fun _ _ e=>afb) aeN rfl ?_
    simp only[go_sem,ix0,ix1];have htr1:=htr (eqV a b);simp only[eqV]at htr1;refine(htr1 _).pthen ?_;refine⟨fun _ _ e=>afb,?_⟩
    simp only[go_sem,aS];refine⟨fun _ _ e=>afb,?_⟩
    exact .mk _ (.refl _) (.aj h1) ⟨by rw[hc,if_pos rfl,if_pos (by simpa using dk)];rfl,rfl⟩
  ·have hc7:ij 7 [a,b]=(match nU a b with
     |some x=>(dP x,0)
     |none=>ou 2):=by rw[hc];rfl
   simp only[go_sem];refine .quiet aeN ?_;simp only[go_sem,ix0,ix1];refine⟨_,hle _,?_⟩;cases hl:nU a b with
   |none=>
    have e2:zb a b=2:=by simp[zb,hva]
    rw[hl]at hc7;simp only[go_sem,lV,hl,e2];exact .mk _ (.refl _) (.aj h1) ⟨by rw[hc7];rfl,rfl⟩
   |some x=>rw[hl]at hc7;simp only[go_sem,lV,hl];refine(htr x _).pthen ?_;simp only[go_sem,aS];exact .mk _ (.refl _) (.aj h1) ⟨by rw[hc7];rfl,rfl⟩
  ·have hc8:ij 8 [a,b]=if [a,b].all (fun v=>v.kind==2)then AA (LP a.n b.n) (a.n+b.n)else ou 2:=by rw[hc];rfl
   have hg:=hnu 320 _ _ (fun G=>Sk a.n b.n G)
   rw[←hc8]at hg;obtain⟨⟨v,e⟩,ex⟩:∃x,ij 8 [a,b]=x:=⟨_,rfl⟩;exact ajt
  ·have hc8:ij 9 [a,b]=if [a,b].all (fun v=>v.kind==2)then AA (Oh a.n b.n) (a.n - b.n)else ou 2:=by rw[hc];rfl
   have hg:=hnu 321 _ _ (fun G=>TP a.n b.n G)
   rw[←hc8]at hg;obtain⟨⟨v,e⟩,ex⟩:∃x,ij 9 [a,b]=x:=⟨_,rfl⟩;exact ajt
  ·have hc8:ij 10 [a,b]=if [a,b].all (fun v=>v.kind==2)then AA (KC a.n b.n) (a.n*b.n)else ou 2:=by rw[hc];rfl
   have hg:=hnu 322 _ _ (fun G=>Tj a.n b.n G)
   rw[←hc8]at hg;obtain⟨⟨v,e⟩,ex⟩:∃x,ij 10 [a,b]=x:=⟨_,rfl⟩;exact ajt
  ·have hc12:ij 12 [a,b]=if([a,b].all fun v=>v.kind==1)=false then ou 2 else(dP (a.n==1 && b.n==1),0):=by rw[hc];rfl
   simp only[go_sem];refine(hal _).pthen ?_;cases d1:([a,b].all fun v=>v.kind==1)
   ·simp only[go_sem]
    exact .mk _ (.refl _) (.aj h1) ⟨by rw[hc12,if_pos d1];rfl,rfl⟩
   ·rw[if_neg (by rw[d1];decide)]at hc12
    cases da:(a.n==1)<;>cases db:(b.n==1)
    all_goals
     rw[da,db]at hc12;simp only[go_sem,ix0,ix1,da,db];refine(htr _ _).pthen ?_;simp only[go_sem,aS];exact .mk _ (.refl _) (.aj h1) ⟨by rw[hc12];rfl,rfl⟩
  ·have hc13:ij 13 [a,b]=if([a,b].all fun v=>v.kind==1)=false then ou 2 else(dP (a.n==1||b.n==1),0):=by rw[hc];rfl
   simp only[go_sem];refine(hal _).pthen ?_;cases d1:([a,b].all fun v=>v.kind==1)
   ·simp only[go_sem]
    exact .mk _ (.refl _) (.aj h1) ⟨by rw[hc13,if_pos d1];rfl,rfl⟩
   ·rw[if_neg (by rw[d1];decide)]at hc13
    cases da:(a.n==1)<;>cases db:(b.n==1)
    all_goals
     rw[da,db]at hc13;simp only[go_sem,ix0,ix1,da,db];refine(htr _ _).pthen ?_;simp only[go_sem,aS];exact .mk _ (.refl _) (.aj h1) ⟨by rw[hc13];rfl,rfl⟩
end Go.Proofs.YtokahfmoollblaaGreatDoor
namespace Go.Bf
open Go Go.Ab Go.Proofs.YtokahfmoollblaaGreatDoor
def bQ(x:jN):AV:=.agg [.sl (x.bag.map aS) .no,.i x.v.kind,.i x.v.n,.s x.v.s,.i x.e]
end Go.Bf
namespace Go.Proofs.YtokahfmoollblaaGreatDoor
open Go Go.Ab Go.Bf Tryz
variable {gs:List bt}{op:Int}{val:bu}{attr:qD}{l:List jN}
theorem S4(x:jN)(n:Int)(h:Heap):ai prog 277 [bQ x,.i n] h fun r h' =>r= .b (isI x n)∧h' =h:=by
 refine aeJ func277 15 [.tmp 4] fun hwf=>?_
 simp only[go_sem,bQ];exact ajp
theorem PF(x:jN)(n:Int)(h:Heap):ai prog 277 [.agg [.sl [] .full,.i x.v.kind,.i x.v.n,.s x.v.s,.i x.e],.i n] h fun r h' =>r= .b (isI x n)∧h' =h:=by
 refine aeJ func277 15 [.tmp 4] fun hwf=>?_
 simp only[go_sem];exact ajp
theorem vU(b:Bool)(h:Heap):ai prog 312 [.b b] h fun r h' =>r=bQ (jo b)∧h' =h:=by
 refine aeJ func312 10 [.cell 2 371] fun hwf=>?_
 simp only[go_sem];intro i1 h1;simp only[go_sem];intro i2 h2;have n21:=aH h2;have n2:=aB h2;cases b
 all_goals
  simp only[go_sem,ak,n21.symm];refine .mk (bQ (jo _)) ?_ ((((Sub.refl h).put h1 _).put n2 _).put h1 _) ⟨rfl,rfl⟩;refine .agg _ _ rfl fun i a b=>?_
  rcases i with _|_|_|_|_|i
  ·exact aht
  all_goals first|exact .refl _|(simp at a;omega)
theorem Ge(op:Int)(h:Heap):ai prog 298 [.i op] h fun r h' =>r= .i (opsOf op:Nat)∧h' =h:=by
 refine aeJ func298 11 [.tmp 2] fun hwf=>?_
 cases d1:(op==1)
 case true=>simp only[go_sem,d1];exact .same (.refl _) ⟨by rw[opsOf,if_pos (.inl aeL)];rfl,rfl⟩
 cases d2:(op==2)
 case true=>simp only[go_sem,d1,d2];exact .same (.refl _) ⟨by rw[opsOf,if_pos (.inr aeL)];rfl,rfl⟩
 have e1:¬(op=1∨op=2):=aeL;cases d3:(op==3)
 case true=>simp only[go_sem,d1,d2,d3];exact .same (.refl _) ⟨by rw[opsOf,if_neg e1,if_pos (.inl aeL)];rfl,rfl⟩
 cases d4:(op==4)
 case true=>simp only[go_sem,d1,d2,d3,d4];exact .same (.refl _) ⟨by rw[opsOf,if_neg e1,if_pos (.inr (.inl aeL))];rfl,rfl⟩
 cases d5:(op==11)
 case true=>simp only[go_sem,d1,d2,d3,d4,d5];exact .same (.refl _) ⟨by rw[opsOf,if_neg e1,if_pos (.inr (.inr aeL))];rfl,rfl⟩
 have e2:¬(op=3∨op=4∨op=11):=aeL;simp only[go_sem,d1,d2,d3,d4,d5];exact .same (.refl _) ⟨by rw[opsOf,if_neg e1,if_neg e2];rfl,rfl⟩
theorem GK(vs:List bu)(hl:vs.length≤1000000000)(x:bu)(p:Perm)(h:Heap):
  ai prog 324 [.sl (vs.map aS) p,aS x] h fun r h' =>r= .i (ixD (fun y=>eqV x y) vs)∧h' =h:=by
 refine aeJ func324 19 [.tmp 4] fun hwf=>?_
 simp only[go_sem,aS];intro i1 h1;simp only[go_sem,aeA];refine .intro (fun m ρ G=>G=upd h i1 (some (.obj [.i x.kind,.i x.n,.s x.s] 44))∧∃i:Nat,i≤vs.length∧m=vs.length - i∧(∀j (hj:j<i) (h2:j<vs.length),eqV x vs[j]=false)∧lk ρ 0=some (.sl (vs.map aS) p)∧lk ρ 3=some (.ptr i1 0)∧lk ρ 7=some (.i vs.length)∧lk ρ 8=some (.i i)) vs.length ?_ ?_
 ·refine⟨rfl,0,aeK,rfl,fun j hj=>aeK,?_,?_,?_,?_⟩<;>simp only[go_sem]
 ·rintro m ρ G ⟨rfl,i,hi,rfl,hc,r0,r3,r7,r8⟩
  simp only[go_sem,r7,r8];refine .intro (fun e=>?_) (fun e=>?_)
  ·have hlt:i<vs.length:=aeH e
   have w1:IntKind.i64.wrap ((i:Int)+1)=((i+1:Nat):Int):=aeW;have ix:=fun k=>eu.eq (xs:=vs.map aS) (sz:=3) i aeL aeU k
   rw[aeB]at ix;have hci:=fun(d:eqV x vs[i]=false)=>(fun j (hj:j<i+1) (h2:j<vs.length)=>(by grind:eqV x vs[j]=false))
   have hat:=fun(d:eqV x vs[i]=true)=>oD (q:=fun y=>eqV x y) hlt d fun j hj=>hc j hj aeK
   obtain⟨v,ev⟩:∃v,vs[i]=v:=⟨_,rfl⟩;rw[ev]at ix hci hat;simp only[aS]at ix;simp only[go_sem,r0,r3,r8];refine⟨.of aeN,?_⟩;cases d1:eqV x v
   ·have d2:=d1
    simp only[eqV]at d2;simp only[go_sem,r8,ix,d2,w1];refine⟨_,?_,rfl,i+1,aeK,rfl,hci d1,?_,?_,?_,?_⟩
    ·omega
    all_goals simp only[go_sem,r0,r3,r7]
   ·have d2:=d1
    simp only[eqV]at d2;simp only[go_sem,ix,d2];exact .mk _ (.refl _) (.aj h1) ⟨aiP,rfl⟩
  ·have hge:i=vs.length:=by grind
   simp only[go_sem];exact .mk _ (.refl _) (.aj h1) ⟨aff,rfl⟩
theorem O5{vs:List bu}{x:bu}:decide ((0:Int)≤ixD (fun y=>eqV x y) vs)=vs.any fun v=>eqV v x:=by
 have hsy:(fun v=>eqV v x)=fun v=>eqV x v:=by simp[funext,eqV,BEq.comm]
 rw[ve,hsy]
theorem QW(vs:List bu)(hl:vs.length≤1000000000)(x:bu)(p:Perm)(h:Heap):ai prog 313 [.sl (vs.map aS) p,aS x] h fun r h' =>r= .b (vs.any fun v=>eqV v x)∧h' =h:=by
 have h1:∀G,ai prog 316 [.sl (vs.map aS) p,aS x] G fun r h' =>r= .b (vs.any fun v=>eqV v x)∧h' =G:=fun G=>by
  have hq:=fun K=>GK vs hl x p K
  refine aeJ func316 9 [.tmp 4] fun hwf=>?_
  simp only[go_sem,aS];intro i1 h1;simp only[go_sem];refine(hq _).pthen ?_;simp only[go_sem,O5];exact ae3
 refine aeJ func313 8 [.tmp 4] fun hwf=>?_
 simp only[go_sem,aS];intro i1 h1';simp only[go_sem];refine(h1 _).pthen ?_;simp only[go_sem];exact .mk _ (.refl _) (.aj h1') ⟨rfl,rfl⟩
theorem lU{L:List AV}{x:jN}(hL:L=x.bag.map aS)(q:Perm):Weak (.agg [.sl L q,.i x.v.kind,.i x.v.n,.s x.v.s,.i x.e]) (bQ x):=by
 subst hL;refine .agg _ _ rfl fun i a b=>?_
 rcases i with _|_|_|_|_|i
 ·exact aht
 all_goals first|exact .refl _|(simp at a;omega)
theorem ur(op:Int):opsOf op≤2:=by grind [opsOf]
theorem vE{x:jN}(h1:op≠1)(h2:op≠2)(hno:¬((op=12∨op=13)∧(l.any fun x=>isI x (op - 12))=true))(hx:l.find? (fun x=>x.e !=0)=some x):lX gs ⟨op,val,attr⟩ l=⟨[],aq,x.e⟩:=by simp_all [lX,if_neg]
theorem vD(h1:op≠1)(h2:op≠2)(hno:¬((op=12∨op=13)∧(l.any fun x=>isI x (op - 12))=true))(hx:l.find? (fun x=>x.e !=0)=none):lX gs ⟨op,val,attr⟩ l=(if op=3 then(match (l.headD ⟨[],aq,0⟩).bag with
    | [v]=>⟨[],v,0⟩
    |_=>⟨[],aq,4⟩)
   else if op=4 then⟨[],⟨2,(l.headD ⟨[],aq,0⟩).bag.length,[]⟩,0⟩
   else if op=5 then jo ((l.headD ⟨[],aq,0⟩).bag.any fun v=>eqV v (l.getD 1 ⟨[],aq,0⟩).v)
   else Go.Bf.AQ (ij op (l.map (·.v)))):=by
 unfold lX;simp only[if_neg h1,if_neg h2,if_neg hno,hx]
 all_goals rfl
theorem Qb{h:Heap}{y:AV}(n:aQ)(hop:1≤n.op∧n.op≤13)(l:List jN)(hb:Rd h 5 y (l.map bQ))(hl:l.length=opsOf n.op)(hbag:∀x∈l,x.bag.length≤1000000)(gs:List bt)(hf:sr gs):
  ai prog 299 [cG n,y,bM gs] h fun r h' =>r=bQ (lX gs n l)∧h' =h:=by
 obtain⟨op,val,attr⟩:=n;simp only at hop hl;have hl2:l.length≤2:=by rw[hl];exact ur op
 have uV:(U 44).sz=3:=aeX;have hg:=fun G=>Iv gs attr.cat attr.name attr.must (by have:=hf.1;omega) hf.2 G
 simp only[bM]at hg;refine aeJ func299 122 [.cell 6 371] fun hwf=>?_
 simp only[go_sem,cG,bM];intro i3 h3;simp only[go_sem];intro i6 h6;have n63:=aH h6;have n6' :=aB h6;obtain⟨H0,eH⟩:∃H0,upd (upd h i3 (some (.obj [.i op,.i val.kind,.i val.n,.s val.s,.i attr.cat,.s attr.name,.b attr.must] 222))) i6 (some (.obj [.sl [] .full,.i 0,.i 0,.s [],.i 0] 371))=H0:=⟨_,rfl⟩;have hH0:Ab.Sub h H0:=ahN;have g3:H0 i3=some (.obj [.i op,.i val.kind,.i val.n,.s val.s,.i attr.cat,.s attr.name,.b attr.must] 222):=by rw[←eH,ag _ _ n63.symm,ah]
 have g6:H0 i6=some (.obj [.sl [] .full,.i 0,.i 0,.s [],.i 0] 371):=agh;rw[eH];clear eH;cases d1:(op==1)
 case true=>have e1:op=1:=ahO;simp only[go_sem,d1,g3,g6];exact .mk (bQ ⟨[],val,0⟩) (lU (x:=⟨[],val,0⟩) rfl _) (hH0.put n6' _) ⟨by unfold lX;simp only[e1,if_true],rfl⟩
 have hp1' :op≠1:=ahO;cases d2:(op==2)
 case true=>
  have e2:op=2:=by simpa using d2
  simp only[go_sem,d1,d2,g3];refine(hg _).pthen ?_
  by_cases hh:yq gs attr= []∧attr.must=true
  ·have hh2:Go.Bf.getD gs attr.cat attr.name= []∧attr.must=true:=hh
   simp only[go_sem,J7,if_pos hh2,g6];exact .mk (bQ ⟨[],aq,4⟩) (lU (x:=⟨[],aq,4⟩) rfl _) (hH0.put n6' _) ⟨by unfold lX;simp only[e2,if_neg (show¬(2:Int)=1 by decide),if_true,if_pos hh],rfl⟩
  ·have hh2:¬(Go.Bf.getD gs attr.cat attr.name= []∧attr.must=true):=hh
   simp only[go_sem,J7,if_neg hh2,g6];exact .mk (bQ ⟨yq gs attr,aq,0⟩) (lU (x:=⟨yq gs attr,aq,0⟩) rfl _) (hH0.put n6' _) ⟨by unfold lX;simp only[e2,if_neg (show¬(2:Int)=1 by decide),if_true,if_neg hh],rfl⟩
 have hp2' :op≠2:=by simpa using d2
 have his:=fun(x:jN) (m:Int) (G:Heap)=>S4 x m G
 simp only[bQ]at his;cases d12:(op==12)
 case true=>
  have e12:op=12:=by simpa using d12
  have htr:=fun G=>vU false G
  simp only[bQ]at htr;obtain⟨a,b,hab⟩:∃a b,l= [a,b]:=xQ (by rw[hl,e12];rfl)
  have wk:IntKind.i64.wrap (op - 12)=0:=ahu;have han:(l.any fun x=>isI x (op - 12))=(isI a 0||isI b 0):=by rw[hab,e12];simp
  have hb0:l.map bQ= [bQ a,bQ b]:=by rw[hab];rfl
  have q3:(op==3)=false:=ahu;have q4:(op==4)=false:=ahu;have q5:(op==5)=false:=ahu;have hbH:=hb.sub hH0;simp only[go_sem,d2,d1,d12,g3,wk];refine hbH.idx (e:=371) 0 rfl ag1 aeX aeO fun p hp1=>?_
  have hld:=hp1.all (U:=U) (ty:=371) aeX afY afY;simp only[go_sem,hld,hb0,List.getElem_cons_zero,bQ];refine(his a 0 _).pthen ?_;cases da:isI a 0
  ·simp only[go_sem]
   refine hbH.idx (e:=371) 1 rfl ag1 aeX aeO fun p hp1=>?_
   have hld:=hp1.all (U:=U) (ty:=371) aeX afz afz;simp only[go_sem,hld,hb0,List.getElem_cons_succ,List.getElem_cons_zero,bQ];refine(his b 0 _).pthen ?_;cases db:isI b 0
   ·exact aiZ
   ·simp only[go_sem]
    refine(htr _).pthen ?_;simp only[go_sem,g6];exact .mk (bQ (jo false)) (lU (x:=(jo false)) rfl _) (hH0.put n6' _) ⟨by unfold lX;rw[han,da,db];simp[e12]<;>rfl,rfl⟩
  ·simp only[go_sem]
   refine(htr _).pthen ?_;simp only[go_sem,g6];exact .mk (bQ (jo false)) (lU (x:=(jo false)) rfl _) (hH0.put n6' _) ⟨by unfold lX;rw[han,da];simp[e12]<;>rfl,rfl⟩
 have hn12:op≠12:=by simpa using d12
 cases d13:(op==13)
 case true=>
  have e12:op=13:=by simpa using d13
  have htr:=fun G=>vU true G
  simp only[bQ]at htr;obtain⟨a,b,hab⟩:∃a b,l= [a,b]:=xQ (by rw[hl,e12];rfl)
  have wk:IntKind.i64.wrap (op - 12)=1:=ahu;have han:(l.any fun x=>isI x (op - 12))=(isI a 1||isI b 1):=by rw[hab,e12];simp
  have hb0:l.map bQ= [bQ a,bQ b]:=by rw[hab];rfl
  have q3:(op==3)=false:=ahu;have q4:(op==4)=false:=ahu;have q5:(op==5)=false:=ahu;have hbH:=hb.sub hH0;simp only[go_sem,d1,d2,d12,d13,g3,wk];refine hbH.idx (e:=371) 0 rfl ag1 aeX aeO fun p hp1=>?_
  have hld:=hp1.all (U:=U) (ty:=371) aeX afY afY;simp only[go_sem,hld,hb0,List.getElem_cons_zero,bQ];refine(his a 1 _).pthen ?_;cases da:isI a 1
  ·simp only[go_sem]
   refine hbH.idx (e:=371) 1 rfl ag1 aeX aeO fun p hp1=>?_
   have hld:=hp1.all (U:=U) (ty:=371) aeX afz afz;simp only[go_sem,hld,hb0,List.getElem_cons_succ,List.getElem_cons_zero,bQ];refine(his b 1 _).pthen ?_;cases db:isI b 1
   ·exact aiZ
   ·simp only[go_sem]
    refine(htr _).pthen ?_;simp only[go_sem,g6];exact .mk (bQ (jo true)) (lU (x:=(jo true)) rfl _) (hH0.put n6' _) ⟨by unfold lX;rw[han,da,db];simp[e12]<;>rfl,rfl⟩
  ·simp only[go_sem]
   refine(htr _).pthen ?_;simp only[go_sem,g6];exact .mk (bQ (jo true)) (lU (x:=(jo true)) rfl _) (hH0.put n6' _) ⟨by unfold lX;rw[han,da];simp[e12]<;>rfl,rfl⟩
 have hn13:op≠13:=by simpa using d13
 have hno:¬((op=12∨op=13)∧(l.any fun x=>isI x (op - 12))=true):=fun hh=>hh.1.elim hn12 hn13
 simp only[go_sem,d1,d2,d12,d13,g3,hb.len,aeA];refine .intro (fun m ρ H=>∃(i:Nat) (z:AV),Acc U 44 H0 H z ((l.take i).map fun x=>aS x.v)∧i≤l.length∧m=l.length - i∧(∀j (h1:j<l.length),j<i→l[j].e=0)∧lk ρ 1=some y∧lk ρ 3=some (.ptr i3 0)∧lk ρ 6=some (.ptr i6 0)∧lk ρ 10=some z∧lk ρ 55=some y∧lk ρ 56=some (.i l.length)∧lk ρ 57=some (.i i)) l.length ?_ ?_
 ·refine⟨0,.sl [] .full,.full (.refl _),aeK,rfl,fun j _ hj=>aeK,?_,?_,?_,?_,?_,?_,?_⟩<;>simp only[go_sem]
 ·rintro m ρ H ⟨i,z,hz,hi,rfl,hc,r1,r3,r6,r10,r55,r56,r57⟩
  have hsH:=hH0.trans hz.1;have hbH:=hb.sub hsH;have k3:=hz.1 _ _ g3;have k6:=hz.1 _ _ g6;simp only[go_sem,r56,r57];refine .intro (fun e=>?_) (fun e=>?_)
  ·have hlt:i<l.length:=aeH e
   have w1:=aeG i aeK;have hsn:(l.take (i+1)).map (fun x=>aS x.v)=(l.take i).map (fun x=>aS x.v)++ [aS l[i].v]:=af2
   simp only[go_sem,r55,r57];refine hbH.idx (e:=371) i rfl afc aeX aeO fun p hp1=>?_
   have hld:=hp1.all (U:=U) (ty:=371) aeX afu afu;obtain⟨x,ex⟩:∃x,l[i]=x:=⟨_,rfl⟩;rw[ex]at hsn;simp only[go_sem,hld,aeB,ex,bQ];intro i12 h12;have n126:i12≠i6:=fun e=>agP
   cases dx:(x.e !=0)
   ·have dx' :x.e=0:=by simpa using dx
    simp only[go_sem,r10,dx];refine(hz.sub (.aj h12)).app (zs:=[aS x.v]) aeP aeP (fun k hk=>hk) af7 agp ae4 fun z' H' hz' kp=>?_
    simp only[go_sem,r57,w1];refine⟨_,?_,i+1,z',by rw[hsn];exact hz',aeK,rfl,fun j h1 hj=>?_,?_,?_,?_,?_,?_,?_,?_⟩
    ·omega
    ·by_cases hji:j=i
     ·subst hji;rw[ex];exact dx'
     ·exact hc j h1 aeK
    all_goals simp only[go_sem,r1,r3,r6,r55,r56]
   ·have hfi:l.find? (fun x=>x.e !=0)=some x:=by rw[←ex];exact List.find?_eq_some_iff_getElem.2 ⟨by rw[ex];exact dx,i,hlt,rfl,fun j hj=>aij⟩
    simp only[go_sem,r6,dx,ak,n126.symm,k6];exact .mk (bQ ⟨[],aq,x.e⟩) (lU (x:=⟨[],aq,x.e⟩) rfl _) ((hsH.trans (.aj h12)).put n6' _) ⟨ah5,rfl⟩
  ·have hge:i=l.length:=by have:=aeD e;omega
   subst hge;have hfi:l.find? (fun x=>x.e !=0)=none:=List.find?_eq_none.2 fun x hx=>by obtain⟨j,hj,rfl⟩:=List.mem_iff_getElem.1 hx;rw[hc j hj hj];decide
   have hnd:=vD (gs:=gs) (val:=val) (attr:=attr) hp1' hp2' hno hfi;rw[List.take_length]at hz;obtain⟨qz,eqz⟩:=hz.row;subst eqz;have hcl:=fun G=>Cn op (l.map (·.v)) ahY qz G
   rw[List.map_map]at hcl;have hcl:∀G,ai prog 314 [.i op,.sl (l.map fun x=>aS x.v) qz] G fun r h' =>r=rO (ij op (l.map (·.v)))∧h' =G:=hcl
   cases d3:(op==3)
   case true=>
    have e3:op=3:=aiI;obtain⟨a,ha⟩:∃a,l= [a]:=List.length_eq_one_iff.1 (by rw[hl,e3];rfl)
    have hb0:l.map bQ= [bQ a]:=by rw[ha];rfl
    simp only[e3,if_true,ha,List.headD_cons]at hnd;simp only[go_sem,r1,r3,k3,d3];refine hbH.idx (e:=371) 0 rfl ag1 aeX aeO fun p hp1=>?_
    (try simp only[go_sem])
    refine hp1.field (f:=0) (off:=0) (t:=177) rfl afE fun p2 hp2=>?_
    have hld:=hp2.part (U:=U) (ty:=177) afE afP;simp only[hb0,List.getElem_cons_zero,bQ,AV.cells]at hld;cases db:((a.bag.length:Int) !=1)
    ·have hb1:(a.bag.length:Int)=1:=by simpa using db
     obtain⟨v,hv⟩:=List.length_eq_one_iff.1 (show a.bag.length=1 by omega)
     rw[hv]at hnd hld;have iv:=fun K=>eu.eq (xs:=[aS v]) (sz:=3) 0 aeR rfl K
     simp only[List.getElem_cons_zero,aS,Int.natCast_zero]at iv;simp only[go_sem,r1,hld,List.map_cons,List.map_nil,aS];refine hbH.idx (e:=371) 0 rfl ag1 aeX aeO fun p hp1=>?_
     (try simp only[go_sem])
     refine hp1.field (f:=0) (off:=0) (t:=177) rfl afE fun p2 hp2=>?_
     have hld:=hp2.part (U:=U) (ty:=177) afE afP;simp only[hb0,List.getElem_cons_zero,bQ,AV.cells,hv,List.map_cons,List.map_nil,aS]at hld;simp only[go_sem,hld,iv,r6,k6];exact .mk (bQ ⟨[],v,0⟩) (lU (x:=⟨[],v,0⟩) rfl _) (hsH.put n6' _) ⟨by rw[e3,ha,hnd]<;>rfl,rfl⟩
    ·simp only[go_sem,hld,aeA,db,r6,k6]
     refine .mk (bQ ⟨[],aq,4⟩) (lU (x:=⟨[],aq,4⟩) rfl _) (hsH.put n6' _) ⟨?_,rfl⟩;rw[e3,ha,hnd]
     congr 1
     split
     ·rename_i v hv;rw[hv]at db;simp at db
     ·rfl
   cases d4:(op==4)
   case true=>
    have e4:op=4:=by simpa using d4
    obtain⟨a,ha⟩:∃a,l= [a]:=List.length_eq_one_iff.1 (by rw[hl,e4];rfl)
    have hb0:l.map bQ= [bQ a]:=by rw[ha];rfl
    simp only[go_sem,r1,r3,k3,d3,d4];refine hbH.idx (e:=371) 0 rfl ag1 aeX aeO fun p hp1=>?_
    (try simp only[go_sem])
    refine hp1.field (f:=0) (off:=0) (t:=177) rfl afE fun p2 hp2=>?_
    have hld:=hp2.part (U:=U) (ty:=177) afE afP;simp only[hb0,List.getElem_cons_zero,bQ,AV.cells]at hld;simp only[go_sem,hld,aeA,r6,k6];exact .mk (bQ ⟨[],⟨2,a.bag.length,[]⟩,0⟩) (lU (x:=⟨[],⟨2,a.bag.length,[]⟩,0⟩) rfl _) (hsH.put n6' _) ⟨by rw[hnd,e4,ha];rfl,rfl⟩
   cases d5:(op==5)
   case true=>
    have e5:op=5:=by simpa using d5
    obtain⟨a,b,hab⟩:∃a b,l= [a,b]:=xQ (by rw[hl,e5];rfl)
    have hb0:l.map bQ= [bQ a,bQ b]:=by rw[hab];rfl
    have hvh:=fun G=>QW a.bag (by have:=hbag a (by rw[hab];simp);omega) b.v .no G
    simp only[aS]at hvh;have htr:=fun G=>vU (a.bag.any fun v=>eqV v b.v) G
    simp only[bQ]at htr;simp only[go_sem,r3,k3,d3,d4,d5];refine .calls h [0,1,2,3,4,5,6,7,8,9,10] hsH aeN rfl ?_;simp only[go_sem,r1];refine hb.idx (e:=371) 0 rfl ag1 aeX aeO fun p hp1=>?_
    simp only[go_sem];refine hp1.field (f:=0) (off:=0) (t:=177) rfl afE fun p2 hp2=>?_
    have hld:=hp2.part (U:=U) (ty:=177) afE afP;simp only[hb0,List.getElem_cons_zero,bQ,AV.cells]at hld;simp only[go_sem,hld,r1];refine hb.idx (e:=371) 1 rfl ag1 aeX aeO fun p hp3=>?_
    simp only[go_sem];refine hp3.field (f:=1) (off:=1) (t:=44) rfl afE fun p4 hp4=>?_
    have hld4:=hp4.part (U:=U) (ty:=44) afE (by simp only[go_sem,hb0,List.getElem_cons_succ,List.getElem_cons_zero];exact aez rfl)
    simp only[hb0,List.getElem_cons_succ,List.getElem_cons_zero,bQ,AV.cells]at hld4;simp only[go_sem,hld4];refine(hvh _).pthen ?_;refine⟨hsH,?_⟩;simp only[go_sem];refine(htr _).pthen ?_;refine⟨hsH,?_⟩;simp only[go_sem,r6,k6];refine⟨hsH.put n6' _,?_⟩;exact .mk (bQ (jo (a.bag.any fun v=>eqV v b.v))) (lU (x:=(jo (a.bag.any fun v=>eqV v b.v))) rfl _) (hsH.put n6' _) ⟨by rw[hnd,e5,hab];rfl,rfl⟩
   obtain⟨⟨v,e⟩,ev⟩:∃x,ij op (l.map (·.v))=x:=⟨_,rfl⟩
   rw[ev]at hcl;simp only[go_sem,r3,r10,k3,d3,d4,d5];refine(hcl _).pthen ?_;simp only[go_sem,rO,aS];intro i13 h13;have n136:i13≠i6:=fun e=>air
   simp only[go_sem,r6,ak,n136.symm,k6];exact .mk (bQ ⟨[],v,e⟩) (lU (x:=⟨[],v,e⟩) rfl _) ((hsH.trans (.aj h13)).put n6' _) ⟨by rw[hnd];simp only[if_neg (show¬op=3 by simpa using d3),if_neg (show¬op=4 by simpa using d4),if_neg (show¬op=5 by simpa using d5)];rw[ev]<;>rfl,rfl⟩
end Go.Proofs.YtokahfmoollblaaGreatDoor
namespace Go.Bf
open Go Go.Ab Go.Proofs.YtokahfmoollblaaGreatDoor
variable {l:List aT}{alg op:Int}{gs:List bt}{bs bs' z:List Bool}
theorem CZ{t:gp}(h:me t=0):OV t:=by
 obtain⟨h1,h2⟩:=BY h;refine⟨aeK,fun x hx=>?_⟩
 grind [A2,AY]
theorem M6.turn{m:aT}(h:M6 m):M6 (Fy m):=by exact ajz
theorem M6.indet{m:aT}(h:M6 m):M6 (gX m):=by exact ajz
theorem M6.first(h:∀m∈l,M6 m):M6 (firstM l):=by
 unfold firstM;cases hf:l.find? fun m=>decide (m≠naM)with
 |none=>decide
 |some m=>grind
theorem M6.only:∀(l:List aT) (j:aT),(∀m∈l,M6 m)→M6 j→M6 (oZ l j)
 | [],j,_,hj=>hj
 |m::r,j,h,hj=>by
  simp only[oZ];split
  ·decide
  ·refine M6.only r _ aeL ?_
   split
   ·grind
   ·split
    ·decide
    omega
theorem Ic(h:∀m∈l,M6 m):M6 (iu alg l):=by
 unfold iu;split
 ·exact IU _
 ·split
  ·exact M6.turn (IU _)
  ·split
   ·exact .first h
   ·split
    ·exact .only _ _ h aeO
    ·split
     ·split<;>decide
     ·split
      ·split<;>decide
      decide
theorem Bb(r:cV)(t c:Nat):M6 (nQ r t c).1:=by
 unfold nQ;cases r.deny
 all_goals
  simp only[if_true,Bool.false_eq_true,if_false];split
  ·decide
  ·split
   ·decide
   ·first|(show M6 bg;decide)|(show M6 cJ;decide)
theorem PI(alg:Int)(obls:List cC)(t:Nat){parts:List j3}(h:∀x∈parts,M6 x.1):M6 (qo alg obls t parts).1:=by
 have hc:M6 (iu alg (parts.map (·.1))):=Ic fun m hm=>by grind
 unfold qo;simp only;split
 ·decide
 ·split
  ·exact hc.indet
  ·split
   ·exact hc
   ·exact hc
mutual
theorem xM(gs:List bt):∀p:bE,M6 (fK gs p).1
 |.mk id set alg tgt rules kids obls=>by
  have ih:=DR gs kids;simp only[fK];split
  ·decide
  ·refine PI alg obls _ fun x hx=>?_
   rcases List.mem_append.1 hx with hx|hx
   ·obtain⟨r,_,rfl⟩:=List.mem_map.1 hx
    exact Bb _ _ _
   ·exact ih x hx
theorem DR(gs:List bt):∀l:List bE,∀x∈nc gs l,M6 x.1
 | [],x,hx=>by simp[nc]at hx
 |k::r,x,hx=>by
  have h1:=xM gs k;have h2:=DR gs r;simp only[nc,List.mem_cons]at hx;rcases hx with rfl|hx
  ·exact h1
  ·exact h2 x hx
end
theorem LW(h:Q1 gs):sr gs:=⟨by have:=h.len;omega,fun g hg=>by have:=(h.each g hg).2.2.2.1;omega⟩
theorem Iq{α:Type}(B:Nat):∀(L:List (List α)),(∀x∈L,x.length≤B)→L.flatten.length≤L.length*B
 | [],_=>aeR
 |x::L,h=>by
  have h1:=h x aeR;have h2:=Iq B L fun y hy=>h y aeL
  rw[List.flatten_cons,aeE,List.length_cons,Nat.add_mul];omega
theorem uz{m:aT}{parts:List j3}{B:Nat}(hp:∀x∈parts,x.2.length≤B)(hn:parts.length≤32):(eY alg m parts).length≤32*B+B:=by
 unfold eY;split
 ·cases hf:parts.find? fun x=>x.1==m with
  |none=>simp
  |some x=>grind
 ·have h1:=Iq B (((parts.filter fun x=>x.1==m).map (·.2))) fun x hx=>by grind
  have h2:((parts.filter fun x=>x.1==m).map (·.2)).length≤32:=by grind
  have:=Nat.mul_le_mul_right B h2;omega
theorem lD(l:List cC)(m:aT):(eV l m).length≤l.length:=List.length_filter_le _ _
theorem Ba(r:cV)(t c:Nat):(nQ r t c).2.length≤r.obls.length:=by
 unfold nQ
 all_goals
  grind [lD]
def oB:Nat→Nat
 |0=>8
 |n+1=>8+33*oB n
theorem Ww(n:Nat):8≤oB n:=by
 cases n with
 |zero=>decide
 |succ n=>grind [oB]
theorem Ct(gs:List bt):∀(n d:Nat) (p:bE),d+n=5→mK d p→(fK gs p).2.length≤oB n
 |0,d,.mk id set alg tgt rules kids obls,hd,h=>by grind [mK]
 |n+1,d,.mk id set alg tgt rules kids obls,hd,h=>by
  simp only[mK,ri]at h;obtain⟨_,_,_,_,_,_,g2,g3,g4,g5,g6,g7⟩:=h;have hob:=(ld g3).1;have h8:=Ww n;simp only[fK];split
  ·simp
  ·unfold qo
   simp only;split
   ·simp
   ·split
    ·simp
    ·split
     ·simp
     ·have h1:=uz (alg:=alg) (m:=iu alg ((rules.map (iK gs)++nc gs kids).map (·.1))) (parts:=rules.map (iK gs)++nc gs kids) (B:=oB n) (fun x hx=>by
       rcases List.mem_append.1 hx with hx|hx
       ·obtain⟨r,hr,rfl⟩:=List.mem_map.1 hx
        have:=Ba r (ny gs r.tgt) (qO gs r.cond);have:=(ld (g6 r hr).2.2.2).1
        show(nQ r (ny gs r.tgt) (qO gs r.cond)).2.length≤_
        omega
       ·rw[tY]at hx
        obtain⟨k,hk,rfl⟩:=List.mem_map.1 hx;exact Ct gs n (d+1) k aeK (g7 k hk)) (by grind [aeE,aeA,tY])
      have h2:=lD obls (iu alg ((rules.map (iK gs)++nc gs kids).map (·.1)))
      simp only[aeE,oB];omega
theorem DS(gs:List bt){p:bE}(h:mK 1 p):(fK gs p).2.length≤10000000:=Nat.le_trans (Ct gs 4 1 p rfl h) aeO
theorem Lw{w:List Bool}(hw:iU op=some w):w.length=opsOf op∧1≤op∧op≤13:=by
 have h1:1≤op∧op≤13:=by grind [iU]
 refine⟨?_,h1⟩;rcases(show op=1∨op=2∨op=3∨op=4∨op=5∨op=6∨op=7∨op=8∨op=9∨op=10∨op=11∨op=12∨op=13 by omega)with rfl|rfl|rfl|rfl|rfl|rfl|rfl|rfl|rfl|rfl|rfl|rfl|rfl
 all_goals (simp[iU]at hw;subst hw;rfl)
theorem Lf{n:aQ}(h:iT bs n=some bs'):(1≤n.op∧n.op≤13)∧opsOf n.op≤bs.length∧bs'.length=bs.length - opsOf n.op+1:=by
 unfold iT at h;cases hw:iU n.op with
 |none=>grind
 |some w=>grind [Lw,aeE,List.length_take,List.length_singleton]
theorem QC{l:List aQ}{i:Nat}(hl:fZ [] l=some z)(hi:i<l.length)(hb:fZ [] (l.take i)=some bs):∃bs',iT bs l[i]=some bs'∧fZ [] (l.take (i+1))=some bs' :=by
 have h1:=kM [] l i;rw[hl,hb,List.drop_eq_getElem_cons hi]at h1;simp only[fZ]at h1;cases hs:iT bs l[i]with
 |none=>rw[hs]at h1;cases h1
 |some bs' =>
  rw[kM [] _ i,List.take_take,Nat.min_eq_left aeK,hb,List.take_succ_eq_append_getElem hi,List.drop_append_of_le_length aeL,List.drop_of_length_le aeL]
  grind [fZ]
theorem Nt(hf:sr gs)(n:aQ)(l:List jN):(lX gs n l).bag.length≤1000000:=by
 unfold lX AQ jo
 repeat' split
 all_goals first|exact hf.bag _|simp
def Wl(x:jN):AV:=.tup [aS x.v,.i x.e]
end Go.Bf
namespace Go.Proofs.YtokahfmoollblaaGreatDoor
open Go Go.Ab Go.Bf Tryz
theorem Mz(l:List aQ)(hn:l≠ [])(he:kR l=0)(gs:List bt)(hf:sr gs)(h:Heap):ai prog 276 [fC l,bM gs] h fun r h' =>r=Wl (wL gs l)∧h' =h:=by
 obtain⟨h32,hst⟩:=yG he hn;have hex:=fun G=>Im l G
 rw[he]at hex;simp only[fC]at hex;have dl:((l.length:Int)==0)=false:=aiQ;refine aeJ func276 51 [.cell 4 44,.tmp 5] fun hwf=>?_
 simp only[go_sem,fC,bM];intro i4 h4;simp only[go_sem,aeA,dl];refine(hex _).pthen ?_;simp only[go_sem,aeA];obtain⟨H0,eH⟩:∃H0,upd h i4 (some (.obj [.i 0,.i 0,.s []] 44))=H0:=⟨_,rfl⟩;have hH0:Ab.Sub h H0:=by rw[←eH];exact .aj h4
 have g4:H0 i4=some (.obj [.i 0,.i 0,.s []] 44):=agh;rw[eH];clear eH;refine .intro (fun m ρ H=>∃(i:Nat) (y:AV) (st:List jN) (bs:List Bool),OwE 371 H0 H 5 y (st.map bQ)∧Ab.Sub H0 H∧(l.take i).foldl (zU gs) []=st∧fZ [] (l.take i)=some bs∧bs.length=st.length∧(∀x∈st,x.bag.length≤1000000)∧i≤l.length∧m=l.length - i∧lk ρ 1=some (.sl (gs.map lS) .no)∧lk ρ 4=some (.ptr i4 0)∧lk ρ 6=some y∧lk ρ 19=some (.sl (l.map cG) .no)∧lk ρ 20=some (.i l.length)∧lk ρ 21=some (.i i)) l.length ?_ ?_
 ·refine⟨0,_,[],[],.inl ⟨rfl,rfl⟩,.refl _,rfl,rfl,rfl,fun x hx=>aeL,aeK,rfl,?_,?_,?_,?_,?_,?_⟩<;>simp only[go_sem]
 ·rintro m ρ H ⟨i,y,st,bs,hw,hsH,hfo,hbs,hlen,hbag,hi,rfl,r1,r4,r6,r19,r20,r21⟩
  have hsl:bs.length≤i:=by have:=sF _ _ _ hbs;simpa[Nat.min_eq_left hi]using this
  simp only[go_sem,r20,r21];refine .intro (fun e=>?_) (fun e=>?_)
  ·have hlt:i<l.length:=aeH e
   have w1:IntKind.i64.wrap ((i:Int)+1)=((i+1:Nat):Int):=aeW;obtain⟨bs',hb1,hb2⟩:=QC hst hlt hbs;have hfs:(l.take (i+1)).foldl (zU gs) []=zU gs st l[i]:=by grind [List.take_succ_eq_append_getElem]
   have ix:=fun k=>eu.eq (xs:=l.map cG) (sz:=7) i aeL aeU k
   rw[aeB]at ix;obtain⟨n,en⟩:∃n,l[i]=n:=⟨_,rfl⟩;rw[en]at hb1 hfs ix;obtain⟨hop,hle,hln⟩:=Lf hb1;rw[hlen]at hle;obtain⟨k,ek⟩:∃k,st.length - opsOf n.op=k:=⟨_,rfl⟩;have wk:IntKind.i64.wrap ((st.length:Int) - (opsOf n.op:Int))=(k:Int):=aeW;have hstep:zU gs st n=st.take k++ [lX gs n (st.drop k)]:=by grind [zU]
   simp only[cG]at ix;simp only[go_sem,r19,r21,ix];intro i8 h8;obtain⟨H8,eH⟩:∃H8,upd H i8 (some (.obj [.i n.op,.i n.val.kind,.i n.val.n,.s n.val.s,.i n.attr.cat,.s n.attr.name,.b n.attr.must] 222))=H8:=⟨_,rfl⟩;have hs8:Ab.Sub H H8:=by rw[←eH];exact .aj h8
   have k8:H8 i8=some (.obj [.i n.op,.i n.val.kind,.i n.val.n,.s n.val.s,.i n.attr.cat,.s n.attr.name,.b n.attr.must] 222):=agh;have hw8:=hw.sub hs8;simp only[go_sem,r6,hw8.rd.len,aeA];refine(Ge n.op _).pthen ?_;rw[eH];clear eH;simp only[go_sem,wk];refine .calls (hm1 i8 (.obj [.i n.op,.i n.val.kind,.i n.val.n,.s n.val.s,.i n.attr.cat,.s n.attr.name,.b n.attr.must] 222)) [0,1,2,3,4,5,6,7,8,9,10,11] (.hm1 k8) aeN rfl ?_;simp only[go_sem,r6];refine hw8.cut (U:=U) (x:=.i64) k aeZ rfl aeL aeZ aeO fun z hz hzy=>?_
   simp only[go_sem,r6,gy];refine hw8.from (U:=U) (x:=.i64) k aeZ rfl aeL aeZ aeO fun z2 hz2=>?_
   rw[←List.map_drop]at hz2;rw[←List.map_take]at hz;have hnd:=Qb n hop (st.drop k) hz2 aeL (fun x hx=>hbag x (List.mem_of_mem_drop hx)) gs hf
   have hnb:=Nt hf n (st.drop k);obtain⟨x,ex⟩:∃x,lX gs n (st.drop k)=x:=⟨_,rfl⟩;rw[ex]at hnd hnb hstep;simp only[cG,bM,bQ]at hnd;simp only[go_sem,r1];refine hnd.pthen ?_;refine⟨.hm1 k8,?_⟩;simp only[go_sem];have hone:Rd H8 5 (.sl [bQ x] .full) [bQ x]:=.sl (fun z hz=>ahI) .full
   simp only[bQ]at hone;refine OwE.app (U:=U) (tb:=371) hz (hsH.trans hs8) hone aeZ aeO aeO aeZ aeR ae4 fun id y' H' hid hor how hoth=>?_
   have n8:i8≠id:=by
    intro e8;rcases hor with ho|⟨lz,cz,ez⟩
    ·grind
    ·exact mD (hz.nid (id:=id) (by rw[ez];rfl)).2.2 k8 aeO e8.symm
   have hsub' :Ab.Sub H0 H' :=fun j b hj=>by rw[hoth j (fun e=>aeL)];exact(hsH.trans hs8) _ _ hj
   refine⟨.hm1 aeL,?_⟩;simp only[go_sem,r21,w1];refine⟨_,?_,i+1,y',zU gs st n,bs',.inr ⟨id,hid,by rw[hstep,List.map_append];exact how⟩,hsub',hfs,hb2,aeL,fun w hw=>?_,aeK,rfl,?_,?_,?_,?_,?_,?_⟩
   ·omega
   ·grind
   all_goals simp only[go_sem,r1,r4,r19,r20]
  ·have hge:i=l.length:=by grind
   subst hge;rw[List.take_length]at hbs hfo;rw[hst]at hbs;cases hbs;obtain⟨x,rfl⟩:=List.length_eq_one_iff.1 hlen.symm;have hit:wL gs l=x:=by simp_all [wL,if_neg]
   obtain⟨id,hid,how⟩:=hw.ow aeR;have hwp:Rd (pick H [id]) 5 y [bQ x]:=(how.same (bF (List.mem_singleton.2 rfl))).rd;have n4:i4≠id:=fun e=>aeL
   have k4:=hsH _ _ g4;simp only[go_sem];refine .calls (pick H [id]) [0,1,2,3,4,5,6,7,8,9] bS aeN rfl ?_;simp only[go_sem,r6];refine hwp.idx (U:=U) (e:=371) 0 rfl aeR aeZ aeO fun p hp1=>?_
   simp only[go_sem];refine hp1.field (f:=1) (off:=1) (t:=44) rfl aeO fun p2 hp2=>?_
   have hld:=hp2.part (U:=U) (ty:=44) aeO ahf;simp only[List.getElem_cons_zero,bQ,AV.cells]at hld;simp only[go_sem,r6,hld];refine hwp.idx (U:=U) (e:=371) 0 rfl aeR aeZ aeO fun p3 hp3=>?_
   simp only[go_sem];refine hp3.field (f:=2) (off:=4) (t:=49) rfl aeO fun p4 hp4=>?_
   have hld4:=hp4.part (U:=U) (ty:=49) aeO ahf;simp only[List.getElem_cons_zero,bQ,AV.cells]at hld4;simp only[go_sem,r4,hld4,k4];refine⟨bS.put (by grind [pick]) _,?_⟩
   exact .mk _ (.refl _) ((hH0.trans hsH).put h4 _) ⟨by rw[hit];rfl,rfl⟩
theorem Pf(l:List aQ)(he:kR l=0)(gs:List bt)(hf:sr gs)(h:Heap):ai prog 250 [fC l,bM gs] h fun r h' =>r= .i (qO gs l:Nat)∧h' =h:=by
 by_cases hn:l= []
 ·subst hn
  refine aeJ func250 26 [.tmp 4] fun hwf=>?_
  simp only[go_sem,fC,bM,List.map_nil,List.length_nil];exact aeV
 have hv:=fun G=>Mz l hn he gs hf G
 have hcd:qO gs l=if isI (wL gs l) 1 then 2 else if isI (wL gs l) 0 then 0 else 1:=by simp_all [qO,if_neg]
 obtain⟨x,ex⟩:∃x,wL gs l=x:=⟨_,rfl⟩;rw[ex]at hv hcd;simp only[fC,bM,Wl,aS]at hv;have hi1:∀(m:Int) G,ai prog 277 [.agg [.sl [] .full,.i x.v.kind,.i x.v.n,.s x.v.s,.i x.e],.i m] G fun r h' =>r= .b (isI x m)∧h' =G:=fun m G=>PF x m G
 have dl:((l.length:Int)==0)=false:=aiQ;refine aeJ func250 26 [.tmp 4] fun hwf=>?_
 simp only[go_sem,fC,bM,aeA,dl];refine(hv _).pthen ?_;simp only[go_sem];intro i5 h5;simp only[go_sem];intro i7 h7;have n7:=aB h7;have hs:∀x y,Ab.Sub h (upd (upd h i5 x) i7 y):=fun x y=>((Sub.refl h).put h5 x).put n7 y
 simp only[go_sem];refine(hi1 1 _).pthen ?_;cases d1:isI x 1
 case true=>rw[d1]at hcd;simp only[go_sem];exact .mk _ (.refl _) (hs _ _) ⟨by rw[hcd];rfl,rfl⟩
 simp only[go_sem];refine(hi1 0 _).pthen ?_;cases d0:isI x 0
 all_goals
  rw[d1,d0]at hcd;simp only[go_sem];exact .mk _ (.refl _) (hs _ _) ⟨by rw[hcd];rfl,rfl⟩
end Go.Proofs.YtokahfmoollblaaGreatDoor
namespace Go.Bf
open Go Go.Ab Go.Proofs.YtokahfmoollblaaGreatDoor
variable {l:List aT}{q:aT→Bool}
def ku(l:List aT)(p:Perm):AV:=.sl (l.map aO) p
theorem M9.na:M9 naM:=aeO
theorem CF(l:List aT)(i:Nat)(h:i<l.length):(l.take (i+1)).foldl oU naM=oU ((l.take i).foldl oU naM) l[i]:=by grind [List.take_succ_eq_append_getElem]
theorem JW(hq:∀m,q m=decide (m≠naM))(h:l.findIdx q<l.length):firstM l=l[l.findIdx q]:=by
 unfold firstM;have e:q=fun m=>decide (m≠naM):=funext hq
 subst e;rw[show l.find? (fun m=>decide (m≠naM))=some l[l.findIdx fun m=>decide (m≠naM)]from List.find?_eq_some_iff_getElem.2 ⟨List.findIdx_getElem (w:=h),_,h,rfl,fun j hj=>aeL⟩]
 rfl
theorem JX(hq:∀m,q m=decide (m≠naM))(h:¬l.findIdx q<l.length):firstM l=naM:=by
 unfold firstM;rw[List.find?_eq_none.2 fun x hx=>aeL]
 rfl
def xj(j m:aT):aT:=if j=naM then m else if m≠naM then nq else j
theorem Nz{i:Nat}(h:i<l.length)(j:aT):oZ (l.drop i) j=if zV l[i]=false then nq else oZ (l.drop (i+1)) (xj j l[i]):=by rw[List.drop_eq_getElem_cons h];rfl
end Go.Bf
namespace Go.Proofs.YtokahfmoollblaaGreatDoor
open Go Go.Ab Go.Bf Tryz
theorem W4:(U 51).sz=1:=aeZ
theorem Kr(ms:List aT)(hl:ms.length≤1000000000)(q:aT→Bool)(g:FuncId)(cap:List AV)(p:Perm)(h:Heap)(hp:∀m∈ms,ai prog g (aO m::cap) h fun r h' =>r= .b (q m)∧h' =h):
  ai prog 302 [ku ms p,.fn g cap] h fun r h' =>r= .i (ixD q ms)∧h' =h:=by
 refine aeJ func302 19 [.tmp 4] fun hwf=>?_
 simp only[go_sem,ku,aeA];refine .intro (fun m ρ h' =>h' =h∧∃i:Nat,i≤ms.length∧m=ms.length - i∧(∀j (hj:j<i) (h2:j<ms.length),q ms[j]=false)∧lk ρ 0=some (.sl (ms.map aO) p)∧lk ρ 1=some (.fn g cap)∧lk ρ 7=some (.i ms.length)∧lk ρ 8=some (.i i)) ms.length ?_ ?_
 ·refine⟨rfl,0,aeK,rfl,fun j hj=>aeK,?_,?_,?_,?_⟩<;>simp only[go_sem]
 ·rintro m ρ h' ⟨rfl,i,hi,rfl,hc,r0,r1,r7,r8⟩
  simp only[go_sem,r7,r8];refine .intro (fun e=>?_) (fun e=>?_)
  ·have hlt:i<ms.length:=aeH e
   have w1:IntKind.i64.wrap ((i:Int)+1)=((i+1:Nat):Int):=aeW;have ix:=fun k=>eu.eq (xs:=ms.map aO) (sz:=1) i aeL aeU k
   rw[aeB]at ix;have hg:=hp ms[i] (aeF hlt);have hci:=fun(d:q ms[i]=false)=>(fun j (hj:j<i+1) (h2:j<ms.length)=>(by grind:q ms[j]=false))
   have hat:=fun(d:q ms[i]=true)=>oD hlt d fun j hj=>hc j hj aeK
   obtain⟨m,em⟩:∃m,ms[i]=m:=⟨_,rfl⟩;rw[em]at ix hg hci hat;simp only[aO]at ix;simp only[go_sem,r0,r1,r8,ix];refine(show ai prog g (.v (.complex .f64 (hbit m.1) (hbit m.2))::cap) _ _ from hg).pthen ?_
   cases d1:q m
   ·simp only[go_sem,r8,w1]
    refine⟨_,?_,rfl,i+1,aeK,rfl,hci d1,?_,?_,?_,?_⟩
    ·omega
    all_goals simp only[go_sem,r0,r1,r7]
   ·simp only[go_sem]
    exact .same (.refl _) ⟨aiP,rfl⟩
  ·have hge:i=ms.length:=by grind
   simp only[go_sem];exact .same (.refl _) ⟨aff,rfl⟩
theorem GJ(ms:List aT)(hl:ms.length≤1000000000)(hmm:∀m∈ms,M9 m)(x:aT)(hx:M9 x)(p:Perm)(h:Heap):
  ai prog 315 [ku ms p,aO x] h fun r h' =>r= .i (ixD (fun y=>x==y) ms)∧h' =h:=by
 refine aeJ func315 19 [.tmp 4] fun hwf=>?_
 simp only[go_sem,ku,aeA];refine .intro (fun m ρ h' =>h' =h∧∃i:Nat,i≤ms.length∧m=ms.length - i∧(∀j (hj:j<i) (h2:j<ms.length),(x==ms[j])=false)∧lk ρ 0=some (.sl (ms.map aO) p)∧lk ρ 1=some (aO x)∧lk ρ 7=some (.i ms.length)∧lk ρ 8=some (.i i)) ms.length ?_ ?_
 ·refine⟨rfl,0,aeK,rfl,fun j hj=>aeK,?_,?_,?_,?_⟩<;>simp only[go_sem]
 ·rintro m ρ h' ⟨rfl,i,hi,rfl,hc,r0,r1,r7,r8⟩
  simp only[go_sem,r7,r8];refine .intro (fun e=>?_) (fun e=>?_)
  ·have hlt:i<ms.length:=aeH e
   have w1:IntKind.i64.wrap ((i:Int)+1)=((i+1:Nat):Int):=aeW;have ix:=fun k=>eu.eq (xs:=ms.map aO) (sz:=1) i aeL aeU k
   rw[aeB]at ix;have hm9:=hmm ms[i] (aeF hlt);have hci:=fun(d:(x==ms[i])=false)=>(fun j (hj:j<i+1) (h2:j<ms.length)=>(by grind:(x==ms[j])=false))
   have hat:=fun(d:(x==ms[i])=true)=>oD (q:=fun y=>x==y) hlt d fun j hj=>hc j hj aeK
   obtain⟨m,em⟩:∃m,ms[i]=m:=⟨_,rfl⟩;rw[em]at ix hm9 hci hat;simp only[aO]at ix r1;have ne:=zo hx hm9;cases d1:(x==m)
   ·simp only[go_sem,r0,r1,r8,ix,ne,d1,w1]
    refine⟨_,?_,rfl,i+1,aeK,rfl,hci d1,?_,?_,?_,?_⟩
    ·omega
    all_goals simp only[go_sem,r0,r1,r7,aO]
   ·simp only[go_sem,r0,r1,r8,ix,ne,d1]
    exact .same (.refl _) ⟨aiP,rfl⟩
  ·have hge:i=ms.length:=by grind
   simp only[go_sem];exact .same (.refl _) ⟨aff,rfl⟩
theorem Gy(ms:List aT)(hl:ms.length≤1000000000)(hmm:∀m∈ms,M9 m)(x:aT)(hx:M9 x)(p:Perm)(h:Heap):
  ai prog 306 [ku ms p,aO x] h fun r h' =>r= .b (decide (x∈ms))∧h' =h:=by
 refine aeJ func306 9 [.tmp 4] fun hwf=>?_
 simp only[go_sem];refine(GJ ms hl hmm x hx p _).pthen ?_;simp only[go_sem];exact .same (.refl _) ⟨by rw[ve,show(ms.any fun y=>x==y)=decide (x∈ms) by grind];rfl,rfl⟩
theorem FT(m:aT)(hmm:M9 m)(h:Heap):ai prog 303 [aO m] h fun r h' =>r= .b (!(m==naM))∧h' =h:=by
 have n:=(nb hmm).nna;refine aeJ func303 5 [.tmp 2] fun hwf=>?_
 simp only[go_sem,aO,n];exact aeV
theorem QG(m:aT)(hmm:M9 m)(h:Heap):ai prog 304 [aO m] h fun r h' =>r= .b (zV m)∧h' =h:=by
 obtain⟨n1,n2,n3,_⟩:=nb hmm;refine aeJ func304 13 [.tmp 2] fun hwf=>?_
 have es:zV m=(m==naM||(m==bg||m==cJ)):=by
  unfold zV
  grind
 rw[es];cases d1:(m==naM)<;>cases d2:(m==bg)<;>cases d3:(m==cJ)
 all_goals
  simp only[go_sem,aO,n1,n2,n3,d1,d2,d3];exact aeV
theorem ME(ms:List aT)(hl:ms.length≤1000000000)(hmm:∀m∈ms,M9 m)(p:Perm)(h:Heap):ai prog 282 [ku ms p] h fun r h' =>r=aO (firstM ms)∧h' =h:=by
 refine aeJ func282 12 [.tmp 2] fun hwf=>?_
 simp only[go_sem,ku];refine(Kr ms hl (fun m=> !(m==naM)) _ [] p _ fun m h=>FT m (hmm m h) _).pthen ?_
 have hq:∀m:aT,(!(m==naM))=decide (m≠naM):=fun m=>aeL
 by_cases hx:ms.findIdx (fun m=> !(m==naM))<ms.length
 ·obtain⟨i,ei⟩:∃i,ms.findIdx (fun m=> !(m==naM))=i:=⟨_,rfl⟩
  have ef:=JW hq hx;have e1:ixD (fun m=> !(m==naM)) ms=(i:Nat):=by rw[ixD,ei];omega
  simp only[ei]at ef;have d1:decide ((0:Int)≤((i:Nat):Int))=true:=decide_eq_true aeK;have ix:=fun k=>eu.eq (xs:=ms.map aO) (sz:=1) i aeL aeU k
  rw[aeB,←ef]at ix;rw[e1];simp only[go_sem,d1,ix];exact aeV
 ·have e1:ixD (fun m=> !(m==naM)) ms= -1:=by simp_all [ixD,if_neg]
  have d1:decide ((0:Int)≤ -1)=false:=rfl;rw[e1];simp only[go_sem,d1];exact .same (.refl _) ⟨by rw[JX hq hx];rfl,rfl⟩
theorem Of(j m:aT)(hj:M9 j)(hmm:M9 m)(h:Heap):ai prog 305 [.i 4,aO j,aO m] h fun r h' =>r=aO (xj j m)∧h' =h:=by
 have n1:=(nb hj).na;have n2:=(nb hmm).nna;refine aeJ func305 31 [.tmp 6] fun hwf=>?_
 cases d1:(j==naM)
 case true=>simp only[go_sem,aO,n1,d1];exact .same (.refl _) ⟨by rw[xj,if_pos aeL];rfl,rfl⟩
 cases d2:(m==naM)
 ·simp only[go_sem,aO,n1,n2,d1,d2]
  exact .same (.refl _) ⟨by rw[xj,if_neg aeL,if_pos aeL];rfl,rfl⟩
 ·simp only[go_sem,aO,n1,n2,d1,d2]
  exact .same (.refl _) ⟨by rw[xj,if_neg aeL,if_neg aeL];rfl,rfl⟩
theorem M9.step{j m:aT}(hj:M9 j)(hmm:M9 m):M9 (xj j m):=by
 unfold xj
 repeat' split
 ·omega
 ·decide
 omega
theorem Qi(ms:List aT)(hl:ms.length≤1000000000)(hmm:∀m∈ms,M9 m)(p:Perm)(h:Heap):ai prog 283 [ku ms p] h fun r h' =>r=aO (oZ ms naM)∧h' =h:=by
 refine aeJ func283 20 [.tmp 2] fun hwf=>?_
 simp only[go_sem,ku,aeA];refine .intro (fun m ρ h' =>h' =h∧∃(i:Nat) (j:aT),i≤ms.length∧m=ms.length - i∧M9 j∧oZ (ms.drop i) j=oZ ms naM∧lk ρ 3=some (aO j)∧lk ρ 6=some (.sl (ms.map aO) p)∧lk ρ 7=some (.i ms.length)∧lk ρ 8=some (.i i)) ms.length ?_ ?_
 ·refine⟨rfl,0,naM,aeK,rfl,.na,rfl,?_,?_,?_,?_⟩<;>simp only[go_sem,aO,naM,hbit]
 ·rintro m ρ h' ⟨rfl,i,j,hi,rfl,hj,ho,r3,r6,r7,r8⟩
  simp only[go_sem,r7,r8];refine .intro (fun e=>?_) (fun e=>?_)
  ·have hlt:i<ms.length:=aeH e
   have w1:IntKind.i64.wrap ((i:Int)+1)=((i+1:Nat):Int):=aeW;have ix:=fun k=>eu.eq (xs:=ms.map aO) (sz:=1) i aeL aeU k
   rw[aeB]at ix;have hm9:=hmm ms[i] (aeF hlt);rw[Nz hlt]at ho;obtain⟨m,em⟩:∃m,ms[i]=m:=⟨_,rfl⟩;rw[em]at ix hm9 ho;have hsu:=fun G=>QG m hm9 G
   have hst:=fun G=>Of j m hj hm9 G
   simp only[aO]at ix hsu hst r3;simp only[go_sem,r6,r8,ix];refine(hsu _).pthen ?_;cases d1:zV m
   ·rw[if_pos d1]at ho
    simp only[go_sem];exact .same (.refl _) ⟨by rw[←ho];rfl,rfl⟩
   ·rw[if_neg aeL]at ho
    simp only[go_sem,r3];refine(hst _).pthen ?_;simp only[go_sem,r8,w1];refine⟨_,?_,rfl,i+1,xj j m,aeK,rfl,M9.step hj hm9,ho,?_,?_,?_,?_⟩
    ·omega
    all_goals simp only[go_sem,r6,r7,aO]
  ·have hge:i=ms.length:=by grind
   subst hge;rw[List.drop_length]at ho;simp only[go_sem,r3];exact .same (.refl _) ⟨by rw[←ho];rfl,rfl⟩
theorem B1(ms:List aT)(hl:ms.length≤1000000000)(hmm:∀m∈ms,M9 m)(a b:aT)(hb:M9 b)(p:Perm)(h:Heap):ai prog 284 [ku ms p,aO a,aO b] h fun r h' =>r=aO (if b∈ms then b else a)∧h' =h:=by
 refine aeJ func284 12 [.tmp 6] fun hwf=>?_
 simp only[go_sem];refine(Gy ms hl hmm b hb p _).pthen ?_
 by_cases d:b∈ms
 ·simp only[go_sem,decide_eq_true d,if_pos d]
  exact aeV
 ·simp only[go_sem,decide_eq_false d,if_neg d]
  exact aeV
theorem Sm(alg:Int)(ha:1≤alg∧alg≤6)(ms:List aT)(hl:ms.length≤1000000000)(hmm:∀m∈ms,M6 m)(p:Perm)(h:Heap):ai prog 251 [.i alg,ku ms p] h fun r h' =>r= .tup [aO (iu alg ms),.i 0]∧h' =h:=by
 have hm9:=fun m h=>(hmm m h).m9
 refine aeJ func251 49 [.tmp 4,.tmp 5] fun hwf=>?_
 simp only[go_sem,ku,aeA];refine .intro (fun m ρ h' =>h' =h∧∃i:Nat,i≤ms.length∧m=ms.length - i∧M9 ((ms.take i).foldl oU naM)∧lk ρ 0=some (.i alg)∧lk ρ 1=some (.sl (ms.map aO) p)∧lk ρ 6=some (aO ((ms.take i).foldl oU naM))∧lk ρ 9=some (.sl (ms.map aO) p)∧lk ρ 10=some (.i ms.length)∧lk ρ 11=some (.i i)) ms.length ?_ ?_
 ·refine⟨rfl,0,aeK,rfl,.na,?_,?_,?_,?_,?_,?_⟩<;>simp only[go_sem,aO,naM,hbit,List.take_zero,List.foldl_nil]
 ·rintro m ρ h' ⟨rfl,i,hi,rfl,hj,r0,r1,r6,r9,r10,r11⟩
  obtain⟨j,ej⟩:∃j,(ms.take i).foldl oU naM=j:=⟨_,rfl⟩;rw[ej]at hj r6;simp only[go_sem,r10,r11];refine .intro (fun e=>?_) (fun e=>?_)
  ·have hlt:i<ms.length:=aeH e
   have w1:IntKind.i64.wrap ((i:Int)+1)=((i+1:Nat):Int):=aeW;have ix:=fun k=>eu.eq (xs:=ms.map aO) (sz:=1) i aeL aeU k
   rw[aeB]at ix;have hm6:=hmm ms[i] (aeF hlt);have hsn:=CF ms i hlt;rw[ej]at hsn;obtain⟨m,em⟩:∃m,ms[i]=m:=⟨_,rfl⟩;rw[em]at ix hm6 hsn;have hri:=fun G=>CK m hm6 G
   have hjo:=fun G=>PK j m hj hm6.m9 G
   simp only[aO]at ix hri hjo r6;simp only[go_sem,r9,r11,ix];refine(hri _).pthen ?_;simp only[go_sem,r6];refine(hjo _).pthen ?_;simp only[go_sem,r11,w1];refine⟨_,?_,rfl,i+1,aeK,rfl,by grind [M9.join],?_,?_,?_,?_,?_,?_⟩
   ·omega
   all_goals simp only[go_sem,r0,r1,r9,r10,aO,hsn]
  ·have hge:i=ms.length:=by grind
   subst hge;rw[List.take_length]at ej;have ej' :xP ms=j:=ej;have hov:=fun G=>IV j hj G
   have htu:=fun(x:aT) (G:Heap)=>QJ x G
   have hov2:=fun G=>IV (Fy j) ⟨hj.2,hj.1⟩ G
   have h1:=ME ms hl hm9 p;have h2:=Qi ms hl hm9 p;have h3:=B1 ms hl hm9 cJ bg aeO p;have h4:=B1 ms hl hm9 bg cJ aeO p;simp only[ku]at h1 h2 h3 h4;rcases(show alg=1∨alg=2∨alg=3∨alg=4∨alg=5∨alg=6 by omega)with rfl|rfl|rfl|rfl|rfl|rfl
   ·simp only[go_sem,r0,r6]
    refine(hov _).pthen ?_;simp only[go_sem];exact .same (.refl _) ⟨by simp only[iu,ej',if_true];rfl,rfl⟩
   ·simp only[go_sem,r0,r6]
    refine(htu _ _).pthen ?_;simp only[go_sem];refine(hov2 _).pthen ?_;simp only[go_sem];refine(htu _ _).pthen ?_;simp only[go_sem];exact .same (.refl _) ⟨by simp only[iu,ej'];rfl,rfl⟩
   ·simp only[go_sem,r0,r1]
    refine(h1 _).pthen ?_;exact ajd
   ·simp only[go_sem,r0,r1]
    refine(h2 _).pthen ?_;exact ajd
   ·simp only[go_sem,r0,r1]
    refine(h3 _).pthen ?_;exact akJ
   ·simp only[go_sem,r0,r1]
    refine(h4 _).pthen ?_;exact akJ
end Go.Proofs.YtokahfmoollblaaGreatDoor
namespace Go.Bf
open Go Go.Ab Go.Proofs.YtokahfmoollblaaGreatDoor
def rsA(r:j3):AV:=.agg [aO r.1,ay r.2]
theorem JL(l:List cC)(m:aT)(i:Nat)(h:i<l.length):eV (l.take (i+1)) m=eV (l.take i) m++(if(l[i].on==1 && m==bg||l[i].on==2 && m==cJ)=true then [l[i]]else []):=by grind [eV,List.take_succ_eq_append_getElem]
theorem rH(l:List cC)(m:aT){L:List AV}(hL:L=l.map aY)(q:Perm):Weak (.agg [aO m,.sl L q]) (rsA (m,l)):=by
 subst hL;refine .agg _ _ rfl fun i a b=>?_
 rcases i with _|_|i
 ·exact af8
 ·exact aht
 grind
theorem zz(alg:Int)(m:aT)(l:List j3)(i:Nat)(h:i<l.length)(h3:alg≠3):eY alg m (l.take (i+1))=eY alg m (l.take i)++(if(l[i].1==m)=true then l[i].2 else []):=by
 unfold eY;rw[if_neg h3,if_neg h3,List.take_succ_eq_append_getElem h,List.filter_append,List.map_append,List.flatten_append]
 grind
theorem zy{m:aT}{l:List j3}(h:∀x∈l,(x.1==m)=false):eY 3 m l= []:=by
 unfold eY;rw[if_pos rfl,List.find?_eq_none.2 fun x hx=>aeL]
 rfl
theorem xb{m:aT}{l:List j3}(i:Nat)(h:i<l.length)(h1:(l[i].1==m)=true)(h2:∀j (hj:j<i),((l[j]'aeK).1==m)=false):eY 3 m l=l[i].2:=by
 unfold eY;rw[if_pos rfl,show(l.find? fun x=>x.1==m)=some l[i]from List.find?_eq_some_iff_getElem.2 ⟨h1,i,h,rfl,fun j hj=>aeL⟩]
 rfl
end Go.Bf
namespace Go.Proofs.YtokahfmoollblaaGreatDoor
open Go Go.Ab Go.Bf Tryz
theorem W5:(U 145).sz=3:=aeZ
theorem W6:(U 96).sz=2:=aeZ
theorem rU(l:List cC)(hl:l.length≤1000000)(m:aT)(hpd:m=bg∨m=cJ)(h:Heap):ai prog 253 [ay l,aO m] h fun r h' =>r=ay (eV l m)∧h' =h:=by
 have h9:M9 m:=by rcases hpd with rfl|rfl<;>decide
 have pe:=(nb h9).pe;have de:=(nb h9).de;have uO:=W5;obtain⟨b,b1,b2⟩:∃b,(m==bg)=b∧(m==cJ)= !b:=by
  rcases hpd with rfl|rfl
  ·exact⟨true,aeO,aeO⟩
  ·exact⟨false,aeO,aeO⟩
 refine aeJ func253 36 [.tmp 4] fun hwf=>?_
 simp only[go_sem,ay,aO,aeA];refine .intro (fun q ρ H=>∃(i:Nat) (y:AV),Acc U 145 h H y ((eV (l.take i) m).map aY)∧i≤l.length∧q=l.length - i∧lk ρ 1=some (.v (.complex .f64 (hbit m.1) (hbit m.2)))∧lk ρ 5=some y∧lk ρ 8=some (.sl (l.map aY) .no)∧lk ρ 9=some (.i l.length)∧lk ρ 10=some (.i i)) l.length ?_ ?_
 ·refine⟨0,.sl [] .full,by simpa[eV]using Acc.full (.refl _),aeK,rfl,?_,?_,?_,?_,?_⟩<;>simp only[go_sem]
 ·rintro q ρ H ⟨i,y,hy,hi,rfl,r1,r5,r8,r9,r10⟩
  obtain⟨qy,eqy⟩:=hy.row;subst eqy;simp only[go_sem,r9,r10];refine .intro (fun e=>?_) (fun e=>?_)
  ·have hlt:i<l.length:=aeH e
   have w1:=aeG i aeK;have hsn:=JL l m i hlt;have ix:=fun k=>eu.eq (xs:=l.map aY) (sz:=3) i afc aeU k
   rw[aeB]at ix;obtain⟨o,eo⟩:∃o,l[i]=o:=⟨_,rfl⟩;rw[eo]at ix hsn;simp only[aY]at ix;simp only[go_sem,r8,r10,ix];intro i7 h7;cases b
   ·cases a3:(o.on==2)
    ·cases a1:(o.on==1)
     ·simp only[go_sem,r10,a1,a3,w1]
      exact ajh
     ·simp only[go_sem,r1,r10,a1,a3,b1,pe,w1]
      exact ajh
    ·cases a1:(o.on==1)
     ·simp only[go_sem,r1,r5,a1,a3,b2,de]
      exact ai7
     ·simp only[go_sem,r1,r5,a1,a3,b1,b2,pe,de]
      exact ai7
   ·cases a1:(o.on==1)
    ·cases a3:(o.on==2)
     ·simp only[go_sem,r10,a1,a3,w1]
      exact ajh
     ·simp only[go_sem,r1,r10,a1,a3,b2,de,w1]
      exact ajh
    ·cases a3:(o.on==2)
     ·simp only[go_sem,r1,r5,a1,b1,pe]
      exact ai7
     ·simp only[go_sem,r1,r5,a1,b1,pe]
      exact ai7
  ·have hge:i=l.length:=by have:=aeD e;omega
   subst hge;rw[List.take_length]at hy;simp only[go_sem,r5];exact .mk (ay (eV l m)) (by rw[List.take_length];exact .sl _ _) hy.1 ⟨rfl,rfl⟩
theorem tri{t:Nat}(h:t≤2):t=0∨t=1∨t=2:=aeK
theorem JM(r:cV)(hr:r.obls.length≤1000000)(t c:Nat)(ht:t≤2)(hc:c≤2)(h:Heap):ai prog 249 [aC r,.i t,.i c] h fun x h' =>x=rsA (nQ r t c)∧h' =h:=by
 obtain⟨id,deny,tgt,cond,obls⟩:=r;simp only at hr;have hdp:=fun G=>rU obls hr bg (.inl rfl) G
 have hdd:=fun G=>rU obls hr cJ (.inr rfl) G
 have hip:=fun G=>yU bg aeO G
 have hid:=fun G=>yU cJ aeO G
 simp only[aO,bg,cJ,hbit,ay]at hdp hdd hip hid;refine aeJ func249 38 [.cell 6 96] fun hwf=>?_
 simp only[go_sem,aC];intro i3 h3;simp only[go_sem];intro i6 h6;have n63:=aH h6;have n6:=aB h6;have hs:∀x y,Ab.Sub h (upd (upd h i3 x) i6 y):=fun x y=>((Sub.refl h).put h3 x).put n6 y
 have hs2:∀x y z,Ab.Sub h (upd (upd (upd h i3 x) i6 y) i6 z):=fun x y z=>(hs x y).put n6 z
 cases deny
 ·rcases tri ht with rfl|rfl|rfl
  ·exact ajK
  ·exact aj2
  ·rcases tri hc with rfl|rfl|rfl
   ·exact ajK
   ·exact aj2
   ·simp only[go_sem,ak,n63.symm,ay]
    refine(hdp _).pthen ?_;simp only[go_sem];exact .mk (rsA (bg,eV obls bg)) (rH _ bg rfl _) (hs _ _) ⟨rfl,rfl⟩
 ·rcases tri ht with rfl|rfl|rfl
  ·exact ajK
  ·exact aj3
  ·rcases tri hc with rfl|rfl|rfl
   ·exact ajK
   ·exact aj3
   ·simp only[go_sem,ak,n63.symm,ay]
    refine(hdd _).pthen ?_;simp only[go_sem];exact .mk (rsA (cJ,eV obls cJ)) (rH _ cJ rfl _) (hs _ _) ⟨rfl,rfl⟩
theorem Nj(gs:List bt)(t:gp):ny gs t≤2:=(ua (Ao gs) t 2).1
theorem Mj(gs:List bt)(l:List aQ):qO gs l≤2:=by grind [qO]
theorem JN(r:cV)(hr:Fc r)(gs:List bt)(hf:sr gs)(h:Heap):ai prog 206 [aC r,bM gs] h fun x h' =>x=rsA (iK gs r)∧h' =h:=by
 have hob:=(ld hr.2.2.2).1;have hmt:=fun G=>Nk r.tgt (CZ hr.2.1) gs hf G
 have hcd:=fun G=>Pf r.cond hr.2.2.1 gs hf G
 have hef:=fun G=>JM r aeK (ny gs r.tgt) (qO gs r.cond) (Nj _ _) (Mj _ _) G
 simp only[aC,bM]at hmt hcd hef;refine aeJ func206 15 [.cell 4 96] fun hwf=>?_
 simp only[go_sem,aC,bM];intro i2 h2;simp only[go_sem];intro i4 h4;have n42:=aH h4;have n4:=aB h4;obtain⟨H,eH⟩:∃H,upd (upd h i2 (some (.obj [.s r.id,.b r.deny,aW r.tgt,fC r.cond,ay r.obls] 217))) i4 (some (.obj [.v (.complex .f64 0 0),.sl [] .full] 96))=H:=⟨_,rfl⟩;have hH:Ab.Sub h H:=by rw[←eH];exact((Sub.refl h).put h2 _).put n4 _
 have g2:H i2=some (.obj [.s r.id,.b r.deny,aW r.tgt,fC r.cond,ay r.obls] 217):=aiv;have g4:H i4=some (.obj [.v (.complex .f64 0 0),.sl [] .full] 96):=agh;simp only[go_sem];rw[eH];clear eH;refine .calls (hm1 i2 (.obj [.s r.id,.b r.deny,aW r.tgt,fC r.cond,ay r.obls] 217)) [0,1,2,3,5,6,7,4,8,9,10] (.hm1 g2) aeN rfl ?_;simp only[go_sem,gy];refine(hmt _).pthen ?_;refine⟨.hm1 g2,?_⟩;simp only[go_sem];refine(hcd _).pthen ?_;refine⟨.hm1 g2,?_⟩;simp only[go_sem];refine(hef _).pthen ?_;refine⟨.hm1 g2,?_⟩;simp only[go_sem,rsA,ay,aO,g4];refine⟨.hm1 (by rw[ag _ _ n42.symm];exact g2),?_⟩
 exact .mk _ (.refl _) (hH.put n4 _) ⟨rfl,rfl⟩
theorem BP(l:List j3):Sized 2 (l.map rsA):=bx (f:=rsA) (fun _=>rfl) l
theorem GL{id:Txt}{set:Bool}{alg:Int}(ha:1≤alg∧alg≤6){tgt:gp}{rules:List cV}{kids:List bE}{obls:List cC}(ho:obls.length≤1000000)(t:Nat)(ht:t=1∨t=2)(parts:List j3)(hp:∀x∈parts,M6 x.1)(hn:parts.length≤32){B:Nat}(hB:B≤10000000)(hpb:∀x∈parts,x.2.length≤B)(q:Perm)(h:Heap):
  ai prog 207 [aL (.mk id set alg tgt rules kids obls),.i t,.sl (parts.map rsA) q] h fun r h' =>r=rsA (qo alg obls t parts)∧h' =h:=by
 have hm6:∀m∈parts.map (·.1),M6 m:=fun m hm=>by obtain⟨x,hx,rfl⟩:=List.mem_map.1 hm;exact hp x hx
 have hc6:M6 (iu alg (parts.map (·.1))):=Ic hm6
 have uR:=W6;have uO:=W5;have uM:=W4;have hall:=fun(p:Perm) (G:Heap)=>Sm alg ha (parts.map (·.1)) (by rw[aeA];omega) hm6 p G
 simp only[ku]at hall;refine aeJ func207 84 [.cell 6 96] fun hwf=>?_
 simp only[go_sem,aL];intro i3 h3;simp only[go_sem];intro i6 h6;have n63:=aH h6;have n6' :=aB h6;obtain⟨H0,eH⟩:∃H0,upd (upd h i3 (some (.obj [.s id,.b set,.i alg,aW tgt,.sl (rules.map aC) .no,.sl (fF kids) .no,ay obls] 38))) i6 (some (.obj [.v (.complex .f64 0 0),.sl [] .full] 96))=H0:=⟨_,rfl⟩;have hH0:Ab.Sub h H0:=ahN;have g3:H0 i3=some (.obj [.s id,.b set,.i alg,aW tgt,.sl (rules.map aC) .no,.sl (fF kids) .no,ay obls] 38):=by rw[←eH,ag _ _ n63.symm,ah]
 have g6:H0 i6=some (.obj [.v (.complex .f64 0 0),.sl [] .full] 96):=agh;simp only[go_sem,aeA];rw[eH];clear eH;refine .intro (fun m ρ H=>∃(i:Nat) (y:AV),Acc U 51 H0 H y (((parts.map (·.1)).take i).map aO)∧i≤parts.length∧m=parts.length - i∧lk ρ 1=some (.i t)∧lk ρ 2=some (.sl (parts.map rsA) q)∧lk ρ 3=some (.ptr i3 0)∧lk ρ 6=some (.ptr i6 0)∧lk ρ 7=some y∧lk ρ 15=some (.sl (parts.map rsA) q)∧lk ρ 16=some (.i parts.length)∧lk ρ 17=some (.i i)) parts.length ?_ ?_
 ·refine⟨0,.sl [] .full,.full (.refl _),aeK,rfl,?_,?_,?_,?_,?_,?_,?_,?_⟩<;>simp only[go_sem]
 ·rintro m ρ H ⟨i,y,hy,hi,rfl,r1,r2,r3,r6,r7,r15,r16,r17⟩
  obtain⟨qy,eqy⟩:=hy.row;subst eqy;simp only[go_sem,r16,r17];refine .intro (fun e=>?_) (fun e=>?_)
  ·have hlt:i<parts.length:=aeH e
   have w1:=aeG i aeK;have hsn:((parts.map (·.1)).take (i+1)).map aO=((parts.map (·.1)).take i).map aO++ [aO parts[i].1]:=by rw[List.take_succ_eq_append_getElem afc,List.map_append,aeB];rfl
   have ix:=fun k=>eu.eq (xs:=parts.map rsA) (sz:=2) i afc aeU k
   rw[aeB]at ix;obtain⟨x,ex⟩:∃x,parts[i]=x:=⟨_,rfl⟩;rw[ex]at ix hsn;simp only[rsA,aO,ay]at ix;simp only[go_sem,r15,r17,ix];intro i9 h9;simp only[go_sem,r7];refine(hy.sub (.aj h9)).app (zs:=[aO x.1]) (by rw[uM];decide) aeP (fun k hk=>hk) (by rw[uM];exact bx (f:=aO) (fun _=>rfl) _) (by rw[uM];intro z hz;rw[List.mem_singleton.1 hz];rfl) ae4 fun y' H' hy' kp=>?_
   simp only[go_sem,r17,w1];refine⟨_,?_,i+1,y',by rw[hsn];exact hy',aeK,rfl,?_,?_,?_,?_,?_,?_,?_,?_⟩
   ·omega
   all_goals simp only[go_sem,r1,r2,r3,r6,r15,r16]
  ·have hge:i=parts.length:=by have:=aeD e;omega
   subst hge;have htl:(parts.map (·.1)).take parts.length=parts.map (·.1):=List.take_of_length_le aeR
   rw[htl]at hy;have k3:=hy.1 _ _ g3;have k6:=hy.1 _ _ g6;have hsH:=hH0.trans hy.1;have hjp:qo alg obls t parts=if t=0 then(naM,[])else if t=1 then(gX (iu alg (parts.map (·.1))),[])else if iu alg (parts.map (·.1))≠bg∧iu alg (parts.map (·.1))≠cJ then(iu alg (parts.map (·.1)),[])
     else(iu alg (parts.map (·.1)),eY alg (iu alg (parts.map (·.1))) parts++eV obls (iu alg (parts.map (·.1)))):=rfl
   have hple:(eY alg (iu alg (parts.map (·.1))) parts).length≤32*B+B:=uz hpb hn
   have hal:=fun G=>hall qy G
   obtain⟨m,em⟩:∃m,iu alg (parts.map (·.1))=m:=⟨_,rfl⟩
   rw[em]at hc6 hjp hal hple;have hin:=fun G=>yU m hc6.m9 G
   have npe:=(nb hc6.m9).npe;have nde:=(nb hc6.m9).nde;simp only[aO]at hal hin;rw[htl]at r7;simp only[go_sem,r3,r7,k3];refine(hal _).pthen ?_;rcases ht with rfl|rfl
   ·simp only[go_sem,r1]
    refine(hin _).pthen ?_;simp only[go_sem,r6,k6];exact .mk (rsA (gX m,[])) (rH [] (gX m) rfl _) (hsH.put n6' _) ⟨by rw[hjp];rfl,rfl⟩
   have k6H:=k6;cases dp:(m==bg)
   case true=>
    have e1:m=bg:=by simpa using dp
    have hne:¬(m≠bg∧m≠cJ):=fun hh=>hh.1 e1
    have hdu:=fun G=>rU obls ho m (.inl e1) G
    simp only[ay,aO]at hdu;simp only[go_sem,r1,npe,dp];exact aiX
   case false=>
    cases dd:(m==cJ)
    case true=>
     have e1:m=cJ:=by simpa using dd
     have hne:¬(m≠bg∧m≠cJ):=fun hh=>hh.2 e1
     have hdu:=fun G=>rU obls ho m (.inr e1) G
     simp only[ay,aO]at hdu;simp only[go_sem,r1,npe,nde,dp,dd];exact aiX
    case false=>
     have e1:m≠bg:=by simpa using dp
     have e2:m≠cJ:=by simpa using dd
     simp only[go_sem,r1,r6,npe,nde,dp,dd,k6];exact .mk (rsA (m,[])) (rH [] m rfl _) (hsH.put n6' _) ⟨by rw[hjp,if_neg aeO,if_neg aeO,if_pos ⟨e1,e2⟩],rfl⟩
theorem A8:∀(n d:Nat),d+n=5→∀(p:bE),mK d p→∀(gs:List bt),sr gs→∀(h:Heap),ai prog 154 [aL p,bM gs] h fun r h' =>r=rsA (fK gs p)∧h' =h
 |0,d,hd,.mk id set alg tgt rules kids obls,hE,gs,hf,h=>by simp only[mK]at hE;omega
 |n+1,d,hd,.mk id set alg tgt rules kids obls,hE,gs,hf,h=>by
  have ih:=A8 n (d+1) aeK;simp only[mK,ri]at hE;obtain⟨_,_,ha1,ha2,_,_,hT,hO,hR,hK,hRE,hKE⟩:=hE;have hob:=(ld hO).1;have hmt:=fun G=>Nk tgt (CZ hT) gs hf G
  have hev:fK gs (.mk id set alg tgt rules kids obls)=if ny gs tgt=0 then(naM,[])else qo alg obls (ny gs tgt) (rules.map (iK gs)++kids.map (fK gs)):=by simp only[fK,tY]
  have hjo:=fun(ht:ny gs tgt=1∨ny gs tgt=2) (q:Perm) (G:Heap)=>GL (id:=id) (set:=set) (alg:=alg) ⟨ha1,ha2⟩ (tgt:=tgt) (rules:=rules) (kids:=kids) (obls:=obls) aeK (ny gs tgt) ht (rules.map (iK gs)++kids.map (fK gs)) (fun x hx=>by
   rcases List.mem_append.1 hx with hx|hx
   ·obtain⟨r,_,rfl⟩:=List.mem_map.1 hx;exact Bb _ _ _
   ·obtain⟨r,_,rfl⟩:=List.mem_map.1 hx;exact xM gs r) afn (B:=10000000) (Nat.le_refl _) (fun x hx=>by
   rcases List.mem_append.1 hx with hx|hx
   ·obtain⟨r,hr,rfl⟩:=List.mem_map.1 hx
    have h1:=Ba r (ny gs r.tgt) (qO gs r.cond);have h2:=(ld (hRE r hr).2.2.2).1
    show(nQ r (ny gs r.tgt) (qO gs r.cond)).2.length≤_
    omega
   ·obtain⟨r,hr,rfl⟩:=List.mem_map.1 hx
    have h1:=Ct gs n (d+1) r aeK (hKE r hr);have h2:oB n≤oB 4:=by have:n≤4:=aeK;rcases(show n=0∨n=1∨n=2∨n=3∨n=4 by omega)with rfl|rfl|rfl|rfl|rfl<;>decide
    exact Nat.le_trans h1 (Nat.le_trans h2 aeO)) q G
  have hrl:=fun(r:cV) (hr:Fc r) (G:Heap)=>JN r hr gs hf G
  have hml:=Nj gs tgt;obtain⟨t,et⟩:∃t,ny gs tgt=t:=⟨_,rfl⟩;rw[et]at hmt hjo hev hml;simp only[aL,bM,aX,aW,ay]at hmt hjo hrl;have uR:=W6;refine aeJ func154 50 [.cell 4 96] fun hwf=>?_
  simp only[go_sem,aL,bM,aX,aW,ay];intro i2 h2;simp only[go_sem];intro i4 h4;have n42:=aH h4;have n4' :=aB h4;obtain⟨H0,eH⟩:∃H0,upd (upd h i2 (some (.obj [.s id,.b set,.i alg,.sl (tgt.map cE) .no,.sl (rules.map aC) .no,.sl (kids.map aL) .no,.sl (obls.map aY) .no] 38))) i4 (some (.obj [.v (.complex .f64 0 0),.sl [] .full] 96))=H0:=⟨_,rfl⟩;have hH0:Ab.Sub h H0:=ahM;have g2:H0 i2=some (.obj [.s id,.b set,.i alg,.sl (tgt.map cE) .no,.sl (rules.map aC) .no,.sl (kids.map aL) .no,.sl (obls.map aY) .no] 38):=aiv;have g4:H0 i4=some (.obj [.v (.complex .f64 0 0),.sl [] .full] 96):=agh;simp only[go_sem,ak,n42.symm];rw[eH];clear eH;refine(hmt _).pthen ?_;cases dt:((t:Int)==0)
  case true=>
   have e0:t=0:=by have:(t:Int)=0:=(by simpa using dt);omega
   simp only[go_sem,dt,g4];exact .mk (rsA (naM,[])) (rH [] naM rfl _) (hH0.put n4' _) ⟨by rw[hev,if_pos e0],rfl⟩
  have ht0:t≠0:=by rintro rfl;simp at dt
  have ht12:t=1∨t=2:=aeK;rw[if_neg ht0]at hev;simp only[go_sem,dt,g2,aeA];refine .intro (fun m ρ H=>∃(i:Nat) (y:AV),Acc U 96 H0 H y (((rules.map (iK gs)).take i).map rsA)∧i≤rules.length∧m=rules.length - i∧lk ρ 1=some (.sl (gs.map lS) .no)∧lk ρ 2=some (.ptr i2 0)∧lk ρ 4=some (.ptr i4 0)∧lk ρ 5=some (.i t)∧lk ρ 6=some y∧lk ρ 19=some (.sl (rules.map aC) .no)∧lk ρ 20=some (.i rules.length)∧lk ρ 21=some (.i i)) rules.length ?_ ?_
  ·refine⟨0,.sl [] .full,.full (.refl _),aeK,rfl,?_,?_,?_,?_,?_,?_,?_,?_⟩<;>simp only[go_sem]
  ·rintro m ρ H ⟨i,y,hy,hi,rfl,r1,r2,r4,r5,r6,r19,r20,r21⟩
   obtain⟨qy,eqy⟩:=hy.row;subst eqy;simp only[go_sem,r20,r21];refine .intro (fun e=>?_) (fun e=>?_)
   ·have hlt:i<rules.length:=aeH e
    have w1:=aeG i aeK;have hsn:((rules.map (iK gs)).take (i+1)).map rsA=((rules.map (iK gs)).take i).map rsA++ [rsA (iK gs rules[i])]:=by rw[List.take_succ_eq_append_getElem afc,List.map_append,aeB];rfl
    have ix:=fun k=>eu.eq (xs:=rules.map aC) (sz:=5) i afc aeU k
    rw[aeB]at ix;have hre:=hRE _ (aeF hlt);obtain⟨x,ex⟩:∃x,rules[i]=x:=⟨_,rfl⟩;rw[ex]at ix hsn hre;have hr1:=hrl x hre;simp only[aC,aW,ay]at ix hr1;simp only[go_sem,r19,r21,ix];intro i8 h8;simp only[go_sem,r1,r6];refine(hr1 _).pthen ?_;simp only[go_sem,rsA,aO,ay];refine(hy.sub (.aj h8)).app (zs:=[rsA (iK gs x)]) (by rw[uR];decide) aeP (fun k hk=>hk) (by rw[uR];exact BP _) ahn ae4 fun y' H' hy' kp=>?_
    simp only[go_sem,r21,w1];refine⟨_,?_,i+1,y',by rw[hsn];exact hy',aeK,rfl,?_,?_,?_,?_,?_,?_,?_,?_⟩
    ·omega
    all_goals simp only[go_sem,r1,r2,r4,r5,r19,r20]
   ·have hge:i=rules.length:=by have:=aeD e;omega
    subst hge;have htl:(rules.map (iK gs)).take rules.length=rules.map (iK gs):=List.take_of_length_le aeR;rw[htl]at hy r6;have k2:=hy.1 _ _ g2;simp only[go_sem,r2,k2,aeA];refine .intro (fun m ρ H=>∃(i:Nat) (y:AV),Acc U 96 H0 H y ((rules.map (iK gs)++(kids.map (fK gs)).take i).map rsA)∧i≤kids.length∧m=kids.length - i∧lk ρ 1=some (.sl (gs.map lS) .no)∧lk ρ 2=some (.ptr i2 0)∧lk ρ 4=some (.ptr i4 0)∧lk ρ 5=some (.i t)∧lk ρ 6=some y∧lk ρ 33=some (.sl (kids.map aL) .no)∧lk ρ 34=some (.i kids.length)∧lk ρ 35=some (.i i)) kids.length ?_ ?_
    ·refine⟨0,_,by rw[List.take_zero,List.append_nil];exact hy,aeK,rfl,?_,?_,?_,?_,?_,?_,?_,?_⟩<;>simp only[go_sem,r1,r2,r4,r5,r6]
    ·rintro m ρ2 H2 ⟨i,y,hy,hi,rfl,s1,s2,s4,s5,s6,s33,s34,s35⟩
     obtain⟨qy,eqy⟩:=hy.row;subst eqy;simp only[go_sem,s34,s35];refine .intro (fun e=>?_) (fun e=>?_)
     ·have hlt:i<kids.length:=aeH e
      have w1:=aeG i aeK;have hsn:(rules.map (iK gs)++(kids.map (fK gs)).take (i+1)).map rsA=(rules.map (iK gs)++(kids.map (fK gs)).take i).map rsA++ [rsA (fK gs kids[i])]:=by rw[List.take_succ_eq_append_getElem afc,←List.append_assoc,List.map_append,aeB];rfl
      have ix:=fun k=>eu.eq (xs:=kids.map aL) (sz:=7) i afc (by rw[aeB,jK]) k
      rw[aeB]at ix;have hke:=hKE _ (aeF hlt);obtain⟨x,ex⟩:∃x,kids[i]=x:=⟨_,rfl⟩;rw[ex]at ix hsn hke;have hr1:=ih x hke gs hf;obtain⟨kid,kset,kalg,ktgt,krules,kkids,kobls⟩:=x;simp only[aL,aW,ay,bM,aX]at ix hr1;simp only[go_sem,s33,s35,ix];intro i10 h10;simp only[go_sem,s1,s6];refine(hr1 _).pthen ?_;simp only[go_sem,rsA,aO,ay];refine(hy.sub (.aj h10)).app (zs:=[rsA (fK gs (.mk kid kset kalg ktgt krules kkids kobls))]) (by rw[uR];decide) aeP (fun k hk=>hk) (by rw[uR];exact BP _) ahn (by simp only[go_sem,aeA,List.length_take,List.length_cons,List.length_nil,aeE];omega) fun y' H' hy' kp=>?_
      simp only[go_sem,s35,w1];refine⟨_,?_,i+1,y',by rw[hsn];exact hy',aeK,rfl,?_,?_,?_,?_,?_,?_,?_,?_⟩
      ·omega
      all_goals simp only[go_sem,s1,s2,s4,s5,s33,s34]
     ·have hge:i=kids.length:=by have:=aeD e;omega
      subst hge;have htl:(kids.map (fK gs)).take kids.length=kids.map (fK gs):=List.take_of_length_le aeR;rw[htl]at hy s6;have k2:=hy.1 _ _ g2;have k4:=hy.1 _ _ g4;have hj:=fun G=>hjo ht12 qy G
      rw[←hev]at hj;obtain⟨z,ez⟩:∃z,fK gs (.mk id set alg tgt rules kids obls)=z:=⟨_,rfl⟩;rw[ez]at hj;simp only[go_sem,s2,s5,s6,k2];refine(hj _).pthen ?_;simp only[go_sem,s4,rsA,aO,ay,k4];exact .mk (rsA z) (.refl _) ((hH0.trans hy.1).put n4' _) ⟨by rw[ez];rfl,rfl⟩
theorem DO(p:bE)(hp:gL p=0)(gs:List bt)(hf:sr gs)(h:Heap):ai prog 98 [aL p,bM gs] h fun r h' =>r= .tup [rsA (fK gs p),.i 0]∧h' =h:=by
 have hd:=fun G=>A8 4 1 rfl p (rI hp) gs hf G
 have hr:=fun G=>uL p G
 rw[hp]at hr;obtain⟨id,set,alg,tgt,rules,kids,obls⟩:=p;refine aeJ func98 13 [.cell 4 96,.tmp 5] fun hwf=>?_
 simp only[go_sem,aL,bM,aW,ay];intro i2 h2;simp only[go_sem];intro i4 h4;have n42:=aH h4;have n4:=aB h4;have hs:∀x y,Ab.Sub h (upd (upd h i2 x) i4 y):=fun x y=>((Sub.refl h).put h2 x).put n4 y
 simp only[go_sem,ak,n42.symm];refine(hr _).pthen ?_;simp only[go_sem,ak,n42.symm];refine(hd _).pthen ?_;simp only[go_sem,rsA,aO,ay];exact agr
end Go.Proofs.YtokahfmoollblaaGreatDoor
namespace Go.Bf
open Go Go.Ab Go.Proofs.YtokahfmoollblaaGreatDoor
variable {a b':eO}{s:Txt}{r tgt:gp}{l:List bP}{n:Nat}
def rep(n:Nat)(t:Txt):Txt:=(List.replicate n t).flatten
def MLe(a b:eO):Prop:=(∀x∈a.met,x∈b.met)∧a.rules≤b.rules
theorem MLe.refl(a:eO):MLe a a:=⟨fun _ h=>h,Nat.le_refl _⟩
theorem MLe.trans{b c:eO}(h1:MLe a b)(h2:MLe b c):MLe a c:=⟨fun x h=>h2.1 x (h1.1 x h),Nat.le_trans h1.2 h2.2⟩
theorem IJ{b:eO}(h:MLe a b)(hm:jz b s=some b'):∃a',jz a s=some a'∧MLe a' b' :=by
 unfold jz at hm⊢;split at hm
 ·rename_i hc
  cases hm;refine⟨_,if_pos ⟨fun hx=>hc.1 (h.1 s hx),hc.2⟩,fun x hx=>?_,h.2⟩
  rcases List.mem_append.1 hx with hx|hx
  ·exact List.mem_append.2 (.inl (h.1 x hx))
  grind
 grind
theorem IK{b:eO}(hm:jz b s=some b'):MLe b b' :=by
 unfold jz at hm;split at hm
 ·cases hm;exact⟨fun x hx=>List.mem_append.2 (.inl hx),Nat.le_refl _⟩
 grind
theorem oX{e:Int}{w:Went}{m:eO}(h:need e w= .ok m):e=0∧w= .ok m:=by grind [need]
theorem Qu{b:eO}{r:cV}(h:MLe a b)(hr:gG b r= .ok b'):(∃a',gG a r= .ok a'∧MLe a' b')∧MLe b b' :=by
 unfold gG at hr⊢;cases hm:jz b r.id with
 |none=>grind
 |some m=>
  rw[hm]at hr;obtain⟨a',ha,hl⟩:=IJ h hm;simp only at hr;split at hr
  ·grind
  ·obtain⟨e1,hr⟩:=oX hr
   obtain⟨e2,hr⟩:=oX hr;obtain⟨e3,hr⟩:=oX hr;cases hr;have hup:=IK hm;refine⟨⟨⟨a'.met,a'.rules+1⟩,?_,hl.1,by have:=hl.2;simp only;omega⟩,hup.1,by have:=hup.2;simp only;omega⟩
   rw[ha];have:=hl.2;simp only[e1,e2,e3,need,if_true];rw[if_neg aeK]
theorem Ff:∀(l:List cV) {a b b' :eO},MLe a b→fG b l= .ok b'→(∃a',fG a l= .ok a'∧MLe a' b')∧MLe b b'
 | [],a,b,b',h,hr=>by cases hr;exact⟨⟨a,rfl,h⟩,.refl _⟩
 |r::l,a,b,b',h,hr=>by
  simp only[fG]at hr⊢;cases hw:gG b r with
  |bad e=>grind
  |ok m=>rw[hw]at hr;obtain⟨⟨a',ha,hl⟩,hu⟩:=Qu h hw;obtain⟨⟨a'',ha',hl'⟩,hu'⟩:=Ff l hl hr;exact⟨⟨a'',aeL,hl'⟩,hu.trans hu'⟩
theorem PD{b:eO}{id:Txt}{set:Bool}{alg:Int}{nr nk nk' :Nat}{obls:List cC}(h:MLe a b)(hk:nk'≤nk)(hr:fo b id set alg tgt nr nk obls= .ok b'):(∃a',fo a id set alg tgt nr nk' obls= .ok a'∧MLe a' b')∧MLe b b' :=by
 unfold fo at hr⊢;cases hm:jz b id with
 |none=>rw[hm]at hr;cases hr
 |some m=>
  rw[hm]at hr;obtain⟨a',ha,hl⟩:=IJ h hm;simp only at hr;split at hr
  ·cases hr
  ·rename_i h1
   split at hr
   ·cases hr
   ·rename_i h2
    obtain⟨e1,hr⟩:=oX hr;obtain⟨e2,hr⟩:=oX hr;split at hr
    ·cases hr
    ·rename_i h3
     cases hr;refine⟨⟨a',?_,hl⟩,IK hm⟩;rw[ha];have h2' :¬(set=true∧nr>0∨set=false∧(nk' >0∨alg=4)):=by
      rintro(⟨p,q⟩|⟨p,q|q⟩)
      ·exact h2 (.inl ⟨p,q⟩)
      ·exact h2 (.inr ⟨p,.inl aeK⟩)
      ·exact h2 (.inr ⟨p,.inr q⟩)
     simp only[if_neg h1,if_neg h2',e1,e2,need,if_true];rw[if_neg aeK]
theorem ET(gs:List bt):∀l:List bE,(kU gs l).length≤l.length
 | []=>by simp[kU]
 |k::r=>by have:=ET gs r;simp only[kU];split<;>simp<;>omega
mutual
theorem EW(gs:List bt):∀(p:bE) (d:Nat) {a b b' :eO},MLe a b→lf b d p= .ok b'→(∃a',lf a d (lY gs p)= .ok a'∧MLe a' b')∧MLe b b'
 |.mk id set alg tgt rules kids obls,d,a,b,b',h,hr=>by
  simp only[lf,lY]at hr⊢;split at hr
  ·cases hr
  ·rename_i hd
   rw[if_neg hd];cases hh:fo b id set alg tgt rules.length kids.length obls with
   |bad e=>rw[hh]at hr;cases hr
   |ok m=>
    rw[hh]at hr;simp only at hr;obtain⟨⟨a1,ha1,hl1⟩,hu1⟩:=PD h (ET gs kids) hh;cases hw:fG m rules with
    |bad e=>rw[hw]at hr;cases hr
    |ok m2=>rw[hw]at hr;simp only at hr;obtain⟨⟨a2,ha2,hl2⟩,hu2⟩:=Ff rules hl1 hw;obtain⟨⟨a3,ha3,hl3⟩,hu3⟩:=vA gs kids (d+1) hl2 hr;refine⟨⟨a3,?_,hl3⟩,(hu1.trans hu2).trans hu3⟩;rw[ha1];simp only[ha2];exact ha3
theorem vA(gs:List bt):∀(l:List bE) (d:Nat) {a b b' :eO},MLe a b→jh b d l= .ok b'→(∃a',jh a d (kU gs l)= .ok a'∧MLe a' b')∧MLe b b'
 | [],d,a,b,b',h,hr=>by simp only[jh,kU]at hr⊢;cases hr;exact⟨⟨a,rfl,h⟩,.refl _⟩
 |k::r,d,a,b,b',h,hr=>by
  simp only[jh]at hr;cases hw:lf b d k with
  |bad e=>rw[hw]at hr;cases hr
  |ok m=>
   rw[hw]at hr;simp only at hr;obtain⟨⟨a1,ha1,hl1⟩,hu1⟩:=EW gs k d h hw;simp only[kU];split
   ·obtain⟨⟨a2,ha2,hl2⟩,hu2⟩:=vA gs r d hl1 hr
    refine⟨⟨a2,?_,hl2⟩,hu1.trans hu2⟩;simp only[jh,ha1];exact ha2
   ·obtain⟨⟨a2,ha2,hl2⟩,hu2⟩:=vA gs r d (h.trans hu1) hr
    exact⟨⟨a2,ha2,hl2⟩,hu1.trans hu2⟩
end
theorem Hp(gs:List bt){p:bE}(h:gL p=0):gL (lY gs p)=0:=by
 unfold gL at*;cases hw:lf ⟨[],0⟩ 1 p with
 |bad e=>have:=uC 4 1 _ _ e rfl hw;rw[hw]at h;exact(this h).elim
 |ok m=>obtain⟨⟨a,ha,_⟩,_⟩:=EW gs p 1 (.refl _) hw;rw[ha];rfl
def Xf:bP:=⟨⟨0,[],false⟩,0,aq⟩
def PL(k:Option bP):AV:=match k with
 |some m=> .tup [cK m,.b true]
 |none=> .tup [cK Xf,.b false]
theorem MY{x:List (List bP)}(h:x.length≠1):oV (x::r)=oV r:=by
 match x,h with
 | [],_=>rfl
 | [l],h=>exact(h rfl).elim
 |a::b::c,_=>rfl
theorem MX(h:(l.find? fun m=>m.op==1 && !m.attr.must)=none):oV ([l]::r)=oV r:=by grind [oV]
theorem MZ{m:bP}(h:(l.find? fun m=>m.op==1 && !m.attr.must)=some m):oV ([l]::r)=some m:=by grind [oV]
theorem ES(gs:List bt):∀l:List bE,kU gs l=(l.filter (sX gs)).map (lY gs)
 | []=>aeZ
 |k::r=>by
  simp only[kU,List.filter_cons,ES gs r]
  grind
def ixP(gs:List bt)(l:List bE)(n:Nat):List Nat:=(List.range n).filter fun j=>sX gs (l.getD j mz)
theorem Ek(gs:List bt)(l:List bE)(h:n<l.length):ixP gs l (n+1)=ixP gs l n++(if sX gs l[n]=true then [n]else []):=by grind [ixP,List.range_succ,List.getD,List.getElem?_eq_getElem]
theorem El(gs:List bt)(l:List bE):∀n:Nat,n≤l.length→(ixP gs l n).map (fun j=>l.getD j mz)=(l.take n).filter (sX gs)
 |0,_=>aeZ
 |n+1,h=>by
  have hlt:n<l.length:=aeK;rw[Ek gs l hlt,List.map_append,El gs l n aeK,List.take_succ_eq_append_getElem hlt,List.filter_append,List.filter_cons]
  congr 1
  grind
theorem S6{gs:List bt}{l:List bE}{j:Nat}(h:j∈ixP gs l n):j<n:=List.mem_range.1 (List.mem_filter.1 h).1
theorem ID(gs:List bt)(l:List bE)(n:Nat):(ixP gs l n).length≤n:=by grind [ixP,Nat.le_trans,List.length_filter_le]
theorem MS(gs:List bt)(l:List bE):(ixP gs l l.length).map (fun j=>lY gs (l.getD j mz))=kU gs l:=by rw[ES,←List.take_length (l:=l),←El gs l l.length (Nat.le_refl _),List.map_map,List.take_length];rfl
theorem oW(m:bP):cK m= .agg [.i m.attr.cat,.s m.attr.name,.b m.attr.must,.i m.op,.i m.val.kind,.i m.val.n,.s m.val.s]:=rfl
end Go.Bf
namespace Go.Proofs.YtokahfmoollblaaGreatDoor
open Go Go.Ab Go.Bf Tryz
theorem S7(t:gp)(ht:OV t)(h:Heap):ai prog 208 [aW t] h fun r h' =>r=PL (oV t)∧h' =h:=by
 have htl:=ht.1;refine aeJ func208 38 [.cell 2 269,.tmp 3] fun hwf=>?_
 simp only[go_sem,aW];intro i2 h2;simp only[go_sem,aeA];have hH0:∀x,Ab.Sub h (upd h i2 x):=fun x=> .aj h2
 refine .intro (fun m ρ H=>Ab.Sub h H∧H i2=some (.obj [.i 0,.s [],.b false,.i 0,.i 0,.i 0,.s []] 269)∧∃i:Nat,i≤t.length∧m=t.length - i∧oV (t.drop i)=oV t∧lk ρ 2=some (.ptr i2 0)∧lk ρ 8=some (.sl (t.map cE) .no)∧lk ρ 9=some (.i t.length)∧lk ρ 10=some (.i i)) t.length ?_ ?_
 ·refine⟨hH0 _,ah ..,0,aeK,rfl,rfl,?_,?_,?_,?_⟩<;>simp only[go_sem]
 ·rintro m ρ H ⟨hs,k2,i,hi,rfl,hk,r2,r8,r9,r10⟩
  simp only[go_sem,r9,r10];refine .intro (fun e=>?_) (fun e=>?_)
  ·have hlt:i<t.length:=aeH e
   have w1:IntKind.i64.wrap ((i:Int)+1)=((i+1:Nat):Int):=aeW;rw[List.drop_eq_getElem_cons hlt]at hk;have hxl:=(ht.2 _ (aeF hlt)).2;have ix:=fun k=>eu.eq (xs:=t.map cE) (sz:=1) i aeL aeU k
   rw[aeB]at ix;obtain⟨x,ex⟩:∃x,t[i]=x:=⟨_,rfl⟩;rw[ex]at ix hk hxl;simp only[cE]at ix;cases d1:((x.length:Int) !=1)
   case true=>
    have hx1:x.length≠1:=aeL;rw[MY hx1]at hk;simp only[go_sem,r8,r10,ix,aeA,d1,w1];refine⟨_,?_,hs,k2,i+1,aeK,rfl,hk,?_,?_,?_,?_⟩
    ·omega
    all_goals simp only[go_sem,r2,r8,r9]
   have hx1:x.length=1:=aeL;obtain⟨l,rfl⟩:=List.length_eq_one_iff.1 hx1;have hll:=hxl l (List.mem_singleton.2 rfl);have iy:=fun k=>eu.eq (xs:=[iC l]) (sz:=1) 0 aeR rfl k
   simp only[List.getElem_cons_zero,iC,Int.natCast_zero]at iy;simp only[go_sem,r8,r10,ix,aeA,List.length_cons,List.length_nil,List.map_cons,List.map_nil,iC,iy];refine .intro (fun m ρ2 H2=>Ab.Sub h H2∧H2 i2=some (.obj [.i 0,.s [],.b false,.i 0,.i 0,.i 0,.s []] 269)∧∃j:Nat,j≤l.length∧m=l.length - j∧(∀k (h1:k<l.length),k<j→(l[k].op==1 && !l[k].attr.must)=false)∧lk ρ2 2=some (.ptr i2 0)∧lk ρ2 8=some (.sl (t.map cE) .no)∧lk ρ2 9=some (.i t.length)∧lk ρ2 10=some (.i i)∧lk ρ2 19=some (.sl (l.map cK) .no)∧lk ρ2 20=some (.i l.length)∧lk ρ2 21=some (.i j)) l.length ?_ ?_
   ·refine⟨hs,k2,0,aeK,rfl,fun k _ hk=>aeK,?_,?_,?_,?_,?_,?_,?_⟩<;>simp only[go_sem,r2,r8,r9,r10]
   ·rintro m ρ2 H2 ⟨hs2,k2,j,hj,rfl,hc,s2,s8,s9,s10,s19,s20,s21⟩
    simp only[go_sem,s20,s21];refine .intro (fun e=>?_) (fun e=>?_)
    ·have hlt2:j<l.length:=aeH e
     have w2:IntKind.i64.wrap ((j:Int)+1)=((j+1:Nat):Int):=aeW;have iz:=fun k=>eu.eq (xs:=l.map cK) (sz:=7) j aeL aeU k
     rw[aeB]at iz;have hci:=fun(d:(l[j].op==1 && !l[j].attr.must)=false)=>(fun k (h1:k<l.length) (hk:k<j+1)=>(by grind:(l[k].op==1 && !l[k].attr.must)=false))
     have hat:=fun(d:(l[j].op==1 && !l[j].attr.must)=true)=>(List.find?_eq_some_iff_getElem.2 ⟨d,j,hlt2,rfl,fun k hk=>aeL⟩:(l.find? fun m=>m.op==1 && !m.attr.must)=some l[j])
     obtain⟨z,ez⟩:∃z,l[j]=z:=⟨_,rfl⟩;rw[ez]at iz hci hat;simp only[oW]at iz;simp only[go_sem,s19,s21,iz];intro i7 h7;have n72:i7≠i2:=fun e=>aeL
     cases a1:(z.op==1)
     ·exact ajC
     ·cases a2:z.attr.must
      ·have hkk:=hk.symm.trans (MZ (hat aeL))
       simp only[go_sem,s2,a1,ak,n72.symm,k2];exact .mk _ (.refl _) ((hs2.trans (.aj h7)).put h2 _) ⟨by rw[hkk];simp only[PL,oW,a2];rfl,rfl⟩
      ·exact ajC
    ·have hge:j=l.length:=by grind
     subst hge;rw[MX (List.find?_eq_none.2 fun z hz=>by
      obtain⟨k,hk,rfl⟩:=List.mem_iff_getElem.1 hz
      grind)]at hk
     simp only[go_sem,s10,w1];refine⟨_,?_,hs2,k2,i+1,aeK,rfl,hk,?_,?_,?_,?_⟩
     ·omega
     all_goals simp only[go_sem,s2,s8,s9]
  ·have hge:i=t.length:=by grind
   subst hge;rw[List.drop_length]at hk;simp only[go_sem,r2,k2];exact .mk _ (.refl _) (hs.put h2 _) ⟨by rw[←hk];rfl,rfl⟩
theorem Kz{gs:List bt}{p:bE}(h:oV (tf p)=none):sX gs p=true:=by grind [sX]
theorem KA{gs:List bt}{p:bE}{m:bP}(h:oV (tf p)=some m):sX gs p=decide (kC gs m≠0):=by grind [sX]
def um(n:Nat):AV:=.i n
theorem NM(l:List bE)(hl:l.length≤1000)(ht:∀p∈l,OV (tf p))(gs:List bt)(hf:sr gs)(h:Heap):ai prog 155 [.sl (l.map aL) .no,bM gs] h fun r h' =>r= .sl ((ixP gs l l.length).map um) .no∧h' =h:=by
 have hmt:=fun(m:bP) (G:Heap)=>Bv m gs hf G
 simp only[oW,bM]at hmt;have uI:(U 3).sz=1:=aeZ;refine aeJ func155 37 [.tmp 4] fun hwf=>?_
 simp only[go_sem,bM,aeA];refine .intro (fun m ρ H=>∃(i:Nat) (y:AV),Acc U 3 h H y ((ixP gs l i).map um)∧i≤l.length∧m=l.length - i∧lk ρ 1=some (.sl (gs.map lS) .no)∧lk ρ 5=some y∧lk ρ 10=some (.sl (l.map aL) .no)∧lk ρ 11=some (.i l.length)∧lk ρ 12=some (.i i)) l.length ?_ ?_
 ·refine⟨0,.sl [] .full,.full (.refl _),aeK,rfl,?_,?_,?_,?_,?_⟩<;>simp only[go_sem]
 ·rintro m ρ H ⟨i,y,hy,hi,rfl,r1,r5,r10,r11,r12⟩
  obtain⟨qy,eqy⟩:=hy.row;subst eqy;simp only[go_sem,r11,r12];refine .intro (fun e=>?_) (fun e=>?_)
  ·have hlt:i<l.length:=aeH e
   have w1:IntKind.i64.wrap ((i:Int)+1)=((i+1:Nat):Int):=aeW;have hsn:=Ek gs l hlt;have hpl:=ID gs l i;have ix:=fun k=>eu.eq (xs:=l.map aL) (sz:=7) i aeL (by rw[aeB,jK]) k
   rw[aeB]at ix;have hft:=ht _ (aeF hlt);obtain⟨x,ex⟩:∃x,l[i]=x:=⟨_,rfl⟩;rw[ex]at ix hsn hft;have hky:=fun G=>S7 (tf x) hft G
   have mn:=fun h=>Kz (gs:=gs) (p:=x) h
   have ms:=fun m h=>KA (gs:=gs) (p:=x) (m:=m) h
   obtain⟨kid,kset,kalg,ktgt,krules,kkids,kobls⟩:=x;simp only[tf]at hky hft mn ms;simp only[aL,aW,ay,aX]at ix;simp only[aW]at hky;simp only[go_sem,r10,r12,ix];intro i7 h7;simp only[go_sem];refine(hky _).pthen ?_;have hkeep:sX gs (.mk kid kset kalg ktgt krules kkids kobls)=true→ixP gs l (i+1)=ixP gs l i++ [i]:=fun e=>aeL
   have hdrop:sX gs (.mk kid kset kalg ktgt krules kkids kobls)=false→ixP gs l (i+1)=ixP gs l i:=fun e=>aeL
   cases hk:oV ktgt with
   |none=>simp only[go_sem,PL,oW];intro i8 h8;simp only[go_sem,r5];exact ajm
   |some m=>
    have hm2:=ms m hk;simp only[go_sem,PL,oW];intro i8 h8;simp only[go_sem,r1];refine(hmt m _).pthen ?_;cases dm:((kC gs m:Int) !=0)
    ·have e0:kC gs m=0:=by grind
     simp only[go_sem,r12,dm,w1];refine⟨_,?_,i+1,_,by rw[hdrop aeL];exact(hy.sub (.aj h7)).sub (.aj h8),aeK,rfl,?_,?_,?_,?_,?_⟩
     ·omega
     all_goals simp only[go_sem,r1,r5,r10,r11]
    ·have e0:kC gs m≠0:=by grind
     simp only[go_sem,r5,dm];exact ajm
  ·have hge:i=l.length:=by grind
   subst hge;simp only[go_sem,r5];exact .mk _ (.sl _ _) hy.1 ⟨rfl,rfl⟩
end Go.Proofs.YtokahfmoollblaaGreatDoor
