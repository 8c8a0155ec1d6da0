/- The law TopAgain: pack 5 of its texts. -/
import Derived.WalkKit
import Derived.Lib.Walk
import Derived.Lib.SliceRun
import Derived.Lib.AppendZerosOnto
import Derived.Test.YtbbadggejjgihaaGreatDoorPk1
import Derived.Test.YtbbadggejjgihaaGreatDoorPk2
import Derived.Test.YtbbadggejjgihaaGreatDoorPk3
import Derived.Test.YtbbadggejjgihaaGreatDoorPk4
set_option linter.unusedSimpArgs false
set_option linter.unusedVariables false
set_option maxRecDepth 100000
namespace Go.Bf
open Go Go.Ab Go.Proofs.YtbbadggejjgihaaGreatDoor
theorem eE.eq{xs:List AV}{sz:Nat}(j:Nat)(hj:j<xs.length)(hz:xs[j].cells.length=sz)(k:AV→Prop):eE xs (j:Int) sz k=k (.pe xs[j] 0):=propext ⟨fun h=>by
 obtain⟨_,b,hb,_,hk⟩:=h;have:xs[j]? =some xs[j]:=aec;rw[show((j:Int).toNat)=j by simp,this]at hb
 cases hb;exact hk,fun h=>eE.at j hj hz h⟩
def Ax(l:List bu):Prop:=l.length≤16∧∀v∈l,bz v=true∧∀w∈l.head?,v.kind=w.kind
structure Qo (gs:List bt):Prop where
 len:gs.length≤64
 each:∀g∈gs,1≤g.cat∧g.cat≤4∧bp g.name=true∧Ax g.bag
 dist:gs.Pairwise fun a b=>iW b.cat b.name a=false
def xe(g:bt):Int×Txt:=(g.cat,g.name)
theorem LR(gs:List bt):(gs.Pairwise fun a b=>iW b.cat b.name a=false)↔(gs.map xe).Nodup:=by
 simp[List.Nodup,List.pairwise_map,bt,iW,false,xe]
theorem jt{v:bu}(h:bz v=true):Ax [v]:=⟨aec,fun w hw=>ad5⟩
theorem pE{s:Txt}(h:bp s=true):bz (idV s)=true:=by grind [bz,idV]
theorem IX{l:List gZ}(h:∀r∈l,bp r.role=true)(s:Txt):Ax (dz l s):=by
 have hv:∀v∈dz l s,bz v=true∧v.kind=5:=fun v hv=>by
  have:=List.mem_of_mem_take hv;obtain⟨r,hr,rfl⟩:=List.mem_map.1 this;exact⟨pE ad5,rfl⟩
 refine⟨by grind [dz,List.length_take],fun v hm=>⟨(hv v hm).1,fun w hw=>?_⟩⟩
 grind
theorem LH{c:UInt8}{i j:Nat}(h:tj c j=true)(hi:i≠0):tj c i=true:=by
 simp only[tj,Bool.or_eq_true,Bool.and_eq_true,decide_eq_true_eq]at h⊢
 grind
theorem FL{n:Txt}(h:bp n=true)(hl:n.length≤14):bp ([102,95]++n)=true:=by
 simp only[bp,Bool.and_eq_true,decide_eq_true_eq]at h⊢;obtain⟨⟨h1,h2⟩,h3⟩:=h;refine⟨⟨?_,aec⟩,ad5⟩;unfold vP at h1⊢;rw[List.all_eq_true]at h1⊢
 rintro⟨c,i⟩ hp
 rw[List.mk_mem_zipIdx_iff_getElem?]at hp
 match i,hp with
 |0,hp=>cases hp;rfl
 |1,hp=>cases hp;rfl
 |i+2,hp=>
  exact LH (h1 (c,i) (List.mk_mem_zipIdx_iff_getElem?.2 hp)) ad4
theorem GS{s:Txt}(h:s∈pS):bp s=true:=by
 simp only[pS,List.mem_cons,List.not_mem_nil,or_false]at h;rcases h with rfl|rfl|rfl|rfl<;>kernel_rfl
theorem CQ(k:Int)(h:1≤k∧k≤8):bp (iQ k)=true:=by
 have:(List.range 9).all (fun n=>bp (iQ n))=true:=aek
 have h2:=List.all_eq_true.1 this k.toNat ad5
 rwa [show((k.toNat:Nat):Int)=k by omega]at h2
theorem NN(l:List wY)(s:Txt):bz (uz l s)=true:=by
 unfold uz;cases l.any fun x=>x.actor==s<;>rfl
theorem I2{c:aM}(hc:uF c)(s:Txt):∀g∈cI c s,g.cat=3∧bp g.name=true∧Ax g.bag:=by
 intro g hg;simp only[cI,List.mem_append,List.mem_cons,List.not_mem_nil,or_false]at hg;rcases hg with((rfl|rfl|rfl|rfl|rfl)|hg)|hg
 ·exact⟨rfl,aek,jt (pE hc.id)⟩
 ·exact⟨rfl,aek,jt (pE hc.owner)⟩
 ·exact⟨rfl,aek,jt (pE (GS hc.state))⟩
 ·exact⟨rfl,aek,jt aek⟩
 ·exact⟨rfl,aek,jt (NN _ _)⟩
 ·cases hl:c.log.getLast? with
  |none=>grind
  |some x=>
   rw[hl]at hg;rw[List.mem_singleton.1 hg];exact⟨rfl,aek,jt (pE (hc.actor x (List.mem_of_getLast? hl)).1)⟩
 ·obtain⟨f,hf,rfl⟩:=List.mem_map.1 hg
  obtain⟨hf1,hf2⟩:=List.mem_filter.1 hf;have hf2:f.name.length≤14:=ad5;obtain⟨h1,h2,_⟩:=hc.field f hf1;exact⟨rfl,FL h1 hf2,jt h2⟩
theorem I1{c:aM}(hc:uF c)(s:Txt):((cI c s).map xe).Nodup:=by
 have hfn:(((c.fields.filter fun f=>decide (f.name.length≤14)).map fun f=>(⟨3,[102,95]++f.name,[f.val]⟩:bt)).map xe).Nodup:=by
  rw[List.map_map,List.Nodup,List.pairwise_map];refine((List.Pairwise.filter _ hc.asc).imp fun {a b} hab he=>?_)
  simp_all [Function.comp,xe,Prod.mk.injEq,true_and,List.append_cancel_left_eq,lt_irrefl]
 have hff:∀x∈((c.fields.filter fun f=>decide (f.name.length≤14)).map fun f=>(⟨3,[102,95]++f.name,[f.val]⟩:bt)).map xe,∃t,x=(3,102::t):=by
  intro x hx;obtain⟨g,hg,rfl⟩:=List.mem_map.1 hx;obtain⟨f,hf,rfl⟩:=List.mem_map.1 hg;exact⟨_,rfl⟩
 unfold cI;rw[List.map_append,List.nodup_append];refine⟨?_,hfn,?_⟩
 ·cases c.log.getLast? with
  |none=>simp[xe,idT]
  |some x=>simp[xe,idT]
 ·intro a ha b hb
  obtain⟨t,rfl⟩:=hff b hb;intro e;cases hl:c.log.getLast? with
  |none=>
   simp_all [xe,idT]
  |some x=>
   simp_all [xe,idT]
theorem IW{k:Nat}{s:an}{o:OpD}(hs:dI k s)(hf:dD o=true):Qo (fI s o):=by
 have F:=tK hf;have hcs:∀g∈(if cc s.cases o.case=true∧o.kind≠6 then cI (bw s.cases o.case) o.subj else []),g.cat=3∧bp g.name=true∧Ax g.bag:=by
  intro g hg;split at hg
  ·rename_i ht
   exact I2 (hs.case _ (qB hs.asc ht.1).1) _ g hg
  ·cases hg
 have hcd:((if cc s.cases o.case=true∧o.kind≠6 then cI (bw s.cases o.case) o.subj else []).map xe).Nodup:=by
  split
  ·rename_i ht
   exact I1 (hs.case _ (qB hs.asc ht.1).1) _
  ·exact .nil
 have hcl:(if cc s.cases o.case=true∧o.kind≠6 then cI (bw s.cases o.case) o.subj else []).length≤22:=by
  split
  ·rename_i ht
   have hc:=hs.case _ (qB hs.asc ht.1).1;have h16:=hc.nfields;have:((bw s.cases o.case).fields.filter fun f=>decide (f.name.length≤14)).length≤(bw s.cases o.case).fields.length:=List.length_filter_le _ _
   simp only[cI,adY,adU,List.length_cons,List.length_nil];cases (bw s.cases o.case).log.getLast? <;>simp<;>omega
  ·simp
 unfold fI;generalize (if cc s.cases o.case=true∧o.kind≠6 then cI (bw s.cases o.case) o.subj else [])=C at hcs hcd hcl⊢
 have e1:(if o.field= []then []else [(⟨2,[102,105,101,108,100],[idV o.field]⟩:bt)])=if o.field= []then []else [(⟨2,[102,105,101,108,100],[idV o.field]⟩:bt)]:=rfl
 have hro:Ax (dz s.roles o.subj):=IX (fun r hr=>(hs.role r hr).2) _
 have htk:bz ⟨4,s.tick,[]⟩=true:=by
  have:=hs.tick;simp[bz,this]
 have hac:=pE (CQ o.kind F.kind);have hsu:=pE F.subj;refine⟨?_,?_,?_⟩
 ·by_cases p1:o.field= []<;>by_cases p2:o.to= []<;>simp[p1,p2]<;>omega
 ·intro g hg
  simp only[List.mem_append,List.mem_cons,List.not_mem_nil,or_false]at hg;rcases hg with((((rfl|rfl|rfl)|hg)|hg)|rfl)|hg
  ·exact⟨aec,aec,ad7,jt hsu⟩
  ·exact⟨aec,aec,ad7,hro⟩
  ·exact⟨aec,aec,ad7,jt hac⟩
  ·split at hg
   ·cases hg
   ·rename_i hne
    rw[List.mem_singleton.1 hg];exact⟨aec,aec,ad7,jt (pE (kQ F.field hne))⟩
  ·split at hg
   ·cases hg
   ·rename_i hne
    rw[List.mem_singleton.1 hg];exact⟨aec,aec,ad7,jt (pE (kQ F.to hne))⟩
  ·exact⟨aec,aec,ad7,jt htk⟩
  ·obtain⟨h1,h2,h3⟩:=hcs g hg
   exact⟨ad4,ad4,h2,h3⟩
 ·rw[LR,List.map_append,List.nodup_append]
  refine⟨?_,hcd,?_⟩
  ·by_cases p1:o.field= []<;>by_cases p2:o.to= []<;>simp[p1,p2,xe,idT]
  ·intro a ha b hb e
   subst e;obtain⟨g,hg,rfl⟩:=List.mem_map.1 hb;have h3:=(hcs g hg).1;have hne:∀x∈([⟨1,idT,[idV o.subj]⟩,⟨1,[114,111,108,101],dz s.roles o.subj⟩,⟨2,[110,97,109,101],[idV (iQ o.kind)]⟩]++(if o.field= []then []else [⟨2,[102,105,101,108,100],[idV o.field]⟩])++(if o.to= []then []else [⟨2,[116,111],[idV o.to]⟩])++ [⟨4,[110,111,119],[⟨4,s.tick,[]⟩]⟩]:List bt),x.cat≠3:=by
    intro x hx;simp only[List.mem_append,List.mem_cons,List.not_mem_nil,or_false]at hx;rcases hx with(((rfl|rfl|rfl)|hx)|hx)|rfl
    ·simp
    ·simp
    ·simp
    ·split at hx
     ·cases hx
     ·rw[List.mem_singleton.1 hx];simp
    ·split at hx
     ·cases hx
     ·rw[List.mem_singleton.1 hx];simp
    ·simp
   obtain⟨x,hx,he⟩:=List.mem_map.1 ha;have:x.cat=g.cat:=congrArg Prod.fst he;exact hne x hx (by rw[this,h3])
def sL:an→List AV
 |⟨tick,cs,rv,nt,ro,.mk pid set alg tgt rules kids obls,ver⟩=>[.i tick,fT cs,kj rv,kM nt,dW ro,.s pid,.b set,.i alg,aW tgt,.sl (rules.map aB) .no,.sl (fC kids) .no,ay obls,.i ver]
theorem rQ(s:an):ct s= .agg (sL s):=by
 obtain⟨tick,cs,rv,nt,ro,⟨pid,set,alg,tgt,rules,kids,obls⟩,ver⟩:=s;rfl
structure Stays (cs cs' :List aM) (id:Txt):Prop where
 len:cs'.length≤cs.length+1
 ids:∀c∈cs,∃d∈cs',d.id=c.id
 rest:∀c∈cs,c.id≠id→c∈cs'
abbrev aT:=Nat×Nat
def naM:aT:=(0,0)
def bg:aT:=(2,0)
def cJ:aT:=(0,2)
def wj:aT:=(1,0)
def wh:aT:=(0,1)
def mT:aT:=(1,1)
def vi:List aT:=[naM,bg,cJ,wj,wh,mT]
abbrev jR:=aT×List cy
def gU(m:aT):aT:=if m=bg then wj else if m=cJ then wh else m
def oH(a b:aT):aT:=(max a.1 b.1,max a.2 b.2)
def EW(m:aT):aT:=(m.2,m.1)
def qV(j:aT):aT:=
 if j.2=2 then cJ else if j.2=1∧1≤j.1 then mT else if j.2=1 then wh else if j.1=2 then bg else if j.1=1 then wj else naM
def xy(l:List aT):aT:=l.foldl oH naM
def firstM(l:List aT):aT:=(l.find? fun m=>decide (m≠naM)).getD naM
def zF(m:aT):Bool:=decide (m=naM∨m=bg∨m=cJ)
def oN:List aT→aT→aT
 | [],j=>j
 |m::r,j=>if zF m=false then mT else oN r (if j=naM then m else if m≠naM then mT else j)
def ig(alg:Int)(l:List aT):aT:=
 if alg=1 then qV (xy l)
 else if alg=2 then EW (qV (EW (xy l)))
 else if alg=3 then firstM l
 else if alg=4 then oN l naM
 else if alg=5 then(if bg∈l then bg else cJ)
 else if alg=6 then(if cJ∈l then cJ else bg)
 else naM
def xV(gs:List bt)(a:qs):List bu:=getD gs a.cat a.name
def nJ(a b:bu):Option Bool:=
 if bz a=false∨bz b=false∨a.kind≠b.kind∨a.kind=1 then none
 else if a.kind=3∨a.kind=5 then some (Op.bytesLess a.s b.s)else some (decide (a.n<b.n))
def cW(m:bO)(v:bu):Option Bool:=
 if m.op=1 then(if v.kind=m.val.kind then some (eqV v m.val)else none)
 else if m.op=2 then nJ v m.val else nJ m.val v
def j4(gs:List bt)(m:bO):Nat:=
 if xV gs m.attr= []∧m.attr.must=true then 1
 else if(xV gs m.attr).any fun v=>cW m v==some true then 2
 else if(xV gs m.attr).any fun v=>cW m v==none then 1 else 0
def CT(gs:List bt)(l:List bO):Nat:=l.foldl (fun a m=>min a (j4 gs m)) 2
def zW(gs:List bt)(l:List (List bO)):Nat:=l.foldl (fun a x=>max a (CT gs x)) 0
def mX(gs:List bt)(t:fY):Nat:=t.foldl (fun a x=>min a (zW gs x)) 2
structure jE where
 bag:List bu
 v:bu
 e:Int
def dL(b:Bool):bu:=⟨1,if b then 1 else 0,[]⟩
def jc(b:Bool):jE:=⟨[],dL b,0⟩
def isI(x:jE)(n:Int):Bool:=x.e==0 && eqV x.v ⟨1,n,[]⟩
abbrev w64(n:Int):Int:=IntKind.i64.wrap n
def Lg(a b:Int):Bool:=decide (0<b) && decide (w64 (9223372036854775807 - b)<a)||decide (b<0) && decide (a<w64 (-9223372036854775808 - b))
def NH(a b:Int):Bool:=decide (0<b) && decide (a<w64 (-9223372036854775808+b))||decide (b<0) && decide (w64 (9223372036854775807+b)<a)
def J5(a b:Int):Bool:=a== -1 && b== -9223372036854775808||b== -1 && a== -9223372036854775808||a !=0 && w64 ((w64 (a*b)).tdiv a) !=b
def nW(e:Int):bu×Int:=(aq,e)
def Ae(o:Bool)(n:Int):bu×Int:=if o then nW 3 else(⟨2,w64 n,[]⟩,0)
def ic(op:Int)(l:List bu):bu×Int:=
 if¬(6≤op∧op≤13)∨l.length≠(if op=11 then 1 else 2)∨(l.all bz)=false then nW 1
 else
  let a:=l.getD 0 aq;let b:=l.getD 1 aq
  if op=6 then(if a.kind=b.kind then(dL (eqV a b),0)else nW 2)
  else if op=7 then(match nJ a b with
   |some x=>(dL x,0)
   |none=>nW 2)
  else if op=8∨op=9∨op=10 then
   (if l.all fun v=>v.kind==2 then(if op=8 then Ae (Lg a.n b.n) (a.n+b.n)else if op=9 then Ae (NH a.n b.n) (a.n - b.n)else Ae (J5 a.n b.n) (a.n*b.n))else nW 2)
  else if(l.all fun v=>v.kind==1)=false then nW 2
  else if op=11 then(dL (a.n==0),0)
  else if op=12 then(dL (a.n==1 && b.n==1),0)
  else(dL (a.n==1||b.n==1),0)
def opsOf(op:Int):Nat:=if op=1∨op=2 then 0 else if op=3∨op=4∨op=11 then 1 else 2
def Au(r:bu×Int):jE:=⟨[],r.1,r.2⟩
def lK(gs:List bt)(n:aQ)(l:List jE):jE:=
 if n.op=1 then⟨[],n.val,0⟩
 else if n.op=2 then(if xV gs n.attr= []∧n.attr.must=true then⟨[],aq,4⟩else⟨xV gs n.attr,aq,0⟩)
 else if(n.op=12∨n.op=13)∧(l.any fun x=>isI x (n.op - 12))=true then jc (n.op==13)
 else match l.find? fun x=>x.e !=0 with
  |some x=>⟨[],aq,x.e⟩
  |none=>
   if n.op=3 then(match (l.headD ⟨[],aq,0⟩).bag with
    | [v]=>⟨[],v,0⟩
    |_=>⟨[],aq,4⟩)
   else if n.op=4 then⟨[],⟨2,(l.headD ⟨[],aq,0⟩).bag.length,[]⟩,0⟩
   else if n.op=5 then jc ((l.headD ⟨[],aq,0⟩).bag.any fun v=>eqV v (l.getD 1 ⟨[],aq,0⟩).v)
   else Au (ic n.op (l.map (·.v)))
def zD(gs:List bt)(st:List jE)(n:aQ):List jE:=st.take (st.length - opsOf n.op)++ [lK gs n (st.drop (st.length - opsOf n.op))]
def wo(gs:List bt)(l:List aQ):jE:=if l= []then Au (nW 1)else(l.foldl (zD gs) []).headD (Au (nW 1))
def qE(gs:List bt)(l:List aQ):Nat:=if l.isEmpty then 2 else if isI (wo gs l) 1 then 2 else if isI (wo gs l) 0 then 0 else 1
def eR(l:List cy)(m:aT):List cy:=l.filter fun o=>o.on==1 && m==bg||o.on==2 && m==cJ
def nE(r:cU)(t c:Nat):jR:=
 let m:=if r.deny then cJ else bg
 if t=0∨t=2∧c=0 then(naM,[])else if t=1∨c=1 then(gU m,[])else(m,eR r.obls m)
def iD(gs:List bt)(r:cU):jR:=nE r (mX gs r.tgt) (qE gs r.cond)
def eU(alg:Int)(m:aT)(parts:List jR):List cy:=
 if alg=3 then((parts.find? fun x=>x.1==m).map (·.2)).getD []else((parts.filter fun x=>x.1==m).map (·.2)).flatten
def qb(alg:Int)(obls:List cy)(t:Nat)(parts:List jR):jR:=
 let m:=ig alg (parts.map (·.1))
 if t=0 then(naM,[])else if t=1 then(gU m,[])else if m≠bg∧m≠cJ then(m,[])
 else(m,eU alg m parts++eR obls m)
mutual
def fH(gs:List bt):bD→jR
 |.mk id set alg tgt rules kids obls=>if mX gs tgt=0 then(naM,[])else qb alg obls (mX gs tgt) (rules.map (iD gs)++mQ gs kids)
def mQ(gs:List bt):List bD→List jR
 | []=>[]
 |k::r=>fH gs k::mQ gs r
end
theorem tH(gs:List bt):∀l:List bD,mQ gs l=l.map (fH gs)
 | []=>aek
 |k::r=>by simp[mQ,tH gs r]
def sN:bD→fY
 |.mk _ _ _ t _ _ _=>t
def oI:fY→Option bO
 | []=>none
 | [l]::r=>match l.find? fun m=>m.op==1 && !m.attr.must with
  |some m=>some m
  |none=>oI r
 |_::r=>oI r
def sI(gs:List bt)(p:bD):Bool:=match oI (sN p)with
 |none=>true
 |some m=>decide (j4 gs m≠0)
mutual
def lM(gs:List bt):bD→bD
 |.mk id set alg tgt rules kids obls=> .mk id set alg tgt rules (kN gs kids) obls
def kN(gs:List bt):List bD→List bD
 | []=>[]
 |k::r=>if sI gs k then lM gs k::kN gs r else kN gs r
end
end Go.Bf
namespace Go.Bf
open Go Go.Ab
def oR:Nat→Nat→Txt
 |0,_=>[]
 |f+1,u=>if u<128 then [UInt8.ofNat u]else UInt8.ofNat (u % 128+128)::oR f (u / 128)
def zig(n:Int):Nat:=if 0≤n then 2*n.toNat else 2*(-n).toNat - 1
def iT(n:Int):Txt:=oR 10 (zig n)
def dF(s:Txt):Txt:=iT s.length++s
def oo(v:bu):Txt:=iT v.kind++(if v.kind=3∨v.kind=5 then dF v.s else iT v.n)
def iq(o:OpD):Txt:=iT o.kind++(dF o.subj++(dF o.case++(dF o.field++(dF o.to++(oo o.val++(iT o.review++(dF o.text++(dF o.reason++oo (dL o.glass)))))))))
theorem N7{n:Int}(h:i64 n):zig n<128 ^ 10:=by
 grind [i64,zig,Nat]
structure XW (v:bu):Prop where
 kind:i64 v.kind
 n:i64 v.n
 s:v.s.length≤1000000
 one:(v.kind=3∨v.kind=5→v.n=0)∧(¬(v.kind=3∨v.kind=5)→v.s= [])
structure OpC (o:OpD):Prop where
 kind:i64 o.kind
 subj:o.subj.length≤1000000
 case:o.case.length≤1000000
 field:o.field.length≤1000000
 to:o.to.length≤1000000
 val:XW o.val
 review:i64 o.review
 text:o.text.length≤1000000
 reason:o.reason.length≤1000000
structure RS where
 b:Txt
 at_:Nat
 bad:Bool
def unzig(u:Nat):Int:=if u % 2=1 then -((u / 2:Nat):Int) - 1 else((u / 2:Nat):Int)
def rf:Nat→Nat→Nat→Txt→Int×Nat
 |0,_,_,_=>(0,0)
 |_+1,_,_,[]=>(0,0)
 |f+1,i,u,c::r=>
  if(i=9∧1<c.toNat)∨(0<i∧c.toNat=0)then(0,0)
  else if c.toNat<128 then(unzig (u+c.toNat*128 ^ i),i+1)
  else rf f (i+1) (u+c.toNat % 128*128 ^ i) r
def mh(s:RS)(a:Nat):RS:=if s.bad=false∧a≤s.at_ then {s with at_:=a,bad:=true} else s
def rIn(s:RS)(lo hi:Int):Int×RS:=
 if s.bad then(0,s)else
 let x:=rf 10 0 0 (s.b.drop s.at_)
 if x.2=0∨x.1<lo∨hi<x.1 then(0,mh s s.at_)else(x.1,{s with at_:=s.at_+x.2})
def gy(s:RS):Int×RS:=rIn s (-9223372036854775808) 9223372036854775807
def bX(s:RS)(most:Int):Txt×RS:=
 let x:=rIn s 0 most
 if x.2.bad∨(x.2.b.length:Int) - x.2.at_<x.1 then([],mh x.2 s.at_)else((x.2.b.drop x.2.at_).take x.1.toNat,{x.2 with at_:=x.2.at_+x.1.toNat})
def oF(k:Int):Bool:=k==3||k==5
def qq(s:RS):bu×RS:=
 let x:=rIn s 1 5
 let y:bu×RS:=if oF x.1 then(let t:=bX x.2 64;(⟨x.1,0,t.1⟩,t.2))else(let t:=gy x.2;(⟨x.1,t.1,[]⟩,t.2))
 if y.2.bad then(aq,y.2)else if bz y.1=false then(aq,mh y.2 s.at_)else y
def pP(s:RS):bu×RS:=
 if s.at_<s.b.length∧s.b.getD s.at_ 0=0 then(aq,(rIn (rIn s 0 0).2 0 0).2)else qq s
def rOp(b:Txt):OpD×RS:=
 let k:=gy ⟨b,0,false⟩
 let s1:=bX k.2 16
 let s2:=bX s1.2 16
 let s3:=bX s2.2 16
 let s4:=bX s3.2 16
 let v:=pP s4.2
 let r:=gy v.2
 let t:=bX r.2 4096
 let w:=bX t.2 64
 let g:=qq w.2
 (⟨k.1,s1.1,s2.1,s3.1,s4.1,v.1,r.1,t.1,w.1,eqV g.1 (dL true)⟩,g.2)
def Kl(s:RS):Bool:=decide (s.b.length≤s.at_) && !s.bad
def oE(b:Txt):Option OpD:=if Kl (rOp b).2 && dD (rOp b).1 && decide (iq (rOp b).1=b)then some (rOp b).1 else none
theorem KO(n:Int):unzig (zig n)=n:=by
 grind [unzig,zig]
theorem E6{n:Int}(h:i64 n):zig n<18446744073709551616:=by
 grind [i64,zig]
theorem IL:∀(f v:Nat),0<f→oR f v≠ []
 |0,_,h=>ad4
 |f+1,v,_=>by grind [oR]
theorem Ii:∀(f i u v:Nat) (r:Txt),f+i=10→0<f→v<128 ^ f→u<128 ^ i→u+v*128 ^ i<18446744073709551616→(0<i→0<v)→
  rf f i u (oR f v++r)=(unzig (u+v*128 ^ i),i+(oR f v).length)
 |0,i,u,v,r,_,h,_,_,_,_=>ad4
 |f+1,i,u,v,r,hfi,_,hv,hu,ht,h0=>by
  have p9:(128:Nat) ^ 9=9223372036854775808:=ad9;have hlt:∀n,n<256→(UInt8.ofNat n).toNat=n:=fun n hn=>by
   rw[UInt8.toNat_ofNat'];omega
  by_cases hs:v<128
  ·have e:oR (f+1) v= [UInt8.ofNat v]:=by simp_all [oR,if_pos]
   rw[e];simp only[List.singleton_append,rf,hlt v ad4,List.length_singleton];have hn:¬((i=9∧1<v)∨(0<i∧v=0)):=by
    grind
   rw[if_neg hn,if_pos hs]
  ·have e:oR (f+1) v=UInt8.ofNat (v % 128+128)::oR f (v / 128):=by simp_all [oR,if_neg]
   rw[e];simp only[List.cons_append,rf,hlt (v % 128+128) ad4,List.length_cons];have hi9:i≠9:=by
    grind
   have hn:¬((i=9∧1<v % 128+128)∨(0<i∧v % 128+128=0)):=by
    omega
   rw[if_neg hn,if_neg ad4];have hp:(128:Nat) ^ (i+1)=128 ^ i*128:=aek;have hsum:u+(v % 128+128) % 128*128 ^ i+v / 128*128 ^ (i+1)=u+v*128 ^ i:=by
    have h1:(v % 128+128) % 128=v % 128:=ad4;rw[h1,hp,Nat.mul_comm (128 ^ i) 128,←Nat.mul_assoc,Nat.add_assoc,←Nat.add_mul]
    congr 2
    omega
   have hf:0<f:=by
    omega
   have hv' :v / 128<128 ^ f:=by
    omega
   have hu' :u+(v % 128+128) % 128*128 ^ i<128 ^ (i+1):=by
    have h1:(v % 128+128) % 128≤127:=ad4;have h2:=Nat.mul_le_mul_right (128 ^ i) h1;rw[hp];omega
   rw[Ii f (i+1) _ (v / 128) r ad4 hf hv' hu' ad4 ad4,hsum]
   congr 1
   omega
theorem Pv{n:Int}(h:i64 n)(r:Txt):rf 10 0 0 (iT n++r)=(n,(iT n).length):=by
 have:=Ii 10 0 0 (zig n) r rfl ad9 (N7 h) ad9 (by grind [E6]) ad4
 simp only[Nat.pow_zero,Nat.mul_one,Nat.zero_add]at this;unfold iT;rw[this,KO]
def rAt(s:RS)(x:Txt):Prop:=s.bad=false∧s.at_≤s.b.length∧s.b.drop s.at_=x
def rOn(s:RS)(n:Nat):RS:={s with at_:=s.at_+n}
theorem rAt.on{s:RS}{x y:Txt}(h:rAt s (x++y)):rAt (rOn s x.length) y:=by
 obtain⟨h1,h2,h3⟩:=h;have hl:=congrArg List.length h3;refine⟨h1,by grind [rOn],?_⟩
 grind [rOn,List.drop_drop,List.drop_left]
theorem yD{s:RS}{n lo hi:Int}{r:Txt}(h:rAt s (iT n++r))(hn:i64 n)(h1:lo≤n)(h2:n≤hi):rIn s lo hi=(n,rOn s (iT n).length):=by
 unfold rIn;have hl:0<(iT n).length:=List.length_pos_iff.2 (IL 10 _ ad9);rw[if_neg (by rw[h.1];simp),h.2.2,Pv hn]
 rw[if_neg ad4];rfl
theorem Ce{s:RS}{n:Int}{r:Txt}(h:rAt s (iT n++r))(hn:i64 n):gy s=(n,rOn s (iT n).length):=yD h hn hn.1 hn.2
theorem ng{s:RS}{t:Txt}{most:Nat}{r:Txt}(h:rAt s (dF t++r))(ht:t.length≤most)(hm:most≤100000):bX s most=(t,rOn s (dF t).length):=by
 unfold dF at h⊢;rw[List.append_assoc]at h;have h6:i64 (t.length:Int):=⟨ad4,ad4⟩;have ha:=h.on;unfold bX;rw[yD (lo:=0) (hi:=most) h h6 ad4 ad4];have hl:=congrArg List.length ha.2.2;have hle:=ha.2.1;rw[if_neg (by rw[ha.1];grind),ha.2.2]
 simp[rOn,adY,Nat.add_assoc]
theorem zM{v:bu}(h:bz v=true):1≤v.kind∧v.kind≤5:=by
 grind [bz]
end Go.Bf
namespace Go.Bf
open Go Go.Ab Go.Proofs.YtbbadggejjgihaaGreatDoor
theorem Cd{n:Int}(h1: -1000000≤n)(h2:n≤1000000):i64 n:=⟨ad4,ad4⟩
theorem vG{v:bu}(h:bz v=true)(hk:v.kind=3∨v.kind=5):v.n=0∧v.s.length≤64:=by
 unfold bz at h;rcases hk with e|e
 ·grind
 ·rw[if_neg ad4,if_neg ad4,if_neg ad4,if_neg ad4,if_pos e]at h
  simp only[bp,Bool.and_eq_true,beq_iff_eq,decide_eq_true_eq]at h;omega
theorem BE{v:bu}(h:bz v=true)(hk:¬(v.kind=3∨v.kind=5)):v.s= []:=by
 unfold bz at h
 grind
theorem IK{s:RS}{v:bu}{r:Txt}(h:rAt s (oo v++r))(hv:bz v=true)(hn:i64 v.n):qq s=(v,rOn s (oo v).length):=by
 obtain⟨hk1,hk2⟩:=zM hv;unfold oo at h⊢;rw[List.append_assoc]at h;have ha:=h.on;unfold qq;rw[yD (lo:=1) (hi:=5) h (by grind [Cd]) hk1 hk2]
 by_cases e:v.kind=3∨v.kind=5
 ·obtain⟨e1,e2⟩:=vG hv e
  rw[if_pos e]at ha⊢;have ht:oF v.kind=true:=by grind [oF]
  have hx:=ng (most:=64) ha e2 ad4;simp only[ht,if_true];rw[show((64:Nat):Int)=64 from rfl]at hx
  rw[hx];have ev:(⟨v.kind,0,v.s⟩:bu)=v:=by rw[←e1]
  exact aj2
 ·have e1:=BE hv e
  rw[if_neg e]at ha⊢;have ht:oF v.kind=false:=by simp_all [oF,not_or]
  have hx:=Ce ha hn;simp only[ht,Bool.false_eq_true,if_false];rw[hx];have ev:(⟨v.kind,v.n,[]⟩:bu)=v:=by rw[←e1]
  exact aj2
theorem D7:iT 0= [0]:=aek
theorem MP{k:Int}(h1:1≤k)(h2:k≤5):∃c,iT k= [c]∧c≠0:=by
 have:k=1∨k=2∨k=3∨k=4∨k=5:=ad4;rcases this with rfl|rfl|rfl|rfl|rfl
 ·exact⟨2,aek,ad9⟩
 ·exact⟨4,aek,ad9⟩
 ·exact⟨6,aek,ad9⟩
 ·exact⟨8,aek,ad9⟩
 ·exact⟨10,aek,ad9⟩
theorem rAt.head{s:RS}{c:UInt8}{x:Txt}(h:rAt s (c::x)):s.at_<s.b.length∧s.b.getD s.at_ 0=c:=by
 have hl:=congrArg List.length h.2.2;rw[List.length_drop,List.length_cons]at hl;refine⟨ad4,?_⟩;have:=congrArg (fun l=>l[0]?) h.2.2
 simp only[List.getElem?_drop,Nat.add_zero,List.getElem?_cons_zero]at this;rw[List.getD_eq_getElem?_getD,this];rfl
theorem J4{s:RS}{v:bu}{r:Txt}(h:rAt s (oo v++r))(hv:v=aq∨bz v=true)(hn:i64 v.n):pP s=(v,rOn s (oo v).length):=by
 rcases hv with rfl|hv
 ·have e:oo aq= [0,0]:=by rfl
  rw[e]at h⊢;have hh:=rAt.head (c:=0) (x:=0::r) h;unfold pP;rw[if_pos ⟨hh.1,hh.2⟩];have h' :rAt s (iT 0++(iT 0++r)):=by grind [D7]
  rw[yD h' (by grind [Cd]) (Int.le_refl 0) (Int.le_refl 0)]
  rw[yD h'.on (by grind [Cd]) (Int.le_refl 0) (Int.le_refl 0)]
  simp[D7,rOn,Nat.add_assoc]
 ·obtain⟨hk1,hk2⟩:=zM hv
  obtain⟨c,e,hc⟩:=MP hk1 hk2;have hh:rAt s (c::((if v.kind=3∨v.kind=5 then dF v.s else iT v.n)++r)):=by
   grind [oo]
  unfold pP;rw[if_neg (by grind [rAt.head])]
  exact IK h hv hn
theorem uU{t:Txt}(h:jb t=true):t.length≤16:=by
 unfold jb at h;simp only[Bool.or_eq_true,beq_iff_eq]at h;rcases h with rfl|h
 ·simp
 simp_all [bp,Bool.and_eq_true,decide_eq_true_eq]
structure OpF (o:OpD):Prop where
 subj:o.subj.length≤16
 case:o.case.length≤16
 field:o.field.length≤16
 to:o.to.length≤16
 val:o.val=aq∨bz o.val=true
 text:o.text.length≤4096
 reason:o.reason.length≤64
theorem nY{o:OpD}(h:dD o=true):OpF o:=by
 simp only[dD,Bool.and_eq_true,decide_eq_true_eq]at h;obtain⟨⟨⟨⟨⟨⟨⟨h1,h2⟩,h3⟩,h4⟩,h5⟩,h6⟩,h7⟩,h8⟩:=h;simp only[bp,Bool.and_eq_true,decide_eq_true_eq]at h1;refine⟨h1.2,uU h4,uU h5,uU h6,?_,h3,?_⟩
 ·simp only[Bool.or_eq_true]at h7
  rcases h7 with h7|h7
  ·left
   generalize o.val=v at h7;obtain⟨k,n,s⟩:=v;simp only[eqV,aq,Bool.and_eq_true,beq_iff_eq]at h7;obtain⟨rfl,rfl,rfl⟩:=h7;rfl
  grind
 ·unfold mB at h2
  grind
theorem zK(b:Bool):bz (dL b)=true:=by cases b<;>rfl
theorem NO(b:Bool):eqV (dL b) (dL true)=b:=by cases b<;>rfl
theorem SU{o:OpD}(hf:OpF o)(h64:ou o):rOp (iq o)=(o,⟨iq o,(iq o).length,false⟩):=by
 have h0:rAt ⟨iq o,0,false⟩ (iq o):=⟨rfl,Nat.zero_le _,rfl⟩;obtain⟨k1,k2,k3,k4⟩:=h64;unfold iq at h0;have e0:=Ce h0 k1;have h1:=h0.on;have e1:=ng (most:=16) h1 hf.subj ad4;have h2:=h1.on;have e2:=ng (most:=16) h2 hf.case ad4;have h3:=h2.on;have e3:=ng (most:=16) h3 hf.field ad4;have h4:=h3.on;have e4:=ng (most:=16) h4 hf.to ad4;have h5:=h4.on;have e5:=J4 h5 hf.val k3;have h6:=h5.on;have e6:=Ce h6 k4;have h7:=h6.on;have e7:=ng (most:=4096) h7 hf.text ad4;have h8:=h7.on;have e8:=ng (most:=64) h8 hf.reason ad4;have h9:=h8.on;have h9' :=h9;rw[←List.append_nil (oo (dL o.glass))]at h9';have e9:=IK h9' (zK _) (by cases o.glass<;>exact⟨ad9,ad9⟩)
 have h10:=h9'.on;simp only[List.append_nil]at e9 h10;simp only[show((16:Nat):Int)=16 from rfl,show((4096:Nat):Int)=4096 from rfl,show((64:Nat):Int)=64 from rfl]at e1 e2 e3 e4 e7 e8
 have hend:=congrArg List.length h10.2.2;rw[List.length_drop,List.length_nil]at hend;have hle:=h10.2.1;unfold rOp;rw[show iq o=iT o.kind++(dF o.subj++(dF o.case++(dF o.field++(dF o.to++(oo o.val++(iT o.review++(dF o.text++(dF o.reason++oo (dL o.glass)))))))))from rfl]
 simp only[e0,e1,e2,e3,e4,e5,e6,e7,e8,e9,NO];simp only[rOn]at hend hle⊢;refine Prod.ext rfl ?_;simp only[RS.mk.injEq,and_true,true_and];omega
theorem OU{o:OpD}(hf:dD o=true)(h64:ou o):oE (iq o)=some o:=by
 grind [oE,SU,nY,Kl]
theorem get_some{b:Txt}{o:OpD}(h:oE b=some o):dD o=true∧iq o=b:=by
 unfold oE at h
 grind
theorem tJ{α:Type}(f:α→Nat):∀(l:List α) (a:Nat),l.foldl (fun a x=>min a (f x)) a≤a∧∀x∈l,l.foldl (fun a x=>min a (f x)) a≤f x
 | [],a=>aec
 |y::l,a=>by
  obtain⟨h1,h2⟩:=tJ f l (min a (f y))
  grind
theorem O5{gs:List bt}:∀ {t:fY} {m:bO},oI t=some m→j4 gs m=0→mX gs t=0:=by
 intro t;have main:∀(t:fY) (m:bO),oI t=some m→j4 gs m=0→∃x∈t,zW gs x=0:=by
  intro t
  induction t with
  |nil=>intro m h;cases h
  |cons x r ih=>
   intro m h h0
   match x,h with
   | [],h=>obtain⟨y,hy,e⟩:=ih m h h0;exact⟨y,List.mem_cons_of_mem _ hy,e⟩
   | [l],h=>
    simp only[oI]at h;cases hf:l.find? fun m=>m.op==1 && !m.attr.must with
    |none=>rw[hf]at h;obtain⟨y,hy,e⟩:=ih m h h0;exact⟨y,List.mem_cons_of_mem _ hy,e⟩
    |some k=>
     rw[hf]at h;cases h;have hm:=List.mem_of_find?_eq_some hf;have hall:CT gs l=0:=by
      have:=(tJ (j4 gs) l 2).2 _ hm;rw[h0]at this;exact Nat.le_zero.1 this
     exact⟨[l],List.mem_cons_self ..,by grind [zW]⟩
   |a::b::c,h=>obtain⟨y,hy,e⟩:=ih m h h0;exact⟨y,List.mem_cons_of_mem _ hy,e⟩
 intro m h h0;obtain⟨x,hx,e⟩:=main t m h h0;have:=(tJ (zW gs) t 2).2 x hx;rw[e]at this;exact Nat.le_zero.1 this
theorem Pq{gs:List bt}{p:bD}(h:sI gs p=false):fH gs p=(naM,[]):=by
 obtain⟨id,set,alg,tgt,rules,kids,obls⟩:=p;unfold sI at h;simp only[sN]at h;cases hk:oI tgt with
 |none=>grind
 |some m=>
  simp_all [j4,fH,O5,if_true]
theorem O2(j:aT):oH j naM=j:=by simp[oH,naM]
inductive Drop:List jR→List jR→Prop
 |nil:Drop [] []
 |keep (x:jR) {a b:List jR} (h:Drop a b):Drop (x::a) (x::b)
 |skip {a b:List jR} (h:Drop a b):Drop a ((naM,[])::b)
theorem Drop.app{a b c:List jR}(h:Drop a b):Drop (c++a) (c++b):=by
 induction c with
 |nil=>exact h
 |cons x c ih=>grind [keep]
theorem Drop.join{a b:List jR}(h:Drop a b):∀j,(a.map (·.1)).foldl oH j=(b.map (·.1)).foldl oH j:=by
 induction h with
 |nil=>simp
 |keep x h ih=>grind
 |skip h ih=>grind [O2]
theorem Drop.first{a b:List jR}(h:Drop a b):firstM (a.map (·.1))=firstM (b.map (·.1)):=by
 unfold firstM
 congr 1
 induction h with
 |nil=>rfl
 |keep x h ih=>grind
 |skip h ih=>simpa using ih
theorem Drop.only{a b:List jR}(h:Drop a b):∀j,oN (a.map (·.1)) j=oN (b.map (·.1)) j:=by
 induction h with
 |nil=>simp
 |keep x h ih=>grind [oN]
 |skip h ih=>
  intro j;have hs:zF naM=true:=ad9;simp only[List.map_cons,oN,hs,Bool.true_eq_false,if_false];rw[←ih]
  congr 1
  simp
theorem Drop.mem{a b:List jR}(h:Drop a b){m:aT}(hm:m≠naM):m∈a.map (·.1)↔m∈b.map (·.1):=by
 exact ajm
theorem Drop.comb{a b:List jR}(h:Drop a b)(alg:Int):ig alg (a.map (·.1))=ig alg (b.map (·.1)):=by
 unfold ig xy;rw[h.join,h.first,h.only];simp only[h.mem (show bg≠naM by decide),h.mem (show cJ≠naM by decide)]
theorem Drop.parts{a b:List jR}(h:Drop a b)(alg:Int){m:aT}(hm:m≠naM):eU alg m a=eU alg m b:=by
 have h1:(a.find? fun x=>x.1==m)=b.find? fun x=>x.1==m:=by
  exact ajm
 have h2:(a.filter fun x=>x.1==m)=b.filter fun x=>x.1==m:=by
  clear h1;exact ajm
 simp only[eU,h1,h2]
theorem Drop.qb{a b:List jR}(h:Drop a b)(alg:Int)(obls:List cy)(t:Nat):qb alg obls t a=qb alg obls t b:=by
 unfold Go.Bf.qb;simp only[h.comb alg]
 by_cases hp:ig alg (b.map (·.1))=bg
 ·rw[hp,h.parts alg ad9]
 ·by_cases hd:ig alg (b.map (·.1))=cJ
  ·rw[hd,h.parts alg ad9]
  grind
mutual
theorem Be(gs:List bt):∀p:bD,fH gs (lM gs p)=fH gs p
 |.mk id set alg tgt rules kids obls=>by
  simp only[lM,fH]
  by_cases h:mX gs tgt=0
  ·simp only[h,if_true]
  ·simp only[h,if_false]
   exact(Bg gs kids).app.qb alg obls _
theorem Bg(gs:List bt):∀l:List bD,Drop (mQ gs (kN gs l)) (mQ gs l)
 | []=>by simp only[kN,mQ];exact .nil
 |k::r=>by
  have ih1:=Be gs k;have ih2:=Bg gs r;simp only[kN,mQ]
  by_cases h:sI gs k=true
  ·simp only[h,if_true,mQ,ih1]
   exact .keep _ ih2
  ·have h:sI gs k=false:=by simpa using h
   simp only[h,Bool.false_eq_true,if_false,Pq h];exact .skip ih2
end
structure ja where
 err:Int
 mark:aT
 glass:Bool
 val:bu
 hidden:Bool
 at_:Int
structure oU where
 op:OpD
 version:Int
 mark:aT
 glass:Bool
 obls:List cy
def Ql:OpD:=⟨0,[],[],[],[],aq,0,[],[],false⟩
def xJ:oU:=⟨Ql,0,naM,false,[]⟩
def Cc:Txt:=[103,108,97,115,115]
def qW(s:an)(r:qg):Bool:=r.isOpen && decide (100≤s.tick - r.tick)
def Mu(s:an)(subj:Txt):Bool:=s.reviews.any fun r=>r.subj==subj && qW s r
def th(s:an)(o:OpD)(m:aT):Bool:=o.glass && (m==cJ||m==naM) && yy s.roles ⟨o.subj,Cc⟩ && !Mu s o.subj
def Bs(s:an)(o:OpD)(reason:Txt):qg:=⟨(s.reviews.length:Int)+1,s.tick,o.subj,o.case,iQ o.kind,reason,true⟩
def bV(s:an)(o:OpD)(reason:Txt):an:={s with reviews:=s.reviews++ [Bs s o reason]}
def jY(l:List cy)(field:Txt):Bool:=l.any fun x=>x.kind==2 && x.arg==field
def iS(cs:List aM)(id:Txt):Nat:=cs.findIdx fun c=>c.id==id
def iF(s:an)(o:OpD)(what:Txt):an:=
 if iS s.cases o.case<s.cases.length∧o.kind≠6 then {s with cases:=s.cases.modify (iS s.cases o.case) fun c=>jy s c o.subj what} else s
def fj(o:OpD)(done:Bool)(s:an)(x:cy):an:=
 if x.kind=1∧done=true then iF s o x.arg
 else if x.kind=3 then bV s o x.arg
 else if x.kind=4 then {s with notices:=s.notices++ [⟨s.tick,o.case,x.arg⟩]}
 else s
def dw(s:an)(o:OpD)(l:List cy)(done:Bool):an:=l.foldl (fj o done) s
def sj(s:an):Bool:=decide (256<s.reviews.length)||decide (256<s.notices.length)||s.cases.any fun c=>decide (256<c.log.length)
def gG(s:an)(o:OpD):jR:=fH (fI s o) s.policy
def jP(s:an)(o:OpD):Int×Int:=if bJ s o=0∧o.kind=7 then((aR o.text).2.1,(aR o.text).2.2)else(bJ s o,0)
def fA(s:an)(o:OpD):Bool:=th s o (gG s o).1
def tu(s:an)(o:OpD):Bool:=decide ((gG s o).1=bg)||fA s o
def cS(s:an)(o:OpD):an:=
 let s1:=if fA s o then bV s o o.reason else s
 dw (if tu s o then dO aR s1 o else s1) o (gG s o).2 (tu s o)
def mZ(s:an)(o:OpD):ja:=
 ⟨if tu s o then 0 else 12,(gG s o).1,fA s o,if tu s o && o.kind==2 && !jY (gG s o).2 o.field then dQ (bw s.cases o.case).fields o.field else aq,tu s o && o.kind==2 && jY (gG s o).2 o.field,0⟩
def aJ(s:an)(o:OpD):an×ja×oU×Int:=
 if(jP s o).1≠0 then(s,⟨(jP s o).1,naM,false,aq,false,(jP s o).2⟩,xJ,(jP s o).1)
 else if sj (cS s o)then(s,⟨6,naM,false,aq,false,0⟩,xJ,6)
 else(cS s o,mZ s o,⟨o,s.version,(gG s o).1,fA s o,(gG s o).2⟩,0)
theorem yR(s:an)(o:OpD)(w:Txt):(iF s o w).tick=s.tick∧(iF s o w).roles=s.roles∧(iF s o w).policy=s.policy∧(iF s o w).version=s.version∧(iF s o w).reviews=s.reviews∧(iF s o w).notices=s.notices:=by
 grind [iF]
theorem Dd(o:OpD)(done:Bool)(s:an)(x:cy):(fj o done s x).tick=s.tick∧(fj o done s x).roles=s.roles∧(fj o done s x).policy=s.policy∧(fj o done s x).version=s.version:=by
 unfold fj;split
 ·grind [yR]
 ·split
  ·exact⟨rfl,rfl,rfl,rfl⟩
  grind
theorem FC(o:OpD)(done:Bool):∀(l:List cy) (s:an),(dw s o l done).tick=s.tick∧(dw s o l done).roles=s.roles∧(dw s o l done).policy=s.policy∧(dw s o l done).version=s.version
 | [],s=>⟨rfl,rfl,rfl,rfl⟩
 |x::l,s=>by
  obtain⟨a1,a2,a3,a4⟩:=Dd o done s x;obtain⟨b1,b2,b3,b4⟩:=FC o done l (fj o done s x);exact⟨b1.trans a1,b2.trans a2,b3.trans a3,b4.trans a4⟩
def gT(o:OpD)(a b:List qg):Prop:=∃c,b=a++c∧∀i (h:i<c.length),c[i].id=((a.length+i+1:Nat):Int)∧c[i].isOpen=true∧c[i].subj=o.subj
theorem gT.refl(o:OpD)(a:List qg):gT o a a:=⟨[],aec,fun i h=>ae0⟩
theorem gT.trans{o:OpD}{a b c:List qg}(h1:gT o a b)(h2:gT o b c):gT o a c:=by
 obtain⟨x,rfl,hx⟩:=h1;obtain⟨y,rfl,hy⟩:=h2;refine⟨x++y,aec,fun i h=>?_⟩
 grind
theorem gT.open(s:an)(o:OpD)(w:Txt):gT o s.reviews (bV s o w).reviews:=⟨[Bs s o w],rfl,fun i h=>by
 have:i=0:=ad5;subst this;exact⟨aek,rfl,rfl⟩⟩
theorem gT.duties(o:OpD)(done:Bool):∀(l:List cy) (s:an),gT o s.reviews (dw s o l done).reviews
 | [],s=> .refl o _
 |x::l,s=>by
  have:gT o s.reviews (fj o done s x).reviews:=by
   unfold fj;split
   ·grind [yR,refl]
   ·split
    ·exact .open s o _
    grind [refl]
  exact this.trans (gT.duties o done l _)
structure Ho (c:aM):Prop where
 id:bp c.id=true
 owner:bp c.owner=true
 state:c.state∈pS
 asc:E7 c.fields
 nfields:c.fields.length≤16
 field:∀f∈c.fields,bp f.name=true∧bz f.val=true∧eqV f.val aq=false
 log1:1≤c.log.length
 actor:∀x∈c.log,bp x.actor=true∧i64 x.tick
theorem uF.w{c:aM}(h:uF c):Ho c:=⟨h.id,h.owner,h.state,h.asc,h.nfields,h.field,h.log1,h.actor⟩
theorem Ho.ok{c:aM}(h:Ho c)(hl:c.log.length≤256):uF c:=⟨h.id,h.owner,h.state,h.asc,h.nfields,h.field,h.log1,hl,h.actor⟩
structure lX (k:Nat) (s:an):Prop where
 tick:0≤s.tick∧s.tick≤1099511627776
 asc:Asc s.cases
 ncases:s.cases.length≤64
 case:∀c∈s.cases,Ho c
 roles:s.roles.length≤64
 role:∀r∈s.roles,bp r.subj=true∧bp r.role=true
 pol:gI s.policy=0
 ver:0≤s.version∧s.version≤k
theorem dI.w{k:Nat}{s:an}(h:dI k s):lX k s:=⟨h.tick,h.asc,h.ncases,fun c hc=>(h.case c hc).w,h.roles,h.role,h.pol,h.ver⟩
theorem lX.ok{k:Nat}{s:an}(h:lX k s)(ho:sj s=false):dI k s:=by
 unfold sj at ho;simp only[Bool.or_eq_false_iff,decide_eq_false_iff_not]at ho;refine⟨h.tick,h.asc,h.ncases,fun c hc=>(h.case c hc).ok ?_,ad4,ad4,h.roles,h.role,h.pol,h.ver⟩
 grind
theorem GW{k:Nat}{s:an}(o:OpD)(w:Txt)(h:lX k s):lX k (bV s o w):={h with}
theorem GV{k:Nat}{s:an}{o:OpD}(hn:bp o.subj=true)(w:Txt)(h:lX k s):lX k (iF s o w):=by
 unfold iF;split
 ·refine {h with asc:=BX (kS fun x=>rfl) h.asc,ncases:=by simpa using h.ncases,case:= ?_}
  intro d hd;rcases mem_modify hd with hd|⟨hi,rfl⟩
  ·exact h.case d hd
  ·have hc:=h.case _ (adZ hi)
   refine⟨hc.id,hc.owner,hc.state,hc.asc,hc.nfields,hc.field,aii,?_⟩;intro x hx;simp only[jy,List.mem_append,List.mem_singleton]at hx;rcases hx with hx|rfl
   ·exact hc.actor x hx
   ·exact⟨hn,by have:=h.tick;constructor<;>simp only<;>omega⟩
 omega
theorem GU{k:Nat}{o:OpD}(hn:bp o.subj=true)(done:Bool){s:an}(x:cy)(h:lX k s):lX k (fj o done s x):=by
 unfold fj;split
 ·grind [GV]
 ·split
  ·grind [GW]
  ·split
   ·exact {h with}
   omega
theorem uv{k:Nat}{o:OpD}(hn:bp o.subj=true)(done:Bool):∀(l:List cy) {s:an},lX k s→lX k (dw s o l done)
 | [],s,h=>h
 |x::l,s,h=>uv hn done l (GU hn done x h)
theorem Cq{k:Nat}{s:an}(o:OpD)(w:Txt)(h:dI k s)(hr:s.reviews.length≤999):dI k (bV s o w):={h with nrev:=by grind [bV]}
structure jr (k:Nat) (s:an):Prop extends dI k s where
 ids:∀i (h:i<s.reviews.length),s.reviews[i].id=((i+1:Nat):Int)
 nr:s.reviews.length≤256
 nn:s.notices.length≤256
theorem JG:jr 0 xh:={KF with ids:=fun i h=>ae0,nr:=ad9,nn:=ad9}
theorem uj{s:an}{o:OpD}(h:(jP s o).1=0):bJ s o=0∧dD o=true∧(o.kind=7→(aR o.text).2.1=0):=by
 unfold jP at h;have hr:bJ s o=0:=by
  grind
 have hf:dD o=true:=by
  unfold bJ at hr
  grind
 exact⟨hr,hf,fun hk=>ad5⟩
theorem Lz{k:Nat}{s:an}{o:OpD}(h:jr k s)(hp:(jP s o).1=0):lX (k+1) (cS s o):=by
 have hn:=(tK (uj hp).2.1).subj;have h1:dI k (if fA s o then bV s o o.reason else s):=by
  split
  ·exact Cq o _ h.todI (by have:=h.nr;omega)
  ·exact h.todI
 refine uv hn _ _ ?_;split
 ·exact(pT o h1).w
 ·have:=h1.w
  exact {this with ver:=⟨this.ver.1,by have:=this.ver.2;omega⟩}
def shut(r:qg):qg:={r with isOpen:=false}
theorem uT(par:Txt→bD×Int×Int)(s:an)(o:OpD):(dO par s o).reviews=if bJ s o=0∧o.kind=5 then s.reviews.modify (o.review - 1).toNat shut else s.reviews:=by
 unfold dO
 by_cases hr:bJ s o=0
 ·rw[if_pos hr]
  unfold doD
  by_cases k1:o.kind=1
  ·grind
  ·by_cases k3:o.kind=3
   ·grind
   ·by_cases k4:o.kind=4
    ·grind
    ·by_cases k5:o.kind=5
     ·simp[k5,hr];rfl
     grind
 grind
theorem yu{o:OpD}(h:dD o=true)(hg:o.glass=true):1≤o.kind∧o.kind≤4:=by
 simp_all [dD,Bool.and_eq_true,mB,if_true,vn,decide_eq_true_eq]
theorem Dx{s:an}{o:OpD}(h:fA s o=true):o.glass=true:=by
 simp_all [fA,th,Bool.and_eq_true]
structure Fe (s:an) (o:OpD) (t:an) (r:ja) (e:Int):Prop where
 len:s.reviews.length≤t.reviews.length
 old:∀i (h:i<s.reviews.length) (h' :i<t.reviews.length),(e=0∧r.err=0∧o.kind=5∧o.review=((i+1:Nat):Int)→o.subj≠s.reviews[i].subj∧s.reviews[i].isOpen=true∧t.reviews[i].isOpen=false∧t.reviews[i].id=s.reviews[i].id)∧
  (¬(e=0∧r.err=0∧o.kind=5∧o.review=((i+1:Nat):Int))→t.reviews[i]=s.reviews[i])
 new:∀i (h:i<t.reviews.length),s.reviews.length≤i→t.reviews[i].id=((i+1:Nat):Int)∧t.reviews[i].isOpen=true∧t.reviews[i].subj=o.subj
 glass:r.glass=true→∃h:s.reviews.length<t.reviews.length,t.reviews[s.reviews.length].reason=o.reason
theorem Fe.same(s:an)(o:OpD)(e:Int)(r:ja)(he:e≠0)(hg:r.glass=false):Fe s o s r e:=
 ⟨Nat.le_refl _,fun i h h' =>⟨fun hc=>(he hc.1).elim,fun _=>rfl⟩,fun i h h' =>ad4,fun h=>ad5⟩
theorem Ik{o:OpD}{a b:List qg}(h:gT o a b):a.length≤b.length∧(∀i (h1:i<a.length) (h2:i<b.length),b[i]=a[i])∧∀i (h1:i<b.length),a.length≤i→b[i].id=((i+1:Nat):Int)∧b[i].isOpen=true∧b[i].subj=o.subj:=by
 obtain⟨c,rfl,hc⟩:=h;refine⟨aec,fun i h1 h2=>ad5,fun i h1 h2=>?_⟩
 grind
theorem C4{s:an}{o:OpD}(hr:bJ s o=0)(hf:dD o=true)(hk:o.kind=5):1≤o.review∧∃h:(o.review - 1).toNat<s.reviews.length,s.reviews[(o.review - 1).toNat].isOpen=true∧s.reviews[(o.review - 1).toNat].subj≠o.subj:=by
 have F:=tK hf;have hok:=F.ok;unfold okD at hok;simp only[hk,show¬(5:Int)=1 by decide,show¬((5:Int)=2∨(5:Int)=6) by decide,show¬(5:Int)=3 by decide,show¬(5:Int)=4 by decide,if_false,if_true,decide_eq_true_eq]at hok
 unfold bJ at hr;simp only[hk,Bool.true_eq_false,show¬(5:Int)=1 by decide,show¬(2≤(5:Int)∧(5:Int)≤4) by decide,if_false,if_true]at hr
 unfold fl wJ at hr;rw[if_pos (by omega:1≤o.review)]at hr
 refine⟨ad4,?_⟩;cases hx:s.reviews[(o.review - 1).toNat]? with
 |none=>simp_all
 |some r=>
  rw[hx]at hr;obtain⟨h,rfl⟩:=List.getElem?_eq_some_iff.1 hx;refine⟨h,?_,?_⟩
  ·grind
  ·intro e
   simp only[e,if_true]at hr;omega
theorem GD{k:Nat}{s:an}{o:OpD}(h:jr k s):Fe s o (aJ s o).1 (aJ s o).2.1 (aJ s o).2.2.2:=by
 unfold aJ
 by_cases hp:(jP s o).1=0
 ·rw[if_neg ad4]
  by_cases ho:sj (cS s o)=true
  ·rw[if_pos ho];exact .same _ _ _ _ aec rfl
  ·rw[if_neg ho]
   obtain⟨hr,hf,_⟩:=uj hp;simp only
   by_cases hk:o.kind=5
   ·have hg:fA s o=false:=by
     cases hg:fA s o with
     |false=>rfl
     |true=>have:=yu hf (Dx hg);omega
    obtain⟨hv1,hlt,hop,hsu⟩:=C4 hr hf hk
    by_cases hd:tu s o=true
    ·have hb:cS s o=dw (dO aR s o) o (gG s o).2 true:=by
      grind [cS]
     have hrev:(dO aR s o).reviews=s.reviews.modify (o.review - 1).toNat shut:=by
      simp_all [uT,if_pos]
     have hon:=gT.duties o true (gG s o).2 (dO aR s o);rw[←hb,hrev]at hon;obtain⟨a1,a2,a3⟩:=Ik hon;have hlm:(s.reviews.modify (o.review - 1).toNat shut).length=s.reviews.length:=aec;rw[hlm]at a1;refine⟨a1,fun i h1 h2=>⟨fun hc=>?_,fun hc=>?_⟩,fun i h1 h2=>a3 i h1 ad4,fun hgl=>?_⟩
     ·have hi:(o.review - 1).toNat=i:=by omega
      subst hi;rw[a2 _ ad4 h2,List.getElem_modify,if_pos rfl];exact⟨fun e=>hsu e.symm,hop,rfl,rfl⟩
     ·have hi:(o.review - 1).toNat≠i:=fun e=>hc ⟨rfl,by simp[mZ,hd],hk,ad4⟩
      rw[a2 _ ad4 h2,List.getElem_modify,if_neg hi]
     simp_all [mZ]
    ·have hd:tu s o=false:=by grind
     have hb:cS s o=dw s o (gG s o).2 false:=by
      grind [cS]
     have hon:=gT.duties o false (gG s o).2 s;rw[←hb]at hon;obtain⟨a1,a2,a3⟩:=Ik hon;refine⟨a1,fun i h1 h2=>⟨fun hc=>?_,fun hc=>a2 i h1 h2⟩,a3,fun hgl=>?_⟩
     ·simp_all [mZ]
     simp_all [mZ]
   ·have hs1:gT o s.reviews (if fA s o then bV s o o.reason else s).reviews:=by
     split
     ·exact .open s o _
     ·exact .refl o _
    have hs2:(if tu s o then dO aR (if fA s o then bV s o o.reason else s) o else(if fA s o then bV s o o.reason else s)).reviews=(if fA s o then bV s o o.reason else s).reviews:=by
     split
     ·simp_all [uT,if_neg]
     ·rfl
    have hd:=gT.duties o (tu s o) (gG s o).2 (if tu s o then dO aR (if fA s o then bV s o o.reason else s) o else(if fA s o then bV s o o.reason else s))
    rw[hs2]at hd;have hon:gT o s.reviews (cS s o).reviews:=hs1.trans hd;obtain⟨a1,a2,a3⟩:=Ik hon;refine⟨a1,fun i h1 h2=>⟨fun hc=>(hk hc.2.2.1).elim,fun hc=>a2 i h1 h2⟩,a3,fun hgl=>?_⟩
    have hg:fA s o=true:=hgl;have hd' :=hd;simp only[hg,↓reduceIte]at hd';obtain⟨b1,b2,_⟩:=Ik hd';have hb:(cS s o)=dw (if tu s o then dO aR (bV s o o.reason) o else bV s o o.reason) o (gG s o).2 (tu s o):=by
     grind [cS]
    rw[←hb]at b1 b2;have hl:(bV s o o.reason).reviews.length=s.reviews.length+1:=by simp[bV]
    refine⟨ad4,?_⟩
    grind [bV,Bs]
 ·rw[if_pos ad4]
  exact .same _ _ _ _ ad4 rfl
theorem jr.up{k:Nat}{s:an}(h:jr k s):jr (k+1) s:={h with ver:=⟨h.ver.1,by have:=h.ver.2;omega⟩}
theorem FX{k:Nat}{s:an}(o:OpD)(h:jr k s):jr (k+1) (aJ s o).1:=by
 have hrl:=GD (o:=o) h;unfold aJ at hrl⊢
 by_cases hp:(jP s o).1=0
 ·rw[if_neg ad4]at hrl⊢
  by_cases ho:sj (cS s o)=true
  ·rw[if_pos ho];exact h.up
  ·rw[if_neg ho]at hrl⊢
   have ho:sj (cS s o)=false:=ad5;have hw:=(Lz h hp).ok ho;unfold sj at ho;refine {hw with ids:=fun i hi=>?_,nr:=ad5,nn:=ad5}
   by_cases hlt:i<s.reviews.length
   ·obtain⟨h1,h2⟩:=hrl.old i hlt hi
    by_cases hc:(0:Int)=0∧(mZ s o).err=0∧o.kind=5∧o.review=((i+1:Nat):Int)
    ·rw[(h1 hc).2.2.2];exact h.ids i hlt
    ·rw[h2 hc];exact h.ids i hlt
   ·exact(hrl.new i hi ad4).1
 ·rw[if_pos ad4];exact h.up
structure WH (s:an) (o:OpD):Prop where
 err:(aJ s o).2.2.2≠0→(aJ s o).1=s∧(aJ s o).2.1.err=(aJ s o).2.2.2∧(aJ s o).2.1.mark=naM
 ok:(aJ s o).2.2.2=0→(aJ s o).2.1.mark=(gG s o).1∧(aJ s o).2.2.1=⟨o,s.version,(gG s o).1,fA s o,(gG s o).2⟩∧(aJ s o).2.1.glass=fA s o∧(aJ s o).1=cS s o∧(aJ s o).2.1=mZ s o
theorem yc(o:OpD)(done:Bool):∀(l:List cy) (s:an),(dw s o l done).cases.length=s.cases.length
 | [],s=>rfl
 |x::l,s=>by
  have:(fj o done s x).cases.length=s.cases.length:=by
   unfold fj;split
   ·grind [iF]
   ·split
    ·rfl
    grind
  exact(yc o done l _).trans this
end Go.Bf
namespace Go.Ab
open Go
section
variable {U : TypeId → TI} {ρ : Env} {h0 h h' : Heap} {sz id : Nat} {tb : TypeId} {y : AV} {xs : List AV} {e : TypeId} {K : AV → Prop} {x : IntKind} {m : Int}
theorem uY(xs:List AV)(j:Nat):au xs=au (xs.take j)++au (xs.drop j):=ahw
theorem OwE.cut(hw:OwE tb h0 h sz y xs){hi:Operand}(j:Nat)(hm:ev ρ hi=some (.v (.int x m)))(hj:m=j)(hl:j≤xs.length)(hz:(U tb).sz=sz)(h1:sz≠0)
  (hk:∀z,OwE tb h0 h sz z (xs.take j)→(z=y∨∃id l l' c,y= .ob id 0 l c sz∧z= .ob id 0 l' c sz)→K z):gW U ρ y none (some hi) none K (.slice tb):=by
 subst hj;subst hz
 rcases hw with⟨rfl,rfl⟩|⟨id,h2,cap,rest,rfl,h3,h4,h5,h6⟩
 ·rw[rq,fL,hm]
  refine⟨h1,?_⟩;have:j=0:=ad5;subst this;refine⟨ad4,aec,?_⟩;exact hk _ (.inl ⟨rfl,rfl⟩) (.inl rfl)
 ·rw[Bv]
  refine⟨h1,rfl,?_⟩;simp only[mI,fL,hm,dJ,nH];refine⟨ad4,ad4,ad4,?_⟩;simp only[Int.toNat_natCast,Nat.zero_mul,Nat.add_zero,Nat.sub_zero,show(((0:Nat):Int)).toNat=0 from rfl]
  have e1:(xs.take j).length=j:=ad5;have hs:Sized (U tb).sz (xs.drop j):=fun z hz=>h6 z (List.mem_of_mem_drop hz)
  refine hk _ (.inr ⟨id,h2,cap,au (xs.drop j)++rest,by rw[e1],by grind [uY,List.append_assoc],?_,ad4,fun z hz=>h6 z (List.mem_of_mem_take hz)⟩) (.inr ⟨id,_,_,cap,rfl,rfl⟩)
  rw[adY,aZ hs,h4,List.length_drop,e1,←Nat.add_mul]
  grind
theorem OwE.from(hw:OwE tb h0 h sz y xs){lo:Operand}(j:Nat)(hm:ev ρ lo=some (.v (.int x m)))(hj:m=j)(hl:j≤xs.length)(hz:(U tb).sz=sz)(h1:sz≠0)
  (hk:∀z,Rd h sz z (xs.drop j)→K z):gW U ρ y (some lo) none none K (.slice tb):=by
 subst hj;subst hz
 rcases hw with⟨rfl,rfl⟩|⟨id,h2,cap,rest,rfl,h3,h4,h5,h6⟩
 ·have:j=0:=by grind
  subst this;rw[ru,fL,hm];refine⟨h1,by simp[Sized],?_⟩
  exact⟨ad4,aec,aec,hk _ (.sl (by intro z hz;grind [ni]) _)⟩
 ·rw[Bv]
  refine⟨h1,rfl,?_⟩;simp only[mI,fL,hm,dJ,nH];refine⟨ad4,ad4,ad4,?_⟩;simp only[Int.toNat_natCast,Nat.zero_add];have e1:(xs.drop j).length=xs.length - j:=aec;have hs:Sized (U tb).sz (xs.drop j):=fun z hz=>h6 z ad5
  have ht:Sized (U tb).sz (xs.take j):=fun z hz=>h6 z ad5
  have e2:=aZ hs;have e3:=aZ ht;refine hk _ ⟨hs,.inr ⟨id,j*(U tb).sz,cap - j,_,tb,by rw[e1],h3,?_,?_⟩⟩
  ·grind [uY,adY]
  grind [uY,List.append_assoc,List.drop_left,List.take_left]
end
end Go.Ab
namespace Go.Bf
open Go Go.Ab Go.Proofs.YtbbadggejjgihaaGreatDoor
def hbit:Nat→Nat
 |0=>0
 |1=>4602678819172646912
 |_=>4607182418800017408
def aO(m:aT):AV:=.v (.complex .f64 (hbit m.1) (hbit m.2))
def M9(m:aT):Prop:=m.1≤2∧m.2≤2
def M6(m:aT):Prop:=m∈vi
instance (m:aT):Decidable (M9 m):=inferInstanceAs (Decidable (_∧_))
instance (m:aT):Decidable (M6 m):=inferInstanceAs (Decidable (m∈vi))
theorem M6.m9{m:aT}(h:M6 m):M9 m:=by
 exact aiV
theorem le2{n:Nat}(h:n≤2):n=0∨n=1∨n=2:=ad4
theorem yX{m n:aT}(hmm:M9 m)(hn:M9 n)(K:AV→Prop):gp .eql (.complex .f64 (hbit m.1) (hbit m.2)) (.complex .f64 (hbit n.1) (hbit n.2)) K=K (.b (m==n)):=
 oL (fun P ty w=>by
  exact aiS) K
theorem A9{m n:aT}(hmm:M9 m)(hn:M9 n)(K:AV→Prop):gp .neq (.complex .f64 (hbit m.1) (hbit m.2)) (.complex .f64 (hbit n.1) (hbit n.2)) K=K (.b (!(m==n))):=
 oL (fun P ty w=>by
  exact aiS) K
structure Nb (m:aT):Prop where
 na:∀K,gp .eql (.complex .f64 (hbit m.1) (hbit m.2)) (.complex .f64 0 0) K=K (.b (m==naM))
 pe:∀K,gp .eql (.complex .f64 (hbit m.1) (hbit m.2)) (.complex .f64 4607182418800017408 0) K=K (.b (m==bg))
 de:∀K,gp .eql (.complex .f64 (hbit m.1) (hbit m.2)) (.complex .f64 0 4607182418800017408) K=K (.b (m==cJ))
 ip:∀K,gp .eql (.complex .f64 (hbit m.1) (hbit m.2)) (.complex .f64 4602678819172646912 0) K=K (.b (m==wj))
 id:∀K,gp .eql (.complex .f64 (hbit m.1) (hbit m.2)) (.complex .f64 0 4602678819172646912) K=K (.b (m==wh))
 ib:∀K,gp .eql (.complex .f64 (hbit m.1) (hbit m.2)) (.complex .f64 4602678819172646912 4602678819172646912) K=K (.b (m==mT))
 nna:∀K,gp .neq (.complex .f64 (hbit m.1) (hbit m.2)) (.complex .f64 0 0) K=K (.b (!(m==naM)))
 npe:∀K,gp .neq (.complex .f64 (hbit m.1) (hbit m.2)) (.complex .f64 4607182418800017408 0) K=K (.b (!(m==bg)))
 nde:∀K,gp .neq (.complex .f64 (hbit m.1) (hbit m.2)) (.complex .f64 0 4607182418800017408) K=K (.b (!(m==cJ)))
theorem nb{m:aT}(h:M9 m):Nb m:=
 ⟨yX (n:=naM) h ad9,yX (n:=bg) h ad9,yX (n:=cJ) h ad9,yX (n:=wj) h ad9,yX (n:=wh) h ad9,yX (n:=mT) h ad9,
  A9 (n:=naM) h ad9,A9 (n:=bg) h ad9,A9 (n:=cJ) h ad9⟩
theorem QV{a b:Nat}(ha:a≤2)(hb:b≤2)(k:AV→Prop):Aa [.v (.float .f64 (hbit a)),.v (.float .f64 (hbit b))] k=k (.v (.float .f64 (hbit (max a b)))):=
 Gk (fun P ts ty w=>by
  rcases le2 ha with rfl|rfl|rfl<;>rcases le2 hb with rfl|rfl|rfl<;>rfl) k
structure Fb (a:Nat):Prop where
 one:∀K,gp .eql (.float .f64 (hbit a)) (.float .f64 4607182418800017408) K=K (.b (a==2))
 half:∀K,gp .eql (.float .f64 (hbit a)) (.float .f64 4602678819172646912) K=K (.b (a==1))
 ge:∀K,gp .geq (.float .f64 (hbit a)) (.float .f64 4602678819172646912) K=K (.b (decide (1≤a)))
theorem fb{a:Nat}(h:a≤2):Fb a:=by
 rcases le2 h with rfl|rfl|rfl<;>
  exact⟨oL fun P ty w=>rfl,oL fun P ty w=>rfl,oL fun P ty w=>rfl⟩
end Go.Bf
namespace Go.Proofs.YtbbadggejjgihaaGreatDoor
open Go Go.Ab Go.Bf
theorem Cm(m:aT)(hmm:M6 m)(h:Heap):ai Tryz.prog 274 [aO m] h fun r h' =>r= .b true∧h' =h:=by
 have hn:ai Tryz.prog 62 [aO m] h fun r h' =>(∃c l,r= .s (c::l))∧h' =h:=by
  obtain⟨n1,n2,n3,n4,n5,n6⟩:=nb hmm.m9;refine ad3 Tryz.func62 16 [.tmp 2] fun hwf=>?_
  cases d1:(m==naM)
  case true=>simp only[go_sem,aO,n1,d1];exact .same (.refl _) ⟨⟨_,_,rfl⟩,rfl⟩
  cases d2:(m==bg)
  case true=>simp only[go_sem,aO,n1,n2,d1,d2];exact .same (.refl _) ⟨⟨_,_,rfl⟩,rfl⟩
  cases d3:(m==cJ)
  case true=>simp only[go_sem,aO,n1,n2,n3,d1,d2,d3];exact .same (.refl _) ⟨⟨_,_,rfl⟩,rfl⟩
  cases d4:(m==wj)
  case true=>simp only[go_sem,aO,n1,n2,n3,n4,d1,d2,d3,d4];exact .same (.refl _) ⟨⟨_,_,rfl⟩,rfl⟩
  cases d5:(m==wh)
  case true=>simp only[go_sem,aO,n1,n2,n3,n4,n5,d1,d2,d3,d4,d5];exact .same (.refl _) ⟨⟨_,_,rfl⟩,rfl⟩
  have d6:(m==mT)=true:=by
   unfold M6 vi at hmm
   grind
  simp only[go_sem,aO,n1,n2,n3,n4,n5,n6,d1,d2,d3,d4,d5,d6];exact .same (.refl _) ⟨⟨_,_,rfl⟩,rfl⟩
 refine ad3 Tryz.func274 6 [.tmp 2] fun hwf=>?_
 simp only[go_sem];refine hn.mono ?_
 rintro r h' ⟨⟨c,l,rfl⟩,rfl⟩
 exact aiz
theorem yE(m:aT)(hmm:M9 m)(h:Heap):ai Tryz.prog 249 [aO m] h fun r h' =>r=aO (gU m)∧h' =h:=by
 obtain⟨n1,n2,n3,n4,n5,n6⟩:=nb hmm;refine ad3 Tryz.func249 9 [.tmp 2] fun hwf=>?_
 cases d2:(m==bg)
 case true=>simp only[go_sem,aO,n2,d2];exact .same (.refl _) ⟨by rw[gU,if_pos ad5];rfl,rfl⟩
 cases d3:(m==cJ)
 case true=>simp only[go_sem,aO,n2,n3,d2,d3];exact .same (.refl _) ⟨by rw[gU,if_neg ad5,if_pos ad5];rfl,rfl⟩
 simp only[go_sem,aO,n2,n3,d2,d3];exact .same (.refl _) ⟨by rw[gU,if_neg ad5,if_neg ad5];rfl,rfl⟩
theorem uf(m:aT)(h:Heap):ai Tryz.prog 296 [aO m] h fun r h' =>r= .tup [.v (.float .f64 (hbit m.1)),.v (.float .f64 (hbit m.2))]∧h' =h:=by
 refine ad3 Tryz.func296 10 [.tmp 2,.tmp 3] fun hwf=>?_
 simp only[go_sem,aO];exact aee
theorem Q2(a b:Nat)(h:Heap):ai Tryz.prog 297 [.v (.float .f64 (hbit a)),.v (.float .f64 (hbit b))] h fun r h' =>r=aO (a,b)∧h' =h:=by
 refine ad3 Tryz.func297 8 [.tmp 4] fun hwf=>?_
 exact aiz
theorem P9(m:aT)(h:Heap):ai Tryz.prog 277 [aO m] h fun r h' =>r=aO (EW m)∧h' =h:=by
 refine ad3 Tryz.func277 13 [.tmp 2] fun hwf=>?_
 simp only[go_sem];refine(uf m _).pthen ?_;simp only[go_sem];refine(Q2 m.2 m.1 _).pthen ?_;exact aiz
theorem O3(a b:aT)(ha:M9 a)(hb:M9 b)(h:Heap):ai Tryz.prog 275 [aO a,aO b] h fun r h' =>r=aO (oH a b)∧h' =h:=by
 have m1:=QV ha.1 hb.1;have m2:=QV ha.2 hb.2;refine ad3 Tryz.func275 26 [.tmp 4] fun hwf=>?_
 simp only[go_sem];refine(uf a _).pthen ?_;simp only[go_sem];refine(uf b _).pthen ?_;simp only[go_sem,m1,m2];refine(Q2 _ _ _).pthen ?_;exact aiz
theorem M9.join{a b:aT}(ha:M9 a)(hb:M9 b):M9 (oH a b):=⟨Nat.max_le.2 ⟨ha.1,hb.1⟩,Nat.max_le.2 ⟨ha.2,hb.2⟩⟩
theorem Im(j:aT):M6 (qV j):=by
 unfold qV
 repeat' split
 all_goals decide
theorem Io(j:aT)(hj:M9 j)(h:Heap):ai Tryz.prog 276 [aO j] h fun r h' =>r=aO (qV j)∧h' =h:=by
 obtain⟨p1,p2,p3⟩:=fb hj.1;obtain⟨q1,q2,q3⟩:=fb hj.2;refine ad3 Tryz.func276 29 [.tmp 2] fun hwf=>?_
 simp only[go_sem];refine(uf j _).pthen ?_;cases d1:(j.2==2)
 case true=>simp only[go_sem,q1,d1];exact .same (.refl _) ⟨by rw[qV,if_pos ad5];rfl,rfl⟩
 have e1:¬j.2=2:=ad5;cases d2:(j.2==1)
 case true=>
  have e2:j.2=1:=ad5;cases d3:decide (1≤j.1)
  ·simp only[go_sem,p3,q1,q2,d1,d2,d3];exact .same (.refl _) ⟨by rw[qV,if_neg e1,if_neg ad5,if_pos e2];rfl,rfl⟩
  ·simp only[go_sem,p3,q1,q2,d1,d2,d3];exact .same (.refl _) ⟨by rw[qV,if_neg e1,if_pos ⟨e2,adW d3⟩];rfl,rfl⟩
 have e2:¬j.2=1:=ad5;cases d4:(j.1==2)
 case true=>simp only[go_sem,p1,q1,q2,d1,d2,d4];exact .same (.refl _) ⟨by rw[qV,if_neg e1,if_neg (fun h=>e2 h.1),if_neg e2,if_pos ad5];rfl,rfl⟩
 cases d5:(j.1==1)
 case true=>simp only[go_sem,p1,p2,q1,q2,d1,d2,d4,d5];exact .same (.refl _) ⟨by rw[qV,if_neg e1,if_neg (fun h=>e2 h.1),if_neg e2,if_neg ad5,if_pos ad5];rfl,rfl⟩
 simp only[go_sem,p1,p2,q1,q2,d1,d2,d4,d5];exact .same (.refl _) ⟨by rw[qV,if_neg e1,if_neg (fun h=>e2 h.1),if_neg e2,if_neg ad5,if_neg ad5];rfl,rfl⟩
def OwR(h0 h:Heap)(y:AV)(rs:List gZ):Prop:=y=dW rs∨OwE 105 h0 h 2 y (rs.map di)
theorem OwR.rd{h0 h:Heap}{y:AV}{rs:List gZ}(hr:OwR h0 h y rs):Rd h 2 y (rs.map di):=by
 rcases hr with rfl|hr
 ·exact eC di 2 (fun _=>rfl) h rs
 ·exact hr.rd
theorem OwR.nid{h0 h:Heap}{y:AV}{rs:List gZ}(hr:OwR h0 h y rs){k:Nat}(e:Ab.nid y=some k):h0 k=none∧h k≠none:=by
 rcases hr with rfl|hr
 ·cases e
 ·exact⟨(hr.nid e).1,(hr.nid e).2.1⟩
theorem OwR.keep{h0 h h' :Heap}{y:AV}{rs:List gZ}(hr:OwR h0 h y rs)(hk:∀id,Ab.nid y=some id→h' id=h id):OwR h0 h' y rs:=by
 rcases hr with hr|hr
 ·exact .inl hr
 ·exact .inr (hr.keep hk)
theorem OwR.bM{g h0 h:Heap}{y:AV}{rs:List gZ}(hr:OwR h0 h y rs)(hg:∀i,h0 i=none→g i=none):OwR g h y rs:=by
 rcases hr with hr|hr
 ·exact .inl hr
 ·exact .inr (hr.bM hg)
theorem OwR.frz{g h:Heap}{y:AV}{rs:List gZ}(hr:OwR g h y rs):Frz g h y (dW rs):=by
 rcases hr with rfl|hr
 ·exact .pure (by simp only[dW,cM];exact bn (fun _=>rfl) _)
 ·exact hr.frz (bn (fun _=>rfl) _)
structure iP (h0 h:Heap) (y1 y2 y3 y4:AV) (s:an) (j:Nat):Prop where
 cs:mo h0 h [y1,y2,y3,y4] y1 s.cases j
 rv:OwE 99 h0 h 7 y2 (s.reviews.map gu)
 nt:OwE 102 h0 h 3 y3 (s.notices.map j5)
 rl:OwR h0 h y4 s.roles
 a12:apart y1 y2
 a13:apart y1 y3
 a14:apart y1 y4
 a23:apart y2 y3
 a24:apart y2 y4
 a34:apart y3 y4
def stC(s:an)(y1 y2 y3 y4:AV):List AV:=[.i s.tick,y1,y2,y3,y4]++fZ s.policy++ [.i s.version]
theorem sZ.parts{h0 h:Heap}{x:AV}{s:an}{j:Nat}(ho:sZ h0 h x s j):∃y1 y2 y3 y4,x= .agg (stC s y1 y2 y3 y4)∧iP h0 h y1 y2 y3 y4 s j:=by
 obtain⟨y1,y2,y3,y4,e,a,b,c,d,r1,r2,r3,r4,r5,r6⟩:=ho;exact⟨y1,y2,y3,y4,e,a,b,c,.inr d,r1,r2,r3,r4,r5,r6⟩
theorem iP.rd{h0 h:Heap}{y1 y2 y3 y4:AV}{s:an}{j:Nat}(ho:iP h0 h y1 y2 y3 y4 s j):RdS h (.agg (stC s y1 y2 y3 y4)) s:=
 ⟨y1,y2,y3,y4,rfl,ho.cs.rd,ho.rv.rd,ho.nt.rd,ho.rl.rd⟩
theorem iP.frz{g h:Heap}{y1 y2 y3 y4:AV}{s:an}{j:Nat}(ho:iP g h y1 y2 y3 y4 s j):Frz g h (.agg (stC s y1 y2 y3 y4)) (ct s):=
 u0 (ho.cs.frz (.refl _)) (ho.rv.frz (bn (fun _=>rfl) _)) (ho.nt.frz (bn (fun _=>rfl) _)) ho.rl.frz
theorem iP.bM{g h0 h:Heap}{y1 y2 y3 y4:AV}{s:an}{j:Nat}(ho:iP h0 h y1 y2 y3 y4 s j)(hg:∀i,h0 i=none→g i=none):iP g h y1 y2 y3 y4 s j:=
 {ho with cs:=ho.cs.bM hg,rv:=ho.rv.bM hg,nt:=ho.nt.bM hg,rl:=ho.rl.bM hg}
theorem iP.keep{h0 h h' :Heap}{y1 y2 y3 y4:AV}{s:an}{j:Nat}(ho:iP h0 h y1 y2 y3 y4 s j)(hk:∀id,h0 id=none→h id≠none→h' id=h id):iP h0 h' y1 y2 y3 y4 s j:=
 {ho with cs:=ho.cs.keepb hk,rv:=ho.rv.keepb hk,nt:=ho.nt.keepb hk,rl:=ho.rl.keep fun id e=>hk id (ho.rl.nid e).1 (ho.rl.nid e).2}
theorem iP.mem{h0 h:Heap}{y1 y2 y3 y4:AV}{s:an}{j:Nat}(ho:iP h0 h y1 y2 y3 y4 s j){w:AV}(hw:w∈ [y1,y2,y3,y4]){k:Nat}(e:Ab.nid w=some k):h0 k=none∧h k≠none:=by
 obtain⟨xs,a,_⟩:=ho.cs;simp only[List.mem_cons,List.not_mem_nil,or_false]at hw;rcases hw with rfl|rfl|rfl|rfl
 ·exact⟨(a.nid e).1,(a.nid e).2.1⟩
 ·exact⟨(ho.rv.nid e).1,(ho.rv.nid e).2.1⟩
 ·exact⟨(ho.nt.nid e).1,(ho.nt.nid e).2.1⟩
 ·exact ho.rl.nid e
theorem iP.revs{h0 h h' :Heap}{y1 y2 y3 y4 z:AV}{s:an}{j:Nat}{rs:List qg}(ho:iP h0 h y1 y2 y3 y4 s j)(hz:OwE 99 h0 h' 7 z (rs.map gu))(hn:∀k,Ab.nid z=some k→h k=none∨Ab.nid y2=some k)
  (hk:∀id,h0 id=none→h id≠none→Ab.nid y2≠some id→h' id=h id):iP h0 h' y1 z y3 y4 {s with reviews:=rs} j:=by
 obtain⟨hcs,hrv,hnt,hrl,a12,a13,a14,a23,a24,a34⟩:=id ho;have ap:∀ {w:AV},w∈ [y1,y2,y3,y4]→apart w y2→apart w z:=fun hw ha k e1 e2=>(hn k e2).elim (fun h=>(ho.mem hw e1).2 h) (fun h=>ha k e1 h)
 refine⟨hcs.move (z:=y2) aec a12 hk fun w hw k e=>?_,hz,hnt.keep fun id e=>hk id (hnt.nid e).1 (hnt.nid e).2.1 fun e1=>a23 id e1 e,hrl.keep fun id e=>hk id (hrl.nid e).1 (hrl.nid e).2 fun e1=>a24 id e1 e,ap aec a12,a13,a14,(ap aec a23.symm).symm,(ap aec a24.symm).symm,a34⟩
 grind
theorem iP.nots{h0 h h' :Heap}{y1 y2 y3 y4 z:AV}{s:an}{j:Nat}{rs:List Fa}(ho:iP h0 h y1 y2 y3 y4 s j)(hz:OwE 102 h0 h' 3 z (rs.map j5))(hn:∀k,Ab.nid z=some k→h k=none∨Ab.nid y3=some k)
  (hk:∀id,h0 id=none→h id≠none→Ab.nid y3≠some id→h' id=h id):iP h0 h' y1 y2 z y4 {s with notices:=rs} j:=by
 obtain⟨hcs,hrv,hnt,hrl,a12,a13,a14,a23,a24,a34⟩:=id ho;have ap:∀ {w:AV},w∈ [y1,y2,y3,y4]→apart w y3→apart w z:=fun hw ha k e1 e2=>(hn k e2).elim (fun h=>(ho.mem hw e1).2 h) (fun h=>ha k e1 h)
 refine⟨hcs.move (z:=y3) aec a13 hk fun w hw k e=>?_,hrv.keep fun id e=>hk id (hrv.nid e).1 (hrv.nid e).2.1 fun e1=>a23 id e e1,hz,hrl.keep fun id e=>hk id (hrl.nid e).1 (hrl.nid e).2 fun e1=>a34 id e1 e,a12,ap aec a13,a14,ap aec a23,a24,(ap aec a34.symm).symm⟩
 grind
end Go.Proofs.YtbbadggejjgihaaGreatDoor
namespace Go.Bf
open Go Go.Ab Go.Proofs.YtbbadggejjgihaaGreatDoor
def iA(s:an):Prop:=∀r∈s.reviews,0≤r.tick∧r.tick≤1099511627776
theorem BB{s:an}(o:OpD)(w:Txt)(h:iA s)(ht:0≤s.tick∧s.tick≤1099511627776):iA (bV s o w):=fun r hr=>by
 simp only[bV,List.mem_append,List.mem_singleton]at hr;rcases hr with hr|rfl
 ·exact h r hr
 ·exact ht
theorem KK{s:an}(o:OpD)(w:Txt)(h:iA s):iA (iF s o w):=fun r hr=>h r (by grind [yR])
theorem KJ{s:an}(o:OpD)(done:Bool)(x:cy)(h:iA s)(ht:0≤s.tick∧s.tick≤1099511627776):iA (fj o done s x):=by
 unfold fj;split
 ·grind [KK]
 ·split
  ·grind [BB]
  ·split<;>exact h
theorem wP(o:OpD)(done:Bool):∀(l:List cy) {s:an},iA s→(0≤s.tick∧s.tick≤1099511627776)→iA (dw s o l done)
 | [],s,h,_=>h
 |x::l,s,h,ht=>wP o done l (by grind [KJ]) (by grind [Dd])
theorem NL{s:an}(par:Txt→bD×Int×Int)(o:OpD)(h:iA s):iA (dO par s o):=fun r hr=>by
 rw[uT]at hr;split at hr
 ·rcases mem_modify hr with hr|⟨hi,rfl⟩
  ·exact h r hr
  ·have h2:=h _ (adZ hi)
   exact aif
 ·exact h r hr
theorem GY{k:Nat}{s:an}(o:OpD)(h:jr k s)(ht:iA s):iA (aJ s o).1:=by
 unfold aJ;split
 ·omega
 ·split
  ·omega
  ·show iA (cS s o)
   have h1:dI k (if fA s o then bV s o o.reason else s):=by
    split
    ·exact Cq o _ h.todI (by have:=h.nr;omega)
    ·exact h.todI
   have t1:iA (if fA s o then bV s o o.reason else s):=by
    split
    ·exact BB o _ ht h.tick
    omega
   refine wP o _ _ ?_ ?_
   ·grind [NL]
   ·split
    ·exact(pT o h1).tick
    ·exact h1.tick
structure gD (k:Nat) (s:an):Prop extends jr k s where
 ticks:iA s
theorem sA:gD 0 xh:={JG with ticks:=fun r h=>ae0}
theorem qN{k:Nat}{s:an}(o:OpD)(h:gD k s):gD (k+1) (aJ s o).1:={FX o h.tojr with ticks:=GY o h.tojr h.ticks}
theorem O0{cs:List aM}{id:Txt}(h:iS cs id<cs.length):cs[iS cs id].id=id:=by
 have:=List.findIdx_getElem (p:=fun c:aM=>c.id==id) (w:=h)
 exact eq_of_beq this
theorem F7{cs:List aM}(ha:Asc cs){id:Txt}(h:iS cs id<cs.length):findD cs id=iS cs id:=by
 have hid:=O0 h;have hin:cc cs id=true:=by grind [vD,List.any_eq_true,adZ]
 have hir:Op.bytesLess id id=false:=by simpa[lt]using lt_irrefl id
 have h1:∃hl:findD cs id<cs.length,cs[findD cs id].id=id:=by
  unfold cc at hin
  grind
 rcases Nat.lt_trichotomy (findD cs id) (iS cs id)with hlt|heq|hgt
 ·exact absurd (List.not_of_lt_findIdx (p:=fun c:aM=>c.id==id) hlt) ad5
 ·exact heq
 ·have:=List.not_of_lt_findIdx (p:=fun c:aM=>geB c.id id) hgt
  exact absurd this (by grind [geB])
theorem Mj{cs ds:List aM}(h:ds.map (·.id)=cs.map (·.id))(id:Txt):iS ds id=iS cs id:=by
 have e:∀l:List aM,iS l id=(l.map (·.id)).findIdx fun x=>x==id:=fun l=>by
  rw[List.findIdx_map];rfl
 rw[e,e,h]
theorem JS(s:an)(o:OpD)(w:Txt)(id:Txt):iS (iF s o w).cases id=iS s.cases id∧(iF s o w).cases.length=s.cases.length:=by
 unfold iF;split
 ·exact⟨Mj (kS (f:=fun c=>jy s c o.subj w) (g:=fun c:aM=>c.id) fun c=>rfl) id,aec⟩
 omega
theorem JR(o:OpD)(done:Bool)(s:an)(x:cy)(id:Txt):iS (fj o done s x).cases id=iS s.cases id∧(fj o done s x).cases.length=s.cases.length:=by
 unfold fj;split
 ·grind [JS]
 ·split
  ·exact⟨rfl,rfl⟩
  grind
end Go.Bf
namespace Go.Proofs.YtbbadggejjgihaaGreatDoor
open Go Go.Ab
abbrev By:=Bytes 5
theorem u5:(U 5).sz=1:=aek
theorem u5a:(U 5).k.agg=false:=aek
theorem qD(y:AV)(l:List UInt8)(h:Heap)(hb:By h y l)(hl:l.length≤140737488355328):
  ai Tryz.prog 65 [y] h fun r h' =>h' =h∧r= .sl (l.map aN) .no:=by
 refine ad3 Tryz.func65 8 [.tmp 2] fun hwf=>?_
 simp only[go_sem];refine hb.VT fun b hbn=>?_
 simp only[go_sem];refine kH.intro (fun e=>?_) (fun e=>?_)
 ·have hl0:l= []:=Classical.byContradiction fun hh=>by grind
  subst hl0;simp only[go_sem];exact agq
 ·simp only[go_sem]
  rw[hb.src u5];simp only[go_sem];refine⟨ad4,fun hn=>?_,fun hn=>?_⟩
  ·have hl0:l= []:=by simp_all
   subst hl0;simp only[go_sem];exact agq
  ·refine .own fun id hid=>?_
   simp only[go_sem];exact .mk _ (.sl _ _) (.aj hid) ⟨rfl,rfl⟩
end Go.Proofs.YtbbadggejjgihaaGreatDoor
namespace Go.Proofs.YtbbadggejjgihaaGreatDoor
open Go Go.Ab Go.RowKit Go.Lib
theorem i5:∃i z,Tryz.prog.info? 5=some i∧i.zero=some z∧i.size=1∧i.bytes=1∧z.cells.size=1:=by
 obtain⟨i,h1,h2,h3,z,h4,h5,_⟩:=(hU 5).info ad9;exact⟨i,z,h1,h4,h2,by rw[h3];rfl,h5⟩
set_option maxHeartbeats 1000000 in
theorem JF(a:Option Addr)(w:World):Calls Tryz.prog 130 #[.slice a 0 0,.int .i64 0] w fun e w' =>e= .returned (.slice a 0 0)∧w' =w:=by
 go_enter Tryz.func130,Tryz.ntmps130
 go_wp2
 go_ret
 simp
set_option maxHeartbeats 1000000 in
theorem JE(a:Option Addr)(n:Nat)(h0:0<n)(hn:n≤20000000)(w:World):Calls Tryz.prog 130 #[.slice a 0 0,.int .i64 n] w fun e w' =>
  ∃z:Value,z.cells.size=1∧e= .returned (.slice (some ⟨w.heap.size,0,none⟩) 0 (grownCap w n 0 5))∧
   w' =w.drew.alloc (.cells (Builtin.zeroCells z.cells n++Builtin.zeroCells z.cells (grownCap w n 0 5 - n)) 5):=by
 obtain⟨i,z,e1,e2,e3,e4,e5⟩:=i5;have hsl:Tryz.prog.underlying 77=some (.slice 5):=by
  rfl
 have hin:Tryz.prog.underlying 3=some (.int .i64):=by
  rfl
 have hold:(Builtin.firstCells i.size 0 (.slice a 0 0)).run Tryz.prog w.drew= .ok (#[]:Array Value) w.drew:=by
  cases a<;>simp[Builtin.firstCells,loadCells,loadCellsFrom]
 have hrz:∀ty,(Builtin.append_ #[77,3] ty #[.slice a 0 0,.int .i64 (n:Int)]).run Tryz.prog w=
   .ok (.slice (some ⟨w.heap.size,0,none⟩) n (grownCap w n 0 5)) (w.drew.alloc (.cells (Builtin.zeroCells z.cells n++Builtin.zeroCells z.cells (grownCap w n 0 5 - n)) 5)):=fun ty=>by
  have h:=Lib.run_append_grow_zeros w 77 3 ty 5 i z .i64 .i64 hsl hin e1 e2 a 0 0 [] ad4 n h0 ad4 ad4 ad4
   ad5
   (by rw[e4];exact growslice_fits ad4 ad4)
  simpa using h
 have hG:=grownCap_ge w n 0 5;have hG63:grownCap w n 0 5≤9223372036854775807:=by
  grind [grownCap_le_maxLen,maxLen]
 obtain⟨G,hGe⟩:∃G,G=grownCap w n 0 5:=⟨_,rfl⟩;rw[←hGe]at hrz hG hG63⊢;have h3:wrap64 ((n:Int) - 0)=(n:Int):=by grind [wrap64]
 have h4:¬((n:Int)<0):=ad4;have h5:(n:Int)>0:=ad4;refine Calls.mono (R:=fun e w' =>e= .returned (.slice (some ⟨w.heap.size,0,none⟩) 0 G)∧w' =w.drew.alloc (.cells (Builtin.zeroCells z.cells n++Builtin.zeroCells z.cells (G - n)) 5)) ?_ ad5
 clear hold hGe
 go_enter Tryz.func130,Tryz.ntmps130
 cases a with
 |none=>
  go_wp2_with (at_builtin;refine Lib.wpList_append_run _ rfl _ _ _ _ rfl _ _ rfl rfl _ _ (hrz _) ?_)
  all_goals (go_ret;simp)
 |some q=>
  obtain⟨ab,ao,asp⟩:=q
  go_wp2_with (at_builtin;refine Lib.wpList_append_run _ rfl _ _ _ _ rfl _ _ rfl rfl _ _ (hrz _) ?_)
  all_goals (go_ret;simp)
end Go.Proofs.YtbbadggejjgihaaGreatDoor
namespace Go.Proofs.YtbbadggejjgihaaGreatDoor
open Go Go.Ab
theorem Tj:(U 5).bytes=1:=aek
theorem OW(n:Nat)(hn:n≤20000000)(h:Heap):ai Tryz.prog 130 [.sl [] .full,.i n] h fun r h' =>Acc U 5 h h' r []∧fN h h' :=by
 refine fun c vs hs g hv hr=> .inl ⟨⟨_,Tryz.func130,aek,rfl⟩,?_⟩
 have h0:=hr 0 aec;have h1:=hr 1 aec;obtain⟨a,cap,sz,val,e0,sl⟩:=h0.iK;have hcap:cap=0:=sl.hp;subst hcap;have e1:=h1.bR;have ev:vs= #[.slice a 0 0,.int .i64 n]:=by
  apply Array.ext
  ·omega
  ·intro i h2 h3
   have h3' :i<2:=h3;have:i=0∨i=1:=ad4;rcases this with rfl|rfl
   ·simpa[Array.getD,h2]using e0
   ·simpa[Array.getD,h2]using e1
 subst ev
 by_cases hn0:n=0
 ·subst hn0
  refine(JF a c.w).mono ?_
  rintro e w' ⟨rfl,rfl⟩
  exact⟨_,rfl,c,.sl [] .full,h,rfl,g,.refl c,h0,hs,.full (.refl h),.refl h⟩
 ·refine(JE a n ad4 hn c.w).mono ?_
  rintro e w' ⟨z,hz,rfl,rfl⟩
  refine⟨_,rfl,?_⟩;have hG:=grownCap_ge c.w n 0 5;have hG63:grownCap c.w n 0 5≤9223372036854775807:=by
   grind [grownCap_le_maxLen,maxLen]
  generalize hGe:grownCap c.w n 0 5=G at hG hG63;generalize hcells:Builtin.zeroCells z.cells n++Builtin.zeroCells z.cells (G - n)=cells;have hcs:cells.size=G:=by grind [size_zeroCells]
  obtain⟨id,hid⟩:=g.fresh;have g1:Ab.Good ({c with w:=c.w.drew}:Cx):=g.draw rfl rfl rfl rfl
  have e1:Ext c {c with w:=c.w.drew}:=Ext.draw rfl rfl rfl rfl
  have hh:h id=none:=yw hs hid;refine⟨Cx.aA {c with w:=c.w.drew} (.cells cells 5) id ⟨c.w.heap.size,0,none⟩ (.spare 0 1),.sl [] (.own id),upd h id (some (.spare 0 1)),rfl,?_,e1.trans (Ext.aA _ _ id _ _ rfl (.inl hid)),?_,hs.upd id _,?_,?_⟩
  ·exact g1.aA _ _ _ id _ _ rfl (.inl hid) aec aec
  ·refine .sl [] _ (some ⟨c.w.heap.size,0,none⟩) G 1 (fun _ _=>undef) (Nat.zero_le _) (by grind [lim]) aec (fun q hq _=>by cases hq;exact⟨rfl,by simp[Cx.aA]⟩)
    aec aec aec aec ?_
   exact⟨0,agt,Nat.le_refl _,fun _=>⟨_,rfl,agt,cells,5,(0,0),heap_alloc_new c.w.drew _,ad5⟩⟩
  ·exact⟨(Sub.refl h).new hh _,.inr ⟨id,hh,rfl,by grind [ah,u5]⟩⟩
  ·exact((Sub.refl h).new hh _).gm
theorem u27:(U 77).sz=1:=aek
theorem nX(ls:List (List UInt8))(i:Nat)(hi:i<ls.length):(ls.take (i+1)).flatten=(ls.take i).flatten++ls[i]:=by
 rw[List.take_succ_eq_append_getElem hi,List.flatten_append,List.flatten_cons,List.flatten_nil,List.append_nil]
theorem o8(ls:List (List UInt8))(i:Nat):(ls.take i).flatten.length≤ls.flatten.length:=by
 grind [List.take_append_drop,List.flatten_append,adY]
theorem AI(ys:List AV)(ls:List (List UInt8))(q:Perm)(h:Heap)(hr:Ab.Rows 5 h ys ls)(hl:ls.flatten.length≤20000000)(hn:ls.length≤20000000):
  ai Tryz.prog 67 [.sl ys q] h fun r h' =>r= .sl (ls.flatten.map aN) .no∧Sub h h' :=by
 have hlen:=hr.1;refine ad3 Tryz.func67 36 [.tmp 2] fun hwf=>?_
 simp only[go_sem];refine .intro (fun m ρ h' =>h' =h∧∃i:Nat,i≤ls.length∧m=ls.length - i∧lk ρ 0=some (.sl ys q)∧lk ρ 9=some (.sl ys q)∧lk ρ 10=some (.i ys.length)∧
  lk ρ 11=some (.i i)∧lk ρ 3=some (.v (.int .i64 (ls.take i).flatten.length))) ls.length ?_ ?_
 ·refine⟨rfl,0,Nat.zero_le _,rfl,?_,?_,?_,?_,?_⟩<;>simp only[go_sem]
  all_goals first|rfl|simp
 ·rintro m ρ h' ⟨rfl,i,hi,rfl,r0,r9,r10,r11,r3⟩
  simp only[go_sem,r0,r9,r10,r11,r3];refine .intro (fun e=>?_) (fun e=>?_)
  ·have hlt:i<ys.length:=by simpa using e
   have hlt2:i<ls.length:=ad4;have hb:=hr.2 i hlt hlt2;simp only[go_sem,r0,r9,r10,r11,r3];refine .at i hlt (by rw[hb.cells];rfl) ?_
   have t1:=o8 ls (i+1);have t2:=nX ls i hlt2;have w1:IntKind.i64.wrap (((ls.take i).flatten.length:Int)+(ls[i].length:Int))=((ls.take (i+1)).flatten.length:Nat):=by
    rw[t2,adY]at t1⊢;rw[IntWalk.i64_in _ ad4];omega
   simp only[go_sem,r0,r9,r10,r11,r3,hb.cells,hb.MM,and_self,hb.len,w1];refine .no (decide_eq_false ad4) ?_;have w2:IntKind.i64.wrap ((i:Int)+1)=((i+1:Nat):Int):=agw;simp only[go_sem,r0,r9,r10,r11,r3,w2];refine⟨ls.length - (i+1),ad4,rfl,i+1,hlt2,rfl,?_,?_,?_,?_,?_⟩<;>simp only[go_sem,r0,r9,r10,r11,r3]
  ·have hge:i=ls.length:=by
    have:¬(i<ys.length):=by simpa using e
    omega
   subst hge;rw[List.take_length]at r3;simp only[go_sem,r0,r9,r10,r11,r3];refine(OW ls.flatten.length hl h').mono fun g1 h1 ⟨ha,hk⟩=>?_
   simp only[go_sem,r0,r9,r10,r11,r3];refine .intro (fun m ρ h2=>∃g:AV,∃i:Nat,Acc U 5 h' h2 g ((ls.take i).flatten.map aN)∧fN h' h2∧i≤ls.length∧m=ls.length - i∧lk ρ 25=some (.sl ys q)∧lk ρ 26=some (.i ys.length)∧
    lk ρ 27=some (.i i)∧lk ρ 6=some g) ls.length ?_ ?_
   ·refine⟨g1,0,ha,hk,Nat.zero_le _,rfl,?_,?_,?_,?_⟩<;>simp only[go_sem]
    all_goals rfl
   ·rintro m ρ h2 ⟨g,i,ha,hk,hi,rfl,r25,r26,r27,r6⟩
    simp only[go_sem,r25,r26,r27,r6];refine .intro (fun e=>?_) (fun e=>?_)
    ·have hlt:i<ys.length:=by simpa using e
     have hlt2:i<ls.length:=ad4;have hb:=(hr.2 i hlt hlt2).gm hk;have t1:=o8 ls (i+1);have t2:=nX ls i hlt2;simp only[go_sem,r25,r26,r27,r6];refine .at i hlt (by rw[hb.cells];rfl) ?_
     simp only[go_sem,r25,r26,r27,r6,hb.cells,hb.MM,and_self];refine ha.app (zs:=ls[i].map aN) (by rw[u5];decide) (by rw[Tj];decide) (fun k hk=>by rw[hb.src u5];exact hk) (by rw[u5,jF];trivial) (by rw[u5,jF];trivial) ?_ fun g' h3 ha' hk' =>?_
     ·rw[Tj,adU,adU]
      rw[t2,adY]at t1;omega
     ·have w2:IntKind.i64.wrap ((i:Int)+1)=((i+1:Nat):Int):=by rw[IntWalk.i64_in _ ad4];omega
      simp only[go_sem,r25,r26,r27,r6,w2];rw[←List.map_append,←t2]at ha';refine⟨ls.length - (i+1),ad4,g',i+1,ha',hk.trans hk',hlt2,rfl,?_,?_,?_,?_⟩<;>simp only[go_sem,r25,r26,r27,r6]
    ·have hge:i=ls.length:=by
      have:¬(i<ys.length):=by simpa using e
      omega
     subst hge;rw[List.take_length]at ha;simp only[go_sem,r25,r26,r27,r6];exact .mk _ ha.weak (.refl _) ⟨rfl,ha.1⟩
structure D where
 q:Nat
 b:List UInt8
 sy:Nat
 f:Nat
 off:Bool
def D.ok(d:D):Prop:=d.b.length≤d.q∧d.q≤1048576∧d.sy≤d.b.length∧d.f<9223372036854775808
def D.burn(d:D):D:=if 0<d.f then {d with f:=d.f - 1,off:=decide (d.f=1)} else d
def D.cells(d:D)(y:AV):List AV:=[.i d.q,y,.i d.sy,.i d.f,.b d.off]
def bQ(h:Heap)(id:Nat)(d:D):Prop:=∃y,h id=some (.obj (d.cells y) 143)∧By h y d.b
theorem bQ.keep{h h' :Heap}{id:Nat}{d:D}(hd:bQ h id d)(hs:fN h h'):bQ h' id d:=by
 obtain⟨y,h1,h2⟩:=hd;exact⟨y,hs _ _ _ h1,h2.gm hs⟩
theorem By.set{h:Heap}{id:Nat}{x:AV}{l:List UInt8}{cs cs' :List AV}(hb:By h x l)(hid:h id=some (.obj cs 143)):By (upd h id (some (.obj cs' 143))) x l:=hb.keep (Keep.upd id _) hid ad9
theorem LQ(q:Nat)(hq:q≤1048576)(h:Heap):
  ai Tryz.prog 24 [.i q] h fun r h' =>∃id,h id=none∧r= .tup [.ptr id 0,.i 0]∧bQ h' id ⟨q,[],0,0,false⟩∧Sub h h' :=by
 refine ad3 Tryz.func24 13 [.tmp 2,.tmp 3] fun hwf=>?_
 simp only[go_sem];refine .intro (fun e=>absurd (adW e) ad4) (fun e=>?_)
 simp only[go_sem];refine .no (decide_eq_false ad4) ?_;simp only[go_sem];intro id hid;simp only[go_sem];exact .same (.refl _) ⟨id,hid,rfl,⟨_,ah ..,.inl ⟨.full,rfl⟩⟩,(Sub.refl h).new hid _⟩
theorem oY(d:D)(hd:d.ok)(id:Nat)(h:Heap)(y:AV)(hid:h id=some (.obj (d.cells y) 143)):
  ai Tryz.prog 68 [.ptr id 0] h fun r h' =>r= .b d.burn.off∧h' =upd h id (some (.obj (d.burn.cells y) 143)):=by
 obtain⟨q,b,sy,f,off⟩:=d;obtain⟨d1,d2,d3,d4⟩:=hd;simp only at d1 d2 d3 d4;simp only[D.cells]at hid;refine ad3 Tryz.func68 27 [.tmp 2] fun hwf=>?_
 simp only[go_sem,hid];refine .intro (fun e=>?_) (fun e=>?_)
 ·have e:=adW e
  have w1:IntKind.i64.wrap ((f:Int) - 1)=((f - 1:Nat):Int):=agw;simp only[go_sem,hid,w1];have hb:(((f - 1:Nat):Int)==0)=decide (f=1):=by
   by_cases h1:f=1
   ·simp[h1]
   ·have:f - 1≠0:=by omega
    simp[h1,Int.natCast_eq_zero,this]
  refine .same (.refl _) ⟨?_,?_⟩
  ·simp only[D.burn,if_pos (show 0<f by omega),hb,ax]
  ·simp only[D.burn,D.cells,if_pos (show 0<f by omega),hb]
 ·have e:=adX e
  have hf:¬0<f:=ad4;simp only[go_sem,hid];refine .same (.refl _) ⟨?_,?_⟩
  ·simp only[D.burn,if_neg hf,ax]
  ·simp only[D.burn,D.cells,if_neg hf]
   funext j
   simp only[upd];split
   ·rename_i e;subst e;exact hid
   ·rfl
theorem D.oY{d:D}(hd:d.ok):d.burn.ok:=by
 obtain⟨d1,d2,d3,d4⟩:=hd;unfold D.burn;split
 ·exact⟨d1,d2,d3,ad5⟩
 ·exact⟨d1,d2,d3,d4⟩
theorem D.uQ(d:D):d.burn.b=d.b:=by grind [D.burn]
theorem D.LF(d:D):d.burn.q=d.q:=by grind [D.burn]
theorem D.OB(d:D):d.burn.sy=d.sy:=by grind [D.burn]
theorem OS(d:D)(hd:d.ok)(id:Nat)(h:Heap)(y:AV)(hid:h id=some (.obj (d.cells y) 143))(hb:By h y d.b):
  ai Tryz.prog 66 [.ptr id 0] h fun r h' =>r= .i (d.q - d.b.length:Nat)∧h' =h:=by
 obtain⟨q,b,sy,f,off⟩:=d;obtain⟨d1,d2,d3,d4⟩:=hd;simp only at d1 d2 d3 d4 hb;simp only[D.cells]at hid;refine ad3 Tryz.func66 13 [.tmp 2] fun hwf=>?_
 have w1:IntKind.i64.wrap ((q:Int) - b.length)=((q - b.length:Nat):Int):=agw;simp only[go_sem,hid,hb.len,w1];exact⟨.of ad7,.same (.refl _) ⟨rfl,rfl⟩⟩
theorem SD(d:D)(id:Nat)(h:Heap)(y:AV)(hid:h id=some (.obj (d.cells y) 143))(hb:By h y d.b):
  ai Tryz.prog 77 [.ptr id 0] h fun r h' =>r= .i d.b.length∧h' =h:=by
 simp only[D.cells]at hid;refine ad3 Tryz.func77 8 [.tmp 2] fun hwf=>?_
 simp only[go_sem,hid,hb.len];exact aee
theorem PG(d:D)(hd:d.ok)(id:Nat)(h:Heap)(y:AV)(hid:h id=some (.obj (d.cells y) 143))(hb:By h y d.b):
  ai Tryz.prog 76 [.ptr id 0] h fun r h' =>r= .sl (d.b.map aN) .no∧h' =h:=by
 obtain⟨d1,d2,d3,d4⟩:=hd;simp only[D.cells]at hid;refine ad3 Tryz.func76 8 [.tmp 2] fun hwf=>?_
 simp only[go_sem,hid];refine(qD y d.b h hb ad4).mono fun r h' ⟨e1,e2⟩=>?_
 subst e1;subst e2
 simp only[go_sem];exact aee
def D.append(d:D)(b:List UInt8):D×Nat:=
 if d.off then(d,9)else if d.q<d.b.length+b.length then(d,8)else
  let e:=D.burn {d with b:=d.b++b}
  (e,if e.off then 9 else 0)
def D.sync(d:D):D×Nat:=
 if d.off then(d,9)else if d.burn.off then(d.burn,9)else({d.burn with sy:=d.b.length},0)
def D.cut(d:D)(n:Int):D×Nat:=
 if d.off then(d,9)else if n<0∨(d.b.length:Int)<n then(d,1)else
  if d.burn.off then(d.burn,9)else({d.burn with b:=d.b.take n.toNat,sy:=min d.sy n.toNat},0)
theorem D.uL{d:D}(hd:d.ok)(b:List UInt8):(d.append b).1.ok:=by
 unfold D.append;split
 ·omega
 ·split
  ·omega
  ·refine D.oY ⟨?_,hd.2.1,?_,hd.2.2.2⟩
   ·grind
   ·have:=hd.2.2.1
    grind
theorem D.xF{d:D}(hd:d.ok):d.sync.1.ok:=by
 have hb:=D.oY hd;unfold D.sync;split
 ·exact hd
 ·split
  ·exact hb
  ·obtain⟨d1,d2,d3,d4⟩:=hb
   refine⟨d1,d2,?_,d4⟩;simp[D.uQ,Nat.le_refl]
theorem D.B3{d:D}(hd:d.ok)(n:Int):(d.cut n).1.ok:=by
 have hb:=D.oY hd;unfold D.cut;split
 ·exact hd
 ·split
  ·exact hd
  ·split
   ·exact hb
   ·obtain⟨d1,d2,d3,d4⟩:=hb
    obtain⟨e1,e2,e3,e4⟩:=hd;refine⟨?_,?_,?_,d4⟩
    ·grind [D.LF,List.length_take]
    ·grind [D.LF]
    grind
theorem uL(d:D)(hd:d.ok)(id:Nat)(h:Heap)(x:AV)(b:List UInt8)(hdk:bQ h id d)(hx:By h x b)(hl:b.length≤1000000000):
  ai Tryz.prog 26 [.ptr id 0,x] h fun r h' =>r= .v (.int .i64 (d.append b).2)∧bQ h' id (d.append b).1∧Keep id h h' :=by
 obtain⟨y,hid0,hb⟩:=hdk;have hid:=hid0;simp only[D.cells]at hid;have hok:=hd;obtain⟨d1,d2,d3,d4⟩:=hd;refine ad3 Tryz.func26 26 [.tmp 4] fun hwf=>?_
 simp only[go_sem,hid];refine .intro (fun e=>?_) (fun e=>?_)
 ·simp only[go_sem]
  refine .same (.refl _) ?_;simp only[D.append,e,if_true,ax];exact afC
 ·simp only[go_sem,hid,hx.len]
  refine(OS d hok id h y hid0 hb).mono fun r h' ⟨e1,e2⟩=>?_
  subst e1;subst e2
  simp only[go_sem];refine .intro (fun e2=>?_) (fun e2=>?_)
  ·have e2:=adW e2
   simp only[go_sem];refine .same (.refl _) ?_;simp only[D.append,e,if_pos (show d.q<d.b.length+b.length by omega),ax]
   exact afC
  ·have e2:=adX e2
   have hno:¬d.q<d.b.length+b.length:=ad4;simp only[go_sem,hid,hb.fit,hx.fit];refine(AI [y,x] [d.b,b] .full h' (.cons hb (.cons hx .nil)) ?_ aec).mono fun r h1 ⟨e1,hs⟩=>?_
   ·simp only[List.flatten_cons,List.flatten_nil,List.append_nil,adY];omega
   ·subst e1
    have hid1:=hs _ _ hid;simp only[go_sem,hid1];have hok2:D.ok {d with b:=d.b++b}:=⟨by show(d.b++b).length≤d.q;rw[adY];omega,d2,by show d.sy≤(d.b++b).length;rw[adY];omega,d4⟩
    refine(oY {d with b:=d.b++b} hok2 id _ (.sl ((d.b++b).map aN) .no) ?_).mono fun r h2 ⟨e1,e2⟩=>?_
    ·rw[ah]
     simp only[D.cells,List.flatten_cons,List.flatten_nil,List.append_nil]
    ·subst e1;subst e2
     have hk:Keep id h' (upd (upd h1 id (some (.obj (d.cells (.sl ((d.b++b).map aN) .no)) 143))) id (some (.obj ((D.burn {d with b:=d.b++b}).cells (.sl ((d.b++b).map aN) .no)) 143))):=
      (hs.keep id).trans ((Keep.upd id _).trans (Keep.upd id _))
     have hA:d.append b=(D.burn {d with b:=d.b++b},if(D.burn {d with b:=d.b++b}).off then 9 else 0):=by
      unfold D.append;rw[if_neg (by simp[e]),if_neg hno]
     simp only[go_sem];refine .intro (fun e3=>?_) (fun e3=>?_)
     ·simp only[go_sem]
      refine .same (.refl _) ?_;rw[hA,if_pos e3];refine⟨rfl,⟨_,ah ..,?_⟩,fun j k hj hk2=>?_⟩
      ·simp only[D.uQ];exact .sl _ _
      ·rw[ag _ _ hj];exact hs _ _ hk2
     ·simp only[go_sem]
      refine .same (.refl _) ?_;rw[hA,if_neg (by simp[e3])]
      refine⟨rfl,⟨_,ah ..,?_⟩,fun j k hj hk2=>?_⟩
      ·simp only[D.uQ];exact .sl _ _
      ·rw[ag _ _ hj];exact hs _ _ hk2
theorem xF(d:D)(hd:d.ok)(id:Nat)(h:Heap)(hdk:bQ h id d):
  ai Tryz.prog 79 [.ptr id 0] h fun r h' =>r= .i d.sync.2∧bQ h' id d.sync.1∧Keep id h h' :=by
 obtain⟨y,hid0,hb⟩:=hdk;have hid:=hid0;simp only[D.cells]at hid;refine ad3 Tryz.func79 19 [.tmp 2] fun hwf=>?_
 simp only[go_sem,hid];refine .intro (fun e=>?_) (fun e=>?_)
 ·simp only[go_sem,e]
  refine .same (.refl _) ?_;simp only[D.sync,e,if_true,ax];exact afC
 ·simp only[go_sem,e]
  refine(oY d hd id h y hid0).mono fun r h1 ⟨e1,e2⟩=>?_
  subst e1;subst e2
  simp only[go_sem];refine .intro (fun e3=>?_) (fun e3=>?_)
  ·simp only[go_sem]
   refine .same (.refl _) ?_;rw[show d.sync=(d.burn,9) by unfold D.sync;rw[if_neg (by simp[e]),if_pos e3]]
   exact⟨rfl,⟨_,ah ..,by rw[D.uQ];exact hb.set hid⟩,Keep.upd id _⟩
  ·simp only[D.cells]
   simp only[go_sem,hb.len];refine .same (.refl _) ?_;rw[show d.sync=({d.burn with sy:=d.b.length},0) by unfold D.sync;rw[if_neg (by simp[e]),if_neg (by simp[e3])]]
   exact⟨rfl,⟨_,ah ..,by show By _ _ d.burn.b;rw[D.uQ];exact hb.set hid⟩,Keep.upd id _⟩
theorem B3(d:D)(hd:d.ok)(id:Nat)(h:Heap)(n:Int)(hdk:bQ h id d):
  ai Tryz.prog 78 [.ptr id 0,.i n] h fun r h' =>r= .v (.int .i64 (d.cut n).2)∧bQ h' id (d.cut n).1∧Keep id h h' :=by
 obtain⟨y,hid0,hb⟩:=hdk;have hid:=hid0;simp only[D.cells]at hid;have hok:=hd;obtain⟨d1,d2,d3,d4⟩:=hd;refine ad3 Tryz.func78 41 [.tmp 4] fun hwf=>?_
 simp only[go_sem,hid];refine .intro (fun e=>?_) (fun e=>?_)
 ·simp only[go_sem]
  refine .same (.refl _) ?_;simp only[D.cut,e,if_true,ax];exact afC
 ·simp only[go_sem,hid]
  have bad:(n<0∨(d.b.length:Int)<n)→nv [.i 1] h fun r h' =>r= .v (.int .i64 (d.cut n).2)∧bQ h' id (d.cut n).1∧Keep id h h' :=fun hbad=>by
   refine .same (.refl _) ?_;simp only[D.cut,e,if_pos hbad,ax];exact afC
  refine .intro (fun e2=>?_) (fun e2=>?_)
  ·have e2' :=adW e2
   simp only[go_sem,e2];exact bad (.inl e2')
  ·have e2' :=adX e2
   simp only[go_sem,e2,hid,hb.len];refine .intro (fun e3=>?_) (fun e3=>?_)
   ·have e3' :=adW e3
    simp only[go_sem];exact bad (.inr e3')
   ·have e3' :=adX e3
    have hno:¬(n<0∨(d.b.length:Int)<n):=ad4;simp only[go_sem];refine(oY d hok id h y hid0).mono fun r h1 ⟨e1,e2⟩=>?_
    subst e1;subst e2
    simp only[go_sem];refine .intro (fun e4=>?_) (fun e4=>?_)
    ·simp only[go_sem]
     refine .same (.refl _) ?_;rw[show d.cut n=(d.burn,9) by unfold D.cut;rw[if_neg (by simp[e]),if_neg hno,if_pos e4]]
     exact⟨rfl,⟨_,ah ..,by rw[D.uQ];exact hb.set hid⟩,Keep.upd id _⟩
    ·have hb1:By (upd h id (some (.obj (d.burn.cells y) 143))) y d.b:=hb.set hid
     simp only[D.cells]at hb1⊢;simp only[go_sem];refine hb1.take (m:=n) (x:=.i64) n.toNat ?_ ad4 ad4 u5 fun z hz=>?_
     ·simp only[go_sem]
     ·simp only[go_sem]
      refine(qD z _ _ hz af5).mono fun r h1 ⟨e1,e2⟩=>?_
      subst e1;subst e2
      simp only[go_sem];refine .same (.refl _) ?_;rw[show d.cut n=({d.burn with b:=d.b.take n.toNat,sy:=min d.sy n.toNat},0) by unfold D.cut;rw[if_neg (by simp[e]),if_neg hno,if_neg (by simp[e4])]]
      refine⟨rfl,⟨.sl ((d.b.take n.toNat).map aN) .no,?_,.sl _ _⟩,Keep.upd id _⟩;simp only[ah,D.cells,D.OB];have:(if n<(d.sy:Int)then n else(d.sy:Int))=((min d.sy n.toNat:Nat):Int):=by split<;>omega
      rw[this]
theorem D.Ot{d:D}{b:List UInt8}(h1:d.off=false)(h2:d.f=0)(h3:d.b.length+b.length≤d.q):d.append b=({d with b:=d.b++b},0):=by
 rcases d with⟨q,b0,sy,f,off⟩
 subst h1;subst h2
 unfold D.append;rw[if_neg aec,if_neg ad5];rfl
theorem D.Rb{d:D}(h1:d.off=false)(h2:d.f=0):d.sync=({d with sy:=d.b.length},0):=by
 simp_all [D.sync,D.burn,if_neg]
theorem dthen{f:FuncId}{args:List AV}{h:Heap}{Q:AV→Heap→Prop}{X:AV}{id:Nat}{d:D}(hf:ai Tryz.prog f args h fun r h' =>r=X∧bQ h' id d∧Keep id h h')(k:∀h',bQ h' id d→Keep id h h'→Q X h'):ai Tryz.prog f args h Q:=
 hf.mono fun r h' ⟨e1,e2,e3⟩=>by subst e1;exact k h' e2 e3
theorem Nk(d:D)(hk:d.ok)(id:Nat)(h:Heap)(hd:bQ h id d):ai Tryz.prog 76 [.ptr id 0] h fun r h' =>r= .sl (d.b.map aN) .no∧h' =h:=by
 obtain⟨y,h1,h2⟩:=hd;exact PG d hk id h y h1 h2
theorem Pe(d:D)(id:Nat)(h:Heap)(hd:bQ h id d):ai Tryz.prog 77 [.ptr id 0] h fun r h' =>r= .i d.b.length∧h' =h:=by
 obtain⟨y,h1,h2⟩:=hd;exact SD d id h y h1 h2
theorem lC{d:D}{b:List UInt8}(h1:d.off=false)(h2:d.b.length+b.length≤d.q):d.append b=(D.burn {d with b:=d.b++b},if(D.burn {d with b:=d.b++b}).off then 9 else 0):=by
 simp_all [D.append,if_neg]
theorem D.QD{d:D}(h:d.f=0):d.burn=d:=by simp_all [D.burn,if_neg]
theorem D.Yf{d:D}(h1:d.off=false)(h2:d.f=0){n:Nat}(h3:n≤d.b.length):d.cut n=({d with b:=d.b.take n,sy:=min d.sy n},0):=by
 simp_all [D.cut,if_neg,D.QD]
theorem D.Fh{d:D}{b:List UInt8}(h1:d.off=false)(h2:d.q<d.b.length+b.length):d.append b=(d,8):=by
 simp_all [D.append,if_neg,if_pos]
def B1(s:BitVec 32):BitVec 32:=if s &&& 1#32=1#32 then(s>>>1) ^^^ 0xedb88320#32 else s>>>1
def I8:Nat→BitVec 32→BitVec 32
 |0,s=>s
 |n+1,s=>B1 (I8 n s)
def rF(s:BitVec 32)(c:UInt8):BitVec 32:=I8 8 (s ^^^ BitVec.ofNat 32 c.toNat)
def crc(l:List UInt8):BitVec 32:= ~~~ (l.foldl rF (BitVec.allOnes 32))
theorem RU(c:UInt8):IntKind.u32.wrap (c.toNat:Int)=((BitVec.ofNat 32 c.toNat).toNat:Int):=by
 rfl
theorem Gu(x:BitVec 32):(((x &&& 1#32).toNat:Int)==1)=decide (x &&& 1#32=1#32):=by
 rw[Bool.eq_iff_iff,beq_iff_eq,decide_eq_true_iff];constructor
 ·intro h
  apply BitVec.eq_of_toNat_eq
  grind
 grind
theorem NI(y:AV)(l:List UInt8)(h:Heap)(hb:By h y l)(hl:l.length≤1000000000):
  ai Tryz.prog 70 [y] h fun r h' =>r= .v (.int .u32 ((crc l).toNat:Int))∧h' =h:=by
 refine ad3 Tryz.func70 31 [.tmp 2] fun hwf=>?_
 simp only[go_sem,hb.len];refine .intro (fun m ρ h' =>h' =h∧∃i:Nat,i≤l.length∧m=l.length - i∧lk ρ 7=some y∧lk ρ 8=some (.i l.length)∧lk ρ 9=some (.i i)∧lk ρ 3=some (.v (.int .u32 (((l.take i).foldl rF (BitVec.allOnes 32)).toNat:Int)))) l.length ?_ ?_
 ·refine⟨rfl,0,ad4,rfl,?_,?_,?_,?_⟩<;>simp only[go_sem]
  rfl
 ·rintro m ρ h' ⟨rfl,i,hi,rfl,r7,r8,r9,r3⟩
  simp only[go_sem,r7,r8,r9,r3];refine .intro (fun e=>?_) (fun e=>?_)
  ·have hlt:i<l.length:=ad1 e
   have w1:IntKind.i64.wrap ((i:Int)+1)=((i+1:Nat):Int):=aej;have hs:(l.take (i+1)).foldl rF (BitVec.allOnes 32)=rF ((l.take i).foldl rF (BitVec.allOnes 32)) l[i]:=by
    grind [List.take_succ_eq_append_getElem]
   generalize (l.take i).foldl rF (BitVec.allOnes 32)=s at r3 hs;simp only[go_sem,r7,r8,r9,r3];refine hb.idx i rfl hlt u5 u5a fun p hp=>?_
   simp only[go_sem,r7,r8,r9,r3,hp _,RU];refine .intro (fun m ρ h2=>h2=h'∧∃j:Nat,j≤8∧m=8 - j∧lk ρ 7=some y∧lk ρ 8=some (.i l.length)∧lk ρ 9=some (.i i)∧lk ρ 17=some (.i j)∧lk ρ 3=some (.v (.int .u32 ((I8 j (s ^^^ BitVec.ofNat 32 l[i].toNat)).toNat:Int)))) 8 ?_ ?_
   ·refine⟨rfl,0,ad4,rfl,?_,?_,?_,?_,?_⟩<;>simp only[go_sem,r7,r8,r9,r3]
    rfl
   ·rintro m ρ h2 ⟨rfl,j,hj,rfl,q7,q8,q9,q17,q3⟩
    simp only[go_sem,q7,q8,q9,q17,q3];refine .intro (fun e=>?_) (fun e=>?_)
    ·have hjl:j<8:=by grind
     have w2:IntKind.i64.wrap ((j:Int)+1)=((j+1:Nat):Int):=aej;have hc:I8 (j+1) (s ^^^ BitVec.ofNat 32 l[i].toNat)=B1 (I8 j (s ^^^ BitVec.ofNat 32 l[i].toNat)):=rfl;generalize I8 j (s ^^^ BitVec.ofNat 32 l[i].toNat)=z at q3 hc;simp only[go_sem,q7,q8,q9,q17,q3,Gu];refine .intro (fun e2=>?_) (fun e2=>?_)
     ·simp only[go_sem,q7,q8,q9,q17,q3,Gu,w2]
      refine⟨_,?_,rfl,j+1,ad4,rfl,?_,?_,?_,?_,?_⟩
      rotate_left 5
      ·simp only[go_sem,q7,q8,q9,q17,q3]
       simp_all [B1,if_pos,adW]
      ·omega
      all_goals simp only[go_sem,q7,q8,q9,q17,q3,w2]
     ·simp only[go_sem,q7,q8,q9,q17,q3,Gu,w2]
      refine⟨_,?_,rfl,j+1,ad4,rfl,?_,?_,?_,?_,?_⟩
      rotate_left 5
      ·simp only[go_sem,q7,q8,q9,q17,q3]
       simp_all [B1,if_neg,adX]
      ·omega
      all_goals simp only[go_sem,q7,q8,q9,q17,q3,w2]
    ·have hj8:j=8:=by grind
     subst hj8;simp only[go_sem,q7,q8,q9,q17,q3,w1];refine⟨_,?_,rfl,i+1,ad4,rfl,?_,?_,?_,?_⟩
     rotate_left 4
     ·simp only[go_sem,q7,q8,q9,q17,q3]
      rw[hs];rfl
     ·omega
     all_goals simp only[go_sem,q7,q8,q9,q17,q3,w1]
  ·have hge:i=l.length:=by grind
   subst hge;rw[List.take_length]at r3;simp only[go_sem,r7,r8,r9,r3];exact aee
def qL(n:Nat):List UInt8:=[UInt8.ofNat n,UInt8.ofNat (n / 256),UInt8.ofNat (n / 65536),UInt8.ofNat (n / 16777216)]
def fG(l:List UInt8):Nat:=(l.getD 0 0).toNat+(l.getD 1 0).toNat*256+(l.getD 2 0).toNat*65536+(l.getD 3 0).toNat*16777216
theorem HM(n:Nat)(hn:n<4294967296)(h:Heap):ai Tryz.prog 69 [.v (.int .u32 (n:Int))] h fun r h' =>r= .sl ((qL n).map aN) .no∧h' =h:=by
 refine ad3 Tryz.func69 15 [.tmp 2] fun hwf=>?_
 have s8:=fun K=>LD (U:=U) (ty:=147) (K:=K) n 8 .u64 ad9
 have s16:=fun K=>LD (U:=U) (ty:=147) (K:=K) n 16 .u64 ad9
 have s24:=fun K=>LD (U:=U) (ty:=147) (K:=K) n 24 .u64 ad9
 simp only[Int.cast_ofNat_Int]at s8 s16 s24;simp only[go_sem,↓s8,↓s16,↓s24,w8];exact agq
theorem Ds(y:AV)(l:List UInt8)(h:Heap)(hb:By h y l)(hl:4≤l.length):ai Tryz.prog 181 [y] h fun r h' =>r= .v (.int .u32 (fG l:Nat))∧h' =h:=by
 refine ad3 Tryz.func181 25 [.tmp 2] fun hwf=>?_
 have lt:∀c:UInt8,c.toNat<256:=fun c=>c.toNat_lt
 have hnum:fG l=l[0].toNat+l[1].toNat*2 ^ 8+l[2].toNat*2 ^ 16+l[3].toNat*2 ^ 24:=by
  grind [fG]
 generalize hc0:l[0]=c0 at hnum;generalize hc1:l[1]=c1 at hnum;generalize hc2:l[2]=c2 at hnum;generalize hc3:l[3]=c3 at hnum;have v:=fun c:UInt8=>w32 c.toNat ad5
 have s1:=fun K=>Fp (U:=U) (ty:=147) (K:=K) c1.toNat 8 .u64 ad9 (lt _)
 have s2:=fun K=>Fp (U:=U) (ty:=147) (K:=K) c2.toNat 16 .u64 ad9 (lt _)
 have s3:=fun K=>Fp (U:=U) (ty:=147) (K:=K) c3.toNat 24 .u64 ad9 (lt _)
 have o1:=fun K=>LC (U:=U) (ty:=147) (K:=K) c0.toNat c1.toNat 8 ad5 ad9 (lt _)
 have o2:=fun K=>LC (U:=U) (ty:=147) (K:=K) (c0.toNat+c1.toNat*2 ^ 8) c2.toNat 16 ad5 ad9 (lt _)
 have o3:=fun K=>LC (U:=U) (ty:=147) (K:=K) (c0.toNat+c1.toNat*2 ^ 8+c2.toNat*2 ^ 16) c3.toNat 24 ad5 ad9 (lt _)
 simp only[Int.cast_ofNat_Int]at s1 s2 s3;simp only[go_sem];refine⟨.of ad7,?_⟩;refine hb.idx 0 rfl ad4 u5 u5a fun p0 hp0=>?_
 rw[hc0]at hp0;simp only[go_sem,hp0 _,v];refine hb.idx 1 rfl ad4 u5 u5a fun p1 hp1=>?_
 rw[hc1]at hp1;simp only[go_sem,hp1 _,v,↓s1,↓o1];refine hb.idx 2 rfl ad4 u5 u5a fun p2 hp2=>?_
 rw[hc2]at hp2;simp only[go_sem,hp2 _,v,↓s2,↓o2];refine hb.idx 3 rfl ad4 u5 u5a fun p3 hp3=>?_
 rw[hc3]at hp3;simp only[go_sem,hp3 _,v,↓s3,↓o3];refine .same (.refl _) ⟨?_,rfl⟩;rw[hnum];rfl
theorem tL(n:Nat):(qL n).length=4:=rfl
theorem Ba(n:Nat)(hn:n<4294967296)(r:List UInt8):fG (qL n++r)=n:=by
 grind [fG,qL,List.getD_cons_zero,List.getD_cons_succ,UInt8.toNat_ofNat']
theorem Pt(l:List UInt8):fG l<4294967296:=by
 have h:∀c:UInt8,c.toNat<256:=fun c=>c.toNat_lt
 have h0:=h (l.getD 0 0);have h1:=h (l.getD 1 0);have h2:=h (l.getD 2 0);have h3:=h (l.getD 3 0);unfold fG;omega
def frame(p:List UInt8):List UInt8:=qL p.length++qL (crc p).toNat++p
theorem fP(p:List UInt8):(frame p).length=8+p.length:=by grind [frame,tL]
def gh(l:List UInt8):Option (List UInt8):=
 if l.length<8 then none else if fG l<1∨8192<fG l∨l.length - 8<fG l then none else
  if(crc ((l.drop 8).take (fG l))).toNat=fG (l.drop 4)then some ((l.drop 8).take (fG l))else none
theorem nC{l p:List UInt8}(h:gh l=some p):8+p.length≤l.length∧1≤p.length∧p.length≤8192:=by
 unfold gh at h;split at h
 ·cases h
 ·split at h
  ·cases h
  ·split at h
   ·simp only[Option.some.injEq]at h
    subst h;rw[List.length_take,List.length_drop];omega
   ·cases h
theorem zX(p r:List UInt8)(h1:1≤p.length)(h2:p.length≤8192):gh (frame p++r)=some p:=by
 have e1:fG (frame p++r)=p.length:=by grind [frame,List.append_assoc,Ba]
 have e2:(frame p++r).drop 4=qL (crc p).toNat++(p++r):=by
  rfl
 have e3:(frame p++r).drop 8=p++r:=by
  rfl
 unfold gh;rw[if_neg (by grind [adY,fP]),e1,if_neg (by grind [adY,fP]),e2,e3,List.take_left,Ba _ (crc p).isLt,if_pos rfl]
theorem nV(l:List UInt8)(h:l.length<8):gh l=none:=by simp_all [gh,if_pos]
def scan(l:List UInt8):List (List UInt8)×Nat:=match h:gh l with
 |none=>([],0)
 |some p=>let r:=scan (l.drop (8+p.length));(p::r.1,8+p.length+r.2)
termination_by l.length
decreasing_by
 have:=nC h;rw[List.length_drop];omega
theorem oP{l:List UInt8}(h:gh l=none):scan l=([],0):=by
 grind [scan]
theorem rO{l p:List UInt8}(h:gh l=some p):scan l=(p::(scan (l.drop (8+p.length))).1,8+p.length+(scan (l.drop (8+p.length))).2):=by
 grind [scan]
def frames(ps:List (List UInt8)):List UInt8:=(ps.map frame).flatten
theorem Dt(p:List UInt8)(ps:List (List UInt8)):frames (p::ps)=frame p++frames ps:=aek
theorem vY(p:List UInt8)(ps:List (List UInt8)):frames (ps++ [p])=frames ps++frame p:=by simp[frames]
theorem EE(ps:List (List UInt8))(r:List UInt8)(h:∀p∈ps,1≤p.length∧p.length≤8192):scan (frames ps++r)=(ps++(scan r).1,(frames ps).length+(scan r).2):=by
 induction ps with
 |nil=>simp[frames]
 |cons p ps ih=>
  have hp:=h p aec;have hb:=zX p (frames ps++r) hp.1 hp.2;rw[Dt,List.append_assoc,rO hb,List.drop_left' (fP p),ih fun q hq=>h q ad5]
  simp[fP];omega
theorem IB(l:List UInt8):(scan l).2≤l.length:=by
 induction hn:l.length using Nat.strongRecOn generalizing l with
 |_ n ih=>
  cases hb:gh l with
  |none=>simp_all [oP,Nat.zero_le]
  |some p=>
   have hl:=nC hb;rw[rO hb];have:=ih (l.drop (8+p.length)).length ad5 _ rfl;rw[List.length_drop]at this;omega
theorem L7(y:AV)(l:List UInt8)(h:Heap)(hb:By h y l)(hl:l.length≤1000000):
  ai Tryz.prog 27 [y] h fun r h' =>r= .sl ((frame l).map aN) .no∧Sub h h' :=by
 refine ad3 Tryz.func27 13 [.tmp 2] fun hwf=>?_
 have w1:=w32 l.length ad4;simp only[go_sem,hb.len,w1];refine(HM l.length ad4 h).pthen ?_;simp only[go_sem];refine(NI y l h hb ad4).pthen ?_;simp only[go_sem];refine(HM (crc l).toNat (crc l).isLt h).pthen ?_;simp only[go_sem,hb.cells,hb.fit];refine(AI [.sl ((qL l.length).map aN) .no,.sl ((qL (crc l).toNat).map aN) .no,y] [qL l.length,qL (crc l).toNat,l] .full h (.cons (.sl _ _) (.cons (.sl _ _) (.cons hb .nil))) ?_ aec).sthen fun h' hs=>?_
 ·grind [tL]
 simp only[go_sem];refine .same (.refl _) ⟨?_,hs⟩;simp[frame,ax]
theorem Ca(y:AV)(l:List UInt8)(h:Heap)(hb:By h y l)(hl:l.length≤2000000):
  ai Tryz.prog 132 [y] h fun r h' =>(∃P p b,r= .tup [P,.b b]∧By h P p∧gh l=if b=true then some p else none)∧h' =h:=by
 refine ad3 Tryz.func132 36 [.tmp 2,.tmp 3] fun hwf=>?_
 rcases Nat.lt_or_ge l.length 8 with h8|h8
 ·have t1:decide ((l.length:Int)<8)=true:=decide_eq_true ad4
  simp only[go_sem,hb.len,t1];exact .same (.refl _) ⟨⟨_,[],false,rfl,.nil _,nV l h8⟩,rfl⟩
 ·have t1:decide ((l.length:Int)<8)=false:=decide_eq_false ad4
  simp only[go_sem,hb.len,t1];refine(Ds y l h hb ad4).pthen ?_;have hn:=Pt l;have w1:IntKind.i64.wrap ((fG l:Nat):Int)=((fG l:Nat):Int):=aU _ ad4;have w2:IntKind.i64.wrap ((l.length:Int) - 8)=((l.length - 8:Nat):Int):=aeD
  by_cases hbad:fG l<1∨8192<fG l∨l.length - 8<fG l
  ·have hnone:gh l=none:=by unfold gh;rw[if_neg ad4,if_pos hbad]
   have fin:∀Z:Prop,Z→Z:=fun _ z=>z
   by_cases c1:fG l<1
   ·have t2:decide (((fG l:Nat):Int)<1)=true:=decide_eq_true ad4
    simp only[go_sem,hb.len,w1,w2,t2];exact afA
   ·have t2:decide (((fG l:Nat):Int)<1)=false:=decide_eq_false ad4
    by_cases c2:8192<fG l
    ·have t3:decide ((8192:Int)<((fG l:Nat):Int))=true:=decide_eq_true ad4
     simp only[go_sem,hb.len,w1,w2,t2,t3];exact afA
    ·have t3:decide ((8192:Int)<((fG l:Nat):Int))=false:=decide_eq_false ad4
     have t4:decide (((l.length - 8:Nat):Int)<((fG l:Nat):Int))=true:=decide_eq_true ad4;simp only[go_sem,hb.len,w1,w2,t2,t3,t4];exact afA
  ·have t2:decide (((fG l:Nat):Int)<1)=false:=decide_eq_false ad4
   have t3:decide ((8192:Int)<((fG l:Nat):Int))=false:=decide_eq_false ad4;have t4:decide (((l.length - 8:Nat):Int)<((fG l:Nat):Int))=false:=decide_eq_false ad4;have w3:IntKind.i64.wrap ((8:Int)+((fG l:Nat):Int))=((8+fG l:Nat):Int):=aeD;simp only[go_sem,hb.len,w1,w2,t2,t3,t4,w3];refine hb.cut (m:=8) (m2:=(8+fG l:Nat)) (x:=.i64) (x2:=.i64) 8 (8+fG l) ?_ rfl ?_ rfl ad4 ad4 u5 fun z hz=>?_
   ·simp only[go_sem]
   ·simp only[go_sem]
   rw[Nat.add_sub_cancel_left]at hz;have hzl:((l.drop 8).take (fG l)).length≤1000000:=by rw[List.length_take,List.length_drop];omega
   simp only[go_sem];refine .quiet ad7 ?_;simp only[go_sem];refine⟨_,NI z _ h hz ad4,?_⟩;simp only[go_sem];refine hb.from (m:=4) (x:=.i64) 4 ?_ rfl ad4 u5 fun z4 hz4=>?_
   ·simp only[go_sem]
   simp only[go_sem];refine⟨_,Ds z4 _ h hz4 afE,?_⟩;simp only[go_sem];refine .same (.refl _) ⟨⟨z,_,_,rfl,hz,?_⟩,rfl⟩;unfold gh;rw[if_neg ad4,if_neg hbad]
   by_cases hc:(crc ((l.drop 8).take (fG l))).toNat=fG (l.drop 4)
   ·rw[if_pos hc,hc];simp
   ·rw[if_neg hc,if_neg]
    simp only[beq_iff_eq];omega
theorem Qb:(U 77).bytes=24:=aek
def nc(p:List UInt8):AV:=.sl (p.map aN) .no
theorem IA(ps:List (List UInt8))(h:Heap):Ab.Rows 5 h (ps.map nc) ps:=⟨aec,fun i h1 h2=>by simp only[adV];exact .sl _ _⟩
theorem zx(ps:List (List UInt8)):Sized 1 (ps.map nc):=(IA ps cV).sized
def iu(h:Heap)(y:AV)(xs:List AV)(sp:List Nat):Prop:=(y= .sl xs .full∧sp= [])∨∃k,y= .sl xs (.own k)∧h k=some (.spare xs.length 1)∧sp= [k]
theorem Kt{l:List UInt8}{at_:Nat}{ps:List (List UInt8)}{p:List UInt8}(h:scan l=(ps++(scan (l.drop at_)).1,at_+(scan (l.drop at_)).2))(hp:gh (l.drop at_)=some p):
  scan l=((ps++ [p])++(scan (l.drop (at_+(8+p.length)))).1,(at_+(8+p.length))+(scan (l.drop (at_+(8+p.length)))).2):=by
 simp_all [rO,List.drop_drop,Nat.add_assoc]
theorem PR(y:AV)(l:List UInt8)(h:Heap)(hb:By h y l)(hl:l.length≤2000000):
  ai Tryz.prog 75 [y] h fun r h' =>∃z sp,r= .tup [z,.i ((scan l).2:Nat)]∧iu h' z ((scan l).1.map nc) sp∧Sub h h'∧∀i∈sp,h i=none:=by
 refine ad3 Tryz.func75 29 [.tmp 2,.tmp 3] fun hwf=>?_
 simp only[go_sem];refine .intro (fun m ρ h' =>∃(i:Nat) (ps:List (List UInt8)) (z:AV),Acc U 77 h h' z (ps.map nc)∧fN h h'∧ps.length≤i∧i≤l.length∧m=l.length - i∧scan l=(ps++(scan (l.drop i)).1,i+(scan (l.drop i)).2)∧
  lk ρ 0=some y∧lk ρ 4=some z∧lk ρ 5=some (.i (i:Nat))) l.length ?_ ?_
 ·refine⟨0,[],_,.full (.refl h),.refl h,aec,ad4,rfl,aec,?_,?_,?_⟩<;>simp only[go_sem]
 ·rintro m ρ h' ⟨i,ps,z,ha,hk,hpi,hi,rfl,hsc,r0,r4,r5⟩
  have hb' :=hb.gm hk;simp only[go_sem,r0,r4,r5];refine hb'.from (m:=i) (x:=.i64) i ?_ rfl hi u5 fun y2 hy2=>?_
  ·rfl
  simp only[go_sem,r0,r4,r5];refine(Ca y2 (l.drop i) h' hy2 ad5).mono fun r h2 ⟨⟨P,p,b,e1,hP,hbg⟩,e2⟩=>?_
  subst e1;subst e2
  cases b with
  |false=>
   rw[if_neg aec]at hbg;rw[oP hbg]at hsc;simp only[go_sem,r0,r4,r5];have hs:=ha.1;rw[hsc];rcases ha.2 with rfl|⟨k,k1,rfl,k2⟩
   ·exact .same (.refl _) ⟨_,[],rfl,.inl ⟨aec,rfl⟩,hs,aec⟩
   ·rw[u27]at k2
    exact .same (.refl _) ⟨_,[k],rfl,.inr ⟨k,aec,ad5,rfl⟩,hs,ad5⟩
  |true=>
   rw[if_pos rfl]at hbg;have hpl:=nC hbg;rw[List.length_drop]at hpl;have hsc' :=Kt hsc hbg;have w1:IntKind.i64.wrap ((8:Int)+(p.length:Int))=((8+p.length:Nat):Int):=aej;have w2:IntKind.i64.wrap ((i:Int)+((8+p.length:Nat):Int))=((i+(8+p.length):Nat):Int):=aej;simp only[go_sem,r0,r4,r5];refine(qD P p h2 hP ad4).pthen' ?_;simp only[go_sem,r0,r4,r5];refine ha.app (zs:=[nc p]) ad9 ad9 (fun k hk=>hk) (by grind [u27,zx]) (by grind [u27,Sized,nc,AV.cells]) (by grind [Qb]) fun z' h3 ha' hk' =>?_
   rw[show ps.map nc++ [nc p]=(ps++ [p]).map nc by simp]at ha'
   have hP3:=hP.gm hk';simp only[go_sem,r0,r4,r5,hP3.len,w1,w2];refine⟨_,?_,i+(8+p.length),ps++ [p],z',ha',hk.trans hk',ad5,ad4,rfl,hsc',?_,?_,?_⟩
   ·omega
   all_goals simp only[go_sem,r0,r4,r5,hP3.len,w1,w2]
theorem PT(l:List UInt8):(scan l).1.length≤l.length∧∀p∈(scan l).1,p.length≤8192:=by
 induction hn:l.length using Nat.strongRecOn generalizing l with
 |_ n ih=>
  cases hb:gh l with
  |none=>simp_all [oP,Nat.zero_le]
  |some p=>
   have hl:=nC hb;rw[rO hb]
   grind
theorem iu.row{h:Heap}{y:AV}{xs:List AV}{sp:List Nat}(hg:iu h y xs sp):∃q,y= .sl xs q:=by
 rcases hg with⟨rfl,_⟩|⟨k,rfl,_⟩<;>exact⟨_,rfl⟩
def Touch(S:List Nat)(h h' :Heap):Prop:=∀j k,j∉S→h j=some k→h' j=some k
theorem Touch.refl(S:List Nat)(h:Heap):Touch S h h:=fun _ _ _ e=>e
theorem Touch.trans{S T:List Nat}{a b c:Heap}(x:Touch S a b)(y:Touch T b c):Touch (S++T) a c:=fun j k e hj=>y j k ad5 (x j k ad5 hj)
theorem Touch.of{S:List Nat}{h h' :Heap}(hs:Ab.Sub h h'):Touch S h h' :=fun _ _ _ e=>hs _ _ e
theorem Touch.keep{i:Nat}{h h' :Heap}(hs:Keep i h h'):Touch [i] h h' :=fun j k e hj=>hs j k ad5 hj
theorem Touch.upd{h:Heap}{i:Nat}{k:Option Blk}:Touch [i] h (upd h i k):=Touch.keep (Keep.upd i k)
theorem Touch.mono{S T:List Nat}{h h' :Heap}(ht:Touch S h h')(hs:∀i∈S,i∈T∨h i=none):Touch T h h' :=fun j k e hj=>ht j k ad5 hj
theorem iu.touch{h h' :Heap}{y:AV}{xs:List AV}{sp S:List Nat}(hg:iu h y xs sp)(ht:Touch S h h')(hn:∀i∈sp,i∉S):iu h' y xs sp:=by
 rcases hg with⟨rfl,rfl⟩|⟨k,rfl,k1,rfl⟩
 ·exact .inl ⟨rfl,rfl⟩
 ·exact .inr ⟨k,rfl,ht _ _ (hn k aec) k1,rfl⟩
theorem iu.has{h:Heap}{y:AV}{xs:List AV}{sp:List Nat}(hg:iu h y xs sp):∀i∈sp,∃n,h i=some (.spare n 1):=by
 rcases hg with⟨rfl,rfl⟩|⟨k,rfl,k1,rfl⟩
 ·simp
 grind
theorem iu.app{h:Heap}{y v:AV}{xs zs:List AV}{sp:List Nat}{Q:AV→Heap→Prop}(hg:iu h y xs sp)(hsrc:∀k:List AV→Prop,k zs→iL U 77 h v k)(s1:Sized 1 xs)(s2:Sized 1 zs)
  (hlen:xs.length+zs.length≤1000000000000) (hk:∀y' h' sp',iu h' y' (xs++zs) sp'→Touch sp h h'→(∀i∈sp',i∈sp∨h i=none)→Q y' h'):apK U h y v Q (.slice 77):=by
 rcases hg with⟨rfl,rfl⟩|⟨k,rfl,k1,rfl⟩
 ·refine(qu ..).mpr ⟨ad9,ad9,hsrc _ ⟨by grind [u27],by grind [u27],by grind [Qb],fun hn=>?_,fun hn=> .own fun id hid=>?_⟩⟩
  ·subst hn
   exact hk _ _ [] (.inl ⟨aec,rfl⟩) (.refl _ _) aec
  ·rw[u27]
   exact hk _ _ [id] (.inr ⟨id,rfl,by rw[ah,adY],rfl⟩) (.of ((Ab.Sub.refl h).new hid _)) ad5
 ·refine(BW ..).mpr ⟨ad9,ad9,hsrc _ ⟨by grind [u27],by grind [u27],by grind [Qb],by grind [u27],?_⟩⟩
  rw[u27];exact hk _ _ [k] (.inr ⟨k,rfl,by rw[ah,adY],rfl⟩) .upd aec
def JAt(h:Heap)(t jid did:Nat)(ps:List (List UInt8))(down:Bool)(sp:List Nat):Prop:=
 ∃y xs,h jid=some (.obj [.ptr did 0,y,.b down] t)∧iu h y xs sp∧∀g,Ab.Rows 5 g xs ps
theorem JAt.touch{h h' :Heap}{t jid did:Nat}{ps:List (List UInt8)}{down:Bool}{sp S:List Nat}(hj:JAt h t jid did ps down sp)(ht:Touch S h h')(h1:jid∉S)(hn:∀i∈sp,i∉S):JAt h' t jid did ps down sp:=by
 obtain⟨y,xs,a,b,c⟩:=hj;exact⟨y,xs,ht _ _ h1 a,b.touch ht hn,c⟩
theorem JAt.sub{h h' :Heap}{t jid did:Nat}{ps:List (List UInt8)}{down:Bool}{sp:List Nat}(hj:JAt h t jid did ps down sp)(ht:Ab.Sub h h'):JAt h' t jid did ps down sp:=
 hj.touch (S:=[]) (.of ht) aec aec
theorem Ko{h:Heap}{xs:List AV}{ps:List (List UInt8)}{x:AV}{p:List UInt8}(hr:Ab.Rows 5 h xs ps)(hx:By h x p):Ab.Rows 5 h (xs++ [x]) (ps++ [p]):=⟨by simp[hr.1],fun i h1 h2=>by
 have hl:=hr.1
 by_cases hi:i<xs.length
 ·rw[List.getElem_append_left hi,List.getElem_append_left ad4]
  exact hr.2 i hi ad4
 ·have e:i=xs.length:=by grind
  subst e;simpa[hl]using hx⟩
theorem xp(jid did:Nat)(ps:List (List UInt8))(down:Bool)(sp:List Nat)(h:Heap)(hj:JAt h 157 jid did ps down sp):ai Tryz.prog 72 [.ptr jid 0] h fun r h' =>r= .b down∧h' =h:=by
 obtain⟨y,xs,a,_,_⟩:=hj;refine ad3 Tryz.func72 7 [.tmp 2] fun hwf=>?_
 simp only[go_sem,a];exact aee
theorem GC(jid did:Nat)(ps:List (List UInt8))(down:Bool)(sp:List Nat)(h:Heap)(hj:JAt h 157 jid did ps down sp)(hl:ps.length≤1000000)(hp:∀p∈ps,p.length≤1000000):
  ai Tryz.prog 34 [.ptr jid 0] h fun r h' =>∃q,r= .sl (ps.map nc) q∧Ab.Sub h h' :=by
 obtain⟨y,xs,a,b,c⟩:=hj;refine ad3 Tryz.func34 22 [.tmp 2] fun hwf=>?_
 obtain⟨qy,rfl⟩:=b.row;have hlen:=(c h).1;simp only[go_sem,a];refine .intro (fun m ρ g=>∃(i:Nat) (z:AV),Acc U 77 h g z ((ps.take i).map nc)∧i≤ps.length∧m=ps.length - i∧lk ρ 3=some z∧lk ρ 9=some (.sl xs qy)∧lk ρ 10=some (.i xs.length)∧lk ρ 11=some (.i i)) (ps.length - 0) ?_ ?_
 ·refine⟨0,_,.full (.refl h),ad4,rfl,?_,?_,?_,?_⟩<;>simp only[go_sem]
 ·rintro m ρ g ⟨i,z,ha,hi,rfl,r3,r9,r10,r11⟩
  by_cases hc:i<ps.length
  ·have d1:decide ((i:Int)<(xs.length:Int))=true:=decide_eq_true ad4
   have w1:IntKind.i64.wrap ((i:Int)+1)=((i+1:Nat):Int):=aej;have hx:=(c g).2 i ad4 hc;simp only[go_sem,r3,r9,r10,r11,d1];refine .at i ad4 (by rw[hx.cells];rfl) ?_
   simp only[go_sem,r3,r9,r10,r11,hx.cells,hx.MM,and_self];refine(qD xs[i] ps[i] g hx ad5).pthen' ?_;simp only[go_sem,r3,r9,r10,r11];refine ha.app (v:=.sl [nc ps[i]] .full) (zs:=[nc ps[i]]) ad9 ad9 (fun k hk=>hk) (by grind [u27,zx]) (by grind [u27,Sized,nc,AV.cells]) (by grind [Qb]) fun z' g2 ha' hk' =>?_
   simp only[go_sem,r3,r9,r10,r11,w1];refine⟨_,?_,i+1,z',?_,ad4,rfl,?_,?_,?_,?_⟩
   ·omega
   ·grind [List.take_succ_eq_append_getElem]
   all_goals simp only[go_sem,r3,r9,r10,r11,w1]
  ·obtain rfl:i=ps.length:=by omega
   have d1:decide ((ps.length:Int)<(xs.length:Int))=false:=decide_eq_false ad4;simp only[go_sem,r3,r9,r10,r11,d1];rw[List.take_length]at ha;obtain⟨q,rfl⟩:=ha.row;exact .same (.refl _) ⟨q,rfl,ha.1⟩
def D.bV(d:D):D×Nat:=
 let c:=if(scan d.b).2<d.b.length then d.cut ((scan d.b).2:Nat)else(d,0)
 if c.2=0 then c.1.sync else c
theorem D.MW{d:D}(hd:d.ok):d.bV.1.ok:=by
 grind [scan,Nat,ok,D.B3,D.bV,sync,D.xF]
theorem Mo(d:D)(hd:d.ok)(id:Nat)(h:Heap)(hdk:bQ h id d):
  ai Tryz.prog 33 [.ptr id 0] h fun r h' =>∃J,r= .tup [J,.i (d.bV.2:Nat)]∧bQ h' id d.bV.1∧Keep id h h'∧
   if d.bV.2=0 then∃jid sp,J= .ptr jid 0∧h jid=none∧JAt h' 157 jid id (scan d.b).1 false sp∧∀i∈sp,h i=none∧i≠jid else J= .v (.pointer none):=by
 refine ai.of_wp hU Tryz.func33 rfl aek 35 rfl [.tmp 2,.tmp 3] rfl (adT rfl) ?_;refine .one hU hm ?_;simp only[go_sem]
 show WP _ _ _ _ _ _
 refine .one hU hm ?_;simp only[go_sem]
 show WP _ _ _ _ _ _
 have hlen:d.b.length≤2000000:=by have:=hd.1;have:=hd.2.1;omega
 obtain⟨at_,hat⟩:∃n,(scan d.b).2=n:=⟨_,rfl⟩;have hatl:=IB d.b;rw[hat]at hatl;refine .cut (fun ρ g=>∃z sp,iu g z ((scan d.b).1.map nc) sp∧Ab.Sub h g∧(∀i∈sp,h i=none)∧lk ρ 0=some (.ptr id 0)∧lk ρ 4=some z∧lk ρ 5=some (.i at_)) (.vc hU hm ?_) ?_
 ·simp only[go_sem]
  refine(Nk d hd id h hdk).pthen ?_;simp only[go_sem];refine(PR _ d.b h (.sl _ _) hlen).mono fun r g ⟨z,sp,e1,hg,hs,hsp⟩=>?_
  subst e1;rw[hat];simp only[go_sem];refine⟨z,sp,hg,hs,hsp,?_,?_,?_⟩<;>simp only[go_sem]
 rintro ρ g ⟨z,sp,hg,hs,hsp,r0,r4,r5⟩
 have hdk1:=hdk.keep hs.gm;have hob:∀i∈sp,i≠id:=fun i hi e=>by
  obtain⟨y,hy,_⟩:=hdk
  grind
 refine .cut (fun ρ g=>∃d1,d.bV=d1.sync∧d1.ok∧bQ g id d1∧iu g z ((scan d.b).1.map nc) sp∧Keep id h g∧lk ρ 0=some (.ptr id 0)∧lk ρ 4=some z) (.vc hU hm ?_) ?_
 ·simp only[go_sem,r0,r4,r5]
  refine(Pe d id g hdk1).pthen ?_;simp only[go_sem,r0,r4,r5];refine .intro (fun e=>?_) (fun e=>?_)
  ·have e:=adW e
   have e' :at_<d.b.length:=ad4;simp only[go_sem,r0,r4,r5];refine dthen (B3 d hd id g at_ hdk1) fun g1 hd1 kp=>?_
   have hO:d.bV=if(d.cut (at_:Nat)).2=0 then(d.cut (at_:Nat)).1.sync else d.cut (at_:Nat):=by
    simp_all [D.bV,if_pos]
   have ok1:=D.B3 hd at_;generalize d.cut (at_:Nat)=D0 at hO hd1 ok1⊢;obtain⟨D1,c1⟩:=D0;simp only at hO hd1 ok1⊢;simp only[go_sem,r0,r4,r5]
   by_cases hc:c1=0
   ·subst hc
    rw[if_pos rfl]at hO;simp only[go_sem,r0,r4,r5];refine⟨D1,hO,ok1,hd1,hg.touch (Touch.keep kp) ad5,(hs.keep id).trans kp,?_,?_⟩<;>simp only[go_sem,r0,r4]
   ·rw[if_neg hc]at hO
    have t1:(((c1:Nat):Int) !=0)=true:=ad5;simp only[go_sem,r0,r4,r5,t1];refine .same (.refl _) ⟨_,by rw[hO];rfl,ad5,(hs.keep id).trans kp,?_⟩
    grind
  ·have e:=adX e
   have e' :¬at_<d.b.length:=ad4;have hO:d.bV=d.sync:=by
    simp_all [D.bV,if_neg]
   simp only[go_sem,r0,r4,r5];refine⟨d,hO,hd,hdk1,hg,hs.keep id,?_,?_⟩<;>simp only[go_sem,r0,r4]
 rintro ρ g1 ⟨d1,hO,ok1,hd1,hg1,kp1,r0,r4⟩
 refine .vc hU hm ?_;simp only[go_sem,r0,r4];refine dthen (xF d1 ok1 id g1 hd1) fun g2 hd2 kp2=>?_
 rw[hO];generalize d1.sync=D0 at hd2⊢;obtain⟨D2,c2⟩:=D0;simp only at hd2⊢;have kp:=kp1.trans kp2;have hg2:=hg1.touch (Touch.keep kp2) ad5;simp only[go_sem,r0,r4]
 by_cases hc:c2=0
 ·subst hc
  obtain⟨qz,rfl⟩:=hg2.row;simp only[go_sem,r0,r4];intro jid hjid;simp only[go_sem,r0,r4];have hne:jid≠id:=fun e=>by
   obtain⟨y,hy,_⟩:=hd2
   grind
  have hjh:h jid=none:=by
   cases hh:h jid with
   |none=>rfl
   |some k=>rw[kp _ _ hne hh]at hjid;omega
  have hsj:∀i∈sp,i≠jid:=fun i hi e=>by
   obtain⟨n,hn⟩:=hg2.has i hi
   grind
  refine .same (.refl _) ⟨_,rfl,hd2.keep (.new hjid),fun j k e hj=>?_,jid,sp,rfl,hjh,⟨_,_,ah ..,hg2.touch .upd ad5,fun g=>IA _ g⟩,fun i hi=>⟨hsp i hi,hsj i hi⟩⟩
  have h2:=kp j k e hj;rw[ag _ _ ad5];exact aif
 ·have t1:(((c2:Nat):Int) !=0)=true:=by grind
  simp only[go_sem,r0,r4,t1];exact .same (.refl _) ⟨_,rfl,hd2,kp,ad5⟩
def jadd(d:D)(ps:List (List UInt8))(down:Bool)(p:List UInt8):(D×List (List UInt8)×Bool)×Nat:=
 if down=true then((d,ps,true),9)else if p.length=0∨8192<p.length then((d,ps,false),1)else
  if(d.append (frame p)).2=8 then(((d.append (frame p)).1,ps,false),8)else
   if(if(d.append (frame p)).2=0 then(d.append (frame p)).1.sync else d.append (frame p)).2=0 then
    (((if(d.append (frame p)).2=0 then(d.append (frame p)).1.sync else d.append (frame p)).1,ps++ [p],false),0)
   else(((if(d.append (frame p)).2=0 then(d.append (frame p)).1.sync else d.append (frame p)).1,ps,true),9)
theorem D.CV(d:D)(b:List UInt8):(d.append b).2=0∨(d.append b).2=8∨(d.append b).2=9:=by
 grind [D.append]
theorem D.KG(d:D):d.sync.2=0∨d.sync.2=9:=by
 grind [D.sync]
theorem HX(d:D)(hd:d.ok)(id jid:Nat)(ps:List (List UInt8))(down:Bool)(sp:List Nat)(h:Heap)(x:AV)(p:List UInt8)(hdk:bQ h id d)(hj:JAt h 157 jid id ps down sp)(hx:By h x p)(hp:p.length≤1000000)(hps:ps.length≤1000000):
  ai Tryz.prog 74 [.ptr jid 0,x] h fun r h' =>r= .i ((jadd d ps down p).2:Nat)∧∃sp',bQ h' id (jadd d ps down p).1.1∧JAt h' 157 jid id (jadd d ps down p).1.2.1 (jadd d ps down p).1.2.2 sp'∧
   Touch (id::jid::sp) h h'∧∀i∈sp',i∈sp∨h i=none:=by
 obtain⟨y,xs,hjid,hg,hrs⟩:=hj;have hne:jid≠id:=fun e=>by
  obtain⟨z,hz,_⟩:=hdk;rw[←e,hjid]at hz;simp only[Option.some.injEq,Blk.obj.injEq]at hz;exact absurd hz.2 ad9
 refine ai.of_wp hU Tryz.func74 rfl ad7 51 rfl [.tmp 4] rfl (adT rfl) ?_;refine .one hU hm ?_;simp only[go_sem]
 show WP _ _ _ _ _ _
 refine .one hU hm ?_;cases down with
 |true=>
  have hJ:jadd d ps true p=((d,ps,true),9):=by simp[jadd]
  simp only[go_sem,hjid];refine .same (.refl _) ?_;rw[hJ];exact⟨rfl,sp,hdk,⟨y,xs,hjid,hg,hrs⟩,.refl _ _,fun i hi=> .inl hi⟩
 |false=>
  simp only[go_sem,hjid]
  show WP _ _ _ _ _ _
  refine .one hU hm ?_;have bad:(p.length=0∨8192<p.length)→nv [.i 1] h fun r h' =>r= .i ((jadd d ps false p).2:Nat)∧∃sp',bQ h' id (jadd d ps false p).1.1∧JAt h' 157 jid id (jadd d ps false p).1.2.1 (jadd d ps false p).1.2.2 sp'∧
    Touch (id::jid::sp) h h'∧∀i∈sp',i∈sp∨h i=none:=fun hb=>by
   have hJ:jadd d ps false p=((d,ps,false),1):=by unfold jadd;rw[if_neg aec,if_pos hb]
   refine .same (.refl _) ?_;rw[hJ];exact⟨rfl,sp,hdk,⟨y,xs,hjid,hg,hrs⟩,.refl _ _,fun i hi=> .inl hi⟩
  by_cases h0:p.length=0
  ·have t0:(((p.length:Nat):Int)==0)=true:=by simp[h0]
   simp only[go_sem,hx.len,t0];exact bad (.inl h0)
  ·have t0:(((p.length:Nat):Int)==0)=false:=beq_eq_false_iff_ne.mpr ad4
   by_cases h1:8192<p.length
   ·have t1:decide ((8192:Int)<(p.length:Int))=true:=decide_eq_true ad4
    simp only[go_sem,hx.len,t0,t1];exact bad (.inr h1)
   ·have t1:decide ((8192:Int)<(p.length:Int))=false:=decide_eq_false ad4
    have hJ:jadd d ps false p=if(d.append (frame p)).2=8 then(((d.append (frame p)).1,ps,false),8)else
      if(if(d.append (frame p)).2=0 then(d.append (frame p)).1.sync else d.append (frame p)).2=0 then
       (((if(d.append (frame p)).2=0 then(d.append (frame p)).1.sync else d.append (frame p)).1,ps++ [p],false),0)
      else(((if(d.append (frame p)).2=0 then(d.append (frame p)).1.sync else d.append (frame p)).1,ps,true),9):=by
     have hno:¬(p.length=0∨8192<p.length):=ad4;unfold jadd;rw[if_neg aec,if_neg hno]
    have hcode:=D.CV d (frame p);simp only[go_sem,hx.len,t0,t1]
    show WP _ _ _ _ _ _
    refine .one hU hm ?_;simp only[go_sem];refine .calls (hm1 jid _) [0,1,2,3,4,5,6,7] (.hm1 hjid) ad7 rfl ?_;simp only[go_sem,hjid];refine(L7 x p h hx hp).sthen fun g1 hs1=>?_
    refine⟨.hm1 (hs1 _ _ hjid),?_⟩;simp only[go_sem];refine dthen (uL d hd id g1 _ (frame p) (hdk.keep hs1.gm) (.sl _ _) (by rw[fP];omega)) fun g2 hd2 kp=>?_
    have hj2:g2 jid=some (.obj [.ptr id 0,y,.b false] 157):=kp _ _ hne (hs1 _ _ hjid);refine⟨.hm1 hj2,?_⟩;have ok2:=D.uL hd (frame p);have hkp:Keep id h g2:=(hs1.keep id).trans kp;have hgid:∀i∈sp,i≠id:=fun i hi e=>by
     obtain⟨n,hn⟩:=hg.has i hi;obtain⟨z,hz,_⟩:=hdk;rw[e,hz]at hn;cases hn
    have hg2:iu g2 y xs sp:=hg.touch (Touch.keep hkp) (fun i hi=>by simp[hgid i hi])
    have hx2:By g2 x p:=by
     obtain⟨z,hz,_⟩:=hdk;exact(hx.keep hkp hz ad9)
    have hT2:Touch (id::jid::sp) h g2:=(Touch.keep hkp).mono (fun i hi=> .inl (by simp at hi;simp[hi]))
    generalize d.append (frame p)=A at hJ hcode hd2 ok2⊢;obtain⟨d2,c2⟩:=A;simp only at hJ hcode hd2 ok2⊢;simp only[go_sem]
    show WP _ _ _ _ _ _
    refine .one hU hm ?_;have downed:∀(g:Heap) (e:D) (ρ:Env),bQ g id e→g jid=some (.obj [.ptr id 0,y,.b false] 157)→iu g y xs sp→Touch (id::jid::sp) h g→jadd d ps false p=((e,ps,true),9)→
      (nv [.i 9] (upd g jid (some (.obj [.ptr id 0,y,.b true] 157))) fun r h' =>r= .i ((jadd d ps false p).2:Nat)∧∃sp',bQ h' id (jadd d ps false p).1.1∧JAt h' 157 jid id (jadd d ps false p).1.2.1 (jadd d ps false p).1.2.2 sp'∧
       Touch (id::jid::sp) h h'∧∀i∈sp',i∈sp∨h i=none):=fun g e ρ a1 a2 a3 a4 hJ=>by
     rw[hJ];have hsj:∀i∈sp,i≠jid:=fun i hi e=>by
      obtain⟨n,hn⟩:=hg.has i hi;rw[e,hjid]at hn;cases hn
     have ht:Touch [jid] g (upd g jid (some (.obj [.ptr id 0,y,.b true] 157))):=.upd;refine .same (.refl _) ⟨rfl,sp,?_,⟨y,xs,ah ..,a3.touch ht (fun i hi=>by simp[hsj i hi]),hrs⟩,(a4.trans ht).mono (fun i hi=> .inl (by simp at hi⊢;rcases hi with h|h|h|h<;>simp[h])),fun i hi=> .inl hi⟩
     obtain⟨z,z1,z2⟩:=a1;exact⟨z,ht _ _ (by simp;exact fun e=>hne e.symm) z1,z2.keep (Keep.upd jid _) a2 ad9⟩
    have hc0:=hcode;rcases hcode with rfl|rfl|rfl
    ·
     simp only[go_sem];refine .one hU hm ?_;simp only[go_sem,hj2];refine dthen (xF d2 ok2 id g2 hd2) fun g3 hd3 kp3=>?_
     have hj3:g3 jid=some (.obj [.ptr id 0,y,.b false] 157):=kp3 _ _ hne hj2;have hg3:iu g3 y xs sp:=hg2.touch (Touch.keep kp3) (fun i hi=>by simp[hgid i hi])
     have hx3:By g3 x p:=by
      obtain⟨z,hz,_⟩:=hd2;exact(hx2.keep kp3 hz ad9)
     have hT3:Touch (id::jid::sp) h g3:=(hT2.trans (Touch.keep kp3)).mono (fun i hi=> .inl (by simp at hi⊢;rcases hi with h|h|h|h<;>simp[h]))
     have hcs:=D.KG d2;rw[if_neg ad9,if_pos rfl]at hJ;generalize d2.sync=A at hJ hcs hd3⊢;obtain⟨d3,c3⟩:=A;simp only at hJ hcs hd3⊢;rcases hcs with rfl|rfl
     ·simp only[go_sem]
      refine .one hU hm ?_;simp only[go_sem];refine .one hU hm ?_;simp only[go_sem];refine .last (hm1 jid _) [0,1,2,3,4,5,6,7,8,9,10] (.hm1 hj3) ad7 rfl ad7 rfl ?_;simp only[go_sem,hj3];refine(qD x p g3 hx3 ad4).pthen' ?_;obtain⟨qy,rfl⟩:=hg3.row;refine⟨.hm1 hj3,?_⟩;simp only[go_sem,hj3];refine hg3.app (v:=.sl [nc p] .full) (zs:=[nc p]) (fun k hk=>hk) (hrs h).sized (by simp[Sized,nc,AV.cells]) (by have:=(hrs h).1;simp;omega) fun z g4 sp' hg4 ht4 hsp' =>?_
      have hsj:∀i∈sp,i≠jid:=fun i hi e=>by
       obtain⟨n,hn⟩:=hg.has i hi;rw[e,hjid]at hn;cases hn
      have hj4:g4 jid=some (.obj [.ptr id 0,.sl xs qy,.b false] 157):=ht4 _ _ (fun hi=>hsj _ hi rfl) hj3
      refine⟨.hm1 hj4,?_⟩;obtain⟨qz,rfl⟩:=hg4.row;simp only[go_sem,hj4];refine .vc hU hm ?_;simp only[go_sem];have ht5:Touch [jid] g4 (upd g4 jid (some (.obj [.ptr id 0,.sl (xs++ [nc p]) qz,.b false] 157))):=.upd;have hsj' :∀i∈sp',i≠jid:=fun i hi e=>by
       obtain⟨n,hn⟩:=hg4.has i hi;rw[e,hj4]at hn;cases hn
      rw[if_pos rfl]at hJ;refine .same (.refl _) ?_;rw[hJ];refine⟨rfl,sp',?_,⟨_,_,ah ..,hg4.touch ht5 (fun i hi=>by simp[hsj' i hi]),fun g=>Ko (hrs g) (.sl _ _)⟩,?_,fun i hi=>?_⟩
      ·obtain⟨z,z1,z2⟩:=hd3
       have hid4:g4 id=some (.obj (d3.cells z) 143):=ht4 _ _ (fun hi=>hgid _ hi rfl) z1
       have z4:By g4 z d3.b:=by
        rcases z2 with z2|⟨i,off,cs,rfl,a1,a2,a3⟩
        ·exact .inl z2
        ·exact .oa (ht4 _ _ (fun hi=>by obtain⟨n,hn⟩:=hg3.has i hi;rw[a1]at hn;cases hn) a1) a2 a3
       exact⟨z,ht5 _ _ (by simp;exact fun e=>hne e.symm) hid4,z4.keep (Keep.upd jid _) hj4 ad9⟩
      ·exact((hT3.trans ht4).trans ht5).mono (fun i hi=> .inl (by simp at hi⊢;grind))
      ·rcases hsp' i hi with h1|h1
       ·exact .inl h1
       ·cases hh:h i with
        |none=>exact .inr rfl
        |some k=>
         by_cases hin:i∈id::jid::sp
         ·simp only[List.mem_cons]at hin
          rcases hin with e|e|e
          ·subst e;rw[hd3.choose_spec.1]at h1;cases h1
          ·subst e;rw[hj3]at h1;cases h1
          ·exact .inl e
         ·rw[hT3 i k hin hh]at h1;cases h1
     ·simp only[go_sem]
      refine .one hU hm ?_;simp only[go_sem,hj3];exact downed g3 d3 [] hd3 hj3 hg3 hT3 hJ
    ·
     simp only[go_sem];refine .same (.refl _) ?_;rw[hJ];exact⟨rfl,sp,hd2,⟨y,xs,hj2,hg2,hrs⟩,hT2,fun i hi=> .inl hi⟩
    ·simp only[go_sem]
     refine .one hU hm ?_;simp only[go_sem,hj2];refine .one hU hm ?_;simp only[go_sem,hj2];exact downed g2 d2 [] hd2 hj2 hg2 hT2 hJ
theorem D.SV{d:D}(hd:d.ok)(h1:d.off=false)(h2:d.f=0):d.bV=({d with b:=d.b.take (scan d.b).2,sy:=(scan d.b).2},0):=by
 have hl:=IB d.b;have Rb:∀e:D,e.off=false→e.f=0→e.sync=({e with sy:=e.b.length},0):=fun e h1 h2=>by
  unfold D.sync;rw[if_neg (by simp[h1]),D.QD h2,if_neg (by simp[h1])]
 unfold D.bV
 by_cases h:(scan d.b).2<d.b.length
 ·rw[if_pos h,D.Yf h1 h2 hl]
  grind
 ·have e:(scan d.b).2=d.b.length:=by omega
  grind
theorem Ku(ps:List (List UInt8))(r:List UInt8)(h:∀p∈ps,1≤p.length∧p.length≤8192)(hr:r.length<8):scan (frames ps++r)=(ps,(frames ps).length):=by
 grind [EE,oP,nV]
theorem VL{d:D}{ps:List (List UInt8)}{p:List UInt8}(h1:d.off=false)(h2:d.f=0)(hp1:1≤p.length)(hp2:p.length≤8192)(hf:d.b.length+(frame p).length≤d.q):
  jadd d ps false p=(({d with b:=d.b++frame p,sy:=(d.b++frame p).length},ps++ [p],false),0):=by
 have hno:¬(p.length=0∨8192<p.length):=ad4;have hs:({d with b:=d.b++frame p}:D).sync=({d with b:=d.b++frame p,sy:=(d.b++frame p).length},0):=D.Rb h1 h2
 unfold jadd;rw[if_neg aec,if_neg hno,D.Ot h1 h2 hf,if_neg ad4,if_pos rfl,hs,if_pos rfl]
theorem Mn{d:D}{ps:List (List UInt8)}{p:List UInt8}(h1:d.off=false)(hp1:1≤p.length)(hp2:p.length≤8192)(hf:d.q<d.b.length+(frame p).length):
  jadd d ps false p=((d,ps,false),8):=by
 have hno:¬(p.length=0∨8192<p.length):=ad4;unfold jadd;rw[if_neg aec,if_neg hno,D.Fh h1 hf,if_pos rfl]
theorem Ny:scan []=([],0):=by grind [oP,nV]
end Go.Proofs.YtbbadggejjgihaaGreatDoor
namespace Go.Bf
open Go Go.Ab Go.Proofs.YtbbadggejjgihaaGreatDoor
def fnv(h:BitVec 64)(n:Nat):BitVec 64:=(h ^^^ BitVec.ofNat 64 n)*1099511628211#64
def OR(g:BitVec 64→Nat→BitVec 64):Nat→BitVec 64→BitVec 64→BitVec 64
 |0,_,h=>h
 |n+1,p,h=>OR g n (p>>>8) (g h (p &&& 255#64).toNat)
def Jv(n:Nat)(p h:BitVec 64):BitVec 64:=OR fnv n p h
theorem Jy(g:BitVec 64→Nat→BitVec 64)(n:Nat)(p h:BitVec 64):OR g (n+1) p h=OR g n (p>>>8) (g h (p &&& 255#64).toNat):=rfl
theorem Jx(p h:BitVec 64):Jv 0 p h=h:=rfl
theorem Jw(n:Nat)(p h:BitVec 64):Jv (n+1) p h=Jv n (p>>>8) (fnv h (p &&& 255#64).toNat):=Jy fnv n p h
def uS(prev:BitVec 64)(l:Txt):BitVec 64:=l.foldl (fun h c=>fnv h c.toNat) (Jv 8 prev 14695981039346656037#64)
def qH:Nat→BitVec 64→Txt
 |0,_=>[]
 |n+1,h=>UInt8.ofNat h.toNat::qH n (h>>>8)
def dY(h:BitVec 64)(o:OpD):Txt:=qH 8 h++iq o
theorem iR:∀(n:Nat) (h:BitVec 64),(qH n h).length=n
 |0,_=>rfl
 |n+1,h=>by simp[qH,iR n]
structure cG where
 s:an
 log:List oU
 ch:BitVec 64
 ps:List Txt
 down:Bool
def iZ(e:cG)(p:Txt):Option OpD:=if p.length<8 then none else match oE (p.drop 8)with
 |some o=>if dY e.ch o=p then some o else none
 |none=>none
def nF(e:cG)(g:an×ja×oU×Int)(p:Txt):cG:={e with s:=g.1,log:=e.log++ [g.2.2.1],ch:=uS e.ch p}
def kr(e:cG)(p:Txt):Option cG:=match iZ e p with
 |some o=>if(aJ e.s o).2.2.2=0 then some (nF e (aJ e.s o) p)else none
 |none=>none
def lE:cG→List Txt→Option cG
 |e,[]=>some e
 |e,p::r=>match kr e p with
  |some e' =>lE e' r
  |none=>none
def jN(ps:List Txt):cG:=⟨xh,[],0,ps,false⟩
def vB(ps:List Txt):Option cG:=lE (jN ps) ps
def Dh(n:Int):ja:=⟨n,naM,false,aq,false,0⟩
def doE(e:cG)(d:D)(o:OpD):cG×D×ja:=
 if e.down then(e,d,Dh 9)else
 let g:=aJ e.s o
 if g.2.2.2≠0 then(e,d,g.2.1)else
 let p:=dY e.ch o
 let a:=jadd d e.ps e.down p
 if a.2=0 then({nF e g p with ps:=a.1.2.1,down:=a.1.2.2},a.1.1,g.2.1)else({e with ps:=a.1.2.1,down:=a.1.2.2},a.1.1,Dh (a.2:Int))
theorem sw:∀(l:List Txt) (e:cG) (p:Txt),lE e (l++ [p])=(lE e l).bind fun e' =>kr e' p
 | [],e,p=>by
  grind [lE,kr]
 |q::l,e,p=>by
  simp only[List.cons_append,lE];cases kr e q with
  |none=>rfl
  |some e' =>exact sw l e' p
theorem P4{e e' :cG}{p:Txt}(h:kr e p=some e')(ps:List Txt):kr {e with ps:=ps} p=some {e' with ps:=ps}:=by
 unfold kr at h⊢;have hr:iZ {e with ps:=ps} p=iZ e p:=rfl
 rw[hr];cases hq:iZ e p with
 |none=>rw[hq]at h;cases h
 |some o=>
  rw[hq]at h;simp only at h⊢;split at h
  ·rename_i hg
   rw[if_pos hg];cases h;rfl
  ·cases h
theorem HL:∀(l:List Txt) {e e' :cG},lE e l=some e'→∀ps,lE {e with ps:=ps} l=some {e' with ps:=ps}
 | [],e,e',h,ps=>by cases h;rfl
 |p::l,e,e',h,ps=>by
  simp only[lE]at h⊢;cases hs:kr e p with
  |none=>grind
  |some e1=>
   rw[hs]at h;rw[P4 hs ps];exact HL l h ps
def CI(e:cG):Prop:=vB e.ps=some {e with down:=false}
theorem Nl{e:cG}{o:OpD}(hf:dD o=true)(h64:ou o):iZ e (dY e.ch o)=some o:=by
 unfold iZ;rw[if_neg (by simp[dY,iR])]
 grind [dY,iq,List.drop_left',iR,OU]
theorem jv{s:an}{o:OpD}(h:(aJ s o).2.2.2=0):dD o=true:=by
 have hp:(jP s o).1=0:=by
  unfold aJ at h
  grind
 exact(uj hp).2.1
theorem Sj{e:cG}{o:OpD}(he:CI e)(hg:(aJ e.s o).2.2.2=0)(h64:ou o):CI {nF e (aJ e.s o) (dY e.ch o)with ps:=e.ps++ [dY e.ch o],down:=false}:=by
 unfold CI vB at he⊢;have h1:=HL _ he (e.ps++ [dY e.ch o]);rw[sw,show jN (e.ps++ [dY e.ch o])= {jN e.ps with ps:=e.ps++ [dY e.ch o]} from rfl,h1]
 simp only[Option.bind_some];unfold kr;have hr:iZ {({e with down:=false}:cG)with ps:=e.ps++ [dY e.ch o]} (dY e.ch o)=some o:=by
  have:=Nl (e:={({e with down:=false}:cG)with ps:=e.ps++ [dY e.ch o]}) (jv hg) h64
  exact aeN
 rw[hr];simp only;generalize dY e.ch o=p;rw[if_pos hg];rfl
theorem IM:∀(f v:Nat),(oR f v).length≤f
 |0,_=>by simp[oR]
 |f+1,v=>by
  unfold oR;split
  ·simp
  ·simp only[List.length_cons]
   have:=IM f (v / 128);omega
theorem iU(n:Int):(iT n).length≤10:=IM 10 _
theorem Pu(n:Int):1≤(iT n).length:=List.length_pos_iff.2 (IL 10 _ ad9)
theorem dj(s:Txt):(dF s).length≤10+s.length:=by
 grind [dF,adY,iU]
theorem xI{v:bu}(h:v=aq∨bz v=true):(oo v).length≤84:=by
 have hs:v.kind=3∨v.kind=5→v.s.length≤64:=fun e=>by
  rcases h with rfl|h
  ·decide
  simp_all [vG]
 unfold oo;rw[adY];have h1:=iU v.kind;split
 ·rename_i e
  have:=dj v.s;omega
 ·have:=iU v.n
  omega
theorem Cs{o:OpD}(hf:OpF o):1≤(iq o).length∧(iq o).length≤5000:=by
 unfold iq;simp only[adY];have h1:=iU o.kind;have h0:=Pu o.kind;have h2:=dj o.subj;have h3:=dj o.case;have h4:=dj o.field;have h5:=dj o.to;have h6:=xI hf.val;have h7:=iU o.review;have h8:=dj o.text;have h9:=dj o.reason;have h10:=xI (v:=dL o.glass) (.inr (zK _));have:=hf.subj;have:=hf.case;have:=hf.field;have:=hf.to;have:=hf.text;have:=hf.reason;omega
theorem ur{h:BitVec 64}{o:OpD}(hf:OpF o):9≤(dY h o).length∧(dY h o).length≤5008:=by
 grind [Cs,dY,adY,iR]
def yM(a b:bu):Int:=if bz a=false∨bz b=false then 1 else 2
def lI(a b:bu):AV:=match nJ a b with
 |some x=> .tup [.b x,.i 0]
 |none=> .tup [.b false,.i (yM a b)]
theorem A2{a b:bu}(h:bz a=false∨bz b=false):lI a b= .tup [.b false,.i 1]:=by
 unfold lI nJ;rw[if_pos ad5]
 simp_all [yM,if_pos]
theorem yL{a b:bu}(h1:bz a=true)(h2:bz b=true)(h:a.kind≠b.kind∨a.kind=1):lI a b= .tup [.b false,.i 2]:=by
 simp_all [lI,nJ,if_pos,yM]
theorem Pj{a b:bu}(h1:bz a=true)(h2:bz b=true)(h:a.kind=b.kind)(h0:a.kind≠1)(ht:a.kind=3∨a.kind=5):lI a b= .tup [.b (Op.bytesLess a.s b.s),.i 0]:=by
 simp_all [lI,nJ,if_neg,if_pos]
theorem Ph{a b:bu}(h1:bz a=true)(h2:bz b=true)(h:a.kind=b.kind)(h0:a.kind≠1)(ht:¬(a.kind=3∨a.kind=5)):lI a b= .tup [.b (decide (a.n<b.n)),.i 0]:=by
 simp_all [lI,nJ,if_neg]
end Go.Bf
namespace Go.Proofs.YtbbadggejjgihaaGreatDoor
open Go Go.Ab Go.Bf
theorem zI(k:Int)(h:Heap):ai Tryz.prog 185 [.i k] h fun r h' =>r= .b (k==3||k==5)∧h' =h:=by
 refine ad3 Tryz.func185 9 [.tmp 2] fun hwf=>?_
 cases d1:(k==3)<;>cases d2:(k==5)
 all_goals
  simp only[go_sem,d1,d2];exact aee
theorem Cl(a b:bu)(h:Heap):ai Tryz.prog 283 [aS a,aS b] h fun r h' =>r=lI a b∧h' =h:=by
 have ha:=fun(G:Heap)=>fS a G
 have hb:=fun(G:Heap)=>fS b G
 simp only[aS]at ha hb;refine ad3 Tryz.func283 40 [.tmp 4,.tmp 5] fun hwf=>?_
 simp only[go_sem,aS];intro i1 h1;simp only[go_sem];intro i2 h2;have n21:=aH h2;have n2:=aC h2;have hs:∀x y,Ab.Sub h (upd (upd h i1 x) i2 y):=fun x y=>((Sub.refl h).put h1 x).put n2 y
 simp only[go_sem,ak,n21.symm];refine(ha _).pthen ?_;cases da:bz a
 ·simp only[go_sem]
  exact .mk _ (.refl _) (hs _ _) ⟨by rw[A2 (.inl da)];rfl,rfl⟩
 simp only[go_sem];refine(hb _).pthen ?_;cases db:bz b
 ·simp only[go_sem]
  exact .mk _ (.refl _) (hs _ _) ⟨by rw[A2 (.inr db)];rfl,rfl⟩
 cases dk:(a.kind !=b.kind)
 case true=>
  simp only[go_sem,ak,n21.symm,dk];exact .mk _ (.refl _) (hs _ _) ⟨by rw[yL da db (.inl ad5)];rfl,rfl⟩
 have ek:a.kind=b.kind:=ad5;cases d1:(a.kind==1)
 case true=>
  simp only[go_sem,ak,n21.symm,dk,d1];exact .mk _ (.refl _) (hs _ _) ⟨by rw[yL da db (.inr ad5)];rfl,rfl⟩
 have e1:a.kind≠1:=ad5;simp only[go_sem,ak,n21.symm,dk,d1];refine(zI _ _).pthen ?_;cases dt:(a.kind==3||a.kind==5)
 ·simp only[go_sem,ak,n21.symm]
  exact .mk _ (.refl _) (hs _ _) ⟨by rw[Ph da db ek e1 ad5];rfl,rfl⟩
 ·simp only[go_sem,ak,n21.symm]
  exact .mk _ (.refl _) (hs _ _) ⟨by rw[Pj da db ek e1 ad5];rfl,rfl⟩
def JA(bag:List bu)(must:Bool):AV:=if bag= []∧must=true then .tup [.sl [] .no,.i 4]else .tup [.sl (bag.map aS) .no,.i 0]
theorem HO(gs:List bt)(cat:Int)(name:Txt)(must:Bool)(hl:gs.length≤1000000000)(hb:∀g∈gs,g.bag.length≤1000000)(h:Heap):ai Tryz.prog 251 [bL gs,.agg [.i cat,.s name,.b must]] h fun r h' =>r=JA (getD gs cat name) must∧h' =h:=by
 have hpl:=fun G=>M7 gs cat name hl G
 simp only[bL]at hpl;have frz:∀(x:AV) (e:Int),Weak x (.sl [] .no)→Weak (.tup [x,.i e]) (.tup [.sl [] .no,.i e]):=fun x e hx=> .tup _ _ rfl fun i a b=>by
  rcases i with _|_|i
  ·grind
  ·exact afq
  grind
 refine ad3 Tryz.func251 30 [.tmp 4,.tmp 5] fun hwf=>?_
 simp only[go_sem,bL];intro i1 h1;simp only[go_sem];refine(hpl _).pthen ?_
 by_cases hx:gs.findIdx (iW cat name)<gs.length
 ·have e1:ixD (iW cat name) gs=(gs.findIdx (iW cat name):Nat):=by simp_all [ixD,if_pos]
  have d1:decide ((0:Int)≤((gs.findIdx (iW cat name):Nat):Int))=true:=decide_eq_true ad4;rw[e1];simp only[go_sem,d1];refine .at (gs.findIdx (iW cat name)) ad5 aef ?_;simp only[go_sem,adV,lF];rw[if_neg (fun hh=>hh.1)]
  have hlb:=hb _ (adZ hx);rw[get_at hx];obtain⟨B,eB⟩:∃B,gs[gs.findIdx (iW cat name)].bag=B:=⟨_,rfl⟩;rw[eB]at hlb⊢;refine(C6 _ (B.map aS) _ (eC aS 3 (fun _=>rfl) _ _) ad5 (bn (fun _=>rfl) _)).pthen ?_
  cases d2:((B.length:Int)==0)
  ·have e2:B≠ []:=by grind
   simp only[go_sem,d2,adU];exact .mk _ (.refl _) (.aj h1) ⟨by rw[JA,if_neg (fun hh=>e2 hh.1)];rfl,rfl⟩
  ·have e3:(B.length:Int)=0:=by grind
   have e2:B= []:=List.length_eq_zero_iff.1 ad4;subst e2;cases must
   ·simp only[go_sem,List.map_nil,List.length_nil]
    exact aen
   ·simp only[go_sem,List.map_nil,List.length_nil]
    exact afW
 ·have e1:ixD (iW cat name) gs= -1:=by simp_all [ixD,if_neg]
  have d1:decide ((0:Int)≤ -1)=false:=rfl;rw[e1,So hx];cases must
  ·simp only[go_sem,d1]
   exact .mk (.tup [.sl [] .no,.i 0]) (frz _ _ (.sl _ _)) (.aj h1) ⟨rfl,rfl⟩
  ·simp only[go_sem,d1]
   exact afW
def mN(m:bO)(v:bu):AV:=
 if m.op=1 then(if v.kind=m.val.kind then .tup [.b (eqV v m.val),.i 0]else .tup [.b false,.i 2])
 else if m.op=2 then lI v m.val else lI m.val v
theorem Fg(m:bO)(v:bu)(h:Heap):ai Tryz.prog 252 [cK m,aS v] h fun r h' =>r=mN m v∧h' =h:=by
 have hl1:=fun G=>Cl v m.val G
 have hl2:=fun G=>Cl m.val v G
 simp only[aS]at hl1 hl2;refine ad3 Tryz.func252 42 [.tmp 4,.tmp 5] fun hwf=>?_
 simp only[go_sem,cK,aS];intro i1 h1;simp only[go_sem];intro i2 h2;have n21:=aH h2;have n2:=aC h2;have hs:∀x y,Ab.Sub h (upd (upd h i1 x) i2 y):=fun x y=>((Sub.refl h).put h1 x).put n2 y
 cases d1:(m.op==1)
 case true=>
  have e1:m.op=1:=ad5;cases dk:(v.kind !=m.val.kind)
  ·have dk' :v.kind=m.val.kind:=by grind
   simp only[go_sem,ak,n21.symm,d1,dk];exact .mk _ (.refl _) (hs _ _) ⟨by rw[mN,if_pos e1,if_pos dk'];rfl,rfl⟩
  ·simp only[go_sem,ak,n21.symm,d1,dk]
   exact .mk _ (.refl _) (hs _ _) ⟨by rw[mN,if_pos e1,if_neg ad5];rfl,rfl⟩
 have e1:m.op≠1:=ad5;have aft:∀a b:bu,∃x e,lI a b= .tup [.b x,.i e]:=fun a b=>by
  unfold lI;split
  ·simp
  simp
 cases d2:(m.op==2)
 case true=>
  have e2:m.op=2:=ad5;obtain⟨x,e,ee⟩:=aft v m.val;rw[ee]at hl1;simp only[go_sem,ak,n21.symm,d1,d2];refine(hl1 _).pthen ?_;simp only[go_sem];exact .mk _ (.refl _) (hs _ _) ⟨by rw[mN,if_neg e1,if_pos e2,ee];rfl,rfl⟩
 ·have e2:m.op≠2:=by grind
  obtain⟨x,e,ee⟩:=aft m.val v;rw[ee]at hl2;simp only[go_sem,ak,n21.symm,d1,d2];refine(hl2 _).pthen ?_;simp only[go_sem];exact .mk _ (.refl _) (hs _ _) ⟨by rw[mN,if_neg e1,if_neg e2,ee];rfl,rfl⟩
theorem BM(m:bO)(v:bu):∃e:Int,(e !=0)=(cW m v==none)∧mN m v= .tup [.b (cW m v==some true),.i e]:=by
 have hl:∀a b:bu,∃e:Int,(e !=0)=(nJ a b==none)∧lI a b= .tup [.b (nJ a b==some true),.i e]:=fun a b=>by
  unfold lI;cases hx:nJ a b with
  |some x=>simp
  |none=>refine⟨yM a b,?_,rfl⟩;grind [yM]
 unfold mN cW
 by_cases e1:m.op=1
 ·rw[if_pos e1,if_pos e1]
  by_cases ek:v.kind=m.val.kind
  ·rw[if_pos ek,if_pos ek]
   exact⟨0,rfl,aec⟩
  ·rw[if_neg ek,if_neg ek]
   exact⟨2,rfl,rfl⟩
 ·rw[if_neg e1,if_neg e1]
  by_cases e2:m.op=2
  ·rw[if_pos e2,if_pos e2];exact hl _ _
  ·rw[if_neg e2,if_neg e2];exact hl _ _
theorem JB(bag:List bu)(must:Bool):∃e:Int,(e !=0)=decide (bag= []∧must=true)∧JA bag must= .tup [.sl (bag.map aS) .no,.i e]:=by
 unfold JA;split
 ·simp_all
 grind
def rT(gs:List bt):Prop:=gs.length≤1000000∧∀g∈gs,g.bag.length≤1000000
theorem rT.bag{gs:List bt}(h:rT gs)(a:qs):(xV gs a).length≤1000000:=by
 unfold xV getD;split
 ·rename_i g hg;exact h.2 g ad5
 ·simp
theorem A6(m:bO)(gs:List bt)(hf:rT gs)(h:Heap):ai Tryz.prog 211 [cK m,bL gs] h fun r h' =>r= .i (j4 gs m:Nat)∧h' =h:=by
 have hg:=fun G=>HO gs m.attr.cat m.attr.name m.attr.must (by have:=hf.1;omega) hf.2 G
 have hbl:=hf.bag m.attr;obtain⟨B,eB⟩:∃B,xV gs m.attr=B:=⟨_,rfl⟩;have eg:Go.Bf.getD gs m.attr.cat m.attr.name=B:=eB;rw[eB]at hbl;rw[eg]at hg;have hmm:j4 gs m=if B= []∧m.attr.must=true then 1 else if B.any (fun v=>cW m v==some true)then 2 else if B.any (fun v=>cW m v==none)then 1 else 0:=by
  unfold j4;rw[eB]
 obtain⟨eg,hge,hga⟩:=JB B m.attr.must;rw[hga]at hg;have hag:=fun(v:bu) (G:Heap)=>Fg m v G
 simp only[cK,bL,aS]at hag hg;refine ad3 Tryz.func211 38 [.tmp 4] fun hwf=>?_
 simp only[go_sem,cK,bL];intro i1 h1;simp only[go_sem];refine(hg _).pthen ?_;cases d0:decide (B= []∧m.attr.must=true)
 case true=>
  rw[d0]at hge;simp only[go_sem,hge];exact .mk _ (.refl _) (.aj h1) ⟨by rw[hmm,if_pos (adW d0)];rfl,rfl⟩
 rw[d0]at hge;rw[if_neg (adX d0)]at hmm;simp only[go_sem,hge,adU];obtain⟨H,eH⟩:∃H,upd h i1 (some (.obj [.i m.attr.cat,.s m.attr.name,.b m.attr.must,.i m.op,.i m.val.kind,.i m.val.n,.s m.val.s] 233))=H:=⟨_,rfl⟩;have hH:Ab.Sub h H:=by rw[←eH];exact .aj h1
 have k1:H i1=some (.obj [.i m.attr.cat,.s m.attr.name,.b m.attr.must,.i m.op,.i m.val.kind,.i m.val.n,.s m.val.s] 233):=afz;rw[eH];clear eH;refine .intro (fun q ρ G=>Ab.Sub H G∧∃i:Nat,i≤B.length∧q=B.length - i∧(∀j (hj:j<i) (h2:j<B.length),(cW m B[j]==some true)=false)∧lk ρ 2=some (.ptr i1 0)∧lk ρ 7=some (.i (if(B.take i).any (fun v=>cW m v==none)then 1 else 0))∧lk ρ 21=some (.sl (B.map aS) .no)∧lk ρ 22=some (.i B.length)∧lk ρ 23=some (.i i)) B.length ?_ ?_
 ·refine⟨.refl _,0,ad4,rfl,fun j hj=>ad4,?_,?_,?_,?_,?_⟩<;>simp only[go_sem]
  simp
 ·rintro q ρ G ⟨hs,i,hi,rfl,hc,r2,r7,r21,r22,r23⟩
  have k1' :=hs _ _ k1;simp only[go_sem,r22,r23];refine .intro (fun e=>?_) (fun e=>?_)
  ·have hlt:i<B.length:=ad1 e
   have w1:=ad0 i ad4;have hsn:(B.take (i+1)).any (fun v=>cW m v==none)=((B.take i).any (fun v=>cW m v==none)||(cW m B[i]==none)):=any_succ hlt
   have ix:=fun k=>eE.eq (xs:=B.map aS) (sz:=3) i aeq aef k
   rw[adV]at ix;have hci:=fun(d:(cW m B[i]==some true)=false)=>(fun j (hj:j<i+1) (h2:j<B.length)=>(by
    by_cases hji:j=i
    ·subst hji;exact d
    ·exact hc j ad4 h2:(cW m B[j]==some true)=false))
   have hat:=fun(d:(cW m B[i]==some true)=true)=>(List.any_eq_true.2 ⟨B[i],adZ hlt,d⟩:B.any (fun v=>cW m v==some true)=true)
   obtain⟨v,ev⟩:∃v,B[i]=v:=⟨_,rfl⟩;rw[ev]at ix hsn hci hat;simp only[aS]at ix;obtain⟨e,he1,he2⟩:=BM m v;have hag1:=hag v;rw[he2]at hag1;simp only[go_sem,r21,r23,ix];intro i4 h4;have n41:i4≠i1:=fun e=>by rw[e,k1']at h4;cases h4
   simp only[go_sem,r2,ak,n41.symm,k1'];refine(hag1 _).pthen ?_;cases d1:(cW m v==some true)
   ·cases d2:(cW m v==none)
    ·rw[d2]at he1 hsn
     rw[Bool.or_false]at hsn;simp only[go_sem,r23,he1,w1];refine⟨_,?_,hs.trans (.aj h4),i+1,ad4,rfl,hci d1,?_,?_,?_,?_,?_⟩
     ·omega
     all_goals simp only[go_sem,r2,r7,r21,r22,hsn]
    ·rw[d2]at he1 hsn
     rw[Bool.or_true]at hsn;simp only[go_sem,r23,he1,w1];refine⟨_,?_,hs.trans (.aj h4),i+1,ad4,rfl,hci d1,?_,?_,?_,?_,?_⟩
     ·omega
     all_goals simp only[go_sem,r2,r21,r22,hsn]
   ·simp only[go_sem]
    refine .mk _ (.refl _) (hH.trans (hs.trans (.aj h4))) ⟨by rw[hmm,if_pos (hat d1)];rfl,rfl⟩
  ·have hge:i=B.length:=by have:=adX e;omega
   subst hge;rw[List.take_length]at r7;simp only[go_sem,r7];refine .mk _ (.refl _) (hH.trans hs) ⟨?_,rfl⟩;have hno:B.any (fun v=>cW m v==some true)=false:=List.any_eq_false.2 fun x hx=>by
    obtain⟨j,hj,rfl⟩:=List.mem_iff_getElem.1 hx;rw[hc j hj hj];decide
   rw[hmm,hno];cases B.any (fun v=>cW m v==none)<;>rfl
theorem Ic(a b:Nat):(if((b:Int)<(a:Int))then(b:Int)else(a:Int))=((min a b:Nat):Int):=by
 grind
theorem Pm(a b:Nat):(if((a:Int)<(b:Int))then(b:Int)else(a:Int))=((max a b:Nat):Int):=by
 grind
theorem Oo(l:List bO)(hl:l.length≤1000000)(gs:List bt)(hf:rT gs)(h:Heap):ai Tryz.prog 245 [ij l,bL gs] h fun r h' =>r= .i (CT gs l:Nat)∧h' =h:=by
 have hmt:=fun(m:bO) (G:Heap)=>A6 m gs hf G
 simp only[cK,bL]at hmt;refine ad3 Tryz.func245 21 [.tmp 4] fun hwf=>?_
 simp only[go_sem,ij,bL,adU];refine .intro (fun q ρ G=>Ab.Sub h G∧∃i:Nat,i≤l.length∧q=l.length - i∧lk ρ 1=some (.sl (gs.map lF) .no)∧lk ρ 5=some (.i (CT gs (l.take i):Nat))∧lk ρ 8=some (.sl (l.map cK) .no)∧lk ρ 9=some (.i l.length)∧lk ρ 10=some (.i i)) l.length ?_ ?_
 ·exact ajL
 ·rintro q ρ G ⟨hs,i,hi,rfl,r1,r5,r8,r9,r10⟩
  simp only[go_sem,r9,r10];refine .intro (fun e=>?_) (fun e=>?_)
  ·have hlt:i<l.length:=ad1 e
   have w1:IntKind.i64.wrap ((i:Int)+1)=((i+1:Nat):Int):=aej;have hsn:CT gs (l.take (i+1))=min (CT gs (l.take i)) (j4 gs l[i]):=by
    grind [CT,List.take_succ_eq_append_getElem]
   have ix:=fun k=>eE.eq (xs:=l.map cK) (sz:=7) i ad5 aef k
   rw[adV]at ix;obtain⟨m,em⟩:∃m,l[i]=m:=⟨_,rfl⟩;rw[em]at ix hsn;have hmt1:=hmt m;simp only[cK]at ix;simp only[go_sem,r8,r10,ix];intro i4 h4;simp only[go_sem,r1,r5];refine(hmt1 _).pthen ?_;simp only[go_sem,r10,Ic,w1];refine⟨_,?_,hs.trans (.aj h4),i+1,ad4,rfl,?_,?_,?_,?_,?_⟩
   ·omega
   all_goals simp only[go_sem,r1,r8,r9,hsn]
  ·have hge:i=l.length:=by grind
   exact ajU
def Of(t:fY):Prop:=t.length≤1000000∧∀x∈t,x.length≤1000000∧∀l∈x,l.length≤1000000
theorem MJ(t:fY)(ht:Of t)(gs:List bt)(hf:rT gs)(h:Heap):ai Tryz.prog 207 [aW t,bL gs] h fun r h' =>r= .i (mX gs t:Nat)∧h' =h:=by
 have hat:=fun(l:List bO) (hl:l.length≤1000000) (G:Heap)=>Oo l hl gs hf G
 simp only[ij,bL]at hat;have htl:=ht.1;refine ad3 Tryz.func207 34 [.tmp 4] fun hwf=>?_
 simp only[go_sem,aW,bL,adU];refine .intro (fun q ρ G=>Ab.Sub h G∧∃i:Nat,i≤t.length∧q=t.length - i∧lk ρ 1=some (.sl (gs.map lF) .no)∧lk ρ 5=some (.i (mX gs (t.take i):Nat))∧lk ρ 11=some (.sl (t.map cB) .no)∧lk ρ 12=some (.i t.length)∧lk ρ 13=some (.i i)) t.length ?_ ?_
 ·exact ajL
 ·rintro q ρ G ⟨hs,i,hi,rfl,r1,r5,r11,r12,r13⟩
  simp only[go_sem,r12,r13];refine .intro (fun e=>?_) (fun e=>?_)
  ·have hlt:i<t.length:=ad1 e
   have w1:IntKind.i64.wrap ((i:Int)+1)=((i+1:Nat):Int):=aej;have hsn:mX gs (t.take (i+1))=min (mX gs (t.take i)) (zW gs t[i]):=by
    grind [mX,List.take_succ_eq_append_getElem]
   have ix:=fun k=>eE.eq (xs:=t.map cB) (sz:=1) i ad5 aef k
   rw[adV]at ix;obtain⟨hx1,hx2⟩:=ht.2 t[i] (adZ hlt);obtain⟨x,ex⟩:∃x,t[i]=x:=⟨_,rfl⟩;rw[ex]at ix hsn hx1 hx2;simp only[cB]at ix;simp only[go_sem,r11,r13,ix,adU];refine .intro (fun q ρ' K=>Ab.Sub h K∧∃n:Nat,n≤x.length∧q=x.length - n∧lk ρ' 1=some (.sl (gs.map lF) .no)∧lk ρ' 5=some (.i (mX gs (t.take i):Nat))∧lk ρ' 8=some (.i (zW gs (x.take n):Nat))∧lk ρ' 11=some (.sl (t.map cB) .no)∧lk ρ' 12=some (.i t.length)∧lk ρ' 13=some (.i i)∧lk ρ' 17=some (.sl (x.map ij) .no)∧lk ρ' 18=some (.i x.length)∧lk ρ' 19=some (.i n)) x.length ?_ ?_
   ·refine⟨hs,0,ad4,rfl,?_,?_,?_,?_,?_,?_,?_,?_,?_⟩<;>simp only[go_sem,r1,r5,r11,r12,r13]
    rfl
   ·rintro q ρ' K ⟨hs',n,hn,rfl,s1,s5,s8,s11,s12,s13,s17,s18,s19⟩
    simp only[go_sem,s18,s19];refine .intro (fun e=>?_) (fun e=>?_)
    ·have hlt2:n<x.length:=ad1 e
     have w2:IntKind.i64.wrap ((n:Int)+1)=((n+1:Nat):Int):=aej;have hsn2:zW gs (x.take (n+1))=max (zW gs (x.take n)) (CT gs x[n]):=by
      grind [zW,List.take_succ_eq_append_getElem]
     have ix2:=fun k=>eE.eq (xs:=x.map ij) (sz:=1) n ad5 aef k
     rw[adV]at ix2;have hx3:=hx2 x[n] (adZ hlt2);obtain⟨l,el⟩:∃l,x[n]=l:=⟨_,rfl⟩;rw[el]at ix2 hsn2 hx3;simp only[ij]at ix2;simp only[go_sem,s1,s8,s17,s19,ix2];refine(hat l hx3 _).pthen ?_;simp only[go_sem,s19,Pm,w2];refine⟨_,?_,hs',n+1,ad4,rfl,?_,?_,?_,?_,?_,?_,?_,?_,?_⟩
     ·omega
     all_goals simp only[go_sem,s1,s5,s11,s12,s13,s17,s18,hsn2]
    ·have hge:n=x.length:=by grind
     subst hge;rw[List.take_length]at s8;simp only[go_sem,s5,s8,s13,Ic,w1];refine⟨_,?_,hs',i+1,ad4,rfl,?_,?_,?_,?_,?_⟩
     ·omega
     all_goals simp only[go_sem,s1,s11,s12,hsn]
  ·have hge:i=t.length:=by grind
   exact ajU
end Go.Proofs.YtbbadggejjgihaaGreatDoor
namespace Go.Bf
open Go Go.Ab Go.Proofs.YtbbadggejjgihaaGreatDoor
def Ad(o:Bool)(n:Int):AV:=if o then .tup [.i 0,.i 3]else .tup [.i (w64 n),.i 0]
def rB(r:bu×Int):AV:=.tup [aS r.1,.i r.2]
end Go.Bf
namespace Go.Proofs.YtbbadggejjgihaaGreatDoor
open Go Go.Ab Go.Bf
theorem RG(a b:Int)(h:Heap):ai Tryz.prog 316 [.i a,.i b] h fun r h' =>r=Ad (Lg a b) (a+b)∧h' =h:=by
 refine ad3 Tryz.func316 27 [.tmp 4,.tmp 5] fun hwf=>?_
 cases d1:decide (0<b)<;>cases d2:decide (IntKind.i64.wrap (9223372036854775807 - b)<a)<;>cases d3:decide (b<0)<;>cases d4:decide (a<IntKind.i64.wrap (-9223372036854775808 - b))
 all_goals
  simp -implicitDefEqProofs only[go_sem,d1,d2,d3,d4];exact .same (.refl _) ⟨by simp only[Ad,Lg,w64,d1,d2,d3,d4];rfl,rfl⟩
theorem Te(a b:Int)(h:Heap):ai Tryz.prog 317 [.i a,.i b] h fun r h' =>r=Ad (NH a b) (a - b)∧h' =h:=by
 refine ad3 Tryz.func317 27 [.tmp 4,.tmp 5] fun hwf=>?_
 cases d1:decide (0<b)<;>cases d2:decide (a<IntKind.i64.wrap (-9223372036854775808+b))<;>cases d3:decide (b<0)<;>cases d4:decide (IntKind.i64.wrap (9223372036854775807+b)<a)
 all_goals
  simp -implicitDefEqProofs only[go_sem,d1,d2,d3,d4];exact .same (.refl _) ⟨by simp only[Ad,NH,w64,d1,d2,d3,d4];rfl,rfl⟩
theorem SK(a b:Int)(h:Heap):ai Tryz.prog 318 [.i a,.i b] h fun r h' =>r=Ad (J5 a b) (a*b)∧h' =h:=by
 refine ad3 Tryz.func318 36 [.tmp 4,.tmp 5] fun hwf=>?_
 cases d0:(a !=0)
 ·have e0:a=0:=by grind
  subst e0;cases d1:(b== -1)
  all_goals
   simp -implicitDefEqProofs only[go_sem,d1];exact .same (.refl _) ⟨by simp[Ad,J5,w64,ax],rfl⟩
 have e0:a≠0:=ad5;cases d1:(a== -1)<;>cases d2:(b== -9223372036854775808)<;>cases d3:(b== -1)<;>cases d4:(a== -9223372036854775808)<;>cases d5:(IntKind.i64.wrap ((IntKind.i64.wrap (a*b)).tdiv a) !=b)
 all_goals
  simp -implicitDefEqProofs only[go_sem,d0,d1,d2,d3,d4,d5,e0];exact .same (.refl _) ⟨by simp only[Ad,J5,w64,d0,d1,d2,d3,d4,d5];rfl,rfl⟩
theorem BC(b:Bool)(h:Heap):ai Tryz.prog 314 [.b b] h fun r h' =>r=aS (dL b)∧h' =h:=by
 refine ad3 Tryz.func314 8 [.cell 2 32] fun hwf=>?_
 simp only[go_sem];intro i1 h1;simp only[go_sem];intro i2 h2;have n21:=aH h2;have n2:=aC h2;cases b
 all_goals
  simp only[go_sem,ak,n21.symm];exact .mk _ (.refl _) ((((Sub.refl h).put h1 _).put n2 _).put h1 _) ⟨rfl,rfl⟩
theorem BV(kind:Int)(l:List bu)(hl:l.length≤1000000)(p:Perm)(h:Heap):ai Tryz.prog 319 [.i kind,.sl (l.map aS) p] h fun r h' =>r= .b (l.all fun v=>v.kind==kind)∧h' =h:=by
 refine ad3 Tryz.func319 18 [.tmp 4] fun hwf=>?_
 simp only[go_sem,adU];refine .intro (fun q ρ G=>Ab.Sub h G∧∃i:Nat,i≤l.length∧q=l.length - i∧(∀j (hj:j<i) (h2:j<l.length),(l[j].kind==kind)=true)∧lk ρ 0=some (.i kind)∧lk ρ 7=some (.sl (l.map aS) p)∧lk ρ 8=some (.i l.length)∧lk ρ 9=some (.i i)) l.length ?_ ?_
 ·refine⟨.refl _,0,ad4,rfl,fun j hj=>ad4,?_,?_,?_,?_⟩<;>simp only[go_sem]
 ·rintro q ρ G ⟨hs,i,hi,rfl,hc,r0,r7,r8,r9⟩
  simp only[go_sem,r8,r9];refine .intro (fun e=>?_) (fun e=>?_)
  ·have hlt:i<l.length:=ad1 e
   have w1:IntKind.i64.wrap ((i:Int)+1)=((i+1:Nat):Int):=aej;have ix:=fun k=>eE.eq (xs:=l.map aS) (sz:=3) i ad5 aef k
   rw[adV]at ix;have hci:=fun(d:(l[i].kind==kind)=true)=>(fun j (hj:j<i+1) (h2:j<l.length)=>(by
    grind:(l[j].kind==kind)=true))
   have hat:=fun(d:(l[i].kind==kind)=false)=>(List.all_eq_false.2 ⟨l[i],adZ hlt,ad5⟩:(l.all fun v=>v.kind==kind)=false)
   obtain⟨v,ev⟩:∃v,l[i]=v:=⟨_,rfl⟩;rw[ev]at ix hci hat;simp only[aS]at ix;cases d1:(v.kind==kind)
   ·have d2:(v.kind !=kind)=true:=by grind
    simp only[go_sem,r7,r9,ix];intro i4 h4;simp only[go_sem,r0,d2];exact .mk _ (.refl _) (hs.trans (.aj h4)) ⟨aia,rfl⟩
   ·have d2:(v.kind !=kind)=false:=by grind
    simp only[go_sem,r7,r9,ix];intro i4 h4;simp only[go_sem,r0,r9,d2,w1];refine⟨_,?_,hs.trans (.aj h4),i+1,ad4,rfl,hci d1,?_,?_,?_,?_⟩
    ·omega
    all_goals simp only[go_sem,r0,r7,r8]
  ·have hge:i=l.length:=by grind
   simp only[go_sem];exact .mk _ (.refl _) hs ⟨by rw[List.all_eq_true.2 fun x hx=>agS];rfl,rfl⟩
theorem Gs(g:FuncId)(a b:bu)(o:Bool)(n:Int)(hg:∀G,ai Tryz.prog g [.i a.n,.i b.n] G fun r h' =>r=Ad o n∧h' =G)(p:Perm)(h:Heap):
  ai Tryz.prog 315 [.fn g [],.sl [aS a,aS b] p] h fun r h' =>r=rB (if([a,b].all fun v=>v.kind==2)then Ae o n else nW 2)∧h' =h:=by
 have ix0:=fun k=>eE.eq (xs:=[aS a,aS b]) (sz:=3) 0 aec rfl k
 have ix1:=fun k=>eE.eq (xs:=[aS a,aS b]) (sz:=3) 1 aec rfl k
 simp only[List.getElem_cons_zero,List.getElem_cons_succ,aS,Int.natCast_zero,Int.natCast_one]at ix0 ix1;have hal:=fun(G:Heap)=>BV 2 [a,b] aec p G
 simp only[List.map_cons,List.map_nil,aS]at hal;refine ad3 Tryz.func315 31 [.cell 4 32,.tmp 5] fun hwf=>?_
 simp only[go_sem,aS];intro i1 h1;simp only[go_sem];refine(hal _).pthen ?_;cases d1:([a,b].all fun v=>v.kind==2)
 ·simp only[go_sem]
  exact aen
 ·simp only[go_sem]
  refine .quiet ad7 ?_;simp only[go_sem,ix0,ix1];cases o
  ·refine⟨_,hg _,?_⟩
   simp only[go_sem,Ad];exact aen
  ·refine⟨_,hg _,?_⟩
   simp only[go_sem,Ad];exact aen
theorem xz{α:Type}{l:List α}(h:l.length=2):∃a b,l= [a,b]:=by
 match l,h with
 | [a,b],_=>exact⟨a,b,rfl⟩
def Gl(op:Int)(l:List bu):Bool:= !(decide (op<6)||decide (13<op)||(l.length:Int) !=(if op==11 then 1 else 2)) && l.all bz
theorem SH(op:Int)(l:List bu)(hl:l.length≤1000000)(p:Perm)(h:Heap):ai Tryz.prog 313 [.i op,.sl (l.map aS) p] h fun r h' =>r= .b (Gl op l)∧h' =h:=by
 have hvr:=fun(v:bu) (G:Heap)=>fS v G
 simp only[aS]at hvr;refine ad3 Tryz.func313 32 [.tmp 4] fun hwf=>?_
 cases d11:(op==11)
 all_goals
  have hmm:Gl op l=(!(decide (op<6)||decide (13<op)||(l.length:Int) !=(if op==11 then 1 else 2)) && l.all bz):=rfl
  rw[d11]at hmm;simp only[if_true,Bool.false_eq_true,if_false]at hmm;cases d6:decide (op<6)
  case true=>
   rw[d6]at hmm;simp only[go_sem,d11,d6];exact .same (.refl _) ⟨by rw[hmm];rfl,rfl⟩
  cases d13:decide (13<op)
  case true=>
   rw[d6,d13]at hmm;simp only[go_sem,d11,d6,d13];exact .same (.refl _) ⟨by rw[hmm];rfl,rfl⟩
  rw[d6,d13]at hmm;simp only[Bool.or_false,Bool.false_or]at hmm;obtain⟨b,eb⟩:∃b,((l.length:Int) !=(if op==11 then 1 else 2))=b:=⟨_,rfl⟩
  rw[d11]at eb;simp only[if_true,Bool.false_eq_true,if_false]at eb;rw[eb]at hmm;cases b
  case true=>
   simp only[go_sem,d11,d6,d13,adU,eb];exact .same (.refl _) ⟨by rw[hmm];rfl,rfl⟩
  simp only[Bool.not_false,Bool.true_and]at hmm;simp only[go_sem,d11,d6,d13,adU,eb];refine .intro (fun q ρ G=>Ab.Sub h G∧∃i:Nat,i≤l.length∧q=l.length - i∧(∀j (hj:j<i) (h2:j<l.length),bz l[j]=true)∧lk ρ 22=some (.sl (l.map aS) p)∧lk ρ 23=some (.i l.length)∧lk ρ 24=some (.i i)) l.length ?_ ?_
  ·refine⟨.refl _,0,ad4,rfl,fun j hj=>ad4,?_,?_,?_⟩<;>simp only[go_sem]
  ·rintro q ρ G ⟨hs,i,hi,rfl,hc,r22,r23,r24⟩
   simp only[go_sem,r23,r24];refine .intro (fun e=>?_) (fun e=>?_)
   ·have hlt:i<l.length:=ad1 e
    have w1:IntKind.i64.wrap ((i:Int)+1)=((i+1:Nat):Int):=aej;have ix:=fun k=>eE.eq (xs:=l.map aS) (sz:=3) i ad5 aef k
    rw[adV]at ix;have hci:=fun(d:bz l[i]=true)=>(fun j (hj:j<i+1) (h2:j<l.length)=>(by
     grind:bz l[j]=true))
    have hat:=fun(d:bz l[i]=false)=>(List.all_eq_false.2 ⟨l[i],adZ hlt,ad5⟩:l.all bz=false)
    obtain⟨v,ev⟩:∃v,l[i]=v:=⟨_,rfl⟩;rw[ev]at ix hci hat;simp only[aS]at ix;simp only[go_sem,r22,r24,ix];intro i4 h4;simp only[go_sem];refine(hvr v _).pthen ?_;cases d1:bz v
    ·simp only[go_sem]
     exact .mk _ (.refl _) (hs.trans (.aj h4)) ⟨by rw[hmm,hat d1];rfl,rfl⟩
    ·simp only[go_sem,r24,w1]
     refine⟨_,?_,hs.trans (.aj h4),i+1,ad4,rfl,hci d1,?_,?_,?_⟩
     ·omega
     all_goals simp only[go_sem,r22,r23]
   ·have hge:i=l.length:=by grind
    simp only[go_sem];exact .mk _ (.refl _) hs ⟨by rw[hmm,List.all_eq_true.2 fun x hx=>agS];rfl,rfl⟩
theorem LG{op:Int}{l:List bu}(h:Gl op l=false):ic op l=nW 1:=by
 unfold ic;rw[if_pos]
 by_cases h1:6≤op∧op≤13
 ·by_cases h2:l.length=if op=11 then 1 else 2
  ·refine .inr (.inr ?_)
   unfold Gl at h
   grind
  omega
 omega
theorem I0{op:Int}{l:List bu}(h:Gl op l=true):(6≤op∧op≤13)∧l.all bz=true∧(op=11∧(∃a,l= [a])∨op≠11∧∃a b,l= [a,b]):=by
 unfold Gl at h;simp only[Bool.and_eq_true,Bool.not_eq_true',Bool.or_eq_false_iff,decide_eq_false_iff_not]at h;obtain⟨⟨⟨h1,h2⟩,h3⟩,h4⟩:=h;refine⟨ad4,h4,?_⟩
 by_cases e:op=11
 ·subst e
  have h3' :(l.length:Int)=1:=ad5;exact .inl ⟨rfl,List.length_eq_one_iff.1 ad4⟩
 ·have h3' :(l.length:Int)=2:=by grind
  exact .inr ⟨e,xz ad4⟩
theorem BZ(op:Int)(l:List bu)(hl:l.length≤1000000)(p:Perm)(h:Heap):ai Tryz.prog 310 [.i op,.sl (l.map aS) p] h fun r h' =>r=rB (ic op l)∧h' =h:=by
 have hmy:=fun G=>SH op l hl p G
 cases dm:Gl op l
 ·rw[dm]at hmy
  refine ad3 Tryz.func310 111 [.cell 4 32,.tmp 5] fun hwf=>?_
  simp only[go_sem];intro i1 h1;simp only[go_sem];refine(hmy _).pthen ?_;simp only[go_sem];exact .mk _ (.refl _) (.aj h1) ⟨by rw[LG dm];rfl,rfl⟩
 rw[dm]at hmy;obtain⟨hop,hall,hf⟩:=I0 dm;rcases hf with⟨rfl,a,rfl⟩|⟨e11,a,b,rfl⟩
 ·have ix0:=fun k=>eE.eq (xs:=[aS a]) (sz:=3) 0 aec rfl k
  simp only[List.getElem_cons_zero,aS,Int.natCast_zero]at ix0;have hal:=fun(G:Heap)=>BV 1 [a] aec p G
  simp only[List.map_cons,List.map_nil,aS]at hal hmy;have hc:ic 11 [a]=if(([a].all fun v=>v.kind==1)=false)then nW 2 else(dL (a.n==0),0):=by
   unfold ic;rw[if_neg (by simp[hall])]
   simp
  have htr:=fun G=>BC (a.n==0) G
  refine ad3 Tryz.func310 111 [.cell 4 32,.tmp 5] fun hwf=>?_
  simp only[go_sem,List.map_cons,List.map_nil,aS];intro i1 h1;simp only[go_sem];refine(hmy _).pthen ?_;simp only[go_sem];refine(hal _).pthen ?_;cases d1:([a].all fun v=>v.kind==1)
  ·simp only[go_sem]
   exact .mk _ (.refl _) (.aj h1) ⟨by rw[hc,if_pos d1];rfl,rfl⟩
  ·simp only[go_sem,ix0]
   refine(htr _).pthen ?_;simp only[go_sem,aS];exact .mk _ (.refl _) (.aj h1) ⟨by rw[hc,if_neg (by rw[d1];decide)];rfl,rfl⟩
 ·have ix0:=fun k=>eE.eq (xs:=[aS a,aS b]) (sz:=3) 0 aec rfl k
  have ix1:=fun k=>eE.eq (xs:=[aS a,aS b]) (sz:=3) 1 aec rfl k
  simp only[List.getElem_cons_zero,List.getElem_cons_succ,aS,Int.natCast_zero,Int.natCast_one]at ix0 ix1;have hal:=fun(G:Heap)=>BV 1 [a,b] aec p G
  have hva:bz a=true∧bz b=true:=by simpa using hall
  have hnu:=fun(g:FuncId) (o:Bool) (n:Int) hg (G:Heap)=>Gs g a b o n hg p G
  simp only[List.map_cons,List.map_nil,aS]at hal hmy hnu;have hle:=fun G=>Cl a b G
  simp only[aS]at hle;have htr:=fun(x:Bool) G=>BC x G
  have hc:ic op [a,b]=if op=6 then(if a.kind=b.kind then(dL (eqV a b),0)else nW 2)
    else if op=7 then(match nJ a b with
     |some x=>(dL x,0)
     |none=>nW 2)
    else if op=8∨op=9∨op=10 then
     (if [a,b].all fun v=>v.kind==2 then(if op=8 then Ae (Lg a.n b.n) (a.n+b.n)else if op=9 then Ae (NH a.n b.n) (a.n - b.n)else Ae (J5 a.n b.n) (a.n*b.n))else nW 2)
    else if([a,b].all fun v=>v.kind==1)=false then nW 2
    else if op=12 then(dL (a.n==1 && b.n==1),0)
    else(dL (a.n==1||b.n==1),0):=by
   unfold ic;rw[if_neg (by simp[hall,e11,hop.1,hop.2])]
   simp only[e11,if_false];rfl
  refine ad3 Tryz.func310 111 [.cell 4 32,.tmp 5] fun hwf=>?_
  simp only[go_sem,List.map_cons,List.map_nil,aS];intro i1 h1;simp only[go_sem];refine(hmy _).pthen ?_;rcases(show op=6∨op=7∨op=8∨op=9∨op=10∨op=12∨op=13 by omega)with rfl|rfl|rfl|rfl|rfl|rfl|rfl
  ·simp only[go_sem]
   refine⟨.of ad7,?_⟩;cases dk:(a.kind !=b.kind)
   case true=>
    simp only[go_sem,ix0,ix1,dk];exact .mk _ (.refl _) (.aj h1) ⟨by rw[hc,if_pos rfl,if_neg (by simpa using dk)];rfl,rfl⟩
   ·simp only[go_sem,ix0,ix1,dk]
    refine .calls cV [0,1,2,3,4,5,6,7,8,9] (fun _ _ e=>aew) ad7 rfl ?_
    simp only[go_sem,ix0,ix1];have htr1:=htr (eqV a b);simp only[eqV]at htr1;refine(htr1 _).pthen ?_;refine⟨fun _ _ e=>aew,?_⟩
    simp only[go_sem,aS];refine⟨fun _ _ e=>aew,?_⟩
    exact .mk _ (.refl _) (.aj h1) ⟨by rw[hc,if_pos rfl,if_pos (by simpa using dk)];rfl,rfl⟩
  ·have hc7:ic 7 [a,b]=(match nJ a b with
     |some x=>(dL x,0)
     |none=>nW 2):=by rw[hc];rfl
   simp only[go_sem];refine .quiet ad7 ?_;simp only[go_sem,ix0,ix1];refine⟨_,hle _,?_⟩;cases hl:nJ a b with
   |none=>
    have e2:yM a b=2:=by simp[yM,hva]
    rw[hl]at hc7;simp only[go_sem,lI,hl,e2];exact .mk _ (.refl _) (.aj h1) ⟨by rw[hc7];rfl,rfl⟩
   |some x=>
    rw[hl]at hc7;simp only[go_sem,lI,hl];refine(htr x _).pthen ?_;simp only[go_sem,aS];exact .mk _ (.refl _) (.aj h1) ⟨by rw[hc7];rfl,rfl⟩
  ·have hc8:ic 8 [a,b]=if [a,b].all (fun v=>v.kind==2)then Ae (Lg a.n b.n) (a.n+b.n)else nW 2:=by rw[hc];rfl
   have hg:=hnu 316 _ _ (fun G=>RG a.n b.n G)
   rw[←hc8]at hg;obtain⟨⟨v,e⟩,ex⟩:∃x,ic 8 [a,b]=x:=⟨_,rfl⟩;exact aiP
  ·have hc8:ic 9 [a,b]=if [a,b].all (fun v=>v.kind==2)then Ae (NH a.n b.n) (a.n - b.n)else nW 2:=by rw[hc];rfl
   have hg:=hnu 317 _ _ (fun G=>Te a.n b.n G)
   rw[←hc8]at hg;obtain⟨⟨v,e⟩,ex⟩:∃x,ic 9 [a,b]=x:=⟨_,rfl⟩;exact aiP
  ·have hc8:ic 10 [a,b]=if [a,b].all (fun v=>v.kind==2)then Ae (J5 a.n b.n) (a.n*b.n)else nW 2:=by rw[hc];rfl
   have hg:=hnu 318 _ _ (fun G=>SK a.n b.n G)
   rw[←hc8]at hg;obtain⟨⟨v,e⟩,ex⟩:∃x,ic 10 [a,b]=x:=⟨_,rfl⟩;exact aiP
  ·have hc12:ic 12 [a,b]=if([a,b].all fun v=>v.kind==1)=false then nW 2 else(dL (a.n==1 && b.n==1),0):=by rw[hc];rfl
   simp only[go_sem];refine(hal _).pthen ?_;cases d1:([a,b].all fun v=>v.kind==1)
   ·simp only[go_sem]
    exact .mk _ (.refl _) (.aj h1) ⟨by rw[hc12,if_pos d1];rfl,rfl⟩
   ·rw[if_neg (by rw[d1];decide)]at hc12
    cases da:(a.n==1)<;>cases db:(b.n==1)
    all_goals
     rw[da,db]at hc12;simp only[go_sem,ix0,ix1,da,db];refine(htr _ _).pthen ?_;simp only[go_sem,aS];exact .mk _ (.refl _) (.aj h1) ⟨by rw[hc12];rfl,rfl⟩
  ·have hc13:ic 13 [a,b]=if([a,b].all fun v=>v.kind==1)=false then nW 2 else(dL (a.n==1||b.n==1),0):=by rw[hc];rfl
   simp only[go_sem];refine(hal _).pthen ?_;cases d1:([a,b].all fun v=>v.kind==1)
   ·simp only[go_sem]
    exact .mk _ (.refl _) (.aj h1) ⟨by rw[hc13,if_pos d1];rfl,rfl⟩
   ·rw[if_neg (by rw[d1];decide)]at hc13
    cases da:(a.n==1)<;>cases db:(b.n==1)
    all_goals
     rw[da,db]at hc13;simp only[go_sem,ix0,ix1,da,db];refine(htr _ _).pthen ?_;simp only[go_sem,aS];exact .mk _ (.refl _) (.aj h1) ⟨by rw[hc13];rfl,rfl⟩
end Go.Proofs.YtbbadggejjgihaaGreatDoor
namespace Go.Bf
open Go Go.Ab Go.Proofs.YtbbadggejjgihaaGreatDoor
def bP(x:jE):AV:=.agg [.sl (x.bag.map aS) .no,.i x.v.kind,.i x.v.n,.s x.v.s,.i x.e]
end Go.Bf
namespace Go.Proofs.YtbbadggejjgihaaGreatDoor
open Go Go.Ab Go.Bf
theorem Su(x:jE)(n:Int)(h:Heap):ai Tryz.prog 273 [bP x,.i n] h fun r h' =>r= .b (isI x n)∧h' =h:=by
 refine ad3 Tryz.func273 15 [.tmp 4] fun hwf=>?_
 simp only[go_sem,bP];exact aiL
theorem OZ(x:jE)(n:Int)(h:Heap):ai Tryz.prog 273 [.agg [.sl [] .full,.i x.v.kind,.i x.v.n,.s x.v.s,.i x.e],.i n] h fun r h' =>r= .b (isI x n)∧h' =h:=by
 refine ad3 Tryz.func273 15 [.tmp 4] fun hwf=>?_
 simp only[go_sem];exact aiL
theorem vE(b:Bool)(h:Heap):ai Tryz.prog 308 [.b b] h fun r h' =>r=bP (jc b)∧h' =h:=by
 refine ad3 Tryz.func308 10 [.cell 2 370] fun hwf=>?_
 simp only[go_sem];intro i1 h1;simp only[go_sem];intro i2 h2;have n21:=aH h2;have n2:=aC h2;cases b
 all_goals
  simp only[go_sem,ak,n21.symm];refine .mk (bP (jc _)) ?_ ((((Sub.refl h).put h1 _).put n2 _).put h1 _) ⟨rfl,rfl⟩;refine .agg _ _ rfl fun i a b=>?_
  rcases i with _|_|_|_|_|i
  ·exact agO
  all_goals first|exact .refl _|(simp at a;omega)
theorem FH(op:Int)(h:Heap):ai Tryz.prog 294 [.i op] h fun r h' =>r= .i (opsOf op:Nat)∧h' =h:=by
 refine ad3 Tryz.func294 11 [.tmp 2] fun hwf=>?_
 cases d1:(op==1)
 case true=>simp only[go_sem,d1];exact .same (.refl _) ⟨by rw[opsOf,if_pos (.inl ad5)];rfl,rfl⟩
 cases d2:(op==2)
 case true=>simp only[go_sem,d1,d2];exact .same (.refl _) ⟨by rw[opsOf,if_pos (.inr ad5)];rfl,rfl⟩
 have e1:¬(op=1∨op=2):=ad5;cases d3:(op==3)
 case true=>simp only[go_sem,d1,d2,d3];exact .same (.refl _) ⟨by rw[opsOf,if_neg e1,if_pos (.inl ad5)];rfl,rfl⟩
 cases d4:(op==4)
 case true=>simp only[go_sem,d1,d2,d3,d4];exact .same (.refl _) ⟨by rw[opsOf,if_neg e1,if_pos (.inr (.inl ad5))];rfl,rfl⟩
 cases d5:(op==11)
 case true=>simp only[go_sem,d1,d2,d3,d4,d5];exact .same (.refl _) ⟨by rw[opsOf,if_neg e1,if_pos (.inr (.inr ad5))];rfl,rfl⟩
 have e2:¬(op=3∨op=4∨op=11):=ad5;simp only[go_sem,d1,d2,d3,d4,d5];exact .same (.refl _) ⟨by rw[opsOf,if_neg e1,if_neg e2];rfl,rfl⟩
theorem F9(vs:List bu)(hl:vs.length≤1000000000)(x:bu)(p:Perm)(h:Heap):
  ai Tryz.prog 320 [.sl (vs.map aS) p,aS x] h fun r h' =>r= .i (ixD (fun y=>eqV x y) vs)∧h' =h:=by
 refine ad3 Tryz.func320 19 [.tmp 4] fun hwf=>?_
 simp only[go_sem,aS];intro i1 h1;simp only[go_sem,adU];refine .intro (fun m ρ G=>G=upd h i1 (some (.obj [.i x.kind,.i x.n,.s x.s] 32))∧∃i:Nat,i≤vs.length∧m=vs.length - i∧(∀j (hj:j<i) (h2:j<vs.length),eqV x vs[j]=false)∧lk ρ 0=some (.sl (vs.map aS) p)∧lk ρ 3=some (.ptr i1 0)∧lk ρ 7=some (.i vs.length)∧lk ρ 8=some (.i i)) vs.length ?_ ?_
 ·refine⟨rfl,0,ad4,rfl,fun j hj=>ad4,?_,?_,?_,?_⟩<;>simp only[go_sem]
 ·rintro m ρ G ⟨rfl,i,hi,rfl,hc,r0,r3,r7,r8⟩
  simp only[go_sem,r7,r8];refine .intro (fun e=>?_) (fun e=>?_)
  ·have hlt:i<vs.length:=ad1 e
   have w1:IntKind.i64.wrap ((i:Int)+1)=((i+1:Nat):Int):=aej;have ix:=fun k=>eE.eq (xs:=vs.map aS) (sz:=3) i ad5 aef k
   rw[adV]at ix;have hci:=fun(d:eqV x vs[i]=false)=>(fun j (hj:j<i+1) (h2:j<vs.length)=>(by
    grind:eqV x vs[j]=false))
   have hat:=fun(d:eqV x vs[i]=true)=>nZ (q:=fun y=>eqV x y) hlt d fun j hj=>hc j hj ad4
   obtain⟨v,ev⟩:∃v,vs[i]=v:=⟨_,rfl⟩;rw[ev]at ix hci hat;simp only[aS]at ix;simp only[go_sem,r0,r3,r8];refine⟨.of ad7,?_⟩;cases d1:eqV x v
   ·have d2:=d1
    simp only[eqV]at d2;simp only[go_sem,r8,ix,d2,w1];refine⟨_,?_,rfl,i+1,ad4,rfl,hci d1,?_,?_,?_,?_⟩
    ·omega
    all_goals simp only[go_sem,r0,r3,r7]
   ·have d2:=d1
    simp only[eqV]at d2;simp only[go_sem,ix,d2];exact .mk _ (.refl _) (.aj h1) ⟨aia,rfl⟩
  ·have hge:i=vs.length:=by grind
   simp only[go_sem];exact .mk _ (.refl _) (.aj h1) ⟨aeA,rfl⟩
theorem Oq{vs:List bu}{x:bu}:decide ((0:Int)≤ixD (fun y=>eqV x y) vs)=vs.any fun v=>eqV v x:=by
 have hsy:(fun v=>eqV v x)=fun v=>eqV x v:=by simp[funext,eqV,BEq.comm]
 rw[uK,hsy]
theorem Qj(vs:List bu)(hl:vs.length≤1000000000)(x:bu)(p:Perm)(h:Heap):ai Tryz.prog 309 [.sl (vs.map aS) p,aS x] h fun r h' =>r= .b (vs.any fun v=>eqV v x)∧h' =h:=by
 have h1:∀G,ai Tryz.prog 312 [.sl (vs.map aS) p,aS x] G fun r h' =>r= .b (vs.any fun v=>eqV v x)∧h' =G:=fun G=>by
  have hq:=fun K=>F9 vs hl x p K
  refine ad3 Tryz.func312 9 [.tmp 4] fun hwf=>?_
  simp only[go_sem,aS];intro i1 h1;simp only[go_sem];refine(hq _).pthen ?_;simp only[go_sem,Oq];exact aen
 refine ad3 Tryz.func309 8 [.tmp 4] fun hwf=>?_
 simp only[go_sem,aS];intro i1 h1';simp only[go_sem];refine(h1 _).pthen ?_;simp only[go_sem];exact .mk _ (.refl _) (.aj h1') ⟨rfl,rfl⟩
theorem lH{L:List AV}{x:jE}(hL:L=x.bag.map aS)(q:Perm):Weak (.agg [.sl L q,.i x.v.kind,.i x.v.n,.s x.v.s,.i x.e]) (bP x):=by
 subst hL;refine .agg _ _ rfl fun i a b=>?_
 rcases i with _|_|_|_|_|i
 ·exact agO
 all_goals first|exact .refl _|(simp at a;omega)
theorem tX(op:Int):opsOf op≤2:=by
 grind [opsOf]
theorem vl{gs:List bt}{op:Int}{val:bu}{attr:qs}{l:List jE}{x:jE}(h1:op≠1)(h2:op≠2)(hno:¬((op=12∨op=13)∧(l.any fun x=>isI x (op - 12))=true))(hx:l.find? (fun x=>x.e !=0)=some x):lK gs ⟨op,val,attr⟩ l=⟨[],aq,x.e⟩:=by
 simp_all [lK,if_neg]
theorem vj{gs:List bt}{op:Int}{val:bu}{attr:qs}{l:List jE}(h1:op≠1)(h2:op≠2)(hno:¬((op=12∨op=13)∧(l.any fun x=>isI x (op - 12))=true))(hx:l.find? (fun x=>x.e !=0)=none):lK gs ⟨op,val,attr⟩ l=(if op=3 then(match (l.headD ⟨[],aq,0⟩).bag with
    | [v]=>⟨[],v,0⟩
    |_=>⟨[],aq,4⟩)
   else if op=4 then⟨[],⟨2,(l.headD ⟨[],aq,0⟩).bag.length,[]⟩,0⟩
   else if op=5 then jc ((l.headD ⟨[],aq,0⟩).bag.any fun v=>eqV v (l.getD 1 ⟨[],aq,0⟩).v)
   else Go.Bf.Au (ic op (l.map (·.v)))):=by
 unfold lK;simp only[if_neg h1,if_neg h2,if_neg hno,hx]
 all_goals rfl
theorem Pp{h:Heap}{y:AV}(n:aQ)(hop:1≤n.op∧n.op≤13)(l:List jE)(hb:Rd h 5 y (l.map bP))(hl:l.length=opsOf n.op)(hbag:∀x∈l,x.bag.length≤1000000)(gs:List bt)(hf:rT gs):
  ai Tryz.prog 295 [cF n,y,bL gs] h fun r h' =>r=bP (lK gs n l)∧h' =h:=by
 obtain⟨op,val,attr⟩:=n;simp only at hop hl;have hl2:l.length≤2:=by rw[hl];exact tX op
 have uV:(U 32).sz=3:=aeg;have hg:=fun G=>HO gs attr.cat attr.name attr.must (by have:=hf.1;omega) hf.2 G
 simp only[bL]at hg;refine ad3 Tryz.func295 122 [.cell 6 370] fun hwf=>?_
 simp only[go_sem,cF,bL];intro i3 h3;simp only[go_sem];intro i6 h6;have n63:=aH h6;have n6' :=aC h6;obtain⟨H0,eH⟩:∃H0,upd (upd h i3 (some (.obj [.i op,.i val.kind,.i val.n,.s val.s,.i attr.cat,.s attr.name,.b attr.must] 172))) i6 (some (.obj [.sl [] .full,.i 0,.i 0,.s [],.i 0] 370))=H0:=⟨_,rfl⟩;have hH0:Ab.Sub h H0:=ag8;have g3:H0 i3=some (.obj [.i op,.i val.kind,.i val.n,.s val.s,.i attr.cat,.s attr.name,.b attr.must] 172):=by rw[←eH,ag _ _ n63.symm,ah]
 have g6:H0 i6=some (.obj [.sl [] .full,.i 0,.i 0,.s [],.i 0] 370):=afz;rw[eH];clear eH;cases d1:(op==1)
 case true=>
  have e1:op=1:=ag9;simp only[go_sem,d1,g3,g6];exact .mk (bP ⟨[],val,0⟩) (lH (x:=⟨[],val,0⟩) rfl _) (hH0.put n6' _) ⟨by unfold lK;simp only[e1,if_true],rfl⟩
 have hp1' :op≠1:=ag9;cases d2:(op==2)
 case true=>
  have e2:op=2:=by simpa using d2
  simp only[go_sem,d1,d2,g3];refine(hg _).pthen ?_
  by_cases hh:xV gs attr= []∧attr.must=true
  ·have hh2:Go.Bf.getD gs attr.cat attr.name= []∧attr.must=true:=hh
   simp only[go_sem,JA,if_pos hh2,g6];exact .mk (bP ⟨[],aq,4⟩) (lH (x:=⟨[],aq,4⟩) rfl _) (hH0.put n6' _) ⟨by unfold lK;simp only[e2,if_neg (show¬(2:Int)=1 by decide),if_true,if_pos hh],rfl⟩
  ·have hh2:¬(Go.Bf.getD gs attr.cat attr.name= []∧attr.must=true):=hh
   simp only[go_sem,JA,if_neg hh2,g6];exact .mk (bP ⟨xV gs attr,aq,0⟩) (lH (x:=⟨xV gs attr,aq,0⟩) rfl _) (hH0.put n6' _) ⟨by unfold lK;simp only[e2,if_neg (show¬(2:Int)=1 by decide),if_true,if_neg hh],rfl⟩
 have hp2' :op≠2:=by simpa using d2
 have his:=fun(x:jE) (m:Int) (G:Heap)=>Su x m G
 simp only[bP]at his;cases d12:(op==12)
 case true=>
  have e12:op=12:=by simpa using d12
  have htr:=fun G=>vE false G
  simp only[bP]at htr;obtain⟨a,b,hab⟩:∃a b,l= [a,b]:=xz (by rw[hl,e12];rfl)
  have wk:IntKind.i64.wrap (op - 12)=0:=agP;have han:(l.any fun x=>isI x (op - 12))=(isI a 0||isI b 0):=by rw[hab,e12];simp
  have hb0:l.map bP= [bP a,bP b]:=by rw[hab];rfl
  have q3:(op==3)=false:=agP;have q4:(op==4)=false:=agP;have q5:(op==5)=false:=agP;have hbH:=hb.sub hH0;simp only[go_sem,d2,d1,d12,g3,wk];refine hbH.idx (e:=370) 0 rfl agl aeg ad9 fun p hp1=>?_
  have hld:=hp1.all (U:=U) (ty:=370) aeg afg afg;simp only[go_sem,hld,hb0,List.getElem_cons_zero,bP];refine(his a 0 _).pthen ?_;cases da:isI a 0
  ·simp only[go_sem]
   refine hbH.idx (e:=370) 1 rfl agl aeg ad9 fun p hp1=>?_
   have hld:=hp1.all (U:=U) (ty:=370) aeg aeS aeS;simp only[go_sem,hld,hb0,List.getElem_cons_succ,List.getElem_cons_zero,bP];refine(his b 0 _).pthen ?_;cases db:isI b 0
   ·exact ail
   ·simp only[go_sem]
    refine(htr _).pthen ?_;simp only[go_sem,g6];exact .mk (bP (jc false)) (lH (x:=(jc false)) rfl _) (hH0.put n6' _) ⟨by unfold lK;rw[han,da,db];simp[e12]<;>rfl,rfl⟩
  ·simp only[go_sem]
   refine(htr _).pthen ?_;simp only[go_sem,g6];exact .mk (bP (jc false)) (lH (x:=(jc false)) rfl _) (hH0.put n6' _) ⟨by unfold lK;rw[han,da];simp[e12]<;>rfl,rfl⟩
 have hn12:op≠12:=by simpa using d12
 cases d13:(op==13)
 case true=>
  have e12:op=13:=by simpa using d13
  have htr:=fun G=>vE true G
  simp only[bP]at htr;obtain⟨a,b,hab⟩:∃a b,l= [a,b]:=xz (by rw[hl,e12];rfl)
  have wk:IntKind.i64.wrap (op - 12)=1:=agP;have han:(l.any fun x=>isI x (op - 12))=(isI a 1||isI b 1):=by rw[hab,e12];simp
  have hb0:l.map bP= [bP a,bP b]:=by rw[hab];rfl
  have q3:(op==3)=false:=agP;have q4:(op==4)=false:=agP;have q5:(op==5)=false:=agP;have hbH:=hb.sub hH0;simp only[go_sem,d1,d2,d12,d13,g3,wk];refine hbH.idx (e:=370) 0 rfl agl aeg ad9 fun p hp1=>?_
  have hld:=hp1.all (U:=U) (ty:=370) aeg afg afg;simp only[go_sem,hld,hb0,List.getElem_cons_zero,bP];refine(his a 1 _).pthen ?_;cases da:isI a 1
  ·simp only[go_sem]
   refine hbH.idx (e:=370) 1 rfl agl aeg ad9 fun p hp1=>?_
   have hld:=hp1.all (U:=U) (ty:=370) aeg aeS aeS;simp only[go_sem,hld,hb0,List.getElem_cons_succ,List.getElem_cons_zero,bP];refine(his b 1 _).pthen ?_;cases db:isI b 1
   ·exact ail
   ·simp only[go_sem]
    refine(htr _).pthen ?_;simp only[go_sem,g6];exact .mk (bP (jc true)) (lH (x:=(jc true)) rfl _) (hH0.put n6' _) ⟨by unfold lK;rw[han,da,db];simp[e12]<;>rfl,rfl⟩
  ·simp only[go_sem]
   refine(htr _).pthen ?_;simp only[go_sem,g6];exact .mk (bP (jc true)) (lH (x:=(jc true)) rfl _) (hH0.put n6' _) ⟨by unfold lK;rw[han,da];simp[e12]<;>rfl,rfl⟩
 have hn13:op≠13:=by simpa using d13
 have hno:¬((op=12∨op=13)∧(l.any fun x=>isI x (op - 12))=true):=fun hh=>hh.1.elim hn12 hn13
 simp only[go_sem,d1,d2,d12,d13,g3,hb.len,adU];refine .intro (fun m ρ H=>∃(i:Nat) (z:AV),Acc U 32 H0 H z ((l.take i).map fun x=>aS x.v)∧i≤l.length∧m=l.length - i∧(∀j (h1:j<l.length),j<i→l[j].e=0)∧lk ρ 1=some y∧lk ρ 3=some (.ptr i3 0)∧lk ρ 6=some (.ptr i6 0)∧lk ρ 10=some z∧lk ρ 55=some y∧lk ρ 56=some (.i l.length)∧lk ρ 57=some (.i i)) l.length ?_ ?_
 ·refine⟨0,.sl [] .full,.full (.refl _),ad4,rfl,fun j _ hj=>ad4,?_,?_,?_,?_,?_,?_,?_⟩<;>simp only[go_sem]
 ·rintro m ρ H ⟨i,z,hz,hi,rfl,hc,r1,r3,r6,r10,r55,r56,r57⟩
  have hsH:=hH0.trans hz.1;have hbH:=hb.sub hsH;have k3:=hz.1 _ _ g3;have k6:=hz.1 _ _ g6;simp only[go_sem,r56,r57];refine .intro (fun e=>?_) (fun e=>?_)
  ·have hlt:i<l.length:=ad1 e
   have w1:=ad0 i ad4;have hsn:(l.take (i+1)).map (fun x=>aS x.v)=(l.take i).map (fun x=>aS x.v)++ [aS l[i].v]:=afk
   simp only[go_sem,r55,r57];refine hbH.idx (e:=370) i rfl aeq aeg ad9 fun p hp1=>?_
   have hld:=hp1.all (U:=U) (ty:=370) aeg aeM aeM;obtain⟨x,ex⟩:∃x,l[i]=x:=⟨_,rfl⟩;rw[ex]at hsn;simp only[go_sem,hld,adV,ex,bP];intro i12 h12;have n126:i12≠i6:=fun e=>af8
   cases dx:(x.e !=0)
   ·have dx' :x.e=0:=by simpa using dx
    simp only[go_sem,r10,dx];refine(hz.sub (.aj h12)).app (zs:=[aS x.v]) aea aea (fun k hk=>hk) afp afG aeo fun z' H' hz' kp=>?_
    simp only[go_sem,r57,w1];refine⟨_,?_,i+1,z',by rw[hsn];exact hz',ad4,rfl,fun j h1 hj=>?_,?_,?_,?_,?_,?_,?_,?_⟩
    ·omega
    ·by_cases hji:j=i
     ·subst hji;rw[ex];exact dx'
     ·exact hc j h1 ad4
    all_goals simp only[go_sem,r1,r3,r6,r55,r56]
   ·have hfi:l.find? (fun x=>x.e !=0)=some x:=by rw[←ex];exact List.find?_eq_some_iff_getElem.2 ⟨by rw[ex];exact dx,i,hlt,rfl,fun j hj=>ahD⟩
    simp only[go_sem,r6,dx,ak,n126.symm,k6];exact .mk (bP ⟨[],aq,x.e⟩) (lH (x:=⟨[],aq,x.e⟩) rfl _) ((hsH.trans (.aj h12)).put n6' _) ⟨ahq,rfl⟩
  ·have hge:i=l.length:=by have:=adX e;omega
   subst hge;have hfi:l.find? (fun x=>x.e !=0)=none:=List.find?_eq_none.2 fun x hx=>by
    obtain⟨j,hj,rfl⟩:=List.mem_iff_getElem.1 hx;rw[hc j hj hj];decide
   have hnd:=vj (gs:=gs) (val:=val) (attr:=attr) hp1' hp2' hno hfi;rw[List.take_length]at hz;obtain⟨qz,eqz⟩:=hz.row;subst eqz;have hcl:=fun G=>BZ op (l.map (·.v)) ahj qz G
   rw[List.map_map]at hcl;have hcl:∀G,ai Tryz.prog 310 [.i op,.sl (l.map fun x=>aS x.v) qz] G fun r h' =>r=rB (ic op (l.map (·.v)))∧h' =G:=hcl
   cases d3:(op==3)
   case true=>
    have e3:op=3:=ah2;obtain⟨a,ha⟩:∃a,l= [a]:=List.length_eq_one_iff.1 (by rw[hl,e3];rfl)
    have hb0:l.map bP= [bP a]:=by rw[ha];rfl
    simp only[e3,if_true,ha,List.headD_cons]at hnd;simp only[go_sem,r1,r3,k3,d3];refine hbH.idx (e:=370) 0 rfl agl aeg ad9 fun p hp1=>?_
    (try simp only[go_sem])
    refine hp1.field (f:=0) (off:=0) (t:=196) rfl aeW fun p2 hp2=>?_
    have hld:=hp2.part (U:=U) (ty:=196) aeW ae7;simp only[hb0,List.getElem_cons_zero,bP,AV.cells]at hld;cases db:((a.bag.length:Int) !=1)
    ·have hb1:(a.bag.length:Int)=1:=by simpa using db
     obtain⟨v,hv⟩:=List.length_eq_one_iff.1 (show a.bag.length=1 by omega)
     rw[hv]at hnd hld;have iv:=fun K=>eE.eq (xs:=[aS v]) (sz:=3) 0 aec rfl K
     simp only[List.getElem_cons_zero,aS,Int.natCast_zero]at iv;simp only[go_sem,r1,hld,List.map_cons,List.map_nil,aS];refine hbH.idx (e:=370) 0 rfl agl aeg ad9 fun p hp1=>?_
     (try simp only[go_sem])
     refine hp1.field (f:=0) (off:=0) (t:=196) rfl aeW fun p2 hp2=>?_
     have hld:=hp2.part (U:=U) (ty:=196) aeW ae7;simp only[hb0,List.getElem_cons_zero,bP,AV.cells,hv,List.map_cons,List.map_nil,aS]at hld;simp only[go_sem,hld,iv,r6,k6];exact .mk (bP ⟨[],v,0⟩) (lH (x:=⟨[],v,0⟩) rfl _) (hsH.put n6' _) ⟨by rw[e3,ha,hnd]<;>rfl,rfl⟩
    ·simp only[go_sem,hld,adU,db,r6,k6]
     refine .mk (bP ⟨[],aq,4⟩) (lH (x:=⟨[],aq,4⟩) rfl _) (hsH.put n6' _) ⟨?_,rfl⟩;rw[e3,ha,hnd]
     congr 1
     split
     ·rename_i v hv;rw[hv]at db;simp at db
     ·rfl
   cases d4:(op==4)
   case true=>
    have e4:op=4:=by simpa using d4
    obtain⟨a,ha⟩:∃a,l= [a]:=List.length_eq_one_iff.1 (by rw[hl,e4];rfl)
    have hb0:l.map bP= [bP a]:=by rw[ha];rfl
    simp only[go_sem,r1,r3,k3,d3,d4];refine hbH.idx (e:=370) 0 rfl agl aeg ad9 fun p hp1=>?_
    (try simp only[go_sem])
    refine hp1.field (f:=0) (off:=0) (t:=196) rfl aeW fun p2 hp2=>?_
    have hld:=hp2.part (U:=U) (ty:=196) aeW ae7;simp only[hb0,List.getElem_cons_zero,bP,AV.cells]at hld;simp only[go_sem,hld,adU,r6,k6];exact .mk (bP ⟨[],⟨2,a.bag.length,[]⟩,0⟩) (lH (x:=⟨[],⟨2,a.bag.length,[]⟩,0⟩) rfl _) (hsH.put n6' _) ⟨by rw[hnd,e4,ha];rfl,rfl⟩
   cases d5:(op==5)
   case true=>
    have e5:op=5:=by simpa using d5
    obtain⟨a,b,hab⟩:∃a b,l= [a,b]:=xz (by rw[hl,e5];rfl)
    have hb0:l.map bP= [bP a,bP b]:=by rw[hab];rfl
    have hvh:=fun G=>Qj a.bag (by have:=hbag a (by rw[hab];simp);omega) b.v .no G
    simp only[aS]at hvh;have htr:=fun G=>vE (a.bag.any fun v=>eqV v b.v) G
    simp only[bP]at htr;simp only[go_sem,r3,k3,d3,d4,d5];refine .calls h [0,1,2,3,4,5,6,7,8,9,10] hsH ad7 rfl ?_;simp only[go_sem,r1];refine hb.idx (e:=370) 0 rfl agl aeg ad9 fun p hp1=>?_
    simp only[go_sem];refine hp1.field (f:=0) (off:=0) (t:=196) rfl aeW fun p2 hp2=>?_
    have hld:=hp2.part (U:=U) (ty:=196) aeW ae7;simp only[hb0,List.getElem_cons_zero,bP,AV.cells]at hld;simp only[go_sem,hld,r1];refine hb.idx (e:=370) 1 rfl agl aeg ad9 fun p hp3=>?_
    simp only[go_sem];refine hp3.field (f:=1) (off:=1) (t:=32) rfl aeW fun p4 hp4=>?_
    have hld4:=hp4.part (U:=U) (ty:=32) aeW (by simp only[go_sem,hb0,List.getElem_cons_succ,List.getElem_cons_zero];exact adT rfl)
    simp only[hb0,List.getElem_cons_succ,List.getElem_cons_zero,bP,AV.cells]at hld4;simp only[go_sem,hld4];refine(hvh _).pthen ?_;refine⟨hsH,?_⟩;simp only[go_sem];refine(htr _).pthen ?_;refine⟨hsH,?_⟩;simp only[go_sem,r6,k6];refine⟨hsH.put n6' _,?_⟩;exact .mk (bP (jc (a.bag.any fun v=>eqV v b.v))) (lH (x:=(jc (a.bag.any fun v=>eqV v b.v))) rfl _) (hsH.put n6' _) ⟨by rw[hnd,e5,hab];rfl,rfl⟩
   obtain⟨⟨v,e⟩,ev⟩:∃x,ic op (l.map (·.v))=x:=⟨_,rfl⟩
   rw[ev]at hcl;simp only[go_sem,r3,r10,k3,d3,d4,d5];refine(hcl _).pthen ?_;simp only[go_sem,rB,aS];intro i13 h13;have n136:i13≠i6:=fun e=>ahL
   simp only[go_sem,r6,ak,n136.symm,k6];exact .mk (bP ⟨[],v,e⟩) (lH (x:=⟨[],v,e⟩) rfl _) ((hsH.trans (.aj h13)).put n6' _) ⟨by rw[hnd];simp only[if_neg (show¬op=3 by simpa using d3),if_neg (show¬op=4 by simpa using d4),if_neg (show¬op=5 by simpa using d5)];rw[ev]<;>rfl,rfl⟩
end Go.Proofs.YtbbadggejjgihaaGreatDoor
namespace Go.Bf
open Go Go.Ab Go.Proofs.YtbbadggejjgihaaGreatDoor
theorem Cz{t:fY}(h:lR t=0):Of t:=by
 obtain⟨h1,h2⟩:=BA h;refine⟨ad4,fun x hx=>?_⟩
 grind [AE,AD]
theorem M6.turn{m:aT}(h:M6 m):M6 (EW m):=by
 exact aiV
theorem M6.indet{m:aT}(h:M6 m):M6 (gU m):=by
 exact aiV
theorem M6.first{l:List aT}(h:∀m∈l,M6 m):M6 (firstM l):=by
 unfold firstM;cases hf:l.find? fun m=>decide (m≠naM)with
 |none=>decide
 |some m=>grind
theorem M6.only:∀(l:List aT) (j:aT),(∀m∈l,M6 m)→M6 j→M6 (oN l j)
 | [],j,_,hj=>hj
 |m::r,j,h,hj=>by
  simp only[oN];split
  ·decide
  ·refine M6.only r _ ad5 ?_
   split
   ·grind
   ·split
    ·decide
    omega
theorem Hy{alg:Int}{l:List aT}(h:∀m∈l,M6 m):M6 (ig alg l):=by
 unfold ig;split
 ·exact Im _
 ·split
  ·exact M6.turn (Im _)
  ·split
   ·exact .first h
   ·split
    ·exact .only _ _ h ad9
    ·split
     ·split<;>decide
     ·split
      ·split<;>decide
      decide
theorem AN(r:cU)(t c:Nat):M6 (nE r t c).1:=by
 unfold nE;cases r.deny
 all_goals
  simp only[if_true,Bool.false_eq_true,if_false];split
  ·decide
  ·split
   ·decide
   ·first|(show M6 bg;decide)|(show M6 cJ;decide)
theorem O1(alg:Int)(obls:List cy)(t:Nat){parts:List jR}(h:∀x∈parts,M6 x.1):M6 (qb alg obls t parts).1:=by
 have hc:M6 (ig alg (parts.map (·.1))):=Hy fun m hm=>by
  grind
 unfold qb;simp only;split
 ·decide
 ·split
  ·exact hc.indet
  ·split
   ·exact hc
   ·exact hc
mutual
theorem xu(gs:List bt):∀p:bD,M6 (fH gs p).1
 |.mk id set alg tgt rules kids obls=>by
  have ih:=Dk gs kids;simp only[fH];split
  ·decide
  ·refine O1 alg obls _ fun x hx=>?_
   rcases List.mem_append.1 hx with hx|hx
   ·obtain⟨r,_,rfl⟩:=List.mem_map.1 hx
    exact AN _ _ _
   ·exact ih x hx
theorem Dk(gs:List bt):∀l:List bD,∀x∈mQ gs l,M6 x.1
 | [],x,hx=>by simp[mQ]at hx
 |k::r,x,hx=>by
  have h1:=xu gs k;have h2:=Dk gs r;simp only[mQ,List.mem_cons]at hx;rcases hx with rfl|hx
  ·exact h1
  ·exact h2 x hx
end
theorem Lo{gs:List bt}(h:Qo gs):rT gs:=⟨by have:=h.len;omega,fun g hg=>by have:=(h.each g hg).2.2.2.1;omega⟩
theorem HJ{α:Type}(B:Nat):∀(L:List (List α)),(∀x∈L,x.length≤B)→L.flatten.length≤L.length*B
 | [],_=>aec
 |x::L,h=>by
  have h1:=h x aec;have h2:=HJ B L fun y hy=>h y ad5
  rw[List.flatten_cons,adY,List.length_cons,Nat.add_mul];omega
theorem ue{alg:Int}{m:aT}{parts:List jR}{B:Nat}(hp:∀x∈parts,x.2.length≤B)(hn:parts.length≤32):(eU alg m parts).length≤32*B+B:=by
 unfold eU;split
 ·cases hf:parts.find? fun x=>x.1==m with
  |none=>simp
  |some x=>grind
 ·have h1:=HJ B (((parts.filter fun x=>x.1==m).map (·.2))) fun x hx=>by
   grind
  have h2:((parts.filter fun x=>x.1==m).map (·.2)).length≤32:=by
   grind
  have:=Nat.mul_le_mul_right B h2;omega
theorem kY(l:List cy)(m:aT):(eR l m).length≤l.length:=List.length_filter_le _ _
theorem AM(r:cU)(t c:Nat):(nE r t c).2.length≤r.obls.length:=by
 unfold nE
 all_goals
  grind [kY]
def oB:Nat→Nat
 |0=>8
 |n+1=>8+33*oB n
theorem VW(n:Nat):8≤oB n:=by
 cases n with
 |zero=>decide
 |succ n=>grind [oB]
theorem B6(gs:List bt):∀(n d:Nat) (p:bD),d+n=5→mA d p→(fH gs p).2.length≤oB n
 |0,d,.mk id set alg tgt rules kids obls,hd,h=>by grind [mA]
 |n+1,d,.mk id set alg tgt rules kids obls,hd,h=>by
  simp only[mA,qQ]at h;obtain⟨_,_,_,_,_,_,g2,g3,g4,g5,g6,g7⟩:=h;have hob:=(kT g3).1;have h8:=VW n;simp only[fH];split
  ·simp
  ·unfold qb
   simp only;split
   ·simp
   ·split
    ·simp
    ·split
     ·simp
     ·have h1:=ue (alg:=alg) (m:=ig alg ((rules.map (iD gs)++mQ gs kids).map (·.1))) (parts:=rules.map (iD gs)++mQ gs kids) (B:=oB n) (fun x hx=>by
       rcases List.mem_append.1 hx with hx|hx
       ·obtain⟨r,hr,rfl⟩:=List.mem_map.1 hx
        have:=AM r (mX gs r.tgt) (qE gs r.cond);have:=(kT (g6 r hr).2.2.2).1
        show(nE r (mX gs r.tgt) (qE gs r.cond)).2.length≤_
        omega
       ·rw[tH]at hx
        obtain⟨k,hk,rfl⟩:=List.mem_map.1 hx;exact B6 gs n (d+1) k ad4 (g7 k hk)) (by grind [adY,adU,tH])
      have h2:=kY obls (ig alg ((rules.map (iD gs)++mQ gs kids).map (·.1)))
      simp only[adY,oB];omega
theorem Dl(gs:List bt){p:bD}(h:mA 1 p):(fH gs p).2.length≤10000000:=Nat.le_trans (B6 gs 4 1 p rfl h) ad9
theorem KT{op:Int}{w:List Bool}(hw:iN op=some w):w.length=opsOf op∧1≤op∧op≤13:=by
 have h1:1≤op∧op≤13:=by
  grind [iN]
 refine⟨?_,h1⟩;rcases(show op=1∨op=2∨op=3∨op=4∨op=5∨op=6∨op=7∨op=8∨op=9∨op=10∨op=11∨op=12∨op=13 by omega)with rfl|rfl|rfl|rfl|rfl|rfl|rfl|rfl|rfl|rfl|rfl|rfl|rfl
 all_goals (simp[iN]at hw;subst hw;rfl)
theorem KE{bs bs' :List Bool}{n:aQ}(h:iM bs n=some bs'):(1≤n.op∧n.op≤13)∧opsOf n.op≤bs.length∧bs'.length=bs.length - opsOf n.op+1:=by
 unfold iM at h;cases hw:iN n.op with
 |none=>grind
 |some w=>
  grind [KT,adY,List.length_take,List.length_singleton]
theorem PZ{l:List aQ}{z bs:List Bool}{i:Nat}(hl:fU [] l=some z)(hi:i<l.length)(hb:fU [] (l.take i)=some bs):∃bs',iM bs l[i]=some bs'∧fU [] (l.take (i+1))=some bs' :=by
 have h1:=ku [] l i;rw[hl,hb,List.drop_eq_getElem_cons hi]at h1;simp only[fU]at h1;cases hs:iM bs l[i]with
 |none=>rw[hs]at h1;cases h1
 |some bs' =>
  rw[ku [] _ i,List.take_take,Nat.min_eq_left ad4,hb,List.take_succ_eq_append_getElem hi,List.drop_append_of_le_length ad5,List.drop_of_length_le ad5]
  grind [fU]
theorem MN{gs:List bt}(hf:rT gs)(n:aQ)(l:List jE):(lK gs n l).bag.length≤1000000:=by
 unfold lK Au jc
 repeat' split
 all_goals first|exact hf.bag _|simp
def VK(x:jE):AV:=.tup [aS x.v,.i x.e]
end Go.Bf
namespace Go.Proofs.YtbbadggejjgihaaGreatDoor
open Go Go.Ab Go.Bf
theorem L1(l:List aQ)(hn:l≠ [])(he:kI l=0)(gs:List bt)(hf:rT gs)(h:Heap):ai Tryz.prog 272 [fy l,bL gs] h fun r h' =>r=VK (wo gs l)∧h' =h:=by
 obtain⟨h32,hst⟩:=yj he hn;have hex:=fun G=>HG l G
 rw[he]at hex;simp only[fy]at hex;have dl:((l.length:Int)==0)=false:=aib;refine ad3 Tryz.func272 51 [.cell 4 32,.tmp 5] fun hwf=>?_
 simp only[go_sem,fy,bL];intro i4 h4;simp only[go_sem,adU,dl];refine(hex _).pthen ?_;simp only[go_sem,adU];obtain⟨H0,eH⟩:∃H0,upd h i4 (some (.obj [.i 0,.i 0,.s []] 32))=H0:=⟨_,rfl⟩;have hH0:Ab.Sub h H0:=by rw[←eH];exact .aj h4
 have g4:H0 i4=some (.obj [.i 0,.i 0,.s []] 32):=afz;rw[eH];clear eH;refine .intro (fun m ρ H=>∃(i:Nat) (y:AV) (st:List jE) (bs:List Bool),OwE 370 H0 H 5 y (st.map bP)∧Ab.Sub H0 H∧(l.take i).foldl (zD gs) []=st∧fU [] (l.take i)=some bs∧bs.length=st.length∧(∀x∈st,x.bag.length≤1000000)∧i≤l.length∧m=l.length - i∧lk ρ 1=some (.sl (gs.map lF) .no)∧lk ρ 4=some (.ptr i4 0)∧lk ρ 6=some y∧lk ρ 19=some (.sl (l.map cF) .no)∧lk ρ 20=some (.i l.length)∧lk ρ 21=some (.i i)) l.length ?_ ?_
 ·refine⟨0,_,[],[],.inl ⟨rfl,rfl⟩,.refl _,rfl,rfl,rfl,fun x hx=>ad5,ad4,rfl,?_,?_,?_,?_,?_,?_⟩<;>simp only[go_sem]
 ·rintro m ρ H ⟨i,y,st,bs,hw,hsH,hfo,hbs,hlen,hbag,hi,rfl,r1,r4,r6,r19,r20,r21⟩
  have hsl:bs.length≤i:=by have:=sk _ _ _ hbs;simpa[Nat.min_eq_left hi]using this
  simp only[go_sem,r20,r21];refine .intro (fun e=>?_) (fun e=>?_)
  ·have hlt:i<l.length:=ad1 e
   have w1:IntKind.i64.wrap ((i:Int)+1)=((i+1:Nat):Int):=aej;obtain⟨bs',hb1,hb2⟩:=PZ hst hlt hbs;have hfs:(l.take (i+1)).foldl (zD gs) []=zD gs st l[i]:=by grind [List.take_succ_eq_append_getElem]
   have ix:=fun k=>eE.eq (xs:=l.map cF) (sz:=7) i ad5 aef k
   rw[adV]at ix;obtain⟨n,en⟩:∃n,l[i]=n:=⟨_,rfl⟩;rw[en]at hb1 hfs ix;obtain⟨hop,hle,hln⟩:=KE hb1;rw[hlen]at hle;obtain⟨k,ek⟩:∃k,st.length - opsOf n.op=k:=⟨_,rfl⟩;have wk:IntKind.i64.wrap ((st.length:Int) - (opsOf n.op:Int))=(k:Int):=aej;have hstep:zD gs st n=st.take k++ [lK gs n (st.drop k)]:=by grind [zD]
   simp only[cF]at ix;simp only[go_sem,r19,r21,ix];intro i8 h8;obtain⟨H8,eH⟩:∃H8,upd H i8 (some (.obj [.i n.op,.i n.val.kind,.i n.val.n,.s n.val.s,.i n.attr.cat,.s n.attr.name,.b n.attr.must] 172))=H8:=⟨_,rfl⟩;have hs8:Ab.Sub H H8:=by rw[←eH];exact .aj h8
   have k8:H8 i8=some (.obj [.i n.op,.i n.val.kind,.i n.val.n,.s n.val.s,.i n.attr.cat,.s n.attr.name,.b n.attr.must] 172):=afz;have hw8:=hw.sub hs8;simp only[go_sem,r6,hw8.rd.len,adU];refine(FH n.op _).pthen ?_;rw[eH];clear eH;simp only[go_sem,wk];refine .calls (hm1 i8 (.obj [.i n.op,.i n.val.kind,.i n.val.n,.s n.val.s,.i n.attr.cat,.s n.attr.name,.b n.attr.must] 172)) [0,1,2,3,4,5,6,7,8,9,10,11] (.hm1 k8) ad7 rfl ?_;simp only[go_sem,r6];refine hw8.cut (U:=U) (x:=.i64) k aek rfl ad5 aek ad9 fun z hz hzy=>?_
   simp only[go_sem,r6,gr];refine hw8.from (U:=U) (x:=.i64) k aek rfl ad5 aek ad9 fun z2 hz2=>?_
   rw[←List.map_drop]at hz2;rw[←List.map_take]at hz;have hnd:=Pp n hop (st.drop k) hz2 ad5 (fun x hx=>hbag x (List.mem_of_mem_drop hx)) gs hf
   have hnb:=MN hf n (st.drop k);obtain⟨x,ex⟩:∃x,lK gs n (st.drop k)=x:=⟨_,rfl⟩;rw[ex]at hnd hnb hstep;simp only[cF,bL,bP]at hnd;simp only[go_sem,r1];refine hnd.pthen ?_;refine⟨.hm1 k8,?_⟩;simp only[go_sem];have hone:Rd H8 5 (.sl [bP x] .full) [bP x]:=.sl (fun z hz=>ag3) .full
   simp only[bP]at hone;refine OwE.app (U:=U) (tb:=370) hz (hsH.trans hs8) hone aek ad9 ad9 aek aec aeo fun id y' H' hid hor how hoth=>?_
   have n8:i8≠id:=by
    intro e8;rcases hor with ho|⟨lz,cz,ez⟩
    ·grind
    ·exact mg (hz.nid (id:=id) (by rw[ez];rfl)).2.2 k8 ad9 e8.symm
   have hsub' :Ab.Sub H0 H' :=fun j b hj=>by rw[hoth j (fun e=>ad5)];exact(hsH.trans hs8) _ _ hj
   refine⟨.hm1 ad5,?_⟩;simp only[go_sem,r21,w1];refine⟨_,?_,i+1,y',zD gs st n,bs',.inr ⟨id,hid,by rw[hstep,List.map_append];exact how⟩,hsub',hfs,hb2,ad5,fun w hw=>?_,ad4,rfl,?_,?_,?_,?_,?_,?_⟩
   ·omega
   ·grind
   all_goals simp only[go_sem,r1,r4,r19,r20]
  ·have hge:i=l.length:=by grind
   subst hge;rw[List.take_length]at hbs hfo;rw[hst]at hbs;cases hbs;obtain⟨x,rfl⟩:=List.length_eq_one_iff.1 hlen.symm;have hit:wo gs l=x:=by simp_all [wo,if_neg]
   obtain⟨id,hid,how⟩:=hw.ow aec;have hwp:Rd (pick H [id]) 5 y [bP x]:=(how.same (bE (List.mem_singleton.2 rfl))).rd;have n4:i4≠id:=fun e=>ad5
   have k4:=hsH _ _ g4;simp only[go_sem];refine .calls (pick H [id]) [0,1,2,3,4,5,6,7,8,9] bS ad7 rfl ?_;simp only[go_sem,r6];refine hwp.idx (U:=U) (e:=370) 0 rfl aec aek ad9 fun p hp1=>?_
   simp only[go_sem];refine hp1.field (f:=1) (off:=1) (t:=32) rfl ad9 fun p2 hp2=>?_
   have hld:=hp2.part (U:=U) (ty:=32) ad9 agA;simp only[List.getElem_cons_zero,bP,AV.cells]at hld;simp only[go_sem,r6,hld];refine hwp.idx (U:=U) (e:=370) 0 rfl aec aek ad9 fun p3 hp3=>?_
   simp only[go_sem];refine hp3.field (f:=2) (off:=4) (t:=55) rfl ad9 fun p4 hp4=>?_
   have hld4:=hp4.part (U:=U) (ty:=55) ad9 agA;simp only[List.getElem_cons_zero,bP,AV.cells]at hld4;simp only[go_sem,r4,hld4,k4];refine⟨bS.put (by grind [pick]) _,?_⟩
   exact .mk _ (.refl _) ((hH0.trans hsH).put h4 _) ⟨by rw[hit];rfl,rfl⟩
theorem OE(l:List aQ)(he:kI l=0)(gs:List bt)(hf:rT gs)(h:Heap):ai Tryz.prog 247 [fy l,bL gs] h fun r h' =>r= .i (qE gs l:Nat)∧h' =h:=by
 by_cases hn:l= []
 ·subst hn
  refine ad3 Tryz.func247 26 [.tmp 4] fun hwf=>?_
  simp only[go_sem,fy,bL,List.map_nil,List.length_nil];exact aee
 have hv:=fun G=>L1 l hn he gs hf G
 have hcd:qE gs l=if isI (wo gs l) 1 then 2 else if isI (wo gs l) 0 then 0 else 1:=by
  simp_all [qE,if_neg]
 obtain⟨x,ex⟩:∃x,wo gs l=x:=⟨_,rfl⟩;rw[ex]at hv hcd;simp only[fy,bL,VK,aS]at hv;have hi1:∀(m:Int) G,ai Tryz.prog 273 [.agg [.sl [] .full,.i x.v.kind,.i x.v.n,.s x.v.s,.i x.e],.i m] G fun r h' =>r= .b (isI x m)∧h' =G:=fun m G=>OZ x m G
 have dl:((l.length:Int)==0)=false:=aib;refine ad3 Tryz.func247 26 [.tmp 4] fun hwf=>?_
 simp only[go_sem,fy,bL,adU,dl];refine(hv _).pthen ?_;simp only[go_sem];intro i5 h5;simp only[go_sem];intro i7 h7;have n7:=aC h7;have hs:∀x y,Ab.Sub h (upd (upd h i5 x) i7 y):=fun x y=>((Sub.refl h).put h5 x).put n7 y
 simp only[go_sem];refine(hi1 1 _).pthen ?_;cases d1:isI x 1
 case true=>
  rw[d1]at hcd;simp only[go_sem];exact .mk _ (.refl _) (hs _ _) ⟨by rw[hcd];rfl,rfl⟩
 simp only[go_sem];refine(hi1 0 _).pthen ?_;cases d0:isI x 0
 all_goals
  rw[d1,d0]at hcd;simp only[go_sem];exact .mk _ (.refl _) (hs _ _) ⟨by rw[hcd];rfl,rfl⟩
end Go.Proofs.YtbbadggejjgihaaGreatDoor
namespace Go.Bf
open Go Go.Ab Go.Proofs.YtbbadggejjgihaaGreatDoor
def j3(l:List aT)(p:Perm):AV:=.sl (l.map aO) p
theorem M9.na:M9 naM:=ad9
theorem Ch(l:List aT)(i:Nat)(h:i<l.length):(l.take (i+1)).foldl oH naM=oH ((l.take i).foldl oH naM) l[i]:=by
 grind [List.take_succ_eq_append_getElem]
theorem Jq{l:List aT}{q:aT→Bool}(hq:∀m,q m=decide (m≠naM))(h:l.findIdx q<l.length):firstM l=l[l.findIdx q]:=by
 unfold firstM;have e:q=fun m=>decide (m≠naM):=funext hq
 subst e;rw[show l.find? (fun m=>decide (m≠naM))=some l[l.findIdx fun m=>decide (m≠naM)]from List.find?_eq_some_iff_getElem.2 ⟨List.findIdx_getElem (w:=h),_,h,rfl,fun j hj=>ad5⟩]
 rfl
theorem Jr{l:List aT}{q:aT→Bool}(hq:∀m,q m=decide (m≠naM))(h:¬l.findIdx q<l.length):firstM l=naM:=by
 unfold firstM;rw[List.find?_eq_none.2 fun x hx=>ad5]
 rfl
def wN(j m:aT):aT:=if j=naM then m else if m≠naM then mT else j
theorem MT{l:List aT}{i:Nat}(h:i<l.length)(j:aT):oN (l.drop i) j=if zF l[i]=false then mT else oN (l.drop (i+1)) (wN j l[i]):=by
 rw[List.drop_eq_getElem_cons h];rfl
end Go.Bf
namespace Go.Proofs.YtbbadggejjgihaaGreatDoor
open Go Go.Ab Go.Bf
theorem Wq:(U 36).sz=1:=aek
theorem JT(ms:List aT)(hl:ms.length≤1000000000)(q:aT→Bool)(g:FuncId)(cap:List AV)(p:Perm)(h:Heap)(hp:∀m∈ms,ai Tryz.prog g (aO m::cap) h fun r h' =>r= .b (q m)∧h' =h):
  ai Tryz.prog 298 [j3 ms p,.fn g cap] h fun r h' =>r= .i (ixD q ms)∧h' =h:=by
 refine ad3 Tryz.func298 19 [.tmp 4] fun hwf=>?_
 simp only[go_sem,j3,adU];refine .intro (fun m ρ h' =>h' =h∧∃i:Nat,i≤ms.length∧m=ms.length - i∧(∀j (hj:j<i) (h2:j<ms.length),q ms[j]=false)∧lk ρ 0=some (.sl (ms.map aO) p)∧lk ρ 1=some (.fn g cap)∧lk ρ 7=some (.i ms.length)∧lk ρ 8=some (.i i)) ms.length ?_ ?_
 ·refine⟨rfl,0,ad4,rfl,fun j hj=>ad4,?_,?_,?_,?_⟩<;>simp only[go_sem]
 ·rintro m ρ h' ⟨rfl,i,hi,rfl,hc,r0,r1,r7,r8⟩
  simp only[go_sem,r7,r8];refine .intro (fun e=>?_) (fun e=>?_)
  ·have hlt:i<ms.length:=ad1 e
   have w1:IntKind.i64.wrap ((i:Int)+1)=((i+1:Nat):Int):=aej;have ix:=fun k=>eE.eq (xs:=ms.map aO) (sz:=1) i ad5 aef k
   rw[adV]at ix;have hg:=hp ms[i] (adZ hlt);have hci:=fun(d:q ms[i]=false)=>(fun j (hj:j<i+1) (h2:j<ms.length)=>(by
    grind:q ms[j]=false))
   have hat:=fun(d:q ms[i]=true)=>nZ hlt d fun j hj=>hc j hj ad4
   obtain⟨m,em⟩:∃m,ms[i]=m:=⟨_,rfl⟩;rw[em]at ix hg hci hat;simp only[aO]at ix;simp only[go_sem,r0,r1,r8,ix];refine(show ai Tryz.prog g (.v (.complex .f64 (hbit m.1) (hbit m.2))::cap) _ _ from hg).pthen ?_
   cases d1:q m
   ·simp only[go_sem,r8,w1]
    refine⟨_,?_,rfl,i+1,ad4,rfl,hci d1,?_,?_,?_,?_⟩
    ·omega
    all_goals simp only[go_sem,r0,r1,r7]
   ·simp only[go_sem]
    exact .same (.refl _) ⟨aia,rfl⟩
  ·have hge:i=ms.length:=by grind
   simp only[go_sem];exact .same (.refl _) ⟨aeA,rfl⟩
theorem F8(ms:List aT)(hl:ms.length≤1000000000)(hmm:∀m∈ms,M9 m)(x:aT)(hx:M9 x)(p:Perm)(h:Heap):
  ai Tryz.prog 311 [j3 ms p,aO x] h fun r h' =>r= .i (ixD (fun y=>x==y) ms)∧h' =h:=by
 refine ad3 Tryz.func311 19 [.tmp 4] fun hwf=>?_
 simp only[go_sem,j3,adU];refine .intro (fun m ρ h' =>h' =h∧∃i:Nat,i≤ms.length∧m=ms.length - i∧(∀j (hj:j<i) (h2:j<ms.length),(x==ms[j])=false)∧lk ρ 0=some (.sl (ms.map aO) p)∧lk ρ 1=some (aO x)∧lk ρ 7=some (.i ms.length)∧lk ρ 8=some (.i i)) ms.length ?_ ?_
 ·refine⟨rfl,0,ad4,rfl,fun j hj=>ad4,?_,?_,?_,?_⟩<;>simp only[go_sem]
 ·rintro m ρ h' ⟨rfl,i,hi,rfl,hc,r0,r1,r7,r8⟩
  simp only[go_sem,r7,r8];refine .intro (fun e=>?_) (fun e=>?_)
  ·have hlt:i<ms.length:=ad1 e
   have w1:IntKind.i64.wrap ((i:Int)+1)=((i+1:Nat):Int):=aej;have ix:=fun k=>eE.eq (xs:=ms.map aO) (sz:=1) i ad5 aef k
   rw[adV]at ix;have hm9:=hmm ms[i] (adZ hlt);have hci:=fun(d:(x==ms[i])=false)=>(fun j (hj:j<i+1) (h2:j<ms.length)=>(by
    grind:(x==ms[j])=false))
   have hat:=fun(d:(x==ms[i])=true)=>nZ (q:=fun y=>x==y) hlt d fun j hj=>hc j hj ad4
   obtain⟨m,em⟩:∃m,ms[i]=m:=⟨_,rfl⟩;rw[em]at ix hm9 hci hat;simp only[aO]at ix r1;have ne:=yX hx hm9;cases d1:(x==m)
   ·simp only[go_sem,r0,r1,r8,ix,ne,d1,w1]
    refine⟨_,?_,rfl,i+1,ad4,rfl,hci d1,?_,?_,?_,?_⟩
    ·omega
    all_goals simp only[go_sem,r0,r1,r7,aO]
   ·simp only[go_sem,r0,r1,r8,ix,ne,d1]
    exact .same (.refl _) ⟨aia,rfl⟩
  ·have hge:i=ms.length:=by grind
   simp only[go_sem];exact .same (.refl _) ⟨aeA,rfl⟩
theorem F0(ms:List aT)(hl:ms.length≤1000000000)(hmm:∀m∈ms,M9 m)(x:aT)(hx:M9 x)(p:Perm)(h:Heap):
  ai Tryz.prog 302 [j3 ms p,aO x] h fun r h' =>r= .b (decide (x∈ms))∧h' =h:=by
 refine ad3 Tryz.func302 9 [.tmp 4] fun hwf=>?_
 simp only[go_sem];refine(F8 ms hl hmm x hx p _).pthen ?_;simp only[go_sem];exact .same (.refl _) ⟨by rw[uK,show(ms.any fun y=>x==y)=decide (x∈ms) by grind];rfl,rfl⟩
theorem Fi(m:aT)(hmm:M9 m)(h:Heap):ai Tryz.prog 299 [aO m] h fun r h' =>r= .b (!(m==naM))∧h' =h:=by
 have n:=(nb hmm).nna;refine ad3 Tryz.func299 5 [.tmp 2] fun hwf=>?_
 simp only[go_sem,aO,n];exact aee
theorem P6(m:aT)(hmm:M9 m)(h:Heap):ai Tryz.prog 300 [aO m] h fun r h' =>r= .b (zF m)∧h' =h:=by
 obtain⟨n1,n2,n3,_⟩:=nb hmm;refine ad3 Tryz.func300 13 [.tmp 2] fun hwf=>?_
 have es:zF m=(m==naM||(m==bg||m==cJ)):=by
  unfold zF
  grind
 rw[es];cases d1:(m==naM)<;>cases d2:(m==bg)<;>cases d3:(m==cJ)
 all_goals
  simp only[go_sem,aO,n1,n2,n3,d1,d2,d3];exact aee
theorem L6(ms:List aT)(hl:ms.length≤1000000000)(hmm:∀m∈ms,M9 m)(p:Perm)(h:Heap):ai Tryz.prog 278 [j3 ms p] h fun r h' =>r=aO (firstM ms)∧h' =h:=by
 refine ad3 Tryz.func278 12 [.tmp 2] fun hwf=>?_
 simp only[go_sem,j3];refine(JT ms hl (fun m=> !(m==naM)) _ [] p _ fun m h=>Fi m (hmm m h) _).pthen ?_
 have hq:∀m:aT,(!(m==naM))=decide (m≠naM):=fun m=>ad5
 by_cases hx:ms.findIdx (fun m=> !(m==naM))<ms.length
 ·obtain⟨i,ei⟩:∃i,ms.findIdx (fun m=> !(m==naM))=i:=⟨_,rfl⟩
  have ef:=Jq hq hx;have e1:ixD (fun m=> !(m==naM)) ms=(i:Nat):=by rw[ixD,ei];omega
  simp only[ei]at ef;have d1:decide ((0:Int)≤((i:Nat):Int))=true:=decide_eq_true ad4;have ix:=fun k=>eE.eq (xs:=ms.map aO) (sz:=1) i ad5 aef k
  rw[adV,←ef]at ix;rw[e1];simp only[go_sem,d1,ix];exact aee
 ·have e1:ixD (fun m=> !(m==naM)) ms= -1:=by simp_all [ixD,if_neg]
  have d1:decide ((0:Int)≤ -1)=false:=rfl;rw[e1];simp only[go_sem,d1];exact .same (.refl _) ⟨by rw[Jr hq hx];rfl,rfl⟩
theorem NF(j m:aT)(hj:M9 j)(hmm:M9 m)(h:Heap):ai Tryz.prog 301 [.i 4,aO j,aO m] h fun r h' =>r=aO (wN j m)∧h' =h:=by
 have n1:=(nb hj).na;have n2:=(nb hmm).nna;refine ad3 Tryz.func301 31 [.tmp 6] fun hwf=>?_
 cases d1:(j==naM)
 case true=>
  simp only[go_sem,aO,n1,d1];exact .same (.refl _) ⟨by rw[wN,if_pos ad5];rfl,rfl⟩
 cases d2:(m==naM)
 ·simp only[go_sem,aO,n1,n2,d1,d2]
  exact .same (.refl _) ⟨by rw[wN,if_neg ad5,if_pos ad5];rfl,rfl⟩
 ·simp only[go_sem,aO,n1,n2,d1,d2]
  exact .same (.refl _) ⟨by rw[wN,if_neg ad5,if_neg ad5];rfl,rfl⟩
theorem M9.step{j m:aT}(hj:M9 j)(hmm:M9 m):M9 (wN j m):=by
 unfold wN
 repeat' split
 ·omega
 ·decide
 omega
theorem Px(ms:List aT)(hl:ms.length≤1000000000)(hmm:∀m∈ms,M9 m)(p:Perm)(h:Heap):ai Tryz.prog 279 [j3 ms p] h fun r h' =>r=aO (oN ms naM)∧h' =h:=by
 refine ad3 Tryz.func279 20 [.tmp 2] fun hwf=>?_
 simp only[go_sem,j3,adU];refine .intro (fun m ρ h' =>h' =h∧∃(i:Nat) (j:aT),i≤ms.length∧m=ms.length - i∧M9 j∧oN (ms.drop i) j=oN ms naM∧lk ρ 3=some (aO j)∧lk ρ 6=some (.sl (ms.map aO) p)∧lk ρ 7=some (.i ms.length)∧lk ρ 8=some (.i i)) ms.length ?_ ?_
 ·refine⟨rfl,0,naM,ad4,rfl,.na,rfl,?_,?_,?_,?_⟩<;>simp only[go_sem,aO,naM,hbit]
 ·rintro m ρ h' ⟨rfl,i,j,hi,rfl,hj,ho,r3,r6,r7,r8⟩
  simp only[go_sem,r7,r8];refine .intro (fun e=>?_) (fun e=>?_)
  ·have hlt:i<ms.length:=ad1 e
   have w1:IntKind.i64.wrap ((i:Int)+1)=((i+1:Nat):Int):=aej;have ix:=fun k=>eE.eq (xs:=ms.map aO) (sz:=1) i ad5 aef k
   rw[adV]at ix;have hm9:=hmm ms[i] (adZ hlt);rw[MT hlt]at ho;obtain⟨m,em⟩:∃m,ms[i]=m:=⟨_,rfl⟩;rw[em]at ix hm9 ho;have hsu:=fun G=>P6 m hm9 G
   have hst:=fun G=>NF j m hj hm9 G
   simp only[aO]at ix hsu hst r3;simp only[go_sem,r6,r8,ix];refine(hsu _).pthen ?_;cases d1:zF m
   ·rw[if_pos d1]at ho
    simp only[go_sem];exact .same (.refl _) ⟨by rw[←ho];rfl,rfl⟩
   ·rw[if_neg ad5]at ho
    simp only[go_sem,r3];refine(hst _).pthen ?_;simp only[go_sem,r8,w1];refine⟨_,?_,rfl,i+1,wN j m,ad4,rfl,M9.step hj hm9,ho,?_,?_,?_,?_⟩
    ·omega
    all_goals simp only[go_sem,r6,r7,aO]
  ·have hge:i=ms.length:=by grind
   subst hge;rw[List.drop_length]at ho;simp only[go_sem,r3];exact .same (.refl _) ⟨by rw[←ho];rfl,rfl⟩
theorem BD(ms:List aT)(hl:ms.length≤1000000000)(hmm:∀m∈ms,M9 m)(a b:aT)(hb:M9 b)(p:Perm)(h:Heap):ai Tryz.prog 280 [j3 ms p,aO a,aO b] h fun r h' =>r=aO (if b∈ms then b else a)∧h' =h:=by
 refine ad3 Tryz.func280 12 [.tmp 6] fun hwf=>?_
 simp only[go_sem];refine(F0 ms hl hmm b hb p _).pthen ?_
 by_cases d:b∈ms
 ·simp only[go_sem,decide_eq_true d,if_pos d]
  exact aee
 ·simp only[go_sem,decide_eq_false d,if_neg d]
  exact aee
theorem RI(alg:Int)(ha:1≤alg∧alg≤6)(ms:List aT)(hl:ms.length≤1000000000)(hmm:∀m∈ms,M6 m)(p:Perm)(h:Heap):ai Tryz.prog 248 [.i alg,j3 ms p] h fun r h' =>r= .tup [aO (ig alg ms),.i 0]∧h' =h:=by
 have hm9:=fun m h=>(hmm m h).m9
 refine ad3 Tryz.func248 49 [.tmp 4,.tmp 5] fun hwf=>?_
 simp only[go_sem,j3,adU];refine .intro (fun m ρ h' =>h' =h∧∃i:Nat,i≤ms.length∧m=ms.length - i∧M9 ((ms.take i).foldl oH naM)∧lk ρ 0=some (.i alg)∧lk ρ 1=some (.sl (ms.map aO) p)∧lk ρ 6=some (aO ((ms.take i).foldl oH naM))∧lk ρ 9=some (.sl (ms.map aO) p)∧lk ρ 10=some (.i ms.length)∧lk ρ 11=some (.i i)) ms.length ?_ ?_
 ·refine⟨rfl,0,ad4,rfl,.na,?_,?_,?_,?_,?_,?_⟩<;>simp only[go_sem,aO,naM,hbit,List.take_zero,List.foldl_nil]
 ·rintro m ρ h' ⟨rfl,i,hi,rfl,hj,r0,r1,r6,r9,r10,r11⟩
  obtain⟨j,ej⟩:∃j,(ms.take i).foldl oH naM=j:=⟨_,rfl⟩;rw[ej]at hj r6;simp only[go_sem,r10,r11];refine .intro (fun e=>?_) (fun e=>?_)
  ·have hlt:i<ms.length:=ad1 e
   have w1:IntKind.i64.wrap ((i:Int)+1)=((i+1:Nat):Int):=aej;have ix:=fun k=>eE.eq (xs:=ms.map aO) (sz:=1) i ad5 aef k
   rw[adV]at ix;have hm6:=hmm ms[i] (adZ hlt);have hsn:=Ch ms i hlt;rw[ej]at hsn;obtain⟨m,em⟩:∃m,ms[i]=m:=⟨_,rfl⟩;rw[em]at ix hm6 hsn;have hri:=fun G=>Cm m hm6 G
   have hjo:=fun G=>O3 j m hj hm6.m9 G
   simp only[aO]at ix hri hjo r6;simp only[go_sem,r9,r11,ix];refine(hri _).pthen ?_;simp only[go_sem,r6];refine(hjo _).pthen ?_;simp only[go_sem,r11,w1];refine⟨_,?_,rfl,i+1,ad4,rfl,by grind [M9.join],?_,?_,?_,?_,?_,?_⟩
   ·omega
   all_goals simp only[go_sem,r0,r1,r9,r10,aO,hsn]
  ·have hge:i=ms.length:=by grind
   subst hge;rw[List.take_length]at ej;have ej' :xy ms=j:=ej;have hov:=fun G=>Io j hj G
   have htu:=fun(x:aT) (G:Heap)=>P9 x G
   have hov2:=fun G=>Io (EW j) ⟨hj.2,hj.1⟩ G
   have h1:=L6 ms hl hm9 p;have h2:=Px ms hl hm9 p;have h3:=BD ms hl hm9 cJ bg ad9 p;have h4:=BD ms hl hm9 bg cJ ad9 p;simp only[j3]at h1 h2 h3 h4;rcases(show alg=1∨alg=2∨alg=3∨alg=4∨alg=5∨alg=6 by omega)with rfl|rfl|rfl|rfl|rfl|rfl
   ·simp only[go_sem,r0,r6]
    refine(hov _).pthen ?_;simp only[go_sem];exact .same (.refl _) ⟨by simp only[ig,ej',if_true];rfl,rfl⟩
   ·simp only[go_sem,r0,r6]
    refine(htu _ _).pthen ?_;simp only[go_sem];refine(hov2 _).pthen ?_;simp only[go_sem];refine(htu _ _).pthen ?_;simp only[go_sem];exact .same (.refl _) ⟨by simp only[ig,ej'];rfl,rfl⟩
   ·simp only[go_sem,r0,r1]
    refine(h1 _).pthen ?_;exact aiz
   ·simp only[go_sem,r0,r1]
    refine(h2 _).pthen ?_;exact aiz
   ·simp only[go_sem,r0,r1]
    refine(h3 _).pthen ?_;exact aj5
   ·simp only[go_sem,r0,r1]
    refine(h4 _).pthen ?_;exact aj5
end Go.Proofs.YtbbadggejjgihaaGreatDoor
namespace Go.Bf
open Go Go.Ab Go.Proofs.YtbbadggejjgihaaGreatDoor
def rsA(r:jR):AV:=.agg [aO r.1,ay r.2]
theorem Jf(l:List cy)(m:aT)(i:Nat)(h:i<l.length):eR (l.take (i+1)) m=eR (l.take i) m++(if(l[i].on==1 && m==bg||l[i].on==2 && m==cJ)=true then [l[i]]else []):=by
 grind [eR,List.take_succ_eq_append_getElem]
theorem rj(l:List cy)(m:aT){L:List AV}(hL:L=l.map aY)(q:Perm):Weak (.agg [aO m,.sl L q]) (rsA (m,l)):=by
 subst hL;refine .agg _ _ rfl fun i a b=>?_
 rcases i with _|_|i
 ·exact afq
 ·exact agO
 grind
theorem zg(alg:Int)(m:aT)(l:List jR)(i:Nat)(h:i<l.length)(h3:alg≠3):eU alg m (l.take (i+1))=eU alg m (l.take i)++(if(l[i].1==m)=true then l[i].2 else []):=by
 unfold eU;rw[if_neg h3,if_neg h3,List.take_succ_eq_append_getElem h,List.filter_append,List.map_append,List.flatten_append]
 grind
theorem zf{m:aT}{l:List jR}(h:∀x∈l,(x.1==m)=false):eU 3 m l= []:=by
 unfold eU;rw[if_pos rfl,List.find?_eq_none.2 fun x hx=>ad5]
 rfl
theorem wI{m:aT}{l:List jR}(i:Nat)(h:i<l.length)(h1:(l[i].1==m)=true)(h2:∀j (hj:j<i),((l[j]'ad4).1==m)=false):eU 3 m l=l[i].2:=by
 unfold eU;rw[if_pos rfl,show(l.find? fun x=>x.1==m)=some l[i]from List.find?_eq_some_iff_getElem.2 ⟨h1,i,h,rfl,fun j hj=>ad5⟩]
 rfl
end Go.Bf
namespace Go.Proofs.YtbbadggejjgihaaGreatDoor
open Go Go.Ab Go.Bf
theorem Wr:(U 91).sz=3:=aek
theorem Ws:(U 118).sz=2:=aek
theorem rG(l:List cy)(hl:l.length≤1000000)(m:aT)(hpd:m=bg∨m=cJ)(h:Heap):ai Tryz.prog 250 [ay l,aO m] h fun r h' =>r=ay (eR l m)∧h' =h:=by
 have h9:M9 m:=by rcases hpd with rfl|rfl<;>decide
 have pe:=(nb h9).pe;have de:=(nb h9).de;have uO:=Wr;obtain⟨b,b1,b2⟩:∃b,(m==bg)=b∧(m==cJ)= !b:=by
  rcases hpd with rfl|rfl
  ·exact⟨true,ad9,ad9⟩
  ·exact⟨false,ad9,ad9⟩
 refine ad3 Tryz.func250 36 [.tmp 4] fun hwf=>?_
 simp only[go_sem,ay,aO,adU];refine .intro (fun q ρ H=>∃(i:Nat) (y:AV),Acc U 91 h H y ((eR (l.take i) m).map aY)∧i≤l.length∧q=l.length - i∧lk ρ 1=some (.v (.complex .f64 (hbit m.1) (hbit m.2)))∧lk ρ 5=some y∧lk ρ 8=some (.sl (l.map aY) .no)∧lk ρ 9=some (.i l.length)∧lk ρ 10=some (.i i)) l.length ?_ ?_
 ·refine⟨0,.sl [] .full,by simpa[eR]using Acc.full (.refl _),ad4,rfl,?_,?_,?_,?_,?_⟩<;>simp only[go_sem]
 ·rintro q ρ H ⟨i,y,hy,hi,rfl,r1,r5,r8,r9,r10⟩
  obtain⟨qy,eqy⟩:=hy.row;subst eqy;simp only[go_sem,r9,r10];refine .intro (fun e=>?_) (fun e=>?_)
  ·have hlt:i<l.length:=ad1 e
   have w1:=ad0 i ad4;have hsn:=Jf l m i hlt;have ix:=fun k=>eE.eq (xs:=l.map aY) (sz:=3) i aeq aef k
   rw[adV]at ix;obtain⟨o,eo⟩:∃o,l[i]=o:=⟨_,rfl⟩;rw[eo]at ix hsn;simp only[aY]at ix;simp only[go_sem,r8,r10,ix];intro i7 h7;cases b
   ·cases a3:(o.on==2)
    ·cases a1:(o.on==1)
     ·simp only[go_sem,r10,a1,a3,w1]
      exact aiD
     ·simp only[go_sem,r1,r10,a1,a3,b1,pe,w1]
      exact aiD
    ·cases a1:(o.on==1)
     ·simp only[go_sem,r1,r5,a1,a3,b2,de]
      exact ait
     ·simp only[go_sem,r1,r5,a1,a3,b1,b2,pe,de]
      exact ait
   ·cases a1:(o.on==1)
    ·cases a3:(o.on==2)
     ·simp only[go_sem,r10,a1,a3,w1]
      exact aiD
     ·simp only[go_sem,r1,r10,a1,a3,b2,de,w1]
      exact aiD
    ·cases a3:(o.on==2)
     ·simp only[go_sem,r1,r5,a1,b1,pe]
      exact ait
     ·simp only[go_sem,r1,r5,a1,b1,pe]
      exact ait
  ·have hge:i=l.length:=by have:=adX e;omega
   subst hge;rw[List.take_length]at hy;simp only[go_sem,r5];exact .mk (ay (eR l m)) (by rw[List.take_length];exact .sl _ _) hy.1 ⟨rfl,rfl⟩
theorem tri{t:Nat}(h:t≤2):t=0∨t=1∨t=2:=ad4
theorem Jg(r:cU)(hr:r.obls.length≤1000000)(t c:Nat)(ht:t≤2)(hc:c≤2)(h:Heap):ai Tryz.prog 246 [aB r,.i t,.i c] h fun x h' =>x=rsA (nE r t c)∧h' =h:=by
 obtain⟨id,deny,tgt,cond,obls⟩:=r;simp only at hr;have hdp:=fun G=>rG obls hr bg (.inl rfl) G
 have hdd:=fun G=>rG obls hr cJ (.inr rfl) G
 have hip:=fun G=>yE bg ad9 G
 have hid:=fun G=>yE cJ ad9 G
 simp only[aO,bg,cJ,hbit,ay]at hdp hdd hip hid;refine ad3 Tryz.func246 38 [.cell 6 118] fun hwf=>?_
 simp only[go_sem,aB];intro i3 h3;simp only[go_sem];intro i6 h6;have n63:=aH h6;have n6:=aC h6;have hs:∀x y,Ab.Sub h (upd (upd h i3 x) i6 y):=fun x y=>((Sub.refl h).put h3 x).put n6 y
 have hs2:∀x y z,Ab.Sub h (upd (upd (upd h i3 x) i6 y) i6 z):=fun x y z=>(hs x y).put n6 z
 cases deny
 ·rcases tri ht with rfl|rfl|rfl
  ·exact ai6
  ·exact ajo
  ·rcases tri hc with rfl|rfl|rfl
   ·exact ai6
   ·exact ajo
   ·simp only[go_sem,ak,n63.symm,ay]
    refine(hdp _).pthen ?_;simp only[go_sem];exact .mk (rsA (bg,eR obls bg)) (rj _ bg rfl _) (hs _ _) ⟨rfl,rfl⟩
 ·rcases tri ht with rfl|rfl|rfl
  ·exact ai6
  ·exact ajp
  ·rcases tri hc with rfl|rfl|rfl
   ·exact ai6
   ·exact ajp
   ·simp only[go_sem,ak,n63.symm,ay]
    refine(hdd _).pthen ?_;simp only[go_sem];exact .mk (rsA (cJ,eR obls cJ)) (rj _ cJ rfl _) (hs _ _) ⟨rfl,rfl⟩
theorem MI(gs:List bt)(t:fY):mX gs t≤2:=(tJ (zW gs) t 2).1
theorem LL(gs:List bt)(l:List aQ):qE gs l≤2:=by
 grind [qE]
theorem Jh(r:cU)(hr:EB r)(gs:List bt)(hf:rT gs)(h:Heap):ai Tryz.prog 208 [aB r,bL gs] h fun x h' =>x=rsA (iD gs r)∧h' =h:=by
 have hob:=(kT hr.2.2.2).1;have hmt:=fun G=>MJ r.tgt (Cz hr.2.1) gs hf G
 have hcd:=fun G=>OE r.cond hr.2.2.1 gs hf G
 have hef:=fun G=>Jg r ad4 (mX gs r.tgt) (qE gs r.cond) (MI _ _) (LL _ _) G
 simp only[aB,bL]at hmt hcd hef;refine ad3 Tryz.func208 15 [.cell 4 118] fun hwf=>?_
 simp only[go_sem,aB,bL];intro i2 h2;simp only[go_sem];intro i4 h4;have n42:=aH h4;have n4:=aC h4;obtain⟨H,eH⟩:∃H,upd (upd h i2 (some (.obj [.s r.id,.b r.deny,aW r.tgt,fy r.cond,ay r.obls] 167))) i4 (some (.obj [.v (.complex .f64 0 0),.sl [] .full] 118))=H:=⟨_,rfl⟩;have hH:Ab.Sub h H:=by rw[←eH];exact((Sub.refl h).put h2 _).put n4 _
 have g2:H i2=some (.obj [.s r.id,.b r.deny,aW r.tgt,fy r.cond,ay r.obls] 167):=ahP;have g4:H i4=some (.obj [.v (.complex .f64 0 0),.sl [] .full] 118):=afz;simp only[go_sem];rw[eH];clear eH;refine .calls (hm1 i2 (.obj [.s r.id,.b r.deny,aW r.tgt,fy r.cond,ay r.obls] 167)) [0,1,2,3,5,6,7,4,8,9,10] (.hm1 g2) ad7 rfl ?_;simp only[go_sem,gr];refine(hmt _).pthen ?_;refine⟨.hm1 g2,?_⟩;simp only[go_sem];refine(hcd _).pthen ?_;refine⟨.hm1 g2,?_⟩;simp only[go_sem];refine(hef _).pthen ?_;refine⟨.hm1 g2,?_⟩;simp only[go_sem,rsA,ay,aO,g4];refine⟨.hm1 (by rw[ag _ _ n42.symm];exact g2),?_⟩
 exact .mk _ (.refl _) (hH.put n4 _) ⟨rfl,rfl⟩
theorem Bq(l:List jR):Sized 2 (l.map rsA):=bx (f:=rsA) (fun _=>rfl) l
theorem Ga{id:Txt}{set:Bool}{alg:Int}(ha:1≤alg∧alg≤6){tgt:fY}{rules:List cU}{kids:List bD}{obls:List cy}(ho:obls.length≤1000000)(t:Nat)(ht:t=1∨t=2)(parts:List jR)(hp:∀x∈parts,M6 x.1)(hn:parts.length≤32){B:Nat}(hB:B≤10000000)(hpb:∀x∈parts,x.2.length≤B)(q:Perm)(h:Heap):
  ai Tryz.prog 209 [aK (.mk id set alg tgt rules kids obls),.i t,.sl (parts.map rsA) q] h fun r h' =>r=rsA (qb alg obls t parts)∧h' =h:=by
 have hm6:∀m∈parts.map (·.1),M6 m:=fun m hm=>by
  obtain⟨x,hx,rfl⟩:=List.mem_map.1 hm;exact hp x hx
 have hc6:M6 (ig alg (parts.map (·.1))):=Hy hm6
 have uR:=Ws;have uO:=Wr;have uM:=Wq;have hall:=fun(p:Perm) (G:Heap)=>RI alg ha (parts.map (·.1)) (by rw[adU];omega) hm6 p G
 simp only[j3]at hall;refine ad3 Tryz.func209 84 [.cell 6 118] fun hwf=>?_
 simp only[go_sem,aK];intro i3 h3;simp only[go_sem];intro i6 h6;have n63:=aH h6;have n6' :=aC h6;obtain⟨H0,eH⟩:∃H0,upd (upd h i3 (some (.obj [.s id,.b set,.i alg,aW tgt,.sl (rules.map aB) .no,.sl (fC kids) .no,ay obls] 49))) i6 (some (.obj [.v (.complex .f64 0 0),.sl [] .full] 118))=H0:=⟨_,rfl⟩;have hH0:Ab.Sub h H0:=ag8;have g3:H0 i3=some (.obj [.s id,.b set,.i alg,aW tgt,.sl (rules.map aB) .no,.sl (fC kids) .no,ay obls] 49):=by rw[←eH,ag _ _ n63.symm,ah]
 have g6:H0 i6=some (.obj [.v (.complex .f64 0 0),.sl [] .full] 118):=afz;simp only[go_sem,adU];rw[eH];clear eH;refine .intro (fun m ρ H=>∃(i:Nat) (y:AV),Acc U 36 H0 H y (((parts.map (·.1)).take i).map aO)∧i≤parts.length∧m=parts.length - i∧lk ρ 1=some (.i t)∧lk ρ 2=some (.sl (parts.map rsA) q)∧lk ρ 3=some (.ptr i3 0)∧lk ρ 6=some (.ptr i6 0)∧lk ρ 7=some y∧lk ρ 15=some (.sl (parts.map rsA) q)∧lk ρ 16=some (.i parts.length)∧lk ρ 17=some (.i i)) parts.length ?_ ?_
 ·refine⟨0,.sl [] .full,.full (.refl _),ad4,rfl,?_,?_,?_,?_,?_,?_,?_,?_⟩<;>simp only[go_sem]
 ·rintro m ρ H ⟨i,y,hy,hi,rfl,r1,r2,r3,r6,r7,r15,r16,r17⟩
  obtain⟨qy,eqy⟩:=hy.row;subst eqy;simp only[go_sem,r16,r17];refine .intro (fun e=>?_) (fun e=>?_)
  ·have hlt:i<parts.length:=ad1 e
   have w1:=ad0 i ad4;have hsn:((parts.map (·.1)).take (i+1)).map aO=((parts.map (·.1)).take i).map aO++ [aO parts[i].1]:=by
    rw[List.take_succ_eq_append_getElem aeq,List.map_append,adV];rfl
   have ix:=fun k=>eE.eq (xs:=parts.map rsA) (sz:=2) i aeq aef k
   rw[adV]at ix;obtain⟨x,ex⟩:∃x,parts[i]=x:=⟨_,rfl⟩;rw[ex]at ix hsn;simp only[rsA,aO,ay]at ix;simp only[go_sem,r15,r17,ix];intro i9 h9;simp only[go_sem,r7];refine(hy.sub (.aj h9)).app (zs:=[aO x.1]) (by rw[uM];decide) aea (fun k hk=>hk) (by rw[uM];exact bx (f:=aO) (fun _=>rfl) _) (by rw[uM];intro z hz;rw[List.mem_singleton.1 hz];rfl) aeo fun y' H' hy' kp=>?_
   simp only[go_sem,r17,w1];refine⟨_,?_,i+1,y',by rw[hsn];exact hy',ad4,rfl,?_,?_,?_,?_,?_,?_,?_,?_⟩
   ·omega
   all_goals simp only[go_sem,r1,r2,r3,r6,r15,r16]
  ·have hge:i=parts.length:=by have:=adX e;omega
   subst hge;have htl:(parts.map (·.1)).take parts.length=parts.map (·.1):=List.take_of_length_le aec
   rw[htl]at hy;have k3:=hy.1 _ _ g3;have k6:=hy.1 _ _ g6;have hsH:=hH0.trans hy.1;have hjp:qb alg obls t parts=if t=0 then(naM,[])else if t=1 then(gU (ig alg (parts.map (·.1))),[])else if ig alg (parts.map (·.1))≠bg∧ig alg (parts.map (·.1))≠cJ then(ig alg (parts.map (·.1)),[])
     else(ig alg (parts.map (·.1)),eU alg (ig alg (parts.map (·.1))) parts++eR obls (ig alg (parts.map (·.1)))):=rfl
   have hple:(eU alg (ig alg (parts.map (·.1))) parts).length≤32*B+B:=ue hpb hn
   have hal:=fun G=>hall qy G
   obtain⟨m,em⟩:∃m,ig alg (parts.map (·.1))=m:=⟨_,rfl⟩
   rw[em]at hc6 hjp hal hple;have hin:=fun G=>yE m hc6.m9 G
   have npe:=(nb hc6.m9).npe;have nde:=(nb hc6.m9).nde;simp only[aO]at hal hin;rw[htl]at r7;simp only[go_sem,r3,r7,k3];refine(hal _).pthen ?_;rcases ht with rfl|rfl
   ·simp only[go_sem,r1]
    refine(hin _).pthen ?_;simp only[go_sem,r6,k6];exact .mk (rsA (gU m,[])) (rj [] (gU m) rfl _) (hsH.put n6' _) ⟨by rw[hjp];rfl,rfl⟩
   have k6H:=k6;cases dp:(m==bg)
   case true=>
    have e1:m=bg:=by simpa using dp
    have hne:¬(m≠bg∧m≠cJ):=fun hh=>hh.1 e1
    have hdu:=fun G=>rG obls ho m (.inl e1) G
    simp only[ay,aO]at hdu;simp only[go_sem,r1,npe,dp];exact aij
   case false=>
    cases dd:(m==cJ)
    case true=>
     have e1:m=cJ:=by simpa using dd
     have hne:¬(m≠bg∧m≠cJ):=fun hh=>hh.2 e1
     have hdu:=fun G=>rG obls ho m (.inr e1) G
     simp only[ay,aO]at hdu;simp only[go_sem,r1,npe,nde,dp,dd];exact aij
    case false=>
     have e1:m≠bg:=by simpa using dp
     have e2:m≠cJ:=by simpa using dd
     simp only[go_sem,r1,r6,npe,nde,dp,dd,k6];exact .mk (rsA (m,[])) (rj [] m rfl _) (hsH.put n6' _) ⟨by rw[hjp,if_neg ad9,if_neg ad9,if_pos ⟨e1,e2⟩],rfl⟩
theorem AK:∀(n d:Nat),d+n=5→∀(p:bD),mA d p→∀(gs:List bt),rT gs→∀(h:Heap),ai Tryz.prog 159 [aK p,bL gs] h fun r h' =>r=rsA (fH gs p)∧h' =h
 |0,d,hd,.mk id set alg tgt rules kids obls,hE,gs,hf,h=>by
  simp only[mA]at hE;omega
 |n+1,d,hd,.mk id set alg tgt rules kids obls,hE,gs,hf,h=>by
  have ih:=AK n (d+1) ad4;simp only[mA,qQ]at hE;obtain⟨_,_,ha1,ha2,_,_,hT,hO,hR,hK,hRE,hKE⟩:=hE;have hob:=(kT hO).1;have hmt:=fun G=>MJ tgt (Cz hT) gs hf G
  have hev:fH gs (.mk id set alg tgt rules kids obls)=if mX gs tgt=0 then(naM,[])else qb alg obls (mX gs tgt) (rules.map (iD gs)++kids.map (fH gs)):=by simp only[fH,tH]
  have hjo:=fun(ht:mX gs tgt=1∨mX gs tgt=2) (q:Perm) (G:Heap)=>Ga (id:=id) (set:=set) (alg:=alg) ⟨ha1,ha2⟩ (tgt:=tgt) (rules:=rules) (kids:=kids) (obls:=obls) ad4 (mX gs tgt) ht (rules.map (iD gs)++kids.map (fH gs)) (fun x hx=>by
   rcases List.mem_append.1 hx with hx|hx
   ·obtain⟨r,_,rfl⟩:=List.mem_map.1 hx;exact AN _ _ _
   ·obtain⟨r,_,rfl⟩:=List.mem_map.1 hx;exact xu gs r) aeO (B:=10000000) (Nat.le_refl _) (fun x hx=>by
   rcases List.mem_append.1 hx with hx|hx
   ·obtain⟨r,hr,rfl⟩:=List.mem_map.1 hx
    have h1:=AM r (mX gs r.tgt) (qE gs r.cond);have h2:=(kT (hRE r hr).2.2.2).1
    show(nE r (mX gs r.tgt) (qE gs r.cond)).2.length≤_
    omega
   ·obtain⟨r,hr,rfl⟩:=List.mem_map.1 hx
    have h1:=B6 gs n (d+1) r ad4 (hKE r hr);have h2:oB n≤oB 4:=by
     have:n≤4:=ad4;rcases(show n=0∨n=1∨n=2∨n=3∨n=4 by omega)with rfl|rfl|rfl|rfl|rfl<;>decide
    exact Nat.le_trans h1 (Nat.le_trans h2 ad9)) q G
  have hrl:=fun(r:cU) (hr:EB r) (G:Heap)=>Jh r hr gs hf G
  have hml:=MI gs tgt;obtain⟨t,et⟩:∃t,mX gs tgt=t:=⟨_,rfl⟩;rw[et]at hmt hjo hev hml;simp only[aK,bL,aX,aW,ay]at hmt hjo hrl;have uR:=Ws;refine ad3 Tryz.func159 50 [.cell 4 118] fun hwf=>?_
  simp only[go_sem,aK,bL,aX,aW,ay];intro i2 h2;simp only[go_sem];intro i4 h4;have n42:=aH h4;have n4' :=aC h4;obtain⟨H0,eH⟩:∃H0,upd (upd h i2 (some (.obj [.s id,.b set,.i alg,.sl (tgt.map cB) .no,.sl (rules.map aB) .no,.sl (kids.map aK) .no,.sl (obls.map aY) .no] 49))) i4 (some (.obj [.v (.complex .f64 0 0),.sl [] .full] 118))=H0:=⟨_,rfl⟩;have hH0:Ab.Sub h H0:=ag7;have g2:H0 i2=some (.obj [.s id,.b set,.i alg,.sl (tgt.map cB) .no,.sl (rules.map aB) .no,.sl (kids.map aK) .no,.sl (obls.map aY) .no] 49):=ahP;have g4:H0 i4=some (.obj [.v (.complex .f64 0 0),.sl [] .full] 118):=afz;simp only[go_sem,ak,n42.symm];rw[eH];clear eH;refine(hmt _).pthen ?_;cases dt:((t:Int)==0)
  case true=>
   have e0:t=0:=by have:(t:Int)=0:=(by simpa using dt);omega
   simp only[go_sem,dt,g4];exact .mk (rsA (naM,[])) (rj [] naM rfl _) (hH0.put n4' _) ⟨by rw[hev,if_pos e0],rfl⟩
  have ht0:t≠0:=by rintro rfl;simp at dt
  have ht12:t=1∨t=2:=ad4;rw[if_neg ht0]at hev;simp only[go_sem,dt,g2,adU];refine .intro (fun m ρ H=>∃(i:Nat) (y:AV),Acc U 118 H0 H y (((rules.map (iD gs)).take i).map rsA)∧i≤rules.length∧m=rules.length - i∧lk ρ 1=some (.sl (gs.map lF) .no)∧lk ρ 2=some (.ptr i2 0)∧lk ρ 4=some (.ptr i4 0)∧lk ρ 5=some (.i t)∧lk ρ 6=some y∧lk ρ 19=some (.sl (rules.map aB) .no)∧lk ρ 20=some (.i rules.length)∧lk ρ 21=some (.i i)) rules.length ?_ ?_
  ·refine⟨0,.sl [] .full,.full (.refl _),ad4,rfl,?_,?_,?_,?_,?_,?_,?_,?_⟩<;>simp only[go_sem]
  ·rintro m ρ H ⟨i,y,hy,hi,rfl,r1,r2,r4,r5,r6,r19,r20,r21⟩
   obtain⟨qy,eqy⟩:=hy.row;subst eqy;simp only[go_sem,r20,r21];refine .intro (fun e=>?_) (fun e=>?_)
   ·have hlt:i<rules.length:=ad1 e
    have w1:=ad0 i ad4;have hsn:((rules.map (iD gs)).take (i+1)).map rsA=((rules.map (iD gs)).take i).map rsA++ [rsA (iD gs rules[i])]:=by
     rw[List.take_succ_eq_append_getElem aeq,List.map_append,adV];rfl
    have ix:=fun k=>eE.eq (xs:=rules.map aB) (sz:=5) i aeq aef k
    rw[adV]at ix;have hre:=hRE _ (adZ hlt);obtain⟨x,ex⟩:∃x,rules[i]=x:=⟨_,rfl⟩;rw[ex]at ix hsn hre;have hr1:=hrl x hre;simp only[aB,aW,ay]at ix hr1;simp only[go_sem,r19,r21,ix];intro i8 h8;simp only[go_sem,r1,r6];refine(hr1 _).pthen ?_;simp only[go_sem,rsA,aO,ay];refine(hy.sub (.aj h8)).app (zs:=[rsA (iD gs x)]) (by rw[uR];decide) aea (fun k hk=>hk) (by rw[uR];exact Bq _) agI aeo fun y' H' hy' kp=>?_
    simp only[go_sem,r21,w1];refine⟨_,?_,i+1,y',by rw[hsn];exact hy',ad4,rfl,?_,?_,?_,?_,?_,?_,?_,?_⟩
    ·omega
    all_goals simp only[go_sem,r1,r2,r4,r5,r19,r20]
   ·have hge:i=rules.length:=by have:=adX e;omega
    subst hge;have htl:(rules.map (iD gs)).take rules.length=rules.map (iD gs):=List.take_of_length_le aec;rw[htl]at hy r6;have k2:=hy.1 _ _ g2;simp only[go_sem,r2,k2,adU];refine .intro (fun m ρ H=>∃(i:Nat) (y:AV),Acc U 118 H0 H y ((rules.map (iD gs)++(kids.map (fH gs)).take i).map rsA)∧i≤kids.length∧m=kids.length - i∧lk ρ 1=some (.sl (gs.map lF) .no)∧lk ρ 2=some (.ptr i2 0)∧lk ρ 4=some (.ptr i4 0)∧lk ρ 5=some (.i t)∧lk ρ 6=some y∧lk ρ 33=some (.sl (kids.map aK) .no)∧lk ρ 34=some (.i kids.length)∧lk ρ 35=some (.i i)) kids.length ?_ ?_
    ·refine⟨0,_,by rw[List.take_zero,List.append_nil];exact hy,ad4,rfl,?_,?_,?_,?_,?_,?_,?_,?_⟩<;>simp only[go_sem,r1,r2,r4,r5,r6]
    ·rintro m ρ2 H2 ⟨i,y,hy,hi,rfl,s1,s2,s4,s5,s6,s33,s34,s35⟩
     obtain⟨qy,eqy⟩:=hy.row;subst eqy;simp only[go_sem,s34,s35];refine .intro (fun e=>?_) (fun e=>?_)
     ·have hlt:i<kids.length:=ad1 e
      have w1:=ad0 i ad4;have hsn:(rules.map (iD gs)++(kids.map (fH gs)).take (i+1)).map rsA=(rules.map (iD gs)++(kids.map (fH gs)).take i).map rsA++ [rsA (fH gs kids[i])]:=by
       rw[List.take_succ_eq_append_getElem aeq,←List.append_assoc,List.map_append,adV];rfl
      have ix:=fun k=>eE.eq (xs:=kids.map aK) (sz:=7) i aeq (by rw[adV,jB]) k
      rw[adV]at ix;have hke:=hKE _ (adZ hlt);obtain⟨x,ex⟩:∃x,kids[i]=x:=⟨_,rfl⟩;rw[ex]at ix hsn hke;have hr1:=ih x hke gs hf;obtain⟨kid,kset,kalg,ktgt,krules,kkids,kobls⟩:=x;simp only[aK,aW,ay,bL,aX]at ix hr1;simp only[go_sem,s33,s35,ix];intro i10 h10;simp only[go_sem,s1,s6];refine(hr1 _).pthen ?_;simp only[go_sem,rsA,aO,ay];refine(hy.sub (.aj h10)).app (zs:=[rsA (fH gs (.mk kid kset kalg ktgt krules kkids kobls))]) (by rw[uR];decide) aea (fun k hk=>hk) (by rw[uR];exact Bq _) agI (by simp only[go_sem,adU,List.length_take,List.length_cons,List.length_nil,adY];omega) fun y' H' hy' kp=>?_
      simp only[go_sem,s35,w1];refine⟨_,?_,i+1,y',by rw[hsn];exact hy',ad4,rfl,?_,?_,?_,?_,?_,?_,?_,?_⟩
      ·omega
      all_goals simp only[go_sem,s1,s2,s4,s5,s33,s34]
     ·have hge:i=kids.length:=by have:=adX e;omega
      subst hge;have htl:(kids.map (fH gs)).take kids.length=kids.map (fH gs):=List.take_of_length_le aec;rw[htl]at hy s6;have k2:=hy.1 _ _ g2;have k4:=hy.1 _ _ g4;have hj:=fun G=>hjo ht12 qy G
      rw[←hev]at hj;obtain⟨z,ez⟩:∃z,fH gs (.mk id set alg tgt rules kids obls)=z:=⟨_,rfl⟩;rw[ez]at hj;simp only[go_sem,s2,s5,s6,k2];refine(hj _).pthen ?_;simp only[go_sem,s4,rsA,aO,ay,k4];exact .mk (rsA z) (.refl _) ((hH0.trans hy.1).put n4' _) ⟨by rw[ez];rfl,rfl⟩
theorem Di(p:bD)(hp:gI p=0)(gs:List bt)(hf:rT gs)(h:Heap):ai Tryz.prog 105 [aK p,bL gs] h fun r h' =>r= .tup [rsA (fH gs p),.i 0]∧h' =h:=by
 have hd:=fun G=>AK 4 1 rfl p (rm hp) gs hf G
 have hr:=fun G=>uu p G
 rw[hp]at hr;obtain⟨id,set,alg,tgt,rules,kids,obls⟩:=p;refine ad3 Tryz.func105 13 [.cell 4 118,.tmp 5] fun hwf=>?_
 simp only[go_sem,aK,bL,aW,ay];intro i2 h2;simp only[go_sem];intro i4 h4;have n42:=aH h4;have n4:=aC h4;have hs:∀x y,Ab.Sub h (upd (upd h i2 x) i4 y):=fun x y=>((Sub.refl h).put h2 x).put n4 y
 simp only[go_sem,ak,n42.symm];refine(hr _).pthen ?_;simp only[go_sem,ak,n42.symm];refine(hd _).pthen ?_;simp only[go_sem,rsA,aO,ay];exact afI
end Go.Proofs.YtbbadggejjgihaaGreatDoor
namespace Go.Bf
open Go Go.Ab Go.Proofs.YtbbadggejjgihaaGreatDoor
def rep(n:Nat)(t:Txt):Txt:=(List.replicate n t).flatten
def MLe(a b:eJ):Prop:=(∀x∈a.met,x∈b.met)∧a.rules≤b.rules
theorem MLe.refl(a:eJ):MLe a a:=⟨fun _ h=>h,Nat.le_refl _⟩
theorem MLe.trans{a b c:eJ}(h1:MLe a b)(h2:MLe b c):MLe a c:=⟨fun x h=>h2.1 x (h1.1 x h),Nat.le_trans h1.2 h2.2⟩
theorem Ia{a b b' :eJ}{s:Txt}(h:MLe a b)(hm:jo b s=some b'):∃a',jo a s=some a'∧MLe a' b' :=by
 unfold jo at hm⊢;split at hm
 ·rename_i hc
  cases hm;refine⟨_,if_pos ⟨fun hx=>hc.1 (h.1 s hx),hc.2⟩,fun x hx=>?_,h.2⟩
  rcases List.mem_append.1 hx with hx|hx
  ·exact List.mem_append.2 (.inl (h.1 x hx))
  grind
 grind
theorem Ib{b b' :eJ}{s:Txt}(hm:jo b s=some b'):MLe b b' :=by
 unfold jo at hm;split at hm
 ·cases hm;exact⟨fun x hx=>List.mem_append.2 (.inl hx),Nat.le_refl _⟩
 grind
theorem oK{e:Int}{w:Went}{m:eJ}(h:need e w= .ok m):e=0∧w= .ok m:=by
 grind [need]
theorem PM{a b b' :eJ}{r:cU}(h:MLe a b)(hr:gC b r= .ok b'):(∃a',gC a r= .ok a'∧MLe a' b')∧MLe b b' :=by
 unfold gC at hr⊢;cases hm:jo b r.id with
 |none=>grind
 |some m=>
  rw[hm]at hr;obtain⟨a',ha,hl⟩:=Ia h hm;simp only at hr;split at hr
  ·grind
  ·obtain⟨e1,hr⟩:=oK hr
   obtain⟨e2,hr⟩:=oK hr;obtain⟨e3,hr⟩:=oK hr;cases hr;have hup:=Ib hm;refine⟨⟨⟨a'.met,a'.rules+1⟩,?_,hl.1,by have:=hl.2;simp only;omega⟩,hup.1,by have:=hup.2;simp only;omega⟩
   rw[ha];have:=hl.2;simp only[e1,e2,e3,need,if_true];rw[if_neg ad4]
theorem ED:∀(l:List cU) {a b b' :eJ},MLe a b→fD b l= .ok b'→(∃a',fD a l= .ok a'∧MLe a' b')∧MLe b b'
 | [],a,b,b',h,hr=>by
  cases hr;exact⟨⟨a,rfl,h⟩,.refl _⟩
 |r::l,a,b,b',h,hr=>by
  simp only[fD]at hr⊢;cases hw:gC b r with
  |bad e=>grind
  |ok m=>
   rw[hw]at hr;obtain⟨⟨a',ha,hl⟩,hu⟩:=PM h hw;obtain⟨⟨a'',ha',hl'⟩,hu'⟩:=ED l hl hr;exact⟨⟨a'',ad5,hl'⟩,hu.trans hu'⟩
theorem OY{a b b' :eJ}{id:Txt}{set:Bool}{alg:Int}{tgt:fY}{nr nk nk' :Nat}{obls:List cy}(h:MLe a b)(hk:nk'≤nk)(hr:fk b id set alg tgt nr nk obls= .ok b'):(∃a',fk a id set alg tgt nr nk' obls= .ok a'∧MLe a' b')∧MLe b b' :=by
 unfold fk at hr⊢;cases hm:jo b id with
 |none=>rw[hm]at hr;cases hr
 |some m=>
  rw[hm]at hr;obtain⟨a',ha,hl⟩:=Ia h hm;simp only at hr;split at hr
  ·cases hr
  ·rename_i h1
   split at hr
   ·cases hr
   ·rename_i h2
    obtain⟨e1,hr⟩:=oK hr;obtain⟨e2,hr⟩:=oK hr;split at hr
    ·cases hr
    ·rename_i h3
     cases hr;refine⟨⟨a',?_,hl⟩,Ib hm⟩;rw[ha];have h2' :¬(set=true∧nr>0∨set=false∧(nk' >0∨alg=4)):=by
      rintro(⟨p,q⟩|⟨p,q|q⟩)
      ·exact h2 (.inl ⟨p,q⟩)
      ·exact h2 (.inr ⟨p,.inl ad4⟩)
      ·exact h2 (.inr ⟨p,.inr q⟩)
     simp only[if_neg h1,if_neg h2',e1,e2,need,if_true];rw[if_neg ad4]
theorem Ei(gs:List bt):∀l:List bD,(kN gs l).length≤l.length
 | []=>by simp[kN]
 |k::r=>by
  have:=Ei gs r;simp only[kN];split<;>simp<;>omega
mutual
theorem El(gs:List bt):∀(p:bD) (d:Nat) {a b b' :eJ},MLe a b→kU b d p= .ok b'→(∃a',kU a d (lM gs p)= .ok a'∧MLe a' b')∧MLe b b'
 |.mk id set alg tgt rules kids obls,d,a,b,b',h,hr=>by
  simp only[kU,lM]at hr⊢;split at hr
  ·cases hr
  ·rename_i hd
   rw[if_neg hd];cases hh:fk b id set alg tgt rules.length kids.length obls with
   |bad e=>rw[hh]at hr;cases hr
   |ok m=>
    rw[hh]at hr;simp only at hr;obtain⟨⟨a1,ha1,hl1⟩,hu1⟩:=OY h (Ei gs kids) hh;cases hw:fD m rules with
    |bad e=>rw[hw]at hr;cases hr
    |ok m2=>
     rw[hw]at hr;simp only at hr;obtain⟨⟨a2,ha2,hl2⟩,hu2⟩:=ED rules hl1 hw;obtain⟨⟨a3,ha3,hl3⟩,hu3⟩:=vg gs kids (d+1) hl2 hr;refine⟨⟨a3,?_,hl3⟩,(hu1.trans hu2).trans hu3⟩;rw[ha1];simp only[ha2];exact ha3
theorem vg(gs:List bt):∀(l:List bD) (d:Nat) {a b b' :eJ},MLe a b→iX b d l= .ok b'→(∃a',iX a d (kN gs l)= .ok a'∧MLe a' b')∧MLe b b'
 | [],d,a,b,b',h,hr=>by
  simp only[iX,kN]at hr⊢;cases hr;exact⟨⟨a,rfl,h⟩,.refl _⟩
 |k::r,d,a,b,b',h,hr=>by
  simp only[iX]at hr;cases hw:kU b d k with
  |bad e=>rw[hw]at hr;cases hr
  |ok m=>
   rw[hw]at hr;simp only at hr;obtain⟨⟨a1,ha1,hl1⟩,hu1⟩:=El gs k d h hw;simp only[kN];split
   ·obtain⟨⟨a2,ha2,hl2⟩,hu2⟩:=vg gs r d hl1 hr
    refine⟨⟨a2,?_,hl2⟩,hu1.trans hu2⟩;simp only[iX,ha1];exact ha2
   ·obtain⟨⟨a2,ha2,hl2⟩,hu2⟩:=vg gs r d (h.trans hu1) hr
    exact⟨⟨a2,ha2,hl2⟩,hu1.trans hu2⟩
end
theorem GF(gs:List bt){p:bD}(h:gI p=0):gI (lM gs p)=0:=by
 unfold gI at*;cases hw:kU ⟨[],0⟩ 1 p with
 |bad e=>
  have:=uh 4 1 _ _ e rfl hw;rw[hw]at h;exact(this h).elim
 |ok m=>
  obtain⟨⟨a,ha,_⟩,_⟩:=El gs p 1 (.refl _) hw;rw[ha];rfl
def WB:bO:=⟨⟨0,[],false⟩,0,aq⟩
def O4(k:Option bO):AV:=match k with
 |some m=> .tup [cK m,.b true]
 |none=> .tup [cK WB,.b false]
theorem Mr{x:List (List bO)}{r:fY}(h:x.length≠1):oI (x::r)=oI r:=by
 match x,h with
 | [],_=>rfl
 | [l],h=>exact(h rfl).elim
 |a::b::c,_=>rfl
theorem Mq{l:List bO}{r:fY}(h:(l.find? fun m=>m.op==1 && !m.attr.must)=none):oI ([l]::r)=oI r:=by
 grind [oI]
theorem Ms{l:List bO}{r:fY}{m:bO}(h:(l.find? fun m=>m.op==1 && !m.attr.must)=some m):oI ([l]::r)=some m:=by
 grind [oI]
theorem Eh(gs:List bt):∀l:List bD,kN gs l=(l.filter (sI gs)).map (lM gs)
 | []=>aek
 |k::r=>by
  simp only[kN,List.filter_cons,Eh gs r]
  grind
def ixP(gs:List bt)(l:List bD)(n:Nat):List Nat:=(List.range n).filter fun j=>sI gs (l.getD j l8)
theorem DJ(gs:List bt)(l:List bD){n:Nat}(h:n<l.length):ixP gs l (n+1)=ixP gs l n++(if sI gs l[n]=true then [n]else []):=by
 grind [ixP,List.range_succ,List.getD,List.getElem?_eq_getElem]
theorem DK(gs:List bt)(l:List bD):∀n:Nat,n≤l.length→(ixP gs l n).map (fun j=>l.getD j l8)=(l.take n).filter (sI gs)
 |0,_=>aek
 |n+1,h=>by
  have hlt:n<l.length:=ad4;rw[DJ gs l hlt,List.map_append,DK gs l n ad4,List.take_succ_eq_append_getElem hlt,List.filter_append,List.filter_cons]
  congr 1
  grind
theorem Sw{gs:List bt}{l:List bD}{n j:Nat}(h:j∈ixP gs l n):j<n:=List.mem_range.1 (List.mem_filter.1 h).1
theorem HW(gs:List bt)(l:List bD)(n:Nat):(ixP gs l n).length≤n:=by
 grind [ixP,Nat.le_trans,List.length_filter_le]
theorem Ml(gs:List bt)(l:List bD):(ixP gs l l.length).map (fun j=>lM gs (l.getD j l8))=kN gs l:=by
 rw[Eh,←List.take_length (l:=l),←DK gs l l.length (Nat.le_refl _),List.map_map,List.take_length];rfl
theorem oJ(m:bO):cK m= .agg [.i m.attr.cat,.s m.attr.name,.b m.attr.must,.i m.op,.i m.val.kind,.i m.val.n,.s m.val.s]:=rfl
end Go.Bf
namespace Go.Proofs.YtbbadggejjgihaaGreatDoor
open Go Go.Ab Go.Bf
theorem Sx(t:fY)(ht:Of t)(h:Heap):ai Tryz.prog 210 [aW t] h fun r h' =>r=O4 (oI t)∧h' =h:=by
 have htl:=ht.1;refine ad3 Tryz.func210 38 [.cell 2 233,.tmp 3] fun hwf=>?_
 simp only[go_sem,aW];intro i2 h2;simp only[go_sem,adU];have hH0:∀x,Ab.Sub h (upd h i2 x):=fun x=> .aj h2
 refine .intro (fun m ρ H=>Ab.Sub h H∧H i2=some (.obj [.i 0,.s [],.b false,.i 0,.i 0,.i 0,.s []] 233)∧∃i:Nat,i≤t.length∧m=t.length - i∧oI (t.drop i)=oI t∧lk ρ 2=some (.ptr i2 0)∧lk ρ 8=some (.sl (t.map cB) .no)∧lk ρ 9=some (.i t.length)∧lk ρ 10=some (.i i)) t.length ?_ ?_
 ·refine⟨hH0 _,ah ..,0,ad4,rfl,rfl,?_,?_,?_,?_⟩<;>simp only[go_sem]
 ·rintro m ρ H ⟨hs,k2,i,hi,rfl,hk,r2,r8,r9,r10⟩
  simp only[go_sem,r9,r10];refine .intro (fun e=>?_) (fun e=>?_)
  ·have hlt:i<t.length:=ad1 e
   have w1:IntKind.i64.wrap ((i:Int)+1)=((i+1:Nat):Int):=aej;rw[List.drop_eq_getElem_cons hlt]at hk;have hxl:=(ht.2 _ (adZ hlt)).2;have ix:=fun k=>eE.eq (xs:=t.map cB) (sz:=1) i ad5 aef k
   rw[adV]at ix;obtain⟨x,ex⟩:∃x,t[i]=x:=⟨_,rfl⟩;rw[ex]at ix hk hxl;simp only[cB]at ix;cases d1:((x.length:Int) !=1)
   case true=>
    have hx1:x.length≠1:=ad5;rw[Mr hx1]at hk;simp only[go_sem,r8,r10,ix,adU,d1,w1];refine⟨_,?_,hs,k2,i+1,ad4,rfl,hk,?_,?_,?_,?_⟩
    ·omega
    all_goals simp only[go_sem,r2,r8,r9]
   have hx1:x.length=1:=ad5;obtain⟨l,rfl⟩:=List.length_eq_one_iff.1 hx1;have hll:=hxl l (List.mem_singleton.2 rfl);have iy:=fun k=>eE.eq (xs:=[ij l]) (sz:=1) 0 aec rfl k
   simp only[List.getElem_cons_zero,ij,Int.natCast_zero]at iy;simp only[go_sem,r8,r10,ix,adU,List.length_cons,List.length_nil,List.map_cons,List.map_nil,ij,iy];refine .intro (fun m ρ2 H2=>Ab.Sub h H2∧H2 i2=some (.obj [.i 0,.s [],.b false,.i 0,.i 0,.i 0,.s []] 233)∧∃j:Nat,j≤l.length∧m=l.length - j∧(∀k (h1:k<l.length),k<j→(l[k].op==1 && !l[k].attr.must)=false)∧lk ρ2 2=some (.ptr i2 0)∧lk ρ2 8=some (.sl (t.map cB) .no)∧lk ρ2 9=some (.i t.length)∧lk ρ2 10=some (.i i)∧lk ρ2 19=some (.sl (l.map cK) .no)∧lk ρ2 20=some (.i l.length)∧lk ρ2 21=some (.i j)) l.length ?_ ?_
   ·refine⟨hs,k2,0,ad4,rfl,fun k _ hk=>ad4,?_,?_,?_,?_,?_,?_,?_⟩<;>simp only[go_sem,r2,r8,r9,r10]
   ·rintro m ρ2 H2 ⟨hs2,k2,j,hj,rfl,hc,s2,s8,s9,s10,s19,s20,s21⟩
    simp only[go_sem,s20,s21];refine .intro (fun e=>?_) (fun e=>?_)
    ·have hlt2:j<l.length:=ad1 e
     have w2:IntKind.i64.wrap ((j:Int)+1)=((j+1:Nat):Int):=aej;have iz:=fun k=>eE.eq (xs:=l.map cK) (sz:=7) j ad5 aef k
     rw[adV]at iz;have hci:=fun(d:(l[j].op==1 && !l[j].attr.must)=false)=>(fun k (h1:k<l.length) (hk:k<j+1)=>(by
      grind:(l[k].op==1 && !l[k].attr.must)=false))
     have hat:=fun(d:(l[j].op==1 && !l[j].attr.must)=true)=>(List.find?_eq_some_iff_getElem.2 ⟨d,j,hlt2,rfl,fun k hk=>ad5⟩:(l.find? fun m=>m.op==1 && !m.attr.must)=some l[j])
     obtain⟨z,ez⟩:∃z,l[j]=z:=⟨_,rfl⟩;rw[ez]at iz hci hat;simp only[oJ]at iz;simp only[go_sem,s19,s21,iz];intro i7 h7;have n72:i7≠i2:=fun e=>ad5
     cases a1:(z.op==1)
     ·exact aiY
     ·cases a2:z.attr.must
      ·have hkk:=hk.symm.trans (Ms (hat ad5))
       simp only[go_sem,s2,a1,ak,n72.symm,k2];exact .mk _ (.refl _) ((hs2.trans (.aj h7)).put h2 _) ⟨by rw[hkk];simp only[O4,oJ,a2];rfl,rfl⟩
      ·exact aiY
    ·have hge:j=l.length:=by grind
     subst hge;rw[Mq (List.find?_eq_none.2 fun z hz=>by
      obtain⟨k,hk,rfl⟩:=List.mem_iff_getElem.1 hz
      grind)]at hk
     simp only[go_sem,s10,w1];refine⟨_,?_,hs2,k2,i+1,ad4,rfl,hk,?_,?_,?_,?_⟩
     ·omega
     all_goals simp only[go_sem,s2,s8,s9]
  ·have hge:i=t.length:=by grind
   subst hge;rw[List.drop_length]at hk;simp only[go_sem,r2,k2];exact .mk _ (.refl _) (hs.put h2 _) ⟨by rw[←hk];rfl,rfl⟩
theorem J2{gs:List bt}{p:bD}(h:oI (sN p)=none):sI gs p=true:=by grind [sI]
theorem J3{gs:List bt}{p:bD}{m:bO}(h:oI (sN p)=some m):sI gs p=decide (j4 gs m≠0):=by grind [sI]
def tU(n:Nat):AV:=.i n
theorem M5(l:List bD)(hl:l.length≤1000)(ht:∀p∈l,Of (sN p))(gs:List bt)(hf:rT gs)(h:Heap):ai Tryz.prog 160 [.sl (l.map aK) .no,bL gs] h fun r h' =>r= .sl ((ixP gs l l.length).map tU) .no∧h' =h:=by
 have hmt:=fun(m:bO) (G:Heap)=>A6 m gs hf G
 simp only[oJ,bL]at hmt;have uI:(U 3).sz=1:=aek;refine ad3 Tryz.func160 37 [.tmp 4] fun hwf=>?_
 simp only[go_sem,bL,adU];refine .intro (fun m ρ H=>∃(i:Nat) (y:AV),Acc U 3 h H y ((ixP gs l i).map tU)∧i≤l.length∧m=l.length - i∧lk ρ 1=some (.sl (gs.map lF) .no)∧lk ρ 5=some y∧lk ρ 10=some (.sl (l.map aK) .no)∧lk ρ 11=some (.i l.length)∧lk ρ 12=some (.i i)) l.length ?_ ?_
 ·refine⟨0,.sl [] .full,.full (.refl _),ad4,rfl,?_,?_,?_,?_,?_⟩<;>simp only[go_sem]
 ·rintro m ρ H ⟨i,y,hy,hi,rfl,r1,r5,r10,r11,r12⟩
  obtain⟨qy,eqy⟩:=hy.row;subst eqy;simp only[go_sem,r11,r12];refine .intro (fun e=>?_) (fun e=>?_)
  ·have hlt:i<l.length:=ad1 e
   have w1:IntKind.i64.wrap ((i:Int)+1)=((i+1:Nat):Int):=aej;have hsn:=DJ gs l hlt;have hpl:=HW gs l i;have ix:=fun k=>eE.eq (xs:=l.map aK) (sz:=7) i ad5 (by rw[adV,jB]) k
   rw[adV]at ix;have hft:=ht _ (adZ hlt);obtain⟨x,ex⟩:∃x,l[i]=x:=⟨_,rfl⟩;rw[ex]at ix hsn hft;have hky:=fun G=>Sx (sN x) hft G
   have mn:=fun h=>J2 (gs:=gs) (p:=x) h
   have ms:=fun m h=>J3 (gs:=gs) (p:=x) (m:=m) h
   obtain⟨kid,kset,kalg,ktgt,krules,kkids,kobls⟩:=x;simp only[sN]at hky hft mn ms;simp only[aK,aW,ay,aX]at ix;simp only[aW]at hky;simp only[go_sem,r10,r12,ix];intro i7 h7;simp only[go_sem];refine(hky _).pthen ?_;have hkeep:sI gs (.mk kid kset kalg ktgt krules kkids kobls)=true→ixP gs l (i+1)=ixP gs l i++ [i]:=fun e=>ad5
   have hdrop:sI gs (.mk kid kset kalg ktgt krules kkids kobls)=false→ixP gs l (i+1)=ixP gs l i:=fun e=>ad5
   cases hk:oI ktgt with
   |none=>
    simp only[go_sem,O4,oJ];intro i8 h8;simp only[go_sem,r5];exact aiI
   |some m=>
    have hm2:=ms m hk;simp only[go_sem,O4,oJ];intro i8 h8;simp only[go_sem,r1];refine(hmt m _).pthen ?_;cases dm:((j4 gs m:Int) !=0)
    ·have e0:j4 gs m=0:=by grind
     simp only[go_sem,r12,dm,w1];refine⟨_,?_,i+1,_,by rw[hdrop ad5];exact(hy.sub (.aj h7)).sub (.aj h8),ad4,rfl,?_,?_,?_,?_,?_⟩
     ·omega
     all_goals simp only[go_sem,r1,r5,r10,r11]
    ·have e0:j4 gs m≠0:=by grind
     simp only[go_sem,r5,dm];exact aiI
  ·have hge:i=l.length:=by grind
   subst hge;simp only[go_sem,r5];exact .mk _ (.sl _ _) hy.1 ⟨rfl,rfl⟩
theorem V2{id:Txt}{set:Bool}{alg:Int}{tgt:fY}{rules:List cU}{kids:List bD}{obls:List cy}{L:List AV}(hL:L=kids.map aK)(q:Perm):Weak (.agg [.s id,.b set,.i alg,.sl (tgt.map cB) .no,.sl (rules.map aB) .no,.sl L q,.sl (obls.map aY) .no]) (aK (.mk id set alg tgt rules kids obls)):=by
 subst hL;rw[aK,aX];refine .agg _ _ rfl fun i a b=>?_
 rcases i with _|_|_|_|_|_|_|i
 ·exact afq
 ·exact afq
 ·exact afq
 ·exact afq
 ·exact afq
 ·exact agO
 ·exact afq
 ·simp at a;omega
theorem Bh:∀(n d:Nat),d+n=5→∀(p:bD),mA d p→∀(gs:List bt),rT gs→∀(h:Heap),ai Tryz.prog 106 [aK p,bL gs] h fun r h' =>r=aK (lM gs p)∧h' =h
 |0,d,hd,.mk id set alg tgt rules kids obls,hE,gs,hf,h=>by
  simp only[mA]at hE;omega
 |n+1,d,hd,.mk id set alg tgt rules kids obls,hE,gs,hf,h=>by
  have ih:=Bh n (d+1) ad4;simp only[mA,qQ]at hE;obtain⟨_,_,_,_,_,_,hT,hO,hR,hK,hRE,hKE⟩:=hE;have hpk:=fun G=>M5 kids ad4 (fun p hp=>by
   have h1:=hKE p hp;obtain⟨kid,kset,kalg,ktgt,krules,kkids,kobls⟩:=p;simp only[mA]at h1;exact Cz h1.2.2.2.2.2.2.1) gs hf G
  have hpe:lM gs (.mk id set alg tgt rules kids obls)= .mk id set alg tgt rules (kN gs kids) obls:=aek;have hfull:=Ml gs kids;have hIlt:∀j∈ixP gs kids kids.length,j<kids.length:=fun j hj=>Sw hj
  have hIl:(ixP gs kids kids.length).length≤16:=Nat.le_trans (HW _ _ _) hK;obtain⟨I,eI⟩:∃I,ixP gs kids kids.length=I:=⟨_,rfl⟩;rw[eI]at hpk hfull hIlt hIl;simp only[bL]at hpk;have uP:(U 49).sz=7:=aek;refine ad3 Tryz.func106 31 [.cell 4 49] fun hwf=>?_
  simp only[go_sem,aK,bL,aX,aW,ay];intro i2 h2;simp only[go_sem];intro i4 h4;have n42:=aH h4;have n4' :=aC h4;obtain⟨H0,eH⟩:∃H0,upd (upd h i2 (some (.obj [.s id,.b set,.i alg,.sl (tgt.map cB) .no,.sl (rules.map aB) .no,.sl (kids.map aK) .no,.sl (obls.map aY) .no] 49))) i4 (some (.obj [.s [],.b false,.i 0,.sl [] .full,.sl [] .full,.sl [] .full,.sl [] .full] 49))=H0:=⟨_,rfl⟩;have hH0:Ab.Sub h H0:=ag7;have g2:H0 i2=some (.obj [.s id,.b set,.i alg,.sl (tgt.map cB) .no,.sl (rules.map aB) .no,.sl (kids.map aK) .no,.sl (obls.map aY) .no] 49):=ahP;have g4:H0 i4=some (.obj [.s [],.b false,.i 0,.sl [] .full,.sl [] .full,.sl [] .full,.sl [] .full] 49):=afz;simp only[go_sem,ak,n42.symm];rw[eH];clear eH;refine(hpk _).pthen ?_;simp only[go_sem,adU];refine .intro (fun m ρ H=>∃(i:Nat) (y:AV),Acc U 49 H0 H y (((I.map fun j=>lM gs (kids.getD j l8)).take i).map aK)∧i≤I.length∧m=I.length - i∧lk ρ 1=some (.sl (gs.map lF) .no)∧lk ρ 2=some (.ptr i2 0)∧lk ρ 4=some (.ptr i4 0)∧lk ρ 5=some y∧lk ρ 11=some (.sl (I.map tU) .no)∧lk ρ 12=some (.i I.length)∧lk ρ 13=some (.i i)) I.length ?_ ?_
  ·refine⟨0,.sl [] .full,.full (.refl _),ad4,rfl,?_,?_,?_,?_,?_,?_,?_⟩<;>simp only[go_sem]
  ·rintro m ρ H ⟨i,y,hy,hi,rfl,r1,r2,r4,r5,r11,r12,r13⟩
   obtain⟨qy,eqy⟩:=hy.row;subst eqy;have k2:=hy.1 _ _ g2;simp only[go_sem,r12,r13];refine .intro (fun e=>?_) (fun e=>?_)
   ·have hlt:i<I.length:=ad1 e
    have w1:IntKind.i64.wrap ((i:Int)+1)=((i+1:Nat):Int):=aej;have hjlt:=hIlt _ (adZ hlt);have hsn:((I.map fun j=>lM gs (kids.getD j l8)).take (i+1)).map aK=((I.map fun j=>lM gs (kids.getD j l8)).take i).map aK++ [aK (lM gs (kids.getD I[i] l8))]:=by
     grind [List.take_succ_eq_append_getElem]
    have ix:=fun k=>eE.eq (xs:=I.map tU) (sz:=1) i ad5 aef k
    rw[adV]at ix;obtain⟨j,ej⟩:∃j,I[i]=j:=⟨_,rfl⟩;rw[ej]at ix hsn hjlt;have iy:=fun k=>eE.eq (xs:=kids.map aK) (sz:=7) j ad5 (by rw[adV,jB]) k
    rw[adV]at iy;rw[show kids.getD j l8=kids[j] by grind]at hsn
    have hke:=hKE _ (adZ hjlt);obtain⟨x,ex⟩:∃x,kids[j]=x:=⟨_,rfl⟩;rw[ex]at iy hsn hke;have hr1:=ih x hke gs hf;obtain⟨z,ez⟩:∃z,lM gs x=z:=⟨_,rfl⟩;rw[ez]at hr1 hsn;obtain⟨kid,kset,kalg,ktgt,krules,kkids,kobls⟩:=x;obtain⟨zid,zset,zalg,ztgt,zrules,zkids,zobls⟩:=z;simp only[aK,aW,ay,aX,bL]at iy hr1;simp only[tU]at ix;simp only[go_sem,r1,r2,r5,r11,r13,ix,k2,iy];refine(hr1 _).pthen ?_;simp only[go_sem];refine hy.app (zs:=[aK (.mk zid zset zalg ztgt zrules zkids zobls)]) ad4 ad9 (fun k hk=>show k _ from(by simpa only[aK,aW,ay,aX]using hk)) (by grind [bx,aK,jB]) (by rw[uP];intro z hz;grind [List.mem_singleton,jB]) aeo fun y' H' hy' kp=>?_
    simp only[go_sem,r13,w1];refine⟨_,?_,i+1,y',ad5,ad4,rfl,?_,?_,?_,?_,?_,?_,?_⟩
    ·omega
    all_goals simp only[go_sem,r1,r2,r4,r11,r12]
   ·have hge:i=I.length:=by grind
    subst hge;have htl:(I.map fun j=>lM gs (kids.getD j l8)).take I.length=kN gs kids:=by grind [List.take_of_length_le]
    rw[htl]at r5 hy;have k4:=hy.1 _ _ g4;have n24:i2≠i4:=n42.symm;simp only[go_sem,r2,r4,r5,k2,ak,n42,k4];refine .mk (aK (.mk id set alg tgt rules (kN gs kids) obls)) (V2 rfl _) (((hH0.trans hy.1).put h2 _).put n4' _) ⟨aek,rfl⟩
theorem DI(p:bD)(hp:gI p=0)(gs:List bt)(hf:rT gs)(h:Heap):ai Tryz.prog 51 [aK p,bL gs] h fun r h' =>r= .tup [rsA (fH gs p),.i 0]∧h' =h:=by
 have hpk:=fun G=>Bh 4 1 rfl p (rm hp) gs hf G
 have hev:=fun G=>Di (lM gs p) (GF gs hp) gs hf G
 have hr:=fun G=>uu p G
 rw[hp]at hr;rw[Be]at hev;obtain⟨id,set,alg,tgt,rules,kids,obls⟩:=p;refine ad3 Tryz.func51 17 [.cell 4 118,.tmp 5] fun hwf=>?_
 simp only[go_sem,aK,bL,aW,ay];intro i2 h2;simp only[go_sem];intro i4 h4;have n42:=aH h4;have n4:=aC h4;have hs:∀x y,Ab.Sub h (upd (upd h i2 x) i4 y):=fun x y=>((Sub.refl h).put h2 x).put n4 y
 simp only[go_sem,ak,n42.symm];refine(hr _).pthen ?_;simp only[go_sem,ak,n42.symm];refine(hpk _).pthen ?_;simp only[go_sem];refine(hev _).pthen ?_;simp only[go_sem,rsA,aO,ay];exact afI
end Go.Proofs.YtbbadggejjgihaaGreatDoor
