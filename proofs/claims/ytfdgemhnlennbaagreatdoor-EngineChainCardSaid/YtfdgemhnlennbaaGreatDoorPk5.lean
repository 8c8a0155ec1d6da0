/- The law EngineChain: pack 5 of its texts. -/
import Derived.WalkKit
import Derived.Lib.Walk
import Derived.Lib.SliceRun
import Derived.Lib.AppendZerosOnto
import Derived.Test.YtfdgemhnlennbaaGreatDoorPk1
import Derived.Test.YtfdgemhnlennbaaGreatDoorPk2
import Derived.Test.YtfdgemhnlennbaaGreatDoorPk3
import Derived.Test.YtfdgemhnlennbaaGreatDoorPk4
set_option linter.unusedSimpArgs false
set_option linter.unusedVariables false
set_option maxRecDepth 100000
namespace Go.Bf
open Go Go.Ab Go.Proofs.YtfdgemhnlennbaaGreatDoor
def zM(l:List bz):Prop:=l.length≤16∧∀v∈l,bB v=true∧∀w∈l.head?,v.kind=w.kind
structure OB (gs:List bn):Prop where
 len:gs.length≤64
 each:∀g∈gs,1≤g.cat∧g.cat≤4∧bp g.name=true∧zM g.bag
 dist:gs.Pairwise fun a b=>iL b.cat b.name a=false
def we(g:bn):Int×Txt:=(g.cat,g.name)
theorem Kv(gs:List bn):(gs.Pairwise fun a b=>iL b.cat b.name a=false)↔(gs.map we).Nodup:=by
 simp[List.Nodup,List.pairwise_map,bn,iL,false,we]
theorem ji{v:bz}(h:bB v=true):zM [v]:=⟨aci,fun w hw=>ab8⟩
theorem oO{s:Txt}(h:bp s=true):bB (idV s)=true:=by grind [bB,idV]
theorem HJ{l:List gV}(h:∀r∈l,bp r.role=true)(s:Txt):zM (cX l s):=by
 have hv:∀v∈cX l s,bB v=true∧v.kind=5:=fun v hv=>by
  have:=List.mem_of_mem_take hv;obtain⟨r,hr,rfl⟩:=List.mem_map.1 this;exact⟨oO ab8,rfl⟩
 refine⟨by grind [cX,List.length_take],fun v hm=>⟨(hv v hm).1,fun w hw=>?_⟩⟩
 grind
theorem Kn{c:UInt8}{i j:Nat}(h:sE c j=true)(hi:i≠0):sE c i=true:=by
 simp only[sE,Bool.or_eq_true,Bool.and_eq_true,decide_eq_true_eq]at h⊢
 grind
theorem ET{n:Txt}(h:bp n=true)(hl:n.length≤14):bp ([102,95]++n)=true:=by
 simp only[bp,Bool.and_eq_true,decide_eq_true_eq]at h⊢;obtain⟨⟨h1,h2⟩,h3⟩:=h;refine⟨⟨?_,aci⟩,ab8⟩;unfold vh at h1⊢;rw[List.all_eq_true]at h1⊢
 rintro⟨c,i⟩ hp
 rw[List.mk_mem_zipIdx_iff_getElem?]at hp
 match i,hp with
 |0,hp=>cases hp;rfl
 |1,hp=>cases hp;rfl
 |i+2,hp=>
  exact Kn (h1 (c,i) (List.mk_mem_zipIdx_iff_getElem?.2 hp)) ab7
theorem FQ{s:Txt}(h:s∈o9):bp s=true:=by
 simp only[o9,List.mem_cons,List.not_mem_nil,or_false]at h;rcases h with rfl|rfl|rfl|rfl<;>kernel_rfl
theorem Cc(k:Int)(h:1≤k∧k≤8):bp (jH k)=true:=by
 have:(List.range 9).all (fun n=>bp (jH n))=true:=acr
 have h2:=List.all_eq_true.1 this k.toNat ab8
 rwa [show((k.toNat:Nat):Int)=k by omega]at h2
theorem Mi(l:List wR)(s:Txt):bB (tO l s)=true:=by
 unfold tO;cases l.any fun x=>x.actor==s<;>rfl
theorem HO{c:aL}(hc:tV c)(s:Txt):∀g∈cC c s,g.cat=3∧bp g.name=true∧zM g.bag:=by
 intro g hg;simp only[cC,List.mem_append,List.mem_cons,List.not_mem_nil,or_false]at hg;rcases hg with((rfl|rfl|rfl|rfl|rfl)|hg)|hg
 ·exact⟨rfl,acr,ji (oO hc.id)⟩
 ·exact⟨rfl,acr,ji (oO hc.owner)⟩
 ·exact⟨rfl,acr,ji (oO (FQ hc.state))⟩
 ·exact⟨rfl,acr,ji acr⟩
 ·exact⟨rfl,acr,ji (Mi _ _)⟩
 ·cases hl:c.log.getLast? with
  |none=>grind
  |some x=>
   rw[hl]at hg;rw[List.mem_singleton.1 hg];exact⟨rfl,acr,ji (oO (hc.actor x (List.mem_of_getLast? hl)).1)⟩
 ·obtain⟨f,hf,rfl⟩:=List.mem_map.1 hg
  obtain⟨hf1,hf2⟩:=List.mem_filter.1 hf;have hf2:f.name.length≤14:=ab8;obtain⟨h1,h2,_⟩:=hc.field f hf1;exact⟨rfl,ET h1 hf2,ji h2⟩
theorem HN{c:aL}(hc:tV c)(s:Txt):((cC c s).map we).Nodup:=by
 have hfn:(((c.fields.filter fun f=>decide (f.name.length≤14)).map fun f=>(⟨3,[102,95]++f.name,[f.val]⟩:bn)).map we).Nodup:=by
  rw[List.map_map,List.Nodup,List.pairwise_map];refine((List.Pairwise.filter _ hc.asc).imp fun {a b} hab he=>?_)
  simp_all [Function.comp,we,Prod.mk.injEq,true_and,List.append_cancel_left_eq,lt_irrefl]
 have hff:∀x∈((c.fields.filter fun f=>decide (f.name.length≤14)).map fun f=>(⟨3,[102,95]++f.name,[f.val]⟩:bn)).map we,∃t,x=(3,102::t):=by
  intro x hx;obtain⟨g,hg,rfl⟩:=List.mem_map.1 hx;obtain⟨f,hf,rfl⟩:=List.mem_map.1 hg;exact⟨_,rfl⟩
 unfold cC;rw[List.map_append,List.nodup_append];refine⟨?_,hfn,?_⟩
 ·cases c.log.getLast? with
  |none=>simp[we,idT]
  |some x=>simp[we,idT]
 ·intro a ha b hb
  obtain⟨t,rfl⟩:=hff b hb;intro e;cases hl:c.log.getLast? with
  |none=>
   simp_all [we,idT]
  |some x=>
   simp_all [we,idT]
theorem HI{k:Nat}{s:an}{o:OpD}(hs:dj k s)(hf:dF o=true):OB (fG s o):=by
 have F:=sR hf;have hcs:∀g∈(if bY s.cases o.case=true∧o.kind≠6 then cC (bw s.cases o.case) o.subj else []),g.cat=3∧bp g.name=true∧zM g.bag:=by
  intro g hg;split at hg
  ·rename_i ht
   exact HO (hs.case _ (qc hs.asc ht.1).1) _ g hg
  ·cases hg
 have hcd:((if bY s.cases o.case=true∧o.kind≠6 then cC (bw s.cases o.case) o.subj else []).map we).Nodup:=by
  split
  ·rename_i ht
   exact HN (hs.case _ (qc hs.asc ht.1).1) _
  ·exact .nil
 have hcl:(if bY s.cases o.case=true∧o.kind≠6 then cC (bw s.cases o.case) o.subj else []).length≤22:=by
  split
  ·rename_i ht
   have hc:=hs.case _ (qc hs.asc ht.1).1;have h16:=hc.nfields;have:((bw s.cases o.case).fields.filter fun f=>decide (f.name.length≤14)).length≤(bw s.cases o.case).fields.length:=List.length_filter_le _ _
   simp only[cC,ab1,abX,List.length_cons,List.length_nil];cases (bw s.cases o.case).log.getLast? <;>simp<;>omega
  ·simp
 unfold fG;generalize (if bY s.cases o.case=true∧o.kind≠6 then cC (bw s.cases o.case) o.subj else [])=C at hcs hcd hcl⊢
 have e1:(if o.field= []then []else [(⟨2,[102,105,101,108,100],[idV o.field]⟩:bn)])=if o.field= []then []else [(⟨2,[102,105,101,108,100],[idV o.field]⟩:bn)]:=rfl
 have hro:zM (cX s.roles o.subj):=HJ (fun r hr=>(hs.role r hr).2) _
 have htk:bB ⟨4,s.tick,[]⟩=true:=by
  have:=hs.tick;simp[bB,this]
 have hac:=oO (Cc o.kind F.kind);have hsu:=oO F.subj;refine⟨?_,?_,?_⟩
 ·by_cases p1:o.field= []<;>by_cases p2:o.to= []<;>simp[p1,p2]<;>omega
 ·intro g hg
  simp only[List.mem_append,List.mem_cons,List.not_mem_nil,or_false]at hg;rcases hg with((((rfl|rfl|rfl)|hg)|hg)|rfl)|hg
  ·exact⟨aci,aci,ace,ji hsu⟩
  ·exact⟨aci,aci,ace,hro⟩
  ·exact⟨aci,aci,ace,ji hac⟩
  ·split at hg
   ·cases hg
   ·rename_i hne
    rw[List.mem_singleton.1 hg];exact⟨aci,aci,ace,ji (oO (kg F.field hne))⟩
  ·split at hg
   ·cases hg
   ·rename_i hne
    rw[List.mem_singleton.1 hg];exact⟨aci,aci,ace,ji (oO (kg F.to hne))⟩
  ·exact⟨aci,aci,ace,ji htk⟩
  ·obtain⟨h1,h2,h3⟩:=hcs g hg
   exact⟨ab7,ab7,h2,h3⟩
 ·rw[Kv,List.map_append,List.nodup_append]
  refine⟨?_,hcd,?_⟩
  ·by_cases p1:o.field= []<;>by_cases p2:o.to= []<;>simp[p1,p2,we,idT]
  ·intro a ha b hb e
   subst e;obtain⟨g,hg,rfl⟩:=List.mem_map.1 hb;have h3:=(hcs g hg).1;have hne:∀x∈([⟨1,idT,[idV o.subj]⟩,⟨1,[114,111,108,101],cX s.roles o.subj⟩,⟨2,[110,97,109,101],[idV (jH o.kind)]⟩]++(if o.field= []then []else [⟨2,[102,105,101,108,100],[idV o.field]⟩])++(if o.to= []then []else [⟨2,[116,111],[idV o.to]⟩])++ [⟨4,[110,111,119],[⟨4,s.tick,[]⟩]⟩]:List bn),x.cat≠3:=by
    intro x hx;simp only[List.mem_append,List.mem_cons,List.not_mem_nil,or_false]at hx;rcases hx with(((rfl|rfl|rfl)|hx)|hx)|rfl
    ·simp
    ·simp
    ·simp
    ·split at hx
     ·cases hx
     ·rw[List.mem_singleton.1 hx];simp
    ·split at hx
     ·cases hx
     ·rw[List.mem_singleton.1 hx];simp
    ·simp
   obtain⟨x,hx,he⟩:=List.mem_map.1 ha;have:x.cat=g.cat:=congrArg Prod.fst he;exact hne x hx (by rw[this,h3])
def sL:an→List AV
 |⟨tick,cs,rv,nt,ro,.mk pid set alg tgt rules kids obls,ver⟩=>[.i tick,fZ cs,j4 rv,kY nt,dZ ro,.s pid,.b set,.i alg,aV tgt,.sl (rules.map aB) .no,.sl (fF kids) .no,aA obls,.i ver]
theorem uL(s:an):cK s= .agg (sL s):=by
 obtain⟨tick,cs,rv,nt,ro,⟨pid,set,alg,tgt,rules,kids,obls⟩,ver⟩:=s;rfl
structure Stays (cs cs' :List aL) (id:Txt):Prop where
 len:cs'.length≤cs.length+1
 ids:∀c∈cs,∃d∈cs',d.id=c.id
 rest:∀c∈cs,c.id≠id→c∈cs'
abbrev aT:=Nat×Nat
def naM:aT:=(0,0)
def bh:aT:=(2,0)
def cF:aT:=(0,2)
def Ar:aT:=(1,0)
def Aq:aT:=(0,1)
def oP:aT:=(1,1)
def uv:List aT:=[naM,bh,cF,Ar,Aq,oP]
abbrev jG:=aT×List cA
def gI(m:aT):aT:=if m=bh then Ar else if m=cF then Aq else m
def nX(a b:aT):aT:=(max a.1 b.1,max a.2 b.2)
def D9(m:aT):aT:=(m.2,m.1)
def qC(j:aT):aT:=
 if j.2=2 then cF else if j.2=1∧1≤j.1 then oP else if j.2=1 then Aq else if j.1=2 then bh else if j.1=1 then Ar else naM
def wF(l:List aT):aT:=l.foldl nX naM
def firstM(l:List aT):aT:=(l.find? fun m=>decide (m≠naM)).getD naM
def yT(m:aT):Bool:=decide (m=naM∨m=bh∨m=cF)
def og:List aT→aT→aT
 | [],j=>j
 |m::r,j=>if yT m=false then oP else og r (if j=naM then m else if m≠naM then oP else j)
def gR(alg:Int)(l:List aT):aT:=
 if alg=1 then qC (wF l)
 else if alg=2 then D9 (qC (D9 (wF l)))
 else if alg=3 then firstM l
 else if alg=4 then og l naM
 else if alg=5 then(if bh∈l then bh else cF)
 else if alg=6 then(if cF∈l then cF else bh)
 else naM
def xe(gs:List bn)(a:pR):List bz:=getD gs a.cat a.name
def mY(a b:bz):Option Bool:=
 if bB a=false∨bB b=false∨a.kind≠b.kind∨a.kind=1 then none
 else if a.kind=3∨a.kind=5 then some (Op.bytesLess a.s b.s)else some (decide (a.n<b.n))
def cQ(m:bP)(v:bz):Option Bool:=
 if m.op=1 then(if v.kind=m.val.kind then some (eqV v m.val)else none)
 else if m.op=2 then mY v m.val else mY m.val v
def jP(gs:List bn)(m:bP):Nat:=
 if xe gs m.attr= []∧m.attr.must=true then 1
 else if(xe gs m.attr).any fun v=>cQ m v==some true then 2
 else if(xe gs m.attr).any fun v=>cQ m v==none then 1 else 0
def Ce(gs:List bn)(l:List bP):Nat:=l.foldl (fun a m=>min a (jP gs m)) 2
def zk(gs:List bn)(l:List (List bP)):Nat:=l.foldl (fun a x=>max a (Ce gs x)) 0
def mE(gs:List bn)(t:fY):Nat:=t.foldl (fun a x=>min a (zk gs x)) 2
structure jw where
 bag:List bz
 v:bz
 e:Int
def dJ(b:Bool):bz:=⟨1,if b then 1 else 0,[]⟩
def iV(b:Bool):jw:=⟨[],dJ b,0⟩
def isI(x:jw)(n:Int):Bool:=x.e==0 && eqV x.v ⟨1,n,[]⟩
abbrev w64(n:Int):Int:=IntKind.i64.wrap n
def J2(a b:Int):Bool:=decide (0<b) && decide (w64 (9223372036854775807 - b)<a)||decide (b<0) && decide (a<w64 (-9223372036854775808 - b))
def Mc(a b:Int):Bool:=decide (0<b) && decide (a<w64 (-9223372036854775808+b))||decide (b<0) && decide (w64 (9223372036854775807+b)<a)
def I3(a b:Int):Bool:=a== -1 && b== -9223372036854775808||b== -1 && a== -9223372036854775808||a !=0 && w64 ((w64 (a*b)).tdiv a) !=b
def nF(e:Int):bz×Int:=(au,e)
def zy(o:Bool)(n:Int):bz×Int:=if o then nF 3 else(⟨2,w64 n,[]⟩,0)
def gO(op:Int)(l:List bz):bz×Int:=
 if¬(6≤op∧op≤13)∨l.length≠(if op=11 then 1 else 2)∨(l.all bB)=false then nF 1
 else
  let a:=l.getD 0 au;let b:=l.getD 1 au
  if op=6 then(if a.kind=b.kind then(dJ (eqV a b),0)else nF 2)
  else if op=7 then(match mY a b with
   |some x=>(dJ x,0)
   |none=>nF 2)
  else if op=8∨op=9∨op=10 then
   (if l.all fun v=>v.kind==2 then(if op=8 then zy (J2 a.n b.n) (a.n+b.n)else if op=9 then zy (Mc a.n b.n) (a.n - b.n)else zy (I3 a.n b.n) (a.n*b.n))else nF 2)
  else if(l.all fun v=>v.kind==1)=false then nF 2
  else if op=11 then(dJ (a.n==0),0)
  else if op=12 then(dJ (a.n==1 && b.n==1),0)
  else(dJ (a.n==1||b.n==1),0)
def opsOf(op:Int):Nat:=if op=1∨op=2 then 0 else if op=3∨op=4∨op=11 then 1 else 2
def zK(r:bz×Int):jw:=⟨[],r.1,r.2⟩
def kX(gs:List bn)(n:aO)(l:List jw):jw:=
 if n.op=1 then⟨[],n.val,0⟩
 else if n.op=2 then(if xe gs n.attr= []∧n.attr.must=true then⟨[],au,4⟩else⟨xe gs n.attr,au,0⟩)
 else if(n.op=12∨n.op=13)∧(l.any fun x=>isI x (n.op - 12))=true then iV (n.op==13)
 else match l.find? fun x=>x.e !=0 with
  |some x=>⟨[],au,x.e⟩
  |none=>
   if n.op=3 then(match (l.headD ⟨[],au,0⟩).bag with
    | [v]=>⟨[],v,0⟩
    |_=>⟨[],au,4⟩)
   else if n.op=4 then⟨[],⟨2,(l.headD ⟨[],au,0⟩).bag.length,[]⟩,0⟩
   else if n.op=5 then iV ((l.headD ⟨[],au,0⟩).bag.any fun v=>eqV v (l.getD 1 ⟨[],au,0⟩).v)
   else zK (gO n.op (l.map (·.v)))
def yS(gs:List bn)(st:List jw)(n:aO):List jw:=st.take (st.length - opsOf n.op)++ [kX gs n (st.drop (st.length - opsOf n.op))]
def vC(gs:List bn)(l:List aO):jw:=if l= []then zK (nF 1)else(l.foldl (yS gs) []).headD (zK (nF 1))
def qg(gs:List bn)(l:List aO):Nat:=if l.isEmpty then 2 else if isI (vC gs l) 1 then 2 else if isI (vC gs l) 0 then 0 else 1
def eN(l:List cA)(m:aT):List cA:=l.filter fun o=>o.on==1 && m==bh||o.on==2 && m==cF
def mW(r:cP)(t c:Nat):jG:=
 let m:=if r.deny then cF else bh
 if t=0∨t=2∧c=0 then(naM,[])else if t=1∨c=1 then(gI m,[])else(m,eN r.obls m)
def gY(gs:List bn)(r:cP):jG:=mW r (mE gs r.tgt) (qg gs r.cond)
def eP(alg:Int)(m:aT)(parts:List jG):List cA:=
 if alg=3 then((parts.find? fun x=>x.1==m).map (·.2)).getD []else((parts.filter fun x=>x.1==m).map (·.2)).flatten
def pH(alg:Int)(obls:List cA)(t:Nat)(parts:List jG):jG:=
 let m:=gR alg (parts.map (·.1))
 if t=0 then(naM,[])else if t=1 then(gI m,[])else if m≠bh∧m≠cF then(m,[])
 else(m,eP alg m parts++eN obls m)
mutual
def fE(gs:List bn):bH→jG
 |.mk id set alg tgt rules kids obls=>if mE gs tgt=0 then(naM,[])else pH alg obls (mE gs tgt) (rules.map (gY gs)++mu gs kids)
def mu(gs:List bn):List bH→List jG
 | []=>[]
 |k::r=>fE gs k::mu gs r
end
theorem sO(gs:List bn):∀l:List bH,mu gs l=l.map (fE gs)
 | []=>acr
 |k::r=>by simp[mu,sO gs r]
def si:bH→fY
 |.mk _ _ _ t _ _ _=>t
def nY:fY→Option bP
 | []=>none
 | [l]::r=>match l.find? fun m=>m.op==1 && !m.attr.must with
  |some m=>some m
  |none=>nY r
 |_::r=>nY r
def rZ(gs:List bn)(p:bH):Bool:=match nY (si p)with
 |none=>true
 |some m=>decide (jP gs m≠0)
mutual
def kZ(gs:List bn):bH→bH
 |.mk id set alg tgt rules kids obls=> .mk id set alg tgt rules (j3 gs kids) obls
def j3(gs:List bn):List bH→List bH
 | []=>[]
 |k::r=>if rZ gs k then kZ gs k::j3 gs r else j3 gs r
end
end Go.Bf
namespace Go.Bf
open Go Go.Ab
def oo:Nat→Nat→Txt
 |0,_=>[]
 |f+1,u=>if u<128 then [UInt8.ofNat u]else UInt8.ofNat (u % 128+128)::oo f (u / 128)
def zig(n:Int):Nat:=if 0≤n then 2*n.toNat else 2*(-n).toNat - 1
def iH(n:Int):Txt:=oo 10 (zig n)
def cZ(s:Txt):Txt:=iH s.length++s
def nN(v:bz):Txt:=iH v.kind++(if v.kind=3∨v.kind=5 then cZ v.s else iH v.n)
def iU(o:OpD):Txt:=iH o.kind++(cZ o.subj++(cZ o.case++(cZ o.field++(cZ o.to++(nN o.val++(iH o.review++(cZ o.text++(cZ o.reason++nN (dJ o.glass)))))))))
theorem MB{n:Int}(h:i64 n):zig n<128 ^ 10:=by
 grind [i64,zig,Nat]
structure V2 (v:bz):Prop where
 kind:i64 v.kind
 n:i64 v.n
 s:v.s.length≤1000000
 one:(v.kind=3∨v.kind=5→v.n=0)∧(¬(v.kind=3∨v.kind=5)→v.s= [])
structure OpC (o:OpD):Prop where
 kind:i64 o.kind
 subj:o.subj.length≤1000000
 case:o.case.length≤1000000
 field:o.field.length≤1000000
 to:o.to.length≤1000000
 val:V2 o.val
 review:i64 o.review
 text:o.text.length≤1000000
 reason:o.reason.length≤1000000
structure RS where
 b:Txt
 at_:Nat
 bad:Bool
def unzig(u:Nat):Int:=if u % 2=1 then -((u / 2:Nat):Int) - 1 else((u / 2:Nat):Int)
def qF:Nat→Nat→Nat→Txt→Int×Nat
 |0,_,_,_=>(0,0)
 |_+1,_,_,[]=>(0,0)
 |f+1,i,u,c::r=>
  if(i=9∧1<c.toNat)∨(0<i∧c.toNat=0)then(0,0)
  else if c.toNat<128 then(unzig (u+c.toNat*128 ^ i),i+1)
  else qF f (i+1) (u+c.toNat % 128*128 ^ i) r
def lP(s:RS)(a:Nat):RS:=if s.bad=false∧a≤s.at_ then {s with at_:=a,bad:=true} else s
def rIn(s:RS)(lo hi:Int):Int×RS:=
 if s.bad then(0,s)else
 let x:=qF 10 0 0 (s.b.drop s.at_)
 if x.2=0∨x.1<lo∨hi<x.1 then(0,lP s s.at_)else(x.1,{s with at_:=s.at_+x.2})
def gj(s:RS):Int×RS:=rIn s (-9223372036854775808) 9223372036854775807
def bS(s:RS)(most:Int):Txt×RS:=
 let x:=rIn s 0 most
 if x.2.bad∨(x.2.b.length:Int) - x.2.at_<x.1 then([],lP x.2 s.at_)else((x.2.b.drop x.2.at_).take x.1.toNat,{x.2 with at_:=x.2.at_+x.1.toNat})
def nW(k:Int):Bool:=k==3||k==5
def pQ(s:RS):bz×RS:=
 let x:=rIn s 1 5
 let y:bz×RS:=if nW x.1 then(let t:=bS x.2 64;(⟨x.1,0,t.1⟩,t.2))else(let t:=gj x.2;(⟨x.1,t.1,[]⟩,t.2))
 if y.2.bad then(au,y.2)else if bB y.1=false then(au,lP y.2 s.at_)else y
def oZ(s:RS):bz×RS:=
 if s.at_<s.b.length∧s.b.getD s.at_ 0=0 then(au,(rIn (rIn s 0 0).2 0 0).2)else pQ s
def rOp(b:Txt):OpD×RS:=
 let k:=gj ⟨b,0,false⟩
 let s1:=bS k.2 16
 let s2:=bS s1.2 16
 let s3:=bS s2.2 16
 let s4:=bS s3.2 16
 let v:=oZ s4.2
 let r:=gj v.2
 let t:=bS r.2 4096
 let w:=bS t.2 64
 let g:=pQ w.2
 (⟨k.1,s1.1,s2.1,s3.1,s4.1,v.1,r.1,t.1,w.1,eqV g.1 (dJ true)⟩,g.2)
def Jh(s:RS):Bool:=decide (s.b.length≤s.at_) && !s.bad
def nV(b:Txt):Option OpD:=if Jh (rOp b).2 && dF (rOp b).1 && decide (iU (rOp b).1=b)then some (rOp b).1 else none
theorem JI(n:Int):unzig (zig n)=n:=by
 grind [unzig,zig]
theorem Ei{n:Int}(h:i64 n):zig n<18446744073709551616:=by
 grind [i64,zig]
theorem Hz:∀(f v:Nat),0<f→oo f v≠ []
 |0,_,h=>ab7
 |f+1,v,_=>by grind [oo]
theorem GR:∀(f i u v:Nat) (r:Txt),f+i=10→0<f→v<128 ^ f→u<128 ^ i→u+v*128 ^ i<18446744073709551616→(0<i→0<v)→
  qF f i u (oo f v++r)=(unzig (u+v*128 ^ i),i+(oo f v).length)
 |0,i,u,v,r,_,h,_,_,_,_=>ab7
 |f+1,i,u,v,r,hfi,_,hv,hu,ht,h0=>by
  have p9:(128:Nat) ^ 9=9223372036854775808:=acd;have hlt:∀n,n<256→(UInt8.ofNat n).toNat=n:=fun n hn=>by
   rw[UInt8.toNat_ofNat'];omega
  by_cases hs:v<128
  ·have e:oo (f+1) v= [UInt8.ofNat v]:=by simp_all [oo,if_pos]
   rw[e];simp only[List.singleton_append,qF,hlt v ab7,List.length_singleton];have hn:¬((i=9∧1<v)∨(0<i∧v=0)):=by
    grind
   rw[if_neg hn,if_pos hs]
  ·have e:oo (f+1) v=UInt8.ofNat (v % 128+128)::oo f (v / 128):=by simp_all [oo,if_neg]
   rw[e];simp only[List.cons_append,qF,hlt (v % 128+128) ab7,List.length_cons];have hi9:i≠9:=by
    grind
   have hn:¬((i=9∧1<v % 128+128)∨(0<i∧v % 128+128=0)):=by
    omega
   rw[if_neg hn,if_neg ab7];have hp:(128:Nat) ^ (i+1)=128 ^ i*128:=acr;have hsum:u+(v % 128+128) % 128*128 ^ i+v / 128*128 ^ (i+1)=u+v*128 ^ i:=by
    have h1:(v % 128+128) % 128=v % 128:=ab7;rw[h1,hp,Nat.mul_comm (128 ^ i) 128,←Nat.mul_assoc,Nat.add_assoc,←Nat.add_mul]
    congr 2
    omega
   have hf:0<f:=by
    omega
   have hv' :v / 128<128 ^ f:=by
    omega
   have hu' :u+(v % 128+128) % 128*128 ^ i<128 ^ (i+1):=by
    have h1:(v % 128+128) % 128≤127:=ab7;have h2:=Nat.mul_le_mul_right (128 ^ i) h1;rw[hp];omega
   rw[GR f (i+1) _ (v / 128) r ab7 hf hv' hu' ab7 ab7,hsum]
   congr 1
   omega
theorem NS{n:Int}(h:i64 n)(r:Txt):qF 10 0 0 (iH n++r)=(n,(iH n).length):=by
 have:=GR 10 0 0 (zig n) r rfl acd (MB h) acd (by grind [Ei]) ab7
 simp only[Nat.pow_zero,Nat.mul_one,Nat.zero_add]at this;unfold iH;rw[this,JI]
def rAt(s:RS)(x:Txt):Prop:=s.bad=false∧s.at_≤s.b.length∧s.b.drop s.at_=x
def rOn(s:RS)(n:Nat):RS:={s with at_:=s.at_+n}
theorem rAt.on{s:RS}{x y:Txt}(h:rAt s (x++y)):rAt (rOn s x.length) y:=by
 obtain⟨h1,h2,h3⟩:=h;have hl:=congrArg List.length h3;refine⟨h1,by grind [rOn],?_⟩
 grind [rOn,List.drop_drop,List.drop_left]
theorem xS{s:RS}{n lo hi:Int}{r:Txt}(h:rAt s (iH n++r))(hn:i64 n)(h1:lo≤n)(h2:n≤hi):rIn s lo hi=(n,rOn s (iH n).length):=by
 unfold rIn;have hl:0<(iH n).length:=List.length_pos_iff.2 (Hz 10 _ acd);rw[if_neg (by rw[h.1];simp),h.2.2,NS hn]
 rw[if_neg ab7];rfl
theorem BD{s:RS}{n:Int}{r:Txt}(h:rAt s (iH n++r))(hn:i64 n):gj s=(n,rOn s (iH n).length):=xS h hn hn.1 hn.2
theorem mJ{s:RS}{t:Txt}{most:Nat}{r:Txt}(h:rAt s (cZ t++r))(ht:t.length≤most)(hm:most≤100000):bS s most=(t,rOn s (cZ t).length):=by
 unfold cZ at h⊢;rw[List.append_assoc]at h;have h6:i64 (t.length:Int):=⟨ab7,ab7⟩;have ha:=h.on;unfold bS;rw[xS (lo:=0) (hi:=most) h h6 ab7 ab7];have hl:=congrArg List.length ha.2.2;have hle:=ha.2.1;rw[if_neg (by rw[ha.1];grind),ha.2.2]
 simp[rOn,ab1,Nat.add_assoc]
theorem za{v:bz}(h:bB v=true):1≤v.kind∧v.kind≤5:=by
 grind [bB]
end Go.Bf
namespace Go.Bf
open Go Go.Ab Go.Proofs.YtfdgemhnlennbaaGreatDoor
theorem qZ{n:Int}(h1: -1000000≤n)(h2:n≤1000000):i64 n:=⟨ab7,ab7⟩
theorem uY{v:bz}(h:bB v=true)(hk:v.kind=3∨v.kind=5):v.n=0∧v.s.length≤64:=by
 unfold bB at h;rcases hk with e|e
 ·grind
 ·rw[if_neg ab7,if_neg ab7,if_neg ab7,if_neg ab7,if_pos e]at h
  simp only[bp,Bool.and_eq_true,beq_iff_eq,decide_eq_true_eq]at h;omega
theorem A2{v:bz}(h:bB v=true)(hk:¬(v.kind=3∨v.kind=5)):v.s= []:=by
 unfold bB at h
 grind
theorem Hy{s:RS}{v:bz}{r:Txt}(h:rAt s (nN v++r))(hv:bB v=true)(hn:i64 v.n):pQ s=(v,rOn s (nN v).length):=by
 obtain⟨hk1,hk2⟩:=za hv;unfold nN at h⊢;rw[List.append_assoc]at h;have ha:=h.on;unfold pQ;rw[xS (lo:=1) (hi:=5) h (by grind [qZ]) hk1 hk2]
 by_cases e:v.kind=3∨v.kind=5
 ·obtain⟨e1,e2⟩:=uY hv e
  rw[if_pos e]at ha⊢;have ht:nW v.kind=true:=by grind [nW]
  have hx:=mJ (most:=64) ha e2 ab7;simp only[ht,if_true];rw[show((64:Nat):Int)=64 from rfl]at hx
  rw[hx];have ev:(⟨v.kind,0,v.s⟩:bz)=v:=by rw[←e1]
  exact ahN
 ·have e1:=A2 hv e
  rw[if_neg e]at ha⊢;have ht:nW v.kind=false:=by simp_all [nW,not_or]
  have hx:=BD ha hn;simp only[ht,Bool.false_eq_true,if_false];rw[hx];have ev:(⟨v.kind,v.n,[]⟩:bz)=v:=by rw[←e1]
  exact ahN
theorem Dl:iH 0= [0]:=acr
theorem Lt{k:Int}(h1:1≤k)(h2:k≤5):∃c,iH k= [c]∧c≠0:=by
 have:k=1∨k=2∨k=3∨k=4∨k=5:=ab7;rcases this with rfl|rfl|rfl|rfl|rfl
 ·exact⟨2,acr,acd⟩
 ·exact⟨4,acr,acd⟩
 ·exact⟨6,acr,acd⟩
 ·exact⟨8,acr,acd⟩
 ·exact⟨10,acr,acd⟩
theorem rAt.head{s:RS}{c:UInt8}{x:Txt}(h:rAt s (c::x)):s.at_<s.b.length∧s.b.getD s.at_ 0=c:=by
 have hl:=congrArg List.length h.2.2;rw[List.length_drop,List.length_cons]at hl;refine⟨ab7,?_⟩;have:=congrArg (fun l=>l[0]?) h.2.2
 simp only[List.getElem?_drop,Nat.add_zero,List.getElem?_cons_zero]at this;rw[List.getD_eq_getElem?_getD,this];rfl
theorem I2{s:RS}{v:bz}{r:Txt}(h:rAt s (nN v++r))(hv:v=au∨bB v=true)(hn:i64 v.n):oZ s=(v,rOn s (nN v).length):=by
 rcases hv with rfl|hv
 ·have e:nN au= [0,0]:=by rfl
  rw[e]at h⊢;have hh:=rAt.head (c:=0) (x:=0::r) h;unfold oZ;rw[if_pos ⟨hh.1,hh.2⟩];have h' :rAt s (iH 0++(iH 0++r)):=by grind [Dl]
  rw[xS h' (by grind [qZ]) (Int.le_refl 0) (Int.le_refl 0)]
  rw[xS h'.on (by grind [qZ]) (Int.le_refl 0) (Int.le_refl 0)]
  simp[Dl,rOn,Nat.add_assoc]
 ·obtain⟨hk1,hk2⟩:=za hv
  obtain⟨c,e,hc⟩:=Lt hk1 hk2;have hh:rAt s (c::((if v.kind=3∨v.kind=5 then cZ v.s else iH v.n)++r)):=by
   grind [nN]
  unfold oZ;rw[if_neg (by grind [rAt.head])]
  exact Hy h hv hn
theorem uc{t:Txt}(h:iT t=true):t.length≤16:=by
 unfold iT at h;simp only[Bool.or_eq_true,beq_iff_eq]at h;rcases h with rfl|h
 ·simp
 simp_all [bp,Bool.and_eq_true,decide_eq_true_eq]
structure OpF (o:OpD):Prop where
 subj:o.subj.length≤16
 case:o.case.length≤16
 field:o.field.length≤16
 to:o.to.length≤16
 val:o.val=au∨bB o.val=true
 text:o.text.length≤4096
 reason:o.reason.length≤64
theorem nI{o:OpD}(h:dF o=true):OpF o:=by
 simp only[dF,Bool.and_eq_true,decide_eq_true_eq]at h;obtain⟨⟨⟨⟨⟨⟨⟨h1,h2⟩,h3⟩,h4⟩,h5⟩,h6⟩,h7⟩,h8⟩:=h;simp only[bp,Bool.and_eq_true,decide_eq_true_eq]at h1;refine⟨h1.2,uc h4,uc h5,uc h6,?_,h3,?_⟩
 ·simp only[Bool.or_eq_true]at h7
  rcases h7 with h7|h7
  ·left
   generalize o.val=v at h7;obtain⟨k,n,s⟩:=v;simp only[eqV,au,Bool.and_eq_true,beq_iff_eq]at h7;obtain⟨rfl,rfl,rfl⟩:=h7;rfl
  grind
 ·unfold lU at h2
  grind
theorem yY(b:Bool):bB (dJ b)=true:=by cases b<;>rfl
theorem Mj(b:Bool):eqV (dJ b) (dJ true)=b:=by cases b<;>rfl
theorem Q7{o:OpD}(hf:OpF o)(h64:nC o):rOp (iU o)=(o,⟨iU o,(iU o).length,false⟩):=by
 have h0:rAt ⟨iU o,0,false⟩ (iU o):=⟨rfl,Nat.zero_le _,rfl⟩;obtain⟨k1,k2,k3,k4⟩:=h64;unfold iU at h0;have e0:=BD h0 k1;have h1:=h0.on;have e1:=mJ (most:=16) h1 hf.subj ab7;have h2:=h1.on;have e2:=mJ (most:=16) h2 hf.case ab7;have h3:=h2.on;have e3:=mJ (most:=16) h3 hf.field ab7;have h4:=h3.on;have e4:=mJ (most:=16) h4 hf.to ab7;have h5:=h4.on;have e5:=I2 h5 hf.val k3;have h6:=h5.on;have e6:=BD h6 k4;have h7:=h6.on;have e7:=mJ (most:=4096) h7 hf.text ab7;have h8:=h7.on;have e8:=mJ (most:=64) h8 hf.reason ab7;have h9:=h8.on;have h9' :=h9;rw[←List.append_nil (nN (dJ o.glass))]at h9';have e9:=Hy h9' (yY _) (by cases o.glass<;>exact⟨acd,acd⟩)
 have h10:=h9'.on;simp only[List.append_nil]at e9 h10;simp only[show((16:Nat):Int)=16 from rfl,show((4096:Nat):Int)=4096 from rfl,show((64:Nat):Int)=64 from rfl]at e1 e2 e3 e4 e7 e8
 have hend:=congrArg List.length h10.2.2;rw[List.length_drop,List.length_nil]at hend;have hle:=h10.2.1;unfold rOp;rw[show iU o=iH o.kind++(cZ o.subj++(cZ o.case++(cZ o.field++(cZ o.to++(nN o.val++(iH o.review++(cZ o.text++(cZ o.reason++nN (dJ o.glass)))))))))from rfl]
 simp only[e0,e1,e2,e3,e4,e5,e6,e7,e8,e9,Mj];simp only[rOn]at hend hle⊢;refine Prod.ext rfl ?_;simp only[RS.mk.injEq,and_true,true_and];omega
theorem No{o:OpD}(hf:dF o=true)(h64:nC o):nV (iU o)=some o:=by
 grind [nV,Q7,nI,Jh]
theorem get_some{b:Txt}{o:OpD}(h:nV b=some o):dF o=true∧iU o=b:=by
 unfold nV at h
 grind
theorem sQ{α:Type}(f:α→Nat):∀(l:List α) (a:Nat),l.foldl (fun a x=>min a (f x)) a≤a∧∀x∈l,l.foldl (fun a x=>min a (f x)) a≤f x
 | [],a=>aci
 |y::l,a=>by
  obtain⟨h1,h2⟩:=sQ f l (min a (f y))
  grind
theorem NA{gs:List bn}:∀ {t:fY} {m:bP},nY t=some m→jP gs m=0→mE gs t=0:=by
 intro t;have main:∀(t:fY) (m:bP),nY t=some m→jP gs m=0→∃x∈t,zk gs x=0:=by
  intro t
  induction t with
  |nil=>intro m h;cases h
  |cons x r ih=>
   intro m h h0
   match x,h with
   | [],h=>obtain⟨y,hy,e⟩:=ih m h h0;exact⟨y,List.mem_cons_of_mem _ hy,e⟩
   | [l],h=>
    simp only[nY]at h;cases hf:l.find? fun m=>m.op==1 && !m.attr.must with
    |none=>rw[hf]at h;obtain⟨y,hy,e⟩:=ih m h h0;exact⟨y,List.mem_cons_of_mem _ hy,e⟩
    |some k=>
     rw[hf]at h;cases h;have hm:=List.mem_of_find?_eq_some hf;have hall:Ce gs l=0:=by
      have:=(sQ (jP gs) l 2).2 _ hm;rw[h0]at this;exact Nat.le_zero.1 this
     exact⟨[l],List.mem_cons_self ..,by grind [zk]⟩
   |a::b::c,h=>obtain⟨y,hy,e⟩:=ih m h h0;exact⟨y,List.mem_cons_of_mem _ hy,e⟩
 intro m h h0;obtain⟨x,hx,e⟩:=main t m h h0;have:=(sQ (zk gs) t 2).2 x hx;rw[e]at this;exact Nat.le_zero.1 this
theorem NO{gs:List bn}{p:bH}(h:rZ gs p=false):fE gs p=(naM,[]):=by
 obtain⟨id,set,alg,tgt,rules,kids,obls⟩:=p;unfold rZ at h;simp only[si]at h;cases hk:nY tgt with
 |none=>grind
 |some m=>
  simp_all [jP,fE,NA,if_true]
theorem Nx(j:aT):nX j naM=j:=by simp[nX,naM]
inductive Drop:List jG→List jG→Prop
 |nil:Drop [] []
 |keep (x:jG) {a b:List jG} (h:Drop a b):Drop (x::a) (x::b)
 |skip {a b:List jG} (h:Drop a b):Drop a ((naM,[])::b)
theorem Drop.app{a b c:List jG}(h:Drop a b):Drop (c++a) (c++b):=by
 induction c with
 |nil=>exact h
 |cons x c ih=>grind [keep]
theorem Drop.join{a b:List jG}(h:Drop a b):∀j,(a.map (·.1)).foldl nX j=(b.map (·.1)).foldl nX j:=by
 induction h with
 |nil=>simp
 |keep x h ih=>grind
 |skip h ih=>grind [Nx]
theorem Drop.first{a b:List jG}(h:Drop a b):firstM (a.map (·.1))=firstM (b.map (·.1)):=by
 unfold firstM
 congr 1
 induction h with
 |nil=>rfl
 |keep x h ih=>grind
 |skip h ih=>simpa using ih
theorem Drop.only{a b:List jG}(h:Drop a b):∀j,og (a.map (·.1)) j=og (b.map (·.1)) j:=by
 induction h with
 |nil=>simp
 |keep x h ih=>grind [og]
 |skip h ih=>
  intro j;have hs:yT naM=true:=acd;simp only[List.map_cons,og,hs,Bool.true_eq_false,if_false];rw[←ih]
  congr 1
  simp
theorem Drop.mem{a b:List jG}(h:Drop a b){m:aT}(hm:m≠naM):m∈a.map (·.1)↔m∈b.map (·.1):=by
 exact ag9
theorem Drop.comb{a b:List jG}(h:Drop a b)(alg:Int):gR alg (a.map (·.1))=gR alg (b.map (·.1)):=by
 unfold gR wF;rw[h.join,h.first,h.only];simp only[h.mem (show bh≠naM by decide),h.mem (show cF≠naM by decide)]
theorem Drop.parts{a b:List jG}(h:Drop a b)(alg:Int){m:aT}(hm:m≠naM):eP alg m a=eP alg m b:=by
 have h1:(a.find? fun x=>x.1==m)=b.find? fun x=>x.1==m:=by
  exact ag9
 have h2:(a.filter fun x=>x.1==m)=b.filter fun x=>x.1==m:=by
  clear h1;exact ag9
 simp only[eP,h1,h2]
theorem Drop.pH{a b:List jG}(h:Drop a b)(alg:Int)(obls:List cA)(t:Nat):pH alg obls t a=pH alg obls t b:=by
 unfold Go.Bf.pH;simp only[h.comb alg]
 by_cases hp:gR alg (b.map (·.1))=bh
 ·rw[hp,h.parts alg acd]
 ·by_cases hd:gR alg (b.map (·.1))=cF
  ·rw[hd,h.parts alg acd]
  grind
mutual
theorem AE(gs:List bn):∀p:bH,fE gs (kZ gs p)=fE gs p
 |.mk id set alg tgt rules kids obls=>by
  simp only[kZ,fE]
  by_cases h:mE gs tgt=0
  ·simp only[h,if_true]
  ·simp only[h,if_false]
   exact(AF gs kids).app.pH alg obls _
theorem AF(gs:List bn):∀l:List bH,Drop (mu gs (j3 gs l)) (mu gs l)
 | []=>by simp only[j3,mu];exact .nil
 |k::r=>by
  have ih1:=AE gs k;have ih2:=AF gs r;simp only[j3,mu]
  by_cases h:rZ gs k=true
  ·simp only[h,if_true,mu,ih1]
   exact .keep _ ih2
  ·have h:rZ gs k=false:=by simpa using h
   simp only[h,Bool.false_eq_true,if_false,NO h];exact .skip ih2
end
structure j8 where
 err:Int
 mark:aT
 glass:Bool
 val:bz
 hidden:Bool
 at_:Int
structure pS where
 op:OpD
 version:Int
 mark:aT
 glass:Bool
 obls:List cA
def Oy:OpD:=⟨0,[],[],[],[],au,0,[],[],false⟩
def wP:pS:=⟨Oy,0,naM,false,[]⟩
def BC:Txt:=[103,108,97,115,115]
def qD(s:an)(r:pT):Bool:=r.isOpen && decide (100≤s.tick - r.tick)
def La(s:an)(subj:Txt):Bool:=s.reviews.any fun r=>r.subj==subj && qD s r
def sD(s:an)(o:OpD)(m:aT):Bool:=o.glass && (m==cF||m==naM) && xO s.roles ⟨o.subj,BC⟩ && !La s o.subj
def AP(s:an)(o:OpD)(reason:Txt):pT:=⟨(s.reviews.length:Int)+1,s.tick,o.subj,o.case,jH o.kind,reason,true⟩
def cg(s:an)(o:OpD)(reason:Txt):an:={s with reviews:=s.reviews++ [AP s o reason]}
def jM(l:List cA)(field:Txt):Bool:=l.any fun x=>x.kind==2 && x.arg==field
def iG(cs:List aL)(id:Txt):Nat:=cs.findIdx fun c=>c.id==id
def iN(s:an)(o:OpD)(what:Txt):an:=
 if iG s.cases o.case<s.cases.length∧o.kind≠6 then {s with cases:=s.cases.modify (iG s.cases o.case) fun c=>jn s c o.subj what} else s
def fD(o:OpD)(done:Bool)(s:an)(x:cA):an:=
 if x.kind=1∧done=true then iN s o x.arg
 else if x.kind=3 then cg s o x.arg
 else if x.kind=4 then {s with notices:=s.notices++ [⟨s.tick,o.case,x.arg⟩]}
 else s
def dD(s:an)(o:OpD)(l:List cA)(done:Bool):an:=l.foldl (fD o done) s
def rI(s:an):Bool:=decide (256<s.reviews.length)||decide (256<s.notices.length)||s.cases.any fun c=>decide (256<c.log.length)
def gJ(s:an)(o:OpD):jG:=fE (fG s o) s.policy
def jX(s:an)(o:OpD):Int×Int:=if bL s o=0∧o.kind=7 then((aQ o.text).2.1,(aQ o.text).2.2)else(bL s o,0)
def fH(s:an)(o:OpD):Bool:=sD s o (gJ s o).1
def sF(s:an)(o:OpD):Bool:=decide ((gJ s o).1=bh)||fH s o
def cW(s:an)(o:OpD):an:=
 let s1:=if fH s o then cg s o o.reason else s
 dD (if sF s o then dU aQ s1 o else s1) o (gJ s o).2 (sF s o)
def o6(s:an)(o:OpD):j8:=
 ⟨if sF s o then 0 else 12,(gJ s o).1,fH s o,if sF s o && o.kind==2 && !jM (gJ s o).2 o.field then eO (bw s.cases o.case).fields o.field else au,sF s o && o.kind==2 && jM (gJ s o).2 o.field,0⟩
def aP(s:an)(o:OpD):an×j8×pS×Int:=
 if(jX s o).1≠0 then(s,⟨(jX s o).1,naM,false,au,false,(jX s o).2⟩,wP,(jX s o).1)
 else if rI (cW s o)then(s,⟨6,naM,false,au,false,0⟩,wP,6)
 else(cW s o,o6 s o,⟨o,s.version,(gJ s o).1,fH s o,(gJ s o).2⟩,0)
theorem ye(s:an)(o:OpD)(w:Txt):(iN s o w).tick=s.tick∧(iN s o w).roles=s.roles∧(iN s o w).policy=s.policy∧(iN s o w).version=s.version∧(iN s o w).reviews=s.reviews∧(iN s o w).notices=s.notices:=by
 grind [iN]
theorem CC(o:OpD)(done:Bool)(s:an)(x:cA):(fD o done s x).tick=s.tick∧(fD o done s x).roles=s.roles∧(fD o done s x).policy=s.policy∧(fD o done s x).version=s.version:=by
 unfold fD;split
 ·grind [ye]
 ·split
  ·exact⟨rfl,rfl,rfl,rfl⟩
  grind
theorem EK(o:OpD)(done:Bool):∀(l:List cA) (s:an),(dD s o l done).tick=s.tick∧(dD s o l done).roles=s.roles∧(dD s o l done).policy=s.policy∧(dD s o l done).version=s.version
 | [],s=>⟨rfl,rfl,rfl,rfl⟩
 |x::l,s=>by
  obtain⟨a1,a2,a3,a4⟩:=CC o done s x;obtain⟨b1,b2,b3,b4⟩:=EK o done l (fD o done s x);exact⟨b1.trans a1,b2.trans a2,b3.trans a3,b4.trans a4⟩
def gH(o:OpD)(a b:List pT):Prop:=∃c,b=a++c∧∀i (h:i<c.length),c[i].id=((a.length+i+1:Nat):Int)∧c[i].isOpen=true∧c[i].subj=o.subj
theorem gH.refl(o:OpD)(a:List pT):gH o a a:=⟨[],aci,fun i h=>acZ⟩
theorem gH.trans{o:OpD}{a b c:List pT}(h1:gH o a b)(h2:gH o b c):gH o a c:=by
 obtain⟨x,rfl,hx⟩:=h1;obtain⟨y,rfl,hy⟩:=h2;refine⟨x++y,aci,fun i h=>?_⟩
 grind
theorem gH.open(s:an)(o:OpD)(w:Txt):gH o s.reviews (cg s o w).reviews:=⟨[AP s o w],rfl,fun i h=>by
 have:i=0:=ab8;subst this;exact⟨acr,rfl,rfl⟩⟩
theorem gH.duties(o:OpD)(done:Bool):∀(l:List cA) (s:an),gH o s.reviews (dD s o l done).reviews
 | [],s=> .refl o _
 |x::l,s=>by
  have:gH o s.reviews (fD o done s x).reviews:=by
   unfold fD;split
   ·grind [ye,refl]
   ·split
    ·exact .open s o _
    grind [refl]
  exact this.trans (gH.duties o done l _)
structure F3 (c:aL):Prop where
 id:bp c.id=true
 owner:bp c.owner=true
 state:c.state∈o9
 asc:Ej c.fields
 nfields:c.fields.length≤16
 field:∀f∈c.fields,bp f.name=true∧bB f.val=true∧eqV f.val au=false
 log1:1≤c.log.length
 actor:∀x∈c.log,bp x.actor=true∧i64 x.tick
theorem tV.w{c:aL}(h:tV c):F3 c:=⟨h.id,h.owner,h.state,h.asc,h.nfields,h.field,h.log1,h.actor⟩
theorem F3.ok{c:aL}(h:F3 c)(hl:c.log.length≤256):tV c:=⟨h.id,h.owner,h.state,h.asc,h.nfields,h.field,h.log1,hl,h.actor⟩
structure lE (k:Nat) (s:an):Prop where
 tick:0≤s.tick∧s.tick≤1099511627776
 asc:Asc s.cases
 ncases:s.cases.length≤64
 case:∀c∈s.cases,F3 c
 roles:s.roles.length≤64
 role:∀r∈s.roles,bp r.subj=true∧bp r.role=true
 pol:gx s.policy=0
 ver:0≤s.version∧s.version≤k
theorem dj.w{k:Nat}{s:an}(h:dj k s):lE k s:=⟨h.tick,h.asc,h.ncases,fun c hc=>(h.case c hc).w,h.roles,h.role,h.pol,h.ver⟩
theorem lE.ok{k:Nat}{s:an}(h:lE k s)(ho:rI s=false):dj k s:=by
 unfold rI at ho;simp only[Bool.or_eq_false_iff,decide_eq_false_iff_not]at ho;refine⟨h.tick,h.asc,h.ncases,fun c hc=>(h.case c hc).ok ?_,ab7,ab7,h.roles,h.role,h.pol,h.ver⟩
 grind
theorem FU{k:Nat}{s:an}(o:OpD)(w:Txt)(h:lE k s):lE k (cg s o w):={h with}
theorem FT{k:Nat}{s:an}{o:OpD}(hn:bp o.subj=true)(w:Txt)(h:lE k s):lE k (iN s o w):=by
 unfold iN;split
 ·refine {h with asc:=Bn (kj fun x=>rfl) h.asc,ncases:=by simpa using h.ncases,case:= ?_}
  intro d hd;rcases mem_modify hd with hd|⟨hi,rfl⟩
  ·exact h.case d hd
  ·have hc:=h.case _ (ab2 hi)
   refine⟨hc.id,hc.owner,hc.state,hc.asc,hc.nfields,hc.field,agc,?_⟩;intro x hx;simp only[jn,List.mem_append,List.mem_singleton]at hx;rcases hx with hx|rfl
   ·exact hc.actor x hx
   ·exact⟨hn,by have:=h.tick;constructor<;>simp only<;>omega⟩
 omega
theorem FR{k:Nat}{o:OpD}(hn:bp o.subj=true)(done:Bool){s:an}(x:cA)(h:lE k s):lE k (fD o done s x):=by
 unfold fD;split
 ·grind [FT]
 ·split
  ·grind [FU]
  ·split
   ·exact {h with}
   omega
theorem tI{k:Nat}{o:OpD}(hn:bp o.subj=true)(done:Bool):∀(l:List cA) {s:an},lE k s→lE k (dD s o l done)
 | [],s,h=>h
 |x::l,s,h=>tI hn done l (FR hn done x h)
theorem BO{k:Nat}{s:an}(o:OpD)(w:Txt)(h:dj k s)(hr:s.reviews.length≤999):dj k (cg s o w):={h with nrev:=by grind [cg]}
structure kD (k:Nat) (s:an):Prop extends dj k s where
 ids:∀i (h:i<s.reviews.length),s.reviews[i].id=((i+1:Nat):Int)
 nr:s.reviews.length≤256
 nn:s.notices.length≤256
theorem ID:kD 0 wh:={Jy with ids:=fun i h=>acZ,nr:=acd,nn:=acd}
theorem tD{s:an}{o:OpD}(h:(jX s o).1=0):bL s o=0∧dF o=true∧(o.kind=7→(aQ o.text).2.1=0):=by
 unfold jX at h;have hr:bL s o=0:=by
  grind
 have hf:dF o=true:=by
  unfold bL at hr
  grind
 exact⟨hr,hf,fun hk=>ab8⟩
theorem Kf{k:Nat}{s:an}{o:OpD}(h:kD k s)(hp:(jX s o).1=0):lE (k+1) (cW s o):=by
 have hn:=(sR (tD hp).2.1).subj;have h1:dj k (if fH s o then cg s o o.reason else s):=by
  split
  ·exact BO o _ h.todj (by have:=h.nr;omega)
  ·exact h.todj
 refine tI hn _ _ ?_;split
 ·exact(pg o h1).w
 ·have:=h1.w
  exact {this with ver:=⟨this.ver.1,by have:=this.ver.2;omega⟩}
def shut(r:pT):pT:={r with isOpen:=false}
theorem ua(par:Txt→bH×Int×Int)(s:an)(o:OpD):(dU par s o).reviews=if bL s o=0∧o.kind=5 then s.reviews.modify (o.review - 1).toNat shut else s.reviews:=by
 unfold dU
 by_cases hr:bL s o=0
 ·rw[if_pos hr]
  unfold doD
  by_cases k1:o.kind=1
  ·grind
  ·by_cases k3:o.kind=3
   ·grind
   ·by_cases k4:o.kind=4
    ·grind
    ·by_cases k5:o.kind=5
     ·simp[k5,hr];rfl
     grind
 grind
theorem xK{o:OpD}(h:dF o=true)(hg:o.glass=true):1≤o.kind∧o.kind≤4:=by
 simp_all [dF,Bool.and_eq_true,lU,if_true,uA,decide_eq_true_eq]
theorem CT{s:an}{o:OpD}(h:fH s o=true):o.glass=true:=by
 simp_all [fH,sD,Bool.and_eq_true]
structure El (s:an) (o:OpD) (t:an) (r:j8) (e:Int):Prop where
 len:s.reviews.length≤t.reviews.length
 old:∀i (h:i<s.reviews.length) (h' :i<t.reviews.length),(e=0∧r.err=0∧o.kind=5∧o.review=((i+1:Nat):Int)→o.subj≠s.reviews[i].subj∧s.reviews[i].isOpen=true∧t.reviews[i].isOpen=false∧t.reviews[i].id=s.reviews[i].id)∧
  (¬(e=0∧r.err=0∧o.kind=5∧o.review=((i+1:Nat):Int))→t.reviews[i]=s.reviews[i])
 new:∀i (h:i<t.reviews.length),s.reviews.length≤i→t.reviews[i].id=((i+1:Nat):Int)∧t.reviews[i].isOpen=true∧t.reviews[i].subj=o.subj
 glass:r.glass=true→∃h:s.reviews.length<t.reviews.length,t.reviews[s.reviews.length].reason=o.reason
theorem El.same(s:an)(o:OpD)(e:Int)(r:j8)(he:e≠0)(hg:r.glass=false):El s o s r e:=
 ⟨Nat.le_refl _,fun i h h' =>⟨fun hc=>(he hc.1).elim,fun _=>rfl⟩,fun i h h' =>ab7,fun h=>ab8⟩
theorem GU{o:OpD}{a b:List pT}(h:gH o a b):a.length≤b.length∧(∀i (h1:i<a.length) (h2:i<b.length),b[i]=a[i])∧∀i (h1:i<b.length),a.length≤i→b[i].id=((i+1:Nat):Int)∧b[i].isOpen=true∧b[i].subj=o.subj:=by
 obtain⟨c,rfl,hc⟩:=h;refine⟨aci,fun i h1 h2=>ab8,fun i h1 h2=>?_⟩
 grind
theorem Cs{s:an}{o:OpD}(hr:bL s o=0)(hf:dF o=true)(hk:o.kind=5):1≤o.review∧∃h:(o.review - 1).toNat<s.reviews.length,s.reviews[(o.review - 1).toNat].isOpen=true∧s.reviews[(o.review - 1).toNat].subj≠o.subj:=by
 have F:=sR hf;have hok:=F.ok;unfold okD at hok;simp only[hk,show¬(5:Int)=1 by decide,show¬((5:Int)=2∨(5:Int)=6) by decide,show¬(5:Int)=3 by decide,show¬(5:Int)=4 by decide,if_false,if_true,decide_eq_true_eq]at hok
 unfold bL at hr;simp only[hk,Bool.true_eq_false,show¬(5:Int)=1 by decide,show¬(2≤(5:Int)∧(5:Int)≤4) by decide,if_false,if_true]at hr
 unfold fR vJ at hr;rw[if_pos (by omega:1≤o.review)]at hr
 refine⟨ab7,?_⟩;cases hx:s.reviews[(o.review - 1).toNat]? with
 |none=>simp_all
 |some r=>
  rw[hx]at hr;obtain⟨h,rfl⟩:=List.getElem?_eq_some_iff.1 hx;refine⟨h,?_,?_⟩
  ·grind
  ·intro e
   simp only[e,if_true]at hr;omega
theorem FD{k:Nat}{s:an}{o:OpD}(h:kD k s):El s o (aP s o).1 (aP s o).2.1 (aP s o).2.2.2:=by
 unfold aP
 by_cases hp:(jX s o).1=0
 ·rw[if_neg ab7]
  by_cases ho:rI (cW s o)=true
  ·rw[if_pos ho];exact .same _ _ _ _ aci rfl
  ·rw[if_neg ho]
   obtain⟨hr,hf,_⟩:=tD hp;simp only
   by_cases hk:o.kind=5
   ·have hg:fH s o=false:=by
     cases hg:fH s o with
     |false=>rfl
     |true=>have:=xK hf (CT hg);omega
    obtain⟨hv1,hlt,hop,hsu⟩:=Cs hr hf hk
    by_cases hd:sF s o=true
    ·have hb:cW s o=dD (dU aQ s o) o (gJ s o).2 true:=by
      grind [cW]
     have hrev:(dU aQ s o).reviews=s.reviews.modify (o.review - 1).toNat shut:=by
      simp_all [ua,if_pos]
     have hon:=gH.duties o true (gJ s o).2 (dU aQ s o);rw[←hb,hrev]at hon;obtain⟨a1,a2,a3⟩:=GU hon;have hlm:(s.reviews.modify (o.review - 1).toNat shut).length=s.reviews.length:=aci;rw[hlm]at a1;refine⟨a1,fun i h1 h2=>⟨fun hc=>?_,fun hc=>?_⟩,fun i h1 h2=>a3 i h1 ab7,fun hgl=>?_⟩
     ·have hi:(o.review - 1).toNat=i:=by omega
      subst hi;rw[a2 _ ab7 h2,List.getElem_modify,if_pos rfl];exact⟨fun e=>hsu e.symm,hop,rfl,rfl⟩
     ·have hi:(o.review - 1).toNat≠i:=fun e=>hc ⟨rfl,by simp[o6,hd],hk,ab7⟩
      rw[a2 _ ab7 h2,List.getElem_modify,if_neg hi]
     simp_all [o6]
    ·have hd:sF s o=false:=by grind
     have hb:cW s o=dD s o (gJ s o).2 false:=by
      grind [cW]
     have hon:=gH.duties o false (gJ s o).2 s;rw[←hb]at hon;obtain⟨a1,a2,a3⟩:=GU hon;refine⟨a1,fun i h1 h2=>⟨fun hc=>?_,fun hc=>a2 i h1 h2⟩,a3,fun hgl=>?_⟩
     ·simp_all [o6]
     simp_all [o6]
   ·have hs1:gH o s.reviews (if fH s o then cg s o o.reason else s).reviews:=by
     split
     ·exact .open s o _
     ·exact .refl o _
    have hs2:(if sF s o then dU aQ (if fH s o then cg s o o.reason else s) o else(if fH s o then cg s o o.reason else s)).reviews=(if fH s o then cg s o o.reason else s).reviews:=by
     split
     ·simp_all [ua,if_neg]
     ·rfl
    have hd:=gH.duties o (sF s o) (gJ s o).2 (if sF s o then dU aQ (if fH s o then cg s o o.reason else s) o else(if fH s o then cg s o o.reason else s))
    rw[hs2]at hd;have hon:gH o s.reviews (cW s o).reviews:=hs1.trans hd;obtain⟨a1,a2,a3⟩:=GU hon;refine⟨a1,fun i h1 h2=>⟨fun hc=>(hk hc.2.2.1).elim,fun hc=>a2 i h1 h2⟩,a3,fun hgl=>?_⟩
    have hg:fH s o=true:=hgl;have hd' :=hd;simp only[hg,↓reduceIte]at hd';obtain⟨b1,b2,_⟩:=GU hd';have hb:(cW s o)=dD (if sF s o then dU aQ (cg s o o.reason) o else cg s o o.reason) o (gJ s o).2 (sF s o):=by
     grind [cW]
    rw[←hb]at b1 b2;have hl:(cg s o o.reason).reviews.length=s.reviews.length+1:=by simp[cg]
    refine⟨ab7,?_⟩
    grind [cg,AP]
 ·rw[if_pos ab7]
  exact .same _ _ _ _ ab7 rfl
theorem kD.up{k:Nat}{s:an}(h:kD k s):kD (k+1) s:={h with ver:=⟨h.ver.1,by have:=h.ver.2;omega⟩}
theorem E1{k:Nat}{s:an}(o:OpD)(h:kD k s):kD (k+1) (aP s o).1:=by
 have hrl:=FD (o:=o) h;unfold aP at hrl⊢
 by_cases hp:(jX s o).1=0
 ·rw[if_neg ab7]at hrl⊢
  by_cases ho:rI (cW s o)=true
  ·rw[if_pos ho];exact h.up
  ·rw[if_neg ho]at hrl⊢
   have ho:rI (cW s o)=false:=ab8;have hw:=(Kf h hp).ok ho;unfold rI at ho;refine {hw with ids:=fun i hi=>?_,nr:=ab8,nn:=ab8}
   by_cases hlt:i<s.reviews.length
   ·obtain⟨h1,h2⟩:=hrl.old i hlt hi
    by_cases hc:(0:Int)=0∧(o6 s o).err=0∧o.kind=5∧o.review=((i+1:Nat):Int)
    ·rw[(h1 hc).2.2.2];exact h.ids i hlt
    ·rw[h2 hc];exact h.ids i hlt
   ·exact(hrl.new i hi ab7).1
 ·rw[if_pos ab7];exact h.up
structure US (s:an) (o:OpD):Prop where
 err:(aP s o).2.2.2≠0→(aP s o).1=s∧(aP s o).2.1.err=(aP s o).2.2.2∧(aP s o).2.1.mark=naM
 ok:(aP s o).2.2.2=0→(aP s o).2.1.mark=(gJ s o).1∧(aP s o).2.2.1=⟨o,s.version,(gJ s o).1,fH s o,(gJ s o).2⟩∧(aP s o).2.1.glass=fH s o∧(aP s o).1=cW s o∧(aP s o).2.1=o6 s o
theorem xw(o:OpD)(done:Bool):∀(l:List cA) (s:an),(dD s o l done).cases.length=s.cases.length
 | [],s=>rfl
 |x::l,s=>by
  have:(fD o done s x).cases.length=s.cases.length:=by
   unfold fD;split
   ·grind [iN]
   ·split
    ·rfl
    grind
  exact(xw o done l _).trans this
end Go.Bf
namespace Go.Ab
open Go
section
variable {U : TypeId → TI} {ρ : Env} {h0 h h' : Heap} {sz id : Nat} {tb : TypeId} {y : AV} {xs : List AV} {e : TypeId} {K : AV → Prop} {x : IntKind} {m : Int}
theorem ue(xs:List AV)(j:Nat):aq xs=aq (xs.take j)++aq (xs.drop j):=afq
theorem OwE.cut(hw:OwE tb h0 h sz y xs){hi:Operand}(j:Nat)(hm:ev ρ hi=some (.v (.int x m)))(hj:m=j)(hl:j≤xs.length)(hz:(U tb).sz=sz)(h1:sz≠0)
  (hk:∀z,OwE tb h0 h sz z (xs.take j)→(z=y∨∃id l l' c,y= .ob id 0 l c sz∧z= .ob id 0 l' c sz)→K z):gL U ρ y none (some hi) none K (.slice tb):=by
 subst hj;subst hz
 rcases hw with⟨rfl,rfl⟩|⟨id,h2,cap,rest,rfl,h3,h4,h5,h6⟩
 ·rw[qK,fL,hm]
  refine⟨h1,?_⟩;have:j=0:=ab8;subst this;refine⟨ab7,aci,?_⟩;exact hk _ (.inl ⟨rfl,rfl⟩) (.inl rfl)
 ·rw[AS]
  refine⟨h1,rfl,?_⟩;simp only[mb,fL,hm,dw,mX];refine⟨ab7,ab7,ab7,?_⟩;simp only[Int.toNat_natCast,Nat.zero_mul,Nat.add_zero,Nat.sub_zero,show(((0:Nat):Int)).toNat=0 from rfl]
  have e1:(xs.take j).length=j:=ab8;have hs:Sized (U tb).sz (xs.drop j):=fun z hz=>h6 z (List.mem_of_mem_drop hz)
  refine hk _ (.inr ⟨id,h2,cap,aq (xs.drop j)++rest,by rw[e1],by grind [ue,List.append_assoc],?_,ab7,fun z hz=>h6 z (List.mem_of_mem_take hz)⟩) (.inr ⟨id,_,_,cap,rfl,rfl⟩)
  rw[ab1,aY hs,h4,List.length_drop,e1,←Nat.add_mul]
  grind
theorem OwE.from(hw:OwE tb h0 h sz y xs){lo:Operand}(j:Nat)(hm:ev ρ lo=some (.v (.int x m)))(hj:m=j)(hl:j≤xs.length)(hz:(U tb).sz=sz)(h1:sz≠0)
  (hk:∀z,Rd h sz z (xs.drop j)→K z):gL U ρ y (some lo) none none K (.slice tb):=by
 subst hj;subst hz
 rcases hw with⟨rfl,rfl⟩|⟨id,h2,cap,rest,rfl,h3,h4,h5,h6⟩
 ·have:j=0:=by grind
  subst this;rw[qL,fL,hm];refine⟨h1,by simp[Sized],?_⟩
  exact⟨ab7,aci,aci,hk _ (.sl (by intro z hz;grind [oD]) _)⟩
 ·rw[AS]
  refine⟨h1,rfl,?_⟩;simp only[mb,fL,hm,dw,mX];refine⟨ab7,ab7,ab7,?_⟩;simp only[Int.toNat_natCast,Nat.zero_add];have e1:(xs.drop j).length=xs.length - j:=aci;have hs:Sized (U tb).sz (xs.drop j):=fun z hz=>h6 z ab8
  have ht:Sized (U tb).sz (xs.take j):=fun z hz=>h6 z ab8
  have e2:=aY hs;have e3:=aY ht;refine hk _ ⟨hs,.inr ⟨id,j*(U tb).sz,cap - j,_,tb,by rw[e1],h3,?_,?_⟩⟩
  ·grind [ue,ab1]
  grind [ue,List.append_assoc,List.drop_left,List.take_left]
end
end Go.Ab
namespace Go.Bf
open Go Go.Ab Go.Proofs.YtfdgemhnlennbaaGreatDoor
def hbit:Nat→Nat
 |0=>0
 |1=>4602678819172646912
 |_=>4607182418800017408
def aR(m:aT):AV:=.v (.complex .f64 (hbit m.1) (hbit m.2))
def M9(m:aT):Prop:=m.1≤2∧m.2≤2
def M6(m:aT):Prop:=m∈uv
instance (m:aT):Decidable (M9 m):=inferInstanceAs (Decidable (_∧_))
instance (m:aT):Decidable (M6 m):=inferInstanceAs (Decidable (m∈uv))
theorem M6.m9{m:aT}(h:M6 m):M9 m:=by
 exact agL
theorem le2{n:Nat}(h:n≤2):n=0∨n=1∨n=2:=ab7
theorem yo{m n:aT}(hmm:M9 m)(hn:M9 n)(K:AV→Prop):gu .eql (.complex .f64 (hbit m.1) (hbit m.2)) (.complex .f64 (hbit n.1) (hbit n.2)) K=K (.b (m==n)):=
 oe (fun P ty w=>by
  exact agH) K
theorem Dh{m n:aT}(hmm:M9 m)(hn:M9 n)(K:AV→Prop):gu .neq (.complex .f64 (hbit m.1) (hbit m.2)) (.complex .f64 (hbit n.1) (hbit n.2)) K=K (.b (!(m==n))):=
 oe (fun P ty w=>by
  exact agH) K
structure Nb (m:aT):Prop where
 na:∀K,gu .eql (.complex .f64 (hbit m.1) (hbit m.2)) (.complex .f64 0 0) K=K (.b (m==naM))
 pe:∀K,gu .eql (.complex .f64 (hbit m.1) (hbit m.2)) (.complex .f64 4607182418800017408 0) K=K (.b (m==bh))
 de:∀K,gu .eql (.complex .f64 (hbit m.1) (hbit m.2)) (.complex .f64 0 4607182418800017408) K=K (.b (m==cF))
 ip:∀K,gu .eql (.complex .f64 (hbit m.1) (hbit m.2)) (.complex .f64 4602678819172646912 0) K=K (.b (m==Ar))
 id:∀K,gu .eql (.complex .f64 (hbit m.1) (hbit m.2)) (.complex .f64 0 4602678819172646912) K=K (.b (m==Aq))
 ib:∀K,gu .eql (.complex .f64 (hbit m.1) (hbit m.2)) (.complex .f64 4602678819172646912 4602678819172646912) K=K (.b (m==oP))
 nna:∀K,gu .neq (.complex .f64 (hbit m.1) (hbit m.2)) (.complex .f64 0 0) K=K (.b (!(m==naM)))
 npe:∀K,gu .neq (.complex .f64 (hbit m.1) (hbit m.2)) (.complex .f64 4607182418800017408 0) K=K (.b (!(m==bh)))
 nde:∀K,gu .neq (.complex .f64 (hbit m.1) (hbit m.2)) (.complex .f64 0 4607182418800017408) K=K (.b (!(m==cF)))
theorem nb{m:aT}(h:M9 m):Nb m:=
 ⟨yo (n:=naM) h acd,yo (n:=bh) h acd,yo (n:=cF) h acd,yo (n:=Ar) h acd,yo (n:=Aq) h acd,yo (n:=oP) h acd,
  Dh (n:=naM) h acd,Dh (n:=bh) h acd,Dh (n:=cF) h acd⟩
theorem O6{a b:Nat}(ha:a≤2)(hb:b≤2)(k:AV→Prop):zv [.v (.float .f64 (hbit a)),.v (.float .f64 (hbit b))] k=k (.v (.float .f64 (hbit (max a b)))):=
 Fj (fun P ts ty w=>by
  rcases le2 ha with rfl|rfl|rfl<;>rcases le2 hb with rfl|rfl|rfl<;>rfl) k
structure Fb (a:Nat):Prop where
 one:∀K,gu .eql (.float .f64 (hbit a)) (.float .f64 4607182418800017408) K=K (.b (a==2))
 half:∀K,gu .eql (.float .f64 (hbit a)) (.float .f64 4602678819172646912) K=K (.b (a==1))
 ge:∀K,gu .geq (.float .f64 (hbit a)) (.float .f64 4602678819172646912) K=K (.b (decide (1≤a)))
theorem fb{a:Nat}(h:a≤2):Fb a:=by
 rcases le2 h with rfl|rfl|rfl<;>
  exact⟨oe fun P ty w=>rfl,oe fun P ty w=>rfl,oe fun P ty w=>rfl⟩
end Go.Bf
namespace Go.Proofs.YtfdgemhnlennbaaGreatDoor
open Go Go.Ab Go.Bf
theorem BK(m:aT)(hmm:M6 m)(h:Heap):ai Tryz.prog 272 [aR m] h fun r h' =>r= .b true∧h' =h:=by
 have hn:ai Tryz.prog 138 [aR m] h fun r h' =>(∃c l,r= .s (c::l))∧h' =h:=by
  obtain⟨n1,n2,n3,n4,n5,n6⟩:=nb hmm.m9;refine ab6 Tryz.func138 16 [.tmp 2] fun hwf=>?_
  cases d1:(m==naM)
  case true=>simp only[go_sem,aR,n1,d1];exact .same (.refl _) ⟨⟨_,_,rfl⟩,rfl⟩
  cases d2:(m==bh)
  case true=>simp only[go_sem,aR,n1,n2,d1,d2];exact .same (.refl _) ⟨⟨_,_,rfl⟩,rfl⟩
  cases d3:(m==cF)
  case true=>simp only[go_sem,aR,n1,n2,n3,d1,d2,d3];exact .same (.refl _) ⟨⟨_,_,rfl⟩,rfl⟩
  cases d4:(m==Ar)
  case true=>simp only[go_sem,aR,n1,n2,n3,n4,d1,d2,d3,d4];exact .same (.refl _) ⟨⟨_,_,rfl⟩,rfl⟩
  cases d5:(m==Aq)
  case true=>simp only[go_sem,aR,n1,n2,n3,n4,n5,d1,d2,d3,d4,d5];exact .same (.refl _) ⟨⟨_,_,rfl⟩,rfl⟩
  have d6:(m==oP)=true:=by
   unfold M6 uv at hmm
   grind
  simp only[go_sem,aR,n1,n2,n3,n4,n5,n6,d1,d2,d3,d4,d5,d6];exact .same (.refl _) ⟨⟨_,_,rfl⟩,rfl⟩
 refine ab6 Tryz.func272 6 [.tmp 2] fun hwf=>?_
 simp only[go_sem];refine hn.mono ?_
 rintro r h' ⟨⟨c,l,rfl⟩,rfl⟩
 exact agJ
theorem xT(m:aT)(hmm:M9 m)(h:Heap):ai Tryz.prog 245 [aR m] h fun r h' =>r=aR (gI m)∧h' =h:=by
 obtain⟨n1,n2,n3,n4,n5,n6⟩:=nb hmm;refine ab6 Tryz.func245 9 [.tmp 2] fun hwf=>?_
 cases d2:(m==bh)
 case true=>simp only[go_sem,aR,n2,d2];exact .same (.refl _) ⟨by rw[gI,if_pos ab8];rfl,rfl⟩
 cases d3:(m==cF)
 case true=>simp only[go_sem,aR,n2,n3,d2,d3];exact .same (.refl _) ⟨by rw[gI,if_neg ab8,if_pos ab8];rfl,rfl⟩
 simp only[go_sem,aR,n2,n3,d2,d3];exact .same (.refl _) ⟨by rw[gI,if_neg ab8,if_neg ab8];rfl,rfl⟩
theorem tu(m:aT)(h:Heap):ai Tryz.prog 300 [aR m] h fun r h' =>r= .tup [.v (.float .f64 (hbit m.1)),.v (.float .f64 (hbit m.2))]∧h' =h:=by
 refine ab6 Tryz.func300 10 [.tmp 2,.tmp 3] fun hwf=>?_
 simp only[go_sem,aR];exact aco
theorem Pd(a b:Nat)(h:Heap):ai Tryz.prog 301 [.v (.float .f64 (hbit a)),.v (.float .f64 (hbit b))] h fun r h' =>r=aR (a,b)∧h' =h:=by
 refine ab6 Tryz.func301 8 [.tmp 4] fun hwf=>?_
 exact agJ
theorem Om(m:aT)(h:Heap):ai Tryz.prog 275 [aR m] h fun r h' =>r=aR (D9 m)∧h' =h:=by
 refine ab6 Tryz.func275 13 [.tmp 2] fun hwf=>?_
 simp only[go_sem];refine(tu m _).pthen ?_;simp only[go_sem];refine(Pd m.2 m.1 _).pthen ?_;exact agJ
theorem Ny(a b:aT)(ha:M9 a)(hb:M9 b)(h:Heap):ai Tryz.prog 273 [aR a,aR b] h fun r h' =>r=aR (nX a b)∧h' =h:=by
 have m1:=O6 ha.1 hb.1;have m2:=O6 ha.2 hb.2;refine ab6 Tryz.func273 26 [.tmp 4] fun hwf=>?_
 simp only[go_sem];refine(tu a _).pthen ?_;simp only[go_sem];refine(tu b _).pthen ?_;simp only[go_sem,m1,m2];refine(Pd _ _ _).pthen ?_;exact agJ
theorem M9.join{a b:aT}(ha:M9 a)(hb:M9 b):M9 (nX a b):=⟨Nat.max_le.2 ⟨ha.1,hb.1⟩,Nat.max_le.2 ⟨ha.2,hb.2⟩⟩
theorem GW(j:aT):M6 (qC j):=by
 unfold qC
 repeat' split
 all_goals decide
theorem GX(j:aT)(hj:M9 j)(h:Heap):ai Tryz.prog 274 [aR j] h fun r h' =>r=aR (qC j)∧h' =h:=by
 obtain⟨p1,p2,p3⟩:=fb hj.1;obtain⟨q1,q2,q3⟩:=fb hj.2;refine ab6 Tryz.func274 29 [.tmp 2] fun hwf=>?_
 simp only[go_sem];refine(tu j _).pthen ?_;cases d1:(j.2==2)
 case true=>simp only[go_sem,q1,d1];exact .same (.refl _) ⟨by rw[qC,if_pos ab8];rfl,rfl⟩
 have e1:¬j.2=2:=ab8;cases d2:(j.2==1)
 case true=>
  have e2:j.2=1:=ab8;cases d3:decide (1≤j.1)
  ·simp only[go_sem,p3,q1,q2,d1,d2,d3];exact .same (.refl _) ⟨by rw[qC,if_neg e1,if_neg ab8,if_pos e2];rfl,rfl⟩
  ·simp only[go_sem,p3,q1,q2,d1,d2,d3];exact .same (.refl _) ⟨by rw[qC,if_neg e1,if_pos ⟨e2,abZ d3⟩];rfl,rfl⟩
 have e2:¬j.2=1:=ab8;cases d4:(j.1==2)
 case true=>simp only[go_sem,p1,q1,q2,d1,d2,d4];exact .same (.refl _) ⟨by rw[qC,if_neg e1,if_neg (fun h=>e2 h.1),if_neg e2,if_pos ab8];rfl,rfl⟩
 cases d5:(j.1==1)
 case true=>simp only[go_sem,p1,p2,q1,q2,d1,d2,d4,d5];exact .same (.refl _) ⟨by rw[qC,if_neg e1,if_neg (fun h=>e2 h.1),if_neg e2,if_neg ab8,if_pos ab8];rfl,rfl⟩
 simp only[go_sem,p1,p2,q1,q2,d1,d2,d4,d5];exact .same (.refl _) ⟨by rw[qC,if_neg e1,if_neg (fun h=>e2 h.1),if_neg e2,if_neg ab8,if_neg ab8];rfl,rfl⟩
def OwR(h0 h:Heap)(y:AV)(rs:List gV):Prop:=y=dZ rs∨OwE 141 h0 h 2 y (rs.map eL)
theorem OwR.rd{h0 h:Heap}{y:AV}{rs:List gV}(hr:OwR h0 h y rs):Rd h 2 y (rs.map eL):=by
 rcases hr with rfl|hr
 ·exact eR eL 2 (fun _=>rfl) h rs
 ·exact hr.rd
theorem OwR.nid{h0 h:Heap}{y:AV}{rs:List gV}(hr:OwR h0 h y rs){k:Nat}(e:Ab.nid y=some k):h0 k=none∧h k≠none:=by
 rcases hr with rfl|hr
 ·cases e
 ·exact⟨(hr.nid e).1,(hr.nid e).2.1⟩
theorem OwR.keep{h0 h h' :Heap}{y:AV}{rs:List gV}(hr:OwR h0 h y rs)(hk:∀id,Ab.nid y=some id→h' id=h id):OwR h0 h' y rs:=by
 rcases hr with hr|hr
 ·exact .inl hr
 ·exact .inr (hr.keep hk)
theorem OwR.bJ{g h0 h:Heap}{y:AV}{rs:List gV}(hr:OwR h0 h y rs)(hg:∀i,h0 i=none→g i=none):OwR g h y rs:=by
 rcases hr with hr|hr
 ·exact .inl hr
 ·exact .inr (hr.bJ hg)
theorem OwR.frz{g h:Heap}{y:AV}{rs:List gV}(hr:OwR g h y rs):Frz g h y (dZ rs):=by
 rcases hr with rfl|hr
 ·exact .pure (by simp only[dZ,cJ];exact bt (fun _=>rfl) _)
 ·exact hr.frz (bt (fun _=>rfl) _)
structure iD (h0 h:Heap) (y1 y2 y3 y4:AV) (s:an) (j:Nat):Prop where
 cs:lQ h0 h [y1,y2,y3,y4] y1 s.cases j
 rv:OwE 135 h0 h 7 y2 (s.reviews.map iK)
 nt:OwE 138 h0 h 3 y3 (s.notices.map mN)
 rl:OwR h0 h y4 s.roles
 a12:apart y1 y2
 a13:apart y1 y3
 a14:apart y1 y4
 a23:apart y2 y3
 a24:apart y2 y4
 a34:apart y3 y4
def stC(s:an)(y1 y2 y3 y4:AV):List AV:=[.i s.tick,y1,y2,y3,y4]++fW s.policy++ [.i s.version]
theorem sw.parts{h0 h:Heap}{x:AV}{s:an}{j:Nat}(ho:sw h0 h x s j):∃y1 y2 y3 y4,x= .agg (stC s y1 y2 y3 y4)∧iD h0 h y1 y2 y3 y4 s j:=by
 obtain⟨y1,y2,y3,y4,e,a,b,c,d,r1,r2,r3,r4,r5,r6⟩:=ho;exact⟨y1,y2,y3,y4,e,a,b,c,.inr d,r1,r2,r3,r4,r5,r6⟩
theorem iD.rd{h0 h:Heap}{y1 y2 y3 y4:AV}{s:an}{j:Nat}(ho:iD h0 h y1 y2 y3 y4 s j):RdS h (.agg (stC s y1 y2 y3 y4)) s:=
 ⟨y1,y2,y3,y4,rfl,ho.cs.rd,ho.rv.rd,ho.nt.rd,ho.rl.rd⟩
theorem iD.frz{g h:Heap}{y1 y2 y3 y4:AV}{s:an}{j:Nat}(ho:iD g h y1 y2 y3 y4 s j):Frz g h (.agg (stC s y1 y2 y3 y4)) (cK s):=
 ug (ho.cs.frz (.refl _)) (ho.rv.frz (bt (fun _=>rfl) _)) (ho.nt.frz (bt (fun _=>rfl) _)) ho.rl.frz
theorem iD.bJ{g h0 h:Heap}{y1 y2 y3 y4:AV}{s:an}{j:Nat}(ho:iD h0 h y1 y2 y3 y4 s j)(hg:∀i,h0 i=none→g i=none):iD g h y1 y2 y3 y4 s j:=
 {ho with cs:=ho.cs.bJ hg,rv:=ho.rv.bJ hg,nt:=ho.nt.bJ hg,rl:=ho.rl.bJ hg}
theorem iD.keep{h0 h h' :Heap}{y1 y2 y3 y4:AV}{s:an}{j:Nat}(ho:iD h0 h y1 y2 y3 y4 s j)(hk:∀id,h0 id=none→h id≠none→h' id=h id):iD h0 h' y1 y2 y3 y4 s j:=
 {ho with cs:=ho.cs.keepb hk,rv:=ho.rv.keepb hk,nt:=ho.nt.keepb hk,rl:=ho.rl.keep fun id e=>hk id (ho.rl.nid e).1 (ho.rl.nid e).2}
theorem iD.mem{h0 h:Heap}{y1 y2 y3 y4:AV}{s:an}{j:Nat}(ho:iD h0 h y1 y2 y3 y4 s j){w:AV}(hw:w∈ [y1,y2,y3,y4]){k:Nat}(e:Ab.nid w=some k):h0 k=none∧h k≠none:=by
 obtain⟨xs,a,_⟩:=ho.cs;simp only[List.mem_cons,List.not_mem_nil,or_false]at hw;rcases hw with rfl|rfl|rfl|rfl
 ·exact⟨(a.nid e).1,(a.nid e).2.1⟩
 ·exact⟨(ho.rv.nid e).1,(ho.rv.nid e).2.1⟩
 ·exact⟨(ho.nt.nid e).1,(ho.nt.nid e).2.1⟩
 ·exact ho.rl.nid e
theorem iD.revs{h0 h h' :Heap}{y1 y2 y3 y4 z:AV}{s:an}{j:Nat}{rs:List pT}(ho:iD h0 h y1 y2 y3 y4 s j)(hz:OwE 135 h0 h' 7 z (rs.map iK))(hn:∀k,Ab.nid z=some k→h k=none∨Ab.nid y2=some k)
  (hk:∀id,h0 id=none→h id≠none→Ab.nid y2≠some id→h' id=h id):iD h0 h' y1 z y3 y4 {s with reviews:=rs} j:=by
 obtain⟨hcs,hrv,hnt,hrl,a12,a13,a14,a23,a24,a34⟩:=id ho;have ap:∀ {w:AV},w∈ [y1,y2,y3,y4]→apart w y2→apart w z:=fun hw ha k e1 e2=>(hn k e2).elim (fun h=>(ho.mem hw e1).2 h) (fun h=>ha k e1 h)
 refine⟨hcs.move (z:=y2) aci a12 hk fun w hw k e=>?_,hz,hnt.keep fun id e=>hk id (hnt.nid e).1 (hnt.nid e).2.1 fun e1=>a23 id e1 e,hrl.keep fun id e=>hk id (hrl.nid e).1 (hrl.nid e).2 fun e1=>a24 id e1 e,ap aci a12,a13,a14,(ap aci a23.symm).symm,(ap aci a24.symm).symm,a34⟩
 grind
theorem iD.nots{h0 h h' :Heap}{y1 y2 y3 y4 z:AV}{s:an}{j:Nat}{rs:List HE}(ho:iD h0 h y1 y2 y3 y4 s j)(hz:OwE 138 h0 h' 3 z (rs.map mN))(hn:∀k,Ab.nid z=some k→h k=none∨Ab.nid y3=some k)
  (hk:∀id,h0 id=none→h id≠none→Ab.nid y3≠some id→h' id=h id):iD h0 h' y1 y2 z y4 {s with notices:=rs} j:=by
 obtain⟨hcs,hrv,hnt,hrl,a12,a13,a14,a23,a24,a34⟩:=id ho;have ap:∀ {w:AV},w∈ [y1,y2,y3,y4]→apart w y3→apart w z:=fun hw ha k e1 e2=>(hn k e2).elim (fun h=>(ho.mem hw e1).2 h) (fun h=>ha k e1 h)
 refine⟨hcs.move (z:=y3) aci a13 hk fun w hw k e=>?_,hrv.keep fun id e=>hk id (hrv.nid e).1 (hrv.nid e).2.1 fun e1=>a23 id e e1,hz,hrl.keep fun id e=>hk id (hrl.nid e).1 (hrl.nid e).2 fun e1=>a34 id e1 e,a12,ap aci a13,a14,ap aci a23,a24,(ap aci a34.symm).symm⟩
 grind
end Go.Proofs.YtfdgemhnlennbaaGreatDoor
namespace Go.Bf
open Go Go.Ab Go.Proofs.YtfdgemhnlennbaaGreatDoor
def gW(s:an):Prop:=∀r∈s.reviews,0≤r.tick∧r.tick≤1099511627776
theorem AX{s:an}(o:OpD)(w:Txt)(h:gW s)(ht:0≤s.tick∧s.tick≤1099511627776):gW (cg s o w):=fun r hr=>by
 simp only[cg,List.mem_append,List.mem_singleton]at hr;rcases hr with hr|rfl
 ·exact h r hr
 ·exact ht
theorem JD{s:an}(o:OpD)(w:Txt)(h:gW s):gW (iN s o w):=fun r hr=>h r (by grind [ye])
theorem JC{s:an}(o:OpD)(done:Bool)(x:cA)(h:gW s)(ht:0≤s.tick∧s.tick≤1099511627776):gW (fD o done s x):=by
 unfold fD;split
 ·grind [JD]
 ·split
  ·grind [AX]
  ·split<;>exact h
theorem vP(o:OpD)(done:Bool):∀(l:List cA) {s:an},gW s→(0≤s.tick∧s.tick≤1099511627776)→gW (dD s o l done)
 | [],s,h,_=>h
 |x::l,s,h,ht=>vP o done l (by grind [JC]) (by grind [CC])
theorem Mg{s:an}(par:Txt→bH×Int×Int)(o:OpD)(h:gW s):gW (dU par s o):=fun r hr=>by
 rw[ua]at hr;split at hr
 ·rcases mem_modify hr with hr|⟨hi,rfl⟩
  ·exact h r hr
  ·have h2:=h _ (ab2 hi)
   exact aga
 ·exact h r hr
theorem FW{k:Nat}{s:an}(o:OpD)(h:kD k s)(ht:gW s):gW (aP s o).1:=by
 unfold aP;split
 ·omega
 ·split
  ·omega
  ·show gW (cW s o)
   have h1:dj k (if fH s o then cg s o o.reason else s):=by
    split
    ·exact BO o _ h.todj (by have:=h.nr;omega)
    ·exact h.todj
   have t1:gW (if fH s o then cg s o o.reason else s):=by
    split
    ·exact AX o _ ht h.tick
    omega
   refine vP o _ _ ?_ ?_
   ·grind [Mg]
   ·split
    ·exact(pg o h1).tick
    ·exact h1.tick
structure iQ (k:Nat) (s:an):Prop extends kD k s where
 ticks:gW s
theorem rR:iQ 0 wh:={ID with ticks:=fun r h=>acZ}
theorem vA{k:Nat}{s:an}(o:OpD)(h:iQ k s):iQ (k+1) (aP s o).1:={E1 o h.tokD with ticks:=FW o h.tokD h.ticks}
theorem Nv{cs:List aL}{id:Txt}(h:iG cs id<cs.length):cs[iG cs id].id=id:=by
 have:=List.findIdx_getElem (p:=fun c:aL=>c.id==id) (w:=h)
 exact eq_of_beq this
theorem Fa{cs:List aL}(ha:Asc cs){id:Txt}(h:iG cs id<cs.length):findD cs id=iG cs id:=by
 have hid:=Nv h;have hin:bY cs id=true:=by grind [uT,List.any_eq_true,ab2]
 have hir:Op.bytesLess id id=false:=by simpa[lt]using lt_irrefl id
 have h1:∃hl:findD cs id<cs.length,cs[findD cs id].id=id:=by
  unfold bY at hin
  grind
 rcases Nat.lt_trichotomy (findD cs id) (iG cs id)with hlt|heq|hgt
 ·exact absurd (List.not_of_lt_findIdx (p:=fun c:aL=>c.id==id) hlt) ab8
 ·exact heq
 ·have:=List.not_of_lt_findIdx (p:=fun c:aL=>geB c.id id) hgt
  exact absurd this (by grind [geB])
theorem KU{cs ds:List aL}(h:ds.map (·.id)=cs.map (·.id))(id:Txt):iG ds id=iG cs id:=by
 have e:∀l:List aL,iG l id=(l.map (·.id)).findIdx fun x=>x==id:=fun l=>by
  rw[List.findIdx_map];rfl
 rw[e,e,h]
theorem IS(s:an)(o:OpD)(w:Txt)(id:Txt):iG (iN s o w).cases id=iG s.cases id∧(iN s o w).cases.length=s.cases.length:=by
 unfold iN;split
 ·exact⟨KU (kj (f:=fun c=>jn s c o.subj w) (g:=fun c:aL=>c.id) fun c=>rfl) id,aci⟩
 omega
theorem IQ(o:OpD)(done:Bool)(s:an)(x:cA)(id:Txt):iG (fD o done s x).cases id=iG s.cases id∧(fD o done s x).cases.length=s.cases.length:=by
 unfold fD;split
 ·grind [IS]
 ·split
  ·exact⟨rfl,rfl⟩
  grind
end Go.Bf
namespace Go.Proofs.YtfdgemhnlennbaaGreatDoor
open Go Go.Ab
abbrev By:=Bytes 5
theorem u5:(U 5).sz=1:=acr
theorem u5a:(U 5).k.agg=false:=acr
theorem nU(y:AV)(l:List UInt8)(h:Heap)(hb:By h y l)(hl:l.length≤140737488355328):
  ai Tryz.prog 65 [y] h fun r h' =>h' =h∧r= .sl (l.map aK) .no:=by
 refine ab6 Tryz.func65 8 [.tmp 2] fun hwf=>?_
 simp only[go_sem];refine hb.Ub fun b hbn=>?_
 simp only[go_sem];refine nP.intro (fun e=>?_) (fun e=>?_)
 ·have hl0:l= []:=Classical.byContradiction fun hh=>by grind
  subst hl0;simp only[go_sem];exact ael
 ·simp only[go_sem]
  rw[hb.src u5];simp only[go_sem];refine⟨ab7,fun hn=>?_,fun hn=>?_⟩
  ·have hl0:l= []:=by simp_all
   subst hl0;simp only[go_sem];exact ael
  ·refine .own fun id hid=>?_
   simp only[go_sem];exact .mk _ (.sl _ _) (.aj hid) ⟨rfl,rfl⟩
end Go.Proofs.YtfdgemhnlennbaaGreatDoor
namespace Go.Proofs.YtfdgemhnlennbaaGreatDoor
open Go Go.Ab Go.RowKit Go.Lib
theorem i5:∃i z,Tryz.prog.info? 5=some i∧i.zero=some z∧i.size=1∧i.bytes=1∧z.cells.size=1:=by
 obtain⟨i,h1,h2,h3,z,h4,h5,_⟩:=(hU 5).info acd;exact⟨i,z,h1,h4,h2,by rw[h3];rfl,h5⟩
set_option maxHeartbeats 1000000 in
theorem IC(a:Option Addr)(w:World):Calls Tryz.prog 93 #[.slice a 0 0,.int .i64 0] w fun e w' =>e= .returned (.slice a 0 0)∧w' =w:=by
 go_enter Tryz.func93,Tryz.ntmps93
 go_wp2
 go_ret
 simp
set_option maxHeartbeats 1000000 in
theorem IB(a:Option Addr)(n:Nat)(h0:0<n)(hn:n≤20000000)(w:World):Calls Tryz.prog 93 #[.slice a 0 0,.int .i64 n] w fun e w' =>
  ∃z:Value,z.cells.size=1∧e= .returned (.slice (some ⟨w.heap.size,0,none⟩) 0 (grownCap w n 0 5))∧
   w' =w.drew.alloc (.cells (Builtin.zeroCells z.cells n++Builtin.zeroCells z.cells (grownCap w n 0 5 - n)) 5):=by
 obtain⟨i,z,e1,e2,e3,e4,e5⟩:=i5;have hsl:Tryz.prog.underlying 37=some (.slice 5):=by
  rfl
 have hin:Tryz.prog.underlying 3=some (.int .i64):=by
  rfl
 have hold:(Builtin.firstCells i.size 0 (.slice a 0 0)).run Tryz.prog w.drew= .ok (#[]:Array Value) w.drew:=by
  cases a<;>simp[Builtin.firstCells,loadCells,loadCellsFrom]
 have hrz:∀ty,(Builtin.append_ #[37,3] ty #[.slice a 0 0,.int .i64 (n:Int)]).run Tryz.prog w=
   .ok (.slice (some ⟨w.heap.size,0,none⟩) n (grownCap w n 0 5)) (w.drew.alloc (.cells (Builtin.zeroCells z.cells n++Builtin.zeroCells z.cells (grownCap w n 0 5 - n)) 5)):=fun ty=>by
  have h:=Lib.run_append_grow_zeros w 37 3 ty 5 i z .i64 .i64 hsl hin e1 e2 a 0 0 [] ab7 n h0 ab7 ab7 ab7
   ab8
   (by rw[e4];exact growslice_fits ab7 ab7)
  simpa using h
 have hG:=grownCap_ge w n 0 5;have hG63:grownCap w n 0 5≤9223372036854775807:=by
  grind [grownCap_le_maxLen,maxLen]
 obtain⟨G,hGe⟩:∃G,G=grownCap w n 0 5:=⟨_,rfl⟩;rw[←hGe]at hrz hG hG63⊢;have h3:wrap64 ((n:Int) - 0)=(n:Int):=by grind [wrap64]
 have h4:¬((n:Int)<0):=ab7;have h5:(n:Int)>0:=ab7;refine Calls.mono (R:=fun e w' =>e= .returned (.slice (some ⟨w.heap.size,0,none⟩) 0 G)∧w' =w.drew.alloc (.cells (Builtin.zeroCells z.cells n++Builtin.zeroCells z.cells (G - n)) 5)) ?_ ab8
 clear hold hGe
 go_enter Tryz.func93,Tryz.ntmps93
 cases a with
 |none=>
  go_wp2_with (at_builtin;refine Lib.wpList_append_run _ rfl _ _ _ _ rfl _ _ rfl rfl _ _ (hrz _) ?_)
  all_goals (go_ret;simp)
 |some q=>
  obtain⟨ab,ao,asp⟩:=q
  go_wp2_with (at_builtin;refine Lib.wpList_append_run _ rfl _ _ _ _ rfl _ _ rfl rfl _ _ (hrz _) ?_)
  all_goals (go_ret;simp)
end Go.Proofs.YtfdgemhnlennbaaGreatDoor
namespace Go.Proofs.YtfdgemhnlennbaaGreatDoor
open Go Go.Ab
theorem Ru:(U 5).bytes=1:=acr
theorem Nq(n:Nat)(hn:n≤20000000)(h:Heap):ai Tryz.prog 93 [.sl [] .full,.i n] h fun r h' =>Acc U 5 h h' r []∧fN h h' :=by
 refine fun c vs hs g hv hr=> .inl ⟨⟨_,Tryz.func93,acr,rfl⟩,?_⟩
 have h0:=hr 0 aci;have h1:=hr 1 aci;obtain⟨a,cap,sz,val,e0,sl⟩:=h0.iq;have hcap:cap=0:=sl.hp;subst hcap;have e1:=h1.bT;have ev:vs= #[.slice a 0 0,.int .i64 n]:=by
  apply Array.ext
  ·omega
  ·intro i h2 h3
   have h3' :i<2:=h3;have:i=0∨i=1:=ab7;rcases this with rfl|rfl
   ·simpa[Array.getD,h2]using e0
   ·simpa[Array.getD,h2]using e1
 subst ev
 by_cases hn0:n=0
 ·subst hn0
  refine(IC a c.w).mono ?_
  rintro e w' ⟨rfl,rfl⟩
  exact⟨_,rfl,c,.sl [] .full,h,rfl,g,.refl c,h0,hs,.full (.refl h),.refl h⟩
 ·refine(IB a n ab7 hn c.w).mono ?_
  rintro e w' ⟨z,hz,rfl,rfl⟩
  refine⟨_,rfl,?_⟩;have hG:=grownCap_ge c.w n 0 5;have hG63:grownCap c.w n 0 5≤9223372036854775807:=by
   grind [grownCap_le_maxLen,maxLen]
  generalize hGe:grownCap c.w n 0 5=G at hG hG63;generalize hcells:Builtin.zeroCells z.cells n++Builtin.zeroCells z.cells (G - n)=cells;have hcs:cells.size=G:=by grind [size_zeroCells]
  obtain⟨id,hid⟩:=g.fresh;have g1:Ab.Good ({c with w:=c.w.drew}:Cx):=g.draw rfl rfl rfl rfl
  have e1:Ext c {c with w:=c.w.drew}:=Ext.draw rfl rfl rfl rfl
  have hh:h id=none:=xM hs hid;refine⟨Cx.ay {c with w:=c.w.drew} (.cells cells 5) id ⟨c.w.heap.size,0,none⟩ (.spare 0 1),.sl [] (.own id),upd h id (some (.spare 0 1)),rfl,?_,e1.trans (Ext.ay _ _ id _ _ rfl (.inl hid)),?_,hs.upd id _,?_,?_⟩
  ·exact g1.ay _ _ _ id _ _ rfl (.inl hid) aci aci
  ·refine .sl [] _ (some ⟨c.w.heap.size,0,none⟩) G 1 (fun _ _=>undef) (Nat.zero_le _) (by grind [lim]) aci (fun q hq _=>by cases hq;exact⟨rfl,by simp[Cx.ay]⟩)
    aci aci aci aci ?_
   exact⟨0,aep,Nat.le_refl _,fun _=>⟨_,rfl,aep,cells,5,(0,0),heap_alloc_new c.w.drew _,ab8⟩⟩
  ·exact⟨(Sub.refl h).new hh _,.inr ⟨id,hh,rfl,by grind [ah,u5]⟩⟩
  ·exact((Sub.refl h).new hh _).eW
theorem N8(x y:AV)(a b:List UInt8)(h:Heap)(hx:By h x a)(hy:By h y b)(ha:a.length≤1000000000):
  ai Tryz.prog 42 [x,y] h fun r h' =>r= .b (decide (a=b))∧h' =h:=by
 refine ab6 Tryz.func42 26 [.tmp 4] fun hwf=>?_
 simp only[go_sem,hx.len,hy.len];refine .intro (fun e=>?_) (fun e=>?_)
 ·simp only[go_sem]
  refine .same (.refl _) ⟨?_,rfl⟩;have:a≠b:=fun hh=>by simp[hh]at e
  simp[this,ax]
 ·have hl:a.length=b.length:=by simpa[Int.natCast_inj]using e
  simp only[go_sem];refine .intro (fun m ρ h' =>h' =h∧∃i:Nat,i≤a.length∧m=a.length - i∧a.take i=b.take i∧lk ρ 0=some x∧lk ρ 1=some y∧lk ρ 5=some (.i i)) a.length ?_ ?_
  ·refine⟨rfl,0,Nat.zero_le _,rfl,rfl,?_,?_,?_⟩<;>simp only[go_sem]
   all_goals rfl
  ·rintro m ρ h' ⟨rfl,i,hi,rfl,hab,r0,r1,r5⟩
   simp only[go_sem,r0,r1,r5,hx.len];refine .intro (fun e=>?_) (fun e=>?_)
   ·have hlt:i<a.length:=by simpa using e
    have hltb:i<b.length:=ab7;simp only[go_sem,r0,r1,r5];refine⟨.of ace,hx.idx i rfl hlt u5 u5a fun p hp=>?_⟩
    simp only[go_sem,r0,r1,r5,hp _];refine hy.idx i rfl hltb u5 u5a fun p' hp' =>?_
    simp only[go_sem,r0,r1,r5,hp' _];refine .intro (fun e=>?_) (fun e=>?_)
    ·simp only[go_sem]
     refine .same (.refl _) ⟨?_,rfl⟩;have:a≠b:=fun hh=>by subst hh;simp at e
     simp[this,ax]
    ·have hc:a[i]=b[i]:=by
      have:(a[i].toNat:Int)=b[i].toNat:=by simpa using e
      exact UInt8.toNat_inj.1 ab7
     have w1:IntKind.i64.wrap ((i:Int)+1)=((i+1:Nat):Int):=acV;simp only[go_sem,r0,r1,r5,w1];refine⟨a.length - (i+1),ab7,rfl,i+1,hlt,rfl,?_,?_,?_,?_⟩
     ·rw[List.take_succ_eq_append_getElem hlt,List.take_succ_eq_append_getElem hltb,hab,hc]
     all_goals simp only[go_sem,r0,r1,r5]
   ·have hge:i=a.length:=by have:¬(i<a.length):=(by simpa using e);omega
    simp only[go_sem];refine .same (.refl _) ⟨?_,rfl⟩;have:a=b:=by
     subst hge;rw[List.take_length]at hab;rw[hab,hl,List.take_length]
    simp[this,ax]
theorem u27:(U 37).sz=1:=acr
theorem nH(ls:List (List UInt8))(i:Nat)(hi:i<ls.length):(ls.take (i+1)).flatten=(ls.take i).flatten++ls[i]:=by
 rw[List.take_succ_eq_append_getElem hi,List.flatten_append,List.flatten_cons,List.flatten_nil,List.append_nil]
theorem oH(ls:List (List UInt8))(i:Nat):(ls.take i).flatten.length≤ls.flatten.length:=by
 grind [List.take_append_drop,List.flatten_append,ab1]
theorem zY(ys:List AV)(ls:List (List UInt8))(q:Perm)(h:Heap)(hr:Ab.Rows 5 h ys ls)(hl:ls.flatten.length≤20000000)(hn:ls.length≤20000000):
  ai Tryz.prog 45 [.sl ys q] h fun r h' =>r= .sl (ls.flatten.map aK) .no∧Sub h h' :=by
 have hlen:=hr.1;refine ab6 Tryz.func45 36 [.tmp 2] fun hwf=>?_
 simp only[go_sem];refine .intro (fun m ρ h' =>h' =h∧∃i:Nat,i≤ls.length∧m=ls.length - i∧lk ρ 0=some (.sl ys q)∧lk ρ 9=some (.sl ys q)∧lk ρ 10=some (.i ys.length)∧
  lk ρ 11=some (.i i)∧lk ρ 3=some (.v (.int .i64 (ls.take i).flatten.length))) ls.length ?_ ?_
 ·refine⟨rfl,0,Nat.zero_le _,rfl,?_,?_,?_,?_,?_⟩<;>simp only[go_sem]
  all_goals first|rfl|simp
 ·rintro m ρ h' ⟨rfl,i,hi,rfl,r0,r9,r10,r11,r3⟩
  simp only[go_sem,r0,r9,r10,r11,r3];refine .intro (fun e=>?_) (fun e=>?_)
  ·have hlt:i<ys.length:=by simpa using e
   have hlt2:i<ls.length:=ab7;have hb:=hr.2 i hlt hlt2;simp only[go_sem,r0,r9,r10,r11,r3];refine .at i hlt (by rw[hb.cells];rfl) ?_
   have t1:=oH ls (i+1);have t2:=nH ls i hlt2;have w1:IntKind.i64.wrap (((ls.take i).flatten.length:Int)+(ls[i].length:Int))=((ls.take (i+1)).flatten.length:Nat):=by
    rw[t2,ab1]at t1⊢;rw[IntWalk.i64_in _ ab7];omega
   simp only[go_sem,r0,r9,r10,r11,r3,hb.cells,hb.GP,and_self,hb.len,w1];refine .no (decide_eq_false ab7) ?_;have w2:IntKind.i64.wrap ((i:Int)+1)=((i+1:Nat):Int):=acV;simp only[go_sem,r0,r9,r10,r11,r3,w2];refine⟨ls.length - (i+1),ab7,rfl,i+1,hlt2,rfl,?_,?_,?_,?_,?_⟩<;>simp only[go_sem,r0,r9,r10,r11,r3]
  ·have hge:i=ls.length:=by
    have:¬(i<ys.length):=by simpa using e
    omega
   subst hge;rw[List.take_length]at r3;simp only[go_sem,r0,r9,r10,r11,r3];refine(Nq ls.flatten.length hl h').mono fun g1 h1 ⟨ha,hk⟩=>?_
   simp only[go_sem,r0,r9,r10,r11,r3];refine .intro (fun m ρ h2=>∃g:AV,∃i:Nat,Acc U 5 h' h2 g ((ls.take i).flatten.map aK)∧fN h' h2∧i≤ls.length∧m=ls.length - i∧lk ρ 25=some (.sl ys q)∧lk ρ 26=some (.i ys.length)∧
    lk ρ 27=some (.i i)∧lk ρ 6=some g) ls.length ?_ ?_
   ·refine⟨g1,0,ha,hk,Nat.zero_le _,rfl,?_,?_,?_,?_⟩<;>simp only[go_sem]
    all_goals rfl
   ·rintro m ρ h2 ⟨g,i,ha,hk,hi,rfl,r25,r26,r27,r6⟩
    simp only[go_sem,r25,r26,r27,r6];refine .intro (fun e=>?_) (fun e=>?_)
    ·have hlt:i<ys.length:=by simpa using e
     have hlt2:i<ls.length:=ab7;have hb:=(hr.2 i hlt hlt2).eW hk;have t1:=oH ls (i+1);have t2:=nH ls i hlt2;simp only[go_sem,r25,r26,r27,r6];refine .at i hlt (by rw[hb.cells];rfl) ?_
     simp only[go_sem,r25,r26,r27,r6,hb.cells,hb.GP,and_self];refine ha.app (zs:=ls[i].map aK) (by rw[u5];decide) (by rw[Ru];decide) (fun k hk=>by rw[hb.src u5];exact hk) (by rw[u5,jy];trivial) (by rw[u5,jy];trivial) ?_ fun g' h3 ha' hk' =>?_
     ·rw[Ru,abX,abX]
      rw[t2,ab1]at t1;omega
     ·have w2:IntKind.i64.wrap ((i:Int)+1)=((i+1:Nat):Int):=by rw[IntWalk.i64_in _ ab7];omega
      simp only[go_sem,r25,r26,r27,r6,w2];rw[←List.map_append,←t2]at ha';refine⟨ls.length - (i+1),ab7,g',i+1,ha',hk.trans hk',hlt2,rfl,?_,?_,?_,?_⟩<;>simp only[go_sem,r25,r26,r27,r6]
    ·have hge:i=ls.length:=by
      have:¬(i<ys.length):=by simpa using e
      omega
     subst hge;rw[List.take_length]at ha;simp only[go_sem,r25,r26,r27,r6];exact .mk _ ha.weak (.refl _) ⟨rfl,ha.1⟩
structure D where
 q:Nat
 b:List UInt8
 sy:Nat
 f:Nat
 off:Bool
def D.ok(d:D):Prop:=d.b.length≤d.q∧d.q≤1048576∧d.sy≤d.b.length∧d.f<9223372036854775808
def D.burn(d:D):D:=if 0<d.f then {d with f:=d.f - 1,off:=decide (d.f=1)} else d
def D.cells(d:D)(y:AV):List AV:=[.i d.q,y,.i d.sy,.i d.f,.b d.off]
def bM(h:Heap)(id:Nat)(d:D):Prop:=∃y,h id=some (.obj (d.cells y) 87)∧By h y d.b
theorem bM.keep{h h' :Heap}{id:Nat}{d:D}(hd:bM h id d)(hs:fN h h'):bM h' id d:=by
 obtain⟨y,h1,h2⟩:=hd;exact⟨y,hs _ _ _ h1,h2.eW hs⟩
theorem By.set{h:Heap}{id:Nat}{x:AV}{l:List UInt8}{cs cs' :List AV}(hb:By h x l)(hid:h id=some (.obj cs 87)):By (upd h id (some (.obj cs' 87))) x l:=hb.keep (Keep.upd id _) hid acd
theorem xu(q:Nat)(hq:q≤1048576)(h:Heap):
  ai Tryz.prog 8 [.i q] h fun r h' =>∃id,h id=none∧r= .tup [.ptr id 0,.i 0]∧bM h' id ⟨q,[],0,0,false⟩∧Sub h h' :=by
 refine ab6 Tryz.func8 13 [.tmp 2,.tmp 3] fun hwf=>?_
 simp only[go_sem];refine .intro (fun e=>absurd (abZ e) ab7) (fun e=>?_)
 simp only[go_sem];refine .no (decide_eq_false ab7) ?_;simp only[go_sem];intro id hid;simp only[go_sem];exact .same (.refl _) ⟨id,hid,rfl,⟨_,ah ..,.inl ⟨.full,rfl⟩⟩,(Sub.refl h).new hid _⟩
theorem qU(d:D)(hd:d.ok)(id:Nat)(h:Heap)(y:AV)(hid:h id=some (.obj (d.cells y) 87)):
  ai Tryz.prog 46 [.ptr id 0] h fun r h' =>r= .b d.burn.off∧h' =upd h id (some (.obj (d.burn.cells y) 87)):=by
 obtain⟨q,b,sy,f,off⟩:=d;obtain⟨d1,d2,d3,d4⟩:=hd;simp only at d1 d2 d3 d4;simp only[D.cells]at hid;refine ab6 Tryz.func46 27 [.tmp 2] fun hwf=>?_
 simp only[go_sem,hid];refine .intro (fun e=>?_) (fun e=>?_)
 ·have e:=abZ e
  have w1:IntKind.i64.wrap ((f:Int) - 1)=((f - 1:Nat):Int):=acV;simp only[go_sem,hid,w1];have hb:(((f - 1:Nat):Int)==0)=decide (f=1):=by
   by_cases h1:f=1
   ·simp[h1]
   ·have:f - 1≠0:=by omega
    simp[h1,Int.natCast_eq_zero,this]
  refine .same (.refl _) ⟨?_,?_⟩
  ·simp only[D.burn,if_pos (show 0<f by omega),hb,ax]
  ·simp only[D.burn,D.cells,if_pos (show 0<f by omega),hb]
 ·have e:=ab0 e
  have hf:¬0<f:=ab7;simp only[go_sem,hid];refine .same (.refl _) ⟨?_,?_⟩
  ·simp only[D.burn,if_neg hf,ax]
  ·simp only[D.burn,D.cells,if_neg hf]
   funext j
   simp only[upd];split
   ·rename_i e;subst e;exact hid
   ·rfl
theorem D.qU{d:D}(hd:d.ok):d.burn.ok:=by
 obtain⟨d1,d2,d3,d4⟩:=hd;unfold D.burn;split
 ·exact⟨d1,d2,d3,ab8⟩
 ·exact⟨d1,d2,d3,d4⟩
theorem D.xg(d:D):d.burn.b=d.b:=by grind [D.burn]
theorem D.Kl(d:D):d.burn.q=d.q:=by grind [D.burn]
theorem D.M0(d:D):d.burn.sy=d.sy:=by grind [D.burn]
theorem Nl(d:D)(hd:d.ok)(id:Nat)(h:Heap)(y:AV)(hid:h id=some (.obj (d.cells y) 87))(hb:By h y d.b):
  ai Tryz.prog 44 [.ptr id 0] h fun r h' =>r= .i (d.q - d.b.length:Nat)∧h' =h:=by
 obtain⟨q,b,sy,f,off⟩:=d;obtain⟨d1,d2,d3,d4⟩:=hd;simp only at d1 d2 d3 d4 hb;simp only[D.cells]at hid;refine ab6 Tryz.func44 13 [.tmp 2] fun hwf=>?_
 have w1:IntKind.i64.wrap ((q:Int) - b.length)=((q - b.length:Nat):Int):=acV;simp only[go_sem,hid,hb.len,w1];exact⟨.of ace,.same (.refl _) ⟨rfl,rfl⟩⟩
theorem QU(d:D)(id:Nat)(h:Heap)(y:AV)(hid:h id=some (.obj (d.cells y) 87))(hb:By h y d.b):
  ai Tryz.prog 87 [.ptr id 0] h fun r h' =>r= .i d.b.length∧h' =h:=by
 simp only[D.cells]at hid;refine ab6 Tryz.func87 8 [.tmp 2] fun hwf=>?_
 simp only[go_sem,hid,hb.len];exact aco
theorem N2(d:D)(hd:d.ok)(id:Nat)(h:Heap)(y:AV)(hid:h id=some (.obj (d.cells y) 87))(hb:By h y d.b):
  ai Tryz.prog 86 [.ptr id 0] h fun r h' =>r= .sl (d.b.map aK) .no∧h' =h:=by
 obtain⟨d1,d2,d3,d4⟩:=hd;simp only[D.cells]at hid;refine ab6 Tryz.func86 8 [.tmp 2] fun hwf=>?_
 simp only[go_sem,hid];refine(nU y d.b h hb ab7).mono fun r h' ⟨e1,e2⟩=>?_
 subst e1;subst e2
 simp only[go_sem];exact aco
def D.append(d:D)(b:List UInt8):D×Nat:=
 if d.off then(d,9)else if d.q<d.b.length+b.length then(d,8)else
  let e:=D.burn {d with b:=d.b++b}
  (e,if e.off then 9 else 0)
def D.sync(d:D):D×Nat:=
 if d.off then(d,9)else if d.burn.off then(d.burn,9)else({d.burn with sy:=d.b.length},0)
def D.cut(d:D)(n:Int):D×Nat:=
 if d.off then(d,9)else if n<0∨(d.b.length:Int)<n then(d,1)else
  if d.burn.off then(d.burn,9)else({d.burn with b:=d.b.take n.toNat,sy:=min d.sy n.toNat},0)
theorem D.qT{d:D}(hd:d.ok)(b:List UInt8):(d.append b).1.ok:=by
 unfold D.append;split
 ·omega
 ·split
  ·omega
  ·refine D.qU ⟨?_,hd.2.1,?_,hd.2.2.2⟩
   ·grind
   ·have:=hd.2.2.1
    grind
theorem D.EG{d:D}(hd:d.ok)(n:Int):(d.cut n).1.ok:=by
 have hb:=D.qU hd;unfold D.cut;split
 ·exact hd
 ·split
  ·exact hd
  ·split
   ·exact hb
   ·obtain⟨d1,d2,d3,d4⟩:=hb
    obtain⟨e1,e2,e3,e4⟩:=hd;refine⟨?_,?_,?_,d4⟩
    ·grind [D.Kl,List.length_take]
    ·grind [D.Kl]
    grind
theorem qT(d:D)(hd:d.ok)(id:Nat)(h:Heap)(x:AV)(b:List UInt8)(hdk:bM h id d)(hx:By h x b)(hl:b.length≤1000000000):
  ai Tryz.prog 15 [.ptr id 0,x] h fun r h' =>r= .v (.int .i64 (d.append b).2)∧bM h' id (d.append b).1∧Keep id h h' :=by
 obtain⟨y,hid0,hb⟩:=hdk;have hid:=hid0;simp only[D.cells]at hid;have hok:=hd;obtain⟨d1,d2,d3,d4⟩:=hd;refine ab6 Tryz.func15 26 [.tmp 4] fun hwf=>?_
 simp only[go_sem,hid];refine .intro (fun e=>?_) (fun e=>?_)
 ·simp only[go_sem]
  refine .same (.refl _) ?_;simp only[D.append,e,if_true,ax];exact adE
 ·simp only[go_sem,hid,hx.len]
  refine(Nl d hok id h y hid0 hb).mono fun r h' ⟨e1,e2⟩=>?_
  subst e1;subst e2
  simp only[go_sem];refine .intro (fun e2=>?_) (fun e2=>?_)
  ·have e2:=abZ e2
   simp only[go_sem];refine .same (.refl _) ?_;simp only[D.append,e,if_pos (show d.q<d.b.length+b.length by omega),ax]
   exact adE
  ·have e2:=ab0 e2
   have hno:¬d.q<d.b.length+b.length:=ab7;simp only[go_sem,hid,hb.fit,hx.fit];refine(zY [y,x] [d.b,b] .full h' (.cons hb (.cons hx .nil)) ?_ aci).mono fun r h1 ⟨e1,hs⟩=>?_
   ·simp only[List.flatten_cons,List.flatten_nil,List.append_nil,ab1];omega
   ·subst e1
    have hid1:=hs _ _ hid;simp only[go_sem,hid1];have hok2:D.ok {d with b:=d.b++b}:=⟨by show(d.b++b).length≤d.q;rw[ab1];omega,d2,by show d.sy≤(d.b++b).length;rw[ab1];omega,d4⟩
    refine(qU {d with b:=d.b++b} hok2 id _ (.sl ((d.b++b).map aK) .no) ?_).mono fun r h2 ⟨e1,e2⟩=>?_
    ·rw[ah]
     simp only[D.cells,List.flatten_cons,List.flatten_nil,List.append_nil]
    ·subst e1;subst e2
     have hk:Keep id h' (upd (upd h1 id (some (.obj (d.cells (.sl ((d.b++b).map aK) .no)) 87))) id (some (.obj ((D.burn {d with b:=d.b++b}).cells (.sl ((d.b++b).map aK) .no)) 87))):=
      (hs.keep id).trans ((Keep.upd id _).trans (Keep.upd id _))
     have hA:d.append b=(D.burn {d with b:=d.b++b},if(D.burn {d with b:=d.b++b}).off then 9 else 0):=by
      unfold D.append;rw[if_neg (by simp[e]),if_neg hno]
     simp only[go_sem];refine .intro (fun e3=>?_) (fun e3=>?_)
     ·simp only[go_sem]
      refine .same (.refl _) ?_;rw[hA,if_pos e3];refine⟨rfl,⟨_,ah ..,?_⟩,fun j k hj hk2=>?_⟩
      ·simp only[D.xg];exact .sl _ _
      ·rw[ag _ _ hj];exact hs _ _ hk2
     ·simp only[go_sem]
      refine .same (.refl _) ?_;rw[hA,if_neg (by simp[e3])]
      refine⟨rfl,⟨_,ah ..,?_⟩,fun j k hj hk2=>?_⟩
      ·simp only[D.xg];exact .sl _ _
      ·rw[ag _ _ hj];exact hs _ _ hk2
theorem Hv(d:D)(hd:d.ok)(id:Nat)(h:Heap)(hdk:bM h id d):
  ai Tryz.prog 89 [.ptr id 0] h fun r h' =>r= .i d.sync.2∧bM h' id d.sync.1∧Keep id h h' :=by
 obtain⟨y,hid0,hb⟩:=hdk;have hid:=hid0;simp only[D.cells]at hid;refine ab6 Tryz.func89 19 [.tmp 2] fun hwf=>?_
 simp only[go_sem,hid];refine .intro (fun e=>?_) (fun e=>?_)
 ·simp only[go_sem,e]
  refine .same (.refl _) ?_;simp only[D.sync,e,if_true,ax];exact adE
 ·simp only[go_sem,e]
  refine(qU d hd id h y hid0).mono fun r h1 ⟨e1,e2⟩=>?_
  subst e1;subst e2
  simp only[go_sem];refine .intro (fun e3=>?_) (fun e3=>?_)
  ·simp only[go_sem]
   refine .same (.refl _) ?_;rw[show d.sync=(d.burn,9) by unfold D.sync;rw[if_neg (by simp[e]),if_pos e3]]
   exact⟨rfl,⟨_,ah ..,by rw[D.xg];exact hb.set hid⟩,Keep.upd id _⟩
  ·simp only[D.cells]
   simp only[go_sem,hb.len];refine .same (.refl _) ?_;rw[show d.sync=({d.burn with sy:=d.b.length},0) by unfold D.sync;rw[if_neg (by simp[e]),if_neg (by simp[e3])]]
   exact⟨rfl,⟨_,ah ..,by show By _ _ d.burn.b;rw[D.xg];exact hb.set hid⟩,Keep.upd id _⟩
theorem EG(d:D)(hd:d.ok)(id:Nat)(h:Heap)(n:Int)(hdk:bM h id d):
  ai Tryz.prog 88 [.ptr id 0,.i n] h fun r h' =>r= .v (.int .i64 (d.cut n).2)∧bM h' id (d.cut n).1∧Keep id h h' :=by
 obtain⟨y,hid0,hb⟩:=hdk;have hid:=hid0;simp only[D.cells]at hid;have hok:=hd;obtain⟨d1,d2,d3,d4⟩:=hd;refine ab6 Tryz.func88 41 [.tmp 4] fun hwf=>?_
 simp only[go_sem,hid];refine .intro (fun e=>?_) (fun e=>?_)
 ·simp only[go_sem]
  refine .same (.refl _) ?_;simp only[D.cut,e,if_true,ax];exact adE
 ·simp only[go_sem,hid]
  have bad:(n<0∨(d.b.length:Int)<n)→mP [.i 1] h fun r h' =>r= .v (.int .i64 (d.cut n).2)∧bM h' id (d.cut n).1∧Keep id h h' :=fun hbad=>by
   refine .same (.refl _) ?_;simp only[D.cut,e,if_pos hbad,ax];exact adE
  refine .intro (fun e2=>?_) (fun e2=>?_)
  ·have e2' :=abZ e2
   simp only[go_sem,e2];exact bad (.inl e2')
  ·have e2' :=ab0 e2
   simp only[go_sem,e2,hid,hb.len];refine .intro (fun e3=>?_) (fun e3=>?_)
   ·have e3' :=abZ e3
    simp only[go_sem];exact bad (.inr e3')
   ·have e3' :=ab0 e3
    have hno:¬(n<0∨(d.b.length:Int)<n):=ab7;simp only[go_sem];refine(qU d hok id h y hid0).mono fun r h1 ⟨e1,e2⟩=>?_
    subst e1;subst e2
    simp only[go_sem];refine .intro (fun e4=>?_) (fun e4=>?_)
    ·simp only[go_sem]
     refine .same (.refl _) ?_;rw[show d.cut n=(d.burn,9) by unfold D.cut;rw[if_neg (by simp[e]),if_neg hno,if_pos e4]]
     exact⟨rfl,⟨_,ah ..,by rw[D.xg];exact hb.set hid⟩,Keep.upd id _⟩
    ·have hb1:By (upd h id (some (.obj (d.burn.cells y) 87))) y d.b:=hb.set hid
     simp only[D.cells]at hb1⊢;simp only[go_sem];refine hb1.take (m:=n) (x:=.i64) n.toNat ?_ ab7 ab7 u5 fun z hz=>?_
     ·simp only[go_sem]
     ·simp only[go_sem]
      refine(nU z _ _ hz ad4).mono fun r h1 ⟨e1,e2⟩=>?_
      subst e1;subst e2
      simp only[go_sem];refine .same (.refl _) ?_;rw[show d.cut n=({d.burn with b:=d.b.take n.toNat,sy:=min d.sy n.toNat},0) by unfold D.cut;rw[if_neg (by simp[e]),if_neg hno,if_neg (by simp[e4])]]
      refine⟨rfl,⟨.sl ((d.b.take n.toNat).map aK) .no,?_,.sl _ _⟩,Keep.upd id _⟩;simp only[ah,D.cells,D.M0];have:(if n<(d.sy:Int)then n else(d.sy:Int))=((min d.sy n.toNat:Nat):Int):=by split<;>omega
      rw[this]
theorem D.F9{d:D}{b:List UInt8}(h1:d.off=false)(h2:d.f=0)(h3:d.b.length+b.length≤d.q):d.append b=({d with b:=d.b++b},0):=by
 rcases d with⟨q,b0,sy,f,off⟩
 subst h1;subst h2
 unfold D.append;rw[if_neg aci,if_neg ab8];rfl
theorem D.Po{d:D}(h1:d.off=false)(h2:d.f=0):d.sync=({d with sy:=d.b.length},0):=by
 simp_all [D.sync,D.burn,if_neg]
theorem dthen{f:FuncId}{args:List AV}{h:Heap}{Q:AV→Heap→Prop}{X:AV}{id:Nat}{d:D}(hf:ai Tryz.prog f args h fun r h' =>r=X∧bM h' id d∧Keep id h h')(k:∀h',bM h' id d→Keep id h h'→Q X h'):ai Tryz.prog f args h Q:=
 hf.mono fun r h' ⟨e1,e2,e3⟩=>by subst e1;exact k h' e2 e3
theorem LU(d:D)(hk:d.ok)(id:Nat)(h:Heap)(hd:bM h id d):ai Tryz.prog 86 [.ptr id 0] h fun r h' =>r= .sl (d.b.map aK) .no∧h' =h:=by
 obtain⟨y,h1,h2⟩:=hd;exact N2 d hk id h y h1 h2
theorem NG(d:D)(id:Nat)(h:Heap)(hd:bM h id d):ai Tryz.prog 87 [.ptr id 0] h fun r h' =>r= .i d.b.length∧h' =h:=by
 obtain⟨y,h1,h2⟩:=hd;exact QU d id h y h1 h2
theorem kQ{d:D}{b:List UInt8}(h1:d.off=false)(h2:d.b.length+b.length≤d.q):d.append b=(D.burn {d with b:=d.b++b},if(D.burn {d with b:=d.b++b}).off then 9 else 0):=by
 simp_all [D.append,if_neg]
theorem D.OP{d:D}(h:d.f=0):d.burn=d:=by simp_all [D.burn,if_neg]
theorem D.Wm{d:D}(h1:d.off=false)(h2:d.f=0){n:Nat}(h3:n≤d.b.length):d.cut n=({d with b:=d.b.take n,sy:=min d.sy n},0):=by
 simp_all [D.cut,if_neg,D.OP]
theorem D.Ep{d:D}{b:List UInt8}(h1:d.off=false)(h2:d.q<d.b.length+b.length):d.append b=(d,8):=by
 simp_all [D.append,if_neg,if_pos]
def Bq(s:BitVec 32):BitVec 32:=if s &&& 1#32=1#32 then(s>>>1) ^^^ 0xedb88320#32 else s>>>1
def HT:Nat→BitVec 32→BitVec 32
 |0,s=>s
 |n+1,s=>Bq (HT n s)
def qV(s:BitVec 32)(c:UInt8):BitVec 32:=HT 8 (s ^^^ BitVec.ofNat 32 c.toNat)
def crc(l:List UInt8):BitVec 32:= ~~~ (l.foldl qV (BitVec.allOnes 32))
theorem P9(c:UInt8):IntKind.u32.wrap (c.toNat:Int)=((BitVec.ofNat 32 c.toNat).toNat:Int):=by
 rfl
theorem Fx(x:BitVec 32):(((x &&& 1#32).toNat:Int)==1)=decide (x &&& 1#32=1#32):=by
 rw[Bool.eq_iff_iff,beq_iff_eq,decide_eq_true_iff];constructor
 ·intro h
  apply BitVec.eq_of_toNat_eq
  grind
 grind
theorem Md(y:AV)(l:List UInt8)(h:Heap)(hb:By h y l)(hl:l.length≤1000000000):
  ai Tryz.prog 48 [y] h fun r h' =>r= .v (.int .u32 ((crc l).toNat:Int))∧h' =h:=by
 refine ab6 Tryz.func48 31 [.tmp 2] fun hwf=>?_
 simp only[go_sem,hb.len];refine .intro (fun m ρ h' =>h' =h∧∃i:Nat,i≤l.length∧m=l.length - i∧lk ρ 7=some y∧lk ρ 8=some (.i l.length)∧lk ρ 9=some (.i i)∧lk ρ 3=some (.v (.int .u32 (((l.take i).foldl qV (BitVec.allOnes 32)).toNat:Int)))) l.length ?_ ?_
 ·refine⟨rfl,0,ab7,rfl,?_,?_,?_,?_⟩<;>simp only[go_sem]
  rfl
 ·rintro m ρ h' ⟨rfl,i,hi,rfl,r7,r8,r9,r3⟩
  simp only[go_sem,r7,r8,r9,r3];refine .intro (fun e=>?_) (fun e=>?_)
  ·have hlt:i<l.length:=ab4 e
   have w1:IntKind.i64.wrap ((i:Int)+1)=((i+1:Nat):Int):=acn;have hs:(l.take (i+1)).foldl qV (BitVec.allOnes 32)=qV ((l.take i).foldl qV (BitVec.allOnes 32)) l[i]:=by
    grind [List.take_succ_eq_append_getElem]
   generalize (l.take i).foldl qV (BitVec.allOnes 32)=s at r3 hs;simp only[go_sem,r7,r8,r9,r3];refine hb.idx i rfl hlt u5 u5a fun p hp=>?_
   simp only[go_sem,r7,r8,r9,r3,hp _,P9];refine .intro (fun m ρ h2=>h2=h'∧∃j:Nat,j≤8∧m=8 - j∧lk ρ 7=some y∧lk ρ 8=some (.i l.length)∧lk ρ 9=some (.i i)∧lk ρ 17=some (.i j)∧lk ρ 3=some (.v (.int .u32 ((HT j (s ^^^ BitVec.ofNat 32 l[i].toNat)).toNat:Int)))) 8 ?_ ?_
   ·refine⟨rfl,0,ab7,rfl,?_,?_,?_,?_,?_⟩<;>simp only[go_sem,r7,r8,r9,r3]
    rfl
   ·rintro m ρ h2 ⟨rfl,j,hj,rfl,q7,q8,q9,q17,q3⟩
    simp only[go_sem,q7,q8,q9,q17,q3];refine .intro (fun e=>?_) (fun e=>?_)
    ·have hjl:j<8:=by grind
     have w2:IntKind.i64.wrap ((j:Int)+1)=((j+1:Nat):Int):=acn;have hc:HT (j+1) (s ^^^ BitVec.ofNat 32 l[i].toNat)=Bq (HT j (s ^^^ BitVec.ofNat 32 l[i].toNat)):=rfl;generalize HT j (s ^^^ BitVec.ofNat 32 l[i].toNat)=z at q3 hc;simp only[go_sem,q7,q8,q9,q17,q3,Fx];refine .intro (fun e2=>?_) (fun e2=>?_)
     ·simp only[go_sem,q7,q8,q9,q17,q3,Fx,w2]
      refine⟨_,?_,rfl,j+1,ab7,rfl,?_,?_,?_,?_,?_⟩
      rotate_left 5
      ·simp only[go_sem,q7,q8,q9,q17,q3]
       simp_all [Bq,if_pos,abZ]
      ·omega
      all_goals simp only[go_sem,q7,q8,q9,q17,q3,w2]
     ·simp only[go_sem,q7,q8,q9,q17,q3,Fx,w2]
      refine⟨_,?_,rfl,j+1,ab7,rfl,?_,?_,?_,?_,?_⟩
      rotate_left 5
      ·simp only[go_sem,q7,q8,q9,q17,q3]
       simp_all [Bq,if_neg,ab0]
      ·omega
      all_goals simp only[go_sem,q7,q8,q9,q17,q3,w2]
    ·have hj8:j=8:=by grind
     subst hj8;simp only[go_sem,q7,q8,q9,q17,q3,w1];refine⟨_,?_,rfl,i+1,ab7,rfl,?_,?_,?_,?_⟩
     rotate_left 4
     ·simp only[go_sem,q7,q8,q9,q17,q3]
      rw[hs];rfl
     ·omega
     all_goals simp only[go_sem,q7,q8,q9,q17,q3,w1]
  ·have hge:i=l.length:=by grind
   subst hge;rw[List.take_length]at r3;simp only[go_sem,r7,r8,r9,r3];exact aco
def qp(n:Nat):List UInt8:=[UInt8.ofNat n,UInt8.ofNat (n / 256),UInt8.ofNat (n / 65536),UInt8.ofNat (n / 16777216)]
def gT(l:List UInt8):Nat:=(l.getD 0 0).toNat+(l.getD 1 0).toNat*256+(l.getD 2 0).toNat*65536+(l.getD 3 0).toNat*16777216
theorem Gt(n:Nat)(hn:n<4294967296)(h:Heap):ai Tryz.prog 47 [.v (.int .u32 (n:Int))] h fun r h' =>r= .sl ((qp n).map aK) .no∧h' =h:=by
 refine ab6 Tryz.func47 15 [.tmp 2] fun hwf=>?_
 have s8:=fun K=>Kk (U:=U) (ty:=101) (K:=K) n 8 .u64 acd
 have s16:=fun K=>Kk (U:=U) (ty:=101) (K:=K) n 16 .u64 acd
 have s24:=fun K=>Kk (U:=U) (ty:=101) (K:=K) n 24 .u64 acd
 simp only[Int.cast_ofNat_Int]at s8 s16 s24;simp only[go_sem,↓s8,↓s16,↓s24,w8];exact ael
theorem CN(y:AV)(l:List UInt8)(h:Heap)(hb:By h y l)(hl:4≤l.length):ai Tryz.prog 186 [y] h fun r h' =>r= .v (.int .u32 (gT l:Nat))∧h' =h:=by
 refine ab6 Tryz.func186 25 [.tmp 2] fun hwf=>?_
 have lt:∀c:UInt8,c.toNat<256:=fun c=>c.toNat_lt
 have hnum:gT l=l[0].toNat+l[1].toNat*2 ^ 8+l[2].toNat*2 ^ 16+l[3].toNat*2 ^ 24:=by
  grind [gT]
 generalize hc0:l[0]=c0 at hnum;generalize hc1:l[1]=c1 at hnum;generalize hc2:l[2]=c2 at hnum;generalize hc3:l[3]=c3 at hnum;have v:=fun c:UInt8=>w32 c.toNat ab8
 have s1:=fun K=>Ev (U:=U) (ty:=101) (K:=K) c1.toNat 8 .u64 acd (lt _)
 have s2:=fun K=>Ev (U:=U) (ty:=101) (K:=K) c2.toNat 16 .u64 acd (lt _)
 have s3:=fun K=>Ev (U:=U) (ty:=101) (K:=K) c3.toNat 24 .u64 acd (lt _)
 have o1:=fun K=>Kj (U:=U) (ty:=101) (K:=K) c0.toNat c1.toNat 8 ab8 acd (lt _)
 have o2:=fun K=>Kj (U:=U) (ty:=101) (K:=K) (c0.toNat+c1.toNat*2 ^ 8) c2.toNat 16 ab8 acd (lt _)
 have o3:=fun K=>Kj (U:=U) (ty:=101) (K:=K) (c0.toNat+c1.toNat*2 ^ 8+c2.toNat*2 ^ 16) c3.toNat 24 ab8 acd (lt _)
 simp only[Int.cast_ofNat_Int]at s1 s2 s3;simp only[go_sem];refine⟨.of ace,?_⟩;refine hb.idx 0 rfl ab7 u5 u5a fun p0 hp0=>?_
 rw[hc0]at hp0;simp only[go_sem,hp0 _,v];refine hb.idx 1 rfl ab7 u5 u5a fun p1 hp1=>?_
 rw[hc1]at hp1;simp only[go_sem,hp1 _,v,↓s1,↓o1];refine hb.idx 2 rfl ab7 u5 u5a fun p2 hp2=>?_
 rw[hc2]at hp2;simp only[go_sem,hp2 _,v,↓s2,↓o2];refine hb.idx 3 rfl ab7 u5 u5a fun p3 hp3=>?_
 rw[hc3]at hp3;simp only[go_sem,hp3 _,v,↓s3,↓o3];refine .same (.refl _) ⟨?_,rfl⟩;rw[hnum];rfl
theorem sS(n:Nat):(qp n).length=4:=rfl
theorem Az(n:Nat)(hn:n<4294967296)(r:List UInt8):gT (qp n++r)=n:=by
 grind [gT,qp,List.getD_cons_zero,List.getD_cons_succ,UInt8.toNat_ofNat']
theorem NQ(l:List UInt8):gT l<4294967296:=by
 have h:∀c:UInt8,c.toNat<256:=fun c=>c.toNat_lt
 have h0:=h (l.getD 0 0);have h1:=h (l.getD 1 0);have h2:=h (l.getD 2 0);have h3:=h (l.getD 3 0);unfold gT;omega
def frame(p:List UInt8):List UInt8:=qp p.length++qp (crc p).toNat++p
theorem dW(p:List UInt8):(frame p).length=8+p.length:=by grind [frame,sS]
def fX(l:List UInt8):Option (List UInt8):=
 if l.length<8 then none else if gT l<1∨8192<gT l∨l.length - 8<gT l then none else
  if(crc ((l.drop 8).take (gT l))).toNat=gT (l.drop 4)then some ((l.drop 8).take (gT l))else none
theorem mS{l p:List UInt8}(h:fX l=some p):8+p.length≤l.length∧1≤p.length∧p.length≤8192:=by
 unfold fX at h;split at h
 ·cases h
 ·split at h
  ·cases h
  ·split at h
   ·simp only[Option.some.injEq]at h
    subst h;rw[List.length_take,List.length_drop];omega
   ·cases h
theorem zl(p r:List UInt8)(h1:1≤p.length)(h2:p.length≤8192):fX (frame p++r)=some p:=by
 have e1:gT (frame p++r)=p.length:=by grind [frame,List.append_assoc,Az]
 have e2:(frame p++r).drop 4=qp (crc p).toNat++(p++r):=by
  rfl
 have e3:(frame p++r).drop 8=p++r:=by
  rfl
 unfold fX;rw[if_neg (by grind [ab1,dW]),e1,if_neg (by grind [ab1,dW]),e2,e3,List.take_left,Az _ (crc p).isLt,if_pos rfl]
theorem nE(l:List UInt8)(h:l.length<8):fX l=none:=by simp_all [fX,if_pos]
def scan(l:List UInt8):List (List UInt8)×Nat:=match h:fX l with
 |none=>([],0)
 |some p=>let r:=scan (l.drop (8+p.length));(p::r.1,8+p.length+r.2)
termination_by l.length
decreasing_by
 have:=mS h;rw[List.length_drop];omega
theorem oh{l:List UInt8}(h:fX l=none):scan l=([],0):=by
 grind [scan]
theorem ru{l p:List UInt8}(h:fX l=some p):scan l=(p::(scan (l.drop (8+p.length))).1,8+p.length+(scan (l.drop (8+p.length))).2):=by
 grind [scan]
def frames(ps:List (List UInt8)):List UInt8:=(ps.map frame).flatten
theorem vt(p:List UInt8)(ps:List (List UInt8)):frames (p::ps)=frame p++frames ps:=acr
theorem vu(p:List UInt8)(ps:List (List UInt8)):frames (ps++ [p])=frames ps++frame p:=by simp[frames]
theorem DS(ps:List (List UInt8))(r:List UInt8)(h:∀p∈ps,1≤p.length∧p.length≤8192):scan (frames ps++r)=(ps++(scan r).1,(frames ps).length+(scan r).2):=by
 induction ps with
 |nil=>simp[frames]
 |cons p ps ih=>
  have hp:=h p aci;have hb:=zl p (frames ps++r) hp.1 hp.2;rw[vt,List.append_assoc,ru hb,List.drop_left' (dW p),ih fun q hq=>h q ab8]
  simp[dW];omega
theorem Hp(l:List UInt8):(scan l).2≤l.length:=by
 induction hn:l.length using Nat.strongRecOn generalizing l with
 |_ n ih=>
  cases hb:fX l with
  |none=>simp_all [oh,Nat.zero_le]
  |some p=>
   have hl:=mS hb;rw[ru hb];have:=ih (l.drop (8+p.length)).length ab8 _ rfl;rw[List.length_drop]at this;omega
theorem CO(y:AV)(l:List UInt8)(h:Heap)(hb:By h y l)(hl:l.length≤1000000):
  ai Tryz.prog 16 [y] h fun r h' =>r= .sl ((frame l).map aK) .no∧Sub h h' :=by
 refine ab6 Tryz.func16 13 [.tmp 2] fun hwf=>?_
 have w1:=w32 l.length ab7;simp only[go_sem,hb.len,w1];refine(Gt l.length ab7 h).pthen ?_;simp only[go_sem];refine(Md y l h hb ab7).pthen ?_;simp only[go_sem];refine(Gt (crc l).toNat (crc l).isLt h).pthen ?_;simp only[go_sem,hb.cells,hb.fit];refine(zY [.sl ((qp l.length).map aK) .no,.sl ((qp (crc l).toNat).map aK) .no,y] [qp l.length,qp (crc l).toNat,l] .full h (.cons (.sl _ _) (.cons (.sl _ _) (.cons hb .nil))) ?_ aci).sthen fun h' hs=>?_
 ·grind [sS]
 simp only[go_sem];refine .same (.refl _) ⟨?_,hs⟩;simp[frame,ax]
theorem BA(y:AV)(l:List UInt8)(h:Heap)(hb:By h y l)(hl:l.length≤2000000):
  ai Tryz.prog 139 [y] h fun r h' =>(∃P p b,r= .tup [P,.b b]∧By h P p∧fX l=if b=true then some p else none)∧h' =h:=by
 refine ab6 Tryz.func139 36 [.tmp 2,.tmp 3] fun hwf=>?_
 rcases Nat.lt_or_ge l.length 8 with h8|h8
 ·have t1:decide ((l.length:Int)<8)=true:=decide_eq_true ab7
  simp only[go_sem,hb.len,t1];exact .same (.refl _) ⟨⟨_,[],false,rfl,.nil _,nE l h8⟩,rfl⟩
 ·have t1:decide ((l.length:Int)<8)=false:=decide_eq_false ab7
  simp only[go_sem,hb.len,t1];refine(CN y l h hb ab7).pthen ?_;have hn:=NQ l;have w1:IntKind.i64.wrap ((gT l:Nat):Int)=((gT l:Nat):Int):=bf _ ab7;have w2:IntKind.i64.wrap ((l.length:Int) - 8)=((l.length - 8:Nat):Int):=acI
  by_cases hbad:gT l<1∨8192<gT l∨l.length - 8<gT l
  ·have hnone:fX l=none:=by unfold fX;rw[if_neg ab7,if_pos hbad]
   have fin:∀Z:Prop,Z→Z:=fun _ z=>z
   by_cases c1:gT l<1
   ·have t2:decide (((gT l:Nat):Int)<1)=true:=decide_eq_true ab7
    simp only[go_sem,hb.len,w1,w2,t2];exact adC
   ·have t2:decide (((gT l:Nat):Int)<1)=false:=decide_eq_false ab7
    by_cases c2:8192<gT l
    ·have t3:decide ((8192:Int)<((gT l:Nat):Int))=true:=decide_eq_true ab7
     simp only[go_sem,hb.len,w1,w2,t2,t3];exact adC
    ·have t3:decide ((8192:Int)<((gT l:Nat):Int))=false:=decide_eq_false ab7
     have t4:decide (((l.length - 8:Nat):Int)<((gT l:Nat):Int))=true:=decide_eq_true ab7;simp only[go_sem,hb.len,w1,w2,t2,t3,t4];exact adC
  ·have t2:decide (((gT l:Nat):Int)<1)=false:=decide_eq_false ab7
   have t3:decide ((8192:Int)<((gT l:Nat):Int))=false:=decide_eq_false ab7;have t4:decide (((l.length - 8:Nat):Int)<((gT l:Nat):Int))=false:=decide_eq_false ab7;have w3:IntKind.i64.wrap ((8:Int)+((gT l:Nat):Int))=((8+gT l:Nat):Int):=acI;simp only[go_sem,hb.len,w1,w2,t2,t3,t4,w3];refine hb.cut (m:=8) (m2:=(8+gT l:Nat)) (x:=.i64) (x2:=.i64) 8 (8+gT l) ?_ rfl ?_ rfl ab7 ab7 u5 fun z hz=>?_
   ·simp only[go_sem]
   ·simp only[go_sem]
   rw[Nat.add_sub_cancel_left]at hz;have hzl:((l.drop 8).take (gT l)).length≤1000000:=by rw[List.length_take,List.length_drop];omega
   simp only[go_sem];refine .quiet ace ?_;simp only[go_sem];refine⟨_,Md z _ h hz ab7,?_⟩;simp only[go_sem];refine hb.from (m:=4) (x:=.i64) 4 ?_ rfl ab7 u5 fun z4 hz4=>?_
   ·simp only[go_sem]
   simp only[go_sem];refine⟨_,CN z4 _ h hz4 ad3,?_⟩;simp only[go_sem];refine .same (.refl _) ⟨⟨z,_,_,rfl,hz,?_⟩,rfl⟩;unfold fX;rw[if_neg ab7,if_neg hbad]
   by_cases hc:(crc ((l.drop 8).take (gT l))).toNat=gT (l.drop 4)
   ·rw[if_pos hc,hc];simp
   ·rw[if_neg hc,if_neg]
    simp only[beq_iff_eq];omega
theorem JF:(U 37).bytes=24:=acr
def cD(p:List UInt8):AV:=.sl (p.map aK) .no
theorem Ho(ps:List (List UInt8))(h:Heap):Ab.Rows 5 h (ps.map cD) ps:=⟨aci,fun i h1 h2=>by simp only[abY];exact .sl _ _⟩
theorem mH(ps:List (List UInt8)):Sized 1 (ps.map cD):=(Ho ps dH).sized
def gU(h:Heap)(y:AV)(xs:List AV)(sp:List Nat):Prop:=(y= .sl xs .full∧sp= [])∨∃k,y= .sl xs (.own k)∧h k=some (.spare xs.length 1)∧sp= [k]
theorem Jm{l:List UInt8}{at_:Nat}{ps:List (List UInt8)}{p:List UInt8}(h:scan l=(ps++(scan (l.drop at_)).1,at_+(scan (l.drop at_)).2))(hp:fX (l.drop at_)=some p):
  scan l=((ps++ [p])++(scan (l.drop (at_+(8+p.length)))).1,(at_+(8+p.length))+(scan (l.drop (at_+(8+p.length)))).2):=by
 simp_all [ru,List.drop_drop,Nat.add_assoc]
theorem N9(y:AV)(l:List UInt8)(h:Heap)(hb:By h y l)(hl:l.length≤2000000):
  ai Tryz.prog 85 [y] h fun r h' =>∃z sp,r= .tup [z,.i ((scan l).2:Nat)]∧gU h' z ((scan l).1.map cD) sp∧Sub h h'∧∀i∈sp,h i=none:=by
 refine ab6 Tryz.func85 29 [.tmp 2,.tmp 3] fun hwf=>?_
 simp only[go_sem];refine .intro (fun m ρ h' =>∃(i:Nat) (ps:List (List UInt8)) (z:AV),Acc U 37 h h' z (ps.map cD)∧fN h h'∧ps.length≤i∧i≤l.length∧m=l.length - i∧scan l=(ps++(scan (l.drop i)).1,i+(scan (l.drop i)).2)∧
  lk ρ 0=some y∧lk ρ 4=some z∧lk ρ 5=some (.i (i:Nat))) l.length ?_ ?_
 ·refine⟨0,[],_,.full (.refl h),.refl h,aci,ab7,rfl,aci,?_,?_,?_⟩<;>simp only[go_sem]
 ·rintro m ρ h' ⟨i,ps,z,ha,hk,hpi,hi,rfl,hsc,r0,r4,r5⟩
  have hb' :=hb.eW hk;simp only[go_sem,r0,r4,r5];refine hb'.from (m:=i) (x:=.i64) i ?_ rfl hi u5 fun y2 hy2=>?_
  ·rfl
  simp only[go_sem,r0,r4,r5];refine(BA y2 (l.drop i) h' hy2 ab8).mono fun r h2 ⟨⟨P,p,b,e1,hP,hbg⟩,e2⟩=>?_
  subst e1;subst e2
  cases b with
  |false=>
   rw[if_neg aci]at hbg;rw[oh hbg]at hsc;simp only[go_sem,r0,r4,r5];have hs:=ha.1;rw[hsc];rcases ha.2 with rfl|⟨k,k1,rfl,k2⟩
   ·exact .same (.refl _) ⟨_,[],rfl,.inl ⟨aci,rfl⟩,hs,aci⟩
   ·rw[u27]at k2
    exact .same (.refl _) ⟨_,[k],rfl,.inr ⟨k,aci,ab8,rfl⟩,hs,ab8⟩
  |true=>
   rw[if_pos rfl]at hbg;have hpl:=mS hbg;rw[List.length_drop]at hpl;have hsc' :=Jm hsc hbg;have w1:IntKind.i64.wrap ((8:Int)+(p.length:Int))=((8+p.length:Nat):Int):=acn;have w2:IntKind.i64.wrap ((i:Int)+((8+p.length:Nat):Int))=((i+(8+p.length):Nat):Int):=acn;simp only[go_sem,r0,r4,r5];refine(nU P p h2 hP ab7).pthen' ?_;simp only[go_sem,r0,r4,r5];refine ha.app (zs:=[cD p]) acd acd (fun k hk=>hk) (by grind [u27,mH]) afw af5 fun z' h3 ha' hk' =>?_
   rw[show ps.map cD++ [cD p]=(ps++ [p]).map cD by simp]at ha'
   have hP3:=hP.eW hk';simp only[go_sem,r0,r4,r5,hP3.len,w1,w2];refine⟨_,?_,i+(8+p.length),ps++ [p],z',ha',hk.trans hk',ab8,ab7,rfl,hsc',?_,?_,?_⟩
   ·omega
   all_goals simp only[go_sem,r0,r4,r5,hP3.len,w1,w2]
theorem Oa(l:List UInt8):(scan l).1.length≤l.length∧∀p∈(scan l).1,p.length≤8192:=by
 induction hn:l.length using Nat.strongRecOn generalizing l with
 |_ n ih=>
  cases hb:fX l with
  |none=>simp_all [oh,Nat.zero_le]
  |some p=>
   have hl:=mS hb;rw[ru hb]
   grind
theorem gU.row{h:Heap}{y:AV}{xs:List AV}{sp:List Nat}(hg:gU h y xs sp):∃q,y= .sl xs q:=by
 rcases hg with⟨rfl,_⟩|⟨k,rfl,_⟩<;>exact⟨_,rfl⟩
def Touch(S:List Nat)(h h' :Heap):Prop:=∀j k,j∉S→h j=some k→h' j=some k
theorem Touch.refl(S:List Nat)(h:Heap):Touch S h h:=fun _ _ _ e=>e
theorem Touch.trans{S T:List Nat}{a b c:Heap}(x:Touch S a b)(y:Touch T b c):Touch (S++T) a c:=fun j k e hj=>y j k ab8 (x j k ab8 hj)
theorem Touch.of{S:List Nat}{h h' :Heap}(hs:Ab.Sub h h'):Touch S h h' :=fun _ _ _ e=>hs _ _ e
theorem Touch.keep{i:Nat}{h h' :Heap}(hs:Keep i h h'):Touch [i] h h' :=fun j k e hj=>hs j k ab8 hj
theorem Touch.upd{h:Heap}{i:Nat}{k:Option Blk}:Touch [i] h (upd h i k):=Touch.keep (Keep.upd i k)
theorem Touch.mono{S T:List Nat}{h h' :Heap}(ht:Touch S h h')(hs:∀i∈S,i∈T∨h i=none):Touch T h h' :=fun j k e hj=>ht j k ab8 hj
theorem gU.touch{h h' :Heap}{y:AV}{xs:List AV}{sp S:List Nat}(hg:gU h y xs sp)(ht:Touch S h h')(hn:∀i∈sp,i∉S):gU h' y xs sp:=by
 rcases hg with⟨rfl,rfl⟩|⟨k,rfl,k1,rfl⟩
 ·exact .inl ⟨rfl,rfl⟩
 ·exact .inr ⟨k,rfl,ht _ _ (hn k aci) k1,rfl⟩
theorem gU.has{h:Heap}{y:AV}{xs:List AV}{sp:List Nat}(hg:gU h y xs sp):∀i∈sp,∃n,h i=some (.spare n 1):=by
 rcases hg with⟨rfl,rfl⟩|⟨k,rfl,k1,rfl⟩
 ·simp
 grind
theorem gU.app{h:Heap}{y v:AV}{xs zs:List AV}{sp:List Nat}{Q:AV→Heap→Prop}(hg:gU h y xs sp)(hsrc:∀k:List AV→Prop,k zs→iu U 37 h v k)(s1:Sized 1 xs)(s2:Sized 1 zs)
  (hlen:xs.length+zs.length≤1000000000000) (hk:∀y' h' sp',gU h' y' (xs++zs) sp'→Touch sp h h'→(∀i∈sp',i∈sp∨h i=none)→Q y' h'):apK U h y v Q (.slice 37):=by
 rcases hg with⟨rfl,rfl⟩|⟨k,rfl,k1,rfl⟩
 ·refine(pV ..).mpr ⟨acd,acd,hsrc _ ⟨by grind [u27],by grind [u27],af5,fun hn=>?_,fun hn=> .own fun id hid=>?_⟩⟩
  ·subst hn
   exact hk _ _ [] (.inl ⟨aci,rfl⟩) (.refl _ _) aci
  ·rw[u27]
   exact hk _ _ [id] (.inr ⟨id,rfl,by rw[ah,ab1],rfl⟩) (.of ((Ab.Sub.refl h).new hid _)) ab8
 ·refine(Bm ..).mpr ⟨acd,acd,hsrc _ ⟨by grind [u27],by grind [u27],af5,by grind [u27],?_⟩⟩
  rw[u27];exact hk _ _ [k] (.inr ⟨k,rfl,by rw[ah,ab1],rfl⟩) .upd aci
def JAt(h:Heap)(t jid did:Nat)(ps:List (List UInt8))(down:Bool)(sp:List Nat):Prop:=
 ∃y xs,h jid=some (.obj [.ptr did 0,y,.b down] t)∧gU h y xs sp∧∀g,Ab.Rows 5 g xs ps
theorem JAt.touch{h h' :Heap}{t jid did:Nat}{ps:List (List UInt8)}{down:Bool}{sp S:List Nat}(hj:JAt h t jid did ps down sp)(ht:Touch S h h')(h1:jid∉S)(hn:∀i∈sp,i∉S):JAt h' t jid did ps down sp:=by
 obtain⟨y,xs,a,b,c⟩:=hj;exact⟨y,xs,ht _ _ h1 a,b.touch ht hn,c⟩
theorem JAt.sub{h h' :Heap}{t jid did:Nat}{ps:List (List UInt8)}{down:Bool}{sp:List Nat}(hj:JAt h t jid did ps down sp)(ht:Ab.Sub h h'):JAt h' t jid did ps down sp:=
 hj.touch (S:=[]) (.of ht) aci aci
theorem Jj{h:Heap}{xs:List AV}{ps:List (List UInt8)}{x:AV}{p:List UInt8}(hr:Ab.Rows 5 h xs ps)(hx:By h x p):Ab.Rows 5 h (xs++ [x]) (ps++ [p]):=⟨by simp[hr.1],fun i h1 h2=>by
 have hl:=hr.1
 by_cases hi:i<xs.length
 ·rw[List.getElem_append_left hi,List.getElem_append_left ab7]
  exact hr.2 i hi ab7
 ·have e:i=xs.length:=by grind
  subst e;simpa[hl]using hx⟩
theorem wB(jid did:Nat)(ps:List (List UInt8))(down:Bool)(sp:List Nat)(h:Heap)(hj:JAt h 160 jid did ps down sp):ai Tryz.prog 39 [.ptr jid 0] h fun r h' =>r= .b down∧h' =h:=by
 obtain⟨y,xs,a,_,_⟩:=hj;refine ab6 Tryz.func39 7 [.tmp 2] fun hwf=>?_
 simp only[go_sem,a];exact aco
theorem yJ(jid did:Nat)(ps:List (List UInt8))(down:Bool)(sp:List Nat)(h:Heap)(hj:JAt h 160 jid did ps down sp)(hl:ps.length≤1000000)(hp:∀p∈ps,p.length≤1000000):
  ai Tryz.prog 36 [.ptr jid 0] h fun r h' =>∃q,r= .sl (ps.map cD) q∧Ab.Sub h h' :=by
 obtain⟨y,xs,a,b,c⟩:=hj;refine ab6 Tryz.func36 22 [.tmp 2] fun hwf=>?_
 obtain⟨qy,rfl⟩:=b.row;have hlen:=(c h).1;simp only[go_sem,a];refine .intro (fun m ρ g=>∃(i:Nat) (z:AV),Acc U 37 h g z ((ps.take i).map cD)∧i≤ps.length∧m=ps.length - i∧lk ρ 3=some z∧lk ρ 9=some (.sl xs qy)∧lk ρ 10=some (.i xs.length)∧lk ρ 11=some (.i i)) (ps.length - 0) ?_ ?_
 ·refine⟨0,_,.full (.refl h),ab7,rfl,?_,?_,?_,?_⟩<;>simp only[go_sem]
 ·rintro m ρ g ⟨i,z,ha,hi,rfl,r3,r9,r10,r11⟩
  by_cases hc:i<ps.length
  ·have d1:decide ((i:Int)<(xs.length:Int))=true:=decide_eq_true ab7
   have w1:IntKind.i64.wrap ((i:Int)+1)=((i+1:Nat):Int):=acn;have hx:=(c g).2 i ab7 hc;simp only[go_sem,r3,r9,r10,r11,d1];refine .at i ab7 (by rw[hx.cells];rfl) ?_
   simp only[go_sem,r3,r9,r10,r11,hx.cells,hx.GP,and_self];refine(nU xs[i] ps[i] g hx ab8).pthen' ?_;simp only[go_sem,r3,r9,r10,r11];refine ha.app (v:=.sl [cD ps[i]] .full) (zs:=[cD ps[i]]) acd acd (fun k hk=>hk) (by grind [u27,mH]) afw af5 fun z' g2 ha' hk' =>?_
   simp only[go_sem,r3,r9,r10,r11,w1];refine⟨_,?_,i+1,z',?_,ab7,rfl,?_,?_,?_,?_⟩
   ·omega
   ·grind [List.take_succ_eq_append_getElem]
   all_goals simp only[go_sem,r3,r9,r10,r11,w1]
  ·obtain rfl:i=ps.length:=by omega
   have d1:decide ((ps.length:Int)<(xs.length:Int))=false:=decide_eq_false ab7;simp only[go_sem,r3,r9,r10,r11,d1];rw[List.take_length]at ha;obtain⟨q,rfl⟩:=ha.row;exact .same (.refl _) ⟨q,rfl,ha.1⟩
def D.cg(d:D):D×Nat:=
 let c:=if(scan d.b).2<d.b.length then d.cut ((scan d.b).2:Nat)else(d,0)
 if c.2=0 then c.1.sync else c
theorem K0(d:D)(hd:d.ok)(id:Nat)(h:Heap)(hdk:bM h id d):
  ai Tryz.prog 35 [.ptr id 0] h fun r h' =>∃J,r= .tup [J,.i (d.cg.2:Nat)]∧bM h' id d.cg.1∧Keep id h h'∧
   if d.cg.2=0 then∃jid sp,J= .ptr jid 0∧h jid=none∧JAt h' 160 jid id (scan d.b).1 false sp∧∀i∈sp,h i=none∧i≠jid else J= .v (.pointer none):=by
 refine ai.of_wp hU Tryz.func35 rfl acr 35 rfl [.tmp 2,.tmp 3] rfl (abW rfl) ?_;refine .one hU hm ?_;simp only[go_sem]
 show WP _ _ _ _ _ _
 refine .one hU hm ?_;simp only[go_sem]
 show WP _ _ _ _ _ _
 have hlen:d.b.length≤2000000:=by have:=hd.1;have:=hd.2.1;omega
 obtain⟨at_,hat⟩:∃n,(scan d.b).2=n:=⟨_,rfl⟩;have hatl:=Hp d.b;rw[hat]at hatl;refine .cut (fun ρ g=>∃z sp,gU g z ((scan d.b).1.map cD) sp∧Ab.Sub h g∧(∀i∈sp,h i=none)∧lk ρ 0=some (.ptr id 0)∧lk ρ 4=some z∧lk ρ 5=some (.i at_)) (.vc hU hm ?_) ?_
 ·simp only[go_sem]
  refine(LU d hd id h hdk).pthen ?_;simp only[go_sem];refine(N9 _ d.b h (.sl _ _) hlen).mono fun r g ⟨z,sp,e1,hg,hs,hsp⟩=>?_
  subst e1;rw[hat];simp only[go_sem];refine⟨z,sp,hg,hs,hsp,?_,?_,?_⟩<;>simp only[go_sem]
 rintro ρ g ⟨z,sp,hg,hs,hsp,r0,r4,r5⟩
 have hdk1:=hdk.keep hs.eW;have hob:∀i∈sp,i≠id:=fun i hi e=>by
  obtain⟨y,hy,_⟩:=hdk
  grind
 refine .cut (fun ρ g=>∃d1,d.cg=d1.sync∧d1.ok∧bM g id d1∧gU g z ((scan d.b).1.map cD) sp∧Keep id h g∧lk ρ 0=some (.ptr id 0)∧lk ρ 4=some z) (.vc hU hm ?_) ?_
 ·simp only[go_sem,r0,r4,r5]
  refine(NG d id g hdk1).pthen ?_;simp only[go_sem,r0,r4,r5];refine .intro (fun e=>?_) (fun e=>?_)
  ·have e:=abZ e
   have e' :at_<d.b.length:=ab7;simp only[go_sem,r0,r4,r5];refine dthen (EG d hd id g at_ hdk1) fun g1 hd1 kp=>?_
   have hO:d.cg=if(d.cut (at_:Nat)).2=0 then(d.cut (at_:Nat)).1.sync else d.cut (at_:Nat):=by
    simp_all [D.cg,if_pos]
   have ok1:=D.EG hd at_;generalize d.cut (at_:Nat)=D0 at hO hd1 ok1⊢;obtain⟨D1,c1⟩:=D0;simp only at hO hd1 ok1⊢;simp only[go_sem,r0,r4,r5]
   by_cases hc:c1=0
   ·subst hc
    rw[if_pos rfl]at hO;simp only[go_sem,r0,r4,r5];refine⟨D1,hO,ok1,hd1,hg.touch (Touch.keep kp) ab8,(hs.keep id).trans kp,?_,?_⟩<;>simp only[go_sem,r0,r4]
   ·rw[if_neg hc]at hO
    have t1:(((c1:Nat):Int) !=0)=true:=ab8;simp only[go_sem,r0,r4,r5,t1];refine .same (.refl _) ⟨_,by rw[hO];rfl,ab8,(hs.keep id).trans kp,?_⟩
    grind
  ·have e:=ab0 e
   have e' :¬at_<d.b.length:=ab7;have hO:d.cg=d.sync:=by
    simp_all [D.cg,if_neg]
   simp only[go_sem,r0,r4,r5];refine⟨d,hO,hd,hdk1,hg,hs.keep id,?_,?_⟩<;>simp only[go_sem,r0,r4]
 rintro ρ g1 ⟨d1,hO,ok1,hd1,hg1,kp1,r0,r4⟩
 refine .vc hU hm ?_;simp only[go_sem,r0,r4];refine dthen (Hv d1 ok1 id g1 hd1) fun g2 hd2 kp2=>?_
 rw[hO];generalize d1.sync=D0 at hd2⊢;obtain⟨D2,c2⟩:=D0;simp only at hd2⊢;have kp:=kp1.trans kp2;have hg2:=hg1.touch (Touch.keep kp2) ab8;simp only[go_sem,r0,r4]
 by_cases hc:c2=0
 ·subst hc
  obtain⟨qz,rfl⟩:=hg2.row;simp only[go_sem,r0,r4];intro jid hjid;simp only[go_sem,r0,r4];have hne:jid≠id:=fun e=>by
   obtain⟨y,hy,_⟩:=hd2
   grind
  have hjh:h jid=none:=by
   cases hh:h jid with
   |none=>rfl
   |some k=>rw[kp _ _ hne hh]at hjid;omega
  have hsj:∀i∈sp,i≠jid:=fun i hi e=>by
   obtain⟨n,hn⟩:=hg2.has i hi
   grind
  refine .same (.refl _) ⟨_,rfl,hd2.keep (.new hjid),fun j k e hj=>?_,jid,sp,rfl,hjh,⟨_,_,ah ..,hg2.touch .upd ab8,fun g=>Ho _ g⟩,fun i hi=>⟨hsp i hi,hsj i hi⟩⟩
  have h2:=kp j k e hj;rw[ag _ _ ab8];exact aga
 ·have t1:(((c2:Nat):Int) !=0)=true:=by grind
  simp only[go_sem,r0,r4,t1];exact .same (.refl _) ⟨_,rfl,hd2,kp,ab8⟩
def jadd(d:D)(ps:List (List UInt8))(down:Bool)(p:List UInt8):(D×List (List UInt8)×Bool)×Nat:=
 if down=true then((d,ps,true),9)else if p.length=0∨8192<p.length then((d,ps,false),1)else
  if(d.append (frame p)).2=8 then(((d.append (frame p)).1,ps,false),8)else
   if(if(d.append (frame p)).2=0 then(d.append (frame p)).1.sync else d.append (frame p)).2=0 then
    (((if(d.append (frame p)).2=0 then(d.append (frame p)).1.sync else d.append (frame p)).1,ps++ [p],false),0)
   else(((if(d.append (frame p)).2=0 then(d.append (frame p)).1.sync else d.append (frame p)).1,ps,true),9)
theorem D.Cg(d:D)(b:List UInt8):(d.append b).2=0∨(d.append b).2=8∨(d.append b).2=9:=by
 grind [D.append]
theorem D.Jz(d:D):d.sync.2=0∨d.sync.2=9:=by
 grind [D.sync]
theorem GH(d:D)(hd:d.ok)(id jid:Nat)(ps:List (List UInt8))(down:Bool)(sp:List Nat)(h:Heap)(x:AV)(p:List UInt8)(hdk:bM h id d)(hj:JAt h 160 jid id ps down sp)(hx:By h x p)(hp:p.length≤1000000)(hps:ps.length≤1000000):
  ai Tryz.prog 41 [.ptr jid 0,x] h fun r h' =>r= .i ((jadd d ps down p).2:Nat)∧∃sp',bM h' id (jadd d ps down p).1.1∧JAt h' 160 jid id (jadd d ps down p).1.2.1 (jadd d ps down p).1.2.2 sp'∧
   Touch (id::jid::sp) h h'∧∀i∈sp',i∈sp∨h i=none:=by
 obtain⟨y,xs,hjid,hg,hrs⟩:=hj;have hne:jid≠id:=fun e=>by
  obtain⟨z,hz,_⟩:=hdk;rw[←e,hjid]at hz;simp only[Option.some.injEq,Blk.obj.injEq]at hz;exact absurd hz.2 acd
 refine ai.of_wp hU Tryz.func41 rfl ace 51 rfl [.tmp 4] rfl (abW rfl) ?_;refine .one hU hm ?_;simp only[go_sem]
 show WP _ _ _ _ _ _
 refine .one hU hm ?_;cases down with
 |true=>
  have hJ:jadd d ps true p=((d,ps,true),9):=by simp[jadd]
  simp only[go_sem,hjid];refine .same (.refl _) ?_;rw[hJ];exact⟨rfl,sp,hdk,⟨y,xs,hjid,hg,hrs⟩,.refl _ _,fun i hi=> .inl hi⟩
 |false=>
  simp only[go_sem,hjid]
  show WP _ _ _ _ _ _
  refine .one hU hm ?_;have bad:(p.length=0∨8192<p.length)→mP [.i 1] h fun r h' =>r= .i ((jadd d ps false p).2:Nat)∧∃sp',bM h' id (jadd d ps false p).1.1∧JAt h' 160 jid id (jadd d ps false p).1.2.1 (jadd d ps false p).1.2.2 sp'∧
    Touch (id::jid::sp) h h'∧∀i∈sp',i∈sp∨h i=none:=fun hb=>by
   have hJ:jadd d ps false p=((d,ps,false),1):=by unfold jadd;rw[if_neg aci,if_pos hb]
   refine .same (.refl _) ?_;rw[hJ];exact⟨rfl,sp,hdk,⟨y,xs,hjid,hg,hrs⟩,.refl _ _,fun i hi=> .inl hi⟩
  by_cases h0:p.length=0
  ·have t0:(((p.length:Nat):Int)==0)=true:=by simp[h0]
   simp only[go_sem,hx.len,t0];exact bad (.inl h0)
  ·have t0:(((p.length:Nat):Int)==0)=false:=beq_eq_false_iff_ne.mpr ab7
   by_cases h1:8192<p.length
   ·have t1:decide ((8192:Int)<(p.length:Int))=true:=decide_eq_true ab7
    simp only[go_sem,hx.len,t0,t1];exact bad (.inr h1)
   ·have t1:decide ((8192:Int)<(p.length:Int))=false:=decide_eq_false ab7
    have hJ:jadd d ps false p=if(d.append (frame p)).2=8 then(((d.append (frame p)).1,ps,false),8)else
      if(if(d.append (frame p)).2=0 then(d.append (frame p)).1.sync else d.append (frame p)).2=0 then
       (((if(d.append (frame p)).2=0 then(d.append (frame p)).1.sync else d.append (frame p)).1,ps++ [p],false),0)
      else(((if(d.append (frame p)).2=0 then(d.append (frame p)).1.sync else d.append (frame p)).1,ps,true),9):=by
     have hno:¬(p.length=0∨8192<p.length):=ab7;unfold jadd;rw[if_neg aci,if_neg hno]
    have hcode:=D.Cg d (frame p);simp only[go_sem,hx.len,t0,t1]
    show WP _ _ _ _ _ _
    refine .one hU hm ?_;simp only[go_sem];refine .calls (hm1 jid _) [0,1,2,3,4,5,6,7] (.hm1 hjid) ace rfl ?_;simp only[go_sem,hjid];refine(CO x p h hx hp).sthen fun g1 hs1=>?_
    refine⟨.hm1 (hs1 _ _ hjid),?_⟩;simp only[go_sem];refine dthen (qT d hd id g1 _ (frame p) (hdk.keep hs1.eW) (.sl _ _) (by rw[dW];omega)) fun g2 hd2 kp=>?_
    have hj2:g2 jid=some (.obj [.ptr id 0,y,.b false] 160):=kp _ _ hne (hs1 _ _ hjid);refine⟨.hm1 hj2,?_⟩;have ok2:=D.qT hd (frame p);have hkp:Keep id h g2:=(hs1.keep id).trans kp;have hgid:∀i∈sp,i≠id:=fun i hi e=>by
     obtain⟨n,hn⟩:=hg.has i hi;obtain⟨z,hz,_⟩:=hdk;rw[e,hz]at hn;cases hn
    have hg2:gU g2 y xs sp:=hg.touch (Touch.keep hkp) (fun i hi=>by simp[hgid i hi])
    have hx2:By g2 x p:=by
     obtain⟨z,hz,_⟩:=hdk;exact(hx.keep hkp hz acd)
    have hT2:Touch (id::jid::sp) h g2:=(Touch.keep hkp).mono (fun i hi=> .inl (by simp at hi;simp[hi]))
    generalize d.append (frame p)=A at hJ hcode hd2 ok2⊢;obtain⟨d2,c2⟩:=A;simp only at hJ hcode hd2 ok2⊢;simp only[go_sem]
    show WP _ _ _ _ _ _
    refine .one hU hm ?_;have downed:∀(g:Heap) (e:D) (ρ:Env),bM g id e→g jid=some (.obj [.ptr id 0,y,.b false] 160)→gU g y xs sp→Touch (id::jid::sp) h g→jadd d ps false p=((e,ps,true),9)→
      (mP [.i 9] (upd g jid (some (.obj [.ptr id 0,y,.b true] 160))) fun r h' =>r= .i ((jadd d ps false p).2:Nat)∧∃sp',bM h' id (jadd d ps false p).1.1∧JAt h' 160 jid id (jadd d ps false p).1.2.1 (jadd d ps false p).1.2.2 sp'∧
       Touch (id::jid::sp) h h'∧∀i∈sp',i∈sp∨h i=none):=fun g e ρ a1 a2 a3 a4 hJ=>by
     rw[hJ];have hsj:∀i∈sp,i≠jid:=fun i hi e=>by
      obtain⟨n,hn⟩:=hg.has i hi;rw[e,hjid]at hn;cases hn
     have ht:Touch [jid] g (upd g jid (some (.obj [.ptr id 0,y,.b true] 160))):=.upd;refine .same (.refl _) ⟨rfl,sp,?_,⟨y,xs,ah ..,a3.touch ht (fun i hi=>by simp[hsj i hi]),hrs⟩,(a4.trans ht).mono (fun i hi=> .inl (by simp at hi⊢;rcases hi with h|h|h|h<;>simp[h])),fun i hi=> .inl hi⟩
     obtain⟨z,z1,z2⟩:=a1;exact⟨z,ht _ _ (by simp;exact fun e=>hne e.symm) z1,z2.keep (Keep.upd jid _) a2 acd⟩
    have hc0:=hcode;rcases hcode with rfl|rfl|rfl
    ·
     simp only[go_sem];refine .one hU hm ?_;simp only[go_sem,hj2];refine dthen (Hv d2 ok2 id g2 hd2) fun g3 hd3 kp3=>?_
     have hj3:g3 jid=some (.obj [.ptr id 0,y,.b false] 160):=kp3 _ _ hne hj2;have hg3:gU g3 y xs sp:=hg2.touch (Touch.keep kp3) (fun i hi=>by simp[hgid i hi])
     have hx3:By g3 x p:=by
      obtain⟨z,hz,_⟩:=hd2;exact(hx2.keep kp3 hz acd)
     have hT3:Touch (id::jid::sp) h g3:=(hT2.trans (Touch.keep kp3)).mono (fun i hi=> .inl (by simp at hi⊢;rcases hi with h|h|h|h<;>simp[h]))
     have hcs:=D.Jz d2;rw[if_neg acd,if_pos rfl]at hJ;generalize d2.sync=A at hJ hcs hd3⊢;obtain⟨d3,c3⟩:=A;simp only at hJ hcs hd3⊢;rcases hcs with rfl|rfl
     ·simp only[go_sem]
      refine .one hU hm ?_;simp only[go_sem];refine .one hU hm ?_;simp only[go_sem];refine .last (hm1 jid _) [0,1,2,3,4,5,6,7,8,9,10] (.hm1 hj3) ace rfl ace rfl ?_;simp only[go_sem,hj3];refine(nU x p g3 hx3 ab7).pthen' ?_;obtain⟨qy,rfl⟩:=hg3.row;refine⟨.hm1 hj3,?_⟩;simp only[go_sem,hj3];refine hg3.app (v:=.sl [cD p] .full) (zs:=[cD p]) (fun k hk=>hk) (hrs h).sized (by simp[Sized,cD,AV.cells]) (by have:=(hrs h).1;simp;omega) fun z g4 sp' hg4 ht4 hsp' =>?_
      have hsj:∀i∈sp,i≠jid:=fun i hi e=>by
       obtain⟨n,hn⟩:=hg.has i hi;rw[e,hjid]at hn;cases hn
      have hj4:g4 jid=some (.obj [.ptr id 0,.sl xs qy,.b false] 160):=ht4 _ _ (fun hi=>hsj _ hi rfl) hj3
      refine⟨.hm1 hj4,?_⟩;obtain⟨qz,rfl⟩:=hg4.row;simp only[go_sem,hj4];refine .vc hU hm ?_;simp only[go_sem];have ht5:Touch [jid] g4 (upd g4 jid (some (.obj [.ptr id 0,.sl (xs++ [cD p]) qz,.b false] 160))):=.upd;have hsj' :∀i∈sp',i≠jid:=fun i hi e=>by
       obtain⟨n,hn⟩:=hg4.has i hi;rw[e,hj4]at hn;cases hn
      rw[if_pos rfl]at hJ;refine .same (.refl _) ?_;rw[hJ];refine⟨rfl,sp',?_,⟨_,_,ah ..,hg4.touch ht5 (fun i hi=>by simp[hsj' i hi]),fun g=>Jj (hrs g) (.sl _ _)⟩,?_,fun i hi=>?_⟩
      ·obtain⟨z,z1,z2⟩:=hd3
       have hid4:g4 id=some (.obj (d3.cells z) 87):=ht4 _ _ (fun hi=>hgid _ hi rfl) z1
       have z4:By g4 z d3.b:=by
        rcases z2 with z2|⟨i,off,cs,rfl,a1,a2,a3⟩
        ·exact .inl z2
        ·exact .oa (ht4 _ _ (fun hi=>by obtain⟨n,hn⟩:=hg3.has i hi;rw[a1]at hn;cases hn) a1) a2 a3
       exact⟨z,ht5 _ _ (by simp;exact fun e=>hne e.symm) hid4,z4.keep (Keep.upd jid _) hj4 acd⟩
      ·exact((hT3.trans ht4).trans ht5).mono (fun i hi=> .inl (by simp at hi⊢;grind))
      ·rcases hsp' i hi with h1|h1
       ·exact .inl h1
       ·cases hh:h i with
        |none=>exact .inr rfl
        |some k=>
         by_cases hin:i∈id::jid::sp
         ·simp only[List.mem_cons]at hin
          rcases hin with e|e|e
          ·subst e;rw[hd3.choose_spec.1]at h1;cases h1
          ·subst e;rw[hj3]at h1;cases h1
          ·exact .inl e
         ·rw[hT3 i k hin hh]at h1;cases h1
     ·simp only[go_sem]
      refine .one hU hm ?_;simp only[go_sem,hj3];exact downed g3 d3 [] hd3 hj3 hg3 hT3 hJ
    ·
     simp only[go_sem];refine .same (.refl _) ?_;rw[hJ];exact⟨rfl,sp,hd2,⟨y,xs,hj2,hg2,hrs⟩,hT2,fun i hi=> .inl hi⟩
    ·simp only[go_sem]
     refine .one hU hm ?_;simp only[go_sem,hj2];refine .one hU hm ?_;simp only[go_sem,hj2];exact downed g2 d2 [] hd2 hj2 hg2 hT2 hJ
theorem D.Ly{d:D}(hd:d.ok)(h1:d.off=false)(h2:d.f=0):d.cg=({d with b:=d.b.take (scan d.b).2,sy:=(scan d.b).2},0):=by
 have hl:=Hp d.b;have Po:∀e:D,e.off=false→e.f=0→e.sync=({e with sy:=e.b.length},0):=fun e h1 h2=>by
  unfold D.sync;rw[if_neg (by simp[h1]),D.OP h2,if_neg (by simp[h1])]
 unfold D.cg
 by_cases h:(scan d.b).2<d.b.length
 ·rw[if_pos h,D.Wm h1 h2 hl]
  grind
 ·have e:(scan d.b).2=d.b.length:=by omega
  grind
theorem Jn(ps:List (List UInt8))(r:List UInt8)(h:∀p∈ps,1≤p.length∧p.length≤8192)(hr:r.length<8):scan (frames ps++r)=(ps,(frames ps).length):=by
 grind [DS,oh,nE]
theorem T3{d:D}{ps:List (List UInt8)}{p:List UInt8}(h1:d.off=false)(h2:d.f=0)(hp1:1≤p.length)(hp2:p.length≤8192)(hf:d.b.length+(frame p).length≤d.q):
  jadd d ps false p=(({d with b:=d.b++frame p,sy:=(d.b++frame p).length},ps++ [p],false),0):=by
 have hno:¬(p.length=0∨8192<p.length):=ab7;have hs:({d with b:=d.b++frame p}:D).sync=({d with b:=d.b++frame p,sy:=(d.b++frame p).length},0):=D.Po h1 h2
 unfold jadd;rw[if_neg aci,if_neg hno,D.F9 h1 h2 hf,if_neg ab7,if_pos rfl,hs,if_pos rfl]
theorem KZ{d:D}{ps:List (List UInt8)}{p:List UInt8}(h1:d.off=false)(hp1:1≤p.length)(hp2:p.length≤8192)(hf:d.q<d.b.length+(frame p).length):
  jadd d ps false p=((d,ps,false),8):=by
 have hno:¬(p.length=0∨8192<p.length):=ab7;unfold jadd;rw[if_neg aci,if_neg hno,D.Ep h1 hf,if_pos rfl]
theorem yM:scan []=([],0):=by grind [oh,nE]
end Go.Proofs.YtfdgemhnlennbaaGreatDoor
namespace Go.Bf
open Go Go.Ab Go.Proofs.YtfdgemhnlennbaaGreatDoor
def fnv(h:BitVec 64)(n:Nat):BitVec 64:=(h ^^^ BitVec.ofNat 64 n)*1099511628211#64
def Nk(g:BitVec 64→Nat→BitVec 64):Nat→BitVec 64→BitVec 64→BitVec 64
 |0,_,h=>h
 |n+1,p,h=>Nk g n (p>>>8) (g h (p &&& 255#64).toNat)
def Is(n:Nat)(p h:BitVec 64):BitVec 64:=Nk fnv n p h
theorem Iv(g:BitVec 64→Nat→BitVec 64)(n:Nat)(p h:BitVec 64):Nk g (n+1) p h=Nk g n (p>>>8) (g h (p &&& 255#64).toNat):=rfl
theorem Iu(p h:BitVec 64):Is 0 p h=h:=rfl
theorem It(n:Nat)(p h:BitVec 64):Is (n+1) p h=Is n (p>>>8) (fnv h (p &&& 255#64).toNat):=Iv fnv n p h
def j9(prev:BitVec 64)(l:Txt):BitVec 64:=l.foldl (fun h c=>fnv h c.toNat) (Is 8 prev 14695981039346656037#64)
def mq:Nat→BitVec 64→Txt
 |0,_=>[]
 |n+1,h=>UInt8.ofNat h.toNat::mq n (h>>>8)
def cN(h:BitVec 64)(o:OpD):Txt:=mq 8 h++iU o
theorem iE:∀(n:Nat) (h:BitVec 64),(mq n h).length=n
 |0,_=>rfl
 |n+1,h=>by simp[mq,iE n]
structure cL where
 s:an
 log:List pS
 ch:BitVec 64
 ps:List Txt
 down:Bool
def iP(e:cL)(p:Txt):Option OpD:=if p.length<8 then none else match nV (p.drop 8)with
 |some o=>if cN e.ch o=p then some o else none
 |none=>none
def mz(e:cL)(g:an×j8×pS×Int)(p:Txt):cL:={e with s:=g.1,log:=e.log++ [g.2.2.1],ch:=j9 e.ch p}
def j5(e:cL)(p:Txt):Option cL:=match iP e p with
 |some o=>if(aP e.s o).2.2.2=0 then some (mz e (aP e.s o) p)else none
 |none=>none
def hY:cL→List Txt→Option cL
 |e,[]=>some e
 |e,p::r=>match j5 e p with
  |some e' =>hY e' r
  |none=>none
def fC(ps:List Txt):cL:=⟨wh,[],0,ps,false⟩
def so(ps:List Txt):Option cL:=hY (fC ps) ps
def Bu(n:Int):j8:=⟨n,naM,false,au,false,0⟩
def doE(e:cL)(d:D)(o:OpD):cL×D×j8:=
 if e.down then(e,d,Bu 9)else
 let g:=aP e.s o
 if g.2.2.2≠0 then(e,d,g.2.1)else
 let p:=cN e.ch o
 let a:=jadd d e.ps e.down p
 if a.2=0 then({mz e g p with ps:=a.1.2.1,down:=a.1.2.2},a.1.1,g.2.1)else({e with ps:=a.1.2.1,down:=a.1.2.2},a.1.1,Bu (a.2:Int))
theorem rQ:∀(l:List Txt) (e:cL) (p:Txt),hY e (l++ [p])=(hY e l).bind fun e' =>j5 e' p
 | [],e,p=>by
  grind [hY,j5]
 |q::l,e,p=>by
  simp only[List.cons_append,hY];cases j5 e q with
  |none=>rfl
  |some e' =>exact rQ l e' p
theorem Og{e e' :cL}{p:Txt}(h:j5 e p=some e')(ps:List Txt):j5 {e with ps:=ps} p=some {e' with ps:=ps}:=by
 unfold j5 at h⊢;have hr:iP {e with ps:=ps} p=iP e p:=rfl
 rw[hr];cases hq:iP e p with
 |none=>rw[hq]at h;cases h
 |some o=>
  rw[hq]at h;simp only at h⊢;split at h
  ·rename_i hg
   rw[if_pos hg];cases h;rfl
  ·cases h
theorem Gr:∀(l:List Txt) {e e' :cL},hY e l=some e'→∀ps,hY {e with ps:=ps} l=some {e' with ps:=ps}
 | [],e,e',h,ps=>by cases h;rfl
 |p::l,e,e',h,ps=>by
  simp only[hY]at h⊢;cases hs:j5 e p with
  |none=>grind
  |some e1=>
   rw[hs]at h;rw[Og hs ps];exact Gr l h ps
def zP(e:cL):Prop:=so e.ps=some {e with down:=false}
theorem LV{e:cL}{o:OpD}(hf:dF o=true)(h64:nC o):iP e (cN e.ch o)=some o:=by
 unfold iP;rw[if_neg (by simp[cN,iE])]
 grind [cN,iU,List.drop_left',iE,No]
theorem ia{s:an}{o:OpD}(h:(aP s o).2.2.2=0):dF o=true:=by
 have hp:(jX s o).1=0:=by
  unfold aP at h
  grind
 exact(tD hp).2.1
theorem Qw{e:cL}{o:OpD}(he:zP e)(hg:(aP e.s o).2.2.2=0)(h64:nC o):zP {mz e (aP e.s o) (cN e.ch o)with ps:=e.ps++ [cN e.ch o],down:=false}:=by
 unfold zP so at he⊢;have h1:=Gr _ he (e.ps++ [cN e.ch o]);rw[rQ,show fC (e.ps++ [cN e.ch o])= {fC e.ps with ps:=e.ps++ [cN e.ch o]} from rfl,h1]
 simp only[Option.bind_some];unfold j5;have hr:iP {({e with down:=false}:cL)with ps:=e.ps++ [cN e.ch o]} (cN e.ch o)=some o:=by
  have:=LV (e:={({e with down:=false}:cL)with ps:=e.ps++ [cN e.ch o]}) (ia hg) h64
  exact acQ
 rw[hr];simp only;generalize cN e.ch o=p;rw[if_pos hg];rfl
theorem HA:∀(f v:Nat),(oo f v).length≤f
 |0,_=>by simp[oo]
 |f+1,v=>by
  unfold oo;split
  ·simp
  ·simp only[List.length_cons]
   have:=HA f (v / 128);omega
theorem iI(n:Int):(iH n).length≤10:=HA 10 _
theorem NR(n:Int):1≤(iH n).length:=List.length_pos_iff.2 (Hz 10 _ acd)
theorem cV(s:Txt):(cZ s).length≤10+s.length:=by
 grind [cZ,ab1,iI]
theorem wO{v:bz}(h:v=au∨bB v=true):(nN v).length≤84:=by
 have hs:v.kind=3∨v.kind=5→v.s.length≤64:=fun e=>by
  rcases h with rfl|h
  ·decide
  simp_all [uY]
 unfold nN;rw[ab1];have h1:=iI v.kind;split
 ·rename_i e
  have:=cV v.s;omega
 ·have:=iI v.n
  omega
theorem wH{o:OpD}(hf:OpF o):1≤(iU o).length∧(iU o).length≤5000:=by
 unfold iU;simp only[ab1];have h1:=iI o.kind;have h0:=NR o.kind;have h2:=cV o.subj;have h3:=cV o.case;have h4:=cV o.field;have h5:=cV o.to;have h6:=wO hf.val;have h7:=iI o.review;have h8:=cV o.text;have h9:=cV o.reason;have h10:=wO (v:=dJ o.glass) (.inr (yY _));have:=hf.subj;have:=hf.case;have:=hf.field;have:=hf.to;have:=hf.text;have:=hf.reason;omega
theorem rq{h:BitVec 64}{o:OpD}(hf:OpF o):9≤(cN h o).length∧(cN h o).length≤5008:=by
 grind [wH,cN,ab1,iE]
def xZ(a b:bz):Int:=if bB a=false∨bB b=false then 1 else 2
def kV(a b:bz):AV:=match mY a b with
 |some x=> .tup [.b x,.i 0]
 |none=> .tup [.b false,.i (xZ a b)]
theorem As{a b:bz}(h:bB a=false∨bB b=false):kV a b= .tup [.b false,.i 1]:=by
 unfold kV mY;rw[if_pos ab8]
 simp_all [xZ,if_pos]
theorem xY{a b:bz}(h1:bB a=true)(h2:bB b=true)(h:a.kind≠b.kind∨a.kind=1):kV a b= .tup [.b false,.i 2]:=by
 simp_all [kV,mY,if_pos,xZ]
theorem NJ{a b:bz}(h1:bB a=true)(h2:bB b=true)(h:a.kind=b.kind)(h0:a.kind≠1)(ht:a.kind=3∨a.kind=5):kV a b= .tup [.b (Op.bytesLess a.s b.s),.i 0]:=by
 simp_all [kV,mY,if_neg,if_pos]
theorem NI{a b:bz}(h1:bB a=true)(h2:bB b=true)(h:a.kind=b.kind)(h0:a.kind≠1)(ht:¬(a.kind=3∨a.kind=5)):kV a b= .tup [.b (decide (a.n<b.n)),.i 0]:=by
 simp_all [kV,mY,if_neg]
end Go.Bf
namespace Go.Proofs.YtfdgemhnlennbaaGreatDoor
open Go Go.Ab Go.Bf
theorem yW(k:Int)(h:Heap):ai Tryz.prog 190 [.i k] h fun r h' =>r= .b (k==3||k==5)∧h' =h:=by
 refine ab6 Tryz.func190 9 [.tmp 2] fun hwf=>?_
 cases d1:(k==3)<;>cases d2:(k==5)
 all_goals
  simp only[go_sem,d1,d2];exact aco
theorem BJ(a b:bz)(h:Heap):ai Tryz.prog 281 [aS a,aS b] h fun r h' =>r=kV a b∧h' =h:=by
 have ha:=fun(G:Heap)=>gq a G
 have hb:=fun(G:Heap)=>gq b G
 simp only[aS]at ha hb;refine ab6 Tryz.func281 40 [.tmp 4,.tmp 5] fun hwf=>?_
 simp only[go_sem,aS];intro i1 h1;simp only[go_sem];intro i2 h2;have n21:=aH h2;have n2:=aC h2;have hs:∀x y,Ab.Sub h (upd (upd h i1 x) i2 y):=fun x y=>((Sub.refl h).put h1 x).put n2 y
 simp only[go_sem,ak,n21.symm];refine(ha _).pthen ?_;cases da:bB a
 ·simp only[go_sem]
  exact .mk _ (.refl _) (hs _ _) ⟨by rw[As (.inl da)];rfl,rfl⟩
 simp only[go_sem];refine(hb _).pthen ?_;cases db:bB b
 ·simp only[go_sem]
  exact .mk _ (.refl _) (hs _ _) ⟨by rw[As (.inr db)];rfl,rfl⟩
 cases dk:(a.kind !=b.kind)
 case true=>
  simp only[go_sem,ak,n21.symm,dk];exact .mk _ (.refl _) (hs _ _) ⟨by rw[xY da db (.inl ab8)];rfl,rfl⟩
 have ek:a.kind=b.kind:=ab8;cases d1:(a.kind==1)
 case true=>
  simp only[go_sem,ak,n21.symm,dk,d1];exact .mk _ (.refl _) (hs _ _) ⟨by rw[xY da db (.inr ab8)];rfl,rfl⟩
 have e1:a.kind≠1:=ab8;simp only[go_sem,ak,n21.symm,dk,d1];refine(yW _ _).pthen ?_;cases dt:(a.kind==3||a.kind==5)
 ·simp only[go_sem,ak,n21.symm]
  exact .mk _ (.refl _) (hs _ _) ⟨by rw[NI da db ek e1 ab8];rfl,rfl⟩
 ·simp only[go_sem,ak,n21.symm]
  exact .mk _ (.refl _) (hs _ _) ⟨by rw[NJ da db ek e1 ab8];rfl,rfl⟩
def Ix(bag:List bz)(must:Bool):AV:=if bag= []∧must=true then .tup [.sl [] .no,.i 4]else .tup [.sl (bag.map aS) .no,.i 0]
theorem Gv(gs:List bn)(cat:Int)(name:Txt)(must:Bool)(hl:gs.length≤1000000000)(hb:∀g∈gs,g.bag.length≤1000000)(h:Heap):ai Tryz.prog 247 [bI gs,.agg [.i cat,.s name,.b must]] h fun r h' =>r=Ix (getD gs cat name) must∧h' =h:=by
 have hpl:=fun G=>LI gs cat name hl G
 simp only[bI]at hpl;have frz:∀(x:AV) (e:Int),Weak x (.sl [] .no)→Weak (.tup [x,.i e]) (.tup [.sl [] .no,.i e]):=fun x e hx=> .tup _ _ rfl fun i a b=>by
  rcases i with _|_|i
  ·grind
  ·exact adu
  grind
 refine ab6 Tryz.func247 30 [.tmp 4,.tmp 5] fun hwf=>?_
 simp only[go_sem,bI];intro i1 h1;simp only[go_sem];refine(hpl _).pthen ?_
 by_cases hx:gs.findIdx (iL cat name)<gs.length
 ·have e1:ixD (iL cat name) gs=(gs.findIdx (iL cat name):Nat):=by simp_all [ixD,if_pos]
  have d1:decide ((0:Int)≤((gs.findIdx (iL cat name):Nat):Int))=true:=decide_eq_true ab7;rw[e1];simp only[go_sem,d1];refine .at (gs.findIdx (iL cat name)) ab8 acq ?_;simp only[go_sem,abY,kS];rw[if_neg (fun hh=>hh.1)]
  have hlb:=hb _ (ab2 hx);rw[get_at hx];obtain⟨B,eB⟩:∃B,gs[gs.findIdx (iL cat name)].bag=B:=⟨_,rfl⟩;rw[eB]at hlb⊢;refine(Cu _ (B.map aS) _ (eR aS 3 (fun _=>rfl) _ _) ab8 (bt (fun _=>rfl) _)).pthen ?_
  cases d2:((B.length:Int)==0)
  ·have e2:B≠ []:=by grind
   simp only[go_sem,d2,abX];exact .mk _ (.refl _) (.aj h1) ⟨by rw[Ix,if_neg (fun hh=>e2 hh.1)];rfl,rfl⟩
  ·have e3:(B.length:Int)=0:=by grind
   have e2:B= []:=List.length_eq_zero_iff.1 ab7;subst e2;cases must
   ·simp only[go_sem,List.map_nil,List.length_nil]
    exact acs
   ·simp only[go_sem,List.map_nil,List.length_nil]
    exact adW
 ·have e1:ixD (iL cat name) gs= -1:=by simp_all [ixD,if_neg]
  have d1:decide ((0:Int)≤ -1)=false:=rfl;rw[e1,QC hx];cases must
  ·simp only[go_sem,d1]
   exact .mk (.tup [.sl [] .no,.i 0]) (frz _ _ (.sl _ _)) (.aj h1) ⟨rfl,rfl⟩
  ·simp only[go_sem,d1]
   exact adW
def mh(m:bP)(v:bz):AV:=
 if m.op=1 then(if v.kind=m.val.kind then .tup [.b (eqV v m.val),.i 0]else .tup [.b false,.i 2])
 else if m.op=2 then kV v m.val else kV m.val v
theorem En(m:bP)(v:bz)(h:Heap):ai Tryz.prog 248 [dO m,aS v] h fun r h' =>r=mh m v∧h' =h:=by
 have hl1:=fun G=>BJ v m.val G
 have hl2:=fun G=>BJ m.val v G
 simp only[aS]at hl1 hl2;refine ab6 Tryz.func248 42 [.tmp 4,.tmp 5] fun hwf=>?_
 simp only[go_sem,dO,aS];intro i1 h1;simp only[go_sem];intro i2 h2;have n21:=aH h2;have n2:=aC h2;have hs:∀x y,Ab.Sub h (upd (upd h i1 x) i2 y):=fun x y=>((Sub.refl h).put h1 x).put n2 y
 cases d1:(m.op==1)
 case true=>
  have e1:m.op=1:=ab8;cases dk:(v.kind !=m.val.kind)
  ·have dk' :v.kind=m.val.kind:=by grind
   simp only[go_sem,ak,n21.symm,d1,dk];exact .mk _ (.refl _) (hs _ _) ⟨by rw[mh,if_pos e1,if_pos dk'];rfl,rfl⟩
  ·simp only[go_sem,ak,n21.symm,d1,dk]
   exact .mk _ (.refl _) (hs _ _) ⟨by rw[mh,if_pos e1,if_neg ab8];rfl,rfl⟩
 have e1:m.op≠1:=ab8;have aft:∀a b:bz,∃x e,kV a b= .tup [.b x,.i e]:=fun a b=>by
  unfold kV;split
  ·simp
  simp
 cases d2:(m.op==2)
 case true=>
  have e2:m.op=2:=ab8;obtain⟨x,e,ee⟩:=aft v m.val;rw[ee]at hl1;simp only[go_sem,ak,n21.symm,d1,d2];refine(hl1 _).pthen ?_;simp only[go_sem];exact .mk _ (.refl _) (hs _ _) ⟨by rw[mh,if_neg e1,if_pos e2,ee];rfl,rfl⟩
 ·have e2:m.op≠2:=by grind
  obtain⟨x,e,ee⟩:=aft m.val v;rw[ee]at hl2;simp only[go_sem,ak,n21.symm,d1,d2];refine(hl2 _).pthen ?_;simp only[go_sem];exact .mk _ (.refl _) (hs _ _) ⟨by rw[mh,if_neg e1,if_neg e2,ee];rfl,rfl⟩
theorem Bb(m:bP)(v:bz):∃e:Int,(e !=0)=(cQ m v==none)∧mh m v= .tup [.b (cQ m v==some true),.i e]:=by
 have hl:∀a b:bz,∃e:Int,(e !=0)=(mY a b==none)∧kV a b= .tup [.b (mY a b==some true),.i e]:=fun a b=>by
  unfold kV;cases hx:mY a b with
  |some x=>simp
  |none=>refine⟨xZ a b,?_,rfl⟩;grind [xZ]
 unfold mh cQ
 by_cases e1:m.op=1
 ·rw[if_pos e1,if_pos e1]
  by_cases ek:v.kind=m.val.kind
  ·rw[if_pos ek,if_pos ek]
   exact⟨0,rfl,aci⟩
  ·rw[if_neg ek,if_neg ek]
   exact⟨2,rfl,rfl⟩
 ·rw[if_neg e1,if_neg e1]
  by_cases e2:m.op=2
  ·rw[if_pos e2,if_pos e2];exact hl _ _
  ·rw[if_neg e2,if_neg e2];exact hl _ _
theorem Iy(bag:List bz)(must:Bool):∃e:Int,(e !=0)=decide (bag= []∧must=true)∧Ix bag must= .tup [.sl (bag.map aS) .no,.i e]:=by
 unfold Ix;split
 ·simp_all
 grind
def rA(gs:List bn):Prop:=gs.length≤1000000∧∀g∈gs,g.bag.length≤1000000
theorem rA.bag{gs:List bn}(h:rA gs)(a:pR):(xe gs a).length≤1000000:=by
 unfold xe getD;split
 ·rename_i g hg;exact h.2 g ab8
 ·simp
theorem Ay(m:bP)(gs:List bn)(hf:rA gs)(h:Heap):ai Tryz.prog 210 [dO m,bI gs] h fun r h' =>r= .i (jP gs m:Nat)∧h' =h:=by
 have hg:=fun G=>Gv gs m.attr.cat m.attr.name m.attr.must (by have:=hf.1;omega) hf.2 G
 have hbl:=hf.bag m.attr;obtain⟨B,eB⟩:∃B,xe gs m.attr=B:=⟨_,rfl⟩;have eg:Go.Bf.getD gs m.attr.cat m.attr.name=B:=eB;rw[eB]at hbl;rw[eg]at hg;have hmm:jP gs m=if B= []∧m.attr.must=true then 1 else if B.any (fun v=>cQ m v==some true)then 2 else if B.any (fun v=>cQ m v==none)then 1 else 0:=by
  unfold jP;rw[eB]
 obtain⟨eg,hge,hga⟩:=Iy B m.attr.must;rw[hga]at hg;have hag:=fun(v:bz) (G:Heap)=>En m v G
 simp only[dO,bI,aS]at hag hg;refine ab6 Tryz.func210 38 [.tmp 4] fun hwf=>?_
 simp only[go_sem,dO,bI];intro i1 h1;simp only[go_sem];refine(hg _).pthen ?_;cases d0:decide (B= []∧m.attr.must=true)
 case true=>
  rw[d0]at hge;simp only[go_sem,hge];exact .mk _ (.refl _) (.aj h1) ⟨by rw[hmm,if_pos (abZ d0)];rfl,rfl⟩
 rw[d0]at hge;rw[if_neg (ab0 d0)]at hmm;simp only[go_sem,hge,abX];obtain⟨H,eH⟩:∃H,upd h i1 (some (.obj [.i m.attr.cat,.s m.attr.name,.b m.attr.must,.i m.op,.i m.val.kind,.i m.val.n,.s m.val.s] 265))=H:=⟨_,rfl⟩;have hH:Ab.Sub h H:=by rw[←eH];exact .aj h1
 have k1:H i1=some (.obj [.i m.attr.cat,.s m.attr.name,.b m.attr.must,.i m.op,.i m.val.kind,.i m.val.n,.s m.val.s] 265):=adB;rw[eH];clear eH;refine .intro (fun q ρ G=>Ab.Sub H G∧∃i:Nat,i≤B.length∧q=B.length - i∧(∀j (hj:j<i) (h2:j<B.length),(cQ m B[j]==some true)=false)∧lk ρ 2=some (.ptr i1 0)∧lk ρ 7=some (.i (if(B.take i).any (fun v=>cQ m v==none)then 1 else 0))∧lk ρ 21=some (.sl (B.map aS) .no)∧lk ρ 22=some (.i B.length)∧lk ρ 23=some (.i i)) B.length ?_ ?_
 ·refine⟨.refl _,0,ab7,rfl,fun j hj=>ab7,?_,?_,?_,?_,?_⟩<;>simp only[go_sem]
  simp
 ·rintro q ρ G ⟨hs,i,hi,rfl,hc,r2,r7,r21,r22,r23⟩
  have k1' :=hs _ _ k1;simp only[go_sem,r22,r23];refine .intro (fun e=>?_) (fun e=>?_)
  ·have hlt:i<B.length:=ab4 e
   have w1:=ab3 i ab7;have hsn:(B.take (i+1)).any (fun v=>cQ m v==none)=((B.take i).any (fun v=>cQ m v==none)||(cQ m B[i]==none)):=any_succ hlt
   have ix:=fun k=>fm.eq (xs:=B.map aS) (sz:=3) i acC acq k
   rw[abY]at ix;have hci:=fun(d:(cQ m B[i]==some true)=false)=>(fun j (hj:j<i+1) (h2:j<B.length)=>(by
    by_cases hji:j=i
    ·subst hji;exact d
    ·exact hc j ab7 h2:(cQ m B[j]==some true)=false))
   have hat:=fun(d:(cQ m B[i]==some true)=true)=>(List.any_eq_true.2 ⟨B[i],ab2 hlt,d⟩:B.any (fun v=>cQ m v==some true)=true)
   obtain⟨v,ev⟩:∃v,B[i]=v:=⟨_,rfl⟩;rw[ev]at ix hsn hci hat;simp only[aS]at ix;obtain⟨e,he1,he2⟩:=Bb m v;have hag1:=hag v;rw[he2]at hag1;simp only[go_sem,r21,r23,ix];intro i4 h4;have n41:i4≠i1:=fun e=>by rw[e,k1']at h4;cases h4
   simp only[go_sem,r2,ak,n41.symm,k1'];refine(hag1 _).pthen ?_;cases d1:(cQ m v==some true)
   ·cases d2:(cQ m v==none)
    ·rw[d2]at he1 hsn
     rw[Bool.or_false]at hsn;simp only[go_sem,r23,he1,w1];refine⟨_,?_,hs.trans (.aj h4),i+1,ab7,rfl,hci d1,?_,?_,?_,?_,?_⟩
     ·omega
     all_goals simp only[go_sem,r2,r7,r21,r22,hsn]
    ·rw[d2]at he1 hsn
     rw[Bool.or_true]at hsn;simp only[go_sem,r23,he1,w1];refine⟨_,?_,hs.trans (.aj h4),i+1,ab7,rfl,hci d1,?_,?_,?_,?_,?_⟩
     ·omega
     all_goals simp only[go_sem,r2,r21,r22,hsn]
   ·simp only[go_sem]
    refine .mk _ (.refl _) (hH.trans (hs.trans (.aj h4))) ⟨by rw[hmm,if_pos (hat d1)];rfl,rfl⟩
  ·have hge:i=B.length:=by have:=ab0 e;omega
   subst hge;rw[List.take_length]at r7;simp only[go_sem,r7];refine .mk _ (.refl _) (hH.trans hs) ⟨?_,rfl⟩;have hno:B.any (fun v=>cQ m v==some true)=false:=List.any_eq_false.2 fun x hx=>by
    obtain⟨j,hj,rfl⟩:=List.mem_iff_getElem.1 hx;rw[hc j hj hj];decide
   rw[hmm,hno];cases B.any (fun v=>cQ m v==none)<;>rfl
theorem GN(a b:Nat):(if((b:Int)<(a:Int))then(b:Int)else(a:Int))=((min a b:Nat):Int):=by
 grind
theorem NL(a b:Nat):(if((a:Int)<(b:Int))then(b:Int)else(a:Int))=((max a b:Nat):Int):=by
 grind
theorem MT(l:List bP)(hl:l.length≤1000000)(gs:List bn)(hf:rA gs)(h:Heap):ai Tryz.prog 241 [iR l,bI gs] h fun r h' =>r= .i (Ce gs l:Nat)∧h' =h:=by
 have hmt:=fun(m:bP) (G:Heap)=>Ay m gs hf G
 simp only[dO,bI]at hmt;refine ab6 Tryz.func241 21 [.tmp 4] fun hwf=>?_
 simp only[go_sem,iR,bI,abX];refine .intro (fun q ρ G=>Ab.Sub h G∧∃i:Nat,i≤l.length∧q=l.length - i∧lk ρ 1=some (.sl (gs.map kS) .no)∧lk ρ 5=some (.i (Ce gs (l.take i):Nat))∧lk ρ 8=some (.sl (l.map dO) .no)∧lk ρ 9=some (.i l.length)∧lk ρ 10=some (.i i)) l.length ?_ ?_
 ·exact ahy
 ·rintro q ρ G ⟨hs,i,hi,rfl,r1,r5,r8,r9,r10⟩
  simp only[go_sem,r9,r10];refine .intro (fun e=>?_) (fun e=>?_)
  ·have hlt:i<l.length:=ab4 e
   have w1:IntKind.i64.wrap ((i:Int)+1)=((i+1:Nat):Int):=acn;have hsn:Ce gs (l.take (i+1))=min (Ce gs (l.take i)) (jP gs l[i]):=by
    grind [Ce,List.take_succ_eq_append_getElem]
   have ix:=fun k=>fm.eq (xs:=l.map dO) (sz:=7) i ab8 acq k
   rw[abY]at ix;obtain⟨m,em⟩:∃m,l[i]=m:=⟨_,rfl⟩;rw[em]at ix hsn;have hmt1:=hmt m;simp only[dO]at ix;simp only[go_sem,r8,r10,ix];intro i4 h4;simp only[go_sem,r1,r5];refine(hmt1 _).pthen ?_;simp only[go_sem,r10,GN,w1];refine⟨_,?_,hs.trans (.aj h4),i+1,ab7,rfl,?_,?_,?_,?_,?_⟩
   ·omega
   all_goals simp only[go_sem,r1,r8,r9,hsn]
  ·have hge:i=l.length:=by grind
   exact ahj
def MJ(t:fY):Prop:=t.length≤1000000∧∀x∈t,x.length≤1000000∧∀l∈x,l.length≤1000000
theorem Lm(t:fY)(ht:MJ t)(gs:List bn)(hf:rA gs)(h:Heap):ai Tryz.prog 206 [aV t,bI gs] h fun r h' =>r= .i (mE gs t:Nat)∧h' =h:=by
 have hat:=fun(l:List bP) (hl:l.length≤1000000) (G:Heap)=>MT l hl gs hf G
 simp only[iR,bI]at hat;have htl:=ht.1;refine ab6 Tryz.func206 34 [.tmp 4] fun hwf=>?_
 simp only[go_sem,aV,bI,abX];refine .intro (fun q ρ G=>Ab.Sub h G∧∃i:Nat,i≤t.length∧q=t.length - i∧lk ρ 1=some (.sl (gs.map kS) .no)∧lk ρ 5=some (.i (mE gs (t.take i):Nat))∧lk ρ 11=some (.sl (t.map cR) .no)∧lk ρ 12=some (.i t.length)∧lk ρ 13=some (.i i)) t.length ?_ ?_
 ·exact ahy
 ·rintro q ρ G ⟨hs,i,hi,rfl,r1,r5,r11,r12,r13⟩
  simp only[go_sem,r12,r13];refine .intro (fun e=>?_) (fun e=>?_)
  ·have hlt:i<t.length:=ab4 e
   have w1:IntKind.i64.wrap ((i:Int)+1)=((i+1:Nat):Int):=acn;have hsn:mE gs (t.take (i+1))=min (mE gs (t.take i)) (zk gs t[i]):=by
    grind [mE,List.take_succ_eq_append_getElem]
   have ix:=fun k=>fm.eq (xs:=t.map cR) (sz:=1) i ab8 acq k
   rw[abY]at ix;obtain⟨hx1,hx2⟩:=ht.2 t[i] (ab2 hlt);obtain⟨x,ex⟩:∃x,t[i]=x:=⟨_,rfl⟩;rw[ex]at ix hsn hx1 hx2;simp only[cR]at ix;simp only[go_sem,r11,r13,ix,abX];refine .intro (fun q ρ' K=>Ab.Sub h K∧∃n:Nat,n≤x.length∧q=x.length - n∧lk ρ' 1=some (.sl (gs.map kS) .no)∧lk ρ' 5=some (.i (mE gs (t.take i):Nat))∧lk ρ' 8=some (.i (zk gs (x.take n):Nat))∧lk ρ' 11=some (.sl (t.map cR) .no)∧lk ρ' 12=some (.i t.length)∧lk ρ' 13=some (.i i)∧lk ρ' 17=some (.sl (x.map iR) .no)∧lk ρ' 18=some (.i x.length)∧lk ρ' 19=some (.i n)) x.length ?_ ?_
   ·refine⟨hs,0,ab7,rfl,?_,?_,?_,?_,?_,?_,?_,?_,?_⟩<;>simp only[go_sem,r1,r5,r11,r12,r13]
    rfl
   ·rintro q ρ' K ⟨hs',n,hn,rfl,s1,s5,s8,s11,s12,s13,s17,s18,s19⟩
    simp only[go_sem,s18,s19];refine .intro (fun e=>?_) (fun e=>?_)
    ·have hlt2:n<x.length:=ab4 e
     have w2:IntKind.i64.wrap ((n:Int)+1)=((n+1:Nat):Int):=acn;have hsn2:zk gs (x.take (n+1))=max (zk gs (x.take n)) (Ce gs x[n]):=by
      grind [zk,List.take_succ_eq_append_getElem]
     have ix2:=fun k=>fm.eq (xs:=x.map iR) (sz:=1) n ab8 acq k
     rw[abY]at ix2;have hx3:=hx2 x[n] (ab2 hlt2);obtain⟨l,el⟩:∃l,x[n]=l:=⟨_,rfl⟩;rw[el]at ix2 hsn2 hx3;simp only[iR]at ix2;simp only[go_sem,s1,s8,s17,s19,ix2];refine(hat l hx3 _).pthen ?_;simp only[go_sem,s19,NL,w2];refine⟨_,?_,hs',n+1,ab7,rfl,?_,?_,?_,?_,?_,?_,?_,?_,?_⟩
     ·omega
     all_goals simp only[go_sem,s1,s5,s11,s12,s13,s17,s18,hsn2]
    ·have hge:n=x.length:=by grind
     subst hge;rw[List.take_length]at s8;simp only[go_sem,s5,s8,s13,GN,w1];refine⟨_,?_,hs',i+1,ab7,rfl,?_,?_,?_,?_,?_⟩
     ·omega
     all_goals simp only[go_sem,s1,s11,s12,hsn]
  ·have hge:i=t.length:=by grind
   exact ahj
end Go.Proofs.YtfdgemhnlennbaaGreatDoor
namespace Go.Bf
open Go Go.Ab Go.Proofs.YtfdgemhnlennbaaGreatDoor
def zx(o:Bool)(n:Int):AV:=if o then .tup [.i 0,.i 3]else .tup [.i (w64 n),.i 0]
def qP(r:bz×Int):AV:=.tup [aS r.1,.i r.2]
end Go.Bf
namespace Go.Proofs.YtfdgemhnlennbaaGreatDoor
open Go Go.Ab Go.Bf
theorem PX(a b:Int)(h:Heap):ai Tryz.prog 322 [.i a,.i b] h fun r h' =>r=zx (J2 a b) (a+b)∧h' =h:=by
 refine ab6 Tryz.func322 27 [.tmp 4,.tmp 5] fun hwf=>?_
 cases d1:decide (0<b)<;>cases d2:decide (IntKind.i64.wrap (9223372036854775807 - b)<a)<;>cases d3:decide (b<0)<;>cases d4:decide (a<IntKind.i64.wrap (-9223372036854775808 - b))
 all_goals
  simp -implicitDefEqProofs only[go_sem,d1,d2,d3,d4];exact .same (.refl _) ⟨by simp only[zx,J2,w64,d1,d2,d3,d4];rfl,rfl⟩
theorem Rp(a b:Int)(h:Heap):ai Tryz.prog 323 [.i a,.i b] h fun r h' =>r=zx (Mc a b) (a - b)∧h' =h:=by
 refine ab6 Tryz.func323 27 [.tmp 4,.tmp 5] fun hwf=>?_
 cases d1:decide (0<b)<;>cases d2:decide (a<IntKind.i64.wrap (-9223372036854775808+b))<;>cases d3:decide (b<0)<;>cases d4:decide (IntKind.i64.wrap (9223372036854775807+b)<a)
 all_goals
  simp -implicitDefEqProofs only[go_sem,d1,d2,d3,d4];exact .same (.refl _) ⟨by simp only[zx,Mc,w64,d1,d2,d3,d4];rfl,rfl⟩
theorem QZ(a b:Int)(h:Heap):ai Tryz.prog 324 [.i a,.i b] h fun r h' =>r=zx (I3 a b) (a*b)∧h' =h:=by
 refine ab6 Tryz.func324 36 [.tmp 4,.tmp 5] fun hwf=>?_
 cases d0:(a !=0)
 ·have e0:a=0:=by grind
  subst e0;cases d1:(b== -1)
  all_goals
   simp -implicitDefEqProofs only[go_sem,d1];exact .same (.refl _) ⟨by simp[zx,I3,w64,ax],rfl⟩
 have e0:a≠0:=ab8;cases d1:(a== -1)<;>cases d2:(b== -9223372036854775808)<;>cases d3:(b== -1)<;>cases d4:(a== -9223372036854775808)<;>cases d5:(IntKind.i64.wrap ((IntKind.i64.wrap (a*b)).tdiv a) !=b)
 all_goals
  simp -implicitDefEqProofs only[go_sem,d0,d1,d2,d3,d4,d5,e0];exact .same (.refl _) ⟨by simp only[zx,I3,w64,d0,d1,d2,d3,d4,d5];rfl,rfl⟩
theorem AY(b:Bool)(h:Heap):ai Tryz.prog 320 [.b b] h fun r h' =>r=aS (dJ b)∧h' =h:=by
 refine ab6 Tryz.func320 8 [.cell 2 33] fun hwf=>?_
 simp only[go_sem];intro i1 h1;simp only[go_sem];intro i2 h2;have n21:=aH h2;have n2:=aC h2;cases b
 all_goals
  simp only[go_sem,ak,n21.symm];exact .mk _ (.refl _) ((((Sub.refl h).put h1 _).put n2 _).put h1 _) ⟨rfl,rfl⟩
theorem Bl(kind:Int)(l:List bz)(hl:l.length≤1000000)(p:Perm)(h:Heap):ai Tryz.prog 325 [.i kind,.sl (l.map aS) p] h fun r h' =>r= .b (l.all fun v=>v.kind==kind)∧h' =h:=by
 refine ab6 Tryz.func325 18 [.tmp 4] fun hwf=>?_
 simp only[go_sem,abX];refine .intro (fun q ρ G=>Ab.Sub h G∧∃i:Nat,i≤l.length∧q=l.length - i∧(∀j (hj:j<i) (h2:j<l.length),(l[j].kind==kind)=true)∧lk ρ 0=some (.i kind)∧lk ρ 7=some (.sl (l.map aS) p)∧lk ρ 8=some (.i l.length)∧lk ρ 9=some (.i i)) l.length ?_ ?_
 ·refine⟨.refl _,0,ab7,rfl,fun j hj=>ab7,?_,?_,?_,?_⟩<;>simp only[go_sem]
 ·rintro q ρ G ⟨hs,i,hi,rfl,hc,r0,r7,r8,r9⟩
  simp only[go_sem,r8,r9];refine .intro (fun e=>?_) (fun e=>?_)
  ·have hlt:i<l.length:=ab4 e
   have w1:IntKind.i64.wrap ((i:Int)+1)=((i+1:Nat):Int):=acn;have ix:=fun k=>fm.eq (xs:=l.map aS) (sz:=3) i ab8 acq k
   rw[abY]at ix;have hci:=fun(d:(l[i].kind==kind)=true)=>(fun j (hj:j<i+1) (h2:j<l.length)=>(by
    grind:(l[j].kind==kind)=true))
   have hat:=fun(d:(l[i].kind==kind)=false)=>(List.all_eq_false.2 ⟨l[i],ab2 hlt,ab8⟩:(l.all fun v=>v.kind==kind)=false)
   obtain⟨v,ev⟩:∃v,l[i]=v:=⟨_,rfl⟩;rw[ev]at ix hci hat;simp only[aS]at ix;cases d1:(v.kind==kind)
   ·have d2:(v.kind !=kind)=true:=by grind
    simp only[go_sem,r7,r9,ix];intro i4 h4;simp only[go_sem,r0,d2];exact .mk _ (.refl _) (hs.trans (.aj h4)) ⟨af4,rfl⟩
   ·have d2:(v.kind !=kind)=false:=by grind
    simp only[go_sem,r7,r9,ix];intro i4 h4;simp only[go_sem,r0,r9,d2,w1];refine⟨_,?_,hs.trans (.aj h4),i+1,ab7,rfl,hci d1,?_,?_,?_,?_⟩
    ·omega
    all_goals simp only[go_sem,r0,r7,r8]
  ·have hge:i=l.length:=by grind
   simp only[go_sem];exact .mk _ (.refl _) hs ⟨by rw[List.all_eq_true.2 fun x hx=>aeN];rfl,rfl⟩
theorem Fv(g:FuncId)(a b:bz)(o:Bool)(n:Int)(hg:∀G,ai Tryz.prog g [.i a.n,.i b.n] G fun r h' =>r=zx o n∧h' =G)(p:Perm)(h:Heap):
  ai Tryz.prog 321 [.fn g [],.sl [aS a,aS b] p] h fun r h' =>r=qP (if([a,b].all fun v=>v.kind==2)then zy o n else nF 2)∧h' =h:=by
 have ix0:=fun k=>fm.eq (xs:=[aS a,aS b]) (sz:=3) 0 aci rfl k
 have ix1:=fun k=>fm.eq (xs:=[aS a,aS b]) (sz:=3) 1 aci rfl k
 simp only[List.getElem_cons_zero,List.getElem_cons_succ,aS,Int.natCast_zero,Int.natCast_one]at ix0 ix1;have hal:=fun(G:Heap)=>Bl 2 [a,b] aci p G
 simp only[List.map_cons,List.map_nil,aS]at hal;refine ab6 Tryz.func321 31 [.cell 4 33,.tmp 5] fun hwf=>?_
 simp only[go_sem,aS];intro i1 h1;simp only[go_sem];refine(hal _).pthen ?_;cases d1:([a,b].all fun v=>v.kind==2)
 ·simp only[go_sem]
  exact acs
 ·simp only[go_sem]
  refine .quiet ace ?_;simp only[go_sem,ix0,ix1];cases o
  ·refine⟨_,hg _,?_⟩
   simp only[go_sem,zx];exact acs
  ·refine⟨_,hg _,?_⟩
   simp only[go_sem,zx];exact acs
theorem wG{α:Type}{l:List α}(h:l.length=2):∃a b,l= [a,b]:=by
 match l,h with
 | [a,b],_=>exact⟨a,b,rfl⟩
def Fl(op:Int)(l:List bz):Bool:= !(decide (op<6)||decide (13<op)||(l.length:Int) !=(if op==11 then 1 else 2)) && l.all bB
theorem QW(op:Int)(l:List bz)(hl:l.length≤1000000)(p:Perm)(h:Heap):ai Tryz.prog 319 [.i op,.sl (l.map aS) p] h fun r h' =>r= .b (Fl op l)∧h' =h:=by
 have hvr:=fun(v:bz) (G:Heap)=>gq v G
 simp only[aS]at hvr;refine ab6 Tryz.func319 32 [.tmp 4] fun hwf=>?_
 cases d11:(op==11)
 all_goals
  have hmm:Fl op l=(!(decide (op<6)||decide (13<op)||(l.length:Int) !=(if op==11 then 1 else 2)) && l.all bB):=rfl
  rw[d11]at hmm;simp only[if_true,Bool.false_eq_true,if_false]at hmm;cases d6:decide (op<6)
  case true=>
   rw[d6]at hmm;simp only[go_sem,d11,d6];exact .same (.refl _) ⟨by rw[hmm];rfl,rfl⟩
  cases d13:decide (13<op)
  case true=>
   rw[d6,d13]at hmm;simp only[go_sem,d11,d6,d13];exact .same (.refl _) ⟨by rw[hmm];rfl,rfl⟩
  rw[d6,d13]at hmm;simp only[Bool.or_false,Bool.false_or]at hmm;obtain⟨b,eb⟩:∃b,((l.length:Int) !=(if op==11 then 1 else 2))=b:=⟨_,rfl⟩
  rw[d11]at eb;simp only[if_true,Bool.false_eq_true,if_false]at eb;rw[eb]at hmm;cases b
  case true=>
   simp only[go_sem,d11,d6,d13,abX,eb];exact .same (.refl _) ⟨by rw[hmm];rfl,rfl⟩
  simp only[Bool.not_false,Bool.true_and]at hmm;simp only[go_sem,d11,d6,d13,abX,eb];refine .intro (fun q ρ G=>Ab.Sub h G∧∃i:Nat,i≤l.length∧q=l.length - i∧(∀j (hj:j<i) (h2:j<l.length),bB l[j]=true)∧lk ρ 22=some (.sl (l.map aS) p)∧lk ρ 23=some (.i l.length)∧lk ρ 24=some (.i i)) l.length ?_ ?_
  ·refine⟨.refl _,0,ab7,rfl,fun j hj=>ab7,?_,?_,?_⟩<;>simp only[go_sem]
  ·rintro q ρ G ⟨hs,i,hi,rfl,hc,r22,r23,r24⟩
   simp only[go_sem,r23,r24];refine .intro (fun e=>?_) (fun e=>?_)
   ·have hlt:i<l.length:=ab4 e
    have w1:IntKind.i64.wrap ((i:Int)+1)=((i+1:Nat):Int):=acn;have ix:=fun k=>fm.eq (xs:=l.map aS) (sz:=3) i ab8 acq k
    rw[abY]at ix;have hci:=fun(d:bB l[i]=true)=>(fun j (hj:j<i+1) (h2:j<l.length)=>(by
     grind:bB l[j]=true))
    have hat:=fun(d:bB l[i]=false)=>(List.all_eq_false.2 ⟨l[i],ab2 hlt,ab8⟩:l.all bB=false)
    obtain⟨v,ev⟩:∃v,l[i]=v:=⟨_,rfl⟩;rw[ev]at ix hci hat;simp only[aS]at ix;simp only[go_sem,r22,r24,ix];intro i4 h4;simp only[go_sem];refine(hvr v _).pthen ?_;cases d1:bB v
    ·simp only[go_sem]
     exact .mk _ (.refl _) (hs.trans (.aj h4)) ⟨by rw[hmm,hat d1];rfl,rfl⟩
    ·simp only[go_sem,r24,w1]
     refine⟨_,?_,hs.trans (.aj h4),i+1,ab7,rfl,hci d1,?_,?_,?_⟩
     ·omega
     all_goals simp only[go_sem,r22,r23]
   ·have hge:i=l.length:=by grind
    simp only[go_sem];exact .mk _ (.refl _) hs ⟨by rw[hmm,List.all_eq_true.2 fun x hx=>aeN];rfl,rfl⟩
theorem Km{op:Int}{l:List bz}(h:Fl op l=false):gO op l=nF 1:=by
 unfold gO;rw[if_pos]
 by_cases h1:6≤op∧op≤13
 ·by_cases h2:l.length=if op=11 then 1 else 2
  ·refine .inr (.inr ?_)
   unfold Fl at h
   grind
  omega
 omega
theorem HM{op:Int}{l:List bz}(h:Fl op l=true):(6≤op∧op≤13)∧l.all bB=true∧(op=11∧(∃a,l= [a])∨op≠11∧∃a b,l= [a,b]):=by
 unfold Fl at h;simp only[Bool.and_eq_true,Bool.not_eq_true',Bool.or_eq_false_iff,decide_eq_false_iff_not]at h;obtain⟨⟨⟨h1,h2⟩,h3⟩,h4⟩:=h;refine⟨ab7,h4,?_⟩
 by_cases e:op=11
 ·subst e
  have h3' :(l.length:Int)=1:=ab8;exact .inl ⟨rfl,List.length_eq_one_iff.1 ab7⟩
 ·have h3' :(l.length:Int)=2:=by grind
  exact .inr ⟨e,wG ab7⟩
theorem Bo(op:Int)(l:List bz)(hl:l.length≤1000000)(p:Perm)(h:Heap):ai Tryz.prog 316 [.i op,.sl (l.map aS) p] h fun r h' =>r=qP (gO op l)∧h' =h:=by
 have hmy:=fun G=>QW op l hl p G
 cases dm:Fl op l
 ·rw[dm]at hmy
  refine ab6 Tryz.func316 111 [.cell 4 33,.tmp 5] fun hwf=>?_
  simp only[go_sem];intro i1 h1;simp only[go_sem];refine(hmy _).pthen ?_;simp only[go_sem];exact .mk _ (.refl _) (.aj h1) ⟨by rw[Km dm];rfl,rfl⟩
 rw[dm]at hmy;obtain⟨hop,hall,hf⟩:=HM dm;rcases hf with⟨rfl,a,rfl⟩|⟨e11,a,b,rfl⟩
 ·have ix0:=fun k=>fm.eq (xs:=[aS a]) (sz:=3) 0 aci rfl k
  simp only[List.getElem_cons_zero,aS,Int.natCast_zero]at ix0;have hal:=fun(G:Heap)=>Bl 1 [a] aci p G
  simp only[List.map_cons,List.map_nil,aS]at hal hmy;have hc:gO 11 [a]=if(([a].all fun v=>v.kind==1)=false)then nF 2 else(dJ (a.n==0),0):=by
   unfold gO;rw[if_neg (by simp[hall])]
   simp
  have htr:=fun G=>AY (a.n==0) G
  refine ab6 Tryz.func316 111 [.cell 4 33,.tmp 5] fun hwf=>?_
  simp only[go_sem,List.map_cons,List.map_nil,aS];intro i1 h1;simp only[go_sem];refine(hmy _).pthen ?_;simp only[go_sem];refine(hal _).pthen ?_;cases d1:([a].all fun v=>v.kind==1)
  ·simp only[go_sem]
   exact .mk _ (.refl _) (.aj h1) ⟨by rw[hc,if_pos d1];rfl,rfl⟩
  ·simp only[go_sem,ix0]
   refine(htr _).pthen ?_;simp only[go_sem,aS];exact .mk _ (.refl _) (.aj h1) ⟨by rw[hc,if_neg (by rw[d1];decide)];rfl,rfl⟩
 ·have ix0:=fun k=>fm.eq (xs:=[aS a,aS b]) (sz:=3) 0 aci rfl k
  have ix1:=fun k=>fm.eq (xs:=[aS a,aS b]) (sz:=3) 1 aci rfl k
  simp only[List.getElem_cons_zero,List.getElem_cons_succ,aS,Int.natCast_zero,Int.natCast_one]at ix0 ix1;have hal:=fun(G:Heap)=>Bl 1 [a,b] aci p G
  have hva:bB a=true∧bB b=true:=by simpa using hall
  have hnu:=fun(g:FuncId) (o:Bool) (n:Int) hg (G:Heap)=>Fv g a b o n hg p G
  simp only[List.map_cons,List.map_nil,aS]at hal hmy hnu;have hle:=fun G=>BJ a b G
  simp only[aS]at hle;have htr:=fun(x:Bool) G=>AY x G
  have hc:gO op [a,b]=if op=6 then(if a.kind=b.kind then(dJ (eqV a b),0)else nF 2)
    else if op=7 then(match mY a b with
     |some x=>(dJ x,0)
     |none=>nF 2)
    else if op=8∨op=9∨op=10 then
     (if [a,b].all fun v=>v.kind==2 then(if op=8 then zy (J2 a.n b.n) (a.n+b.n)else if op=9 then zy (Mc a.n b.n) (a.n - b.n)else zy (I3 a.n b.n) (a.n*b.n))else nF 2)
    else if([a,b].all fun v=>v.kind==1)=false then nF 2
    else if op=12 then(dJ (a.n==1 && b.n==1),0)
    else(dJ (a.n==1||b.n==1),0):=by
   unfold gO;rw[if_neg (by simp[hall,e11,hop.1,hop.2])]
   simp only[e11,if_false];rfl
  refine ab6 Tryz.func316 111 [.cell 4 33,.tmp 5] fun hwf=>?_
  simp only[go_sem,List.map_cons,List.map_nil,aS];intro i1 h1;simp only[go_sem];refine(hmy _).pthen ?_;rcases(show op=6∨op=7∨op=8∨op=9∨op=10∨op=12∨op=13 by omega)with rfl|rfl|rfl|rfl|rfl|rfl|rfl
  ·simp only[go_sem]
   refine⟨.of ace,?_⟩;cases dk:(a.kind !=b.kind)
   case true=>
    simp only[go_sem,ix0,ix1,dk];exact .mk _ (.refl _) (.aj h1) ⟨by rw[hc,if_pos rfl,if_neg (by simpa using dk)];rfl,rfl⟩
   ·simp only[go_sem,ix0,ix1,dk]
    refine .calls dH [0,1,2,3,4,5,6,7,8,9] (fun _ _ e=>acD) ace rfl ?_
    simp only[go_sem,ix0,ix1];have htr1:=htr (eqV a b);simp only[eqV]at htr1;refine(htr1 _).pthen ?_;refine⟨fun _ _ e=>acD,?_⟩
    simp only[go_sem,aS];refine⟨fun _ _ e=>acD,?_⟩
    exact .mk _ (.refl _) (.aj h1) ⟨by rw[hc,if_pos rfl,if_pos (by simpa using dk)];rfl,rfl⟩
  ·have hc7:gO 7 [a,b]=(match mY a b with
     |some x=>(dJ x,0)
     |none=>nF 2):=by rw[hc];rfl
   simp only[go_sem];refine .quiet ace ?_;simp only[go_sem,ix0,ix1];refine⟨_,hle _,?_⟩;cases hl:mY a b with
   |none=>
    have e2:xZ a b=2:=by simp[xZ,hva]
    rw[hl]at hc7;simp only[go_sem,kV,hl,e2];exact .mk _ (.refl _) (.aj h1) ⟨by rw[hc7];rfl,rfl⟩
   |some x=>
    rw[hl]at hc7;simp only[go_sem,kV,hl];refine(htr x _).pthen ?_;simp only[go_sem,aS];exact .mk _ (.refl _) (.aj h1) ⟨by rw[hc7];rfl,rfl⟩
  ·have hc8:gO 8 [a,b]=if [a,b].all (fun v=>v.kind==2)then zy (J2 a.n b.n) (a.n+b.n)else nF 2:=by rw[hc];rfl
   have hg:=hnu 322 _ _ (fun G=>PX a.n b.n G)
   rw[←hc8]at hg;obtain⟨⟨v,e⟩,ex⟩:∃x,gO 8 [a,b]=x:=⟨_,rfl⟩;exact agE
  ·have hc8:gO 9 [a,b]=if [a,b].all (fun v=>v.kind==2)then zy (Mc a.n b.n) (a.n - b.n)else nF 2:=by rw[hc];rfl
   have hg:=hnu 323 _ _ (fun G=>Rp a.n b.n G)
   rw[←hc8]at hg;obtain⟨⟨v,e⟩,ex⟩:∃x,gO 9 [a,b]=x:=⟨_,rfl⟩;exact agE
  ·have hc8:gO 10 [a,b]=if [a,b].all (fun v=>v.kind==2)then zy (I3 a.n b.n) (a.n*b.n)else nF 2:=by rw[hc];rfl
   have hg:=hnu 324 _ _ (fun G=>QZ a.n b.n G)
   rw[←hc8]at hg;obtain⟨⟨v,e⟩,ex⟩:∃x,gO 10 [a,b]=x:=⟨_,rfl⟩;exact agE
  ·have hc12:gO 12 [a,b]=if([a,b].all fun v=>v.kind==1)=false then nF 2 else(dJ (a.n==1 && b.n==1),0):=by rw[hc];rfl
   simp only[go_sem];refine(hal _).pthen ?_;cases d1:([a,b].all fun v=>v.kind==1)
   ·simp only[go_sem]
    exact .mk _ (.refl _) (.aj h1) ⟨by rw[hc12,if_pos d1];rfl,rfl⟩
   ·rw[if_neg (by rw[d1];decide)]at hc12
    cases da:(a.n==1)<;>cases db:(b.n==1)
    all_goals
     rw[da,db]at hc12;simp only[go_sem,ix0,ix1,da,db];refine(htr _ _).pthen ?_;simp only[go_sem,aS];exact .mk _ (.refl _) (.aj h1) ⟨by rw[hc12];rfl,rfl⟩
  ·have hc13:gO 13 [a,b]=if([a,b].all fun v=>v.kind==1)=false then nF 2 else(dJ (a.n==1||b.n==1),0):=by rw[hc];rfl
   simp only[go_sem];refine(hal _).pthen ?_;cases d1:([a,b].all fun v=>v.kind==1)
   ·simp only[go_sem]
    exact .mk _ (.refl _) (.aj h1) ⟨by rw[hc13,if_pos d1];rfl,rfl⟩
   ·rw[if_neg (by rw[d1];decide)]at hc13
    cases da:(a.n==1)<;>cases db:(b.n==1)
    all_goals
     rw[da,db]at hc13;simp only[go_sem,ix0,ix1,da,db];refine(htr _ _).pthen ?_;simp only[go_sem,aS];exact .mk _ (.refl _) (.aj h1) ⟨by rw[hc13];rfl,rfl⟩
end Go.Proofs.YtfdgemhnlennbaaGreatDoor
namespace Go.Bf
open Go Go.Ab Go.Proofs.YtfdgemhnlennbaaGreatDoor
def bO(x:jw):AV:=.agg [.sl (x.bag.map aS) .no,.i x.v.kind,.i x.v.n,.s x.v.s,.i x.e]
end Go.Bf
namespace Go.Proofs.YtfdgemhnlennbaaGreatDoor
open Go Go.Ab Go.Bf
theorem QI(x:jw)(n:Int)(h:Heap):ai Tryz.prog 271 [bO x,.i n] h fun r h' =>r= .b (isI x n)∧h' =h:=by
 refine ab6 Tryz.func271 15 [.tmp 4] fun hwf=>?_
 simp only[go_sem,bO];exact agB
theorem Nu(x:jw)(n:Int)(h:Heap):ai Tryz.prog 271 [.agg [.sl [] .full,.i x.v.kind,.i x.v.n,.s x.v.s,.i x.e],.i n] h fun r h' =>r= .b (isI x n)∧h' =h:=by
 refine ab6 Tryz.func271 15 [.tmp 4] fun hwf=>?_
 simp only[go_sem];exact agB
theorem uU(b:Bool)(h:Heap):ai Tryz.prog 314 [.b b] h fun r h' =>r=bO (iV b)∧h' =h:=by
 refine ab6 Tryz.func314 10 [.cell 2 361] fun hwf=>?_
 simp only[go_sem];intro i1 h1;simp only[go_sem];intro i2 h2;have n21:=aH h2;have n2:=aC h2;cases b
 all_goals
  simp only[go_sem,ak,n21.symm];refine .mk (bO (iV _)) ?_ ((((Sub.refl h).put h1 _).put n2 _).put h1 _) ⟨rfl,rfl⟩;refine .agg _ _ rfl fun i a b=>?_
  rcases i with _|_|_|_|_|i
  ·exact aeJ
  all_goals first|exact .refl _|(simp at a;omega)
theorem EO(op:Int)(h:Heap):ai Tryz.prog 298 [.i op] h fun r h' =>r= .i (opsOf op:Nat)∧h' =h:=by
 refine ab6 Tryz.func298 11 [.tmp 2] fun hwf=>?_
 cases d1:(op==1)
 case true=>simp only[go_sem,d1];exact .same (.refl _) ⟨by rw[opsOf,if_pos (.inl ab8)];rfl,rfl⟩
 cases d2:(op==2)
 case true=>simp only[go_sem,d1,d2];exact .same (.refl _) ⟨by rw[opsOf,if_pos (.inr ab8)];rfl,rfl⟩
 have e1:¬(op=1∨op=2):=ab8;cases d3:(op==3)
 case true=>simp only[go_sem,d1,d2,d3];exact .same (.refl _) ⟨by rw[opsOf,if_neg e1,if_pos (.inl ab8)];rfl,rfl⟩
 cases d4:(op==4)
 case true=>simp only[go_sem,d1,d2,d3,d4];exact .same (.refl _) ⟨by rw[opsOf,if_neg e1,if_pos (.inr (.inl ab8))];rfl,rfl⟩
 cases d5:(op==11)
 case true=>simp only[go_sem,d1,d2,d3,d4,d5];exact .same (.refl _) ⟨by rw[opsOf,if_neg e1,if_pos (.inr (.inr ab8))];rfl,rfl⟩
 have e2:¬(op=3∨op=4∨op=11):=ab8;simp only[go_sem,d1,d2,d3,d4,d5];exact .same (.refl _) ⟨by rw[opsOf,if_neg e1,if_neg e2];rfl,rfl⟩
theorem Fe(vs:List bz)(hl:vs.length≤1000000000)(x:bz)(p:Perm)(h:Heap):
  ai Tryz.prog 326 [.sl (vs.map aS) p,aS x] h fun r h' =>r= .i (ixD (fun y=>eqV x y) vs)∧h' =h:=by
 refine ab6 Tryz.func326 19 [.tmp 4] fun hwf=>?_
 simp only[go_sem,aS];intro i1 h1;simp only[go_sem,abX];refine .intro (fun m ρ G=>G=upd h i1 (some (.obj [.i x.kind,.i x.n,.s x.s] 33))∧∃i:Nat,i≤vs.length∧m=vs.length - i∧(∀j (hj:j<i) (h2:j<vs.length),eqV x vs[j]=false)∧lk ρ 0=some (.sl (vs.map aS) p)∧lk ρ 3=some (.ptr i1 0)∧lk ρ 7=some (.i vs.length)∧lk ρ 8=some (.i i)) vs.length ?_ ?_
 ·refine⟨rfl,0,ab7,rfl,fun j hj=>ab7,?_,?_,?_,?_⟩<;>simp only[go_sem]
 ·rintro m ρ G ⟨rfl,i,hi,rfl,hc,r0,r3,r7,r8⟩
  simp only[go_sem,r7,r8];refine .intro (fun e=>?_) (fun e=>?_)
  ·have hlt:i<vs.length:=ab4 e
   have w1:IntKind.i64.wrap ((i:Int)+1)=((i+1:Nat):Int):=acn;have ix:=fun k=>fm.eq (xs:=vs.map aS) (sz:=3) i ab8 acq k
   rw[abY]at ix;have hci:=fun(d:eqV x vs[i]=false)=>(fun j (hj:j<i+1) (h2:j<vs.length)=>(by
    grind:eqV x vs[j]=false))
   have hat:=fun(d:eqV x vs[i]=true)=>nJ (q:=fun y=>eqV x y) hlt d fun j hj=>hc j hj ab7
   obtain⟨v,ev⟩:∃v,vs[i]=v:=⟨_,rfl⟩;rw[ev]at ix hci hat;simp only[aS]at ix;simp only[go_sem,r0,r3,r8];refine⟨.of ace,?_⟩;cases d1:eqV x v
   ·have d2:=d1
    simp only[eqV]at d2;simp only[go_sem,r8,ix,d2,w1];refine⟨_,?_,rfl,i+1,ab7,rfl,hci d1,?_,?_,?_,?_⟩
    ·omega
    all_goals simp only[go_sem,r0,r3,r7]
   ·have d2:=d1
    simp only[eqV]at d2;simp only[go_sem,ix,d2];exact .mk _ (.refl _) (.aj h1) ⟨af4,rfl⟩
  ·have hge:i=vs.length:=by grind
   simp only[go_sem];exact .mk _ (.refl _) (.aj h1) ⟨acF,rfl⟩
theorem MU{vs:List bz}{x:bz}:decide ((0:Int)≤ixD (fun y=>eqV x y) vs)=vs.any fun v=>eqV v x:=by
 have hsy:(fun v=>eqV v x)=fun v=>eqV x v:=by simp[funext,eqV,BEq.comm]
 rw[tY,hsy]
theorem Ov(vs:List bz)(hl:vs.length≤1000000000)(x:bz)(p:Perm)(h:Heap):ai Tryz.prog 315 [.sl (vs.map aS) p,aS x] h fun r h' =>r= .b (vs.any fun v=>eqV v x)∧h' =h:=by
 have h1:∀G,ai Tryz.prog 318 [.sl (vs.map aS) p,aS x] G fun r h' =>r= .b (vs.any fun v=>eqV v x)∧h' =G:=fun G=>by
  have hq:=fun K=>Fe vs hl x p K
  refine ab6 Tryz.func318 9 [.tmp 4] fun hwf=>?_
  simp only[go_sem,aS];intro i1 h1;simp only[go_sem];refine(hq _).pthen ?_;simp only[go_sem,MU];exact acs
 refine ab6 Tryz.func315 8 [.tmp 4] fun hwf=>?_
 simp only[go_sem,aS];intro i1 h1';simp only[go_sem];refine(h1 _).pthen ?_;simp only[go_sem];exact .mk _ (.refl _) (.aj h1') ⟨rfl,rfl⟩
theorem kU{L:List AV}{x:jw}(hL:L=x.bag.map aS)(q:Perm):Weak (.agg [.sl L q,.i x.v.kind,.i x.v.n,.s x.v.s,.i x.e]) (bO x):=by
 subst hL;refine .agg _ _ rfl fun i a b=>?_
 rcases i with _|_|_|_|_|i
 ·exact aeJ
 all_goals first|exact .refl _|(simp at a;omega)
theorem td(op:Int):opsOf op≤2:=by
 grind [opsOf]
theorem uy{gs:List bn}{op:Int}{val:bz}{attr:pR}{l:List jw}{x:jw}(h1:op≠1)(h2:op≠2)(hno:¬((op=12∨op=13)∧(l.any fun x=>isI x (op - 12))=true))(hx:l.find? (fun x=>x.e !=0)=some x):kX gs ⟨op,val,attr⟩ l=⟨[],au,x.e⟩:=by
 simp_all [kX,if_neg]
theorem ux{gs:List bn}{op:Int}{val:bz}{attr:pR}{l:List jw}(h1:op≠1)(h2:op≠2)(hno:¬((op=12∨op=13)∧(l.any fun x=>isI x (op - 12))=true))(hx:l.find? (fun x=>x.e !=0)=none):kX gs ⟨op,val,attr⟩ l=(if op=3 then(match (l.headD ⟨[],au,0⟩).bag with
    | [v]=>⟨[],v,0⟩
    |_=>⟨[],au,4⟩)
   else if op=4 then⟨[],⟨2,(l.headD ⟨[],au,0⟩).bag.length,[]⟩,0⟩
   else if op=5 then iV ((l.headD ⟨[],au,0⟩).bag.any fun v=>eqV v (l.getD 1 ⟨[],au,0⟩).v)
   else Go.Bf.zK (gO op (l.map (·.v)))):=by
 unfold kX;simp only[if_neg h1,if_neg h2,if_neg hno,hx]
 all_goals rfl
theorem NN{h:Heap}{y:AV}(n:aO)(hop:1≤n.op∧n.op≤13)(l:List jw)(hb:Rd h 5 y (l.map bO))(hl:l.length=opsOf n.op)(hbag:∀x∈l,x.bag.length≤1000000)(gs:List bn)(hf:rA gs):
  ai Tryz.prog 299 [dI n,y,bI gs] h fun r h' =>r=bO (kX gs n l)∧h' =h:=by
 obtain⟨op,val,attr⟩:=n;simp only at hop hl;have hl2:l.length≤2:=by rw[hl];exact td op
 have uV:(U 33).sz=3:=acj;have hg:=fun G=>Gv gs attr.cat attr.name attr.must (by have:=hf.1;omega) hf.2 G
 simp only[bI]at hg;refine ab6 Tryz.func299 122 [.cell 6 361] fun hwf=>?_
 simp only[go_sem,dI,bI];intro i3 h3;simp only[go_sem];intro i6 h6;have n63:=aH h6;have n6' :=aC h6;obtain⟨H0,eH⟩:∃H0,upd (upd h i3 (some (.obj [.i op,.i val.kind,.i val.n,.s val.s,.i attr.cat,.s attr.name,.b attr.must] 215))) i6 (some (.obj [.sl [] .full,.i 0,.i 0,.s [],.i 0] 361))=H0:=⟨_,rfl⟩;have hH0:Ab.Sub h H0:=ae3;have g3:H0 i3=some (.obj [.i op,.i val.kind,.i val.n,.s val.s,.i attr.cat,.s attr.name,.b attr.must] 215):=by rw[←eH,ag _ _ n63.symm,ah]
 have g6:H0 i6=some (.obj [.sl [] .full,.i 0,.i 0,.s [],.i 0] 361):=adB;rw[eH];clear eH;cases d1:(op==1)
 case true=>
  have e1:op=1:=ae4;simp only[go_sem,d1,g3,g6];exact .mk (bO ⟨[],val,0⟩) (kU (x:=⟨[],val,0⟩) rfl _) (hH0.put n6' _) ⟨by unfold kX;simp only[e1,if_true],rfl⟩
 have hp1' :op≠1:=ae4;cases d2:(op==2)
 case true=>
  have e2:op=2:=by simpa using d2
  simp only[go_sem,d1,d2,g3];refine(hg _).pthen ?_
  by_cases hh:xe gs attr= []∧attr.must=true
  ·have hh2:Go.Bf.getD gs attr.cat attr.name= []∧attr.must=true:=hh
   simp only[go_sem,Ix,if_pos hh2,g6];exact .mk (bO ⟨[],au,4⟩) (kU (x:=⟨[],au,4⟩) rfl _) (hH0.put n6' _) ⟨by unfold kX;simp only[e2,if_neg (show¬(2:Int)=1 by decide),if_true,if_pos hh],rfl⟩
  ·have hh2:¬(Go.Bf.getD gs attr.cat attr.name= []∧attr.must=true):=hh
   simp only[go_sem,Ix,if_neg hh2,g6];exact .mk (bO ⟨xe gs attr,au,0⟩) (kU (x:=⟨xe gs attr,au,0⟩) rfl _) (hH0.put n6' _) ⟨by unfold kX;simp only[e2,if_neg (show¬(2:Int)=1 by decide),if_true,if_neg hh],rfl⟩
 have hp2' :op≠2:=by simpa using d2
 have his:=fun(x:jw) (m:Int) (G:Heap)=>QI x m G
 simp only[bO]at his;cases d12:(op==12)
 case true=>
  have e12:op=12:=by simpa using d12
  have htr:=fun G=>uU false G
  simp only[bO]at htr;obtain⟨a,b,hab⟩:∃a b,l= [a,b]:=wG (by rw[hl,e12];rfl)
  have wk:IntKind.i64.wrap (op - 12)=0:=aeK;have han:(l.any fun x=>isI x (op - 12))=(isI a 0||isI b 0):=by rw[hab,e12];simp
  have hb0:l.map bO= [bO a,bO b]:=by rw[hab];rfl
  have q3:(op==3)=false:=aeK;have q4:(op==4)=false:=aeK;have q5:(op==5)=false:=aeK;have hbH:=hb.sub hH0;simp only[go_sem,d2,d1,d12,g3,wk];refine hbH.idx (e:=361) 0 rfl aei acj acd fun p hp1=>?_
  have hld:=hp1.all (U:=U) (ty:=361) acj adk adk;simp only[go_sem,hld,hb0,List.getElem_cons_zero,bO];refine(his a 0 _).pthen ?_;cases da:isI a 0
  ·simp only[go_sem]
   refine hbH.idx (e:=361) 1 rfl aei acj acd fun p hp1=>?_
   have hld:=hp1.all (U:=U) (ty:=361) acj acT acT;simp only[go_sem,hld,hb0,List.getElem_cons_succ,List.getElem_cons_zero,bO];refine(his b 0 _).pthen ?_;cases db:isI b 0
   ·exact agf
   ·simp only[go_sem]
    refine(htr _).pthen ?_;simp only[go_sem,g6];exact .mk (bO (iV false)) (kU (x:=(iV false)) rfl _) (hH0.put n6' _) ⟨by unfold kX;rw[han,da,db];simp[e12]<;>rfl,rfl⟩
  ·simp only[go_sem]
   refine(htr _).pthen ?_;simp only[go_sem,g6];exact .mk (bO (iV false)) (kU (x:=(iV false)) rfl _) (hH0.put n6' _) ⟨by unfold kX;rw[han,da];simp[e12]<;>rfl,rfl⟩
 have hn12:op≠12:=by simpa using d12
 cases d13:(op==13)
 case true=>
  have e12:op=13:=by simpa using d13
  have htr:=fun G=>uU true G
  simp only[bO]at htr;obtain⟨a,b,hab⟩:∃a b,l= [a,b]:=wG (by rw[hl,e12];rfl)
  have wk:IntKind.i64.wrap (op - 12)=1:=aeK;have han:(l.any fun x=>isI x (op - 12))=(isI a 1||isI b 1):=by rw[hab,e12];simp
  have hb0:l.map bO= [bO a,bO b]:=by rw[hab];rfl
  have q3:(op==3)=false:=aeK;have q4:(op==4)=false:=aeK;have q5:(op==5)=false:=aeK;have hbH:=hb.sub hH0;simp only[go_sem,d1,d2,d12,d13,g3,wk];refine hbH.idx (e:=361) 0 rfl aei acj acd fun p hp1=>?_
  have hld:=hp1.all (U:=U) (ty:=361) acj adk adk;simp only[go_sem,hld,hb0,List.getElem_cons_zero,bO];refine(his a 1 _).pthen ?_;cases da:isI a 1
  ·simp only[go_sem]
   refine hbH.idx (e:=361) 1 rfl aei acj acd fun p hp1=>?_
   have hld:=hp1.all (U:=U) (ty:=361) acj acT acT;simp only[go_sem,hld,hb0,List.getElem_cons_succ,List.getElem_cons_zero,bO];refine(his b 1 _).pthen ?_;cases db:isI b 1
   ·exact agf
   ·simp only[go_sem]
    refine(htr _).pthen ?_;simp only[go_sem,g6];exact .mk (bO (iV true)) (kU (x:=(iV true)) rfl _) (hH0.put n6' _) ⟨by unfold kX;rw[han,da,db];simp[e12]<;>rfl,rfl⟩
  ·simp only[go_sem]
   refine(htr _).pthen ?_;simp only[go_sem,g6];exact .mk (bO (iV true)) (kU (x:=(iV true)) rfl _) (hH0.put n6' _) ⟨by unfold kX;rw[han,da];simp[e12]<;>rfl,rfl⟩
 have hn13:op≠13:=by simpa using d13
 have hno:¬((op=12∨op=13)∧(l.any fun x=>isI x (op - 12))=true):=fun hh=>hh.1.elim hn12 hn13
 simp only[go_sem,d1,d2,d12,d13,g3,hb.len,abX];refine .intro (fun m ρ H=>∃(i:Nat) (z:AV),Acc U 33 H0 H z ((l.take i).map fun x=>aS x.v)∧i≤l.length∧m=l.length - i∧(∀j (h1:j<l.length),j<i→l[j].e=0)∧lk ρ 1=some y∧lk ρ 3=some (.ptr i3 0)∧lk ρ 6=some (.ptr i6 0)∧lk ρ 10=some z∧lk ρ 55=some y∧lk ρ 56=some (.i l.length)∧lk ρ 57=some (.i i)) l.length ?_ ?_
 ·refine⟨0,.sl [] .full,.full (.refl _),ab7,rfl,fun j _ hj=>ab7,?_,?_,?_,?_,?_,?_,?_⟩<;>simp only[go_sem]
 ·rintro m ρ H ⟨i,z,hz,hi,rfl,hc,r1,r3,r6,r10,r55,r56,r57⟩
  have hsH:=hH0.trans hz.1;have hbH:=hb.sub hsH;have k3:=hz.1 _ _ g3;have k6:=hz.1 _ _ g6;simp only[go_sem,r56,r57];refine .intro (fun e=>?_) (fun e=>?_)
  ·have hlt:i<l.length:=ab4 e
   have w1:=ab3 i ab7;have hsn:(l.take (i+1)).map (fun x=>aS x.v)=(l.take i).map (fun x=>aS x.v)++ [aS l[i].v]:=ado
   simp only[go_sem,r55,r57];refine hbH.idx (e:=361) i rfl acC acj acd fun p hp1=>?_
   have hld:=hp1.all (U:=U) (ty:=361) acj acP acP;obtain⟨x,ex⟩:∃x,l[i]=x:=⟨_,rfl⟩;rw[ex]at hsn;simp only[go_sem,hld,abY,ex,bO];intro i12 h12;have n126:i12≠i6:=fun e=>ad7
   cases dx:(x.e !=0)
   ·have dx' :x.e=0:=by simpa using dx
    simp only[go_sem,r10,dx];refine(hz.sub (.aj h12)).app (zs:=[aS x.v]) acf acf (fun k hk=>hk) adt adH acu fun z' H' hz' kp=>?_
    simp only[go_sem,r57,w1];refine⟨_,?_,i+1,z',by rw[hsn];exact hz',ab7,rfl,fun j h1 hj=>?_,?_,?_,?_,?_,?_,?_,?_⟩
    ·omega
    ·by_cases hji:j=i
     ·subst hji;rw[ex];exact dx'
     ·exact hc j h1 ab7
    all_goals simp only[go_sem,r1,r3,r6,r55,r56]
   ·have hfi:l.find? (fun x=>x.e !=0)=some x:=by rw[←ex];exact List.find?_eq_some_iff_getElem.2 ⟨by rw[ex];exact dx,i,hlt,rfl,fun j hj=>afz⟩
    simp only[go_sem,r6,dx,ak,n126.symm,k6];exact .mk (bO ⟨[],au,x.e⟩) (kU (x:=⟨[],au,x.e⟩) rfl _) ((hsH.trans (.aj h12)).put n6' _) ⟨afk,rfl⟩
  ·have hge:i=l.length:=by have:=ab0 e;omega
   subst hge;have hfi:l.find? (fun x=>x.e !=0)=none:=List.find?_eq_none.2 fun x hx=>by
    obtain⟨j,hj,rfl⟩:=List.mem_iff_getElem.1 hx;rw[hc j hj hj];decide
   have hnd:=ux (gs:=gs) (val:=val) (attr:=attr) hp1' hp2' hno hfi;rw[List.take_length]at hz;obtain⟨qz,eqz⟩:=hz.row;subst eqz;have hcl:=fun G=>Bo op (l.map (·.v)) afd qz G
   rw[List.map_map]at hcl;have hcl:∀G,ai Tryz.prog 316 [.i op,.sl (l.map fun x=>aS x.v) qz] G fun r h' =>r=qP (gO op (l.map (·.v)))∧h' =G:=hcl
   cases d3:(op==3)
   case true=>
    have e3:op=3:=afW;obtain⟨a,ha⟩:∃a,l= [a]:=List.length_eq_one_iff.1 (by rw[hl,e3];rfl)
    have hb0:l.map bO= [bO a]:=by rw[ha];rfl
    simp only[e3,if_true,ha,List.headD_cons]at hnd;simp only[go_sem,r1,r3,k3,d3];refine hbH.idx (e:=361) 0 rfl aei acj acd fun p hp1=>?_
    (try simp only[go_sem])
    refine hp1.field (f:=0) (off:=0) (t:=179) rfl acY fun p2 hp2=>?_
    have hld:=hp2.part (U:=U) (ty:=179) acY ada;simp only[hb0,List.getElem_cons_zero,bO,AV.cells]at hld;cases db:((a.bag.length:Int) !=1)
    ·have hb1:(a.bag.length:Int)=1:=by simpa using db
     obtain⟨v,hv⟩:=List.length_eq_one_iff.1 (show a.bag.length=1 by omega)
     rw[hv]at hnd hld;have iv:=fun K=>fm.eq (xs:=[aS v]) (sz:=3) 0 aci rfl K
     simp only[List.getElem_cons_zero,aS,Int.natCast_zero]at iv;simp only[go_sem,r1,hld,List.map_cons,List.map_nil,aS];refine hbH.idx (e:=361) 0 rfl aei acj acd fun p hp1=>?_
     (try simp only[go_sem])
     refine hp1.field (f:=0) (off:=0) (t:=179) rfl acY fun p2 hp2=>?_
     have hld:=hp2.part (U:=U) (ty:=179) acY ada;simp only[hb0,List.getElem_cons_zero,bO,AV.cells,hv,List.map_cons,List.map_nil,aS]at hld;simp only[go_sem,hld,iv,r6,k6];exact .mk (bO ⟨[],v,0⟩) (kU (x:=⟨[],v,0⟩) rfl _) (hsH.put n6' _) ⟨by rw[e3,ha,hnd]<;>rfl,rfl⟩
    ·simp only[go_sem,hld,abX,db,r6,k6]
     refine .mk (bO ⟨[],au,4⟩) (kU (x:=⟨[],au,4⟩) rfl _) (hsH.put n6' _) ⟨?_,rfl⟩;rw[e3,ha,hnd]
     congr 1
     split
     ·rename_i v hv;rw[hv]at db;simp at db
     ·rfl
   cases d4:(op==4)
   case true=>
    have e4:op=4:=by simpa using d4
    obtain⟨a,ha⟩:∃a,l= [a]:=List.length_eq_one_iff.1 (by rw[hl,e4];rfl)
    have hb0:l.map bO= [bO a]:=by rw[ha];rfl
    simp only[go_sem,r1,r3,k3,d3,d4];refine hbH.idx (e:=361) 0 rfl aei acj acd fun p hp1=>?_
    (try simp only[go_sem])
    refine hp1.field (f:=0) (off:=0) (t:=179) rfl acY fun p2 hp2=>?_
    have hld:=hp2.part (U:=U) (ty:=179) acY ada;simp only[hb0,List.getElem_cons_zero,bO,AV.cells]at hld;simp only[go_sem,hld,abX,r6,k6];exact .mk (bO ⟨[],⟨2,a.bag.length,[]⟩,0⟩) (kU (x:=⟨[],⟨2,a.bag.length,[]⟩,0⟩) rfl _) (hsH.put n6' _) ⟨by rw[hnd,e4,ha];rfl,rfl⟩
   cases d5:(op==5)
   case true=>
    have e5:op=5:=by simpa using d5
    obtain⟨a,b,hab⟩:∃a b,l= [a,b]:=wG (by rw[hl,e5];rfl)
    have hb0:l.map bO= [bO a,bO b]:=by rw[hab];rfl
    have hvh:=fun G=>Ov a.bag (by have:=hbag a (by rw[hab];simp);omega) b.v .no G
    simp only[aS]at hvh;have htr:=fun G=>uU (a.bag.any fun v=>eqV v b.v) G
    simp only[bO]at htr;simp only[go_sem,r3,k3,d3,d4,d5];refine .calls h [0,1,2,3,4,5,6,7,8,9,10] hsH ace rfl ?_;simp only[go_sem,r1];refine hb.idx (e:=361) 0 rfl aei acj acd fun p hp1=>?_
    simp only[go_sem];refine hp1.field (f:=0) (off:=0) (t:=179) rfl acY fun p2 hp2=>?_
    have hld:=hp2.part (U:=U) (ty:=179) acY ada;simp only[hb0,List.getElem_cons_zero,bO,AV.cells]at hld;simp only[go_sem,hld,r1];refine hb.idx (e:=361) 1 rfl aei acj acd fun p hp3=>?_
    simp only[go_sem];refine hp3.field (f:=1) (off:=1) (t:=33) rfl acY fun p4 hp4=>?_
    have hld4:=hp4.part (U:=U) (ty:=33) acY (by simp only[go_sem,hb0,List.getElem_cons_succ,List.getElem_cons_zero];exact abW rfl)
    simp only[hb0,List.getElem_cons_succ,List.getElem_cons_zero,bO,AV.cells]at hld4;simp only[go_sem,hld4];refine(hvh _).pthen ?_;refine⟨hsH,?_⟩;simp only[go_sem];refine(htr _).pthen ?_;refine⟨hsH,?_⟩;simp only[go_sem,r6,k6];refine⟨hsH.put n6' _,?_⟩;exact .mk (bO (iV (a.bag.any fun v=>eqV v b.v))) (kU (x:=(iV (a.bag.any fun v=>eqV v b.v))) rfl _) (hsH.put n6' _) ⟨by rw[hnd,e5,hab];rfl,rfl⟩
   obtain⟨⟨v,e⟩,ev⟩:∃x,gO op (l.map (·.v))=x:=⟨_,rfl⟩
   rw[ev]at hcl;simp only[go_sem,r3,r10,k3,d3,d4,d5];refine(hcl _).pthen ?_;simp only[go_sem,qP,aS];intro i13 h13;have n136:i13≠i6:=fun e=>afH
   simp only[go_sem,r6,ak,n136.symm,k6];exact .mk (bO ⟨[],v,e⟩) (kU (x:=⟨[],v,e⟩) rfl _) ((hsH.trans (.aj h13)).put n6' _) ⟨by rw[hnd];simp only[if_neg (show¬op=3 by simpa using d3),if_neg (show¬op=4 by simpa using d4),if_neg (show¬op=5 by simpa using d5)];rw[ev]<;>rfl,rfl⟩
end Go.Proofs.YtfdgemhnlennbaaGreatDoor
namespace Go.Bf
open Go Go.Ab Go.Proofs.YtfdgemhnlennbaaGreatDoor
theorem BX{t:fY}(h:lp t=0):MJ t:=by
 obtain⟨h1,h2⟩:=AW h;refine⟨ab7,fun x hx=>?_⟩
 grind [zU,zT]
theorem M6.turn{m:aT}(h:M6 m):M6 (D9 m):=by
 exact agL
theorem M6.indet{m:aT}(h:M6 m):M6 (gI m):=by
 exact agL
theorem M6.first{l:List aT}(h:∀m∈l,M6 m):M6 (firstM l):=by
 unfold firstM;cases hf:l.find? fun m=>decide (m≠naM)with
 |none=>decide
 |some m=>grind
theorem M6.only:∀(l:List aT) (j:aT),(∀m∈l,M6 m)→M6 j→M6 (og l j)
 | [],j,_,hj=>hj
 |m::r,j,h,hj=>by
  simp only[og];split
  ·decide
  ·refine M6.only r _ ab8 ?_
   split
   ·grind
   ·split
    ·decide
    omega
theorem Gf{alg:Int}{l:List aT}(h:∀m∈l,M6 m):M6 (gR alg l):=by
 unfold gR;split
 ·exact GW _
 ·split
  ·exact M6.turn (GW _)
  ·split
   ·exact .first h
   ·split
    ·exact .only _ _ h acd
    ·split
     ·split<;>decide
     ·split
      ·split<;>decide
      decide
theorem Aa(r:cP)(t c:Nat):M6 (mW r t c).1:=by
 unfold mW;cases r.deny
 all_goals
  simp only[if_true,Bool.false_eq_true,if_false];split
  ·decide
  ·split
   ·decide
   ·first|(show M6 bh;decide)|(show M6 cF;decide)
theorem Nw(alg:Int)(obls:List cA)(t:Nat){parts:List jG}(h:∀x∈parts,M6 x.1):M6 (pH alg obls t parts).1:=by
 have hc:M6 (gR alg (parts.map (·.1))):=Gf fun m hm=>by
  grind
 unfold pH;simp only;split
 ·decide
 ·split
  ·exact hc.indet
  ·split
   ·exact hc
   ·exact hc
mutual
theorem Bw(gs:List bn):∀p:bH,M6 (fE gs p).1
 |.mk id set alg tgt rules kids obls=>by
  have ih:=CI gs kids;simp only[fE];split
  ·decide
  ·refine Nw alg obls _ fun x hx=>?_
   rcases List.mem_append.1 hx with hx|hx
   ·obtain⟨r,_,rfl⟩:=List.mem_map.1 hx
    exact Aa _ _ _
   ·exact ih x hx
theorem CI(gs:List bn):∀l:List bH,∀x∈mu gs l,M6 x.1
 | [],x,hx=>by simp[mu]at hx
 |k::r,x,hx=>by
  have h1:=Bw gs k;have h2:=CI gs r;simp only[mu,List.mem_cons]at hx;rcases hx with rfl|hx
  ·exact h1
  ·exact h2 x hx
end
theorem J8{gs:List bn}(h:OB gs):rA gs:=⟨by have:=h.len;omega,fun g hg=>by have:=(h.each g hg).2.2.2.1;omega⟩
theorem Gp{α:Type}(B:Nat):∀(L:List (List α)),(∀x∈L,x.length≤B)→L.flatten.length≤L.length*B
 | [],_=>aci
 |x::L,h=>by
  have h1:=h x aci;have h2:=Gp B L fun y hy=>h y ab8
  rw[List.flatten_cons,ab1,List.length_cons,Nat.add_mul];omega
theorem tr{alg:Int}{m:aT}{parts:List jG}{B:Nat}(hp:∀x∈parts,x.2.length≤B)(hn:parts.length≤32):(eP alg m parts).length≤32*B+B:=by
 unfold eP;split
 ·cases hf:parts.find? fun x=>x.1==m with
  |none=>simp
  |some x=>grind
 ·have h1:=Gp B (((parts.filter fun x=>x.1==m).map (·.2))) fun x hx=>by
   grind
  have h2:((parts.filter fun x=>x.1==m).map (·.2)).length≤32:=by
   grind
  have:=Nat.mul_le_mul_right B h2;omega
theorem kG(l:List cA)(m:aT):(eN l m).length≤l.length:=List.length_filter_le _ _
theorem z8(r:cP)(t c:Nat):(mW r t c).2.length≤r.obls.length:=by
 unfold mW
 all_goals
  grind [kG]
def oB:Nat→Nat
 |0=>8
 |n+1=>8+33*oB n
theorem Ud(n:Nat):8≤oB n:=by
 cases n with
 |zero=>decide
 |succ n=>grind [oB]
theorem Bv(gs:List bn):∀(n d:Nat) (p:bH),d+n=5→mF d p→(fE gs p).2.length≤oB n
 |0,d,.mk id set alg tgt rules kids obls,hd,h=>by grind [mF]
 |n+1,d,.mk id set alg tgt rules kids obls,hd,h=>by
  simp only[mF,qu]at h;obtain⟨_,_,_,_,_,_,g2,g3,g4,g5,g6,g7⟩:=h;have hob:=(ko g3).1;have h8:=Ud n;simp only[fE];split
  ·simp
  ·unfold pH
   simp only;split
   ·simp
   ·split
    ·simp
    ·split
     ·simp
     ·have h1:=tr (alg:=alg) (m:=gR alg ((rules.map (gY gs)++mu gs kids).map (·.1))) (parts:=rules.map (gY gs)++mu gs kids) (B:=oB n) (fun x hx=>by
       rcases List.mem_append.1 hx with hx|hx
       ·obtain⟨r,hr,rfl⟩:=List.mem_map.1 hx
        have:=z8 r (mE gs r.tgt) (qg gs r.cond);have:=(ko (g6 r hr).2.2.2).1
        show(mW r (mE gs r.tgt) (qg gs r.cond)).2.length≤_
        omega
       ·rw[sO]at hx
        obtain⟨k,hk,rfl⟩:=List.mem_map.1 hx;exact Bv gs n (d+1) k ab7 (g7 k hk)) (by grind [ab1,abX,sO])
      have h2:=kG obls (gR alg ((rules.map (gY gs)++mu gs kids).map (·.1)))
      simp only[ab1,oB];omega
theorem KE(gs:List bn){p:bH}(h:mF 1 p):(fE gs p).2.length≤10000000:=Nat.le_trans (Bv gs 4 1 p rfl h) acd
theorem JL{op:Int}{w:List Bool}(hw:iC op=some w):w.length=opsOf op∧1≤op∧op≤13:=by
 have h1:1≤op∧op≤13:=by
  grind [iC]
 refine⟨?_,h1⟩;rcases(show op=1∨op=2∨op=3∨op=4∨op=5∨op=6∨op=7∨op=8∨op=9∨op=10∨op=11∨op=12∨op=13 by omega)with rfl|rfl|rfl|rfl|rfl|rfl|rfl|rfl|rfl|rfl|rfl|rfl|rfl
 all_goals (simp[iC]at hw;subst hw;rfl)
theorem Jx{bs bs' :List Bool}{n:aO}(h:iB bs n=some bs'):(1≤n.op∧n.op≤13)∧opsOf n.op≤bs.length∧bs'.length=bs.length - opsOf n.op+1:=by
 unfold iB at h;cases hw:iC n.op with
 |none=>grind
 |some w=>
  grind [JL,ab1,List.length_take,List.length_singleton]
theorem Oe{l:List aO}{z bs:List Bool}{i:Nat}(hl:fS [] l=some z)(hi:i<l.length)(hb:fS [] (l.take i)=some bs):∃bs',iB bs l[i]=some bs'∧fS [] (l.take (i+1))=some bs' :=by
 have h1:=jT [] l i;rw[hl,hb,List.drop_eq_getElem_cons hi]at h1;simp only[fS]at h1;cases hs:iB bs l[i]with
 |none=>rw[hs]at h1;cases h1
 |some bs' =>
  rw[jT [] _ i,List.take_take,Nat.min_eq_left ab7,hb,List.take_succ_eq_append_getElem hi,List.drop_append_of_le_length ab8,List.drop_of_length_le ab8]
  grind [fS]
theorem Lr{gs:List bn}(hf:rA gs)(n:aO)(l:List jw):(kX gs n l).bag.length≤1000000:=by
 unfold kX zK iV
 repeat' split
 all_goals first|exact hf.bag _|simp
def T0(x:jw):AV:=.tup [aS x.v,.i x.e]
end Go.Bf
namespace Go.Proofs.YtfdgemhnlennbaaGreatDoor
open Go Go.Ab Go.Bf
theorem KF(l:List aO)(hn:l≠ [])(he:jY l=0)(gs:List bn)(hf:rA gs)(h:Heap):ai Tryz.prog 270 [fu l,bI gs] h fun r h' =>r=T0 (vC gs l)∧h' =h:=by
 obtain⟨h32,hst⟩:=xC he hn;have hex:=fun G=>Gl l G
 rw[he]at hex;simp only[fu]at hex;have dl:((l.length:Int)==0)=false:=agb;refine ab6 Tryz.func270 51 [.cell 4 33,.tmp 5] fun hwf=>?_
 simp only[go_sem,fu,bI];intro i4 h4;simp only[go_sem,abX,dl];refine(hex _).pthen ?_;simp only[go_sem,abX];obtain⟨H0,eH⟩:∃H0,upd h i4 (some (.obj [.i 0,.i 0,.s []] 33))=H0:=⟨_,rfl⟩;have hH0:Ab.Sub h H0:=by rw[←eH];exact .aj h4
 have g4:H0 i4=some (.obj [.i 0,.i 0,.s []] 33):=adB;rw[eH];clear eH;refine .intro (fun m ρ H=>∃(i:Nat) (y:AV) (st:List jw) (bs:List Bool),OwE 361 H0 H 5 y (st.map bO)∧Ab.Sub H0 H∧(l.take i).foldl (yS gs) []=st∧fS [] (l.take i)=some bs∧bs.length=st.length∧(∀x∈st,x.bag.length≤1000000)∧i≤l.length∧m=l.length - i∧lk ρ 1=some (.sl (gs.map kS) .no)∧lk ρ 4=some (.ptr i4 0)∧lk ρ 6=some y∧lk ρ 19=some (.sl (l.map dI) .no)∧lk ρ 20=some (.i l.length)∧lk ρ 21=some (.i i)) l.length ?_ ?_
 ·refine⟨0,_,[],[],.inl ⟨rfl,rfl⟩,.refl _,rfl,rfl,rfl,fun x hx=>ab8,ab7,rfl,?_,?_,?_,?_,?_,?_⟩<;>simp only[go_sem]
 ·rintro m ρ H ⟨i,y,st,bs,hw,hsH,hfo,hbs,hlen,hbag,hi,rfl,r1,r4,r6,r19,r20,r21⟩
  have hsl:bs.length≤i:=by have:=rJ _ _ _ hbs;simpa[Nat.min_eq_left hi]using this
  simp only[go_sem,r20,r21];refine .intro (fun e=>?_) (fun e=>?_)
  ·have hlt:i<l.length:=ab4 e
   have w1:IntKind.i64.wrap ((i:Int)+1)=((i+1:Nat):Int):=acn;obtain⟨bs',hb1,hb2⟩:=Oe hst hlt hbs;have hfs:(l.take (i+1)).foldl (yS gs) []=yS gs st l[i]:=by grind [List.take_succ_eq_append_getElem]
   have ix:=fun k=>fm.eq (xs:=l.map dI) (sz:=7) i ab8 acq k
   rw[abY]at ix;obtain⟨n,en⟩:∃n,l[i]=n:=⟨_,rfl⟩;rw[en]at hb1 hfs ix;obtain⟨hop,hle,hln⟩:=Jx hb1;rw[hlen]at hle;obtain⟨k,ek⟩:∃k,st.length - opsOf n.op=k:=⟨_,rfl⟩;have wk:IntKind.i64.wrap ((st.length:Int) - (opsOf n.op:Int))=(k:Int):=acn;have hstep:yS gs st n=st.take k++ [kX gs n (st.drop k)]:=by grind [yS]
   simp only[dI]at ix;simp only[go_sem,r19,r21,ix];intro i8 h8;obtain⟨H8,eH⟩:∃H8,upd H i8 (some (.obj [.i n.op,.i n.val.kind,.i n.val.n,.s n.val.s,.i n.attr.cat,.s n.attr.name,.b n.attr.must] 215))=H8:=⟨_,rfl⟩;have hs8:Ab.Sub H H8:=by rw[←eH];exact .aj h8
   have k8:H8 i8=some (.obj [.i n.op,.i n.val.kind,.i n.val.n,.s n.val.s,.i n.attr.cat,.s n.attr.name,.b n.attr.must] 215):=adB;have hw8:=hw.sub hs8;simp only[go_sem,r6,hw8.rd.len,abX];refine(EO n.op _).pthen ?_;rw[eH];clear eH;simp only[go_sem,wk];refine .calls (hm1 i8 (.obj [.i n.op,.i n.val.kind,.i n.val.n,.s n.val.s,.i n.attr.cat,.s n.attr.name,.b n.attr.must] 215)) [0,1,2,3,4,5,6,7,8,9,10,11] (.hm1 k8) ace rfl ?_;simp only[go_sem,r6];refine hw8.cut (U:=U) (x:=.i64) k acr rfl ab8 acr acd fun z hz hzy=>?_
   simp only[go_sem,r6,ga];refine hw8.from (U:=U) (x:=.i64) k acr rfl ab8 acr acd fun z2 hz2=>?_
   rw[←List.map_drop]at hz2;rw[←List.map_take]at hz;have hnd:=NN n hop (st.drop k) hz2 ab8 (fun x hx=>hbag x (List.mem_of_mem_drop hx)) gs hf
   have hnb:=Lr hf n (st.drop k);obtain⟨x,ex⟩:∃x,kX gs n (st.drop k)=x:=⟨_,rfl⟩;rw[ex]at hnd hnb hstep;simp only[dI,bI,bO]at hnd;simp only[go_sem,r1];refine hnd.pthen ?_;refine⟨.hm1 k8,?_⟩;simp only[go_sem];have hone:Rd H8 5 (.sl [bO x] .full) [bO x]:=.sl (fun z hz=>aeY) .full
   simp only[bO]at hone;refine OwE.app (U:=U) (tb:=361) hz (hsH.trans hs8) hone acr acd acd acr aci acu fun id y' H' hid hor how hoth=>?_
   have n8:i8≠id:=by
    intro e8;rcases hor with ho|⟨lz,cz,ez⟩
    ·grind
    ·exact lO (hz.nid (id:=id) (by rw[ez];rfl)).2.2 k8 acd e8.symm
   have hsub' :Ab.Sub H0 H' :=fun j b hj=>by rw[hoth j (fun e=>ab8)];exact(hsH.trans hs8) _ _ hj
   refine⟨.hm1 ab8,?_⟩;simp only[go_sem,r21,w1];refine⟨_,?_,i+1,y',yS gs st n,bs',.inr ⟨id,hid,by rw[hstep,List.map_append];exact how⟩,hsub',hfs,hb2,ab8,fun w hw=>?_,ab7,rfl,?_,?_,?_,?_,?_,?_⟩
   ·omega
   ·grind
   all_goals simp only[go_sem,r1,r4,r19,r20]
  ·have hge:i=l.length:=by grind
   subst hge;rw[List.take_length]at hbs hfo;rw[hst]at hbs;cases hbs;obtain⟨x,rfl⟩:=List.length_eq_one_iff.1 hlen.symm;have hit:vC gs l=x:=by simp_all [vC,if_neg]
   obtain⟨id,hid,how⟩:=hw.ow aci;have hwp:Rd (pick H [id]) 5 y [bO x]:=(how.same (bD (List.mem_singleton.2 rfl))).rd;have n4:i4≠id:=fun e=>ab8
   have k4:=hsH _ _ g4;simp only[go_sem];refine .calls (pick H [id]) [0,1,2,3,4,5,6,7,8,9] bR ace rfl ?_;simp only[go_sem,r6];refine hwp.idx (U:=U) (e:=361) 0 rfl aci acr acd fun p hp1=>?_
   simp only[go_sem];refine hp1.field (f:=1) (off:=1) (t:=33) rfl acd fun p2 hp2=>?_
   have hld:=hp2.part (U:=U) (ty:=33) acd aev;simp only[List.getElem_cons_zero,bO,AV.cells]at hld;simp only[go_sem,r6,hld];refine hwp.idx (U:=U) (e:=361) 0 rfl aci acr acd fun p3 hp3=>?_
   simp only[go_sem];refine hp3.field (f:=2) (off:=4) (t:=24) rfl acd fun p4 hp4=>?_
   have hld4:=hp4.part (U:=U) (ty:=24) acd aev;simp only[List.getElem_cons_zero,bO,AV.cells]at hld4;simp only[go_sem,r4,hld4,k4];refine⟨bR.put (by grind [pick]) _,?_⟩
   exact .mk _ (.refl _) ((hH0.trans hsH).put h4 _) ⟨by rw[hit];rfl,rfl⟩
theorem M4(l:List aO)(he:jY l=0)(gs:List bn)(hf:rA gs)(h:Heap):ai Tryz.prog 243 [fu l,bI gs] h fun r h' =>r= .i (qg gs l:Nat)∧h' =h:=by
 by_cases hn:l= []
 ·subst hn
  refine ab6 Tryz.func243 26 [.tmp 4] fun hwf=>?_
  simp only[go_sem,fu,bI,List.map_nil,List.length_nil];exact aco
 have hv:=fun G=>KF l hn he gs hf G
 have hcd:qg gs l=if isI (vC gs l) 1 then 2 else if isI (vC gs l) 0 then 0 else 1:=by
  simp_all [qg,if_neg]
 obtain⟨x,ex⟩:∃x,vC gs l=x:=⟨_,rfl⟩;rw[ex]at hv hcd;simp only[fu,bI,T0,aS]at hv;have hi1:∀(m:Int) G,ai Tryz.prog 271 [.agg [.sl [] .full,.i x.v.kind,.i x.v.n,.s x.v.s,.i x.e],.i m] G fun r h' =>r= .b (isI x m)∧h' =G:=fun m G=>Nu x m G
 have dl:((l.length:Int)==0)=false:=agb;refine ab6 Tryz.func243 26 [.tmp 4] fun hwf=>?_
 simp only[go_sem,fu,bI,abX,dl];refine(hv _).pthen ?_;simp only[go_sem];intro i5 h5;simp only[go_sem];intro i7 h7;have n7:=aC h7;have hs:∀x y,Ab.Sub h (upd (upd h i5 x) i7 y):=fun x y=>((Sub.refl h).put h5 x).put n7 y
 simp only[go_sem];refine(hi1 1 _).pthen ?_;cases d1:isI x 1
 case true=>
  rw[d1]at hcd;simp only[go_sem];exact .mk _ (.refl _) (hs _ _) ⟨by rw[hcd];rfl,rfl⟩
 simp only[go_sem];refine(hi1 0 _).pthen ?_;cases d0:isI x 0
 all_goals
  rw[d1,d0]at hcd;simp only[go_sem];exact .mk _ (.refl _) (hs _ _) ⟨by rw[hcd];rfl,rfl⟩
end Go.Proofs.YtfdgemhnlennbaaGreatDoor
namespace Go.Bf
open Go Go.Ab Go.Proofs.YtfdgemhnlennbaaGreatDoor
def jO(l:List aT)(p:Perm):AV:=.sl (l.map aR) p
theorem M9.na:M9 naM:=acd
theorem BG(l:List aT)(i:Nat)(h:i<l.length):(l.take (i+1)).foldl nX naM=nX ((l.take i).foldl nX naM) l[i]:=by
 grind [List.take_succ_eq_append_getElem]
theorem Im{l:List aT}{q:aT→Bool}(hq:∀m,q m=decide (m≠naM))(h:l.findIdx q<l.length):firstM l=l[l.findIdx q]:=by
 unfold firstM;have e:q=fun m=>decide (m≠naM):=funext hq
 subst e;rw[show l.find? (fun m=>decide (m≠naM))=some l[l.findIdx fun m=>decide (m≠naM)]from List.find?_eq_some_iff_getElem.2 ⟨List.findIdx_getElem (w:=h),_,h,rfl,fun j hj=>ab8⟩]
 rfl
theorem Io{l:List aT}{q:aT→Bool}(hq:∀m,q m=decide (m≠naM))(h:¬l.findIdx q<l.length):firstM l=naM:=by
 unfold firstM;rw[List.find?_eq_none.2 fun x hx=>ab8]
 rfl
def vN(j m:aT):aT:=if j=naM then m else if m≠naM then oP else j
theorem Lw{l:List aT}{i:Nat}(h:i<l.length)(j:aT):og (l.drop i) j=if yT l[i]=false then oP else og (l.drop (i+1)) (vN j l[i]):=by
 rw[List.drop_eq_getElem_cons h];rfl
end Go.Bf
namespace Go.Proofs.YtfdgemhnlennbaaGreatDoor
open Go Go.Ab Go.Bf
theorem UD:(U 31).sz=1:=acr
theorem IT(ms:List aT)(hl:ms.length≤1000000000)(q:aT→Bool)(g:FuncId)(cap:List AV)(p:Perm)(h:Heap)(hp:∀m∈ms,ai Tryz.prog g (aR m::cap) h fun r h' =>r= .b (q m)∧h' =h):
  ai Tryz.prog 302 [jO ms p,.fn g cap] h fun r h' =>r= .i (ixD q ms)∧h' =h:=by
 refine ab6 Tryz.func302 19 [.tmp 4] fun hwf=>?_
 simp only[go_sem,jO,abX];refine .intro (fun m ρ h' =>h' =h∧∃i:Nat,i≤ms.length∧m=ms.length - i∧(∀j (hj:j<i) (h2:j<ms.length),q ms[j]=false)∧lk ρ 0=some (.sl (ms.map aR) p)∧lk ρ 1=some (.fn g cap)∧lk ρ 7=some (.i ms.length)∧lk ρ 8=some (.i i)) ms.length ?_ ?_
 ·refine⟨rfl,0,ab7,rfl,fun j hj=>ab7,?_,?_,?_,?_⟩<;>simp only[go_sem]
 ·rintro m ρ h' ⟨rfl,i,hi,rfl,hc,r0,r1,r7,r8⟩
  simp only[go_sem,r7,r8];refine .intro (fun e=>?_) (fun e=>?_)
  ·have hlt:i<ms.length:=ab4 e
   have w1:IntKind.i64.wrap ((i:Int)+1)=((i+1:Nat):Int):=acn;have ix:=fun k=>fm.eq (xs:=ms.map aR) (sz:=1) i ab8 acq k
   rw[abY]at ix;have hg:=hp ms[i] (ab2 hlt);have hci:=fun(d:q ms[i]=false)=>(fun j (hj:j<i+1) (h2:j<ms.length)=>(by
    grind:q ms[j]=false))
   have hat:=fun(d:q ms[i]=true)=>nJ hlt d fun j hj=>hc j hj ab7
   obtain⟨m,em⟩:∃m,ms[i]=m:=⟨_,rfl⟩;rw[em]at ix hg hci hat;simp only[aR]at ix;simp only[go_sem,r0,r1,r8,ix];refine(show ai Tryz.prog g (.v (.complex .f64 (hbit m.1) (hbit m.2))::cap) _ _ from hg).pthen ?_
   cases d1:q m
   ·simp only[go_sem,r8,w1]
    refine⟨_,?_,rfl,i+1,ab7,rfl,hci d1,?_,?_,?_,?_⟩
    ·omega
    all_goals simp only[go_sem,r0,r1,r7]
   ·simp only[go_sem]
    exact .same (.refl _) ⟨af4,rfl⟩
  ·have hge:i=ms.length:=by grind
   simp only[go_sem];exact .same (.refl _) ⟨acF,rfl⟩
theorem Fc(ms:List aT)(hl:ms.length≤1000000000)(hmm:∀m∈ms,M9 m)(x:aT)(hx:M9 x)(p:Perm)(h:Heap):
  ai Tryz.prog 317 [jO ms p,aR x] h fun r h' =>r= .i (ixD (fun y=>x==y) ms)∧h' =h:=by
 refine ab6 Tryz.func317 19 [.tmp 4] fun hwf=>?_
 simp only[go_sem,jO,abX];refine .intro (fun m ρ h' =>h' =h∧∃i:Nat,i≤ms.length∧m=ms.length - i∧(∀j (hj:j<i) (h2:j<ms.length),(x==ms[j])=false)∧lk ρ 0=some (.sl (ms.map aR) p)∧lk ρ 1=some (aR x)∧lk ρ 7=some (.i ms.length)∧lk ρ 8=some (.i i)) ms.length ?_ ?_
 ·refine⟨rfl,0,ab7,rfl,fun j hj=>ab7,?_,?_,?_,?_⟩<;>simp only[go_sem]
 ·rintro m ρ h' ⟨rfl,i,hi,rfl,hc,r0,r1,r7,r8⟩
  simp only[go_sem,r7,r8];refine .intro (fun e=>?_) (fun e=>?_)
  ·have hlt:i<ms.length:=ab4 e
   have w1:IntKind.i64.wrap ((i:Int)+1)=((i+1:Nat):Int):=acn;have ix:=fun k=>fm.eq (xs:=ms.map aR) (sz:=1) i ab8 acq k
   rw[abY]at ix;have hm9:=hmm ms[i] (ab2 hlt);have hci:=fun(d:(x==ms[i])=false)=>(fun j (hj:j<i+1) (h2:j<ms.length)=>(by
    grind:(x==ms[j])=false))
   have hat:=fun(d:(x==ms[i])=true)=>nJ (q:=fun y=>x==y) hlt d fun j hj=>hc j hj ab7
   obtain⟨m,em⟩:∃m,ms[i]=m:=⟨_,rfl⟩;rw[em]at ix hm9 hci hat;simp only[aR]at ix r1;have ne:=yo hx hm9;cases d1:(x==m)
   ·simp only[go_sem,r0,r1,r8,ix,ne,d1,w1]
    refine⟨_,?_,rfl,i+1,ab7,rfl,hci d1,?_,?_,?_,?_⟩
    ·omega
    all_goals simp only[go_sem,r0,r1,r7,aR]
   ·simp only[go_sem,r0,r1,r8,ix,ne,d1]
    exact .same (.refl _) ⟨af4,rfl⟩
  ·have hge:i=ms.length:=by grind
   simp only[go_sem];exact .same (.refl _) ⟨acF,rfl⟩
theorem E4(ms:List aT)(hl:ms.length≤1000000000)(hmm:∀m∈ms,M9 m)(x:aT)(hx:M9 x)(p:Perm)(h:Heap):
  ai Tryz.prog 306 [jO ms p,aR x] h fun r h' =>r= .b (decide (x∈ms))∧h' =h:=by
 refine ab6 Tryz.func306 9 [.tmp 4] fun hwf=>?_
 simp only[go_sem];refine(Fc ms hl hmm x hx p _).pthen ?_;simp only[go_sem];exact .same (.refl _) ⟨by rw[tY,show(ms.any fun y=>x==y)=decide (x∈ms) by grind];rfl,rfl⟩
theorem Er(m:aT)(hmm:M9 m)(h:Heap):ai Tryz.prog 303 [aR m] h fun r h' =>r= .b (!(m==naM))∧h' =h:=by
 have n:=(nb hmm).nna;refine ab6 Tryz.func303 5 [.tmp 2] fun hwf=>?_
 simp only[go_sem,aR,n];exact aco
theorem Oj(m:aT)(hmm:M9 m)(h:Heap):ai Tryz.prog 304 [aR m] h fun r h' =>r= .b (yT m)∧h' =h:=by
 obtain⟨n1,n2,n3,_⟩:=nb hmm;refine ab6 Tryz.func304 13 [.tmp 2] fun hwf=>?_
 have es:yT m=(m==naM||(m==bh||m==cF)):=by
  unfold yT
  grind
 rw[es];cases d1:(m==naM)<;>cases d2:(m==bh)<;>cases d3:(m==cF)
 all_goals
  simp only[go_sem,aR,n1,n2,n3,d1,d2,d3];exact aco
theorem KJ(ms:List aT)(hl:ms.length≤1000000000)(hmm:∀m∈ms,M9 m)(p:Perm)(h:Heap):ai Tryz.prog 276 [jO ms p] h fun r h' =>r=aR (firstM ms)∧h' =h:=by
 refine ab6 Tryz.func276 12 [.tmp 2] fun hwf=>?_
 simp only[go_sem,jO];refine(IT ms hl (fun m=> !(m==naM)) _ [] p _ fun m h=>Er m (hmm m h) _).pthen ?_
 have hq:∀m:aT,(!(m==naM))=decide (m≠naM):=fun m=>ab8
 by_cases hx:ms.findIdx (fun m=> !(m==naM))<ms.length
 ·obtain⟨i,ei⟩:∃i,ms.findIdx (fun m=> !(m==naM))=i:=⟨_,rfl⟩
  have ef:=Im hq hx;have e1:ixD (fun m=> !(m==naM)) ms=(i:Nat):=by rw[ixD,ei];omega
  simp only[ei]at ef;have d1:decide ((0:Int)≤((i:Nat):Int))=true:=decide_eq_true ab7;have ix:=fun k=>fm.eq (xs:=ms.map aR) (sz:=1) i ab8 acq k
  rw[abY,←ef]at ix;rw[e1];simp only[go_sem,d1,ix];exact aco
 ·have e1:ixD (fun m=> !(m==naM)) ms= -1:=by simp_all [ixD,if_neg]
  have d1:decide ((0:Int)≤ -1)=false:=rfl;rw[e1];simp only[go_sem,d1];exact .same (.refl _) ⟨by rw[Io hq hx];rfl,rfl⟩
theorem L9(j m:aT)(hj:M9 j)(hmm:M9 m)(h:Heap):ai Tryz.prog 305 [.i 4,aR j,aR m] h fun r h' =>r=aR (vN j m)∧h' =h:=by
 have n1:=(nb hj).na;have n2:=(nb hmm).nna;refine ab6 Tryz.func305 31 [.tmp 6] fun hwf=>?_
 cases d1:(j==naM)
 case true=>
  simp only[go_sem,aR,n1,d1];exact .same (.refl _) ⟨by rw[vN,if_pos ab8];rfl,rfl⟩
 cases d2:(m==naM)
 ·simp only[go_sem,aR,n1,n2,d1,d2]
  exact .same (.refl _) ⟨by rw[vN,if_neg ab8,if_pos ab8];rfl,rfl⟩
 ·simp only[go_sem,aR,n1,n2,d1,d2]
  exact .same (.refl _) ⟨by rw[vN,if_neg ab8,if_neg ab8];rfl,rfl⟩
theorem M9.step{j m:aT}(hj:M9 j)(hmm:M9 m):M9 (vN j m):=by
 unfold vN
 repeat' split
 ·omega
 ·decide
 omega
theorem NU(ms:List aT)(hl:ms.length≤1000000000)(hmm:∀m∈ms,M9 m)(p:Perm)(h:Heap):ai Tryz.prog 277 [jO ms p] h fun r h' =>r=aR (og ms naM)∧h' =h:=by
 refine ab6 Tryz.func277 20 [.tmp 2] fun hwf=>?_
 simp only[go_sem,jO,abX];refine .intro (fun m ρ h' =>h' =h∧∃(i:Nat) (j:aT),i≤ms.length∧m=ms.length - i∧M9 j∧og (ms.drop i) j=og ms naM∧lk ρ 3=some (aR j)∧lk ρ 6=some (.sl (ms.map aR) p)∧lk ρ 7=some (.i ms.length)∧lk ρ 8=some (.i i)) ms.length ?_ ?_
 ·refine⟨rfl,0,naM,ab7,rfl,.na,rfl,?_,?_,?_,?_⟩<;>simp only[go_sem,aR,naM,hbit]
 ·rintro m ρ h' ⟨rfl,i,j,hi,rfl,hj,ho,r3,r6,r7,r8⟩
  simp only[go_sem,r7,r8];refine .intro (fun e=>?_) (fun e=>?_)
  ·have hlt:i<ms.length:=ab4 e
   have w1:IntKind.i64.wrap ((i:Int)+1)=((i+1:Nat):Int):=acn;have ix:=fun k=>fm.eq (xs:=ms.map aR) (sz:=1) i ab8 acq k
   rw[abY]at ix;have hm9:=hmm ms[i] (ab2 hlt);rw[Lw hlt]at ho;obtain⟨m,em⟩:∃m,ms[i]=m:=⟨_,rfl⟩;rw[em]at ix hm9 ho;have hsu:=fun G=>Oj m hm9 G
   have hst:=fun G=>L9 j m hj hm9 G
   simp only[aR]at ix hsu hst r3;simp only[go_sem,r6,r8,ix];refine(hsu _).pthen ?_;cases d1:yT m
   ·rw[if_pos d1]at ho
    simp only[go_sem];exact .same (.refl _) ⟨by rw[←ho];rfl,rfl⟩
   ·rw[if_neg ab8]at ho
    simp only[go_sem,r3];refine(hst _).pthen ?_;simp only[go_sem,r8,w1];refine⟨_,?_,rfl,i+1,vN j m,ab7,rfl,M9.step hj hm9,ho,?_,?_,?_,?_⟩
    ·omega
    all_goals simp only[go_sem,r6,r7,aR]
  ·have hge:i=ms.length:=by grind
   subst hge;rw[List.drop_length]at ho;simp only[go_sem,r3];exact .same (.refl _) ⟨by rw[←ho];rfl,rfl⟩
theorem AZ(ms:List aT)(hl:ms.length≤1000000000)(hmm:∀m∈ms,M9 m)(a b:aT)(hb:M9 b)(p:Perm)(h:Heap):ai Tryz.prog 278 [jO ms p,aR a,aR b] h fun r h' =>r=aR (if b∈ms then b else a)∧h' =h:=by
 refine ab6 Tryz.func278 12 [.tmp 6] fun hwf=>?_
 simp only[go_sem];refine(E4 ms hl hmm b hb p _).pthen ?_
 by_cases d:b∈ms
 ·simp only[go_sem,decide_eq_true d,if_pos d]
  exact aco
 ·simp only[go_sem,decide_eq_false d,if_neg d]
  exact aco
theorem PZ(alg:Int)(ha:1≤alg∧alg≤6)(ms:List aT)(hl:ms.length≤1000000000)(hmm:∀m∈ms,M6 m)(p:Perm)(h:Heap):ai Tryz.prog 244 [.i alg,jO ms p] h fun r h' =>r= .tup [aR (gR alg ms),.i 0]∧h' =h:=by
 have hm9:=fun m h=>(hmm m h).m9
 refine ab6 Tryz.func244 49 [.tmp 4,.tmp 5] fun hwf=>?_
 simp only[go_sem,jO,abX];refine .intro (fun m ρ h' =>h' =h∧∃i:Nat,i≤ms.length∧m=ms.length - i∧M9 ((ms.take i).foldl nX naM)∧lk ρ 0=some (.i alg)∧lk ρ 1=some (.sl (ms.map aR) p)∧lk ρ 6=some (aR ((ms.take i).foldl nX naM))∧lk ρ 9=some (.sl (ms.map aR) p)∧lk ρ 10=some (.i ms.length)∧lk ρ 11=some (.i i)) ms.length ?_ ?_
 ·refine⟨rfl,0,ab7,rfl,.na,?_,?_,?_,?_,?_,?_⟩<;>simp only[go_sem,aR,naM,hbit,List.take_zero,List.foldl_nil]
 ·rintro m ρ h' ⟨rfl,i,hi,rfl,hj,r0,r1,r6,r9,r10,r11⟩
  obtain⟨j,ej⟩:∃j,(ms.take i).foldl nX naM=j:=⟨_,rfl⟩;rw[ej]at hj r6;simp only[go_sem,r10,r11];refine .intro (fun e=>?_) (fun e=>?_)
  ·have hlt:i<ms.length:=ab4 e
   have w1:IntKind.i64.wrap ((i:Int)+1)=((i+1:Nat):Int):=acn;have ix:=fun k=>fm.eq (xs:=ms.map aR) (sz:=1) i ab8 acq k
   rw[abY]at ix;have hm6:=hmm ms[i] (ab2 hlt);have hsn:=BG ms i hlt;rw[ej]at hsn;obtain⟨m,em⟩:∃m,ms[i]=m:=⟨_,rfl⟩;rw[em]at ix hm6 hsn;have hri:=fun G=>BK m hm6 G
   have hjo:=fun G=>Ny j m hj hm6.m9 G
   simp only[aR]at ix hri hjo r6;simp only[go_sem,r9,r11,ix];refine(hri _).pthen ?_;simp only[go_sem,r6];refine(hjo _).pthen ?_;simp only[go_sem,r11,w1];refine⟨_,?_,rfl,i+1,ab7,rfl,by grind [M9.join],?_,?_,?_,?_,?_,?_⟩
   ·omega
   all_goals simp only[go_sem,r0,r1,r9,r10,aR,hsn]
  ·have hge:i=ms.length:=by grind
   subst hge;rw[List.take_length]at ej;have ej' :wF ms=j:=ej;have hov:=fun G=>GX j hj G
   have htu:=fun(x:aT) (G:Heap)=>Om x G
   have hov2:=fun G=>GX (D9 j) ⟨hj.2,hj.1⟩ G
   have h1:=KJ ms hl hm9 p;have h2:=NU ms hl hm9 p;have h3:=AZ ms hl hm9 cF bh acd p;have h4:=AZ ms hl hm9 bh cF acd p;simp only[jO]at h1 h2 h3 h4;rcases(show alg=1∨alg=2∨alg=3∨alg=4∨alg=5∨alg=6 by omega)with rfl|rfl|rfl|rfl|rfl|rfl
   ·simp only[go_sem,r0,r6]
    refine(hov _).pthen ?_;simp only[go_sem];exact .same (.refl _) ⟨by simp only[gR,ej',if_true];rfl,rfl⟩
   ·simp only[go_sem,r0,r6]
    refine(htu _ _).pthen ?_;simp only[go_sem];refine(hov2 _).pthen ?_;simp only[go_sem];refine(htu _ _).pthen ?_;simp only[go_sem];exact .same (.refl _) ⟨by simp only[gR,ej'];rfl,rfl⟩
   ·simp only[go_sem,r0,r1]
    refine(h1 _).pthen ?_;exact agJ
   ·simp only[go_sem,r0,r1]
    refine(h2 _).pthen ?_;exact agJ
   ·simp only[go_sem,r0,r1]
    refine(h3 _).pthen ?_;exact ahQ
   ·simp only[go_sem,r0,r1]
    refine(h4 _).pthen ?_;exact ahQ
end Go.Proofs.YtfdgemhnlennbaaGreatDoor
namespace Go.Bf
open Go Go.Ab Go.Proofs.YtfdgemhnlennbaaGreatDoor
def rsA(r:jG):AV:=.agg [aR r.1,aA r.2]
theorem Ia(l:List cA)(m:aT)(i:Nat)(h:i<l.length):eN (l.take (i+1)) m=eN (l.take i) m++(if(l[i].on==1 && m==bh||l[i].on==2 && m==cF)=true then [l[i]]else []):=by
 grind [eN,List.take_succ_eq_append_getElem]
theorem qH(l:List cA)(m:aT){L:List AV}(hL:L=l.map br)(q:Perm):Weak (.agg [aR m,.sl L q]) (rsA (m,l)):=by
 subst hL;refine .agg _ _ rfl fun i a b=>?_
 rcases i with _|_|i
 ·exact adu
 ·exact aeJ
 grind
theorem yx(alg:Int)(m:aT)(l:List jG)(i:Nat)(h:i<l.length)(h3:alg≠3):eP alg m (l.take (i+1))=eP alg m (l.take i)++(if(l[i].1==m)=true then l[i].2 else []):=by
 unfold eP;rw[if_neg h3,if_neg h3,List.take_succ_eq_append_getElem h,List.filter_append,List.map_append,List.flatten_append]
 grind
theorem yw{m:aT}{l:List jG}(h:∀x∈l,(x.1==m)=false):eP 3 m l= []:=by
 unfold eP;rw[if_pos rfl,List.find?_eq_none.2 fun x hx=>ab8]
 rfl
theorem vI{m:aT}{l:List jG}(i:Nat)(h:i<l.length)(h1:(l[i].1==m)=true)(h2:∀j (hj:j<i),((l[j]'ab7).1==m)=false):eP 3 m l=l[i].2:=by
 unfold eP;rw[if_pos rfl,show(l.find? fun x=>x.1==m)=some l[i]from List.find?_eq_some_iff_getElem.2 ⟨h1,i,h,rfl,fun j hj=>ab8⟩]
 rfl
end Go.Bf
namespace Go.Proofs.YtfdgemhnlennbaaGreatDoor
open Go Go.Ab Go.Bf
theorem UE:(U 131).sz=3:=acr
theorem UF:(U 107).sz=2:=acr
theorem qW(l:List cA)(hl:l.length≤1000000)(m:aT)(hpd:m=bh∨m=cF)(h:Heap):ai Tryz.prog 246 [aA l,aR m] h fun r h' =>r=aA (eN l m)∧h' =h:=by
 have h9:M9 m:=by rcases hpd with rfl|rfl<;>decide
 have pe:=(nb h9).pe;have de:=(nb h9).de;have uO:=UE;obtain⟨b,b1,b2⟩:∃b,(m==bh)=b∧(m==cF)= !b:=by
  rcases hpd with rfl|rfl
  ·exact⟨true,acd,acd⟩
  ·exact⟨false,acd,acd⟩
 refine ab6 Tryz.func246 36 [.tmp 4] fun hwf=>?_
 simp only[go_sem,aA,aR,abX];refine .intro (fun q ρ H=>∃(i:Nat) (y:AV),Acc U 131 h H y ((eN (l.take i) m).map br)∧i≤l.length∧q=l.length - i∧lk ρ 1=some (.v (.complex .f64 (hbit m.1) (hbit m.2)))∧lk ρ 5=some y∧lk ρ 8=some (.sl (l.map br) .no)∧lk ρ 9=some (.i l.length)∧lk ρ 10=some (.i i)) l.length ?_ ?_
 ·refine⟨0,.sl [] .full,by simpa[eN]using Acc.full (.refl _),ab7,rfl,?_,?_,?_,?_,?_⟩<;>simp only[go_sem]
 ·rintro q ρ H ⟨i,y,hy,hi,rfl,r1,r5,r8,r9,r10⟩
  obtain⟨qy,eqy⟩:=hy.row;subst eqy;simp only[go_sem,r9,r10];refine .intro (fun e=>?_) (fun e=>?_)
  ·have hlt:i<l.length:=ab4 e
   have w1:=ab3 i ab7;have hsn:=Ia l m i hlt;have ix:=fun k=>fm.eq (xs:=l.map br) (sz:=3) i acC acq k
   rw[abY]at ix;obtain⟨o,eo⟩:∃o,l[i]=o:=⟨_,rfl⟩;rw[eo]at ix hsn;simp only[br]at ix;simp only[go_sem,r8,r10,ix];intro i7 h7;cases b
   ·cases a3:(o.on==2)
    ·cases a1:(o.on==1)
     ·simp only[go_sem,r10,a1,a3,w1]
      exact agu
     ·simp only[go_sem,r1,r10,a1,a3,b1,pe,w1]
      exact agu
    ·cases a1:(o.on==1)
     ·simp only[go_sem,r1,r5,a1,a3,b2,de]
      exact agn
     ·simp only[go_sem,r1,r5,a1,a3,b1,b2,pe,de]
      exact agn
   ·cases a1:(o.on==1)
    ·cases a3:(o.on==2)
     ·simp only[go_sem,r10,a1,a3,w1]
      exact agu
     ·simp only[go_sem,r1,r10,a1,a3,b2,de,w1]
      exact agu
    ·cases a3:(o.on==2)
     ·simp only[go_sem,r1,r5,a1,b1,pe]
      exact agn
     ·simp only[go_sem,r1,r5,a1,b1,pe]
      exact agn
  ·have hge:i=l.length:=by have:=ab0 e;omega
   subst hge;rw[List.take_length]at hy;simp only[go_sem,r5];exact .mk (aA (eN l m)) (by rw[List.take_length];exact .sl _ _) hy.1 ⟨rfl,rfl⟩
theorem tri{t:Nat}(h:t≤2):t=0∨t=1∨t=2:=ab7
theorem Ib(r:cP)(hr:r.obls.length≤1000000)(t c:Nat)(ht:t≤2)(hc:c≤2)(h:Heap):ai Tryz.prog 242 [aB r,.i t,.i c] h fun x h' =>x=rsA (mW r t c)∧h' =h:=by
 obtain⟨id,deny,tgt,cond,obls⟩:=r;simp only at hr;have hdp:=fun G=>qW obls hr bh (.inl rfl) G
 have hdd:=fun G=>qW obls hr cF (.inr rfl) G
 have hip:=fun G=>xT bh acd G
 have hid:=fun G=>xT cF acd G
 simp only[aR,bh,cF,hbit,aA]at hdp hdd hip hid;refine ab6 Tryz.func242 38 [.cell 6 107] fun hwf=>?_
 simp only[go_sem,aB];intro i3 h3;simp only[go_sem];intro i6 h6;have n63:=aH h6;have n6:=aC h6;have hs:∀x y,Ab.Sub h (upd (upd h i3 x) i6 y):=fun x y=>((Sub.refl h).put h3 x).put n6 y
 have hs2:∀x y z,Ab.Sub h (upd (upd (upd h i3 x) i6 y) i6 z):=fun x y z=>(hs x y).put n6 z
 cases deny
 ·rcases tri ht with rfl|rfl|rfl
  ·exact agW
  ·exact ahb
  ·rcases tri hc with rfl|rfl|rfl
   ·exact agW
   ·exact ahb
   ·simp only[go_sem,ak,n63.symm,aA]
    refine(hdp _).pthen ?_;simp only[go_sem];exact .mk (rsA (bh,eN obls bh)) (qH _ bh rfl _) (hs _ _) ⟨rfl,rfl⟩
 ·rcases tri ht with rfl|rfl|rfl
  ·exact agW
  ·exact ahc
  ·rcases tri hc with rfl|rfl|rfl
   ·exact agW
   ·exact ahc
   ·simp only[go_sem,ak,n63.symm,aA]
    refine(hdd _).pthen ?_;simp only[go_sem];exact .mk (rsA (cF,eN obls cF)) (qH _ cF rfl _) (hs _ _) ⟨rfl,rfl⟩
theorem Ll(gs:List bn)(t:fY):mE gs t≤2:=(sQ (zk gs) t 2).1
theorem Kq(gs:List bn)(l:List aO):qg gs l≤2:=by
 grind [qg]
theorem Ic(r:cP)(hr:DO r)(gs:List bn)(hf:rA gs)(h:Heap):ai Tryz.prog 207 [aB r,bI gs] h fun x h' =>x=rsA (gY gs r)∧h' =h:=by
 have hob:=(ko hr.2.2.2).1;have hmt:=fun G=>Lm r.tgt (BX hr.2.1) gs hf G
 have hcd:=fun G=>M4 r.cond hr.2.2.1 gs hf G
 have hef:=fun G=>Ib r ab7 (mE gs r.tgt) (qg gs r.cond) (Ll _ _) (Kq _ _) G
 simp only[aB,bI]at hmt hcd hef;refine ab6 Tryz.func207 15 [.cell 4 107] fun hwf=>?_
 simp only[go_sem,aB,bI];intro i2 h2;simp only[go_sem];intro i4 h4;have n42:=aH h4;have n4:=aC h4;obtain⟨H,eH⟩:∃H,upd (upd h i2 (some (.obj [.s r.id,.b r.deny,aV r.tgt,fu r.cond,aA r.obls] 210))) i4 (some (.obj [.v (.complex .f64 0 0),.sl [] .full] 107))=H:=⟨_,rfl⟩;have hH:Ab.Sub h H:=by rw[←eH];exact((Sub.refl h).put h2 _).put n4 _
 have g2:H i2=some (.obj [.s r.id,.b r.deny,aV r.tgt,fu r.cond,aA r.obls] 210):=afL;have g4:H i4=some (.obj [.v (.complex .f64 0 0),.sl [] .full] 107):=adB;simp only[go_sem];rw[eH];clear eH;refine .calls (hm1 i2 (.obj [.s r.id,.b r.deny,aV r.tgt,fu r.cond,aA r.obls] 210)) [0,1,2,3,5,6,7,4,8,9,10] (.hm1 g2) ace rfl ?_;simp only[go_sem,ga];refine(hmt _).pthen ?_;refine⟨.hm1 g2,?_⟩;simp only[go_sem];refine(hcd _).pthen ?_;refine⟨.hm1 g2,?_⟩;simp only[go_sem];refine(hef _).pthen ?_;refine⟨.hm1 g2,?_⟩;simp only[go_sem,rsA,aA,aR,g4];refine⟨.hm1 (by rw[ag _ _ n42.symm];exact g2),?_⟩
 exact .mk _ (.refl _) (hH.put n4 _) ⟨rfl,rfl⟩
theorem AO(l:List jG):Sized 2 (l.map rsA):=bu (f:=rsA) (fun _=>rfl) l
theorem Ff{id:Txt}{set:Bool}{alg:Int}(ha:1≤alg∧alg≤6){tgt:fY}{rules:List cP}{kids:List bH}{obls:List cA}(ho:obls.length≤1000000)(t:Nat)(ht:t=1∨t=2)(parts:List jG)(hp:∀x∈parts,M6 x.1)(hn:parts.length≤32){B:Nat}(hB:B≤10000000)(hpb:∀x∈parts,x.2.length≤B)(q:Perm)(h:Heap):
  ai Tryz.prog 208 [aM (.mk id set alg tgt rules kids obls),.i t,.sl (parts.map rsA) q] h fun r h' =>r=rsA (pH alg obls t parts)∧h' =h:=by
 have hm6:∀m∈parts.map (·.1),M6 m:=fun m hm=>by
  obtain⟨x,hx,rfl⟩:=List.mem_map.1 hm;exact hp x hx
 have hc6:M6 (gR alg (parts.map (·.1))):=Gf hm6
 have uR:=UF;have uO:=UE;have uM:=UD;have hall:=fun(p:Perm) (G:Heap)=>PZ alg ha (parts.map (·.1)) (by rw[abX];omega) hm6 p G
 simp only[jO]at hall;refine ab6 Tryz.func208 84 [.cell 6 107] fun hwf=>?_
 simp only[go_sem,aM];intro i3 h3;simp only[go_sem];intro i6 h6;have n63:=aH h6;have n6' :=aC h6;obtain⟨H0,eH⟩:∃H0,upd (upd h i3 (some (.obj [.s id,.b set,.i alg,aV tgt,.sl (rules.map aB) .no,.sl (fF kids) .no,aA obls] 61))) i6 (some (.obj [.v (.complex .f64 0 0),.sl [] .full] 107))=H0:=⟨_,rfl⟩;have hH0:Ab.Sub h H0:=ae3;have g3:H0 i3=some (.obj [.s id,.b set,.i alg,aV tgt,.sl (rules.map aB) .no,.sl (fF kids) .no,aA obls] 61):=by rw[←eH,ag _ _ n63.symm,ah]
 have g6:H0 i6=some (.obj [.v (.complex .f64 0 0),.sl [] .full] 107):=adB;simp only[go_sem,abX];rw[eH];clear eH;refine .intro (fun m ρ H=>∃(i:Nat) (y:AV),Acc U 31 H0 H y (((parts.map (·.1)).take i).map aR)∧i≤parts.length∧m=parts.length - i∧lk ρ 1=some (.i t)∧lk ρ 2=some (.sl (parts.map rsA) q)∧lk ρ 3=some (.ptr i3 0)∧lk ρ 6=some (.ptr i6 0)∧lk ρ 7=some y∧lk ρ 15=some (.sl (parts.map rsA) q)∧lk ρ 16=some (.i parts.length)∧lk ρ 17=some (.i i)) parts.length ?_ ?_
 ·refine⟨0,.sl [] .full,.full (.refl _),ab7,rfl,?_,?_,?_,?_,?_,?_,?_,?_⟩<;>simp only[go_sem]
 ·rintro m ρ H ⟨i,y,hy,hi,rfl,r1,r2,r3,r6,r7,r15,r16,r17⟩
  obtain⟨qy,eqy⟩:=hy.row;subst eqy;simp only[go_sem,r16,r17];refine .intro (fun e=>?_) (fun e=>?_)
  ·have hlt:i<parts.length:=ab4 e
   have w1:=ab3 i ab7;have hsn:((parts.map (·.1)).take (i+1)).map aR=((parts.map (·.1)).take i).map aR++ [aR parts[i].1]:=by
    rw[List.take_succ_eq_append_getElem acC,List.map_append,abY];rfl
   have ix:=fun k=>fm.eq (xs:=parts.map rsA) (sz:=2) i acC acq k
   rw[abY]at ix;obtain⟨x,ex⟩:∃x,parts[i]=x:=⟨_,rfl⟩;rw[ex]at ix hsn;simp only[rsA,aR,aA]at ix;simp only[go_sem,r15,r17,ix];intro i9 h9;simp only[go_sem,r7];refine(hy.sub (.aj h9)).app (zs:=[aR x.1]) (by rw[uM];decide) acf (fun k hk=>hk) (by rw[uM];exact bu (f:=aR) (fun _=>rfl) _) (by rw[uM];intro z hz;rw[List.mem_singleton.1 hz];rfl) acu fun y' H' hy' kp=>?_
   simp only[go_sem,r17,w1];refine⟨_,?_,i+1,y',by rw[hsn];exact hy',ab7,rfl,?_,?_,?_,?_,?_,?_,?_,?_⟩
   ·omega
   all_goals simp only[go_sem,r1,r2,r3,r6,r15,r16]
  ·have hge:i=parts.length:=by have:=ab0 e;omega
   subst hge;have htl:(parts.map (·.1)).take parts.length=parts.map (·.1):=List.take_of_length_le aci
   rw[htl]at hy;have k3:=hy.1 _ _ g3;have k6:=hy.1 _ _ g6;have hsH:=hH0.trans hy.1;have hjp:pH alg obls t parts=if t=0 then(naM,[])else if t=1 then(gI (gR alg (parts.map (·.1))),[])else if gR alg (parts.map (·.1))≠bh∧gR alg (parts.map (·.1))≠cF then(gR alg (parts.map (·.1)),[])
     else(gR alg (parts.map (·.1)),eP alg (gR alg (parts.map (·.1))) parts++eN obls (gR alg (parts.map (·.1)))):=rfl
   have hple:(eP alg (gR alg (parts.map (·.1))) parts).length≤32*B+B:=tr hpb hn
   have hal:=fun G=>hall qy G
   obtain⟨m,em⟩:∃m,gR alg (parts.map (·.1))=m:=⟨_,rfl⟩
   rw[em]at hc6 hjp hal hple;have hin:=fun G=>xT m hc6.m9 G
   have npe:=(nb hc6.m9).npe;have nde:=(nb hc6.m9).nde;simp only[aR]at hal hin;rw[htl]at r7;simp only[go_sem,r3,r7,k3];refine(hal _).pthen ?_;rcases ht with rfl|rfl
   ·simp only[go_sem,r1]
    refine(hin _).pthen ?_;simp only[go_sem,r6,k6];exact .mk (rsA (gI m,[])) (qH [] (gI m) rfl _) (hsH.put n6' _) ⟨by rw[hjp];rfl,rfl⟩
   have k6H:=k6;cases dp:(m==bh)
   case true=>
    have e1:m=bh:=by simpa using dp
    have hne:¬(m≠bh∧m≠cF):=fun hh=>hh.1 e1
    have hdu:=fun G=>qW obls ho m (.inl e1) G
    simp only[aA,aR]at hdu;simp only[go_sem,r1,npe,dp];exact agd
   case false=>
    cases dd:(m==cF)
    case true=>
     have e1:m=cF:=by simpa using dd
     have hne:¬(m≠bh∧m≠cF):=fun hh=>hh.2 e1
     have hdu:=fun G=>qW obls ho m (.inr e1) G
     simp only[aA,aR]at hdu;simp only[go_sem,r1,npe,nde,dp,dd];exact agd
    case false=>
     have e1:m≠bh:=by simpa using dp
     have e2:m≠cF:=by simpa using dd
     simp only[go_sem,r1,r6,npe,nde,dp,dd,k6];exact .mk (rsA (m,[])) (qH [] m rfl _) (hsH.put n6' _) ⟨by rw[hjp,if_neg acd,if_neg acd,if_pos ⟨e1,e2⟩],rfl⟩
theorem z6:∀(n d:Nat),d+n=5→∀(p:bH),mF d p→∀(gs:List bn),rA gs→∀(h:Heap),ai Tryz.prog 163 [aM p,bI gs] h fun r h' =>r=rsA (fE gs p)∧h' =h
 |0,d,hd,.mk id set alg tgt rules kids obls,hE,gs,hf,h=>by
  simp only[mF]at hE;omega
 |n+1,d,hd,.mk id set alg tgt rules kids obls,hE,gs,hf,h=>by
  have ih:=z6 n (d+1) ab7;simp only[mF,qu]at hE;obtain⟨_,_,ha1,ha2,_,_,hT,hO,hR,hK,hRE,hKE⟩:=hE;have hob:=(ko hO).1;have hmt:=fun G=>Lm tgt (BX hT) gs hf G
  have hev:fE gs (.mk id set alg tgt rules kids obls)=if mE gs tgt=0 then(naM,[])else pH alg obls (mE gs tgt) (rules.map (gY gs)++kids.map (fE gs)):=by simp only[fE,sO]
  have hjo:=fun(ht:mE gs tgt=1∨mE gs tgt=2) (q:Perm) (G:Heap)=>Ff (id:=id) (set:=set) (alg:=alg) ⟨ha1,ha2⟩ (tgt:=tgt) (rules:=rules) (kids:=kids) (obls:=obls) ab7 (mE gs tgt) ht (rules.map (gY gs)++kids.map (fE gs)) (fun x hx=>by
   rcases List.mem_append.1 hx with hx|hx
   ·obtain⟨r,_,rfl⟩:=List.mem_map.1 hx;exact Aa _ _ _
   ·obtain⟨r,_,rfl⟩:=List.mem_map.1 hx;exact Bw gs r) acH (B:=10000000) (Nat.le_refl _) (fun x hx=>by
   rcases List.mem_append.1 hx with hx|hx
   ·obtain⟨r,hr,rfl⟩:=List.mem_map.1 hx
    have h1:=z8 r (mE gs r.tgt) (qg gs r.cond);have h2:=(ko (hRE r hr).2.2.2).1
    show(mW r (mE gs r.tgt) (qg gs r.cond)).2.length≤_
    omega
   ·obtain⟨r,hr,rfl⟩:=List.mem_map.1 hx
    have h1:=Bv gs n (d+1) r ab7 (hKE r hr);have h2:oB n≤oB 4:=by
     have:n≤4:=ab7;rcases(show n=0∨n=1∨n=2∨n=3∨n=4 by omega)with rfl|rfl|rfl|rfl|rfl<;>decide
    exact Nat.le_trans h1 (Nat.le_trans h2 acd)) q G
  have hrl:=fun(r:cP) (hr:DO r) (G:Heap)=>Ic r hr gs hf G
  have hml:=Ll gs tgt;obtain⟨t,et⟩:∃t,mE gs tgt=t:=⟨_,rfl⟩;rw[et]at hmt hjo hev hml;simp only[aM,bI,aX,aV,aA]at hmt hjo hrl;have uR:=UF;refine ab6 Tryz.func163 50 [.cell 4 107] fun hwf=>?_
  simp only[go_sem,aM,bI,aX,aV,aA];intro i2 h2;simp only[go_sem];intro i4 h4;have n42:=aH h4;have n4' :=aC h4;obtain⟨H0,eH⟩:∃H0,upd (upd h i2 (some (.obj [.s id,.b set,.i alg,.sl (tgt.map cR) .no,.sl (rules.map aB) .no,.sl (kids.map aM) .no,.sl (obls.map br) .no] 61))) i4 (some (.obj [.v (.complex .f64 0 0),.sl [] .full] 107))=H0:=⟨_,rfl⟩;have hH0:Ab.Sub h H0:=ae2;have g2:H0 i2=some (.obj [.s id,.b set,.i alg,.sl (tgt.map cR) .no,.sl (rules.map aB) .no,.sl (kids.map aM) .no,.sl (obls.map br) .no] 61):=afL;have g4:H0 i4=some (.obj [.v (.complex .f64 0 0),.sl [] .full] 107):=adB;simp only[go_sem,ak,n42.symm];rw[eH];clear eH;refine(hmt _).pthen ?_;cases dt:((t:Int)==0)
  case true=>
   have e0:t=0:=by have:(t:Int)=0:=(by simpa using dt);omega
   simp only[go_sem,dt,g4];exact .mk (rsA (naM,[])) (qH [] naM rfl _) (hH0.put n4' _) ⟨by rw[hev,if_pos e0],rfl⟩
  have ht0:t≠0:=by rintro rfl;simp at dt
  have ht12:t=1∨t=2:=ab7;rw[if_neg ht0]at hev;simp only[go_sem,dt,g2,abX];refine .intro (fun m ρ H=>∃(i:Nat) (y:AV),Acc U 107 H0 H y (((rules.map (gY gs)).take i).map rsA)∧i≤rules.length∧m=rules.length - i∧lk ρ 1=some (.sl (gs.map kS) .no)∧lk ρ 2=some (.ptr i2 0)∧lk ρ 4=some (.ptr i4 0)∧lk ρ 5=some (.i t)∧lk ρ 6=some y∧lk ρ 19=some (.sl (rules.map aB) .no)∧lk ρ 20=some (.i rules.length)∧lk ρ 21=some (.i i)) rules.length ?_ ?_
  ·refine⟨0,.sl [] .full,.full (.refl _),ab7,rfl,?_,?_,?_,?_,?_,?_,?_,?_⟩<;>simp only[go_sem]
  ·rintro m ρ H ⟨i,y,hy,hi,rfl,r1,r2,r4,r5,r6,r19,r20,r21⟩
   obtain⟨qy,eqy⟩:=hy.row;subst eqy;simp only[go_sem,r20,r21];refine .intro (fun e=>?_) (fun e=>?_)
   ·have hlt:i<rules.length:=ab4 e
    have w1:=ab3 i ab7;have hsn:((rules.map (gY gs)).take (i+1)).map rsA=((rules.map (gY gs)).take i).map rsA++ [rsA (gY gs rules[i])]:=by
     rw[List.take_succ_eq_append_getElem acC,List.map_append,abY];rfl
    have ix:=fun k=>fm.eq (xs:=rules.map aB) (sz:=5) i acC acq k
    rw[abY]at ix;have hre:=hRE _ (ab2 hlt);obtain⟨x,ex⟩:∃x,rules[i]=x:=⟨_,rfl⟩;rw[ex]at ix hsn hre;have hr1:=hrl x hre;simp only[aB,aV,aA]at ix hr1;simp only[go_sem,r19,r21,ix];intro i8 h8;simp only[go_sem,r1,r6];refine(hr1 _).pthen ?_;simp only[go_sem,rsA,aR,aA];refine(hy.sub (.aj h8)).app (zs:=[rsA (gY gs x)]) (by rw[uR];decide) acf (fun k hk=>hk) (by rw[uR];exact AO _) aeD acu fun y' H' hy' kp=>?_
    simp only[go_sem,r21,w1];refine⟨_,?_,i+1,y',by rw[hsn];exact hy',ab7,rfl,?_,?_,?_,?_,?_,?_,?_,?_⟩
    ·omega
    all_goals simp only[go_sem,r1,r2,r4,r5,r19,r20]
   ·have hge:i=rules.length:=by have:=ab0 e;omega
    subst hge;have htl:(rules.map (gY gs)).take rules.length=rules.map (gY gs):=List.take_of_length_le aci;rw[htl]at hy r6;have k2:=hy.1 _ _ g2;simp only[go_sem,r2,k2,abX];refine .intro (fun m ρ H=>∃(i:Nat) (y:AV),Acc U 107 H0 H y ((rules.map (gY gs)++(kids.map (fE gs)).take i).map rsA)∧i≤kids.length∧m=kids.length - i∧lk ρ 1=some (.sl (gs.map kS) .no)∧lk ρ 2=some (.ptr i2 0)∧lk ρ 4=some (.ptr i4 0)∧lk ρ 5=some (.i t)∧lk ρ 6=some y∧lk ρ 33=some (.sl (kids.map aM) .no)∧lk ρ 34=some (.i kids.length)∧lk ρ 35=some (.i i)) kids.length ?_ ?_
    ·refine⟨0,_,by rw[List.take_zero,List.append_nil];exact hy,ab7,rfl,?_,?_,?_,?_,?_,?_,?_,?_⟩<;>simp only[go_sem,r1,r2,r4,r5,r6]
    ·rintro m ρ2 H2 ⟨i,y,hy,hi,rfl,s1,s2,s4,s5,s6,s33,s34,s35⟩
     obtain⟨qy,eqy⟩:=hy.row;subst eqy;simp only[go_sem,s34,s35];refine .intro (fun e=>?_) (fun e=>?_)
     ·have hlt:i<kids.length:=ab4 e
      have w1:=ab3 i ab7;have hsn:(rules.map (gY gs)++(kids.map (fE gs)).take (i+1)).map rsA=(rules.map (gY gs)++(kids.map (fE gs)).take i).map rsA++ [rsA (fE gs kids[i])]:=by
       rw[List.take_succ_eq_append_getElem acC,←List.append_assoc,List.map_append,abY];rfl
      have ix:=fun k=>fm.eq (xs:=kids.map aM) (sz:=7) i acC (by rw[abY,jr]) k
      rw[abY]at ix;have hke:=hKE _ (ab2 hlt);obtain⟨x,ex⟩:∃x,kids[i]=x:=⟨_,rfl⟩;rw[ex]at ix hsn hke;have hr1:=ih x hke gs hf;obtain⟨kid,kset,kalg,ktgt,krules,kkids,kobls⟩:=x;simp only[aM,aV,aA,bI,aX]at ix hr1;simp only[go_sem,s33,s35,ix];intro i10 h10;simp only[go_sem,s1,s6];refine(hr1 _).pthen ?_;simp only[go_sem,rsA,aR,aA];refine(hy.sub (.aj h10)).app (zs:=[rsA (fE gs (.mk kid kset kalg ktgt krules kkids kobls))]) (by rw[uR];decide) acf (fun k hk=>hk) (by rw[uR];exact AO _) aeD (by simp only[go_sem,abX,List.length_take,List.length_cons,List.length_nil,ab1];omega) fun y' H' hy' kp=>?_
      simp only[go_sem,s35,w1];refine⟨_,?_,i+1,y',by rw[hsn];exact hy',ab7,rfl,?_,?_,?_,?_,?_,?_,?_,?_⟩
      ·omega
      all_goals simp only[go_sem,s1,s2,s4,s5,s33,s34]
     ·have hge:i=kids.length:=by have:=ab0 e;omega
      subst hge;have htl:(kids.map (fE gs)).take kids.length=kids.map (fE gs):=List.take_of_length_le aci;rw[htl]at hy s6;have k2:=hy.1 _ _ g2;have k4:=hy.1 _ _ g4;have hj:=fun G=>hjo ht12 qy G
      rw[←hev]at hj;obtain⟨z,ez⟩:∃z,fE gs (.mk id set alg tgt rules kids obls)=z:=⟨_,rfl⟩;rw[ez]at hj;simp only[go_sem,s2,s5,s6,k2];refine(hj _).pthen ?_;simp only[go_sem,s4,rsA,aR,aA,k4];exact .mk (rsA z) (.refl _) ((hH0.trans hy.1).put n4' _) ⟨by rw[ez];rfl,rfl⟩
theorem CG(p:bH)(hp:gx p=0)(gs:List bn)(hf:rA gs)(h:Heap):ai Tryz.prog 104 [aM p,bI gs] h fun r h' =>r= .tup [rsA (fE gs p),.i 0]∧h' =h:=by
 have hd:=fun G=>z6 4 1 rfl p (qI hp) gs hf G
 have hr:=fun G=>tH p G
 rw[hp]at hr;obtain⟨id,set,alg,tgt,rules,kids,obls⟩:=p;refine ab6 Tryz.func104 13 [.cell 4 107,.tmp 5] fun hwf=>?_
 simp only[go_sem,aM,bI,aV,aA];intro i2 h2;simp only[go_sem];intro i4 h4;have n42:=aH h4;have n4:=aC h4;have hs:∀x y,Ab.Sub h (upd (upd h i2 x) i4 y):=fun x y=>((Sub.refl h).put h2 x).put n4 y
 simp only[go_sem,ak,n42.symm];refine(hr _).pthen ?_;simp only[go_sem,ak,n42.symm];refine(hd _).pthen ?_;simp only[go_sem,rsA,aR,aA];exact adJ
end Go.Proofs.YtfdgemhnlennbaaGreatDoor
namespace Go.Bf
open Go Go.Ab Go.Proofs.YtfdgemhnlennbaaGreatDoor
def qA:OpD:=⟨1,P4,cT,[],[],au,0,[],[],false⟩
def rep(n:Nat)(t:Txt):Txt:=(List.replicate n t).flatten
def MLe(a b:eu):Prop:=(∀x∈a.met,x∈b.met)∧a.rules≤b.rules
theorem MLe.refl(a:eu):MLe a a:=⟨fun _ h=>h,Nat.le_refl _⟩
theorem MLe.trans{a b c:eu}(h1:MLe a b)(h2:MLe b c):MLe a c:=⟨fun x h=>h2.1 x (h1.1 x h),Nat.le_trans h1.2 h2.2⟩
theorem GL{a b b' :eu}{s:Txt}(h:MLe a b)(hm:jg b s=some b'):∃a',jg a s=some a'∧MLe a' b' :=by
 unfold jg at hm⊢;split at hm
 ·rename_i hc
  cases hm;refine⟨_,if_pos ⟨fun hx=>hc.1 (h.1 s hx),hc.2⟩,fun x hx=>?_,h.2⟩
  rcases List.mem_append.1 hx with hx|hx
  ·exact List.mem_append.2 (.inl (h.1 x hx))
  grind
 grind
theorem GM{b b' :eu}{s:Txt}(hm:jg b s=some b'):MLe b b' :=by
 unfold jg at hm;split at hm
 ·cases hm;exact⟨fun x hx=>List.mem_append.2 (.inl hx),Nat.le_refl _⟩
 grind
theorem oc{e:Int}{w:Went}{m:eu}(h:need e w= .ok m):e=0∧w= .ok m:=by
 grind [need]
theorem N7{a b b' :eu}{r:cP}(h:MLe a b)(hr:gp b r= .ok b'):(∃a',gp a r= .ok a'∧MLe a' b')∧MLe b b' :=by
 unfold gp at hr⊢;cases hm:jg b r.id with
 |none=>grind
 |some m=>
  rw[hm]at hr;obtain⟨a',ha,hl⟩:=GL h hm;simp only at hr;split at hr
  ·grind
  ·obtain⟨e1,hr⟩:=oc hr
   obtain⟨e2,hr⟩:=oc hr;obtain⟨e3,hr⟩:=oc hr;cases hr;have hup:=GM hm;refine⟨⟨⟨a'.met,a'.rules+1⟩,?_,hl.1,by have:=hl.2;simp only;omega⟩,hup.1,by have:=hup.2;simp only;omega⟩
   rw[ha];have:=hl.2;simp only[e1,e2,e3,need,if_true];rw[if_neg ab7]
theorem DR:∀(l:List cP) {a b b' :eu},MLe a b→fA b l= .ok b'→(∃a',fA a l= .ok a'∧MLe a' b')∧MLe b b'
 | [],a,b,b',h,hr=>by
  cases hr;exact⟨⟨a,rfl,h⟩,.refl _⟩
 |r::l,a,b,b',h,hr=>by
  simp only[fA]at hr⊢;cases hw:gp b r with
  |bad e=>grind
  |ok m=>
   rw[hw]at hr;obtain⟨⟨a',ha,hl⟩,hu⟩:=N7 h hw;obtain⟨⟨a'',ha',hl'⟩,hu'⟩:=DR l hl hr;exact⟨⟨a'',ab8,hl'⟩,hu.trans hu'⟩
theorem Ns{a b b' :eu}{id:Txt}{set:Bool}{alg:Int}{tgt:fY}{nr nk nk' :Nat}{obls:List cA}(h:MLe a b)(hk:nk'≤nk)(hr:fj b id set alg tgt nr nk obls= .ok b'):(∃a',fj a id set alg tgt nr nk' obls= .ok a'∧MLe a' b')∧MLe b b' :=by
 unfold fj at hr⊢;cases hm:jg b id with
 |none=>rw[hm]at hr;cases hr
 |some m=>
  rw[hm]at hr;obtain⟨a',ha,hl⟩:=GL h hm;simp only at hr;split at hr
  ·cases hr
  ·rename_i h1
   split at hr
   ·cases hr
   ·rename_i h2
    obtain⟨e1,hr⟩:=oc hr;obtain⟨e2,hr⟩:=oc hr;split at hr
    ·cases hr
    ·rename_i h3
     cases hr;refine⟨⟨a',?_,hl⟩,GM hm⟩;rw[ha];have h2' :¬(set=true∧nr>0∨set=false∧(nk' >0∨alg=4)):=by
      rintro(⟨p,q⟩|⟨p,q|q⟩)
      ·exact h2 (.inl ⟨p,q⟩)
      ·exact h2 (.inr ⟨p,.inl ab7⟩)
      ·exact h2 (.inr ⟨p,.inr q⟩)
     simp only[if_neg h1,if_neg h2',e1,e2,need,if_true];rw[if_neg ab7]
theorem Dy(gs:List bn):∀l:List bH,(j3 gs l).length≤l.length
 | []=>by simp[j3]
 |k::r=>by
  have:=Dy gs r;simp only[j3];split<;>simp<;>omega
mutual
theorem DA(gs:List bn):∀(p:bH) (d:Nat) {a b b' :eu},MLe a b→kr b d p= .ok b'→(∃a',kr a d (kZ gs p)= .ok a'∧MLe a' b')∧MLe b b'
 |.mk id set alg tgt rules kids obls,d,a,b,b',h,hr=>by
  simp only[kr,kZ]at hr⊢;split at hr
  ·cases hr
  ·rename_i hd
   rw[if_neg hd];cases hh:fj b id set alg tgt rules.length kids.length obls with
   |bad e=>rw[hh]at hr;cases hr
   |ok m=>
    rw[hh]at hr;simp only at hr;obtain⟨⟨a1,ha1,hl1⟩,hu1⟩:=Ns h (Dy gs kids) hh;cases hw:fA m rules with
    |bad e=>rw[hw]at hr;cases hr
    |ok m2=>
     rw[hw]at hr;simp only at hr;obtain⟨⟨a2,ha2,hl2⟩,hu2⟩:=DR rules hl1 hw;obtain⟨⟨a3,ha3,hl3⟩,hu3⟩:=ur gs kids (d+1) hl2 hr;refine⟨⟨a3,?_,hl3⟩,(hu1.trans hu2).trans hu3⟩;rw[ha1];simp only[ha2];exact ha3
theorem ur(gs:List bn):∀(l:List bH) (d:Nat) {a b b' :eu},MLe a b→iM b d l= .ok b'→(∃a',iM a d (j3 gs l)= .ok a'∧MLe a' b')∧MLe b b'
 | [],d,a,b,b',h,hr=>by
  simp only[iM,j3]at hr⊢;cases hr;exact⟨⟨a,rfl,h⟩,.refl _⟩
 |k::r,d,a,b,b',h,hr=>by
  simp only[iM]at hr;cases hw:kr b d k with
  |bad e=>rw[hw]at hr;cases hr
  |ok m=>
   rw[hw]at hr;simp only at hr;obtain⟨⟨a1,ha1,hl1⟩,hu1⟩:=DA gs k d h hw;simp only[j3];split
   ·obtain⟨⟨a2,ha2,hl2⟩,hu2⟩:=ur gs r d hl1 hr
    refine⟨⟨a2,?_,hl2⟩,hu1.trans hu2⟩;simp only[iM,ha1];exact ha2
   ·obtain⟨⟨a2,ha2,hl2⟩,hu2⟩:=ur gs r d (h.trans hu1) hr
    exact⟨⟨a2,ha2,hl2⟩,hu1.trans hu2⟩
end
theorem FE(gs:List bn){p:bH}(h:gx p=0):gx (kZ gs p)=0:=by
 unfold gx at*;cases hw:kr ⟨[],0⟩ 1 p with
 |bad e=>
  have:=tC 4 1 _ _ e rfl hw;rw[hw]at h;exact(this h).elim
 |ok m=>
  obtain⟨⟨a,ha,_⟩,_⟩:=DA gs p 1 (.refl _) hw;rw[ha];rfl
def UN:bP:=⟨⟨0,[],false⟩,0,au⟩
def Nz(k:Option bP):AV:=match k with
 |some m=> .tup [dO m,.b true]
 |none=> .tup [dO UN,.b false]
theorem K7{x:List (List bP)}{r:fY}(h:x.length≠1):nY (x::r)=nY r:=by
 match x,h with
 | [],_=>rfl
 | [l],h=>exact(h rfl).elim
 |a::b::c,_=>rfl
theorem K6{l:List bP}{r:fY}(h:(l.find? fun m=>m.op==1 && !m.attr.must)=none):nY ([l]::r)=nY r:=by
 grind [nY]
theorem K8{l:List bP}{r:fY}{m:bP}(h:(l.find? fun m=>m.op==1 && !m.attr.must)=some m):nY ([l]::r)=some m:=by
 grind [nY]
theorem Dx(gs:List bn):∀l:List bH,j3 gs l=(l.filter (rZ gs)).map (kZ gs)
 | []=>acr
 |k::r=>by
  simp only[j3,List.filter_cons,Dx gs r]
  grind
def ixP(gs:List bn)(l:List bH)(n:Nat):List Nat:=(List.range n).filter fun j=>rZ gs (l.getD j lH)
theorem C3(gs:List bn)(l:List bH){n:Nat}(h:n<l.length):ixP gs l (n+1)=ixP gs l n++(if rZ gs l[n]=true then [n]else []):=by
 grind [ixP,List.range_succ,List.getD,List.getElem?_eq_getElem]
theorem C4(gs:List bn)(l:List bH):∀n:Nat,n≤l.length→(ixP gs l n).map (fun j=>l.getD j lH)=(l.take n).filter (rZ gs)
 |0,_=>acr
 |n+1,h=>by
  have hlt:n<l.length:=ab7;rw[C3 gs l hlt,List.map_append,C4 gs l n ab7,List.take_succ_eq_append_getElem hlt,List.filter_append,List.filter_cons]
  congr 1
  grind
theorem QK{gs:List bn}{l:List bH}{n j:Nat}(h:j∈ixP gs l n):j<n:=List.mem_range.1 (List.mem_filter.1 h).1
theorem GG(gs:List bn)(l:List bH)(n:Nat):(ixP gs l n).length≤n:=by
 grind [ixP,Nat.le_trans,List.length_filter_le]
theorem KX(gs:List bn)(l:List bH):(ixP gs l l.length).map (fun j=>kZ gs (l.getD j lH))=j3 gs l:=by
 rw[Dx,←List.take_length (l:=l),←C4 gs l l.length (Nat.le_refl _),List.map_map,List.take_length];rfl
theorem nZ(m:bP):dO m= .agg [.i m.attr.cat,.s m.attr.name,.b m.attr.must,.i m.op,.i m.val.kind,.i m.val.n,.s m.val.s]:=rfl
end Go.Bf
namespace Go.Proofs.YtfdgemhnlennbaaGreatDoor
open Go Go.Ab Go.Bf
theorem QL(t:fY)(ht:MJ t)(h:Heap):ai Tryz.prog 209 [aV t] h fun r h' =>r=Nz (nY t)∧h' =h:=by
 have htl:=ht.1;refine ab6 Tryz.func209 38 [.cell 2 265,.tmp 3] fun hwf=>?_
 simp only[go_sem,aV];intro i2 h2;simp only[go_sem,abX];have hH0:∀x,Ab.Sub h (upd h i2 x):=fun x=> .aj h2
 refine .intro (fun m ρ H=>Ab.Sub h H∧H i2=some (.obj [.i 0,.s [],.b false,.i 0,.i 0,.i 0,.s []] 265)∧∃i:Nat,i≤t.length∧m=t.length - i∧nY (t.drop i)=nY t∧lk ρ 2=some (.ptr i2 0)∧lk ρ 8=some (.sl (t.map cR) .no)∧lk ρ 9=some (.i t.length)∧lk ρ 10=some (.i i)) t.length ?_ ?_
 ·refine⟨hH0 _,ah ..,0,ab7,rfl,rfl,?_,?_,?_,?_⟩<;>simp only[go_sem]
 ·rintro m ρ H ⟨hs,k2,i,hi,rfl,hk,r2,r8,r9,r10⟩
  simp only[go_sem,r9,r10];refine .intro (fun e=>?_) (fun e=>?_)
  ·have hlt:i<t.length:=ab4 e
   have w1:IntKind.i64.wrap ((i:Int)+1)=((i+1:Nat):Int):=acn;rw[List.drop_eq_getElem_cons hlt]at hk;have hxl:=(ht.2 _ (ab2 hlt)).2;have ix:=fun k=>fm.eq (xs:=t.map cR) (sz:=1) i ab8 acq k
   rw[abY]at ix;obtain⟨x,ex⟩:∃x,t[i]=x:=⟨_,rfl⟩;rw[ex]at ix hk hxl;simp only[cR]at ix;cases d1:((x.length:Int) !=1)
   case true=>
    have hx1:x.length≠1:=ab8;rw[K7 hx1]at hk;simp only[go_sem,r8,r10,ix,abX,d1,w1];refine⟨_,?_,hs,k2,i+1,ab7,rfl,hk,?_,?_,?_,?_⟩
    ·omega
    all_goals simp only[go_sem,r2,r8,r9]
   have hx1:x.length=1:=ab8;obtain⟨l,rfl⟩:=List.length_eq_one_iff.1 hx1;have hll:=hxl l (List.mem_singleton.2 rfl);have iy:=fun k=>fm.eq (xs:=[iR l]) (sz:=1) 0 aci rfl k
   simp only[List.getElem_cons_zero,iR,Int.natCast_zero]at iy;simp only[go_sem,r8,r10,ix,abX,List.length_cons,List.length_nil,List.map_cons,List.map_nil,iR,iy];refine .intro (fun m ρ2 H2=>Ab.Sub h H2∧H2 i2=some (.obj [.i 0,.s [],.b false,.i 0,.i 0,.i 0,.s []] 265)∧∃j:Nat,j≤l.length∧m=l.length - j∧(∀k (h1:k<l.length),k<j→(l[k].op==1 && !l[k].attr.must)=false)∧lk ρ2 2=some (.ptr i2 0)∧lk ρ2 8=some (.sl (t.map cR) .no)∧lk ρ2 9=some (.i t.length)∧lk ρ2 10=some (.i i)∧lk ρ2 19=some (.sl (l.map dO) .no)∧lk ρ2 20=some (.i l.length)∧lk ρ2 21=some (.i j)) l.length ?_ ?_
   ·refine⟨hs,k2,0,ab7,rfl,fun k _ hk=>ab7,?_,?_,?_,?_,?_,?_,?_⟩<;>simp only[go_sem,r2,r8,r9,r10]
   ·rintro m ρ2 H2 ⟨hs2,k2,j,hj,rfl,hc,s2,s8,s9,s10,s19,s20,s21⟩
    simp only[go_sem,s20,s21];refine .intro (fun e=>?_) (fun e=>?_)
    ·have hlt2:j<l.length:=ab4 e
     have w2:IntKind.i64.wrap ((j:Int)+1)=((j+1:Nat):Int):=acn;have iz:=fun k=>fm.eq (xs:=l.map dO) (sz:=7) j ab8 acq k
     rw[abY]at iz;have hci:=fun(d:(l[j].op==1 && !l[j].attr.must)=false)=>(fun k (h1:k<l.length) (hk:k<j+1)=>(by
      grind:(l[k].op==1 && !l[k].attr.must)=false))
     have hat:=fun(d:(l[j].op==1 && !l[j].attr.must)=true)=>(List.find?_eq_some_iff_getElem.2 ⟨d,j,hlt2,rfl,fun k hk=>ab8⟩:(l.find? fun m=>m.op==1 && !m.attr.must)=some l[j])
     obtain⟨z,ez⟩:∃z,l[j]=z:=⟨_,rfl⟩;rw[ez]at iz hci hat;simp only[nZ]at iz;simp only[go_sem,s19,s21,iz];intro i7 h7;have n72:i7≠i2:=fun e=>ab8
     cases a1:(z.op==1)
     ·exact agO
     ·cases a2:z.attr.must
      ·have hkk:=hk.symm.trans (K8 (hat ab8))
       simp only[go_sem,s2,a1,ak,n72.symm,k2];exact .mk _ (.refl _) ((hs2.trans (.aj h7)).put h2 _) ⟨by rw[hkk];simp only[Nz,nZ,a2];rfl,rfl⟩
      ·exact agO
    ·have hge:j=l.length:=by grind
     subst hge;rw[K6 (List.find?_eq_none.2 fun z hz=>by
      obtain⟨k,hk,rfl⟩:=List.mem_iff_getElem.1 hz
      grind)]at hk
     simp only[go_sem,s10,w1];refine⟨_,?_,hs2,k2,i+1,ab7,rfl,hk,?_,?_,?_,?_⟩
     ·omega
     all_goals simp only[go_sem,s2,s8,s9]
  ·have hge:i=t.length:=by grind
   subst hge;rw[List.drop_length]at hk;simp only[go_sem,r2,k2];exact .mk _ (.refl _) (hs.put h2 _) ⟨by rw[←hk];rfl,rfl⟩
theorem I0{gs:List bn}{p:bH}(h:nY (si p)=none):rZ gs p=true:=by grind [rZ]
theorem I1{gs:List bn}{p:bH}{m:bP}(h:nY (si p)=some m):rZ gs p=decide (jP gs m≠0):=by grind [rZ]
def sZ(n:Nat):AV:=.i n
theorem LH(l:List bH)(hl:l.length≤1000)(ht:∀p∈l,MJ (si p))(gs:List bn)(hf:rA gs)(h:Heap):ai Tryz.prog 164 [.sl (l.map aM) .no,bI gs] h fun r h' =>r= .sl ((ixP gs l l.length).map sZ) .no∧h' =h:=by
 have hmt:=fun(m:bP) (G:Heap)=>Ay m gs hf G
 simp only[nZ,bI]at hmt;have uI:(U 3).sz=1:=acr;refine ab6 Tryz.func164 37 [.tmp 4] fun hwf=>?_
 simp only[go_sem,bI,abX];refine .intro (fun m ρ H=>∃(i:Nat) (y:AV),Acc U 3 h H y ((ixP gs l i).map sZ)∧i≤l.length∧m=l.length - i∧lk ρ 1=some (.sl (gs.map kS) .no)∧lk ρ 5=some y∧lk ρ 10=some (.sl (l.map aM) .no)∧lk ρ 11=some (.i l.length)∧lk ρ 12=some (.i i)) l.length ?_ ?_
 ·refine⟨0,.sl [] .full,.full (.refl _),ab7,rfl,?_,?_,?_,?_,?_⟩<;>simp only[go_sem]
 ·rintro m ρ H ⟨i,y,hy,hi,rfl,r1,r5,r10,r11,r12⟩
  obtain⟨qy,eqy⟩:=hy.row;subst eqy;simp only[go_sem,r11,r12];refine .intro (fun e=>?_) (fun e=>?_)
  ·have hlt:i<l.length:=ab4 e
   have w1:IntKind.i64.wrap ((i:Int)+1)=((i+1:Nat):Int):=acn;have hsn:=C3 gs l hlt;have hpl:=GG gs l i;have ix:=fun k=>fm.eq (xs:=l.map aM) (sz:=7) i ab8 (by rw[abY,jr]) k
   rw[abY]at ix;have hft:=ht _ (ab2 hlt);obtain⟨x,ex⟩:∃x,l[i]=x:=⟨_,rfl⟩;rw[ex]at ix hsn hft;have hky:=fun G=>QL (si x) hft G
   have mn:=fun h=>I0 (gs:=gs) (p:=x) h
   have ms:=fun m h=>I1 (gs:=gs) (p:=x) (m:=m) h
   obtain⟨kid,kset,kalg,ktgt,krules,kkids,kobls⟩:=x;simp only[si]at hky hft mn ms;simp only[aM,aV,aA,aX]at ix;simp only[aV]at hky;simp only[go_sem,r10,r12,ix];intro i7 h7;simp only[go_sem];refine(hky _).pthen ?_;have hkeep:rZ gs (.mk kid kset kalg ktgt krules kkids kobls)=true→ixP gs l (i+1)=ixP gs l i++ [i]:=fun e=>ab8
   have hdrop:rZ gs (.mk kid kset kalg ktgt krules kkids kobls)=false→ixP gs l (i+1)=ixP gs l i:=fun e=>ab8
   cases hk:nY ktgt with
   |none=>
    simp only[go_sem,Nz,nZ];intro i8 h8;simp only[go_sem,r5];exact agy
   |some m=>
    have hm2:=ms m hk;simp only[go_sem,Nz,nZ];intro i8 h8;simp only[go_sem,r1];refine(hmt m _).pthen ?_;cases dm:((jP gs m:Int) !=0)
    ·have e0:jP gs m=0:=by grind
     simp only[go_sem,r12,dm,w1];refine⟨_,?_,i+1,_,by rw[hdrop ab8];exact(hy.sub (.aj h7)).sub (.aj h8),ab7,rfl,?_,?_,?_,?_,?_⟩
     ·omega
     all_goals simp only[go_sem,r1,r5,r10,r11]
    ·have e0:jP gs m≠0:=by grind
     simp only[go_sem,r5,dm];exact agy
  ·have hge:i=l.length:=by grind
   subst hge;simp only[go_sem,r5];exact .mk _ (.sl _ _) hy.1 ⟨rfl,rfl⟩
theorem Ui{id:Txt}{set:Bool}{alg:Int}{tgt:fY}{rules:List cP}{kids:List bH}{obls:List cA}{L:List AV}(hL:L=kids.map aM)(q:Perm):Weak (.agg [.s id,.b set,.i alg,.sl (tgt.map cR) .no,.sl (rules.map aB) .no,.sl L q,.sl (obls.map br) .no]) (aM (.mk id set alg tgt rules kids obls)):=by
 subst hL;rw[aM,aX];refine .agg _ _ rfl fun i a b=>?_
 rcases i with _|_|_|_|_|_|_|i
 ·exact adu
 ·exact adu
 ·exact adu
 ·exact adu
 ·exact adu
 ·exact aeJ
 ·exact adu
 ·simp at a;omega
theorem AG:∀(n d:Nat),d+n=5→∀(p:bH),mF d p→∀(gs:List bn),rA gs→∀(h:Heap),ai Tryz.prog 105 [aM p,bI gs] h fun r h' =>r=aM (kZ gs p)∧h' =h
 |0,d,hd,.mk id set alg tgt rules kids obls,hE,gs,hf,h=>by
  simp only[mF]at hE;omega
 |n+1,d,hd,.mk id set alg tgt rules kids obls,hE,gs,hf,h=>by
  have ih:=AG n (d+1) ab7;simp only[mF,qu]at hE;obtain⟨_,_,_,_,_,_,hT,hO,hR,hK,hRE,hKE⟩:=hE;have hpk:=fun G=>LH kids ab7 (fun p hp=>by
   have h1:=hKE p hp;obtain⟨kid,kset,kalg,ktgt,krules,kkids,kobls⟩:=p;simp only[mF]at h1;exact BX h1.2.2.2.2.2.2.1) gs hf G
  have hpe:kZ gs (.mk id set alg tgt rules kids obls)= .mk id set alg tgt rules (j3 gs kids) obls:=acr;have hfull:=KX gs kids;have hIlt:∀j∈ixP gs kids kids.length,j<kids.length:=fun j hj=>QK hj
  have hIl:(ixP gs kids kids.length).length≤16:=Nat.le_trans (GG _ _ _) hK;obtain⟨I,eI⟩:∃I,ixP gs kids kids.length=I:=⟨_,rfl⟩;rw[eI]at hpk hfull hIlt hIl;simp only[bI]at hpk;have uP:(U 61).sz=7:=acr;refine ab6 Tryz.func105 31 [.cell 4 61] fun hwf=>?_
  simp only[go_sem,aM,bI,aX,aV,aA];intro i2 h2;simp only[go_sem];intro i4 h4;have n42:=aH h4;have n4' :=aC h4;obtain⟨H0,eH⟩:∃H0,upd (upd h i2 (some (.obj [.s id,.b set,.i alg,.sl (tgt.map cR) .no,.sl (rules.map aB) .no,.sl (kids.map aM) .no,.sl (obls.map br) .no] 61))) i4 (some (.obj [.s [],.b false,.i 0,.sl [] .full,.sl [] .full,.sl [] .full,.sl [] .full] 61))=H0:=⟨_,rfl⟩;have hH0:Ab.Sub h H0:=ae2;have g2:H0 i2=some (.obj [.s id,.b set,.i alg,.sl (tgt.map cR) .no,.sl (rules.map aB) .no,.sl (kids.map aM) .no,.sl (obls.map br) .no] 61):=afL;have g4:H0 i4=some (.obj [.s [],.b false,.i 0,.sl [] .full,.sl [] .full,.sl [] .full,.sl [] .full] 61):=adB;simp only[go_sem,ak,n42.symm];rw[eH];clear eH;refine(hpk _).pthen ?_;simp only[go_sem,abX];refine .intro (fun m ρ H=>∃(i:Nat) (y:AV),Acc U 61 H0 H y (((I.map fun j=>kZ gs (kids.getD j lH)).take i).map aM)∧i≤I.length∧m=I.length - i∧lk ρ 1=some (.sl (gs.map kS) .no)∧lk ρ 2=some (.ptr i2 0)∧lk ρ 4=some (.ptr i4 0)∧lk ρ 5=some y∧lk ρ 11=some (.sl (I.map sZ) .no)∧lk ρ 12=some (.i I.length)∧lk ρ 13=some (.i i)) I.length ?_ ?_
  ·refine⟨0,.sl [] .full,.full (.refl _),ab7,rfl,?_,?_,?_,?_,?_,?_,?_⟩<;>simp only[go_sem]
  ·rintro m ρ H ⟨i,y,hy,hi,rfl,r1,r2,r4,r5,r11,r12,r13⟩
   obtain⟨qy,eqy⟩:=hy.row;subst eqy;have k2:=hy.1 _ _ g2;simp only[go_sem,r12,r13];refine .intro (fun e=>?_) (fun e=>?_)
   ·have hlt:i<I.length:=ab4 e
    have w1:IntKind.i64.wrap ((i:Int)+1)=((i+1:Nat):Int):=acn;have hjlt:=hIlt _ (ab2 hlt);have hsn:((I.map fun j=>kZ gs (kids.getD j lH)).take (i+1)).map aM=((I.map fun j=>kZ gs (kids.getD j lH)).take i).map aM++ [aM (kZ gs (kids.getD I[i] lH))]:=by
     grind [List.take_succ_eq_append_getElem]
    have ix:=fun k=>fm.eq (xs:=I.map sZ) (sz:=1) i ab8 acq k
    rw[abY]at ix;obtain⟨j,ej⟩:∃j,I[i]=j:=⟨_,rfl⟩;rw[ej]at ix hsn hjlt;have iy:=fun k=>fm.eq (xs:=kids.map aM) (sz:=7) j ab8 (by rw[abY,jr]) k
    rw[abY]at iy;rw[show kids.getD j lH=kids[j] by grind]at hsn
    have hke:=hKE _ (ab2 hjlt);obtain⟨x,ex⟩:∃x,kids[j]=x:=⟨_,rfl⟩;rw[ex]at iy hsn hke;have hr1:=ih x hke gs hf;obtain⟨z,ez⟩:∃z,kZ gs x=z:=⟨_,rfl⟩;rw[ez]at hr1 hsn;obtain⟨kid,kset,kalg,ktgt,krules,kkids,kobls⟩:=x;obtain⟨zid,zset,zalg,ztgt,zrules,zkids,zobls⟩:=z;simp only[aM,aV,aA,aX,bI]at iy hr1;simp only[sZ]at ix;simp only[go_sem,r1,r2,r5,r11,r13,ix,k2,iy];refine(hr1 _).pthen ?_;simp only[go_sem];refine hy.app (zs:=[aM (.mk zid zset zalg ztgt zrules zkids zobls)]) ab7 acd (fun k hk=>show k _ from(by simpa only[aM,aV,aA,aX]using hk)) (by grind [bu,aM,jr]) (by rw[uP];intro z hz;grind [List.mem_singleton,jr]) acu fun y' H' hy' kp=>?_
    simp only[go_sem,r13,w1];refine⟨_,?_,i+1,y',ab8,ab7,rfl,?_,?_,?_,?_,?_,?_,?_⟩
    ·omega
    all_goals simp only[go_sem,r1,r2,r4,r11,r12]
   ·have hge:i=I.length:=by grind
    subst hge;have htl:(I.map fun j=>kZ gs (kids.getD j lH)).take I.length=j3 gs kids:=by grind [List.take_of_length_le]
    rw[htl]at r5 hy;have k4:=hy.1 _ _ g4;have n24:i2≠i4:=n42.symm;simp only[go_sem,r2,r4,r5,k2,ak,n42,k4];refine .mk (aM (.mk id set alg tgt rules (j3 gs kids) obls)) (Ui rfl _) (((hH0.trans hy.1).put h2 _).put n4' _) ⟨acr,rfl⟩
theorem C2(p:bH)(hp:gx p=0)(gs:List bn)(hf:rA gs)(h:Heap):ai Tryz.prog 52 [aM p,bI gs] h fun r h' =>r= .tup [rsA (fE gs p),.i 0]∧h' =h:=by
 have hpk:=fun G=>AG 4 1 rfl p (qI hp) gs hf G
 have hev:=fun G=>CG (kZ gs p) (FE gs hp) gs hf G
 have hr:=fun G=>tH p G
 rw[hp]at hr;rw[AE]at hev;obtain⟨id,set,alg,tgt,rules,kids,obls⟩:=p;refine ab6 Tryz.func52 17 [.cell 4 107,.tmp 5] fun hwf=>?_
 simp only[go_sem,aM,bI,aV,aA];intro i2 h2;simp only[go_sem];intro i4 h4;have n42:=aH h4;have n4:=aC h4;have hs:∀x y,Ab.Sub h (upd (upd h i2 x) i4 y):=fun x y=>((Sub.refl h).put h2 x).put n4 y
 simp only[go_sem,ak,n42.symm];refine(hr _).pthen ?_;simp only[go_sem,ak,n42.symm];refine(hpk _).pthen ?_;simp only[go_sem];refine(hev _).pthen ?_;simp only[go_sem,rsA,aR,aA];exact adJ
end Go.Proofs.YtfdgemhnlennbaaGreatDoor
