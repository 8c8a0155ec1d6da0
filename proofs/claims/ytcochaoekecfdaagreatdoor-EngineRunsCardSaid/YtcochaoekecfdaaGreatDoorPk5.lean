/- The law EngineRuns: pack 5 of its texts. -/
import Derived.WalkKit
import Derived.Lib.Walk
import Derived.Lib.SliceRun
import Derived.Lib.AppendZerosOnto
import Derived.Test.YtcochaoekecfdaaGreatDoorPk1
import Derived.Test.YtcochaoekecfdaaGreatDoorPk2
import Derived.Test.YtcochaoekecfdaaGreatDoorPk3
import Derived.Test.YtcochaoekecfdaaGreatDoorPk4
set_option linter.unusedSimpArgs false
set_option linter.unusedVariables false
set_option maxRecDepth 100000
namespace Go.Bf
open Go Go.Ab Go.Proofs.YtcochaoekecfdaaGreatDoor
theorem fz.eq{xs:List AV}{sz:Nat}(j:Nat)(hj:j<xs.length)(hz:xs[j].cells.length=sz)(k:AV→Prop):fz xs (j:Int) sz k=k (.pe xs[j] 0):=propext ⟨fun h=>by
 obtain⟨_,b,hb,_,hk⟩:=h;have:xs[j]? =some xs[j]:=aaz;rw[show((j:Int).toNat)=j by simp,this]at hb
 cases hb;exact hk,fun h=>fz.at j hj hz h⟩
def zh(l:List bw):Prop:=l.length≤16∧∀v∈l,bF v=true∧∀w∈l.head?,v.kind=w.kind
structure M7 (gs:List bh):Prop where
 len:gs.length≤64
 each:∀g∈gs,1≤g.cat∧g.cat≤4∧bk g.name=true∧zh g.bag
 dist:gs.Pairwise fun a b=>ig b.cat b.name a=false
def vF(g:bh):Int×Txt:=(g.cat,g.name)
theorem Jn(gs:List bh):(gs.Pairwise fun a b=>ig b.cat b.name a=false)↔(gs.map vF).Nodup:=by
 simp[List.Nodup,List.pairwise_map,bh,ig,false,vF]
theorem iN{v:bw}(h:bF v=true):zh [v]:=⟨aaz,fun w hw=>aas⟩
theorem nR{s:Txt}(h:bk s=true):bF (idV s)=true:=by grind [bF,idV]
theorem Gv{l:List gI}(h:∀r∈l,bk r.role=true)(s:Txt):zh (cR l s):=by
 have hv:∀v∈cR l s,bF v=true∧v.kind=5:=fun v hv=>by
  have:=List.mem_of_mem_take hv;obtain⟨r,hr,rfl⟩:=List.mem_map.1 this;exact⟨nR aas,rfl⟩
 refine⟨by grind [cR,List.length_take],fun v hm=>⟨(hv v hm).1,fun w hw=> ?_⟩⟩
 grind
theorem Je{c:UInt8}{i j:Nat}(h:rT c j=true)(hi:i≠0):rT c i=true:=by
 simp only[rT,Bool.or_eq_true,Bool.and_eq_true,decide_eq_true_eq]at h⊢
 grind
theorem D5{n:Txt}(h:bk n=true)(hl:n.length≤14):bk ([102,95]++n)=true:=by
 simp only[bk,Bool.and_eq_true,decide_eq_true_eq]at h⊢;obtain⟨⟨h1,h2⟩,h3⟩:=h;refine⟨⟨?_,aaz⟩,aas⟩;unfold uL at h1⊢;rw[List.all_eq_true]at h1⊢
 rintro⟨c,i⟩ hp
 rw[List.mk_mem_zipIdx_iff_getElem?]at hp
 match i,hp with
 |0,hp=>cases hp;rfl
 |1,hp=>cases hp;rfl
 |i+2,hp=>
  exact Je (h1 (c,i) (List.mk_mem_zipIdx_iff_getElem?.2 hp)) aar
theorem EX{s:Txt}(h:s∈ou):bk s=true:=by
 simp only[ou,List.mem_cons,List.not_mem_nil,or_false]at h;rcases h with rfl|rfl|rfl|rfl<;>kernel_rfl
theorem BB(k:Int)(h:1≤k∧k≤8):bk (jl k)=true:=by
 have:(List.range 9).all (fun n=>bk (jl n))=true:=aaG
 have h2:=List.all_eq_true.1 this k.toNat aas
 rwa [show((k.toNat:Nat):Int)=k by omega]at h2
theorem KX(l:List wj)(s:Txt):bF (td l s)=true:=by
 unfold td;cases l.any fun x=>x.actor==s<;>rfl
theorem GC{c:aJ}(hc:tq c)(s:Txt):∀g∈cy c s,g.cat=3∧bk g.name=true∧zh g.bag:=by
 intro g hg;simp only[cy,List.mem_append,List.mem_cons,List.not_mem_nil,or_false]at hg;rcases hg with((rfl|rfl|rfl|rfl|rfl)|hg)|hg
 ·exact⟨rfl,aaG,iN (nR hc.id)⟩
 ·exact⟨rfl,aaG,iN (nR hc.owner)⟩
 ·exact⟨rfl,aaG,iN (nR (EX hc.state))⟩
 ·exact⟨rfl,aaG,iN aaG⟩
 ·exact⟨rfl,aaG,iN (KX _ _)⟩
 ·cases hl:c.log.getLast? with
  |none=>grind
  |some x=>
   rw[hl]at hg;rw[List.mem_singleton.1 hg];exact⟨rfl,aaG,iN (nR (hc.actor x (List.mem_of_getLast? hl)).1)⟩
 ·obtain⟨f,hf,rfl⟩:=List.mem_map.1 hg
  obtain⟨hf1,hf2⟩:=List.mem_filter.1 hf;have hf2:f.name.length≤14:=aas;obtain⟨h1,h2,_⟩:=hc.field f hf1;exact⟨rfl,D5 h1 hf2,iN h2⟩
theorem GA{c:aJ}(hc:tq c)(s:Txt):((cy c s).map vF).Nodup:=by
 have hfn:(((c.fields.filter fun f=>decide (f.name.length≤14)).map fun f=>(⟨3,[102,95]++f.name,[f.val]⟩:bh)).map vF).Nodup:=by
  rw[List.map_map,List.Nodup,List.pairwise_map];refine((List.Pairwise.filter _ hc.asc).imp fun {a b} hab he=> ?_)
  simp_all [Function.comp,vF,Prod.mk.injEq,true_and,List.append_cancel_left_eq,lt_irrefl]
 have hff:∀x∈((c.fields.filter fun f=>decide (f.name.length≤14)).map fun f=>(⟨3,[102,95]++f.name,[f.val]⟩:bh)).map vF,∃t,x=(3,102::t):=by
  intro x hx;obtain⟨g,hg,rfl⟩:=List.mem_map.1 hx;obtain⟨f,hf,rfl⟩:=List.mem_map.1 hg;exact⟨_,rfl⟩
 unfold cy;rw[List.map_append,List.nodup_append];refine⟨?_,hfn, ?_⟩
 ·cases c.log.getLast? with
  |none=>simp[vF,idT]
  |some x=>simp[vF,idT]
 ·intro a ha b hb
  obtain⟨t,rfl⟩:=hff b hb;intro e;cases hl:c.log.getLast? with
  |none=>
   simp_all [vF,idT]
  |some x=>
   simp_all [vF,idT]
theorem Gu{k:Nat}{s:an}{o:OpD}(hs:cV k s)(hf:eN o=true):M7 (fl s o):=by
 have F:=sj hf;have hcs:∀g∈(if bW s.cases o.case=true∧o.kind≠6 then cy (br s.cases o.case) o.subj else []),g.cat=3∧bk g.name=true∧zh g.bag:=by
  intro g hg;split at hg
  ·rename_i ht
   exact GC (hs.case _ (o8 hs.asc ht.1).1) _ g hg
  ·cases hg
 have hcd:((if bW s.cases o.case=true∧o.kind≠6 then cy (br s.cases o.case) o.subj else []).map vF).Nodup:=by
  split
  ·rename_i ht
   exact GA (hs.case _ (o8 hs.asc ht.1).1) _
  ·exact .nil
 have hcl:(if bW s.cases o.case=true∧o.kind≠6 then cy (br s.cases o.case) o.subj else []).length≤22:=by
  split
  ·rename_i ht
   have hc:=hs.case _ (o8 hs.asc ht.1).1;have h16:=hc.nfields;have:((br s.cases o.case).fields.filter fun f=>decide (f.name.length≤14)).length≤(br s.cases o.case).fields.length:=List.length_filter_le _ _
   simp only[cy,aal,aah,List.length_cons,List.length_nil];cases (br s.cases o.case).log.getLast? <;>simp<;>omega
  ·simp
 unfold fl;generalize (if bW s.cases o.case=true∧o.kind≠6 then cy (br s.cases o.case) o.subj else [])=C at hcs hcd hcl⊢
 have e1:(if o.field= []then []else [(⟨2,[102,105,101,108,100],[idV o.field]⟩:bh)])=if o.field= []then []else [(⟨2,[102,105,101,108,100],[idV o.field]⟩:bh)]:=rfl
 have hro:zh (cR s.roles o.subj):=Gv (fun r hr=>(hs.role r hr).2) _
 have htk:bF ⟨4,s.tick,[]⟩=true:=by
  have:=hs.tick;simp[bF,this]
 have hac:=nR (BB o.kind F.kind);have hsu:=nR F.subj;refine⟨?_, ?_, ?_⟩
 ·by_cases p1:o.field= []<;>by_cases p2:o.to= []<;>simp[p1,p2]<;>omega
 ·intro g hg
  simp only[List.mem_append,List.mem_cons,List.not_mem_nil,or_false]at hg;rcases hg with((((rfl|rfl|rfl)|hg)|hg)|rfl)|hg
  ·exact⟨aaz,aaz,aav,iN hsu⟩
  ·exact⟨aaz,aaz,aav,hro⟩
  ·exact⟨aaz,aaz,aav,iN hac⟩
  ·split at hg
   ·cases hg
   ·rename_i hne
    rw[List.mem_singleton.1 hg];exact⟨aaz,aaz,aav,iN (nR (jM F.field hne))⟩
  ·split at hg
   ·cases hg
   ·rename_i hne
    rw[List.mem_singleton.1 hg];exact⟨aaz,aaz,aav,iN (nR (jM F.to hne))⟩
  ·exact⟨aaz,aaz,aav,iN htk⟩
  ·obtain⟨h1,h2,h3⟩:=hcs g hg
   exact⟨aar,aar,h2,h3⟩
 ·rw[Jn,List.map_append,List.nodup_append]
  refine⟨?_,hcd, ?_⟩
  ·by_cases p1:o.field= []<;>by_cases p2:o.to= []<;>simp[p1,p2,vF,idT]
  ·intro a ha b hb e
   subst e;obtain⟨g,hg,rfl⟩:=List.mem_map.1 hb;have h3:=(hcs g hg).1;have hne:∀x∈([⟨1,idT,[idV o.subj]⟩,⟨1,[114,111,108,101],cR s.roles o.subj⟩,⟨2,[110,97,109,101],[idV (jl o.kind)]⟩]++(if o.field= []then []else [⟨2,[102,105,101,108,100],[idV o.field]⟩])++(if o.to= []then []else [⟨2,[116,111],[idV o.to]⟩])++ [⟨4,[110,111,119],[⟨4,s.tick,[]⟩]⟩]:List bh),x.cat≠3:=by
    intro x hx;simp only[List.mem_append,List.mem_cons,List.not_mem_nil,or_false]at hx;rcases hx with(((rfl|rfl|rfl)|hx)|hx)|rfl
    ·simp
    ·simp
    ·simp
    ·split at hx
     ·cases hx
     ·rw[List.mem_singleton.1 hx];simp
    ·split at hx
     ·cases hx
     ·rw[List.mem_singleton.1 hx];simp
    ·simp
   obtain⟨x,hx,he⟩:=List.mem_map.1 ha;have:x.cat=g.cat:=congrArg Prod.fst he;exact hne x hx (by rw[this,h3])
def sL:an→List AV
 |⟨tick,cs,rv,nt,ro,.mk pid set alg tgt rules kids obls,ver⟩=>[.i tick,fM cs,jJ rv,kD nt,dM ro,.s pid,.b set,.i alg,aT tgt,.sl (rules.map aA) .no,.sl (fj kids) .no,az obls,.i ver]
theorem ur(s:an):cH s= .agg (sL s):=by
 obtain⟨tick,cs,rv,nt,ro,⟨pid,set,alg,tgt,rules,kids,obls⟩,ver⟩:=s;rfl
structure Stays (cs cs' :List aJ) (id:Txt):Prop where
 len:cs'.length≤cs.length+1
 ids:∀c∈cs,∃d∈cs',d.id=c.id
 rest:∀c∈cs,c.id≠id→c∈cs'
abbrev aR:=Nat×Nat
def naM:aR:=(0,0)
def aZ:aR:=(2,0)
def cB:aR:=(0,2)
def zN:aR:=(1,0)
def zM:aR:=(0,1)
def nS:aR:=(1,1)
def tU:List aR:=[naM,aZ,cB,zN,zM,nS]
abbrev jk:=aR×List cA
def gv(m:aR):aR:=if m=aZ then zN else if m=cB then zM else m
def ng(a b:aR):aR:=(max a.1 b.1,max a.2 b.2)
def Dp(m:aR):aR:=(m.2,m.1)
def pY(j:aR):aR:=
 if j.2=2 then cB else if j.2=1∧1≤j.1 then nS else if j.2=1 then zM else if j.1=2 then aZ else if j.1=1 then zN else naM
def vS(l:List aR):aR:=l.foldl ng naM
def firstM(l:List aR):aR:=(l.find? fun m=>decide (m≠naM)).getD naM
def yq(m:aR):Bool:=decide (m=naM∨m=aZ∨m=cB)
def nu:List aR→aR→aR
 | [],j=>j
 |m::r,j=>if yq m=false then nS else nu r (if j=naM then m else if m≠naM then nS else j)
def gE(alg:Int)(l:List aR):aR:=
 if alg=1 then pY (vS l)
 else if alg=2 then Dp (pY (Dp (vS l)))
 else if alg=3 then firstM l
 else if alg=4 then nu l naM
 else if alg=5 then(if aZ∈l then aZ else cB)
 else if alg=6 then(if cB∈l then cB else aZ)
 else naM
def wF(gs:List bh)(a:oT):List bw:=getD gs a.cat a.name
def mz(a b:bw):Option Bool:=
 if bF a=false∨bF b=false∨a.kind≠b.kind∨a.kind=1 then none
 else if a.kind=3∨a.kind=5 then some (Op.bytesLess a.s b.s)else some (decide (a.n<b.n))
def cL(m:bM)(v:bw):Option Bool:=
 if m.op=1 then(if v.kind=m.val.kind then some (eqV v m.val)else none)
 else if m.op=2 then mz v m.val else mz m.val v
def ju(gs:List bh)(m:bM):Nat:=
 if wF gs m.attr= []∧m.attr.must=true then 1
 else if(wF gs m.attr).any fun v=>cL m v==some true then 2
 else if(wF gs m.attr).any fun v=>cL m v==none then 1 else 0
def BD(gs:List bh)(l:List bM):Nat:=l.foldl (fun a m=>min a (ju gs m)) 2
def yJ(gs:List bh)(l:List (List bM)):Nat:=l.foldl (fun a x=>max a (BD gs x)) 0
def lT(gs:List bh)(t:fQ):Nat:=t.foldl (fun a x=>min a (yJ gs x)) 2
structure iX where
 bag:List bw
 v:bw
 e:Int
def eJ(b:Bool):bw:=⟨1,if b then 1 else 0,[]⟩
def iE(b:Bool):iX:=⟨[],eJ b,0⟩
def isI(x:iX)(n:Int):Bool:=x.e==0 && eqV x.v ⟨1,n,[]⟩
abbrev w64(n:Int):Int:=IntKind.i64.wrap n
def IV(a b:Int):Bool:=decide (0<b) && decide (w64 (9223372036854775807 - b)<a)||decide (b<0) && decide (a<w64 (-9223372036854775808 - b))
def KP(a b:Int):Bool:=decide (0<b) && decide (a<w64 (-9223372036854775808+b))||decide (b<0) && decide (w64 (9223372036854775807+b)<a)
def HM(a b:Int):Bool:=a== -1 && b== -9223372036854775808||b== -1 && a== -9223372036854775808||a !=0 && w64 ((w64 (a*b)).tdiv a) !=b
def mO(e:Int):bw×Int:=(ax,e)
def yT(o:Bool)(n:Int):bw×Int:=if o then mO 3 else(⟨2,w64 n,[]⟩,0)
def gC(op:Int)(l:List bw):bw×Int:=
 if¬(6≤op∧op≤13)∨l.length≠(if op=11 then 1 else 2)∨(l.all bF)=false then mO 1
 else
  let a:=l.getD 0 ax;let b:=l.getD 1 ax
  if op=6 then(if a.kind=b.kind then(eJ (eqV a b),0)else mO 2)
  else if op=7 then(match mz a b with
   |some x=>(eJ x,0)
   |none=>mO 2)
  else if op=8∨op=9∨op=10 then
   (if l.all fun v=>v.kind==2 then(if op=8 then yT (IV a.n b.n) (a.n+b.n)else if op=9 then yT (KP a.n b.n) (a.n - b.n)else yT (HM a.n b.n) (a.n*b.n))else mO 2)
  else if(l.all fun v=>v.kind==1)=false then mO 2
  else if op=11 then(eJ (a.n==0),0)
  else if op=12 then(eJ (a.n==1 && b.n==1),0)
  else(eJ (a.n==1||b.n==1),0)
def opsOf(op:Int):Nat:=if op=1∨op=2 then 0 else if op=3∨op=4∨op=11 then 1 else 2
def zf(r:bw×Int):iX:=⟨[],r.1,r.2⟩
def kC(gs:List bh)(n:aM)(l:List iX):iX:=
 if n.op=1 then⟨[],n.val,0⟩
 else if n.op=2 then(if wF gs n.attr= []∧n.attr.must=true then⟨[],ax,4⟩else⟨wF gs n.attr,ax,0⟩)
 else if(n.op=12∨n.op=13)∧(l.any fun x=>isI x (n.op - 12))=true then iE (n.op==13)
 else match l.find? fun x=>x.e !=0 with
  |some x=>⟨[],ax,x.e⟩
  |none=>
   if n.op=3 then(match (l.headD ⟨[],ax,0⟩).bag with
    | [v]=>⟨[],v,0⟩
    |_=>⟨[],ax,4⟩)
   else if n.op=4 then⟨[],⟨2,(l.headD ⟨[],ax,0⟩).bag.length,[]⟩,0⟩
   else if n.op=5 then iE ((l.headD ⟨[],ax,0⟩).bag.any fun v=>eqV v (l.getD 1 ⟨[],ax,0⟩).v)
   else zf (gC n.op (l.map (·.v)))
def yp(gs:List bh)(st:List iX)(n:aM):List iX:=st.take (st.length - opsOf n.op)++ [kC gs n (st.drop (st.length - opsOf n.op))]
def ve(gs:List bh)(l:List aM):iX:=if l= []then zf (mO 1)else(l.foldl (yp gs) []).headD (zf (mO 1))
def pq(gs:List bh)(l:List aM):Nat:=if l.isEmpty then 2 else if isI (ve gs l) 1 then 2 else if isI (ve gs l) 0 then 0 else 1
def dW(l:List cA)(m:aR):List cA:=l.filter fun o=>o.on==1 && m==aZ||o.on==2 && m==cB
def mu(r:cK)(t c:Nat):jk:=
 let m:=if r.deny then cB else aZ
 if t=0∨t=2∧c=0 then(naM,[])else if t=1∨c=1 then(gv m,[])else(m,dW r.obls m)
def gL(gs:List bh)(r:cK):jk:=mu r (lT gs r.tgt) (pq gs r.cond)
def dY(alg:Int)(m:aR)(parts:List jk):List cA:=
 if alg=3 then((parts.find? fun x=>x.1==m).map (·.2)).getD []else((parts.filter fun x=>x.1==m).map (·.2)).flatten
def oJ(alg:Int)(obls:List cA)(t:Nat)(parts:List jk):jk:=
 let m:=gE alg (parts.map (·.1))
 if t=0 then(naM,[])else if t=1 then(gv m,[])else if m≠aZ∧m≠cB then(m,[])
 else(m,dY alg m parts++dW obls m)
mutual
def fh(gs:List bh):bG→jk
 |.mk id set alg tgt rules kids obls=>if lT gs tgt=0 then(naM,[])else oJ alg obls (lT gs tgt) (rules.map (gL gs)++lN gs kids)
def lN(gs:List bh):List bG→List jk
 | []=>[]
 |k::r=>fh gs k::lN gs r
end
theorem sd(gs:List bh):∀l:List bG,lN gs l=l.map (fh gs)
 | []=>aaG
 |k::r=>by simp[lN,sd gs r]
def rH:bG→fQ
 |.mk _ _ _ t _ _ _=>t
def nh:fQ→Option bM
 | []=>none
 | [l]::r=>match l.find? fun m=>m.op==1 && !m.attr.must with
  |some m=>some m
  |none=>nh r
 |_::r=>nh r
def rE(gs:List bh)(p:bG):Bool:=match nh (rH p)with
 |none=>true
 |some m=>decide (ju gs m≠0)
mutual
def kE(gs:List bh):bG→bG
 |.mk id set alg tgt rules kids obls=> .mk id set alg tgt rules (jI gs kids) obls
def jI(gs:List bh):List bG→List bG
 | []=>[]
 |k::r=>if rE gs k then kE gs k::jI gs r else jI gs r
end
end Go.Bf
namespace Go.Bf
open Go Go.Ab
def uz:Nat→Nat→Txt
 |0,_=>[]
 |f+1,u=>if u<128 then [UInt8.ofNat u]else UInt8.ofNat (u % 128+128)::uz f (u / 128)
def zig(n:Int):Nat:=if 0≤n then 2*n.toNat else 2*(-n).toNat - 1
def nX(n:Int):Txt:=uz 10 (zig n)
def fk(s:Txt):Txt:=nX s.length++s
def yA(v:bw):Txt:=nX v.kind++(if v.kind=3∨v.kind=5 then fk v.s else nX v.n)
def uj(o:OpD):Txt:=nX o.kind++(fk o.subj++(fk o.case++(fk o.field++(fk o.to++(yA o.val++(nX o.review++(fk o.text++(fk o.reason++yA (eJ o.glass)))))))))
theorem P9{n:Int}(h:i64 n):zig n<128 ^ 10:=by
 grind [i64,zig,Nat]
structure Uu (v:bw):Prop where
 kind:i64 v.kind
 n:i64 v.n
 s:v.s.length≤1000000
 one:(v.kind=3∨v.kind=5→v.n=0)∧(¬(v.kind=3∨v.kind=5)→v.s= [])
structure OpC (o:OpD):Prop where
 kind:i64 o.kind
 subj:o.subj.length≤1000000
 case:o.case.length≤1000000
 field:o.field.length≤1000000
 to:o.to.length≤1000000
 val:Uu o.val
 review:i64 o.review
 text:o.text.length≤1000000
 reason:o.reason.length≤1000000
structure RS where
 b:Txt
 at_:Nat
 bad:Bool
def unzig(u:Nat):Int:=if u % 2=1 then -((u / 2:Nat):Int) - 1 else((u / 2:Nat):Int)
def uk:Nat→Nat→Nat→Txt→Int×Nat
 |0,_,_,_=>(0,0)
 |_+1,_,_,[]=>(0,0)
 |f+1,i,u,c::r=>
  if(i=9∧1<c.toNat)∨(0<i∧c.toNat=0)then(0,0)
  else if c.toNat<128 then(unzig (u+c.toNat*128 ^ i),i+1)
  else uk f (i+1) (u+c.toNat % 128*128 ^ i) r
def kW(s:RS)(a:Nat):RS:=if s.bad=false∧a≤s.at_ then {s with at_:=a,bad:=true} else s
def rIn(s:RS)(lo hi:Int):Int×RS:=
 if s.bad then(0,s)else
 let x:=uk 10 0 0 (s.b.drop s.at_)
 if x.2=0∨x.1<lo∨hi<x.1 then(0,kW s s.at_)else(x.1,{s with at_:=s.at_+x.2})
def fX(s:RS):Int×RS:=rIn s (-9223372036854775808) 9223372036854775807
def bT(s:RS)(most:Int):Txt×RS:=
 let x:=rIn s 0 most
 if x.2.bad∨(x.2.b.length:Int) - x.2.at_<x.1 then([],kW x.2 s.at_)else((x.2.b.drop x.2.at_).take x.1.toNat,{x.2 with at_:=x.2.at_+x.1.toNat})
def sv(k:Int):Bool:=k==3||k==5
def qO(s:RS):bw×RS:=
 let x:=rIn s 1 5
 let y:bw×RS:=if sv x.1 then(let t:=bT x.2 64;(⟨x.1,0,t.1⟩,t.2))else(let t:=fX x.2;(⟨x.1,t.1,[]⟩,t.2))
 if y.2.bad then(ax,y.2)else if bF y.1=false then(ax,kW y.2 s.at_)else y
def qN(s:RS):bw×RS:=
 if s.at_<s.b.length∧s.b.getD s.at_ 0=0 then(ax,(rIn (rIn s 0 0).2 0 0).2)else qO s
def rOp(b:Txt):OpD×RS:=
 let k:=fX ⟨b,0,false⟩
 let s1:=bT k.2 16
 let s2:=bT s1.2 16
 let s3:=bT s2.2 16
 let s4:=bT s3.2 16
 let v:=qN s4.2
 let r:=fX v.2
 let t:=bT r.2 4096
 let w:=bT t.2 64
 let g:=qO w.2
 (⟨k.1,s1.1,s2.1,s3.1,s4.1,v.1,r.1,t.1,w.1,eqV g.1 (eJ true)⟩,g.2)
def Ku(s:RS):Bool:=decide (s.b.length≤s.at_) && !s.bad
def oR(b:Txt):Option OpD:=if Ku (rOp b).2 && eN (rOp b).1 && decide (uj (rOp b).1=b)then some (rOp b).1 else none
theorem Ll{n:Int}(h:i64 n):zig n<18446744073709551616:=by
 grind [i64,zig]
theorem MZ:∀(f v:Nat),0<f→uz f v≠ []
 |0,_,h=>aar
 |f+1,v,_=>by grind [uz]
end Go.Bf
namespace Go.Bf
open Go Go.Ab Go.Proofs.YtcochaoekecfdaaGreatDoor
theorem Aq{v:bw}(h:bF v=true)(hk:v.kind=3∨v.kind=5):v.n=0∧v.s.length≤64:=by
 unfold bF at h;rcases hk with e|e
 ·grind
 ·rw[if_neg aar,if_neg aar,if_neg aar,if_neg aar,if_pos e]at h
  simp only[bk,Bool.and_eq_true,beq_iff_eq,decide_eq_true_eq]at h;omega
theorem IB{v:bw}(h:bF v=true)(hk:¬(v.kind=3∨v.kind=5)):v.s= []:=by
 unfold bF at h
 grind
theorem tE{t:Txt}(h:iC t=true):t.length≤16:=by
 unfold iC at h;simp only[Bool.or_eq_true,beq_iff_eq]at h;rcases h with rfl|h
 ·simp
 simp_all [bk,Bool.and_eq_true,decide_eq_true_eq]
structure OpF (o:OpD):Prop where
 subj:o.subj.length≤16
 case:o.case.length≤16
 field:o.field.length≤16
 to:o.to.length≤16
 val:o.val=ax∨bF o.val=true
 text:o.text.length≤4096
 reason:o.reason.length≤64
theorem tI{o:OpD}(h:eN o=true):OpF o:=by
 simp only[eN,Bool.and_eq_true,decide_eq_true_eq]at h;obtain⟨⟨⟨⟨⟨⟨⟨h1,h2⟩,h3⟩,h4⟩,h5⟩,h6⟩,h7⟩,h8⟩:=h;simp only[bk,Bool.and_eq_true,decide_eq_true_eq]at h1;refine⟨h1.2,tE h4,tE h5,tE h6, ?_,h3, ?_⟩
 ·simp only[Bool.or_eq_true]at h7
  rcases h7 with h7|h7
  ·left
   generalize o.val=v at h7;obtain⟨k,n,s⟩:=v;simp only[eqV,ax,Bool.and_eq_true,beq_iff_eq]at h7;obtain⟨rfl,rfl,rfl⟩:=h7;rfl
  grind
 ·unfold lg at h2
  grind
theorem KY(b:Bool):bF (eJ b)=true:=by cases b<;>rfl
theorem get_some{b:Txt}{o:OpD}(h:oR b=some o):eN o=true∧uj o=b:=by
 unfold oR at h
 grind
theorem si{α:Type}(f:α→Nat):∀(l:List α) (a:Nat),l.foldl (fun a x=>min a (f x)) a≤a∧∀x∈l,l.foldl (fun a x=>min a (f x)) a≤f x
 | [],a=>aaz
 |y::l,a=>by
  obtain⟨h1,h2⟩:=si f l (min a (f y))
  grind
theorem Md{gs:List bh}:∀ {t:fQ} {m:bM},nh t=some m→ju gs m=0→lT gs t=0:=by
 intro t;have main:∀(t:fQ) (m:bM),nh t=some m→ju gs m=0→∃x∈t,yJ gs x=0:=by
  intro t
  induction t with
  |nil=>intro m h;cases h
  |cons x r ih=>
   intro m h h0
   match x,h with
   | [],h=>obtain⟨y,hy,e⟩:=ih m h h0;exact⟨y,List.mem_cons_of_mem _ hy,e⟩
   | [l],h=>
    simp only[nh]at h;cases hf:l.find? fun m=>m.op==1 && !m.attr.must with
    |none=>rw[hf]at h;obtain⟨y,hy,e⟩:=ih m h h0;exact⟨y,List.mem_cons_of_mem _ hy,e⟩
    |some k=>
     rw[hf]at h;cases h;have hm:=List.mem_of_find?_eq_some hf;have hall:BD gs l=0:=by
      have:=(si (ju gs) l 2).2 _ hm;rw[h0]at this;exact Nat.le_zero.1 this
     exact⟨[l],List.mem_cons_self ..,by grind [yJ]⟩
   |a::b::c,h=>obtain⟨y,hy,e⟩:=ih m h h0;exact⟨y,List.mem_cons_of_mem _ hy,e⟩
 intro m h h0;obtain⟨x,hx,e⟩:=main t m h h0;have:=(si (yJ gs) t 2).2 x hx;rw[e]at this;exact Nat.le_zero.1 this
theorem Mq{gs:List bh}{p:bG}(h:rE gs p=false):fh gs p=(naM,[]):=by
 obtain⟨id,set,alg,tgt,rules,kids,obls⟩:=p;unfold rE at h;simp only[rH]at h;cases hk:nh tgt with
 |none=>grind
 |some m=>
  simp_all [ju,fh,Md,if_true]
theorem Ma(j:aR):ng j naM=j:=by simp[ng,naM]
inductive Drop:List jk→List jk→Prop
 |nil:Drop [] []
 |keep (x:jk) {a b:List jk} (h:Drop a b):Drop (x::a) (x::b)
 |skip {a b:List jk} (h:Drop a b):Drop a ((naM,[])::b)
theorem Drop.app{a b c:List jk}(h:Drop a b):Drop (c++a) (c++b):=by
 induction c with
 |nil=>exact h
 |cons x c ih=>grind [keep]
theorem Drop.join{a b:List jk}(h:Drop a b):∀j,(a.map (·.1)).foldl ng j=(b.map (·.1)).foldl ng j:=by
 induction h with
 |nil=>simp
 |keep x h ih=>grind
 |skip h ih=>grind [Ma]
theorem Drop.first{a b:List jk}(h:Drop a b):firstM (a.map (·.1))=firstM (b.map (·.1)):=by
 unfold firstM
 congr 1
 induction h with
 |nil=>rfl
 |keep x h ih=>grind
 |skip h ih=>simpa using ih
theorem Drop.only{a b:List jk}(h:Drop a b):∀j,nu (a.map (·.1)) j=nu (b.map (·.1)) j:=by
 induction h with
 |nil=>simp
 |keep x h ih=>grind [nu]
 |skip h ih=>
  intro j;have hs:yq naM=true:=aau;simp only[List.map_cons,nu,hs,Bool.true_eq_false,if_false];rw[←ih]
  congr 1
  simp
theorem Drop.mem{a b:List jk}(h:Drop a b){m:aR}(hm:m≠naM):m∈a.map (·.1)↔m∈b.map (·.1):=by
 exact afs
theorem Drop.comb{a b:List jk}(h:Drop a b)(alg:Int):gE alg (a.map (·.1))=gE alg (b.map (·.1)):=by
 unfold gE vS;rw[h.join,h.first,h.only];simp only[h.mem (show aZ≠naM by decide),h.mem (show cB≠naM by decide)]
theorem Drop.parts{a b:List jk}(h:Drop a b)(alg:Int){m:aR}(hm:m≠naM):dY alg m a=dY alg m b:=by
 have h1:(a.find? fun x=>x.1==m)=b.find? fun x=>x.1==m:=by
  exact afs
 have h2:(a.filter fun x=>x.1==m)=b.filter fun x=>x.1==m:=by
  clear h1;exact afs
 simp only[dY,h1,h2]
theorem Drop.oJ{a b:List jk}(h:Drop a b)(alg:Int)(obls:List cA)(t:Nat):oJ alg obls t a=oJ alg obls t b:=by
 unfold Go.Bf.oJ;simp only[h.comb alg]
 by_cases hp:gE alg (b.map (·.1))=aZ
 ·rw[hp,h.parts alg aau]
 ·by_cases hd:gE alg (b.map (·.1))=cB
  ·rw[hd,h.parts alg aau]
  grind
mutual
theorem zW(gs:List bh):∀p:bG,fh gs (kE gs p)=fh gs p
 |.mk id set alg tgt rules kids obls=>by
  simp only[kE,fh]
  by_cases h:lT gs tgt=0
  ·simp only[h,if_true]
  ·simp only[h,if_false]
   exact(zX gs kids).app.oJ alg obls _
theorem zX(gs:List bh):∀l:List bG,Drop (lN gs (jI gs l)) (lN gs l)
 | []=>by simp only[jI,lN];exact .nil
 |k::r=>by
  have ih1:=zW gs k;have ih2:=zX gs r;simp only[jI,lN]
  by_cases h:rE gs k=true
  ·simp only[h,if_true,lN,ih1]
   exact .keep _ ih2
  ·have h:rE gs k=false:=by simpa using h
   simp only[h,Bool.false_eq_true,if_false,Mq h];exact .skip ih2
end
structure kO where
 err:Int
 mark:aR
 glass:Bool
 val:bw
 hidden:Bool
 at_:Int
structure oU where
 op:OpD
 version:Int
 mark:aR
 glass:Bool
 obls:List cA
def M3:OpD:=⟨0,[],[],[],[],ax,0,[],[],false⟩
def wh:oU:=⟨M3,0,naM,false,[]⟩
def A2:Txt:=[103,108,97,115,115]
def pZ(s:an)(r:oV):Bool:=r.isOpen && decide (100≤s.tick - r.tick)
def JU(s:an)(subj:Txt):Bool:=s.reviews.any fun r=>r.subj==subj && pZ s r
def rS(s:an)(o:OpD)(m:aR):Bool:=o.glass && (m==cB||m==naM) && xk s.roles ⟨o.subj,A2⟩ && !JU s o.subj
def Af(s:an)(o:OpD)(reason:Txt):oV:=⟨(s.reviews.length:Int)+1,s.tick,o.subj,o.case,jl o.kind,reason,true⟩
def bZ(s:an)(o:OpD)(reason:Txt):an:={s with reviews:=s.reviews++ [Af s o reason]}
def jr(l:List cA)(field:Txt):Bool:=l.any fun x=>x.kind==2 && x.arg==field
def ia(cs:List aJ)(id:Txt):Nat:=cs.findIdx fun c=>c.id==id
def iq(s:an)(o:OpD)(what:Txt):an:=
 if ia s.cases o.case<s.cases.length∧o.kind≠6 then {s with cases:=s.cases.modify (ia s.cases o.case) fun c=>iP s c o.subj what} else s
def fc(o:OpD)(done:Bool)(s:an)(x:cA):an:=
 if x.kind=1∧done=true then iq s o x.arg
 else if x.kind=3 then bZ s o x.arg
 else if x.kind=4 then {s with notices:=s.notices++ [⟨s.tick,o.case,x.arg⟩]}
 else s
def cX(s:an)(o:OpD)(l:List cA)(done:Bool):an:=l.foldl (fc o done) s
def qV(s:an):Bool:=decide (256<s.reviews.length)||decide (256<s.notices.length)||s.cases.any fun c=>decide (256<c.log.length)
def gw(s:an)(o:OpD):jk:=fh (fl s o) s.policy
def jE(s:an)(o:OpD):Int×Int:=if bI s o=0∧o.kind=7 then((aO o.text).2.1,(aO o.text).2.2)else(bI s o,0)
def fm(s:an)(o:OpD):Bool:=rS s o (gw s o).1
def rU(s:an)(o:OpD):Bool:=decide ((gw s o).1=aZ)||fm s o
def cQ(s:an)(o:OpD):an:=
 let s1:=if fm s o then bZ s o o.reason else s
 cX (if rU s o then dI aO s1 o else s1) o (gw s o).2 (rU s o)
def om(s:an)(o:OpD):kO:=
 ⟨if rU s o then 0 else 12,(gw s o).1,fm s o,if rU s o && o.kind==2 && !jr (gw s o).2 o.field then dX (br s.cases o.case).fields o.field else ax,rU s o && o.kind==2 && jr (gw s o).2 o.field,0⟩
def bt(s:an)(o:OpD):an×kO×oU×Int:=
 if(jE s o).1≠0 then(s,⟨(jE s o).1,naM,false,ax,false,(jE s o).2⟩,wh,(jE s o).1)
 else if qV (cQ s o)then(s,⟨6,naM,false,ax,false,0⟩,wh,6)
 else(cQ s o,om s o,⟨o,s.version,(gw s o).1,fm s o,(gw s o).2⟩,0)
theorem xD(s:an)(o:OpD)(w:Txt):(iq s o w).tick=s.tick∧(iq s o w).roles=s.roles∧(iq s o w).policy=s.policy∧(iq s o w).version=s.version∧(iq s o w).reviews=s.reviews∧(iq s o w).notices=s.notices:=by
 grind [iq]
theorem BY(o:OpD)(done:Bool)(s:an)(x:cA):(fc o done s x).tick=s.tick∧(fc o done s x).roles=s.roles∧(fc o done s x).policy=s.policy∧(fc o done s x).version=s.version:=by
 unfold fc;split
 ·grind [xD]
 ·split
  ·exact⟨rfl,rfl,rfl,rfl⟩
  grind
theorem DV(o:OpD)(done:Bool):∀(l:List cA) (s:an),(cX s o l done).tick=s.tick∧(cX s o l done).roles=s.roles∧(cX s o l done).policy=s.policy∧(cX s o l done).version=s.version
 | [],s=>⟨rfl,rfl,rfl,rfl⟩
 |x::l,s=>by
  obtain⟨a1,a2,a3,a4⟩:=BY o done s x;obtain⟨b1,b2,b3,b4⟩:=DV o done l (fc o done s x);exact⟨b1.trans a1,b2.trans a2,b3.trans a3,b4.trans a4⟩
def gu(o:OpD)(a b:List oV):Prop:=∃c,b=a++c∧∀i (h:i<c.length),c[i].id=((a.length+i+1:Nat):Int)∧c[i].isOpen=true∧c[i].subj=o.subj
theorem gu.refl(o:OpD)(a:List oV):gu o a a:=⟨[],aaz,fun i h=>abt⟩
theorem gu.trans{o:OpD}{a b c:List oV}(h1:gu o a b)(h2:gu o b c):gu o a c:=by
 obtain⟨x,rfl,hx⟩:=h1;obtain⟨y,rfl,hy⟩:=h2;refine⟨x++y,aaz,fun i h=> ?_⟩
 grind
theorem gu.open(s:an)(o:OpD)(w:Txt):gu o s.reviews (bZ s o w).reviews:=⟨[Af s o w],rfl,fun i h=>by
 have:i=0:=aas;subst this;exact⟨aaG,rfl,rfl⟩⟩
theorem gu.duties(o:OpD)(done:Bool):∀(l:List cA) (s:an),gu o s.reviews (cX s o l done).reviews
 | [],s=> .refl o _
 |x::l,s=>by
  have:gu o s.reviews (fc o done s x).reviews:=by
   unfold fc;split
   ·grind [xD,refl]
   ·split
    ·exact .open s o _
    grind [refl]
  exact this.trans (gu.duties o done l _)
structure E9 (c:aJ):Prop where
 id:bk c.id=true
 owner:bk c.owner=true
 state:c.state∈ou
 asc:Dx c.fields
 nfields:c.fields.length≤16
 field:∀f∈c.fields,bk f.name=true∧bF f.val=true∧eqV f.val ax=false
 log1:1≤c.log.length
 actor:∀x∈c.log,bk x.actor=true∧i64 x.tick
theorem tq.w{c:aJ}(h:tq c):E9 c:=⟨h.id,h.owner,h.state,h.asc,h.nfields,h.field,h.log1,h.actor⟩
theorem E9.ok{c:aJ}(h:E9 c)(hl:c.log.length≤256):tq c:=⟨h.id,h.owner,h.state,h.asc,h.nfields,h.field,h.log1,hl,h.actor⟩
structure kP (k:Nat) (s:an):Prop where
 tick:0≤s.tick∧s.tick≤1099511627776
 asc:Asc s.cases
 ncases:s.cases.length≤64
 case:∀c∈s.cases,E9 c
 roles:s.roles.length≤64
 role:∀r∈s.roles,bk r.subj=true∧bk r.role=true
 pol:fY s.policy=0
 ver:0≤s.version∧s.version≤k
theorem cV.w{k:Nat}{s:an}(h:cV k s):kP k s:=⟨h.tick,h.asc,h.ncases,fun c hc=>(h.case c hc).w,h.roles,h.role,h.pol,h.ver⟩
theorem kP.ok{k:Nat}{s:an}(h:kP k s)(ho:qV s=false):cV k s:=by
 unfold qV at ho;simp only[Bool.or_eq_false_iff,decide_eq_false_iff_not]at ho;refine⟨h.tick,h.asc,h.ncases,fun c hc=>(h.case c hc).ok ?_,aar,aar,h.roles,h.role,h.pol,h.ver⟩
 grind
theorem E0{k:Nat}{s:an}(o:OpD)(w:Txt)(h:kP k s):kP k (bZ s o w):={h with}
theorem EZ{k:Nat}{s:an}{o:OpD}(hn:bk o.subj=true)(w:Txt)(h:kP k s):kP k (iq s o w):=by
 unfold iq;split
 ·refine {h with asc:=AO (jO fun x=>rfl) h.asc,ncases:=by simpa using h.ncases,case:= ?_}
  intro d hd;rcases mem_modify hd with hd|⟨hi,rfl⟩
  ·exact h.case d hd
  ·have hc:=h.case _ (aam hi)
   refine⟨hc.id,hc.owner,hc.state,hc.asc,hc.nfields,hc.field,aev, ?_⟩;intro x hx;simp only[iP,List.mem_append,List.mem_singleton]at hx;rcases hx with hx|rfl
   ·exact hc.actor x hx
   ·exact⟨hn,by have:=h.tick;constructor<;>simp only<;>omega⟩
 omega
theorem EY{k:Nat}{o:OpD}(hn:bk o.subj=true)(done:Bool){s:an}(x:cA)(h:kP k s):kP k (fc o done s x):=by
 unfold fc;split
 ·grind [EZ]
 ·split
  ·grind [E0]
  ·split
   ·exact {h with}
   omega
theorem sX{k:Nat}{o:OpD}(hn:bk o.subj=true)(done:Bool):∀(l:List cA) {s:an},kP k s→kP k (cX s o l done)
 | [],s,h=>h
 |x::l,s,h=>sX hn done l (EY hn done x h)
theorem Bd{k:Nat}{s:an}(o:OpD)(w:Txt)(h:cV k s)(hr:s.reviews.length≤999):cV k (bZ s o w):={h with nrev:=by grind [bZ]}
structure jU (k:Nat) (s:an):Prop extends cV k s where
 ids:∀i (h:i<s.reviews.length),s.reviews[i].id=((i+1:Nat):Int)
 nr:s.reviews.length≤256
 nn:s.notices.length≤256
theorem Ht:jU 0 vH:={Ir with ids:=fun i h=>abt,nr:=aau,nn:=aau}
theorem sR{s:an}{o:OpD}(h:(jE s o).1=0):bI s o=0∧eN o=true∧(o.kind=7→(aO o.text).2.1=0):=by
 unfold jE at h;have hr:bI s o=0:=by
  grind
 have hf:eN o=true:=by
  unfold bI at hr
  grind
 exact⟨hr,hf,fun hk=>aas⟩
theorem I7{k:Nat}{s:an}{o:OpD}(h:jU k s)(hp:(jE s o).1=0):kP (k+1) (cQ s o):=by
 have hn:=(sj (sR hp).2.1).subj;have h1:cV k (if fm s o then bZ s o o.reason else s):=by
  split
  ·exact Bd o _ h.tocV (by have:=h.nr;omega)
  ·exact h.tocV
 refine sX hn _ _ ?_;split
 ·exact(ov o h1).w
 ·have:=h1.w
  exact {this with ver:=⟨this.ver.1,by have:=this.ver.2;omega⟩}
def shut(r:oV):oV:={r with isOpen:=false}
theorem tD(par:Txt→bG×Int×Int)(s:an)(o:OpD):(dI par s o).reviews=if bI s o=0∧o.kind=5 then s.reviews.modify (o.review - 1).toNat shut else s.reviews:=by
 unfold dI
 by_cases hr:bI s o=0
 ·rw[if_pos hr]
  unfold doD
  by_cases k1:o.kind=1
  ·grind
  ·by_cases k3:o.kind=3
   ·grind
   ·by_cases k4:o.kind=4
    ·grind
    ·by_cases k5:o.kind=5
     ·simp[k5,hr];rfl
     grind
 grind
theorem xe{o:OpD}(h:eN o=true)(hg:o.glass=true):1≤o.kind∧o.kind≤4:=by
 simp_all [eN,Bool.and_eq_true,lg,if_true,tZ,decide_eq_true_eq]
theorem Cc{s:an}{o:OpD}(h:fm s o=true):o.glass=true:=by
 simp_all [fm,rS,Bool.and_eq_true]
structure Dz (s:an) (o:OpD) (t:an) (r:kO) (e:Int):Prop where
 len:s.reviews.length≤t.reviews.length
 old:∀i (h:i<s.reviews.length) (h' :i<t.reviews.length),(e=0∧r.err=0∧o.kind=5∧o.review=((i+1:Nat):Int)→o.subj≠s.reviews[i].subj∧s.reviews[i].isOpen=true∧t.reviews[i].isOpen=false∧t.reviews[i].id=s.reviews[i].id)∧
  (¬(e=0∧r.err=0∧o.kind=5∧o.review=((i+1:Nat):Int))→t.reviews[i]=s.reviews[i])
 new:∀i (h:i<t.reviews.length),s.reviews.length≤i→t.reviews[i].id=((i+1:Nat):Int)∧t.reviews[i].isOpen=true∧t.reviews[i].subj=o.subj
 glass:r.glass=true→∃h:s.reviews.length<t.reviews.length,t.reviews[s.reviews.length].reason=o.reason
theorem Dz.same(s:an)(o:OpD)(e:Int)(r:kO)(he:e≠0)(hg:r.glass=false):Dz s o s r e:=
 ⟨Nat.le_refl _,fun i h h' =>⟨fun hc=>(he hc.1).elim,fun _=>rfl⟩,fun i h h' =>aar,fun h=>aas⟩
theorem FV{o:OpD}{a b:List oV}(h:gu o a b):a.length≤b.length∧(∀i (h1:i<a.length) (h2:i<b.length),b[i]=a[i])∧∀i (h1:i<b.length),a.length≤i→b[i].id=((i+1:Nat):Int)∧b[i].isOpen=true∧b[i].subj=o.subj:=by
 obtain⟨c,rfl,hc⟩:=h;refine⟨aaz,fun i h1 h2=>aas,fun i h1 h2=> ?_⟩
 grind
theorem BQ{s:an}{o:OpD}(hr:bI s o=0)(hf:eN o=true)(hk:o.kind=5):1≤o.review∧∃h:(o.review - 1).toNat<s.reviews.length,s.reviews[(o.review - 1).toNat].isOpen=true∧s.reviews[(o.review - 1).toNat].subj≠o.subj:=by
 have F:=sj hf;have hok:=F.ok;unfold okD at hok;simp only[hk,show¬(5:Int)=1 by decide,show¬((5:Int)=2∨(5:Int)=6) by decide,show¬(5:Int)=3 by decide,show¬(5:Int)=4 by decide,if_false,if_true,decide_eq_true_eq]at hok
 unfold bI at hr;simp only[hk,Bool.true_eq_false,show¬(5:Int)=1 by decide,show¬(2≤(5:Int)∧(5:Int)≤4) by decide,if_false,if_true]at hr
 unfold fD vm at hr;rw[if_pos (by omega:1≤o.review)]at hr
 refine⟨aar, ?_⟩;cases hx:s.reviews[(o.review - 1).toNat]? with
 |none=>simp_all
 |some r=>
  rw[hx]at hr;obtain⟨h,rfl⟩:=List.getElem?_eq_some_iff.1 hx;refine⟨h, ?_, ?_⟩
  ·grind
  ·intro e
   simp only[e,if_true]at hr;omega
theorem EJ{k:Nat}{s:an}{o:OpD}(h:jU k s):Dz s o (bt s o).1 (bt s o).2.1 (bt s o).2.2.2:=by
 unfold bt
 by_cases hp:(jE s o).1=0
 ·rw[if_neg aar]
  by_cases ho:qV (cQ s o)=true
  ·rw[if_pos ho];exact .same _ _ _ _ aaz rfl
  ·rw[if_neg ho]
   obtain⟨hr,hf,_⟩:=sR hp;simp only
   by_cases hk:o.kind=5
   ·have hg:fm s o=false:=by
     cases hg:fm s o with
     |false=>rfl
     |true=>have:=xe hf (Cc hg);omega
    obtain⟨hv1,hlt,hop,hsu⟩:=BQ hr hf hk
    by_cases hd:rU s o=true
    ·have hb:cQ s o=cX (dI aO s o) o (gw s o).2 true:=by
      grind [cQ]
     have hrev:(dI aO s o).reviews=s.reviews.modify (o.review - 1).toNat shut:=by
      simp_all [tD,if_pos]
     have hon:=gu.duties o true (gw s o).2 (dI aO s o);rw[←hb,hrev]at hon;obtain⟨a1,a2,a3⟩:=FV hon;have hlm:(s.reviews.modify (o.review - 1).toNat shut).length=s.reviews.length:=aaz;rw[hlm]at a1;refine⟨a1,fun i h1 h2=>⟨fun hc=> ?_,fun hc=> ?_⟩,fun i h1 h2=>a3 i h1 aar,fun hgl=> ?_⟩
     ·have hi:(o.review - 1).toNat=i:=by omega
      subst hi;rw[a2 _ aar h2,List.getElem_modify,if_pos rfl];exact⟨fun e=>hsu e.symm,hop,rfl,rfl⟩
     ·have hi:(o.review - 1).toNat≠i:=fun e=>hc ⟨rfl,by simp[om,hd],hk,aar⟩
      rw[a2 _ aar h2,List.getElem_modify,if_neg hi]
     simp_all [om]
    ·have hd:rU s o=false:=by grind
     have hb:cQ s o=cX s o (gw s o).2 false:=by
      grind [cQ]
     have hon:=gu.duties o false (gw s o).2 s;rw[←hb]at hon;obtain⟨a1,a2,a3⟩:=FV hon;refine⟨a1,fun i h1 h2=>⟨fun hc=> ?_,fun hc=>a2 i h1 h2⟩,a3,fun hgl=> ?_⟩
     ·simp_all [om]
     simp_all [om]
   ·have hs1:gu o s.reviews (if fm s o then bZ s o o.reason else s).reviews:=by
     split
     ·exact .open s o _
     ·exact .refl o _
    have hs2:(if rU s o then dI aO (if fm s o then bZ s o o.reason else s) o else(if fm s o then bZ s o o.reason else s)).reviews=(if fm s o then bZ s o o.reason else s).reviews:=by
     split
     ·simp_all [tD,if_neg]
     ·rfl
    have hd:=gu.duties o (rU s o) (gw s o).2 (if rU s o then dI aO (if fm s o then bZ s o o.reason else s) o else(if fm s o then bZ s o o.reason else s))
    rw[hs2]at hd;have hon:gu o s.reviews (cQ s o).reviews:=hs1.trans hd;obtain⟨a1,a2,a3⟩:=FV hon;refine⟨a1,fun i h1 h2=>⟨fun hc=>(hk hc.2.2.1).elim,fun hc=>a2 i h1 h2⟩,a3,fun hgl=> ?_⟩
    have hg:fm s o=true:=hgl;have hd' :=hd;simp only[hg,↓reduceIte]at hd';obtain⟨b1,b2,_⟩:=FV hd';have hb:(cQ s o)=cX (if rU s o then dI aO (bZ s o o.reason) o else bZ s o o.reason) o (gw s o).2 (rU s o):=by
     grind [cQ]
    rw[←hb]at b1 b2;have hl:(bZ s o o.reason).reviews.length=s.reviews.length+1:=by simp[bZ]
    refine⟨aar, ?_⟩
    grind [bZ,Af]
 ·rw[if_pos aar]
  exact .same _ _ _ _ aar rfl
theorem jU.up{k:Nat}{s:an}(h:jU k s):jU (k+1) s:={h with ver:=⟨h.ver.1,by have:=h.ver.2;omega⟩}
theorem Ed{k:Nat}{s:an}(o:OpD)(h:jU k s):jU (k+1) (bt s o).1:=by
 have hrl:=EJ (o:=o) h;unfold bt at hrl⊢
 by_cases hp:(jE s o).1=0
 ·rw[if_neg aar]at hrl⊢
  by_cases ho:qV (cQ s o)=true
  ·rw[if_pos ho];exact h.up
  ·rw[if_neg ho]at hrl⊢
   have ho:qV (cQ s o)=false:=aas;have hw:=(I7 h hp).ok ho;unfold qV at ho;refine {hw with ids:=fun i hi=> ?_,nr:=aas,nn:=aas}
   by_cases hlt:i<s.reviews.length
   ·obtain⟨h1,h2⟩:=hrl.old i hlt hi
    by_cases hc:(0:Int)=0∧(om s o).err=0∧o.kind=5∧o.review=((i+1:Nat):Int)
    ·rw[(h1 hc).2.2.2];exact h.ids i hlt
    ·rw[h2 hc];exact h.ids i hlt
   ·exact(hrl.new i hi aar).1
 ·rw[if_pos aar];exact h.up
structure Th (s:an) (o:OpD):Prop where
 err:(bt s o).2.2.2≠0→(bt s o).1=s∧(bt s o).2.1.err=(bt s o).2.2.2∧(bt s o).2.1.mark=naM
 ok:(bt s o).2.2.2=0→(bt s o).2.1.mark=(gw s o).1∧(bt s o).2.2.1=⟨o,s.version,(gw s o).1,fm s o,(gw s o).2⟩∧(bt s o).2.1.glass=fm s o∧(bt s o).1=cQ s o∧(bt s o).2.1=om s o
theorem wO(o:OpD)(done:Bool):∀(l:List cA) (s:an),(cX s o l done).cases.length=s.cases.length
 | [],s=>rfl
 |x::l,s=>by
  have:(fc o done s x).cases.length=s.cases.length:=by
   unfold fc;split
   ·grind [iq]
   ·split
    ·rfl
    grind
  exact(wO o done l _).trans this
end Go.Bf
namespace Go.Ab
open Go
section
variable {U : TypeId → TI} {ρ : Env} {h0 h h' : Heap} {sz id : Nat} {tb : TypeId} {y : AV} {xs : List AV} {e : TypeId} {K : AV → Prop} {x : IntKind} {m : Int}
theorem tG(xs:List AV)(j:Nat):aq xs=aq (xs.take j)++aq (xs.drop j):=adM
theorem OwE.cut(hw:OwE tb h0 h sz y xs){hi:Operand}(j:Nat)(hm:ev ρ hi=some (.v (.int x m)))(hj:m=j)(hl:j≤xs.length)(hz:(U tb).sz=sz)(h1:sz≠0)
  (hk:∀z,OwE tb h0 h sz z (xs.take j)→(z=y∨∃id l l' c,y= .ob id 0 l c sz∧z= .ob id 0 l' c sz)→K z):gx U ρ y none (some hi) none K (.slice tb):=by
 subst hj;subst hz
 rcases hw with⟨rfl,rfl⟩|⟨id,h2,cap,rest,rfl,h3,h4,h5,h6⟩
 ·rw[qi,fu,hm]
  refine⟨h1, ?_⟩;have:j=0:=aas;subst this;refine⟨aar,aaz, ?_⟩;exact hk _ (.inl ⟨rfl,rfl⟩) (.inl rfl)
 ·rw[Aj]
  refine⟨h1,rfl, ?_⟩;simp only[lG,fu,hm,cW,mw];refine⟨aar,aar,aar, ?_⟩;simp only[Int.toNat_natCast,Nat.zero_mul,Nat.add_zero,Nat.sub_zero,show(((0:Nat):Int)).toNat=0 from rfl]
  have e1:(xs.take j).length=j:=aas;have hs:Sized (U tb).sz (xs.drop j):=fun z hz=>h6 z (List.mem_of_mem_drop hz)
  refine hk _ (.inr ⟨id,h2,cap,aq (xs.drop j)++rest,by rw[e1],by grind [tG,List.append_assoc], ?_,aar,fun z hz=>h6 z (List.mem_of_mem_take hz)⟩) (.inr ⟨id,_,_,cap,rfl,rfl⟩)
  rw[aal,aW hs,h4,List.length_drop,e1,←Nat.add_mul]
  grind
theorem OwE.from(hw:OwE tb h0 h sz y xs){lo:Operand}(j:Nat)(hm:ev ρ lo=some (.v (.int x m)))(hj:m=j)(hl:j≤xs.length)(hz:(U tb).sz=sz)(h1:sz≠0)
  (hk:∀z,Rd h sz z (xs.drop j)→K z):gx U ρ y (some lo) none none K (.slice tb):=by
 subst hj;subst hz
 rcases hw with⟨rfl,rfl⟩|⟨id,h2,cap,rest,rfl,h3,h4,h5,h6⟩
 ·have:j=0:=by grind
  subst this;rw[qj,fu,hm];refine⟨h1,by simp[Sized], ?_⟩
  exact⟨aar,aaz,aaz,hk _ (.sl (by intro z hz;grind [nH]) _)⟩
 ·rw[Aj]
  refine⟨h1,rfl, ?_⟩;simp only[lG,fu,hm,cW,mw];refine⟨aar,aar,aar, ?_⟩;simp only[Int.toNat_natCast,Nat.zero_add];have e1:(xs.drop j).length=xs.length - j:=aaz;have hs:Sized (U tb).sz (xs.drop j):=fun z hz=>h6 z aas
  have ht:Sized (U tb).sz (xs.take j):=fun z hz=>h6 z aas
  have e2:=aW hs;have e3:=aW ht;refine hk _ ⟨hs,.inr ⟨id,j*(U tb).sz,cap - j,_,tb,by rw[e1],h3, ?_, ?_⟩⟩
  ·grind [tG,aal]
  grind [tG,List.append_assoc,List.drop_left,List.take_left]
end
end Go.Ab
namespace Go.Bf
open Go Go.Ab Go.Proofs.YtcochaoekecfdaaGreatDoor
def hbit:Nat→Nat
 |0=>0
 |1=>4602678819172646912
 |_=>4607182418800017408
def aP(m:aR):AV:=.v (.complex .f64 (hbit m.1) (hbit m.2))
def M9(m:aR):Prop:=m.1≤2∧m.2≤2
def M6(m:aR):Prop:=m∈tU
instance (m:aR):Decidable (M9 m):=inferInstanceAs (Decidable (_∧_))
instance (m:aR):Decidable (M6 m):=inferInstanceAs (Decidable (m∈tU))
theorem M6.m9{m:aR}(h:M6 m):M9 m:=by
 exact ae4
theorem le2{n:Nat}(h:n≤2):n=0∨n=1∨n=2:=aar
theorem xK{m n:aR}(hmm:M9 m)(hn:M9 n)(K:AV→Prop):fU .eql (.complex .f64 (hbit m.1) (hbit m.2)) (.complex .f64 (hbit n.1) (hbit n.2)) K=K (.b (m==n)):=
 nq (fun P ty w=>by
  exact ae0) K
theorem CD{m n:aR}(hmm:M9 m)(hn:M9 n)(K:AV→Prop):fU .neq (.complex .f64 (hbit m.1) (hbit m.2)) (.complex .f64 (hbit n.1) (hbit n.2)) K=K (.b (!(m==n))):=
 nq (fun P ty w=>by
  exact ae0) K
structure Nb (m:aR):Prop where
 na:∀K,fU .eql (.complex .f64 (hbit m.1) (hbit m.2)) (.complex .f64 0 0) K=K (.b (m==naM))
 pe:∀K,fU .eql (.complex .f64 (hbit m.1) (hbit m.2)) (.complex .f64 4607182418800017408 0) K=K (.b (m==aZ))
 de:∀K,fU .eql (.complex .f64 (hbit m.1) (hbit m.2)) (.complex .f64 0 4607182418800017408) K=K (.b (m==cB))
 ip:∀K,fU .eql (.complex .f64 (hbit m.1) (hbit m.2)) (.complex .f64 4602678819172646912 0) K=K (.b (m==zN))
 id:∀K,fU .eql (.complex .f64 (hbit m.1) (hbit m.2)) (.complex .f64 0 4602678819172646912) K=K (.b (m==zM))
 ib:∀K,fU .eql (.complex .f64 (hbit m.1) (hbit m.2)) (.complex .f64 4602678819172646912 4602678819172646912) K=K (.b (m==nS))
 nna:∀K,fU .neq (.complex .f64 (hbit m.1) (hbit m.2)) (.complex .f64 0 0) K=K (.b (!(m==naM)))
 npe:∀K,fU .neq (.complex .f64 (hbit m.1) (hbit m.2)) (.complex .f64 4607182418800017408 0) K=K (.b (!(m==aZ)))
 nde:∀K,fU .neq (.complex .f64 (hbit m.1) (hbit m.2)) (.complex .f64 0 4607182418800017408) K=K (.b (!(m==cB)))
theorem nb{m:aR}(h:M9 m):Nb m:=
 ⟨xK (n:=naM) h aau,xK (n:=aZ) h aau,xK (n:=cB) h aau,xK (n:=zN) h aau,xK (n:=zM) h aau,xK (n:=nS) h aau,
  CD (n:=naM) h aau,CD (n:=aZ) h aau,CD (n:=cB) h aau⟩
theorem NG{a b:Nat}(ha:a≤2)(hb:b≤2)(k:AV→Prop):yQ [.v (.float .f64 (hbit a)),.v (.float .f64 (hbit b))] k=k (.v (.float .f64 (hbit (max a b)))):=
 Et (fun P ts ty w=>by
  rcases le2 ha with rfl|rfl|rfl<;>rcases le2 hb with rfl|rfl|rfl<;>rfl) k
structure Fb (a:Nat):Prop where
 one:∀K,fU .eql (.float .f64 (hbit a)) (.float .f64 4607182418800017408) K=K (.b (a==2))
 half:∀K,fU .eql (.float .f64 (hbit a)) (.float .f64 4602678819172646912) K=K (.b (a==1))
 ge:∀K,fU .geq (.float .f64 (hbit a)) (.float .f64 4602678819172646912) K=K (.b (decide (1≤a)))
theorem fb{a:Nat}(h:a≤2):Fb a:=by
 rcases le2 h with rfl|rfl|rfl<;>
  exact⟨nq fun P ty w=>rfl,nq fun P ty w=>rfl,nq fun P ty w=>rfl⟩
end Go.Bf
namespace Go.Proofs.YtcochaoekecfdaaGreatDoor
open Go Go.Ab Go.Bf
theorem A9(m:aR)(hmm:M6 m)(h:Heap):ai Tryz.prog 275 [aP m] h fun r h' =>r= .b true∧h' =h:=by
 have hn:ai Tryz.prog 150 [aP m] h fun r h' =>(∃c l,r= .s (c::l))∧h' =h:=by
  obtain⟨n1,n2,n3,n4,n5,n6⟩:=nb hmm.m9;refine aaq Tryz.func150 16 [.tmp 2] fun hwf=> ?_
  cases d1:(m==naM)
  case true=>simp only[go_sem,aP,n1,d1];exact .same (.refl _) ⟨⟨_,_,rfl⟩,rfl⟩
  cases d2:(m==aZ)
  case true=>simp only[go_sem,aP,n1,n2,d1,d2];exact .same (.refl _) ⟨⟨_,_,rfl⟩,rfl⟩
  cases d3:(m==cB)
  case true=>simp only[go_sem,aP,n1,n2,n3,d1,d2,d3];exact .same (.refl _) ⟨⟨_,_,rfl⟩,rfl⟩
  cases d4:(m==zN)
  case true=>simp only[go_sem,aP,n1,n2,n3,n4,d1,d2,d3,d4];exact .same (.refl _) ⟨⟨_,_,rfl⟩,rfl⟩
  cases d5:(m==zM)
  case true=>simp only[go_sem,aP,n1,n2,n3,n4,n5,d1,d2,d3,d4,d5];exact .same (.refl _) ⟨⟨_,_,rfl⟩,rfl⟩
  have d6:(m==nS)=true:=by
   unfold M6 tU at hmm
   grind
  simp only[go_sem,aP,n1,n2,n3,n4,n5,n6,d1,d2,d3,d4,d5,d6];exact .same (.refl _) ⟨⟨_,_,rfl⟩,rfl⟩
 refine aaq Tryz.func275 6 [.tmp 2] fun hwf=> ?_
 simp only[go_sem];refine hn.mono ?_
 rintro r h' ⟨⟨c,l,rfl⟩,rfl⟩
 exact ae2
theorem xp(m:aR)(hmm:M9 m)(h:Heap):ai Tryz.prog 248 [aP m] h fun r h' =>r=aP (gv m)∧h' =h:=by
 obtain⟨n1,n2,n3,n4,n5,n6⟩:=nb hmm;refine aaq Tryz.func248 9 [.tmp 2] fun hwf=> ?_
 cases d2:(m==aZ)
 case true=>simp only[go_sem,aP,n2,d2];exact .same (.refl _) ⟨by rw[gv,if_pos aas];rfl,rfl⟩
 cases d3:(m==cB)
 case true=>simp only[go_sem,aP,n2,n3,d2,d3];exact .same (.refl _) ⟨by rw[gv,if_neg aas,if_pos aas];rfl,rfl⟩
 simp only[go_sem,aP,n2,n3,d2,d3];exact .same (.refl _) ⟨by rw[gv,if_neg aas,if_neg aas];rfl,rfl⟩
theorem sO(m:aR)(h:Heap):ai Tryz.prog 303 [aP m] h fun r h' =>r= .tup [.v (.float .f64 (hbit m.1)),.v (.float .f64 (hbit m.2))]∧h' =h:=by
 refine aaq Tryz.func303 10 [.tmp 2,.tmp 3] fun hwf=> ?_
 simp only[go_sem,aP];exact aaD
theorem NM(a b:Nat)(h:Heap):ai Tryz.prog 304 [.v (.float .f64 (hbit a)),.v (.float .f64 (hbit b))] h fun r h' =>r=aP (a,b)∧h' =h:=by
 refine aaq Tryz.func304 8 [.tmp 4] fun hwf=> ?_
 exact ae2
theorem MS(m:aR)(h:Heap):ai Tryz.prog 278 [aP m] h fun r h' =>r=aP (Dp m)∧h' =h:=by
 refine aaq Tryz.func278 13 [.tmp 2] fun hwf=> ?_
 simp only[go_sem];refine(sO m _).pthen ?_;simp only[go_sem];refine(NM m.2 m.1 _).pthen ?_;exact ae2
theorem Mb(a b:aR)(ha:M9 a)(hb:M9 b)(h:Heap):ai Tryz.prog 276 [aP a,aP b] h fun r h' =>r=aP (ng a b)∧h' =h:=by
 have m1:=NG ha.1 hb.1;have m2:=NG ha.2 hb.2;refine aaq Tryz.func276 26 [.tmp 4] fun hwf=> ?_
 simp only[go_sem];refine(sO a _).pthen ?_;simp only[go_sem];refine(sO b _).pthen ?_;simp only[go_sem,m1,m2];refine(NM _ _ _).pthen ?_;exact ae2
theorem M9.join{a b:aR}(ha:M9 a)(hb:M9 b):M9 (ng a b):=⟨Nat.max_le.2 ⟨ha.1,hb.1⟩,Nat.max_le.2 ⟨ha.2,hb.2⟩⟩
theorem FX(j:aR):M6 (pY j):=by
 unfold pY
 repeat' split
 all_goals decide
theorem FY(j:aR)(hj:M9 j)(h:Heap):ai Tryz.prog 277 [aP j] h fun r h' =>r=aP (pY j)∧h' =h:=by
 obtain⟨p1,p2,p3⟩:=fb hj.1;obtain⟨q1,q2,q3⟩:=fb hj.2;refine aaq Tryz.func277 29 [.tmp 2] fun hwf=> ?_
 simp only[go_sem];refine(sO j _).pthen ?_;cases d1:(j.2==2)
 case true=>simp only[go_sem,q1,d1];exact .same (.refl _) ⟨by rw[pY,if_pos aas];rfl,rfl⟩
 have e1:¬j.2=2:=aas;cases d2:(j.2==1)
 case true=>
  have e2:j.2=1:=aas;cases d3:decide (1≤j.1)
  ·simp only[go_sem,p3,q1,q2,d1,d2,d3];exact .same (.refl _) ⟨by rw[pY,if_neg e1,if_neg aas,if_pos e2];rfl,rfl⟩
  ·simp only[go_sem,p3,q1,q2,d1,d2,d3];exact .same (.refl _) ⟨by rw[pY,if_neg e1,if_pos ⟨e2,aaj d3⟩];rfl,rfl⟩
 have e2:¬j.2=1:=aas;cases d4:(j.1==2)
 case true=>simp only[go_sem,p1,q1,q2,d1,d2,d4];exact .same (.refl _) ⟨by rw[pY,if_neg e1,if_neg (fun h=>e2 h.1),if_neg e2,if_pos aas];rfl,rfl⟩
 cases d5:(j.1==1)
 case true=>simp only[go_sem,p1,p2,q1,q2,d1,d2,d4,d5];exact .same (.refl _) ⟨by rw[pY,if_neg e1,if_neg (fun h=>e2 h.1),if_neg e2,if_neg aas,if_pos aas];rfl,rfl⟩
 simp only[go_sem,p1,p2,q1,q2,d1,d2,d4,d5];exact .same (.refl _) ⟨by rw[pY,if_neg e1,if_neg (fun h=>e2 h.1),if_neg e2,if_neg aas,if_neg aas];rfl,rfl⟩
def OwR(h0 h:Heap)(y:AV)(rs:List gI):Prop:=y=dM rs∨OwE 149 h0 h 2 y (rs.map dU)
theorem OwR.rd{h0 h:Heap}{y:AV}{rs:List gI}(hr:OwR h0 h y rs):Rd h 2 y (rs.map dU):=by
 rcases hr with rfl|hr
 ·exact dZ dU 2 (fun _=>rfl) h rs
 ·exact hr.rd
theorem OwR.nid{h0 h:Heap}{y:AV}{rs:List gI}(hr:OwR h0 h y rs){k:Nat}(e:Ab.nid y=some k):h0 k=none∧h k≠none:=by
 rcases hr with rfl|hr
 ·cases e
 ·exact⟨(hr.nid e).1,(hr.nid e).2.1⟩
theorem OwR.keep{h0 h h' :Heap}{y:AV}{rs:List gI}(hr:OwR h0 h y rs)(hk:∀id,Ab.nid y=some id→h' id=h id):OwR h0 h' y rs:=by
 rcases hr with hr|hr
 ·exact .inl hr
 ·exact .inr (hr.keep hk)
theorem OwR.bH{g h0 h:Heap}{y:AV}{rs:List gI}(hr:OwR h0 h y rs)(hg:∀i,h0 i=none→g i=none):OwR g h y rs:=by
 rcases hr with hr|hr
 ·exact .inl hr
 ·exact .inr (hr.bH hg)
theorem OwR.frz{g h:Heap}{y:AV}{rs:List gI}(hr:OwR g h y rs):Frz g h y (dM rs):=by
 rcases hr with rfl|hr
 ·exact .pure (by simp only[dM,cG];exact bn (fun _=>rfl) _)
 ·exact hr.frz (bn (fun _=>rfl) _)
structure gY (h0 h:Heap) (y1 y2 y3 y4:AV) (s:an) (j:Nat):Prop where
 cs:kY h0 h [y1,y2,y3,y4] y1 s.cases j
 rv:OwE 143 h0 h 7 y2 (s.reviews.map ie)
 nt:OwE 146 h0 h 3 y3 (s.notices.map lY)
 rl:OwR h0 h y4 s.roles
 a12:apart y1 y2
 a13:apart y1 y3
 a14:apart y1 y4
 a23:apart y2 y3
 a24:apart y2 y4
 a34:apart y3 y4
def stC(s:an)(y1 y2 y3 y4:AV):List AV:=[.i s.tick,y1,y2,y3,y4]++fJ s.policy++ [.i s.version]
theorem rO.parts{h0 h:Heap}{x:AV}{s:an}{j:Nat}(ho:rO h0 h x s j):∃y1 y2 y3 y4,x= .agg (stC s y1 y2 y3 y4)∧gY h0 h y1 y2 y3 y4 s j:=by
 obtain⟨y1,y2,y3,y4,e,a,b,c,d,r1,r2,r3,r4,r5,r6⟩:=ho;exact⟨y1,y2,y3,y4,e,a,b,c,.inr d,r1,r2,r3,r4,r5,r6⟩
theorem gY.rd{h0 h:Heap}{y1 y2 y3 y4:AV}{s:an}{j:Nat}(ho:gY h0 h y1 y2 y3 y4 s j):RdS h (.agg (stC s y1 y2 y3 y4)) s:=
 ⟨y1,y2,y3,y4,rfl,ho.cs.rd,ho.rv.rd,ho.nt.rd,ho.rl.rd⟩
theorem gY.frz{g h:Heap}{y1 y2 y3 y4:AV}{s:an}{j:Nat}(ho:gY g h y1 y2 y3 y4 s j):Frz g h (.agg (stC s y1 y2 y3 y4)) (cH s):=
 tJ (ho.cs.frz (.refl _)) (ho.rv.frz (bn (fun _=>rfl) _)) (ho.nt.frz (bn (fun _=>rfl) _)) ho.rl.frz
theorem gY.bH{g h0 h:Heap}{y1 y2 y3 y4:AV}{s:an}{j:Nat}(ho:gY h0 h y1 y2 y3 y4 s j)(hg:∀i,h0 i=none→g i=none):gY g h y1 y2 y3 y4 s j:=
 {ho with cs:=ho.cs.bH hg,rv:=ho.rv.bH hg,nt:=ho.nt.bH hg,rl:=ho.rl.bH hg}
theorem gY.keep{h0 h h' :Heap}{y1 y2 y3 y4:AV}{s:an}{j:Nat}(ho:gY h0 h y1 y2 y3 y4 s j)(hk:∀id,h0 id=none→h id≠none→h' id=h id):gY h0 h' y1 y2 y3 y4 s j:=
 {ho with cs:=ho.cs.keepb hk,rv:=ho.rv.keepb hk,nt:=ho.nt.keepb hk,rl:=ho.rl.keep fun id e=>hk id (ho.rl.nid e).1 (ho.rl.nid e).2}
theorem gY.mem{h0 h:Heap}{y1 y2 y3 y4:AV}{s:an}{j:Nat}(ho:gY h0 h y1 y2 y3 y4 s j){w:AV}(hw:w∈ [y1,y2,y3,y4]){k:Nat}(e:Ab.nid w=some k):h0 k=none∧h k≠none:=by
 obtain⟨xs,a,_⟩:=ho.cs;simp only[List.mem_cons,List.not_mem_nil,or_false]at hw;rcases hw with rfl|rfl|rfl|rfl
 ·exact⟨(a.nid e).1,(a.nid e).2.1⟩
 ·exact⟨(ho.rv.nid e).1,(ho.rv.nid e).2.1⟩
 ·exact⟨(ho.nt.nid e).1,(ho.nt.nid e).2.1⟩
 ·exact ho.rl.nid e
theorem gY.revs{h0 h h' :Heap}{y1 y2 y3 y4 z:AV}{s:an}{j:Nat}{rs:List oV}(ho:gY h0 h y1 y2 y3 y4 s j)(hz:OwE 143 h0 h' 7 z (rs.map ie))(hn:∀k,Ab.nid z=some k→h k=none∨Ab.nid y2=some k)
  (hk:∀id,h0 id=none→h id≠none→Ab.nid y2≠some id→h' id=h id):gY h0 h' y1 z y3 y4 {s with reviews:=rs} j:=by
 obtain⟨hcs,hrv,hnt,hrl,a12,a13,a14,a23,a24,a34⟩:=id ho;have ap:∀ {w:AV},w∈ [y1,y2,y3,y4]→apart w y2→apart w z:=fun hw ha k e1 e2=>(hn k e2).elim (fun h=>(ho.mem hw e1).2 h) (fun h=>ha k e1 h)
 refine⟨hcs.move (z:=y2) aaz a12 hk fun w hw k e=> ?_,hz,hnt.keep fun id e=>hk id (hnt.nid e).1 (hnt.nid e).2.1 fun e1=>a23 id e1 e,hrl.keep fun id e=>hk id (hrl.nid e).1 (hrl.nid e).2 fun e1=>a24 id e1 e,ap aaz a12,a13,a14,(ap aaz a23.symm).symm,(ap aaz a24.symm).symm,a34⟩
 grind
theorem gY.nots{h0 h h' :Heap}{y1 y2 y3 y4 z:AV}{s:an}{j:Nat}{rs:List Gq}(ho:gY h0 h y1 y2 y3 y4 s j)(hz:OwE 146 h0 h' 3 z (rs.map lY))(hn:∀k,Ab.nid z=some k→h k=none∨Ab.nid y3=some k)
  (hk:∀id,h0 id=none→h id≠none→Ab.nid y3≠some id→h' id=h id):gY h0 h' y1 y2 z y4 {s with notices:=rs} j:=by
 obtain⟨hcs,hrv,hnt,hrl,a12,a13,a14,a23,a24,a34⟩:=id ho;have ap:∀ {w:AV},w∈ [y1,y2,y3,y4]→apart w y3→apart w z:=fun hw ha k e1 e2=>(hn k e2).elim (fun h=>(ho.mem hw e1).2 h) (fun h=>ha k e1 h)
 refine⟨hcs.move (z:=y3) aaz a13 hk fun w hw k e=> ?_,hrv.keep fun id e=>hk id (hrv.nid e).1 (hrv.nid e).2.1 fun e1=>a23 id e e1,hz,hrl.keep fun id e=>hk id (hrl.nid e).1 (hrl.nid e).2 fun e1=>a34 id e1 e,a12,ap aaz a13,a14,ap aaz a23,a24,(ap aaz a34.symm).symm⟩
 grind
end Go.Proofs.YtcochaoekecfdaaGreatDoor
namespace Go.Bf
open Go Go.Ab Go.Proofs.YtcochaoekecfdaaGreatDoor
def gJ(s:an):Prop:=∀r∈s.reviews,0≤r.tick∧r.tick≤1099511627776
theorem An{s:an}(o:OpD)(w:Txt)(h:gJ s)(ht:0≤s.tick∧s.tick≤1099511627776):gJ (bZ s o w):=fun r hr=>by
 simp only[bZ,List.mem_append,List.mem_singleton]at hr;rcases hr with hr|rfl
 ·exact h r hr
 ·exact ht
theorem Iw{s:an}(o:OpD)(w:Txt)(h:gJ s):gJ (iq s o w):=fun r hr=>h r (by grind [xD])
theorem Iv{s:an}(o:OpD)(done:Bool)(x:cA)(h:gJ s)(ht:0≤s.tick∧s.tick≤1099511627776):gJ (fc o done s x):=by
 unfold fc;split
 ·grind [Iw]
 ·split
  ·grind [An]
  ·split<;>exact h
theorem vr(o:OpD)(done:Bool):∀(l:List cA) {s:an},gJ s→(0≤s.tick∧s.tick≤1099511627776)→gJ (cX s o l done)
 | [],s,h,_=>h
 |x::l,s,h,ht=>vr o done l (by grind [Iv]) (by grind [BY])
theorem KU{s:an}(par:Txt→bG×Int×Int)(o:OpD)(h:gJ s):gJ (dI par s o):=fun r hr=>by
 rw[tD]at hr;split at hr
 ·rcases mem_modify hr with hr|⟨hi,rfl⟩
  ·exact h r hr
  ·have h2:=h _ (aam hi)
   exact aet
 ·exact h r hr
theorem E2{k:Nat}{s:an}(o:OpD)(h:jU k s)(ht:gJ s):gJ (bt s o).1:=by
 unfold bt;split
 ·omega
 ·split
  ·omega
  ·show gJ (cQ s o)
   have h1:cV k (if fm s o then bZ s o o.reason else s):=by
    split
    ·exact Bd o _ h.tocV (by have:=h.nr;omega)
    ·exact h.tocV
   have t1:gJ (if fm s o then bZ s o o.reason else s):=by
    split
    ·exact An o _ ht h.tick
    omega
   refine vr o _ _ ?_ ?_
   ·grind [KU]
   ·split
    ·exact(ov o h1).tick
    ·exact h1.tick
structure nD (k:Nat) (s:an):Prop extends jU k s where
 ticks:gJ s
theorem xh:nD 0 vH:={Ht with ticks:=fun r h=>abt}
theorem Ce{k:Nat}{s:an}(o:OpD)(h:nD k s):nD (k+1) (bt s o).1:={Ed o h.tojU with ticks:=E2 o h.tojU h.ticks}
theorem L8{cs:List aJ}{id:Txt}(h:ia cs id<cs.length):cs[ia cs id].id=id:=by
 have:=List.findIdx_getElem (p:=fun c:aJ=>c.id==id) (w:=h)
 exact eq_of_beq this
theorem Em{cs:List aJ}(ha:Asc cs){id:Txt}(h:ia cs id<cs.length):findD cs id=ia cs id:=by
 have hid:=L8 h;have hin:bW cs id=true:=by grind [uv,List.any_eq_true,aam]
 have hir:Op.bytesLess id id=false:=by simpa[lt]using lt_irrefl id
 have h1:∃hl:findD cs id<cs.length,cs[findD cs id].id=id:=by
  unfold bW at hin
  grind
 rcases Nat.lt_trichotomy (findD cs id) (ia cs id)with hlt|heq|hgt
 ·exact absurd (List.not_of_lt_findIdx (p:=fun c:aJ=>c.id==id) hlt) aas
 ·exact heq
 ·have:=List.not_of_lt_findIdx (p:=fun c:aJ=>geB c.id id) hgt
  exact absurd this (by grind [geB])
theorem JK{cs ds:List aJ}(h:ds.map (·.id)=cs.map (·.id))(id:Txt):ia ds id=ia cs id:=by
 have e:∀l:List aJ,ia l id=(l.map (·.id)).findIdx fun x=>x==id:=fun l=>by
  rw[List.findIdx_map];rfl
 rw[e,e,h]
theorem HE(s:an)(o:OpD)(w:Txt)(id:Txt):ia (iq s o w).cases id=ia s.cases id∧(iq s o w).cases.length=s.cases.length:=by
 unfold iq;split
 ·exact⟨JK (jO (f:=fun c=>iP s c o.subj w) (g:=fun c:aJ=>c.id) fun c=>rfl) id,aaz⟩
 omega
theorem HD(o:OpD)(done:Bool)(s:an)(x:cA)(id:Txt):ia (fc o done s x).cases id=ia s.cases id∧(fc o done s x).cases.length=s.cases.length:=by
 unfold fc;split
 ·grind [HE]
 ·split
  ·exact⟨rfl,rfl⟩
  grind
end Go.Bf
namespace Go.Proofs.YtcochaoekecfdaaGreatDoor
open Go Go.Ab
abbrev By:=Bytes 5
theorem u5:(U 5).sz=1:=aaG
theorem u5a:(U 5).k.agg=false:=aaG
theorem pn(y:AV)(l:List UInt8)(h:Heap)(hb:By h y l)(hl:l.length≤140737488355328):
  ai Tryz.prog 92 [y] h fun r h' =>h' =h∧r= .sl (l.map aL) .no:=by
 refine aaq Tryz.func92 8 [.tmp 2] fun hwf=> ?_
 simp -implicitDefEqProofs only[go_sem];refine hb.SA fun b hbn=> ?_
 simp -implicitDefEqProofs only[go_sem];refine mV.intro (fun e=> ?_) (fun e=> ?_)
 ·have hl0:l= []:=Classical.byContradiction fun hh=>by grind
  subst hl0;simp -implicitDefEqProofs only[go_sem];exact acF
 ·simp -implicitDefEqProofs only[go_sem]
  rw[hb.src u5];simp -implicitDefEqProofs only[go_sem];refine⟨aar,fun hn=> ?_,fun hn=> ?_⟩
  ·have hl0:l= []:=by simp_all
   subst hl0;simp -implicitDefEqProofs only[go_sem];exact acF
  ·refine .own fun id hid=> ?_
   simp -implicitDefEqProofs only[go_sem];exact .mk _ (.sl _ _) (.aj hid) ⟨rfl,rfl⟩
end Go.Proofs.YtcochaoekecfdaaGreatDoor
namespace Go.Proofs.YtcochaoekecfdaaGreatDoor
open Go Go.Ab Go.RowKit Go.Lib
theorem i5:∃i z,Tryz.prog.info? 5=some i∧i.zero=some z∧i.size=1∧i.bytes=1∧z.cells.size=1:=by
 obtain⟨i,h1,h2,h3,z,h4,h5,_⟩:=(hU 5).info aau;exact⟨i,z,h1,h4,h2,by rw[h3];rfl,h5⟩
set_option maxHeartbeats 1000000 in
theorem Hs(a:Option Addr)(w:World):Calls Tryz.prog 149 #[.slice a 0 0,.int .i64 0] w fun e w' =>e= .returned (.slice a 0 0)∧w' =w:=by
 go_enter Tryz.func149,Tryz.ntmps149
 go_wp2
 go_ret
 simp
set_option maxHeartbeats 1000000 in
theorem Hr(a:Option Addr)(n:Nat)(h0:0<n)(hn:n≤20000000)(w:World):Calls Tryz.prog 149 #[.slice a 0 0,.int .i64 n] w fun e w' =>
  ∃z:Value,z.cells.size=1∧e= .returned (.slice (some ⟨w.heap.size,0,none⟩) 0 (grownCap w n 0 5))∧
   w' =w.drew.alloc (.cells (Builtin.zeroCells z.cells n++Builtin.zeroCells z.cells (grownCap w n 0 5 - n)) 5):=by
 obtain⟨i,z,e1,e2,e3,e4,e5⟩:=i5;have hsl:Tryz.prog.underlying 41=some (.slice 5):=by
  rfl
 have hin:Tryz.prog.underlying 3=some (.int .i64):=by
  rfl
 have hold:(Builtin.firstCells i.size 0 (.slice a 0 0)).run Tryz.prog w.drew= .ok (#[]:Array Value) w.drew:=by
  cases a<;>simp[Builtin.firstCells,loadCells,loadCellsFrom]
 have hrz:∀ty,(Builtin.append_ #[41,3] ty #[.slice a 0 0,.int .i64 (n:Int)]).run Tryz.prog w=
   .ok (.slice (some ⟨w.heap.size,0,none⟩) n (grownCap w n 0 5)) (w.drew.alloc (.cells (Builtin.zeroCells z.cells n++Builtin.zeroCells z.cells (grownCap w n 0 5 - n)) 5)):=fun ty=>by
  have h:=Lib.run_append_grow_zeros w 41 3 ty 5 i z .i64 .i64 hsl hin e1 e2 a 0 0 [] aar n h0 aar aar aar
   aas
   (by rw[e4];exact growslice_fits aar aar)
  simpa using h
 have hG:=grownCap_ge w n 0 5;have hG63:grownCap w n 0 5≤9223372036854775807:=by
  grind [grownCap_le_maxLen,maxLen]
 obtain⟨G,hGe⟩:∃G,G=grownCap w n 0 5:=⟨_,rfl⟩;rw[←hGe]at hrz hG hG63⊢;have h3:wrap64 ((n:Int) - 0)=(n:Int):=by grind [wrap64]
 have h4:¬((n:Int)<0):=aar;have h5:(n:Int)>0:=aar;refine Calls.mono (R:=fun e w' =>e= .returned (.slice (some ⟨w.heap.size,0,none⟩) 0 G)∧w' =w.drew.alloc (.cells (Builtin.zeroCells z.cells n++Builtin.zeroCells z.cells (G - n)) 5)) ?_ aas
 clear hold hGe
 go_enter Tryz.func149,Tryz.ntmps149
 cases a with
 |none=>
  go_wp2_with (at_builtin;refine Lib.wpList_append_run _ rfl _ _ _ _ rfl _ _ rfl rfl _ _ (hrz _) ?_)
  all_goals (go_ret;simp)
 |some q=>
  obtain⟨ab,ao,asp⟩:=q
  go_wp2_with (at_builtin;refine Lib.wpList_append_run _ rfl _ _ _ _ rfl _ _ rfl rfl _ _ (hrz _) ?_)
  all_goals (go_ret;simp)
end Go.Proofs.YtcochaoekecfdaaGreatDoor
namespace Go.Proofs.YtcochaoekecfdaaGreatDoor
open Go Go.Ab
theorem PX:(U 5).bytes=1:=aaG
theorem L5(n:Nat)(hn:n≤20000000)(h:Heap):ai Tryz.prog 149 [.sl [] .full,.i n] h fun r h' =>Acc U 5 h h' r []∧fA h h' :=by
 refine fun c vs hs g hv hr=> .inl ⟨⟨_,Tryz.func149,aaG,rfl⟩, ?_⟩
 have h0:=hr 0 aaz;have h1:=hr 1 aaz;obtain⟨a,cap,sz,val,e0,sl⟩:=h0.gT;have hcap:cap=0:=sl.hp;subst hcap;have e1:=h1.bQ;have ev:vs= #[.slice a 0 0,.int .i64 n]:=by
  apply Array.ext
  ·omega
  ·intro i h2 h3
   have h3' :i<2:=h3;have:i=0∨i=1:=aar;rcases this with rfl|rfl
   ·simpa[Array.getD,h2]using e0
   ·simpa[Array.getD,h2]using e1
 subst ev
 by_cases hn0:n=0
 ·subst hn0
  refine(Hs a c.w).mono ?_
  rintro e w' ⟨rfl,rfl⟩
  exact⟨_,rfl,c,.sl [] .full,h,rfl,g,.refl c,h0,hs,.full (.refl h),.refl h⟩
 ·refine(Hr a n aar hn c.w).mono ?_
  rintro e w' ⟨z,hz,rfl,rfl⟩
  refine⟨_,rfl, ?_⟩;have hG:=grownCap_ge c.w n 0 5;have hG63:grownCap c.w n 0 5≤9223372036854775807:=by
   grind [grownCap_le_maxLen,maxLen]
  generalize hGe:grownCap c.w n 0 5=G at hG hG63;generalize hcells:Builtin.zeroCells z.cells n++Builtin.zeroCells z.cells (G - n)=cells;have hcs:cells.size=G:=by grind [size_zeroCells]
  obtain⟨id,hid⟩:=g.fresh;have g1:Ab.Good ({c with w:=c.w.drew}:Cx):=g.draw rfl rfl rfl rfl
  have e1:Ext c {c with w:=c.w.drew}:=Ext.draw rfl rfl rfl rfl
  have hh:h id=none:=xg hs hid;refine⟨Cx.ay {c with w:=c.w.drew} (.cells cells 5) id ⟨c.w.heap.size,0,none⟩ (.spare 0 1),.sl [] (.own id),upd h id (some (.spare 0 1)),rfl, ?_,e1.trans (Ext.ay _ _ id _ _ rfl (.inl hid)), ?_,hs.upd id _, ?_, ?_⟩
  ·exact g1.ay _ _ _ id _ _ rfl (.inl hid) aaz aaz
  ·refine .sl [] _ (some ⟨c.w.heap.size,0,none⟩) G 1 (fun _ _=>undef) (Nat.zero_le _) (by grind [lim]) aaz (fun q hq _=>by cases hq;exact⟨rfl,by simp[Cx.ay]⟩)
    aaz aaz aaz aaz ?_
   exact⟨0,acJ,Nat.le_refl _,fun _=>⟨_,rfl,acJ,cells,5,(0,0),heap_alloc_new c.w.drew _,aas⟩⟩
  ·exact⟨(Sub.refl h).new hh _,.inr ⟨id,hh,rfl,by grind [ah,u5]⟩⟩
  ·exact((Sub.refl h).new hh _).fL
theorem MI(x y:AV)(a b:List UInt8)(h:Heap)(hx:By h x a)(hy:By h y b)(ha:a.length≤1000000000):
  ai Tryz.prog 17 [x,y] h fun r h' =>r= .b (decide (a=b))∧h' =h:=by
 refine aaq Tryz.func17 26 [.tmp 4] fun hwf=> ?_
 simp -implicitDefEqProofs only[go_sem,hx.len,hy.len];refine .intro (fun e=> ?_) (fun e=> ?_)
 ·simp -implicitDefEqProofs only[go_sem]
  refine .same (.refl _) ⟨?_,rfl⟩;have:a≠b:=fun hh=>by simp[hh]at e
  simp[this,au]
 ·have hl:a.length=b.length:=by simpa[Int.natCast_inj]using e
  simp -implicitDefEqProofs only[go_sem];refine .intro (fun m ρ h' =>h' =h∧∃i:Nat,i≤a.length∧m=a.length - i∧a.take i=b.take i∧lk ρ 0=some x∧lk ρ 1=some y∧lk ρ 5=some (.i i)) a.length ?_ ?_
  ·refine⟨rfl,0,Nat.zero_le _,rfl,rfl, ?_, ?_, ?_⟩<;>simp -implicitDefEqProofs only[go_sem]
   all_goals rfl
  ·rintro m ρ h' ⟨rfl,i,hi,rfl,hab,r0,r1,r5⟩
   simp -implicitDefEqProofs only[go_sem,r0,r1,r5,hx.len];refine .intro (fun e=> ?_) (fun e=> ?_)
   ·have hlt:i<a.length:=by simpa using e
    have hltb:i<b.length:=aar;simp -implicitDefEqProofs only[go_sem,r0,r1,r5];refine⟨.of aav,hx.idx i rfl hlt u5 u5a fun p hp=> ?_⟩
    simp -implicitDefEqProofs only[go_sem,r0,r1,r5,hp _];refine hy.idx i rfl hltb u5 u5a fun p' hp' => ?_
    simp -implicitDefEqProofs only[go_sem,r0,r1,r5,hp' _];refine .intro (fun e=> ?_) (fun e=> ?_)
    ·simp -implicitDefEqProofs only[go_sem]
     refine .same (.refl _) ⟨?_,rfl⟩;have:a≠b:=fun hh=>by subst hh;simp at e
     simp[this,au]
    ·have hc:a[i]=b[i]:=by
      have:(a[i].toNat:Int)=b[i].toNat:=by simpa using e
      exact UInt8.toNat_inj.1 aar
     have w1:IntKind.i64.wrap ((i:Int)+1)=((i+1:Nat):Int):=ab1;simp -implicitDefEqProofs only[go_sem,r0,r1,r5,w1];refine⟨a.length - (i+1),aar,rfl,i+1,hlt,rfl, ?_, ?_, ?_, ?_⟩
     ·rw[List.take_succ_eq_append_getElem hlt,List.take_succ_eq_append_getElem hltb,hab,hc]
     all_goals simp -implicitDefEqProofs only[go_sem,r0,r1,r5]
   ·have hge:i=a.length:=by have:¬(i<a.length):=(by simpa using e);omega
    simp -implicitDefEqProofs only[go_sem];refine .same (.refl _) ⟨?_,rfl⟩;have:a=b:=by
     subst hge;rw[List.take_length]at hab;rw[hab,hl,List.take_length]
    simp[this,au]
theorem u27:(U 41).sz=1:=aaG
theorem mP(ls:List (List UInt8))(i:Nat)(hi:i<ls.length):(ls.take (i+1)).flatten=(ls.take i).flatten++ls[i]:=by
 rw[List.take_succ_eq_append_getElem hi,List.flatten_append,List.flatten_cons,List.flatten_nil,List.append_nil]
theorem nL(ls:List (List UInt8))(i:Nat):(ls.take i).flatten.length≤ls.flatten.length:=by
 grind [List.take_append_drop,List.flatten_append,aal]
theorem zv(ys:List AV)(ls:List (List UInt8))(q:Perm)(h:Heap)(hr:Ab.Rows 5 h ys ls)(hl:ls.flatten.length≤20000000)(hn:ls.length≤20000000):
  ai Tryz.prog 86 [.sl ys q] h fun r h' =>r= .sl (ls.flatten.map aL) .no∧Sub h h' :=by
 have hlen:=hr.1;refine aaq Tryz.func86 36 [.tmp 2] fun hwf=> ?_
 simp -implicitDefEqProofs only[go_sem];refine .intro (fun m ρ h' =>h' =h∧∃i:Nat,i≤ls.length∧m=ls.length - i∧lk ρ 0=some (.sl ys q)∧lk ρ 9=some (.sl ys q)∧lk ρ 10=some (.i ys.length)∧
  lk ρ 11=some (.i i)∧lk ρ 3=some (.v (.int .i64 (ls.take i).flatten.length))) ls.length ?_ ?_
 ·refine⟨rfl,0,Nat.zero_le _,rfl, ?_, ?_, ?_, ?_, ?_⟩<;>simp -implicitDefEqProofs only[go_sem]
  all_goals first|rfl|simp
 ·rintro m ρ h' ⟨rfl,i,hi,rfl,r0,r9,r10,r11,r3⟩
  simp -implicitDefEqProofs only[go_sem,r0,r9,r10,r11,r3];refine .intro (fun e=> ?_) (fun e=> ?_)
  ·have hlt:i<ys.length:=by simpa using e
   have hlt2:i<ls.length:=aar;have hb:=hr.2 i hlt hlt2;simp -implicitDefEqProofs only[go_sem,r0,r9,r10,r11,r3];refine .at i hlt (by rw[hb.cells];rfl) ?_
   have t1:=nL ls (i+1);have t2:=mP ls i hlt2;have w1:IntKind.i64.wrap (((ls.take i).flatten.length:Int)+(ls[i].length:Int))=((ls.take (i+1)).flatten.length:Nat):=by
    rw[t2,aal]at t1⊢;rw[IntWalk.i64_in _ aar];omega
   simp -implicitDefEqProofs only[go_sem,r0,r9,r10,r11,r3,hb.cells,hb.J8,and_self,hb.len,w1];refine .no (decide_eq_false aar) ?_;have w2:IntKind.i64.wrap ((i:Int)+1)=((i+1:Nat):Int):=ab1;simp -implicitDefEqProofs only[go_sem,r0,r9,r10,r11,r3,w2];refine⟨ls.length - (i+1),aar,rfl,i+1,hlt2,rfl, ?_, ?_, ?_, ?_, ?_⟩<;>simp -implicitDefEqProofs only[go_sem,r0,r9,r10,r11,r3]
  ·have hge:i=ls.length:=by
    have:¬(i<ys.length):=by simpa using e
    omega
   subst hge;rw[List.take_length]at r3;simp -implicitDefEqProofs only[go_sem,r0,r9,r10,r11,r3];refine(L5 ls.flatten.length hl h').mono fun g1 h1 ⟨ha,hk⟩=> ?_
   simp -implicitDefEqProofs only[go_sem,r0,r9,r10,r11,r3];refine .intro (fun m ρ h2=>∃g:AV,∃i:Nat,Acc U 5 h' h2 g ((ls.take i).flatten.map aL)∧fA h' h2∧i≤ls.length∧m=ls.length - i∧lk ρ 25=some (.sl ys q)∧lk ρ 26=some (.i ys.length)∧
    lk ρ 27=some (.i i)∧lk ρ 6=some g) ls.length ?_ ?_
   ·refine⟨g1,0,ha,hk,Nat.zero_le _,rfl, ?_, ?_, ?_, ?_⟩<;>simp -implicitDefEqProofs only[go_sem]
    all_goals rfl
   ·rintro m ρ h2 ⟨g,i,ha,hk,hi,rfl,r25,r26,r27,r6⟩
    simp -implicitDefEqProofs only[go_sem,r25,r26,r27,r6];refine .intro (fun e=> ?_) (fun e=> ?_)
    ·have hlt:i<ys.length:=by simpa using e
     have hlt2:i<ls.length:=aar;have hb:=(hr.2 i hlt hlt2).fL hk;have t1:=nL ls (i+1);have t2:=mP ls i hlt2;simp -implicitDefEqProofs only[go_sem,r25,r26,r27,r6];refine .at i hlt (by rw[hb.cells];rfl) ?_
     simp -implicitDefEqProofs only[go_sem,r25,r26,r27,r6,hb.cells,hb.J8,and_self];refine ha.app (zs:=ls[i].map aL) (by rw[u5];decide) (by rw[PX];decide) (fun k hk=>by rw[hb.src u5];exact hk) (by rw[u5,iY];trivial) (by rw[u5,iY];trivial) ?_ fun g' h3 ha' hk' => ?_
     ·rw[PX,aah,aah]
      rw[t2,aal]at t1;omega
     ·have w2:IntKind.i64.wrap ((i:Int)+1)=((i+1:Nat):Int):=by rw[IntWalk.i64_in _ aar];omega
      simp -implicitDefEqProofs only[go_sem,r25,r26,r27,r6,w2];rw[←List.map_append,←t2]at ha';refine⟨ls.length - (i+1),aar,g',i+1,ha',hk.trans hk',hlt2,rfl, ?_, ?_, ?_, ?_⟩<;>simp -implicitDefEqProofs only[go_sem,r25,r26,r27,r6]
    ·have hge:i=ls.length:=by
      have:¬(i<ys.length):=by simpa using e
      omega
     subst hge;rw[List.take_length]at ha;simp -implicitDefEqProofs only[go_sem,r25,r26,r27,r6];exact .mk _ ha.weak (.refl _) ⟨rfl,ha.1⟩
structure D where
 q:Nat
 b:List UInt8
 sy:Nat
 f:Nat
 off:Bool
def D.ok(d:D):Prop:=d.b.length≤d.q∧d.q≤1048576∧d.sy≤d.b.length∧d.f<9223372036854775808
def D.burn(d:D):D:=if 0<d.f then {d with f:=d.f - 1,off:=decide (d.f=1)} else d
def D.cells(d:D)(y:AV):List AV:=[.i d.q,y,.i d.sy,.i d.f,.b d.off]
def bP(h:Heap)(id:Nat)(d:D):Prop:=∃y,h id=some (.obj (d.cells y) 96)∧By h y d.b
theorem bP.keep{h h' :Heap}{id:Nat}{d:D}(hd:bP h id d)(hs:fA h h'):bP h' id d:=by
 obtain⟨y,h1,h2⟩:=hd;exact⟨y,hs _ _ _ h1,h2.fL hs⟩
theorem By.set{h:Heap}{id:Nat}{x:AV}{l:List UInt8}{cs cs' :List AV}(hb:By h x l)(hid:h id=some (.obj cs 96)):By (upd h id (some (.obj cs' 96))) x l:=hb.keep (Keep.upd id _) hid aau
theorem Jm(q:Nat)(hq:q≤1048576)(h:Heap):
  ai Tryz.prog 13 [.i q] h fun r h' =>∃id,h id=none∧r= .tup [.ptr id 0,.i 0]∧bP h' id ⟨q,[],0,0,false⟩∧Sub h h' :=by
 refine aaq Tryz.func13 13 [.tmp 2,.tmp 3] fun hwf=> ?_
 simp -implicitDefEqProofs only[go_sem];refine .intro (fun e=>absurd (aaj e) aar) (fun e=> ?_)
 simp -implicitDefEqProofs only[go_sem];refine .no (decide_eq_false aar) ?_;simp -implicitDefEqProofs only[go_sem];intro id hid;simp -implicitDefEqProofs only[go_sem];exact .same (.refl _) ⟨id,hid,rfl,⟨_,ah ..,.inl ⟨.full,rfl⟩⟩,(Sub.refl h).new hid _⟩
theorem qu(d:D)(hd:d.ok)(id:Nat)(h:Heap)(y:AV)(hid:h id=some (.obj (d.cells y) 96)):
  ai Tryz.prog 87 [.ptr id 0] h fun r h' =>r= .b d.burn.off∧h' =upd h id (some (.obj (d.burn.cells y) 96)):=by
 obtain⟨q,b,sy,f,off⟩:=d;obtain⟨d1,d2,d3,d4⟩:=hd;simp only at d1 d2 d3 d4;simp only[D.cells]at hid;refine aaq Tryz.func87 27 [.tmp 2] fun hwf=> ?_
 simp -implicitDefEqProofs only[go_sem,hid];refine .intro (fun e=> ?_) (fun e=> ?_)
 ·have e:=aaj e
  have w1:IntKind.i64.wrap ((f:Int) - 1)=((f - 1:Nat):Int):=ab1;simp -implicitDefEqProofs only[go_sem,hid,w1];have hb:(((f - 1:Nat):Int)==0)=decide (f=1):=by
   by_cases h1:f=1
   ·simp[h1]
   ·have:f - 1≠0:=by omega
    simp[h1,Int.natCast_eq_zero,this]
  refine .same (.refl _) ⟨?_, ?_⟩
  ·simp only[D.burn,if_pos (show 0<f by omega),hb,au]
  ·simp only[D.burn,D.cells,if_pos (show 0<f by omega),hb]
 ·have e:=aak e
  have hf:¬0<f:=aar;simp -implicitDefEqProofs only[go_sem,hid];refine .same (.refl _) ⟨?_, ?_⟩
  ·simp only[D.burn,if_neg hf,au]
  ·simp only[D.burn,D.cells,if_neg hf]
   funext j
   simp only[upd];split
   ·rename_i e;subst e;exact hid
   ·rfl
theorem D.qu{d:D}(hd:d.ok):d.burn.ok:=by
 obtain⟨d1,d2,d3,d4⟩:=hd;unfold D.burn;split
 ·exact⟨d1,d2,d3,aas⟩
 ·exact⟨d1,d2,d3,d4⟩
theorem D.wG(d:D):d.burn.b=d.b:=by grind [D.burn]
theorem D.Jc(d:D):d.burn.q=d.q:=by grind [D.burn]
theorem D.LN(d:D):d.burn.sy=d.sy:=by grind [D.burn]
theorem L2(d:D)(hd:d.ok)(id:Nat)(h:Heap)(y:AV)(hid:h id=some (.obj (d.cells y) 96))(hb:By h y d.b):
  ai Tryz.prog 85 [.ptr id 0] h fun r h' =>r= .i (d.q - d.b.length:Nat)∧h' =h:=by
 obtain⟨q,b,sy,f,off⟩:=d;obtain⟨d1,d2,d3,d4⟩:=hd;simp only at d1 d2 d3 d4 hb;simp only[D.cells]at hid;refine aaq Tryz.func85 13 [.tmp 2] fun hwf=> ?_
 have w1:IntKind.i64.wrap ((q:Int) - b.length)=((q - b.length:Nat):Int):=ab1;simp -implicitDefEqProofs only[go_sem,hid,hb.len,w1];exact⟨.of aav,.same (.refl _) ⟨rfl,rfl⟩⟩
theorem Pe(d:D)(id:Nat)(h:Heap)(y:AV)(hid:h id=some (.obj (d.cells y) 96))(hb:By h y d.b):
  ai Tryz.prog 29 [.ptr id 0] h fun r h' =>r= .i d.b.length∧h' =h:=by
 simp only[D.cells]at hid;refine aaq Tryz.func29 8 [.tmp 2] fun hwf=> ?_
 simp -implicitDefEqProofs only[go_sem,hid,hb.len];exact aaD
theorem MD(d:D)(hd:d.ok)(id:Nat)(h:Heap)(y:AV)(hid:h id=some (.obj (d.cells y) 96))(hb:By h y d.b):
  ai Tryz.prog 103 [.ptr id 0] h fun r h' =>r= .sl (d.b.map aL) .no∧h' =h:=by
 obtain⟨d1,d2,d3,d4⟩:=hd;simp only[D.cells]at hid;refine aaq Tryz.func103 8 [.tmp 2] fun hwf=> ?_
 simp -implicitDefEqProofs only[go_sem,hid];refine(pn y d.b h hb aar).mono fun r h' ⟨e1,e2⟩=> ?_
 subst e1;subst e2
 simp -implicitDefEqProofs only[go_sem];exact aaD
def D.append(d:D)(b:List UInt8):D×Nat:=
 if d.off then(d,9)else if d.q<d.b.length+b.length then(d,8)else
  let e:=D.burn {d with b:=d.b++b}
  (e,if e.off then 9 else 0)
def D.sync(d:D):D×Nat:=
 if d.off then(d,9)else if d.burn.off then(d.burn,9)else({d.burn with sy:=d.b.length},0)
def D.cut(d:D)(n:Int):D×Nat:=
 if d.off then(d,9)else if n<0∨(d.b.length:Int)<n then(d,1)else
  if d.burn.off then(d.burn,9)else({d.burn with b:=d.b.take n.toNat,sy:=min d.sy n.toNat},0)
theorem D.tv{d:D}(hd:d.ok)(b:List UInt8):(d.append b).1.ok:=by
 unfold D.append;split
 ·omega
 ·split
  ·omega
  ·refine D.qu ⟨?_,hd.2.1, ?_,hd.2.2.2⟩
   ·grind
   ·have:=hd.2.2.1
    grind
theorem D.DR{d:D}(hd:d.ok)(n:Int):(d.cut n).1.ok:=by
 have hb:=D.qu hd;unfold D.cut;split
 ·exact hd
 ·split
  ·exact hd
  ·split
   ·exact hb
   ·obtain⟨d1,d2,d3,d4⟩:=hb
    obtain⟨e1,e2,e3,e4⟩:=hd;refine⟨?_, ?_, ?_,d4⟩
    ·grind [D.Jc,List.length_take]
    ·grind [D.Jc]
    grind
theorem tv(d:D)(hd:d.ok)(id:Nat)(h:Heap)(x:AV)(b:List UInt8)(hdk:bP h id d)(hx:By h x b)(hl:b.length≤1000000000):
  ai Tryz.prog 34 [.ptr id 0,x] h fun r h' =>r= .v (.int .i64 (d.append b).2)∧bP h' id (d.append b).1∧Keep id h h' :=by
 obtain⟨y,hid0,hb⟩:=hdk;have hid:=hid0;simp only[D.cells]at hid;have hok:=hd;obtain⟨d1,d2,d3,d4⟩:=hd;refine aaq Tryz.func34 26 [.tmp 4] fun hwf=> ?_
 simp -implicitDefEqProofs only[go_sem,hid];refine .intro (fun e=> ?_) (fun e=> ?_)
 ·simp -implicitDefEqProofs only[go_sem]
  refine .same (.refl _) ?_;simp only[D.append,e,if_true,au];exact abP
 ·simp -implicitDefEqProofs only[go_sem,hid,hx.len]
  refine(L2 d hok id h y hid0 hb).mono fun r h' ⟨e1,e2⟩=> ?_
  subst e1;subst e2
  simp -implicitDefEqProofs only[go_sem];refine .intro (fun e2=> ?_) (fun e2=> ?_)
  ·have e2:=aaj e2
   simp -implicitDefEqProofs only[go_sem];refine .same (.refl _) ?_;simp only[D.append,e,if_pos (show d.q<d.b.length+b.length by omega),au]
   exact abP
  ·have e2:=aak e2
   have hno:¬d.q<d.b.length+b.length:=aar;simp -implicitDefEqProofs only[go_sem,hid,hb.fit,hx.fit];refine(zv [y,x] [d.b,b] .full h' (.cons hb (.cons hx .nil)) ?_ aaz).mono fun r h1 ⟨e1,hs⟩=> ?_
   ·simp only[List.flatten_cons,List.flatten_nil,List.append_nil,aal];omega
   ·subst e1
    have hid1:=hs _ _ hid;simp -implicitDefEqProofs only[go_sem,hid1];have hok2:D.ok {d with b:=d.b++b}:=⟨by show(d.b++b).length≤d.q;rw[aal];omega,d2,by show d.sy≤(d.b++b).length;rw[aal];omega,d4⟩
    refine(qu {d with b:=d.b++b} hok2 id _ (.sl ((d.b++b).map aL) .no) ?_).mono fun r h2 ⟨e1,e2⟩=> ?_
    ·rw[ah]
     simp only[D.cells,List.flatten_cons,List.flatten_nil,List.append_nil]
    ·subst e1;subst e2
     have hk:Keep id h' (upd (upd h1 id (some (.obj (d.cells (.sl ((d.b++b).map aL) .no)) 96))) id (some (.obj ((D.burn {d with b:=d.b++b}).cells (.sl ((d.b++b).map aL) .no)) 96))):=
      (hs.keep id).trans ((Keep.upd id _).trans (Keep.upd id _))
     have hA:d.append b=(D.burn {d with b:=d.b++b},if(D.burn {d with b:=d.b++b}).off then 9 else 0):=by
      unfold D.append;rw[if_neg (by simp[e]),if_neg hno]
     simp -implicitDefEqProofs only[go_sem];refine .intro (fun e3=> ?_) (fun e3=> ?_)
     ·simp -implicitDefEqProofs only[go_sem]
      refine .same (.refl _) ?_;rw[hA,if_pos e3];refine⟨rfl,⟨_,ah .., ?_⟩,fun j k hj hk2=> ?_⟩
      ·simp only[D.wG];exact .sl _ _
      ·rw[ag _ _ hj];exact hs _ _ hk2
     ·simp -implicitDefEqProofs only[go_sem]
      refine .same (.refl _) ?_;rw[hA,if_neg (by simp[e3])]
      refine⟨rfl,⟨_,ah .., ?_⟩,fun j k hj hk2=> ?_⟩
      ·simp only[D.wG];exact .sl _ _
      ·rw[ag _ _ hj];exact hs _ _ hk2
theorem Gh(d:D)(hd:d.ok)(id:Nat)(h:Heap)(hdk:bP h id d):
  ai Tryz.prog 105 [.ptr id 0] h fun r h' =>r= .i d.sync.2∧bP h' id d.sync.1∧Keep id h h' :=by
 obtain⟨y,hid0,hb⟩:=hdk;have hid:=hid0;simp only[D.cells]at hid;refine aaq Tryz.func105 19 [.tmp 2] fun hwf=> ?_
 simp -implicitDefEqProofs only[go_sem,hid];refine .intro (fun e=> ?_) (fun e=> ?_)
 ·simp -implicitDefEqProofs only[go_sem,e]
  refine .same (.refl _) ?_;simp only[D.sync,e,if_true,au];exact abP
 ·simp -implicitDefEqProofs only[go_sem,e]
  refine(qu d hd id h y hid0).mono fun r h1 ⟨e1,e2⟩=> ?_
  subst e1;subst e2
  simp -implicitDefEqProofs only[go_sem];refine .intro (fun e3=> ?_) (fun e3=> ?_)
  ·simp -implicitDefEqProofs only[go_sem]
   refine .same (.refl _) ?_;rw[show d.sync=(d.burn,9) by unfold D.sync;rw[if_neg (by simp[e]),if_pos e3]]
   exact⟨rfl,⟨_,ah ..,by rw[D.wG];exact hb.set hid⟩,Keep.upd id _⟩
  ·simp only[D.cells]
   simp -implicitDefEqProofs only[go_sem,hb.len];refine .same (.refl _) ?_;rw[show d.sync=({d.burn with sy:=d.b.length},0) by unfold D.sync;rw[if_neg (by simp[e]),if_neg (by simp[e3])]]
   exact⟨rfl,⟨_,ah ..,by show By _ _ d.burn.b;rw[D.wG];exact hb.set hid⟩,Keep.upd id _⟩
theorem DR(d:D)(hd:d.ok)(id:Nat)(h:Heap)(n:Int)(hdk:bP h id d):
  ai Tryz.prog 104 [.ptr id 0,.i n] h fun r h' =>r= .v (.int .i64 (d.cut n).2)∧bP h' id (d.cut n).1∧Keep id h h' :=by
 obtain⟨y,hid0,hb⟩:=hdk;have hid:=hid0;simp only[D.cells]at hid;have hok:=hd;obtain⟨d1,d2,d3,d4⟩:=hd;refine aaq Tryz.func104 41 [.tmp 4] fun hwf=> ?_
 simp -implicitDefEqProofs only[go_sem,hid];refine .intro (fun e=> ?_) (fun e=> ?_)
 ·simp -implicitDefEqProofs only[go_sem]
  refine .same (.refl _) ?_;simp only[D.cut,e,if_true,au];exact abP
 ·simp -implicitDefEqProofs only[go_sem,hid]
  have bad:(n<0∨(d.b.length:Int)<n)→mb [.i 1] h fun r h' =>r= .v (.int .i64 (d.cut n).2)∧bP h' id (d.cut n).1∧Keep id h h' :=fun hbad=>by
   refine .same (.refl _) ?_;simp only[D.cut,e,if_pos hbad,au];exact abP
  refine .intro (fun e2=> ?_) (fun e2=> ?_)
  ·have e2' :=aaj e2
   simp -implicitDefEqProofs only[go_sem,e2];exact bad (.inl e2')
  ·have e2' :=aak e2
   simp -implicitDefEqProofs only[go_sem,e2,hid,hb.len];refine .intro (fun e3=> ?_) (fun e3=> ?_)
   ·have e3' :=aaj e3
    simp -implicitDefEqProofs only[go_sem];exact bad (.inr e3')
   ·have e3' :=aak e3
    have hno:¬(n<0∨(d.b.length:Int)<n):=aar;simp -implicitDefEqProofs only[go_sem];refine(qu d hok id h y hid0).mono fun r h1 ⟨e1,e2⟩=> ?_
    subst e1;subst e2
    simp -implicitDefEqProofs only[go_sem];refine .intro (fun e4=> ?_) (fun e4=> ?_)
    ·simp -implicitDefEqProofs only[go_sem]
     refine .same (.refl _) ?_;rw[show d.cut n=(d.burn,9) by unfold D.cut;rw[if_neg (by simp[e]),if_neg hno,if_pos e4]]
     exact⟨rfl,⟨_,ah ..,by rw[D.wG];exact hb.set hid⟩,Keep.upd id _⟩
    ·have hb1:By (upd h id (some (.obj (d.burn.cells y) 96))) y d.b:=hb.set hid
     simp only[D.cells]at hb1⊢;simp -implicitDefEqProofs only[go_sem];refine hb1.take (m:=n) (x:=.i64) n.toNat ?_ aar aar u5 fun z hz=> ?_
     ·simp -implicitDefEqProofs only[go_sem]
     ·simp -implicitDefEqProofs only[go_sem]
      refine(pn z _ _ hz ack).mono fun r h1 ⟨e1,e2⟩=> ?_
      subst e1;subst e2
      simp -implicitDefEqProofs only[go_sem];refine .same (.refl _) ?_;rw[show d.cut n=({d.burn with b:=d.b.take n.toNat,sy:=min d.sy n.toNat},0) by unfold D.cut;rw[if_neg (by simp[e]),if_neg hno,if_neg (by simp[e4])]]
      refine⟨rfl,⟨.sl ((d.b.take n.toNat).map aL) .no, ?_,.sl _ _⟩,Keep.upd id _⟩;simp only[ah,D.cells,D.LN];have:(if n<(d.sy:Int)then n else(d.sy:Int))=((min d.sy n.toNat:Nat):Int):=by split<;>omega
      rw[this]
theorem D.LG{d:D}{b:List UInt8}(h1:d.off=false)(h2:d.f=0)(h3:d.b.length+b.length≤d.q):d.append b=({d with b:=d.b++b},0):=by
 rcases d with⟨q,b0,sy,f,off⟩
 subst h1;subst h2
 unfold D.append;rw[if_neg aaz,if_neg aas];rfl
theorem D.NV{d:D}(h1:d.off=false)(h2:d.f=0):d.sync=({d with sy:=d.b.length},0):=by
 simp_all [D.sync,D.burn,if_neg]
theorem dthen{f:FuncId}{args:List AV}{h:Heap}{Q:AV→Heap→Prop}{X:AV}{id:Nat}{d:D}(hf:ai Tryz.prog f args h fun r h' =>r=X∧bP h' id d∧Keep id h h')(k:∀h',bP h' id d→Keep id h h'→Q X h'):ai Tryz.prog f args h Q:=
 hf.mono fun r h' ⟨e1,e2,e3⟩=>by subst e1;exact k h' e2 e3
theorem Ky(d:D)(hk:d.ok)(id:Nat)(h:Heap)(hd:bP h id d):ai Tryz.prog 103 [.ptr id 0] h fun r h' =>r= .sl (d.b.map aL) .no∧h' =h:=by
 obtain⟨y,h1,h2⟩:=hd;exact MD d hk id h y h1 h2
theorem Mh(d:D)(id:Nat)(h:Heap)(hd:bP h id d):ai Tryz.prog 29 [.ptr id 0] h fun r h' =>r= .i d.b.length∧h' =h:=by
 obtain⟨y,h1,h2⟩:=hd;exact Pe d id h y h1 h2
theorem j9{d:D}{b:List UInt8}(h1:d.off=false)(h2:d.b.length+b.length≤d.q):d.append b=(D.burn {d with b:=d.b++b},if(D.burn {d with b:=d.b++b}).off then 9 else 0):=by
 simp_all [D.append,if_neg]
theorem D.Np{d:D}(h:d.f=0):d.burn=d:=by simp_all [D.burn,if_neg]
theorem D.UL{d:D}(h1:d.off=false)(h2:d.f=0){n:Nat}(h3:n≤d.b.length):d.cut n=({d with b:=d.b.take n,sy:=min d.sy n},0):=by
 simp_all [D.cut,if_neg,D.Np]
def AR(s:BitVec 32):BitVec 32:=if s &&& 1#32=1#32 then(s>>>1) ^^^ 0xedb88320#32 else s>>>1
def GI:Nat→BitVec 32→BitVec 32
 |0,s=>s
 |n+1,s=>AR (GI n s)
def qv(s:BitVec 32)(c:UInt8):BitVec 32:=GI 8 (s ^^^ BitVec.ofNat 32 c.toNat)
def crc(l:List UInt8):BitVec 32:= ~~~ (l.foldl qv (BitVec.allOnes 32))
theorem Oz(c:UInt8):IntKind.u32.wrap (c.toNat:Int)=((BitVec.ofNat 32 c.toNat).toNat:Int):=by
 rfl
theorem ED(x:BitVec 32):(((x &&& 1#32).toNat:Int)==1)=decide (x &&& 1#32=1#32):=by
 rw[Bool.eq_iff_iff,beq_iff_eq,decide_eq_true_iff];constructor
 ·intro h
  apply BitVec.eq_of_toNat_eq
  grind
 grind
theorem KR(y:AV)(l:List UInt8)(h:Heap)(hb:By h y l)(hl:l.length≤1000000000):
  ai Tryz.prog 89 [y] h fun r h' =>r= .v (.int .u32 ((crc l).toNat:Int))∧h' =h:=by
 refine aaq Tryz.func89 31 [.tmp 2] fun hwf=> ?_
 simp -implicitDefEqProofs only[go_sem,hb.len];refine .intro (fun m ρ h' =>h' =h∧∃i:Nat,i≤l.length∧m=l.length - i∧lk ρ 7=some y∧lk ρ 8=some (.i l.length)∧lk ρ 9=some (.i i)∧lk ρ 3=some (.v (.int .u32 (((l.take i).foldl qv (BitVec.allOnes 32)).toNat:Int)))) l.length ?_ ?_
 ·refine⟨rfl,0,aar,rfl, ?_, ?_, ?_, ?_⟩<;>simp -implicitDefEqProofs only[go_sem]
  rfl
 ·rintro m ρ h' ⟨rfl,i,hi,rfl,r7,r8,r9,r3⟩
  simp -implicitDefEqProofs only[go_sem,r7,r8,r9,r3];refine .intro (fun e=> ?_) (fun e=> ?_)
  ·have hlt:i<l.length:=aao e
   have w1:IntKind.i64.wrap ((i:Int)+1)=((i+1:Nat):Int):=aaE;have hs:(l.take (i+1)).foldl qv (BitVec.allOnes 32)=qv ((l.take i).foldl qv (BitVec.allOnes 32)) l[i]:=by
    grind [List.take_succ_eq_append_getElem]
   generalize (l.take i).foldl qv (BitVec.allOnes 32)=s at r3 hs;simp -implicitDefEqProofs only[go_sem,r7,r8,r9,r3];refine hb.idx i rfl hlt u5 u5a fun p hp=> ?_
   simp -implicitDefEqProofs only[go_sem,r7,r8,r9,r3,hp _,Oz];refine .intro (fun m ρ h2=>h2=h'∧∃j:Nat,j≤8∧m=8 - j∧lk ρ 7=some y∧lk ρ 8=some (.i l.length)∧lk ρ 9=some (.i i)∧lk ρ 17=some (.i j)∧lk ρ 3=some (.v (.int .u32 ((GI j (s ^^^ BitVec.ofNat 32 l[i].toNat)).toNat:Int)))) 8 ?_ ?_
   ·refine⟨rfl,0,aar,rfl, ?_, ?_, ?_, ?_, ?_⟩<;>simp -implicitDefEqProofs only[go_sem,r7,r8,r9,r3]
    rfl
   ·rintro m ρ h2 ⟨rfl,j,hj,rfl,q7,q8,q9,q17,q3⟩
    simp -implicitDefEqProofs only[go_sem,q7,q8,q9,q17,q3];refine .intro (fun e=> ?_) (fun e=> ?_)
    ·have hjl:j<8:=by grind
     have w2:IntKind.i64.wrap ((j:Int)+1)=((j+1:Nat):Int):=aaE;have hc:GI (j+1) (s ^^^ BitVec.ofNat 32 l[i].toNat)=AR (GI j (s ^^^ BitVec.ofNat 32 l[i].toNat)):=rfl;generalize GI j (s ^^^ BitVec.ofNat 32 l[i].toNat)=z at q3 hc;simp -implicitDefEqProofs only[go_sem,q7,q8,q9,q17,q3,ED];refine .intro (fun e2=> ?_) (fun e2=> ?_)
     ·simp -implicitDefEqProofs only[go_sem,q7,q8,q9,q17,q3,ED,w2]
      refine⟨_, ?_,rfl,j+1,aar,rfl, ?_, ?_, ?_, ?_, ?_⟩
      rotate_left 5
      ·simp -implicitDefEqProofs only[go_sem,q7,q8,q9,q17,q3]
       simp_all [AR,if_pos,aaj]
      ·omega
      all_goals simp -implicitDefEqProofs only[go_sem,q7,q8,q9,q17,q3,w2]
     ·simp -implicitDefEqProofs only[go_sem,q7,q8,q9,q17,q3,ED,w2]
      refine⟨_, ?_,rfl,j+1,aar,rfl, ?_, ?_, ?_, ?_, ?_⟩
      rotate_left 5
      ·simp -implicitDefEqProofs only[go_sem,q7,q8,q9,q17,q3]
       simp_all [AR,if_neg,aak]
      ·omega
      all_goals simp -implicitDefEqProofs only[go_sem,q7,q8,q9,q17,q3,w2]
    ·have hj8:j=8:=by grind
     subst hj8;simp -implicitDefEqProofs only[go_sem,q7,q8,q9,q17,q3,w1];refine⟨_, ?_,rfl,i+1,aar,rfl, ?_, ?_, ?_, ?_⟩
     rotate_left 4
     ·simp -implicitDefEqProofs only[go_sem,q7,q8,q9,q17,q3]
      rw[hs];rfl
     ·omega
     all_goals simp -implicitDefEqProofs only[go_sem,q7,q8,q9,q17,q3,w1]
  ·have hge:i=l.length:=by grind
   subst hge;rw[List.take_length]at r3;simp -implicitDefEqProofs only[go_sem,r7,r8,r9,r3];exact aaD
def u0(n:Nat):List UInt8:=[UInt8.ofNat n,UInt8.ofNat (n / 256),UInt8.ofNat (n / 65536),UInt8.ofNat (n / 16777216)]
def iD(l:List UInt8):Nat:=(l.getD 0 0).toNat+(l.getD 1 0).toNat*256+(l.getD 2 0).toNat*65536+(l.getD 3 0).toNat*16777216
theorem FA(n:Nat)(hn:n<4294967296)(h:Heap):ai Tryz.prog 88 [.v (.int .u32 (n:Int))] h fun r h' =>r= .sl ((u0 n).map aL) .no∧h' =h:=by
 refine aaq Tryz.func88 15 [.tmp 2] fun hwf=> ?_
 have s8:=fun K=>Jb (U:=U) (ty:=153) (K:=K) n 8 .u64 aau
 have s16:=fun K=>Jb (U:=U) (ty:=153) (K:=K) n 16 .u64 aau
 have s24:=fun K=>Jb (U:=U) (ty:=153) (K:=K) n 24 .u64 aau
 simp only[Int.cast_ofNat_Int]at s8 s16 s24;simp -implicitDefEqProofs only[go_sem,↓s8,↓s16,↓s24,w8];exact acF
theorem B8(y:AV)(l:List UInt8)(h:Heap)(hb:By h y l)(hl:4≤l.length):ai Tryz.prog 195 [y] h fun r h' =>r= .v (.int .u32 (iD l:Nat))∧h' =h:=by
 refine aaq Tryz.func195 25 [.tmp 2] fun hwf=> ?_
 have lt:∀c:UInt8,c.toNat<256:=fun c=>c.toNat_lt
 have hnum:iD l=l[0].toNat+l[1].toNat*2 ^ 8+l[2].toNat*2 ^ 16+l[3].toNat*2 ^ 24:=by
  grind [iD]
 generalize hc0:l[0]=c0 at hnum;generalize hc1:l[1]=c1 at hnum;generalize hc2:l[2]=c2 at hnum;generalize hc3:l[3]=c3 at hnum;have v:=fun c:UInt8=>w32 c.toNat aas
 have s1:=fun K=>DH (U:=U) (ty:=153) (K:=K) c1.toNat 8 .u64 aau (lt _)
 have s2:=fun K=>DH (U:=U) (ty:=153) (K:=K) c2.toNat 16 .u64 aau (lt _)
 have s3:=fun K=>DH (U:=U) (ty:=153) (K:=K) c3.toNat 24 .u64 aau (lt _)
 have o1:=fun K=>Ja (U:=U) (ty:=153) (K:=K) c0.toNat c1.toNat 8 aas aau (lt _)
 have o2:=fun K=>Ja (U:=U) (ty:=153) (K:=K) (c0.toNat+c1.toNat*2 ^ 8) c2.toNat 16 aas aau (lt _)
 have o3:=fun K=>Ja (U:=U) (ty:=153) (K:=K) (c0.toNat+c1.toNat*2 ^ 8+c2.toNat*2 ^ 16) c3.toNat 24 aas aau (lt _)
 simp only[Int.cast_ofNat_Int]at s1 s2 s3;simp -implicitDefEqProofs only[go_sem];refine⟨.of aav, ?_⟩;refine hb.idx 0 rfl aar u5 u5a fun p0 hp0=> ?_
 rw[hc0]at hp0;simp -implicitDefEqProofs only[go_sem,hp0 _,v];refine hb.idx 1 rfl aar u5 u5a fun p1 hp1=> ?_
 rw[hc1]at hp1;simp -implicitDefEqProofs only[go_sem,hp1 _,v,↓s1,↓o1];refine hb.idx 2 rfl aar u5 u5a fun p2 hp2=> ?_
 rw[hc2]at hp2;simp -implicitDefEqProofs only[go_sem,hp2 _,v,↓s2,↓o2];refine hb.idx 3 rfl aar u5 u5a fun p3 hp3=> ?_
 rw[hc3]at hp3;simp -implicitDefEqProofs only[go_sem,hp3 _,v,↓s3,↓o3];refine .same (.refl _) ⟨?_,rfl⟩;rw[hnum];rfl
theorem sk(n:Nat):(u0 n).length=4:=rfl
theorem Ms(l:List UInt8):iD l<4294967296:=by
 have h:∀c:UInt8,c.toNat<256:=fun c=>c.toNat_lt
 have h0:=h (l.getD 0 0);have h1:=h (l.getD 1 0);have h2:=h (l.getD 2 0);have h3:=h (l.getD 3 0);unfold iD;omega
def frame(p:List UInt8):List UInt8:=u0 p.length++u0 (crc p).toNat++p
theorem sn(p:List UInt8):(frame p).length=8+p.length:=by grind [frame,sk]
def gA(l:List UInt8):Option (List UInt8):=
 if l.length<8 then none else if iD l<1∨8192<iD l∨l.length - 8<iD l then none else
  if(crc ((l.drop 8).take (iD l))).toNat=iD (l.drop 4)then some ((l.drop 8).take (iD l))else none
theorem mh{l p:List UInt8}(h:gA l=some p):8+p.length≤l.length∧1≤p.length∧p.length≤8192:=by
 unfold gA at h;split at h
 ·cases h
 ·split at h
  ·cases h
  ·split at h
   ·simp only[Option.some.injEq]at h
    subst h;rw[List.length_take,List.length_drop];omega
   ·cases h
theorem qR(l:List UInt8)(h:l.length<8):gA l=none:=by simp_all [gA,if_pos]
def scan(l:List UInt8):List (List UInt8)×Nat:=match h:gA l with
 |none=>([],0)
 |some p=>let r:=scan (l.drop (8+p.length));(p::r.1,8+p.length+r.2)
termination_by l.length
decreasing_by
 have:=mh h;rw[List.length_drop];omega
theorem qG{l:List UInt8}(h:gA l=none):scan l=([],0):=by
 grind [scan]
theorem uo{l p:List UInt8}(h:gA l=some p):scan l=(p::(scan (l.drop (8+p.length))).1,8+p.length+(scan (l.drop (8+p.length))).2):=by
 grind [scan]
theorem Gb(l:List UInt8):(scan l).2≤l.length:=by
 induction hn:l.length using Nat.strongRecOn generalizing l with
 |_ n ih=>
  cases hb:gA l with
  |none=>simp_all [qG,Nat.zero_le]
  |some p=>
   have hl:=mh hb;rw[uo hb];have:=ih (l.drop (8+p.length)).length aas _ rfl;rw[List.length_drop]at this;omega
theorem Jz(y:AV)(l:List UInt8)(h:Heap)(hb:By h y l)(hl:l.length≤1000000):
  ai Tryz.prog 35 [y] h fun r h' =>r= .sl ((frame l).map aL) .no∧Sub h h' :=by
 refine aaq Tryz.func35 13 [.tmp 2] fun hwf=> ?_
 have w1:=w32 l.length aar;simp -implicitDefEqProofs only[go_sem,hb.len,w1];refine(FA l.length aar h).pthen ?_;simp -implicitDefEqProofs only[go_sem];refine(KR y l h hb aar).pthen ?_;simp -implicitDefEqProofs only[go_sem];refine(FA (crc l).toNat (crc l).isLt h).pthen ?_;simp -implicitDefEqProofs only[go_sem,hb.cells,hb.fit];refine(zv [.sl ((u0 l.length).map aL) .no,.sl ((u0 (crc l).toNat).map aL) .no,y] [u0 l.length,u0 (crc l).toNat,l] .full h (.cons (.sl _ _) (.cons (.sl _ _) (.cons hb .nil))) ?_ aaz).sthen fun h' hs=> ?_
 ·grind [sk]
 simp -implicitDefEqProofs only[go_sem];refine .same (.refl _) ⟨?_,hs⟩;simp[frame,au]
theorem A0(y:AV)(l:List UInt8)(h:Heap)(hb:By h y l)(hl:l.length≤2000000):
  ai Tryz.prog 157 [y] h fun r h' =>(∃P p b,r= .tup [P,.b b]∧By h P p∧gA l=if b=true then some p else none)∧h' =h:=by
 refine aaq Tryz.func157 36 [.tmp 2,.tmp 3] fun hwf=> ?_
 rcases Nat.lt_or_ge l.length 8 with h8|h8
 ·have t1:decide ((l.length:Int)<8)=true:=decide_eq_true aar
  simp -implicitDefEqProofs only[go_sem,hb.len,t1];exact .same (.refl _) ⟨⟨_,[],false,rfl,.nil _,qR l h8⟩,rfl⟩
 ·have t1:decide ((l.length:Int)<8)=false:=decide_eq_false aar
  simp -implicitDefEqProofs only[go_sem,hb.len,t1];refine(B8 y l h hb aar).pthen ?_;have hn:=Ms l;have w1:IntKind.i64.wrap ((iD l:Nat):Int)=((iD l:Nat):Int):=bg _ aar;have w2:IntKind.i64.wrap ((l.length:Int) - 8)=((l.length - 8:Nat):Int):=aaV
  by_cases hbad:iD l<1∨8192<iD l∨l.length - 8<iD l
  ·have hnone:gA l=none:=by unfold gA;rw[if_neg aar,if_pos hbad]
   have fin:∀Z:Prop,Z→Z:=fun _ z=>z
   by_cases c1:iD l<1
   ·have t2:decide (((iD l:Nat):Int)<1)=true:=decide_eq_true aar
    simp -implicitDefEqProofs only[go_sem,hb.len,w1,w2,t2];exact abN
   ·have t2:decide (((iD l:Nat):Int)<1)=false:=decide_eq_false aar
    by_cases c2:8192<iD l
    ·have t3:decide ((8192:Int)<((iD l:Nat):Int))=true:=decide_eq_true aar
     simp -implicitDefEqProofs only[go_sem,hb.len,w1,w2,t2,t3];exact abN
    ·have t3:decide ((8192:Int)<((iD l:Nat):Int))=false:=decide_eq_false aar
     have t4:decide (((l.length - 8:Nat):Int)<((iD l:Nat):Int))=true:=decide_eq_true aar;simp -implicitDefEqProofs only[go_sem,hb.len,w1,w2,t2,t3,t4];exact abN
  ·have t2:decide (((iD l:Nat):Int)<1)=false:=decide_eq_false aar
   have t3:decide ((8192:Int)<((iD l:Nat):Int))=false:=decide_eq_false aar;have t4:decide (((l.length - 8:Nat):Int)<((iD l:Nat):Int))=false:=decide_eq_false aar;have w3:IntKind.i64.wrap ((8:Int)+((iD l:Nat):Int))=((8+iD l:Nat):Int):=aaV;simp -implicitDefEqProofs only[go_sem,hb.len,w1,w2,t2,t3,t4,w3];refine hb.cut (m:=8) (m2:=(8+iD l:Nat)) (x:=.i64) (x2:=.i64) 8 (8+iD l) ?_ rfl ?_ rfl aar aar u5 fun z hz=> ?_
   ·simp -implicitDefEqProofs only[go_sem]
   ·simp -implicitDefEqProofs only[go_sem]
   rw[Nat.add_sub_cancel_left]at hz;have hzl:((l.drop 8).take (iD l)).length≤1000000:=by rw[List.length_take,List.length_drop];omega
   simp -implicitDefEqProofs only[go_sem];refine .quiet aav ?_;simp -implicitDefEqProofs only[go_sem];refine⟨_,KR z _ h hz aar, ?_⟩;simp -implicitDefEqProofs only[go_sem];refine hb.from (m:=4) (x:=.i64) 4 ?_ rfl aar u5 fun z4 hz4=> ?_
   ·simp -implicitDefEqProofs only[go_sem]
   simp -implicitDefEqProofs only[go_sem];refine⟨_,B8 z4 _ h hz4 acj, ?_⟩;simp -implicitDefEqProofs only[go_sem];refine .same (.refl _) ⟨⟨z,_,_,rfl,hz, ?_⟩,rfl⟩;unfold gA;rw[if_neg aar,if_neg hbad]
   by_cases hc:(crc ((l.drop 8).take (iD l))).toNat=iD (l.drop 4)
   ·rw[if_pos hc,hc];simp
   ·rw[if_neg hc,if_neg]
    simp only[beq_iff_eq];omega
theorem MU:(U 41).bytes=24:=aaG
def jS(p:List UInt8):AV:=.sl (p.map aL) .no
theorem Ga(ps:List (List UInt8))(h:Heap):Ab.Rows 5 h (ps.map jS) ps:=⟨aaz,fun i h1 h2=>by simp only[aai];exact .sl _ _⟩
theorem ye(ps:List (List UInt8)):Sized 1 (ps.map jS):=(Ga ps di).sized
def gH(h:Heap)(y:AV)(xs:List AV)(sp:List Nat):Prop:=(y= .sl xs .full∧sp= [])∨∃k,y= .sl xs (.own k)∧h k=some (.spare xs.length 1)∧sp= [k]
theorem Ie{l:List UInt8}{at_:Nat}{ps:List (List UInt8)}{p:List UInt8}(h:scan l=(ps++(scan (l.drop at_)).1,at_+(scan (l.drop at_)).2))(hp:gA (l.drop at_)=some p):
  scan l=((ps++ [p])++(scan (l.drop (at_+(8+p.length)))).1,(at_+(8+p.length))+(scan (l.drop (at_+(8+p.length)))).2):=by
 simp_all [uo,List.drop_drop,Nat.add_assoc]
theorem MJ(y:AV)(l:List UInt8)(h:Heap)(hb:By h y l)(hl:l.length≤2000000):
  ai Tryz.prog 102 [y] h fun r h' =>∃z sp,r= .tup [z,.i ((scan l).2:Nat)]∧gH h' z ((scan l).1.map jS) sp∧Sub h h'∧∀i∈sp,h i=none:=by
 refine aaq Tryz.func102 29 [.tmp 2,.tmp 3] fun hwf=> ?_
 simp -implicitDefEqProofs only[go_sem];refine .intro (fun m ρ h' =>∃(i:Nat) (ps:List (List UInt8)) (z:AV),Acc U 41 h h' z (ps.map jS)∧fA h h'∧ps.length≤i∧i≤l.length∧m=l.length - i∧scan l=(ps++(scan (l.drop i)).1,i+(scan (l.drop i)).2)∧
  lk ρ 0=some y∧lk ρ 4=some z∧lk ρ 5=some (.i (i:Nat))) l.length ?_ ?_
 ·refine⟨0,[],_,.full (.refl h),.refl h,aaz,aar,rfl,aaz, ?_, ?_, ?_⟩<;>simp -implicitDefEqProofs only[go_sem]
 ·rintro m ρ h' ⟨i,ps,z,ha,hk,hpi,hi,rfl,hsc,r0,r4,r5⟩
  have hb' :=hb.fL hk;simp -implicitDefEqProofs only[go_sem,r0,r4,r5];refine hb'.from (m:=i) (x:=.i64) i ?_ rfl hi u5 fun y2 hy2=> ?_
  ·rfl
  simp -implicitDefEqProofs only[go_sem,r0,r4,r5];refine(A0 y2 (l.drop i) h' hy2 aas).mono fun r h2 ⟨⟨P,p,b,e1,hP,hbg⟩,e2⟩=> ?_
  subst e1;subst e2
  cases b with
  |false=>
   rw[if_neg aaz]at hbg;rw[qG hbg]at hsc;simp -implicitDefEqProofs only[go_sem,r0,r4,r5];have hs:=ha.1;rw[hsc];rcases ha.2 with rfl|⟨k,k1,rfl,k2⟩
   ·exact .same (.refl _) ⟨_,[],rfl,.inl ⟨aaz,rfl⟩,hs,aaz⟩
   ·rw[u27]at k2
    exact .same (.refl _) ⟨_,[k],rfl,.inr ⟨k,aaz,aas,rfl⟩,hs,aas⟩
  |true=>
   rw[if_pos rfl]at hbg;have hpl:=mh hbg;rw[List.length_drop]at hpl;have hsc' :=Ie hsc hbg;have w1:IntKind.i64.wrap ((8:Int)+(p.length:Int))=((8+p.length:Nat):Int):=aaE;have w2:IntKind.i64.wrap ((i:Int)+((8+p.length:Nat):Int))=((i+(8+p.length):Nat):Int):=aaE;simp -implicitDefEqProofs only[go_sem,r0,r4,r5];refine(pn P p h2 hP aar).pthen' ?_;simp -implicitDefEqProofs only[go_sem,r0,r4,r5];refine ha.app (zs:=[jS p]) aau aau (fun k hk=>hk) (by grind [u27,ye]) (by grind [u27,Sized,jS,AV.cells]) (by grind [MU]) fun z' h3 ha' hk' => ?_
   rw[show ps.map jS++ [jS p]=(ps++ [p]).map jS by simp]at ha'
   have hP3:=hP.fL hk';simp -implicitDefEqProofs only[go_sem,r0,r4,r5,hP3.len,w1,w2];refine⟨_, ?_,i+(8+p.length),ps++ [p],z',ha',hk.trans hk',aas,aar,rfl,hsc', ?_, ?_, ?_⟩
   ·omega
   all_goals simp -implicitDefEqProofs only[go_sem,r0,r4,r5,hP3.len,w1,w2]
theorem MK(l:List UInt8):(scan l).1.length≤l.length∧∀p∈(scan l).1,p.length≤8192:=by
 induction hn:l.length using Nat.strongRecOn generalizing l with
 |_ n ih=>
  cases hb:gA l with
  |none=>simp_all [qG,Nat.zero_le]
  |some p=>
   have hl:=mh hb;rw[uo hb]
   grind
theorem gH.row{h:Heap}{y:AV}{xs:List AV}{sp:List Nat}(hg:gH h y xs sp):∃q,y= .sl xs q:=by
 rcases hg with⟨rfl,_⟩|⟨k,rfl,_⟩<;>exact⟨_,rfl⟩
def Touch(S:List Nat)(h h' :Heap):Prop:=∀j k,j∉S→h j=some k→h' j=some k
theorem Touch.refl(S:List Nat)(h:Heap):Touch S h h:=fun _ _ _ e=>e
theorem Touch.trans{S T:List Nat}{a b c:Heap}(x:Touch S a b)(y:Touch T b c):Touch (S++T) a c:=fun j k e hj=>y j k aas (x j k aas hj)
theorem Touch.of{S:List Nat}{h h' :Heap}(hs:Ab.Sub h h'):Touch S h h' :=fun _ _ _ e=>hs _ _ e
theorem Touch.keep{i:Nat}{h h' :Heap}(hs:Keep i h h'):Touch [i] h h' :=fun j k e hj=>hs j k aas hj
theorem Touch.upd{h:Heap}{i:Nat}{k:Option Blk}:Touch [i] h (upd h i k):=Touch.keep (Keep.upd i k)
theorem Touch.mono{S T:List Nat}{h h' :Heap}(ht:Touch S h h')(hs:∀i∈S,i∈T∨h i=none):Touch T h h' :=fun j k e hj=>ht j k aas hj
theorem gH.touch{h h' :Heap}{y:AV}{xs:List AV}{sp S:List Nat}(hg:gH h y xs sp)(ht:Touch S h h')(hn:∀i∈sp,i∉S):gH h' y xs sp:=by
 rcases hg with⟨rfl,rfl⟩|⟨k,rfl,k1,rfl⟩
 ·exact .inl ⟨rfl,rfl⟩
 ·exact .inr ⟨k,rfl,ht _ _ (hn k aaz) k1,rfl⟩
theorem gH.has{h:Heap}{y:AV}{xs:List AV}{sp:List Nat}(hg:gH h y xs sp):∀i∈sp,∃n,h i=some (.spare n 1):=by
 rcases hg with⟨rfl,rfl⟩|⟨k,rfl,k1,rfl⟩
 ·simp
 grind
theorem gH.app{h:Heap}{y v:AV}{xs zs:List AV}{sp:List Nat}{Q:AV→Heap→Prop}(hg:gH h y xs sp)(hsrc:∀k:List AV→Prop,k zs→gU U 41 h v k)(s1:Sized 1 xs)(s2:Sized 1 zs)
  (hlen:xs.length+zs.length≤1000000000000) (hk:∀y' h' sp',gH h' y' (xs++zs) sp'→Touch sp h h'→(∀i∈sp',i∈sp∨h i=none)→Q y' h'):apK U h y v Q (.slice 41):=by
 rcases hg with⟨rfl,rfl⟩|⟨k,rfl,k1,rfl⟩
 ·refine(oX ..).mpr ⟨aau,aau,hsrc _ ⟨by grind [u27],by grind [u27],by grind [MU],fun hn=> ?_,fun hn=> .own fun id hid=> ?_⟩⟩
  ·subst hn
   exact hk _ _ [] (.inl ⟨aaz,rfl⟩) (.refl _ _) aaz
  ·rw[u27]
   exact hk _ _ [id] (.inr ⟨id,rfl,by rw[ah,aal],rfl⟩) (.of ((Ab.Sub.refl h).new hid _)) aas
 ·refine(AN ..).mpr ⟨aau,aau,hsrc _ ⟨by grind [u27],by grind [u27],by grind [MU],by grind [u27], ?_⟩⟩
  rw[u27];exact hk _ _ [k] (.inr ⟨k,rfl,by rw[ah,aal],rfl⟩) .upd aaz
def JAt(h:Heap)(t jid did:Nat)(ps:List (List UInt8))(down:Bool)(sp:List Nat):Prop:=
 ∃y xs,h jid=some (.obj [.ptr did 0,y,.b down] t)∧gH h y xs sp∧∀g,Ab.Rows 5 g xs ps
theorem JAt.touch{h h' :Heap}{t jid did:Nat}{ps:List (List UInt8)}{down:Bool}{sp S:List Nat}(hj:JAt h t jid did ps down sp)(ht:Touch S h h')(h1:jid∉S)(hn:∀i∈sp,i∉S):JAt h' t jid did ps down sp:=by
 obtain⟨y,xs,a,b,c⟩:=hj;exact⟨y,xs,ht _ _ h1 a,b.touch ht hn,c⟩
theorem JAt.sub{h h' :Heap}{t jid did:Nat}{ps:List (List UInt8)}{down:Bool}{sp:List Nat}(hj:JAt h t jid did ps down sp)(ht:Ab.Sub h h'):JAt h' t jid did ps down sp:=
 hj.touch (S:=[]) (.of ht) aaz aaz
theorem Ia{h:Heap}{xs:List AV}{ps:List (List UInt8)}{x:AV}{p:List UInt8}(hr:Ab.Rows 5 h xs ps)(hx:By h x p):Ab.Rows 5 h (xs++ [x]) (ps++ [p]):=⟨by simp[hr.1],fun i h1 h2=>by
 have hl:=hr.1
 by_cases hi:i<xs.length
 ·rw[List.getElem_append_left hi,List.getElem_append_left aar]
  exact hr.2 i hi aar
 ·have e:i=xs.length:=by grind
  subst e;simpa[hl]using hx⟩
theorem vP(jid did:Nat)(ps:List (List UInt8))(down:Bool)(sp:List Nat)(h:Heap)(hj:JAt h 173 jid did ps down sp):ai Tryz.prog 48 [.ptr jid 0] h fun r h' =>r= .b down∧h' =h:=by
 obtain⟨y,xs,a,_,_⟩:=hj;refine aaq Tryz.func48 7 [.tmp 2] fun hwf=> ?_
 simp -implicitDefEqProofs only[go_sem,a];exact aaD
theorem yb(jid did:Nat)(ps:List (List UInt8))(down:Bool)(sp:List Nat)(h:Heap)(hj:JAt h 173 jid did ps down sp)(hl:ps.length≤1000000)(hp:∀p∈ps,p.length≤1000000):
  ai Tryz.prog 45 [.ptr jid 0] h fun r h' =>∃q,r= .sl (ps.map jS) q∧Ab.Sub h h' :=by
 obtain⟨y,xs,a,b,c⟩:=hj;refine aaq Tryz.func45 22 [.tmp 2] fun hwf=> ?_
 obtain⟨qy,rfl⟩:=b.row;have hlen:=(c h).1;simp -implicitDefEqProofs only[go_sem,a];refine .intro (fun m ρ g=>∃(i:Nat) (z:AV),Acc U 41 h g z ((ps.take i).map jS)∧i≤ps.length∧m=ps.length - i∧lk ρ 3=some z∧lk ρ 9=some (.sl xs qy)∧lk ρ 10=some (.i xs.length)∧lk ρ 11=some (.i i)) (ps.length - 0) ?_ ?_
 ·refine⟨0,_,.full (.refl h),aar,rfl, ?_, ?_, ?_, ?_⟩<;>simp -implicitDefEqProofs only[go_sem]
 ·rintro m ρ g ⟨i,z,ha,hi,rfl,r3,r9,r10,r11⟩
  by_cases hc:i<ps.length
  ·have d1:decide ((i:Int)<(xs.length:Int))=true:=decide_eq_true aar
   have w1:IntKind.i64.wrap ((i:Int)+1)=((i+1:Nat):Int):=aaE;have hx:=(c g).2 i aar hc;simp -implicitDefEqProofs only[go_sem,r3,r9,r10,r11,d1];refine .at i aar (by rw[hx.cells];rfl) ?_
   simp -implicitDefEqProofs only[go_sem,r3,r9,r10,r11,hx.cells,hx.J8,and_self];refine(pn xs[i] ps[i] g hx aas).pthen' ?_;simp -implicitDefEqProofs only[go_sem,r3,r9,r10,r11];refine ha.app (v:=.sl [jS ps[i]] .full) (zs:=[jS ps[i]]) aau aau (fun k hk=>hk) (by grind [u27,ye]) (by grind [u27,Sized,jS,AV.cells]) (by grind [MU]) fun z' g2 ha' hk' => ?_
   simp -implicitDefEqProofs only[go_sem,r3,r9,r10,r11,w1];refine⟨_, ?_,i+1,z', ?_,aar,rfl, ?_, ?_, ?_, ?_⟩
   ·omega
   ·grind [List.take_succ_eq_append_getElem]
   all_goals simp -implicitDefEqProofs only[go_sem,r3,r9,r10,r11,w1]
  ·obtain rfl:i=ps.length:=by omega
   have d1:decide ((ps.length:Int)<(xs.length:Int))=false:=decide_eq_false aar;simp -implicitDefEqProofs only[go_sem,r3,r9,r10,r11,d1];rw[List.take_length]at ha;obtain⟨q,rfl⟩:=ha.row;exact .same (.refl _) ⟨q,rfl,ha.1⟩
def D.bZ(d:D):D×Nat:=
 let c:=if(scan d.b).2<d.b.length then d.cut ((scan d.b).2:Nat)else(d,0)
 if c.2=0 then c.1.sync else c
theorem JO(d:D)(hd:d.ok)(id:Nat)(h:Heap)(hdk:bP h id d):
  ai Tryz.prog 44 [.ptr id 0] h fun r h' =>∃J,r= .tup [J,.i (d.bZ.2:Nat)]∧bP h' id d.bZ.1∧Keep id h h'∧
   if d.bZ.2=0 then∃jid sp,J= .ptr jid 0∧h jid=none∧JAt h' 173 jid id (scan d.b).1 false sp∧∀i∈sp,h i=none∧i≠jid else J= .v (.pointer none):=by
 refine ai.of_wp hU Tryz.func44 rfl aaG 35 rfl [.tmp 2,.tmp 3] rfl (aag rfl) ?_;refine .one hU hm ?_;simp -implicitDefEqProofs only[go_sem]
 show WP _ _ _ _ _ _
 refine .one hU hm ?_;simp -implicitDefEqProofs only[go_sem]
 show WP _ _ _ _ _ _
 have hlen:d.b.length≤2000000:=by have:=hd.1;have:=hd.2.1;omega
 obtain⟨at_,hat⟩:∃n,(scan d.b).2=n:=⟨_,rfl⟩;have hatl:=Gb d.b;rw[hat]at hatl;refine .cut (fun ρ g=>∃z sp,gH g z ((scan d.b).1.map jS) sp∧Ab.Sub h g∧(∀i∈sp,h i=none)∧lk ρ 0=some (.ptr id 0)∧lk ρ 4=some z∧lk ρ 5=some (.i at_)) (.vc hU hm ?_) ?_
 ·simp -implicitDefEqProofs only[go_sem]
  refine(Ky d hd id h hdk).pthen ?_;simp -implicitDefEqProofs only[go_sem];refine(MJ _ d.b h (.sl _ _) hlen).mono fun r g ⟨z,sp,e1,hg,hs,hsp⟩=> ?_
  subst e1;rw[hat];simp -implicitDefEqProofs only[go_sem];refine⟨z,sp,hg,hs,hsp, ?_, ?_, ?_⟩<;>simp -implicitDefEqProofs only[go_sem]
 rintro ρ g ⟨z,sp,hg,hs,hsp,r0,r4,r5⟩
 have hdk1:=hdk.keep hs.fL;have hob:∀i∈sp,i≠id:=fun i hi e=>by
  obtain⟨y,hy,_⟩:=hdk
  grind
 refine .cut (fun ρ g=>∃d1,d.bZ=d1.sync∧d1.ok∧bP g id d1∧gH g z ((scan d.b).1.map jS) sp∧Keep id h g∧lk ρ 0=some (.ptr id 0)∧lk ρ 4=some z) (.vc hU hm ?_) ?_
 ·simp -implicitDefEqProofs only[go_sem,r0,r4,r5]
  refine(Mh d id g hdk1).pthen ?_;simp -implicitDefEqProofs only[go_sem,r0,r4,r5];refine .intro (fun e=> ?_) (fun e=> ?_)
  ·have e:=aaj e
   have e' :at_<d.b.length:=aar;simp -implicitDefEqProofs only[go_sem,r0,r4,r5];refine dthen (DR d hd id g at_ hdk1) fun g1 hd1 kp=> ?_
   have hO:d.bZ=if(d.cut (at_:Nat)).2=0 then(d.cut (at_:Nat)).1.sync else d.cut (at_:Nat):=by
    simp_all [D.bZ,if_pos]
   have ok1:=D.DR hd at_;generalize d.cut (at_:Nat)=D0 at hO hd1 ok1⊢;obtain⟨D1,c1⟩:=D0;simp only at hO hd1 ok1⊢;simp -implicitDefEqProofs only[go_sem,r0,r4,r5]
   by_cases hc:c1=0
   ·subst hc
    rw[if_pos rfl]at hO;simp -implicitDefEqProofs only[go_sem,r0,r4,r5];refine⟨D1,hO,ok1,hd1,hg.touch (Touch.keep kp) aas,(hs.keep id).trans kp, ?_, ?_⟩<;>simp -implicitDefEqProofs only[go_sem,r0,r4]
   ·rw[if_neg hc]at hO
    have t1:(((c1:Nat):Int) !=0)=true:=aas;simp -implicitDefEqProofs only[go_sem,r0,r4,r5,t1];refine .same (.refl _) ⟨_,by rw[hO];rfl,aas,(hs.keep id).trans kp, ?_⟩
    grind
  ·have e:=aak e
   have e' :¬at_<d.b.length:=aar;have hO:d.bZ=d.sync:=by
    simp_all [D.bZ,if_neg]
   simp -implicitDefEqProofs only[go_sem,r0,r4,r5];refine⟨d,hO,hd,hdk1,hg,hs.keep id, ?_, ?_⟩<;>simp -implicitDefEqProofs only[go_sem,r0,r4]
 rintro ρ g1 ⟨d1,hO,ok1,hd1,hg1,kp1,r0,r4⟩
 refine .vc hU hm ?_;simp -implicitDefEqProofs only[go_sem,r0,r4];refine dthen (Gh d1 ok1 id g1 hd1) fun g2 hd2 kp2=> ?_
 rw[hO];generalize d1.sync=D0 at hd2⊢;obtain⟨D2,c2⟩:=D0;simp only at hd2⊢;have kp:=kp1.trans kp2;have hg2:=hg1.touch (Touch.keep kp2) aas;simp -implicitDefEqProofs only[go_sem,r0,r4]
 by_cases hc:c2=0
 ·subst hc
  obtain⟨qz,rfl⟩:=hg2.row;simp -implicitDefEqProofs only[go_sem,r0,r4];intro jid hjid;simp -implicitDefEqProofs only[go_sem,r0,r4];have hne:jid≠id:=fun e=>by
   obtain⟨y,hy,_⟩:=hd2
   grind
  have hjh:h jid=none:=by
   cases hh:h jid with
   |none=>rfl
   |some k=>rw[kp _ _ hne hh]at hjid;omega
  have hsj:∀i∈sp,i≠jid:=fun i hi e=>by
   obtain⟨n,hn⟩:=hg2.has i hi
   grind
  refine .same (.refl _) ⟨_,rfl,hd2.keep (.new hjid),fun j k e hj=> ?_,jid,sp,rfl,hjh,⟨_,_,ah ..,hg2.touch .upd aas,fun g=>Ga _ g⟩,fun i hi=>⟨hsp i hi,hsj i hi⟩⟩
  have h2:=kp j k e hj;rw[ag _ _ aas];exact aet
 ·have t1:(((c2:Nat):Int) !=0)=true:=by grind
  simp -implicitDefEqProofs only[go_sem,r0,r4,t1];exact .same (.refl _) ⟨_,rfl,hd2,kp,aas⟩
def jadd(d:D)(ps:List (List UInt8))(down:Bool)(p:List UInt8):(D×List (List UInt8)×Bool)×Nat:=
 if down=true then((d,ps,true),9)else if p.length=0∨8192<p.length then((d,ps,false),1)else
  if(d.append (frame p)).2=8 then(((d.append (frame p)).1,ps,false),8)else
   if(if(d.append (frame p)).2=0 then(d.append (frame p)).1.sync else d.append (frame p)).2=0 then
    (((if(d.append (frame p)).2=0 then(d.append (frame p)).1.sync else d.append (frame p)).1,ps++ [p],false),0)
   else(((if(d.append (frame p)).2=0 then(d.append (frame p)).1.sync else d.append (frame p)).1,ps,true),9)
theorem D.BF(d:D)(b:List UInt8):(d.append b).2=0∨(d.append b).2=8∨(d.append b).2=9:=by
 grind [D.append]
theorem D.Is(d:D):d.sync.2=0∨d.sync.2=9:=by
 grind [D.sync]
theorem FL(d:D)(hd:d.ok)(id jid:Nat)(ps:List (List UInt8))(down:Bool)(sp:List Nat)(h:Heap)(x:AV)(p:List UInt8)(hdk:bP h id d)(hj:JAt h 173 jid id ps down sp)(hx:By h x p)(hp:p.length≤1000000)(hps:ps.length≤1000000):
  ai Tryz.prog 49 [.ptr jid 0,x] h fun r h' =>r= .i ((jadd d ps down p).2:Nat)∧∃sp',bP h' id (jadd d ps down p).1.1∧JAt h' 173 jid id (jadd d ps down p).1.2.1 (jadd d ps down p).1.2.2 sp'∧
   Touch (id::jid::sp) h h'∧∀i∈sp',i∈sp∨h i=none:=by
 obtain⟨y,xs,hjid,hg,hrs⟩:=hj;have hne:jid≠id:=fun e=>by
  obtain⟨z,hz,_⟩:=hdk;rw[←e,hjid]at hz;simp only[Option.some.injEq,Blk.obj.injEq]at hz;exact absurd hz.2 aau
 refine ai.of_wp hU Tryz.func49 rfl aav 51 rfl [.tmp 4] rfl (aag rfl) ?_;refine .one hU hm ?_;simp -implicitDefEqProofs only[go_sem]
 show WP _ _ _ _ _ _
 refine .one hU hm ?_;cases down with
 |true=>
  have hJ:jadd d ps true p=((d,ps,true),9):=by simp[jadd]
  simp -implicitDefEqProofs only[go_sem,hjid];refine .same (.refl _) ?_;rw[hJ];exact⟨rfl,sp,hdk,⟨y,xs,hjid,hg,hrs⟩,.refl _ _,fun i hi=> .inl hi⟩
 |false=>
  simp -implicitDefEqProofs only[go_sem,hjid]
  show WP _ _ _ _ _ _
  refine .one hU hm ?_;have bad:(p.length=0∨8192<p.length)→mb [.i 1] h fun r h' =>r= .i ((jadd d ps false p).2:Nat)∧∃sp',bP h' id (jadd d ps false p).1.1∧JAt h' 173 jid id (jadd d ps false p).1.2.1 (jadd d ps false p).1.2.2 sp'∧
    Touch (id::jid::sp) h h'∧∀i∈sp',i∈sp∨h i=none:=fun hb=>by
   have hJ:jadd d ps false p=((d,ps,false),1):=by unfold jadd;rw[if_neg aaz,if_pos hb]
   refine .same (.refl _) ?_;rw[hJ];exact⟨rfl,sp,hdk,⟨y,xs,hjid,hg,hrs⟩,.refl _ _,fun i hi=> .inl hi⟩
  by_cases h0:p.length=0
  ·have t0:(((p.length:Nat):Int)==0)=true:=by simp[h0]
   simp -implicitDefEqProofs only[go_sem,hx.len,t0];exact bad (.inl h0)
  ·have t0:(((p.length:Nat):Int)==0)=false:=beq_eq_false_iff_ne.mpr aar
   by_cases h1:8192<p.length
   ·have t1:decide ((8192:Int)<(p.length:Int))=true:=decide_eq_true aar
    simp -implicitDefEqProofs only[go_sem,hx.len,t0,t1];exact bad (.inr h1)
   ·have t1:decide ((8192:Int)<(p.length:Int))=false:=decide_eq_false aar
    have hJ:jadd d ps false p=if(d.append (frame p)).2=8 then(((d.append (frame p)).1,ps,false),8)else
      if(if(d.append (frame p)).2=0 then(d.append (frame p)).1.sync else d.append (frame p)).2=0 then
       (((if(d.append (frame p)).2=0 then(d.append (frame p)).1.sync else d.append (frame p)).1,ps++ [p],false),0)
      else(((if(d.append (frame p)).2=0 then(d.append (frame p)).1.sync else d.append (frame p)).1,ps,true),9):=by
     have hno:¬(p.length=0∨8192<p.length):=aar;unfold jadd;rw[if_neg aaz,if_neg hno]
    have hcode:=D.BF d (frame p);simp -implicitDefEqProofs only[go_sem,hx.len,t0,t1]
    show WP _ _ _ _ _ _
    refine .one hU hm ?_;simp -implicitDefEqProofs only[go_sem];refine .calls (hm1 jid _) [0,1,2,3,4,5,6,7] (.hm1 hjid) aav rfl ?_;simp -implicitDefEqProofs only[go_sem,hjid];refine(Jz x p h hx hp).sthen fun g1 hs1=> ?_
    refine⟨.hm1 (hs1 _ _ hjid), ?_⟩;simp -implicitDefEqProofs only[go_sem];refine dthen (tv d hd id g1 _ (frame p) (hdk.keep hs1.fL) (.sl _ _) (by rw[sn];omega)) fun g2 hd2 kp=> ?_
    have hj2:g2 jid=some (.obj [.ptr id 0,y,.b false] 173):=kp _ _ hne (hs1 _ _ hjid);refine⟨.hm1 hj2, ?_⟩;have ok2:=D.tv hd (frame p);have hkp:Keep id h g2:=(hs1.keep id).trans kp;have hgid:∀i∈sp,i≠id:=fun i hi e=>by
     obtain⟨n,hn⟩:=hg.has i hi;obtain⟨z,hz,_⟩:=hdk;rw[e,hz]at hn;cases hn
    have hg2:gH g2 y xs sp:=hg.touch (Touch.keep hkp) (fun i hi=>by simp[hgid i hi])
    have hx2:By g2 x p:=by
     obtain⟨z,hz,_⟩:=hdk;exact(hx.keep hkp hz aau)
    have hT2:Touch (id::jid::sp) h g2:=(Touch.keep hkp).mono (fun i hi=> .inl (by simp at hi;simp[hi]))
    generalize d.append (frame p)=A at hJ hcode hd2 ok2⊢;obtain⟨d2,c2⟩:=A;simp only at hJ hcode hd2 ok2⊢;simp -implicitDefEqProofs only[go_sem]
    show WP _ _ _ _ _ _
    refine .one hU hm ?_;have downed:∀(g:Heap) (e:D) (ρ:Env),bP g id e→g jid=some (.obj [.ptr id 0,y,.b false] 173)→gH g y xs sp→Touch (id::jid::sp) h g→jadd d ps false p=((e,ps,true),9)→
      (mb [.i 9] (upd g jid (some (.obj [.ptr id 0,y,.b true] 173))) fun r h' =>r= .i ((jadd d ps false p).2:Nat)∧∃sp',bP h' id (jadd d ps false p).1.1∧JAt h' 173 jid id (jadd d ps false p).1.2.1 (jadd d ps false p).1.2.2 sp'∧
       Touch (id::jid::sp) h h'∧∀i∈sp',i∈sp∨h i=none):=fun g e ρ a1 a2 a3 a4 hJ=>by
     rw[hJ];have hsj:∀i∈sp,i≠jid:=fun i hi e=>by
      obtain⟨n,hn⟩:=hg.has i hi;rw[e,hjid]at hn;cases hn
     have ht:Touch [jid] g (upd g jid (some (.obj [.ptr id 0,y,.b true] 173))):=.upd;refine .same (.refl _) ⟨rfl,sp, ?_,⟨y,xs,ah ..,a3.touch ht (fun i hi=>by simp[hsj i hi]),hrs⟩,(a4.trans ht).mono (fun i hi=> .inl (by simp at hi⊢;rcases hi with h|h|h|h<;>simp[h])),fun i hi=> .inl hi⟩
     obtain⟨z,z1,z2⟩:=a1;exact⟨z,ht _ _ (by simp;exact fun e=>hne e.symm) z1,z2.keep (Keep.upd jid _) a2 aau⟩
    have hc0:=hcode;rcases hcode with rfl|rfl|rfl
    ·
     simp -implicitDefEqProofs only[go_sem];refine .one hU hm ?_;simp -implicitDefEqProofs only[go_sem,hj2];refine dthen (Gh d2 ok2 id g2 hd2) fun g3 hd3 kp3=> ?_
     have hj3:g3 jid=some (.obj [.ptr id 0,y,.b false] 173):=kp3 _ _ hne hj2;have hg3:gH g3 y xs sp:=hg2.touch (Touch.keep kp3) (fun i hi=>by simp[hgid i hi])
     have hx3:By g3 x p:=by
      obtain⟨z,hz,_⟩:=hd2;exact(hx2.keep kp3 hz aau)
     have hT3:Touch (id::jid::sp) h g3:=(hT2.trans (Touch.keep kp3)).mono (fun i hi=> .inl (by simp at hi⊢;rcases hi with h|h|h|h<;>simp[h]))
     have hcs:=D.Is d2;rw[if_neg aau,if_pos rfl]at hJ;generalize d2.sync=A at hJ hcs hd3⊢;obtain⟨d3,c3⟩:=A;simp only at hJ hcs hd3⊢;rcases hcs with rfl|rfl
     ·simp -implicitDefEqProofs only[go_sem]
      refine .one hU hm ?_;simp -implicitDefEqProofs only[go_sem];refine .one hU hm ?_;simp -implicitDefEqProofs only[go_sem];refine .last (hm1 jid _) [0,1,2,3,4,5,6,7,8,9,10] (.hm1 hj3) aav rfl aav rfl ?_;simp -implicitDefEqProofs only[go_sem,hj3];refine(pn x p g3 hx3 aar).pthen' ?_;obtain⟨qy,rfl⟩:=hg3.row;refine⟨.hm1 hj3, ?_⟩;simp -implicitDefEqProofs only[go_sem,hj3];refine hg3.app (v:=.sl [jS p] .full) (zs:=[jS p]) (fun k hk=>hk) (hrs h).sized (by simp[Sized,jS,AV.cells]) (by have:=(hrs h).1;simp;omega) fun z g4 sp' hg4 ht4 hsp' => ?_
      have hsj:∀i∈sp,i≠jid:=fun i hi e=>by
       obtain⟨n,hn⟩:=hg.has i hi;rw[e,hjid]at hn;cases hn
      have hj4:g4 jid=some (.obj [.ptr id 0,.sl xs qy,.b false] 173):=ht4 _ _ (fun hi=>hsj _ hi rfl) hj3
      refine⟨.hm1 hj4, ?_⟩;obtain⟨qz,rfl⟩:=hg4.row;simp -implicitDefEqProofs only[go_sem,hj4];refine .vc hU hm ?_;simp -implicitDefEqProofs only[go_sem];have ht5:Touch [jid] g4 (upd g4 jid (some (.obj [.ptr id 0,.sl (xs++ [jS p]) qz,.b false] 173))):=.upd;have hsj' :∀i∈sp',i≠jid:=fun i hi e=>by
       obtain⟨n,hn⟩:=hg4.has i hi;rw[e,hj4]at hn;cases hn
      rw[if_pos rfl]at hJ;refine .same (.refl _) ?_;rw[hJ];refine⟨rfl,sp', ?_,⟨_,_,ah ..,hg4.touch ht5 (fun i hi=>by simp[hsj' i hi]),fun g=>Ia (hrs g) (.sl _ _)⟩, ?_,fun i hi=> ?_⟩
      ·obtain⟨z,z1,z2⟩:=hd3
       have hid4:g4 id=some (.obj (d3.cells z) 96):=ht4 _ _ (fun hi=>hgid _ hi rfl) z1
       have z4:By g4 z d3.b:=by
        rcases z2 with z2|⟨i,off,cs,rfl,a1,a2,a3⟩
        ·exact .inl z2
        ·exact .oa (ht4 _ _ (fun hi=>by obtain⟨n,hn⟩:=hg3.has i hi;rw[a1]at hn;cases hn) a1) a2 a3
       exact⟨z,ht5 _ _ (by simp;exact fun e=>hne e.symm) hid4,z4.keep (Keep.upd jid _) hj4 aau⟩
      ·exact((hT3.trans ht4).trans ht5).mono (fun i hi=> .inl (by simp at hi⊢;grind))
      ·rcases hsp' i hi with h1|h1
       ·exact .inl h1
       ·cases hh:h i with
        |none=>exact .inr rfl
        |some k=>
         by_cases hin:i∈id::jid::sp
         ·simp only[List.mem_cons]at hin
          rcases hin with e|e|e
          ·subst e;rw[hd3.choose_spec.1]at h1;cases h1
          ·subst e;rw[hj3]at h1;cases h1
          ·exact .inl e
         ·rw[hT3 i k hin hh]at h1;cases h1
     ·simp -implicitDefEqProofs only[go_sem]
      refine .one hU hm ?_;simp -implicitDefEqProofs only[go_sem,hj3];exact downed g3 d3 [] hd3 hj3 hg3 hT3 hJ
    ·
     simp -implicitDefEqProofs only[go_sem];refine .same (.refl _) ?_;rw[hJ];exact⟨rfl,sp,hd2,⟨y,xs,hj2,hg2,hrs⟩,hT2,fun i hi=> .inl hi⟩
    ·simp -implicitDefEqProofs only[go_sem]
     refine .one hU hm ?_;simp -implicitDefEqProofs only[go_sem,hj2];refine .one hU hm ?_;simp -implicitDefEqProofs only[go_sem,hj2];exact downed g2 d2 [] hd2 hj2 hg2 hT2 hJ
theorem D.Pu{d:D}(hd:d.ok)(h1:d.off=false)(h2:d.f=0):d.bZ=({d with b:=d.b.take (scan d.b).2,sy:=(scan d.b).2},0):=by
 have hl:=Gb d.b;have NV:∀e:D,e.off=false→e.f=0→e.sync=({e with sy:=e.b.length},0):=fun e h1 h2=>by
  unfold D.sync;rw[if_neg (by simp[h1]),D.Np h2,if_neg (by simp[h1])]
 unfold D.bZ
 by_cases h:(scan d.b).2<d.b.length
 ·rw[if_pos h,D.UL h1 h2 hl]
  grind
 ·have e:(scan d.b).2=d.b.length:=by omega
  grind
theorem Ss{d:D}{ps:List (List UInt8)}{p:List UInt8}(h1:d.off=false)(h2:d.f=0)(hp1:1≤p.length)(hp2:p.length≤8192)(hf:d.b.length+(frame p).length≤d.q):
  jadd d ps false p=(({d with b:=d.b++frame p,sy:=(d.b++frame p).length},ps++ [p],false),0):=by
 have hno:¬(p.length=0∨8192<p.length):=aar;have hs:({d with b:=d.b++frame p}:D).sync=({d with b:=d.b++frame p,sy:=(d.b++frame p).length},0):=D.NV h1 h2
 unfold jadd;rw[if_neg aaz,if_neg hno,D.LG h1 h2 hf,if_neg aar,if_pos rfl,hs,if_pos rfl]
theorem yf:scan []=([],0):=by grind [qG,qR]
end Go.Proofs.YtcochaoekecfdaaGreatDoor
namespace Go.Bf
open Go Go.Ab Go.Proofs.YtcochaoekecfdaaGreatDoor
def fnv(h:BitVec 64)(n:Nat):BitVec 64:=(h ^^^ BitVec.ofNat 64 n)*1099511628211#64
def L1(g:BitVec 64→Nat→BitVec 64):Nat→BitVec 64→BitVec 64→BitVec 64
 |0,_,h=>h
 |n+1,p,h=>L1 g n (p>>>8) (g h (p &&& 255#64).toNat)
def Hf(n:Nat)(p h:BitVec 64):BitVec 64:=L1 fnv n p h
theorem Hi(g:BitVec 64→Nat→BitVec 64)(n:Nat)(p h:BitVec 64):L1 g (n+1) p h=L1 g n (p>>>8) (g h (p &&& 255#64).toNat):=rfl
theorem Hh(p h:BitVec 64):Hf 0 p h=h:=rfl
theorem Hg(n:Nat)(p h:BitVec 64):Hf (n+1) p h=Hf n (p>>>8) (fnv h (p &&& 255#64).toNat):=Hi fnv n p h
def rj(prev:BitVec 64)(l:Txt):BitVec 64:=l.foldl (fun h c=>fnv h c.toNat) (Hf 8 prev 14695981039346656037#64)
def pF:Nat→BitVec 64→Txt
 |0,_=>[]
 |n+1,h=>UInt8.ofNat h.toNat::pF n (h>>>8)
def gG(h:BitVec 64)(o:OpD):Txt:=pF 8 h++uj o
theorem qx:∀(n:Nat) (h:BitVec 64),(pF n h).length=n
 |0,_=>rfl
 |n+1,h=>by simp[pF,qx n]
structure gX where
 s:an
 log:List oU
 ch:BitVec 64
 ps:List Txt
 down:Bool
def mE(e:gX)(p:Txt):Option OpD:=if p.length<8 then none else match oR (p.drop 8)with
 |some o=>if gG e.ch o=p then some o else none
 |none=>none
def pK(e:gX)(g:an×kO×oU×Int)(p:Txt):gX:={e with s:=g.1,log:=e.log++ [g.2.2.1],ch:=rj e.ch p}
def qW(e:gX)(p:Txt):Option gX:=match mE e p with
 |some o=>if(bt e.s o).2.2.2=0 then some (pK e (bt e.s o) p)else none
 |none=>none
def oH:gX→List Txt→Option gX
 |e,[]=>some e
 |e,p::r=>match qW e p with
  |some e' =>oH e' r
  |none=>none
def jh(ps:List Txt):gX:=⟨vH,[],0,ps,false⟩
def EW(ps:List Txt):Option gX:=oH (jh ps) ps
def GO(n:Int):kO:=⟨n,naM,false,ax,false,0⟩
def doE(e:gX)(d:D)(o:OpD):gX×D×kO:=
 if e.down then(e,d,GO 9)else
 let g:=bt e.s o
 if g.2.2.2≠0 then(e,d,g.2.1)else
 let p:=gG e.ch o
 let a:=jadd d e.ps e.down p
 if a.2=0 then({pK e g p with ps:=a.1.2.1,down:=a.1.2.2},a.1.1,g.2.1)else({e with ps:=a.1.2.1,down:=a.1.2.2},a.1.1,GO (a.2:Int))
theorem xb:∀(l:List Txt) (e:gX) (p:Txt),oH e (l++ [p])=(oH e l).bind fun e' =>qW e' p
 | [],e,p=>by
  grind [oH,qW]
 |q::l,e,p=>by
  simp only[List.cons_append,oH];cases qW e q with
  |none=>rfl
  |some e' =>exact xb l e' p
theorem nO{s:an}{o:OpD}(h:(bt s o).2.2.2=0):eN o=true:=by
 have hp:(jE s o).1=0:=by
  unfold bt at h
  grind
 exact(sR hp).2.1
theorem Gl:∀(f v:Nat),(uz f v).length≤f
 |0,_=>by simp[uz]
 |f+1,v=>by
  unfold uz;split
  ·simp
  ·simp only[List.length_cons]
   have:=Gl f (v / 128);omega
theorem jv(n:Int):(nX n).length≤10:=Gl 10 _
theorem Mt(n:Int):1≤(nX n).length:=List.length_pos_iff.2 (MZ 10 _ aau)
theorem fE(s:Txt):(fk s).length≤10+s.length:=by
 grind [fk,aal,jv]
theorem Gk{v:bw}(h:v=ax∨bF v=true):(yA v).length≤84:=by
 have hs:v.kind=3∨v.kind=5→v.s.length≤64:=fun e=>by
  rcases h with rfl|h
  ·decide
  simp_all [Aq]
 unfold yA;rw[aal];have h1:=jv v.kind;split
 ·rename_i e
  have:=fE v.s;omega
 ·have:=jv v.n
  omega
theorem vU{o:OpD}(hf:OpF o):1≤(uj o).length∧(uj o).length≤5000:=by
 unfold uj;simp only[aal];have h1:=jv o.kind;have h0:=Mt o.kind;have h2:=fE o.subj;have h3:=fE o.case;have h4:=fE o.field;have h5:=fE o.to;have h6:=Gk hf.val;have h7:=jv o.review;have h8:=fE o.text;have h9:=fE o.reason;have h10:=Gk (v:=eJ o.glass) (.inr (KY _));have:=hf.subj;have:=hf.case;have:=hf.field;have:=hf.to;have:=hf.text;have:=hf.reason;omega
theorem vW{h:BitVec 64}{o:OpD}(hf:OpF o):9≤(gG h o).length∧(gG h o).length≤5008:=by
 grind [vU,gG,aal,qx]
def xy(a b:bw):Int:=if bF a=false∨bF b=false then 1 else 2
def kr(a b:bw):AV:=match mz a b with
 |some x=> .tup [.b x,.i 0]
 |none=> .tup [.b false,.i (xy a b)]
theorem zO{a b:bw}(h:bF a=false∨bF b=false):kr a b= .tup [.b false,.i 1]:=by
 unfold kr mz;rw[if_pos aas]
 simp_all [xy,if_pos]
theorem xx{a b:bw}(h1:bF a=true)(h2:bF b=true)(h:a.kind≠b.kind∨a.kind=1):kr a b= .tup [.b false,.i 2]:=by
 simp_all [kr,mz,if_pos,xy]
theorem Mk{a b:bw}(h1:bF a=true)(h2:bF b=true)(h:a.kind=b.kind)(h0:a.kind≠1)(ht:a.kind=3∨a.kind=5):kr a b= .tup [.b (Op.bytesLess a.s b.s),.i 0]:=by
 simp_all [kr,mz,if_neg,if_pos]
theorem Mj{a b:bw}(h1:bF a=true)(h2:bF b=true)(h:a.kind=b.kind)(h0:a.kind≠1)(ht:¬(a.kind=3∨a.kind=5)):kr a b= .tup [.b (decide (a.n<b.n)),.i 0]:=by
 simp_all [kr,mz,if_neg]
end Go.Bf
namespace Go.Proofs.YtcochaoekecfdaaGreatDoor
open Go Go.Ab Go.Bf
theorem yw(k:Int)(h:Heap):ai Tryz.prog 108 [.i k] h fun r h' =>r= .b (k==3||k==5)∧h' =h:=by
 refine aaq Tryz.func108 9 [.tmp 2] fun hwf=> ?_
 cases d1:(k==3)<;>cases d2:(k==5)
 all_goals
  simp only[go_sem,d1,d2];exact aaD
theorem A8(a b:bw)(h:Heap):ai Tryz.prog 284 [aQ a,aQ b] h fun r h' =>r=kr a b∧h' =h:=by
 have ha:=fun(G:Heap)=>fT a G
 have hb:=fun(G:Heap)=>fT b G
 simp only[aQ]at ha hb;refine aaq Tryz.func284 40 [.tmp 4,.tmp 5] fun hwf=> ?_
 simp only[go_sem,aQ];intro i1 h1;simp only[go_sem];intro i2 h2;have n21:=aF h2;have n2:=aB h2;have hs:∀x y,Ab.Sub h (upd (upd h i1 x) i2 y):=fun x y=>((Sub.refl h).put h1 x).put n2 y
 simp only[go_sem,ak,n21.symm];refine(ha _).pthen ?_;cases da:bF a
 ·simp only[go_sem]
  exact .mk _ (.refl _) (hs _ _) ⟨by rw[zO (.inl da)];rfl,rfl⟩
 simp only[go_sem];refine(hb _).pthen ?_;cases db:bF b
 ·simp only[go_sem]
  exact .mk _ (.refl _) (hs _ _) ⟨by rw[zO (.inr db)];rfl,rfl⟩
 cases dk:(a.kind !=b.kind)
 case true=>
  simp only[go_sem,ak,n21.symm,dk];exact .mk _ (.refl _) (hs _ _) ⟨by rw[xx da db (.inl aas)];rfl,rfl⟩
 have ek:a.kind=b.kind:=aas;cases d1:(a.kind==1)
 case true=>
  simp only[go_sem,ak,n21.symm,dk,d1];exact .mk _ (.refl _) (hs _ _) ⟨by rw[xx da db (.inr aas)];rfl,rfl⟩
 have e1:a.kind≠1:=aas;simp only[go_sem,ak,n21.symm,dk,d1];refine(yw _ _).pthen ?_;cases dt:(a.kind==3||a.kind==5)
 ·simp only[go_sem,ak,n21.symm]
  exact .mk _ (.refl _) (hs _ _) ⟨by rw[Mj da db ek e1 aas];rfl,rfl⟩
 ·simp only[go_sem,ak,n21.symm]
  exact .mk _ (.refl _) (hs _ _) ⟨by rw[Mk da db ek e1 aas];rfl,rfl⟩
def Hl(bag:List bw)(must:Bool):AV:=if bag= []∧must=true then .tup [.sl [] .no,.i 4]else .tup [.sl (bag.map aQ) .no,.i 0]
theorem FC(gs:List bh)(cat:Int)(name:Txt)(must:Bool)(hl:gs.length≤1000000000)(hb:∀g∈gs,g.bag.length≤1000000)(h:Heap):ai Tryz.prog 250 [bE gs,.agg [.i cat,.s name,.b must]] h fun r h' =>r=Hl (getD gs cat name) must∧h' =h:=by
 have hpl:=fun G=>Kn gs cat name hl G
 simp only[bE]at hpl;have frz:∀(x:AV) (e:Int),Weak x (.sl [] .no)→Weak (.tup [x,.i e]) (.tup [.sl [] .no,.i e]):=fun x e hx=> .tup _ _ rfl fun i a b=>by
  rcases i with _|_|i
  ·grind
  ·exact abG
  grind
 refine aaq Tryz.func250 30 [.tmp 4,.tmp 5] fun hwf=> ?_
 simp only[go_sem,bE];intro i1 h1;simp only[go_sem];refine(hpl _).pthen ?_
 by_cases hx:gs.findIdx (ig cat name)<gs.length
 ·have e1:ixD (ig cat name) gs=(gs.findIdx (ig cat name):Nat):=by simp_all [ixD,if_pos]
  have d1:decide ((0:Int)≤((gs.findIdx (ig cat name):Nat):Int))=true:=decide_eq_true aar;rw[e1];simp only[go_sem,d1];refine .at (gs.findIdx (ig cat name)) aas aaH ?_;simp only[go_sem,aai,kj];rw[if_neg (fun hh=>hh.1)]
  have hlb:=hb _ (aam hx);rw[get_at hx];obtain⟨B,eB⟩:∃B,gs[gs.findIdx (ig cat name)].bag=B:=⟨_,rfl⟩;rw[eB]at hlb⊢;refine(BS _ (B.map aQ) _ (dZ aQ 3 (fun _=>rfl) _ _) aas (bn (fun _=>rfl) _)).pthen ?_
  cases d2:((B.length:Int)==0)
  ·have e2:B≠ []:=by grind
   simp only[go_sem,d2,aah];exact .mk _ (.refl _) (.aj h1) ⟨by rw[Hl,if_neg (fun hh=>e2 hh.1)];rfl,rfl⟩
  ·have e3:(B.length:Int)=0:=by grind
   have e2:B= []:=List.length_eq_zero_iff.1 aar;subst e2;cases must
   ·simp only[go_sem,List.map_nil,List.length_nil]
    exact aaI
   ·simp only[go_sem,List.map_nil,List.length_nil]
    exact ab9
 ·have e1:ixD (ig cat name) gs= -1:=by simp_all [ixD,if_neg]
  have d1:decide ((0:Int)≤ -1)=false:=rfl;rw[e1,O0 hx];cases must
  ·simp only[go_sem,d1]
   exact .mk (.tup [.sl [] .no,.i 0]) (frz _ _ (.sl _ _)) (.aj h1) ⟨rfl,rfl⟩
  ·simp only[go_sem,d1]
   exact ab9
def lK(m:bM)(v:bw):AV:=
 if m.op=1 then(if v.kind=m.val.kind then .tup [.b (eqV v m.val),.i 0]else .tup [.b false,.i 2])
 else if m.op=2 then kr v m.val else kr m.val v
theorem DB(m:bM)(v:bw)(h:Heap):ai Tryz.prog 251 [dz m,aQ v] h fun r h' =>r=lK m v∧h' =h:=by
 have hl1:=fun G=>A8 v m.val G
 have hl2:=fun G=>A8 m.val v G
 simp only[aQ]at hl1 hl2;refine aaq Tryz.func251 42 [.tmp 4,.tmp 5] fun hwf=> ?_
 simp only[go_sem,dz,aQ];intro i1 h1;simp only[go_sem];intro i2 h2;have n21:=aF h2;have n2:=aB h2;have hs:∀x y,Ab.Sub h (upd (upd h i1 x) i2 y):=fun x y=>((Sub.refl h).put h1 x).put n2 y
 cases d1:(m.op==1)
 case true=>
  have e1:m.op=1:=aas;cases dk:(v.kind !=m.val.kind)
  ·have dk' :v.kind=m.val.kind:=by grind
   simp only[go_sem,ak,n21.symm,d1,dk];exact .mk _ (.refl _) (hs _ _) ⟨by rw[lK,if_pos e1,if_pos dk'];rfl,rfl⟩
  ·simp only[go_sem,ak,n21.symm,d1,dk]
   exact .mk _ (.refl _) (hs _ _) ⟨by rw[lK,if_pos e1,if_neg aas];rfl,rfl⟩
 have e1:m.op≠1:=aas;have aft:∀a b:bw,∃x e,kr a b= .tup [.b x,.i e]:=fun a b=>by
  unfold kr;split
  ·simp
  simp
 cases d2:(m.op==2)
 case true=>
  have e2:m.op=2:=aas;obtain⟨x,e,ee⟩:=aft v m.val;rw[ee]at hl1;simp only[go_sem,ak,n21.symm,d1,d2];refine(hl1 _).pthen ?_;simp only[go_sem];exact .mk _ (.refl _) (hs _ _) ⟨by rw[lK,if_neg e1,if_pos e2,ee];rfl,rfl⟩
 ·have e2:m.op≠2:=by grind
  obtain⟨x,e,ee⟩:=aft m.val v;rw[ee]at hl2;simp only[go_sem,ak,n21.symm,d1,d2];refine(hl2 _).pthen ?_;simp only[go_sem];exact .mk _ (.refl _) (hs _ _) ⟨by rw[lK,if_neg e1,if_neg e2,ee];rfl,rfl⟩
theorem AD(m:bM)(v:bw):∃e:Int,(e !=0)=(cL m v==none)∧lK m v= .tup [.b (cL m v==some true),.i e]:=by
 have hl:∀a b:bw,∃e:Int,(e !=0)=(mz a b==none)∧kr a b= .tup [.b (mz a b==some true),.i e]:=fun a b=>by
  unfold kr;cases hx:mz a b with
  |some x=>simp
  |none=>refine⟨xy a b, ?_,rfl⟩;grind [xy]
 unfold lK cL
 by_cases e1:m.op=1
 ·rw[if_pos e1,if_pos e1]
  by_cases ek:v.kind=m.val.kind
  ·rw[if_pos ek,if_pos ek]
   exact⟨0,rfl,aaz⟩
  ·rw[if_neg ek,if_neg ek]
   exact⟨2,rfl,rfl⟩
 ·rw[if_neg e1,if_neg e1]
  by_cases e2:m.op=2
  ·rw[if_pos e2,if_pos e2];exact hl _ _
  ·rw[if_neg e2,if_neg e2];exact hl _ _
theorem Ho(bag:List bw)(must:Bool):∃e:Int,(e !=0)=decide (bag= []∧must=true)∧Hl bag must= .tup [.sl (bag.map aQ) .no,.i e]:=by
 unfold Hl;split
 ·simp_all
 grind
def qJ(gs:List bh):Prop:=gs.length≤1000000∧∀g∈gs,g.bag.length≤1000000
theorem qJ.bag{gs:List bh}(h:qJ gs)(a:oT):(wF gs a).length≤1000000:=by
 unfold wF getD;split
 ·rename_i g hg;exact h.2 g aas
 ·simp
theorem zS(m:bM)(gs:List bh)(hf:qJ gs)(h:Heap):ai Tryz.prog 214 [dz m,bE gs] h fun r h' =>r= .i (ju gs m:Nat)∧h' =h:=by
 have hg:=fun G=>FC gs m.attr.cat m.attr.name m.attr.must (by have:=hf.1;omega) hf.2 G
 have hbl:=hf.bag m.attr;obtain⟨B,eB⟩:∃B,wF gs m.attr=B:=⟨_,rfl⟩;have eg:Go.Bf.getD gs m.attr.cat m.attr.name=B:=eB;rw[eB]at hbl;rw[eg]at hg;have hmm:ju gs m=if B= []∧m.attr.must=true then 1 else if B.any (fun v=>cL m v==some true)then 2 else if B.any (fun v=>cL m v==none)then 1 else 0:=by
  unfold ju;rw[eB]
 obtain⟨eg,hge,hga⟩:=Ho B m.attr.must;rw[hga]at hg;have hag:=fun(v:bw) (G:Heap)=>DB m v G
 simp only[dz,bE,aQ]at hag hg;refine aaq Tryz.func214 38 [.tmp 4] fun hwf=> ?_
 simp only[go_sem,dz,bE];intro i1 h1;simp only[go_sem];refine(hg _).pthen ?_;cases d0:decide (B= []∧m.attr.must=true)
 case true=>
  rw[d0]at hge;simp only[go_sem,hge];exact .mk _ (.refl _) (.aj h1) ⟨by rw[hmm,if_pos (aaj d0)];rfl,rfl⟩
 rw[d0]at hge;rw[if_neg (aak d0)]at hmm;simp only[go_sem,hge,aah];obtain⟨H,eH⟩:∃H,upd h i1 (some (.obj [.i m.attr.cat,.s m.attr.name,.b m.attr.must,.i m.op,.i m.val.kind,.i m.val.n,.s m.val.s] 273))=H:=⟨_,rfl⟩;have hH:Ab.Sub h H:=by rw[←eH];exact .aj h1
 have k1:H i1=some (.obj [.i m.attr.cat,.s m.attr.name,.b m.attr.must,.i m.op,.i m.val.kind,.i m.val.n,.s m.val.s] 273):=abM;rw[eH];clear eH;refine .intro (fun q ρ G=>Ab.Sub H G∧∃i:Nat,i≤B.length∧q=B.length - i∧(∀j (hj:j<i) (h2:j<B.length),(cL m B[j]==some true)=false)∧lk ρ 2=some (.ptr i1 0)∧lk ρ 7=some (.i (if(B.take i).any (fun v=>cL m v==none)then 1 else 0))∧lk ρ 21=some (.sl (B.map aQ) .no)∧lk ρ 22=some (.i B.length)∧lk ρ 23=some (.i i)) B.length ?_ ?_
 ·refine⟨.refl _,0,aar,rfl,fun j hj=>aar, ?_, ?_, ?_, ?_, ?_⟩<;>simp only[go_sem]
  simp
 ·rintro q ρ G ⟨hs,i,hi,rfl,hc,r2,r7,r21,r22,r23⟩
  have k1' :=hs _ _ k1;simp only[go_sem,r22,r23];refine .intro (fun e=> ?_) (fun e=> ?_)
  ·have hlt:i<B.length:=aao e
   have w1:=aan i aar;have hsn:(B.take (i+1)).any (fun v=>cL m v==none)=((B.take i).any (fun v=>cL m v==none)||(cL m B[i]==none)):=any_succ hlt
   have ix:=fun k=>fz.eq (xs:=B.map aQ) (sz:=3) i aaQ aaH k
   rw[aai]at ix;have hci:=fun(d:(cL m B[i]==some true)=false)=>(fun j (hj:j<i+1) (h2:j<B.length)=>(by
    by_cases hji:j=i
    ·subst hji;exact d
    ·exact hc j aar h2:(cL m B[j]==some true)=false))
   have hat:=fun(d:(cL m B[i]==some true)=true)=>(List.any_eq_true.2 ⟨B[i],aam hlt,d⟩:B.any (fun v=>cL m v==some true)=true)
   obtain⟨v,ev⟩:∃v,B[i]=v:=⟨_,rfl⟩;rw[ev]at ix hsn hci hat;simp only[aQ]at ix;obtain⟨e,he1,he2⟩:=AD m v;have hag1:=hag v;rw[he2]at hag1;simp only[go_sem,r21,r23,ix];intro i4 h4;have n41:i4≠i1:=fun e=>by rw[e,k1']at h4;cases h4
   simp only[go_sem,r2,ak,n41.symm,k1'];refine(hag1 _).pthen ?_;cases d1:(cL m v==some true)
   ·cases d2:(cL m v==none)
    ·rw[d2]at he1 hsn
     rw[Bool.or_false]at hsn;simp only[go_sem,r23,he1,w1];refine⟨_, ?_,hs.trans (.aj h4),i+1,aar,rfl,hci d1, ?_, ?_, ?_, ?_, ?_⟩
     ·omega
     all_goals simp only[go_sem,r2,r7,r21,r22,hsn]
    ·rw[d2]at he1 hsn
     rw[Bool.or_true]at hsn;simp only[go_sem,r23,he1,w1];refine⟨_, ?_,hs.trans (.aj h4),i+1,aar,rfl,hci d1, ?_, ?_, ?_, ?_, ?_⟩
     ·omega
     all_goals simp only[go_sem,r2,r21,r22,hsn]
   ·simp only[go_sem]
    refine .mk _ (.refl _) (hH.trans (hs.trans (.aj h4))) ⟨by rw[hmm,if_pos (hat d1)];rfl,rfl⟩
  ·have hge:i=B.length:=by have:=aak e;omega
   subst hge;rw[List.take_length]at r7;simp only[go_sem,r7];refine .mk _ (.refl _) (hH.trans hs) ⟨?_,rfl⟩;have hno:B.any (fun v=>cL m v==some true)=false:=List.any_eq_false.2 fun x hx=>by
    obtain⟨j,hj,rfl⟩:=List.mem_iff_getElem.1 hx;rw[hc j hj hj];decide
   rw[hmm,hno];cases B.any (fun v=>cL m v==none)<;>rfl
theorem FQ(a b:Nat):(if((b:Int)<(a:Int))then(b:Int)else(a:Int))=((min a b:Nat):Int):=by
 grind
theorem Mm(a b:Nat):(if((a:Int)<(b:Int))then(b:Int)else(a:Int))=((max a b:Nat):Int):=by
 grind
theorem LD(l:List bM)(hl:l.length≤1000000)(gs:List bh)(hf:qJ gs)(h:Heap):ai Tryz.prog 244 [iA l,bE gs] h fun r h' =>r= .i (BD gs l:Nat)∧h' =h:=by
 have hmt:=fun(m:bM) (G:Heap)=>zS m gs hf G
 simp only[dz,bE]at hmt;refine aaq Tryz.func244 21 [.tmp 4] fun hwf=> ?_
 simp only[go_sem,iA,bE,aah];refine .intro (fun q ρ G=>Ab.Sub h G∧∃i:Nat,i≤l.length∧q=l.length - i∧lk ρ 1=some (.sl (gs.map kj) .no)∧lk ρ 5=some (.i (BD gs (l.take i):Nat))∧lk ρ 8=some (.sl (l.map dz) .no)∧lk ρ 9=some (.i l.length)∧lk ρ 10=some (.i i)) l.length ?_ ?_
 ·exact afS
 ·rintro q ρ G ⟨hs,i,hi,rfl,r1,r5,r8,r9,r10⟩
  simp only[go_sem,r9,r10];refine .intro (fun e=> ?_) (fun e=> ?_)
  ·have hlt:i<l.length:=aao e
   have w1:IntKind.i64.wrap ((i:Int)+1)=((i+1:Nat):Int):=aaE;have hsn:BD gs (l.take (i+1))=min (BD gs (l.take i)) (ju gs l[i]):=by
    grind [BD,List.take_succ_eq_append_getElem]
   have ix:=fun k=>fz.eq (xs:=l.map dz) (sz:=7) i aas aaH k
   rw[aai]at ix;obtain⟨m,em⟩:∃m,l[i]=m:=⟨_,rfl⟩;rw[em]at ix hsn;have hmt1:=hmt m;simp only[dz]at ix;simp only[go_sem,r8,r10,ix];intro i4 h4;simp only[go_sem,r1,r5];refine(hmt1 _).pthen ?_;simp only[go_sem,r10,FQ,w1];refine⟨_, ?_,hs.trans (.aj h4),i+1,aar,rfl, ?_, ?_, ?_, ?_, ?_⟩
   ·omega
   all_goals simp only[go_sem,r1,r8,r9,hsn]
  ·have hge:i=l.length:=by grind
   exact afC
def Lt(t:fQ):Prop:=t.length≤1000000∧∀x∈t,x.length≤1000000∧∀l∈x,l.length≤1000000
theorem J5(t:fQ)(ht:Lt t)(gs:List bh)(hf:qJ gs)(h:Heap):ai Tryz.prog 210 [aT t,bE gs] h fun r h' =>r= .i (lT gs t:Nat)∧h' =h:=by
 have hat:=fun(l:List bM) (hl:l.length≤1000000) (G:Heap)=>LD l hl gs hf G
 simp only[iA,bE]at hat;have htl:=ht.1;refine aaq Tryz.func210 34 [.tmp 4] fun hwf=> ?_
 simp only[go_sem,aT,bE,aah];refine .intro (fun q ρ G=>Ab.Sub h G∧∃i:Nat,i≤t.length∧q=t.length - i∧lk ρ 1=some (.sl (gs.map kj) .no)∧lk ρ 5=some (.i (lT gs (t.take i):Nat))∧lk ρ 11=some (.sl (t.map cM) .no)∧lk ρ 12=some (.i t.length)∧lk ρ 13=some (.i i)) t.length ?_ ?_
 ·exact afS
 ·rintro q ρ G ⟨hs,i,hi,rfl,r1,r5,r11,r12,r13⟩
  simp only[go_sem,r12,r13];refine .intro (fun e=> ?_) (fun e=> ?_)
  ·have hlt:i<t.length:=aao e
   have w1:IntKind.i64.wrap ((i:Int)+1)=((i+1:Nat):Int):=aaE;have hsn:lT gs (t.take (i+1))=min (lT gs (t.take i)) (yJ gs t[i]):=by
    grind [lT,List.take_succ_eq_append_getElem]
   have ix:=fun k=>fz.eq (xs:=t.map cM) (sz:=1) i aas aaH k
   rw[aai]at ix;obtain⟨hx1,hx2⟩:=ht.2 t[i] (aam hlt);obtain⟨x,ex⟩:∃x,t[i]=x:=⟨_,rfl⟩;rw[ex]at ix hsn hx1 hx2;simp only[cM]at ix;simp only[go_sem,r11,r13,ix,aah];refine .intro (fun q ρ' K=>Ab.Sub h K∧∃n:Nat,n≤x.length∧q=x.length - n∧lk ρ' 1=some (.sl (gs.map kj) .no)∧lk ρ' 5=some (.i (lT gs (t.take i):Nat))∧lk ρ' 8=some (.i (yJ gs (x.take n):Nat))∧lk ρ' 11=some (.sl (t.map cM) .no)∧lk ρ' 12=some (.i t.length)∧lk ρ' 13=some (.i i)∧lk ρ' 17=some (.sl (x.map iA) .no)∧lk ρ' 18=some (.i x.length)∧lk ρ' 19=some (.i n)) x.length ?_ ?_
   ·refine⟨hs,0,aar,rfl, ?_, ?_, ?_, ?_, ?_, ?_, ?_, ?_, ?_⟩<;>simp only[go_sem,r1,r5,r11,r12,r13]
    rfl
   ·rintro q ρ' K ⟨hs',n,hn,rfl,s1,s5,s8,s11,s12,s13,s17,s18,s19⟩
    simp only[go_sem,s18,s19];refine .intro (fun e=> ?_) (fun e=> ?_)
    ·have hlt2:n<x.length:=aao e
     have w2:IntKind.i64.wrap ((n:Int)+1)=((n+1:Nat):Int):=aaE;have hsn2:yJ gs (x.take (n+1))=max (yJ gs (x.take n)) (BD gs x[n]):=by
      grind [yJ,List.take_succ_eq_append_getElem]
     have ix2:=fun k=>fz.eq (xs:=x.map iA) (sz:=1) n aas aaH k
     rw[aai]at ix2;have hx3:=hx2 x[n] (aam hlt2);obtain⟨l,el⟩:∃l,x[n]=l:=⟨_,rfl⟩;rw[el]at ix2 hsn2 hx3;simp only[iA]at ix2;simp only[go_sem,s1,s8,s17,s19,ix2];refine(hat l hx3 _).pthen ?_;simp only[go_sem,s19,Mm,w2];refine⟨_, ?_,hs',n+1,aar,rfl, ?_, ?_, ?_, ?_, ?_, ?_, ?_, ?_, ?_⟩
     ·omega
     all_goals simp only[go_sem,s1,s5,s11,s12,s13,s17,s18,hsn2]
    ·have hge:n=x.length:=by grind
     subst hge;rw[List.take_length]at s8;simp only[go_sem,s5,s8,s13,FQ,w1];refine⟨_, ?_,hs',i+1,aar,rfl, ?_, ?_, ?_, ?_, ?_⟩
     ·omega
     all_goals simp only[go_sem,s1,s11,s12,hsn]
  ·have hge:i=t.length:=by grind
   exact afC
end Go.Proofs.YtcochaoekecfdaaGreatDoor
namespace Go.Bf
open Go Go.Ab Go.Proofs.YtcochaoekecfdaaGreatDoor
def yS(o:Bool)(n:Int):AV:=if o then .tup [.i 0,.i 3]else .tup [.i (w64 n),.i 0]
def qp(r:bw×Int):AV:=.tup [aQ r.1,.i r.2]
end Go.Bf
namespace Go.Proofs.YtcochaoekecfdaaGreatDoor
open Go Go.Ab Go.Bf
theorem On(a b:Int)(h:Heap):ai Tryz.prog 325 [.i a,.i b] h fun r h' =>r=yS (IV a b) (a+b)∧h' =h:=by
 refine aaq Tryz.func325 27 [.tmp 4,.tmp 5] fun hwf=> ?_
 cases d1:decide (0<b)<;>cases d2:decide (IntKind.i64.wrap (9223372036854775807 - b)<a)<;>cases d3:decide (b<0)<;>cases d4:decide (a<IntKind.i64.wrap (-9223372036854775808 - b))
 all_goals
  simp -implicitDefEqProofs only[go_sem,d1,d2,d3,d4];exact .same (.refl _) ⟨by simp only[yS,IV,w64,d1,d2,d3,d4];rfl,rfl⟩
theorem PR(a b:Int)(h:Heap):ai Tryz.prog 326 [.i a,.i b] h fun r h' =>r=yS (KP a b) (a - b)∧h' =h:=by
 refine aaq Tryz.func326 27 [.tmp 4,.tmp 5] fun hwf=> ?_
 cases d1:decide (0<b)<;>cases d2:decide (a<IntKind.i64.wrap (-9223372036854775808+b))<;>cases d3:decide (b<0)<;>cases d4:decide (IntKind.i64.wrap (9223372036854775807+b)<a)
 all_goals
  simp -implicitDefEqProofs only[go_sem,d1,d2,d3,d4];exact .same (.refl _) ⟨by simp only[yS,KP,w64,d1,d2,d3,d4];rfl,rfl⟩
theorem Pk(a b:Int)(h:Heap):ai Tryz.prog 327 [.i a,.i b] h fun r h' =>r=yS (HM a b) (a*b)∧h' =h:=by
 refine aaq Tryz.func327 36 [.tmp 4,.tmp 5] fun hwf=> ?_
 cases d0:(a !=0)
 ·have e0:a=0:=by grind
  subst e0;cases d1:(b== -1)
  all_goals
   simp -implicitDefEqProofs only[go_sem,d1];exact .same (.refl _) ⟨by simp[yS,HM,w64,au],rfl⟩
 have e0:a≠0:=aas;cases d1:(a== -1)<;>cases d2:(b== -9223372036854775808)<;>cases d3:(b== -1)<;>cases d4:(a== -9223372036854775808)<;>cases d5:(IntKind.i64.wrap ((IntKind.i64.wrap (a*b)).tdiv a) !=b)
 all_goals
  simp -implicitDefEqProofs only[go_sem,d0,d1,d2,d3,d4,d5,e0];exact .same (.refl _) ⟨by simp only[yS,HM,w64,d0,d1,d2,d3,d4,d5];rfl,rfl⟩
theorem Ao(b:Bool)(h:Heap):ai Tryz.prog 323 [.b b] h fun r h' =>r=aQ (eJ b)∧h' =h:=by
 refine aaq Tryz.func323 8 [.cell 2 30] fun hwf=> ?_
 simp -implicitDefEqProofs only[go_sem];intro i1 h1;simp -implicitDefEqProofs only[go_sem];intro i2 h2;have n21:=aF h2;have n2:=aB h2;cases b
 all_goals
  simp -implicitDefEqProofs only[go_sem,ak,n21.symm];exact .mk _ (.refl _) ((((Sub.refl h).put h1 _).put n2 _).put h1 _) ⟨rfl,rfl⟩
theorem AM(kind:Int)(l:List bw)(hl:l.length≤1000000)(p:Perm)(h:Heap):ai Tryz.prog 328 [.i kind,.sl (l.map aQ) p] h fun r h' =>r= .b (l.all fun v=>v.kind==kind)∧h' =h:=by
 refine aaq Tryz.func328 18 [.tmp 4] fun hwf=> ?_
 simp -implicitDefEqProofs only[go_sem,aah];refine .intro (fun q ρ G=>Ab.Sub h G∧∃i:Nat,i≤l.length∧q=l.length - i∧(∀j (hj:j<i) (h2:j<l.length),(l[j].kind==kind)=true)∧lk ρ 0=some (.i kind)∧lk ρ 7=some (.sl (l.map aQ) p)∧lk ρ 8=some (.i l.length)∧lk ρ 9=some (.i i)) l.length ?_ ?_
 ·refine⟨.refl _,0,aar,rfl,fun j hj=>aar, ?_, ?_, ?_, ?_⟩<;>simp -implicitDefEqProofs only[go_sem]
 ·rintro q ρ G ⟨hs,i,hi,rfl,hc,r0,r7,r8,r9⟩
  simp -implicitDefEqProofs only[go_sem,r8,r9];refine .intro (fun e=> ?_) (fun e=> ?_)
  ·have hlt:i<l.length:=aao e
   have w1:IntKind.i64.wrap ((i:Int)+1)=((i+1:Nat):Int):=aaE;have ix:=fun k=>fz.eq (xs:=l.map aQ) (sz:=3) i aas aaH k
   rw[aai]at ix;have hci:=fun(d:(l[i].kind==kind)=true)=>(fun j (hj:j<i+1) (h2:j<l.length)=>(by
    grind:(l[j].kind==kind)=true))
   have hat:=fun(d:(l[i].kind==kind)=false)=>(List.all_eq_false.2 ⟨l[i],aam hlt,aas⟩:(l.all fun v=>v.kind==kind)=false)
   obtain⟨v,ev⟩:∃v,l[i]=v:=⟨_,rfl⟩;rw[ev]at ix hci hat;simp only[aQ]at ix;cases d1:(v.kind==kind)
   ·have d2:(v.kind !=kind)=true:=by grind
    simp -implicitDefEqProofs only[go_sem,r7,r9,ix];intro i4 h4;simp -implicitDefEqProofs only[go_sem,r0,d2];exact .mk _ (.refl _) (hs.trans (.aj h4)) ⟨aep,rfl⟩
   ·have d2:(v.kind !=kind)=false:=by grind
    simp -implicitDefEqProofs only[go_sem,r7,r9,ix];intro i4 h4;simp -implicitDefEqProofs only[go_sem,r0,r9,d2,w1];refine⟨_, ?_,hs.trans (.aj h4),i+1,aar,rfl,hci d1, ?_, ?_, ?_, ?_⟩
    ·omega
    all_goals simp -implicitDefEqProofs only[go_sem,r0,r7,r8]
  ·have hge:i=l.length:=by grind
   simp -implicitDefEqProofs only[go_sem];exact .mk _ (.refl _) hs ⟨by rw[List.all_eq_true.2 fun x hx=>ac7];rfl,rfl⟩
theorem EB(g:FuncId)(a b:bw)(o:Bool)(n:Int)(hg:∀G,ai Tryz.prog g [.i a.n,.i b.n] G fun r h' =>r=yS o n∧h' =G)(p:Perm)(h:Heap):
  ai Tryz.prog 324 [.fn g [],.sl [aQ a,aQ b] p] h fun r h' =>r=qp (if([a,b].all fun v=>v.kind==2)then yT o n else mO 2)∧h' =h:=by
 have ix0:=fun k=>fz.eq (xs:=[aQ a,aQ b]) (sz:=3) 0 aaz rfl k
 have ix1:=fun k=>fz.eq (xs:=[aQ a,aQ b]) (sz:=3) 1 aaz rfl k
 simp only[List.getElem_cons_zero,List.getElem_cons_succ,aQ,Int.natCast_zero,Int.natCast_one]at ix0 ix1;have hal:=fun(G:Heap)=>AM 2 [a,b] aaz p G
 simp only[List.map_cons,List.map_nil,aQ]at hal;refine aaq Tryz.func324 31 [.cell 4 30,.tmp 5] fun hwf=> ?_
 simp -implicitDefEqProofs only[go_sem,aQ];intro i1 h1;simp -implicitDefEqProofs only[go_sem];refine(hal _).pthen ?_;cases d1:([a,b].all fun v=>v.kind==2)
 ·simp -implicitDefEqProofs only[go_sem]
  exact aaI
 ·simp -implicitDefEqProofs only[go_sem]
  refine .quiet aav ?_;simp -implicitDefEqProofs only[go_sem,ix0,ix1];cases o
  ·refine⟨_,hg _, ?_⟩
   simp -implicitDefEqProofs only[go_sem,yS];exact aaI
  ·refine⟨_,hg _, ?_⟩
   simp -implicitDefEqProofs only[go_sem,yS];exact aaI
theorem vT{α:Type}{l:List α}(h:l.length=2):∃a b,l= [a,b]:=by
 match l,h with
 | [a,b],_=>exact⟨a,b,rfl⟩
def Eu(op:Int)(l:List bw):Bool:= !(decide (op<6)||decide (13<op)||(l.length:Int) !=(if op==11 then 1 else 2)) && l.all bF
theorem Pg(op:Int)(l:List bw)(hl:l.length≤1000000)(p:Perm)(h:Heap):ai Tryz.prog 322 [.i op,.sl (l.map aQ) p] h fun r h' =>r= .b (Eu op l)∧h' =h:=by
 have hvr:=fun(v:bw) (G:Heap)=>fT v G
 simp only[aQ]at hvr;refine aaq Tryz.func322 32 [.tmp 4] fun hwf=> ?_
 cases d11:(op==11)
 all_goals
  have hmm:Eu op l=(!(decide (op<6)||decide (13<op)||(l.length:Int) !=(if op==11 then 1 else 2)) && l.all bF):=rfl
  rw[d11]at hmm;simp only[if_true,Bool.false_eq_true,if_false]at hmm;cases d6:decide (op<6)
  case true=>
   rw[d6]at hmm;simp -implicitDefEqProofs only[go_sem,d11,d6];exact .same (.refl _) ⟨by rw[hmm];rfl,rfl⟩
  cases d13:decide (13<op)
  case true=>
   rw[d6,d13]at hmm;simp -implicitDefEqProofs only[go_sem,d11,d6,d13];exact .same (.refl _) ⟨by rw[hmm];rfl,rfl⟩
  rw[d6,d13]at hmm;simp only[Bool.or_false,Bool.false_or]at hmm;obtain⟨b,eb⟩:∃b,((l.length:Int) !=(if op==11 then 1 else 2))=b:=⟨_,rfl⟩
  rw[d11]at eb;simp only[if_true,Bool.false_eq_true,if_false]at eb;rw[eb]at hmm;cases b
  case true=>
   simp -implicitDefEqProofs only[go_sem,d11,d6,d13,aah,eb];exact .same (.refl _) ⟨by rw[hmm];rfl,rfl⟩
  simp only[Bool.not_false,Bool.true_and]at hmm;simp -implicitDefEqProofs only[go_sem,d11,d6,d13,aah,eb];refine .intro (fun q ρ G=>Ab.Sub h G∧∃i:Nat,i≤l.length∧q=l.length - i∧(∀j (hj:j<i) (h2:j<l.length),bF l[j]=true)∧lk ρ 22=some (.sl (l.map aQ) p)∧lk ρ 23=some (.i l.length)∧lk ρ 24=some (.i i)) l.length ?_ ?_
  ·refine⟨.refl _,0,aar,rfl,fun j hj=>aar, ?_, ?_, ?_⟩<;>simp -implicitDefEqProofs only[go_sem]
  ·rintro q ρ G ⟨hs,i,hi,rfl,hc,r22,r23,r24⟩
   simp -implicitDefEqProofs only[go_sem,r23,r24];refine .intro (fun e=> ?_) (fun e=> ?_)
   ·have hlt:i<l.length:=aao e
    have w1:IntKind.i64.wrap ((i:Int)+1)=((i+1:Nat):Int):=aaE;have ix:=fun k=>fz.eq (xs:=l.map aQ) (sz:=3) i aas aaH k
    rw[aai]at ix;have hci:=fun(d:bF l[i]=true)=>(fun j (hj:j<i+1) (h2:j<l.length)=>(by
     grind:bF l[j]=true))
    have hat:=fun(d:bF l[i]=false)=>(List.all_eq_false.2 ⟨l[i],aam hlt,aas⟩:l.all bF=false)
    obtain⟨v,ev⟩:∃v,l[i]=v:=⟨_,rfl⟩;rw[ev]at ix hci hat;simp only[aQ]at ix;simp -implicitDefEqProofs only[go_sem,r22,r24,ix];intro i4 h4;simp -implicitDefEqProofs only[go_sem];refine(hvr v _).pthen ?_;cases d1:bF v
    ·simp -implicitDefEqProofs only[go_sem]
     exact .mk _ (.refl _) (hs.trans (.aj h4)) ⟨by rw[hmm,hat d1];rfl,rfl⟩
    ·simp -implicitDefEqProofs only[go_sem,r24,w1]
     refine⟨_, ?_,hs.trans (.aj h4),i+1,aar,rfl,hci d1, ?_, ?_, ?_⟩
     ·omega
     all_goals simp -implicitDefEqProofs only[go_sem,r22,r23]
   ·have hge:i=l.length:=by grind
    simp -implicitDefEqProofs only[go_sem];exact .mk _ (.refl _) hs ⟨by rw[hmm,List.all_eq_true.2 fun x hx=>ac7];rfl,rfl⟩
theorem Jd{op:Int}{l:List bw}(h:Eu op l=false):gC op l=mO 1:=by
 unfold gC;rw[if_pos]
 by_cases h1:6≤op∧op≤13
 ·by_cases h2:l.length=if op=11 then 1 else 2
  ·refine .inr (.inr ?_)
   unfold Eu at h
   grind
  omega
 omega
theorem Gy{op:Int}{l:List bw}(h:Eu op l=true):(6≤op∧op≤13)∧l.all bF=true∧(op=11∧(∃a,l= [a])∨op≠11∧∃a b,l= [a,b]):=by
 unfold Eu at h;simp only[Bool.and_eq_true,Bool.not_eq_true',Bool.or_eq_false_iff,decide_eq_false_iff_not]at h;obtain⟨⟨⟨h1,h2⟩,h3⟩,h4⟩:=h;refine⟨aar,h4, ?_⟩
 by_cases e:op=11
 ·subst e
  have h3' :(l.length:Int)=1:=aas;exact .inl ⟨rfl,List.length_eq_one_iff.1 aar⟩
 ·have h3' :(l.length:Int)=2:=by grind
  exact .inr ⟨e,vT aar⟩
theorem AP(op:Int)(l:List bw)(hl:l.length≤1000000)(p:Perm)(h:Heap):ai Tryz.prog 319 [.i op,.sl (l.map aQ) p] h fun r h' =>r=qp (gC op l)∧h' =h:=by
 have hmy:=fun G=>Pg op l hl p G
 cases dm:Eu op l
 ·rw[dm]at hmy
  refine aaq Tryz.func319 111 [.cell 4 30,.tmp 5] fun hwf=> ?_
  simp -implicitDefEqProofs only[go_sem];intro i1 h1;simp -implicitDefEqProofs only[go_sem];refine(hmy _).pthen ?_;simp -implicitDefEqProofs only[go_sem];exact .mk _ (.refl _) (.aj h1) ⟨by rw[Jd dm];rfl,rfl⟩
 rw[dm]at hmy;obtain⟨hop,hall,hf⟩:=Gy dm;rcases hf with⟨rfl,a,rfl⟩|⟨e11,a,b,rfl⟩
 ·have ix0:=fun k=>fz.eq (xs:=[aQ a]) (sz:=3) 0 aaz rfl k
  simp only[List.getElem_cons_zero,aQ,Int.natCast_zero]at ix0;have hal:=fun(G:Heap)=>AM 1 [a] aaz p G
  simp only[List.map_cons,List.map_nil,aQ]at hal hmy;have hc:gC 11 [a]=if(([a].all fun v=>v.kind==1)=false)then mO 2 else(eJ (a.n==0),0):=by
   unfold gC;rw[if_neg (by simp[hall])]
   simp
  have htr:=fun G=>Ao (a.n==0) G
  refine aaq Tryz.func319 111 [.cell 4 30,.tmp 5] fun hwf=> ?_
  simp -implicitDefEqProofs only[go_sem,List.map_cons,List.map_nil,aQ];intro i1 h1;simp -implicitDefEqProofs only[go_sem];refine(hmy _).pthen ?_;simp -implicitDefEqProofs only[go_sem];refine(hal _).pthen ?_;cases d1:([a].all fun v=>v.kind==1)
  ·simp -implicitDefEqProofs only[go_sem]
   exact .mk _ (.refl _) (.aj h1) ⟨by rw[hc,if_pos d1];rfl,rfl⟩
  ·simp -implicitDefEqProofs only[go_sem,ix0]
   refine(htr _).pthen ?_;simp -implicitDefEqProofs only[go_sem,aQ];exact .mk _ (.refl _) (.aj h1) ⟨by rw[hc,if_neg (by rw[d1];decide)];rfl,rfl⟩
 ·have ix0:=fun k=>fz.eq (xs:=[aQ a,aQ b]) (sz:=3) 0 aaz rfl k
  have ix1:=fun k=>fz.eq (xs:=[aQ a,aQ b]) (sz:=3) 1 aaz rfl k
  simp only[List.getElem_cons_zero,List.getElem_cons_succ,aQ,Int.natCast_zero,Int.natCast_one]at ix0 ix1;have hal:=fun(G:Heap)=>AM 1 [a,b] aaz p G
  have hva:bF a=true∧bF b=true:=by simpa using hall
  have hnu:=fun(g:FuncId) (o:Bool) (n:Int) hg (G:Heap)=>EB g a b o n hg p G
  simp only[List.map_cons,List.map_nil,aQ]at hal hmy hnu;have hle:=fun G=>A8 a b G
  simp only[aQ]at hle;have htr:=fun(x:Bool) G=>Ao x G
  have hc:gC op [a,b]=if op=6 then(if a.kind=b.kind then(eJ (eqV a b),0)else mO 2)
    else if op=7 then(match mz a b with
     |some x=>(eJ x,0)
     |none=>mO 2)
    else if op=8∨op=9∨op=10 then
     (if [a,b].all fun v=>v.kind==2 then(if op=8 then yT (IV a.n b.n) (a.n+b.n)else if op=9 then yT (KP a.n b.n) (a.n - b.n)else yT (HM a.n b.n) (a.n*b.n))else mO 2)
    else if([a,b].all fun v=>v.kind==1)=false then mO 2
    else if op=12 then(eJ (a.n==1 && b.n==1),0)
    else(eJ (a.n==1||b.n==1),0):=by
   unfold gC;rw[if_neg (by simp[hall,e11,hop.1,hop.2])]
   simp only[e11,if_false];rfl
  refine aaq Tryz.func319 111 [.cell 4 30,.tmp 5] fun hwf=> ?_
  simp -implicitDefEqProofs only[go_sem,List.map_cons,List.map_nil,aQ];intro i1 h1;simp -implicitDefEqProofs only[go_sem];refine(hmy _).pthen ?_;rcases(show op=6∨op=7∨op=8∨op=9∨op=10∨op=12∨op=13 by omega)with rfl|rfl|rfl|rfl|rfl|rfl|rfl
  ·simp -implicitDefEqProofs only[go_sem]
   refine⟨.of aav, ?_⟩;cases dk:(a.kind !=b.kind)
   case true=>
    simp -implicitDefEqProofs only[go_sem,ix0,ix1,dk];exact .mk _ (.refl _) (.aj h1) ⟨by rw[hc,if_pos rfl,if_neg (by simpa using dk)];rfl,rfl⟩
   ·simp -implicitDefEqProofs only[go_sem,ix0,ix1,dk]
    refine .calls di [0,1,2,3,4,5,6,7,8,9] (fun _ _ e=>aaU) aav rfl ?_
    simp -implicitDefEqProofs only[go_sem,ix0,ix1];have htr1:=htr (eqV a b);simp only[eqV]at htr1;refine(htr1 _).pthen ?_;refine⟨fun _ _ e=>aaU, ?_⟩
    simp -implicitDefEqProofs only[go_sem,aQ];refine⟨fun _ _ e=>aaU, ?_⟩
    exact .mk _ (.refl _) (.aj h1) ⟨by rw[hc,if_pos rfl,if_pos (by simpa using dk)];rfl,rfl⟩
  ·have hc7:gC 7 [a,b]=(match mz a b with
     |some x=>(eJ x,0)
     |none=>mO 2):=by rw[hc];rfl
   simp -implicitDefEqProofs only[go_sem];refine .quiet aav ?_;simp -implicitDefEqProofs only[go_sem,ix0,ix1];refine⟨_,hle _, ?_⟩;cases hl:mz a b with
   |none=>
    have e2:xy a b=2:=by simp[xy,hva]
    rw[hl]at hc7;simp -implicitDefEqProofs only[go_sem,kr,hl,e2];exact .mk _ (.refl _) (.aj h1) ⟨by rw[hc7];rfl,rfl⟩
   |some x=>
    rw[hl]at hc7;simp -implicitDefEqProofs only[go_sem,kr,hl];refine(htr x _).pthen ?_;simp -implicitDefEqProofs only[go_sem,aQ];exact .mk _ (.refl _) (.aj h1) ⟨by rw[hc7];rfl,rfl⟩
  ·have hc8:gC 8 [a,b]=if [a,b].all (fun v=>v.kind==2)then yT (IV a.n b.n) (a.n+b.n)else mO 2:=by rw[hc];rfl
   have hg:=hnu 325 _ _ (fun G=>On a.n b.n G)
   rw[←hc8]at hg;obtain⟨⟨v,e⟩,ex⟩:∃x,gC 8 [a,b]=x:=⟨_,rfl⟩;exact aeP
  ·have hc8:gC 9 [a,b]=if [a,b].all (fun v=>v.kind==2)then yT (KP a.n b.n) (a.n - b.n)else mO 2:=by rw[hc];rfl
   have hg:=hnu 326 _ _ (fun G=>PR a.n b.n G)
   rw[←hc8]at hg;obtain⟨⟨v,e⟩,ex⟩:∃x,gC 9 [a,b]=x:=⟨_,rfl⟩;exact aeP
  ·have hc8:gC 10 [a,b]=if [a,b].all (fun v=>v.kind==2)then yT (HM a.n b.n) (a.n*b.n)else mO 2:=by rw[hc];rfl
   have hg:=hnu 327 _ _ (fun G=>Pk a.n b.n G)
   rw[←hc8]at hg;obtain⟨⟨v,e⟩,ex⟩:∃x,gC 10 [a,b]=x:=⟨_,rfl⟩;exact aeP
  ·have hc12:gC 12 [a,b]=if([a,b].all fun v=>v.kind==1)=false then mO 2 else(eJ (a.n==1 && b.n==1),0):=by rw[hc];rfl
   simp -implicitDefEqProofs only[go_sem];refine(hal _).pthen ?_;cases d1:([a,b].all fun v=>v.kind==1)
   ·simp -implicitDefEqProofs only[go_sem]
    exact .mk _ (.refl _) (.aj h1) ⟨by rw[hc12,if_pos d1];rfl,rfl⟩
   ·rw[if_neg (by rw[d1];decide)]at hc12
    cases da:(a.n==1)<;>cases db:(b.n==1)
    all_goals
     rw[da,db]at hc12;simp -implicitDefEqProofs only[go_sem,ix0,ix1,da,db];refine(htr _ _).pthen ?_;simp -implicitDefEqProofs only[go_sem,aQ];exact .mk _ (.refl _) (.aj h1) ⟨by rw[hc12];rfl,rfl⟩
  ·have hc13:gC 13 [a,b]=if([a,b].all fun v=>v.kind==1)=false then mO 2 else(eJ (a.n==1||b.n==1),0):=by rw[hc];rfl
   simp -implicitDefEqProofs only[go_sem];refine(hal _).pthen ?_;cases d1:([a,b].all fun v=>v.kind==1)
   ·simp -implicitDefEqProofs only[go_sem]
    exact .mk _ (.refl _) (.aj h1) ⟨by rw[hc13,if_pos d1];rfl,rfl⟩
   ·rw[if_neg (by rw[d1];decide)]at hc13
    cases da:(a.n==1)<;>cases db:(b.n==1)
    all_goals
     rw[da,db]at hc13;simp -implicitDefEqProofs only[go_sem,ix0,ix1,da,db];refine(htr _ _).pthen ?_;simp -implicitDefEqProofs only[go_sem,aQ];exact .mk _ (.refl _) (.aj h1) ⟨by rw[hc13];rfl,rfl⟩
end Go.Proofs.YtcochaoekecfdaaGreatDoor
namespace Go.Bf
open Go Go.Ab Go.Proofs.YtcochaoekecfdaaGreatDoor
def bL(x:iX):AV:=.agg [.sl (x.bag.map aQ) .no,.i x.v.kind,.i x.v.n,.s x.v.s,.i x.e]
end Go.Bf
namespace Go.Proofs.YtcochaoekecfdaaGreatDoor
open Go Go.Ab Go.Bf
theorem O5(x:iX)(n:Int)(h:Heap):ai Tryz.prog 274 [bL x,.i n] h fun r h' =>r= .b (isI x n)∧h' =h:=by
 refine aaq Tryz.func274 15 [.tmp 4] fun hwf=> ?_
 simp only[go_sem,bL];exact aeV
theorem L7(x:iX)(n:Int)(h:Heap):ai Tryz.prog 274 [.agg [.sl [] .full,.i x.v.kind,.i x.v.n,.s x.v.s,.i x.e],.i n] h fun r h' =>r= .b (isI x n)∧h' =h:=by
 refine aaq Tryz.func274 15 [.tmp 4] fun hwf=> ?_
 simp only[go_sem];exact aeV
theorem uw(b:Bool)(h:Heap):ai Tryz.prog 317 [.b b] h fun r h' =>r=bL (iE b)∧h' =h:=by
 refine aaq Tryz.func317 10 [.cell 2 364] fun hwf=> ?_
 simp only[go_sem];intro i1 h1;simp only[go_sem];intro i2 h2;have n21:=aF h2;have n2:=aB h2;cases b
 all_goals
  simp only[go_sem,ak,n21.symm];refine .mk (bL (iE _)) ?_ ((((Sub.refl h).put h1 _).put n2 _).put h1 _) ⟨rfl,rfl⟩;refine .agg _ _ rfl fun i a b=> ?_
  rcases i with _|_|_|_|_|i
  ·exact ac3
  all_goals first|exact .refl _|(simp at a;omega)
theorem DY(op:Int)(h:Heap):ai Tryz.prog 301 [.i op] h fun r h' =>r= .i (opsOf op:Nat)∧h' =h:=by
 refine aaq Tryz.func301 11 [.tmp 2] fun hwf=> ?_
 cases d1:(op==1)
 case true=>simp only[go_sem,d1];exact .same (.refl _) ⟨by rw[opsOf,if_pos (.inl aas)];rfl,rfl⟩
 cases d2:(op==2)
 case true=>simp only[go_sem,d1,d2];exact .same (.refl _) ⟨by rw[opsOf,if_pos (.inr aas)];rfl,rfl⟩
 have e1:¬(op=1∨op=2):=aas;cases d3:(op==3)
 case true=>simp only[go_sem,d1,d2,d3];exact .same (.refl _) ⟨by rw[opsOf,if_neg e1,if_pos (.inl aas)];rfl,rfl⟩
 cases d4:(op==4)
 case true=>simp only[go_sem,d1,d2,d3,d4];exact .same (.refl _) ⟨by rw[opsOf,if_neg e1,if_pos (.inr (.inl aas))];rfl,rfl⟩
 cases d5:(op==11)
 case true=>simp only[go_sem,d1,d2,d3,d4,d5];exact .same (.refl _) ⟨by rw[opsOf,if_neg e1,if_pos (.inr (.inr aas))];rfl,rfl⟩
 have e2:¬(op=3∨op=4∨op=11):=aas;simp only[go_sem,d1,d2,d3,d4,d5];exact .same (.refl _) ⟨by rw[opsOf,if_neg e1,if_neg e2];rfl,rfl⟩
theorem Eo(vs:List bw)(hl:vs.length≤1000000000)(x:bw)(p:Perm)(h:Heap):
  ai Tryz.prog 329 [.sl (vs.map aQ) p,aQ x] h fun r h' =>r= .i (ixD (fun y=>eqV x y) vs)∧h' =h:=by
 refine aaq Tryz.func329 19 [.tmp 4] fun hwf=> ?_
 simp only[go_sem,aQ];intro i1 h1;simp only[go_sem,aah];refine .intro (fun m ρ G=>G=upd h i1 (some (.obj [.i x.kind,.i x.n,.s x.s] 30))∧∃i:Nat,i≤vs.length∧m=vs.length - i∧(∀j (hj:j<i) (h2:j<vs.length),eqV x vs[j]=false)∧lk ρ 0=some (.sl (vs.map aQ) p)∧lk ρ 3=some (.ptr i1 0)∧lk ρ 7=some (.i vs.length)∧lk ρ 8=some (.i i)) vs.length ?_ ?_
 ·refine⟨rfl,0,aar,rfl,fun j hj=>aar, ?_, ?_, ?_, ?_⟩<;>simp only[go_sem]
 ·rintro m ρ G ⟨rfl,i,hi,rfl,hc,r0,r3,r7,r8⟩
  simp only[go_sem,r7,r8];refine .intro (fun e=> ?_) (fun e=> ?_)
  ·have hlt:i<vs.length:=aao e
   have w1:IntKind.i64.wrap ((i:Int)+1)=((i+1:Nat):Int):=aaE;have ix:=fun k=>fz.eq (xs:=vs.map aQ) (sz:=3) i aas aaH k
   rw[aai]at ix;have hci:=fun(d:eqV x vs[i]=false)=>(fun j (hj:j<i+1) (h2:j<vs.length)=>(by
    grind:eqV x vs[j]=false))
   have hat:=fun(d:eqV x vs[i]=true)=>mQ (q:=fun y=>eqV x y) hlt d fun j hj=>hc j hj aar
   obtain⟨v,ev⟩:∃v,vs[i]=v:=⟨_,rfl⟩;rw[ev]at ix hci hat;simp only[aQ]at ix;simp only[go_sem,r0,r3,r8];refine⟨.of aav, ?_⟩;cases d1:eqV x v
   ·have d2:=d1
    simp only[eqV]at d2;simp only[go_sem,r8,ix,d2,w1];refine⟨_, ?_,rfl,i+1,aar,rfl,hci d1, ?_, ?_, ?_, ?_⟩
    ·omega
    all_goals simp only[go_sem,r0,r3,r7]
   ·have d2:=d1
    simp only[eqV]at d2;simp only[go_sem,ix,d2];exact .mk _ (.refl _) (.aj h1) ⟨aep,rfl⟩
  ·have hge:i=vs.length:=by grind
   simp only[go_sem];exact .mk _ (.refl _) (.aj h1) ⟨aaS,rfl⟩
theorem LF{vs:List bw}{x:bw}:decide ((0:Int)≤ixD (fun y=>eqV x y) vs)=vs.any fun v=>eqV v x:=by
 have hsy:(fun v=>eqV v x)=fun v=>eqV x v:=by simp[funext,eqV,BEq.comm]
 rw[tu,hsy]
theorem M0(vs:List bw)(hl:vs.length≤1000000000)(x:bw)(p:Perm)(h:Heap):ai Tryz.prog 318 [.sl (vs.map aQ) p,aQ x] h fun r h' =>r= .b (vs.any fun v=>eqV v x)∧h' =h:=by
 have h1:∀G,ai Tryz.prog 321 [.sl (vs.map aQ) p,aQ x] G fun r h' =>r= .b (vs.any fun v=>eqV v x)∧h' =G:=fun G=>by
  have hq:=fun K=>Eo vs hl x p K
  refine aaq Tryz.func321 9 [.tmp 4] fun hwf=> ?_
  simp only[go_sem,aQ];intro i1 h1;simp only[go_sem];refine(hq _).pthen ?_;simp only[go_sem,LF];exact aaI
 refine aaq Tryz.func318 8 [.tmp 4] fun hwf=> ?_
 simp only[go_sem,aQ];intro i1 h1';simp only[go_sem];refine(h1 _).pthen ?_;simp only[go_sem];exact .mk _ (.refl _) (.aj h1') ⟨rfl,rfl⟩
theorem ko{L:List AV}{x:iX}(hL:L=x.bag.map aQ)(q:Perm):Weak (.agg [.sl L q,.i x.v.kind,.i x.v.n,.s x.v.s,.i x.e]) (bL x):=by
 subst hL;refine .agg _ _ rfl fun i a b=> ?_
 rcases i with _|_|_|_|_|i
 ·exact ac3
 all_goals first|exact .refl _|(simp at a;omega)
theorem sE(op:Int):opsOf op≤2:=by
 grind [opsOf]
theorem tX{gs:List bh}{op:Int}{val:bw}{attr:oT}{l:List iX}{x:iX}(h1:op≠1)(h2:op≠2)(hno:¬((op=12∨op=13)∧(l.any fun x=>isI x (op - 12))=true))(hx:l.find? (fun x=>x.e !=0)=some x):kC gs ⟨op,val,attr⟩ l=⟨[],ax,x.e⟩:=by
 simp_all [kC,if_neg]
theorem tW{gs:List bh}{op:Int}{val:bw}{attr:oT}{l:List iX}(h1:op≠1)(h2:op≠2)(hno:¬((op=12∨op=13)∧(l.any fun x=>isI x (op - 12))=true))(hx:l.find? (fun x=>x.e !=0)=none):kC gs ⟨op,val,attr⟩ l=(if op=3 then(match (l.headD ⟨[],ax,0⟩).bag with
    | [v]=>⟨[],v,0⟩
    |_=>⟨[],ax,4⟩)
   else if op=4 then⟨[],⟨2,(l.headD ⟨[],ax,0⟩).bag.length,[]⟩,0⟩
   else if op=5 then iE ((l.headD ⟨[],ax,0⟩).bag.any fun v=>eqV v (l.getD 1 ⟨[],ax,0⟩).v)
   else Go.Bf.zf (gC op (l.map (·.v)))):=by
 unfold kC;simp only[if_neg h1,if_neg h2,if_neg hno,hx]
 all_goals rfl
theorem Mp{h:Heap}{y:AV}(n:aM)(hop:1≤n.op∧n.op≤13)(l:List iX)(hb:Rd h 5 y (l.map bL))(hl:l.length=opsOf n.op)(hbag:∀x∈l,x.bag.length≤1000000)(gs:List bh)(hf:qJ gs):
  ai Tryz.prog 302 [dj n,y,bE gs] h fun r h' =>r=bL (kC gs n l)∧h' =h:=by
 obtain⟨op,val,attr⟩:=n;simp only at hop hl;have hl2:l.length≤2:=by rw[hl];exact sE op
 have uV:(U 30).sz=3:=aaA;have hg:=fun G=>FC gs attr.cat attr.name attr.must (by have:=hf.1;omega) hf.2 G
 simp only[bE]at hg;refine aaq Tryz.func302 122 [.cell 6 364] fun hwf=> ?_
 simp only[go_sem,dj,bE];intro i3 h3;simp only[go_sem];intro i6 h6;have n63:=aF h6;have n6' :=aB h6;obtain⟨H0,eH⟩:∃H0,upd (upd h i3 (some (.obj [.i op,.i val.kind,.i val.n,.s val.s,.i attr.cat,.s attr.name,.b attr.must] 229))) i6 (some (.obj [.sl [] .full,.i 0,.i 0,.s [],.i 0] 364))=H0:=⟨_,rfl⟩;have hH0:Ab.Sub h H0:=adp;have g3:H0 i3=some (.obj [.i op,.i val.kind,.i val.n,.s val.s,.i attr.cat,.s attr.name,.b attr.must] 229):=by rw[←eH,ag _ _ n63.symm,ah]
 have g6:H0 i6=some (.obj [.sl [] .full,.i 0,.i 0,.s [],.i 0] 364):=abM;rw[eH];clear eH;cases d1:(op==1)
 case true=>
  have e1:op=1:=adq;simp only[go_sem,d1,g3,g6];exact .mk (bL ⟨[],val,0⟩) (ko (x:=⟨[],val,0⟩) rfl _) (hH0.put n6' _) ⟨by unfold kC;simp only[e1,if_true],rfl⟩
 have hp1' :op≠1:=adq;cases d2:(op==2)
 case true=>
  have e2:op=2:=by simpa using d2
  simp only[go_sem,d1,d2,g3];refine(hg _).pthen ?_
  by_cases hh:wF gs attr= []∧attr.must=true
  ·have hh2:Go.Bf.getD gs attr.cat attr.name= []∧attr.must=true:=hh
   simp only[go_sem,Hl,if_pos hh2,g6];exact .mk (bL ⟨[],ax,4⟩) (ko (x:=⟨[],ax,4⟩) rfl _) (hH0.put n6' _) ⟨by unfold kC;simp only[e2,if_neg (show¬(2:Int)=1 by decide),if_true,if_pos hh],rfl⟩
  ·have hh2:¬(Go.Bf.getD gs attr.cat attr.name= []∧attr.must=true):=hh
   simp only[go_sem,Hl,if_neg hh2,g6];exact .mk (bL ⟨wF gs attr,ax,0⟩) (ko (x:=⟨wF gs attr,ax,0⟩) rfl _) (hH0.put n6' _) ⟨by unfold kC;simp only[e2,if_neg (show¬(2:Int)=1 by decide),if_true,if_neg hh],rfl⟩
 have hp2' :op≠2:=by simpa using d2
 have his:=fun(x:iX) (m:Int) (G:Heap)=>O5 x m G
 simp only[bL]at his;cases d12:(op==12)
 case true=>
  have e12:op=12:=by simpa using d12
  have htr:=fun G=>uw false G
  simp only[bL]at htr;obtain⟨a,b,hab⟩:∃a b,l= [a,b]:=vT (by rw[hl,e12];rfl)
  have wk:IntKind.i64.wrap (op - 12)=0:=ac4;have han:(l.any fun x=>isI x (op - 12))=(isI a 0||isI b 0):=by rw[hab,e12];simp
  have hb0:l.map bL= [bL a,bL b]:=by rw[hab];rfl
  have q3:(op==3)=false:=ac4;have q4:(op==4)=false:=ac4;have q5:(op==5)=false:=ac4;have hbH:=hb.sub hH0;simp only[go_sem,d2,d1,d12,g3,wk];refine hbH.idx (e:=364) 0 rfl acC aaA aau fun p hp1=> ?_
  have hld:=hp1.all (U:=U) (ty:=364) aaA abw abw;simp only[go_sem,hld,hb0,List.getElem_cons_zero,bL];refine(his a 0 _).pthen ?_;cases da:isI a 0
  ·simp only[go_sem]
   refine hbH.idx (e:=364) 1 rfl acC aaA aau fun p hp1=> ?_
   have hld:=hp1.all (U:=U) (ty:=364) aaA aa5 aa5;simp only[go_sem,hld,hb0,List.getElem_cons_succ,List.getElem_cons_zero,bL];refine(his b 0 _).pthen ?_;cases db:isI b 0
   ·exact aey
   ·simp only[go_sem]
    refine(htr _).pthen ?_;simp only[go_sem,g6];exact .mk (bL (iE false)) (ko (x:=(iE false)) rfl _) (hH0.put n6' _) ⟨by unfold kC;rw[han,da,db];simp[e12]<;>rfl,rfl⟩
  ·simp only[go_sem]
   refine(htr _).pthen ?_;simp only[go_sem,g6];exact .mk (bL (iE false)) (ko (x:=(iE false)) rfl _) (hH0.put n6' _) ⟨by unfold kC;rw[han,da];simp[e12]<;>rfl,rfl⟩
 have hn12:op≠12:=by simpa using d12
 cases d13:(op==13)
 case true=>
  have e12:op=13:=by simpa using d13
  have htr:=fun G=>uw true G
  simp only[bL]at htr;obtain⟨a,b,hab⟩:∃a b,l= [a,b]:=vT (by rw[hl,e12];rfl)
  have wk:IntKind.i64.wrap (op - 12)=1:=ac4;have han:(l.any fun x=>isI x (op - 12))=(isI a 1||isI b 1):=by rw[hab,e12];simp
  have hb0:l.map bL= [bL a,bL b]:=by rw[hab];rfl
  have q3:(op==3)=false:=ac4;have q4:(op==4)=false:=ac4;have q5:(op==5)=false:=ac4;have hbH:=hb.sub hH0;simp only[go_sem,d1,d2,d12,d13,g3,wk];refine hbH.idx (e:=364) 0 rfl acC aaA aau fun p hp1=> ?_
  have hld:=hp1.all (U:=U) (ty:=364) aaA abw abw;simp only[go_sem,hld,hb0,List.getElem_cons_zero,bL];refine(his a 1 _).pthen ?_;cases da:isI a 1
  ·simp only[go_sem]
   refine hbH.idx (e:=364) 1 rfl acC aaA aau fun p hp1=> ?_
   have hld:=hp1.all (U:=U) (ty:=364) aaA aa5 aa5;simp only[go_sem,hld,hb0,List.getElem_cons_succ,List.getElem_cons_zero,bL];refine(his b 1 _).pthen ?_;cases db:isI b 1
   ·exact aey
   ·simp only[go_sem]
    refine(htr _).pthen ?_;simp only[go_sem,g6];exact .mk (bL (iE true)) (ko (x:=(iE true)) rfl _) (hH0.put n6' _) ⟨by unfold kC;rw[han,da,db];simp[e12]<;>rfl,rfl⟩
  ·simp only[go_sem]
   refine(htr _).pthen ?_;simp only[go_sem,g6];exact .mk (bL (iE true)) (ko (x:=(iE true)) rfl _) (hH0.put n6' _) ⟨by unfold kC;rw[han,da];simp[e12]<;>rfl,rfl⟩
 have hn13:op≠13:=by simpa using d13
 have hno:¬((op=12∨op=13)∧(l.any fun x=>isI x (op - 12))=true):=fun hh=>hh.1.elim hn12 hn13
 simp only[go_sem,d1,d2,d12,d13,g3,hb.len,aah];refine .intro (fun m ρ H=>∃(i:Nat) (z:AV),Acc U 30 H0 H z ((l.take i).map fun x=>aQ x.v)∧i≤l.length∧m=l.length - i∧(∀j (h1:j<l.length),j<i→l[j].e=0)∧lk ρ 1=some y∧lk ρ 3=some (.ptr i3 0)∧lk ρ 6=some (.ptr i6 0)∧lk ρ 10=some z∧lk ρ 55=some y∧lk ρ 56=some (.i l.length)∧lk ρ 57=some (.i i)) l.length ?_ ?_
 ·refine⟨0,.sl [] .full,.full (.refl _),aar,rfl,fun j _ hj=>aar, ?_, ?_, ?_, ?_, ?_, ?_, ?_⟩<;>simp only[go_sem]
 ·rintro m ρ H ⟨i,z,hz,hi,rfl,hc,r1,r3,r6,r10,r55,r56,r57⟩
  have hsH:=hH0.trans hz.1;have hbH:=hb.sub hsH;have k3:=hz.1 _ _ g3;have k6:=hz.1 _ _ g6;simp only[go_sem,r56,r57];refine .intro (fun e=> ?_) (fun e=> ?_)
  ·have hlt:i<l.length:=aao e
   have w1:=aan i aar;have hsn:(l.take (i+1)).map (fun x=>aQ x.v)=(l.take i).map (fun x=>aQ x.v)++ [aQ l[i].v]:=abA
   simp only[go_sem,r55,r57];refine hbH.idx (e:=364) i rfl aaQ aaA aau fun p hp1=> ?_
   have hld:=hp1.all (U:=U) (ty:=364) aaA aa2 aa2;obtain⟨x,ex⟩:∃x,l[i]=x:=⟨_,rfl⟩;rw[ex]at hsn;simp only[go_sem,hld,aai,ex,bL];intro i12 h12;have n126:i12≠i6:=fun e=>acp
   cases dx:(x.e !=0)
   ·have dx' :x.e=0:=by simpa using dx
    simp only[go_sem,r10,dx];refine(hz.sub (.aj h12)).app (zs:=[aQ x.v]) aaw aaw (fun k hk=>hk) abF abT aaJ fun z' H' hz' kp=> ?_
    simp only[go_sem,r57,w1];refine⟨_, ?_,i+1,z',by rw[hsn];exact hz',aar,rfl,fun j h1 hj=> ?_, ?_, ?_, ?_, ?_, ?_, ?_, ?_⟩
    ·omega
    ·by_cases hji:j=i
     ·subst hji;rw[ex];exact dx'
     ·exact hc j h1 aar
    all_goals simp only[go_sem,r1,r3,r6,r55,r56]
   ·have hfi:l.find? (fun x=>x.e !=0)=some x:=by rw[←ex];exact List.find?_eq_some_iff_getElem.2 ⟨by rw[ex];exact dx,i,hlt,rfl,fun j hj=>adU⟩
    simp only[go_sem,r6,dx,ak,n126.symm,k6];exact .mk (bL ⟨[],ax,x.e⟩) (ko (x:=⟨[],ax,x.e⟩) rfl _) ((hsH.trans (.aj h12)).put n6' _) ⟨adG,rfl⟩
  ·have hge:i=l.length:=by have:=aak e;omega
   subst hge;have hfi:l.find? (fun x=>x.e !=0)=none:=List.find?_eq_none.2 fun x hx=>by
    obtain⟨j,hj,rfl⟩:=List.mem_iff_getElem.1 hx;rw[hc j hj hj];decide
   have hnd:=tW (gs:=gs) (val:=val) (attr:=attr) hp1' hp2' hno hfi;rw[List.take_length]at hz;obtain⟨qz,eqz⟩:=hz.row;subst eqz;have hcl:=fun G=>AP op (l.map (·.v)) adz qz G
   rw[List.map_map]at hcl;have hcl:∀G,ai Tryz.prog 319 [.i op,.sl (l.map fun x=>aQ x.v) qz] G fun r h' =>r=qp (gC op (l.map (·.v)))∧h' =G:=hcl
   cases d3:(op==3)
   case true=>
    have e3:op=3:=aeh;obtain⟨a,ha⟩:∃a,l= [a]:=List.length_eq_one_iff.1 (by rw[hl,e3];rfl)
    have hb0:l.map bL= [bL a]:=by rw[ha];rfl
    simp only[e3,if_true,ha,List.headD_cons]at hnd;simp only[go_sem,r1,r3,k3,d3];refine hbH.idx (e:=364) 0 rfl acC aaA aau fun p hp1=> ?_
    (try simp only[go_sem])
    refine hp1.field (f:=0) (off:=0) (t:=193) rfl abb fun p2 hp2=> ?_
    have hld:=hp2.part (U:=U) (ty:=193) abb abm;simp only[hb0,List.getElem_cons_zero,bL,AV.cells]at hld;cases db:((a.bag.length:Int) !=1)
    ·have hb1:(a.bag.length:Int)=1:=by simpa using db
     obtain⟨v,hv⟩:=List.length_eq_one_iff.1 (show a.bag.length=1 by omega)
     rw[hv]at hnd hld;have iv:=fun K=>fz.eq (xs:=[aQ v]) (sz:=3) 0 aaz rfl K
     simp only[List.getElem_cons_zero,aQ,Int.natCast_zero]at iv;simp only[go_sem,r1,hld,List.map_cons,List.map_nil,aQ];refine hbH.idx (e:=364) 0 rfl acC aaA aau fun p hp1=> ?_
     (try simp only[go_sem])
     refine hp1.field (f:=0) (off:=0) (t:=193) rfl abb fun p2 hp2=> ?_
     have hld:=hp2.part (U:=U) (ty:=193) abb abm;simp only[hb0,List.getElem_cons_zero,bL,AV.cells,hv,List.map_cons,List.map_nil,aQ]at hld;simp only[go_sem,hld,iv,r6,k6];exact .mk (bL ⟨[],v,0⟩) (ko (x:=⟨[],v,0⟩) rfl _) (hsH.put n6' _) ⟨by rw[e3,ha,hnd]<;>rfl,rfl⟩
    ·simp only[go_sem,hld,aah,db,r6,k6]
     refine .mk (bL ⟨[],ax,4⟩) (ko (x:=⟨[],ax,4⟩) rfl _) (hsH.put n6' _) ⟨?_,rfl⟩;rw[e3,ha,hnd]
     congr 1
     split
     ·rename_i v hv;rw[hv]at db;simp at db
     ·rfl
   cases d4:(op==4)
   case true=>
    have e4:op=4:=by simpa using d4
    obtain⟨a,ha⟩:∃a,l= [a]:=List.length_eq_one_iff.1 (by rw[hl,e4];rfl)
    have hb0:l.map bL= [bL a]:=by rw[ha];rfl
    simp only[go_sem,r1,r3,k3,d3,d4];refine hbH.idx (e:=364) 0 rfl acC aaA aau fun p hp1=> ?_
    (try simp only[go_sem])
    refine hp1.field (f:=0) (off:=0) (t:=193) rfl abb fun p2 hp2=> ?_
    have hld:=hp2.part (U:=U) (ty:=193) abb abm;simp only[hb0,List.getElem_cons_zero,bL,AV.cells]at hld;simp only[go_sem,hld,aah,r6,k6];exact .mk (bL ⟨[],⟨2,a.bag.length,[]⟩,0⟩) (ko (x:=⟨[],⟨2,a.bag.length,[]⟩,0⟩) rfl _) (hsH.put n6' _) ⟨by rw[hnd,e4,ha];rfl,rfl⟩
   cases d5:(op==5)
   case true=>
    have e5:op=5:=by simpa using d5
    obtain⟨a,b,hab⟩:∃a b,l= [a,b]:=vT (by rw[hl,e5];rfl)
    have hb0:l.map bL= [bL a,bL b]:=by rw[hab];rfl
    have hvh:=fun G=>M0 a.bag (by have:=hbag a (by rw[hab];simp);omega) b.v .no G
    simp only[aQ]at hvh;have htr:=fun G=>uw (a.bag.any fun v=>eqV v b.v) G
    simp only[bL]at htr;simp only[go_sem,r3,k3,d3,d4,d5];refine .calls h [0,1,2,3,4,5,6,7,8,9,10] hsH aav rfl ?_;simp only[go_sem,r1];refine hb.idx (e:=364) 0 rfl acC aaA aau fun p hp1=> ?_
    simp only[go_sem];refine hp1.field (f:=0) (off:=0) (t:=193) rfl abb fun p2 hp2=> ?_
    have hld:=hp2.part (U:=U) (ty:=193) abb abm;simp only[hb0,List.getElem_cons_zero,bL,AV.cells]at hld;simp only[go_sem,hld,r1];refine hb.idx (e:=364) 1 rfl acC aaA aau fun p hp3=> ?_
    simp only[go_sem];refine hp3.field (f:=1) (off:=1) (t:=30) rfl abb fun p4 hp4=> ?_
    have hld4:=hp4.part (U:=U) (ty:=30) abb (by simp only[go_sem,hb0,List.getElem_cons_succ,List.getElem_cons_zero];exact aag rfl)
    simp only[hb0,List.getElem_cons_succ,List.getElem_cons_zero,bL,AV.cells]at hld4;simp only[go_sem,hld4];refine(hvh _).pthen ?_;refine⟨hsH, ?_⟩;simp only[go_sem];refine(htr _).pthen ?_;refine⟨hsH, ?_⟩;simp only[go_sem,r6,k6];refine⟨hsH.put n6' _, ?_⟩;exact .mk (bL (iE (a.bag.any fun v=>eqV v b.v))) (ko (x:=(iE (a.bag.any fun v=>eqV v b.v))) rfl _) (hsH.put n6' _) ⟨by rw[hnd,e5,hab];rfl,rfl⟩
   obtain⟨⟨v,e⟩,ev⟩:∃x,gC op (l.map (·.v))=x:=⟨_,rfl⟩
   rw[ev]at hcl;simp only[go_sem,r3,r10,k3,d3,d4,d5];refine(hcl _).pthen ?_;simp only[go_sem,qp,aQ];intro i13 h13;have n136:i13≠i6:=fun e=>ad2
   simp only[go_sem,r6,ak,n136.symm,k6];exact .mk (bL ⟨[],v,e⟩) (ko (x:=⟨[],v,e⟩) rfl _) ((hsH.trans (.aj h13)).put n6' _) ⟨by rw[hnd];simp only[if_neg (show¬op=3 by simpa using d3),if_neg (show¬op=4 by simpa using d4),if_neg (show¬op=5 by simpa using d5)];rw[ev]<;>rfl,rfl⟩
end Go.Proofs.YtcochaoekecfdaaGreatDoor
namespace Go.Bf
open Go Go.Ab Go.Proofs.YtcochaoekecfdaaGreatDoor
theorem Bn{t:fQ}(h:kJ t=0):Lt t:=by
 obtain⟨h1,h2⟩:=Am h;refine⟨aar,fun x hx=> ?_⟩
 grind [zo,zn]
theorem M6.turn{m:aR}(h:M6 m):M6 (Dp m):=by
 exact ae4
theorem M6.indet{m:aR}(h:M6 m):M6 (gv m):=by
 exact ae4
theorem M6.first{l:List aR}(h:∀m∈l,M6 m):M6 (firstM l):=by
 unfold firstM;cases hf:l.find? fun m=>decide (m≠naM)with
 |none=>decide
 |some m=>grind
theorem M6.only:∀(l:List aR) (j:aR),(∀m∈l,M6 m)→M6 j→M6 (nu l j)
 | [],j,_,hj=>hj
 |m::r,j,h,hj=>by
  simp only[nu];split
  ·decide
  ·refine M6.only r _ aas ?_
   split
   ·grind
   ·split
    ·decide
    omega
theorem Fm{alg:Int}{l:List aR}(h:∀m∈l,M6 m):M6 (gE alg l):=by
 unfold gE;split
 ·exact FX _
 ·split
  ·exact M6.turn (FX _)
  ·split
   ·exact .first h
   ·split
    ·exact .only _ _ h aau
    ·split
     ·split<;>decide
     ·split
      ·split<;>decide
      decide
theorem zB(r:cK)(t c:Nat):M6 (mu r t c).1:=by
 unfold mu;cases r.deny
 all_goals
  simp only[if_true,Bool.false_eq_true,if_false];split
  ·decide
  ·split
   ·decide
   ·first|(show M6 aZ;decide)|(show M6 cB;decide)
theorem L9(alg:Int)(obls:List cA)(t:Nat){parts:List jk}(h:∀x∈parts,M6 x.1):M6 (oJ alg obls t parts).1:=by
 have hc:M6 (gE alg (parts.map (·.1))):=Fm fun m hm=>by
  grind
 unfold oJ;simp only;split
 ·decide
 ·split
  ·exact hc.indet
  ·split
   ·exact hc
   ·exact hc
mutual
theorem AX(gs:List bh):∀p:bG,M6 (fh gs p).1
 |.mk id set alg tgt rules kids obls=>by
  have ih:=B3 gs kids;simp only[fh];split
  ·decide
  ·refine L9 alg obls _ fun x hx=> ?_
   rcases List.mem_append.1 hx with hx|hx
   ·obtain⟨r,_,rfl⟩:=List.mem_map.1 hx
    exact zB _ _ _
   ·exact ih x hx
theorem B3(gs:List bh):∀l:List bG,∀x∈lN gs l,M6 x.1
 | [],x,hx=>by simp[lN]at hx
 |k::r,x,hx=>by
  have h1:=AX gs k;have h2:=B3 gs r;simp only[lN,List.mem_cons]at hx;rcases hx with rfl|hx
  ·exact h1
  ·exact h2 x hx
end
theorem I1{gs:List bh}(h:M7 gs):qJ gs:=⟨by have:=h.len;omega,fun g hg=>by have:=(h.each g hg).2.2.2.1;omega⟩
theorem Fx{α:Type}(B:Nat):∀(L:List (List α)),(∀x∈L,x.length≤B)→L.flatten.length≤L.length*B
 | [],_=>aaz
 |x::L,h=>by
  have h1:=h x aaz;have h2:=Fx B L fun y hy=>h y aas
  rw[List.flatten_cons,aal,List.length_cons,Nat.add_mul];omega
theorem sN{alg:Int}{m:aR}{parts:List jk}{B:Nat}(hp:∀x∈parts,x.2.length≤B)(hn:parts.length≤32):(dY alg m parts).length≤32*B+B:=by
 unfold dY;split
 ·cases hf:parts.find? fun x=>x.1==m with
  |none=>simp
  |some x=>grind
 ·have h1:=Fx B (((parts.filter fun x=>x.1==m).map (·.2))) fun x hx=>by
   grind
  have h2:((parts.filter fun x=>x.1==m).map (·.2)).length≤32:=by
   grind
  have:=Nat.mul_le_mul_right B h2;omega
theorem jW(l:List cA)(m:aR):(dW l m).length≤l.length:=List.length_filter_le _ _
theorem zA(r:cK)(t c:Nat):(mu r t c).2.length≤r.obls.length:=by
 unfold mu
 all_goals
  grind [jW]
def oB:Nat→Nat
 |0=>8
 |n+1=>8+33*oB n
theorem SC(n:Nat):8≤oB n:=by
 cases n with
 |zero=>decide
 |succ n=>grind [oB]
theorem AW(gs:List bh):∀(n d:Nat) (p:bG),d+n=5→lU d p→(fh gs p).2.length≤oB n
 |0,d,.mk id set alg tgt rules kids obls,hd,h=>by grind [lU]
 |n+1,d,.mk id set alg tgt rules kids obls,hd,h=>by
  simp only[lU,pQ]at h;obtain⟨_,_,_,_,_,_,g2,g3,g4,g5,g6,g7⟩:=h;have hob:=(jP g3).1;have h8:=SC n;simp only[fh];split
  ·simp
  ·unfold oJ
   simp only;split
   ·simp
   ·split
    ·simp
    ·split
     ·simp
     ·have h1:=sN (alg:=alg) (m:=gE alg ((rules.map (gL gs)++lN gs kids).map (·.1))) (parts:=rules.map (gL gs)++lN gs kids) (B:=oB n) (fun x hx=>by
       rcases List.mem_append.1 hx with hx|hx
       ·obtain⟨r,hr,rfl⟩:=List.mem_map.1 hx
        have:=zA r (lT gs r.tgt) (pq gs r.cond);have:=(jP (g6 r hr).2.2.2).1
        show(mu r (lT gs r.tgt) (pq gs r.cond)).2.length≤_
        omega
       ·rw[sd]at hx
        obtain⟨k,hk,rfl⟩:=List.mem_map.1 hx;exact AW gs n (d+1) k aar (g7 k hk)) (by grind [aal,aah,sd])
      have h2:=jW obls (gE alg ((rules.map (gL gs)++lN gs kids).map (·.1)))
      simp only[aal,oB];omega
theorem Jt(gs:List bh){p:bG}(h:lU 1 p):(fh gs p).2.length≤10000000:=Nat.le_trans (AW gs 4 1 p rfl h) aau
theorem IC{op:Int}{w:List Bool}(hw:gW op=some w):w.length=opsOf op∧1≤op∧op≤13:=by
 have h1:1≤op∧op≤13:=by
  grind [gW]
 refine⟨?_,h1⟩;rcases(show op=1∨op=2∨op=3∨op=4∨op=5∨op=6∨op=7∨op=8∨op=9∨op=10∨op=11∨op=12∨op=13 by omega)with rfl|rfl|rfl|rfl|rfl|rfl|rfl|rfl|rfl|rfl|rfl|rfl|rfl
 all_goals (simp[gW]at hw;subst hw;rfl)
theorem Iq{bs bs' :List Bool}{n:aM}(h:gV bs n=some bs'):(1≤n.op∧n.op≤13)∧opsOf n.op≤bs.length∧bs'.length=bs.length - opsOf n.op+1:=by
 unfold gV at h;cases hw:gW n.op with
 |none=>grind
 |some w=>
  grind [IC,aal,List.length_take,List.length_singleton]
theorem MN{l:List aM}{z bs:List Bool}{i:Nat}(hl:fF [] l=some z)(hi:i<l.length)(hb:fF [] (l.take i)=some bs):∃bs',gV bs l[i]=some bs'∧fF [] (l.take (i+1))=some bs' :=by
 have h1:=jA [] l i;rw[hl,hb,List.drop_eq_getElem_cons hi]at h1;simp only[fF]at h1;cases hs:gV bs l[i]with
 |none=>rw[hs]at h1;cases h1
 |some bs' =>
  rw[jA [] _ i,List.take_take,Nat.min_eq_left aar,hb,List.take_succ_eq_append_getElem hi,List.drop_append_of_le_length aas,List.drop_of_length_le aas]
  grind [fF]
theorem J9{gs:List bh}(hf:qJ gs)(n:aM)(l:List iX):(kC gs n l).bag.length≤1000000:=by
 unfold kC zf iE
 repeat' split
 all_goals first|exact hf.bag _|simp
def Sr(x:iX):AV:=.tup [aQ x.v,.i x.e]
end Go.Bf
namespace Go.Proofs.YtcochaoekecfdaaGreatDoor
open Go Go.Ab Go.Bf
theorem Ju(l:List aM)(hn:l≠ [])(he:jF l=0)(gs:List bh)(hf:qJ gs)(h:Heap):ai Tryz.prog 273 [eU l,bE gs] h fun r h' =>r=Sr (ve gs l)∧h' =h:=by
 obtain⟨h32,hst⟩:=wV he hn;have hex:=fun G=>Fu l G
 rw[he]at hex;simp only[eU]at hex;have dl:((l.length:Int)==0)=false:=aeu;refine aaq Tryz.func273 51 [.cell 4 30,.tmp 5] fun hwf=> ?_
 simp only[go_sem,eU,bE];intro i4 h4;simp only[go_sem,aah,dl];refine(hex _).pthen ?_;simp only[go_sem,aah];obtain⟨H0,eH⟩:∃H0,upd h i4 (some (.obj [.i 0,.i 0,.s []] 30))=H0:=⟨_,rfl⟩;have hH0:Ab.Sub h H0:=by rw[←eH];exact .aj h4
 have g4:H0 i4=some (.obj [.i 0,.i 0,.s []] 30):=abM;rw[eH];clear eH;refine .intro (fun m ρ H=>∃(i:Nat) (y:AV) (st:List iX) (bs:List Bool),OwE 364 H0 H 5 y (st.map bL)∧Ab.Sub H0 H∧(l.take i).foldl (yp gs) []=st∧fF [] (l.take i)=some bs∧bs.length=st.length∧(∀x∈st,x.bag.length≤1000000)∧i≤l.length∧m=l.length - i∧lk ρ 1=some (.sl (gs.map kj) .no)∧lk ρ 4=some (.ptr i4 0)∧lk ρ 6=some y∧lk ρ 19=some (.sl (l.map dj) .no)∧lk ρ 20=some (.i l.length)∧lk ρ 21=some (.i i)) l.length ?_ ?_
 ·refine⟨0,_,[],[],.inl ⟨rfl,rfl⟩,.refl _,rfl,rfl,rfl,fun x hx=>aas,aar,rfl, ?_, ?_, ?_, ?_, ?_, ?_⟩<;>simp only[go_sem]
 ·rintro m ρ H ⟨i,y,st,bs,hw,hsH,hfo,hbs,hlen,hbag,hi,rfl,r1,r4,r6,r19,r20,r21⟩
  have hsl:bs.length≤i:=by have:=qX _ _ _ hbs;simpa[Nat.min_eq_left hi]using this
  simp only[go_sem,r20,r21];refine .intro (fun e=> ?_) (fun e=> ?_)
  ·have hlt:i<l.length:=aao e
   have w1:IntKind.i64.wrap ((i:Int)+1)=((i+1:Nat):Int):=aaE;obtain⟨bs',hb1,hb2⟩:=MN hst hlt hbs;have hfs:(l.take (i+1)).foldl (yp gs) []=yp gs st l[i]:=by grind [List.take_succ_eq_append_getElem]
   have ix:=fun k=>fz.eq (xs:=l.map dj) (sz:=7) i aas aaH k
   rw[aai]at ix;obtain⟨n,en⟩:∃n,l[i]=n:=⟨_,rfl⟩;rw[en]at hb1 hfs ix;obtain⟨hop,hle,hln⟩:=Iq hb1;rw[hlen]at hle;obtain⟨k,ek⟩:∃k,st.length - opsOf n.op=k:=⟨_,rfl⟩;have wk:IntKind.i64.wrap ((st.length:Int) - (opsOf n.op:Int))=(k:Int):=aaE;have hstep:yp gs st n=st.take k++ [kC gs n (st.drop k)]:=by grind [yp]
   simp only[dj]at ix;simp only[go_sem,r19,r21,ix];intro i8 h8;obtain⟨H8,eH⟩:∃H8,upd H i8 (some (.obj [.i n.op,.i n.val.kind,.i n.val.n,.s n.val.s,.i n.attr.cat,.s n.attr.name,.b n.attr.must] 229))=H8:=⟨_,rfl⟩;have hs8:Ab.Sub H H8:=by rw[←eH];exact .aj h8
   have k8:H8 i8=some (.obj [.i n.op,.i n.val.kind,.i n.val.n,.s n.val.s,.i n.attr.cat,.s n.attr.name,.b n.attr.must] 229):=abM;have hw8:=hw.sub hs8;simp only[go_sem,r6,hw8.rd.len,aah];refine(DY n.op _).pthen ?_;rw[eH];clear eH;simp only[go_sem,wk];refine .calls (hm1 i8 (.obj [.i n.op,.i n.val.kind,.i n.val.n,.s n.val.s,.i n.attr.cat,.s n.attr.name,.b n.attr.must] 229)) [0,1,2,3,4,5,6,7,8,9,10,11] (.hm1 k8) aav rfl ?_;simp only[go_sem,r6];refine hw8.cut (U:=U) (x:=.i64) k aaG rfl aas aaG aau fun z hz hzy=> ?_
   simp only[go_sem,r6,fN];refine hw8.from (U:=U) (x:=.i64) k aaG rfl aas aaG aau fun z2 hz2=> ?_
   rw[←List.map_drop]at hz2;rw[←List.map_take]at hz;have hnd:=Mp n hop (st.drop k) hz2 aas (fun x hx=>hbag x (List.mem_of_mem_drop hx)) gs hf
   have hnb:=J9 hf n (st.drop k);obtain⟨x,ex⟩:∃x,kC gs n (st.drop k)=x:=⟨_,rfl⟩;rw[ex]at hnd hnb hstep;simp only[dj,bE,bL]at hnd;simp only[go_sem,r1];refine hnd.pthen ?_;refine⟨.hm1 k8, ?_⟩;simp only[go_sem];have hone:Rd H8 5 (.sl [bL x] .full) [bL x]:=.sl (fun z hz=>adk) .full
   simp only[bL]at hone;refine OwE.app (U:=U) (tb:=364) hz (hsH.trans hs8) hone aaG aau aau aaG aaz aaJ fun id y' H' hid hor how hoth=> ?_
   have n8:i8≠id:=by
    intro e8;rcases hor with ho|⟨lz,cz,ez⟩
    ·grind
    ·exact kV (hz.nid (id:=id) (by rw[ez];rfl)).2.2 k8 aau e8.symm
   have hsub' :Ab.Sub H0 H' :=fun j b hj=>by rw[hoth j (fun e=>aas)];exact(hsH.trans hs8) _ _ hj
   refine⟨.hm1 aas, ?_⟩;simp only[go_sem,r21,w1];refine⟨_, ?_,i+1,y',yp gs st n,bs',.inr ⟨id,hid,by rw[hstep,List.map_append];exact how⟩,hsub',hfs,hb2,aas,fun w hw=> ?_,aar,rfl, ?_, ?_, ?_, ?_, ?_, ?_⟩
   ·omega
   ·grind
   all_goals simp only[go_sem,r1,r4,r19,r20]
  ·have hge:i=l.length:=by grind
   subst hge;rw[List.take_length]at hbs hfo;rw[hst]at hbs;cases hbs;obtain⟨x,rfl⟩:=List.length_eq_one_iff.1 hlen.symm;have hit:ve gs l=x:=by simp_all [ve,if_neg]
   obtain⟨id,hid,how⟩:=hw.ow aaz;have hwp:Rd (pick H [id]) 5 y [bL x]:=(how.same (bz (List.mem_singleton.2 rfl))).rd;have n4:i4≠id:=fun e=>aas
   have k4:=hsH _ _ g4;simp only[go_sem];refine .calls (pick H [id]) [0,1,2,3,4,5,6,7,8,9] bO aav rfl ?_;simp only[go_sem,r6];refine hwp.idx (U:=U) (e:=364) 0 rfl aaz aaG aau fun p hp1=> ?_
   simp only[go_sem];refine hp1.field (f:=1) (off:=1) (t:=30) rfl aau fun p2 hp2=> ?_
   have hld:=hp2.part (U:=U) (ty:=30) aau acP;simp only[List.getElem_cons_zero,bL,AV.cells]at hld;simp only[go_sem,r6,hld];refine hwp.idx (U:=U) (e:=364) 0 rfl aaz aaG aau fun p3 hp3=> ?_
   simp only[go_sem];refine hp3.field (f:=2) (off:=4) (t:=23) rfl aau fun p4 hp4=> ?_
   have hld4:=hp4.part (U:=U) (ty:=23) aau acP;simp only[List.getElem_cons_zero,bL,AV.cells]at hld4;simp only[go_sem,r4,hld4,k4];refine⟨bO.put (by grind [pick]) _, ?_⟩
   exact .mk _ (.refl _) ((hH0.trans hsH).put h4 _) ⟨by rw[hit];rfl,rfl⟩
theorem LQ(l:List aM)(he:jF l=0)(gs:List bh)(hf:qJ gs)(h:Heap):ai Tryz.prog 246 [eU l,bE gs] h fun r h' =>r= .i (pq gs l:Nat)∧h' =h:=by
 by_cases hn:l= []
 ·subst hn
  refine aaq Tryz.func246 26 [.tmp 4] fun hwf=> ?_
  simp only[go_sem,eU,bE,List.map_nil,List.length_nil];exact aaD
 have hv:=fun G=>Ju l hn he gs hf G
 have hcd:pq gs l=if isI (ve gs l) 1 then 2 else if isI (ve gs l) 0 then 0 else 1:=by
  simp_all [pq,if_neg]
 obtain⟨x,ex⟩:∃x,ve gs l=x:=⟨_,rfl⟩;rw[ex]at hv hcd;simp only[eU,bE,Sr,aQ]at hv;have hi1:∀(m:Int) G,ai Tryz.prog 274 [.agg [.sl [] .full,.i x.v.kind,.i x.v.n,.s x.v.s,.i x.e],.i m] G fun r h' =>r= .b (isI x m)∧h' =G:=fun m G=>L7 x m G
 have dl:((l.length:Int)==0)=false:=aeu;refine aaq Tryz.func246 26 [.tmp 4] fun hwf=> ?_
 simp only[go_sem,eU,bE,aah,dl];refine(hv _).pthen ?_;simp only[go_sem];intro i5 h5;simp only[go_sem];intro i7 h7;have n7:=aB h7;have hs:∀x y,Ab.Sub h (upd (upd h i5 x) i7 y):=fun x y=>((Sub.refl h).put h5 x).put n7 y
 simp only[go_sem];refine(hi1 1 _).pthen ?_;cases d1:isI x 1
 case true=>
  rw[d1]at hcd;simp only[go_sem];exact .mk _ (.refl _) (hs _ _) ⟨by rw[hcd];rfl,rfl⟩
 simp only[go_sem];refine(hi1 0 _).pthen ?_;cases d0:isI x 0
 all_goals
  rw[d1,d0]at hcd;simp only[go_sem];exact .mk _ (.refl _) (hs _ _) ⟨by rw[hcd];rfl,rfl⟩
end Go.Proofs.YtcochaoekecfdaaGreatDoor
namespace Go.Bf
open Go Go.Ab Go.Proofs.YtcochaoekecfdaaGreatDoor
def jt(l:List aR)(p:Perm):AV:=.sl (l.map aP) p
theorem M9.na:M9 naM:=aau
theorem A6(l:List aR)(i:Nat)(h:i<l.length):(l.take (i+1)).foldl ng naM=ng ((l.take i).foldl ng naM) l[i]:=by
 grind [List.take_succ_eq_append_getElem]
theorem GY{l:List aR}{q:aR→Bool}(hq:∀m,q m=decide (m≠naM))(h:l.findIdx q<l.length):firstM l=l[l.findIdx q]:=by
 unfold firstM;have e:q=fun m=>decide (m≠naM):=funext hq
 subst e;rw[show l.find? (fun m=>decide (m≠naM))=some l[l.findIdx fun m=>decide (m≠naM)]from List.find?_eq_some_iff_getElem.2 ⟨List.findIdx_getElem (w:=h),_,h,rfl,fun j hj=>aas⟩]
 rfl
theorem GZ{l:List aR}{q:aR→Bool}(hq:∀m,q m=decide (m≠naM))(h:¬l.findIdx q<l.length):firstM l=naM:=by
 unfold firstM;rw[List.find?_eq_none.2 fun x hx=>aas]
 rfl
def vp(j m:aR):aR:=if j=naM then m else if m≠naM then nS else j
theorem Ke{l:List aR}{i:Nat}(h:i<l.length)(j:aR):nu (l.drop i) j=if yq l[i]=false then nS else nu (l.drop (i+1)) (vp j l[i]):=by
 rw[List.drop_eq_getElem_cons h];rfl
end Go.Bf
namespace Go.Proofs.YtcochaoekecfdaaGreatDoor
open Go Go.Ab Go.Bf
theorem S2:(U 34).sz=1:=aaG
theorem HF(ms:List aR)(hl:ms.length≤1000000000)(q:aR→Bool)(g:FuncId)(cap:List AV)(p:Perm)(h:Heap)(hp:∀m∈ms,ai Tryz.prog g (aP m::cap) h fun r h' =>r= .b (q m)∧h' =h):
  ai Tryz.prog 305 [jt ms p,.fn g cap] h fun r h' =>r= .i (ixD q ms)∧h' =h:=by
 refine aaq Tryz.func305 19 [.tmp 4] fun hwf=> ?_
 simp only[go_sem,jt,aah];refine .intro (fun m ρ h' =>h' =h∧∃i:Nat,i≤ms.length∧m=ms.length - i∧(∀j (hj:j<i) (h2:j<ms.length),q ms[j]=false)∧lk ρ 0=some (.sl (ms.map aP) p)∧lk ρ 1=some (.fn g cap)∧lk ρ 7=some (.i ms.length)∧lk ρ 8=some (.i i)) ms.length ?_ ?_
 ·refine⟨rfl,0,aar,rfl,fun j hj=>aar, ?_, ?_, ?_, ?_⟩<;>simp only[go_sem]
 ·rintro m ρ h' ⟨rfl,i,hi,rfl,hc,r0,r1,r7,r8⟩
  simp only[go_sem,r7,r8];refine .intro (fun e=> ?_) (fun e=> ?_)
  ·have hlt:i<ms.length:=aao e
   have w1:IntKind.i64.wrap ((i:Int)+1)=((i+1:Nat):Int):=aaE;have ix:=fun k=>fz.eq (xs:=ms.map aP) (sz:=1) i aas aaH k
   rw[aai]at ix;have hg:=hp ms[i] (aam hlt);have hci:=fun(d:q ms[i]=false)=>(fun j (hj:j<i+1) (h2:j<ms.length)=>(by
    grind:q ms[j]=false))
   have hat:=fun(d:q ms[i]=true)=>mQ hlt d fun j hj=>hc j hj aar
   obtain⟨m,em⟩:∃m,ms[i]=m:=⟨_,rfl⟩;rw[em]at ix hg hci hat;simp only[aP]at ix;simp only[go_sem,r0,r1,r8,ix];refine(show ai Tryz.prog g (.v (.complex .f64 (hbit m.1) (hbit m.2))::cap) _ _ from hg).pthen ?_
   cases d1:q m
   ·simp only[go_sem,r8,w1]
    refine⟨_, ?_,rfl,i+1,aar,rfl,hci d1, ?_, ?_, ?_, ?_⟩
    ·omega
    all_goals simp only[go_sem,r0,r1,r7]
   ·simp only[go_sem]
    exact .same (.refl _) ⟨aep,rfl⟩
  ·have hge:i=ms.length:=by grind
   simp only[go_sem];exact .same (.refl _) ⟨aaS,rfl⟩
theorem En(ms:List aR)(hl:ms.length≤1000000000)(hmm:∀m∈ms,M9 m)(x:aR)(hx:M9 x)(p:Perm)(h:Heap):
  ai Tryz.prog 320 [jt ms p,aP x] h fun r h' =>r= .i (ixD (fun y=>x==y) ms)∧h' =h:=by
 refine aaq Tryz.func320 19 [.tmp 4] fun hwf=> ?_
 simp only[go_sem,jt,aah];refine .intro (fun m ρ h' =>h' =h∧∃i:Nat,i≤ms.length∧m=ms.length - i∧(∀j (hj:j<i) (h2:j<ms.length),(x==ms[j])=false)∧lk ρ 0=some (.sl (ms.map aP) p)∧lk ρ 1=some (aP x)∧lk ρ 7=some (.i ms.length)∧lk ρ 8=some (.i i)) ms.length ?_ ?_
 ·refine⟨rfl,0,aar,rfl,fun j hj=>aar, ?_, ?_, ?_, ?_⟩<;>simp only[go_sem]
 ·rintro m ρ h' ⟨rfl,i,hi,rfl,hc,r0,r1,r7,r8⟩
  simp only[go_sem,r7,r8];refine .intro (fun e=> ?_) (fun e=> ?_)
  ·have hlt:i<ms.length:=aao e
   have w1:IntKind.i64.wrap ((i:Int)+1)=((i+1:Nat):Int):=aaE;have ix:=fun k=>fz.eq (xs:=ms.map aP) (sz:=1) i aas aaH k
   rw[aai]at ix;have hm9:=hmm ms[i] (aam hlt);have hci:=fun(d:(x==ms[i])=false)=>(fun j (hj:j<i+1) (h2:j<ms.length)=>(by
    grind:(x==ms[j])=false))
   have hat:=fun(d:(x==ms[i])=true)=>mQ (q:=fun y=>x==y) hlt d fun j hj=>hc j hj aar
   obtain⟨m,em⟩:∃m,ms[i]=m:=⟨_,rfl⟩;rw[em]at ix hm9 hci hat;simp only[aP]at ix r1;have ne:=xK hx hm9;cases d1:(x==m)
   ·simp only[go_sem,r0,r1,r8,ix,ne,d1,w1]
    refine⟨_, ?_,rfl,i+1,aar,rfl,hci d1, ?_, ?_, ?_, ?_⟩
    ·omega
    all_goals simp only[go_sem,r0,r1,r7,aP]
   ·simp only[go_sem,r0,r1,r8,ix,ne,d1]
    exact .same (.refl _) ⟨aep,rfl⟩
  ·have hge:i=ms.length:=by grind
   simp only[go_sem];exact .same (.refl _) ⟨aaS,rfl⟩
theorem Eg(ms:List aR)(hl:ms.length≤1000000000)(hmm:∀m∈ms,M9 m)(x:aR)(hx:M9 x)(p:Perm)(h:Heap):
  ai Tryz.prog 309 [jt ms p,aP x] h fun r h' =>r= .b (decide (x∈ms))∧h' =h:=by
 refine aaq Tryz.func309 9 [.tmp 4] fun hwf=> ?_
 simp only[go_sem];refine(En ms hl hmm x hx p _).pthen ?_;simp only[go_sem];exact .same (.refl _) ⟨by rw[tu,show(ms.any fun y=>x==y)=decide (x∈ms) by grind];rfl,rfl⟩
theorem DD(m:aR)(hmm:M9 m)(h:Heap):ai Tryz.prog 306 [aP m] h fun r h' =>r= .b (!(m==naM))∧h' =h:=by
 have n:=(nb hmm).nna;refine aaq Tryz.func306 5 [.tmp 2] fun hwf=> ?_
 simp only[go_sem,aP,n];exact aaD
theorem MP(m:aR)(hmm:M9 m)(h:Heap):ai Tryz.prog 307 [aP m] h fun r h' =>r= .b (yq m)∧h' =h:=by
 obtain⟨n1,n2,n3,_⟩:=nb hmm;refine aaq Tryz.func307 13 [.tmp 2] fun hwf=> ?_
 have es:yq m=(m==naM||(m==aZ||m==cB)):=by
  unfold yq
  grind
 rw[es];cases d1:(m==naM)<;>cases d2:(m==aZ)<;>cases d3:(m==cB)
 all_goals
  simp only[go_sem,aP,n1,n2,n3,d1,d2,d3];exact aaD
theorem Jy(ms:List aR)(hl:ms.length≤1000000000)(hmm:∀m∈ms,M9 m)(p:Perm)(h:Heap):ai Tryz.prog 279 [jt ms p] h fun r h' =>r=aP (firstM ms)∧h' =h:=by
 refine aaq Tryz.func279 12 [.tmp 2] fun hwf=> ?_
 simp only[go_sem,jt];refine(HF ms hl (fun m=> !(m==naM)) _ [] p _ fun m h=>DD m (hmm m h) _).pthen ?_
 have hq:∀m:aR,(!(m==naM))=decide (m≠naM):=fun m=>aas
 by_cases hx:ms.findIdx (fun m=> !(m==naM))<ms.length
 ·obtain⟨i,ei⟩:∃i,ms.findIdx (fun m=> !(m==naM))=i:=⟨_,rfl⟩
  have ef:=GY hq hx;have e1:ixD (fun m=> !(m==naM)) ms=(i:Nat):=by rw[ixD,ei];omega
  simp only[ei]at ef;have d1:decide ((0:Int)≤((i:Nat):Int))=true:=decide_eq_true aar;have ix:=fun k=>fz.eq (xs:=ms.map aP) (sz:=1) i aas aaH k
  rw[aai,←ef]at ix;rw[e1];simp only[go_sem,d1,ix];exact aaD
 ·have e1:ixD (fun m=> !(m==naM)) ms= -1:=by simp_all [ixD,if_neg]
  have d1:decide ((0:Int)≤ -1)=false:=rfl;rw[e1];simp only[go_sem,d1];exact .same (.refl _) ⟨by rw[GZ hq hx];rfl,rfl⟩
theorem KN(j m:aR)(hj:M9 j)(hmm:M9 m)(h:Heap):ai Tryz.prog 308 [.i 4,aP j,aP m] h fun r h' =>r=aP (vp j m)∧h' =h:=by
 have n1:=(nb hj).na;have n2:=(nb hmm).nna;refine aaq Tryz.func308 31 [.tmp 6] fun hwf=> ?_
 cases d1:(j==naM)
 case true=>
  simp only[go_sem,aP,n1,d1];exact .same (.refl _) ⟨by rw[vp,if_pos aas];rfl,rfl⟩
 cases d2:(m==naM)
 ·simp only[go_sem,aP,n1,n2,d1,d2]
  exact .same (.refl _) ⟨by rw[vp,if_neg aas,if_pos aas];rfl,rfl⟩
 ·simp only[go_sem,aP,n1,n2,d1,d2]
  exact .same (.refl _) ⟨by rw[vp,if_neg aas,if_neg aas];rfl,rfl⟩
theorem M9.step{j m:aR}(hj:M9 j)(hmm:M9 m):M9 (vp j m):=by
 unfold vp
 repeat' split
 ·omega
 ·decide
 omega
theorem Mv(ms:List aR)(hl:ms.length≤1000000000)(hmm:∀m∈ms,M9 m)(p:Perm)(h:Heap):ai Tryz.prog 280 [jt ms p] h fun r h' =>r=aP (nu ms naM)∧h' =h:=by
 refine aaq Tryz.func280 20 [.tmp 2] fun hwf=> ?_
 simp only[go_sem,jt,aah];refine .intro (fun m ρ h' =>h' =h∧∃(i:Nat) (j:aR),i≤ms.length∧m=ms.length - i∧M9 j∧nu (ms.drop i) j=nu ms naM∧lk ρ 3=some (aP j)∧lk ρ 6=some (.sl (ms.map aP) p)∧lk ρ 7=some (.i ms.length)∧lk ρ 8=some (.i i)) ms.length ?_ ?_
 ·refine⟨rfl,0,naM,aar,rfl,.na,rfl, ?_, ?_, ?_, ?_⟩<;>simp only[go_sem,aP,naM,hbit]
 ·rintro m ρ h' ⟨rfl,i,j,hi,rfl,hj,ho,r3,r6,r7,r8⟩
  simp only[go_sem,r7,r8];refine .intro (fun e=> ?_) (fun e=> ?_)
  ·have hlt:i<ms.length:=aao e
   have w1:IntKind.i64.wrap ((i:Int)+1)=((i+1:Nat):Int):=aaE;have ix:=fun k=>fz.eq (xs:=ms.map aP) (sz:=1) i aas aaH k
   rw[aai]at ix;have hm9:=hmm ms[i] (aam hlt);rw[Ke hlt]at ho;obtain⟨m,em⟩:∃m,ms[i]=m:=⟨_,rfl⟩;rw[em]at ix hm9 ho;have hsu:=fun G=>MP m hm9 G
   have hst:=fun G=>KN j m hj hm9 G
   simp only[aP]at ix hsu hst r3;simp only[go_sem,r6,r8,ix];refine(hsu _).pthen ?_;cases d1:yq m
   ·rw[if_pos d1]at ho
    simp only[go_sem];exact .same (.refl _) ⟨by rw[←ho];rfl,rfl⟩
   ·rw[if_neg aas]at ho
    simp only[go_sem,r3];refine(hst _).pthen ?_;simp only[go_sem,r8,w1];refine⟨_, ?_,rfl,i+1,vp j m,aar,rfl,M9.step hj hm9,ho, ?_, ?_, ?_, ?_⟩
    ·omega
    all_goals simp only[go_sem,r6,r7,aP]
  ·have hge:i=ms.length:=by grind
   subst hge;rw[List.drop_length]at ho;simp only[go_sem,r3];exact .same (.refl _) ⟨by rw[←ho];rfl,rfl⟩
theorem Ap(ms:List aR)(hl:ms.length≤1000000000)(hmm:∀m∈ms,M9 m)(a b:aR)(hb:M9 b)(p:Perm)(h:Heap):ai Tryz.prog 281 [jt ms p,aP a,aP b] h fun r h' =>r=aP (if b∈ms then b else a)∧h' =h:=by
 refine aaq Tryz.func281 12 [.tmp 6] fun hwf=> ?_
 simp only[go_sem];refine(Eg ms hl hmm b hb p _).pthen ?_
 by_cases d:b∈ms
 ·simp only[go_sem,decide_eq_true d,if_pos d]
  exact aaD
 ·simp only[go_sem,decide_eq_false d,if_neg d]
  exact aaD
theorem Oq(alg:Int)(ha:1≤alg∧alg≤6)(ms:List aR)(hl:ms.length≤1000000000)(hmm:∀m∈ms,M6 m)(p:Perm)(h:Heap):ai Tryz.prog 247 [.i alg,jt ms p] h fun r h' =>r= .tup [aP (gE alg ms),.i 0]∧h' =h:=by
 have hm9:=fun m h=>(hmm m h).m9
 refine aaq Tryz.func247 49 [.tmp 4,.tmp 5] fun hwf=> ?_
 simp only[go_sem,jt,aah];refine .intro (fun m ρ h' =>h' =h∧∃i:Nat,i≤ms.length∧m=ms.length - i∧M9 ((ms.take i).foldl ng naM)∧lk ρ 0=some (.i alg)∧lk ρ 1=some (.sl (ms.map aP) p)∧lk ρ 6=some (aP ((ms.take i).foldl ng naM))∧lk ρ 9=some (.sl (ms.map aP) p)∧lk ρ 10=some (.i ms.length)∧lk ρ 11=some (.i i)) ms.length ?_ ?_
 ·refine⟨rfl,0,aar,rfl,.na, ?_, ?_, ?_, ?_, ?_, ?_⟩<;>simp only[go_sem,aP,naM,hbit,List.take_zero,List.foldl_nil]
 ·rintro m ρ h' ⟨rfl,i,hi,rfl,hj,r0,r1,r6,r9,r10,r11⟩
  obtain⟨j,ej⟩:∃j,(ms.take i).foldl ng naM=j:=⟨_,rfl⟩;rw[ej]at hj r6;simp only[go_sem,r10,r11];refine .intro (fun e=> ?_) (fun e=> ?_)
  ·have hlt:i<ms.length:=aao e
   have w1:IntKind.i64.wrap ((i:Int)+1)=((i+1:Nat):Int):=aaE;have ix:=fun k=>fz.eq (xs:=ms.map aP) (sz:=1) i aas aaH k
   rw[aai]at ix;have hm6:=hmm ms[i] (aam hlt);have hsn:=A6 ms i hlt;rw[ej]at hsn;obtain⟨m,em⟩:∃m,ms[i]=m:=⟨_,rfl⟩;rw[em]at ix hm6 hsn;have hri:=fun G=>A9 m hm6 G
   have hjo:=fun G=>Mb j m hj hm6.m9 G
   simp only[aP]at ix hri hjo r6;simp only[go_sem,r9,r11,ix];refine(hri _).pthen ?_;simp only[go_sem,r6];refine(hjo _).pthen ?_;simp only[go_sem,r11,w1];refine⟨_, ?_,rfl,i+1,aar,rfl,by grind [M9.join], ?_, ?_, ?_, ?_, ?_, ?_⟩
   ·omega
   all_goals simp only[go_sem,r0,r1,r9,r10,aP,hsn]
  ·have hge:i=ms.length:=by grind
   subst hge;rw[List.take_length]at ej;have ej' :vS ms=j:=ej;have hov:=fun G=>FY j hj G
   have htu:=fun(x:aR) (G:Heap)=>MS x G
   have hov2:=fun G=>FY (Dp j) ⟨hj.2,hj.1⟩ G
   have h1:=Jy ms hl hm9 p;have h2:=Mv ms hl hm9 p;have h3:=Ap ms hl hm9 cB aZ aau p;have h4:=Ap ms hl hm9 aZ cB aau p;simp only[jt]at h1 h2 h3 h4;rcases(show alg=1∨alg=2∨alg=3∨alg=4∨alg=5∨alg=6 by omega)with rfl|rfl|rfl|rfl|rfl|rfl
   ·simp only[go_sem,r0,r6]
    refine(hov _).pthen ?_;simp only[go_sem];exact .same (.refl _) ⟨by simp only[gE,ej',if_true];rfl,rfl⟩
   ·simp only[go_sem,r0,r6]
    refine(htu _ _).pthen ?_;simp only[go_sem];refine(hov2 _).pthen ?_;simp only[go_sem];refine(htu _ _).pthen ?_;simp only[go_sem];exact .same (.refl _) ⟨by simp only[gE,ej'];rfl,rfl⟩
   ·simp only[go_sem,r0,r1]
    refine(h1 _).pthen ?_;exact ae2
   ·simp only[go_sem,r0,r1]
    refine(h2 _).pthen ?_;exact ae2
   ·simp only[go_sem,r0,r1]
    refine(h3 _).pthen ?_;exact aga
   ·simp only[go_sem,r0,r1]
    refine(h4 _).pthen ?_;exact aga
end Go.Proofs.YtcochaoekecfdaaGreatDoor
namespace Go.Bf
open Go Go.Ab Go.Proofs.YtcochaoekecfdaaGreatDoor
def rsA(r:jk):AV:=.agg [aP r.1,az r.2]
theorem GM(l:List cA)(m:aR)(i:Nat)(h:i<l.length):dW (l.take (i+1)) m=dW (l.take i) m++(if(l[i].on==1 && m==aZ||l[i].on==2 && m==cB)=true then [l[i]]else []):=by
 grind [dW,List.take_succ_eq_append_getElem]
theorem qe(l:List cA)(m:aR){L:List AV}(hL:L=l.map bl)(q:Perm):Weak (.agg [aP m,.sl L q]) (rsA (m,l)):=by
 subst hL;refine .agg _ _ rfl fun i a b=> ?_
 rcases i with _|_|i
 ·exact abG
 ·exact ac3
 grind
theorem xQ(alg:Int)(m:aR)(l:List jk)(i:Nat)(h:i<l.length)(h3:alg≠3):dY alg m (l.take (i+1))=dY alg m (l.take i)++(if(l[i].1==m)=true then l[i].2 else []):=by
 unfold dY;rw[if_neg h3,if_neg h3,List.take_succ_eq_append_getElem h,List.filter_append,List.map_append,List.flatten_append]
 grind
theorem xP{m:aR}{l:List jk}(h:∀x∈l,(x.1==m)=false):dY 3 m l= []:=by
 unfold dY;rw[if_pos rfl,List.find?_eq_none.2 fun x hx=>aas]
 rfl
theorem vl{m:aR}{l:List jk}(i:Nat)(h:i<l.length)(h1:(l[i].1==m)=true)(h2:∀j (hj:j<i),((l[j]'aar).1==m)=false):dY 3 m l=l[i].2:=by
 unfold dY;rw[if_pos rfl,show(l.find? fun x=>x.1==m)=some l[i]from List.find?_eq_some_iff_getElem.2 ⟨h1,i,h,rfl,fun j hj=>aas⟩]
 rfl
end Go.Bf
namespace Go.Proofs.YtcochaoekecfdaaGreatDoor
open Go Go.Ab Go.Bf
theorem S3:(U 158).sz=3:=aaG
theorem S4:(U 119).sz=2:=aaG
theorem qw(l:List cA)(hl:l.length≤1000000)(m:aR)(hpd:m=aZ∨m=cB)(h:Heap):ai Tryz.prog 249 [az l,aP m] h fun r h' =>r=az (dW l m)∧h' =h:=by
 have h9:M9 m:=by rcases hpd with rfl|rfl<;>decide
 have pe:=(nb h9).pe;have de:=(nb h9).de;have uO:=S3;obtain⟨b,b1,b2⟩:∃b,(m==aZ)=b∧(m==cB)= !b:=by
  rcases hpd with rfl|rfl
  ·exact⟨true,aau,aau⟩
  ·exact⟨false,aau,aau⟩
 refine aaq Tryz.func249 36 [.tmp 4] fun hwf=> ?_
 simp only[go_sem,az,aP,aah];refine .intro (fun q ρ H=>∃(i:Nat) (y:AV),Acc U 158 h H y ((dW (l.take i) m).map bl)∧i≤l.length∧q=l.length - i∧lk ρ 1=some (.v (.complex .f64 (hbit m.1) (hbit m.2)))∧lk ρ 5=some y∧lk ρ 8=some (.sl (l.map bl) .no)∧lk ρ 9=some (.i l.length)∧lk ρ 10=some (.i i)) l.length ?_ ?_
 ·refine⟨0,.sl [] .full,by simpa[dW]using Acc.full (.refl _),aar,rfl, ?_, ?_, ?_, ?_, ?_⟩<;>simp only[go_sem]
 ·rintro q ρ H ⟨i,y,hy,hi,rfl,r1,r5,r8,r9,r10⟩
  obtain⟨qy,eqy⟩:=hy.row;subst eqy;simp only[go_sem,r9,r10];refine .intro (fun e=> ?_) (fun e=> ?_)
  ·have hlt:i<l.length:=aao e
   have w1:=aan i aar;have hsn:=GM l m i hlt;have ix:=fun k=>fz.eq (xs:=l.map bl) (sz:=3) i aaQ aaH k
   rw[aai]at ix;obtain⟨o,eo⟩:∃o,l[i]=o:=⟨_,rfl⟩;rw[eo]at ix hsn;simp only[bl]at ix;simp only[go_sem,r8,r10,ix];intro i7 h7;cases b
   ·cases a3:(o.on==2)
    ·cases a1:(o.on==1)
     ·simp only[go_sem,r10,a1,a3,w1]
      exact aeN
     ·simp only[go_sem,r1,r10,a1,a3,b1,pe,w1]
      exact aeN
    ·cases a1:(o.on==1)
     ·simp only[go_sem,r1,r5,a1,a3,b2,de]
      exact aeG
     ·simp only[go_sem,r1,r5,a1,a3,b1,b2,pe,de]
      exact aeG
   ·cases a1:(o.on==1)
    ·cases a3:(o.on==2)
     ·simp only[go_sem,r10,a1,a3,w1]
      exact aeN
     ·simp only[go_sem,r1,r10,a1,a3,b2,de,w1]
      exact aeN
    ·cases a3:(o.on==2)
     ·simp only[go_sem,r1,r5,a1,b1,pe]
      exact aeG
     ·simp only[go_sem,r1,r5,a1,b1,pe]
      exact aeG
  ·have hge:i=l.length:=by have:=aak e;omega
   subst hge;rw[List.take_length]at hy;simp only[go_sem,r5];exact .mk (az (dW l m)) (by rw[List.take_length];exact .sl _ _) hy.1 ⟨rfl,rfl⟩
theorem tri{t:Nat}(h:t≤2):t=0∨t=1∨t=2:=aar
theorem GN(r:cK)(hr:r.obls.length≤1000000)(t c:Nat)(ht:t≤2)(hc:c≤2)(h:Heap):ai Tryz.prog 245 [aA r,.i t,.i c] h fun x h' =>x=rsA (mu r t c)∧h' =h:=by
 obtain⟨id,deny,tgt,cond,obls⟩:=r;simp only at hr;have hdp:=fun G=>qw obls hr aZ (.inl rfl) G
 have hdd:=fun G=>qw obls hr cB (.inr rfl) G
 have hip:=fun G=>xp aZ aau G
 have hid:=fun G=>xp cB aau G
 simp only[aP,aZ,cB,hbit,az]at hdp hdd hip hid;refine aaq Tryz.func245 38 [.cell 6 119] fun hwf=> ?_
 simp only[go_sem,aA];intro i3 h3;simp only[go_sem];intro i6 h6;have n63:=aF h6;have n6:=aB h6;have hs:∀x y,Ab.Sub h (upd (upd h i3 x) i6 y):=fun x y=>((Sub.refl h).put h3 x).put n6 y
 have hs2:∀x y z,Ab.Sub h (upd (upd (upd h i3 x) i6 y) i6 z):=fun x y z=>(hs x y).put n6 z
 cases deny
 ·rcases tri ht with rfl|rfl|rfl
  ·exact afe
  ·exact afv
  ·rcases tri hc with rfl|rfl|rfl
   ·exact afe
   ·exact afv
   ·simp only[go_sem,ak,n63.symm,az]
    refine(hdp _).pthen ?_;simp only[go_sem];exact .mk (rsA (aZ,dW obls aZ)) (qe _ aZ rfl _) (hs _ _) ⟨rfl,rfl⟩
 ·rcases tri ht with rfl|rfl|rfl
  ·exact afe
  ·exact afw
  ·rcases tri hc with rfl|rfl|rfl
   ·exact afe
   ·exact afw
   ·simp only[go_sem,ak,n63.symm,az]
    refine(hdd _).pthen ?_;simp only[go_sem];exact .mk (rsA (cB,dW obls cB)) (qe _ cB rfl _) (hs _ _) ⟨rfl,rfl⟩
theorem J4(gs:List bh)(t:fQ):lT gs t≤2:=(si (yJ gs) t 2).1
theorem Jh(gs:List bh)(l:List aM):pq gs l≤2:=by
 grind [pq]
theorem GP(r:cK)(hr:C9 r)(gs:List bh)(hf:qJ gs)(h:Heap):ai Tryz.prog 211 [aA r,bE gs] h fun x h' =>x=rsA (gL gs r)∧h' =h:=by
 have hob:=(jP hr.2.2.2).1;have hmt:=fun G=>J5 r.tgt (Bn hr.2.1) gs hf G
 have hcd:=fun G=>LQ r.cond hr.2.2.1 gs hf G
 have hef:=fun G=>GN r aar (lT gs r.tgt) (pq gs r.cond) (J4 _ _) (Jh _ _) G
 simp only[aA,bE]at hmt hcd hef;refine aaq Tryz.func211 15 [.cell 4 119] fun hwf=> ?_
 simp only[go_sem,aA,bE];intro i2 h2;simp only[go_sem];intro i4 h4;have n42:=aF h4;have n4:=aB h4;obtain⟨H,eH⟩:∃H,upd (upd h i2 (some (.obj [.s r.id,.b r.deny,aT r.tgt,eU r.cond,az r.obls] 224))) i4 (some (.obj [.v (.complex .f64 0 0),.sl [] .full] 119))=H:=⟨_,rfl⟩;have hH:Ab.Sub h H:=by rw[←eH];exact((Sub.refl h).put h2 _).put n4 _
 have g2:H i2=some (.obj [.s r.id,.b r.deny,aT r.tgt,eU r.cond,az r.obls] 224):=ad6;have g4:H i4=some (.obj [.v (.complex .f64 0 0),.sl [] .full] 119):=abM;simp only[go_sem];rw[eH];clear eH;refine .calls (hm1 i2 (.obj [.s r.id,.b r.deny,aT r.tgt,eU r.cond,az r.obls] 224)) [0,1,2,3,5,6,7,4,8,9,10] (.hm1 g2) aav rfl ?_;simp only[go_sem,fN];refine(hmt _).pthen ?_;refine⟨.hm1 g2, ?_⟩;simp only[go_sem];refine(hcd _).pthen ?_;refine⟨.hm1 g2, ?_⟩;simp only[go_sem];refine(hef _).pthen ?_;refine⟨.hm1 g2, ?_⟩;simp only[go_sem,rsA,az,aP,g4];refine⟨.hm1 (by rw[ag _ _ n42.symm];exact g2), ?_⟩
 exact .mk _ (.refl _) (hH.put n4 _) ⟨rfl,rfl⟩
theorem Ae(l:List jk):Sized 2 (l.map rsA):=bp (f:=rsA) (fun _=>rfl) l
theorem Ep{id:Txt}{set:Bool}{alg:Int}(ha:1≤alg∧alg≤6){tgt:fQ}{rules:List cK}{kids:List bG}{obls:List cA}(ho:obls.length≤1000000)(t:Nat)(ht:t=1∨t=2)(parts:List jk)(hp:∀x∈parts,M6 x.1)(hn:parts.length≤32){B:Nat}(hB:B≤10000000)(hpb:∀x∈parts,x.2.length≤B)(q:Perm)(h:Heap):
  ai Tryz.prog 212 [aK (.mk id set alg tgt rules kids obls),.i t,.sl (parts.map rsA) q] h fun r h' =>r=rsA (oJ alg obls t parts)∧h' =h:=by
 have hm6:∀m∈parts.map (·.1),M6 m:=fun m hm=>by
  obtain⟨x,hx,rfl⟩:=List.mem_map.1 hm;exact hp x hx
 have hc6:M6 (gE alg (parts.map (·.1))):=Fm hm6
 have uR:=S4;have uO:=S3;have uM:=S2;have hall:=fun(p:Perm) (G:Heap)=>Oq alg ha (parts.map (·.1)) (by rw[aah];omega) hm6 p G
 simp only[jt]at hall;refine aaq Tryz.func212 84 [.cell 6 119] fun hwf=> ?_
 simp only[go_sem,aK];intro i3 h3;simp only[go_sem];intro i6 h6;have n63:=aF h6;have n6' :=aB h6;obtain⟨H0,eH⟩:∃H0,upd (upd h i3 (some (.obj [.s id,.b set,.i alg,aT tgt,.sl (rules.map aA) .no,.sl (fj kids) .no,az obls] 65))) i6 (some (.obj [.v (.complex .f64 0 0),.sl [] .full] 119))=H0:=⟨_,rfl⟩;have hH0:Ab.Sub h H0:=adp;have g3:H0 i3=some (.obj [.s id,.b set,.i alg,aT tgt,.sl (rules.map aA) .no,.sl (fj kids) .no,az obls] 65):=by rw[←eH,ag _ _ n63.symm,ah]
 have g6:H0 i6=some (.obj [.v (.complex .f64 0 0),.sl [] .full] 119):=abM;simp only[go_sem,aah];rw[eH];clear eH;refine .intro (fun m ρ H=>∃(i:Nat) (y:AV),Acc U 34 H0 H y (((parts.map (·.1)).take i).map aP)∧i≤parts.length∧m=parts.length - i∧lk ρ 1=some (.i t)∧lk ρ 2=some (.sl (parts.map rsA) q)∧lk ρ 3=some (.ptr i3 0)∧lk ρ 6=some (.ptr i6 0)∧lk ρ 7=some y∧lk ρ 15=some (.sl (parts.map rsA) q)∧lk ρ 16=some (.i parts.length)∧lk ρ 17=some (.i i)) parts.length ?_ ?_
 ·refine⟨0,.sl [] .full,.full (.refl _),aar,rfl, ?_, ?_, ?_, ?_, ?_, ?_, ?_, ?_⟩<;>simp only[go_sem]
 ·rintro m ρ H ⟨i,y,hy,hi,rfl,r1,r2,r3,r6,r7,r15,r16,r17⟩
  obtain⟨qy,eqy⟩:=hy.row;subst eqy;simp only[go_sem,r16,r17];refine .intro (fun e=> ?_) (fun e=> ?_)
  ·have hlt:i<parts.length:=aao e
   have w1:=aan i aar;have hsn:((parts.map (·.1)).take (i+1)).map aP=((parts.map (·.1)).take i).map aP++ [aP parts[i].1]:=by
    rw[List.take_succ_eq_append_getElem aaQ,List.map_append,aai];rfl
   have ix:=fun k=>fz.eq (xs:=parts.map rsA) (sz:=2) i aaQ aaH k
   rw[aai]at ix;obtain⟨x,ex⟩:∃x,parts[i]=x:=⟨_,rfl⟩;rw[ex]at ix hsn;simp only[rsA,aP,az]at ix;simp only[go_sem,r15,r17,ix];intro i9 h9;simp only[go_sem,r7];refine(hy.sub (.aj h9)).app (zs:=[aP x.1]) (by rw[uM];decide) aaw (fun k hk=>hk) (by rw[uM];exact bp (f:=aP) (fun _=>rfl) _) (by rw[uM];intro z hz;rw[List.mem_singleton.1 hz];rfl) aaJ fun y' H' hy' kp=> ?_
   simp only[go_sem,r17,w1];refine⟨_, ?_,i+1,y',by rw[hsn];exact hy',aar,rfl, ?_, ?_, ?_, ?_, ?_, ?_, ?_, ?_⟩
   ·omega
   all_goals simp only[go_sem,r1,r2,r3,r6,r15,r16]
  ·have hge:i=parts.length:=by have:=aak e;omega
   subst hge;have htl:(parts.map (·.1)).take parts.length=parts.map (·.1):=List.take_of_length_le aaz
   rw[htl]at hy;have k3:=hy.1 _ _ g3;have k6:=hy.1 _ _ g6;have hsH:=hH0.trans hy.1;have hjp:oJ alg obls t parts=if t=0 then(naM,[])else if t=1 then(gv (gE alg (parts.map (·.1))),[])else if gE alg (parts.map (·.1))≠aZ∧gE alg (parts.map (·.1))≠cB then(gE alg (parts.map (·.1)),[])
     else(gE alg (parts.map (·.1)),dY alg (gE alg (parts.map (·.1))) parts++dW obls (gE alg (parts.map (·.1)))):=rfl
   have hple:(dY alg (gE alg (parts.map (·.1))) parts).length≤32*B+B:=sN hpb hn
   have hal:=fun G=>hall qy G
   obtain⟨m,em⟩:∃m,gE alg (parts.map (·.1))=m:=⟨_,rfl⟩
   rw[em]at hc6 hjp hal hple;have hin:=fun G=>xp m hc6.m9 G
   have npe:=(nb hc6.m9).npe;have nde:=(nb hc6.m9).nde;simp only[aP]at hal hin;rw[htl]at r7;simp only[go_sem,r3,r7,k3];refine(hal _).pthen ?_;rcases ht with rfl|rfl
   ·simp only[go_sem,r1]
    refine(hin _).pthen ?_;simp only[go_sem,r6,k6];exact .mk (rsA (gv m,[])) (qe [] (gv m) rfl _) (hsH.put n6' _) ⟨by rw[hjp];rfl,rfl⟩
   have k6H:=k6;cases dp:(m==aZ)
   case true=>
    have e1:m=aZ:=by simpa using dp
    have hne:¬(m≠aZ∧m≠cB):=fun hh=>hh.1 e1
    have hdu:=fun G=>qw obls ho m (.inl e1) G
    simp only[az,aP]at hdu;simp only[go_sem,r1,npe,dp];exact aew
   case false=>
    cases dd:(m==cB)
    case true=>
     have e1:m=cB:=by simpa using dd
     have hne:¬(m≠aZ∧m≠cB):=fun hh=>hh.2 e1
     have hdu:=fun G=>qw obls ho m (.inr e1) G
     simp only[az,aP]at hdu;simp only[go_sem,r1,npe,nde,dp,dd];exact aew
    case false=>
     have e1:m≠aZ:=by simpa using dp
     have e2:m≠cB:=by simpa using dd
     simp only[go_sem,r1,r6,npe,nde,dp,dd,k6];exact .mk (rsA (m,[])) (qe [] m rfl _) (hsH.put n6' _) ⟨by rw[hjp,if_neg aau,if_neg aau,if_pos ⟨e1,e2⟩],rfl⟩
theorem zy:∀(n d:Nat),d+n=5→∀(p:bG),lU d p→∀(gs:List bh),qJ gs→∀(h:Heap),ai Tryz.prog 172 [aK p,bE gs] h fun r h' =>r=rsA (fh gs p)∧h' =h
 |0,d,hd,.mk id set alg tgt rules kids obls,hE,gs,hf,h=>by
  simp only[lU]at hE;omega
 |n+1,d,hd,.mk id set alg tgt rules kids obls,hE,gs,hf,h=>by
  have ih:=zy n (d+1) aar;simp only[lU,pQ]at hE;obtain⟨_,_,ha1,ha2,_,_,hT,hO,hR,hK,hRE,hKE⟩:=hE;have hob:=(jP hO).1;have hmt:=fun G=>J5 tgt (Bn hT) gs hf G
  have hev:fh gs (.mk id set alg tgt rules kids obls)=if lT gs tgt=0 then(naM,[])else oJ alg obls (lT gs tgt) (rules.map (gL gs)++kids.map (fh gs)):=by simp only[fh,sd]
  have hjo:=fun(ht:lT gs tgt=1∨lT gs tgt=2) (q:Perm) (G:Heap)=>Ep (id:=id) (set:=set) (alg:=alg) ⟨ha1,ha2⟩ (tgt:=tgt) (rules:=rules) (kids:=kids) (obls:=obls) aar (lT gs tgt) ht (rules.map (gL gs)++kids.map (fh gs)) (fun x hx=>by
   rcases List.mem_append.1 hx with hx|hx
   ·obtain⟨r,_,rfl⟩:=List.mem_map.1 hx;exact zB _ _ _
   ·obtain⟨r,_,rfl⟩:=List.mem_map.1 hx;exact AX gs r) aa7 (B:=10000000) (Nat.le_refl _) (fun x hx=>by
   rcases List.mem_append.1 hx with hx|hx
   ·obtain⟨r,hr,rfl⟩:=List.mem_map.1 hx
    have h1:=zA r (lT gs r.tgt) (pq gs r.cond);have h2:=(jP (hRE r hr).2.2.2).1
    show(mu r (lT gs r.tgt) (pq gs r.cond)).2.length≤_
    omega
   ·obtain⟨r,hr,rfl⟩:=List.mem_map.1 hx
    have h1:=AW gs n (d+1) r aar (hKE r hr);have h2:oB n≤oB 4:=by
     have:n≤4:=aar;rcases(show n=0∨n=1∨n=2∨n=3∨n=4 by omega)with rfl|rfl|rfl|rfl|rfl<;>decide
    exact Nat.le_trans h1 (Nat.le_trans h2 aau)) q G
  have hrl:=fun(r:cK) (hr:C9 r) (G:Heap)=>GP r hr gs hf G
  have hml:=J4 gs tgt;obtain⟨t,et⟩:∃t,lT gs tgt=t:=⟨_,rfl⟩;rw[et]at hmt hjo hev hml;simp only[aK,bE,aV,aT,az]at hmt hjo hrl;have uR:=S4;refine aaq Tryz.func172 50 [.cell 4 119] fun hwf=> ?_
  simp only[go_sem,aK,bE,aV,aT,az];intro i2 h2;simp only[go_sem];intro i4 h4;have n42:=aF h4;have n4' :=aB h4;obtain⟨H0,eH⟩:∃H0,upd (upd h i2 (some (.obj [.s id,.b set,.i alg,.sl (tgt.map cM) .no,.sl (rules.map aA) .no,.sl (kids.map aK) .no,.sl (obls.map bl) .no] 65))) i4 (some (.obj [.v (.complex .f64 0 0),.sl [] .full] 119))=H0:=⟨_,rfl⟩;have hH0:Ab.Sub h H0:=ado;have g2:H0 i2=some (.obj [.s id,.b set,.i alg,.sl (tgt.map cM) .no,.sl (rules.map aA) .no,.sl (kids.map aK) .no,.sl (obls.map bl) .no] 65):=ad6;have g4:H0 i4=some (.obj [.v (.complex .f64 0 0),.sl [] .full] 119):=abM;simp only[go_sem,ak,n42.symm];rw[eH];clear eH;refine(hmt _).pthen ?_;cases dt:((t:Int)==0)
  case true=>
   have e0:t=0:=by have:(t:Int)=0:=(by simpa using dt);omega
   simp only[go_sem,dt,g4];exact .mk (rsA (naM,[])) (qe [] naM rfl _) (hH0.put n4' _) ⟨by rw[hev,if_pos e0],rfl⟩
  have ht0:t≠0:=by rintro rfl;simp at dt
  have ht12:t=1∨t=2:=aar;rw[if_neg ht0]at hev;simp only[go_sem,dt,g2,aah];refine .intro (fun m ρ H=>∃(i:Nat) (y:AV),Acc U 119 H0 H y (((rules.map (gL gs)).take i).map rsA)∧i≤rules.length∧m=rules.length - i∧lk ρ 1=some (.sl (gs.map kj) .no)∧lk ρ 2=some (.ptr i2 0)∧lk ρ 4=some (.ptr i4 0)∧lk ρ 5=some (.i t)∧lk ρ 6=some y∧lk ρ 19=some (.sl (rules.map aA) .no)∧lk ρ 20=some (.i rules.length)∧lk ρ 21=some (.i i)) rules.length ?_ ?_
  ·refine⟨0,.sl [] .full,.full (.refl _),aar,rfl, ?_, ?_, ?_, ?_, ?_, ?_, ?_, ?_⟩<;>simp only[go_sem]
  ·rintro m ρ H ⟨i,y,hy,hi,rfl,r1,r2,r4,r5,r6,r19,r20,r21⟩
   obtain⟨qy,eqy⟩:=hy.row;subst eqy;simp only[go_sem,r20,r21];refine .intro (fun e=> ?_) (fun e=> ?_)
   ·have hlt:i<rules.length:=aao e
    have w1:=aan i aar;have hsn:((rules.map (gL gs)).take (i+1)).map rsA=((rules.map (gL gs)).take i).map rsA++ [rsA (gL gs rules[i])]:=by
     rw[List.take_succ_eq_append_getElem aaQ,List.map_append,aai];rfl
    have ix:=fun k=>fz.eq (xs:=rules.map aA) (sz:=5) i aaQ aaH k
    rw[aai]at ix;have hre:=hRE _ (aam hlt);obtain⟨x,ex⟩:∃x,rules[i]=x:=⟨_,rfl⟩;rw[ex]at ix hsn hre;have hr1:=hrl x hre;simp only[aA,aT,az]at ix hr1;simp only[go_sem,r19,r21,ix];intro i8 h8;simp only[go_sem,r1,r6];refine(hr1 _).pthen ?_;simp only[go_sem,rsA,aP,az];refine(hy.sub (.aj h8)).app (zs:=[rsA (gL gs x)]) (by rw[uR];decide) aaw (fun k hk=>hk) (by rw[uR];exact Ae _) acX aaJ fun y' H' hy' kp=> ?_
    simp only[go_sem,r21,w1];refine⟨_, ?_,i+1,y',by rw[hsn];exact hy',aar,rfl, ?_, ?_, ?_, ?_, ?_, ?_, ?_, ?_⟩
    ·omega
    all_goals simp only[go_sem,r1,r2,r4,r5,r19,r20]
   ·have hge:i=rules.length:=by have:=aak e;omega
    subst hge;have htl:(rules.map (gL gs)).take rules.length=rules.map (gL gs):=List.take_of_length_le aaz;rw[htl]at hy r6;have k2:=hy.1 _ _ g2;simp only[go_sem,r2,k2,aah];refine .intro (fun m ρ H=>∃(i:Nat) (y:AV),Acc U 119 H0 H y ((rules.map (gL gs)++(kids.map (fh gs)).take i).map rsA)∧i≤kids.length∧m=kids.length - i∧lk ρ 1=some (.sl (gs.map kj) .no)∧lk ρ 2=some (.ptr i2 0)∧lk ρ 4=some (.ptr i4 0)∧lk ρ 5=some (.i t)∧lk ρ 6=some y∧lk ρ 33=some (.sl (kids.map aK) .no)∧lk ρ 34=some (.i kids.length)∧lk ρ 35=some (.i i)) kids.length ?_ ?_
    ·refine⟨0,_,by rw[List.take_zero,List.append_nil];exact hy,aar,rfl, ?_, ?_, ?_, ?_, ?_, ?_, ?_, ?_⟩<;>simp only[go_sem,r1,r2,r4,r5,r6]
    ·rintro m ρ2 H2 ⟨i,y,hy,hi,rfl,s1,s2,s4,s5,s6,s33,s34,s35⟩
     obtain⟨qy,eqy⟩:=hy.row;subst eqy;simp only[go_sem,s34,s35];refine .intro (fun e=> ?_) (fun e=> ?_)
     ·have hlt:i<kids.length:=aao e
      have w1:=aan i aar;have hsn:(rules.map (gL gs)++(kids.map (fh gs)).take (i+1)).map rsA=(rules.map (gL gs)++(kids.map (fh gs)).take i).map rsA++ [rsA (fh gs kids[i])]:=by
       rw[List.take_succ_eq_append_getElem aaQ,←List.append_assoc,List.map_append,aai];rfl
      have ix:=fun k=>fz.eq (xs:=kids.map aK) (sz:=7) i aaQ (by rw[aai,iS]) k
      rw[aai]at ix;have hke:=hKE _ (aam hlt);obtain⟨x,ex⟩:∃x,kids[i]=x:=⟨_,rfl⟩;rw[ex]at ix hsn hke;have hr1:=ih x hke gs hf;obtain⟨kid,kset,kalg,ktgt,krules,kkids,kobls⟩:=x;simp only[aK,aT,az,bE,aV]at ix hr1;simp only[go_sem,s33,s35,ix];intro i10 h10;simp only[go_sem,s1,s6];refine(hr1 _).pthen ?_;simp only[go_sem,rsA,aP,az];refine(hy.sub (.aj h10)).app (zs:=[rsA (fh gs (.mk kid kset kalg ktgt krules kkids kobls))]) (by rw[uR];decide) aaw (fun k hk=>hk) (by rw[uR];exact Ae _) acX (by simp only[go_sem,aah,List.length_take,List.length_cons,List.length_nil,aal];omega) fun y' H' hy' kp=> ?_
      simp only[go_sem,s35,w1];refine⟨_, ?_,i+1,y',by rw[hsn];exact hy',aar,rfl, ?_, ?_, ?_, ?_, ?_, ?_, ?_, ?_⟩
      ·omega
      all_goals simp only[go_sem,s1,s2,s4,s5,s33,s34]
     ·have hge:i=kids.length:=by have:=aak e;omega
      subst hge;have htl:(kids.map (fh gs)).take kids.length=kids.map (fh gs):=List.take_of_length_le aaz;rw[htl]at hy s6;have k2:=hy.1 _ _ g2;have k4:=hy.1 _ _ g4;have hj:=fun G=>hjo ht12 qy G
      rw[←hev]at hj;obtain⟨z,ez⟩:∃z,fh gs (.mk id set alg tgt rules kids obls)=z:=⟨_,rfl⟩;rw[ez]at hj;simp only[go_sem,s2,s5,s6,k2];refine(hj _).pthen ?_;simp only[go_sem,s4,rsA,aP,az,k4];exact .mk (rsA z) (.refl _) ((hH0.trans hy.1).put n4' _) ⟨by rw[ez];rfl,rfl⟩
theorem B1(p:bG)(hp:fY p=0)(gs:List bh)(hf:qJ gs)(h:Heap):ai Tryz.prog 123 [aK p,bE gs] h fun r h' =>r= .tup [rsA (fh gs p),.i 0]∧h' =h:=by
 have hd:=fun G=>zy 4 1 rfl p (qf hp) gs hf G
 have hr:=fun G=>sW p G
 rw[hp]at hr;obtain⟨id,set,alg,tgt,rules,kids,obls⟩:=p;refine aaq Tryz.func123 13 [.cell 4 119,.tmp 5] fun hwf=> ?_
 simp only[go_sem,aK,bE,aT,az];intro i2 h2;simp only[go_sem];intro i4 h4;have n42:=aF h4;have n4:=aB h4;have hs:∀x y,Ab.Sub h (upd (upd h i2 x) i4 y):=fun x y=>((Sub.refl h).put h2 x).put n4 y
 simp only[go_sem,ak,n42.symm];refine(hr _).pthen ?_;simp only[go_sem,ak,n42.symm];refine(hd _).pthen ?_;simp only[go_sem,rsA,aP,az];exact abV
end Go.Proofs.YtcochaoekecfdaaGreatDoor
namespace Go.Bf
open Go Go.Ab Go.Proofs.YtcochaoekecfdaaGreatDoor
def pV:OpD:=⟨1,RD,cT,[],[],ax,0,[],[],false⟩
def rep(n:Nat)(t:Txt):Txt:=(List.replicate n t).flatten
def MLe(a b:dN):Prop:=(∀x∈a.met,x∈b.met)∧a.rules≤b.rules
theorem MLe.refl(a:dN):MLe a a:=⟨fun _ h=>h,Nat.le_refl _⟩
theorem MLe.trans{a b c:dN}(h1:MLe a b)(h2:MLe b c):MLe a c:=⟨fun x h=>h2.1 x (h1.1 x h),Nat.le_trans h1.2 h2.2⟩
theorem FO{a b b' :dN}{s:Txt}(h:MLe a b)(hm:iL b s=some b'):∃a',iL a s=some a'∧MLe a' b' :=by
 unfold iL at hm⊢;split at hm
 ·rename_i hc
  cases hm;refine⟨_,if_pos ⟨fun hx=>hc.1 (h.1 s hx),hc.2⟩,fun x hx=> ?_,h.2⟩
  rcases List.mem_append.1 hx with hx|hx
  ·exact List.mem_append.2 (.inl (h.1 x hx))
  grind
 grind
theorem FP{b b' :dN}{s:Txt}(hm:iL b s=some b'):MLe b b' :=by
 unfold iL at hm;split at hm
 ·cases hm;exact⟨fun x hx=>List.mem_append.2 (.inl hx),Nat.le_refl _⟩
 grind
theorem nj{e:Int}{w:Went}{m:dN}(h:need e w= .ok m):e=0∧w= .ok m:=by
 grind [need]
theorem MH{a b b' :dN}{r:cK}(h:MLe a b)(hr:fS b r= .ok b'):(∃a',fS a r= .ok a'∧MLe a' b')∧MLe b b' :=by
 unfold fS at hr⊢;cases hm:iL b r.id with
 |none=>grind
 |some m=>
  rw[hm]at hr;obtain⟨a',ha,hl⟩:=FO h hm;simp only at hr;split at hr
  ·grind
  ·obtain⟨e1,hr⟩:=nj hr
   obtain⟨e2,hr⟩:=nj hr;obtain⟨e3,hr⟩:=nj hr;cases hr;have hup:=FP hm;refine⟨⟨⟨a'.met,a'.rules+1⟩, ?_,hl.1,by have:=hl.2;simp only;omega⟩,hup.1,by have:=hup.2;simp only;omega⟩
   rw[ha];have:=hl.2;simp only[e1,e2,e3,need,if_true];rw[if_neg aar]
theorem Db:∀(l:List cK) {a b b' :dN},MLe a b→eW b l= .ok b'→(∃a',eW a l= .ok a'∧MLe a' b')∧MLe b b'
 | [],a,b,b',h,hr=>by
  cases hr;exact⟨⟨a,rfl,h⟩,.refl _⟩
 |r::l,a,b,b',h,hr=>by
  simp only[eW]at hr⊢;cases hw:fS b r with
  |bad e=>grind
  |ok m=>
   rw[hw]at hr;obtain⟨⟨a',ha,hl⟩,hu⟩:=MH h hw;obtain⟨⟨a'',ha',hl'⟩,hu'⟩:=Db l hl hr;exact⟨⟨a'',aas,hl'⟩,hu.trans hu'⟩
theorem L6{a b b' :dN}{id:Txt}{set:Bool}{alg:Int}{tgt:fQ}{nr nk nk' :Nat}{obls:List cA}(h:MLe a b)(hk:nk'≤nk)(hr:eO b id set alg tgt nr nk obls= .ok b'):(∃a',eO a id set alg tgt nr nk' obls= .ok a'∧MLe a' b')∧MLe b b' :=by
 unfold eO at hr⊢;cases hm:iL b id with
 |none=>rw[hm]at hr;cases hr
 |some m=>
  rw[hm]at hr;obtain⟨a',ha,hl⟩:=FO h hm;simp only at hr;split at hr
  ·cases hr
  ·rename_i h1
   split at hr
   ·cases hr
   ·rename_i h2
    obtain⟨e1,hr⟩:=nj hr;obtain⟨e2,hr⟩:=nj hr;split at hr
    ·cases hr
    ·rename_i h3
     cases hr;refine⟨⟨a', ?_,hl⟩,FP hm⟩;rw[ha];have h2' :¬(set=true∧nr>0∨set=false∧(nk' >0∨alg=4)):=by
      rintro(⟨p,q⟩|⟨p,q|q⟩)
      ·exact h2 (.inl ⟨p,q⟩)
      ·exact h2 (.inr ⟨p,.inl aar⟩)
      ·exact h2 (.inr ⟨p,.inr q⟩)
     simp only[if_neg h1,if_neg h2',e1,e2,need,if_true];rw[if_neg aar]
theorem CT(gs:List bh):∀l:List bG,(jI gs l).length≤l.length
 | []=>by simp[jI]
 |k::r=>by
  have:=CT gs r;simp only[jI];split<;>simp<;>omega
mutual
theorem CV(gs:List bh):∀(p:bG) (d:Nat) {a b b' :dN},MLe a b→jQ b d p= .ok b'→(∃a',jQ a d (kE gs p)= .ok a'∧MLe a' b')∧MLe b b'
 |.mk id set alg tgt rules kids obls,d,a,b,b',h,hr=>by
  simp only[jQ,kE]at hr⊢;split at hr
  ·cases hr
  ·rename_i hd
   rw[if_neg hd];cases hh:eO b id set alg tgt rules.length kids.length obls with
   |bad e=>rw[hh]at hr;cases hr
   |ok m=>
    rw[hh]at hr;simp only at hr;obtain⟨⟨a1,ha1,hl1⟩,hu1⟩:=L6 h (CT gs kids) hh;cases hw:eW m rules with
    |bad e=>rw[hw]at hr;cases hr
    |ok m2=>
     rw[hw]at hr;simp only at hr;obtain⟨⟨a2,ha2,hl2⟩,hu2⟩:=Db rules hl1 hw;obtain⟨⟨a3,ha3,hl3⟩,hu3⟩:=tQ gs kids (d+1) hl2 hr;refine⟨⟨a3, ?_,hl3⟩,(hu1.trans hu2).trans hu3⟩;rw[ha1];simp only[ha2];exact ha3
theorem tQ(gs:List bh):∀(l:List bG) (d:Nat) {a b b' :dN},MLe a b→ij b d l= .ok b'→(∃a',ij a d (jI gs l)= .ok a'∧MLe a' b')∧MLe b b'
 | [],d,a,b,b',h,hr=>by
  simp only[ij,jI]at hr⊢;cases hr;exact⟨⟨a,rfl,h⟩,.refl _⟩
 |k::r,d,a,b,b',h,hr=>by
  simp only[ij]at hr;cases hw:jQ b d k with
  |bad e=>rw[hw]at hr;cases hr
  |ok m=>
   rw[hw]at hr;simp only at hr;obtain⟨⟨a1,ha1,hl1⟩,hu1⟩:=CV gs k d h hw;simp only[jI];split
   ·obtain⟨⟨a2,ha2,hl2⟩,hu2⟩:=tQ gs r d hl1 hr
    refine⟨⟨a2, ?_,hl2⟩,hu1.trans hu2⟩;simp only[ij,ha1];exact ha2
   ·obtain⟨⟨a2,ha2,hl2⟩,hu2⟩:=tQ gs r d (h.trans hu1) hr
    exact⟨⟨a2,ha2,hl2⟩,hu1.trans hu2⟩
end
theorem EK(gs:List bh){p:bG}(h:fY p=0):fY (kE gs p)=0:=by
 unfold fY at*;cases hw:jQ ⟨[],0⟩ 1 p with
 |bad e=>
  have:=sQ 4 1 _ _ e rfl hw;rw[hw]at h;exact(this h).elim
 |ok m=>
  obtain⟨⟨a,ha,_⟩,_⟩:=CV gs p 1 (.refl _) hw;rw[ha];rfl
def Tc:bM:=⟨⟨0,[],false⟩,0,ax⟩
def Mc(k:Option bM):AV:=match k with
 |some m=> .tup [dz m,.b true]
 |none=> .tup [dz Tc,.b false]
theorem JR{x:List (List bM)}{r:fQ}(h:x.length≠1):nh (x::r)=nh r:=by
 match x,h with
 | [],_=>rfl
 | [l],h=>exact(h rfl).elim
 |a::b::c,_=>rfl
theorem JQ{l:List bM}{r:fQ}(h:(l.find? fun m=>m.op==1 && !m.attr.must)=none):nh ([l]::r)=nh r:=by
 grind [nh]
theorem JS{l:List bM}{r:fQ}{m:bM}(h:(l.find? fun m=>m.op==1 && !m.attr.must)=some m):nh ([l]::r)=some m:=by
 grind [nh]
theorem CR(gs:List bh):∀l:List bG,jI gs l=(l.filter (rE gs)).map (kE gs)
 | []=>aaG
 |k::r=>by
  simp only[jI,List.filter_cons,CR gs r]
  grind
def ixP(gs:List bh)(l:List bG)(n:Nat):List Nat:=(List.range n).filter fun j=>rE gs (l.getD j kS)
theorem Cp(gs:List bh)(l:List bG){n:Nat}(h:n<l.length):ixP gs l (n+1)=ixP gs l n++(if rE gs l[n]=true then [n]else []):=by
 grind [ixP,List.range_succ,List.getD,List.getElem?_eq_getElem]
theorem Cq(gs:List bh)(l:List bG):∀n:Nat,n≤l.length→(ixP gs l n).map (fun j=>l.getD j kS)=(l.take n).filter (rE gs)
 |0,_=>aaG
 |n+1,h=>by
  have hlt:n<l.length:=aar;rw[Cp gs l hlt,List.map_append,Cq gs l n aar,List.take_succ_eq_append_getElem hlt,List.filter_append,List.filter_cons]
  congr 1
  grind
theorem O7{gs:List bh}{l:List bG}{n j:Nat}(h:j∈ixP gs l n):j<n:=List.mem_range.1 (List.mem_filter.1 h).1
theorem FK(gs:List bh)(l:List bG)(n:Nat):(ixP gs l n).length≤n:=by
 grind [ixP,Nat.le_trans,List.length_filter_le]
theorem JM(gs:List bh)(l:List bG):(ixP gs l l.length).map (fun j=>kE gs (l.getD j kS))=jI gs l:=by
 rw[CR,←List.take_length (l:=l),←Cq gs l l.length (Nat.le_refl _),List.map_map,List.take_length];rfl
theorem ni(m:bM):dz m= .agg [.i m.attr.cat,.s m.attr.name,.b m.attr.must,.i m.op,.i m.val.kind,.i m.val.n,.s m.val.s]:=rfl
end Go.Bf
namespace Go.Proofs.YtcochaoekecfdaaGreatDoor
open Go Go.Ab Go.Bf
theorem O8(t:fQ)(ht:Lt t)(h:Heap):ai Tryz.prog 213 [aT t] h fun r h' =>r=Mc (nh t)∧h' =h:=by
 have htl:=ht.1;refine aaq Tryz.func213 38 [.cell 2 273,.tmp 3] fun hwf=> ?_
 simp only[go_sem,aT];intro i2 h2;simp only[go_sem,aah];have hH0:∀x,Ab.Sub h (upd h i2 x):=fun x=> .aj h2
 refine .intro (fun m ρ H=>Ab.Sub h H∧H i2=some (.obj [.i 0,.s [],.b false,.i 0,.i 0,.i 0,.s []] 273)∧∃i:Nat,i≤t.length∧m=t.length - i∧nh (t.drop i)=nh t∧lk ρ 2=some (.ptr i2 0)∧lk ρ 8=some (.sl (t.map cM) .no)∧lk ρ 9=some (.i t.length)∧lk ρ 10=some (.i i)) t.length ?_ ?_
 ·refine⟨hH0 _,ah ..,0,aar,rfl,rfl, ?_, ?_, ?_, ?_⟩<;>simp only[go_sem]
 ·rintro m ρ H ⟨hs,k2,i,hi,rfl,hk,r2,r8,r9,r10⟩
  simp only[go_sem,r9,r10];refine .intro (fun e=> ?_) (fun e=> ?_)
  ·have hlt:i<t.length:=aao e
   have w1:IntKind.i64.wrap ((i:Int)+1)=((i+1:Nat):Int):=aaE;rw[List.drop_eq_getElem_cons hlt]at hk;have hxl:=(ht.2 _ (aam hlt)).2;have ix:=fun k=>fz.eq (xs:=t.map cM) (sz:=1) i aas aaH k
   rw[aai]at ix;obtain⟨x,ex⟩:∃x,t[i]=x:=⟨_,rfl⟩;rw[ex]at ix hk hxl;simp only[cM]at ix;cases d1:((x.length:Int) !=1)
   case true=>
    have hx1:x.length≠1:=aas;rw[JR hx1]at hk;simp only[go_sem,r8,r10,ix,aah,d1,w1];refine⟨_, ?_,hs,k2,i+1,aar,rfl,hk, ?_, ?_, ?_, ?_⟩
    ·omega
    all_goals simp only[go_sem,r2,r8,r9]
   have hx1:x.length=1:=aas;obtain⟨l,rfl⟩:=List.length_eq_one_iff.1 hx1;have hll:=hxl l (List.mem_singleton.2 rfl);have iy:=fun k=>fz.eq (xs:=[iA l]) (sz:=1) 0 aaz rfl k
   simp only[List.getElem_cons_zero,iA,Int.natCast_zero]at iy;simp only[go_sem,r8,r10,ix,aah,List.length_cons,List.length_nil,List.map_cons,List.map_nil,iA,iy];refine .intro (fun m ρ2 H2=>Ab.Sub h H2∧H2 i2=some (.obj [.i 0,.s [],.b false,.i 0,.i 0,.i 0,.s []] 273)∧∃j:Nat,j≤l.length∧m=l.length - j∧(∀k (h1:k<l.length),k<j→(l[k].op==1 && !l[k].attr.must)=false)∧lk ρ2 2=some (.ptr i2 0)∧lk ρ2 8=some (.sl (t.map cM) .no)∧lk ρ2 9=some (.i t.length)∧lk ρ2 10=some (.i i)∧lk ρ2 19=some (.sl (l.map dz) .no)∧lk ρ2 20=some (.i l.length)∧lk ρ2 21=some (.i j)) l.length ?_ ?_
   ·refine⟨hs,k2,0,aar,rfl,fun k _ hk=>aar, ?_, ?_, ?_, ?_, ?_, ?_, ?_⟩<;>simp only[go_sem,r2,r8,r9,r10]
   ·rintro m ρ2 H2 ⟨hs2,k2,j,hj,rfl,hc,s2,s8,s9,s10,s19,s20,s21⟩
    simp only[go_sem,s20,s21];refine .intro (fun e=> ?_) (fun e=> ?_)
    ·have hlt2:j<l.length:=aao e
     have w2:IntKind.i64.wrap ((j:Int)+1)=((j+1:Nat):Int):=aaE;have iz:=fun k=>fz.eq (xs:=l.map dz) (sz:=7) j aas aaH k
     rw[aai]at iz;have hci:=fun(d:(l[j].op==1 && !l[j].attr.must)=false)=>(fun k (h1:k<l.length) (hk:k<j+1)=>(by
      grind:(l[k].op==1 && !l[k].attr.must)=false))
     have hat:=fun(d:(l[j].op==1 && !l[j].attr.must)=true)=>(List.find?_eq_some_iff_getElem.2 ⟨d,j,hlt2,rfl,fun k hk=>aas⟩:(l.find? fun m=>m.op==1 && !m.attr.must)=some l[j])
     obtain⟨z,ez⟩:∃z,l[j]=z:=⟨_,rfl⟩;rw[ez]at iz hci hat;simp only[ni]at iz;simp only[go_sem,s19,s21,iz];intro i7 h7;have n72:i7≠i2:=fun e=>aas
     cases a1:(z.op==1)
     ·exact ae6
     ·cases a2:z.attr.must
      ·have hkk:=hk.symm.trans (JS (hat aas))
       simp only[go_sem,s2,a1,ak,n72.symm,k2];exact .mk _ (.refl _) ((hs2.trans (.aj h7)).put h2 _) ⟨by rw[hkk];simp only[Mc,ni,a2];rfl,rfl⟩
      ·exact ae6
    ·have hge:j=l.length:=by grind
     subst hge;rw[JQ (List.find?_eq_none.2 fun z hz=>by
      obtain⟨k,hk,rfl⟩:=List.mem_iff_getElem.1 hz
      grind)]at hk
     simp only[go_sem,s10,w1];refine⟨_, ?_,hs2,k2,i+1,aar,rfl,hk, ?_, ?_, ?_, ?_⟩
     ·omega
     all_goals simp only[go_sem,s2,s8,s9]
  ·have hge:i=t.length:=by grind
   subst hge;rw[List.drop_length]at hk;simp only[go_sem,r2,k2];exact .mk _ (.refl _) (hs.put h2 _) ⟨by rw[←hk];rfl,rfl⟩
theorem HK{gs:List bh}{p:bG}(h:nh (rH p)=none):rE gs p=true:=by grind [rE]
theorem HL{gs:List bh}{p:bG}{m:bM}(h:nh (rH p)=some m):rE gs p=decide (ju gs m≠0):=by grind [rE]
def sC(n:Nat):AV:=.i n
theorem Km(l:List bG)(hl:l.length≤1000)(ht:∀p∈l,Lt (rH p))(gs:List bh)(hf:qJ gs)(h:Heap):ai Tryz.prog 173 [.sl (l.map aK) .no,bE gs] h fun r h' =>r= .sl ((ixP gs l l.length).map sC) .no∧h' =h:=by
 have hmt:=fun(m:bM) (G:Heap)=>zS m gs hf G
 simp only[ni,bE]at hmt;have uI:(U 3).sz=1:=aaG;refine aaq Tryz.func173 37 [.tmp 4] fun hwf=> ?_
 simp only[go_sem,bE,aah];refine .intro (fun m ρ H=>∃(i:Nat) (y:AV),Acc U 3 h H y ((ixP gs l i).map sC)∧i≤l.length∧m=l.length - i∧lk ρ 1=some (.sl (gs.map kj) .no)∧lk ρ 5=some y∧lk ρ 10=some (.sl (l.map aK) .no)∧lk ρ 11=some (.i l.length)∧lk ρ 12=some (.i i)) l.length ?_ ?_
 ·refine⟨0,.sl [] .full,.full (.refl _),aar,rfl, ?_, ?_, ?_, ?_, ?_⟩<;>simp only[go_sem]
 ·rintro m ρ H ⟨i,y,hy,hi,rfl,r1,r5,r10,r11,r12⟩
  obtain⟨qy,eqy⟩:=hy.row;subst eqy;simp only[go_sem,r11,r12];refine .intro (fun e=> ?_) (fun e=> ?_)
  ·have hlt:i<l.length:=aao e
   have w1:IntKind.i64.wrap ((i:Int)+1)=((i+1:Nat):Int):=aaE;have hsn:=Cp gs l hlt;have hpl:=FK gs l i;have ix:=fun k=>fz.eq (xs:=l.map aK) (sz:=7) i aas (by rw[aai,iS]) k
   rw[aai]at ix;have hft:=ht _ (aam hlt);obtain⟨x,ex⟩:∃x,l[i]=x:=⟨_,rfl⟩;rw[ex]at ix hsn hft;have hky:=fun G=>O8 (rH x) hft G
   have mn:=fun h=>HK (gs:=gs) (p:=x) h
   have ms:=fun m h=>HL (gs:=gs) (p:=x) (m:=m) h
   obtain⟨kid,kset,kalg,ktgt,krules,kkids,kobls⟩:=x;simp only[rH]at hky hft mn ms;simp only[aK,aT,az,aV]at ix;simp only[aT]at hky;simp only[go_sem,r10,r12,ix];intro i7 h7;simp only[go_sem];refine(hky _).pthen ?_;have hkeep:rE gs (.mk kid kset kalg ktgt krules kkids kobls)=true→ixP gs l (i+1)=ixP gs l i++ [i]:=fun e=>aas
   have hdrop:rE gs (.mk kid kset kalg ktgt krules kkids kobls)=false→ixP gs l (i+1)=ixP gs l i:=fun e=>aas
   cases hk:nh ktgt with
   |none=>
    simp only[go_sem,Mc,ni];intro i8 h8;simp only[go_sem,r5];exact aeS
   |some m=>
    have hm2:=ms m hk;simp only[go_sem,Mc,ni];intro i8 h8;simp only[go_sem,r1];refine(hmt m _).pthen ?_;cases dm:((ju gs m:Int) !=0)
    ·have e0:ju gs m=0:=by grind
     simp only[go_sem,r12,dm,w1];refine⟨_, ?_,i+1,_,by rw[hdrop aas];exact(hy.sub (.aj h7)).sub (.aj h8),aar,rfl, ?_, ?_, ?_, ?_, ?_⟩
     ·omega
     all_goals simp only[go_sem,r1,r5,r10,r11]
    ·have e0:ju gs m≠0:=by grind
     simp only[go_sem,r5,dm];exact aeS
  ·have hge:i=l.length:=by grind
   subst hge;simp only[go_sem,r5];exact .mk _ (.sl _ _) hy.1 ⟨rfl,rfl⟩
theorem SH{id:Txt}{set:Bool}{alg:Int}{tgt:fQ}{rules:List cK}{kids:List bG}{obls:List cA}{L:List AV}(hL:L=kids.map aK)(q:Perm):Weak (.agg [.s id,.b set,.i alg,.sl (tgt.map cM) .no,.sl (rules.map aA) .no,.sl L q,.sl (obls.map bl) .no]) (aK (.mk id set alg tgt rules kids obls)):=by
 subst hL;rw[aK,aV];refine .agg _ _ rfl fun i a b=> ?_
 rcases i with _|_|_|_|_|_|_|i
 ·exact abG
 ·exact abG
 ·exact abG
 ·exact abG
 ·exact abG
 ·exact ac3
 ·exact abG
 ·simp at a;omega
theorem zY:∀(n d:Nat),d+n=5→∀(p:bG),lU d p→∀(gs:List bh),qJ gs→∀(h:Heap),ai Tryz.prog 124 [aK p,bE gs] h fun r h' =>r=aK (kE gs p)∧h' =h
 |0,d,hd,.mk id set alg tgt rules kids obls,hE,gs,hf,h=>by
  simp only[lU]at hE;omega
 |n+1,d,hd,.mk id set alg tgt rules kids obls,hE,gs,hf,h=>by
  have ih:=zY n (d+1) aar;simp only[lU,pQ]at hE;obtain⟨_,_,_,_,_,_,hT,hO,hR,hK,hRE,hKE⟩:=hE;have hpk:=fun G=>Km kids aar (fun p hp=>by
   have h1:=hKE p hp;obtain⟨kid,kset,kalg,ktgt,krules,kkids,kobls⟩:=p;simp only[lU]at h1;exact Bn h1.2.2.2.2.2.2.1) gs hf G
  have hpe:kE gs (.mk id set alg tgt rules kids obls)= .mk id set alg tgt rules (jI gs kids) obls:=aaG;have hfull:=JM gs kids;have hIlt:∀j∈ixP gs kids kids.length,j<kids.length:=fun j hj=>O7 hj
  have hIl:(ixP gs kids kids.length).length≤16:=Nat.le_trans (FK _ _ _) hK;obtain⟨I,eI⟩:∃I,ixP gs kids kids.length=I:=⟨_,rfl⟩;rw[eI]at hpk hfull hIlt hIl;simp only[bE]at hpk;have uP:(U 65).sz=7:=aaG;refine aaq Tryz.func124 31 [.cell 4 65] fun hwf=> ?_
  simp only[go_sem,aK,bE,aV,aT,az];intro i2 h2;simp only[go_sem];intro i4 h4;have n42:=aF h4;have n4' :=aB h4;obtain⟨H0,eH⟩:∃H0,upd (upd h i2 (some (.obj [.s id,.b set,.i alg,.sl (tgt.map cM) .no,.sl (rules.map aA) .no,.sl (kids.map aK) .no,.sl (obls.map bl) .no] 65))) i4 (some (.obj [.s [],.b false,.i 0,.sl [] .full,.sl [] .full,.sl [] .full,.sl [] .full] 65))=H0:=⟨_,rfl⟩;have hH0:Ab.Sub h H0:=ado;have g2:H0 i2=some (.obj [.s id,.b set,.i alg,.sl (tgt.map cM) .no,.sl (rules.map aA) .no,.sl (kids.map aK) .no,.sl (obls.map bl) .no] 65):=ad6;have g4:H0 i4=some (.obj [.s [],.b false,.i 0,.sl [] .full,.sl [] .full,.sl [] .full,.sl [] .full] 65):=abM;simp only[go_sem,ak,n42.symm];rw[eH];clear eH;refine(hpk _).pthen ?_;simp only[go_sem,aah];refine .intro (fun m ρ H=>∃(i:Nat) (y:AV),Acc U 65 H0 H y (((I.map fun j=>kE gs (kids.getD j kS)).take i).map aK)∧i≤I.length∧m=I.length - i∧lk ρ 1=some (.sl (gs.map kj) .no)∧lk ρ 2=some (.ptr i2 0)∧lk ρ 4=some (.ptr i4 0)∧lk ρ 5=some y∧lk ρ 11=some (.sl (I.map sC) .no)∧lk ρ 12=some (.i I.length)∧lk ρ 13=some (.i i)) I.length ?_ ?_
  ·refine⟨0,.sl [] .full,.full (.refl _),aar,rfl, ?_, ?_, ?_, ?_, ?_, ?_, ?_⟩<;>simp only[go_sem]
  ·rintro m ρ H ⟨i,y,hy,hi,rfl,r1,r2,r4,r5,r11,r12,r13⟩
   obtain⟨qy,eqy⟩:=hy.row;subst eqy;have k2:=hy.1 _ _ g2;simp only[go_sem,r12,r13];refine .intro (fun e=> ?_) (fun e=> ?_)
   ·have hlt:i<I.length:=aao e
    have w1:IntKind.i64.wrap ((i:Int)+1)=((i+1:Nat):Int):=aaE;have hjlt:=hIlt _ (aam hlt);have hsn:((I.map fun j=>kE gs (kids.getD j kS)).take (i+1)).map aK=((I.map fun j=>kE gs (kids.getD j kS)).take i).map aK++ [aK (kE gs (kids.getD I[i] kS))]:=by
     grind [List.take_succ_eq_append_getElem]
    have ix:=fun k=>fz.eq (xs:=I.map sC) (sz:=1) i aas aaH k
    rw[aai]at ix;obtain⟨j,ej⟩:∃j,I[i]=j:=⟨_,rfl⟩;rw[ej]at ix hsn hjlt;have iy:=fun k=>fz.eq (xs:=kids.map aK) (sz:=7) j aas (by rw[aai,iS]) k
    rw[aai]at iy;rw[show kids.getD j kS=kids[j] by grind]at hsn
    have hke:=hKE _ (aam hjlt);obtain⟨x,ex⟩:∃x,kids[j]=x:=⟨_,rfl⟩;rw[ex]at iy hsn hke;have hr1:=ih x hke gs hf;obtain⟨z,ez⟩:∃z,kE gs x=z:=⟨_,rfl⟩;rw[ez]at hr1 hsn;obtain⟨kid,kset,kalg,ktgt,krules,kkids,kobls⟩:=x;obtain⟨zid,zset,zalg,ztgt,zrules,zkids,zobls⟩:=z;simp only[aK,aT,az,aV,bE]at iy hr1;simp only[sC]at ix;simp only[go_sem,r1,r2,r5,r11,r13,ix,k2,iy];refine(hr1 _).pthen ?_;simp only[go_sem];refine hy.app (zs:=[aK (.mk zid zset zalg ztgt zrules zkids zobls)]) aar aau (fun k hk=>show k _ from(by simpa only[aK,aT,az,aV]using hk)) (by grind [bp,aK,iS]) (by rw[uP];intro z hz;grind [List.mem_singleton,iS]) aaJ fun y' H' hy' kp=> ?_
    simp only[go_sem,r13,w1];refine⟨_, ?_,i+1,y',aas,aar,rfl, ?_, ?_, ?_, ?_, ?_, ?_, ?_⟩
    ·omega
    all_goals simp only[go_sem,r1,r2,r4,r11,r12]
   ·have hge:i=I.length:=by grind
    subst hge;have htl:(I.map fun j=>kE gs (kids.getD j kS)).take I.length=jI gs kids:=by grind [List.take_of_length_le]
    rw[htl]at r5 hy;have k4:=hy.1 _ _ g4;have n24:i2≠i4:=n42.symm;simp only[go_sem,r2,r4,r5,k2,ak,n42,k4];refine .mk (aK (.mk id set alg tgt rules (jI gs kids) obls)) (SH rfl _) (((hH0.trans hy.1).put h2 _).put n4' _) ⟨aaG,rfl⟩
theorem Co(p:bG)(hp:fY p=0)(gs:List bh)(hf:qJ gs)(h:Heap):ai Tryz.prog 69 [aK p,bE gs] h fun r h' =>r= .tup [rsA (fh gs p),.i 0]∧h' =h:=by
 have hpk:=fun G=>zY 4 1 rfl p (qf hp) gs hf G
 have hev:=fun G=>B1 (kE gs p) (EK gs hp) gs hf G
 have hr:=fun G=>sW p G
 rw[hp]at hr;rw[zW]at hev;obtain⟨id,set,alg,tgt,rules,kids,obls⟩:=p;refine aaq Tryz.func69 17 [.cell 4 119,.tmp 5] fun hwf=> ?_
 simp only[go_sem,aK,bE,aT,az];intro i2 h2;simp only[go_sem];intro i4 h4;have n42:=aF h4;have n4:=aB h4;have hs:∀x y,Ab.Sub h (upd (upd h i2 x) i4 y):=fun x y=>((Sub.refl h).put h2 x).put n4 y
 simp only[go_sem,ak,n42.symm];refine(hr _).pthen ?_;simp only[go_sem,ak,n42.symm];refine(hpk _).pthen ?_;simp only[go_sem];refine(hev _).pthen ?_;simp only[go_sem,rsA,aP,az];exact abV
theorem JN{α:Type}(y:AV)(xs:List AV)(ds:List α)(q:α→Bool)(g:FuncId)(cap:List AV)(h:Heap)(hb:Rd h 7 y xs)(hn:xs.length=ds.length)(hl:xs.length≤1000000000)(hx:∀x∈xs,bu x=true)
  (hp:∀i (h1:i<xs.length) (h2:i<ds.length),ai Tryz.prog g (xs[i]::cap) h fun r h' =>r= .b (q ds[i])∧h' =h):
  ai Tryz.prog 217 [y,.fn g cap] h fun r h' =>r= .i (ixD q ds)∧h' =h:=by
 refine aaq Tryz.func217 19 [.tmp 4] fun hwf=> ?_
 simp only[go_sem,hb.len];refine .intro (fun m ρ h' =>h' =h∧∃i:Nat,i≤xs.length∧m=xs.length - i∧(∀j (hj:j<i) (h2:j<ds.length),q ds[j]=false)∧lk ρ 0=some y∧lk ρ 1=some (.fn g cap)∧lk ρ 7=some (.i xs.length)∧lk ρ 8=some (.i i)) xs.length ?_ ?_
 ·refine⟨rfl,0,aar,rfl,fun j hj=>aar, ?_, ?_, ?_, ?_⟩<;>simp only[go_sem]
 ·rintro m ρ h' ⟨rfl,i,hi,rfl,hc,r0,r1,r7,r8⟩
  simp only[go_sem,r7,r8];refine .intro (fun e=> ?_) (fun e=> ?_)
  ·have hlt:i<xs.length:=aao e
   have hlt2:i<ds.length:=aar;have w1:IntKind.i64.wrap ((i:Int)+1)=((i+1:Nat):Int):=aaE;simp only[go_sem,r0,r1,r8];refine hb.idx (e:=143) i rfl hlt aaG aau fun p hp1=> ?_
   have hld:=hp1.all (U:=U) (ty:=143) aau abg ab8;simp only[go_sem,hld];refine(show ai Tryz.prog g (xs[i]::cap) _ _ from hp i hlt hlt2).pthen ?_
   cases d1:q ds[i]
   ·simp only[go_sem,r8,w1]
    refine⟨_, ?_,rfl,i+1,aar,rfl,fun j hj h2=> ?_, ?_, ?_, ?_, ?_⟩
    ·omega
    ·grind
    all_goals simp only[go_sem,r0,r1,r7]
   ·simp only[go_sem]
    exact .same (.refl _) ⟨aa4,rfl⟩
  ·have hge:i=xs.length:=by grind
   simp only[go_sem];exact .same (.refl _) ⟨aaS,rfl⟩
theorem JL{α:Type}(y:AV)(xs:List AV)(ds:List α)(q:α→Bool)(g:FuncId)(cap:List AV)(h:Heap)(hb:Rd h 3 y xs)(hn:xs.length=ds.length)(hl:xs.length≤1000000000)(hx:∀x∈xs,bu x=true)
  (hp:∀i (h1:i<xs.length) (h2:i<ds.length),ai Tryz.prog g (xs[i]::cap) h fun r h' =>r= .b (q ds[i])∧h' =h):
  ai Tryz.prog 183 [y,.fn g cap] h fun r h' =>r= .i (ixD q ds)∧h' =h:=by
 refine aaq Tryz.func183 19 [.tmp 4] fun hwf=> ?_
 simp only[go_sem,hb.len];refine .intro (fun m ρ h' =>h' =h∧∃i:Nat,i≤xs.length∧m=xs.length - i∧(∀j (hj:j<i) (h2:j<ds.length),q ds[j]=false)∧lk ρ 0=some y∧lk ρ 1=some (.fn g cap)∧lk ρ 7=some (.i xs.length)∧lk ρ 8=some (.i i)) xs.length ?_ ?_
 ·refine⟨rfl,0,aar,rfl,fun j hj=>aar, ?_, ?_, ?_, ?_⟩<;>simp only[go_sem]
 ·rintro m ρ h' ⟨rfl,i,hi,rfl,hc,r0,r1,r7,r8⟩
  simp only[go_sem,r7,r8];refine .intro (fun e=> ?_) (fun e=> ?_)
  ·have hlt:i<xs.length:=aao e
   have hlt2:i<ds.length:=aar;have w1:IntKind.i64.wrap ((i:Int)+1)=((i+1:Nat):Int):=aaE;simp only[go_sem,r0,r1,r8];refine hb.idx (e:=158) i rfl hlt aaG aau fun p hp1=> ?_
   have hld:=hp1.all (U:=U) (ty:=158) aau abg ab8;simp only[go_sem,hld];refine(show ai Tryz.prog g (xs[i]::cap) _ _ from hp i hlt hlt2).pthen ?_
   cases d1:q ds[i]
   ·simp only[go_sem,r8,w1]
    refine⟨_, ?_,rfl,i+1,aar,rfl,fun j hj h2=> ?_, ?_, ?_, ?_, ?_⟩
    ·omega
    ·grind
    all_goals simp only[go_sem,r0,r1,r7]
   ·simp only[go_sem]
    exact .same (.refl _) ⟨aa4,rfl⟩
  ·have hge:i=xs.length:=by grind
   simp only[go_sem];exact .same (.refl _) ⟨aaS,rfl⟩
theorem Hx(y:AV)(ds:List oV)(q:oV→Bool)(g:FuncId)(cap:List AV)(h:Heap)(hb:Rd h 7 y (ds.map ie))(hl:ds.length≤1000000000)
  (hp:∀i (h2:i<ds.length),ai Tryz.prog g (ie ds[i]::cap) h fun r h' =>r= .b (q ds[i])∧h' =h):
  ai Tryz.prog 175 [y,.fn g cap] h fun r h' =>r= .b (ds.any q)∧h' =h:=by
 refine aaq Tryz.func175 9 [.tmp 4] fun hwf=> ?_
 simp only[go_sem];refine(JN y _ ds q g cap h hb aaz aas (nF (fun _=>rfl) _) fun i a b=>by rw[aai];exact hp i b).pthen ?_
 simp only[go_sem,tu];exact aaD
theorem Hw(y:AV)(ds:List cA)(q:cA→Bool)(g:FuncId)(cap:List AV)(h:Heap)(hb:Rd h 3 y (ds.map bl))(hl:ds.length≤1000000000)
  (hp:∀i (h2:i<ds.length),ai Tryz.prog g (bl ds[i]::cap) h fun r h' =>r= .b (q ds[i])∧h' =h):
  ai Tryz.prog 137 [y,.fn g cap] h fun r h' =>r= .b (ds.any q)∧h' =h:=by
 refine aaq Tryz.func137 9 [.tmp 4] fun hwf=> ?_
 simp only[go_sem];refine(JL y _ ds q g cap h hb aaz aas (nF (fun _=>rfl) _) fun i a b=>by rw[aai];exact hp i b).pthen ?_
 simp only[go_sem,tu];exact aaD
theorem Ef(y:AV)(xs:List AV)(ds:List aJ)(q:aJ→Bool)(g:FuncId)(cap:List AV)(h:Heap)(hb:Rd h 5 y xs)(hn:xs.length=ds.length)(hl:xs.length≤1000000000)(hx:∀x∈xs,bu x=true)
  (hp:∀i (h1:i<xs.length) (h2:i<ds.length),ai Tryz.prog g (xs[i]::cap) h fun r h' =>r= .b (q ds[i])∧h' =h):
  ai Tryz.prog 143 [y,.fn g cap] h fun r h' =>r= .b (ds.any q)∧h' =h:=by
 refine aaq Tryz.func143 9 [.tmp 4] fun hwf=> ?_
 simp only[go_sem];refine(tP y xs ds q g cap h hb hn hl hx hp).pthen ?_;simp only[go_sem,tu];exact aaD
end Go.Proofs.YtcochaoekecfdaaGreatDoor
