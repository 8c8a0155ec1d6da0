/- The law EngineBytes: pack 5 of its texts. -/
import Derived.WalkKit
import Derived.Lib.Walk
import Derived.Lib.SliceRun
import Derived.Lib.AppendZerosOnto
import Derived.Test.YteaaeelhjnhaaaaGreatDoorPk1
import Derived.Test.YteaaeelhjnhaaaaGreatDoorPk2
import Derived.Test.YteaaeelhjnhaaaaGreatDoorPk3
import Derived.Test.YteaaeelhjnhaaaaGreatDoorPk4
set_option linter.unusedSimpArgs false
set_option linter.unusedVariables false
set_option maxRecDepth 100000
namespace Go.Bf
open Go Go.Ab Go.Proofs.YteaaeelhjnhaaaaGreatDoor
def wz(g:br):Int×Txt:=(g.cat,g.name)
theorem KB(gs:List br):(gs.Pairwise fun a b=>iO b.cat b.name a=false)↔(gs.map wz).Nodup:=by simp[List.Nodup,List.pairwise_map,br,iO,false,wz]
theorem jk{v:bt}(h:aW v=true):z7 [v]:=⟨acS,fun w hw=>acL⟩
theorem oX{s:Txt}(h:aK s=true):aW (idV s)=true:=by grind [aW,idV]
theorem HT{l:List jL}(h:∀r∈l,aK r.role=true)(s:Txt):z7 (cX l s):=by
 have hv:∀v∈cX l s,aW v=true∧v.kind=5:=fun v hv=>by have:=List.mem_of_mem_take hv;obtain⟨r,hr,rfl⟩:=List.mem_map.1 this;exact⟨oX acL,rfl⟩
 refine⟨by grind [cX,List.length_take],fun v hm=>⟨(hv v hm).1,fun w hw=>?_⟩⟩
 grind
theorem Ks{c:UInt8}{i j:Nat}(h:pX c j=true)(hi:i≠0):pX c i=true:=by
 simp only[pX,Bool.or_eq_true,Bool.and_eq_true,decide_eq_true_eq]at h⊢
 grind
theorem E5{n:Txt}(h:aK n=true)(hl:n.length≤14):aK ([102,95]++n)=true:=by
 simp only[aK,Bool.and_eq_true,decide_eq_true_eq]at h⊢;obtain⟨⟨h1,h2⟩,h3⟩:=h;refine⟨⟨?_,acS⟩,acL⟩;unfold sQ at h1⊢;rw[List.all_eq_true]at h1⊢
 rintro⟨c,i⟩ hp
 rw[List.mk_mem_zipIdx_iff_getElem?]at hp
 match i,hp with
 |0,hp=>cases hp;rfl
 |1,hp=>cases hp;rfl
 |i+2,hp=>exact Ks (h1 (c,i) (List.mk_mem_zipIdx_iff_getElem?.2 hp)) acK
theorem F2{s:Txt}(h:s∈pI):aK s=true:=by simp only[pI,List.mem_cons,List.not_mem_nil,or_false]at h;rcases h with rfl|rfl|rfl|rfl<;>kernel_rfl
theorem Cp(k:Int)(h:1≤k∧k≤8):aK (jM k)=true:=by
 have:(List.range 9).all (fun n=>aK (jM n))=true:=acY
 have h2:=List.all_eq_true.1 this k.toNat acL
 rwa [show((k.toNat:Nat):Int)=k by omega]at h2
theorem Mw(l:List xd)(s:Txt):aW (ud l s)=true:=by unfold ud;cases l.any fun x=>x.actor==s<;>rfl
theorem HY{c:aU}(hc:uj c)(s:Txt):∀g∈cD c s,g.cat=3∧aK g.name=true∧z7 g.bag:=by
 intro g hg;simp only[cD,List.mem_append,List.mem_cons,List.not_mem_nil,or_false]at hg;rcases hg with((rfl|rfl|rfl|rfl|rfl)|hg)|hg
 ·exact⟨rfl,acY,jk (oX hc.id)⟩
 ·exact⟨rfl,acY,jk (oX hc.owner)⟩
 ·exact⟨rfl,acY,jk (oX (F2 hc.state))⟩
 ·exact⟨rfl,acY,jk acY⟩
 ·exact⟨rfl,acY,jk (Mw _ _)⟩
 ·cases hl:c.log.getLast? with
  |none=>grind
  |some x=>rw[hl]at hg;rw[List.mem_singleton.1 hg];exact⟨rfl,acY,jk (oX (hc.actor x (List.mem_of_getLast? hl)).1)⟩
 ·obtain⟨f,hf,rfl⟩:=List.mem_map.1 hg
  obtain⟨hf1,hf2⟩:=List.mem_filter.1 hf;have hf2:f.name.length≤14:=acL;obtain⟨h1,h2,_⟩:=hc.field f hf1;exact⟨rfl,E5 h1 hf2,jk h2⟩
theorem HX{c:aU}(hc:uj c)(s:Txt):((cD c s).map wz).Nodup:=by
 have hfn:(((c.fields.filter fun f=>decide (f.name.length≤14)).map fun f=>(⟨3,[102,95]++f.name,[f.val]⟩:br)).map wz).Nodup:=by
  rw[List.map_map,List.Nodup,List.pairwise_map];refine((List.Pairwise.filter _ hc.asc).imp fun {a b} hab he=>?_)
  simp_all [Function.comp,wz,Prod.mk.injEq,true_and,List.append_cancel_left_eq,lt_irrefl]
 have hff:∀x∈((c.fields.filter fun f=>decide (f.name.length≤14)).map fun f=>(⟨3,[102,95]++f.name,[f.val]⟩:br)).map wz,∃t,x=(3,102::t):=by intro x hx;obtain⟨g,hg,rfl⟩:=List.mem_map.1 hx;obtain⟨f,hf,rfl⟩:=List.mem_map.1 hg;exact⟨_,rfl⟩
 unfold cD;rw[List.map_append,List.nodup_append];refine⟨?_,hfn,?_⟩
 ·cases c.log.getLast? with
  |none=>simp[wz,idT]
  |some x=>simp[wz,idT]
 ·intro a ha b hb
  obtain⟨t,rfl⟩:=hff b hb;intro e;cases hl:c.log.getLast? with
  |none=>simp_all [wz,idT]
  |some x=>simp_all [wz,idT]
theorem HS{k:Nat}{s:aq}{o:OpD}(hs:di k s)(hf:dD o=true):OV (fJ s o):=by
 have F:=tg hf;have hcs:∀g∈(if bY s.cases o.case=true∧o.kind≠6 then cD (bz s.cases o.case) o.subj else []),g.cat=3∧aK g.name=true∧z7 g.bag:=by
  intro g hg;split at hg
  ·rename_i ht
   exact HY (hs.case _ (qo hs.asc ht.1).1) _ g hg
  ·cases hg
 have hcd:((if bY s.cases o.case=true∧o.kind≠6 then cD (bz s.cases o.case) o.subj else []).map wz).Nodup:=by
  split
  ·rename_i ht
   exact HX (hs.case _ (qo hs.asc ht.1).1) _
  ·exact .nil
 have hcl:(if bY s.cases o.case=true∧o.kind≠6 then cD (bz s.cases o.case) o.subj else []).length≤22:=by
  split
  ·rename_i ht
   have hc:=hs.case _ (qo hs.asc ht.1).1;have h16:=hc.nfields;have:((bz s.cases o.case).fields.filter fun f=>decide (f.name.length≤14)).length≤(bz s.cases o.case).fields.length:=List.length_filter_le _ _
   simp only[cD,acE,acA,List.length_cons,List.length_nil];cases (bz s.cases o.case).log.getLast? <;>simp<;>omega
  ·simp
 unfold fJ;generalize (if bY s.cases o.case=true∧o.kind≠6 then cD (bz s.cases o.case) o.subj else [])=C at hcs hcd hcl⊢
 have e1:(if o.field= []then []else [(⟨2,[102,105,101,108,100],[idV o.field]⟩:br)])=if o.field= []then []else [(⟨2,[102,105,101,108,100],[idV o.field]⟩:br)]:=rfl
 have hro:z7 (cX s.roles o.subj):=HT (fun r hr=>(hs.role r hr).2) _
 have htk:aW ⟨4,s.tick,[]⟩=true:=by have:=hs.tick;simp[aW,this]
 have hac:=oX (Cp o.kind F.kind);have hsu:=oX F.subj;refine⟨?_,?_,?_⟩
 ·by_cases p1:o.field= []<;>by_cases p2:o.to= []<;>simp[p1,p2]<;>omega
 ·intro g hg
  simp only[List.mem_append,List.mem_cons,List.not_mem_nil,or_false]at hg;rcases hg with((((rfl|rfl|rfl)|hg)|hg)|rfl)|hg
  ·exact⟨acS,acS,acO,jk hsu⟩
  ·exact⟨acS,acS,acO,hro⟩
  ·exact⟨acS,acS,acO,jk hac⟩
  ·split at hg
   ·cases hg
   ·rename_i hne
    rw[List.mem_singleton.1 hg];exact⟨acS,acS,acO,jk (oX (kC F.field hne))⟩
  ·split at hg
   ·cases hg
   ·rename_i hne
    rw[List.mem_singleton.1 hg];exact⟨acS,acS,acO,jk (oX (kC F.to hne))⟩
  ·exact⟨acS,acS,acO,jk htk⟩
  ·obtain⟨h1,h2,h3⟩:=hcs g hg
   exact⟨acK,acK,h2,h3⟩
 ·rw[KB,List.map_append,List.nodup_append]
  refine⟨?_,hcd,?_⟩
  ·by_cases p1:o.field= []<;>by_cases p2:o.to= []<;>simp[p1,p2,wz,idT]
  ·intro a ha b hb e
   subst e;obtain⟨g,hg,rfl⟩:=List.mem_map.1 hb;have h3:=(hcs g hg).1;have hne:∀x∈([⟨1,idT,[idV o.subj]⟩,⟨1,[114,111,108,101],cX s.roles o.subj⟩,⟨2,[110,97,109,101],[idV (jM o.kind)]⟩]++(if o.field= []then []else [⟨2,[102,105,101,108,100],[idV o.field]⟩])++(if o.to= []then []else [⟨2,[116,111],[idV o.to]⟩])++ [⟨4,[110,111,119],[⟨4,s.tick,[]⟩]⟩]:List br),x.cat≠3:=by
    intro x hx;simp only[List.mem_append,List.mem_cons,List.not_mem_nil,or_false]at hx;rcases hx with(((rfl|rfl|rfl)|hx)|hx)|rfl
    ·simp
    ·simp
    ·simp
    ·split at hx
     ·cases hx
     ·rw[List.mem_singleton.1 hx];simp
    ·split at hx
     ·cases hx
     ·rw[List.mem_singleton.1 hx];simp
    ·simp
   obtain⟨x,hx,he⟩:=List.mem_map.1 ha;have:x.cat=g.cat:=congrArg Prod.fst he;exact hne x hx (by rw[this,h3])
def sL:aq→List AV
 |⟨tick,cs,rv,nt,ro,.mk pid set alg tgt rules kids obls,ver⟩=>[.i tick,gh cs,kj rv,lC nt,dY ro,.s pid,.b set,.i alg,aV tgt,.sl (rules.map aC) .no,.sl (fH kids) .no,aA obls,.i ver]
theorem u9(s:aq):cN s= .agg (sL s):=by obtain⟨tick,cs,rv,nt,ro,⟨pid,set,alg,tgt,rules,kids,obls⟩,ver⟩:=s;rfl
structure Stays (cs cs' :List aU) (id:Txt):Prop where
 len:cs'.length≤cs.length+1
 ids:∀c∈cs,∃d∈cs',d.id=c.id
 rest:∀c∈cs,c.id≠id→c∈cs'
abbrev aS:=Nat×Nat
def naM:aS:=(0,0)
def bn:aS:=(2,0)
def cH:aS:=(0,2)
def AK:aS:=(1,0)
def AJ:aS:=(0,1)
def oY:aS:=(1,1)
def uK:List aS:=[naM,bn,cH,AK,AJ,oY]
abbrev jK:=aS×List dN
def gN(m:aS):aS:=if m=bn then AK else if m=cH then AJ else m
def ot(a b:aS):aS:=(max a.1 b.1,max a.2 b.2)
def En(m:aS):aS:=(m.2,m.1)
def qM(j:aS):aS:=
 if j.2=2 then cH else if j.2=1∧1≤j.1 then oY else if j.2=1 then AJ else if j.1=2 then bn else if j.1=1 then AK else naM
def wL(l:List aS):aS:=l.foldl ot naM
def firstM(l:List aS):aS:=(l.find? fun m=>decide (m≠naM)).getD naM
def zk(m:aS):Bool:=decide (m=naM∨m=bn∨m=cH)
def oD:List aS→aS→aS
 | [],j=>j
 |m::r,j=>if zk m=false then oY else oD r (if j=naM then m else if m≠naM then oY else j)
def gV(alg:Int)(l:List aS):aS:=
 if alg=1 then qM (wL l)
 else if alg=2 then En (qM (En (wL l)))
 else if alg=3 then firstM l
 else if alg=4 then oD l naM
 else if alg=5 then(if bn∈l then bn else cH)
 else if alg=6 then(if cH∈l then cH else bn)
 else naM
def xq(gs:List br)(a:rM):List bt:=getD gs a.cat a.name
def nj(a b:bt):Option Bool:=
 if aW a=false∨aW b=false∨a.kind≠b.kind∨a.kind=1 then none
 else if a.kind=3∨a.kind=5 then some (Op.bytesLess a.s b.s)else some (decide (a.n<b.n))
def cR(m:ck)(v:bt):Option Bool:=
 if m.op=1 then(if v.kind=m.val.kind then some (eqV v m.val)else none)
 else if m.op=2 then nj v m.val else nj m.val v
def jV(gs:List br)(m:ck):Nat:=
 if xq gs m.attr= []∧m.attr.must=true then 1
 else if(xq gs m.attr).any fun v=>cR m v==some true then 2
 else if(xq gs m.attr).any fun v=>cR m v==none then 1 else 0
def Cr(gs:List br)(l:List ck):Nat:=l.foldl (fun a m=>min a (jV gs m)) 2
def zC(gs:List br)(l:List (List ck)):Nat:=l.foldl (fun a x=>max a (Cr gs x)) 0
def mM(gs:List br)(t:kr):Nat:=t.foldl (fun a x=>min a (zC gs x)) 2
structure jw where
 bag:List bt
 v:bt
 e:Int
def cE(b:Bool):bt:=⟨1,if b then 1 else 0,[]⟩
def iV(b:Bool):jw:=⟨[],cE b,0⟩
def isI(x:jw)(n:Int):Bool:=x.e==0 && eqV x.v ⟨1,n,[]⟩
abbrev w64(n:Int):Int:=IntKind.i64.wrap n
def J7(a b:Int):Bool:=decide (0<b) && decide (w64 (9223372036854775807 - b)<a)||decide (b<0) && decide (a<w64 (-9223372036854775808 - b))
def Mp(a b:Int):Bool:=decide (0<b) && decide (a<w64 (-9223372036854775808+b))||decide (b<0) && decide (w64 (9223372036854775807+b)<a)
def I9(a b:Int):Bool:=a== -1 && b== -9223372036854775808||b== -1 && a== -9223372036854775808||a !=0 && w64 ((w64 (a*b)).tdiv a) !=b
def nQ(e:Int):bt×Int:=(an,e)
def zL(o:Bool)(n:Int):bt×Int:=if o then nQ 3 else(⟨2,w64 n,[]⟩,0)
def gT(op:Int)(l:List bt):bt×Int:=
 if¬(6≤op∧op≤13)∨l.length≠(if op=11 then 1 else 2)∨(l.all aW)=false then nQ 1
 else
  let a:=l.getD 0 an;let b:=l.getD 1 an
  if op=6 then(if a.kind=b.kind then(cE (eqV a b),0)else nQ 2)
  else if op=7 then(match nj a b with
   |some x=>(cE x,0)
   |none=>nQ 2)
  else if op=8∨op=9∨op=10 then
   (if l.all fun v=>v.kind==2 then(if op=8 then zL (J7 a.n b.n) (a.n+b.n)else if op=9 then zL (Mp a.n b.n) (a.n - b.n)else zL (I9 a.n b.n) (a.n*b.n))else nQ 2)
  else if(l.all fun v=>v.kind==1)=false then nQ 2
  else if op=11 then(cE (a.n==0),0)
  else if op=12 then(cE (a.n==1 && b.n==1),0)
  else(cE (a.n==1||b.n==1),0)
def opsOf(op:Int):Nat:=if op=1∨op=2 then 0 else if op=3∨op=4∨op=11 then 1 else 2
def zZ(r:bt×Int):jw:=⟨[],r.1,r.2⟩
def lB(gs:List br)(n:aZ)(l:List jw):jw:=
 if n.op=1 then⟨[],n.val,0⟩
 else if n.op=2 then(if xq gs n.attr= []∧n.attr.must=true then⟨[],an,4⟩else⟨xq gs n.attr,an,0⟩)
 else if(n.op=12∨n.op=13)∧(l.any fun x=>isI x (n.op - 12))=true then iV (n.op==13)
 else match l.find? fun x=>x.e !=0 with
  |some x=>⟨[],an,x.e⟩
  |none=>
   if n.op=3 then(match (l.headD ⟨[],an,0⟩).bag with
    | [v]=>⟨[],v,0⟩
    |_=>⟨[],an,4⟩)
   else if n.op=4 then⟨[],⟨2,(l.headD ⟨[],an,0⟩).bag.length,[]⟩,0⟩
   else if n.op=5 then iV ((l.headD ⟨[],an,0⟩).bag.any fun v=>eqV v (l.getD 1 ⟨[],an,0⟩).v)
   else zZ (gT n.op (l.map (·.v)))
def zj(gs:List br)(st:List jw)(n:aZ):List jw:=st.take (st.length - opsOf n.op)++ [lB gs n (st.drop (st.length - opsOf n.op))]
def vJ(gs:List br)(l:List aZ):jw:=if l= []then zZ (nQ 1)else(l.foldl (zj gs) []).headD (zZ (nQ 1))
def qt(gs:List br)(l:List aZ):Nat:=if l.isEmpty then 2 else if isI (vJ gs l) 1 then 2 else if isI (vJ gs l) 0 then 0 else 1
def eN(l:List dN)(m:aS):List dN:=l.filter fun o=>o.on==1 && m==bn||o.on==2 && m==cH
def nh(r:fy)(t c:Nat):jK:=
 let m:=if r.deny then cH else bn
 if t=0∨t=2∧c=0 then(naM,[])else if t=1∨c=1 then(gN m,[])else(m,eN r.obls m)
def ie(gs:List br)(r:fy):jK:=nh r (mM gs r.tgt) (qt gs r.cond)
def eP(alg:Int)(m:aS)(parts:List jK):List dN:=
 if alg=3 then((parts.find? fun x=>x.1==m).map (·.2)).getD []else((parts.filter fun x=>x.1==m).map (·.2)).flatten
def pS(alg:Int)(obls:List dN)(t:Nat)(parts:List jK):jK:=
 let m:=gV alg (parts.map (·.1))
 if t=0 then(naM,[])else if t=1 then(gN m,[])else if m≠bn∧m≠cH then(m,[])
 else(m,eP alg m parts++eN obls m)
mutual
def fG(gs:List br):bV→jK
 |.mk id set alg tgt rules kids obls=>if mM gs tgt=0 then(naM,[])else pS alg obls (mM gs tgt) (rules.map (ie gs)++mG gs kids)
def mG(gs:List br):List bV→List jK
 | []=>[]
 |k::r=>fG gs k::mG gs r
end
theorem sZ(gs:List br):∀l:List bV,mG gs l=l.map (fG gs)
 | []=>acY
 |k::r=>by simp[mG,sZ gs r]
def sw:bV→kr
 |.mk _ _ _ t _ _ _=>t
def ou:kr→Option ck
 | []=>none
 | [l]::r=>match l.find? fun m=>m.op==1 && !m.attr.must with
  |some m=>some m
  |none=>ou r
 |_::r=>ou r
def sr(gs:List br)(p:bV):Bool:=match ou (sw p)with
 |none=>true
 |some m=>decide (jV gs m≠0)
mutual
def lD(gs:List br):bV→bV
 |.mk id set alg tgt rules kids obls=> .mk id set alg tgt rules (kg gs kids) obls
def kg(gs:List br):List bV→List bV
 | []=>[]
 |k::r=>if sr gs k then lD gs k::kg gs r else kg gs r
end
end Go.Bf
namespace Go.Bf
open Go Go.Ab
variable {n:Int}{r t:Txt}
def jh:Nat→Nat→Txt
 |0,_=>[]
 |f+1,u=>if u<128 then [UInt8.ofNat u]else UInt8.ofNat (u % 128+128)::jh f (u / 128)
def zig(n:Int):Nat:=if 0≤n then 2*n.toNat else 2*(-n).toNat - 1
def dP(n:Int):Txt:=jh 10 (zig n)
def bN(s:Txt):Txt:=dP s.length++s
def gr(v:bt):Txt:=dP v.kind++(if v.kind=3∨v.kind=5 then bN v.s else dP v.n)
def iL(o:OpD):Txt:=dP o.kind++(bN o.subj++(bN o.case++(bN o.field++(bN o.to++(gr o.val++(dP o.review++(bN o.text++(bN o.reason++gr (cE o.glass)))))))))
theorem Cc{a b:Nat}(ha:a<256)(hb:b<256)(h:UInt8.ofNat a=UInt8.ofNat b):a=b:=by have:=congrArg UInt8.toNat h;simp only[UInt8.toNat_ofNat']at this;omega
theorem HK:∀(f u v:Nat) (x y:Txt),u<128 ^ f→v<128 ^ f→jh f u++x=jh f v++y→u=v∧x=y
 |0,u,v,x,y,hu,hv,h=>by simp_all
 |f+1,u,v,x,y,hu,hv,h=>by
  simp only[jh]at h
  by_cases a:u<128
  ·by_cases b:v<128
   ·rw[if_pos a,if_pos b]at h
    simp only[List.singleton_append,List.cons.injEq]at h;exact⟨Cc acK acK h.1,h.2⟩
   ·rw[if_pos a,if_neg b]at h
    exact ain
  ·by_cases b:v<128
   ·rw[if_neg a,if_pos b]at h
    exact ain
   ·rw[if_neg a,if_neg b]at h
    simp only[List.cons_append,List.cons.injEq]at h;have h1:=Cc acK acK h.1;obtain⟨h2,h3⟩:=HK f (u / 128) (v / 128) x y acK acK h.2;exact⟨acK,h3⟩
theorem zz(h:i64 n):zig n<128 ^ 10:=by grind [i64,zig,Nat]
theorem OS{a b:Int}(h:zig a=zig b):a=b:=by grind [zig]
theorem Ob{a b:Int}{x y:Txt}(ha:i64 a)(hb:i64 b)(h:dP a++x=dP b++y):a=b∧x=y:=by
 obtain⟨h1,h2⟩:=HK 10 _ _ _ _ (zz ha) (zz hb) h
 grind [OS]
structure WC (v:bt):Prop where
 kind:i64 v.kind
 n:i64 v.n
 s:v.s.length≤1000000
 one:(v.kind=3∨v.kind=5→v.n=0)∧(¬(v.kind=3∨v.kind=5)→v.s= [])
structure OpC (o:OpD):Prop where
 kind:i64 o.kind
 subj:o.subj.length≤1000000
 case:o.case.length≤1000000
 field:o.field.length≤1000000
 to:o.to.length≤1000000
 val:WC o.val
 review:i64 o.review
 text:o.text.length≤1000000
 reason:o.reason.length≤1000000
structure RS where
 b:Txt
 at_:Nat
 bad:Bool
variable {s:RS}
def unzig(u:Nat):Int:=if u % 2=1 then -((u / 2:Nat):Int) - 1 else((u / 2:Nat):Int)
def iU:Nat→Nat→Nat→Txt→Int×Nat
 |0,_,_,_=>(0,0)
 |_+1,_,_,[]=>(0,0)
 |f+1,i,u,c::r=>
  if(i=9∧1<c.toNat)∨(0<i∧c.toNat=0)then(0,0)
  else if c.toNat<128 then(unzig (u+c.toNat*128 ^ i),i+1)
  else iU f (i+1) (u+c.toNat % 128*128 ^ i) r
def fk(s:RS)(a:Nat):RS:=if s.bad=false∧a≤s.at_ then {s with at_:=a,bad:=true} else s
def rIn(s:RS)(lo hi:Int):Int×RS:=
 if s.bad then(0,s)else
 let x:=iU 10 0 0 (s.b.drop s.at_)
 if x.2=0∨x.1<lo∨hi<x.1 then(0,fk s s.at_)else(x.1,{s with at_:=s.at_+x.2})
def cj(s:RS):Int×RS:=rIn s (-9223372036854775808) 9223372036854775807
def aM(s:RS)(most:Int):Txt×RS:=
 let x:=rIn s 0 most
 if x.2.bad∨(x.2.b.length:Int) - x.2.at_<x.1 then([],fk x.2 s.at_)else((x.2.b.drop x.2.at_).take x.1.toNat,{x.2 with at_:=x.2.at_+x.1.toNat})
def ja(k:Int):Bool:=k==3||k==5
def iC(s:RS):bt×RS:=
 let x:=rIn s 1 5
 let y:bt×RS:=if ja x.1 then(let t:=aM x.2 64;(⟨x.1,0,t.1⟩,t.2))else(let t:=cj x.2;(⟨x.1,t.1,[]⟩,t.2))
 if y.2.bad then(an,y.2)else if aW y.1=false then(an,fk y.2 s.at_)else y
def jH(s:RS):bt×RS:=
 if s.at_<s.b.length∧s.b.getD s.at_ 0=0 then(an,(rIn (rIn s 0 0).2 0 0).2)else iC s
def rOp(b:Txt):OpD×RS:=
 let k:=cj ⟨b,0,false⟩
 let s1:=aM k.2 16
 let s2:=aM s1.2 16
 let s3:=aM s2.2 16
 let s4:=aM s3.2 16
 let v:=jH s4.2
 let r:=cj v.2
 let t:=aM r.2 4096
 let w:=aM t.2 64
 let g:=iC w.2
 (⟨k.1,s1.1,s2.1,s3.1,s4.1,v.1,r.1,t.1,w.1,eqV g.1 (cE true)⟩,g.2)
def nW(s:RS):Bool:=decide (s.b.length≤s.at_) && !s.bad
def ld(b:Txt):Option OpD:=if nW (rOp b).2 && dD (rOp b).1 && decide (iL (rOp b).1=b)then some (rOp b).1 else none
theorem JM(n:Int):unzig (zig n)=n:=by grind [unzig,zig]
theorem zA(h:i64 n):zig n<18446744073709551616:=by grind [i64,zig]
theorem HJ:∀(f v:Nat),0<f→jh f v≠ []
 |0,_,h=>acK
 |f+1,v,_=>by grind [jh]
theorem GZ:∀(f i u v:Nat) (r:Txt),f+i=10→0<f→v<128 ^ f→u<128 ^ i→u+v*128 ^ i<18446744073709551616→(0<i→0<v)→
  iU f i u (jh f v++r)=(unzig (u+v*128 ^ i),i+(jh f v).length)
 |0,i,u,v,r,_,h,_,_,_,_=>acK
 |f+1,i,u,v,r,hfi,_,hv,hu,ht,h0=>by
  have p9:(128:Nat) ^ 9=9223372036854775808:=acN;have hlt:∀n,n<256→(UInt8.ofNat n).toNat=n:=fun n hn=>by rw[UInt8.toNat_ofNat'];omega
  by_cases hs:v<128
  ·have e:jh (f+1) v= [UInt8.ofNat v]:=by simp_all [jh,if_pos]
   rw[e];simp only[List.singleton_append,iU,hlt v acK,List.length_singleton];have hn:¬((i=9∧1<v)∨(0<i∧v=0)):=by grind
   rw[if_neg hn,if_pos hs]
  ·have e:jh (f+1) v=UInt8.ofNat (v % 128+128)::jh f (v / 128):=by simp_all [jh,if_neg]
   rw[e];simp only[List.cons_append,iU,hlt (v % 128+128) acK,List.length_cons];have hi9:i≠9:=by grind
   have hn:¬((i=9∧1<v % 128+128)∨(0<i∧v % 128+128=0)):=by omega
   rw[if_neg hn,if_neg acK];have hp:(128:Nat) ^ (i+1)=128 ^ i*128:=acY;have hsum:u+(v % 128+128) % 128*128 ^ i+v / 128*128 ^ (i+1)=u+v*128 ^ i:=by
    have h1:(v % 128+128) % 128=v % 128:=acK;rw[h1,hp,Nat.mul_comm (128 ^ i) 128,←Nat.mul_assoc,Nat.add_assoc,←Nat.add_mul]
    congr 2
    omega
   have hf:0<f:=by omega
   have hv' :v / 128<128 ^ f:=by omega
   have hu' :u+(v % 128+128) % 128*128 ^ i<128 ^ (i+1):=by have h1:(v % 128+128) % 128≤127:=acK;have h2:=Nat.mul_le_mul_right (128 ^ i) h1;rw[hp];omega
   rw[GZ f (i+1) _ (v / 128) r acK hf hv' hu' acK acK,hsum]
   congr 1
   omega
theorem Od(h:i64 n)(r:Txt):iU 10 0 0 (dP n++r)=(n,(dP n).length):=by
 have:=GZ 10 0 0 (zig n) r rfl acN (zz h) acN (by grind [zA]) acK
 simp only[Nat.pow_zero,Nat.mul_one,Nat.zero_add]at this;unfold dP;rw[this,JM]
def rAt(s:RS)(x:Txt):Prop:=s.bad=false∧s.at_≤s.b.length∧s.b.drop s.at_=x
def rOn(s:RS)(n:Nat):RS:={s with at_:=s.at_+n}
theorem rAt.on{x y:Txt}(h:rAt s (x++y)):rAt (rOn s x.length) y:=by
 obtain⟨h1,h2,h3⟩:=h;have hl:=congrArg List.length h3;refine⟨h1,by grind [rOn],?_⟩
 grind [rOn,List.drop_drop,List.drop_left]
theorem yc{lo hi:Int}(h:rAt s (dP n++r))(hn:i64 n)(h1:lo≤n)(h2:n≤hi):rIn s lo hi=(n,rOn s (dP n).length):=by
 unfold rIn;have hl:0<(dP n).length:=List.length_pos_iff.2 (HJ 10 _ acN);rw[if_neg (by rw[h.1];simp),h.2.2,Od hn]
 rw[if_neg acK];rfl
theorem BQ(h:rAt s (dP n++r))(hn:i64 n):cj s=(n,rOn s (dP n).length):=yc h hn hn.1 hn.2
theorem mQ{most:Nat}(h:rAt s (bN t++r))(ht:t.length≤most)(hm:most≤100000):aM s most=(t,rOn s (bN t).length):=by
 unfold bN at h⊢;rw[List.append_assoc]at h;have h6:i64 (t.length:Int):=⟨acK,acK⟩;have ha:=h.on;unfold aM;rw[yc (lo:=0) (hi:=most) h h6 acK acK];have hl:=congrArg List.length ha.2.2;have hle:=ha.2.1;rw[if_neg (by rw[ha.1];grind),ha.2.2]
 simp[rOn,acE,Nat.add_assoc]
theorem pN{v:bt}(h:aW v=true):1≤v.kind∧v.kind≤5:=by grind [aW]
end Go.Bf
namespace Go.Bf
open Go Go.Ab Go.Proofs.YteaaeelhjnhaaaaGreatDoor
variable {v:bt}{s:aq}{r t:Txt}{k:Nat}{c:aU}{o:OpD}{gs:List br}{a:List jK}
theorem tu{n:Int}(h1: -1000000≤n)(h2:n≤1000000):i64 n:=⟨acK,acK⟩
theorem vi(h:aW v=true)(hk:v.kind=3∨v.kind=5):v.n=0∧v.s.length≤64:=by
 unfold aW at h;rcases hk with e|e
 ·grind
 ·rw[if_neg acK,if_neg acK,if_neg acK,if_neg acK,if_pos e]at h
  simp only[aK,Bool.and_eq_true,beq_iff_eq,decide_eq_true_eq]at h;omega
theorem Bh(h:aW v=true)(hk:¬(v.kind=3∨v.kind=5)):v.s= []:=by
 unfold aW at h
 grind
theorem HI{s:RS}(h:rAt s (gr v++r))(hv:aW v=true)(hn:i64 v.n):iC s=(v,rOn s (gr v).length):=by
 obtain⟨hk1,hk2⟩:=pN hv;unfold gr at h⊢;rw[List.append_assoc]at h;have ha:=h.on;unfold iC;rw[yc (lo:=1) (hi:=5) h (by grind [tu]) hk1 hk2]
 by_cases e:v.kind=3∨v.kind=5
 ·obtain⟨e1,e2⟩:=vi hv e
  rw[if_pos e]at ha⊢;have ht:ja v.kind=true:=by grind [ja]
  have hx:=mQ (most:=64) ha e2 acK;simp only[ht,if_true];rw[show((64:Nat):Int)=64 from rfl]at hx
  rw[hx];have ev:(⟨v.kind,0,v.s⟩:bt)=v:=by rw[←e1]
  exact aiH
 ·have e1:=Bh hv e
  rw[if_neg e]at ha⊢;have ht:ja v.kind=false:=by simp_all [ja,not_or]
  have hx:=BQ ha hn;simp only[ht,Bool.false_eq_true,if_false];rw[hx];have ev:(⟨v.kind,v.n,[]⟩:bt)=v:=by rw[←e1]
  exact aiH
theorem DA:dP 0= [0]:=acY
theorem LA{k:Int}(h1:1≤k)(h2:k≤5):∃c,dP k= [c]∧c≠0:=by
 have:k=1∨k=2∨k=3∨k=4∨k=5:=acK;rcases this with rfl|rfl|rfl|rfl|rfl
 ·exact⟨2,acY,acN⟩
 ·exact⟨4,acY,acN⟩
 ·exact⟨6,acY,acN⟩
 ·exact⟨8,acY,acN⟩
 ·exact⟨10,acY,acN⟩
theorem rAt.head{s:RS}{c:UInt8}{x:Txt}(h:rAt s (c::x)):s.at_<s.b.length∧s.b.getD s.at_ 0=c:=by
 have hl:=congrArg List.length h.2.2;rw[List.length_drop,List.length_cons]at hl;refine⟨acK,?_⟩;have:=congrArg (fun l=>l[0]?) h.2.2
 simp only[List.getElem?_drop,Nat.add_zero,List.getElem?_cons_zero]at this;rw[List.getD_eq_getElem?_getD,this];rfl
theorem I8{s:RS}(h:rAt s (gr v++r))(hv:v=an∨aW v=true)(hn:i64 v.n):jH s=(v,rOn s (gr v).length):=by
 rcases hv with rfl|hv
 ·have e:gr an= [0,0]:=by rfl
  rw[e]at h⊢;have hh:=rAt.head (c:=0) (x:=0::r) h;unfold jH;rw[if_pos ⟨hh.1,hh.2⟩];have h' :rAt s (dP 0++(dP 0++r)):=by grind [DA]
  rw[yc h' (by grind [tu]) (Int.le_refl 0) (Int.le_refl 0)]
  rw[yc h'.on (by grind [tu]) (Int.le_refl 0) (Int.le_refl 0)]
  simp[DA,rOn,Nat.add_assoc]
 ·obtain⟨hk1,hk2⟩:=pN hv
  obtain⟨c,e,hc⟩:=LA hk1 hk2;have hh:rAt s (c::((if v.kind=3∨v.kind=5 then bN v.s else dP v.n)++r)):=by grind [gr]
  unfold jH;rw[if_neg (by grind [rAt.head])]
  exact HI h hv hn
theorem uv(h:gM t=true):t.length≤16:=by
 unfold gM at h;simp only[Bool.or_eq_true,beq_iff_eq]at h;rcases h with rfl|h
 ·simp
 simp_all [aK,Bool.and_eq_true,decide_eq_true_eq]
structure OpF (o:OpD):Prop where
 subj:o.subj.length≤16
 case:o.case.length≤16
 field:o.field.length≤16
 to:o.to.length≤16
 val:o.val=an∨aW o.val=true
 text:o.text.length≤4096
 reason:o.reason.length≤64
theorem nS(h:dD o=true):OpF o:=by
 simp only[dD,Bool.and_eq_true,decide_eq_true_eq]at h;obtain⟨⟨⟨⟨⟨⟨⟨h1,h2⟩,h3⟩,h4⟩,h5⟩,h6⟩,h7⟩,h8⟩:=h;simp only[aK,Bool.and_eq_true,decide_eq_true_eq]at h1;refine⟨h1.2,uv h4,uv h5,uv h6,?_,h3,?_⟩
 ·simp only[Bool.or_eq_true]at h7
  rcases h7 with h7|h7
  ·left
   generalize o.val=v at h7;obtain⟨k,n,s⟩:=v;simp only[eqV,an,Bool.and_eq_true,beq_iff_eq]at h7;obtain⟨rfl,rfl,rfl⟩:=h7;rfl
  grind
 ·unfold kU at h2
  grind
theorem El(b:Bool):aW (cE b)=true:=by cases b<;>rfl
theorem Mx(b:Bool):eqV (cE b) (cE true)=b:=by cases b<;>rfl
theorem Rs(hf:OpF o)(h64:nO o):rOp (iL o)=(o,⟨iL o,(iL o).length,false⟩):=by
 have h0:rAt ⟨iL o,0,false⟩ (iL o):=⟨rfl,Nat.zero_le _,rfl⟩;obtain⟨k1,k2,k3,k4⟩:=h64;unfold iL at h0;have e0:=BQ h0 k1;have h1:=h0.on;have e1:=mQ (most:=16) h1 hf.subj acK;have h2:=h1.on;have e2:=mQ (most:=16) h2 hf.case acK;have h3:=h2.on;have e3:=mQ (most:=16) h3 hf.field acK;have h4:=h3.on;have e4:=mQ (most:=16) h4 hf.to acK;have h5:=h4.on;have e5:=I8 h5 hf.val k3;have h6:=h5.on;have e6:=BQ h6 k4;have h7:=h6.on;have e7:=mQ (most:=4096) h7 hf.text acK;have h8:=h7.on;have e8:=mQ (most:=64) h8 hf.reason acK;have h9:=h8.on;have h9' :=h9;rw[←List.append_nil (gr (cE o.glass))]at h9';have e9:=HI h9' (El _) (by cases o.glass<;>exact⟨acN,acN⟩)
 have h10:=h9'.on;simp only[List.append_nil]at e9 h10;simp only[show((16:Nat):Int)=16 from rfl,show((4096:Nat):Int)=4096 from rfl,show((64:Nat):Int)=64 from rfl]at e1 e2 e3 e4 e7 e8
 have hend:=congrArg List.length h10.2.2;rw[List.length_drop,List.length_nil]at hend;have hle:=h10.2.1;unfold rOp;rw[show iL o=dP o.kind++(bN o.subj++(bN o.case++(bN o.field++(bN o.to++(gr o.val++(dP o.review++(bN o.text++(bN o.reason++gr (cE o.glass)))))))))from rfl]
 simp only[e0,e1,e2,e3,e4,e5,e6,e7,e8,e9,Mx];simp only[rOn]at hend hle⊢;refine Prod.ext rfl ?_;simp only[RS.mk.injEq,and_true,true_and];omega
theorem NK(hf:dD o=true)(h64:nO o):ld (iL o)=some o:=by grind [ld,Rs,nS,nW]
theorem get_some{b:Txt}(h:ld b=some o):dD o=true∧iL o=b:=by
 unfold ld at h
 grind
theorem tf{α:Type}(f:α→Nat):∀(l:List α) (a:Nat),l.foldl (fun a x=>min a (f x)) a≤a∧∀x∈l,l.foldl (fun a x=>min a (f x)) a≤f x
 | [],a=>acS
 |y::l,a=>by
  obtain⟨h1,h2⟩:=tf f l (min a (f y))
  grind
theorem NV:∀ {t:kr} {m:ck},ou t=some m→jV gs m=0→mM gs t=0:=by
 intro t;have main:∀(t:kr) (m:ck),ou t=some m→jV gs m=0→∃x∈t,zC gs x=0:=by
  intro t
  induction t with
  |nil=>intro m h;cases h
  |cons x r ih=>
   intro m h h0
   match x,h with
   | [],h=>obtain⟨y,hy,e⟩:=ih m h h0;exact⟨y,List.mem_cons_of_mem _ hy,e⟩
   | [l],h=>
    simp only[ou]at h;cases hf:l.find? fun m=>m.op==1 && !m.attr.must with
    |none=>rw[hf]at h;obtain⟨y,hy,e⟩:=ih m h h0;exact⟨y,List.mem_cons_of_mem _ hy,e⟩
    |some k=>
     rw[hf]at h;cases h;have hm:=List.mem_of_find?_eq_some hf;have hall:Cr gs l=0:=by have:=(tf (jV gs) l 2).2 _ hm;rw[h0]at this;exact Nat.le_zero.1 this
     exact⟨[l],List.mem_cons_self ..,by grind [zC]⟩
   |a::b::c,h=>obtain⟨y,hy,e⟩:=ih m h h0;exact⟨y,List.mem_cons_of_mem _ hy,e⟩
 intro m h h0;obtain⟨x,hx,e⟩:=main t m h h0;have:=(tf (zC gs) t 2).2 x hx;rw[e]at this;exact Nat.le_zero.1 this
theorem N8{p:bV}(h:sr gs p=false):fG gs p=(naM,[]):=by
 obtain⟨id,set,alg,tgt,rules,kids,obls⟩:=p;unfold sr at h;simp only[sw]at h;cases hk:ou tgt with
 |none=>grind
 |some m=>simp_all [jV,fG,NV,if_true]
theorem NS(j:aS):ot j naM=j:=by simp[ot,naM]
inductive Drop:List jK→List jK→Prop
 |nil:Drop [] []
 |keep (x:jK) {a b:List jK} (h:Drop a b):Drop (x::a) (x::b)
 |skip {a b:List jK} (h:Drop a b):Drop a ((naM,[])::b)
theorem Drop.app{b c:List jK}(h:Drop a b):Drop (c++a) (c++b):=by
 induction c with
 |nil=>exact h
 |cons x c ih=>grind [keep]
theorem Drop.join{b:List jK}(h:Drop a b):∀j,(a.map (·.1)).foldl ot j=(b.map (·.1)).foldl ot j:=by
 induction h with
 |nil=>simp
 |keep x h ih=>grind
 |skip h ih=>grind [NS]
theorem Drop.first{b:List jK}(h:Drop a b):firstM (a.map (·.1))=firstM (b.map (·.1)):=by
 unfold firstM
 congr 1
 induction h with
 |nil=>rfl
 |keep x h ih=>grind
 |skip h ih=>simpa using ih
theorem Drop.only{b:List jK}(h:Drop a b):∀j,oD (a.map (·.1)) j=oD (b.map (·.1)) j:=by
 induction h with
 |nil=>simp
 |keep x h ih=>grind [oD]
 |skip h ih=>
  intro j;have hs:zk naM=true:=acN;simp only[List.map_cons,oD,hs,Bool.true_eq_false,if_false];rw[←ih]
  congr 1
  simp
theorem Drop.mem{b:List jK}(h:Drop a b){m:aS}(hm:m≠naM):m∈a.map (·.1)↔m∈b.map (·.1):=by exact ahS
theorem Drop.comb{b:List jK}(h:Drop a b)(alg:Int):gV alg (a.map (·.1))=gV alg (b.map (·.1)):=by unfold gV wL;rw[h.join,h.first,h.only];simp only[h.mem (show bn≠naM by decide),h.mem (show cH≠naM by decide)]
theorem Drop.parts{b:List jK}(h:Drop a b)(alg:Int){m:aS}(hm:m≠naM):eP alg m a=eP alg m b:=by
 have h1:(a.find? fun x=>x.1==m)=b.find? fun x=>x.1==m:=by exact ahS
 have h2:(a.filter fun x=>x.1==m)=b.filter fun x=>x.1==m:=by clear h1;exact ahS
 simp only[eP,h1,h2]
theorem Drop.pS{b:List jK}(h:Drop a b)(alg:Int)(obls:List dN)(t:Nat):pS alg obls t a=pS alg obls t b:=by
 unfold Go.Bf.pS;simp only[h.comb alg]
 by_cases hp:gV alg (b.map (·.1))=bn
 ·rw[hp,h.parts alg acN]
 ·by_cases hd:gV alg (b.map (·.1))=cH
  ·rw[hd,h.parts alg acN]
  grind
mutual
theorem AT(gs:List br):∀p:bV,fG gs (lD gs p)=fG gs p
 |.mk id set alg tgt rules kids obls=>by
  simp only[lD,fG]
  by_cases h:mM gs tgt=0
  ·simp only[h,if_true]
  ·simp only[h,if_false]
   exact(AU gs kids).app.pS alg obls _
theorem AU(gs:List br):∀l:List bV,Drop (mG gs (kg gs l)) (mG gs l)
 | []=>by simp only[kg,mG];exact .nil
 |k::r=>by
  have ih1:=AT gs k;have ih2:=AU gs r;simp only[kg,mG]
  by_cases h:sr gs k=true
  ·simp only[h,if_true,mG,ih1]
   exact .keep _ ih2
  ·have h:sr gs k=false:=by simpa using h
   simp only[h,Bool.false_eq_true,if_false,N8 h];exact .skip ih2
end
structure lN where
 err:Int
 mark:aS
 glass:Bool
 val:bt
 hidden:Bool
 at_:Int
structure qc where
 op:OpD
 version:Int
 mark:aS
 glass:Bool
 obls:List dN
def OR:OpD:=⟨0,[],[],[],[],an,0,[],[],false⟩
def wZ:qc:=⟨OR,0,naM,false,[]⟩
def BP:Txt:=[103,108,97,115,115]
def qN(s:aq)(r:qe):Bool:=r.isOpen && decide (100≤s.tick - r.tick)
def Lh(s:aq)(subj:Txt):Bool:=s.reviews.any fun r=>r.subj==subj && qN s r
def sP(s:aq)(o:OpD)(m:aS):Bool:=o.glass && (m==cH||m==naM) && xY s.roles ⟨o.subj,BP⟩ && !Lh s o.subj
def A5(s:aq)(o:OpD)(reason:Txt):qe:=⟨(s.reviews.length:Int)+1,s.tick,o.subj,o.case,jM o.kind,reason,true⟩
def cg(s:aq)(o:OpD)(reason:Txt):aq:={s with reviews:=s.reviews++ [A5 s o reason]}
def jR(l:List dN)(field:Txt):Bool:=l.any fun x=>x.kind==2 && x.arg==field
def iJ(cs:List aU)(id:Txt):Nat:=cs.findIdx fun c=>c.id==id
def iQ(s:aq)(o:OpD)(what:Txt):aq:=
 if iJ s.cases o.case<s.cases.length∧o.kind≠6 then {s with cases:=s.cases.modify (iJ s.cases o.case) fun c=>jo s c o.subj what} else s
def fF(o:OpD)(done:Bool)(s:aq)(x:dN):aq:=
 if x.kind=1∧done=true then iQ s o x.arg
 else if x.kind=3 then cg s o x.arg
 else if x.kind=4 then {s with notices:=s.notices++ [⟨s.tick,o.case,x.arg⟩]}
 else s
def dw(s:aq)(o:OpD)(l:List dN)(done:Bool):aq:=l.foldl (fF o done) s
def rR(s:aq):Bool:=decide (256<s.reviews.length)||decide (256<s.notices.length)||s.cases.any fun c=>decide (256<c.log.length)
def gO(s:aq)(o:OpD):jK:=fG (fJ s o) s.policy
def j6(s:aq)(o:OpD):Int×Int:=if bM s o=0∧o.kind=7 then((aQ o.text).2.1,(aQ o.text).2.2)else(bM s o,0)
def fK(s:aq)(o:OpD):Bool:=sP s o (gO s o).1
def sS(s:aq)(o:OpD):Bool:=decide ((gO s o).1=bn)||fK s o
def cW(s:aq)(o:OpD):aq:=
 let s1:=if fK s o then cg s o o.reason else s
 dw (if sS s o then dU aQ s1 o else s1) o (gO s o).2 (sS s o)
def pF(s:aq)(o:OpD):lN:=
 ⟨if sS s o then 0 else 12,(gO s o).1,fK s o,if sS s o && o.kind==2 && !jR (gO s o).2 o.field then eO (bz s.cases o.case).fields o.field else an,sS s o && o.kind==2 && jR (gO s o).2 o.field,0⟩
def bA(s:aq)(o:OpD):aq×lN×qc×Int:=
 if(j6 s o).1≠0 then(s,⟨(j6 s o).1,naM,false,an,false,(j6 s o).2⟩,wZ,(j6 s o).1)
 else if rR (cW s o)then(s,⟨6,naM,false,an,false,0⟩,wZ,6)
 else(cW s o,pF s o,⟨o,s.version,(gO s o).1,fK s o,(gO s o).2⟩,0)
theorem yu(s:aq)(o:OpD)(w:Txt):(iQ s o w).tick=s.tick∧(iQ s o w).roles=s.roles∧(iQ s o w).policy=s.policy∧(iQ s o w).version=s.version∧(iQ s o w).reviews=s.reviews∧(iQ s o w).notices=s.notices:=by grind [iQ]
theorem CN(o:OpD)(done:Bool)(s:aq)(x:dN):(fF o done s x).tick=s.tick∧(fF o done s x).roles=s.roles∧(fF o done s x).policy=s.policy∧(fF o done s x).version=s.version:=by
 unfold fF;split
 ·grind [yu]
 ·split
  ·exact⟨rfl,rfl,rfl,rfl⟩
  grind
theorem EW(o:OpD)(done:Bool):∀(l:List dN) (s:aq),(dw s o l done).tick=s.tick∧(dw s o l done).roles=s.roles∧(dw s o l done).policy=s.policy∧(dw s o l done).version=s.version
 | [],s=>⟨rfl,rfl,rfl,rfl⟩
 |x::l,s=>by obtain⟨a1,a2,a3,a4⟩:=CN o done s x;obtain⟨b1,b2,b3,b4⟩:=EW o done l (fF o done s x);exact⟨b1.trans a1,b2.trans a2,b3.trans a3,b4.trans a4⟩
def gL(o:OpD)(a b:List qe):Prop:=∃c,b=a++c∧∀i (h:i<c.length),c[i].id=((a.length+i+1:Nat):Int)∧c[i].isOpen=true∧c[i].subj=o.subj
theorem gL.refl(o:OpD)(a:List qe):gL o a a:=⟨[],acS,fun i h=>adB⟩
theorem gL.trans{a b c:List qe}(h1:gL o a b)(h2:gL o b c):gL o a c:=by
 obtain⟨x,rfl,hx⟩:=h1;obtain⟨y,rfl,hy⟩:=h2;refine⟨x++y,acS,fun i h=>?_⟩
 grind
theorem gL.open(s:aq)(o:OpD)(w:Txt):gL o s.reviews (cg s o w).reviews:=⟨[A5 s o w],rfl,fun i h=>by have:i=0:=acL;subst this;exact⟨acY,rfl,rfl⟩⟩
theorem gL.duties(o:OpD)(done:Bool):∀(l:List dN) (s:aq),gL o s.reviews (dw s o l done).reviews
 | [],s=> .refl o _
 |x::l,s=>by
  have:gL o s.reviews (fF o done s x).reviews:=by
   unfold fF;split
   ·grind [yu,refl]
   ·split
    ·exact .open s o _
    grind [refl]
  exact this.trans (gL.duties o done l _)
structure Ge (c:aU):Prop where
 id:aK c.id=true
 owner:aK c.owner=true
 state:c.state∈pI
 asc:Ex c.fields
 nfields:c.fields.length≤16
 field:∀f∈c.fields,aK f.name=true∧aW f.val=true∧eqV f.val an=false
 log1:1≤c.log.length
 actor:∀x∈c.log,aK x.actor=true∧i64 x.tick
theorem uj.w(h:uj c):Ge c:=⟨h.id,h.owner,h.state,h.asc,h.nfields,h.field,h.log1,h.actor⟩
theorem Ge.ok(h:Ge c)(hl:c.log.length≤256):uj c:=⟨h.id,h.owner,h.state,h.asc,h.nfields,h.field,h.log1,hl,h.actor⟩
structure lO (k:Nat) (s:aq):Prop where
 tick:0≤s.tick∧s.tick≤1099511627776
 asc:Asc s.cases
 ncases:s.cases.length≤64
 case:∀c∈s.cases,Ge c
 roles:s.roles.length≤64
 role:∀r∈s.roles,aK r.subj=true∧aK r.role=true
 pol:gC s.policy=0
 ver:0≤s.version∧s.version≤k
theorem di.w(h:di k s):lO k s:=⟨h.tick,h.asc,h.ncases,fun c hc=>(h.case c hc).w,h.roles,h.role,h.pol,h.ver⟩
theorem lO.ok(h:lO k s)(ho:rR s=false):di k s:=by
 unfold rR at ho;simp only[Bool.or_eq_false_iff,decide_eq_false_iff_not]at ho;refine⟨h.tick,h.asc,h.ncases,fun c hc=>(h.case c hc).ok ?_,acK,acK,h.roles,h.role,h.pol,h.ver⟩
 grind
theorem F5(o:OpD)(w:Txt)(h:lO k s):lO k (cg s o w):={h with}
theorem F4(hn:aK o.subj=true)(w:Txt)(h:lO k s):lO k (iQ s o w):=by
 unfold iQ;split
 ·refine {h with asc:=BC (kE fun x=>rfl) h.asc,ncases:=by simpa using h.ncases,case:= ?_}
  intro d hd;rcases mem_modify hd with hd|⟨hi,rfl⟩
  ·exact h.case d hd
  ·have hc:=h.case _ (acF hi)
   refine⟨hc.id,hc.owner,hc.state,hc.asc,hc.nfields,hc.field,agQ,?_⟩;intro x hx;simp only[jo,List.mem_append,List.mem_singleton]at hx;rcases hx with hx|rfl
   ·exact hc.actor x hx
   ·exact⟨hn,by have:=h.tick;constructor<;>simp only<;>omega⟩
 omega
theorem F3(hn:aK o.subj=true)(done:Bool)(x:dN)(h:lO k s):lO k (fF o done s x):=by
 unfold fF;split
 ·grind [F4]
 ·split
  ·grind [F5]
  ·split
   ·exact {h with}
   omega
theorem tY{k:Nat}{o:OpD}(hn:aK o.subj=true)(done:Bool):∀(l:List dN) {s:aq},lO k s→lO k (dw s o l done)
 | [],s,h=>h
 |x::l,s,h=>tY hn done l (F3 hn done x h)
theorem B2(o:OpD)(w:Txt)(h:di k s)(hr:s.reviews.length≤999):di k (cg s o w):={h with nrev:=by grind [cg]}
structure kN (k:Nat) (s:aq):Prop extends di k s where
 ids:∀i (h:i<s.reviews.length),s.reviews[i].id=((i+1:Nat):Int)
 nr:s.reviews.length≤256
 nn:s.notices.length≤256
theorem IM:kN 0 wB:={JD with ids:=fun i h=>adB,nr:=acN,nn:=acN}
theorem tQ(h:(j6 s o).1=0):bM s o=0∧dD o=true∧(o.kind=7→(aQ o.text).2.1=0):=by
 unfold j6 at h;have hr:bM s o=0:=by grind
 have hf:dD o=true:=by
  unfold bM at hr
  grind
 exact⟨hr,hf,fun hk=>acL⟩
theorem Kk(h:kN k s)(hp:(j6 s o).1=0):lO (k+1) (cW s o):=by
 have hn:=(tg (tQ hp).2.1).subj;have h1:di k (if fK s o then cg s o o.reason else s):=by
  split
  ·exact B2 o _ h.todi (by have:=h.nr;omega)
  ·exact h.todi
 refine tY hn _ _ ?_;split
 ·exact(pJ o h1).w
 ·have:=h1.w
  exact {this with ver:=⟨this.ver.1,by have:=this.ver.2;omega⟩}
def shut(r:qe):qe:={r with isOpen:=false}
theorem uu(par:Txt→bV×Int×Int)(s:aq)(o:OpD):(dU par s o).reviews=if bM s o=0∧o.kind=5 then s.reviews.modify (o.review - 1).toNat shut else s.reviews:=by
 unfold dU
 by_cases hr:bM s o=0
 ·rw[if_pos hr]
  unfold doD
  by_cases k1:o.kind=1
  ·grind
  ·by_cases k3:o.kind=3
   ·grind
   ·by_cases k4:o.kind=4
    ·grind
    ·by_cases k5:o.kind=5
     ·simp[k5,hr];rfl
     grind
 grind
theorem xT(h:dD o=true)(hg:o.glass=true):1≤o.kind∧o.kind≤4:=by simp_all [dD,Bool.and_eq_true,kU,if_true,jW,decide_eq_true_eq]
theorem C5(h:fK s o=true):o.glass=true:=by simp_all [fK,sP,Bool.and_eq_true]
structure EA (s:aq) (o:OpD) (t:aq) (r:lN) (e:Int):Prop where
 len:s.reviews.length≤t.reviews.length
 old:∀i (h:i<s.reviews.length) (h' :i<t.reviews.length),(e=0∧r.err=0∧o.kind=5∧o.review=((i+1:Nat):Int)→o.subj≠s.reviews[i].subj∧s.reviews[i].isOpen=true∧t.reviews[i].isOpen=false∧t.reviews[i].id=s.reviews[i].id)∧
  (¬(e=0∧r.err=0∧o.kind=5∧o.review=((i+1:Nat):Int))→t.reviews[i]=s.reviews[i])
 new:∀i (h:i<t.reviews.length),s.reviews.length≤i→t.reviews[i].id=((i+1:Nat):Int)∧t.reviews[i].isOpen=true∧t.reviews[i].subj=o.subj
 glass:r.glass=true→∃h:s.reviews.length<t.reviews.length,t.reviews[s.reviews.length].reason=o.reason
theorem EA.same(s:aq)(o:OpD)(e:Int)(r:lN)(he:e≠0)(hg:r.glass=false):EA s o s r e:=
 ⟨Nat.le_refl _,fun i h h' =>⟨fun hc=>(he hc.1).elim,fun _=>rfl⟩,fun i h h' =>acK,fun h=>acL⟩
theorem He{a b:List qe}(h:gL o a b):a.length≤b.length∧(∀i (h1:i<a.length) (h2:i<b.length),b[i]=a[i])∧∀i (h1:i<b.length),a.length≤i→b[i].id=((i+1:Nat):Int)∧b[i].isOpen=true∧b[i].subj=o.subj:=by
 obtain⟨c,rfl,hc⟩:=h;refine⟨acS,fun i h1 h2=>acL,fun i h1 h2=>?_⟩
 grind
theorem CE(hr:bM s o=0)(hf:dD o=true)(hk:o.kind=5):1≤o.review∧∃h:(o.review - 1).toNat<s.reviews.length,s.reviews[(o.review - 1).toNat].isOpen=true∧s.reviews[(o.review - 1).toNat].subj≠o.subj:=by
 have F:=tg hf;have hok:=F.ok;unfold okD at hok;simp only[hk,show¬(5:Int)=1 by decide,show¬((5:Int)=2∨(5:Int)=6) by decide,show¬(5:Int)=3 by decide,show¬(5:Int)=4 by decide,if_false,if_true,decide_eq_true_eq]at hok
 unfold bM at hr;simp only[hk,Bool.true_eq_false,show¬(5:Int)=1 by decide,show¬(2≤(5:Int)∧(5:Int)≤4) by decide,if_false,if_true]at hr
 unfold fU vQ at hr;rw[if_pos (by omega:1≤o.review)]at hr
 refine⟨acK,?_⟩;cases hx:s.reviews[(o.review - 1).toNat]? with
 |none=>simp_all
 |some r=>
  rw[hx]at hr;obtain⟨h,rfl⟩:=List.getElem?_eq_some_iff.1 hx;refine⟨h,?_,?_⟩
  ·grind
  ·intro e
   simp only[e,if_true]at hr;omega
theorem FO(h:kN k s):EA s o (bA s o).1 (bA s o).2.1 (bA s o).2.2.2:=by
 unfold bA
 by_cases hp:(j6 s o).1=0
 ·rw[if_neg acK]
  by_cases ho:rR (cW s o)=true
  ·rw[if_pos ho];exact .same _ _ _ _ acS rfl
  ·rw[if_neg ho]
   obtain⟨hr,hf,_⟩:=tQ hp;simp only
   by_cases hk:o.kind=5
   ·have hg:fK s o=false:=by
     cases hg:fK s o with
     |false=>rfl
     |true=>have:=xT hf (C5 hg);omega
    obtain⟨hv1,hlt,hop,hsu⟩:=CE hr hf hk
    by_cases hd:sS s o=true
    ·have hb:cW s o=dw (dU aQ s o) o (gO s o).2 true:=by grind [cW]
     have hrev:(dU aQ s o).reviews=s.reviews.modify (o.review - 1).toNat shut:=by simp_all [uu,if_pos]
     have hon:=gL.duties o true (gO s o).2 (dU aQ s o);rw[←hb,hrev]at hon;obtain⟨a1,a2,a3⟩:=He hon;have hlm:(s.reviews.modify (o.review - 1).toNat shut).length=s.reviews.length:=acS;rw[hlm]at a1;refine⟨a1,fun i h1 h2=>⟨fun hc=>?_,fun hc=>?_⟩,fun i h1 h2=>a3 i h1 acK,fun hgl=>?_⟩
     ·have hi:(o.review - 1).toNat=i:=by omega
      subst hi;rw[a2 _ acK h2,List.getElem_modify,if_pos rfl];exact⟨fun e=>hsu e.symm,hop,rfl,rfl⟩
     ·have hi:(o.review - 1).toNat≠i:=fun e=>hc ⟨rfl,by simp[pF,hd],hk,acK⟩
      rw[a2 _ acK h2,List.getElem_modify,if_neg hi]
     simp_all [pF]
    ·have hd:sS s o=false:=by grind
     have hb:cW s o=dw s o (gO s o).2 false:=by grind [cW]
     have hon:=gL.duties o false (gO s o).2 s;rw[←hb]at hon;obtain⟨a1,a2,a3⟩:=He hon;refine⟨a1,fun i h1 h2=>⟨fun hc=>?_,fun hc=>a2 i h1 h2⟩,a3,fun hgl=>?_⟩
     ·simp_all [pF]
     simp_all [pF]
   ·have hs1:gL o s.reviews (if fK s o then cg s o o.reason else s).reviews:=by
     split
     ·exact .open s o _
     ·exact .refl o _
    have hs2:(if sS s o then dU aQ (if fK s o then cg s o o.reason else s) o else(if fK s o then cg s o o.reason else s)).reviews=(if fK s o then cg s o o.reason else s).reviews:=by
     split
     ·simp_all [uu,if_neg]
     ·rfl
    have hd:=gL.duties o (sS s o) (gO s o).2 (if sS s o then dU aQ (if fK s o then cg s o o.reason else s) o else(if fK s o then cg s o o.reason else s))
    rw[hs2]at hd;have hon:gL o s.reviews (cW s o).reviews:=hs1.trans hd;obtain⟨a1,a2,a3⟩:=He hon;refine⟨a1,fun i h1 h2=>⟨fun hc=>(hk hc.2.2.1).elim,fun hc=>a2 i h1 h2⟩,a3,fun hgl=>?_⟩
    have hg:fK s o=true:=hgl;have hd' :=hd;simp only[hg,↓reduceIte]at hd';obtain⟨b1,b2,_⟩:=He hd';have hb:(cW s o)=dw (if sS s o then dU aQ (cg s o o.reason) o else cg s o o.reason) o (gO s o).2 (sS s o):=by grind [cW]
    rw[←hb]at b1 b2;have hl:(cg s o o.reason).reviews.length=s.reviews.length+1:=by simp[cg]
    refine⟨acK,?_⟩
    grind [cg,A5]
 ·rw[if_pos acK]
  exact .same _ _ _ _ acK rfl
theorem kN.up(h:kN k s):kN (k+1) s:={h with ver:=⟨h.ver.1,by have:=h.ver.2;omega⟩}
theorem Ff(o:OpD)(h:kN k s):kN (k+1) (bA s o).1:=by
 have hrl:=FO (o:=o) h;unfold bA at hrl⊢
 by_cases hp:(j6 s o).1=0
 ·rw[if_neg acK]at hrl⊢
  by_cases ho:rR (cW s o)=true
  ·rw[if_pos ho];exact h.up
  ·rw[if_neg ho]at hrl⊢
   have ho:rR (cW s o)=false:=acL;have hw:=(Kk h hp).ok ho;unfold rR at ho;refine {hw with ids:=fun i hi=>?_,nr:=acL,nn:=acL}
   by_cases hlt:i<s.reviews.length
   ·obtain⟨h1,h2⟩:=hrl.old i hlt hi
    by_cases hc:(0:Int)=0∧(pF s o).err=0∧o.kind=5∧o.review=((i+1:Nat):Int)
    ·rw[(h1 hc).2.2.2];exact h.ids i hlt
    ·rw[h2 hc];exact h.ids i hlt
   ·exact(hrl.new i hi acK).1
 ·rw[if_pos acK];exact h.up
structure Vs (s:aq) (o:OpD):Prop where
 err:(bA s o).2.2.2≠0→(bA s o).1=s∧(bA s o).2.1.err=(bA s o).2.2.2∧(bA s o).2.1.mark=naM
 ok:(bA s o).2.2.2=0→(bA s o).2.1.mark=(gO s o).1∧(bA s o).2.2.1=⟨o,s.version,(gO s o).1,fK s o,(gO s o).2⟩∧(bA s o).2.1.glass=fK s o∧(bA s o).1=cW s o∧(bA s o).2.1=pF s o
theorem xF(o:OpD)(done:Bool):∀(l:List dN) (s:aq),(dw s o l done).cases.length=s.cases.length
 | [],s=>rfl
 |x::l,s=>by
  have:(fF o done s x).cases.length=s.cases.length:=by
   unfold fF;split
   ·grind [iQ]
   ·split
    ·rfl
    grind
  exact(xF o done l _).trans this
end Go.Bf
namespace Go.Ab
open Go
section
variable {U : TypeId → TI} {ρ : Env} {h0 h h' : Heap} {sz id : Nat} {tb : TypeId} {y : AV} {xs : List AV} {e : TypeId} {K : AV → Prop} {x : IntKind} {m : Int}
theorem ux(xs)(j):au xs=au (xs.take j)++au (xs.drop j):=af4
theorem OwE.cut(hw:OwE tb h0 h sz y xs){hi:Operand}(j:Nat)(hm:ev ρ hi=some (.v (.int x m)))(hj:m=j)(hl:j≤xs.length)(hz:(U tb).sz=sz)(h1:sz≠0)
  (hk:∀z,OwE tb h0 h sz z (xs.take j)→(z=y∨∃id l l' c,y= .ob id 0 l c sz∧z= .ob id 0 l' c sz)→K z):gD U ρ y none (some hi) none K (.slice tb):=by
 subst hj;subst hz
 rcases hw with⟨rfl,rfl⟩|⟨id,h2,cap,rest,rfl,h3,h4,h5,h6⟩
 ·rw[nH,fo,hm]
  refine⟨h1,?_⟩;have:j=0:=acL;subst this;refine⟨acK,acS,?_⟩;exact hk _ (.inl ⟨rfl,rfl⟩) (.inl rfl)
 ·rw[A8]
  refine⟨h1,rfl,?_⟩;simp only[mz,fo,hm,dj,ni];refine⟨acK,acK,acK,?_⟩;simp only[Int.toNat_natCast,Nat.zero_mul,Nat.add_zero,Nat.sub_zero,show(((0:Nat):Int)).toNat=0 from rfl]
  have e1:(xs.take j).length=j:=acL;have hs:Sized (U tb).sz (xs.drop j):=fun z hz=>h6 z (List.mem_of_mem_drop hz)
  refine hk _ (.inr ⟨id,h2,cap,au (xs.drop j)++rest,by rw[e1],by grind [ux,List.append_assoc],?_,acK,fun z hz=>h6 z (List.mem_of_mem_take hz)⟩) (.inr ⟨id,_,_,cap,rfl,rfl⟩)
  rw[acE,bg hs,h4,List.length_drop,e1,←Nat.add_mul]
  grind
theorem OwE.from(hw:OwE tb h0 h sz y xs){lo:Operand}(j:Nat)(hm:ev ρ lo=some (.v (.int x m)))(hj:m=j)(hl:j≤xs.length)(hz:(U tb).sz=sz)(h1:sz≠0)
  (hk:∀z,Rd h sz z (xs.drop j)→K z):gD U ρ y (some lo) none none K (.slice tb):=by
 subst hj;subst hz
 rcases hw with⟨rfl,rfl⟩|⟨id,h2,cap,rest,rfl,h3,h4,h5,h6⟩
 ·have:j=0:=by grind
  subst this;rw[qT,fo,hm];refine⟨h1,by simp[Sized],?_⟩
  exact⟨acK,acS,acS,hk _ (.sl (by intro z hz;grind [oN]) _)⟩
 ·rw[A8]
  refine⟨h1,rfl,?_⟩;simp only[mz,fo,hm,dj,ni];refine⟨acK,acK,acK,?_⟩;simp only[Int.toNat_natCast,Nat.zero_add];have e1:(xs.drop j).length=xs.length - j:=acS;have hs:Sized (U tb).sz (xs.drop j):=fun z hz=>h6 z acL
  have ht:Sized (U tb).sz (xs.take j):=fun z hz=>h6 z acL
  have e2:=bg hs;have e3:=bg ht;refine hk _ ⟨hs,.inr ⟨id,j*(U tb).sz,cap - j,_,tb,by rw[e1],h3,?_,?_⟩⟩
  ·grind [ux,acE]
  grind [ux,List.append_assoc,List.drop_left,List.take_left]
end
end Go.Ab
namespace Go.Bf
open Go Go.Ab Go.Proofs.YteaaeelhjnhaaaaGreatDoor
def hbit:Nat→Nat
 |0=>0
 |1=>4602678819172646912
 |_=>4607182418800017408
def aR(m:aS):AV:=.v (.complex .f64 (hbit m.1) (hbit m.2))
def M9(m:aS):Prop:=m.1≤2∧m.2≤2
def M6(m:aS):Prop:=m∈uK
instance (m:aS):Decidable (M9 m):=inferInstanceAs (Decidable (_∧_))
instance (m:aS):Decidable (M6 m):=inferInstanceAs (Decidable (m∈uK))
theorem M6.m9{m:aS}(h:M6 m):M9 m:=by exact ahq
theorem le2{n:Nat}(h:n≤2):n=0∨n=1∨n=2:=acK
theorem yD{m n:aS}(hmm:M9 m)(hn:M9 n)(K:AV→Prop):gy .eql (.complex .f64 (hbit m.1) (hbit m.2)) (.complex .f64 (hbit n.1) (hbit n.2)) K=K (.b (m==n)):=
 oC (fun P ty w=>by exact ahn) K
theorem Dw{m n:aS}(hmm:M9 m)(hn:M9 n)(K:AV→Prop):gy .neq (.complex .f64 (hbit m.1) (hbit m.2)) (.complex .f64 (hbit n.1) (hbit n.2)) K=K (.b (!(m==n))):=
 oC (fun P ty w=>by exact ahn) K
structure Nb (m:aS):Prop where
 na:∀K,gy .eql (.complex .f64 (hbit m.1) (hbit m.2)) (.complex .f64 0 0) K=K (.b (m==naM))
 pe:∀K,gy .eql (.complex .f64 (hbit m.1) (hbit m.2)) (.complex .f64 4607182418800017408 0) K=K (.b (m==bn))
 de:∀K,gy .eql (.complex .f64 (hbit m.1) (hbit m.2)) (.complex .f64 0 4607182418800017408) K=K (.b (m==cH))
 ip:∀K,gy .eql (.complex .f64 (hbit m.1) (hbit m.2)) (.complex .f64 4602678819172646912 0) K=K (.b (m==AK))
 id:∀K,gy .eql (.complex .f64 (hbit m.1) (hbit m.2)) (.complex .f64 0 4602678819172646912) K=K (.b (m==AJ))
 ib:∀K,gy .eql (.complex .f64 (hbit m.1) (hbit m.2)) (.complex .f64 4602678819172646912 4602678819172646912) K=K (.b (m==oY))
 nna:∀K,gy .neq (.complex .f64 (hbit m.1) (hbit m.2)) (.complex .f64 0 0) K=K (.b (!(m==naM)))
 npe:∀K,gy .neq (.complex .f64 (hbit m.1) (hbit m.2)) (.complex .f64 4607182418800017408 0) K=K (.b (!(m==bn)))
 nde:∀K,gy .neq (.complex .f64 (hbit m.1) (hbit m.2)) (.complex .f64 0 4607182418800017408) K=K (.b (!(m==cH)))
theorem nb{m:aS}(h:M9 m):Nb m:=
 ⟨yD (n:=naM) h acN,yD (n:=bn) h acN,yD (n:=cH) h acN,yD (n:=AK) h acN,yD (n:=AJ) h acN,yD (n:=oY) h acN,
  Dw (n:=naM) h acN,Dw (n:=bn) h acN,Dw (n:=cH) h acN⟩
theorem Pp{a b:Nat}(ha:a≤2)(hb:b≤2)(k:AV→Prop):zI [.v (.float .f64 (hbit a)),.v (.float .f64 (hbit b))] k=k (.v (.float .f64 (hbit (max a b)))):=
 Fy (fun P ts ty w=>by rcases le2 ha with rfl|rfl|rfl<;>rcases le2 hb with rfl|rfl|rfl<;>rfl) k
structure Fb (a:Nat):Prop where
 one:∀K,gy .eql (.float .f64 (hbit a)) (.float .f64 4607182418800017408) K=K (.b (a==2))
 half:∀K,gy .eql (.float .f64 (hbit a)) (.float .f64 4602678819172646912) K=K (.b (a==1))
 ge:∀K,gy .geq (.float .f64 (hbit a)) (.float .f64 4602678819172646912) K=K (.b (decide (1≤a)))
theorem fb{a:Nat}(h:a≤2):Fb a:=by
 rcases le2 h with rfl|rfl|rfl<;>
  exact⟨oC fun P ty w=>rfl,oC fun P ty w=>rfl,oC fun P ty w=>rfl⟩
end Go.Bf
namespace Go.Proofs.YteaaeelhjnhaaaaGreatDoor
open Go Go.Ab Go.Bf Tryz
variable {rs:List jL}{k j:Nat}{s:aq}{y1 y2 y3 y4 z:AV}
theorem BY(m:aS)(hmm:M6 m)(h:Heap):ai prog 219 [aR m] h fun r h' =>r= .b true∧h' =h:=by
 have hn:ai prog 244 [aR m] h fun r h' =>(∃c l,r= .s (c::l))∧h' =h:=by
  obtain⟨n1,n2,n3,n4,n5,n6⟩:=nb hmm.m9;refine acJ func244 16 [.tmp 2] fun hwf=>?_
  cases d1:(m==naM)
  case true=>simp only[go_sem,aR,n1,d1];exact .same (.refl _) ⟨⟨_,_,rfl⟩,rfl⟩
  cases d2:(m==bn)
  case true=>simp only[go_sem,aR,n1,n2,d1,d2];exact .same (.refl _) ⟨⟨_,_,rfl⟩,rfl⟩
  cases d3:(m==cH)
  case true=>simp only[go_sem,aR,n1,n2,n3,d1,d2,d3];exact .same (.refl _) ⟨⟨_,_,rfl⟩,rfl⟩
  cases d4:(m==AK)
  case true=>simp only[go_sem,aR,n1,n2,n3,n4,d1,d2,d3,d4];exact .same (.refl _) ⟨⟨_,_,rfl⟩,rfl⟩
  cases d5:(m==AJ)
  case true=>simp only[go_sem,aR,n1,n2,n3,n4,n5,d1,d2,d3,d4,d5];exact .same (.refl _) ⟨⟨_,_,rfl⟩,rfl⟩
  have d6:(m==oY)=true:=by
   unfold M6 uK at hmm
   grind
  simp only[go_sem,aR,n1,n2,n3,n4,n5,n6,d1,d2,d3,d4,d5,d6];exact .same (.refl _) ⟨⟨_,_,rfl⟩,rfl⟩
 refine acJ func219 6 [.tmp 2] fun hwf=>?_
 simp only[go_sem];refine hn.mono ?_
 rintro r h' ⟨⟨c,l,rfl⟩,rfl⟩
 exact aho
theorem yd(m:aS)(hmm:M9 m)(h:Heap):ai prog 201 [aR m] h fun r h' =>r=aR (gN m)∧h' =h:=by
 obtain⟨n1,n2,n3,n4,n5,n6⟩:=nb hmm;refine acJ func201 9 [.tmp 2] fun hwf=>?_
 cases d2:(m==bn)
 case true=>simp only[go_sem,aR,n2,d2];exact .same (.refl _) ⟨by rw[gN,if_pos acL];rfl,rfl⟩
 cases d3:(m==cH)
 case true=>simp only[go_sem,aR,n2,n3,d2,d3];exact .same (.refl _) ⟨by rw[gN,if_neg acL,if_pos acL];rfl,rfl⟩
 simp only[go_sem,aR,n2,n3,d2,d3];exact .same (.refl _) ⟨by rw[gN,if_neg acL,if_neg acL];rfl,rfl⟩
theorem tN(m:aS)(h:Heap):ai prog 245 [aR m] h fun r h' =>r= .tup [.v (.float .f64 (hbit m.1)),.v (.float .f64 (hbit m.2))]∧h' =h:=by
 refine acJ func245 10 [.tmp 2,.tmp 3] fun hwf=>?_
 simp only[go_sem,aR];exact acW
theorem Pw(a b:Nat)(h:Heap):ai prog 246 [.v (.float .f64 (hbit a)),.v (.float .f64 (hbit b))] h fun r h' =>r=aR (a,b)∧h' =h:=by
 refine acJ func246 8 [.tmp 4] fun hwf=>?_
 exact aho
theorem OH(m:aS)(h:Heap):ai prog 222 [aR m] h fun r h' =>r=aR (En m)∧h' =h:=by
 refine acJ func222 13 [.tmp 2] fun hwf=>?_
 simp only[go_sem];refine(tN m _).pthen ?_;simp only[go_sem];refine(Pw m.2 m.1 _).pthen ?_;exact aho
theorem NT(a b:aS)(ha:M9 a)(hb:M9 b)(h:Heap):ai prog 220 [aR a,aR b] h fun r h' =>r=aR (ot a b)∧h' =h:=by
 have m1:=Pp ha.1 hb.1;have m2:=Pp ha.2 hb.2;refine acJ func220 26 [.tmp 4] fun hwf=>?_
 simp only[go_sem];refine(tN a _).pthen ?_;simp only[go_sem];refine(tN b _).pthen ?_;simp only[go_sem,m1,m2];refine(Pw _ _ _).pthen ?_;exact aho
theorem M9.join{a b:aS}(ha:M9 a)(hb:M9 b):M9 (ot a b):=⟨Nat.max_le.2 ⟨ha.1,hb.1⟩,Nat.max_le.2 ⟨ha.2,hb.2⟩⟩
theorem Hg(j:aS):M6 (qM j):=by
 unfold qM
 repeat' split
 all_goals decide
theorem Hh(j:aS)(hj:M9 j)(h:Heap):ai prog 221 [aR j] h fun r h' =>r=aR (qM j)∧h' =h:=by
 obtain⟨p1,p2,p3⟩:=fb hj.1;obtain⟨q1,q2,q3⟩:=fb hj.2;refine acJ func221 29 [.tmp 2] fun hwf=>?_
 simp only[go_sem];refine(tN j _).pthen ?_;cases d1:(j.2==2)
 case true=>simp only[go_sem,q1,d1];exact .same (.refl _) ⟨by rw[qM,if_pos acL];rfl,rfl⟩
 have e1:¬j.2=2:=acL;cases d2:(j.2==1)
 case true=>
  have e2:j.2=1:=acL;cases d3:decide (1≤j.1)
  ·simp only[go_sem,p3,q1,q2,d1,d2,d3];exact .same (.refl _) ⟨by rw[qM,if_neg e1,if_neg acL,if_pos e2];rfl,rfl⟩
  ·simp only[go_sem,p3,q1,q2,d1,d2,d3];exact .same (.refl _) ⟨by rw[qM,if_neg e1,if_pos ⟨e2,acC d3⟩];rfl,rfl⟩
 have e2:¬j.2=1:=acL;cases d4:(j.1==2)
 case true=>simp only[go_sem,p1,q1,q2,d1,d2,d4];exact .same (.refl _) ⟨by rw[qM,if_neg e1,if_neg (fun h=>e2 h.1),if_neg e2,if_pos acL];rfl,rfl⟩
 cases d5:(j.1==1)
 case true=>simp only[go_sem,p1,p2,q1,q2,d1,d2,d4,d5];exact .same (.refl _) ⟨by rw[qM,if_neg e1,if_neg (fun h=>e2 h.1),if_neg e2,if_neg acL,if_pos acL];rfl,rfl⟩
 simp only[go_sem,p1,p2,q1,q2,d1,d2,d4,d5];exact .same (.refl _) ⟨by rw[qM,if_neg e1,if_neg (fun h=>e2 h.1),if_neg e2,if_neg acL,if_neg acL];rfl,rfl⟩
def OwR(h0 h:Heap)(y:AV)(rs:List jL):Prop:=y=dY rs∨OwE 161 h0 h 2 y (rs.map eL)
theorem OwR.rd{h0 h:Heap}{y:AV}(hr:OwR h0 h y rs):Rd h 2 y (rs.map eL):=by
 rcases hr with rfl|hr
 ·exact eR eL 2 (fun _=>rfl) h rs
 ·exact hr.rd
theorem OwR.nid{h0 h:Heap}{y:AV}(hr:OwR h0 h y rs)(e:Ab.nid y=some k):h0 k=none∧h k≠none:=by
 rcases hr with rfl|hr
 ·cases e
 ·exact⟨(hr.nid e).1,(hr.nid e).2.1⟩
theorem OwR.keep{h0 h h' :Heap}{y:AV}(hr:OwR h0 h y rs)(hk:∀id,Ab.nid y=some id→h' id=h id):OwR h0 h' y rs:=by
 rcases hr with hr|hr
 ·exact .inl hr
 ·exact .inr (hr.keep hk)
theorem OwR.bL{g h0 h:Heap}{y:AV}(hr:OwR h0 h y rs)(hg:∀i,h0 i=none→g i=none):OwR g h y rs:=by
 rcases hr with hr|hr
 ·exact .inl hr
 ·exact .inr (hr.bL hg)
theorem OwR.frz{g h:Heap}{y:AV}(hr:OwR g h y rs):Frz g h y (dY rs):=by
 rcases hr with rfl|hr
 ·exact .pure (by simp only[dY,cM];exact bw (fun _=>rfl) _)
 ·exact hr.frz (bw (fun _=>rfl) _)
structure iH (h0 h:Heap) (y1 y2 y3 y4:AV) (s:aq) (j:Nat):Prop where
 cs:l9 h0 h [y1,y2,y3,y4] y1 s.cases j
 rv:OwE 170 h0 h 7 y2 (s.reviews.map iM)
 nt:OwE 173 h0 h 3 y3 (s.notices.map mT)
 rl:OwR h0 h y4 s.roles
 a12:apart y1 y2
 a13:apart y1 y3
 a14:apart y1 y4
 a23:apart y2 y3
 a24:apart y2 y4
 a34:apart y3 y4
def stC(s:aq)(y1 y2 y3 y4:AV):List AV:=[.i s.tick,y1,y2,y3,y4]++fZ s.policy++ [.i s.version]
theorem sJ.parts{h0 h:Heap}{x:AV}(ho:sJ h0 h x s j):∃y1 y2 y3 y4,x= .agg (stC s y1 y2 y3 y4)∧iH h0 h y1 y2 y3 y4 s j:=by obtain⟨y1,y2,y3,y4,e,a,b,c,d,r1,r2,r3,r4,r5,r6⟩:=ho;exact⟨y1,y2,y3,y4,e,a,b,c,.inr d,r1,r2,r3,r4,r5,r6⟩
theorem iH.rd{h0 h:Heap}(ho:iH h0 h y1 y2 y3 y4 s j):RdS h (.agg (stC s y1 y2 y3 y4)) s:=
 ⟨y1,y2,y3,y4,rfl,ho.cs.rd,ho.rv.rd,ho.nt.rd,ho.rl.rd⟩
theorem iH.frz{g h:Heap}(ho:iH g h y1 y2 y3 y4 s j):Frz g h (.agg (stC s y1 y2 y3 y4)) (cN s):=
 uz (ho.cs.frz (.refl _)) (ho.rv.frz (bw (fun _=>rfl) _)) (ho.nt.frz (bw (fun _=>rfl) _)) ho.rl.frz
theorem iH.bL{g h0 h:Heap}(ho:iH h0 h y1 y2 y3 y4 s j)(hg:∀i,h0 i=none→g i=none):iH g h y1 y2 y3 y4 s j:=
 {ho with cs:=ho.cs.bL hg,rv:=ho.rv.bL hg,nt:=ho.nt.bL hg,rl:=ho.rl.bL hg}
theorem iH.keep{h0 h h' :Heap}(ho:iH h0 h y1 y2 y3 y4 s j)(hk:∀id,h0 id=none→h id≠none→h' id=h id):iH h0 h' y1 y2 y3 y4 s j:=
 {ho with cs:=ho.cs.keepb hk,rv:=ho.rv.keepb hk,nt:=ho.nt.keepb hk,rl:=ho.rl.keep fun id e=>hk id (ho.rl.nid e).1 (ho.rl.nid e).2}
theorem iH.mem{h0 h:Heap}(ho:iH h0 h y1 y2 y3 y4 s j){w:AV}(hw:w∈ [y1,y2,y3,y4])(e:Ab.nid w=some k):h0 k=none∧h k≠none:=by
 obtain⟨xs,a,_⟩:=ho.cs;simp only[List.mem_cons,List.not_mem_nil,or_false]at hw;rcases hw with rfl|rfl|rfl|rfl
 ·exact⟨(a.nid e).1,(a.nid e).2.1⟩
 ·exact⟨(ho.rv.nid e).1,(ho.rv.nid e).2.1⟩
 ·exact⟨(ho.nt.nid e).1,(ho.nt.nid e).2.1⟩
 ·exact ho.rl.nid e
theorem iH.revs{h0 h h' :Heap}{rs:List qe}(ho:iH h0 h y1 y2 y3 y4 s j)(hz:OwE 170 h0 h' 7 z (rs.map iM))(hn:∀k,Ab.nid z=some k→h k=none∨Ab.nid y2=some k)
  (hk:∀id,h0 id=none→h id≠none→Ab.nid y2≠some id→h' id=h id):iH h0 h' y1 z y3 y4 {s with reviews:=rs} j:=by
 obtain⟨hcs,hrv,hnt,hrl,a12,a13,a14,a23,a24,a34⟩:=id ho;have ap:∀ {w:AV},w∈ [y1,y2,y3,y4]→apart w y2→apart w z:=fun hw ha k e1 e2=>(hn k e2).elim (fun h=>(ho.mem hw e1).2 h) (fun h=>ha k e1 h)
 refine⟨hcs.move (z:=y2) acS a12 hk fun w hw k e=>?_,hz,hnt.keep fun id e=>hk id (hnt.nid e).1 (hnt.nid e).2.1 fun e1=>a23 id e1 e,hrl.keep fun id e=>hk id (hrl.nid e).1 (hrl.nid e).2 fun e1=>a24 id e1 e,ap acS a12,a13,a14,(ap acS a23.symm).symm,(ap acS a24.symm).symm,a34⟩
 grind
theorem iH.nots{h0 h h' :Heap}{rs:List HO}(ho:iH h0 h y1 y2 y3 y4 s j)(hz:OwE 173 h0 h' 3 z (rs.map mT))(hn:∀k,Ab.nid z=some k→h k=none∨Ab.nid y3=some k)
  (hk:∀id,h0 id=none→h id≠none→Ab.nid y3≠some id→h' id=h id):iH h0 h' y1 y2 z y4 {s with notices:=rs} j:=by
 obtain⟨hcs,hrv,hnt,hrl,a12,a13,a14,a23,a24,a34⟩:=id ho;have ap:∀ {w:AV},w∈ [y1,y2,y3,y4]→apart w y3→apart w z:=fun hw ha k e1 e2=>(hn k e2).elim (fun h=>(ho.mem hw e1).2 h) (fun h=>ha k e1 h)
 refine⟨hcs.move (z:=y3) acS a13 hk fun w hw k e=>?_,hrv.keep fun id e=>hk id (hrv.nid e).1 (hrv.nid e).2.1 fun e1=>a23 id e e1,hz,hrl.keep fun id e=>hk id (hrl.nid e).1 (hrl.nid e).2 fun e1=>a34 id e1 e,a12,ap acS a13,a14,ap acS a23,a24,(ap acS a34.symm).symm⟩
 grind
end Go.Proofs.YteaaeelhjnhaaaaGreatDoor
namespace Go.Bf
open Go Go.Ab Go.Proofs.YteaaeelhjnhaaaaGreatDoor
variable {s:aq}{k:Nat}{cs:List aU}
def gZ(s:aq):Prop:=∀r∈s.reviews,0≤r.tick∧r.tick≤1099511627776
theorem Bd(o:OpD)(w:Txt)(h:gZ s)(ht:0≤s.tick∧s.tick≤1099511627776):gZ (cg s o w):=fun r hr=>by
 simp only[cg,List.mem_append,List.mem_singleton]at hr;rcases hr with hr|rfl
 ·exact h r hr
 ·exact ht
theorem JI(o:OpD)(w:Txt)(h:gZ s):gZ (iQ s o w):=fun r hr=>h r (by grind [yu])
theorem JH(o:OpD)(done:Bool)(x:dN)(h:gZ s)(ht:0≤s.tick∧s.tick≤1099511627776):gZ (fF o done s x):=by
 unfold fF;split
 ·grind [JI]
 ·split
  ·grind [Bd]
  ·split<;>exact h
theorem vW(o:OpD)(done:Bool):∀(l:List dN) {s:aq},gZ s→(0≤s.tick∧s.tick≤1099511627776)→gZ (dw s o l done)
 | [],s,h,_=>h
 |x::l,s,h,ht=>vW o done l (by grind [JH]) (by grind [CN])
theorem Mu(par:Txt→bV×Int×Int)(o:OpD)(h:gZ s):gZ (dU par s o):=fun r hr=>by
 rw[uu]at hr;split at hr
 ·rcases mem_modify hr with hr|⟨hi,rfl⟩
  ·exact h r hr
  ·have h2:=h _ (acF hi)
   exact agH
 ·exact h r hr
theorem F7(o:OpD)(h:kN k s)(ht:gZ s):gZ (bA s o).1:=by
 unfold bA;split
 ·omega
 ·split
  ·omega
  ·show gZ (cW s o)
   have h1:di k (if fK s o then cg s o o.reason else s):=by
    split
    ·exact B2 o _ h.todi (by have:=h.nr;omega)
    ·exact h.todi
   have t1:gZ (if fK s o then cg s o o.reason else s):=by
    split
    ·exact Bd o _ ht h.tick
    omega
   refine vW o _ _ ?_ ?_
   ·grind [Mu]
   ·split
    ·exact(pJ o h1).tick
    ·exact h1.tick
structure oJ (k:Nat) (s:aq):Prop extends kN k s where
 ticks:gZ s
theorem xW:oJ 0 wB:={IM with ticks:=fun r h=>adB}
theorem C7(o:OpD)(h:oJ k s):oJ (k+1) (bA s o).1:={Ff o h.tokN with ticks:=F7 o h.tokN h.ticks}
theorem NQ{id:Txt}(h:iJ cs id<cs.length):cs[iJ cs id].id=id:=by
 have:=List.findIdx_getElem (p:=fun c:aU=>c.id==id) (w:=h)
 exact eq_of_beq this
theorem Fq(ha:Asc cs){id:Txt}(h:iJ cs id<cs.length):findD cs id=iJ cs id:=by
 have hid:=NQ h;have hin:bY cs id=true:=by grind [ve,List.any_eq_true,acF]
 have hir:Op.bytesLess id id=false:=by simpa[lt]using lt_irrefl id
 have h1:∃hl:findD cs id<cs.length,cs[findD cs id].id=id:=by
  unfold bY at hin
  grind
 rcases Nat.lt_trichotomy (findD cs id) (iJ cs id)with hlt|heq|hgt
 ·exact absurd (List.not_of_lt_findIdx (p:=fun c:aU=>c.id==id) hlt) acL
 ·exact heq
 ·have:=List.not_of_lt_findIdx (p:=fun c:aU=>geB c.id id) hgt
  exact absurd this (by grind [geB])
theorem K7{ds:List aU}(h:ds.map (·.id)=cs.map (·.id))(id:Txt):iJ ds id=iJ cs id:=by
 have e:∀l:List aU,iJ l id=(l.map (·.id)).findIdx fun x=>x==id:=fun l=>by rw[List.findIdx_map];rfl
 rw[e,e,h]
theorem I0(s:aq)(o:OpD)(w:Txt)(id:Txt):iJ (iQ s o w).cases id=iJ s.cases id∧(iQ s o w).cases.length=s.cases.length:=by
 unfold iQ;split
 ·exact⟨K7 (kE (f:=fun c=>jo s c o.subj w) (g:=fun c:aU=>c.id) fun c=>rfl) id,acS⟩
 omega
theorem IZ(o:OpD)(done:Bool)(s:aq)(x:dN)(id:Txt):iJ (fF o done s x).cases id=iJ s.cases id∧(fF o done s x).cases.length=s.cases.length:=by
 unfold fF;split
 ·grind [I0]
 ·split
  ·exact⟨rfl,rfl⟩
  grind
end Go.Bf
namespace Go.Proofs.YteaaeelhjnhaaaaGreatDoor
open Go Go.Ab
abbrev By:=Bytes 5
theorem u5:(U 5).sz=1:=acY
theorem u5a:(U 5).k.agg=false:=acY
theorem qs(y)(l)(h)(hb:By h y l)(hl:l.length≤140737488355328):
  ai Tryz.prog 43 [y] h fun r h' =>h' =h∧r= .sl (l.map aI) .no:=by
 refine acJ Tryz.func43 8 [.tmp 2] fun hwf=>?_
 simp only[go_sem];refine hb.UK fun b hbn=>?_
 simp only[go_sem];refine oe.intro (fun e=>?_) (fun e=>?_)
 ·have hl0:l= []:=Classical.byContradiction fun hh=>by grind
  subst hl0;simp only[go_sem];exact ae2
 ·simp only[go_sem]
  rw[hb.src u5];simp only[go_sem];refine⟨acK,fun hn=>?_,fun hn=>?_⟩
  ·have hl0:l= []:=by simp_all
   subst hl0;simp only[go_sem];exact ae2
  ·refine .own fun id hid=>?_
   simp only[go_sem];exact .mk _ (.sl _ _) (.aj hid) ⟨rfl,rfl⟩
end Go.Proofs.YteaaeelhjnhaaaaGreatDoor
namespace Go.Proofs.YteaaeelhjnhaaaaGreatDoor
open Go Go.Ab Go.RowKit Go.Lib
theorem i5:∃i z,Tryz.prog.info? 5=some i∧i.zero=some z∧i.size=1∧i.bytes=1∧z.cells.size=1:=by obtain⟨i,h1,h2,h3,z,h4,h5,_⟩:=(hU 5).info acN;exact⟨i,z,h1,h4,h2,by rw[h3];rfl,h5⟩
set_option maxHeartbeats 1000000 in
theorem IL(a)(w):Calls Tryz.prog 154 #[.slice a 0 0,.int .i64 0] w fun e w' =>e= .returned (.slice a 0 0)∧w' =w:=by
 go_enter Tryz.func154,Tryz.ntmps154
 go_wp2
 go_ret
 simp
set_option maxHeartbeats 1000000 in
theorem IK(a)(n:Nat)(h0:0<n)(hn:n≤20000000)(w):Calls Tryz.prog 154 #[.slice a 0 0,.int .i64 n] w fun e w' =>
  ∃z:Value,z.cells.size=1∧e= .returned (.slice (some ⟨w.heap.size,0,none⟩) 0 (grownCap w n 0 5))∧
   w' =w.drew.alloc (.cells (Builtin.zeroCells z.cells n++Builtin.zeroCells z.cells (grownCap w n 0 5 - n)) 5):=by
 obtain⟨i,z,e1,e2,e3,e4,e5⟩:=i5;have hsl:Tryz.prog.underlying 26=some (.slice 5):=by rfl
 have hin:Tryz.prog.underlying 3=some (.int .i64):=by rfl
 have hold:(Builtin.firstCells i.size 0 (.slice a 0 0)).run Tryz.prog w.drew= .ok (#[]:Array Value) w.drew:=by cases a<;>simp[Builtin.firstCells,loadCells,loadCellsFrom]
 have hrz:∀ty,(Builtin.append_ #[26,3] ty #[.slice a 0 0,.int .i64 (n:Int)]).run Tryz.prog w=
   .ok (.slice (some ⟨w.heap.size,0,none⟩) n (grownCap w n 0 5)) (w.drew.alloc (.cells (Builtin.zeroCells z.cells n++Builtin.zeroCells z.cells (grownCap w n 0 5 - n)) 5)):=fun ty=>by
  have h:=Lib.run_append_grow_zeros w 26 3 ty 5 i z .i64 .i64 hsl hin e1 e2 a 0 0 [] acK n h0 acK acK acK
   acL
   (by rw[e4];exact growslice_fits acK acK)
  simpa using h
 have hG:=grownCap_ge w n 0 5;have hG63:grownCap w n 0 5≤9223372036854775807:=by grind [grownCap_le_maxLen,maxLen]
 obtain⟨G,hGe⟩:∃G,G=grownCap w n 0 5:=⟨_,rfl⟩;rw[←hGe]at hrz hG hG63⊢;have h3:wrap64 ((n:Int) - 0)=(n:Int):=by grind [wrap64]
 have h4:¬((n:Int)<0):=acK;have h5:(n:Int)>0:=acK;refine Calls.mono (R:=fun e w' =>e= .returned (.slice (some ⟨w.heap.size,0,none⟩) 0 G)∧w' =w.drew.alloc (.cells (Builtin.zeroCells z.cells n++Builtin.zeroCells z.cells (G - n)) 5)) ?_ acL
 clear hold hGe
 go_enter Tryz.func154,Tryz.ntmps154
 cases a with
 |none=>
  go_wp2_with (at_builtin;refine Lib.wpList_append_run _ rfl _ _ _ _ rfl _ _ rfl rfl _ _ (hrz _) ?_)
  all_goals (go_ret;simp)
 |some q=>
  obtain⟨ab,ao,asp⟩:=q
  go_wp2_with (at_builtin;refine Lib.wpList_append_run _ rfl _ _ _ _ rfl _ _ rfl rfl _ _ (hrz _) ?_)
  all_goals (go_ret;simp)
end Go.Proofs.YteaaeelhjnhaaaaGreatDoor
namespace Go.Proofs.YteaaeelhjnhaaaaGreatDoor
open Go Go.Ab
variable {n at_ t jid did:Nat}
theorem OK:(U 5).bytes=1:=acY
theorem NM(n:Nat)(hn:n≤20000000)(h:Heap):ai Tryz.prog 154 [.sl [] .full,.i n] h fun r h' =>Acc U 5 h h' r []∧eu h h' :=by
 refine fun c vs hs g hv hr=> .inl ⟨⟨_,Tryz.func154,acY,rfl⟩,?_⟩
 have h0:=hr 0 acS;have h1:=hr 1 acS;obtain⟨a,cap,sz,val,e0,sl⟩:=h0.iD;have hcap:cap=0:=sl.hp;subst hcap;have e1:=h1.bS;have ev:vs= #[.slice a 0 0,.int .i64 n]:=by
  apply Array.ext
  ·omega
  ·intro i h2 h3
   have h3' :i<2:=h3;have:i=0∨i=1:=acK;rcases this with rfl|rfl
   ·simpa[Array.getD,h2]using e0
   ·simpa[Array.getD,h2]using e1
 subst ev
 by_cases hn0:n=0
 ·subst hn0
  refine(IL a c.w).mono ?_
  rintro e w' ⟨rfl,rfl⟩
  exact⟨_,rfl,c,.sl [] .full,h,rfl,g,.refl c,h0,hs,.full (.refl h),.refl h⟩
 ·refine(IK a n acK hn c.w).mono ?_
  rintro e w' ⟨z,hz,rfl,rfl⟩
  refine⟨_,rfl,?_⟩;have hG:=grownCap_ge c.w n 0 5;have hG63:grownCap c.w n 0 5≤9223372036854775807:=by grind [grownCap_le_maxLen,maxLen]
  generalize hGe:grownCap c.w n 0 5=G at hG hG63;generalize hcells:Builtin.zeroCells z.cells n++Builtin.zeroCells z.cells (G - n)=cells;have hcs:cells.size=G:=by grind [size_zeroCells]
  obtain⟨id,hid⟩:=g.fresh;have g1:Ab.Good ({c with w:=c.w.drew}:Cx):=g.draw rfl rfl rfl rfl
  have e1:Ext c {c with w:=c.w.drew}:=Ext.draw rfl rfl rfl rfl
  have hh:h id=none:=xU hs hid;refine⟨Cx.ay {c with w:=c.w.drew} (.cells cells 5) id ⟨c.w.heap.size,0,none⟩ (.spare 0 1),.sl [] (.own id),upd h id (some (.spare 0 1)),rfl,?_,e1.trans (Ext.ay _ _ id _ _ rfl (.inl hid)),?_,hs.upd id _,?_,?_⟩
  ·exact g1.ay _ _ _ id _ _ rfl (.inl hid) acS acS
  ·refine .sl [] _ (some ⟨c.w.heap.size,0,none⟩) G 1 (fun _ _=>undef) (Nat.zero_le _) (by grind [lim]) acS (fun q hq _=>by cases hq;exact⟨rfl,by simp[Cx.ay]⟩)
    acS acS acS acS ?_
   exact⟨0,ae6,Nat.le_refl _,fun _=>⟨_,rfl,ae6,cells,5,(0,0),heap_alloc_new c.w.drew _,acL⟩⟩
  ·exact⟨(Sub.refl h).new hh _,.inr ⟨id,hh,rfl,by grind [ah,u5]⟩⟩
  ·exact((Sub.refl h).new hh _).fR
theorem wR(x y)(a b)(h)(hx:By h x a)(hy:By h y b)(ha:a.length≤1000000000):
  ai Tryz.prog 7 [x,y] h fun r h' =>r= .b (decide (a=b))∧h' =h:=by
 refine acJ Tryz.func7 26 [.tmp 4] fun hwf=>?_
 simp only[go_sem,hx.len,hy.len];refine .intro (fun e=>?_) (fun e=>?_)
 ·simp only[go_sem]
  refine .same (.refl _) ⟨?_,rfl⟩;have:a≠b:=fun hh=>by simp[hh]at e
  simp[this,ax]
 ·have hl:a.length=b.length:=by simpa[Int.natCast_inj]using e
  simp only[go_sem];refine .intro (fun m ρ h' =>h' =h∧∃i:Nat,i≤a.length∧m=a.length - i∧a.take i=b.take i∧lk ρ 0=some x∧lk ρ 1=some y∧lk ρ 5=some (.i i)) a.length ?_ ?_
  ·refine⟨rfl,0,Nat.zero_le _,rfl,rfl,?_,?_,?_⟩<;>simp only[go_sem]
   all_goals rfl
  ·rintro m ρ h' ⟨rfl,i,hi,rfl,hab,r0,r1,r5⟩
   simp only[go_sem,r0,r1,r5,hx.len];refine .intro (fun e=>?_) (fun e=>?_)
   ·have hlt:i<a.length:=by simpa using e
    have hltb:i<b.length:=acK;simp only[go_sem,r0,r1,r5];refine⟨.of acO,hx.idx i rfl hlt u5 u5a fun p hp=>?_⟩
    simp only[go_sem,r0,r1,r5,hp _];refine hy.idx i rfl hltb u5 u5a fun p' hp' =>?_
    simp only[go_sem,r0,r1,r5,hp' _];refine .intro (fun e=>?_) (fun e=>?_)
    ·simp only[go_sem]
     refine .same (.refl _) ⟨?_,rfl⟩;have:a≠b:=fun hh=>by subst hh;simp at e
     simp[this,ax]
    ·have hc:a[i]=b[i]:=by
      have:(a[i].toNat:Int)=b[i].toNat:=by simpa using e
      exact UInt8.toNat_inj.1 acK
     have w1:IntKind.i64.wrap ((i:Int)+1)=((i+1:Nat):Int):=aeq;simp only[go_sem,r0,r1,r5,w1];refine⟨a.length - (i+1),acK,rfl,i+1,hlt,rfl,?_,?_,?_,?_⟩
     ·rw[List.take_succ_eq_append_getElem hlt,List.take_succ_eq_append_getElem hltb,hab,hc]
     all_goals simp only[go_sem,r0,r1,r5]
   ·have hge:i=a.length:=by have:¬(i<a.length):=(by simpa using e);omega
    simp only[go_sem];refine .same (.refl _) ⟨?_,rfl⟩;have:a=b:=by subst hge;rw[List.take_length]at hab;rw[hab,hl,List.take_length]
    simp[this,ax]
theorem u27:(U 26).sz=1:=acY
theorem nR(ls:List (List UInt8))(i:Nat)(hi:i<ls.length):(ls.take (i+1)).flatten=(ls.take i).flatten++ls[i]:=by rw[List.take_succ_eq_append_getElem hi,List.flatten_append,List.flatten_cons,List.flatten_nil,List.append_nil]
theorem oQ(ls:List (List UInt8))(i:Nat):(ls.take i).flatten.length≤ls.flatten.length:=by grind [List.take_append_drop,List.flatten_append,acE]
theorem Am(ys)(ls)(q)(h)(hr:Ab.Rows 5 h ys ls)(hl:ls.flatten.length≤20000000)(hn:ls.length≤20000000):
  ai Tryz.prog 123 [.sl ys q] h fun r h' =>r= .sl (ls.flatten.map aI) .no∧Sub h h' :=by
 have hlen:=hr.1;refine acJ Tryz.func123 36 [.tmp 2] fun hwf=>?_
 simp only[go_sem];refine .intro (fun m ρ h' =>h' =h∧∃i:Nat,i≤ls.length∧m=ls.length - i∧lk ρ 0=some (.sl ys q)∧lk ρ 9=some (.sl ys q)∧lk ρ 10=some (.i ys.length)∧
  lk ρ 11=some (.i i)∧lk ρ 3=some (.v (.int .i64 (ls.take i).flatten.length))) ls.length ?_ ?_
 ·refine⟨rfl,0,Nat.zero_le _,rfl,?_,?_,?_,?_,?_⟩<;>simp only[go_sem]
  all_goals first|rfl|simp
 ·rintro m ρ h' ⟨rfl,i,hi,rfl,r0,r9,r10,r11,r3⟩
  simp only[go_sem,r0,r9,r10,r11,r3];refine .intro (fun e=>?_) (fun e=>?_)
  ·have hlt:i<ys.length:=by simpa using e
   have hlt2:i<ls.length:=acK;have hb:=hr.2 i hlt hlt2;simp only[go_sem,r0,r9,r10,r11,r3];refine .at i hlt (by rw[hb.cells];rfl) ?_
   have t1:=oQ ls (i+1);have t2:=nR ls i hlt2;have w1:IntKind.i64.wrap (((ls.take i).flatten.length:Int)+(ls[i].length:Int))=((ls.take (i+1)).flatten.length:Nat):=by rw[t2,acE]at t1⊢;rw[IntWalk.i64_in _ acK];omega
   simp only[go_sem,r0,r9,r10,r11,r3,hb.cells,hb.Lx,and_self,hb.len,w1];refine .no (decide_eq_false acK) ?_;have w2:IntKind.i64.wrap ((i:Int)+1)=((i+1:Nat):Int):=aeq;simp only[go_sem,r0,r9,r10,r11,r3,w2];refine⟨ls.length - (i+1),acK,rfl,i+1,hlt2,rfl,?_,?_,?_,?_,?_⟩<;>simp only[go_sem,r0,r9,r10,r11,r3]
  ·have hge:i=ls.length:=by
    have:¬(i<ys.length):=by simpa using e
    omega
   subst hge;rw[List.take_length]at r3;simp only[go_sem,r0,r9,r10,r11,r3];refine(NM ls.flatten.length hl h').mono fun g1 h1 ⟨ha,hk⟩=>?_
   simp only[go_sem,r0,r9,r10,r11,r3];refine .intro (fun m ρ h2=>∃g:AV,∃i:Nat,Acc U 5 h' h2 g ((ls.take i).flatten.map aI)∧eu h' h2∧i≤ls.length∧m=ls.length - i∧lk ρ 25=some (.sl ys q)∧lk ρ 26=some (.i ys.length)∧
    lk ρ 27=some (.i i)∧lk ρ 6=some g) ls.length ?_ ?_
   ·refine⟨g1,0,ha,hk,Nat.zero_le _,rfl,?_,?_,?_,?_⟩<;>simp only[go_sem]
    all_goals rfl
   ·rintro m ρ h2 ⟨g,i,ha,hk,hi,rfl,r25,r26,r27,r6⟩
    simp only[go_sem,r25,r26,r27,r6];refine .intro (fun e=>?_) (fun e=>?_)
    ·have hlt:i<ys.length:=by simpa using e
     have hlt2:i<ls.length:=acK;have hb:=(hr.2 i hlt hlt2).fR hk;have t1:=oQ ls (i+1);have t2:=nR ls i hlt2;simp only[go_sem,r25,r26,r27,r6];refine .at i hlt (by rw[hb.cells];rfl) ?_
     simp only[go_sem,r25,r26,r27,r6,hb.cells,hb.Lx,and_self];refine ha.app (zs:=ls[i].map aI) (by rw[u5];decide) (by rw[OK];decide) (fun k hk=>by rw[hb.src u5];exact hk) (by rw[u5,gu];trivial) (by rw[u5,gu];trivial) ?_ fun g' h3 ha' hk' =>?_
     ·rw[OK,acA,acA]
      rw[t2,acE]at t1;omega
     ·have w2:IntKind.i64.wrap ((i:Int)+1)=((i+1:Nat):Int):=by rw[IntWalk.i64_in _ acK];omega
      simp only[go_sem,r25,r26,r27,r6,w2];rw[←List.map_append,←t2]at ha';refine⟨ls.length - (i+1),acK,g',i+1,ha',hk.trans hk',hlt2,rfl,?_,?_,?_,?_⟩<;>simp only[go_sem,r25,r26,r27,r6]
    ·have hge:i=ls.length:=by
      have:¬(i<ys.length):=by simpa using e
      omega
     subst hge;rw[List.take_length]at ha;simp only[go_sem,r25,r26,r27,r6];exact .mk _ ha.weak (.refl _) ⟨rfl,ha.1⟩
structure D where
 q:Nat
 b:List UInt8
 sy:Nat
 f:Nat
 off:Bool
variable {d:D}
def D.ok(d:D):Prop:=d.b.length≤d.q∧d.q≤1048576∧d.sy≤d.b.length∧d.f<9223372036854775808
def D.burn(d:D):D:=if 0<d.f then {d with f:=d.f - 1,off:=decide (d.f=1)} else d
def D.cells(d:D)(y:AV):List AV:=[.i d.q,y,.i d.sy,.i d.f,.b d.off]
def bR(h:Heap)(id:Nat)(d:D):Prop:=∃y,h id=some (.obj (d.cells y) 82)∧By h y d.b
theorem bR.keep{h h'}{id:Nat}{d}(hd:bR h id d)(hs:eu h h'):bR h' id d:=by obtain⟨y,h1,h2⟩:=hd;exact⟨y,hs _ _ _ h1,h2.fR hs⟩
theorem By.set{h}{id:Nat}{x}{l}{cs cs'}(hb:By h x l)(hid:h id=some (.obj cs 82)):By (upd h id (some (.obj cs' 82))) x l:=hb.keep (Keep.upd id _) hid acN
theorem KA(q:Nat)(hq:q≤1048576)(h:Heap):
  ai Tryz.prog 33 [.i q] h fun r h' =>∃id,h id=none∧r= .tup [.ptr id 0,.i 0]∧bR h' id ⟨q,[],0,0,false⟩∧Sub h h' :=by
 refine acJ Tryz.func33 13 [.tmp 2,.tmp 3] fun hwf=>?_
 simp only[go_sem];refine .intro (fun e=>absurd (acC e) acK) (fun e=>?_)
 simp only[go_sem];refine .no (decide_eq_false acK) ?_;simp only[go_sem];intro id hid;simp only[go_sem];exact .same (.refl _) ⟨id,hid,rfl,⟨_,ah ..,.inl ⟨.full,rfl⟩⟩,(Sub.refl h).new hid _⟩
theorem rj(d:D)(hd:d.ok)(id:Nat)(h:Heap)(y:AV)(hid:h id=some (.obj (d.cells y) 82)):
  ai Tryz.prog 88 [.ptr id 0] h fun r h' =>r= .b d.burn.off∧h' =upd h id (some (.obj (d.burn.cells y) 82)):=by
 obtain⟨q,b,sy,f,off⟩:=d;obtain⟨d1,d2,d3,d4⟩:=hd;simp only at d1 d2 d3 d4;simp only[D.cells]at hid;refine acJ Tryz.func88 27 [.tmp 2] fun hwf=>?_
 simp only[go_sem,hid];refine .intro (fun e=>?_) (fun e=>?_)
 ·have e:=acC e
  have w1:IntKind.i64.wrap ((f:Int) - 1)=((f - 1:Nat):Int):=aeq;simp only[go_sem,hid,w1];have hb:(((f - 1:Nat):Int)==0)=decide (f=1):=by
   by_cases h1:f=1
   ·simp[h1]
   ·have:f - 1≠0:=by omega
    simp[h1,Int.natCast_eq_zero,this]
  refine .same (.refl _) ⟨?_,?_⟩
  ·simp only[D.burn,if_pos (show 0<f by omega),hb,ax]
  ·simp only[D.burn,D.cells,if_pos (show 0<f by omega),hb]
 ·have e:=acD e
  have hf:¬0<f:=acK;simp only[go_sem,hid];refine .same (.refl _) ⟨?_,?_⟩
  ·simp only[D.burn,if_neg hf,ax]
  ·simp only[D.burn,D.cells,if_neg hf]
   funext j
   simp only[upd];split
   ·rename_i e;subst e;exact hid
   ·rfl
theorem D.rj(hd:d.ok):d.burn.ok:=by
 obtain⟨d1,d2,d3,d4⟩:=hd;unfold D.burn;split
 ·exact⟨d1,d2,d3,acL⟩
 ·exact⟨d1,d2,d3,d4⟩
theorem D.xu(d:D):d.burn.b=d.b:=by grind [D.burn]
theorem D.Kq(d:D):d.burn.q=d.q:=by grind [D.burn]
theorem D.Np(d:D):d.burn.sy=d.sy:=by grind [D.burn]
theorem NG(d:D)(hd:d.ok)(id:Nat)(h:Heap)(y:AV)(hid:h id=some (.obj (d.cells y) 82))(hb:By h y d.b):
  ai Tryz.prog 122 [.ptr id 0] h fun r h' =>r= .i (d.q - d.b.length:Nat)∧h' =h:=by
 obtain⟨q,b,sy,f,off⟩:=d;obtain⟨d1,d2,d3,d4⟩:=hd;simp only at d1 d2 d3 d4 hb;simp only[D.cells]at hid;refine acJ Tryz.func122 13 [.tmp 2] fun hwf=>?_
 have w1:IntKind.i64.wrap ((q:Int) - b.length)=((q - b.length:Nat):Int):=aeq;simp only[go_sem,hid,hb.len,w1];exact⟨.of acO,.same (.refl _) ⟨rfl,rfl⟩⟩
theorem Rf(d:D)(id:Nat)(h:Heap)(y:AV)(hid:h id=some (.obj (d.cells y) 82))(hb:By h y d.b):
  ai Tryz.prog 69 [.ptr id 0] h fun r h' =>r= .i d.b.length∧h' =h:=by
 simp only[D.cells]at hid;refine acJ Tryz.func69 8 [.tmp 2] fun hwf=>?_
 simp only[go_sem,hid,hb.len];exact acW
theorem Oq(d:D)(hd:d.ok)(id:Nat)(h:Heap)(y:AV)(hid:h id=some (.obj (d.cells y) 82))(hb:By h y d.b):
  ai Tryz.prog 68 [.ptr id 0] h fun r h' =>r= .sl (d.b.map aI) .no∧h' =h:=by
 obtain⟨d1,d2,d3,d4⟩:=hd;simp only[D.cells]at hid;refine acJ Tryz.func68 8 [.tmp 2] fun hwf=>?_
 simp only[go_sem,hid];refine(qs y d.b h hb acK).mono fun r h' ⟨e1,e2⟩=>?_
 subst e1;subst e2
 simp only[go_sem];exact acW
def D.append(d:D)(b:List UInt8):D×Nat:=
 if d.off then(d,9)else if d.q<d.b.length+b.length then(d,8)else
  let e:=D.burn {d with b:=d.b++b}
  (e,if e.off then 9 else 0)
def D.sync(d:D):D×Nat:=
 if d.off then(d,9)else if d.burn.off then(d.burn,9)else({d.burn with sy:=d.b.length},0)
def D.cut(d:D)(n:Int):D×Nat:=
 if d.off then(d,9)else if n<0∨(d.b.length:Int)<n then(d,1)else
  if d.burn.off then(d.burn,9)else({d.burn with b:=d.b.take n.toNat,sy:=min d.sy n.toNat},0)
theorem D.uo(hd:d.ok)(b:List UInt8):(d.append b).1.ok:=by
 unfold D.append;split
 ·omega
 ·split
  ·omega
  ·refine D.rj ⟨?_,hd.2.1,?_,hd.2.2.2⟩
   ·grind
   ·have:=hd.2.2.1
    grind
theorem D.ET(hd:d.ok)(n:Int):(d.cut n).1.ok:=by
 have hb:=D.rj hd;unfold D.cut;split
 ·exact hd
 ·split
  ·exact hd
  ·split
   ·exact hb
   ·obtain⟨d1,d2,d3,d4⟩:=hb
    obtain⟨e1,e2,e3,e4⟩:=hd;refine⟨?_,?_,?_,d4⟩
    ·grind [D.Kq,List.length_take]
    ·grind [D.Kq]
    grind
theorem uo(d:D)(hd:d.ok)(id:Nat)(h:Heap)(x:AV)(b:List UInt8)(hdk:bR h id d)(hx:By h x b)(hl:b.length≤1000000000):
  ai Tryz.prog 85 [.ptr id 0,x] h fun r h' =>r= .v (.int .i64 (d.append b).2)∧bR h' id (d.append b).1∧Keep id h h' :=by
 obtain⟨y,hid0,hb⟩:=hdk;have hid:=hid0;simp only[D.cells]at hid;have hok:=hd;obtain⟨d1,d2,d3,d4⟩:=hd;refine acJ Tryz.func85 26 [.tmp 4] fun hwf=>?_
 simp only[go_sem,hid];refine .intro (fun e=>?_) (fun e=>?_)
 ·simp only[go_sem]
  refine .same (.refl _) ?_;simp only[D.append,e,if_true,ax];exact aeg
 ·simp only[go_sem,hid,hx.len]
  refine(NG d hok id h y hid0 hb).mono fun r h' ⟨e1,e2⟩=>?_
  subst e1;subst e2
  simp only[go_sem];refine .intro (fun e2=>?_) (fun e2=>?_)
  ·have e2:=acC e2
   simp only[go_sem];refine .same (.refl _) ?_;simp only[D.append,e,if_pos (show d.q<d.b.length+b.length by omega),ax]
   exact aeg
  ·have e2:=acD e2
   have hno:¬d.q<d.b.length+b.length:=acK;simp only[go_sem,hid,hb.fit,hx.fit];refine(Am [y,x] [d.b,b] .full h' (.cons hb (.cons hx .nil)) ?_ acS).mono fun r h1 ⟨e1,hs⟩=>?_
   ·simp only[List.flatten_cons,List.flatten_nil,List.append_nil,acE];omega
   ·subst e1
    have hid1:=hs _ _ hid;simp only[go_sem,hid1];have hok2:D.ok {d with b:=d.b++b}:=⟨by show(d.b++b).length≤d.q;rw[acE];omega,d2,by show d.sy≤(d.b++b).length;rw[acE];omega,d4⟩
    refine(rj {d with b:=d.b++b} hok2 id _ (.sl ((d.b++b).map aI) .no) ?_).mono fun r h2 ⟨e1,e2⟩=>?_
    ·rw[ah]
     simp only[D.cells,List.flatten_cons,List.flatten_nil,List.append_nil]
    ·subst e1;subst e2
     have hk:Keep id h' (upd (upd h1 id (some (.obj (d.cells (.sl ((d.b++b).map aI) .no)) 82))) id (some (.obj ((D.burn {d with b:=d.b++b}).cells (.sl ((d.b++b).map aI) .no)) 82))):=
      (hs.keep id).trans ((Keep.upd id _).trans (Keep.upd id _))
     have hA:d.append b=(D.burn {d with b:=d.b++b},if(D.burn {d with b:=d.b++b}).off then 9 else 0):=by unfold D.append;rw[if_neg (by simp[e]),if_neg hno]
     simp only[go_sem];refine .intro (fun e3=>?_) (fun e3=>?_)
     ·simp only[go_sem]
      refine .same (.refl _) ?_;rw[hA,if_pos e3];refine⟨rfl,⟨_,ah ..,?_⟩,fun j k hj hk2=>?_⟩
      ·simp only[D.xu];exact .sl _ _
      ·rw[ag _ _ hj];exact hs _ _ hk2
     ·simp only[go_sem]
      refine .same (.refl _) ?_;rw[hA,if_neg (by simp[e3])]
      refine⟨rfl,⟨_,ah ..,?_⟩,fun j k hj hk2=>?_⟩
      ·simp only[D.xu];exact .sl _ _
      ·rw[ag _ _ hj];exact hs _ _ hk2
theorem HE(d:D)(hd:d.ok)(id:Nat)(h:Heap)(hdk:bR h id d):
  ai Tryz.prog 71 [.ptr id 0] h fun r h' =>r= .i d.sync.2∧bR h' id d.sync.1∧Keep id h h' :=by
 obtain⟨y,hid0,hb⟩:=hdk;have hid:=hid0;simp only[D.cells]at hid;refine acJ Tryz.func71 19 [.tmp 2] fun hwf=>?_
 simp only[go_sem,hid];refine .intro (fun e=>?_) (fun e=>?_)
 ·simp only[go_sem,e]
  refine .same (.refl _) ?_;simp only[D.sync,e,if_true,ax];exact aeg
 ·simp only[go_sem,e]
  refine(rj d hd id h y hid0).mono fun r h1 ⟨e1,e2⟩=>?_
  subst e1;subst e2
  simp only[go_sem];refine .intro (fun e3=>?_) (fun e3=>?_)
  ·simp only[go_sem]
   refine .same (.refl _) ?_;rw[show d.sync=(d.burn,9) by unfold D.sync;rw[if_neg (by simp[e]),if_pos e3]]
   exact⟨rfl,⟨_,ah ..,by rw[D.xu];exact hb.set hid⟩,Keep.upd id _⟩
  ·simp only[D.cells]
   simp only[go_sem,hb.len];refine .same (.refl _) ?_;rw[show d.sync=({d.burn with sy:=d.b.length},0) by unfold D.sync;rw[if_neg (by simp[e]),if_neg (by simp[e3])]]
   exact⟨rfl,⟨_,ah ..,by show By _ _ d.burn.b;rw[D.xu];exact hb.set hid⟩,Keep.upd id _⟩
theorem ET(d:D)(hd:d.ok)(id:Nat)(h:Heap)(n:Int)(hdk:bR h id d):
  ai Tryz.prog 70 [.ptr id 0,.i n] h fun r h' =>r= .v (.int .i64 (d.cut n).2)∧bR h' id (d.cut n).1∧Keep id h h' :=by
 obtain⟨y,hid0,hb⟩:=hdk;have hid:=hid0;simp only[D.cells]at hid;have hok:=hd;obtain⟨d1,d2,d3,d4⟩:=hd;refine acJ Tryz.func70 41 [.tmp 4] fun hwf=>?_
 simp only[go_sem,hid];refine .intro (fun e=>?_) (fun e=>?_)
 ·simp only[go_sem]
  refine .same (.refl _) ?_;simp only[D.cut,e,if_true,ax];exact aeg
 ·simp only[go_sem,hid]
  have bad:(n<0∨(d.b.length:Int)<n)→lV [.i 1] h fun r h' =>r= .v (.int .i64 (d.cut n).2)∧bR h' id (d.cut n).1∧Keep id h h' :=fun hbad=>by refine .same (.refl _) ?_;simp only[D.cut,e,if_pos hbad,ax];exact aeg
  refine .intro (fun e2=>?_) (fun e2=>?_)
  ·have e2' :=acC e2
   simp only[go_sem,e2];exact bad (.inl e2')
  ·have e2' :=acD e2
   simp only[go_sem,e2,hid,hb.len];refine .intro (fun e3=>?_) (fun e3=>?_)
   ·have e3' :=acC e3
    simp only[go_sem];exact bad (.inr e3')
   ·have e3' :=acD e3
    have hno:¬(n<0∨(d.b.length:Int)<n):=acK;simp only[go_sem];refine(rj d hok id h y hid0).mono fun r h1 ⟨e1,e2⟩=>?_
    subst e1;subst e2
    simp only[go_sem];refine .intro (fun e4=>?_) (fun e4=>?_)
    ·simp only[go_sem]
     refine .same (.refl _) ?_;rw[show d.cut n=(d.burn,9) by unfold D.cut;rw[if_neg (by simp[e]),if_neg hno,if_pos e4]]
     exact⟨rfl,⟨_,ah ..,by rw[D.xu];exact hb.set hid⟩,Keep.upd id _⟩
    ·have hb1:By (upd h id (some (.obj (d.burn.cells y) 82))) y d.b:=hb.set hid
     simp only[D.cells]at hb1⊢;simp only[go_sem];refine hb1.take (m:=n) (x:=.i64) n.toNat ?_ acK acK u5 fun z hz=>?_
     ·simp only[go_sem]
     ·simp only[go_sem]
      refine(qs z _ _ hz aeK).mono fun r h1 ⟨e1,e2⟩=>?_
      subst e1;subst e2
      simp only[go_sem];refine .same (.refl _) ?_;rw[show d.cut n=({d.burn with b:=d.b.take n.toNat,sy:=min d.sy n.toNat},0) by unfold D.cut;rw[if_neg (by simp[e]),if_neg hno,if_neg (by simp[e4])]]
      refine⟨rfl,⟨.sl ((d.b.take n.toNat).map aI) .no,?_,.sl _ _⟩,Keep.upd id _⟩;simp only[ah,D.cells,D.Np];have:(if n<(d.sy:Int)then n else(d.sy:Int))=((min d.sy n.toNat:Nat):Int):=by split<;>omega
      rw[this]
theorem D.Nh{b:List UInt8}(h1:d.off=false)(h2:d.f=0)(h3:d.b.length+b.length≤d.q):d.append b=({d with b:=d.b++b},0):=by
 rcases d with⟨q,b0,sy,f,off⟩
 subst h1;subst h2
 unfold D.append;rw[if_neg acS,if_neg acL];rfl
theorem D.PF(h1:d.off=false)(h2:d.f=0):d.sync=({d with sy:=d.b.length},0):=by simp_all [D.sync,D.burn,if_neg]
theorem dthen{f}{args}{h}{Q}{X}{id:Nat}{d}(hf:ai Tryz.prog f args h fun r h' =>r=X∧bR h' id d∧Keep id h h')(k:∀h',bR h' id d→Keep id h h'→Q X h'):ai Tryz.prog f args h Q:=
 hf.mono fun r h' ⟨e1,e2,e3⟩=>by subst e1;exact k h' e2 e3
theorem L6(d:D)(hk:d.ok)(id:Nat)(h:Heap)(hd:bR h id d):ai Tryz.prog 68 [.ptr id 0] h fun r h' =>r= .sl (d.b.map aI) .no∧h' =h:=by obtain⟨y,h1,h2⟩:=hd;exact Oq d hk id h y h1 h2
theorem NZ(d)(id:Nat)(h)(hd:bR h id d):ai Tryz.prog 69 [.ptr id 0] h fun r h' =>r= .i d.b.length∧h' =h:=by obtain⟨y,h1,h2⟩:=hd;exact Rf d id h y h1 h2
theorem kY{b:List UInt8}(h1:d.off=false)(h2:d.b.length+b.length≤d.q):d.append b=(D.burn {d with b:=d.b++b},if(D.burn {d with b:=d.b++b}).off then 9 else 0):=by simp_all [D.append,if_neg]
theorem D.O9(h:d.f=0):d.burn=d:=by simp_all [D.burn,if_neg]
theorem D.WV(h1:d.off=false)(h2:d.f=0)(h3:n≤d.b.length):d.cut n=({d with b:=d.b.take n,sy:=min d.sy n},0):=by simp_all [D.cut,if_neg,D.O9]
def BF(s:BitVec 32):BitVec 32:=if s &&& 1#32=1#32 then(s>>>1) ^^^ 0xedb88320#32 else s>>>1
def Ic:Nat→BitVec 32→BitVec 32
 |0,s=>s
 |n+1,s=>BF (Ic n s)
def rm(s:BitVec 32)(c:UInt8):BitVec 32:=Ic 8 (s ^^^ BitVec.ofNat 32 c.toNat)
def crc(l:List UInt8):BitVec 32:= ~~~ (l.foldl rm (BitVec.allOnes 32))
theorem Qs(c:UInt8):IntKind.u32.wrap (c.toNat:Int)=((BitVec.ofNat 32 c.toNat).toNat:Int):=by rfl
theorem FI(x):(((x &&& 1#32).toNat:Int)==1)=decide (x &&& 1#32=1#32):=by
 rw[Bool.eq_iff_iff,beq_iff_eq,decide_eq_true_iff];constructor
 ·intro h
  apply BitVec.eq_of_toNat_eq
  grind
 grind
theorem Mr(y)(l)(h:Heap)(hb:By h y l)(hl:l.length≤1000000000):
  ai Tryz.prog 125 [y] h fun r h' =>r= .v (.int .u32 ((crc l).toNat:Int))∧h' =h:=by
 refine acJ Tryz.func125 31 [.tmp 2] fun hwf=>?_
 simp only[go_sem,hb.len];refine .intro (fun m ρ h' =>h' =h∧∃i:Nat,i≤l.length∧m=l.length - i∧lk ρ 7=some y∧lk ρ 8=some (.i l.length)∧lk ρ 9=some (.i i)∧lk ρ 3=some (.v (.int .u32 (((l.take i).foldl rm (BitVec.allOnes 32)).toNat:Int)))) l.length ?_ ?_
 ·refine⟨rfl,0,acK,rfl,?_,?_,?_,?_⟩<;>simp only[go_sem]
  rfl
 ·rintro m ρ h' ⟨rfl,i,hi,rfl,r7,r8,r9,r3⟩
  simp only[go_sem,r7,r8,r9,r3];refine .intro (fun e=>?_) (fun e=>?_)
  ·have hlt:i<l.length:=acH e
   have w1:IntKind.i64.wrap ((i:Int)+1)=((i+1:Nat):Int):=acX;have hs:(l.take (i+1)).foldl rm (BitVec.allOnes 32)=rm ((l.take i).foldl rm (BitVec.allOnes 32)) l[i]:=by grind [List.take_succ_eq_append_getElem]
   generalize (l.take i).foldl rm (BitVec.allOnes 32)=s at r3 hs;simp only[go_sem,r7,r8,r9,r3];refine hb.idx i rfl hlt u5 u5a fun p hp=>?_
   simp only[go_sem,r7,r8,r9,r3,hp _,Qs];refine .intro (fun m ρ h2=>h2=h'∧∃j:Nat,j≤8∧m=8 - j∧lk ρ 7=some y∧lk ρ 8=some (.i l.length)∧lk ρ 9=some (.i i)∧lk ρ 17=some (.i j)∧lk ρ 3=some (.v (.int .u32 ((Ic j (s ^^^ BitVec.ofNat 32 l[i].toNat)).toNat:Int)))) 8 ?_ ?_
   ·refine⟨rfl,0,acK,rfl,?_,?_,?_,?_,?_⟩<;>simp only[go_sem,r7,r8,r9,r3]
    rfl
   ·rintro m ρ h2 ⟨rfl,j,hj,rfl,q7,q8,q9,q17,q3⟩
    simp only[go_sem,q7,q8,q9,q17,q3];refine .intro (fun e=>?_) (fun e=>?_)
    ·have hjl:j<8:=by grind
     have w2:IntKind.i64.wrap ((j:Int)+1)=((j+1:Nat):Int):=acX;have hc:Ic (j+1) (s ^^^ BitVec.ofNat 32 l[i].toNat)=BF (Ic j (s ^^^ BitVec.ofNat 32 l[i].toNat)):=rfl;generalize Ic j (s ^^^ BitVec.ofNat 32 l[i].toNat)=z at q3 hc;simp only[go_sem,q7,q8,q9,q17,q3,FI];refine .intro (fun e2=>?_) (fun e2=>?_)
     ·simp only[go_sem,q7,q8,q9,q17,q3,FI,w2]
      refine⟨_,?_,rfl,j+1,acK,rfl,?_,?_,?_,?_,?_⟩
      rotate_left 5
      ·simp only[go_sem,q7,q8,q9,q17,q3]
       simp_all [BF,if_pos,acC]
      ·omega
      all_goals simp only[go_sem,q7,q8,q9,q17,q3,w2]
     ·simp only[go_sem,q7,q8,q9,q17,q3,FI,w2]
      refine⟨_,?_,rfl,j+1,acK,rfl,?_,?_,?_,?_,?_⟩
      rotate_left 5
      ·simp only[go_sem,q7,q8,q9,q17,q3]
       simp_all [BF,if_neg,acD]
      ·omega
      all_goals simp only[go_sem,q7,q8,q9,q17,q3,w2]
    ·have hj8:j=8:=by grind
     subst hj8;simp only[go_sem,q7,q8,q9,q17,q3,w1];refine⟨_,?_,rfl,i+1,acK,rfl,?_,?_,?_,?_⟩
     rotate_left 4
     ·simp only[go_sem,q7,q8,q9,q17,q3]
      rw[hs];rfl
     ·omega
     all_goals simp only[go_sem,q7,q8,q9,q17,q3,w1]
  ·have hge:i=l.length:=by grind
   subst hge;rw[List.take_length]at r3;simp only[go_sem,r7,r8,r9,r3];exact acW
def vF(n:Nat):List UInt8:=[UInt8.ofNat n,UInt8.ofNat (n / 256),UInt8.ofNat (n / 65536),UInt8.ofNat (n / 16777216)]
def iS(l:List UInt8):Nat:=(l.getD 0 0).toNat+(l.getD 1 0).toNat*256+(l.getD 2 0).toNat*65536+(l.getD 3 0).toNat*16777216
theorem GD(n:Nat)(hn:n<4294967296)(h:Heap):ai Tryz.prog 124 [.v (.int .u32 (n:Int))] h fun r h' =>r= .sl ((vF n).map aI) .no∧h' =h:=by
 refine acJ Tryz.func124 15 [.tmp 2] fun hwf=>?_
 have s8:=fun K=>Kp (U:=U) (ty:=195) (K:=K) n 8 .u64 acN
 have s16:=fun K=>Kp (U:=U) (ty:=195) (K:=K) n 16 .u64 acN
 have s24:=fun K=>Kp (U:=U) (ty:=195) (K:=K) n 24 .u64 acN
 simp only[Int.cast_ofNat_Int]at s8 s16 s24;simp only[go_sem,↓s8,↓s16,↓s24,w8];exact ae2
theorem C0(y)(l)(h)(hb:By h y l)(hl:4≤l.length):ai Tryz.prog 126 [y] h fun r h' =>r= .v (.int .u32 (iS l:Nat))∧h' =h:=by
 refine acJ Tryz.func126 25 [.tmp 2] fun hwf=>?_
 have lt:∀c:UInt8,c.toNat<256:=fun c=>c.toNat_lt
 have hnum:iS l=l[0].toNat+l[1].toNat*2 ^ 8+l[2].toNat*2 ^ 16+l[3].toNat*2 ^ 24:=by grind [iS]
 generalize hc0:l[0]=c0 at hnum;generalize hc1:l[1]=c1 at hnum;generalize hc2:l[2]=c2 at hnum;generalize hc3:l[3]=c3 at hnum;have v:=fun c:UInt8=>w32 c.toNat acL
 have s1:=fun K=>EK (U:=U) (ty:=195) (K:=K) c1.toNat 8 .u64 acN (lt _)
 have s2:=fun K=>EK (U:=U) (ty:=195) (K:=K) c2.toNat 16 .u64 acN (lt _)
 have s3:=fun K=>EK (U:=U) (ty:=195) (K:=K) c3.toNat 24 .u64 acN (lt _)
 have o1:=fun K=>Ko (U:=U) (ty:=195) (K:=K) c0.toNat c1.toNat 8 acL acN (lt _)
 have o2:=fun K=>Ko (U:=U) (ty:=195) (K:=K) (c0.toNat+c1.toNat*2 ^ 8) c2.toNat 16 acL acN (lt _)
 have o3:=fun K=>Ko (U:=U) (ty:=195) (K:=K) (c0.toNat+c1.toNat*2 ^ 8+c2.toNat*2 ^ 16) c3.toNat 24 acL acN (lt _)
 simp only[Int.cast_ofNat_Int]at s1 s2 s3;simp only[go_sem];refine⟨.of acO,?_⟩;refine hb.idx 0 rfl acK u5 u5a fun p0 hp0=>?_
 rw[hc0]at hp0;simp only[go_sem,hp0 _,v];refine hb.idx 1 rfl acK u5 u5a fun p1 hp1=>?_
 rw[hc1]at hp1;simp only[go_sem,hp1 _,v,↓s1,↓o1];refine hb.idx 2 rfl acK u5 u5a fun p2 hp2=>?_
 rw[hc2]at hp2;simp only[go_sem,hp2 _,v,↓s2,↓o2];refine hb.idx 3 rfl acK u5 u5a fun p3 hp3=>?_
 rw[hc3]at hp3;simp only[go_sem,hp3 _,v,↓s3,↓o3];refine .same (.refl _) ⟨?_,rfl⟩;rw[hnum];rfl
theorem th(n:Nat):(vF n).length=4:=rfl
theorem Oa(l):iS l<4294967296:=by
 have h:∀c:UInt8,c.toNat<256:=fun c=>c.toNat_lt
 have h0:=h (l.getD 0 0);have h1:=h (l.getD 1 0);have h2:=h (l.getD 2 0);have h3:=h (l.getD 3 0);unfold iS;omega
def frame(p:List UInt8):List UInt8:=vF p.length++vF (crc p).toNat++p
theorem tj(p):(frame p).length=8+p.length:=by grind [frame,th]
def gS(l:List UInt8):Option (List UInt8):=
 if l.length<8 then none else if iS l<1∨8192<iS l∨l.length - 8<iS l then none else
  if(crc ((l.drop 8).take (iS l))).toNat=iS (l.drop 4)then some ((l.drop 8).take (iS l))else none
theorem mX{l p}(h:gS l=some p):8+p.length≤l.length∧1≤p.length∧p.length≤8192:=by
 unfold gS at h;split at h
 ·cases h
 ·split at h
  ·cases h
  ·split at h
   ·simp only[Option.some.injEq]at h
    subst h;rw[List.length_take,List.length_drop];omega
   ·cases h
theorem rO(l)(h:l.length<8):gS l=none:=by simp_all [gS,if_pos]
def scan(l:List UInt8):List (List UInt8)×Nat:=match h:gS l with
 |none=>([],0)
 |some p=>let r:=scan (l.drop (8+p.length));(p::r.1,8+p.length+r.2)
termination_by l.length
decreasing_by
 have:=mX h;rw[List.length_drop];omega
theorem rD{l}(h:gS l=none):scan l=([],0):=by grind [scan]
theorem u6{l p}(h:gS l=some p):scan l=(p::(scan (l.drop (8+p.length))).1,8+p.length+(scan (l.drop (8+p.length))).2):=by grind [scan]
theorem Hy(l):(scan l).2≤l.length:=by
 induction hn:l.length using Nat.strongRecOn generalizing l with
 |_ n ih=>
  cases hb:gS l with
  |none=>simp_all [rD,Nat.zero_le]
  |some p=>have hl:=mX hb;rw[u6 hb];have:=ih (l.drop (8+p.length)).length acL _ rfl;rw[List.length_drop]at this;omega
theorem KR(y)(l)(h)(hb:By h y l)(hl:l.length≤1000000):
  ai Tryz.prog 86 [y] h fun r h' =>r= .sl ((frame l).map aI) .no∧Sub h h' :=by
 refine acJ Tryz.func86 13 [.tmp 2] fun hwf=>?_
 have w1:=w32 l.length acK;simp only[go_sem,hb.len,w1];refine(GD l.length acK h).pthen ?_;simp only[go_sem];refine(Mr y l h hb acK).pthen ?_;simp only[go_sem];refine(GD (crc l).toNat (crc l).isLt h).pthen ?_;simp only[go_sem,hb.cells,hb.fit];refine(Am [.sl ((vF l.length).map aI) .no,.sl ((vF (crc l).toNat).map aI) .no,y] [vF l.length,vF (crc l).toNat,l] .full h (.cons (.sl _ _) (.cons (.sl _ _) (.cons hb .nil))) ?_ acS).sthen fun h' hs=>?_
 ·grind [th]
 simp only[go_sem];refine .same (.refl _) ⟨?_,hs⟩;simp[frame,ax]
theorem BM(y)(l)(h)(hb:By h y l)(hl:l.length≤2000000):
  ai Tryz.prog 87 [y] h fun r h' =>(∃P p b,r= .tup [P,.b b]∧By h P p∧gS l=if b=true then some p else none)∧h' =h:=by
 refine acJ Tryz.func87 36 [.tmp 2,.tmp 3] fun hwf=>?_
 rcases Nat.lt_or_ge l.length 8 with h8|h8
 ·have t1:decide ((l.length:Int)<8)=true:=decide_eq_true acK
  simp only[go_sem,hb.len,t1];exact .same (.refl _) ⟨⟨_,[],false,rfl,.nil _,rO l h8⟩,rfl⟩
 ·have t1:decide ((l.length:Int)<8)=false:=decide_eq_false acK
  simp only[go_sem,hb.len,t1];refine(C0 y l h hb acK).pthen ?_;have hn:=Oa l;have w1:IntKind.i64.wrap ((iS l:Nat):Int)=((iS l:Nat):Int):=aY _ acK;have w2:IntKind.i64.wrap ((l.length:Int) - 8)=((l.length - 8:Nat):Int):=ac4
  by_cases hbad:iS l<1∨8192<iS l∨l.length - 8<iS l
  ·have hnone:gS l=none:=by unfold gS;rw[if_neg acK,if_pos hbad]
   have fin:∀Z:Prop,Z→Z:=fun _ z=>z
   by_cases c1:iS l<1
   ·have t2:decide (((iS l:Nat):Int)<1)=true:=decide_eq_true acK
    simp only[go_sem,hb.len,w1,w2,t2];exact aee
   ·have t2:decide (((iS l:Nat):Int)<1)=false:=decide_eq_false acK
    by_cases c2:8192<iS l
    ·have t3:decide ((8192:Int)<((iS l:Nat):Int))=true:=decide_eq_true acK
     simp only[go_sem,hb.len,w1,w2,t2,t3];exact aee
    ·have t3:decide ((8192:Int)<((iS l:Nat):Int))=false:=decide_eq_false acK
     have t4:decide (((l.length - 8:Nat):Int)<((iS l:Nat):Int))=true:=decide_eq_true acK;simp only[go_sem,hb.len,w1,w2,t2,t3,t4];exact aee
  ·have t2:decide (((iS l:Nat):Int)<1)=false:=decide_eq_false acK
   have t3:decide ((8192:Int)<((iS l:Nat):Int))=false:=decide_eq_false acK;have t4:decide (((l.length - 8:Nat):Int)<((iS l:Nat):Int))=false:=decide_eq_false acK;have w3:IntKind.i64.wrap ((8:Int)+((iS l:Nat):Int))=((8+iS l:Nat):Int):=ac4;simp only[go_sem,hb.len,w1,w2,t2,t3,t4,w3];refine hb.cut (m:=8) (m2:=(8+iS l:Nat)) (x:=.i64) (x2:=.i64) 8 (8+iS l) ?_ rfl ?_ rfl acK acK u5 fun z hz=>?_
   ·simp only[go_sem]
   ·simp only[go_sem]
   rw[Nat.add_sub_cancel_left]at hz;have hzl:((l.drop 8).take (iS l)).length≤1000000:=by rw[List.length_take,List.length_drop];omega
   simp only[go_sem];refine .quiet acO ?_;simp only[go_sem];refine⟨_,Mr z _ h hz acK,?_⟩;simp only[go_sem];refine hb.from (m:=4) (x:=.i64) 4 ?_ rfl acK u5 fun z4 hz4=>?_
   ·simp only[go_sem]
   simp only[go_sem];refine⟨_,C0 z4 _ h hz4 aeJ,?_⟩;simp only[go_sem];refine .same (.refl _) ⟨⟨z,_,_,rfl,hz,?_⟩,rfl⟩;unfold gS;rw[if_neg acK,if_neg hbad]
   by_cases hc:(crc ((l.drop 8).take (iS l))).toNat=iS (l.drop 4)
   ·rw[if_pos hc,hc];simp
   ·rw[if_neg hc,if_neg]
    simp only[beq_iff_eq];omega
theorem OJ:(U 26).bytes=24:=acY
def kL(p:List UInt8):AV:=.sl (p.map aI) .no
theorem Hx(ps)(h):Ab.Rows 5 h (ps.map kL) ps:=⟨acS,fun i h1 h2=>by simp only[acB];exact .sl _ _⟩
theorem zb(ps:List (List UInt8)):Sized 1 (ps.map kL):=(Hx ps cL).sized
def gY(h:Heap)(y:AV)(xs:List AV)(sp:List Nat):Prop:=(y= .sl xs .full∧sp= [])∨∃k,y= .sl xs (.own k)∧h k=some (.spare xs.length 1)∧sp= [k]
theorem Jr{l}{ps}{p}(h:scan l=(ps++(scan (l.drop at_)).1,at_+(scan (l.drop at_)).2))(hp:gS (l.drop at_)=some p):
  scan l=((ps++ [p])++(scan (l.drop (at_+(8+p.length)))).1,(at_+(8+p.length))+(scan (l.drop (at_+(8+p.length)))).2):=by
 simp_all [u6,List.drop_drop,Nat.add_assoc]
theorem Oy(y:AV)(l:List UInt8)(h:Heap)(hb:By h y l)(hl:l.length≤2000000):
  ai Tryz.prog 67 [y] h fun r h' =>∃z sp,r= .tup [z,.i ((scan l).2:Nat)]∧gY h' z ((scan l).1.map kL) sp∧Sub h h'∧∀i∈sp,h i=none:=by
 refine acJ Tryz.func67 29 [.tmp 2,.tmp 3] fun hwf=>?_
 simp only[go_sem];refine .intro (fun m ρ h' =>∃(i:Nat) (ps:List (List UInt8)) (z:AV),Acc U 26 h h' z (ps.map kL)∧eu h h'∧ps.length≤i∧i≤l.length∧m=l.length - i∧scan l=(ps++(scan (l.drop i)).1,i+(scan (l.drop i)).2)∧
  lk ρ 0=some y∧lk ρ 4=some z∧lk ρ 5=some (.i (i:Nat))) l.length ?_ ?_
 ·refine⟨0,[],_,.full (.refl h),.refl h,acS,acK,rfl,acS,?_,?_,?_⟩<;>simp only[go_sem]
 ·rintro m ρ h' ⟨i,ps,z,ha,hk,hpi,hi,rfl,hsc,r0,r4,r5⟩
  have hb' :=hb.fR hk;simp only[go_sem,r0,r4,r5];refine hb'.from (m:=i) (x:=.i64) i ?_ rfl hi u5 fun y2 hy2=>?_
  ·rfl
  simp only[go_sem,r0,r4,r5];refine(BM y2 (l.drop i) h' hy2 acL).mono fun r h2 ⟨⟨P,p,b,e1,hP,hbg⟩,e2⟩=>?_
  subst e1;subst e2
  cases b with
  |false=>
   rw[if_neg acS]at hbg;rw[rD hbg]at hsc;simp only[go_sem,r0,r4,r5];have hs:=ha.1;rw[hsc];rcases ha.2 with rfl|⟨k,k1,rfl,k2⟩
   ·exact .same (.refl _) ⟨_,[],rfl,.inl ⟨acS,rfl⟩,hs,acS⟩
   ·rw[u27]at k2
    exact .same (.refl _) ⟨_,[k],rfl,.inr ⟨k,acS,acL,rfl⟩,hs,acL⟩
  |true=>
   rw[if_pos rfl]at hbg;have hpl:=mX hbg;rw[List.length_drop]at hpl;have hsc' :=Jr hsc hbg;have w1:IntKind.i64.wrap ((8:Int)+(p.length:Int))=((8+p.length:Nat):Int):=acX;have w2:IntKind.i64.wrap ((i:Int)+((8+p.length:Nat):Int))=((i+(8+p.length):Nat):Int):=acX;simp only[go_sem,r0,r4,r5];refine(qs P p h2 hP acK).pthen' ?_;simp only[go_sem,r0,r4,r5];refine ha.app (zs:=[kL p]) acN acN (fun k hk=>hk) (by grind [u27,zb]) (by grind [u27,Sized,kL,AV.cells]) (by grind [OJ]) fun z' h3 ha' hk' =>?_
   rw[show ps.map kL++ [kL p]=(ps++ [p]).map kL by simp]at ha'
   have hP3:=hP.fR hk';simp only[go_sem,r0,r4,r5,hP3.len,w1,w2];refine⟨_,?_,i+(8+p.length),ps++ [p],z',ha',hk.trans hk',acL,acK,rfl,hsc',?_,?_,?_⟩
   ·omega
   all_goals simp only[go_sem,r0,r4,r5,hP3.len,w1,w2]
theorem Oz(l):(scan l).1.length≤l.length∧∀p∈(scan l).1,p.length≤8192:=by
 induction hn:l.length using Nat.strongRecOn generalizing l with
 |_ n ih=>
  cases hb:gS l with
  |none=>simp_all [rD,Nat.zero_le]
  |some p=>
   have hl:=mX hb;rw[u6 hb]
   grind
theorem gY.row{h}{y}{xs}{sp}(hg:gY h y xs sp):∃q,y= .sl xs q:=by rcases hg with⟨rfl,_⟩|⟨k,rfl,_⟩<;>exact⟨_,rfl⟩
def Touch(S:List Nat)(h h' :Heap):Prop:=∀j k,j∉S→h j=some k→h' j=some k
theorem Touch.refl(S)(h):Touch S h h:=fun _ _ _ e=>e
theorem Touch.trans{S T}{a b c}(x:Touch S a b)(y:Touch T b c):Touch (S++T) a c:=fun j k e hj=>y j k acL (x j k acL hj)
theorem Touch.of{S}{h h'}(hs:Ab.Sub h h'):Touch S h h' :=fun _ _ _ e=>hs _ _ e
theorem Touch.keep{i:Nat}{h h'}(hs:Keep i h h'):Touch [i] h h' :=fun j k e hj=>hs j k acL hj
theorem Touch.upd{h}{i:Nat}{k}:Touch [i] h (upd h i k):=Touch.keep (Keep.upd i k)
theorem Touch.mono{S T}{h h'}(ht:Touch S h h')(hs:∀i∈S,i∈T∨h i=none):Touch T h h' :=fun j k e hj=>ht j k acL hj
theorem gY.touch{h h'}{y}{xs}{sp S}(hg:gY h y xs sp)(ht:Touch S h h')(hn:∀i∈sp,i∉S):gY h' y xs sp:=by
 rcases hg with⟨rfl,rfl⟩|⟨k,rfl,k1,rfl⟩
 ·exact .inl ⟨rfl,rfl⟩
 ·exact .inr ⟨k,rfl,ht _ _ (hn k acS) k1,rfl⟩
theorem gY.has{h}{y}{xs}{sp}(hg:gY h y xs sp):∀i∈sp,∃n,h i=some (.spare n 1):=by
 rcases hg with⟨rfl,rfl⟩|⟨k,rfl,k1,rfl⟩
 ·simp
 grind
theorem gY.app{h}{y v}{xs zs}{sp}{Q}(hg:gY h y xs sp)(hsrc:∀k:List AV→Prop,k zs→gX U 26 h v k)(s1:Sized 1 xs)(s2:Sized 1 zs)
  (hlen:xs.length+zs.length≤1000000000000) (hk:∀y' h' sp',gY h' y' (xs++zs) sp'→Touch sp h h'→(∀i∈sp',i∈sp∨h i=none)→Q y' h'):apK U h y v Q (.slice 26):=by
 rcases hg with⟨rfl,rfl⟩|⟨k,rfl,k1,rfl⟩
 ·refine(qg ..).mpr ⟨acN,acN,hsrc _ ⟨by grind [u27],by grind [u27],by grind [OJ],fun hn=>?_,fun hn=> .own fun id hid=>?_⟩⟩
  ·subst hn
   exact hk _ _ [] (.inl ⟨acS,rfl⟩) (.refl _ _) acS
  ·rw[u27]
   exact hk _ _ [id] (.inr ⟨id,rfl,by rw[ah,acE],rfl⟩) (.of ((Ab.Sub.refl h).new hid _)) acL
 ·refine(BB ..).mpr ⟨acN,acN,hsrc _ ⟨by grind [u27],by grind [u27],by grind [OJ],by grind [u27],?_⟩⟩
  rw[u27];exact hk _ _ [k] (.inr ⟨k,rfl,by rw[ah,acE],rfl⟩) .upd acS
def JAt(h:Heap)(t jid did:Nat)(ps:List (List UInt8))(down:Bool)(sp:List Nat):Prop:=
 ∃y xs,h jid=some (.obj [.ptr did 0,y,.b down] t)∧gY h y xs sp∧∀g,Ab.Rows 5 g xs ps
theorem JAt.touch{h h'}{ps}{down}{sp S}(hj:JAt h t jid did ps down sp)(ht:Touch S h h')(h1:jid∉S)(hn:∀i∈sp,i∉S):JAt h' t jid did ps down sp:=by obtain⟨y,xs,a,b,c⟩:=hj;exact⟨y,xs,ht _ _ h1 a,b.touch ht hn,c⟩
theorem JAt.sub{h h'}{ps}{down}{sp}(hj:JAt h t jid did ps down sp)(ht:Ab.Sub h h'):JAt h' t jid did ps down sp:=
 hj.touch (S:=[]) (.of ht) acS acS
theorem Jo{h}{xs}{ps}{x}{p}(hr:Ab.Rows 5 h xs ps)(hx:By h x p):Ab.Rows 5 h (xs++ [x]) (ps++ [p]):=⟨by simp[hr.1],fun i h1 h2=>by
 have hl:=hr.1
 by_cases hi:i<xs.length
 ·rw[List.getElem_append_left hi,List.getElem_append_left acK]
  exact hr.2 i hi acK
 ·have e:i=xs.length:=by grind
  subst e;simpa[hl]using hx⟩
theorem wH(jid did:Nat)(ps)(down)(sp)(h)(hj:JAt h 116 jid did ps down sp):ai Tryz.prog 62 [.ptr jid 0] h fun r h' =>r= .b down∧h' =h:=by
 obtain⟨y,xs,a,_,_⟩:=hj;refine acJ Tryz.func62 7 [.tmp 2] fun hwf=>?_
 simp only[go_sem,a];exact acW
theorem yY(jid did:Nat)(ps)(down)(sp)(h)(hj:JAt h 116 jid did ps down sp)(hl:ps.length≤1000000)(hp:∀p∈ps,p.length≤1000000):
  ai Tryz.prog 58 [.ptr jid 0] h fun r h' =>∃q,r= .sl (ps.map kL) q∧Ab.Sub h h' :=by
 obtain⟨y,xs,a,b,c⟩:=hj;refine acJ Tryz.func58 22 [.tmp 2] fun hwf=>?_
 obtain⟨qy,rfl⟩:=b.row;have hlen:=(c h).1;simp only[go_sem,a];refine .intro (fun m ρ g=>∃(i:Nat) (z:AV),Acc U 26 h g z ((ps.take i).map kL)∧i≤ps.length∧m=ps.length - i∧lk ρ 3=some z∧lk ρ 9=some (.sl xs qy)∧lk ρ 10=some (.i xs.length)∧lk ρ 11=some (.i i)) (ps.length - 0) ?_ ?_
 ·refine⟨0,_,.full (.refl h),acK,rfl,?_,?_,?_,?_⟩<;>simp only[go_sem]
 ·rintro m ρ g ⟨i,z,ha,hi,rfl,r3,r9,r10,r11⟩
  by_cases hc:i<ps.length
  ·have d1:decide ((i:Int)<(xs.length:Int))=true:=decide_eq_true acK
   have w1:IntKind.i64.wrap ((i:Int)+1)=((i+1:Nat):Int):=acX;have hx:=(c g).2 i acK hc;simp only[go_sem,r3,r9,r10,r11,d1];refine .at i acK (by rw[hx.cells];rfl) ?_
   simp only[go_sem,r3,r9,r10,r11,hx.cells,hx.Lx,and_self];refine(qs xs[i] ps[i] g hx acL).pthen' ?_;simp only[go_sem,r3,r9,r10,r11];refine ha.app (v:=.sl [kL ps[i]] .full) (zs:=[kL ps[i]]) acN acN (fun k hk=>hk) (by grind [u27,zb]) (by grind [u27,Sized,kL,AV.cells]) (by grind [OJ]) fun z' g2 ha' hk' =>?_
   simp only[go_sem,r3,r9,r10,r11,w1];refine⟨_,?_,i+1,z',?_,acK,rfl,?_,?_,?_,?_⟩
   ·omega
   ·grind [List.take_succ_eq_append_getElem]
   all_goals simp only[go_sem,r3,r9,r10,r11,w1]
  ·obtain rfl:i=ps.length:=by omega
   have d1:decide ((ps.length:Int)<(xs.length:Int))=false:=decide_eq_false acK;simp only[go_sem,r3,r9,r10,r11,d1];rw[List.take_length]at ha;obtain⟨q,rfl⟩:=ha.row;exact .same (.refl _) ⟨q,rfl,ha.1⟩
def D.cg(d:D):D×Nat:=
 let c:=if(scan d.b).2<d.b.length then d.cut ((scan d.b).2:Nat)else(d,0)
 if c.2=0 then c.1.sync else c
theorem Lb(d:D)(hd:d.ok)(id:Nat)(h:Heap)(hdk:bR h id d):
  ai Tryz.prog 56 [.ptr id 0] h fun r h' =>∃J,r= .tup [J,.i (d.cg.2:Nat)]∧bR h' id d.cg.1∧Keep id h h'∧
   if d.cg.2=0 then∃jid sp,J= .ptr jid 0∧h jid=none∧JAt h' 116 jid id (scan d.b).1 false sp∧∀i∈sp,h i=none∧i≠jid else J= .v (.pointer none):=by
 refine ai.of_wp hU Tryz.func56 rfl acY 35 rfl [.tmp 2,.tmp 3] rfl (acz rfl) ?_;refine .one hU hm ?_;simp only[go_sem]
 show WP _ _ _ _ _ _
 refine .one hU hm ?_;simp only[go_sem]
 show WP _ _ _ _ _ _
 have hlen:d.b.length≤2000000:=by have:=hd.1;have:=hd.2.1;omega
 obtain⟨at_,hat⟩:∃n,(scan d.b).2=n:=⟨_,rfl⟩;have hatl:=Hy d.b;rw[hat]at hatl;refine .cut (fun ρ g=>∃z sp,gY g z ((scan d.b).1.map kL) sp∧Ab.Sub h g∧(∀i∈sp,h i=none)∧lk ρ 0=some (.ptr id 0)∧lk ρ 4=some z∧lk ρ 5=some (.i at_)) (.vc hU hm ?_) ?_
 ·simp only[go_sem]
  refine(L6 d hd id h hdk).pthen ?_;simp only[go_sem];refine(Oy _ d.b h (.sl _ _) hlen).mono fun r g ⟨z,sp,e1,hg,hs,hsp⟩=>?_
  subst e1;rw[hat];simp only[go_sem];refine⟨z,sp,hg,hs,hsp,?_,?_,?_⟩<;>simp only[go_sem]
 rintro ρ g ⟨z,sp,hg,hs,hsp,r0,r4,r5⟩
 have hdk1:=hdk.keep hs.fR;have hob:∀i∈sp,i≠id:=fun i hi e=>by
  obtain⟨y,hy,_⟩:=hdk
  grind
 refine .cut (fun ρ g=>∃d1,d.cg=d1.sync∧d1.ok∧bR g id d1∧gY g z ((scan d.b).1.map kL) sp∧Keep id h g∧lk ρ 0=some (.ptr id 0)∧lk ρ 4=some z) (.vc hU hm ?_) ?_
 ·simp only[go_sem,r0,r4,r5]
  refine(NZ d id g hdk1).pthen ?_;simp only[go_sem,r0,r4,r5];refine .intro (fun e=>?_) (fun e=>?_)
  ·have e:=acC e
   have e' :at_<d.b.length:=acK;simp only[go_sem,r0,r4,r5];refine dthen (ET d hd id g at_ hdk1) fun g1 hd1 kp=>?_
   have hO:d.cg=if(d.cut (at_:Nat)).2=0 then(d.cut (at_:Nat)).1.sync else d.cut (at_:Nat):=by simp_all [D.cg,if_pos]
   have ok1:=D.ET hd at_;generalize d.cut (at_:Nat)=D0 at hO hd1 ok1⊢;obtain⟨D1,c1⟩:=D0;simp only at hO hd1 ok1⊢;simp only[go_sem,r0,r4,r5]
   by_cases hc:c1=0
   ·subst hc
    rw[if_pos rfl]at hO;simp only[go_sem,r0,r4,r5];refine⟨D1,hO,ok1,hd1,hg.touch (Touch.keep kp) acL,(hs.keep id).trans kp,?_,?_⟩<;>simp only[go_sem,r0,r4]
   ·rw[if_neg hc]at hO
    have t1:(((c1:Nat):Int) !=0)=true:=acL;simp only[go_sem,r0,r4,r5,t1];refine .same (.refl _) ⟨_,by rw[hO];rfl,acL,(hs.keep id).trans kp,?_⟩
    grind
  ·have e:=acD e
   have e' :¬at_<d.b.length:=acK;have hO:d.cg=d.sync:=by simp_all [D.cg,if_neg]
   simp only[go_sem,r0,r4,r5];refine⟨d,hO,hd,hdk1,hg,hs.keep id,?_,?_⟩<;>simp only[go_sem,r0,r4]
 rintro ρ g1 ⟨d1,hO,ok1,hd1,hg1,kp1,r0,r4⟩
 refine .vc hU hm ?_;simp only[go_sem,r0,r4];refine dthen (HE d1 ok1 id g1 hd1) fun g2 hd2 kp2=>?_
 rw[hO];generalize d1.sync=D0 at hd2⊢;obtain⟨D2,c2⟩:=D0;simp only at hd2⊢;have kp:=kp1.trans kp2;have hg2:=hg1.touch (Touch.keep kp2) acL;simp only[go_sem,r0,r4]
 by_cases hc:c2=0
 ·subst hc
  obtain⟨qz,rfl⟩:=hg2.row;simp only[go_sem,r0,r4];intro jid hjid;simp only[go_sem,r0,r4];have hne:jid≠id:=fun e=>by
   obtain⟨y,hy,_⟩:=hd2
   grind
  have hjh:h jid=none:=by
   cases hh:h jid with
   |none=>rfl
   |some k=>rw[kp _ _ hne hh]at hjid;omega
  have hsj:∀i∈sp,i≠jid:=fun i hi e=>by
   obtain⟨n,hn⟩:=hg2.has i hi
   grind
  refine .same (.refl _) ⟨_,rfl,hd2.keep (.new hjid),fun j k e hj=>?_,jid,sp,rfl,hjh,⟨_,_,ah ..,hg2.touch .upd acL,fun g=>Hx _ g⟩,fun i hi=>⟨hsp i hi,hsj i hi⟩⟩
  have h2:=kp j k e hj;rw[ag _ _ acL];exact agH
 ·have t1:(((c2:Nat):Int) !=0)=true:=by grind
  simp only[go_sem,r0,r4,t1];exact .same (.refl _) ⟨_,rfl,hd2,kp,acL⟩
def jadd(d:D)(ps:List (List UInt8))(down:Bool)(p:List UInt8):(D×List (List UInt8)×Bool)×Nat:=
 if down=true then((d,ps,true),9)else if p.length=0∨8192<p.length then((d,ps,false),1)else
  if(d.append (frame p)).2=8 then(((d.append (frame p)).1,ps,false),8)else
   if(if(d.append (frame p)).2=0 then(d.append (frame p)).1.sync else d.append (frame p)).2=0 then
    (((if(d.append (frame p)).2=0 then(d.append (frame p)).1.sync else d.append (frame p)).1,ps++ [p],false),0)
   else(((if(d.append (frame p)).2=0 then(d.append (frame p)).1.sync else d.append (frame p)).1,ps,true),9)
theorem D.Ct(d:D)(b:List UInt8):(d.append b).2=0∨(d.append b).2=8∨(d.append b).2=9:=by grind [D.append]
theorem D.JE(d:D):d.sync.2=0∨d.sync.2=9:=by grind [D.sync]
theorem GO(d:D)(hd:d.ok)(id jid:Nat)(ps:List (List UInt8))(down:Bool)(sp:List Nat)(h:Heap)(x:AV)(p:List UInt8)(hdk:bR h id d)(hj:JAt h 116 jid id ps down sp)(hx:By h x p)(hp:p.length≤1000000)(hps:ps.length≤1000000):
  ai Tryz.prog 63 [.ptr jid 0,x] h fun r h' =>r= .i ((jadd d ps down p).2:Nat)∧∃sp',bR h' id (jadd d ps down p).1.1∧JAt h' 116 jid id (jadd d ps down p).1.2.1 (jadd d ps down p).1.2.2 sp'∧
   Touch (id::jid::sp) h h'∧∀i∈sp',i∈sp∨h i=none:=by
 obtain⟨y,xs,hjid,hg,hrs⟩:=hj;have hne:jid≠id:=fun e=>by obtain⟨z,hz,_⟩:=hdk;rw[←e,hjid]at hz;simp only[Option.some.injEq,Blk.obj.injEq]at hz;exact absurd hz.2 acN
 refine ai.of_wp hU Tryz.func63 rfl acO 51 rfl [.tmp 4] rfl (acz rfl) ?_;refine .one hU hm ?_;simp only[go_sem]
 show WP _ _ _ _ _ _
 refine .one hU hm ?_;cases down with
 |true=>
  have hJ:jadd d ps true p=((d,ps,true),9):=by simp[jadd]
  simp only[go_sem,hjid];refine .same (.refl _) ?_;rw[hJ];exact⟨rfl,sp,hdk,⟨y,xs,hjid,hg,hrs⟩,.refl _ _,fun i hi=> .inl hi⟩
 |false=>
  simp only[go_sem,hjid]
  show WP _ _ _ _ _ _
  refine .one hU hm ?_;have bad:(p.length=0∨8192<p.length)→lV [.i 1] h fun r h' =>r= .i ((jadd d ps false p).2:Nat)∧∃sp',bR h' id (jadd d ps false p).1.1∧JAt h' 116 jid id (jadd d ps false p).1.2.1 (jadd d ps false p).1.2.2 sp'∧
    Touch (id::jid::sp) h h'∧∀i∈sp',i∈sp∨h i=none:=fun hb=>by
   have hJ:jadd d ps false p=((d,ps,false),1):=by unfold jadd;rw[if_neg acS,if_pos hb]
   refine .same (.refl _) ?_;rw[hJ];exact⟨rfl,sp,hdk,⟨y,xs,hjid,hg,hrs⟩,.refl _ _,fun i hi=> .inl hi⟩
  by_cases h0:p.length=0
  ·have t0:(((p.length:Nat):Int)==0)=true:=by simp[h0]
   simp only[go_sem,hx.len,t0];exact bad (.inl h0)
  ·have t0:(((p.length:Nat):Int)==0)=false:=beq_eq_false_iff_ne.mpr acK
   by_cases h1:8192<p.length
   ·have t1:decide ((8192:Int)<(p.length:Int))=true:=decide_eq_true acK
    simp only[go_sem,hx.len,t0,t1];exact bad (.inr h1)
   ·have t1:decide ((8192:Int)<(p.length:Int))=false:=decide_eq_false acK
    have hJ:jadd d ps false p=if(d.append (frame p)).2=8 then(((d.append (frame p)).1,ps,false),8)else
      if(if(d.append (frame p)).2=0 then(d.append (frame p)).1.sync else d.append (frame p)).2=0 then
       (((if(d.append (frame p)).2=0 then(d.append (frame p)).1.sync else d.append (frame p)).1,ps++ [p],false),0)
      else(((if(d.append (frame p)).2=0 then(d.append (frame p)).1.sync else d.append (frame p)).1,ps,true),9):=by
     have hno:¬(p.length=0∨8192<p.length):=acK;unfold jadd;rw[if_neg acS,if_neg hno]
    have hcode:=D.Ct d (frame p);simp only[go_sem,hx.len,t0,t1]
    show WP _ _ _ _ _ _
    refine .one hU hm ?_;simp only[go_sem];refine .calls (hm1 jid _) [0,1,2,3,4,5,6,7] (.hm1 hjid) acO rfl ?_;simp only[go_sem,hjid];refine(KR x p h hx hp).sthen fun g1 hs1=>?_
    refine⟨.hm1 (hs1 _ _ hjid),?_⟩;simp only[go_sem];refine dthen (uo d hd id g1 _ (frame p) (hdk.keep hs1.fR) (.sl _ _) (by rw[tj];omega)) fun g2 hd2 kp=>?_
    have hj2:g2 jid=some (.obj [.ptr id 0,y,.b false] 116):=kp _ _ hne (hs1 _ _ hjid);refine⟨.hm1 hj2,?_⟩;have ok2:=D.uo hd (frame p);have hkp:Keep id h g2:=(hs1.keep id).trans kp;have hgid:∀i∈sp,i≠id:=fun i hi e=>by obtain⟨n,hn⟩:=hg.has i hi;obtain⟨z,hz,_⟩:=hdk;rw[e,hz]at hn;cases hn
    have hg2:gY g2 y xs sp:=hg.touch (Touch.keep hkp) (fun i hi=>by simp[hgid i hi])
    have hx2:By g2 x p:=by obtain⟨z,hz,_⟩:=hdk;exact(hx.keep hkp hz acN)
    have hT2:Touch (id::jid::sp) h g2:=(Touch.keep hkp).mono (fun i hi=> .inl (by simp at hi;simp[hi]))
    generalize d.append (frame p)=A at hJ hcode hd2 ok2⊢;obtain⟨d2,c2⟩:=A;simp only at hJ hcode hd2 ok2⊢;simp only[go_sem]
    show WP _ _ _ _ _ _
    refine .one hU hm ?_;have downed:∀(g:Heap) (e:D) (ρ:Env),bR g id e→g jid=some (.obj [.ptr id 0,y,.b false] 116)→gY g y xs sp→Touch (id::jid::sp) h g→jadd d ps false p=((e,ps,true),9)→
      (lV [.i 9] (upd g jid (some (.obj [.ptr id 0,y,.b true] 116))) fun r h' =>r= .i ((jadd d ps false p).2:Nat)∧∃sp',bR h' id (jadd d ps false p).1.1∧JAt h' 116 jid id (jadd d ps false p).1.2.1 (jadd d ps false p).1.2.2 sp'∧
       Touch (id::jid::sp) h h'∧∀i∈sp',i∈sp∨h i=none):=fun g e ρ a1 a2 a3 a4 hJ=>by
     rw[hJ];have hsj:∀i∈sp,i≠jid:=fun i hi e=>by obtain⟨n,hn⟩:=hg.has i hi;rw[e,hjid]at hn;cases hn
     have ht:Touch [jid] g (upd g jid (some (.obj [.ptr id 0,y,.b true] 116))):=.upd;refine .same (.refl _) ⟨rfl,sp,?_,⟨y,xs,ah ..,a3.touch ht (fun i hi=>by simp[hsj i hi]),hrs⟩,(a4.trans ht).mono (fun i hi=> .inl (by simp at hi⊢;rcases hi with h|h|h|h<;>simp[h])),fun i hi=> .inl hi⟩
     obtain⟨z,z1,z2⟩:=a1;exact⟨z,ht _ _ (by simp;exact fun e=>hne e.symm) z1,z2.keep (Keep.upd jid _) a2 acN⟩
    have hc0:=hcode;rcases hcode with rfl|rfl|rfl
    ·
     simp only[go_sem];refine .one hU hm ?_;simp only[go_sem,hj2];refine dthen (HE d2 ok2 id g2 hd2) fun g3 hd3 kp3=>?_
     have hj3:g3 jid=some (.obj [.ptr id 0,y,.b false] 116):=kp3 _ _ hne hj2;have hg3:gY g3 y xs sp:=hg2.touch (Touch.keep kp3) (fun i hi=>by simp[hgid i hi])
     have hx3:By g3 x p:=by obtain⟨z,hz,_⟩:=hd2;exact(hx2.keep kp3 hz acN)
     have hT3:Touch (id::jid::sp) h g3:=(hT2.trans (Touch.keep kp3)).mono (fun i hi=> .inl (by simp at hi⊢;rcases hi with h|h|h|h<;>simp[h]))
     have hcs:=D.JE d2;rw[if_neg acN,if_pos rfl]at hJ;generalize d2.sync=A at hJ hcs hd3⊢;obtain⟨d3,c3⟩:=A;simp only at hJ hcs hd3⊢;rcases hcs with rfl|rfl
     ·simp only[go_sem]
      refine .one hU hm ?_;simp only[go_sem];refine .one hU hm ?_;simp only[go_sem];refine .last (hm1 jid _) [0,1,2,3,4,5,6,7,8,9,10] (.hm1 hj3) acO rfl acO rfl ?_;simp only[go_sem,hj3];refine(qs x p g3 hx3 acK).pthen' ?_;obtain⟨qy,rfl⟩:=hg3.row;refine⟨.hm1 hj3,?_⟩;simp only[go_sem,hj3];refine hg3.app (v:=.sl [kL p] .full) (zs:=[kL p]) (fun k hk=>hk) (hrs h).sized (by simp[Sized,kL,AV.cells]) (by have:=(hrs h).1;simp;omega) fun z g4 sp' hg4 ht4 hsp' =>?_
      have hsj:∀i∈sp,i≠jid:=fun i hi e=>by obtain⟨n,hn⟩:=hg.has i hi;rw[e,hjid]at hn;cases hn
      have hj4:g4 jid=some (.obj [.ptr id 0,.sl xs qy,.b false] 116):=ht4 _ _ (fun hi=>hsj _ hi rfl) hj3
      refine⟨.hm1 hj4,?_⟩;obtain⟨qz,rfl⟩:=hg4.row;simp only[go_sem,hj4];refine .vc hU hm ?_;simp only[go_sem];have ht5:Touch [jid] g4 (upd g4 jid (some (.obj [.ptr id 0,.sl (xs++ [kL p]) qz,.b false] 116))):=.upd;have hsj' :∀i∈sp',i≠jid:=fun i hi e=>by obtain⟨n,hn⟩:=hg4.has i hi;rw[e,hj4]at hn;cases hn
      rw[if_pos rfl]at hJ;refine .same (.refl _) ?_;rw[hJ];refine⟨rfl,sp',?_,⟨_,_,ah ..,hg4.touch ht5 (fun i hi=>by simp[hsj' i hi]),fun g=>Jo (hrs g) (.sl _ _)⟩,?_,fun i hi=>?_⟩
      ·obtain⟨z,z1,z2⟩:=hd3
       have hid4:g4 id=some (.obj (d3.cells z) 82):=ht4 _ _ (fun hi=>hgid _ hi rfl) z1
       have z4:By g4 z d3.b:=by
        rcases z2 with z2|⟨i,off,cs,rfl,a1,a2,a3⟩
        ·exact .inl z2
        ·exact .oa (ht4 _ _ (fun hi=>by obtain⟨n,hn⟩:=hg3.has i hi;rw[a1]at hn;cases hn) a1) a2 a3
       exact⟨z,ht5 _ _ (by simp;exact fun e=>hne e.symm) hid4,z4.keep (Keep.upd jid _) hj4 acN⟩
      ·exact((hT3.trans ht4).trans ht5).mono (fun i hi=> .inl (by simp at hi⊢;grind))
      ·rcases hsp' i hi with h1|h1
       ·exact .inl h1
       ·cases hh:h i with
        |none=>exact .inr rfl
        |some k=>
         by_cases hin:i∈id::jid::sp
         ·simp only[List.mem_cons]at hin
          rcases hin with e|e|e
          ·subst e;rw[hd3.choose_spec.1]at h1;cases h1
          ·subst e;rw[hj3]at h1;cases h1
          ·exact .inl e
         ·rw[hT3 i k hin hh]at h1;cases h1
     ·simp only[go_sem]
      refine .one hU hm ?_;simp only[go_sem,hj3];exact downed g3 d3 [] hd3 hj3 hg3 hT3 hJ
    ·
     simp only[go_sem];refine .same (.refl _) ?_;rw[hJ];exact⟨rfl,sp,hd2,⟨y,xs,hj2,hg2,hrs⟩,hT2,fun i hi=> .inl hi⟩
    ·simp only[go_sem]
     refine .one hU hm ?_;simp only[go_sem,hj2];refine .one hU hm ?_;simp only[go_sem,hj2];exact downed g2 d2 [] hd2 hj2 hg2 hT2 hJ
theorem D.Rt(hd:d.ok)(h1:d.off=false)(h2:d.f=0):d.cg=({d with b:=d.b.take (scan d.b).2,sy:=(scan d.b).2},0):=by
 have hl:=Hy d.b;have PF:∀e:D,e.off=false→e.f=0→e.sync=({e with sy:=e.b.length},0):=fun e h1 h2=>by unfold D.sync;rw[if_neg (by simp[h1]),D.O9 h2,if_neg (by simp[h1])]
 unfold D.cg
 by_cases h:(scan d.b).2<d.b.length
 ·rw[if_pos h,D.WV h1 h2 hl]
  grind
 ·have e:(scan d.b).2=d.b.length:=by omega
  grind
theorem UB{d}{ps}{p}(h1:d.off=false)(h2:d.f=0)(hp1:1≤p.length)(hp2:p.length≤8192)(hf:d.b.length+(frame p).length≤d.q):
  jadd d ps false p=(({d with b:=d.b++frame p,sy:=(d.b++frame p).length},ps++ [p],false),0):=by
 have hno:¬(p.length=0∨8192<p.length):=acK;have hs:({d with b:=d.b++frame p}:D).sync=({d with b:=d.b++frame p,sy:=(d.b++frame p).length},0):=D.PF h1 h2
 unfold jadd;rw[if_neg acS,if_neg hno,D.Nh h1 h2 hf,if_neg acK,if_pos rfl,hs,if_pos rfl]
theorem zc:scan []=([],0):=by grind [rD,rO]
end Go.Proofs.YteaaeelhjnhaaaaGreatDoor
namespace Go.Bf
open Go Go.Ab Go.Proofs.YteaaeelhjnhaaaaGreatDoor
variable {o:OpD}{v a:bt}
def fnv(h:BitVec 64)(n:Nat):BitVec 64:=(h ^^^ BitVec.ofNat 64 n)*1099511628211#64
def NF(g:BitVec 64→Nat→BitVec 64):Nat→BitVec 64→BitVec 64→BitVec 64
 |0,_,h=>h
 |n+1,p,h=>NF g n (p>>>8) (g h (p &&& 255#64).toNat)
def IB(n:Nat)(p h:BitVec 64):BitVec 64:=NF fnv n p h
theorem IE(g:BitVec 64→Nat→BitVec 64)(n:Nat)(p h:BitVec 64):NF g (n+1) p h=NF g n (p>>>8) (g h (p &&& 255#64).toNat):=rfl
theorem ID(p h:BitVec 64):IB 0 p h=h:=rfl
theorem IC(n:Nat)(p h:BitVec 64):IB (n+1) p h=IB n (p>>>8) (fnv h (p &&& 255#64).toNat):=IE fnv n p h
def rY(prev:BitVec 64)(l:Txt):BitVec 64:=l.foldl (fun h c=>fnv h c.toNat) (IB 8 prev 14695981039346656037#64)
def lQ:Nat→BitVec 64→Txt
 |0,_=>[]
 |n+1,h=>UInt8.ofNat h.toNat::lQ n (h>>>8)
def gm(h:BitVec 64)(o:OpD):Txt:=lQ 8 h++iL o
theorem ku:∀(n:Nat) (h:BitVec 64),(lQ n h).length=n
 |0,_=>rfl
 |n+1,h=>by simp[lQ,ku n]
structure iG where
 s:aq
 log:List qc
 ch:BitVec 64
 ps:List Txt
 down:Bool
def nD(e:iG)(p:Txt):Option OpD:=if p.length<8 then none else match ld (p.drop 8)with
 |some o=>if gm e.ch o=p then some o else none
 |none=>none
def qD(e:iG)(g:aq×lN×qc×Int)(p:Txt):iG:={e with s:=g.1,log:=e.log++ [g.2.2.1],ch:=rY e.ch p}
def rS(e:iG)(p:Txt):Option iG:=match nD e p with
 |some o=>if(bA e.s o).2.2.2=0 then some (qD e (bA e.s o) p)else none
 |none=>none
def pR:iG→List Txt→Option iG
 |e,[]=>some e
 |e,p::r=>match rS e p with
  |some e' =>pR e' r
  |none=>none
def jF(ps:List Txt):iG:=⟨wB,[],0,ps,false⟩
def F1(ps:List Txt):Option iG:=pR (jF ps) ps
def Im(n:Int):lN:=⟨n,naM,false,an,false,0⟩
def doE(e:iG)(d:D)(o:OpD):iG×D×lN:=
 if e.down then(e,d,Im 9)else
 let g:=bA e.s o
 if g.2.2.2≠0 then(e,d,g.2.1)else
 let p:=gm e.ch o
 let a:=jadd d e.ps e.down p
 if a.2=0 then({qD e g p with ps:=a.1.2.1,down:=a.1.2.2},a.1.1,g.2.1)else({e with ps:=a.1.2.1,down:=a.1.2.2},a.1.1,Im (a.2:Int))
theorem xR:∀(l:List Txt) (e:iG) (p:Txt),pR e (l++ [p])=(pR e l).bind fun e' =>rS e' p
 | [],e,p=>by grind [pR,rS]
 |q::l,e,p=>by
  simp only[List.cons_append,pR];cases rS e q with
  |none=>rfl
  |some e' =>exact xR l e' p
theorem oU{s:aq}(h:(bA s o).2.2.2=0):dD o=true:=by
 have hp:(j6 s o).1=0:=by
  unfold bA at h
  grind
 exact(tQ hp).2.1
theorem HL:∀(f v:Nat),(jh f v).length≤f
 |0,_=>by simp[jh]
 |f+1,v=>by
  unfold jh;split
  ·simp
  ·simp only[List.length_cons]
   have:=HL f (v / 128);omega
theorem fT(n:Int):(dP n).length≤10:=HL 10 _
theorem Oc(n:Int):1≤(dP n).length:=List.length_pos_iff.2 (HJ 10 _ acN)
theorem cO(s:Txt):(bN s).length≤10+s.length:=by grind [bN,acE,fT]
theorem HH(h:v=an∨aW v=true):(gr v).length≤84:=by
 have hs:v.kind=3∨v.kind=5→v.s.length≤64:=fun e=>by
  rcases h with rfl|h
  ·decide
  simp_all [vi]
 unfold gr;rw[acE];have h1:=fT v.kind;split
 ·rename_i e
  have:=cO v.s;omega
 ·have:=fT v.n
  omega
theorem tU(hf:OpF o):1≤(iL o).length∧(iL o).length≤5000:=by unfold iL;simp only[acE];have h1:=fT o.kind;have h0:=Oc o.kind;have h2:=cO o.subj;have h3:=cO o.case;have h4:=cO o.field;have h5:=cO o.to;have h6:=HH hf.val;have h7:=fT o.review;have h8:=cO o.text;have h9:=cO o.reason;have h10:=HH (v:=cE o.glass) (.inr (El _));have:=hf.subj;have:=hf.case;have:=hf.field;have:=hf.to;have:=hf.text;have:=hf.reason;omega
theorem wP{h:BitVec 64}(hf:OpF o):9≤(gm h o).length∧(gm h o).length≤5008:=by grind [tU,gm,acE,ku]
def ym(a b:bt):Int:=if aW a=false∨aW b=false then 1 else 2
def lq(a b:bt):AV:=match nj a b with
 |some x=> .tup [.b x,.i 0]
 |none=> .tup [.b false,.i (ym a b)]
theorem AL{b:bt}(h:aW a=false∨aW b=false):lq a b= .tup [.b false,.i 1]:=by
 unfold lq nj;rw[if_pos acL]
 simp_all [ym,if_pos]
theorem yj{b:bt}(h1:aW a=true)(h2:aW b=true)(h:a.kind≠b.kind∨a.kind=1):lq a b= .tup [.b false,.i 2]:=by simp_all [lq,nj,if_pos,ym]
theorem N2{b:bt}(h1:aW a=true)(h2:aW b=true)(h:a.kind=b.kind)(h0:a.kind≠1)(ht:a.kind=3∨a.kind=5):lq a b= .tup [.b (Op.bytesLess a.s b.s),.i 0]:=by simp_all [lq,nj,if_neg,if_pos]
theorem N1{b:bt}(h1:aW a=true)(h2:aW b=true)(h:a.kind=b.kind)(h0:a.kind≠1)(ht:¬(a.kind=3∨a.kind=5)):lq a b= .tup [.b (decide (a.n<b.n)),.i 0]:=by simp_all [lq,nj,if_neg]
end Go.Bf
namespace Go.Proofs.YteaaeelhjnhaaaaGreatDoor
open Go Go.Ab Go.Bf Tryz
theorem zn(k:Int)(h:Heap):ai prog 47 [.i k] h fun r h' =>r= .b (k==3||k==5)∧h' =h:=by
 refine acJ func47 9 [.tmp 2] fun hwf=>?_
 cases d1:(k==3)<;>cases d2:(k==5)
 all_goals
  simp only[go_sem,d1,d2];exact acW
theorem BX(a b:bt)(h:Heap):ai prog 228 [aP a,aP b] h fun r h' =>r=lq a b∧h' =h:=by
 have ha:=fun(G:Heap)=>gx a G
 have hb:=fun(G:Heap)=>gx b G
 simp only[aP]at ha hb;refine acJ func228 40 [.tmp 4,.tmp 5] fun hwf=>?_
 simp only[go_sem,aP];intro i1 h1;simp only[go_sem];intro i2 h2;have n21:=aH h2;have n2:=aB h2;have hs:∀x y,Ab.Sub h (upd (upd h i1 x) i2 y):=fun x y=>((Sub.refl h).put h1 x).put n2 y
 simp only[go_sem,ak,n21.symm];refine(ha _).pthen ?_;cases da:aW a
 ·simp only[go_sem]
  exact .mk _ (.refl _) (hs _ _) ⟨by rw[AL (.inl da)];rfl,rfl⟩
 simp only[go_sem];refine(hb _).pthen ?_;cases db:aW b
 ·simp only[go_sem]
  exact .mk _ (.refl _) (hs _ _) ⟨by rw[AL (.inr db)];rfl,rfl⟩
 cases dk:(a.kind !=b.kind)
 case true=>simp only[go_sem,ak,n21.symm,dk];exact .mk _ (.refl _) (hs _ _) ⟨by rw[yj da db (.inl acL)];rfl,rfl⟩
 have ek:a.kind=b.kind:=acL;cases d1:(a.kind==1)
 case true=>simp only[go_sem,ak,n21.symm,dk,d1];exact .mk _ (.refl _) (hs _ _) ⟨by rw[yj da db (.inr acL)];rfl,rfl⟩
 have e1:a.kind≠1:=acL;simp only[go_sem,ak,n21.symm,dk,d1];refine(zn _ _).pthen ?_;cases dt:(a.kind==3||a.kind==5)
 ·simp only[go_sem,ak,n21.symm]
  exact .mk _ (.refl _) (hs _ _) ⟨by rw[N1 da db ek e1 acL];rfl,rfl⟩
 ·simp only[go_sem,ak,n21.symm]
  exact .mk _ (.refl _) (hs _ _) ⟨by rw[N2 da db ek e1 acL];rfl,rfl⟩
def IG(bag:List bt)(must:Bool):AV:=if bag= []∧must=true then .tup [.sl [] .no,.i 4]else .tup [.sl (bag.map aP) .no,.i 0]
theorem GG(gs:List br)(cat:Int)(name:Txt)(must:Bool)(hl:gs.length≤1000000000)(hb:∀g∈gs,g.bag.length≤1000000)(h:Heap):ai prog 203 [bJ gs,.agg [.i cat,.s name,.b must]] h fun r h' =>r=IG (getD gs cat name) must∧h' =h:=by
 have hpl:=fun G=>LP gs cat name hl G
 simp only[bJ]at hpl;have frz:∀(x:AV) (e:Int),Weak x (.sl [] .no)→Weak (.tup [x,.i e]) (.tup [.sl [] .no,.i e]):=fun x e hx=> .tup _ _ rfl fun i a b=>by
  rcases i with _|_|i
  ·grind
  ·exact ad4
  grind
 refine acJ func203 30 [.tmp 4,.tmp 5] fun hwf=>?_
 simp only[go_sem,bJ];intro i1 h1;simp only[go_sem];refine(hpl _).pthen ?_
 by_cases hx:gs.findIdx (iO cat name)<gs.length
 ·have e1:ixD (iO cat name) gs=(gs.findIdx (iO cat name):Nat):=by simp_all [ixD,if_pos]
  have d1:decide ((0:Int)≤((gs.findIdx (iO cat name):Nat):Int))=true:=decide_eq_true acK;rw[e1];simp only[go_sem,d1];refine .at (gs.findIdx (iO cat name)) acL acZ ?_;simp only[go_sem,acB,lf];rw[if_neg (fun hh=>hh.1)]
  have hlb:=hb _ (acF hx);rw[get_at hx];obtain⟨B,eB⟩:∃B,gs[gs.findIdx (iO cat name)].bag=B:=⟨_,rfl⟩;rw[eB]at hlb⊢;refine(CG _ (B.map aP) _ (eR aP 3 (fun _=>rfl) _ _) acL (bw (fun _=>rfl) _)).pthen ?_
  cases d2:((B.length:Int)==0)
  ·have e2:B≠ []:=by grind
   simp only[go_sem,d2,acA];exact .mk _ (.refl _) (.aj h1) ⟨by rw[IG,if_neg (fun hh=>e2 hh.1)];rfl,rfl⟩
  ·have e3:(B.length:Int)=0:=by grind
   have e2:B= []:=List.length_eq_zero_iff.1 acK;subst e2;cases must
   ·simp only[go_sem,List.map_nil,List.length_nil]
    exact ac0
   ·simp only[go_sem,List.map_nil,List.length_nil]
    exact aeA
 ·have e1:ixD (iO cat name) gs= -1:=by simp_all [ixD,if_neg]
  have d1:decide ((0:Int)≤ -1)=false:=rfl;rw[e1,QZ hx];cases must
  ·simp only[go_sem,d1]
   exact .mk (.tup [.sl [] .no,.i 0]) (frz _ _ (.sl _ _)) (.aj h1) ⟨rfl,rfl⟩
  ·simp only[go_sem,d1]
   exact aeA
def mE(m:ck)(v:bt):AV:=
 if m.op=1 then(if v.kind=m.val.kind then .tup [.b (eqV v m.val),.i 0]else .tup [.b false,.i 2])
 else if m.op=2 then lq v m.val else lq m.val v
theorem EC(m:ck)(v:bt)(h:Heap):ai prog 204 [dO m,aP v] h fun r h' =>r=mE m v∧h' =h:=by
 have hl1:=fun G=>BX v m.val G
 have hl2:=fun G=>BX m.val v G
 simp only[aP]at hl1 hl2;refine acJ func204 42 [.tmp 4,.tmp 5] fun hwf=>?_
 simp only[go_sem,dO,aP];intro i1 h1;simp only[go_sem];intro i2 h2;have n21:=aH h2;have n2:=aB h2;have hs:∀x y,Ab.Sub h (upd (upd h i1 x) i2 y):=fun x y=>((Sub.refl h).put h1 x).put n2 y
 cases d1:(m.op==1)
 case true=>
  have e1:m.op=1:=acL;cases dk:(v.kind !=m.val.kind)
  ·have dk' :v.kind=m.val.kind:=by grind
   simp only[go_sem,ak,n21.symm,d1,dk];exact .mk _ (.refl _) (hs _ _) ⟨by rw[mE,if_pos e1,if_pos dk'];rfl,rfl⟩
  ·simp only[go_sem,ak,n21.symm,d1,dk]
   exact .mk _ (.refl _) (hs _ _) ⟨by rw[mE,if_pos e1,if_neg acL];rfl,rfl⟩
 have e1:m.op≠1:=acL;have aft:∀a b:bt,∃x e,lq a b= .tup [.b x,.i e]:=fun a b=>by
  unfold lq;split
  ·simp
  simp
 cases d2:(m.op==2)
 case true=>have e2:m.op=2:=acL;obtain⟨x,e,ee⟩:=aft v m.val;rw[ee]at hl1;simp only[go_sem,ak,n21.symm,d1,d2];refine(hl1 _).pthen ?_;simp only[go_sem];exact .mk _ (.refl _) (hs _ _) ⟨by rw[mE,if_neg e1,if_pos e2,ee];rfl,rfl⟩
 ·have e2:m.op≠2:=by grind
  obtain⟨x,e,ee⟩:=aft m.val v;rw[ee]at hl2;simp only[go_sem,ak,n21.symm,d1,d2];refine(hl2 _).pthen ?_;simp only[go_sem];exact .mk _ (.refl _) (hs _ _) ⟨by rw[mE,if_neg e1,if_neg e2,ee];rfl,rfl⟩
theorem Bp(m:ck)(v:bt):∃e:Int,(e !=0)=(cR m v==none)∧mE m v= .tup [.b (cR m v==some true),.i e]:=by
 have hl:∀a b:bt,∃e:Int,(e !=0)=(nj a b==none)∧lq a b= .tup [.b (nj a b==some true),.i e]:=fun a b=>by
  unfold lq;cases hx:nj a b with
  |some x=>simp
  |none=>refine⟨ym a b,?_,rfl⟩;grind [ym]
 unfold mE cR
 by_cases e1:m.op=1
 ·rw[if_pos e1,if_pos e1]
  by_cases ek:v.kind=m.val.kind
  ·rw[if_pos ek,if_pos ek]
   exact⟨0,rfl,acS⟩
  ·rw[if_neg ek,if_neg ek]
   exact⟨2,rfl,rfl⟩
 ·rw[if_neg e1,if_neg e1]
  by_cases e2:m.op=2
  ·rw[if_pos e2,if_pos e2];exact hl _ _
  ·rw[if_neg e2,if_neg e2];exact hl _ _
theorem II(bag:List bt)(must:Bool):∃e:Int,(e !=0)=decide (bag= []∧must=true)∧IG bag must= .tup [.sl (bag.map aP) .no,.i e]:=by
 unfold IG;split
 ·simp_all
 grind
def rG(gs:List br):Prop:=gs.length≤1000000∧∀g∈gs,g.bag.length≤1000000
theorem rG.bag{gs:List br}(h:rG gs)(a:rM):(xq gs a).length≤1000000:=by
 unfold xq getD;split
 ·rename_i g hg;exact h.2 g acL
 ·simp
theorem AP(m:ck)(gs:List br)(hf:rG gs)(h:Heap):ai prog 173 [dO m,bJ gs] h fun r h' =>r= .i (jV gs m:Nat)∧h' =h:=by
 have hg:=fun G=>GG gs m.attr.cat m.attr.name m.attr.must (by have:=hf.1;omega) hf.2 G
 have hbl:=hf.bag m.attr;obtain⟨B,eB⟩:∃B,xq gs m.attr=B:=⟨_,rfl⟩;have eg:Go.Bf.getD gs m.attr.cat m.attr.name=B:=eB;rw[eB]at hbl;rw[eg]at hg;have hmm:jV gs m=if B= []∧m.attr.must=true then 1 else if B.any (fun v=>cR m v==some true)then 2 else if B.any (fun v=>cR m v==none)then 1 else 0:=by unfold jV;rw[eB]
 obtain⟨eg,hge,hga⟩:=II B m.attr.must;rw[hga]at hg;have hag:=fun(v:bt) (G:Heap)=>EC m v G
 simp only[dO,bJ,aP]at hag hg;refine acJ func173 38 [.tmp 4] fun hwf=>?_
 simp only[go_sem,dO,bJ];intro i1 h1;simp only[go_sem];refine(hg _).pthen ?_;cases d0:decide (B= []∧m.attr.must=true)
 case true=>rw[d0]at hge;simp only[go_sem,hge];exact .mk _ (.refl _) (.aj h1) ⟨by rw[hmm,if_pos (acC d0)];rfl,rfl⟩
 rw[d0]at hge;rw[if_neg (acD d0)]at hmm;simp only[go_sem,hge,acA];obtain⟨H,eH⟩:∃H,upd h i1 (some (.obj [.i m.attr.cat,.s m.attr.name,.b m.attr.must,.i m.op,.i m.val.kind,.i m.val.n,.s m.val.s] 248))=H:=⟨_,rfl⟩;have hH:Ab.Sub h H:=by rw[←eH];exact .aj h1
 have k1:H i1=some (.obj [.i m.attr.cat,.s m.attr.name,.b m.attr.must,.i m.op,.i m.val.kind,.i m.val.n,.s m.val.s] 248):=aed;rw[eH];clear eH;refine .intro (fun q ρ G=>Ab.Sub H G∧∃i:Nat,i≤B.length∧q=B.length - i∧(∀j (hj:j<i) (h2:j<B.length),(cR m B[j]==some true)=false)∧lk ρ 2=some (.ptr i1 0)∧lk ρ 7=some (.i (if(B.take i).any (fun v=>cR m v==none)then 1 else 0))∧lk ρ 21=some (.sl (B.map aP) .no)∧lk ρ 22=some (.i B.length)∧lk ρ 23=some (.i i)) B.length ?_ ?_
 ·refine⟨.refl _,0,acK,rfl,fun j hj=>acK,?_,?_,?_,?_,?_⟩<;>simp only[go_sem]
  simp
 ·rintro q ρ G ⟨hs,i,hi,rfl,hc,r2,r7,r21,r22,r23⟩
  have k1' :=hs _ _ k1;simp only[go_sem,r22,r23];refine .intro (fun e=>?_) (fun e=>?_)
  ·have hlt:i<B.length:=acH e
   have w1:=acG i acK;have hsn:(B.take (i+1)).any (fun v=>cR m v==none)=((B.take i).any (fun v=>cR m v==none)||(cR m B[i]==none)):=any_succ hlt
   have ix:=fun k=>fP.eq (xs:=B.map aP) (sz:=3) i ada acZ k
   rw[acB]at ix;have hci:=fun(d:(cR m B[i]==some true)=false)=>(fun j (hj:j<i+1) (h2:j<B.length)=>(by
    by_cases hji:j=i
    ·subst hji;exact d
    ·exact hc j acK h2:(cR m B[j]==some true)=false))
   have hat:=fun(d:(cR m B[i]==some true)=true)=>(List.any_eq_true.2 ⟨B[i],acF hlt,d⟩:B.any (fun v=>cR m v==some true)=true)
   obtain⟨v,ev⟩:∃v,B[i]=v:=⟨_,rfl⟩;rw[ev]at ix hsn hci hat;simp only[aP]at ix;obtain⟨e,he1,he2⟩:=Bp m v;have hag1:=hag v;rw[he2]at hag1;simp only[go_sem,r21,r23,ix];intro i4 h4;have n41:i4≠i1:=fun e=>by rw[e,k1']at h4;cases h4
   simp only[go_sem,r2,ak,n41.symm,k1'];refine(hag1 _).pthen ?_;cases d1:(cR m v==some true)
   ·cases d2:(cR m v==none)
    ·rw[d2]at he1 hsn
     rw[Bool.or_false]at hsn;simp only[go_sem,r23,he1,w1];refine⟨_,?_,hs.trans (.aj h4),i+1,acK,rfl,hci d1,?_,?_,?_,?_,?_⟩
     ·omega
     all_goals simp only[go_sem,r2,r7,r21,r22,hsn]
    ·rw[d2]at he1 hsn
     rw[Bool.or_true]at hsn;simp only[go_sem,r23,he1,w1];refine⟨_,?_,hs.trans (.aj h4),i+1,acK,rfl,hci d1,?_,?_,?_,?_,?_⟩
     ·omega
     all_goals simp only[go_sem,r2,r21,r22,hsn]
   ·simp only[go_sem]
    refine .mk _ (.refl _) (hH.trans (hs.trans (.aj h4))) ⟨by rw[hmm,if_pos (hat d1)];rfl,rfl⟩
  ·have hge:i=B.length:=by have:=acD e;omega
   subst hge;rw[List.take_length]at r7;simp only[go_sem,r7];refine .mk _ (.refl _) (hH.trans hs) ⟨?_,rfl⟩;have hno:B.any (fun v=>cR m v==some true)=false:=List.any_eq_false.2 fun x hx=>by obtain⟨j,hj,rfl⟩:=List.mem_iff_getElem.1 hx;rw[hc j hj hj];decide
   rw[hmm,hno];cases B.any (fun v=>cR m v==none)<;>rfl
theorem GV(a b:Nat):(if((b:Int)<(a:Int))then(b:Int)else(a:Int))=((min a b:Nat):Int):=by grind
theorem N4(a b:Nat):(if((a:Int)<(b:Int))then(b:Int)else(a:Int))=((max a b:Nat):Int):=by grind
theorem Nf(l:List ck)(hl:l.length≤1000000)(gs:List br)(hf:rG gs)(h:Heap):ai prog 197 [iR l,bJ gs] h fun r h' =>r= .i (Cr gs l:Nat)∧h' =h:=by
 have hmt:=fun(m:ck) (G:Heap)=>AP m gs hf G
 simp only[dO,bJ]at hmt;refine acJ func197 21 [.tmp 4] fun hwf=>?_
 simp only[go_sem,iR,bJ,acA];refine .intro (fun q ρ G=>Ab.Sub h G∧∃i:Nat,i≤l.length∧q=l.length - i∧lk ρ 1=some (.sl (gs.map lf) .no)∧lk ρ 5=some (.i (Cr gs (l.take i):Nat))∧lk ρ 8=some (.sl (l.map dO) .no)∧lk ρ 9=some (.i l.length)∧lk ρ 10=some (.i i)) l.length ?_ ?_
 ·exact aip
 ·rintro q ρ G ⟨hs,i,hi,rfl,r1,r5,r8,r9,r10⟩
  simp only[go_sem,r9,r10];refine .intro (fun e=>?_) (fun e=>?_)
  ·have hlt:i<l.length:=acH e
   have w1:IntKind.i64.wrap ((i:Int)+1)=((i+1:Nat):Int):=acX;have hsn:Cr gs (l.take (i+1))=min (Cr gs (l.take i)) (jV gs l[i]):=by grind [Cr,List.take_succ_eq_append_getElem]
   have ix:=fun k=>fP.eq (xs:=l.map dO) (sz:=7) i acL acZ k
   rw[acB]at ix;obtain⟨m,em⟩:∃m,l[i]=m:=⟨_,rfl⟩;rw[em]at ix hsn;have hmt1:=hmt m;simp only[dO]at ix;simp only[go_sem,r8,r10,ix];intro i4 h4;simp only[go_sem,r1,r5];refine(hmt1 _).pthen ?_;simp only[go_sem,r10,GV,w1];refine⟨_,?_,hs.trans (.aj h4),i+1,acK,rfl,?_,?_,?_,?_,?_⟩
   ·omega
   all_goals simp only[go_sem,r1,r8,r9,hsn]
  ·have hge:i=l.length:=by grind
   exact ah4
def MZ(t:kr):Prop:=t.length≤1000000∧∀x∈t,x.length≤1000000∧∀l∈x,l.length≤1000000
theorem Lu(t:kr)(ht:MZ t)(gs:List br)(hf:rG gs)(h:Heap):ai prog 169 [aV t,bJ gs] h fun r h' =>r= .i (mM gs t:Nat)∧h' =h:=by
 have hat:=fun(l:List ck) (hl:l.length≤1000000) (G:Heap)=>Nf l hl gs hf G
 simp only[iR,bJ]at hat;have htl:=ht.1;refine acJ func169 34 [.tmp 4] fun hwf=>?_
 simp only[go_sem,aV,bJ,acA];refine .intro (fun q ρ G=>Ab.Sub h G∧∃i:Nat,i≤t.length∧q=t.length - i∧lk ρ 1=some (.sl (gs.map lf) .no)∧lk ρ 5=some (.i (mM gs (t.take i):Nat))∧lk ρ 11=some (.sl (t.map cS) .no)∧lk ρ 12=some (.i t.length)∧lk ρ 13=some (.i i)) t.length ?_ ?_
 ·exact aip
 ·rintro q ρ G ⟨hs,i,hi,rfl,r1,r5,r11,r12,r13⟩
  simp only[go_sem,r12,r13];refine .intro (fun e=>?_) (fun e=>?_)
  ·have hlt:i<t.length:=acH e
   have w1:IntKind.i64.wrap ((i:Int)+1)=((i+1:Nat):Int):=acX;have hsn:mM gs (t.take (i+1))=min (mM gs (t.take i)) (zC gs t[i]):=by grind [mM,List.take_succ_eq_append_getElem]
   have ix:=fun k=>fP.eq (xs:=t.map cS) (sz:=1) i acL acZ k
   rw[acB]at ix;obtain⟨hx1,hx2⟩:=ht.2 t[i] (acF hlt);obtain⟨x,ex⟩:∃x,t[i]=x:=⟨_,rfl⟩;rw[ex]at ix hsn hx1 hx2;simp only[cS]at ix;simp only[go_sem,r11,r13,ix,acA];refine .intro (fun q ρ' K=>Ab.Sub h K∧∃n:Nat,n≤x.length∧q=x.length - n∧lk ρ' 1=some (.sl (gs.map lf) .no)∧lk ρ' 5=some (.i (mM gs (t.take i):Nat))∧lk ρ' 8=some (.i (zC gs (x.take n):Nat))∧lk ρ' 11=some (.sl (t.map cS) .no)∧lk ρ' 12=some (.i t.length)∧lk ρ' 13=some (.i i)∧lk ρ' 17=some (.sl (x.map iR) .no)∧lk ρ' 18=some (.i x.length)∧lk ρ' 19=some (.i n)) x.length ?_ ?_
   ·refine⟨hs,0,acK,rfl,?_,?_,?_,?_,?_,?_,?_,?_,?_⟩<;>simp only[go_sem,r1,r5,r11,r12,r13]
    rfl
   ·rintro q ρ' K ⟨hs',n,hn,rfl,s1,s5,s8,s11,s12,s13,s17,s18,s19⟩
    simp only[go_sem,s18,s19];refine .intro (fun e=>?_) (fun e=>?_)
    ·have hlt2:n<x.length:=acH e
     have w2:IntKind.i64.wrap ((n:Int)+1)=((n+1:Nat):Int):=acX;have hsn2:zC gs (x.take (n+1))=max (zC gs (x.take n)) (Cr gs x[n]):=by grind [zC,List.take_succ_eq_append_getElem]
     have ix2:=fun k=>fP.eq (xs:=x.map iR) (sz:=1) n acL acZ k
     rw[acB]at ix2;have hx3:=hx2 x[n] (acF hlt2);obtain⟨l,el⟩:∃l,x[n]=l:=⟨_,rfl⟩;rw[el]at ix2 hsn2 hx3;simp only[iR]at ix2;simp only[go_sem,s1,s8,s17,s19,ix2];refine(hat l hx3 _).pthen ?_;simp only[go_sem,s19,N4,w2];refine⟨_,?_,hs',n+1,acK,rfl,?_,?_,?_,?_,?_,?_,?_,?_,?_⟩
     ·omega
     all_goals simp only[go_sem,s1,s5,s11,s12,s13,s17,s18,hsn2]
    ·have hge:n=x.length:=by grind
     subst hge;rw[List.take_length]at s8;simp only[go_sem,s5,s8,s13,GV,w1];refine⟨_,?_,hs',i+1,acK,rfl,?_,?_,?_,?_,?_⟩
     ·omega
     all_goals simp only[go_sem,s1,s11,s12,hsn]
  ·have hge:i=t.length:=by grind
   exact ah4
end Go.Proofs.YteaaeelhjnhaaaaGreatDoor
namespace Go.Bf
open Go Go.Ab Go.Proofs.YteaaeelhjnhaaaaGreatDoor
def zK(o:Bool)(n:Int):AV:=if o then .tup [.i 0,.i 3]else .tup [.i (w64 n),.i 0]
def qX(r:bt×Int):AV:=.tup [aP r.1,.i r.2]
end Go.Bf
namespace Go.Proofs.YteaaeelhjnhaaaaGreatDoor
open Go Go.Ab Go.Bf Tryz
theorem Qg(a b:Int)(h:Heap):ai prog 272 [.i a,.i b] h fun r h' =>r=zK (J7 a b) (a+b)∧h' =h:=by
 refine acJ func272 27 [.tmp 4,.tmp 5] fun hwf=>?_
 cases d1:decide (0<b)<;>cases d2:decide (IntKind.i64.wrap (9223372036854775807 - b)<a)<;>cases d3:decide (b<0)<;>cases d4:decide (a<IntKind.i64.wrap (-9223372036854775808 - b))
 all_goals
  simp only[go_sem,d1,d2,d3,d4];exact .same (.refl _) ⟨by simp only[zK,J7,w64,d1,d2,d3,d4];rfl,rfl⟩
theorem RT(a b:Int)(h:Heap):ai prog 273 [.i a,.i b] h fun r h' =>r=zK (Mp a b) (a - b)∧h' =h:=by
 refine acJ func273 27 [.tmp 4,.tmp 5] fun hwf=>?_
 cases d1:decide (0<b)<;>cases d2:decide (a<IntKind.i64.wrap (-9223372036854775808+b))<;>cases d3:decide (b<0)<;>cases d4:decide (IntKind.i64.wrap (9223372036854775807+b)<a)
 all_goals
  simp only[go_sem,d1,d2,d3,d4];exact .same (.refl _) ⟨by simp only[zK,Mp,w64,d1,d2,d3,d4];rfl,rfl⟩
theorem Rk(a b:Int)(h:Heap):ai prog 274 [.i a,.i b] h fun r h' =>r=zK (I9 a b) (a*b)∧h' =h:=by
 refine acJ func274 36 [.tmp 4,.tmp 5] fun hwf=>?_
 cases d0:(a !=0)
 ·have e0:a=0:=by grind
  subst e0;cases d1:(b== -1)
  all_goals
   simp only[go_sem,d1];exact .same (.refl _) ⟨by simp[zK,I9,w64,ax],rfl⟩
 have e0:a≠0:=acL;cases d1:(a== -1)<;>cases d2:(b== -9223372036854775808)<;>cases d3:(b== -1)<;>cases d4:(a== -9223372036854775808)<;>cases d5:(IntKind.i64.wrap ((IntKind.i64.wrap (a*b)).tdiv a) !=b)
 all_goals
  simp only[go_sem,d0,d1,d2,d3,d4,d5,e0];exact .same (.refl _) ⟨by simp only[zK,I9,w64,d0,d1,d2,d3,d4,d5];rfl,rfl⟩
theorem Be(b:Bool)(h:Heap):ai prog 270 [.b b] h fun r h' =>r=aP (cE b)∧h' =h:=by
 refine acJ func270 8 [.cell 2 23] fun hwf=>?_
 simp only[go_sem];intro i1 h1;simp only[go_sem];intro i2 h2;have n21:=aH h2;have n2:=aB h2;cases b
 all_goals
  simp only[go_sem,ak,n21.symm];exact .mk _ (.refl _) ((((Sub.refl h).put h1 _).put n2 _).put h1 _) ⟨rfl,rfl⟩
theorem BA(kind:Int)(l:List bt)(hl:l.length≤1000000)(p:Perm)(h:Heap):ai prog 275 [.i kind,.sl (l.map aP) p] h fun r h' =>r= .b (l.all fun v=>v.kind==kind)∧h' =h:=by
 refine acJ func275 18 [.tmp 4] fun hwf=>?_
 simp only[go_sem,acA];refine .intro (fun q ρ G=>Ab.Sub h G∧∃i:Nat,i≤l.length∧q=l.length - i∧(∀j (hj:j<i) (h2:j<l.length),(l[j].kind==kind)=true)∧lk ρ 0=some (.i kind)∧lk ρ 7=some (.sl (l.map aP) p)∧lk ρ 8=some (.i l.length)∧lk ρ 9=some (.i i)) l.length ?_ ?_
 ·refine⟨.refl _,0,acK,rfl,fun j hj=>acK,?_,?_,?_,?_⟩<;>simp only[go_sem]
 ·rintro q ρ G ⟨hs,i,hi,rfl,hc,r0,r7,r8,r9⟩
  simp only[go_sem,r8,r9];refine .intro (fun e=>?_) (fun e=>?_)
  ·have hlt:i<l.length:=acH e
   have w1:IntKind.i64.wrap ((i:Int)+1)=((i+1:Nat):Int):=acX;have ix:=fun k=>fP.eq (xs:=l.map aP) (sz:=3) i acL acZ k
   rw[acB]at ix;have hci:=fun(d:(l[i].kind==kind)=true)=>(fun j (hj:j<i+1) (h2:j<l.length)=>(by grind:(l[j].kind==kind)=true))
   have hat:=fun(d:(l[i].kind==kind)=false)=>(List.all_eq_false.2 ⟨l[i],acF hlt,acL⟩:(l.all fun v=>v.kind==kind)=false)
   obtain⟨v,ev⟩:∃v,l[i]=v:=⟨_,rfl⟩;rw[ev]at ix hci hat;simp only[aP]at ix;cases d1:(v.kind==kind)
   ·have d2:(v.kind !=kind)=true:=by grind
    simp only[go_sem,r7,r9,ix];intro i4 h4;simp only[go_sem,r0,d2];exact .mk _ (.refl _) (hs.trans (.aj h4)) ⟨agK,rfl⟩
   ·have d2:(v.kind !=kind)=false:=by grind
    simp only[go_sem,r7,r9,ix];intro i4 h4;simp only[go_sem,r0,r9,d2,w1];refine⟨_,?_,hs.trans (.aj h4),i+1,acK,rfl,hci d1,?_,?_,?_,?_⟩
    ·omega
    all_goals simp only[go_sem,r0,r7,r8]
  ·have hge:i=l.length:=by grind
   simp only[go_sem];exact .mk _ (.refl _) hs ⟨by rw[List.all_eq_true.2 fun x hx=>afs];rfl,rfl⟩
theorem FG(g:FuncId)(a b:bt)(o:Bool)(n:Int)(hg:∀G,ai prog g [.i a.n,.i b.n] G fun r h' =>r=zK o n∧h' =G)(p:Perm)(h:Heap):
  ai prog 271 [.fn g [],.sl [aP a,aP b] p] h fun r h' =>r=qX (if([a,b].all fun v=>v.kind==2)then zL o n else nQ 2)∧h' =h:=by
 have ix0:=fun k=>fP.eq (xs:=[aP a,aP b]) (sz:=3) 0 acS rfl k
 have ix1:=fun k=>fP.eq (xs:=[aP a,aP b]) (sz:=3) 1 acS rfl k
 simp only[List.getElem_cons_zero,List.getElem_cons_succ,aP,Int.natCast_zero,Int.natCast_one]at ix0 ix1;have hal:=fun(G:Heap)=>BA 2 [a,b] acS p G
 simp only[List.map_cons,List.map_nil,aP]at hal;refine acJ func271 31 [.cell 4 23,.tmp 5] fun hwf=>?_
 simp only[go_sem,aP];intro i1 h1;simp only[go_sem];refine(hal _).pthen ?_;cases d1:([a,b].all fun v=>v.kind==2)
 ·simp only[go_sem]
  exact ac0
 ·simp only[go_sem]
  refine .quiet acO ?_;simp only[go_sem,ix0,ix1];cases o
  ·refine⟨_,hg _,?_⟩
   simp only[go_sem,zK];exact ac0
  ·refine⟨_,hg _,?_⟩
   simp only[go_sem,zK];exact ac0
theorem wM{α:Type}{l:List α}(h:l.length=2):∃a b,l= [a,b]:=by
 match l,h with
 | [a,b],_=>exact⟨a,b,rfl⟩
def Fz(op:Int)(l:List bt):Bool:= !(decide (op<6)||decide (13<op)||(l.length:Int) !=(if op==11 then 1 else 2)) && l.all aW
theorem Rh(op:Int)(l:List bt)(hl:l.length≤1000000)(p:Perm)(h:Heap):ai prog 269 [.i op,.sl (l.map aP) p] h fun r h' =>r= .b (Fz op l)∧h' =h:=by
 have hvr:=fun(v:bt) (G:Heap)=>gx v G
 simp only[aP]at hvr;refine acJ func269 32 [.tmp 4] fun hwf=>?_
 cases d11:(op==11)
 all_goals
  have hmm:Fz op l=(!(decide (op<6)||decide (13<op)||(l.length:Int) !=(if op==11 then 1 else 2)) && l.all aW):=rfl
  rw[d11]at hmm;simp only[if_true,Bool.false_eq_true,if_false]at hmm;cases d6:decide (op<6)
  case true=>rw[d6]at hmm;simp only[go_sem,d11,d6];exact .same (.refl _) ⟨by rw[hmm];rfl,rfl⟩
  cases d13:decide (13<op)
  case true=>rw[d6,d13]at hmm;simp only[go_sem,d11,d6,d13];exact .same (.refl _) ⟨by rw[hmm];rfl,rfl⟩
  rw[d6,d13]at hmm;simp only[Bool.or_false,Bool.false_or]at hmm;obtain⟨b,eb⟩:∃b,((l.length:Int) !=(if op==11 then 1 else 2))=b:=⟨_,rfl⟩
  rw[d11]at eb;simp only[if_true,Bool.false_eq_true,if_false]at eb;rw[eb]at hmm;cases b
  case true=>simp only[go_sem,d11,d6,d13,acA,eb];exact .same (.refl _) ⟨by rw[hmm];rfl,rfl⟩
  simp only[Bool.not_false,Bool.true_and]at hmm;simp only[go_sem,d11,d6,d13,acA,eb];refine .intro (fun q ρ G=>Ab.Sub h G∧∃i:Nat,i≤l.length∧q=l.length - i∧(∀j (hj:j<i) (h2:j<l.length),aW l[j]=true)∧lk ρ 22=some (.sl (l.map aP) p)∧lk ρ 23=some (.i l.length)∧lk ρ 24=some (.i i)) l.length ?_ ?_
  ·refine⟨.refl _,0,acK,rfl,fun j hj=>acK,?_,?_,?_⟩<;>simp only[go_sem]
  ·rintro q ρ G ⟨hs,i,hi,rfl,hc,r22,r23,r24⟩
   simp only[go_sem,r23,r24];refine .intro (fun e=>?_) (fun e=>?_)
   ·have hlt:i<l.length:=acH e
    have w1:IntKind.i64.wrap ((i:Int)+1)=((i+1:Nat):Int):=acX;have ix:=fun k=>fP.eq (xs:=l.map aP) (sz:=3) i acL acZ k
    rw[acB]at ix;have hci:=fun(d:aW l[i]=true)=>(fun j (hj:j<i+1) (h2:j<l.length)=>(by grind:aW l[j]=true))
    have hat:=fun(d:aW l[i]=false)=>(List.all_eq_false.2 ⟨l[i],acF hlt,acL⟩:l.all aW=false)
    obtain⟨v,ev⟩:∃v,l[i]=v:=⟨_,rfl⟩;rw[ev]at ix hci hat;simp only[aP]at ix;simp only[go_sem,r22,r24,ix];intro i4 h4;simp only[go_sem];refine(hvr v _).pthen ?_;cases d1:aW v
    ·simp only[go_sem]
     exact .mk _ (.refl _) (hs.trans (.aj h4)) ⟨by rw[hmm,hat d1];rfl,rfl⟩
    ·simp only[go_sem,r24,w1]
     refine⟨_,?_,hs.trans (.aj h4),i+1,acK,rfl,hci d1,?_,?_,?_⟩
     ·omega
     all_goals simp only[go_sem,r22,r23]
   ·have hge:i=l.length:=by grind
    simp only[go_sem];exact .mk _ (.refl _) hs ⟨by rw[hmm,List.all_eq_true.2 fun x hx=>afs];rfl,rfl⟩
theorem Kr{op:Int}{l:List bt}(h:Fz op l=false):gT op l=nQ 1:=by
 unfold gT;rw[if_pos]
 by_cases h1:6≤op∧op≤13
 ·by_cases h2:l.length=if op=11 then 1 else 2
  ·refine .inr (.inr ?_)
   unfold Fz at h
   grind
  omega
 omega
theorem HW{op:Int}{l:List bt}(h:Fz op l=true):(6≤op∧op≤13)∧l.all aW=true∧(op=11∧(∃a,l= [a])∨op≠11∧∃a b,l= [a,b]):=by
 unfold Fz at h;simp only[Bool.and_eq_true,Bool.not_eq_true',Bool.or_eq_false_iff,decide_eq_false_iff_not]at h;obtain⟨⟨⟨h1,h2⟩,h3⟩,h4⟩:=h;refine⟨acK,h4,?_⟩
 by_cases e:op=11
 ·subst e
  have h3' :(l.length:Int)=1:=acL;exact .inl ⟨rfl,List.length_eq_one_iff.1 acK⟩
 ·have h3' :(l.length:Int)=2:=by grind
  exact .inr ⟨e,wM acK⟩
theorem BD(op:Int)(l:List bt)(hl:l.length≤1000000)(p:Perm)(h:Heap):ai prog 263 [.i op,.sl (l.map aP) p] h fun r h' =>r=qX (gT op l)∧h' =h:=by
 have hmy:=fun G=>Rh op l hl p G
 cases dm:Fz op l
 ·rw[dm]at hmy
  refine acJ func263 111 [.cell 4 23,.tmp 5] fun hwf=>?_
  simp only[go_sem];intro i1 h1;simp only[go_sem];refine(hmy _).pthen ?_;simp only[go_sem];exact .mk _ (.refl _) (.aj h1) ⟨by rw[Kr dm];rfl,rfl⟩
 rw[dm]at hmy;obtain⟨hop,hall,hf⟩:=HW dm;rcases hf with⟨rfl,a,rfl⟩|⟨e11,a,b,rfl⟩
 ·have ix0:=fun k=>fP.eq (xs:=[aP a]) (sz:=3) 0 acS rfl k
  simp only[List.getElem_cons_zero,aP,Int.natCast_zero]at ix0;have hal:=fun(G:Heap)=>BA 1 [a] acS p G
  simp only[List.map_cons,List.map_nil,aP]at hal hmy;have hc:gT 11 [a]=if(([a].all fun v=>v.kind==1)=false)then nQ 2 else(cE (a.n==0),0):=by
   unfold gT;rw[if_neg (by simp[hall])]
   simp
  have htr:=fun G=>Be (a.n==0) G
  refine acJ func263 111 [.cell 4 23,.tmp 5] fun hwf=>?_
  simp only[go_sem,List.map_cons,List.map_nil,aP];intro i1 h1;simp only[go_sem];refine(hmy _).pthen ?_;simp only[go_sem];refine(hal _).pthen ?_;cases d1:([a].all fun v=>v.kind==1)
  ·simp only[go_sem]
   exact .mk _ (.refl _) (.aj h1) ⟨by rw[hc,if_pos d1];rfl,rfl⟩
  ·simp only[go_sem,ix0]
   refine(htr _).pthen ?_;simp only[go_sem,aP];exact .mk _ (.refl _) (.aj h1) ⟨by rw[hc,if_neg (by rw[d1];decide)];rfl,rfl⟩
 ·have ix0:=fun k=>fP.eq (xs:=[aP a,aP b]) (sz:=3) 0 acS rfl k
  have ix1:=fun k=>fP.eq (xs:=[aP a,aP b]) (sz:=3) 1 acS rfl k
  simp only[List.getElem_cons_zero,List.getElem_cons_succ,aP,Int.natCast_zero,Int.natCast_one]at ix0 ix1;have hal:=fun(G:Heap)=>BA 1 [a,b] acS p G
  have hva:aW a=true∧aW b=true:=by simpa using hall
  have hnu:=fun(g:FuncId) (o:Bool) (n:Int) hg (G:Heap)=>FG g a b o n hg p G
  simp only[List.map_cons,List.map_nil,aP]at hal hmy hnu;have hle:=fun G=>BX a b G
  simp only[aP]at hle;have htr:=fun(x:Bool) G=>Be x G
  have hc:gT op [a,b]=if op=6 then(if a.kind=b.kind then(cE (eqV a b),0)else nQ 2)
    else if op=7 then(match nj a b with
     |some x=>(cE x,0)
     |none=>nQ 2)
    else if op=8∨op=9∨op=10 then
     (if [a,b].all fun v=>v.kind==2 then(if op=8 then zL (J7 a.n b.n) (a.n+b.n)else if op=9 then zL (Mp a.n b.n) (a.n - b.n)else zL (I9 a.n b.n) (a.n*b.n))else nQ 2)
    else if([a,b].all fun v=>v.kind==1)=false then nQ 2
    else if op=12 then(cE (a.n==1 && b.n==1),0)
    else(cE (a.n==1||b.n==1),0):=by
   unfold gT;rw[if_neg (by simp[hall,e11,hop.1,hop.2])]
   simp only[e11,if_false];rfl
  refine acJ func263 111 [.cell 4 23,.tmp 5] fun hwf=>?_
  simp only[go_sem,List.map_cons,List.map_nil,aP];intro i1 h1;simp only[go_sem];refine(hmy _).pthen ?_;rcases(show op=6∨op=7∨op=8∨op=9∨op=10∨op=12∨op=13 by omega)with rfl|rfl|rfl|rfl|rfl|rfl|rfl
  ·simp only[go_sem]
   refine⟨.of acO,?_⟩;cases dk:(a.kind !=b.kind)
   case true=>simp only[go_sem,ix0,ix1,dk];exact .mk _ (.refl _) (.aj h1) ⟨by rw[hc,if_pos rfl,if_neg (by simpa using dk)];rfl,rfl⟩
   ·simp only[go_sem,ix0,ix1,dk]
    refine .calls cL [0,1,2,3,4,5,6,7,8,9] (fun _ _ e=>adb) acO rfl ?_
    simp only[go_sem,ix0,ix1];have htr1:=htr (eqV a b);simp only[eqV]at htr1;refine(htr1 _).pthen ?_;refine⟨fun _ _ e=>adb,?_⟩
    simp only[go_sem,aP];refine⟨fun _ _ e=>adb,?_⟩
    exact .mk _ (.refl _) (.aj h1) ⟨by rw[hc,if_pos rfl,if_pos (by simpa using dk)];rfl,rfl⟩
  ·have hc7:gT 7 [a,b]=(match nj a b with
     |some x=>(cE x,0)
     |none=>nQ 2):=by rw[hc];rfl
   simp only[go_sem];refine .quiet acO ?_;simp only[go_sem,ix0,ix1];refine⟨_,hle _,?_⟩;cases hl:nj a b with
   |none=>
    have e2:ym a b=2:=by simp[ym,hva]
    rw[hl]at hc7;simp only[go_sem,lq,hl,e2];exact .mk _ (.refl _) (.aj h1) ⟨by rw[hc7];rfl,rfl⟩
   |some x=>rw[hl]at hc7;simp only[go_sem,lq,hl];refine(htr x _).pthen ?_;simp only[go_sem,aP];exact .mk _ (.refl _) (.aj h1) ⟨by rw[hc7];rfl,rfl⟩
  ·have hc8:gT 8 [a,b]=if [a,b].all (fun v=>v.kind==2)then zL (J7 a.n b.n) (a.n+b.n)else nQ 2:=by rw[hc];rfl
   have hg:=hnu 272 _ _ (fun G=>Qg a.n b.n G)
   rw[←hc8]at hg;obtain⟨⟨v,e⟩,ex⟩:∃x,gT 8 [a,b]=x:=⟨_,rfl⟩;exact ahj
  ·have hc8:gT 9 [a,b]=if [a,b].all (fun v=>v.kind==2)then zL (Mp a.n b.n) (a.n - b.n)else nQ 2:=by rw[hc];rfl
   have hg:=hnu 273 _ _ (fun G=>RT a.n b.n G)
   rw[←hc8]at hg;obtain⟨⟨v,e⟩,ex⟩:∃x,gT 9 [a,b]=x:=⟨_,rfl⟩;exact ahj
  ·have hc8:gT 10 [a,b]=if [a,b].all (fun v=>v.kind==2)then zL (I9 a.n b.n) (a.n*b.n)else nQ 2:=by rw[hc];rfl
   have hg:=hnu 274 _ _ (fun G=>Rk a.n b.n G)
   rw[←hc8]at hg;obtain⟨⟨v,e⟩,ex⟩:∃x,gT 10 [a,b]=x:=⟨_,rfl⟩;exact ahj
  ·have hc12:gT 12 [a,b]=if([a,b].all fun v=>v.kind==1)=false then nQ 2 else(cE (a.n==1 && b.n==1),0):=by rw[hc];rfl
   simp only[go_sem];refine(hal _).pthen ?_;cases d1:([a,b].all fun v=>v.kind==1)
   ·simp only[go_sem]
    exact .mk _ (.refl _) (.aj h1) ⟨by rw[hc12,if_pos d1];rfl,rfl⟩
   ·rw[if_neg (by rw[d1];decide)]at hc12
    cases da:(a.n==1)<;>cases db:(b.n==1)
    all_goals
     rw[da,db]at hc12;simp only[go_sem,ix0,ix1,da,db];refine(htr _ _).pthen ?_;simp only[go_sem,aP];exact .mk _ (.refl _) (.aj h1) ⟨by rw[hc12];rfl,rfl⟩
  ·have hc13:gT 13 [a,b]=if([a,b].all fun v=>v.kind==1)=false then nQ 2 else(cE (a.n==1||b.n==1),0):=by rw[hc];rfl
   simp only[go_sem];refine(hal _).pthen ?_;cases d1:([a,b].all fun v=>v.kind==1)
   ·simp only[go_sem]
    exact .mk _ (.refl _) (.aj h1) ⟨by rw[hc13,if_pos d1];rfl,rfl⟩
   ·rw[if_neg (by rw[d1];decide)]at hc13
    cases da:(a.n==1)<;>cases db:(b.n==1)
    all_goals
     rw[da,db]at hc13;simp only[go_sem,ix0,ix1,da,db];refine(htr _ _).pthen ?_;simp only[go_sem,aP];exact .mk _ (.refl _) (.aj h1) ⟨by rw[hc13];rfl,rfl⟩
end Go.Proofs.YteaaeelhjnhaaaaGreatDoor
namespace Go.Bf
open Go Go.Ab Go.Proofs.YteaaeelhjnhaaaaGreatDoor
def bP(x:jw):AV:=.agg [.sl (x.bag.map aP) .no,.i x.v.kind,.i x.v.n,.s x.v.s,.i x.e]
end Go.Bf
namespace Go.Proofs.YteaaeelhjnhaaaaGreatDoor
open Go Go.Ab Go.Bf Tryz
variable {gs:List br}{op:Int}{val:bt}{attr:rM}{l:List jw}
theorem Q5(x:jw)(n:Int)(h:Heap):ai prog 218 [bP x,.i n] h fun r h' =>r= .b (isI x n)∧h' =h:=by
 refine acJ func218 15 [.tmp 4] fun hwf=>?_
 simp only[go_sem,bP];exact ahg
theorem NP(x:jw)(n:Int)(h:Heap):ai prog 218 [.agg [.sl [] .full,.i x.v.kind,.i x.v.n,.s x.v.s,.i x.e],.i n] h fun r h' =>r= .b (isI x n)∧h' =h:=by
 refine acJ func218 15 [.tmp 4] fun hwf=>?_
 simp only[go_sem];exact ahg
theorem vf(b:Bool)(h:Heap):ai prog 261 [.b b] h fun r h' =>r=bP (iV b)∧h' =h:=by
 refine acJ func261 10 [.cell 2 306] fun hwf=>?_
 simp only[go_sem];intro i1 h1;simp only[go_sem];intro i2 h2;have n21:=aH h2;have n2:=aB h2;cases b
 all_goals
  simp only[go_sem,ak,n21.symm];refine .mk (bP (iV _)) ?_ ((((Sub.refl h).put h1 _).put n2 _).put h1 _) ⟨rfl,rfl⟩;refine .agg _ _ rfl fun i a b=>?_
  rcases i with _|_|_|_|_|i
  ·exact afp
  all_goals first|exact .refl _|(simp at a;omega)
theorem E1(op:Int)(h:Heap):ai prog 242 [.i op] h fun r h' =>r= .i (opsOf op:Nat)∧h' =h:=by
 refine acJ func242 11 [.tmp 2] fun hwf=>?_
 cases d1:(op==1)
 case true=>simp only[go_sem,d1];exact .same (.refl _) ⟨by rw[opsOf,if_pos (.inl acL)];rfl,rfl⟩
 cases d2:(op==2)
 case true=>simp only[go_sem,d1,d2];exact .same (.refl _) ⟨by rw[opsOf,if_pos (.inr acL)];rfl,rfl⟩
 have e1:¬(op=1∨op=2):=acL;cases d3:(op==3)
 case true=>simp only[go_sem,d1,d2,d3];exact .same (.refl _) ⟨by rw[opsOf,if_neg e1,if_pos (.inl acL)];rfl,rfl⟩
 cases d4:(op==4)
 case true=>simp only[go_sem,d1,d2,d3,d4];exact .same (.refl _) ⟨by rw[opsOf,if_neg e1,if_pos (.inr (.inl acL))];rfl,rfl⟩
 cases d5:(op==11)
 case true=>simp only[go_sem,d1,d2,d3,d4,d5];exact .same (.refl _) ⟨by rw[opsOf,if_neg e1,if_pos (.inr (.inr acL))];rfl,rfl⟩
 have e2:¬(op=3∨op=4∨op=11):=acL;simp only[go_sem,d1,d2,d3,d4,d5];exact .same (.refl _) ⟨by rw[opsOf,if_neg e1,if_neg e2];rfl,rfl⟩
theorem Ft(vs:List bt)(hl:vs.length≤1000000000)(x:bt)(p:Perm)(h:Heap):
  ai prog 277 [.sl (vs.map aP) p,aP x] h fun r h' =>r= .i (ixD (fun y=>eqV x y) vs)∧h' =h:=by
 refine acJ func277 19 [.tmp 4] fun hwf=>?_
 simp only[go_sem,aP];intro i1 h1;simp only[go_sem,acA];refine .intro (fun m ρ G=>G=upd h i1 (some (.obj [.i x.kind,.i x.n,.s x.s] 23))∧∃i:Nat,i≤vs.length∧m=vs.length - i∧(∀j (hj:j<i) (h2:j<vs.length),eqV x vs[j]=false)∧lk ρ 0=some (.sl (vs.map aP) p)∧lk ρ 3=some (.ptr i1 0)∧lk ρ 7=some (.i vs.length)∧lk ρ 8=some (.i i)) vs.length ?_ ?_
 ·refine⟨rfl,0,acK,rfl,fun j hj=>acK,?_,?_,?_,?_⟩<;>simp only[go_sem]
 ·rintro m ρ G ⟨rfl,i,hi,rfl,hc,r0,r3,r7,r8⟩
  simp only[go_sem,r7,r8];refine .intro (fun e=>?_) (fun e=>?_)
  ·have hlt:i<vs.length:=acH e
   have w1:IntKind.i64.wrap ((i:Int)+1)=((i+1:Nat):Int):=acX;have ix:=fun k=>fP.eq (xs:=vs.map aP) (sz:=3) i acL acZ k
   rw[acB]at ix;have hci:=fun(d:eqV x vs[i]=false)=>(fun j (hj:j<i+1) (h2:j<vs.length)=>(by grind:eqV x vs[j]=false))
   have hat:=fun(d:eqV x vs[i]=true)=>nT (q:=fun y=>eqV x y) hlt d fun j hj=>hc j hj acK
   obtain⟨v,ev⟩:∃v,vs[i]=v:=⟨_,rfl⟩;rw[ev]at ix hci hat;simp only[aP]at ix;simp only[go_sem,r0,r3,r8];refine⟨.of acO,?_⟩;cases d1:eqV x v
   ·have d2:=d1
    simp only[eqV]at d2;simp only[go_sem,r8,ix,d2,w1];refine⟨_,?_,rfl,i+1,acK,rfl,hci d1,?_,?_,?_,?_⟩
    ·omega
    all_goals simp only[go_sem,r0,r3,r7]
   ·have d2:=d1
    simp only[eqV]at d2;simp only[go_sem,ix,d2];exact .mk _ (.refl _) (.aj h1) ⟨agK,rfl⟩
  ·have hge:i=vs.length:=by grind
   simp only[go_sem];exact .mk _ (.refl _) (.aj h1) ⟨adg,rfl⟩
theorem Ng{vs:List bt}{x:bt}:decide ((0:Int)≤ixD (fun y=>eqV x y) vs)=vs.any fun v=>eqV v x:=by
 have hsy:(fun v=>eqV v x)=fun v=>eqV x v:=by simp[funext,eqV,BEq.comm]
 rw[um,hsy]
theorem OQ(vs:List bt)(hl:vs.length≤1000000000)(x:bt)(p:Perm)(h:Heap):ai prog 262 [.sl (vs.map aP) p,aP x] h fun r h' =>r= .b (vs.any fun v=>eqV v x)∧h' =h:=by
 have h1:∀G,ai prog 268 [.sl (vs.map aP) p,aP x] G fun r h' =>r= .b (vs.any fun v=>eqV v x)∧h' =G:=fun G=>by
  have hq:=fun K=>Ft vs hl x p K
  refine acJ func268 9 [.tmp 4] fun hwf=>?_
  simp only[go_sem,aP];intro i1 h1;simp only[go_sem];refine(hq _).pthen ?_;simp only[go_sem,Ng];exact ac0
 refine acJ func262 8 [.tmp 4] fun hwf=>?_
 simp only[go_sem,aP];intro i1 h1';simp only[go_sem];refine(h1 _).pthen ?_;simp only[go_sem];exact .mk _ (.refl _) (.aj h1') ⟨rfl,rfl⟩
theorem lp{L:List AV}{x:jw}(hL:L=x.bag.map aP)(q:Perm):Weak (.agg [.sl L q,.i x.v.kind,.i x.v.n,.s x.v.s,.i x.e]) (bP x):=by
 subst hL;refine .agg _ _ rfl fun i a b=>?_
 rcases i with _|_|_|_|_|i
 ·exact afp
 all_goals first|exact .refl _|(simp at a;omega)
theorem tG(op:Int):opsOf op≤2:=by grind [opsOf]
theorem uN{x:jw}(h1:op≠1)(h2:op≠2)(hno:¬((op=12∨op=13)∧(l.any fun x=>isI x (op - 12))=true))(hx:l.find? (fun x=>x.e !=0)=some x):lB gs ⟨op,val,attr⟩ l=⟨[],an,x.e⟩:=by simp_all [lB,if_neg]
theorem uL(h1:op≠1)(h2:op≠2)(hno:¬((op=12∨op=13)∧(l.any fun x=>isI x (op - 12))=true))(hx:l.find? (fun x=>x.e !=0)=none):lB gs ⟨op,val,attr⟩ l=(if op=3 then(match (l.headD ⟨[],an,0⟩).bag with
    | [v]=>⟨[],v,0⟩
    |_=>⟨[],an,4⟩)
   else if op=4 then⟨[],⟨2,(l.headD ⟨[],an,0⟩).bag.length,[]⟩,0⟩
   else if op=5 then iV ((l.headD ⟨[],an,0⟩).bag.any fun v=>eqV v (l.getD 1 ⟨[],an,0⟩).v)
   else Go.Bf.zZ (gT op (l.map (·.v)))):=by
 unfold lB;simp only[if_neg h1,if_neg h2,if_neg hno,hx]
 all_goals rfl
theorem N7{h:Heap}{y:AV}(n:aZ)(hop:1≤n.op∧n.op≤13)(l:List jw)(hb:Rd h 5 y (l.map bP))(hl:l.length=opsOf n.op)(hbag:∀x∈l,x.bag.length≤1000000)(gs:List br)(hf:rG gs):
  ai prog 243 [dH n,y,bJ gs] h fun r h' =>r=bP (lB gs n l)∧h' =h:=by
 obtain⟨op,val,attr⟩:=n;simp only at hop hl;have hl2:l.length≤2:=by rw[hl];exact tG op
 have uV:(U 23).sz=3:=acT;have hg:=fun G=>GG gs attr.cat attr.name attr.must (by have:=hf.1;omega) hf.2 G
 simp only[bJ]at hg;refine acJ func243 122 [.cell 6 306] fun hwf=>?_
 simp only[go_sem,dH,bJ];intro i3 h3;simp only[go_sem];intro i6 h6;have n63:=aH h6;have n6' :=aB h6;obtain⟨H0,eH⟩:∃H0,upd (upd h i3 (some (.obj [.i op,.i val.kind,.i val.n,.s val.s,.i attr.cat,.s attr.name,.b attr.must] 261))) i6 (some (.obj [.sl [] .full,.i 0,.i 0,.s [],.i 0] 306))=H0:=⟨_,rfl⟩;have hH0:Ab.Sub h H0:=afI;have g3:H0 i3=some (.obj [.i op,.i val.kind,.i val.n,.s val.s,.i attr.cat,.s attr.name,.b attr.must] 261):=by rw[←eH,ag _ _ n63.symm,ah]
 have g6:H0 i6=some (.obj [.sl [] .full,.i 0,.i 0,.s [],.i 0] 306):=aed;rw[eH];clear eH;cases d1:(op==1)
 case true=>have e1:op=1:=afJ;simp only[go_sem,d1,g3,g6];exact .mk (bP ⟨[],val,0⟩) (lp (x:=⟨[],val,0⟩) rfl _) (hH0.put n6' _) ⟨by unfold lB;simp only[e1,if_true],rfl⟩
 have hp1' :op≠1:=afJ;cases d2:(op==2)
 case true=>
  have e2:op=2:=by simpa using d2
  simp only[go_sem,d1,d2,g3];refine(hg _).pthen ?_
  by_cases hh:xq gs attr= []∧attr.must=true
  ·have hh2:Go.Bf.getD gs attr.cat attr.name= []∧attr.must=true:=hh
   simp only[go_sem,IG,if_pos hh2,g6];exact .mk (bP ⟨[],an,4⟩) (lp (x:=⟨[],an,4⟩) rfl _) (hH0.put n6' _) ⟨by unfold lB;simp only[e2,if_neg (show¬(2:Int)=1 by decide),if_true,if_pos hh],rfl⟩
  ·have hh2:¬(Go.Bf.getD gs attr.cat attr.name= []∧attr.must=true):=hh
   simp only[go_sem,IG,if_neg hh2,g6];exact .mk (bP ⟨xq gs attr,an,0⟩) (lp (x:=⟨xq gs attr,an,0⟩) rfl _) (hH0.put n6' _) ⟨by unfold lB;simp only[e2,if_neg (show¬(2:Int)=1 by decide),if_true,if_neg hh],rfl⟩
 have hp2' :op≠2:=by simpa using d2
 have his:=fun(x:jw) (m:Int) (G:Heap)=>Q5 x m G
 simp only[bP]at his;cases d12:(op==12)
 case true=>
  have e12:op=12:=by simpa using d12
  have htr:=fun G=>vf false G
  simp only[bP]at htr;obtain⟨a,b,hab⟩:∃a b,l= [a,b]:=wM (by rw[hl,e12];rfl)
  have wk:IntKind.i64.wrap (op - 12)=0:=afq;have han:(l.any fun x=>isI x (op - 12))=(isI a 0||isI b 0):=by rw[hab,e12];simp
  have hb0:l.map bP= [bP a,bP b]:=by rw[hab];rfl
  have q3:(op==3)=false:=afq;have q4:(op==4)=false:=afq;have q5:(op==5)=false:=afq;have hbH:=hb.sub hH0;simp only[go_sem,d2,d1,d12,g3,wk];refine hbH.idx (e:=306) 0 rfl aeZ acT acN fun p hp1=>?_
  have hld:=hp1.all (U:=U) (ty:=306) acT adT adT;simp only[go_sem,hld,hb0,List.getElem_cons_zero,bP];refine(his a 0 _).pthen ?_;cases da:isI a 0
  ·simp only[go_sem]
   refine hbH.idx (e:=306) 1 rfl aeZ acT acN fun p hp1=>?_
   have hld:=hp1.all (U:=U) (ty:=306) acT adt adt;simp only[go_sem,hld,hb0,List.getElem_cons_succ,List.getElem_cons_zero,bP];refine(his b 0 _).pthen ?_;cases db:isI b 0
   ·exact agT
   ·simp only[go_sem]
    refine(htr _).pthen ?_;simp only[go_sem,g6];exact .mk (bP (iV false)) (lp (x:=(iV false)) rfl _) (hH0.put n6' _) ⟨by unfold lB;rw[han,da,db];simp[e12]<;>rfl,rfl⟩
  ·simp only[go_sem]
   refine(htr _).pthen ?_;simp only[go_sem,g6];exact .mk (bP (iV false)) (lp (x:=(iV false)) rfl _) (hH0.put n6' _) ⟨by unfold lB;rw[han,da];simp[e12]<;>rfl,rfl⟩
 have hn12:op≠12:=by simpa using d12
 cases d13:(op==13)
 case true=>
  have e12:op=13:=by simpa using d13
  have htr:=fun G=>vf true G
  simp only[bP]at htr;obtain⟨a,b,hab⟩:∃a b,l= [a,b]:=wM (by rw[hl,e12];rfl)
  have wk:IntKind.i64.wrap (op - 12)=1:=afq;have han:(l.any fun x=>isI x (op - 12))=(isI a 1||isI b 1):=by rw[hab,e12];simp
  have hb0:l.map bP= [bP a,bP b]:=by rw[hab];rfl
  have q3:(op==3)=false:=afq;have q4:(op==4)=false:=afq;have q5:(op==5)=false:=afq;have hbH:=hb.sub hH0;simp only[go_sem,d1,d2,d12,d13,g3,wk];refine hbH.idx (e:=306) 0 rfl aeZ acT acN fun p hp1=>?_
  have hld:=hp1.all (U:=U) (ty:=306) acT adT adT;simp only[go_sem,hld,hb0,List.getElem_cons_zero,bP];refine(his a 1 _).pthen ?_;cases da:isI a 1
  ·simp only[go_sem]
   refine hbH.idx (e:=306) 1 rfl aeZ acT acN fun p hp1=>?_
   have hld:=hp1.all (U:=U) (ty:=306) acT adt adt;simp only[go_sem,hld,hb0,List.getElem_cons_succ,List.getElem_cons_zero,bP];refine(his b 1 _).pthen ?_;cases db:isI b 1
   ·exact agT
   ·simp only[go_sem]
    refine(htr _).pthen ?_;simp only[go_sem,g6];exact .mk (bP (iV true)) (lp (x:=(iV true)) rfl _) (hH0.put n6' _) ⟨by unfold lB;rw[han,da,db];simp[e12]<;>rfl,rfl⟩
  ·simp only[go_sem]
   refine(htr _).pthen ?_;simp only[go_sem,g6];exact .mk (bP (iV true)) (lp (x:=(iV true)) rfl _) (hH0.put n6' _) ⟨by unfold lB;rw[han,da];simp[e12]<;>rfl,rfl⟩
 have hn13:op≠13:=by simpa using d13
 have hno:¬((op=12∨op=13)∧(l.any fun x=>isI x (op - 12))=true):=fun hh=>hh.1.elim hn12 hn13
 simp only[go_sem,d1,d2,d12,d13,g3,hb.len,acA];refine .intro (fun m ρ H=>∃(i:Nat) (z:AV),Acc U 23 H0 H z ((l.take i).map fun x=>aP x.v)∧i≤l.length∧m=l.length - i∧(∀j (h1:j<l.length),j<i→l[j].e=0)∧lk ρ 1=some y∧lk ρ 3=some (.ptr i3 0)∧lk ρ 6=some (.ptr i6 0)∧lk ρ 10=some z∧lk ρ 55=some y∧lk ρ 56=some (.i l.length)∧lk ρ 57=some (.i i)) l.length ?_ ?_
 ·refine⟨0,.sl [] .full,.full (.refl _),acK,rfl,fun j _ hj=>acK,?_,?_,?_,?_,?_,?_,?_⟩<;>simp only[go_sem]
 ·rintro m ρ H ⟨i,z,hz,hi,rfl,hc,r1,r3,r6,r10,r55,r56,r57⟩
  have hsH:=hH0.trans hz.1;have hbH:=hb.sub hsH;have k3:=hz.1 _ _ g3;have k6:=hz.1 _ _ g6;simp only[go_sem,r56,r57];refine .intro (fun e=>?_) (fun e=>?_)
  ·have hlt:i<l.length:=acH e
   have w1:=acG i acK;have hsn:(l.take (i+1)).map (fun x=>aP x.v)=(l.take i).map (fun x=>aP x.v)++ [aP l[i].v]:=adX
   simp only[go_sem,r55,r57];refine hbH.idx (e:=306) i rfl ada acT acN fun p hp1=>?_
   have hld:=hp1.all (U:=U) (ty:=306) acT adp adp;obtain⟨x,ex⟩:∃x,l[i]=x:=⟨_,rfl⟩;rw[ex]at hsn;simp only[go_sem,hld,acB,ex,bP];intro i12 h12;have n126:i12≠i6:=fun e=>aeO
   cases dx:(x.e !=0)
   ·have dx' :x.e=0:=by simpa using dx
    simp only[go_sem,r10,dx];refine(hz.sub (.aj h12)).app (zs:=[aP x.v]) acP acP (fun k hk=>hk) ad3 aej ac2 fun z' H' hz' kp=>?_
    simp only[go_sem,r57,w1];refine⟨_,?_,i+1,z',by rw[hsn];exact hz',acK,rfl,fun j h1 hj=>?_,?_,?_,?_,?_,?_,?_,?_⟩
    ·omega
    ·by_cases hji:j=i
     ·subst hji;rw[ex];exact dx'
     ·exact hc j h1 acK
    all_goals simp only[go_sem,r1,r3,r6,r55,r56]
   ·have hfi:l.find? (fun x=>x.e !=0)=some x:=by rw[←ex];exact List.find?_eq_some_iff_getElem.2 ⟨by rw[ex];exact dx,i,hlt,rfl,fun j hj=>agc⟩
    simp only[go_sem,r6,dx,ak,n126.symm,k6];exact .mk (bP ⟨[],an,x.e⟩) (lp (x:=⟨[],an,x.e⟩) rfl _) ((hsH.trans (.aj h12)).put n6' _) ⟨afZ,rfl⟩
  ·have hge:i=l.length:=by have:=acD e;omega
   subst hge;have hfi:l.find? (fun x=>x.e !=0)=none:=List.find?_eq_none.2 fun x hx=>by obtain⟨j,hj,rfl⟩:=List.mem_iff_getElem.1 hx;rw[hc j hj hj];decide
   have hnd:=uL (gs:=gs) (val:=val) (attr:=attr) hp1' hp2' hno hfi;rw[List.take_length]at hz;obtain⟨qz,eqz⟩:=hz.row;subst eqz;have hcl:=fun G=>BD op (l.map (·.v)) afS qz G
   rw[List.map_map]at hcl;have hcl:∀G,ai prog 263 [.i op,.sl (l.map fun x=>aP x.v) qz] G fun r h' =>r=qX (gT op (l.map (·.v)))∧h' =G:=hcl
   cases d3:(op==3)
   case true=>
    have e3:op=3:=agz;obtain⟨a,ha⟩:∃a,l= [a]:=List.length_eq_one_iff.1 (by rw[hl,e3];rfl)
    have hb0:l.map bP= [bP a]:=by rw[ha];rfl
    simp only[e3,if_true,ha,List.headD_cons]at hnd;simp only[go_sem,r1,r3,k3,d3];refine hbH.idx (e:=306) 0 rfl aeZ acT acN fun p hp1=>?_
    (try simp only[go_sem])
    refine hp1.field (f:=0) (off:=0) (t:=159) rfl adx fun p2 hp2=>?_
    have hld:=hp2.part (U:=U) (ty:=159) adx adI;simp only[hb0,List.getElem_cons_zero,bP,AV.cells]at hld;cases db:((a.bag.length:Int) !=1)
    ·have hb1:(a.bag.length:Int)=1:=by simpa using db
     obtain⟨v,hv⟩:=List.length_eq_one_iff.1 (show a.bag.length=1 by omega)
     rw[hv]at hnd hld;have iv:=fun K=>fP.eq (xs:=[aP v]) (sz:=3) 0 acS rfl K
     simp only[List.getElem_cons_zero,aP,Int.natCast_zero]at iv;simp only[go_sem,r1,hld,List.map_cons,List.map_nil,aP];refine hbH.idx (e:=306) 0 rfl aeZ acT acN fun p hp1=>?_
     (try simp only[go_sem])
     refine hp1.field (f:=0) (off:=0) (t:=159) rfl adx fun p2 hp2=>?_
     have hld:=hp2.part (U:=U) (ty:=159) adx adI;simp only[hb0,List.getElem_cons_zero,bP,AV.cells,hv,List.map_cons,List.map_nil,aP]at hld;simp only[go_sem,hld,iv,r6,k6];exact .mk (bP ⟨[],v,0⟩) (lp (x:=⟨[],v,0⟩) rfl _) (hsH.put n6' _) ⟨by rw[e3,ha,hnd]<;>rfl,rfl⟩
    ·simp only[go_sem,hld,acA,db,r6,k6]
     refine .mk (bP ⟨[],an,4⟩) (lp (x:=⟨[],an,4⟩) rfl _) (hsH.put n6' _) ⟨?_,rfl⟩;rw[e3,ha,hnd]
     congr 1
     split
     ·rename_i v hv;rw[hv]at db;simp at db
     ·rfl
   cases d4:(op==4)
   case true=>
    have e4:op=4:=by simpa using d4
    obtain⟨a,ha⟩:∃a,l= [a]:=List.length_eq_one_iff.1 (by rw[hl,e4];rfl)
    have hb0:l.map bP= [bP a]:=by rw[ha];rfl
    simp only[go_sem,r1,r3,k3,d3,d4];refine hbH.idx (e:=306) 0 rfl aeZ acT acN fun p hp1=>?_
    (try simp only[go_sem])
    refine hp1.field (f:=0) (off:=0) (t:=159) rfl adx fun p2 hp2=>?_
    have hld:=hp2.part (U:=U) (ty:=159) adx adI;simp only[hb0,List.getElem_cons_zero,bP,AV.cells]at hld;simp only[go_sem,hld,acA,r6,k6];exact .mk (bP ⟨[],⟨2,a.bag.length,[]⟩,0⟩) (lp (x:=⟨[],⟨2,a.bag.length,[]⟩,0⟩) rfl _) (hsH.put n6' _) ⟨by rw[hnd,e4,ha];rfl,rfl⟩
   cases d5:(op==5)
   case true=>
    have e5:op=5:=by simpa using d5
    obtain⟨a,b,hab⟩:∃a b,l= [a,b]:=wM (by rw[hl,e5];rfl)
    have hb0:l.map bP= [bP a,bP b]:=by rw[hab];rfl
    have hvh:=fun G=>OQ a.bag (by have:=hbag a (by rw[hab];simp);omega) b.v .no G
    simp only[aP]at hvh;have htr:=fun G=>vf (a.bag.any fun v=>eqV v b.v) G
    simp only[bP]at htr;simp only[go_sem,r3,k3,d3,d4,d5];refine .calls h [0,1,2,3,4,5,6,7,8,9,10] hsH acO rfl ?_;simp only[go_sem,r1];refine hb.idx (e:=306) 0 rfl aeZ acT acN fun p hp1=>?_
    simp only[go_sem];refine hp1.field (f:=0) (off:=0) (t:=159) rfl adx fun p2 hp2=>?_
    have hld:=hp2.part (U:=U) (ty:=159) adx adI;simp only[hb0,List.getElem_cons_zero,bP,AV.cells]at hld;simp only[go_sem,hld,r1];refine hb.idx (e:=306) 1 rfl aeZ acT acN fun p hp3=>?_
    simp only[go_sem];refine hp3.field (f:=1) (off:=1) (t:=23) rfl adx fun p4 hp4=>?_
    have hld4:=hp4.part (U:=U) (ty:=23) adx (by simp only[go_sem,hb0,List.getElem_cons_succ,List.getElem_cons_zero];exact acz rfl)
    simp only[hb0,List.getElem_cons_succ,List.getElem_cons_zero,bP,AV.cells]at hld4;simp only[go_sem,hld4];refine(hvh _).pthen ?_;refine⟨hsH,?_⟩;simp only[go_sem];refine(htr _).pthen ?_;refine⟨hsH,?_⟩;simp only[go_sem,r6,k6];refine⟨hsH.put n6' _,?_⟩;exact .mk (bP (iV (a.bag.any fun v=>eqV v b.v))) (lp (x:=(iV (a.bag.any fun v=>eqV v b.v))) rfl _) (hsH.put n6' _) ⟨by rw[hnd,e5,hab];rfl,rfl⟩
   obtain⟨⟨v,e⟩,ev⟩:∃x,gT op (l.map (·.v))=x:=⟨_,rfl⟩
   rw[ev]at hcl;simp only[go_sem,r3,r10,k3,d3,d4,d5];refine(hcl _).pthen ?_;simp only[go_sem,qX,aP];intro i13 h13;have n136:i13≠i6:=fun e=>agl
   simp only[go_sem,r6,ak,n136.symm,k6];exact .mk (bP ⟨[],v,e⟩) (lp (x:=⟨[],v,e⟩) rfl _) ((hsH.trans (.aj h13)).put n6' _) ⟨by rw[hnd];simp only[if_neg (show¬op=3 by simpa using d3),if_neg (show¬op=4 by simpa using d4),if_neg (show¬op=5 by simpa using d5)];rw[ev]<;>rfl,rfl⟩
end Go.Proofs.YteaaeelhjnhaaaaGreatDoor
namespace Go.Bf
open Go Go.Ab Go.Proofs.YteaaeelhjnhaaaaGreatDoor
variable {l:List aS}{alg op:Int}{gs:List br}{bs bs' z:List Bool}
theorem Ca{t:kr}(h:lH t=0):MZ t:=by
 obtain⟨h1,h2⟩:=Bc h;refine⟨acK,fun x hx=>?_⟩
 grind [Ag,Af]
theorem M6.turn{m:aS}(h:M6 m):M6 (En m):=by exact ahq
theorem M6.indet{m:aS}(h:M6 m):M6 (gN m):=by exact ahq
theorem M6.first(h:∀m∈l,M6 m):M6 (firstM l):=by
 unfold firstM;cases hf:l.find? fun m=>decide (m≠naM)with
 |none=>decide
 |some m=>grind
theorem M6.only:∀(l:List aS) (j:aS),(∀m∈l,M6 m)→M6 j→M6 (oD l j)
 | [],j,_,hj=>hj
 |m::r,j,h,hj=>by
  simp only[oD];split
  ·decide
  ·refine M6.only r _ acL ?_
   split
   ·grind
   ·split
    ·decide
    omega
theorem Gr(h:∀m∈l,M6 m):M6 (gV alg l):=by
 unfold gV;split
 ·exact Hg _
 ·split
  ·exact M6.turn (Hg _)
  ·split
   ·exact .first h
   ·split
    ·exact .only _ _ h acN
    ·split
     ·split<;>decide
     ·split
      ·split<;>decide
      decide
theorem As(r:fy)(t c:Nat):M6 (nh r t c).1:=by
 unfold nh;cases r.deny
 all_goals
  simp only[if_true,Bool.false_eq_true,if_false];split
  ·decide
  ·split
   ·decide
   ·first|(show M6 bn;decide)|(show M6 cH;decide)
theorem NR(alg:Int)(obls:List dN)(t:Nat){parts:List jK}(h:∀x∈parts,M6 x.1):M6 (pS alg obls t parts).1:=by
 have hc:M6 (gV alg (parts.map (·.1))):=Gr fun m hm=>by grind
 unfold pS;simp only;split
 ·decide
 ·split
  ·exact hc.indet
  ·split
   ·exact hc
   ·exact hc
mutual
theorem BJ(gs:List br):∀p:bV,M6 (fG gs p).1
 |.mk id set alg tgt rules kids obls=>by
  have ih:=CU gs kids;simp only[fG];split
  ·decide
  ·refine NR alg obls _ fun x hx=>?_
   rcases List.mem_append.1 hx with hx|hx
   ·obtain⟨r,_,rfl⟩:=List.mem_map.1 hx
    exact As _ _ _
   ·exact ih x hx
theorem CU(gs:List br):∀l:List bV,∀x∈mG gs l,M6 x.1
 | [],x,hx=>by simp[mG]at hx
 |k::r,x,hx=>by
  have h1:=BJ gs k;have h2:=CU gs r;simp only[mG,List.mem_cons]at hx;rcases hx with rfl|hx
  ·exact h1
  ·exact h2 x hx
end
theorem Ke(h:OV gs):rG gs:=⟨by have:=h.len;omega,fun g hg=>by have:=(h.each g hg).2.2.2.1;omega⟩
theorem Gy{α:Type}(B:Nat):∀(L:List (List α)),(∀x∈L,x.length≤B)→L.flatten.length≤L.length*B
 | [],_=>acS
 |x::L,h=>by
  have h1:=h x acS;have h2:=Gy B L fun y hy=>h y acL
  rw[List.flatten_cons,acE,List.length_cons,Nat.add_mul];omega
theorem tM{m:aS}{parts:List jK}{B:Nat}(hp:∀x∈parts,x.2.length≤B)(hn:parts.length≤32):(eP alg m parts).length≤32*B+B:=by
 unfold eP;split
 ·cases hf:parts.find? fun x=>x.1==m with
  |none=>simp
  |some x=>grind
 ·have h1:=Gy B (((parts.filter fun x=>x.1==m).map (·.2))) fun x hx=>by grind
  have h2:((parts.filter fun x=>x.1==m).map (·.2)).length≤32:=by grind
  have:=Nat.mul_le_mul_right B h2;omega
theorem kP(l:List dN)(m:aS):(eN l m).length≤l.length:=List.length_filter_le _ _
theorem Ar(r:fy)(t c:Nat):(nh r t c).2.length≤r.obls.length:=by
 unfold nh
 all_goals
  grind [kP]
def oB:Nat→Nat
 |0=>8
 |n+1=>8+33*oB n
theorem UM(n:Nat):8≤oB n:=by
 cases n with
 |zero=>decide
 |succ n=>grind [oB]
theorem BI(gs:List br):∀(n d:Nat) (p:bV),d+n=5→mN d p→(fG gs p).2.length≤oB n
 |0,d,.mk id set alg tgt rules kids obls,hd,h=>by grind [mN]
 |n+1,d,.mk id set alg tgt rules kids obls,hd,h=>by
  simp only[mN,qG]at h;obtain⟨_,_,_,_,_,_,g2,g3,g4,g5,g6,g7⟩:=h;have hob:=(kH g3).1;have h8:=UM n;simp only[fG];split
  ·simp
  ·unfold pS
   simp only;split
   ·simp
   ·split
    ·simp
    ·split
     ·simp
     ·have h1:=tM (alg:=alg) (m:=gV alg ((rules.map (ie gs)++mG gs kids).map (·.1))) (parts:=rules.map (ie gs)++mG gs kids) (B:=oB n) (fun x hx=>by
       rcases List.mem_append.1 hx with hx|hx
       ·obtain⟨r,hr,rfl⟩:=List.mem_map.1 hx
        have:=Ar r (mM gs r.tgt) (qt gs r.cond);have:=(kH (g6 r hr).2.2.2).1
        show(nh r (mM gs r.tgt) (qt gs r.cond)).2.length≤_
        omega
       ·rw[sZ]at hx
        obtain⟨k,hk,rfl⟩:=List.mem_map.1 hx;exact BI gs n (d+1) k acK (g7 k hk)) (by grind [acE,acA,sZ])
      have h2:=kP obls (gV alg ((rules.map (ie gs)++mG gs kids).map (·.1)))
      simp only[acE,oB];omega
theorem KK(gs:List br){p:bV}(h:mN 1 p):(fG gs p).2.length≤10000000:=Nat.le_trans (BI gs 4 1 p rfl h) acN
theorem JP{w:List Bool}(hw:iF op=some w):w.length=opsOf op∧1≤op∧op≤13:=by
 have h1:1≤op∧op≤13:=by grind [iF]
 refine⟨?_,h1⟩;rcases(show op=1∨op=2∨op=3∨op=4∨op=5∨op=6∨op=7∨op=8∨op=9∨op=10∨op=11∨op=12∨op=13 by omega)with rfl|rfl|rfl|rfl|rfl|rfl|rfl|rfl|rfl|rfl|rfl|rfl|rfl
 all_goals (simp[iF]at hw;subst hw;rfl)
theorem JC{n:aZ}(h:iE bs n=some bs'):(1≤n.op∧n.op≤13)∧opsOf n.op≤bs.length∧bs'.length=bs.length - opsOf n.op+1:=by
 unfold iE at h;cases hw:iF n.op with
 |none=>grind
 |some w=>grind [JP,acE,List.length_take,List.length_singleton]
theorem OC{l:List aZ}{i:Nat}(hl:fV [] l=some z)(hi:i<l.length)(hb:fV [] (l.take i)=some bs):∃bs',iE bs l[i]=some bs'∧fV [] (l.take (i+1))=some bs' :=by
 have h1:=j0 [] l i;rw[hl,hb,List.drop_eq_getElem_cons hi]at h1;simp only[fV]at h1;cases hs:iE bs l[i]with
 |none=>rw[hs]at h1;cases h1
 |some bs' =>
  rw[j0 [] _ i,List.take_take,Nat.min_eq_left acK,hb,List.take_succ_eq_append_getElem hi,List.drop_append_of_le_length acL,List.drop_of_length_le acL]
  grind [fV]
theorem Ly(hf:rG gs)(n:aZ)(l:List jw):(lB gs n l).bag.length≤1000000:=by
 unfold lB zZ iV
 repeat' split
 all_goals first|exact hf.bag _|simp
def UA(x:jw):AV:=.tup [aP x.v,.i x.e]
end Go.Bf
namespace Go.Proofs.YteaaeelhjnhaaaaGreatDoor
open Go Go.Ab Go.Bf Tryz
theorem KL(l:List aZ)(hn:l≠ [])(he:j7 l=0)(gs:List br)(hf:rG gs)(h:Heap):ai prog 217 [fA l,bJ gs] h fun r h' =>r=UA (vJ gs l)∧h' =h:=by
 obtain⟨h32,hst⟩:=xM he hn;have hex:=fun G=>Gv l G
 rw[he]at hex;simp only[fA]at hex;have dl:((l.length:Int)==0)=false:=agP;refine acJ func217 51 [.cell 4 23,.tmp 5] fun hwf=>?_
 simp only[go_sem,fA,bJ];intro i4 h4;simp only[go_sem,acA,dl];refine(hex _).pthen ?_;simp only[go_sem,acA];obtain⟨H0,eH⟩:∃H0,upd h i4 (some (.obj [.i 0,.i 0,.s []] 23))=H0:=⟨_,rfl⟩;have hH0:Ab.Sub h H0:=by rw[←eH];exact .aj h4
 have g4:H0 i4=some (.obj [.i 0,.i 0,.s []] 23):=aed;rw[eH];clear eH;refine .intro (fun m ρ H=>∃(i:Nat) (y:AV) (st:List jw) (bs:List Bool),OwE 306 H0 H 5 y (st.map bP)∧Ab.Sub H0 H∧(l.take i).foldl (zj gs) []=st∧fV [] (l.take i)=some bs∧bs.length=st.length∧(∀x∈st,x.bag.length≤1000000)∧i≤l.length∧m=l.length - i∧lk ρ 1=some (.sl (gs.map lf) .no)∧lk ρ 4=some (.ptr i4 0)∧lk ρ 6=some y∧lk ρ 19=some (.sl (l.map dH) .no)∧lk ρ 20=some (.i l.length)∧lk ρ 21=some (.i i)) l.length ?_ ?_
 ·refine⟨0,_,[],[],.inl ⟨rfl,rfl⟩,.refl _,rfl,rfl,rfl,fun x hx=>acL,acK,rfl,?_,?_,?_,?_,?_,?_⟩<;>simp only[go_sem]
 ·rintro m ρ H ⟨i,y,st,bs,hw,hsH,hfo,hbs,hlen,hbag,hi,rfl,r1,r4,r6,r19,r20,r21⟩
  have hsl:bs.length≤i:=by have:=rT _ _ _ hbs;simpa[Nat.min_eq_left hi]using this
  simp only[go_sem,r20,r21];refine .intro (fun e=>?_) (fun e=>?_)
  ·have hlt:i<l.length:=acH e
   have w1:IntKind.i64.wrap ((i:Int)+1)=((i+1:Nat):Int):=acX;obtain⟨bs',hb1,hb2⟩:=OC hst hlt hbs;have hfs:(l.take (i+1)).foldl (zj gs) []=zj gs st l[i]:=by grind [List.take_succ_eq_append_getElem]
   have ix:=fun k=>fP.eq (xs:=l.map dH) (sz:=7) i acL acZ k
   rw[acB]at ix;obtain⟨n,en⟩:∃n,l[i]=n:=⟨_,rfl⟩;rw[en]at hb1 hfs ix;obtain⟨hop,hle,hln⟩:=JC hb1;rw[hlen]at hle;obtain⟨k,ek⟩:∃k,st.length - opsOf n.op=k:=⟨_,rfl⟩;have wk:IntKind.i64.wrap ((st.length:Int) - (opsOf n.op:Int))=(k:Int):=acX;have hstep:zj gs st n=st.take k++ [lB gs n (st.drop k)]:=by grind [zj]
   simp only[dH]at ix;simp only[go_sem,r19,r21,ix];intro i8 h8;obtain⟨H8,eH⟩:∃H8,upd H i8 (some (.obj [.i n.op,.i n.val.kind,.i n.val.n,.s n.val.s,.i n.attr.cat,.s n.attr.name,.b n.attr.must] 261))=H8:=⟨_,rfl⟩;have hs8:Ab.Sub H H8:=by rw[←eH];exact .aj h8
   have k8:H8 i8=some (.obj [.i n.op,.i n.val.kind,.i n.val.n,.s n.val.s,.i n.attr.cat,.s n.attr.name,.b n.attr.must] 261):=aed;have hw8:=hw.sub hs8;simp only[go_sem,r6,hw8.rd.len,acA];refine(E1 n.op _).pthen ?_;rw[eH];clear eH;simp only[go_sem,wk];refine .calls (hm1 i8 (.obj [.i n.op,.i n.val.kind,.i n.val.n,.s n.val.s,.i n.attr.cat,.s n.attr.name,.b n.attr.must] 261)) [0,1,2,3,4,5,6,7,8,9,10,11] (.hm1 k8) acO rfl ?_;simp only[go_sem,r6];refine hw8.cut (U:=U) (x:=.i64) k acY rfl acL acY acN fun z hz hzy=>?_
   simp only[go_sem,r6,gj];refine hw8.from (U:=U) (x:=.i64) k acY rfl acL acY acN fun z2 hz2=>?_
   rw[←List.map_drop]at hz2;rw[←List.map_take]at hz;have hnd:=N7 n hop (st.drop k) hz2 acL (fun x hx=>hbag x (List.mem_of_mem_drop hx)) gs hf
   have hnb:=Ly hf n (st.drop k);obtain⟨x,ex⟩:∃x,lB gs n (st.drop k)=x:=⟨_,rfl⟩;rw[ex]at hnd hnb hstep;simp only[dH,bJ,bP]at hnd;simp only[go_sem,r1];refine hnd.pthen ?_;refine⟨.hm1 k8,?_⟩;simp only[go_sem];have hone:Rd H8 5 (.sl [bP x] .full) [bP x]:=.sl (fun z hz=>afD) .full
   simp only[bP]at hone;refine OwE.app (U:=U) (tb:=306) hz (hsH.trans hs8) hone acY acN acN acY acS ac2 fun id y' H' hid hor how hoth=>?_
   have n8:i8≠id:=by
    intro e8;rcases hor with ho|⟨lz,cz,ez⟩
    ·grind
    ·exact lX (hz.nid (id:=id) (by rw[ez];rfl)).2.2 k8 acN e8.symm
   have hsub' :Ab.Sub H0 H' :=fun j b hj=>by rw[hoth j (fun e=>acL)];exact(hsH.trans hs8) _ _ hj
   refine⟨.hm1 acL,?_⟩;simp only[go_sem,r21,w1];refine⟨_,?_,i+1,y',zj gs st n,bs',.inr ⟨id,hid,by rw[hstep,List.map_append];exact how⟩,hsub',hfs,hb2,acL,fun w hw=>?_,acK,rfl,?_,?_,?_,?_,?_,?_⟩
   ·omega
   ·grind
   all_goals simp only[go_sem,r1,r4,r19,r20]
  ·have hge:i=l.length:=by grind
   subst hge;rw[List.take_length]at hbs hfo;rw[hst]at hbs;cases hbs;obtain⟨x,rfl⟩:=List.length_eq_one_iff.1 hlen.symm;have hit:vJ gs l=x:=by simp_all [vJ,if_neg]
   obtain⟨id,hid,how⟩:=hw.ow acS;have hwp:Rd (pick H [id]) 5 y [bP x]:=(how.same (bD (List.mem_singleton.2 rfl))).rd;have n4:i4≠id:=fun e=>acL
   have k4:=hsH _ _ g4;simp only[go_sem];refine .calls (pick H [id]) [0,1,2,3,4,5,6,7,8,9] bB acO rfl ?_;simp only[go_sem,r6];refine hwp.idx (U:=U) (e:=306) 0 rfl acS acY acN fun p hp1=>?_
   simp only[go_sem];refine hp1.field (f:=1) (off:=1) (t:=23) rfl acN fun p2 hp2=>?_
   have hld:=hp2.part (U:=U) (ty:=23) acN afb;simp only[List.getElem_cons_zero,bP,AV.cells]at hld;simp only[go_sem,r6,hld];refine hwp.idx (U:=U) (e:=306) 0 rfl acS acY acN fun p3 hp3=>?_
   simp only[go_sem];refine hp3.field (f:=2) (off:=4) (t:=46) rfl acN fun p4 hp4=>?_
   have hld4:=hp4.part (U:=U) (ty:=46) acN afb;simp only[List.getElem_cons_zero,bP,AV.cells]at hld4;simp only[go_sem,r4,hld4,k4];refine⟨bB.put (by grind [pick]) _,?_⟩
   exact .mk _ (.refl _) ((hH0.trans hsH).put h4 _) ⟨by rw[hit];rfl,rfl⟩
theorem Nr(l:List aZ)(he:j7 l=0)(gs:List br)(hf:rG gs)(h:Heap):ai prog 199 [fA l,bJ gs] h fun r h' =>r= .i (qt gs l:Nat)∧h' =h:=by
 by_cases hn:l= []
 ·subst hn
  refine acJ func199 26 [.tmp 4] fun hwf=>?_
  simp only[go_sem,fA,bJ,List.map_nil,List.length_nil];exact acW
 have hv:=fun G=>KL l hn he gs hf G
 have hcd:qt gs l=if isI (vJ gs l) 1 then 2 else if isI (vJ gs l) 0 then 0 else 1:=by simp_all [qt,if_neg]
 obtain⟨x,ex⟩:∃x,vJ gs l=x:=⟨_,rfl⟩;rw[ex]at hv hcd;simp only[fA,bJ,UA,aP]at hv;have hi1:∀(m:Int) G,ai prog 218 [.agg [.sl [] .full,.i x.v.kind,.i x.v.n,.s x.v.s,.i x.e],.i m] G fun r h' =>r= .b (isI x m)∧h' =G:=fun m G=>NP x m G
 have dl:((l.length:Int)==0)=false:=agP;refine acJ func199 26 [.tmp 4] fun hwf=>?_
 simp only[go_sem,fA,bJ,acA,dl];refine(hv _).pthen ?_;simp only[go_sem];intro i5 h5;simp only[go_sem];intro i7 h7;have n7:=aB h7;have hs:∀x y,Ab.Sub h (upd (upd h i5 x) i7 y):=fun x y=>((Sub.refl h).put h5 x).put n7 y
 simp only[go_sem];refine(hi1 1 _).pthen ?_;cases d1:isI x 1
 case true=>rw[d1]at hcd;simp only[go_sem];exact .mk _ (.refl _) (hs _ _) ⟨by rw[hcd];rfl,rfl⟩
 simp only[go_sem];refine(hi1 0 _).pthen ?_;cases d0:isI x 0
 all_goals
  rw[d1,d0]at hcd;simp only[go_sem];exact .mk _ (.refl _) (hs _ _) ⟨by rw[hcd];rfl,rfl⟩
end Go.Proofs.YteaaeelhjnhaaaaGreatDoor
namespace Go.Bf
open Go Go.Ab Go.Proofs.YteaaeelhjnhaaaaGreatDoor
variable {l:List aS}{q:aS→Bool}
def jU(l:List aS)(p:Perm):AV:=.sl (l.map aR) p
theorem M9.na:M9 naM:=acN
theorem BU(l:List aS)(i:Nat)(h:i<l.length):(l.take (i+1)).foldl ot naM=ot ((l.take i).foldl ot naM) l[i]:=by grind [List.take_succ_eq_append_getElem]
theorem Iw(hq:∀m,q m=decide (m≠naM))(h:l.findIdx q<l.length):firstM l=l[l.findIdx q]:=by
 unfold firstM;have e:q=fun m=>decide (m≠naM):=funext hq
 subst e;rw[show l.find? (fun m=>decide (m≠naM))=some l[l.findIdx fun m=>decide (m≠naM)]from List.find?_eq_some_iff_getElem.2 ⟨List.findIdx_getElem (w:=h),_,h,rfl,fun j hj=>acL⟩]
 rfl
theorem Ix(hq:∀m,q m=decide (m≠naM))(h:¬l.findIdx q<l.length):firstM l=naM:=by
 unfold firstM;rw[List.find?_eq_none.2 fun x hx=>acL]
 rfl
def vU(j m:aS):aS:=if j=naM then m else if m≠naM then oY else j
theorem LD{i:Nat}(h:i<l.length)(j:aS):oD (l.drop i) j=if zk l[i]=false then oY else oD (l.drop (i+1)) (vU j l[i]):=by rw[List.drop_eq_getElem_cons h];rfl
end Go.Bf
namespace Go.Proofs.YteaaeelhjnhaaaaGreatDoor
open Go Go.Ab Go.Bf Tryz
theorem Vd:(U 65).sz=1:=acY
theorem I1(ms:List aS)(hl:ms.length≤1000000000)(q:aS→Bool)(g:FuncId)(cap:List AV)(p:Perm)(h:Heap)(hp:∀m∈ms,ai prog g (aR m::cap) h fun r h' =>r= .b (q m)∧h' =h):
  ai prog 247 [jU ms p,.fn g cap] h fun r h' =>r= .i (ixD q ms)∧h' =h:=by
 refine acJ func247 19 [.tmp 4] fun hwf=>?_
 simp only[go_sem,jU,acA];refine .intro (fun m ρ h' =>h' =h∧∃i:Nat,i≤ms.length∧m=ms.length - i∧(∀j (hj:j<i) (h2:j<ms.length),q ms[j]=false)∧lk ρ 0=some (.sl (ms.map aR) p)∧lk ρ 1=some (.fn g cap)∧lk ρ 7=some (.i ms.length)∧lk ρ 8=some (.i i)) ms.length ?_ ?_
 ·refine⟨rfl,0,acK,rfl,fun j hj=>acK,?_,?_,?_,?_⟩<;>simp only[go_sem]
 ·rintro m ρ h' ⟨rfl,i,hi,rfl,hc,r0,r1,r7,r8⟩
  simp only[go_sem,r7,r8];refine .intro (fun e=>?_) (fun e=>?_)
  ·have hlt:i<ms.length:=acH e
   have w1:IntKind.i64.wrap ((i:Int)+1)=((i+1:Nat):Int):=acX;have ix:=fun k=>fP.eq (xs:=ms.map aR) (sz:=1) i acL acZ k
   rw[acB]at ix;have hg:=hp ms[i] (acF hlt);have hci:=fun(d:q ms[i]=false)=>(fun j (hj:j<i+1) (h2:j<ms.length)=>(by grind:q ms[j]=false))
   have hat:=fun(d:q ms[i]=true)=>nT hlt d fun j hj=>hc j hj acK
   obtain⟨m,em⟩:∃m,ms[i]=m:=⟨_,rfl⟩;rw[em]at ix hg hci hat;simp only[aR]at ix;simp only[go_sem,r0,r1,r8,ix];refine(show ai prog g (.v (.complex .f64 (hbit m.1) (hbit m.2))::cap) _ _ from hg).pthen ?_
   cases d1:q m
   ·simp only[go_sem,r8,w1]
    refine⟨_,?_,rfl,i+1,acK,rfl,hci d1,?_,?_,?_,?_⟩
    ·omega
    all_goals simp only[go_sem,r0,r1,r7]
   ·simp only[go_sem]
    exact .same (.refl _) ⟨agK,rfl⟩
  ·have hge:i=ms.length:=by grind
   simp only[go_sem];exact .same (.refl _) ⟨adg,rfl⟩
theorem Fs(ms:List aS)(hl:ms.length≤1000000000)(hmm:∀m∈ms,M9 m)(x:aS)(hx:M9 x)(p:Perm)(h:Heap):
  ai prog 264 [jU ms p,aR x] h fun r h' =>r= .i (ixD (fun y=>x==y) ms)∧h' =h:=by
 refine acJ func264 19 [.tmp 4] fun hwf=>?_
 simp only[go_sem,jU,acA];refine .intro (fun m ρ h' =>h' =h∧∃i:Nat,i≤ms.length∧m=ms.length - i∧(∀j (hj:j<i) (h2:j<ms.length),(x==ms[j])=false)∧lk ρ 0=some (.sl (ms.map aR) p)∧lk ρ 1=some (aR x)∧lk ρ 7=some (.i ms.length)∧lk ρ 8=some (.i i)) ms.length ?_ ?_
 ·refine⟨rfl,0,acK,rfl,fun j hj=>acK,?_,?_,?_,?_⟩<;>simp only[go_sem]
 ·rintro m ρ h' ⟨rfl,i,hi,rfl,hc,r0,r1,r7,r8⟩
  simp only[go_sem,r7,r8];refine .intro (fun e=>?_) (fun e=>?_)
  ·have hlt:i<ms.length:=acH e
   have w1:IntKind.i64.wrap ((i:Int)+1)=((i+1:Nat):Int):=acX;have ix:=fun k=>fP.eq (xs:=ms.map aR) (sz:=1) i acL acZ k
   rw[acB]at ix;have hm9:=hmm ms[i] (acF hlt);have hci:=fun(d:(x==ms[i])=false)=>(fun j (hj:j<i+1) (h2:j<ms.length)=>(by grind:(x==ms[j])=false))
   have hat:=fun(d:(x==ms[i])=true)=>nT (q:=fun y=>x==y) hlt d fun j hj=>hc j hj acK
   obtain⟨m,em⟩:∃m,ms[i]=m:=⟨_,rfl⟩;rw[em]at ix hm9 hci hat;simp only[aR]at ix r1;have ne:=yD hx hm9;cases d1:(x==m)
   ·simp only[go_sem,r0,r1,r8,ix,ne,d1,w1]
    refine⟨_,?_,rfl,i+1,acK,rfl,hci d1,?_,?_,?_,?_⟩
    ·omega
    all_goals simp only[go_sem,r0,r1,r7,aR]
   ·simp only[go_sem,r0,r1,r8,ix,ne,d1]
    exact .same (.refl _) ⟨agK,rfl⟩
  ·have hge:i=ms.length:=by grind
   simp only[go_sem];exact .same (.refl _) ⟨adg,rfl⟩
theorem Fi(ms:List aS)(hl:ms.length≤1000000000)(hmm:∀m∈ms,M9 m)(x:aS)(hx:M9 x)(p:Perm)(h:Heap):
  ai prog 251 [jU ms p,aR x] h fun r h' =>r= .b (decide (x∈ms))∧h' =h:=by
 refine acJ func251 9 [.tmp 4] fun hwf=>?_
 simp only[go_sem];refine(Fs ms hl hmm x hx p _).pthen ?_;simp only[go_sem];exact .same (.refl _) ⟨by rw[um,show(ms.any fun y=>x==y)=decide (x∈ms) by grind];rfl,rfl⟩
theorem EE(m:aS)(hmm:M9 m)(h:Heap):ai prog 248 [aR m] h fun r h' =>r= .b (!(m==naM))∧h' =h:=by
 have n:=(nb hmm).nna;refine acJ func248 5 [.tmp 2] fun hwf=>?_
 simp only[go_sem,aR,n];exact acW
theorem OE(m:aS)(hmm:M9 m)(h:Heap):ai prog 249 [aR m] h fun r h' =>r= .b (zk m)∧h' =h:=by
 obtain⟨n1,n2,n3,_⟩:=nb hmm;refine acJ func249 13 [.tmp 2] fun hwf=>?_
 have es:zk m=(m==naM||(m==bn||m==cH)):=by
  unfold zk
  grind
 rw[es];cases d1:(m==naM)<;>cases d2:(m==bn)<;>cases d3:(m==cH)
 all_goals
  simp only[go_sem,aR,n1,n2,n3,d1,d2,d3];exact acW
theorem KP(ms:List aS)(hl:ms.length≤1000000000)(hmm:∀m∈ms,M9 m)(p:Perm)(h:Heap):ai prog 223 [jU ms p] h fun r h' =>r=aR (firstM ms)∧h' =h:=by
 refine acJ func223 12 [.tmp 2] fun hwf=>?_
 simp only[go_sem,jU];refine(I1 ms hl (fun m=> !(m==naM)) _ [] p _ fun m h=>EE m (hmm m h) _).pthen ?_
 have hq:∀m:aS,(!(m==naM))=decide (m≠naM):=fun m=>acL
 by_cases hx:ms.findIdx (fun m=> !(m==naM))<ms.length
 ·obtain⟨i,ei⟩:∃i,ms.findIdx (fun m=> !(m==naM))=i:=⟨_,rfl⟩
  have ef:=Iw hq hx;have e1:ixD (fun m=> !(m==naM)) ms=(i:Nat):=by rw[ixD,ei];omega
  simp only[ei]at ef;have d1:decide ((0:Int)≤((i:Nat):Int))=true:=decide_eq_true acK;have ix:=fun k=>fP.eq (xs:=ms.map aR) (sz:=1) i acL acZ k
  rw[acB,←ef]at ix;rw[e1];simp only[go_sem,d1,ix];exact acW
 ·have e1:ixD (fun m=> !(m==naM)) ms= -1:=by simp_all [ixD,if_neg]
  have d1:decide ((0:Int)≤ -1)=false:=rfl;rw[e1];simp only[go_sem,d1];exact .same (.refl _) ⟨by rw[Ix hq hx];rfl,rfl⟩
theorem Mn(j m:aS)(hj:M9 j)(hmm:M9 m)(h:Heap):ai prog 250 [.i 4,aR j,aR m] h fun r h' =>r=aR (vU j m)∧h' =h:=by
 have n1:=(nb hj).na;have n2:=(nb hmm).nna;refine acJ func250 31 [.tmp 6] fun hwf=>?_
 cases d1:(j==naM)
 case true=>simp only[go_sem,aR,n1,d1];exact .same (.refl _) ⟨by rw[vU,if_pos acL];rfl,rfl⟩
 cases d2:(m==naM)
 ·simp only[go_sem,aR,n1,n2,d1,d2]
  exact .same (.refl _) ⟨by rw[vU,if_neg acL,if_pos acL];rfl,rfl⟩
 ·simp only[go_sem,aR,n1,n2,d1,d2]
  exact .same (.refl _) ⟨by rw[vU,if_neg acL,if_neg acL];rfl,rfl⟩
theorem M9.step{j m:aS}(hj:M9 j)(hmm:M9 m):M9 (vU j m):=by
 unfold vU
 repeat' split
 ·omega
 ·decide
 omega
theorem Of(ms:List aS)(hl:ms.length≤1000000000)(hmm:∀m∈ms,M9 m)(p:Perm)(h:Heap):ai prog 224 [jU ms p] h fun r h' =>r=aR (oD ms naM)∧h' =h:=by
 refine acJ func224 20 [.tmp 2] fun hwf=>?_
 simp only[go_sem,jU,acA];refine .intro (fun m ρ h' =>h' =h∧∃(i:Nat) (j:aS),i≤ms.length∧m=ms.length - i∧M9 j∧oD (ms.drop i) j=oD ms naM∧lk ρ 3=some (aR j)∧lk ρ 6=some (.sl (ms.map aR) p)∧lk ρ 7=some (.i ms.length)∧lk ρ 8=some (.i i)) ms.length ?_ ?_
 ·refine⟨rfl,0,naM,acK,rfl,.na,rfl,?_,?_,?_,?_⟩<;>simp only[go_sem,aR,naM,hbit]
 ·rintro m ρ h' ⟨rfl,i,j,hi,rfl,hj,ho,r3,r6,r7,r8⟩
  simp only[go_sem,r7,r8];refine .intro (fun e=>?_) (fun e=>?_)
  ·have hlt:i<ms.length:=acH e
   have w1:IntKind.i64.wrap ((i:Int)+1)=((i+1:Nat):Int):=acX;have ix:=fun k=>fP.eq (xs:=ms.map aR) (sz:=1) i acL acZ k
   rw[acB]at ix;have hm9:=hmm ms[i] (acF hlt);rw[LD hlt]at ho;obtain⟨m,em⟩:∃m,ms[i]=m:=⟨_,rfl⟩;rw[em]at ix hm9 ho;have hsu:=fun G=>OE m hm9 G
   have hst:=fun G=>Mn j m hj hm9 G
   simp only[aR]at ix hsu hst r3;simp only[go_sem,r6,r8,ix];refine(hsu _).pthen ?_;cases d1:zk m
   ·rw[if_pos d1]at ho
    simp only[go_sem];exact .same (.refl _) ⟨by rw[←ho];rfl,rfl⟩
   ·rw[if_neg acL]at ho
    simp only[go_sem,r3];refine(hst _).pthen ?_;simp only[go_sem,r8,w1];refine⟨_,?_,rfl,i+1,vU j m,acK,rfl,M9.step hj hm9,ho,?_,?_,?_,?_⟩
    ·omega
    all_goals simp only[go_sem,r6,r7,aR]
  ·have hge:i=ms.length:=by grind
   subst hge;rw[List.drop_length]at ho;simp only[go_sem,r3];exact .same (.refl _) ⟨by rw[←ho];rfl,rfl⟩
theorem Bg(ms:List aS)(hl:ms.length≤1000000000)(hmm:∀m∈ms,M9 m)(a b:aS)(hb:M9 b)(p:Perm)(h:Heap):ai prog 225 [jU ms p,aR a,aR b] h fun r h' =>r=aR (if b∈ms then b else a)∧h' =h:=by
 refine acJ func225 12 [.tmp 6] fun hwf=>?_
 simp only[go_sem];refine(Fi ms hl hmm b hb p _).pthen ?_
 by_cases d:b∈ms
 ·simp only[go_sem,decide_eq_true d,if_pos d]
  exact acW
 ·simp only[go_sem,decide_eq_false d,if_neg d]
  exact acW
theorem Qi(alg:Int)(ha:1≤alg∧alg≤6)(ms:List aS)(hl:ms.length≤1000000000)(hmm:∀m∈ms,M6 m)(p:Perm)(h:Heap):ai prog 200 [.i alg,jU ms p] h fun r h' =>r= .tup [aR (gV alg ms),.i 0]∧h' =h:=by
 have hm9:=fun m h=>(hmm m h).m9
 refine acJ func200 49 [.tmp 4,.tmp 5] fun hwf=>?_
 simp only[go_sem,jU,acA];refine .intro (fun m ρ h' =>h' =h∧∃i:Nat,i≤ms.length∧m=ms.length - i∧M9 ((ms.take i).foldl ot naM)∧lk ρ 0=some (.i alg)∧lk ρ 1=some (.sl (ms.map aR) p)∧lk ρ 6=some (aR ((ms.take i).foldl ot naM))∧lk ρ 9=some (.sl (ms.map aR) p)∧lk ρ 10=some (.i ms.length)∧lk ρ 11=some (.i i)) ms.length ?_ ?_
 ·refine⟨rfl,0,acK,rfl,.na,?_,?_,?_,?_,?_,?_⟩<;>simp only[go_sem,aR,naM,hbit,List.take_zero,List.foldl_nil]
 ·rintro m ρ h' ⟨rfl,i,hi,rfl,hj,r0,r1,r6,r9,r10,r11⟩
  obtain⟨j,ej⟩:∃j,(ms.take i).foldl ot naM=j:=⟨_,rfl⟩;rw[ej]at hj r6;simp only[go_sem,r10,r11];refine .intro (fun e=>?_) (fun e=>?_)
  ·have hlt:i<ms.length:=acH e
   have w1:IntKind.i64.wrap ((i:Int)+1)=((i+1:Nat):Int):=acX;have ix:=fun k=>fP.eq (xs:=ms.map aR) (sz:=1) i acL acZ k
   rw[acB]at ix;have hm6:=hmm ms[i] (acF hlt);have hsn:=BU ms i hlt;rw[ej]at hsn;obtain⟨m,em⟩:∃m,ms[i]=m:=⟨_,rfl⟩;rw[em]at ix hm6 hsn;have hri:=fun G=>BY m hm6 G
   have hjo:=fun G=>NT j m hj hm6.m9 G
   simp only[aR]at ix hri hjo r6;simp only[go_sem,r9,r11,ix];refine(hri _).pthen ?_;simp only[go_sem,r6];refine(hjo _).pthen ?_;simp only[go_sem,r11,w1];refine⟨_,?_,rfl,i+1,acK,rfl,by grind [M9.join],?_,?_,?_,?_,?_,?_⟩
   ·omega
   all_goals simp only[go_sem,r0,r1,r9,r10,aR,hsn]
  ·have hge:i=ms.length:=by grind
   subst hge;rw[List.take_length]at ej;have ej' :wL ms=j:=ej;have hov:=fun G=>Hh j hj G
   have htu:=fun(x:aS) (G:Heap)=>OH x G
   have hov2:=fun G=>Hh (En j) ⟨hj.2,hj.1⟩ G
   have h1:=KP ms hl hm9 p;have h2:=Of ms hl hm9 p;have h3:=Bg ms hl hm9 cH bn acN p;have h4:=Bg ms hl hm9 bn cH acN p;simp only[jU]at h1 h2 h3 h4;rcases(show alg=1∨alg=2∨alg=3∨alg=4∨alg=5∨alg=6 by omega)with rfl|rfl|rfl|rfl|rfl|rfl
   ·simp only[go_sem,r0,r6]
    refine(hov _).pthen ?_;simp only[go_sem];exact .same (.refl _) ⟨by simp only[gV,ej',if_true];rfl,rfl⟩
   ·simp only[go_sem,r0,r6]
    refine(htu _ _).pthen ?_;simp only[go_sem];refine(hov2 _).pthen ?_;simp only[go_sem];refine(htu _ _).pthen ?_;simp only[go_sem];exact .same (.refl _) ⟨by simp only[gV,ej'];rfl,rfl⟩
   ·simp only[go_sem,r0,r1]
    refine(h1 _).pthen ?_;exact aho
   ·simp only[go_sem,r0,r1]
    refine(h2 _).pthen ?_;exact aho
   ·simp only[go_sem,r0,r1]
    refine(h3 _).pthen ?_;exact aiJ
   ·simp only[go_sem,r0,r1]
    refine(h4 _).pthen ?_;exact aiJ
end Go.Proofs.YteaaeelhjnhaaaaGreatDoor
namespace Go.Bf
open Go Go.Ab Go.Proofs.YteaaeelhjnhaaaaGreatDoor
def rsA(r:jK):AV:=.agg [aR r.1,aA r.2]
theorem Ik(l:List dN)(m:aS)(i:Nat)(h:i<l.length):eN (l.take (i+1)) m=eN (l.take i) m++(if(l[i].on==1 && m==bn||l[i].on==2 && m==cH)=true then [l[i]]else []):=by grind [eN,List.take_succ_eq_append_getElem]
theorem qQ(l:List dN)(m:aS){L:List AV}(hL:L=l.map bu)(q:Perm):Weak (.agg [aR m,.sl L q]) (rsA (m,l)):=by
 subst hL;refine .agg _ _ rfl fun i a b=>?_
 rcases i with _|_|i
 ·exact ad4
 ·exact afp
 grind
theorem yL(alg:Int)(m:aS)(l:List jK)(i:Nat)(h:i<l.length)(h3:alg≠3):eP alg m (l.take (i+1))=eP alg m (l.take i)++(if(l[i].1==m)=true then l[i].2 else []):=by
 unfold eP;rw[if_neg h3,if_neg h3,List.take_succ_eq_append_getElem h,List.filter_append,List.map_append,List.flatten_append]
 grind
theorem yK{m:aS}{l:List jK}(h:∀x∈l,(x.1==m)=false):eP 3 m l= []:=by
 unfold eP;rw[if_pos rfl,List.find?_eq_none.2 fun x hx=>acL]
 rfl
theorem vP{m:aS}{l:List jK}(i:Nat)(h:i<l.length)(h1:(l[i].1==m)=true)(h2:∀j (hj:j<i),((l[j]'acK).1==m)=false):eP 3 m l=l[i].2:=by
 unfold eP;rw[if_pos rfl,show(l.find? fun x=>x.1==m)=some l[i]from List.find?_eq_some_iff_getElem.2 ⟨h1,i,h,rfl,fun j hj=>acL⟩]
 rfl
end Go.Bf
namespace Go.Proofs.YteaaeelhjnhaaaaGreatDoor
open Go Go.Ab Go.Bf Tryz
theorem Ve:(U 184).sz=3:=acY
theorem Vf:(U 120).sz=2:=acY
theorem rq(l:List dN)(hl:l.length≤1000000)(m:aS)(hpd:m=bn∨m=cH)(h:Heap):ai prog 202 [aA l,aR m] h fun r h' =>r=aA (eN l m)∧h' =h:=by
 have h9:M9 m:=by rcases hpd with rfl|rfl<;>decide
 have pe:=(nb h9).pe;have de:=(nb h9).de;have uO:=Ve;obtain⟨b,b1,b2⟩:∃b,(m==bn)=b∧(m==cH)= !b:=by
  rcases hpd with rfl|rfl
  ·exact⟨true,acN,acN⟩
  ·exact⟨false,acN,acN⟩
 refine acJ func202 36 [.tmp 4] fun hwf=>?_
 simp only[go_sem,aA,aR,acA];refine .intro (fun q ρ H=>∃(i:Nat) (y:AV),Acc U 184 h H y ((eN (l.take i) m).map bu)∧i≤l.length∧q=l.length - i∧lk ρ 1=some (.v (.complex .f64 (hbit m.1) (hbit m.2)))∧lk ρ 5=some y∧lk ρ 8=some (.sl (l.map bu) .no)∧lk ρ 9=some (.i l.length)∧lk ρ 10=some (.i i)) l.length ?_ ?_
 ·refine⟨0,.sl [] .full,by simpa[eN]using Acc.full (.refl _),acK,rfl,?_,?_,?_,?_,?_⟩<;>simp only[go_sem]
 ·rintro q ρ H ⟨i,y,hy,hi,rfl,r1,r5,r8,r9,r10⟩
  obtain⟨qy,eqy⟩:=hy.row;subst eqy;simp only[go_sem,r9,r10];refine .intro (fun e=>?_) (fun e=>?_)
  ·have hlt:i<l.length:=acH e
   have w1:=acG i acK;have hsn:=Ik l m i hlt;have ix:=fun k=>fP.eq (xs:=l.map bu) (sz:=3) i ada acZ k
   rw[acB]at ix;obtain⟨o,eo⟩:∃o,l[i]=o:=⟨_,rfl⟩;rw[eo]at ix hsn;simp only[bu]at ix;simp only[go_sem,r8,r10,ix];intro i7 h7;cases b
   ·cases a3:(o.on==2)
    ·cases a1:(o.on==1)
     ·simp only[go_sem,r10,a1,a3,w1]
      exact ag7
     ·simp only[go_sem,r1,r10,a1,a3,b1,pe,w1]
      exact ag7
    ·cases a1:(o.on==1)
     ·simp only[go_sem,r1,r5,a1,a3,b2,de]
      exact ag0
     ·simp only[go_sem,r1,r5,a1,a3,b1,b2,pe,de]
      exact ag0
   ·cases a1:(o.on==1)
    ·cases a3:(o.on==2)
     ·simp only[go_sem,r10,a1,a3,w1]
      exact ag7
     ·simp only[go_sem,r1,r10,a1,a3,b2,de,w1]
      exact ag7
    ·cases a3:(o.on==2)
     ·simp only[go_sem,r1,r5,a1,b1,pe]
      exact ag0
     ·simp only[go_sem,r1,r5,a1,b1,pe]
      exact ag0
  ·have hge:i=l.length:=by have:=acD e;omega
   subst hge;rw[List.take_length]at hy;simp only[go_sem,r5];exact .mk (aA (eN l m)) (by rw[List.take_length];exact .sl _ _) hy.1 ⟨rfl,rfl⟩
theorem tri{t:Nat}(h:t≤2):t=0∨t=1∨t=2:=acK
theorem Il(r:fy)(hr:r.obls.length≤1000000)(t c:Nat)(ht:t≤2)(hc:c≤2)(h:Heap):ai prog 198 [aC r,.i t,.i c] h fun x h' =>x=rsA (nh r t c)∧h' =h:=by
 obtain⟨id,deny,tgt,cond,obls⟩:=r;simp only at hr;have hdp:=fun G=>rq obls hr bn (.inl rfl) G
 have hdd:=fun G=>rq obls hr cH (.inr rfl) G
 have hip:=fun G=>yd bn acN G
 have hid:=fun G=>yd cH acN G
 simp only[aR,bn,cH,hbit,aA]at hdp hdd hip hid;refine acJ func198 38 [.cell 6 120] fun hwf=>?_
 simp only[go_sem,aC];intro i3 h3;simp only[go_sem];intro i6 h6;have n63:=aH h6;have n6:=aB h6;have hs:∀x y,Ab.Sub h (upd (upd h i3 x) i6 y):=fun x y=>((Sub.refl h).put h3 x).put n6 y
 have hs2:∀x y z,Ab.Sub h (upd (upd (upd h i3 x) i6 y) i6 z):=fun x y z=>(hs x y).put n6 z
 cases deny
 ·rcases tri ht with rfl|rfl|rfl
  ·exact ahF
  ·exact ahV
  ·rcases tri hc with rfl|rfl|rfl
   ·exact ahF
   ·exact ahV
   ·simp only[go_sem,ak,n63.symm,aA]
    refine(hdp _).pthen ?_;simp only[go_sem];exact .mk (rsA (bn,eN obls bn)) (qQ _ bn rfl _) (hs _ _) ⟨rfl,rfl⟩
 ·rcases tri ht with rfl|rfl|rfl
  ·exact ahF
  ·exact ahW
  ·rcases tri hc with rfl|rfl|rfl
   ·exact ahF
   ·exact ahW
   ·simp only[go_sem,ak,n63.symm,aA]
    refine(hdd _).pthen ?_;simp only[go_sem];exact .mk (rsA (cH,eN obls cH)) (qQ _ cH rfl _) (hs _ _) ⟨rfl,rfl⟩
theorem Lt(gs:List br)(t:kr):mM gs t≤2:=(tf (zC gs) t 2).1
theorem Kv(gs:List br)(l:List aZ):qt gs l≤2:=by grind [qt]
theorem Io(r:fy)(hr:D7 r)(gs:List br)(hf:rG gs)(h:Heap):ai prog 170 [aC r,bJ gs] h fun x h' =>x=rsA (ie gs r)∧h' =h:=by
 have hob:=(kH hr.2.2.2).1;have hmt:=fun G=>Lu r.tgt (Ca hr.2.1) gs hf G
 have hcd:=fun G=>Nr r.cond hr.2.2.1 gs hf G
 have hef:=fun G=>Il r acK (mM gs r.tgt) (qt gs r.cond) (Lt _ _) (Kv _ _) G
 simp only[aC,bJ]at hmt hcd hef;refine acJ func170 15 [.cell 4 120] fun hwf=>?_
 simp only[go_sem,aC,bJ];intro i2 h2;simp only[go_sem];intro i4 h4;have n42:=aH h4;have n4:=aB h4;obtain⟨H,eH⟩:∃H,upd (upd h i2 (some (.obj [.s r.id,.b r.deny,aV r.tgt,fA r.cond,aA r.obls] 237))) i4 (some (.obj [.v (.complex .f64 0 0),.sl [] .full] 120))=H:=⟨_,rfl⟩;have hH:Ab.Sub h H:=by rw[←eH];exact((Sub.refl h).put h2 _).put n4 _
 have g2:H i2=some (.obj [.s r.id,.b r.deny,aV r.tgt,fA r.cond,aA r.obls] 237):=agp;have g4:H i4=some (.obj [.v (.complex .f64 0 0),.sl [] .full] 120):=aed;simp only[go_sem];rw[eH];clear eH;refine .calls (hm1 i2 (.obj [.s r.id,.b r.deny,aV r.tgt,fA r.cond,aA r.obls] 237)) [0,1,2,3,5,6,7,4,8,9,10] (.hm1 g2) acO rfl ?_;simp only[go_sem,gj];refine(hmt _).pthen ?_;refine⟨.hm1 g2,?_⟩;simp only[go_sem];refine(hcd _).pthen ?_;refine⟨.hm1 g2,?_⟩;simp only[go_sem];refine(hef _).pthen ?_;refine⟨.hm1 g2,?_⟩;simp only[go_sem,rsA,aA,aR,g4];refine⟨.hm1 (by rw[ag _ _ n42.symm];exact g2),?_⟩
 exact .mk _ (.refl _) (hH.put n4 _) ⟨rfl,rfl⟩
theorem A4(l:List jK):Sized 2 (l.map rsA):=bx (f:=rsA) (fun _=>rfl) l
theorem Fu{id:Txt}{set:Bool}{alg:Int}(ha:1≤alg∧alg≤6){tgt:kr}{rules:List fy}{kids:List bV}{obls:List dN}(ho:obls.length≤1000000)(t:Nat)(ht:t=1∨t=2)(parts:List jK)(hp:∀x∈parts,M6 x.1)(hn:parts.length≤32){B:Nat}(hB:B≤10000000)(hpb:∀x∈parts,x.2.length≤B)(q:Perm)(h:Heap):
  ai prog 171 [aN (.mk id set alg tgt rules kids obls),.i t,.sl (parts.map rsA) q] h fun r h' =>r=rsA (pS alg obls t parts)∧h' =h:=by
 have hm6:∀m∈parts.map (·.1),M6 m:=fun m hm=>by obtain⟨x,hx,rfl⟩:=List.mem_map.1 hm;exact hp x hx
 have hc6:M6 (gV alg (parts.map (·.1))):=Gr hm6
 have uR:=Vf;have uO:=Ve;have uM:=Vd;have hall:=fun(p:Perm) (G:Heap)=>Qi alg ha (parts.map (·.1)) (by rw[acA];omega) hm6 p G
 simp only[jU]at hall;refine acJ func171 84 [.cell 6 120] fun hwf=>?_
 simp only[go_sem,aN];intro i3 h3;simp only[go_sem];intro i6 h6;have n63:=aH h6;have n6' :=aB h6;obtain⟨H0,eH⟩:∃H0,upd (upd h i3 (some (.obj [.s id,.b set,.i alg,aV tgt,.sl (rules.map aC) .no,.sl (fH kids) .no,aA obls] 96))) i6 (some (.obj [.v (.complex .f64 0 0),.sl [] .full] 120))=H0:=⟨_,rfl⟩;have hH0:Ab.Sub h H0:=afI;have g3:H0 i3=some (.obj [.s id,.b set,.i alg,aV tgt,.sl (rules.map aC) .no,.sl (fH kids) .no,aA obls] 96):=by rw[←eH,ag _ _ n63.symm,ah]
 have g6:H0 i6=some (.obj [.v (.complex .f64 0 0),.sl [] .full] 120):=aed;simp only[go_sem,acA];rw[eH];clear eH;refine .intro (fun m ρ H=>∃(i:Nat) (y:AV),Acc U 65 H0 H y (((parts.map (·.1)).take i).map aR)∧i≤parts.length∧m=parts.length - i∧lk ρ 1=some (.i t)∧lk ρ 2=some (.sl (parts.map rsA) q)∧lk ρ 3=some (.ptr i3 0)∧lk ρ 6=some (.ptr i6 0)∧lk ρ 7=some y∧lk ρ 15=some (.sl (parts.map rsA) q)∧lk ρ 16=some (.i parts.length)∧lk ρ 17=some (.i i)) parts.length ?_ ?_
 ·refine⟨0,.sl [] .full,.full (.refl _),acK,rfl,?_,?_,?_,?_,?_,?_,?_,?_⟩<;>simp only[go_sem]
 ·rintro m ρ H ⟨i,y,hy,hi,rfl,r1,r2,r3,r6,r7,r15,r16,r17⟩
  obtain⟨qy,eqy⟩:=hy.row;subst eqy;simp only[go_sem,r16,r17];refine .intro (fun e=>?_) (fun e=>?_)
  ·have hlt:i<parts.length:=acH e
   have w1:=acG i acK;have hsn:((parts.map (·.1)).take (i+1)).map aR=((parts.map (·.1)).take i).map aR++ [aR parts[i].1]:=by rw[List.take_succ_eq_append_getElem ada,List.map_append,acB];rfl
   have ix:=fun k=>fP.eq (xs:=parts.map rsA) (sz:=2) i ada acZ k
   rw[acB]at ix;obtain⟨x,ex⟩:∃x,parts[i]=x:=⟨_,rfl⟩;rw[ex]at ix hsn;simp only[rsA,aR,aA]at ix;simp only[go_sem,r15,r17,ix];intro i9 h9;simp only[go_sem,r7];refine(hy.sub (.aj h9)).app (zs:=[aR x.1]) (by rw[uM];decide) acP (fun k hk=>hk) (by rw[uM];exact bx (f:=aR) (fun _=>rfl) _) (by rw[uM];intro z hz;rw[List.mem_singleton.1 hz];rfl) ac2 fun y' H' hy' kp=>?_
   simp only[go_sem,r17,w1];refine⟨_,?_,i+1,y',by rw[hsn];exact hy',acK,rfl,?_,?_,?_,?_,?_,?_,?_,?_⟩
   ·omega
   all_goals simp only[go_sem,r1,r2,r3,r6,r15,r16]
  ·have hge:i=parts.length:=by have:=acD e;omega
   subst hge;have htl:(parts.map (·.1)).take parts.length=parts.map (·.1):=List.take_of_length_le acS
   rw[htl]at hy;have k3:=hy.1 _ _ g3;have k6:=hy.1 _ _ g6;have hsH:=hH0.trans hy.1;have hjp:pS alg obls t parts=if t=0 then(naM,[])else if t=1 then(gN (gV alg (parts.map (·.1))),[])else if gV alg (parts.map (·.1))≠bn∧gV alg (parts.map (·.1))≠cH then(gV alg (parts.map (·.1)),[])
     else(gV alg (parts.map (·.1)),eP alg (gV alg (parts.map (·.1))) parts++eN obls (gV alg (parts.map (·.1)))):=rfl
   have hple:(eP alg (gV alg (parts.map (·.1))) parts).length≤32*B+B:=tM hpb hn
   have hal:=fun G=>hall qy G
   obtain⟨m,em⟩:∃m,gV alg (parts.map (·.1))=m:=⟨_,rfl⟩
   rw[em]at hc6 hjp hal hple;have hin:=fun G=>yd m hc6.m9 G
   have npe:=(nb hc6.m9).npe;have nde:=(nb hc6.m9).nde;simp only[aR]at hal hin;rw[htl]at r7;simp only[go_sem,r3,r7,k3];refine(hal _).pthen ?_;rcases ht with rfl|rfl
   ·simp only[go_sem,r1]
    refine(hin _).pthen ?_;simp only[go_sem,r6,k6];exact .mk (rsA (gN m,[])) (qQ [] (gN m) rfl _) (hsH.put n6' _) ⟨by rw[hjp];rfl,rfl⟩
   have k6H:=k6;cases dp:(m==bn)
   case true=>
    have e1:m=bn:=by simpa using dp
    have hne:¬(m≠bn∧m≠cH):=fun hh=>hh.1 e1
    have hdu:=fun G=>rq obls ho m (.inl e1) G
    simp only[aA,aR]at hdu;simp only[go_sem,r1,npe,dp];exact agR
   case false=>
    cases dd:(m==cH)
    case true=>
     have e1:m=cH:=by simpa using dd
     have hne:¬(m≠bn∧m≠cH):=fun hh=>hh.2 e1
     have hdu:=fun G=>rq obls ho m (.inr e1) G
     simp only[aA,aR]at hdu;simp only[go_sem,r1,npe,nde,dp,dd];exact agR
    case false=>
     have e1:m≠bn:=by simpa using dp
     have e2:m≠cH:=by simpa using dd
     simp only[go_sem,r1,r6,npe,nde,dp,dd,k6];exact .mk (rsA (m,[])) (qQ [] m rfl _) (hsH.put n6' _) ⟨by rw[hjp,if_neg acN,if_neg acN,if_pos ⟨e1,e2⟩],rfl⟩
theorem Ap:∀(n d:Nat),d+n=5→∀(p:bV),mN d p→∀(gs:List br),rG gs→∀(h:Heap),ai prog 140 [aN p,bJ gs] h fun r h' =>r=rsA (fG gs p)∧h' =h
 |0,d,hd,.mk id set alg tgt rules kids obls,hE,gs,hf,h=>by simp only[mN]at hE;omega
 |n+1,d,hd,.mk id set alg tgt rules kids obls,hE,gs,hf,h=>by
  have ih:=Ap n (d+1) acK;simp only[mN,qG]at hE;obtain⟨_,_,ha1,ha2,_,_,hT,hO,hR,hK,hRE,hKE⟩:=hE;have hob:=(kH hO).1;have hmt:=fun G=>Lu tgt (Ca hT) gs hf G
  have hev:fG gs (.mk id set alg tgt rules kids obls)=if mM gs tgt=0 then(naM,[])else pS alg obls (mM gs tgt) (rules.map (ie gs)++kids.map (fG gs)):=by simp only[fG,sZ]
  have hjo:=fun(ht:mM gs tgt=1∨mM gs tgt=2) (q:Perm) (G:Heap)=>Fu (id:=id) (set:=set) (alg:=alg) ⟨ha1,ha2⟩ (tgt:=tgt) (rules:=rules) (kids:=kids) (obls:=obls) acK (mM gs tgt) ht (rules.map (ie gs)++kids.map (fG gs)) (fun x hx=>by
   rcases List.mem_append.1 hx with hx|hx
   ·obtain⟨r,_,rfl⟩:=List.mem_map.1 hx;exact As _ _ _
   ·obtain⟨r,_,rfl⟩:=List.mem_map.1 hx;exact BJ gs r) ade (B:=10000000) (Nat.le_refl _) (fun x hx=>by
   rcases List.mem_append.1 hx with hx|hx
   ·obtain⟨r,hr,rfl⟩:=List.mem_map.1 hx
    have h1:=Ar r (mM gs r.tgt) (qt gs r.cond);have h2:=(kH (hRE r hr).2.2.2).1
    show(nh r (mM gs r.tgt) (qt gs r.cond)).2.length≤_
    omega
   ·obtain⟨r,hr,rfl⟩:=List.mem_map.1 hx
    have h1:=BI gs n (d+1) r acK (hKE r hr);have h2:oB n≤oB 4:=by have:n≤4:=acK;rcases(show n=0∨n=1∨n=2∨n=3∨n=4 by omega)with rfl|rfl|rfl|rfl|rfl<;>decide
    exact Nat.le_trans h1 (Nat.le_trans h2 acN)) q G
  have hrl:=fun(r:fy) (hr:D7 r) (G:Heap)=>Io r hr gs hf G
  have hml:=Lt gs tgt;obtain⟨t,et⟩:∃t,mM gs tgt=t:=⟨_,rfl⟩;rw[et]at hmt hjo hev hml;simp only[aN,bJ,bf,aV,aA]at hmt hjo hrl;have uR:=Vf;refine acJ func140 50 [.cell 4 120] fun hwf=>?_
  simp only[go_sem,aN,bJ,bf,aV,aA];intro i2 h2;simp only[go_sem];intro i4 h4;have n42:=aH h4;have n4' :=aB h4;obtain⟨H0,eH⟩:∃H0,upd (upd h i2 (some (.obj [.s id,.b set,.i alg,.sl (tgt.map cS) .no,.sl (rules.map aC) .no,.sl (kids.map aN) .no,.sl (obls.map bu) .no] 96))) i4 (some (.obj [.v (.complex .f64 0 0),.sl [] .full] 120))=H0:=⟨_,rfl⟩;have hH0:Ab.Sub h H0:=afH;have g2:H0 i2=some (.obj [.s id,.b set,.i alg,.sl (tgt.map cS) .no,.sl (rules.map aC) .no,.sl (kids.map aN) .no,.sl (obls.map bu) .no] 96):=agp;have g4:H0 i4=some (.obj [.v (.complex .f64 0 0),.sl [] .full] 120):=aed;simp only[go_sem,ak,n42.symm];rw[eH];clear eH;refine(hmt _).pthen ?_;cases dt:((t:Int)==0)
  case true=>
   have e0:t=0:=by have:(t:Int)=0:=(by simpa using dt);omega
   simp only[go_sem,dt,g4];exact .mk (rsA (naM,[])) (qQ [] naM rfl _) (hH0.put n4' _) ⟨by rw[hev,if_pos e0],rfl⟩
  have ht0:t≠0:=by rintro rfl;simp at dt
  have ht12:t=1∨t=2:=acK;rw[if_neg ht0]at hev;simp only[go_sem,dt,g2,acA];refine .intro (fun m ρ H=>∃(i:Nat) (y:AV),Acc U 120 H0 H y (((rules.map (ie gs)).take i).map rsA)∧i≤rules.length∧m=rules.length - i∧lk ρ 1=some (.sl (gs.map lf) .no)∧lk ρ 2=some (.ptr i2 0)∧lk ρ 4=some (.ptr i4 0)∧lk ρ 5=some (.i t)∧lk ρ 6=some y∧lk ρ 19=some (.sl (rules.map aC) .no)∧lk ρ 20=some (.i rules.length)∧lk ρ 21=some (.i i)) rules.length ?_ ?_
  ·refine⟨0,.sl [] .full,.full (.refl _),acK,rfl,?_,?_,?_,?_,?_,?_,?_,?_⟩<;>simp only[go_sem]
  ·rintro m ρ H ⟨i,y,hy,hi,rfl,r1,r2,r4,r5,r6,r19,r20,r21⟩
   obtain⟨qy,eqy⟩:=hy.row;subst eqy;simp only[go_sem,r20,r21];refine .intro (fun e=>?_) (fun e=>?_)
   ·have hlt:i<rules.length:=acH e
    have w1:=acG i acK;have hsn:((rules.map (ie gs)).take (i+1)).map rsA=((rules.map (ie gs)).take i).map rsA++ [rsA (ie gs rules[i])]:=by rw[List.take_succ_eq_append_getElem ada,List.map_append,acB];rfl
    have ix:=fun k=>fP.eq (xs:=rules.map aC) (sz:=5) i ada acZ k
    rw[acB]at ix;have hre:=hRE _ (acF hlt);obtain⟨x,ex⟩:∃x,rules[i]=x:=⟨_,rfl⟩;rw[ex]at ix hsn hre;have hr1:=hrl x hre;simp only[aC,aV,aA]at ix hr1;simp only[go_sem,r19,r21,ix];intro i8 h8;simp only[go_sem,r1,r6];refine(hr1 _).pthen ?_;simp only[go_sem,rsA,aR,aA];refine(hy.sub (.aj h8)).app (zs:=[rsA (ie gs x)]) (by rw[uR];decide) acP (fun k hk=>hk) (by rw[uR];exact A4 _) afk ac2 fun y' H' hy' kp=>?_
    simp only[go_sem,r21,w1];refine⟨_,?_,i+1,y',by rw[hsn];exact hy',acK,rfl,?_,?_,?_,?_,?_,?_,?_,?_⟩
    ·omega
    all_goals simp only[go_sem,r1,r2,r4,r5,r19,r20]
   ·have hge:i=rules.length:=by have:=acD e;omega
    subst hge;have htl:(rules.map (ie gs)).take rules.length=rules.map (ie gs):=List.take_of_length_le acS;rw[htl]at hy r6;have k2:=hy.1 _ _ g2;simp only[go_sem,r2,k2,acA];refine .intro (fun m ρ H=>∃(i:Nat) (y:AV),Acc U 120 H0 H y ((rules.map (ie gs)++(kids.map (fG gs)).take i).map rsA)∧i≤kids.length∧m=kids.length - i∧lk ρ 1=some (.sl (gs.map lf) .no)∧lk ρ 2=some (.ptr i2 0)∧lk ρ 4=some (.ptr i4 0)∧lk ρ 5=some (.i t)∧lk ρ 6=some y∧lk ρ 33=some (.sl (kids.map aN) .no)∧lk ρ 34=some (.i kids.length)∧lk ρ 35=some (.i i)) kids.length ?_ ?_
    ·refine⟨0,_,by rw[List.take_zero,List.append_nil];exact hy,acK,rfl,?_,?_,?_,?_,?_,?_,?_,?_⟩<;>simp only[go_sem,r1,r2,r4,r5,r6]
    ·rintro m ρ2 H2 ⟨i,y,hy,hi,rfl,s1,s2,s4,s5,s6,s33,s34,s35⟩
     obtain⟨qy,eqy⟩:=hy.row;subst eqy;simp only[go_sem,s34,s35];refine .intro (fun e=>?_) (fun e=>?_)
     ·have hlt:i<kids.length:=acH e
      have w1:=acG i acK;have hsn:(rules.map (ie gs)++(kids.map (fG gs)).take (i+1)).map rsA=(rules.map (ie gs)++(kids.map (fG gs)).take i).map rsA++ [rsA (fG gs kids[i])]:=by rw[List.take_succ_eq_append_getElem ada,←List.append_assoc,List.map_append,acB];rfl
      have ix:=fun k=>fP.eq (xs:=kids.map aN) (sz:=7) i ada (by rw[acB,js]) k
      rw[acB]at ix;have hke:=hKE _ (acF hlt);obtain⟨x,ex⟩:∃x,kids[i]=x:=⟨_,rfl⟩;rw[ex]at ix hsn hke;have hr1:=ih x hke gs hf;obtain⟨kid,kset,kalg,ktgt,krules,kkids,kobls⟩:=x;simp only[aN,aV,aA,bJ,bf]at ix hr1;simp only[go_sem,s33,s35,ix];intro i10 h10;simp only[go_sem,s1,s6];refine(hr1 _).pthen ?_;simp only[go_sem,rsA,aR,aA];refine(hy.sub (.aj h10)).app (zs:=[rsA (fG gs (.mk kid kset kalg ktgt krules kkids kobls))]) (by rw[uR];decide) acP (fun k hk=>hk) (by rw[uR];exact A4 _) afk (by simp only[go_sem,acA,List.length_take,List.length_cons,List.length_nil,acE];omega) fun y' H' hy' kp=>?_
      simp only[go_sem,s35,w1];refine⟨_,?_,i+1,y',by rw[hsn];exact hy',acK,rfl,?_,?_,?_,?_,?_,?_,?_,?_⟩
      ·omega
      all_goals simp only[go_sem,s1,s2,s4,s5,s33,s34]
     ·have hge:i=kids.length:=by have:=acD e;omega
      subst hge;have htl:(kids.map (fG gs)).take kids.length=kids.map (fG gs):=List.take_of_length_le acS;rw[htl]at hy s6;have k2:=hy.1 _ _ g2;have k4:=hy.1 _ _ g4;have hj:=fun G=>hjo ht12 qy G
      rw[←hev]at hj;obtain⟨z,ez⟩:∃z,fG gs (.mk id set alg tgt rules kids obls)=z:=⟨_,rfl⟩;rw[ez]at hj;simp only[go_sem,s2,s5,s6,k2];refine(hj _).pthen ?_;simp only[go_sem,s4,rsA,aR,aA,k4];exact .mk (rsA z) (.refl _) ((hH0.trans hy.1).put n4' _) ⟨by rw[ez];rfl,rfl⟩
theorem CR(p:bV)(hp:gC p=0)(gs:List br)(hf:rG gs)(h:Heap):ai prog 99 [aN p,bJ gs] h fun r h' =>r= .tup [rsA (fG gs p),.i 0]∧h' =h:=by
 have hd:=fun G=>Ap 4 1 rfl p (qR hp) gs hf G
 have hr:=fun G=>tX p G
 rw[hp]at hr;obtain⟨id,set,alg,tgt,rules,kids,obls⟩:=p;refine acJ func99 13 [.cell 4 120,.tmp 5] fun hwf=>?_
 simp only[go_sem,aN,bJ,aV,aA];intro i2 h2;simp only[go_sem];intro i4 h4;have n42:=aH h4;have n4:=aB h4;have hs:∀x y,Ab.Sub h (upd (upd h i2 x) i4 y):=fun x y=>((Sub.refl h).put h2 x).put n4 y
 simp only[go_sem,ak,n42.symm];refine(hr _).pthen ?_;simp only[go_sem,ak,n42.symm];refine(hd _).pthen ?_;simp only[go_sem,rsA,aR,aA];exact ael
end Go.Proofs.YteaaeelhjnhaaaaGreatDoor
namespace Go.Bf
open Go Go.Ab Go.Proofs.YteaaeelhjnhaaaaGreatDoor
variable {a b':jJ}{s:Txt}{r tgt:kr}{l:List ck}{n:Nat}
def qK:OpD:=⟨1,Ty,cT,[],[],an,0,[],[],false⟩
def rep(n:Nat)(t:Txt):Txt:=(List.replicate n t).flatten
def MLe(a b:jJ):Prop:=(∀x∈a.met,x∈b.met)∧a.rules≤b.rules
theorem MLe.refl(a:jJ):MLe a a:=⟨fun _ h=>h,Nat.le_refl _⟩
theorem MLe.trans{b c:jJ}(h1:MLe a b)(h2:MLe b c):MLe a c:=⟨fun x h=>h2.1 x (h1.1 x h),Nat.le_trans h1.2 h2.2⟩
theorem GS{b:jJ}(h:MLe a b)(hm:jg b s=some b'):∃a',jg a s=some a'∧MLe a' b' :=by
 unfold jg at hm⊢;split at hm
 ·rename_i hc
  cases hm;refine⟨_,if_pos ⟨fun hx=>hc.1 (h.1 s hx),hc.2⟩,fun x hx=>?_,h.2⟩
  rcases List.mem_append.1 hx with hx|hx
  ·exact List.mem_append.2 (.inl (h.1 x hx))
  grind
 grind
theorem GU{b:jJ}(hm:jg b s=some b'):MLe b b' :=by
 unfold jg at hm;split at hm
 ·cases hm;exact⟨fun x hx=>List.mem_append.2 (.inl hx),Nat.le_refl _⟩
 grind
theorem oA{e:Int}{w:Went}{m:jJ}(h:need e w= .ok m):e=0∧w= .ok m:=by grind [need]
theorem Ox{b:jJ}{r:fy}(h:MLe a b)(hr:gw b r= .ok b'):(∃a',gw a r= .ok a'∧MLe a' b')∧MLe b b' :=by
 unfold gw at hr⊢;cases hm:jg b r.id with
 |none=>grind
 |some m=>
  rw[hm]at hr;obtain⟨a',ha,hl⟩:=GS h hm;simp only at hr;split at hr
  ·grind
  ·obtain⟨e1,hr⟩:=oA hr
   obtain⟨e2,hr⟩:=oA hr;obtain⟨e3,hr⟩:=oA hr;cases hr;have hup:=GU hm;refine⟨⟨⟨a'.met,a'.rules+1⟩,?_,hl.1,by have:=hl.2;simp only;omega⟩,hup.1,by have:=hup.2;simp only;omega⟩
   rw[ha];have:=hl.2;simp only[e1,e2,e3,need,if_true];rw[if_neg acK]
theorem D9:∀(l:List fy) {a b b' :jJ},MLe a b→fC b l= .ok b'→(∃a',fC a l= .ok a'∧MLe a' b')∧MLe b b'
 | [],a,b,b',h,hr=>by cases hr;exact⟨⟨a,rfl,h⟩,.refl _⟩
 |r::l,a,b,b',h,hr=>by
  simp only[fC]at hr⊢;cases hw:gw b r with
  |bad e=>grind
  |ok m=>rw[hw]at hr;obtain⟨⟨a',ha,hl⟩,hu⟩:=Ox h hw;obtain⟨⟨a'',ha',hl'⟩,hu'⟩:=D9 l hl hr;exact⟨⟨a'',acL,hl'⟩,hu.trans hu'⟩
theorem NO{b:jJ}{id:Txt}{set:Bool}{alg:Int}{nr nk nk' :Nat}{obls:List dN}(h:MLe a b)(hk:nk'≤nk)(hr:fj b id set alg tgt nr nk obls= .ok b'):(∃a',fj a id set alg tgt nr nk' obls= .ok a'∧MLe a' b')∧MLe b b' :=by
 unfold fj at hr⊢;cases hm:jg b id with
 |none=>rw[hm]at hr;cases hr
 |some m=>
  rw[hm]at hr;obtain⟨a',ha,hl⟩:=GS h hm;simp only at hr;split at hr
  ·cases hr
  ·rename_i h1
   split at hr
   ·cases hr
   ·rename_i h2
    obtain⟨e1,hr⟩:=oA hr;obtain⟨e2,hr⟩:=oA hr;split at hr
    ·cases hr
    ·rename_i h3
     cases hr;refine⟨⟨a',?_,hl⟩,GU hm⟩;rw[ha];have h2' :¬(set=true∧nr>0∨set=false∧(nk' >0∨alg=4)):=by
      rintro(⟨p,q⟩|⟨p,q|q⟩)
      ·exact h2 (.inl ⟨p,q⟩)
      ·exact h2 (.inr ⟨p,.inl acK⟩)
      ·exact h2 (.inr ⟨p,.inr q⟩)
     simp only[if_neg h1,if_neg h2',e1,e2,need,if_true];rw[if_neg acK]
theorem DM(gs:List br):∀l:List bV,(kg gs l).length≤l.length
 | []=>by simp[kg]
 |k::r=>by have:=DM gs r;simp only[kg];split<;>simp<;>omega
mutual
theorem DO(gs:List br):∀(p:bV) (d:Nat) {a b b' :jJ},MLe a b→kI b d p= .ok b'→(∃a',kI a d (lD gs p)= .ok a'∧MLe a' b')∧MLe b b'
 |.mk id set alg tgt rules kids obls,d,a,b,b',h,hr=>by
  simp only[kI,lD]at hr⊢;split at hr
  ·cases hr
  ·rename_i hd
   rw[if_neg hd];cases hh:fj b id set alg tgt rules.length kids.length obls with
   |bad e=>rw[hh]at hr;cases hr
   |ok m=>
    rw[hh]at hr;simp only at hr;obtain⟨⟨a1,ha1,hl1⟩,hu1⟩:=NO h (DM gs kids) hh;cases hw:fC m rules with
    |bad e=>rw[hw]at hr;cases hr
    |ok m2=>rw[hw]at hr;simp only at hr;obtain⟨⟨a2,ha2,hl2⟩,hu2⟩:=D9 rules hl1 hw;obtain⟨⟨a3,ha3,hl3⟩,hu3⟩:=uH gs kids (d+1) hl2 hr;refine⟨⟨a3,?_,hl3⟩,(hu1.trans hu2).trans hu3⟩;rw[ha1];simp only[ha2];exact ha3
theorem uH(gs:List br):∀(l:List bV) (d:Nat) {a b b' :jJ},MLe a b→iP b d l= .ok b'→(∃a',iP a d (kg gs l)= .ok a'∧MLe a' b')∧MLe b b'
 | [],d,a,b,b',h,hr=>by simp only[iP,kg]at hr⊢;cases hr;exact⟨⟨a,rfl,h⟩,.refl _⟩
 |k::r,d,a,b,b',h,hr=>by
  simp only[iP]at hr;cases hw:kI b d k with
  |bad e=>rw[hw]at hr;cases hr
  |ok m=>
   rw[hw]at hr;simp only at hr;obtain⟨⟨a1,ha1,hl1⟩,hu1⟩:=DO gs k d h hw;simp only[kg];split
   ·obtain⟨⟨a2,ha2,hl2⟩,hu2⟩:=uH gs r d hl1 hr
    refine⟨⟨a2,?_,hl2⟩,hu1.trans hu2⟩;simp only[iP,ha1];exact ha2
   ·obtain⟨⟨a2,ha2,hl2⟩,hu2⟩:=uH gs r d (h.trans hu1) hr
    exact⟨⟨a2,ha2,hl2⟩,hu1.trans hu2⟩
end
theorem FP(gs:List br){p:bV}(h:gC p=0):gC (lD gs p)=0:=by
 unfold gC at*;cases hw:kI ⟨[],0⟩ 1 p with
 |bad e=>have:=tP 4 1 _ _ e rfl hw;rw[hw]at h;exact(this h).elim
 |ok m=>obtain⟨⟨a,ha,_⟩,_⟩:=DO gs p 1 (.refl _) hw;rw[ha];rfl
def Vn:ck:=⟨⟨0,[],false⟩,0,an⟩
def NU(k:Option ck):AV:=match k with
 |some m=> .tup [dO m,.b true]
 |none=> .tup [dO Vn,.b false]
theorem Le{x:List (List ck)}(h:x.length≠1):ou (x::r)=ou r:=by
 match x,h with
 | [],_=>rfl
 | [l],h=>exact(h rfl).elim
 |a::b::c,_=>rfl
theorem Ld(h:(l.find? fun m=>m.op==1 && !m.attr.must)=none):ou ([l]::r)=ou r:=by grind [ou]
theorem Lf{m:ck}(h:(l.find? fun m=>m.op==1 && !m.attr.must)=some m):ou ([l]::r)=some m:=by grind [ou]
theorem DL(gs:List br):∀l:List bV,kg gs l=(l.filter (sr gs)).map (lD gs)
 | []=>acY
 |k::r=>by
  simp only[kg,List.filter_cons,DL gs r]
  grind
def ixP(gs:List br)(l:List bV)(n:Nat):List Nat:=(List.range n).filter fun j=>sr gs (l.getD j lS)
theorem Dh(gs:List br)(l:List bV)(h:n<l.length):ixP gs l (n+1)=ixP gs l n++(if sr gs l[n]=true then [n]else []):=by grind [ixP,List.range_succ,List.getD,List.getElem?_eq_getElem]
theorem Di(gs:List br)(l:List bV):∀n:Nat,n≤l.length→(ixP gs l n).map (fun j=>l.getD j lS)=(l.take n).filter (sr gs)
 |0,_=>acY
 |n+1,h=>by
  have hlt:n<l.length:=acK;rw[Dh gs l hlt,List.map_append,Di gs l n acK,List.take_succ_eq_append_getElem hlt,List.filter_append,List.filter_cons]
  congr 1
  grind
theorem Q7{gs:List br}{l:List bV}{j:Nat}(h:j∈ixP gs l n):j<n:=List.mem_range.1 (List.mem_filter.1 h).1
theorem GN(gs:List br)(l:List bV)(n:Nat):(ixP gs l n).length≤n:=by grind [ixP,Nat.le_trans,List.length_filter_le]
theorem K9(gs:List br)(l:List bV):(ixP gs l l.length).map (fun j=>lD gs (l.getD j lS))=kg gs l:=by rw[DL,←List.take_length (l:=l),←Di gs l l.length (Nat.le_refl _),List.map_map,List.take_length];rfl
theorem ov(m:ck):dO m= .agg [.i m.attr.cat,.s m.attr.name,.b m.attr.must,.i m.op,.i m.val.kind,.i m.val.n,.s m.val.s]:=rfl
end Go.Bf
namespace Go.Proofs.YteaaeelhjnhaaaaGreatDoor
open Go Go.Ab Go.Bf Tryz
theorem Q8(t:kr)(ht:MZ t)(h:Heap):ai prog 172 [aV t] h fun r h' =>r=NU (ou t)∧h' =h:=by
 have htl:=ht.1;refine acJ func172 38 [.cell 2 248,.tmp 3] fun hwf=>?_
 simp only[go_sem,aV];intro i2 h2;simp only[go_sem,acA];have hH0:∀x,Ab.Sub h (upd h i2 x):=fun x=> .aj h2
 refine .intro (fun m ρ H=>Ab.Sub h H∧H i2=some (.obj [.i 0,.s [],.b false,.i 0,.i 0,.i 0,.s []] 248)∧∃i:Nat,i≤t.length∧m=t.length - i∧ou (t.drop i)=ou t∧lk ρ 2=some (.ptr i2 0)∧lk ρ 8=some (.sl (t.map cS) .no)∧lk ρ 9=some (.i t.length)∧lk ρ 10=some (.i i)) t.length ?_ ?_
 ·refine⟨hH0 _,ah ..,0,acK,rfl,rfl,?_,?_,?_,?_⟩<;>simp only[go_sem]
 ·rintro m ρ H ⟨hs,k2,i,hi,rfl,hk,r2,r8,r9,r10⟩
  simp only[go_sem,r9,r10];refine .intro (fun e=>?_) (fun e=>?_)
  ·have hlt:i<t.length:=acH e
   have w1:IntKind.i64.wrap ((i:Int)+1)=((i+1:Nat):Int):=acX;rw[List.drop_eq_getElem_cons hlt]at hk;have hxl:=(ht.2 _ (acF hlt)).2;have ix:=fun k=>fP.eq (xs:=t.map cS) (sz:=1) i acL acZ k
   rw[acB]at ix;obtain⟨x,ex⟩:∃x,t[i]=x:=⟨_,rfl⟩;rw[ex]at ix hk hxl;simp only[cS]at ix;cases d1:((x.length:Int) !=1)
   case true=>
    have hx1:x.length≠1:=acL;rw[Le hx1]at hk;simp only[go_sem,r8,r10,ix,acA,d1,w1];refine⟨_,?_,hs,k2,i+1,acK,rfl,hk,?_,?_,?_,?_⟩
    ·omega
    all_goals simp only[go_sem,r2,r8,r9]
   have hx1:x.length=1:=acL;obtain⟨l,rfl⟩:=List.length_eq_one_iff.1 hx1;have hll:=hxl l (List.mem_singleton.2 rfl);have iy:=fun k=>fP.eq (xs:=[iR l]) (sz:=1) 0 acS rfl k
   simp only[List.getElem_cons_zero,iR,Int.natCast_zero]at iy;simp only[go_sem,r8,r10,ix,acA,List.length_cons,List.length_nil,List.map_cons,List.map_nil,iR,iy];refine .intro (fun m ρ2 H2=>Ab.Sub h H2∧H2 i2=some (.obj [.i 0,.s [],.b false,.i 0,.i 0,.i 0,.s []] 248)∧∃j:Nat,j≤l.length∧m=l.length - j∧(∀k (h1:k<l.length),k<j→(l[k].op==1 && !l[k].attr.must)=false)∧lk ρ2 2=some (.ptr i2 0)∧lk ρ2 8=some (.sl (t.map cS) .no)∧lk ρ2 9=some (.i t.length)∧lk ρ2 10=some (.i i)∧lk ρ2 19=some (.sl (l.map dO) .no)∧lk ρ2 20=some (.i l.length)∧lk ρ2 21=some (.i j)) l.length ?_ ?_
   ·refine⟨hs,k2,0,acK,rfl,fun k _ hk=>acK,?_,?_,?_,?_,?_,?_,?_⟩<;>simp only[go_sem,r2,r8,r9,r10]
   ·rintro m ρ2 H2 ⟨hs2,k2,j,hj,rfl,hc,s2,s8,s9,s10,s19,s20,s21⟩
    simp only[go_sem,s20,s21];refine .intro (fun e=>?_) (fun e=>?_)
    ·have hlt2:j<l.length:=acH e
     have w2:IntKind.i64.wrap ((j:Int)+1)=((j+1:Nat):Int):=acX;have iz:=fun k=>fP.eq (xs:=l.map dO) (sz:=7) j acL acZ k
     rw[acB]at iz;have hci:=fun(d:(l[j].op==1 && !l[j].attr.must)=false)=>(fun k (h1:k<l.length) (hk:k<j+1)=>(by grind:(l[k].op==1 && !l[k].attr.must)=false))
     have hat:=fun(d:(l[j].op==1 && !l[j].attr.must)=true)=>(List.find?_eq_some_iff_getElem.2 ⟨d,j,hlt2,rfl,fun k hk=>acL⟩:(l.find? fun m=>m.op==1 && !m.attr.must)=some l[j])
     obtain⟨z,ez⟩:∃z,l[j]=z:=⟨_,rfl⟩;rw[ez]at iz hci hat;simp only[ov]at iz;simp only[go_sem,s19,s21,iz];intro i7 h7;have n72:i7≠i2:=fun e=>acL
     cases a1:(z.op==1)
     ·exact ahv
     ·cases a2:z.attr.must
      ·have hkk:=hk.symm.trans (Lf (hat acL))
       simp only[go_sem,s2,a1,ak,n72.symm,k2];exact .mk _ (.refl _) ((hs2.trans (.aj h7)).put h2 _) ⟨by rw[hkk];simp only[NU,ov,a2];rfl,rfl⟩
      ·exact ahv
    ·have hge:j=l.length:=by grind
     subst hge;rw[Ld (List.find?_eq_none.2 fun z hz=>by
      obtain⟨k,hk,rfl⟩:=List.mem_iff_getElem.1 hz
      grind)]at hk
     simp only[go_sem,s10,w1];refine⟨_,?_,hs2,k2,i+1,acK,rfl,hk,?_,?_,?_,?_⟩
     ·omega
     all_goals simp only[go_sem,s2,s8,s9]
  ·have hge:i=t.length:=by grind
   subst hge;rw[List.drop_length]at hk;simp only[go_sem,r2,k2];exact .mk _ (.refl _) (hs.put h2 _) ⟨by rw[←hk];rfl,rfl⟩
theorem I6{gs:List br}{p:bV}(h:ou (sw p)=none):sr gs p=true:=by grind [sr]
theorem I7{gs:List br}{p:bV}{m:ck}(h:ou (sw p)=some m):sr gs p=decide (jV gs m≠0):=by grind [sr]
def tE(n:Nat):AV:=.i n
theorem LO(l:List bV)(hl:l.length≤1000)(ht:∀p∈l,MZ (sw p))(gs:List br)(hf:rG gs)(h:Heap):ai prog 141 [.sl (l.map aN) .no,bJ gs] h fun r h' =>r= .sl ((ixP gs l l.length).map tE) .no∧h' =h:=by
 have hmt:=fun(m:ck) (G:Heap)=>AP m gs hf G
 simp only[ov,bJ]at hmt;have uI:(U 3).sz=1:=acY;refine acJ func141 37 [.tmp 4] fun hwf=>?_
 simp only[go_sem,bJ,acA];refine .intro (fun m ρ H=>∃(i:Nat) (y:AV),Acc U 3 h H y ((ixP gs l i).map tE)∧i≤l.length∧m=l.length - i∧lk ρ 1=some (.sl (gs.map lf) .no)∧lk ρ 5=some y∧lk ρ 10=some (.sl (l.map aN) .no)∧lk ρ 11=some (.i l.length)∧lk ρ 12=some (.i i)) l.length ?_ ?_
 ·refine⟨0,.sl [] .full,.full (.refl _),acK,rfl,?_,?_,?_,?_,?_⟩<;>simp only[go_sem]
 ·rintro m ρ H ⟨i,y,hy,hi,rfl,r1,r5,r10,r11,r12⟩
  obtain⟨qy,eqy⟩:=hy.row;subst eqy;simp only[go_sem,r11,r12];refine .intro (fun e=>?_) (fun e=>?_)
  ·have hlt:i<l.length:=acH e
   have w1:IntKind.i64.wrap ((i:Int)+1)=((i+1:Nat):Int):=acX;have hsn:=Dh gs l hlt;have hpl:=GN gs l i;have ix:=fun k=>fP.eq (xs:=l.map aN) (sz:=7) i acL (by rw[acB,js]) k
   rw[acB]at ix;have hft:=ht _ (acF hlt);obtain⟨x,ex⟩:∃x,l[i]=x:=⟨_,rfl⟩;rw[ex]at ix hsn hft;have hky:=fun G=>Q8 (sw x) hft G
   have mn:=fun h=>I6 (gs:=gs) (p:=x) h
   have ms:=fun m h=>I7 (gs:=gs) (p:=x) (m:=m) h
   obtain⟨kid,kset,kalg,ktgt,krules,kkids,kobls⟩:=x;simp only[sw]at hky hft mn ms;simp only[aN,aV,aA,bf]at ix;simp only[aV]at hky;simp only[go_sem,r10,r12,ix];intro i7 h7;simp only[go_sem];refine(hky _).pthen ?_;have hkeep:sr gs (.mk kid kset kalg ktgt krules kkids kobls)=true→ixP gs l (i+1)=ixP gs l i++ [i]:=fun e=>acL
   have hdrop:sr gs (.mk kid kset kalg ktgt krules kkids kobls)=false→ixP gs l (i+1)=ixP gs l i:=fun e=>acL
   cases hk:ou ktgt with
   |none=>simp only[go_sem,NU,ov];intro i8 h8;simp only[go_sem,r5];exact ahc
   |some m=>
    have hm2:=ms m hk;simp only[go_sem,NU,ov];intro i8 h8;simp only[go_sem,r1];refine(hmt m _).pthen ?_;cases dm:((jV gs m:Int) !=0)
    ·have e0:jV gs m=0:=by grind
     simp only[go_sem,r12,dm,w1];refine⟨_,?_,i+1,_,by rw[hdrop acL];exact(hy.sub (.aj h7)).sub (.aj h8),acK,rfl,?_,?_,?_,?_,?_⟩
     ·omega
     all_goals simp only[go_sem,r1,r5,r10,r11]
    ·have e0:jV gs m≠0:=by grind
     simp only[go_sem,r5,dm];exact ahc
  ·have hge:i=l.length:=by grind
   subst hge;simp only[go_sem,r5];exact .mk _ (.sl _ _) hy.1 ⟨rfl,rfl⟩
theorem UR{id:Txt}{set:Bool}{alg:Int}{tgt:kr}{rules:List fy}{kids:List bV}{obls:List dN}{L:List AV}(hL:L=kids.map aN)(q:Perm):Weak (.agg [.s id,.b set,.i alg,.sl (tgt.map cS) .no,.sl (rules.map aC) .no,.sl L q,.sl (obls.map bu) .no]) (aN (.mk id set alg tgt rules kids obls)):=by
 subst hL;rw[aN,bf];refine .agg _ _ rfl fun i a b=>?_
 rcases i with _|_|_|_|_|_|_|i
 ·exact ad4
 ·exact ad4
 ·exact ad4
 ·exact ad4
 ·exact ad4
 ·exact afp
 ·exact ad4
 ·simp at a;omega
theorem AW:∀(n d:Nat),d+n=5→∀(p:bV),mN d p→∀(gs:List br),rG gs→∀(h:Heap),ai prog 100 [aN p,bJ gs] h fun r h' =>r=aN (lD gs p)∧h' =h
 |0,d,hd,.mk id set alg tgt rules kids obls,hE,gs,hf,h=>by simp only[mN]at hE;omega
 |n+1,d,hd,.mk id set alg tgt rules kids obls,hE,gs,hf,h=>by
  have ih:=AW n (d+1) acK;simp only[mN,qG]at hE;obtain⟨_,_,_,_,_,_,hT,hO,hR,hK,hRE,hKE⟩:=hE;have hpk:=fun G=>LO kids acK (fun p hp=>by have h1:=hKE p hp;obtain⟨kid,kset,kalg,ktgt,krules,kkids,kobls⟩:=p;simp only[mN]at h1;exact Ca h1.2.2.2.2.2.2.1) gs hf G
  have hpe:lD gs (.mk id set alg tgt rules kids obls)= .mk id set alg tgt rules (kg gs kids) obls:=acY;have hfull:=K9 gs kids;have hIlt:∀j∈ixP gs kids kids.length,j<kids.length:=fun j hj=>Q7 hj
  have hIl:(ixP gs kids kids.length).length≤16:=Nat.le_trans (GN _ _ _) hK;obtain⟨I,eI⟩:∃I,ixP gs kids kids.length=I:=⟨_,rfl⟩;rw[eI]at hpk hfull hIlt hIl;simp only[bJ]at hpk;have uP:(U 96).sz=7:=acY;refine acJ func100 31 [.cell 4 96] fun hwf=>?_
  simp only[go_sem,aN,bJ,bf,aV,aA];intro i2 h2;simp only[go_sem];intro i4 h4;have n42:=aH h4;have n4' :=aB h4;obtain⟨H0,eH⟩:∃H0,upd (upd h i2 (some (.obj [.s id,.b set,.i alg,.sl (tgt.map cS) .no,.sl (rules.map aC) .no,.sl (kids.map aN) .no,.sl (obls.map bu) .no] 96))) i4 (some (.obj [.s [],.b false,.i 0,.sl [] .full,.sl [] .full,.sl [] .full,.sl [] .full] 96))=H0:=⟨_,rfl⟩;have hH0:Ab.Sub h H0:=afH;have g2:H0 i2=some (.obj [.s id,.b set,.i alg,.sl (tgt.map cS) .no,.sl (rules.map aC) .no,.sl (kids.map aN) .no,.sl (obls.map bu) .no] 96):=agp;have g4:H0 i4=some (.obj [.s [],.b false,.i 0,.sl [] .full,.sl [] .full,.sl [] .full,.sl [] .full] 96):=aed;simp only[go_sem,ak,n42.symm];rw[eH];clear eH;refine(hpk _).pthen ?_;simp only[go_sem,acA];refine .intro (fun m ρ H=>∃(i:Nat) (y:AV),Acc U 96 H0 H y (((I.map fun j=>lD gs (kids.getD j lS)).take i).map aN)∧i≤I.length∧m=I.length - i∧lk ρ 1=some (.sl (gs.map lf) .no)∧lk ρ 2=some (.ptr i2 0)∧lk ρ 4=some (.ptr i4 0)∧lk ρ 5=some y∧lk ρ 11=some (.sl (I.map tE) .no)∧lk ρ 12=some (.i I.length)∧lk ρ 13=some (.i i)) I.length ?_ ?_
  ·refine⟨0,.sl [] .full,.full (.refl _),acK,rfl,?_,?_,?_,?_,?_,?_,?_⟩<;>simp only[go_sem]
  ·rintro m ρ H ⟨i,y,hy,hi,rfl,r1,r2,r4,r5,r11,r12,r13⟩
   obtain⟨qy,eqy⟩:=hy.row;subst eqy;have k2:=hy.1 _ _ g2;simp only[go_sem,r12,r13];refine .intro (fun e=>?_) (fun e=>?_)
   ·have hlt:i<I.length:=acH e
    have w1:IntKind.i64.wrap ((i:Int)+1)=((i+1:Nat):Int):=acX;have hjlt:=hIlt _ (acF hlt);have hsn:((I.map fun j=>lD gs (kids.getD j lS)).take (i+1)).map aN=((I.map fun j=>lD gs (kids.getD j lS)).take i).map aN++ [aN (lD gs (kids.getD I[i] lS))]:=by grind [List.take_succ_eq_append_getElem]
    have ix:=fun k=>fP.eq (xs:=I.map tE) (sz:=1) i acL acZ k
    rw[acB]at ix;obtain⟨j,ej⟩:∃j,I[i]=j:=⟨_,rfl⟩;rw[ej]at ix hsn hjlt;have iy:=fun k=>fP.eq (xs:=kids.map aN) (sz:=7) j acL (by rw[acB,js]) k
    rw[acB]at iy;rw[show kids.getD j lS=kids[j] by grind]at hsn
    have hke:=hKE _ (acF hjlt);obtain⟨x,ex⟩:∃x,kids[j]=x:=⟨_,rfl⟩;rw[ex]at iy hsn hke;have hr1:=ih x hke gs hf;obtain⟨z,ez⟩:∃z,lD gs x=z:=⟨_,rfl⟩;rw[ez]at hr1 hsn;obtain⟨kid,kset,kalg,ktgt,krules,kkids,kobls⟩:=x;obtain⟨zid,zset,zalg,ztgt,zrules,zkids,zobls⟩:=z;simp only[aN,aV,aA,bf,bJ]at iy hr1;simp only[tE]at ix;simp only[go_sem,r1,r2,r5,r11,r13,ix,k2,iy];refine(hr1 _).pthen ?_;simp only[go_sem];refine hy.app (zs:=[aN (.mk zid zset zalg ztgt zrules zkids zobls)]) acK acN (fun k hk=>show k _ from(by simpa only[aN,aV,aA,bf]using hk)) (by grind [bx,aN,js]) (by rw[uP];intro z hz;grind [List.mem_singleton,js]) ac2 fun y' H' hy' kp=>?_
    simp only[go_sem,r13,w1];refine⟨_,?_,i+1,y',acL,acK,rfl,?_,?_,?_,?_,?_,?_,?_⟩
    ·omega
    all_goals simp only[go_sem,r1,r2,r4,r11,r12]
   ·have hge:i=I.length:=by grind
    subst hge;have htl:(I.map fun j=>lD gs (kids.getD j lS)).take I.length=kg gs kids:=by grind [List.take_of_length_le]
    rw[htl]at r5 hy;have k4:=hy.1 _ _ g4;have n24:i2≠i4:=n42.symm;simp only[go_sem,r2,r4,r5,k2,ak,n42,k4];refine .mk (aN (.mk id set alg tgt rules (kg gs kids) obls)) (UR rfl _) (((hH0.trans hy.1).put h2 _).put n4' _) ⟨acY,rfl⟩
theorem Dg(p:bV)(hp:gC p=0)(gs:List br)(hf:rG gs)(h:Heap):ai prog 74 [aN p,bJ gs] h fun r h' =>r= .tup [rsA (fG gs p),.i 0]∧h' =h:=by
 have hpk:=fun G=>AW 4 1 rfl p (qR hp) gs hf G
 have hev:=fun G=>CR (lD gs p) (FP gs hp) gs hf G
 have hr:=fun G=>tX p G
 rw[hp]at hr;rw[AT]at hev;obtain⟨id,set,alg,tgt,rules,kids,obls⟩:=p;refine acJ func74 17 [.cell 4 120,.tmp 5] fun hwf=>?_
 simp only[go_sem,aN,bJ,aV,aA];intro i2 h2;simp only[go_sem];intro i4 h4;have n42:=aH h4;have n4:=aB h4;have hs:∀x y,Ab.Sub h (upd (upd h i2 x) i4 y):=fun x y=>((Sub.refl h).put h2 x).put n4 y
 simp only[go_sem,ak,n42.symm];refine(hr _).pthen ?_;simp only[go_sem,ak,n42.symm];refine(hpk _).pthen ?_;simp only[go_sem];refine(hev _).pthen ?_;simp only[go_sem,rsA,aR,aA];exact ael
theorem La{α:Type}(y:AV)(xs:List AV)(ds:List α)(q:α→Bool)(g:FuncId)(cap:List AV)(h:Heap)(hb:Rd h 7 y xs)(hn:xs.length=ds.length)(hl:xs.length≤1000000000)(hx:∀x∈xs,bC x=true)
  (hp:∀i (h1:i<xs.length) (h2:i<ds.length),ai prog g (xs[i]::cap) h fun r h' =>r= .b (q ds[i])∧h' =h):
  ai prog 176 [y,.fn g cap] h fun r h' =>r= .i (ixD q ds)∧h' =h:=by
 refine acJ func176 19 [.tmp 4] fun hwf=>?_
 simp only[go_sem,hb.len];refine .intro (fun m ρ h' =>h' =h∧∃i:Nat,i≤xs.length∧m=xs.length - i∧(∀j (hj:j<i) (h2:j<ds.length),q ds[j]=false)∧lk ρ 0=some y∧lk ρ 1=some (.fn g cap)∧lk ρ 7=some (.i xs.length)∧lk ρ 8=some (.i i)) xs.length ?_ ?_
 ·refine⟨rfl,0,acK,rfl,fun j hj=>acK,?_,?_,?_,?_⟩<;>simp only[go_sem]
 ·rintro m ρ h' ⟨rfl,i,hi,rfl,hc,r0,r1,r7,r8⟩
  simp only[go_sem,r7,r8];refine .intro (fun e=>?_) (fun e=>?_)
  ·have hlt:i<xs.length:=acH e
   have hlt2:i<ds.length:=acK;have w1:IntKind.i64.wrap ((i:Int)+1)=((i+1:Nat):Int):=acX;simp only[go_sem,r0,r1,r8];refine hb.idx (e:=170) i rfl hlt acY acN fun p hp1=>?_
   have hld:=hp1.all (U:=U) (ty:=170) acN adD aez;simp only[go_sem,hld];refine(show ai prog g (xs[i]::cap) _ _ from hp i hlt hlt2).pthen ?_
   cases d1:q ds[i]
   ·simp only[go_sem,r8,w1]
    refine⟨_,?_,rfl,i+1,acK,rfl,fun j hj h2=>?_,?_,?_,?_,?_⟩
    ·omega
    ·grind
    all_goals simp only[go_sem,r0,r1,r7]
   ·simp only[go_sem]
    exact .same (.refl _) ⟨ads,rfl⟩
  ·have hge:i=xs.length:=by grind
   simp only[go_sem];exact .same (.refl _) ⟨adg,rfl⟩
theorem K8{α:Type}(y:AV)(xs:List AV)(ds:List α)(q:α→Bool)(g:FuncId)(cap:List AV)(h:Heap)(hb:Rd h 3 y xs)(hn:xs.length=ds.length)(hl:xs.length≤1000000000)(hx:∀x∈xs,bC x=true)
  (hp:∀i (h1:i<xs.length) (h2:i<ds.length),ai prog g (xs[i]::cap) h fun r h' =>r= .b (q ds[i])∧h' =h):
  ai prog 151 [y,.fn g cap] h fun r h' =>r= .i (ixD q ds)∧h' =h:=by
 refine acJ func151 19 [.tmp 4] fun hwf=>?_
 simp only[go_sem,hb.len];refine .intro (fun m ρ h' =>h' =h∧∃i:Nat,i≤xs.length∧m=xs.length - i∧(∀j (hj:j<i) (h2:j<ds.length),q ds[j]=false)∧lk ρ 0=some y∧lk ρ 1=some (.fn g cap)∧lk ρ 7=some (.i xs.length)∧lk ρ 8=some (.i i)) xs.length ?_ ?_
 ·refine⟨rfl,0,acK,rfl,fun j hj=>acK,?_,?_,?_,?_⟩<;>simp only[go_sem]
 ·rintro m ρ h' ⟨rfl,i,hi,rfl,hc,r0,r1,r7,r8⟩
  simp only[go_sem,r7,r8];refine .intro (fun e=>?_) (fun e=>?_)
  ·have hlt:i<xs.length:=acH e
   have hlt2:i<ds.length:=acK;have w1:IntKind.i64.wrap ((i:Int)+1)=((i+1:Nat):Int):=acX;simp only[go_sem,r0,r1,r8];refine hb.idx (e:=184) i rfl hlt acY acN fun p hp1=>?_
   have hld:=hp1.all (U:=U) (ty:=184) acN adD aez;simp only[go_sem,hld];refine(show ai prog g (xs[i]::cap) _ _ from hp i hlt hlt2).pthen ?_
   cases d1:q ds[i]
   ·simp only[go_sem,r8,w1]
    refine⟨_,?_,rfl,i+1,acK,rfl,fun j hj h2=>?_,?_,?_,?_,?_⟩
    ·omega
    ·grind
    all_goals simp only[go_sem,r0,r1,r7]
   ·simp only[go_sem]
    exact .same (.refl _) ⟨ads,rfl⟩
  ·have hge:i=xs.length:=by grind
   simp only[go_sem];exact .same (.refl _) ⟨adg,rfl⟩
theorem IT(y:AV)(ds:List qe)(q:qe→Bool)(g:FuncId)(cap:List AV)(h:Heap)(hb:Rd h 7 y (ds.map iM))(hl:ds.length≤1000000000)
  (hp:∀i (h2:i<ds.length),ai prog g (iM ds[i]::cap) h fun r h' =>r= .b (q ds[i])∧h' =h):
  ai prog 143 [y,.fn g cap] h fun r h' =>r= .b (ds.any q)∧h' =h:=by
 refine acJ func143 9 [.tmp 4] fun hwf=>?_
 simp only[go_sem];refine(La y _ ds q g cap h hb acS acL (oL (fun _=>rfl) _) fun i a b=>by rw[acB];exact hp i b).pthen ?_
 simp only[go_sem,um];exact acW
theorem IS(y:AV)(ds:List dN)(q:dN→Bool)(g:FuncId)(cap:List AV)(h:Heap)(hb:Rd h 3 y (ds.map bu))(hl:ds.length≤1000000000)
  (hp:∀i (h2:i<ds.length),ai prog g (bu ds[i]::cap) h fun r h' =>r= .b (q ds[i])∧h' =h):
  ai prog 114 [y,.fn g cap] h fun r h' =>r= .b (ds.any q)∧h' =h:=by
 refine acJ func114 9 [.tmp 4] fun hwf=>?_
 simp only[go_sem];refine(K8 y _ ds q g cap h hb acS acL (oL (fun _=>rfl) _) fun i a b=>by rw[acB];exact hp i b).pthen ?_
 simp only[go_sem,um];exact acW
theorem Fh(y:AV)(xs:List AV)(ds:List aU)(q:aU→Bool)(g:FuncId)(cap:List AV)(h:Heap)(hb:Rd h 5 y xs)(hn:xs.length=ds.length)(hl:xs.length≤1000000000)(hx:∀x∈xs,bC x=true)
  (hp:∀i (h1:i<xs.length) (h2:i<ds.length),ai prog g (xs[i]::cap) h fun r h' =>r= .b (q ds[i])∧h' =h):
  ai prog 120 [y,.fn g cap] h fun r h' =>r= .b (ds.any q)∧h' =h:=by
 refine acJ func120 9 [.tmp 4] fun hwf=>?_
 simp only[go_sem];refine(uG y xs ds q g cap h hb hn hl hx hp).pthen ?_;simp only[go_sem,um];exact acW
end Go.Proofs.YteaaeelhjnhaaaaGreatDoor
