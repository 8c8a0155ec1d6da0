/- The law EngineDown: pack 3 of its texts. -/
import Derived.OpenShut
import Derived.Below
import Derived.Lib.ItoaLen
import Derived.Lib.Join
import Derived.Lib.Small
import Derived.Laws.Externs
import Derived.Lib.Overlaps
import Derived.Test.YtcochaoekecfdaaGreatDoorProg
import Derived.KernelRfl
import Derived.Test.YtcochaoekecfdaaGreatDoorPk1
import Derived.Test.YtcochaoekecfdaaGreatDoorPk2
set_option linter.unusedSimpArgs false
set_option linter.unusedVariables false
set_option maxRecDepth 100000
namespace Go.Ab
open Go
section
variable {P : Program} {U : TypeId → TI}
inductive Dat (U:TypeId→TI):TypeId→AV→Prop
 |bool {t:TypeId} (b:Bool) (h:(U t).k= .bool):Dat U t (.b b)
 |int {t:TypeId} {k:IntKind} (n:Int) (h:(U t).k= .int k) (hw:(Lit.int k n).wf=true):Dat U t (.v (.int k n))
 |str {t:TypeId} (l:List UInt8) (h:(U t).k= .str) (hl:l.length≤maxLen):Dat U t (.s l)
 |slice {t e:TypeId} (xs:List AV) (h:(U t).k= .slice e) (hx:∀x∈xs,Dat U e x) (hl:xs.length≤maxLen):Dat U t (.sl xs .no)
 |strct {t:TypeId} {fs:List (Nat×TypeId)} (ys:List AV) (h:(U t).k= .strct fs) (hn:ys.length=fs.length) (hx:∀i (h1:i<fs.length) (h2:i<ys.length),Dat U fs[i].2 ys[i]):Dat U t (.agg (ys.map AV.cells).flatten)
theorem Dat.JT{t:TypeId}{x:AV}(h:Dat U t x)(hk:(U t).k= .bool):∃b,x= .b b:=by
 cases h with
 |bool b h=>simp
 |_=>simp_all
theorem Dat.MY{t:TypeId}{x:AV}{k:IntKind}(h:Dat U t x)(hk:(U t).k= .int k):∃n,x= .v (.int k n)∧(Lit.int k n).wf=true:=by
 cases h with
 |int n h hw=>grind
 |_=>simp_all
theorem Dat.oO{t:TypeId}{x:AV}(h:Dat U t x)(hk:(U t).k= .str):∃l,x= .s l∧l.length≤maxLen:=by
 cases h with
 |str l h hl=>grind
 |_=>simp_all
theorem Dat.I4{t e:TypeId}{x:AV}(h:Dat U t x)(hk:(U t).k= .slice e):∃xs,x= .sl xs .no∧xs.length≤maxLen∧∀y∈xs,Dat U e y:=by
 cases h with
 |slice xs h hx hl=>grind
 |_=>simp_all
def D9(U:TypeId→TI):List TypeId→List AV→Prop
 | [],ys=>ys= []
 |t::ts,ys=>∃y r,ys=y::r∧Dat U t y∧D9 U ts r
theorem zV:∀(fs:List (Nat×TypeId)) (ys:List AV),ys.length=fs.length→(∀i (h1:i<fs.length) (h2:i<ys.length),Dat U fs[i].2 ys[i])→D9 U (fs.map (·.2)) ys
 | [],ys,h,_=>List.length_eq_zero_iff.1 h
 |f::fs,[],h,_=>acD
 |f::fs,y::ys,h,hx=>⟨y,ys,rfl,hx 0 abQ abQ,zV fs ys abJ fun i h1 h2=>hx (i+1) abJ abJ⟩
theorem Dat.AP{t:TypeId}{x:AV}{fs:List (Nat×TypeId)}(h:Dat U t x)(hk:(U t).k= .strct fs):∃ys,x= .agg (ys.map AV.cells).flatten∧D9 U (fs.map (·.2)) ys:=by
 cases h with
 |strct ys h hn hx=>rw[hk]at h;cases h;exact⟨ys,rfl,zV _ _ hn hx⟩
 |_=>simp_all
theorem WD{n:Int}(h:(Lit.int .i64 n).wf=true): -9223372036854775808≤n∧n≤9223372036854775807:=by
 grind [Lit.wf,IntKind.min,IntKind.max,IntKind.signed,IntKind.bits]
theorem Dat.i64{t:TypeId}{x:AV}(h:Dat U t x)(hk:(U t).k= .int .i64):∃n,x=iA n∧ -9223372036854775808≤n∧n≤9223372036854775807:=by
 obtain⟨n,rfl,hw⟩:=h.MY hk;exact⟨n,rfl,WD hw⟩
theorem Dat.list{t e:TypeId}{x:AV}{β:Type}{f:β→AV}{p:β→Prop}(h:Dat U t x)(hk:(U t).k= .slice e)(he:∀y,Dat U e y→∃b,y=f b∧p b):∃bs:List β,x= .sl (bs.map f) .no∧bs.length≤maxLen∧∀b∈bs,p b:=by
 obtain⟨xs,rfl,hl,hx⟩:=h.I4 hk;obtain⟨bs,rfl,hb⟩:=xg xs fun y hy=>he y (hx y hy)
 grind
def RL(c:Cx):List AV→List Value→Prop
 | [],vs=>vs= []
 |x::xs,[]=>False
 |x::xs,v::vs=>(Rep c x v∧v.oneCell' =true)∧RL c xs vs
theorem RL.len{c:Cx}:∀ {xs:List AV} {vs:List Value},RL c xs vs→xs.length=vs.length
 | [],vs,h=>by rw[h];rfl
 |x::xs,[],h=>h.elim
 |x::xs,v::vs,h=>by simp[RL.len h.2]
theorem RL.get{c:Cx}:∀ {xs:List AV} {vs:List Value},RL c xs vs→∀i (h:i<xs.length),Rep c xs[i] (vs.getD i undef)∧(vs.getD i undef).oneCell' =true
 | [],vs,h,i,hi=>abJ
 |x::xs,[],h,i,hi=>h.elim
 |x::xs,v::vs,h,0,hi=>h.1
 |x::xs,v::vs,h,i+1,hi=>by simpa using RL.get h.2 i abJ
theorem RL.append{c:Cx}:∀ {xs ys:List AV} {vs us:List Value},RL c xs vs→RL c ys us→RL c (xs++ys) (vs++us)
 | [],ys,vs,us,h,k=>by rw[h];exact k
 |x::xs,ys,[],us,h,k=>h.elim
 |x::xs,ys,v::vs,us,h,k=>⟨h.1,RL.append h.2 k⟩
theorem RL.one{c:Cx}{x:AV}{v:Value}(h:Rep c x v)(h1:v.oneCell' =true):RL c [x] [v]:=⟨⟨h,h1⟩,rfl⟩
def DU(U:TypeId→TI)(n:Nat):List (Nat×TypeId)→Nat→Bool
 | [],o=>o==n
 |f::fs,o=>f.1==o && DU U n fs (o+(U f.2).sz)
def Fl(U:TypeId→TI)(L:List TypeId):Bool:=L.all fun t=>(U t).sz !=0 && match (U t).k with
 |.bool|.int _|.str=>(U t).sz==1
 |.slice e=>(U t).sz==1 && L.contains e
 |.strct fs=>fs.all (fun f=>L.contains f.2) && DU U (U t).sz fs 0
 |_=>false
theorem rJ(hU:∀t,aN P U t){t:TypeId}(hz:(U t).sz≠0):P.cellsOf t=(U t).sz:=by
 obtain⟨i,h1,h2,_⟩:=(hU t).info hz
 grind [Program.cellsOf]
variable {H : Type} {enc : TypeId × Value → H} {w : World}
theorem Lc(hU:∀t,aN P U t){L:List TypeId}{m:Nat}{sp:Nat→Bool}{held:Bool}(n:Nat)(cs:List Value)(hn:cs.length=n)
  (ih:∀(t:TypeId) (cs:List Value) r,t∈L→DataW.trod enc P w 0 sp held m t cs=some r→∃x,Dat U t x∧RL (cx0 w) x.cells cs) (hz:∀t∈L,(U t).sz≠0):
  ∀(fs:List (Nat×TypeId)) (gs:List Field) (o:Nat),gs.map (fun f=>(f.offset,f.type))=fs→(∀f∈fs,f.2∈L)→DU U n fs o=true→
   (∀f∈gs,∃r,DataW.trod enc P w 0 sp held m f.type ((cs.drop f.offset).take (P.cellsOf f.type))=some r)→
   ∃ys:List AV,ys.length=fs.length∧(∀i (h1:i<fs.length) (h2:i<ys.length),Dat U fs[i].2 ys[i])∧RL (cx0 w) (ys.map AV.cells).flatten (cs.drop o):=by
 intro fs
 induction fs with
 |nil=>
  intro gs o hg hL ht hr;refine⟨[],rfl,fun i h1=>abQ, ?_⟩
  have:o=n:=by grind [DU]
  show cs.drop o= []
  grind
 |cons f fs ihf=>
  intro gs o hg hL ht hr;cases gs with
  |nil=>grind
  |cons g gs=>
   simp only[List.map_cons,List.cons.injEq]at hg;obtain⟨hg1,hg2⟩:=hg;simp only[DU,Bool.and_eq_true,beq_iff_eq]at ht;obtain⟨ht1,ht2⟩:=ht;have hfL:=hL f abQ;obtain⟨ys,y1,y2,y3⟩:=ihf gs (o+(U f.2).sz) hg2 abJ ht2 abJ;obtain⟨r,hr0⟩:=hr g abQ;have e1:g.type=f.2:=abJ;have e2:g.offset=o:=abJ;rw[e1,e2,rJ hU (hz _ hfL)]at hr0;obtain⟨x,x1,x2⟩:=ih _ _ _ hfL hr0;refine⟨x::ys,abJ,fun i h1 h2=> ?_, ?_⟩
   ·grind
   ·have:cs.drop o=(cs.drop o).take (U f.2).sz++cs.drop (o+(U f.2).sz):=by
     rw[←List.drop_drop,List.take_append_drop]
    rw[this];exact x2.append y3
theorem Co(hU:∀t,aN P U t)(L:List TypeId)(hL:Fl U L=true){sp:Nat→Bool}{held:Bool}(hsp:∀b,sp b=true):
  ∀(fuel:Nat) (t:TypeId) (cs:List Value) (r:DataW H×List MemPlace),t∈L→DataW.trod enc P w 0 sp held fuel t cs=some r→∃x,Dat U t x∧RL (cx0 w) x.cells cs:=by
 have hall:∀t∈L,(U t).sz≠0:=fun t ht=>by
  have:=List.all_eq_true.1 hL t ht;simp only[Bool.and_eq_true,bne_iff_ne]at this;exact this.1
 intro fuel
 induction fuel with
 |zero=>intro t cs r _ h;simp[DataW.trod]at h
 |succ m ih=>
  intro t cs r ht h;have hp:=List.all_eq_true.1 hL t ht;simp only[Bool.and_eq_true,bne_iff_ne]at hp;obtain⟨hz,hp⟩:=hp;have hd:=(hU t).desc;unfold DataW.trod at h;cases hk:(U t).k with
  |bool=>
   rw[hk]at hd;simp only at hd;rw[hd]at h;split at h<;>simp_all
   rename_i b
   exact⟨_,.bool b hk,.one (.v _) rfl⟩
  |int k=>
   rw[hk]at hd;simp only at hd;rw[hd]at h;split at h<;>simp_all
   obtain⟨⟨rfl,hw⟩,_⟩:=h;exact⟨_,.int _ hk hw,.one (.v _) rfl⟩
  |str=>
   rw[hk]at hd;simp only at hd;rw[hd]at h;split at h<;>simp_all
   rename_i s
   refine⟨_,.str s.data.toList hk (by simpa using h.1),.one ?_ rfl⟩
   have:=Rep.s (c:=cx0 w) s.data.toList (by have:=h.1;unfold maxLen at this;simp only[lim];simp;omega)
   simpa using this
  |slice e=>
   rw[hk]at hd hp;simp only at hd;simp only[Bool.and_eq_true]at hp;have he:e∈L:=by simpa using hp.2
   have hez:=hall e he;rw[hd]at h;split at h<;>try (simp_all;done)
   ·rename_i e' heq
    refine⟨_,.slice [] hk (fun x hx=>by cases hx) abQ,.one ?_ rfl⟩
    exact .sl [] .no none 0 0 (fun _ _=>undef) (Nat.le_refl _) abL (fun _=>rfl) (fun q h _=>acD) (fun i h=>acD) (fun q h=>acD) (fun i h=>acD) (fun i j h=>acD) trivial
   ·rename_i e' a len cap heq
    obtain rfl:e=e' :=by simpa using heq
    split at h
    ·rename_i hc
     obtain⟨hc1,hc2,hc3⟩:=hc;simp only[hsp,if_true]at h;obtain⟨els,hels,h⟩:=Option.bind_eq_some_iff.1 h;obtain⟨⟨rst,hrst,_⟩⟩:Nonempty {rst // (List.range (cap - len)).mapM (fun j=>((w.cells? 0 (a.add ((len+j)*P.cellsOf e)) (P.cellsOf e)).bind (DataW.trod enc P w 0 sp held m e)))=some rst∧True}:=by
      cases hq:(List.range (cap - len)).mapM (fun j=>((w.cells? 0 (a.add ((len+j)*P.cellsOf e)) (P.cellsOf e)).bind (DataW.trod enc P w 0 sp held m e)))with
      |none=>rw[hq]at h;simp at h
      |some rst=>exact⟨⟨rst,rfl,trivial⟩⟩
     rw[rJ hU hez]at hels hrst;have cell:∀j,j<(U e).sz→∀(b:Addr) vs,w.cells? 0 b (U e).sz=some vs→w.cell? (b.add j)=vs[j]?∧vs.length=(U e).sz:=fun j hj b vs hb=>by
      simp only[World.cells?,Nat.zero_le,if_true]at hb;have:=mapM_some_get hb j j (by simp[hj])
      exact⟨this,by simpa using mapM_some_length hb⟩
     have el:∀i,i<len→∃vs x,w.cells? 0 (a.add (i*(U e).sz)) (U e).sz=some vs∧Dat U e x∧RL (cx0 w) x.cells vs:=fun i hi=>by
      have:=mapM_some_get hels i i (by simp[hi])
      have hi2:i<els.length:=by have:=mapM_some_length hels;simp at this;omega
      rw[List.getElem?_eq_getElem hi2]at this;obtain⟨vs,v1,v2⟩:=Option.bind_eq_some_iff.1 this;obtain⟨x,x1,x2⟩:=ih _ _ _ he v2;exact⟨vs,x,v1,x1,x2⟩
     have hspot:0<cap→a.spot=none∧a.block<w.heap.size:=fun hcap=>by
      have:∃b vs,w.cells? 0 b (U e).sz=some vs∧b.spot=a.spot∧b.block=a.block:=by
       by_cases hl:0<len
       ·obtain⟨vs,x,v1,_⟩:=el 0 hl
        have a0:a.add (0*(U e).sz)=a:=by simp[Addr.add]
        exact⟨_,vs,v1,by rw[a0],by rw[a0]⟩
       ·have:=mapM_some_get hrst 0 0 (by rw[List.getElem?_eq_getElem acj];simp)
        have hi2:0<rst.length:=by have:=mapM_some_length hrst;simp at this;omega
        rw[List.getElem?_eq_getElem hi2]at this;obtain⟨vs,v1,v2⟩:=Option.bind_eq_some_iff.1 this;have a0:a.add ((len+0)*(U e).sz)=a:=by
         obtain rfl:len=0:=abI;simp[Addr.add]
        exact⟨_,vs,v1,by rw[a0],by rw[a0]⟩
      obtain⟨b,vs,b1,b2,b3⟩:=this;obtain⟨c1,c2⟩:=cell 0 abI b vs b1;rw[List.getElem?_eq_getElem abI]at c1;rw[←b2,←b3];unfold World.cell? at c1;split at c1
      ·rename_i hh
       split at c1
       ·cases c1
       ·rename_i hs
        refine⟨?_, ?_⟩
        ·have:(b.add 0).spot=b.spot:=by simp[Addr.add]
         rw[this]at hs;cases hb:b.spot with
         |none=>rfl
         |some z=>rw[hb]at hs;simp at hs
        ·exact(Array.getElem?_eq_some_iff.1 hh).1
      ·cases c1
     have:∀n,n≤len→∃xs:List AV,xs.length=n∧∀i (hi:i<xs.length),Dat U e xs[i]∧∃vs,w.cells? 0 (a.add (i*(U e).sz)) (U e).sz=some vs∧RL (cx0 w) xs[i].cells vs:=by
      intro n
      induction n with
      |zero=>exact fun _=>⟨[],rfl,fun i hi=>by cases hi⟩
      |succ n ihn=>
       intro hn;obtain⟨xs,e1,e2⟩:=ihn abI;obtain⟨vs,x,v1,v2,v3⟩:=el n abI;refine⟨xs++ [x],by simp[e1],fun i hi=> ?_⟩
       by_cases hi' :i<xs.length
       ·rw[List.getElem_append_left hi']
        exact e2 i hi'
       ·have:i=n:=by simp at hi;omega
        subst this;rw[List.getElem_append_right abI];simp only[e1,Nat.sub_self,List.getElem_singleton];exact⟨v2,vs,v1,v3⟩
     obtain⟨xs,e1,e2⟩:=this len (Nat.le_refl _);subst e1;refine⟨.sl xs .no,.slice xs hk (fun x hx=> ?_) abI,.one ?_ rfl⟩
     ·obtain⟨i,hi,rfl⟩:=List.mem_iff_getElem.1 hx
      exact(e2 i hi).1
     ·refine .sl xs .no (some a) cap (U e).sz (fun i j=>((w.cells? 0 (a.add (i*(U e).sz)) (U e).sz).getD []).getD j undef) hc2 (by unfold maxLen at hc3;simp only[lim];omega) (fun hh=>ac8) (fun q hq hcap=>by cases hq;exact hspot hcap)
       (fun i hi=> ?_) (fun q hq i j hi hj=> ?_) (fun i hi j hj=> ?_) (fun i j hi hj=> ?_) trivial
      ·obtain⟨_,vs,v1,v2⟩:=e2 i hi
       rw[v2.len];exact(cell 0 abI _ _ v1).2
      ·cases hq
       obtain⟨_,vs,v1,v2⟩:=e2 i hi;refine⟨?_,La w _ _⟩;obtain⟨c1,c2⟩:=cell j hj _ _ v1;rw[v1];obtain⟨hs1,_⟩:=hspot abI;obtain⟨ab,ao,az⟩:=a;simp only at hs1;subst hs1
       rw[cC,cC]at c1;simp only[Option.getD_some];have hj2:j<vs.length:=abI;rw[show vs.getD j undef=vs[j] by simp[hj2]]
       rw[List.getElem?_eq_getElem hj2,Nat.add_assoc]at c1;exact c1
      ·obtain⟨_,vs,v1,v2⟩:=e2 i hi
       rw[v1];exact(v2.get j hj).1
      ·obtain⟨_,vs,v1,v2⟩:=e2 i hi
       rw[v1];have:=(cell 0 abI _ _ v1).2;exact(v2.get j (by rw[v2.len];omega)).2
    ·cases h
  |strct fs=>
   rw[hk]at hd hp;simp only at hd;simp only[Bool.and_eq_true]at hp;obtain⟨gs,hd,hg,_⟩:=hd;rw[hd]at h;have hq:cs.length=P.cellsOf t∧∃xs,(gs.toList.mapM fun f=>DataW.trod enc P w 0 sp held m f.type ((cs.drop f.offset).take (P.cellsOf f.type)))=some xs:=by
    split at h<;>try (simp_all;done)
    rename_i fs' heq
    obtain rfl:gs=fs' :=by simpa using heq
    split at h
    ·rename_i hl
     obtain⟨xs,h1,_⟩:=Option.map_eq_some_iff.1 h;exact⟨hl,xs,h1⟩
    ·cases h
   obtain⟨hl,xs,hxs⟩:=hq;rw[rJ hU hz]at hl;obtain⟨ys,y1,y2,y3⟩:=Lc hU (U t).sz cs hl ih hall fs gs.toList 0 hg (fun f hf=>by have:=List.all_eq_true.1 hp.1 f hf;simpa using this) hp.2 (fun f hf=>by
    obtain⟨i,hi,rfl⟩:=List.mem_iff_getElem.1 hf;have hi2:i<xs.length:=by have:=mapM_some_length hxs;omega
    have:=mapM_some_get hxs i _ (List.getElem?_eq_getElem hi);rw[List.getElem?_eq_getElem hi2]at this;exact⟨_,this⟩)
   exact⟨_,.strct ys hk y1 y2,y3⟩
  |_=>rw[hk]at hp;simp at hp
theorem xo(hU:∀t,aN P U t)(L:List TypeId)(hL:Fl U L=true){sp:Nat→Bool}{held:Bool}(hsp:∀b,sp b=true){t:TypeId}{v:Value}{d:DataW H}{p:List MemPlace}(ht:t∈L){base:Nat}{rc:Reach}
  (hv:Value.okWide P w rc base t v) (h:DataW.Trod enc P w 0 sp held t v d p):∃x,Dat U t x∧Rep (cx0 w) x v:=by
 obtain⟨fuel,h⟩:=h;obtain⟨x,x1,x2⟩:=Co hU L hL hsp fuel t _ _ ht h;refine⟨x,x1, ?_⟩;have hd:=(hU t).desc;cases x1 with
 |strct ys hk hn hx=>
  rw[hk]at hd;obtain⟨gs,hd,_⟩:=hd;unfold Value.okWide at hv;rw[hd]at hv;obtain⟨cs,rfl,_⟩:=hv;have hl:=x2.len;simp only[AV.cells,Value.cells]at hl x2;refine .agg _ _ abJ (fun i hi=> ?_) (fun i hi=> ?_)
  ·have:=(x2.get i hi).1
   simpa using this
  ·have:=(x2.get i hi).2
   simpa using this
 |bool b hk=>
  exact agc
 |int n hk hw=>
  exact agc
 |str l hk hl=>
  exact agc
 |slice xs hk hx hl=>
  exact agc
end
section
variable {P : Program} {U : TypeId → TI} {n : Nat} {ρ : Env} {h h' h2 : Heap} {e tb : TypeId} {y v : AV} {xs zs : List AV} {l : List UInt8} {Q : AV → Heap → Prop}
def hm1(id:Nat)(k:Blk):Heap:=upd (fun _=>none) id (some k)
@[go_sem] theorem fQ(id:Nat)(k:Blk):hm1 id k id=some k:=ah ..
theorem Sub.hm1{id:Nat}{k:Blk}(h1:h id=some k):Sub (hm1 id k) h:=fun j b hj=>by
 unfold Ab.hm1 at hj
 grind [ah,ag]
theorem fC.new{id:Nat}{k:Option Blk}(hid:h id=none):fC h (upd h id k):=((Sub.refl h).new hid k).fF
theorem nq.accs{h0:Heap}(hs:Sub h0 h)(hk:∀y' h'',Acc U e h0 h'' y' (xs++zs)→fC h h''→Q y' h''):nq U h xs zs e Q:=
 .own fun id hid=>hk _ _ ⟨hs.new hid _,.inr ⟨id,hs.none hid,rfl,by rw[ah,abC]⟩⟩ (.new hid)
end
section
variable {P : Program} {U : TypeId → TI} {n : Nat} {ρ : Env} {h h' : Heap} {tb : TypeId} {y : AV} {l : List UInt8}
theorem Bytes.from(hb:Bytes tb h y l){lo:Operand}{m:Int}{x:IntKind}{K:AV→Prop}(j:Nat)(hm:ev ρ lo=some (.v (.int x m)))(hj:m=j)(hl:j≤l.length)(hz:(U tb).sz=1)(hk:∀z,Bytes tb h z (l.drop j)→K z):
  gG U ρ y (some lo) none none K (.slice tb):=by
 subst hj;rcases hb with⟨q,rfl⟩|⟨id,off,cs,rfl,h1,h2,h3⟩
 ·rw[DJ,hm]
  refine⟨abI,by grind [jh], ?_⟩
  refine⟨abI,abJ, ?_⟩;rw[←List.map_drop];exact hk _ (.sl _ _)
 ·rw[qW]
  refine⟨abI,fun _=>hz, ?_⟩
  simp only[lP,fz,hm,cZ,mJ];refine⟨abI,abI,abI, ?_⟩;simp only[Int.toNat_natCast,hz,Nat.mul_one];have e:(l.drop j).length=l.length - j:=abQ;have:=hk (.oa id (off+j) (l.drop j).length) (by grind [oa,List.map_drop,List.drop_drop,List.drop_take])
  rwa [e]at this
theorem Bytes.cut(hb:Bytes tb h y l){lo hi:Operand}{m m2:Int}{x x2:IntKind}{K:AV→Prop}(j k:Nat)(hm:ev ρ lo=some (.v (.int x m)))(hj:m=j)(hm2:ev ρ hi=some (.v (.int x2 m2)))(hk2:m2=k)(hjk:j≤k)(hl:k≤l.length)(hz:(U tb).sz=1)
  (hk:∀z,Bytes tb h z ((l.drop j).take (k - j))→K z):gG U ρ y (some lo) (some hi) none K (.slice tb):=by
 subst hj;subst hk2
 rcases hb with⟨q,rfl⟩|⟨id,off,cs,rfl,h1,h2,h3⟩
 ·rw[I3,hm]
  refine⟨abI,by grind [jh], ?_⟩
  simp only[cZ,mJ,hm2,Int.toNat_natCast,Sx];refine⟨abI,abI,abJ, ?_⟩;rw[←List.map_drop,←List.map_take];exact hk _ (.sl _ _)
 ·rw[qW]
  refine⟨abI,fun _=>hz, ?_⟩
  simp only[fz,hm,cZ,mJ,hm2];refine⟨abI,abI,abI, ?_⟩;simp only[Int.toNat_natCast,hz,Nat.mul_one];have e:((l.drop j).take (k - j)).length=k - j:=abJ;have:=hk (.oa id (off+j) ((l.drop j).take (k - j)).length) (.oa h1 abI (by
   grind [List.map_take,List.map_drop,List.drop_drop,List.drop_take]))
  rwa [e]at this
end
theorem OZ(k:IntKind)(n:Nat)(hk:k.signed=false)(hn:n<2 ^ k.bits):k.wrap (n:Int)=n:=by
 cases k<;>simp[IntKind.signed]at hk<;>simp[IntKind.wrap,IntKind.signed,IntKind.bits]at hn⊢<;>omega
theorem w32(n:Nat)(hn:n<4294967296):IntKind.u32.wrap (n:Int)=n:=OZ .u32 n rfl afn
theorem w8(n:Nat):IntKind.u8.wrap (n:Int)=(UInt8.ofNat n).toNat:=by
 rfl
theorem Au(w n:Nat):BitVec.ofInt w (n:Int)=BitVec.ofNat w n:=BitVec.ofInt_natCast ..
theorem L7(x y:BitVec 32):IntKind.u32.wrap (((BitVec.ofInt IntKind.u32.bits (x.toNat:Int) ^^^ BitVec.ofInt IntKind.u32.bits (y.toNat:Int)).toNat:Nat):Int)=((x ^^^ y).toNat:Int):=by
 have e:∀z:BitVec 32,BitVec.ofInt IntKind.u32.bits (z.toNat:Int)=z:=fun z=>by
  show BitVec.ofInt 32 (z.toNat:Int)=z
  simp
 rw[e,e];exact w32 _ (x ^^^ y).isLt
theorem Rb(x:BitVec 32):IntKind.u32.wrap (((BitVec.ofInt IntKind.u32.bits (x.toNat:Int) ^^^ BitVec.ofInt IntKind.u32.bits (3988292384:Int)).toNat:Nat):Int)=((x ^^^ 0xedb88320#32).toNat:Int):=L7 x 0xedb88320#32
theorem TG(x:BitVec 32):IntKind.u32.wrap (((BitVec.ofInt IntKind.u32.bits (if IntKind.u32.signed=true then -1 else IntKind.u32.max) ^^^ BitVec.ofInt IntKind.u32.bits (x.toNat:Int)).toNat:Nat):Int)=((~~~ x).toNat:Int):=by
 have:=L7 (BitVec.allOnes 32) x;exact acv
theorem SG(x:BitVec 32):IntKind.u32.wrap (((BitVec.ofInt IntKind.u32.bits (x.toNat:Int) &&& BitVec.ofInt IntKind.u32.bits (1:Int)).toNat:Nat):Int)=((x &&& 1#32).toNat:Int):=by
 have e:BitVec.ofInt IntKind.u32.bits (x.toNat:Int)=x:=by
  show BitVec.ofInt 32 (x.toNat:Int)=x
  simp
 rw[e];exact w32 _ (x &&& 1#32).isLt
theorem TV(x:BitVec 32):(x.toNat:Int).fdiv (2 ^ (min (1:Int).toNat IntKind.u32.bits))=((x>>>1).toNat:Int):=by
 show(x.toNat:Int).fdiv (2 ^ 1)=_
 grind [Int.fdiv_eq_ediv_of_nonneg,Nat.shiftRight_eq_div_pow]
theorem Ww(n:Nat)(k:Nat)(hk:k≤24):(n:Int).fdiv (2 ^ (min (k:Int).toNat IntKind.u32.bits))=((n / 2 ^ k:Nat):Int):=by
 grind [min,Int,IntKind.bits,Int.fdiv_eq_ediv_of_nonneg,Int.le_of_lt,Int.pow_pos]
theorem Wm(a b k:Nat)(ha:a<2 ^ k)(hk:k≤24)(hb:b<256):IntKind.u32.wrap (((BitVec.ofInt IntKind.u32.bits (a:Int)|||BitVec.ofInt IntKind.u32.bits ((b*2 ^ k:Nat):Int)).toNat:Nat):Int)=((a+b*2 ^ k:Nat):Int):=by
 have h24:2 ^ k≤2 ^ 24:=Nat.pow_le_pow_right abL hk;have hbk:b*2 ^ k≤255*2 ^ 24:=Nat.mul_le_mul abI h24;have e1:(BitVec.ofNat 32 a|||BitVec.ofNat 32 (b*2 ^ k)).toNat=a+b*2 ^ k:=by
  exact agy
 show IntKind.u32.wrap (((BitVec.ofInt 32 (a:Int)|||BitVec.ofInt 32 ((b*2 ^ k:Nat):Int)).toNat:Nat):Int)=_
 rw[Au,Au,e1]
 grind [w32]
theorem TU(b k:Nat)(hk:k≤24)(hb:b<256):IntKind.u32.wrap ((b:Int)*2 ^ (min (k:Int).toNat IntKind.u32.bits))=((b*2 ^ k:Nat):Int):=by
 have h24:2 ^ k≤2 ^ 24:=Nat.pow_le_pow_right abL hk;have hbk:b*2 ^ k≤255*2 ^ 24:=Nat.mul_le_mul abI h24;have:min (k:Int).toNat IntKind.u32.bits=k:=afn;rw[this,show((b:Int)*2 ^ k)=((b*2 ^ k:Nat):Int) by simp]
 exact w32 _ abI
section
variable {U : TypeId → TI} {ty : TypeId} {K : AV → Prop}
@[go_sem high] theorem abw(x y:BitVec 32):cc U .xor ty (.v (.int .u32 (x.toNat:Int))) (.v (.int .u32 (y.toNat:Int))) K=K (.v (.int .u32 ((x ^^^ y).toNat:Int))):=by rw[Oi,L7]
@[go_sem high] theorem Zn(x:BitVec 32):cc U .xor ty (.v (.int .u32 (x.toNat:Int))) (.v (.int .u32 3988292384)) K=K (.v (.int .u32 ((x ^^^ 0xedb88320#32).toNat:Int))):=by rw[Oi,Rb]
@[go_sem high] theorem VP(x:BitVec 32):cc U .and ty (.v (.int .u32 (x.toNat:Int))) (.v (.int .u32 1)) K=K (.v (.int .u32 ((x &&& 1#32).toNat:Int))):=by rw[JO,SG]
@[go_sem high] theorem VR(x:BitVec 32)(kk:IntKind):cc U .shr ty (.v (.int .u32 (x.toNat:Int))) (.v (.int kk 1)) K=K (.v (.int .u32 ((x>>>1).toNat:Int))):=by grind [JP,TV]
@[go_sem high] theorem WB(x:BitVec 32):unA .xor (.v (.int .u32 (x.toNat:Int))) K=K (.v (.int .u32 ((~~~ x).toNat:Int))):=by rw[wL,TG]
theorem JV(n k:Nat)(kk:IntKind)(hk:k≤24):cc U .shr ty (.v (.int .u32 (n:Int))) (.v (.int kk (k:Int))) K=K (.v (.int .u32 ((n / 2 ^ k:Nat):Int))):=by grind [JP,Ww]
theorem JU(a b k:Nat)(ha:a<2 ^ k)(hk:k≤24)(hb:b<256):cc U .or ty (.v (.int .u32 (a:Int))) (.v (.int .u32 ((b*2 ^ k:Nat):Int))) K=K (.v (.int .u32 ((a+b*2 ^ k:Nat):Int))):=by grind [SJ,Wm]
theorem Ej(b k:Nat)(kk:IntKind)(hk:k≤24)(hb:b<256):cc U .shl ty (.v (.int .u32 (b:Int))) (.v (.int kk (k:Int))) K=K (.v (.int .u32 ((b*2 ^ k:Nat):Int))):=by grind [Oh,TU]
end
section
variable {P : Program} {U : TypeId → TI} {n : Nat} {ρ : Env} {h0 h h' : Heap} {tb : TypeId} {y v : AV} {l m : List UInt8} {Q : AV → Heap → Prop}
end
section
variable {U : TypeId → TI} {ty : TypeId} {K : AV → Prop}
end
section
variable {P : Program} {U : TypeId → TI} {n : Nat} {ρ : Env} {h : Heap}
section
variable (all : List Oper) (bs : List Bool) (r : List Oper) (K : Env → Heap → Prop)
end
theorem ai.of_wp{f:FuncId}{fn:Func}{c:Code}{args:List AV}{Q:AV→Heap→Prop}(hU:∀t,aN P U t)(hf:P.funcs[f]? =some fn)(hb:fn.body=some c)
  (hn : (fn.name == "runtime.NumGoroutine") = false) (m : Nat) (hm' : fn.ntmps = m) (rs : List ResultVar) (hr : fn.results.toList = rs) (hl : args.length ≤ m)
  (hk:WP P m c (xw args) h (vg U rs Q)):ai P f args h Q:=by
 subst hm';subst hr
 exact ai.KZ hU hf hb hn hl fun _=>hk
end
section
variable {P : Program} {U : TypeId → TI} {n : Nat} {ρ : Env} {h : Heap}
def KCut(I:Env→Heap→Prop)(K:Exit→Env→Heap→Prop):Exit→Env→Heap→Prop:=KSeq I K
@[go_sem↓] theorem Sv(I:Env→Heap→Prop)(K:Exit→Env→Heap→Prop):KCut I K .ret ρ h=K .ret ρ h:=rfl
theorem WP.cut{c d:Code}{K:Exit→Env→Heap→Prop}(I:Env→Heap→Prop)(hc:WP P n c ρ h (KCut I K))(hd:∀ρ h,I ρ h→WP P n d ρ h K):WP P n (.seq c d) ρ h K:=
 WP.seq (hc.weaken fun e ρ h hk=>by
  cases e with
  |normal=>exact hd ρ h hk
  |_=>exact hk)
theorem WP.vc(hU:∀t,aN P U t)(hm:P.follows .mixedOrders=true){c:Code}{K:Exit→Env→Heap→Prop}(hk:bF P U n c ρ h K):WP P n c ρ h K:=dz hU hm c ρ h K hk
def KNext(P:Program)(n:Nat)(d:Code)(K:Exit→Env→Heap→Prop):Exit→Env→Heap→Prop:=KSeq (WP P n d · · K) K
@[go_sem↓] theorem Mm(d:Code)(K:Exit→Env→Heap→Prop):KNext P n d K .normal ρ h=WP P n d ρ h K:=rfl
@[go_sem↓] theorem Rr(d:Code)(K:Exit→Env→Heap→Prop):KNext P n d K .ret ρ h=K .ret ρ h:=rfl
@[go_sem↓] theorem Pa(d:Code)(K:Exit→Env→Heap→Prop)(i:Nat):KNext P n d K (.goto i) ρ h=K (.goto i) ρ h:=rfl
theorem WP.one(hU:∀t,aN P U t)(hm:P.follows .mixedOrders=true){c d:Code}{K:Exit→Env→Heap→Prop}(hk:bF P U n c ρ h (KNext P n d K)):WP P n (.seq c d) ρ h K:=WP.seq (dz hU hm c ρ h _ hk)
end
section
variable {P : Program} {U : TypeId → TI} {n : Nat} {ρ : Env} {h : Heap}
variable {d : Option Tmp} {t : TypeId} {p : String} {a : Array Edge} {g : Option (Nat × Bool)} {Q : AV → Heap → Prop} {k : AV → Prop}
@[go_sem] theorem Uz(x y:TypeId)(k:TK→Prop):atK (.map x y) k=k (.map x y):=rfl
@[go_sem] theorem SQ(i:Nat):AV.cells (.mp i)= [.mp i]:=rfl
@[go_sem] theorem V2(i m:Nat):fit (.mp i) m=(m=1):=rfl
@[go_sem] theorem U9(l:List UInt8):gr .str (.s l)=(l.length≤maxLen):=rfl
def mpL(b:Blk)(f:List (AV×AV)→Prop):Prop:=match b with
 |.mp m=>f m
 |_=>False
@[congr] theorem R8{b b' :Blk}{f:List (AV×AV)→Prop}(e:b=b'):mpL b f=mpL b' f:=by rw[e]
@[go_sem↓] theorem Wb(m:List (AV×AV))(f:List (AV×AV)→Prop):mpL (.mp m) f=f m:=rfl
def zM(tk:TK)(m:List (AV×AV)):Prop:=∀p∈m,gr tk p.1
def JD(ti:TI):Prop:=ti.sz≠0∨ti.k= .strct []
def C5(U:TypeId→TI)(h:Heap)(u v:AV)(ok:Bool)(k:AV→Prop)(tk:TK):Prop:=match tk,u with
 |.map kt e,.mp id=>gr (U kt).k v∧JD (U e)∧aE (h id) fun b=>mpL b fun m=>zM (U kt).k m∧k (xZ U e m v ok)
 |_,_=>False
@[congr] theorem OD{u u' v v' :AV}{ok:Bool}{k:AV→Prop}{tk:TK}(h1:u=u')(h2:v=v'):C5 U h u v ok k tk=C5 U h u' v' ok k tk:=by grind
@[go_sem↓] theorem TA(kt e:TypeId)(id:Nat)(v:AV)(ok:Bool):C5 U h (.mp id) v ok k (.map kt e)=(gr (U kt).k v∧JD (U e)∧aE (h id) fun b=>mpL b fun m=>zM (U kt).k m∧k (xZ U e m v ok)):=rfl
@[go_sem↓] theorem TM(mt:TypeId)(x y:Operand)(ok:Bool):aY P U ρ h ⟨d,.lookup mt x y ok,t,p,a,g⟩ Q=aE (ev ρ x) fun u=>aE (ev ρ y) fun v=>atK (U mt).k (C5 U h u v ok (atH Q h)):=by
 simp only[aY,pv,bS,atK]
 congr 1
 funext u
 congr 1
 funext v
 cases (U mt).k with
 |map kt e=>
  cases u with
  |mp id=>
   simp only[C5]
   congr 2
   exact af2
  |_=>rfl
 |_=>rfl
def Ll(U:TypeId→TI)(h:Heap)(u v w:AV)(Q:AV→Heap→Prop)(tk:TK):Prop:=match tk,u with
 |.map kt e,.mp id=>gr (U kt).k v∧aE (h id) fun b=>mpL b fun m=>zM (U kt).k m∧Q (.v undef) (upd h id (some (.mp (zA m v w))))
 |_,_=>False
@[congr] theorem QG{u u' v v' w w' :AV}{tk:TK}(h1:u=u')(h2:v=v')(h3:w=w'):Ll U h u v w Q tk=Ll U h u' v' w' Q tk:=by grind
@[go_sem↓] theorem Vn(kt e:TypeId)(id:Nat)(v w:AV):Ll U h (.mp id) v w Q (.map kt e)=(gr (U kt).k v∧aE (h id) fun b=>mpL b fun m=>zM (U kt).k m∧Q (.v undef) (upd h id (some (.mp (zA m v w))))):=rfl
@[go_sem↓] theorem OJ(mt:TypeId)(x y z:Operand):aY P U ρ h ⟨d,.mapUpdate mt x y z,t,p,a,g⟩ Q=aE (ev ρ x) fun u=>aE (ev ρ y) fun v=>aE (ev ρ z) fun w=>atK (U mt).k (Ll U h u v w Q):=by
 simp only[aY,bS,atK]
 congr 1
 funext u
 congr 1
 funext v
 congr 1
 funext w
 cases (U mt).k with
 |map kt e=>
  cases u with
  |mp id=>
   simp only[Ll]
   congr 1
   exact af2
  |_=>rfl
 |_=>rfl
def Sz(h:Heap)(Q:AV→Heap→Prop):Prop:=∀id,h id=none→Q (.mp id) (upd h id (some (.mp [])))
@[go_sem↓] theorem Sj(mt:TypeId):aY P U ρ h ⟨d,.makeMap mt none,t,p,a,g⟩ Q=Sz h Q:=by
 simp only[aY,GO,true_and];rfl
end
def zz(ls:List (List UInt8)):List (AV×AV):=ls.map fun l=>(.s l,.agg [])
theorem CI(ls:List (List UInt8))(l:List UInt8):getM (zz ls) (.s l)=if l∈ls then some (.agg [])else none:=by
 induction ls with
 |nil=>rfl
 |cons x ls ih=>
  simp only[getM,zz,List.map_cons,List.find?_cons,rQ]at ih⊢
  grind
theorem LD{ls:List (List UInt8)}{l:List UInt8}(hn:l∉ls):zA (zz ls) (.s l) (.agg [])=zz (ls++ [l]):=by
 unfold zA;rw[CI,if_neg hn];simp[zz]
theorem IA(U:TypeId→TI)(e:TypeId)(he:(U e).sz=0)(ls:List (List UInt8))(l:List UInt8):xZ U e (zz ls) (.s l) true= .tup [.agg [],.b (decide (l∈ls))]:=by
 simp only[xZ,CI,gy,he,if_true]
 grind
theorem Iy{ls:List (List UInt8)}(h:∀l∈ls,l.length≤maxLen):zM .str (zz ls):=fun p hp=>by
 obtain⟨l,hl,rfl⟩:=List.mem_map.1 hp;exact h l hl
section
variable {P : Program} {f : FuncId} {args : List AV} {h h' : Heap} {Q : AV → Heap → Prop}
theorem Ext.below{c:Cx}{w' :World}(hb:Go.RowKit.Below c.w.heap.size c.w w'):Ext c {c with w:=w'} where
 os:=hb.os
 tape:=hb.tape
 output:=hb.output
 size:=hb.size
 block:=fun b h _=>hb.block b h
 cell:=fun b o h _=>by
  simp only[World.cell?,hb.block b h]
 shape:=fun b cs t fr h=>⟨cs,fr,(hb.block b (cQ h)).trans h,rfl⟩
 steal:=fun _ _ _ h=>h
 obj:=fun _ cs _ h=>⟨rfl,cs,h,rfl⟩
 spare:=fun _ n _ h=>⟨n,h,.inl ⟨rfl,rfl⟩⟩
 mp:=fun _ m h=>⟨rfl,m,h⟩
 ro:=fun _ _ _ h=>⟨rfl,h⟩
theorem Good.below{c:Cx}(g:Good c){w' :World}(hb:Go.RowKit.Below c.w.heap.size c.w w'):Good {c with w:=w'} where
 fin:=g.fin
 inj:=g.inj
 obj:=fun id cs t h=>by
  obtain⟨vs,a1,a2,a3⟩:=g.obj id cs t h;exact⟨vs,(hb.block _ (cQ a1)).trans a1,a2,fun j hj=>⟨(a3 j hj).1.mono (.below hb),(a3 j hj).2⟩⟩
 spare:=fun id n sz h=>by
  obtain⟨a0,vs,t,fr,a1,a2⟩:=g.spare id n sz h;exact⟨a0,vs,t,fr,(hb.block _ (cQ a1)).trans a1,a2⟩
 mp:=fun id m h=>by
  obtain⟨es,cl,a1,a2,a3⟩:=g.mp id m h;exact⟨es,cl,(hb.block _ (cQ a1)).trans a1,a2,fun i hi hi' =>⟨(a3 i hi hi').1,(a3 i hi hi').2.mono (.below hb)⟩⟩
 keys:=g.keys
 ro:=fun id b vs h=>g.mQ (.below hb) h
theorem ai.lib{X:AV}(hc:callable P f)(hf:∀c (vs:Array Value),Sub h c.h→Good c→vs.size=args.length→(∀i (hi:i<args.length),Rep c args[i] (vs.getD i undef))→
  Calls P f vs c.w fun e w' =>(∃u,e= .returned u∧∀c',Ext c c'→Rep c' X u)∧Go.RowKit.Below c.w.heap.size c.w w'):ai P f args h fun r h' =>r=X∧h' =h:=by
 refine fun c vs hs g h1 h2=> .inl ⟨hc,(hf c vs hs g h1 h2).mono ?_⟩
 rintro e w' ⟨⟨u,rfl,hu⟩,hb⟩
 exact⟨u,rfl,{c with w:=w'},X,h,rfl,g.below hb,.below hb,hu _ (.below hb),hs,rfl,rfl⟩
def Tab(h:Heap)(b:Nat)(vs:List Value):Prop:=∃id,h id=some (.ro b vs)
theorem Tab.sub{b:Nat}{vs:List Value}(ht:Tab h b vs)(hs:Sub h h'):Tab h' b vs:=let ⟨id,hi⟩:=ht;⟨id,hs _ _ hi⟩
end
def wu(ts:List (Nat×List Value)):Heap:=fun i=>(ts[i]?).map fun p=> .ro p.1 p.2
def cxT(w:World)(ts:List (Nat×List Value)):Cx:=⟨w,fun i=>⟨((ts[i]?).map (·.1)).getD 0,0,none⟩,wu ts⟩
theorem Lb(w:World)(ts:List (Nat×List Value))(b o:Nat):¬owned (cxT w ts) b o:=by
 rintro⟨id,k,h,_,h3⟩
 simp only[cxT,wu,Option.map_eq_some_iff]at h;obtain⟨p,_,rfl⟩:=h;exact h3
theorem To(w:World)(ts:List (Nat×List Value))(hd:ts.Pairwise fun p q=>p.1≠q.1)(ht:∀p∈ts,∃(t:TypeId) (fr:Nat×Nat),w.heap[p.1]? =some (.cells p.2.toArray t fr)):Good (cxT w ts) where
 fin:=⟨ts.length,fun id h=>by simp[cxT,wu,List.getElem?_eq_none h]⟩
 inj:=fun i j k l h1 h2 hne=>by
  simp only[cxT,wu,Option.map_eq_some_iff]at h1 h2;obtain⟨p,hp,rfl⟩:=h1;obtain⟨q,hq,rfl⟩:=h2;simp only[cxT,hp,hq,Option.map_some,Option.getD_some];obtain⟨hi,rfl⟩:=List.getElem?_eq_some_iff.1 hp
  grind [List.pairwise_iff_getElem,Nat.lt_or_gt_of_ne]
 obj:=fun id cs t h=>by
  simp_all [cxT,wu,Option.map_eq_some_iff]
 spare:=fun id n sz h=>by
  simp_all [cxT,wu,Option.map_eq_some_iff]
 mp:=fun id m h=>by
  simp_all [cxT,wu,Option.map_eq_some_iff]
 keys:=fun id m h=>by
  simp_all [cxT,wu,Option.map_eq_some_iff]
 ro:=fun id b vs h=>by
  simp only[cxT,wu,Option.map_eq_some_iff]at h;obtain⟨p,hp,h⟩:=h;cases h;refine⟨by grind [cxT],ht p abJ⟩
theorem ai.Py{P:Program}{f:FuncId}{args:List AV}{b:Value}{vs:Array Value}{w:World}{ts:List (Nat×List Value)}(hc:callable P f)(hf:ai P f args (wu ts) fun r _=>r= .v b)(hd:ts.Pairwise fun p q=>p.1≠q.1)
  (ht:∀p∈ts,∃(t:TypeId) (fr:Nat×Nat),w.heap[p.1]? =some (.cells p.2.toArray t fr)) (hv:vs.size=args.length) (hr:∀i (hi:i<args.length),Rep (cx0 w) args[i] (vs.getD i undef)):
  Calls P f vs w fun e w' =>e= .returned b∧Go.RowKit.Below w.heap.size w w' :=by
 have hE:Ext (cx0 w) (cxT w ts):=⟨rfl,rfl,rfl,Nat.le_refl _,fun _ _ _=>rfl,fun _ _ _ _=>rfl,fun _ cs _ fr h=>⟨cs,fr,h,rfl⟩,fun b o _ h=>(Lb w ts b o h).elim,
  fun _ _ _ h=>acD,fun _ _ _ h=>acD,fun _ _ h=>acD,fun _ _ _ h=>acD⟩
 refine((hf (cxT w ts) vs (fun _ _ h=>h) (To w ts hd ht) hv fun i hi=>(hr i hi).mono hE).calls hc).mono ?_
 rintro e w' ⟨u,rfl,c',x,h',rfl,g',hE,hx,hs,rfl⟩
 rw[hx.bR];exact⟨rfl,hE.os,hE.tape,hE.output,hE.size,fun k hk=>hE.block k hk fun o=>Lb w ts k o⟩
mutual
def strip:AV→AV
 |.sl xs _=> .sl (fK xs) .no
 |.agg xs=> .agg (fK xs)
 |.tup xs=> .tup (fK xs)
 |.v x=> .v x
 |.s l=> .s l
 |.pe x o=> .pe x o
 |.ptr i o=> .ptr i o
 |.oa i o l=> .oa i o l
 |.ifc t x=> .ifc t x
 |.fn f c=> .fn f c
 |.mp i=> .mp i
 |.ob i o l c s=> .ob i o l c s
def fK:List AV→List AV
 | []=>[]
 |x::r=>strip x::fK r
end
theorem eR:∀xs:List AV,(fK xs).length=xs.length
 | []=>rfl
 |x::r=>by simp[fK,eR r]
theorem gp:∀(xs:List AV) (i:Nat) (h1:i<xs.length) (h2:i<(fK xs).length),(fK xs)[i]=strip xs[i]
 |x::r,0,h1,h2=>abW
 |x::r,i+1,h1,h2=>by simpa[fK]using gp r i abJ (by grind [fK])
theorem vO(x:AV):(strip x).cells=match x with|.agg xs=>fK xs|_=>[strip x]:=by
 cases x<;>simp[strip,AV.cells]
mutual
theorem fc:∀x:AV,Weak x (strip x)
 |.sl xs p=> .deep _ _ p (eR xs).symm (fun i h1 h2=>by
    rw[gp xs i h1 h2,vO];have:=mU xs i h1;cases hx:xs[i]<;>simp[AV.cells,eR])
   (fun i h1 h2 j h3 h4=>by
    have hw:=mU xs i h1;have e:=gp xs i h1 h2;exact hw (fK xs)[i] e j h3 h4)
 |.agg xs=> .agg _ _ (eR xs).symm fun i h1 h2=>aec
 |.tup xs=> .tup _ _ (eR xs).symm fun i h1 h2=>aec
 |.v x=> .refl _
 |.s l=> .refl _
 |.pe x o=> .refl _
 |.ptr i o=> .refl _
 |.oa i o l=> .refl _
 |.ifc t x=> .refl _
 |.fn f c=> .refl _
 |.mp i=> .refl _
 |.ob i o l c s=> .refl _
theorem kW:∀(xs:List AV) (i:Nat) (h:i<xs.length),Weak xs[i] (strip xs[i])
 |x::r,0,h=>fc x
 |x::r,i+1,h=>kW r i (by simpa using h)
theorem mU:∀(xs:List AV) (i:Nat) (h:i<xs.length) (y:AV),y=strip xs[i]→∀(j:Nat) (h3:j<xs[i].cells.length) (h4:j<y.cells.length),Weak xs[i].cells[j] y.cells[j]
 |x::r,0,h,y,e,j,h3,h4=>FM x y e j h3 h4
 |x::r,i+1,h,y,e,j,h3,h4=>mU r i (by simpa using h) y e j h3 h4
theorem FM:∀(x y:AV),y=strip x→∀(j:Nat) (h3:j<x.cells.length) (h4:j<y.cells.length),Weak x.cells[j] y.cells[j]
 |.agg xs,y,e,j,h3,h4=>by
  subst e;simp only[strip,AV.cells]at h4⊢;rw[gp xs j h3 h4];exact kW xs j h3
 |.sl xs p,y,e,j,h3,h4=>by
  subst e;simp only[strip,AV.cells,List.length_singleton]at h3 h4⊢;obtain rfl:j=0:=abI;exact .deep _ _ p (eR xs).symm (fun i h1 h2=>by
    rw[gp xs i h1 h2,vO];cases hx:xs[i]<;>simp[AV.cells,eR])
   (fun i h1 h2 j h3 h4=>mU xs i h1 _ (gp xs i h1 h2) j h3 h4)
 |.tup xs,y,e,j,h3,h4=>by
  subst e;simp only[strip,AV.cells,List.length_singleton]at h3 h4⊢;obtain rfl:j=0:=abI;exact .tup _ _ (eR xs).symm fun i h1 h2=>aec
 |.v x,y,e,j,h3,h4=>acU
 |.s l,y,e,j,h3,h4=>acU
 |.pe x o,y,e,j,h3,h4=>acU
 |.ptr i o,y,e,j,h3,h4=>acU
 |.oa i o l,y,e,j,h3,h4=>acU
 |.ifc t x,y,e,j,h3,h4=>acU
 |.fn f c,y,e,j,h3,h4=>acU
 |.mp i,y,e,j,h3,h4=>acU
 |.ob i o l c s,y,e,j,h3,h4=>acU
end
section
variable {P : Program} {U : TypeId → TI} {n : Nat} {ρ : Env} {h0 h h' : Heap} {tb : TypeId} {y v : AV} {xs zs : List AV} {Q : AV → Heap → Prop} {f : FuncId} {args : List AV}
def One(xs:List AV):Prop:=∀x∈xs,bx x=false
theorem ny{x:AV}(h:bx x=false):x.cells= [x]:=by cases x<;>first|rfl|(cases h)
theorem One.sized(h:One xs):Sized 1 xs:=fun z hz=>by rw[ny (h z hz)];rfl
theorem One.map{α:Type}{g:α→AV}(hg:∀a,bx (g a)=false)(l:List α):One (l.map g):=fun x hx=>by
 grind
def Ec(tb:TypeId)(h:Heap)(y:AV)(xs:List AV):Prop:=
 (∃q,y= .sl xs q)∨∃id off cs,y= .oa id off xs.length∧h id=some (.obj cs tb)∧off+xs.length≤cs.length∧(cs.drop off).take xs.length=xs
theorem Ec.sl(xs:List AV)(q:Perm):Ec tb h (.sl xs q) xs:=.inl ⟨q,rfl⟩
theorem Ec.len(hb:Ec tb h y xs)(e:TypeId)(k:AV→Prop):wg y k (.slice e)=k (.i xs.length):=by
 exact agG
def AtP(U:TypeId→TI)(tb:TypeId)(h:Heap)(p x:AV):Prop:=∀k:AV→Prop,mL U h tb p k=k x
theorem Ec.idx(hb:Ec tb h y xs)(ho:One xs){m:Int}{x:IntKind}{K:AV→Prop}(j:Nat)(hm:m=j)(hj:j<xs.length)(hz:(U tb).sz=1)(ha:(U tb).k.agg=false)
  (hk:∀p,AtP U tb h p xs[j]→K p):oe U y (.v (.int x m)) K (.slice tb):=by
 subst hm;have h1:=ho xs[j] abQ;rcases hb with⟨q,rfl⟩|⟨id,off,cs,rfl,g1,g2,g3⟩
 ·refine(uk ..).mpr ⟨abI, ?_⟩
  refine fm.at j hj (by grind [ny]) ?_
  refine hk _ fun k=> ?_
  simp_all [mL,JL,ny,List.length_cons,List.length_nil,Nat.zero_add,and_self,if_true]
 ·refine(Ag ..).mpr ⟨abI,abI,abI, ?_⟩
  refine hk _ fun k=> ?_
  have e1:cs[off+j]? =some xs[j]:=by
   grind
  simp only[mL,g1,cZ,BH,hz,Nat.mul_one,Int.toNat_natCast,Dl,ha,Br,e1];simp
def WrA(tb:TypeId)(h0 h:Heap)(y:AV)(xs:List AV):Prop:=
 Sub h0 h∧((xs= []∧y= .sl [] .full)∨∃id cs,h0 id=none∧y= .oa id 0 xs.length∧h id=some (.obj cs tb)∧xs.length≤cs.length∧cs.take xs.length=xs)
theorem WrA.nil(hs:Sub h0 h):WrA tb h0 h (.sl [] .full) []:=⟨hs,.inl ⟨rfl,rfl⟩⟩
theorem WrA.seq(hw:WrA tb h0 h y xs):Ec tb h y xs:=by
 obtain⟨_,⟨rfl,rfl⟩|⟨id,cs,_,rfl,h1,h2,h3⟩⟩:=hw
 ·exact ael
 ·exact .inr ⟨id,0,cs,rfl,h1,abI,abJ⟩
theorem WrA.sub(hw:WrA tb h0 h y xs)(hs:Sub h h'):WrA tb h0 h' y xs:=by
 obtain⟨h1,hw|⟨id,cs,a,e,b,c,d⟩⟩:=hw
 ·exact⟨h1.trans hs,.inl hw⟩
 ·exact⟨h1.trans hs,.inr ⟨id,cs,a,e,hs _ _ b,c,d⟩⟩
theorem WrA.base(hw:WrA tb h0 h y xs){id:Nat}(hid:h id=none)(b:Option Blk):WrA tb (upd h0 id b) (upd h id b) y xs:=by
 obtain⟨h1,hw⟩:=hw;have h2:Sub (upd h0 id b) (upd h id b):=fun j k hj=>by
  by_cases e:j=id
  ·grind [ah]
  ·rw[ag _ _ e]at hj⊢;exact h1 _ _ hj
 rcases hw with hw|⟨i,cs,a,e,c,d⟩
 ·exact⟨h2,.inl hw⟩
 ·have hne:i≠id:=fun hh=>by subst hh;rw[hid]at c;cases c
  exact⟨h2,.inr ⟨i,cs,ack,e,ack,d⟩⟩
theorem WrA.less(hw:WrA tb h' h y xs)(hs:Sub h0 h'):WrA tb h0 h y xs:=by
 obtain⟨h1,hw|⟨i,cs,a,e,c,d⟩⟩:=hw
 ·exact⟨hs.trans h1,.inl hw⟩
 ·exact⟨hs.trans h1,.inr ⟨i,cs,hs.none a,e,c,d⟩⟩
theorem WrA.len(hw:WrA tb h0 h y xs)(e:TypeId)(k:AV→Prop):wg y k (.slice e)=k (.i xs.length):=hw.seq.len e k
theorem WrA.idx(hb:WrA tb h0 h y xs)(ho:One xs){m:Int}{x:IntKind}{K:AV→Prop}(j:Nat)(hm:m=j)(hj:j<xs.length)(hz:(U tb).sz=1)(ha:(U tb).k.agg=false)
  (hk:∀p,AtP U tb h p xs[j]→K p):oe U y (.v (.int x m)) K (.slice tb):=hb.seq.idx ho j hm hj hz ha hk
theorem WrA.cut(hw:WrA tb h0 h y xs){hi:Operand}{m:Int}{x:IntKind}{K:AV→Prop}(j:Nat)(hm:ev ρ hi=some (.v (.int x m)))(hj:m=j)(hl:j≤xs.length)(hz:(U tb).sz=1)
  (hk:∀z,WrA tb h0 h z (xs.take j)→K z):gG U ρ y none (some hi) none K (.slice tb):=by
 subst hj;have hs:=hw.1;obtain⟨_,⟨rfl,rfl⟩|⟨id,cs,h1,rfl,h2,h3,h4⟩⟩:=hw
 ·rw[qB,fz,hm]
  refine⟨abI, ?_⟩;have:j=0:=abJ;subst this;refine⟨abI,abQ, ?_⟩;exact hk _ (.nil hs)
 ·rw[qW]
  refine⟨abI,fun _=>hz, ?_⟩
  simp only[lP,fz,hm,cZ,mJ];refine⟨abI,abI,abI, ?_⟩;have e:(xs.take j).length=j:=abJ;have:=hk (.oa id 0 (xs.take j).length) ⟨hs,.inr ⟨id,cs,h1,rfl,h2,abI,abJ⟩⟩;rw[e]at this;simpa using this
theorem WrA.app(hw:WrA tb h0 h y xs)(ho:One xs)(hoz:One zs)(hz:(U tb).sz=1)(hb:(U tb).bytes≠0)(hf:fit (U tb).zero 1)(hn:bx (U tb).zero=false)(hsrc:∀k:List AV→Prop,k zs→ic U tb h v k)
  (hlen:(xs.length+zs.length)*(U tb).bytes≤140737488355328) (hk:∀y' h',WrA tb h0 h' y' (xs++zs)→Q y' h'):apK U h y v Q (.slice tb):=by
 have hs:=hw.1;have one:Sized (U tb).sz zs:=by rw[hz];exact hoz.sized
 obtain⟨_,⟨rfl,rfl⟩|⟨id,cs,h1,rfl,h2,h3,h4⟩⟩:=hw
 ·refine(pG ..).mpr ⟨abI,hb,hsrc _ ⟨by simp[Sized],one,abI,fun hn' => ?_,fun hn' => ?_⟩⟩
  ·subst hn'
   exact hk _ _ (.nil hs)
  ·refine .oa hz hf hn hoz fun id k hid=> ?_
   refine hk _ _ ⟨hs.new hid _,.inr ⟨id,_,hs.none hid, ?_,ah .., ?_, ?_⟩⟩
   ·simp
   ·simp
   ·simp
 ·refine⟨abI,hb,hz,hsrc _ ⟨abJ,hoz,abI, ?_⟩⟩
  rw[h2];refine⟨abI, ?_,hf,hn,fun hle=> ?_,fun id' k hid=> ?_⟩
  ·rw[List.drop_zero,h4];exact ho
  ·have hsub:Sub h0 (upd h id (some (.obj (over cs (0+xs.length) zs) tb))):=fun j b hj=>by
    by_cases e:j=id
    ·grind
    ·rw[ag _ _ e];exact hs _ _ hj
   have ho' :(over cs (0+xs.length) zs).length=cs.length:=gZ abI;refine hk _ _ ⟨hsub,.inr ⟨id,_,h1,abQ,ah ..,abJ, ?_⟩⟩;rw[over,Nat.zero_add,h4,abC,List.take_append_of_le_length abQ]
   grind
  ·refine hk _ _ ⟨hs.new hid _,.inr ⟨id',_,hs.none hid,abQ,ah .., ?_, ?_⟩⟩
   ·grind
   grind
end
end Go.Ab
namespace Go.Bf
open Go Go.Ab
abbrev Txt:=List UInt8
structure pz where
 cat:Int
 name:Txt
 must:Bool
structure bA where
 kind:Int
 n:Int
 s:Txt
structure bP where
 attr:pz
 op:Int
 val:bA
structure aO where
 op:Int
 val:bA
 attr:pz
structure cE where
 on:Int
 kind:Int
 arg:Txt
abbrev fT:=List (List (List bP))
structure cM where
 id:Txt
 deny:Bool
 tgt:fT
 cond:List aO
 obls:List cE
inductive bJ where
 |mk (id:Txt) (set:Bool) (alg:Int) (tgt:fT) (rules:List cM) (kids:List bJ) (obls:List cE)
def Ca(a:pz):AV:=.agg [.i a.cat,.s a.name,.b a.must]
def aR(v:bA):AV:=.agg [.i v.kind,.i v.n,.s v.s]
def dD(m:bP):AV:=.agg [.i m.attr.cat,.s m.attr.name,.b m.attr.must,.i m.op,.i m.val.kind,.i m.val.n,.s m.val.s]
def dw(m:aO):AV:=.agg [.i m.op,.i m.val.kind,.i m.val.n,.s m.val.s,.i m.attr.cat,.s m.attr.name,.b m.attr.must]
def jt(b:Bool):AV:=.b b
def bn(o:cE):AV:=.agg [.i o.on,.i o.kind,.s o.arg]
def iI(l:List bP):AV:=.sl (l.map dD) .no
def cO(l:List (List bP)):AV:=.sl (l.map iI) .no
def aU(t:fT):AV:=.sl (t.map cO) .no
def eV(l:List aO):AV:=.sl (l.map dw) .no
def aA(l:List cE):AV:=.sl (l.map bn) .no
def aB(r:cM):AV:=.agg [.s r.id,.b r.deny,aU r.tgt,eV r.cond,aA r.obls]
mutual
def aM:bJ→AV
 |.mk id set alg tgt rules kids obls=> .agg [.s id,.b set,.i alg,aU tgt,.sl (rules.map aB) .no,.sl (fk kids) .no,aA obls]
def fk:List bJ→List AV
 | []=>[]
 |k::r=>aM k::fk r
end
theorem aX:∀l:List bJ,fk l=l.map aM
 | []=>rfl
 |k::r=>by simp[fk,aX r]
def ltr(c:UInt8):Bool:=decide (97≤(c.toNat:Int)) && decide ((c.toNat:Int)≤122)
def dgt(c:UInt8):Bool:=decide (48≤(c.toNat:Int)) && decide ((c.toNat:Int)≤57)
def sA(c:UInt8)(i:Nat):Bool:=ltr c||(decide (i≠0) && (dgt c||(c.toNat:Int)==95))
def vi(l:Txt):Bool:=l.zipIdx.all fun p=>sA p.1 p.2
def br(l:Txt):Bool:=vi l && decide (1≤l.length) && decide (l.length≤16)
def pI(a:pz):Bool:=decide (1≤a.cat) && decide (a.cat≤4) && br a.name
def bI(v:bA):Bool:=
 if v.kind=1 then(v.n==0||v.n==1) && v.s== []
 else if v.kind=2 then v.s== []
 else if v.kind=3 then v.n==0 && decide (v.s.length≤64)
 else if v.kind=4 then decide (0≤v.n) && decide (v.n≤1099511627776) && v.s== []
 else if v.kind=5 then v.n==0 && br v.s
 else false
def j8(m:bP):Bool:=pI m.attr && decide (1≤m.op) && decide (m.op≤3) && bI m.val
def jN(n:Nat):Int:=if n=0 then 1 else if n>8 then 6 else 0
def gV{α:Type}(f:α→Int):List α→Int
 | []=>0
 |x::r=>if f x=0 then gV f r else f x
def vW(l:List bP):Int:=if jN l.length=0 then(if l.all j8 then 0 else 1)else jN l.length
def vX(l:List (List bP)):Int:=if jN l.length=0 then gV vW l else jN l.length
def kT(t:fT):Int:=if t.length>8 then 6 else gV vX t
def ig(op:Int):Option (List Bool):=
 if op=1∨op=2 then some []
 else if op=3∨op=4 then some [true]
 else if op=5 then some [true,false]
 else if op=11 then some [false]
 else if 6≤op∧op≤13 then some [false,false]
 else none
def zeroV(v:bA):Bool:=v.kind==0 && (v.n==0 && v.s== [])
def zeroAt(a:pz):Bool:=a.cat==0 && (a.name== [] && a.must==false)
def jv(n:aO):Bool:=
 if n.op=1 then bI n.val && zeroAt n.attr
 else if n.op=2 then pI n.attr && zeroV n.val
 else zeroV n.val && zeroAt n.attr
def ie(st:List Bool)(n:aO):Option (List Bool):=match ig n.op with
 |none=>none
 |some w=>if jv n=true∧w.length≤st.length∧st.drop (st.length - w.length)=w then some (st.take (st.length - w.length)++ [n.op==2])else none
def fJ(st:List Bool):List aO→Option (List Bool)
 | []=>some st
 |n::r=>match ie st n with
  |none=>none
  |some st' =>fJ st' r
def jM(l:List aO):Int:=if l.length>32 then 6 else match fJ [] l with
 |none=>1
 |some st=>if l= []∨st= [false]then 0 else 1
def qq(o:cE):Bool:=decide (1≤o.on) && decide (o.on≤2) && decide (1≤o.kind) && decide (o.kind≤4) && br o.arg
def gX(l:List cE):Int:=if l.length>8 then 6 else if l.all qq then 0 else 1
structure dP where
 met:List Txt
 rules:Nat
inductive Went where
 |bad (e:Int)
 |ok (m:dP)
def iT(m:dP)(s:Txt):Option dP:=if s∉m.met∧br s=true then some ⟨m.met++ [s],m.rules⟩else none
def Went.err:Went→Int
 |.bad e=>e
 |.ok _=>0
def need(e:Int)(w:Went):Went:=if e=0 then w else .bad e
def fX(m:dP)(r:cM):Went:=match iT m r.id with
 |none=> .bad 1
 |some m=>if m.rules+1>64 then .bad 6 else need (kT r.tgt) (need (jM r.cond) (need (gX r.obls) (.ok ⟨m.met,m.rules+1⟩)))
def eY(m:dP):List cM→Went
 | []=> .ok m
 |r::l=>match fX m r with
  |.bad e=> .bad e
  |.ok m=>eY m l
def eP(m:dP)(id:Txt)(set:Bool)(alg:Int)(tgt:fT)(nr nk:Nat)(obls:List cE):Went:=match iT m id with
 |none=> .bad 1
 |some m=>if alg<1∨alg>6 then .bad 1
  else if set=true∧nr>0∨set=false∧(nk>0∨alg=4)then .bad 1
  else need (kT tgt) (need (gX obls) (if nr>16∨nk>16 then .bad 6 else .ok m))
mutual
def jZ(m:dP)(d:Nat):bJ→Went
 |.mk id set alg tgt rules kids obls=>
  if d>4 then .bad 6 else match eP m id set alg tgt rules.length kids.length obls with
  |.bad e=> .bad e
  |.ok m=>match eY m rules with
   |.bad e=> .bad e
   |.ok m=>iF m (d+1) kids
def iF(m:dP)(d:Nat):List bJ→Went
 | []=> .ok m
 |k::r=>match jZ m d k with
  |.bad e=> .bad e
  |.ok m=>iF m d r
end
def gm(p:bJ):Int:=(jZ ⟨[],0⟩ 1 p).err
def Tp(n:Nat):UInt8:=if n<10 then UInt8.ofNat (48+n)else UInt8.ofNat (87+n)
def Fg(c:UInt8):Bool:=decide ((c.toNat:Int)<32)||decide (126<(c.toNat:Int))||(c.toNat:Int)==34||(c.toNat:Int)==92
def QH(c:UInt8):Txt:=if Fg c then [92,Tp (c.toNat / 16),Tp (c.toNat % 16)]else [c]
def QI(l:Txt):Txt:=[34]++(l.map QH).flatten++ [34]
def nM(v:bA):Txt:=
 if v.kind=1 then Lib.formatBool (v.n==1)else if v.kind=4 then [64]++Lib.itoa v.n else if v.kind=5 then [35]++v.s else if v.kind=3 then QI v.s else Lib.itoa v.n
theorem u7{α:Type}(l:List α)(i:Nat)(h:i<l.length):(l.take (i+1)).zipIdx=(l.take i).zipIdx++ [(l[i],i)]:=by
 grind [List.take_succ_eq_append_getElem,Nat.min_eq_left,Nat.le_of_lt]
theorem Ek(l:Txt)(i:Nat)(h:i<l.length):vi (l.take (i+1))=(vi (l.take i) && sA l[i] i):=by
 grind [vi,u7]
theorem Hx(l:Txt)(i:Nat)(h:i<l.length)(hb:sA l[i] i=false):vi l=false:=by
 rw[vi,List.all_eq_false];exact⟨(l[i],i),abJ,abJ⟩
theorem ME(c:UInt8):
  (decide (97≤(c.toNat:Int))=true∧decide ((c.toNat:Int)≤122)=true∧decide (48≤(c.toNat:Int))=true∧decide ((c.toNat:Int)≤57)=false∧((c.toNat:Int)==95)=false)∨
  (decide (97≤(c.toNat:Int))=false∧decide ((c.toNat:Int)≤122)=true∧decide (48≤(c.toNat:Int))=true∧decide ((c.toNat:Int)≤57)=true∧((c.toNat:Int)==95)=false)∨
  (decide (97≤(c.toNat:Int))=false∧decide ((c.toNat:Int)≤122)=true∧decide (48≤(c.toNat:Int))=true∧decide ((c.toNat:Int)≤57)=false∧((c.toNat:Int)==95)=true)∨
  (decide (97≤(c.toNat:Int))=false∧decide ((c.toNat:Int)≤122)=true∧decide (48≤(c.toNat:Int))=false∧decide ((c.toNat:Int)≤57)=true∧((c.toNat:Int)==95)=false)∨
  (decide (97≤(c.toNat:Int))=false∧decide ((c.toNat:Int)≤122)=true∧decide (48≤(c.toNat:Int))=true∧decide ((c.toNat:Int)≤57)=false∧((c.toNat:Int)==95)=false)∨
  (decide (97≤(c.toNat:Int))=true∧decide ((c.toNat:Int)≤122)=false∧decide (48≤(c.toNat:Int))=true∧decide ((c.toNat:Int)≤57)=false∧((c.toNat:Int)==95)=false):=by
 simp only[decide_eq_true_eq,decide_eq_false_iff_not,beq_iff_eq,beq_eq_false_iff_ne,ne_eq];omega
theorem vr{α:Type}{f:α→Int}{l:List α}{i:Nat}(h:i<l.length)(h0:gV f (l.take i)=0)(h1:f l[i]=0):gV f (l.take (i+1))=0:=by
 rw[List.take_succ_eq_append_getElem h];generalize l.take i=a at h0
 induction a with
 |nil=>grind [gV]
 |cons x r ih=>
  simp only[gV]at h0;split at h0
  ·simp_all [List.cons_append,gV,if_true]
  omega
theorem Ad{α:Type}{f:α→Int}{l:List α}{i:Nat}(h:i<l.length)(h0:gV f (l.take i)=0)(h1:f l[i]≠0):gV f l=f l[i]:=by
 induction l generalizing i with
 |nil=>cases h
 |cons x r ih=>
  cases i with
  |zero=>grind [gV]
  |succ i=>
   simp only[List.take_succ_cons,gV]at h0;split at h0
   ·rename_i hx
    simp only[gV,hx,if_true,List.getElem_cons_succ]
    grind
   omega
theorem Da{e x:Int}{w:Went}(h:need e w= .bad x)(hw:w= .bad x→x≠0):x≠0:=by
 grind [need]
theorem AL{m:dP}{r:cM}{e:Int}(h:fX m r= .bad e):e≠0:=by
 grind [fX,Da]
theorem Af{m:dP}{id:Txt}{set:Bool}{alg:Int}{tgt:fT}{nr nk:Nat}{obls:List cE}{e:Int}(h:eP m id set alg tgt nr nk obls= .bad e):e≠0:=by
 grind [eP,Da]
theorem oJ(m:dP):∀(l:List cM) (i:Nat),eY m l=(match eY m (l.take i)with
  |.bad e=> .bad e
  |.ok m1=>eY m1 (l.drop i))
 | [],i=>by simp[eY]
 |r::l,0=>abW
 |r::l,i+1=>by
  simp only[List.take_succ_cons,List.drop_succ_cons,eY];cases fX m r with
  |bad e=>rfl
  |ok m1=>simp only;exact oJ m1 l i
theorem vL{m m1:dP}{l:List cM}{i:Nat}(hi:i<l.length)(h:eY m (l.take i)= .ok m1):eY m (l.take (i+1))=fX m1 l[i]:=by
 rw[oJ m _ i,List.take_take,Nat.min_eq_left abI,h,List.take_succ_eq_append_getElem hi,List.drop_append_of_le_length abJ,List.drop_of_length_le abJ]
 grind [eY,fX]
theorem DF{m m1:dP}{l:List cM}{i:Nat}{e:Int}(hi:i<l.length)(h:eY m (l.take i)= .ok m1)(hr:fX m1 l[i]= .bad e):eY m l= .bad e:=by
 rw[oJ m l (i+1),vL hi h,hr]
theorem qk(m:dP)(d:Nat):∀(l:List bJ) (i:Nat),iF m d l=(match iF m d (l.take i)with
  |.bad e=> .bad e
  |.ok m1=>iF m1 d (l.drop i))
 | [],i=>by simp[iF]
 |r::l,0=>abW
 |r::l,i+1=>by
  simp only[List.take_succ_cons,List.drop_succ_cons,iF];cases jZ m d r with
  |bad e=>rfl
  |ok m1=>simp only;exact qk m1 d l i
theorem xP{m m1:dP}{d:Nat}{l:List bJ}{i:Nat}(hi:i<l.length)(h:iF m d (l.take i)= .ok m1):iF m d (l.take (i+1))=jZ m1 d l[i]:=by
 rw[qk m d _ i,List.take_take,Nat.min_eq_left abI,h,List.take_succ_eq_append_getElem hi,List.drop_append_of_le_length abJ,List.drop_of_length_le abJ]
 grind [iF,jZ]
theorem E2{m m1:dP}{d:Nat}{l:List bJ}{i:Nat}{e:Int}(hi:i<l.length)(h:iF m d (l.take i)= .ok m1)(hr:jZ m1 d l[i]= .bad e):iF m d l= .bad e:=by
 rw[qk m d l (i+1),xP hi h,hr]
theorem jY{l:List cE}(h:gX l=0):l.length≤8∧∀o∈l,qq o=true:=by
 grind [gX,List.all_eq_true]
theorem ya{n:Nat}(h:jN n=0):0<n∧n≤8:=by
 grind [jN]
theorem vt{α:Type}{f:α→Int}{l:List α}(h:gV f l=0):∀x∈l,f x=0:=by
 induction l with
 |nil=>simp
 |cons y r ih=>
  simp only[gV]at h
  grind
theorem zO{l:List bP}(h:vW l=0):0<l.length∧l.length≤8∧∀m∈l,j8 m=true:=by
 unfold vW at h;split at h
 ·simp_all [ya,List.all_eq_true]
 omega
theorem zP{l:List (List bP)}(h:vX l=0):0<l.length∧l.length≤8∧∀m∈l,vW m=0:=by
 unfold vX at h;split at h
 ·rename_i hm
  have:=ya hm;exact⟨this.1,this.2,vt h⟩
 omega
theorem AR{l:fT}(h:kT l=0):l.length≤8∧∀m∈l,vX m=0:=by
 grind [kT,vt]
def inV(v:bA):Prop:= -9223372036854775808≤v.n∧v.n≤9223372036854775807
def inA(l:List bP):Prop:=∀m∈l,inV m.val
def inY(l:List (List bP)):Prop:=∀a∈l,inA a
def inT(t:fT):Prop:=∀a∈t,inY a
def inL(l:List aO):Prop:=∀n∈l,inV n.val
def inR(r:cM):Prop:=inT r.tgt∧inL r.cond
mutual
def inP:bJ→Prop
 |.mk id set alg tgt rules kids obls=>inT tgt∧(∀r∈rules,inR r)∧inK kids
def inK:List bJ→Prop
 | []=>True
 |k::r=>inP k∧inK r
end
theorem Qc:∀l:List bJ,inK l↔∀k∈l,inP k
 | []=>by simp[inK]
 |k::r=>by simp[inK,Qc r]
theorem xy{l:List aO}(h:jM l=0)(hn:l≠ []):l.length≤32∧fJ [] l=some [false]:=by
 grind [jM]
def DE(r:cM):Prop:=br r.id=true∧kT r.tgt=0∧jM r.cond=0∧gX r.obls=0
mutual
def mc(d:Nat):bJ→Prop
 |.mk id set alg tgt rules kids obls=>d≤4∧br id=true∧1≤alg∧alg≤6∧(set=true→rules= [])∧(set=false→kids= []∧alg≠4)∧kT tgt=0∧gX obls=0∧rules.length≤16∧kids.length≤16∧(∀r∈rules,DE r)∧vE (d+1) kids
def vE(d:Nat):List bJ→Prop
 | []=>True
 |k::r=>mc d k∧vE d r
end
theorem qj(d:Nat):∀l:List bJ,vE d l↔∀k∈l,mc d k
 | []=>by simp[vE]
 |k::r=>by simp[vE,qj d r]
theorem yb{m m' :dP}{s:Txt}(h:iT m s=some m'):br s=true:=by
 grind [iT]
theorem qp{e:Int}{w:Went}{m:dP}(h:need e w= .ok m):e=0∧w= .ok m:=by
 grind [need]
theorem Lt{m m' :dP}{r:cM}(h:fX m r= .ok m'):DE r:=by
 unfold fX at h;split at h
 ·cases h
 ·rename_i m1 hm
  split at h
  ·cases h
  ·obtain⟨h1,h⟩:=qp h
   obtain⟨h2,h⟩:=qp h;obtain⟨h3,h⟩:=qp h;exact⟨yb hm,h1,h2,h3⟩
theorem AM:∀(l:List cM) (m m' :dP),eY m l= .ok m'→∀r∈l,DE r
 | [],_,_,_,r,hr=>abJ
 |x::l,m,m',h,r,hr=>by
  simp only[eY]at h;cases hx:fX m x with
  |bad e=>grind
  |ok m1=>
   rw[hx]at h;rcases List.mem_cons.1 hr with rfl|hr
   ·exact Lt hx
   ·exact AM l m1 m' h r hr
theorem Ip{m m1:dP}{id:Txt}{set:Bool}{alg:Int}{tgt:fT}{nr nk:Nat}{obls:List cE}(h:eP m id set alg tgt nr nk obls= .ok m1):
  iT m id=some m1∧1≤alg∧alg≤6∧(set=true→nr=0)∧(set=false→nk=0∧alg≠4)∧kT tgt=0∧gX obls=0∧nr≤16∧nk≤16:=by
 unfold eP at h;split at h
 ·cases h
 split at h
 ·cases h
 split at h
 ·cases h
 obtain⟨h3,h⟩:=qp h;obtain⟨h4,h⟩:=qp h
 grind
mutual
theorem GD:∀(p:bJ) (d:Nat) (m m' :dP),jZ m d p= .ok m'→mc d p
 |.mk id set alg tgt rules kids obls,d,m,m',h=>by
  simp only[jZ]at h;split at h
  ·cases h
  rename_i hd
  split at h
  ·cases h
  rename_i m1 h1
  split at h
  ·cases h
  rename_i m2 h2
  obtain⟨g1,g2,g3,g4,g5,g6,g7,g8,g9⟩:=Ip h1;simp only[mc];exact⟨abI,yb g1,g2,g3,fun e=>List.length_eq_zero_iff.1 (g4 e),fun e=>⟨List.length_eq_zero_iff.1 (g5 e).1,(g5 e).2⟩,g6,g7,g8,g9,AM _ _ _ h2,C0 kids (d+1) m2 m' h⟩
theorem C0:∀(l:List bJ) (d:Nat) (m m' :dP),iF m d l= .ok m'→vE d l
 | [],_,_,_,_=>by simp[vE]
 |k::r,d,m,m',h=>by
  simp only[iF]at h;split at h
  ·cases h
  rename_i m1 h1
  simp only[vE];exact⟨GD k d m m1 h1,C0 r d m1 m' h⟩
end
end Go.Bf
namespace Go.Ab
open Go
def hm2(i:Nat)(a:Blk)(j:Nat)(b:Blk):Heap:=upd (hm1 i a) j (some b)
theorem Sub.hm2{h:Heap}{i j:Nat}{a b:Blk}(h1:h i=some a)(h2:h j=some b):Sub (hm2 i a j b) h:=fun k c hk=>by
 unfold Ab.hm2 at hk
 by_cases e:k=j
 ·grind [ah]
 ·rw[ag _ _ e]at hk;exact Sub.hm1 h1 k c hk
theorem qP(i:Nat)(a:Blk)(j:Nat)(b:Blk):hm2 i a j b j=some b:=ah ..
theorem qO{i:Nat}(a:Blk){j:Nat}(b:Blk)(h:i≠j):hm2 i a j b i=some a:=by
 simp_all [hm2,ag,fQ]
theorem aH{h:Heap}{i j:Nat}{b:Blk}(e:upd h i (some b) j=none):j≠i:=fun hh=>by
 subst hh;rw[ah]at e;cases e
theorem Sub.put{h g:Heap}(hs:Sub h g){i:Nat}(hi:h i=Option.none)(x:Option Blk):Sub h (Ab.upd g i x):=fun k c hk=>by
 by_cases e:k=i
 ·grind
 ·rw[ag _ _ e];exact hs k c hk
theorem Sub.both{h g:Heap}(hs:Sub h g)(i:Nat)(x:Option Blk):Sub (Ab.upd h i x) (Ab.upd g i x):=fun k c hk=>by
 by_cases e:k=i
 ·grind [ah]
 ·rw[ag _ _ e]at hk⊢;exact hs k c hk
theorem Acc.put{U:TypeId→TI}{e:TypeId}{h h' :Heap}{y:AV}{xs:List AV}(ha:Acc U e h h' y xs){id:Nat}(hid:h id=Option.none){cs:List AV}{t:TypeId}(hob:h' id=some (.obj cs t))(x:Option Blk):Acc U e h (Ab.upd h' id x) y xs:=by
 obtain⟨h1,rfl|⟨k,i1,rfl,i2⟩⟩:=ha
 ·exact⟨h1.put hid x,.inl rfl⟩
 ·refine⟨h1.put hid x,.inr ⟨k,i1,rfl, ?_⟩⟩
  grind [ag]
theorem base_start(G:Heap)(id:Nat)(x:Option Blk):Sub (upd G id Option.none) (upd G id x):=fun k c hk=>by
 grind [ah,ag]
theorem eU{G H:Heap}{id:Nat}{b:Blk}(hs:Sub (upd G id Option.none) H)(hb:H id=some b):Sub (upd G id (some b)) H:=fun k c hk=>by
 by_cases e:k=id
 ·grind [ah]
 ·rw[ag _ _ e]at hk;exact hs k c ack
theorem A0(xs:List AV)(q:Perm)(a b:AV):Weak (.tup [.sl xs q,a,b]) (.tup [.sl xs .no,a,b]):=.tup _ _ rfl fun i h1 h2=>by
 rcases i with _|_|_|i
 ·exact ael
 ·exact ac3
 ·exact ac3
 grind
theorem WP.LC{P:Program}{U:TypeId→TI}{n:Nat}(hU:∀t,aN P U t)(hm:P.follows .mixedOrders=true){c rest:Code}{ρ:Env}{h:Heap}{K:Exit→Env→Heap→Prop}(l:Nat)(J:Nat→Env→Heap→Prop)(hf:findLabel c l=some (.seq .skip rest))
  (pass:∀m ρ h,J m ρ h→WP P n rest ρ h (KJump l (fun ρ' h' =>∃m',m' <m∧J m' ρ' h') K))
  (first:(∀m ρ h,J m ρ h→WP P n rest ρ h (KJump l (fun ρ h=>∃m,J m ρ h) K))→WP P n c ρ h (KJump l (fun ρ h=>∃m,J m ρ h) K)):WP P n (.scope c) ρ h K:=
 WP.scope l J hf (first fun m ρ h hJ=>(pass m ρ h hJ).weaken fun e ρ h hk=>by
  cases e with
  |goto l' =>obtain⟨h1,m',_,h2⟩:=hk;exact⟨h1,m',h2⟩
  |_=>exact hk) fun m ρ h hJ=>WP.seq (dz hU hm .skip ρ h _ (pass m ρ h hJ))
end Go.Ab
namespace Go.Ab
attribute [go_sem] Int.natCast_zero Int.ofNat_zero Int.natCast_one Int.cast_ofNat_Int bne_self_eq_false beq_self_eq_true Bool.not_true Bool.not_false
attribute [go_sem] Nat.reduceLT Nat.reduceEqDiff Nat.reduceAdd Nat.reduceLeDiff Nat.reduceMul Nat.reduceSub Int.reduceBEq Int.reduceBNe
attribute [go_sem ↓] reduceIte
end Go.Ab
namespace Go.Ab
open Go
inductive Av (F:Nat→Prop):AV→Prop where
 |v (x:Value):Av F (.v x)
 |s (l:List UInt8):Av F (.s l)
 |agg (xs:List AV) (h:∀x∈xs,Av F x):Av F (.agg xs)
 |tup (xs:List AV) (h:∀x∈xs,Av F x):Av F (.tup xs)
 |sl (xs:List AV) (p:Perm) (h:∀x∈xs,Av F x) (hp:∀id,p= .own id→¬F id):Av F (.sl xs p)
 |pe (x:AV) (o:Nat) (h:Av F x):Av F (.pe x o)
 |ptr (id o:Nat) (h:¬F id):Av F (.ptr id o)
 |oa (id o l:Nat) (h:¬F id):Av F (.oa id o l)
 |ob (id o l c z:Nat) (h:¬F id):Av F (.ob id o l c z)
 |ifc (t:TypeId) (x:AV) (h:Av F x):Av F (.ifc t x)
 |fn (f:FuncId) (xs:List AV) (h:∀x∈xs,Av F x):Av F (.fn f xs)
 |mp (id:Nat) (h:¬F id):Av F (.mp id)
theorem Av.cells{F:Nat→Prop}{x:AV}(h:Av F x):∀y∈x.cells,Av F y:=by
 cases h with
 |agg xs hx=>exact hx
 |_=>intro y hy;rw[List.mem_singleton.1 hy];constructor<;>assumption
theorem Av.De{F:Nat→Prop}{x:AV}(h:∀y∈x.cells,Av F y):Av F x:=by
 cases x with
 |agg xs=>exact .agg xs h
 |_=>exact h _ (List.mem_singleton.2 rfl)
theorem Rep.av{c:Cx}{F:Nat→Prop}(hF:∀id,F id→c.h id=none){x:AV}{u:Value}(h:Rep c x u):Av F x:=by
 have nf:∀ {id:Nat} {k:Blk},c.h id=some k→¬F id:=fun hk hf=>abJ
 induction h with
 |v x=>exact .v x
 |s l hl=>exact .s l
 |agg xs vs hn hr ho ih=>exact .agg xs fun x hx=>ads
 |tup xs vs hn hr ih=>exact .tup xs fun x hx=>ads
 |sl xs p a cap sz val hc hm h0 hs hz hf hr ho hp ih=>
  refine .sl xs p (fun x hx=> ?_) fun id e=> ?_
  ·obtain⟨i,hi,rfl⟩:=List.mem_iff_getElem.1 hx
   refine .De fun y hy=> ?_
   obtain⟨j,hj,rfl⟩:=List.mem_iff_getElem.1 hy
   grind
  ·subst e
   obtain⟨m,h1,_⟩:=hp
   grind
 |pe x off b o val hb hf hr ho ih=>
  refine .pe x off (.De fun y hy=> ?_)
  obtain⟨j,hj,rfl⟩:=List.mem_iff_getElem.1 hy
  grind
 |ptr id off cs t h=>exact .ptr _ _ (nf h)
 |oa id off len cap o cs t h hc hm ho=>exact .oa _ _ _ (nf h)
 |ob id off len cap sz o cs t h hc hm ho=>exact .ob _ _ _ _ _ (nf h)
 |ifc t x u h ih=>exact .ifc t x ih
 |fn f xs vs hn hr ih=>exact .fn f xs fun x hx=>ads
 |mp id m h=>exact .mp _ (nf h)
noncomputable def Cx.back (c' :Cx) (g:Heap):Cx:={c' with h:=fun id=>if g id=none then none else c'.h id}
theorem tY{c' :Cx}{g:Heap}{id:Nat}{k:Blk}(h:(c'.back g).h id=some k):g id≠none∧c'.h id=some k:=by
 grind [Cx.back]
theorem j6{c' :Cx}{g:Heap}{id:Nat}(h:g id≠none):(c'.back g).h id=c'.h id:=by
 simp_all [Cx.back,if_false]
theorem wZ{c' :Cx}{g:Heap}{b o:Nat}(h:owned (c'.back g) b o):owned c' b o:=by
 obtain⟨id,k,h1,h2,h3⟩:=h;exact⟨id,k,(tY h1).2,h2,h3⟩
theorem wY{c' :Cx}{g:Heap}{b o:Nat}{u:Value}(h:fix c' b o u):fix (c'.back g) b o u:=⟨h.1,fun ho=>h.2 (wZ ho)⟩
theorem Rep.back{c' :Cx}{g:Heap}{x:AV}{u:Value}(h:Rep c' x u)(ha:Av (fun id=>g id=none) x):Rep (c'.back g) x u:=by
 induction h with
 |v x=>exact .v x
 |s l hl=>exact .s l hl
 |agg xs vs hn hr ho ih=>cases ha with|agg _ ha=>exact .agg xs vs hn abJ ho
 |tup xs vs hn hr ih=>cases ha with|tup _ ha=>exact .tup xs vs hn abJ
 |sl xs p a cap sz val hc hm h0 hs hz hf hr ho hp ih=>
  cases ha with
  |sl _ _ ha hq=>
   refine .sl xs p a cap sz val hc hm h0 hs hz (by grind [wY]) (fun i hi j hj=>ih i hi j hj ((ha _ (abD hi)).cells _ (abD hj))) ho ?_
   cases p with
   |no=>trivial
   |full=>exact hp
   |own id=>
    obtain⟨m,h1,h2,h3⟩:=hp;exact⟨m,by rw[j6 (hq id rfl)];omega,h2,h3⟩
 |pe x off b o val hb hf hr ho ih=>
  cases ha with
  |pe _ _ ha=>exact .pe x off b o val hb (by grind [wY]) (fun j hj=>ih j hj (ha.cells _ (abD hj))) ho
 |ptr id off cs t h=>cases ha with|ptr _ _ ha=>exact .ptr id off cs t (by grind [j6])
 |oa id off len cap o cs t h hc hm ho=>cases ha with|oa _ _ _ ha=>exact .oa id off len cap o cs t (by grind [j6]) hc hm ho
 |ob id off len cap sz o cs t h hc hm ho=>cases ha with|ob _ _ _ _ _ ha=>exact .ob id off len cap sz o cs t (by grind [j6]) hc hm ho
 |ifc t x u h ih=>cases ha with|ifc _ _ ha=>exact .ifc t x u (ih ha)
 |fn f xs vs hn hr ih=>cases ha with|fn _ _ ha=>exact .fn f xs vs hn abJ
 |mp id m h=>cases ha with|mp _ ha=>exact .mp id m (by grind [j6])
inductive Frz (g h:Heap):AV→AV→Prop where
 |keep (x:AV) (ha:Av (fun id=>g id=none) x):Frz g h x x
 |agg (xs ys:List AV) (hn:xs.length=ys.length) (hr:∀i (h1:i<xs.length) (h2:i<ys.length),Frz g h xs[i] ys[i]):Frz g h (.agg xs) (.agg ys)
 |tup (xs ys:List AV) (hn:xs.length=ys.length) (hr:∀i (h1:i<xs.length) (h2:i<ys.length),Frz g h xs[i] ys[i]):Frz g h (.tup xs) (.tup ys)
 |sl (xs ys:List AV) (p:Perm) (hn:xs.length=ys.length) (hz:∀i (h1:i<xs.length) (h2:i<ys.length),xs[i].cells.length=ys[i].cells.length)
   (hr:∀i (h1:i<xs.length) (h2:i<ys.length) j (h3:j<xs[i].cells.length) (h4:j<ys[i].cells.length),Frz g h xs[i].cells[j] ys[i].cells[j]):Frz g h (.sl xs p) (.sl ys .no)
 |ob (id off len cap sz:Nat) (cs:List AV) (t:TypeId) (ys:List AV) (hg:g id=none) (hh:h id=some (.obj cs t)) (hl:off+len*sz≤cs.length) (hn:ys.length=len) (hz:∀i (h1:i<ys.length),ys[i].cells.length=sz)
   (hr:∀i (h1:i<ys.length) j (h3:j<ys[i].cells.length) (h4:off+(i*sz+j)<cs.length),Frz g h (cs[off+(i*sz+j)]) ys[i].cells[j]):Frz g h (.ob id off len cap sz) (.sl ys .no)
 |ptr (id off:Nat) (cs:List AV) (t:TypeId) (ys:List AV) (hg:g id=none) (hh:h id=some (.obj cs t)) (hn:cs.length=ys.length) (hr:∀i (h1:i<cs.length) (h2:i<ys.length),Frz g h cs[i] ys[i]):Frz g h (.ptr id off) (.pe (.agg ys) off)
 |ifc (t:TypeId) (x y:AV) (hr:Frz g h x y):Frz g h (.ifc t x) (.ifc t y)
theorem Frz.rep{c' :Cx}{g h:Heap}(gd:Good c')(hh:Sub h c'.h){x y:AV}(hz:Frz g h x y):∀ {u:Value},Rep c' x u→Rep (c'.back g) y u:=by
 have nown:∀ {id:Nat} {k:Blk} {o:Nat},g id=none→h id=some k→¬owned (c'.back g) (c'.φ id).block o:=fun {id k o} h1 h2 ho=>by
  obtain⟨j,l,h3,h4,h5⟩:=ho;obtain⟨h6,h7⟩:=tY h3;exact gd.inj j id l k h7 (hh _ _ h2) (fun e=>h6 abJ) h4
 induction hz with
 |keep x ha=>exact fun hr=>hr.back ha
 |agg xs ys hn hr ih=>
  intro u hu;obtain⟨vs,rfl,h1,h2,h3⟩:=hu.nQ;exact .agg ys vs abI (fun i hi=>ih i abI hi (h2 i abI)) fun i hi=>h3 i abI
 |tup xs ys hn hr ih=>
  intro u hu;obtain⟨vs,rfl,h1,h2⟩:=hu.BT;exact .tup ys vs abI (fun i hi=>ih i abI hi (h2 i abI))
 |sl xs ys p hn hz hr ih=>
  intro u hu;obtain⟨a,cap,sz,val,rfl,hs⟩:=hu.ia;rw[hn];have hcap:=hs.hc;refine .sl ys .no a cap sz val abI hs.hm hs.h0 hs.hs (fun i hi=>by rw[←hz i abI hi];exact hs.hz i abI) (fun q hq i j hi hj=>wY (hs.hf q hq i j abI hj)) (fun i hi j hj=> ?_) (fun i j hi hj=>hs.ho i j abI hj) trivial
  exact ih i abI hi j abJ hj (hs.hr i abI j abJ)
 |ob id off len cap sz cs t ys hg hid hl hn hz hr ih=>
  intro u hu;obtain⟨o,rfl,h1,h2,cs',t',h3,h4⟩:=hu.iY;have hcid:=hh _ _ hid;obtain⟨vs,v1,v2,v3⟩:=gd.obj id cs t hcid;subst hn;have hbd:∀i j,i<ys.length→j<sz→i*sz+j<ys.length*sz:=fun i j hi hj=>by
   have:(i+1)*sz≤ys.length*sz:=Nat.mul_le_mul_right _ abI;rw[Nat.add_mul,Nat.one_mul]at this;omega
  refine .sl ys .no _ cap sz (fun i j=>vs.getD (off+(i*sz+j)) undef) h1 h2 (fun e=>ab8) (fun q hq _=> ?_) hz (fun q hq i j hi hj=> ?_) (fun i hi j hj=> ?_) (fun i j hi hj=>(v3 _ abJ).2) trivial
  ·cases hq
   exact⟨rfl,gd.lt hcid⟩
  ·cases hq
   obtain⟨rfl,_⟩:=h4 abI;have hb:=hbd i j hi hj;refine⟨?_,nown hg hid⟩;have:o+(i*sz+j)<vs.size:=abI;simp[World.cell?,Cx.back,v1,this]
  ·have hj' :j<sz:=by grind
   have hb:=hbd i j hi hj';exact ih i hi j hj abI (v3 _ abI).1
 |ptr id off cs t ys hg hid hn hr ih=>
  intro u hu;obtain⟨rfl,_⟩:=hu.kj;have hcid:=hh _ _ hid;obtain⟨vs,v1,v2,v3⟩:=gd.obj id cs t hcid;have:=Rep.pe (c:=c'.back g) (.agg ys) off (c'.φ id).block 0 (fun j=>vs.getD j undef) (gd.lt hcid) (fun j hj=>by
    have hj' :j<ys.length:=hj;refine⟨?_,nown hg hid⟩
    simp_all [World.cell?,Cx.back]) (fun j hj=>by
    have hj' :j<ys.length:=hj;exact ih j abI hj' (v3 j abI).1) (fun j hj=>by
    have hj' :j<ys.length:=hj;exact(v3 j abI).2)
  rw[Nat.zero_add]at this;exact acv
 |ifc t x y hr ih=>
  intro u hu;cases hu with
  |ifc _ _ u' h=>exact .ifc t y _ (ih h)
theorem ai.freeze{P:Program}{f:FuncId}{args:List AV}{h:Heap}{Q:AV→Prop}
  (hf:∀g,Sub h g→(∀x∈args,Av (fun id=>g id=none) x)→ai P f args g fun r h' =>Sub g h'∧∃y,Frz g h' r y∧Q y):ai P f args h fun r h' =>Q r∧h' =h:=by
 intro c vs hs gd h1 h2;have hav:∀x∈args,Av (fun id=>c.h id=none) x:=fun x hx=>by
  obtain⟨i,hi,rfl⟩:=List.mem_iff_getElem.1 hx;exact(h2 i hi).av fun _ e=>e
 refine(hf c.h hs hav c vs (.refl _) gd h1 h2).mono ?_
 rintro u w' ⟨c',x,h',rfl,gd',hE,hr,hsub,hgh,y,hz,hq⟩
 have hkeep:∀id k,c.h id=some k→c'.h id=some k:=fun id k hk=>hsub _ _ (hgh _ _ hk)
 have hE2:Ext c (c'.back c.h):={
  os:=hE.os,tape:=hE.tape,output:=hE.output,size:=hE.size,block:=hE.block,cell:=hE.cell,shape:=hE.shape
  steal:=fun b o hb ho=>hE.steal b o hb (wZ ho)
  obj:=fun id cs t hi=>by rw[j6 abJ];exact hE.obj id cs t hi
  spare:=fun id n sz hi=>by rw[j6 abJ];exact hE.spare id n sz hi
  mp:=fun id m hi=>by rw[j6 abJ];exact hE.mp id m hi
  ro:=fun id b vs hi=>by rw[j6 abJ];exact hE.ro id b vs hi}
 have hold:∀id k,(c'.back c.h).h id=some k→c.h id=some k∧c'.h id=some k:=fun id k hk=>by
  obtain⟨a1,a2⟩:=tY hk;cases hc:c.h id with
  |none=>grind
  |some k' =>grind
 refine⟨c'.back c.h,y,h,rfl, ?_,hE2,hz.rep gd' hsub hr,fun id k hk=> ?_,hq,rfl⟩
 ·refine⟨?_,fun i j k l hi hj hne=>gd'.inj i j k l (hold i k hi).2 (hold j l hj).2 hne,fun id cs t hi=> ?_,fun id n sz hi=>gd'.spare id n sz (hold id _ hi).2,fun id m hi=> ?_,fun id m hi=>gd'.keys id m (hold id _ hi).2,fun id b vs hi=>gd'.ro id b vs (hold id _ hi).2⟩
  ·obtain⟨N,hN⟩:=gd'.fin
   exact⟨N,fun id hid=>by grind [Cx.back]⟩
  ·obtain⟨vs,v1,v2,v3⟩:=gd'.obj id cs t (hold id _ hi).2
   obtain⟨vs0,w1,w2,w3⟩:=gd.obj id cs t (hold id _ hi).1;exact⟨vs,v1,v2,fun j hj=>⟨(v3 j hj).1.back ((w3 j hj).1.av fun _ e=>e),(v3 j hj).2⟩⟩
  ·obtain⟨es,cl,v1,v2,v3⟩:=gd'.mp id m (hold id _ hi).2
   obtain⟨es0,cl0,w1,w2,w3⟩:=gd.mp id m (hold id _ hi).1;exact⟨es,cl,v1,v2,fun i hi' hi2=>⟨(v3 i hi' hi2).1,(v3 i hi' hi2).2.back ((w3 i hi' abI).2.av fun _ e=>e)⟩⟩
 ·rw[j6 (by rw[hs _ _ hk];simp)]
  exact hkeep id k (hs _ _ hk)
section
variable {P : Program} {U : TypeId → TI} {ρ : Env} {h h' : Heap} {sz : Nat} {y : AV} {xs : List AV} {e : TypeId}
def Rd(h:Heap)(sz:Nat)(y:AV)(xs:List AV):Prop:=
 Sized sz xs∧((∃q,y= .sl xs q)∨∃id off cap cs t,y= .ob id off xs.length cap sz∧h id=some (.obj cs t)∧off+xs.length*sz≤cs.length∧(cs.drop off).take (xs.length*sz)=aq xs)
theorem Rd.sl(hs:Sized sz xs)(q:Perm):Rd h sz (.sl xs q) xs:=⟨hs,.inl ⟨q,rfl⟩⟩
theorem Rd.sub(hb:Rd h sz y xs)(hs:Sub h h'):Rd h' sz y xs:=by
 obtain⟨h1,hb|⟨id,off,cap,cs,t,rfl,h2,h3⟩⟩:=hb
 ·exact⟨h1,.inl hb⟩
 ·exact⟨h1,.inr ⟨id,off,cap,cs,t,rfl,hs _ _ h2,h3⟩⟩
theorem Rd.len(hb:Rd h sz y xs)(e:TypeId)(k:AV→Prop):wg y k (.slice e)=k (.i xs.length):=by
 exact agM
theorem Rd.cells(hb:Rd h sz y xs):y.cells= [y]:=by
 exact agM
theorem Rd.fit(hb:Rd h sz y xs)(m:Nat):fit y m=(m=1):=by
 exact agM
theorem Rd.src(hb:Rd h sz y xs)(hz:(U e).sz=sz){f:List AV→Prop}(hf:f xs):ic U e h y f:=by
 obtain⟨_,⟨q,rfl⟩|⟨id,off,cap,cs,t,rfl,h2,h3,h4⟩⟩:=hb
 ·exact hf
 ·rw[NN,h2]
  exact⟨hz.symm,xs,rfl,h3,h4.symm,hf⟩
def At(h:Heap)(p x:AV)(o:Nat):Prop:=p= .pe x o∨∃id a cs t,p= .ptr id (a+o)∧h id=some (.obj cs t)∧a+x.cells.length≤cs.length∧(cs.drop a).take x.cells.length=x.cells
theorem At.sub{p x:AV}{o:Nat}(ha:At h p x o)(hs:Sub h h'):At h' p x o:=by
 rcases ha with rfl|⟨id,a,cs,t,rfl,h2,h3⟩
 ·exact .inl rfl
 ·exact .inr ⟨id,a,cs,t,rfl,hs _ _ h2,h3⟩
theorem Fj{cs:List AV}{x:AV}{a o:Nat}{i:TI}{k:AV→Prop}(h1:a+x.cells.length≤cs.length)(h2:(cs.drop a).take x.cells.length=x.cells)(h3:i.sz≠0)(h4:o+i.sz≤x.cells.length):hY cs (a+o) i k=hY x.cells o i k:=by
 unfold hY;split
 ·have e:(cs.drop (a+o)).take i.sz=(x.cells.drop o).take i.sz:=by
   grind [List.drop_take,List.drop_drop,Nat.min_eq_left]
  apply propext
  grind
 grind
theorem At.part{p x:AV}{o:Nat}(ha:At h p x o){ty:TypeId}(hz:(U ty).sz≠0)(hl:o+(U ty).sz≤x.cells.length)(k:AV→Prop):mL U h ty p k=hY x.cells o (U ty) k:=by
 rcases ha with rfl|⟨id,a,cs,t,rfl,h2,h3,h4⟩
 ·rw[KM]
  unfold atA;split
  ·rename_i hc
   obtain⟨rfl,hc2,hc3⟩:=hc;unfold hY;split
   ·rename_i hag
    rw[hag]at hc3;have:x= .agg x.cells:=by cases x<;>first|rfl|cases hc3
    rw[List.drop_zero,←hc2,List.take_length,Nat.zero_add,←this];simp
   simp_all [bx,false,ny]
  ·rfl
 ·rw[Iz,h2]
  exact Fj h3 h4 hz hl
theorem At.all{p x:AV}(ha:At h p x 0){ty:TypeId}(hz:(U ty).sz≠0)(hl:x.cells.length=(U ty).sz)(hg:bx x=(U ty).k.agg)(k:AV→Prop):mL U h ty p k=k x:=by
 rw[ha.part hz abI];unfold hY;split
 ·rename_i hag
  rw[hag]at hg;have:x= .agg x.cells:=by cases x<;>first|rfl|cases hg
  rw[List.drop_zero,←hl,List.take_length,Nat.zero_add,←this];simp
 simp_all [bx,false,ny]
theorem At.field{p x:AV}{o:Nat}(ha:At h p x o){f off:Nat}{t:TypeId}{fs:List (Nat×TypeId)}{K:AV→Prop}(hf:fs[f]? =some (off,t))(hz:(U t).sz≠0)(hk:∀p',At h p' x (o+off)→K p'):xz U f p K (.strct fs):=by
 rcases ha with rfl|⟨id,a,cs,t',rfl,h2,h3,h4⟩
 ·rw[HJ,hf]
  exact⟨hz,hk _ (.inl rfl)⟩
 ·rw[EB,hf]
  exact⟨hz,hk _ (.inr ⟨id,a,cs,t',abJ,h2,h3,h4⟩)⟩
theorem Rd.idx(hb:Rd h sz y xs){m:Int}{x:IntKind}{K:AV→Prop}(j:Nat)(hm:m=j)(hj:j<xs.length)(hz:(U e).sz=sz)(h0:sz≠0)(hk:∀p,At h p xs[j] 0→K p):oe U y (.v (.int x m)) K (.slice e):=by
 subst hm;have hc:=hb.1 xs[j] (abD hj);obtain⟨hs,⟨q,rfl⟩|⟨id,off,cap,cs,t,rfl,h2,h3,h4⟩⟩:=hb
 ·refine(uk ..).mpr ⟨abI, ?_⟩
  exact fm.at j hj abI (hk _ (.inl rfl))
 ·refine(Ai ..).mpr ⟨abI,hz.symm,abI,abI,hk _ (.inr ⟨id,off+j*sz,cs,t,abQ,h2, ?_, ?_⟩)⟩
  ·have:(j+1)*sz≤xs.length*sz:=Nat.mul_le_mul_right _ abI
   rw[Nat.add_mul,Nat.one_mul]at this;rw[hc];omega
  ·have e1:=nV hs j hj
   rw[←h4,List.drop_take,List.take_take,List.drop_drop]at e1;rw[hc];have:(j+1)*sz≤xs.length*sz:=abJ;rw[Nat.add_mul,Nat.one_mul]at this;rw[Nat.min_eq_left abI]at e1;exact e1
def Ow(tb:TypeId)(h:Heap)(sz id:Nat)(y:AV)(xs:List AV):Prop:=
 ∃cap rest,y= .ob id 0 xs.length cap sz∧h id=some (.obj (aq xs++rest) tb)∧rest.length=(cap - xs.length)*sz∧xs.length≤cap∧Sized sz xs
variable {tb : TypeId} {id : Nat}
theorem Ow.rd(hw:Ow tb h sz id y xs):Rd h sz y xs:=by
 obtain⟨cap,rest,rfl,h1,h2,h3,h4⟩:=hw;have hl:=aV h4;exact⟨h4,.inr ⟨id,0,cap,_,tb,rfl,h1,abJ,abJ⟩⟩
theorem Ow.sub(hw:Ow tb h sz id y xs)(hs:Sub h h'):Ow tb h' sz id y xs:=by
 obtain⟨cap,rest,e1,h1,h2⟩:=hw;exact⟨cap,rest,e1,hs _ _ h1,h2⟩
theorem Ow.same(hw:Ow tb h sz id y xs)(hs:h' id=h id):Ow tb h' sz id y xs:=by
 obtain⟨cap,rest,e1,h1,h2⟩:=hw;exact⟨cap,rest,e1,hs.trans h1,h2⟩
theorem Ow.none(hw:Ow tb h sz id y xs):h id≠Option.none:=by
 obtain⟨cap,rest,e1,h1,h2⟩:=hw
 grind
theorem Ow.make{cs:List AV}{cap:Nat}{rest:List AV}(hs:Sized sz xs)(hcs:cs=aq xs){n:Nat}(hn:n=xs.length)(hc:n≤cap)(hr:rest.length=(cap - n)*sz):Ow tb (upd h id (some (.obj (cs++rest) tb))) sz id (.ob id 0 n cap sz) xs:=by
 subst hcs;subst hn
 exact⟨cap,rest,rfl,ah ..,hr,hc,hs⟩
theorem jO.ow{cs:List AV}{n:Nat}{Q:AV→Heap→Prop}(hs:Sized sz xs)(hcs:cs=aq xs)(hn:n=xs.length)(hk:∀id y h',h id=Option.none→Ow tb h' sz id y xs→(∀j,j≠id→h' j=h j)→Q y h'):jO h cs n sz tb Q:=
 fun id cap rest hid hc hr=>hk id _ _ hid (Ow.make hs hcs hn hc hr) fun j hj=>ag _ _ hj
theorem IN{us vs:List AV}{o:Nat}{c:List AV}:over (us++vs) (us.length+o) c=us++over vs o c:=by
 simp[Ab.over,Nat.add_assoc,List.take_length_add_append,List.drop_length_add_append,List.append_assoc]
theorem HT{xs:List AV}(hs:Sized sz xs)(j:Nat)(hj:j<xs.length)(x:AV)(hx:x.cells.length=sz):aq (xs.set j x)=over (aq xs) (j*sz) x.cells:=by
 induction xs generalizing j with
 |nil=>grind
 |cons a r ih=>
  have h1:=hs a abQ;have h2:Sized sz r:=fun z hz=>hs z abJ
  cases j with
  |zero=>
   simp only[List.set_cons_zero,jV,Ab.over,Nat.zero_mul,List.take_zero,List.nil_append,Nat.zero_add];rw[hx,←h1,List.drop_left]
  |succ j=>
   have hj' :j<r.length:=abJ;have e1:(j+1)*sz=a.cells.length+j*sz:=abJ;rw[List.set_cons_succ,jV,jV,ih h2 j hj',e1,IN]
theorem HS{xs:List AV}(hs:Sized sz xs)(j:Nat)(hj:j<xs.length)(o:Nat)(c:List AV)(ho:o+c.length≤sz):over (aq xs) (j*sz+o) c=aq (xs.set j (.agg (over xs[j].cells o c))):=by
 have hc:=hs xs[j] (abD hj);have hl:(over xs[j].cells o c).length=sz:=by grind [gZ]
 rw[HT hs j hj (.agg (over xs[j].cells o c)) hl];have hp:=nV hs j hj;have e1:(aq xs).take (j*sz+o)=(aq xs).take (j*sz)++xs[j].cells.take o:=by
  rw[←hp,List.take_take,Nat.min_eq_left abI,List.take_add]
 have e2:(aq xs).drop (j*sz+o+c.length)=xs[j].cells.drop (o+c.length)++(aq xs).drop (j*sz+sz):=by
  have e3:(aq xs).drop (j*sz)=xs[j].cells++(aq xs).drop (j*sz+sz):=by
   grind [List.drop_drop,List.take_append_drop]
  rw[Nat.add_assoc,←List.drop_drop,e3,List.drop_append_of_le_length abI]
 show over (aq xs) (j*sz+o) c=over (aq xs) (j*sz) (over xs[j].cells o c)
 grind [over,Ab.over,List.append_assoc]
theorem K8{us vs:List AV}{o:Nat}{c:List AV}(h1:o+c.length≤us.length):over (us++vs) o c=over us o c++vs:=by
 grind [Ab.over,List.append_assoc]
theorem Ow.idx(hw:Ow tb h sz id y xs){m:Int}{x:IntKind}{K:AV→Prop}(j:Nat)(hm:m=j)(hj:j<xs.length)(hz:(U e).sz=sz)(h0:sz≠0)(hk:K (.ptr id (j*sz))):oe U y (.v (.int x m)) K (.slice e):=by
 obtain⟨cap,rest,rfl,h1,h2,h3,h4⟩:=hw
 simp_all [Ai,Nat.zero_add,Int.toNat_natCast]
def OwE(tb:TypeId)(h0 h:Heap)(sz:Nat)(y:AV)(xs:List AV):Prop:=(xs= []∧y= .sl [] .full)∨∃id,h0 id=Option.none∧Ow tb h sz id y xs
variable {h0 : Heap}
theorem OwE.rd(hw:OwE tb h0 h sz y xs):Rd h sz y xs:=by
 rcases hw with⟨rfl,rfl⟩|⟨id,_,hw⟩
 ·exact .sl (fun z hz=>abJ) _
 ·exact hw.rd
theorem OwE.sub(hw:OwE tb h0 h sz y xs)(hs:Sub h h'):OwE tb h0 h' sz y xs:=by
 rcases hw with hw|⟨id,h1,hw⟩
 ·exact afD
 ·exact .inr ⟨id,h1,hw.sub hs⟩
theorem OwE.ow(hw:OwE tb h0 h sz y xs)(hn:xs≠ []):∃id,h0 id=Option.none∧Ow tb h sz id y xs:=by
 rcases hw with hw|hw
 ·grind
 omega
theorem OwE.app{v:AV}{zs:List AV}{Q:AV→Heap→Prop}(hw:OwE tb h0 h sz y xs)(hs0:Sub h0 h)(hb:Rd h sz v zs)(hz:(U tb).sz=sz)(h1:sz≠0)(hby:(U tb).bytes≠0)(hf:Ab.fit (U tb).zero sz)(hne:zs≠ [])(hlen:(xs.length+zs.length)*(U tb).bytes≤140737488355328)
  (hk:∀id y' h',h0 id=Option.none→(h id=Option.none∨∃l c,y= .ob id 0 l c sz)→Ow tb h' sz id y' (xs++zs)→(∀j,j≠id→h' j=h j)→Q y' h'):apK U h y v Q (.slice tb):=by
 subst hz;rcases hw with⟨rfl,rfl⟩|⟨id,h2,cap,rest,rfl,h3,h4,h5,h6⟩
 ·refine(pG ..).mpr ⟨h1,hby,hb.src rfl ⟨by simp[Sized],hb.1,abI,fun hn=>(hne hn).elim,fun _=> ?_⟩⟩
  refine .ob hf (jO.ow (by simpa using hb.1) abW abQ fun id y' h' hid hw ho=> ?_)
  exact hk id _ _ (hs0.none hid) (.inl hid) abJ ho
 ·have hl:=aV h6
  refine⟨h1,hby,rfl,hb.src rfl ⟨hb.1,hlen, ?_⟩⟩;rw[h3];have hsz:Sized (U tb).sz (xs++zs):=fun z hz=>(List.mem_append.1 hz).elim (h6 z) (hb.1 z)
  refine⟨abJ,hf,fun hle=> ?_,fun hgt=> ?_⟩
  ·have hlz:=aV hb.1
   have hmul:(cap - xs.length)*(U tb).sz=zs.length*(U tb).sz+(cap - (xs.length+zs.length))*(U tb).sz:=by rw[←Nat.add_mul];grind
   refine hk id _ _ h2 (.inr ⟨_,_,rfl⟩) ⟨cap,rest.drop (zs.length*(U tb).sz),abQ, ?_, ?_,abJ,hsz⟩ fun j hj=>ag _ _ hj
   ·simp_all [ah,lJ,Nat.zero_add,Ab.over,List.take_left,List.drop_append,List.drop_of_length_le]
   grind
  ·refine jO.ow hsz ?_ abQ fun id' y' h' hid hw ho=> ?_
   ·grind [lJ,List.take_left]
   ·exact hk id' _ _ (hs0.none hid) (.inl hid) hw ho
theorem vH {f : FuncId} {fn : Func} {tS tR : TypeId} (hU : ∀ t, aN P U t) (hfn : P.funcs[f]? = some fn) (hname : (fn.name == "runtime.NumGoroutine") = false) (hb : fn.body.isNone = true) (hn : Extern.findNext fn = Option.none)
  (he:Extern.find fn=some (Extern.SlicesOverlaps.overlaps #[tS,tS] #[tR])) (hty:(U tS).k= .slice e) (hz:(U e).sz≠0) {q:Perm} (hx:Sized (U e).sz xs) (hne:xs≠ []) {id off len cap sz:Nat} {cs:List AV} {t:TypeId} (hid:h id=some (.obj cs t)) (hcs:cs≠ []):
  ai P f [.sl xs q,.ob id off len cap sz] h fun r h' =>r= .b false∧h' =h:=by
 intro c vs hs g h1 h2;obtain⟨a,cap0,sz0,val,hu,sl⟩:=(h2 0 abQ).ia;obtain⟨o,hv,_⟩:=(h2 1 abQ).iY;have hd:=(hU tS).desc;rw[hty]at hd;have hpos:0<xs.length:=List.length_pos_iff.2 hne;have hcap:=sl.hc;obtain⟨qa,rfl⟩:∃qa,a=some qa:=by
  cases a with
  |none=>have:=sl.h0 rfl;omega
  |some qa=>simp
 have hs0:sz0=(U e).sz:=by rw[←sl.hz 0 hpos];exact hx _ (abD hpos)
 have hf:=sl.hf qa rfl 0 0 hpos abI;have hq:=(sl.hs qa rfl abI).1;have hcid:=hs _ _ hid;obtain⟨us,u1,u2,u3⟩:=g.obj id cs t hcid;have hnb:qa.block≠(c.φ id).block:=fun hh=>hf.2 ⟨id,_,hcid,hh.symm,Nat.zero_le _⟩
 obtain⟨ws,tw,fr,hws,hwlt⟩:∃ws tw fr,c.w.heap[qa.block]? =some (.cells ws tw fr)∧0<ws.size:=by
  have:=hf.1;simp only[World.cell?]at this;split at this
  ·rename_i ws tw fr hh
   refine⟨ws,tw,fr,hh, ?_⟩
   grind
  all_goals cases this
 have hvs:vs= #[.slice (some qa) xs.length cap0,.slice (some ⟨(c.φ id).block,o,Option.none⟩) len cap]:=by
  apply Array.ext
  ·omega
  ·intro i hi hi2
   have hi3:i<2:=abI;rcases i with _|_|i
   ·simpa[Array.getD,hi]using hu
   ·simpa[Array.getD,hi]using hv
   ·omega
 subst hvs;refine .inr ⟨.bool false,c.w, ?_,c,_,h,rfl,g,.refl c,.v _,hs,rfl,rfl⟩;rw[Go.run_callFunc_extern hfn hname hb hn he];have key:(Extern.SlicesOverlaps.overlaps #[tS,tS] #[tR] #[.slice (some qa) xs.length cap0,.slice (some ⟨(c.φ id).block,o,Option.none⟩) len cap]).run P c.w= .ok (.bool false) c.w:=by
  have hnb1:(qa.block !=(c.φ id).block)=true:=abJ;have hnb2:(qa.block==(c.φ id).block)=false:=abJ;have hws2:∃m,ws.size=m+1:=⟨ws.size - 1,abI⟩;obtain⟨m,hm⟩:=hws2
  change Sem.run P (α:=Value) (do
   let some t := (#[tS, tS] : Array TypeId)[0]? | stuck "slices.overlaps: no parameter types"
   let .slice elem ← underlying t | stuck "slices.overlaps: slice type expected"
   let size←sizeOf elem
   match (some qa:Option Addr),(some ⟨(c.φ id).block,o,Option.none⟩:Option Addr)with
   |some a,some b=>
    if xs.length=0∨len=0∨size=0 then pure (Value.bool false)
    else if a.block !=b.block && (←frozen a) && (←frozen b)then unsupported .addressObserved
    else do
     if a.block !=b.block then do
      noView a;noView b
      if ← mayBeOne a b then return Value.bool ((← choose (.extern "sameAddr.stringBytes" 2)) == 1)
     pure (Value.bool (a.block==b.block && a.off<b.off+len*size && b.off<a.off+xs.length*size))
   |_,_=>pure (Value.bool false)) c.w=_
  have hfb:∀x,c.w.frozen? ⟨(c.φ id).block,x,Option.none⟩=false:=fun x=>by grind [World.frozen?]
  have hsb:c.w.shape? (c.φ id).block=some (t,us.size):=by grind [World.shape?]
  have hsa:c.w.shape? qa.block=some (tw,m+1):=by grind [World.shape?]
  by_cases hl:len=0
  ·simp[run_underlying hd,bB hU hz,hl]
  ·have hus:us.size≠0:=by grind
   obtain⟨n,hn'⟩:∃n,us.size=n+1:=⟨us.size - 1,abI⟩;rw[hn']at hsb;cases hfa:c.w.frozen? qa<;>cases hfa2:c.w.frozen? {block:=qa.block,off:=m+1}<;>
    simp[run_underlying hd,bB hU hz,hl,hne,hz,hnb1,hnb2,frozen,noView,viewAt,mayBeOne,stringish,shape,Sem.run,hsa,hsb,hfb,hfa,hfa2]
 rw[key];rfl
end
end Go.Ab
namespace Go.Bf
open Go Go.Ab
structure OpD where
 kind:Int
 subj:Txt
 case:Txt
 field:Txt
 to:Txt
 val:bA
 review:Int
 text:Txt
 reason:Txt
 glass:Bool
structure wN where
 tick:Int
 actor:Txt
 what:Txt
structure cV where
 name:Txt
 val:bA
structure aL where
 id:Txt
 owner:Txt
 state:Txt
 fields:List cV
 log:List wN
structure pE where
 id:Int
 tick:Int
 subj:Txt
 case:Txt
 action:Txt
 reason:Txt
 isOpen:Bool
structure Hi where
 tick:Int
 case:Txt
 arg:Txt
structure gR where
 subj:Txt
 role:Txt
structure an where
 tick:Int
 cases:List aL
 reviews:List pE
 notices:List Hi
 roles:List gR
 policy:bJ
 version:Int
structure bl where
 cat:Int
 name:Txt
 bag:List bA
def opC(o:OpD):List AV:=[.i o.kind,.s o.subj,.s o.case,.s o.field,.s o.to,.i o.val.kind,.i o.val.n,.s o.val.s,.i o.review,.s o.text,.s o.reason,.b o.glass]
def opA(o:OpD):AV:=.agg (opC o)
def iu(x:wN):AV:=.agg [.i x.tick,.s x.actor,.s x.what]
def bN(f:cV):AV:=.agg [.s f.name,.i f.val.kind,.i f.val.n,.s f.val.s]
def ga(l:List cV):AV:=.sl (l.map bN) .no
def rT(l:List wN):AV:=.sl (l.map iu) .no
def mH(c:aL):List AV:=[.s c.id,.s c.owner,.s c.state,ga c.fields,rT c.log]
def cq(c:aL):AV:=.agg (mH c)
def fP(l:List aL):AV:=.sl (l.map cq) .no
def iD(r:pE):AV:=.agg [.i r.id,.i r.tick,.s r.subj,.s r.case,.s r.action,.s r.reason,.b r.isOpen]
def jQ(l:List pE):AV:=.sl (l.map iD) .no
def mu(n:Hi):AV:=.agg [.i n.tick,.s n.case,.s n.arg]
def kP(l:List Hi):AV:=.sl (l.map mu) .no
def dW(r:gR):AV:=.agg [.s r.subj,.s r.role]
def dO(l:List gR):AV:=.sl (l.map dW) .no
def fN:bJ→List AV
 |.mk id set alg tgt rules kids obls=>[.s id,.b set,.i alg,aU tgt,.sl (rules.map aB) .no,.sl (fk kids) .no,aA obls]
theorem Nx(p:bJ):aM p= .agg (fN p):=by cases p;rfl
def cy(s:an):AV:=.agg ([.i s.tick,fP s.cases,jQ s.reviews,kP s.notices,dO s.roles]++fN s.policy++ [.i s.version])
def kJ(g:bl):AV:=.agg [.i g.cat,.s g.name,.sl (g.bag.map aR) .no]
def bH(l:List bl):AV:=.sl (l.map kJ) .no
def geB(a b:Txt):Bool:= !(Op.bytesLess a b)
def findD(cs:List aL)(id:Txt):Nat:=cs.findIdx fun c=>geB c.id id
def bY(cs:List aL)(id:Txt):Bool:=match cs[findD cs id]? with
 |some c=>c.id==id
 |none=>false
def ax:bA:=⟨0,0,[]⟩
def nO:aL:=⟨[],[],[],[],[]⟩
def bu(cs:List aL)(id:Txt):aL:=if bY cs id then cs.getD (findD cs id) nO else nO
def dZ(fs:List cV)(name:Txt):bA:=match fs.find? fun f=>f.name==name with
 |some f=>f.val
 |none=>ax
def ud(a b:gR):Bool:=a.subj==b.subj && a.role==b.role
def xJ(l:List gR)(r:gR):Bool:=l.any (ud r)
def jl:Txt:=[111,112,101,110]
def vT:Txt:=[119,111,114,107]
def zY:Txt:=[100,111,110,101]
def gL:Txt:=[99,108,111,115,101,100]
def lW(a b:Txt):Bool:=
 if a==jl then b==vT else if a==vT then b==zY else if a==zY then b==vT||b==gL else false
def SC:List Txt:=[[110,101,119],[114,101,97,100],[119,114,105,116,101],[109,111,118,101],[99,108,111,115,101],[114,111,108,101],[112,111,108,105,99,121]]
def js(k:Int):Txt:=if k<1∨k>7 then [116,105,99,107]else SC.getD (k - 1).toNat []
def uA(k:Int):Bool:=decide (1≤k) && decide (k≤4)
def iK(s:Txt):Bool:=s== []||br s
def lF(o:OpD):Bool:=if o.glass then uA o.kind && (!(o.reason== [])) && decide (o.reason.length≤64)else o.reason== []
def iH(o:OpD):OpD:=
 let z:OpD:=⟨o.kind,[],[],[],[],ax,0,[],[],false⟩
 if o.kind=1 then {z with case:=o.case}
 else if o.kind=2∨o.kind=6 then {z with case:=o.case,field:=o.field}
 else if o.kind=3 then {z with case:=o.case,field:=o.field,val:=o.val}
 else if o.kind=4 then {z with case:=o.case,to:=o.to}
 else if o.kind=5∨o.kind=8 then {z with review:=o.review}
 else {z with text:=o.text}
def eqV(a b:bA):Bool:=a.kind==b.kind && (a.n==b.n && a.s==b.s)
def mo(a b:OpD):Bool:=a.kind==b.kind && (a.subj==b.subj && (a.case==b.case && (a.field==b.field && (a.to==b.to && (a.val.kind==b.val.kind && (a.val.n==b.val.n && (a.val.s==b.val.s && (a.review==b.review && (a.text==b.text && (a.reason==b.reason && a.glass==b.glass))))))))))
def okD(o:OpD):Bool:=
 if o.kind=1 then !(o.case== [])
 else if o.kind=2∨o.kind=6 then !(o.case== []) && !(o.field== [])
 else if o.kind=3 then !(o.case== []) && !(o.field== []) && !(eqV o.val ax)
 else if o.kind=4 then !(o.case== []) && !(o.to== [])
 else if o.kind=5 then decide (0<o.review)
 else if o.kind=8 then decide (0<o.review) && decide (o.review≤1099511627776)
 else true
def gJ(o:OpD):OpD:={o with subj:=[],reason:=[],glass:=false}
def dF(o:OpD):Bool:=decide (1≤o.kind) && decide (o.kind≤8) && okD o && mo (gJ o) (iH o)
def eO(o:OpD):Bool:=br o.subj && lF o && decide (o.text.length≤4096) && iK o.case && iK o.field && iK o.to && (eqV o.val ax||bI o.val) && dF o
def bX(s:an)(o:OpD):Int:=
 let c:=bu s.cases o.case
 if bY s.cases o.case=false then 10
 else if o.kind=3∧c.fields.length≥16∧eqV (dZ c.fields o.field) ax=true then 6
 else if o.kind≠2∧c.log.length≥256 then 6
 else if o.kind=3∧c.state=gL∨o.kind=4∧lW c.state o.to=false then 13
 else 0
def vK(l:List pE)(n:Int):Option pE:=if 1≤n then l[(n - 1).toNat]? else none
def fH(s:an)(o:OpD):Int:=match vK s.reviews o.review with
 |none=>10
 |some r=>if r.isOpen=false then 10 else if r.subj=o.subj then 12 else 0
def bM(s:an)(o:OpD):Int:=
 if eO o=false then 1
 else if o.kind=1 then(if bY s.cases o.case then 11 else if s.cases.length≥64 then 6 else 0)
 else if 2≤o.kind∧o.kind≤4 then bX s o
 else if o.kind=5 then fH s o
 else if o.kind=6 then(if s.roles.length≥64∧xJ s.roles ⟨o.case,o.field⟩=false then 6 else 0)
 else if o.kind=8 then(if s.tick>1099511627776 - o.review then 6 else 0)
 else 0
def idV(s:Txt):bA:=⟨5,0,s⟩
def tN(l:List wN)(subj:Txt):bA:=⟨1,if l.any (fun x=>x.actor==subj)then 1 else 0,[]⟩
def idT:Txt:=[105,100]
def cD(c:aL)(subj:Txt):List bl:=
 [⟨3,idT,[idV c.id]⟩,⟨3,[111,119,110,101,114],[idV c.owner]⟩,⟨3,[115,116,97,116,101],[idV c.state]⟩,⟨3,[101,118,101,110,116,115],[⟨2,c.log.length,[]⟩]⟩,⟨3,[116,111,111,107],[tN c.log subj]⟩]++
 (match c.log.getLast? with
  |some x=>[⟨3,[108,97,115,116],[idV x.actor]⟩]
  |none=>[])++
 (c.fields.filter fun f=>decide (f.name.length≤14)).map fun f=>⟨3,[102,95]++f.name,[f.val]⟩
def cU(l:List gR)(subj:Txt):List bA:=((l.filter fun r=>r.subj==subj).map fun r=>idV r.role).take 16
def fo(s:an)(o:OpD):List bl:=
 [⟨1,idT,[idV o.subj]⟩,⟨1,[114,111,108,101],cU s.roles o.subj⟩,⟨2,[110,97,109,101],[idV (js o.kind)]⟩]++
 (if o.field= []then []else [⟨2,[102,105,101,108,100],[idV o.field]⟩])++
 (if o.to= []then []else [⟨2,[116,111],[idV o.to]⟩])++
 [⟨4,[110,111,119],[⟨4,s.tick,[]⟩]⟩]++
 (if bY s.cases o.case=true∧o.kind≠6 then cD (bu s.cases o.case) o.subj else [])
def eN(fs:List cV)(name:Txt)(v:bA):List cV:=
 let i:=fs.findIdx fun f=>geB f.name name
 match fs[i]? with
 |none=>fs++ [⟨name,v⟩]
 |some f=>if f.name=name then fs.set i ⟨f.name,v⟩else fs.take i++ [⟨name,v⟩]++fs.drop i
def iX(s:an)(c:aL)(actor what:Txt):aL:={c with log:=c.log++ [⟨s.tick,actor,what⟩]}
def doD(par:Txt→bJ×Int×Int)(s:an)(o:OpD):an:=
 let i:=findD s.cases o.case
 if o.kind=1 then {s with cases:=s.cases.take i++ [iX s ⟨o.case,o.subj,jl,[],[]⟩ o.subj [110,101,119]]++s.cases.drop i}
 else if o.kind=3 then {s with cases:=s.cases.modify i fun c=>iX s {c with fields:=eN c.fields o.field o.val} o.subj [119,114,105,116,101]}
 else if o.kind=4 then {s with cases:=s.cases.modify i fun c=>iX s {c with state:=o.to} o.subj o.to}
 else if o.kind=5 then {s with reviews:=s.reviews.modify (o.review - 1).toNat fun r=> {r with isOpen:=false}}
 else if o.kind=6 then(if xJ s.roles ⟨o.case,o.field⟩then s else {s with roles:=s.roles++ [⟨o.case,o.field⟩]})
 else if o.kind=7 then(if(par o.text).2.1=0 then {s with policy:=(par o.text).1,version:=s.version+1} else s)
 else if o.kind=8 then {s with tick:=s.tick+o.review}
 else s
def dJ(par:Txt→bJ×Int×Int)(s:an)(o:OpD):an:=if bM s o=0 then doD par s o else s
def i64(n:Int):Prop:= -9223372036854775808≤n∧n≤9223372036854775807
end Go.Bf
namespace Go.Proofs.YtcochaoekecfdaaGreatDoor
open Go Go.Ab
abbrev abG:TI:=⟨.other,1,8,.v .nilFunc,none⟩
def LR:List TI:=[
 ⟨.other,0,0,default,none⟩,
 abG,
 ⟨.int .i64,1,8,.i 0,some (0,[.int .i64])⟩,
 ⟨.int .i64,1,8,.i 0,some (0,[.int .i64])⟩,
 ⟨.bool,1,1,.b false,some (0,[.bool])⟩,
 ⟨.int .u8,1,1,.v (.int .u8 0),some (0,[.int .u8])⟩,
 ⟨.int .u8,1,1,.v (.int .u8 0),some (0,[.int .u8])⟩,
 ⟨.strct [(0,2),(1,3),(2,4),(3,6)],4,24,.agg [.i 0,.i 0,.b false,.v (.int .u8 0)],none⟩,
 ⟨.strct [(0,2),(1,3),(2,4),(3,6)],4,24,.agg [.i 0,.i 0,.b false,.v (.int .u8 0)],none⟩,
 ⟨.str,1,16,.s [],some (0,[.str])⟩,
 ⟨.str,1,16,.s [],some (0,[.str])⟩,
 ⟨.str,1,16,.s [],some (0,[.str])⟩,
 ⟨.int .u64,1,8,.v (.int .u64 0),some (0,[.int .u64])⟩,
 ⟨.strct [(0,9),(1,12)],2,24,.agg [.s [],.v (.int .u64 0)],none⟩,
 ⟨.strct [(0,9),(1,12)],2,24,.agg [.s [],.v (.int .u64 0)],none⟩,
 ⟨.ptr 417,1,8,.v (.pointer none),none⟩,
 ⟨.ptr 420,1,8,.v (.pointer none),none⟩,
 ⟨.ptr 427,1,8,.v (.pointer none),none⟩,
 ⟨.strct [(0,17)],1,8,.agg [.v (.pointer none)],none⟩,
 ⟨.strct [(0,17)],1,8,.agg [.v (.pointer none)],none⟩,
 ⟨.iface,1,16,.v .nilIface,none⟩,
 ⟨.int .i32,1,4,.v (.int .i32 0),some (0,[.int .i32])⟩,
 ⟨.ptr 96,1,8,.v (.pointer none),none⟩,
 ⟨.int .i64,1,8,.i 0,some (0,[.int .i64])⟩,
 ⟨.other,0,0,default,none⟩,
 abG,
 ⟨.ptr 101,1,8,.v (.pointer none),none⟩,
 ⟨.other,0,0,default,none⟩,
 abG,
 ⟨.strct [(0,3),(1,3),(2,9)],3,32,.agg [.i 0,.i 0,.s []],some (1,[.int .i64,.int .i64,.str])⟩,
 ⟨.strct [(0,3),(1,3),(2,9)],3,32,.agg [.i 0,.i 0,.s []],some (1,[.int .i64,.int .i64,.str])⟩,
 ⟨.strct [(0,3),(1,9),(2,9),(3,9),(4,9),(5,30),(8,3),(9,9),(10,9),(11,4)],12,152,.agg [.i 0,.s [],.s [],.s [],.s [],.i 0,.i 0,.s [],.i 0,.s [],.s [],.b false],some (2,[.int .i64,.str,.str,.str,.str,.int .i64,.int .i64,.str,.int .i64,.str,.str,.bool])⟩,
 ⟨.strct [(0,3),(1,9),(2,9),(3,9),(4,9),(5,30),(8,3),(9,9),(10,9),(11,4)],12,152,.agg [.i 0,.s [],.s [],.s [],.s [],.i 0,.i 0,.s [],.i 0,.s [],.s [],.b false],some (2,[.int .i64,.str,.str,.str,.str,.int .i64,.int .i64,.str,.int .i64,.str,.str,.bool])⟩,
 ⟨.cplx .f64,1,16,.v (.complex .f64 0 0),some (0,[.cplx .f64])⟩,
 ⟨.cplx .f64,1,16,.v (.complex .f64 0 0),some (0,[.cplx .f64])⟩,
 ⟨.strct [(0,23),(1,34),(2,4),(3,30),(6,4),(7,3)],8,80,.agg [.i 0,.v (.complex .f64 0 0),.b false,.i 0,.i 0,.s [],.b false,.i 0],some (2,[.int .i64,.cplx .f64,.bool,.int .i64,.int .i64,.str,.bool,.int .i64])⟩,
 ⟨.strct [(0,23),(1,34),(2,4),(3,30),(6,4),(7,3)],8,80,.agg [.i 0,.v (.complex .f64 0 0),.b false,.i 0,.i 0,.s [],.b false,.i 0],some (2,[.int .i64,.cplx .f64,.bool,.int .i64,.int .i64,.str,.bool,.int .i64])⟩,
 abG,
 ⟨.slice 41,1,24,.sl [] .full,none⟩,
 abG,
 abG,
 ⟨.slice 5,1,24,.sl [] .full,none⟩,
 abG,
 ⟨.int .u64,1,8,.v (.int .u64 0),some (0,[.int .u64])⟩,
 abG,
 abG,
 abG,
 abG,
 abG,
 abG,
 ⟨.other,0,0,default,none⟩,
 abG,
 abG,
 abG,
 ⟨.slice 32,1,24,.sl [] .full,none⟩,
 ⟨.slice 134,1,24,.sl [] .full,none⟩,
 ⟨.slice 143,1,24,.sl [] .full,none⟩,
 ⟨.slice 146,1,24,.sl [] .full,none⟩,
 ⟨.slice 149,1,24,.sl [] .full,none⟩,
 ⟨.slice 270,1,24,.sl [] .full,none⟩,
 ⟨.slice 270,1,24,.sl [] .full,none⟩,
 ⟨.slice 224,1,24,.sl [] .full,none⟩,
 ⟨.slice 65,1,24,.sl [] .full,none⟩,
 ⟨.slice 158,1,24,.sl [] .full,none⟩,
 ⟨.strct [(0,9),(1,4),(2,3),(3,60),(4,61),(5,62),(6,63)],7,128,.agg [.s [],.b false,.i 0,.sl [] .full,.sl [] .full,.sl [] .full,.sl [] .full],none⟩,
 ⟨.strct [(0,9),(1,4),(2,3),(3,60),(4,61),(5,62),(6,63)],7,128,.agg [.s [],.b false,.i 0,.sl [] .full,.sl [] .full,.sl [] .full,.sl [] .full],none⟩,
 ⟨.strct [(0,3),(1,55),(2,56),(3,57),(4,58),(5,65),(12,3)],13,240,.agg [.i 0,.sl [] .full,.sl [] .full,.sl [] .full,.sl [] .full,.s [],.b false,.i 0,.sl [] .full,.sl [] .full,.sl [] .full,.sl [] .full,.i 0],none⟩,
 ⟨.strct [(0,3),(1,55),(2,56),(3,57),(4,58),(5,65),(12,3)],13,240,.agg [.i 0,.sl [] .full,.sl [] .full,.sl [] .full,.sl [] .full,.s [],.b false,.i 0,.sl [] .full,.sl [] .full,.sl [] .full,.sl [] .full,.i 0],none⟩,
 abG,
 abG,
 ⟨.strct [(0,32),(12,3),(13,34),(14,4),(15,63)],16,208,.agg [.i 0,.s [],.s [],.s [],.s [],.i 0,.i 0,.s [],.i 0,.s [],.s [],.b false,.i 0,.v (.complex .f64 0 0),.b false,.sl [] .full],none⟩,
 ⟨.strct [(0,32),(12,3),(13,34),(14,4),(15,63)],16,208,.agg [.i 0,.s [],.s [],.s [],.s [],.i 0,.i 0,.s [],.i 0,.s [],.s [],.b false,.i 0,.v (.complex .f64 0 0),.b false,.sl [] .full],none⟩,
 ⟨.other,0,0,default,none⟩,
 abG,
 abG,
 abG,
 abG,
 ⟨.slice 9,1,24,.sl [] .full,none⟩,
 ⟨.slice 43,1,24,.sl [] .full,none⟩,
 abG,
 abG,
 abG,
 abG,
 abG,
 ⟨.slice 71,1,24,.sl [] .full,none⟩,
 abG,
 abG,
 abG,
 abG,
 abG,
 abG,
 abG,
 abG,
 abG,
 abG,
 ⟨.strct [(0,3),(1,41),(2,3),(3,3),(4,4)],5,56,.agg [.i 0,.sl [] .full,.i 0,.i 0,.b false],none⟩,
 ⟨.strct [(0,3),(1,41),(2,3),(3,3),(4,4)],5,56,.agg [.i 0,.sl [] .full,.i 0,.i 0,.b false],none⟩,
 ⟨.ptr 173,1,8,.v (.pointer none),none⟩,
 ⟨.other,0,0,default,none⟩,
 abG,
 ⟨.strct [(0,97),(1,67),(14,84),(15,43)],16,280,.agg [.v (.pointer none),.i 0,.sl [] .full,.sl [] .full,.sl [] .full,.sl [] .full,.s [],.b false,.i 0,.sl [] .full,.sl [] .full,.sl [] .full,.sl [] .full,.i 0,.sl [] .full,.v (.int .u64 0)],none⟩,
 ⟨.strct [(0,97),(1,67),(14,84),(15,43)],16,280,.agg [.v (.pointer none),.i 0,.sl [] .full,.sl [] .full,.sl [] .full,.sl [] .full,.s [],.b false,.i 0,.sl [] .full,.sl [] .full,.sl [] .full,.sl [] .full,.i 0,.sl [] .full,.v (.int .u64 0)],none⟩,
 abG,
 ⟨.int .u64,1,8,.v (.int .u64 0),some (0,[.int .u64])⟩,
 abG,
 abG,
 abG,
 abG,
 abG,
 abG,
 ⟨.ptr 176,1,8,.v (.pointer none),none⟩,
 abG,
 abG,
 abG,
 abG,
 abG,
 ⟨.other,0,0,default,none⟩,
 abG,
 ⟨.strct [(0,34),(1,63)],2,40,.agg [.v (.complex .f64 0 0),.sl [] .full],none⟩,
 ⟨.strct [(0,34),(1,63)],2,40,.agg [.v (.complex .f64 0 0),.sl [] .full],none⟩,
 abG,
 ⟨.other,0,0,default,none⟩,
 abG,
 ⟨.slice 196,1,24,.sl [] .full,none⟩,
 abG,
 abG,
 abG,
 abG,
 ⟨.ptr 67,1,8,.v (.pointer none),none⟩,
 abG,
 abG,
 ⟨.slice 215,1,24,.sl [] .full,none⟩,
 ⟨.slice 205,1,24,.sl [] .full,none⟩,
 ⟨.strct [(0,9),(1,9),(2,9),(3,131),(4,132)],5,96,.agg [.s [],.s [],.s [],.sl [] .full,.sl [] .full],none⟩,
 ⟨.strct [(0,9),(1,9),(2,9),(3,131),(4,132)],5,96,.agg [.s [],.s [],.s [],.sl [] .full,.sl [] .full],none⟩,
 ⟨.other,0,0,default,none⟩,
 abG,
 abG,
 abG,
 abG,
 abG,
 abG,
 ⟨.strct [(0,3),(1,3),(2,9),(3,9),(4,9),(5,9),(6,4)],7,88,.agg [.i 0,.i 0,.s [],.s [],.s [],.s [],.b false],some (1,[.int .i64,.int .i64,.str,.str,.str,.str,.bool])⟩,
 ⟨.strct [(0,3),(1,3),(2,9),(3,9),(4,9),(5,9),(6,4)],7,88,.agg [.i 0,.i 0,.s [],.s [],.s [],.s [],.b false],some (1,[.int .i64,.int .i64,.str,.str,.str,.str,.bool])⟩,
 abG,
 ⟨.strct [(0,3),(1,9),(2,9)],3,40,.agg [.i 0,.s [],.s []],some (1,[.int .i64,.str,.str])⟩,
 ⟨.strct [(0,3),(1,9),(2,9)],3,40,.agg [.i 0,.s [],.s []],some (1,[.int .i64,.str,.str])⟩,
 abG,
 ⟨.strct [(0,9),(1,9)],2,32,.agg [.s [],.s []],some (1,[.str,.str])⟩,
 ⟨.strct [(0,9),(1,9)],2,32,.agg [.s [],.s []],some (1,[.str,.str])⟩,
 abG,
 abG,
 abG,
 ⟨.int .u32,1,4,.v (.int .u32 0),some (0,[.int .u32])⟩,
 abG,
 abG,
 abG,
 ⟨.strct [(0,3),(1,3),(2,9)],3,32,.agg [.i 0,.i 0,.s []],some (1,[.int .i64,.int .i64,.str])⟩,
 ⟨.strct [(0,3),(1,3),(2,9)],3,32,.agg [.i 0,.i 0,.s []],some (1,[.int .i64,.int .i64,.str])⟩,
 abG,
 abG,
 ⟨.other,0,0,default,none⟩,
 abG,
 abG,
 abG,
 ⟨.other,0,0,default,none⟩,
 abG,
 abG,
 ⟨.other,0,0,default,none⟩,
 abG,
 abG,
 abG,
 ⟨.strct [(0,22),(1,38),(2,4)],3,40,.agg [.v (.pointer none),.sl [] .full,.b false],none⟩,
 ⟨.strct [(0,22),(1,38),(2,4)],3,40,.agg [.v (.pointer none),.sl [] .full,.b false],none⟩,
 abG,
 ⟨.strct [(0,41),(1,3),(2,4)],3,40,.agg [.sl [] .full,.i 0,.b false],none⟩,
 ⟨.strct [(0,41),(1,3),(2,4)],3,40,.agg [.sl [] .full,.i 0,.b false],none⟩,
 abG,
 ⟨.slice 186,1,24,.sl [] .full,none⟩,
 ⟨.other,0,0,default,none⟩,
 abG,
 ⟨.ptr 183,1,8,.v (.pointer none),none⟩,
 ⟨.strct [(0,178),(1,3),(2,3),(3,23),(4,3)],5,56,.agg [.sl [] .full,.i 0,.i 0,.i 0,.i 0],none⟩,
 ⟨.strct [(0,178),(1,3),(2,3),(3,23),(4,3)],5,56,.agg [.sl [] .full,.i 0,.i 0,.i 0,.i 0],none⟩,
 abG,
 ⟨.strct [(0,3),(1,3),(2,3),(3,9)],4,40,.agg [.i 0,.i 0,.i 0,.s []],some (1,[.int .i64,.int .i64,.int .i64,.str])⟩,
 ⟨.strct [(0,3),(1,3),(2,3),(3,9)],4,40,.agg [.i 0,.i 0,.i 0,.s []],some (1,[.int .i64,.int .i64,.int .i64,.str])⟩,
 abG,
 abG,
 abG,
 ⟨.other,0,0,default,none⟩,
 abG,
 abG,
 ⟨.slice 30,1,24,.sl [] .full,none⟩,
 abG,
 ⟨.strct [(0,3),(1,9),(2,193)],3,48,.agg [.i 0,.s [],.sl [] .full],none⟩,
 ⟨.strct [(0,3),(1,9),(2,193)],3,48,.agg [.i 0,.s [],.sl [] .full],none⟩,
 abG,
 abG,
 abG,
 abG,
 abG,
 abG,
 abG,
 ⟨.strct [(0,3),(1,9),(2,9)],3,40,.agg [.i 0,.s [],.s []],some (1,[.int .i64,.str,.str])⟩,
 ⟨.strct [(0,3),(1,9),(2,9)],3,40,.agg [.i 0,.s [],.s []],some (1,[.int .i64,.str,.str])⟩,
 abG,
 ⟨.ptr 134,1,8,.v (.pointer none),none⟩,
 abG,
 abG,
 abG,
 abG,
 abG,
 abG,
 ⟨.strct [(0,9),(1,30)],4,48,.agg [.s [],.i 0,.i 0,.s []],some (2,[.str,.int .i64,.int .i64,.str])⟩,
 ⟨.strct [(0,9),(1,30)],4,48,.agg [.s [],.i 0,.i 0,.s []],some (2,[.str,.int .i64,.int .i64,.str])⟩,
 abG,
 abG,
 abG,
 abG,
 abG,
 abG,
 ⟨.slice 229,1,24,.sl [] .full,none⟩,
 ⟨.strct [(0,9),(1,4),(2,60),(3,222),(4,63)],5,96,.agg [.s [],.b false,.sl [] .full,.sl [] .full,.sl [] .full],none⟩,
 ⟨.strct [(0,9),(1,4),(2,60),(3,222),(4,63)],5,96,.agg [.s [],.b false,.sl [] .full,.sl [] .full,.sl [] .full],none⟩,
 abG,
 ⟨.strct [(0,3),(1,9),(2,4)],3,32,.agg [.i 0,.s [],.b false],some (1,[.int .i64,.str,.bool])⟩,
 ⟨.strct [(0,3),(1,9),(2,4)],3,32,.agg [.i 0,.s [],.b false],some (1,[.int .i64,.str,.bool])⟩,
 ⟨.strct [(0,3),(1,30),(4,227)],7,72,.agg [.i 0,.i 0,.i 0,.s [],.i 0,.s [],.b false],some (2,[.int .i64,.int .i64,.int .i64,.str,.int .i64,.str,.bool])⟩,
 ⟨.strct [(0,3),(1,30),(4,227)],7,72,.agg [.i 0,.i 0,.i 0,.s [],.i 0,.s [],.b false],some (2,[.int .i64,.int .i64,.int .i64,.str,.int .i64,.str,.bool])⟩,
 abG,
 ⟨.other,0,0,default,none⟩,
 abG,
 ⟨.iface,1,16,.v .nilIface,none⟩,
 ⟨.iface,1,16,.v .nilIface,none⟩,
 ⟨.other,0,0,default,none⟩,
 abG,
 abG,
 abG,
 ⟨.other,0,0,default,none⟩,
 abG,
 ⟨.other,0,0,default,none⟩,
 abG,
 ⟨.other,0,0,default,none⟩,
 abG,
 abG,
 abG,
 abG,
 abG,
 abG,
 abG,
 abG,
 ⟨.ptr 255,1,8,.v (.pointer none),none⟩,
 ⟨.map 9 355,1,8,.v (.map none),none⟩,
 ⟨.strct [(0,253),(1,3)],2,16,.agg [.v (.map none),.i 0],none⟩,
 ⟨.strct [(0,253),(1,3)],2,16,.agg [.v (.map none),.i 0],none⟩,
 abG,
 abG,
 abG,
 abG,
 ⟨.slice 3,1,24,.sl [] .full,none⟩,
 abG,
 abG,
 abG,
 abG,
 abG,
 abG,
 abG,
 abG,
 abG,
 ⟨.slice 274,1,24,.sl [] .full,none⟩,
 abG,
 ⟨.strct [(0,227),(3,3),(4,30)],7,72,.agg [.i 0,.s [],.b false,.i 0,.i 0,.i 0,.s []],some (2,[.int .i64,.str,.bool,.int .i64,.int .i64,.int .i64,.str])⟩,
 ⟨.strct [(0,227),(3,3),(4,30)],7,72,.agg [.i 0,.s [],.b false,.i 0,.i 0,.i 0,.s []],some (2,[.int .i64,.str,.bool,.int .i64,.int .i64,.int .i64,.str])⟩,
 ⟨.slice 273,1,24,.sl [] .full,none⟩,
 abG,
 ⟨.ptr 278,1,8,.v (.pointer none),none⟩,
 ⟨.strct [(0,276),(1,41)],2,32,.agg [.v (.pointer none),.sl [] .full],none⟩,
 ⟨.strct [(0,276),(1,41)],2,32,.agg [.v (.pointer none),.sl [] .full],none⟩,
 abG,
 abG,
 abG,
 ⟨.other,0,0,default,none⟩,
 abG,
 abG,
 abG,
 abG,
 abG,
 abG,
 abG,
 abG,
 abG,
 ⟨.slice 119,1,24,.sl [] .full,none⟩,
 abG,
 abG,
 ⟨.other,0,0,default,none⟩,
 abG,
 abG,
 abG,
 abG,
 abG,
 abG,
 abG,
 abG,
 abG,
 abG,
 abG,
 abG,
 ⟨.int .i64,1,8,.i 0,some (0,[.int .i64])⟩,
 ⟨.other,0,0,default,none⟩,
 abG,
 ⟨.ptr 347,1,8,.v (.pointer none),none⟩,
 abG,
 abG,
 ⟨.ptr 5,1,8,.v (.pointer none),none⟩,
 abG,
 ⟨.other,0,0,default,none⟩,
 abG,
 abG,
 abG,
 abG,
 abG,
 abG,
 abG,
 abG,
 abG,
 ⟨.slice 34,1,24,.sl [] .full,none⟩,
 ⟨.other,0,0,default,none⟩,
 abG,
 abG,
 abG,
 ⟨.other,0,0,default,none⟩,
 abG,
 ⟨.other,0,0,default,none⟩,
 abG,
 abG,
 abG,
 abG,
 ⟨.arr 24 5,24,24,.agg [.v (.int .u8 0),.v (.int .u8 0),.v (.int .u8 0),.v (.int .u8 0),.v (.int .u8 0),.v (.int .u8 0),.v (.int .u8 0),.v (.int .u8 0),.v (.int .u8 0),.v (.int .u8 0),.v (.int .u8 0),.v (.int .u8 0),.v (.int .u8 0),.v (.int .u8 0),.v (.int .u8 0),.v (.int .u8 0),.v (.int .u8 0),.v (.int .u8 0),.v (.int .u8 0),.v (.int .u8 0),.v (.int .u8 0),.v (.int .u8 0),.v (.int .u8 0),.v (.int .u8 0)],some (1,[.int .u8,.int .u8,.int .u8,.int .u8,.int .u8,.int .u8,.int .u8,.int .u8,.int .u8,.int .u8,.int .u8,.int .u8,.int .u8,.int .u8,.int .u8,.int .u8,.int .u8,.int .u8,.int .u8,.int .u8,.int .u8,.int .u8,.int .u8,.int .u8])⟩,
 abG,
 abG,
 ⟨.other,0,0,default,none⟩,
 abG,
 abG,
 ⟨.other,0,0,default,none⟩,
 abG,
 ⟨.strct [(0,9),(1,9),(2,234)],3,48,.agg [.s [],.s [],.v .nilIface],none⟩,
 ⟨.strct [(0,9),(1,9),(2,234)],3,48,.agg [.s [],.s [],.v .nilIface],none⟩,
 abG,
 ⟨.other,1,8,.v (.pointer none),none⟩,
 abG,
 abG,
 abG,
 ⟨.other,0,0,default,none⟩,
 abG,
 ⟨.strct [],0,0,default,none⟩,
 ⟨.other,0,0,default,none⟩,
 abG,
 ⟨.slice 4,1,24,.sl [] .full,none⟩,
 ⟨.other,0,0,default,none⟩,
 abG,
 ⟨.other,0,0,default,none⟩,
 abG,
 ⟨.strct [(0,193),(1,30),(4,23)],5,64,.agg [.sl [] .full,.i 0,.i 0,.s [],.i 0],none⟩,
 ⟨.strct [(0,193),(1,30),(4,23)],5,64,.agg [.sl [] .full,.i 0,.i 0,.s [],.i 0],none⟩,
 abG,
 abG,
 abG,
 abG,
 abG,
 abG,
 abG,
 abG,
 abG,
 ⟨.arr 20 43,20,160,.agg [.v (.int .u64 0),.v (.int .u64 0),.v (.int .u64 0),.v (.int .u64 0),.v (.int .u64 0),.v (.int .u64 0),.v (.int .u64 0),.v (.int .u64 0),.v (.int .u64 0),.v (.int .u64 0),.v (.int .u64 0),.v (.int .u64 0),.v (.int .u64 0),.v (.int .u64 0),.v (.int .u64 0),.v (.int .u64 0),.v (.int .u64 0),.v (.int .u64 0),.v (.int .u64 0),.v (.int .u64 0)],some (1,[.int .u64,.int .u64,.int .u64,.int .u64,.int .u64,.int .u64,.int .u64,.int .u64,.int .u64,.int .u64,.int .u64,.int .u64,.int .u64,.int .u64,.int .u64,.int .u64,.int .u64,.int .u64,.int .u64,.int .u64])⟩,
 ⟨.arr 65 5,65,65,.agg [.v (.int .u8 0),.v (.int .u8 0),.v (.int .u8 0),.v (.int .u8 0),.v (.int .u8 0),.v (.int .u8 0),.v (.int .u8 0),.v (.int .u8 0),.v (.int .u8 0),.v (.int .u8 0),.v (.int .u8 0),.v (.int .u8 0),.v (.int .u8 0),.v (.int .u8 0),.v (.int .u8 0),.v (.int .u8 0),.v (.int .u8 0),.v (.int .u8 0),.v (.int .u8 0),.v (.int .u8 0),.v (.int .u8 0),.v (.int .u8 0),.v (.int .u8 0),.v (.int .u8 0),.v (.int .u8 0),.v (.int .u8 0),.v (.int .u8 0),.v (.int .u8 0),.v (.int .u8 0),.v (.int .u8 0),.v (.int .u8 0),.v (.int .u8 0),.v (.int .u8 0),.v (.int .u8 0),.v (.int .u8 0),.v (.int .u8 0),.v (.int .u8 0),.v (.int .u8 0),.v (.int .u8 0),.v (.int .u8 0),.v (.int .u8 0),.v (.int .u8 0),.v (.int .u8 0),.v (.int .u8 0),.v (.int .u8 0),.v (.int .u8 0),.v (.int .u8 0),.v (.int .u8 0),.v (.int .u8 0),.v (.int .u8 0),.v (.int .u8 0),.v (.int .u8 0),.v (.int .u8 0),.v (.int .u8 0),.v (.int .u8 0),.v (.int .u8 0),.v (.int .u8 0),.v (.int .u8 0),.v (.int .u8 0),.v (.int .u8 0),.v (.int .u8 0),.v (.int .u8 0),.v (.int .u8 0),.v (.int .u8 0),.v (.int .u8 0)],none⟩,
 abG,
 ⟨.other,0,0,default,none⟩,
 abG,
 abG,
 ⟨.ptr 382,1,8,.v (.pointer none),none⟩,
 ⟨.strct [(0,9)],1,16,.agg [.s []],some (1,[.str])⟩,
 ⟨.strct [(0,9)],1,16,.agg [.s []],some (1,[.str])⟩,
 abG,
 abG,
 ⟨.other,0,0,default,none⟩,
 abG,
 abG,
 abG,
 abG,
 ⟨.slice 364,1,24,.sl [] .full,none⟩,
 abG,
 ⟨.other,0,0,default,none⟩,
 ⟨.other,0,0,default,none⟩,
 abG,
 abG,
 abG,
 abG,
 abG,
 abG,
 abG,
 abG,
 abG,
 abG,
 abG,
 abG,
 abG,
 abG,
 abG,
 ⟨.arr 32 5,32,32,.agg [.v (.int .u8 0),.v (.int .u8 0),.v (.int .u8 0),.v (.int .u8 0),.v (.int .u8 0),.v (.int .u8 0),.v (.int .u8 0),.v (.int .u8 0),.v (.int .u8 0),.v (.int .u8 0),.v (.int .u8 0),.v (.int .u8 0),.v (.int .u8 0),.v (.int .u8 0),.v (.int .u8 0),.v (.int .u8 0),.v (.int .u8 0),.v (.int .u8 0),.v (.int .u8 0),.v (.int .u8 0),.v (.int .u8 0),.v (.int .u8 0),.v (.int .u8 0),.v (.int .u8 0),.v (.int .u8 0),.v (.int .u8 0),.v (.int .u8 0),.v (.int .u8 0),.v (.int .u8 0),.v (.int .u8 0),.v (.int .u8 0),.v (.int .u8 0)],some (1,[.int .u8,.int .u8,.int .u8,.int .u8,.int .u8,.int .u8,.int .u8,.int .u8,.int .u8,.int .u8,.int .u8,.int .u8,.int .u8,.int .u8,.int .u8,.int .u8,.int .u8,.int .u8,.int .u8,.int .u8,.int .u8,.int .u8,.int .u8,.int .u8,.int .u8,.int .u8,.int .u8,.int .u8,.int .u8,.int .u8,.int .u8,.int .u8])⟩,
 ⟨.arr 64 5,64,64,.agg [.v (.int .u8 0),.v (.int .u8 0),.v (.int .u8 0),.v (.int .u8 0),.v (.int .u8 0),.v (.int .u8 0),.v (.int .u8 0),.v (.int .u8 0),.v (.int .u8 0),.v (.int .u8 0),.v (.int .u8 0),.v (.int .u8 0),.v (.int .u8 0),.v (.int .u8 0),.v (.int .u8 0),.v (.int .u8 0),.v (.int .u8 0),.v (.int .u8 0),.v (.int .u8 0),.v (.int .u8 0),.v (.int .u8 0),.v (.int .u8 0),.v (.int .u8 0),.v (.int .u8 0),.v (.int .u8 0),.v (.int .u8 0),.v (.int .u8 0),.v (.int .u8 0),.v (.int .u8 0),.v (.int .u8 0),.v (.int .u8 0),.v (.int .u8 0),.v (.int .u8 0),.v (.int .u8 0),.v (.int .u8 0),.v (.int .u8 0),.v (.int .u8 0),.v (.int .u8 0),.v (.int .u8 0),.v (.int .u8 0),.v (.int .u8 0),.v (.int .u8 0),.v (.int .u8 0),.v (.int .u8 0),.v (.int .u8 0),.v (.int .u8 0),.v (.int .u8 0),.v (.int .u8 0),.v (.int .u8 0),.v (.int .u8 0),.v (.int .u8 0),.v (.int .u8 0),.v (.int .u8 0),.v (.int .u8 0),.v (.int .u8 0),.v (.int .u8 0),.v (.int .u8 0),.v (.int .u8 0),.v (.int .u8 0),.v (.int .u8 0),.v (.int .u8 0),.v (.int .u8 0),.v (.int .u8 0),.v (.int .u8 0)],none⟩,
 abG,
 abG,
 abG,
 abG,
 ⟨.other,0,0,default,none⟩,
 ⟨.strct [(0,17),(1,17),(2,17),(3,9)],4,40,.agg [.v (.pointer none),.v (.pointer none),.v (.pointer none),.s []],none⟩,
 ⟨.strct [(0,17),(1,17),(2,17),(3,9)],4,40,.agg [.v (.pointer none),.v (.pointer none),.v (.pointer none),.s []],none⟩,
 ⟨.arr 0 16,0,0,default,none⟩,
 ⟨.other,0,0,default,none⟩,
 ⟨.other,0,0,default,none⟩,
 ⟨.int .u8,1,1,.v (.int .u8 0),some (0,[.int .u8])⟩,
 ⟨.int .u8,1,1,.v (.int .u8 0),some (0,[.int .u8])⟩,
 abG,
 ⟨.int .i32,1,4,.v (.int .i32 0),some (0,[.int .i32])⟩,
 ⟨.int .i32,1,4,.v (.int .i32 0),some (0,[.int .i32])⟩,
 ⟨.strct [(0,12),(1,12),(2,153),(3,421),(4,5),(5,5),(6,422),(7,423),(8,314),(9,424),(10,425)],11,48,.agg [.v (.int .u64 0),.v (.int .u64 0),.v (.int .u32 0),.v (.int .u8 0),.v (.int .u8 0),.v (.int .u8 0),.v (.int .u8 0),.v .nilFunc,.v (.pointer none),.v (.int .i32 0),.v (.int .i32 0)],none⟩,
 ⟨.strct [(0,12),(1,12),(2,153),(3,421),(4,5),(5,5),(6,422),(7,423),(8,314),(9,424),(10,425)],11,48,.agg [.v (.int .u64 0),.v (.int .u64 0),.v (.int .u32 0),.v (.int .u8 0),.v (.int .u8 0),.v (.int .u8 0),.v (.int .u8 0),.v .nilFunc,.v (.pointer none),.v (.int .i32 0),.v (.int .i32 0)],none⟩]
def U(t:TypeId):TI:=LR.getD t ⟨.other,0,0,default,none⟩
@[go_sem] theorem U3k:(U 3).k= .int .i64∧(U 3).sz=1∧(U 3).bytes=8∧(U 3).zero= .i 0:=⟨rfl,rfl,rfl,rfl⟩
@[go_sem] theorem U4k:(U 4).k= .bool∧(U 4).sz=1∧(U 4).bytes=1∧(U 4).zero= .b false:=⟨rfl,rfl,rfl,rfl⟩
@[go_sem] theorem U5k:(U 5).k= .int .u8∧(U 5).sz=1∧(U 5).bytes=1∧(U 5).zero= .v (.int .u8 0):=⟨rfl,rfl,rfl,rfl⟩
@[go_sem] theorem U9k:(U 9).k= .str∧(U 9).sz=1∧(U 9).bytes=16∧(U 9).zero= .s []:=⟨rfl,rfl,rfl,rfl⟩
@[go_sem] theorem ZJ:(U 22).k= .ptr 96∧(U 22).sz=1∧(U 22).bytes=8∧(U 22).zero= .v (.pointer none):=⟨rfl,rfl,rfl,rfl⟩
@[go_sem] theorem ZN:(U 23).k= .int .i64∧(U 23).sz=1∧(U 23).bytes=8∧(U 23).zero= .i 0:=⟨rfl,rfl,rfl,rfl⟩
@[go_sem] theorem ZR:(U 26).k= .ptr 101∧(U 26).sz=1∧(U 26).bytes=8∧(U 26).zero= .v (.pointer none):=⟨rfl,rfl,rfl,rfl⟩
@[go_sem] theorem ZW:(U 30).k= .strct [(0,3),(1,3),(2,9)]∧(U 30).sz=3∧(U 30).bytes=32∧(U 30).zero= .agg [.i 0,.i 0,.s []]∧(U 30).eq=some (1,[.int .i64,.int .i64,.str]):=⟨rfl,rfl,rfl,rfl,rfl⟩
@[go_sem] theorem Z3:(U 32).k= .strct [(0,3),(1,9),(2,9),(3,9),(4,9),(5,30),(8,3),(9,9),(10,9),(11,4)]∧(U 32).sz=12∧(U 32).bytes=152∧(U 32).zero= .agg [.i 0,.s [],.s [],.s [],.s [],.i 0,.i 0,.s [],.i 0,.s [],.s [],.b false]∧(U 32).eq=some (2,[.int .i64,.str,.str,.str,.str,.int .i64,.int .i64,.str,.int .i64,.str,.str,.bool]):=⟨rfl,rfl,rfl,rfl,rfl⟩
@[go_sem] theorem Z7:(U 34).k= .cplx .f64∧(U 34).sz=1∧(U 34).bytes=16∧(U 34).zero= .v (.complex .f64 0 0):=⟨rfl,rfl,rfl,rfl⟩
@[go_sem] theorem aac:(U 36).k= .strct [(0,23),(1,34),(2,4),(3,30),(6,4),(7,3)]∧(U 36).sz=8∧(U 36).bytes=80∧(U 36).zero= .agg [.i 0,.v (.complex .f64 0 0),.b false,.i 0,.i 0,.s [],.b false,.i 0]∧(U 36).eq=some (2,[.int .i64,.cplx .f64,.bool,.int .i64,.int .i64,.str,.bool,.int .i64]):=⟨rfl,rfl,rfl,rfl,rfl⟩
@[go_sem] theorem aag:(U 38).k= .slice 41∧(U 38).sz=1∧(U 38).bytes=24∧(U 38).zero= .sl [] .full:=⟨rfl,rfl,rfl,rfl⟩
@[go_sem] theorem aak:(U 41).k= .slice 5∧(U 41).sz=1∧(U 41).bytes=24∧(U 41).zero= .sl [] .full:=⟨rfl,rfl,rfl,rfl⟩
@[go_sem] theorem aao:(U 43).k= .int .u64∧(U 43).sz=1∧(U 43).bytes=8∧(U 43).zero= .v (.int .u64 0):=⟨rfl,rfl,rfl,rfl⟩
@[go_sem] theorem aas:(U 54).k= .slice 32∧(U 54).sz=1∧(U 54).bytes=24∧(U 54).zero= .sl [] .full:=⟨rfl,rfl,rfl,rfl⟩
@[go_sem] theorem aaw:(U 55).k= .slice 134∧(U 55).sz=1∧(U 55).bytes=24∧(U 55).zero= .sl [] .full:=⟨rfl,rfl,rfl,rfl⟩
@[go_sem] theorem aaA:(U 56).k= .slice 143∧(U 56).sz=1∧(U 56).bytes=24∧(U 56).zero= .sl [] .full:=⟨rfl,rfl,rfl,rfl⟩
@[go_sem] theorem aaE:(U 57).k= .slice 146∧(U 57).sz=1∧(U 57).bytes=24∧(U 57).zero= .sl [] .full:=⟨rfl,rfl,rfl,rfl⟩
@[go_sem] theorem aaI:(U 58).k= .slice 149∧(U 58).sz=1∧(U 58).bytes=24∧(U 58).zero= .sl [] .full:=⟨rfl,rfl,rfl,rfl⟩
@[go_sem] theorem aaM:(U 60).k= .slice 270∧(U 60).sz=1∧(U 60).bytes=24∧(U 60).zero= .sl [] .full:=⟨rfl,rfl,rfl,rfl⟩
@[go_sem] theorem aaQ:(U 61).k= .slice 224∧(U 61).sz=1∧(U 61).bytes=24∧(U 61).zero= .sl [] .full:=⟨rfl,rfl,rfl,rfl⟩
@[go_sem] theorem aaU:(U 62).k= .slice 65∧(U 62).sz=1∧(U 62).bytes=24∧(U 62).zero= .sl [] .full:=⟨rfl,rfl,rfl,rfl⟩
@[go_sem] theorem aaY:(U 63).k= .slice 158∧(U 63).sz=1∧(U 63).bytes=24∧(U 63).zero= .sl [] .full:=⟨rfl,rfl,rfl,rfl⟩
@[go_sem] theorem aa2:(U 65).k= .strct [(0,9),(1,4),(2,3),(3,60),(4,61),(5,62),(6,63)]∧(U 65).sz=7∧(U 65).bytes=128∧(U 65).zero= .agg [.s [],.b false,.i 0,.sl [] .full,.sl [] .full,.sl [] .full,.sl [] .full]:=⟨rfl,rfl,rfl,rfl⟩
@[go_sem] theorem aa6:(U 67).k= .strct [(0,3),(1,55),(2,56),(3,57),(4,58),(5,65),(12,3)]∧(U 67).sz=13∧(U 67).bytes=240∧(U 67).zero= .agg [.i 0,.sl [] .full,.sl [] .full,.sl [] .full,.sl [] .full,.s [],.b false,.i 0,.sl [] .full,.sl [] .full,.sl [] .full,.sl [] .full,.i 0]:=⟨rfl,rfl,rfl,rfl⟩
@[go_sem] theorem aba:(U 71).k= .strct [(0,32),(12,3),(13,34),(14,4),(15,63)]∧(U 71).sz=16∧(U 71).bytes=208∧(U 71).zero= .agg [.i 0,.s [],.s [],.s [],.s [],.i 0,.i 0,.s [],.i 0,.s [],.s [],.b false,.i 0,.v (.complex .f64 0 0),.b false,.sl [] .full]:=⟨rfl,rfl,rfl,rfl⟩
@[go_sem] theorem abe:(U 77).k= .slice 9∧(U 77).sz=1∧(U 77).bytes=24∧(U 77).zero= .sl [] .full:=⟨rfl,rfl,rfl,rfl⟩
@[go_sem] theorem abi:(U 84).k= .slice 71∧(U 84).sz=1∧(U 84).bytes=24∧(U 84).zero= .sl [] .full:=⟨rfl,rfl,rfl,rfl⟩
@[go_sem] theorem abm:(U 96).k= .strct [(0,3),(1,41),(2,3),(3,3),(4,4)]∧(U 96).sz=5∧(U 96).bytes=56∧(U 96).zero= .agg [.i 0,.sl [] .full,.i 0,.i 0,.b false]:=⟨rfl,rfl,rfl,rfl⟩
@[go_sem] theorem abq:(U 97).k= .ptr 173∧(U 97).sz=1∧(U 97).bytes=8∧(U 97).zero= .v (.pointer none):=⟨rfl,rfl,rfl,rfl⟩
@[go_sem] theorem WG:(U 101).k= .strct [(0,97),(1,67),(14,84),(15,43)]∧(U 101).sz=16∧(U 101).bytes=280∧(U 101).zero= .agg [.v (.pointer none),.i 0,.sl [] .full,.sl [] .full,.sl [] .full,.sl [] .full,.s [],.b false,.i 0,.sl [] .full,.sl [] .full,.sl [] .full,.sl [] .full,.i 0,.sl [] .full,.v (.int .u64 0)]:=⟨rfl,rfl,rfl,rfl⟩
@[go_sem] theorem WK:(U 103).k= .int .u64∧(U 103).sz=1∧(U 103).bytes=8∧(U 103).zero= .v (.int .u64 0):=⟨rfl,rfl,rfl,rfl⟩
@[go_sem] theorem WO:(U 119).k= .strct [(0,34),(1,63)]∧(U 119).sz=2∧(U 119).bytes=40∧(U 119).zero= .agg [.v (.complex .f64 0 0),.sl [] .full]:=⟨rfl,rfl,rfl,rfl⟩
@[go_sem] theorem WT:(U 123).k= .slice 196∧(U 123).sz=1∧(U 123).bytes=24∧(U 123).zero= .sl [] .full:=⟨rfl,rfl,rfl,rfl⟩
@[go_sem] theorem WX:(U 131).k= .slice 215∧(U 131).sz=1∧(U 131).bytes=24∧(U 131).zero= .sl [] .full:=⟨rfl,rfl,rfl,rfl⟩
@[go_sem] theorem W3:(U 132).k= .slice 205∧(U 132).sz=1∧(U 132).bytes=24∧(U 132).zero= .sl [] .full:=⟨rfl,rfl,rfl,rfl⟩
@[go_sem] theorem W7:(U 134).k= .strct [(0,9),(1,9),(2,9),(3,131),(4,132)]∧(U 134).sz=5∧(U 134).bytes=96∧(U 134).zero= .agg [.s [],.s [],.s [],.sl [] .full,.sl [] .full]:=⟨rfl,rfl,rfl,rfl⟩
@[go_sem] theorem Xb:(U 143).k= .strct [(0,3),(1,3),(2,9),(3,9),(4,9),(5,9),(6,4)]∧(U 143).sz=7∧(U 143).bytes=88∧(U 143).zero= .agg [.i 0,.i 0,.s [],.s [],.s [],.s [],.b false]:=⟨rfl,rfl,rfl,rfl⟩
@[go_sem] theorem Xf:(U 146).k= .strct [(0,3),(1,9),(2,9)]∧(U 146).sz=3∧(U 146).bytes=40∧(U 146).zero= .agg [.i 0,.s [],.s []]:=⟨rfl,rfl,rfl,rfl⟩
@[go_sem] theorem Xk:(U 149).k= .strct [(0,9),(1,9)]∧(U 149).sz=2∧(U 149).bytes=32∧(U 149).zero= .agg [.s [],.s []]∧(U 149).eq=some (1,[.str,.str]):=⟨rfl,rfl,rfl,rfl,rfl⟩
@[go_sem] theorem Xo:(U 153).k= .int .u32∧(U 153).sz=1∧(U 153).bytes=4∧(U 153).zero= .v (.int .u32 0):=⟨rfl,rfl,rfl,rfl⟩
@[go_sem] theorem Xs:(U 158).k= .strct [(0,3),(1,3),(2,9)]∧(U 158).sz=3∧(U 158).bytes=32∧(U 158).zero= .agg [.i 0,.i 0,.s []]:=⟨rfl,rfl,rfl,rfl⟩
@[go_sem] theorem Xw:(U 173).k= .strct [(0,22),(1,38),(2,4)]∧(U 173).sz=3∧(U 173).bytes=40∧(U 173).zero= .agg [.v (.pointer none),.sl [] .full,.b false]:=⟨rfl,rfl,rfl,rfl⟩
@[go_sem] theorem XA:(U 176).k= .strct [(0,41),(1,3),(2,4)]∧(U 176).sz=3∧(U 176).bytes=40∧(U 176).zero= .agg [.sl [] .full,.i 0,.b false]:=⟨rfl,rfl,rfl,rfl⟩
@[go_sem] theorem XF:(U 178).k= .slice 186∧(U 178).sz=1∧(U 178).bytes=24∧(U 178).zero= .sl [] .full:=⟨rfl,rfl,rfl,rfl⟩
@[go_sem] theorem XJ:(U 183).k= .strct [(0,178),(1,3),(2,3),(3,23),(4,3)]∧(U 183).sz=5∧(U 183).bytes=56∧(U 183).zero= .agg [.sl [] .full,.i 0,.i 0,.i 0,.i 0]:=⟨rfl,rfl,rfl,rfl⟩
@[go_sem] theorem XN:(U 186).k= .strct [(0,3),(1,3),(2,3),(3,9)]∧(U 186).sz=4∧(U 186).bytes=40∧(U 186).zero= .agg [.i 0,.i 0,.i 0,.s []]:=⟨rfl,rfl,rfl,rfl⟩
@[go_sem] theorem XR:(U 193).k= .slice 30∧(U 193).sz=1∧(U 193).bytes=24∧(U 193).zero= .sl [] .full:=⟨rfl,rfl,rfl,rfl⟩
@[go_sem] theorem XV:(U 196).k= .strct [(0,3),(1,9),(2,193)]∧(U 196).sz=3∧(U 196).bytes=48∧(U 196).zero= .agg [.i 0,.s [],.sl [] .full]:=⟨rfl,rfl,rfl,rfl⟩
@[go_sem] theorem XZ:(U 205).k= .strct [(0,3),(1,9),(2,9)]∧(U 205).sz=3∧(U 205).bytes=40∧(U 205).zero= .agg [.i 0,.s [],.s []]:=⟨rfl,rfl,rfl,rfl⟩
@[go_sem] theorem X3:(U 215).k= .strct [(0,9),(1,30)]∧(U 215).sz=4∧(U 215).bytes=48∧(U 215).zero= .agg [.s [],.i 0,.i 0,.s []]:=⟨rfl,rfl,rfl,rfl⟩
@[go_sem] theorem X7:(U 222).k= .slice 229∧(U 222).sz=1∧(U 222).bytes=24∧(U 222).zero= .sl [] .full:=⟨rfl,rfl,rfl,rfl⟩
@[go_sem] theorem Yb:(U 224).k= .strct [(0,9),(1,4),(2,60),(3,222),(4,63)]∧(U 224).sz=5∧(U 224).bytes=96∧(U 224).zero= .agg [.s [],.b false,.sl [] .full,.sl [] .full,.sl [] .full]:=⟨rfl,rfl,rfl,rfl⟩
@[go_sem] theorem Yg:(U 227).k= .strct [(0,3),(1,9),(2,4)]∧(U 227).sz=3∧(U 227).bytes=32∧(U 227).zero= .agg [.i 0,.s [],.b false]∧(U 227).eq=some (1,[.int .i64,.str,.bool]):=⟨rfl,rfl,rfl,rfl,rfl⟩
@[go_sem] theorem Yk:(U 229).k= .strct [(0,3),(1,30),(4,227)]∧(U 229).sz=7∧(U 229).bytes=72∧(U 229).zero= .agg [.i 0,.i 0,.i 0,.s [],.i 0,.s [],.b false]:=⟨rfl,rfl,rfl,rfl⟩
@[go_sem] theorem Yo:(U 253).k= .map 9 355∧(U 253).sz=1∧(U 253).bytes=8∧(U 253).zero= .v (.map none):=⟨rfl,rfl,rfl,rfl⟩
@[go_sem] theorem Ys:(U 255).k= .strct [(0,253),(1,3)]∧(U 255).sz=2∧(U 255).bytes=16∧(U 255).zero= .agg [.v (.map none),.i 0]:=⟨rfl,rfl,rfl,rfl⟩
@[go_sem] theorem Yw:(U 260).k= .slice 3∧(U 260).sz=1∧(U 260).bytes=24∧(U 260).zero= .sl [] .full:=⟨rfl,rfl,rfl,rfl⟩
@[go_sem] theorem YA:(U 270).k= .slice 274∧(U 270).sz=1∧(U 270).bytes=24∧(U 270).zero= .sl [] .full:=⟨rfl,rfl,rfl,rfl⟩
@[go_sem] theorem YF:(U 273).k= .strct [(0,227),(3,3),(4,30)]∧(U 273).sz=7∧(U 273).bytes=72∧(U 273).zero= .agg [.i 0,.s [],.b false,.i 0,.i 0,.i 0,.s []]:=⟨rfl,rfl,rfl,rfl⟩
@[go_sem] theorem YJ:(U 274).k= .slice 273∧(U 274).sz=1∧(U 274).bytes=24∧(U 274).zero= .sl [] .full:=⟨rfl,rfl,rfl,rfl⟩
@[go_sem] theorem YN:(U 292).k= .slice 119∧(U 292).sz=1∧(U 292).bytes=24∧(U 292).zero= .sl [] .full:=⟨rfl,rfl,rfl,rfl⟩
@[go_sem] theorem YS:(U 326).k= .slice 34∧(U 326).sz=1∧(U 326).bytes=24∧(U 326).zero= .sl [] .full:=⟨rfl,rfl,rfl,rfl⟩
@[go_sem] theorem YV:(U 355).k= .strct []∧(U 355).sz=0:=⟨rfl,rfl⟩
@[go_sem] theorem YY:(U 358).k= .slice 4∧(U 358).sz=1∧(U 358).bytes=24∧(U 358).zero= .sl [] .full:=⟨rfl,rfl,rfl,rfl⟩
@[go_sem] theorem Y2:(U 364).k= .strct [(0,193),(1,30),(4,23)]∧(U 364).sz=5∧(U 364).bytes=64∧(U 364).zero= .agg [.sl [] .full,.i 0,.i 0,.s [],.i 0]:=⟨rfl,rfl,rfl,rfl⟩
@[go_sem] theorem Y6:(U 390).k= .slice 364∧(U 390).sz=1∧(U 390).bytes=24∧(U 390).zero= .sl [] .full:=⟨rfl,rfl,rfl,rfl⟩
theorem hU:∀t,aN Tryz.prog U t:=Hj 428 abM fun t ht=>by
 unfold U;rw[List.getD_eq_getElem?_getD,List.getElem?_eq_none (show LR.length≤t from ht)]
 rfl
theorem hm:Tryz.prog.follows .mixedOrders=true:=abM
end Go.Proofs.YtcochaoekecfdaaGreatDoor
namespace Go.Proofs.YtcochaoekecfdaaGreatDoor
open Go Go.Ab Go.Bf
theorem abH {f:FuncId} {fn:Func} {c:Code} {args:List AV} {h:Heap} {Q:AV→Heap→Prop} (hf:Tryz.prog.funcs[f]? =some fn) (m:Nat) (rs:List ResultVar) (hk:(∀x∈args,wfA x)→bF Tryz.prog U m c (xw args) h (vg U rs Q)) (hb:fn.body=some c:=by exact rfl) (hn:(fn.name=="runtime.NumGoroutine")=false:=by kernel_rfl) (h1:fn.ntmps=m:=by exact rfl) (h2:fn.results.toList=rs:=by exact rfl) (hl:args.length≤m:=by exact Nat.le_of_ble_eq_true rfl):ai Tryz.prog f args h Q:=ai.body hU hm hf hb hn m h1 rs h2 hl hk
theorem oo(l:Txt)(h:Heap):ai Tryz.prog 51 [.s l] h fun r h' =>r= .b (br l)∧h' =h:=by
 refine abH Tryz.func51 49 [.tmp 2] fun hwf=> ?_
 simp only[go_sem];refine .intro (fun m ρ h' =>h' =h∧∃i:Nat,i≤l.length∧m=l.length - i∧vi (l.take i)=true∧lk ρ 0=some (.s l)∧lk ρ 8=some (.i l.length)∧lk ρ 9=some (.i i)) l.length ?_ ?_
 ·refine⟨rfl,0,abI,rfl,rfl, ?_, ?_, ?_⟩<;>simp only[go_sem]
 ·rintro m ρ h' ⟨rfl,i,hi,rfl,hc,r0,r8,r9⟩
  simp only[go_sem,r8,r9];refine .intro (fun e=> ?_) (fun e=> ?_)
  ·have hlt:i<l.length:=abF e
   have w1:IntKind.i64.wrap ((i:Int)+1)=((i+1:Nat):Int):=by rw[bg _ (by have:=hwf (.s l) abQ;simp only[wfA,wf1,lim]at this;omega)];omega
   have w0:IntKind.i64.wrap (0+1)=1:=rfl;have hb:=Hx l i hlt;have hg:=Ek l i hlt;rw[hc]at hg;have hcl:=ME l[i];have h255:=l[i].toNat_lt;simp only[go_sem,r0,r9];refine .at i hlt ?_;generalize hcc:l[i]=c at hb hg hcl h255⊢
   by_cases hi0:i=0
   ·subst hi0
    rcases hcl with⟨a1,a2,a3,a4,a5⟩|⟨a1,a2,a3,a4,a5⟩|⟨a1,a2,a3,a4,a5⟩|⟨a1,a2,a3,a4,a5⟩|⟨a1,a2,a3,a4,a5⟩|⟨a1,a2,a3,a4,a5⟩
    ·simp only[go_sem,r9,a1,a2,a3,a4,a5,w0]
     refine⟨_, ?_,rfl,0+1,abI,rfl,by simp[hg,sA,ltr,a1,a2], ?_, ?_, ?_⟩
     ·omega
     all_goals simp only[go_sem,r0,r8]
    all_goals
     simp only[go_sem,a1,a2,a3,a4,a5];exact .same (.refl _) ⟨by simp[br,hb (by simp[sA,ltr,a1,a2]),au],rfl⟩
   ·have hin:((i:Int)==0)=false:=by simp;omega
    rcases hcl with⟨a1,a2,a3,a4,a5⟩|⟨a1,a2,a3,a4,a5⟩|⟨a1,a2,a3,a4,a5⟩|⟨a1,a2,a3,a4,a5⟩|⟨a1,a2,a3,a4,a5⟩|⟨a1,a2,a3,a4,a5⟩
    ·simp only[go_sem,r9,a1,a2,a3,a4,a5,w1]
     exact agq
    ·simp only[go_sem,r9,a1,a3,a4,w1,hin]
     exact agq
    ·simp only[go_sem,r9,a1,a3,a4,a5,w1,hin]
     exact agq
    ·simp only[go_sem,a1,a3,a5,hin]
     exact .same (.refl _) ⟨adp,rfl⟩
    ·simp only[go_sem,a1,a3,a4,a5,hin]
     exact .same (.refl _) ⟨adp,rfl⟩
    ·simp only[go_sem,a1,a2,a3,a4,a5,hin]
     exact .same (.refl _) ⟨adp,rfl⟩
  ·have hge:i=l.length:=by have:=abB e;omega
   subst hge;rw[List.take_length]at hc
   by_cases h0:l= []
   ·subst h0
    have b0:((([]:Txt)== [])=true):=rfl;simp only[go_sem,r0,b0];exact abU
   ·have b0:(l== [])=false:=by simpa using h0
    have hp:1≤l.length:=List.length_pos_iff.2 h0;simp only[go_sem,r0,b0];exact .same (.refl _) ⟨by simp[br,hc,au,hp];omega,rfl⟩
theorem FZ(a:pz)(h:Heap):ai Tryz.prog 316 [Ca a] h fun r h' =>r= .b (pI a)∧h' =h:=by
 refine abH Tryz.func316 16 [.tmp 2] fun hwf=> ?_
 simp only[go_sem,Ca];intro id hid;cases d1:decide (1≤a.cat)
 ·simp only[go_sem,d1]
  exact agX
 cases d2:decide (a.cat≤4)
 ·simp only[go_sem,d1,d2]
  exact agX
 simp only[go_sem,d1,d2];refine(oo _ _).pthen ?_;simp only[go_sem];exact agX
theorem fY(v:bA)(h:Heap):ai Tryz.prog 54 [aR v] h fun r h' =>r= .b (bI v)∧h' =h:=by
 refine abH Tryz.func54 61 [.tmp 2] fun hwf=> ?_
 simp only[go_sem,aR];intro id hid;cases k1:(v.kind==1)
 case true=>
  have e1:v.kind=1:=abJ;cases d1:(v.n==0)<;>cases d2:(v.n==1)
  ·simp only[go_sem,k1,d1,d2]
   exact .mk _ (.refl _) (.ak hid) ⟨ae0,rfl⟩
  all_goals
   simp only[go_sem,k1,d1,d2];exact .mk _ (.refl _) (.ak hid) ⟨ae0,rfl⟩
 have n1:v.kind≠1:=abJ;cases k2:(v.kind==2)
 case true=>
  have e1:v.kind=2:=abJ;simp only[go_sem,k1,k2];exact .mk _ (.refl _) (.ak hid) ⟨ae0,rfl⟩
 have n2:v.kind≠2:=abJ;cases k3:(v.kind==3)
 case true=>
  have e1:v.kind=3:=abJ;cases d1:(v.n==0)
  all_goals
   simp only[go_sem,k1,k2,k3,d1];exact .mk _ (.refl _) (.ak hid) ⟨by simp[bI,e1,d1,au]<;>omega,rfl⟩
 have n3:v.kind≠3:=abJ;cases k4:(v.kind==4)
 case true=>
  have e1:v.kind=4:=abJ;cases d1:decide (0≤v.n)<;>cases d2:decide (v.n≤1099511627776)
  all_goals
   simp only[go_sem,k1,k2,k3,k4,d1,d2];exact .mk _ (.refl _) (.ak hid) ⟨ae0,rfl⟩
 have n4:v.kind≠4:=abJ;cases k5:(v.kind==5)
 case true=>
  have e1:v.kind=5:=abJ;cases d1:(v.n==0)
  ·simp only[go_sem,k1,k2,k3,k4,k5,d1]
   exact .mk _ (.refl _) (.ak hid) ⟨ae0,rfl⟩
  ·simp only[go_sem,k1,k2,k3,k4,k5,d1]
   refine(oo _ _).pthen ?_;simp only[go_sem];exact .mk _ (.refl _) (.ak hid) ⟨ae0,rfl⟩
 have n5:v.kind≠5:=abJ;simp only[go_sem,k1,k2,k3,k4,k5];exact .mk _ (.refl _) (.ak hid) ⟨ae0,rfl⟩
theorem KQ(m:bP)(h:Heap):ai Tryz.prog 315 [dD m] h fun r h' =>r= .b (j8 m)∧h' =h:=by
 refine abH Tryz.func315 21 [.tmp 2] fun hwf=> ?_
 simp only[go_sem,dD];intro id hid;simp only[go_sem];refine(FZ m.attr _).pthen ?_;cases d0:pI m.attr
 ·simp only[go_sem]
  exact agB
 cases d1:decide (1≤m.op)
 ·simp only[go_sem,d1]
  exact agB
 cases d2:decide (m.op≤3)
 ·simp only[go_sem,d1,d2]
  exact agB
 simp only[go_sem,d1,d2];refine(fY m.val _).pthen ?_;simp only[go_sem];exact agB
theorem Gp(n:Nat)(h:Heap):ai Tryz.prog 297 [.i n] h fun r h' =>r= .i (jN n)∧h' =h:=by
 refine abH Tryz.func297 9 [.tmp 2] fun hwf=> ?_
 cases d1:((n:Int)==0)
 case true=>
  simp only[go_sem,d1];exact .same (.refl _) ⟨by grind [jN,au],rfl⟩
 cases d2:decide (8<(n:Int))
 ·have e2:¬n>8:=by grind
  exact ahg
 ·have e2:n>8:=by grind
  exact ahg
theorem C6{n:Nat}(h:jN n=0):1≤n∧n≤8:=by
 grind [jN]
theorem JI(l:List bP)(h:Heap):ai Tryz.prog 298 [iI l] h fun r h' =>r= .i (vW l)∧h' =h:=by
 refine abH Tryz.func298 22 [.tmp 2] fun hwf=> ?_
 simp only[go_sem,iI,aby];refine(Gp _ _).pthen ?_;cases d1:(jN l.length !=0)
 case true=>
  have e1:jN l.length≠0:=abJ;simp only[go_sem,d1];exact .same (.refl _) ⟨by grind [vW,au],rfl⟩
 have e1:jN l.length=0:=abJ;have hlen:=C6 e1;simp only[go_sem,d1,aby];refine .intro (fun m ρ h' =>Ab.Sub h h'∧∃i:Nat,i≤l.length∧m=l.length - i∧(l.take i).all j8=true∧lk ρ 12=some (iI l)∧lk ρ 13=some (.i l.length)∧lk ρ 14=some (.i i)) l.length ?_ ?_
 ·refine⟨.refl _,0,abI,rfl,rfl, ?_, ?_, ?_⟩<;>simp only[go_sem,iI]
 ·rintro m ρ h' ⟨hs,i,hi,rfl,hc,r12,r13,r14⟩
  simp only[go_sem,r13,r14];refine .intro (fun e=> ?_) (fun e=> ?_)
  ·have hlt:i<l.length:=abF e
   have w1:IntKind.i64.wrap ((i:Int)+1)=((i+1:Nat):Int):=abV;simp only[go_sem,r12,r14,iI];refine .at i abJ abY ?_;simp only[go_sem,abz,dD];intro id hid;simp only[go_sem];refine(KQ l[i] _).pthen ?_;cases d2:j8 l[i]
   ·simp only[go_sem]
    refine .mk _ (.refl _) (hs.new hid _) ⟨?_,rfl⟩;have:l.all j8=false:=List.all_eq_false.2 ⟨_,abD hlt,abJ⟩;simp[vW,e1,this,au]
   ·simp only[go_sem,r14,w1]
    refine⟨_, ?_,hs.new hid _,i+1,abI,rfl, ?_, ?_, ?_, ?_⟩
    ·omega
    ·grind [List.take_succ_eq_append_getElem]
    all_goals simp only[go_sem,r12,r13,iI]
  ·have hge:i=l.length:=by grind
   subst hge;rw[List.take_length]at hc;simp only[go_sem];exact .mk _ (.refl _) hs ⟨by grind [vW,au],rfl⟩
theorem aC{h:Heap}{i j:Nat}{b:Blk}(e:upd h i (some b) j=none):h j=none:=by grind [ag,aH]
theorem LZ{v:bA}(h:(v.kind==(0:Int) && (v.n==(0:Int) && v.s==([]:Txt)))=false):¬v.kind=0∨¬v.n=0∨¬v.s= []:=by
 grind
theorem LY{v:bA}(h:(v.kind==(0:Int) && (v.n==(0:Int) && v.s==([]:Txt)))=true):v.kind=0∧v.n=0∧v.s= []:=by
 grind
theorem II(k:Int)(h:Heap):ai Tryz.prog 106 [.i k] h fun r h' =>r= .b (uA k)∧h' =h:=by
 refine abH Tryz.func106 9 [.tmp 2] fun hwf=> ?_
 cases d1:decide (1≤k)
 ·simp -implicitDefEqProofs only[go_sem,d1]
  exact .same (.refl _) ⟨by simp only[uA,d1,au,Bool.false_and],rfl⟩
 ·simp -implicitDefEqProofs only[go_sem,d1]
  exact .same (.refl _) ⟨by simp_all [uA,au,Bool.true_and],rfl⟩
theorem xq(s:Txt)(h:Heap):ai Tryz.prog 53 [.s s] h fun r h' =>r= .b (iK s)∧h' =h:=by
 refine abH Tryz.func53 9 [.tmp 2] fun hwf=> ?_
 cases d1:(s==([]:Txt))
 ·simp -implicitDefEqProofs only[go_sem,d1]
  refine(oo s h).pthen ?_;simp -implicitDefEqProofs only[go_sem];exact .same (.refl _) ⟨by simp_all [iK,au,Bool.false_or],rfl⟩
 ·simp -implicitDefEqProofs only[go_sem,d1]
  exact .same (.refl _) ⟨by simp_all [iK,au,Bool.true_or],rfl⟩
theorem EM(a b:Txt)(h:Heap):ai Tryz.prog 170 [.s a,.s b] h fun r h' =>r= .b (lW a b)∧h' =h:=by
 refine abH Tryz.func170 22 [.tmp 4] fun hwf=> ?_
 cases d1:(a==jl)<;>cases d2:(a==vT)<;>cases d3:(a==zY)<;>cases d4:(b==vT)<;>simp only[jl,vT,zY]at d1 d2 d3 d4<;>simp -implicitDefEqProofs only[go_sem,d1,d2,d3,d4]<;>
  exact .same (.refl _) ⟨by simp only[lW,d1,d2,d3,d4,au,jl,vT,zY,gL,if_true,Bool.false_eq_true,if_false,Bool.true_or,Bool.false_or],rfl⟩
theorem zN(k:Int)(hk:i64 k)(h:Heap):ai Tryz.prog 100 [.i k] h fun r h' =>r= .s (js k)∧h' =h:=by
 refine abH Tryz.func100 18 [.tmp 2] fun hwf=> ?_
 simp -implicitDefEqProofs only[go_sem];cases d1:decide (k<1)
 case true=>
  simp -implicitDefEqProofs only[go_sem];exact .same (.refl _) ⟨by simp_all [js,abA,true_or,if_true,au],rfl⟩
 cases d2:decide ((7:Int)<k)
 case true=>
  simp -implicitDefEqProofs only[go_sem,d2];exact .same (.refl _) ⟨by simp_all [js,abA,or_true,if_true,au],rfl⟩
 have h1:=abB d1;have h2:=abB d2;obtain⟨j,rfl⟩:∃j:Nat,k=(j:Int)+1:=⟨(k - 1).toNat,abI⟩;have hj:j<7:=abI;have w1:IntKind.i64.wrap ((j:Int)+1 - 1)=(j:Int):=abV;simp -implicitDefEqProofs only[go_sem,d2,w1];refine .at j abI (by rcases j with _|_|_|_|_|_|_|j<;>first|rfl|omega) ?_
 rcases j with _|_|_|_|_|_|_|j
 all_goals first|omega|skip
 all_goals
  simp -implicitDefEqProofs only[go_sem,List.getElem_cons_zero,List.getElem_cons_succ];exact .same (.refl _) ⟨abW,rfl⟩
theorem IX(o:OpD)(h:Heap):ai Tryz.prog 52 [opA o] h fun r h' =>r= .v (.bool (lF o))∧h' =h:=by
 refine abH Tryz.func52 23 [.tmp 2] fun hwf=> ?_
 simp -implicitDefEqProofs only[go_sem,opA,opC];intro id hid;cases d1:o.glass
 ·simp -implicitDefEqProofs only[go_sem]
  exact agY
 simp -implicitDefEqProofs only[go_sem];refine(II _ _).pthen ?_;cases d2:uA o.kind
 ·simp -implicitDefEqProofs only[go_sem]
  exact agY
 cases d3:(o.reason==([]:Txt))
 ·simp -implicitDefEqProofs only[go_sem,d3]
  exact .mk _ (.refl _) (.ak hid) ⟨by
   simp only[lF,d1,d2,d3,au,if_true,Bool.not_false,Bool.true_and]
   congr 2
   grind,rfl⟩
 ·simp -implicitDefEqProofs only[go_sem,d3]
  exact agY
theorem Mz(o:OpD)(h:Heap):ai Tryz.prog 107 [opA o] h fun r h' =>r=opA (gJ o)∧h' =h:=by
 refine abH Tryz.func107 7 [.cell 2 32] fun hwf=> ?_
 simp -implicitDefEqProofs only[go_sem,opA,opC];intro i1 h1;simp -implicitDefEqProofs only[go_sem];intro i2 h2;have hne:=aH h2;simp -implicitDefEqProofs only[go_sem,aj,hne,hne.symm];have n2:=aC h2;exact .mk _ (.refl _) (((((Sub.refl h).put h1 _).put n2 _).put h1 _).put n2 _) ⟨rfl,rfl⟩
theorem LK(o:OpD)(h:Heap):ai Tryz.prog 55 [opA o] h fun r h' =>r= .b (dF o)∧h' =h:=by
 have hb:=fun hh=>Mz o hh
 simp only[gJ,opA,opC]at hb;refine abH Tryz.func55 111 [.tmp 2] fun hwf=> ?_
 simp -implicitDefEqProofs only[go_sem,opA,opC];intro i1 h1;simp -implicitDefEqProofs only[go_sem];refine(hb _).pthen ?_;simp -implicitDefEqProofs only[go_sem];intro i3 h3;have n31:=aH h3;have n3:=aC h3;simp -implicitDefEqProofs only[go_sem,aj,n31.symm];intro i4 h4;have n43:=aH h4;have h4' :=aC h4;have n41:=aH h4';have n4:=aC h4';have bnd:o.kind≠1→o.kind≠2→o.kind≠3→o.kind≠4→o.kind≠5→o.kind≠6→o.kind≠7→o.kind≠8→(decide (1≤o.kind) && decide (o.kind≤8))=false:=by
  intro a1 a2 a3 a4 a5 a6 a7 a8;simp only[Bool.and_eq_false_iff,decide_eq_false_iff_not];omega
 by_cases k1:o.kind=1
 ·simp -implicitDefEqProofs only[go_sem,aj,n31.symm,n41.symm,k1]
  cases dcase:(o.case==([]:Txt))
  ·simp -implicitDefEqProofs only[go_sem,aj,n43.symm]
   exact .mk _ (.refl _) abO ⟨by simp[dF,okD,iH,gJ,mo,ax,au,k1,decide_true,dcase,Bool.and_true,Bool.true_and,Bool.not_false],rfl⟩
  ·simp -implicitDefEqProofs only[go_sem]
   exact .mk _ (.refl _) abO ⟨by simp[dF,okD,iH,gJ,mo,ax,au,k1,decide_true,dcase,Bool.and_true,Bool.true_and,Bool.false_and,Bool.and_false,Bool.not_true],rfl⟩
 by_cases k2:o.kind=2
 ·simp -implicitDefEqProofs only[go_sem,aj,n31.symm,n41.symm,k2,Int.reduceBEq]
  refine .calls (hm1 i1 _) [0,1,2,3,4,5,6,7] (.hm1 adr) abM rfl ?_;simp -implicitDefEqProofs only[go_sem,aj,n31.symm,n41.symm];refine⟨(.hm1 ab5),(.hm1 ab5), ?_⟩;cases dcase:(o.case==([]:Txt))
  ·simp -implicitDefEqProofs only[go_sem,aj,n31.symm,n41.symm]
   cases dfield:(o.field==([]:Txt))
   ·simp -implicitDefEqProofs only[go_sem,aj,n43.symm]
    exact .mk _ (.refl _) abO ⟨by simp[dF,okD,iH,gJ,mo,ax,au,k2,decide_true,dcase,dfield,Bool.and_true,Bool.true_and,Bool.not_false],rfl⟩
   ·simp -implicitDefEqProofs only[go_sem]
    exact .mk _ (.refl _) abO ⟨by simp[dF,okD,iH,gJ,mo,ax,au,k2,decide_true,dcase,dfield,Bool.and_true,Bool.true_and,Bool.false_and,Bool.and_false,Bool.not_true,Bool.not_false],rfl⟩
  ·simp -implicitDefEqProofs only[go_sem]
   exact .mk _ (.refl _) abO ⟨by simp[dF,okD,iH,gJ,mo,ax,au,k2,decide_true,dcase,Bool.and_true,Bool.true_and,Bool.false_and,Bool.and_false,Bool.not_true],rfl⟩
 by_cases k6:o.kind=6
 ·simp -implicitDefEqProofs only[go_sem,aj,n31.symm,n41.symm,k6,Int.reduceBEq]
  refine .calls (hm1 i1 _) [0,1,2,3,4,5,6,7] (.hm1 adr) abM rfl ?_;simp -implicitDefEqProofs only[go_sem,aj,n31.symm,n41.symm];refine⟨(.hm1 ab5),(.hm1 ab5), ?_⟩;cases dcase:(o.case==([]:Txt))
  ·simp -implicitDefEqProofs only[go_sem,aj,n31.symm,n41.symm]
   cases dfield:(o.field==([]:Txt))
   ·simp -implicitDefEqProofs only[go_sem,aj,n43.symm]
    exact .mk _ (.refl _) abO ⟨by simp[dF,okD,iH,gJ,mo,ax,au,k6,decide_true,dcase,dfield,Bool.and_true,Bool.true_and,Bool.not_false],rfl⟩
   ·simp -implicitDefEqProofs only[go_sem]
    exact .mk _ (.refl _) abO ⟨by simp[dF,okD,iH,gJ,mo,ax,au,k6,decide_true,dcase,dfield,Bool.and_true,Bool.true_and,Bool.false_and,Bool.and_false,Bool.not_true,Bool.not_false],rfl⟩
  ·simp -implicitDefEqProofs only[go_sem]
   exact .mk _ (.refl _) abO ⟨by simp[dF,okD,iH,gJ,mo,ax,au,k6,decide_true,dcase,Bool.and_true,Bool.true_and,Bool.false_and,Bool.and_false,Bool.not_true],rfl⟩
 by_cases k3:o.kind=3
 ·simp -implicitDefEqProofs only[go_sem,aj,n31.symm,n41.symm,k3,Int.reduceBEq]
  refine .calls (hm1 i1 _) [0,1,2,3,4,5,6,7,8,9,10,11] (.hm1 adr) abM rfl ?_;simp -implicitDefEqProofs only[go_sem,aj,n31.symm,n41.symm];refine⟨(.hm1 ab5),(.hm1 ab5),(.hm1 ab5), ?_⟩;cases dcase:(o.case==([]:Txt))
  ·simp -implicitDefEqProofs only[go_sem,aj,n31.symm,n41.symm]
   cases dfield:(o.field==([]:Txt))
   ·simp -implicitDefEqProofs only[go_sem,aj,n31.symm,n41.symm]
    cases dval:(o.val.kind==(0:Int) && (o.val.n==(0:Int) && o.val.s==([]:Txt)))
    ·simp -implicitDefEqProofs only[go_sem,aj,n43.symm]
     exact .mk _ (.refl _) abO ⟨ace,rfl⟩
    ·simp -implicitDefEqProofs only[go_sem]
     exact .mk _ (.refl _) abO ⟨ace,rfl⟩
   ·simp -implicitDefEqProofs only[go_sem]
    exact .mk _ (.refl _) abO ⟨by simp[dF,okD,iH,gJ,mo,eqV,ax,au,k3,decide_true,dcase,dfield,Bool.and_true,Bool.true_and,Bool.false_and,Bool.and_false,Bool.not_true,Bool.not_false],rfl⟩
  ·simp -implicitDefEqProofs only[go_sem]
   exact .mk _ (.refl _) abO ⟨by simp[dF,okD,iH,gJ,mo,eqV,ax,au,k3,decide_true,dcase,Bool.and_true,Bool.true_and,Bool.false_and,Bool.and_false,Bool.not_true],rfl⟩
 by_cases k4:o.kind=4
 ·simp -implicitDefEqProofs only[go_sem,aj,n31.symm,n41.symm,k4,Int.reduceBEq]
  refine .calls (hm1 i1 _) [0,1,2,3,4,5,6,7] (.hm1 adr) abM rfl ?_;simp -implicitDefEqProofs only[go_sem,aj,n31.symm,n41.symm];refine⟨(.hm1 ab5),(.hm1 ab5), ?_⟩;cases dcase:(o.case==([]:Txt))
  ·simp -implicitDefEqProofs only[go_sem,aj,n31.symm,n41.symm]
   cases dto:(o.to==([]:Txt))
   ·simp -implicitDefEqProofs only[go_sem,aj,n43.symm]
    exact .mk _ (.refl _) abO ⟨by simp[dF,okD,iH,gJ,mo,ax,au,k4,decide_true,dcase,dto,Bool.and_true,Bool.true_and,Bool.not_false],rfl⟩
   ·simp -implicitDefEqProofs only[go_sem]
    exact .mk _ (.refl _) abO ⟨by simp[dF,okD,iH,gJ,mo,ax,au,k4,decide_true,dcase,dto,Bool.and_true,Bool.true_and,Bool.false_and,Bool.and_false,Bool.not_true,Bool.not_false],rfl⟩
  ·simp -implicitDefEqProofs only[go_sem]
   exact .mk _ (.refl _) abO ⟨by simp[dF,okD,iH,gJ,mo,ax,au,k4,decide_true,dcase,Bool.and_true,Bool.true_and,Bool.false_and,Bool.and_false,Bool.not_true],rfl⟩
 by_cases k5:o.kind=5
 ·simp -implicitDefEqProofs only[go_sem,aj,n31.symm,n41.symm,k5,Int.reduceBEq]
  cases drev0:decide ((0:Int)<o.review)
  ·simp -implicitDefEqProofs only[go_sem]
   exact .mk _ (.refl _) abO ⟨by simp[dF,okD,iH,gJ,mo,ax,au,k5,decide_true,drev0,Bool.and_true,Bool.true_and,Bool.false_and,Bool.and_false],rfl⟩
  ·simp -implicitDefEqProofs only[go_sem,aj,n43.symm]
   exact .mk _ (.refl _) abO ⟨by simp[dF,okD,iH,gJ,mo,ax,au,k5,decide_true,drev0,Bool.and_true,Bool.true_and],rfl⟩
 by_cases k7:o.kind=7
 ·simp -implicitDefEqProofs only[go_sem,aj,n31.symm,n43.symm,n41.symm,k7,Int.reduceBEq]
  exact .mk _ (.refl _) abO ⟨by simp[dF,okD,iH,gJ,mo,ax,au,k7,decide_true,Bool.and_true,Bool.true_and],rfl⟩
 by_cases k8:o.kind=8
 ·simp -implicitDefEqProofs only[go_sem,aj,n31.symm,n41.symm,k8,Int.reduceBEq]
  cases drev0:decide ((0:Int)<o.review)
  ·simp -implicitDefEqProofs only[go_sem]
   exact .mk _ (.refl _) abO ⟨by simp[dF,okD,iH,gJ,mo,ax,au,k8,decide_true,drev0,Bool.and_true,Bool.true_and,Bool.false_and,Bool.and_false],rfl⟩
  ·simp -implicitDefEqProofs only[go_sem,aj,n31.symm,n41.symm]
   cases drev1:decide (o.review≤(1099511627776:Int))
   ·simp -implicitDefEqProofs only[go_sem]
    exact .mk _ (.refl _) abO ⟨by simp[dF,okD,iH,gJ,mo,ax,au,k8,decide_true,drev0,drev1,Bool.and_true,Bool.true_and,Bool.false_and,Bool.and_false],rfl⟩
   ·simp -implicitDefEqProofs only[go_sem,aj,n43.symm]
    exact .mk _ (.refl _) abO ⟨by simp[dF,okD,iH,gJ,mo,ax,au,k8,decide_true,drev0,drev1,Bool.and_true,Bool.true_and],rfl⟩
 simp -implicitDefEqProofs only[go_sem,aj,n31.symm,n41.symm,beq_eq_false_iff_ne.2 k1,beq_eq_false_iff_ne.2 k2,beq_eq_false_iff_ne.2 k6,beq_eq_false_iff_ne.2 k3,beq_eq_false_iff_ne.2 k4,beq_eq_false_iff_ne.2 k5,beq_eq_false_iff_ne.2 k7,beq_eq_false_iff_ne.2 k8];exact .mk _ (.refl _) abO ⟨by simp only[dF,bnd k1 k2 k3 k4 k5 k6 k7 k8,Bool.false_and,au],rfl⟩
theorem Gb(o:OpD)(h:Heap):ai Tryz.prog 22 [opA o] h fun r h' =>r= .b (eO o)∧h' =h:=by
 have hr:=fun hh=>IX o hh
 have ht:=fun hh=>LK o hh
 have hv:=fun hh=>fY o.val hh
 simp only[opA,opC,aR]at hr ht hv;refine abH Tryz.func22 48 [.tmp 2] fun hwf=> ?_
 simp -implicitDefEqProofs only[go_sem,opA,opC];intro i1 h1;simp -implicitDefEqProofs only[go_sem];refine(oo o.subj _).pthen ?_;cases d1:br o.subj
 ·simp -implicitDefEqProofs only[go_sem]
  exact .mk _ (.refl _) (.ak h1) ⟨by simp_all [eO,Bool.false_and,au],rfl⟩
 simp -implicitDefEqProofs only[go_sem];refine(hr _).pthen ?_;cases d2:lF o
 ·exact agl
 cases d3:decide ((4096:Int)<(o.text.length:Int))
 case true=>
  have e3:decide (o.text.length≤4096)=false:=decide_eq_false abJ;simp -implicitDefEqProofs only[go_sem,d3];exact .mk _ (.refl _) (.ak h1) ⟨by simp only[eO,d1,d2,e3,Bool.false_and,Bool.true_and,au],rfl⟩
 have e3:decide (o.text.length≤4096)=true:=decide_eq_true abJ;simp -implicitDefEqProofs only[go_sem,d3];refine(xq o.case _).pthen ?_;cases d4:iK o.case
 ·exact agl
 simp -implicitDefEqProofs only[go_sem];refine(xq o.field _).pthen ?_;cases d5:iK o.field
 ·exact agl
 simp -implicitDefEqProofs only[go_sem];refine(xq o.to _).pthen ?_;cases d6:iK o.to
 ·exact agl
 cases d7:(o.val.kind==(0:Int) && (o.val.n==(0:Int) && o.val.s==([]:Txt)))
 ·simp -implicitDefEqProofs only[go_sem,d7]
  refine(hv _).pthen ?_;have e7:eqV o.val ax=false:=d7;cases d8:bI o.val
  ·simp -implicitDefEqProofs only[go_sem]
   exact .mk _ (.refl _) (.ak h1) ⟨by simp_all [eO,Bool.or_self,Bool.false_and,Bool.true_and,au],rfl⟩
  simp -implicitDefEqProofs only[go_sem];refine(ht _).pthen ?_;simp -implicitDefEqProofs only[go_sem];exact .mk _ (.refl _) (.ak h1) ⟨by simp_all [eO,Bool.false_or,Bool.true_and,au],rfl⟩
 ·simp -implicitDefEqProofs only[go_sem,d7]
  have e7:eqV o.val ax=true:=d7;refine(ht _).pthen ?_;simp -implicitDefEqProofs only[go_sem];exact .mk _ (.refl _) (.ak h1) ⟨by simp_all [eO,Bool.true_or,Bool.true_and,au],rfl⟩
end Go.Proofs.YtcochaoekecfdaaGreatDoor
namespace Go.Bf
open Go Go.Ab
def ixD{α:Type}(q:α→Bool)(l:List α):Int:=if l.findIdx q<l.length then(l.findIdx q:Nat)else -1
theorem nh{α:Type}{q:α→Bool}{l:List α}{i:Nat}(hi:i<l.length)(h1:q l[i]=true)(h2:∀j (hj:j<i),q (l[j]'abI)=false):ixD q l=(i:Nat):=by
 have e:l.findIdx q=i:=by grind [List.findIdx_eq]
 rw[ixD,e,if_pos hi]
theorem iR{α:Type}{q:α→Bool}{l:List α}(h:∀j (hj:j<l.length),q l[j]=false):ixD q l= -1:=by
 have e:l.findIdx q=l.length:=abJ;rw[ixD,e,if_neg (Nat.lt_irrefl _)]
end Go.Bf
namespace Go.Proofs.YtcochaoekecfdaaGreatDoor
open Go Go.Ab Go.Bf
theorem uq{α:Type}(y:AV)(xs:List AV)(ds:List α)(q:α→Bool)(g:FuncId)(cap:List AV)(h:Heap)(hb:Rd h 5 y xs)(hn:xs.length=ds.length)(hl:xs.length≤1000000000)(hx:∀x∈xs,bx x=true)
  (hp:∀i (h1:i<xs.length) (h2:i<ds.length),ai Tryz.prog g (xs[i]::cap) h fun r h' =>r= .b (q ds[i])∧h' =h):
  ai Tryz.prog 168 [y,.fn g cap] h fun r h' =>r= .i (ixD q ds)∧h' =h:=by
 refine abH Tryz.func168 19 [.tmp 4] fun hwf=> ?_
 simp only[go_sem,hb.len];refine .intro (fun m ρ h' =>h' =h∧∃i:Nat,i≤xs.length∧m=xs.length - i∧(∀j (hj:j<i) (h2:j<ds.length),q ds[j]=false)∧lk ρ 0=some y∧lk ρ 1=some (.fn g cap)∧lk ρ 7=some (.i xs.length)∧lk ρ 8=some (.i i)) xs.length ?_ ?_
 ·refine⟨rfl,0,abI,rfl,fun j hj=>abI, ?_, ?_, ?_, ?_⟩<;>simp only[go_sem]
 ·rintro m ρ h' ⟨rfl,i,hi,rfl,hc,r0,r1,r7,r8⟩
  simp only[go_sem,r7,r8];refine .intro (fun e=> ?_) (fun e=> ?_)
  ·have hlt:i<xs.length:=abF e
   have hlt2:i<ds.length:=abI;have w1:IntKind.i64.wrap ((i:Int)+1)=((i+1:Nat):Int):=abV;simp only[go_sem,r0,r1,r8];refine hb.idx (e:=134) i rfl hlt abW abL fun p hp1=> ?_
   have hld:=hp1.all (U:=U) (ty:=134) abL acF adx;simp only[go_sem,hld];refine(show ai Tryz.prog g (xs[i]::cap) _ _ from hp i hlt hlt2).pthen ?_
   cases d1:q ds[i]
   ·simp only[go_sem,r8,w1]
    refine⟨_, ?_,rfl,i+1,abI,rfl,fun j hj h2=> ?_, ?_, ?_, ?_, ?_⟩
    ·omega
    ·grind
    all_goals simp only[go_sem,r0,r1,r7]
   ·simp only[go_sem]
    exact .same (.refl _) ⟨acr,rfl⟩
  ·have hge:i=xs.length:=by grind
   simp only[go_sem];exact .same (.refl _) ⟨acd,rfl⟩
theorem xO{α:Type}(y:AV)(xs:List AV)(ds:List α)(q:α→Bool)(g:FuncId)(cap:List AV)(h:Heap)(hb:Rd h 4 y xs)(hn:xs.length=ds.length)(hl:xs.length≤1000000000)(hx:∀x∈xs,bx x=true)
  (hp:∀i (h1:i<xs.length) (h2:i<ds.length),ai Tryz.prog g (xs[i]::cap) h fun r h' =>r= .b (q ds[i])∧h' =h):
  ai Tryz.prog 140 [y,.fn g cap] h fun r h' =>r= .i (ixD q ds)∧h' =h:=by
 refine abH Tryz.func140 19 [.tmp 4] fun hwf=> ?_
 simp only[go_sem,hb.len];refine .intro (fun m ρ h' =>h' =h∧∃i:Nat,i≤xs.length∧m=xs.length - i∧(∀j (hj:j<i) (h2:j<ds.length),q ds[j]=false)∧lk ρ 0=some y∧lk ρ 1=some (.fn g cap)∧lk ρ 7=some (.i xs.length)∧lk ρ 8=some (.i i)) xs.length ?_ ?_
 ·refine⟨rfl,0,abI,rfl,fun j hj=>abI, ?_, ?_, ?_, ?_⟩<;>simp only[go_sem]
 ·rintro m ρ h' ⟨rfl,i,hi,rfl,hc,r0,r1,r7,r8⟩
  simp only[go_sem,r7,r8];refine .intro (fun e=> ?_) (fun e=> ?_)
  ·have hlt:i<xs.length:=abF e
   have hlt2:i<ds.length:=abI;have w1:IntKind.i64.wrap ((i:Int)+1)=((i+1:Nat):Int):=abV;simp only[go_sem,r0,r1,r8];refine hb.idx (e:=215) i rfl hlt abW abL fun p hp1=> ?_
   have hld:=hp1.all (U:=U) (ty:=215) abL acF adx;simp only[go_sem,hld];refine(show ai Tryz.prog g (xs[i]::cap) _ _ from hp i hlt hlt2).pthen ?_
   cases d1:q ds[i]
   ·simp only[go_sem,r8,w1]
    refine⟨_, ?_,rfl,i+1,abI,rfl,fun j hj h2=> ?_, ?_, ?_, ?_, ?_⟩
    ·omega
    ·grind
    all_goals simp only[go_sem,r0,r1,r7]
   ·simp only[go_sem]
    exact .same (.refl _) ⟨acr,rfl⟩
  ·have hge:i=xs.length:=by grind
   simp only[go_sem];exact .same (.refl _) ⟨acd,rfl⟩
def RdC(h:Heap)(x:AV)(c:aL):Prop:=∃f l,x= .agg [.s c.id,.s c.owner,.s c.state,f,l]∧Rd h 4 f (c.fields.map bN)∧Rd h 3 l (c.log.map iu)
def ze(h:Heap)(y:AV)(cs:List aL):Prop:=∃xs,Rd h 5 y xs∧xs.length=cs.length∧∀i (h1:i<xs.length) (h2:i<cs.length),RdC h xs[i] cs[i]
def RdS(h:Heap)(x:AV)(s:an):Prop:=∃y1 y2 y3 y4,x= .agg ([.i s.tick,y1,y2,y3,y4]++fN s.policy++ [.i s.version])∧ze h y1 s.cases∧Rd h 7 y2 (s.reviews.map iD)∧Rd h 3 y3 (s.notices.map mu)∧Rd h 2 y4 (s.roles.map dW)
theorem RdC.sub{h h' :Heap}{x:AV}{c:aL}(hb:RdC h x c)(hs:Ab.Sub h h'):RdC h' x c:=by
 obtain⟨f,l,e,h1,h2⟩:=hb;exact⟨f,l,e,h1.sub hs,h2.sub hs⟩
theorem ze.sub{h h' :Heap}{y:AV}{cs:List aL}(hb:ze h y cs)(hs:Ab.Sub h h'):ze h' y cs:=by
 obtain⟨xs,h1,h2,h3⟩:=hb;exact⟨xs,h1.sub hs,h2,fun i a b=>(h3 i a b).sub hs⟩
theorem RdS.sub{h h' :Heap}{x:AV}{s:an}(hb:RdS h x s)(hs:Ab.Sub h h'):RdS h' x s:=by
 obtain⟨y1,y2,y3,y4,e,h1,h2,h3,h4⟩:=hb;exact⟨y1,y2,y3,y4,e,h1.sub hs,h2.sub hs,h3.sub hs,h4.sub hs⟩
theorem bp{α:Type}{f:α→AV}{n:Nat}(hf:∀a,(f a).cells.length=n)(l:List α):Sized n (l.map f):=fun z hz=>by
 grind
theorem nR{α:Type}{f:α→AV}(hf:∀a,bx (f a)=true)(l:List α):∀x∈l.map f,bx x=true:=fun z hz=>by
 obtain⟨a,_,rfl⟩:=List.mem_map.1 hz;exact hf a
theorem dN{α:Type}(f:α→AV)(n:Nat)(hf:∀a,(f a).cells.length=n)(h:Heap)(l:List α):Rd h n (.sl (l.map f) .no) (l.map f):=.sl (bp hf l) _
theorem rdC(h:Heap)(c:aL):RdC h (cq c) c:=⟨_,_,rfl,dN bN 4 (fun _=>rfl) h _,dN iu 3 (fun _=>rfl) h _⟩
theorem Wv(h:Heap)(cs:List aL):ze h (fP cs) cs:=⟨_,dN cq 5 (fun _=>rfl) h cs,abQ,fun i h1 h2=>by grind [rdC]⟩
theorem rdS(h:Heap)(s:an):RdS h (cy s) s:=⟨_,_,_,_,rfl,Wv h _,dN iD 7 (fun _=>rfl) h _,dN mu 3 (fun _=>rfl) h _,dN dW 2 (fun _=>rfl) h _⟩
theorem RdC.agg{h:Heap}{x:AV}{c:aL}(hb:RdC h x c):bx x=true:=by
 obtain⟨f,l,rfl,_⟩:=hb;rfl
theorem ze.agg{h:Heap}{xs:List AV}{cs:List aL}(hn:xs.length=cs.length)(hb:∀i (h1:i<xs.length) (h2:i<cs.length),RdC h xs[i] cs[i]):∀x∈xs,bx x=true:=fun x hx=>by
 obtain⟨i,hi,rfl⟩:=List.mem_iff_getElem.1 hx;exact(hb i hi abI).agg
theorem mS:(U 134).sz=5:=abW
theorem FJ:(U 215).sz=4:=abW
theorem Jl:(U 9).sz≠0:=abL
theorem LU:(U 9).sz=1:=abW
theorem Ki{h:Heap}{x:AV}{c:aL}(hb:RdC h x c){k:Nat}{id:Txt}(hk:h k=some (.obj [.s id] 9)):ai Tryz.prog 169 [x,.ptr k 0] h fun r h' =>r= .b (geB c.id id)∧h' =h:=by
 obtain⟨f,l,rfl,hf,hl⟩:=hb;refine abH Tryz.func169 8 [.tmp 3] fun hwf=> ?_
 simp only[go_sem];exact af5
structure Few (s:an):Prop where
 cases:s.cases.length≤1000000
 fields:∀c∈s.cases,c.fields.length≤1000000
 log:∀c∈s.cases,c.log.length≤1000000
 reviews:s.reviews.length≤1000000
 notices:s.notices.length≤1000000
 roles:s.roles.length≤1000000
theorem jn{cs:List aL}{id:Txt}(h:bY cs id=true):findD cs id<cs.length:=by
 grind [bY,List.getElem?_eq_some_iff]
theorem Jf{cs:List aL}{id:Txt}(h:findD cs id<cs.length):bY cs id=(cs[findD cs id].id==id):=by
 grind [bY,List.getElem?_eq_getElem]
theorem Jg{cs:List aL}{id:Txt}(h:¬findD cs id<cs.length):bY cs id=false:=by
 grind [bY,List.getElem?_eq_none]
theorem Bt{h:Heap}{x:AV}{s:an}(hb:RdS h x s)(id:Txt)(hl:s.cases.length≤1000000):ai Tryz.prog 119 [x,.s id] h fun r h' =>r= .tup [.i (findD s.cases id:Nat),.b (bY s.cases id)]∧h' =h:=by
 obtain⟨y1,y2,y3,y4,rfl,⟨xs,hc,hn,hcs⟩,h2,h3,h4⟩:=hb;cases hp:s.policy with
 |mk pid pset palg ptgt prules pkids pobls=>
 refine abH Tryz.func119 25 [.tmp 4,.tmp 5] fun hwf=> ?_
 simp only[go_sem,fN,List.cons_append,List.nil_append];intro i1 h1;simp only[go_sem];intro i2 h2;have n21:=aH h2;have n2:=aC h2;have hs:∀a b,Ab.Sub h (upd (upd h i1 a) i2 b):=fun a b=>((Sub.refl h).put h1 a).put n2 b
 simp only[go_sem,aj,n21.symm];refine(uq y1 xs s.cases (fun c=>geB c.id id) _ [.ptr i2 0] _ (hc.sub (hs _ _)) hn abI (ze.agg hn hcs) fun i a b=>Ki ((hcs i a b).sub (hs _ _)) (ah ..)).pthen ?_
 by_cases hf:findD s.cases id<s.cases.length
 ·have e1:ixD (fun c=>geB c.id id) s.cases=(findD s.cases id:Nat):=by rw[ixD];exact if_pos hf
  have d1:decide (((findD s.cases id:Nat):Int)<0)=false:=decide_eq_false abI;rw[e1];simp only[go_sem,aj,n21.symm,d1];refine⟨.of abM, ?_⟩;obtain⟨f,l,ex,hfl,hlg⟩:=hcs (findD s.cases id) abI hf;refine hc.idx (e:=134) (findD s.cases id) rfl abI mS abL fun p hp1=> ?_
  simp only[go_sem];refine hp1.field (f:=0) (off:=0) (t:=9) rfl Jl fun p2 hp2=> ?_
  have hld:=fun a b=>(hp2.sub (hs a b)).part (U:=U) (ty:=9) Jl (by rw[ex,LU];exact abx rfl)
  simp only[go_sem,hld,ex];exact .mk _ (.refl _) (hs _ _) ⟨by rw[Jf hf];rfl,rfl⟩
 ·have e1:ixD (fun c=>geB c.id id) s.cases= -1:=by rw[ixD];exact if_neg hf
  have e2:findD s.cases id=s.cases.length:=by
   grind [findD,List.findIdx_le_length]
  have d1:decide ((-1:Int)<0)=true:=rfl;rw[e1];simp only[go_sem,aj,n21.symm,d1];simp only[go_sem,hc.len];exact .mk _ (.refl _) (hs _ _) ⟨by rw[Jg hf,e2,hn];rfl,rfl⟩
theorem G0:(U 149).sz=2:=abW
theorem Ix(y:AV)(ds:List gR)(r:gR)(h:Heap)(hb:Rd h 2 y (ds.map dW))(hl:ds.length≤1000000000):
  ai Tryz.prog 209 [y,dW r] h fun x h' =>x= .i (ixD (ud r) ds)∧h' =h:=by
 refine abH Tryz.func209 19 [.tmp 4] fun hwf=> ?_
 simp only[go_sem,dW];intro i1 h1;have hs:∀a,Ab.Sub h (upd h i1 a):=fun a=>(Sub.refl h).put h1 a
 simp only[go_sem,hb.len,aby];refine .intro (fun m ρ h' =>h' =upd h i1 (some (.obj [.s r.subj,.s r.role] 149))∧∃i:Nat,i≤ds.length∧m=ds.length - i∧(∀j (hj:j<i) (h2:j<ds.length),ud r ds[j]=false)∧lk ρ 0=some y∧lk ρ 3=some (.ptr i1 0)∧lk ρ 7=some (.i ds.length)∧lk ρ 8=some (.i i)) ds.length ?_ ?_
 ·refine⟨rfl,0,abI,rfl,fun j hj=>abI, ?_, ?_, ?_, ?_⟩<;>simp only[go_sem]
 ·rintro m ρ h' ⟨rfl,i,hi,rfl,hc,r0,r3,r7,r8⟩
  simp only[go_sem,r7,r8];refine .intro (fun e=> ?_) (fun e=> ?_)
  ·have hlt:i<ds.length:=abF e
   have w1:IntKind.i64.wrap ((i:Int)+1)=((i+1:Nat):Int):=abV;simp only[go_sem,r0,r3,r8];refine⟨.of abM, ?_⟩;refine hb.idx (e:=149) i rfl abJ G0 abL fun p hp1=> ?_
   have hld:=fun a=>(hp1.sub (hs a)).all (U:=U) (ty:=149) abL (by rw[G0,abz];rfl) aco
   cases d1:ud r ds[i]
   ·have d2:=d1
    simp only[ud]at d2;simp only[go_sem,r8,hld,abz,dW,d2,w1];refine⟨_, ?_,rfl,i+1,abI,rfl,fun j hj h2=> ?_, ?_, ?_, ?_, ?_⟩
    ·omega
    ·grind
    all_goals simp only[go_sem,r0,r3,r7]
   ·have d2:=d1
    simp only[ud]at d2;simp only[go_sem,hld,abz,dW,d2];exact .mk _ (.refl _) (hs _) ⟨by rw[nh hlt d1 fun j hj=>hc j hj abI];rfl,rfl⟩
  ·have hge:i=ds.length:=by grind
   simp only[go_sem];exact .mk _ (.refl _) (hs _) ⟨acd,rfl⟩
theorem ET(y:AV)(ds:List gR)(r:gR)(h:Heap)(hb:Rd h 2 y (ds.map dW))(hl:ds.length≤1000000000):
  ai Tryz.prog 171 [y,dW r] h fun x h' =>x= .b (xJ ds r)∧h' =h:=by
 have hq:=fun H (hH:Ab.Sub h H)=>Ix y ds r H (hb.sub hH) hl
 refine abH Tryz.func171 9 [.tmp 4] fun hwf=> ?_
 simp only[go_sem,dW];intro i1 h1;simp only[go_sem];refine(hq _ (.ak h1)).pthen ?_;simp only[go_sem];refine .mk _ (.refl _) (.ak h1) ⟨?_,rfl⟩
 grind [au,xJ,ixD,decide_eq_true,List.any_eq_true,abD,List.findIdx_getElem,decide_eq_false,List.any_eq_false]
theorem EU{h:Heap}{x:AV}{s:an}(hb:RdS h x s)(subj role:Txt)(hl:s.roles.length≤1000000000):ai Tryz.prog 122 [x,.s subj,.s role] h fun r h' =>r= .b (xJ s.roles ⟨subj,role⟩)∧h' =h:=by
 obtain⟨y1,y2,y3,y4,rfl,hc,h2,h3,h4⟩:=hb;have hq:=fun H (hH:Ab.Sub h H)=>ET y4 s.roles ⟨subj,role⟩ H (h4.sub hH) hl
 cases hp:s.policy with
 |mk pid pset palg ptgt prules pkids pobls=>
 refine abH Tryz.func122 13 [.tmp 6] fun hwf=> ?_
 simp only[go_sem,fN,List.cons_append,List.nil_append];intro i1 h1;simp only[go_sem];refine(hq _ (.ak h1)).pthen ?_;simp only[go_sem];exact ab0
theorem HK{h:Heap}(f:cV){k:Nat}{name:Txt}(hk:h k=some (.obj [.s name] 9)):ai Tryz.prog 141 [bN f,.ptr k 0] h fun r h' =>r= .b (f.name==name)∧h' =h:=by
 refine abH Tryz.func141 8 [.tmp 3] fun hwf=> ?_
 simp only[go_sem,bN];exact af5
theorem HL{fs:List cV}{name:Txt}(h:fs.findIdx (fun f=>f.name==name)<fs.length):dZ fs name=fs[fs.findIdx fun f=>f.name==name].val:=by
 unfold dZ;rw[show fs.find? (fun f=>f.name==name)=some fs[fs.findIdx fun f=>f.name==name]from List.find?_eq_some_iff_getElem.2 ⟨List.findIdx_getElem (w:=h),_,h,rfl,fun j hj=>abJ⟩]
theorem HM{fs:List cV}{name:Txt}(h:¬fs.findIdx (fun f=>f.name==name)<fs.length):dZ fs name=ax:=by
 grind [dZ,List.findIdx_le_length,List.find?_eq_none,List.findIdx_eq_length]
theorem CB{h:Heap}{x:AV}{c:aL}(hb:RdC h x c)(name:Txt)(hl:c.fields.length≤1000000000):ai Tryz.prog 77 [x,.s name] h fun r h' =>r=aR (dZ c.fields name)∧h' =h:=by
 obtain⟨f,l,rfl,hf,hlg⟩:=hb;refine abH Tryz.func77 19 [.cell 4 30] fun hwf=> ?_
 simp only[go_sem];intro i1 h1;simp only[go_sem];intro i2 h2;have n21:=aH h2;have n2:=aC h2;simp only[go_sem];intro i3 h3;have h3' :=aC h3;have n31:=aH h3';have n3:=aC h3';have hs:∀a b d,Ab.Sub h (upd (upd (upd h i1 a) i2 b) i3 d):=fun a b d=>(((Sub.refl h).put h1 a).put n2 b).put n3 d
 simp only[go_sem,aj,n21.symm,n31.symm];refine(xO f _ c.fields (fun f=>f.name==name) _ [.ptr i2 0] _ (hf.sub (hs _ _ _)) abQ abJ (nR (fun _=>rfl) _) fun i a b=>by
  rw[abz];exact HK _ (by grind [aj,fR,not_false_eq_true])).pthen ?_
 by_cases hx:c.fields.findIdx (fun f=>f.name==name)<c.fields.length
 ·have e1:ixD (fun f=>f.name==name) c.fields=(c.fields.findIdx (fun f=>f.name==name):Nat):=by simp_all [ixD,if_pos]
  have d1:decide ((0:Int)≤((c.fields.findIdx (fun f=>f.name==name):Nat):Int))=true:=decide_eq_true abI
  rw[e1];simp only[go_sem,aj,n21.symm,n31.symm,d1];refine hf.idx (e:=215) (c.fields.findIdx fun f=>f.name==name) rfl abJ FJ abL fun p hp1=> ?_
  simp only[go_sem];refine hp1.field (f:=1) (off:=1) (t:=30) rfl abL fun p2 hp2=> ?_
  have hld:=fun a b d=>(hp2.sub (hs a b d)).part (U:=U) (ty:=30) abL (by rw[abz,show(U 30).sz=3 by rfl];exact abx rfl)
  simp only[go_sem,hld,abz,bN];exact .mk _ (.refl _) abJ ⟨by rw[HL hx];rfl,rfl⟩
 ·have e1:ixD (fun f=>f.name==name) c.fields= -1:=by simp_all [ixD,if_neg]
  have d1:decide ((0:Int)≤ -1)=false:=rfl;rw[e1];simp only[go_sem,d1];exact .mk _ (.refl _) abJ ⟨by rw[HM hx];rfl,rfl⟩
end Go.Proofs.YtcochaoekecfdaaGreatDoor
namespace Go.Ab
open Go
mutual
def cG:AV→Bool
 |.v _=>true
 |.s _=>true
 |.agg xs=>fW xs
 |.tup xs=>fW xs
 |.sl xs (.own _)=>false
 |.sl xs _=>fW xs
 |.pe x _=>cG x
 |.ifc _ x=>cG x
 |_=>false
def fW:List AV→Bool
 | []=>true
 |x::r=>cG x && fW r
end
mutual
theorem tE{F:Nat→Prop}:∀x:AV,cG x=true→Av F x
 |.v x,_=> .v x
 |.s l,_=> .s l
 |.agg xs,h=> .agg xs (qv xs aeh)
 |.tup xs,h=> .tup xs (qv xs aeh)
 |.sl xs .no,h=> .sl xs .no (qv xs aeh) fun _ e=>ab8
 |.sl xs .full,h=> .sl xs .full (qv xs aeh) fun _ e=>ab8
 |.sl xs (.own _),h=>afd
 |.pe x o,h=> .pe x o (tE x aeh)
 |.ptr i o,h=>afd
 |.oa i o l,h=>afd
 |.ifc t x,h=> .ifc t x (tE x aeh)
 |.fn f c,h=>afd
 |.mp i,h=>afd
 |.ob i o l c z,h=>afd
theorem qv{F:Nat→Prop}:∀xs:List AV,fW xs=true→∀x∈xs,Av F x
 | [],_,x,hx=>by cases hx
 |y::r,h,x,hx=>by
  simp only[fW,Bool.and_eq_true]at h;rcases List.mem_cons.1 hx with e|e
  ·rw[e];exact tE y h.1
  ·exact qv r h.2 x e
end
theorem bf{α:Type}{f:α→AV}(hf:∀a,cG (f a)=true):∀l:List α,fW (l.map f)=true
 | []=>rfl
 |a::r=>by simp[fW,hf a,bf hf r]
theorem AD{xs:List AV}(h:fW xs=true):∀x∈xs,cG x=true:=by
 induction xs with
 |nil=>simp
 |cons y r ih=>
  simp_all [fW,Bool.and_eq_true,List.mem_cons]
theorem mO{x:AV}(h:cG x=true):∀c∈x.cells,cG c=true:=by
 cases x with
 |agg cs=>exact AD (show fW cs=true by grind [cG])
 |_=>intro c hc;rw[List.mem_singleton.1 hc];exact h
theorem Frz.pure{g h:Heap}{x:AV}(hx:cG x=true):Frz g h x x:=.keep x (tE x hx)
theorem Ow.frz{g h:Heap}{tb:TypeId}{sz id:Nat}{y:AV}{xs ys:List AV}(hw:Ow tb h sz id y xs)(hg:g id=Option.none)(hn:xs.length=ys.length)(hz:∀i (h1:i<xs.length) (h2:i<ys.length),xs[i].cells.length=ys[i].cells.length)
  (hr:∀i (h1:i<xs.length) (h2:i<ys.length) j (h3:j<xs[i].cells.length) (h4:j<ys[i].cells.length),Frz g h xs[i].cells[j] ys[i].cells[j]):Frz g h y (.sl ys .no):=by
 obtain⟨cap,rest,rfl,h1,h2,h3,h4⟩:=hw;have hl:=aV h4;refine .ob id 0 _ cap sz _ tb ys hg h1 abJ hn.symm (fun i hi=>by rw[←hz i abI hi];exact h4 _ abQ) fun i hi j hj hb=> ?_
 have hj' :j<sz:=by rw[←h4 xs[i] abQ,hz i abI hi];omega
 have hbd:i*sz+j<xs.length*sz:=by
  have:(i+1)*sz≤xs.length*sz:=Nat.mul_le_mul_right _ abI;rw[Nat.add_mul,Nat.one_mul]at this;omega
 have hjx:j<xs[i].cells.length:=abJ;have e:(aq xs++rest)[0+(i*sz+j)]? =some (xs[i].cells[j]):=by
  rw[Nat.zero_add,List.getElem?_append_left abI,uf h4 abI hj',List.getElem?_eq_getElem hjx]
 rw[List.getElem?_eq_getElem hb,Option.some.injEq]at e;rw[e];exact hr i abI hi j hjx hj
theorem OwE.frz{g h:Heap}{tb:TypeId}{sz:Nat}{y:AV}{xs:List AV}(hw:OwE tb g h sz y xs)(hp:fW xs=true):Frz g h y (.sl xs .no):=by
 rcases hw with⟨rfl,rfl⟩|⟨id,hg,hw⟩
 ·exact .sl [] [] .full rfl abI abQ
 ·exact hw.frz hg rfl abI fun i h1 h2 j h3 h4=> .pure (mO (AD hp _ (abD h1)) _ abQ)
theorem OwE.ju{U:TypeId→TI}{h:Heap}{sz:Nat}{tb:TypeId}{xs:List AV}{Q:AV→Heap→Prop}(hz:(U tb).sz=sz)(hf:Ab.fit (U tb).zero sz)(hb:Sized sz xs)(hk:∀y' h',OwE tb h h' sz y' xs→Sub h h'→Q y' h'):rG U h [] xs tb Q:=by
 subst hz;refine⟨fun hn=> ?_,fun hn=> ?_⟩
 ·subst hn
  exact hk _ _ (.inl ⟨rfl,rfl⟩) (.refl _)
 ·refine .ob hf (jO.ow hb abW abQ fun id y' h' hid hw ho=> ?_)
  exact hk _ _ (.inr ⟨id,hid,hw⟩) fun j b hj=>abJ
theorem Rd.nil{h:Heap}{sz:Nat}{y:AV}{xs:List AV}{e:TypeId}{Q:AV→Heap→Prop}(hb:Rd h sz y xs)(hk:∀b:Bool,(xs≠ []→b=false)→Q (.b b) h):Qv h .eql y Q (.slice e):=by
 obtain⟨_,⟨q,rfl⟩|⟨id,off,cap,cs,t,rfl,_⟩⟩:=hb
 ·exact hk
 ·exact hk false fun _=>rfl
def nid:AV→Option Nat
 |.ob id _ _ _ _=>some id
 |_=>none
theorem OwE.nid{tb:TypeId}{h0 h:Heap}{sz:Nat}{y:AV}{xs:List AV}(hw:OwE tb h0 h sz y xs){id:Nat}(e:Ab.nid y=some id):h0 id=Option.none∧h id≠Option.none∧Ow tb h sz id y xs:=by
 rcases hw with⟨rfl,rfl⟩|⟨id',h1,hw⟩
 ·cases e
 ·obtain⟨cap,rest,rfl,h2,h3⟩:=hw
  cases e;exact⟨h1,abJ,cap,rest,rfl,h2,h3⟩
theorem Ow.nid{tb:TypeId}{h:Heap}{sz id:Nat}{y:AV}{xs:List AV}(hw:Ow tb h sz id y xs):Ab.nid y=some id:=by
 obtain⟨cap,rest,rfl,h2,h3⟩:=hw;rfl
theorem OwE.keep{tb:TypeId}{h0 h h' :Heap}{sz:Nat}{y:AV}{xs:List AV}(hw:OwE tb h0 h sz y xs)(hs:∀id,Ab.nid y=some id→h' id=h id):OwE tb h0 h' sz y xs:=by
 rcases hw with hw|⟨id,h1,hw⟩
 ·exact afD
 ·exact .inr ⟨id,h1,hw.same (hs id hw.nid)⟩
theorem OwE.less{tb:TypeId}{h0 h1 h:Heap}{sz:Nat}{y:AV}{xs:List AV}(hw:OwE tb h1 h sz y xs)(hs:Sub h0 h1):OwE tb h0 h sz y xs:=by
 rcases hw with hw|⟨id,a,hw⟩
 ·exact afD
 ·exact .inr ⟨id,hs.none a,hw⟩
end Go.Ab
namespace Go.Proofs.YtcochaoekecfdaaGreatDoor
open Go Go.Ab Go.Bf
theorem zQ(y:AV)(xs:List AV)(h:Heap)(hb:Rd h 5 y xs)(hl:xs.length≤1000000):ai Tryz.prog 131 [y] h fun r h' =>OwE 134 h h' 5 r xs∧Ab.Sub h h' :=by
 refine abH Tryz.func131 8 [.tmp 2] fun hwf=> ?_
 simp only[go_sem];refine hb.nil fun b hxs=> ?_
 cases b
 ·simp only[go_sem]
  refine hb.src (U:=U) (e:=134) abW ⟨hb.1,abI,OwE.ju (U:=U) (sz:=5) abW abW hb.1 fun y' h' hw hs=> ?_⟩
  exact af0
 ·exact afX
theorem vl(y:AV)(xs:List AV)(h:Heap)(hb:Rd h 7 y xs)(hl:xs.length≤1000000):ai Tryz.prog 129 [y] h fun r h' =>OwE 143 h h' 7 r xs∧Ab.Sub h h' :=by
 refine abH Tryz.func129 8 [.tmp 2] fun hwf=> ?_
 simp only[go_sem];refine hb.nil fun b hxs=> ?_
 cases b
 ·simp only[go_sem]
  refine hb.src (U:=U) (e:=143) abW ⟨hb.1,abI,OwE.ju (U:=U) (sz:=7) abW abW hb.1 fun y' h' hw hs=> ?_⟩
  exact af0
 ·exact afX
theorem vj(y:AV)(xs:List AV)(h:Heap)(hb:Rd h 3 y xs)(hl:xs.length≤1000000):ai Tryz.prog 130 [y] h fun r h' =>OwE 146 h h' 3 r xs∧Ab.Sub h h' :=by
 refine abH Tryz.func130 8 [.tmp 2] fun hwf=> ?_
 simp only[go_sem];refine hb.nil fun b hxs=> ?_
 cases b
 ·simp only[go_sem]
  refine hb.src (U:=U) (e:=146) abW ⟨hb.1,abI,OwE.ju (U:=U) (sz:=3) abW abW hb.1 fun y' h' hw hs=> ?_⟩
  exact af0
 ·exact afX
theorem HA(y:AV)(xs:List AV)(h:Heap)(hb:Rd h 2 y xs)(hl:xs.length≤1000000):ai Tryz.prog 177 [y] h fun r h' =>OwE 149 h h' 2 r xs∧Ab.Sub h h' :=by
 refine abH Tryz.func177 8 [.tmp 2] fun hwf=> ?_
 simp only[go_sem];refine hb.nil fun b hxs=> ?_
 cases b
 ·simp only[go_sem]
  refine hb.src (U:=U) (e:=149) abW ⟨hb.1,abI,OwE.ju (U:=U) (sz:=2) abW abW hb.1 fun y' h' hw hs=> ?_⟩
  exact af0
 ·exact afX
theorem El(y:AV)(xs:List AV)(h:Heap)(hb:Rd h 4 y xs)(hl:xs.length≤1000000):ai Tryz.prog 184 [y] h fun r h' =>OwE 215 h h' 4 r xs∧Ab.Sub h h' :=by
 refine abH Tryz.func184 8 [.tmp 2] fun hwf=> ?_
 simp only[go_sem];refine hb.nil fun b hxs=> ?_
 cases b
 ·simp only[go_sem]
  refine hb.src (U:=U) (e:=215) abW ⟨hb.1,abI,OwE.ju (U:=U) (sz:=4) abW abW hb.1 fun y' h' hw hs=> ?_⟩
  exact af0
 ·exact afX
theorem pO(y:AV)(xs:List AV)(h:Heap)(hb:Rd h 3 y xs)(hl:xs.length≤1000000):ai Tryz.prog 132 [y] h fun r h' =>OwE 205 h h' 3 r xs∧Ab.Sub h h' :=by
 refine abH Tryz.func132 8 [.tmp 2] fun hwf=> ?_
 simp only[go_sem];refine hb.nil fun b hxs=> ?_
 cases b
 ·simp only[go_sem]
  refine hb.src (U:=U) (e:=205) abW ⟨hb.1,abI,OwE.ju (U:=U) (sz:=3) abW abW hb.1 fun y' h' hw hs=> ?_⟩
  exact af0
 ·exact afX
theorem vY(y:AV)(xs:List AV)(h:Heap)(hb:Rd h 3 y xs)(hl:xs.length≤1000000)(hp:fW xs=true):ai Tryz.prog 132 [y] h fun r h' =>r= .sl xs .no∧h' =h:=
 ai.freeze fun g hg _=>(pO y xs g (hb.sub hg) hl).mono fun r h' ⟨h1,h2⟩=>⟨h2,_,h1.frz hp,rfl⟩
theorem J0(y:AV)(xs:List AV)(h:Heap)(hb:Rd h 3 y xs)(hl:xs.length≤1000000):ai Tryz.prog 91 [y] h fun r h' =>OwE 158 h h' 3 r xs∧Ab.Sub h h' :=by
 refine abH Tryz.func91 8 [.tmp 2] fun hwf=> ?_
 simp only[go_sem];refine hb.nil fun b hxs=> ?_
 cases b
 ·simp only[go_sem]
  refine hb.src (U:=U) (e:=158) abW ⟨hb.1,abI,OwE.ju (U:=U) (sz:=3) abW abW hb.1 fun y' h' hw hs=> ?_⟩
  exact af0
 ·exact afX
theorem zS(y:AV)(xs:List AV)(h:Heap)(hb:Rd h 3 y xs)(hl:xs.length≤1000000)(hp:fW xs=true):ai Tryz.prog 91 [y] h fun r h' =>r= .sl xs .no∧h' =h:=
 ai.freeze fun g hg _=>(J0 y xs g (hb.sub hg) hl).mono fun r h' ⟨h1,h2⟩=>⟨h2,_,h1.frz hp,rfl⟩
theorem HB(y:AV)(xs:List AV)(h:Heap)(hb:Rd h 5 y xs)(hl:xs.length≤1000000):ai Tryz.prog 219 [y] h fun r h' =>OwE 224 h h' 5 r xs∧Ab.Sub h h' :=by
 refine abH Tryz.func219 8 [.tmp 2] fun hwf=> ?_
 simp only[go_sem];refine hb.nil fun b hxs=> ?_
 cases b
 ·simp only[go_sem]
  refine hb.src (U:=U) (e:=224) abW ⟨hb.1,abI,OwE.ju (U:=U) (sz:=5) abW abW hb.1 fun y' h' hw hs=> ?_⟩
  exact af0
 ·exact afX
theorem Ci(y:AV)(xs:List AV)(h:Heap)(hb:Rd h 7 y xs)(hl:xs.length≤1000000):ai Tryz.prog 220 [y] h fun r h' =>OwE 65 h h' 7 r xs∧Ab.Sub h h' :=by
 refine abH Tryz.func220 8 [.tmp 2] fun hwf=> ?_
 simp only[go_sem];refine hb.nil fun b hxs=> ?_
 cases b
 ·simp only[go_sem]
  refine hb.src (U:=U) (e:=65) abW ⟨hb.1,abI,OwE.ju (U:=U) (sz:=7) abW abW hb.1 fun y' h' hw hs=> ?_⟩
  exact af0
 ·exact afX
theorem Hy(y:AV)(xs:List AV)(h:Heap)(hb:Rd h 7 y xs)(hl:xs.length≤1000000):ai Tryz.prog 221 [y] h fun r h' =>OwE 229 h h' 7 r xs∧Ab.Sub h h' :=by
 refine abH Tryz.func221 8 [.tmp 2] fun hwf=> ?_
 simp only[go_sem];refine hb.nil fun b hxs=> ?_
 cases b
 ·simp only[go_sem]
  refine hb.src (U:=U) (e:=229) abW ⟨hb.1,abI,OwE.ju (U:=U) (sz:=7) abW abW hb.1 fun y' h' hw hs=> ?_⟩
  exact af0
 ·exact afX
theorem Eo(y:AV)(xs:List AV)(h:Heap)(hb:Rd h 7 y xs)(hl:xs.length≤1000000)(hp:fW xs=true):ai Tryz.prog 221 [y] h fun r h' =>r= .sl xs .no∧h' =h:=
 ai.freeze fun g hg _=>(Hy y xs g (hb.sub hg) hl).mono fun r h' ⟨h1,h2⟩=>⟨h2,_,h1.frz hp,rfl⟩
theorem Em(y:AV)(xs:List AV)(h:Heap)(hb:Rd h 7 y xs)(hl:xs.length≤1000000):ai Tryz.prog 253 [y] h fun r h' =>OwE 273 h h' 7 r xs∧Ab.Sub h h' :=by
 refine abH Tryz.func253 8 [.tmp 2] fun hwf=> ?_
 simp only[go_sem];refine hb.nil fun b hxs=> ?_
 cases b
 ·simp only[go_sem]
  refine hb.src (U:=U) (e:=273) abW ⟨hb.1,abI,OwE.ju (U:=U) (sz:=7) abW abW hb.1 fun y' h' hw hs=> ?_⟩
  exact af0
 ·exact afX
theorem Ck(y:AV)(xs:List AV)(h:Heap)(hb:Rd h 7 y xs)(hl:xs.length≤1000000)(hp:fW xs=true):ai Tryz.prog 253 [y] h fun r h' =>r= .sl xs .no∧h' =h:=
 ai.freeze fun g hg _=>(Em y xs g (hb.sub hg) hl).mono fun r h' ⟨h1,h2⟩=>⟨h2,_,h1.frz hp,rfl⟩
theorem En(y:AV)(xs:List AV)(h:Heap)(hb:Rd h 3 y xs)(hl:xs.length≤1000000):ai Tryz.prog 283 [y] h fun r h' =>OwE 30 h h' 3 r xs∧Ab.Sub h h' :=by
 refine abH Tryz.func283 8 [.tmp 2] fun hwf=> ?_
 simp only[go_sem];refine hb.nil fun b hxs=> ?_
 cases b
 ·simp only[go_sem]
  refine hb.src (U:=U) (e:=30) abW ⟨hb.1,abI,OwE.ju (U:=U) (sz:=3) abW abW hb.1 fun y' h' hw hs=> ?_⟩
  exact af0
 ·exact afX
theorem Cl(y:AV)(xs:List AV)(h:Heap)(hb:Rd h 3 y xs)(hl:xs.length≤1000000)(hp:fW xs=true):ai Tryz.prog 283 [y] h fun r h' =>r= .sl xs .no∧h' =h:=
 ai.freeze fun g hg _=>(En y xs g (hb.sub hg) hl).mono fun r h' ⟨h1,h2⟩=>⟨h2,_,h1.frz hp,rfl⟩
def O1(h0 h:Heap)(x:AV)(c:aL):Prop:=∃f l,x= .agg [.s c.id,.s c.owner,.s c.state,f,l]∧OwE 215 h0 h 4 f (c.fields.map bN)∧OwE 205 h0 h 3 l (c.log.map iu)∧∀i,nid f=some i→nid l≠some i
theorem cH{h:Heap}{i j:Nat}{b:Blk}(h1:h i=none)(h2:h j=some b):i≠j:=fun e=>by subst e;rw[h2]at h1;cases h1
theorem yg{h:Heap}{x:AV}{c:aL}(hb:RdC h x c)(hl:c.fields.length≤1000000)(hl2:c.log.length≤1000000):ai Tryz.prog 139 [x] h fun r h' =>O1 h h' r c∧Ab.Sub h h' :=by
 obtain⟨f,l,rfl,hf,hlg⟩:=hb;refine abH Tryz.func139 12 [.cell 2 134] fun hwf=> ?_
 simp only[go_sem];intro i1 h1;simp only[go_sem];intro i2 h2;have n21:=aH h2;have n2:=aC h2;simp only[go_sem];obtain⟨H,eH⟩:∃H,upd (upd h i1 (some (.obj [.s c.id,.s c.owner,.s c.state,f,l] 134))) i2 (some (.obj [.s [],.s [],.s [],.sl [] .full,.sl [] .full] 134))=H:=⟨_,rfl⟩;have hH:Ab.Sub h H:=acK;have g1:H i1=some (.obj [.s c.id,.s c.owner,.s c.state,f,l] 134):=adk;have g2:H i2=some (.obj [.s [],.s [],.s [],.sl [] .full,.sl [] .full] 134):=ada;rw[eH];refine .stage (hm1 i1 _) [0,1,3,4,2,6,5] [7,8,9] (.hm1 g1) abM ?_;simp only[go_sem,fQ];refine(El f _ H (hf.sub hH) abJ).mono fun f' H1 ⟨hf',s1⟩=> ?_
 refine⟨.hm1 (s1 _ _ g1), ?_⟩;simp only[go_sem];refine(pO l _ H1 ((hlg.sub hH).sub s1) abJ).mono fun l' H2 ⟨hl',s2⟩=> ?_
 refine⟨.hm1 (s2 _ _ (s1 _ _ g1)),cK,(fun _ _ e=>ab8), ?_⟩
 have g1' :=s2 _ _ (s1 _ _ g1);have g2' :=s2 _ _ (s1 _ _ g2);simp only[go_sem,g1',hf'.rd.fit,hf'.rd.cells,hl'.rd.fit,hl'.rd.cells];have n1:∀b,upd H2 i1 b i2=some (.obj [.s [],.s [],.s [],.sl [] .full,.sl [] .full] 134):=fun b=>ack
 refine⟨fun _ _ e=>ab8,fun _ _ e=>ab8, ?_⟩
 simp only[go_sem,n1];have hid:∀ {y:AV} {xs:List AV} {G:Heap} {tb:TypeId} {z:Nat},Ab.Sub H G→OwE tb G H2 z y xs→∀a b,OwE tb h (upd (upd H2 i1 a) i2 b) z y xs:=fun hG hw a b=>(hw.less (hH.trans hG)).keep fun id e=>by
  have h0:=hG.none (hw.nid e).1;rw[ag _ _ (cH h0 g2),ag _ _ (cH h0 g1)]
 refine .mk _ (.refl _) (.refl _) ⟨⟨f',l',rfl,hid (.refl _) (hf'.sub s2) _ _,hid s1 hl' _ _,fun i ef el=> ?_⟩,((hH.trans (s1.trans s2)).put h1 _).put n2 _⟩
 exact(hf'.nid ef).2.1 ((hl'.nid el).1)
theorem vI{h:Heap}{x:AV}{c:aL}(hb:RdC h x c)(hl:c.fields.length≤1000000)(hl2:c.log.length≤1000000):ai Tryz.prog 139 [x] h fun r h' =>r=cq c∧h' =h:=
 ai.freeze fun g hg _=>(yg (hb.sub hg) hl hl2).mono fun r h' ⟨⟨f,l,e,hf,hlg,_⟩,h2⟩=>⟨h2,cq c,by
  subst e;refine .agg _ _ rfl fun i h1 h2=> ?_
  rcases i with _|_|_|_|_|i
  ·exact ab2
  ·exact ab2
  ·exact ab2
  ·exact hf.frz (bf (fun _=>rfl) _)
  ·exact hlg.frz (bf (fun _=>rfl) _)
  ·simp at h1;omega,rfl⟩
theorem Lj(l:List bP):fW (l.map dD)=true:=bf (fun _=>rfl) l
theorem T9:(U 274).sz=1:=abW
theorem Ua:(U 270).sz=1:=abW
theorem th(t:fT)(ht:kT t=0)(h:Heap):ai Tryz.prog 218 [aU t] h fun r h' =>r=aU t∧h' =h:=by
 obtain⟨hl,he⟩:=AR ht;refine abH Tryz.func218 33 [.tmp 2] fun hwf=> ?_
 simp only[go_sem,aU,aby];refine .intro (fun m ρ h' =>∃(i:Nat) (y:AV) (ys:List AV),Acc U 270 h h' y ys∧ys.length=i∧(∀j (h1:j<ys.length) (h2:j<t.length),∃q,ys[j]= .sl (t[j].map iI) q)∧i≤t.length∧m=t.length - i∧lk ρ 3=some y∧lk ρ 9=some (.sl (t.map cO) .no)∧lk ρ 10=some (.i t.length)∧lk ρ 11=some (.i i)) t.length ?_ ?_
 ·refine⟨0,_,[],.full (.refl _),rfl,fun j h1=>abJ,abI,rfl, ?_, ?_, ?_, ?_⟩<;>simp only[go_sem]
 ·rintro m ρ h' ⟨i,y,ys,hy,hn,hys,hi,rfl,r3,r9,r10,r11⟩
  simp only[go_sem,r10,r11];refine .intro (fun e=> ?_) (fun e=> ?_)
  ·have hlt:i<t.length:=abF e
   have w1:IntKind.i64.wrap ((i:Int)+1)=((i+1:Nat):Int):=abV;obtain⟨ha0,hal,hae⟩:=zP (he _ (abD hlt));simp only[go_sem,r9,r11];refine .at i abJ abY ?_;simp only[go_sem,abz,cO,aby];refine .intro (fun m ρ H=>∃(j:Nat) (z:AV) (zs:List AV),Acc U 274 h' H z zs∧zs=(t[i].take j).map iI∧j≤t[i].length∧m=t[i].length - j∧lk ρ 3=some y∧lk ρ 9=some (.sl (t.map cO) .no)∧lk ρ 10=some (.i t.length)∧lk ρ 11=some (.i i)∧lk ρ 6=some z∧lk ρ 15=some (.sl (t[i].map iI) .no)∧lk ρ 16=some (.i t[i].length)∧lk ρ 17=some (.i j)) t[i].length ?_ ?_
   ·refine⟨0,_,[],.full (.refl _),rfl,abI,rfl, ?_, ?_, ?_, ?_, ?_, ?_, ?_, ?_⟩<;>simp only[go_sem,r3,r9,r10,r11]
   ·rintro m ρ H ⟨j,z,zs,hz,rfl,hj,rfl,r3,r9,r10,r11,r6,r15,r16,r17⟩
    simp only[go_sem,r16,r17];refine .intro (fun e=> ?_) (fun e=> ?_)
    ·have hlt2:j<t[i].length:=abF e
     have w2:IntKind.i64.wrap ((j:Int)+1)=((j+1:Nat):Int):=abV;have hml:=(zO (hae _ (abD hlt2))).2.1;simp only[go_sem,r15,r17];refine .at j abJ abY ?_;simp only[go_sem,r6,abz,iI];refine(Ck _ (t[i][j].map dD) _ (dN dD 7 (fun _=>rfl) _ _) abJ (Lj _)).pthen ?_
     simp only[go_sem];refine hz.app (zs:=[iI t[i][j]]) abL abL (fun k hk=>hk) (by rw[T9];exact bp (f:=iI) (fun _=>rfl) _) (by rw[T9];exact bp (f:=iI) (fun _=>rfl) [t[i][j]]) (by simp only[go_sem,aby,List.length_cons,List.length_nil,List.length_take];omega) fun z' H' hz' _=> ?_
     simp only[go_sem,r17,w2];refine⟨_, ?_,j+1,z',_,hz', ?_,abI,rfl, ?_, ?_, ?_, ?_, ?_, ?_, ?_, ?_⟩
     ·omega
     ·grind [List.take_succ_eq_append_getElem]
     all_goals simp only[go_sem,r3,r9,r10,r11,r15,r16]
    ·have hge:j=t[i].length:=by grind
     subst hge;rw[List.take_length]at hz;have hyH:=hy.sub hz.1;obtain⟨q,rfl⟩:=hz.row;simp only[go_sem,r3,r6];refine hyH.app (zs:=[.sl (t[i].map iI) q]) abL abL (fun k hk=>hk) (by rw[Ua];intro w hw;obtain⟨k,hk,rfl⟩:=List.mem_iff_getElem.1 hw;obtain⟨q',e'⟩:=hys k hk abI;rw[e'];rfl) (by rw[Ua];intro w hw;rw[List.mem_singleton.1 hw];rfl) (by simp only[go_sem,hn,List.length_cons,List.length_nil];omega) fun y' H' hy' _=> ?_
     simp only[go_sem,r11,w1];refine⟨_, ?_,i+1,y',_,hy',abJ,fun k h1 h2=> ?_,abI,rfl, ?_, ?_, ?_, ?_⟩
     ·omega
     ·grind
     all_goals simp only[go_sem,r9,r10]
  ·have hge:i=t.length:=by grind
   simp only[go_sem,r3];obtain⟨q,rfl⟩:=hy.row;refine .mk (aU t) ?_ hy.1 ⟨rfl,rfl⟩;refine .deep _ _ q abJ (fun k h1 h2=> ?_) fun k h1 h2 j h3 h4=> ?_
   ·obtain⟨q',e'⟩:=hys k h1 abI
    rw[e',abz];rfl
   ·obtain⟨q',e'⟩:=hys k h1 abI
    simp only[e',AV.cells,List.length_singleton]at h3;obtain rfl:j=0:=abI;simp only[e',abz,cO,AV.cells,List.getElem_singleton];exact ael
theorem yu(t:fT):cG (aU t)=true:=by
 refine bf (fun a=> ?_) t
 refine bf (fun b=> ?_) a
 exact bf (fun _=>rfl) b
theorem IV(l:List aO):cG (eV l)=true:=by simp only[eV,cG];exact bf (fun _=>rfl) l
theorem uJ(l:List cE):cG (aA l)=true:=by simp only[aA,cG];exact bf (fun _=>rfl) l
theorem AE(r:cM):cG (aB r)=true:=by simp[aB,cG,fW,yu,IV,uJ]
mutual
theorem Dt:∀p:bJ,cG (aM p)=true
 |.mk id set alg tgt rules kids obls=>by simp[aM,cG,fW,yu,uJ,bf AE rules,uH kids]
theorem uH:∀l:List bJ,fW (fk l)=true
 | []=>rfl
 |k::r=>by simp[fk,fW,Dt k,uH r]
end
theorem ja(p:bJ):(aM p).cells.length=7:=by cases p;rfl
theorem MF{l:List aO}(h:jM l=0):l.length≤32:=by
 grind [xy]
theorem Gw{l:List cE}(h:gX l=0):l.length≤8:=(jY h).1
theorem sj{H:Heap}{i:Nat}{x:Option Blk}(h:H i=x):upd H i x=H:=by
 grind [ah,ag]
theorem lq{tb:TypeId}{h:Heap}{sz id i:Nat}{y:AV}{xs cs:List AV}{t:TypeId}(hw:Ow tb h sz id y xs)(hi:h i=some (.obj cs t))(ht:t≠tb):id≠i:=by
 obtain⟨cap,rest,rfl,h1,_⟩:=hw
 grind
theorem jF{sz:Nat}{xs:List AV}(hs:Sized sz xs)(j:Nat)(hj:j<xs.length)(o:Nat)(c:List AV)(ho:o+c.length≤sz){rest:List AV}:
  (aq xs++rest).take (j*sz+o)++c++(aq xs++rest).drop (j*sz+o+c.length)=aq (xs.set j (.agg (Ab.over xs[j].cells o c)))++rest:=by
 have hl:=aV hs;have hb:(j+1)*sz≤xs.length*sz:=Nat.mul_le_mul_right _ abI;rw[Nat.add_mul,Nat.one_mul]at hb;have:=K8 (us:=aq xs) (vs:=rest) (o:=j*sz+o) (c:=c) abI;rw[Ab.over]at this;rw[this,HS hs j hj o c ho]
theorem nL{α:Type}{xs:List α}{i:Nat}{x:α}(h:xs[i]? =some x):xs.set i x=xs:=by
 obtain⟨hi,rfl⟩:=List.getElem?_eq_some_iff.1 h;simp
theorem mN(id:Txt)(set:Bool)(alg:Int)(tgt:fT)(rules:List cM)(kids:List bJ)(obls:List cE):aM (.mk id set alg tgt rules kids obls)= .agg [.s id,.b set,.i alg,aU tgt,.sl (rules.map aB) .no,.sl (kids.map aM) .no,aA obls]:=by simp[aM,aX]
theorem tg:∀(p:bJ) (d:Nat),mc d p→∀h,ai Tryz.prog 178 [aM p] h fun r h' =>r=aM p∧h' =h
 |.mk pid pset palg ptgt prules pkids pobls,d,hp,h=>by
  obtain⟨_,_,_,_,_,_,ht,ho,hr16,hk16,hre,hke⟩:=hp;rw[qj]at hke;have ih:∀(j:Nat) (hj:j<pkids.length) (h:Heap),ai Tryz.prog 178 [aM pkids[j]] h fun r h' =>r=aM pkids[j]∧h' =h:=fun j hj h=>tg pkids[j] (d+1) (hke _ (abD hj)) h
  have hob:=Gw ho;refine ai.freeze fun g hg _=> ?_
  rw[mN];refine abH Tryz.func178 72 [.cell 2 65] fun hwf=> ?_
  simp only[go_sem];intro i1 h1;simp only[go_sem];intro i2 h2;have n21:=aH h2;have n2:=aC h2;simp only[go_sem];obtain⟨H,eH⟩:∃H,upd (upd g i1 (some (.obj [.s pid,.b pset,.i palg,aU ptgt,.sl (prules.map aB) .no,.sl (pkids.map aM) .no,aA pobls] 65))) i2 (some (.obj [.s [],.b false,.i 0,.sl [] .full,.sl [] .full,.sl [] .full,.sl [] .full] 65))=H:=⟨_,rfl⟩;have hH:Ab.Sub g H:=by rw[←eH];exact((Sub.refl g).put h1 _).put n2 _
  have g1:H i1=some (.obj [.s pid,.b pset,.i palg,aU ptgt,.sl (prules.map aB) .no,.sl (pkids.map aM) .no,aA pobls] 65):=adk;have g2:H i2=some (.obj [.s [],.b false,.i 0,.sl [] .full,.sl [] .full,.sl [] .full,.sl [] .full] 65):=ada;rw[eH];refine .stage (hm1 i1 _) [0,1,3,4,2,6,5] [7,8,9] (.hm1 g1) abM ?_;simp only[go_sem,fQ];refine(th ptgt ht H).pthen ?_;refine⟨.hm1 g1, ?_⟩;simp only[go_sem];refine(zS _ (pobls.map bn) H (dN bn 3 (fun _=>rfl) _ _) acj (bf (fun _=>rfl) _)).pthen ?_
  refine⟨.hm1 g1,cK,(fun _ _ e=>ab8), ?_⟩
  have cT:(aU ptgt).cells= [aU ptgt]:=rfl;simp only[go_sem,g1,show fit (aU ptgt) 1=(1=1)from rfl,cT]
  have eo:(.sl (pobls.map bn) .no:AV)=aA pobls:=rfl;rw[eo];refine⟨fun _ _ e=>ab8,fun _ _ e=>ab8, ?_⟩
  rw[sj g1];refine .stage (hm1 i1 _) [0,1,3,4,2,6,5] [7,8,9] (.hm1 g1) abM ?_;simp only[go_sem,fQ];refine(HB _ (prules.map aB) H (dN aB 5 (fun _=>rfl) _ _) acj).mono fun y4 H1 ⟨w4,s1⟩=> ?_
  refine⟨.hm1 (s1 _ _ g1), ?_⟩;simp only[go_sem];refine(Ci _ (pkids.map aM) H1 (dN aM 7 ja _ _) acj).mono fun y5 H2 ⟨w5,s2⟩=> ?_
  have g1' :=s2 _ _ (s1 _ _ g1);have g2' :=s2 _ _ (s1 _ _ g2);refine⟨.hm1 g1',cK,(fun _ _ e=>ab8), ?_⟩
  simp only[go_sem,g1',w4.rd.fit,w4.rd.cells,w5.rd.fit,w5.rd.cells];refine⟨fun _ _ e=>ab8,fun _ _ e=>ab8, ?_⟩
  have hn4:∀id,nid y4=some id→id≠i2:=fun id e=>cH (w4.nid e).1 g2
  have hn5:∀id,nid y5=some id→id≠i2:=fun id e=>cH (w5.nid e).1 (s1 _ _ g2)
  have hnd:∀i,nid y4=some i→nid y5≠some i:=fun i e4 e5=>(w4.nid e4).2.1 (w5.nid e5).1
  have v4:∀b,OwE 224 g (upd H2 i1 b) 5 y4 (prules.map aB):=fun b=>((w4.sub s2).less hH).keep fun id e=>ag _ _ (cH (w4.nid e).1 g1)
  have v5:∀b,OwE 65 g (upd H2 i1 b) 7 y5 (pkids.map aM):=fun b=>(w5.less (hH.trans s1)).keep fun id e=>ag _ _ (cH (s1.none (w5.nid e).1) g1)
  have vs:∀b,Ab.Sub g (upd H2 i1 b):=fun b=>(hH.trans (s1.trans s2)).put h1 b
  have vz:∀b,upd H2 i1 b i2=some (.obj [.s [],.b false,.i 0,.sl [] .full,.sl [] .full,.sl [] .full,.sl [] .full] 65):=fun b=>by rw[ag _ _ n21];exact g2'
  obtain⟨H3,eH3⟩:∃H3,upd H2 i1 (some (.obj [.s pid,.b pset,.i palg,aU ptgt,y4,y5,aA pobls] 65))=H3:=⟨_,rfl⟩;have q1:H3 i1=some (.obj [.s pid,.b pset,.i palg,aU ptgt,y4,y5,aA pobls] 65):=by rw[←eH3,ah]
  replace v4:=v4 (some (.obj [.s pid,.b pset,.i palg,aU ptgt,y4,y5,aA pobls] 65));replace v5:=v5 (some (.obj [.s pid,.b pset,.i palg,aU ptgt,y4,y5,aA pobls] 65));replace vs:=vs (some (.obj [.s pid,.b pset,.i palg,aU ptgt,y4,y5,aA pobls] 65));replace vz:=vz (some (.obj [.s pid,.b pset,.i palg,aU ptgt,y4,y5,aA pobls] 65));rw[eH3]at v4 v5 vs vz;rw[eH3];clear eH3;have hi1:∀id,g id=none→∀ {K:Heap} {b:Blk},K id=some b→K id≠none:=fun id _ K b e=>by rw[e];simp
  simp only[go_sem,v4.rd.len,aby];refine .intro (fun m ρ G=>∃i:Nat,G i1=some (.obj [.s pid,.b pset,.i palg,aU ptgt,y4,y5,aA pobls] 65)∧G i2=some (.obj [.s [],.b false,.i 0,.sl [] .full,.sl [] .full,.sl [] .full,.sl [] .full] 65)∧Ab.Sub g G∧OwE 224 g G 5 y4 (prules.map aB)∧OwE 65 g G 7 y5 (pkids.map aM)∧i≤prules.length∧m=prules.length - i∧
   lk ρ 1=some (.ptr i1 0)∧lk ρ 2=some (.ptr i2 0)∧lk ρ 24=some y4∧lk ρ 25=some (.i prules.length)∧lk ρ 26=some (.i i)) prules.length ?_ ?_
  ·refine⟨0,q1,vz,vs,v4,v5,abI,rfl, ?_, ?_, ?_, ?_, ?_⟩<;>simp only[go_sem]
  ·rintro m ρ G ⟨i,q1,vz,vs,v4,v5,hi,rfl,r1,r2,r24,r25,r26⟩
   simp only[go_sem,r25,r26];refine .intro (fun e=> ?_) (fun e=> ?_)
   ·have hlt:i<prules.length:=abF e
    have w1:=abE i abI;obtain⟨_,rt,rc,ro⟩:=hre _ (abD hlt);have hrc:=MF rc;have hro:=Gw ro;simp only[go_sem,r24,r26];refine v4.rd.idx (e:=224) i rfl ab7 abR abL fun p hp1=> ?_
    have hld:=hp1.all (U:=U) (ty:=224) abR aco aco;simp only[go_sem,hld,abz,aB];intro i4 h4;have n41:i4≠i1:=cH h4 q1;simp only[go_sem];obtain⟨G4,eG4⟩:∃G4,upd G i4 (some (.obj [.s prules[i].id,.b prules[i].deny,aU prules[i].tgt,eV prules[i].cond,aA prules[i].obls] 224))=G4:=⟨_,rfl⟩;rw[eG4];have p1:G4 i1=some (.obj [.s pid,.b pset,.i palg,aU ptgt,y4,y5,aA pobls] 65):=aek;have p4:G4 i4=some (.obj [.s prules[i].id,.b prules[i].deny,aU prules[i].tgt,eV prules[i].cond,aA prules[i].obls] 224):=by rw[←eG4,ah]
    have sG:Ab.Sub G G4:=aeY;refine .calls (hm2 i1 (.obj [.s pid,.b pset,.i palg,aU ptgt,y4,y5,aA pobls] 65) i4 (.obj [.s prules[i].id,.b prules[i].deny,aU prules[i].tgt,eV prules[i].cond,aA prules[i].obls] 224)) [0,1,2,3,4,5,6,7,8,9,10,12,13,15,16,11,14,17,18,19,20,21,22,23,24,25,26] (.hm2 p1 p4) abM rfl ?_;simp only[go_sem,r1,qO _ _ n41.symm,qP];refine(th prules[i].tgt rt G4).pthen ?_;refine⟨.hm2 p1 p4, ?_⟩;simp only[go_sem];refine(Eo _ (prules[i].cond.map dw) G4 (dN dw 7 (fun _=>rfl) _ _) acj (bf (fun _=>rfl) _)).pthen ?_
    refine⟨.hm2 p1 p4, ?_⟩;simp only[go_sem];refine(zS _ (prules[i].obls.map bn) G4 (dN bn 3 (fun _=>rfl) _ _) acj (bf (fun _=>rfl) _)).pthen ?_
    refine⟨.hm2 p1 p4, ?_⟩;simp only[go_sem];obtain⟨id4,hg4,o4⟩:=(v4.sub sG).ow adQ;have m1:id4≠i1:=lq o4 p1 abL;have m4:id4≠i4:=fun e=>(v4.nid o4.nid).2.1 (by rw[e];exact h4)
    refine o4.idx (U:=U) (e:=224) i rfl ab7 abR abL ?_;simp only[go_sem];have o4' :=o4;obtain⟨cap,rest,ey,hid,hr,hc,hsz⟩:=o4';have hbd:i*5+5≤(aq (prules.map aB)++rest).length:=by
     rw[abC,aV hsz,aby];omega
    have e2:List.take (i*5+2) (aq (prules.map aB)++rest)++(aU prules[i].tgt).cells++List.drop (i*5+2+(aU prules[i].tgt).cells.length) (aq (prules.map aB)++rest)=aq (prules.map aB)++rest:=by
     refine(jF hsz i ab7 2 ((aU prules[i].tgt).cells) (abx rfl)).trans ?_;exact aha
    have e3:List.take (i*5+3) (aq (prules.map aB)++rest)++ [.sl (prules[i].cond.map dw) .no]++List.drop (i*5+3+1) (aq (prules.map aB)++rest)=aq (prules.map aB)++rest:=by
     refine(jF hsz i ab7 3 ([.sl (prules[i].cond.map dw) .no]) (abx rfl)).trans ?_;exact aha
    have e4:List.take (i*5+4) (aq (prules.map aB)++rest)++ [.sl (prules[i].obls.map bn) .no]++List.drop (i*5+4+1) (aq (prules.map aB)++rest)=aq (prules.map aB)++rest:=by
     refine(jF hsz i ab7 4 ([.sl (prules[i].obls.map bn) .no]) (abx rfl)).trans ?_;exact aha
    simp only[go_sem,hid];rw[e2,sj hid];refine⟨rfl,abI,.hm2 p1 p4, ?_⟩;refine o4.idx (U:=U) (e:=224) i rfl ab7 abR abL ?_;simp only[go_sem,hid];rw[e3,sj hid];refine⟨abI,.hm2 p1 p4, ?_⟩;refine o4.idx (U:=U) (e:=224) i rfl ab7 abR abL ?_;simp only[go_sem,hid];rw[e4,sj hid];refine⟨abI,.hm2 p1 p4, ?_⟩;simp only[go_sem,r26,w1];refine⟨_, ?_,i+1,p1,sG _ _ vz,vs.trans sG,v4.sub sG,v5.sub sG,abI,rfl, ?_, ?_, ?_, ?_, ?_⟩
    ·omega
    all_goals simp only[go_sem,r1,r2,r24,r25]
   ·have hge:i=prules.length:=by have:=abB e;omega
    clear hge;simp only[go_sem,r1,q1,v5.rd.len,aby];refine .intro (fun m ρ G=>∃i:Nat,G i1=some (.obj [.s pid,.b pset,.i palg,aU ptgt,y4,y5,aA pobls] 65)∧G i2=some (.obj [.s [],.b false,.i 0,.sl [] .full,.sl [] .full,.sl [] .full,.sl [] .full] 65)∧Ab.Sub g G∧OwE 224 g G 5 y4 (prules.map aB)∧OwE 65 g G 7 y5 (pkids.map aM)∧i≤pkids.length∧m=pkids.length - i∧
     lk ρ 1=some (.ptr i1 0)∧lk ρ 2=some (.ptr i2 0)∧lk ρ 57=some y5∧lk ρ 58=some (.i pkids.length)∧lk ρ 59=some (.i i)) pkids.length ?_ ?_
    ·refine⟨0,q1,vz,vs,v4,v5,abI,rfl, ?_, ?_, ?_, ?_, ?_⟩<;>simp only[go_sem,r1,r2]
    ·clear r1 r2 r24 r25 r26 q1 vz vs v4 v5 e hi
     rintro m ρ G ⟨i,q1,vz,vs,v4,v5,hi,rfl,r1,r2,r57,r58,r59⟩
     simp only[go_sem,r58,r59];refine .intro (fun e=> ?_) (fun e=> ?_)
     ·have hlt:i<pkids.length:=abF e
      have w1:=abE i abI;have ihi:=ih i hlt;have hci:=ja pkids[i];cases hpk:pkids[i]with
      |mk kid kset kalg ktgt krules kkids kobls=>
      rw[hpk,mN]at ihi;simp only[go_sem,r57,r59];refine v5.rd.idx (e:=65) i rfl ab7 abR abL fun p hp1=> ?_
      have hld:=hp1.all (U:=U) (ty:=65) abR (by simp only[go_sem];rw[abz];exact hci) (by simp only[go_sem];rw[abz,hpk,mN];rfl)
      simp only[go_sem,hld,abz,hpk,mN];intro i4 h4;have n41:i4≠i1:=cH h4 q1;simp only[go_sem];obtain⟨G4,eG4⟩:∃G4,upd G i4 (some (.obj [.s kid,.b kset,.i kalg,aU ktgt,.sl (krules.map aB) .no,.sl (kkids.map aM) .no,aA kobls] 65))=G4:=⟨_,rfl⟩;rw[eG4];have p1:G4 i1=some (.obj [.s pid,.b pset,.i palg,aU ptgt,y4,y5,aA pobls] 65):=aek;have p4:G4 i4=some (.obj [.s kid,.b kset,.i kalg,aU ktgt,.sl (krules.map aB) .no,.sl (kkids.map aM) .no,aA kobls] 65):=by rw[←eG4,ah]
      have sG:Ab.Sub G G4:=aeY;refine .calls (hm2 i1 (.obj [.s pid,.b pset,.i palg,aU ptgt,y4,y5,aA pobls] 65) i4 (.obj [.s kid,.b kset,.i kalg,aU ktgt,.sl (krules.map aB) .no,.sl (kkids.map aM) .no,aA kobls] 65)) [0,1,2,3,4,5,6] (.hm2 p1 p4) abM rfl ?_;simp only[go_sem,r1,qO _ _ n41.symm,qP];refine(ihi G4).pthen ?_;refine⟨.hm2 p1 p4, ?_⟩;simp only[go_sem];obtain⟨id4,hg4,o4⟩:=(v5.sub sG).ow adQ;have o4' :=o4;obtain⟨cap,rest,ey,hid,hr,hc,hsz⟩:=o4';have hbd:i*7+7≤(aq (pkids.map aM)++rest).length:=by
       rw[abC,aV hsz,aby];omega
      have e2:List.take (i*7) (aq (pkids.map aM)++rest)++ [.s kid,.b kset,.i kalg,aU ktgt,.sl (krules.map aB) .no,.sl (kkids.map aM) .no,aA kobls]++List.drop (i*7+7) (aq (pkids.map aM)++rest)=aq (pkids.map aM)++rest:=by
       refine(jF hsz i ab7 0 [.s kid,.b kset,.i kalg,aU ktgt,.sl (krules.map aB) .no,.sl (kkids.map aM) .no,aA kobls] (abx rfl)).trans ?_;rw[nL];rw[List.getElem?_eq_getElem ab7,abz,hpk,mN];rfl
      refine o4.idx (U:=U) (e:=65) i rfl ab7 abR abL ?_;simp only[go_sem,hid];rw[e2,sj hid];refine⟨abI,.hm2 p1 p4, ?_⟩;simp only[go_sem,r59,w1];refine⟨_, ?_,i+1,p1,sG _ _ vz,vs.trans sG,v4.sub sG,v5.sub sG,abI,rfl, ?_, ?_, ?_, ?_, ?_⟩
      ·omega
      all_goals simp only[go_sem,r1,r2,r57,r58]
     ·simp only[go_sem,r1,r2,q1,vz]
      refine .mk _ (.refl _) (.refl _) ⟨vs.put n2 _,aM (.mk pid pset palg ptgt prules pkids pobls), ?_,mN ..⟩;rw[mN];have z4:∀b,Frz g (upd G i2 b) y4 (.sl (prules.map aB) .no):=fun b=>(v4.keep fun id e=>ag _ _ (hn4 id e)).frz (bf AE prules)
      have z5:∀b,Frz g (upd G i2 b) y5 (.sl (pkids.map aM) .no):=fun b=>(v5.keep fun id e=>ag _ _ (hn5 id e)).frz (by rw[←aX];exact uH pkids)
      refine .agg _ _ rfl fun k k1 k2=> ?_
      rcases k with _|_|_|_|_|_|_|k
      ·exact ab2
      ·exact ab2
      ·exact ab2
      ·exact .pure (yu _)
      ·exact z4 _
      ·exact z5 _
      ·exact .pure (uJ _)
      ·simp at k1;omega
termination_by p=>SizeOf.sizeOf p
decreasing_by
 have:=List.sizeOf_lt_of_mem (abD hj);simp only[bJ.mk.sizeOf_spec];omega
end Go.Proofs.YtcochaoekecfdaaGreatDoor
namespace Go.Ab
open Go
def apart(a b:AV):Prop:=∀i,nid a=some i→nid b≠some i
theorem apart.symm{a b:AV}(h:apart a b):apart b a:=fun i e1 e2=>h i e2 e1
theorem dM{a y:AV}{tb:TypeId}{g h:Heap}{sz:Nat}{xs:List AV}(hw:OwE tb g h sz y xs)(ha:∀i,nid a=some i→g i≠none):apart a y:=fun i e1 e2=>ha i e1 (hw.nid e2).1
theorem OwE.there{tb:TypeId}{h0 h h' :Heap}{sz:Nat}{y:AV}{xs:List AV}(hw:OwE tb h0 h sz y xs)(hs:∀i,h i≠Option.none→h' i≠Option.none):∀i,Ab.nid y=some i→h' i≠Option.none:=fun i e=>hs i (hw.nid e).2.1
theorem Sub.some{h h' :Heap}(hs:Sub h h'):∀i,h i≠Option.none→h' i≠Option.none:=fun i e e' =>e (hs.none e')
end Go.Ab
namespace Go.Proofs.YtcochaoekecfdaaGreatDoor
open Go Go.Ab Go.Bf
def eT(h0 h:Heap)(ys:List AV)(x:AV)(c:aL):Prop:=∃f l,x= .agg [.s c.id,.s c.owner,.s c.state,f,l]∧OwE 215 h0 h 4 f (c.fields.map bN)∧OwE 205 h0 h 3 l (c.log.map iu)∧apart f l∧∀y∈ys,apart f y∧apart l y
def lB(h0 h:Heap)(ys:List AV)(y1:AV)(cs:List aL)(i0:Nat):Prop:=∃xs,OwE 134 h0 h 5 y1 xs∧xs.length=cs.length∧(∀j (h1:j<xs.length) (h2:j<cs.length),j≠i0→xs[j]=cq cs[j])∧∀(h1:i0<xs.length) (h2:i0<cs.length),eT h0 h ys xs[i0] cs[i0]
def so(h0 h:Heap)(x:AV)(s:an)(i0:Nat):Prop:=∃y1 y2 y3 y4,x= .agg ([.i s.tick,y1,y2,y3,y4]++fN s.policy++ [.i s.version])∧lB h0 h [y1,y2,y3,y4] y1 s.cases i0∧
 OwE 143 h0 h 7 y2 (s.reviews.map iD)∧OwE 146 h0 h 3 y3 (s.notices.map mu)∧OwE 149 h0 h 2 y4 (s.roles.map dW)∧apart y1 y2∧apart y1 y3∧apart y1 y4∧apart y2 y3∧apart y2 y4∧apart y3 y4
theorem IP{cs L:List AV}(h:L.length=cs.length):Ab.over cs 0 L=L:=by
 simp_all [Ab.over,List.take_zero,List.nil_append,Nat.zero_add,List.drop_of_length_le,List.append_nil]
theorem Dj{h:Heap}{x:AV}{c:aL}(i i0:Nat)(hb:RdC h x c)(hl:c.fields.length≤1000000)(hl2:c.log.length≤1000000):ai Tryz.prog 139 [x] h fun r h' =>
  ∃f l,r= .agg [.s c.id,.s c.owner,.s c.state,f,l]∧Ab.Sub h h'∧f.cells= [f]∧l.cells= [l]∧(i≠i0→f=ga c.fields∧l=rT c.log)∧(i=i0→OwE 215 h h' 4 f (c.fields.map bN)∧OwE 205 h h' 3 l (c.log.map iu)∧apart f l):=by
 by_cases e:i=i0
 ·exact(yg hb hl hl2).mono fun r h' ⟨⟨f,l,e1,a,b,c⟩,d⟩=>⟨f,l,e1,d,a.rd.cells,b.rd.cells,fun hh=>(hh e).elim,fun _=>⟨a,b,c⟩⟩
 ·exact(vI hb hl hl2).mono fun r h' ⟨e1,e2⟩=>⟨_,_,e1,by rw[e2];exact .refl _,rfl,rfl,fun _=>⟨rfl,rfl⟩,fun hh=>(e hh).elim⟩
theorem eT.sub{h0 h h' :Heap}{ys:List AV}{x:AV}{c:aL}(hm:eT h0 h ys x c)(hs:Ab.Sub h h'):eT h0 h' ys x c:=by
 obtain⟨f,l,e,a,b,c,d⟩:=hm;exact⟨f,l,e,a.sub hs,b.sub hs,c,d⟩
theorem eT.keep{h0 h h' :Heap}{ys:List AV}{x:AV}{c:aL}(hm:eT h0 h ys x c)(hs:∀f l,x= .agg [.s c.id,.s c.owner,.s c.state,f,l]→(∀y∈ys,apart f y∧apart l y)→∀i,(nid f=some i∨nid l=some i)→h' i=h i):eT h0 h' ys x c:=by
 obtain⟨f,l,e,a,b,c,d⟩:=hm;exact⟨f,l,e,a.keep fun i hi=>hs f l e d i (.inl hi),b.keep fun i hi=>hs f l e d i (.inr hi),c,d⟩
theorem QE{h:Heap}{x:AV}{s:an}(hb:RdS h x s)(i0:Nat)(hf:Few s)(hp:mc 1 s.policy):ai Tryz.prog 133 [x] h fun r h' =>so h h' r s i0∧Ab.Sub h h' :=by
 obtain⟨y1,y2,y3,y4,rfl,⟨xs0,hc,hn,hcs⟩,h2,h3,h4⟩:=hb;have hpo:=tg s.policy 1 hp;cases hpp:s.policy with
 |mk pid pset palg ptgt prules pkids pobls=>
 rw[hpp,mN]at hpo;have hcC:fN (.mk pid pset palg ptgt prules pkids pobls)= [.s pid,.b pset,.i palg,aU ptgt,.sl (prules.map aB) .no,.sl (pkids.map aM) .no,aA pobls]:=aeJ;have hfc:=hf.cases;refine abH Tryz.func133 41 [.cell 2 67] fun hwf=> ?_
 simp only[go_sem,hcC,List.cons_append,List.nil_append];intro i1 h1;simp only[go_sem];intro i2 h2';have n21:=aH h2';have n2:=aC h2';simp only[go_sem,aj,n21.symm];obtain⟨H,eH⟩:∃H,upd (upd h i1 (some (.obj [.i s.tick,y1,y2,y3,y4,.s pid,.b pset,.i palg,aU ptgt,.sl (prules.map aB) .no,.sl (pkids.map aM) .no,aA pobls,.i s.version] 67))) i2 (some (.obj [.i 0,.sl [] .full,.sl [] .full,.sl [] .full,.sl [] .full,.s [],.b false,.i 0,.sl [] .full,.sl [] .full,.sl [] .full,.sl [] .full,.i 0] 67))=H:=⟨_,rfl⟩;have hH:Ab.Sub h H:=acK;have g1:H i1=some (.obj [.i s.tick,y1,y2,y3,y4,.s pid,.b pset,.i palg,aU ptgt,.sl (prules.map aB) .no,.sl (pkids.map aM) .no,aA pobls,.i s.version] 67):=adk;have g2:H i2=some (.obj [.i 0,.sl [] .full,.sl [] .full,.sl [] .full,.sl [] .full,.s [],.b false,.i 0,.sl [] .full,.sl [] .full,.sl [] .full,.sl [] .full,.i 0] 67):=ada;rw[eH];clear eH;refine(zQ y1 xs0 H (hc.sub hH) abI).mono fun z1 H1 ⟨w1,s1⟩=> ?_
 simp only[go_sem,s1 _ _ g1,w1.rd.fit,w1.rd.cells];have v1:∀b,OwE 134 h (upd H1 i1 b) 5 z1 xs0:=fun b=>(w1.less hH).keep fun id e=>ag _ _ (cH (w1.nid e).1 g1)
 have vs:∀b,Ab.Sub h (upd H1 i1 b):=fun b=>(hH.trans s1).put h1 b
 have vz:∀b,upd H1 i1 b i2=some (.obj [.i 0,.sl [] .full,.sl [] .full,.sl [] .full,.sl [] .full,.s [],.b false,.i 0,.sl [] .full,.sl [] .full,.sl [] .full,.sl [] .full,.i 0] 67):=fun b=>by rw[ag _ _ n21];exact s1 _ _ g2
 have hz1:∀id,nid z1=some id→id≠i1:=fun id e=>cH (w1.nid e).1 g1
 have hz2:∀id,nid z1=some id→id≠i2:=fun id e=>cH (w1.nid e).1 g2
 obtain⟨H2,eH2⟩:∃H2,upd H1 i1 (some (.obj [.i s.tick,z1,y2,y3,y4,.s pid,.b pset,.i palg,aU ptgt,.sl (prules.map aB) .no,.sl (pkids.map aM) .no,aA pobls,.i s.version] 67))=H2:=⟨_,rfl⟩;replace v1:=v1 (some (.obj [.i s.tick,z1,y2,y3,y4,.s pid,.b pset,.i palg,aU ptgt,.sl (prules.map aB) .no,.sl (pkids.map aM) .no,aA pobls,.i s.version] 67));replace vs:=vs (some (.obj [.i s.tick,z1,y2,y3,y4,.s pid,.b pset,.i palg,aU ptgt,.sl (prules.map aB) .no,.sl (pkids.map aM) .no,aA pobls,.i s.version] 67));replace vz:=vz (some (.obj [.i s.tick,z1,y2,y3,y4,.s pid,.b pset,.i palg,aU ptgt,.sl (prules.map aB) .no,.sl (pkids.map aM) .no,aA pobls,.i s.version] 67));have q1:H2 i1=some (.obj [.i s.tick,z1,y2,y3,y4,.s pid,.b pset,.i palg,aU ptgt,.sl (prules.map aB) .no,.sl (pkids.map aM) .no,aA pobls,.i s.version] 67):=by rw[←eH2,ah]
 rw[eH2]at v1 vs vz;rw[eH2];clear eH2;simp only[go_sem,v1.rd.len,hn];refine .intro (fun m ρ G=>∃(i:Nat) (xs:List AV),G i1=some (.obj [.i s.tick,z1,y2,y3,y4,.s pid,.b pset,.i palg,aU ptgt,.sl (prules.map aB) .no,.sl (pkids.map aM) .no,aA pobls,.i s.version] 67)∧G i2=some (.obj [.i 0,.sl [] .full,.sl [] .full,.sl [] .full,.sl [] .full,.s [],.b false,.i 0,.sl [] .full,.sl [] .full,.sl [] .full,.sl [] .full,.i 0] 67)∧Ab.Sub h G∧OwE 134 h G 5 z1 xs∧xs.length=s.cases.length∧(∀j (h1:j<xs.length) (h2:j<s.cases.length),j<i→j≠i0→xs[j]=cq s.cases[j])∧(∀(h1:i0<xs.length) (h2:i0<s.cases.length),i0<i→eT h G [z1] xs[i0] s.cases[i0])∧(∀j (h1:j<xs.length) (h2:j<s.cases.length),i≤j→RdC h xs[j] s.cases[j])∧i≤s.cases.length∧m=s.cases.length - i∧
  lk ρ 1=some (.ptr i1 0)∧lk ρ 2=some (.ptr i2 0)∧lk ρ 10=some z1∧lk ρ 11=some (.i s.cases.length)∧lk ρ 12=some (.i i)) s.cases.length ?_ ?_
 ·refine⟨0,xs0,q1,vz,vs,v1,hn,fun j _ _ hj=>abI,fun _ _ hj=>abI,fun j a b _=>hcs j a b,abI,rfl, ?_, ?_, ?_, ?_, ?_⟩<;>simp only[go_sem]
 ·rintro m ρ G ⟨i,xs,q1,vz,vs,v1,hn,hlo,hmy,hhi,hi,rfl,r1,r2,r10,r11,r12⟩
  simp only[go_sem,r11,r12];refine .intro (fun e=> ?_) (fun e=> ?_)
  ·have hlt:i<s.cases.length:=abF e
   have hltx:i<xs.length:=abI;have w1:=abE i abI;obtain⟨f,l,ex,hfl,hlg⟩:=hhi i hltx hlt (Nat.le_refl _);have hff:=hf.fields _ (abD hlt);have hfg:=hf.log _ (abD hlt);simp only[go_sem,r10,r12];refine v1.rd.idx (e:=134) i rfl hltx mS abL fun p hp1=> ?_
   have hld:=hp1.all (U:=U) (ty:=134) abR (by rw[mS,ex];rfl) (by simp only[go_sem];rw[ex];rfl)
   simp only[go_sem,hld,ex];intro i4 h4;have n41:i4≠i1:=cH h4 q1;simp only[go_sem];obtain⟨G4,eG4⟩:∃G4,upd G i4 (some (.obj [.s s.cases[i].id,.s s.cases[i].owner,.s s.cases[i].state,f,l] 134))=G4:=⟨_,rfl⟩;rw[eG4];have p1:G4 i1=some (.obj [.i s.tick,z1,y2,y3,y4,.s pid,.b pset,.i palg,aU ptgt,.sl (prules.map aB) .no,.sl (pkids.map aM) .no,aA pobls,.i s.version] 67):=aek;have p4:G4 i4=some (.obj [.s s.cases[i].id,.s s.cases[i].owner,.s s.cases[i].state,f,l] 134):=by rw[←eG4,ah]
   have sG:Ab.Sub G G4:=aeY;refine .calls (hm2 i1 (.obj [.i s.tick,z1,y2,y3,y4,.s pid,.b pset,.i palg,aU ptgt,.sl (prules.map aB) .no,.sl (pkids.map aM) .no,aA pobls,.i s.version] 67) i4 (.obj [.s s.cases[i].id,.s s.cases[i].owner,.s s.cases[i].state,f,l] 134)) [0,1,2,3,4,5,6] (.hm2 p1 p4) abM rfl ?_;simp only[go_sem,r1,qO _ _ n41.symm,qP];refine(Dj i i0 (show RdC G4 (.agg [.s s.cases[i].id,.s s.cases[i].owner,.s s.cases[i].state,f,l]) s.cases[i]from⟨f,l,rfl,hfl.sub (vs.trans sG),hlg.sub (vs.trans sG)⟩) hff hfg).mono fun r G5 ⟨f',l',er,s5,cf,cl,hne,heq⟩=> ?_
   subst er;have p1' :=s5 _ _ p1;have p4' :=s5 _ _ p4;refine⟨.hm2 p1' p4', ?_⟩;simp only[go_sem];obtain⟨id1,hg1,o1⟩:=((v1.sub sG).sub s5).ow (by intro e;rw[e]at hltx;cases hltx)
   have t1:id1≠i1:=lq o1 p1' abL;have t2:id1≠i2:=hz2 id1 o1.nid;have t3:G4 id1≠none:=fun e=>(v1.nid o1.nid).2.1 (sG.none e)
   have o1' :=o1;obtain⟨cap,rest,ey,hid,hr,hcap,hsz⟩:=o1';have hbd:i*5+5≤(aq xs++rest).length:=by
    rw[abC,aV hsz];omega
   have hx5:xs[i].cells.length=5:=hsz _ (abD hltx);have e2:List.take (i*5) (aq xs++rest)++ [.s s.cases[i].id,.s s.cases[i].owner,.s s.cases[i].state,f',l']++List.drop (i*5+5) (aq xs++rest)=aq (xs.set i (.agg [.s s.cases[i].id,.s s.cases[i].owner,.s s.cases[i].state,f',l']))++rest:=by
    refine(jF hsz i hltx 0 [.s s.cases[i].id,.s s.cases[i].owner,.s s.cases[i].state,f',l'] (abx rfl)).trans ?_;rw[IP (by rw[hx5];rfl)]
   refine o1.idx (U:=U) (e:=134) i rfl hltx mS abL ?_;simp only[go_sem,hid];rw[e2];have t4:id1≠i4:=fun e=>(v1.nid o1.nid).2.1 (by rw[e];exact h4)
   refine⟨abI,.hm2 (by rw[ag _ _ t1.symm];exact p1') (by rw[ag _ _ t4.symm];exact p4'), ?_⟩
   simp only[go_sem,r12,w1];have ho:∀b k,k≠id1→upd G5 id1 b k=G5 k:=fun b k hk=>ag _ _ hk
   have hs6:∀b,Ab.Sub h (upd G5 id1 b):=fun b=>((vs.trans sG).trans s5).put hg1 b
   refine⟨_, ?_,i+1,xs.set i (.agg [.s s.cases[i].id,.s s.cases[i].owner,.s s.cases[i].state,f',l']),(ho _ _ t1.symm).trans p1',(ho _ _ t2.symm).trans (s5 _ _ (sG _ _ vz)),hs6 _,.inr ⟨id1,hg1,cap,rest,adZ,ah ..,by rw[List.length_set];exact hr,adR, ?_⟩,by rw[List.length_set];exact hn,fun j a b hj hj0=> ?_,fun a b hj=> ?_,fun j a b hj=> ?_,abI,rfl, ?_, ?_, ?_, ?_, ?_⟩
   ·omega
   ·intro z hz
    exact agu
   ·have a' :j<xs.length:=by rw[List.length_set]at a;exact a
    by_cases hji:j=i
    ·subst hji
     obtain⟨ef,el⟩:=hne hj0;rw[List.getElem_set_self,ef,el];rfl
    ·rw[List.getElem_set_ne (Ne.symm hji)]
     exact hlo j a' b abI hj0
   ·have a' :i0<xs.length:=by rw[List.length_set]at a;exact a
    by_cases hji:i=i0
    ·subst hji
     obtain⟨of,ol,hap⟩:=heq rfl;have kf:∀k,G4 k=none→upd G5 id1 (some (.obj (aq (xs.set i (.agg [.s s.cases[i].id,.s s.cases[i].owner,.s s.cases[i].state,f',l']))++rest) 134)) k=G5 k:=fun k hk=>ag _ _ fun e=>t3 (by rw[←e];exact hk)
     rw[List.getElem_set_self];refine⟨f',l',rfl,(of.less (vs.trans sG)).keep fun k hk=>kf k (of.nid hk).1,(ol.less (vs.trans sG)).keep fun k hk=>kf k (ol.nid hk).1,hap,fun y hy=> ?_⟩
     rw[List.mem_singleton.1 hy];have hz1:∀k,nid z1=some k→G4 k≠none:=(v1.sub sG).there fun k hk=>hk
     exact⟨(dM of hz1).symm,(dM ol hz1).symm⟩
    ·rw[List.getElem_set_ne hji]
     have hm:=hmy a' b abI;refine eT.keep (h:=G5) ((hm.sub sG).sub s5) fun f l ex hap k hk=> ?_
     refine ag _ _ fun e=> ?_
     subst e;rcases hk with hk|hk
     ·exact(hap z1 (List.mem_singleton.2 rfl)).1 _ hk o1.nid
     ·exact(hap z1 (List.mem_singleton.2 rfl)).2 _ hk o1.nid
   ·have a' :j<xs.length:=by rw[List.length_set]at a;exact a
    rw[List.getElem_set_ne abI];exact hhi j a' b abI
   all_goals simp only[go_sem,r1,r2,r10,r11]
  ·have hge:i=s.cases.length:=by have:=abB e;omega
   simp only[go_sem];refine .stage (hm1 i1 (.obj [.i s.tick,z1,y2,y3,y4,.s pid,.b pset,.i palg,aU ptgt,.sl (prules.map aB) .no,.sl (pkids.map aM) .no,aA pobls,.i s.version] 67)) [0,1,3,4,6,7,2,9,5,8] [10,11,12,13,14] (.hm1 q1) abM ?_;simp only[go_sem,r1,fQ];refine(vl y2 _ G (h2.sub vs) (by rw[aby];exact hf.reviews)).mono fun z2 G1 ⟨o2,s1⟩=> ?_
   refine⟨.hm1 (s1 _ _ q1), ?_⟩;simp only[go_sem,r1];refine(vj y3 _ G1 ((h3.sub vs).sub s1) (by rw[aby];exact hf.notices)).mono fun z3 G2 ⟨o3,s2⟩=> ?_
   refine⟨.hm1 (s2 _ _ (s1 _ _ q1)), ?_⟩;simp only[go_sem];refine(HA y4 _ G2 (((h4.sub vs).sub s1).sub s2) (by rw[aby];exact hf.roles)).mono fun z4 G3 ⟨o4,s3⟩=> ?_
   have s03:Ab.Sub G G3:=s1.trans (s2.trans s3);have q1' :=s03 _ _ q1;have q2' :=s03 _ _ vz;refine⟨.hm1 q1',cK,(fun _ _ e=>ab8), ?_⟩
   simp only[go_sem,r1,q1',o2.rd.fit,o2.rd.cells,o3.rd.fit,o3.rd.cells,o4.rd.fit,o4.rd.cells];refine⟨fun _ _ e=>ab8,fun _ _ e=>ab8,fun _ _ e=>ab8, ?_⟩
   refine(show ai Tryz.prog 178 [_] _ _ from hpo _).pthen ?_
   have vz' :∀b,upd G3 i1 b i2=some (.obj [.i 0,.sl [] .full,.sl [] .full,.sl [] .full,.sl [] .full,.s [],.b false,.i 0,.sl [] .full,.sl [] .full,.sl [] .full,.sl [] .full,.i 0] 67):=fun b=>by rw[ag _ _ n21];exact q2'
   simp only[go_sem,r1,r2,vz'];have k1:∀ {tb:TypeId} {z:AV} {xs:List AV} {n:Nat} {g:Heap},OwE tb g G3 n z xs→Ab.Sub h g→(∀id,nid z=some id→id≠i1∧id≠i2)→∀a b,OwE tb h (upd (upd G3 i1 a) i2 b) n z xs:=fun w hg hn a b=>(w.less hg).keep fun id e=>by
    rw[ag _ _ (hn id e).2,ag _ _ (hn id e).1]
   have new:∀ {tb:TypeId} {z:AV} {xs:List AV} {n:Nat} {g:Heap},OwE tb g G3 n z xs→Ab.Sub G g→∀id,nid z=some id→id≠i1∧id≠i2:=fun w hg id e=>⟨cH (w.nid e).1 (hg _ _ q1),cH (w.nid e).1 (hg _ _ vz)⟩
   have n2' :=new (o2.sub (s2.trans s3)) (.refl _);have n3' :=new (o3.sub s3) s1;have n4' :=new o4 (s1.trans s2);have n1' :∀id,nid z1=some id→id≠i1∧id≠i2:=fun id e=>⟨hz1 id e,hz2 id e⟩
   have aG:∀k,nid z1=some k→G k≠none:=v1.there fun k hk=>hk
   refine .mk _ (.refl _) (.refl _) ⟨⟨z1,z2,z3,z4,by rw[hpp,hcC];rfl,⟨xs,k1 (v1.sub s03) (.refl _) n1' _ _,hn,fun j a b hj=>hlo j a b abI hj,fun a b=> ?_⟩,k1 (o2.sub (s2.trans s3)) vs n2' _ _,k1 (o3.sub s3) (vs.trans s1) n3' _ _,k1 o4 (vs.trans (s1.trans s2)) n4' _ _, ?_, ?_, ?_, ?_, ?_, ?_⟩,((vs.trans s03).put h1 _).put n2 _⟩
   ·have hm:=(hmy a b abI).sub s03
    obtain⟨f,l,ex,of,ol,hap,hy⟩:=hm;obtain⟨af,al⟩:=hy z1 (List.mem_singleton.2 rfl);have kf:∀k,nid f=some k→k≠i1∧k≠i2:=fun k hk=>⟨lq (of.nid hk).2.2 q1' abL,lq (of.nid hk).2.2 q2' abL⟩
    have kl:∀k,nid l=some k→k≠i1∧k≠i2:=fun k hk=>⟨lq (ol.nid hk).2.2 q1' abL,lq (ol.nid hk).2.2 q2' abL⟩
    obtain⟨f0,l0,ex0,of0,ol0,_⟩:=hmy a b abI;obtain⟨rfl,rfl⟩:f0=f∧l0=l:=by
     rw[ex0]at ex;simp only[AV.agg.injEq,List.cons.injEq,true_and,and_true]at ex;exact ex
    have gf:∀k,nid f0=some k→G k≠none:=of0.there fun k hk=>hk
    have gl:∀k,nid l0=some k→G k≠none:=ol0.there fun k hk=>hk
    refine⟨f0,l0,ex,k1 of (.refl _) kf _ _,k1 ol (.refl _) kl _ _,hap,fun y hy=> ?_⟩
    simp only[List.mem_cons,List.not_mem_nil,or_false]at hy;rcases hy with rfl|rfl|rfl|rfl
    ·exact⟨af,al⟩
    ·exact⟨dM o2 gf,dM o2 gl⟩
    ·exact⟨dM o3 fun k hk=>s1.some k (gf k hk),dM o3 fun k hk=>s1.some k (gl k hk)⟩
    ·exact⟨dM o4 fun k hk=>(s1.trans s2).some k (gf k hk),dM o4 fun k hk=>(s1.trans s2).some k (gl k hk)⟩
   ·exact dM o2 aG
   ·exact dM o3 fun k hk=>s1.some k (aG k hk)
   ·exact dM o4 fun k hk=>(s1.trans s2).some k (aG k hk)
   ·exact dM o3 (o2.there fun k hk=>hk)
   ·exact dM o4 ((o2.sub s2).there fun k hk=>hk)
   ·exact dM o4 (o3.there fun k hk=>hk)
end Go.Proofs.YtcochaoekecfdaaGreatDoor
namespace Go.Ab
open Go
theorem om{A B C X:List AV}{k m:Nat}(hk:k=A.length)(hm:m=X.length)(h:X.length=B.length):(A++(B++C)).take k++X++(A++(B++C)).drop (k+m)=A++(X++C):=by
 grind
theorem Gj{A B C X:List AV}{k1 k2 k3 k4:Nat}(h1:k1=A.length+X.length)(h2:k2=k1+B.length)(h3:k3=A.length)(h4:k4=k3+X.length)(hc:X.length≤C.length):
  List.take k3 (List.take k1 (A++(B++C))++B++List.drop k2 (A++(B++C)))++X++List.drop k4 (List.take k1 (A++(B++C))++B++List.drop k2 (A++(B++C)))=A++(X++(B++C.drop X.length)):=by
 subst h1;subst h2;subst h3;subst h4
 have e1:List.take (A.length+X.length) (A++(B++C))=A++List.take X.length (B++C):=abJ;have e2:List.drop (A.length+X.length+B.length) (A++(B++C))=C.drop X.length:=by
  grind [Nat.add_assoc,List.drop_drop,List.drop_left,Nat.add_comm]
 rw[e1,e2,List.append_assoc A];have e3:(List.take X.length (B++C)).length=X.length:=by rw[List.length_take,abC];omega
 have e4:A++(List.take X.length (B++C)++B++List.drop X.length C)=A++(List.take X.length (B++C)++(B++C.drop X.length)):=abQ;rw[List.append_assoc A,e4];exact om rfl rfl e3.symm
theorem Gk{A Z R X B:List AV}{k1 k2 k3 k4:Nat}(h1:k1=A.length)(h2:k2=k1+X.length)(h3:k3=A.length+X.length)(h4:k4=k3+B.length)(hz:Z.length=X.length+B.length):
  List.take k3 (List.take k1 (A++Z++R)++X++List.drop k2 (A++Z++R))++B++List.drop k4 (List.take k1 (A++Z++R)++X++List.drop k2 (A++Z++R))=A++(X++(B++R)):=by
 subst h1;subst h2;subst h3;subst h4
 obtain⟨Z1,Z2,rfl,e1⟩:∃Z1 Z2,Z=Z1++Z2∧Z1.length=X.length:=⟨Z.take X.length,Z.drop X.length,(List.take_append_drop _ _).symm,abJ⟩;have e2:Z2.length=B.length:=abJ;have e3:A++(Z1++Z2)++R=A++(Z1++(Z2++R)):=abQ;rw[e3,om rfl rfl e1.symm,←List.append_assoc A X,om abQ rfl e2.symm,List.append_assoc]
end Go.Ab
namespace Go.Proofs.YtcochaoekecfdaaGreatDoor
open Go Go.Ab Go.Bf
theorem IM{h:Heap}{v:AV}{id off len cap:Nat}{cs:List AV}{t:TypeId}(hv:v.cells.length=5)(hid:h id=some (.obj cs t))(hcs:cs≠ []):ai Tryz.prog 179 [.sl [v] .full,.ob id off len cap 5] h fun r h' =>r= .b false∧h' =h:=
 vH (U:=U) (tS:=55) (tR:=4) (e:=134) hU Tryz.func179 abW abW abW abM abW abL (by simp only[go_sem];omega) abQ hid hcs
theorem EW(y:AV)(xs:List AV)(v:AV)(i:Nat)(h0 h:Heap)(hw:OwE 134 h0 h 5 y xs)(hs0:Ab.Sub h0 h)(hi:i≤xs.length)(hl:xs.length≤1000000)(hv:v.cells.length=5)(hva:fit v 5):
  ai Tryz.prog 135 [y,.i i,.sl [v] .full] h fun r h' =>OwE 134 h0 h' 5 r (xs.take i++([v]++xs.drop i))∧(∀k,h k≠none→nid y≠some k→h' k=h k)∧∀k,nid r=some k→h k=none∨nid y=some k:=by
 rcases hw with⟨rfl,rfl⟩|⟨id,hg,cap,rest,rfl,hid,hr,hc,hsz⟩
 ·obtain rfl:i=0:=by simpa using hi
  refine abH Tryz.func135 95 [.tmp 6] fun hwf=> ?_
  simp -implicitDefEqProofs only[go_sem];refine⟨abI,abI,hv,.ob abR (jO.ow (xs:=[v]) adE ae3 rfl fun id y' h' hid hw ho=> ?_)⟩
  have hw' :Ow 134 h' 5 id y' [v]:=aeI;simp -implicitDefEqProofs only[go_sem];refine .same (.refl _) ⟨.inr ⟨id,hs0.none hid,hw'⟩,fun k hk _=>ho k (fun e=>hk (by rw[e];exact hid)),fun k hk=> ?_⟩
  rw[show au [y']=y' from rfl,hw'.nid]at hk
  cases hk;exact .inl hid
 ·have how:OwE 134 h0 h 5 (.ob id 0 xs.length cap 5) xs:=.inr ⟨id,hg,cap,rest,rfl,hid,hr,hc,hsz⟩
  have hfl:=aV hsz;refine abH Tryz.func135 95 [.tmp 6] fun hwf=> ?_
  simp -implicitDefEqProofs only[go_sem];refine⟨abI,abI, ?_⟩;cases d1:((i:Int)==(xs.length:Int))
  case true=>
   have hin:i=xs.length:=by
    have:(i:Int)=(xs.length:Int):=aeG;omega
   simp -implicitDefEqProofs only[go_sem];subst hin;refine⟨abI, ?_⟩;refine OwE.app (U:=U) (tb:=134) how hs0 (.sl aev .full:Rd h 5 (.sl [v] .full) [v]) abR abL abN abR abQ ad5 fun id2 y' h' g2 hor hw ho=> ?_
   simp -implicitDefEqProofs only[go_sem];have e1:xs.take xs.length++([v]++xs.drop xs.length)=xs++ [v]:=abQ;refine .same (.refl _) ⟨by have:OwE 134 h0 h' 5 y' (xs++ [v]):=.inr ⟨id2,g2,hw⟩;rw[←e1]at this;exact this,fun k hk hk2=>ho k fun e=> ?_,fun k hk=> ?_⟩
   ·rcases hor with hor|⟨l,c,ey⟩
    ·exact hk afA
    ·cases ey
     exact hk2 afs
   ·exact agT
  have hne:i<xs.length:=by
   have:¬(i:Int)=(xs.length:Int):=aeG;omega
  have wn:IntKind.i64.wrap ((xs.length:Int)+1)=((xs.length+1:Nat):Int):=acg;have wi:=abE i abI;have wm:IntKind.i64.wrap (((xs.length+1:Nat):Int) - (i:Int))=((xs.length+1 - i:Nat):Int):=acg;have f1:aq xs=aq (xs.take i)++aq (xs.drop i):=ae2;have f2:(aq (xs.take i)).length=i*5:=by rw[aV (sz:=5) fun z hz=>hsz z (List.mem_of_mem_take hz),List.length_take,Nat.min_eq_left hi]
  have f3:(aq (xs.drop i)).length=(xs.length - i)*5:=by rw[aV (sz:=5) fun z hz=>hsz z (List.mem_of_mem_drop hz),List.length_drop]
  have f4:aq (xs.take i++([v]++xs.drop i))=aq (xs.take i)++(v.cells++aq (xs.drop i)):=ae3;have f5:Sized 5 (xs.take i++([v]++xs.drop i)):=fun z hz=>by
   exact agv
  have f6:(xs.take i++([v]++xs.drop i)).length=xs.length+1:=acj;have f6' :(xs.take i++v::xs.drop i).length=xs.length+1:=f6;cases d2:decide ((cap:Int)<((xs.length+1:Nat):Int))
  ·have e2:=abB d2
   simp -implicitDefEqProofs only[go_sem,wn,d2];refine⟨abI, ?_⟩;simp -implicitDefEqProofs only[go_sem,wi];have hcs:aq xs++rest≠ []:=by
    intro e;have:=congrArg List.length e;rw[abC,hfl]at this;simp at this;omega
   refine⟨abI,abI,abI,abI,abI,abI, ?_⟩;refine(IM hv hid hcs).pthen ?_;simp -implicitDefEqProofs only[go_sem];refine .calls cK [0,1,2,3,4,5,6,7,8] (fun _ _ e=>ab8) abM rfl ?_
   simp -implicitDefEqProofs only[go_sem,wi,hid,Nat.sub_zero];have hmin:min (xs.length+1 - i) (xs.length+1 - (i+1))=xs.length - i:=abI;refine⟨abI,abI,abI,abI,abI,abI,xs.drop i,aen,aed, ?q1,fun z hz=>hsz z (List.mem_of_mem_drop hz),adF,by rw[abC,hfl,hr];omega,afo,abI,abI,abI,hv,abI, ?ln, ?fin⟩
   case q1=>rw[hmin,f1,List.append_assoc,←f2,List.drop_left,←f3,List.take_left]
   case ln=>simp only[abC,List.length_take,List.length_drop,hfl,hr,f3];omega
   have hrl:(5:Nat)≤rest.length:=by rw[hr];omega
   have hfv:aq [v]=v.cells:=ae3;have key:=Gj (A:=aq (xs.take i)) (B:=aq (xs.drop i)) (C:=rest) (X:=aq [v]) (k1:=(i+1)*5) (k2:=(i+1)*5+(aq (xs.drop i)).length) (k3:=i*5) (k4:=i*5+(aq [v]).length) afb rfl f2.symm rfl (by rw[hfv,hv];exact hrl)
   rw[←List.append_assoc (aq (xs.take i)) (aq (xs.drop i)) rest,←f1]at key;rw[key];have e8:aq (xs.take i)++(aq [v]++(aq (xs.drop i)++rest.drop (aq [v]).length))=aq (xs.take i++([v]++xs.drop i))++rest.drop 5:=by rw[f4,hfv,hv];simp only[List.append_assoc]
   rw[e8];refine .same (.refl _) ⟨.inr ⟨id,hg,cap,rest.drop 5,by rw[←f6];rfl,ah _ _ _,by rw[List.length_drop,hr,f6'];omega,adm,f5⟩,fun k hk hk2=>ag _ _ fun e=>hk2 afs,fun k hk=> .inr hk⟩
  ·have e2:=abA d2
   simp -implicitDefEqProofs only[go_sem,wn,d2,wm];refine⟨abI, ?_⟩;simp -implicitDefEqProofs only[go_sem,hid];have eA:List.take (i*5) (aq xs++rest)=aq (xs.take i):=by rw[f1,List.append_assoc,←f2,List.take_left]
   refine⟨abI,abI,abI,abI,abI,abI,by rw[abC,hfl];omega, ?_⟩
   rw[Nat.sub_zero,eA];obtain⟨Z,eZ⟩:∃Z,cI (AV.agg [AV.s [],AV.s [],AV.s [],AV.sl [] Perm.full,AV.sl [] Perm.full]) (xs.length+1 - i) 5=Z:=⟨_,rfl⟩;have lZ:Z.length=(xs.length+1 - i)*5:=by rw[←eZ];simp[cI]
   rw[eZ];intro id2 cap2 rest2 hid2 hc2 hr2;have hx:¬id=id2:=fun e=>by rw[e,hid2]at hid;cases hid
   simp -implicitDefEqProofs only[go_sem];have hfv:aq [v]=v.cells:=ae3;refine⟨abI,abI,abI,hv,abI,adT, ?_⟩;refine .calls cK [0,1,2,3,4,5,6,7,8] (fun _ _ e=>ab8) abM rfl ?_
   simp -implicitDefEqProofs only[go_sem,wi,hid,hx,Nat.sub_zero];have hmin:min (xs.length - i) (i+(xs.length+1 - i) - (i+1))=xs.length - i:=abI;have l0:(aq (xs.take i)++Z++rest2).length=(i+(xs.length+1 - i))*5+(cap2 - (i+(xs.length+1 - i)))*5:=adT;refine⟨abI,abI,abI,abI,abI,abI,xs.drop i,aen,aed, ?q2,fun z hz=>hsz z (List.mem_of_mem_drop hz),adF, ?lm,afo, ?fim⟩
   case q2=>rw[hmin,f1,List.append_assoc,←f2,List.drop_left,←f3,List.take_left]
   case lm=>rw[hfv];simp only[abC,List.length_take,List.length_drop,l0,hv];omega
   rw[Gk f2.symm rfl afb rfl (by rw[hfv,hv,lZ,f3];omega)]
   have e8:aq (xs.take i)++(aq [v]++(aq (xs.drop i)++rest2))=aq (xs.take i++([v]++xs.drop i))++rest2:=by rw[f4,hfv];simp only[List.append_assoc]
   rw[e8];have e9:i+(xs.length+1 - i)=xs.length+1:=abI;rw[e9]at hr2 hc2⊢;refine .same (.refl _) ⟨.inr ⟨id2,hs0.none hid2,cap2,rest2,by rw[←f6];rfl,ah _ _ _,by rw[hr2,f6'],by rw[f6'];omega,f5⟩,fun k hk hk2=>ag _ _ fun e=>hk (by rw[e];exact hid2),fun k hk=> .inl (by cases hk;exact hid2)⟩
theorem Fi{h:Heap}{v:AV}{id off len cap:Nat}{cs:List AV}{t:TypeId}(hv:v.cells.length=4)(hid:h id=some (.obj cs t))(hcs:cs≠ []):ai Tryz.prog 223 [.sl [v] .full,.ob id off len cap 4] h fun r h' =>r= .b false∧h' =h:=
 vH (U:=U) (tS:=131) (tR:=4) (e:=215) hU Tryz.func223 abW abW abW abM abW abL (by simp only[go_sem];omega) abQ hid hcs
theorem CV(y:AV)(xs:List AV)(v:AV)(i:Nat)(h0 h:Heap)(hw:OwE 215 h0 h 4 y xs)(hs0:Ab.Sub h0 h)(hi:i≤xs.length)(hl:xs.length≤1000000)(hv:v.cells.length=4)(hva:fit v 4):
  ai Tryz.prog 182 [y,.i i,.sl [v] .full] h fun r h' =>OwE 215 h0 h' 4 r (xs.take i++([v]++xs.drop i))∧(∀k,h k≠none→nid y≠some k→h' k=h k)∧∀k,nid r=some k→h k=none∨nid y=some k:=by
 rcases hw with⟨rfl,rfl⟩|⟨id,hg,cap,rest,rfl,hid,hr,hc,hsz⟩
 ·obtain rfl:i=0:=by simpa using hi
  refine abH Tryz.func182 95 [.tmp 6] fun hwf=> ?_
  simp -implicitDefEqProofs only[go_sem];refine⟨abI,abI,hv,.ob abR (jO.ow (xs:=[v]) adE ae3 rfl fun id y' h' hid hw ho=> ?_)⟩
  have hw' :Ow 215 h' 4 id y' [v]:=aeI;simp -implicitDefEqProofs only[go_sem];refine .same (.refl _) ⟨.inr ⟨id,hs0.none hid,hw'⟩,fun k hk _=>ho k (fun e=>hk (by rw[e];exact hid)),fun k hk=> ?_⟩
  rw[show au [y']=y' from rfl,hw'.nid]at hk
  cases hk;exact .inl hid
 ·have how:OwE 215 h0 h 4 (.ob id 0 xs.length cap 4) xs:=.inr ⟨id,hg,cap,rest,rfl,hid,hr,hc,hsz⟩
  have hfl:=aV hsz;refine abH Tryz.func182 95 [.tmp 6] fun hwf=> ?_
  simp -implicitDefEqProofs only[go_sem];refine⟨abI,abI, ?_⟩;cases d1:((i:Int)==(xs.length:Int))
  case true=>
   have hin:i=xs.length:=by
    have:(i:Int)=(xs.length:Int):=aeG;omega
   simp -implicitDefEqProofs only[go_sem];subst hin;refine⟨abI, ?_⟩;refine OwE.app (U:=U) (tb:=215) how hs0 (.sl aev .full:Rd h 4 (.sl [v] .full) [v]) abR abL abN abR abQ ad5 fun id2 y' h' g2 hor hw ho=> ?_
   simp -implicitDefEqProofs only[go_sem];have e1:xs.take xs.length++([v]++xs.drop xs.length)=xs++ [v]:=abQ;refine .same (.refl _) ⟨by have:OwE 215 h0 h' 4 y' (xs++ [v]):=.inr ⟨id2,g2,hw⟩;rw[←e1]at this;exact this,fun k hk hk2=>ho k fun e=> ?_,fun k hk=> ?_⟩
   ·rcases hor with hor|⟨l,c,ey⟩
    ·exact hk afA
    ·cases ey
     exact hk2 afs
   ·exact agT
  have hne:i<xs.length:=by
   have:¬(i:Int)=(xs.length:Int):=aeG;omega
  have wn:IntKind.i64.wrap ((xs.length:Int)+1)=((xs.length+1:Nat):Int):=acg;have wi:=abE i abI;have wm:IntKind.i64.wrap (((xs.length+1:Nat):Int) - (i:Int))=((xs.length+1 - i:Nat):Int):=acg;have f1:aq xs=aq (xs.take i)++aq (xs.drop i):=ae2;have f2:(aq (xs.take i)).length=i*4:=by rw[aV (sz:=4) fun z hz=>hsz z (List.mem_of_mem_take hz),List.length_take,Nat.min_eq_left hi]
  have f3:(aq (xs.drop i)).length=(xs.length - i)*4:=by rw[aV (sz:=4) fun z hz=>hsz z (List.mem_of_mem_drop hz),List.length_drop]
  have f4:aq (xs.take i++([v]++xs.drop i))=aq (xs.take i)++(v.cells++aq (xs.drop i)):=ae3;have f5:Sized 4 (xs.take i++([v]++xs.drop i)):=fun z hz=>by
   exact agv
  have f6:(xs.take i++([v]++xs.drop i)).length=xs.length+1:=acj;have f6' :(xs.take i++v::xs.drop i).length=xs.length+1:=f6;cases d2:decide ((cap:Int)<((xs.length+1:Nat):Int))
  ·have e2:=abB d2
   simp -implicitDefEqProofs only[go_sem,wn,d2];refine⟨abI, ?_⟩;simp -implicitDefEqProofs only[go_sem,wi];have hcs:aq xs++rest≠ []:=by
    intro e;have:=congrArg List.length e;rw[abC,hfl]at this;simp at this;omega
   refine⟨abI,abI,abI,abI,abI,abI, ?_⟩;refine(Fi hv hid hcs).pthen ?_;simp -implicitDefEqProofs only[go_sem];refine .calls cK [0,1,2,3,4,5,6,7,8] (fun _ _ e=>ab8) abM rfl ?_
   simp -implicitDefEqProofs only[go_sem,wi,hid,Nat.sub_zero];have hmin:min (xs.length+1 - i) (xs.length+1 - (i+1))=xs.length - i:=abI;refine⟨abI,abI,abI,abI,abI,abI,xs.drop i,aen,aed, ?q1,fun z hz=>hsz z (List.mem_of_mem_drop hz),adF,by rw[abC,hfl,hr];omega,afo,abI,abI,abI,hv,abI, ?ln, ?fin⟩
   case q1=>rw[hmin,f1,List.append_assoc,←f2,List.drop_left,←f3,List.take_left]
   case ln=>simp only[abC,List.length_take,List.length_drop,hfl,hr,f3];omega
   have hrl:(4:Nat)≤rest.length:=by rw[hr];omega
   have hfv:aq [v]=v.cells:=ae3;have key:=Gj (A:=aq (xs.take i)) (B:=aq (xs.drop i)) (C:=rest) (X:=aq [v]) (k1:=(i+1)*4) (k2:=(i+1)*4+(aq (xs.drop i)).length) (k3:=i*4) (k4:=i*4+(aq [v]).length) afb rfl f2.symm rfl (by rw[hfv,hv];exact hrl)
   rw[←List.append_assoc (aq (xs.take i)) (aq (xs.drop i)) rest,←f1]at key;rw[key];have e8:aq (xs.take i)++(aq [v]++(aq (xs.drop i)++rest.drop (aq [v]).length))=aq (xs.take i++([v]++xs.drop i))++rest.drop 4:=by rw[f4,hfv,hv];simp only[List.append_assoc]
   rw[e8];refine .same (.refl _) ⟨.inr ⟨id,hg,cap,rest.drop 4,by rw[←f6];rfl,ah _ _ _,by rw[List.length_drop,hr,f6'];omega,adm,f5⟩,fun k hk hk2=>ag _ _ fun e=>hk2 afs,fun k hk=> .inr hk⟩
  ·have e2:=abA d2
   simp -implicitDefEqProofs only[go_sem,wn,d2,wm];refine⟨abI, ?_⟩;simp -implicitDefEqProofs only[go_sem,hid];have eA:List.take (i*4) (aq xs++rest)=aq (xs.take i):=by rw[f1,List.append_assoc,←f2,List.take_left]
   refine⟨abI,abI,abI,abI,abI,abI,by rw[abC,hfl];omega, ?_⟩
   rw[Nat.sub_zero,eA];obtain⟨Z,eZ⟩:∃Z,cI (AV.agg [AV.s [],AV.v (Value.int IntKind.i64 0),AV.v (Value.int IntKind.i64 0),AV.s []]) (xs.length+1 - i) 4=Z:=⟨_,rfl⟩;have lZ:Z.length=(xs.length+1 - i)*4:=by rw[←eZ];simp[cI]
   rw[eZ];intro id2 cap2 rest2 hid2 hc2 hr2;have hx:¬id=id2:=fun e=>by rw[e,hid2]at hid;cases hid
   simp -implicitDefEqProofs only[go_sem];have hfv:aq [v]=v.cells:=ae3;refine⟨abI,abI,abI,hv,abI,adT, ?_⟩;refine .calls cK [0,1,2,3,4,5,6,7,8] (fun _ _ e=>ab8) abM rfl ?_
   simp -implicitDefEqProofs only[go_sem,wi,hid,hx,Nat.sub_zero];have hmin:min (xs.length - i) (i+(xs.length+1 - i) - (i+1))=xs.length - i:=abI;have l0:(aq (xs.take i)++Z++rest2).length=(i+(xs.length+1 - i))*4+(cap2 - (i+(xs.length+1 - i)))*4:=adT;refine⟨abI,abI,abI,abI,abI,abI,xs.drop i,aen,aed, ?q2,fun z hz=>hsz z (List.mem_of_mem_drop hz),adF, ?lm,afo, ?fim⟩
   case q2=>rw[hmin,f1,List.append_assoc,←f2,List.drop_left,←f3,List.take_left]
   case lm=>rw[hfv];simp only[abC,List.length_take,List.length_drop,l0,hv];omega
   rw[Gk f2.symm rfl afb rfl (by rw[hfv,hv,lZ,f3];omega)]
   have e8:aq (xs.take i)++(aq [v]++(aq (xs.drop i)++rest2))=aq (xs.take i++([v]++xs.drop i))++rest2:=by rw[f4,hfv];simp only[List.append_assoc]
   rw[e8];have e9:i+(xs.length+1 - i)=xs.length+1:=abI;rw[e9]at hr2 hc2⊢;refine .same (.refl _) ⟨.inr ⟨id2,hs0.none hid2,cap2,rest2,by rw[←f6];rfl,ah _ _ _,by rw[hr2,f6'],by rw[f6'];omega,f5⟩,fun k hk hk2=>ag _ _ fun e=>hk (by rw[e];exact hid2),fun k hk=> .inl (by cases hk;exact hid2)⟩
end Go.Proofs.YtcochaoekecfdaaGreatDoor
namespace Go.Ab
open Go
noncomputable def pick (H:Heap) (l:List Nat):Heap:=fun j=>if j∈l then H j else none
theorem bz{H:Heap}{l:List Nat}{j:Nat}(hj:j∈l):pick H l j=H j:=if_pos hj
theorem iC{H h' :Heap}{l:List Nat}(hs:∀j∈l,h' j=H j):Sub (pick H l) h' :=fun j b hb=>by
 simp_all [bz,pick,if_neg]
theorem bw{H:Heap}{l:List Nat}:Sub (pick H l) H:=iC fun _ _=>rfl
end Go.Ab
namespace Go.Proofs.YtcochaoekecfdaaGreatDoor
open Go Go.Ab Go.Bf
def cg(c:aL)(f l:AV):List AV:=[.s c.id,.s c.owner,.s c.state,f,l]
theorem rO{h0 h:Heap}{s:an}(y1 y2 y3 y4:AV){k o:Nat}{A B:List AV}{t:TypeId}{c:aL}{f l:AV}(ho:o=A.length)(hk:h k=some (.obj (A++(cg c f l++B)) t))(ht:t≠205)
  (hlo:OwE 205 h0 h 3 l (c.log.map iu)) (hs0:Ab.Sub h0 h) (hll:c.log.length≤1000000) (actor what:Txt):
  ai Tryz.prog 134 [.agg ([.i s.tick,y1,y2,y3,y4]++fN s.policy++ [.i s.version]),.ptr k o,.s actor,.s what] h fun r h' =>∃l',OwE 205 h0 h' 3 l' ((c.log++ [(⟨s.tick,actor,what⟩:wN)]).map iu)∧h' k=some (.obj (A++(cg c f l' ++B)) t)∧(∀j,h j≠none→j≠k→nid l≠some j→h' j=h j)∧∀j,nid l' =some j→h j=none∨nid l=some j:=by
 cases hpp:s.policy with
 |mk pid pset palg ptgt prules pkids pobls=>
 have hcC:fN (.mk pid pset palg ptgt prules pkids pobls)= [.s pid,.b pset,.i palg,aU ptgt,.sl (prules.map aB) .no,.sl (pkids.map aM) .no,aA pobls]:=aeJ;refine abH Tryz.func134 22 [] fun hwf=> ?_
 simp only[go_sem,hcC,List.cons_append,List.nil_append];intro i1 h1;simp only[go_sem];obtain⟨H,eH⟩:∃H,upd h i1 (some (.obj [.i s.tick,y1,y2,y3,y4,.s pid,.b pset,.i palg,aU ptgt,.sl (prules.map aB) .no,.sl (pkids.map aM) .no,aA pobls,.i s.version] 67))=H:=⟨_,rfl⟩;have n1k:k≠i1:=fun e=>by rw[e,h1]at hk;cases hk
 have g1:H i1=some (.obj [.i s.tick,y1,y2,y3,y4,.s pid,.b pset,.i palg,aU ptgt,.sl (prules.map aB) .no,.sl (pkids.map aM) .no,aA pobls,.i s.version] 67):=ada;have gk:H k=some (.obj (A++(cg c f l++B)) t):=by rw[←eH,ag _ _ n1k];exact hk
 have hH:Ab.Sub h H:=by rw[←eH];exact(Sub.refl h).put h1 _
 have hoj:∀j,j≠i1→H j=h j:=fun j hj=>by rw[←eH];exact ag _ _ hj
 rw[eH];clear eH;refine .stage (hm2 k (.obj (A++(cg c f l++B)) t) i1 (.obj [.i s.tick,y1,y2,y3,y4,.s pid,.b pset,.i palg,aU ptgt,.sl (prules.map aB) .no,.sl (pkids.map aM) .no,aA pobls,.i s.version] 67)) [0,1,2,3,4,5,6,7,8,9,10,11,12,13] [14] (.hm2 gk g1) abM ?_;have hc4:(A++(cg c f l++B))[o+4]? =some l:=adz;obtain⟨CS,eCS⟩:∃CS,A++(cg c f l++B)=CS:=⟨_,rfl⟩;rw[eCS]at hc4 gk⊢;simp only[go_sem,qP,qO _ _ n1k,hc4];have hap1:Rd H 3 (.sl [iu ⟨s.tick,actor,what⟩] .full) [iu ⟨s.tick,actor,what⟩]:=.sl acw .full;refine OwE.app (U:=U) (tb:=205) (hlo.sub hH) (hs0.trans hH) hap1 abR abL abN abR abQ ach fun id2 y' h' g2 hor hw ho2=> ?_
 have hor' :H id2=none∨nid l=some id2:=by
  exact ago
 have k2:k≠id2:=by
  rcases hor' with hor|hor
  ·exact fun e=>by rw[←e,gk]at hor;cases hor
  ·exact(lq ((hlo.sub hH).nid hor).2.2 gk ht).symm
 have i2:i1≠id2:=by
  rcases hor' with hor|hor
  ·exact fun e=>by rw[←e,g1]at hor;cases hor
  ·exact fun e=>(hlo.nid hor).2.1 (by rw[←e];exact h1)
 have gk' :=(ho2 k k2).trans gk;have gi' :=(ho2 i1 i2).trans g1;refine⟨.hm2 gk' gi', ?_⟩;simp only[go_sem];refine⟨cK,(fun _ _ e=>ab8), ?_⟩
 simp only[go_sem,gk',hw.rd.fit,hw.rd.cells];have lCS:CS.length=A.length+(5+B.length):=by rw[←eCS];simp[cg];omega
 have e5:List.take (o+4) CS++ [y']++List.drop (o+4+1) CS=A++(cg c f y' ++B):=by
  have:=om (A:=A++ [.s c.id,.s c.owner,.s c.state,f]) (B:=[l]) (C:=B) (X:=[y']) (k:=o+4) (m:=1) (by rw[ho];simp) rfl rfl
  exact ahh
 rw[e5];refine⟨abI,(fun _ _ e=>ab8),.same (.refl _) ⟨y', ?_,ah ..,fun j hj hjk hjl=> ?_,fun j hj=> ?_⟩⟩
 ·have hw' :Ow 205 (upd h' k (some (.obj (A++(cg c f y' ++B)) t))) 3 id2 y' (c.log.map iu++ [iu ⟨s.tick,actor,what⟩]):=hw.same (ag _ _ k2.symm)
  rw[List.map_append];exact .inr ⟨id2,g2,hw'⟩
 ·have hj2:j≠id2:=by
   rcases hor' with hor|hor
   ·intro e
    have:=hoj j (fun e' =>hj (by rw[e'];exact h1))
    rw[e,hor]at this;exact hj (by rw[e];exact this.symm)
   ·exact fun e=>hjl afA
  have hj1:j≠i1:=fun e=>hj (by rw[e];exact h1)
  rw[ag _ _ hjk,ho2 j hj2,hoj j hj1]
 ·have:id2=j:=by have:=hw.nid;rw[hj]at this;exact(Option.some.inj this).symm
  rw[←this];rcases hor' with hor|hor
  ·refine .inl ?_
   cases hh:h id2 with
   |none=>rfl
   |some b=>rw[hH _ _ hh]at hor;cases hor
  ·exact .inr hor
theorem Js{h:Heap}(f:cV){k:Nat}{name:Txt}(hk:h k=some (.obj [.s name] 9)):ai Tryz.prog 181 [bN f,.ptr k 0] h fun r h' =>r= .b (geB f.name name)∧h' =h:=by
 refine abH Tryz.func181 8 [.tmp 3] fun hwf=> ?_
 simp only[go_sem,bN];exact af5
theorem FO{fs:List cV}{name:Txt}{v:bA}(hx:¬fs.findIdx (fun f=>geB f.name name)<fs.length):eN fs name v=fs++ [⟨name,v⟩]:=by
 grind [eN,List.getElem?_eq_none,geB]
theorem yX{fs:List cV}{name:Txt}{v:bA}(hx:fs.findIdx (fun f=>geB f.name name)<fs.length)(he:fs[fs.findIdx (fun f=>geB f.name name)].name=name):eN fs name v=fs.set (fs.findIdx (fun f=>geB f.name name)) ⟨name,v⟩:=by
 simp_all [eN,List.getElem?_eq_getElem,if_true]
theorem FP{fs:List cV}{name:Txt}{v:bA}(hx:fs.findIdx (fun f=>geB f.name name)<fs.length)(he:fs[fs.findIdx (fun f=>geB f.name name)].name≠name):eN fs name v=fs.take (fs.findIdx (fun f=>geB f.name name))++ [⟨name,v⟩]++fs.drop (fs.findIdx (fun f=>geB f.name name)):=by
 simp_all [eN,List.getElem?_eq_getElem,if_false]
theorem L5{h0 h:Heap}{k o:Nat}{A B:List AV}{t:TypeId}{c:aL}{f l:AV}(ho:o=A.length)(hk:h k=some (.obj (A++(cg c f l++B)) t))(ht:t≠215)
  (hfo:OwE 215 h0 h 4 f (c.fields.map bN)) (hs0:Ab.Sub h0 h) (hff:c.fields.length≤1000000) (name:Txt) (v:bA):
  ai Tryz.prog 136 [.ptr k o,.s name,aR v] h fun r h' =>∃f',OwE 215 h0 h' 4 f' ((eN c.fields name v).map bN)∧h' k=some (.obj (A++(cg c f' l++B)) t)∧(∀j,h j≠none→j≠k→nid f≠some j→h' j=h j)∧∀j,nid f' =some j→h j=none∨nid f=some j:=by
 have hc3:(A++(cg c f l++B))[o+3]? =some f:=adz;have lCS:(A++(cg c f l++B)).length=A.length+(5+B.length):=by simp[cg];omega
 have e5:∀y',List.take (o+3) (A++(cg c f l++B))++ [y']++List.drop (o+3+1) (A++(cg c f l++B))=A++(cg c y' l++B):=fun y' =>by
  have:=om (A:=A++ [.s c.id,.s c.owner,.s c.state]) (B:=[f]) (C:=l::B) (X:=[y']) (k:=o+3) (m:=1) (by rw[ho];simp) rfl rfl
  exact ahr
 obtain⟨CS,eCS⟩:∃CS,A++(cg c f l++B)=CS:=⟨_,rfl⟩;rw[eCS]at hc3 hk lCS e5;refine abH Tryz.func136 60 [] fun hwf=> ?_
 simp only[go_sem,aR];intro i1 h1;simp only[go_sem];intro i2 h2;have n21:=aH h2;have n2:=aC h2;have nk1:k≠i1:=fun e=>by rw[e,h1]at hk;cases hk
 have nk2:k≠i2:=fun e=>by rw[e,n2]at hk;cases hk
 obtain⟨H,eH⟩:∃H,upd (upd h i1 (some (.obj [.s name] 9))) i2 (some (.obj [.i v.kind,.i v.n,.s v.s] 30))=H:=⟨_,rfl⟩;have g1:H i1=some (.obj [.s name] 9):=adk;have g2:H i2=some (.obj [.i v.kind,.i v.n,.s v.s] 30):=ada;have gk:H k=some (.obj CS t):=by rw[←eH,ag _ _ nk2,ag _ _ nk1];exact hk
 have hH:Ab.Sub h H:=acK;have hoj:∀j,h j≠none→H j=h j:=fun j hj=>by rw[←eH,ag _ _ (fun e=>hj (by rw[e];exact n2)),ag _ _ (fun e=>hj (by rw[e];exact h1))]
 rw[eH];clear eH;simp only[go_sem,gk,hc3];refine(xO f _ c.fields (fun f=>geB f.name name) _ [.ptr i1 0] _ (hfo.sub hH).rd abQ acj (nR (fun _=>rfl) _) fun i a b=>by
  rw[abz];exact Js _ g1).pthen ?_
 have hns:∀G,Ab.Sub cK G:=fun G _ _ e=>ab8
 by_cases hx:c.fields.findIdx (fun f=>geB f.name name)<c.fields.length
 ·obtain⟨i,ei⟩:∃i,c.fields.findIdx (fun f=>geB f.name name)=i:=⟨_,rfl⟩
  have hxm:i<(c.fields.map bN).length:=by rw[←ei];simpa using hx
  have e1:ixD (fun f=>geB f.name name) c.fields=(i:Nat):=by rw[ixD,ei];exact if_pos (by rw[←ei];exact hx)
  have d1:decide (((i:Nat):Int)<0)=false:=decide_eq_false abI;rw[e1];simp only[go_sem,d1];refine⟨.of abM, ?_⟩;simp only[go_sem,gk,hc3];refine(hfo.sub hH).rd.idx (e:=215) i rfl hxm FJ abL fun p hp1=> ?_
  simp only[go_sem];refine hp1.field (f:=0) (off:=0) (t:=9) rfl Jl fun p2 hp2=> ?_
  have hld:=hp2.part (U:=U) (ty:=9) Jl (by rw[abz,LU];exact abx rfl)
  simp only[go_sem,hld,abz,bN,g1];have hxi:i<c.fields.length:=by rw[←ei];exact hx
  cases d2:(c.fields[i].name==name)
  ·have hne:c.fields[i].name≠name:=by simpa using d2
   simp only[go_sem];refine .stage (pick H [k,i1,i2]) [0,1,2,3,4,5,6,7,8,9,10,11,12] [13] bw abM ?_;simp only[go_sem,bz (show k∈ [k,i1,i2] by simp),bz (show i1∈ [k,i1,i2] by simp),bz (show i2∈ [k,i1,i2] by simp),gk,g1,g2,hc3]
   refine(CV f _ (bN ⟨name,v⟩) i h0 H (hfo.sub hH) (hs0.trans hH) abI (by simpa using hff) rfl (by simp[bN,Ab.fit])).mono fun f' H1 ⟨w1,fr,ap⟩=> ?_
   have nk:nid f≠some k:=fun e=>lq ((hfo.sub hH).nid e).2.2 gk ht rfl
   have n1' :nid f≠some i1:=fun e=>(hfo.nid e).2.1 h1
   have n2' :nid f≠some i2:=fun e=>(hfo.nid e).2.1 n2
   have gk' :H1 k=some (.obj CS t):=(fr k (by rw[gk];simp) nk).trans gk
   refine⟨iC fun j hj=> ?_, ?_⟩
   ·simp only[List.mem_cons,List.not_mem_nil,or_false]at hj
    rcases hj with rfl|rfl|rfl
    ·exact fr _ (by rw[gk];simp) nk
    ·exact fr _ (by rw[g1];simp) n1'
    ·exact fr _ (by rw[g2];simp) n2'
   simp only[go_sem];refine⟨cK,hns _, ?_⟩;simp only[go_sem,gk',w1.rd.fit,w1.rd.cells];have hk2:nid f'≠some k:=fun e=>by
    rcases ap k e with h|h
    ·rw[gk]at h;cases h
    ·exact nk h
   have em:List.take i (c.fields.map bN)++([bN ⟨name,v⟩]++List.drop i (c.fields.map bN))=(eN c.fields name v).map bN:=by
    rw[FP hx (by simp only[ei];exact hne),ei]
    simp[List.map_append,List.map_take,List.map_drop]
   rw[e5];rw[em]at w1;refine⟨abI,hns _,.same (.refl _) ⟨f',w1.keep fun id e=>ag _ _ fun e' =>hk2 (by rw[←e'];exact e),ah ..,fun j hj hjk hjl=> ?_,fun j hj=> ?_⟩⟩
   ·rw[ag _ _ hjk,fr j (by rw[hoj j hj];exact hj) hjl,hoj j hj]
   ·rcases ap j hj with h|h
    ·exact .inl (hH.none h)
    ·exact .inr h
  ·have heq:c.fields[i].name=name:=by simpa using d2
   simp only[go_sem];refine⟨.of abM, ?_⟩;simp only[go_sem,gk,g2,hc3];obtain⟨id1,hg1,o1⟩:=(hfo.sub hH).ow (by intro e;rw[e]at hxm;cases hxm)
   have t1:id1≠k:=lq o1 gk ht;have o1' :=o1;obtain⟨cap,rest,ey,hid,hr,hcap,hsz⟩:=o1';refine o1.idx (U:=U) (e:=215) i rfl hxm FJ abL ?_;simp only[go_sem,hid];have hxl:=abz (f:=bN) (l:=c.fields) (i:=i) (h:=hxm);have e2:List.take (i*4+1) (aq (c.fields.map bN)++rest)++ [.i v.kind,.i v.n,.s v.s]++List.drop (i*4+1+3) (aq (c.fields.map bN)++rest)=aq ((eN c.fields name v).map bN)++rest:=by
    refine(jF hsz i hxm 1 [.i v.kind,.i v.n,.s v.s] (abx rfl)).trans ?_;rw[yX hx (by simp only[ei];exact heq),ei,List.map_set,hxl]
    have:AV.agg (over (bN c.fields[i]).cells 1 [.i v.kind,.i v.n,.s v.s])=bN ⟨name,v⟩:=by rw[←heq];rfl
    rw[this]
   have lw:(eN c.fields name v).length=c.fields.length:=by rw[yX hx (by simp only[ei];exact heq),List.length_set]
   rw[e2];refine⟨by rw[abC,aV hsz];omega,.same (.refl _) ⟨f,.inr ⟨id1,hg1,cap,rest,by rw[ey];simp[lw],ah ..,by rw[hr];simp[lw],by rw[aby]at hcap⊢;omega,bp (f:=bN) (n:=4) (fun _=>rfl) _⟩,(ag _ _ t1.symm).trans (by rw[eCS];exact gk),fun j hj hjk hjl=> ?_,fun j hj=> .inr hj⟩⟩
   have:j≠id1:=fun e=>hjl (by rw[e];exact o1.nid)
   rw[ag _ _ this,hoj j hj]
 ·have e1:ixD (fun f=>geB f.name name) c.fields= -1:=by rw[ixD];exact if_neg hx
  have d1:decide ((-1:Int)<0)=true:=rfl;rw[e1];simp only[go_sem,d1];refine .stage (pick H [k,i1,i2]) [0,1,2,3,4,5,6,7,8,9,10,11] [12] bw abM ?_;simp only[go_sem,bz (show k∈ [k,i1,i2] by simp),bz (show i1∈ [k,i1,i2] by simp),bz (show i2∈ [k,i1,i2] by simp),gk,g1,g2,hc3]
  have hap1:Rd H 4 (.sl [bN ⟨name,v⟩] .full) [bN ⟨name,v⟩]:=.sl acw .full;refine OwE.app (U:=U) (tb:=215) (hfo.sub hH) (hs0.trans hH) hap1 abR abL abN abR abQ ach fun id2 y' h' g3 hor hw ho2=> ?_
  have hor' :H id2=none∨nid f=some id2:=by
   exact ago
  have k2:k≠id2:=by
   rcases hor' with hor|hor
   ·exact fun e=>by rw[←e,gk]at hor;cases hor
   ·exact(lq ((hfo.sub hH).nid hor).2.2 gk ht).symm
  have j1:i1≠id2:=by
   rcases hor' with hor|hor
   ·exact fun e=>by rw[←e,g1]at hor;cases hor
   ·exact fun e=>(hfo.nid hor).2.1 (by rw[←e];exact h1)
  have j2:i2≠id2:=by
   rcases hor' with hor|hor
   ·exact fun e=>by rw[←e,g2]at hor;cases hor
   ·exact fun e=>(hfo.nid hor).2.1 (by rw[←e];exact n2)
  refine⟨iC fun j hj=>ho2 j ?_, ?_⟩
  ·simp only[List.mem_cons,List.not_mem_nil,or_false]at hj
   rcases hj with rfl|rfl|rfl
   ·exact k2
   ·exact j1
   ·exact j2
  have gk' :=(ho2 k k2).trans gk;simp only[go_sem];refine⟨cK,hns _, ?_⟩;simp only[go_sem,gk',hw.rd.fit,hw.rd.cells];rw[e5,FO hx];refine⟨abI,hns _,.same (.refl _) ⟨y', ?_,ah ..,fun j hj hjk hjl=> ?_,fun j hj=> ?_⟩⟩
  ·have hw' :Ow 215 (upd h' k (some (.obj (A++(cg c y' l++B)) t))) 4 id2 y' (c.fields.map bN++ [bN ⟨name,v⟩]):=hw.same (ag _ _ k2.symm)
   rw[List.map_append];exact .inr ⟨id2,g3,hw'⟩
  ·have hj2:j≠id2:=by
    rcases hor' with hor|hor
    ·intro e
     have:=hoj j hj;rw[e,hor]at this;exact hj (by rw[e];exact this.symm)
    ·exact fun e=>hjl afA
   rw[ag _ _ hjk,ho2 j hj2,hoj j hj]
  ·have:id2=j:=by have:=hw.nid;rw[hj]at this;exact(Option.some.inj this).symm
   rw[←this];rcases hor' with hor|hor
   ·exact .inl (hH.none hor)
   ·exact .inr hor
theorem Cd{cs:List aL}{id:Txt}(h:bY cs id=true):bu cs id=cs[findD cs id]'(jn h):=by
 simp_all [bu,if_pos,List.getD_eq_getElem?_getD,List.getElem?_eq_getElem,jn]
theorem Ce{cs:List aL}{id:Txt}(h:bY cs id=false):bu cs id=nO:=by
 simp_all [bu,if_neg]
theorem lK{g h:Heap}{p:Perm}:Frz g h (.sl [] p) (.sl [] .no):=.sl _ _ _ rfl abI abQ
theorem CG{g h:Heap}(c:aL):Frz g h (cq c) (cq c):=.agg _ _ rfl fun j a b=>by
 rcases j with _|_|_|_|_|j
 ·exact ab2
 ·exact ab2
 ·exact ab2
 ·exact .pure (show cG (ga c.fields)=true from bf (fun _=>rfl) c.fields)
 ·exact .pure (show cG (rT c.log)=true from bf (fun _=>rfl) c.log)
 ·simp[mH]at a;omega
theorem Bk{h:Heap}{x:AV}{s:an}(hb:RdS h x s)(id:Txt)(hf:Few s):ai Tryz.prog 76 [x,.s id] h fun r h' =>r= .tup [cq (bu s.cases id),.b (bY s.cases id)]∧h' =h:=
 ai.freeze fun g hg _=>by
 replace hb:=hb.sub hg;have hb0:=hb;obtain⟨y1,y2,y3,y4,rfl,⟨xs,hc,hn,hcs⟩,h2,h3,h4⟩:=hb;cases hpp:s.policy with
 |mk pid pset palg ptgt prules pkids pobls=>
 have hcC:fN (.mk pid pset palg ptgt prules pkids pobls)= [.s pid,.b pset,.i palg,aU ptgt,.sl (prules.map aB) .no,.sl (pkids.map aM) .no,aA pobls]:=aeJ;rw[hpp,hcC]at hb0;refine abH Tryz.func76 23 [.cell 4 134,.tmp 5] fun hwf=> ?_
 simp -implicitDefEqProofs only[go_sem,hcC,List.cons_append,List.nil_append];intro i1 h1;simp -implicitDefEqProofs only[go_sem];intro i2 h2';have n21:=aH h2';have n2:=aC h2';simp -implicitDefEqProofs only[go_sem,aj,n21.symm];have hs:∀a b,Ab.Sub g (upd (upd g i1 a) i2 b):=fun a b=>((Sub.refl g).put h1 a).put n2 b
 refine(Bt (hb0.sub (hs _ _)) id hf.cases).pthen ?_;cases d1:bY s.cases id
 ·simp -implicitDefEqProofs only[go_sem]
  refine .mk _ (.refl _) (.refl _) ⟨hs _ _,.tup [.agg [.s [],.s [],.s [],.sl [] .no,.sl [] .no],.b false],.tup _ _ rfl fun i a b=> ?_,by rw[Ce d1];rfl⟩
  rcases i with _|_|i
  ·refine .agg _ _ rfl fun j c d=> ?_
   rcases j with _|_|_|_|_|j
   ·exact ab2
   ·exact ab2
   ·exact ab2
   ·exact lK
   ·exact lK
   grind
  ·exact ab2
  grind
 ·have hlt:=jn d1
  have hltx:findD s.cases id<xs.length:=abI;obtain⟨f,l,ex,hfl,hlg⟩:=hcs _ hltx hlt;simp -implicitDefEqProofs only[go_sem,aj,n21.symm];refine hc.idx (e:=134) (findD s.cases id) rfl hltx mS abL fun p hp1=> ?_
  have hld:=fun a b=>(hp1.sub (hs a b)).all (U:=U) (ty:=134) abL (by rw[mS,ex];rfl) (by simp only[go_sem];rw[ex];rfl)
  simp -implicitDefEqProofs only[go_sem,hld];refine(vI ((hcs _ hltx hlt).sub (hs _ _)) (hf.fields _ (abD hlt)) (hf.log _ (abD hlt))).pthen ?_;rw[←Cd d1];simp -implicitDefEqProofs only[go_sem,cq,mH,ga,rT];refine .mk _ (.refl _) (.refl _) ⟨hs _ _,_,.tup _ _ rfl fun i a b=> ?_,rfl⟩
  rcases i with _|_|i
  ·exact CG _
  ·exact ab2
  grind
theorem BP{h:Heap}{x:AV}{s:an}(hb:RdS h x s)(o:OpD)(hf:Few s):ai Tryz.prog 120 [x,opA o] h fun r h' =>r= .i (bX s o)∧h' =h:=by
 have hb0:=hb;obtain⟨y1,y2,y3,y4,rfl,⟨xs,hc,hn,hcs⟩,h2,h3,h4⟩:=hb;cases hpp:s.policy with
 |mk pid pset palg ptgt prules pkids pobls=>
 have hcC:fN (.mk pid pset palg ptgt prules pkids pobls)= [.s pid,.b pset,.i palg,aU ptgt,.sl (prules.map aB) .no,.sl (pkids.map aM) .no,aA pobls]:=aeJ;rw[hpp,hcC]at hb0;refine abH Tryz.func120 67 [.tmp 4] fun hwf=> ?_
 simp -implicitDefEqProofs only[go_sem,hcC,opA,opC,List.cons_append,List.nil_append];intro i1 h1;simp -implicitDefEqProofs only[go_sem];intro i2 h2';have n21:=aH h2';have n2:=aC h2';simp -implicitDefEqProofs only[go_sem,aj,n21.symm];have hs:∀a b,Ab.Sub h (upd (upd h i1 a) i2 b):=fun a b=>((Sub.refl h).put h1 a).put n2 b
 refine(Bk (hb0.sub (hs _ _)) o.case hf).pthen ?_;simp -implicitDefEqProofs only[go_sem,cq,mH,ga,rT];intro i3 h3';have n32:=aH h3';have h3b:=aC h3';have n31:=aH h3b;have n3:=aC h3b;have hs3:∀a b d,Ab.Sub h (upd (upd (upd h i1 a) i2 b) i3 d):=fun a b d=>(((Sub.refl h).put h1 a).put n2 b).put n3 d
 have hA:=(fun a b d=>Sub.trans (Sub.refl h) (hs3 a b d))
 simp -implicitDefEqProofs only[go_sem,aj,n32.symm];have hfl:(bu s.cases o.case).fields.length≤1000000000:=by
  unfold bu;split
  ·rename_i ht
   have hlt:=jn ht;rw[List.getD_eq_getElem?_getD,List.getElem?_eq_getElem hlt];exact Nat.le_trans (hf.fields _ (abD hlt)) abL
  decide
 cases d1:bY s.cases o.case
 ·simp -implicitDefEqProofs only[go_sem]
  exact .mk _ (.refl _) (hs3 _ _ _) ⟨by simp only[bX,d1];rfl,rfl⟩
 ·simp -implicitDefEqProofs only[go_sem,aj,n32.symm]
  cases k3:(o.kind==3)
  ·have p3:o.kind≠3:=by grind
   simp -implicitDefEqProofs only[go_sem];cases k2:(o.kind==2)
   ·have p2:o.kind≠2:=by grind
    have k2n:(o.kind !=2)=true:=abJ;cases d256:decide ((256:Int)≤((bu s.cases o.case).log.length:Int))
    ·have p256:¬256≤(bu s.cases o.case).log.length:=by grind
     simp -implicitDefEqProofs only[go_sem,aj,n32.symm,aby,k3,k2n,d256];cases k4:(o.kind==4)
     ·have p4:o.kind≠4:=by grind
      exact af3
     ·have p4:o.kind=4:=by grind
      simp -implicitDefEqProofs only[go_sem,aj,n32.symm];refine(EM _ _ _).pthen ?_;cases dfo:lW (bu s.cases o.case).state o.to
      ·exact af3
      ·exact af3
    ·have p256:256≤(bu s.cases o.case).log.length:=by grind
     simp -implicitDefEqProofs only[go_sem,aby,k2n,d256];exact .mk _ (.refl _) (hs3 _ _ _) ⟨adq,rfl⟩
   ·have p2:o.kind=2:=by grind
    have k2n:(o.kind !=2)=false:=abJ;simp -implicitDefEqProofs only[go_sem,aj,n32.symm,k3,k2n];cases k4:(o.kind==4)
    ·have p4:o.kind≠4:=by omega
     exact af3
    ·have p4:o.kind=4:=by grind
     omega
  ·have p3:o.kind=3:=by grind
   cases d16:decide ((16:Int)≤((bu s.cases o.case).fields.length:Int))
   ·have p16:¬16≤(bu s.cases o.case).fields.length:=by grind
    simp -implicitDefEqProofs only[go_sem,aby,d16];exact afV
   ·have p16:16≤(bu s.cases o.case).fields.length:=by grind
    simp -implicitDefEqProofs only[go_sem,aj,n32.symm,aby,d16];refine(CB (show RdC _ (.agg [.s (bu s.cases o.case).id,.s (bu s.cases o.case).owner,.s (bu s.cases o.case).state,AV.sl ((bu s.cases o.case).fields.map bN) .no,AV.sl ((bu s.cases o.case).log.map iu) .no]) (bu s.cases o.case)from rdC _ _) o.field hfl).pthen ?_
    simp -implicitDefEqProofs only[go_sem,aR];cases dv:((dZ (bu s.cases o.case).fields o.field).kind==(0:Int) && ((dZ (bu s.cases o.case).fields o.field).n==(0:Int) && (dZ (bu s.cases o.case).fields o.field).s==([]:Txt)))
    ·have pv:eqV (dZ (bu s.cases o.case).fields o.field) ax=false:=dv
     simp -implicitDefEqProofs only[go_sem];exact afV
    ·have pv:eqV (dZ (bu s.cases o.case).fields o.field) ax=true:=dv
     exact af3
theorem zy{h:Heap}{x:AV}{s:an}(hb:RdS h x s)(o:OpD)(hf:Few s)(h0:0<o.review)(hr:o.review≤9223372036854775807):ai Tryz.prog 121 [x,opA o] h fun r h' =>r= .i (fH s o)∧h' =h:=by
 obtain⟨y1,y2,y3,y4,rfl,⟨xs,hc,hn,hcs⟩,h2,h3,h4⟩:=hb;cases hpp:s.policy with
 |mk pid pset palg ptgt prules pkids pobls=>
 have hcC:fN (.mk pid pset palg ptgt prules pkids pobls)= [.s pid,.b pset,.i palg,aU ptgt,.sl (prules.map aB) .no,.sl (pkids.map aM) .no,aA pobls]:=aeJ;have hfr:=hf.reviews;refine abH Tryz.func121 35 [.tmp 4] fun hwf=> ?_
 simp -implicitDefEqProofs only[go_sem,hcC,opA,opC,List.cons_append,List.nil_append];intro i1 h1;simp -implicitDefEqProofs only[go_sem];intro i2 h2';have n21:=aH h2';have n2:=aC h2';have hs:∀a b,Ab.Sub h (upd (upd h i1 a) i2 b):=fun a b=>((Sub.refl h).put h1 a).put n2 b
 simp -implicitDefEqProofs only[go_sem,aj,n21.symm,h2.len,aby];obtain⟨n,en⟩:∃n:Nat,o.review=((n:Nat):Int)+1:=⟨(o.review - 1).toNat,abI⟩;have e1:vK s.reviews o.review=s.reviews[n]? :=by
  unfold vK;rw[if_pos abI,show(o.review - 1).toNat=n by omega]
 have w1:IntKind.i64.wrap (o.review - 1)=((n:Nat):Int):=abV;cases dlt:decide ((s.reviews.length:Int)<o.review)
 ·have hlt:n<s.reviews.length:=by grind
  have hgl:vK s.reviews o.review=some s.reviews[n]:=abJ;simp -implicitDefEqProofs only[go_sem,aj,n21.symm,w1];refine h2.idx (e:=143) n rfl abJ abW abL fun p hp1=> ?_
  simp -implicitDefEqProofs only[go_sem];refine hp1.field (f:=6) (off:=6) (t:=4) rfl abL fun p2 hp2=> ?_
  have hld:=fun a b=>(hp2.sub (hs a b)).part (U:=U) (ty:=4) abL (by rw[abz,show(U 4).sz=1 by rfl];exact abx rfl)
  simp -implicitDefEqProofs only[go_sem,hld,abz,iD];cases dop:s.reviews[n].isOpen
  ·exact agf
  ·simp -implicitDefEqProofs only[go_sem,aj,n21.symm]
   refine⟨.of abM, ?_⟩;simp -implicitDefEqProofs only[go_sem,w1];refine h2.idx (e:=143) n rfl abJ abW abL fun p hp1=> ?_
   simp -implicitDefEqProofs only[go_sem];refine hp1.field (f:=2) (off:=2) (t:=9) rfl Jl fun p2 hp2=> ?_
   have hld:=fun a b=>(hp2.sub (hs a b)).part (U:=U) (ty:=9) Jl (by rw[abz,LU];exact abx rfl)
   simp -implicitDefEqProofs only[go_sem,hld,abz,iD];cases dsu:(s.reviews[n].subj==o.subj)
   ·have psu:s.reviews[n].subj≠o.subj:=by grind
    exact agf
   ·have psu:s.reviews[n].subj=o.subj:=by grind
    exact agf
 ·have hge:¬n<s.reviews.length:=by grind
  have hgn:vK s.reviews o.review=none:=abJ;exact agf
theorem DC{h:Heap}{x:AV}{s:an}(hb:RdS h x s)(o:OpD)(hf:Few s)(hr:i64 o.review)(ht:i64 s.tick):ai Tryz.prog 68 [x,opA o] h fun r h' =>r= .i (bM s o)∧h' =h:=by
 have hb0:=hb;have hfo:=Gb o;have hrc:=fun(G:Heap) (hG:Ab.Sub h G)=>BP (hb.sub hG) o hf
 have hrl:=fun(G:Heap) (hG:Ab.Sub h G) (a:0<o.review)=>zy (hb.sub hG) o hf a hr.2
 have hfi:=fun(G:Heap) (hG:Ab.Sub h G)=>Bt (hb.sub hG) o.case hf.cases
 have hha:=fun(G:Heap) (hG:Ab.Sub h G)=>EU (hb.sub hG) o.case o.field (Nat.le_trans hf.roles abL)
 obtain⟨y1,y2,y3,y4,rfl,⟨xs,hc,hn,hcs⟩,h2,h3,h4⟩:=hb;cases hpp:s.policy with
 |mk pid pset palg ptgt prules pkids pobls=>
 have hcC:fN (.mk pid pset palg ptgt prules pkids pobls)= [.s pid,.b pset,.i palg,aU ptgt,.sl (prules.map aB) .no,.sl (pkids.map aM) .no,aA pobls]:=aeJ;rw[hpp,hcC]at hb0 hrc hrl hfi hha;simp only[opA,opC,List.cons_append,List.nil_append]at hfo hrc hrl hfi hha;refine abH Tryz.func68 63 [.tmp 4] fun hwf=> ?_
 simp -implicitDefEqProofs only[go_sem,hcC,opA,opC,List.cons_append,List.nil_append];intro i1 h1;simp -implicitDefEqProofs only[go_sem];intro i2 h2';have n21:=aH h2';have n2:=aC h2';have hs:∀a b,Ab.Sub h (upd (upd h i1 a) i2 b):=fun a b=>((Sub.refl h).put h1 a).put n2 b
 simp -implicitDefEqProofs only[go_sem];refine(hfo _).pthen ?_;cases dform:eO o
 ·exact afY
 ·simp -implicitDefEqProofs only[go_sem]
  have hok:okD o=true:=by simp_all [eO,dF,Bool.and_eq_true]
  by_cases p1:o.kind=1
  ·have k1:(o.kind==1)=true:=by grind
   simp -implicitDefEqProofs only[go_sem,aj,n21.symm,k1];refine(hfi _ (hs _ _)).pthen ?_;cases dth:bY s.cases o.case
   ·simp -implicitDefEqProofs only[go_sem,aj,n21.symm,hc.len,hn]
    cases d64:decide ((64:Int)≤(s.cases.length:Int))
    ·have p64:¬64≤s.cases.length:=by grind
     exact afY
    ·have p64:64≤s.cases.length:=by grind
     exact afY
   ·exact afY
  have k1:(o.kind==1)=false:=abJ;simp -implicitDefEqProofs only[go_sem,k1]
  by_cases p2:o.kind=2
  ·have k2:(o.kind==2)=true:=by grind
   simp -implicitDefEqProofs only[go_sem,aj,n21.symm,k2];refine(hrc _ (hs _ _)).pthen ?_;exact afY
  have k2:(o.kind==2)=false:=abJ;simp -implicitDefEqProofs only[go_sem,k2]
  by_cases p3:o.kind=3
  ·have k3:(o.kind==3)=true:=by grind
   simp -implicitDefEqProofs only[go_sem,aj,n21.symm,k3];refine(hrc _ (hs _ _)).pthen ?_;exact afY
  have k3:(o.kind==3)=false:=abJ;simp -implicitDefEqProofs only[go_sem,k3]
  by_cases p4:o.kind=4
  ·have k4:(o.kind==4)=true:=by grind
   simp -implicitDefEqProofs only[go_sem,aj,n21.symm,k4];refine(hrc _ (hs _ _)).pthen ?_;exact afY
  have k4:(o.kind==4)=false:=abJ;simp -implicitDefEqProofs only[go_sem,k4]
  by_cases p5:o.kind=5
  ·have k5:(o.kind==5)=true:=by grind
   simp -implicitDefEqProofs only[go_sem,aj,n21.symm,k5];have hrv:0<o.review:=by grind [okD]
   refine(hrl _ (hs _ _) hrv).pthen ?_;exact afY
  have k5:(o.kind==5)=false:=abJ;simp -implicitDefEqProofs only[go_sem,k5]
  by_cases p6:o.kind=6
  ·have k6:(o.kind==6)=true:=by grind
   simp -implicitDefEqProofs only[go_sem,aj,n21.symm,k6];simp -implicitDefEqProofs only[go_sem,h4.len,aby];cases d64:decide ((64:Int)≤(s.roles.length:Int))
   ·have p64:¬64≤s.roles.length:=by grind
    exact afY
   ·have p64:64≤s.roles.length:=by grind
    simp -implicitDefEqProofs only[go_sem,aj,n21.symm];refine(hha _ (hs _ _)).pthen ?_;cases dha:xJ s.roles ⟨o.case,o.field⟩
    ·exact afY
    ·exact afY
  have k6:(o.kind==6)=false:=abJ;simp -implicitDefEqProofs only[go_sem,k6]
  by_cases p8:o.kind=8
  ·have k8:(o.kind==8)=true:=by grind
   simp -implicitDefEqProofs only[go_sem,aj,n21.symm,k8];have hrv:0<o.review∧o.review≤1099511627776:=by grind [okD]
   have w1:IntKind.i64.wrap (1099511627776 - o.review)=1099511627776 - o.review:=bg _ abI;cases dt:decide (1099511627776 - o.review<s.tick)
   ·have pt:¬1099511627776 - o.review<s.tick:=abB dt
    exact ahl
   ·have pt:1099511627776 - o.review<s.tick:=abA dt
    exact ahl
  have k8:(o.kind==8)=false:=abJ;simp -implicitDefEqProofs only[go_sem,k8];exact .mk _ (.refl _) (hs _ _) ⟨by have:¬(2≤o.kind∧o.kind≤4):=abI;simp only[bM,dform,p1,p5,p6,p8,this,if_false,Bool.true_eq_false,au],rfl⟩
end Go.Proofs.YtcochaoekecfdaaGreatDoor
