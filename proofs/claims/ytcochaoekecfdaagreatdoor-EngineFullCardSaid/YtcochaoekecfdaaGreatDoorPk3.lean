/- The law EngineFull: pack 3 of its texts. -/
import Derived.OpenShut
import Derived.Below
import Derived.Lib.ItoaLen
import Derived.Lib.Join
import Derived.Lib.Small
import Derived.Laws.Externs
import Derived.Lib.Overlaps
import Derived.Test.YtcochaoekecfdaaGreatDoorProg
import Derived.KernelRfl
import Derived.Test.YtcochaoekecfdaaGreatDoorPk1
import Derived.Test.YtcochaoekecfdaaGreatDoorPk2
set_option linter.unusedSimpArgs false
set_option linter.unusedVariables false
set_option maxRecDepth 100000
namespace Go.Ab
open Go
section
variable {P : Program} {U : TypeId → TI}
inductive Dat (U:TypeId→TI):TypeId→AV→Prop
 |bool {t:TypeId} (b:Bool) (h:(U t).k= .bool):Dat U t (.b b)
 |int {t:TypeId} {k:IntKind} (n:Int) (h:(U t).k= .int k) (hw:(Lit.int k n).wf=true):Dat U t (.v (.int k n))
 |str {t:TypeId} (l:List UInt8) (h:(U t).k= .str) (hl:l.length≤maxLen):Dat U t (.s l)
 |slice {t e:TypeId} (xs:List AV) (h:(U t).k= .slice e) (hx:∀x∈xs,Dat U e x) (hl:xs.length≤maxLen):Dat U t (.sl xs .no)
 |strct {t:TypeId} {fs:List (Nat×TypeId)} (ys:List AV) (h:(U t).k= .strct fs) (hn:ys.length=fs.length) (hx:∀i (h1:i<fs.length) (h2:i<ys.length),Dat U fs[i].2 ys[i]):Dat U t (.agg (ys.map AV.cells).flatten)
theorem Dat.Ks{t:TypeId}{x:AV}(h:Dat U t x)(hk:(U t).k= .bool):∃b,x= .b b:=by
 cases h with
 |bool b h=>simp
 |_=>simp_all
theorem Dat.NK{t:TypeId}{x:AV}{k:IntKind}(h:Dat U t x)(hk:(U t).k= .int k):∃n,x= .v (.int k n)∧(Lit.int k n).wf=true:=by
 cases h with
 |int n h hw=>grind
 |_=>simp_all
theorem Dat.pz{t:TypeId}{x:AV}(h:Dat U t x)(hk:(U t).k= .str):∃l,x= .s l∧l.length≤maxLen:=by
 cases h with
 |str l h hl=>grind
 |_=>simp_all
theorem Dat.JB{t e:TypeId}{x:AV}(h:Dat U t x)(hk:(U t).k= .slice e):∃xs,x= .sl xs .no∧xs.length≤maxLen∧∀y∈xs,Dat U e y:=by
 cases h with
 |slice xs h hx hl=>grind
 |_=>simp_all
def EJ(U:TypeId→TI):List TypeId→List AV→Prop
 | [],ys=>ys= []
 |t::ts,ys=>∃y r,ys=y::r∧Dat U t y∧EJ U ts r
theorem Aw:∀(fs:List (Nat×TypeId)) (ys:List AV),ys.length=fs.length→(∀i (h1:i<fs.length) (h2:i<ys.length),Dat U fs[i].2 ys[i])→EJ U (fs.map (·.2)) ys
 | [],ys,h,_=>List.length_eq_zero_iff.1 h
 |f::fs,[],h,_=>adj
 |f::fs,y::ys,h,hx=>⟨y,ys,rfl,hx 0 acw acw,Aw fs ys acp fun i h1 h2=>hx (i+1) acp acp⟩
theorem Dat.Bh{t:TypeId}{x:AV}{fs:List (Nat×TypeId)}(h:Dat U t x)(hk:(U t).k= .strct fs):∃ys,x= .agg (ys.map AV.cells).flatten∧EJ U (fs.map (·.2)) ys:=by
 cases h with
 |strct ys h hn hx=>rw[hk]at h;cases h;exact⟨ys,rfl,Aw _ _ hn hx⟩
 |_=>simp_all
theorem Xc{n:Int}(h:(Lit.int .i64 n).wf=true): -9223372036854775808≤n∧n≤9223372036854775807:=by
 grind [Lit.wf,IntKind.min,IntKind.max,IntKind.signed,IntKind.bits]
theorem Dat.i64{t:TypeId}{x:AV}(h:Dat U t x)(hk:(U t).k= .int .i64):∃n,x=iA n∧ -9223372036854775808≤n∧n≤9223372036854775807:=by
 obtain⟨n,rfl,hw⟩:=h.NK hk;exact⟨n,rfl,Xc hw⟩
theorem Dat.list{t e:TypeId}{x:AV}{β:Type}{f:β→AV}{p:β→Prop}(h:Dat U t x)(hk:(U t).k= .slice e)(he:∀y,Dat U e y→∃b,y=f b∧p b):∃bs:List β,x= .sl (bs.map f) .no∧bs.length≤maxLen∧∀b∈bs,p b:=by
 obtain⟨xs,rfl,hl,hx⟩:=h.JB hk;obtain⟨bs,rfl,hb⟩:=xJ xs fun y hy=>he y (hx y hy)
 grind
def RL(c:Cx):List AV→List Value→Prop
 | [],vs=>vs= []
 |x::xs,[]=>False
 |x::xs,v::vs=>(Rep c x v∧v.oneCell' =true)∧RL c xs vs
theorem RL.len{c:Cx}:∀ {xs:List AV} {vs:List Value},RL c xs vs→xs.length=vs.length
 | [],vs,h=>by rw[h];rfl
 |x::xs,[],h=>h.elim
 |x::xs,v::vs,h=>by simp[RL.len h.2]
theorem RL.get{c:Cx}:∀ {xs:List AV} {vs:List Value},RL c xs vs→∀i (h:i<xs.length),Rep c xs[i] (vs.getD i undef)∧(vs.getD i undef).oneCell' =true
 | [],vs,h,i,hi=>acp
 |x::xs,[],h,i,hi=>h.elim
 |x::xs,v::vs,h,0,hi=>h.1
 |x::xs,v::vs,h,i+1,hi=>by simpa using RL.get h.2 i acp
theorem RL.append{c:Cx}:∀ {xs ys:List AV} {vs us:List Value},RL c xs vs→RL c ys us→RL c (xs++ys) (vs++us)
 | [],ys,vs,us,h,k=>by rw[h];exact k
 |x::xs,ys,[],us,h,k=>h.elim
 |x::xs,ys,v::vs,us,h,k=>⟨h.1,RL.append h.2 k⟩
theorem RL.one{c:Cx}{x:AV}{v:Value}(h:Rep c x v)(h1:v.oneCell' =true):RL c [x] [v]:=⟨⟨h,h1⟩,rfl⟩
def Ev(U:TypeId→TI)(n:Nat):List (Nat×TypeId)→Nat→Bool
 | [],o=>o==n
 |f::fs,o=>f.1==o && Ev U n fs (o+(U f.2).sz)
def FY(U:TypeId→TI)(L:List TypeId):Bool:=L.all fun t=>(U t).sz !=0 && match (U t).k with
 |.bool|.int _|.str=>(U t).sz==1
 |.slice e=>(U t).sz==1 && L.contains e
 |.strct fs=>fs.all (fun f=>L.contains f.2) && Ev U (U t).sz fs 0
 |_=>false
theorem sd(hU:∀t,aO P U t){t:TypeId}(hz:(U t).sz≠0):P.cellsOf t=(U t).sz:=by
 obtain⟨i,h1,h2,_⟩:=(hU t).info hz
 grind [Program.cellsOf]
variable {H : Type} {enc : TypeId × Value → H} {w : World}
theorem LX(hU:∀t,aO P U t){L:List TypeId}{m:Nat}{sp:Nat→Bool}{held:Bool}(n:Nat)(cs:List Value)(hn:cs.length=n)
  (ih:∀(t:TypeId) (cs:List Value) r,t∈L→DataW.trod enc P w 0 sp held m t cs=some r→∃x,Dat U t x∧RL (cx0 w) x.cells cs) (hz:∀t∈L,(U t).sz≠0):
  ∀(fs:List (Nat×TypeId)) (gs:List Field) (o:Nat),gs.map (fun f=>(f.offset,f.type))=fs→(∀f∈fs,f.2∈L)→Ev U n fs o=true→
   (∀f∈gs,∃r,DataW.trod enc P w 0 sp held m f.type ((cs.drop f.offset).take (P.cellsOf f.type))=some r)→
   ∃ys:List AV,ys.length=fs.length∧(∀i (h1:i<fs.length) (h2:i<ys.length),Dat U fs[i].2 ys[i])∧RL (cx0 w) (ys.map AV.cells).flatten (cs.drop o):=by
 intro fs
 induction fs with
 |nil=>
  intro gs o hg hL ht hr;refine⟨[],rfl,fun i h1=>acw,?_⟩
  have:o=n:=by grind [Ev]
  show cs.drop o= []
  grind
 |cons f fs ihf=>
  intro gs o hg hL ht hr;cases gs with
  |nil=>grind
  |cons g gs=>
   simp only[List.map_cons,List.cons.injEq]at hg;obtain⟨hg1,hg2⟩:=hg;simp only[Ev,Bool.and_eq_true,beq_iff_eq]at ht;obtain⟨ht1,ht2⟩:=ht;have hfL:=hL f acw;obtain⟨ys,y1,y2,y3⟩:=ihf gs (o+(U f.2).sz) hg2 acp ht2 acp;obtain⟨r,hr0⟩:=hr g acw;have e1:g.type=f.2:=acp;have e2:g.offset=o:=acp;rw[e1,e2,sd hU (hz _ hfL)]at hr0;obtain⟨x,x1,x2⟩:=ih _ _ _ hfL hr0;refine⟨x::ys,acp,fun i h1 h2=>?_,?_⟩
   ·grind
   ·have:cs.drop o=(cs.drop o).take (U f.2).sz++cs.drop (o+(U f.2).sz):=by
     rw[←List.drop_drop,List.take_append_drop]
    rw[this];exact x2.append y3
theorem CT(hU:∀t,aO P U t)(L:List TypeId)(hL:FY U L=true){sp:Nat→Bool}{held:Bool}(hsp:∀b,sp b=true):
  ∀(fuel:Nat) (t:TypeId) (cs:List Value) (r:DataW H×List MemPlace),t∈L→DataW.trod enc P w 0 sp held fuel t cs=some r→∃x,Dat U t x∧RL (cx0 w) x.cells cs:=by
 have hall:∀t∈L,(U t).sz≠0:=fun t ht=>by
  have:=List.all_eq_true.1 hL t ht;simp only[Bool.and_eq_true,bne_iff_ne]at this;exact this.1
 intro fuel
 induction fuel with
 |zero=>intro t cs r _ h;simp[DataW.trod]at h
 |succ m ih=>
  intro t cs r ht h;have hp:=List.all_eq_true.1 hL t ht;simp only[Bool.and_eq_true,bne_iff_ne]at hp;obtain⟨hz,hp⟩:=hp;have hd:=(hU t).desc;unfold DataW.trod at h;cases hk:(U t).k with
  |bool=>
   rw[hk]at hd;simp only at hd;rw[hd]at h;split at h<;>simp_all
   rename_i b
   exact⟨_,.bool b hk,.one (.v _) rfl⟩
  |int k=>
   rw[hk]at hd;simp only at hd;rw[hd]at h;split at h<;>simp_all
   obtain⟨⟨rfl,hw⟩,_⟩:=h;exact⟨_,.int _ hk hw,.one (.v _) rfl⟩
  |str=>
   rw[hk]at hd;simp only at hd;rw[hd]at h;split at h<;>simp_all
   rename_i s
   refine⟨_,.str s.data.toList hk (by simpa using h.1),.one ?_ rfl⟩
   have:=Rep.s (c:=cx0 w) s.data.toList (by have:=h.1;unfold maxLen at this;simp only[lim];simp;omega)
   simpa using this
  |slice e=>
   rw[hk]at hd hp;simp only at hd;simp only[Bool.and_eq_true]at hp;have he:e∈L:=by simpa using hp.2
   have hez:=hall e he;rw[hd]at h;split at h<;>try (simp_all;done)
   ·rename_i e' heq
    refine⟨_,.slice [] hk (fun x hx=>by cases hx) acw,.one ?_ rfl⟩
    exact .sl [] .no none 0 0 (fun _ _=>undef) (Nat.le_refl _) acr (fun _=>rfl) (fun q h _=>adj) (fun i h=>adj) (fun q h=>adj) (fun i h=>adj) (fun i j h=>adj) trivial
   ·rename_i e' a len cap heq
    obtain rfl:e=e' :=by simpa using heq
    split at h
    ·rename_i hc
     obtain⟨hc1,hc2,hc3⟩:=hc;simp only[hsp,if_true]at h;obtain⟨els,hels,h⟩:=Option.bind_eq_some_iff.1 h;obtain⟨⟨rst,hrst,_⟩⟩:Nonempty {rst // (List.range (cap - len)).mapM (fun j=>((w.cells? 0 (a.add ((len+j)*P.cellsOf e)) (P.cellsOf e)).bind (DataW.trod enc P w 0 sp held m e)))=some rst∧True}:=by
      cases hq:(List.range (cap - len)).mapM (fun j=>((w.cells? 0 (a.add ((len+j)*P.cellsOf e)) (P.cellsOf e)).bind (DataW.trod enc P w 0 sp held m e)))with
      |none=>rw[hq]at h;simp at h
      |some rst=>exact⟨⟨rst,rfl,trivial⟩⟩
     rw[sd hU hez]at hels hrst;have cell:∀j,j<(U e).sz→∀(b:Addr) vs,w.cells? 0 b (U e).sz=some vs→w.cell? (b.add j)=vs[j]?∧vs.length=(U e).sz:=fun j hj b vs hb=>by
      simp only[World.cells?,Nat.zero_le,if_true]at hb;have:=mapM_some_get hb j j (by simp[hj])
      exact⟨this,by simpa using mapM_some_length hb⟩
     have el:∀i,i<len→∃vs x,w.cells? 0 (a.add (i*(U e).sz)) (U e).sz=some vs∧Dat U e x∧RL (cx0 w) x.cells vs:=fun i hi=>by
      have:=mapM_some_get hels i i (by simp[hi])
      have hi2:i<els.length:=by have:=mapM_some_length hels;simp at this;omega
      rw[List.getElem?_eq_getElem hi2]at this;obtain⟨vs,v1,v2⟩:=Option.bind_eq_some_iff.1 this;obtain⟨x,x1,x2⟩:=ih _ _ _ he v2;exact⟨vs,x,v1,x1,x2⟩
     have hspot:0<cap→a.spot=none∧a.block<w.heap.size:=fun hcap=>by
      have:∃b vs,w.cells? 0 b (U e).sz=some vs∧b.spot=a.spot∧b.block=a.block:=by
       by_cases hl:0<len
       ·obtain⟨vs,x,v1,_⟩:=el 0 hl
        have a0:a.add (0*(U e).sz)=a:=by simp[Addr.add]
        exact⟨_,vs,v1,by rw[a0],by rw[a0]⟩
       ·have:=mapM_some_get hrst 0 0 (by rw[List.getElem?_eq_getElem ac5];simp)
        have hi2:0<rst.length:=by have:=mapM_some_length hrst;simp at this;omega
        rw[List.getElem?_eq_getElem hi2]at this;obtain⟨vs,v1,v2⟩:=Option.bind_eq_some_iff.1 this;have a0:a.add ((len+0)*(U e).sz)=a:=by
         obtain rfl:len=0:=aco;simp[Addr.add]
        exact⟨_,vs,v1,by rw[a0],by rw[a0]⟩
      obtain⟨b,vs,b1,b2,b3⟩:=this;obtain⟨c1,c2⟩:=cell 0 aco b vs b1;rw[List.getElem?_eq_getElem aco]at c1;rw[←b2,←b3];unfold World.cell? at c1;split at c1
      ·rename_i hh
       split at c1
       ·cases c1
       ·rename_i hs
        refine⟨?_,?_⟩
        ·have:(b.add 0).spot=b.spot:=by simp[Addr.add]
         rw[this]at hs;cases hb:b.spot with
         |none=>rfl
         |some z=>rw[hb]at hs;simp at hs
        ·exact(Array.getElem?_eq_some_iff.1 hh).1
      ·cases c1
     have:∀n,n≤len→∃xs:List AV,xs.length=n∧∀i (hi:i<xs.length),Dat U e xs[i]∧∃vs,w.cells? 0 (a.add (i*(U e).sz)) (U e).sz=some vs∧RL (cx0 w) xs[i].cells vs:=by
      intro n
      induction n with
      |zero=>exact fun _=>⟨[],rfl,fun i hi=>by cases hi⟩
      |succ n ihn=>
       intro hn;obtain⟨xs,e1,e2⟩:=ihn aco;obtain⟨vs,x,v1,v2,v3⟩:=el n aco;refine⟨xs++ [x],by simp[e1],fun i hi=>?_⟩
       by_cases hi' :i<xs.length
       ·rw[List.getElem_append_left hi']
        exact e2 i hi'
       ·have:i=n:=by simp at hi;omega
        subst this;rw[List.getElem_append_right aco];simp only[e1,Nat.sub_self,List.getElem_singleton];exact⟨v2,vs,v1,v3⟩
     obtain⟨xs,e1,e2⟩:=this len (Nat.le_refl _);subst e1;refine⟨.sl xs .no,.slice xs hk (fun x hx=>?_) aco,.one ?_ rfl⟩
     ·obtain⟨i,hi,rfl⟩:=List.mem_iff_getElem.1 hx
      exact(e2 i hi).1
     ·refine .sl xs .no (some a) cap (U e).sz (fun i j=>((w.cells? 0 (a.add (i*(U e).sz)) (U e).sz).getD []).getD j undef) hc2 (by unfold maxLen at hc3;simp only[lim];omega) (fun hh=>adP) (fun q hq hcap=>by cases hq;exact hspot hcap)
       (fun i hi=>?_) (fun q hq i j hi hj=>?_) (fun i hi j hj=>?_) (fun i j hi hj=>?_) trivial
      ·obtain⟨_,vs,v1,v2⟩:=e2 i hi
       rw[v2.len];exact(cell 0 aco _ _ v1).2
      ·cases hq
       obtain⟨_,vs,v1,v2⟩:=e2 i hi;refine⟨?_,LV w _ _⟩;obtain⟨c1,c2⟩:=cell j hj _ _ v1;rw[v1];obtain⟨hs1,_⟩:=hspot aco;obtain⟨ab,ao,az⟩:=a;simp only at hs1;subst hs1
       rw[cG,cG]at c1;simp only[Option.getD_some];have hj2:j<vs.length:=aco;rw[show vs.getD j undef=vs[j] by simp[hj2]]
       rw[List.getElem?_eq_getElem hj2,Nat.add_assoc]at c1;exact c1
      ·obtain⟨_,vs,v1,v2⟩:=e2 i hi
       rw[v1];exact(v2.get j hj).1
      ·obtain⟨_,vs,v1,v2⟩:=e2 i hi
       rw[v1];have:=(cell 0 aco _ _ v1).2;exact(v2.get j (by rw[v2.len];omega)).2
    ·cases h
  |strct fs=>
   rw[hk]at hd hp;simp only at hd;simp only[Bool.and_eq_true]at hp;obtain⟨gs,hd,hg,_⟩:=hd;rw[hd]at h;have hq:cs.length=P.cellsOf t∧∃xs,(gs.toList.mapM fun f=>DataW.trod enc P w 0 sp held m f.type ((cs.drop f.offset).take (P.cellsOf f.type)))=some xs:=by
    split at h<;>try (simp_all;done)
    rename_i fs' heq
    obtain rfl:gs=fs' :=by simpa using heq
    split at h
    ·rename_i hl
     obtain⟨xs,h1,_⟩:=Option.map_eq_some_iff.1 h;exact⟨hl,xs,h1⟩
    ·cases h
   obtain⟨hl,xs,hxs⟩:=hq;rw[sd hU hz]at hl;obtain⟨ys,y1,y2,y3⟩:=LX hU (U t).sz cs hl ih hall fs gs.toList 0 hg (fun f hf=>by have:=List.all_eq_true.1 hp.1 f hf;simpa using this) hp.2 (fun f hf=>by
    obtain⟨i,hi,rfl⟩:=List.mem_iff_getElem.1 hf;have hi2:i<xs.length:=by have:=mapM_some_length hxs;omega
    have:=mapM_some_get hxs i _ (List.getElem?_eq_getElem hi);rw[List.getElem?_eq_getElem hi2]at this;exact⟨_,this⟩)
   exact⟨_,.strct ys hk y1 y2,y3⟩
  |_=>rw[hk]at hp;simp at hp
theorem xP(hU:∀t,aO P U t)(L:List TypeId)(hL:FY U L=true){sp:Nat→Bool}{held:Bool}(hsp:∀b,sp b=true){t:TypeId}{v:Value}{d:DataW H}{p:List MemPlace}(ht:t∈L){base:Nat}{rc:Reach}
  (hv:Value.okWide P w rc base t v) (h:DataW.Trod enc P w 0 sp held t v d p):∃x,Dat U t x∧Rep (cx0 w) x v:=by
 obtain⟨fuel,h⟩:=h;obtain⟨x,x1,x2⟩:=CT hU L hL hsp fuel t _ _ ht h;refine⟨x,x1,?_⟩;have hd:=(hU t).desc;cases x1 with
 |strct ys hk hn hx=>
  rw[hk]at hd;obtain⟨gs,hd,_⟩:=hd;unfold Value.okWide at hv;rw[hd]at hv;obtain⟨cs,rfl,_⟩:=hv;have hl:=x2.len;simp only[AV.cells,Value.cells]at hl x2;refine .agg _ _ acp (fun i hi=>?_) (fun i hi=>?_)
  ·have:=(x2.get i hi).1
   simpa using this
  ·have:=(x2.get i hi).2
   simpa using this
 |bool b hk=>
  exact agZ
 |int n hk hw=>
  exact agZ
 |str l hk hl=>
  exact agZ
 |slice xs hk hx hl=>
  exact agZ
end
section
variable {P : Program} {U : TypeId → TI} {n : Nat} {ρ : Env} {h h' h2 : Heap} {e tb : TypeId} {y v : AV} {xs zs : List AV} {l : List UInt8} {Q : AV → Heap → Prop}
def hm1(id:Nat)(k:Blk):Heap:=upd (fun _=>none) id (some k)
@[go_sem] theorem fW(id:Nat)(k:Blk):hm1 id k id=some k:=ah ..
theorem Sub.hm1{id:Nat}{k:Blk}(h1:h id=some k):Sub (hm1 id k) h:=fun j b hj=>by
 unfold Ab.hm1 at hj
 grind [ah,ag]
theorem fH.new{id:Nat}{k:Option Blk}(hid:h id=none):fH h (upd h id k):=((Sub.refl h).new hid k).fK
theorem nL.accs{h0:Heap}(hs:Sub h0 h)(hk:∀y' h'',Acc U e h0 h'' y' (xs++zs)→fH h h''→Q y' h''):nL U h xs zs e Q:=
 .own fun id hid=>hk _ _ ⟨hs.new hid _,.inr ⟨id,hs.none hid,rfl,by rw[ah,ach]⟩⟩ (.new hid)
end
section
variable {P : Program} {U : TypeId → TI} {n : Nat} {ρ : Env} {h h' : Heap} {tb : TypeId} {y : AV} {l : List UInt8}
theorem Bytes.from(hb:Bytes tb h y l){lo:Operand}{m:Int}{x:IntKind}{K:AV→Prop}(j:Nat)(hm:ev ρ lo=some (.v (.int x m)))(hj:m=j)(hl:j≤l.length)(hz:(U tb).sz=1)(hk:∀z,Bytes tb h z (l.drop j)→K z):
  gL U ρ y (some lo) none none K (.slice tb):=by
 subst hj;rcases hb with⟨q,rfl⟩|⟨id,off,cs,rfl,h1,h2,h3⟩
 ·rw[Ek,hm]
  refine⟨aco,by grind [jt],?_⟩
  refine⟨aco,acp,?_⟩;rw[←List.map_drop];exact hk _ (.sl _ _)
 ·rw[rF]
  refine⟨aco,fun _=>hz,?_⟩
  simp only[mg,fF,hm,dD,mW];refine⟨aco,aco,aco,?_⟩;simp only[Int.toNat_natCast,hz,Nat.mul_one];have e:(l.drop j).length=l.length - j:=acw;have:=hk (.oa id (off+j) (l.drop j).length) (by grind [oa,List.map_drop,List.drop_drop,List.drop_take])
  rwa [e]at this
theorem Bytes.cut(hb:Bytes tb h y l){lo hi:Operand}{m m2:Int}{x x2:IntKind}{K:AV→Prop}(j k:Nat)(hm:ev ρ lo=some (.v (.int x m)))(hj:m=j)(hm2:ev ρ hi=some (.v (.int x2 m2)))(hk2:m2=k)(hjk:j≤k)(hl:k≤l.length)(hz:(U tb).sz=1)
  (hk:∀z,Bytes tb h z ((l.drop j).take (k - j))→K z):gL U ρ y (some lo) (some hi) none K (.slice tb):=by
 subst hj;subst hk2
 rcases hb with⟨q,rfl⟩|⟨id,off,cs,rfl,h1,h2,h3⟩
 ·rw[JA,hm]
  refine⟨aco,by grind [jt],?_⟩
  simp only[dD,mW,hm2,Int.toNat_natCast,S9];refine⟨aco,aco,acp,?_⟩;rw[←List.map_drop,←List.map_take];exact hk _ (.sl _ _)
 ·rw[rF]
  refine⟨aco,fun _=>hz,?_⟩
  simp only[fF,hm,dD,mW,hm2];refine⟨aco,aco,aco,?_⟩;simp only[Int.toNat_natCast,hz,Nat.mul_one];have e:((l.drop j).take (k - j)).length=k - j:=acp;have:=hk (.oa id (off+j) ((l.drop j).take (k - j)).length) (.oa h1 aco (by
   grind [List.map_take,List.map_drop,List.drop_drop,List.drop_take]))
  rwa [e]at this
end
theorem PJ(k:IntKind)(n:Nat)(hk:k.signed=false)(hn:n<2 ^ k.bits):k.wrap (n:Int)=n:=by
 cases k<;>simp[IntKind.signed]at hk<;>simp[IntKind.wrap,IntKind.signed,IntKind.bits]at hn⊢<;>omega
theorem w32(n:Nat)(hn:n<4294967296):IntKind.u32.wrap (n:Int)=n:=PJ .u32 n rfl af6
theorem w8(n:Nat):IntKind.u8.wrap (n:Int)=(UInt8.ofNat n).toNat:=by
 rfl
theorem AU(w n:Nat):BitVec.ofInt w (n:Int)=BitVec.ofNat w n:=BitVec.ofInt_natCast ..
theorem MN(x y:BitVec 32):IntKind.u32.wrap (((BitVec.ofInt IntKind.u32.bits (x.toNat:Int) ^^^ BitVec.ofInt IntKind.u32.bits (y.toNat:Int)).toNat:Nat):Int)=((x ^^^ y).toNat:Int):=by
 have e:∀z:BitVec 32,BitVec.ofInt IntKind.u32.bits (z.toNat:Int)=z:=fun z=>by
  show BitVec.ofInt 32 (z.toNat:Int)=z
  simp
 rw[e,e];exact w32 _ (x ^^^ y).isLt
theorem RQ(x:BitVec 32):IntKind.u32.wrap (((BitVec.ofInt IntKind.u32.bits (x.toNat:Int) ^^^ BitVec.ofInt IntKind.u32.bits (3988292384:Int)).toNat:Nat):Int)=((x ^^^ 0xedb88320#32).toNat:Int):=MN x 0xedb88320#32
theorem Uk(x:BitVec 32):IntKind.u32.wrap (((BitVec.ofInt IntKind.u32.bits (if IntKind.u32.signed=true then -1 else IntKind.u32.max) ^^^ BitVec.ofInt IntKind.u32.bits (x.toNat:Int)).toNat:Nat):Int)=((~~~ x).toNat:Int):=by
 have:=MN (BitVec.allOnes 32) x;exact ac8
theorem Ti(x:BitVec 32):IntKind.u32.wrap (((BitVec.ofInt IntKind.u32.bits (x.toNat:Int) &&& BitVec.ofInt IntKind.u32.bits (1:Int)).toNat:Nat):Int)=((x &&& 1#32).toNat:Int):=by
 have e:BitVec.ofInt IntKind.u32.bits (x.toNat:Int)=x:=by
  show BitVec.ofInt 32 (x.toNat:Int)=x
  simp
 rw[e];exact w32 _ (x &&& 1#32).isLt
theorem Ux(x:BitVec 32):(x.toNat:Int).fdiv (2 ^ (min (1:Int).toNat IntKind.u32.bits))=((x>>>1).toNat:Int):=by
 show(x.toNat:Int).fdiv (2 ^ 1)=_
 grind [Int.fdiv_eq_ediv_of_nonneg,Nat.shiftRight_eq_div_pow]
theorem W5(n:Nat)(k:Nat)(hk:k≤24):(n:Int).fdiv (2 ^ (min (k:Int).toNat IntKind.u32.bits))=((n / 2 ^ k:Nat):Int):=by
 grind [min,Int,IntKind.bits,Int.fdiv_eq_ediv_of_nonneg,Int.le_of_lt,Int.pow_pos]
theorem WT(a b k:Nat)(ha:a<2 ^ k)(hk:k≤24)(hb:b<256):IntKind.u32.wrap (((BitVec.ofInt IntKind.u32.bits (a:Int)|||BitVec.ofInt IntKind.u32.bits ((b*2 ^ k:Nat):Int)).toNat:Nat):Int)=((a+b*2 ^ k:Nat):Int):=by
 have h24:2 ^ k≤2 ^ 24:=Nat.pow_le_pow_right acr hk;have hbk:b*2 ^ k≤255*2 ^ 24:=Nat.mul_le_mul aco h24;have e1:(BitVec.ofNat 32 a|||BitVec.ofNat 32 (b*2 ^ k)).toNat=a+b*2 ^ k:=by
  exact ahm
 show IntKind.u32.wrap (((BitVec.ofInt 32 (a:Int)|||BitVec.ofInt 32 ((b*2 ^ k:Nat):Int)).toNat:Nat):Int)=_
 rw[AU,AU,e1]
 grind [w32]
theorem Uw(b k:Nat)(hk:k≤24)(hb:b<256):IntKind.u32.wrap ((b:Int)*2 ^ (min (k:Int).toNat IntKind.u32.bits))=((b*2 ^ k:Nat):Int):=by
 have h24:2 ^ k≤2 ^ 24:=Nat.pow_le_pow_right acr hk;have hbk:b*2 ^ k≤255*2 ^ 24:=Nat.mul_le_mul aco h24;have:min (k:Int).toNat IntKind.u32.bits=k:=af6;rw[this,show((b:Int)*2 ^ k)=((b*2 ^ k:Nat):Int) by simp]
 exact w32 _ aco
section
variable {U : TypeId → TI} {ty : TypeId} {K : AV → Prop}
@[go_sem high] theorem ab8(x y:BitVec 32):cw U .xor ty (.v (.int .u32 (x.toNat:Int))) (.v (.int .u32 (y.toNat:Int))) K=K (.v (.int .u32 ((x ^^^ y).toNat:Int))):=by rw[O0,MN]
@[go_sem high] theorem ZZ(x:BitVec 32):cw U .xor ty (.v (.int .u32 (x.toNat:Int))) (.v (.int .u32 3988292384)) K=K (.v (.int .u32 ((x ^^^ 0xedb88320#32).toNat:Int))):=by rw[O0,RQ]
@[go_sem high] theorem Wo(x:BitVec 32):cw U .and ty (.v (.int .u32 (x.toNat:Int))) (.v (.int .u32 1)) K=K (.v (.int .u32 ((x &&& 1#32).toNat:Int))):=by rw[Kn,Ti]
@[go_sem high] theorem Wq(x:BitVec 32)(kk:IntKind):cw U .shr ty (.v (.int .u32 (x.toNat:Int))) (.v (.int kk 1)) K=K (.v (.int .u32 ((x>>>1).toNat:Int))):=by grind [Ko,Ux]
@[go_sem high] theorem Xa(x:BitVec 32):unA .xor (.v (.int .u32 (x.toNat:Int))) K=K (.v (.int .u32 ((~~~ x).toNat:Int))):=by rw[Co,Uk]
theorem Ku(n k:Nat)(kk:IntKind)(hk:k≤24):cw U .shr ty (.v (.int .u32 (n:Int))) (.v (.int kk (k:Int))) K=K (.v (.int .u32 ((n / 2 ^ k:Nat):Int))):=by grind [Ko,W5]
theorem Kt(a b k:Nat)(ha:a<2 ^ k)(hk:k≤24)(hb:b<256):cw U .or ty (.v (.int .u32 (a:Int))) (.v (.int .u32 ((b*2 ^ k:Nat):Int))) K=K (.v (.int .u32 ((a+b*2 ^ k:Nat):Int))):=by grind [Tl,WT]
theorem EW(b k:Nat)(kk:IntKind)(hk:k≤24)(hb:b<256):cw U .shl ty (.v (.int .u32 (b:Int))) (.v (.int kk (k:Int))) K=K (.v (.int .u32 ((b*2 ^ k:Nat):Int))):=by grind [OZ,Uw]
end
section
variable {P : Program} {U : TypeId → TI} {n : Nat} {ρ : Env} {h0 h h' : Heap} {tb : TypeId} {y v : AV} {l m : List UInt8} {Q : AV → Heap → Prop}
end
section
variable {U : TypeId → TI} {ty : TypeId} {K : AV → Prop}
end
section
variable {P : Program} {U : TypeId → TI} {n : Nat} {ρ : Env} {h : Heap}
section
variable (all : List Oper) (bs : List Bool) (r : List Oper) (K : Env → Heap → Prop)
end
theorem ai.of_wp{f:FuncId}{fn:Func}{c:Code}{args:List AV}{Q:AV→Heap→Prop}(hU:∀t,aO P U t)(hf:P.funcs[f]? =some fn)(hb:fn.body=some c)
  (hn : (fn.name == "runtime.NumGoroutine") = false) (m : Nat) (hm' : fn.ntmps = m) (rs : List ResultVar) (hr : fn.results.toList = rs) (hl : args.length ≤ m)
  (hk:WP P m c (xV args) h (vJ U rs Q)):ai P f args h Q:=by
 subst hm';subst hr
 exact ai.LN hU hf hb hn hl fun _=>hk
end
section
variable {P : Program} {U : TypeId → TI} {n : Nat} {ρ : Env} {h : Heap}
def KCut(I:Env→Heap→Prop)(K:Exit→Env→Heap→Prop):Exit→Env→Heap→Prop:=KSeq I K
@[go_sem↓] theorem S7(I:Env→Heap→Prop)(K:Exit→Env→Heap→Prop):KCut I K .ret ρ h=K .ret ρ h:=rfl
theorem WP.cut{c d:Code}{K:Exit→Env→Heap→Prop}(I:Env→Heap→Prop)(hc:WP P n c ρ h (KCut I K))(hd:∀ρ h,I ρ h→WP P n d ρ h K):WP P n (.seq c d) ρ h K:=
 WP.seq (hc.weaken fun e ρ h hk=>by
  cases e with
  |normal=>exact hd ρ h hk
  |_=>exact hk)
theorem WP.vc(hU:∀t,aO P U t)(hm:P.follows .mixedOrders=true){c:Code}{K:Exit→Env→Heap→Prop}(hk:bH P U n c ρ h K):WP P n c ρ h K:=dJ hU hm c ρ h K hk
def KNext(P:Program)(n:Nat)(d:Code)(K:Exit→Env→Heap→Prop):Exit→Env→Heap→Prop:=KSeq (WP P n d · · K) K
@[go_sem↓] theorem M1(d:Code)(K:Exit→Env→Heap→Prop):KNext P n d K .normal ρ h=WP P n d ρ h K:=rfl
@[go_sem↓] theorem R7(d:Code)(K:Exit→Env→Heap→Prop):KNext P n d K .ret ρ h=K .ret ρ h:=rfl
@[go_sem↓] theorem PY(d:Code)(K:Exit→Env→Heap→Prop)(i:Nat):KNext P n d K (.goto i) ρ h=K (.goto i) ρ h:=rfl
theorem WP.one(hU:∀t,aO P U t)(hm:P.follows .mixedOrders=true){c d:Code}{K:Exit→Env→Heap→Prop}(hk:bH P U n c ρ h (KNext P n d K)):WP P n (.seq c d) ρ h K:=WP.seq (dJ hU hm c ρ h _ hk)
end
section
variable {P : Program} {U : TypeId → TI} {n : Nat} {ρ : Env} {h : Heap}
variable {d : Option Tmp} {t : TypeId} {p : String} {a : Array Edge} {g : Option (Nat × Bool)} {Q : AV → Heap → Prop} {k : AV → Prop}
@[go_sem] theorem Va(x y:TypeId)(k:TK→Prop):atK (.map x y) k=k (.map x y):=rfl
@[go_sem] theorem Ts(i:Nat):AV.cells (.mp i)= [.mp i]:=rfl
@[go_sem] theorem Wz(i m:Nat):fit (.mp i) m=(m=1):=rfl
@[go_sem] theorem VJ(l:List UInt8):gC .str (.s l)=(l.length≤maxLen):=rfl
def mpL(b:Blk)(f:List (AV×AV)→Prop):Prop:=match b with
 |.mp m=>f m
 |_=>False
@[congr] theorem SJ{b b' :Blk}{f:List (AV×AV)→Prop}(e:b=b'):mpL b f=mpL b' f:=by rw[e]
@[go_sem↓] theorem WI(m:List (AV×AV))(f:List (AV×AV)→Prop):mpL (.mp m) f=f m:=rfl
def Al(tk:TK)(m:List (AV×AV)):Prop:=∀p∈m,gC tk p.1
def Ka(ti:TI):Prop:=ti.sz≠0∨ti.k= .strct []
def DB(U:TypeId→TI)(h:Heap)(u v:AV)(ok:Bool)(k:AV→Prop)(tk:TK):Prop:=match tk,u with
 |.map kt e,.mp id=>gC (U kt).k v∧Ka (U e)∧aE (h id) fun b=>mpL b fun m=>Al (U kt).k m∧k (yE U e m v ok)
 |_,_=>False
@[congr] theorem Pj{u u' v v' :AV}{ok:Bool}{k:AV→Prop}{tk:TK}(h1:u=u')(h2:v=v'):DB U h u v ok k tk=DB U h u' v' ok k tk:=by grind
@[go_sem↓] theorem Uc(kt e:TypeId)(id:Nat)(v:AV)(ok:Bool):DB U h (.mp id) v ok k (.map kt e)=(gC (U kt).k v∧Ka (U e)∧aE (h id) fun b=>mpL b fun m=>Al (U kt).k m∧k (yE U e m v ok)):=rfl
@[go_sem↓] theorem Uo(mt:TypeId)(x y:Operand)(ok:Bool):bg P U ρ h ⟨d,.lookup mt x y ok,t,p,a,g⟩ Q=aE (ev ρ x) fun u=>aE (ev ρ y) fun v=>atK (U mt).k (DB U h u v ok (atH Q h)):=by
 simp only[bg,pv,bV,atK]
 congr 1
 funext u
 congr 1
 funext v
 cases (U mt).k with
 |map kt e=>
  cases u with
  |mp id=>
   simp only[DB]
   congr 2
   exact agM
  |_=>rfl
 |_=>rfl
def L4(U:TypeId→TI)(h:Heap)(u v w:AV)(Q:AV→Heap→Prop)(tk:TK):Prop:=match tk,u with
 |.map kt e,.mp id=>gC (U kt).k v∧aE (h id) fun b=>mpL b fun m=>Al (U kt).k m∧Q (.v undef) (upd h id (some (.mp (zY m v w))))
 |_,_=>False
@[congr] theorem Rl{u u' v v' w w' :AV}{tk:TK}(h1:u=u')(h2:v=v')(h3:w=w'):L4 U h u v w Q tk=L4 U h u' v' w' Q tk:=by grind
@[go_sem↓] theorem VX(kt e:TypeId)(id:Nat)(v w:AV):L4 U h (.mp id) v w Q (.map kt e)=(gC (U kt).k v∧aE (h id) fun b=>mpL b fun m=>Al (U kt).k m∧Q (.v undef) (upd h id (some (.mp (zY m v w))))):=rfl
@[go_sem↓] theorem Pq(mt:TypeId)(x y z:Operand):bg P U ρ h ⟨d,.mapUpdate mt x y z,t,p,a,g⟩ Q=aE (ev ρ x) fun u=>aE (ev ρ y) fun v=>aE (ev ρ z) fun w=>atK (U mt).k (L4 U h u v w Q):=by
 simp only[bg,bV,atK]
 congr 1
 funext u
 congr 1
 funext v
 congr 1
 funext w
 cases (U mt).k with
 |map kt e=>
  cases u with
  |mp id=>
   simp only[L4]
   congr 1
   exact agM
  |_=>rfl
 |_=>rfl
def Tb(h:Heap)(Q:AV→Heap→Prop):Prop:=∀id,h id=none→Q (.mp id) (upd h id (some (.mp [])))
@[go_sem↓] theorem SV(mt:TypeId):bg P U ρ h ⟨d,.makeMap mt none,t,p,a,g⟩ Q=Tb h Q:=by
 simp only[bg,HI,true_and];rfl
end
def zX(ls:List (List UInt8)):List (AV×AV):=ls.map fun l=>(.s l,.agg [])
theorem De(ls:List (List UInt8))(l:List UInt8):getM (zX ls) (.s l)=if l∈ls then some (.agg [])else none:=by
 induction ls with
 |nil=>rfl
 |cons x ls ih=>
  simp only[getM,zX,List.map_cons,List.find?_cons,sv]at ih⊢
  grind
theorem Mm{ls:List (List UInt8)}{l:List UInt8}(hn:l∉ls):zY (zX ls) (.s l) (.agg [])=zX (ls++ [l]):=by
 unfold zY;rw[De,if_neg hn];simp[zX]
theorem Jc(U:TypeId→TI)(e:TypeId)(he:(U e).sz=0)(ls:List (List UInt8))(l:List UInt8):yE U e (zX ls) (.s l) true= .tup [.agg [],.b (decide (l∈ls))]:=by
 simp only[yE,De,iN,he,if_true]
 grind
theorem Ja{ls:List (List UInt8)}(h:∀l∈ls,l.length≤maxLen):Al .str (zX ls):=fun p hp=>by
 obtain⟨l,hl,rfl⟩:=List.mem_map.1 hp;exact h l hl
section
variable {P : Program} {f : FuncId} {args : List AV} {h h' : Heap} {Q : AV → Heap → Prop}
theorem Ext.below{c:Cx}{w' :World}(hb:Go.RowKit.Below c.w.heap.size c.w w'):Ext c {c with w:=w'} where
 os:=hb.os
 tape:=hb.tape
 output:=hb.output
 size:=hb.size
 block:=fun b h _=>hb.block b h
 cell:=fun b o h _=>by
  simp only[World.cell?,hb.block b h]
 shape:=fun b cs t fr h=>⟨cs,fr,(hb.block b (cX h)).trans h,rfl⟩
 steal:=fun _ _ _ h=>h
 obj:=fun _ cs _ h=>⟨rfl,cs,h,rfl⟩
 spare:=fun _ n _ h=>⟨n,h,.inl ⟨rfl,rfl⟩⟩
 mp:=fun _ m h=>⟨rfl,m,h⟩
 ro:=fun _ _ _ h=>⟨rfl,h⟩
theorem Good.below{c:Cx}(g:Good c){w' :World}(hb:Go.RowKit.Below c.w.heap.size c.w w'):Good {c with w:=w'} where
 fin:=g.fin
 inj:=g.inj
 obj:=fun id cs t h=>by
  obtain⟨vs,a1,a2,a3⟩:=g.obj id cs t h;exact⟨vs,(hb.block _ (cX a1)).trans a1,a2,fun j hj=>⟨(a3 j hj).1.mono (.below hb),(a3 j hj).2⟩⟩
 spare:=fun id n sz h=>by
  obtain⟨a0,vs,t,fr,a1,a2⟩:=g.spare id n sz h;exact⟨a0,vs,t,fr,(hb.block _ (cX a1)).trans a1,a2⟩
 mp:=fun id m h=>by
  obtain⟨es,cl,a1,a2,a3⟩:=g.mp id m h;exact⟨es,cl,(hb.block _ (cX a1)).trans a1,a2,fun i hi hi' =>⟨(a3 i hi hi').1,(a3 i hi hi').2.mono (.below hb)⟩⟩
 keys:=g.keys
 ro:=fun id b vs h=>g.ni (.below hb) h
theorem ai.lib{X:AV}(hc:callable P f)(hf:∀c (vs:Array Value),Sub h c.h→Good c→vs.size=args.length→(∀i (hi:i<args.length),Rep c args[i] (vs.getD i undef))→
  Calls P f vs c.w fun e w' =>(∃u,e= .returned u∧∀c',Ext c c'→Rep c' X u)∧Go.RowKit.Below c.w.heap.size c.w w'):ai P f args h fun r h' =>r=X∧h' =h:=by
 refine fun c vs hs g h1 h2=> .inl ⟨hc,(hf c vs hs g h1 h2).mono ?_⟩
 rintro e w' ⟨⟨u,rfl,hu⟩,hb⟩
 exact⟨u,rfl,{c with w:=w'},X,h,rfl,g.below hb,.below hb,hu _ (.below hb),hs,rfl,rfl⟩
def Tab(h:Heap)(b:Nat)(vs:List Value):Prop:=∃id,h id=some (.ro b vs)
theorem Tab.sub{b:Nat}{vs:List Value}(ht:Tab h b vs)(hs:Sub h h'):Tab h' b vs:=let ⟨id,hi⟩:=ht;⟨id,hs _ _ hi⟩
end
def wW(ts:List (Nat×List Value)):Heap:=fun i=>(ts[i]?).map fun p=> .ro p.1 p.2
def cxT(w:World)(ts:List (Nat×List Value)):Cx:=⟨w,fun i=>⟨((ts[i]?).map (·.1)).getD 0,0,none⟩,wW ts⟩
theorem LW(w:World)(ts:List (Nat×List Value))(b o:Nat):¬owned (cxT w ts) b o:=by
 rintro⟨id,k,h,_,h3⟩
 simp only[cxT,wW,Option.map_eq_some_iff]at h;obtain⟨p,_,rfl⟩:=h;exact h3
theorem TY(w:World)(ts:List (Nat×List Value))(hd:ts.Pairwise fun p q=>p.1≠q.1)(ht:∀p∈ts,∃(t:TypeId) (fr:Nat×Nat),w.heap[p.1]? =some (.cells p.2.toArray t fr)):Good (cxT w ts) where
 fin:=⟨ts.length,fun id h=>by simp[cxT,wW,List.getElem?_eq_none h]⟩
 inj:=fun i j k l h1 h2 hne=>by
  simp only[cxT,wW,Option.map_eq_some_iff]at h1 h2;obtain⟨p,hp,rfl⟩:=h1;obtain⟨q,hq,rfl⟩:=h2;simp only[cxT,hp,hq,Option.map_some,Option.getD_some];obtain⟨hi,rfl⟩:=List.getElem?_eq_some_iff.1 hp
  grind [List.pairwise_iff_getElem,Nat.lt_or_gt_of_ne]
 obj:=fun id cs t h=>by
  simp_all [cxT,wW,Option.map_eq_some_iff]
 spare:=fun id n sz h=>by
  simp_all [cxT,wW,Option.map_eq_some_iff]
 mp:=fun id m h=>by
  simp_all [cxT,wW,Option.map_eq_some_iff]
 keys:=fun id m h=>by
  simp_all [cxT,wW,Option.map_eq_some_iff]
 ro:=fun id b vs h=>by
  simp only[cxT,wW,Option.map_eq_some_iff]at h;obtain⟨p,hp,h⟩:=h;cases h;refine⟨by grind [cxT],ht p acp⟩
theorem ai.Ql{P:Program}{f:FuncId}{args:List AV}{b:Value}{vs:Array Value}{w:World}{ts:List (Nat×List Value)}(hc:callable P f)(hf:ai P f args (wW ts) fun r _=>r= .v b)(hd:ts.Pairwise fun p q=>p.1≠q.1)
  (ht:∀p∈ts,∃(t:TypeId) (fr:Nat×Nat),w.heap[p.1]? =some (.cells p.2.toArray t fr)) (hv:vs.size=args.length) (hr:∀i (hi:i<args.length),Rep (cx0 w) args[i] (vs.getD i undef)):
  Calls P f vs w fun e w' =>e= .returned b∧Go.RowKit.Below w.heap.size w w' :=by
 have hE:Ext (cx0 w) (cxT w ts):=⟨rfl,rfl,rfl,Nat.le_refl _,fun _ _ _=>rfl,fun _ _ _ _=>rfl,fun _ cs _ fr h=>⟨cs,fr,h,rfl⟩,fun b o _ h=>(LW w ts b o h).elim,
  fun _ _ _ h=>adj,fun _ _ _ h=>adj,fun _ _ h=>adj,fun _ _ _ h=>adj⟩
 refine((hf (cxT w ts) vs (fun _ _ h=>h) (TY w ts hd ht) hv fun i hi=>(hr i hi).mono hE).calls hc).mono ?_
 rintro e w' ⟨u,rfl,c',x,h',rfl,g',hE,hx,hs,rfl⟩
 rw[hx.bT];exact⟨rfl,hE.os,hE.tape,hE.output,hE.size,fun k hk=>hE.block k hk fun o=>LW w ts k o⟩
mutual
def strip:AV→AV
 |.sl xs _=> .sl (fR xs) .no
 |.agg xs=> .agg (fR xs)
 |.tup xs=> .tup (fR xs)
 |.v x=> .v x
 |.s l=> .s l
 |.pe x o=> .pe x o
 |.ptr i o=> .ptr i o
 |.oa i o l=> .oa i o l
 |.ifc t x=> .ifc t x
 |.fn f c=> .fn f c
 |.mp i=> .mp i
 |.ob i o l c s=> .ob i o l c s
def fR:List AV→List AV
 | []=>[]
 |x::r=>strip x::fR r
end
theorem eW:∀xs:List AV,(fR xs).length=xs.length
 | []=>rfl
 |x::r=>by simp[fR,eW r]
theorem gz:∀(xs:List AV) (i:Nat) (h1:i<xs.length) (h2:i<(fR xs).length),(fR xs)[i]=strip xs[i]
 |x::r,0,h1,h2=>acF
 |x::r,i+1,h1,h2=>by simpa[fR]using gz r i acp (by grind [fR])
theorem wE(x:AV):(strip x).cells=match x with|.agg xs=>fR xs|_=>[strip x]:=by
 cases x<;>simp[strip,AV.cells]
mutual
theorem fo:∀x:AV,Weak x (strip x)
 |.sl xs p=> .deep _ _ p (eW xs).symm (fun i h1 h2=>by
    rw[gz xs i h1 h2,wE];have:=nv xs i h1;cases hx:xs[i]<;>simp[AV.cells,eW])
   (fun i h1 h2 j h3 h4=>by
    have hw:=nv xs i h1;have e:=gz xs i h1 h2;exact hw (fR xs)[i] e j h3 h4)
 |.agg xs=> .agg _ _ (eW xs).symm fun i h1 h2=>aeT
 |.tup xs=> .tup _ _ (eW xs).symm fun i h1 h2=>aeT
 |.v x=> .refl _
 |.s l=> .refl _
 |.pe x o=> .refl _
 |.ptr i o=> .refl _
 |.oa i o l=> .refl _
 |.ifc t x=> .refl _
 |.fn f c=> .refl _
 |.mp i=> .refl _
 |.ob i o l c s=> .refl _
theorem lE:∀(xs:List AV) (i:Nat) (h:i<xs.length),Weak xs[i] (strip xs[i])
 |x::r,0,h=>fo x
 |x::r,i+1,h=>lE r i (by simpa using h)
theorem nv:∀(xs:List AV) (i:Nat) (h:i<xs.length) (y:AV),y=strip xs[i]→∀(j:Nat) (h3:j<xs[i].cells.length) (h4:j<y.cells.length),Weak xs[i].cells[j] y.cells[j]
 |x::r,0,h,y,e,j,h3,h4=>Gr x y e j h3 h4
 |x::r,i+1,h,y,e,j,h3,h4=>nv r i (by simpa using h) y e j h3 h4
theorem Gr:∀(x y:AV),y=strip x→∀(j:Nat) (h3:j<x.cells.length) (h4:j<y.cells.length),Weak x.cells[j] y.cells[j]
 |.agg xs,y,e,j,h3,h4=>by
  subst e;simp only[strip,AV.cells]at h4⊢;rw[gz xs j h3 h4];exact lE xs j h3
 |.sl xs p,y,e,j,h3,h4=>by
  subst e;simp only[strip,AV.cells,List.length_singleton]at h3 h4⊢;obtain rfl:j=0:=aco;exact .deep _ _ p (eW xs).symm (fun i h1 h2=>by
    rw[gz xs i h1 h2,wE];cases hx:xs[i]<;>simp[AV.cells,eW])
   (fun i h1 h2 j h3 h4=>nv xs i h1 _ (gz xs i h1 h2) j h3 h4)
 |.tup xs,y,e,j,h3,h4=>by
  subst e;simp only[strip,AV.cells,List.length_singleton]at h3 h4⊢;obtain rfl:j=0:=aco;exact .tup _ _ (eW xs).symm fun i h1 h2=>aeT
 |.v x,y,e,j,h3,h4=>adB
 |.s l,y,e,j,h3,h4=>adB
 |.pe x o,y,e,j,h3,h4=>adB
 |.ptr i o,y,e,j,h3,h4=>adB
 |.oa i o l,y,e,j,h3,h4=>adB
 |.ifc t x,y,e,j,h3,h4=>adB
 |.fn f c,y,e,j,h3,h4=>adB
 |.mp i,y,e,j,h3,h4=>adB
 |.ob i o l c s,y,e,j,h3,h4=>adB
end
section
variable {P : Program} {U : TypeId → TI} {n : Nat} {ρ : Env} {h0 h h' : Heap} {tb : TypeId} {y v : AV} {xs zs : List AV} {Q : AV → Heap → Prop} {f : FuncId} {args : List AV}
def One(xs:List AV):Prop:=∀x∈xs,bA x=false
theorem nQ{x:AV}(h:bA x=false):x.cells= [x]:=by cases x<;>first|rfl|(cases h)
theorem One.sized(h:One xs):Sized 1 xs:=fun z hz=>by rw[nQ (h z hz)];rfl
theorem One.map{α:Type}{g:α→AV}(hg:∀a,bA (g a)=false)(l:List α):One (l.map g):=fun x hx=>by
 grind
def EM(tb:TypeId)(h:Heap)(y:AV)(xs:List AV):Prop:=
 (∃q,y= .sl xs q)∨∃id off cs,y= .oa id off xs.length∧h id=some (.obj cs tb)∧off+xs.length≤cs.length∧(cs.drop off).take xs.length=xs
theorem EM.sl(xs:List AV)(q:Perm):EM tb h (.sl xs q) xs:=.inl ⟨q,rfl⟩
theorem EM.len(hb:EM tb h y xs)(e:TypeId)(k:AV→Prop):wP y k (.slice e)=k (.i xs.length):=by
 exact ahv
def AtP(U:TypeId→TI)(tb:TypeId)(h:Heap)(p x:AV):Prop:=∀k:AV→Prop,mY U h tb p k=k x
theorem EM.idx(hb:EM tb h y xs)(ho:One xs){m:Int}{x:IntKind}{K:AV→Prop}(j:Nat)(hm:m=j)(hj:j<xs.length)(hz:(U tb).sz=1)(ha:(U tb).k.agg=false)
  (hk:∀p,AtP U tb h p xs[j]→K p):oO U y (.v (.int x m)) K (.slice tb):=by
 subst hm;have h1:=ho xs[j] acw;rcases hb with⟨q,rfl⟩|⟨id,off,cs,rfl,g1,g2,g3⟩
 ·refine(uS ..).mpr ⟨aco,?_⟩
  refine fc.at j hj (by grind [nQ]) ?_
  refine hk _ fun k=>?_
  simp_all [mY,Kk,nQ,List.length_cons,List.length_nil,Nat.zero_add,and_self,if_true]
 ·refine(AJ ..).mpr ⟨aco,aco,aco,?_⟩
  refine hk _ fun k=>?_
  have e1:cs[off+j]? =some xs[j]:=by
   grind
  simp only[mY,g1,dD,B6,hz,Nat.mul_one,Int.toNat_natCast,DT,ha,Br,e1];simp
def WrA(tb:TypeId)(h0 h:Heap)(y:AV)(xs:List AV):Prop:=
 Sub h0 h∧((xs= []∧y= .sl [] .full)∨∃id cs,h0 id=none∧y= .oa id 0 xs.length∧h id=some (.obj cs tb)∧xs.length≤cs.length∧cs.take xs.length=xs)
theorem WrA.nil(hs:Sub h0 h):WrA tb h0 h (.sl [] .full) []:=⟨hs,.inl ⟨rfl,rfl⟩⟩
theorem WrA.seq(hw:WrA tb h0 h y xs):EM tb h y xs:=by
 obtain⟨_,⟨rfl,rfl⟩|⟨id,cs,_,rfl,h1,h2,h3⟩⟩:=hw
 ·exact ae2
 ·exact .inr ⟨id,0,cs,rfl,h1,aco,acp⟩
theorem WrA.sub(hw:WrA tb h0 h y xs)(hs:Sub h h'):WrA tb h0 h' y xs:=by
 obtain⟨h1,hw|⟨id,cs,a,e,b,c,d⟩⟩:=hw
 ·exact⟨h1.trans hs,.inl hw⟩
 ·exact⟨h1.trans hs,.inr ⟨id,cs,a,e,hs _ _ b,c,d⟩⟩
theorem WrA.base(hw:WrA tb h0 h y xs){id:Nat}(hid:h id=none)(b:Option Blk):WrA tb (upd h0 id b) (upd h id b) y xs:=by
 obtain⟨h1,hw⟩:=hw;have h2:Sub (upd h0 id b) (upd h id b):=fun j k hj=>by
  by_cases e:j=id
  ·grind [ah]
  ·rw[ag _ _ e]at hj⊢;exact h1 _ _ hj
 rcases hw with hw|⟨i,cs,a,e,c,d⟩
 ·exact⟨h2,.inl hw⟩
 ·have hne:i≠id:=fun hh=>by subst hh;rw[hid]at c;cases c
  exact⟨h2,.inr ⟨i,cs,acZ,e,acZ,d⟩⟩
theorem WrA.less(hw:WrA tb h' h y xs)(hs:Sub h0 h'):WrA tb h0 h y xs:=by
 obtain⟨h1,hw|⟨i,cs,a,e,c,d⟩⟩:=hw
 ·exact⟨hs.trans h1,.inl hw⟩
 ·exact⟨hs.trans h1,.inr ⟨i,cs,hs.none a,e,c,d⟩⟩
theorem WrA.len(hw:WrA tb h0 h y xs)(e:TypeId)(k:AV→Prop):wP y k (.slice e)=k (.i xs.length):=hw.seq.len e k
theorem WrA.idx(hb:WrA tb h0 h y xs)(ho:One xs){m:Int}{x:IntKind}{K:AV→Prop}(j:Nat)(hm:m=j)(hj:j<xs.length)(hz:(U tb).sz=1)(ha:(U tb).k.agg=false)
  (hk:∀p,AtP U tb h p xs[j]→K p):oO U y (.v (.int x m)) K (.slice tb):=hb.seq.idx ho j hm hj hz ha hk
theorem WrA.cut(hw:WrA tb h0 h y xs){hi:Operand}{m:Int}{x:IntKind}{K:AV→Prop}(j:Nat)(hm:ev ρ hi=some (.v (.int x m)))(hj:m=j)(hl:j≤xs.length)(hz:(U tb).sz=1)
  (hk:∀z,WrA tb h0 h z (xs.take j)→K z):gL U ρ y none (some hi) none K (.slice tb):=by
 subst hj;have hs:=hw.1;obtain⟨_,⟨rfl,rfl⟩|⟨id,cs,h1,rfl,h2,h3,h4⟩⟩:=hw
 ·rw[qV,fF,hm]
  refine⟨aco,?_⟩;have:j=0:=acp;subst this;refine⟨aco,acw,?_⟩;exact hk _ (.nil hs)
 ·rw[rF]
  refine⟨aco,fun _=>hz,?_⟩
  simp only[mg,fF,hm,dD,mW];refine⟨aco,aco,aco,?_⟩;have e:(xs.take j).length=j:=acp;have:=hk (.oa id 0 (xs.take j).length) ⟨hs,.inr ⟨id,cs,h1,rfl,h2,aco,acp⟩⟩;rw[e]at this;simpa using this
theorem WrA.app(hw:WrA tb h0 h y xs)(ho:One xs)(hoz:One zs)(hz:(U tb).sz=1)(hb:(U tb).bytes≠0)(hf:fit (U tb).zero 1)(hn:bA (U tb).zero=false)(hsrc:∀k:List AV→Prop,k zs→iu U tb h v k)
  (hlen:(xs.length+zs.length)*(U tb).bytes≤140737488355328) (hk:∀y' h',WrA tb h0 h' y' (xs++zs)→Q y' h'):apK U h y v Q (.slice tb):=by
 have hs:=hw.1;have one:Sized (U tb).sz zs:=by rw[hz];exact hoz.sized
 obtain⟨_,⟨rfl,rfl⟩|⟨id,cs,h1,rfl,h2,h3,h4⟩⟩:=hw
 ·refine(pZ ..).mpr ⟨aco,hb,hsrc _ ⟨by simp[Sized],one,aco,fun hn' =>?_,fun hn' =>?_⟩⟩
  ·subst hn'
   exact hk _ _ (.nil hs)
  ·refine .oa hz hf hn hoz fun id k hid=>?_
   refine hk _ _ ⟨hs.new hid _,.inr ⟨id,_,hs.none hid,?_,ah ..,?_,?_⟩⟩
   ·simp
   ·simp
   ·simp
 ·refine⟨aco,hb,hz,hsrc _ ⟨acp,hoz,aco,?_⟩⟩
  rw[h2];refine⟨aco,?_,hf,hn,fun hle=>?_,fun id' k hid=>?_⟩
  ·rw[List.drop_zero,h4];exact ho
  ·have hsub:Sub h0 (upd h id (some (.obj (over cs (0+xs.length) zs) tb))):=fun j b hj=>by
    by_cases e:j=id
    ·grind
    ·rw[ag _ _ e];exact hs _ _ hj
   have ho' :(over cs (0+xs.length) zs).length=cs.length:=ig aco;refine hk _ _ ⟨hsub,.inr ⟨id,_,h1,acw,ah ..,acp,?_⟩⟩;rw[over,Nat.zero_add,h4,ach,List.take_append_of_le_length acw]
   grind
  ·refine hk _ _ ⟨hs.new hid _,.inr ⟨id',_,hs.none hid,acw,ah ..,?_,?_⟩⟩
   ·grind
   grind
end
end Go.Ab
namespace Go.Bf
open Go Go.Ab
abbrev Txt:=List UInt8
structure pW where
 cat:Int
 name:Txt
 must:Bool
structure bD where
 kind:Int
 n:Int
 s:Txt
structure bM where
 attr:pW
 op:Int
 val:bD
structure aM where
 op:Int
 val:bD
 attr:pW
structure cD where
 on:Int
 kind:Int
 arg:Txt
abbrev fO:=List (List (List bM))
structure cN where
 id:Txt
 deny:Bool
 tgt:fO
 cond:List aM
 obls:List cD
inductive bB where
 |mk (id:Txt) (set:Bool) (alg:Int) (tgt:fO) (rules:List cN) (kids:List bB) (obls:List cD)
def CF(a:pW):AV:=.agg [.i a.cat,.s a.name,.b a.must]
def aU(v:bD):AV:=.agg [.i v.kind,.i v.n,.s v.s]
def cP(m:bM):AV:=.agg [.i m.attr.cat,.s m.attr.name,.b m.attr.must,.i m.op,.i m.val.kind,.i m.val.n,.s m.val.s]
def cJ(m:aM):AV:=.agg [.i m.op,.i m.val.kind,.i m.val.n,.s m.val.s,.i m.attr.cat,.s m.attr.name,.b m.attr.must]
def jG(b:Bool):AV:=.b b
def aW(o:cD):AV:=.agg [.i o.on,.i o.kind,.s o.arg]
def fP(l:List bM):AV:=.sl (l.map cP) .no
def bP(l:List (List bM)):AV:=.sl (l.map fP) .no
def aS(t:fO):AV:=.sl (t.map bP) .no
def dL(l:List aM):AV:=.sl (l.map cJ) .no
def ay(l:List cD):AV:=.sl (l.map aW) .no
def aA(r:cN):AV:=.agg [.s r.id,.b r.deny,aS r.tgt,dL r.cond,ay r.obls]
mutual
def aK:bB→AV
 |.mk id set alg tgt rules kids obls=> .agg [.s id,.b set,.i alg,aS tgt,.sl (rules.map aA) .no,.sl (cy kids) .no,ay obls]
def cy:List bB→List AV
 | []=>[]
 |k::r=>aK k::cy r
end
theorem aP:∀l:List bB,cy l=l.map aK
 | []=>rfl
 |k::r=>by simp[cy,aP r]
def ltr(c:UInt8):Bool:=decide (97≤(c.toNat:Int)) && decide ((c.toNat:Int)≤122)
def dgt(c:UInt8):Bool:=decide (48≤(c.toNat:Int)) && decide ((c.toNat:Int)≤57)
def sZ(c:UInt8)(i:Nat):Bool:=ltr c||(decide (i≠0) && (dgt c||(c.toNat:Int)==95))
def vL(l:Txt):Bool:=l.zipIdx.all fun p=>sZ p.1 p.2
def bt(l:Txt):Bool:=vL l && decide (1≤l.length) && decide (l.length≤16)
def qc(a:pW):Bool:=decide (1≤a.cat) && decide (a.cat≤4) && bt a.name
def bL(v:bD):Bool:=
 if v.kind=1 then(v.n==0||v.n==1) && v.s== []
 else if v.kind=2 then v.s== []
 else if v.kind=3 then v.n==0 && decide (v.s.length≤64)
 else if v.kind=4 then decide (0≤v.n) && decide (v.n≤1099511627776) && v.s== []
 else if v.kind=5 then v.n==0 && bt v.s
 else false
def kI(m:bM):Bool:=qc m.attr && decide (1≤m.op) && decide (m.op≤3) && bL m.val
def jZ(n:Nat):Int:=if n=0 then 1 else if n>8 then 6 else 0
def gZ{α:Type}(f:α→Int):List α→Int
 | []=>0
 |x::r=>if f x=0 then gZ f r else f x
def wL(l:List bM):Int:=if jZ l.length=0 then(if l.all kI then 0 else 1)else jZ l.length
def wM(l:List (List bM)):Int:=if jZ l.length=0 then gZ wL l else jZ l.length
def lB(t:fO):Int:=if t.length>8 then 6 else gZ wM t
def iC(op:Int):Option (List Bool):=
 if op=1∨op=2 then some []
 else if op=3∨op=4 then some [true]
 else if op=5 then some [true,false]
 else if op=11 then some [false]
 else if 6≤op∧op≤13 then some [false,false]
 else none
def zeroV(v:bD):Bool:=v.kind==0 && (v.n==0 && v.s== [])
def zeroAt(a:pW):Bool:=a.cat==0 && (a.name== [] && a.must==false)
def jI(n:aM):Bool:=
 if n.op=1 then bL n.val && zeroAt n.attr
 else if n.op=2 then qc n.attr && zeroV n.val
 else zeroV n.val && zeroAt n.attr
def iB(st:List Bool)(n:aM):Option (List Bool):=match iC n.op with
 |none=>none
 |some w=>if jI n=true∧w.length≤st.length∧st.drop (st.length - w.length)=w then some (st.take (st.length - w.length)++ [n.op==2])else none
def fQ(st:List Bool):List aM→Option (List Bool)
 | []=>some st
 |n::r=>match iB st n with
  |none=>none
  |some st' =>fQ st' r
def jY(l:List aM):Int:=if l.length>32 then 6 else match fQ [] l with
 |none=>1
 |some st=>if l= []∨st= [false]then 0 else 1
def qN(o:cD):Bool:=decide (1≤o.on) && decide (o.on≤2) && decide (1≤o.kind) && decide (o.kind≤4) && bt o.arg
def ic(l:List cD):Int:=if l.length>8 then 6 else if l.all qN then 0 else 1
structure dU where
 met:List Txt
 rules:Nat
inductive Went where
 |bad (e:Int)
 |ok (m:dU)
def iZ(m:dU)(s:Txt):Option dU:=if s∉m.met∧bt s=true then some ⟨m.met++ [s],m.rules⟩else none
def Went.err:Went→Int
 |.bad e=>e
 |.ok _=>0
def need(e:Int)(w:Went):Went:=if e=0 then w else .bad e
def gp(m:dU)(r:cN):Went:=match iZ m r.id with
 |none=> .bad 1
 |some m=>if m.rules+1>64 then .bad 6 else need (lB r.tgt) (need (jY r.cond) (need (ic r.obls) (.ok ⟨m.met,m.rules+1⟩)))
def fm(m:dU):List cN→Went
 | []=> .ok m
 |r::l=>match gp m r with
  |.bad e=> .bad e
  |.ok m=>fm m l
def eV(m:dU)(id:Txt)(set:Bool)(alg:Int)(tgt:fO)(nr nk:Nat)(obls:List cD):Went:=match iZ m id with
 |none=> .bad 1
 |some m=>if alg<1∨alg>6 then .bad 1
  else if set=true∧nr>0∨set=false∧(nk>0∨alg=4)then .bad 1
  else need (lB tgt) (need (ic obls) (if nr>16∨nk>16 then .bad 6 else .ok m))
mutual
def ko(m:dU)(d:Nat):bB→Went
 |.mk id set alg tgt rules kids obls=>
  if d>4 then .bad 6 else match eV m id set alg tgt rules.length kids.length obls with
  |.bad e=> .bad e
  |.ok m=>match fm m rules with
   |.bad e=> .bad e
   |.ok m=>iJ m (d+1) kids
def iJ(m:dU)(d:Nat):List bB→Went
 | []=> .ok m
 |k::r=>match ko m d k with
  |.bad e=> .bad e
  |.ok m=>iJ m d r
end
def gy(p:bB):Int:=(ko ⟨[],0⟩ 1 p).err
def TZ(n:Nat):UInt8:=if n<10 then UInt8.ofNat (48+n)else UInt8.ofNat (87+n)
def FU(c:UInt8):Bool:=decide ((c.toNat:Int)<32)||decide (126<(c.toNat:Int))||(c.toNat:Int)==34||(c.toNat:Int)==92
def Rm(c:UInt8):Txt:=if FU c then [92,TZ (c.toNat / 16),TZ (c.toNat % 16)]else [c]
def Rn(l:Txt):Txt:=[34]++(l.map Rm).flatten++ [34]
def oe(v:bD):Txt:=
 if v.kind=1 then Lib.formatBool (v.n==1)else if v.kind=4 then [64]++Lib.itoa v.n else if v.kind=5 then [35]++v.s else if v.kind=3 then Rn v.s else Lib.itoa v.n
theorem vE{α:Type}(l:List α)(i:Nat)(h:i<l.length):(l.take (i+1)).zipIdx=(l.take i).zipIdx++ [(l[i],i)]:=by
 grind [List.take_succ_eq_append_getElem,Nat.min_eq_left,Nat.le_of_lt]
theorem EY(l:Txt)(i:Nat)(h:i<l.length):vL (l.take (i+1))=(vL (l.take i) && sZ l[i] i):=by
 grind [vL,vE]
theorem Ij(l:Txt)(i:Nat)(h:i<l.length)(hb:sZ l[i] i=false):vL l=false:=by
 rw[vL,List.all_eq_false];exact⟨(l[i],i),acp,acp⟩
theorem No(c:UInt8):
  (decide (97≤(c.toNat:Int))=true∧decide ((c.toNat:Int)≤122)=true∧decide (48≤(c.toNat:Int))=true∧decide ((c.toNat:Int)≤57)=false∧((c.toNat:Int)==95)=false)∨
  (decide (97≤(c.toNat:Int))=false∧decide ((c.toNat:Int)≤122)=true∧decide (48≤(c.toNat:Int))=true∧decide ((c.toNat:Int)≤57)=true∧((c.toNat:Int)==95)=false)∨
  (decide (97≤(c.toNat:Int))=false∧decide ((c.toNat:Int)≤122)=true∧decide (48≤(c.toNat:Int))=true∧decide ((c.toNat:Int)≤57)=false∧((c.toNat:Int)==95)=true)∨
  (decide (97≤(c.toNat:Int))=false∧decide ((c.toNat:Int)≤122)=true∧decide (48≤(c.toNat:Int))=false∧decide ((c.toNat:Int)≤57)=true∧((c.toNat:Int)==95)=false)∨
  (decide (97≤(c.toNat:Int))=false∧decide ((c.toNat:Int)≤122)=true∧decide (48≤(c.toNat:Int))=true∧decide ((c.toNat:Int)≤57)=false∧((c.toNat:Int)==95)=false)∨
  (decide (97≤(c.toNat:Int))=true∧decide ((c.toNat:Int)≤122)=false∧decide (48≤(c.toNat:Int))=true∧decide ((c.toNat:Int)≤57)=false∧((c.toNat:Int)==95)=false):=by
 simp only[decide_eq_true_eq,decide_eq_false_iff_not,beq_iff_eq,beq_eq_false_iff_ne,ne_eq];omega
theorem vT{α:Type}{f:α→Int}{l:List α}{i:Nat}(h:i<l.length)(h0:gZ f (l.take i)=0)(h1:f l[i]=0):gZ f (l.take (i+1))=0:=by
 rw[List.take_succ_eq_append_getElem h];generalize l.take i=a at h0
 induction a with
 |nil=>grind [gZ]
 |cons x r ih=>
  simp only[gZ]at h0;split at h0
  ·simp_all [List.cons_append,gZ,if_true]
  omega
theorem AG{α:Type}{f:α→Int}{l:List α}{i:Nat}(h:i<l.length)(h0:gZ f (l.take i)=0)(h1:f l[i]≠0):gZ f l=f l[i]:=by
 induction l generalizing i with
 |nil=>cases h
 |cons x r ih=>
  cases i with
  |zero=>grind [gZ]
  |succ i=>
   simp only[List.take_succ_cons,gZ]at h0;split at h0
   ·rename_i hx
    simp only[gZ,hx,if_true,List.getElem_cons_succ]
    grind
   omega
theorem DG{e x:Int}{w:Went}(h:need e w= .bad x)(hw:w= .bad x→x≠0):x≠0:=by
 grind [need]
theorem Bc{m:dU}{r:cN}{e:Int}(h:gp m r= .bad e):e≠0:=by
 grind [gp,DG]
theorem AI{m:dU}{id:Txt}{set:Bool}{alg:Int}{tgt:fO}{nr nk:Nat}{obls:List cD}{e:Int}(h:eV m id set alg tgt nr nk obls= .bad e):e≠0:=by
 grind [eV,DG]
theorem o9(m:dU):∀(l:List cN) (i:Nat),fm m l=(match fm m (l.take i)with
  |.bad e=> .bad e
  |.ok m1=>fm m1 (l.drop i))
 | [],i=>by simp[fm]
 |r::l,0=>acF
 |r::l,i+1=>by
  simp only[List.take_succ_cons,List.drop_succ_cons,fm];cases gp m r with
  |bad e=>rfl
  |ok m1=>simp only;exact o9 m1 l i
theorem wB{m m1:dU}{l:List cN}{i:Nat}(hi:i<l.length)(h:fm m (l.take i)= .ok m1):fm m (l.take (i+1))=gp m1 l[i]:=by
 rw[o9 m _ i,List.take_take,Nat.min_eq_left aco,h,List.take_succ_eq_append_getElem hi,List.drop_append_of_le_length acp,List.drop_of_length_le acp]
 grind [fm,gp]
theorem Ef{m m1:dU}{l:List cN}{i:Nat}{e:Int}(hi:i<l.length)(h:fm m (l.take i)= .ok m1)(hr:gp m1 l[i]= .bad e):fm m l= .bad e:=by
 rw[o9 m l (i+1),wB hi h,hr]
theorem qI(m:dU)(d:Nat):∀(l:List bB) (i:Nat),iJ m d l=(match iJ m d (l.take i)with
  |.bad e=> .bad e
  |.ok m1=>iJ m1 d (l.drop i))
 | [],i=>by simp[iJ]
 |r::l,0=>acF
 |r::l,i+1=>by
  simp only[List.take_succ_cons,List.drop_succ_cons,iJ];cases ko m d r with
  |bad e=>rfl
  |ok m1=>simp only;exact qI m1 d l i
theorem yt{m m1:dU}{d:Nat}{l:List bB}{i:Nat}(hi:i<l.length)(h:iJ m d (l.take i)= .ok m1):iJ m d (l.take (i+1))=ko m1 d l[i]:=by
 rw[qI m d _ i,List.take_take,Nat.min_eq_left aco,h,List.take_succ_eq_append_getElem hi,List.drop_append_of_le_length acp,List.drop_of_length_le acp]
 grind [iJ,ko]
theorem FJ{m m1:dU}{d:Nat}{l:List bB}{i:Nat}{e:Int}(hi:i<l.length)(h:iJ m d (l.take i)= .ok m1)(hr:ko m1 d l[i]= .bad e):iJ m d l= .bad e:=by
 rw[qI m d l (i+1),yt hi h,hr]
theorem kj{l:List cD}(h:ic l=0):l.length≤8∧∀o∈l,qN o=true:=by
 grind [ic,List.all_eq_true]
theorem yF{n:Nat}(h:jZ n=0):0<n∧n≤8:=by
 grind [jZ]
theorem vU{α:Type}{f:α→Int}{l:List α}(h:gZ f l=0):∀x∈l,f x=0:=by
 induction l with
 |nil=>simp
 |cons y r ih=>
  simp only[gZ]at h
  grind
theorem An{l:List bM}(h:wL l=0):0<l.length∧l.length≤8∧∀m∈l,kI m=true:=by
 unfold wL at h;split at h
 ·simp_all [yF,List.all_eq_true]
 omega
theorem Ao{l:List (List bM)}(h:wM l=0):0<l.length∧l.length≤8∧∀m∈l,wL m=0:=by
 unfold wM at h;split at h
 ·rename_i hm
  have:=yF hm;exact⟨this.1,this.2,vU h⟩
 omega
theorem Bj{l:fO}(h:lB l=0):l.length≤8∧∀m∈l,wM m=0:=by
 grind [lB,vU]
def inV(v:bD):Prop:= -9223372036854775808≤v.n∧v.n≤9223372036854775807
def inA(l:List bM):Prop:=∀m∈l,inV m.val
def inY(l:List (List bM)):Prop:=∀a∈l,inA a
def inT(t:fO):Prop:=∀a∈t,inY a
def inL(l:List aM):Prop:=∀n∈l,inV n.val
def inR(r:cN):Prop:=inT r.tgt∧inL r.cond
mutual
def inP:bB→Prop
 |.mk id set alg tgt rules kids obls=>inT tgt∧(∀r∈rules,inR r)∧inK kids
def inK:List bB→Prop
 | []=>True
 |k::r=>inP k∧inK r
end
theorem QS:∀l:List bB,inK l↔∀k∈l,inP k
 | []=>by simp[inK]
 |k::r=>by simp[inK,QS r]
theorem xX{l:List aM}(h:jY l=0)(hn:l≠ []):l.length≤32∧fQ [] l=some [false]:=by
 grind [jY]
def Ee(r:cN):Prop:=bt r.id=true∧lB r.tgt=0∧jY r.cond=0∧ic r.obls=0
mutual
def mH(d:Nat):bB→Prop
 |.mk id set alg tgt rules kids obls=>d≤4∧bt id=true∧1≤alg∧alg≤6∧(set=true→rules= [])∧(set=false→kids= []∧alg≠4)∧lB tgt=0∧ic obls=0∧rules.length≤16∧kids.length≤16∧(∀r∈rules,Ee r)∧wh (d+1) kids
def wh(d:Nat):List bB→Prop
 | []=>True
 |k::r=>mH d k∧wh d r
end
theorem qH(d:Nat):∀l:List bB,wh d l↔∀k∈l,mH d k
 | []=>by simp[wh]
 |k::r=>by simp[wh,qH d r]
theorem yG{m m' :dU}{s:Txt}(h:iZ m s=some m'):bt s=true:=by
 grind [iZ]
theorem qL{e:Int}{w:Went}{m:dU}(h:need e w= .ok m):e=0∧w= .ok m:=by
 grind [need]
theorem Mc{m m' :dU}{r:cN}(h:gp m r= .ok m'):Ee r:=by
 unfold gp at h;split at h
 ·cases h
 ·rename_i m1 hm
  split at h
  ·cases h
  ·obtain⟨h1,h⟩:=qL h
   obtain⟨h2,h⟩:=qL h;obtain⟨h3,h⟩:=qL h;exact⟨yG hm,h1,h2,h3⟩
theorem Bd:∀(l:List cN) (m m' :dU),fm m l= .ok m'→∀r∈l,Ee r
 | [],_,_,_,r,hr=>acp
 |x::l,m,m',h,r,hr=>by
  simp only[fm]at h;cases hx:gp m x with
  |bad e=>grind
  |ok m1=>
   rw[hx]at h;rcases List.mem_cons.1 hr with rfl|hr
   ·exact Mc hx
   ·exact Bd l m1 m' h r hr
theorem I1{m m1:dU}{id:Txt}{set:Bool}{alg:Int}{tgt:fO}{nr nk:Nat}{obls:List cD}(h:eV m id set alg tgt nr nk obls= .ok m1):
  iZ m id=some m1∧1≤alg∧alg≤6∧(set=true→nr=0)∧(set=false→nk=0∧alg≠4)∧lB tgt=0∧ic obls=0∧nr≤16∧nk≤16:=by
 unfold eV at h;split at h
 ·cases h
 split at h
 ·cases h
 split at h
 ·cases h
 obtain⟨h3,h⟩:=qL h;obtain⟨h4,h⟩:=qL h
 grind
mutual
theorem Hy:∀(p:bB) (d:Nat) (m m' :dU),ko m d p= .ok m'→mH d p
 |.mk id set alg tgt rules kids obls,d,m,m',h=>by
  simp only[ko]at h;split at h
  ·cases h
  rename_i hd
  split at h
  ·cases h
  rename_i m1 h1
  split at h
  ·cases h
  rename_i m2 h2
  obtain⟨g1,g2,g3,g4,g5,g6,g7,g8,g9⟩:=I1 h1;simp only[mH];exact⟨aco,yG g1,g2,g3,fun e=>List.length_eq_zero_iff.1 (g4 e),fun e=>⟨List.length_eq_zero_iff.1 (g5 e).1,(g5 e).2⟩,g6,g7,g8,g9,Bd _ _ _ h2,Dv kids (d+1) m2 m' h⟩
theorem Dv:∀(l:List bB) (d:Nat) (m m' :dU),iJ m d l= .ok m'→wh d l
 | [],_,_,_,_=>by simp[wh]
 |k::r,d,m,m',h=>by
  simp only[iJ]at h;split at h
  ·cases h
  rename_i m1 h1
  simp only[wh];exact⟨Hy k d m m1 h1,Dv r d m1 m' h⟩
end
end Go.Bf
namespace Go.Ab
open Go
def hm2(i:Nat)(a:Blk)(j:Nat)(b:Blk):Heap:=upd (hm1 i a) j (some b)
theorem Sub.hm2{h:Heap}{i j:Nat}{a b:Blk}(h1:h i=some a)(h2:h j=some b):Sub (hm2 i a j b) h:=fun k c hk=>by
 unfold Ab.hm2 at hk
 by_cases e:k=j
 ·grind [ah]
 ·rw[ag _ _ e]at hk;exact Sub.hm1 h1 k c hk
theorem oN(i:Nat)(a:Blk)(j:Nat)(b:Blk):hm2 i a j b j=some b:=ah ..
theorem oL{i:Nat}(a:Blk){j:Nat}(b:Blk)(h:i≠j):hm2 i a j b i=some a:=by
 simp_all [hm2,ag,fW]
theorem tI{i:Nat}(a:Blk){j:Nat}(b:Blk){k:Nat}(h1:k≠i)(h2:k≠j):hm2 i a j b k=none:=by
 simp_all [hm2,ag,hm1]
theorem aH{h:Heap}{i j:Nat}{b:Blk}(e:upd h i (some b) j=none):j≠i:=fun hh=>by
 subst hh;rw[ah]at e;cases e
theorem Sub.put{h g:Heap}(hs:Sub h g){i:Nat}(hi:h i=Option.none)(x:Option Blk):Sub h (Ab.upd g i x):=fun k c hk=>by
 by_cases e:k=i
 ·grind
 ·rw[ag _ _ e];exact hs k c hk
theorem Sub.both{h g:Heap}(hs:Sub h g)(i:Nat)(x:Option Blk):Sub (Ab.upd h i x) (Ab.upd g i x):=fun k c hk=>by
 by_cases e:k=i
 ·grind [ah]
 ·rw[ag _ _ e]at hk⊢;exact hs k c hk
theorem Acc.put{U:TypeId→TI}{e:TypeId}{h h' :Heap}{y:AV}{xs:List AV}(ha:Acc U e h h' y xs){id:Nat}(hid:h id=Option.none){cs:List AV}{t:TypeId}(hob:h' id=some (.obj cs t))(x:Option Blk):Acc U e h (Ab.upd h' id x) y xs:=by
 obtain⟨h1,rfl|⟨k,i1,rfl,i2⟩⟩:=ha
 ·exact⟨h1.put hid x,.inl rfl⟩
 ·refine⟨h1.put hid x,.inr ⟨k,i1,rfl,?_⟩⟩
  grind [ag]
theorem base_start(G:Heap)(id:Nat)(x:Option Blk):Sub (upd G id Option.none) (upd G id x):=fun k c hk=>by
 grind [ah,ag]
theorem fj{G H:Heap}{id:Nat}{b:Blk}(hs:Sub (upd G id Option.none) H)(hb:H id=some b):Sub (upd G id (some b)) H:=fun k c hk=>by
 by_cases e:k=id
 ·grind [ah]
 ·rw[ag _ _ e]at hk;exact hs k c acZ
theorem Bs(xs:List AV)(q:Perm)(a b:AV):Weak (.tup [.sl xs q,a,b]) (.tup [.sl xs .no,a,b]):=.tup _ _ rfl fun i h1 h2=>by
 rcases i with _|_|_|i
 ·exact ae2
 ·exact adK
 ·exact adK
 grind
theorem WP.Ml{P:Program}{U:TypeId→TI}{n:Nat}(hU:∀t,aO P U t)(hm:P.follows .mixedOrders=true){c rest:Code}{ρ:Env}{h:Heap}{K:Exit→Env→Heap→Prop}(l:Nat)(J:Nat→Env→Heap→Prop)(hf:findLabel c l=some (.seq .skip rest))
  (pass:∀m ρ h,J m ρ h→WP P n rest ρ h (KJump l (fun ρ' h' =>∃m',m' <m∧J m' ρ' h') K))
  (first:(∀m ρ h,J m ρ h→WP P n rest ρ h (KJump l (fun ρ h=>∃m,J m ρ h) K))→WP P n c ρ h (KJump l (fun ρ h=>∃m,J m ρ h) K)):WP P n (.scope c) ρ h K:=
 WP.scope l J hf (first fun m ρ h hJ=>(pass m ρ h hJ).weaken fun e ρ h hk=>by
  cases e with
  |goto l' =>obtain⟨h1,m',_,h2⟩:=hk;exact⟨h1,m',h2⟩
  |_=>exact hk) fun m ρ h hJ=>WP.seq (dJ hU hm .skip ρ h _ (pass m ρ h hJ))
end Go.Ab
namespace Go.Ab
attribute [go_sem] Int.natCast_zero Int.ofNat_zero Int.natCast_one Int.cast_ofNat_Int bne_self_eq_false beq_self_eq_true Bool.not_true Bool.not_false
attribute [go_sem] Nat.reduceLT Nat.reduceEqDiff Nat.reduceAdd Nat.reduceLeDiff Nat.reduceMul Nat.reduceSub Int.reduceBEq Int.reduceBNe
attribute [go_sem ↓] reduceIte
end Go.Ab
namespace Go.Ab
open Go
inductive Av (F:Nat→Prop):AV→Prop where
 |v (x:Value):Av F (.v x)
 |s (l:List UInt8):Av F (.s l)
 |agg (xs:List AV) (h:∀x∈xs,Av F x):Av F (.agg xs)
 |tup (xs:List AV) (h:∀x∈xs,Av F x):Av F (.tup xs)
 |sl (xs:List AV) (p:Perm) (h:∀x∈xs,Av F x) (hp:∀id,p= .own id→¬F id):Av F (.sl xs p)
 |pe (x:AV) (o:Nat) (h:Av F x):Av F (.pe x o)
 |ptr (id o:Nat) (h:¬F id):Av F (.ptr id o)
 |oa (id o l:Nat) (h:¬F id):Av F (.oa id o l)
 |ob (id o l c z:Nat) (h:¬F id):Av F (.ob id o l c z)
 |ifc (t:TypeId) (x:AV) (h:Av F x):Av F (.ifc t x)
 |fn (f:FuncId) (xs:List AV) (h:∀x∈xs,Av F x):Av F (.fn f xs)
 |mp (id:Nat) (h:¬F id):Av F (.mp id)
theorem Av.cells{F:Nat→Prop}{x:AV}(h:Av F x):∀y∈x.cells,Av F y:=by
 cases h with
 |agg xs hx=>exact hx
 |_=>intro y hy;rw[List.mem_singleton.1 hy];constructor<;>assumption
theorem Av.DL{F:Nat→Prop}{x:AV}(h:∀y∈x.cells,Av F y):Av F x:=by
 cases x with
 |agg xs=>exact .agg xs h
 |_=>exact h _ (List.mem_singleton.2 rfl)
theorem Rep.av{c:Cx}{F:Nat→Prop}(hF:∀id,F id→c.h id=none){x:AV}{u:Value}(h:Rep c x u):Av F x:=by
 have nf:∀ {id:Nat} {k:Blk},c.h id=some k→¬F id:=fun hk hf=>acp
 induction h with
 |v x=>exact .v x
 |s l hl=>exact .s l
 |agg xs vs hn hr ho ih=>exact .agg xs fun x hx=>ad6
 |tup xs vs hn hr ih=>exact .tup xs fun x hx=>ad6
 |sl xs p a cap sz val hc hm h0 hs hz hf hr ho hp ih=>
  refine .sl xs p (fun x hx=>?_) fun id e=>?_
  ·obtain⟨i,hi,rfl⟩:=List.mem_iff_getElem.1 hx
   refine .DL fun y hy=>?_
   obtain⟨j,hj,rfl⟩:=List.mem_iff_getElem.1 hy
   grind
  ·subst e
   obtain⟨m,h1,_⟩:=hp
   grind
 |pe x off b o val hb hf hr ho ih=>
  refine .pe x off (.DL fun y hy=>?_)
  obtain⟨j,hj,rfl⟩:=List.mem_iff_getElem.1 hy
  grind
 |ptr id off cs t h=>exact .ptr _ _ (nf h)
 |oa id off len cap o cs t h hc hm ho=>exact .oa _ _ _ (nf h)
 |ob id off len cap sz o cs t h hc hm ho=>exact .ob _ _ _ _ _ (nf h)
 |ifc t x u h ih=>exact .ifc t x ih
 |fn f xs vs hn hr ih=>exact .fn f xs fun x hx=>ad6
 |mp id m h=>exact .mp _ (nf h)
noncomputable def Cx.back (c' :Cx) (g:Heap):Cx:={c' with h:=fun id=>if g id=none then none else c'.h id}
theorem uC{c' :Cx}{g:Heap}{id:Nat}{k:Blk}(h:(c'.back g).h id=some k):g id≠none∧c'.h id=some k:=by
 grind [Cx.back]
theorem kE{c' :Cx}{g:Heap}{id:Nat}(h:g id≠none):(c'.back g).h id=c'.h id:=by
 simp_all [Cx.back,if_false]
theorem xE{c' :Cx}{g:Heap}{b o:Nat}(h:owned (c'.back g) b o):owned c' b o:=by
 obtain⟨id,k,h1,h2,h3⟩:=h;exact⟨id,k,(uC h1).2,h2,h3⟩
theorem xD{c' :Cx}{g:Heap}{b o:Nat}{u:Value}(h:fix c' b o u):fix (c'.back g) b o u:=⟨h.1,fun ho=>h.2 (xE ho)⟩
theorem Rep.back{c' :Cx}{g:Heap}{x:AV}{u:Value}(h:Rep c' x u)(ha:Av (fun id=>g id=none) x):Rep (c'.back g) x u:=by
 induction h with
 |v x=>exact .v x
 |s l hl=>exact .s l hl
 |agg xs vs hn hr ho ih=>cases ha with|agg _ ha=>exact .agg xs vs hn acp ho
 |tup xs vs hn hr ih=>cases ha with|tup _ ha=>exact .tup xs vs hn acp
 |sl xs p a cap sz val hc hm h0 hs hz hf hr ho hp ih=>
  cases ha with
  |sl _ _ ha hq=>
   refine .sl xs p a cap sz val hc hm h0 hs hz (by grind [xD]) (fun i hi j hj=>ih i hi j hj ((ha _ (aci hi)).cells _ (aci hj))) ho ?_
   cases p with
   |no=>trivial
   |full=>exact hp
   |own id=>
    obtain⟨m,h1,h2,h3⟩:=hp;exact⟨m,by rw[kE (hq id rfl)];omega,h2,h3⟩
 |pe x off b o val hb hf hr ho ih=>
  cases ha with
  |pe _ _ ha=>exact .pe x off b o val hb (by grind [xD]) (fun j hj=>ih j hj (ha.cells _ (aci hj))) ho
 |ptr id off cs t h=>cases ha with|ptr _ _ ha=>exact .ptr id off cs t (by grind [kE])
 |oa id off len cap o cs t h hc hm ho=>cases ha with|oa _ _ _ ha=>exact .oa id off len cap o cs t (by grind [kE]) hc hm ho
 |ob id off len cap sz o cs t h hc hm ho=>cases ha with|ob _ _ _ _ _ ha=>exact .ob id off len cap sz o cs t (by grind [kE]) hc hm ho
 |ifc t x u h ih=>cases ha with|ifc _ _ ha=>exact .ifc t x u (ih ha)
 |fn f xs vs hn hr ih=>cases ha with|fn _ _ ha=>exact .fn f xs vs hn acp
 |mp id m h=>cases ha with|mp _ ha=>exact .mp id m (by grind [kE])
inductive Frz (g h:Heap):AV→AV→Prop where
 |keep (x:AV) (ha:Av (fun id=>g id=none) x):Frz g h x x
 |agg (xs ys:List AV) (hn:xs.length=ys.length) (hr:∀i (h1:i<xs.length) (h2:i<ys.length),Frz g h xs[i] ys[i]):Frz g h (.agg xs) (.agg ys)
 |tup (xs ys:List AV) (hn:xs.length=ys.length) (hr:∀i (h1:i<xs.length) (h2:i<ys.length),Frz g h xs[i] ys[i]):Frz g h (.tup xs) (.tup ys)
 |sl (xs ys:List AV) (p:Perm) (hn:xs.length=ys.length) (hz:∀i (h1:i<xs.length) (h2:i<ys.length),xs[i].cells.length=ys[i].cells.length)
   (hr:∀i (h1:i<xs.length) (h2:i<ys.length) j (h3:j<xs[i].cells.length) (h4:j<ys[i].cells.length),Frz g h xs[i].cells[j] ys[i].cells[j]):Frz g h (.sl xs p) (.sl ys .no)
 |ob (id off len cap sz:Nat) (cs:List AV) (t:TypeId) (ys:List AV) (hg:g id=none) (hh:h id=some (.obj cs t)) (hl:off+len*sz≤cs.length) (hn:ys.length=len) (hz:∀i (h1:i<ys.length),ys[i].cells.length=sz)
   (hr:∀i (h1:i<ys.length) j (h3:j<ys[i].cells.length) (h4:off+(i*sz+j)<cs.length),Frz g h (cs[off+(i*sz+j)]) ys[i].cells[j]):Frz g h (.ob id off len cap sz) (.sl ys .no)
 |ptr (id off:Nat) (cs:List AV) (t:TypeId) (ys:List AV) (hg:g id=none) (hh:h id=some (.obj cs t)) (hn:cs.length=ys.length) (hr:∀i (h1:i<cs.length) (h2:i<ys.length),Frz g h cs[i] ys[i]):Frz g h (.ptr id off) (.pe (.agg ys) off)
 |ifc (t:TypeId) (x y:AV) (hr:Frz g h x y):Frz g h (.ifc t x) (.ifc t y)
theorem Frz.rep{c' :Cx}{g h:Heap}(gd:Good c')(hh:Sub h c'.h){x y:AV}(hz:Frz g h x y):∀ {u:Value},Rep c' x u→Rep (c'.back g) y u:=by
 have nown:∀ {id:Nat} {k:Blk} {o:Nat},g id=none→h id=some k→¬owned (c'.back g) (c'.φ id).block o:=fun {id k o} h1 h2 ho=>by
  obtain⟨j,l,h3,h4,h5⟩:=ho;obtain⟨h6,h7⟩:=uC h3;exact gd.inj j id l k h7 (hh _ _ h2) (fun e=>h6 acp) h4
 induction hz with
 |keep x ha=>exact fun hr=>hr.back ha
 |agg xs ys hn hr ih=>
  intro u hu;obtain⟨vs,rfl,h1,h2,h3⟩:=hu.ot;exact .agg ys vs aco (fun i hi=>ih i aco hi (h2 i aco)) fun i hi=>h3 i aco
 |tup xs ys hn hr ih=>
  intro u hu;obtain⟨vs,rfl,h1,h2⟩:=hu.Cl;exact .tup ys vs aco (fun i hi=>ih i aco hi (h2 i aco))
 |sl xs ys p hn hz hr ih=>
  intro u hu;obtain⟨a,cap,sz,val,rfl,hs⟩:=hu.iq;rw[hn];have hcap:=hs.hc;refine .sl ys .no a cap sz val aco hs.hm hs.h0 hs.hs (fun i hi=>by rw[←hz i aco hi];exact hs.hz i aco) (fun q hq i j hi hj=>xD (hs.hf q hq i j aco hj)) (fun i hi j hj=>?_) (fun i j hi hj=>hs.ho i j aco hj) trivial
  exact ih i aco hi j acp hj (hs.hr i aco j acp)
 |ob id off len cap sz cs t ys hg hid hl hn hz hr ih=>
  intro u hu;obtain⟨o,rfl,h1,h2,cs',t',h3,h4⟩:=hu.jk;have hcid:=hh _ _ hid;obtain⟨vs,v1,v2,v3⟩:=gd.obj id cs t hcid;subst hn;have hbd:∀i j,i<ys.length→j<sz→i*sz+j<ys.length*sz:=fun i j hi hj=>by
   have:(i+1)*sz≤ys.length*sz:=Nat.mul_le_mul_right _ aco;rw[Nat.add_mul,Nat.one_mul]at this;omega
  refine .sl ys .no _ cap sz (fun i j=>vs.getD (off+(i*sz+j)) undef) h1 h2 (fun e=>acR) (fun q hq _=>?_) hz (fun q hq i j hi hj=>?_) (fun i hi j hj=>?_) (fun i j hi hj=>(v3 _ acp).2) trivial
  ·cases hq
   exact⟨rfl,gd.lt hcid⟩
  ·cases hq
   obtain⟨rfl,_⟩:=h4 aco;have hb:=hbd i j hi hj;refine⟨?_,nown hg hid⟩;have:o+(i*sz+j)<vs.size:=aco;simp[World.cell?,Cx.back,v1,this]
  ·have hj' :j<sz:=by grind
   have hb:=hbd i j hi hj';exact ih i hi j hj aco (v3 _ aco).1
 |ptr id off cs t ys hg hid hn hr ih=>
  intro u hu;obtain⟨rfl,_⟩:=hu.kM;have hcid:=hh _ _ hid;obtain⟨vs,v1,v2,v3⟩:=gd.obj id cs t hcid;have:=Rep.pe (c:=c'.back g) (.agg ys) off (c'.φ id).block 0 (fun j=>vs.getD j undef) (gd.lt hcid) (fun j hj=>by
    have hj' :j<ys.length:=hj;refine⟨?_,nown hg hid⟩
    simp_all [World.cell?,Cx.back]) (fun j hj=>by
    have hj' :j<ys.length:=hj;exact ih j aco hj' (v3 j aco).1) (fun j hj=>by
    have hj' :j<ys.length:=hj;exact(v3 j aco).2)
  rw[Nat.zero_add]at this;exact ac8
 |ifc t x y hr ih=>
  intro u hu;cases hu with
  |ifc _ _ u' h=>exact .ifc t y _ (ih h)
theorem ai.freeze{P:Program}{f:FuncId}{args:List AV}{h:Heap}{Q:AV→Prop}
  (hf:∀g,Sub h g→(∀x∈args,Av (fun id=>g id=none) x)→ai P f args g fun r h' =>Sub g h'∧∃y,Frz g h' r y∧Q y):ai P f args h fun r h' =>Q r∧h' =h:=by
 intro c vs hs gd h1 h2;have hav:∀x∈args,Av (fun id=>c.h id=none) x:=fun x hx=>by
  obtain⟨i,hi,rfl⟩:=List.mem_iff_getElem.1 hx;exact(h2 i hi).av fun _ e=>e
 refine(hf c.h hs hav c vs (.refl _) gd h1 h2).mono ?_
 rintro u w' ⟨c',x,h',rfl,gd',hE,hr,hsub,hgh,y,hz,hq⟩
 have hkeep:∀id k,c.h id=some k→c'.h id=some k:=fun id k hk=>hsub _ _ (hgh _ _ hk)
 have hE2:Ext c (c'.back c.h):={
  os:=hE.os,tape:=hE.tape,output:=hE.output,size:=hE.size,block:=hE.block,cell:=hE.cell,shape:=hE.shape
  steal:=fun b o hb ho=>hE.steal b o hb (xE ho)
  obj:=fun id cs t hi=>by rw[kE acp];exact hE.obj id cs t hi
  spare:=fun id n sz hi=>by rw[kE acp];exact hE.spare id n sz hi
  mp:=fun id m hi=>by rw[kE acp];exact hE.mp id m hi
  ro:=fun id b vs hi=>by rw[kE acp];exact hE.ro id b vs hi}
 have hold:∀id k,(c'.back c.h).h id=some k→c.h id=some k∧c'.h id=some k:=fun id k hk=>by
  obtain⟨a1,a2⟩:=uC hk;cases hc:c.h id with
  |none=>grind
  |some k' =>grind
 refine⟨c'.back c.h,y,h,rfl,?_,hE2,hz.rep gd' hsub hr,fun id k hk=>?_,hq,rfl⟩
 ·refine⟨?_,fun i j k l hi hj hne=>gd'.inj i j k l (hold i k hi).2 (hold j l hj).2 hne,fun id cs t hi=>?_,fun id n sz hi=>gd'.spare id n sz (hold id _ hi).2,fun id m hi=>?_,fun id m hi=>gd'.keys id m (hold id _ hi).2,fun id b vs hi=>gd'.ro id b vs (hold id _ hi).2⟩
  ·obtain⟨N,hN⟩:=gd'.fin
   exact⟨N,fun id hid=>by grind [Cx.back]⟩
  ·obtain⟨vs,v1,v2,v3⟩:=gd'.obj id cs t (hold id _ hi).2
   obtain⟨vs0,w1,w2,w3⟩:=gd.obj id cs t (hold id _ hi).1;exact⟨vs,v1,v2,fun j hj=>⟨(v3 j hj).1.back ((w3 j hj).1.av fun _ e=>e),(v3 j hj).2⟩⟩
  ·obtain⟨es,cl,v1,v2,v3⟩:=gd'.mp id m (hold id _ hi).2
   obtain⟨es0,cl0,w1,w2,w3⟩:=gd.mp id m (hold id _ hi).1;exact⟨es,cl,v1,v2,fun i hi' hi2=>⟨(v3 i hi' hi2).1,(v3 i hi' hi2).2.back ((w3 i hi' aco).2.av fun _ e=>e)⟩⟩
 ·rw[kE (by rw[hs _ _ hk];simp)]
  exact hkeep id k (hs _ _ hk)
section
variable {P : Program} {U : TypeId → TI} {ρ : Env} {h h' : Heap} {sz : Nat} {y : AV} {xs : List AV} {e : TypeId}
def Rd(h:Heap)(sz:Nat)(y:AV)(xs:List AV):Prop:=
 Sized sz xs∧((∃q,y= .sl xs q)∨∃id off cap cs t,y= .ob id off xs.length cap sz∧h id=some (.obj cs t)∧off+xs.length*sz≤cs.length∧(cs.drop off).take (xs.length*sz)=aq xs)
theorem Rd.sl(hs:Sized sz xs)(q:Perm):Rd h sz (.sl xs q) xs:=⟨hs,.inl ⟨q,rfl⟩⟩
theorem Rd.sub(hb:Rd h sz y xs)(hs:Sub h h'):Rd h' sz y xs:=by
 obtain⟨h1,hb|⟨id,off,cap,cs,t,rfl,h2,h3⟩⟩:=hb
 ·exact⟨h1,.inl hb⟩
 ·exact⟨h1,.inr ⟨id,off,cap,cs,t,rfl,hs _ _ h2,h3⟩⟩
theorem Rd.len(hb:Rd h sz y xs)(e:TypeId)(k:AV→Prop):wP y k (.slice e)=k (.i xs.length):=by
 exact ahB
theorem Rd.cells(hb:Rd h sz y xs):y.cells= [y]:=by
 exact ahB
theorem Rd.fit(hb:Rd h sz y xs)(m:Nat):fit y m=(m=1):=by
 exact ahB
theorem Rd.src(hb:Rd h sz y xs)(hz:(U e).sz=sz){f:List AV→Prop}(hf:f xs):iu U e h y f:=by
 obtain⟨_,⟨q,rfl⟩|⟨id,off,cap,cs,t,rfl,h2,h3,h4⟩⟩:=hb
 ·exact hf
 ·rw[Ot,h2]
  exact⟨hz.symm,xs,rfl,h3,h4.symm,hf⟩
def At(h:Heap)(p x:AV)(o:Nat):Prop:=p= .pe x o∨∃id a cs t,p= .ptr id (a+o)∧h id=some (.obj cs t)∧a+x.cells.length≤cs.length∧(cs.drop a).take x.cells.length=x.cells
theorem At.sub{p x:AV}{o:Nat}(ha:At h p x o)(hs:Sub h h'):At h' p x o:=by
 rcases ha with rfl|⟨id,a,cs,t,rfl,h2,h3⟩
 ·exact .inl rfl
 ·exact .inr ⟨id,a,cs,t,rfl,hs _ _ h2,h3⟩
theorem FX{cs:List AV}{x:AV}{a o:Nat}{i:TI}{k:AV→Prop}(h1:a+x.cells.length≤cs.length)(h2:(cs.drop a).take x.cells.length=x.cells)(h3:i.sz≠0)(h4:o+i.sz≤x.cells.length):ij cs (a+o) i k=ij x.cells o i k:=by
 unfold ij;split
 ·have e:(cs.drop (a+o)).take i.sz=(x.cells.drop o).take i.sz:=by
   grind [List.drop_take,List.drop_drop,Nat.min_eq_left]
  apply propext
  grind
 grind
theorem At.part{p x:AV}{o:Nat}(ha:At h p x o){ty:TypeId}(hz:(U ty).sz≠0)(hl:o+(U ty).sz≤x.cells.length)(k:AV→Prop):mY U h ty p k=ij x.cells o (U ty) k:=by
 rcases ha with rfl|⟨id,a,cs,t,rfl,h2,h3,h4⟩
 ·rw[Ly]
  unfold atA;split
  ·rename_i hc
   obtain⟨rfl,hc2,hc3⟩:=hc;unfold ij;split
   ·rename_i hag
    rw[hag]at hc3;have:x= .agg x.cells:=by cases x<;>first|rfl|cases hc3
    rw[List.drop_zero,←hc2,List.take_length,Nat.zero_add,←this];simp
   simp_all [bA,false,nQ]
  ·rfl
 ·rw[Jb,h2]
  exact FX h3 h4 hz hl
theorem At.all{p x:AV}(ha:At h p x 0){ty:TypeId}(hz:(U ty).sz≠0)(hl:x.cells.length=(U ty).sz)(hg:bA x=(U ty).k.agg)(k:AV→Prop):mY U h ty p k=k x:=by
 rw[ha.part hz aco];unfold ij;split
 ·rename_i hag
  rw[hag]at hg;have:x= .agg x.cells:=by cases x<;>first|rfl|cases hg
  rw[List.drop_zero,←hl,List.take_length,Nat.zero_add,←this];simp
 simp_all [bA,false,nQ]
theorem At.field{p x:AV}{o:Nat}(ha:At h p x o){f off:Nat}{t:TypeId}{fs:List (Nat×TypeId)}{K:AV→Prop}(hf:fs[f]? =some (off,t))(hz:(U t).sz≠0)(hk:∀p',At h p' x (o+off)→K p'):xY U f p K (.strct fs):=by
 rcases ha with rfl|⟨id,a,cs,t',rfl,h2,h3,h4⟩
 ·rw[Iw,hf]
  exact⟨hz,hk _ (.inl rfl)⟩
 ·rw[Fh,hf]
  exact⟨hz,hk _ (.inr ⟨id,a,cs,t',acp,h2,h3,h4⟩)⟩
theorem Rd.idx(hb:Rd h sz y xs){m:Int}{x:IntKind}{K:AV→Prop}(j:Nat)(hm:m=j)(hj:j<xs.length)(hz:(U e).sz=sz)(h0:sz≠0)(hk:∀p,At h p xs[j] 0→K p):oO U y (.v (.int x m)) K (.slice e):=by
 subst hm;have hc:=hb.1 xs[j] (aci hj);obtain⟨hs,⟨q,rfl⟩|⟨id,off,cap,cs,t,rfl,h2,h3,h4⟩⟩:=hb
 ·refine(uS ..).mpr ⟨aco,?_⟩
  exact fc.at j hj aco (hk _ (.inl rfl))
 ·refine(AK ..).mpr ⟨aco,hz.symm,aco,aco,hk _ (.inr ⟨id,off+j*sz,cs,t,acw,h2,?_,?_⟩)⟩
  ·have:(j+1)*sz≤xs.length*sz:=Nat.mul_le_mul_right _ aco
   rw[Nat.add_mul,Nat.one_mul]at this;rw[hc];omega
  ·have e1:=oF hs j hj
   rw[←h4,List.drop_take,List.take_take,List.drop_drop]at e1;rw[hc];have:(j+1)*sz≤xs.length*sz:=acp;rw[Nat.add_mul,Nat.one_mul]at this;rw[Nat.min_eq_left aco]at e1;exact e1
def Ow(tb:TypeId)(h:Heap)(sz id:Nat)(y:AV)(xs:List AV):Prop:=
 ∃cap rest,y= .ob id 0 xs.length cap sz∧h id=some (.obj (aq xs++rest) tb)∧rest.length=(cap - xs.length)*sz∧xs.length≤cap∧Sized sz xs
variable {tb : TypeId} {id : Nat}
theorem Ow.rd(hw:Ow tb h sz id y xs):Rd h sz y xs:=by
 obtain⟨cap,rest,rfl,h1,h2,h3,h4⟩:=hw;have hl:=bf h4;exact⟨h4,.inr ⟨id,0,cap,_,tb,rfl,h1,acp,acp⟩⟩
theorem Ow.sub(hw:Ow tb h sz id y xs)(hs:Sub h h'):Ow tb h' sz id y xs:=by
 obtain⟨cap,rest,e1,h1,h2⟩:=hw;exact⟨cap,rest,e1,hs _ _ h1,h2⟩
theorem Ow.same(hw:Ow tb h sz id y xs)(hs:h' id=h id):Ow tb h' sz id y xs:=by
 obtain⟨cap,rest,e1,h1,h2⟩:=hw;exact⟨cap,rest,e1,hs.trans h1,h2⟩
theorem Ow.none(hw:Ow tb h sz id y xs):h id≠Option.none:=by
 obtain⟨cap,rest,e1,h1,h2⟩:=hw
 grind
theorem Ow.make{cs:List AV}{cap:Nat}{rest:List AV}(hs:Sized sz xs)(hcs:cs=aq xs){n:Nat}(hn:n=xs.length)(hc:n≤cap)(hr:rest.length=(cap - n)*sz):Ow tb (upd h id (some (.obj (cs++rest) tb))) sz id (.ob id 0 n cap sz) xs:=by
 subst hcs;subst hn
 exact⟨cap,rest,rfl,ah ..,hr,hc,hs⟩
theorem j0.ow{cs:List AV}{n:Nat}{Q:AV→Heap→Prop}(hs:Sized sz xs)(hcs:cs=aq xs)(hn:n=xs.length)(hk:∀id y h',h id=Option.none→Ow tb h' sz id y xs→(∀j,j≠id→h' j=h j)→Q y h'):j0 h cs n sz tb Q:=
 fun id cap rest hid hc hr=>hk id _ _ hid (Ow.make hs hcs hn hc hr) fun j hj=>ag _ _ hj
theorem Jm{us vs:List AV}{o:Nat}{c:List AV}:over (us++vs) (us.length+o) c=us++over vs o c:=by
 simp[Ab.over,Nat.add_assoc,List.take_length_add_append,List.drop_length_add_append,List.append_assoc]
theorem IG{xs:List AV}(hs:Sized sz xs)(j:Nat)(hj:j<xs.length)(x:AV)(hx:x.cells.length=sz):aq (xs.set j x)=over (aq xs) (j*sz) x.cells:=by
 induction xs generalizing j with
 |nil=>grind
 |cons a r ih=>
  have h1:=hs a acw;have h2:Sized sz r:=fun z hz=>hs z acp
  cases j with
  |zero=>
   simp only[List.set_cons_zero,j9,Ab.over,Nat.zero_mul,List.take_zero,List.nil_append,Nat.zero_add];rw[hx,←h1,List.drop_left]
  |succ j=>
   have hj' :j<r.length:=acp;have e1:(j+1)*sz=a.cells.length+j*sz:=acp;rw[List.set_cons_succ,j9,j9,ih h2 j hj',e1,Jm]
theorem IF{xs:List AV}(hs:Sized sz xs)(j:Nat)(hj:j<xs.length)(o:Nat)(c:List AV)(ho:o+c.length≤sz):over (aq xs) (j*sz+o) c=aq (xs.set j (.agg (over xs[j].cells o c))):=by
 have hc:=hs xs[j] (aci hj);have hl:(over xs[j].cells o c).length=sz:=by grind [ig]
 rw[IG hs j hj (.agg (over xs[j].cells o c)) hl];have hp:=oF hs j hj;have e1:(aq xs).take (j*sz+o)=(aq xs).take (j*sz)++xs[j].cells.take o:=by
  rw[←hp,List.take_take,Nat.min_eq_left aco,List.take_add]
 have e2:(aq xs).drop (j*sz+o+c.length)=xs[j].cells.drop (o+c.length)++(aq xs).drop (j*sz+sz):=by
  have e3:(aq xs).drop (j*sz)=xs[j].cells++(aq xs).drop (j*sz+sz):=by
   grind [List.drop_drop,List.take_append_drop]
  rw[Nat.add_assoc,←List.drop_drop,e3,List.drop_append_of_le_length aco]
 show over (aq xs) (j*sz+o) c=over (aq xs) (j*sz) (over xs[j].cells o c)
 grind [over,Ab.over,List.append_assoc]
theorem LS{us vs:List AV}{o:Nat}{c:List AV}(h1:o+c.length≤us.length):over (us++vs) o c=over us o c++vs:=by
 grind [Ab.over,List.append_assoc]
theorem Ow.idx(hw:Ow tb h sz id y xs){m:Int}{x:IntKind}{K:AV→Prop}(j:Nat)(hm:m=j)(hj:j<xs.length)(hz:(U e).sz=sz)(h0:sz≠0)(hk:K (.ptr id (j*sz))):oO U y (.v (.int x m)) K (.slice e):=by
 obtain⟨cap,rest,rfl,h1,h2,h3,h4⟩:=hw
 simp_all [AK,Nat.zero_add,Int.toNat_natCast]
def OwE(tb:TypeId)(h0 h:Heap)(sz:Nat)(y:AV)(xs:List AV):Prop:=(xs= []∧y= .sl [] .full)∨∃id,h0 id=Option.none∧Ow tb h sz id y xs
variable {h0 : Heap}
theorem OwE.rd(hw:OwE tb h0 h sz y xs):Rd h sz y xs:=by
 rcases hw with⟨rfl,rfl⟩|⟨id,_,hw⟩
 ·exact .sl (fun z hz=>acp) _
 ·exact hw.rd
theorem OwE.sub(hw:OwE tb h0 h sz y xs)(hs:Sub h h'):OwE tb h0 h' sz y xs:=by
 rcases hw with hw|⟨id,h1,hw⟩
 ·exact agl
 ·exact .inr ⟨id,h1,hw.sub hs⟩
theorem OwE.ow(hw:OwE tb h0 h sz y xs)(hn:xs≠ []):∃id,h0 id=Option.none∧Ow tb h sz id y xs:=by
 rcases hw with hw|hw
 ·grind
 omega
theorem OwE.app{v:AV}{zs:List AV}{Q:AV→Heap→Prop}(hw:OwE tb h0 h sz y xs)(hs0:Sub h0 h)(hb:Rd h sz v zs)(hz:(U tb).sz=sz)(h1:sz≠0)(hby:(U tb).bytes≠0)(hf:Ab.fit (U tb).zero sz)(hne:zs≠ [])(hlen:(xs.length+zs.length)*(U tb).bytes≤140737488355328)
  (hk:∀id y' h',h0 id=Option.none→(h id=Option.none∨∃l c,y= .ob id 0 l c sz)→Ow tb h' sz id y' (xs++zs)→(∀j,j≠id→h' j=h j)→Q y' h'):apK U h y v Q (.slice tb):=by
 subst hz;rcases hw with⟨rfl,rfl⟩|⟨id,h2,cap,rest,rfl,h3,h4,h5,h6⟩
 ·refine(pZ ..).mpr ⟨h1,hby,hb.src rfl ⟨by simp[Sized],hb.1,aco,fun hn=>(hne hn).elim,fun _=>?_⟩⟩
  refine .ob hf (j0.ow (by simpa using hb.1) acF acw fun id y' h' hid hw ho=>?_)
  exact hk id _ _ (hs0.none hid) (.inl hid) acp ho
 ·have hl:=bf h6
  refine⟨h1,hby,rfl,hb.src rfl ⟨hb.1,hlen,?_⟩⟩;rw[h3];have hsz:Sized (U tb).sz (xs++zs):=fun z hz=>(List.mem_append.1 hz).elim (h6 z) (hb.1 z)
  refine⟨acp,hf,fun hle=>?_,fun hgt=>?_⟩
  ·have hlz:=bf hb.1
   have hmul:(cap - xs.length)*(U tb).sz=zs.length*(U tb).sz+(cap - (xs.length+zs.length))*(U tb).sz:=by rw[←Nat.add_mul];grind
   refine hk id _ _ h2 (.inr ⟨_,_,rfl⟩) ⟨cap,rest.drop (zs.length*(U tb).sz),acw,?_,?_,acp,hsz⟩ fun j hj=>ag _ _ hj
   ·simp_all [ah,l8,Nat.zero_add,Ab.over,List.take_left,List.drop_append,List.drop_of_length_le]
   grind
  ·refine j0.ow hsz ?_ acw fun id' y' h' hid hw ho=>?_
   ·grind [l8,List.take_left]
   ·exact hk id' _ _ (hs0.none hid) (.inl hid) hw ho
theorem wo {f : FuncId} {fn : Func} {tS tR : TypeId} (hU : ∀ t, aO P U t) (hfn : P.funcs[f]? = some fn) (hname : (fn.name == "runtime.NumGoroutine") = false) (hb : fn.body.isNone = true) (hn : Extern.findNext fn = Option.none)
  (he:Extern.find fn=some (Extern.SlicesOverlaps.overlaps #[tS,tS] #[tR])) (hty:(U tS).k= .slice e) (hz:(U e).sz≠0) {q:Perm} (hx:Sized (U e).sz xs) (hne:xs≠ []) {id off len cap sz:Nat} {cs:List AV} {t:TypeId} (hid:h id=some (.obj cs t)) (hcs:cs≠ []):
  ai P f [.sl xs q,.ob id off len cap sz] h fun r h' =>r= .b false∧h' =h:=by
 intro c vs hs g h1 h2;obtain⟨a,cap0,sz0,val,hu,sl⟩:=(h2 0 acw).iq;obtain⟨o,hv,_⟩:=(h2 1 acw).jk;have hd:=(hU tS).desc;rw[hty]at hd;have hpos:0<xs.length:=List.length_pos_iff.2 hne;have hcap:=sl.hc;obtain⟨qa,rfl⟩:∃qa,a=some qa:=by
  cases a with
  |none=>have:=sl.h0 rfl;omega
  |some qa=>simp
 have hs0:sz0=(U e).sz:=by rw[←sl.hz 0 hpos];exact hx _ (aci hpos)
 have hf:=sl.hf qa rfl 0 0 hpos aco;have hq:=(sl.hs qa rfl aco).1;have hcid:=hs _ _ hid;obtain⟨us,u1,u2,u3⟩:=g.obj id cs t hcid;have hnb:qa.block≠(c.φ id).block:=fun hh=>hf.2 ⟨id,_,hcid,hh.symm,Nat.zero_le _⟩
 obtain⟨ws,tw,fr,hws,hwlt⟩:∃ws tw fr,c.w.heap[qa.block]? =some (.cells ws tw fr)∧0<ws.size:=by
  have:=hf.1;simp only[World.cell?]at this;split at this
  ·rename_i ws tw fr hh
   refine⟨ws,tw,fr,hh,?_⟩
   grind
  all_goals cases this
 have hvs:vs= #[.slice (some qa) xs.length cap0,.slice (some ⟨(c.φ id).block,o,Option.none⟩) len cap]:=by
  apply Array.ext
  ·omega
  ·intro i hi hi2
   have hi3:i<2:=aco;rcases i with _|_|i
   ·simpa[Array.getD,hi]using hu
   ·simpa[Array.getD,hi]using hv
   ·omega
 subst hvs;refine .inr ⟨.bool false,c.w,?_,c,_,h,rfl,g,.refl c,.v _,hs,rfl,rfl⟩;rw[Go.run_callFunc_extern hfn hname hb hn he];have key:(Extern.SlicesOverlaps.overlaps #[tS,tS] #[tR] #[.slice (some qa) xs.length cap0,.slice (some ⟨(c.φ id).block,o,Option.none⟩) len cap]).run P c.w= .ok (.bool false) c.w:=by
  have hnb1:(qa.block !=(c.φ id).block)=true:=acp;have hnb2:(qa.block==(c.φ id).block)=false:=acp;have hws2:∃m,ws.size=m+1:=⟨ws.size - 1,aco⟩;obtain⟨m,hm⟩:=hws2
  change Sem.run P (α:=Value) (do
   let some t := (#[tS, tS] : Array TypeId)[0]? | stuck "slices.overlaps: no parameter types"
   let .slice elem ← underlying t | stuck "slices.overlaps: slice type expected"
   let size←sizeOf elem
   match (some qa:Option Addr),(some ⟨(c.φ id).block,o,Option.none⟩:Option Addr)with
   |some a,some b=>
    if xs.length=0∨len=0∨size=0 then pure (Value.bool false)
    else if a.block !=b.block && (←frozen a) && (←frozen b)then unsupported .addressObserved
    else do
     if a.block !=b.block then do
      noView a;noView b
      if ← mayBeOne a b then return Value.bool ((← choose (.extern "sameAddr.stringBytes" 2)) == 1)
     pure (Value.bool (a.block==b.block && a.off<b.off+len*size && b.off<a.off+xs.length*size))
   |_,_=>pure (Value.bool false)) c.w=_
  have hfb:∀x,c.w.frozen? ⟨(c.φ id).block,x,Option.none⟩=false:=fun x=>by grind [World.frozen?]
  have hsb:c.w.shape? (c.φ id).block=some (t,us.size):=by grind [World.shape?]
  have hsa:c.w.shape? qa.block=some (tw,m+1):=by grind [World.shape?]
  by_cases hl:len=0
  ·simp[run_underlying hd,bE hU hz,hl]
  ·have hus:us.size≠0:=by grind
   obtain⟨n,hn'⟩:∃n,us.size=n+1:=⟨us.size - 1,aco⟩;rw[hn']at hsb;cases hfa:c.w.frozen? qa<;>cases hfa2:c.w.frozen? {block:=qa.block,off:=m+1}<;>
    simp[run_underlying hd,bE hU hz,hl,hne,hz,hnb1,hnb2,frozen,noView,viewAt,mayBeOne,stringish,shape,Sem.run,hsa,hsb,hfb,hfa,hfa2]
 rw[key];rfl
end
end Go.Ab
namespace Go.Bf
open Go Go.Ab
structure OpD where
 kind:Int
 subj:Txt
 case:Txt
 field:Txt
 to:Txt
 val:bD
 review:Int
 text:Txt
 reason:Txt
 glass:Bool
structure uy where
 tick:Int
 actor:Txt
 what:Txt
structure cM where
 name:Txt
 val:bD
structure aJ where
 id:Txt
 owner:Txt
 state:Txt
 fields:List cM
 log:List uy
structure oo where
 id:Int
 tick:Int
 subj:Txt
 case:Txt
 action:Txt
 reason:Txt
 isOpen:Bool
structure Cu where
 tick:Int
 case:Txt
 arg:Txt
structure gj where
 subj:Txt
 role:Txt
structure an where
 tick:Int
 cases:List aJ
 reviews:List oo
 notices:List Cu
 roles:List gj
 policy:bB
 version:Int
structure bp where
 cat:Int
 name:Txt
 bag:List bD
def opC(o:OpD):List AV:=[.i o.kind,.s o.subj,.s o.case,.s o.field,.s o.to,.i o.val.kind,.i o.val.n,.s o.val.s,.i o.review,.s o.text,.s o.reason,.b o.glass]
def opA(o:OpD):AV:=.agg (opC o)
def fU(x:uy):AV:=.agg [.i x.tick,.s x.actor,.s x.what]
def bz(f:cM):AV:=.agg [.s f.name,.i f.val.kind,.i f.val.n,.s f.val.s]
def gu(l:List cM):AV:=.sl (l.map bz) .no
def sB(l:List uy):AV:=.sl (l.map fU) .no
def mT(c:aJ):List AV:=[.s c.id,.s c.owner,.s c.state,gu c.fields,sB c.log]
def cr(c:aJ):AV:=.agg (mT c)
def fk(l:List aJ):AV:=.sl (l.map cr) .no
def fY(r:oo):AV:=.agg [.i r.id,.i r.tick,.s r.subj,.s r.case,.s r.action,.s r.reason,.b r.isOpen]
def ja(l:List oo):AV:=.sl (l.map fY) .no
def jO(n:Cu):AV:=.agg [.i n.tick,.s n.case,.s n.arg]
def jw(l:List Cu):AV:=.sl (l.map jO) .no
def cY(r:gj):AV:=.agg [.s r.subj,.s r.role]
def dI(l:List gj):AV:=.sl (l.map cY) .no
def fV:bB→List AV
 |.mk id set alg tgt rules kids obls=>[.s id,.b set,.i alg,aS tgt,.sl (rules.map aA) .no,.sl (cy kids) .no,ay obls]
theorem Oc(p:bB):aK p= .agg (fV p):=by cases p;rfl
def cg(s:an):AV:=.agg ([.i s.tick,fk s.cases,ja s.reviews,jw s.notices,dI s.roles]++fV s.policy++ [.i s.version])
def kX(g:bp):AV:=.agg [.i g.cat,.s g.name,.sl (g.bag.map aU) .no]
def bJ(l:List bp):AV:=.sl (l.map kX) .no
def geB(a b:Txt):Bool:= !(Op.bytesLess a b)
def findD(cs:List aJ)(id:Txt):Nat:=cs.findIdx fun c=>geB c.id id
def bZ(cs:List aJ)(id:Txt):Bool:=match cs[findD cs id]? with
 |some c=>c.id==id
 |none=>false
def ax:bD:=⟨0,0,[]⟩
def oh:aJ:=⟨[],[],[],[],[]⟩
def bw(cs:List aJ)(id:Txt):aJ:=if bZ cs id then cs.getD (findD cs id) oh else oh
def eC(fs:List cM)(name:Txt):bD:=match fs.find? fun f=>f.name==name with
 |some f=>f.val
 |none=>ax
def uG(a b:gj):Bool:=a.subj==b.subj && a.role==b.role
def yh(l:List gj)(r:gj):Bool:=l.any (uG r)
def jy:Txt:=[111,112,101,110]
def wJ:Txt:=[119,111,114,107]
def Az:Txt:=[100,111,110,101]
def gR:Txt:=[99,108,111,115,101,100]
def mz(a b:Txt):Bool:=
 if a==jy then b==wJ else if a==wJ then b==Az else if a==Az then b==wJ||b==gR else false
def Te:List Txt:=[[110,101,119],[114,101,97,100],[119,114,105,116,101],[109,111,118,101],[99,108,111,115,101],[114,111,108,101],[112,111,108,105,99,121]]
def jF(k:Int):Txt:=if k<1∨k>7 then [116,105,99,107]else Te.getD (k - 1).toNat []
def ve(k:Int):Bool:=decide (1≤k) && decide (k≤4)
def iP(s:Txt):Bool:=s== []||bt s
def lV(o:OpD):Bool:=if o.glass then ve o.kind && (!(o.reason== [])) && decide (o.reason.length≤64)else o.reason== []
def iL(o:OpD):OpD:=
 let z:OpD:=⟨o.kind,[],[],[],[],ax,0,[],[],false⟩
 if o.kind=1 then {z with case:=o.case}
 else if o.kind=2∨o.kind=6 then {z with case:=o.case,field:=o.field}
 else if o.kind=3 then {z with case:=o.case,field:=o.field,val:=o.val}
 else if o.kind=4 then {z with case:=o.case,to:=o.to}
 else if o.kind=5∨o.kind=8 then {z with review:=o.review}
 else {z with text:=o.text}
def eqV(a b:bD):Bool:=a.kind==b.kind && (a.n==b.n && a.s==b.s)
def mL(a b:OpD):Bool:=a.kind==b.kind && (a.subj==b.subj && (a.case==b.case && (a.field==b.field && (a.to==b.to && (a.val.kind==b.val.kind && (a.val.n==b.val.n && (a.val.s==b.val.s && (a.review==b.review && (a.text==b.text && (a.reason==b.reason && a.glass==b.glass))))))))))
def okD(o:OpD):Bool:=
 if o.kind=1 then !(o.case== [])
 else if o.kind=2∨o.kind=6 then !(o.case== []) && !(o.field== [])
 else if o.kind=3 then !(o.case== []) && !(o.field== []) && !(eqV o.val ax)
 else if o.kind=4 then !(o.case== []) && !(o.to== [])
 else if o.kind=5 then decide (0<o.review)
 else if o.kind=8 then decide (0<o.review) && decide (o.review≤1099511627776)
 else true
def gN(o:OpD):OpD:={o with subj:=[],reason:=[],glass:=false}
def dK(o:OpD):Bool:=decide (1≤o.kind) && decide (o.kind≤8) && okD o && mL (gN o) (iL o)
def eU(o:OpD):Bool:=bt o.subj && lV o && decide (o.text.length≤4096) && iP o.case && iP o.field && iP o.to && (eqV o.val ax||bL o.val) && dK o
def bY(s:an)(o:OpD):Int:=
 let c:=bw s.cases o.case
 if bZ s.cases o.case=false then 10
 else if o.kind=3∧c.fields.length≥16∧eqV (eC c.fields o.field) ax=true then 6
 else if o.kind≠2∧c.log.length≥256 then 6
 else if o.kind=3∧c.state=gR∨o.kind=4∧mz c.state o.to=false then 13
 else 0
def wA(l:List oo)(n:Int):Option oo:=if 1≤n then l[(n - 1).toNat]? else none
def fM(s:an)(o:OpD):Int:=match wA s.reviews o.review with
 |none=>10
 |some r=>if r.isOpen=false then 10 else if r.subj=o.subj then 12 else 0
def bO(s:an)(o:OpD):Int:=
 if eU o=false then 1
 else if o.kind=1 then(if bZ s.cases o.case then 11 else if s.cases.length≥64 then 6 else 0)
 else if 2≤o.kind∧o.kind≤4 then bY s o
 else if o.kind=5 then fM s o
 else if o.kind=6 then(if s.roles.length≥64∧yh s.roles ⟨o.case,o.field⟩=false then 6 else 0)
 else if o.kind=8 then(if s.tick>1099511627776 - o.review then 6 else 0)
 else 0
def idV(s:Txt):bD:=⟨5,0,s⟩
def uq(l:List uy)(subj:Txt):bD:=⟨1,if l.any (fun x=>x.actor==subj)then 1 else 0,[]⟩
def idT:Txt:=[105,100]
def cH(c:aJ)(subj:Txt):List bp:=
 [⟨3,idT,[idV c.id]⟩,⟨3,[111,119,110,101,114],[idV c.owner]⟩,⟨3,[115,116,97,116,101],[idV c.state]⟩,⟨3,[101,118,101,110,116,115],[⟨2,c.log.length,[]⟩]⟩,⟨3,[116,111,111,107],[uq c.log subj]⟩]++
 (match c.log.getLast? with
  |some x=>[⟨3,[108,97,115,116],[idV x.actor]⟩]
  |none=>[])++
 (c.fields.filter fun f=>decide (f.name.length≤14)).map fun f=>⟨3,[102,95]++f.name,[f.val]⟩
def dj(l:List gj)(subj:Txt):List bD:=((l.filter fun r=>r.subj==subj).map fun r=>idV r.role).take 16
def fA(s:an)(o:OpD):List bp:=
 [⟨1,idT,[idV o.subj]⟩,⟨1,[114,111,108,101],dj s.roles o.subj⟩,⟨2,[110,97,109,101],[idV (jF o.kind)]⟩]++
 (if o.field= []then []else [⟨2,[102,105,101,108,100],[idV o.field]⟩])++
 (if o.to= []then []else [⟨2,[116,111],[idV o.to]⟩])++
 [⟨4,[110,111,119],[⟨4,s.tick,[]⟩]⟩]++
 (if bZ s.cases o.case=true∧o.kind≠6 then cH (bw s.cases o.case) o.subj else [])
def eT(fs:List cM)(name:Txt)(v:bD):List cM:=
 let i:=fs.findIdx fun f=>geB f.name name
 match fs[i]? with
 |none=>fs++ [⟨name,v⟩]
 |some f=>if f.name=name then fs.set i ⟨f.name,v⟩else fs.take i++ [⟨name,v⟩]++fs.drop i
def jj(s:an)(c:aJ)(actor what:Txt):aJ:={c with log:=c.log++ [⟨s.tick,actor,what⟩]}
def doD(par:Txt→bB×Int×Int)(s:an)(o:OpD):an:=
 let i:=findD s.cases o.case
 if o.kind=1 then {s with cases:=s.cases.take i++ [jj s ⟨o.case,o.subj,jy,[],[]⟩ o.subj [110,101,119]]++s.cases.drop i}
 else if o.kind=3 then {s with cases:=s.cases.modify i fun c=>jj s {c with fields:=eT c.fields o.field o.val} o.subj [119,114,105,116,101]}
 else if o.kind=4 then {s with cases:=s.cases.modify i fun c=>jj s {c with state:=o.to} o.subj o.to}
 else if o.kind=5 then {s with reviews:=s.reviews.modify (o.review - 1).toNat fun r=> {r with isOpen:=false}}
 else if o.kind=6 then(if yh s.roles ⟨o.case,o.field⟩then s else {s with roles:=s.roles++ [⟨o.case,o.field⟩]})
 else if o.kind=7 then(if(par o.text).2.1=0 then {s with policy:=(par o.text).1,version:=s.version+1} else s)
 else if o.kind=8 then {s with tick:=s.tick+o.review}
 else s
def dP(par:Txt→bB×Int×Int)(s:an)(o:OpD):an:=if bO s o=0 then doD par s o else s
def i64(n:Int):Prop:= -9223372036854775808≤n∧n≤9223372036854775807
end Go.Bf
namespace Go.Proofs.YtcochaoekecfdaaGreatDoor
open Go Go.Ab
abbrev acm:TI:=⟨.other,1,8,.v .nilFunc,none⟩
def MA:List TI:=[
 ⟨.other,0,0,default,none⟩,
 acm,
 ⟨.int .i64,1,8,.i 0,some (0,[.int .i64])⟩,
 ⟨.int .i64,1,8,.i 0,some (0,[.int .i64])⟩,
 ⟨.bool,1,1,.b false,some (0,[.bool])⟩,
 ⟨.int .u8,1,1,.v (.int .u8 0),some (0,[.int .u8])⟩,
 ⟨.int .u8,1,1,.v (.int .u8 0),some (0,[.int .u8])⟩,
 ⟨.strct [(0,2),(1,3),(2,4),(3,6)],4,24,.agg [.i 0,.i 0,.b false,.v (.int .u8 0)],none⟩,
 ⟨.strct [(0,2),(1,3),(2,4),(3,6)],4,24,.agg [.i 0,.i 0,.b false,.v (.int .u8 0)],none⟩,
 ⟨.str,1,16,.s [],some (0,[.str])⟩,
 ⟨.str,1,16,.s [],some (0,[.str])⟩,
 ⟨.str,1,16,.s [],some (0,[.str])⟩,
 ⟨.int .u64,1,8,.v (.int .u64 0),some (0,[.int .u64])⟩,
 ⟨.strct [(0,9),(1,12)],2,24,.agg [.s [],.v (.int .u64 0)],none⟩,
 ⟨.strct [(0,9),(1,12)],2,24,.agg [.s [],.v (.int .u64 0)],none⟩,
 ⟨.ptr 417,1,8,.v (.pointer none),none⟩,
 ⟨.ptr 420,1,8,.v (.pointer none),none⟩,
 ⟨.ptr 427,1,8,.v (.pointer none),none⟩,
 ⟨.strct [(0,17)],1,8,.agg [.v (.pointer none)],none⟩,
 ⟨.strct [(0,17)],1,8,.agg [.v (.pointer none)],none⟩,
 ⟨.iface,1,16,.v .nilIface,none⟩,
 ⟨.int .i32,1,4,.v (.int .i32 0),some (0,[.int .i32])⟩,
 ⟨.ptr 96,1,8,.v (.pointer none),none⟩,
 ⟨.int .i64,1,8,.i 0,some (0,[.int .i64])⟩,
 ⟨.other,0,0,default,none⟩,
 acm,
 ⟨.ptr 101,1,8,.v (.pointer none),none⟩,
 ⟨.other,0,0,default,none⟩,
 acm,
 ⟨.strct [(0,3),(1,3),(2,9)],3,32,.agg [.i 0,.i 0,.s []],some (1,[.int .i64,.int .i64,.str])⟩,
 ⟨.strct [(0,3),(1,3),(2,9)],3,32,.agg [.i 0,.i 0,.s []],some (1,[.int .i64,.int .i64,.str])⟩,
 ⟨.strct [(0,3),(1,9),(2,9),(3,9),(4,9),(5,30),(8,3),(9,9),(10,9),(11,4)],12,152,.agg [.i 0,.s [],.s [],.s [],.s [],.i 0,.i 0,.s [],.i 0,.s [],.s [],.b false],some (2,[.int .i64,.str,.str,.str,.str,.int .i64,.int .i64,.str,.int .i64,.str,.str,.bool])⟩,
 ⟨.strct [(0,3),(1,9),(2,9),(3,9),(4,9),(5,30),(8,3),(9,9),(10,9),(11,4)],12,152,.agg [.i 0,.s [],.s [],.s [],.s [],.i 0,.i 0,.s [],.i 0,.s [],.s [],.b false],some (2,[.int .i64,.str,.str,.str,.str,.int .i64,.int .i64,.str,.int .i64,.str,.str,.bool])⟩,
 ⟨.cplx .f64,1,16,.v (.complex .f64 0 0),some (0,[.cplx .f64])⟩,
 ⟨.cplx .f64,1,16,.v (.complex .f64 0 0),some (0,[.cplx .f64])⟩,
 ⟨.strct [(0,23),(1,34),(2,4),(3,30),(6,4),(7,3)],8,80,.agg [.i 0,.v (.complex .f64 0 0),.b false,.i 0,.i 0,.s [],.b false,.i 0],some (2,[.int .i64,.cplx .f64,.bool,.int .i64,.int .i64,.str,.bool,.int .i64])⟩,
 ⟨.strct [(0,23),(1,34),(2,4),(3,30),(6,4),(7,3)],8,80,.agg [.i 0,.v (.complex .f64 0 0),.b false,.i 0,.i 0,.s [],.b false,.i 0],some (2,[.int .i64,.cplx .f64,.bool,.int .i64,.int .i64,.str,.bool,.int .i64])⟩,
 acm,
 ⟨.slice 41,1,24,.sl [] .full,none⟩,
 acm,
 acm,
 ⟨.slice 5,1,24,.sl [] .full,none⟩,
 acm,
 ⟨.int .u64,1,8,.v (.int .u64 0),some (0,[.int .u64])⟩,
 acm,
 acm,
 acm,
 acm,
 acm,
 acm,
 ⟨.other,0,0,default,none⟩,
 acm,
 acm,
 acm,
 ⟨.slice 32,1,24,.sl [] .full,none⟩,
 ⟨.slice 134,1,24,.sl [] .full,none⟩,
 ⟨.slice 143,1,24,.sl [] .full,none⟩,
 ⟨.slice 146,1,24,.sl [] .full,none⟩,
 ⟨.slice 149,1,24,.sl [] .full,none⟩,
 ⟨.slice 270,1,24,.sl [] .full,none⟩,
 ⟨.slice 270,1,24,.sl [] .full,none⟩,
 ⟨.slice 224,1,24,.sl [] .full,none⟩,
 ⟨.slice 65,1,24,.sl [] .full,none⟩,
 ⟨.slice 158,1,24,.sl [] .full,none⟩,
 ⟨.strct [(0,9),(1,4),(2,3),(3,60),(4,61),(5,62),(6,63)],7,128,.agg [.s [],.b false,.i 0,.sl [] .full,.sl [] .full,.sl [] .full,.sl [] .full],none⟩,
 ⟨.strct [(0,9),(1,4),(2,3),(3,60),(4,61),(5,62),(6,63)],7,128,.agg [.s [],.b false,.i 0,.sl [] .full,.sl [] .full,.sl [] .full,.sl [] .full],none⟩,
 ⟨.strct [(0,3),(1,55),(2,56),(3,57),(4,58),(5,65),(12,3)],13,240,.agg [.i 0,.sl [] .full,.sl [] .full,.sl [] .full,.sl [] .full,.s [],.b false,.i 0,.sl [] .full,.sl [] .full,.sl [] .full,.sl [] .full,.i 0],none⟩,
 ⟨.strct [(0,3),(1,55),(2,56),(3,57),(4,58),(5,65),(12,3)],13,240,.agg [.i 0,.sl [] .full,.sl [] .full,.sl [] .full,.sl [] .full,.s [],.b false,.i 0,.sl [] .full,.sl [] .full,.sl [] .full,.sl [] .full,.i 0],none⟩,
 acm,
 acm,
 ⟨.strct [(0,32),(12,3),(13,34),(14,4),(15,63)],16,208,.agg [.i 0,.s [],.s [],.s [],.s [],.i 0,.i 0,.s [],.i 0,.s [],.s [],.b false,.i 0,.v (.complex .f64 0 0),.b false,.sl [] .full],none⟩,
 ⟨.strct [(0,32),(12,3),(13,34),(14,4),(15,63)],16,208,.agg [.i 0,.s [],.s [],.s [],.s [],.i 0,.i 0,.s [],.i 0,.s [],.s [],.b false,.i 0,.v (.complex .f64 0 0),.b false,.sl [] .full],none⟩,
 ⟨.other,0,0,default,none⟩,
 acm,
 acm,
 acm,
 acm,
 ⟨.slice 9,1,24,.sl [] .full,none⟩,
 ⟨.slice 43,1,24,.sl [] .full,none⟩,
 acm,
 acm,
 acm,
 acm,
 acm,
 ⟨.slice 71,1,24,.sl [] .full,none⟩,
 acm,
 acm,
 acm,
 acm,
 acm,
 acm,
 acm,
 acm,
 acm,
 acm,
 ⟨.strct [(0,3),(1,41),(2,3),(3,3),(4,4)],5,56,.agg [.i 0,.sl [] .full,.i 0,.i 0,.b false],none⟩,
 ⟨.strct [(0,3),(1,41),(2,3),(3,3),(4,4)],5,56,.agg [.i 0,.sl [] .full,.i 0,.i 0,.b false],none⟩,
 ⟨.ptr 173,1,8,.v (.pointer none),none⟩,
 ⟨.other,0,0,default,none⟩,
 acm,
 ⟨.strct [(0,97),(1,67),(14,84),(15,43)],16,280,.agg [.v (.pointer none),.i 0,.sl [] .full,.sl [] .full,.sl [] .full,.sl [] .full,.s [],.b false,.i 0,.sl [] .full,.sl [] .full,.sl [] .full,.sl [] .full,.i 0,.sl [] .full,.v (.int .u64 0)],none⟩,
 ⟨.strct [(0,97),(1,67),(14,84),(15,43)],16,280,.agg [.v (.pointer none),.i 0,.sl [] .full,.sl [] .full,.sl [] .full,.sl [] .full,.s [],.b false,.i 0,.sl [] .full,.sl [] .full,.sl [] .full,.sl [] .full,.i 0,.sl [] .full,.v (.int .u64 0)],none⟩,
 acm,
 ⟨.int .u64,1,8,.v (.int .u64 0),some (0,[.int .u64])⟩,
 acm,
 acm,
 acm,
 acm,
 acm,
 acm,
 ⟨.ptr 176,1,8,.v (.pointer none),none⟩,
 acm,
 acm,
 acm,
 acm,
 acm,
 ⟨.other,0,0,default,none⟩,
 acm,
 ⟨.strct [(0,34),(1,63)],2,40,.agg [.v (.complex .f64 0 0),.sl [] .full],none⟩,
 ⟨.strct [(0,34),(1,63)],2,40,.agg [.v (.complex .f64 0 0),.sl [] .full],none⟩,
 acm,
 ⟨.other,0,0,default,none⟩,
 acm,
 ⟨.slice 196,1,24,.sl [] .full,none⟩,
 acm,
 acm,
 acm,
 acm,
 ⟨.ptr 67,1,8,.v (.pointer none),none⟩,
 acm,
 acm,
 ⟨.slice 215,1,24,.sl [] .full,none⟩,
 ⟨.slice 205,1,24,.sl [] .full,none⟩,
 ⟨.strct [(0,9),(1,9),(2,9),(3,131),(4,132)],5,96,.agg [.s [],.s [],.s [],.sl [] .full,.sl [] .full],none⟩,
 ⟨.strct [(0,9),(1,9),(2,9),(3,131),(4,132)],5,96,.agg [.s [],.s [],.s [],.sl [] .full,.sl [] .full],none⟩,
 ⟨.other,0,0,default,none⟩,
 acm,
 acm,
 acm,
 acm,
 acm,
 acm,
 ⟨.strct [(0,3),(1,3),(2,9),(3,9),(4,9),(5,9),(6,4)],7,88,.agg [.i 0,.i 0,.s [],.s [],.s [],.s [],.b false],some (1,[.int .i64,.int .i64,.str,.str,.str,.str,.bool])⟩,
 ⟨.strct [(0,3),(1,3),(2,9),(3,9),(4,9),(5,9),(6,4)],7,88,.agg [.i 0,.i 0,.s [],.s [],.s [],.s [],.b false],some (1,[.int .i64,.int .i64,.str,.str,.str,.str,.bool])⟩,
 acm,
 ⟨.strct [(0,3),(1,9),(2,9)],3,40,.agg [.i 0,.s [],.s []],some (1,[.int .i64,.str,.str])⟩,
 ⟨.strct [(0,3),(1,9),(2,9)],3,40,.agg [.i 0,.s [],.s []],some (1,[.int .i64,.str,.str])⟩,
 acm,
 ⟨.strct [(0,9),(1,9)],2,32,.agg [.s [],.s []],some (1,[.str,.str])⟩,
 ⟨.strct [(0,9),(1,9)],2,32,.agg [.s [],.s []],some (1,[.str,.str])⟩,
 acm,
 acm,
 acm,
 ⟨.int .u32,1,4,.v (.int .u32 0),some (0,[.int .u32])⟩,
 acm,
 acm,
 acm,
 ⟨.strct [(0,3),(1,3),(2,9)],3,32,.agg [.i 0,.i 0,.s []],some (1,[.int .i64,.int .i64,.str])⟩,
 ⟨.strct [(0,3),(1,3),(2,9)],3,32,.agg [.i 0,.i 0,.s []],some (1,[.int .i64,.int .i64,.str])⟩,
 acm,
 acm,
 ⟨.other,0,0,default,none⟩,
 acm,
 acm,
 acm,
 ⟨.other,0,0,default,none⟩,
 acm,
 acm,
 ⟨.other,0,0,default,none⟩,
 acm,
 acm,
 acm,
 ⟨.strct [(0,22),(1,38),(2,4)],3,40,.agg [.v (.pointer none),.sl [] .full,.b false],none⟩,
 ⟨.strct [(0,22),(1,38),(2,4)],3,40,.agg [.v (.pointer none),.sl [] .full,.b false],none⟩,
 acm,
 ⟨.strct [(0,41),(1,3),(2,4)],3,40,.agg [.sl [] .full,.i 0,.b false],none⟩,
 ⟨.strct [(0,41),(1,3),(2,4)],3,40,.agg [.sl [] .full,.i 0,.b false],none⟩,
 acm,
 ⟨.slice 186,1,24,.sl [] .full,none⟩,
 ⟨.other,0,0,default,none⟩,
 acm,
 ⟨.ptr 183,1,8,.v (.pointer none),none⟩,
 ⟨.strct [(0,178),(1,3),(2,3),(3,23),(4,3)],5,56,.agg [.sl [] .full,.i 0,.i 0,.i 0,.i 0],none⟩,
 ⟨.strct [(0,178),(1,3),(2,3),(3,23),(4,3)],5,56,.agg [.sl [] .full,.i 0,.i 0,.i 0,.i 0],none⟩,
 acm,
 ⟨.strct [(0,3),(1,3),(2,3),(3,9)],4,40,.agg [.i 0,.i 0,.i 0,.s []],some (1,[.int .i64,.int .i64,.int .i64,.str])⟩,
 ⟨.strct [(0,3),(1,3),(2,3),(3,9)],4,40,.agg [.i 0,.i 0,.i 0,.s []],some (1,[.int .i64,.int .i64,.int .i64,.str])⟩,
 acm,
 acm,
 acm,
 ⟨.other,0,0,default,none⟩,
 acm,
 acm,
 ⟨.slice 30,1,24,.sl [] .full,none⟩,
 acm,
 ⟨.strct [(0,3),(1,9),(2,193)],3,48,.agg [.i 0,.s [],.sl [] .full],none⟩,
 ⟨.strct [(0,3),(1,9),(2,193)],3,48,.agg [.i 0,.s [],.sl [] .full],none⟩,
 acm,
 acm,
 acm,
 acm,
 acm,
 acm,
 acm,
 ⟨.strct [(0,3),(1,9),(2,9)],3,40,.agg [.i 0,.s [],.s []],some (1,[.int .i64,.str,.str])⟩,
 ⟨.strct [(0,3),(1,9),(2,9)],3,40,.agg [.i 0,.s [],.s []],some (1,[.int .i64,.str,.str])⟩,
 acm,
 ⟨.ptr 134,1,8,.v (.pointer none),none⟩,
 acm,
 acm,
 acm,
 acm,
 acm,
 acm,
 ⟨.strct [(0,9),(1,30)],4,48,.agg [.s [],.i 0,.i 0,.s []],some (2,[.str,.int .i64,.int .i64,.str])⟩,
 ⟨.strct [(0,9),(1,30)],4,48,.agg [.s [],.i 0,.i 0,.s []],some (2,[.str,.int .i64,.int .i64,.str])⟩,
 acm,
 acm,
 acm,
 acm,
 acm,
 acm,
 ⟨.slice 229,1,24,.sl [] .full,none⟩,
 ⟨.strct [(0,9),(1,4),(2,60),(3,222),(4,63)],5,96,.agg [.s [],.b false,.sl [] .full,.sl [] .full,.sl [] .full],none⟩,
 ⟨.strct [(0,9),(1,4),(2,60),(3,222),(4,63)],5,96,.agg [.s [],.b false,.sl [] .full,.sl [] .full,.sl [] .full],none⟩,
 acm,
 ⟨.strct [(0,3),(1,9),(2,4)],3,32,.agg [.i 0,.s [],.b false],some (1,[.int .i64,.str,.bool])⟩,
 ⟨.strct [(0,3),(1,9),(2,4)],3,32,.agg [.i 0,.s [],.b false],some (1,[.int .i64,.str,.bool])⟩,
 ⟨.strct [(0,3),(1,30),(4,227)],7,72,.agg [.i 0,.i 0,.i 0,.s [],.i 0,.s [],.b false],some (2,[.int .i64,.int .i64,.int .i64,.str,.int .i64,.str,.bool])⟩,
 ⟨.strct [(0,3),(1,30),(4,227)],7,72,.agg [.i 0,.i 0,.i 0,.s [],.i 0,.s [],.b false],some (2,[.int .i64,.int .i64,.int .i64,.str,.int .i64,.str,.bool])⟩,
 acm,
 ⟨.other,0,0,default,none⟩,
 acm,
 ⟨.iface,1,16,.v .nilIface,none⟩,
 ⟨.iface,1,16,.v .nilIface,none⟩,
 ⟨.other,0,0,default,none⟩,
 acm,
 acm,
 acm,
 ⟨.other,0,0,default,none⟩,
 acm,
 ⟨.other,0,0,default,none⟩,
 acm,
 ⟨.other,0,0,default,none⟩,
 acm,
 acm,
 acm,
 acm,
 acm,
 acm,
 acm,
 acm,
 ⟨.ptr 255,1,8,.v (.pointer none),none⟩,
 ⟨.map 9 355,1,8,.v (.map none),none⟩,
 ⟨.strct [(0,253),(1,3)],2,16,.agg [.v (.map none),.i 0],none⟩,
 ⟨.strct [(0,253),(1,3)],2,16,.agg [.v (.map none),.i 0],none⟩,
 acm,
 acm,
 acm,
 acm,
 ⟨.slice 3,1,24,.sl [] .full,none⟩,
 acm,
 acm,
 acm,
 acm,
 acm,
 acm,
 acm,
 acm,
 acm,
 ⟨.slice 274,1,24,.sl [] .full,none⟩,
 acm,
 ⟨.strct [(0,227),(3,3),(4,30)],7,72,.agg [.i 0,.s [],.b false,.i 0,.i 0,.i 0,.s []],some (2,[.int .i64,.str,.bool,.int .i64,.int .i64,.int .i64,.str])⟩,
 ⟨.strct [(0,227),(3,3),(4,30)],7,72,.agg [.i 0,.s [],.b false,.i 0,.i 0,.i 0,.s []],some (2,[.int .i64,.str,.bool,.int .i64,.int .i64,.int .i64,.str])⟩,
 ⟨.slice 273,1,24,.sl [] .full,none⟩,
 acm,
 ⟨.ptr 278,1,8,.v (.pointer none),none⟩,
 ⟨.strct [(0,276),(1,41)],2,32,.agg [.v (.pointer none),.sl [] .full],none⟩,
 ⟨.strct [(0,276),(1,41)],2,32,.agg [.v (.pointer none),.sl [] .full],none⟩,
 acm,
 acm,
 acm,
 ⟨.other,0,0,default,none⟩,
 acm,
 acm,
 acm,
 acm,
 acm,
 acm,
 acm,
 acm,
 acm,
 ⟨.slice 119,1,24,.sl [] .full,none⟩,
 acm,
 acm,
 ⟨.other,0,0,default,none⟩,
 acm,
 acm,
 acm,
 acm,
 acm,
 acm,
 acm,
 acm,
 acm,
 acm,
 acm,
 acm,
 ⟨.int .i64,1,8,.i 0,some (0,[.int .i64])⟩,
 ⟨.other,0,0,default,none⟩,
 acm,
 ⟨.ptr 347,1,8,.v (.pointer none),none⟩,
 acm,
 acm,
 ⟨.ptr 5,1,8,.v (.pointer none),none⟩,
 acm,
 ⟨.other,0,0,default,none⟩,
 acm,
 acm,
 acm,
 acm,
 acm,
 acm,
 acm,
 acm,
 acm,
 ⟨.slice 34,1,24,.sl [] .full,none⟩,
 ⟨.other,0,0,default,none⟩,
 acm,
 acm,
 acm,
 ⟨.other,0,0,default,none⟩,
 acm,
 ⟨.other,0,0,default,none⟩,
 acm,
 acm,
 acm,
 acm,
 ⟨.arr 24 5,24,24,.agg [.v (.int .u8 0),.v (.int .u8 0),.v (.int .u8 0),.v (.int .u8 0),.v (.int .u8 0),.v (.int .u8 0),.v (.int .u8 0),.v (.int .u8 0),.v (.int .u8 0),.v (.int .u8 0),.v (.int .u8 0),.v (.int .u8 0),.v (.int .u8 0),.v (.int .u8 0),.v (.int .u8 0),.v (.int .u8 0),.v (.int .u8 0),.v (.int .u8 0),.v (.int .u8 0),.v (.int .u8 0),.v (.int .u8 0),.v (.int .u8 0),.v (.int .u8 0),.v (.int .u8 0)],some (1,[.int .u8,.int .u8,.int .u8,.int .u8,.int .u8,.int .u8,.int .u8,.int .u8,.int .u8,.int .u8,.int .u8,.int .u8,.int .u8,.int .u8,.int .u8,.int .u8,.int .u8,.int .u8,.int .u8,.int .u8,.int .u8,.int .u8,.int .u8,.int .u8])⟩,
 acm,
 acm,
 ⟨.other,0,0,default,none⟩,
 acm,
 acm,
 ⟨.other,0,0,default,none⟩,
 acm,
 ⟨.strct [(0,9),(1,9),(2,234)],3,48,.agg [.s [],.s [],.v .nilIface],none⟩,
 ⟨.strct [(0,9),(1,9),(2,234)],3,48,.agg [.s [],.s [],.v .nilIface],none⟩,
 acm,
 ⟨.other,1,8,.v (.pointer none),none⟩,
 acm,
 acm,
 acm,
 ⟨.other,0,0,default,none⟩,
 acm,
 ⟨.strct [],0,0,default,none⟩,
 ⟨.other,0,0,default,none⟩,
 acm,
 ⟨.slice 4,1,24,.sl [] .full,none⟩,
 ⟨.other,0,0,default,none⟩,
 acm,
 ⟨.other,0,0,default,none⟩,
 acm,
 ⟨.strct [(0,193),(1,30),(4,23)],5,64,.agg [.sl [] .full,.i 0,.i 0,.s [],.i 0],none⟩,
 ⟨.strct [(0,193),(1,30),(4,23)],5,64,.agg [.sl [] .full,.i 0,.i 0,.s [],.i 0],none⟩,
 acm,
 acm,
 acm,
 acm,
 acm,
 acm,
 acm,
 acm,
 acm,
 ⟨.arr 20 43,20,160,.agg [.v (.int .u64 0),.v (.int .u64 0),.v (.int .u64 0),.v (.int .u64 0),.v (.int .u64 0),.v (.int .u64 0),.v (.int .u64 0),.v (.int .u64 0),.v (.int .u64 0),.v (.int .u64 0),.v (.int .u64 0),.v (.int .u64 0),.v (.int .u64 0),.v (.int .u64 0),.v (.int .u64 0),.v (.int .u64 0),.v (.int .u64 0),.v (.int .u64 0),.v (.int .u64 0),.v (.int .u64 0)],some (1,[.int .u64,.int .u64,.int .u64,.int .u64,.int .u64,.int .u64,.int .u64,.int .u64,.int .u64,.int .u64,.int .u64,.int .u64,.int .u64,.int .u64,.int .u64,.int .u64,.int .u64,.int .u64,.int .u64,.int .u64])⟩,
 ⟨.arr 65 5,65,65,.agg [.v (.int .u8 0),.v (.int .u8 0),.v (.int .u8 0),.v (.int .u8 0),.v (.int .u8 0),.v (.int .u8 0),.v (.int .u8 0),.v (.int .u8 0),.v (.int .u8 0),.v (.int .u8 0),.v (.int .u8 0),.v (.int .u8 0),.v (.int .u8 0),.v (.int .u8 0),.v (.int .u8 0),.v (.int .u8 0),.v (.int .u8 0),.v (.int .u8 0),.v (.int .u8 0),.v (.int .u8 0),.v (.int .u8 0),.v (.int .u8 0),.v (.int .u8 0),.v (.int .u8 0),.v (.int .u8 0),.v (.int .u8 0),.v (.int .u8 0),.v (.int .u8 0),.v (.int .u8 0),.v (.int .u8 0),.v (.int .u8 0),.v (.int .u8 0),.v (.int .u8 0),.v (.int .u8 0),.v (.int .u8 0),.v (.int .u8 0),.v (.int .u8 0),.v (.int .u8 0),.v (.int .u8 0),.v (.int .u8 0),.v (.int .u8 0),.v (.int .u8 0),.v (.int .u8 0),.v (.int .u8 0),.v (.int .u8 0),.v (.int .u8 0),.v (.int .u8 0),.v (.int .u8 0),.v (.int .u8 0),.v (.int .u8 0),.v (.int .u8 0),.v (.int .u8 0),.v (.int .u8 0),.v (.int .u8 0),.v (.int .u8 0),.v (.int .u8 0),.v (.int .u8 0),.v (.int .u8 0),.v (.int .u8 0),.v (.int .u8 0),.v (.int .u8 0),.v (.int .u8 0),.v (.int .u8 0),.v (.int .u8 0),.v (.int .u8 0)],none⟩,
 acm,
 ⟨.other,0,0,default,none⟩,
 acm,
 acm,
 ⟨.ptr 382,1,8,.v (.pointer none),none⟩,
 ⟨.strct [(0,9)],1,16,.agg [.s []],some (1,[.str])⟩,
 ⟨.strct [(0,9)],1,16,.agg [.s []],some (1,[.str])⟩,
 acm,
 acm,
 ⟨.other,0,0,default,none⟩,
 acm,
 acm,
 acm,
 acm,
 ⟨.slice 364,1,24,.sl [] .full,none⟩,
 acm,
 ⟨.other,0,0,default,none⟩,
 ⟨.other,0,0,default,none⟩,
 acm,
 acm,
 acm,
 acm,
 acm,
 acm,
 acm,
 acm,
 acm,
 acm,
 acm,
 acm,
 acm,
 acm,
 acm,
 ⟨.arr 32 5,32,32,.agg [.v (.int .u8 0),.v (.int .u8 0),.v (.int .u8 0),.v (.int .u8 0),.v (.int .u8 0),.v (.int .u8 0),.v (.int .u8 0),.v (.int .u8 0),.v (.int .u8 0),.v (.int .u8 0),.v (.int .u8 0),.v (.int .u8 0),.v (.int .u8 0),.v (.int .u8 0),.v (.int .u8 0),.v (.int .u8 0),.v (.int .u8 0),.v (.int .u8 0),.v (.int .u8 0),.v (.int .u8 0),.v (.int .u8 0),.v (.int .u8 0),.v (.int .u8 0),.v (.int .u8 0),.v (.int .u8 0),.v (.int .u8 0),.v (.int .u8 0),.v (.int .u8 0),.v (.int .u8 0),.v (.int .u8 0),.v (.int .u8 0),.v (.int .u8 0)],some (1,[.int .u8,.int .u8,.int .u8,.int .u8,.int .u8,.int .u8,.int .u8,.int .u8,.int .u8,.int .u8,.int .u8,.int .u8,.int .u8,.int .u8,.int .u8,.int .u8,.int .u8,.int .u8,.int .u8,.int .u8,.int .u8,.int .u8,.int .u8,.int .u8,.int .u8,.int .u8,.int .u8,.int .u8,.int .u8,.int .u8,.int .u8,.int .u8])⟩,
 ⟨.arr 64 5,64,64,.agg [.v (.int .u8 0),.v (.int .u8 0),.v (.int .u8 0),.v (.int .u8 0),.v (.int .u8 0),.v (.int .u8 0),.v (.int .u8 0),.v (.int .u8 0),.v (.int .u8 0),.v (.int .u8 0),.v (.int .u8 0),.v (.int .u8 0),.v (.int .u8 0),.v (.int .u8 0),.v (.int .u8 0),.v (.int .u8 0),.v (.int .u8 0),.v (.int .u8 0),.v (.int .u8 0),.v (.int .u8 0),.v (.int .u8 0),.v (.int .u8 0),.v (.int .u8 0),.v (.int .u8 0),.v (.int .u8 0),.v (.int .u8 0),.v (.int .u8 0),.v (.int .u8 0),.v (.int .u8 0),.v (.int .u8 0),.v (.int .u8 0),.v (.int .u8 0),.v (.int .u8 0),.v (.int .u8 0),.v (.int .u8 0),.v (.int .u8 0),.v (.int .u8 0),.v (.int .u8 0),.v (.int .u8 0),.v (.int .u8 0),.v (.int .u8 0),.v (.int .u8 0),.v (.int .u8 0),.v (.int .u8 0),.v (.int .u8 0),.v (.int .u8 0),.v (.int .u8 0),.v (.int .u8 0),.v (.int .u8 0),.v (.int .u8 0),.v (.int .u8 0),.v (.int .u8 0),.v (.int .u8 0),.v (.int .u8 0),.v (.int .u8 0),.v (.int .u8 0),.v (.int .u8 0),.v (.int .u8 0),.v (.int .u8 0),.v (.int .u8 0),.v (.int .u8 0),.v (.int .u8 0),.v (.int .u8 0),.v (.int .u8 0)],none⟩,
 acm,
 acm,
 acm,
 acm,
 ⟨.other,0,0,default,none⟩,
 ⟨.strct [(0,17),(1,17),(2,17),(3,9)],4,40,.agg [.v (.pointer none),.v (.pointer none),.v (.pointer none),.s []],none⟩,
 ⟨.strct [(0,17),(1,17),(2,17),(3,9)],4,40,.agg [.v (.pointer none),.v (.pointer none),.v (.pointer none),.s []],none⟩,
 ⟨.arr 0 16,0,0,default,none⟩,
 ⟨.other,0,0,default,none⟩,
 ⟨.other,0,0,default,none⟩,
 ⟨.int .u8,1,1,.v (.int .u8 0),some (0,[.int .u8])⟩,
 ⟨.int .u8,1,1,.v (.int .u8 0),some (0,[.int .u8])⟩,
 acm,
 ⟨.int .i32,1,4,.v (.int .i32 0),some (0,[.int .i32])⟩,
 ⟨.int .i32,1,4,.v (.int .i32 0),some (0,[.int .i32])⟩,
 ⟨.strct [(0,12),(1,12),(2,153),(3,421),(4,5),(5,5),(6,422),(7,423),(8,314),(9,424),(10,425)],11,48,.agg [.v (.int .u64 0),.v (.int .u64 0),.v (.int .u32 0),.v (.int .u8 0),.v (.int .u8 0),.v (.int .u8 0),.v (.int .u8 0),.v .nilFunc,.v (.pointer none),.v (.int .i32 0),.v (.int .i32 0)],none⟩,
 ⟨.strct [(0,12),(1,12),(2,153),(3,421),(4,5),(5,5),(6,422),(7,423),(8,314),(9,424),(10,425)],11,48,.agg [.v (.int .u64 0),.v (.int .u64 0),.v (.int .u32 0),.v (.int .u8 0),.v (.int .u8 0),.v (.int .u8 0),.v (.int .u8 0),.v .nilFunc,.v (.pointer none),.v (.int .i32 0),.v (.int .i32 0)],none⟩]
def U(t:TypeId):TI:=MA.getD t ⟨.other,0,0,default,none⟩
@[go_sem] theorem U3k:(U 3).k= .int .i64∧(U 3).sz=1∧(U 3).bytes=8∧(U 3).zero= .i 0:=⟨rfl,rfl,rfl,rfl⟩
@[go_sem] theorem U4k:(U 4).k= .bool∧(U 4).sz=1∧(U 4).bytes=1∧(U 4).zero= .b false:=⟨rfl,rfl,rfl,rfl⟩
@[go_sem] theorem U5k:(U 5).k= .int .u8∧(U 5).sz=1∧(U 5).bytes=1∧(U 5).zero= .v (.int .u8 0):=⟨rfl,rfl,rfl,rfl⟩
@[go_sem] theorem U9k:(U 9).k= .str∧(U 9).sz=1∧(U 9).bytes=16∧(U 9).zero= .s []:=⟨rfl,rfl,rfl,rfl⟩
@[go_sem] theorem aan:(U 22).k= .ptr 96∧(U 22).sz=1∧(U 22).bytes=8∧(U 22).zero= .v (.pointer none):=⟨rfl,rfl,rfl,rfl⟩
@[go_sem] theorem aar:(U 23).k= .int .i64∧(U 23).sz=1∧(U 23).bytes=8∧(U 23).zero= .i 0:=⟨rfl,rfl,rfl,rfl⟩
@[go_sem] theorem aav:(U 26).k= .ptr 101∧(U 26).sz=1∧(U 26).bytes=8∧(U 26).zero= .v (.pointer none):=⟨rfl,rfl,rfl,rfl⟩
@[go_sem] theorem aaA:(U 30).k= .strct [(0,3),(1,3),(2,9)]∧(U 30).sz=3∧(U 30).bytes=32∧(U 30).zero= .agg [.i 0,.i 0,.s []]∧(U 30).eq=some (1,[.int .i64,.int .i64,.str]):=⟨rfl,rfl,rfl,rfl,rfl⟩
@[go_sem] theorem aaF:(U 32).k= .strct [(0,3),(1,9),(2,9),(3,9),(4,9),(5,30),(8,3),(9,9),(10,9),(11,4)]∧(U 32).sz=12∧(U 32).bytes=152∧(U 32).zero= .agg [.i 0,.s [],.s [],.s [],.s [],.i 0,.i 0,.s [],.i 0,.s [],.s [],.b false]∧(U 32).eq=some (2,[.int .i64,.str,.str,.str,.str,.int .i64,.int .i64,.str,.int .i64,.str,.str,.bool]):=⟨rfl,rfl,rfl,rfl,rfl⟩
@[go_sem] theorem aaJ:(U 34).k= .cplx .f64∧(U 34).sz=1∧(U 34).bytes=16∧(U 34).zero= .v (.complex .f64 0 0):=⟨rfl,rfl,rfl,rfl⟩
@[go_sem] theorem aaO:(U 36).k= .strct [(0,23),(1,34),(2,4),(3,30),(6,4),(7,3)]∧(U 36).sz=8∧(U 36).bytes=80∧(U 36).zero= .agg [.i 0,.v (.complex .f64 0 0),.b false,.i 0,.i 0,.s [],.b false,.i 0]∧(U 36).eq=some (2,[.int .i64,.cplx .f64,.bool,.int .i64,.int .i64,.str,.bool,.int .i64]):=⟨rfl,rfl,rfl,rfl,rfl⟩
@[go_sem] theorem aaS:(U 38).k= .slice 41∧(U 38).sz=1∧(U 38).bytes=24∧(U 38).zero= .sl [] .full:=⟨rfl,rfl,rfl,rfl⟩
@[go_sem] theorem aaW:(U 41).k= .slice 5∧(U 41).sz=1∧(U 41).bytes=24∧(U 41).zero= .sl [] .full:=⟨rfl,rfl,rfl,rfl⟩
@[go_sem] theorem aa0:(U 43).k= .int .u64∧(U 43).sz=1∧(U 43).bytes=8∧(U 43).zero= .v (.int .u64 0):=⟨rfl,rfl,rfl,rfl⟩
@[go_sem] theorem aa4:(U 54).k= .slice 32∧(U 54).sz=1∧(U 54).bytes=24∧(U 54).zero= .sl [] .full:=⟨rfl,rfl,rfl,rfl⟩
@[go_sem] theorem aa8:(U 55).k= .slice 134∧(U 55).sz=1∧(U 55).bytes=24∧(U 55).zero= .sl [] .full:=⟨rfl,rfl,rfl,rfl⟩
@[go_sem] theorem abc:(U 56).k= .slice 143∧(U 56).sz=1∧(U 56).bytes=24∧(U 56).zero= .sl [] .full:=⟨rfl,rfl,rfl,rfl⟩
@[go_sem] theorem abg:(U 57).k= .slice 146∧(U 57).sz=1∧(U 57).bytes=24∧(U 57).zero= .sl [] .full:=⟨rfl,rfl,rfl,rfl⟩
@[go_sem] theorem abk:(U 58).k= .slice 149∧(U 58).sz=1∧(U 58).bytes=24∧(U 58).zero= .sl [] .full:=⟨rfl,rfl,rfl,rfl⟩
@[go_sem] theorem abo:(U 60).k= .slice 270∧(U 60).sz=1∧(U 60).bytes=24∧(U 60).zero= .sl [] .full:=⟨rfl,rfl,rfl,rfl⟩
@[go_sem] theorem abt:(U 61).k= .slice 224∧(U 61).sz=1∧(U 61).bytes=24∧(U 61).zero= .sl [] .full:=⟨rfl,rfl,rfl,rfl⟩
@[go_sem] theorem abx:(U 62).k= .slice 65∧(U 62).sz=1∧(U 62).bytes=24∧(U 62).zero= .sl [] .full:=⟨rfl,rfl,rfl,rfl⟩
@[go_sem] theorem abB:(U 63).k= .slice 158∧(U 63).sz=1∧(U 63).bytes=24∧(U 63).zero= .sl [] .full:=⟨rfl,rfl,rfl,rfl⟩
@[go_sem] theorem abF:(U 65).k= .strct [(0,9),(1,4),(2,3),(3,60),(4,61),(5,62),(6,63)]∧(U 65).sz=7∧(U 65).bytes=128∧(U 65).zero= .agg [.s [],.b false,.i 0,.sl [] .full,.sl [] .full,.sl [] .full,.sl [] .full]:=⟨rfl,rfl,rfl,rfl⟩
@[go_sem] theorem abJ:(U 67).k= .strct [(0,3),(1,55),(2,56),(3,57),(4,58),(5,65),(12,3)]∧(U 67).sz=13∧(U 67).bytes=240∧(U 67).zero= .agg [.i 0,.sl [] .full,.sl [] .full,.sl [] .full,.sl [] .full,.s [],.b false,.i 0,.sl [] .full,.sl [] .full,.sl [] .full,.sl [] .full,.i 0]:=⟨rfl,rfl,rfl,rfl⟩
@[go_sem] theorem abN:(U 71).k= .strct [(0,32),(12,3),(13,34),(14,4),(15,63)]∧(U 71).sz=16∧(U 71).bytes=208∧(U 71).zero= .agg [.i 0,.s [],.s [],.s [],.s [],.i 0,.i 0,.s [],.i 0,.s [],.s [],.b false,.i 0,.v (.complex .f64 0 0),.b false,.sl [] .full]:=⟨rfl,rfl,rfl,rfl⟩
@[go_sem] theorem abR:(U 77).k= .slice 9∧(U 77).sz=1∧(U 77).bytes=24∧(U 77).zero= .sl [] .full:=⟨rfl,rfl,rfl,rfl⟩
@[go_sem] theorem abV:(U 84).k= .slice 71∧(U 84).sz=1∧(U 84).bytes=24∧(U 84).zero= .sl [] .full:=⟨rfl,rfl,rfl,rfl⟩
@[go_sem] theorem abZ:(U 96).k= .strct [(0,3),(1,41),(2,3),(3,3),(4,4)]∧(U 96).sz=5∧(U 96).bytes=56∧(U 96).zero= .agg [.i 0,.sl [] .full,.i 0,.i 0,.b false]:=⟨rfl,rfl,rfl,rfl⟩
@[go_sem] theorem ab3:(U 97).k= .ptr 173∧(U 97).sz=1∧(U 97).bytes=8∧(U 97).zero= .v (.pointer none):=⟨rfl,rfl,rfl,rfl⟩
@[go_sem] theorem Xe:(U 101).k= .strct [(0,97),(1,67),(14,84),(15,43)]∧(U 101).sz=16∧(U 101).bytes=280∧(U 101).zero= .agg [.v (.pointer none),.i 0,.sl [] .full,.sl [] .full,.sl [] .full,.sl [] .full,.s [],.b false,.i 0,.sl [] .full,.sl [] .full,.sl [] .full,.sl [] .full,.i 0,.sl [] .full,.v (.int .u64 0)]:=⟨rfl,rfl,rfl,rfl⟩
@[go_sem] theorem Xi:(U 103).k= .int .u64∧(U 103).sz=1∧(U 103).bytes=8∧(U 103).zero= .v (.int .u64 0):=⟨rfl,rfl,rfl,rfl⟩
@[go_sem] theorem Xm:(U 119).k= .strct [(0,34),(1,63)]∧(U 119).sz=2∧(U 119).bytes=40∧(U 119).zero= .agg [.v (.complex .f64 0 0),.sl [] .full]:=⟨rfl,rfl,rfl,rfl⟩
@[go_sem] theorem Xq:(U 123).k= .slice 196∧(U 123).sz=1∧(U 123).bytes=24∧(U 123).zero= .sl [] .full:=⟨rfl,rfl,rfl,rfl⟩
@[go_sem] theorem Xu:(U 131).k= .slice 215∧(U 131).sz=1∧(U 131).bytes=24∧(U 131).zero= .sl [] .full:=⟨rfl,rfl,rfl,rfl⟩
@[go_sem] theorem Xy:(U 132).k= .slice 205∧(U 132).sz=1∧(U 132).bytes=24∧(U 132).zero= .sl [] .full:=⟨rfl,rfl,rfl,rfl⟩
@[go_sem] theorem XD:(U 134).k= .strct [(0,9),(1,9),(2,9),(3,131),(4,132)]∧(U 134).sz=5∧(U 134).bytes=96∧(U 134).zero= .agg [.s [],.s [],.s [],.sl [] .full,.sl [] .full]:=⟨rfl,rfl,rfl,rfl⟩
@[go_sem] theorem XI:(U 143).k= .strct [(0,3),(1,3),(2,9),(3,9),(4,9),(5,9),(6,4)]∧(U 143).sz=7∧(U 143).bytes=88∧(U 143).zero= .agg [.i 0,.i 0,.s [],.s [],.s [],.s [],.b false]∧(U 143).eq=some (1,[.int .i64,.int .i64,.str,.str,.str,.str,.bool]):=⟨rfl,rfl,rfl,rfl,rfl⟩
@[go_sem] theorem XN:(U 146).k= .strct [(0,3),(1,9),(2,9)]∧(U 146).sz=3∧(U 146).bytes=40∧(U 146).zero= .agg [.i 0,.s [],.s []]∧(U 146).eq=some (1,[.int .i64,.str,.str]):=⟨rfl,rfl,rfl,rfl,rfl⟩
@[go_sem] theorem XS:(U 149).k= .strct [(0,9),(1,9)]∧(U 149).sz=2∧(U 149).bytes=32∧(U 149).zero= .agg [.s [],.s []]∧(U 149).eq=some (1,[.str,.str]):=⟨rfl,rfl,rfl,rfl,rfl⟩
@[go_sem] theorem XW:(U 153).k= .int .u32∧(U 153).sz=1∧(U 153).bytes=4∧(U 153).zero= .v (.int .u32 0):=⟨rfl,rfl,rfl,rfl⟩
@[go_sem] theorem X1:(U 158).k= .strct [(0,3),(1,3),(2,9)]∧(U 158).sz=3∧(U 158).bytes=32∧(U 158).zero= .agg [.i 0,.i 0,.s []]∧(U 158).eq=some (1,[.int .i64,.int .i64,.str]):=⟨rfl,rfl,rfl,rfl,rfl⟩
@[go_sem] theorem X5:(U 173).k= .strct [(0,22),(1,38),(2,4)]∧(U 173).sz=3∧(U 173).bytes=40∧(U 173).zero= .agg [.v (.pointer none),.sl [] .full,.b false]:=⟨rfl,rfl,rfl,rfl⟩
@[go_sem] theorem X9:(U 176).k= .strct [(0,41),(1,3),(2,4)]∧(U 176).sz=3∧(U 176).bytes=40∧(U 176).zero= .agg [.sl [] .full,.i 0,.b false]:=⟨rfl,rfl,rfl,rfl⟩
@[go_sem] theorem Yd:(U 178).k= .slice 186∧(U 178).sz=1∧(U 178).bytes=24∧(U 178).zero= .sl [] .full:=⟨rfl,rfl,rfl,rfl⟩
@[go_sem] theorem Yh:(U 183).k= .strct [(0,178),(1,3),(2,3),(3,23),(4,3)]∧(U 183).sz=5∧(U 183).bytes=56∧(U 183).zero= .agg [.sl [] .full,.i 0,.i 0,.i 0,.i 0]:=⟨rfl,rfl,rfl,rfl⟩
@[go_sem] theorem Yl:(U 186).k= .strct [(0,3),(1,3),(2,3),(3,9)]∧(U 186).sz=4∧(U 186).bytes=40∧(U 186).zero= .agg [.i 0,.i 0,.i 0,.s []]:=⟨rfl,rfl,rfl,rfl⟩
@[go_sem] theorem Yp:(U 193).k= .slice 30∧(U 193).sz=1∧(U 193).bytes=24∧(U 193).zero= .sl [] .full:=⟨rfl,rfl,rfl,rfl⟩
@[go_sem] theorem Yt:(U 196).k= .strct [(0,3),(1,9),(2,193)]∧(U 196).sz=3∧(U 196).bytes=48∧(U 196).zero= .agg [.i 0,.s [],.sl [] .full]:=⟨rfl,rfl,rfl,rfl⟩
@[go_sem] theorem Yy:(U 205).k= .strct [(0,3),(1,9),(2,9)]∧(U 205).sz=3∧(U 205).bytes=40∧(U 205).zero= .agg [.i 0,.s [],.s []]∧(U 205).eq=some (1,[.int .i64,.str,.str]):=⟨rfl,rfl,rfl,rfl,rfl⟩
@[go_sem] theorem YE:(U 215).k= .strct [(0,9),(1,30)]∧(U 215).sz=4∧(U 215).bytes=48∧(U 215).zero= .agg [.s [],.i 0,.i 0,.s []]∧(U 215).eq=some (2,[.str,.int .i64,.int .i64,.str]):=⟨rfl,rfl,rfl,rfl,rfl⟩
@[go_sem] theorem YI:(U 222).k= .slice 229∧(U 222).sz=1∧(U 222).bytes=24∧(U 222).zero= .sl [] .full:=⟨rfl,rfl,rfl,rfl⟩
@[go_sem] theorem YM:(U 224).k= .strct [(0,9),(1,4),(2,60),(3,222),(4,63)]∧(U 224).sz=5∧(U 224).bytes=96∧(U 224).zero= .agg [.s [],.b false,.sl [] .full,.sl [] .full,.sl [] .full]:=⟨rfl,rfl,rfl,rfl⟩
@[go_sem] theorem YS:(U 227).k= .strct [(0,3),(1,9),(2,4)]∧(U 227).sz=3∧(U 227).bytes=32∧(U 227).zero= .agg [.i 0,.s [],.b false]∧(U 227).eq=some (1,[.int .i64,.str,.bool]):=⟨rfl,rfl,rfl,rfl,rfl⟩
@[go_sem] theorem YX:(U 229).k= .strct [(0,3),(1,30),(4,227)]∧(U 229).sz=7∧(U 229).bytes=72∧(U 229).zero= .agg [.i 0,.i 0,.i 0,.s [],.i 0,.s [],.b false]∧(U 229).eq=some (2,[.int .i64,.int .i64,.int .i64,.str,.int .i64,.str,.bool]):=⟨rfl,rfl,rfl,rfl,rfl⟩
@[go_sem] theorem Y1:(U 253).k= .map 9 355∧(U 253).sz=1∧(U 253).bytes=8∧(U 253).zero= .v (.map none):=⟨rfl,rfl,rfl,rfl⟩
@[go_sem] theorem Y5:(U 255).k= .strct [(0,253),(1,3)]∧(U 255).sz=2∧(U 255).bytes=16∧(U 255).zero= .agg [.v (.map none),.i 0]:=⟨rfl,rfl,rfl,rfl⟩
@[go_sem] theorem Y9:(U 260).k= .slice 3∧(U 260).sz=1∧(U 260).bytes=24∧(U 260).zero= .sl [] .full:=⟨rfl,rfl,rfl,rfl⟩
@[go_sem] theorem Zd:(U 270).k= .slice 274∧(U 270).sz=1∧(U 270).bytes=24∧(U 270).zero= .sl [] .full:=⟨rfl,rfl,rfl,rfl⟩
@[go_sem] theorem Zi:(U 273).k= .strct [(0,227),(3,3),(4,30)]∧(U 273).sz=7∧(U 273).bytes=72∧(U 273).zero= .agg [.i 0,.s [],.b false,.i 0,.i 0,.i 0,.s []]∧(U 273).eq=some (2,[.int .i64,.str,.bool,.int .i64,.int .i64,.int .i64,.str]):=⟨rfl,rfl,rfl,rfl,rfl⟩
@[go_sem] theorem Zm:(U 274).k= .slice 273∧(U 274).sz=1∧(U 274).bytes=24∧(U 274).zero= .sl [] .full:=⟨rfl,rfl,rfl,rfl⟩
@[go_sem] theorem Zq:(U 292).k= .slice 119∧(U 292).sz=1∧(U 292).bytes=24∧(U 292).zero= .sl [] .full:=⟨rfl,rfl,rfl,rfl⟩
@[go_sem] theorem Zu:(U 326).k= .slice 34∧(U 326).sz=1∧(U 326).bytes=24∧(U 326).zero= .sl [] .full:=⟨rfl,rfl,rfl,rfl⟩
@[go_sem] theorem Zx:(U 355).k= .strct []∧(U 355).sz=0:=⟨rfl,rfl⟩
@[go_sem] theorem ZA:(U 358).k= .slice 4∧(U 358).sz=1∧(U 358).bytes=24∧(U 358).zero= .sl [] .full:=⟨rfl,rfl,rfl,rfl⟩
@[go_sem] theorem ZE:(U 364).k= .strct [(0,193),(1,30),(4,23)]∧(U 364).sz=5∧(U 364).bytes=64∧(U 364).zero= .agg [.sl [] .full,.i 0,.i 0,.s [],.i 0]:=⟨rfl,rfl,rfl,rfl⟩
@[go_sem] theorem ZI:(U 390).k= .slice 364∧(U 390).sz=1∧(U 390).bytes=24∧(U 390).zero= .sl [] .full:=⟨rfl,rfl,rfl,rfl⟩
theorem hU:∀t,aO Tryz.prog U t:=HY 428 acs fun t ht=>by
 unfold U;rw[List.getD_eq_getElem?_getD,List.getElem?_eq_none (show MA.length≤t from ht)]
 rfl
theorem hm:Tryz.prog.follows .mixedOrders=true:=acs
end Go.Proofs.YtcochaoekecfdaaGreatDoor
namespace Go.Proofs.YtcochaoekecfdaaGreatDoor
open Go Go.Ab Go.Bf
theorem acn {f:FuncId} {fn:Func} {c:Code} {args:List AV} {h:Heap} {Q:AV→Heap→Prop} (hf:Tryz.prog.funcs[f]? =some fn) (m:Nat) (rs:List ResultVar) (hk:(∀x∈args,wfA x)→bH Tryz.prog U m c (xV args) h (vJ U rs Q)) (hb:fn.body=some c:=by exact rfl) (hn:(fn.name=="runtime.NumGoroutine")=false:=by kernel_rfl) (h1:fn.ntmps=m:=by exact rfl) (h2:fn.results.toList=rs:=by exact rfl) (hl:args.length≤m:=by exact Nat.le_of_ble_eq_true rfl):ai Tryz.prog f args h Q:=ai.body hU hm hf hb hn m h1 rs h2 hl hk
theorem oS(l:Txt)(h:Heap):ai Tryz.prog 51 [.s l] h fun r h' =>r= .b (bt l)∧h' =h:=by
 refine acn Tryz.func51 49 [.tmp 2] fun hwf=>?_
 simp only[go_sem];refine .intro (fun m ρ h' =>h' =h∧∃i:Nat,i≤l.length∧m=l.length - i∧vL (l.take i)=true∧lk ρ 0=some (.s l)∧lk ρ 8=some (.i l.length)∧lk ρ 9=some (.i i)) l.length ?_ ?_
 ·refine⟨rfl,0,aco,rfl,rfl,?_,?_,?_⟩<;>simp only[go_sem]
 ·rintro m ρ h' ⟨rfl,i,hi,rfl,hc,r0,r8,r9⟩
  simp only[go_sem,r8,r9];refine .intro (fun e=>?_) (fun e=>?_)
  ·have hlt:i<l.length:=ack e
   have w1:IntKind.i64.wrap ((i:Int)+1)=((i+1:Nat):Int):=by rw[aY _ (by have:=hwf (.s l) acw;simp only[wfA,wf1,lim]at this;omega)];omega
   have w0:IntKind.i64.wrap (0+1)=1:=rfl;have hb:=Ij l i hlt;have hg:=EY l i hlt;rw[hc]at hg;have hcl:=No l[i];have h255:=l[i].toNat_lt;simp only[go_sem,r0,r9];refine .at i hlt ?_;generalize hcc:l[i]=c at hb hg hcl h255⊢
   by_cases hi0:i=0
   ·subst hi0
    rcases hcl with⟨a1,a2,a3,a4,a5⟩|⟨a1,a2,a3,a4,a5⟩|⟨a1,a2,a3,a4,a5⟩|⟨a1,a2,a3,a4,a5⟩|⟨a1,a2,a3,a4,a5⟩|⟨a1,a2,a3,a4,a5⟩
    ·simp only[go_sem,r9,a1,a2,a3,a4,a5,w0]
     refine⟨_,?_,rfl,0+1,aco,rfl,by simp[hg,sZ,ltr,a1,a2],?_,?_,?_⟩
     ·omega
     all_goals simp only[go_sem,r0,r8]
    all_goals
     simp only[go_sem,a1,a2,a3,a4,a5];exact .same (.refl _) ⟨by simp[bt,hb (by simp[sZ,ltr,a1,a2]),au],rfl⟩
   ·have hin:((i:Int)==0)=false:=by simp;omega
    rcases hcl with⟨a1,a2,a3,a4,a5⟩|⟨a1,a2,a3,a4,a5⟩|⟨a1,a2,a3,a4,a5⟩|⟨a1,a2,a3,a4,a5⟩|⟨a1,a2,a3,a4,a5⟩|⟨a1,a2,a3,a4,a5⟩
    ·simp only[go_sem,r9,a1,a2,a3,a4,a5,w1]
     exact ahd
    ·simp only[go_sem,r9,a1,a3,a4,w1,hin]
     exact ahd
    ·simp only[go_sem,r9,a1,a3,a4,a5,w1,hin]
     exact ahd
    ·simp only[go_sem,a1,a3,a5,hin]
     exact .same (.refl _) ⟨ad3,rfl⟩
    ·simp only[go_sem,a1,a3,a4,a5,hin]
     exact .same (.refl _) ⟨ad3,rfl⟩
    ·simp only[go_sem,a1,a2,a3,a4,a5,hin]
     exact .same (.refl _) ⟨ad3,rfl⟩
  ·have hge:i=l.length:=by have:=acg e;omega
   subst hge;rw[List.take_length]at hc
   by_cases h0:l= []
   ·subst h0
    have b0:((([]:Txt)== [])=true):=rfl;simp only[go_sem,r0,b0];exact acD
   ·have b0:(l== [])=false:=by simpa using h0
    have hp:1≤l.length:=List.length_pos_iff.2 h0;simp only[go_sem,r0,b0];exact .same (.refl _) ⟨by simp[bt,hc,au,hp];omega,rfl⟩
theorem GG(a:pW)(h:Heap):ai Tryz.prog 316 [CF a] h fun r h' =>r= .b (qc a)∧h' =h:=by
 refine acn Tryz.func316 16 [.tmp 2] fun hwf=>?_
 simp only[go_sem,CF];intro id hid;cases d1:decide (1≤a.cat)
 ·simp only[go_sem,d1]
  exact ahN
 cases d2:decide (a.cat≤4)
 ·simp only[go_sem,d1,d2]
  exact ahN
 simp only[go_sem,d1,d2];refine(oS _ _).pthen ?_;simp only[go_sem];exact ahN
theorem gq(v:bD)(h:Heap):ai Tryz.prog 54 [aU v] h fun r h' =>r= .b (bL v)∧h' =h:=by
 refine acn Tryz.func54 61 [.tmp 2] fun hwf=>?_
 simp only[go_sem,aU];intro id hid;cases k1:(v.kind==1)
 case true=>
  have e1:v.kind=1:=acp;cases d1:(v.n==0)<;>cases d2:(v.n==1)
  ·simp only[go_sem,k1,d1,d2]
   exact .mk _ (.refl _) (.ak hid) ⟨afI,rfl⟩
  all_goals
   simp only[go_sem,k1,d1,d2];exact .mk _ (.refl _) (.ak hid) ⟨afI,rfl⟩
 have n1:v.kind≠1:=acp;cases k2:(v.kind==2)
 case true=>
  have e1:v.kind=2:=acp;simp only[go_sem,k1,k2];exact .mk _ (.refl _) (.ak hid) ⟨afI,rfl⟩
 have n2:v.kind≠2:=acp;cases k3:(v.kind==3)
 case true=>
  have e1:v.kind=3:=acp;cases d1:(v.n==0)
  all_goals
   simp only[go_sem,k1,k2,k3,d1];exact .mk _ (.refl _) (.ak hid) ⟨by simp[bL,e1,d1,au]<;>omega,rfl⟩
 have n3:v.kind≠3:=acp;cases k4:(v.kind==4)
 case true=>
  have e1:v.kind=4:=acp;cases d1:decide (0≤v.n)<;>cases d2:decide (v.n≤1099511627776)
  all_goals
   simp only[go_sem,k1,k2,k3,k4,d1,d2];exact .mk _ (.refl _) (.ak hid) ⟨afI,rfl⟩
 have n4:v.kind≠4:=acp;cases k5:(v.kind==5)
 case true=>
  have e1:v.kind=5:=acp;cases d1:(v.n==0)
  ·simp only[go_sem,k1,k2,k3,k4,k5,d1]
   exact .mk _ (.refl _) (.ak hid) ⟨afI,rfl⟩
  ·simp only[go_sem,k1,k2,k3,k4,k5,d1]
   refine(oS _ _).pthen ?_;simp only[go_sem];exact .mk _ (.refl _) (.ak hid) ⟨afI,rfl⟩
 have n5:v.kind≠5:=acp;simp only[go_sem,k1,k2,k3,k4,k5];exact .mk _ (.refl _) (.ak hid) ⟨afI,rfl⟩
theorem LC(m:bM)(h:Heap):ai Tryz.prog 315 [cP m] h fun r h' =>r= .b (kI m)∧h' =h:=by
 refine acn Tryz.func315 21 [.tmp 2] fun hwf=>?_
 simp only[go_sem,cP];intro id hid;simp only[go_sem];refine(GG m.attr _).pthen ?_;cases d0:qc m.attr
 ·simp only[go_sem]
  exact ahq
 cases d1:decide (1≤m.op)
 ·simp only[go_sem,d1]
  exact ahq
 cases d2:decide (m.op≤3)
 ·simp only[go_sem,d1,d2]
  exact ahq
 simp only[go_sem,d1,d2];refine(gq m.val _).pthen ?_;simp only[go_sem];exact ahq
theorem Hj(n:Nat)(h:Heap):ai Tryz.prog 297 [.i n] h fun r h' =>r= .i (jZ n)∧h' =h:=by
 refine acn Tryz.func297 9 [.tmp 2] fun hwf=>?_
 cases d1:((n:Int)==0)
 case true=>
  simp only[go_sem,d1];exact .same (.refl _) ⟨by grind [jZ,au],rfl⟩
 cases d2:decide (8<(n:Int))
 ·have e2:¬n>8:=by grind
  exact ah7
 ·have e2:n>8:=by grind
  exact ah7
theorem DC{n:Nat}(h:jZ n=0):1≤n∧n≤8:=by
 grind [jZ]
theorem Kh(l:List bM)(h:Heap):ai Tryz.prog 298 [fP l] h fun r h' =>r= .i (wL l)∧h' =h:=by
 refine acn Tryz.func298 22 [.tmp 2] fun hwf=>?_
 simp only[go_sem,fP,acd];refine(Hj _ _).pthen ?_;cases d1:(jZ l.length !=0)
 case true=>
  have e1:jZ l.length≠0:=acp;simp only[go_sem,d1];exact .same (.refl _) ⟨by grind [wL,au],rfl⟩
 have e1:jZ l.length=0:=acp;have hlen:=DC e1;simp only[go_sem,d1,acd];refine .intro (fun m ρ h' =>Ab.Sub h h'∧∃i:Nat,i≤l.length∧m=l.length - i∧(l.take i).all kI=true∧lk ρ 12=some (fP l)∧lk ρ 13=some (.i l.length)∧lk ρ 14=some (.i i)) l.length ?_ ?_
 ·refine⟨.refl _,0,aco,rfl,rfl,?_,?_,?_⟩<;>simp only[go_sem,fP]
 ·rintro m ρ h' ⟨hs,i,hi,rfl,hc,r12,r13,r14⟩
  simp only[go_sem,r13,r14];refine .intro (fun e=>?_) (fun e=>?_)
  ·have hlt:i<l.length:=ack e
   have w1:IntKind.i64.wrap ((i:Int)+1)=((i+1:Nat):Int):=acE;simp only[go_sem,r12,r14,fP];refine .at i acp acz ?_;simp only[go_sem,ace,cP];intro id hid;simp only[go_sem];refine(LC l[i] _).pthen ?_;cases d2:kI l[i]
   ·simp only[go_sem]
    refine .mk _ (.refl _) (hs.new hid _) ⟨?_,rfl⟩;have:l.all kI=false:=List.all_eq_false.2 ⟨_,aci hlt,acp⟩;simp[wL,e1,this,au]
   ·simp only[go_sem,r14,w1]
    refine⟨_,?_,hs.new hid _,i+1,aco,rfl,?_,?_,?_,?_⟩
    ·omega
    ·grind [List.take_succ_eq_append_getElem]
    all_goals simp only[go_sem,r12,r13,fP]
  ·have hge:i=l.length:=by grind
   subst hge;rw[List.take_length]at hc;simp only[go_sem];exact .mk _ (.refl _) hs ⟨by grind [wL,au],rfl⟩
theorem aC{h:Heap}{i j:Nat}{b:Blk}(e:upd h i (some b) j=none):h j=none:=by grind [ag,aH]
theorem MF{v:bD}(h:(v.kind==(0:Int) && (v.n==(0:Int) && v.s==([]:Txt)))=false):¬v.kind=0∨¬v.n=0∨¬v.s= []:=by
 grind
theorem ME{v:bD}(h:(v.kind==(0:Int) && (v.n==(0:Int) && v.s==([]:Txt)))=true):v.kind=0∧v.n=0∧v.s= []:=by
 grind
theorem Ji(k:Int)(h:Heap):ai Tryz.prog 106 [.i k] h fun r h' =>r= .b (ve k)∧h' =h:=by
 refine acn Tryz.func106 9 [.tmp 2] fun hwf=>?_
 cases d1:decide (1≤k)
 ·simp -implicitDefEqProofs only[go_sem,d1]
  exact .same (.refl _) ⟨by simp only[ve,d1,au,Bool.false_and],rfl⟩
 ·simp -implicitDefEqProofs only[go_sem,d1]
  exact .same (.refl _) ⟨by simp_all [ve,au,Bool.true_and],rfl⟩
theorem xT(s:Txt)(h:Heap):ai Tryz.prog 53 [.s s] h fun r h' =>r= .b (iP s)∧h' =h:=by
 refine acn Tryz.func53 9 [.tmp 2] fun hwf=>?_
 cases d1:(s==([]:Txt))
 ·simp -implicitDefEqProofs only[go_sem,d1]
  refine(oS s h).pthen ?_;simp -implicitDefEqProofs only[go_sem];exact .same (.refl _) ⟨by simp_all [iP,au,Bool.false_or],rfl⟩
 ·simp -implicitDefEqProofs only[go_sem,d1]
  exact .same (.refl _) ⟨by simp_all [iP,au,Bool.true_or],rfl⟩
theorem Fu(a b:Txt)(h:Heap):ai Tryz.prog 170 [.s a,.s b] h fun r h' =>r= .b (mz a b)∧h' =h:=by
 refine acn Tryz.func170 22 [.tmp 4] fun hwf=>?_
 cases d1:(a==jy)<;>cases d2:(a==wJ)<;>cases d3:(a==Az)<;>cases d4:(b==wJ)<;>simp only[jy,wJ,Az]at d1 d2 d3 d4<;>simp -implicitDefEqProofs only[go_sem,d1,d2,d3,d4]<;>
  exact .same (.refl _) ⟨by simp only[mz,d1,d2,d3,d4,au,jy,wJ,Az,gR,if_true,Bool.false_eq_true,if_false,Bool.true_or,Bool.false_or],rfl⟩
theorem Am(k:Int)(hk:i64 k)(h:Heap):ai Tryz.prog 100 [.i k] h fun r h' =>r= .s (jF k)∧h' =h:=by
 refine acn Tryz.func100 18 [.tmp 2] fun hwf=>?_
 simp -implicitDefEqProofs only[go_sem];cases d1:decide (k<1)
 case true=>
  simp -implicitDefEqProofs only[go_sem];exact .same (.refl _) ⟨by simp_all [jF,acf,true_or,if_true,au],rfl⟩
 cases d2:decide ((7:Int)<k)
 case true=>
  simp -implicitDefEqProofs only[go_sem,d2];exact .same (.refl _) ⟨by simp_all [jF,acf,or_true,if_true,au],rfl⟩
 have h1:=acg d1;have h2:=acg d2;obtain⟨j,rfl⟩:∃j:Nat,k=(j:Int)+1:=⟨(k - 1).toNat,aco⟩;have hj:j<7:=aco;have w1:IntKind.i64.wrap ((j:Int)+1 - 1)=(j:Int):=acE;simp -implicitDefEqProofs only[go_sem,d2,w1];refine .at j aco (by rcases j with _|_|_|_|_|_|_|j<;>first|rfl|omega) ?_
 rcases j with _|_|_|_|_|_|_|j
 all_goals first|omega|skip
 all_goals
  simp -implicitDefEqProofs only[go_sem,List.getElem_cons_zero,List.getElem_cons_succ];exact .same (.refl _) ⟨acF,rfl⟩
theorem Ju(o:OpD)(h:Heap):ai Tryz.prog 52 [opA o] h fun r h' =>r= .v (.bool (lV o))∧h' =h:=by
 refine acn Tryz.func52 23 [.tmp 2] fun hwf=>?_
 simp -implicitDefEqProofs only[go_sem,opA,opC];intro id hid;cases d1:o.glass
 ·simp -implicitDefEqProofs only[go_sem]
  exact ahO
 simp -implicitDefEqProofs only[go_sem];refine(Ji _ _).pthen ?_;cases d2:ve o.kind
 ·simp -implicitDefEqProofs only[go_sem]
  exact ahO
 cases d3:(o.reason==([]:Txt))
 ·simp -implicitDefEqProofs only[go_sem,d3]
  exact .mk _ (.refl _) (.ak hid) ⟨by
   simp only[lV,d1,d2,d3,au,if_true,Bool.not_false,Bool.true_and]
   congr 2
   grind,rfl⟩
 ·simp -implicitDefEqProofs only[go_sem,d3]
  exact ahO
theorem Ni(o:OpD)(h:Heap):ai Tryz.prog 107 [opA o] h fun r h' =>r=opA (gN o)∧h' =h:=by
 refine acn Tryz.func107 7 [.cell 2 32] fun hwf=>?_
 simp -implicitDefEqProofs only[go_sem,opA,opC];intro i1 h1;simp -implicitDefEqProofs only[go_sem];intro i2 h2;have hne:=aH h2;simp -implicitDefEqProofs only[go_sem,aj,hne,hne.symm];have n2:=aC h2;exact .mk _ (.refl _) (((((Sub.refl h).put h1 _).put n2 _).put h1 _).put n2 _) ⟨rfl,rfl⟩
theorem Mt(o:OpD)(h:Heap):ai Tryz.prog 55 [opA o] h fun r h' =>r= .b (dK o)∧h' =h:=by
 have hb:=fun hh=>Ni o hh
 simp only[gN,opA,opC]at hb;refine acn Tryz.func55 111 [.tmp 2] fun hwf=>?_
 simp -implicitDefEqProofs only[go_sem,opA,opC];intro i1 h1;simp -implicitDefEqProofs only[go_sem];refine(hb _).pthen ?_;simp -implicitDefEqProofs only[go_sem];intro i3 h3;have n31:=aH h3;have n3:=aC h3;simp -implicitDefEqProofs only[go_sem,aj,n31.symm];intro i4 h4;have n43:=aH h4;have h4' :=aC h4;have n41:=aH h4';have n4:=aC h4';have bnd:o.kind≠1→o.kind≠2→o.kind≠3→o.kind≠4→o.kind≠5→o.kind≠6→o.kind≠7→o.kind≠8→(decide (1≤o.kind) && decide (o.kind≤8))=false:=by
  intro a1 a2 a3 a4 a5 a6 a7 a8;simp only[Bool.and_eq_false_iff,decide_eq_false_iff_not];omega
 by_cases k1:o.kind=1
 ·simp -implicitDefEqProofs only[go_sem,aj,n31.symm,n41.symm,k1]
  cases dcase:(o.case==([]:Txt))
  ·simp -implicitDefEqProofs only[go_sem,aj,n43.symm]
   exact .mk _ (.refl _) acv ⟨by simp[dK,okD,iL,gN,mL,ax,au,k1,decide_true,dcase,Bool.and_true,Bool.true_and,Bool.not_false],rfl⟩
  ·simp -implicitDefEqProofs only[go_sem]
   exact .mk _ (.refl _) acv ⟨by simp[dK,okD,iL,gN,mL,ax,au,k1,decide_true,dcase,Bool.and_true,Bool.true_and,Bool.false_and,Bool.and_false,Bool.not_true],rfl⟩
 by_cases k2:o.kind=2
 ·simp -implicitDefEqProofs only[go_sem,aj,n31.symm,n41.symm,k2,Int.reduceBEq]
  refine .calls (hm1 i1 _) [0,1,2,3,4,5,6,7] (.hm1 ad5) acs rfl ?_;simp -implicitDefEqProofs only[go_sem,aj,n31.symm,n41.symm];refine⟨(.hm1 acP),(.hm1 acP),?_⟩;cases dcase:(o.case==([]:Txt))
  ·simp -implicitDefEqProofs only[go_sem,aj,n31.symm,n41.symm]
   cases dfield:(o.field==([]:Txt))
   ·simp -implicitDefEqProofs only[go_sem,aj,n43.symm]
    exact .mk _ (.refl _) acv ⟨by simp[dK,okD,iL,gN,mL,ax,au,k2,decide_true,dcase,dfield,Bool.and_true,Bool.true_and,Bool.not_false],rfl⟩
   ·simp -implicitDefEqProofs only[go_sem]
    exact .mk _ (.refl _) acv ⟨by simp[dK,okD,iL,gN,mL,ax,au,k2,decide_true,dcase,dfield,Bool.and_true,Bool.true_and,Bool.false_and,Bool.and_false,Bool.not_true,Bool.not_false],rfl⟩
  ·simp -implicitDefEqProofs only[go_sem]
   exact .mk _ (.refl _) acv ⟨by simp[dK,okD,iL,gN,mL,ax,au,k2,decide_true,dcase,Bool.and_true,Bool.true_and,Bool.false_and,Bool.and_false,Bool.not_true],rfl⟩
 by_cases k6:o.kind=6
 ·simp -implicitDefEqProofs only[go_sem,aj,n31.symm,n41.symm,k6,Int.reduceBEq]
  refine .calls (hm1 i1 _) [0,1,2,3,4,5,6,7] (.hm1 ad5) acs rfl ?_;simp -implicitDefEqProofs only[go_sem,aj,n31.symm,n41.symm];refine⟨(.hm1 acP),(.hm1 acP),?_⟩;cases dcase:(o.case==([]:Txt))
  ·simp -implicitDefEqProofs only[go_sem,aj,n31.symm,n41.symm]
   cases dfield:(o.field==([]:Txt))
   ·simp -implicitDefEqProofs only[go_sem,aj,n43.symm]
    exact .mk _ (.refl _) acv ⟨by simp[dK,okD,iL,gN,mL,ax,au,k6,decide_true,dcase,dfield,Bool.and_true,Bool.true_and,Bool.not_false],rfl⟩
   ·simp -implicitDefEqProofs only[go_sem]
    exact .mk _ (.refl _) acv ⟨by simp[dK,okD,iL,gN,mL,ax,au,k6,decide_true,dcase,dfield,Bool.and_true,Bool.true_and,Bool.false_and,Bool.and_false,Bool.not_true,Bool.not_false],rfl⟩
  ·simp -implicitDefEqProofs only[go_sem]
   exact .mk _ (.refl _) acv ⟨by simp[dK,okD,iL,gN,mL,ax,au,k6,decide_true,dcase,Bool.and_true,Bool.true_and,Bool.false_and,Bool.and_false,Bool.not_true],rfl⟩
 by_cases k3:o.kind=3
 ·simp -implicitDefEqProofs only[go_sem,aj,n31.symm,n41.symm,k3,Int.reduceBEq]
  refine .calls (hm1 i1 _) [0,1,2,3,4,5,6,7,8,9,10,11] (.hm1 ad5) acs rfl ?_;simp -implicitDefEqProofs only[go_sem,aj,n31.symm,n41.symm];refine⟨(.hm1 acP),(.hm1 acP),(.hm1 acP),?_⟩;cases dcase:(o.case==([]:Txt))
  ·simp -implicitDefEqProofs only[go_sem,aj,n31.symm,n41.symm]
   cases dfield:(o.field==([]:Txt))
   ·simp -implicitDefEqProofs only[go_sem,aj,n31.symm,n41.symm]
    cases dval:(o.val.kind==(0:Int) && (o.val.n==(0:Int) && o.val.s==([]:Txt)))
    ·simp -implicitDefEqProofs only[go_sem,aj,n43.symm]
     exact .mk _ (.refl _) acv ⟨acU,rfl⟩
    ·simp -implicitDefEqProofs only[go_sem]
     exact .mk _ (.refl _) acv ⟨acU,rfl⟩
   ·simp -implicitDefEqProofs only[go_sem]
    exact .mk _ (.refl _) acv ⟨by simp[dK,okD,iL,gN,mL,eqV,ax,au,k3,decide_true,dcase,dfield,Bool.and_true,Bool.true_and,Bool.false_and,Bool.and_false,Bool.not_true,Bool.not_false],rfl⟩
  ·simp -implicitDefEqProofs only[go_sem]
   exact .mk _ (.refl _) acv ⟨by simp[dK,okD,iL,gN,mL,eqV,ax,au,k3,decide_true,dcase,Bool.and_true,Bool.true_and,Bool.false_and,Bool.and_false,Bool.not_true],rfl⟩
 by_cases k4:o.kind=4
 ·simp -implicitDefEqProofs only[go_sem,aj,n31.symm,n41.symm,k4,Int.reduceBEq]
  refine .calls (hm1 i1 _) [0,1,2,3,4,5,6,7] (.hm1 ad5) acs rfl ?_;simp -implicitDefEqProofs only[go_sem,aj,n31.symm,n41.symm];refine⟨(.hm1 acP),(.hm1 acP),?_⟩;cases dcase:(o.case==([]:Txt))
  ·simp -implicitDefEqProofs only[go_sem,aj,n31.symm,n41.symm]
   cases dto:(o.to==([]:Txt))
   ·simp -implicitDefEqProofs only[go_sem,aj,n43.symm]
    exact .mk _ (.refl _) acv ⟨by simp[dK,okD,iL,gN,mL,ax,au,k4,decide_true,dcase,dto,Bool.and_true,Bool.true_and,Bool.not_false],rfl⟩
   ·simp -implicitDefEqProofs only[go_sem]
    exact .mk _ (.refl _) acv ⟨by simp[dK,okD,iL,gN,mL,ax,au,k4,decide_true,dcase,dto,Bool.and_true,Bool.true_and,Bool.false_and,Bool.and_false,Bool.not_true,Bool.not_false],rfl⟩
  ·simp -implicitDefEqProofs only[go_sem]
   exact .mk _ (.refl _) acv ⟨by simp[dK,okD,iL,gN,mL,ax,au,k4,decide_true,dcase,Bool.and_true,Bool.true_and,Bool.false_and,Bool.and_false,Bool.not_true],rfl⟩
 by_cases k5:o.kind=5
 ·simp -implicitDefEqProofs only[go_sem,aj,n31.symm,n41.symm,k5,Int.reduceBEq]
  cases drev0:decide ((0:Int)<o.review)
  ·simp -implicitDefEqProofs only[go_sem]
   exact .mk _ (.refl _) acv ⟨by simp[dK,okD,iL,gN,mL,ax,au,k5,decide_true,drev0,Bool.and_true,Bool.true_and,Bool.false_and,Bool.and_false],rfl⟩
  ·simp -implicitDefEqProofs only[go_sem,aj,n43.symm]
   exact .mk _ (.refl _) acv ⟨by simp[dK,okD,iL,gN,mL,ax,au,k5,decide_true,drev0,Bool.and_true,Bool.true_and],rfl⟩
 by_cases k7:o.kind=7
 ·simp -implicitDefEqProofs only[go_sem,aj,n31.symm,n43.symm,n41.symm,k7,Int.reduceBEq]
  exact .mk _ (.refl _) acv ⟨by simp[dK,okD,iL,gN,mL,ax,au,k7,decide_true,Bool.and_true,Bool.true_and],rfl⟩
 by_cases k8:o.kind=8
 ·simp -implicitDefEqProofs only[go_sem,aj,n31.symm,n41.symm,k8,Int.reduceBEq]
  cases drev0:decide ((0:Int)<o.review)
  ·simp -implicitDefEqProofs only[go_sem]
   exact .mk _ (.refl _) acv ⟨by simp[dK,okD,iL,gN,mL,ax,au,k8,decide_true,drev0,Bool.and_true,Bool.true_and,Bool.false_and,Bool.and_false],rfl⟩
  ·simp -implicitDefEqProofs only[go_sem,aj,n31.symm,n41.symm]
   cases drev1:decide (o.review≤(1099511627776:Int))
   ·simp -implicitDefEqProofs only[go_sem]
    exact .mk _ (.refl _) acv ⟨by simp[dK,okD,iL,gN,mL,ax,au,k8,decide_true,drev0,drev1,Bool.and_true,Bool.true_and,Bool.false_and,Bool.and_false],rfl⟩
   ·simp -implicitDefEqProofs only[go_sem,aj,n43.symm]
    exact .mk _ (.refl _) acv ⟨by simp[dK,okD,iL,gN,mL,ax,au,k8,decide_true,drev0,drev1,Bool.and_true,Bool.true_and],rfl⟩
 simp -implicitDefEqProofs only[go_sem,aj,n31.symm,n41.symm,beq_eq_false_iff_ne.2 k1,beq_eq_false_iff_ne.2 k2,beq_eq_false_iff_ne.2 k6,beq_eq_false_iff_ne.2 k3,beq_eq_false_iff_ne.2 k4,beq_eq_false_iff_ne.2 k5,beq_eq_false_iff_ne.2 k7,beq_eq_false_iff_ne.2 k8];exact .mk _ (.refl _) acv ⟨by simp only[dK,bnd k1 k2 k3 k4 k5 k6 k7 k8,Bool.false_and,au],rfl⟩
theorem GS(o:OpD)(h:Heap):ai Tryz.prog 22 [opA o] h fun r h' =>r= .b (eU o)∧h' =h:=by
 have hr:=fun hh=>Ju o hh
 have ht:=fun hh=>Mt o hh
 have hv:=fun hh=>gq o.val hh
 simp only[opA,opC,aU]at hr ht hv;refine acn Tryz.func22 48 [.tmp 2] fun hwf=>?_
 simp -implicitDefEqProofs only[go_sem,opA,opC];intro i1 h1;simp -implicitDefEqProofs only[go_sem];refine(oS o.subj _).pthen ?_;cases d1:bt o.subj
 ·simp -implicitDefEqProofs only[go_sem]
  exact .mk _ (.refl _) (.ak h1) ⟨by simp_all [eU,Bool.false_and,au],rfl⟩
 simp -implicitDefEqProofs only[go_sem];refine(hr _).pthen ?_;cases d2:lV o
 ·exact ag8
 cases d3:decide ((4096:Int)<(o.text.length:Int))
 case true=>
  have e3:decide (o.text.length≤4096)=false:=decide_eq_false acp;simp -implicitDefEqProofs only[go_sem,d3];exact .mk _ (.refl _) (.ak h1) ⟨by simp only[eU,d1,d2,e3,Bool.false_and,Bool.true_and,au],rfl⟩
 have e3:decide (o.text.length≤4096)=true:=decide_eq_true acp;simp -implicitDefEqProofs only[go_sem,d3];refine(xT o.case _).pthen ?_;cases d4:iP o.case
 ·exact ag8
 simp -implicitDefEqProofs only[go_sem];refine(xT o.field _).pthen ?_;cases d5:iP o.field
 ·exact ag8
 simp -implicitDefEqProofs only[go_sem];refine(xT o.to _).pthen ?_;cases d6:iP o.to
 ·exact ag8
 cases d7:(o.val.kind==(0:Int) && (o.val.n==(0:Int) && o.val.s==([]:Txt)))
 ·simp -implicitDefEqProofs only[go_sem,d7]
  refine(hv _).pthen ?_;have e7:eqV o.val ax=false:=d7;cases d8:bL o.val
  ·simp -implicitDefEqProofs only[go_sem]
   exact .mk _ (.refl _) (.ak h1) ⟨by simp_all [eU,Bool.or_self,Bool.false_and,Bool.true_and,au],rfl⟩
  simp -implicitDefEqProofs only[go_sem];refine(ht _).pthen ?_;simp -implicitDefEqProofs only[go_sem];exact .mk _ (.refl _) (.ak h1) ⟨by simp_all [eU,Bool.false_or,Bool.true_and,au],rfl⟩
 ·simp -implicitDefEqProofs only[go_sem,d7]
  have e7:eqV o.val ax=true:=d7;refine(ht _).pthen ?_;simp -implicitDefEqProofs only[go_sem];exact .mk _ (.refl _) (.ak h1) ⟨by simp_all [eU,Bool.true_or,Bool.true_and,au],rfl⟩
end Go.Proofs.YtcochaoekecfdaaGreatDoor
namespace Go.Bf
open Go Go.Ab
def ixD{α:Type}(q:α→Bool)(l:List α):Int:=if l.findIdx q<l.length then(l.findIdx q:Nat)else -1
theorem nI{α:Type}{q:α→Bool}{l:List α}{i:Nat}(hi:i<l.length)(h1:q l[i]=true)(h2:∀j (hj:j<i),q (l[j]'aco)=false):ixD q l=(i:Nat):=by
 have e:l.findIdx q=i:=by grind [List.findIdx_eq]
 rw[ixD,e,if_pos hi]
theorem iX{α:Type}{q:α→Bool}{l:List α}(h:∀j (hj:j<l.length),q l[j]=false):ixD q l= -1:=by
 have e:l.findIdx q=l.length:=acp;rw[ixD,e,if_neg (Nat.lt_irrefl _)]
end Go.Bf
namespace Go.Proofs.YtcochaoekecfdaaGreatDoor
open Go Go.Ab Go.Bf
theorem uW{α:Type}(y:AV)(xs:List AV)(ds:List α)(q:α→Bool)(g:FuncId)(cap:List AV)(h:Heap)(hb:Rd h 5 y xs)(hn:xs.length=ds.length)(hl:xs.length≤1000000000)(hx:∀x∈xs,bA x=true)
  (hp:∀i (h1:i<xs.length) (h2:i<ds.length),ai Tryz.prog g (xs[i]::cap) h fun r h' =>r= .b (q ds[i])∧h' =h):
  ai Tryz.prog 168 [y,.fn g cap] h fun r h' =>r= .i (ixD q ds)∧h' =h:=by
 refine acn Tryz.func168 19 [.tmp 4] fun hwf=>?_
 simp only[go_sem,hb.len];refine .intro (fun m ρ h' =>h' =h∧∃i:Nat,i≤xs.length∧m=xs.length - i∧(∀j (hj:j<i) (h2:j<ds.length),q ds[j]=false)∧lk ρ 0=some y∧lk ρ 1=some (.fn g cap)∧lk ρ 7=some (.i xs.length)∧lk ρ 8=some (.i i)) xs.length ?_ ?_
 ·refine⟨rfl,0,aco,rfl,fun j hj=>aco,?_,?_,?_,?_⟩<;>simp only[go_sem]
 ·rintro m ρ h' ⟨rfl,i,hi,rfl,hc,r0,r1,r7,r8⟩
  simp only[go_sem,r7,r8];refine .intro (fun e=>?_) (fun e=>?_)
  ·have hlt:i<xs.length:=ack e
   have hlt2:i<ds.length:=aco;have w1:IntKind.i64.wrap ((i:Int)+1)=((i+1:Nat):Int):=acE;simp only[go_sem,r0,r1,r8];refine hb.idx (e:=134) i rfl hlt acF acr fun p hp1=>?_
   have hld:=hp1.all (U:=U) (ty:=134) acr adl aeb;simp only[go_sem,hld];refine(show ai Tryz.prog g (xs[i]::cap) _ _ from hp i hlt hlt2).pthen ?_
   cases d1:q ds[i]
   ·simp only[go_sem,r8,w1]
    refine⟨_,?_,rfl,i+1,aco,rfl,fun j hj h2=>?_,?_,?_,?_,?_⟩
    ·omega
    ·grind
    all_goals simp only[go_sem,r0,r1,r7]
   ·simp only[go_sem]
    exact .same (.refl _) ⟨ac6,rfl⟩
  ·have hge:i=xs.length:=by grind
   simp only[go_sem];exact .same (.refl _) ⟨acT,rfl⟩
theorem yq{α:Type}(y:AV)(xs:List AV)(ds:List α)(q:α→Bool)(g:FuncId)(cap:List AV)(h:Heap)(hb:Rd h 4 y xs)(hn:xs.length=ds.length)(hl:xs.length≤1000000000)(hx:∀x∈xs,bA x=true)
  (hp:∀i (h1:i<xs.length) (h2:i<ds.length),ai Tryz.prog g (xs[i]::cap) h fun r h' =>r= .b (q ds[i])∧h' =h):
  ai Tryz.prog 140 [y,.fn g cap] h fun r h' =>r= .i (ixD q ds)∧h' =h:=by
 refine acn Tryz.func140 19 [.tmp 4] fun hwf=>?_
 simp only[go_sem,hb.len];refine .intro (fun m ρ h' =>h' =h∧∃i:Nat,i≤xs.length∧m=xs.length - i∧(∀j (hj:j<i) (h2:j<ds.length),q ds[j]=false)∧lk ρ 0=some y∧lk ρ 1=some (.fn g cap)∧lk ρ 7=some (.i xs.length)∧lk ρ 8=some (.i i)) xs.length ?_ ?_
 ·refine⟨rfl,0,aco,rfl,fun j hj=>aco,?_,?_,?_,?_⟩<;>simp only[go_sem]
 ·rintro m ρ h' ⟨rfl,i,hi,rfl,hc,r0,r1,r7,r8⟩
  simp only[go_sem,r7,r8];refine .intro (fun e=>?_) (fun e=>?_)
  ·have hlt:i<xs.length:=ack e
   have hlt2:i<ds.length:=aco;have w1:IntKind.i64.wrap ((i:Int)+1)=((i+1:Nat):Int):=acE;simp only[go_sem,r0,r1,r8];refine hb.idx (e:=215) i rfl hlt acF acr fun p hp1=>?_
   have hld:=hp1.all (U:=U) (ty:=215) acr adl aeb;simp only[go_sem,hld];refine(show ai Tryz.prog g (xs[i]::cap) _ _ from hp i hlt hlt2).pthen ?_
   cases d1:q ds[i]
   ·simp only[go_sem,r8,w1]
    refine⟨_,?_,rfl,i+1,aco,rfl,fun j hj h2=>?_,?_,?_,?_,?_⟩
    ·omega
    ·grind
    all_goals simp only[go_sem,r0,r1,r7]
   ·simp only[go_sem]
    exact .same (.refl _) ⟨ac6,rfl⟩
  ·have hge:i=xs.length:=by grind
   simp only[go_sem];exact .same (.refl _) ⟨acT,rfl⟩
def RdC(h:Heap)(x:AV)(c:aJ):Prop:=∃f l,x= .agg [.s c.id,.s c.owner,.s c.state,f,l]∧Rd h 4 f (c.fields.map bz)∧Rd h 3 l (c.log.map fU)
def zG(h:Heap)(y:AV)(cs:List aJ):Prop:=∃xs,Rd h 5 y xs∧xs.length=cs.length∧∀i (h1:i<xs.length) (h2:i<cs.length),RdC h xs[i] cs[i]
def RdS(h:Heap)(x:AV)(s:an):Prop:=∃y1 y2 y3 y4,x= .agg ([.i s.tick,y1,y2,y3,y4]++fV s.policy++ [.i s.version])∧zG h y1 s.cases∧Rd h 7 y2 (s.reviews.map fY)∧Rd h 3 y3 (s.notices.map jO)∧Rd h 2 y4 (s.roles.map cY)
theorem RdC.sub{h h' :Heap}{x:AV}{c:aJ}(hb:RdC h x c)(hs:Ab.Sub h h'):RdC h' x c:=by
 obtain⟨f,l,e,h1,h2⟩:=hb;exact⟨f,l,e,h1.sub hs,h2.sub hs⟩
theorem zG.sub{h h' :Heap}{y:AV}{cs:List aJ}(hb:zG h y cs)(hs:Ab.Sub h h'):zG h' y cs:=by
 obtain⟨xs,h1,h2,h3⟩:=hb;exact⟨xs,h1.sub hs,h2,fun i a b=>(h3 i a b).sub hs⟩
theorem RdS.sub{h h' :Heap}{x:AV}{s:an}(hb:RdS h x s)(hs:Ab.Sub h h'):RdS h' x s:=by
 obtain⟨y1,y2,y3,y4,e,h1,h2,h3,h4⟩:=hb;exact⟨y1,y2,y3,y4,e,h1.sub hs,h2.sub hs,h3.sub hs,h4.sub hs⟩
theorem br{α:Type}{f:α→AV}{n:Nat}(hf:∀a,(f a).cells.length=n)(l:List α):Sized n (l.map f):=fun z hz=>by
 grind
theorem ou{α:Type}{f:α→AV}(hf:∀a,bA (f a)=true)(l:List α):∀x∈l.map f,bA x=true:=fun z hz=>by
 obtain⟨a,_,rfl⟩:=List.mem_map.1 hz;exact hf a
theorem eJ{α:Type}(f:α→AV)(n:Nat)(hf:∀a,(f a).cells.length=n)(h:Heap)(l:List α):Rd h n (.sl (l.map f) .no) (l.map f):=.sl (br hf l) _
theorem rdC(h:Heap)(c:aJ):RdC h (cr c) c:=⟨_,_,rfl,eJ bz 4 (fun _=>rfl) h _,eJ fU 3 (fun _=>rfl) h _⟩
theorem W4(h:Heap)(cs:List aJ):zG h (fk cs) cs:=⟨_,eJ cr 5 (fun _=>rfl) h cs,acw,fun i h1 h2=>by grind [rdC]⟩
theorem rdS(h:Heap)(s:an):RdS h (cg s) s:=⟨_,_,_,_,rfl,W4 h _,eJ fY 7 (fun _=>rfl) h _,eJ jO 3 (fun _=>rfl) h _,eJ cY 2 (fun _=>rfl) h _⟩
theorem RdC.agg{h:Heap}{x:AV}{c:aJ}(hb:RdC h x c):bA x=true:=by
 obtain⟨f,l,rfl,_⟩:=hb;rfl
theorem zG.agg{h:Heap}{xs:List AV}{cs:List aJ}(hn:xs.length=cs.length)(hb:∀i (h1:i<xs.length) (h2:i<cs.length),RdC h xs[i] cs[i]):∀x∈xs,bA x=true:=fun x hx=>by
 obtain⟨i,hi,rfl⟩:=List.mem_iff_getElem.1 hx;exact(hb i hi aco).agg
theorem nq:(U 134).sz=5:=acF
theorem Gn:(U 215).sz=4:=acF
theorem JS:(U 9).sz≠0:=acr
theorem MC:(U 9).sz=1:=acF
theorem KX{h:Heap}{x:AV}{c:aJ}(hb:RdC h x c){k:Nat}{id:Txt}(hk:h k=some (.obj [.s id] 9)):ai Tryz.prog 169 [x,.ptr k 0] h fun r h' =>r= .b (geB c.id id)∧h' =h:=by
 obtain⟨f,l,rfl,hf,hl⟩:=hb;refine acn Tryz.func169 8 [.tmp 3] fun hwf=>?_
 simp only[go_sem];exact agS
structure Few (s:an):Prop where
 cases:s.cases.length≤1000000
 fields:∀c∈s.cases,c.fields.length≤1000000
 log:∀c∈s.cases,c.log.length≤1000000
 reviews:s.reviews.length≤1000000
 notices:s.notices.length≤1000000
 roles:s.roles.length≤1000000
theorem jz{cs:List aJ}{id:Txt}(h:bZ cs id=true):findD cs id<cs.length:=by
 grind [bZ,List.getElem?_eq_some_iff]
theorem JM{cs:List aJ}{id:Txt}(h:findD cs id<cs.length):bZ cs id=(cs[findD cs id].id==id):=by
 grind [bZ,List.getElem?_eq_getElem]
theorem JN{cs:List aJ}{id:Txt}(h:¬findD cs id<cs.length):bZ cs id=false:=by
 grind [bZ,List.getElem?_eq_none]
theorem BT{h:Heap}{x:AV}{s:an}(hb:RdS h x s)(id:Txt)(hl:s.cases.length≤1000000):ai Tryz.prog 119 [x,.s id] h fun r h' =>r= .tup [.i (findD s.cases id:Nat),.b (bZ s.cases id)]∧h' =h:=by
 obtain⟨y1,y2,y3,y4,rfl,⟨xs,hc,hn,hcs⟩,h2,h3,h4⟩:=hb;cases hp:s.policy with
 |mk pid pset palg ptgt prules pkids pobls=>
 refine acn Tryz.func119 25 [.tmp 4,.tmp 5] fun hwf=>?_
 simp only[go_sem,fV,List.cons_append,List.nil_append];intro i1 h1;simp only[go_sem];intro i2 h2;have n21:=aH h2;have n2:=aC h2;have hs:∀a b,Ab.Sub h (upd (upd h i1 a) i2 b):=fun a b=>((Sub.refl h).put h1 a).put n2 b
 simp only[go_sem,aj,n21.symm];refine(uW y1 xs s.cases (fun c=>geB c.id id) _ [.ptr i2 0] _ (hc.sub (hs _ _)) hn aco (zG.agg hn hcs) fun i a b=>KX ((hcs i a b).sub (hs _ _)) (ah ..)).pthen ?_
 by_cases hf:findD s.cases id<s.cases.length
 ·have e1:ixD (fun c=>geB c.id id) s.cases=(findD s.cases id:Nat):=by rw[ixD];exact if_pos hf
  have d1:decide (((findD s.cases id:Nat):Int)<0)=false:=decide_eq_false aco;rw[e1];simp only[go_sem,aj,n21.symm,d1];refine⟨.of acs,?_⟩;obtain⟨f,l,ex,hfl,hlg⟩:=hcs (findD s.cases id) aco hf;refine hc.idx (e:=134) (findD s.cases id) rfl aco nq acr fun p hp1=>?_
  simp only[go_sem];refine hp1.field (f:=0) (off:=0) (t:=9) rfl JS fun p2 hp2=>?_
  have hld:=fun a b=>(hp2.sub (hs a b)).part (U:=U) (ty:=9) JS (by rw[ex,MC];exact ab9 rfl)
  simp only[go_sem,hld,ex];exact .mk _ (.refl _) (hs _ _) ⟨by rw[JM hf];rfl,rfl⟩
 ·have e1:ixD (fun c=>geB c.id id) s.cases= -1:=by rw[ixD];exact if_neg hf
  have e2:findD s.cases id=s.cases.length:=by
   grind [findD,List.findIdx_le_length]
  have d1:decide ((-1:Int)<0)=true:=rfl;rw[e1];simp only[go_sem,aj,n21.symm,d1];simp only[go_sem,hc.len];exact .mk _ (.refl _) (hs _ _) ⟨by rw[JN hf,e2,hn];rfl,rfl⟩
theorem HS:(U 149).sz=2:=acF
theorem I9(y:AV)(ds:List gj)(r:gj)(h:Heap)(hb:Rd h 2 y (ds.map cY))(hl:ds.length≤1000000000):
  ai Tryz.prog 209 [y,cY r] h fun x h' =>x= .i (ixD (uG r) ds)∧h' =h:=by
 refine acn Tryz.func209 19 [.tmp 4] fun hwf=>?_
 simp only[go_sem,cY];intro i1 h1;have hs:∀a,Ab.Sub h (upd h i1 a):=fun a=>(Sub.refl h).put h1 a
 simp only[go_sem,hb.len,acd];refine .intro (fun m ρ h' =>h' =upd h i1 (some (.obj [.s r.subj,.s r.role] 149))∧∃i:Nat,i≤ds.length∧m=ds.length - i∧(∀j (hj:j<i) (h2:j<ds.length),uG r ds[j]=false)∧lk ρ 0=some y∧lk ρ 3=some (.ptr i1 0)∧lk ρ 7=some (.i ds.length)∧lk ρ 8=some (.i i)) ds.length ?_ ?_
 ·refine⟨rfl,0,aco,rfl,fun j hj=>aco,?_,?_,?_,?_⟩<;>simp only[go_sem]
 ·rintro m ρ h' ⟨rfl,i,hi,rfl,hc,r0,r3,r7,r8⟩
  simp only[go_sem,r7,r8];refine .intro (fun e=>?_) (fun e=>?_)
  ·have hlt:i<ds.length:=ack e
   have w1:IntKind.i64.wrap ((i:Int)+1)=((i+1:Nat):Int):=acE;simp only[go_sem,r0,r3,r8];refine⟨.of acs,?_⟩;refine hb.idx (e:=149) i rfl acp HS acr fun p hp1=>?_
   have hld:=fun a=>(hp1.sub (hs a)).all (U:=U) (ty:=149) acr (by rw[HS,ace];rfl) ac3
   cases d1:uG r ds[i]
   ·have d2:=d1
    simp only[uG]at d2;simp only[go_sem,r8,hld,ace,cY,d2,w1];refine⟨_,?_,rfl,i+1,aco,rfl,fun j hj h2=>?_,?_,?_,?_,?_⟩
    ·omega
    ·grind
    all_goals simp only[go_sem,r0,r3,r7]
   ·have d2:=d1
    simp only[uG]at d2;simp only[go_sem,hld,ace,cY,d2];exact .mk _ (.refl _) (hs _) ⟨by rw[nI hlt d1 fun j hj=>hc j hj aco];rfl,rfl⟩
  ·have hge:i=ds.length:=by grind
   simp only[go_sem];exact .mk _ (.refl _) (hs _) ⟨acT,rfl⟩
theorem FA(y:AV)(ds:List gj)(r:gj)(h:Heap)(hb:Rd h 2 y (ds.map cY))(hl:ds.length≤1000000000):
  ai Tryz.prog 171 [y,cY r] h fun x h' =>x= .b (yh ds r)∧h' =h:=by
 have hq:=fun H (hH:Ab.Sub h H)=>I9 y ds r H (hb.sub hH) hl
 refine acn Tryz.func171 9 [.tmp 4] fun hwf=>?_
 simp only[go_sem,cY];intro i1 h1;simp only[go_sem];refine(hq _ (.ak h1)).pthen ?_;simp only[go_sem];refine .mk _ (.refl _) (.ak h1) ⟨?_,rfl⟩
 grind [au,yh,ixD,decide_eq_true,List.any_eq_true,aci,List.findIdx_getElem,decide_eq_false,List.any_eq_false]
theorem FB{h:Heap}{x:AV}{s:an}(hb:RdS h x s)(subj role:Txt)(hl:s.roles.length≤1000000000):ai Tryz.prog 122 [x,.s subj,.s role] h fun r h' =>r= .b (yh s.roles ⟨subj,role⟩)∧h' =h:=by
 obtain⟨y1,y2,y3,y4,rfl,hc,h2,h3,h4⟩:=hb;have hq:=fun H (hH:Ab.Sub h H)=>FA y4 s.roles ⟨subj,role⟩ H (h4.sub hH) hl
 cases hp:s.policy with
 |mk pid pset palg ptgt prules pkids pobls=>
 refine acn Tryz.func122 13 [.tmp 6] fun hwf=>?_
 simp only[go_sem,fV,List.cons_append,List.nil_append];intro i1 h1;simp only[go_sem];refine(hq _ (.ak h1)).pthen ?_;simp only[go_sem];exact acH
theorem Ix{h:Heap}(f:cM){k:Nat}{name:Txt}(hk:h k=some (.obj [.s name] 9)):ai Tryz.prog 141 [bz f,.ptr k 0] h fun r h' =>r= .b (f.name==name)∧h' =h:=by
 refine acn Tryz.func141 8 [.tmp 3] fun hwf=>?_
 simp only[go_sem,bz];exact agS
theorem Iy{fs:List cM}{name:Txt}(h:fs.findIdx (fun f=>f.name==name)<fs.length):eC fs name=fs[fs.findIdx fun f=>f.name==name].val:=by
 unfold eC;rw[show fs.find? (fun f=>f.name==name)=some fs[fs.findIdx fun f=>f.name==name]from List.find?_eq_some_iff_getElem.2 ⟨List.findIdx_getElem (w:=h),_,h,rfl,fun j hj=>acp⟩]
theorem Iz{fs:List cM}{name:Txt}(h:¬fs.findIdx (fun f=>f.name==name)<fs.length):eC fs name=ax:=by
 grind [eC,List.findIdx_le_length,List.find?_eq_none,List.findIdx_eq_length]
theorem C7{h:Heap}{x:AV}{c:aJ}(hb:RdC h x c)(name:Txt)(hl:c.fields.length≤1000000000):ai Tryz.prog 77 [x,.s name] h fun r h' =>r=aU (eC c.fields name)∧h' =h:=by
 obtain⟨f,l,rfl,hf,hlg⟩:=hb;refine acn Tryz.func77 19 [.cell 4 30] fun hwf=>?_
 simp only[go_sem];intro i1 h1;simp only[go_sem];intro i2 h2;have n21:=aH h2;have n2:=aC h2;simp only[go_sem];intro i3 h3;have h3' :=aC h3;have n31:=aH h3';have n3:=aC h3';have hs:∀a b d,Ab.Sub h (upd (upd (upd h i1 a) i2 b) i3 d):=fun a b d=>(((Sub.refl h).put h1 a).put n2 b).put n3 d
 simp only[go_sem,aj,n21.symm,n31.symm];refine(yq f _ c.fields (fun f=>f.name==name) _ [.ptr i2 0] _ (hf.sub (hs _ _ _)) acw acp (ou (fun _=>rfl) _) fun i a b=>by
  rw[ace];exact Ix _ (by grind [aj,fZ,not_false_eq_true])).pthen ?_
 by_cases hx:c.fields.findIdx (fun f=>f.name==name)<c.fields.length
 ·have e1:ixD (fun f=>f.name==name) c.fields=(c.fields.findIdx (fun f=>f.name==name):Nat):=by simp_all [ixD,if_pos]
  have d1:decide ((0:Int)≤((c.fields.findIdx (fun f=>f.name==name):Nat):Int))=true:=decide_eq_true aco
  rw[e1];simp only[go_sem,aj,n21.symm,n31.symm,d1];refine hf.idx (e:=215) (c.fields.findIdx fun f=>f.name==name) rfl acp Gn acr fun p hp1=>?_
  simp only[go_sem];refine hp1.field (f:=1) (off:=1) (t:=30) rfl acr fun p2 hp2=>?_
  have hld:=fun a b d=>(hp2.sub (hs a b d)).part (U:=U) (ty:=30) acr (by rw[ace,show(U 30).sz=3 by rfl];exact ab9 rfl)
  simp only[go_sem,hld,ace,bz];exact .mk _ (.refl _) acp ⟨by rw[Iy hx];rfl,rfl⟩
 ·have e1:ixD (fun f=>f.name==name) c.fields= -1:=by simp_all [ixD,if_neg]
  have d1:decide ((0:Int)≤ -1)=false:=rfl;rw[e1];simp only[go_sem,d1];exact .mk _ (.refl _) acp ⟨by rw[Iz hx];rfl,rfl⟩
end Go.Proofs.YtcochaoekecfdaaGreatDoor
namespace Go.Ab
open Go
mutual
def cR:AV→Bool
 |.v _=>true
 |.s _=>true
 |.agg xs=>gU xs
 |.tup xs=>gU xs
 |.sl xs (.own _)=>false
 |.sl xs _=>gU xs
 |.pe x _=>cR x
 |.ifc _ x=>cR x
 |_=>false
def gU:List AV→Bool
 | []=>true
 |x::r=>cR x && gU r
end
mutual
theorem ud{F:Nat→Prop}:∀x:AV,cR x=true→Av F x
 |.v x,_=> .v x
 |.s l,_=> .s l
 |.agg xs,h=> .agg xs (qQ xs aeY)
 |.tup xs,h=> .tup xs (qQ xs aeY)
 |.sl xs .no,h=> .sl xs .no (qQ xs aeY) fun _ e=>acR
 |.sl xs .full,h=> .sl xs .full (qQ xs aeY) fun _ e=>acR
 |.sl xs (.own _),h=>afW
 |.pe x o,h=> .pe x o (ud x aeY)
 |.ptr i o,h=>afW
 |.oa i o l,h=>afW
 |.ifc t x,h=> .ifc t x (ud x aeY)
 |.fn f c,h=>afW
 |.mp i,h=>afW
 |.ob i o l c z,h=>afW
theorem qQ{F:Nat→Prop}:∀xs:List AV,gU xs=true→∀x∈xs,Av F x
 | [],_,x,hx=>by cases hx
 |y::r,h,x,hx=>by
  simp only[gU,Bool.and_eq_true]at h;rcases List.mem_cons.1 hx with e|e
  ·rw[e];exact ud y h.1
  ·exact qQ r h.2 x e
end
theorem bu{α:Type}{f:α→AV}(hf:∀a,cR (f a)=true):∀l:List α,gU (l.map f)=true
 | []=>rfl
 |a::r=>by simp[gU,hf a,bu hf r]
theorem A4{xs:List AV}(h:gU xs=true):∀x∈xs,cR x=true:=by
 induction xs with
 |nil=>simp
 |cons y r ih=>
  simp_all [gU,Bool.and_eq_true,List.mem_cons]
theorem ng{x:AV}(h:cR x=true):∀c∈x.cells,cR c=true:=by
 cases x with
 |agg cs=>exact A4 (show gU cs=true by grind [cR])
 |_=>intro c hc;rw[List.mem_singleton.1 hc];exact h
theorem Frz.pure{g h:Heap}{x:AV}(hx:cR x=true):Frz g h x x:=.keep x (ud x hx)
theorem Ow.frz{g h:Heap}{tb:TypeId}{sz id:Nat}{y:AV}{xs ys:List AV}(hw:Ow tb h sz id y xs)(hg:g id=Option.none)(hn:xs.length=ys.length)(hz:∀i (h1:i<xs.length) (h2:i<ys.length),xs[i].cells.length=ys[i].cells.length)
  (hr:∀i (h1:i<xs.length) (h2:i<ys.length) j (h3:j<xs[i].cells.length) (h4:j<ys[i].cells.length),Frz g h xs[i].cells[j] ys[i].cells[j]):Frz g h y (.sl ys .no):=by
 obtain⟨cap,rest,rfl,h1,h2,h3,h4⟩:=hw;have hl:=bf h4;refine .ob id 0 _ cap sz _ tb ys hg h1 acp hn.symm (fun i hi=>by rw[←hz i aco hi];exact h4 _ acw) fun i hi j hj hb=>?_
 have hj' :j<sz:=by rw[←h4 xs[i] acw,hz i aco hi];omega
 have hbd:i*sz+j<xs.length*sz:=by
  have:(i+1)*sz≤xs.length*sz:=Nat.mul_le_mul_right _ aco;rw[Nat.add_mul,Nat.one_mul]at this;omega
 have hjx:j<xs[i].cells.length:=acp;have e:(aq xs++rest)[0+(i*sz+j)]? =some (xs[i].cells[j]):=by
  rw[Nat.zero_add,List.getElem?_append_left aco,uK h4 aco hj',List.getElem?_eq_getElem hjx]
 rw[List.getElem?_eq_getElem hb,Option.some.injEq]at e;rw[e];exact hr i aco hi j hjx hj
theorem OwE.frz{g h:Heap}{tb:TypeId}{sz:Nat}{y:AV}{xs:List AV}(hw:OwE tb g h sz y xs)(hp:gU xs=true):Frz g h y (.sl xs .no):=by
 rcases hw with⟨rfl,rfl⟩|⟨id,hg,hw⟩
 ·exact .sl [] [] .full rfl aco acw
 ·exact hw.frz hg rfl aco fun i h1 h2 j h3 h4=> .pure (ng (A4 hp _ (aci h1)) _ acw)
theorem OwE.lG{U:TypeId→TI}{h:Heap}{sz:Nat}{tb:TypeId}{xs:List AV}{Q:AV→Heap→Prop}(hz:(U tb).sz=sz)(hf:Ab.fit (U tb).zero sz)(hb:Sized sz xs)(hk:∀y' h',OwE tb h h' sz y' xs→Sub h h'→Q y' h'):rX U h [] xs tb Q:=by
 subst hz;refine⟨fun hn=>?_,fun hn=>?_⟩
 ·subst hn
  exact hk _ _ (.inl ⟨rfl,rfl⟩) (.refl _)
 ·refine .ob hf (j0.ow hb acF acw fun id y' h' hid hw ho=>?_)
  exact hk _ _ (.inr ⟨id,hid,hw⟩) fun j b hj=>acp
theorem Rd.nil{h:Heap}{sz:Nat}{y:AV}{xs:List AV}{e:TypeId}{Q:AV→Heap→Prop}(hb:Rd h sz y xs)(hk:∀b:Bool,(xs≠ []→b=false)→Q (.b b) h):Q9 h .eql y Q (.slice e):=by
 obtain⟨_,⟨q,rfl⟩|⟨id,off,cap,cs,t,rfl,_⟩⟩:=hb
 ·exact hk
 ·exact hk false fun _=>rfl
def nid:AV→Option Nat
 |.ob id _ _ _ _=>some id
 |_=>none
theorem OwE.nid{tb:TypeId}{h0 h:Heap}{sz:Nat}{y:AV}{xs:List AV}(hw:OwE tb h0 h sz y xs){id:Nat}(e:Ab.nid y=some id):h0 id=Option.none∧h id≠Option.none∧Ow tb h sz id y xs:=by
 rcases hw with⟨rfl,rfl⟩|⟨id',h1,hw⟩
 ·cases e
 ·obtain⟨cap,rest,rfl,h2,h3⟩:=hw
  cases e;exact⟨h1,acp,cap,rest,rfl,h2,h3⟩
theorem Ow.nid{tb:TypeId}{h:Heap}{sz id:Nat}{y:AV}{xs:List AV}(hw:Ow tb h sz id y xs):Ab.nid y=some id:=by
 obtain⟨cap,rest,rfl,h2,h3⟩:=hw;rfl
theorem OwE.keep{tb:TypeId}{h0 h h' :Heap}{sz:Nat}{y:AV}{xs:List AV}(hw:OwE tb h0 h sz y xs)(hs:∀id,Ab.nid y=some id→h' id=h id):OwE tb h0 h' sz y xs:=by
 rcases hw with hw|⟨id,h1,hw⟩
 ·exact agl
 ·exact .inr ⟨id,h1,hw.same (hs id hw.nid)⟩
theorem OwE.less{tb:TypeId}{h0 h1 h:Heap}{sz:Nat}{y:AV}{xs:List AV}(hw:OwE tb h1 h sz y xs)(hs:Sub h0 h1):OwE tb h0 h sz y xs:=by
 rcases hw with hw|⟨id,a,hw⟩
 ·exact agl
 ·exact .inr ⟨id,hs.none a,hw⟩
end Go.Ab
namespace Go.Proofs.YtcochaoekecfdaaGreatDoor
open Go Go.Ab Go.Bf
theorem Ap(y:AV)(xs:List AV)(h:Heap)(hb:Rd h 5 y xs)(hl:xs.length≤1000000):ai Tryz.prog 131 [y] h fun r h' =>OwE 134 h h' 5 r xs∧Ab.Sub h h' :=by
 refine acn Tryz.func131 8 [.tmp 2] fun hwf=>?_
 simp only[go_sem];refine hb.nil fun b hxs=>?_
 cases b
 ·simp only[go_sem]
  refine hb.src (U:=U) (e:=134) acF ⟨hb.1,aco,OwE.lG (U:=U) (sz:=5) acF acF hb.1 fun y' h' hw hs=>?_⟩
  exact agN
 ·exact agH
theorem vN(y:AV)(xs:List AV)(h:Heap)(hb:Rd h 7 y xs)(hl:xs.length≤1000000):ai Tryz.prog 129 [y] h fun r h' =>OwE 143 h h' 7 r xs∧Ab.Sub h h' :=by
 refine acn Tryz.func129 8 [.tmp 2] fun hwf=>?_
 simp only[go_sem];refine hb.nil fun b hxs=>?_
 cases b
 ·simp only[go_sem]
  refine hb.src (U:=U) (e:=143) acF ⟨hb.1,aco,OwE.lG (U:=U) (sz:=7) acF acF hb.1 fun y' h' hw hs=>?_⟩
  exact agN
 ·exact agH
theorem vM(y:AV)(xs:List AV)(h:Heap)(hb:Rd h 3 y xs)(hl:xs.length≤1000000):ai Tryz.prog 130 [y] h fun r h' =>OwE 146 h h' 3 r xs∧Ab.Sub h h' :=by
 refine acn Tryz.func130 8 [.tmp 2] fun hwf=>?_
 simp only[go_sem];refine hb.nil fun b hxs=>?_
 cases b
 ·simp only[go_sem]
  refine hb.src (U:=U) (e:=146) acF ⟨hb.1,aco,OwE.lG (U:=U) (sz:=3) acF acF hb.1 fun y' h' hw hs=>?_⟩
  exact agN
 ·exact agH
theorem Il(y:AV)(xs:List AV)(h:Heap)(hb:Rd h 2 y xs)(hl:xs.length≤1000000):ai Tryz.prog 177 [y] h fun r h' =>OwE 149 h h' 2 r xs∧Ab.Sub h h' :=by
 refine acn Tryz.func177 8 [.tmp 2] fun hwf=>?_
 simp only[go_sem];refine hb.nil fun b hxs=>?_
 cases b
 ·simp only[go_sem]
  refine hb.src (U:=U) (e:=149) acF ⟨hb.1,aco,OwE.lG (U:=U) (sz:=2) acF acF hb.1 fun y' h' hw hs=>?_⟩
  exact agN
 ·exact agH
theorem EZ(y:AV)(xs:List AV)(h:Heap)(hb:Rd h 4 y xs)(hl:xs.length≤1000000):ai Tryz.prog 184 [y] h fun r h' =>OwE 215 h h' 4 r xs∧Ab.Sub h h' :=by
 refine acn Tryz.func184 8 [.tmp 2] fun hwf=>?_
 simp only[go_sem];refine hb.nil fun b hxs=>?_
 cases b
 ·simp only[go_sem]
  refine hb.src (U:=U) (e:=215) acF ⟨hb.1,aco,OwE.lG (U:=U) (sz:=4) acF acF hb.1 fun y' h' hw hs=>?_⟩
  exact agN
 ·exact agH
theorem qn(y:AV)(xs:List AV)(h:Heap)(hb:Rd h 3 y xs)(hl:xs.length≤1000000):ai Tryz.prog 132 [y] h fun r h' =>OwE 205 h h' 3 r xs∧Ab.Sub h h' :=by
 refine acn Tryz.func132 8 [.tmp 2] fun hwf=>?_
 simp only[go_sem];refine hb.nil fun b hxs=>?_
 cases b
 ·simp only[go_sem]
  refine hb.src (U:=U) (e:=205) acF ⟨hb.1,aco,OwE.lG (U:=U) (sz:=3) acF acF hb.1 fun y' h' hw hs=>?_⟩
  exact agN
 ·exact agH
theorem wN(y:AV)(xs:List AV)(h:Heap)(hb:Rd h 3 y xs)(hl:xs.length≤1000000)(hp:gU xs=true):ai Tryz.prog 132 [y] h fun r h' =>r= .sl xs .no∧h' =h:=
 ai.freeze fun g hg _=>(qn y xs g (hb.sub hg) hl).mono fun r h' ⟨h1,h2⟩=>⟨h2,_,h1.frz hp,rfl⟩
theorem KA(y:AV)(xs:List AV)(h:Heap)(hb:Rd h 3 y xs)(hl:xs.length≤1000000):ai Tryz.prog 91 [y] h fun r h' =>OwE 158 h h' 3 r xs∧Ab.Sub h h' :=by
 refine acn Tryz.func91 8 [.tmp 2] fun hwf=>?_
 simp only[go_sem];refine hb.nil fun b hxs=>?_
 cases b
 ·simp only[go_sem]
  refine hb.src (U:=U) (e:=158) acF ⟨hb.1,aco,OwE.lG (U:=U) (sz:=3) acF acF hb.1 fun y' h' hw hs=>?_⟩
  exact agN
 ·exact agH
theorem Ar(y:AV)(xs:List AV)(h:Heap)(hb:Rd h 3 y xs)(hl:xs.length≤1000000)(hp:gU xs=true):ai Tryz.prog 91 [y] h fun r h' =>r= .sl xs .no∧h' =h:=
 ai.freeze fun g hg _=>(KA y xs g (hb.sub hg) hl).mono fun r h' ⟨h1,h2⟩=>⟨h2,_,h1.frz hp,rfl⟩
theorem Im(y:AV)(xs:List AV)(h:Heap)(hb:Rd h 5 y xs)(hl:xs.length≤1000000):ai Tryz.prog 219 [y] h fun r h' =>OwE 224 h h' 5 r xs∧Ab.Sub h h' :=by
 refine acn Tryz.func219 8 [.tmp 2] fun hwf=>?_
 simp only[go_sem];refine hb.nil fun b hxs=>?_
 cases b
 ·simp only[go_sem]
  refine hb.src (U:=U) (e:=224) acF ⟨hb.1,aco,OwE.lG (U:=U) (sz:=5) acF acF hb.1 fun y' h' hw hs=>?_⟩
  exact agN
 ·exact agH
theorem CM(y:AV)(xs:List AV)(h:Heap)(hb:Rd h 7 y xs)(hl:xs.length≤1000000):ai Tryz.prog 220 [y] h fun r h' =>OwE 65 h h' 7 r xs∧Ab.Sub h h' :=by
 refine acn Tryz.func220 8 [.tmp 2] fun hwf=>?_
 simp only[go_sem];refine hb.nil fun b hxs=>?_
 cases b
 ·simp only[go_sem]
  refine hb.src (U:=U) (e:=65) acF ⟨hb.1,aco,OwE.lG (U:=U) (sz:=7) acF acF hb.1 fun y' h' hw hs=>?_⟩
  exact agN
 ·exact agH
theorem Ik(y:AV)(xs:List AV)(h:Heap)(hb:Rd h 7 y xs)(hl:xs.length≤1000000):ai Tryz.prog 221 [y] h fun r h' =>OwE 229 h h' 7 r xs∧Ab.Sub h h' :=by
 refine acn Tryz.func221 8 [.tmp 2] fun hwf=>?_
 simp only[go_sem];refine hb.nil fun b hxs=>?_
 cases b
 ·simp only[go_sem]
  refine hb.src (U:=U) (e:=229) acF ⟨hb.1,aco,OwE.lG (U:=U) (sz:=7) acF acF hb.1 fun y' h' hw hs=>?_⟩
  exact agN
 ·exact agH
theorem E2(y:AV)(xs:List AV)(h:Heap)(hb:Rd h 7 y xs)(hl:xs.length≤1000000)(hp:gU xs=true):ai Tryz.prog 221 [y] h fun r h' =>r= .sl xs .no∧h' =h:=
 ai.freeze fun g hg _=>(Ik y xs g (hb.sub hg) hl).mono fun r h' ⟨h1,h2⟩=>⟨h2,_,h1.frz hp,rfl⟩
theorem E0(y:AV)(xs:List AV)(h:Heap)(hb:Rd h 7 y xs)(hl:xs.length≤1000000):ai Tryz.prog 253 [y] h fun r h' =>OwE 273 h h' 7 r xs∧Ab.Sub h h' :=by
 refine acn Tryz.func253 8 [.tmp 2] fun hwf=>?_
 simp only[go_sem];refine hb.nil fun b hxs=>?_
 cases b
 ·simp only[go_sem]
  refine hb.src (U:=U) (e:=273) acF ⟨hb.1,aco,OwE.lG (U:=U) (sz:=7) acF acF hb.1 fun y' h' hw hs=>?_⟩
  exact agN
 ·exact agH
theorem CO(y:AV)(xs:List AV)(h:Heap)(hb:Rd h 7 y xs)(hl:xs.length≤1000000)(hp:gU xs=true):ai Tryz.prog 253 [y] h fun r h' =>r= .sl xs .no∧h' =h:=
 ai.freeze fun g hg _=>(E0 y xs g (hb.sub hg) hl).mono fun r h' ⟨h1,h2⟩=>⟨h2,_,h1.frz hp,rfl⟩
theorem E1(y:AV)(xs:List AV)(h:Heap)(hb:Rd h 3 y xs)(hl:xs.length≤1000000):ai Tryz.prog 283 [y] h fun r h' =>OwE 30 h h' 3 r xs∧Ab.Sub h h' :=by
 refine acn Tryz.func283 8 [.tmp 2] fun hwf=>?_
 simp only[go_sem];refine hb.nil fun b hxs=>?_
 cases b
 ·simp only[go_sem]
  refine hb.src (U:=U) (e:=30) acF ⟨hb.1,aco,OwE.lG (U:=U) (sz:=3) acF acF hb.1 fun y' h' hw hs=>?_⟩
  exact agN
 ·exact agH
theorem CP(y:AV)(xs:List AV)(h:Heap)(hb:Rd h 3 y xs)(hl:xs.length≤1000000)(hp:gU xs=true):ai Tryz.prog 283 [y] h fun r h' =>r= .sl xs .no∧h' =h:=
 ai.freeze fun g hg _=>(E1 y xs g (hb.sub hg) hl).mono fun r h' ⟨h1,h2⟩=>⟨h2,_,h1.frz hp,rfl⟩
def PL(h0 h:Heap)(x:AV)(c:aJ):Prop:=∃f l,x= .agg [.s c.id,.s c.owner,.s c.state,f,l]∧OwE 215 h0 h 4 f (c.fields.map bz)∧OwE 205 h0 h 3 l (c.log.map fU)∧∀i,nid f=some i→nid l≠some i
theorem cK{h:Heap}{i j:Nat}{b:Blk}(h1:h i=none)(h2:h j=some b):i≠j:=fun e=>by subst e;rw[h2]at h1;cases h1
theorem yL{h:Heap}{x:AV}{c:aJ}(hb:RdC h x c)(hl:c.fields.length≤1000000)(hl2:c.log.length≤1000000):ai Tryz.prog 139 [x] h fun r h' =>PL h h' r c∧Ab.Sub h h' :=by
 obtain⟨f,l,rfl,hf,hlg⟩:=hb;refine acn Tryz.func139 12 [.cell 2 134] fun hwf=>?_
 simp only[go_sem];intro i1 h1;simp only[go_sem];intro i2 h2;have n21:=aH h2;have n2:=aC h2;simp only[go_sem];obtain⟨H,eH⟩:∃H,upd (upd h i1 (some (.obj [.s c.id,.s c.owner,.s c.state,f,l] 134))) i2 (some (.obj [.s [],.s [],.s [],.sl [] .full,.sl [] .full] 134))=H:=⟨_,rfl⟩;have hH:Ab.Sub h H:=adq;have g1:H i1=some (.obj [.s c.id,.s c.owner,.s c.state,f,l] 134):=adY;have g2:H i2=some (.obj [.s [],.s [],.s [],.sl [] .full,.sl [] .full] 134):=adR;rw[eH];refine .stage (hm1 i1 _) [0,1,3,4,2,6,5] [7,8,9] (.hm1 g1) acs ?_;simp only[go_sem,fW];refine(EZ f _ H (hf.sub hH) acp).mono fun f' H1 ⟨hf',s1⟩=>?_
 refine⟨.hm1 (s1 _ _ g1),?_⟩;simp only[go_sem];refine(qn l _ H1 ((hlg.sub hH).sub s1) acp).mono fun l' H2 ⟨hl',s2⟩=>?_
 refine⟨.hm1 (s2 _ _ (s1 _ _ g1)),cQ,(fun _ _ e=>acR),?_⟩
 have g1' :=s2 _ _ (s1 _ _ g1);have g2' :=s2 _ _ (s1 _ _ g2);simp only[go_sem,g1',hf'.rd.fit,hf'.rd.cells,hl'.rd.fit,hl'.rd.cells];have n1:∀b,upd H2 i1 b i2=some (.obj [.s [],.s [],.s [],.sl [] .full,.sl [] .full] 134):=fun b=>acZ
 refine⟨fun _ _ e=>acR,fun _ _ e=>acR,?_⟩
 simp only[go_sem,n1];have hid:∀ {y:AV} {xs:List AV} {G:Heap} {tb:TypeId} {z:Nat},Ab.Sub H G→OwE tb G H2 z y xs→∀a b,OwE tb h (upd (upd H2 i1 a) i2 b) z y xs:=fun hG hw a b=>(hw.less (hH.trans hG)).keep fun id e=>by
  have h0:=hG.none (hw.nid e).1;rw[ag _ _ (cK h0 g2),ag _ _ (cK h0 g1)]
 refine .mk _ (.refl _) (.refl _) ⟨⟨f',l',rfl,hid (.refl _) (hf'.sub s2) _ _,hid s1 hl' _ _,fun i ef el=>?_⟩,((hH.trans (s1.trans s2)).put h1 _).put n2 _⟩
 exact(hf'.nid ef).2.1 ((hl'.nid el).1)
theorem wq{h:Heap}{x:AV}{c:aJ}(hb:RdC h x c)(hl:c.fields.length≤1000000)(hl2:c.log.length≤1000000):ai Tryz.prog 139 [x] h fun r h' =>r=cr c∧h' =h:=
 ai.freeze fun g hg _=>(yL (hb.sub hg) hl hl2).mono fun r h' ⟨⟨f,l,e,hf,hlg,_⟩,h2⟩=>⟨h2,cr c,by
  subst e;refine .agg _ _ rfl fun i h1 h2=>?_
  rcases i with _|_|_|_|_|i
  ·exact acK
  ·exact acK
  ·exact acK
  ·exact hf.frz (bu (fun _=>rfl) _)
  ·exact hlg.frz (bu (fun _=>rfl) _)
  ·simp at h1;omega,rfl⟩
theorem L3(l:List bM):gU (l.map cP)=true:=bu (fun _=>rfl) l
theorem UJ:(U 274).sz=1:=acF
theorem UK:(U 270).sz=1:=acF
theorem tU(t:fO)(ht:lB t=0)(h:Heap):ai Tryz.prog 218 [aS t] h fun r h' =>r=aS t∧h' =h:=by
 obtain⟨hl,he⟩:=Bj ht;refine acn Tryz.func218 33 [.tmp 2] fun hwf=>?_
 simp only[go_sem,aS,acd];refine .intro (fun m ρ h' =>∃(i:Nat) (y:AV) (ys:List AV),Acc U 270 h h' y ys∧ys.length=i∧(∀j (h1:j<ys.length) (h2:j<t.length),∃q,ys[j]= .sl (t[j].map fP) q)∧i≤t.length∧m=t.length - i∧lk ρ 3=some y∧lk ρ 9=some (.sl (t.map bP) .no)∧lk ρ 10=some (.i t.length)∧lk ρ 11=some (.i i)) t.length ?_ ?_
 ·refine⟨0,_,[],.full (.refl _),rfl,fun j h1=>acp,aco,rfl,?_,?_,?_,?_⟩<;>simp only[go_sem]
 ·rintro m ρ h' ⟨i,y,ys,hy,hn,hys,hi,rfl,r3,r9,r10,r11⟩
  simp only[go_sem,r10,r11];refine .intro (fun e=>?_) (fun e=>?_)
  ·have hlt:i<t.length:=ack e
   have w1:IntKind.i64.wrap ((i:Int)+1)=((i+1:Nat):Int):=acE;obtain⟨ha0,hal,hae⟩:=Ao (he _ (aci hlt));simp only[go_sem,r9,r11];refine .at i acp acz ?_;simp only[go_sem,ace,bP,acd];refine .intro (fun m ρ H=>∃(j:Nat) (z:AV) (zs:List AV),Acc U 274 h' H z zs∧zs=(t[i].take j).map fP∧j≤t[i].length∧m=t[i].length - j∧lk ρ 3=some y∧lk ρ 9=some (.sl (t.map bP) .no)∧lk ρ 10=some (.i t.length)∧lk ρ 11=some (.i i)∧lk ρ 6=some z∧lk ρ 15=some (.sl (t[i].map fP) .no)∧lk ρ 16=some (.i t[i].length)∧lk ρ 17=some (.i j)) t[i].length ?_ ?_
   ·refine⟨0,_,[],.full (.refl _),rfl,aco,rfl,?_,?_,?_,?_,?_,?_,?_,?_⟩<;>simp only[go_sem,r3,r9,r10,r11]
   ·rintro m ρ H ⟨j,z,zs,hz,rfl,hj,rfl,r3,r9,r10,r11,r6,r15,r16,r17⟩
    simp only[go_sem,r16,r17];refine .intro (fun e=>?_) (fun e=>?_)
    ·have hlt2:j<t[i].length:=ack e
     have w2:IntKind.i64.wrap ((j:Int)+1)=((j+1:Nat):Int):=acE;have hml:=(An (hae _ (aci hlt2))).2.1;simp only[go_sem,r15,r17];refine .at j acp acz ?_;simp only[go_sem,r6,ace,fP];refine(CO _ (t[i][j].map cP) _ (eJ cP 7 (fun _=>rfl) _ _) acp (L3 _)).pthen ?_
     simp only[go_sem];refine hz.app (zs:=[fP t[i][j]]) acr acr (fun k hk=>hk) (by rw[UJ];exact br (f:=fP) (fun _=>rfl) _) (by rw[UJ];exact br (f:=fP) (fun _=>rfl) [t[i][j]]) (by simp only[go_sem,acd,List.length_cons,List.length_nil,List.length_take];omega) fun z' H' hz' _=>?_
     simp only[go_sem,r17,w2];refine⟨_,?_,j+1,z',_,hz',?_,aco,rfl,?_,?_,?_,?_,?_,?_,?_,?_⟩
     ·omega
     ·grind [List.take_succ_eq_append_getElem]
     all_goals simp only[go_sem,r3,r9,r10,r11,r15,r16]
    ·have hge:j=t[i].length:=by grind
     subst hge;rw[List.take_length]at hz;have hyH:=hy.sub hz.1;obtain⟨q,rfl⟩:=hz.row;simp only[go_sem,r3,r6];refine hyH.app (zs:=[.sl (t[i].map fP) q]) acr acr (fun k hk=>hk) (by rw[UK];intro w hw;obtain⟨k,hk,rfl⟩:=List.mem_iff_getElem.1 hw;obtain⟨q',e'⟩:=hys k hk aco;rw[e'];rfl) (by rw[UK];intro w hw;rw[List.mem_singleton.1 hw];rfl) (by simp only[go_sem,hn,List.length_cons,List.length_nil];omega) fun y' H' hy' _=>?_
     simp only[go_sem,r11,w1];refine⟨_,?_,i+1,y',_,hy',acp,fun k h1 h2=>?_,aco,rfl,?_,?_,?_,?_⟩
     ·omega
     ·grind
     all_goals simp only[go_sem,r9,r10]
  ·have hge:i=t.length:=by grind
   simp only[go_sem,r3];obtain⟨q,rfl⟩:=hy.row;refine .mk (aS t) ?_ hy.1 ⟨rfl,rfl⟩;refine .deep _ _ q acp (fun k h1 h2=>?_) fun k h1 h2 j h3 h4=>?_
   ·obtain⟨q',e'⟩:=hys k h1 aco
    rw[e',ace];rfl
   ·obtain⟨q',e'⟩:=hys k h1 aco
    simp only[e',AV.cells,List.length_singleton]at h3;obtain rfl:j=0:=aco;simp only[e',ace,bP,AV.cells,List.getElem_singleton];exact ae2
theorem yU(t:fO):cR (aS t)=true:=by
 refine bu (fun a=>?_) t
 refine bu (fun b=>?_) a
 exact bu (fun _=>rfl) b
theorem Js(l:List aM):cR (dL l)=true:=by simp only[dL,cR];exact bu (fun _=>rfl) l
theorem vm(l:List cD):cR (ay l)=true:=by simp only[ay,cR];exact bu (fun _=>rfl) l
theorem A5(r:cN):cR (aA r)=true:=by simp[aA,cR,gU,yU,Js,vm]
mutual
theorem D3:∀p:bB,cR (aK p)=true
 |.mk id set alg tgt rules kids obls=>by simp[aK,cR,gU,yU,vm,bu A5 rules,vl kids]
theorem vl:∀l:List bB,gU (cy l)=true
 | []=>rfl
 |k::r=>by simp[cy,gU,D3 k,vl r]
end
theorem jn(p:bB):(aK p).cells.length=7:=by cases p;rfl
theorem Np{l:List aM}(h:jY l=0):l.length≤32:=by
 grind [xX]
theorem Ht{l:List cD}(h:ic l=0):l.length≤8:=(kj h).1
theorem vw{H:Heap}{i:Nat}{x:Option Blk}(h:H i=x):upd H i x=H:=by
 grind [ah,ag]
theorem lO{tb:TypeId}{h:Heap}{sz id i:Nat}{y:AV}{xs cs:List AV}{t:TypeId}(hw:Ow tb h sz id y xs)(hi:h i=some (.obj cs t))(ht:t≠tb):id≠i:=by
 obtain⟨cap,rest,rfl,h1,_⟩:=hw
 grind
theorem lp{sz:Nat}{xs:List AV}(hs:Sized sz xs)(j:Nat)(hj:j<xs.length)(o:Nat)(c:List AV)(ho:o+c.length≤sz){rest:List AV}:
  (aq xs++rest).take (j*sz+o)++c++(aq xs++rest).drop (j*sz+o+c.length)=aq (xs.set j (.agg (Ab.over xs[j].cells o c)))++rest:=by
 have hl:=bf hs;have hb:(j+1)*sz≤xs.length*sz:=Nat.mul_le_mul_right _ aco;rw[Nat.add_mul,Nat.one_mul]at hb;have:=LS (us:=aq xs) (vs:=rest) (o:=j*sz+o) (c:=c) aco;rw[Ab.over]at this;rw[this,IF hs j hj o c ho]
theorem qU{α:Type}{xs:List α}{i:Nat}{x:α}(h:xs[i]? =some x):xs.set i x=xs:=by
 obtain⟨hi,rfl⟩:=List.getElem?_eq_some_iff.1 h;simp
theorem nc(id:Txt)(set:Bool)(alg:Int)(tgt:fO)(rules:List cN)(kids:List bB)(obls:List cD):aK (.mk id set alg tgt rules kids obls)= .agg [.s id,.b set,.i alg,aS tgt,.sl (rules.map aA) .no,.sl (kids.map aK) .no,ay obls]:=by simp[aK,aP]
theorem tT:∀(p:bB) (d:Nat),mH d p→∀h,ai Tryz.prog 178 [aK p] h fun r h' =>r=aK p∧h' =h
 |.mk pid pset palg ptgt prules pkids pobls,d,hp,h=>by
  obtain⟨_,_,_,_,_,_,ht,ho,hr16,hk16,hre,hke⟩:=hp;rw[qH]at hke;have ih:∀(j:Nat) (hj:j<pkids.length) (h:Heap),ai Tryz.prog 178 [aK pkids[j]] h fun r h' =>r=aK pkids[j]∧h' =h:=fun j hj h=>tT pkids[j] (d+1) (hke _ (aci hj)) h
  have hob:=Ht ho;refine ai.freeze fun g hg _=>?_
  rw[nc];refine acn Tryz.func178 72 [.cell 2 65] fun hwf=>?_
  simp only[go_sem];intro i1 h1;simp only[go_sem];intro i2 h2;have n21:=aH h2;have n2:=aC h2;simp only[go_sem];obtain⟨H,eH⟩:∃H,upd (upd g i1 (some (.obj [.s pid,.b pset,.i palg,aS ptgt,.sl (prules.map aA) .no,.sl (pkids.map aK) .no,ay pobls] 65))) i2 (some (.obj [.s [],.b false,.i 0,.sl [] .full,.sl [] .full,.sl [] .full,.sl [] .full] 65))=H:=⟨_,rfl⟩;have hH:Ab.Sub g H:=by rw[←eH];exact((Sub.refl g).put h1 _).put n2 _
  have g1:H i1=some (.obj [.s pid,.b pset,.i palg,aS ptgt,.sl (prules.map aA) .no,.sl (pkids.map aK) .no,ay pobls] 65):=adY;have g2:H i2=some (.obj [.s [],.b false,.i 0,.sl [] .full,.sl [] .full,.sl [] .full,.sl [] .full] 65):=adR;rw[eH];refine .stage (hm1 i1 _) [0,1,3,4,2,6,5] [7,8,9] (.hm1 g1) acs ?_;simp only[go_sem,fW];refine(tU ptgt ht H).pthen ?_;refine⟨.hm1 g1,?_⟩;simp only[go_sem];refine(Ar _ (pobls.map aW) H (eJ aW 3 (fun _=>rfl) _ _) ac5 (bu (fun _=>rfl) _)).pthen ?_
  refine⟨.hm1 g1,cQ,(fun _ _ e=>acR),?_⟩
  have cT:(aS ptgt).cells= [aS ptgt]:=rfl;simp only[go_sem,g1,show fit (aS ptgt) 1=(1=1)from rfl,cT]
  have eo:(.sl (pobls.map aW) .no:AV)=ay pobls:=rfl;rw[eo];refine⟨fun _ _ e=>acR,fun _ _ e=>acR,?_⟩
  rw[vw g1];refine .stage (hm1 i1 _) [0,1,3,4,2,6,5] [7,8,9] (.hm1 g1) acs ?_;simp only[go_sem,fW];refine(Im _ (prules.map aA) H (eJ aA 5 (fun _=>rfl) _ _) ac5).mono fun y4 H1 ⟨w4,s1⟩=>?_
  refine⟨.hm1 (s1 _ _ g1),?_⟩;simp only[go_sem];refine(CM _ (pkids.map aK) H1 (eJ aK 7 jn _ _) ac5).mono fun y5 H2 ⟨w5,s2⟩=>?_
  have g1' :=s2 _ _ (s1 _ _ g1);have g2' :=s2 _ _ (s1 _ _ g2);refine⟨.hm1 g1',cQ,(fun _ _ e=>acR),?_⟩
  simp only[go_sem,g1',w4.rd.fit,w4.rd.cells,w5.rd.fit,w5.rd.cells];refine⟨fun _ _ e=>acR,fun _ _ e=>acR,?_⟩
  have hn4:∀id,nid y4=some id→id≠i2:=fun id e=>cK (w4.nid e).1 g2
  have hn5:∀id,nid y5=some id→id≠i2:=fun id e=>cK (w5.nid e).1 (s1 _ _ g2)
  have hnd:∀i,nid y4=some i→nid y5≠some i:=fun i e4 e5=>(w4.nid e4).2.1 (w5.nid e5).1
  have v4:∀b,OwE 224 g (upd H2 i1 b) 5 y4 (prules.map aA):=fun b=>((w4.sub s2).less hH).keep fun id e=>ag _ _ (cK (w4.nid e).1 g1)
  have v5:∀b,OwE 65 g (upd H2 i1 b) 7 y5 (pkids.map aK):=fun b=>(w5.less (hH.trans s1)).keep fun id e=>ag _ _ (cK (s1.none (w5.nid e).1) g1)
  have vs:∀b,Ab.Sub g (upd H2 i1 b):=fun b=>(hH.trans (s1.trans s2)).put h1 b
  have vz:∀b,upd H2 i1 b i2=some (.obj [.s [],.b false,.i 0,.sl [] .full,.sl [] .full,.sl [] .full,.sl [] .full] 65):=fun b=>by rw[ag _ _ n21];exact g2'
  obtain⟨H3,eH3⟩:∃H3,upd H2 i1 (some (.obj [.s pid,.b pset,.i palg,aS ptgt,y4,y5,ay pobls] 65))=H3:=⟨_,rfl⟩;have q1:H3 i1=some (.obj [.s pid,.b pset,.i palg,aS ptgt,y4,y5,ay pobls] 65):=by rw[←eH3,ah]
  replace v4:=v4 (some (.obj [.s pid,.b pset,.i palg,aS ptgt,y4,y5,ay pobls] 65));replace v5:=v5 (some (.obj [.s pid,.b pset,.i palg,aS ptgt,y4,y5,ay pobls] 65));replace vs:=vs (some (.obj [.s pid,.b pset,.i palg,aS ptgt,y4,y5,ay pobls] 65));replace vz:=vz (some (.obj [.s pid,.b pset,.i palg,aS ptgt,y4,y5,ay pobls] 65));rw[eH3]at v4 v5 vs vz;rw[eH3];clear eH3;have hi1:∀id,g id=none→∀ {K:Heap} {b:Blk},K id=some b→K id≠none:=fun id _ K b e=>by rw[e];simp
  simp only[go_sem,v4.rd.len,acd];refine .intro (fun m ρ G=>∃i:Nat,G i1=some (.obj [.s pid,.b pset,.i palg,aS ptgt,y4,y5,ay pobls] 65)∧G i2=some (.obj [.s [],.b false,.i 0,.sl [] .full,.sl [] .full,.sl [] .full,.sl [] .full] 65)∧Ab.Sub g G∧OwE 224 g G 5 y4 (prules.map aA)∧OwE 65 g G 7 y5 (pkids.map aK)∧i≤prules.length∧m=prules.length - i∧
   lk ρ 1=some (.ptr i1 0)∧lk ρ 2=some (.ptr i2 0)∧lk ρ 24=some y4∧lk ρ 25=some (.i prules.length)∧lk ρ 26=some (.i i)) prules.length ?_ ?_
  ·refine⟨0,q1,vz,vs,v4,v5,aco,rfl,?_,?_,?_,?_,?_⟩<;>simp only[go_sem]
  ·rintro m ρ G ⟨i,q1,vz,vs,v4,v5,hi,rfl,r1,r2,r24,r25,r26⟩
   simp only[go_sem,r25,r26];refine .intro (fun e=>?_) (fun e=>?_)
   ·have hlt:i<prules.length:=ack e
    have w1:=acj i aco;obtain⟨_,rt,rc,ro⟩:=hre _ (aci hlt);have hrc:=Np rc;have hro:=Ht ro;simp only[go_sem,r24,r26];refine v4.rd.idx (e:=224) i rfl acN acA acr fun p hp1=>?_
    have hld:=hp1.all (U:=U) (ty:=224) acA ac3 ac3;simp only[go_sem,hld,ace,aA];intro i4 h4;have n41:i4≠i1:=cK h4 q1;simp only[go_sem];obtain⟨G4,eG4⟩:∃G4,upd G i4 (some (.obj [.s prules[i].id,.b prules[i].deny,aS prules[i].tgt,dL prules[i].cond,ay prules[i].obls] 224))=G4:=⟨_,rfl⟩;rw[eG4];have p1:G4 i1=some (.obj [.s pid,.b pset,.i palg,aS ptgt,y4,y5,ay pobls] 65):=ae1;have p4:G4 i4=some (.obj [.s prules[i].id,.b prules[i].deny,aS prules[i].tgt,dL prules[i].cond,ay prules[i].obls] 224):=by rw[←eG4,ah]
    have sG:Ab.Sub G G4:=afG;refine .calls (hm2 i1 (.obj [.s pid,.b pset,.i palg,aS ptgt,y4,y5,ay pobls] 65) i4 (.obj [.s prules[i].id,.b prules[i].deny,aS prules[i].tgt,dL prules[i].cond,ay prules[i].obls] 224)) [0,1,2,3,4,5,6,7,8,9,10,12,13,15,16,11,14,17,18,19,20,21,22,23,24,25,26] (.hm2 p1 p4) acs rfl ?_;simp only[go_sem,r1,oL _ _ n41.symm,oN];refine(tU prules[i].tgt rt G4).pthen ?_;refine⟨.hm2 p1 p4,?_⟩;simp only[go_sem];refine(E2 _ (prules[i].cond.map cJ) G4 (eJ cJ 7 (fun _=>rfl) _ _) ac5 (bu (fun _=>rfl) _)).pthen ?_
    refine⟨.hm2 p1 p4,?_⟩;simp only[go_sem];refine(Ar _ (prules[i].obls.map aW) G4 (eJ aW 3 (fun _=>rfl) _ _) ac5 (bu (fun _=>rfl) _)).pthen ?_
    refine⟨.hm2 p1 p4,?_⟩;simp only[go_sem];obtain⟨id4,hg4,o4⟩:=(v4.sub sG).ow aev;have m1:id4≠i1:=lO o4 p1 acr;have m4:id4≠i4:=fun e=>(v4.nid o4.nid).2.1 (by rw[e];exact h4)
    refine o4.idx (U:=U) (e:=224) i rfl acN acA acr ?_;simp only[go_sem];have o4' :=o4;obtain⟨cap,rest,ey,hid,hr,hc,hsz⟩:=o4';have hbd:i*5+5≤(aq (prules.map aA)++rest).length:=by
     rw[ach,bf hsz,acd];omega
    have e2:List.take (i*5+2) (aq (prules.map aA)++rest)++(aS prules[i].tgt).cells++List.drop (i*5+2+(aS prules[i].tgt).cells.length) (aq (prules.map aA)++rest)=aq (prules.map aA)++rest:=by
     refine(lp hsz i acN 2 ((aS prules[i].tgt).cells) (ab9 rfl)).trans ?_;exact ah1
    have e3:List.take (i*5+3) (aq (prules.map aA)++rest)++ [.sl (prules[i].cond.map cJ) .no]++List.drop (i*5+3+1) (aq (prules.map aA)++rest)=aq (prules.map aA)++rest:=by
     refine(lp hsz i acN 3 ([.sl (prules[i].cond.map cJ) .no]) (ab9 rfl)).trans ?_;exact ah1
    have e4:List.take (i*5+4) (aq (prules.map aA)++rest)++ [.sl (prules[i].obls.map aW) .no]++List.drop (i*5+4+1) (aq (prules.map aA)++rest)=aq (prules.map aA)++rest:=by
     refine(lp hsz i acN 4 ([.sl (prules[i].obls.map aW) .no]) (ab9 rfl)).trans ?_;exact ah1
    simp only[go_sem,hid];rw[e2,vw hid];refine⟨rfl,aco,.hm2 p1 p4,?_⟩;refine o4.idx (U:=U) (e:=224) i rfl acN acA acr ?_;simp only[go_sem,hid];rw[e3,vw hid];refine⟨aco,.hm2 p1 p4,?_⟩;refine o4.idx (U:=U) (e:=224) i rfl acN acA acr ?_;simp only[go_sem,hid];rw[e4,vw hid];refine⟨aco,.hm2 p1 p4,?_⟩;simp only[go_sem,r26,w1];refine⟨_,?_,i+1,p1,sG _ _ vz,vs.trans sG,v4.sub sG,v5.sub sG,aco,rfl,?_,?_,?_,?_,?_⟩
    ·omega
    all_goals simp only[go_sem,r1,r2,r24,r25]
   ·have hge:i=prules.length:=by have:=acg e;omega
    clear hge;simp only[go_sem,r1,q1,v5.rd.len,acd];refine .intro (fun m ρ G=>∃i:Nat,G i1=some (.obj [.s pid,.b pset,.i palg,aS ptgt,y4,y5,ay pobls] 65)∧G i2=some (.obj [.s [],.b false,.i 0,.sl [] .full,.sl [] .full,.sl [] .full,.sl [] .full] 65)∧Ab.Sub g G∧OwE 224 g G 5 y4 (prules.map aA)∧OwE 65 g G 7 y5 (pkids.map aK)∧i≤pkids.length∧m=pkids.length - i∧
     lk ρ 1=some (.ptr i1 0)∧lk ρ 2=some (.ptr i2 0)∧lk ρ 57=some y5∧lk ρ 58=some (.i pkids.length)∧lk ρ 59=some (.i i)) pkids.length ?_ ?_
    ·refine⟨0,q1,vz,vs,v4,v5,aco,rfl,?_,?_,?_,?_,?_⟩<;>simp only[go_sem,r1,r2]
    ·clear r1 r2 r24 r25 r26 q1 vz vs v4 v5 e hi
     rintro m ρ G ⟨i,q1,vz,vs,v4,v5,hi,rfl,r1,r2,r57,r58,r59⟩
     simp only[go_sem,r58,r59];refine .intro (fun e=>?_) (fun e=>?_)
     ·have hlt:i<pkids.length:=ack e
      have w1:=acj i aco;have ihi:=ih i hlt;have hci:=jn pkids[i];cases hpk:pkids[i]with
      |mk kid kset kalg ktgt krules kkids kobls=>
      rw[hpk,nc]at ihi;simp only[go_sem,r57,r59];refine v5.rd.idx (e:=65) i rfl acN acA acr fun p hp1=>?_
      have hld:=hp1.all (U:=U) (ty:=65) acA (by simp only[go_sem];rw[ace];exact hci) (by simp only[go_sem];rw[ace,hpk,nc];rfl)
      simp only[go_sem,hld,ace,hpk,nc];intro i4 h4;have n41:i4≠i1:=cK h4 q1;simp only[go_sem];obtain⟨G4,eG4⟩:∃G4,upd G i4 (some (.obj [.s kid,.b kset,.i kalg,aS ktgt,.sl (krules.map aA) .no,.sl (kkids.map aK) .no,ay kobls] 65))=G4:=⟨_,rfl⟩;rw[eG4];have p1:G4 i1=some (.obj [.s pid,.b pset,.i palg,aS ptgt,y4,y5,ay pobls] 65):=ae1;have p4:G4 i4=some (.obj [.s kid,.b kset,.i kalg,aS ktgt,.sl (krules.map aA) .no,.sl (kkids.map aK) .no,ay kobls] 65):=by rw[←eG4,ah]
      have sG:Ab.Sub G G4:=afG;refine .calls (hm2 i1 (.obj [.s pid,.b pset,.i palg,aS ptgt,y4,y5,ay pobls] 65) i4 (.obj [.s kid,.b kset,.i kalg,aS ktgt,.sl (krules.map aA) .no,.sl (kkids.map aK) .no,ay kobls] 65)) [0,1,2,3,4,5,6] (.hm2 p1 p4) acs rfl ?_;simp only[go_sem,r1,oL _ _ n41.symm,oN];refine(ihi G4).pthen ?_;refine⟨.hm2 p1 p4,?_⟩;simp only[go_sem];obtain⟨id4,hg4,o4⟩:=(v5.sub sG).ow aev;have o4' :=o4;obtain⟨cap,rest,ey,hid,hr,hc,hsz⟩:=o4';have hbd:i*7+7≤(aq (pkids.map aK)++rest).length:=by
       rw[ach,bf hsz,acd];omega
      have e2:List.take (i*7) (aq (pkids.map aK)++rest)++ [.s kid,.b kset,.i kalg,aS ktgt,.sl (krules.map aA) .no,.sl (kkids.map aK) .no,ay kobls]++List.drop (i*7+7) (aq (pkids.map aK)++rest)=aq (pkids.map aK)++rest:=by
       refine(lp hsz i acN 0 [.s kid,.b kset,.i kalg,aS ktgt,.sl (krules.map aA) .no,.sl (kkids.map aK) .no,ay kobls] (ab9 rfl)).trans ?_;rw[qU];rw[List.getElem?_eq_getElem acN,ace,hpk,nc];rfl
      refine o4.idx (U:=U) (e:=65) i rfl acN acA acr ?_;simp only[go_sem,hid];rw[e2,vw hid];refine⟨aco,.hm2 p1 p4,?_⟩;simp only[go_sem,r59,w1];refine⟨_,?_,i+1,p1,sG _ _ vz,vs.trans sG,v4.sub sG,v5.sub sG,aco,rfl,?_,?_,?_,?_,?_⟩
      ·omega
      all_goals simp only[go_sem,r1,r2,r57,r58]
     ·simp only[go_sem,r1,r2,q1,vz]
      refine .mk _ (.refl _) (.refl _) ⟨vs.put n2 _,aK (.mk pid pset palg ptgt prules pkids pobls),?_,nc ..⟩;rw[nc];have z4:∀b,Frz g (upd G i2 b) y4 (.sl (prules.map aA) .no):=fun b=>(v4.keep fun id e=>ag _ _ (hn4 id e)).frz (bu A5 prules)
      have z5:∀b,Frz g (upd G i2 b) y5 (.sl (pkids.map aK) .no):=fun b=>(v5.keep fun id e=>ag _ _ (hn5 id e)).frz (by rw[←aP];exact vl pkids)
      refine .agg _ _ rfl fun k k1 k2=>?_
      rcases k with _|_|_|_|_|_|_|k
      ·exact acK
      ·exact acK
      ·exact acK
      ·exact .pure (yU _)
      ·exact z4 _
      ·exact z5 _
      ·exact .pure (vm _)
      ·simp at k1;omega
termination_by p=>SizeOf.sizeOf p
decreasing_by
 have:=List.sizeOf_lt_of_mem (aci hj);simp only[bB.mk.sizeOf_spec];omega
end Go.Proofs.YtcochaoekecfdaaGreatDoor
namespace Go.Ab
open Go
def apart(a b:AV):Prop:=∀i,nid a=some i→nid b≠some i
theorem apart.symm{a b:AV}(h:apart a b):apart b a:=fun i e1 e2=>h i e2 e1
theorem dS{a y:AV}{tb:TypeId}{g h:Heap}{sz:Nat}{xs:List AV}(hw:OwE tb g h sz y xs)(ha:∀i,nid a=some i→g i≠none):apart a y:=fun i e1 e2=>ha i e1 (hw.nid e2).1
theorem OwE.there{tb:TypeId}{h0 h h' :Heap}{sz:Nat}{y:AV}{xs:List AV}(hw:OwE tb h0 h sz y xs)(hs:∀i,h i≠Option.none→h' i≠Option.none):∀i,Ab.nid y=some i→h' i≠Option.none:=fun i e=>hs i (hw.nid e).2.1
theorem Sub.some{h h' :Heap}(hs:Sub h h'):∀i,h i≠Option.none→h' i≠Option.none:=fun i e e' =>e (hs.none e')
end Go.Ab
namespace Go.Proofs.YtcochaoekecfdaaGreatDoor
open Go Go.Ab Go.Bf
def fh(h0 h:Heap)(ys:List AV)(x:AV)(c:aJ):Prop:=∃f l,x= .agg [.s c.id,.s c.owner,.s c.state,f,l]∧OwE 215 h0 h 4 f (c.fields.map bz)∧OwE 205 h0 h 3 l (c.log.map fU)∧apart f l∧∀y∈ys,apart f y∧apart l y
def lQ(h0 h:Heap)(ys:List AV)(y1:AV)(cs:List aJ)(i0:Nat):Prop:=∃xs,OwE 134 h0 h 5 y1 xs∧xs.length=cs.length∧(∀j (h1:j<xs.length) (h2:j<cs.length),j≠i0→xs[j]=cr cs[j])∧∀(h1:i0<xs.length) (h2:i0<cs.length),fh h0 h ys xs[i0] cs[i0]
def sU(h0 h:Heap)(x:AV)(s:an)(i0:Nat):Prop:=∃y1 y2 y3 y4,x= .agg ([.i s.tick,y1,y2,y3,y4]++fV s.policy++ [.i s.version])∧lQ h0 h [y1,y2,y3,y4] y1 s.cases i0∧
 OwE 143 h0 h 7 y2 (s.reviews.map fY)∧OwE 146 h0 h 3 y3 (s.notices.map jO)∧OwE 149 h0 h 2 y4 (s.roles.map cY)∧apart y1 y2∧apart y1 y3∧apart y1 y4∧apart y2 y3∧apart y2 y4∧apart y3 y4
theorem Jn{cs L:List AV}(h:L.length=cs.length):Ab.over cs 0 L=L:=by
 simp_all [Ab.over,List.take_zero,List.nil_append,Nat.zero_add,List.drop_of_length_le,List.append_nil]
theorem DR{h:Heap}{x:AV}{c:aJ}(i i0:Nat)(hb:RdC h x c)(hl:c.fields.length≤1000000)(hl2:c.log.length≤1000000):ai Tryz.prog 139 [x] h fun r h' =>
  ∃f l,r= .agg [.s c.id,.s c.owner,.s c.state,f,l]∧Ab.Sub h h'∧f.cells= [f]∧l.cells= [l]∧(i≠i0→f=gu c.fields∧l=sB c.log)∧(i=i0→OwE 215 h h' 4 f (c.fields.map bz)∧OwE 205 h h' 3 l (c.log.map fU)∧apart f l):=by
 by_cases e:i=i0
 ·exact(yL hb hl hl2).mono fun r h' ⟨⟨f,l,e1,a,b,c⟩,d⟩=>⟨f,l,e1,d,a.rd.cells,b.rd.cells,fun hh=>(hh e).elim,fun _=>⟨a,b,c⟩⟩
 ·exact(wq hb hl hl2).mono fun r h' ⟨e1,e2⟩=>⟨_,_,e1,by rw[e2];exact .refl _,rfl,rfl,fun _=>⟨rfl,rfl⟩,fun hh=>(e hh).elim⟩
theorem fh.sub{h0 h h' :Heap}{ys:List AV}{x:AV}{c:aJ}(hm:fh h0 h ys x c)(hs:Ab.Sub h h'):fh h0 h' ys x c:=by
 obtain⟨f,l,e,a,b,c,d⟩:=hm;exact⟨f,l,e,a.sub hs,b.sub hs,c,d⟩
theorem fh.keep{h0 h h' :Heap}{ys:List AV}{x:AV}{c:aJ}(hm:fh h0 h ys x c)(hs:∀f l,x= .agg [.s c.id,.s c.owner,.s c.state,f,l]→(∀y∈ys,apart f y∧apart l y)→∀i,(nid f=some i∨nid l=some i)→h' i=h i):fh h0 h' ys x c:=by
 obtain⟨f,l,e,a,b,c,d⟩:=hm;exact⟨f,l,e,a.keep fun i hi=>hs f l e d i (.inl hi),b.keep fun i hi=>hs f l e d i (.inr hi),c,d⟩
theorem Rj{h:Heap}{x:AV}{s:an}(hb:RdS h x s)(i0:Nat)(hf:Few s)(hp:mH 1 s.policy):ai Tryz.prog 133 [x] h fun r h' =>sU h h' r s i0∧Ab.Sub h h' :=by
 obtain⟨y1,y2,y3,y4,rfl,⟨xs0,hc,hn,hcs⟩,h2,h3,h4⟩:=hb;have hpo:=tT s.policy 1 hp;cases hpp:s.policy with
 |mk pid pset palg ptgt prules pkids pobls=>
 rw[hpp,nc]at hpo;have hcC:fV (.mk pid pset palg ptgt prules pkids pobls)= [.s pid,.b pset,.i palg,aS ptgt,.sl (prules.map aA) .no,.sl (pkids.map aK) .no,ay pobls]:=afq;have hfc:=hf.cases;refine acn Tryz.func133 41 [.cell 2 67] fun hwf=>?_
 simp only[go_sem,hcC,List.cons_append,List.nil_append];intro i1 h1;simp only[go_sem];intro i2 h2';have n21:=aH h2';have n2:=aC h2';simp only[go_sem,aj,n21.symm];obtain⟨H,eH⟩:∃H,upd (upd h i1 (some (.obj [.i s.tick,y1,y2,y3,y4,.s pid,.b pset,.i palg,aS ptgt,.sl (prules.map aA) .no,.sl (pkids.map aK) .no,ay pobls,.i s.version] 67))) i2 (some (.obj [.i 0,.sl [] .full,.sl [] .full,.sl [] .full,.sl [] .full,.s [],.b false,.i 0,.sl [] .full,.sl [] .full,.sl [] .full,.sl [] .full,.i 0] 67))=H:=⟨_,rfl⟩;have hH:Ab.Sub h H:=adq;have g1:H i1=some (.obj [.i s.tick,y1,y2,y3,y4,.s pid,.b pset,.i palg,aS ptgt,.sl (prules.map aA) .no,.sl (pkids.map aK) .no,ay pobls,.i s.version] 67):=adY;have g2:H i2=some (.obj [.i 0,.sl [] .full,.sl [] .full,.sl [] .full,.sl [] .full,.s [],.b false,.i 0,.sl [] .full,.sl [] .full,.sl [] .full,.sl [] .full,.i 0] 67):=adR;rw[eH];clear eH;refine(Ap y1 xs0 H (hc.sub hH) aco).mono fun z1 H1 ⟨w1,s1⟩=>?_
 simp only[go_sem,s1 _ _ g1,w1.rd.fit,w1.rd.cells];have v1:∀b,OwE 134 h (upd H1 i1 b) 5 z1 xs0:=fun b=>(w1.less hH).keep fun id e=>ag _ _ (cK (w1.nid e).1 g1)
 have vs:∀b,Ab.Sub h (upd H1 i1 b):=fun b=>(hH.trans s1).put h1 b
 have vz:∀b,upd H1 i1 b i2=some (.obj [.i 0,.sl [] .full,.sl [] .full,.sl [] .full,.sl [] .full,.s [],.b false,.i 0,.sl [] .full,.sl [] .full,.sl [] .full,.sl [] .full,.i 0] 67):=fun b=>by rw[ag _ _ n21];exact s1 _ _ g2
 have hz1:∀id,nid z1=some id→id≠i1:=fun id e=>cK (w1.nid e).1 g1
 have hz2:∀id,nid z1=some id→id≠i2:=fun id e=>cK (w1.nid e).1 g2
 obtain⟨H2,eH2⟩:∃H2,upd H1 i1 (some (.obj [.i s.tick,z1,y2,y3,y4,.s pid,.b pset,.i palg,aS ptgt,.sl (prules.map aA) .no,.sl (pkids.map aK) .no,ay pobls,.i s.version] 67))=H2:=⟨_,rfl⟩;replace v1:=v1 (some (.obj [.i s.tick,z1,y2,y3,y4,.s pid,.b pset,.i palg,aS ptgt,.sl (prules.map aA) .no,.sl (pkids.map aK) .no,ay pobls,.i s.version] 67));replace vs:=vs (some (.obj [.i s.tick,z1,y2,y3,y4,.s pid,.b pset,.i palg,aS ptgt,.sl (prules.map aA) .no,.sl (pkids.map aK) .no,ay pobls,.i s.version] 67));replace vz:=vz (some (.obj [.i s.tick,z1,y2,y3,y4,.s pid,.b pset,.i palg,aS ptgt,.sl (prules.map aA) .no,.sl (pkids.map aK) .no,ay pobls,.i s.version] 67));have q1:H2 i1=some (.obj [.i s.tick,z1,y2,y3,y4,.s pid,.b pset,.i palg,aS ptgt,.sl (prules.map aA) .no,.sl (pkids.map aK) .no,ay pobls,.i s.version] 67):=by rw[←eH2,ah]
 rw[eH2]at v1 vs vz;rw[eH2];clear eH2;simp only[go_sem,v1.rd.len,hn];refine .intro (fun m ρ G=>∃(i:Nat) (xs:List AV),G i1=some (.obj [.i s.tick,z1,y2,y3,y4,.s pid,.b pset,.i palg,aS ptgt,.sl (prules.map aA) .no,.sl (pkids.map aK) .no,ay pobls,.i s.version] 67)∧G i2=some (.obj [.i 0,.sl [] .full,.sl [] .full,.sl [] .full,.sl [] .full,.s [],.b false,.i 0,.sl [] .full,.sl [] .full,.sl [] .full,.sl [] .full,.i 0] 67)∧Ab.Sub h G∧OwE 134 h G 5 z1 xs∧xs.length=s.cases.length∧(∀j (h1:j<xs.length) (h2:j<s.cases.length),j<i→j≠i0→xs[j]=cr s.cases[j])∧(∀(h1:i0<xs.length) (h2:i0<s.cases.length),i0<i→fh h G [z1] xs[i0] s.cases[i0])∧(∀j (h1:j<xs.length) (h2:j<s.cases.length),i≤j→RdC h xs[j] s.cases[j])∧i≤s.cases.length∧m=s.cases.length - i∧
  lk ρ 1=some (.ptr i1 0)∧lk ρ 2=some (.ptr i2 0)∧lk ρ 10=some z1∧lk ρ 11=some (.i s.cases.length)∧lk ρ 12=some (.i i)) s.cases.length ?_ ?_
 ·refine⟨0,xs0,q1,vz,vs,v1,hn,fun j _ _ hj=>aco,fun _ _ hj=>aco,fun j a b _=>hcs j a b,aco,rfl,?_,?_,?_,?_,?_⟩<;>simp only[go_sem]
 ·rintro m ρ G ⟨i,xs,q1,vz,vs,v1,hn,hlo,hmy,hhi,hi,rfl,r1,r2,r10,r11,r12⟩
  simp only[go_sem,r11,r12];refine .intro (fun e=>?_) (fun e=>?_)
  ·have hlt:i<s.cases.length:=ack e
   have hltx:i<xs.length:=aco;have w1:=acj i aco;obtain⟨f,l,ex,hfl,hlg⟩:=hhi i hltx hlt (Nat.le_refl _);have hff:=hf.fields _ (aci hlt);have hfg:=hf.log _ (aci hlt);simp only[go_sem,r10,r12];refine v1.rd.idx (e:=134) i rfl hltx nq acr fun p hp1=>?_
   have hld:=hp1.all (U:=U) (ty:=134) acA (by rw[nq,ex];rfl) (by simp only[go_sem];rw[ex];rfl)
   simp only[go_sem,hld,ex];intro i4 h4;have n41:i4≠i1:=cK h4 q1;simp only[go_sem];obtain⟨G4,eG4⟩:∃G4,upd G i4 (some (.obj [.s s.cases[i].id,.s s.cases[i].owner,.s s.cases[i].state,f,l] 134))=G4:=⟨_,rfl⟩;rw[eG4];have p1:G4 i1=some (.obj [.i s.tick,z1,y2,y3,y4,.s pid,.b pset,.i palg,aS ptgt,.sl (prules.map aA) .no,.sl (pkids.map aK) .no,ay pobls,.i s.version] 67):=ae1;have p4:G4 i4=some (.obj [.s s.cases[i].id,.s s.cases[i].owner,.s s.cases[i].state,f,l] 134):=by rw[←eG4,ah]
   have sG:Ab.Sub G G4:=afG;refine .calls (hm2 i1 (.obj [.i s.tick,z1,y2,y3,y4,.s pid,.b pset,.i palg,aS ptgt,.sl (prules.map aA) .no,.sl (pkids.map aK) .no,ay pobls,.i s.version] 67) i4 (.obj [.s s.cases[i].id,.s s.cases[i].owner,.s s.cases[i].state,f,l] 134)) [0,1,2,3,4,5,6] (.hm2 p1 p4) acs rfl ?_;simp only[go_sem,r1,oL _ _ n41.symm,oN];refine(DR i i0 (show RdC G4 (.agg [.s s.cases[i].id,.s s.cases[i].owner,.s s.cases[i].state,f,l]) s.cases[i]from⟨f,l,rfl,hfl.sub (vs.trans sG),hlg.sub (vs.trans sG)⟩) hff hfg).mono fun r G5 ⟨f',l',er,s5,cf,cl,hne,heq⟩=>?_
   subst er;have p1' :=s5 _ _ p1;have p4' :=s5 _ _ p4;refine⟨.hm2 p1' p4',?_⟩;simp only[go_sem];obtain⟨id1,hg1,o1⟩:=((v1.sub sG).sub s5).ow (by intro e;rw[e]at hltx;cases hltx)
   have t1:id1≠i1:=lO o1 p1' acr;have t2:id1≠i2:=hz2 id1 o1.nid;have t3:G4 id1≠none:=fun e=>(v1.nid o1.nid).2.1 (sG.none e)
   have o1' :=o1;obtain⟨cap,rest,ey,hid,hr,hcap,hsz⟩:=o1';have hbd:i*5+5≤(aq xs++rest).length:=by
    rw[ach,bf hsz];omega
   have hx5:xs[i].cells.length=5:=hsz _ (aci hltx);have e2:List.take (i*5) (aq xs++rest)++ [.s s.cases[i].id,.s s.cases[i].owner,.s s.cases[i].state,f',l']++List.drop (i*5+5) (aq xs++rest)=aq (xs.set i (.agg [.s s.cases[i].id,.s s.cases[i].owner,.s s.cases[i].state,f',l']))++rest:=by
    refine(lp hsz i hltx 0 [.s s.cases[i].id,.s s.cases[i].owner,.s s.cases[i].state,f',l'] (ab9 rfl)).trans ?_;rw[Jn (by rw[hx5];rfl)]
   refine o1.idx (U:=U) (e:=134) i rfl hltx nq acr ?_;simp only[go_sem,hid];rw[e2];have t4:id1≠i4:=fun e=>(v1.nid o1.nid).2.1 (by rw[e];exact h4)
   refine⟨aco,.hm2 (by rw[ag _ _ t1.symm];exact p1') (by rw[ag _ _ t4.symm];exact p4'),?_⟩
   simp only[go_sem,r12,w1];have ho:∀b k,k≠id1→upd G5 id1 b k=G5 k:=fun b k hk=>ag _ _ hk
   have hs6:∀b,Ab.Sub h (upd G5 id1 b):=fun b=>((vs.trans sG).trans s5).put hg1 b
   refine⟨_,?_,i+1,xs.set i (.agg [.s s.cases[i].id,.s s.cases[i].owner,.s s.cases[i].state,f',l']),(ho _ _ t1.symm).trans p1',(ho _ _ t2.symm).trans (s5 _ _ (sG _ _ vz)),hs6 _,.inr ⟨id1,hg1,cap,rest,aeE,ah ..,by rw[List.length_set];exact hr,aew,?_⟩,by rw[List.length_set];exact hn,fun j a b hj hj0=>?_,fun a b hj=>?_,fun j a b hj=>?_,aco,rfl,?_,?_,?_,?_,?_⟩
   ·omega
   ·intro z hz
    exact ahi
   ·have a' :j<xs.length:=by rw[List.length_set]at a;exact a
    by_cases hji:j=i
    ·subst hji
     obtain⟨ef,el⟩:=hne hj0;rw[List.getElem_set_self,ef,el];rfl
    ·rw[List.getElem_set_ne (Ne.symm hji)]
     exact hlo j a' b aco hj0
   ·have a' :i0<xs.length:=by rw[List.length_set]at a;exact a
    by_cases hji:i=i0
    ·subst hji
     obtain⟨of,ol,hap⟩:=heq rfl;have kf:∀k,G4 k=none→upd G5 id1 (some (.obj (aq (xs.set i (.agg [.s s.cases[i].id,.s s.cases[i].owner,.s s.cases[i].state,f',l']))++rest) 134)) k=G5 k:=fun k hk=>ag _ _ fun e=>t3 (by rw[←e];exact hk)
     rw[List.getElem_set_self];refine⟨f',l',rfl,(of.less (vs.trans sG)).keep fun k hk=>kf k (of.nid hk).1,(ol.less (vs.trans sG)).keep fun k hk=>kf k (ol.nid hk).1,hap,fun y hy=>?_⟩
     rw[List.mem_singleton.1 hy];have hz1:∀k,nid z1=some k→G4 k≠none:=(v1.sub sG).there fun k hk=>hk
     exact⟨(dS of hz1).symm,(dS ol hz1).symm⟩
    ·rw[List.getElem_set_ne hji]
     have hm:=hmy a' b aco;refine fh.keep (h:=G5) ((hm.sub sG).sub s5) fun f l ex hap k hk=>?_
     refine ag _ _ fun e=>?_
     subst e;rcases hk with hk|hk
     ·exact(hap z1 (List.mem_singleton.2 rfl)).1 _ hk o1.nid
     ·exact(hap z1 (List.mem_singleton.2 rfl)).2 _ hk o1.nid
   ·have a' :j<xs.length:=by rw[List.length_set]at a;exact a
    rw[List.getElem_set_ne aco];exact hhi j a' b aco
   all_goals simp only[go_sem,r1,r2,r10,r11]
  ·have hge:i=s.cases.length:=by have:=acg e;omega
   simp only[go_sem];refine .stage (hm1 i1 (.obj [.i s.tick,z1,y2,y3,y4,.s pid,.b pset,.i palg,aS ptgt,.sl (prules.map aA) .no,.sl (pkids.map aK) .no,ay pobls,.i s.version] 67)) [0,1,3,4,6,7,2,9,5,8] [10,11,12,13,14] (.hm1 q1) acs ?_;simp only[go_sem,r1,fW];refine(vN y2 _ G (h2.sub vs) (by rw[acd];exact hf.reviews)).mono fun z2 G1 ⟨o2,s1⟩=>?_
   refine⟨.hm1 (s1 _ _ q1),?_⟩;simp only[go_sem,r1];refine(vM y3 _ G1 ((h3.sub vs).sub s1) (by rw[acd];exact hf.notices)).mono fun z3 G2 ⟨o3,s2⟩=>?_
   refine⟨.hm1 (s2 _ _ (s1 _ _ q1)),?_⟩;simp only[go_sem];refine(Il y4 _ G2 (((h4.sub vs).sub s1).sub s2) (by rw[acd];exact hf.roles)).mono fun z4 G3 ⟨o4,s3⟩=>?_
   have s03:Ab.Sub G G3:=s1.trans (s2.trans s3);have q1' :=s03 _ _ q1;have q2' :=s03 _ _ vz;refine⟨.hm1 q1',cQ,(fun _ _ e=>acR),?_⟩
   simp only[go_sem,r1,q1',o2.rd.fit,o2.rd.cells,o3.rd.fit,o3.rd.cells,o4.rd.fit,o4.rd.cells];refine⟨fun _ _ e=>acR,fun _ _ e=>acR,fun _ _ e=>acR,?_⟩
   refine(show ai Tryz.prog 178 [_] _ _ from hpo _).pthen ?_
   have vz' :∀b,upd G3 i1 b i2=some (.obj [.i 0,.sl [] .full,.sl [] .full,.sl [] .full,.sl [] .full,.s [],.b false,.i 0,.sl [] .full,.sl [] .full,.sl [] .full,.sl [] .full,.i 0] 67):=fun b=>by rw[ag _ _ n21];exact q2'
   simp only[go_sem,r1,r2,vz'];have k1:∀ {tb:TypeId} {z:AV} {xs:List AV} {n:Nat} {g:Heap},OwE tb g G3 n z xs→Ab.Sub h g→(∀id,nid z=some id→id≠i1∧id≠i2)→∀a b,OwE tb h (upd (upd G3 i1 a) i2 b) n z xs:=fun w hg hn a b=>(w.less hg).keep fun id e=>by
    rw[ag _ _ (hn id e).2,ag _ _ (hn id e).1]
   have new:∀ {tb:TypeId} {z:AV} {xs:List AV} {n:Nat} {g:Heap},OwE tb g G3 n z xs→Ab.Sub G g→∀id,nid z=some id→id≠i1∧id≠i2:=fun w hg id e=>⟨cK (w.nid e).1 (hg _ _ q1),cK (w.nid e).1 (hg _ _ vz)⟩
   have n2' :=new (o2.sub (s2.trans s3)) (.refl _);have n3' :=new (o3.sub s3) s1;have n4' :=new o4 (s1.trans s2);have n1' :∀id,nid z1=some id→id≠i1∧id≠i2:=fun id e=>⟨hz1 id e,hz2 id e⟩
   have aG:∀k,nid z1=some k→G k≠none:=v1.there fun k hk=>hk
   refine .mk _ (.refl _) (.refl _) ⟨⟨z1,z2,z3,z4,by rw[hpp,hcC];rfl,⟨xs,k1 (v1.sub s03) (.refl _) n1' _ _,hn,fun j a b hj=>hlo j a b aco hj,fun a b=>?_⟩,k1 (o2.sub (s2.trans s3)) vs n2' _ _,k1 (o3.sub s3) (vs.trans s1) n3' _ _,k1 o4 (vs.trans (s1.trans s2)) n4' _ _,?_,?_,?_,?_,?_,?_⟩,((vs.trans s03).put h1 _).put n2 _⟩
   ·have hm:=(hmy a b aco).sub s03
    obtain⟨f,l,ex,of,ol,hap,hy⟩:=hm;obtain⟨af,al⟩:=hy z1 (List.mem_singleton.2 rfl);have kf:∀k,nid f=some k→k≠i1∧k≠i2:=fun k hk=>⟨lO (of.nid hk).2.2 q1' acr,lO (of.nid hk).2.2 q2' acr⟩
    have kl:∀k,nid l=some k→k≠i1∧k≠i2:=fun k hk=>⟨lO (ol.nid hk).2.2 q1' acr,lO (ol.nid hk).2.2 q2' acr⟩
    obtain⟨f0,l0,ex0,of0,ol0,_⟩:=hmy a b aco;obtain⟨rfl,rfl⟩:f0=f∧l0=l:=by
     rw[ex0]at ex;simp only[AV.agg.injEq,List.cons.injEq,true_and,and_true]at ex;exact ex
    have gf:∀k,nid f0=some k→G k≠none:=of0.there fun k hk=>hk
    have gl:∀k,nid l0=some k→G k≠none:=ol0.there fun k hk=>hk
    refine⟨f0,l0,ex,k1 of (.refl _) kf _ _,k1 ol (.refl _) kl _ _,hap,fun y hy=>?_⟩
    simp only[List.mem_cons,List.not_mem_nil,or_false]at hy;rcases hy with rfl|rfl|rfl|rfl
    ·exact⟨af,al⟩
    ·exact⟨dS o2 gf,dS o2 gl⟩
    ·exact⟨dS o3 fun k hk=>s1.some k (gf k hk),dS o3 fun k hk=>s1.some k (gl k hk)⟩
    ·exact⟨dS o4 fun k hk=>(s1.trans s2).some k (gf k hk),dS o4 fun k hk=>(s1.trans s2).some k (gl k hk)⟩
   ·exact dS o2 aG
   ·exact dS o3 fun k hk=>s1.some k (aG k hk)
   ·exact dS o4 fun k hk=>(s1.trans s2).some k (aG k hk)
   ·exact dS o3 (o2.there fun k hk=>hk)
   ·exact dS o4 ((o2.sub s2).there fun k hk=>hk)
   ·exact dS o4 (o3.there fun k hk=>hk)
end Go.Proofs.YtcochaoekecfdaaGreatDoor
namespace Go.Ab
open Go
theorem oR{A B C X:List AV}{k m:Nat}(hk:k=A.length)(hm:m=X.length)(h:X.length=B.length):(A++(B++C)).take k++X++(A++(B++C)).drop (k+m)=A++(X++C):=by
 grind
theorem G8{A B C X:List AV}{k1 k2 k3 k4:Nat}(h1:k1=A.length+X.length)(h2:k2=k1+B.length)(h3:k3=A.length)(h4:k4=k3+X.length)(hc:X.length≤C.length):
  List.take k3 (List.take k1 (A++(B++C))++B++List.drop k2 (A++(B++C)))++X++List.drop k4 (List.take k1 (A++(B++C))++B++List.drop k2 (A++(B++C)))=A++(X++(B++C.drop X.length)):=by
 subst h1;subst h2;subst h3;subst h4
 have e1:List.take (A.length+X.length) (A++(B++C))=A++List.take X.length (B++C):=acp;have e2:List.drop (A.length+X.length+B.length) (A++(B++C))=C.drop X.length:=by
  grind [Nat.add_assoc,List.drop_drop,List.drop_left,Nat.add_comm]
 rw[e1,e2,List.append_assoc A];have e3:(List.take X.length (B++C)).length=X.length:=by rw[List.length_take,ach];omega
 have e4:A++(List.take X.length (B++C)++B++List.drop X.length C)=A++(List.take X.length (B++C)++(B++C.drop X.length)):=acw;rw[List.append_assoc A,e4];exact oR rfl rfl e3.symm
theorem He{A Z R X B:List AV}{k1 k2 k3 k4:Nat}(h1:k1=A.length)(h2:k2=k1+X.length)(h3:k3=A.length+X.length)(h4:k4=k3+B.length)(hz:Z.length=X.length+B.length):
  List.take k3 (List.take k1 (A++Z++R)++X++List.drop k2 (A++Z++R))++B++List.drop k4 (List.take k1 (A++Z++R)++X++List.drop k2 (A++Z++R))=A++(X++(B++R)):=by
 subst h1;subst h2;subst h3;subst h4
 obtain⟨Z1,Z2,rfl,e1⟩:∃Z1 Z2,Z=Z1++Z2∧Z1.length=X.length:=⟨Z.take X.length,Z.drop X.length,(List.take_append_drop _ _).symm,acp⟩;have e2:Z2.length=B.length:=acp;have e3:A++(Z1++Z2)++R=A++(Z1++(Z2++R)):=acw;rw[e3,oR rfl rfl e1.symm,←List.append_assoc A X,oR acw rfl e2.symm,List.append_assoc]
end Go.Ab
namespace Go.Proofs.YtcochaoekecfdaaGreatDoor
open Go Go.Ab Go.Bf
theorem Jl{h:Heap}{v:AV}{id off len cap:Nat}{cs:List AV}{t:TypeId}(hv:v.cells.length=5)(hid:h id=some (.obj cs t))(hcs:cs≠ []):ai Tryz.prog 179 [.sl [v] .full,.ob id off len cap 5] h fun r h' =>r= .b false∧h' =h:=
 wo (U:=U) (tS:=55) (tR:=4) (e:=134) hU Tryz.func179 acF acF acF acs acF acr (by simp only[go_sem];omega) acw hid hcs
theorem FD(y:AV)(xs:List AV)(v:AV)(i:Nat)(h0 h:Heap)(hw:OwE 134 h0 h 5 y xs)(hs0:Ab.Sub h0 h)(hi:i≤xs.length)(hl:xs.length≤1000000)(hv:v.cells.length=5)(hva:fit v 5):
  ai Tryz.prog 135 [y,.i i,.sl [v] .full] h fun r h' =>OwE 134 h0 h' 5 r (xs.take i++([v]++xs.drop i))∧(∀k,h k≠none→nid y≠some k→h' k=h k)∧∀k,nid r=some k→h k=none∨nid y=some k:=by
 rcases hw with⟨rfl,rfl⟩|⟨id,hg,cap,rest,rfl,hid,hr,hc,hsz⟩
 ·obtain rfl:i=0:=by simpa using hi
  refine acn Tryz.func135 95 [.tmp 6] fun hwf=>?_
  simp -implicitDefEqProofs only[go_sem];refine⟨aco,aco,hv,.ob acA (j0.ow (xs:=[v]) aei afL rfl fun id y' h' hid hw ho=>?_)⟩
  have hw' :Ow 134 h' 5 id y' [v]:=afp;simp -implicitDefEqProofs only[go_sem];refine .same (.refl _) ⟨.inr ⟨id,hs0.none hid,hw'⟩,fun k hk _=>ho k (fun e=>hk (by rw[e];exact hid)),fun k hk=>?_⟩
  rw[show au [y']=y' from rfl,hw'.nid]at hk
  cases hk;exact .inl hid
 ·have how:OwE 134 h0 h 5 (.ob id 0 xs.length cap 5) xs:=.inr ⟨id,hg,cap,rest,rfl,hid,hr,hc,hsz⟩
  have hfl:=bf hsz;refine acn Tryz.func135 95 [.tmp 6] fun hwf=>?_
  simp -implicitDefEqProofs only[go_sem];refine⟨aco,aco,?_⟩;cases d1:((i:Int)==(xs.length:Int))
  case true=>
   have hin:i=xs.length:=by
    have:(i:Int)=(xs.length:Int):=afn;omega
   simp -implicitDefEqProofs only[go_sem];subst hin;refine⟨aco,?_⟩;refine OwE.app (U:=U) (tb:=134) how hs0 (.sl afc .full:Rd h 5 (.sl [v] .full) [v]) acA acr acu acA acw aeM fun id2 y' h' g2 hor hw ho=>?_
   simp -implicitDefEqProofs only[go_sem];have e1:xs.take xs.length++([v]++xs.drop xs.length)=xs++ [v]:=acw;refine .same (.refl _) ⟨by have:OwE 134 h0 h' 5 y' (xs++ [v]):=.inr ⟨id2,g2,hw⟩;rw[←e1]at this;exact this,fun k hk hk2=>ho k fun e=>?_,fun k hk=>?_⟩
   ·rcases hor with hor|⟨l,c,ey⟩
    ·exact hk agi
    ·cases ey
     exact hk2 agc
   ·exact ahJ
  have hne:i<xs.length:=by
   have:¬(i:Int)=(xs.length:Int):=afn;omega
  have wn:IntKind.i64.wrap ((xs.length:Int)+1)=((xs.length+1:Nat):Int):=acV;have wi:=acj i aco;have wm:IntKind.i64.wrap (((xs.length+1:Nat):Int) - (i:Int))=((xs.length+1 - i:Nat):Int):=acV;have f1:aq xs=aq (xs.take i)++aq (xs.drop i):=afK;have f2:(aq (xs.take i)).length=i*5:=by rw[bf (sz:=5) fun z hz=>hsz z (List.mem_of_mem_take hz),List.length_take,Nat.min_eq_left hi]
  have f3:(aq (xs.drop i)).length=(xs.length - i)*5:=by rw[bf (sz:=5) fun z hz=>hsz z (List.mem_of_mem_drop hz),List.length_drop]
  have f4:aq (xs.take i++([v]++xs.drop i))=aq (xs.take i)++(v.cells++aq (xs.drop i)):=afL;have f5:Sized 5 (xs.take i++([v]++xs.drop i)):=fun z hz=>by
   exact ahj
  have f6:(xs.take i++([v]++xs.drop i)).length=xs.length+1:=ac5;have f6' :(xs.take i++v::xs.drop i).length=xs.length+1:=f6;cases d2:decide ((cap:Int)<((xs.length+1:Nat):Int))
  ·have e2:=acg d2
   simp -implicitDefEqProofs only[go_sem,wn,d2];refine⟨aco,?_⟩;simp -implicitDefEqProofs only[go_sem,wi];have hcs:aq xs++rest≠ []:=by
    intro e;have:=congrArg List.length e;rw[ach,hfl]at this;simp at this;omega
   refine⟨aco,aco,aco,aco,aco,aco,?_⟩;refine(Jl hv hid hcs).pthen ?_;simp -implicitDefEqProofs only[go_sem];refine .calls cQ [0,1,2,3,4,5,6,7,8] (fun _ _ e=>acR) acs rfl ?_
   simp -implicitDefEqProofs only[go_sem,wi,hid,Nat.sub_zero];have hmin:min (xs.length+1 - i) (xs.length+1 - (i+1))=xs.length - i:=aco;refine⟨aco,aco,aco,aco,aco,aco,xs.drop i,ae4,aeU, ?q1,fun z hz=>hsz z (List.mem_of_mem_drop hz),aej,by rw[ach,hfl,hr];omega,af7,aco,aco,aco,hv,aco, ?ln, ?fin⟩
   case q1=>rw[hmin,f1,List.append_assoc,←f2,List.drop_left,←f3,List.take_left]
   case ln=>simp only[ach,List.length_take,List.length_drop,hfl,hr,f3];omega
   have hrl:(5:Nat)≤rest.length:=by rw[hr];omega
   have hfv:aq [v]=v.cells:=afL;have key:=G8 (A:=aq (xs.take i)) (B:=aq (xs.drop i)) (C:=rest) (X:=aq [v]) (k1:=(i+1)*5) (k2:=(i+1)*5+(aq (xs.drop i)).length) (k3:=i*5) (k4:=i*5+(aq [v]).length) afU rfl f2.symm rfl (by rw[hfv,hv];exact hrl)
   rw[←List.append_assoc (aq (xs.take i)) (aq (xs.drop i)) rest,←f1]at key;rw[key];have e8:aq (xs.take i)++(aq [v]++(aq (xs.drop i)++rest.drop (aq [v]).length))=aq (xs.take i++([v]++xs.drop i))++rest.drop 5:=by rw[f4,hfv,hv];simp only[List.append_assoc]
   rw[e8];refine .same (.refl _) ⟨.inr ⟨id,hg,cap,rest.drop 5,by rw[←f6];rfl,ah _ _ _,by rw[List.length_drop,hr,f6'];omega,ad0,f5⟩,fun k hk hk2=>ag _ _ fun e=>hk2 agc,fun k hk=> .inr hk⟩
  ·have e2:=acf d2
   simp -implicitDefEqProofs only[go_sem,wn,d2,wm];refine⟨aco,?_⟩;simp -implicitDefEqProofs only[go_sem,hid];have eA:List.take (i*5) (aq xs++rest)=aq (xs.take i):=by rw[f1,List.append_assoc,←f2,List.take_left]
   refine⟨aco,aco,aco,aco,aco,aco,by rw[ach,hfl];omega,?_⟩
   rw[Nat.sub_zero,eA];obtain⟨Z,eZ⟩:∃Z,cL (AV.agg [AV.s [],AV.s [],AV.s [],AV.sl [] Perm.full,AV.sl [] Perm.full]) (xs.length+1 - i) 5=Z:=⟨_,rfl⟩;have lZ:Z.length=(xs.length+1 - i)*5:=by rw[←eZ];simp[cL]
   rw[eZ];intro id2 cap2 rest2 hid2 hc2 hr2;have hx:¬id=id2:=fun e=>by rw[e,hid2]at hid;cases hid
   simp -implicitDefEqProofs only[go_sem];have hfv:aq [v]=v.cells:=afL;refine⟨aco,aco,aco,hv,aco,aey,?_⟩;refine .calls cQ [0,1,2,3,4,5,6,7,8] (fun _ _ e=>acR) acs rfl ?_
   simp -implicitDefEqProofs only[go_sem,wi,hid,hx,Nat.sub_zero];have hmin:min (xs.length - i) (i+(xs.length+1 - i) - (i+1))=xs.length - i:=aco;have l0:(aq (xs.take i)++Z++rest2).length=(i+(xs.length+1 - i))*5+(cap2 - (i+(xs.length+1 - i)))*5:=aey;refine⟨aco,aco,aco,aco,aco,aco,xs.drop i,ae4,aeU, ?q2,fun z hz=>hsz z (List.mem_of_mem_drop hz),aej, ?lm,af7, ?fim⟩
   case q2=>rw[hmin,f1,List.append_assoc,←f2,List.drop_left,←f3,List.take_left]
   case lm=>rw[hfv];simp only[ach,List.length_take,List.length_drop,l0,hv];omega
   rw[He f2.symm rfl afU rfl (by rw[hfv,hv,lZ,f3];omega)]
   have e8:aq (xs.take i)++(aq [v]++(aq (xs.drop i)++rest2))=aq (xs.take i++([v]++xs.drop i))++rest2:=by rw[f4,hfv];simp only[List.append_assoc]
   rw[e8];have e9:i+(xs.length+1 - i)=xs.length+1:=aco;rw[e9]at hr2 hc2⊢;refine .same (.refl _) ⟨.inr ⟨id2,hs0.none hid2,cap2,rest2,by rw[←f6];rfl,ah _ _ _,by rw[hr2,f6'],by rw[f6'];omega,f5⟩,fun k hk hk2=>ag _ _ fun e=>hk (by rw[e];exact hid2),fun k hk=> .inl (by cases hk;exact hid2)⟩
theorem FW{h:Heap}{v:AV}{id off len cap:Nat}{cs:List AV}{t:TypeId}(hv:v.cells.length=4)(hid:h id=some (.obj cs t))(hcs:cs≠ []):ai Tryz.prog 223 [.sl [v] .full,.ob id off len cap 4] h fun r h' =>r= .b false∧h' =h:=
 wo (U:=U) (tS:=131) (tR:=4) (e:=215) hU Tryz.func223 acF acF acF acs acF acr (by simp only[go_sem];omega) acw hid hcs
theorem Dq(y:AV)(xs:List AV)(v:AV)(i:Nat)(h0 h:Heap)(hw:OwE 215 h0 h 4 y xs)(hs0:Ab.Sub h0 h)(hi:i≤xs.length)(hl:xs.length≤1000000)(hv:v.cells.length=4)(hva:fit v 4):
  ai Tryz.prog 182 [y,.i i,.sl [v] .full] h fun r h' =>OwE 215 h0 h' 4 r (xs.take i++([v]++xs.drop i))∧(∀k,h k≠none→nid y≠some k→h' k=h k)∧∀k,nid r=some k→h k=none∨nid y=some k:=by
 rcases hw with⟨rfl,rfl⟩|⟨id,hg,cap,rest,rfl,hid,hr,hc,hsz⟩
 ·obtain rfl:i=0:=by simpa using hi
  refine acn Tryz.func182 95 [.tmp 6] fun hwf=>?_
  simp -implicitDefEqProofs only[go_sem];refine⟨aco,aco,hv,.ob acA (j0.ow (xs:=[v]) aei afL rfl fun id y' h' hid hw ho=>?_)⟩
  have hw' :Ow 215 h' 4 id y' [v]:=afp;simp -implicitDefEqProofs only[go_sem];refine .same (.refl _) ⟨.inr ⟨id,hs0.none hid,hw'⟩,fun k hk _=>ho k (fun e=>hk (by rw[e];exact hid)),fun k hk=>?_⟩
  rw[show au [y']=y' from rfl,hw'.nid]at hk
  cases hk;exact .inl hid
 ·have how:OwE 215 h0 h 4 (.ob id 0 xs.length cap 4) xs:=.inr ⟨id,hg,cap,rest,rfl,hid,hr,hc,hsz⟩
  have hfl:=bf hsz;refine acn Tryz.func182 95 [.tmp 6] fun hwf=>?_
  simp -implicitDefEqProofs only[go_sem];refine⟨aco,aco,?_⟩;cases d1:((i:Int)==(xs.length:Int))
  case true=>
   have hin:i=xs.length:=by
    have:(i:Int)=(xs.length:Int):=afn;omega
   simp -implicitDefEqProofs only[go_sem];subst hin;refine⟨aco,?_⟩;refine OwE.app (U:=U) (tb:=215) how hs0 (.sl afc .full:Rd h 4 (.sl [v] .full) [v]) acA acr acu acA acw aeM fun id2 y' h' g2 hor hw ho=>?_
   simp -implicitDefEqProofs only[go_sem];have e1:xs.take xs.length++([v]++xs.drop xs.length)=xs++ [v]:=acw;refine .same (.refl _) ⟨by have:OwE 215 h0 h' 4 y' (xs++ [v]):=.inr ⟨id2,g2,hw⟩;rw[←e1]at this;exact this,fun k hk hk2=>ho k fun e=>?_,fun k hk=>?_⟩
   ·rcases hor with hor|⟨l,c,ey⟩
    ·exact hk agi
    ·cases ey
     exact hk2 agc
   ·exact ahJ
  have hne:i<xs.length:=by
   have:¬(i:Int)=(xs.length:Int):=afn;omega
  have wn:IntKind.i64.wrap ((xs.length:Int)+1)=((xs.length+1:Nat):Int):=acV;have wi:=acj i aco;have wm:IntKind.i64.wrap (((xs.length+1:Nat):Int) - (i:Int))=((xs.length+1 - i:Nat):Int):=acV;have f1:aq xs=aq (xs.take i)++aq (xs.drop i):=afK;have f2:(aq (xs.take i)).length=i*4:=by rw[bf (sz:=4) fun z hz=>hsz z (List.mem_of_mem_take hz),List.length_take,Nat.min_eq_left hi]
  have f3:(aq (xs.drop i)).length=(xs.length - i)*4:=by rw[bf (sz:=4) fun z hz=>hsz z (List.mem_of_mem_drop hz),List.length_drop]
  have f4:aq (xs.take i++([v]++xs.drop i))=aq (xs.take i)++(v.cells++aq (xs.drop i)):=afL;have f5:Sized 4 (xs.take i++([v]++xs.drop i)):=fun z hz=>by
   exact ahj
  have f6:(xs.take i++([v]++xs.drop i)).length=xs.length+1:=ac5;have f6' :(xs.take i++v::xs.drop i).length=xs.length+1:=f6;cases d2:decide ((cap:Int)<((xs.length+1:Nat):Int))
  ·have e2:=acg d2
   simp -implicitDefEqProofs only[go_sem,wn,d2];refine⟨aco,?_⟩;simp -implicitDefEqProofs only[go_sem,wi];have hcs:aq xs++rest≠ []:=by
    intro e;have:=congrArg List.length e;rw[ach,hfl]at this;simp at this;omega
   refine⟨aco,aco,aco,aco,aco,aco,?_⟩;refine(FW hv hid hcs).pthen ?_;simp -implicitDefEqProofs only[go_sem];refine .calls cQ [0,1,2,3,4,5,6,7,8] (fun _ _ e=>acR) acs rfl ?_
   simp -implicitDefEqProofs only[go_sem,wi,hid,Nat.sub_zero];have hmin:min (xs.length+1 - i) (xs.length+1 - (i+1))=xs.length - i:=aco;refine⟨aco,aco,aco,aco,aco,aco,xs.drop i,ae4,aeU, ?q1,fun z hz=>hsz z (List.mem_of_mem_drop hz),aej,by rw[ach,hfl,hr];omega,af7,aco,aco,aco,hv,aco, ?ln, ?fin⟩
   case q1=>rw[hmin,f1,List.append_assoc,←f2,List.drop_left,←f3,List.take_left]
   case ln=>simp only[ach,List.length_take,List.length_drop,hfl,hr,f3];omega
   have hrl:(4:Nat)≤rest.length:=by rw[hr];omega
   have hfv:aq [v]=v.cells:=afL;have key:=G8 (A:=aq (xs.take i)) (B:=aq (xs.drop i)) (C:=rest) (X:=aq [v]) (k1:=(i+1)*4) (k2:=(i+1)*4+(aq (xs.drop i)).length) (k3:=i*4) (k4:=i*4+(aq [v]).length) afU rfl f2.symm rfl (by rw[hfv,hv];exact hrl)
   rw[←List.append_assoc (aq (xs.take i)) (aq (xs.drop i)) rest,←f1]at key;rw[key];have e8:aq (xs.take i)++(aq [v]++(aq (xs.drop i)++rest.drop (aq [v]).length))=aq (xs.take i++([v]++xs.drop i))++rest.drop 4:=by rw[f4,hfv,hv];simp only[List.append_assoc]
   rw[e8];refine .same (.refl _) ⟨.inr ⟨id,hg,cap,rest.drop 4,by rw[←f6];rfl,ah _ _ _,by rw[List.length_drop,hr,f6'];omega,ad0,f5⟩,fun k hk hk2=>ag _ _ fun e=>hk2 agc,fun k hk=> .inr hk⟩
  ·have e2:=acf d2
   simp -implicitDefEqProofs only[go_sem,wn,d2,wm];refine⟨aco,?_⟩;simp -implicitDefEqProofs only[go_sem,hid];have eA:List.take (i*4) (aq xs++rest)=aq (xs.take i):=by rw[f1,List.append_assoc,←f2,List.take_left]
   refine⟨aco,aco,aco,aco,aco,aco,by rw[ach,hfl];omega,?_⟩
   rw[Nat.sub_zero,eA];obtain⟨Z,eZ⟩:∃Z,cL (AV.agg [AV.s [],AV.v (Value.int IntKind.i64 0),AV.v (Value.int IntKind.i64 0),AV.s []]) (xs.length+1 - i) 4=Z:=⟨_,rfl⟩;have lZ:Z.length=(xs.length+1 - i)*4:=by rw[←eZ];simp[cL]
   rw[eZ];intro id2 cap2 rest2 hid2 hc2 hr2;have hx:¬id=id2:=fun e=>by rw[e,hid2]at hid;cases hid
   simp -implicitDefEqProofs only[go_sem];have hfv:aq [v]=v.cells:=afL;refine⟨aco,aco,aco,hv,aco,aey,?_⟩;refine .calls cQ [0,1,2,3,4,5,6,7,8] (fun _ _ e=>acR) acs rfl ?_
   simp -implicitDefEqProofs only[go_sem,wi,hid,hx,Nat.sub_zero];have hmin:min (xs.length - i) (i+(xs.length+1 - i) - (i+1))=xs.length - i:=aco;have l0:(aq (xs.take i)++Z++rest2).length=(i+(xs.length+1 - i))*4+(cap2 - (i+(xs.length+1 - i)))*4:=aey;refine⟨aco,aco,aco,aco,aco,aco,xs.drop i,ae4,aeU, ?q2,fun z hz=>hsz z (List.mem_of_mem_drop hz),aej, ?lm,af7, ?fim⟩
   case q2=>rw[hmin,f1,List.append_assoc,←f2,List.drop_left,←f3,List.take_left]
   case lm=>rw[hfv];simp only[ach,List.length_take,List.length_drop,l0,hv];omega
   rw[He f2.symm rfl afU rfl (by rw[hfv,hv,lZ,f3];omega)]
   have e8:aq (xs.take i)++(aq [v]++(aq (xs.drop i)++rest2))=aq (xs.take i++([v]++xs.drop i))++rest2:=by rw[f4,hfv];simp only[List.append_assoc]
   rw[e8];have e9:i+(xs.length+1 - i)=xs.length+1:=aco;rw[e9]at hr2 hc2⊢;refine .same (.refl _) ⟨.inr ⟨id2,hs0.none hid2,cap2,rest2,by rw[←f6];rfl,ah _ _ _,by rw[hr2,f6'],by rw[f6'];omega,f5⟩,fun k hk hk2=>ag _ _ fun e=>hk (by rw[e];exact hid2),fun k hk=> .inl (by cases hk;exact hid2)⟩
end Go.Proofs.YtcochaoekecfdaaGreatDoor
namespace Go.Ab
open Go
noncomputable def pick (H:Heap) (l:List Nat):Heap:=fun j=>if j∈l then H j else none
theorem bC{H:Heap}{l:List Nat}{j:Nat}(hj:j∈l):pick H l j=H j:=if_pos hj
theorem iG{H h' :Heap}{l:List Nat}(hs:∀j∈l,h' j=H j):Sub (pick H l) h' :=fun j b hb=>by
 simp_all [bC,pick,if_neg]
theorem bx{H:Heap}{l:List Nat}:Sub (pick H l) H:=iG fun _ _=>rfl
end Go.Ab
namespace Go.Proofs.YtcochaoekecfdaaGreatDoor
open Go Go.Ab Go.Bf
def cj(c:aJ)(f l:AV):List AV:=[.s c.id,.s c.owner,.s c.state,f,l]
theorem sr{h0 h:Heap}{s:an}(y1 y2 y3 y4:AV){k o:Nat}{A B:List AV}{t:TypeId}{c:aJ}{f l:AV}(ho:o=A.length)(hk:h k=some (.obj (A++(cj c f l++B)) t))(ht:t≠205)
  (hlo:OwE 205 h0 h 3 l (c.log.map fU)) (hs0:Ab.Sub h0 h) (hll:c.log.length≤1000000) (actor what:Txt):
  ai Tryz.prog 134 [.agg ([.i s.tick,y1,y2,y3,y4]++fV s.policy++ [.i s.version]),.ptr k o,.s actor,.s what] h fun r h' =>∃l',OwE 205 h0 h' 3 l' ((c.log++ [(⟨s.tick,actor,what⟩:uy)]).map fU)∧h' k=some (.obj (A++(cj c f l' ++B)) t)∧(∀j,h j≠none→j≠k→nid l≠some j→h' j=h j)∧∀j,nid l' =some j→h j=none∨nid l=some j:=by
 cases hpp:s.policy with
 |mk pid pset palg ptgt prules pkids pobls=>
 have hcC:fV (.mk pid pset palg ptgt prules pkids pobls)= [.s pid,.b pset,.i palg,aS ptgt,.sl (prules.map aA) .no,.sl (pkids.map aK) .no,ay pobls]:=afq;refine acn Tryz.func134 22 [] fun hwf=>?_
 simp only[go_sem,hcC,List.cons_append,List.nil_append];intro i1 h1;simp only[go_sem];obtain⟨H,eH⟩:∃H,upd h i1 (some (.obj [.i s.tick,y1,y2,y3,y4,.s pid,.b pset,.i palg,aS ptgt,.sl (prules.map aA) .no,.sl (pkids.map aK) .no,ay pobls,.i s.version] 67))=H:=⟨_,rfl⟩;have n1k:k≠i1:=fun e=>by rw[e,h1]at hk;cases hk
 have g1:H i1=some (.obj [.i s.tick,y1,y2,y3,y4,.s pid,.b pset,.i palg,aS ptgt,.sl (prules.map aA) .no,.sl (pkids.map aK) .no,ay pobls,.i s.version] 67):=adR;have gk:H k=some (.obj (A++(cj c f l++B)) t):=by rw[←eH,ag _ _ n1k];exact hk
 have hH:Ab.Sub h H:=by rw[←eH];exact(Sub.refl h).put h1 _
 have hoj:∀j,j≠i1→H j=h j:=fun j hj=>by rw[←eH];exact ag _ _ hj
 rw[eH];clear eH;refine .stage (hm2 k (.obj (A++(cj c f l++B)) t) i1 (.obj [.i s.tick,y1,y2,y3,y4,.s pid,.b pset,.i palg,aS ptgt,.sl (prules.map aA) .no,.sl (pkids.map aK) .no,ay pobls,.i s.version] 67)) [0,1,2,3,4,5,6,7,8,9,10,11,12,13] [14] (.hm2 gk g1) acs ?_;have hc4:(A++(cj c f l++B))[o+4]? =some l:=aed;obtain⟨CS,eCS⟩:∃CS,A++(cj c f l++B)=CS:=⟨_,rfl⟩;rw[eCS]at hc4 gk⊢;simp only[go_sem,oN,oL _ _ n1k,hc4];have hap1:Rd H 3 (.sl [fU ⟨s.tick,actor,what⟩] .full) [fU ⟨s.tick,actor,what⟩]:=.sl adb .full;refine OwE.app (U:=U) (tb:=205) (hlo.sub hH) (hs0.trans hH) hap1 acA acr acu acA acw acW fun id2 y' h' g2 hor hw ho2=>?_
 have hor' :H id2=none∨nid l=some id2:=by
  exact ahb
 have k2:k≠id2:=by
  rcases hor' with hor|hor
  ·exact fun e=>by rw[←e,gk]at hor;cases hor
  ·exact(lO ((hlo.sub hH).nid hor).2.2 gk ht).symm
 have i2:i1≠id2:=by
  rcases hor' with hor|hor
  ·exact fun e=>by rw[←e,g1]at hor;cases hor
  ·exact fun e=>(hlo.nid hor).2.1 (by rw[←e];exact h1)
 have gk' :=(ho2 k k2).trans gk;have gi' :=(ho2 i1 i2).trans g1;refine⟨.hm2 gk' gi',?_⟩;simp only[go_sem];refine⟨cQ,(fun _ _ e=>acR),?_⟩
 simp only[go_sem,gk',hw.rd.fit,hw.rd.cells];have lCS:CS.length=A.length+(5+B.length):=by rw[←eCS];simp[cj];omega
 have e5:List.take (o+4) CS++ [y']++List.drop (o+4+1) CS=A++(cj c f y' ++B):=by
  have:=oR (A:=A++ [.s c.id,.s c.owner,.s c.state,f]) (B:=[l]) (C:=B) (X:=[y']) (k:=o+4) (m:=1) (by rw[ho];simp) rfl rfl
  exact ah8
 rw[e5];refine⟨aco,(fun _ _ e=>acR),.same (.refl _) ⟨y',?_,ah ..,fun j hj hjk hjl=>?_,fun j hj=>?_⟩⟩
 ·have hw' :Ow 205 (upd h' k (some (.obj (A++(cj c f y' ++B)) t))) 3 id2 y' (c.log.map fU++ [fU ⟨s.tick,actor,what⟩]):=hw.same (ag _ _ k2.symm)
  rw[List.map_append];exact .inr ⟨id2,g2,hw'⟩
 ·have hj2:j≠id2:=by
   rcases hor' with hor|hor
   ·intro e
    have:=hoj j (fun e' =>hj (by rw[e'];exact h1))
    rw[e,hor]at this;exact hj (by rw[e];exact this.symm)
   ·exact fun e=>hjl agi
  have hj1:j≠i1:=fun e=>hj (by rw[e];exact h1)
  rw[ag _ _ hjk,ho2 j hj2,hoj j hj1]
 ·have:id2=j:=by have:=hw.nid;rw[hj]at this;exact(Option.some.inj this).symm
  rw[←this];rcases hor' with hor|hor
  ·refine .inl ?_
   cases hh:h id2 with
   |none=>rfl
   |some b=>rw[hH _ _ hh]at hor;cases hor
  ·exact .inr hor
theorem JZ{h:Heap}(f:cM){k:Nat}{name:Txt}(hk:h k=some (.obj [.s name] 9)):ai Tryz.prog 181 [bz f,.ptr k 0] h fun r h' =>r= .b (geB f.name name)∧h' =h:=by
 refine acn Tryz.func181 8 [.tmp 3] fun hwf=>?_
 simp only[go_sem,bz];exact agS
theorem Gt{fs:List cM}{name:Txt}{v:bD}(hx:¬fs.findIdx (fun f=>geB f.name name)<fs.length):eT fs name v=fs++ [⟨name,v⟩]:=by
 grind [eT,List.getElem?_eq_none,geB]
theorem zA{fs:List cM}{name:Txt}{v:bD}(hx:fs.findIdx (fun f=>geB f.name name)<fs.length)(he:fs[fs.findIdx (fun f=>geB f.name name)].name=name):eT fs name v=fs.set (fs.findIdx (fun f=>geB f.name name)) ⟨name,v⟩:=by
 simp_all [eT,List.getElem?_eq_getElem,if_true]
theorem Gu{fs:List cM}{name:Txt}{v:bD}(hx:fs.findIdx (fun f=>geB f.name name)<fs.length)(he:fs[fs.findIdx (fun f=>geB f.name name)].name≠name):eT fs name v=fs.take (fs.findIdx (fun f=>geB f.name name))++ [⟨name,v⟩]++fs.drop (fs.findIdx (fun f=>geB f.name name)):=by
 simp_all [eT,List.getElem?_eq_getElem,if_false]
theorem ML{h0 h:Heap}{k o:Nat}{A B:List AV}{t:TypeId}{c:aJ}{f l:AV}(ho:o=A.length)(hk:h k=some (.obj (A++(cj c f l++B)) t))(ht:t≠215)
  (hfo:OwE 215 h0 h 4 f (c.fields.map bz)) (hs0:Ab.Sub h0 h) (hff:c.fields.length≤1000000) (name:Txt) (v:bD):
  ai Tryz.prog 136 [.ptr k o,.s name,aU v] h fun r h' =>∃f',OwE 215 h0 h' 4 f' ((eT c.fields name v).map bz)∧h' k=some (.obj (A++(cj c f' l++B)) t)∧(∀j,h j≠none→j≠k→nid f≠some j→h' j=h j)∧∀j,nid f' =some j→h j=none∨nid f=some j:=by
 have hc3:(A++(cj c f l++B))[o+3]? =some f:=aed;have lCS:(A++(cj c f l++B)).length=A.length+(5+B.length):=by simp[cj];omega
 have e5:∀y',List.take (o+3) (A++(cj c f l++B))++ [y']++List.drop (o+3+1) (A++(cj c f l++B))=A++(cj c y' l++B):=fun y' =>by
  have:=oR (A:=A++ [.s c.id,.s c.owner,.s c.state]) (B:=[f]) (C:=l::B) (X:=[y']) (k:=o+3) (m:=1) (by rw[ho];simp) rfl rfl
  exact aik
 obtain⟨CS,eCS⟩:∃CS,A++(cj c f l++B)=CS:=⟨_,rfl⟩;rw[eCS]at hc3 hk lCS e5;refine acn Tryz.func136 60 [] fun hwf=>?_
 simp only[go_sem,aU];intro i1 h1;simp only[go_sem];intro i2 h2;have n21:=aH h2;have n2:=aC h2;have nk1:k≠i1:=fun e=>by rw[e,h1]at hk;cases hk
 have nk2:k≠i2:=fun e=>by rw[e,n2]at hk;cases hk
 obtain⟨H,eH⟩:∃H,upd (upd h i1 (some (.obj [.s name] 9))) i2 (some (.obj [.i v.kind,.i v.n,.s v.s] 30))=H:=⟨_,rfl⟩;have g1:H i1=some (.obj [.s name] 9):=adY;have g2:H i2=some (.obj [.i v.kind,.i v.n,.s v.s] 30):=adR;have gk:H k=some (.obj CS t):=by rw[←eH,ag _ _ nk2,ag _ _ nk1];exact hk
 have hH:Ab.Sub h H:=adq;have hoj:∀j,h j≠none→H j=h j:=fun j hj=>by rw[←eH,ag _ _ (fun e=>hj (by rw[e];exact n2)),ag _ _ (fun e=>hj (by rw[e];exact h1))]
 rw[eH];clear eH;simp only[go_sem,gk,hc3];refine(yq f _ c.fields (fun f=>geB f.name name) _ [.ptr i1 0] _ (hfo.sub hH).rd acw ac5 (ou (fun _=>rfl) _) fun i a b=>by
  rw[ace];exact JZ _ g1).pthen ?_
 have hns:∀G,Ab.Sub cQ G:=fun G _ _ e=>acR
 by_cases hx:c.fields.findIdx (fun f=>geB f.name name)<c.fields.length
 ·obtain⟨i,ei⟩:∃i,c.fields.findIdx (fun f=>geB f.name name)=i:=⟨_,rfl⟩
  have hxm:i<(c.fields.map bz).length:=by rw[←ei];simpa using hx
  have e1:ixD (fun f=>geB f.name name) c.fields=(i:Nat):=by rw[ixD,ei];exact if_pos (by rw[←ei];exact hx)
  have d1:decide (((i:Nat):Int)<0)=false:=decide_eq_false aco;rw[e1];simp only[go_sem,d1];refine⟨.of acs,?_⟩;simp only[go_sem,gk,hc3];refine(hfo.sub hH).rd.idx (e:=215) i rfl hxm Gn acr fun p hp1=>?_
  simp only[go_sem];refine hp1.field (f:=0) (off:=0) (t:=9) rfl JS fun p2 hp2=>?_
  have hld:=hp2.part (U:=U) (ty:=9) JS (by rw[ace,MC];exact ab9 rfl)
  simp only[go_sem,hld,ace,bz,g1];have hxi:i<c.fields.length:=by rw[←ei];exact hx
  cases d2:(c.fields[i].name==name)
  ·have hne:c.fields[i].name≠name:=by simpa using d2
   simp only[go_sem];refine .stage (pick H [k,i1,i2]) [0,1,2,3,4,5,6,7,8,9,10,11,12] [13] bx acs ?_;simp only[go_sem,bC (show k∈ [k,i1,i2] by simp),bC (show i1∈ [k,i1,i2] by simp),bC (show i2∈ [k,i1,i2] by simp),gk,g1,g2,hc3]
   refine(Dq f _ (bz ⟨name,v⟩) i h0 H (hfo.sub hH) (hs0.trans hH) aco (by simpa using hff) rfl (by simp[bz,Ab.fit])).mono fun f' H1 ⟨w1,fr,ap⟩=>?_
   have nk:nid f≠some k:=fun e=>lO ((hfo.sub hH).nid e).2.2 gk ht rfl
   have n1' :nid f≠some i1:=fun e=>(hfo.nid e).2.1 h1
   have n2' :nid f≠some i2:=fun e=>(hfo.nid e).2.1 n2
   have gk' :H1 k=some (.obj CS t):=(fr k (by rw[gk];simp) nk).trans gk
   refine⟨iG fun j hj=>?_,?_⟩
   ·simp only[List.mem_cons,List.not_mem_nil,or_false]at hj
    rcases hj with rfl|rfl|rfl
    ·exact fr _ (by rw[gk];simp) nk
    ·exact fr _ (by rw[g1];simp) n1'
    ·exact fr _ (by rw[g2];simp) n2'
   simp only[go_sem];refine⟨cQ,hns _,?_⟩;simp only[go_sem,gk',w1.rd.fit,w1.rd.cells];have hk2:nid f'≠some k:=fun e=>by
    rcases ap k e with h|h
    ·rw[gk]at h;cases h
    ·exact nk h
   have em:List.take i (c.fields.map bz)++([bz ⟨name,v⟩]++List.drop i (c.fields.map bz))=(eT c.fields name v).map bz:=by
    rw[Gu hx (by simp only[ei];exact hne),ei]
    simp[List.map_append,List.map_take,List.map_drop]
   rw[e5];rw[em]at w1;refine⟨aco,hns _,.same (.refl _) ⟨f',w1.keep fun id e=>ag _ _ fun e' =>hk2 (by rw[←e'];exact e),ah ..,fun j hj hjk hjl=>?_,fun j hj=>?_⟩⟩
   ·rw[ag _ _ hjk,fr j (by rw[hoj j hj];exact hj) hjl,hoj j hj]
   ·rcases ap j hj with h|h
    ·exact .inl (hH.none h)
    ·exact .inr h
  ·have heq:c.fields[i].name=name:=by simpa using d2
   simp only[go_sem];refine⟨.of acs,?_⟩;simp only[go_sem,gk,g2,hc3];obtain⟨id1,hg1,o1⟩:=(hfo.sub hH).ow (by intro e;rw[e]at hxm;cases hxm)
   have t1:id1≠k:=lO o1 gk ht;have o1' :=o1;obtain⟨cap,rest,ey,hid,hr,hcap,hsz⟩:=o1';refine o1.idx (U:=U) (e:=215) i rfl hxm Gn acr ?_;simp only[go_sem,hid];have hxl:=ace (f:=bz) (l:=c.fields) (i:=i) (h:=hxm);have e2:List.take (i*4+1) (aq (c.fields.map bz)++rest)++ [.i v.kind,.i v.n,.s v.s]++List.drop (i*4+1+3) (aq (c.fields.map bz)++rest)=aq ((eT c.fields name v).map bz)++rest:=by
    refine(lp hsz i hxm 1 [.i v.kind,.i v.n,.s v.s] (ab9 rfl)).trans ?_;rw[zA hx (by simp only[ei];exact heq),ei,List.map_set,hxl]
    have:AV.agg (over (bz c.fields[i]).cells 1 [.i v.kind,.i v.n,.s v.s])=bz ⟨name,v⟩:=by rw[←heq];rfl
    rw[this]
   have lw:(eT c.fields name v).length=c.fields.length:=by rw[zA hx (by simp only[ei];exact heq),List.length_set]
   rw[e2];refine⟨by rw[ach,bf hsz];omega,.same (.refl _) ⟨f,.inr ⟨id1,hg1,cap,rest,by rw[ey];simp[lw],ah ..,by rw[hr];simp[lw],by rw[acd]at hcap⊢;omega,br (f:=bz) (n:=4) (fun _=>rfl) _⟩,(ag _ _ t1.symm).trans (by rw[eCS];exact gk),fun j hj hjk hjl=>?_,fun j hj=> .inr hj⟩⟩
   have:j≠id1:=fun e=>hjl (by rw[e];exact o1.nid)
   rw[ag _ _ this,hoj j hj]
 ·have e1:ixD (fun f=>geB f.name name) c.fields= -1:=by rw[ixD];exact if_neg hx
  have d1:decide ((-1:Int)<0)=true:=rfl;rw[e1];simp only[go_sem,d1];refine .stage (pick H [k,i1,i2]) [0,1,2,3,4,5,6,7,8,9,10,11] [12] bx acs ?_;simp only[go_sem,bC (show k∈ [k,i1,i2] by simp),bC (show i1∈ [k,i1,i2] by simp),bC (show i2∈ [k,i1,i2] by simp),gk,g1,g2,hc3]
  have hap1:Rd H 4 (.sl [bz ⟨name,v⟩] .full) [bz ⟨name,v⟩]:=.sl adb .full;refine OwE.app (U:=U) (tb:=215) (hfo.sub hH) (hs0.trans hH) hap1 acA acr acu acA acw acW fun id2 y' h' g3 hor hw ho2=>?_
  have hor' :H id2=none∨nid f=some id2:=by
   exact ahb
  have k2:k≠id2:=by
   rcases hor' with hor|hor
   ·exact fun e=>by rw[←e,gk]at hor;cases hor
   ·exact(lO ((hfo.sub hH).nid hor).2.2 gk ht).symm
  have j1:i1≠id2:=by
   rcases hor' with hor|hor
   ·exact fun e=>by rw[←e,g1]at hor;cases hor
   ·exact fun e=>(hfo.nid hor).2.1 (by rw[←e];exact h1)
  have j2:i2≠id2:=by
   rcases hor' with hor|hor
   ·exact fun e=>by rw[←e,g2]at hor;cases hor
   ·exact fun e=>(hfo.nid hor).2.1 (by rw[←e];exact n2)
  refine⟨iG fun j hj=>ho2 j ?_,?_⟩
  ·simp only[List.mem_cons,List.not_mem_nil,or_false]at hj
   rcases hj with rfl|rfl|rfl
   ·exact k2
   ·exact j1
   ·exact j2
  have gk' :=(ho2 k k2).trans gk;simp only[go_sem];refine⟨cQ,hns _,?_⟩;simp only[go_sem,gk',hw.rd.fit,hw.rd.cells];rw[e5,Gt hx];refine⟨aco,hns _,.same (.refl _) ⟨y',?_,ah ..,fun j hj hjk hjl=>?_,fun j hj=>?_⟩⟩
  ·have hw' :Ow 215 (upd h' k (some (.obj (A++(cj c y' l++B)) t))) 4 id2 y' (c.fields.map bz++ [bz ⟨name,v⟩]):=hw.same (ag _ _ k2.symm)
   rw[List.map_append];exact .inr ⟨id2,g3,hw'⟩
  ·have hj2:j≠id2:=by
    rcases hor' with hor|hor
    ·intro e
     have:=hoj j hj;rw[e,hor]at this;exact hj (by rw[e];exact this.symm)
    ·exact fun e=>hjl agi
   rw[ag _ _ hjk,ho2 j hj2,hoj j hj]
  ·have:id2=j:=by have:=hw.nid;rw[hj]at this;exact(Option.some.inj this).symm
   rw[←this];rcases hor' with hor|hor
   ·exact .inl (hH.none hor)
   ·exact .inr hor
theorem CI{cs:List aJ}{id:Txt}(h:bZ cs id=true):bw cs id=cs[findD cs id]'(jz h):=by
 simp_all [bw,if_pos,List.getD_eq_getElem?_getD,List.getElem?_eq_getElem,jz]
theorem CJ{cs:List aJ}{id:Txt}(h:bZ cs id=false):bw cs id=oh:=by
 simp_all [bw,if_neg]
theorem l9{g h:Heap}{p:Perm}:Frz g h (.sl [] p) (.sl [] .no):=.sl _ _ _ rfl aco acw
theorem Dc{g h:Heap}(c:aJ):Frz g h (cr c) (cr c):=.agg _ _ rfl fun j a b=>by
 rcases j with _|_|_|_|_|j
 ·exact acK
 ·exact acK
 ·exact acK
 ·exact .pure (show cR (gu c.fields)=true from bu (fun _=>rfl) c.fields)
 ·exact .pure (show cR (sB c.log)=true from bu (fun _=>rfl) c.log)
 ·simp[mT]at a;omega
theorem BM{h:Heap}{x:AV}{s:an}(hb:RdS h x s)(id:Txt)(hf:Few s):ai Tryz.prog 76 [x,.s id] h fun r h' =>r= .tup [cr (bw s.cases id),.b (bZ s.cases id)]∧h' =h:=
 ai.freeze fun g hg _=>by
 replace hb:=hb.sub hg;have hb0:=hb;obtain⟨y1,y2,y3,y4,rfl,⟨xs,hc,hn,hcs⟩,h2,h3,h4⟩:=hb;cases hpp:s.policy with
 |mk pid pset palg ptgt prules pkids pobls=>
 have hcC:fV (.mk pid pset palg ptgt prules pkids pobls)= [.s pid,.b pset,.i palg,aS ptgt,.sl (prules.map aA) .no,.sl (pkids.map aK) .no,ay pobls]:=afq;rw[hpp,hcC]at hb0;refine acn Tryz.func76 23 [.cell 4 134,.tmp 5] fun hwf=>?_
 simp -implicitDefEqProofs only[go_sem,hcC,List.cons_append,List.nil_append];intro i1 h1;simp -implicitDefEqProofs only[go_sem];intro i2 h2';have n21:=aH h2';have n2:=aC h2';simp -implicitDefEqProofs only[go_sem,aj,n21.symm];have hs:∀a b,Ab.Sub g (upd (upd g i1 a) i2 b):=fun a b=>((Sub.refl g).put h1 a).put n2 b
 refine(BT (hb0.sub (hs _ _)) id hf.cases).pthen ?_;cases d1:bZ s.cases id
 ·simp -implicitDefEqProofs only[go_sem]
  refine .mk _ (.refl _) (.refl _) ⟨hs _ _,.tup [.agg [.s [],.s [],.s [],.sl [] .no,.sl [] .no],.b false],.tup _ _ rfl fun i a b=>?_,by rw[CJ d1];rfl⟩
  rcases i with _|_|i
  ·refine .agg _ _ rfl fun j c d=>?_
   rcases j with _|_|_|_|_|j
   ·exact acK
   ·exact acK
   ·exact acK
   ·exact l9
   ·exact l9
   grind
  ·exact acK
  grind
 ·have hlt:=jz d1
  have hltx:findD s.cases id<xs.length:=aco;obtain⟨f,l,ex,hfl,hlg⟩:=hcs _ hltx hlt;simp -implicitDefEqProofs only[go_sem,aj,n21.symm];refine hc.idx (e:=134) (findD s.cases id) rfl hltx nq acr fun p hp1=>?_
  have hld:=fun a b=>(hp1.sub (hs a b)).all (U:=U) (ty:=134) acr (by rw[nq,ex];rfl) (by simp only[go_sem];rw[ex];rfl)
  simp -implicitDefEqProofs only[go_sem,hld];refine(wq ((hcs _ hltx hlt).sub (hs _ _)) (hf.fields _ (aci hlt)) (hf.log _ (aci hlt))).pthen ?_;rw[←CI d1];simp -implicitDefEqProofs only[go_sem,cr,mT,gu,sB];refine .mk _ (.refl _) (.refl _) ⟨hs _ _,_,.tup _ _ rfl fun i a b=>?_,rfl⟩
  rcases i with _|_|i
  ·exact Dc _
  ·exact acK
  grind
theorem Cf{h:Heap}{x:AV}{s:an}(hb:RdS h x s)(o:OpD)(hf:Few s):ai Tryz.prog 120 [x,opA o] h fun r h' =>r= .i (bY s o)∧h' =h:=by
 have hb0:=hb;obtain⟨y1,y2,y3,y4,rfl,⟨xs,hc,hn,hcs⟩,h2,h3,h4⟩:=hb;cases hpp:s.policy with
 |mk pid pset palg ptgt prules pkids pobls=>
 have hcC:fV (.mk pid pset palg ptgt prules pkids pobls)= [.s pid,.b pset,.i palg,aS ptgt,.sl (prules.map aA) .no,.sl (pkids.map aK) .no,ay pobls]:=afq;rw[hpp,hcC]at hb0;refine acn Tryz.func120 67 [.tmp 4] fun hwf=>?_
 simp -implicitDefEqProofs only[go_sem,hcC,opA,opC,List.cons_append,List.nil_append];intro i1 h1;simp -implicitDefEqProofs only[go_sem];intro i2 h2';have n21:=aH h2';have n2:=aC h2';simp -implicitDefEqProofs only[go_sem,aj,n21.symm];have hs:∀a b,Ab.Sub h (upd (upd h i1 a) i2 b):=fun a b=>((Sub.refl h).put h1 a).put n2 b
 refine(BM (hb0.sub (hs _ _)) o.case hf).pthen ?_;simp -implicitDefEqProofs only[go_sem,cr,mT,gu,sB];intro i3 h3';have n32:=aH h3';have h3b:=aC h3';have n31:=aH h3b;have n3:=aC h3b;have hs3:∀a b d,Ab.Sub h (upd (upd (upd h i1 a) i2 b) i3 d):=fun a b d=>(((Sub.refl h).put h1 a).put n2 b).put n3 d
 have hA:=(fun a b d=>Sub.trans (Sub.refl h) (hs3 a b d))
 simp -implicitDefEqProofs only[go_sem,aj,n32.symm];have hfl:(bw s.cases o.case).fields.length≤1000000000:=by
  unfold bw;split
  ·rename_i ht
   have hlt:=jz ht;rw[List.getD_eq_getElem?_getD,List.getElem?_eq_getElem hlt];exact Nat.le_trans (hf.fields _ (aci hlt)) acr
  decide
 cases d1:bZ s.cases o.case
 ·simp -implicitDefEqProofs only[go_sem]
  exact .mk _ (.refl _) (hs3 _ _ _) ⟨by simp only[bY,d1];rfl,rfl⟩
 ·simp -implicitDefEqProofs only[go_sem,aj,n32.symm]
  cases k3:(o.kind==3)
  ·have p3:o.kind≠3:=by grind
   simp -implicitDefEqProofs only[go_sem];cases k2:(o.kind==2)
   ·have p2:o.kind≠2:=by grind
    have k2n:(o.kind !=2)=true:=acp;cases d256:decide ((256:Int)≤((bw s.cases o.case).log.length:Int))
    ·have p256:¬256≤(bw s.cases o.case).log.length:=by grind
     simp -implicitDefEqProofs only[go_sem,aj,n32.symm,acd,k3,k2n,d256];cases k4:(o.kind==4)
     ·have p4:o.kind≠4:=by grind
      exact agO
     ·have p4:o.kind=4:=by grind
      simp -implicitDefEqProofs only[go_sem,aj,n32.symm];refine(Fu _ _ _).pthen ?_;cases dfo:mz (bw s.cases o.case).state o.to
      ·exact agO
      ·exact agO
    ·have p256:256≤(bw s.cases o.case).log.length:=by grind
     simp -implicitDefEqProofs only[go_sem,acd,k2n,d256];exact .mk _ (.refl _) (hs3 _ _ _) ⟨ad4,rfl⟩
   ·have p2:o.kind=2:=by grind
    have k2n:(o.kind !=2)=false:=acp;simp -implicitDefEqProofs only[go_sem,aj,n32.symm,k3,k2n];cases k4:(o.kind==4)
    ·have p4:o.kind≠4:=by omega
     exact agO
    ·have p4:o.kind=4:=by grind
     omega
  ·have p3:o.kind=3:=by grind
   cases d16:decide ((16:Int)≤((bw s.cases o.case).fields.length:Int))
   ·have p16:¬16≤(bw s.cases o.case).fields.length:=by grind
    simp -implicitDefEqProofs only[go_sem,acd,d16];exact agD
   ·have p16:16≤(bw s.cases o.case).fields.length:=by grind
    simp -implicitDefEqProofs only[go_sem,aj,n32.symm,acd,d16];refine(C7 (show RdC _ (.agg [.s (bw s.cases o.case).id,.s (bw s.cases o.case).owner,.s (bw s.cases o.case).state,AV.sl ((bw s.cases o.case).fields.map bz) .no,AV.sl ((bw s.cases o.case).log.map fU) .no]) (bw s.cases o.case)from rdC _ _) o.field hfl).pthen ?_
    simp -implicitDefEqProofs only[go_sem,aU];cases dv:((eC (bw s.cases o.case).fields o.field).kind==(0:Int) && ((eC (bw s.cases o.case).fields o.field).n==(0:Int) && (eC (bw s.cases o.case).fields o.field).s==([]:Txt)))
    ·have pv:eqV (eC (bw s.cases o.case).fields o.field) ax=false:=dv
     simp -implicitDefEqProofs only[go_sem];exact agD
    ·have pv:eqV (eC (bw s.cases o.case).fields o.field) ax=true:=dv
     exact agO
theorem zW{h:Heap}{x:AV}{s:an}(hb:RdS h x s)(o:OpD)(hf:Few s)(h0:0<o.review)(hr:o.review≤9223372036854775807):ai Tryz.prog 121 [x,opA o] h fun r h' =>r= .i (fM s o)∧h' =h:=by
 obtain⟨y1,y2,y3,y4,rfl,⟨xs,hc,hn,hcs⟩,h2,h3,h4⟩:=hb;cases hpp:s.policy with
 |mk pid pset palg ptgt prules pkids pobls=>
 have hcC:fV (.mk pid pset palg ptgt prules pkids pobls)= [.s pid,.b pset,.i palg,aS ptgt,.sl (prules.map aA) .no,.sl (pkids.map aK) .no,ay pobls]:=afq;have hfr:=hf.reviews;refine acn Tryz.func121 35 [.tmp 4] fun hwf=>?_
 simp -implicitDefEqProofs only[go_sem,hcC,opA,opC,List.cons_append,List.nil_append];intro i1 h1;simp -implicitDefEqProofs only[go_sem];intro i2 h2';have n21:=aH h2';have n2:=aC h2';have hs:∀a b,Ab.Sub h (upd (upd h i1 a) i2 b):=fun a b=>((Sub.refl h).put h1 a).put n2 b
 simp -implicitDefEqProofs only[go_sem,aj,n21.symm,h2.len,acd];obtain⟨n,en⟩:∃n:Nat,o.review=((n:Nat):Int)+1:=⟨(o.review - 1).toNat,aco⟩;have e1:wA s.reviews o.review=s.reviews[n]? :=by
  unfold wA;rw[if_pos aco,show(o.review - 1).toNat=n by omega]
 have w1:IntKind.i64.wrap (o.review - 1)=((n:Nat):Int):=acE;cases dlt:decide ((s.reviews.length:Int)<o.review)
 ·have hlt:n<s.reviews.length:=by grind
  have hgl:wA s.reviews o.review=some s.reviews[n]:=acp;simp -implicitDefEqProofs only[go_sem,aj,n21.symm,w1];refine h2.idx (e:=143) n rfl acp acF acr fun p hp1=>?_
  simp -implicitDefEqProofs only[go_sem];refine hp1.field (f:=6) (off:=6) (t:=4) rfl acr fun p2 hp2=>?_
  have hld:=fun a b=>(hp2.sub (hs a b)).part (U:=U) (ty:=4) acr (by rw[ace,show(U 4).sz=1 by rfl];exact ab9 rfl)
  simp -implicitDefEqProofs only[go_sem,hld,ace,fY];cases dop:s.reviews[n].isOpen
  ·exact ag3
  ·simp -implicitDefEqProofs only[go_sem,aj,n21.symm]
   refine⟨.of acs,?_⟩;simp -implicitDefEqProofs only[go_sem,w1];refine h2.idx (e:=143) n rfl acp acF acr fun p hp1=>?_
   simp -implicitDefEqProofs only[go_sem];refine hp1.field (f:=2) (off:=2) (t:=9) rfl JS fun p2 hp2=>?_
   have hld:=fun a b=>(hp2.sub (hs a b)).part (U:=U) (ty:=9) JS (by rw[ace,MC];exact ab9 rfl)
   simp -implicitDefEqProofs only[go_sem,hld,ace,fY];cases dsu:(s.reviews[n].subj==o.subj)
   ·have psu:s.reviews[n].subj≠o.subj:=by grind
    exact ag3
   ·have psu:s.reviews[n].subj=o.subj:=by grind
    exact ag3
 ·have hge:¬n<s.reviews.length:=by grind
  have hgn:wA s.reviews o.review=none:=acp;exact ag3
theorem Ec{h:Heap}{x:AV}{s:an}(hb:RdS h x s)(o:OpD)(hf:Few s)(hr:i64 o.review)(ht:i64 s.tick):ai Tryz.prog 68 [x,opA o] h fun r h' =>r= .i (bO s o)∧h' =h:=by
 have hb0:=hb;have hfo:=GS o;have hrc:=fun(G:Heap) (hG:Ab.Sub h G)=>Cf (hb.sub hG) o hf
 have hrl:=fun(G:Heap) (hG:Ab.Sub h G) (a:0<o.review)=>zW (hb.sub hG) o hf a hr.2
 have hfi:=fun(G:Heap) (hG:Ab.Sub h G)=>BT (hb.sub hG) o.case hf.cases
 have hha:=fun(G:Heap) (hG:Ab.Sub h G)=>FB (hb.sub hG) o.case o.field (Nat.le_trans hf.roles acr)
 obtain⟨y1,y2,y3,y4,rfl,⟨xs,hc,hn,hcs⟩,h2,h3,h4⟩:=hb;cases hpp:s.policy with
 |mk pid pset palg ptgt prules pkids pobls=>
 have hcC:fV (.mk pid pset palg ptgt prules pkids pobls)= [.s pid,.b pset,.i palg,aS ptgt,.sl (prules.map aA) .no,.sl (pkids.map aK) .no,ay pobls]:=afq;rw[hpp,hcC]at hb0 hrc hrl hfi hha;simp only[opA,opC,List.cons_append,List.nil_append]at hfo hrc hrl hfi hha;refine acn Tryz.func68 63 [.tmp 4] fun hwf=>?_
 simp -implicitDefEqProofs only[go_sem,hcC,opA,opC,List.cons_append,List.nil_append];intro i1 h1;simp -implicitDefEqProofs only[go_sem];intro i2 h2';have n21:=aH h2';have n2:=aC h2';have hs:∀a b,Ab.Sub h (upd (upd h i1 a) i2 b):=fun a b=>((Sub.refl h).put h1 a).put n2 b
 simp -implicitDefEqProofs only[go_sem];refine(hfo _).pthen ?_;cases dform:eU o
 ·exact agG
 ·simp -implicitDefEqProofs only[go_sem]
  have hok:okD o=true:=by simp_all [eU,dK,Bool.and_eq_true]
  by_cases p1:o.kind=1
  ·have k1:(o.kind==1)=true:=by grind
   simp -implicitDefEqProofs only[go_sem,aj,n21.symm,k1];refine(hfi _ (hs _ _)).pthen ?_;cases dth:bZ s.cases o.case
   ·simp -implicitDefEqProofs only[go_sem,aj,n21.symm,hc.len,hn]
    cases d64:decide ((64:Int)≤(s.cases.length:Int))
    ·have p64:¬64≤s.cases.length:=by grind
     exact agG
    ·have p64:64≤s.cases.length:=by grind
     exact agG
   ·exact agG
  have k1:(o.kind==1)=false:=acp;simp -implicitDefEqProofs only[go_sem,k1]
  by_cases p2:o.kind=2
  ·have k2:(o.kind==2)=true:=by grind
   simp -implicitDefEqProofs only[go_sem,aj,n21.symm,k2];refine(hrc _ (hs _ _)).pthen ?_;exact agG
  have k2:(o.kind==2)=false:=acp;simp -implicitDefEqProofs only[go_sem,k2]
  by_cases p3:o.kind=3
  ·have k3:(o.kind==3)=true:=by grind
   simp -implicitDefEqProofs only[go_sem,aj,n21.symm,k3];refine(hrc _ (hs _ _)).pthen ?_;exact agG
  have k3:(o.kind==3)=false:=acp;simp -implicitDefEqProofs only[go_sem,k3]
  by_cases p4:o.kind=4
  ·have k4:(o.kind==4)=true:=by grind
   simp -implicitDefEqProofs only[go_sem,aj,n21.symm,k4];refine(hrc _ (hs _ _)).pthen ?_;exact agG
  have k4:(o.kind==4)=false:=acp;simp -implicitDefEqProofs only[go_sem,k4]
  by_cases p5:o.kind=5
  ·have k5:(o.kind==5)=true:=by grind
   simp -implicitDefEqProofs only[go_sem,aj,n21.symm,k5];have hrv:0<o.review:=by grind [okD]
   refine(hrl _ (hs _ _) hrv).pthen ?_;exact agG
  have k5:(o.kind==5)=false:=acp;simp -implicitDefEqProofs only[go_sem,k5]
  by_cases p6:o.kind=6
  ·have k6:(o.kind==6)=true:=by grind
   simp -implicitDefEqProofs only[go_sem,aj,n21.symm,k6];simp -implicitDefEqProofs only[go_sem,h4.len,acd];cases d64:decide ((64:Int)≤(s.roles.length:Int))
   ·have p64:¬64≤s.roles.length:=by grind
    exact agG
   ·have p64:64≤s.roles.length:=by grind
    simp -implicitDefEqProofs only[go_sem,aj,n21.symm];refine(hha _ (hs _ _)).pthen ?_;cases dha:yh s.roles ⟨o.case,o.field⟩
    ·exact agG
    ·exact agG
  have k6:(o.kind==6)=false:=acp;simp -implicitDefEqProofs only[go_sem,k6]
  by_cases p8:o.kind=8
  ·have k8:(o.kind==8)=true:=by grind
   simp -implicitDefEqProofs only[go_sem,aj,n21.symm,k8];have hrv:0<o.review∧o.review≤1099511627776:=by grind [okD]
   have w1:IntKind.i64.wrap (1099511627776 - o.review)=1099511627776 - o.review:=aY _ aco;cases dt:decide (1099511627776 - o.review<s.tick)
   ·have pt:¬1099511627776 - o.review<s.tick:=acg dt
    exact aic
   ·have pt:1099511627776 - o.review<s.tick:=acf dt
    exact aic
  have k8:(o.kind==8)=false:=acp;simp -implicitDefEqProofs only[go_sem,k8];exact .mk _ (.refl _) (hs _ _) ⟨by have:¬(2≤o.kind∧o.kind≤4):=aco;simp only[bO,dform,p1,p5,p6,p8,this,if_false,Bool.true_eq_false,au],rfl⟩
end Go.Proofs.YtcochaoekecfdaaGreatDoor
