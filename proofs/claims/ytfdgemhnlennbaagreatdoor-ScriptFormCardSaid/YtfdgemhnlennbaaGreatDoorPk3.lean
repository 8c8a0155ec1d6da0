/- The law ScriptForm: pack 3 of its texts. -/
import Derived.OpenShut
import Derived.Test.YtfdgemhnlennbaaGreatDoorProg
import Derived.KernelRfl
import Derived.Shelf.Strings.OnBuilder
import Derived.Shelf.Small.Wraps
import Derived.Shelf.Strconv.Itoa3
import Derived.Below
import Derived.Lib.ItoaLen
import Derived.Lib.Join
import Derived.Lib.Small
import Derived.Shelf.Strings.BuilderK
import Derived.Test.YtfdgemhnlennbaaGreatDoorChecked
import Derived.WalkKit
import Derived.BigCall
import Derived.StillTailTactics
import Derived.Laws.Externs
import Derived.Lib.Overlaps
import Derived.Test.YtfdgemhnlennbaaGreatDoorPk1
import Derived.Test.YtfdgemhnlennbaaGreatDoorPk2
set_option linter.unusedSimpArgs false
set_option linter.unusedVariables false
set_option maxRecDepth 100000
namespace Go.Ab
open Go
section
variable {P : Program} {U : TypeId → TI}
inductive Dat (U:TypeId→TI):TypeId→AV→Prop
 |bool {t:TypeId} (b:Bool) (h:(U t).k= .bool):Dat U t (.b b)
 |int {t:TypeId} {k:IntKind} (n:Int) (h:(U t).k= .int k) (hw:(Lit.int k n).wf=true):Dat U t (.v (.int k n))
 |str {t:TypeId} (l:List UInt8) (h:(U t).k= .str) (hl:l.length≤maxLen):Dat U t (.s l)
 |slice {t e:TypeId} (xs:List AV) (h:(U t).k= .slice e) (hx:∀x∈xs,Dat U e x) (hl:xs.length≤maxLen):Dat U t (.sl xs .no)
 |strct {t:TypeId} {fs:List (Nat×TypeId)} (ys:List AV) (h:(U t).k= .strct fs) (hn:ys.length=fs.length) (hx:∀i (h1:i<fs.length) (h2:i<ys.length),Dat U fs[i].2 ys[i]):Dat U t (.agg (ys.map AV.cells).flatten)
theorem Dat.Po{t:TypeId}{x:AV}(h:Dat U t x)(hk:(U t).k= .str):∃l,x= .s l∧l.length≤maxLen:=by
 cases h with
 |str l h hl=>grind
 |_=>simp_all
def KF(U:TypeId→TI):List TypeId→List AV→Prop
 | [],ys=>ys= []
 |t::ts,ys=>∃y r,ys=y::r∧Dat U t y∧KF U ts r
theorem IX:∀(fs:List (Nat×TypeId)) (ys:List AV),ys.length=fs.length→(∀i (h1:i<fs.length) (h2:i<ys.length),Dat U fs[i].2 ys[i])→KF U (fs.map (·.2)) ys
 | [],ys,h,_=>List.length_eq_zero_iff.1 h
 |f::fs,[],h,_=>adU
 |f::fs,y::ys,h,hx=>⟨y,ys,rfl,hx 0 ac7 ac7,IX fs ys ac1 fun i h1 h2=>hx (i+1) ac1 ac1⟩
def RL(c:Cx):List AV→List Value→Prop
 | [],vs=>vs= []
 |x::xs,[]=>False
 |x::xs,v::vs=>(Rep c x v∧v.oneCell' =true)∧RL c xs vs
theorem RL.len{c:Cx}:∀ {xs:List AV} {vs:List Value},RL c xs vs→xs.length=vs.length
 | [],vs,h=>by rw[h];rfl
 |x::xs,[],h=>h.elim
 |x::xs,v::vs,h=>by simp[RL.len h.2]
theorem RL.get{c:Cx}:∀ {xs:List AV} {vs:List Value},RL c xs vs→∀i (h:i<xs.length),Rep c xs[i] (vs.getD i undef)∧(vs.getD i undef).oneCell' =true
 | [],vs,h,i,hi=>ac1
 |x::xs,[],h,i,hi=>h.elim
 |x::xs,v::vs,h,0,hi=>h.1
 |x::xs,v::vs,h,i+1,hi=>by simpa using RL.get h.2 i ac1
theorem RL.append{c:Cx}:∀ {xs ys:List AV} {vs us:List Value},RL c xs vs→RL c ys us→RL c (xs++ys) (vs++us)
 | [],ys,vs,us,h,k=>by rw[h];exact k
 |x::xs,ys,[],us,h,k=>h.elim
 |x::xs,ys,v::vs,us,h,k=>⟨h.1,RL.append h.2 k⟩
theorem RL.one{c:Cx}{x:AV}{v:Value}(h:Rep c x v)(h1:v.oneCell' =true):RL c [x] [v]:=⟨⟨h,h1⟩,rfl⟩
def ES(U:TypeId→TI)(n:Nat):List (Nat×TypeId)→Nat→Bool
 | [],o=>o==n
 |f::fs,o=>f.1==o && ES U n fs (o+(U f.2).sz)
def Gq(U:TypeId→TI)(L:List TypeId):Bool:=L.all fun t=>(U t).sz !=0 && match (U t).k with
 |.bool|.int _|.str=>(U t).sz==1
 |.slice e=>(U t).sz==1 && L.contains e
 |.strct fs=>fs.all (fun f=>L.contains f.2) && ES U (U t).sz fs 0
 |_=>false
theorem su(hU:∀t,aO P U t){t:TypeId}(hz:(U t).sz≠0):P.cellsOf t=(U t).sz:=by
 obtain⟨i,h1,h2,_⟩:=(hU t).info hz
 grind [Program.cellsOf]
variable {H : Type} {enc : TypeId × Value → H} {w : World}
theorem Mx(hU:∀t,aO P U t){L:List TypeId}{m:Nat}{sp:Nat→Bool}{held:Bool}(n:Nat)(cs:List Value)(hn:cs.length=n)
  (ih:∀(t:TypeId) (cs:List Value) r,t∈L→DataW.trod enc P w 0 sp held m t cs=some r→∃x,Dat U t x∧RL (cx0 w) x.cells cs) (hz:∀t∈L,(U t).sz≠0):
  ∀(fs:List (Nat×TypeId)) (gs:List Field) (o:Nat),gs.map (fun f=>(f.offset,f.type))=fs→(∀f∈fs,f.2∈L)→ES U n fs o=true→
   (∀f∈gs,∃r,DataW.trod enc P w 0 sp held m f.type ((cs.drop f.offset).take (P.cellsOf f.type))=some r)→
   ∃ys:List AV,ys.length=fs.length∧(∀i (h1:i<fs.length) (h2:i<ys.length),Dat U fs[i].2 ys[i])∧RL (cx0 w) (ys.map AV.cells).flatten (cs.drop o):=by
 intro fs
 induction fs with
 |nil=>
  intro gs o hg hL ht hr;refine⟨[],rfl,fun i h1=>ac7,?_⟩
  have:o=n:=by grind [ES]
  show cs.drop o= []
  grind
 |cons f fs ihf=>
  intro gs o hg hL ht hr;cases gs with
  |nil=>grind
  |cons g gs=>
   simp only[List.map_cons,List.cons.injEq]at hg;obtain⟨hg1,hg2⟩:=hg;simp only[ES,Bool.and_eq_true,beq_iff_eq]at ht;obtain⟨ht1,ht2⟩:=ht;have hfL:=hL f ac7;obtain⟨ys,y1,y2,y3⟩:=ihf gs (o+(U f.2).sz) hg2 ac1 ht2 ac1;obtain⟨r,hr0⟩:=hr g ac7;have e1:g.type=f.2:=ac1;have e2:g.offset=o:=ac1;rw[e1,e2,su hU (hz _ hfL)]at hr0;obtain⟨x,x1,x2⟩:=ih _ _ _ hfL hr0;refine⟨x::ys,ac1,fun i h1 h2=>?_,?_⟩
   ·grind
   ·have:cs.drop o=(cs.drop o).take (U f.2).sz++cs.drop (o+(U f.2).sz):=by
     rw[←List.drop_drop,List.take_append_drop]
    rw[this];exact x2.append y3
theorem C8(hU:∀t,aO P U t)(L:List TypeId)(hL:Gq U L=true){sp:Nat→Bool}{held:Bool}(hsp:∀b,sp b=true):
  ∀(fuel:Nat) (t:TypeId) (cs:List Value) (r:DataW H×List MemPlace),t∈L→DataW.trod enc P w 0 sp held fuel t cs=some r→∃x,Dat U t x∧RL (cx0 w) x.cells cs:=by
 have hall:∀t∈L,(U t).sz≠0:=fun t ht=>by
  have:=List.all_eq_true.1 hL t ht;simp only[Bool.and_eq_true,bne_iff_ne]at this;exact this.1
 intro fuel
 induction fuel with
 |zero=>intro t cs r _ h;simp[DataW.trod]at h
 |succ m ih=>
  intro t cs r ht h;have hp:=List.all_eq_true.1 hL t ht;simp only[Bool.and_eq_true,bne_iff_ne]at hp;obtain⟨hz,hp⟩:=hp;have hd:=(hU t).desc;unfold DataW.trod at h;cases hk:(U t).k with
  |bool=>
   rw[hk]at hd;simp only at hd;rw[hd]at h;split at h<;>simp_all
   rename_i b
   exact⟨_,.bool b hk,.one (.v _) rfl⟩
  |int k=>
   rw[hk]at hd;simp only at hd;rw[hd]at h;split at h<;>simp_all
   obtain⟨⟨rfl,hw⟩,_⟩:=h;exact⟨_,.int _ hk hw,.one (.v _) rfl⟩
  |str=>
   rw[hk]at hd;simp only at hd;rw[hd]at h;split at h<;>simp_all
   rename_i s
   refine⟨_,.str s.data.toList hk (by simpa using h.1),.one ?_ rfl⟩
   have:=Rep.s (c:=cx0 w) s.data.toList (by have:=h.1;unfold maxLen at this;simp only[lim];simp;omega)
   simpa using this
  |slice e=>
   rw[hk]at hd hp;simp only at hd;simp only[Bool.and_eq_true]at hp;have he:e∈L:=by simpa using hp.2
   have hez:=hall e he;rw[hd]at h;split at h<;>try (simp_all;done)
   ·rename_i e' heq
    refine⟨_,.slice [] hk (fun x hx=>by cases hx) ac7,.one ?_ rfl⟩
    exact .sl [] .no none 0 0 (fun _ _=>undef) (Nat.le_refl _) ac4 (fun _=>rfl) (fun q h _=>adU) (fun i h=>adU) (fun q h=>adU) (fun i h=>adU) (fun i j h=>adU) trivial
   ·rename_i e' a len cap heq
    obtain rfl:e=e' :=by simpa using heq
    split at h
    ·rename_i hc
     obtain⟨hc1,hc2,hc3⟩:=hc;simp only[hsp,if_true]at h;obtain⟨els,hels,h⟩:=Option.bind_eq_some_iff.1 h;obtain⟨⟨rst,hrst,_⟩⟩:Nonempty {rst // (List.range (cap - len)).mapM (fun j=>((w.cells? 0 (a.add ((len+j)*P.cellsOf e)) (P.cellsOf e)).bind (DataW.trod enc P w 0 sp held m e)))=some rst∧True}:=by
      cases hq:(List.range (cap - len)).mapM (fun j=>((w.cells? 0 (a.add ((len+j)*P.cellsOf e)) (P.cellsOf e)).bind (DataW.trod enc P w 0 sp held m e)))with
      |none=>rw[hq]at h;simp at h
      |some rst=>exact⟨⟨rst,rfl,trivial⟩⟩
     rw[su hU hez]at hels hrst;have cell:∀j,j<(U e).sz→∀(b:Addr) vs,w.cells? 0 b (U e).sz=some vs→w.cell? (b.add j)=vs[j]?∧vs.length=(U e).sz:=fun j hj b vs hb=>by
      simp only[World.cells?,Nat.zero_le,if_true]at hb;have:=mapM_some_get hb j j (by simp[hj])
      exact⟨this,by simpa using mapM_some_length hb⟩
     have el:∀i,i<len→∃vs x,w.cells? 0 (a.add (i*(U e).sz)) (U e).sz=some vs∧Dat U e x∧RL (cx0 w) x.cells vs:=fun i hi=>by
      have:=mapM_some_get hels i i (by simp[hi])
      have hi2:i<els.length:=by have:=mapM_some_length hels;simp at this;omega
      rw[List.getElem?_eq_getElem hi2]at this;obtain⟨vs,v1,v2⟩:=Option.bind_eq_some_iff.1 this;obtain⟨x,x1,x2⟩:=ih _ _ _ he v2;exact⟨vs,x,v1,x1,x2⟩
     have hspot:0<cap→a.spot=none∧a.block<w.heap.size:=fun hcap=>by
      have:∃b vs,w.cells? 0 b (U e).sz=some vs∧b.spot=a.spot∧b.block=a.block:=by
       by_cases hl:0<len
       ·obtain⟨vs,x,v1,_⟩:=el 0 hl
        have a0:a.add (0*(U e).sz)=a:=by simp[Addr.add]
        exact⟨_,vs,v1,by rw[a0],by rw[a0]⟩
       ·have:=mapM_some_get hrst 0 0 (by rw[List.getElem?_eq_getElem adH];simp)
        have hi2:0<rst.length:=by have:=mapM_some_length hrst;simp at this;omega
        rw[List.getElem?_eq_getElem hi2]at this;obtain⟨vs,v1,v2⟩:=Option.bind_eq_some_iff.1 this;have a0:a.add ((len+0)*(U e).sz)=a:=by
         obtain rfl:len=0:=ac0;simp[Addr.add]
        exact⟨_,vs,v1,by rw[a0],by rw[a0]⟩
      obtain⟨b,vs,b1,b2,b3⟩:=this;obtain⟨c1,c2⟩:=cell 0 ac0 b vs b1;rw[List.getElem?_eq_getElem ac0]at c1;rw[←b2,←b3];unfold World.cell? at c1;split at c1
      ·rename_i hh
       split at c1
       ·cases c1
       ·rename_i hs
        refine⟨?_,?_⟩
        ·have:(b.add 0).spot=b.spot:=by simp[Addr.add]
         rw[this]at hs;cases hb:b.spot with
         |none=>rfl
         |some z=>rw[hb]at hs;simp at hs
        ·exact(Array.getElem?_eq_some_iff.1 hh).1
      ·cases c1
     have:∀n,n≤len→∃xs:List AV,xs.length=n∧∀i (hi:i<xs.length),Dat U e xs[i]∧∃vs,w.cells? 0 (a.add (i*(U e).sz)) (U e).sz=some vs∧RL (cx0 w) xs[i].cells vs:=by
      intro n
      induction n with
      |zero=>exact fun _=>⟨[],rfl,fun i hi=>by cases hi⟩
      |succ n ihn=>
       intro hn;obtain⟨xs,e1,e2⟩:=ihn ac0;obtain⟨vs,x,v1,v2,v3⟩:=el n ac0;refine⟨xs++ [x],by simp[e1],fun i hi=>?_⟩
       by_cases hi' :i<xs.length
       ·rw[List.getElem_append_left hi']
        exact e2 i hi'
       ·have:i=n:=by simp at hi;omega
        subst this;rw[List.getElem_append_right ac0];simp only[e1,Nat.sub_self,List.getElem_singleton];exact⟨v2,vs,v1,v3⟩
     obtain⟨xs,e1,e2⟩:=this len (Nat.le_refl _);subst e1;refine⟨.sl xs .no,.slice xs hk (fun x hx=>?_) ac0,.one ?_ rfl⟩
     ·obtain⟨i,hi,rfl⟩:=List.mem_iff_getElem.1 hx
      exact(e2 i hi).1
     ·refine .sl xs .no (some a) cap (U e).sz (fun i j=>((w.cells? 0 (a.add (i*(U e).sz)) (U e).sz).getD []).getD j undef) hc2 (by unfold maxLen at hc3;simp only[lim];omega) (fun hh=>aeq) (fun q hq hcap=>by cases hq;exact hspot hcap)
       (fun i hi=>?_) (fun q hq i j hi hj=>?_) (fun i hi j hj=>?_) (fun i j hi hj=>?_) trivial
      ·obtain⟨_,vs,v1,v2⟩:=e2 i hi
       rw[v2.len];exact(cell 0 ac0 _ _ v1).2
      ·cases hq
       obtain⟨_,vs,v1,v2⟩:=e2 i hi;refine⟨?_,Mv w _ _⟩;obtain⟨c1,c2⟩:=cell j hj _ _ v1;rw[v1];obtain⟨hs1,_⟩:=hspot ac0;obtain⟨ab,ao,az⟩:=a;simp only at hs1;subst hs1
       rw[cC,cC]at c1;simp only[Option.getD_some];have hj2:j<vs.length:=ac0;rw[show vs.getD j undef=vs[j] by simp[hj2]]
       rw[List.getElem?_eq_getElem hj2,Nat.add_assoc]at c1;exact c1
      ·obtain⟨_,vs,v1,v2⟩:=e2 i hi
       rw[v1];exact(v2.get j hj).1
      ·obtain⟨_,vs,v1,v2⟩:=e2 i hi
       rw[v1];have:=(cell 0 ac0 _ _ v1).2;exact(v2.get j (by rw[v2.len];omega)).2
    ·cases h
  |strct fs=>
   rw[hk]at hd hp;simp only at hd;simp only[Bool.and_eq_true]at hp;obtain⟨gs,hd,hg,_⟩:=hd;rw[hd]at h;have hq:cs.length=P.cellsOf t∧∃xs,(gs.toList.mapM fun f=>DataW.trod enc P w 0 sp held m f.type ((cs.drop f.offset).take (P.cellsOf f.type)))=some xs:=by
    split at h<;>try (simp_all;done)
    rename_i fs' heq
    obtain rfl:gs=fs' :=by simpa using heq
    split at h
    ·rename_i hl
     obtain⟨xs,h1,_⟩:=Option.map_eq_some_iff.1 h;exact⟨hl,xs,h1⟩
    ·cases h
   obtain⟨hl,xs,hxs⟩:=hq;rw[su hU hz]at hl;obtain⟨ys,y1,y2,y3⟩:=Mx hU (U t).sz cs hl ih hall fs gs.toList 0 hg (fun f hf=>by have:=List.all_eq_true.1 hp.1 f hf;simpa using this) hp.2 (fun f hf=>by
    obtain⟨i,hi,rfl⟩:=List.mem_iff_getElem.1 hf;have hi2:i<xs.length:=by have:=mapM_some_length hxs;omega
    have:=mapM_some_get hxs i _ (List.getElem?_eq_getElem hi);rw[List.getElem?_eq_getElem hi2]at this;exact⟨_,this⟩)
   exact⟨_,.strct ys hk y1 y2,y3⟩
  |_=>rw[hk]at hp;simp at hp
theorem Fz(hU:∀t,aO P U t)(L:List TypeId)(hL:Gq U L=true){sp:Nat→Bool}{held:Bool}(hsp:∀b,sp b=true){t:TypeId}{v:Value}{d:DataW H}{p:List MemPlace}(ht:t∈L){base:Nat}{rc:Reach}
  (hv:Value.okWide P w rc base t v) (h:DataW.Trod enc P w 0 sp held t v d p):∃x,Dat U t x∧Rep (cx0 w) x v:=by
 obtain⟨fuel,h⟩:=h;obtain⟨x,x1,x2⟩:=C8 hU L hL hsp fuel t _ _ ht h;refine⟨x,x1,?_⟩;have hd:=(hU t).desc;cases x1 with
 |strct ys hk hn hx=>
  rw[hk]at hd;obtain⟨gs,hd,_⟩:=hd;unfold Value.okWide at hv;rw[hd]at hv;obtain⟨cs,rfl,_⟩:=hv;have hl:=x2.len;simp only[AV.cells,Value.cells]at hl x2;refine .agg _ _ ac1 (fun i hi=>?_) (fun i hi=>?_)
  ·have:=(x2.get i hi).1
   simpa using this
  ·have:=(x2.get i hi).2
   simpa using this
 |bool b hk=>
  exact ahD
 |int n hk hw=>
  exact ahD
 |str l hk hl=>
  exact ahD
 |slice xs hk hx hl=>
  exact ahD
end
end Go.Ab
namespace Go.Proofs.YtfdgemhnlennbaaGreatDoor
open Go Go.Ab
def tyN:TI:=⟨.other,0,0,default,none⟩
abbrev acY:TI:=⟨.other,1,8,.v .nilFunc,none⟩
def Nj:List TI:=[
 tyN,
 acY,
 ⟨.int .i64,1,8,.i 0,some (0,[.int .i64])⟩,
 ⟨.int .i64,1,8,.i 0,some (0,[.int .i64])⟩,
 ⟨.bool,1,1,.b false,some (0,[.bool])⟩,
 ⟨.int .u8,1,1,.v (.int .u8 0),some (0,[.int .u8])⟩,
 ⟨.int .u8,1,1,.v (.int .u8 0),some (0,[.int .u8])⟩,
 ⟨.strct [(0,2),(1,3),(2,4),(3,6)],4,24,.agg [.i 0,.i 0,.b false,.v (.int .u8 0)],none⟩,
 ⟨.strct [(0,2),(1,3),(2,4),(3,6)],4,24,.agg [.i 0,.i 0,.b false,.v (.int .u8 0)],none⟩,
 ⟨.str,1,16,.s [],some (0,[.str])⟩,
 tyN,
 ⟨.str,1,16,.s [],some (0,[.str])⟩,
 tyN,
 tyN,
 tyN,
 tyN,
 tyN,
 tyN,
 tyN,
 tyN,
 tyN,
 tyN,
 ⟨.slice 9,1,24,.sl [] .full,none⟩,
 ⟨.ptr 87,1,8,.v (.pointer none),none⟩,
 ⟨.int .i64,1,8,.i 0,some (0,[.int .i64])⟩,
 tyN,
 tyN,
 ⟨.ptr 92,1,8,.v (.pointer none),none⟩,
 tyN,
 tyN,
 ⟨.cplx .f64,1,16,.v (.complex .f64 0 0),some (0,[.cplx .f64])⟩,
 ⟨.cplx .f64,1,16,.v (.complex .f64 0 0),some (0,[.cplx .f64])⟩,
 ⟨.strct [(0,3),(1,3),(2,9)],3,32,.agg [.i 0,.i 0,.s []],some (1,[.int .i64,.int .i64,.str])⟩,
 ⟨.strct [(0,3),(1,3),(2,9)],3,32,.agg [.i 0,.i 0,.s []],some (1,[.int .i64,.int .i64,.str])⟩,
 tyN,
 ⟨.strct [(0,24),(1,31),(2,4),(3,33),(6,4),(7,3)],8,80,.agg [.i 0,.v (.complex .f64 0 0),.b false,.i 0,.i 0,.s [],.b false,.i 0],some (2,[.int .i64,.cplx .f64,.bool,.int .i64,.int .i64,.str,.bool,.int .i64])⟩,
 tyN,
 ⟨.slice 5,1,24,.sl [] .full,none⟩,
 tyN,
 ⟨.strct [(0,3),(1,9),(2,9),(3,9),(4,9),(5,33),(8,3),(9,9),(10,9),(11,4)],12,152,.agg [.i 0,.s [],.s [],.s [],.s [],.i 0,.i 0,.s [],.i 0,.s [],.s [],.b false],some (2,[.int .i64,.str,.str,.str,.str,.int .i64,.int .i64,.str,.int .i64,.str,.str,.bool])⟩,
 ⟨.slice 37,1,24,.sl [] .full,none⟩,
 acY,
 tyN,
 tyN,
 ⟨.slice 48,1,24,.sl [] .full,none⟩,
 acY,
 acY,
 tyN,
 ⟨.int .u64,1,8,.v (.int .u64 0),some (0,[.int .u64])⟩,
 acY,
 ⟨.slice 39,1,24,.sl [] .full,none⟩,
 ⟨.slice 122,1,24,.sl [] .full,none⟩,
 ⟨.slice 135,1,24,.sl [] .full,none⟩,
 ⟨.slice 138,1,24,.sl [] .full,none⟩,
 ⟨.slice 141,1,24,.sl [] .full,none⟩,
 ⟨.slice 262,1,24,.sl [] .full,none⟩,
 ⟨.slice 262,1,24,.sl [] .full,none⟩,
 ⟨.slice 210,1,24,.sl [] .full,none⟩,
 ⟨.slice 61,1,24,.sl [] .full,none⟩,
 ⟨.slice 131,1,24,.sl [] .full,none⟩,
 ⟨.strct [(0,9),(1,4),(2,3),(3,56),(4,57),(5,58),(6,59)],7,128,.agg [.s [],.b false,.i 0,.sl [] .full,.sl [] .full,.sl [] .full,.sl [] .full],none⟩,
 ⟨.strct [(0,9),(1,4),(2,3),(3,56),(4,57),(5,58),(6,59)],7,128,.agg [.s [],.b false,.i 0,.sl [] .full,.sl [] .full,.sl [] .full,.sl [] .full],none⟩,
 ⟨.strct [(0,3),(1,51),(2,52),(3,53),(4,54),(5,61),(12,3)],13,240,.agg [.i 0,.sl [] .full,.sl [] .full,.sl [] .full,.sl [] .full,.s [],.b false,.i 0,.sl [] .full,.sl [] .full,.sl [] .full,.sl [] .full,.i 0],none⟩,
 ⟨.strct [(0,3),(1,51),(2,52),(3,53),(4,54),(5,61),(12,3)],13,240,.agg [.i 0,.sl [] .full,.sl [] .full,.sl [] .full,.sl [] .full,.s [],.b false,.i 0,.sl [] .full,.sl [] .full,.sl [] .full,.sl [] .full,.i 0],none⟩,
 tyN,
 acY,
 tyN,
 tyN,
 ⟨.strct [(0,39),(12,3),(13,31),(14,4),(15,59)],16,208,.agg [.i 0,.s [],.s [],.s [],.s [],.i 0,.i 0,.s [],.i 0,.s [],.s [],.b false,.i 0,.v (.complex .f64 0 0),.b false,.sl [] .full],none⟩,
 tyN,
 tyN,
 tyN,
 ⟨.slice 68,1,24,.sl [] .full,none⟩,
 tyN,
 tyN,
 tyN,
 tyN,
 tyN,
 tyN,
 tyN,
 tyN,
 tyN,
 tyN,
 tyN,
 tyN,
 tyN,
 tyN,
 ⟨.strct [(0,3),(1,37),(2,3),(3,3),(4,4)],5,56,.agg [.i 0,.sl [] .full,.i 0,.i 0,.b false],none⟩,
 ⟨.ptr 160,1,8,.v (.pointer none),none⟩,
 tyN,
 tyN,
 tyN,
 ⟨.strct [(0,88),(1,63),(14,72),(15,48)],16,280,.agg [.v (.pointer none),.i 0,.sl [] .full,.sl [] .full,.sl [] .full,.sl [] .full,.s [],.b false,.i 0,.sl [] .full,.sl [] .full,.sl [] .full,.sl [] .full,.i 0,.sl [] .full,.v (.int .u64 0)],none⟩,
 tyN,
 tyN,
 acY,
 tyN,
 acY,
 acY,
 acY,
 acY,
 ⟨.int .u32,1,4,.v (.int .u32 0),some (0,[.int .u32])⟩,
 acY,
 tyN,
 acY,
 acY,
 ⟨.strct [(0,31),(1,59)],2,40,.agg [.v (.complex .f64 0 0),.sl [] .full],none⟩,
 ⟨.strct [(0,31),(1,59)],2,40,.agg [.v (.complex .f64 0 0),.sl [] .full],none⟩,
 acY,
 tyN,
 acY,
 ⟨.slice 182,1,24,.sl [] .full,none⟩,
 acY,
 acY,
 acY,
 acY,
 ⟨.ptr 63,1,8,.v (.pointer none),none⟩,
 acY,
 acY,
 ⟨.slice 201,1,24,.sl [] .full,none⟩,
 ⟨.slice 191,1,24,.sl [] .full,none⟩,
 ⟨.strct [(0,9),(1,9),(2,9),(3,119),(4,120)],5,96,.agg [.s [],.s [],.s [],.sl [] .full,.sl [] .full],none⟩,
 ⟨.strct [(0,9),(1,9),(2,9),(3,119),(4,120)],5,96,.agg [.s [],.s [],.s [],.sl [] .full,.sl [] .full],none⟩,
 tyN,
 tyN,
 acY,
 tyN,
 tyN,
 tyN,
 tyN,
 tyN,
 ⟨.strct [(0,3),(1,3),(2,9)],3,32,.agg [.i 0,.i 0,.s []],some (1,[.int .i64,.int .i64,.str])⟩,
 tyN,
 tyN,
 tyN,
 ⟨.strct [(0,3),(1,3),(2,9),(3,9),(4,9),(5,9),(6,4)],7,88,.agg [.i 0,.i 0,.s [],.s [],.s [],.s [],.b false],some (1,[.int .i64,.int .i64,.str,.str,.str,.str,.bool])⟩,
 tyN,
 tyN,
 ⟨.strct [(0,3),(1,9),(2,9)],3,40,.agg [.i 0,.s [],.s []],some (1,[.int .i64,.str,.str])⟩,
 tyN,
 tyN,
 ⟨.strct [(0,9),(1,9)],2,32,.agg [.s [],.s []],some (1,[.str,.str])⟩,
 tyN,
 tyN,
 tyN,
 tyN,
 tyN,
 tyN,
 tyN,
 tyN,
 tyN,
 tyN,
 tyN,
 tyN,
 tyN,
 tyN,
 tyN,
 tyN,
 tyN,
 tyN,
 ⟨.strct [(0,23),(1,40),(2,4)],3,40,.agg [.v (.pointer none),.sl [] .full,.b false],none⟩,
 ⟨.int .u64,1,8,.v (.int .u64 0),some (0,[.int .u64])⟩,
 tyN,
 tyN,
 ⟨.slice 172,1,24,.sl [] .full,none⟩,
 tyN,
 tyN,
 ⟨.ptr 169,1,8,.v (.pointer none),none⟩,
 tyN,
 ⟨.strct [(0,164),(1,3),(2,3),(3,24),(4,3)],5,56,.agg [.sl [] .full,.i 0,.i 0,.i 0,.i 0],none⟩,
 tyN,
 tyN,
 ⟨.strct [(0,3),(1,3),(2,3),(3,9)],4,40,.agg [.i 0,.i 0,.i 0,.s []],some (1,[.int .i64,.int .i64,.int .i64,.str])⟩,
 tyN,
 tyN,
 tyN,
 tyN,
 tyN,
 tyN,
 ⟨.slice 33,1,24,.sl [] .full,none⟩,
 tyN,
 tyN,
 ⟨.strct [(0,3),(1,9),(2,179)],3,48,.agg [.i 0,.s [],.sl [] .full],none⟩,
 tyN,
 tyN,
 tyN,
 tyN,
 tyN,
 tyN,
 tyN,
 tyN,
 ⟨.strct [(0,3),(1,9),(2,9)],3,40,.agg [.i 0,.s [],.s []],some (1,[.int .i64,.str,.str])⟩,
 tyN,
 ⟨.ptr 122,1,8,.v (.pointer none),none⟩,
 tyN,
 tyN,
 tyN,
 acY,
 tyN,
 tyN,
 tyN,
 ⟨.strct [(0,9),(1,33)],4,48,.agg [.s [],.i 0,.i 0,.s []],some (2,[.str,.int .i64,.int .i64,.str])⟩,
 acY,
 tyN,
 acY,
 tyN,
 tyN,
 tyN,
 ⟨.slice 215,1,24,.sl [] .full,none⟩,
 tyN,
 ⟨.strct [(0,9),(1,4),(2,56),(3,208),(4,59)],5,96,.agg [.s [],.b false,.sl [] .full,.sl [] .full,.sl [] .full],none⟩,
 tyN,
 tyN,
 ⟨.strct [(0,3),(1,9),(2,4)],3,32,.agg [.i 0,.s [],.b false],some (1,[.int .i64,.str,.bool])⟩,
 tyN,
 ⟨.strct [(0,3),(1,33),(4,213)],7,72,.agg [.i 0,.i 0,.i 0,.s [],.i 0,.s [],.b false],some (2,[.int .i64,.int .i64,.int .i64,.str,.int .i64,.str,.bool])⟩,
 tyN,
 tyN,
 tyN,
 tyN,
 ⟨.iface,1,16,.v .nilIface,none⟩,
 tyN,
 tyN,
 tyN,
 tyN,
 tyN,
 tyN,
 tyN,
 ⟨.ptr 273,1,8,.v (.pointer none),none⟩,
 tyN,
 tyN,
 acY,
 tyN,
 tyN,
 tyN,
 tyN,
 tyN,
 tyN,
 tyN,
 tyN,
 tyN,
 tyN,
 tyN,
 tyN,
 ⟨.ptr 247,1,8,.v (.pointer none),none⟩,
 ⟨.map 9 352,1,8,.v (.map none),none⟩,
 tyN,
 ⟨.strct [(0,245),(1,3)],2,16,.agg [.v (.map none),.i 0],none⟩,
 tyN,
 tyN,
 tyN,
 tyN,
 ⟨.slice 3,1,24,.sl [] .full,none⟩,
 tyN,
 tyN,
 acY,
 tyN,
 tyN,
 tyN,
 tyN,
 tyN,
 tyN,
 ⟨.slice 266,1,24,.sl [] .full,none⟩,
 tyN,
 tyN,
 ⟨.strct [(0,213),(3,3),(4,33)],7,72,.agg [.i 0,.s [],.b false,.i 0,.i 0,.i 0,.s []],some (2,[.int .i64,.str,.bool,.int .i64,.int .i64,.int .i64,.str])⟩,
 ⟨.slice 265,1,24,.sl [] .full,none⟩,
 tyN,
 ⟨.ptr 270,1,8,.v (.pointer none),none⟩,
 tyN,
 ⟨.strct [(0,268),(1,37)],2,32,.agg [.v (.pointer none),.sl [] .full],none⟩,
 tyN,
 tyN,
 ⟨.strct [(0,37),(1,3),(2,4)],3,40,.agg [.sl [] .full,.i 0,.b false],none⟩,
 tyN,
 acY,
 tyN,
 tyN,
 tyN,
 tyN,
 tyN,
 tyN,
 tyN,
 tyN,
 tyN,
 tyN,
 tyN,
 tyN,
 ⟨.slice 107,1,24,.sl [] .full,none⟩,
 tyN,
 tyN,
 tyN,
 tyN,
 tyN,
 tyN,
 acY,
 tyN,
 tyN,
 tyN,
 tyN,
 tyN,
 tyN,
 tyN,
 ⟨.int .i64,1,8,.i 0,some (0,[.int .i64])⟩,
 tyN,
 tyN,
 tyN,
 tyN,
 tyN,
 tyN,
 tyN,
 tyN,
 tyN,
 tyN,
 tyN,
 tyN,
 tyN,
 tyN,
 tyN,
 tyN,
 tyN,
 tyN,
 acY,
 ⟨.slice 31,1,24,.sl [] .full,none⟩,
 tyN,
 tyN,
 tyN,
 tyN,
 tyN,
 tyN,
 tyN,
 tyN,
 tyN,
 tyN,
 tyN,
 tyN,
 tyN,
 tyN,
 tyN,
 tyN,
 tyN,
 tyN,
 tyN,
 tyN,
 tyN,
 tyN,
 tyN,
 tyN,
 tyN,
 tyN,
 tyN,
 tyN,
 ⟨.strct [],0,0,default,none⟩,
 tyN,
 tyN,
 ⟨.slice 4,1,24,.sl [] .full,none⟩,
 tyN,
 tyN,
 tyN,
 tyN,
 tyN,
 ⟨.strct [(0,179),(1,33),(4,24)],5,64,.agg [.sl [] .full,.i 0,.i 0,.s [],.i 0],none⟩,
 acY,
 tyN,
 tyN,
 tyN,
 tyN,
 tyN,
 tyN,
 tyN,
 tyN,
 tyN,
 tyN,
 tyN,
 tyN,
 tyN,
 tyN,
 tyN,
 tyN,
 tyN,
 tyN,
 tyN,
 tyN,
 tyN,
 tyN,
 tyN,
 tyN,
 ⟨.slice 361,1,24,.sl [] .full,none⟩,
 tyN,
 tyN,
 tyN,
 tyN,
 tyN,
 tyN,
 tyN,
 tyN,
 tyN,
 acY,
 tyN,
 tyN,
 tyN,
 tyN,
 tyN,
 tyN,
 tyN,
 tyN,
 tyN,
 tyN,
 tyN,
 tyN,
 acY,
 tyN,
 tyN,
 tyN,
 tyN,
 tyN,
 tyN,
 tyN,
 tyN,
 tyN,
 tyN,
 tyN,
 tyN,
 tyN,
 tyN]
def U(t:TypeId):TI:=Nj.getD t ⟨.other,0,0,default,none⟩
@[go_sem] theorem U3k:(U 3).k= .int .i64∧(U 3).sz=1∧(U 3).bytes=8∧(U 3).zero= .i 0:=⟨rfl,rfl,rfl,rfl⟩
@[go_sem] theorem U4k:(U 4).k= .bool∧(U 4).sz=1∧(U 4).bytes=1∧(U 4).zero= .b false:=⟨rfl,rfl,rfl,rfl⟩
@[go_sem] theorem U5k:(U 5).k= .int .u8∧(U 5).sz=1∧(U 5).bytes=1∧(U 5).zero= .v (.int .u8 0):=⟨rfl,rfl,rfl,rfl⟩
@[go_sem] theorem U9k:(U 9).k= .str∧(U 9).sz=1∧(U 9).bytes=16∧(U 9).zero= .s []:=⟨rfl,rfl,rfl,rfl⟩
@[go_sem] theorem aaY:(U 22).k= .slice 9∧(U 22).sz=1∧(U 22).bytes=24∧(U 22).zero= .sl [] .full:=⟨rfl,rfl,rfl,rfl⟩
@[go_sem] theorem aa2:(U 23).k= .ptr 87∧(U 23).sz=1∧(U 23).bytes=8∧(U 23).zero= .v (.pointer none):=⟨rfl,rfl,rfl,rfl⟩
@[go_sem] theorem aa6:(U 24).k= .int .i64∧(U 24).sz=1∧(U 24).bytes=8∧(U 24).zero= .i 0:=⟨rfl,rfl,rfl,rfl⟩
@[go_sem] theorem aba:(U 27).k= .ptr 92∧(U 27).sz=1∧(U 27).bytes=8∧(U 27).zero= .v (.pointer none):=⟨rfl,rfl,rfl,rfl⟩
@[go_sem] theorem abe:(U 31).k= .cplx .f64∧(U 31).sz=1∧(U 31).bytes=16∧(U 31).zero= .v (.complex .f64 0 0):=⟨rfl,rfl,rfl,rfl⟩
@[go_sem] theorem abj:(U 33).k= .strct [(0,3),(1,3),(2,9)]∧(U 33).sz=3∧(U 33).bytes=32∧(U 33).zero= .agg [.i 0,.i 0,.s []]∧(U 33).eq=some (1,[.int .i64,.int .i64,.str]):=⟨rfl,rfl,rfl,rfl,rfl⟩
@[go_sem] theorem abn:(U 35).k= .strct [(0,24),(1,31),(2,4),(3,33),(6,4),(7,3)]∧(U 35).sz=8∧(U 35).bytes=80∧(U 35).zero= .agg [.i 0,.v (.complex .f64 0 0),.b false,.i 0,.i 0,.s [],.b false,.i 0]:=⟨rfl,rfl,rfl,rfl⟩
@[go_sem] theorem abr:(U 37).k= .slice 5∧(U 37).sz=1∧(U 37).bytes=24∧(U 37).zero= .sl [] .full:=⟨rfl,rfl,rfl,rfl⟩
@[go_sem] theorem abx:(U 39).k= .strct [(0,3),(1,9),(2,9),(3,9),(4,9),(5,33),(8,3),(9,9),(10,9),(11,4)]∧(U 39).sz=12∧(U 39).bytes=152∧(U 39).zero= .agg [.i 0,.s [],.s [],.s [],.s [],.i 0,.i 0,.s [],.i 0,.s [],.s [],.b false]∧(U 39).eq=some (2,[.int .i64,.str,.str,.str,.str,.int .i64,.int .i64,.str,.int .i64,.str,.str,.bool]):=⟨rfl,rfl,rfl,rfl,rfl⟩
@[go_sem] theorem abB:(U 40).k= .slice 37∧(U 40).sz=1∧(U 40).bytes=24∧(U 40).zero= .sl [] .full:=⟨rfl,rfl,rfl,rfl⟩
@[go_sem] theorem abF:(U 48).k= .int .u64∧(U 48).sz=1∧(U 48).bytes=8∧(U 48).zero= .v (.int .u64 0):=⟨rfl,rfl,rfl,rfl⟩
@[go_sem] theorem abJ:(U 51).k= .slice 122∧(U 51).sz=1∧(U 51).bytes=24∧(U 51).zero= .sl [] .full:=⟨rfl,rfl,rfl,rfl⟩
@[go_sem] theorem abN:(U 52).k= .slice 135∧(U 52).sz=1∧(U 52).bytes=24∧(U 52).zero= .sl [] .full:=⟨rfl,rfl,rfl,rfl⟩
@[go_sem] theorem abR:(U 53).k= .slice 138∧(U 53).sz=1∧(U 53).bytes=24∧(U 53).zero= .sl [] .full:=⟨rfl,rfl,rfl,rfl⟩
@[go_sem] theorem abV:(U 54).k= .slice 141∧(U 54).sz=1∧(U 54).bytes=24∧(U 54).zero= .sl [] .full:=⟨rfl,rfl,rfl,rfl⟩
@[go_sem] theorem abZ:(U 56).k= .slice 262∧(U 56).sz=1∧(U 56).bytes=24∧(U 56).zero= .sl [] .full:=⟨rfl,rfl,rfl,rfl⟩
@[go_sem] theorem ab3:(U 57).k= .slice 210∧(U 57).sz=1∧(U 57).bytes=24∧(U 57).zero= .sl [] .full:=⟨rfl,rfl,rfl,rfl⟩
@[go_sem] theorem ab7:(U 58).k= .slice 61∧(U 58).sz=1∧(U 58).bytes=24∧(U 58).zero= .sl [] .full:=⟨rfl,rfl,rfl,rfl⟩
@[go_sem] theorem ace:(U 59).k= .slice 131∧(U 59).sz=1∧(U 59).bytes=24∧(U 59).zero= .sl [] .full:=⟨rfl,rfl,rfl,rfl⟩
@[go_sem] theorem aci:(U 61).k= .strct [(0,9),(1,4),(2,3),(3,56),(4,57),(5,58),(6,59)]∧(U 61).sz=7∧(U 61).bytes=128∧(U 61).zero= .agg [.s [],.b false,.i 0,.sl [] .full,.sl [] .full,.sl [] .full,.sl [] .full]:=⟨rfl,rfl,rfl,rfl⟩
@[go_sem] theorem acn:(U 63).k= .strct [(0,3),(1,51),(2,52),(3,53),(4,54),(5,61),(12,3)]∧(U 63).sz=13∧(U 63).bytes=240∧(U 63).zero= .agg [.i 0,.sl [] .full,.sl [] .full,.sl [] .full,.sl [] .full,.s [],.b false,.i 0,.sl [] .full,.sl [] .full,.sl [] .full,.sl [] .full,.i 0]:=⟨rfl,rfl,rfl,rfl⟩
@[go_sem] theorem acr:(U 68).k= .strct [(0,39),(12,3),(13,31),(14,4),(15,59)]∧(U 68).sz=16∧(U 68).bytes=208∧(U 68).zero= .agg [.i 0,.s [],.s [],.s [],.s [],.i 0,.i 0,.s [],.i 0,.s [],.s [],.b false,.i 0,.v (.complex .f64 0 0),.b false,.sl [] .full]:=⟨rfl,rfl,rfl,rfl⟩
@[go_sem] theorem acw:(U 72).k= .slice 68∧(U 72).sz=1∧(U 72).bytes=24∧(U 72).zero= .sl [] .full:=⟨rfl,rfl,rfl,rfl⟩
@[go_sem] theorem acB:(U 87).k= .strct [(0,3),(1,37),(2,3),(3,3),(4,4)]∧(U 87).sz=5∧(U 87).bytes=56∧(U 87).zero= .agg [.i 0,.sl [] .full,.i 0,.i 0,.b false]:=⟨rfl,rfl,rfl,rfl⟩
@[go_sem] theorem acF:(U 88).k= .ptr 160∧(U 88).sz=1∧(U 88).bytes=8∧(U 88).zero= .v (.pointer none):=⟨rfl,rfl,rfl,rfl⟩
@[go_sem] theorem acJ:(U 92).k= .strct [(0,88),(1,63),(14,72),(15,48)]∧(U 92).sz=16∧(U 92).bytes=280∧(U 92).zero= .agg [.v (.pointer none),.i 0,.sl [] .full,.sl [] .full,.sl [] .full,.sl [] .full,.s [],.b false,.i 0,.sl [] .full,.sl [] .full,.sl [] .full,.sl [] .full,.i 0,.sl [] .full,.v (.int .u64 0)]:=⟨rfl,rfl,rfl,rfl⟩
@[go_sem] theorem X3:(U 101).k= .int .u32∧(U 101).sz=1∧(U 101).bytes=4∧(U 101).zero= .v (.int .u32 0):=⟨rfl,rfl,rfl,rfl⟩
@[go_sem] theorem X7:(U 107).k= .strct [(0,31),(1,59)]∧(U 107).sz=2∧(U 107).bytes=40∧(U 107).zero= .agg [.v (.complex .f64 0 0),.sl [] .full]:=⟨rfl,rfl,rfl,rfl⟩
@[go_sem] theorem Yb:(U 111).k= .slice 182∧(U 111).sz=1∧(U 111).bytes=24∧(U 111).zero= .sl [] .full:=⟨rfl,rfl,rfl,rfl⟩
@[go_sem] theorem Yf:(U 119).k= .slice 201∧(U 119).sz=1∧(U 119).bytes=24∧(U 119).zero= .sl [] .full:=⟨rfl,rfl,rfl,rfl⟩
@[go_sem] theorem Yj:(U 120).k= .slice 191∧(U 120).sz=1∧(U 120).bytes=24∧(U 120).zero= .sl [] .full:=⟨rfl,rfl,rfl,rfl⟩
@[go_sem] theorem Yn:(U 122).k= .strct [(0,9),(1,9),(2,9),(3,119),(4,120)]∧(U 122).sz=5∧(U 122).bytes=96∧(U 122).zero= .agg [.s [],.s [],.s [],.sl [] .full,.sl [] .full]:=⟨rfl,rfl,rfl,rfl⟩
@[go_sem] theorem Yr:(U 131).k= .strct [(0,3),(1,3),(2,9)]∧(U 131).sz=3∧(U 131).bytes=32∧(U 131).zero= .agg [.i 0,.i 0,.s []]:=⟨rfl,rfl,rfl,rfl⟩
@[go_sem] theorem Yv:(U 135).k= .strct [(0,3),(1,3),(2,9),(3,9),(4,9),(5,9),(6,4)]∧(U 135).sz=7∧(U 135).bytes=88∧(U 135).zero= .agg [.i 0,.i 0,.s [],.s [],.s [],.s [],.b false]:=⟨rfl,rfl,rfl,rfl⟩
@[go_sem] theorem Yz:(U 138).k= .strct [(0,3),(1,9),(2,9)]∧(U 138).sz=3∧(U 138).bytes=40∧(U 138).zero= .agg [.i 0,.s [],.s []]:=⟨rfl,rfl,rfl,rfl⟩
@[go_sem] theorem YF:(U 141).k= .strct [(0,9),(1,9)]∧(U 141).sz=2∧(U 141).bytes=32∧(U 141).zero= .agg [.s [],.s []]∧(U 141).eq=some (1,[.str,.str]):=⟨rfl,rfl,rfl,rfl,rfl⟩
@[go_sem] theorem YJ:(U 160).k= .strct [(0,23),(1,40),(2,4)]∧(U 160).sz=3∧(U 160).bytes=40∧(U 160).zero= .agg [.v (.pointer none),.sl [] .full,.b false]:=⟨rfl,rfl,rfl,rfl⟩
@[go_sem] theorem YN:(U 161).k= .int .u64∧(U 161).sz=1∧(U 161).bytes=8∧(U 161).zero= .v (.int .u64 0):=⟨rfl,rfl,rfl,rfl⟩
@[go_sem] theorem YS:(U 164).k= .slice 172∧(U 164).sz=1∧(U 164).bytes=24∧(U 164).zero= .sl [] .full:=⟨rfl,rfl,rfl,rfl⟩
@[go_sem] theorem YW:(U 169).k= .strct [(0,164),(1,3),(2,3),(3,24),(4,3)]∧(U 169).sz=5∧(U 169).bytes=56∧(U 169).zero= .agg [.sl [] .full,.i 0,.i 0,.i 0,.i 0]:=⟨rfl,rfl,rfl,rfl⟩
@[go_sem] theorem Y0:(U 172).k= .strct [(0,3),(1,3),(2,3),(3,9)]∧(U 172).sz=4∧(U 172).bytes=40∧(U 172).zero= .agg [.i 0,.i 0,.i 0,.s []]:=⟨rfl,rfl,rfl,rfl⟩
@[go_sem] theorem Y4:(U 179).k= .slice 33∧(U 179).sz=1∧(U 179).bytes=24∧(U 179).zero= .sl [] .full:=⟨rfl,rfl,rfl,rfl⟩
@[go_sem] theorem Y8:(U 182).k= .strct [(0,3),(1,9),(2,179)]∧(U 182).sz=3∧(U 182).bytes=48∧(U 182).zero= .agg [.i 0,.s [],.sl [] .full]:=⟨rfl,rfl,rfl,rfl⟩
@[go_sem] theorem Zc:(U 191).k= .strct [(0,3),(1,9),(2,9)]∧(U 191).sz=3∧(U 191).bytes=40∧(U 191).zero= .agg [.i 0,.s [],.s []]:=⟨rfl,rfl,rfl,rfl⟩
@[go_sem] theorem Zg:(U 201).k= .strct [(0,9),(1,33)]∧(U 201).sz=4∧(U 201).bytes=48∧(U 201).zero= .agg [.s [],.i 0,.i 0,.s []]:=⟨rfl,rfl,rfl,rfl⟩
@[go_sem] theorem Zk:(U 208).k= .slice 215∧(U 208).sz=1∧(U 208).bytes=24∧(U 208).zero= .sl [] .full:=⟨rfl,rfl,rfl,rfl⟩
@[go_sem] theorem Zo:(U 210).k= .strct [(0,9),(1,4),(2,56),(3,208),(4,59)]∧(U 210).sz=5∧(U 210).bytes=96∧(U 210).zero= .agg [.s [],.b false,.sl [] .full,.sl [] .full,.sl [] .full]:=⟨rfl,rfl,rfl,rfl⟩
@[go_sem] theorem Zt:(U 213).k= .strct [(0,3),(1,9),(2,4)]∧(U 213).sz=3∧(U 213).bytes=32∧(U 213).zero= .agg [.i 0,.s [],.b false]∧(U 213).eq=some (1,[.int .i64,.str,.bool]):=⟨rfl,rfl,rfl,rfl,rfl⟩
@[go_sem] theorem Zx:(U 215).k= .strct [(0,3),(1,33),(4,213)]∧(U 215).sz=7∧(U 215).bytes=72∧(U 215).zero= .agg [.i 0,.i 0,.i 0,.s [],.i 0,.s [],.b false]:=⟨rfl,rfl,rfl,rfl⟩
@[go_sem] theorem ZB:(U 245).k= .map 9 352∧(U 245).sz=1∧(U 245).bytes=8∧(U 245).zero= .v (.map none):=⟨rfl,rfl,rfl,rfl⟩
@[go_sem] theorem ZF:(U 247).k= .strct [(0,245),(1,3)]∧(U 247).sz=2∧(U 247).bytes=16∧(U 247).zero= .agg [.v (.map none),.i 0]:=⟨rfl,rfl,rfl,rfl⟩
@[go_sem] theorem ZJ:(U 252).k= .slice 3∧(U 252).sz=1∧(U 252).bytes=24∧(U 252).zero= .sl [] .full:=⟨rfl,rfl,rfl,rfl⟩
@[go_sem] theorem ZN:(U 262).k= .slice 266∧(U 262).sz=1∧(U 262).bytes=24∧(U 262).zero= .sl [] .full:=⟨rfl,rfl,rfl,rfl⟩
@[go_sem] theorem ZR:(U 265).k= .strct [(0,213),(3,3),(4,33)]∧(U 265).sz=7∧(U 265).bytes=72∧(U 265).zero= .agg [.i 0,.s [],.b false,.i 0,.i 0,.i 0,.s []]:=⟨rfl,rfl,rfl,rfl⟩
@[go_sem] theorem ZV:(U 266).k= .slice 265∧(U 266).sz=1∧(U 266).bytes=24∧(U 266).zero= .sl [] .full:=⟨rfl,rfl,rfl,rfl⟩
@[go_sem] theorem ZZ:(U 273).k= .strct [(0,37),(1,3),(2,4)]∧(U 273).sz=3∧(U 273).bytes=40∧(U 273).zero= .agg [.sl [] .full,.i 0,.b false]:=⟨rfl,rfl,rfl,rfl⟩
@[go_sem] theorem Z5:(U 288).k= .slice 107∧(U 288).sz=1∧(U 288).bytes=24∧(U 288).zero= .sl [] .full:=⟨rfl,rfl,rfl,rfl⟩
@[go_sem] theorem Z9:(U 323).k= .slice 31∧(U 323).sz=1∧(U 323).bytes=24∧(U 323).zero= .sl [] .full:=⟨rfl,rfl,rfl,rfl⟩
@[go_sem] theorem aac:(U 352).k= .strct []∧(U 352).sz=0:=⟨rfl,rfl⟩
@[go_sem] theorem aaf:(U 355).k= .slice 4∧(U 355).sz=1∧(U 355).bytes=24∧(U 355).zero= .sl [] .full:=⟨rfl,rfl,rfl,rfl⟩
@[go_sem] theorem aaj:(U 361).k= .strct [(0,179),(1,33),(4,24)]∧(U 361).sz=5∧(U 361).bytes=64∧(U 361).zero= .agg [.sl [] .full,.i 0,.i 0,.s [],.i 0]:=⟨rfl,rfl,rfl,rfl⟩
@[go_sem] theorem aan:(U 387).k= .slice 361∧(U 387).sz=1∧(U 387).bytes=24∧(U 387).zero= .sl [] .full:=⟨rfl,rfl,rfl,rfl⟩
theorem hU:∀t,aO Tryz.prog U t:=IE 425 ac3 fun t ht=>by
 unfold U;rw[List.getD_eq_getElem?_getD,List.getElem?_eq_none (show Nj.length≤t from ht)]
 rfl
theorem hm:Tryz.prog.follows .mixedOrders=true:=ac3
end Go.Proofs.YtfdgemhnlennbaaGreatDoor
namespace Go.Proofs
open Go.Shelf
open Go.RowKit in
open Go.RowKit in
def Tryz.DN:Go.Shelf.Ren:=⟨fun|121=>135|214=>181|n=>n,fun|4=>4|9=>9|n=>n,fun|n=>n⟩
theorem Tryz.OD:Go.Proofs.Lays.n121 Tryz.prog Tryz.DN:={
 mixed:=ac3
 f121:=Tryz.func135.trans (congrArg some ac3)
 f214:=Tryz.func181.trans (congrArg some ac3)
 t4:=Tryz.underlying4
 a4:=Tryz.isAgg4
 z4:=Tryz.sizeOf4
 v4:=Tryz.zeroValue4
 t9:=Tryz.underlying9
 a9:=Tryz.isAgg9
 z9:=Tryz.sizeOf9
 v9:=Tryz.zeroValue9}
open Go.RowKit in
theorem Tryz.strconv_FormatBool(b:Bool)(w:World):
  Calls Tryz.prog 135 #[.bool b] w fun e w' =>e= .returned (.string ⟨(Lib.formatBool b).toArray⟩)∧w' =w:=Any.strconv_FormatBool Tryz.OD b w
def Tryz.Cn:Go.Shelf.Ren:=⟨fun|171=>136|243=>182|246=>227|283=>259|284=>260|285=>261|286=>262|129=>287|317=>286|318=>288|319=>289|320=>290|337=>309|338=>310|n=>n,fun|3=>3|9=>9|2=>2|4=>4|171=>341|0=>0|53=>48|37=>37|5=>5|173=>344|212=>377|51=>101|20=>20|213=>378|46=>161|232=>406|233=>407|n=>n,fun|17=>3|18=>4|19=>5|n=>n⟩
theorem Tryz.L4:Go.Proofs.LaysM.n171 Tryz.prog Tryz.Cn:={
 mixed:=ac3
 f129:=Tryz.func287.trans (congrArg some ac3)
 f171:=Tryz.func136.trans (congrArg some ac3)
 f243:=Tryz.func182.trans (congrArg some ac3)
 f246:=Tryz.func227.trans (congrArg some ac3)
 f283:=Tryz.func259.trans (congrArg some ac3)
 f284:=Tryz.func260.trans (congrArg some ac3)
 f285:=Tryz.func261.trans (congrArg some ac3)
 f286:=Tryz.func262.trans (congrArg some ac3)
 f317:=Tryz.func286.trans (congrArg some ac3)
 f318:=Tryz.func288.trans (congrArg some ac3)
 f319:=Tryz.func289.trans (congrArg some ac3)
 f320:=Tryz.func290.trans (congrArg some ac3)
 f337:=Tryz.func309.trans (congrArg some ac3)
 f338:=Tryz.func310.trans (congrArg some ac3)
 t0:=Tryz.underlying0
 a0:=Tryz.isAgg0
 z0:=Tryz.sizeOf0
 v0:=Tryz.zeroValue0
 t2:=Tryz.underlying2
 a2:=Tryz.isAgg2
 z2:=Tryz.sizeOf2
 v2:=Tryz.zeroValue2
 t3:=Tryz.underlying3
 a3:=Tryz.isAgg3
 z3:=Tryz.sizeOf3
 v3:=Tryz.zeroValue3
 t4:=Tryz.underlying4
 a4:=Tryz.isAgg4
 z4:=Tryz.sizeOf4
 v4:=Tryz.zeroValue4
 t5:=Tryz.underlying5
 a5:=Tryz.isAgg5
 z5:=Tryz.sizeOf5
 v5:=Tryz.zeroValue5
 t9:=Tryz.underlying9
 a9:=Tryz.isAgg9
 z9:=Tryz.sizeOf9
 v9:=Tryz.zeroValue9
 t20:=Tryz.underlying20
 a20:=Tryz.isAgg20
 z20:=Tryz.sizeOf20
 v20:=Tryz.zeroValue20
 t37:=Tryz.underlying37
 a37:=Tryz.isAgg37
 z37:=Tryz.sizeOf37
 v37:=Tryz.zeroValue37
 t46:=Tryz.underlying161
 a46:=Tryz.isAgg161
 z46:=Tryz.sizeOf161
 v46:=Tryz.zeroValue161
 t51:=Tryz.underlying101
 a51:=Tryz.isAgg101
 z51:=Tryz.sizeOf101
 v51:=Tryz.zeroValue101
 t53:=Tryz.underlying48
 a53:=Tryz.isAgg48
 z53:=Tryz.sizeOf48
 v53:=Tryz.zeroValue48
 t171:=Tryz.underlying341
 a171:=Tryz.isAgg341
 z171:=Tryz.sizeOf341
 v171:=Tryz.zeroValue341
 t173:=Tryz.underlying344
 a173:=Tryz.isAgg344
 z173:=Tryz.sizeOf344
 v173:=Tryz.zeroValue344
 t212:=Tryz.underlying377
 a212:=Tryz.isAgg377
 z212:=Tryz.sizeOf377
 v212:=Tryz.zeroValue377
 t213:=Tryz.underlying378
 a213:=Tryz.isAgg378
 z213:=Tryz.sizeOf378
 t232:=Tryz.underlying406
 a232:=Tryz.isAgg406
 z232:=Tryz.sizeOf406
 v232:=Tryz.zeroValue406
 t233:=Tryz.underlying407
 a233:=Tryz.isAgg407
 z233:=Tryz.sizeOf407
 v233:=Tryz.zeroValue407
 g17:=ac3
 g18:=ac3
 g19:=ac3
 i0:=ac3
 i2:=ac3
 i3:=ac3
 i4:=ac3
 i5:=ac3
 i9:=ac3
 i20:=ac3
 i37:=ac3
 i46:=ac3
 i51:=ac3
 i53:=ac3
 i171:=ac3
 i173:=ac3
 i212:=ac3
 i232:=ac3
 i233:=ac3
 m17:=ac3
 m18:=ac3
 m19:=ac3}
open Go.RowKit Go.Sort Go.Lib in
theorem Tryz.strconv_Itoa (n : Int) (h0 : -9223372036854775808 ≤ n) (h1 : n ≤ 9223372036854775807) (w : World) (htab : Lib.TabIs Tryz.prog w "internal/strconv.uint64pow10" .u64 Lib.pow10Tab) :
  Calls Tryz.prog 136 #[.int .i64 n] w fun e w' =>e= .returned (.string ⟨(Lib.itoa n).toArray⟩)∧∃k os,w' =grow (w.drewN k) os:=Any.strconv_Itoa Tryz.L4 n h0 h1 w htab
end Go.Proofs
namespace Go.Ab
open Go
section
variable {P : Program} {U : TypeId → TI} {n : Nat} {ρ : Env} {h h' h2 : Heap} {e tb : TypeId} {y v : AV} {xs zs : List AV} {l : List UInt8} {Q : AV → Heap → Prop}
def hm1(id:Nat)(k:Blk):Heap:=upd (fun _=>none) id (some k)
@[go_sem] theorem gh(id:Nat)(k:Blk):hm1 id k id=some k:=ah ..
theorem Sub.hm1{id:Nat}{k:Blk}(h1:h id=some k):Sub (hm1 id k) h:=fun j b hj=>by
 unfold Ab.hm1 at hj
 grind [ah,ag]
theorem fM.new{id:Nat}{k:Option Blk}(hid:h id=none):fM h (upd h id k):=((Sub.refl h).new hid k).fZ
theorem oc.accs{h0:Heap}(hs:Sub h0 h)(hk:∀y' h'',Acc U e h0 h'' y' (xs++zs)→fM h h''→Q y' h''):oc U h xs zs e Q:=
 .own fun id hid=>hk _ _ ⟨hs.new hid _,.inr ⟨id,hs.none hid,rfl,by rw[ah,acU]⟩⟩ (.new hid)
end
section
variable {P : Program} {U : TypeId → TI} {n : Nat} {ρ : Env} {h h' : Heap} {tb : TypeId} {y : AV} {l : List UInt8}
theorem Bytes.from(hb:Bytes tb h y l){lo:Operand}{m:Int}{x:IntKind}{K:AV→Prop}(j:Nat)(hm:ev ρ lo=some (.v (.int x m)))(hj:m=j)(hl:j≤l.length)(hz:(U tb).sz=1)(hk:∀z,Bytes tb h z (l.drop j)→K z):
  gM U ρ y (some lo) none none K (.slice tb):=by
 subst hj;rcases hb with⟨q,rfl⟩|⟨id,off,cs,rfl,h1,h2,h3⟩
 ·rw[EG,hm]
  refine⟨ac0,by grind [jz],?_⟩
  refine⟨ac0,ac1,?_⟩;rw[←List.map_drop];exact hk _ (.sl _ _)
 ·rw[rO]
  refine⟨ac0,fun _=>hz,?_⟩
  simp only[mB,fK,hm,dF,nE];refine⟨ac0,ac0,ac0,?_⟩;simp only[Int.toNat_natCast,hz,Nat.mul_one];have e:(l.drop j).length=l.length - j:=ac7;have:=hk (.oa id (off+j) (l.drop j).length) (by grind [oa,List.map_drop,List.drop_drop,List.drop_take])
  rwa [e]at this
theorem Bytes.cut(hb:Bytes tb h y l){lo hi:Operand}{m m2:Int}{x x2:IntKind}{K:AV→Prop}(j k:Nat)(hm:ev ρ lo=some (.v (.int x m)))(hj:m=j)(hm2:ev ρ hi=some (.v (.int x2 m2)))(hk2:m2=k)(hjk:j≤k)(hl:k≤l.length)(hz:(U tb).sz=1)
  (hk:∀z,Bytes tb h z ((l.drop j).take (k - j))→K z):gM U ρ y (some lo) (some hi) none K (.slice tb):=by
 subst hj;subst hk2
 rcases hb with⟨q,rfl⟩|⟨id,off,cs,rfl,h1,h2,h3⟩
 ·rw[Kb,hm]
  refine⟨ac0,by grind [jz],?_⟩
  simp only[dF,nE,hm2,Int.toNat_natCast,TY];refine⟨ac0,ac0,ac1,?_⟩;rw[←List.map_drop,←List.map_take];exact hk _ (.sl _ _)
 ·rw[rO]
  refine⟨ac0,fun _=>hz,?_⟩
  simp only[fK,hm,dF,nE,hm2];refine⟨ac0,ac0,ac0,?_⟩;simp only[Int.toNat_natCast,hz,Nat.mul_one];have e:((l.drop j).take (k - j)).length=k - j:=ac1;have:=hk (.oa id (off+j) ((l.drop j).take (k - j)).length) (.oa h1 ac0 (by
   grind [List.map_take,List.map_drop,List.drop_drop,List.drop_take]))
  rwa [e]at this
end
theorem QD(k:IntKind)(n:Nat)(hk:k.signed=false)(hn:n<2 ^ k.bits):k.wrap (n:Int)=n:=by
 cases k<;>simp[IntKind.signed]at hk<;>simp[IntKind.wrap,IntKind.signed,IntKind.bits]at hn⊢<;>omega
theorem w32(n:Nat)(hn:n<4294967296):IntKind.u32.wrap (n:Int)=n:=QD .u32 n rfl agL
theorem w8(n:Nat):IntKind.u8.wrap (n:Int)=(UInt8.ofNat n).toNat:=by
 rfl
theorem A9(w n:Nat):BitVec.ofInt w (n:Int)=BitVec.ofNat w n:=BitVec.ofInt_natCast ..
theorem Ny(x y:BitVec 32):IntKind.u32.wrap (((BitVec.ofInt IntKind.u32.bits (x.toNat:Int) ^^^ BitVec.ofInt IntKind.u32.bits (y.toNat:Int)).toNat:Nat):Int)=((x ^^^ y).toNat:Int):=by
 have e:∀z:BitVec 32,BitVec.ofInt IntKind.u32.bits (z.toNat:Int)=z:=fun z=>by
  show BitVec.ofInt 32 (z.toNat:Int)=z
  simp
 rw[e,e];exact w32 _ (x ^^^ y).isLt
theorem SG(x:BitVec 32):IntKind.u32.wrap (((BitVec.ofInt IntKind.u32.bits (x.toNat:Int) ^^^ BitVec.ofInt IntKind.u32.bits (3988292384:Int)).toNat:Nat):Int)=((x ^^^ 0xedb88320#32).toNat:Int):=Ny x 0xedb88320#32
theorem U6(x:BitVec 32):IntKind.u32.wrap (((BitVec.ofInt IntKind.u32.bits (if IntKind.u32.signed=true then -1 else IntKind.u32.max) ^^^ BitVec.ofInt IntKind.u32.bits (x.toNat:Int)).toNat:Nat):Int)=((~~~ x).toNat:Int):=by
 have:=Ny (BitVec.allOnes 32) x;exact adN
theorem T9(x:BitVec 32):IntKind.u32.wrap (((BitVec.ofInt IntKind.u32.bits (x.toNat:Int) &&& BitVec.ofInt IntKind.u32.bits (1:Int)).toNat:Nat):Int)=((x &&& 1#32).toNat:Int):=by
 have e:BitVec.ofInt IntKind.u32.bits (x.toNat:Int)=x:=by
  show BitVec.ofInt 32 (x.toNat:Int)=x
  simp
 rw[e];exact w32 _ (x &&& 1#32).isLt
theorem Vj(x:BitVec 32):(x.toNat:Int).fdiv (2 ^ (min (1:Int).toNat IntKind.u32.bits))=((x>>>1).toNat:Int):=by
 show(x.toNat:Int).fdiv (2 ^ 1)=_
 grind [Int.fdiv_eq_ediv_of_nonneg,Nat.shiftRight_eq_div_pow]
theorem XV(n:Nat)(k:Nat)(hk:k≤24):(n:Int).fdiv (2 ^ (min (k:Int).toNat IntKind.u32.bits))=((n / 2 ^ k:Nat):Int):=by
 grind [min,Int,IntKind.bits,Int.fdiv_eq_ediv_of_nonneg,Int.le_of_lt,Int.pow_pos]
theorem XL(a b k:Nat)(ha:a<2 ^ k)(hk:k≤24)(hb:b<256):IntKind.u32.wrap (((BitVec.ofInt IntKind.u32.bits (a:Int)|||BitVec.ofInt IntKind.u32.bits ((b*2 ^ k:Nat):Int)).toNat:Nat):Int)=((a+b*2 ^ k:Nat):Int):=by
 have h24:2 ^ k≤2 ^ 24:=Nat.pow_le_pow_right ac4 hk;have hbk:b*2 ^ k≤255*2 ^ 24:=Nat.mul_le_mul ac0 h24;have e1:(BitVec.ofNat 32 a|||BitVec.ofNat 32 (b*2 ^ k)).toNat=a+b*2 ^ k:=by
  exact ah0
 show IntKind.u32.wrap (((BitVec.ofInt 32 (a:Int)|||BitVec.ofInt 32 ((b*2 ^ k:Nat):Int)).toNat:Nat):Int)=_
 rw[A9,A9,e1]
 grind [w32]
theorem Vi(b k:Nat)(hk:k≤24)(hb:b<256):IntKind.u32.wrap ((b:Int)*2 ^ (min (k:Int).toNat IntKind.u32.bits))=((b*2 ^ k:Nat):Int):=by
 have h24:2 ^ k≤2 ^ 24:=Nat.pow_le_pow_right ac4 hk;have hbk:b*2 ^ k≤255*2 ^ 24:=Nat.mul_le_mul ac0 h24;have:min (k:Int).toNat IntKind.u32.bits=k:=agL;rw[this,show((b:Int)*2 ^ k)=((b*2 ^ k:Nat):Int) by simp]
 exact w32 _ ac0
section
variable {U : TypeId → TI} {ty : TypeId} {K : AV → Prop}
@[go_sem high] theorem acO(x y:BitVec 32):cw U .xor ty (.v (.int .u32 (x.toNat:Int))) (.v (.int .u32 (y.toNat:Int))) K=K (.v (.int .u32 ((x ^^^ y).toNat:Int))):=by rw[PZ,Ny]
@[go_sem high] theorem aaD(x:BitVec 32):cw U .xor ty (.v (.int .u32 (x.toNat:Int))) (.v (.int .u32 3988292384)) K=K (.v (.int .u32 ((x ^^^ 0xedb88320#32).toNat:Int))):=by rw[PZ,SG]
@[go_sem high] theorem Xh(x:BitVec 32):cw U .and ty (.v (.int .u32 (x.toNat:Int))) (.v (.int .u32 1)) K=K (.v (.int .u32 ((x &&& 1#32).toNat:Int))):=by rw[KZ,T9]
@[go_sem high] theorem Xj(x:BitVec 32)(kk:IntKind):cw U .shr ty (.v (.int .u32 (x.toNat:Int))) (.v (.int kk 1)) K=K (.v (.int .u32 ((x>>>1).toNat:Int))):=by grind [K0,Vj]
@[go_sem high] theorem X0(x:BitVec 32):unA .xor (.v (.int .u32 (x.toNat:Int))) K=K (.v (.int .u32 ((~~~ x).toNat:Int))):=by rw[CH,U6]
theorem La(n k:Nat)(kk:IntKind)(hk:k≤24):cw U .shr ty (.v (.int .u32 (n:Int))) (.v (.int kk (k:Int))) K=K (.v (.int .u32 ((n / 2 ^ k:Nat):Int))):=by grind [K0,XV]
theorem K9(a b k:Nat)(ha:a<2 ^ k)(hk:k≤24)(hb:b<256):cw U .or ty (.v (.int .u32 (a:Int))) (.v (.int .u32 ((b*2 ^ k:Nat):Int))) K=K (.v (.int .u32 ((a+b*2 ^ k:Nat):Int))):=by grind [Ub,XL]
theorem Fl(b k:Nat)(kk:IntKind)(hk:k≤24)(hb:b<256):cw U .shl ty (.v (.int .u32 (b:Int))) (.v (.int kk (k:Int))) K=K (.v (.int .u32 ((b*2 ^ k:Nat):Int))):=by grind [PY,Vi]
end
section
variable {P : Program} {U : TypeId → TI} {n : Nat} {ρ : Env} {h0 h h' : Heap} {tb : TypeId} {y v : AV} {l m : List UInt8} {Q : AV → Heap → Prop}
end
section
variable {U : TypeId → TI} {ty : TypeId} {K : AV → Prop}
end
section
variable {P : Program} {U : TypeId → TI} {n : Nat} {ρ : Env} {h : Heap}
section
variable (all : List Oper) (bs : List Bool) (r : List Oper) (K : Env → Heap → Prop)
end
theorem ai.of_wp{f:FuncId}{fn:Func}{c:Code}{args:List AV}{Q:AV→Heap→Prop}(hU:∀t,aO P U t)(hf:P.funcs[f]? =some fn)(hb:fn.body=some c)
  (hn : (fn.name == "runtime.NumGoroutine") = false) (m : Nat) (hm' : fn.ntmps = m) (rs : List ResultVar) (hr : fn.results.toList = rs) (hl : args.length ≤ m)
  (hk:WP P m c (yh args) h (vP U rs Q)):ai P f args h Q:=by
 subst hm';subst hr
 exact ai.Mn hU hf hb hn hl fun _=>hk
end
section
variable {P : Program} {U : TypeId → TI} {n : Nat} {ρ : Env} {h : Heap}
def KCut(I:Env→Heap→Prop)(K:Exit→Env→Heap→Prop):Exit→Env→Heap→Prop:=KSeq I K
@[go_sem↓] theorem TW(I:Env→Heap→Prop)(K:Exit→Env→Heap→Prop):KCut I K .ret ρ h=K .ret ρ h:=rfl
theorem WP.cut{c d:Code}{K:Exit→Env→Heap→Prop}(I:Env→Heap→Prop)(hc:WP P n c ρ h (KCut I K))(hd:∀ρ h,I ρ h→WP P n d ρ h K):WP P n (.seq c d) ρ h K:=
 WP.seq (hc.weaken fun e ρ h hk=>by
  cases e with
  |normal=>exact hd ρ h hk
  |_=>exact hk)
theorem WP.vc(hU:∀t,aO P U t)(hm:P.follows .mixedOrders=true){c:Code}{K:Exit→Env→Heap→Prop}(hk:bF P U n c ρ h K):WP P n c ρ h K:=dL hU hm c ρ h K hk
def KNext(P:Program)(n:Nat)(d:Code)(K:Exit→Env→Heap→Prop):Exit→Env→Heap→Prop:=KSeq (WP P n d · · K) K
@[go_sem↓] theorem NN(d:Code)(K:Exit→Env→Heap→Prop):KNext P n d K .normal ρ h=WP P n d ρ h K:=rfl
@[go_sem↓] theorem SV(d:Code)(K:Exit→Env→Heap→Prop):KNext P n d K .ret ρ h=K .ret ρ h:=rfl
@[go_sem↓] theorem QO(d:Code)(K:Exit→Env→Heap→Prop)(i:Nat):KNext P n d K (.goto i) ρ h=K (.goto i) ρ h:=rfl
theorem WP.one(hU:∀t,aO P U t)(hm:P.follows .mixedOrders=true){c d:Code}{K:Exit→Env→Heap→Prop}(hk:bF P U n c ρ h (KNext P n d K)):WP P n (.seq c d) ρ h K:=WP.seq (dL hU hm c ρ h _ hk)
end
section
variable {P : Program} {U : TypeId → TI} {n : Nat} {ρ : Env} {h : Heap}
variable {d : Option Tmp} {t : TypeId} {p : String} {a : Array Edge} {g : Option (Nat × Bool)} {Q : AV → Heap → Prop} {k : AV → Prop}
@[go_sem] theorem VW(x y:TypeId)(k:TK→Prop):atK (.map x y) k=k (.map x y):=rfl
@[go_sem] theorem Uh(i:Nat):AV.cells (.mp i)= [.mp i]:=rfl
@[go_sem] theorem Xr(i m:Nat):fit (.mp i) m=(m=1):=rfl
@[go_sem] theorem Wx(l:List UInt8):gC .str (.s l)=(l.length≤maxLen):=rfl
def mpL(b:Blk)(f:List (AV×AV)→Prop):Prop:=match b with
 |.mp m=>f m
 |_=>False
@[congr] theorem Tx{b b' :Blk}{f:List (AV×AV)→Prop}(e:b=b'):mpL b f=mpL b' f:=by rw[e]
@[go_sem↓] theorem XA(m:List (AV×AV))(f:List (AV×AV)→Prop):mpL (.mp m) f=f m:=rfl
def Az(tk:TK)(m:List (AV×AV)):Prop:=∀p∈m,gC tk p.1
def KM(ti:TI):Prop:=ti.sz≠0∨ti.k= .strct []
def DU(U:TypeId→TI)(h:Heap)(u v:AV)(ok:Bool)(k:AV→Prop)(tk:TK):Prop:=match tk,u with
 |.map kt e,.mp id=>gC (U kt).k v∧KM (U e)∧aE (h id) fun b=>mpL b fun m=>Az (U kt).k m∧k (yT U e m v ok)
 |_,_=>False
@[congr] theorem Qj{u u' v v' :AV}{ok:Bool}{k:AV→Prop}{tk:TK}(h1:u=u')(h2:v=v'):DU U h u v ok k tk=DU U h u' v' ok k tk:=by grind
@[go_sem↓] theorem UZ(kt e:TypeId)(id:Nat)(v:AV)(ok:Bool):DU U h (.mp id) v ok k (.map kt e)=(gC (U kt).k v∧KM (U e)∧aE (h id) fun b=>mpL b fun m=>Az (U kt).k m∧k (yT U e m v ok)):=rfl
@[go_sem↓] theorem Va(mt:TypeId)(x y:Operand)(ok:Bool):bf P U ρ h ⟨d,.lookup mt x y ok,t,p,a,g⟩ Q=aE (ev ρ x) fun u=>aE (ev ρ y) fun v=>atK (U mt).k (DU U h u v ok (atH Q h)):=by
 simp only[bf,pv,bV,atK]
 congr 1
 funext u
 congr 1
 funext v
 cases (U mt).k with
 |map kt e=>
  cases u with
  |mp id=>
   simp only[DU]
   congr 2
   exact ahp
  |_=>rfl
 |_=>rfl
def MF(U:TypeId→TI)(h:Heap)(u v w:AV)(Q:AV→Heap→Prop)(tk:TK):Prop:=match tk,u with
 |.map kt e,.mp id=>gC (U kt).k v∧aE (h id) fun b=>mpL b fun m=>Az (U kt).k m∧Q (.v undef) (upd h id (some (.mp (Am m v w))))
 |_,_=>False
@[congr] theorem Sg{u u' v v' w w' :AV}{tk:TK}(h1:u=u')(h2:v=v')(h3:w=w'):MF U h u v w Q tk=MF U h u' v' w' Q tk:=by grind
@[go_sem↓] theorem WM(kt e:TypeId)(id:Nat)(v w:AV):MF U h (.mp id) v w Q (.map kt e)=(gC (U kt).k v∧aE (h id) fun b=>mpL b fun m=>Az (U kt).k m∧Q (.v undef) (upd h id (some (.mp (Am m v w))))):=rfl
@[go_sem↓] theorem Qp(mt:TypeId)(x y z:Operand):bf P U ρ h ⟨d,.mapUpdate mt x y z,t,p,a,g⟩ Q=aE (ev ρ x) fun u=>aE (ev ρ y) fun v=>aE (ev ρ z) fun w=>atK (U mt).k (MF U h u v w Q):=by
 simp only[bf,bV,atK]
 congr 1
 funext u
 congr 1
 funext v
 congr 1
 funext w
 cases (U mt).k with
 |map kt e=>
  cases u with
  |mp id=>
   simp only[MF]
   congr 1
   exact ahp
  |_=>rfl
 |_=>rfl
def T0(h:Heap)(Q:AV→Heap→Prop):Prop:=∀id,h id=none→Q (.mp id) (upd h id (some (.mp [])))
@[go_sem↓] theorem TJ(mt:TypeId):bf P U ρ h ⟨d,.makeMap mt none,t,p,a,g⟩ Q=T0 h Q:=by
 simp only[bf,Il,true_and];rfl
end
def Al(ls:List (List UInt8)):List (AV×AV):=ls.map fun l=>(.s l,.agg [])
theorem Dr(ls:List (List UInt8))(l:List UInt8):getM (Al ls) (.s l)=if l∈ls then some (.agg [])else none:=by
 induction ls with
 |nil=>rfl
 |cons x ls ih=>
  simp only[getM,Al,List.map_cons,List.find?_cons,sF]at ih⊢
  grind
theorem MZ{ls:List (List UInt8)}{l:List UInt8}(hn:l∉ls):Am (Al ls) (.s l) (.agg [])=Al (ls++ [l]):=by
 unfold Am;rw[Dr,if_neg hn];simp[Al]
theorem JL(U:TypeId→TI)(e:TypeId)(he:(U e).sz=0)(ls:List (List UInt8))(l:List UInt8):yT U e (Al ls) (.s l) true= .tup [.agg [],.b (decide (l∈ls))]:=by
 simp only[yT,Dr,lK,he,if_true]
 grind
theorem JH{ls:List (List UInt8)}(h:∀l∈ls,l.length≤maxLen):Az .str (Al ls):=fun p hp=>by
 obtain⟨l,hl,rfl⟩:=List.mem_map.1 hp;exact h l hl
section
variable {P : Program} {f : FuncId} {args : List AV} {h h' : Heap} {Q : AV → Heap → Prop}
theorem Ext.below{c:Cx}{w' :World}(hb:Go.RowKit.Below c.w.heap.size c.w w'):Ext c {c with w:=w'} where
 os:=hb.os
 tape:=hb.tape
 output:=hb.output
 size:=hb.size
 block:=fun b h _=>hb.block b h
 cell:=fun b o h _=>by
  simp only[World.cell?,hb.block b h]
 shape:=fun b cs t fr h=>⟨cs,fr,(hb.block b (cX h)).trans h,rfl⟩
 steal:=fun _ _ _ h=>h
 obj:=fun _ cs _ h=>⟨rfl,cs,h,rfl⟩
 spare:=fun _ n _ h=>⟨n,h,.inl ⟨rfl,rfl⟩⟩
 mp:=fun _ m h=>⟨rfl,m,h⟩
 ro:=fun _ _ _ h=>⟨rfl,h⟩
theorem Good.below{c:Cx}(g:Good c){w' :World}(hb:Go.RowKit.Below c.w.heap.size c.w w'):Good {c with w:=w'} where
 fin:=g.fin
 inj:=g.inj
 obj:=fun id cs t h=>by
  obtain⟨vs,a1,a2,a3⟩:=g.obj id cs t h;exact⟨vs,(hb.block _ (cX a1)).trans a1,a2,fun j hj=>⟨(a3 j hj).1.mono (.below hb),(a3 j hj).2⟩⟩
 spare:=fun id n sz h=>by
  obtain⟨a0,vs,t,fr,a1,a2⟩:=g.spare id n sz h;exact⟨a0,vs,t,fr,(hb.block _ (cX a1)).trans a1,a2⟩
 mp:=fun id m h=>by
  obtain⟨es,cl,a1,a2,a3⟩:=g.mp id m h;exact⟨es,cl,(hb.block _ (cX a1)).trans a1,a2,fun i hi hi' =>⟨(a3 i hi hi').1,(a3 i hi hi').2.mono (.below hb)⟩⟩
 keys:=g.keys
 ro:=fun id b vs h=>g.nM (.below hb) h
theorem ai.lib{X:AV}(hc:callable P f)(hf:∀c (vs:Array Value),Sub h c.h→Good c→vs.size=args.length→(∀i (hi:i<args.length),Rep c args[i] (vs.getD i undef))→
  Calls P f vs c.w fun e w' =>(∃u,e= .returned u∧∀c',Ext c c'→Rep c' X u)∧Go.RowKit.Below c.w.heap.size c.w w'):ai P f args h fun r h' =>r=X∧h' =h:=by
 refine fun c vs hs g h1 h2=> .inl ⟨hc,(hf c vs hs g h1 h2).mono ?_⟩
 rintro e w' ⟨⟨u,rfl,hu⟩,hb⟩
 exact⟨u,rfl,{c with w:=w'},X,h,rfl,g.below hb,.below hb,hu _ (.below hb),hs,rfl,rfl⟩
def Tab(h:Heap)(b:Nat)(vs:List Value):Prop:=∃id,h id=some (.ro b vs)
theorem Tab.sub{b:Nat}{vs:List Value}(ht:Tab h b vs)(hs:Sub h h'):Tab h' b vs:=let ⟨id,hi⟩:=ht;⟨id,hs _ _ hi⟩
theorem Tab.var{b:Nat}{vs:List Value}{name:String}(ht:Tab h b vs)(hn:P.globalNamed name=some b){c:Cx}(hs:Sub h c.h)(g:Good c):c.w.var? P name=some vs.toArray:=by
 obtain⟨id,hi⟩:=ht;obtain⟨_,t,fr,h2⟩:=g.ro id b vs (hs _ _ hi)
 grind [World.var?]
end
def xu(ts:List (Nat×List Value)):Heap:=fun i=>(ts[i]?).map fun p=> .ro p.1 p.2
def cxT(w:World)(ts:List (Nat×List Value)):Cx:=⟨w,fun i=>⟨((ts[i]?).map (·.1)).getD 0,0,none⟩,xu ts⟩
theorem Mw(w:World)(ts:List (Nat×List Value))(b o:Nat):¬owned (cxT w ts) b o:=by
 rintro⟨id,k,h,_,h3⟩
 simp only[cxT,xu,Option.map_eq_some_iff]at h;obtain⟨p,_,rfl⟩:=h;exact h3
theorem UN(w:World)(ts:List (Nat×List Value))(hd:ts.Pairwise fun p q=>p.1≠q.1)(ht:∀p∈ts,∃(t:TypeId) (fr:Nat×Nat),w.heap[p.1]? =some (.cells p.2.toArray t fr)):Good (cxT w ts) where
 fin:=⟨ts.length,fun id h=>by simp[cxT,xu,List.getElem?_eq_none h]⟩
 inj:=fun i j k l h1 h2 hne=>by
  simp only[cxT,xu,Option.map_eq_some_iff]at h1 h2;obtain⟨p,hp,rfl⟩:=h1;obtain⟨q,hq,rfl⟩:=h2;simp only[cxT,hp,hq,Option.map_some,Option.getD_some];obtain⟨hi,rfl⟩:=List.getElem?_eq_some_iff.1 hp
  grind [List.pairwise_iff_getElem,Nat.lt_or_gt_of_ne]
 obj:=fun id cs t h=>by
  simp_all [cxT,xu,Option.map_eq_some_iff]
 spare:=fun id n sz h=>by
  simp_all [cxT,xu,Option.map_eq_some_iff]
 mp:=fun id m h=>by
  simp_all [cxT,xu,Option.map_eq_some_iff]
 keys:=fun id m h=>by
  simp_all [cxT,xu,Option.map_eq_some_iff]
 ro:=fun id b vs h=>by
  simp only[cxT,xu,Option.map_eq_some_iff]at h;obtain⟨p,hp,h⟩:=h;cases h;refine⟨by grind [cxT],ht p ac1⟩
theorem ai.Rc{P:Program}{f:FuncId}{args:List AV}{b:Value}{vs:Array Value}{w:World}{ts:List (Nat×List Value)}(hc:callable P f)(hf:ai P f args (xu ts) fun r _=>r= .v b)(hd:ts.Pairwise fun p q=>p.1≠q.1)
  (ht:∀p∈ts,∃(t:TypeId) (fr:Nat×Nat),w.heap[p.1]? =some (.cells p.2.toArray t fr)) (hv:vs.size=args.length) (hr:∀i (hi:i<args.length),Rep (cx0 w) args[i] (vs.getD i undef)):
  Calls P f vs w fun e w' =>e= .returned b∧Go.RowKit.Below w.heap.size w w' :=by
 have hE:Ext (cx0 w) (cxT w ts):=⟨rfl,rfl,rfl,Nat.le_refl _,fun _ _ _=>rfl,fun _ _ _ _=>rfl,fun _ cs _ fr h=>⟨cs,fr,h,rfl⟩,fun b o _ h=>(Mw w ts b o h).elim,
  fun _ _ _ h=>adU,fun _ _ _ h=>adU,fun _ _ h=>adU,fun _ _ _ h=>adU⟩
 refine((hf (cxT w ts) vs (fun _ _ h=>h) (UN w ts hd ht) hv fun i hi=>(hr i hi).mono hE).calls hc).mono ?_
 rintro e w' ⟨u,rfl,c',x,h',rfl,g',hE,hx,hs,rfl⟩
 rw[hx.bP];exact⟨rfl,hE.os,hE.tape,hE.output,hE.size,fun k hk=>hE.block k hk fun o=>Mw w ts k o⟩
mutual
def strip:AV→AV
 |.sl xs _=> .sl (fU xs) .no
 |.agg xs=> .agg (fU xs)
 |.tup xs=> .tup (fU xs)
 |.v x=> .v x
 |.s l=> .s l
 |.pe x o=> .pe x o
 |.ptr i o=> .ptr i o
 |.oa i o l=> .oa i o l
 |.ifc t x=> .ifc t x
 |.fn f c=> .fn f c
 |.mp i=> .mp i
 |.ob i o l c s=> .ob i o l c s
def fU:List AV→List AV
 | []=>[]
 |x::r=>strip x::fU r
end
theorem fk:∀xs:List AV,(fU xs).length=xs.length
 | []=>rfl
 |x::r=>by simp[fU,fk r]
theorem gz:∀(xs:List AV) (i:Nat) (h1:i<xs.length) (h2:i<(fU xs).length),(fU xs)[i]=strip xs[i]
 |x::r,0,h1,h2=>adg
 |x::r,i+1,h1,h2=>by simpa[fU]using gz r i ac1 (by grind [fU])
theorem wW(x:AV):(strip x).cells=match x with|.agg xs=>fU xs|_=>[strip x]:=by
 cases x<;>simp[strip,AV.cells]
mutual
theorem fC:∀x:AV,Weak x (strip x)
 |.sl xs p=> .deep _ _ p (fk xs).symm (fun i h1 h2=>by
    rw[gz xs i h1 h2,wW];have:=nO xs i h1;cases hx:xs[i]<;>simp[AV.cells,fk])
   (fun i h1 h2 j h3 h4=>by
    have hw:=nO xs i h1;have e:=gz xs i h1 h2;exact hw (fU xs)[i] e j h3 h4)
 |.agg xs=> .agg _ _ (fk xs).symm fun i h1 h2=>afy
 |.tup xs=> .tup _ _ (fk xs).symm fun i h1 h2=>afy
 |.v x=> .refl _
 |.s l=> .refl _
 |.pe x o=> .refl _
 |.ptr i o=> .refl _
 |.oa i o l=> .refl _
 |.ifc t x=> .refl _
 |.fn f c=> .refl _
 |.mp i=> .refl _
 |.ob i o l c s=> .refl _
theorem lJ:∀(xs:List AV) (i:Nat) (h:i<xs.length),Weak xs[i] (strip xs[i])
 |x::r,0,h=>fC x
 |x::r,i+1,h=>lJ r i (by simpa using h)
theorem nO:∀(xs:List AV) (i:Nat) (h:i<xs.length) (y:AV),y=strip xs[i]→∀(j:Nat) (h3:j<xs[i].cells.length) (h4:j<y.cells.length),Weak xs[i].cells[j] y.cells[j]
 |x::r,0,h,y,e,j,h3,h4=>GU x y e j h3 h4
 |x::r,i+1,h,y,e,j,h3,h4=>nO r i (by simpa using h) y e j h3 h4
theorem GU:∀(x y:AV),y=strip x→∀(j:Nat) (h3:j<x.cells.length) (h4:j<y.cells.length),Weak x.cells[j] y.cells[j]
 |.agg xs,y,e,j,h3,h4=>by
  subst e;simp only[strip,AV.cells]at h4⊢;rw[gz xs j h3 h4];exact lJ xs j h3
 |.sl xs p,y,e,j,h3,h4=>by
  subst e;simp only[strip,AV.cells,List.length_singleton]at h3 h4⊢;obtain rfl:j=0:=ac0;exact .deep _ _ p (fk xs).symm (fun i h1 h2=>by
    rw[gz xs i h1 h2,wW];cases hx:xs[i]<;>simp[AV.cells,fk])
   (fun i h1 h2 j h3 h4=>nO xs i h1 _ (gz xs i h1 h2) j h3 h4)
 |.tup xs,y,e,j,h3,h4=>by
  subst e;simp only[strip,AV.cells,List.length_singleton]at h3 h4⊢;obtain rfl:j=0:=ac0;exact .tup _ _ (fk xs).symm fun i h1 h2=>afy
 |.v x,y,e,j,h3,h4=>aec
 |.s l,y,e,j,h3,h4=>aec
 |.pe x o,y,e,j,h3,h4=>aec
 |.ptr i o,y,e,j,h3,h4=>aec
 |.oa i o l,y,e,j,h3,h4=>aec
 |.ifc t x,y,e,j,h3,h4=>aec
 |.fn f c,y,e,j,h3,h4=>aec
 |.mp i,y,e,j,h3,h4=>aec
 |.ob i o l c s,y,e,j,h3,h4=>aec
end
section
variable {P : Program} {U : TypeId → TI} {n : Nat} {ρ : Env} {h0 h h' : Heap} {tb : TypeId} {y v : AV} {xs zs : List AV} {Q : AV → Heap → Prop} {f : FuncId} {args : List AV}
def One(xs:List AV):Prop:=∀x∈xs,bA x=false
theorem ot{x:AV}(h:bA x=false):x.cells= [x]:=by cases x<;>first|rfl|(cases h)
theorem One.sized(h:One xs):Sized 1 xs:=fun z hz=>by rw[ot (h z hz)];rfl
theorem One.map{α:Type}{g:α→AV}(hg:∀a,bA (g a)=false)(l:List α):One (l.map g):=fun x hx=>by
 grind
def Fc(tb:TypeId)(h:Heap)(y:AV)(xs:List AV):Prop:=
 (∃q,y= .sl xs q)∨∃id off cs,y= .oa id off xs.length∧h id=some (.obj cs tb)∧off+xs.length≤cs.length∧(cs.drop off).take xs.length=xs
theorem Fc.sl(xs:List AV)(q:Perm):Fc tb h (.sl xs q) xs:=.inl ⟨q,rfl⟩
theorem Fc.len(hb:Fc tb h y xs)(e:TypeId)(k:AV→Prop):xl y k (.slice e)=k (.i xs.length):=by
 exact aib
def AtP(U:TypeId→TI)(tb:TypeId)(h:Heap)(p x:AV):Prop:=∀k:AV→Prop,nI U h tb p k=k x
theorem Fc.idx(hb:Fc tb h y xs)(ho:One xs){m:Int}{x:IntKind}{K:AV→Prop}(j:Nat)(hm:m=j)(hj:j<xs.length)(hz:(U tb).sz=1)(ha:(U tb).k.agg=false)
  (hk:∀p,AtP U tb h p xs[j]→K p):o7 U y (.v (.int x m)) K (.slice tb):=by
 subst hm;have h1:=ho xs[j] ac7;rcases hb with⟨q,rfl⟩|⟨id,off,cs,rfl,g1,g2,g3⟩
 ·refine(u6 ..).mpr ⟨ac0,?_⟩
  refine fD.at j hj (by grind [ot]) ?_
  refine hk _ fun k=>?_
  simp_all [nI,KU,ot,List.length_cons,List.length_nil,Nat.zero_add,and_self,if_true]
 ·refine(AU ..).mpr ⟨ac0,ac0,ac0,?_⟩
  refine hk _ fun k=>?_
  have e1:cs[off+j]? =some xs[j]:=by
   grind
  simp only[nI,g1,dF,Cr,hz,Nat.mul_one,Int.toNat_natCast,Ef,ha,Br,e1];simp
def WrA(tb:TypeId)(h0 h:Heap)(y:AV)(xs:List AV):Prop:=
 Sub h0 h∧((xs= []∧y= .sl [] .full)∨∃id cs,h0 id=none∧y= .oa id 0 xs.length∧h id=some (.obj cs tb)∧xs.length≤cs.length∧cs.take xs.length=xs)
theorem WrA.nil(hs:Sub h0 h):WrA tb h0 h (.sl [] .full) []:=⟨hs,.inl ⟨rfl,rfl⟩⟩
theorem WrA.seq(hw:WrA tb h0 h y xs):Fc tb h y xs:=by
 obtain⟨_,⟨rfl,rfl⟩|⟨id,cs,_,rfl,h1,h2,h3⟩⟩:=hw
 ·exact afH
 ·exact .inr ⟨id,0,cs,rfl,h1,ac0,ac1⟩
theorem WrA.sub(hw:WrA tb h0 h y xs)(hs:Sub h h'):WrA tb h0 h' y xs:=by
 obtain⟨h1,hw|⟨id,cs,a,e,b,c,d⟩⟩:=hw
 ·exact⟨h1.trans hs,.inl hw⟩
 ·exact⟨h1.trans hs,.inr ⟨id,cs,a,e,hs _ _ b,c,d⟩⟩
theorem WrA.base(hw:WrA tb h0 h y xs){id:Nat}(hid:h id=none)(b:Option Blk):WrA tb (upd h0 id b) (upd h id b) y xs:=by
 obtain⟨h1,hw⟩:=hw;have h2:Sub (upd h0 id b) (upd h id b):=fun j k hj=>by
  by_cases e:j=id
  ·grind [ah]
  ·rw[ag _ _ e]at hj⊢;exact h1 _ _ hj
 rcases hw with hw|⟨i,cs,a,e,c,d⟩
 ·exact⟨h2,.inl hw⟩
 ·have hne:i≠id:=fun hh=>by subst hh;rw[hid]at c;cases c
  exact⟨h2,.inr ⟨i,cs,adD,e,adD,d⟩⟩
theorem WrA.less(hw:WrA tb h' h y xs)(hs:Sub h0 h'):WrA tb h0 h y xs:=by
 obtain⟨h1,hw|⟨i,cs,a,e,c,d⟩⟩:=hw
 ·exact⟨hs.trans h1,.inl hw⟩
 ·exact⟨hs.trans h1,.inr ⟨i,cs,hs.none a,e,c,d⟩⟩
theorem WrA.len(hw:WrA tb h0 h y xs)(e:TypeId)(k:AV→Prop):xl y k (.slice e)=k (.i xs.length):=hw.seq.len e k
theorem WrA.idx(hb:WrA tb h0 h y xs)(ho:One xs){m:Int}{x:IntKind}{K:AV→Prop}(j:Nat)(hm:m=j)(hj:j<xs.length)(hz:(U tb).sz=1)(ha:(U tb).k.agg=false)
  (hk:∀p,AtP U tb h p xs[j]→K p):o7 U y (.v (.int x m)) K (.slice tb):=hb.seq.idx ho j hm hj hz ha hk
theorem WrA.cut(hw:WrA tb h0 h y xs){hi:Operand}{m:Int}{x:IntKind}{K:AV→Prop}(j:Nat)(hm:ev ρ hi=some (.v (.int x m)))(hj:m=j)(hl:j≤xs.length)(hz:(U tb).sz=1)
  (hk:∀z,WrA tb h0 h z (xs.take j)→K z):gM U ρ y none (some hi) none K (.slice tb):=by
 subst hj;have hs:=hw.1;obtain⟨_,⟨rfl,rfl⟩|⟨id,cs,h1,rfl,h2,h3,h4⟩⟩:=hw
 ·rw[rm,fK,hm]
  refine⟨ac0,?_⟩;have:j=0:=ac1;subst this;refine⟨ac0,ac7,?_⟩;exact hk _ (.nil hs)
 ·rw[rO]
  refine⟨ac0,fun _=>hz,?_⟩
  simp only[mB,fK,hm,dF,nE];refine⟨ac0,ac0,ac0,?_⟩;have e:(xs.take j).length=j:=ac1;have:=hk (.oa id 0 (xs.take j).length) ⟨hs,.inr ⟨id,cs,h1,rfl,h2,ac0,ac1⟩⟩;rw[e]at this;simpa using this
theorem WrA.app(hw:WrA tb h0 h y xs)(ho:One xs)(hoz:One zs)(hz:(U tb).sz=1)(hb:(U tb).bytes≠0)(hf:fit (U tb).zero 1)(hn:bA (U tb).zero=false)(hsrc:∀k:List AV→Prop,k zs→iD U tb h v k)
  (hlen:(xs.length+zs.length)*(U tb).bytes≤140737488355328) (hk:∀y' h',WrA tb h0 h' y' (xs++zs)→Q y' h'):apK U h y v Q (.slice tb):=by
 have hs:=hw.1;have one:Sized (U tb).sz zs:=by rw[hz];exact hoz.sized
 obtain⟨_,⟨rfl,rfl⟩|⟨id,cs,h1,rfl,h2,h3,h4⟩⟩:=hw
 ·refine(qk ..).mpr ⟨ac0,hb,hsrc _ ⟨by simp[Sized],one,ac0,fun hn' =>?_,fun hn' =>?_⟩⟩
  ·subst hn'
   exact hk _ _ (.nil hs)
  ·refine .oa hz hf hn hoz fun id k hid=>?_
   refine hk _ _ ⟨hs.new hid _,.inr ⟨id,_,hs.none hid,?_,ah ..,?_,?_⟩⟩
   ·simp
   ·simp
   ·simp
 ·refine⟨ac0,hb,hz,hsrc _ ⟨ac1,hoz,ac0,?_⟩⟩
  rw[h2];refine⟨ac0,?_,hf,hn,fun hle=>?_,fun id' k hid=>?_⟩
  ·rw[List.drop_zero,h4];exact ho
  ·have hsub:Sub h0 (upd h id (some (.obj (over cs (0+xs.length) zs) tb))):=fun j b hj=>by
    by_cases e:j=id
    ·grind
    ·rw[ag _ _ e];exact hs _ _ hj
   have ho' :(over cs (0+xs.length) zs).length=cs.length:=iu ac0;refine hk _ _ ⟨hsub,.inr ⟨id,_,h1,ac7,ah ..,ac1,?_⟩⟩;rw[over,Nat.zero_add,h4,acU,List.take_append_of_le_length ac7]
   grind
  ·refine hk _ _ ⟨hs.new hid _,.inr ⟨id',_,hs.none hid,ac7,ah ..,?_,?_⟩⟩
   ·grind
   grind
end
end Go.Ab
namespace Go.Bf
open Go Go.Ab
abbrev Txt:=List UInt8
structure qe where
 cat:Int
 name:Txt
 must:Bool
structure br where
 kind:Int
 n:Int
 s:Txt
structure bO where
 attr:qe
 op:Int
 val:br
structure aP where
 op:Int
 val:br
 attr:qe
structure cB where
 on:Int
 kind:Int
 arg:Txt
abbrev ga:=List (List (List bO))
structure cQ where
 id:Txt
 deny:Bool
 tgt:ga
 cond:List aP
 obls:List cB
inductive bH where
 |mk (id:Txt) (set:Bool) (alg:Int) (tgt:ga) (rules:List cQ) (kids:List bH) (obls:List cB)
def CW(a:qe):AV:=.agg [.i a.cat,.s a.name,.b a.must]
def aQ(v:br):AV:=.agg [.i v.kind,.i v.n,.s v.s]
def dM(m:bO):AV:=.agg [.i m.attr.cat,.s m.attr.name,.b m.attr.must,.i m.op,.i m.val.kind,.i m.val.n,.s m.val.s]
def dI(m:aP):AV:=.agg [.i m.op,.i m.val.kind,.i m.val.n,.s m.val.s,.i m.attr.cat,.s m.attr.name,.b m.attr.must]
def jN(b:Bool):AV:=.b b
def bt(o:cB):AV:=.agg [.i o.on,.i o.kind,.s o.arg]
def iU(l:List bO):AV:=.sl (l.map dM) .no
def cU(l:List (List bO)):AV:=.sl (l.map iU) .no
def aV(t:ga):AV:=.sl (t.map cU) .no
def fq(l:List aP):AV:=.sl (l.map dI) .no
def aA(l:List cB):AV:=.sl (l.map bt) .no
def aC(r:cQ):AV:=.agg [.s r.id,.b r.deny,aV r.tgt,fq r.cond,aA r.obls]
mutual
def aM:bH→AV
 |.mk id set alg tgt rules kids obls=> .agg [.s id,.b set,.i alg,aV tgt,.sl (rules.map aC) .no,.sl (fG kids) .no,aA obls]
def fG:List bH→List AV
 | []=>[]
 |k::r=>aM k::fG r
end
theorem aX:∀l:List bH,fG l=l.map aM
 | []=>rfl
 |k::r=>by simp[fG,aX r]
def ltr(c:UInt8):Bool:=decide (97≤(c.toNat:Int)) && decide ((c.toNat:Int)≤122)
def dgt(c:UInt8):Bool:=decide (48≤(c.toNat:Int)) && decide ((c.toNat:Int)≤57)
def th(c:UInt8)(i:Nat):Bool:=ltr c||(decide (i≠0) && (dgt c||(c.toNat:Int)==95))
def vR(l:Txt):Bool:=l.zipIdx.all fun p=>th p.1 p.2
def bl(l:Txt):Bool:=vR l && decide (1≤l.length) && decide (l.length≤16)
def qo(a:qe):Bool:=decide (1≤a.cat) && decide (a.cat≤4) && bl a.name
def bz(v:br):Bool:=
 if v.kind=1 then(v.n==0||v.n==1) && v.s== []
 else if v.kind=2 then v.s== []
 else if v.kind=3 then v.n==0 && decide (v.s.length≤64)
 else if v.kind=4 then decide (0≤v.n) && decide (v.n≤1099511627776) && v.s== []
 else if v.kind=5 then v.n==0 && bl v.s
 else false
def kP(m:bO):Bool:=qo m.attr && decide (1≤m.op) && decide (m.op≤3) && bz m.val
def j8(n:Nat):Int:=if n=0 then 1 else if n>8 then 6 else 0
def ie{α:Type}(f:α→Int):List α→Int
 | []=>0
 |x::r=>if f x=0 then ie f r else f x
def xg(l:List bO):Int:=if j8 l.length=0 then(if l.all kP then 0 else 1)else j8 l.length
def xh(l:List (List bO)):Int:=if j8 l.length=0 then ie xg l else j8 l.length
def lG(t:ga):Int:=if t.length>8 then 6 else ie xh t
def iF(op:Int):Option (List Bool):=
 if op=1∨op=2 then some []
 else if op=3∨op=4 then some [true]
 else if op=5 then some [true,false]
 else if op=11 then some [false]
 else if 6≤op∧op≤13 then some [false,false]
 else none
def zeroV(v:br):Bool:=v.kind==0 && (v.n==0 && v.s== [])
def zeroAt(a:qe):Bool:=a.cat==0 && (a.name== [] && a.must==false)
def jO(n:aP):Bool:=
 if n.op=1 then bz n.val && zeroAt n.attr
 else if n.op=2 then qo n.attr && zeroV n.val
 else zeroV n.val && zeroAt n.attr
def iE(st:List Bool)(n:aP):Option (List Bool):=match iF n.op with
 |none=>none
 |some w=>if jO n=true∧w.length≤st.length∧st.drop (st.length - w.length)=w then some (st.take (st.length - w.length)++ [n.op==2])else none
def fT(st:List Bool):List aP→Option (List Bool)
 | []=>some st
 |n::r=>match iE st n with
  |none=>none
  |some st' =>fT st' r
def j7(l:List aP):Int:=if l.length>32 then 6 else match fT [] l with
 |none=>1
 |some st=>if l= []∨st= [false]then 0 else 1
def qS(o:cB):Bool:=decide (1≤o.on) && decide (o.on≤2) && decide (1≤o.kind) && decide (o.kind≤4) && bl o.arg
def ij(l:List cB):Int:=if l.length>8 then 6 else if l.all qS then 0 else 1
structure eu where
 met:List Txt
 rules:Nat
inductive Went where
 |bad (e:Int)
 |ok (m:eu)
def jg(m:eu)(s:Txt):Option eu:=if s∉m.met∧bl s=true then some ⟨m.met++ [s],m.rules⟩else none
def Went.err:Went→Int
 |.bad e=>e
 |.ok _=>0
def need(e:Int)(w:Went):Went:=if e=0 then w else .bad e
def gu(m:eu)(r:cQ):Went:=match jg m r.id with
 |none=> .bad 1
 |some m=>if m.rules+1>64 then .bad 6 else need (lG r.tgt) (need (j7 r.cond) (need (ij r.obls) (.ok ⟨m.met,m.rules+1⟩)))
def fA(m:eu):List cQ→Went
 | []=> .ok m
 |r::l=>match gu m r with
  |.bad e=> .bad e
  |.ok m=>fA m l
def fj(m:eu)(id:Txt)(set:Bool)(alg:Int)(tgt:ga)(nr nk:Nat)(obls:List cB):Went:=match jg m id with
 |none=> .bad 1
 |some m=>if alg<1∨alg>6 then .bad 1
  else if set=true∧nr>0∨set=false∧(nk>0∨alg=4)then .bad 1
  else need (lG tgt) (need (ij obls) (if nr>16∨nk>16 then .bad 6 else .ok m))
mutual
def kG(m:eu)(d:Nat):bH→Went
 |.mk id set alg tgt rules kids obls=>
  if d>4 then .bad 6 else match fj m id set alg tgt rules.length kids.length obls with
  |.bad e=> .bad e
  |.ok m=>match fA m rules with
   |.bad e=> .bad e
   |.ok m=>iR m (d+1) kids
def iR(m:eu)(d:Nat):List bH→Went
 | []=> .ok m
 |k::r=>match kG m d k with
  |.bad e=> .bad e
  |.ok m=>iR m d r
end
def gy(p:bH):Int:=(kG ⟨[],0⟩ 1 p).err
def FZ(n:Nat):UInt8:=if n<10 then UInt8.ofNat (48+n)else UInt8.ofNat (87+n)
def tQ(c:UInt8):Bool:=decide ((c.toNat:Int)<32)||decide (126<(c.toNat:Int))||(c.toNat:Int)==34||(c.toNat:Int)==92
def nV(c:UInt8):Txt:=if tQ c then [92,FZ (c.toNat / 16),FZ (c.toNat % 16)]else [c]
def nW(l:Txt):Txt:=[34]++(l.map nV).flatten++ [34]
def j6(v:br):Txt:=
 if v.kind=1 then Lib.formatBool (v.n==1)else if v.kind=4 then [64]++Lib.itoa v.n else if v.kind=5 then [35]++v.s else if v.kind=3 then nW v.s else Lib.itoa v.n
end Go.Bf
namespace Go.Ab
open Go
def hm2(i:Nat)(a:Blk)(j:Nat)(b:Blk):Heap:=upd (hm1 i a) j (some b)
theorem Sub.hm2{h:Heap}{i j:Nat}{a b:Blk}(h1:h i=some a)(h2:h j=some b):Sub (hm2 i a j b) h:=fun k c hk=>by
 unfold Ab.hm2 at hk
 by_cases e:k=j
 ·grind [ah]
 ·rw[ag _ _ e]at hk;exact Sub.hm1 h1 k c hk
theorem rH(i:Nat)(a:Blk)(j:Nat)(b:Blk):hm2 i a j b j=some b:=ah ..
theorem rG{i:Nat}(a:Blk){j:Nat}(b:Blk)(h:i≠j):hm2 i a j b i=some a:=by
 simp_all [hm2,ag,gh]
theorem aH{h:Heap}{i j:Nat}{b:Blk}(e:upd h i (some b) j=none):j≠i:=fun hh=>by
 subst hh;rw[ah]at e;cases e
theorem Sub.put{h g:Heap}(hs:Sub h g){i:Nat}(hi:h i=Option.none)(x:Option Blk):Sub h (Ab.upd g i x):=fun k c hk=>by
 by_cases e:k=i
 ·grind
 ·rw[ag _ _ e];exact hs k c hk
theorem Sub.both{h g:Heap}(hs:Sub h g)(i:Nat)(x:Option Blk):Sub (Ab.upd h i x) (Ab.upd g i x):=fun k c hk=>by
 by_cases e:k=i
 ·grind [ah]
 ·rw[ag _ _ e]at hk⊢;exact hs k c hk
theorem Acc.put{U:TypeId→TI}{e:TypeId}{h h' :Heap}{y:AV}{xs:List AV}(ha:Acc U e h h' y xs){id:Nat}(hid:h id=Option.none){cs:List AV}{t:TypeId}(hob:h' id=some (.obj cs t))(x:Option Blk):Acc U e h (Ab.upd h' id x) y xs:=by
 obtain⟨h1,rfl|⟨k,i1,rfl,i2⟩⟩:=ha
 ·exact⟨h1.put hid x,.inl rfl⟩
 ·refine⟨h1.put hid x,.inr ⟨k,i1,rfl,?_⟩⟩
  grind [ag]
theorem base_start(G:Heap)(id:Nat)(x:Option Blk):Sub (upd G id Option.none) (upd G id x):=fun k c hk=>by
 grind [ah,ag]
theorem fo{G H:Heap}{id:Nat}{b:Blk}(hs:Sub (upd G id Option.none) H)(hb:H id=some b):Sub (upd G id (some b)) H:=fun k c hk=>by
 by_cases e:k=id
 ·grind [ah]
 ·rw[ag _ _ e]at hk;exact hs k c adD
theorem BF(xs:List AV)(q:Perm)(a b:AV):Weak (.tup [.sl xs q,a,b]) (.tup [.sl xs .no,a,b]):=.tup _ _ rfl fun i h1 h2=>by
 rcases i with _|_|_|i
 ·exact afH
 ·exact ael
 ·exact ael
 grind
theorem WP.MX{P:Program}{U:TypeId→TI}{n:Nat}(hU:∀t,aO P U t)(hm:P.follows .mixedOrders=true){c rest:Code}{ρ:Env}{h:Heap}{K:Exit→Env→Heap→Prop}(l:Nat)(J:Nat→Env→Heap→Prop)(hf:findLabel c l=some (.seq .skip rest))
  (pass:∀m ρ h,J m ρ h→WP P n rest ρ h (KJump l (fun ρ' h' =>∃m',m' <m∧J m' ρ' h') K))
  (first:(∀m ρ h,J m ρ h→WP P n rest ρ h (KJump l (fun ρ h=>∃m,J m ρ h) K))→WP P n c ρ h (KJump l (fun ρ h=>∃m,J m ρ h) K)):WP P n (.scope c) ρ h K:=
 WP.scope l J hf (first fun m ρ h hJ=>(pass m ρ h hJ).weaken fun e ρ h hk=>by
  cases e with
  |goto l' =>obtain⟨h1,m',_,h2⟩:=hk;exact⟨h1,m',h2⟩
  |_=>exact hk) fun m ρ h hJ=>WP.seq (dL hU hm .skip ρ h _ (pass m ρ h hJ))
end Go.Ab
namespace Go.Ab
attribute [go_sem] Int.natCast_zero Int.ofNat_zero Int.natCast_one Int.cast_ofNat_Int bne_self_eq_false beq_self_eq_true Bool.not_true Bool.not_false
attribute [go_sem] Nat.reduceLT Nat.reduceEqDiff Nat.reduceAdd Nat.reduceLeDiff Nat.reduceMul Nat.reduceSub Int.reduceBEq Int.reduceBNe
attribute [go_sem ↓] reduceIte
end Go.Ab
namespace Go.Proofs.YtfdgemhnlennbaaGreatDoor
open Go
def zk:List Value:=Lib.pow10Tab.map fun z=>Value.int .u64 z
end Go.Proofs.YtfdgemhnlennbaaGreatDoor
namespace Go.Proofs.YtfdgemhnlennbaaGreatDoor
open Go Go.Ab Go.Bf
abbrev BL(h:Heap):Prop:=Tab h 3 zk
theorem nF(n:Int)(h:Heap)(hn: -9223372036854775808≤n∧n≤9223372036854775807)(ht:BL h):ai Tryz.prog 136 [.i n] h fun r h' =>r= .s (Lib.itoa n)∧h' =h:=by
 refine .lib ⟨_,Tryz.func136,adg,rfl⟩ fun c vs hs g h1 h2=>?_
 obtain ⟨v,rfl⟩:∃v,vs= #[v]:=Array.size_eq_one_iff.1 h1;have e:v= .int .i64 n:=(h2 0 ac7).bP;subst e;have hv := ht.var (P := Tryz.prog) (name := "internal/strconv.uint64pow10") adg hs g;refine (Tryz.strconv_Itoa n hn.1 hn.2 c.w (by unfold Lib.TabIs; rw [hv]; rfl)).mono ?_
 rintro e w' ⟨rfl,k,os,rfl⟩
 refine⟨⟨_,rfl,fun c' _=> .s _ ?_⟩,rfl,rfl,rfl,?_,fun k hk=>?_⟩
 ·grind [Lib.itoa_length_le,Nat,lim]
 ·simp
 ·show(_++os)[k]? =_
  simp_all [Array.getElem?_append,if_pos]
theorem Ly(b:Bool)(h:Heap):ai Tryz.prog 135 [.b b] h fun r h' =>r= .s (Lib.formatBool b)∧h' =h:=by
 refine .lib ⟨_,Tryz.func135,adg,rfl⟩ fun c vs hs g h1 h2=>?_
 obtain⟨v,rfl⟩:∃v,vs= #[v]:=Array.size_eq_one_iff.1 h1;have e:v= .bool b:=(h2 0 ac7).bP;subst e;refine(Tryz.strconv_FormatBool b c.w).mono ?_
 rintro e w' ⟨rfl,rfl⟩
 exact⟨⟨_,rfl,fun c' _=> .s _ (by cases b<;>decide)⟩,.refl _ _⟩
end Go.Proofs.YtfdgemhnlennbaaGreatDoor
namespace Go.Bf
open Go Go.Ab
theorem vK{α:Type}(l:List α)(i:Nat)(h:i<l.length):(l.take (i+1)).zipIdx=(l.take i).zipIdx++ [(l[i],i)]:=by
 grind [List.take_succ_eq_append_getElem,Nat.min_eq_left,Nat.le_of_lt]
theorem Fm(l:Txt)(i:Nat)(h:i<l.length):vR (l.take (i+1))=(vR (l.take i) && th l[i] i):=by
 grind [vR,vK]
theorem IS(l:Txt)(i:Nat)(h:i<l.length)(hb:th l[i] i=false):vR l=false:=by
 rw[vR,List.all_eq_false];exact⟨(l[i],i),ac1,ac1⟩
theorem N4(c:UInt8):
  (decide (97≤(c.toNat:Int))=true∧decide ((c.toNat:Int)≤122)=true∧decide (48≤(c.toNat:Int))=true∧decide ((c.toNat:Int)≤57)=false∧((c.toNat:Int)==95)=false)∨
  (decide (97≤(c.toNat:Int))=false∧decide ((c.toNat:Int)≤122)=true∧decide (48≤(c.toNat:Int))=true∧decide ((c.toNat:Int)≤57)=true∧((c.toNat:Int)==95)=false)∨
  (decide (97≤(c.toNat:Int))=false∧decide ((c.toNat:Int)≤122)=true∧decide (48≤(c.toNat:Int))=true∧decide ((c.toNat:Int)≤57)=false∧((c.toNat:Int)==95)=true)∨
  (decide (97≤(c.toNat:Int))=false∧decide ((c.toNat:Int)≤122)=true∧decide (48≤(c.toNat:Int))=false∧decide ((c.toNat:Int)≤57)=true∧((c.toNat:Int)==95)=false)∨
  (decide (97≤(c.toNat:Int))=false∧decide ((c.toNat:Int)≤122)=true∧decide (48≤(c.toNat:Int))=true∧decide ((c.toNat:Int)≤57)=false∧((c.toNat:Int)==95)=false)∨
  (decide (97≤(c.toNat:Int))=true∧decide ((c.toNat:Int)≤122)=false∧decide (48≤(c.toNat:Int))=true∧decide ((c.toNat:Int)≤57)=false∧((c.toNat:Int)==95)=false):=by
 simp only[decide_eq_true_eq,decide_eq_false_iff_not,beq_iff_eq,beq_eq_false_iff_ne,ne_eq];omega
theorem vZ{α:Type}{f:α→Int}{l:List α}{i:Nat}(h:i<l.length)(h0:ie f (l.take i)=0)(h1:f l[i]=0):ie f (l.take (i+1))=0:=by
 rw[List.take_succ_eq_append_getElem h];generalize l.take i=a at h0
 induction a with
 |nil=>grind [ie]
 |cons x r ih=>
  simp only[ie]at h0;split at h0
  ·simp_all [List.cons_append,ie,if_true]
  omega
theorem AQ{α:Type}{f:α→Int}{l:List α}{i:Nat}(h:i<l.length)(h0:ie f (l.take i)=0)(h1:f l[i]≠0):ie f l=f l[i]:=by
 induction l generalizing i with
 |nil=>cases h
 |cons x r ih=>
  cases i with
  |zero=>grind [ie]
  |succ i=>
   simp only[List.take_succ_cons,ie]at h0;split at h0
   ·rename_i hx
    simp only[ie,hx,if_true,List.getElem_cons_succ]
    grind
   omega
theorem DZ{e x:Int}{w:Went}(h:need e w= .bad x)(hw:w= .bad x→x≠0):x≠0:=by
 grind [need]
theorem Bq{m:eu}{r:cQ}{e:Int}(h:gu m r= .bad e):e≠0:=by
 grind [gu,DZ]
theorem AT{m:eu}{id:Txt}{set:Bool}{alg:Int}{tgt:ga}{nr nk:Nat}{obls:List cB}{e:Int}(h:fj m id set alg tgt nr nk obls= .bad e):e≠0:=by
 grind [fj,DZ]
theorem pL(m:eu):∀(l:List cQ) (i:Nat),fA m l=(match fA m (l.take i)with
  |.bad e=> .bad e
  |.ok m1=>fA m1 (l.drop i))
 | [],i=>by simp[fA]
 |r::l,0=>adg
 |r::l,i+1=>by
  simp only[List.take_succ_cons,List.drop_succ_cons,fA];cases gu m r with
  |bad e=>rfl
  |ok m1=>simp only;exact pL m1 l i
theorem wR{m m1:eu}{l:List cQ}{i:Nat}(hi:i<l.length)(h:fA m (l.take i)= .ok m1):fA m (l.take (i+1))=gu m1 l[i]:=by
 rw[pL m _ i,List.take_take,Nat.min_eq_left ac0,h,List.take_succ_eq_append_getElem hi,List.drop_append_of_le_length ac1,List.drop_of_length_le ac1]
 grind [fA,gu]
theorem EB{m m1:eu}{l:List cQ}{i:Nat}{e:Int}(hi:i<l.length)(h:fA m (l.take i)= .ok m1)(hr:gu m1 l[i]= .bad e):fA m l= .bad e:=by
 rw[pL m l (i+1),wR hi h,hr]
theorem qN(m:eu)(d:Nat):∀(l:List bH) (i:Nat),iR m d l=(match iR m d (l.take i)with
  |.bad e=> .bad e
  |.ok m1=>iR m1 d (l.drop i))
 | [],i=>by simp[iR]
 |r::l,0=>adg
 |r::l,i+1=>by
  simp only[List.take_succ_cons,List.drop_succ_cons,iR];cases kG m d r with
  |bad e=>rfl
  |ok m1=>simp only;exact qN m1 d l i
theorem yK{m m1:eu}{d:Nat}{l:List bH}{i:Nat}(hi:i<l.length)(h:iR m d (l.take i)= .ok m1):iR m d (l.take (i+1))=kG m1 d l[i]:=by
 rw[qN m d _ i,List.take_take,Nat.min_eq_left ac0,h,List.take_succ_eq_append_getElem hi,List.drop_append_of_le_length ac1,List.drop_of_length_le ac1]
 grind [iR,kG]
theorem F7{m m1:eu}{d:Nat}{l:List bH}{i:Nat}{e:Int}(hi:i<l.length)(h:iR m d (l.take i)= .ok m1)(hr:kG m1 d l[i]= .bad e):iR m d l= .bad e:=by
 rw[qN m d l (i+1),yK hi h,hr]
end Go.Bf
namespace Go.Proofs.YtfdgemhnlennbaaGreatDoor
open Go Go.Ab Go.Bf
theorem acZ {f:FuncId} {fn:Func} {c:Code} {args:List AV} {h:Heap} {Q:AV→Heap→Prop} (hf:Tryz.prog.funcs[f]? =some fn) (m:Nat) (rs:List ResultVar) (hk:(∀x∈args,wfA x)→bF Tryz.prog U m c (yh args) h (vP U rs Q)) (hb:fn.body=some c:=by exact rfl) (hn:(fn.name=="runtime.NumGoroutine")=false:=by kernel_rfl) (h1:fn.ntmps=m:=by exact rfl) (h2:fn.results.toList=rs:=by exact rfl) (hl:args.length≤m:=by exact Nat.le_of_ble_eq_true rfl):ai Tryz.prog f args h Q:=ai.body hU hm hf hb hn m h1 rs h2 hl hk
theorem pn(l:Txt)(h:Heap):ai Tryz.prog 72 [.s l] h fun r h' =>r= .b (bl l)∧h' =h:=by
 refine acZ Tryz.func72 49 [.tmp 2] fun hwf=>?_
 simp only[go_sem];refine .intro (fun m ρ h' =>h' =h∧∃i:Nat,i≤l.length∧m=l.length - i∧vR (l.take i)=true∧lk ρ 0=some (.s l)∧lk ρ 8=some (.i l.length)∧lk ρ 9=some (.i i)) l.length ?_ ?_
 ·refine⟨rfl,0,ac0,rfl,rfl,?_,?_,?_⟩<;>simp only[go_sem]
 ·rintro m ρ h' ⟨rfl,i,hi,rfl,hc,r0,r8,r9⟩
  simp only[go_sem,r8,r9];refine .intro (fun e=>?_) (fun e=>?_)
  ·have hlt:i<l.length:=acX e
   have w1:IntKind.i64.wrap ((i:Int)+1)=((i+1:Nat):Int):=by rw[bh _ (by have:=hwf (.s l) ac7;simp only[wfA,wf1,lim]at this;omega)];omega
   have w0:IntKind.i64.wrap (0+1)=1:=rfl;have hb:=IS l i hlt;have hg:=Fm l i hlt;rw[hc]at hg;have hcl:=N4 l[i];have h255:=l[i].toNat_lt;simp only[go_sem,r0,r9];refine .at i hlt ?_;generalize hcc:l[i]=c at hb hg hcl h255⊢
   by_cases hi0:i=0
   ·subst hi0
    rcases hcl with⟨a1,a2,a3,a4,a5⟩|⟨a1,a2,a3,a4,a5⟩|⟨a1,a2,a3,a4,a5⟩|⟨a1,a2,a3,a4,a5⟩|⟨a1,a2,a3,a4,a5⟩|⟨a1,a2,a3,a4,a5⟩
    ·simp only[go_sem,r9,a1,a2,a3,a4,a5,w0]
     refine⟨_,?_,rfl,0+1,ac0,rfl,by simp[hg,th,ltr,a1,a2],?_,?_,?_⟩
     ·omega
     all_goals simp only[go_sem,r0,r8]
    all_goals
     simp only[go_sem,a1,a2,a3,a4,a5];exact .same (.refl _) ⟨by simp[bl,hb (by simp[th,ltr,a1,a2]),ax],rfl⟩
   ·have hin:((i:Int)==0)=false:=by simp;omega
    rcases hcl with⟨a1,a2,a3,a4,a5⟩|⟨a1,a2,a3,a4,a5⟩|⟨a1,a2,a3,a4,a5⟩|⟨a1,a2,a3,a4,a5⟩|⟨a1,a2,a3,a4,a5⟩|⟨a1,a2,a3,a4,a5⟩
    ·simp only[go_sem,r9,a1,a2,a3,a4,a5,w1]
     exact ahR
    ·simp only[go_sem,r9,a1,a3,a4,w1,hin]
     exact ahR
    ·simp only[go_sem,r9,a1,a3,a4,a5,w1,hin]
     exact ahR
    ·simp only[go_sem,a1,a3,a5,hin]
     exact .same (.refl _) ⟨aeH,rfl⟩
    ·simp only[go_sem,a1,a3,a4,a5,hin]
     exact .same (.refl _) ⟨aeH,rfl⟩
    ·simp only[go_sem,a1,a2,a3,a4,a5,hin]
     exact .same (.refl _) ⟨aeH,rfl⟩
  ·have hge:i=l.length:=by have:=acT e;omega
   subst hge;rw[List.take_length]at hc
   by_cases h0:l= []
   ·subst h0
    have b0:((([]:Txt)== [])=true):=rfl;simp only[go_sem,r0,b0];exact ac9
   ·have b0:(l== [])=false:=by simpa using h0
    have hp:1≤l.length:=List.length_pos_iff.2 h0;simp only[go_sem,r0,b0];exact .same (.refl _) ⟨by simp[bl,hc,ax,hp];omega,rfl⟩
theorem Hi(a:qe)(h:Heap):ai Tryz.prog 313 [CW a] h fun r h' =>r= .b (qo a)∧h' =h:=by
 refine acZ Tryz.func313 16 [.tmp 2] fun hwf=>?_
 simp only[go_sem,CW];intro id hid;cases d1:decide (1≤a.cat)
 ·simp only[go_sem,d1]
  exact aiu
 cases d2:decide (a.cat≤4)
 ·simp only[go_sem,d1,d2]
  exact aiu
 simp only[go_sem,d1,d2];refine(pn _ _).pthen ?_;simp only[go_sem];exact aiu
theorem fR(v:br)(h:Heap):ai Tryz.prog 75 [aQ v] h fun r h' =>r= .b (bz v)∧h' =h:=by
 refine acZ Tryz.func75 61 [.tmp 2] fun hwf=>?_
 simp only[go_sem,aQ];intro id hid;cases k1:(v.kind==1)
 case true=>
  have e1:v.kind=1:=ac1;cases d1:(v.n==0)<;>cases d2:(v.n==1)
  ·simp only[go_sem,k1,d1,d2]
   exact .mk _ (.refl _) (.aj hid) ⟨agp,rfl⟩
  all_goals
   simp only[go_sem,k1,d1,d2];exact .mk _ (.refl _) (.aj hid) ⟨agp,rfl⟩
 have n1:v.kind≠1:=ac1;cases k2:(v.kind==2)
 case true=>
  have e1:v.kind=2:=ac1;simp only[go_sem,k1,k2];exact .mk _ (.refl _) (.aj hid) ⟨agp,rfl⟩
 have n2:v.kind≠2:=ac1;cases k3:(v.kind==3)
 case true=>
  have e1:v.kind=3:=ac1;cases d1:(v.n==0)
  all_goals
   simp only[go_sem,k1,k2,k3,d1];exact .mk _ (.refl _) (.aj hid) ⟨by simp[bz,e1,d1,ax]<;>omega,rfl⟩
 have n3:v.kind≠3:=ac1;cases k4:(v.kind==4)
 case true=>
  have e1:v.kind=4:=ac1;cases d1:decide (0≤v.n)<;>cases d2:decide (v.n≤1099511627776)
  all_goals
   simp only[go_sem,k1,k2,k3,k4,d1,d2];exact .mk _ (.refl _) (.aj hid) ⟨agp,rfl⟩
 have n4:v.kind≠4:=ac1;cases k5:(v.kind==5)
 case true=>
  have e1:v.kind=5:=ac1;cases d1:(v.n==0)
  ·simp only[go_sem,k1,k2,k3,k4,k5,d1]
   exact .mk _ (.refl _) (.aj hid) ⟨agp,rfl⟩
  ·simp only[go_sem,k1,k2,k3,k4,k5,d1]
   refine(pn _ _).pthen ?_;simp only[go_sem];exact .mk _ (.refl _) (.aj hid) ⟨agp,rfl⟩
 have n5:v.kind≠5:=ac1;simp only[go_sem,k1,k2,k3,k4,k5];exact .mk _ (.refl _) (.aj hid) ⟨agp,rfl⟩
theorem Md(m:bO)(h:Heap):ai Tryz.prog 312 [dM m] h fun r h' =>r= .b (kP m)∧h' =h:=by
 refine acZ Tryz.func312 21 [.tmp 2] fun hwf=>?_
 simp only[go_sem,dM];intro id hid;simp only[go_sem];refine(Hi m.attr _).pthen ?_;cases d0:qo m.attr
 ·simp only[go_sem]
  exact ah3
 cases d1:decide (1≤m.op)
 ·simp only[go_sem,d1]
  exact ah3
 cases d2:decide (m.op≤3)
 ·simp only[go_sem,d1,d2]
  exact ah3
 simp only[go_sem,d1,d2];refine(fR m.val _).pthen ?_;simp only[go_sem];exact ah3
theorem HN(n:Nat)(h:Heap):ai Tryz.prog 294 [.i n] h fun r h' =>r= .i (j8 n)∧h' =h:=by
 refine acZ Tryz.func294 9 [.tmp 2] fun hwf=>?_
 cases d1:((n:Int)==0)
 case true=>
  simp only[go_sem,d1];exact .same (.refl _) ⟨by grind [j8,ax],rfl⟩
 cases d2:decide (8<(n:Int))
 ·have e2:¬n>8:=by grind
  exact aiM
 ·have e2:n>8:=by grind
  exact aiM
theorem DV{n:Nat}(h:j8 n=0):1≤n∧n≤8:=by
 grind [j8]
theorem KR(l:List bO)(h:Heap):ai Tryz.prog 295 [iU l] h fun r h' =>r= .i (xg l)∧h' =h:=by
 refine acZ Tryz.func295 22 [.tmp 2] fun hwf=>?_
 simp only[go_sem,iU,acQ];refine(HN _ _).pthen ?_;cases d1:(j8 l.length !=0)
 case true=>
  have e1:j8 l.length≠0:=ac1;simp only[go_sem,d1];exact .same (.refl _) ⟨by grind [xg,ax],rfl⟩
 have e1:j8 l.length=0:=ac1;have hlen:=DV e1;simp only[go_sem,d1,acQ];refine .intro (fun m ρ h' =>Ab.Sub h h'∧∃i:Nat,i≤l.length∧m=l.length - i∧(l.take i).all kP=true∧lk ρ 12=some (iU l)∧lk ρ 13=some (.i l.length)∧lk ρ 14=some (.i i)) l.length ?_ ?_
 ·refine⟨.refl _,0,ac0,rfl,rfl,?_,?_,?_⟩<;>simp only[go_sem,iU]
 ·rintro m ρ h' ⟨hs,i,hi,rfl,hc,r12,r13,r14⟩
  simp only[go_sem,r13,r14];refine .intro (fun e=>?_) (fun e=>?_)
  ·have hlt:i<l.length:=acX e
   have w1:IntKind.i64.wrap ((i:Int)+1)=((i+1:Nat):Int):=adf;simp only[go_sem,r12,r14,iU];refine .at i ac1 adi ?_;simp only[go_sem,acR,dM];intro id hid;simp only[go_sem];refine(Md l[i] _).pthen ?_;cases d2:kP l[i]
   ·simp only[go_sem]
    refine .mk _ (.refl _) (hs.new hid _) ⟨?_,rfl⟩;have:l.all kP=false:=List.all_eq_false.2 ⟨_,acV hlt,ac1⟩;simp[xg,e1,this,ax]
   ·simp only[go_sem,r14,w1]
    refine⟨_,?_,hs.new hid _,i+1,ac0,rfl,?_,?_,?_,?_⟩
    ·omega
    ·grind [List.take_succ_eq_append_getElem]
    all_goals simp only[go_sem,r12,r13,iU]
  ·have hge:i=l.length:=by grind
   subst hge;rw[List.take_length]at hc;simp only[go_sem];exact .mk _ (.refl _) hs ⟨by grind [xg,ax],rfl⟩
theorem KS(l:List (List bO))(h:Heap):ai Tryz.prog 268 [cU l] h fun r h' =>r= .i (xh l)∧h' =h:=by
 refine acZ Tryz.func268 25 [.tmp 2] fun hwf=>?_
 simp only[go_sem,cU,acQ];refine(HN _ _).pthen ?_;cases d1:(j8 l.length !=0)
 case true=>
  have e1:j8 l.length≠0:=ac1;simp only[go_sem,d1];exact .same (.refl _) ⟨by grind [xh,ax],rfl⟩
 have e1:j8 l.length=0:=ac1;have hlen:=DV e1;simp only[go_sem,d1,acQ];refine .intro (fun m ρ h' =>Ab.Sub h h'∧∃i:Nat,i≤l.length∧m=l.length - i∧ie xg (l.take i)=0∧lk ρ 13=some (cU l)∧lk ρ 14=some (.i l.length)∧lk ρ 15=some (.i i)) l.length ?_ ?_
 ·refine⟨.refl _,0,ac0,rfl,rfl,?_,?_,?_⟩<;>simp only[go_sem,cU]
 ·rintro m ρ h' ⟨hs,i,hi,rfl,hc,r12,r13,r14⟩
  simp only[go_sem,r13,r14];refine .intro (fun e=>?_) (fun e=>?_)
  ·have hlt:i<l.length:=acX e
   have w1:IntKind.i64.wrap ((i:Int)+1)=((i+1:Nat):Int):=adf;simp only[go_sem,r12,r14,cU];refine .at i ac1 adi ?_;simp only[go_sem,acR,iU];refine(KR l[i] _).pthen ?_;cases d2:(xg l[i] !=0)
   ·have e2:xg l[i]=0:=by grind
    simp only[go_sem,r14,d2,w1];refine⟨_,?_,hs,i+1,ac0,rfl,vZ hlt hc e2,?_,?_,?_⟩
    ·omega
    all_goals simp only[go_sem,r12,r13,cU]
   ·have e2:xg l[i]≠0:=by grind
    simp only[go_sem,d2];refine .mk _ (.refl _) hs ⟨?_,rfl⟩
    grind [xh,AQ,ax]
  ·have hge:i=l.length:=by grind
   subst hge;rw[List.take_length]at hc;simp only[go_sem];exact .mk _ (.refl _) hs ⟨by grind [xh,ax],rfl⟩
theorem vC(l:ga)(h:Heap):ai Tryz.prog 238 [aV l] h fun r h' =>r= .i (lG l)∧h' =h:=by
 refine acZ Tryz.func238 21 [.tmp 2] fun hwf=>?_
 cases d1:decide (8<(l.length:Int))
 case true=>
  have e1:8<l.length:=ac1;simp only[go_sem,aV,acQ,d1];exact .same (.refl _) ⟨by grind [lG,ax],rfl⟩
 have e1:¬8<l.length:=ac1;simp only[go_sem,d1,aV,acQ];refine .intro (fun m ρ h' =>Ab.Sub h h'∧∃i:Nat,i≤l.length∧m=l.length - i∧ie xh (l.take i)=0∧lk ρ 9=some (aV l)∧lk ρ 10=some (.i l.length)∧lk ρ 11=some (.i i)) l.length ?_ ?_
 ·refine⟨.refl _,0,ac0,rfl,rfl,?_,?_,?_⟩<;>simp only[go_sem,aV]
 ·rintro m ρ h' ⟨hs,i,hi,rfl,hc,r12,r13,r14⟩
  simp only[go_sem,r13,r14];refine .intro (fun e=>?_) (fun e=>?_)
  ·have hlt:i<l.length:=acX e
   have w1:IntKind.i64.wrap ((i:Int)+1)=((i+1:Nat):Int):=adf;simp only[go_sem,r12,r14,aV];refine .at i ac1 adi ?_;simp only[go_sem,acR,cU];refine(KS l[i] _).pthen ?_;cases d2:(xh l[i] !=0)
   ·have e2:xh l[i]=0:=by grind
    simp only[go_sem,r14,d2,w1];refine⟨_,?_,hs,i+1,ac0,rfl,vZ hlt hc e2,?_,?_,?_⟩
    ·omega
    all_goals simp only[go_sem,r12,r13,aV]
   ·have e2:xh l[i]≠0:=by grind
    simp only[go_sem,d2];refine .mk _ (.refl _) hs ⟨?_,rfl⟩
    grind [lG,AQ,ax]
  ·have hge:i=l.length:=by grind
   subst hge;rw[List.take_length]at hc;simp only[go_sem];exact .mk _ (.refl _) hs ⟨by grind [lG,ax],rfl⟩
theorem Cs(l:List cB)(h:Heap):ai Tryz.prog 239 [aA l] h fun r h' =>r= .i (ij l)∧h' =h:=by
 refine acZ Tryz.func239 39 [.tmp 2] fun hwf=>?_
 cases d1:decide (8<(l.length:Int))
 case true=>
  have e1:8<l.length:=ac1;simp only[go_sem,aA,acQ,d1];exact .same (.refl _) ⟨by grind [ij,ax],rfl⟩
 have e1:¬8<l.length:=ac1;simp only[go_sem,d1,aA,acQ];refine .intro (fun m ρ h' =>Ab.Sub h h'∧∃i:Nat,i≤l.length∧m=l.length - i∧(l.take i).all qS=true∧lk ρ 8=some (aA l)∧lk ρ 9=some (.i l.length)∧lk ρ 10=some (.i i)) l.length ?_ ?_
 ·refine⟨.refl _,0,ac0,rfl,rfl,?_,?_,?_⟩<;>simp only[go_sem,aA]
 ·rintro m ρ h' ⟨hs,i,hi,rfl,hc,r12,r13,r14⟩
  simp only[go_sem,r13,r14];refine .intro (fun e=>?_) (fun e=>?_)
  ·have hlt:i<l.length:=acX e
   have w1:IntKind.i64.wrap ((i:Int)+1)=((i+1:Nat):Int):=adf;simp only[go_sem,r12,r14,aA];refine .at i ac1 adi ?_;simp only[go_sem,acR,bt];intro id hid;have bad:qS l[i]=false→ij l=1:=fun hb=>by
    have:l.all qS=false:=List.all_eq_false.2 ⟨_,acV hlt,ac1⟩;simp[ij,e1,this]
   cases c1:decide (l[i].on<1)
   case true=>
    simp only[go_sem,c1];exact .mk _ (.refl _) (hs.new hid _) ⟨by rw[bad (by have:=acS c1;simp[qS];omega)];rfl,rfl⟩
   cases c2:decide (2<l[i].on)
   case true=>
    simp only[go_sem,c1,c2];exact .mk _ (.refl _) (hs.new hid _) ⟨by rw[bad (by have:=acS c2;simp[qS];omega)];rfl,rfl⟩
   cases c3:decide (l[i].kind<1)
   case true=>
    simp only[go_sem,c1,c2,c3];exact .mk _ (.refl _) (hs.new hid _) ⟨by rw[bad (by have:=acS c3;simp[qS];omega)];rfl,rfl⟩
   cases c4:decide (4<l[i].kind)
   case true=>
    simp only[go_sem,c1,c2,c3,c4];exact .mk _ (.refl _) (hs.new hid _) ⟨by rw[bad (by have:=acS c4;simp[qS];omega)];rfl,rfl⟩
   simp only[go_sem,c1,c2,c3,c4];refine(pn _ _).pthen ?_;cases d2:bl l[i].arg
   ·simp only[go_sem]
    exact .mk _ (.refl _) (hs.new hid _) ⟨by rw[bad (by grind [qS])];rfl,rfl⟩
   ·simp only[go_sem,r14,w1]
    refine⟨_,?_,hs.new hid _,i+1,ac0,rfl,?_,?_,?_,?_⟩
    ·omega
    ·grind [acT,List.take_succ_eq_append_getElem,qS]
    all_goals simp only[go_sem,r12,r13,aA]
  ·have hge:i=l.length:=by grind
   subst hge;rw[List.take_length]at hc;simp only[go_sem];exact .mk _ (.refl _) hs ⟨by grind [ij,ax],rfl⟩
theorem Nt(op:Int)(h:Heap):ai Tryz.prog 296 [.i op] h fun r h' =>r=(match iF op with
  |none=> .tup [.sl [] .no,.b false]
  |some w=> .tup [.sl (w.map jN) .no,.b true])∧h' =h:=by
 refine acZ Tryz.func296 35 [.tmp 2,.tmp 3] fun hwf=>?_
 cases k1:(op==1)
 case true=>
  have e1:op=1:=ac1;simp only[go_sem,k1];exact .mk _ (fC _) (.refl _) ⟨agt,rfl⟩
 have n1:op≠1:=ac1;cases k2:(op==2)
 case true=>
  have e1:op=2:=ac1;simp only[go_sem,k1,k2];exact .mk _ (fC _) (.refl _) ⟨agt,rfl⟩
 have n2:op≠2:=ac1;cases k3:(op==3)
 case true=>
  have e1:op=3:=ac1;simp only[go_sem,k1,k2,k3];exact .mk _ (fC _) (.refl _) ⟨aff,rfl⟩
 have n3:op≠3:=ac1;cases k4:(op==4)
 case true=>
  have e1:op=4:=ac1;simp only[go_sem,k1,k2,k3,k4];exact .mk _ (fC _) (.refl _) ⟨aff,rfl⟩
 have n4:op≠4:=ac1;cases k5:(op==5)
 case true=>
  have e1:op=5:=ac1;simp only[go_sem,k1,k2,k3,k4,k5];exact .mk _ (fC _) (.refl _) ⟨aff,rfl⟩
 have n5:op≠5:=ac1;cases k11:(op==11)
 case true=>
  have e1:op=11:=ac1;simp only[go_sem,k1,k2,k3,k4,k5,k11];exact .mk _ (fC _) (.refl _) ⟨aff,rfl⟩
 have n11:op≠11:=ac1;cases k6:decide (6≤op)
 ·have n6:=acT k6
  simp only[go_sem,k1,k2,k3,k4,k5,k11,k6];exact .mk _ (fC _) (.refl _) ⟨agt,rfl⟩
 cases k13:decide (op≤13)
 ·have n13:=acT k13
  simp only[go_sem,k1,k2,k3,k4,k5,k11,k6,k13];exact .mk _ (fC _) (.refl _) ⟨agt,rfl⟩
 have n6:=acS k6;have n13:=acS k13;simp only[go_sem,k1,k2,k3,k4,k5,k11,k6,k13];exact .mk _ (fC _) (.refl _) ⟨aff,rfl⟩
theorem I9(n:aP)(h:Heap):ai Tryz.prog 297 [dI n] h fun r h' =>r= .b (jO n)∧h' =h:=by
 refine acZ Tryz.func297 37 [.tmp 2] fun hwf=>?_
 simp only[go_sem,dI];intro id hid;have fa:∀x y z:Bool,(x && (y && (z && true)))=(x && (y && (z && true))):=fun _ _ _=>rfl
 cases k1:(n.op==1)
 case true=>
  have e1:n.op=1:=ac1;simp only[go_sem,k1];refine(fR n.val _).pthen ?_;cases d0:bz n.val
  ·simp only[go_sem]
   exact aiv
  ·simp only[go_sem]
   exact .mk _ (.refl _) (.aj hid) ⟨by grind [jO,ax,zeroAt],rfl⟩
 have n1:n.op≠1:=ac1;cases k2:(n.op==2)
 case true=>
  have e1:n.op=2:=ac1;simp only[go_sem,k1,k2];refine(Hi n.attr _).pthen ?_;cases d0:qo n.attr
  ·simp only[go_sem]
   exact aiv
  ·simp only[go_sem]
   exact .mk _ (.refl _) (.aj hid) ⟨by grind [jO,ax,zeroV],rfl⟩
 have n2:n.op≠2:=ac1;cases d0:zeroV n.val
 ·have d1:=d0
  unfold zeroV at d1;simp only[go_sem,k1,k2,d1];exact aiv
 ·have d1:=d0
  unfold zeroV at d1;simp only[go_sem,k1,k2,d1];exact .mk _ (.refl _) (.aj hid) ⟨by grind [jO,ax,zeroAt],rfl⟩
theorem u4:(U 4).sz=1:=adg
theorem u4a:(U 4).k.agg=false:=adg
theorem u4b:(U 4).bytes=1:=adg
theorem u4f:fit (U 4).zero 1:=ada
theorem u4n:bA (U 4).zero=false:=adg
theorem Hj(l:List Bool):One (l.map jN):=One.map (fun _=>rfl) l
theorem Pm(y:AV)(st:List Bool)(n:aP)(h0 h:Heap)(hy:WrA 4 h0 h y (st.map jN))(hl:st.length≤1000000):
  ai Tryz.prog 269 [y,dI n] h fun r h' =>∃z,r= .tup [z,.v (.bool (iE st n).isSome)]∧match iE st n with
   |none=>Ab.Sub h0 h'
   |some st' =>WrA 4 h0 h' z (st'.map jN):=by
 refine acZ Tryz.func269 60 [.tmp 4,.tmp 5] fun hwf=>?_
 simp only[go_sem,dI];intro id hid;simp only[go_sem];have hyb:=hy.base hid (some (.obj [.i n.op,.i n.val.kind,.i n.val.n,.s n.val.s,.i n.attr.cat,.s n.attr.name,.b n.attr.must] 215));have hw:=Nt n.op (upd h id (some (.obj [.i n.op,.i n.val.kind,.i n.val.n,.s n.val.s,.i n.attr.cat,.s n.attr.name,.b n.attr.must] 215)));cases hwd:iF n.op with
 |none=>
  rw[hwd]at hw;have hst:iE st n=none:=by grind [iE]
  refine hw.pthen ?_;exact aiV
 |some w=>
  rw[hwd]at hw;have hwl:w.length≤2:=by
   grind [iF]
  refine hw.pthen ?_;simp only[go_sem];refine(I9 n _).pthen ?_;cases d1:jO n
  ·have hst:iE st n=none:=by grind [iE]
   exact aiV
  cases d2:decide ((st.length:Int)<(w.length:Int))
  case true=>
   have e2:¬w.length≤st.length:=ac1;have hst:iE st n=none:=by grind [iE]
   simp only[go_sem,hyb.len,acQ,d2];exact .mk _ (.refl _) (.aj hid) ⟨_,ag3,agN⟩
  have e2:w.length≤st.length:=ac1;have w1:IntKind.i64.wrap ((st.length:Int) - (w.length:Int))=((st.length - w.length:Nat):Int):=adf;obtain⟨hb,ehb⟩:∃hb,upd h id (some (.obj [.i n.op,.i n.val.kind,.i n.val.n,.s n.val.s,.i n.attr.cat,.s n.attr.name,.b n.attr.must] 215))=hb:=⟨_,rfl⟩;have hbid:hb id=some (.obj [.i n.op,.i n.val.kind,.i n.val.n,.s n.val.s,.i n.attr.cat,.s n.attr.name,.b n.attr.must] 215):=agu;have hsub:Ab.Sub h hb:=by rw[←ehb];exact .aj hid
  rw[ehb]at hyb⊢;simp only[go_sem,hyb.len,acQ,d2,w1];refine .intro (fun m ρ h' =>h' =hb∧∃i:Nat,i≤w.length∧m=w.length - i∧(∀j,j<i→st[st.length - w.length+j]? =w[j]?)∧lk ρ 0=some y∧lk ρ 3=some (.ptr id 0)∧lk ρ 8=some (.i ((st.length - w.length:Nat):Int))∧lk ρ 36=some (.sl (w.map jN) .no)∧lk ρ 37=some (.i w.length)∧lk ρ 38=some (.i i)) w.length ?_ ?_
  ·refine⟨rfl,0,ac0,rfl,fun j hj=>ac0,?_,?_,?_,?_,?_,?_⟩<;>simp only[go_sem]
  ·rintro m ρ h' ⟨rfl,i,hi,rfl,hc,r0,r3,r8,r36,r37,r38⟩
   simp only[go_sem,r37,r38];refine .intro (fun e=>?_) (fun e=>?_)
   ·have hlt:i<w.length:=acX e
    have w2:IntKind.i64.wrap ((i:Int)+1)=((i+1:Nat):Int):=adf;have w3:IntKind.i64.wrap (((st.length - w.length:Nat):Int)+(i:Int))=((st.length - w.length+i:Nat):Int):=adf;have hlt2:st.length - w.length+i<st.length:=ac0;simp only[go_sem,r36,r38];refine .at i ac1 adi ?_;simp only[go_sem,r0,r8,acR,jN,w3];refine hyb.idx (Hj st) (st.length - w.length+i) rfl ac1 u4 u4a fun p hp=>?_
    simp only[go_sem,hp _,acR,jN];cases d3:(st[st.length - w.length+i]==w[i])
    ·have hst:iE st n=none:=by
      have:st.drop (st.length - w.length)≠w:=fun hh=>by
       grind
      simp[iE,hwd,this]
     simp only[go_sem];exact .mk _ (.refl _) hsub ⟨_,ag3,agN⟩
    ·simp only[go_sem,r38,w2]
     refine⟨_,?_,rfl,i+1,ac0,rfl,fun j hj=>?_,?_,?_,?_,?_,?_,?_⟩
     ·omega
     ·grind
     all_goals simp only[go_sem,r0,r3,r8,r36,r37]
   ·have hge:i=w.length:=by grind
    subst hge;have hdrop:st.drop (st.length - w.length)=w:=by
     apply List.ext_getElem?
     grind
    have hst:iE st n=some (st.take (st.length - w.length)++ [n.op==2]):=by
     grind [iE]
    simp only[go_sem];refine .calls (hm1 id _) [0,1,2,3,4,5,6,7,8,9] (.hm1 hbid) ac3 rfl ?_;simp only[go_sem,r0,r8];refine hyb.cut (x:=.i64) (st.length - w.length) adg rfl ac7 u4 fun z hz=>?_
    rw[←List.map_take]at hz;simp only[go_sem,r3,gh];refine hz.app (zs:=[.b (n.op==2)]) (Hj _) (Hj [n.op==2]) u4 ac4 u4f u4n (fun k hk=>hk) (by grind [u4b]) fun z' h2 hz' =>?_
    refine⟨fun j b hj=>((Sub.hm1 (ah ..)).trans hz'.1) j b hj,?_⟩
    simp only[go_sem];have hz2:=hz'.less (Sub.aj (hy.1.none hid));refine .same (.refl _) ⟨z',ag3,?_⟩;rw[hst];simp only[List.map_append];exact hz2
theorem Fu{l:List aP}(h:l.length≤32)(hs:fT [] l=none):j7 l=1:=by
 grind [j7,Nat.not_lt]
theorem jZ(st:List Bool):∀(l:List aP) (i:Nat),fT st l=(match fT st (l.take i)with
  |none=>none
  |some st' =>fT st' (l.drop i))
 | [],i=>by simp[fT]
 |n::r,0=>adg
 |n::r,i+1=>by
  simp only[List.take_succ_cons,List.drop_succ_cons,fT];cases iE st n with
  |none=>rfl
  |some st' =>simp only;exact jZ st' r i
theorem si(st st' :List Bool)(l:List aP)(h:fT st l=some st'):st'.length≤st.length+l.length:=by
 induction l generalizing st with
 |nil=>grind [fT,Option.some.injEq]
 |cons n r ih=>
  simp only[fT]at h;cases hs:iE st n with
  |none=>grind
  |some s2=>
   grind [iE]
theorem Ht(l:List aP)(h:Heap):ai Tryz.prog 240 [fq l] h fun r h' =>r= .i (j7 l)∧h' =h:=by
 refine acZ Tryz.func240 38 [.tmp 2] fun hwf=>?_
 cases d1:decide (32<(l.length:Int))
 case true=>
  have e1:32<l.length:=ac1;simp only[go_sem,fq,acQ,d1];exact .same (.refl _) ⟨by grind [j7,ax],rfl⟩
 have e1:l.length≤32:=ac1;simp only[go_sem,fq,acQ,d1];refine .intro (fun m ρ h' =>∃(i:Nat) (y:AV) (st:List Bool),WrA 4 h h' y (st.map jN)∧fT [] (l.take i)=some st∧i≤l.length∧m=l.length - i∧
  lk ρ 0=some (fq l)∧lk ρ 3=some y∧lk ρ 10=some (fq l)∧lk ρ 11=some (.i l.length)∧lk ρ 12=some (.i i)) l.length ?_ ?_
 ·refine⟨0,_,[],.nil (.refl _),rfl,ac0,rfl,?_,?_,?_,?_,?_⟩<;>simp only[go_sem,fq]
 ·rintro m ρ h' ⟨i,y,st,hy,hst,hi,rfl,r0,r3,r10,r11,r12⟩
  have hsl:=si _ _ _ hst;have hsl:st.length≤i:=ac1;simp only[go_sem,r11,r12];refine .intro (fun e=>?_) (fun e=>?_)
  ·have hlt:i<l.length:=acX e
   have w1:IntKind.i64.wrap ((i:Int)+1)=((i+1:Nat):Int):=adf;have hnx:fT [] (l.take (i+1))=iE st l[i]:=by
    rw[jZ [] _ i,List.take_take,Nat.min_eq_left ac0,hst,List.take_succ_eq_append_getElem hlt,List.drop_append_of_le_length ac1,List.drop_of_length_le ac1]
    grind [fT,iE]
   simp only[go_sem,r10,r12,fq];refine .at i ac1 adi ?_;simp only[go_sem,acR,dI];intro id hid;simp only[go_sem,r3];have hyb:=hy.sub (Sub.aj (k:=some (.obj [.i l[i].op,.i l[i].val.kind,.i l[i].val.n,.s l[i].val.s,.i l[i].attr.cat,.s l[i].attr.name,.b l[i].attr.must] 215)) hid);refine(Pm y st l[i] h _ hyb ac0).mono fun r h2 ⟨z,e2,hz⟩=>?_
   subst e2;cases hsd:iE st l[i]with
   |none=>
    rw[hsd]at hz;simp only[go_sem,Option.isSome_none];refine .mk _ (.refl _) hz ⟨?_,rfl⟩;rw[Fu e1 (by rw[jZ [] l (i+1),hnx,hsd])];rfl
   |some st' =>
    rw[hsd]at hz hnx;simp only[go_sem,r12,Option.isSome_some,w1];refine⟨_,?_,i+1,z,st',hz,hnx,ac0,rfl,?_,?_,?_,?_,?_⟩
    ·omega
    all_goals simp only[go_sem,r0,r10,r11,fq]
  ·have hge:i=l.length:=by grind
   subst hge;rw[List.take_length]at hst;have he:j7 l=if l= []∨st= [false]then 0 else 1:=by
    simp_all [j7,if_neg]
   cases d2:decide (0<(l.length:Int))
   ·have e2:l= []:=by simp_all
    simp only[go_sem,r0,fq,acQ,d2];exact .mk _ (.refl _) hy.1 ⟨by rw[he,if_pos (.inl e2)];rfl,rfl⟩
   have e2:l≠ []:=ac1;cases d3:((st.length:Int) !=1)
   case true=>
    have e3:st≠ [false]:=ac1;simp only[go_sem,r0,r3,fq,acQ,d2,hy.len,d3];exact .mk _ (.refl _) hy.1 ⟨by rw[he,if_neg ac1];rfl,rfl⟩
   have e3:st.length=1:=by
    grind
   obtain⟨b,rfl⟩:=List.length_eq_one_iff.1 e3;simp only[go_sem,r0,r3,fq,acQ,d2,hy.len];refine hy.idx (Hj [b]) 0 rfl ac7 u4 u4a fun p hp=>?_
   simp only[go_sem,hp _,jN,List.getElem_cons_zero];cases b
   ·simp only[go_sem]
    exact .mk _ (.refl _) hy.1 ⟨by rw[he,if_pos (.inr rfl)];rfl,rfl⟩
   ·simp only[go_sem]
    exact .mk _ (.refl _) hy.1 ⟨by rw[he,if_neg ac1];rfl,rfl⟩
end Go.Proofs.YtfdgemhnlennbaaGreatDoor
namespace Go.Bf
open Go Go.Ab
theorem OK(xs:List Txt)(B:Nat)(h:∀x∈xs,x.length≤B):Lib.lens xs≤xs.length*B:=by
 induction xs with
 |nil=>simp[Lib.lens]
 |cons x r ih=>
  have h1:=h x ac7;have h2:=ih fun y hy=>h y ac1
  simp only[Lib.lens,List.map_cons,List.sum_cons,List.length_cons,Nat.add_mul,Nat.one_mul]at h2⊢;omega
theorem FL(xs:List Txt)(n B:Nat)(hn:xs.length≤n)(h:∀x∈xs,x.length≤B):xs.flatten.length≤n*B:=by
 have h2:=OK xs B h;have h3:xs.length*B≤n*B:=Nat.mul_le_mul_right _ hn;have h4:xs.flatten.length=Lib.lens xs:=by rw[List.length_flatten];rfl
 omega
theorem A8{s:Txt}(h:bl s=true):s.length≤16:=by
 grind [bl]
theorem Bj(l:Txt)(h:l.length≤64):(nW l).length≤194:=by
 have:=FL (l.map nV) 64 3 ac1 fun x hx=>by
  grind [nV]
 unfold nW;simp only[acU,List.length_cons,List.length_nil];omega
theorem PB{v:br}(h:bz v=true)(h1: -9223372036854775808≤v.n)(h2:v.n≤9223372036854775807):(j6 v).length≤194:=by
 have hi:=Lib.itoa_length_le v.n h1 h2;unfold j6;unfold bz at h;split
 ·cases (v.n==1)<;>decide
 split
 ·simp only[acU,List.length_cons,List.length_nil];omega
 split
 ·rename_i k5
  simp only[k5]at h;simp at h;have:=A8 h.2;simp only[acU,List.length_cons,List.length_nil];omega
 split
 ·rename_i k3
  simp only[k3]at h;simp at h;exact Bj _ h.2
 ·omega
theorem kE{l:List cB}(h:ij l=0):l.length≤8∧∀o∈l,qS o=true:=by
 grind [ij,List.all_eq_true]
theorem yU{n:Nat}(h:j8 n=0):0<n∧n≤8:=by
 grind [j8]
theorem we{α:Type}{f:α→Int}{l:List α}(h:ie f l=0):∀x∈l,f x=0:=by
 induction l with
 |nil=>simp
 |cons y r ih=>
  simp only[ie]at h
  grind
theorem AA{l:List bO}(h:xg l=0):0<l.length∧l.length≤8∧∀m∈l,kP m=true:=by
 unfold xg at h;split at h
 ·simp_all [yU,List.all_eq_true]
 omega
theorem AB{l:List (List bO)}(h:xh l=0):0<l.length∧l.length≤8∧∀m∈l,xg m=0:=by
 unfold xh at h;split at h
 ·rename_i hm
  have:=yU hm;exact⟨this.1,this.2,we h⟩
 omega
theorem Bw{l:ga}(h:lG l=0):l.length≤8∧∀m∈l,xh m=0:=by
 grind [lG,we]
def inV(v:br):Prop:= -9223372036854775808≤v.n∧v.n≤9223372036854775807
def inA(l:List bO):Prop:=∀m∈l,inV m.val
def inY(l:List (List bO)):Prop:=∀a∈l,inA a
def inT(t:ga):Prop:=∀a∈t,inY a
def inL(l:List aP):Prop:=∀n∈l,inV n.val
def inR(r:cQ):Prop:=inT r.tgt∧inL r.cond
mutual
def inP:bH→Prop
 |.mk id set alg tgt rules kids obls=>inT tgt∧(∀r∈rules,inR r)∧inK kids
def inK:List bH→Prop
 | []=>True
 |k::r=>inP k∧inK r
end
theorem RJ:∀l:List bH,inK l↔∀k∈l,inP k
 | []=>by simp[inK]
 |k::r=>by simp[inK,RJ r]
theorem ym{l:List aP}(h:j7 l=0)(hn:l≠ []):l.length≤32∧fT [] l=some [false]:=by
 grind [j7]
def EA(r:cQ):Prop:=bl r.id=true∧lG r.tgt=0∧j7 r.cond=0∧ij r.obls=0
mutual
def mQ(d:Nat):bH→Prop
 |.mk id set alg tgt rules kids obls=>d≤4∧bl id=true∧1≤alg∧alg≤6∧(set=true→rules= [])∧(set=false→kids= []∧alg≠4)∧lG tgt=0∧ij obls=0∧rules.length≤16∧kids.length≤16∧(∀r∈rules,EA r)∧wE (d+1) kids
def wE(d:Nat):List bH→Prop
 | []=>True
 |k::r=>mQ d k∧wE d r
end
theorem qM(d:Nat):∀l:List bH,wE d l↔∀k∈l,mQ d k
 | []=>by simp[wE]
 |k::r=>by simp[wE,qM d r]
theorem yV{m m' :eu}{s:Txt}(h:jg m s=some m'):bl s=true:=by
 grind [jg]
theorem qR{e:Int}{w:Went}{m:eu}(h:need e w= .ok m):e=0∧w= .ok m:=by
 grind [need]
theorem MN{m m' :eu}{r:cQ}(h:gu m r= .ok m'):EA r:=by
 unfold gu at h;split at h
 ·cases h
 ·rename_i m1 hm
  split at h
  ·cases h
  ·obtain⟨h1,h⟩:=qR h
   obtain⟨h2,h⟩:=qR h;obtain⟨h3,h⟩:=qR h;exact⟨yV hm,h1,h2,h3⟩
theorem Bs:∀(l:List cQ) (m m' :eu),fA m l= .ok m'→∀r∈l,EA r
 | [],_,_,_,r,hr=>ac1
 |x::l,m,m',h,r,hr=>by
  simp only[fA]at h;cases hx:gu m x with
  |bad e=>grind
  |ok m1=>
   rw[hx]at h;rcases List.mem_cons.1 hr with rfl|hr
   ·exact MN hx
   ·exact Bs l m1 m' h r hr
theorem Jy{m m1:eu}{id:Txt}{set:Bool}{alg:Int}{tgt:ga}{nr nk:Nat}{obls:List cB}(h:fj m id set alg tgt nr nk obls= .ok m1):
  jg m id=some m1∧1≤alg∧alg≤6∧(set=true→nr=0)∧(set=false→nk=0∧alg≠4)∧lG tgt=0∧ij obls=0∧nr≤16∧nk≤16:=by
 unfold fj at h;split at h
 ·cases h
 split at h
 ·cases h
 split at h
 ·cases h
 obtain⟨h3,h⟩:=qR h;obtain⟨h4,h⟩:=qR h
 grind
mutual
theorem H7:∀(p:bH) (d:Nat) (m m' :eu),kG m d p= .ok m'→mQ d p
 |.mk id set alg tgt rules kids obls,d,m,m',h=>by
  simp only[kG]at h;split at h
  ·cases h
  rename_i hd
  split at h
  ·cases h
  rename_i m1 h1
  split at h
  ·cases h
  rename_i m2 h2
  obtain⟨g1,g2,g3,g4,g5,g6,g7,g8,g9⟩:=Jy h1;simp only[mQ];exact⟨ac0,yV g1,g2,g3,fun e=>List.length_eq_zero_iff.1 (g4 e),fun e=>⟨List.length_eq_zero_iff.1 (g5 e).1,(g5 e).2⟩,g6,g7,g8,g9,Bs _ _ _ h2,DK kids (d+1) m2 m' h⟩
theorem DK:∀(l:List bH) (d:Nat) (m m' :eu),iR m d l= .ok m'→wE d l
 | [],_,_,_,_=>by simp[wE]
 |k::r,d,m,m',h=>by
  simp only[iR]at h;split at h
  ·cases h
  rename_i m1 h1
  simp only[wE];exact⟨H7 k d m m1 h1,DK r d m1 m' h⟩
end
end Go.Bf
namespace Go.Proofs.YtfdgemhnlennbaaGreatDoor
open Go Go.Ab Go.Bf
def Quoted:Prop:=∀(s:Txt) (h:Heap),s.length≤64→ai Tryz.prog 137 [.s s] h fun r h' =>r= .s (nW s)∧h' =h
def zN(v:br):Txt:=if bz v then Bf.j6 v else []
theorem Ns(Q:Quoted)(v:br)(hi:inV v)(h:Heap)(ht:BL h):ai Tryz.prog 83 [aQ v] h fun r h' =>r= .s (zN v)∧h' =h:=by
 refine acZ Tryz.func83 33 [.tmp 2] fun hwf=>?_
 simp -implicitDefEqProofs only[go_sem,aQ];intro id hid;have ht2:BL (upd h id (some (.obj [.i v.kind,.i v.n,.s v.s] 33))):=ht.sub (.aj hid);simp -implicitDefEqProofs only[go_sem];refine(fR v _).pthen ?_;cases d1:bz v
 ·simp -implicitDefEqProofs only[go_sem,d1]
  exact .mk _ (.refl _) (.aj hid) ⟨by grind [zN,ax],rfl⟩
 have hl:lim=9223372036854775808:=rfl;have hil:=Lib.itoa_length_le v.n hi.1 hi.2;cases k1:(v.kind==1)
 case true=>
  have e1:v.kind=1:=ac1;simp -implicitDefEqProofs only[go_sem,d1,k1];refine(Ly _ _).pthen ?_;exact ah7
 have e1:v.kind≠1:=ac1;cases k4:(v.kind==4)
 case true=>
  have e4:v.kind=4:=ac1;simp -implicitDefEqProofs only[go_sem,d1,k1,k4];refine(nF _ _ hi ht2).pthen ?_;have c1:0+1+(Lib.itoa v.n).length<lim:=ac0;simp -implicitDefEqProofs only[go_sem,c1];exact .mk _ (.refl _) (.aj hid) ⟨aga,rfl⟩
 have e4:v.kind≠4:=ac1;cases k5:(v.kind==5)
 case true=>
  have e5:v.kind=5:=ac1;have hn:v.s.length≤16:=by
   grind [bz,A8]
  have c1:0+1+v.s.length<lim:=ac0;simp -implicitDefEqProofs only[go_sem,d1,k1,k4,k5,c1];exact .mk _ (.refl _) (.aj hid) ⟨aga,rfl⟩
 have e5:v.kind≠5:=ac1;cases k3:(v.kind==3)
 case true=>
  have e3:v.kind=3:=ac1;have hn:v.s.length≤64:=by
   grind [bz]
  simp -implicitDefEqProofs only[go_sem,d1,k1,k4,k5,k3];refine(Q _ _ hn).pthen ?_;exact ah7
 have e3:v.kind≠3:=ac1;simp -implicitDefEqProofs only[go_sem,d1,k1,k4,k5,k3];refine(nF _ _ hi ht2).pthen ?_;exact ah7
end Go.Proofs.YtfdgemhnlennbaaGreatDoor
namespace Go.Proofs
open Go.Shelf
def Tryz.wJ:Go.Shelf.Ren:=⟨fun|166=>184|167=>183|169=>185|240=>228|276=>263|n=>n,fun|31=>22|72=>270|76=>221|70=>268|37=>37|75=>220|127=>310|164=>346|80=>238|n=>n,fun|n=>n⟩
theorem Tryz.OF:Go.Proofs.Lays.n167 Tryz.prog Tryz.wJ:={
 mixed:=ac3
 f167:=Tryz.func183.trans (congrArg some ac3)
 f240:=Tryz.func228.trans (congrArg some ac3)
 f276:=Tryz.func263.trans (congrArg some ac3)
 t0:=Tryz.underlying0
 a0:=Tryz.isAgg0
 z0:=Tryz.sizeOf0
 v0:=Tryz.zeroValue0
 t4:=Tryz.underlying4
 a4:=Tryz.isAgg4
 z4:=Tryz.sizeOf4
 v4:=Tryz.zeroValue4
 t5:=Tryz.underlying5
 a5:=Tryz.isAgg5
 z5:=Tryz.sizeOf5
 v5:=Tryz.zeroValue5
 t9:=Tryz.underlying9
 a9:=Tryz.isAgg9
 z9:=Tryz.sizeOf9
 v9:=Tryz.zeroValue9
 t20:=Tryz.underlying20
 a20:=Tryz.isAgg20
 z20:=Tryz.sizeOf20
 v20:=Tryz.zeroValue20
 t37:=Tryz.underlying37
 a37:=Tryz.isAgg37
 z37:=Tryz.sizeOf37
 v37:=Tryz.zeroValue37
 t70:=Tryz.underlying268
 a70:=Tryz.isAgg268
 z70:=Tryz.sizeOf268
 v70:=Tryz.zeroValue268
 t72:=Tryz.underlying270
 a72:=Tryz.isAgg270
 z72:=Tryz.sizeOf270
 v72:=Tryz.zeroValue270
 t75:=Tryz.underlying220
 a75:=Tryz.isAgg220
 z75:=Tryz.sizeOf220
 v75:=Tryz.zeroValue220
 t164:=Tryz.underlying346
 a164:=Tryz.isAgg346
 z164:=Tryz.sizeOf346
 v164:=Tryz.zeroValue346
}
def Tryz.wI:Go.Shelf.Ren:=⟨fun|166=>184|167=>183|169=>185|240=>228|276=>263|n=>n,fun|31=>22|72=>270|76=>221|70=>268|37=>37|75=>220|127=>310|164=>346|80=>238|n=>n,fun|n=>n⟩
theorem Tryz.OE:Go.Proofs.Lays.n166 Tryz.prog Tryz.wI:={
 mixed:=ac3
 f166:=Tryz.func184.trans (congrArg some ac3)
 f240:=Tryz.func228.trans (congrArg some ac3)
 f276:=Tryz.func263.trans (congrArg some ac3)
 t0:=Tryz.underlying0
 a0:=Tryz.isAgg0
 z0:=Tryz.sizeOf0
 v0:=Tryz.zeroValue0
 t3:=Tryz.underlying3
 a3:=Tryz.isAgg3
 z3:=Tryz.sizeOf3
 v3:=Tryz.zeroValue3
 t4:=Tryz.underlying4
 a4:=Tryz.isAgg4
 z4:=Tryz.sizeOf4
 v4:=Tryz.zeroValue4
 t9:=Tryz.underlying9
 a9:=Tryz.isAgg9
 z9:=Tryz.sizeOf9
 v9:=Tryz.zeroValue9
 t20:=Tryz.underlying20
 a20:=Tryz.isAgg20
 z20:=Tryz.sizeOf20
 v20:=Tryz.zeroValue20
 t37:=Tryz.underlying37
 a37:=Tryz.isAgg37
 z37:=Tryz.sizeOf37
 v37:=Tryz.zeroValue37
 t70:=Tryz.underlying268
 a70:=Tryz.isAgg268
 z70:=Tryz.sizeOf268
 v70:=Tryz.zeroValue268
 t72:=Tryz.underlying270
 a72:=Tryz.isAgg270
 z72:=Tryz.sizeOf270
 v72:=Tryz.zeroValue270
 t75:=Tryz.underlying220
 a75:=Tryz.isAgg220
 z75:=Tryz.sizeOf220
 v75:=Tryz.zeroValue220
 t164:=Tryz.underlying346
 a164:=Tryz.isAgg346
 z164:=Tryz.sizeOf346
 v164:=Tryz.zeroValue346
}
def Tryz.wK:Go.Shelf.Ren:=⟨fun|166=>184|167=>183|169=>185|240=>228|276=>263|n=>n,fun|31=>22|72=>270|76=>221|70=>268|37=>37|75=>220|127=>310|164=>346|80=>238|n=>n,fun|n=>n⟩
theorem Tryz.OG:Go.Proofs.Lays.n169 Tryz.prog Tryz.wK:={
 mixed:=ac3
 f169:=Tryz.func185.trans (congrArg some ac3)
 t0:=Tryz.underlying0
 a0:=Tryz.isAgg0
 z0:=Tryz.sizeOf0
 v0:=Tryz.zeroValue0
 t3:=Tryz.underlying3
 a3:=Tryz.isAgg3
 z3:=Tryz.sizeOf3
 v3:=Tryz.zeroValue3
 t9:=Tryz.underlying9
 a9:=Tryz.isAgg9
 z9:=Tryz.sizeOf9
 v9:=Tryz.zeroValue9
 t37:=Tryz.underlying37
 a37:=Tryz.isAgg37
 z37:=Tryz.sizeOf37
 v37:=Tryz.zeroValue37
 t70:=Tryz.underlying268
 a70:=Tryz.isAgg268
 z70:=Tryz.sizeOf268
 v70:=Tryz.zeroValue268
 t72:=Tryz.underlying270
 a72:=Tryz.isAgg270
 z72:=Tryz.sizeOf270
 v72:=Tryz.zeroValue270
 t127:=Tryz.underlying310
 a127:=Tryz.isAgg310
 z127:=Tryz.sizeOf310
 v127:=Tryz.zeroValue310
}
theorem Tryz.sX:Builder.Extra Tryz.prog Tryz.wJ where
 sizeBuilder:=ac3
 liesBuilder:=ac3
 t5:=Tryz.underlying5
 a5:=Tryz.isAgg5
 z5:=Tryz.sizeOf5
 v5:=Tryz.zeroValue5
 infoByte:=ac3
 cellsByte:=ac3
 sizeByte:=ac3
 neB5:=ac4
theorem Tryz.sW:Builder.Extra Tryz.prog Tryz.wI where
 sizeBuilder:=ac3
 liesBuilder:=ac3
 t5:=Tryz.underlying5
 a5:=Tryz.isAgg5
 z5:=Tryz.sizeOf5
 v5:=Tryz.zeroValue5
 infoByte:=ac3
 cellsByte:=ac3
 sizeByte:=ac3
 neB5:=ac4
theorem Tryz.sY:Builder.Extra Tryz.prog Tryz.wK where
 sizeBuilder:=ac3
 liesBuilder:=ac3
 t5:=Tryz.underlying5
 a5:=Tryz.isAgg5
 z5:=Tryz.sizeOf5
 v5:=Tryz.zeroValue5
 infoByte:=ac3
 cellsByte:=ac3
 sizeByte:=ac3
 neB5:=ac4
theorem Tryz.Builder_WriteByte_k(B b:Nat)(bs:List Value)(c:Int)(w:World)(h:Lib.IsBuilderF 270 5 B b bs w)(hlen:bs.length+1≤140737488355328)(hBw:B≤w.heap.size):
  Calls Tryz.prog 183 #[.pointer (some ⟨b,0,none⟩),.int .u8 c] w fun e w' =>e= .returned .nilIface∧(Lib.BuilderAtF 270 5 B b (.pointer (some ⟨b,0,none⟩)) (bs++ [.int .u8 c]) w'∧RowKit.Below B w w'∧Lib.OthersKept 5 (some b) w w'):=Any.Builder_WriteByte_k Tryz.OF Tryz.sX B b bs c w h hlen hBw
theorem Tryz.Builder_WriteString_k(B b:Nat)(bs:List Value)(s:ByteArray)(w:World)(h:Lib.IsBuilderF 270 5 B b bs w)(hlen:bs.length+s.size≤140737488355328)(hBw:B≤w.heap.size):
  Calls Tryz.prog 184 #[.pointer (some ⟨b,0,none⟩),.string s] w fun e w' =>e= .returned (.tuple #[.int .i64 s.size,.nilIface])∧(Lib.BuilderAtF 270 5 B b (.pointer (some ⟨b,0,none⟩)) (bs++Lib.strCells s) w'∧RowKit.Below B w w'∧Lib.OthersKept 5 (some b) w w'):=Any.Builder_WriteString_k Tryz.OE Tryz.sW B b bs s w h hlen hBw
theorem Tryz.Builder_String_k(B b:Nat)(l:List UInt8)(w:World)(h:Lib.IsBuilderF 270 5 B b (Lib.byteCells l) w)(h0:l≠ []):
  Calls Tryz.prog 185 #[.pointer (some ⟨b,0,none⟩)] w fun e w' =>e= .returned (.string ⟨l.toArray⟩)∧(Lib.IsBuilderF 270 5 B b (Lib.byteCells l) w'∧RowKit.Below B w w'∧Lib.OthersKept 5 (some b) w w'):=Any.Builder_String_k Tryz.OG Tryz.sY B b l w h h0
end Go.Proofs
namespace Go.Proofs
open Go.RowKit
def Tryz.cY(s:ByteArray)(k:Nat):List UInt8:=[34]++((s.data.toList.take k).map Bf.nV).flatten
theorem Tryz.Xz:∀c:Fin 256,bits BinOp.and IntKind.u8 (c.val:Int) 15=((c.val % 16:Nat):Int):=ac4
theorem Tryz.DC(n:Nat)(hn:n<16)(w:World):(Instr.slice 9 (Value.string {data:= #[48,49,50,51,52,53,54,55,56,57,97,98,99,100,101,102]}) (some (.int .u8 (n:Int))) (some (.int .u8 (IntKind.u8.wrap ((n:Int)+1)))) none).run Tryz.prog w= .ok (.string ⟨#[Bf.FZ n]⟩) w:=by
 have e:IntKind.u8.wrap ((n:Int)+1)=((n+1:Nat):Int):=by
  have:n=0∨n=1∨n=2∨n=3∨n=4∨n=5∨n=6∨n=7∨n=8∨n=9∨n=10∨n=11∨n=12∨n=13∨n=14∨n=15:=ac0;rcases this with rfl|rfl|rfl|rfl|rfl|rfl|rfl|rfl|rfl|rfl|rfl|rfl|rfl|rfl|rfl|rfl<;>decide
 rw[e,run_slice_string w 9 _ .u8 .u8 (n:Int) ((n+1:Nat):Int) Tryz.underlying9 ac0 ac0 (by show((n+1:Nat):Int)≤16;omega)]
 have:n=0∨n=1∨n=2∨n=3∨n=4∨n=5∨n=6∨n=7∨n=8∨n=9∨n=10∨n=11∨n=12∨n=13∨n=14∨n=15:=ac0;rcases this with rfl|rfl|rfl|rfl|rfl|rfl|rfl|rfl|rfl|rfl|rfl|rfl|rfl|rfl|rfl|rfl<;>rfl
theorem Tryz.uh(s:ByteArray)(k:Nat)(hk:k≤s.size)(hs:s.size≤64):(Tryz.cY s k).length≤193:=by
 have:∀l:List UInt8,((l.map Bf.nV).flatten).length≤3*l.length:=fun l=>by
  induction l with
  |nil=>simp
  |cons c r ih=>
   have:(Bf.nV c).length≤3:=by unfold Bf.nV;split<;>simp
   simp only[List.map_cons,List.flatten_cons,acU,List.length_cons]at ih⊢;omega
 have h1:=this (s.data.toList.take k);have h2:(s.data.toList.take k).length≤64:=by
  have:s.size=s.data.toList.length:=Array.length_toList.symm;simp;omega
 unfold Tryz.cY;simp only[acU,List.length_cons,List.length_nil];omega
theorem Tryz.qX(s:ByteArray)(k:Nat)(hk:k<s.size):Tryz.cY s (k+1)=Tryz.cY s k++Bf.nV s[k]:=by
 have e:s.size=s.data.toList.length:=Array.length_toList.symm;have hk2:k<s.data.toList.length:=ac0;unfold Tryz.cY;rw[List.take_succ_eq_append_getElem hk2,List.map_append,List.flatten_append];simp only[List.map_cons,List.map_nil,List.flatten_cons,List.flatten_nil,List.append_nil,List.append_assoc];rfl
theorem Tryz.Ai(s:ByteArray):Tryz.cY s s.size++ [34]=Bf.nW s.data.toList:=by
 have e:s.size=s.data.toList.length:=Array.length_toList.symm;unfold Tryz.cY Bf.nW;rw[e,List.take_length]
theorem Tryz.rJ(s:ByteArray)(k:Nat)(hk:k<s.size)(ho:Bf.tQ s[k]=true):
  Lib.byteCells (Tryz.cY s k)++Lib.strCells (({data:= #[92]}:ByteArray)++ {data:= #[Bf.FZ (s[k].toNat / 16)]}++ {data:= #[Bf.FZ (s[k].toNat % 16)]})=Lib.byteCells (Tryz.cY s (k+1)):=by
 rw[Tryz.qX s k hk,Lib.byteCells_append]
 congr 1
 rw[Bf.nV,if_pos ho];rfl
theorem Tryz.FE(s:ByteArray)(k:Nat)(hk:k<s.size)(ho:Bf.tQ s[k]=false):
  Lib.byteCells (Tryz.cY s k)++ [Value.int .u8 (s[k].toNat:Int)]=Lib.byteCells (Tryz.cY s (k+1)):=by
 rw[Tryz.qX s k hk,Lib.byteCells_append]
 congr 1
 rw[Bf.nV,if_neg (by simp[ho])]
 rfl
set_option maxHeartbeats 4000000 in
theorem Tryz.Eo(s:ByteArray)(w:World)(hs:s.size≤64):
  Calls Tryz.prog 137 #[.string s] w fun e w' =>e= .returned (.string ⟨(Bf.nW s.data.toList).toArray⟩)∧Below w.heap.size w w' :=by
 go_enter Tryz.func137,Tryz.ntmps137
 go_wp2_with (go_at_call 183;refine(Tryz.Builder_WriteByte_k w.heap.size w.heap.size [] 34 _ (Lib.IsBuilderF.of (Lib.fresh_isBuilder 270 5 w)) ac7 ac7).mono ?_)
 rintro e W0 ⟨rfl,h0,b0,_⟩
 go_wp2
 go_loopw [9] (fun v wr=>∃k:Nat,v= .int .i64 k∧k≤s.size∧Lib.IsBuilderF 270 5 w.heap.size w.heap.size (Lib.byteCells (Tryz.cY s k)) wr∧Below w.heap.size w wr) (fun v _=>s.size - (intOf v).toNat)
 case atStart=>
  refine⟨0,rfl,ac0,?_,?_⟩
  ·exact Or.inr h0
  ·exact((Below.refl _ w).alloc (Nat.le_refl _) _).trans b0
 case round=>
  obtain⟨k,rfl,hk,hI,hbw⟩:=hrel
  by_cases hp:k<s.size
  ·have hx1:∀w,(Instr.slice 9 (Value.string {data:= #[48,49,50,51,52,53,54,55,56,57,97,98,99,100,101,102]}) (some (.int .u8 ((s[k].toNat:Int) / 16))) (some (.int .u8 (IntKind.u8.wrap ((s[k].toNat:Int) / 16+1)))) none).run Tryz.prog w= .ok (.string ⟨#[Bf.FZ (s[k].toNat / 16)]⟩) w:=
    fun w=>Tryz.DC (s[k].toNat / 16) (by have:=s[k].toNat_lt;omega) w
   have hb:bits BinOp.and IntKind.u8 (s[k].toNat:Int) 15=((s[k].toNat % 16:Nat):Int):=Tryz.Xz ⟨s[k].toNat,s[k].toNat_lt⟩;have hx2:∀w,(Instr.slice 9 (Value.string {data:= #[48,49,50,51,52,53,54,55,56,57,97,98,99,100,101,102]}) (some (.int .u8 (bits BinOp.and IntKind.u8 (s[k].toNat:Int) 15))) (some (.int .u8 (IntKind.u8.wrap (bits BinOp.and IntKind.u8 (s[k].toNat:Int) 15+1)))) none).run Tryz.prog w= .ok (.string ⟨#[Bf.FZ (s[k].toNat % 16)]⟩) w:=by
    intro w;rw[hb];exact Tryz.DC (s[k].toNat % 16) ac0 w
   clear hb;have hql:=Tryz.uh s k hk hs
   by_cases d1:(s[k].toNat:Int)<32
   ·go_wp2
    refine wp_region_still_tail 14 ac3 ac3 ?_;simp only[List.take_succ_cons,List.take_zero,List.drop_succ_cons,List.drop_zero]
    (repeat still_step)
    try refine wpStill_nil ?_
    have hI2:Lib.IsBuilderF 270 5 w.heap.size w.heap.size (Lib.byteCells (Tryz.cY s k)) wr.drew:=hI;have hbw2:Below w.heap.size w wr.drew:=hbw.drew
    change wpList _ _ _ _ _ wr.drew
    generalize wr.drew=w2 at hI2 hbw2⊢
    go_wp2_with (go_at_call 184;refine(Tryz.Builder_WriteString_k w.heap.size w.heap.size _ _ _ hI2 aer hbw2.size).mono ?_)
    rintro e W1 ⟨rfl,h1,b1,_⟩
    go_wp2
    go_roundw
    case rel=>
     refine⟨k+1,by go_num,ac0,?_,hbw2.trans b1⟩
     rw[←Tryz.rJ s k hp (by simp[Bf.tQ,d1])]
     exact agR
    case measure=>simp[intOf];omega
   by_cases d2:126<(s[k].toNat:Int)
   ·go_wp2
    refine wp_region_still_tail 14 ac3 ac3 ?_;simp only[List.take_succ_cons,List.take_zero,List.drop_succ_cons,List.drop_zero]
    (repeat still_step)
    try refine wpStill_nil ?_
    have hI2:Lib.IsBuilderF 270 5 w.heap.size w.heap.size (Lib.byteCells (Tryz.cY s k)) wr.drew:=hI;have hbw2:Below w.heap.size w wr.drew:=hbw.drew
    change wpList _ _ _ _ _ wr.drew
    generalize wr.drew=w2 at hI2 hbw2⊢
    go_wp2_with (go_at_call 184;refine(Tryz.Builder_WriteString_k w.heap.size w.heap.size _ _ _ hI2 aer hbw2.size).mono ?_)
    rintro e W1 ⟨rfl,h1,b1,_⟩
    go_wp2
    go_roundw
    case rel=>
     refine⟨k+1,by go_num,ac0,?_,hbw2.trans b1⟩
     rw[←Tryz.rJ s k hp (by simp[Bf.tQ,d2])]
     exact agR
    case measure=>simp[intOf];omega
   cases d3:((s[k].toNat:Int)==34)
   case true=>
    go_wp2
    refine wp_region_still_tail 14 ac3 ac3 ?_;simp only[List.take_succ_cons,List.take_zero,List.drop_succ_cons,List.drop_zero]
    (repeat still_step)
    try refine wpStill_nil ?_
    have hI2:Lib.IsBuilderF 270 5 w.heap.size w.heap.size (Lib.byteCells (Tryz.cY s k)) wr.drew:=hI;have hbw2:Below w.heap.size w wr.drew:=hbw.drew
    change wpList _ _ _ _ _ wr.drew
    generalize wr.drew=w2 at hI2 hbw2⊢
    go_wp2_with (go_at_call 184;refine(Tryz.Builder_WriteString_k w.heap.size w.heap.size _ _ _ hI2 aer hbw2.size).mono ?_)
    rintro e W1 ⟨rfl,h1,b1,_⟩
    go_wp2
    go_roundw
    case rel=>
     refine⟨k+1,by go_num,ac0,?_,hbw2.trans b1⟩
     rw[←Tryz.rJ s k hp (by simp[Bf.tQ,d3])]
     exact agR
    case measure=>simp[intOf];omega
   cases d4:((s[k].toNat:Int)==92)
   case true=>
    go_wp2
    refine wp_region_still_tail 14 ac3 ac3 ?_;simp only[List.take_succ_cons,List.take_zero,List.drop_succ_cons,List.drop_zero]
    (repeat still_step)
    try refine wpStill_nil ?_
    have hI2:Lib.IsBuilderF 270 5 w.heap.size w.heap.size (Lib.byteCells (Tryz.cY s k)) wr.drew:=hI;have hbw2:Below w.heap.size w wr.drew:=hbw.drew
    change wpList _ _ _ _ _ wr.drew
    generalize wr.drew=w2 at hI2 hbw2⊢
    go_wp2_with (go_at_call 184;refine(Tryz.Builder_WriteString_k w.heap.size w.heap.size _ _ _ hI2 aer hbw2.size).mono ?_)
    rintro e W1 ⟨rfl,h1,b1,_⟩
    go_wp2
    go_roundw
    case rel=>
     refine⟨k+1,by go_num,ac0,?_,hbw2.trans b1⟩
     rw[←Tryz.rJ s k hp (by simp[Bf.tQ,d4])]
     exact agR
    case measure=>simp[intOf];omega
   go_wp2_with (go_at_call 183;refine(Tryz.Builder_WriteByte_k w.heap.size w.heap.size _ _ _ hI (by rw[Lib.byteCells_length];omega) hbw.size).mono ?_)
   rintro e W1 rfl h1 b1 _
   go_wp2
   go_roundw
   case rel=>
    refine⟨k+1,by go_num,ac0,?_,hbw.trans b1⟩
    rw[←Tryz.FE s k hp (by simp[Bf.tQ,d1,d2,d3,d4])]
    exact agR
   case measure=>simp[intOf];omega
  ·have hk2:k=s.size:=by omega
   subst hk2;have hql:=Tryz.uh s s.size hk hs
   go_wp2_with (go_at_call 183;refine(Tryz.Builder_WriteByte_k w.heap.size w.heap.size _ _ _ hI (by rw[Lib.byteCells_length];omega) hbw.size).mono ?_)
   rintro e W1 ⟨rfl,h1,b1,_⟩
   have e34:Lib.byteCells (Tryz.cY s s.size)++ [Value.int .u8 34]=Lib.byteCells (Bf.nW s.data.toList):=by
    rw[←Tryz.Ai,Lib.byteCells_append];rfl
   rw[e34]at h1
   go_wp2_with (go_at_call 185;refine(Tryz.Builder_String_k w.heap.size w.heap.size _ _ (Or.inr h1) (by simp[Bf.nW])).mono ?_)
   rintro e W2 ⟨rfl,_,b2,_⟩
   go_wp2
   go_ret
   exact⟨rfl,(hbw.trans b1).trans b2⟩
end Go.Proofs
namespace Go.Proofs.YtfdgemhnlennbaaGreatDoor
open Go Go.Ab Go.Bf
theorem J3:Quoted:=fun s h hs=>by
 refine .lib ⟨_,Tryz.func137,ac3,rfl⟩ fun c vs hs' g h1 h2=>?_
 obtain⟨v,rfl⟩:∃v,vs= #[v]:=Array.size_eq_one_iff.1 h1;have e:v= .string ⟨s.toArray⟩:=((h2 0 ac7).lD).1;subst e;refine(Tryz.Eo ⟨s.toArray⟩ c.w (by simpa[ByteArray.size]using hs)).mono ?_
 rintro e w' ⟨rfl,hb⟩
 have hl:=Bj s hs;exact⟨⟨_,rfl,fun c' _=> .s _ (by show(nW s).length<lim;have:(194:Nat)<lim:=ac4;omega)⟩,hb⟩
end Go.Proofs.YtfdgemhnlennbaaGreatDoor
namespace Go.Ab
open Go
inductive Av (F:Nat→Prop):AV→Prop where
 |v (x:Value):Av F (.v x)
 |s (l:List UInt8):Av F (.s l)
 |agg (xs:List AV) (h:∀x∈xs,Av F x):Av F (.agg xs)
 |tup (xs:List AV) (h:∀x∈xs,Av F x):Av F (.tup xs)
 |sl (xs:List AV) (p:Perm) (h:∀x∈xs,Av F x) (hp:∀id,p= .own id→¬F id):Av F (.sl xs p)
 |pe (x:AV) (o:Nat) (h:Av F x):Av F (.pe x o)
 |ptr (id o:Nat) (h:¬F id):Av F (.ptr id o)
 |oa (id o l:Nat) (h:¬F id):Av F (.oa id o l)
 |ob (id o l c z:Nat) (h:¬F id):Av F (.ob id o l c z)
 |ifc (t:TypeId) (x:AV) (h:Av F x):Av F (.ifc t x)
 |fn (f:FuncId) (xs:List AV) (h:∀x∈xs,Av F x):Av F (.fn f xs)
 |mp (id:Nat) (h:¬F id):Av F (.mp id)
theorem Av.cells{F:Nat→Prop}{x:AV}(h:Av F x):∀y∈x.cells,Av F y:=by
 cases h with
 |agg xs hx=>exact hx
 |_=>intro y hy;rw[List.mem_singleton.1 hy];constructor<;>assumption
theorem Av.D8{F:Nat→Prop}{x:AV}(h:∀y∈x.cells,Av F y):Av F x:=by
 cases x with
 |agg xs=>exact .agg xs h
 |_=>exact h _ (List.mem_singleton.2 rfl)
theorem Rep.av{c:Cx}{F:Nat→Prop}(hF:∀id,F id→c.h id=none){x:AV}{u:Value}(h:Rep c x u):Av F x:=by
 have nf:∀ {id:Nat} {k:Blk},c.h id=some k→¬F id:=fun hk hf=>ac1
 induction h with
 |v x=>exact .v x
 |s l hl=>exact .s l
 |agg xs vs hn hr ho ih=>exact .agg xs fun x hx=>aeK
 |tup xs vs hn hr ih=>exact .tup xs fun x hx=>aeK
 |sl xs p a cap sz val hc hm h0 hs hz hf hr ho hp ih=>
  refine .sl xs p (fun x hx=>?_) fun id e=>?_
  ·obtain⟨i,hi,rfl⟩:=List.mem_iff_getElem.1 hx
   refine .D8 fun y hy=>?_
   obtain⟨j,hj,rfl⟩:=List.mem_iff_getElem.1 hy
   grind
  ·subst e
   obtain⟨m,h1,_⟩:=hp
   grind
 |pe x off b o val hb hf hr ho ih=>
  refine .pe x off (.D8 fun y hy=>?_)
  obtain⟨j,hj,rfl⟩:=List.mem_iff_getElem.1 hy
  grind
 |ptr id off cs t h=>exact .ptr _ _ (nf h)
 |oa id off len cap o cs t h hc hm ho=>exact .oa _ _ _ (nf h)
 |ob id off len cap sz o cs t h hc hm ho=>exact .ob _ _ _ _ _ (nf h)
 |ifc t x u h ih=>exact .ifc t x ih
 |fn f xs vs hn hr ih=>exact .fn f xs fun x hx=>aeK
 |mp id m h=>exact .mp _ (nf h)
noncomputable def Cx.back (c' :Cx) (g:Heap):Cx:={c' with h:=fun id=>if g id=none then none else c'.h id}
theorem uL{c' :Cx}{g:Heap}{id:Nat}{k:Blk}(h:(c'.back g).h id=some k):g id≠none∧c'.h id=some k:=by
 grind [Cx.back]
theorem kN{c' :Cx}{g:Heap}{id:Nat}(h:g id≠none):(c'.back g).h id=c'.h id:=by
 simp_all [Cx.back,if_false]
theorem xW{c' :Cx}{g:Heap}{b o:Nat}(h:owned (c'.back g) b o):owned c' b o:=by
 obtain⟨id,k,h1,h2,h3⟩:=h;exact⟨id,k,(uL h1).2,h2,h3⟩
theorem xV{c' :Cx}{g:Heap}{b o:Nat}{u:Value}(h:fix c' b o u):fix (c'.back g) b o u:=⟨h.1,fun ho=>h.2 (xW ho)⟩
theorem Rep.back{c' :Cx}{g:Heap}{x:AV}{u:Value}(h:Rep c' x u)(ha:Av (fun id=>g id=none) x):Rep (c'.back g) x u:=by
 induction h with
 |v x=>exact .v x
 |s l hl=>exact .s l hl
 |agg xs vs hn hr ho ih=>cases ha with|agg _ ha=>exact .agg xs vs hn ac1 ho
 |tup xs vs hn hr ih=>cases ha with|tup _ ha=>exact .tup xs vs hn ac1
 |sl xs p a cap sz val hc hm h0 hs hz hf hr ho hp ih=>
  cases ha with
  |sl _ _ ha hq=>
   refine .sl xs p a cap sz val hc hm h0 hs hz (by grind [xV]) (fun i hi j hj=>ih i hi j hj ((ha _ (acV hi)).cells _ (acV hj))) ho ?_
   cases p with
   |no=>trivial
   |full=>exact hp
   |own id=>
    obtain⟨m,h1,h2,h3⟩:=hp;exact⟨m,by rw[kN (hq id rfl)];omega,h2,h3⟩
 |pe x off b o val hb hf hr ho ih=>
  cases ha with
  |pe _ _ ha=>exact .pe x off b o val hb (by grind [xV]) (fun j hj=>ih j hj (ha.cells _ (acV hj))) ho
 |ptr id off cs t h=>cases ha with|ptr _ _ ha=>exact .ptr id off cs t (by grind [kN])
 |oa id off len cap o cs t h hc hm ho=>cases ha with|oa _ _ _ ha=>exact .oa id off len cap o cs t (by grind [kN]) hc hm ho
 |ob id off len cap sz o cs t h hc hm ho=>cases ha with|ob _ _ _ _ _ ha=>exact .ob id off len cap sz o cs t (by grind [kN]) hc hm ho
 |ifc t x u h ih=>cases ha with|ifc _ _ ha=>exact .ifc t x u (ih ha)
 |fn f xs vs hn hr ih=>cases ha with|fn _ _ ha=>exact .fn f xs vs hn ac1
 |mp id m h=>cases ha with|mp _ ha=>exact .mp id m (by grind [kN])
inductive Frz (g h:Heap):AV→AV→Prop where
 |keep (x:AV) (ha:Av (fun id=>g id=none) x):Frz g h x x
 |agg (xs ys:List AV) (hn:xs.length=ys.length) (hr:∀i (h1:i<xs.length) (h2:i<ys.length),Frz g h xs[i] ys[i]):Frz g h (.agg xs) (.agg ys)
 |tup (xs ys:List AV) (hn:xs.length=ys.length) (hr:∀i (h1:i<xs.length) (h2:i<ys.length),Frz g h xs[i] ys[i]):Frz g h (.tup xs) (.tup ys)
 |sl (xs ys:List AV) (p:Perm) (hn:xs.length=ys.length) (hz:∀i (h1:i<xs.length) (h2:i<ys.length),xs[i].cells.length=ys[i].cells.length)
   (hr:∀i (h1:i<xs.length) (h2:i<ys.length) j (h3:j<xs[i].cells.length) (h4:j<ys[i].cells.length),Frz g h xs[i].cells[j] ys[i].cells[j]):Frz g h (.sl xs p) (.sl ys .no)
 |ob (id off len cap sz:Nat) (cs:List AV) (t:TypeId) (ys:List AV) (hg:g id=none) (hh:h id=some (.obj cs t)) (hl:off+len*sz≤cs.length) (hn:ys.length=len) (hz:∀i (h1:i<ys.length),ys[i].cells.length=sz)
   (hr:∀i (h1:i<ys.length) j (h3:j<ys[i].cells.length) (h4:off+(i*sz+j)<cs.length),Frz g h (cs[off+(i*sz+j)]) ys[i].cells[j]):Frz g h (.ob id off len cap sz) (.sl ys .no)
 |ptr (id off:Nat) (cs:List AV) (t:TypeId) (ys:List AV) (hg:g id=none) (hh:h id=some (.obj cs t)) (hn:cs.length=ys.length) (hr:∀i (h1:i<cs.length) (h2:i<ys.length),Frz g h cs[i] ys[i]):Frz g h (.ptr id off) (.pe (.agg ys) off)
 |ifc (t:TypeId) (x y:AV) (hr:Frz g h x y):Frz g h (.ifc t x) (.ifc t y)
theorem Frz.rep{c' :Cx}{g h:Heap}(gd:Good c')(hh:Sub h c'.h){x y:AV}(hz:Frz g h x y):∀ {u:Value},Rep c' x u→Rep (c'.back g) y u:=by
 have nown:∀ {id:Nat} {k:Blk} {o:Nat},g id=none→h id=some k→¬owned (c'.back g) (c'.φ id).block o:=fun {id k o} h1 h2 ho=>by
  obtain⟨j,l,h3,h4,h5⟩:=ho;obtain⟨h6,h7⟩:=uL h3;exact gd.inj j id l k h7 (hh _ _ h2) (fun e=>h6 ac1) h4
 induction hz with
 |keep x ha=>exact fun hr=>hr.back ha
 |agg xs ys hn hr ih=>
  intro u hu;obtain⟨vs,rfl,h1,h2,h3⟩:=hu.oQ;exact .agg ys vs ac0 (fun i hi=>ih i ac0 hi (h2 i ac0)) fun i hi=>h3 i ac0
 |tup xs ys hn hr ih=>
  intro u hu;obtain⟨vs,rfl,h1,h2⟩:=hu.CE;exact .tup ys vs ac0 (fun i hi=>ih i ac0 hi (h2 i ac0))
 |sl xs ys p hn hz hr ih=>
  intro u hu;obtain⟨a,cap,sz,val,rfl,hs⟩:=hu.iB;rw[hn];have hcap:=hs.hc;refine .sl ys .no a cap sz val ac0 hs.hm hs.h0 hs.hs (fun i hi=>by rw[←hz i ac0 hi];exact hs.hz i ac0) (fun q hq i j hi hj=>xV (hs.hf q hq i j ac0 hj)) (fun i hi j hj=>?_) (fun i j hi hj=>hs.ho i j ac0 hj) trivial
  exact ih i ac0 hi j ac1 hj (hs.hr i ac0 j ac1)
 |ob id off len cap sz cs t ys hg hid hl hn hz hr ih=>
  intro u hu;obtain⟨o,rfl,h1,h2,cs',t',h3,h4⟩:=hu.jq;have hcid:=hh _ _ hid;obtain⟨vs,v1,v2,v3⟩:=gd.obj id cs t hcid;subst hn;have hbd:∀i j,i<ys.length→j<sz→i*sz+j<ys.length*sz:=fun i j hi hj=>by
   have:(i+1)*sz≤ys.length*sz:=Nat.mul_le_mul_right _ ac0;rw[Nat.add_mul,Nat.one_mul]at this;omega
  refine .sl ys .no _ cap sz (fun i j=>vs.getD (off+(i*sz+j)) undef) h1 h2 (fun e=>ads) (fun q hq _=>?_) hz (fun q hq i j hi hj=>?_) (fun i hi j hj=>?_) (fun i j hi hj=>(v3 _ ac1).2) trivial
  ·cases hq
   exact⟨rfl,gd.lt hcid⟩
  ·cases hq
   obtain⟨rfl,_⟩:=h4 ac0;have hb:=hbd i j hi hj;refine⟨?_,nown hg hid⟩;have:o+(i*sz+j)<vs.size:=ac0;simp[World.cell?,Cx.back,v1,this]
  ·have hj' :j<sz:=by grind
   have hb:=hbd i j hi hj';exact ih i hi j hj ac0 (v3 _ ac0).1
 |ptr id off cs t ys hg hid hn hr ih=>
  intro u hu;obtain⟨rfl,_⟩:=hu.kS;have hcid:=hh _ _ hid;obtain⟨vs,v1,v2,v3⟩:=gd.obj id cs t hcid;have:=Rep.pe (c:=c'.back g) (.agg ys) off (c'.φ id).block 0 (fun j=>vs.getD j undef) (gd.lt hcid) (fun j hj=>by
    have hj' :j<ys.length:=hj;refine⟨?_,nown hg hid⟩
    simp_all [World.cell?,Cx.back]) (fun j hj=>by
    have hj' :j<ys.length:=hj;exact ih j ac0 hj' (v3 j ac0).1) (fun j hj=>by
    have hj' :j<ys.length:=hj;exact(v3 j ac0).2)
  rw[Nat.zero_add]at this;exact adN
 |ifc t x y hr ih=>
  intro u hu;cases hu with
  |ifc _ _ u' h=>exact .ifc t y _ (ih h)
theorem ai.freeze{P:Program}{f:FuncId}{args:List AV}{h:Heap}{Q:AV→Prop}
  (hf:∀g,Sub h g→(∀x∈args,Av (fun id=>g id=none) x)→ai P f args g fun r h' =>Sub g h'∧∃y,Frz g h' r y∧Q y):ai P f args h fun r h' =>Q r∧h' =h:=by
 intro c vs hs gd h1 h2;have hav:∀x∈args,Av (fun id=>c.h id=none) x:=fun x hx=>by
  obtain⟨i,hi,rfl⟩:=List.mem_iff_getElem.1 hx;exact(h2 i hi).av fun _ e=>e
 refine(hf c.h hs hav c vs (.refl _) gd h1 h2).mono ?_
 rintro u w' ⟨c',x,h',rfl,gd',hE,hr,hsub,hgh,y,hz,hq⟩
 have hkeep:∀id k,c.h id=some k→c'.h id=some k:=fun id k hk=>hsub _ _ (hgh _ _ hk)
 have hE2:Ext c (c'.back c.h):={
  os:=hE.os,tape:=hE.tape,output:=hE.output,size:=hE.size,block:=hE.block,cell:=hE.cell,shape:=hE.shape
  steal:=fun b o hb ho=>hE.steal b o hb (xW ho)
  obj:=fun id cs t hi=>by rw[kN ac1];exact hE.obj id cs t hi
  spare:=fun id n sz hi=>by rw[kN ac1];exact hE.spare id n sz hi
  mp:=fun id m hi=>by rw[kN ac1];exact hE.mp id m hi
  ro:=fun id b vs hi=>by rw[kN ac1];exact hE.ro id b vs hi}
 have hold:∀id k,(c'.back c.h).h id=some k→c.h id=some k∧c'.h id=some k:=fun id k hk=>by
  obtain⟨a1,a2⟩:=uL hk;cases hc:c.h id with
  |none=>grind
  |some k' =>grind
 refine⟨c'.back c.h,y,h,rfl,?_,hE2,hz.rep gd' hsub hr,fun id k hk=>?_,hq,rfl⟩
 ·refine⟨?_,fun i j k l hi hj hne=>gd'.inj i j k l (hold i k hi).2 (hold j l hj).2 hne,fun id cs t hi=>?_,fun id n sz hi=>gd'.spare id n sz (hold id _ hi).2,fun id m hi=>?_,fun id m hi=>gd'.keys id m (hold id _ hi).2,fun id b vs hi=>gd'.ro id b vs (hold id _ hi).2⟩
  ·obtain⟨N,hN⟩:=gd'.fin
   exact⟨N,fun id hid=>by grind [Cx.back]⟩
  ·obtain⟨vs,v1,v2,v3⟩:=gd'.obj id cs t (hold id _ hi).2
   obtain⟨vs0,w1,w2,w3⟩:=gd.obj id cs t (hold id _ hi).1;exact⟨vs,v1,v2,fun j hj=>⟨(v3 j hj).1.back ((w3 j hj).1.av fun _ e=>e),(v3 j hj).2⟩⟩
  ·obtain⟨es,cl,v1,v2,v3⟩:=gd'.mp id m (hold id _ hi).2
   obtain⟨es0,cl0,w1,w2,w3⟩:=gd.mp id m (hold id _ hi).1;exact⟨es,cl,v1,v2,fun i hi' hi2=>⟨(v3 i hi' hi2).1,(v3 i hi' hi2).2.back ((w3 i hi' ac0).2.av fun _ e=>e)⟩⟩
 ·rw[kN (by rw[hs _ _ hk];simp)]
  exact hkeep id k (hs _ _ hk)
section
variable {P : Program} {U : TypeId → TI} {ρ : Env} {h h' : Heap} {sz : Nat} {y : AV} {xs : List AV} {e : TypeId}
def Rd(h:Heap)(sz:Nat)(y:AV)(xs:List AV):Prop:=
 Sized sz xs∧((∃q,y= .sl xs q)∨∃id off cap cs t,y= .ob id off xs.length cap sz∧h id=some (.obj cs t)∧off+xs.length*sz≤cs.length∧(cs.drop off).take (xs.length*sz)=au xs)
theorem Rd.sl(hs:Sized sz xs)(q:Perm):Rd h sz (.sl xs q) xs:=⟨hs,.inl ⟨q,rfl⟩⟩
theorem Rd.sub(hb:Rd h sz y xs)(hs:Sub h h'):Rd h' sz y xs:=by
 obtain⟨h1,hb|⟨id,off,cap,cs,t,rfl,h2,h3⟩⟩:=hb
 ·exact⟨h1,.inl hb⟩
 ·exact⟨h1,.inr ⟨id,off,cap,cs,t,rfl,hs _ _ h2,h3⟩⟩
theorem Rd.len(hb:Rd h sz y xs)(e:TypeId)(k:AV→Prop):xl y k (.slice e)=k (.i xs.length):=by
 exact aij
theorem Rd.cells(hb:Rd h sz y xs):y.cells= [y]:=by
 exact aij
theorem Rd.fit(hb:Rd h sz y xs)(m:Nat):fit y m=(m=1):=by
 exact aij
theorem Rd.src(hb:Rd h sz y xs)(hz:(U e).sz=sz){f:List AV→Prop}(hf:f xs):iD U e h y f:=by
 obtain⟨_,⟨q,rfl⟩|⟨id,off,cap,cs,t,rfl,h2,h3,h4⟩⟩:=hb
 ·exact hf
 ·rw[Pj,h2]
  exact⟨hz.symm,xs,rfl,h3,h4.symm,hf⟩
def At(h:Heap)(p x:AV)(o:Nat):Prop:=p= .pe x o∨∃id a cs t,p= .ptr id (a+o)∧h id=some (.obj cs t)∧a+x.cells.length≤cs.length∧(cs.drop a).take x.cells.length=x.cells
theorem At.sub{p x:AV}{o:Nat}(ha:At h p x o)(hs:Sub h h'):At h' p x o:=by
 rcases ha with rfl|⟨id,a,cs,t,rfl,h2,h3⟩
 ·exact .inl rfl
 ·exact .inr ⟨id,a,cs,t,rfl,hs _ _ h2,h3⟩
theorem Gp{cs:List AV}{x:AV}{a o:Nat}{i:TI}{k:AV→Prop}(h1:a+x.cells.length≤cs.length)(h2:(cs.drop a).take x.cells.length=x.cells)(h3:i.sz≠0)(h4:o+i.sz≤x.cells.length):iA cs (a+o) i k=iA x.cells o i k:=by
 unfold iA;split
 ·have e:(cs.drop (a+o)).take i.sz=(x.cells.drop o).take i.sz:=by
   grind [List.drop_take,List.drop_drop,Nat.min_eq_left]
  apply propext
  grind
 grind
theorem At.part{p x:AV}{o:Nat}(ha:At h p x o){ty:TypeId}(hz:(U ty).sz≠0)(hl:o+(U ty).sz≤x.cells.length)(k:AV→Prop):nI U h ty p k=iA x.cells o (U ty) k:=by
 rcases ha with rfl|⟨id,a,cs,t,rfl,h2,h3,h4⟩
 ·rw[L9]
  unfold atA;split
  ·rename_i hc
   obtain⟨rfl,hc2,hc3⟩:=hc;unfold iA;split
   ·rename_i hag
    rw[hag]at hc3;have:x= .agg x.cells:=by cases x<;>first|rfl|cases hc3
    rw[List.drop_zero,←hc2,List.take_length,Nat.zero_add,←this];simp
   simp_all [bA,false,ot]
  ·rfl
 ·rw[JK,h2]
  exact Gp h3 h4 hz hl
theorem At.all{p x:AV}(ha:At h p x 0){ty:TypeId}(hz:(U ty).sz≠0)(hl:x.cells.length=(U ty).sz)(hg:bA x=(U ty).k.agg)(k:AV→Prop):nI U h ty p k=k x:=by
 rw[ha.part hz ac0];unfold iA;split
 ·rename_i hag
  rw[hag]at hg;have:x= .agg x.cells:=by cases x<;>first|rfl|cases hg
  rw[List.drop_zero,←hl,List.take_length,Nat.zero_add,←this];simp
 simp_all [bA,false,ot]
theorem At.field{p x:AV}{o:Nat}(ha:At h p x o){f off:Nat}{t:TypeId}{fs:List (Nat×TypeId)}{K:AV→Prop}(hf:fs[f]? =some (off,t))(hz:(U t).sz≠0)(hk:∀p',At h p' x (o+off)→K p'):yo U f p K (.strct fs):=by
 rcases ha with rfl|⟨id,a,cs,t',rfl,h2,h3,h4⟩
 ·rw[I5,hf]
  exact⟨hz,hk _ (.inl rfl)⟩
 ·rw[FG,hf]
  exact⟨hz,hk _ (.inr ⟨id,a,cs,t',ac1,h2,h3,h4⟩)⟩
theorem Rd.idx(hb:Rd h sz y xs){m:Int}{x:IntKind}{K:AV→Prop}(j:Nat)(hm:m=j)(hj:j<xs.length)(hz:(U e).sz=sz)(h0:sz≠0)(hk:∀p,At h p xs[j] 0→K p):o7 U y (.v (.int x m)) K (.slice e):=by
 subst hm;have hc:=hb.1 xs[j] (acV hj);obtain⟨hs,⟨q,rfl⟩|⟨id,off,cap,cs,t,rfl,h2,h3,h4⟩⟩:=hb
 ·refine(u6 ..).mpr ⟨ac0,?_⟩
  exact fD.at j hj ac0 (hk _ (.inl rfl))
 ·refine(AW ..).mpr ⟨ac0,hz.symm,ac0,ac0,hk _ (.inr ⟨id,off+j*sz,cs,t,ac7,h2,?_,?_⟩)⟩
  ·have:(j+1)*sz≤xs.length*sz:=Nat.mul_le_mul_right _ ac0
   rw[Nat.add_mul,Nat.one_mul]at this;rw[hc];omega
  ·have e1:=oV hs j hj
   rw[←h4,List.drop_take,List.take_take,List.drop_drop]at e1;rw[hc];have:(j+1)*sz≤xs.length*sz:=ac1;rw[Nat.add_mul,Nat.one_mul]at this;rw[Nat.min_eq_left ac0]at e1;exact e1
def Ow(tb:TypeId)(h:Heap)(sz id:Nat)(y:AV)(xs:List AV):Prop:=
 ∃cap rest,y= .ob id 0 xs.length cap sz∧h id=some (.obj (au xs++rest) tb)∧rest.length=(cap - xs.length)*sz∧xs.length≤cap∧Sized sz xs
variable {tb : TypeId} {id : Nat}
theorem Ow.rd(hw:Ow tb h sz id y xs):Rd h sz y xs:=by
 obtain⟨cap,rest,rfl,h1,h2,h3,h4⟩:=hw;have hl:=aY h4;exact⟨h4,.inr ⟨id,0,cap,_,tb,rfl,h1,ac1,ac1⟩⟩
theorem Ow.sub(hw:Ow tb h sz id y xs)(hs:Sub h h'):Ow tb h' sz id y xs:=by
 obtain⟨cap,rest,e1,h1,h2⟩:=hw;exact⟨cap,rest,e1,hs _ _ h1,h2⟩
theorem Ow.same(hw:Ow tb h sz id y xs)(hs:h' id=h id):Ow tb h' sz id y xs:=by
 obtain⟨cap,rest,e1,h1,h2⟩:=hw;exact⟨cap,rest,e1,hs.trans h1,h2⟩
theorem Ow.none(hw:Ow tb h sz id y xs):h id≠Option.none:=by
 obtain⟨cap,rest,e1,h1,h2⟩:=hw
 grind
theorem Ow.make{cs:List AV}{cap:Nat}{rest:List AV}(hs:Sized sz xs)(hcs:cs=au xs){n:Nat}(hn:n=xs.length)(hc:n≤cap)(hr:rest.length=(cap - n)*sz):Ow tb (upd h id (some (.obj (cs++rest) tb))) sz id (.ob id 0 n cap sz) xs:=by
 subst hcs;subst hn
 exact⟨cap,rest,rfl,ah ..,hr,hc,hs⟩
theorem j9.ow{cs:List AV}{n:Nat}{Q:AV→Heap→Prop}(hs:Sized sz xs)(hcs:cs=au xs)(hn:n=xs.length)(hk:∀id y h',h id=Option.none→Ow tb h' sz id y xs→(∀j,j≠id→h' j=h j)→Q y h'):j9 h cs n sz tb Q:=
 fun id cap rest hid hc hr=>hk id _ _ hid (Ow.make hs hcs hn hc hr) fun j hj=>ag _ _ hj
theorem JV{us vs:List AV}{o:Nat}{c:List AV}:over (us++vs) (us.length+o) c=us++over vs o c:=by
 simp[Ab.over,Nat.add_assoc,List.take_length_add_append,List.drop_length_add_append,List.append_assoc]
theorem Jf{xs:List AV}(hs:Sized sz xs)(j:Nat)(hj:j<xs.length)(x:AV)(hx:x.cells.length=sz):au (xs.set j x)=over (au xs) (j*sz) x.cells:=by
 induction xs generalizing j with
 |nil=>grind
 |cons a r ih=>
  have h1:=hs a ac7;have h2:Sized sz r:=fun z hz=>hs z ac1
  cases j with
  |zero=>
   simp only[List.set_cons_zero,kC,Ab.over,Nat.zero_mul,List.take_zero,List.nil_append,Nat.zero_add];rw[hx,←h1,List.drop_left]
  |succ j=>
   have hj' :j<r.length:=ac1;have e1:(j+1)*sz=a.cells.length+j*sz:=ac1;rw[List.set_cons_succ,kC,kC,ih h2 j hj',e1,JV]
theorem Je{xs:List AV}(hs:Sized sz xs)(j:Nat)(hj:j<xs.length)(o:Nat)(c:List AV)(ho:o+c.length≤sz):over (au xs) (j*sz+o) c=au (xs.set j (.agg (over xs[j].cells o c))):=by
 have hc:=hs xs[j] (acV hj);have hl:(over xs[j].cells o c).length=sz:=by grind [iu]
 rw[Jf hs j hj (.agg (over xs[j].cells o c)) hl];have hp:=oV hs j hj;have e1:(au xs).take (j*sz+o)=(au xs).take (j*sz)++xs[j].cells.take o:=by
  rw[←hp,List.take_take,Nat.min_eq_left ac0,List.take_add]
 have e2:(au xs).drop (j*sz+o+c.length)=xs[j].cells.drop (o+c.length)++(au xs).drop (j*sz+sz):=by
  have e3:(au xs).drop (j*sz)=xs[j].cells++(au xs).drop (j*sz+sz):=by
   grind [List.drop_drop,List.take_append_drop]
  rw[Nat.add_assoc,←List.drop_drop,e3,List.drop_append_of_le_length ac0]
 show over (au xs) (j*sz+o) c=over (au xs) (j*sz) (over xs[j].cells o c)
 grind [over,Ab.over,List.append_assoc]
theorem Mt{us vs:List AV}{o:Nat}{c:List AV}(h1:o+c.length≤us.length):over (us++vs) o c=over us o c++vs:=by
 grind [Ab.over,List.append_assoc]
theorem Ow.idx(hw:Ow tb h sz id y xs){m:Int}{x:IntKind}{K:AV→Prop}(j:Nat)(hm:m=j)(hj:j<xs.length)(hz:(U e).sz=sz)(h0:sz≠0)(hk:K (.ptr id (j*sz))):o7 U y (.v (.int x m)) K (.slice e):=by
 obtain⟨cap,rest,rfl,h1,h2,h3,h4⟩:=hw
 simp_all [AW,Nat.zero_add,Int.toNat_natCast]
def OwE(tb:TypeId)(h0 h:Heap)(sz:Nat)(y:AV)(xs:List AV):Prop:=(xs= []∧y= .sl [] .full)∨∃id,h0 id=Option.none∧Ow tb h sz id y xs
variable {h0 : Heap}
theorem OwE.rd(hw:OwE tb h0 h sz y xs):Rd h sz y xs:=by
 rcases hw with⟨rfl,rfl⟩|⟨id,_,hw⟩
 ·exact .sl (fun z hz=>ac1) _
 ·exact hw.rd
theorem OwE.sub(hw:OwE tb h0 h sz y xs)(hs:Sub h h'):OwE tb h0 h' sz y xs:=by
 rcases hw with hw|⟨id,h1,hw⟩
 ·exact ag1
 ·exact .inr ⟨id,h1,hw.sub hs⟩
theorem OwE.ow(hw:OwE tb h0 h sz y xs)(hn:xs≠ []):∃id,h0 id=Option.none∧Ow tb h sz id y xs:=by
 rcases hw with hw|hw
 ·grind
 omega
theorem OwE.app{v:AV}{zs:List AV}{Q:AV→Heap→Prop}(hw:OwE tb h0 h sz y xs)(hs0:Sub h0 h)(hb:Rd h sz v zs)(hz:(U tb).sz=sz)(h1:sz≠0)(hby:(U tb).bytes≠0)(hf:Ab.fit (U tb).zero sz)(hne:zs≠ [])(hlen:(xs.length+zs.length)*(U tb).bytes≤140737488355328)
  (hk:∀id y' h',h0 id=Option.none→(h id=Option.none∨∃l c,y= .ob id 0 l c sz)→Ow tb h' sz id y' (xs++zs)→(∀j,j≠id→h' j=h j)→Q y' h'):apK U h y v Q (.slice tb):=by
 subst hz;rcases hw with⟨rfl,rfl⟩|⟨id,h2,cap,rest,rfl,h3,h4,h5,h6⟩
 ·refine(qk ..).mpr ⟨h1,hby,hb.src rfl ⟨by simp[Sized],hb.1,ac0,fun hn=>(hne hn).elim,fun _=>?_⟩⟩
  refine .ob hf (j9.ow (by simpa using hb.1) adg ac7 fun id y' h' hid hw ho=>?_)
  exact hk id _ _ (hs0.none hid) (.inl hid) ac1 ho
 ·have hl:=aY h6
  refine⟨h1,hby,rfl,hb.src rfl ⟨hb.1,hlen,?_⟩⟩;rw[h3];have hsz:Sized (U tb).sz (xs++zs):=fun z hz=>(List.mem_append.1 hz).elim (h6 z) (hb.1 z)
  refine⟨ac1,hf,fun hle=>?_,fun hgt=>?_⟩
  ·have hlz:=aY hb.1
   have hmul:(cap - xs.length)*(U tb).sz=zs.length*(U tb).sz+(cap - (xs.length+zs.length))*(U tb).sz:=by rw[←Nat.add_mul];grind
   refine hk id _ _ h2 (.inr ⟨_,_,rfl⟩) ⟨cap,rest.drop (zs.length*(U tb).sz),ac7,?_,?_,ac1,hsz⟩ fun j hj=>ag _ _ hj
   ·simp_all [ah,mq,Nat.zero_add,Ab.over,List.take_left,List.drop_append,List.drop_of_length_le]
   grind
  ·refine j9.ow hsz ?_ ac7 fun id' y' h' hid hw ho=>?_
   ·grind [mq,List.take_left]
   ·exact hk id' _ _ (hs0.none hid) (.inl hid) hw ho
theorem wN {f : FuncId} {fn : Func} {tS tR : TypeId} (hU : ∀ t, aO P U t) (hfn : P.funcs[f]? = some fn) (hname : (fn.name == "runtime.NumGoroutine") = false) (hb : fn.body.isNone = true) (hn : Extern.findNext fn = Option.none)
  (he:Extern.find fn=some (Extern.SlicesOverlaps.overlaps #[tS,tS] #[tR])) (hty:(U tS).k= .slice e) (hz:(U e).sz≠0) {q:Perm} (hx:Sized (U e).sz xs) (hne:xs≠ []) {id off len cap sz:Nat} {cs:List AV} {t:TypeId} (hid:h id=some (.obj cs t)) (hcs:cs≠ []):
  ai P f [.sl xs q,.ob id off len cap sz] h fun r h' =>r= .b false∧h' =h:=by
 intro c vs hs g h1 h2;obtain⟨a,cap0,sz0,val,hu,sl⟩:=(h2 0 ac7).iB;obtain⟨o,hv,_⟩:=(h2 1 ac7).jq;have hd:=(hU tS).desc;rw[hty]at hd;have hpos:0<xs.length:=List.length_pos_iff.2 hne;have hcap:=sl.hc;obtain⟨qa,rfl⟩:∃qa,a=some qa:=by
  cases a with
  |none=>have:=sl.h0 rfl;omega
  |some qa=>simp
 have hs0:sz0=(U e).sz:=by rw[←sl.hz 0 hpos];exact hx _ (acV hpos)
 have hf:=sl.hf qa rfl 0 0 hpos ac0;have hq:=(sl.hs qa rfl ac0).1;have hcid:=hs _ _ hid;obtain⟨us,u1,u2,u3⟩:=g.obj id cs t hcid;have hnb:qa.block≠(c.φ id).block:=fun hh=>hf.2 ⟨id,_,hcid,hh.symm,Nat.zero_le _⟩
 obtain⟨ws,tw,fr,hws,hwlt⟩:∃ws tw fr,c.w.heap[qa.block]? =some (.cells ws tw fr)∧0<ws.size:=by
  have:=hf.1;simp only[World.cell?]at this;split at this
  ·rename_i ws tw fr hh
   refine⟨ws,tw,fr,hh,?_⟩
   grind
  all_goals cases this
 have hvs:vs= #[.slice (some qa) xs.length cap0,.slice (some ⟨(c.φ id).block,o,Option.none⟩) len cap]:=by
  apply Array.ext
  ·omega
  ·intro i hi hi2
   have hi3:i<2:=ac0;rcases i with _|_|i
   ·simpa[Array.getD,hi]using hu
   ·simpa[Array.getD,hi]using hv
   ·omega
 subst hvs;refine .inr ⟨.bool false,c.w,?_,c,_,h,rfl,g,.refl c,.v _,hs,rfl,rfl⟩;rw[Go.run_callFunc_extern hfn hname hb hn he];have key:(Extern.SlicesOverlaps.overlaps #[tS,tS] #[tR] #[.slice (some qa) xs.length cap0,.slice (some ⟨(c.φ id).block,o,Option.none⟩) len cap]).run P c.w= .ok (.bool false) c.w:=by
  have hnb1:(qa.block !=(c.φ id).block)=true:=ac1;have hnb2:(qa.block==(c.φ id).block)=false:=ac1;have hws2:∃m,ws.size=m+1:=⟨ws.size - 1,ac0⟩;obtain⟨m,hm⟩:=hws2
  change Sem.run P (α:=Value) (do
   let some t := (#[tS, tS] : Array TypeId)[0]? | stuck "slices.overlaps: no parameter types"
   let .slice elem ← underlying t | stuck "slices.overlaps: slice type expected"
   let size←sizeOf elem
   match (some qa:Option Addr),(some ⟨(c.φ id).block,o,Option.none⟩:Option Addr)with
   |some a,some b=>
    if xs.length=0∨len=0∨size=0 then pure (Value.bool false)
    else if a.block !=b.block && (←frozen a) && (←frozen b)then unsupported .addressObserved
    else do
     if a.block !=b.block then do
      noView a;noView b
      if ← mayBeOne a b then return Value.bool ((← choose (.extern "sameAddr.stringBytes" 2)) == 1)
     pure (Value.bool (a.block==b.block && a.off<b.off+len*size && b.off<a.off+xs.length*size))
   |_,_=>pure (Value.bool false)) c.w=_
  have hfb:∀x,c.w.frozen? ⟨(c.φ id).block,x,Option.none⟩=false:=fun x=>by grind [World.frozen?]
  have hsb:c.w.shape? (c.φ id).block=some (t,us.size):=by grind [World.shape?]
  have hsa:c.w.shape? qa.block=some (tw,m+1):=by grind [World.shape?]
  by_cases hl:len=0
  ·simp[run_underlying hd,bB hU hz,hl]
  ·have hus:us.size≠0:=by grind
   obtain⟨n,hn'⟩:∃n,us.size=n+1:=⟨us.size - 1,ac0⟩;rw[hn']at hsb;cases hfa:c.w.frozen? qa<;>cases hfa2:c.w.frozen? {block:=qa.block,off:=m+1}<;>
    simp[run_underlying hd,bB hU hz,hl,hne,hz,hnb1,hnb2,frozen,noView,viewAt,mayBeOne,stringish,shape,Sem.run,hsa,hsb,hfb,hfa,hfa2]
 rw[key];rfl
end
end Go.Ab
namespace Go.Bf
open Go Go.Ab
structure OpD where
 kind:Int
 subj:Txt
 case:Txt
 field:Txt
 to:Txt
 val:br
 review:Int
 text:Txt
 reason:Txt
 glass:Bool
structure xO where
 tick:Int
 actor:Txt
 what:Txt
structure dj where
 name:Txt
 val:br
structure aL where
 id:Txt
 owner:Txt
 state:Txt
 fields:List dj
 log:List xO
structure qg where
 id:Int
 tick:Int
 subj:Txt
 case:Txt
 action:Txt
 reason:Txt
 isOpen:Bool
structure ID where
 tick:Int
 case:Txt
 arg:Txt
structure gZ where
 subj:Txt
 role:Txt
structure an where
 tick:Int
 cases:List aL
 reviews:List qg
 notices:List ID
 roles:List gZ
 policy:bH
 version:Int
structure bp where
 cat:Int
 name:Txt
 bag:List br
def opC(o:OpD):List AV:=[.i o.kind,.s o.subj,.s o.case,.s o.field,.s o.to,.i o.val.kind,.i o.val.n,.s o.val.s,.i o.review,.s o.text,.s o.reason,.b o.glass]
def opA(o:OpD):AV:=.agg (opC o)
def iJ(x:xO):AV:=.agg [.i x.tick,.s x.actor,.s x.what]
def bM(f:dj):AV:=.agg [.s f.name,.i f.val.kind,.i f.val.n,.s f.val.s]
def gw(l:List dj):AV:=.sl (l.map bM) .no
def sI(l:List xO):AV:=.sl (l.map iJ) .no
def nw(c:aL):List AV:=[.s c.id,.s c.owner,.s c.state,gw c.fields,sI c.log]
def cq(c:aL):AV:=.agg (nw c)
def gb(l:List aL):AV:=.sl (l.map cq) .no
def iO(r:qg):AV:=.agg [.i r.id,.i r.tick,.s r.subj,.s r.case,.s r.action,.s r.reason,.b r.isOpen]
def kj(l:List qg):AV:=.sl (l.map iO) .no
def nc(n:ID):AV:=.agg [.i n.tick,.s n.case,.s n.arg]
def lu(l:List ID):AV:=.sl (l.map nc) .no
def eJ(r:gZ):AV:=.agg [.s r.subj,.s r.role]
def dY(l:List gZ):AV:=.sl (l.map eJ) .no
def fX:bH→List AV
 |.mk id set alg tgt rules kids obls=>[.s id,.b set,.i alg,aV tgt,.sl (rules.map aC) .no,.sl (fG kids) .no,aA obls]
theorem O1(p:bH):aM p= .agg (fX p):=by cases p;rfl
def cM(s:an):AV:=.agg ([.i s.tick,gb s.cases,kj s.reviews,lu s.notices,dY s.roles]++fX s.policy++ [.i s.version])
def ld(g:bp):AV:=.agg [.i g.cat,.s g.name,.sl (g.bag.map aQ) .no]
def bI(l:List bp):AV:=.sl (l.map ld) .no
def geB(a b:Txt):Bool:= !(Op.bytesLess a b)
def findD(cs:List aL)(id:Txt):Nat:=cs.findIdx fun c=>geB c.id id
def bY(cs:List aL)(id:Txt):Bool:=match cs[findD cs id]? with
 |some c=>c.id==id
 |none=>false
def aq:br:=⟨0,0,[]⟩
def oO:aL:=⟨[],[],[],[],[]⟩
def bx(cs:List aL)(id:Txt):aL:=if bY cs id then cs.getD (findD cs id) oO else oO
def eP(fs:List dj)(name:Txt):br:=match fs.find? fun f=>f.name==name with
 |some f=>f.val
 |none=>aq
def uU(a b:gZ):Bool:=a.subj==b.subj && a.role==b.role
def yC(l:List gZ)(r:gZ):Bool:=l.any (uU r)
def jE:Txt:=[111,112,101,110]
def xd:Txt:=[119,111,114,107]
def AK:Txt:=[100,111,110,101]
def gT:Txt:=[99,108,111,115,101,100]
def mJ(a b:Txt):Bool:=
 if a==jE then b==xd else if a==xd then b==AK else if a==AK then b==xd||b==gT else false
def T5:List Txt:=[[110,101,119],[114,101,97,100],[119,114,105,116,101],[109,111,118,101],[99,108,111,115,101],[114,111,108,101],[112,111,108,105,99,121]]
def iH(k:Int):Txt:=if k<1∨k>7 then [116,105,99,107]else T5.getD (k - 1).toNat []
def vl(k:Int):Bool:=decide (1≤k) && decide (k≤4)
def iW(s:Txt):Bool:=s== []||bl s
def me(o:OpD):Bool:=if o.glass then vl o.kind && (!(o.reason== [])) && decide (o.reason.length≤64)else o.reason== []
def iT(o:OpD):OpD:=
 let z:OpD:=⟨o.kind,[],[],[],[],aq,0,[],[],false⟩
 if o.kind=1 then {z with case:=o.case}
 else if o.kind=2∨o.kind=6 then {z with case:=o.case,field:=o.field}
 else if o.kind=3 then {z with case:=o.case,field:=o.field,val:=o.val}
 else if o.kind=4 then {z with case:=o.case,to:=o.to}
 else if o.kind=5∨o.kind=8 then {z with review:=o.review}
 else {z with text:=o.text}
def eqV(a b:br):Bool:=a.kind==b.kind && (a.n==b.n && a.s==b.s)
def mZ(a b:OpD):Bool:=a.kind==b.kind && (a.subj==b.subj && (a.case==b.case && (a.field==b.field && (a.to==b.to && (a.val.kind==b.val.kind && (a.val.n==b.val.n && (a.val.s==b.val.s && (a.review==b.review && (a.text==b.text && (a.reason==b.reason && a.glass==b.glass))))))))))
def okD(o:OpD):Bool:=
 if o.kind=1 then !(o.case== [])
 else if o.kind=2∨o.kind=6 then !(o.case== []) && !(o.field== [])
 else if o.kind=3 then !(o.case== []) && !(o.field== []) && !(eqV o.val aq)
 else if o.kind=4 then !(o.case== []) && !(o.to== [])
 else if o.kind=5 then decide (0<o.review)
 else if o.kind=8 then decide (0<o.review) && decide (o.review≤1099511627776)
 else true
def gQ(o:OpD):OpD:={o with subj:=[],reason:=[],glass:=false}
def dK(o:OpD):Bool:=decide (1≤o.kind) && decide (o.kind≤8) && okD o && mZ (gQ o) (iT o)
def cV(o:OpD):Bool:=bl o.subj && me o && decide (o.text.length≤4096) && iW o.case && iW o.field && iW o.to && (eqV o.val aq||bz o.val) && dK o
def bX(s:an)(o:OpD):Int:=
 let c:=bx s.cases o.case
 if bY s.cases o.case=false then 10
 else if o.kind=3∧c.fields.length≥16∧eqV (eP c.fields o.field) aq=true then 6
 else if o.kind≠2∧c.log.length≥256 then 6
 else if o.kind=3∧c.state=gT∨o.kind=4∧mJ c.state o.to=false then 13
 else 0
def wQ(l:List qg)(n:Int):Option qg:=if 1≤n then l[(n - 1).toNat]? else none
def fP(s:an)(o:OpD):Int:=match wQ s.reviews o.review with
 |none=>10
 |some r=>if r.isOpen=false then 10 else if r.subj=o.subj then 12 else 0
def bL(s:an)(o:OpD):Int:=
 if cV o=false then 1
 else if o.kind=1 then(if bY s.cases o.case then 11 else if s.cases.length≥64 then 6 else 0)
 else if 2≤o.kind∧o.kind≤4 then bX s o
 else if o.kind=5 then fP s o
 else if o.kind=6 then(if s.roles.length≥64∧yC s.roles ⟨o.case,o.field⟩=false then 6 else 0)
 else if o.kind=8 then(if s.tick>1099511627776 - o.review then 6 else 0)
 else 0
def idV(s:Txt):br:=⟨5,0,s⟩
def uw(l:List xO)(subj:Txt):br:=⟨1,if l.any (fun x=>x.actor==subj)then 1 else 0,[]⟩
def idT:Txt:=[105,100]
def cD(c:aL)(subj:Txt):List bp:=
 [⟨3,idT,[idV c.id]⟩,⟨3,[111,119,110,101,114],[idV c.owner]⟩,⟨3,[115,116,97,116,101],[idV c.state]⟩,⟨3,[101,118,101,110,116,115],[⟨2,c.log.length,[]⟩]⟩,⟨3,[116,111,111,107],[uw c.log subj]⟩]++
 (match c.log.getLast? with
  |some x=>[⟨3,[108,97,115,116],[idV x.actor]⟩]
  |none=>[])++
 (c.fields.filter fun f=>decide (f.name.length≤14)).map fun f=>⟨3,[102,95]++f.name,[f.val]⟩
def di(l:List gZ)(subj:Txt):List br:=((l.filter fun r=>r.subj==subj).map fun r=>idV r.role).take 16
def fH(s:an)(o:OpD):List bp:=
 [⟨1,idT,[idV o.subj]⟩,⟨1,[114,111,108,101],di s.roles o.subj⟩,⟨2,[110,97,109,101],[idV (iH o.kind)]⟩]++
 (if o.field= []then []else [⟨2,[102,105,101,108,100],[idV o.field]⟩])++
 (if o.to= []then []else [⟨2,[116,111],[idV o.to]⟩])++
 [⟨4,[110,111,119],[⟨4,s.tick,[]⟩]⟩]++
 (if bY s.cases o.case=true∧o.kind≠6 then cD (bx s.cases o.case) o.subj else [])
def fh(fs:List dj)(name:Txt)(v:br):List dj:=
 let i:=fs.findIdx fun f=>geB f.name name
 match fs[i]? with
 |none=>fs++ [⟨name,v⟩]
 |some f=>if f.name=name then fs.set i ⟨f.name,v⟩else fs.take i++ [⟨name,v⟩]++fs.drop i
def jo(s:an)(c:aL)(actor what:Txt):aL:={c with log:=c.log++ [⟨s.tick,actor,what⟩]}
def doD(par:Txt→bH×Int×Int)(s:an)(o:OpD):an:=
 let i:=findD s.cases o.case
 if o.kind=1 then {s with cases:=s.cases.take i++ [jo s ⟨o.case,o.subj,jE,[],[]⟩ o.subj [110,101,119]]++s.cases.drop i}
 else if o.kind=3 then {s with cases:=s.cases.modify i fun c=>jo s {c with fields:=fh c.fields o.field o.val} o.subj [119,114,105,116,101]}
 else if o.kind=4 then {s with cases:=s.cases.modify i fun c=>jo s {c with state:=o.to} o.subj o.to}
 else if o.kind=5 then {s with reviews:=s.reviews.modify (o.review - 1).toNat fun r=> {r with isOpen:=false}}
 else if o.kind=6 then(if yC s.roles ⟨o.case,o.field⟩then s else {s with roles:=s.roles++ [⟨o.case,o.field⟩]})
 else if o.kind=7 then(if(par o.text).2.1=0 then {s with policy:=(par o.text).1,version:=s.version+1} else s)
 else if o.kind=8 then {s with tick:=s.tick+o.review}
 else s
def dS(par:Txt→bH×Int×Int)(s:an)(o:OpD):an:=if bL s o=0 then doD par s o else s
def i64(n:Int):Prop:= -9223372036854775808≤n∧n≤9223372036854775807
end Go.Bf
namespace Go.Proofs.YtfdgemhnlennbaaGreatDoor
open Go Go.Ab Go.Bf
theorem aB{h:Heap}{i j:Nat}{b:Blk}(e:upd h i (some b) j=none):h j=none:=by grind [ag,aH]
theorem Np{v:br}(h:(v.kind==(0:Int) && (v.n==(0:Int) && v.s==([]:Txt)))=false):¬v.kind=0∨¬v.n=0∨¬v.s= []:=by
 grind
theorem No{v:br}(h:(v.kind==(0:Int) && (v.n==(0:Int) && v.s==([]:Txt)))=true):v.kind=0∧v.n=0∧v.s= []:=by
 grind
theorem JS(k:Int)(h:Heap):ai Tryz.prog 130 [.i k] h fun r h' =>r= .b (vl k)∧h' =h:=by
 refine acZ Tryz.func130 9 [.tmp 2] fun hwf=>?_
 cases d1:decide (1≤k)
 ·simp only[go_sem,d1]
  exact .same (.refl _) ⟨by simp only[vl,d1,ax,Bool.false_and],rfl⟩
 ·simp only[go_sem,d1]
  exact .same (.refl _) ⟨by simp_all [vl,ax,Bool.true_and],rfl⟩
theorem yg(s:Txt)(h:Heap):ai Tryz.prog 74 [.s s] h fun r h' =>r= .b (iW s)∧h' =h:=by
 refine acZ Tryz.func74 9 [.tmp 2] fun hwf=>?_
 cases d1:(s==([]:Txt))
 ·simp only[go_sem,d1]
  refine(pn s h).pthen ?_;simp only[go_sem];exact .same (.refl _) ⟨by simp_all [iW,ax,Bool.false_or],rfl⟩
 ·simp only[go_sem,d1]
  exact .same (.refl _) ⟨by simp_all [iW,ax,Bool.true_or],rfl⟩
theorem FQ(a b:Txt)(h:Heap):ai Tryz.prog 161 [.s a,.s b] h fun r h' =>r= .b (mJ a b)∧h' =h:=by
 refine acZ Tryz.func161 22 [.tmp 4] fun hwf=>?_
 cases d1:(a==jE)<;>cases d2:(a==xd)<;>cases d3:(a==AK)<;>cases d4:(b==xd)<;>simp only[jE,xd,AK]at d1 d2 d3 d4<;>simp only[go_sem,d1,d2,d3,d4]<;>
  exact .same (.refl _) ⟨by simp only[mJ,d1,d2,d3,d4,ax,jE,xd,AK,gT,if_true,Bool.false_eq_true,if_false,Bool.true_or,Bool.false_or],rfl⟩
theorem uH(k:Int)(hk:i64 k)(h:Heap):ai Tryz.prog 82 [.i k] h fun r h' =>r= .s (iH k)∧h' =h:=by
 refine acZ Tryz.func82 18 [.tmp 2] fun hwf=>?_
 simp only[go_sem];cases d1:decide (k<1)
 case true=>
  simp only[go_sem];exact .same (.refl _) ⟨by simp_all [iH,acS,true_or,if_true,ax],rfl⟩
 cases d2:decide ((7:Int)<k)
 case true=>
  simp only[go_sem,d2];exact .same (.refl _) ⟨by simp_all [iH,acS,or_true,if_true,ax],rfl⟩
 have h1:=acT d1;have h2:=acT d2;obtain⟨j,rfl⟩:∃j:Nat,k=(j:Int)+1:=⟨(k - 1).toNat,ac0⟩;have hj:j<7:=ac0;have w1:IntKind.i64.wrap ((j:Int)+1 - 1)=(j:Int):=adf;simp only[go_sem,d2,w1];refine .at j ac0 (by rcases j with _|_|_|_|_|_|_|j<;>first|rfl|omega) ?_
 rcases j with _|_|_|_|_|_|_|j
 all_goals first|omega|skip
 all_goals
  simp only[go_sem,List.getElem_cons_zero,List.getElem_cons_succ];exact .same (.refl _) ⟨adg,rfl⟩
theorem J5(o:OpD)(h:Heap):ai Tryz.prog 73 [opA o] h fun r h' =>r= .v (.bool (me o))∧h' =h:=by
 refine acZ Tryz.func73 23 [.tmp 2] fun hwf=>?_
 simp only[go_sem,opA,opC];intro id hid;cases d1:o.glass
 ·simp only[go_sem]
  exact aiw
 simp only[go_sem];refine(JS _ _).pthen ?_;cases d2:vl o.kind
 ·simp only[go_sem]
  exact aiw
 cases d3:(o.reason==([]:Txt))
 ·simp only[go_sem,d3]
  exact .mk _ (.refl _) (.aj hid) ⟨by
   simp only[me,d1,d2,d3,ax,if_true,Bool.not_false,Bool.true_and]
   congr 2
   grind,rfl⟩
 ·simp only[go_sem,d3]
  exact aiw
theorem NZ(o:OpD)(h:Heap):ai Tryz.prog 131 [opA o] h fun r h' =>r=opA (gQ o)∧h' =h:=by
 refine acZ Tryz.func131 7 [.cell 2 39] fun hwf=>?_
 simp only[go_sem,opA,opC];intro i1 h1;simp only[go_sem];intro i2 h2;have hne:=aH h2;simp only[go_sem,ak,hne,hne.symm];have n2:=aB h2;exact .mk _ (.refl _) (((((Sub.refl h).put h1 _).put n2 _).put h1 _).put n2 _) ⟨rfl,rfl⟩
theorem Na(o:OpD)(h:Heap):ai Tryz.prog 76 [opA o] h fun r h' =>r= .b (dK o)∧h' =h:=by
 have hb:=fun hh=>NZ o hh
 simp only[gQ,opA,opC]at hb;refine acZ Tryz.func76 111 [.tmp 2] fun hwf=>?_
 simp -implicitDefEqProofs only[go_sem,opA,opC];intro i1 h1;simp -implicitDefEqProofs only[go_sem];refine(hb _).pthen ?_;simp -implicitDefEqProofs only[go_sem];intro i3 h3;have n31:=aH h3;have n3:=aB h3;simp -implicitDefEqProofs only[go_sem,ak,n31.symm];intro i4 h4;have n43:=aH h4;have h4' :=aB h4;have n41:=aH h4';have n4:=aB h4';have bnd:o.kind≠1→o.kind≠2→o.kind≠3→o.kind≠4→o.kind≠5→o.kind≠6→o.kind≠7→o.kind≠8→(decide (1≤o.kind) && decide (o.kind≤8))=false:=by
  intro a1 a2 a3 a4 a5 a6 a7 a8;simp only[Bool.and_eq_false_iff,decide_eq_false_iff_not];omega
 by_cases k1:o.kind=1
 ·simp -implicitDefEqProofs only[go_sem,ak,n31.symm,n41.symm,k1]
  cases dcase:(o.case==([]:Txt))
  ·simp -implicitDefEqProofs only[go_sem,ak,n43.symm]
   exact .mk _ (.refl _) ac6 ⟨by simp[dK,okD,iT,gQ,mZ,aq,ax,k1,decide_true,dcase,Bool.and_true,Bool.true_and,Bool.not_false],rfl⟩
  ·simp -implicitDefEqProofs only[go_sem]
   exact .mk _ (.refl _) ac6 ⟨by simp[dK,okD,iT,gQ,mZ,aq,ax,k1,decide_true,dcase,Bool.and_true,Bool.true_and,Bool.false_and,Bool.and_false,Bool.not_true],rfl⟩
 by_cases k2:o.kind=2
 ·simp -implicitDefEqProofs only[go_sem,ak,n31.symm,n41.symm,k2,Int.reduceBEq]
  refine .calls (hm1 i1 _) [0,1,2,3,4,5,6,7] (.hm1 aeJ) ac3 rfl ?_;simp -implicitDefEqProofs only[go_sem,ak,n31.symm,n41.symm];refine⟨(.hm1 adp),(.hm1 adp),?_⟩;cases dcase:(o.case==([]:Txt))
  ·simp -implicitDefEqProofs only[go_sem,ak,n31.symm,n41.symm]
   cases dfield:(o.field==([]:Txt))
   ·simp -implicitDefEqProofs only[go_sem,ak,n43.symm]
    exact .mk _ (.refl _) ac6 ⟨by simp[dK,okD,iT,gQ,mZ,aq,ax,k2,decide_true,dcase,dfield,Bool.and_true,Bool.true_and,Bool.not_false],rfl⟩
   ·simp -implicitDefEqProofs only[go_sem]
    exact .mk _ (.refl _) ac6 ⟨by simp[dK,okD,iT,gQ,mZ,aq,ax,k2,decide_true,dcase,dfield,Bool.and_true,Bool.true_and,Bool.false_and,Bool.and_false,Bool.not_true,Bool.not_false],rfl⟩
  ·simp -implicitDefEqProofs only[go_sem]
   exact .mk _ (.refl _) ac6 ⟨by simp[dK,okD,iT,gQ,mZ,aq,ax,k2,decide_true,dcase,Bool.and_true,Bool.true_and,Bool.false_and,Bool.and_false,Bool.not_true],rfl⟩
 by_cases k6:o.kind=6
 ·simp -implicitDefEqProofs only[go_sem,ak,n31.symm,n41.symm,k6,Int.reduceBEq]
  refine .calls (hm1 i1 _) [0,1,2,3,4,5,6,7] (.hm1 aeJ) ac3 rfl ?_;simp -implicitDefEqProofs only[go_sem,ak,n31.symm,n41.symm];refine⟨(.hm1 adp),(.hm1 adp),?_⟩;cases dcase:(o.case==([]:Txt))
  ·simp -implicitDefEqProofs only[go_sem,ak,n31.symm,n41.symm]
   cases dfield:(o.field==([]:Txt))
   ·simp -implicitDefEqProofs only[go_sem,ak,n43.symm]
    exact .mk _ (.refl _) ac6 ⟨by simp[dK,okD,iT,gQ,mZ,aq,ax,k6,decide_true,dcase,dfield,Bool.and_true,Bool.true_and,Bool.not_false],rfl⟩
   ·simp -implicitDefEqProofs only[go_sem]
    exact .mk _ (.refl _) ac6 ⟨by simp[dK,okD,iT,gQ,mZ,aq,ax,k6,decide_true,dcase,dfield,Bool.and_true,Bool.true_and,Bool.false_and,Bool.and_false,Bool.not_true,Bool.not_false],rfl⟩
  ·simp -implicitDefEqProofs only[go_sem]
   exact .mk _ (.refl _) ac6 ⟨by simp[dK,okD,iT,gQ,mZ,aq,ax,k6,decide_true,dcase,Bool.and_true,Bool.true_and,Bool.false_and,Bool.and_false,Bool.not_true],rfl⟩
 by_cases k3:o.kind=3
 ·simp -implicitDefEqProofs only[go_sem,ak,n31.symm,n41.symm,k3,Int.reduceBEq]
  refine .calls (hm1 i1 _) [0,1,2,3,4,5,6,7,8,9,10,11] (.hm1 aeJ) ac3 rfl ?_;simp -implicitDefEqProofs only[go_sem,ak,n31.symm,n41.symm];refine⟨(.hm1 adp),(.hm1 adp),(.hm1 adp),?_⟩;cases dcase:(o.case==([]:Txt))
  ·simp -implicitDefEqProofs only[go_sem,ak,n31.symm,n41.symm]
   cases dfield:(o.field==([]:Txt))
   ·simp -implicitDefEqProofs only[go_sem,ak,n31.symm,n41.symm]
    cases dval:(o.val.kind==(0:Int) && (o.val.n==(0:Int) && o.val.s==([]:Txt)))
    ·simp -implicitDefEqProofs only[go_sem,ak,n43.symm]
     exact .mk _ (.refl _) ac6 ⟨adw,rfl⟩
    ·simp -implicitDefEqProofs only[go_sem]
     exact .mk _ (.refl _) ac6 ⟨adw,rfl⟩
   ·simp -implicitDefEqProofs only[go_sem]
    exact .mk _ (.refl _) ac6 ⟨by simp[dK,okD,iT,gQ,mZ,eqV,aq,ax,k3,decide_true,dcase,dfield,Bool.and_true,Bool.true_and,Bool.false_and,Bool.and_false,Bool.not_true,Bool.not_false],rfl⟩
  ·simp -implicitDefEqProofs only[go_sem]
   exact .mk _ (.refl _) ac6 ⟨by simp[dK,okD,iT,gQ,mZ,eqV,aq,ax,k3,decide_true,dcase,Bool.and_true,Bool.true_and,Bool.false_and,Bool.and_false,Bool.not_true],rfl⟩
 by_cases k4:o.kind=4
 ·simp -implicitDefEqProofs only[go_sem,ak,n31.symm,n41.symm,k4,Int.reduceBEq]
  refine .calls (hm1 i1 _) [0,1,2,3,4,5,6,7] (.hm1 aeJ) ac3 rfl ?_;simp -implicitDefEqProofs only[go_sem,ak,n31.symm,n41.symm];refine⟨(.hm1 adp),(.hm1 adp),?_⟩;cases dcase:(o.case==([]:Txt))
  ·simp -implicitDefEqProofs only[go_sem,ak,n31.symm,n41.symm]
   cases dto:(o.to==([]:Txt))
   ·simp -implicitDefEqProofs only[go_sem,ak,n43.symm]
    exact .mk _ (.refl _) ac6 ⟨by simp[dK,okD,iT,gQ,mZ,aq,ax,k4,decide_true,dcase,dto,Bool.and_true,Bool.true_and,Bool.not_false],rfl⟩
   ·simp -implicitDefEqProofs only[go_sem]
    exact .mk _ (.refl _) ac6 ⟨by simp[dK,okD,iT,gQ,mZ,aq,ax,k4,decide_true,dcase,dto,Bool.and_true,Bool.true_and,Bool.false_and,Bool.and_false,Bool.not_true,Bool.not_false],rfl⟩
  ·simp -implicitDefEqProofs only[go_sem]
   exact .mk _ (.refl _) ac6 ⟨by simp[dK,okD,iT,gQ,mZ,aq,ax,k4,decide_true,dcase,Bool.and_true,Bool.true_and,Bool.false_and,Bool.and_false,Bool.not_true],rfl⟩
 by_cases k5:o.kind=5
 ·simp -implicitDefEqProofs only[go_sem,ak,n31.symm,n41.symm,k5,Int.reduceBEq]
  cases drev0:decide ((0:Int)<o.review)
  ·simp -implicitDefEqProofs only[go_sem]
   exact .mk _ (.refl _) ac6 ⟨by simp[dK,okD,iT,gQ,mZ,aq,ax,k5,decide_true,drev0,Bool.and_true,Bool.true_and,Bool.false_and,Bool.and_false],rfl⟩
  ·simp -implicitDefEqProofs only[go_sem,ak,n43.symm]
   exact .mk _ (.refl _) ac6 ⟨by simp[dK,okD,iT,gQ,mZ,aq,ax,k5,decide_true,drev0,Bool.and_true,Bool.true_and],rfl⟩
 by_cases k7:o.kind=7
 ·simp -implicitDefEqProofs only[go_sem,ak,n31.symm,n43.symm,n41.symm,k7,Int.reduceBEq]
  exact .mk _ (.refl _) ac6 ⟨by simp[dK,okD,iT,gQ,mZ,aq,ax,k7,decide_true,Bool.and_true,Bool.true_and],rfl⟩
 by_cases k8:o.kind=8
 ·simp -implicitDefEqProofs only[go_sem,ak,n31.symm,n41.symm,k8,Int.reduceBEq]
  cases drev0:decide ((0:Int)<o.review)
  ·simp -implicitDefEqProofs only[go_sem]
   exact .mk _ (.refl _) ac6 ⟨by simp[dK,okD,iT,gQ,mZ,aq,ax,k8,decide_true,drev0,Bool.and_true,Bool.true_and,Bool.false_and,Bool.and_false],rfl⟩
  ·simp -implicitDefEqProofs only[go_sem,ak,n31.symm,n41.symm]
   cases drev1:decide (o.review≤(1099511627776:Int))
   ·simp -implicitDefEqProofs only[go_sem]
    exact .mk _ (.refl _) ac6 ⟨by simp[dK,okD,iT,gQ,mZ,aq,ax,k8,decide_true,drev0,drev1,Bool.and_true,Bool.true_and,Bool.false_and,Bool.and_false],rfl⟩
   ·simp -implicitDefEqProofs only[go_sem,ak,n43.symm]
    exact .mk _ (.refl _) ac6 ⟨by simp[dK,okD,iT,gQ,mZ,aq,ax,k8,decide_true,drev0,drev1,Bool.and_true,Bool.true_and],rfl⟩
 simp -implicitDefEqProofs only[go_sem,ak,n31.symm,n41.symm,beq_eq_false_iff_ne.2 k1,beq_eq_false_iff_ne.2 k2,beq_eq_false_iff_ne.2 k6,beq_eq_false_iff_ne.2 k3,beq_eq_false_iff_ne.2 k4,beq_eq_false_iff_ne.2 k5,beq_eq_false_iff_ne.2 k7,beq_eq_false_iff_ne.2 k8];exact .mk _ (.refl _) ac6 ⟨by simp only[dK,bnd k1 k2 k3 k4 k5 k6 k7 k8,Bool.false_and,ax],rfl⟩
theorem xB(o:OpD)(h:Heap):ai Tryz.prog 29 [opA o] h fun r h' =>r= .b (cV o)∧h' =h:=by
 have hr:=fun hh=>J5 o hh
 have ht:=fun hh=>Na o hh
 have hv:=fun hh=>fR o.val hh
 simp only[opA,opC,aQ]at hr ht hv;refine acZ Tryz.func29 48 [.tmp 2] fun hwf=>?_
 simp -implicitDefEqProofs only[go_sem,opA,opC];intro i1 h1;simp -implicitDefEqProofs only[go_sem];refine(pn o.subj _).pthen ?_;cases d1:bl o.subj
 ·simp -implicitDefEqProofs only[go_sem]
  exact .mk _ (.refl _) (.aj h1) ⟨by simp_all [cV,Bool.false_and,ax],rfl⟩
 simp -implicitDefEqProofs only[go_sem];refine(hr _).pthen ?_;cases d2:me o
 ·exact ahM
 cases d3:decide ((4096:Int)<(o.text.length:Int))
 case true=>
  have e3:decide (o.text.length≤4096)=false:=decide_eq_false ac1;simp -implicitDefEqProofs only[go_sem,d3];exact .mk _ (.refl _) (.aj h1) ⟨by simp only[cV,d1,d2,e3,Bool.false_and,Bool.true_and,ax],rfl⟩
 have e3:decide (o.text.length≤4096)=true:=decide_eq_true ac1;simp -implicitDefEqProofs only[go_sem,d3];refine(yg o.case _).pthen ?_;cases d4:iW o.case
 ·exact ahM
 simp -implicitDefEqProofs only[go_sem];refine(yg o.field _).pthen ?_;cases d5:iW o.field
 ·exact ahM
 simp -implicitDefEqProofs only[go_sem];refine(yg o.to _).pthen ?_;cases d6:iW o.to
 ·exact ahM
 cases d7:(o.val.kind==(0:Int) && (o.val.n==(0:Int) && o.val.s==([]:Txt)))
 ·simp -implicitDefEqProofs only[go_sem,d7]
  refine(hv _).pthen ?_;have e7:eqV o.val aq=false:=d7;cases d8:bz o.val
  ·simp -implicitDefEqProofs only[go_sem]
   exact .mk _ (.refl _) (.aj h1) ⟨by simp_all [cV,Bool.or_self,Bool.false_and,Bool.true_and,ax],rfl⟩
  simp -implicitDefEqProofs only[go_sem];refine(ht _).pthen ?_;simp -implicitDefEqProofs only[go_sem];exact .mk _ (.refl _) (.aj h1) ⟨by simp_all [cV,Bool.false_or,Bool.true_and,ax],rfl⟩
 ·simp -implicitDefEqProofs only[go_sem,d7]
  have e7:eqV o.val aq=true:=d7;refine(ht _).pthen ?_;simp -implicitDefEqProofs only[go_sem];exact .mk _ (.refl _) (.aj h1) ⟨by simp_all [cV,Bool.true_or,Bool.true_and,ax],rfl⟩
end Go.Proofs.YtfdgemhnlennbaaGreatDoor
namespace Go.Bf
open Go Go.Ab
def ixD{α:Type}(q:α→Bool)(l:List α):Int:=if l.findIdx q<l.length then(l.findIdx q:Nat)else -1
theorem nU{α:Type}{q:α→Bool}{l:List α}{i:Nat}(hi:i<l.length)(h1:q l[i]=true)(h2:∀j (hj:j<i),q (l[j]'ac0)=false):ixD q l=(i:Nat):=by
 have e:l.findIdx q=i:=by grind [List.findIdx_eq]
 rw[ixD,e,if_pos hi]
theorem jb{α:Type}{q:α→Bool}{l:List α}(h:∀j (hj:j<l.length),q l[j]=false):ixD q l= -1:=by
 have e:l.findIdx q=l.length:=ac1;rw[ixD,e,if_neg (Nat.lt_irrefl _)]
end Go.Bf
namespace Go.Proofs.YtfdgemhnlennbaaGreatDoor
open Go Go.Ab Go.Bf
theorem vb{α:Type}(y:AV)(xs:List AV)(ds:List α)(q:α→Bool)(g:FuncId)(cap:List AV)(h:Heap)(hb:Rd h 5 y xs)(hn:xs.length=ds.length)(hl:xs.length≤1000000000)(hx:∀x∈xs,bA x=true)
  (hp:∀i (h1:i<xs.length) (h2:i<ds.length),ai Tryz.prog g (xs[i]::cap) h fun r h' =>r= .b (q ds[i])∧h' =h):
  ai Tryz.prog 159 [y,.fn g cap] h fun r h' =>r= .i (ixD q ds)∧h' =h:=by
 refine acZ Tryz.func159 19 [.tmp 4] fun hwf=>?_
 simp only[go_sem,hb.len];refine .intro (fun m ρ h' =>h' =h∧∃i:Nat,i≤xs.length∧m=xs.length - i∧(∀j (hj:j<i) (h2:j<ds.length),q ds[j]=false)∧lk ρ 0=some y∧lk ρ 1=some (.fn g cap)∧lk ρ 7=some (.i xs.length)∧lk ρ 8=some (.i i)) xs.length ?_ ?_
 ·refine⟨rfl,0,ac0,rfl,fun j hj=>ac0,?_,?_,?_,?_⟩<;>simp only[go_sem]
 ·rintro m ρ h' ⟨rfl,i,hi,rfl,hc,r0,r1,r7,r8⟩
  simp only[go_sem,r7,r8];refine .intro (fun e=>?_) (fun e=>?_)
  ·have hlt:i<xs.length:=acX e
   have hlt2:i<ds.length:=ac0;have w1:IntKind.i64.wrap ((i:Int)+1)=((i+1:Nat):Int):=adf;simp only[go_sem,r0,r1,r8];refine hb.idx (e:=122) i rfl hlt adg ac4 fun p hp1=>?_
   have hld:=hp1.all (U:=U) (ty:=122) ac4 adW aeQ;simp only[go_sem,hld];refine(show ai Tryz.prog g (xs[i]::cap) _ _ from hp i hlt hlt2).pthen ?_
   cases d1:q ds[i]
   ·simp only[go_sem,r8,w1]
    refine⟨_,?_,rfl,i+1,ac0,rfl,fun j hj h2=>?_,?_,?_,?_,?_⟩
    ·omega
    ·grind
    all_goals simp only[go_sem,r0,r1,r7]
   ·simp only[go_sem]
    exact .same (.refl _) ⟨adK,rfl⟩
  ·have hge:i=xs.length:=by grind
   simp only[go_sem];exact .same (.refl _) ⟨adv,rfl⟩
theorem yJ{α:Type}(y:AV)(xs:List AV)(ds:List α)(q:α→Bool)(g:FuncId)(cap:List AV)(h:Heap)(hb:Rd h 4 y xs)(hn:xs.length=ds.length)(hl:xs.length≤1000000000)(hx:∀x∈xs,bA x=true)
  (hp:∀i (h1:i<xs.length) (h2:i<ds.length),ai Tryz.prog g (xs[i]::cap) h fun r h' =>r= .b (q ds[i])∧h' =h):
  ai Tryz.prog 121 [y,.fn g cap] h fun r h' =>r= .i (ixD q ds)∧h' =h:=by
 refine acZ Tryz.func121 19 [.tmp 4] fun hwf=>?_
 simp only[go_sem,hb.len];refine .intro (fun m ρ h' =>h' =h∧∃i:Nat,i≤xs.length∧m=xs.length - i∧(∀j (hj:j<i) (h2:j<ds.length),q ds[j]=false)∧lk ρ 0=some y∧lk ρ 1=some (.fn g cap)∧lk ρ 7=some (.i xs.length)∧lk ρ 8=some (.i i)) xs.length ?_ ?_
 ·refine⟨rfl,0,ac0,rfl,fun j hj=>ac0,?_,?_,?_,?_⟩<;>simp only[go_sem]
 ·rintro m ρ h' ⟨rfl,i,hi,rfl,hc,r0,r1,r7,r8⟩
  simp only[go_sem,r7,r8];refine .intro (fun e=>?_) (fun e=>?_)
  ·have hlt:i<xs.length:=acX e
   have hlt2:i<ds.length:=ac0;have w1:IntKind.i64.wrap ((i:Int)+1)=((i+1:Nat):Int):=adf;simp only[go_sem,r0,r1,r8];refine hb.idx (e:=201) i rfl hlt adg ac4 fun p hp1=>?_
   have hld:=hp1.all (U:=U) (ty:=201) ac4 adW aeQ;simp only[go_sem,hld];refine(show ai Tryz.prog g (xs[i]::cap) _ _ from hp i hlt hlt2).pthen ?_
   cases d1:q ds[i]
   ·simp only[go_sem,r8,w1]
    refine⟨_,?_,rfl,i+1,ac0,rfl,fun j hj h2=>?_,?_,?_,?_,?_⟩
    ·omega
    ·grind
    all_goals simp only[go_sem,r0,r1,r7]
   ·simp only[go_sem]
    exact .same (.refl _) ⟨adK,rfl⟩
  ·have hge:i=xs.length:=by grind
   simp only[go_sem];exact .same (.refl _) ⟨adv,rfl⟩
def RdC(h:Heap)(x:AV)(c:aL):Prop:=∃f l,x= .agg [.s c.id,.s c.owner,.s c.state,f,l]∧Rd h 4 f (c.fields.map bM)∧Rd h 3 l (c.log.map iJ)
def zV(h:Heap)(y:AV)(cs:List aL):Prop:=∃xs,Rd h 5 y xs∧xs.length=cs.length∧∀i (h1:i<xs.length) (h2:i<cs.length),RdC h xs[i] cs[i]
def RdS(h:Heap)(x:AV)(s:an):Prop:=∃y1 y2 y3 y4,x= .agg ([.i s.tick,y1,y2,y3,y4]++fX s.policy++ [.i s.version])∧zV h y1 s.cases∧Rd h 7 y2 (s.reviews.map iO)∧Rd h 3 y3 (s.notices.map nc)∧Rd h 2 y4 (s.roles.map eJ)
theorem RdC.sub{h h' :Heap}{x:AV}{c:aL}(hb:RdC h x c)(hs:Ab.Sub h h'):RdC h' x c:=by
 obtain⟨f,l,e,h1,h2⟩:=hb;exact⟨f,l,e,h1.sub hs,h2.sub hs⟩
theorem zV.sub{h h' :Heap}{y:AV}{cs:List aL}(hb:zV h y cs)(hs:Ab.Sub h h'):zV h' y cs:=by
 obtain⟨xs,h1,h2,h3⟩:=hb;exact⟨xs,h1.sub hs,h2,fun i a b=>(h3 i a b).sub hs⟩
theorem RdS.sub{h h' :Heap}{x:AV}{s:an}(hb:RdS h x s)(hs:Ab.Sub h h'):RdS h' x s:=by
 obtain⟨y1,y2,y3,y4,e,h1,h2,h3,h4⟩:=hb;exact⟨y1,y2,y3,y4,e,h1.sub hs,h2.sub hs,h3.sub hs,h4.sub hs⟩
theorem bw{α:Type}{f:α→AV}{n:Nat}(hf:∀a,(f a).cells.length=n)(l:List α):Sized n (l.map f):=fun z hz=>by
 grind
theorem oR{α:Type}{f:α→AV}(hf:∀a,bA (f a)=true)(l:List α):∀x∈l.map f,bA x=true:=fun z hz=>by
 obtain⟨a,_,rfl⟩:=List.mem_map.1 hz;exact hf a
theorem eS{α:Type}(f:α→AV)(n:Nat)(hf:∀a,(f a).cells.length=n)(h:Heap)(l:List α):Rd h n (.sl (l.map f) .no) (l.map f):=.sl (bw hf l) _
theorem rdC(h:Heap)(c:aL):RdC h (cq c) c:=⟨_,_,rfl,eS bM 4 (fun _=>rfl) h _,eS iJ 3 (fun _=>rfl) h _⟩
theorem XU(h:Heap)(cs:List aL):zV h (gb cs) cs:=⟨_,eS cq 5 (fun _=>rfl) h cs,ac7,fun i h1 h2=>by grind [rdC]⟩
theorem rdS(h:Heap)(s:an):RdS h (cM s) s:=⟨_,_,_,_,rfl,XU h _,eS iO 7 (fun _=>rfl) h _,eS nc 3 (fun _=>rfl) h _,eS eJ 2 (fun _=>rfl) h _⟩
theorem RdC.agg{h:Heap}{x:AV}{c:aL}(hb:RdC h x c):bA x=true:=by
 obtain⟨f,l,rfl,_⟩:=hb;rfl
theorem zV.agg{h:Heap}{xs:List AV}{cs:List aL}(hn:xs.length=cs.length)(hb:∀i (h1:i<xs.length) (h2:i<cs.length),RdC h xs[i] cs[i]):∀x∈xs,bA x=true:=fun x hx=>by
 obtain⟨i,hi,rfl⟩:=List.mem_iff_getElem.1 hx;exact(hb i hi ac0).agg
theorem nN:(U 122).sz=5:=adg
theorem GQ:(U 201).sz=4:=adg
theorem Kt:(U 9).sz≠0:=ac4
theorem Nl:(U 9).sz=1:=adg
theorem Lz{h:Heap}{x:AV}{c:aL}(hb:RdC h x c){k:Nat}{id:Txt}(hk:h k=some (.obj [.s id] 9)):ai Tryz.prog 160 [x,.ptr k 0] h fun r h' =>r= .b (geB c.id id)∧h' =h:=by
 obtain⟨f,l,rfl,hf,hl⟩:=hb;refine acZ Tryz.func160 8 [.tmp 3] fun hwf=>?_
 simp only[go_sem];exact ahv
structure Few (s:an):Prop where
 cases:s.cases.length≤1000000
 fields:∀c∈s.cases,c.fields.length≤1000000
 log:∀c∈s.cases,c.log.length≤1000000
 reviews:s.reviews.length≤1000000
 notices:s.notices.length≤1000000
 roles:s.roles.length≤1000000
theorem jG{cs:List aL}{id:Txt}(h:bY cs id=true):findD cs id<cs.length:=by
 grind [bY,List.getElem?_eq_some_iff]
theorem Kn{cs:List aL}{id:Txt}(h:findD cs id<cs.length):bY cs id=(cs[findD cs id].id==id):=by
 grind [bY,List.getElem?_eq_getElem]
theorem Ko{cs:List aL}{id:Txt}(h:¬findD cs id<cs.length):bY cs id=false:=by
 grind [bY,List.getElem?_eq_none]
theorem Ca{h:Heap}{x:AV}{s:an}(hb:RdS h x s)(id:Txt)(hl:s.cases.length≤1000000):ai Tryz.prog 100 [x,.s id] h fun r h' =>r= .tup [.i (findD s.cases id:Nat),.b (bY s.cases id)]∧h' =h:=by
 obtain⟨y1,y2,y3,y4,rfl,⟨xs,hc,hn,hcs⟩,h2,h3,h4⟩:=hb;cases hp:s.policy with
 |mk pid pset palg ptgt prules pkids pobls=>
 refine acZ Tryz.func100 25 [.tmp 4,.tmp 5] fun hwf=>?_
 simp only[go_sem,fX,List.cons_append,List.nil_append];intro i1 h1;simp only[go_sem];intro i2 h2;have n21:=aH h2;have n2:=aB h2;have hs:∀a b,Ab.Sub h (upd (upd h i1 a) i2 b):=fun a b=>((Sub.refl h).put h1 a).put n2 b
 simp only[go_sem,ak,n21.symm];refine(vb y1 xs s.cases (fun c=>geB c.id id) _ [.ptr i2 0] _ (hc.sub (hs _ _)) hn ac0 (zV.agg hn hcs) fun i a b=>Lz ((hcs i a b).sub (hs _ _)) (ah ..)).pthen ?_
 by_cases hf:findD s.cases id<s.cases.length
 ·have e1:ixD (fun c=>geB c.id id) s.cases=(findD s.cases id:Nat):=by rw[ixD];exact if_pos hf
  have d1:decide (((findD s.cases id:Nat):Int)<0)=false:=decide_eq_false ac0;rw[e1];simp only[go_sem,ak,n21.symm,d1];refine⟨.of ac3,?_⟩;obtain⟨f,l,ex,hfl,hlg⟩:=hcs (findD s.cases id) ac0 hf;refine hc.idx (e:=122) (findD s.cases id) rfl ac0 nN ac4 fun p hp1=>?_
  simp only[go_sem];refine hp1.field (f:=0) (off:=0) (t:=9) rfl Kt fun p2 hp2=>?_
  have hld:=fun a b=>(hp2.sub (hs a b)).part (U:=U) (ty:=9) Kt (by rw[ex,Nl];exact acP rfl)
  simp only[go_sem,hld,ex];exact .mk _ (.refl _) (hs _ _) ⟨by rw[Kn hf];rfl,rfl⟩
 ·have e1:ixD (fun c=>geB c.id id) s.cases= -1:=by rw[ixD];exact if_neg hf
  have e2:findD s.cases id=s.cases.length:=by
   grind [findD,List.findIdx_le_length]
  have d1:decide ((-1:Int)<0)=true:=rfl;rw[e1];simp only[go_sem,ak,n21.symm,d1];simp only[go_sem,hc.len];exact .mk _ (.refl _) (hs _ _) ⟨by rw[Ko hf,e2,hn];rfl,rfl⟩
theorem Iu:(U 141).sz=2:=adg
theorem JG(y:AV)(ds:List gZ)(r:gZ)(h:Heap)(hb:Rd h 2 y (ds.map eJ))(hl:ds.length≤1000000000):
  ai Tryz.prog 205 [y,eJ r] h fun x h' =>x= .i (ixD (uU r) ds)∧h' =h:=by
 refine acZ Tryz.func205 19 [.tmp 4] fun hwf=>?_
 simp only[go_sem,eJ];intro i1 h1;have hs:∀a,Ab.Sub h (upd h i1 a):=fun a=>(Sub.refl h).put h1 a
 simp only[go_sem,hb.len,acQ];refine .intro (fun m ρ h' =>h' =upd h i1 (some (.obj [.s r.subj,.s r.role] 141))∧∃i:Nat,i≤ds.length∧m=ds.length - i∧(∀j (hj:j<i) (h2:j<ds.length),uU r ds[j]=false)∧lk ρ 0=some y∧lk ρ 3=some (.ptr i1 0)∧lk ρ 7=some (.i ds.length)∧lk ρ 8=some (.i i)) ds.length ?_ ?_
 ·refine⟨rfl,0,ac0,rfl,fun j hj=>ac0,?_,?_,?_,?_⟩<;>simp only[go_sem]
 ·rintro m ρ h' ⟨rfl,i,hi,rfl,hc,r0,r3,r7,r8⟩
  simp only[go_sem,r7,r8];refine .intro (fun e=>?_) (fun e=>?_)
  ·have hlt:i<ds.length:=acX e
   have w1:IntKind.i64.wrap ((i:Int)+1)=((i+1:Nat):Int):=adf;simp only[go_sem,r0,r3,r8];refine⟨.of ac3,?_⟩;refine hb.idx (e:=141) i rfl ac1 Iu ac4 fun p hp1=>?_
   have hld:=fun a=>(hp1.sub (hs a)).all (U:=U) (ty:=141) ac4 (by rw[Iu,acR];rfl) adG
   cases d1:uU r ds[i]
   ·have d2:=d1
    simp only[uU]at d2;simp only[go_sem,r8,hld,acR,eJ,d2,w1];refine⟨_,?_,rfl,i+1,ac0,rfl,fun j hj h2=>?_,?_,?_,?_,?_⟩
    ·omega
    ·grind
    all_goals simp only[go_sem,r0,r3,r7]
   ·have d2:=d1
    simp only[uU]at d2;simp only[go_sem,hld,acR,eJ,d2];exact .mk _ (.refl _) (hs _) ⟨by rw[nU hlt d1 fun j hj=>hc j hj ac0];rfl,rfl⟩
  ·have hge:i=ds.length:=by grind
   simp only[go_sem];exact .mk _ (.refl _) (hs _) ⟨adv,rfl⟩
theorem FX(y:AV)(ds:List gZ)(r:gZ)(h:Heap)(hb:Rd h 2 y (ds.map eJ))(hl:ds.length≤1000000000):
  ai Tryz.prog 162 [y,eJ r] h fun x h' =>x= .b (yC ds r)∧h' =h:=by
 have hq:=fun H (hH:Ab.Sub h H)=>JG y ds r H (hb.sub hH) hl
 refine acZ Tryz.func162 9 [.tmp 4] fun hwf=>?_
 simp only[go_sem,eJ];intro i1 h1;simp only[go_sem];refine(hq _ (.aj h1)).pthen ?_;simp only[go_sem];refine .mk _ (.refl _) (.aj h1) ⟨?_,rfl⟩
 grind [ax,yC,ixD,decide_eq_true,List.any_eq_true,acV,List.findIdx_getElem,decide_eq_false,List.any_eq_false]
theorem FY{h:Heap}{x:AV}{s:an}(hb:RdS h x s)(subj role:Txt)(hl:s.roles.length≤1000000000):ai Tryz.prog 103 [x,.s subj,.s role] h fun r h' =>r= .b (yC s.roles ⟨subj,role⟩)∧h' =h:=by
 obtain⟨y1,y2,y3,y4,rfl,hc,h2,h3,h4⟩:=hb;have hq:=fun H (hH:Ab.Sub h H)=>FX y4 s.roles ⟨subj,role⟩ H (h4.sub hH) hl
 cases hp:s.policy with
 |mk pid pset palg ptgt prules pkids pobls=>
 refine acZ Tryz.func103 13 [.tmp 6] fun hwf=>?_
 simp only[go_sem,fX,List.cons_append,List.nil_append];intro i1 h1;simp only[go_sem];refine(hq _ (.aj h1)).pthen ?_;simp only[go_sem];exact adj
theorem I6{h:Heap}(f:dj){k:Nat}{name:Txt}(hk:h k=some (.obj [.s name] 9)):ai Tryz.prog 122 [bM f,.ptr k 0] h fun r h' =>r= .b (f.name==name)∧h' =h:=by
 refine acZ Tryz.func122 8 [.tmp 3] fun hwf=>?_
 simp only[go_sem,bM];exact ahv
theorem I7{fs:List dj}{name:Txt}(h:fs.findIdx (fun f=>f.name==name)<fs.length):eP fs name=fs[fs.findIdx fun f=>f.name==name].val:=by
 unfold eP;rw[show fs.find? (fun f=>f.name==name)=some fs[fs.findIdx fun f=>f.name==name]from List.find?_eq_some_iff_getElem.2 ⟨List.findIdx_getElem (w:=h),_,h,rfl,fun j hj=>ac1⟩]
theorem I8{fs:List dj}{name:Txt}(h:¬fs.findIdx (fun f=>f.name==name)<fs.length):eP fs name=aq:=by
 grind [eP,List.findIdx_le_length,List.find?_eq_none,List.findIdx_eq_length]
theorem Dj{h:Heap}{x:AV}{c:aL}(hb:RdC h x c)(name:Txt)(hl:c.fields.length≤1000000000):ai Tryz.prog 60 [x,.s name] h fun r h' =>r=aQ (eP c.fields name)∧h' =h:=by
 obtain⟨f,l,rfl,hf,hlg⟩:=hb;refine acZ Tryz.func60 19 [.cell 4 33] fun hwf=>?_
 simp only[go_sem];intro i1 h1;simp only[go_sem];intro i2 h2;have n21:=aH h2;have n2:=aB h2;simp only[go_sem];intro i3 h3;have h3' :=aB h3;have n31:=aH h3';have n3:=aB h3';have hs:∀a b d,Ab.Sub h (upd (upd (upd h i1 a) i2 b) i3 d):=fun a b d=>(((Sub.refl h).put h1 a).put n2 b).put n3 d
 simp only[go_sem,ak,n21.symm,n31.symm];refine(yJ f _ c.fields (fun f=>f.name==name) _ [.ptr i2 0] _ (hf.sub (hs _ _ _)) ac7 ac1 (oR (fun _=>rfl) _) fun i a b=>by
  rw[acR];exact I6 _ (by grind [ak,gm,not_false_eq_true])).pthen ?_
 by_cases hx:c.fields.findIdx (fun f=>f.name==name)<c.fields.length
 ·have e1:ixD (fun f=>f.name==name) c.fields=(c.fields.findIdx (fun f=>f.name==name):Nat):=by simp_all [ixD,if_pos]
  have d1:decide ((0:Int)≤((c.fields.findIdx (fun f=>f.name==name):Nat):Int))=true:=decide_eq_true ac0
  rw[e1];simp only[go_sem,ak,n21.symm,n31.symm,d1];refine hf.idx (e:=201) (c.fields.findIdx fun f=>f.name==name) rfl ac1 GQ ac4 fun p hp1=>?_
  simp only[go_sem];refine hp1.field (f:=1) (off:=1) (t:=33) rfl ac4 fun p2 hp2=>?_
  have hld:=fun a b d=>(hp2.sub (hs a b d)).part (U:=U) (ty:=33) ac4 (by rw[acR,show(U 33).sz=3 by rfl];exact acP rfl)
  simp only[go_sem,hld,acR,bM];exact .mk _ (.refl _) ac1 ⟨by rw[I7 hx];rfl,rfl⟩
 ·have e1:ixD (fun f=>f.name==name) c.fields= -1:=by simp_all [ixD,if_neg]
  have d1:decide ((0:Int)≤ -1)=false:=rfl;rw[e1];simp only[go_sem,d1];exact .mk _ (.refl _) ac1 ⟨by rw[I8 hx];rfl,rfl⟩
end Go.Proofs.YtfdgemhnlennbaaGreatDoor
namespace Go.Ab
open Go
mutual
def cL:AV→Bool
 |.v _=>true
 |.s _=>true
 |.agg xs=>gV xs
 |.tup xs=>gV xs
 |.sl xs (.own _)=>false
 |.sl xs _=>gV xs
 |.pe x _=>cL x
 |.ifc _ x=>cL x
 |_=>false
def gV:List AV→Bool
 | []=>true
 |x::r=>cL x && gV r
end
mutual
theorem ug{F:Nat→Prop}:∀x:AV,cL x=true→Av F x
 |.v x,_=> .v x
 |.s l,_=> .s l
 |.agg xs,h=> .agg xs (qW xs afD)
 |.tup xs,h=> .tup xs (qW xs afD)
 |.sl xs .no,h=> .sl xs .no (qW xs afD) fun _ e=>ads
 |.sl xs .full,h=> .sl xs .full (qW xs afD) fun _ e=>ads
 |.sl xs (.own _),h=>agB
 |.pe x o,h=> .pe x o (ug x afD)
 |.ptr i o,h=>agB
 |.oa i o l,h=>agB
 |.ifc t x,h=> .ifc t x (ug x afD)
 |.fn f c,h=>agB
 |.mp i,h=>agB
 |.ob i o l c z,h=>agB
theorem qW{F:Nat→Prop}:∀xs:List AV,gV xs=true→∀x∈xs,Av F x
 | [],_,x,hx=>by cases hx
 |y::r,h,x,hx=>by
  simp only[gV,Bool.and_eq_true]at h;rcases List.mem_cons.1 hx with e|e
  ·rw[e];exact ug y h.1
  ·exact qW r h.2 x e
end
theorem bu{α:Type}{f:α→AV}(hf:∀a,cL (f a)=true):∀l:List α,gV (l.map f)=true
 | []=>rfl
 |a::r=>by simp[gV,hf a,bu hf r]
theorem Bh{xs:List AV}(h:gV xs=true):∀x∈xs,cL x=true:=by
 induction xs with
 |nil=>simp
 |cons y r ih=>
  simp_all [gV,Bool.and_eq_true,List.mem_cons]
theorem nL{x:AV}(h:cL x=true):∀c∈x.cells,cL c=true:=by
 cases x with
 |agg cs=>exact Bh (show gV cs=true by grind [cL])
 |_=>intro c hc;rw[List.mem_singleton.1 hc];exact h
theorem Frz.pure{g h:Heap}{x:AV}(hx:cL x=true):Frz g h x x:=.keep x (ug x hx)
theorem Ow.frz{g h:Heap}{tb:TypeId}{sz id:Nat}{y:AV}{xs ys:List AV}(hw:Ow tb h sz id y xs)(hg:g id=Option.none)(hn:xs.length=ys.length)(hz:∀i (h1:i<xs.length) (h2:i<ys.length),xs[i].cells.length=ys[i].cells.length)
  (hr:∀i (h1:i<xs.length) (h2:i<ys.length) j (h3:j<xs[i].cells.length) (h4:j<ys[i].cells.length),Frz g h xs[i].cells[j] ys[i].cells[j]):Frz g h y (.sl ys .no):=by
 obtain⟨cap,rest,rfl,h1,h2,h3,h4⟩:=hw;have hl:=aY h4;refine .ob id 0 _ cap sz _ tb ys hg h1 ac1 hn.symm (fun i hi=>by rw[←hz i ac0 hi];exact h4 _ ac7) fun i hi j hj hb=>?_
 have hj' :j<sz:=by rw[←h4 xs[i] ac7,hz i ac0 hi];omega
 have hbd:i*sz+j<xs.length*sz:=by
  have:(i+1)*sz≤xs.length*sz:=Nat.mul_le_mul_right _ ac0;rw[Nat.add_mul,Nat.one_mul]at this;omega
 have hjx:j<xs[i].cells.length:=ac1;have e:(au xs++rest)[0+(i*sz+j)]? =some (xs[i].cells[j]):=by
  rw[Nat.zero_add,List.getElem?_append_left ac0,uX h4 ac0 hj',List.getElem?_eq_getElem hjx]
 rw[List.getElem?_eq_getElem hb,Option.some.injEq]at e;rw[e];exact hr i ac0 hi j hjx hj
theorem OwE.frz{g h:Heap}{tb:TypeId}{sz:Nat}{y:AV}{xs:List AV}(hw:OwE tb g h sz y xs)(hp:gV xs=true):Frz g h y (.sl xs .no):=by
 rcases hw with⟨rfl,rfl⟩|⟨id,hg,hw⟩
 ·exact .sl [] [] .full rfl ac0 ac7
 ·exact hw.frz hg rfl ac0 fun i h1 h2 j h3 h4=> .pure (nL (Bh hp _ (acV h1)) _ ac7)
theorem OwE.lN{U:TypeId→TI}{h:Heap}{sz:Nat}{tb:TypeId}{xs:List AV}{Q:AV→Heap→Prop}(hz:(U tb).sz=sz)(hf:Ab.fit (U tb).zero sz)(hb:Sized sz xs)(hk:∀y' h',OwE tb h h' sz y' xs→Sub h h'→Q y' h'):sk U h [] xs tb Q:=by
 subst hz;refine⟨fun hn=>?_,fun hn=>?_⟩
 ·subst hn
  exact hk _ _ (.inl ⟨rfl,rfl⟩) (.refl _)
 ·refine .ob hf (j9.ow hb adg ac7 fun id y' h' hid hw ho=>?_)
  exact hk _ _ (.inr ⟨id,hid,hw⟩) fun j b hj=>ac1
theorem Rd.nil{h:Heap}{sz:Nat}{y:AV}{xs:List AV}{e:TypeId}{Q:AV→Heap→Prop}(hb:Rd h sz y xs)(hk:∀b:Bool,(xs≠ []→b=false)→Q (.b b) h):R6 h .eql y Q (.slice e):=by
 obtain⟨_,⟨q,rfl⟩|⟨id,off,cap,cs,t,rfl,_⟩⟩:=hb
 ·exact hk
 ·exact hk false fun _=>rfl
def nid:AV→Option Nat
 |.ob id _ _ _ _=>some id
 |_=>none
theorem OwE.nid{tb:TypeId}{h0 h:Heap}{sz:Nat}{y:AV}{xs:List AV}(hw:OwE tb h0 h sz y xs){id:Nat}(e:Ab.nid y=some id):h0 id=Option.none∧h id≠Option.none∧Ow tb h sz id y xs:=by
 rcases hw with⟨rfl,rfl⟩|⟨id',h1,hw⟩
 ·cases e
 ·obtain⟨cap,rest,rfl,h2,h3⟩:=hw
  cases e;exact⟨h1,ac1,cap,rest,rfl,h2,h3⟩
theorem Ow.nid{tb:TypeId}{h:Heap}{sz id:Nat}{y:AV}{xs:List AV}(hw:Ow tb h sz id y xs):Ab.nid y=some id:=by
 obtain⟨cap,rest,rfl,h2,h3⟩:=hw;rfl
theorem OwE.keep{tb:TypeId}{h0 h h' :Heap}{sz:Nat}{y:AV}{xs:List AV}(hw:OwE tb h0 h sz y xs)(hs:∀id,Ab.nid y=some id→h' id=h id):OwE tb h0 h' sz y xs:=by
 rcases hw with hw|⟨id,h1,hw⟩
 ·exact ag1
 ·exact .inr ⟨id,h1,hw.same (hs id hw.nid)⟩
theorem OwE.less{tb:TypeId}{h0 h1 h:Heap}{sz:Nat}{y:AV}{xs:List AV}(hw:OwE tb h1 h sz y xs)(hs:Sub h0 h1):OwE tb h0 h sz y xs:=by
 rcases hw with hw|⟨id,a,hw⟩
 ·exact ag1
 ·exact .inr ⟨id,hs.none a,hw⟩
end Go.Ab
namespace Go.Proofs.YtfdgemhnlennbaaGreatDoor
open Go Go.Ab Go.Bf
theorem AD(y:AV)(xs:List AV)(h:Heap)(hb:Rd h 5 y xs)(hl:xs.length≤1000000):ai Tryz.prog 112 [y] h fun r h' =>OwE 122 h h' 5 r xs∧Ab.Sub h h' :=by
 refine acZ Tryz.func112 8 [.tmp 2] fun hwf=>?_
 simp only[go_sem];refine hb.nil fun b hxs=>?_
 cases b
 ·simp only[go_sem]
  refine hb.src (U:=U) (e:=122) adg ⟨hb.1,ac0,OwE.lN (U:=U) (sz:=5) adg adg hb.1 fun y' h' hw hs=>?_⟩
  exact ahq
 ·exact ahk
theorem vT(y:AV)(xs:List AV)(h:Heap)(hb:Rd h 7 y xs)(hl:xs.length≤1000000):ai Tryz.prog 110 [y] h fun r h' =>OwE 135 h h' 7 r xs∧Ab.Sub h h' :=by
 refine acZ Tryz.func110 8 [.tmp 2] fun hwf=>?_
 simp only[go_sem];refine hb.nil fun b hxs=>?_
 cases b
 ·simp only[go_sem]
  refine hb.src (U:=U) (e:=135) adg ⟨hb.1,ac0,OwE.lN (U:=U) (sz:=7) adg adg hb.1 fun y' h' hw hs=>?_⟩
  exact ahq
 ·exact ahk
theorem vS(y:AV)(xs:List AV)(h:Heap)(hb:Rd h 3 y xs)(hl:xs.length≤1000000):ai Tryz.prog 111 [y] h fun r h' =>OwE 138 h h' 3 r xs∧Ab.Sub h h' :=by
 refine acZ Tryz.func111 8 [.tmp 2] fun hwf=>?_
 simp only[go_sem];refine hb.nil fun b hxs=>?_
 cases b
 ·simp only[go_sem]
  refine hb.src (U:=U) (e:=138) adg ⟨hb.1,ac0,OwE.lN (U:=U) (sz:=3) adg adg hb.1 fun y' h' hw hs=>?_⟩
  exact ahq
 ·exact ahk
theorem IU(y:AV)(xs:List AV)(h:Heap)(hb:Rd h 2 y xs)(hl:xs.length≤1000000):ai Tryz.prog 168 [y] h fun r h' =>OwE 141 h h' 2 r xs∧Ab.Sub h h' :=by
 refine acZ Tryz.func168 8 [.tmp 2] fun hwf=>?_
 simp only[go_sem];refine hb.nil fun b hxs=>?_
 cases b
 ·simp only[go_sem]
  refine hb.src (U:=U) (e:=141) adg ⟨hb.1,ac0,OwE.lN (U:=U) (sz:=2) adg adg hb.1 fun y' h' hw hs=>?_⟩
  exact ahq
 ·exact ahk
theorem Fp(y:AV)(xs:List AV)(h:Heap)(hb:Rd h 4 y xs)(hl:xs.length≤1000000):ai Tryz.prog 175 [y] h fun r h' =>OwE 201 h h' 4 r xs∧Ab.Sub h h' :=by
 refine acZ Tryz.func175 8 [.tmp 2] fun hwf=>?_
 simp only[go_sem];refine hb.nil fun b hxs=>?_
 cases b
 ·simp only[go_sem]
  refine hb.src (U:=U) (e:=201) adg ⟨hb.1,ac0,OwE.lN (U:=U) (sz:=4) adg adg hb.1 fun y' h' hw hs=>?_⟩
  exact ahq
 ·exact ahk
theorem qt(y:AV)(xs:List AV)(h:Heap)(hb:Rd h 3 y xs)(hl:xs.length≤1000000):ai Tryz.prog 113 [y] h fun r h' =>OwE 191 h h' 3 r xs∧Ab.Sub h h' :=by
 refine acZ Tryz.func113 8 [.tmp 2] fun hwf=>?_
 simp only[go_sem];refine hb.nil fun b hxs=>?_
 cases b
 ·simp only[go_sem]
  refine hb.src (U:=U) (e:=191) adg ⟨hb.1,ac0,OwE.lN (U:=U) (sz:=3) adg adg hb.1 fun y' h' hw hs=>?_⟩
  exact ahq
 ·exact ahk
theorem xj(y:AV)(xs:List AV)(h:Heap)(hb:Rd h 3 y xs)(hl:xs.length≤1000000)(hp:gV xs=true):ai Tryz.prog 113 [y] h fun r h' =>r= .sl xs .no∧h' =h:=
 ai.freeze fun g hg _=>(qt y xs g (hb.sub hg) hl).mono fun r h' ⟨h1,h2⟩=>⟨h2,_,h1.frz hp,rfl⟩
theorem Lf(y:AV)(xs:List AV)(h:Heap)(hb:Rd h 3 y xs)(hl:xs.length≤1000000):ai Tryz.prog 64 [y] h fun r h' =>OwE 131 h h' 3 r xs∧Ab.Sub h h' :=by
 refine acZ Tryz.func64 8 [.tmp 2] fun hwf=>?_
 simp only[go_sem];refine hb.nil fun b hxs=>?_
 cases b
 ·simp only[go_sem]
  refine hb.src (U:=U) (e:=131) adg ⟨hb.1,ac0,OwE.lN (U:=U) (sz:=3) adg adg hb.1 fun y' h' hw hs=>?_⟩
  exact ahq
 ·exact ahk
theorem AF(y:AV)(xs:List AV)(h:Heap)(hb:Rd h 3 y xs)(hl:xs.length≤1000000)(hp:gV xs=true):ai Tryz.prog 64 [y] h fun r h' =>r= .sl xs .no∧h' =h:=
 ai.freeze fun g hg _=>(Lf y xs g (hb.sub hg) hl).mono fun r h' ⟨h1,h2⟩=>⟨h2,_,h1.frz hp,rfl⟩
theorem IV(y:AV)(xs:List AV)(h:Heap)(hb:Rd h 5 y xs)(hl:xs.length≤1000000):ai Tryz.prog 215 [y] h fun r h' =>OwE 210 h h' 5 r xs∧Ab.Sub h h' :=by
 refine acZ Tryz.func215 8 [.tmp 2] fun hwf=>?_
 simp only[go_sem];refine hb.nil fun b hxs=>?_
 cases b
 ·simp only[go_sem]
  refine hb.src (U:=U) (e:=210) adg ⟨hb.1,ac0,OwE.lN (U:=U) (sz:=5) adg adg hb.1 fun y' h' hw hs=>?_⟩
  exact ahq
 ·exact ahk
theorem C2(y:AV)(xs:List AV)(h:Heap)(hb:Rd h 7 y xs)(hl:xs.length≤1000000):ai Tryz.prog 216 [y] h fun r h' =>OwE 61 h h' 7 r xs∧Ab.Sub h h' :=by
 refine acZ Tryz.func216 8 [.tmp 2] fun hwf=>?_
 simp only[go_sem];refine hb.nil fun b hxs=>?_
 cases b
 ·simp only[go_sem]
  refine hb.src (U:=U) (e:=61) adg ⟨hb.1,ac0,OwE.lN (U:=U) (sz:=7) adg adg hb.1 fun y' h' hw hs=>?_⟩
  exact ahq
 ·exact ahk
theorem IT(y:AV)(xs:List AV)(h:Heap)(hb:Rd h 7 y xs)(hl:xs.length≤1000000):ai Tryz.prog 217 [y] h fun r h' =>OwE 215 h h' 7 r xs∧Ab.Sub h h' :=by
 refine acZ Tryz.func217 8 [.tmp 2] fun hwf=>?_
 simp only[go_sem];refine hb.nil fun b hxs=>?_
 cases b
 ·simp only[go_sem]
  refine hb.src (U:=U) (e:=215) adg ⟨hb.1,ac0,OwE.lN (U:=U) (sz:=7) adg adg hb.1 fun y' h' hw hs=>?_⟩
  exact ahq
 ·exact ahk
theorem Ft(y:AV)(xs:List AV)(h:Heap)(hb:Rd h 7 y xs)(hl:xs.length≤1000000)(hp:gV xs=true):ai Tryz.prog 217 [y] h fun r h' =>r= .sl xs .no∧h' =h:=
 ai.freeze fun g hg _=>(IT y xs g (hb.sub hg) hl).mono fun r h' ⟨h1,h2⟩=>⟨h2,_,h1.frz hp,rfl⟩
theorem Fq(y:AV)(xs:List AV)(h:Heap)(hb:Rd h 7 y xs)(hl:xs.length≤1000000):ai Tryz.prog 250 [y] h fun r h' =>OwE 265 h h' 7 r xs∧Ab.Sub h h' :=by
 refine acZ Tryz.func250 8 [.tmp 2] fun hwf=>?_
 simp only[go_sem];refine hb.nil fun b hxs=>?_
 cases b
 ·simp only[go_sem]
  refine hb.src (U:=U) (e:=265) adg ⟨hb.1,ac0,OwE.lN (U:=U) (sz:=7) adg adg hb.1 fun y' h' hw hs=>?_⟩
  exact ahq
 ·exact ahk
theorem C4(y:AV)(xs:List AV)(h:Heap)(hb:Rd h 7 y xs)(hl:xs.length≤1000000)(hp:gV xs=true):ai Tryz.prog 250 [y] h fun r h' =>r= .sl xs .no∧h' =h:=
 ai.freeze fun g hg _=>(Fq y xs g (hb.sub hg) hl).mono fun r h' ⟨h1,h2⟩=>⟨h2,_,h1.frz hp,rfl⟩
theorem Fs(y:AV)(xs:List AV)(h:Heap)(hb:Rd h 3 y xs)(hl:xs.length≤1000000):ai Tryz.prog 280 [y] h fun r h' =>OwE 33 h h' 3 r xs∧Ab.Sub h h' :=by
 refine acZ Tryz.func280 8 [.tmp 2] fun hwf=>?_
 simp only[go_sem];refine hb.nil fun b hxs=>?_
 cases b
 ·simp only[go_sem]
  refine hb.src (U:=U) (e:=33) adg ⟨hb.1,ac0,OwE.lN (U:=U) (sz:=3) adg adg hb.1 fun y' h' hw hs=>?_⟩
  exact ahq
 ·exact ahk
theorem C5(y:AV)(xs:List AV)(h:Heap)(hb:Rd h 3 y xs)(hl:xs.length≤1000000)(hp:gV xs=true):ai Tryz.prog 280 [y] h fun r h' =>r= .sl xs .no∧h' =h:=
 ai.freeze fun g hg _=>(Fs y xs g (hb.sub hg) hl).mono fun r h' ⟨h1,h2⟩=>⟨h2,_,h1.frz hp,rfl⟩
def QF(h0 h:Heap)(x:AV)(c:aL):Prop:=∃f l,x= .agg [.s c.id,.s c.owner,.s c.state,f,l]∧OwE 201 h0 h 4 f (c.fields.map bM)∧OwE 191 h0 h 3 l (c.log.map iJ)∧∀i,nid f=some i→nid l≠some i
theorem cI{h:Heap}{i j:Nat}{b:Blk}(h1:h i=none)(h2:h j=some b):i≠j:=fun e=>by subst e;rw[h2]at h1;cases h1
theorem zb{h:Heap}{x:AV}{c:aL}(hb:RdC h x c)(hl:c.fields.length≤1000000)(hl2:c.log.length≤1000000):ai Tryz.prog 120 [x] h fun r h' =>QF h h' r c∧Ab.Sub h h' :=by
 obtain⟨f,l,rfl,hf,hlg⟩:=hb;refine acZ Tryz.func120 12 [.cell 2 122] fun hwf=>?_
 simp only[go_sem];intro i1 h1;simp only[go_sem];intro i2 h2;have n21:=aH h2;have n2:=aB h2;simp only[go_sem];obtain⟨H,eH⟩:∃H,upd (upd h i1 (some (.obj [.s c.id,.s c.owner,.s c.state,f,l] 122))) i2 (some (.obj [.s [],.s [],.s [],.sl [] .full,.sl [] .full] 122))=H:=⟨_,rfl⟩;have hH:Ab.Sub h H:=ad1;have g1:H i1=some (.obj [.s c.id,.s c.owner,.s c.state,f,l] 122):=aeC;have g2:H i2=some (.obj [.s [],.s [],.s [],.sl [] .full,.sl [] .full] 122):=aeu;rw[eH];refine .stage (hm1 i1 _) [0,1,3,4,2,6,5] [7,8,9] (.hm1 g1) ac3 ?_;simp only[go_sem,gh];refine(Fp f _ H (hf.sub hH) ac1).mono fun f' H1 ⟨hf',s1⟩=>?_
 refine⟨.hm1 (s1 _ _ g1),?_⟩;simp only[go_sem];refine(qt l _ H1 ((hlg.sub hH).sub s1) ac1).mono fun l' H2 ⟨hl',s2⟩=>?_
 refine⟨.hm1 (s2 _ _ (s1 _ _ g1)),cR,(fun _ _ e=>ads),?_⟩
 have g1' :=s2 _ _ (s1 _ _ g1);have g2' :=s2 _ _ (s1 _ _ g2);simp only[go_sem,g1',hf'.rd.fit,hf'.rd.cells,hl'.rd.fit,hl'.rd.cells];have n1:∀b,upd H2 i1 b i2=some (.obj [.s [],.s [],.s [],.sl [] .full,.sl [] .full] 122):=fun b=>adD
 refine⟨fun _ _ e=>ads,fun _ _ e=>ads,?_⟩
 simp only[go_sem,n1];have hid:∀ {y:AV} {xs:List AV} {G:Heap} {tb:TypeId} {z:Nat},Ab.Sub H G→OwE tb G H2 z y xs→∀a b,OwE tb h (upd (upd H2 i1 a) i2 b) z y xs:=fun hG hw a b=>(hw.less (hH.trans hG)).keep fun id e=>by
  have h0:=hG.none (hw.nid e).1;rw[ag _ _ (cI h0 g2),ag _ _ (cI h0 g1)]
 refine .mk _ (.refl _) (.refl _) ⟨⟨f',l',rfl,hid (.refl _) (hf'.sub s2) _ _,hid s1 hl' _ _,fun i ef el=>?_⟩,((hH.trans (s1.trans s2)).put h1 _).put n2 _⟩
 exact(hf'.nid ef).2.1 ((hl'.nid el).1)
theorem wO{h:Heap}{x:AV}{c:aL}(hb:RdC h x c)(hl:c.fields.length≤1000000)(hl2:c.log.length≤1000000):ai Tryz.prog 120 [x] h fun r h' =>r=cq c∧h' =h:=
 ai.freeze fun g hg _=>(zb (hb.sub hg) hl hl2).mono fun r h' ⟨⟨f,l,e,hf,hlg,_⟩,h2⟩=>⟨h2,cq c,by
  subst e;refine .agg _ _ rfl fun i h1 h2=>?_
  rcases i with _|_|_|_|_|i
  ·exact adm
  ·exact adm
  ·exact adm
  ·exact hf.frz (bu (fun _=>rfl) _)
  ·exact hlg.frz (bu (fun _=>rfl) _)
  ·simp at h1;omega,rfl⟩
theorem ME(l:List bO):gV (l.map dM)=true:=bu (fun _=>rfl) l
theorem Vw:(U 266).sz=1:=adg
theorem Vx:(U 262).sz=1:=adg
theorem tX(t:ga)(ht:lG t=0)(h:Heap):ai Tryz.prog 214 [aV t] h fun r h' =>r=aV t∧h' =h:=by
 obtain⟨hl,he⟩:=Bw ht;refine acZ Tryz.func214 33 [.tmp 2] fun hwf=>?_
 simp only[go_sem,aV,acQ];refine .intro (fun m ρ h' =>∃(i:Nat) (y:AV) (ys:List AV),Acc U 262 h h' y ys∧ys.length=i∧(∀j (h1:j<ys.length) (h2:j<t.length),∃q,ys[j]= .sl (t[j].map iU) q)∧i≤t.length∧m=t.length - i∧lk ρ 3=some y∧lk ρ 9=some (.sl (t.map cU) .no)∧lk ρ 10=some (.i t.length)∧lk ρ 11=some (.i i)) t.length ?_ ?_
 ·refine⟨0,_,[],.full (.refl _),rfl,fun j h1=>ac1,ac0,rfl,?_,?_,?_,?_⟩<;>simp only[go_sem]
 ·rintro m ρ h' ⟨i,y,ys,hy,hn,hys,hi,rfl,r3,r9,r10,r11⟩
  simp only[go_sem,r10,r11];refine .intro (fun e=>?_) (fun e=>?_)
  ·have hlt:i<t.length:=acX e
   have w1:IntKind.i64.wrap ((i:Int)+1)=((i+1:Nat):Int):=adf;obtain⟨ha0,hal,hae⟩:=AB (he _ (acV hlt));simp only[go_sem,r9,r11];refine .at i ac1 adi ?_;simp only[go_sem,acR,cU,acQ];refine .intro (fun m ρ H=>∃(j:Nat) (z:AV) (zs:List AV),Acc U 266 h' H z zs∧zs=(t[i].take j).map iU∧j≤t[i].length∧m=t[i].length - j∧lk ρ 3=some y∧lk ρ 9=some (.sl (t.map cU) .no)∧lk ρ 10=some (.i t.length)∧lk ρ 11=some (.i i)∧lk ρ 6=some z∧lk ρ 15=some (.sl (t[i].map iU) .no)∧lk ρ 16=some (.i t[i].length)∧lk ρ 17=some (.i j)) t[i].length ?_ ?_
   ·refine⟨0,_,[],.full (.refl _),rfl,ac0,rfl,?_,?_,?_,?_,?_,?_,?_,?_⟩<;>simp only[go_sem,r3,r9,r10,r11]
   ·rintro m ρ H ⟨j,z,zs,hz,rfl,hj,rfl,r3,r9,r10,r11,r6,r15,r16,r17⟩
    simp only[go_sem,r16,r17];refine .intro (fun e=>?_) (fun e=>?_)
    ·have hlt2:j<t[i].length:=acX e
     have w2:IntKind.i64.wrap ((j:Int)+1)=((j+1:Nat):Int):=adf;have hml:=(AA (hae _ (acV hlt2))).2.1;simp only[go_sem,r15,r17];refine .at j ac1 adi ?_;simp only[go_sem,r6,acR,iU];refine(C4 _ (t[i][j].map dM) _ (eS dM 7 (fun _=>rfl) _ _) ac1 (ME _)).pthen ?_
     simp only[go_sem];refine hz.app (zs:=[iU t[i][j]]) ac4 ac4 (fun k hk=>hk) (by rw[Vw];exact bw (f:=iU) (fun _=>rfl) _) (by rw[Vw];exact bw (f:=iU) (fun _=>rfl) [t[i][j]]) (by simp only[go_sem,acQ,List.length_cons,List.length_nil,List.length_take];omega) fun z' H' hz' _=>?_
     simp only[go_sem,r17,w2];refine⟨_,?_,j+1,z',_,hz',?_,ac0,rfl,?_,?_,?_,?_,?_,?_,?_,?_⟩
     ·omega
     ·grind [List.take_succ_eq_append_getElem]
     all_goals simp only[go_sem,r3,r9,r10,r11,r15,r16]
    ·have hge:j=t[i].length:=by grind
     subst hge;rw[List.take_length]at hz;have hyH:=hy.sub hz.1;obtain⟨q,rfl⟩:=hz.row;simp only[go_sem,r3,r6];refine hyH.app (zs:=[.sl (t[i].map iU) q]) ac4 ac4 (fun k hk=>hk) (by rw[Vx];intro w hw;obtain⟨k,hk,rfl⟩:=List.mem_iff_getElem.1 hw;obtain⟨q',e'⟩:=hys k hk ac0;rw[e'];rfl) (by rw[Vx];intro w hw;rw[List.mem_singleton.1 hw];rfl) (by simp only[go_sem,hn,List.length_cons,List.length_nil];omega) fun y' H' hy' _=>?_
     simp only[go_sem,r11,w1];refine⟨_,?_,i+1,y',_,hy',ac1,fun k h1 h2=>?_,ac0,rfl,?_,?_,?_,?_⟩
     ·omega
     ·grind
     all_goals simp only[go_sem,r9,r10]
  ·have hge:i=t.length:=by grind
   simp only[go_sem,r3];obtain⟨q,rfl⟩:=hy.row;refine .mk (aV t) ?_ hy.1 ⟨rfl,rfl⟩;refine .deep _ _ q ac1 (fun k h1 h2=>?_) fun k h1 h2 j h3 h4=>?_
   ·obtain⟨q',e'⟩:=hys k h1 ac0
    rw[e',acR];rfl
   ·obtain⟨q',e'⟩:=hys k h1 ac0
    simp only[e',AV.cells,List.length_singleton]at h3;obtain rfl:j=0:=ac0;simp only[e',acR,cU,AV.cells,List.getElem_singleton];exact afH
theorem zl(t:ga):cL (aV t)=true:=by
 refine bu (fun a=>?_) t
 refine bu (fun b=>?_) a
 exact bu (fun _=>rfl) b
theorem J1(l:List aP):cL (fq l)=true:=by simp only[fq,cL];exact bu (fun _=>rfl) l
theorem vt(l:List cB):cL (aA l)=true:=by simp only[aA,cL];exact bu (fun _=>rfl) l
theorem Bi(r:cQ):cL (aC r)=true:=by simp[aC,cL,gV,zl,J1,vt]
mutual
theorem Em:∀p:bH,cL (aM p)=true
 |.mk id set alg tgt rules kids obls=>by simp[aM,cL,gV,zl,vt,bu Bi rules,vr kids]
theorem vr:∀l:List bH,gV (fG l)=true
 | []=>rfl
 |k::r=>by simp[fG,gV,Em k,vr r]
end
theorem js(p:bH):(aM p).cells.length=7:=by cases p;rfl
theorem N5{l:List aP}(h:j7 l=0):l.length≤32:=by
 grind [ym]
theorem HV{l:List cB}(h:ij l=0):l.length≤8:=(kE h).1
theorem vF{H:Heap}{i:Nat}{x:Option Blk}(h:H i=x):upd H i x=H:=by
 grind [ah,ag]
theorem lV{tb:TypeId}{h:Heap}{sz id i:Nat}{y:AV}{xs cs:List AV}{t:TypeId}(hw:Ow tb h sz id y xs)(hi:h i=some (.obj cs t))(ht:t≠tb):id≠i:=by
 obtain⟨cap,rest,rfl,h1,_⟩:=hw
 grind
theorem lC{sz:Nat}{xs:List AV}(hs:Sized sz xs)(j:Nat)(hj:j<xs.length)(o:Nat)(c:List AV)(ho:o+c.length≤sz){rest:List AV}:
  (au xs++rest).take (j*sz+o)++c++(au xs++rest).drop (j*sz+o+c.length)=au (xs.set j (.agg (Ab.over xs[j].cells o c)))++rest:=by
 have hl:=aY hs;have hb:(j+1)*sz≤xs.length*sz:=Nat.mul_le_mul_right _ ac0;rw[Nat.add_mul,Nat.one_mul]at hb;have:=Mt (us:=au xs) (vs:=rest) (o:=j*sz+o) (c:=c) ac0;rw[Ab.over]at this;rw[this,Je hs j hj o c ho]
theorem rj{α:Type}{xs:List α}{i:Nat}{x:α}(h:xs[i]? =some x):xs.set i x=xs:=by
 obtain⟨hi,rfl⟩:=List.getElem?_eq_some_iff.1 h;simp
theorem nK(id:Txt)(set:Bool)(alg:Int)(tgt:ga)(rules:List cQ)(kids:List bH)(obls:List cB):aM (.mk id set alg tgt rules kids obls)= .agg [.s id,.b set,.i alg,aV tgt,.sl (rules.map aC) .no,.sl (kids.map aM) .no,aA obls]:=by simp[aM,aX]
theorem tW:∀(p:bH) (d:Nat),mQ d p→∀h,ai Tryz.prog 169 [aM p] h fun r h' =>r=aM p∧h' =h
 |.mk pid pset palg ptgt prules pkids pobls,d,hp,h=>by
  obtain⟨_,_,_,_,_,_,ht,ho,hr16,hk16,hre,hke⟩:=hp;rw[qM]at hke;have ih:∀(j:Nat) (hj:j<pkids.length) (h:Heap),ai Tryz.prog 169 [aM pkids[j]] h fun r h' =>r=aM pkids[j]∧h' =h:=fun j hj h=>tW pkids[j] (d+1) (hke _ (acV hj)) h
  have hob:=HV ho;refine ai.freeze fun g hg _=>?_
  rw[nK];refine acZ Tryz.func169 72 [.cell 2 61] fun hwf=>?_
  simp only[go_sem];intro i1 h1;simp only[go_sem];intro i2 h2;have n21:=aH h2;have n2:=aB h2;simp only[go_sem];obtain⟨H,eH⟩:∃H,upd (upd g i1 (some (.obj [.s pid,.b pset,.i palg,aV ptgt,.sl (prules.map aC) .no,.sl (pkids.map aM) .no,aA pobls] 61))) i2 (some (.obj [.s [],.b false,.i 0,.sl [] .full,.sl [] .full,.sl [] .full,.sl [] .full] 61))=H:=⟨_,rfl⟩;have hH:Ab.Sub g H:=by rw[←eH];exact((Sub.refl g).put h1 _).put n2 _
  have g1:H i1=some (.obj [.s pid,.b pset,.i palg,aV ptgt,.sl (prules.map aC) .no,.sl (pkids.map aM) .no,aA pobls] 61):=aeC;have g2:H i2=some (.obj [.s [],.b false,.i 0,.sl [] .full,.sl [] .full,.sl [] .full,.sl [] .full] 61):=aeu;rw[eH];refine .stage (hm1 i1 _) [0,1,3,4,2,6,5] [7,8,9] (.hm1 g1) ac3 ?_;simp only[go_sem,gh];refine(tX ptgt ht H).pthen ?_;refine⟨.hm1 g1,?_⟩;simp only[go_sem];refine(AF _ (pobls.map bt) H (eS bt 3 (fun _=>rfl) _ _) adH (bu (fun _=>rfl) _)).pthen ?_
  refine⟨.hm1 g1,cR,(fun _ _ e=>ads),?_⟩
  have cT:(aV ptgt).cells= [aV ptgt]:=rfl;simp only[go_sem,g1,show fit (aV ptgt) 1=(1=1)from rfl,cT]
  have eo:(.sl (pobls.map bt) .no:AV)=aA pobls:=rfl;rw[eo];refine⟨fun _ _ e=>ads,fun _ _ e=>ads,?_⟩
  rw[vF g1];refine .stage (hm1 i1 _) [0,1,3,4,2,6,5] [7,8,9] (.hm1 g1) ac3 ?_;simp only[go_sem,gh];refine(IV _ (prules.map aC) H (eS aC 5 (fun _=>rfl) _ _) adH).mono fun y4 H1 ⟨w4,s1⟩=>?_
  refine⟨.hm1 (s1 _ _ g1),?_⟩;simp only[go_sem];refine(C2 _ (pkids.map aM) H1 (eS aM 7 js _ _) adH).mono fun y5 H2 ⟨w5,s2⟩=>?_
  have g1' :=s2 _ _ (s1 _ _ g1);have g2' :=s2 _ _ (s1 _ _ g2);refine⟨.hm1 g1',cR,(fun _ _ e=>ads),?_⟩
  simp only[go_sem,g1',w4.rd.fit,w4.rd.cells,w5.rd.fit,w5.rd.cells];refine⟨fun _ _ e=>ads,fun _ _ e=>ads,?_⟩
  have hn4:∀id,nid y4=some id→id≠i2:=fun id e=>cI (w4.nid e).1 g2
  have hn5:∀id,nid y5=some id→id≠i2:=fun id e=>cI (w5.nid e).1 (s1 _ _ g2)
  have hnd:∀i,nid y4=some i→nid y5≠some i:=fun i e4 e5=>(w4.nid e4).2.1 (w5.nid e5).1
  have v4:∀b,OwE 210 g (upd H2 i1 b) 5 y4 (prules.map aC):=fun b=>((w4.sub s2).less hH).keep fun id e=>ag _ _ (cI (w4.nid e).1 g1)
  have v5:∀b,OwE 61 g (upd H2 i1 b) 7 y5 (pkids.map aM):=fun b=>(w5.less (hH.trans s1)).keep fun id e=>ag _ _ (cI (s1.none (w5.nid e).1) g1)
  have vs:∀b,Ab.Sub g (upd H2 i1 b):=fun b=>(hH.trans (s1.trans s2)).put h1 b
  have vz:∀b,upd H2 i1 b i2=some (.obj [.s [],.b false,.i 0,.sl [] .full,.sl [] .full,.sl [] .full,.sl [] .full] 61):=fun b=>by rw[ag _ _ n21];exact g2'
  obtain⟨H3,eH3⟩:∃H3,upd H2 i1 (some (.obj [.s pid,.b pset,.i palg,aV ptgt,y4,y5,aA pobls] 61))=H3:=⟨_,rfl⟩;have q1:H3 i1=some (.obj [.s pid,.b pset,.i palg,aV ptgt,y4,y5,aA pobls] 61):=by rw[←eH3,ah]
  replace v4:=v4 (some (.obj [.s pid,.b pset,.i palg,aV ptgt,y4,y5,aA pobls] 61));replace v5:=v5 (some (.obj [.s pid,.b pset,.i palg,aV ptgt,y4,y5,aA pobls] 61));replace vs:=vs (some (.obj [.s pid,.b pset,.i palg,aV ptgt,y4,y5,aA pobls] 61));replace vz:=vz (some (.obj [.s pid,.b pset,.i palg,aV ptgt,y4,y5,aA pobls] 61));rw[eH3]at v4 v5 vs vz;rw[eH3];clear eH3;have hi1:∀id,g id=none→∀ {K:Heap} {b:Blk},K id=some b→K id≠none:=fun id _ K b e=>by rw[e];simp
  simp only[go_sem,v4.rd.len,acQ];refine .intro (fun m ρ G=>∃i:Nat,G i1=some (.obj [.s pid,.b pset,.i palg,aV ptgt,y4,y5,aA pobls] 61)∧G i2=some (.obj [.s [],.b false,.i 0,.sl [] .full,.sl [] .full,.sl [] .full,.sl [] .full] 61)∧Ab.Sub g G∧OwE 210 g G 5 y4 (prules.map aC)∧OwE 61 g G 7 y5 (pkids.map aM)∧i≤prules.length∧m=prules.length - i∧
   lk ρ 1=some (.ptr i1 0)∧lk ρ 2=some (.ptr i2 0)∧lk ρ 24=some y4∧lk ρ 25=some (.i prules.length)∧lk ρ 26=some (.i i)) prules.length ?_ ?_
  ·refine⟨0,q1,vz,vs,v4,v5,ac0,rfl,?_,?_,?_,?_,?_⟩<;>simp only[go_sem]
  ·rintro m ρ G ⟨i,q1,vz,vs,v4,v5,hi,rfl,r1,r2,r24,r25,r26⟩
   simp only[go_sem,r25,r26];refine .intro (fun e=>?_) (fun e=>?_)
   ·have hlt:i<prules.length:=acX e
    have w1:=acW i ac0;obtain⟨_,rt,rc,ro⟩:=hre _ (acV hlt);have hrc:=N5 rc;have hro:=HV ro;simp only[go_sem,r24,r26];refine v4.rd.idx (e:=210) i rfl adr ada ac4 fun p hp1=>?_
    have hld:=hp1.all (U:=U) (ty:=210) ada adG adG;simp only[go_sem,hld,acR,aC];intro i4 h4;have n41:i4≠i1:=cI h4 q1;simp only[go_sem];obtain⟨G4,eG4⟩:∃G4,upd G i4 (some (.obj [.s prules[i].id,.b prules[i].deny,aV prules[i].tgt,fq prules[i].cond,aA prules[i].obls] 210))=G4:=⟨_,rfl⟩;rw[eG4];have p1:G4 i1=some (.obj [.s pid,.b pset,.i palg,aV ptgt,y4,y5,aA pobls] 61):=afG;have p4:G4 i4=some (.obj [.s prules[i].id,.b prules[i].deny,aV prules[i].tgt,fq prules[i].cond,aA prules[i].obls] 210):=by rw[←eG4,ah]
    have sG:Ab.Sub G G4:=agn;refine .calls (hm2 i1 (.obj [.s pid,.b pset,.i palg,aV ptgt,y4,y5,aA pobls] 61) i4 (.obj [.s prules[i].id,.b prules[i].deny,aV prules[i].tgt,fq prules[i].cond,aA prules[i].obls] 210)) [0,1,2,3,4,5,6,7,8,9,10,12,13,15,16,11,14,17,18,19,20,21,22,23,24,25,26] (.hm2 p1 p4) ac3 rfl ?_;simp only[go_sem,r1,rG _ _ n41.symm,rH];refine(tX prules[i].tgt rt G4).pthen ?_;refine⟨.hm2 p1 p4,?_⟩;simp only[go_sem];refine(Ft _ (prules[i].cond.map dI) G4 (eS dI 7 (fun _=>rfl) _ _) adH (bu (fun _=>rfl) _)).pthen ?_
    refine⟨.hm2 p1 p4,?_⟩;simp only[go_sem];refine(AF _ (prules[i].obls.map bt) G4 (eS bt 3 (fun _=>rfl) _ _) adH (bu (fun _=>rfl) _)).pthen ?_
    refine⟨.hm2 p1 p4,?_⟩;simp only[go_sem];obtain⟨id4,hg4,o4⟩:=(v4.sub sG).ow ae9;have m1:id4≠i1:=lV o4 p1 ac4;have m4:id4≠i4:=fun e=>(v4.nid o4.nid).2.1 (by rw[e];exact h4)
    refine o4.idx (U:=U) (e:=210) i rfl adr ada ac4 ?_;simp only[go_sem];have o4' :=o4;obtain⟨cap,rest,ey,hid,hr,hc,hsz⟩:=o4';have hbd:i*5+5≤(au (prules.map aC)++rest).length:=by
     rw[acU,aY hsz,acQ];omega
    have e2:List.take (i*5+2) (au (prules.map aC)++rest)++(aV prules[i].tgt).cells++List.drop (i*5+2+(aV prules[i].tgt).cells.length) (au (prules.map aC)++rest)=au (prules.map aC)++rest:=by
     refine(lC hsz i adr 2 ((aV prules[i].tgt).cells) (acP rfl)).trans ?_;exact aiH
    have e3:List.take (i*5+3) (au (prules.map aC)++rest)++ [.sl (prules[i].cond.map dI) .no]++List.drop (i*5+3+1) (au (prules.map aC)++rest)=au (prules.map aC)++rest:=by
     refine(lC hsz i adr 3 ([.sl (prules[i].cond.map dI) .no]) (acP rfl)).trans ?_;exact aiH
    have e4:List.take (i*5+4) (au (prules.map aC)++rest)++ [.sl (prules[i].obls.map bt) .no]++List.drop (i*5+4+1) (au (prules.map aC)++rest)=au (prules.map aC)++rest:=by
     refine(lC hsz i adr 4 ([.sl (prules[i].obls.map bt) .no]) (acP rfl)).trans ?_;exact aiH
    simp only[go_sem,hid];rw[e2,vF hid];refine⟨rfl,ac0,.hm2 p1 p4,?_⟩;refine o4.idx (U:=U) (e:=210) i rfl adr ada ac4 ?_;simp only[go_sem,hid];rw[e3,vF hid];refine⟨ac0,.hm2 p1 p4,?_⟩;refine o4.idx (U:=U) (e:=210) i rfl adr ada ac4 ?_;simp only[go_sem,hid];rw[e4,vF hid];refine⟨ac0,.hm2 p1 p4,?_⟩;simp only[go_sem,r26,w1];refine⟨_,?_,i+1,p1,sG _ _ vz,vs.trans sG,v4.sub sG,v5.sub sG,ac0,rfl,?_,?_,?_,?_,?_⟩
    ·omega
    all_goals simp only[go_sem,r1,r2,r24,r25]
   ·have hge:i=prules.length:=by have:=acT e;omega
    clear hge;simp only[go_sem,r1,q1,v5.rd.len,acQ];refine .intro (fun m ρ G=>∃i:Nat,G i1=some (.obj [.s pid,.b pset,.i palg,aV ptgt,y4,y5,aA pobls] 61)∧G i2=some (.obj [.s [],.b false,.i 0,.sl [] .full,.sl [] .full,.sl [] .full,.sl [] .full] 61)∧Ab.Sub g G∧OwE 210 g G 5 y4 (prules.map aC)∧OwE 61 g G 7 y5 (pkids.map aM)∧i≤pkids.length∧m=pkids.length - i∧
     lk ρ 1=some (.ptr i1 0)∧lk ρ 2=some (.ptr i2 0)∧lk ρ 57=some y5∧lk ρ 58=some (.i pkids.length)∧lk ρ 59=some (.i i)) pkids.length ?_ ?_
    ·refine⟨0,q1,vz,vs,v4,v5,ac0,rfl,?_,?_,?_,?_,?_⟩<;>simp only[go_sem,r1,r2]
    ·clear r1 r2 r24 r25 r26 q1 vz vs v4 v5 e hi
     rintro m ρ G ⟨i,q1,vz,vs,v4,v5,hi,rfl,r1,r2,r57,r58,r59⟩
     simp only[go_sem,r58,r59];refine .intro (fun e=>?_) (fun e=>?_)
     ·have hlt:i<pkids.length:=acX e
      have w1:=acW i ac0;have ihi:=ih i hlt;have hci:=js pkids[i];cases hpk:pkids[i]with
      |mk kid kset kalg ktgt krules kkids kobls=>
      rw[hpk,nK]at ihi;simp only[go_sem,r57,r59];refine v5.rd.idx (e:=61) i rfl adr ada ac4 fun p hp1=>?_
      have hld:=hp1.all (U:=U) (ty:=61) ada (by simp only[go_sem];rw[acR];exact hci) (by simp only[go_sem];rw[acR,hpk,nK];rfl)
      simp only[go_sem,hld,acR,hpk,nK];intro i4 h4;have n41:i4≠i1:=cI h4 q1;simp only[go_sem];obtain⟨G4,eG4⟩:∃G4,upd G i4 (some (.obj [.s kid,.b kset,.i kalg,aV ktgt,.sl (krules.map aC) .no,.sl (kkids.map aM) .no,aA kobls] 61))=G4:=⟨_,rfl⟩;rw[eG4];have p1:G4 i1=some (.obj [.s pid,.b pset,.i palg,aV ptgt,y4,y5,aA pobls] 61):=afG;have p4:G4 i4=some (.obj [.s kid,.b kset,.i kalg,aV ktgt,.sl (krules.map aC) .no,.sl (kkids.map aM) .no,aA kobls] 61):=by rw[←eG4,ah]
      have sG:Ab.Sub G G4:=agn;refine .calls (hm2 i1 (.obj [.s pid,.b pset,.i palg,aV ptgt,y4,y5,aA pobls] 61) i4 (.obj [.s kid,.b kset,.i kalg,aV ktgt,.sl (krules.map aC) .no,.sl (kkids.map aM) .no,aA kobls] 61)) [0,1,2,3,4,5,6] (.hm2 p1 p4) ac3 rfl ?_;simp only[go_sem,r1,rG _ _ n41.symm,rH];refine(ihi G4).pthen ?_;refine⟨.hm2 p1 p4,?_⟩;simp only[go_sem];obtain⟨id4,hg4,o4⟩:=(v5.sub sG).ow ae9;have o4' :=o4;obtain⟨cap,rest,ey,hid,hr,hc,hsz⟩:=o4';have hbd:i*7+7≤(au (pkids.map aM)++rest).length:=by
       rw[acU,aY hsz,acQ];omega
      have e2:List.take (i*7) (au (pkids.map aM)++rest)++ [.s kid,.b kset,.i kalg,aV ktgt,.sl (krules.map aC) .no,.sl (kkids.map aM) .no,aA kobls]++List.drop (i*7+7) (au (pkids.map aM)++rest)=au (pkids.map aM)++rest:=by
       refine(lC hsz i adr 0 [.s kid,.b kset,.i kalg,aV ktgt,.sl (krules.map aC) .no,.sl (kkids.map aM) .no,aA kobls] (acP rfl)).trans ?_;rw[rj];rw[List.getElem?_eq_getElem adr,acR,hpk,nK];rfl
      refine o4.idx (U:=U) (e:=61) i rfl adr ada ac4 ?_;simp only[go_sem,hid];rw[e2,vF hid];refine⟨ac0,.hm2 p1 p4,?_⟩;simp only[go_sem,r59,w1];refine⟨_,?_,i+1,p1,sG _ _ vz,vs.trans sG,v4.sub sG,v5.sub sG,ac0,rfl,?_,?_,?_,?_,?_⟩
      ·omega
      all_goals simp only[go_sem,r1,r2,r57,r58]
     ·simp only[go_sem,r1,r2,q1,vz]
      refine .mk _ (.refl _) (.refl _) ⟨vs.put n2 _,aM (.mk pid pset palg ptgt prules pkids pobls),?_,nK ..⟩;rw[nK];have z4:∀b,Frz g (upd G i2 b) y4 (.sl (prules.map aC) .no):=fun b=>(v4.keep fun id e=>ag _ _ (hn4 id e)).frz (bu Bi prules)
      have z5:∀b,Frz g (upd G i2 b) y5 (.sl (pkids.map aM) .no):=fun b=>(v5.keep fun id e=>ag _ _ (hn5 id e)).frz (by rw[←aX];exact vr pkids)
      refine .agg _ _ rfl fun k k1 k2=>?_
      rcases k with _|_|_|_|_|_|_|k
      ·exact adm
      ·exact adm
      ·exact adm
      ·exact .pure (zl _)
      ·exact z4 _
      ·exact z5 _
      ·exact .pure (vt _)
      ·simp at k1;omega
termination_by p=>SizeOf.sizeOf p
decreasing_by
 have:=List.sizeOf_lt_of_mem (acV hj);simp only[bH.mk.sizeOf_spec];omega
end Go.Proofs.YtfdgemhnlennbaaGreatDoor
namespace Go.Ab
open Go
def apart(a b:AV):Prop:=∀i,nid a=some i→nid b≠some i
theorem apart.symm{a b:AV}(h:apart a b):apart b a:=fun i e1 e2=>h i e2 e1
theorem dW{a y:AV}{tb:TypeId}{g h:Heap}{sz:Nat}{xs:List AV}(hw:OwE tb g h sz y xs)(ha:∀i,nid a=some i→g i≠none):apart a y:=fun i e1 e2=>ha i e1 (hw.nid e2).1
theorem OwE.there{tb:TypeId}{h0 h h' :Heap}{sz:Nat}{y:AV}{xs:List AV}(hw:OwE tb h0 h sz y xs)(hs:∀i,h i≠Option.none→h' i≠Option.none):∀i,Ab.nid y=some i→h' i≠Option.none:=fun i e=>hs i (hw.nid e).2.1
theorem Sub.some{h h' :Heap}(hs:Sub h h'):∀i,h i≠Option.none→h' i≠Option.none:=fun i e e' =>e (hs.none e')
end Go.Ab
namespace Go.Proofs.YtfdgemhnlennbaaGreatDoor
open Go Go.Ab Go.Bf
def fm(h0 h:Heap)(ys:List AV)(x:AV)(c:aL):Prop:=∃f l,x= .agg [.s c.id,.s c.owner,.s c.state,f,l]∧OwE 201 h0 h 4 f (c.fields.map bM)∧OwE 191 h0 h 3 l (c.log.map iJ)∧apart f l∧∀y∈ys,apart f y∧apart l y
def lY(h0 h:Heap)(ys:List AV)(y1:AV)(cs:List aL)(i0:Nat):Prop:=∃xs,OwE 122 h0 h 5 y1 xs∧xs.length=cs.length∧(∀j (h1:j<xs.length) (h2:j<cs.length),j≠i0→xs[j]=cq cs[j])∧∀(h1:i0<xs.length) (h2:i0<cs.length),fm h0 h ys xs[i0] cs[i0]
def sZ(h0 h:Heap)(x:AV)(s:an)(i0:Nat):Prop:=∃y1 y2 y3 y4,x= .agg ([.i s.tick,y1,y2,y3,y4]++fX s.policy++ [.i s.version])∧lY h0 h [y1,y2,y3,y4] y1 s.cases i0∧
 OwE 135 h0 h 7 y2 (s.reviews.map iO)∧OwE 138 h0 h 3 y3 (s.notices.map nc)∧OwE 141 h0 h 2 y4 (s.roles.map eJ)∧apart y1 y2∧apart y1 y3∧apart y1 y4∧apart y2 y3∧apart y2 y4∧apart y3 y4
theorem JW{cs L:List AV}(h:L.length=cs.length):Ab.over cs 0 L=L:=by
 simp_all [Ab.over,List.take_zero,List.nil_append,Nat.zero_add,List.drop_of_length_le,List.append_nil]
theorem Ed{h:Heap}{x:AV}{c:aL}(i i0:Nat)(hb:RdC h x c)(hl:c.fields.length≤1000000)(hl2:c.log.length≤1000000):ai Tryz.prog 120 [x] h fun r h' =>
  ∃f l,r= .agg [.s c.id,.s c.owner,.s c.state,f,l]∧Ab.Sub h h'∧f.cells= [f]∧l.cells= [l]∧(i≠i0→f=gw c.fields∧l=sI c.log)∧(i=i0→OwE 201 h h' 4 f (c.fields.map bM)∧OwE 191 h h' 3 l (c.log.map iJ)∧apart f l):=by
 by_cases e:i=i0
 ·exact(zb hb hl hl2).mono fun r h' ⟨⟨f,l,e1,a,b,c⟩,d⟩=>⟨f,l,e1,d,a.rd.cells,b.rd.cells,fun hh=>(hh e).elim,fun _=>⟨a,b,c⟩⟩
 ·exact(wO hb hl hl2).mono fun r h' ⟨e1,e2⟩=>⟨_,_,e1,by rw[e2];exact .refl _,rfl,rfl,fun _=>⟨rfl,rfl⟩,fun hh=>(e hh).elim⟩
theorem fm.sub{h0 h h' :Heap}{ys:List AV}{x:AV}{c:aL}(hm:fm h0 h ys x c)(hs:Ab.Sub h h'):fm h0 h' ys x c:=by
 obtain⟨f,l,e,a,b,c,d⟩:=hm;exact⟨f,l,e,a.sub hs,b.sub hs,c,d⟩
theorem fm.keep{h0 h h' :Heap}{ys:List AV}{x:AV}{c:aL}(hm:fm h0 h ys x c)(hs:∀f l,x= .agg [.s c.id,.s c.owner,.s c.state,f,l]→(∀y∈ys,apart f y∧apart l y)→∀i,(nid f=some i∨nid l=some i)→h' i=h i):fm h0 h' ys x c:=by
 obtain⟨f,l,e,a,b,c,d⟩:=hm;exact⟨f,l,e,a.keep fun i hi=>hs f l e d i (.inl hi),b.keep fun i hi=>hs f l e d i (.inr hi),c,d⟩
theorem Sd{h:Heap}{x:AV}{s:an}(hb:RdS h x s)(i0:Nat)(hf:Few s)(hp:mQ 1 s.policy):ai Tryz.prog 114 [x] h fun r h' =>sZ h h' r s i0∧Ab.Sub h h' :=by
 obtain⟨y1,y2,y3,y4,rfl,⟨xs0,hc,hn,hcs⟩,h2,h3,h4⟩:=hb;have hpo:=tW s.policy 1 hp;cases hpp:s.policy with
 |mk pid pset palg ptgt prules pkids pobls=>
 rw[hpp,nK]at hpo;have hcC:fX (.mk pid pset palg ptgt prules pkids pobls)= [.s pid,.b pset,.i palg,aV ptgt,.sl (prules.map aC) .no,.sl (pkids.map aM) .no,aA pobls]:=af6;have hfc:=hf.cases;refine acZ Tryz.func114 41 [.cell 2 63] fun hwf=>?_
 simp only[go_sem,hcC,List.cons_append,List.nil_append];intro i1 h1;simp only[go_sem];intro i2 h2';have n21:=aH h2';have n2:=aB h2';simp only[go_sem,ak,n21.symm];obtain⟨H,eH⟩:∃H,upd (upd h i1 (some (.obj [.i s.tick,y1,y2,y3,y4,.s pid,.b pset,.i palg,aV ptgt,.sl (prules.map aC) .no,.sl (pkids.map aM) .no,aA pobls,.i s.version] 63))) i2 (some (.obj [.i 0,.sl [] .full,.sl [] .full,.sl [] .full,.sl [] .full,.s [],.b false,.i 0,.sl [] .full,.sl [] .full,.sl [] .full,.sl [] .full,.i 0] 63))=H:=⟨_,rfl⟩;have hH:Ab.Sub h H:=ad1;have g1:H i1=some (.obj [.i s.tick,y1,y2,y3,y4,.s pid,.b pset,.i palg,aV ptgt,.sl (prules.map aC) .no,.sl (pkids.map aM) .no,aA pobls,.i s.version] 63):=aeC;have g2:H i2=some (.obj [.i 0,.sl [] .full,.sl [] .full,.sl [] .full,.sl [] .full,.s [],.b false,.i 0,.sl [] .full,.sl [] .full,.sl [] .full,.sl [] .full,.i 0] 63):=aeu;rw[eH];clear eH;refine(AD y1 xs0 H (hc.sub hH) ac0).mono fun z1 H1 ⟨w1,s1⟩=>?_
 simp only[go_sem,s1 _ _ g1,w1.rd.fit,w1.rd.cells];have v1:∀b,OwE 122 h (upd H1 i1 b) 5 z1 xs0:=fun b=>(w1.less hH).keep fun id e=>ag _ _ (cI (w1.nid e).1 g1)
 have vs:∀b,Ab.Sub h (upd H1 i1 b):=fun b=>(hH.trans s1).put h1 b
 have vz:∀b,upd H1 i1 b i2=some (.obj [.i 0,.sl [] .full,.sl [] .full,.sl [] .full,.sl [] .full,.s [],.b false,.i 0,.sl [] .full,.sl [] .full,.sl [] .full,.sl [] .full,.i 0] 63):=fun b=>by rw[ag _ _ n21];exact s1 _ _ g2
 have hz1:∀id,nid z1=some id→id≠i1:=fun id e=>cI (w1.nid e).1 g1
 have hz2:∀id,nid z1=some id→id≠i2:=fun id e=>cI (w1.nid e).1 g2
 obtain⟨H2,eH2⟩:∃H2,upd H1 i1 (some (.obj [.i s.tick,z1,y2,y3,y4,.s pid,.b pset,.i palg,aV ptgt,.sl (prules.map aC) .no,.sl (pkids.map aM) .no,aA pobls,.i s.version] 63))=H2:=⟨_,rfl⟩;replace v1:=v1 (some (.obj [.i s.tick,z1,y2,y3,y4,.s pid,.b pset,.i palg,aV ptgt,.sl (prules.map aC) .no,.sl (pkids.map aM) .no,aA pobls,.i s.version] 63));replace vs:=vs (some (.obj [.i s.tick,z1,y2,y3,y4,.s pid,.b pset,.i palg,aV ptgt,.sl (prules.map aC) .no,.sl (pkids.map aM) .no,aA pobls,.i s.version] 63));replace vz:=vz (some (.obj [.i s.tick,z1,y2,y3,y4,.s pid,.b pset,.i palg,aV ptgt,.sl (prules.map aC) .no,.sl (pkids.map aM) .no,aA pobls,.i s.version] 63));have q1:H2 i1=some (.obj [.i s.tick,z1,y2,y3,y4,.s pid,.b pset,.i palg,aV ptgt,.sl (prules.map aC) .no,.sl (pkids.map aM) .no,aA pobls,.i s.version] 63):=by rw[←eH2,ah]
 rw[eH2]at v1 vs vz;rw[eH2];clear eH2;simp only[go_sem,v1.rd.len,hn];refine .intro (fun m ρ G=>∃(i:Nat) (xs:List AV),G i1=some (.obj [.i s.tick,z1,y2,y3,y4,.s pid,.b pset,.i palg,aV ptgt,.sl (prules.map aC) .no,.sl (pkids.map aM) .no,aA pobls,.i s.version] 63)∧G i2=some (.obj [.i 0,.sl [] .full,.sl [] .full,.sl [] .full,.sl [] .full,.s [],.b false,.i 0,.sl [] .full,.sl [] .full,.sl [] .full,.sl [] .full,.i 0] 63)∧Ab.Sub h G∧OwE 122 h G 5 z1 xs∧xs.length=s.cases.length∧(∀j (h1:j<xs.length) (h2:j<s.cases.length),j<i→j≠i0→xs[j]=cq s.cases[j])∧(∀(h1:i0<xs.length) (h2:i0<s.cases.length),i0<i→fm h G [z1] xs[i0] s.cases[i0])∧(∀j (h1:j<xs.length) (h2:j<s.cases.length),i≤j→RdC h xs[j] s.cases[j])∧i≤s.cases.length∧m=s.cases.length - i∧
  lk ρ 1=some (.ptr i1 0)∧lk ρ 2=some (.ptr i2 0)∧lk ρ 10=some z1∧lk ρ 11=some (.i s.cases.length)∧lk ρ 12=some (.i i)) s.cases.length ?_ ?_
 ·refine⟨0,xs0,q1,vz,vs,v1,hn,fun j _ _ hj=>ac0,fun _ _ hj=>ac0,fun j a b _=>hcs j a b,ac0,rfl,?_,?_,?_,?_,?_⟩<;>simp only[go_sem]
 ·rintro m ρ G ⟨i,xs,q1,vz,vs,v1,hn,hlo,hmy,hhi,hi,rfl,r1,r2,r10,r11,r12⟩
  simp only[go_sem,r11,r12];refine .intro (fun e=>?_) (fun e=>?_)
  ·have hlt:i<s.cases.length:=acX e
   have hltx:i<xs.length:=ac0;have w1:=acW i ac0;obtain⟨f,l,ex,hfl,hlg⟩:=hhi i hltx hlt (Nat.le_refl _);have hff:=hf.fields _ (acV hlt);have hfg:=hf.log _ (acV hlt);simp only[go_sem,r10,r12];refine v1.rd.idx (e:=122) i rfl hltx nN ac4 fun p hp1=>?_
   have hld:=hp1.all (U:=U) (ty:=122) ada (by rw[nN,ex];rfl) (by simp only[go_sem];rw[ex];rfl)
   simp only[go_sem,hld,ex];intro i4 h4;have n41:i4≠i1:=cI h4 q1;simp only[go_sem];obtain⟨G4,eG4⟩:∃G4,upd G i4 (some (.obj [.s s.cases[i].id,.s s.cases[i].owner,.s s.cases[i].state,f,l] 122))=G4:=⟨_,rfl⟩;rw[eG4];have p1:G4 i1=some (.obj [.i s.tick,z1,y2,y3,y4,.s pid,.b pset,.i palg,aV ptgt,.sl (prules.map aC) .no,.sl (pkids.map aM) .no,aA pobls,.i s.version] 63):=afG;have p4:G4 i4=some (.obj [.s s.cases[i].id,.s s.cases[i].owner,.s s.cases[i].state,f,l] 122):=by rw[←eG4,ah]
   have sG:Ab.Sub G G4:=agn;refine .calls (hm2 i1 (.obj [.i s.tick,z1,y2,y3,y4,.s pid,.b pset,.i palg,aV ptgt,.sl (prules.map aC) .no,.sl (pkids.map aM) .no,aA pobls,.i s.version] 63) i4 (.obj [.s s.cases[i].id,.s s.cases[i].owner,.s s.cases[i].state,f,l] 122)) [0,1,2,3,4,5,6] (.hm2 p1 p4) ac3 rfl ?_;simp only[go_sem,r1,rG _ _ n41.symm,rH];refine(Ed i i0 (show RdC G4 (.agg [.s s.cases[i].id,.s s.cases[i].owner,.s s.cases[i].state,f,l]) s.cases[i]from⟨f,l,rfl,hfl.sub (vs.trans sG),hlg.sub (vs.trans sG)⟩) hff hfg).mono fun r G5 ⟨f',l',er,s5,cf,cl,hne,heq⟩=>?_
   subst er;have p1' :=s5 _ _ p1;have p4' :=s5 _ _ p4;refine⟨.hm2 p1' p4',?_⟩;simp only[go_sem];obtain⟨id1,hg1,o1⟩:=((v1.sub sG).sub s5).ow (by intro e;rw[e]at hltx;cases hltx)
   have t1:id1≠i1:=lV o1 p1' ac4;have t2:id1≠i2:=hz2 id1 o1.nid;have t3:G4 id1≠none:=fun e=>(v1.nid o1.nid).2.1 (sG.none e)
   have o1' :=o1;obtain⟨cap,rest,ey,hid,hr,hcap,hsz⟩:=o1';have hbd:i*5+5≤(au xs++rest).length:=by
    rw[acU,aY hsz];omega
   have hx5:xs[i].cells.length=5:=hsz _ (acV hltx);have e2:List.take (i*5) (au xs++rest)++ [.s s.cases[i].id,.s s.cases[i].owner,.s s.cases[i].state,f',l']++List.drop (i*5+5) (au xs++rest)=au (xs.set i (.agg [.s s.cases[i].id,.s s.cases[i].owner,.s s.cases[i].state,f',l']))++rest:=by
    refine(lC hsz i hltx 0 [.s s.cases[i].id,.s s.cases[i].owner,.s s.cases[i].state,f',l'] (acP rfl)).trans ?_;rw[JW (by rw[hx5];rfl)]
   refine o1.idx (U:=U) (e:=122) i rfl hltx nN ac4 ?_;simp only[go_sem,hid];rw[e2];have t4:id1≠i4:=fun e=>(v1.nid o1.nid).2.1 (by rw[e];exact h4)
   refine⟨ac0,.hm2 (by rw[ag _ _ t1.symm];exact p1') (by rw[ag _ _ t4.symm];exact p4'),?_⟩
   simp only[go_sem,r12,w1];have ho:∀b k,k≠id1→upd G5 id1 b k=G5 k:=fun b k hk=>ag _ _ hk
   have hs6:∀b,Ab.Sub h (upd G5 id1 b):=fun b=>((vs.trans sG).trans s5).put hg1 b
   refine⟨_,?_,i+1,xs.set i (.agg [.s s.cases[i].id,.s s.cases[i].owner,.s s.cases[i].state,f',l']),(ho _ _ t1.symm).trans p1',(ho _ _ t2.symm).trans (s5 _ _ (sG _ _ vz)),hs6 _,.inr ⟨id1,hg1,cap,rest,afj,ah ..,by rw[List.length_set];exact hr,afa,?_⟩,by rw[List.length_set];exact hn,fun j a b hj hj0=>?_,fun a b hj=>?_,fun j a b hj=>?_,ac0,rfl,?_,?_,?_,?_,?_⟩
   ·omega
   ·intro z hz
    exact ahW
   ·have a' :j<xs.length:=by rw[List.length_set]at a;exact a
    by_cases hji:j=i
    ·subst hji
     obtain⟨ef,el⟩:=hne hj0;rw[List.getElem_set_self,ef,el];rfl
    ·rw[List.getElem_set_ne (Ne.symm hji)]
     exact hlo j a' b ac0 hj0
   ·have a' :i0<xs.length:=by rw[List.length_set]at a;exact a
    by_cases hji:i=i0
    ·subst hji
     obtain⟨of,ol,hap⟩:=heq rfl;have kf:∀k,G4 k=none→upd G5 id1 (some (.obj (au (xs.set i (.agg [.s s.cases[i].id,.s s.cases[i].owner,.s s.cases[i].state,f',l']))++rest) 122)) k=G5 k:=fun k hk=>ag _ _ fun e=>t3 (by rw[←e];exact hk)
     rw[List.getElem_set_self];refine⟨f',l',rfl,(of.less (vs.trans sG)).keep fun k hk=>kf k (of.nid hk).1,(ol.less (vs.trans sG)).keep fun k hk=>kf k (ol.nid hk).1,hap,fun y hy=>?_⟩
     rw[List.mem_singleton.1 hy];have hz1:∀k,nid z1=some k→G4 k≠none:=(v1.sub sG).there fun k hk=>hk
     exact⟨(dW of hz1).symm,(dW ol hz1).symm⟩
    ·rw[List.getElem_set_ne hji]
     have hm:=hmy a' b ac0;refine fm.keep (h:=G5) ((hm.sub sG).sub s5) fun f l ex hap k hk=>?_
     refine ag _ _ fun e=>?_
     subst e;rcases hk with hk|hk
     ·exact(hap z1 (List.mem_singleton.2 rfl)).1 _ hk o1.nid
     ·exact(hap z1 (List.mem_singleton.2 rfl)).2 _ hk o1.nid
   ·have a' :j<xs.length:=by rw[List.length_set]at a;exact a
    rw[List.getElem_set_ne ac0];exact hhi j a' b ac0
   all_goals simp only[go_sem,r1,r2,r10,r11]
  ·have hge:i=s.cases.length:=by have:=acT e;omega
   simp only[go_sem];refine .stage (hm1 i1 (.obj [.i s.tick,z1,y2,y3,y4,.s pid,.b pset,.i palg,aV ptgt,.sl (prules.map aC) .no,.sl (pkids.map aM) .no,aA pobls,.i s.version] 63)) [0,1,3,4,6,7,2,9,5,8] [10,11,12,13,14] (.hm1 q1) ac3 ?_;simp only[go_sem,r1,gh];refine(vT y2 _ G (h2.sub vs) (by rw[acQ];exact hf.reviews)).mono fun z2 G1 ⟨o2,s1⟩=>?_
   refine⟨.hm1 (s1 _ _ q1),?_⟩;simp only[go_sem,r1];refine(vS y3 _ G1 ((h3.sub vs).sub s1) (by rw[acQ];exact hf.notices)).mono fun z3 G2 ⟨o3,s2⟩=>?_
   refine⟨.hm1 (s2 _ _ (s1 _ _ q1)),?_⟩;simp only[go_sem];refine(IU y4 _ G2 (((h4.sub vs).sub s1).sub s2) (by rw[acQ];exact hf.roles)).mono fun z4 G3 ⟨o4,s3⟩=>?_
   have s03:Ab.Sub G G3:=s1.trans (s2.trans s3);have q1' :=s03 _ _ q1;have q2' :=s03 _ _ vz;refine⟨.hm1 q1',cR,(fun _ _ e=>ads),?_⟩
   simp only[go_sem,r1,q1',o2.rd.fit,o2.rd.cells,o3.rd.fit,o3.rd.cells,o4.rd.fit,o4.rd.cells];refine⟨fun _ _ e=>ads,fun _ _ e=>ads,fun _ _ e=>ads,?_⟩
   refine(show ai Tryz.prog 169 [_] _ _ from hpo _).pthen ?_
   have vz' :∀b,upd G3 i1 b i2=some (.obj [.i 0,.sl [] .full,.sl [] .full,.sl [] .full,.sl [] .full,.s [],.b false,.i 0,.sl [] .full,.sl [] .full,.sl [] .full,.sl [] .full,.i 0] 63):=fun b=>by rw[ag _ _ n21];exact q2'
   simp only[go_sem,r1,r2,vz'];have k1:∀ {tb:TypeId} {z:AV} {xs:List AV} {n:Nat} {g:Heap},OwE tb g G3 n z xs→Ab.Sub h g→(∀id,nid z=some id→id≠i1∧id≠i2)→∀a b,OwE tb h (upd (upd G3 i1 a) i2 b) n z xs:=fun w hg hn a b=>(w.less hg).keep fun id e=>by
    rw[ag _ _ (hn id e).2,ag _ _ (hn id e).1]
   have new:∀ {tb:TypeId} {z:AV} {xs:List AV} {n:Nat} {g:Heap},OwE tb g G3 n z xs→Ab.Sub G g→∀id,nid z=some id→id≠i1∧id≠i2:=fun w hg id e=>⟨cI (w.nid e).1 (hg _ _ q1),cI (w.nid e).1 (hg _ _ vz)⟩
   have n2' :=new (o2.sub (s2.trans s3)) (.refl _);have n3' :=new (o3.sub s3) s1;have n4' :=new o4 (s1.trans s2);have n1' :∀id,nid z1=some id→id≠i1∧id≠i2:=fun id e=>⟨hz1 id e,hz2 id e⟩
   have aG:∀k,nid z1=some k→G k≠none:=v1.there fun k hk=>hk
   refine .mk _ (.refl _) (.refl _) ⟨⟨z1,z2,z3,z4,by rw[hpp,hcC];rfl,⟨xs,k1 (v1.sub s03) (.refl _) n1' _ _,hn,fun j a b hj=>hlo j a b ac0 hj,fun a b=>?_⟩,k1 (o2.sub (s2.trans s3)) vs n2' _ _,k1 (o3.sub s3) (vs.trans s1) n3' _ _,k1 o4 (vs.trans (s1.trans s2)) n4' _ _,?_,?_,?_,?_,?_,?_⟩,((vs.trans s03).put h1 _).put n2 _⟩
   ·have hm:=(hmy a b ac0).sub s03
    obtain⟨f,l,ex,of,ol,hap,hy⟩:=hm;obtain⟨af,al⟩:=hy z1 (List.mem_singleton.2 rfl);have kf:∀k,nid f=some k→k≠i1∧k≠i2:=fun k hk=>⟨lV (of.nid hk).2.2 q1' ac4,lV (of.nid hk).2.2 q2' ac4⟩
    have kl:∀k,nid l=some k→k≠i1∧k≠i2:=fun k hk=>⟨lV (ol.nid hk).2.2 q1' ac4,lV (ol.nid hk).2.2 q2' ac4⟩
    obtain⟨f0,l0,ex0,of0,ol0,_⟩:=hmy a b ac0;obtain⟨rfl,rfl⟩:f0=f∧l0=l:=by
     rw[ex0]at ex;simp only[AV.agg.injEq,List.cons.injEq,true_and,and_true]at ex;exact ex
    have gf:∀k,nid f0=some k→G k≠none:=of0.there fun k hk=>hk
    have gl:∀k,nid l0=some k→G k≠none:=ol0.there fun k hk=>hk
    refine⟨f0,l0,ex,k1 of (.refl _) kf _ _,k1 ol (.refl _) kl _ _,hap,fun y hy=>?_⟩
    simp only[List.mem_cons,List.not_mem_nil,or_false]at hy;rcases hy with rfl|rfl|rfl|rfl
    ·exact⟨af,al⟩
    ·exact⟨dW o2 gf,dW o2 gl⟩
    ·exact⟨dW o3 fun k hk=>s1.some k (gf k hk),dW o3 fun k hk=>s1.some k (gl k hk)⟩
    ·exact⟨dW o4 fun k hk=>(s1.trans s2).some k (gf k hk),dW o4 fun k hk=>(s1.trans s2).some k (gl k hk)⟩
   ·exact dW o2 aG
   ·exact dW o3 fun k hk=>s1.some k (aG k hk)
   ·exact dW o4 fun k hk=>(s1.trans s2).some k (aG k hk)
   ·exact dW o3 (o2.there fun k hk=>hk)
   ·exact dW o4 ((o2.sub s2).there fun k hk=>hk)
   ·exact dW o4 (o3.there fun k hk=>hk)
end Go.Proofs.YtfdgemhnlennbaaGreatDoor
