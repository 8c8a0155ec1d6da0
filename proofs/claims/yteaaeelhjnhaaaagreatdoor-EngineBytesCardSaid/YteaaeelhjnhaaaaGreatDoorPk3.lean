/- The law EngineBytes: pack 3 of its texts. -/
import Derived.Below
import Derived.Lib.ItoaLen
import Derived.Lib.Join
import Derived.Lib.Small
import Derived.Laws.Externs
import Derived.Lib.Overlaps
import Derived.Test.YteaaeelhjnhaaaaGreatDoorProg
import Derived.KernelRfl
import Derived.Lib.AtoiAll
import Derived.Test.YteaaeelhjnhaaaaGreatDoorPk1
import Derived.Test.YteaaeelhjnhaaaaGreatDoorPk2
set_option linter.unusedSimpArgs false
set_option linter.unusedVariables false
set_option maxRecDepth 100000
namespace Go.Ab
open Go
section
variable {P : Program} {f : FuncId} {args : List AV} {h h' : Heap} {Q : AV → Heap → Prop}
theorem Ext.below{c}{w'}(hb:Go.RowKit.Below c.w.heap.size c.w w'):Ext c {c with w:=w'} where
 os:=hb.os
 tape:=hb.tape
 output:=hb.output
 size:=hb.size
 block:=fun b h _=>hb.block b h
 cell:=fun b o h _=>by simp only[World.cell?,hb.block b h]
 shape:=fun b cs t fr h=>⟨cs,fr,(hb.block b (cV h)).trans h,rfl⟩
 steal:=fun _ _ _ h=>h
 obj:=fun _ cs _ h=>⟨rfl,cs,h,rfl⟩
 spare:=fun _ n _ h=>⟨n,h,.inl ⟨rfl,rfl⟩⟩
 mp:=fun _ m h=>⟨rfl,m,h⟩
 ro:=fun _ _ _ h=>⟨rfl,h⟩
theorem Good.below{c}(g:Good c){w'}(hb:Go.RowKit.Below c.w.heap.size c.w w'):Good {c with w:=w'} where
 fin:=g.fin
 inj:=g.inj
 obj:=fun id cs t h=>by obtain⟨vs,a1,a2,a3⟩:=g.obj id cs t h;exact⟨vs,(hb.block _ (cV a1)).trans a1,a2,fun j hj=>⟨(a3 j hj).1.mono (.below hb),(a3 j hj).2⟩⟩
 spare:=fun id n sz h=>by obtain⟨a0,vs,t,fr,a1,a2⟩:=g.spare id n sz h;exact⟨a0,vs,t,fr,(hb.block _ (cV a1)).trans a1,a2⟩
 mp:=fun id m h=>by obtain⟨es,cl,a1,a2,a3⟩:=g.mp id m h;exact⟨es,cl,(hb.block _ (cV a1)).trans a1,a2,fun i hi hi' =>⟨(a3 i hi hi').1,(a3 i hi hi').2.mono (.below hb)⟩⟩
 keys:=g.keys
 ro:=fun id b vs h=>g.nE (.below hb) h
theorem ai.lib{X:AV}(hc:callable P f)(hf:∀c (vs:Array Value),Sub h c.h→Good c→vs.size=args.length→(∀i (hi:i<args.length),Rep c args[i] (vs.getD i undef))→
  Calls P f vs c.w fun e w' =>(∃u,e= .returned u∧∀c',Ext c c'→Rep c' X u)∧Go.RowKit.Below c.w.heap.size c.w w'):ai P f args h fun r h' =>r=X∧h' =h:=by
 refine fun c vs hs g h1 h2=> .inl ⟨hc,(hf c vs hs g h1 h2).mono ?_⟩
 rintro e w' ⟨⟨u,rfl,hu⟩,hb⟩
 exact⟨u,rfl,{c with w:=w'},X,h,rfl,g.below hb,.below hb,hu _ (.below hb),hs,rfl,rfl⟩
def Tab(h:Heap)(b:Nat)(vs:List Value):Prop:=∃id,h id=some (.ro b vs)
theorem Tab.sub{b:Nat}{vs:List Value}(ht:Tab h b vs)(hs:Sub h h'):Tab h' b vs:=let ⟨id,hi⟩:=ht;⟨id,hs _ _ hi⟩
end
def wG(ts:List (Nat×List Value)):Heap:=fun i=>(ts[i]?).map fun p=> .ro p.1 p.2
def cxT(w:World)(ts:List (Nat×List Value)):Cx:=⟨w,fun i=>⟨((ts[i]?).map (·.1)).getD 0,0,none⟩,wG ts⟩
theorem LL(w)(ts)(b o):¬owned (cxT w ts) b o:=by
 rintro⟨id,k,h,_,h3⟩
 simp only[cxT,wG,Option.map_eq_some_iff]at h;obtain⟨p,_,rfl⟩:=h;exact h3
theorem Uo(w)(ts)(hd:ts.Pairwise fun p q=>p.1≠q.1)(ht:∀p∈ts,∃(t:TypeId) (fr:Nat×Nat),w.heap[p.1]? =some (.cells p.2.toArray t fr)):Good (cxT w ts) where
 fin:=⟨ts.length,fun id h=>by simp[cxT,wG,List.getElem?_eq_none h]⟩
 inj:=fun i j k l h1 h2 hne=>by
  simp only[cxT,wG,Option.map_eq_some_iff]at h1 h2;obtain⟨p,hp,rfl⟩:=h1;obtain⟨q,hq,rfl⟩:=h2;simp only[cxT,hp,hq,Option.map_some,Option.getD_some];obtain⟨hi,rfl⟩:=List.getElem?_eq_some_iff.1 hp
  grind [List.pairwise_iff_getElem,Nat.lt_or_gt_of_ne]
 obj:=fun id cs t h=>by simp_all [cxT,wG,Option.map_eq_some_iff]
 spare:=fun id n sz h=>by simp_all [cxT,wG,Option.map_eq_some_iff]
 mp:=fun id m h=>by simp_all [cxT,wG,Option.map_eq_some_iff]
 keys:=fun id m h=>by simp_all [cxT,wG,Option.map_eq_some_iff]
 ro:=fun id b vs h=>by simp only[cxT,wG,Option.map_eq_some_iff]at h;obtain⟨p,hp,h⟩:=h;cases h;refine⟨by grind [cxT],ht p acL⟩
theorem ai.Qt{P}{f}{args}{b}{vs}{w}{ts}(hc:callable P f)(hf:ai P f args (wG ts) fun r _=>r= .v b)(hd:ts.Pairwise fun p q=>p.1≠q.1)
  (ht:∀p∈ts,∃(t:TypeId) (fr:Nat×Nat),w.heap[p.1]? =some (.cells p.2.toArray t fr)) (hv:vs.size=args.length) (hr:∀i (hi:i<args.length),Rep (cx0 w) args[i] (vs.getD i undef)):
  Calls P f vs w fun e w' =>e= .returned b∧Go.RowKit.Below w.heap.size w w' :=by
 have hE:Ext (cx0 w) (cxT w ts):=⟨rfl,rfl,rfl,Nat.le_refl _,fun _ _ _=>rfl,fun _ _ _ _=>rfl,fun _ cs _ fr h=>⟨cs,fr,h,rfl⟩,fun b o _ h=>(LL w ts b o h).elim,
  fun _ _ _ h=>adB,fun _ _ _ h=>adB,fun _ _ h=>adB,fun _ _ _ h=>adB⟩
 refine((hf (cxT w ts) vs (fun _ _ h=>h) (Uo w ts hd ht) hv fun i hi=>(hr i hi).mono hE).calls hc).mono ?_
 rintro e w' ⟨u,rfl,c',x,h',rfl,g',hE,hx,hs,rfl⟩
 rw[hx.bS];exact⟨rfl,hE.os,hE.tape,hE.output,hE.size,fun k hk=>hE.block k hk fun o=>LL w ts k o⟩
mutual
def strip:AV→AV
 |.sl xs _=> .sl (fW xs) .no
 |.agg xs=> .agg (fW xs)
 |.tup xs=> .tup (fW xs)
 |.v x=> .v x
 |.s l=> .s l
 |.pe x o=> .pe x o
 |.ptr i o=> .ptr i o
 |.oa i o l=> .oa i o l
 |.ifc t x=> .ifc t x
 |.fn f c=> .fn f c
 |.mp i=> .mp i
 |.ob i o l c s=> .ob i o l c s
def fW:List AV→List AV
 | []=>[]
 |x::r=>strip x::fW r
end
theorem fl:∀xs:List AV,(fW xs).length=xs.length
 | []=>rfl
 |x::r=>by simp[fW,fl r]
theorem gE:∀(xs:List AV) (i:Nat) (h1:i<xs.length) (h2:i<(fW xs).length),(fW xs)[i]=strip xs[i]
 |x::r,0,h1,h2=>acY
 |x::r,i+1,h1,h2=>by simpa[fW]using gE r i acL (by grind [fW])
theorem vV(x):(strip x).cells=match x with|.agg xs=>fW xs|_=>[strip x]:=by cases x<;>simp[strip,AV.cells]
mutual
theorem fD:∀x:AV,Weak x (strip x)
 |.sl xs p=> .deep _ _ p (fl xs).symm (fun i h1 h2=>by rw[gE xs i h1 h2,vV];have:=nL xs i h1;cases hx:xs[i]<;>simp[AV.cells,fl])
   (fun i h1 h2 j h3 h4=>by have hw:=nL xs i h1;have e:=gE xs i h1 h2;exact hw (fW xs)[i] e j h3 h4)
 |.agg xs=> .agg _ _ (fl xs).symm fun i h1 h2=>afh
 |.tup xs=> .tup _ _ (fl xs).symm fun i h1 h2=>afh
 |.v x=> .refl _
 |.s l=> .refl _
 |.pe x o=> .refl _
 |.ptr i o=> .refl _
 |.oa i o l=> .refl _
 |.ifc t x=> .refl _
 |.fn f c=> .refl _
 |.mp i=> .refl _
 |.ob i o l c s=> .refl _
theorem lM:∀(xs:List AV) (i:Nat) (h:i<xs.length),Weak xs[i] (strip xs[i])
 |x::r,0,h=>fD x
 |x::r,i+1,h=>lM r i (by simpa using h)
theorem nL:∀(xs:List AV) (i:Nat) (h:i<xs.length) (y:AV),y=strip xs[i]→∀(j:Nat) (h3:j<xs[i].cells.length) (h4:j<y.cells.length),Weak xs[i].cells[j] y.cells[j]
 |x::r,0,h,y,e,j,h3,h4=>Gb x y e j h3 h4
 |x::r,i+1,h,y,e,j,h3,h4=>nL r i (by simpa using h) y e j h3 h4
theorem Gb:∀(x y:AV),y=strip x→∀(j:Nat) (h3:j<x.cells.length) (h4:j<y.cells.length),Weak x.cells[j] y.cells[j]
 |.agg xs,y,e,j,h3,h4=>by subst e;simp only[strip,AV.cells]at h4⊢;rw[gE xs j h3 h4];exact lM xs j h3
 |.sl xs p,y,e,j,h3,h4=>by
  subst e;simp only[strip,AV.cells,List.length_singleton]at h3 h4⊢;obtain rfl:j=0:=acK;exact .deep _ _ p (fl xs).symm (fun i h1 h2=>by rw[gE xs i h1 h2,vV];cases hx:xs[i]<;>simp[AV.cells,fl])
   (fun i h1 h2 j h3 h4=>nL xs i h1 _ (gE xs i h1 h2) j h3 h4)
 |.tup xs,y,e,j,h3,h4=>by subst e;simp only[strip,AV.cells,List.length_singleton]at h3 h4⊢;obtain rfl:j=0:=acK;exact .tup _ _ (fl xs).symm fun i h1 h2=>afh
 |.v x,y,e,j,h3,h4=>adU
 |.s l,y,e,j,h3,h4=>adU
 |.pe x o,y,e,j,h3,h4=>adU
 |.ptr i o,y,e,j,h3,h4=>adU
 |.oa i o l,y,e,j,h3,h4=>adU
 |.ifc t x,y,e,j,h3,h4=>adU
 |.fn f c,y,e,j,h3,h4=>adU
 |.mp i,y,e,j,h3,h4=>adU
 |.ob i o l c s,y,e,j,h3,h4=>adU
end
section
variable {m:Int}{x:IntKind}{K:AV→Prop}
variable {P : Program} {U : TypeId → TI} {n : Nat} {ρ : Env} {h0 h h' : Heap} {tb : TypeId} {y v : AV} {xs zs : List AV} {Q : AV → Heap → Prop} {f : FuncId} {args : List AV}
def One(xs:List AV):Prop:=∀x∈xs,bC x=false
theorem oo{x}(h:bC x=false):x.cells= [x]:=by cases x<;>first|rfl|(cases h)
theorem One.sized(h:One xs):Sized 1 xs:=fun z hz=>by rw[oo (h z hz)];rfl
theorem One.map{α:Type}{g:α→AV}(hg:∀a,bC (g a)=false)(l:List α):One (l.map g):=fun x hx=>by grind
def EB(tb:TypeId)(h:Heap)(y:AV)(xs:List AV):Prop:=
 (∃q,y= .sl xs q)∨∃id off cs,y= .oa id off xs.length∧h id=some (.obj cs tb)∧off+xs.length≤cs.length∧(cs.drop off).take xs.length=xs
theorem EB.sl(xs)(q):EB tb h (.sl xs q) xs:=.inl ⟨q,rfl⟩
theorem EB.len(hb:EB tb h y xs)(e:TypeId)(k:AV→Prop):wA y k (.slice e)=k (.i xs.length):=by exact ahL
def AtP(U:TypeId→TI)(tb:TypeId)(h:Heap)(p x:AV):Prop:=∀k:AV→Prop,nq U h tb p k=k x
theorem EB.idx(hb:EB tb h y xs)(ho:One xs)(j:Nat)(hm:m=j)(hj:j<xs.length)(hz:(U tb).sz=1)(ha:(U tb).k.agg=false)
  (hk:∀p,AtP U tb h p xs[j]→K p):oW U y (.v (.int x m)) K (.slice tb):=by
 subst hm;have h1:=ho xs[j] acS;rcases hb with⟨q,rfl⟩|⟨id,off,cs,rfl,g1,g2,g3⟩
 ·refine(uC ..).mpr ⟨acK,?_⟩
  refine fP.at j hj (by grind [oo]) ?_
  refine hk _ fun k=>?_
  simp_all [nq,Kf,oo,List.length_cons,List.length_nil,Nat.zero_add,and_self,if_true]
 ·refine(AF ..).mpr ⟨acK,acK,acK,?_⟩
  refine hk _ fun k=>?_
  have e1:cs[off+j]? =some xs[j]:=by grind
  simp only[nq,g1,dj,B0,hz,Nat.mul_one,Int.toNat_natCast,DK,ha,Br,e1];simp
def WrA(tb:TypeId)(h0 h:Heap)(y:AV)(xs:List AV):Prop:=
 Sub h0 h∧((xs= []∧y= .sl [] .full)∨∃id cs,h0 id=none∧y= .oa id 0 xs.length∧h id=some (.obj cs tb)∧xs.length≤cs.length∧cs.take xs.length=xs)
theorem WrA.nil(hs:Sub h0 h):WrA tb h0 h (.sl [] .full) []:=⟨hs,.inl ⟨rfl,rfl⟩⟩
theorem WrA.seq(hw:WrA tb h0 h y xs):EB tb h y xs:=by
 obtain⟨_,⟨rfl,rfl⟩|⟨id,cs,_,rfl,h1,h2,h3⟩⟩:=hw
 ·exact afp
 ·exact .inr ⟨id,0,cs,rfl,h1,acK,acL⟩
theorem WrA.sub(hw:WrA tb h0 h y xs)(hs:Sub h h'):WrA tb h0 h' y xs:=by
 obtain⟨h1,hw|⟨id,cs,a,e,b,c,d⟩⟩:=hw
 ·exact⟨h1.trans hs,.inl hw⟩
 ·exact⟨h1.trans hs,.inr ⟨id,cs,a,e,hs _ _ b,c,d⟩⟩
theorem WrA.base(hw:WrA tb h0 h y xs){id:Nat}(hid:h id=none)(b:Option Blk):WrA tb (upd h0 id b) (upd h id b) y xs:=by
 obtain⟨h1,hw⟩:=hw;have h2:Sub (upd h0 id b) (upd h id b):=fun j k hj=>by
  by_cases e:j=id
  ·grind [ah]
  ·rw[ag _ _ e]at hj⊢;exact h1 _ _ hj
 rcases hw with hw|⟨i,cs,a,e,c,d⟩
 ·exact⟨h2,.inl hw⟩
 ·have hne:i≠id:=fun hh=>by subst hh;rw[hid]at c;cases c
  exact⟨h2,.inr ⟨i,cs,adm,e,adm,d⟩⟩
theorem WrA.less(hw:WrA tb h' h y xs)(hs:Sub h0 h'):WrA tb h0 h y xs:=by
 obtain⟨h1,hw|⟨i,cs,a,e,c,d⟩⟩:=hw
 ·exact⟨hs.trans h1,.inl hw⟩
 ·exact⟨hs.trans h1,.inr ⟨i,cs,hs.none a,e,c,d⟩⟩
theorem WrA.len(hw:WrA tb h0 h y xs)(e:TypeId)(k:AV→Prop):wA y k (.slice e)=k (.i xs.length):=hw.seq.len e k
theorem WrA.idx(hb:WrA tb h0 h y xs)(ho:One xs)(j:Nat)(hm:m=j)(hj:j<xs.length)(hz:(U tb).sz=1)(ha:(U tb).k.agg=false)
  (hk:∀p,AtP U tb h p xs[j]→K p):oW U y (.v (.int x m)) K (.slice tb):=hb.seq.idx ho j hm hj hz ha hk
theorem WrA.cut(hw:WrA tb h0 h y xs){hi:Operand}(j:Nat)(hm:ev ρ hi=some (.v (.int x m)))(hj:m=j)(hl:j≤xs.length)(hz:(U tb).sz=1)
  (hk:∀z,WrA tb h0 h z (xs.take j)→K z):gD U ρ y none (some hi) none K (.slice tb):=by
 subst hj;have hs:=hw.1;obtain⟨_,⟨rfl,rfl⟩|⟨id,cs,h1,rfl,h2,h3,h4⟩⟩:=hw
 ·rw[nH,fo,hm]
  refine⟨acK,?_⟩;have:j=0:=acL;subst this;refine⟨acK,acS,?_⟩;exact hk _ (.nil hs)
 ·rw[rE]
  refine⟨acK,fun _=>hz,?_⟩
  simp only[mz,fo,hm,dj,ni];refine⟨acK,acK,acK,?_⟩;have e:(xs.take j).length=j:=acL;have:=hk (.oa id 0 (xs.take j).length) ⟨hs,.inr ⟨id,cs,h1,rfl,h2,acK,acL⟩⟩;rw[e]at this;simpa using this
theorem WrA.app(hw:WrA tb h0 h y xs)(ho:One xs)(hoz:One zs)(hz:(U tb).sz=1)(hb:(U tb).bytes≠0)(hf:fit (U tb).zero 1)(hn:bC (U tb).zero=false)(hsrc:∀k:List AV→Prop,k zs→gX U tb h v k)
  (hlen:(xs.length+zs.length)*(U tb).bytes≤140737488355328) (hk:∀y' h',WrA tb h0 h' y' (xs++zs)→Q y' h'):apK U h y v Q (.slice tb):=by
 have hs:=hw.1;have one:Sized (U tb).sz zs:=by rw[hz];exact hoz.sized
 obtain⟨_,⟨rfl,rfl⟩|⟨id,cs,h1,rfl,h2,h3,h4⟩⟩:=hw
 ·refine(qg ..).mpr ⟨acK,hb,hsrc _ ⟨by simp[Sized],one,acK,fun hn' =>?_,fun hn' =>?_⟩⟩
  ·subst hn'
   exact hk _ _ (.nil hs)
  ·refine .oa hz hf hn hoz fun id k hid=>?_
   refine hk _ _ ⟨hs.new hid _,.inr ⟨id,_,hs.none hid,?_,ah ..,?_,?_⟩⟩
   ·simp
   ·simp
   ·simp
 ·refine⟨acK,hb,hz,hsrc _ ⟨acL,hoz,acK,?_⟩⟩
  rw[h2];refine⟨acK,?_,hf,hn,fun hle=>?_,fun id' k hid=>?_⟩
  ·rw[List.drop_zero,h4];exact ho
  ·have hsub:Sub h0 (upd h id (some (.obj (over cs (0+xs.length) zs) tb))):=fun j b hj=>by
    by_cases e:j=id
    ·grind
    ·rw[ag _ _ e];exact hs _ _ hj
   have ho' :(over cs (0+xs.length) zs).length=cs.length:=iu acK;refine hk _ _ ⟨hsub,.inr ⟨id,_,h1,acS,ah ..,acL,?_⟩⟩;rw[over,Nat.zero_add,h4,acE,List.take_append_of_le_length acS]
   grind
  ·refine hk _ _ ⟨hs.new hid _,.inr ⟨id',_,hs.none hid,acS,ah ..,?_,?_⟩⟩
   ·grind
   grind
end
end Go.Ab
namespace Go.Bf
open Go Go.Ab
variable {alg:Int}{nr nk d:Nat}
abbrev Txt:=List UInt8
structure rM where
 cat:Int
 name:Txt
 must:Bool
structure bt where
 kind:Int
 n:Int
 s:Txt
structure ck where
 attr:rM
 op:Int
 val:bt
structure aZ where
 op:Int
 val:bt
 attr:rM
structure dN where
 on:Int
 kind:Int
 arg:Txt
abbrev kr:=List (List (List ck))
structure fy where
 id:Txt
 deny:Bool
 tgt:kr
 cond:List aZ
 obls:List dN
inductive bV where
 |mk (id:Txt) (set:Bool) (alg:Int) (tgt:kr) (rules:List fy) (kids:List bV) (obls:List dN)
def Cw(a:rM):AV:=.agg [.i a.cat,.s a.name,.b a.must]
def aP(v:bt):AV:=.agg [.i v.kind,.i v.n,.s v.s]
def dO(m:ck):AV:=.agg [.i m.attr.cat,.s m.attr.name,.b m.attr.must,.i m.op,.i m.val.kind,.i m.val.n,.s m.val.s]
def dH(m:aZ):AV:=.agg [.i m.op,.i m.val.kind,.i m.val.n,.s m.val.s,.i m.attr.cat,.s m.attr.name,.b m.attr.must]
def jO(b:Bool):AV:=.b b
def bu(o:dN):AV:=.agg [.i o.on,.i o.kind,.s o.arg]
def iR(l:List ck):AV:=.sl (l.map dO) .no
def cS(l:List (List ck)):AV:=.sl (l.map iR) .no
def aV(t:kr):AV:=.sl (t.map cS) .no
def fA(l:List aZ):AV:=.sl (l.map dH) .no
def aA(l:List dN):AV:=.sl (l.map bu) .no
def aC(r:fy):AV:=.agg [.s r.id,.b r.deny,aV r.tgt,fA r.cond,aA r.obls]
mutual
def aN:bV→AV
 |.mk id set alg tgt rules kids obls=> .agg [.s id,.b set,.i alg,aV tgt,.sl (rules.map aC) .no,.sl (fH kids) .no,aA obls]
def fH:List bV→List AV
 | []=>[]
 |k::r=>aN k::fH r
end
theorem bf:∀l:List bV,fH l=l.map aN
 | []=>rfl
 |k::r=>by simp[fH,bf r]
def ltr(c:UInt8):Bool:=decide (97≤(c.toNat:Int)) && decide ((c.toNat:Int)≤122)
def dgt(c:UInt8):Bool:=decide (48≤(c.toNat:Int)) && decide ((c.toNat:Int)≤57)
def pX(c:UInt8)(i:Nat):Bool:=ltr c||(decide (i≠0) && (dgt c||(c.toNat:Int)==95))
def sQ(l:Txt):Bool:=l.zipIdx.all fun p=>pX p.1 p.2
def aK(l:Txt):Bool:=sQ l && decide (1≤l.length) && decide (l.length≤16)
def qj(a:rM):Bool:=decide (1≤a.cat) && decide (a.cat≤4) && aK a.name
def aW(v:bt):Bool:=
 if v.kind=1 then(v.n==0||v.n==1) && v.s== []
 else if v.kind=2 then v.s== []
 else if v.kind=3 then v.n==0 && decide (v.s.length≤64)
 else if v.kind=4 then decide (0≤v.n) && decide (v.n≤1099511627776) && v.s== []
 else if v.kind=5 then v.n==0 && aK v.s
 else false
def kQ(m:ck):Bool:=qj m.attr && decide (1≤m.op) && decide (m.op≤3) && aW m.val
def j8(n:Nat):Int:=if n=0 then 1 else if n>8 then 6 else 0
def ig{α:Type}(f:α→Int):List α→Int
 | []=>0
 |x::r=>if f x=0 then ig f r else f x
def wj(l:List ck):Int:=if j8 l.length=0 then(if l.all kQ then 0 else 1)else j8 l.length
def wo(l:List (List ck)):Int:=if j8 l.length=0 then ig wj l else j8 l.length
def lH(t:kr):Int:=if t.length>8 then 6 else ig wo t
def iF(op:Int):Option (List Bool):=
 if op=1∨op=2 then some []
 else if op=3∨op=4 then some [true]
 else if op=5 then some [true,false]
 else if op=11 then some [false]
 else if 6≤op∧op≤13 then some [false,false]
 else none
def zeroV(v:bt):Bool:=v.kind==0 && (v.n==0 && v.s== [])
def zeroAt(a:rM):Bool:=a.cat==0 && (a.name== [] && a.must==false)
def jP(n:aZ):Bool:=
 if n.op=1 then aW n.val && zeroAt n.attr
 else if n.op=2 then qj n.attr && zeroV n.val
 else zeroV n.val && zeroAt n.attr
def iE(st:List Bool)(n:aZ):Option (List Bool):=match iF n.op with
 |none=>none
 |some w=>if jP n=true∧w.length≤st.length∧st.drop (st.length - w.length)=w then some (st.take (st.length - w.length)++ [n.op==2])else none
def fV(st:List Bool):List aZ→Option (List Bool)
 | []=>some st
 |n::r=>match iE st n with
  |none=>none
  |some st' =>fV st' r
def j7(l:List aZ):Int:=if l.length>32 then 6 else match fV [] l with
 |none=>1
 |some st=>if l= []∨st= [false]then 0 else 1
def qL(o:dN):Bool:=decide (1≤o.on) && decide (o.on≤2) && decide (1≤o.kind) && decide (o.kind≤4) && aK o.arg
def ij(l:List dN):Int:=if l.length>8 then 6 else if l.all qL then 0 else 1
structure jJ where
 met:List Txt
 rules:Nat
variable {m m1:jJ}
inductive Went where
 |bad (e:Int)
 |ok (m:jJ)
def jg(m:jJ)(s:Txt):Option jJ:=if s∉m.met∧aK s=true then some ⟨m.met++ [s],m.rules⟩else none
def Went.err:Went→Int
 |.bad e=>e
 |.ok _=>0
def need(e:Int)(w:Went):Went:=if e=0 then w else .bad e
def gw(m:jJ)(r:fy):Went:=match jg m r.id with
 |none=> .bad 1
 |some m=>if m.rules+1>64 then .bad 6 else need (lH r.tgt) (need (j7 r.cond) (need (ij r.obls) (.ok ⟨m.met,m.rules+1⟩)))
def fC(m:jJ):List fy→Went
 | []=> .ok m
 |r::l=>match gw m r with
  |.bad e=> .bad e
  |.ok m=>fC m l
def fj(m:jJ)(id:Txt)(set:Bool)(alg:Int)(tgt:kr)(nr nk:Nat)(obls:List dN):Went:=match jg m id with
 |none=> .bad 1
 |some m=>if alg<1∨alg>6 then .bad 1
  else if set=true∧nr>0∨set=false∧(nk>0∨alg=4)then .bad 1
  else need (lH tgt) (need (ij obls) (if nr>16∨nk>16 then .bad 6 else .ok m))
mutual
def kI(m:jJ)(d:Nat):bV→Went
 |.mk id set alg tgt rules kids obls=>
  if d>4 then .bad 6 else match fj m id set alg tgt rules.length kids.length obls with
  |.bad e=> .bad e
  |.ok m=>match fC m rules with
   |.bad e=> .bad e
   |.ok m=>iP m (d+1) kids
def iP(m:jJ)(d:Nat):List bV→Went
 | []=> .ok m
 |k::r=>match kI m d k with
  |.bad e=> .bad e
  |.ok m=>iP m d r
end
def gC(p:bV):Int:=(kI ⟨[],0⟩ 1 p).err
def Uq(n:Nat):UInt8:=if n<10 then UInt8.ofNat (48+n)else UInt8.ofNat (87+n)
def FH(c:UInt8):Bool:=decide ((c.toNat:Int)<32)||decide (126<(c.toNat:Int))||(c.toNat:Int)==34||(c.toNat:Int)==92
def Rz(c:UInt8):Txt:=if FH c then [92,Uq (c.toNat / 16),Uq (c.toNat % 16)]else [c]
def RA(l:Txt):Txt:=[34]++(l.map Rz).flatten++ [34]
def oF(v:bt):Txt:=
 if v.kind=1 then Lib.formatBool (v.n==1)else if v.kind=4 then [64]++Lib.itoa v.n else if v.kind=5 then [35]++v.s else if v.kind=3 then RA v.s else Lib.itoa v.n
theorem vm{α:Type}(l:List α)(i:Nat)(h:i<l.length):(l.take (i+1)).zipIdx=(l.take i).zipIdx++ [(l[i],i)]:=by grind [List.take_succ_eq_append_getElem,Nat.min_eq_left,Nat.le_of_lt]
theorem xy(l:Txt)(i:Nat)(h:i<l.length):sQ (l.take (i+1))=(sQ (l.take i) && pX l[i] i):=by grind [sQ,vm]
theorem Ai(l)(i:Nat)(h:i<l.length)(hb:pX l[i] i=false):sQ l=false:=by rw[sQ,List.all_eq_false];exact⟨(l[i],i),acL,acL⟩
theorem Gq(c:UInt8):
  (decide (97≤(c.toNat:Int))=true∧decide ((c.toNat:Int)≤122)=true∧decide (48≤(c.toNat:Int))=true∧decide ((c.toNat:Int)≤57)=false∧((c.toNat:Int)==95)=false)∨
  (decide (97≤(c.toNat:Int))=false∧decide ((c.toNat:Int)≤122)=true∧decide (48≤(c.toNat:Int))=true∧decide ((c.toNat:Int)≤57)=true∧((c.toNat:Int)==95)=false)∨
  (decide (97≤(c.toNat:Int))=false∧decide ((c.toNat:Int)≤122)=true∧decide (48≤(c.toNat:Int))=true∧decide ((c.toNat:Int)≤57)=false∧((c.toNat:Int)==95)=true)∨
  (decide (97≤(c.toNat:Int))=false∧decide ((c.toNat:Int)≤122)=true∧decide (48≤(c.toNat:Int))=false∧decide ((c.toNat:Int)≤57)=true∧((c.toNat:Int)==95)=false)∨
  (decide (97≤(c.toNat:Int))=false∧decide ((c.toNat:Int)≤122)=true∧decide (48≤(c.toNat:Int))=true∧decide ((c.toNat:Int)≤57)=false∧((c.toNat:Int)==95)=false)∨
  (decide (97≤(c.toNat:Int))=true∧decide ((c.toNat:Int)≤122)=false∧decide (48≤(c.toNat:Int))=true∧decide ((c.toNat:Int)≤57)=false∧((c.toNat:Int)==95)=false):=by
 simp only[decide_eq_true_eq,decide_eq_false_iff_not,beq_iff_eq,beq_eq_false_iff_ne,ne_eq];omega
theorem vD{α:Type}{f:α→Int}{l:List α}{i:Nat}(h:i<l.length)(h0:ig f (l.take i)=0)(h1:f l[i]=0):ig f (l.take (i+1))=0:=by
 rw[List.take_succ_eq_append_getElem h];generalize l.take i=a at h0
 induction a with
 |nil=>grind [ig]
 |cons x r ih=>
  simp only[ig]at h0;split at h0
  ·simp_all [List.cons_append,ig,if_true]
  omega
theorem Az{α:Type}{f:α→Int}{l:List α}{i:Nat}(h:i<l.length)(h0:ig f (l.take i)=0)(h1:f l[i]≠0):ig f l=f l[i]:=by
 induction l generalizing i with
 |nil=>cases h
 |cons x r ih=>
  cases i with
  |zero=>grind [ig]
  |succ i=>
   simp only[List.take_succ_cons,ig]at h0;split at h0
   ·rename_i hx
    simp only[ig,hx,if_true,List.getElem_cons_succ]
    grind
   omega
theorem Dx{e x:Int}{w}(h:need e w= .bad x)(hw:w= .bad x→x≠0):x≠0:=by grind [need]
theorem A6{m}{r}{e:Int}(h:gw m r= .bad e):e≠0:=by grind [gw,Dx]
theorem AE{m}{id}{set}{tgt}{obls}{e:Int}(h:fj m id set alg tgt nr nk obls= .bad e):e≠0:=by grind [fj,Dx]
theorem pG(m):∀(l:List fy) (i:Nat),fC m l=(match fC m (l.take i)with
  |.bad e=> .bad e
  |.ok m1=>fC m1 (l.drop i))
 | [],i=>by simp[fC]
 |r::l,0=>acY
 |r::l,i+1=>by
  simp only[List.take_succ_cons,List.drop_succ_cons,fC];cases gw m r with
  |bad e=>rfl
  |ok m1=>simp only;exact pG m1 l i
theorem vR{l:List fy}{i:Nat}(hi:i<l.length)(h:fC m (l.take i)= .ok m1):fC m (l.take (i+1))=gw m1 l[i]:=by
 rw[pG m _ i,List.take_take,Nat.min_eq_left acK,h,List.take_succ_eq_append_getElem hi,List.drop_append_of_le_length acL,List.drop_of_length_le acL]
 grind [fC,gw]
theorem D8{m m1}{l}{i:Nat}{e:Int}(hi:i<l.length)(h:fC m (l.take i)= .ok m1)(hr:gw m1 l[i]= .bad e):fC m l= .bad e:=by rw[pG m l (i+1),vR hi h,hr]
theorem qH(m)(d:Nat):∀(l:List bV) (i:Nat),iP m d l=(match iP m d (l.take i)with
  |.bad e=> .bad e
  |.ok m1=>iP m1 d (l.drop i))
 | [],i=>by simp[iP]
 |r::l,0=>acY
 |r::l,i+1=>by
  simp only[List.take_succ_cons,List.drop_succ_cons,iP];cases kI m d r with
  |bad e=>rfl
  |ok m1=>simp only;exact qH m1 d l i
theorem yf{l:List bV}{i:Nat}(hi:i<l.length)(h:iP m d (l.take i)= .ok m1):iP m d (l.take (i+1))=kI m1 d l[i]:=by
 rw[qH m d _ i,List.take_take,Nat.min_eq_left acK,h,List.take_succ_eq_append_getElem hi,List.drop_append_of_le_length acL,List.drop_of_length_le acL]
 grind [iP,kI]
theorem Fv{m m1}{l}{i:Nat}{e:Int}(hi:i<l.length)(h:iP m d (l.take i)= .ok m1)(hr:kI m1 d l[i]= .bad e):iP m d l= .bad e:=by rw[qH m d l (i+1),yf hi h,hr]
theorem kH{l}(h:ij l=0):l.length≤8∧∀o∈l,qL o=true:=by grind [ij,List.all_eq_true]
theorem yx{n:Nat}(h:j8 n=0):0<n∧n≤8:=by grind [j8]
theorem vE{α:Type}{f:α→Int}{l:List α}(h:ig f l=0):∀x∈l,f x=0:=by
 induction l with
 |nil=>simp
 |cons y r ih=>
  simp only[ig]at h
  grind
theorem Af{l}(h:wj l=0):0<l.length∧l.length≤8∧∀m∈l,kQ m=true:=by
 unfold wj at h;split at h
 ·simp_all [yx,List.all_eq_true]
 omega
theorem Ag{l}(h:wo l=0):0<l.length∧l.length≤8∧∀m∈l,wj m=0:=by
 unfold wo at h;split at h
 ·rename_i hm
  have:=yx hm;exact⟨this.1,this.2,vE h⟩
 omega
theorem Bc{l}(h:lH l=0):l.length≤8∧∀m∈l,wo m=0:=by grind [lH,vE]
def inV(v:bt):Prop:= -9223372036854775808≤v.n∧v.n≤9223372036854775807
def inA(l:List ck):Prop:=∀m∈l,inV m.val
def inY(l:List (List ck)):Prop:=∀a∈l,inA a
def inT(t:kr):Prop:=∀a∈t,inY a
def inL(l:List aZ):Prop:=∀n∈l,inV n.val
def inR(r:fy):Prop:=inT r.tgt∧inL r.cond
mutual
def inP:bV→Prop
 |.mk id set alg tgt rules kids obls=>inT tgt∧(∀r∈rules,inR r)∧inK kids
def inK:List bV→Prop
 | []=>True
 |k::r=>inP k∧inK r
end
theorem Q3:∀l:List bV,inK l↔∀k∈l,inP k
 | []=>by simp[inK]
 |k::r=>by simp[inK,Q3 r]
theorem xM{l}(h:j7 l=0)(hn:l≠ []):l.length≤32∧fV [] l=some [false]:=by grind [j7]
def D7(r:fy):Prop:=aK r.id=true∧lH r.tgt=0∧j7 r.cond=0∧ij r.obls=0
mutual
def mN(d:Nat):bV→Prop
 |.mk id set alg tgt rules kids obls=>d≤4∧aK id=true∧1≤alg∧alg≤6∧(set=true→rules= [])∧(set=false→kids= []∧alg≠4)∧lH tgt=0∧ij obls=0∧rules.length≤16∧kids.length≤16∧(∀r∈rules,D7 r)∧vL (d+1) kids
def vL(d:Nat):List bV→Prop
 | []=>True
 |k::r=>mN d k∧vL d r
end
theorem qG(d:Nat):∀l:List bV,vL d l↔∀k∈l,mN d k
 | []=>by simp[vL]
 |k::r=>by simp[vL,qG d r]
theorem yy{m m'}{s}(h:jg m s=some m'):aK s=true:=by grind [jg]
theorem qJ{e:Int}{w}{m}(h:need e w= .ok m):e=0∧w= .ok m:=by grind [need]
theorem L9{m m'}{r}(h:gw m r= .ok m'):D7 r:=by
 unfold gw at h;split at h
 ·cases h
 ·rename_i m1 hm
  split at h
  ·cases h
  ·obtain⟨h1,h⟩:=qJ h
   obtain⟨h2,h⟩:=qJ h;obtain⟨h3,h⟩:=qJ h;exact⟨yy hm,h1,h2,h3⟩
theorem A7:∀(l:List fy) (m m' :jJ),fC m l= .ok m'→∀r∈l,D7 r
 | [],_,_,_,r,hr=>acL
 |x::l,m,m',h,r,hr=>by
  simp only[fC]at h;cases hx:gw m x with
  |bad e=>grind
  |ok m1=>
   rw[hx]at h;rcases List.mem_cons.1 hr with rfl|hr
   ·exact L9 hx
   ·exact A7 l m1 m' h r hr
theorem IU{m m1}{id}{set}{tgt}{obls}(h:fj m id set alg tgt nr nk obls= .ok m1):
  jg m id=some m1∧1≤alg∧alg≤6∧(set=true→nr=0)∧(set=false→nk=0∧alg≠4)∧lH tgt=0∧ij obls=0∧nr≤16∧nk≤16:=by
 unfold fj at h;split at h
 ·cases h
 split at h
 ·cases h
 split at h
 ·cases h
 obtain⟨h3,h⟩:=qJ h;obtain⟨h4,h⟩:=qJ h
 grind
mutual
theorem Hi:∀(p:bV) (d:Nat) (m m' :jJ),kI m d p= .ok m'→mN d p
 |.mk id set alg tgt rules kids obls,d,m,m',h=>by
  simp only[kI]at h;split at h
  ·cases h
  rename_i hd
  split at h
  ·cases h
  rename_i m1 h1
  split at h
  ·cases h
  rename_i m2 h2
  obtain⟨g1,g2,g3,g4,g5,g6,g7,g8,g9⟩:=IU h1;simp only[mN];exact⟨acK,yy g1,g2,g3,fun e=>List.length_eq_zero_iff.1 (g4 e),fun e=>⟨List.length_eq_zero_iff.1 (g5 e).1,(g5 e).2⟩,g6,g7,g8,g9,A7 _ _ _ h2,Dk kids (d+1) m2 m' h⟩
theorem Dk:∀(l:List bV) (d:Nat) (m m' :jJ),iP m d l= .ok m'→vL d l
 | [],_,_,_,_=>by simp[vL]
 |k::r,d,m,m',h=>by
  simp only[iP]at h;split at h
  ·cases h
  rename_i m1 h1
  simp only[vL];exact⟨Hi k d m m1 h1,Dk r d m1 m' h⟩
end
end Go.Bf
namespace Go.Ab
open Go
def hm2(i:Nat)(a:Blk)(j:Nat)(b:Blk):Heap:=upd (hm1 i a) j (some b)
theorem Sub.hm2{h}{i j}{a b}(h1:h i=some a)(h2:h j=some b):Sub (hm2 i a j b) h:=fun k c hk=>by
 unfold Ab.hm2 at hk
 by_cases e:k=j
 ·grind [ah]
 ·rw[ag _ _ e]at hk;exact Sub.hm1 h1 k c hk
theorem ry(i)(a)(j)(b):hm2 i a j b j=some b:=ah ..
theorem ru{i}(a){j}(b)(h:i≠j):hm2 i a j b i=some a:=by simp_all [hm2,ag,gj]
theorem aH{h:Heap}{i j:Nat}{b}(e:upd h i (some b) j=none):j≠i:=fun hh=>by subst hh;rw[ah]at e;cases e
theorem Sub.put{h g}(hs:Sub h g){i}(hi:h i=Option.none)(x):Sub h (Ab.upd g i x):=fun k c hk=>by
 by_cases e:k=i
 ·grind
 ·rw[ag _ _ e];exact hs k c hk
theorem Sub.both{h g}(hs:Sub h g)(i)(x):Sub (Ab.upd h i x) (Ab.upd g i x):=fun k c hk=>by
 by_cases e:k=i
 ·grind [ah]
 ·rw[ag _ _ e]at hk⊢;exact hs k c hk
theorem Acc.put{U}{e}{h h'}{y}{xs}(ha:Acc U e h h' y xs){id}(hid:h id=Option.none){cs}{t}(hob:h' id=some (.obj cs t))(x):Acc U e h (Ab.upd h' id x) y xs:=by
 obtain⟨h1,rfl|⟨k,i1,rfl,i2⟩⟩:=ha
 ·exact⟨h1.put hid x,.inl rfl⟩
 ·refine⟨h1.put hid x,.inr ⟨k,i1,rfl,?_⟩⟩
  grind [ag]
theorem base_start(G)(id)(x):Sub (upd G id Option.none) (upd G id x):=fun k c hk=>by grind [ah,ag]
theorem fz{G H}{id}{b}(hs:Sub (upd G id Option.none) H)(hb:H id=some b):Sub (upd G id (some b)) H:=fun k c hk=>by
 by_cases e:k=id
 ·grind [ah]
 ·rw[ag _ _ e]at hk;exact hs k c adm
theorem Bk(xs)(q)(a b):Weak (.tup [.sl xs q,a,b]) (.tup [.sl xs .no,a,b]):=.tup _ _ rfl fun i h1 h2=>by
 rcases i with _|_|_|i
 ·exact afp
 ·exact ad4
 ·exact ad4
 grind
theorem WP.Mi{P}{U:TypeId→TI}{n:Nat}(hU:∀t,aO P U t)(hm:P.follows .mixedOrders=true){c rest}{ρ:Env}{h:Heap}{K:Exit→Env→Heap→Prop}(l:Nat)(J:Nat→Env→Heap→Prop)(hf:findLabel c l=some (.seq .skip rest))
  (pass:∀m ρ h,J m ρ h→WP P n rest ρ h (KJump l (fun ρ' h' =>∃m',m' <m∧J m' ρ' h') K))
  (first:(∀m ρ h,J m ρ h→WP P n rest ρ h (KJump l (fun ρ h=>∃m,J m ρ h) K))→WP P n c ρ h (KJump l (fun ρ h=>∃m,J m ρ h) K)):WP P n (.scope c) ρ h K:=
 WP.scope l J hf (first fun m ρ h hJ=>(pass m ρ h hJ).weaken fun e ρ h hk=>by
  cases e with
  |goto l' =>obtain⟨h1,m',_,h2⟩:=hk;exact⟨h1,m',h2⟩
  |_=>exact hk) fun m ρ h hJ=>WP.seq (dJ hU hm .skip ρ h _ (pass m ρ h hJ))
end Go.Ab
namespace Go.Ab
attribute [go_sem] Int.natCast_zero Int.ofNat_zero Int.natCast_one Int.cast_ofNat_Int bne_self_eq_false beq_self_eq_true Bool.not_true Bool.not_false
attribute [go_sem] Nat.reduceLT Nat.reduceEqDiff Nat.reduceAdd Nat.reduceLeDiff Nat.reduceMul Nat.reduceSub Int.reduceBEq Int.reduceBNe
attribute [go_sem ↓] reduceIte
end Go.Ab
namespace Go.Ab
open Go
variable {c':Cx}{g:Heap}{x:AV}
inductive Av (F:Nat→Prop):AV→Prop where
 |v (x:Value):Av F (.v x)
 |s (l:List UInt8):Av F (.s l)
 |agg (xs:List AV) (h:∀x∈xs,Av F x):Av F (.agg xs)
 |tup (xs:List AV) (h:∀x∈xs,Av F x):Av F (.tup xs)
 |sl (xs:List AV) (p:Perm) (h:∀x∈xs,Av F x) (hp:∀id,p= .own id→¬F id):Av F (.sl xs p)
 |pe (x:AV) (o:Nat) (h:Av F x):Av F (.pe x o)
 |ptr (id o:Nat) (h:¬F id):Av F (.ptr id o)
 |oa (id o l:Nat) (h:¬F id):Av F (.oa id o l)
 |ob (id o l c z:Nat) (h:¬F id):Av F (.ob id o l c z)
 |ifc (t:TypeId) (x:AV) (h:Av F x):Av F (.ifc t x)
 |fn (f:FuncId) (xs:List AV) (h:∀x∈xs,Av F x):Av F (.fn f xs)
 |mp (id:Nat) (h:¬F id):Av F (.mp id)
theorem Av.cells{F}{x}(h:Av F x):∀y∈x.cells,Av F y:=by
 cases h with
 |agg xs hx=>exact hx
 |_=>intro y hy;rw[List.mem_singleton.1 hy];constructor<;>assumption
theorem Av.DD{F}{x}(h:∀y∈x.cells,Av F y):Av F x:=by
 cases x with
 |agg xs=>exact .agg xs h
 |_=>exact h _ (List.mem_singleton.2 rfl)
theorem Rep.av{c}{F}(hF:∀id,F id→c.h id=none){x}{u}(h:Rep c x u):Av F x:=by
 have nf:∀ {id:Nat} {k:Blk},c.h id=some k→¬F id:=fun hk hf=>acL
 induction h with
 |v x=>exact .v x
 |s l hl=>exact .s l
 |agg xs vs hn hr ho ih=>exact .agg xs fun x hx=>aeu
 |tup xs vs hn hr ih=>exact .tup xs fun x hx=>aeu
 |sl xs p a cap sz val hc hm h0 hs hz hf hr ho hp ih=>
  refine .sl xs p (fun x hx=>?_) fun id e=>?_
  ·obtain⟨i,hi,rfl⟩:=List.mem_iff_getElem.1 hx
   refine .DD fun y hy=>?_
   obtain⟨j,hj,rfl⟩:=List.mem_iff_getElem.1 hy
   grind
  ·subst e
   obtain⟨m,h1,_⟩:=hp
   grind
 |pe x off b o val hb hf hr ho ih=>
  refine .pe x off (.DD fun y hy=>?_)
  obtain⟨j,hj,rfl⟩:=List.mem_iff_getElem.1 hy
  grind
 |ptr id off cs t h=>exact .ptr _ _ (nf h)
 |oa id off len cap o cs t h hc hm ho=>exact .oa _ _ _ (nf h)
 |ob id off len cap sz o cs t h hc hm ho=>exact .ob _ _ _ _ _ (nf h)
 |ifc t x u h ih=>exact .ifc t x ih
 |fn f xs vs hn hr ih=>exact .fn f xs fun x hx=>aeu
 |mp id m h=>exact .mp _ (nf h)
noncomputable def Cx.back (c' :Cx) (g:Heap):Cx:={c' with h:=fun id=>if g id=none then none else c'.h id}
theorem uq{id:Nat}{k:Blk}(h:(c'.back g).h id=some k):g id≠none∧c'.h id=some k:=by grind [Cx.back]
theorem kO{id:Nat}(h:g id≠none):(c'.back g).h id=c'.h id:=by simp_all [Cx.back,if_false]
theorem xp{c'}{g}{b o}(h:owned (c'.back g) b o):owned c' b o:=by obtain⟨id,k,h1,h2,h3⟩:=h;exact⟨id,k,(uq h1).2,h2,h3⟩
theorem xo{c'}{g}{b o}{u}(h:fix c' b o u):fix (c'.back g) b o u:=⟨h.1,fun ho=>h.2 (xp ho)⟩
theorem Rep.back{u:Value}(h:Rep c' x u)(ha:Av (fun id=>g id=none) x):Rep (c'.back g) x u:=by
 induction h with
 |v x=>exact .v x
 |s l hl=>exact .s l hl
 |agg xs vs hn hr ho ih=>cases ha with|agg _ ha=>exact .agg xs vs hn acL ho
 |tup xs vs hn hr ih=>cases ha with|tup _ ha=>exact .tup xs vs hn acL
 |sl xs p a cap sz val hc hm h0 hs hz hf hr ho hp ih=>
  cases ha with
  |sl _ _ ha hq=>
   refine .sl xs p a cap sz val hc hm h0 hs hz (by grind [xo]) (fun i hi j hj=>ih i hi j hj ((ha _ (acF hi)).cells _ (acF hj))) ho ?_
   cases p with
   |no=>trivial
   |full=>exact hp
   |own id=>obtain⟨m,h1,h2,h3⟩:=hp;exact⟨m,by rw[kO (hq id rfl)];omega,h2,h3⟩
 |pe x off b o val hb hf hr ho ih=>
  cases ha with
  |pe _ _ ha=>exact .pe x off b o val hb (by grind [xo]) (fun j hj=>ih j hj (ha.cells _ (acF hj))) ho
 |ptr id off cs t h=>cases ha with|ptr _ _ ha=>exact .ptr id off cs t (by grind [kO])
 |oa id off len cap o cs t h hc hm ho=>cases ha with|oa _ _ _ ha=>exact .oa id off len cap o cs t (by grind [kO]) hc hm ho
 |ob id off len cap sz o cs t h hc hm ho=>cases ha with|ob _ _ _ _ _ ha=>exact .ob id off len cap sz o cs t (by grind [kO]) hc hm ho
 |ifc t x u h ih=>cases ha with|ifc _ _ ha=>exact .ifc t x u (ih ha)
 |fn f xs vs hn hr ih=>cases ha with|fn _ _ ha=>exact .fn f xs vs hn acL
 |mp id m h=>cases ha with|mp _ ha=>exact .mp id m (by grind [kO])
inductive Frz (g h:Heap):AV→AV→Prop where
 |keep (x:AV) (ha:Av (fun id=>g id=none) x):Frz g h x x
 |agg (xs ys:List AV) (hn:xs.length=ys.length) (hr:∀i (h1:i<xs.length) (h2:i<ys.length),Frz g h xs[i] ys[i]):Frz g h (.agg xs) (.agg ys)
 |tup (xs ys:List AV) (hn:xs.length=ys.length) (hr:∀i (h1:i<xs.length) (h2:i<ys.length),Frz g h xs[i] ys[i]):Frz g h (.tup xs) (.tup ys)
 |sl (xs ys:List AV) (p:Perm) (hn:xs.length=ys.length) (hz:∀i (h1:i<xs.length) (h2:i<ys.length),xs[i].cells.length=ys[i].cells.length)
   (hr:∀i (h1:i<xs.length) (h2:i<ys.length) j (h3:j<xs[i].cells.length) (h4:j<ys[i].cells.length),Frz g h xs[i].cells[j] ys[i].cells[j]):Frz g h (.sl xs p) (.sl ys .no)
 |ob (id off len cap sz:Nat) (cs:List AV) (t:TypeId) (ys:List AV) (hg:g id=none) (hh:h id=some (.obj cs t)) (hl:off+len*sz≤cs.length) (hn:ys.length=len) (hz:∀i (h1:i<ys.length),ys[i].cells.length=sz)
   (hr:∀i (h1:i<ys.length) j (h3:j<ys[i].cells.length) (h4:off+(i*sz+j)<cs.length),Frz g h (cs[off+(i*sz+j)]) ys[i].cells[j]):Frz g h (.ob id off len cap sz) (.sl ys .no)
 |ptr (id off:Nat) (cs:List AV) (t:TypeId) (ys:List AV) (hg:g id=none) (hh:h id=some (.obj cs t)) (hn:cs.length=ys.length) (hr:∀i (h1:i<cs.length) (h2:i<ys.length),Frz g h cs[i] ys[i]):Frz g h (.ptr id off) (.pe (.agg ys) off)
 |ifc (t:TypeId) (x y:AV) (hr:Frz g h x y):Frz g h (.ifc t x) (.ifc t y)
theorem Frz.rep{h:Heap}(gd:Good c')(hh:Sub h c'.h){y:AV}(hz:Frz g h x y):∀ {u:Value},Rep c' x u→Rep (c'.back g) y u:=by
 have nown:∀ {id:Nat} {k:Blk} {o:Nat},g id=none→h id=some k→¬owned (c'.back g) (c'.φ id).block o:=fun {id k o} h1 h2 ho=>by obtain⟨j,l,h3,h4,h5⟩:=ho;obtain⟨h6,h7⟩:=uq h3;exact gd.inj j id l k h7 (hh _ _ h2) (fun e=>h6 acL) h4
 induction hz with
 |keep x ha=>exact fun hr=>hr.back ha
 |agg xs ys hn hr ih=>intro u hu;obtain⟨vs,rfl,h1,h2,h3⟩:=hu.oK;exact .agg ys vs acK (fun i hi=>ih i acK hi (h2 i acK)) fun i hi=>h3 i acK
 |tup xs ys hn hr ih=>intro u hu;obtain⟨vs,rfl,h1,h2⟩:=hu.Cb;exact .tup ys vs acK (fun i hi=>ih i acK hi (h2 i acK))
 |sl xs ys p hn hz hr ih=>
  intro u hu;obtain⟨a,cap,sz,val,rfl,hs⟩:=hu.iD;rw[hn];have hcap:=hs.hc;refine .sl ys .no a cap sz val acK hs.hm hs.h0 hs.hs (fun i hi=>by rw[←hz i acK hi];exact hs.hz i acK) (fun q hq i j hi hj=>xo (hs.hf q hq i j acK hj)) (fun i hi j hj=>?_) (fun i j hi hj=>hs.ho i j acK hj) trivial
  exact ih i acK hi j acL hj (hs.hr i acK j acL)
 |ob id off len cap sz cs t ys hg hid hl hn hz hr ih=>
  intro u hu;obtain⟨o,rfl,h1,h2,cs',t',h3,h4⟩:=hu.jq;have hcid:=hh _ _ hid;obtain⟨vs,v1,v2,v3⟩:=gd.obj id cs t hcid;subst hn;have hbd:∀i j,i<ys.length→j<sz→i*sz+j<ys.length*sz:=fun i j hi hj=>by have:(i+1)*sz≤ys.length*sz:=Nat.mul_le_mul_right _ acK;rw[Nat.add_mul,Nat.one_mul]at this;omega
  refine .sl ys .no _ cap sz (fun i j=>vs.getD (off+(i*sz+j)) undef) h1 h2 (fun e=>adb) (fun q hq _=>?_) hz (fun q hq i j hi hj=>?_) (fun i hi j hj=>?_) (fun i j hi hj=>(v3 _ acL).2) trivial
  ·cases hq
   exact⟨rfl,gd.lt hcid⟩
  ·cases hq
   obtain⟨rfl,_⟩:=h4 acK;have hb:=hbd i j hi hj;refine⟨?_,nown hg hid⟩;have:o+(i*sz+j)<vs.size:=acK;simp[World.cell?,Cx.back,v1,this]
  ·have hj' :j<sz:=by grind
   have hb:=hbd i j hi hj';exact ih i hi j hj acK (v3 _ acK).1
 |ptr id off cs t ys hg hid hn hr ih=>
  intro u hu;obtain⟨rfl,_⟩:=hu.kT;have hcid:=hh _ _ hid;obtain⟨vs,v1,v2,v3⟩:=gd.obj id cs t hcid;have:=Rep.pe (c:=c'.back g) (.agg ys) off (c'.φ id).block 0 (fun j=>vs.getD j undef) (gd.lt hcid) (fun j hj=>by
    have hj' :j<ys.length:=hj;refine⟨?_,nown hg hid⟩
    simp_all [World.cell?,Cx.back]) (fun j hj=>by
    have hj' :j<ys.length:=hj;exact ih j acK hj' (v3 j acK).1) (fun j hj=>by
    have hj' :j<ys.length:=hj;exact(v3 j acK).2)
  rw[Nat.zero_add]at this;exact adr
 |ifc t x y hr ih=>
  intro u hu;cases hu with
  |ifc _ _ u' h=>exact .ifc t y _ (ih h)
theorem ai.freeze{P:Program}{f:FuncId}{args:List AV}{h:Heap}{Q:AV→Prop}
  (hf:∀g,Sub h g→(∀x∈args,Av (fun id=>g id=none) x)→ai P f args g fun r h' =>Sub g h'∧∃y,Frz g h' r y∧Q y):ai P f args h fun r h' =>Q r∧h' =h:=by
 intro c vs hs gd h1 h2;have hav:∀x∈args,Av (fun id=>c.h id=none) x:=fun x hx=>by obtain⟨i,hi,rfl⟩:=List.mem_iff_getElem.1 hx;exact(h2 i hi).av fun _ e=>e
 refine(hf c.h hs hav c vs (.refl _) gd h1 h2).mono ?_
 rintro u w' ⟨c',x,h',rfl,gd',hE,hr,hsub,hgh,y,hz,hq⟩
 have hkeep:∀id k,c.h id=some k→c'.h id=some k:=fun id k hk=>hsub _ _ (hgh _ _ hk)
 have hE2:Ext c (c'.back c.h):={
  os:=hE.os,tape:=hE.tape,output:=hE.output,size:=hE.size,block:=hE.block,cell:=hE.cell,shape:=hE.shape
  steal:=fun b o hb ho=>hE.steal b o hb (xp ho)
  obj:=fun id cs t hi=>by rw[kO acL];exact hE.obj id cs t hi
  spare:=fun id n sz hi=>by rw[kO acL];exact hE.spare id n sz hi
  mp:=fun id m hi=>by rw[kO acL];exact hE.mp id m hi
  ro:=fun id b vs hi=>by rw[kO acL];exact hE.ro id b vs hi}
 have hold:∀id k,(c'.back c.h).h id=some k→c.h id=some k∧c'.h id=some k:=fun id k hk=>by
  obtain⟨a1,a2⟩:=uq hk;cases hc:c.h id with
  |none=>grind
  |some k' =>grind
 refine⟨c'.back c.h,y,h,rfl,?_,hE2,hz.rep gd' hsub hr,fun id k hk=>?_,hq,rfl⟩
 ·refine⟨?_,fun i j k l hi hj hne=>gd'.inj i j k l (hold i k hi).2 (hold j l hj).2 hne,fun id cs t hi=>?_,fun id n sz hi=>gd'.spare id n sz (hold id _ hi).2,fun id m hi=>?_,fun id m hi=>gd'.keys id m (hold id _ hi).2,fun id b vs hi=>gd'.ro id b vs (hold id _ hi).2⟩
  ·obtain⟨N,hN⟩:=gd'.fin
   exact⟨N,fun id hid=>by grind [Cx.back]⟩
  ·obtain⟨vs,v1,v2,v3⟩:=gd'.obj id cs t (hold id _ hi).2
   obtain⟨vs0,w1,w2,w3⟩:=gd.obj id cs t (hold id _ hi).1;exact⟨vs,v1,v2,fun j hj=>⟨(v3 j hj).1.back ((w3 j hj).1.av fun _ e=>e),(v3 j hj).2⟩⟩
  ·obtain⟨es,cl,v1,v2,v3⟩:=gd'.mp id m (hold id _ hi).2
   obtain⟨es0,cl0,w1,w2,w3⟩:=gd.mp id m (hold id _ hi).1;exact⟨es,cl,v1,v2,fun i hi' hi2=>⟨(v3 i hi' hi2).1,(v3 i hi' hi2).2.back ((w3 i hi' acK).2.av fun _ e=>e)⟩⟩
 ·rw[kO (by rw[hs _ _ hk];simp)]
  exact hkeep id k (hs _ _ hk)
section
variable {x:AV}{o cap:Nat}{cs rest:List AV}{k K:AV→Prop}{m:Int}{tS tR t:TypeId}
variable {P : Program} {U : TypeId → TI} {ρ : Env} {h h' : Heap} {sz : Nat} {y : AV} {xs : List AV} {e : TypeId}
def Rd(h:Heap)(sz:Nat)(y:AV)(xs:List AV):Prop:=
 Sized sz xs∧((∃q,y= .sl xs q)∨∃id off cap cs t,y= .ob id off xs.length cap sz∧h id=some (.obj cs t)∧off+xs.length*sz≤cs.length∧(cs.drop off).take (xs.length*sz)=au xs)
theorem Rd.sl(hs:Sized sz xs)(q:Perm):Rd h sz (.sl xs q) xs:=⟨hs,.inl ⟨q,rfl⟩⟩
theorem Rd.sub(hb:Rd h sz y xs)(hs:Sub h h'):Rd h' sz y xs:=by
 obtain⟨h1,hb|⟨id,off,cap,cs,t,rfl,h2,h3⟩⟩:=hb
 ·exact⟨h1,.inl hb⟩
 ·exact⟨h1,.inr ⟨id,off,cap,cs,t,rfl,hs _ _ h2,h3⟩⟩
theorem Rd.len(hb:Rd h sz y xs)(e:TypeId)(k:AV→Prop):wA y k (.slice e)=k (.i xs.length):=by exact ahR
theorem Rd.cells(hb:Rd h sz y xs):y.cells= [y]:=by exact ahR
theorem Rd.fit(hb:Rd h sz y xs)(m:Nat):fit y m=(m=1):=by exact ahR
theorem Rd.src(hb:Rd h sz y xs)(hz:(U e).sz=sz){f:List AV→Prop}(hf:f xs):gX U e h y f:=by
 obtain⟨_,⟨q,rfl⟩|⟨id,off,cap,cs,t,rfl,h2,h3,h4⟩⟩:=hb
 ·exact hf
 ·rw[OB,h2]
  exact⟨hz.symm,xs,rfl,h3,h4.symm,hf⟩
def At(h:Heap)(p x:AV)(o:Nat):Prop:=p= .pe x o∨∃id a cs t,p= .ptr id (a+o)∧h id=some (.obj cs t)∧a+x.cells.length≤cs.length∧(cs.drop a).take x.cells.length=x.cells
theorem At.sub{p:AV}(ha:At h p x o)(hs:Sub h h'):At h' p x o:=by
 rcases ha with rfl|⟨id,a,cs,t,rfl,h2,h3⟩
 ·exact .inl rfl
 ·exact .inr ⟨id,a,cs,t,rfl,hs _ _ h2,h3⟩
theorem FK{a:Nat}{i:TI}(h1:a+x.cells.length≤cs.length)(h2:(cs.drop a).take x.cells.length=x.cells)(h3:i.sz≠0)(h4:o+i.sz≤x.cells.length):iB cs (a+o) i k=iB x.cells o i k:=by
 unfold iB;split
 ·have e:(cs.drop (a+o)).take i.sz=(x.cells.drop o).take i.sz:=by grind [List.drop_take,List.drop_drop,Nat.min_eq_left]
  apply propext
  grind
 grind
theorem At.part{p x}{o}(ha:At h p x o){ty}(hz:(U ty).sz≠0)(hl:o+(U ty).sz≤x.cells.length)(k):nq U h ty p k=iB x.cells o (U ty) k:=by
 rcases ha with rfl|⟨id,a,cs,t,rfl,h2,h3,h4⟩
 ·rw[Ln]
  unfold atA;split
  ·rename_i hc
   obtain⟨rfl,hc2,hc3⟩:=hc;unfold iB;split
   ·rename_i hag
    rw[hag]at hc3;have:x= .agg x.cells:=by cases x<;>first|rfl|cases hc3
    rw[List.drop_zero,←hc2,List.take_length,Nat.zero_add,←this];simp
   simp_all [bC,false,oo]
  ·rfl
 ·rw[I4,h2]
  exact FK h3 h4 hz hl
theorem At.all{p x}(ha:At h p x 0){ty}(hz:(U ty).sz≠0)(hl:x.cells.length=(U ty).sz)(hg:bC x=(U ty).k.agg)(k):nq U h ty p k=k x:=by
 rw[ha.part hz acK];unfold iB;split
 ·rename_i hag
  rw[hag]at hg;have:x= .agg x.cells:=by cases x<;>first|rfl|cases hg
  rw[List.drop_zero,←hl,List.take_length,Nat.zero_add,←this];simp
 simp_all [bC,false,oo]
theorem At.field{p x}{o}(ha:At h p x o){f off}{t}{fs}{K}(hf:fs[f]? =some (off,t))(hz:(U t).sz≠0)(hk:∀p',At h p' x (o+off)→K p'):xN U f p K (.strct fs):=by
 rcases ha with rfl|⟨id,a,cs,t',rfl,h2,h3,h4⟩
 ·rw[Ip,hf]
  exact⟨hz,hk _ (.inl rfl)⟩
 ·rw[E2,hf]
  exact⟨hz,hk _ (.inr ⟨id,a,cs,t',acL,h2,h3,h4⟩)⟩
theorem Rd.idx(hb:Rd h sz y xs){x:IntKind}(j:Nat)(hm:m=j)(hj:j<xs.length)(hz:(U e).sz=sz)(h0:sz≠0)(hk:∀p,At h p xs[j] 0→K p):oW U y (.v (.int x m)) K (.slice e):=by
 subst hm;have hc:=hb.1 xs[j] (acF hj);obtain⟨hs,⟨q,rfl⟩|⟨id,off,cap,cs,t,rfl,h2,h3,h4⟩⟩:=hb
 ·refine(uC ..).mpr ⟨acK,?_⟩
  exact fP.at j hj acK (hk _ (.inl rfl))
 ·refine(AG ..).mpr ⟨acK,hz.symm,acK,acK,hk _ (.inr ⟨id,off+j*sz,cs,t,acS,h2,?_,?_⟩)⟩
  ·have:(j+1)*sz≤xs.length*sz:=Nat.mul_le_mul_right _ acK
   rw[Nat.add_mul,Nat.one_mul]at this;rw[hc];omega
  ·have e1:=oP hs j hj
   rw[←h4,List.drop_take,List.take_take,List.drop_drop]at e1;rw[hc];have:(j+1)*sz≤xs.length*sz:=acL;rw[Nat.add_mul,Nat.one_mul]at this;rw[Nat.min_eq_left acK]at e1;exact e1
def Ow(tb:TypeId)(h:Heap)(sz id:Nat)(y:AV)(xs:List AV):Prop:=
 ∃cap rest,y= .ob id 0 xs.length cap sz∧h id=some (.obj (au xs++rest) tb)∧rest.length=(cap - xs.length)*sz∧xs.length≤cap∧Sized sz xs
variable {tb : TypeId} {id : Nat}
theorem Ow.rd(hw:Ow tb h sz id y xs):Rd h sz y xs:=by obtain⟨cap,rest,rfl,h1,h2,h3,h4⟩:=hw;have hl:=bg h4;exact⟨h4,.inr ⟨id,0,cap,_,tb,rfl,h1,acL,acL⟩⟩
theorem Ow.sub(hw:Ow tb h sz id y xs)(hs:Sub h h'):Ow tb h' sz id y xs:=by obtain⟨cap,rest,e1,h1,h2⟩:=hw;exact⟨cap,rest,e1,hs _ _ h1,h2⟩
theorem Ow.same(hw:Ow tb h sz id y xs)(hs:h' id=h id):Ow tb h' sz id y xs:=by obtain⟨cap,rest,e1,h1,h2⟩:=hw;exact⟨cap,rest,e1,hs.trans h1,h2⟩
theorem Ow.none(hw:Ow tb h sz id y xs):h id≠Option.none:=by
 obtain⟨cap,rest,e1,h1,h2⟩:=hw
 grind
theorem Ow.make(hs:Sized sz xs)(hcs:cs=au xs){n:Nat}(hn:n=xs.length)(hc:n≤cap)(hr:rest.length=(cap - n)*sz):Ow tb (upd h id (some (.obj (cs++rest) tb))) sz id (.ob id 0 n cap sz) xs:=by
 subst hcs;subst hn
 exact⟨cap,rest,rfl,ah ..,hr,hc,hs⟩
theorem j9.ow{n:Nat}{Q:AV→Heap→Prop}(hs:Sized sz xs)(hcs:cs=au xs)(hn:n=xs.length)(hk:∀id y h',h id=Option.none→Ow tb h' sz id y xs→(∀j,j≠id→h' j=h j)→Q y h'):j9 h cs n sz tb Q:=
 fun id cap rest hid hc hr=>hk id _ _ hid (Ow.make hs hcs hn hc hr) fun j hj=>ag _ _ hj
theorem Jf{us vs}{o}{c}:over (us++vs) (us.length+o) c=us++over vs o c:=by simp[Ab.over,Nat.add_assoc,List.take_length_add_append,List.drop_length_add_append,List.append_assoc]
theorem Iz{xs}(hs:Sized sz xs)(j)(hj:j<xs.length)(x)(hx:x.cells.length=sz):au (xs.set j x)=over (au xs) (j*sz) x.cells:=by
 induction xs generalizing j with
 |nil=>grind
 |cons a r ih=>
  have h1:=hs a acS;have h2:Sized sz r:=fun z hz=>hs z acL
  cases j with
  |zero=>simp only[List.set_cons_zero,kD,Ab.over,Nat.zero_mul,List.take_zero,List.nil_append,Nat.zero_add];rw[hx,←h1,List.drop_left]
  |succ j=>have hj' :j<r.length:=acL;have e1:(j+1)*sz=a.cells.length+j*sz:=acL;rw[List.set_cons_succ,kD,kD,ih h2 j hj',e1,Jf]
theorem Iy{xs}(hs:Sized sz xs)(j)(hj:j<xs.length)(o)(c)(ho:o+c.length≤sz):over (au xs) (j*sz+o) c=au (xs.set j (.agg (over xs[j].cells o c))):=by
 have hc:=hs xs[j] (acF hj);have hl:(over xs[j].cells o c).length=sz:=by grind [iu]
 rw[Iz hs j hj (.agg (over xs[j].cells o c)) hl];have hp:=oP hs j hj;have e1:(au xs).take (j*sz+o)=(au xs).take (j*sz)++xs[j].cells.take o:=by rw[←hp,List.take_take,Nat.min_eq_left acK,List.take_add]
 have e2:(au xs).drop (j*sz+o+c.length)=xs[j].cells.drop (o+c.length)++(au xs).drop (j*sz+sz):=by
  have e3:(au xs).drop (j*sz)=xs[j].cells++(au xs).drop (j*sz+sz):=by grind [List.drop_drop,List.take_append_drop]
  rw[Nat.add_assoc,←List.drop_drop,e3,List.drop_append_of_le_length acK]
 show over (au xs) (j*sz+o) c=over (au xs) (j*sz) (over xs[j].cells o c)
 grind [over,Ab.over,List.append_assoc]
theorem LI{us vs}{o}{c}(h1:o+c.length≤us.length):over (us++vs) o c=over us o c++vs:=by grind [Ab.over,List.append_assoc]
theorem Ow.idx(hw:Ow tb h sz id y xs){x:IntKind}(j:Nat)(hm:m=j)(hj:j<xs.length)(hz:(U e).sz=sz)(h0:sz≠0)(hk:K (.ptr id (j*sz))):oW U y (.v (.int x m)) K (.slice e):=by
 obtain⟨cap,rest,rfl,h1,h2,h3,h4⟩:=hw
 simp_all [AG,Nat.zero_add,Int.toNat_natCast]
def OwE(tb:TypeId)(h0 h:Heap)(sz:Nat)(y:AV)(xs:List AV):Prop:=(xs= []∧y= .sl [] .full)∨∃id,h0 id=Option.none∧Ow tb h sz id y xs
variable {h0 : Heap}
theorem OwE.rd(hw:OwE tb h0 h sz y xs):Rd h sz y xs:=by
 rcases hw with⟨rfl,rfl⟩|⟨id,_,hw⟩
 ·exact .sl (fun z hz=>acL) _
 ·exact hw.rd
theorem OwE.sub(hw:OwE tb h0 h sz y xs)(hs:Sub h h'):OwE tb h0 h' sz y xs:=by
 rcases hw with hw|⟨id,h1,hw⟩
 ·exact agE
 ·exact .inr ⟨id,h1,hw.sub hs⟩
theorem OwE.ow(hw:OwE tb h0 h sz y xs)(hn:xs≠ []):∃id,h0 id=Option.none∧Ow tb h sz id y xs:=by
 rcases hw with hw|hw
 ·grind
 omega
theorem OwE.app{v:AV}{zs:List AV}{Q:AV→Heap→Prop}(hw:OwE tb h0 h sz y xs)(hs0:Sub h0 h)(hb:Rd h sz v zs)(hz:(U tb).sz=sz)(h1:sz≠0)(hby:(U tb).bytes≠0)(hf:Ab.fit (U tb).zero sz)(hne:zs≠ [])(hlen:(xs.length+zs.length)*(U tb).bytes≤140737488355328)
  (hk:∀id y' h',h0 id=Option.none→(h id=Option.none∨∃l c,y= .ob id 0 l c sz)→Ow tb h' sz id y' (xs++zs)→(∀j,j≠id→h' j=h j)→Q y' h'):apK U h y v Q (.slice tb):=by
 subst hz;rcases hw with⟨rfl,rfl⟩|⟨id,h2,cap,rest,rfl,h3,h4,h5,h6⟩
 ·refine(qg ..).mpr ⟨h1,hby,hb.src rfl ⟨by simp[Sized],hb.1,acK,fun hn=>(hne hn).elim,fun _=>?_⟩⟩
  refine .ob hf (j9.ow (by simpa using hb.1) acY acS fun id y' h' hid hw ho=>?_)
  exact hk id _ _ (hs0.none hid) (.inl hid) acL ho
 ·have hl:=bg h6
  refine⟨h1,hby,rfl,hb.src rfl ⟨hb.1,hlen,?_⟩⟩;rw[h3];have hsz:Sized (U tb).sz (xs++zs):=fun z hz=>(List.mem_append.1 hz).elim (h6 z) (hb.1 z)
  refine⟨acL,hf,fun hle=>?_,fun hgt=>?_⟩
  ·have hlz:=bg hb.1
   have hmul:(cap - xs.length)*(U tb).sz=zs.length*(U tb).sz+(cap - (xs.length+zs.length))*(U tb).sz:=by rw[←Nat.add_mul];grind
   refine hk id _ _ h2 (.inr ⟨_,_,rfl⟩) ⟨cap,rest.drop (zs.length*(U tb).sz),acS,?_,?_,acL,hsz⟩ fun j hj=>ag _ _ hj
   ·simp_all [ah,mo,Nat.zero_add,Ab.over,List.take_left,List.drop_append,List.drop_of_length_le]
   grind
  ·refine j9.ow hsz ?_ acS fun id' y' h' hid hw ho=>?_
   ·grind [mo,List.take_left]
   ·exact hk id' _ _ (hs0.none hid) (.inl hid) hw ho
theorem vN {f : FuncId} {fn : Func}  (hU : ∀ t, aO P U t) (hfn : P.funcs[f]? = some fn) (hname : (fn.name == "runtime.NumGoroutine") = false) (hb : fn.body.isNone = true) (hn : Extern.findNext fn = Option.none)
  (he:Extern.find fn=some (Extern.SlicesOverlaps.overlaps #[tS,tS] #[tR])) (hty:(U tS).k= .slice e) (hz:(U e).sz≠0) {q:Perm} (hx:Sized (U e).sz xs) (hne:xs≠ []) {id off len sz:Nat}   (hid:h id=some (.obj cs t)) (hcs:cs≠ []):
  ai P f [.sl xs q,.ob id off len cap sz] h fun r h' =>r= .b false∧h' =h:=by
 intro c vs hs g h1 h2;obtain⟨a,cap0,sz0,val,hu,sl⟩:=(h2 0 acS).iD;obtain⟨o,hv,_⟩:=(h2 1 acS).jq;have hd:=(hU tS).desc;rw[hty]at hd;have hpos:0<xs.length:=List.length_pos_iff.2 hne;have hcap:=sl.hc;obtain⟨qa,rfl⟩:∃qa,a=some qa:=by
  cases a with
  |none=>have:=sl.h0 rfl;omega
  |some qa=>simp
 have hs0:sz0=(U e).sz:=by rw[←sl.hz 0 hpos];exact hx _ (acF hpos)
 have hf:=sl.hf qa rfl 0 0 hpos acK;have hq:=(sl.hs qa rfl acK).1;have hcid:=hs _ _ hid;obtain⟨us,u1,u2,u3⟩:=g.obj id cs t hcid;have hnb:qa.block≠(c.φ id).block:=fun hh=>hf.2 ⟨id,_,hcid,hh.symm,Nat.zero_le _⟩
 obtain⟨ws,tw,fr,hws,hwlt⟩:∃ws tw fr,c.w.heap[qa.block]? =some (.cells ws tw fr)∧0<ws.size:=by
  have:=hf.1;simp only[World.cell?]at this;split at this
  ·rename_i ws tw fr hh
   refine⟨ws,tw,fr,hh,?_⟩
   grind
  all_goals cases this
 have hvs:vs= #[.slice (some qa) xs.length cap0,.slice (some ⟨(c.φ id).block,o,Option.none⟩) len cap]:=by
  apply Array.ext
  ·omega
  ·intro i hi hi2
   have hi3:i<2:=acK;rcases i with _|_|i
   ·simpa[Array.getD,hi]using hu
   ·simpa[Array.getD,hi]using hv
   ·omega
 subst hvs;refine .inr ⟨.bool false,c.w,?_,c,_,h,rfl,g,.refl c,.v _,hs,rfl,rfl⟩;rw[Go.run_callFunc_extern hfn hname hb hn he];have key:(Extern.SlicesOverlaps.overlaps #[tS,tS] #[tR] #[.slice (some qa) xs.length cap0,.slice (some ⟨(c.φ id).block,o,Option.none⟩) len cap]).run P c.w= .ok (.bool false) c.w:=by
  have hnb1:(qa.block !=(c.φ id).block)=true:=acL;have hnb2:(qa.block==(c.φ id).block)=false:=acL;have hws2:∃m,ws.size=m+1:=⟨ws.size - 1,acK⟩;obtain⟨m,hm⟩:=hws2
  change Sem.run P (α:=Value) (do
   let some t := (#[tS, tS] : Array TypeId)[0]? | stuck "slices.overlaps: no parameter types"
   let .slice elem ← underlying t | stuck "slices.overlaps: slice type expected"
   let size←sizeOf elem
   match (some qa:Option Addr),(some ⟨(c.φ id).block,o,Option.none⟩:Option Addr)with
   |some a,some b=>
    if xs.length=0∨len=0∨size=0 then pure (Value.bool false)
    else if a.block !=b.block && (←frozen a) && (←frozen b)then unsupported .addressObserved
    else do
     if a.block !=b.block then do
      noView a;noView b
      if ← mayBeOne a b then return Value.bool ((← choose (.extern "sameAddr.stringBytes" 2)) == 1)
     pure (Value.bool (a.block==b.block && a.off<b.off+len*size && b.off<a.off+xs.length*size))
   |_,_=>pure (Value.bool false)) c.w=_
  have hfb:∀x,c.w.frozen? ⟨(c.φ id).block,x,Option.none⟩=false:=fun x=>by grind [World.frozen?]
  have hsb:c.w.shape? (c.φ id).block=some (t,us.size):=by grind [World.shape?]
  have hsa:c.w.shape? qa.block=some (tw,m+1):=by grind [World.shape?]
  by_cases hl:len=0
  ·simp[run_underlying hd,bE hU hz,hl]
  ·have hus:us.size≠0:=by grind
   obtain⟨n,hn'⟩:∃n,us.size=n+1:=⟨us.size - 1,acK⟩;rw[hn']at hsb;cases hfa:c.w.frozen? qa<;>cases hfa2:c.w.frozen? {block:=qa.block,off:=m+1}<;>
    simp[run_underlying hd,bE hU hz,hl,hne,hz,hnb1,hnb2,frozen,noView,viewAt,mayBeOne,stringish,shape,Sem.run,hsa,hsb,hfb,hfa,hfa2]
 rw[key];rfl
end
end Go.Ab
namespace Go.Bf
open Go Go.Ab
structure OpD where
 kind:Int
 subj:Txt
 case:Txt
 field:Txt
 to:Txt
 val:bt
 review:Int
 text:Txt
 reason:Txt
 glass:Bool
structure xd where
 tick:Int
 actor:Txt
 what:Txt
structure fq where
 name:Txt
 val:bt
structure aU where
 id:Txt
 owner:Txt
 state:Txt
 fields:List fq
 log:List xd
structure qe where
 id:Int
 tick:Int
 subj:Txt
 case:Txt
 action:Txt
 reason:Txt
 isOpen:Bool
structure HO where
 tick:Int
 case:Txt
 arg:Txt
structure jL where
 subj:Txt
 role:Txt
structure aq where
 tick:Int
 cases:List aU
 reviews:List qe
 notices:List HO
 roles:List jL
 policy:bV
 version:Int
structure br where
 cat:Int
 name:Txt
 bag:List bt
def opC(o:OpD):List AV:=[.i o.kind,.s o.subj,.s o.case,.s o.field,.s o.to,.i o.val.kind,.i o.val.n,.s o.val.s,.i o.review,.s o.text,.s o.reason,.b o.glass]
def opA(o:OpD):AV:=.agg (opC o)
def iI(x:xd):AV:=.agg [.i x.tick,.s x.actor,.s x.what]
def bO(f:fq):AV:=.agg [.s f.name,.i f.val.kind,.i f.val.n,.s f.val.s]
def gz(l:List fq):AV:=.sl (l.map bO) .no
def so(l:List xd):AV:=.sl (l.map iI) .no
def mZ(c:aU):List AV:=[.s c.id,.s c.owner,.s c.state,gz c.fields,so c.log]
def ct(c:aU):AV:=.agg (mZ c)
def gh(l:List aU):AV:=.sl (l.map ct) .no
def iM(r:qe):AV:=.agg [.i r.id,.i r.tick,.s r.subj,.s r.case,.s r.action,.s r.reason,.b r.isOpen]
def kj(l:List qe):AV:=.sl (l.map iM) .no
def mT(n:HO):AV:=.agg [.i n.tick,.s n.case,.s n.arg]
def lC(l:List HO):AV:=.sl (l.map mT) .no
def eL(r:jL):AV:=.agg [.s r.subj,.s r.role]
def dY(l:List jL):AV:=.sl (l.map eL) .no
def fZ:bV→List AV
 |.mk id set alg tgt rules kids obls=>[.s id,.b set,.i alg,aV tgt,.sl (rules.map aC) .no,.sl (fH kids) .no,aA obls]
theorem Oj(p):aN p= .agg (fZ p):=by cases p;rfl
def cN(s:aq):AV:=.agg ([.i s.tick,gh s.cases,kj s.reviews,lC s.notices,dY s.roles]++fZ s.policy++ [.i s.version])
def lf(g:br):AV:=.agg [.i g.cat,.s g.name,.sl (g.bag.map aP) .no]
def bJ(l:List br):AV:=.sl (l.map lf) .no
def geB(a b:Txt):Bool:= !(Op.bytesLess a b)
def findD(cs:List aU)(id:Txt):Nat:=cs.findIdx fun c=>geB c.id id
def bY(cs:List aU)(id:Txt):Bool:=match cs[findD cs id]? with
 |some c=>c.id==id
 |none=>false
def an:bt:=⟨0,0,[]⟩
def oH:aU:=⟨[],[],[],[],[]⟩
def bz(cs:List aU)(id:Txt):aU:=if bY cs id then cs.getD (findD cs id) oH else oH
def eO(fs:List fq)(name:Txt):bt:=match fs.find? fun f=>f.name==name with
 |some f=>f.val
 |none=>an
def uw(a b:jL):Bool:=a.subj==b.subj && a.role==b.role
def xY(l:List jL)(r:jL):Bool:=l.any (uw r)
def jB:Txt:=[111,112,101,110]
def we:Txt:=[119,111,114,107]
def Aq:Txt:=[100,111,110,101]
def gU:Txt:=[99,108,111,115,101,100]
def mH(a b:Txt):Bool:=
 if a==jB then b==we else if a==we then b==Aq else if a==Aq then b==we||b==gU else false
def Tt:List Txt:=[[110,101,119],[114,101,97,100],[119,114,105,116,101],[109,111,118,101],[99,108,111,115,101],[114,111,108,101],[112,111,108,105,99,121]]
def jM(k:Int):Txt:=if k<1∨k>7 then [116,105,99,107]else Tt.getD (k - 1).toNat []
def jW(k:Int):Bool:=decide (1≤k) && decide (k≤4)
def gM(s:Txt):Bool:=s== []||aK s
def kU(o:OpD):Bool:=if o.glass then jW o.kind && (!(o.reason== [])) && decide (o.reason.length≤64)else o.reason== []
def fI(o:OpD):OpD:=
 let z:OpD:=⟨o.kind,[],[],[],[],an,0,[],[],false⟩
 if o.kind=1 then {z with case:=o.case}
 else if o.kind=2∨o.kind=6 then {z with case:=o.case,field:=o.field}
 else if o.kind=3 then {z with case:=o.case,field:=o.field,val:=o.val}
 else if o.kind=4 then {z with case:=o.case,to:=o.to}
 else if o.kind=5∨o.kind=8 then {z with review:=o.review}
 else {z with text:=o.text}
def eqV(a b:bt):Bool:=a.kind==b.kind && (a.n==b.n && a.s==b.s)
def ic(a b:OpD):Bool:=a.kind==b.kind && (a.subj==b.subj && (a.case==b.case && (a.field==b.field && (a.to==b.to && (a.val.kind==b.val.kind && (a.val.n==b.val.n && (a.val.s==b.val.s && (a.review==b.review && (a.text==b.text && (a.reason==b.reason && a.glass==b.glass))))))))))
def okD(o:OpD):Bool:=
 if o.kind=1 then !(o.case== [])
 else if o.kind=2∨o.kind=6 then !(o.case== []) && !(o.field== [])
 else if o.kind=3 then !(o.case== []) && !(o.field== []) && !(eqV o.val an)
 else if o.kind=4 then !(o.case== []) && !(o.to== [])
 else if o.kind=5 then decide (0<o.review)
 else if o.kind=8 then decide (0<o.review) && decide (o.review≤1099511627776)
 else true
def fh(o:OpD):OpD:={o with subj:=[],reason:=[],glass:=false}
def dI(o:OpD):Bool:=decide (1≤o.kind) && decide (o.kind≤8) && okD o && ic (fh o) (fI o)
def dD(o:OpD):Bool:=aK o.subj && kU o && decide (o.text.length≤4096) && gM o.case && gM o.field && gM o.to && (eqV o.val an||aW o.val) && dI o
def bX(s:aq)(o:OpD):Int:=
 let c:=bz s.cases o.case
 if bY s.cases o.case=false then 10
 else if o.kind=3∧c.fields.length≥16∧eqV (eO c.fields o.field) an=true then 6
 else if o.kind≠2∧c.log.length≥256 then 6
 else if o.kind=3∧c.state=gU∨o.kind=4∧mH c.state o.to=false then 13
 else 0
def vQ(l:List qe)(n:Int):Option qe:=if 1≤n then l[(n - 1).toNat]? else none
def fU(s:aq)(o:OpD):Int:=match vQ s.reviews o.review with
 |none=>10
 |some r=>if r.isOpen=false then 10 else if r.subj=o.subj then 12 else 0
def bM(s:aq)(o:OpD):Int:=
 if dD o=false then 1
 else if o.kind=1 then(if bY s.cases o.case then 11 else if s.cases.length≥64 then 6 else 0)
 else if 2≤o.kind∧o.kind≤4 then bX s o
 else if o.kind=5 then fU s o
 else if o.kind=6 then(if s.roles.length≥64∧xY s.roles ⟨o.case,o.field⟩=false then 6 else 0)
 else if o.kind=8 then(if s.tick>1099511627776 - o.review then 6 else 0)
 else 0
def idV(s:Txt):bt:=⟨5,0,s⟩
def ud(l:List xd)(subj:Txt):bt:=⟨1,if l.any (fun x=>x.actor==subj)then 1 else 0,[]⟩
def idT:Txt:=[105,100]
def cD(c:aU)(subj:Txt):List br:=
 [⟨3,idT,[idV c.id]⟩,⟨3,[111,119,110,101,114],[idV c.owner]⟩,⟨3,[115,116,97,116,101],[idV c.state]⟩,⟨3,[101,118,101,110,116,115],[⟨2,c.log.length,[]⟩]⟩,⟨3,[116,111,111,107],[ud c.log subj]⟩]++
 (match c.log.getLast? with
  |some x=>[⟨3,[108,97,115,116],[idV x.actor]⟩]
  |none=>[])++
 (c.fields.filter fun f=>decide (f.name.length≤14)).map fun f=>⟨3,[102,95]++f.name,[f.val]⟩
def cX(l:List jL)(subj:Txt):List bt:=((l.filter fun r=>r.subj==subj).map fun r=>idV r.role).take 16
def fJ(s:aq)(o:OpD):List br:=
 [⟨1,idT,[idV o.subj]⟩,⟨1,[114,111,108,101],cX s.roles o.subj⟩,⟨2,[110,97,109,101],[idV (jM o.kind)]⟩]++
 (if o.field= []then []else [⟨2,[102,105,101,108,100],[idV o.field]⟩])++
 (if o.to= []then []else [⟨2,[116,111],[idV o.to]⟩])++
 [⟨4,[110,111,119],[⟨4,s.tick,[]⟩]⟩]++
 (if bY s.cases o.case=true∧o.kind≠6 then cD (bz s.cases o.case) o.subj else [])
def fc(fs:List fq)(name:Txt)(v:bt):List fq:=
 let i:=fs.findIdx fun f=>geB f.name name
 match fs[i]? with
 |none=>fs++ [⟨name,v⟩]
 |some f=>if f.name=name then fs.set i ⟨f.name,v⟩else fs.take i++ [⟨name,v⟩]++fs.drop i
def jo(s:aq)(c:aU)(actor what:Txt):aU:={c with log:=c.log++ [⟨s.tick,actor,what⟩]}
def doD(par:Txt→bV×Int×Int)(s:aq)(o:OpD):aq:=
 let i:=findD s.cases o.case
 if o.kind=1 then {s with cases:=s.cases.take i++ [jo s ⟨o.case,o.subj,jB,[],[]⟩ o.subj [110,101,119]]++s.cases.drop i}
 else if o.kind=3 then {s with cases:=s.cases.modify i fun c=>jo s {c with fields:=fc c.fields o.field o.val} o.subj [119,114,105,116,101]}
 else if o.kind=4 then {s with cases:=s.cases.modify i fun c=>jo s {c with state:=o.to} o.subj o.to}
 else if o.kind=5 then {s with reviews:=s.reviews.modify (o.review - 1).toNat fun r=> {r with isOpen:=false}}
 else if o.kind=6 then(if xY s.roles ⟨o.case,o.field⟩then s else {s with roles:=s.roles++ [⟨o.case,o.field⟩]})
 else if o.kind=7 then(if(par o.text).2.1=0 then {s with policy:=(par o.text).1,version:=s.version+1} else s)
 else if o.kind=8 then {s with tick:=s.tick+o.review}
 else s
def dU(par:Txt→bV×Int×Int)(s:aq)(o:OpD):aq:=if bM s o=0 then doD par s o else s
def i64(n:Int):Prop:= -9223372036854775808≤n∧n≤9223372036854775807
end Go.Bf
namespace Go.Proofs.YteaaeelhjnhaaaaGreatDoor
open Go Go.Ab
abbrev acI:TI:=⟨.other,1,8,.v .nilFunc,none⟩
def Mz:List TI:=[
 ⟨.other,0,0,default,none⟩,
 acI,
 ⟨.int .i64,1,8,.i 0,some (0,[.int .i64])⟩,
 ⟨.int .i64,1,8,.i 0,some (0,[.int .i64])⟩,
 ⟨.bool,1,1,.b false,some (0,[.bool])⟩,
 ⟨.int .u8,1,1,.v (.int .u8 0),some (0,[.int .u8])⟩,
 ⟨.int .u8,1,1,.v (.int .u8 0),some (0,[.int .u8])⟩,
 ⟨.strct [(0,2),(1,3),(2,4),(3,6)],4,24,.agg [.i 0,.i 0,.b false,.v (.int .u8 0)],none⟩,
 ⟨.strct [(0,2),(1,3),(2,4),(3,6)],4,24,.agg [.i 0,.i 0,.b false,.v (.int .u8 0)],none⟩,
 ⟨.str,1,16,.s [],some (0,[.str])⟩,
 ⟨.str,1,16,.s [],some (0,[.str])⟩,
 ⟨.str,1,16,.s [],some (0,[.str])⟩,
 ⟨.int .u64,1,8,.v (.int .u64 0),some (0,[.int .u64])⟩,
 ⟨.strct [(0,9),(1,12)],2,24,.agg [.s [],.v (.int .u64 0)],none⟩,
 ⟨.strct [(0,9),(1,12)],2,24,.agg [.s [],.v (.int .u64 0)],none⟩,
 ⟨.ptr 376,1,8,.v (.pointer none),none⟩,
 ⟨.ptr 379,1,8,.v (.pointer none),none⟩,
 ⟨.ptr 386,1,8,.v (.pointer none),none⟩,
 ⟨.strct [(0,17)],1,8,.agg [.v (.pointer none)],none⟩,
 ⟨.strct [(0,17)],1,8,.agg [.v (.pointer none)],none⟩,
 ⟨.iface,1,16,.v .nilIface,none⟩,
 ⟨.int .i32,1,4,.v (.int .i32 0),some (0,[.int .i32])⟩,
 ⟨.strct [(0,3),(1,3),(2,9)],3,32,.agg [.i 0,.i 0,.s []],some (1,[.int .i64,.int .i64,.str])⟩,
 ⟨.strct [(0,3),(1,3),(2,9)],3,32,.agg [.i 0,.i 0,.s []],some (1,[.int .i64,.int .i64,.str])⟩,
 ⟨.strct [(0,3),(1,9),(2,9),(3,9),(4,9),(5,23),(8,3),(9,9),(10,9),(11,4)],12,152,.agg [.i 0,.s [],.s [],.s [],.s [],.i 0,.i 0,.s [],.i 0,.s [],.s [],.b false],some (2,[.int .i64,.str,.str,.str,.str,.int .i64,.int .i64,.str,.int .i64,.str,.str,.bool])⟩,
 ⟨.strct [(0,3),(1,9),(2,9),(3,9),(4,9),(5,23),(8,3),(9,9),(10,9),(11,4)],12,152,.agg [.i 0,.s [],.s [],.s [],.s [],.i 0,.i 0,.s [],.i 0,.s [],.s [],.b false],some (2,[.int .i64,.str,.str,.str,.str,.int .i64,.int .i64,.str,.int .i64,.str,.str,.bool])⟩,
 ⟨.slice 5,1,24,.sl [] .full,none⟩,
 ⟨.int .u64,1,8,.v (.int .u64 0),some (0,[.int .u64])⟩,
 acI,
 ⟨.other,0,0,default,none⟩,
 acI,
 acI,
 acI,
 acI,
 acI,
 acI,
 acI,
 acI,
 acI,
 ⟨.ptr 76,1,8,.v (.pointer none),none⟩,
 acI,
 acI,
 acI,
 acI,
 acI,
 acI,
 ⟨.int .i64,1,8,.i 0,some (0,[.int .i64])⟩,
 acI,
 ⟨.ptr 50,1,8,.v (.pointer none),none⟩,
 ⟨.strct [(0,26),(1,3),(2,3)],3,40,.agg [.sl [] .full,.i 0,.i 0],none⟩,
 ⟨.strct [(0,26),(1,3),(2,3)],3,40,.agg [.sl [] .full,.i 0,.i 0],none⟩,
 acI,
 acI,
 ⟨.slice 9,1,24,.sl [] .full,none⟩,
 acI,
 acI,
 acI,
 acI,
 ⟨.ptr 82,1,8,.v (.pointer none),none⟩,
 ⟨.other,0,0,default,none⟩,
 acI,
 ⟨.ptr 102,1,8,.v (.pointer none),none⟩,
 ⟨.other,0,0,default,none⟩,
 acI,
 ⟨.cplx .f64,1,16,.v (.complex .f64 0 0),some (0,[.cplx .f64])⟩,
 ⟨.cplx .f64,1,16,.v (.complex .f64 0 0),some (0,[.cplx .f64])⟩,
 ⟨.strct [(0,46),(1,65),(2,4),(3,23),(6,4),(7,3)],8,80,.agg [.i 0,.v (.complex .f64 0 0),.b false,.i 0,.i 0,.s [],.b false,.i 0],some (2,[.int .i64,.cplx .f64,.bool,.int .i64,.int .i64,.str,.bool,.int .i64])⟩,
 ⟨.strct [(0,46),(1,65),(2,4),(3,23),(6,4),(7,3)],8,80,.agg [.i 0,.v (.complex .f64 0 0),.b false,.i 0,.i 0,.s [],.b false,.i 0],some (2,[.int .i64,.cplx .f64,.bool,.int .i64,.int .i64,.str,.bool,.int .i64])⟩,
 acI,
 ⟨.slice 26,1,24,.sl [] .full,none⟩,
 acI,
 acI,
 acI,
 ⟨.int .u64,1,8,.v (.int .u64 0),some (0,[.int .u64])⟩,
 acI,
 ⟨.strct [(0,26),(1,3),(2,4)],3,40,.agg [.sl [] .full,.i 0,.b false],none⟩,
 ⟨.strct [(0,26),(1,3),(2,4)],3,40,.agg [.sl [] .full,.i 0,.b false],none⟩,
 acI,
 acI,
 acI,
 acI,
 ⟨.strct [(0,3),(1,26),(2,3),(3,3),(4,4)],5,56,.agg [.i 0,.sl [] .full,.i 0,.i 0,.b false],none⟩,
 ⟨.strct [(0,3),(1,26),(2,3),(3,3),(4,4)],5,56,.agg [.i 0,.sl [] .full,.i 0,.i 0,.b false],none⟩,
 ⟨.ptr 116,1,8,.v (.pointer none),none⟩,
 ⟨.other,0,0,default,none⟩,
 acI,
 ⟨.slice 135,1,24,.sl [] .full,none⟩,
 ⟨.slice 170,1,24,.sl [] .full,none⟩,
 ⟨.slice 173,1,24,.sl [] .full,none⟩,
 ⟨.slice 161,1,24,.sl [] .full,none⟩,
 ⟨.slice 232,1,24,.sl [] .full,none⟩,
 ⟨.slice 232,1,24,.sl [] .full,none⟩,
 ⟨.slice 237,1,24,.sl [] .full,none⟩,
 ⟨.slice 96,1,24,.sl [] .full,none⟩,
 ⟨.slice 184,1,24,.sl [] .full,none⟩,
 ⟨.strct [(0,9),(1,4),(2,3),(3,91),(4,92),(5,93),(6,94)],7,128,.agg [.s [],.b false,.i 0,.sl [] .full,.sl [] .full,.sl [] .full,.sl [] .full],none⟩,
 ⟨.strct [(0,9),(1,4),(2,3),(3,91),(4,92),(5,93),(6,94)],7,128,.agg [.s [],.b false,.i 0,.sl [] .full,.sl [] .full,.sl [] .full,.sl [] .full],none⟩,
 ⟨.strct [(0,3),(1,86),(2,87),(3,88),(4,89),(5,96),(12,3)],13,240,.agg [.i 0,.sl [] .full,.sl [] .full,.sl [] .full,.sl [] .full,.s [],.b false,.i 0,.sl [] .full,.sl [] .full,.sl [] .full,.sl [] .full,.i 0],none⟩,
 ⟨.strct [(0,3),(1,86),(2,87),(3,88),(4,89),(5,96),(12,3)],13,240,.agg [.i 0,.sl [] .full,.sl [] .full,.sl [] .full,.sl [] .full,.s [],.b false,.i 0,.sl [] .full,.sl [] .full,.sl [] .full,.sl [] .full,.i 0],none⟩,
 acI,
 ⟨.slice 104,1,24,.sl [] .full,none⟩,
 ⟨.strct [(0,83),(1,98),(14,100),(15,27)],16,280,.agg [.v (.pointer none),.i 0,.sl [] .full,.sl [] .full,.sl [] .full,.sl [] .full,.s [],.b false,.i 0,.sl [] .full,.sl [] .full,.sl [] .full,.sl [] .full,.i 0,.sl [] .full,.v (.int .u64 0)],none⟩,
 ⟨.strct [(0,83),(1,98),(14,100),(15,27)],16,280,.agg [.v (.pointer none),.i 0,.sl [] .full,.sl [] .full,.sl [] .full,.sl [] .full,.s [],.b false,.i 0,.sl [] .full,.sl [] .full,.sl [] .full,.sl [] .full,.i 0,.sl [] .full,.v (.int .u64 0)],none⟩,
 ⟨.strct [(0,25),(12,3),(13,65),(14,4),(15,94)],16,208,.agg [.i 0,.s [],.s [],.s [],.s [],.i 0,.i 0,.s [],.i 0,.s [],.s [],.b false,.i 0,.v (.complex .f64 0 0),.b false,.sl [] .full],none⟩,
 ⟨.strct [(0,25),(12,3),(13,65),(14,4),(15,94)],16,208,.agg [.i 0,.s [],.s [],.s [],.s [],.i 0,.i 0,.s [],.i 0,.s [],.s [],.b false,.i 0,.v (.complex .f64 0 0),.b false,.sl [] .full],none⟩,
 ⟨.other,0,0,default,none⟩,
 acI,
 acI,
 acI,
 ⟨.other,0,0,default,none⟩,
 acI,
 ⟨.other,0,0,default,none⟩,
 acI,
 acI,
 acI,
 ⟨.strct [(0,58),(1,69),(2,4)],3,40,.agg [.v (.pointer none),.sl [] .full,.b false],none⟩,
 ⟨.strct [(0,58),(1,69),(2,4)],3,40,.agg [.v (.pointer none),.sl [] .full,.b false],none⟩,
 ⟨.other,0,0,default,none⟩,
 acI,
 ⟨.strct [(0,65),(1,94)],2,40,.agg [.v (.complex .f64 0 0),.sl [] .full],none⟩,
 ⟨.strct [(0,65),(1,94)],2,40,.agg [.v (.complex .f64 0 0),.sl [] .full],none⟩,
 acI,
 ⟨.other,0,0,default,none⟩,
 acI,
 ⟨.slice 164,1,24,.sl [] .full,none⟩,
 acI,
 acI,
 acI,
 acI,
 ⟨.ptr 98,1,8,.v (.pointer none),none⟩,
 acI,
 acI,
 ⟨.slice 189,1,24,.sl [] .full,none⟩,
 ⟨.slice 177,1,24,.sl [] .full,none⟩,
 ⟨.strct [(0,9),(1,9),(2,9),(3,132),(4,133)],5,96,.agg [.s [],.s [],.s [],.sl [] .full,.sl [] .full],none⟩,
 ⟨.strct [(0,9),(1,9),(2,9),(3,132),(4,133)],5,96,.agg [.s [],.s [],.s [],.sl [] .full,.sl [] .full],none⟩,
 ⟨.other,0,0,default,none⟩,
 acI,
 acI,
 acI,
 acI,
 ⟨.other,0,0,default,none⟩,
 acI,
 ⟨.slice 151,1,24,.sl [] .full,none⟩,
 ⟨.other,0,0,default,none⟩,
 acI,
 ⟨.ptr 148,1,8,.v (.pointer none),none⟩,
 ⟨.strct [(0,143),(1,3),(2,3),(3,46),(4,3)],5,56,.agg [.sl [] .full,.i 0,.i 0,.i 0,.i 0],none⟩,
 ⟨.strct [(0,143),(1,3),(2,3),(3,46),(4,3)],5,56,.agg [.sl [] .full,.i 0,.i 0,.i 0,.i 0],none⟩,
 acI,
 ⟨.strct [(0,3),(1,3),(2,3),(3,9)],4,40,.agg [.i 0,.i 0,.i 0,.s []],some (1,[.int .i64,.int .i64,.int .i64,.str])⟩,
 ⟨.strct [(0,3),(1,3),(2,3),(3,9)],4,40,.agg [.i 0,.i 0,.i 0,.s []],some (1,[.int .i64,.int .i64,.int .i64,.str])⟩,
 acI,
 acI,
 acI,
 ⟨.other,0,0,default,none⟩,
 acI,
 acI,
 acI,
 ⟨.slice 23,1,24,.sl [] .full,none⟩,
 ⟨.strct [(0,9),(1,9)],2,32,.agg [.s [],.s []],some (1,[.str,.str])⟩,
 ⟨.strct [(0,9),(1,9)],2,32,.agg [.s [],.s []],some (1,[.str,.str])⟩,
 acI,
 ⟨.strct [(0,3),(1,9),(2,159)],3,48,.agg [.i 0,.s [],.sl [] .full],none⟩,
 ⟨.strct [(0,3),(1,9),(2,159)],3,48,.agg [.i 0,.s [],.sl [] .full],none⟩,
 acI,
 acI,
 acI,
 acI,
 ⟨.strct [(0,3),(1,3),(2,9),(3,9),(4,9),(5,9),(6,4)],7,88,.agg [.i 0,.i 0,.s [],.s [],.s [],.s [],.b false],some (1,[.int .i64,.int .i64,.str,.str,.str,.str,.bool])⟩,
 ⟨.strct [(0,3),(1,3),(2,9),(3,9),(4,9),(5,9),(6,4)],7,88,.agg [.i 0,.i 0,.s [],.s [],.s [],.s [],.b false],some (1,[.int .i64,.int .i64,.str,.str,.str,.str,.bool])⟩,
 acI,
 ⟨.strct [(0,3),(1,9),(2,9)],3,40,.agg [.i 0,.s [],.s []],some (1,[.int .i64,.str,.str])⟩,
 ⟨.strct [(0,3),(1,9),(2,9)],3,40,.agg [.i 0,.s [],.s []],some (1,[.int .i64,.str,.str])⟩,
 acI,
 acI,
 ⟨.strct [(0,3),(1,9),(2,9)],3,40,.agg [.i 0,.s [],.s []],some (1,[.int .i64,.str,.str])⟩,
 ⟨.strct [(0,3),(1,9),(2,9)],3,40,.agg [.i 0,.s [],.s []],some (1,[.int .i64,.str,.str])⟩,
 acI,
 ⟨.ptr 135,1,8,.v (.pointer none),none⟩,
 acI,
 acI,
 acI,
 ⟨.strct [(0,3),(1,3),(2,9)],3,32,.agg [.i 0,.i 0,.s []],some (1,[.int .i64,.int .i64,.str])⟩,
 ⟨.strct [(0,3),(1,3),(2,9)],3,32,.agg [.i 0,.i 0,.s []],some (1,[.int .i64,.int .i64,.str])⟩,
 acI,
 acI,
 acI,
 ⟨.strct [(0,9),(1,23)],4,48,.agg [.s [],.i 0,.i 0,.s []],some (2,[.str,.int .i64,.int .i64,.str])⟩,
 ⟨.strct [(0,9),(1,23)],4,48,.agg [.s [],.i 0,.i 0,.s []],some (2,[.str,.int .i64,.int .i64,.str])⟩,
 acI,
 acI,
 acI,
 acI,
 acI,
 ⟨.int .u32,1,4,.v (.int .u32 0),some (0,[.int .u32])⟩,
 acI,
 ⟨.other,0,0,default,none⟩,
 acI,
 acI,
 acI,
 acI,
 acI,
 acI,
 acI,
 acI,
 ⟨.ptr 209,1,8,.v (.pointer none),none⟩,
 ⟨.map 9 297,1,8,.v (.map none),none⟩,
 ⟨.strct [(0,207),(1,3)],2,16,.agg [.v (.map none),.i 0],none⟩,
 ⟨.strct [(0,207),(1,3)],2,16,.agg [.v (.map none),.i 0],none⟩,
 acI,
 acI,
 acI,
 acI,
 ⟨.slice 3,1,24,.sl [] .full,none⟩,
 acI,
 acI,
 acI,
 acI,
 acI,
 acI,
 acI,
 acI,
 acI,
 acI,
 acI,
 acI,
 acI,
 ⟨.other,0,0,default,none⟩,
 acI,
 acI,
 acI,
 ⟨.slice 271,1,24,.sl [] .full,none⟩,
 acI,
 acI,
 ⟨.slice 261,1,24,.sl [] .full,none⟩,
 ⟨.strct [(0,9),(1,4),(2,91),(3,235),(4,94)],5,96,.agg [.s [],.b false,.sl [] .full,.sl [] .full,.sl [] .full],none⟩,
 ⟨.strct [(0,9),(1,4),(2,91),(3,235),(4,94)],5,96,.agg [.s [],.b false,.sl [] .full,.sl [] .full,.sl [] .full],none⟩,
 acI,
 acI,
 acI,
 acI,
 ⟨.slice 120,1,24,.sl [] .full,none⟩,
 acI,
 acI,
 ⟨.strct [(0,3),(1,9),(2,4)],3,32,.agg [.i 0,.s [],.b false],some (1,[.int .i64,.str,.bool])⟩,
 ⟨.strct [(0,3),(1,9),(2,4)],3,32,.agg [.i 0,.s [],.b false],some (1,[.int .i64,.str,.bool])⟩,
 ⟨.strct [(0,246),(3,3),(4,23)],7,72,.agg [.i 0,.s [],.b false,.i 0,.i 0,.i 0,.s []],some (2,[.int .i64,.str,.bool,.int .i64,.int .i64,.int .i64,.str])⟩,
 ⟨.strct [(0,246),(3,3),(4,23)],7,72,.agg [.i 0,.s [],.b false,.i 0,.i 0,.i 0,.s []],some (2,[.int .i64,.str,.bool,.int .i64,.int .i64,.int .i64,.str])⟩,
 ⟨.other,0,0,default,none⟩,
 acI,
 acI,
 acI,
 acI,
 acI,
 acI,
 acI,
 acI,
 acI,
 acI,
 ⟨.strct [(0,3),(1,23),(4,246)],7,72,.agg [.i 0,.i 0,.i 0,.s [],.i 0,.s [],.b false],some (2,[.int .i64,.int .i64,.int .i64,.str,.int .i64,.str,.bool])⟩,
 ⟨.strct [(0,3),(1,23),(4,246)],7,72,.agg [.i 0,.i 0,.i 0,.s [],.i 0,.s [],.b false],some (2,[.int .i64,.int .i64,.int .i64,.str,.int .i64,.str,.bool])⟩,
 acI,
 acI,
 acI,
 ⟨.iface,1,16,.v .nilIface,none⟩,
 ⟨.iface,1,16,.v .nilIface,none⟩,
 ⟨.other,0,0,default,none⟩,
 acI,
 ⟨.other,0,0,default,none⟩,
 acI,
 ⟨.slice 248,1,24,.sl [] .full,none⟩,
 acI,
 acI,
 acI,
 acI,
 acI,
 acI,
 acI,
 acI,
 ⟨.slice 65,1,24,.sl [] .full,none⟩,
 ⟨.other,0,0,default,none⟩,
 acI,
 acI,
 acI,
 ⟨.other,0,0,default,none⟩,
 acI,
 ⟨.other,0,0,default,none⟩,
 acI,
 acI,
 acI,
 acI,
 acI,
 acI,
 acI,
 ⟨.other,0,0,default,none⟩,
 acI,
 ⟨.strct [],0,0,default,none⟩,
 ⟨.other,0,0,default,none⟩,
 acI,
 ⟨.slice 4,1,24,.sl [] .full,none⟩,
 ⟨.other,0,0,default,none⟩,
 acI,
 ⟨.other,0,0,default,none⟩,
 acI,
 ⟨.strct [(0,159),(1,23),(4,46)],5,64,.agg [.sl [] .full,.i 0,.i 0,.s [],.i 0],none⟩,
 ⟨.strct [(0,159),(1,23),(4,46)],5,64,.agg [.sl [] .full,.i 0,.i 0,.s [],.i 0],none⟩,
 acI,
 acI,
 acI,
 acI,
 acI,
 acI,
 acI,
 acI,
 ⟨.int .i64,1,8,.i 0,some (0,[.int .i64])⟩,
 ⟨.other,0,0,default,none⟩,
 acI,
 ⟨.ptr 343,1,8,.v (.pointer none),none⟩,
 acI,
 acI,
 acI,
 acI,
 ⟨.other,0,0,default,none⟩,
 acI,
 acI,
 acI,
 acI,
 ⟨.slice 306,1,24,.sl [] .full,none⟩,
 acI,
 acI,
 ⟨.other,0,0,default,none⟩,
 ⟨.other,0,0,default,none⟩,
 acI,
 acI,
 acI,
 acI,
 acI,
 acI,
 acI,
 ⟨.other,0,0,default,none⟩,
 acI,
 ⟨.strct [(0,9),(1,9),(2,266)],3,48,.agg [.s [],.s [],.v .nilIface],none⟩,
 ⟨.strct [(0,9),(1,9),(2,266)],3,48,.agg [.s [],.s [],.v .nilIface],none⟩,
 acI,
 acI,
 acI,
 acI,
 acI,
 acI,
 acI,
 acI,
 acI,
 ⟨.ptr 5,1,8,.v (.pointer none),none⟩,
 ⟨.ptr 356,1,8,.v (.pointer none),none⟩,
 ⟨.strct [(0,9)],1,16,.agg [.s []],some (1,[.str])⟩,
 ⟨.strct [(0,9)],1,16,.agg [.s []],some (1,[.str])⟩,
 acI,
 acI,
 acI,
 acI,
 acI,
 ⟨.other,0,0,default,none⟩,
 ⟨.arr 24 5,24,24,.agg [.v (.int .u8 0),.v (.int .u8 0),.v (.int .u8 0),.v (.int .u8 0),.v (.int .u8 0),.v (.int .u8 0),.v (.int .u8 0),.v (.int .u8 0),.v (.int .u8 0),.v (.int .u8 0),.v (.int .u8 0),.v (.int .u8 0),.v (.int .u8 0),.v (.int .u8 0),.v (.int .u8 0),.v (.int .u8 0),.v (.int .u8 0),.v (.int .u8 0),.v (.int .u8 0),.v (.int .u8 0),.v (.int .u8 0),.v (.int .u8 0),.v (.int .u8 0),.v (.int .u8 0)],some (1,[.int .u8,.int .u8,.int .u8,.int .u8,.int .u8,.int .u8,.int .u8,.int .u8,.int .u8,.int .u8,.int .u8,.int .u8,.int .u8,.int .u8,.int .u8,.int .u8,.int .u8,.int .u8,.int .u8,.int .u8,.int .u8,.int .u8,.int .u8,.int .u8])⟩,
 acI,
 acI,
 ⟨.other,0,0,default,none⟩,
 acI,
 acI,
 ⟨.arr 20 27,20,160,.agg [.v (.int .u64 0),.v (.int .u64 0),.v (.int .u64 0),.v (.int .u64 0),.v (.int .u64 0),.v (.int .u64 0),.v (.int .u64 0),.v (.int .u64 0),.v (.int .u64 0),.v (.int .u64 0),.v (.int .u64 0),.v (.int .u64 0),.v (.int .u64 0),.v (.int .u64 0),.v (.int .u64 0),.v (.int .u64 0),.v (.int .u64 0),.v (.int .u64 0),.v (.int .u64 0),.v (.int .u64 0)],some (1,[.int .u64,.int .u64,.int .u64,.int .u64,.int .u64,.int .u64,.int .u64,.int .u64,.int .u64,.int .u64,.int .u64,.int .u64,.int .u64,.int .u64,.int .u64,.int .u64,.int .u64,.int .u64,.int .u64,.int .u64])⟩,
 ⟨.arr 65 5,65,65,.agg [.v (.int .u8 0),.v (.int .u8 0),.v (.int .u8 0),.v (.int .u8 0),.v (.int .u8 0),.v (.int .u8 0),.v (.int .u8 0),.v (.int .u8 0),.v (.int .u8 0),.v (.int .u8 0),.v (.int .u8 0),.v (.int .u8 0),.v (.int .u8 0),.v (.int .u8 0),.v (.int .u8 0),.v (.int .u8 0),.v (.int .u8 0),.v (.int .u8 0),.v (.int .u8 0),.v (.int .u8 0),.v (.int .u8 0),.v (.int .u8 0),.v (.int .u8 0),.v (.int .u8 0),.v (.int .u8 0),.v (.int .u8 0),.v (.int .u8 0),.v (.int .u8 0),.v (.int .u8 0),.v (.int .u8 0),.v (.int .u8 0),.v (.int .u8 0),.v (.int .u8 0),.v (.int .u8 0),.v (.int .u8 0),.v (.int .u8 0),.v (.int .u8 0),.v (.int .u8 0),.v (.int .u8 0),.v (.int .u8 0),.v (.int .u8 0),.v (.int .u8 0),.v (.int .u8 0),.v (.int .u8 0),.v (.int .u8 0),.v (.int .u8 0),.v (.int .u8 0),.v (.int .u8 0),.v (.int .u8 0),.v (.int .u8 0),.v (.int .u8 0),.v (.int .u8 0),.v (.int .u8 0),.v (.int .u8 0),.v (.int .u8 0),.v (.int .u8 0),.v (.int .u8 0),.v (.int .u8 0),.v (.int .u8 0),.v (.int .u8 0),.v (.int .u8 0),.v (.int .u8 0),.v (.int .u8 0),.v (.int .u8 0),.v (.int .u8 0)],none⟩,
 acI,
 acI,
 ⟨.arr 32 5,32,32,.agg [.v (.int .u8 0),.v (.int .u8 0),.v (.int .u8 0),.v (.int .u8 0),.v (.int .u8 0),.v (.int .u8 0),.v (.int .u8 0),.v (.int .u8 0),.v (.int .u8 0),.v (.int .u8 0),.v (.int .u8 0),.v (.int .u8 0),.v (.int .u8 0),.v (.int .u8 0),.v (.int .u8 0),.v (.int .u8 0),.v (.int .u8 0),.v (.int .u8 0),.v (.int .u8 0),.v (.int .u8 0),.v (.int .u8 0),.v (.int .u8 0),.v (.int .u8 0),.v (.int .u8 0),.v (.int .u8 0),.v (.int .u8 0),.v (.int .u8 0),.v (.int .u8 0),.v (.int .u8 0),.v (.int .u8 0),.v (.int .u8 0),.v (.int .u8 0)],some (1,[.int .u8,.int .u8,.int .u8,.int .u8,.int .u8,.int .u8,.int .u8,.int .u8,.int .u8,.int .u8,.int .u8,.int .u8,.int .u8,.int .u8,.int .u8,.int .u8,.int .u8,.int .u8,.int .u8,.int .u8,.int .u8,.int .u8,.int .u8,.int .u8,.int .u8,.int .u8,.int .u8,.int .u8,.int .u8,.int .u8,.int .u8,.int .u8])⟩,
 ⟨.arr 64 5,64,64,.agg [.v (.int .u8 0),.v (.int .u8 0),.v (.int .u8 0),.v (.int .u8 0),.v (.int .u8 0),.v (.int .u8 0),.v (.int .u8 0),.v (.int .u8 0),.v (.int .u8 0),.v (.int .u8 0),.v (.int .u8 0),.v (.int .u8 0),.v (.int .u8 0),.v (.int .u8 0),.v (.int .u8 0),.v (.int .u8 0),.v (.int .u8 0),.v (.int .u8 0),.v (.int .u8 0),.v (.int .u8 0),.v (.int .u8 0),.v (.int .u8 0),.v (.int .u8 0),.v (.int .u8 0),.v (.int .u8 0),.v (.int .u8 0),.v (.int .u8 0),.v (.int .u8 0),.v (.int .u8 0),.v (.int .u8 0),.v (.int .u8 0),.v (.int .u8 0),.v (.int .u8 0),.v (.int .u8 0),.v (.int .u8 0),.v (.int .u8 0),.v (.int .u8 0),.v (.int .u8 0),.v (.int .u8 0),.v (.int .u8 0),.v (.int .u8 0),.v (.int .u8 0),.v (.int .u8 0),.v (.int .u8 0),.v (.int .u8 0),.v (.int .u8 0),.v (.int .u8 0),.v (.int .u8 0),.v (.int .u8 0),.v (.int .u8 0),.v (.int .u8 0),.v (.int .u8 0),.v (.int .u8 0),.v (.int .u8 0),.v (.int .u8 0),.v (.int .u8 0),.v (.int .u8 0),.v (.int .u8 0),.v (.int .u8 0),.v (.int .u8 0),.v (.int .u8 0),.v (.int .u8 0),.v (.int .u8 0),.v (.int .u8 0)],none⟩,
 ⟨.strct [(0,17),(1,17),(2,17),(3,9)],4,40,.agg [.v (.pointer none),.v (.pointer none),.v (.pointer none),.s []],none⟩,
 ⟨.strct [(0,17),(1,17),(2,17),(3,9)],4,40,.agg [.v (.pointer none),.v (.pointer none),.v (.pointer none),.s []],none⟩,
 ⟨.arr 0 16,0,0,default,none⟩,
 ⟨.other,0,0,default,none⟩,
 ⟨.other,0,0,default,none⟩,
 ⟨.int .u8,1,1,.v (.int .u8 0),some (0,[.int .u8])⟩,
 ⟨.int .u8,1,1,.v (.int .u8 0),some (0,[.int .u8])⟩,
 acI,
 ⟨.int .i32,1,4,.v (.int .i32 0),some (0,[.int .i32])⟩,
 ⟨.int .i32,1,4,.v (.int .i32 0),some (0,[.int .i32])⟩,
 ⟨.strct [(0,12),(1,12),(2,195),(3,380),(4,5),(5,5),(6,381),(7,382),(8,353),(9,383),(10,384)],11,48,.agg [.v (.int .u64 0),.v (.int .u64 0),.v (.int .u32 0),.v (.int .u8 0),.v (.int .u8 0),.v (.int .u8 0),.v (.int .u8 0),.v .nilFunc,.v (.pointer none),.v (.int .i32 0),.v (.int .i32 0)],none⟩,
 ⟨.strct [(0,12),(1,12),(2,195),(3,380),(4,5),(5,5),(6,381),(7,382),(8,353),(9,383),(10,384)],11,48,.agg [.v (.int .u64 0),.v (.int .u64 0),.v (.int .u32 0),.v (.int .u8 0),.v (.int .u8 0),.v (.int .u8 0),.v (.int .u8 0),.v .nilFunc,.v (.pointer none),.v (.int .i32 0),.v (.int .i32 0)],none⟩,
 ⟨.other,1,8,.v (.pointer none),none⟩]
def U(t:TypeId):TI:=Mz.getD t ⟨.other,0,0,default,none⟩
theorem U3k:(U 3).k= .int .i64∧(U 3).sz=1∧(U 3).bytes=8∧(U 3).zero= .i 0:=⟨rfl,rfl,rfl,rfl⟩
theorem U4k:(U 4).k= .bool∧(U 4).sz=1∧(U 4).bytes=1∧(U 4).zero= .b false:=⟨rfl,rfl,rfl,rfl⟩
theorem U5k:(U 5).k= .int .u8∧(U 5).sz=1∧(U 5).bytes=1∧(U 5).zero= .v (.int .u8 0):=⟨rfl,rfl,rfl,rfl⟩
theorem U9k:(U 9).k= .str∧(U 9).sz=1∧(U 9).bytes=16∧(U 9).zero= .s []:=⟨rfl,rfl,rfl,rfl⟩
theorem aaI:(U 23).k= .strct [(0,3),(1,3),(2,9)]∧(U 23).sz=3∧(U 23).bytes=32∧(U 23).zero= .agg [.i 0,.i 0,.s []]∧(U 23).eq=some (1,[.int .i64,.int .i64,.str]):=⟨rfl,rfl,rfl,rfl,rfl⟩
theorem aaN:(U 25).k= .strct [(0,3),(1,9),(2,9),(3,9),(4,9),(5,23),(8,3),(9,9),(10,9),(11,4)]∧(U 25).sz=12∧(U 25).bytes=152∧(U 25).zero= .agg [.i 0,.s [],.s [],.s [],.s [],.i 0,.i 0,.s [],.i 0,.s [],.s [],.b false]∧(U 25).eq=some (2,[.int .i64,.str,.str,.str,.str,.int .i64,.int .i64,.str,.int .i64,.str,.str,.bool]):=⟨rfl,rfl,rfl,rfl,rfl⟩
theorem aaR:(U 26).k= .slice 5∧(U 26).sz=1∧(U 26).bytes=24∧(U 26).zero= .sl [] .full:=⟨rfl,rfl,rfl,rfl⟩
theorem aaV:(U 27).k= .int .u64∧(U 27).sz=1∧(U 27).bytes=8∧(U 27).zero= .v (.int .u64 0):=⟨rfl,rfl,rfl,rfl⟩
theorem aaZ:(U 46).k= .int .i64∧(U 46).sz=1∧(U 46).bytes=8∧(U 46).zero= .i 0:=⟨rfl,rfl,rfl,rfl⟩
theorem aa3:(U 50).k= .strct [(0,26),(1,3),(2,3)]∧(U 50).sz=3∧(U 50).bytes=40∧(U 50).zero= .agg [.sl [] .full,.i 0,.i 0]:=⟨rfl,rfl,rfl,rfl⟩
theorem aa7:(U 53).k= .slice 9∧(U 53).sz=1∧(U 53).bytes=24∧(U 53).zero= .sl [] .full:=⟨rfl,rfl,rfl,rfl⟩
theorem abb:(U 58).k= .ptr 82∧(U 58).sz=1∧(U 58).bytes=8∧(U 58).zero= .v (.pointer none):=⟨rfl,rfl,rfl,rfl⟩
theorem abf:(U 61).k= .ptr 102∧(U 61).sz=1∧(U 61).bytes=8∧(U 61).zero= .v (.pointer none):=⟨rfl,rfl,rfl,rfl⟩
theorem abj:(U 65).k= .cplx .f64∧(U 65).sz=1∧(U 65).bytes=16∧(U 65).zero= .v (.complex .f64 0 0):=⟨rfl,rfl,rfl,rfl⟩
theorem abo:(U 67).k= .strct [(0,46),(1,65),(2,4),(3,23),(6,4),(7,3)]∧(U 67).sz=8∧(U 67).bytes=80∧(U 67).zero= .agg [.i 0,.v (.complex .f64 0 0),.b false,.i 0,.i 0,.s [],.b false,.i 0]∧(U 67).eq=some (2,[.int .i64,.cplx .f64,.bool,.int .i64,.int .i64,.str,.bool,.int .i64]):=⟨rfl,rfl,rfl,rfl,rfl⟩
theorem abt:(U 69).k= .slice 26∧(U 69).sz=1∧(U 69).bytes=24∧(U 69).zero= .sl [] .full:=⟨rfl,rfl,rfl,rfl⟩
theorem abx:(U 73).k= .int .u64∧(U 73).sz=1∧(U 73).bytes=8∧(U 73).zero= .v (.int .u64 0):=⟨rfl,rfl,rfl,rfl⟩
theorem abB:(U 76).k= .strct [(0,26),(1,3),(2,4)]∧(U 76).sz=3∧(U 76).bytes=40∧(U 76).zero= .agg [.sl [] .full,.i 0,.b false]:=⟨rfl,rfl,rfl,rfl⟩
theorem abF:(U 82).k= .strct [(0,3),(1,26),(2,3),(3,3),(4,4)]∧(U 82).sz=5∧(U 82).bytes=56∧(U 82).zero= .agg [.i 0,.sl [] .full,.i 0,.i 0,.b false]:=⟨rfl,rfl,rfl,rfl⟩
theorem abJ:(U 83).k= .ptr 116∧(U 83).sz=1∧(U 83).bytes=8∧(U 83).zero= .v (.pointer none):=⟨rfl,rfl,rfl,rfl⟩
theorem abN:(U 86).k= .slice 135∧(U 86).sz=1∧(U 86).bytes=24∧(U 86).zero= .sl [] .full:=⟨rfl,rfl,rfl,rfl⟩
theorem abR:(U 87).k= .slice 170∧(U 87).sz=1∧(U 87).bytes=24∧(U 87).zero= .sl [] .full:=⟨rfl,rfl,rfl,rfl⟩
theorem abV:(U 88).k= .slice 173∧(U 88).sz=1∧(U 88).bytes=24∧(U 88).zero= .sl [] .full:=⟨rfl,rfl,rfl,rfl⟩
theorem abZ:(U 89).k= .slice 161∧(U 89).sz=1∧(U 89).bytes=24∧(U 89).zero= .sl [] .full:=⟨rfl,rfl,rfl,rfl⟩
theorem ab3:(U 91).k= .slice 232∧(U 91).sz=1∧(U 91).bytes=24∧(U 91).zero= .sl [] .full:=⟨rfl,rfl,rfl,rfl⟩
theorem ab7:(U 92).k= .slice 237∧(U 92).sz=1∧(U 92).bytes=24∧(U 92).zero= .sl [] .full:=⟨rfl,rfl,rfl,rfl⟩
theorem ace:(U 93).k= .slice 96∧(U 93).sz=1∧(U 93).bytes=24∧(U 93).zero= .sl [] .full:=⟨rfl,rfl,rfl,rfl⟩
theorem aci:(U 94).k= .slice 184∧(U 94).sz=1∧(U 94).bytes=24∧(U 94).zero= .sl [] .full:=⟨rfl,rfl,rfl,rfl⟩
theorem acn:(U 96).k= .strct [(0,9),(1,4),(2,3),(3,91),(4,92),(5,93),(6,94)]∧(U 96).sz=7∧(U 96).bytes=128∧(U 96).zero= .agg [.s [],.b false,.i 0,.sl [] .full,.sl [] .full,.sl [] .full,.sl [] .full]:=⟨rfl,rfl,rfl,rfl⟩
theorem acr:(U 98).k= .strct [(0,3),(1,86),(2,87),(3,88),(4,89),(5,96),(12,3)]∧(U 98).sz=13∧(U 98).bytes=240∧(U 98).zero= .agg [.i 0,.sl [] .full,.sl [] .full,.sl [] .full,.sl [] .full,.s [],.b false,.i 0,.sl [] .full,.sl [] .full,.sl [] .full,.sl [] .full,.i 0]:=⟨rfl,rfl,rfl,rfl⟩
theorem XH:(U 100).k= .slice 104∧(U 100).sz=1∧(U 100).bytes=24∧(U 100).zero= .sl [] .full:=⟨rfl,rfl,rfl,rfl⟩
theorem XL:(U 102).k= .strct [(0,83),(1,98),(14,100),(15,27)]∧(U 102).sz=16∧(U 102).bytes=280∧(U 102).zero= .agg [.v (.pointer none),.i 0,.sl [] .full,.sl [] .full,.sl [] .full,.sl [] .full,.s [],.b false,.i 0,.sl [] .full,.sl [] .full,.sl [] .full,.sl [] .full,.i 0,.sl [] .full,.v (.int .u64 0)]:=⟨rfl,rfl,rfl,rfl⟩
theorem XP:(U 104).k= .strct [(0,25),(12,3),(13,65),(14,4),(15,94)]∧(U 104).sz=16∧(U 104).bytes=208∧(U 104).zero= .agg [.i 0,.s [],.s [],.s [],.s [],.i 0,.i 0,.s [],.i 0,.s [],.s [],.b false,.i 0,.v (.complex .f64 0 0),.b false,.sl [] .full]:=⟨rfl,rfl,rfl,rfl⟩
theorem XU:(U 116).k= .strct [(0,58),(1,69),(2,4)]∧(U 116).sz=3∧(U 116).bytes=40∧(U 116).zero= .agg [.v (.pointer none),.sl [] .full,.b false]:=⟨rfl,rfl,rfl,rfl⟩
theorem XY:(U 120).k= .strct [(0,65),(1,94)]∧(U 120).sz=2∧(U 120).bytes=40∧(U 120).zero= .agg [.v (.complex .f64 0 0),.sl [] .full]:=⟨rfl,rfl,rfl,rfl⟩
theorem X2:(U 124).k= .slice 164∧(U 124).sz=1∧(U 124).bytes=24∧(U 124).zero= .sl [] .full:=⟨rfl,rfl,rfl,rfl⟩
theorem X6:(U 132).k= .slice 189∧(U 132).sz=1∧(U 132).bytes=24∧(U 132).zero= .sl [] .full:=⟨rfl,rfl,rfl,rfl⟩
theorem Ya:(U 133).k= .slice 177∧(U 133).sz=1∧(U 133).bytes=24∧(U 133).zero= .sl [] .full:=⟨rfl,rfl,rfl,rfl⟩
theorem Ye:(U 135).k= .strct [(0,9),(1,9),(2,9),(3,132),(4,133)]∧(U 135).sz=5∧(U 135).bytes=96∧(U 135).zero= .agg [.s [],.s [],.s [],.sl [] .full,.sl [] .full]:=⟨rfl,rfl,rfl,rfl⟩
theorem Yi:(U 143).k= .slice 151∧(U 143).sz=1∧(U 143).bytes=24∧(U 143).zero= .sl [] .full:=⟨rfl,rfl,rfl,rfl⟩
theorem Ym:(U 148).k= .strct [(0,143),(1,3),(2,3),(3,46),(4,3)]∧(U 148).sz=5∧(U 148).bytes=56∧(U 148).zero= .agg [.sl [] .full,.i 0,.i 0,.i 0,.i 0]:=⟨rfl,rfl,rfl,rfl⟩
theorem Yq:(U 151).k= .strct [(0,3),(1,3),(2,3),(3,9)]∧(U 151).sz=4∧(U 151).bytes=40∧(U 151).zero= .agg [.i 0,.i 0,.i 0,.s []]:=⟨rfl,rfl,rfl,rfl⟩
theorem Yu:(U 159).k= .slice 23∧(U 159).sz=1∧(U 159).bytes=24∧(U 159).zero= .sl [] .full:=⟨rfl,rfl,rfl,rfl⟩
theorem Yz:(U 161).k= .strct [(0,9),(1,9)]∧(U 161).sz=2∧(U 161).bytes=32∧(U 161).zero= .agg [.s [],.s []]∧(U 161).eq=some (1,[.str,.str]):=⟨rfl,rfl,rfl,rfl,rfl⟩
theorem YE:(U 164).k= .strct [(0,3),(1,9),(2,159)]∧(U 164).sz=3∧(U 164).bytes=48∧(U 164).zero= .agg [.i 0,.s [],.sl [] .full]:=⟨rfl,rfl,rfl,rfl⟩
theorem YI:(U 170).k= .strct [(0,3),(1,3),(2,9),(3,9),(4,9),(5,9),(6,4)]∧(U 170).sz=7∧(U 170).bytes=88∧(U 170).zero= .agg [.i 0,.i 0,.s [],.s [],.s [],.s [],.b false]:=⟨rfl,rfl,rfl,rfl⟩
theorem YM:(U 173).k= .strct [(0,3),(1,9),(2,9)]∧(U 173).sz=3∧(U 173).bytes=40∧(U 173).zero= .agg [.i 0,.s [],.s []]:=⟨rfl,rfl,rfl,rfl⟩
theorem YR:(U 177).k= .strct [(0,3),(1,9),(2,9)]∧(U 177).sz=3∧(U 177).bytes=40∧(U 177).zero= .agg [.i 0,.s [],.s []]:=⟨rfl,rfl,rfl,rfl⟩
theorem YV:(U 184).k= .strct [(0,3),(1,3),(2,9)]∧(U 184).sz=3∧(U 184).bytes=32∧(U 184).zero= .agg [.i 0,.i 0,.s []]:=⟨rfl,rfl,rfl,rfl⟩
theorem YZ:(U 189).k= .strct [(0,9),(1,23)]∧(U 189).sz=4∧(U 189).bytes=48∧(U 189).zero= .agg [.s [],.i 0,.i 0,.s []]:=⟨rfl,rfl,rfl,rfl⟩
theorem Y3:(U 195).k= .int .u32∧(U 195).sz=1∧(U 195).bytes=4∧(U 195).zero= .v (.int .u32 0):=⟨rfl,rfl,rfl,rfl⟩
theorem Y7:(U 207).k= .map 9 297∧(U 207).sz=1∧(U 207).bytes=8∧(U 207).zero= .v (.map none):=⟨rfl,rfl,rfl,rfl⟩
theorem Zb:(U 209).k= .strct [(0,207),(1,3)]∧(U 209).sz=2∧(U 209).bytes=16∧(U 209).zero= .agg [.v (.map none),.i 0]:=⟨rfl,rfl,rfl,rfl⟩
theorem Zf:(U 214).k= .slice 3∧(U 214).sz=1∧(U 214).bytes=24∧(U 214).zero= .sl [] .full:=⟨rfl,rfl,rfl,rfl⟩
theorem Zj:(U 232).k= .slice 271∧(U 232).sz=1∧(U 232).bytes=24∧(U 232).zero= .sl [] .full:=⟨rfl,rfl,rfl,rfl⟩
theorem Zn:(U 235).k= .slice 261∧(U 235).sz=1∧(U 235).bytes=24∧(U 235).zero= .sl [] .full:=⟨rfl,rfl,rfl,rfl⟩
theorem Zr:(U 237).k= .strct [(0,9),(1,4),(2,91),(3,235),(4,94)]∧(U 237).sz=5∧(U 237).bytes=96∧(U 237).zero= .agg [.s [],.b false,.sl [] .full,.sl [] .full,.sl [] .full]:=⟨rfl,rfl,rfl,rfl⟩
theorem Zv:(U 242).k= .slice 120∧(U 242).sz=1∧(U 242).bytes=24∧(U 242).zero= .sl [] .full:=⟨rfl,rfl,rfl,rfl⟩
theorem ZA:(U 246).k= .strct [(0,3),(1,9),(2,4)]∧(U 246).sz=3∧(U 246).bytes=32∧(U 246).zero= .agg [.i 0,.s [],.b false]∧(U 246).eq=some (1,[.int .i64,.str,.bool]):=⟨rfl,rfl,rfl,rfl,rfl⟩
theorem ZE:(U 248).k= .strct [(0,246),(3,3),(4,23)]∧(U 248).sz=7∧(U 248).bytes=72∧(U 248).zero= .agg [.i 0,.s [],.b false,.i 0,.i 0,.i 0,.s []]:=⟨rfl,rfl,rfl,rfl⟩
theorem ZI:(U 261).k= .strct [(0,3),(1,23),(4,246)]∧(U 261).sz=7∧(U 261).bytes=72∧(U 261).zero= .agg [.i 0,.i 0,.i 0,.s [],.i 0,.s [],.b false]:=⟨rfl,rfl,rfl,rfl⟩
theorem ZM:(U 271).k= .slice 248∧(U 271).sz=1∧(U 271).bytes=24∧(U 271).zero= .sl [] .full:=⟨rfl,rfl,rfl,rfl⟩
theorem ZQ:(U 280).k= .slice 65∧(U 280).sz=1∧(U 280).bytes=24∧(U 280).zero= .sl [] .full:=⟨rfl,rfl,rfl,rfl⟩
theorem ZT:(U 297).k= .strct []∧(U 297).sz=0:=⟨rfl,rfl⟩
theorem ZW:(U 300).k= .slice 4∧(U 300).sz=1∧(U 300).bytes=24∧(U 300).zero= .sl [] .full:=⟨rfl,rfl,rfl,rfl⟩
theorem Z0:(U 306).k= .strct [(0,159),(1,23),(4,46)]∧(U 306).sz=5∧(U 306).bytes=64∧(U 306).zero= .agg [.sl [] .full,.i 0,.i 0,.s [],.i 0]:=⟨rfl,rfl,rfl,rfl⟩
theorem Z6:(U 328).k= .slice 306∧(U 328).sz=1∧(U 328).bytes=24∧(U 328).zero= .sl [] .full:=⟨rfl,rfl,rfl,rfl⟩
theorem hU:∀t,aO Tryz.prog U t:=HP 388 acO fun t ht=>by
 unfold U;rw[List.getD_eq_getElem?_getD,List.getElem?_eq_none (show Mz.length≤t from ht)]
 rfl
theorem hm:Tryz.prog.follows .mixedOrders=true:=acO
attribute [go_sem] U3k U4k U5k U9k aaI aaN aaR aaV aaZ aa3 aa7 abb abf abj abo abt abx abB abF abJ abN abR abV abZ ab3 ab7 ace aci acn acr XH XL XP XU XY X2 X6 Ya Ye Yi Ym Yq Yu Yz YE YI YM YR YV YZ Y3 Y7 Zb Zf Zj Zn Zr Zv ZA ZE ZI ZM ZQ ZT ZW Z0 Z6
end Go.Proofs.YteaaeelhjnhaaaaGreatDoor
namespace Go.Proofs.YteaaeelhjnhaaaaGreatDoor
open Go Go.Ab Go.Bf Tryz
theorem acJ {f:FuncId} {fn:Func} {c:Code} {args:List AV} {h:Heap} {Q:AV→Heap→Prop} (hf:prog.funcs[f]? =some fn) (m:Nat) (rs:List ResultVar) (hk:(∀x∈args,wfA x)→bH prog U m c (xK args) h (vq U rs Q)) (hb:fn.body=some c:=by exact rfl) (hn:(fn.name=="runtime.NumGoroutine")=false:=by kernel_rfl) (h1:fn.ntmps=m:=by exact rfl) (h2:fn.results.toList=rs:=by exact rfl) (hl:args.length≤m:=by exact Nat.le_of_ble_eq_true rfl):ai prog f args h Q:=ai.body hU hm hf hb hn m h1 rs h2 hl hk
theorem o6(l)(h):ai prog 50 [.s l] h fun r h' =>r= .b (aK l)∧h' =h:=by
 refine acJ func50 49 [.tmp 2] fun hwf=>?_
 simp only[go_sem];refine .intro (fun m ρ h' =>h' =h∧∃i:Nat,i≤l.length∧m=l.length - i∧sQ (l.take i)=true∧lk ρ 0=some (.s l)∧lk ρ 8=some (.i l.length)∧lk ρ 9=some (.i i)) l.length ?_ ?_
 ·refine⟨rfl,0,acK,rfl,rfl,?_,?_,?_⟩<;>simp only[go_sem]
 ·rintro m ρ h' ⟨rfl,i,hi,rfl,hc,r0,r8,r9⟩
  simp only[go_sem,r8,r9];refine .intro (fun e=>?_) (fun e=>?_)
  ·have hlt:i<l.length:=acH e
   have w1:IntKind.i64.wrap ((i:Int)+1)=((i+1:Nat):Int):=aec;have w0:IntKind.i64.wrap (0+1)=1:=rfl;have hb:=Ai l i hlt;have hg:=xy l i hlt;rw[hc]at hg;have hcl:=Gq l[i];have h255:=l[i].toNat_lt;simp only[go_sem,r0,r9];refine .at i hlt ?_;generalize hcc:l[i]=c at hb hg hcl h255⊢
   by_cases hi0:i=0
   ·subst hi0
    rcases hcl with⟨a1,a2,a3,a4,a5⟩|⟨a1,a2,a3,a4,a5⟩|⟨a1,a2,a3,a4,a5⟩|⟨a1,a2,a3,a4,a5⟩|⟨a1,a2,a3,a4,a5⟩|⟨a1,a2,a3,a4,a5⟩
    ·simp only[go_sem,r9,a1,a2,a3,a4,a5,w0]
     refine⟨_,?_,rfl,0+1,acK,rfl,by simp[hg,pX,ltr,a1,a2],?_,?_,?_⟩
     ·omega
     all_goals simp only[go_sem,r0,r8]
    all_goals
     simp only[go_sem,a1,a2,a3,a4,a5];exact .same (.refl _) ⟨by simp[aK,hb (by simp[pX,ltr,a1,a2]),ax],rfl⟩
   ·have hin:((i:Int)==0)=false:=by simp;omega
    rcases hcl with⟨a1,a2,a3,a4,a5⟩|⟨a1,a2,a3,a4,a5⟩|⟨a1,a2,a3,a4,a5⟩|⟨a1,a2,a3,a4,a5⟩|⟨a1,a2,a3,a4,a5⟩|⟨a1,a2,a3,a4,a5⟩
    ·simp only[go_sem,r9,a1,a2,a3,a4,a5,w1]
     exact aht
    ·simp only[go_sem,r9,a1,a3,a4,w1,hin]
     exact aht
    ·simp only[go_sem,r9,a1,a3,a4,a5,w1,hin]
     exact aht
    ·simp only[go_sem,a1,a3,a5,hin]
     exact .same (.refl _) ⟨adO,rfl⟩
    ·simp only[go_sem,a1,a3,a4,a5,hin]
     exact .same (.refl _) ⟨adO,rfl⟩
    ·simp only[go_sem,a1,a2,a3,a4,a5,hin]
     exact .same (.refl _) ⟨adO,rfl⟩
  ·have hge:i=l.length:=by have:=acD e;omega
   subst hge;rw[List.take_length]at hc
   by_cases h0:l= []
   ·subst h0
    have b0:((([]:Txt)== [])=true):=rfl;simp only[go_sem,r0,b0];exact acW
   ·have b0:(l== [])=false:=by simpa using h0
    have hp:1≤l.length:=List.length_pos_iff.2 h0;simp only[go_sem,r0,b0];exact .same (.refl _) ⟨by simp[aK,hc,ax,hp];omega,rfl⟩
theorem Gm(a)(h):ai prog 260 [Cw a] h fun r h' =>r= .b (qj a)∧h' =h:=by
 refine acJ func260 16 [.tmp 2] fun hwf=>?_
 simp only[go_sem,Cw];intro id hid;cases d1:decide (1≤a.cat)
 ·simp only[go_sem,d1]
  exact ah6
 cases d2:decide (a.cat≤4)
 ·simp only[go_sem,d1,d2]
  exact ah6
 simp only[go_sem,d1,d2];refine(o6 _ _).pthen ?_;simp only[go_sem];exact ah6
theorem gx(v)(h):ai prog 49 [aP v] h fun r h' =>r= .b (aW v)∧h' =h:=by
 refine acJ func49 61 [.tmp 2] fun hwf=>?_
 simp only[go_sem,aP];intro id hid;cases k1:(v.kind==1)
 case true=>exact ahk
 have n1:v.kind≠1:=acL;cases k2:(v.kind==2)
 case true=>exact aia
 have n2:v.kind≠2:=acL;cases k3:(v.kind==3)
 case true=>exact ahH
 have n3:v.kind≠3:=acL;cases k4:(v.kind==4)
 case true=>exact ahz
 have n4:v.kind≠4:=acL;cases k5:(v.kind==5)
 case true=>
  have e1:v.kind=5:=acL;cases d1:(v.n==0)
  ·exact aie
  ·simp only[go_sem,k1,k2,k3,k4,k5,d1]
   refine(o6 _ _).pthen ?_;exact aiE
 exact ahX
theorem Lr(m)(h):ai prog 259 [dO m] h fun r h' =>r= .b (kQ m)∧h' =h:=by
 refine acJ func259 21 [.tmp 2] fun hwf=>?_
 simp only[go_sem,dO];intro id hid;simp only[go_sem];refine(Gm m.attr _).pthen ?_;cases d0:qj m.attr
 ·simp only[go_sem]
  exact ahI
 cases d1:decide (1≤m.op)
 ·simp only[go_sem,d1]
  exact ahI
 cases d2:decide (m.op≤3)
 ·simp only[go_sem,d1,d2]
  exact ahI
 simp only[go_sem,d1,d2];refine(gx m.val _).pthen ?_;simp only[go_sem];exact ahI
theorem GQ(n:Nat)(h:Heap):ai prog 238 [.i n] h fun r h' =>r= .i (j8 n)∧h' =h:=by
 refine acJ func238 9 [.tmp 2] fun hwf=>?_
 cases d1:((n:Int)==0)
 case true=>simp only[go_sem,d1];exact .same (.refl _) ⟨by grind [j8,ax],rfl⟩
 cases d2:decide (8<(n:Int))
 ·have e2:¬n>8:=by grind
  exact ais
 ·have e2:n>8:=by grind
  exact ais
theorem Dt{n:Nat}(h:j8 n=0):1≤n∧n≤8:=by grind [j8]
theorem Kb(l)(h:Heap):ai prog 239 [iR l] h fun r h' =>r= .i (wj l)∧h' =h:=by
 refine acJ func239 22 [.tmp 2] fun hwf=>?_
 simp only[go_sem,iR,acA];refine(GQ _ _).pthen ?_;cases d1:(j8 l.length !=0)
 case true=>have e1:j8 l.length≠0:=acL;simp only[go_sem,d1];exact .same (.refl _) ⟨by grind [wj,ax],rfl⟩
 have e1:j8 l.length=0:=acL;have hlen:=Dt e1;simp only[go_sem,d1,acA];refine .intro (fun m ρ h' =>Ab.Sub h h'∧∃i:Nat,i≤l.length∧m=l.length - i∧(l.take i).all kQ=true∧lk ρ 12=some (iR l)∧lk ρ 13=some (.i l.length)∧lk ρ 14=some (.i i)) l.length ?_ ?_
 ·refine⟨.refl _,0,acK,rfl,rfl,?_,?_,?_⟩<;>simp only[go_sem,iR]
 ·rintro m ρ h' ⟨hs,i,hi,rfl,hc,r12,r13,r14⟩
  simp only[go_sem,r13,r14];refine .intro (fun e=>?_) (fun e=>?_)
  ·have hlt:i<l.length:=acH e
   have w1:IntKind.i64.wrap ((i:Int)+1)=((i+1:Nat):Int):=acX;simp only[go_sem,r12,r14,iR];refine .at i acL acZ ?_;simp only[go_sem,acB,dO];intro id hid;simp only[go_sem];refine(Lr l[i] _).pthen ?_;cases d2:kQ l[i]
   ·simp only[go_sem]
    refine .mk _ (.refl _) (hs.new hid _) ⟨?_,rfl⟩;have:l.all kQ=false:=List.all_eq_false.2 ⟨_,acF hlt,acL⟩;simp[wj,e1,this,ax]
   ·simp only[go_sem,r14,w1]
    refine⟨_,?_,hs.new hid _,i+1,acK,rfl,?_,?_,?_,?_⟩
    ·omega
    ·grind [List.take_succ_eq_append_getElem]
    all_goals simp only[go_sem,r12,r13,iR]
  ·have hge:i=l.length:=by grind
   subst hge;rw[List.take_length]at hc;simp only[go_sem];exact .mk _ (.refl _) hs ⟨by grind [wj,ax],rfl⟩
theorem aB{h:Heap}{i j:Nat}{b}(e:upd h i (some b) j=none):h j=none:=by grind [ag,aH]
theorem MG{v:bt}(h:(v.kind==(0:Int) && (v.n==(0:Int) && v.s==([]:Txt)))=false):¬v.kind=0∨¬v.n=0∨¬v.s= []:=by grind
theorem MF{v:bt}(h:(v.kind==(0:Int) && (v.n==(0:Int) && v.s==([]:Txt)))=true):v.kind=0∧v.n=0∧v.s= []:=by grind
theorem Jc(k:Int)(h):ai prog 65 [.i k] h fun r h' =>r= .b (jW k)∧h' =h:=by
 refine acJ func65 9 [.tmp 2] fun hwf=>?_
 cases d1:decide (1≤k)
 ·simp only[go_sem,d1]
  exact .same (.refl _) ⟨by simp only[jW,d1,ax,Bool.false_and],rfl⟩
 ·simp only[go_sem,d1]
  exact .same (.refl _) ⟨by simp_all [jW,ax,Bool.true_and],rfl⟩
theorem xH(s)(h):ai prog 52 [.s s] h fun r h' =>r= .b (gM s)∧h' =h:=by
 refine acJ func52 9 [.tmp 2] fun hwf=>?_
 cases d1:(s==([]:Txt))
 ·simp only[go_sem,d1]
  refine(o6 s h).pthen ?_;simp only[go_sem];exact .same (.refl _) ⟨by simp_all [gM,ax,Bool.false_or],rfl⟩
 ·simp only[go_sem,d1]
  exact .same (.refl _) ⟨by simp_all [gM,ax,Bool.true_or],rfl⟩
theorem Fc(a b)(h):ai prog 138 [.s a,.s b] h fun r h' =>r= .b (mH a b)∧h' =h:=by
 refine acJ func138 22 [.tmp 4] fun hwf=>?_
 cases d1:(a==jB)<;>cases d2:(a==we)<;>cases d3:(a==Aq)<;>cases d4:(b==we)<;>simp only[jB,we,Aq]at d1 d2 d3 d4<;>simp only[go_sem,d1,d2,d3,d4]<;>
  exact .same (.refl _) ⟨by simp only[mH,d1,d2,d3,d4,ax,jB,we,Aq,gU,if_true,Bool.false_eq_true,if_false,Bool.true_or,Bool.false_or],rfl⟩
theorem Ae(k:Int)(hk:i64 k)(h):ai prog 103 [.i k] h fun r h' =>r= .s (jM k)∧h' =h:=by
 refine acJ func103 18 [.tmp 2] fun hwf=>?_
 simp only[go_sem];cases d1:decide (k<1)
 case true=>simp only[go_sem];exact .same (.refl _) ⟨by simp_all [jM,acC,true_or,if_true,ax],rfl⟩
 cases d2:decide ((7:Int)<k)
 case true=>simp only[go_sem,d2];exact .same (.refl _) ⟨by simp_all [jM,acC,or_true,if_true,ax],rfl⟩
 have h1:=acD d1;have h2:=acD d2;obtain⟨j,rfl⟩:∃j:Nat,k=(j:Int)+1:=⟨(k - 1).toNat,acK⟩;have hj:j<7:=acK;have w1:IntKind.i64.wrap ((j:Int)+1 - 1)=(j:Int):=acX;simp only[go_sem,d2,w1];refine .at j acK (by rcases j with _|_|_|_|_|_|_|j<;>first|rfl|omega) ?_
 rcases j with _|_|_|_|_|_|_|j
 all_goals first|omega|skip
 all_goals
  simp only[go_sem,List.getElem_cons_zero,List.getElem_cons_succ];exact .same (.refl _) ⟨acY,rfl⟩
theorem Jn(o)(h):ai prog 51 [opA o] h fun r h' =>r= .v (.bool (kU o))∧h' =h:=by
 refine acJ func51 23 [.tmp 2] fun hwf=>?_
 simp only[go_sem,opA,opC];intro id hid;cases d1:o.glass
 ·simp only[go_sem]
  exact ah7
 simp only[go_sem];refine(Jc _ _).pthen ?_;cases d2:jW o.kind
 ·simp only[go_sem]
  exact ah7
 cases d3:(o.reason==([]:Txt))
 ·simp only[go_sem,d3]
  exact .mk _ (.refl _) (.aj hid) ⟨by
   simp only[kU,d1,d2,d3,ax,if_true,Bool.not_false,Bool.true_and]
   congr 2
   grind,rfl⟩
 ·simp only[go_sem,d3]
  exact ah7
theorem Nk(o)(h):ai prog 66 [opA o] h fun r h' =>r=opA (fh o)∧h' =h:=by
 refine acJ func66 7 [.cell 2 25] fun hwf=>?_
 simp only[go_sem,opA,opC];intro i1 h1;simp only[go_sem];intro i2 h2;have hne:=aH h2;simp only[go_sem,ak,hne,hne.symm];have n2:=aB h2;exact .mk _ (.refl _) (((((Sub.refl h).put h1 _).put n2 _).put h1 _).put n2 _) ⟨rfl,rfl⟩
theorem Ms(o)(h:Heap):ai prog 53 [opA o] h fun r h' =>r= .b (dI o)∧h' =h:=by
 have hb:=fun hh=>Nk o hh
 simp only[fh,opA,opC]at hb;refine acJ func53 111 [.tmp 2] fun hwf=>?_
 simp only[go_sem,opA,opC];intro i1 h1;simp only[go_sem];refine(hb _).pthen ?_;simp only[go_sem];intro i3 h3;have n31:=aH h3;have n3:=aB h3;simp only[go_sem,ak,n31.symm];intro i4 h4;have n43:=aH h4;have h4' :=aB h4;have n41:=aH h4';have n4:=aB h4';have bnd:o.kind≠1→o.kind≠2→o.kind≠3→o.kind≠4→o.kind≠5→o.kind≠6→o.kind≠7→o.kind≠8→(decide (1≤o.kind) && decide (o.kind≤8))=false:=by intro a1 a2 a3 a4 a5 a6 a7 a8;simp only[Bool.and_eq_false_iff,decide_eq_false_iff_not];omega
 by_cases k1:o.kind=1
 ·simp only[go_sem,ak,n31.symm,n41.symm,k1]
  cases dcase:(o.case==([]:Txt))
  ·simp only[go_sem,ak,n43.symm]
   exact .mk _ (.refl _) acQ ⟨by simp[dI,okD,fI,fh,ic,an,ax,k1,decide_true,dcase,Bool.and_true,Bool.true_and,Bool.not_false],rfl⟩
  ·simp only[go_sem]
   exact .mk _ (.refl _) acQ ⟨by simp[dI,okD,fI,fh,ic,an,ax,k1,decide_true,dcase,Bool.and_true,Bool.true_and,Bool.false_and,Bool.and_false,Bool.not_true],rfl⟩
 by_cases k2:o.kind=2
 ·simp only[go_sem,ak,n31.symm,n41.symm,k2,Int.reduceBEq]
  refine .calls (hm1 i1 _) [0,1,2,3,4,5,6,7] (.hm1 aer) acO rfl ?_;simp only[go_sem,ak,n31.symm,n41.symm];refine⟨(.hm1 ac8),(.hm1 ac8),?_⟩;cases dcase:(o.case==([]:Txt))
  ·simp only[go_sem,ak,n31.symm,n41.symm]
   cases dfield:(o.field==([]:Txt))
   ·simp only[go_sem,ak,n43.symm]
    exact .mk _ (.refl _) acQ ⟨by simp[dI,okD,fI,fh,ic,an,ax,k2,decide_true,dcase,dfield,Bool.and_true,Bool.true_and,Bool.not_false],rfl⟩
   ·simp only[go_sem]
    exact .mk _ (.refl _) acQ ⟨by simp[dI,okD,fI,fh,ic,an,ax,k2,decide_true,dcase,dfield,Bool.and_true,Bool.true_and,Bool.false_and,Bool.and_false,Bool.not_true,Bool.not_false],rfl⟩
  ·simp only[go_sem]
   exact .mk _ (.refl _) acQ ⟨by simp[dI,okD,fI,fh,ic,an,ax,k2,decide_true,dcase,Bool.and_true,Bool.true_and,Bool.false_and,Bool.and_false,Bool.not_true],rfl⟩
 by_cases k6:o.kind=6
 ·simp only[go_sem,ak,n31.symm,n41.symm,k6,Int.reduceBEq]
  refine .calls (hm1 i1 _) [0,1,2,3,4,5,6,7] (.hm1 aer) acO rfl ?_;simp only[go_sem,ak,n31.symm,n41.symm];refine⟨(.hm1 ac8),(.hm1 ac8),?_⟩;cases dcase:(o.case==([]:Txt))
  ·simp only[go_sem,ak,n31.symm,n41.symm]
   cases dfield:(o.field==([]:Txt))
   ·simp only[go_sem,ak,n43.symm]
    exact .mk _ (.refl _) acQ ⟨by simp[dI,okD,fI,fh,ic,an,ax,k6,decide_true,dcase,dfield,Bool.and_true,Bool.true_and,Bool.not_false],rfl⟩
   ·simp only[go_sem]
    exact .mk _ (.refl _) acQ ⟨by simp[dI,okD,fI,fh,ic,an,ax,k6,decide_true,dcase,dfield,Bool.and_true,Bool.true_and,Bool.false_and,Bool.and_false,Bool.not_true,Bool.not_false],rfl⟩
  ·simp only[go_sem]
   exact .mk _ (.refl _) acQ ⟨by simp[dI,okD,fI,fh,ic,an,ax,k6,decide_true,dcase,Bool.and_true,Bool.true_and,Bool.false_and,Bool.and_false,Bool.not_true],rfl⟩
 by_cases k3:o.kind=3
 ·simp only[go_sem,ak,n31.symm,n41.symm,k3,Int.reduceBEq]
  refine .calls (hm1 i1 _) [0,1,2,3,4,5,6,7,8,9,10,11] (.hm1 aer) acO rfl ?_;simp only[go_sem,ak,n31.symm,n41.symm];refine⟨(.hm1 ac8),(.hm1 ac8),(.hm1 ac8),?_⟩;cases dcase:(o.case==([]:Txt))
  ·simp only[go_sem,ak,n31.symm,n41.symm]
   cases dfield:(o.field==([]:Txt))
   ·simp only[go_sem,ak,n31.symm,n41.symm]
    cases dval:(o.val.kind==(0:Int) && (o.val.n==(0:Int) && o.val.s==([]:Txt)))
    ·simp only[go_sem,ak,n43.symm]
     exact .mk _ (.refl _) acQ ⟨adh,rfl⟩
    ·simp only[go_sem]
     exact .mk _ (.refl _) acQ ⟨adh,rfl⟩
   ·simp only[go_sem]
    exact .mk _ (.refl _) acQ ⟨by simp[dI,okD,fI,fh,ic,eqV,an,ax,k3,decide_true,dcase,dfield,Bool.and_true,Bool.true_and,Bool.false_and,Bool.and_false,Bool.not_true,Bool.not_false],rfl⟩
  ·simp only[go_sem]
   exact .mk _ (.refl _) acQ ⟨by simp[dI,okD,fI,fh,ic,eqV,an,ax,k3,decide_true,dcase,Bool.and_true,Bool.true_and,Bool.false_and,Bool.and_false,Bool.not_true],rfl⟩
 by_cases k4:o.kind=4
 ·simp only[go_sem,ak,n31.symm,n41.symm,k4,Int.reduceBEq]
  refine .calls (hm1 i1 _) [0,1,2,3,4,5,6,7] (.hm1 aer) acO rfl ?_;simp only[go_sem,ak,n31.symm,n41.symm];refine⟨(.hm1 ac8),(.hm1 ac8),?_⟩;cases dcase:(o.case==([]:Txt))
  ·simp only[go_sem,ak,n31.symm,n41.symm]
   cases dto:(o.to==([]:Txt))
   ·simp only[go_sem,ak,n43.symm]
    exact .mk _ (.refl _) acQ ⟨by simp[dI,okD,fI,fh,ic,an,ax,k4,decide_true,dcase,dto,Bool.and_true,Bool.true_and,Bool.not_false],rfl⟩
   ·simp only[go_sem]
    exact .mk _ (.refl _) acQ ⟨by simp[dI,okD,fI,fh,ic,an,ax,k4,decide_true,dcase,dto,Bool.and_true,Bool.true_and,Bool.false_and,Bool.and_false,Bool.not_true,Bool.not_false],rfl⟩
  ·simp only[go_sem]
   exact .mk _ (.refl _) acQ ⟨by simp[dI,okD,fI,fh,ic,an,ax,k4,decide_true,dcase,Bool.and_true,Bool.true_and,Bool.false_and,Bool.and_false,Bool.not_true],rfl⟩
 by_cases k5:o.kind=5
 ·simp only[go_sem,ak,n31.symm,n41.symm,k5,Int.reduceBEq]
  cases drev0:decide ((0:Int)<o.review)
  ·simp only[go_sem]
   exact .mk _ (.refl _) acQ ⟨by simp[dI,okD,fI,fh,ic,an,ax,k5,decide_true,drev0,Bool.and_true,Bool.true_and,Bool.false_and,Bool.and_false],rfl⟩
  ·simp only[go_sem,ak,n43.symm]
   exact .mk _ (.refl _) acQ ⟨by simp[dI,okD,fI,fh,ic,an,ax,k5,decide_true,drev0,Bool.and_true,Bool.true_and],rfl⟩
 by_cases k7:o.kind=7
 ·simp only[go_sem,ak,n31.symm,n43.symm,n41.symm,k7,Int.reduceBEq]
  exact .mk _ (.refl _) acQ ⟨by simp[dI,okD,fI,fh,ic,an,ax,k7,decide_true,Bool.and_true,Bool.true_and],rfl⟩
 by_cases k8:o.kind=8
 ·simp only[go_sem,ak,n31.symm,n41.symm,k8,Int.reduceBEq]
  cases drev0:decide ((0:Int)<o.review)
  ·simp only[go_sem]
   exact .mk _ (.refl _) acQ ⟨by simp[dI,okD,fI,fh,ic,an,ax,k8,decide_true,drev0,Bool.and_true,Bool.true_and,Bool.false_and,Bool.and_false],rfl⟩
  ·simp only[go_sem,ak,n31.symm,n41.symm]
   cases drev1:decide (o.review≤(1099511627776:Int))
   ·simp only[go_sem]
    exact .mk _ (.refl _) acQ ⟨by simp[dI,okD,fI,fh,ic,an,ax,k8,decide_true,drev0,drev1,Bool.and_true,Bool.true_and,Bool.false_and,Bool.and_false],rfl⟩
   ·simp only[go_sem,ak,n43.symm]
    exact .mk _ (.refl _) acQ ⟨by simp[dI,okD,fI,fh,ic,an,ax,k8,decide_true,drev0,drev1,Bool.and_true,Bool.true_and],rfl⟩
 simp only[go_sem,ak,n31.symm,n41.symm,beq_eq_false_iff_ne.2 k1,beq_eq_false_iff_ne.2 k2,beq_eq_false_iff_ne.2 k6,beq_eq_false_iff_ne.2 k3,beq_eq_false_iff_ne.2 k4,beq_eq_false_iff_ne.2 k5,beq_eq_false_iff_ne.2 k7,beq_eq_false_iff_ne.2 k8];exact .mk _ (.refl _) acQ ⟨by simp only[dI,bnd k1 k2 k3 k4 k5 k6 k7 k8,Bool.false_and,ax],rfl⟩
theorem GC(o)(h):ai prog 22 [opA o] h fun r h' =>r= .b (dD o)∧h' =h:=by
 have hr:=fun hh=>Jn o hh
 have ht:=fun hh=>Ms o hh
 have hv:=fun hh=>gx o.val hh
 simp only[opA,opC,aP]at hr ht hv;refine acJ func22 48 [.tmp 2] fun hwf=>?_
 simp only[go_sem,opA,opC];intro i1 h1;simp only[go_sem];refine(o6 o.subj _).pthen ?_;cases d1:aK o.subj
 ·simp only[go_sem]
  exact .mk _ (.refl _) (.aj h1) ⟨by simp_all [dD,Bool.false_and,ax],rfl⟩
 simp only[go_sem];refine(hr _).pthen ?_;cases d2:kU o
 ·exact ahm
 cases d3:decide ((4096:Int)<(o.text.length:Int))
 case true=>have e3:decide (o.text.length≤4096)=false:=decide_eq_false acL;simp only[go_sem,d3];exact .mk _ (.refl _) (.aj h1) ⟨by simp only[dD,d1,d2,e3,Bool.false_and,Bool.true_and,ax],rfl⟩
 have e3:decide (o.text.length≤4096)=true:=decide_eq_true acL;simp only[go_sem,d3];refine(xH o.case _).pthen ?_;cases d4:gM o.case
 ·exact ahm
 simp only[go_sem];refine(xH o.field _).pthen ?_;cases d5:gM o.field
 ·exact ahm
 simp only[go_sem];refine(xH o.to _).pthen ?_;cases d6:gM o.to
 ·exact ahm
 cases d7:(o.val.kind==(0:Int) && (o.val.n==(0:Int) && o.val.s==([]:Txt)))
 ·simp only[go_sem,d7]
  refine(hv _).pthen ?_;have e7:eqV o.val an=false:=d7;cases d8:aW o.val
  ·simp only[go_sem]
   exact .mk _ (.refl _) (.aj h1) ⟨by simp_all [dD,Bool.or_self,Bool.false_and,Bool.true_and,ax],rfl⟩
  simp only[go_sem];refine(ht _).pthen ?_;simp only[go_sem];exact .mk _ (.refl _) (.aj h1) ⟨by simp_all [dD,Bool.false_or,Bool.true_and,ax],rfl⟩
 ·simp only[go_sem,d7]
  have e7:eqV o.val an=true:=d7;refine(ht _).pthen ?_;simp only[go_sem];exact .mk _ (.refl _) (.aj h1) ⟨by simp_all [dD,Bool.true_or,Bool.true_and,ax],rfl⟩
end Go.Proofs.YteaaeelhjnhaaaaGreatDoor
namespace Go.Bf
open Go Go.Ab
def ixD{α:Type}(q:α→Bool)(l:List α):Int:=if l.findIdx q<l.length then(l.findIdx q:Nat)else -1
theorem nT{α:Type}{q:α→Bool}{l:List α}{i:Nat}(hi:i<l.length)(h1:q l[i]=true)(h2:∀j (hj:j<i),q (l[j]'acK)=false):ixD q l=(i:Nat):=by
 have e:l.findIdx q=i:=by grind [List.findIdx_eq]
 rw[ixD,e,if_pos hi]
theorem jb{α:Type}{q:α→Bool}{l:List α}(h:∀j (hj:j<l.length),q l[j]=false):ixD q l= -1:=by have e:l.findIdx q=l.length:=acL;rw[ixD,e,if_neg (Nat.lt_irrefl _)]
end Go.Bf
namespace Go.Proofs.YteaaeelhjnhaaaaGreatDoor
open Go Go.Ab Go.Bf Tryz
theorem uG{α:Type}(y)(xs)(ds:List α)(q:α→Bool)(g)(cap)(h)(hb:Rd h 5 y xs)(hn:xs.length=ds.length)(hl:xs.length≤1000000000)(hx:∀x∈xs,bC x=true)
  (hp:∀i (h1:i<xs.length) (h2:i<ds.length),ai prog g (xs[i]::cap) h fun r h' =>r= .b (q ds[i])∧h' =h):
  ai prog 136 [y,.fn g cap] h fun r h' =>r= .i (ixD q ds)∧h' =h:=by
 refine acJ func136 19 [.tmp 4] fun hwf=>?_
 simp only[go_sem,hb.len];refine .intro (fun m ρ h' =>h' =h∧∃i:Nat,i≤xs.length∧m=xs.length - i∧(∀j (hj:j<i) (h2:j<ds.length),q ds[j]=false)∧lk ρ 0=some y∧lk ρ 1=some (.fn g cap)∧lk ρ 7=some (.i xs.length)∧lk ρ 8=some (.i i)) xs.length ?_ ?_
 ·refine⟨rfl,0,acK,rfl,fun j hj=>acK,?_,?_,?_,?_⟩<;>simp only[go_sem]
 ·rintro m ρ h' ⟨rfl,i,hi,rfl,hc,r0,r1,r7,r8⟩
  simp only[go_sem,r7,r8];refine .intro (fun e=>?_) (fun e=>?_)
  ·have hlt:i<xs.length:=acH e
   have hlt2:i<ds.length:=acK;have w1:IntKind.i64.wrap ((i:Int)+1)=((i+1:Nat):Int):=acX;simp only[go_sem,r0,r1,r8];refine hb.idx (e:=135) i rfl hlt acY acN fun p hp1=>?_
   have hld:=hp1.all (U:=U) (ty:=135) acN adD aez;simp only[go_sem,hld];refine(show ai prog g (xs[i]::cap) _ _ from hp i hlt hlt2).pthen ?_
   cases d1:q ds[i]
   ·simp only[go_sem,r8,w1]
    refine⟨_,?_,rfl,i+1,acK,rfl,fun j hj h2=>?_,?_,?_,?_,?_⟩
    ·omega
    ·grind
    all_goals simp only[go_sem,r0,r1,r7]
   ·simp only[go_sem]
    exact .same (.refl _) ⟨ads,rfl⟩
  ·have hge:i=xs.length:=by grind
   simp only[go_sem];exact .same (.refl _) ⟨adg,rfl⟩
theorem ye{α:Type}(y)(xs)(ds:List α)(q:α→Bool)(g)(cap)(h)(hb:Rd h 4 y xs)(hn:xs.length=ds.length)(hl:xs.length≤1000000000)(hx:∀x∈xs,bC x=true)
  (hp:∀i (h1:i<xs.length) (h2:i<ds.length),ai prog g (xs[i]::cap) h fun r h' =>r= .b (q ds[i])∧h' =h):
  ai prog 117 [y,.fn g cap] h fun r h' =>r= .i (ixD q ds)∧h' =h:=by
 refine acJ func117 19 [.tmp 4] fun hwf=>?_
 simp only[go_sem,hb.len];refine .intro (fun m ρ h' =>h' =h∧∃i:Nat,i≤xs.length∧m=xs.length - i∧(∀j (hj:j<i) (h2:j<ds.length),q ds[j]=false)∧lk ρ 0=some y∧lk ρ 1=some (.fn g cap)∧lk ρ 7=some (.i xs.length)∧lk ρ 8=some (.i i)) xs.length ?_ ?_
 ·refine⟨rfl,0,acK,rfl,fun j hj=>acK,?_,?_,?_,?_⟩<;>simp only[go_sem]
 ·rintro m ρ h' ⟨rfl,i,hi,rfl,hc,r0,r1,r7,r8⟩
  simp only[go_sem,r7,r8];refine .intro (fun e=>?_) (fun e=>?_)
  ·have hlt:i<xs.length:=acH e
   have hlt2:i<ds.length:=acK;have w1:IntKind.i64.wrap ((i:Int)+1)=((i+1:Nat):Int):=acX;simp only[go_sem,r0,r1,r8];refine hb.idx (e:=189) i rfl hlt acY acN fun p hp1=>?_
   have hld:=hp1.all (U:=U) (ty:=189) acN adD aez;simp only[go_sem,hld];refine(show ai prog g (xs[i]::cap) _ _ from hp i hlt hlt2).pthen ?_
   cases d1:q ds[i]
   ·simp only[go_sem,r8,w1]
    refine⟨_,?_,rfl,i+1,acK,rfl,fun j hj h2=>?_,?_,?_,?_,?_⟩
    ·omega
    ·grind
    all_goals simp only[go_sem,r0,r1,r7]
   ·simp only[go_sem]
    exact .same (.refl _) ⟨ads,rfl⟩
  ·have hge:i=xs.length:=by grind
   simp only[go_sem];exact .same (.refl _) ⟨adg,rfl⟩
def RdC(h:Heap)(x:AV)(c:aU):Prop:=∃f l,x= .agg [.s c.id,.s c.owner,.s c.state,f,l]∧Rd h 4 f (c.fields.map bO)∧Rd h 3 l (c.log.map iI)
def zB(h:Heap)(y:AV)(cs:List aU):Prop:=∃xs,Rd h 5 y xs∧xs.length=cs.length∧∀i (h1:i<xs.length) (h2:i<cs.length),RdC h xs[i] cs[i]
def RdS(h:Heap)(x:AV)(s:aq):Prop:=∃y1 y2 y3 y4,x= .agg ([.i s.tick,y1,y2,y3,y4]++fZ s.policy++ [.i s.version])∧zB h y1 s.cases∧Rd h 7 y2 (s.reviews.map iM)∧Rd h 3 y3 (s.notices.map mT)∧Rd h 2 y4 (s.roles.map eL)
theorem RdC.sub{h h'}{x}{c}(hb:RdC h x c)(hs:Ab.Sub h h'):RdC h' x c:=by obtain⟨f,l,e,h1,h2⟩:=hb;exact⟨f,l,e,h1.sub hs,h2.sub hs⟩
theorem zB.sub{h h'}{y}{cs}(hb:zB h y cs)(hs:Ab.Sub h h'):zB h' y cs:=by obtain⟨xs,h1,h2,h3⟩:=hb;exact⟨xs,h1.sub hs,h2,fun i a b=>(h3 i a b).sub hs⟩
theorem RdS.sub{h h'}{x}{s}(hb:RdS h x s)(hs:Ab.Sub h h'):RdS h' x s:=by obtain⟨y1,y2,y3,y4,e,h1,h2,h3,h4⟩:=hb;exact⟨y1,y2,y3,y4,e,h1.sub hs,h2.sub hs,h3.sub hs,h4.sub hs⟩
theorem bx{α:Type}{f:α→AV}{n:Nat}(hf:∀a,(f a).cells.length=n)(l:List α):Sized n (l.map f):=fun z hz=>by grind
theorem oL{α:Type}{f:α→AV}(hf:∀a,bC (f a)=true)(l:List α):∀x∈l.map f,bC x=true:=fun z hz=>by obtain⟨a,_,rfl⟩:=List.mem_map.1 hz;exact hf a
theorem eR{α:Type}(f:α→AV)(n:Nat)(hf:∀a,(f a).cells.length=n)(h)(l:List α):Rd h n (.sl (l.map f) .no) (l.map f):=.sl (bx hf l) _
theorem rdC(h)(c):RdC h (ct c) c:=⟨_,_,rfl,eR bO 4 (fun _=>rfl) h _,eR iI 3 (fun _=>rfl) h _⟩
theorem Xx(h)(cs):zB h (gh cs) cs:=⟨_,eR ct 5 (fun _=>rfl) h cs,acS,fun i h1 h2=>by grind [rdC]⟩
theorem rdS(h)(s):RdS h (cN s) s:=⟨_,_,_,_,rfl,Xx h _,eR iM 7 (fun _=>rfl) h _,eR mT 3 (fun _=>rfl) h _,eR eL 2 (fun _=>rfl) h _⟩
theorem RdC.agg{h}{x}{c}(hb:RdC h x c):bC x=true:=by obtain⟨f,l,rfl,_⟩:=hb;rfl
theorem zB.agg{h:Heap}{xs:List AV}{cs:List aU}(hn:xs.length=cs.length)(hb:∀i (h1:i<xs.length) (h2:i<cs.length),RdC h xs[i] cs[i]):∀x∈xs,bC x=true:=fun x hx=>by obtain⟨i,hi,rfl⟩:=List.mem_iff_getElem.1 hx;exact(hb i hi acK).agg
theorem nJ:(U 135).sz=5:=acY
theorem F8:(U 189).sz=4:=acY
theorem JL:(U 9).sz≠0:=acN
theorem MB:(U 9).sz=1:=acY
theorem KN{h}{x}{c}(hb:RdC h x c){k:Nat}{id}(hk:h k=some (.obj [.s id] 9)):ai prog 137 [x,.ptr k 0] h fun r h' =>r= .b (geB c.id id)∧h' =h:=by
 obtain⟨f,l,rfl,hf,hl⟩:=hb;refine acJ func137 8 [.tmp 3] fun hwf=>?_
 simp only[go_sem];exact ag6
structure Few (s:aq):Prop where
 cases:s.cases.length≤1000000
 fields:∀c∈s.cases,c.fields.length≤1000000
 log:∀c∈s.cases,c.log.length≤1000000
 reviews:s.reviews.length≤1000000
 notices:s.notices.length≤1000000
 roles:s.roles.length≤1000000
theorem jD{cs}{id}(h:bY cs id=true):findD cs id<cs.length:=by grind [bY,List.getElem?_eq_some_iff]
theorem JF{cs}{id}(h:findD cs id<cs.length):bY cs id=(cs[findD cs id].id==id):=by grind [bY,List.getElem?_eq_getElem]
theorem JG{cs}{id}(h:¬findD cs id<cs.length):bY cs id=false:=by grind [bY,List.getElem?_eq_none]
theorem BK{h}{x}{s}(hb:RdS h x s)(id)(hl:s.cases.length≤1000000):ai prog 95 [x,.s id] h fun r h' =>r= .tup [.i (findD s.cases id:Nat),.b (bY s.cases id)]∧h' =h:=by
 obtain⟨y1,y2,y3,y4,rfl,⟨xs,hc,hn,hcs⟩,h2,h3,h4⟩:=hb;cases hp:s.policy with
 |mk pid pset palg ptgt prules pkids pobls=>
 refine acJ func95 25 [.tmp 4,.tmp 5] fun hwf=>?_
 simp only[go_sem,fZ,List.cons_append,List.nil_append];intro i1 h1;simp only[go_sem];intro i2 h2;have n21:=aH h2;have n2:=aB h2;have hs:∀a b,Ab.Sub h (upd (upd h i1 a) i2 b):=fun a b=>((Sub.refl h).put h1 a).put n2 b
 simp only[go_sem,ak,n21.symm];refine(uG y1 xs s.cases (fun c=>geB c.id id) _ [.ptr i2 0] _ (hc.sub (hs _ _)) hn acK (zB.agg hn hcs) fun i a b=>KN ((hcs i a b).sub (hs _ _)) (ah ..)).pthen ?_
 by_cases hf:findD s.cases id<s.cases.length
 ·have e1:ixD (fun c=>geB c.id id) s.cases=(findD s.cases id:Nat):=by rw[ixD];exact if_pos hf
  have d1:decide (((findD s.cases id:Nat):Int)<0)=false:=decide_eq_false acK;rw[e1];simp only[go_sem,ak,n21.symm,d1];refine⟨.of acO,?_⟩;obtain⟨f,l,ex,hfl,hlg⟩:=hcs (findD s.cases id) acK hf;refine hc.idx (e:=135) (findD s.cases id) rfl acK nJ acN fun p hp1=>?_
  simp only[go_sem];refine hp1.field (f:=0) (off:=0) (t:=9) rfl JL fun p2 hp2=>?_
  have hld:=fun a b=>(hp2.sub (hs a b)).part (U:=U) (ty:=9) JL (by rw[ex,MB];exact acz rfl)
  simp only[go_sem,hld,ex];exact .mk _ (.refl _) (hs _ _) ⟨by rw[JF hf];rfl,rfl⟩
 ·have e1:ixD (fun c=>geB c.id id) s.cases= -1:=by rw[ixD];exact if_neg hf
  have e2:findD s.cases id=s.cases.length:=by grind [findD,List.findIdx_le_length]
  have d1:decide ((-1:Int)<0)=true:=rfl;rw[e1];simp only[go_sem,ak,n21.symm,d1];simp only[go_sem,hc.len];exact .mk _ (.refl _) (hs _ _) ⟨by rw[JG hf,e2,hn];rfl,rfl⟩
theorem HG:(U 161).sz=2:=acY
theorem I2(y)(ds)(r)(h)(hb:Rd h 2 y (ds.map eL))(hl:ds.length≤1000000000):
  ai prog 168 [y,eL r] h fun x h' =>x= .i (ixD (uw r) ds)∧h' =h:=by
 refine acJ func168 19 [.tmp 4] fun hwf=>?_
 simp only[go_sem,eL];intro i1 h1;have hs:∀a,Ab.Sub h (upd h i1 a):=fun a=>(Sub.refl h).put h1 a
 simp only[go_sem,hb.len,acA];refine .intro (fun m ρ h' =>h' =upd h i1 (some (.obj [.s r.subj,.s r.role] 161))∧∃i:Nat,i≤ds.length∧m=ds.length - i∧(∀j (hj:j<i) (h2:j<ds.length),uw r ds[j]=false)∧lk ρ 0=some y∧lk ρ 3=some (.ptr i1 0)∧lk ρ 7=some (.i ds.length)∧lk ρ 8=some (.i i)) ds.length ?_ ?_
 ·refine⟨rfl,0,acK,rfl,fun j hj=>acK,?_,?_,?_,?_⟩<;>simp only[go_sem]
 ·rintro m ρ h' ⟨rfl,i,hi,rfl,hc,r0,r3,r7,r8⟩
  simp only[go_sem,r7,r8];refine .intro (fun e=>?_) (fun e=>?_)
  ·have hlt:i<ds.length:=acH e
   have w1:IntKind.i64.wrap ((i:Int)+1)=((i+1:Nat):Int):=acX;simp only[go_sem,r0,r3,r8];refine⟨.of acO,?_⟩;refine hb.idx (e:=161) i rfl acL HG acN fun p hp1=>?_
   have hld:=fun a=>(hp1.sub (hs a)).all (U:=U) (ty:=161) acN (by rw[HG,acB];rfl) adp
   cases d1:uw r ds[i]
   ·have d2:=d1
    simp only[uw]at d2;simp only[go_sem,r8,hld,acB,eL,d2,w1];refine⟨_,?_,rfl,i+1,acK,rfl,fun j hj h2=>?_,?_,?_,?_,?_⟩
    ·omega
    ·grind
    all_goals simp only[go_sem,r0,r3,r7]
   ·have d2:=d1
    simp only[uw]at d2;simp only[go_sem,hld,acB,eL,d2];exact .mk _ (.refl _) (hs _) ⟨by rw[nT hlt d1 fun j hj=>hc j hj acK];rfl,rfl⟩
  ·have hge:i=ds.length:=by grind
   simp only[go_sem];exact .mk _ (.refl _) (hs _) ⟨adg,rfl⟩
theorem Fj(y)(ds)(r)(h)(hb:Rd h 2 y (ds.map eL))(hl:ds.length≤1000000000):
  ai prog 139 [y,eL r] h fun x h' =>x= .b (xY ds r)∧h' =h:=by
 have hq:=fun H (hH:Ab.Sub h H)=>I2 y ds r H (hb.sub hH) hl
 refine acJ func139 9 [.tmp 4] fun hwf=>?_
 simp only[go_sem,eL];intro i1 h1;simp only[go_sem];refine(hq _ (.aj h1)).pthen ?_;simp only[go_sem];refine .mk _ (.refl _) (.aj h1) ⟨?_,rfl⟩
 grind [ax,xY,ixD,decide_eq_true,List.any_eq_true,acF,List.findIdx_getElem,decide_eq_false,List.any_eq_false]
theorem Fl{h}{x}{s}(hb:RdS h x s)(subj role)(hl:s.roles.length≤1000000000):ai prog 98 [x,.s subj,.s role] h fun r h' =>r= .b (xY s.roles ⟨subj,role⟩)∧h' =h:=by
 obtain⟨y1,y2,y3,y4,rfl,hc,h2,h3,h4⟩:=hb;have hq:=fun H (hH:Ab.Sub h H)=>Fj y4 s.roles ⟨subj,role⟩ H (h4.sub hH) hl
 cases hp:s.policy with
 |mk pid pset palg ptgt prules pkids pobls=>
 refine acJ func98 13 [.tmp 6] fun hwf=>?_
 simp only[go_sem,fZ,List.cons_append,List.nil_append];intro i1 h1;simp only[go_sem];refine(hq _ (.aj h1)).pthen ?_;simp only[go_sem];exact ac0
theorem Iq{h}(f){k:Nat}{name}(hk:h k=some (.obj [.s name] 9)):ai prog 118 [bO f,.ptr k 0] h fun r h' =>r= .b (f.name==name)∧h' =h:=by
 refine acJ func118 8 [.tmp 3] fun hwf=>?_
 simp only[go_sem,bO];exact ag6
theorem Ir{fs}{name}(h:fs.findIdx (fun f=>f.name==name)<fs.length):eO fs name=fs[fs.findIdx fun f=>f.name==name].val:=by unfold eO;rw[show fs.find? (fun f=>f.name==name)=some fs[fs.findIdx fun f=>f.name==name]from List.find?_eq_some_iff_getElem.2 ⟨List.findIdx_getElem (w:=h),_,h,rfl,fun j hj=>acL⟩]
theorem Is{fs}{name}(h:¬fs.findIdx (fun f=>f.name==name)<fs.length):eO fs name=an:=by grind [eO,List.findIdx_le_length,List.find?_eq_none,List.findIdx_eq_length]
theorem CV{h}{x}{c}(hb:RdC h x c)(name)(hl:c.fields.length≤1000000000):ai prog 82 [x,.s name] h fun r h' =>r=aP (eO c.fields name)∧h' =h:=by
 obtain⟨f,l,rfl,hf,hlg⟩:=hb;refine acJ func82 19 [.cell 4 23] fun hwf=>?_
 simp only[go_sem];intro i1 h1;simp only[go_sem];intro i2 h2;have n21:=aH h2;have n2:=aB h2;simp only[go_sem];intro i3 h3;have h3' :=aB h3;have n31:=aH h3';have n3:=aB h3';have hs:∀a b d,Ab.Sub h (upd (upd (upd h i1 a) i2 b) i3 d):=fun a b d=>(((Sub.refl h).put h1 a).put n2 b).put n3 d
 simp only[go_sem,ak,n21.symm,n31.symm];refine(ye f _ c.fields (fun f=>f.name==name) _ [.ptr i2 0] _ (hf.sub (hs _ _ _)) acS acL (oL (fun _=>rfl) _) fun i a b=>by rw[acB];exact Iq _ (by grind [ak,gp,not_false_eq_true])).pthen ?_
 by_cases hx:c.fields.findIdx (fun f=>f.name==name)<c.fields.length
 ·have e1:ixD (fun f=>f.name==name) c.fields=(c.fields.findIdx (fun f=>f.name==name):Nat):=by simp_all [ixD,if_pos]
  have d1:decide ((0:Int)≤((c.fields.findIdx (fun f=>f.name==name):Nat):Int))=true:=decide_eq_true acK
  rw[e1];simp only[go_sem,ak,n21.symm,n31.symm,d1];refine hf.idx (e:=189) (c.fields.findIdx fun f=>f.name==name) rfl acL F8 acN fun p hp1=>?_
  simp only[go_sem];refine hp1.field (f:=1) (off:=1) (t:=23) rfl acN fun p2 hp2=>?_
  have hld:=fun a b d=>(hp2.sub (hs a b d)).part (U:=U) (ty:=23) acN (by rw[acB,show(U 23).sz=3 by rfl];exact acz rfl)
  simp only[go_sem,hld,acB,bO];exact .mk _ (.refl _) acL ⟨by rw[Ir hx];rfl,rfl⟩
 ·have e1:ixD (fun f=>f.name==name) c.fields= -1:=by simp_all [ixD,if_neg]
  have d1:decide ((0:Int)≤ -1)=false:=rfl;rw[e1];simp only[go_sem,d1];exact .mk _ (.refl _) acL ⟨by rw[Is hx];rfl,rfl⟩
end Go.Proofs.YteaaeelhjnhaaaaGreatDoor
namespace Go.Ab
open Go
mutual
def cM:AV→Bool
 |.v _=>true
 |.s _=>true
 |.agg xs=>gW xs
 |.tup xs=>gW xs
 |.sl xs (.own _)=>false
 |.sl xs _=>gW xs
 |.pe x _=>cM x
 |.ifc _ x=>cM x
 |_=>false
def gW:List AV→Bool
 | []=>true
 |x::r=>cM x && gW r
end
mutual
theorem tT{F:Nat→Prop}:∀x:AV,cM x=true→Av F x
 |.v x,_=> .v x
 |.s l,_=> .s l
 |.agg xs,h=> .agg xs (qO xs afm)
 |.tup xs,h=> .tup xs (qO xs afm)
 |.sl xs .no,h=> .sl xs .no (qO xs afm) fun _ e=>adb
 |.sl xs .full,h=> .sl xs .full (qO xs afm) fun _ e=>adb
 |.sl xs (.own _),h=>agf
 |.pe x o,h=> .pe x o (tT x afm)
 |.ptr i o,h=>agf
 |.oa i o l,h=>agf
 |.ifc t x,h=> .ifc t x (tT x afm)
 |.fn f c,h=>agf
 |.mp i,h=>agf
 |.ob i o l c z,h=>agf
theorem qO{F:Nat→Prop}:∀xs:List AV,gW xs=true→∀x∈xs,Av F x
 | [],_,x,hx=>by cases hx
 |y::r,h,x,hx=>by
  simp only[gW,Bool.and_eq_true]at h;rcases List.mem_cons.1 hx with e|e
  ·rw[e];exact tT y h.1
  ·exact qO r h.2 x e
end
theorem bw{α:Type}{f:α→AV}(hf:∀a,cM (f a)=true):∀l:List α,gW (l.map f)=true
 | []=>rfl
 |a::r=>by simp[gW,hf a,bw hf r]
theorem AY{xs}(h:gW xs=true):∀x∈xs,cM x=true:=by
 induction xs with
 |nil=>simp
 |cons y r ih=>simp_all [gW,Bool.and_eq_true,List.mem_cons]
theorem ny{x}(h:cM x=true):∀c∈x.cells,cM c=true:=by
 cases x with
 |agg cs=>exact AY (show gW cs=true by grind [cM])
 |_=>intro c hc;rw[List.mem_singleton.1 hc];exact h
theorem Frz.pure{g h}{x}(hx:cM x=true):Frz g h x x:=.keep x (tT x hx)
theorem Ow.frz{g h:Heap}{tb:TypeId}{sz id:Nat}{y:AV}{xs ys:List AV}(hw:Ow tb h sz id y xs)(hg:g id=Option.none)(hn:xs.length=ys.length)(hz:∀i (h1:i<xs.length) (h2:i<ys.length),xs[i].cells.length=ys[i].cells.length)
  (hr:∀i (h1:i<xs.length) (h2:i<ys.length) j (h3:j<xs[i].cells.length) (h4:j<ys[i].cells.length),Frz g h xs[i].cells[j] ys[i].cells[j]):Frz g h y (.sl ys .no):=by
 obtain⟨cap,rest,rfl,h1,h2,h3,h4⟩:=hw;have hl:=bg h4;refine .ob id 0 _ cap sz _ tb ys hg h1 acL hn.symm (fun i hi=>by rw[←hz i acK hi];exact h4 _ acS) fun i hi j hj hb=>?_
 have hj' :j<sz:=by rw[←h4 xs[i] acS,hz i acK hi];omega
 have hbd:i*sz+j<xs.length*sz:=by have:(i+1)*sz≤xs.length*sz:=Nat.mul_le_mul_right _ acK;rw[Nat.add_mul,Nat.one_mul]at this;omega
 have hjx:j<xs[i].cells.length:=acL;have e:(au xs++rest)[0+(i*sz+j)]? =some (xs[i].cells[j]):=by rw[Nat.zero_add,List.getElem?_append_left acK,uy h4 acK hj',List.getElem?_eq_getElem hjx]
 rw[List.getElem?_eq_getElem hb,Option.some.injEq]at e;rw[e];exact hr i acK hi j hjx hj
theorem OwE.frz{g h}{tb}{sz:Nat}{y}{xs}(hw:OwE tb g h sz y xs)(hp:gW xs=true):Frz g h y (.sl xs .no):=by
 rcases hw with⟨rfl,rfl⟩|⟨id,hg,hw⟩
 ·exact .sl [] [] .full rfl acK acS
 ·exact hw.frz hg rfl acK fun i h1 h2 j h3 h4=> .pure (ny (AY hp _ (acF h1)) _ acS)
theorem OwE.lP{U}{h}{sz:Nat}{tb}{xs}{Q}(hz:(U tb).sz=sz)(hf:Ab.fit (U tb).zero sz)(hb:Sized sz xs)(hk:∀y' h',OwE tb h h' sz y' xs→Sub h h'→Q y' h'):rV U h [] xs tb Q:=by
 subst hz;refine⟨fun hn=>?_,fun hn=>?_⟩
 ·subst hn
  exact hk _ _ (.inl ⟨rfl,rfl⟩) (.refl _)
 ·refine .ob hf (j9.ow hb acY acS fun id y' h' hid hw ho=>?_)
  exact hk _ _ (.inr ⟨id,hid,hw⟩) fun j b hj=>acL
theorem Rd.nil{h}{sz:Nat}{y}{xs}{e}{Q}(hb:Rd h sz y xs)(hk:∀b:Bool,(xs≠ []→b=false)→Q (.b b) h):Rm h .eql y Q (.slice e):=by
 obtain⟨_,⟨q,rfl⟩|⟨id,off,cap,cs,t,rfl,_⟩⟩:=hb
 ·exact hk
 ·exact hk false fun _=>rfl
def nid:AV→Option Nat
 |.ob id _ _ _ _=>some id
 |_=>none
theorem OwE.nid{tb}{h0 h}{sz:Nat}{y}{xs}(hw:OwE tb h0 h sz y xs){id:Nat}(e:Ab.nid y=some id):h0 id=Option.none∧h id≠Option.none∧Ow tb h sz id y xs:=by
 rcases hw with⟨rfl,rfl⟩|⟨id',h1,hw⟩
 ·cases e
 ·obtain⟨cap,rest,rfl,h2,h3⟩:=hw
  cases e;exact⟨h1,acL,cap,rest,rfl,h2,h3⟩
theorem Ow.nid{tb}{h}{sz id:Nat}{y}{xs}(hw:Ow tb h sz id y xs):Ab.nid y=some id:=by obtain⟨cap,rest,rfl,h2,h3⟩:=hw;rfl
theorem OwE.keep{tb}{h0 h h'}{sz:Nat}{y}{xs}(hw:OwE tb h0 h sz y xs)(hs:∀id,Ab.nid y=some id→h' id=h id):OwE tb h0 h' sz y xs:=by
 rcases hw with hw|⟨id,h1,hw⟩
 ·exact agE
 ·exact .inr ⟨id,h1,hw.same (hs id hw.nid)⟩
theorem OwE.less{tb}{h0 h1 h}{sz:Nat}{y}{xs}(hw:OwE tb h1 h sz y xs)(hs:Sub h0 h1):OwE tb h0 h sz y xs:=by
 rcases hw with hw|⟨id,a,hw⟩
 ·exact agE
 ·exact .inr ⟨id,hs.none a,hw⟩
end Go.Ab
namespace Go.Proofs.YteaaeelhjnhaaaaGreatDoor
open Go Go.Ab Go.Bf Tryz
theorem Aj(y)(xs)(h)(hb:Rd h 5 y xs)(hl:xs.length≤1000000):ai prog 108 [y] h fun r h' =>OwE 135 h h' 5 r xs∧Ab.Sub h h' :=by
 refine acJ func108 8 [.tmp 2] fun hwf=>?_
 simp only[go_sem];refine hb.nil fun b hxs=>?_
 cases b
 ·simp only[go_sem]
  refine hb.src (U:=U) (e:=135) acY ⟨hb.1,acK,OwE.lP (U:=U) (sz:=5) acY acY hb.1 fun y' h' hw hs=>?_⟩
  exact ag3
 ·exact agZ
theorem vu(y)(xs)(h)(hb:Rd h 7 y xs)(hl:xs.length≤1000000):ai prog 106 [y] h fun r h' =>OwE 170 h h' 7 r xs∧Ab.Sub h h' :=by
 refine acJ func106 8 [.tmp 2] fun hwf=>?_
 simp only[go_sem];refine hb.nil fun b hxs=>?_
 cases b
 ·simp only[go_sem]
  refine hb.src (U:=U) (e:=170) acY ⟨hb.1,acK,OwE.lP (U:=U) (sz:=7) acY acY hb.1 fun y' h' hw hs=>?_⟩
  exact ag3
 ·exact agZ
theorem vt(y)(xs)(h)(hb:Rd h 3 y xs)(hl:xs.length≤1000000):ai prog 107 [y] h fun r h' =>OwE 173 h h' 3 r xs∧Ab.Sub h h' :=by
 refine acJ func107 8 [.tmp 2] fun hwf=>?_
 simp only[go_sem];refine hb.nil fun b hxs=>?_
 cases b
 ·simp only[go_sem]
  refine hb.src (U:=U) (e:=173) acY ⟨hb.1,acK,OwE.lP (U:=U) (sz:=3) acY acY hb.1 fun y' h' hw hs=>?_⟩
  exact ag3
 ·exact agZ
theorem Ia(y)(xs)(h)(hb:Rd h 2 y xs)(hl:xs.length≤1000000):ai prog 145 [y] h fun r h' =>OwE 161 h h' 2 r xs∧Ab.Sub h h' :=by
 refine acJ func145 8 [.tmp 2] fun hwf=>?_
 simp only[go_sem];refine hb.nil fun b hxs=>?_
 cases b
 ·simp only[go_sem]
  refine hb.src (U:=U) (e:=161) acY ⟨hb.1,acK,OwE.lP (U:=U) (sz:=2) acY acY hb.1 fun y' h' hw hs=>?_⟩
  exact ag3
 ·exact agZ
theorem EL(y)(xs)(h)(hb:Rd h 4 y xs)(hl:xs.length≤1000000):ai prog 152 [y] h fun r h' =>OwE 189 h h' 4 r xs∧Ab.Sub h h' :=by
 refine acJ func152 8 [.tmp 2] fun hwf=>?_
 simp only[go_sem];refine hb.nil fun b hxs=>?_
 cases b
 ·simp only[go_sem]
  refine hb.src (U:=U) (e:=189) acY ⟨hb.1,acK,OwE.lP (U:=U) (sz:=4) acY acY hb.1 fun y' h' hw hs=>?_⟩
  exact ag3
 ·exact agZ
theorem qq(y)(xs)(h)(hb:Rd h 3 y xs)(hl:xs.length≤1000000):ai prog 109 [y] h fun r h' =>OwE 177 h h' 3 r xs∧Ab.Sub h h' :=by
 refine acJ func109 8 [.tmp 2] fun hwf=>?_
 simp only[go_sem];refine hb.nil fun b hxs=>?_
 cases b
 ·simp only[go_sem]
  refine hb.src (U:=U) (e:=177) acY ⟨hb.1,acK,OwE.lP (U:=U) (sz:=3) acY acY hb.1 fun y' h' hw hs=>?_⟩
  exact ag3
 ·exact agZ
theorem wq(y)(xs)(h)(hb:Rd h 3 y xs)(hl:xs.length≤1000000)(hp:gW xs=true):ai prog 109 [y] h fun r h' =>r= .sl xs .no∧h' =h:=
 ai.freeze fun g hg _=>(qq y xs g (hb.sub hg) hl).mono fun r h' ⟨h1,h2⟩=>⟨h2,_,h1.frz hp,rfl⟩
theorem Ku(y)(xs)(h)(hb:Rd h 3 y xs)(hl:xs.length≤1000000):ai prog 178 [y] h fun r h' =>OwE 184 h h' 3 r xs∧Ab.Sub h h' :=by
 refine acJ func178 8 [.tmp 2] fun hwf=>?_
 simp only[go_sem];refine hb.nil fun b hxs=>?_
 cases b
 ·simp only[go_sem]
  refine hb.src (U:=U) (e:=184) acY ⟨hb.1,acK,OwE.lP (U:=U) (sz:=3) acY acY hb.1 fun y' h' hw hs=>?_⟩
  exact ag3
 ·exact agZ
theorem Al(y)(xs)(h)(hb:Rd h 3 y xs)(hl:xs.length≤1000000)(hp:gW xs=true):ai prog 178 [y] h fun r h' =>r= .sl xs .no∧h' =h:=
 ai.freeze fun g hg _=>(Ku y xs g (hb.sub hg) hl).mono fun r h' ⟨h1,h2⟩=>⟨h2,_,h1.frz hp,rfl⟩
theorem Ib(y)(xs)(h)(hb:Rd h 5 y xs)(hl:xs.length≤1000000):ai prog 179 [y] h fun r h' =>OwE 237 h h' 5 r xs∧Ab.Sub h h' :=by
 refine acJ func179 8 [.tmp 2] fun hwf=>?_
 simp only[go_sem];refine hb.nil fun b hxs=>?_
 cases b
 ·simp only[go_sem]
  refine hb.src (U:=U) (e:=237) acY ⟨hb.1,acK,OwE.lP (U:=U) (sz:=5) acY acY hb.1 fun y' h' hw hs=>?_⟩
  exact ag3
 ·exact agZ
theorem CD(y)(xs)(h)(hb:Rd h 7 y xs)(hl:xs.length≤1000000):ai prog 180 [y] h fun r h' =>OwE 96 h h' 7 r xs∧Ab.Sub h h' :=by
 refine acJ func180 8 [.tmp 2] fun hwf=>?_
 simp only[go_sem];refine hb.nil fun b hxs=>?_
 cases b
 ·simp only[go_sem]
  refine hb.src (U:=U) (e:=96) acY ⟨hb.1,acK,OwE.lP (U:=U) (sz:=7) acY acY hb.1 fun y' h' hw hs=>?_⟩
  exact ag3
 ·exact agZ
theorem HZ(y)(xs)(h)(hb:Rd h 7 y xs)(hl:xs.length≤1000000):ai prog 181 [y] h fun r h' =>OwE 261 h h' 7 r xs∧Ab.Sub h h' :=by
 refine acJ func181 8 [.tmp 2] fun hwf=>?_
 simp only[go_sem];refine hb.nil fun b hxs=>?_
 cases b
 ·simp only[go_sem]
  refine hb.src (U:=U) (e:=261) acY ⟨hb.1,acK,OwE.lP (U:=U) (sz:=7) acY acY hb.1 fun y' h' hw hs=>?_⟩
  exact ag3
 ·exact agZ
theorem EO(y)(xs)(h)(hb:Rd h 7 y xs)(hl:xs.length≤1000000)(hp:gW xs=true):ai prog 181 [y] h fun r h' =>r= .sl xs .no∧h' =h:=
 ai.freeze fun g hg _=>(HZ y xs g (hb.sub hg) hl).mono fun r h' ⟨h1,h2⟩=>⟨h2,_,h1.frz hp,rfl⟩
theorem EM(y)(xs)(h)(hb:Rd h 7 y xs)(hl:xs.length≤1000000):ai prog 206 [y] h fun r h' =>OwE 248 h h' 7 r xs∧Ab.Sub h h' :=by
 refine acJ func206 8 [.tmp 2] fun hwf=>?_
 simp only[go_sem];refine hb.nil fun b hxs=>?_
 cases b
 ·simp only[go_sem]
  refine hb.src (U:=U) (e:=248) acY ⟨hb.1,acK,OwE.lP (U:=U) (sz:=7) acY acY hb.1 fun y' h' hw hs=>?_⟩
  exact ag3
 ·exact agZ
theorem CF(y)(xs)(h)(hb:Rd h 7 y xs)(hl:xs.length≤1000000)(hp:gW xs=true):ai prog 206 [y] h fun r h' =>r= .sl xs .no∧h' =h:=
 ai.freeze fun g hg _=>(EM y xs g (hb.sub hg) hl).mono fun r h' ⟨h1,h2⟩=>⟨h2,_,h1.frz hp,rfl⟩
theorem EN(y)(xs)(h)(hb:Rd h 3 y xs)(hl:xs.length≤1000000):ai prog 227 [y] h fun r h' =>OwE 23 h h' 3 r xs∧Ab.Sub h h' :=by
 refine acJ func227 8 [.tmp 2] fun hwf=>?_
 simp only[go_sem];refine hb.nil fun b hxs=>?_
 cases b
 ·simp only[go_sem]
  refine hb.src (U:=U) (e:=23) acY ⟨hb.1,acK,OwE.lP (U:=U) (sz:=3) acY acY hb.1 fun y' h' hw hs=>?_⟩
  exact ag3
 ·exact agZ
theorem CG(y)(xs)(h)(hb:Rd h 3 y xs)(hl:xs.length≤1000000)(hp:gW xs=true):ai prog 227 [y] h fun r h' =>r= .sl xs .no∧h' =h:=
 ai.freeze fun g hg _=>(EN y xs g (hb.sub hg) hl).mono fun r h' ⟨h1,h2⟩=>⟨h2,_,h1.frz hp,rfl⟩
def PT(h0 h:Heap)(x:AV)(c:aU):Prop:=∃f l,x= .agg [.s c.id,.s c.owner,.s c.state,f,l]∧OwE 189 h0 h 4 f (c.fields.map bO)∧OwE 177 h0 h 3 l (c.log.map iI)∧∀i,nid f=some i→nid l≠some i
theorem cI{h:Heap}{i j:Nat}{b}(h1:h i=none)(h2:h j=some b):i≠j:=fun e=>by subst e;rw[h2]at h1;cases h1
theorem yH{h:Heap}{x}{c}(hb:RdC h x c)(hl:c.fields.length≤1000000)(hl2:c.log.length≤1000000):ai prog 116 [x] h fun r h' =>PT h h' r c∧Ab.Sub h h' :=by
 obtain⟨f,l,rfl,hf,hlg⟩:=hb;refine acJ func116 12 [.cell 2 135] fun hwf=>?_
 simp only[go_sem];intro i1 h1;simp only[go_sem];intro i2 h2;have n21:=aH h2;have n2:=aB h2;simp only[go_sem];obtain⟨H,eH⟩:∃H,upd (upd h i1 (some (.obj [.s c.id,.s c.owner,.s c.state,f,l] 135))) i2 (some (.obj [.s [],.s [],.s [],.sl [] .full,.sl [] .full] 135))=H:=⟨_,rfl⟩;have hH:Ab.Sub h H:=adH;have g1:H i1=some (.obj [.s c.id,.s c.owner,.s c.state,f,l] 135):=aek;have g2:H i2=some (.obj [.s [],.s [],.s [],.sl [] .full,.sl [] .full] 135):=aed;rw[eH];refine .stage (hm1 i1 _) [0,1,3,4,2,6,5] [7,8,9] (.hm1 g1) acO ?_;simp only[go_sem,gj];refine(EL f _ H (hf.sub hH) acL).mono fun f' H1 ⟨hf',s1⟩=>?_
 refine⟨.hm1 (s1 _ _ g1),?_⟩;simp only[go_sem];refine(qq l _ H1 ((hlg.sub hH).sub s1) acL).mono fun l' H2 ⟨hl',s2⟩=>?_
 refine⟨.hm1 (s2 _ _ (s1 _ _ g1)),cL,(fun _ _ e=>adb),?_⟩
 have g1' :=s2 _ _ (s1 _ _ g1);have g2' :=s2 _ _ (s1 _ _ g2);simp only[go_sem,g1',hf'.rd.fit,hf'.rd.cells,hl'.rd.fit,hl'.rd.cells];have n1:∀b,upd H2 i1 b i2=some (.obj [.s [],.s [],.s [],.sl [] .full,.sl [] .full] 135):=fun b=>adm
 refine⟨fun _ _ e=>adb,fun _ _ e=>adb,?_⟩
 simp only[go_sem,n1];have hid:∀ {y:AV} {xs:List AV} {G:Heap} {tb:TypeId} {z:Nat},Ab.Sub H G→OwE tb G H2 z y xs→∀a b,OwE tb h (upd (upd H2 i1 a) i2 b) z y xs:=fun hG hw a b=>(hw.less (hH.trans hG)).keep fun id e=>by have h0:=hG.none (hw.nid e).1;rw[ag _ _ (cI h0 g2),ag _ _ (cI h0 g1)]
 refine .mk _ (.refl _) (.refl _) ⟨⟨f',l',rfl,hid (.refl _) (hf'.sub s2) _ _,hid s1 hl' _ _,fun i ef el=>?_⟩,((hH.trans (s1.trans s2)).put h1 _).put n2 _⟩
 exact(hf'.nid ef).2.1 ((hl'.nid el).1)
theorem vO{h}{x}{c}(hb:RdC h x c)(hl:c.fields.length≤1000000)(hl2:c.log.length≤1000000):ai prog 116 [x] h fun r h' =>r=ct c∧h' =h:=
 ai.freeze fun g hg _=>(yH (hb.sub hg) hl hl2).mono fun r h' ⟨⟨f,l,e,hf,hlg,_⟩,h2⟩=>⟨h2,ct c,by
  subst e;refine .agg _ _ rfl fun i h1 h2=>?_
  rcases i with _|_|_|_|_|i
  ·exact ac5
  ·exact ac5
  ·exact ac5
  ·exact hf.frz (bw (fun _=>rfl) _)
  ·exact hlg.frz (bw (fun _=>rfl) _)
  ·simp at h1;omega,rfl⟩
theorem LU(l:List ck):gW (l.map dO)=true:=bw (fun _=>rfl) l
theorem Vb:(U 271).sz=1:=acY
theorem Vc:(U 232).sz=1:=acY
theorem tJ(t)(ht:lH t=0)(h):ai prog 177 [aV t] h fun r h' =>r=aV t∧h' =h:=by
 obtain⟨hl,he⟩:=Bc ht;refine acJ func177 33 [.tmp 2] fun hwf=>?_
 simp only[go_sem,aV,acA];refine .intro (fun m ρ h' =>∃(i:Nat) (y:AV) (ys:List AV),Acc U 232 h h' y ys∧ys.length=i∧(∀j (h1:j<ys.length) (h2:j<t.length),∃q,ys[j]= .sl (t[j].map iR) q)∧i≤t.length∧m=t.length - i∧lk ρ 3=some y∧lk ρ 9=some (.sl (t.map cS) .no)∧lk ρ 10=some (.i t.length)∧lk ρ 11=some (.i i)) t.length ?_ ?_
 ·refine⟨0,_,[],.full (.refl _),rfl,fun j h1=>acL,acK,rfl,?_,?_,?_,?_⟩<;>simp only[go_sem]
 ·rintro m ρ h' ⟨i,y,ys,hy,hn,hys,hi,rfl,r3,r9,r10,r11⟩
  simp only[go_sem,r10,r11];refine .intro (fun e=>?_) (fun e=>?_)
  ·have hlt:i<t.length:=acH e
   have w1:IntKind.i64.wrap ((i:Int)+1)=((i+1:Nat):Int):=acX;obtain⟨ha0,hal,hae⟩:=Ag (he _ (acF hlt));simp only[go_sem,r9,r11];refine .at i acL acZ ?_;simp only[go_sem,acB,cS,acA];refine .intro (fun m ρ H=>∃(j:Nat) (z:AV) (zs:List AV),Acc U 271 h' H z zs∧zs=(t[i].take j).map iR∧j≤t[i].length∧m=t[i].length - j∧lk ρ 3=some y∧lk ρ 9=some (.sl (t.map cS) .no)∧lk ρ 10=some (.i t.length)∧lk ρ 11=some (.i i)∧lk ρ 6=some z∧lk ρ 15=some (.sl (t[i].map iR) .no)∧lk ρ 16=some (.i t[i].length)∧lk ρ 17=some (.i j)) t[i].length ?_ ?_
   ·refine⟨0,_,[],.full (.refl _),rfl,acK,rfl,?_,?_,?_,?_,?_,?_,?_,?_⟩<;>simp only[go_sem,r3,r9,r10,r11]
   ·rintro m ρ H ⟨j,z,zs,hz,rfl,hj,rfl,r3,r9,r10,r11,r6,r15,r16,r17⟩
    simp only[go_sem,r16,r17];refine .intro (fun e=>?_) (fun e=>?_)
    ·have hlt2:j<t[i].length:=acH e
     have w2:IntKind.i64.wrap ((j:Int)+1)=((j+1:Nat):Int):=acX;have hml:=(Af (hae _ (acF hlt2))).2.1;simp only[go_sem,r15,r17];refine .at j acL acZ ?_;simp only[go_sem,r6,acB,iR];refine(CF _ (t[i][j].map dO) _ (eR dO 7 (fun _=>rfl) _ _) acL (LU _)).pthen ?_
     simp only[go_sem];refine hz.app (zs:=[iR t[i][j]]) acN acN (fun k hk=>hk) (by rw[Vb];exact bx (f:=iR) (fun _=>rfl) _) (by rw[Vb];exact bx (f:=iR) (fun _=>rfl) [t[i][j]]) (by simp only[go_sem,acA,List.length_cons,List.length_nil,List.length_take];omega) fun z' H' hz' _=>?_
     simp only[go_sem,r17,w2];refine⟨_,?_,j+1,z',_,hz',?_,acK,rfl,?_,?_,?_,?_,?_,?_,?_,?_⟩
     ·omega
     ·grind [List.take_succ_eq_append_getElem]
     all_goals simp only[go_sem,r3,r9,r10,r11,r15,r16]
    ·have hge:j=t[i].length:=by grind
     subst hge;rw[List.take_length]at hz;have hyH:=hy.sub hz.1;obtain⟨q,rfl⟩:=hz.row;simp only[go_sem,r3,r6];refine hyH.app (zs:=[.sl (t[i].map iR) q]) acN acN (fun k hk=>hk) (by rw[Vc];intro w hw;obtain⟨k,hk,rfl⟩:=List.mem_iff_getElem.1 hw;obtain⟨q',e'⟩:=hys k hk acK;rw[e'];rfl) (by rw[Vc];intro w hw;rw[List.mem_singleton.1 hw];rfl) (by simp only[go_sem,hn,List.length_cons,List.length_nil];omega) fun y' H' hy' _=>?_
     simp only[go_sem,r11,w1];refine⟨_,?_,i+1,y',_,hy',acL,fun k h1 h2=>?_,acK,rfl,?_,?_,?_,?_⟩
     ·omega
     ·grind
     all_goals simp only[go_sem,r9,r10]
  ·have hge:i=t.length:=by grind
   simp only[go_sem,r3];obtain⟨q,rfl⟩:=hy.row;refine .mk (aV t) ?_ hy.1 ⟨rfl,rfl⟩;refine .deep _ _ q acL (fun k h1 h2=>?_) fun k h1 h2 j h3 h4=>?_
   ·obtain⟨q',e'⟩:=hys k h1 acK
    rw[e',acB];rfl
   ·obtain⟨q',e'⟩:=hys k h1 acK
    simp only[e',AV.cells,List.length_singleton]at h3;obtain rfl:j=0:=acK;simp only[e',acB,cS,AV.cells,List.getElem_singleton];exact afp
theorem yP(t):cM (aV t)=true:=by
 refine bw (fun a=>?_) t
 refine bw (fun b=>?_) a
 exact bw (fun _=>rfl) b
theorem Jl(l):cM (fA l)=true:=by simp only[fA,cM];exact bw (fun _=>rfl) l
theorem uY(l):cM (aA l)=true:=by simp only[aA,cM];exact bw (fun _=>rfl) l
theorem AZ(r):cM (aC r)=true:=by simp[aC,cM,gW,yP,Jl,uY]
mutual
theorem DS:∀p:bV,cM (aN p)=true
 |.mk id set alg tgt rules kids obls=>by simp[aN,cM,gW,yP,uY,bw AZ rules,uX kids]
theorem uX:∀l:List bV,gW (fH l)=true
 | []=>rfl
 |k::r=>by simp[fH,gW,DS k,uX r]
end
theorem js(p):(aN p).cells.length=7:=by cases p;rfl
theorem Nq{l}(h:j7 l=0):l.length≤32:=by grind [xM]
theorem G8{l}(h:ij l=0):l.length≤8:=(kH h).1
theorem vg{H:Heap}{i:Nat}{x}(h:H i=x):upd H i x=H:=by grind [ah,ag]
theorem lX{tb}{h}{sz id i:Nat}{y}{xs cs}{t}(hw:Ow tb h sz id y xs)(hi:h i=some (.obj cs t))(ht:t≠tb):id≠i:=by
 obtain⟨cap,rest,rfl,h1,_⟩:=hw
 grind
theorem lE{sz:Nat}{xs}(hs:Sized sz xs)(j:Nat)(hj:j<xs.length)(o:Nat)(c)(ho:o+c.length≤sz){rest}:
  (au xs++rest).take (j*sz+o)++c++(au xs++rest).drop (j*sz+o+c.length)=au (xs.set j (.agg (Ab.over xs[j].cells o c)))++rest:=by
 have hl:=bg hs;have hb:(j+1)*sz≤xs.length*sz:=Nat.mul_le_mul_right _ acK;rw[Nat.add_mul,Nat.one_mul]at hb;have:=LI (us:=au xs) (vs:=rest) (o:=j*sz+o) (c:=c) acK;rw[Ab.over]at this;rw[this,Iy hs j hj o c ho]
theorem qS{α:Type}{xs:List α}{i:Nat}{x:α}(h:xs[i]? =some x):xs.set i x=xs:=by obtain⟨hi,rfl⟩:=List.getElem?_eq_some_iff.1 h;simp
theorem nw(id)(set)(alg:Int)(tgt)(rules)(kids)(obls):aN (.mk id set alg tgt rules kids obls)= .agg [.s id,.b set,.i alg,aV tgt,.sl (rules.map aC) .no,.sl (kids.map aN) .no,aA obls]:=by simp[aN,bf]
theorem tI:∀(p:bV) (d:Nat),mN d p→∀h,ai prog 146 [aN p] h fun r h' =>r=aN p∧h' =h
 |.mk pid pset palg ptgt prules pkids pobls,d,hp,h=>by
  obtain⟨_,_,_,_,_,_,ht,ho,hr16,hk16,hre,hke⟩:=hp;rw[qG]at hke;have ih:∀(j:Nat) (hj:j<pkids.length) (h:Heap),ai prog 146 [aN pkids[j]] h fun r h' =>r=aN pkids[j]∧h' =h:=fun j hj h=>tI pkids[j] (d+1) (hke _ (acF hj)) h
  have hob:=G8 ho;refine ai.freeze fun g hg _=>?_
  rw[nw];refine acJ func146 72 [.cell 2 96] fun hwf=>?_
  simp only[go_sem];intro i1 h1;simp only[go_sem];intro i2 h2;have n21:=aH h2;have n2:=aB h2;simp only[go_sem];obtain⟨H,eH⟩:∃H,upd (upd g i1 (some (.obj [.s pid,.b pset,.i palg,aV ptgt,.sl (prules.map aC) .no,.sl (pkids.map aN) .no,aA pobls] 96))) i2 (some (.obj [.s [],.b false,.i 0,.sl [] .full,.sl [] .full,.sl [] .full,.sl [] .full] 96))=H:=⟨_,rfl⟩;have hH:Ab.Sub g H:=by rw[←eH];exact((Sub.refl g).put h1 _).put n2 _
  have g1:H i1=some (.obj [.s pid,.b pset,.i palg,aV ptgt,.sl (prules.map aC) .no,.sl (pkids.map aN) .no,aA pobls] 96):=aek;have g2:H i2=some (.obj [.s [],.b false,.i 0,.sl [] .full,.sl [] .full,.sl [] .full,.sl [] .full] 96):=aed;rw[eH];refine .stage (hm1 i1 _) [0,1,3,4,2,6,5] [7,8,9] (.hm1 g1) acO ?_;simp only[go_sem,gj];refine(tJ ptgt ht H).pthen ?_;refine⟨.hm1 g1,?_⟩;simp only[go_sem];refine(Al _ (pobls.map bu) H (eR bu 3 (fun _=>rfl) _ _) ade (bw (fun _=>rfl) _)).pthen ?_
  refine⟨.hm1 g1,cL,(fun _ _ e=>adb),?_⟩
  have cT:(aV ptgt).cells= [aV ptgt]:=rfl;simp only[go_sem,g1,show fit (aV ptgt) 1=(1=1)from rfl,cT]
  have eo:(.sl (pobls.map bu) .no:AV)=aA pobls:=rfl;rw[eo];refine⟨fun _ _ e=>adb,fun _ _ e=>adb,?_⟩
  rw[vg g1];refine .stage (hm1 i1 _) [0,1,3,4,2,6,5] [7,8,9] (.hm1 g1) acO ?_;simp only[go_sem,gj];refine(Ib _ (prules.map aC) H (eR aC 5 (fun _=>rfl) _ _) ade).mono fun y4 H1 ⟨w4,s1⟩=>?_
  refine⟨.hm1 (s1 _ _ g1),?_⟩;simp only[go_sem];refine(CD _ (pkids.map aN) H1 (eR aN 7 js _ _) ade).mono fun y5 H2 ⟨w5,s2⟩=>?_
  have g1' :=s2 _ _ (s1 _ _ g1);have g2' :=s2 _ _ (s1 _ _ g2);refine⟨.hm1 g1',cL,(fun _ _ e=>adb),?_⟩
  simp only[go_sem,g1',w4.rd.fit,w4.rd.cells,w5.rd.fit,w5.rd.cells];refine⟨fun _ _ e=>adb,fun _ _ e=>adb,?_⟩
  have hn4:∀id,nid y4=some id→id≠i2:=fun id e=>cI (w4.nid e).1 g2
  have hn5:∀id,nid y5=some id→id≠i2:=fun id e=>cI (w5.nid e).1 (s1 _ _ g2)
  have hnd:∀i,nid y4=some i→nid y5≠some i:=fun i e4 e5=>(w4.nid e4).2.1 (w5.nid e5).1
  have v4:∀b,OwE 237 g (upd H2 i1 b) 5 y4 (prules.map aC):=fun b=>((w4.sub s2).less hH).keep fun id e=>ag _ _ (cI (w4.nid e).1 g1)
  have v5:∀b,OwE 96 g (upd H2 i1 b) 7 y5 (pkids.map aN):=fun b=>(w5.less (hH.trans s1)).keep fun id e=>ag _ _ (cI (s1.none (w5.nid e).1) g1)
  have vs:∀b,Ab.Sub g (upd H2 i1 b):=fun b=>(hH.trans (s1.trans s2)).put h1 b
  have vz:∀b,upd H2 i1 b i2=some (.obj [.s [],.b false,.i 0,.sl [] .full,.sl [] .full,.sl [] .full,.sl [] .full] 96):=fun b=>by rw[ag _ _ n21];exact g2'
  obtain⟨H3,eH3⟩:∃H3,upd H2 i1 (some (.obj [.s pid,.b pset,.i palg,aV ptgt,y4,y5,aA pobls] 96))=H3:=⟨_,rfl⟩;have q1:H3 i1=some (.obj [.s pid,.b pset,.i palg,aV ptgt,y4,y5,aA pobls] 96):=by rw[←eH3,ah]
  replace v4:=v4 (some (.obj [.s pid,.b pset,.i palg,aV ptgt,y4,y5,aA pobls] 96));replace v5:=v5 (some (.obj [.s pid,.b pset,.i palg,aV ptgt,y4,y5,aA pobls] 96));replace vs:=vs (some (.obj [.s pid,.b pset,.i palg,aV ptgt,y4,y5,aA pobls] 96));replace vz:=vz (some (.obj [.s pid,.b pset,.i palg,aV ptgt,y4,y5,aA pobls] 96));rw[eH3]at v4 v5 vs vz;rw[eH3];clear eH3;have hi1:∀id,g id=none→∀ {K:Heap} {b:Blk},K id=some b→K id≠none:=fun id _ K b e=>by rw[e];simp
  simp only[go_sem,v4.rd.len,acA];refine .intro (fun m ρ G=>∃i:Nat,G i1=some (.obj [.s pid,.b pset,.i palg,aV ptgt,y4,y5,aA pobls] 96)∧G i2=some (.obj [.s [],.b false,.i 0,.sl [] .full,.sl [] .full,.sl [] .full,.sl [] .full] 96)∧Ab.Sub g G∧OwE 237 g G 5 y4 (prules.map aC)∧OwE 96 g G 7 y5 (pkids.map aN)∧i≤prules.length∧m=prules.length - i∧
   lk ρ 1=some (.ptr i1 0)∧lk ρ 2=some (.ptr i2 0)∧lk ρ 24=some y4∧lk ρ 25=some (.i prules.length)∧lk ρ 26=some (.i i)) prules.length ?_ ?_
  ·refine⟨0,q1,vz,vs,v4,v5,acK,rfl,?_,?_,?_,?_,?_⟩<;>simp only[go_sem]
  ·rintro m ρ G ⟨i,q1,vz,vs,v4,v5,hi,rfl,r1,r2,r24,r25,r26⟩
   simp only[go_sem,r25,r26];refine .intro (fun e=>?_) (fun e=>?_)
   ·have hlt:i<prules.length:=acH e
    have w1:=acG i acK;obtain⟨_,rt,rc,ro⟩:=hre _ (acF hlt);have hrc:=Nq rc;have hro:=G8 ro;simp only[go_sem,r24,r26];refine v4.rd.idx (e:=237) i rfl ada acT acN fun p hp1=>?_
    have hld:=hp1.all (U:=U) (ty:=237) acT adp adp;simp only[go_sem,hld,acB,aC];intro i4 h4;have n41:i4≠i1:=cI h4 q1;simp only[go_sem];obtain⟨G4,eG4⟩:∃G4,upd G i4 (some (.obj [.s prules[i].id,.b prules[i].deny,aV prules[i].tgt,fA prules[i].cond,aA prules[i].obls] 237))=G4:=⟨_,rfl⟩;rw[eG4];have p1:G4 i1=some (.obj [.s pid,.b pset,.i palg,aV ptgt,y4,y5,aA pobls] 96):=afo;have p4:G4 i4=some (.obj [.s prules[i].id,.b prules[i].deny,aV prules[i].tgt,fA prules[i].cond,aA prules[i].obls] 237):=by rw[←eG4,ah]
    have sG:Ab.Sub G G4:=af1;refine .calls (hm2 i1 (.obj [.s pid,.b pset,.i palg,aV ptgt,y4,y5,aA pobls] 96) i4 (.obj [.s prules[i].id,.b prules[i].deny,aV prules[i].tgt,fA prules[i].cond,aA prules[i].obls] 237)) [0,1,2,3,4,5,6,7,8,9,10,12,13,15,16,11,14,17,18,19,20,21,22,23,24,25,26] (.hm2 p1 p4) acO rfl ?_;simp only[go_sem,r1,ru _ _ n41.symm,ry];refine(tJ prules[i].tgt rt G4).pthen ?_;refine⟨.hm2 p1 p4,?_⟩;simp only[go_sem];refine(EO _ (prules[i].cond.map dH) G4 (eR dH 7 (fun _=>rfl) _ _) ade (bw (fun _=>rfl) _)).pthen ?_
    refine⟨.hm2 p1 p4,?_⟩;simp only[go_sem];refine(Al _ (prules[i].obls.map bu) G4 (eR bu 3 (fun _=>rfl) _ _) ade (bw (fun _=>rfl) _)).pthen ?_
    refine⟨.hm2 p1 p4,?_⟩;simp only[go_sem];obtain⟨id4,hg4,o4⟩:=(v4.sub sG).ow aeV;have m1:id4≠i1:=lX o4 p1 acN;have m4:id4≠i4:=fun e=>(v4.nid o4.nid).2.1 agJ
    refine o4.idx (U:=U) (e:=237) i rfl ada acT acN ?_;simp only[go_sem];have o4' :=o4;obtain⟨cap,rest,ey,hid,hr,hc,hsz⟩:=o4';have hbd:i*5+5≤(au (prules.map aC)++rest).length:=by rw[acE,bg hsz,acA];omega
    have e2:List.take (i*5+2) (au (prules.map aC)++rest)++(aV prules[i].tgt).cells++List.drop (i*5+2+(aV prules[i].tgt).cells.length) (au (prules.map aC)++rest)=au (prules.map aC)++rest:=by refine(lE hsz i ada 2 ((aV prules[i].tgt).cells) (acz rfl)).trans ?_;exact aim
    have e3:List.take (i*5+3) (au (prules.map aC)++rest)++ [.sl (prules[i].cond.map dH) .no]++List.drop (i*5+3+1) (au (prules.map aC)++rest)=au (prules.map aC)++rest:=by refine(lE hsz i ada 3 ([.sl (prules[i].cond.map dH) .no]) (acz rfl)).trans ?_;exact aim
    have e4:List.take (i*5+4) (au (prules.map aC)++rest)++ [.sl (prules[i].obls.map bu) .no]++List.drop (i*5+4+1) (au (prules.map aC)++rest)=au (prules.map aC)++rest:=by refine(lE hsz i ada 4 ([.sl (prules[i].obls.map bu) .no]) (acz rfl)).trans ?_;exact aim
    simp only[go_sem,hid];rw[e2,vg hid];refine⟨rfl,acK,.hm2 p1 p4,?_⟩;refine o4.idx (U:=U) (e:=237) i rfl ada acT acN ?_;simp only[go_sem,hid];rw[e3,vg hid];refine⟨acK,.hm2 p1 p4,?_⟩;refine o4.idx (U:=U) (e:=237) i rfl ada acT acN ?_;simp only[go_sem,hid];rw[e4,vg hid];refine⟨acK,.hm2 p1 p4,?_⟩;simp only[go_sem,r26,w1];refine⟨_,?_,i+1,p1,sG _ _ vz,vs.trans sG,v4.sub sG,v5.sub sG,acK,rfl,?_,?_,?_,?_,?_⟩
    ·omega
    all_goals simp only[go_sem,r1,r2,r24,r25]
   ·have hge:i=prules.length:=by have:=acD e;omega
    clear hge;simp only[go_sem,r1,q1,v5.rd.len,acA];refine .intro (fun m ρ G=>∃i:Nat,G i1=some (.obj [.s pid,.b pset,.i palg,aV ptgt,y4,y5,aA pobls] 96)∧G i2=some (.obj [.s [],.b false,.i 0,.sl [] .full,.sl [] .full,.sl [] .full,.sl [] .full] 96)∧Ab.Sub g G∧OwE 237 g G 5 y4 (prules.map aC)∧OwE 96 g G 7 y5 (pkids.map aN)∧i≤pkids.length∧m=pkids.length - i∧
     lk ρ 1=some (.ptr i1 0)∧lk ρ 2=some (.ptr i2 0)∧lk ρ 57=some y5∧lk ρ 58=some (.i pkids.length)∧lk ρ 59=some (.i i)) pkids.length ?_ ?_
    ·refine⟨0,q1,vz,vs,v4,v5,acK,rfl,?_,?_,?_,?_,?_⟩<;>simp only[go_sem,r1,r2]
    ·clear r1 r2 r24 r25 r26 q1 vz vs v4 v5 e hi
     rintro m ρ G ⟨i,q1,vz,vs,v4,v5,hi,rfl,r1,r2,r57,r58,r59⟩
     simp only[go_sem,r58,r59];refine .intro (fun e=>?_) (fun e=>?_)
     ·have hlt:i<pkids.length:=acH e
      have w1:=acG i acK;have ihi:=ih i hlt;have hci:=js pkids[i];cases hpk:pkids[i]with
      |mk kid kset kalg ktgt krules kkids kobls=>
      rw[hpk,nw]at ihi;simp only[go_sem,r57,r59];refine v5.rd.idx (e:=96) i rfl ada acT acN fun p hp1=>?_
      have hld:=hp1.all (U:=U) (ty:=96) acT (by simp only[go_sem];rw[acB];exact hci) (by simp only[go_sem];rw[acB,hpk,nw];rfl)
      simp only[go_sem,hld,acB,hpk,nw];intro i4 h4;have n41:i4≠i1:=cI h4 q1;simp only[go_sem];obtain⟨G4,eG4⟩:∃G4,upd G i4 (some (.obj [.s kid,.b kset,.i kalg,aV ktgt,.sl (krules.map aC) .no,.sl (kkids.map aN) .no,aA kobls] 96))=G4:=⟨_,rfl⟩;rw[eG4];have p1:G4 i1=some (.obj [.s pid,.b pset,.i palg,aV ptgt,y4,y5,aA pobls] 96):=afo;have p4:G4 i4=some (.obj [.s kid,.b kset,.i kalg,aV ktgt,.sl (krules.map aC) .no,.sl (kkids.map aN) .no,aA kobls] 96):=by rw[←eG4,ah]
      have sG:Ab.Sub G G4:=af1;refine .calls (hm2 i1 (.obj [.s pid,.b pset,.i palg,aV ptgt,y4,y5,aA pobls] 96) i4 (.obj [.s kid,.b kset,.i kalg,aV ktgt,.sl (krules.map aC) .no,.sl (kkids.map aN) .no,aA kobls] 96)) [0,1,2,3,4,5,6] (.hm2 p1 p4) acO rfl ?_;simp only[go_sem,r1,ru _ _ n41.symm,ry];refine(ihi G4).pthen ?_;refine⟨.hm2 p1 p4,?_⟩;simp only[go_sem];obtain⟨id4,hg4,o4⟩:=(v5.sub sG).ow aeV;have o4' :=o4;obtain⟨cap,rest,ey,hid,hr,hc,hsz⟩:=o4';have hbd:i*7+7≤(au (pkids.map aN)++rest).length:=by rw[acE,bg hsz,acA];omega
      have e2:List.take (i*7) (au (pkids.map aN)++rest)++ [.s kid,.b kset,.i kalg,aV ktgt,.sl (krules.map aC) .no,.sl (kkids.map aN) .no,aA kobls]++List.drop (i*7+7) (au (pkids.map aN)++rest)=au (pkids.map aN)++rest:=by refine(lE hsz i ada 0 [.s kid,.b kset,.i kalg,aV ktgt,.sl (krules.map aC) .no,.sl (kkids.map aN) .no,aA kobls] (acz rfl)).trans ?_;rw[qS];rw[List.getElem?_eq_getElem ada,acB,hpk,nw];rfl
      refine o4.idx (U:=U) (e:=96) i rfl ada acT acN ?_;simp only[go_sem,hid];rw[e2,vg hid];refine⟨acK,.hm2 p1 p4,?_⟩;simp only[go_sem,r59,w1];refine⟨_,?_,i+1,p1,sG _ _ vz,vs.trans sG,v4.sub sG,v5.sub sG,acK,rfl,?_,?_,?_,?_,?_⟩
      ·omega
      all_goals simp only[go_sem,r1,r2,r57,r58]
     ·simp only[go_sem,r1,r2,q1,vz]
      refine .mk _ (.refl _) (.refl _) ⟨vs.put n2 _,aN (.mk pid pset palg ptgt prules pkids pobls),?_,nw ..⟩;rw[nw];have z4:∀b,Frz g (upd G i2 b) y4 (.sl (prules.map aC) .no):=fun b=>(v4.keep fun id e=>ag _ _ (hn4 id e)).frz (bw AZ prules)
      have z5:∀b,Frz g (upd G i2 b) y5 (.sl (pkids.map aN) .no):=fun b=>(v5.keep fun id e=>ag _ _ (hn5 id e)).frz (by rw[←bf];exact uX pkids)
      refine .agg _ _ rfl fun k k1 k2=>?_
      rcases k with _|_|_|_|_|_|_|k
      ·exact ac5
      ·exact ac5
      ·exact ac5
      ·exact .pure (yP _)
      ·exact z4 _
      ·exact z5 _
      ·exact .pure (uY _)
      ·simp at k1;omega
termination_by p=>SizeOf.sizeOf p
decreasing_by
 have:=List.sizeOf_lt_of_mem (acF hj);simp only[bV.mk.sizeOf_spec];omega
end Go.Proofs.YteaaeelhjnhaaaaGreatDoor
namespace Go.Ab
open Go
def apart(a b:AV):Prop:=∀i,nid a=some i→nid b≠some i
theorem apart.symm{a b}(h:apart a b):apart b a:=fun i e1 e2=>h i e2 e1
theorem dX{a y}{tb}{g h}{sz:Nat}{xs}(hw:OwE tb g h sz y xs)(ha:∀i,nid a=some i→g i≠none):apart a y:=fun i e1 e2=>ha i e1 (hw.nid e2).1
theorem OwE.there{tb}{h0 h h' :Heap}{sz:Nat}{y}{xs}(hw:OwE tb h0 h sz y xs)(hs:∀i,h i≠Option.none→h' i≠Option.none):∀i,Ab.nid y=some i→h' i≠Option.none:=fun i e=>hs i (hw.nid e).2.1
theorem Sub.some{h h'}(hs:Sub h h'):∀i,h i≠Option.none→h' i≠Option.none:=fun i e e' =>e (hs.none e')
end Go.Ab
namespace Go.Proofs.YteaaeelhjnhaaaaGreatDoor
open Go Go.Ab Go.Bf Tryz
def fu(h0 h:Heap)(ys:List AV)(x:AV)(c:aU):Prop:=∃f l,x= .agg [.s c.id,.s c.owner,.s c.state,f,l]∧OwE 189 h0 h 4 f (c.fields.map bO)∧OwE 177 h0 h 3 l (c.log.map iI)∧apart f l∧∀y∈ys,apart f y∧apart l y
def l9(h0 h:Heap)(ys:List AV)(y1:AV)(cs:List aU)(i0:Nat):Prop:=∃xs,OwE 135 h0 h 5 y1 xs∧xs.length=cs.length∧(∀j (h1:j<xs.length) (h2:j<cs.length),j≠i0→xs[j]=ct cs[j])∧∀(h1:i0<xs.length) (h2:i0<cs.length),fu h0 h ys xs[i0] cs[i0]
def sJ(h0 h:Heap)(x:AV)(s:aq)(i0:Nat):Prop:=∃y1 y2 y3 y4,x= .agg ([.i s.tick,y1,y2,y3,y4]++fZ s.policy++ [.i s.version])∧l9 h0 h [y1,y2,y3,y4] y1 s.cases i0∧
 OwE 170 h0 h 7 y2 (s.reviews.map iM)∧OwE 173 h0 h 3 y3 (s.notices.map mT)∧OwE 161 h0 h 2 y4 (s.roles.map eL)∧apart y1 y2∧apart y1 y3∧apart y1 y4∧apart y2 y3∧apart y2 y4∧apart y3 y4
theorem Jg{cs L}(h:L.length=cs.length):Ab.over cs 0 L=L:=by simp_all [Ab.over,List.take_zero,List.nil_append,Nat.zero_add,List.drop_of_length_le,List.append_nil]
theorem DI{h:Heap}{x}{c}(i i0:Nat)(hb:RdC h x c)(hl:c.fields.length≤1000000)(hl2:c.log.length≤1000000):ai prog 116 [x] h fun r h' =>
  ∃f l,r= .agg [.s c.id,.s c.owner,.s c.state,f,l]∧Ab.Sub h h'∧f.cells= [f]∧l.cells= [l]∧(i≠i0→f=gz c.fields∧l=so c.log)∧(i=i0→OwE 189 h h' 4 f (c.fields.map bO)∧OwE 177 h h' 3 l (c.log.map iI)∧apart f l):=by
 by_cases e:i=i0
 ·exact(yH hb hl hl2).mono fun r h' ⟨⟨f,l,e1,a,b,c⟩,d⟩=>⟨f,l,e1,d,a.rd.cells,b.rd.cells,fun hh=>(hh e).elim,fun _=>⟨a,b,c⟩⟩
 ·exact(vO hb hl hl2).mono fun r h' ⟨e1,e2⟩=>⟨_,_,e1,by rw[e2];exact .refl _,rfl,rfl,fun _=>⟨rfl,rfl⟩,fun hh=>(e hh).elim⟩
theorem fu.sub{h0 h h'}{ys}{x}{c}(hm:fu h0 h ys x c)(hs:Ab.Sub h h'):fu h0 h' ys x c:=by obtain⟨f,l,e,a,b,c,d⟩:=hm;exact⟨f,l,e,a.sub hs,b.sub hs,c,d⟩
theorem fu.keep{h0 h h'}{ys}{x}{c}(hm:fu h0 h ys x c)(hs:∀f l,x= .agg [.s c.id,.s c.owner,.s c.state,f,l]→(∀y∈ys,apart f y∧apart l y)→∀i,(nid f=some i∨nid l=some i)→h' i=h i):fu h0 h' ys x c:=by obtain⟨f,l,e,a,b,c,d⟩:=hm;exact⟨f,l,e,a.keep fun i hi=>hs f l e d i (.inl hi),b.keep fun i hi=>hs f l e d i (.inr hi),c,d⟩
theorem Rw{h:Heap}{x:AV}{s:aq}(hb:RdS h x s)(i0:Nat)(hf:Few s)(hp:mN 1 s.policy):ai prog 110 [x] h fun r h' =>sJ h h' r s i0∧Ab.Sub h h' :=by
 obtain⟨y1,y2,y3,y4,rfl,⟨xs0,hc,hn,hcs⟩,h2,h3,h4⟩:=hb;have hpo:=tI s.policy 1 hp;cases hpp:s.policy with
 |mk pid pset palg ptgt prules pkids pobls=>
 rw[hpp,nw]at hpo;have hcC:fZ (.mk pid pset palg ptgt prules pkids pobls)= [.s pid,.b pset,.i palg,aV ptgt,.sl (prules.map aC) .no,.sl (pkids.map aN) .no,aA pobls]:=afM;have hfc:=hf.cases;refine acJ func110 41 [.cell 2 98] fun hwf=>?_
 simp only[go_sem,hcC,List.cons_append,List.nil_append];intro i1 h1;simp only[go_sem];intro i2 h2';have n21:=aH h2';have n2:=aB h2';simp only[go_sem,ak,n21.symm];obtain⟨H,eH⟩:∃H,upd (upd h i1 (some (.obj [.i s.tick,y1,y2,y3,y4,.s pid,.b pset,.i palg,aV ptgt,.sl (prules.map aC) .no,.sl (pkids.map aN) .no,aA pobls,.i s.version] 98))) i2 (some (.obj [.i 0,.sl [] .full,.sl [] .full,.sl [] .full,.sl [] .full,.s [],.b false,.i 0,.sl [] .full,.sl [] .full,.sl [] .full,.sl [] .full,.i 0] 98))=H:=⟨_,rfl⟩;have hH:Ab.Sub h H:=adH;have g1:H i1=some (.obj [.i s.tick,y1,y2,y3,y4,.s pid,.b pset,.i palg,aV ptgt,.sl (prules.map aC) .no,.sl (pkids.map aN) .no,aA pobls,.i s.version] 98):=aek;have g2:H i2=some (.obj [.i 0,.sl [] .full,.sl [] .full,.sl [] .full,.sl [] .full,.s [],.b false,.i 0,.sl [] .full,.sl [] .full,.sl [] .full,.sl [] .full,.i 0] 98):=aed;rw[eH];clear eH;refine(Aj y1 xs0 H (hc.sub hH) acK).mono fun z1 H1 ⟨w1,s1⟩=>?_
 simp only[go_sem,s1 _ _ g1,w1.rd.fit,w1.rd.cells];have v1:∀b,OwE 135 h (upd H1 i1 b) 5 z1 xs0:=fun b=>(w1.less hH).keep fun id e=>ag _ _ (cI (w1.nid e).1 g1)
 have vs:∀b,Ab.Sub h (upd H1 i1 b):=fun b=>(hH.trans s1).put h1 b
 have vz:∀b,upd H1 i1 b i2=some (.obj [.i 0,.sl [] .full,.sl [] .full,.sl [] .full,.sl [] .full,.s [],.b false,.i 0,.sl [] .full,.sl [] .full,.sl [] .full,.sl [] .full,.i 0] 98):=fun b=>by rw[ag _ _ n21];exact s1 _ _ g2
 have hz1:∀id,nid z1=some id→id≠i1:=fun id e=>cI (w1.nid e).1 g1
 have hz2:∀id,nid z1=some id→id≠i2:=fun id e=>cI (w1.nid e).1 g2
 obtain⟨H2,eH2⟩:∃H2,upd H1 i1 (some (.obj [.i s.tick,z1,y2,y3,y4,.s pid,.b pset,.i palg,aV ptgt,.sl (prules.map aC) .no,.sl (pkids.map aN) .no,aA pobls,.i s.version] 98))=H2:=⟨_,rfl⟩;replace v1:=v1 (some (.obj [.i s.tick,z1,y2,y3,y4,.s pid,.b pset,.i palg,aV ptgt,.sl (prules.map aC) .no,.sl (pkids.map aN) .no,aA pobls,.i s.version] 98));replace vs:=vs (some (.obj [.i s.tick,z1,y2,y3,y4,.s pid,.b pset,.i palg,aV ptgt,.sl (prules.map aC) .no,.sl (pkids.map aN) .no,aA pobls,.i s.version] 98));replace vz:=vz (some (.obj [.i s.tick,z1,y2,y3,y4,.s pid,.b pset,.i palg,aV ptgt,.sl (prules.map aC) .no,.sl (pkids.map aN) .no,aA pobls,.i s.version] 98));have q1:H2 i1=some (.obj [.i s.tick,z1,y2,y3,y4,.s pid,.b pset,.i palg,aV ptgt,.sl (prules.map aC) .no,.sl (pkids.map aN) .no,aA pobls,.i s.version] 98):=by rw[←eH2,ah]
 rw[eH2]at v1 vs vz;rw[eH2];clear eH2;simp only[go_sem,v1.rd.len,hn];refine .intro (fun m ρ G=>∃(i:Nat) (xs:List AV),G i1=some (.obj [.i s.tick,z1,y2,y3,y4,.s pid,.b pset,.i palg,aV ptgt,.sl (prules.map aC) .no,.sl (pkids.map aN) .no,aA pobls,.i s.version] 98)∧G i2=some (.obj [.i 0,.sl [] .full,.sl [] .full,.sl [] .full,.sl [] .full,.s [],.b false,.i 0,.sl [] .full,.sl [] .full,.sl [] .full,.sl [] .full,.i 0] 98)∧Ab.Sub h G∧OwE 135 h G 5 z1 xs∧xs.length=s.cases.length∧(∀j (h1:j<xs.length) (h2:j<s.cases.length),j<i→j≠i0→xs[j]=ct s.cases[j])∧(∀(h1:i0<xs.length) (h2:i0<s.cases.length),i0<i→fu h G [z1] xs[i0] s.cases[i0])∧(∀j (h1:j<xs.length) (h2:j<s.cases.length),i≤j→RdC h xs[j] s.cases[j])∧i≤s.cases.length∧m=s.cases.length - i∧
  lk ρ 1=some (.ptr i1 0)∧lk ρ 2=some (.ptr i2 0)∧lk ρ 10=some z1∧lk ρ 11=some (.i s.cases.length)∧lk ρ 12=some (.i i)) s.cases.length ?_ ?_
 ·refine⟨0,xs0,q1,vz,vs,v1,hn,fun j _ _ hj=>acK,fun _ _ hj=>acK,fun j a b _=>hcs j a b,acK,rfl,?_,?_,?_,?_,?_⟩<;>simp only[go_sem]
 ·rintro m ρ G ⟨i,xs,q1,vz,vs,v1,hn,hlo,hmy,hhi,hi,rfl,r1,r2,r10,r11,r12⟩
  simp only[go_sem,r11,r12];refine .intro (fun e=>?_) (fun e=>?_)
  ·have hlt:i<s.cases.length:=acH e
   have hltx:i<xs.length:=acK;have w1:=acG i acK;obtain⟨f,l,ex,hfl,hlg⟩:=hhi i hltx hlt (Nat.le_refl _);have hff:=hf.fields _ (acF hlt);have hfg:=hf.log _ (acF hlt);simp only[go_sem,r10,r12];refine v1.rd.idx (e:=135) i rfl hltx nJ acN fun p hp1=>?_
   have hld:=hp1.all (U:=U) (ty:=135) acT (by rw[nJ,ex];rfl) (by simp only[go_sem];rw[ex];rfl)
   simp only[go_sem,hld,ex];intro i4 h4;have n41:i4≠i1:=cI h4 q1;simp only[go_sem];obtain⟨G4,eG4⟩:∃G4,upd G i4 (some (.obj [.s s.cases[i].id,.s s.cases[i].owner,.s s.cases[i].state,f,l] 135))=G4:=⟨_,rfl⟩;rw[eG4];have p1:G4 i1=some (.obj [.i s.tick,z1,y2,y3,y4,.s pid,.b pset,.i palg,aV ptgt,.sl (prules.map aC) .no,.sl (pkids.map aN) .no,aA pobls,.i s.version] 98):=afo;have p4:G4 i4=some (.obj [.s s.cases[i].id,.s s.cases[i].owner,.s s.cases[i].state,f,l] 135):=by rw[←eG4,ah]
   have sG:Ab.Sub G G4:=af1;refine .calls (hm2 i1 (.obj [.i s.tick,z1,y2,y3,y4,.s pid,.b pset,.i palg,aV ptgt,.sl (prules.map aC) .no,.sl (pkids.map aN) .no,aA pobls,.i s.version] 98) i4 (.obj [.s s.cases[i].id,.s s.cases[i].owner,.s s.cases[i].state,f,l] 135)) [0,1,2,3,4,5,6] (.hm2 p1 p4) acO rfl ?_;simp only[go_sem,r1,ru _ _ n41.symm,ry];refine(DI i i0 (show RdC G4 (.agg [.s s.cases[i].id,.s s.cases[i].owner,.s s.cases[i].state,f,l]) s.cases[i]from⟨f,l,rfl,hfl.sub (vs.trans sG),hlg.sub (vs.trans sG)⟩) hff hfg).mono fun r G5 ⟨f',l',er,s5,cf,cl,hne,heq⟩=>?_
   subst er;have p1' :=s5 _ _ p1;have p4' :=s5 _ _ p4;refine⟨.hm2 p1' p4',?_⟩;simp only[go_sem];obtain⟨id1,hg1,o1⟩:=((v1.sub sG).sub s5).ow (by intro e;rw[e]at hltx;cases hltx)
   have t1:id1≠i1:=lX o1 p1' acN;have t2:id1≠i2:=hz2 id1 o1.nid;have t3:G4 id1≠none:=fun e=>(v1.nid o1.nid).2.1 (sG.none e)
   have o1' :=o1;obtain⟨cap,rest,ey,hid,hr,hcap,hsz⟩:=o1';have hbd:i*5+5≤(au xs++rest).length:=by rw[acE,bg hsz];omega
   have hx5:xs[i].cells.length=5:=hsz _ (acF hltx);have e2:List.take (i*5) (au xs++rest)++ [.s s.cases[i].id,.s s.cases[i].owner,.s s.cases[i].state,f',l']++List.drop (i*5+5) (au xs++rest)=au (xs.set i (.agg [.s s.cases[i].id,.s s.cases[i].owner,.s s.cases[i].state,f',l']))++rest:=by refine(lE hsz i hltx 0 [.s s.cases[i].id,.s s.cases[i].owner,.s s.cases[i].state,f',l'] (acz rfl)).trans ?_;rw[Jg (by rw[hx5];rfl)]
   refine o1.idx (U:=U) (e:=135) i rfl hltx nJ acN ?_;simp only[go_sem,hid];rw[e2];have t4:id1≠i4:=fun e=>(v1.nid o1.nid).2.1 agJ
   refine⟨acK,.hm2 (by rw[ag _ _ t1.symm];exact p1') (by rw[ag _ _ t4.symm];exact p4'),?_⟩
   simp only[go_sem,r12,w1];have ho:∀b k,k≠id1→upd G5 id1 b k=G5 k:=fun b k hk=>ag _ _ hk
   have hs6:∀b,Ab.Sub h (upd G5 id1 b):=fun b=>((vs.trans sG).trans s5).put hg1 b
   refine⟨_,?_,i+1,xs.set i (.agg [.s s.cases[i].id,.s s.cases[i].owner,.s s.cases[i].state,f',l']),(ho _ _ t1.symm).trans p1',(ho _ _ t2.symm).trans (s5 _ _ (sG _ _ vz)),hs6 _,.inr ⟨id1,hg1,cap,rest,ae4,ah ..,by rw[List.length_set];exact hr,aeW,?_⟩,by rw[List.length_set];exact hn,fun j a b hj hj0=>?_,fun a b hj=>?_,fun j a b hj=>?_,acK,rfl,?_,?_,?_,?_,?_⟩
   ·omega
   ·intro z hz
    exact ahy
   ·have a' :j<xs.length:=by rw[List.length_set]at a;exact a
    by_cases hji:j=i
    ·subst hji
     obtain⟨ef,el⟩:=hne hj0;rw[List.getElem_set_self,ef,el];rfl
    ·rw[List.getElem_set_ne (Ne.symm hji)]
     exact hlo j a' b acK hj0
   ·have a' :i0<xs.length:=by rw[List.length_set]at a;exact a
    by_cases hji:i=i0
    ·subst hji
     obtain⟨of,ol,hap⟩:=heq rfl;have kf:∀k,G4 k=none→upd G5 id1 (some (.obj (au (xs.set i (.agg [.s s.cases[i].id,.s s.cases[i].owner,.s s.cases[i].state,f',l']))++rest) 135)) k=G5 k:=fun k hk=>ag _ _ fun e=>t3 (by rw[←e];exact hk)
     rw[List.getElem_set_self];refine⟨f',l',rfl,(of.less (vs.trans sG)).keep fun k hk=>kf k (of.nid hk).1,(ol.less (vs.trans sG)).keep fun k hk=>kf k (ol.nid hk).1,hap,fun y hy=>?_⟩
     rw[List.mem_singleton.1 hy];have hz1:∀k,nid z1=some k→G4 k≠none:=(v1.sub sG).there fun k hk=>hk
     exact⟨(dX of hz1).symm,(dX ol hz1).symm⟩
    ·rw[List.getElem_set_ne hji]
     have hm:=hmy a' b acK;refine fu.keep (h:=G5) ((hm.sub sG).sub s5) fun f l ex hap k hk=>?_
     refine ag _ _ fun e=>?_
     subst e;rcases hk with hk|hk
     ·exact(hap z1 (List.mem_singleton.2 rfl)).1 _ hk o1.nid
     ·exact(hap z1 (List.mem_singleton.2 rfl)).2 _ hk o1.nid
   ·have a' :j<xs.length:=by rw[List.length_set]at a;exact a
    rw[List.getElem_set_ne acK];exact hhi j a' b acK
   all_goals simp only[go_sem,r1,r2,r10,r11]
  ·have hge:i=s.cases.length:=by have:=acD e;omega
   simp only[go_sem];refine .stage (hm1 i1 (.obj [.i s.tick,z1,y2,y3,y4,.s pid,.b pset,.i palg,aV ptgt,.sl (prules.map aC) .no,.sl (pkids.map aN) .no,aA pobls,.i s.version] 98)) [0,1,3,4,6,7,2,9,5,8] [10,11,12,13,14] (.hm1 q1) acO ?_;simp only[go_sem,r1,gj];refine(vu y2 _ G (h2.sub vs) (by rw[acA];exact hf.reviews)).mono fun z2 G1 ⟨o2,s1⟩=>?_
   refine⟨.hm1 (s1 _ _ q1),?_⟩;simp only[go_sem,r1];refine(vt y3 _ G1 ((h3.sub vs).sub s1) (by rw[acA];exact hf.notices)).mono fun z3 G2 ⟨o3,s2⟩=>?_
   refine⟨.hm1 (s2 _ _ (s1 _ _ q1)),?_⟩;simp only[go_sem];refine(Ia y4 _ G2 (((h4.sub vs).sub s1).sub s2) (by rw[acA];exact hf.roles)).mono fun z4 G3 ⟨o4,s3⟩=>?_
   have s03:Ab.Sub G G3:=s1.trans (s2.trans s3);have q1' :=s03 _ _ q1;have q2' :=s03 _ _ vz;refine⟨.hm1 q1',cL,(fun _ _ e=>adb),?_⟩
   simp only[go_sem,r1,q1',o2.rd.fit,o2.rd.cells,o3.rd.fit,o3.rd.cells,o4.rd.fit,o4.rd.cells];refine⟨fun _ _ e=>adb,fun _ _ e=>adb,fun _ _ e=>adb,?_⟩
   refine(show ai prog 146 [_] _ _ from hpo _).pthen ?_
   have vz' :∀b,upd G3 i1 b i2=some (.obj [.i 0,.sl [] .full,.sl [] .full,.sl [] .full,.sl [] .full,.s [],.b false,.i 0,.sl [] .full,.sl [] .full,.sl [] .full,.sl [] .full,.i 0] 98):=fun b=>by rw[ag _ _ n21];exact q2'
   simp only[go_sem,r1,r2,vz'];have k1:∀ {tb:TypeId} {z:AV} {xs:List AV} {n:Nat} {g:Heap},OwE tb g G3 n z xs→Ab.Sub h g→(∀id,nid z=some id→id≠i1∧id≠i2)→∀a b,OwE tb h (upd (upd G3 i1 a) i2 b) n z xs:=fun w hg hn a b=>(w.less hg).keep fun id e=>by rw[ag _ _ (hn id e).2,ag _ _ (hn id e).1]
   have new:∀ {tb:TypeId} {z:AV} {xs:List AV} {n:Nat} {g:Heap},OwE tb g G3 n z xs→Ab.Sub G g→∀id,nid z=some id→id≠i1∧id≠i2:=fun w hg id e=>⟨cI (w.nid e).1 (hg _ _ q1),cI (w.nid e).1 (hg _ _ vz)⟩
   have n2' :=new (o2.sub (s2.trans s3)) (.refl _);have n3' :=new (o3.sub s3) s1;have n4' :=new o4 (s1.trans s2);have n1' :∀id,nid z1=some id→id≠i1∧id≠i2:=fun id e=>⟨hz1 id e,hz2 id e⟩
   have aG:∀k,nid z1=some k→G k≠none:=v1.there fun k hk=>hk
   refine .mk _ (.refl _) (.refl _) ⟨⟨z1,z2,z3,z4,by rw[hpp,hcC];rfl,⟨xs,k1 (v1.sub s03) (.refl _) n1' _ _,hn,fun j a b hj=>hlo j a b acK hj,fun a b=>?_⟩,k1 (o2.sub (s2.trans s3)) vs n2' _ _,k1 (o3.sub s3) (vs.trans s1) n3' _ _,k1 o4 (vs.trans (s1.trans s2)) n4' _ _,?_,?_,?_,?_,?_,?_⟩,((vs.trans s03).put h1 _).put n2 _⟩
   ·have hm:=(hmy a b acK).sub s03
    obtain⟨f,l,ex,of,ol,hap,hy⟩:=hm;obtain⟨af,al⟩:=hy z1 (List.mem_singleton.2 rfl);have kf:∀k,nid f=some k→k≠i1∧k≠i2:=fun k hk=>⟨lX (of.nid hk).2.2 q1' acN,lX (of.nid hk).2.2 q2' acN⟩
    have kl:∀k,nid l=some k→k≠i1∧k≠i2:=fun k hk=>⟨lX (ol.nid hk).2.2 q1' acN,lX (ol.nid hk).2.2 q2' acN⟩
    obtain⟨f0,l0,ex0,of0,ol0,_⟩:=hmy a b acK;obtain⟨rfl,rfl⟩:f0=f∧l0=l:=by rw[ex0]at ex;simp only[AV.agg.injEq,List.cons.injEq,true_and,and_true]at ex;exact ex
    have gf:∀k,nid f0=some k→G k≠none:=of0.there fun k hk=>hk
    have gl:∀k,nid l0=some k→G k≠none:=ol0.there fun k hk=>hk
    refine⟨f0,l0,ex,k1 of (.refl _) kf _ _,k1 ol (.refl _) kl _ _,hap,fun y hy=>?_⟩
    simp only[List.mem_cons,List.not_mem_nil,or_false]at hy;rcases hy with rfl|rfl|rfl|rfl
    ·exact⟨af,al⟩
    ·exact⟨dX o2 gf,dX o2 gl⟩
    ·exact⟨dX o3 fun k hk=>s1.some k (gf k hk),dX o3 fun k hk=>s1.some k (gl k hk)⟩
    ·exact⟨dX o4 fun k hk=>(s1.trans s2).some k (gf k hk),dX o4 fun k hk=>(s1.trans s2).some k (gl k hk)⟩
   ·exact dX o2 aG
   ·exact dX o3 fun k hk=>s1.some k (aG k hk)
   ·exact dX o4 fun k hk=>(s1.trans s2).some k (aG k hk)
   ·exact dX o3 (o2.there fun k hk=>hk)
   ·exact dX o4 ((o2.sub s2).there fun k hk=>hk)
   ·exact dX o4 (o3.there fun k hk=>hk)
end Go.Proofs.YteaaeelhjnhaaaaGreatDoor
namespace Go.Ab
open Go
variable {A B C X:List AV}{k m k1 k2 k3 k4:Nat}
theorem oZ(hk:k=A.length)(hm:m=X.length)(h:X.length=B.length):(A++(B++C)).take k++X++(A++(B++C)).drop (k+m)=A++(X++C):=by grind
theorem GK(h1:k1=A.length+X.length)(h2:k2=k1+B.length)(h3:k3=A.length)(h4:k4=k3+X.length)(hc:X.length≤C.length):
  List.take k3 (List.take k1 (A++(B++C))++B++List.drop k2 (A++(B++C)))++X++List.drop k4 (List.take k1 (A++(B++C))++B++List.drop k2 (A++(B++C)))=A++(X++(B++C.drop X.length)):=by
 subst h1;subst h2;subst h3;subst h4
 have e1:List.take (A.length+X.length) (A++(B++C))=A++List.take X.length (B++C):=acL;have e2:List.drop (A.length+X.length+B.length) (A++(B++C))=C.drop X.length:=by grind [Nat.add_assoc,List.drop_drop,List.drop_left,Nat.add_comm]
 rw[e1,e2,List.append_assoc A];have e3:(List.take X.length (B++C)).length=X.length:=by rw[List.length_take,acE];omega
 have e4:A++(List.take X.length (B++C)++B++List.drop X.length C)=A++(List.take X.length (B++C)++(B++C.drop X.length)):=acS;rw[List.append_assoc A,e4];exact oZ rfl rfl e3.symm
theorem GL{Z R:List AV}(h1:k1=A.length)(h2:k2=k1+X.length)(h3:k3=A.length+X.length)(h4:k4=k3+B.length)(hz:Z.length=X.length+B.length):
  List.take k3 (List.take k1 (A++Z++R)++X++List.drop k2 (A++Z++R))++B++List.drop k4 (List.take k1 (A++Z++R)++X++List.drop k2 (A++Z++R))=A++(X++(B++R)):=by
 subst h1;subst h2;subst h3;subst h4
 obtain⟨Z1,Z2,rfl,e1⟩:∃Z1 Z2,Z=Z1++Z2∧Z1.length=X.length:=⟨Z.take X.length,Z.drop X.length,(List.take_append_drop _ _).symm,acL⟩;have e2:Z2.length=B.length:=acL;have e3:A++(Z1++Z2)++R=A++(Z1++(Z2++R)):=acS;rw[e3,oZ rfl rfl e1.symm,←List.append_assoc A X,oZ acS rfl e2.symm,List.append_assoc]
end Go.Ab
namespace Go.Proofs.YteaaeelhjnhaaaaGreatDoor
open Go Go.Ab Go.Bf Tryz
theorem Je{h}{v}{id off len cap:Nat}{cs}{t}(hv:v.cells.length=5)(hid:h id=some (.obj cs t))(hcs:cs≠ []):ai prog 147 [.sl [v] .full,.ob id off len cap 5] h fun r h' =>r= .b false∧h' =h:=
 vN (U:=U) (tS:=86) (tR:=4) (e:=135) hU func147 acY acY acY acO acY acN (by simp only[go_sem];omega) acS hid hcs
theorem Fp(y)(xs)(v)(i:Nat)(h0 h)(hw:OwE 135 h0 h 5 y xs)(hs0:Ab.Sub h0 h)(hi:i≤xs.length)(hl:xs.length≤1000000)(hv:v.cells.length=5)(hva:fit v 5):
  ai prog 112 [y,.i i,.sl [v] .full] h fun r h' =>OwE 135 h0 h' 5 r (xs.take i++([v]++xs.drop i))∧(∀k,h k≠none→nid y≠some k→h' k=h k)∧∀k,nid r=some k→h k=none∨nid y=some k:=by
 rcases hw with⟨rfl,rfl⟩|⟨id,hg,cap,rest,rfl,hid,hr,hc,hsz⟩
 ·obtain rfl:i=0:=by simpa using hi
  refine acJ func112 95 [.tmp 6] fun hwf=>?_
  simp only[go_sem];refine⟨acK,acK,hv,.ob acT (j9.ow (xs:=[v]) aeI af5 rfl fun id y' h' hid hw ho=>?_)⟩
  have hw' :Ow 135 h' 5 id y' [v]:=afL;simp only[go_sem];refine .same (.refl _) ⟨.inr ⟨id,hs0.none hid,hw'⟩,fun k hk _=>ho k (fun e=>hk (by rw[e];exact hid)),fun k hk=>?_⟩
  rw[show ax [y']=y' from rfl,hw'.nid]at hk
  cases hk;exact .inl hid
 ·have how:OwE 135 h0 h 5 (.ob id 0 xs.length cap 5) xs:=.inr ⟨id,hg,cap,rest,rfl,hid,hr,hc,hsz⟩
  have hfl:=bg hsz;refine acJ func112 95 [.tmp 6] fun hwf=>?_
  simp only[go_sem];refine⟨acK,acK,?_⟩;cases d1:((i:Int)==(xs.length:Int))
  case true=>
   have hin:i=xs.length:=by have:(i:Int)=(xs.length:Int):=afJ;omega
   simp only[go_sem];subst hin;refine⟨acK,?_⟩;refine OwE.app (U:=U) (tb:=135) how hs0 (.sl afy .full:Rd h 5 (.sl [v] .full) [v]) acT acN acP acT acS ae9 fun id2 y' h' g2 hor hw ho=>?_
   simp only[go_sem];have e1:xs.take xs.length++([v]++xs.drop xs.length)=xs++ [v]:=acS;refine .same (.refl _) ⟨by have:OwE 135 h0 h' 5 y' (xs++ [v]):=.inr ⟨id2,g2,hw⟩;rw[←e1]at this;exact this,fun k hk hk2=>ho k fun e=>?_,fun k hk=>?_⟩
   ·rcases hor with hor|⟨l,c,ey⟩
    ·exact hk agB
    ·cases ey
     exact hk2 af8
   ·exact ah0
  have hne:i<xs.length:=by have:¬(i:Int)=(xs.length:Int):=afJ;omega
  have wn:IntKind.i64.wrap ((xs.length:Int)+1)=((xs.length+1:Nat):Int):=ac4;have wi:=acG i acK;have wm:IntKind.i64.wrap (((xs.length+1:Nat):Int) - (i:Int))=((xs.length+1 - i:Nat):Int):=ac4;have f1:au xs=au (xs.take i)++au (xs.drop i):=af4;have f2:(au (xs.take i)).length=i*5:=by rw[bg (sz:=5) fun z hz=>hsz z (List.mem_of_mem_take hz),List.length_take,Nat.min_eq_left hi]
  have f3:(au (xs.drop i)).length=(xs.length - i)*5:=by rw[bg (sz:=5) fun z hz=>hsz z (List.mem_of_mem_drop hz),List.length_drop]
  have f4:au (xs.take i++([v]++xs.drop i))=au (xs.take i)++(v.cells++au (xs.drop i)):=af5;have f5:Sized 5 (xs.take i++([v]++xs.drop i)):=fun z hz=>by exact ahA
  have f6:(xs.take i++([v]++xs.drop i)).length=xs.length+1:=ade;have f6' :(xs.take i++v::xs.drop i).length=xs.length+1:=f6;cases d2:decide ((cap:Int)<((xs.length+1:Nat):Int))
  ·have e2:=acD d2
   simp only[go_sem,wn,d2];refine⟨acK,?_⟩;simp only[go_sem,wi];have hcs:au xs++rest≠ []:=by intro e;have:=congrArg List.length e;rw[acE,hfl]at this;simp at this;omega
   refine⟨acK,acK,acK,acK,acK,acK,?_⟩;refine(Je hv hid hcs).pthen ?_;simp only[go_sem];refine .calls cL [0,1,2,3,4,5,6,7,8] (fun _ _ e=>adb) acO rfl ?_
   simp only[go_sem,wi,hid,Nat.sub_zero];have hmin:min (xs.length+1 - i) (xs.length+1 - (i+1))=xs.length - i:=acK;refine⟨acK,acK,acK,acK,acK,acK,xs.drop i,afr,afi, ?q1,fun z hz=>hsz z (List.mem_of_mem_drop hz),aeJ,by rw[acE,hfl,hr];omega,agr,acK,acK,acK,hv,acK, ?ln, ?fin⟩
   case q1=>rw[hmin,f1,List.append_assoc,←f2,List.drop_left,←f3,List.take_left]
   case ln=>simp only[acE,List.length_take,List.length_drop,hfl,hr,f3];omega
   have hrl:(5:Nat)≤rest.length:=by rw[hr];omega
   have hfv:au [v]=v.cells:=af5;have key:=GK (A:=au (xs.take i)) (B:=au (xs.drop i)) (C:=rest) (X:=au [v]) (k1:=(i+1)*5) (k2:=(i+1)*5+(au (xs.drop i)).length) (k3:=i*5) (k4:=i*5+(au [v]).length) agd rfl f2.symm rfl (by rw[hfv,hv];exact hrl)
   rw[←List.append_assoc (au (xs.take i)) (au (xs.drop i)) rest,←f1]at key;rw[key];have e8:au (xs.take i)++(au [v]++(au (xs.drop i)++rest.drop (au [v]).length))=au (xs.take i++([v]++xs.drop i))++rest.drop 5:=by rw[f4,hfv,hv];simp only[List.append_assoc]
   rw[e8];refine .same (.refl _) ⟨.inr ⟨id,hg,cap,rest.drop 5,by rw[←f6];rfl,ah _ _ _,by rw[List.length_drop,hr,f6'];omega,aem,f5⟩,fun k hk hk2=>ag _ _ fun e=>hk2 af8,fun k hk=> .inr hk⟩
  ·have e2:=acC d2
   simp only[go_sem,wn,d2,wm];refine⟨acK,?_⟩;simp only[go_sem,hid];have eA:List.take (i*5) (au xs++rest)=au (xs.take i):=by rw[f1,List.append_assoc,←f2,List.take_left]
   refine⟨acK,acK,acK,acK,acK,acK,by rw[acE,hfl];omega,?_⟩
   rw[Nat.sub_zero,eA];obtain⟨Z,eZ⟩:∃Z,cJ (AV.agg [AV.s [],AV.s [],AV.s [],AV.sl [] Perm.full,AV.sl [] Perm.full]) (xs.length+1 - i) 5=Z:=⟨_,rfl⟩;have lZ:Z.length=(xs.length+1 - i)*5:=by rw[←eZ];simp[cJ]
   rw[eZ];intro id2 cap2 rest2 hid2 hc2 hr2;have hx:¬id=id2:=fun e=>by rw[e,hid2]at hid;cases hid
   simp only[go_sem];have hfv:au [v]=v.cells:=af5;refine⟨acK,acK,acK,hv,acK,aeY,?_⟩;refine .calls cL [0,1,2,3,4,5,6,7,8] (fun _ _ e=>adb) acO rfl ?_
   simp only[go_sem,wi,hid,hx,Nat.sub_zero];have hmin:min (xs.length - i) (i+(xs.length+1 - i) - (i+1))=xs.length - i:=acK;have l0:(au (xs.take i)++Z++rest2).length=(i+(xs.length+1 - i))*5+(cap2 - (i+(xs.length+1 - i)))*5:=aeY;refine⟨acK,acK,acK,acK,acK,acK,xs.drop i,afr,afi, ?q2,fun z hz=>hsz z (List.mem_of_mem_drop hz),aeJ, ?lm,agr, ?fim⟩
   case q2=>rw[hmin,f1,List.append_assoc,←f2,List.drop_left,←f3,List.take_left]
   case lm=>rw[hfv];simp only[acE,List.length_take,List.length_drop,l0,hv];omega
   rw[GL f2.symm rfl agd rfl (by rw[hfv,hv,lZ,f3];omega)]
   have e8:au (xs.take i)++(au [v]++(au (xs.drop i)++rest2))=au (xs.take i++([v]++xs.drop i))++rest2:=by rw[f4,hfv];simp only[List.append_assoc]
   rw[e8];have e9:i+(xs.length+1 - i)=xs.length+1:=acK;rw[e9]at hr2 hc2⊢;refine .same (.refl _) ⟨.inr ⟨id2,hs0.none hid2,cap2,rest2,by rw[←f6];rfl,ah _ _ _,by rw[hr2,f6'],by rw[f6'];omega,f5⟩,fun k hk hk2=>ag _ _ fun e=>hk (by rw[e];exact hid2),fun k hk=> .inl (by cases hk;exact hid2)⟩
theorem FJ{h}{v}{id off len cap:Nat}{cs}{t}(hv:v.cells.length=4)(hid:h id=some (.obj cs t))(hcs:cs≠ []):ai prog 183 [.sl [v] .full,.ob id off len cap 4] h fun r h' =>r= .b false∧h' =h:=
 vN (U:=U) (tS:=132) (tR:=4) (e:=189) hU func183 acY acY acY acO acY acN (by simp only[go_sem];omega) acS hid hcs
theorem De(y)(xs)(v)(i:Nat)(h0 h)(hw:OwE 189 h0 h 4 y xs)(hs0:Ab.Sub h0 h)(hi:i≤xs.length)(hl:xs.length≤1000000)(hv:v.cells.length=4)(hva:fit v 4):
  ai prog 150 [y,.i i,.sl [v] .full] h fun r h' =>OwE 189 h0 h' 4 r (xs.take i++([v]++xs.drop i))∧(∀k,h k≠none→nid y≠some k→h' k=h k)∧∀k,nid r=some k→h k=none∨nid y=some k:=by
 rcases hw with⟨rfl,rfl⟩|⟨id,hg,cap,rest,rfl,hid,hr,hc,hsz⟩
 ·obtain rfl:i=0:=by simpa using hi
  refine acJ func150 95 [.tmp 6] fun hwf=>?_
  simp only[go_sem];refine⟨acK,acK,hv,.ob acT (j9.ow (xs:=[v]) aeI af5 rfl fun id y' h' hid hw ho=>?_)⟩
  have hw' :Ow 189 h' 4 id y' [v]:=afL;simp only[go_sem];refine .same (.refl _) ⟨.inr ⟨id,hs0.none hid,hw'⟩,fun k hk _=>ho k (fun e=>hk (by rw[e];exact hid)),fun k hk=>?_⟩
  rw[show ax [y']=y' from rfl,hw'.nid]at hk
  cases hk;exact .inl hid
 ·have how:OwE 189 h0 h 4 (.ob id 0 xs.length cap 4) xs:=.inr ⟨id,hg,cap,rest,rfl,hid,hr,hc,hsz⟩
  have hfl:=bg hsz;refine acJ func150 95 [.tmp 6] fun hwf=>?_
  simp only[go_sem];refine⟨acK,acK,?_⟩;cases d1:((i:Int)==(xs.length:Int))
  case true=>
   have hin:i=xs.length:=by have:(i:Int)=(xs.length:Int):=afJ;omega
   simp only[go_sem];subst hin;refine⟨acK,?_⟩;refine OwE.app (U:=U) (tb:=189) how hs0 (.sl afy .full:Rd h 4 (.sl [v] .full) [v]) acT acN acP acT acS ae9 fun id2 y' h' g2 hor hw ho=>?_
   simp only[go_sem];have e1:xs.take xs.length++([v]++xs.drop xs.length)=xs++ [v]:=acS;refine .same (.refl _) ⟨by have:OwE 189 h0 h' 4 y' (xs++ [v]):=.inr ⟨id2,g2,hw⟩;rw[←e1]at this;exact this,fun k hk hk2=>ho k fun e=>?_,fun k hk=>?_⟩
   ·rcases hor with hor|⟨l,c,ey⟩
    ·exact hk agB
    ·cases ey
     exact hk2 af8
   ·exact ah0
  have hne:i<xs.length:=by have:¬(i:Int)=(xs.length:Int):=afJ;omega
  have wn:IntKind.i64.wrap ((xs.length:Int)+1)=((xs.length+1:Nat):Int):=ac4;have wi:=acG i acK;have wm:IntKind.i64.wrap (((xs.length+1:Nat):Int) - (i:Int))=((xs.length+1 - i:Nat):Int):=ac4;have f1:au xs=au (xs.take i)++au (xs.drop i):=af4;have f2:(au (xs.take i)).length=i*4:=by rw[bg (sz:=4) fun z hz=>hsz z (List.mem_of_mem_take hz),List.length_take,Nat.min_eq_left hi]
  have f3:(au (xs.drop i)).length=(xs.length - i)*4:=by rw[bg (sz:=4) fun z hz=>hsz z (List.mem_of_mem_drop hz),List.length_drop]
  have f4:au (xs.take i++([v]++xs.drop i))=au (xs.take i)++(v.cells++au (xs.drop i)):=af5;have f5:Sized 4 (xs.take i++([v]++xs.drop i)):=fun z hz=>by exact ahA
  have f6:(xs.take i++([v]++xs.drop i)).length=xs.length+1:=ade;have f6' :(xs.take i++v::xs.drop i).length=xs.length+1:=f6;cases d2:decide ((cap:Int)<((xs.length+1:Nat):Int))
  ·have e2:=acD d2
   simp only[go_sem,wn,d2];refine⟨acK,?_⟩;simp only[go_sem,wi];have hcs:au xs++rest≠ []:=by intro e;have:=congrArg List.length e;rw[acE,hfl]at this;simp at this;omega
   refine⟨acK,acK,acK,acK,acK,acK,?_⟩;refine(FJ hv hid hcs).pthen ?_;simp only[go_sem];refine .calls cL [0,1,2,3,4,5,6,7,8] (fun _ _ e=>adb) acO rfl ?_
   simp only[go_sem,wi,hid,Nat.sub_zero];have hmin:min (xs.length+1 - i) (xs.length+1 - (i+1))=xs.length - i:=acK;refine⟨acK,acK,acK,acK,acK,acK,xs.drop i,afr,afi, ?q1,fun z hz=>hsz z (List.mem_of_mem_drop hz),aeJ,by rw[acE,hfl,hr];omega,agr,acK,acK,acK,hv,acK, ?ln, ?fin⟩
   case q1=>rw[hmin,f1,List.append_assoc,←f2,List.drop_left,←f3,List.take_left]
   case ln=>simp only[acE,List.length_take,List.length_drop,hfl,hr,f3];omega
   have hrl:(4:Nat)≤rest.length:=by rw[hr];omega
   have hfv:au [v]=v.cells:=af5;have key:=GK (A:=au (xs.take i)) (B:=au (xs.drop i)) (C:=rest) (X:=au [v]) (k1:=(i+1)*4) (k2:=(i+1)*4+(au (xs.drop i)).length) (k3:=i*4) (k4:=i*4+(au [v]).length) agd rfl f2.symm rfl (by rw[hfv,hv];exact hrl)
   rw[←List.append_assoc (au (xs.take i)) (au (xs.drop i)) rest,←f1]at key;rw[key];have e8:au (xs.take i)++(au [v]++(au (xs.drop i)++rest.drop (au [v]).length))=au (xs.take i++([v]++xs.drop i))++rest.drop 4:=by rw[f4,hfv,hv];simp only[List.append_assoc]
   rw[e8];refine .same (.refl _) ⟨.inr ⟨id,hg,cap,rest.drop 4,by rw[←f6];rfl,ah _ _ _,by rw[List.length_drop,hr,f6'];omega,aem,f5⟩,fun k hk hk2=>ag _ _ fun e=>hk2 af8,fun k hk=> .inr hk⟩
  ·have e2:=acC d2
   simp only[go_sem,wn,d2,wm];refine⟨acK,?_⟩;simp only[go_sem,hid];have eA:List.take (i*4) (au xs++rest)=au (xs.take i):=by rw[f1,List.append_assoc,←f2,List.take_left]
   refine⟨acK,acK,acK,acK,acK,acK,by rw[acE,hfl];omega,?_⟩
   rw[Nat.sub_zero,eA];obtain⟨Z,eZ⟩:∃Z,cJ (AV.agg [AV.s [],AV.v (Value.int IntKind.i64 0),AV.v (Value.int IntKind.i64 0),AV.s []]) (xs.length+1 - i) 4=Z:=⟨_,rfl⟩;have lZ:Z.length=(xs.length+1 - i)*4:=by rw[←eZ];simp[cJ]
   rw[eZ];intro id2 cap2 rest2 hid2 hc2 hr2;have hx:¬id=id2:=fun e=>by rw[e,hid2]at hid;cases hid
   simp only[go_sem];have hfv:au [v]=v.cells:=af5;refine⟨acK,acK,acK,hv,acK,aeY,?_⟩;refine .calls cL [0,1,2,3,4,5,6,7,8] (fun _ _ e=>adb) acO rfl ?_
   simp only[go_sem,wi,hid,hx,Nat.sub_zero];have hmin:min (xs.length - i) (i+(xs.length+1 - i) - (i+1))=xs.length - i:=acK;have l0:(au (xs.take i)++Z++rest2).length=(i+(xs.length+1 - i))*4+(cap2 - (i+(xs.length+1 - i)))*4:=aeY;refine⟨acK,acK,acK,acK,acK,acK,xs.drop i,afr,afi, ?q2,fun z hz=>hsz z (List.mem_of_mem_drop hz),aeJ, ?lm,agr, ?fim⟩
   case q2=>rw[hmin,f1,List.append_assoc,←f2,List.drop_left,←f3,List.take_left]
   case lm=>rw[hfv];simp only[acE,List.length_take,List.length_drop,l0,hv];omega
   rw[GL f2.symm rfl agd rfl (by rw[hfv,hv,lZ,f3];omega)]
   have e8:au (xs.take i)++(au [v]++(au (xs.drop i)++rest2))=au (xs.take i++([v]++xs.drop i))++rest2:=by rw[f4,hfv];simp only[List.append_assoc]
   rw[e8];have e9:i+(xs.length+1 - i)=xs.length+1:=acK;rw[e9]at hr2 hc2⊢;refine .same (.refl _) ⟨.inr ⟨id2,hs0.none hid2,cap2,rest2,by rw[←f6];rfl,ah _ _ _,by rw[hr2,f6'],by rw[f6'];omega,f5⟩,fun k hk hk2=>ag _ _ fun e=>hk (by rw[e];exact hid2),fun k hk=> .inl (by cases hk;exact hid2)⟩
end Go.Proofs.YteaaeelhjnhaaaaGreatDoor
namespace Go.Ab
open Go
noncomputable def pick (H:Heap) (l:List Nat):Heap:=fun j=>if j∈l then H j else none
theorem bD{H}{l}{j:Nat}(hj:j∈l):pick H l j=H j:=if_pos hj
theorem iK{H h'}{l}(hs:∀j∈l,h' j=H j):Sub (pick H l) h' :=fun j b hb=>by simp_all [bD,pick,if_neg]
theorem bB{H}{l}:Sub (pick H l) H:=iK fun _ _=>rfl
end Go.Ab
namespace Go.Proofs.YteaaeelhjnhaaaaGreatDoor
open Go Go.Ab Go.Bf Tryz
variable {s:aq}{k o:Nat}
def cc(c:aU)(f l:AV):List AV:=[.s c.id,.s c.owner,.s c.state,f,l]
theorem sd{h0 h:Heap}(y1 y2 y3 y4:AV){A B:List AV}{t:TypeId}{c:aU}{f l:AV}(ho:o=A.length)(hk:h k=some (.obj (A++(cc c f l++B)) t))(ht:t≠177)
  (hlo:OwE 177 h0 h 3 l (c.log.map iI)) (hs0:Ab.Sub h0 h) (hll:c.log.length≤1000000) (actor what:Txt):
  ai prog 111 [.agg ([.i s.tick,y1,y2,y3,y4]++fZ s.policy++ [.i s.version]),.ptr k o,.s actor,.s what] h fun r h' =>∃l',OwE 177 h0 h' 3 l' ((c.log++ [(⟨s.tick,actor,what⟩:xd)]).map iI)∧h' k=some (.obj (A++(cc c f l' ++B)) t)∧(∀j,h j≠none→j≠k→nid l≠some j→h' j=h j)∧∀j,nid l' =some j→h j=none∨nid l=some j:=by
 cases hpp:s.policy with
 |mk pid pset palg ptgt prules pkids pobls=>
 have hcC:fZ (.mk pid pset palg ptgt prules pkids pobls)= [.s pid,.b pset,.i palg,aV ptgt,.sl (prules.map aC) .no,.sl (pkids.map aN) .no,aA pobls]:=afM;refine acJ func111 22 [] fun hwf=>?_
 simp only[go_sem,hcC,List.cons_append,List.nil_append];intro i1 h1;simp only[go_sem];obtain⟨H,eH⟩:∃H,upd h i1 (some (.obj [.i s.tick,y1,y2,y3,y4,.s pid,.b pset,.i palg,aV ptgt,.sl (prules.map aC) .no,.sl (pkids.map aN) .no,aA pobls,.i s.version] 98))=H:=⟨_,rfl⟩;have n1k:k≠i1:=fun e=>by rw[e,h1]at hk;cases hk
 have g1:H i1=some (.obj [.i s.tick,y1,y2,y3,y4,.s pid,.b pset,.i palg,aV ptgt,.sl (prules.map aC) .no,.sl (pkids.map aN) .no,aA pobls,.i s.version] 98):=aed;have gk:H k=some (.obj (A++(cc c f l++B)) t):=by rw[←eH,ag _ _ n1k];exact hk
 have hH:Ab.Sub h H:=by rw[←eH];exact(Sub.refl h).put h1 _
 have hoj:∀j,j≠i1→H j=h j:=fun j hj=>by rw[←eH];exact ag _ _ hj
 rw[eH];clear eH;refine .stage (hm2 k (.obj (A++(cc c f l++B)) t) i1 (.obj [.i s.tick,y1,y2,y3,y4,.s pid,.b pset,.i palg,aV ptgt,.sl (prules.map aC) .no,.sl (pkids.map aN) .no,aA pobls,.i s.version] 98)) [0,1,2,3,4,5,6,7,8,9,10,11,12,13] [14] (.hm2 gk g1) acO ?_;have hc4:(A++(cc c f l++B))[o+4]? =some l:=aeB;obtain⟨CS,eCS⟩:∃CS,A++(cc c f l++B)=CS:=⟨_,rfl⟩;rw[eCS]at hc4 gk⊢;simp only[go_sem,ry,ru _ _ n1k,hc4];have hap1:Rd H 3 (.sl [iI ⟨s.tick,actor,what⟩] .full) [iI ⟨s.tick,actor,what⟩]:=.sl adv .full;refine OwE.app (U:=U) (tb:=177) (hlo.sub hH) (hs0.trans hH) hap1 acT acN acP acT acS adi fun id2 y' h' g2 hor hw ho2=>?_
 have hor' :H id2=none∨nid l=some id2:=by exact ahp
 have k2:k≠id2:=by
  rcases hor' with hor|hor
  ·exact fun e=>by rw[←e,gk]at hor;cases hor
  ·exact(lX ((hlo.sub hH).nid hor).2.2 gk ht).symm
 have i2:i1≠id2:=by
  rcases hor' with hor|hor
  ·exact fun e=>by rw[←e,g1]at hor;cases hor
  ·exact fun e=>(hlo.nid hor).2.1 (by rw[←e];exact h1)
 have gk' :=(ho2 k k2).trans gk;have gi' :=(ho2 i1 i2).trans g1;refine⟨.hm2 gk' gi',?_⟩;simp only[go_sem];refine⟨cL,(fun _ _ e=>adb),?_⟩
 simp only[go_sem,gk',hw.rd.fit,hw.rd.cells];have lCS:CS.length=A.length+(5+B.length):=by rw[←eCS];simp[cc];omega
 have e5:List.take (o+4) CS++ [y']++List.drop (o+4+1) CS=A++(cc c f y' ++B):=by
  have:=oZ (A:=A++ [.s c.id,.s c.owner,.s c.state,f]) (B:=[l]) (C:=B) (X:=[y']) (k:=o+4) (m:=1) (by rw[ho];simp) rfl rfl
  exact ait
 rw[e5];refine⟨acK,(fun _ _ e=>adb),.same (.refl _) ⟨y',?_,ah ..,fun j hj hjk hjl=>?_,fun j hj=>?_⟩⟩
 ·have hw' :Ow 177 (upd h' k (some (.obj (A++(cc c f y' ++B)) t))) 3 id2 y' (c.log.map iI++ [iI ⟨s.tick,actor,what⟩]):=hw.same (ag _ _ k2.symm)
  rw[List.map_append];exact .inr ⟨id2,g2,hw'⟩
 ·have hj2:j≠id2:=by
   rcases hor' with hor|hor
   ·intro e
    have:=hoj j (fun e' =>hj (by rw[e'];exact h1))
    rw[e,hor]at this;exact hj (by rw[e];exact this.symm)
   ·exact fun e=>hjl agB
  have hj1:j≠i1:=fun e=>hj (by rw[e];exact h1)
  rw[ag _ _ hjk,ho2 j hj2,hoj j hj1]
 ·have:id2=j:=by have:=hw.nid;rw[hj]at this;exact(Option.some.inj this).symm
  rw[←this];rcases hor' with hor|hor
  ·refine .inl ?_
   cases hh:h id2 with
   |none=>rfl
   |some b=>rw[hH _ _ hh]at hor;cases hor
  ·exact .inr hor
theorem JS{h}(f){name}(hk:h k=some (.obj [.s name] 9)):ai prog 149 [bO f,.ptr k 0] h fun r h' =>r= .b (geB f.name name)∧h' =h:=by
 refine acJ func149 8 [.tmp 3] fun hwf=>?_
 simp only[go_sem,bO];exact ag6
theorem Gc{fs}{name}{v}(hx:¬fs.findIdx (fun f=>geB f.name name)<fs.length):fc fs name v=fs++ [⟨name,v⟩]:=by grind [fc,List.getElem?_eq_none,geB]
theorem zq{fs}{name}{v}(hx:fs.findIdx (fun f=>geB f.name name)<fs.length)(he:fs[fs.findIdx (fun f=>geB f.name name)].name=name):fc fs name v=fs.set (fs.findIdx (fun f=>geB f.name name)) ⟨name,v⟩:=by simp_all [fc,List.getElem?_eq_getElem,if_true]
theorem Gd{fs}{name}{v}(hx:fs.findIdx (fun f=>geB f.name name)<fs.length)(he:fs[fs.findIdx (fun f=>geB f.name name)].name≠name):fc fs name v=fs.take (fs.findIdx (fun f=>geB f.name name))++ [⟨name,v⟩]++fs.drop (fs.findIdx (fun f=>geB f.name name)):=by simp_all [fc,List.getElem?_eq_getElem,if_false]
theorem MM{h0 h}{A B}{t}{c}{f l}(ho:o=A.length)(hk:h k=some (.obj (A++(cc c f l++B)) t))(ht:t≠189)
  (hfo:OwE 189 h0 h 4 f (c.fields.map bO)) (hs0:Ab.Sub h0 h) (hff:c.fields.length≤1000000) (name) (v):
  ai prog 113 [.ptr k o,.s name,aP v] h fun r h' =>∃f',OwE 189 h0 h' 4 f' ((fc c.fields name v).map bO)∧h' k=some (.obj (A++(cc c f' l++B)) t)∧(∀j,h j≠none→j≠k→nid f≠some j→h' j=h j)∧∀j,nid f' =some j→h j=none∨nid f=some j:=by
 have hc3:(A++(cc c f l++B))[o+3]? =some f:=aeB;have lCS:(A++(cc c f l++B)).length=A.length+(5+B.length):=by simp[cc];omega
 have e5:∀y',List.take (o+3) (A++(cc c f l++B))++ [y']++List.drop (o+3+1) (A++(cc c f l++B))=A++(cc c y' l++B):=fun y' =>by
  have:=oZ (A:=A++ [.s c.id,.s c.owner,.s c.state]) (B:=[f]) (C:=l::B) (X:=[y']) (k:=o+3) (m:=1) (by rw[ho];simp) rfl rfl
  exact aiD
 obtain⟨CS,eCS⟩:∃CS,A++(cc c f l++B)=CS:=⟨_,rfl⟩;rw[eCS]at hc3 hk lCS e5;refine acJ func113 60 [] fun hwf=>?_
 simp only[go_sem,aP];intro i1 h1;simp only[go_sem];intro i2 h2;have n21:=aH h2;have n2:=aB h2;have nk1:k≠i1:=fun e=>by rw[e,h1]at hk;cases hk
 have nk2:k≠i2:=fun e=>by rw[e,n2]at hk;cases hk
 obtain⟨H,eH⟩:∃H,upd (upd h i1 (some (.obj [.s name] 9))) i2 (some (.obj [.i v.kind,.i v.n,.s v.s] 23))=H:=⟨_,rfl⟩;have g1:H i1=some (.obj [.s name] 9):=aek;have g2:H i2=some (.obj [.i v.kind,.i v.n,.s v.s] 23):=aed;have gk:H k=some (.obj CS t):=by rw[←eH,ag _ _ nk2,ag _ _ nk1];exact hk
 have hH:Ab.Sub h H:=adH;have hoj:∀j,h j≠none→H j=h j:=fun j hj=>by rw[←eH,ag _ _ (fun e=>hj (by rw[e];exact n2)),ag _ _ (fun e=>hj (by rw[e];exact h1))]
 rw[eH];clear eH;simp only[go_sem,gk,hc3];refine(ye f _ c.fields (fun f=>geB f.name name) _ [.ptr i1 0] _ (hfo.sub hH).rd acS ade (oL (fun _=>rfl) _) fun i a b=>by rw[acB];exact JS _ g1).pthen ?_
 have hns:∀G,Ab.Sub cL G:=fun G _ _ e=>adb
 by_cases hx:c.fields.findIdx (fun f=>geB f.name name)<c.fields.length
 ·obtain⟨i,ei⟩:∃i,c.fields.findIdx (fun f=>geB f.name name)=i:=⟨_,rfl⟩
  have hxm:i<(c.fields.map bO).length:=by rw[←ei];simpa using hx
  have e1:ixD (fun f=>geB f.name name) c.fields=(i:Nat):=by rw[ixD,ei];exact if_pos (by rw[←ei];exact hx)
  have d1:decide (((i:Nat):Int)<0)=false:=decide_eq_false acK;rw[e1];simp only[go_sem,d1];refine⟨.of acO,?_⟩;simp only[go_sem,gk,hc3];refine(hfo.sub hH).rd.idx (e:=189) i rfl hxm F8 acN fun p hp1=>?_
  simp only[go_sem];refine hp1.field (f:=0) (off:=0) (t:=9) rfl JL fun p2 hp2=>?_
  have hld:=hp2.part (U:=U) (ty:=9) JL (by rw[acB,MB];exact acz rfl)
  simp only[go_sem,hld,acB,bO,g1];have hxi:i<c.fields.length:=by rw[←ei];exact hx
  cases d2:(c.fields[i].name==name)
  ·have hne:c.fields[i].name≠name:=by simpa using d2
   simp only[go_sem];refine .stage (pick H [k,i1,i2]) [0,1,2,3,4,5,6,7,8,9,10,11,12] [13] bB acO ?_;simp only[go_sem,bD (show k∈ [k,i1,i2] by simp),bD (show i1∈ [k,i1,i2] by simp),bD (show i2∈ [k,i1,i2] by simp),gk,g1,g2,hc3]
   refine(De f _ (bO ⟨name,v⟩) i h0 H (hfo.sub hH) (hs0.trans hH) acK (by simpa using hff) rfl (by simp[bO,Ab.fit])).mono fun f' H1 ⟨w1,fr,ap⟩=>?_
   have nk:nid f≠some k:=fun e=>lX ((hfo.sub hH).nid e).2.2 gk ht rfl
   have n1' :nid f≠some i1:=fun e=>(hfo.nid e).2.1 h1
   have n2' :nid f≠some i2:=fun e=>(hfo.nid e).2.1 n2
   have gk' :H1 k=some (.obj CS t):=(fr k (by rw[gk];simp) nk).trans gk
   refine⟨iK fun j hj=>?_,?_⟩
   ·simp only[List.mem_cons,List.not_mem_nil,or_false]at hj
    rcases hj with rfl|rfl|rfl
    ·exact fr _ (by rw[gk];simp) nk
    ·exact fr _ (by rw[g1];simp) n1'
    ·exact fr _ (by rw[g2];simp) n2'
   simp only[go_sem];refine⟨cL,hns _,?_⟩;simp only[go_sem,gk',w1.rd.fit,w1.rd.cells];have hk2:nid f'≠some k:=fun e=>by
    rcases ap k e with h|h
    ·rw[gk]at h;cases h
    ·exact nk h
   have em:List.take i (c.fields.map bO)++([bO ⟨name,v⟩]++List.drop i (c.fields.map bO))=(fc c.fields name v).map bO:=by
    rw[Gd hx (by simp only[ei];exact hne),ei]
    simp[List.map_append,List.map_take,List.map_drop]
   rw[e5];rw[em]at w1;refine⟨acK,hns _,.same (.refl _) ⟨f',w1.keep fun id e=>ag _ _ fun e' =>hk2 (by rw[←e'];exact e),ah ..,fun j hj hjk hjl=>?_,fun j hj=>?_⟩⟩
   ·rw[ag _ _ hjk,fr j (by rw[hoj j hj];exact hj) hjl,hoj j hj]
   ·rcases ap j hj with h|h
    ·exact .inl (hH.none h)
    ·exact .inr h
  ·have heq:c.fields[i].name=name:=by simpa using d2
   simp only[go_sem];refine⟨.of acO,?_⟩;simp only[go_sem,gk,g2,hc3];obtain⟨id1,hg1,o1⟩:=(hfo.sub hH).ow (by intro e;rw[e]at hxm;cases hxm)
   have t1:id1≠k:=lX o1 gk ht;have o1' :=o1;obtain⟨cap,rest,ey,hid,hr,hcap,hsz⟩:=o1';refine o1.idx (U:=U) (e:=189) i rfl hxm F8 acN ?_;simp only[go_sem,hid];have hxl:=acB (f:=bO) (l:=c.fields) (i:=i) (h:=hxm);have e2:List.take (i*4+1) (au (c.fields.map bO)++rest)++ [.i v.kind,.i v.n,.s v.s]++List.drop (i*4+1+3) (au (c.fields.map bO)++rest)=au ((fc c.fields name v).map bO)++rest:=by
    refine(lE hsz i hxm 1 [.i v.kind,.i v.n,.s v.s] (acz rfl)).trans ?_;rw[zq hx (by simp only[ei];exact heq),ei,List.map_set,hxl]
    have:AV.agg (over (bO c.fields[i]).cells 1 [.i v.kind,.i v.n,.s v.s])=bO ⟨name,v⟩:=by rw[←heq];rfl
    rw[this]
   have lw:(fc c.fields name v).length=c.fields.length:=by rw[zq hx (by simp only[ei];exact heq),List.length_set]
   rw[e2];refine⟨by rw[acE,bg hsz];omega,.same (.refl _) ⟨f,.inr ⟨id1,hg1,cap,rest,by rw[ey];simp[lw],ah ..,by rw[hr];simp[lw],by rw[acA]at hcap⊢;omega,bx (f:=bO) (n:=4) (fun _=>rfl) _⟩,(ag _ _ t1.symm).trans (by rw[eCS];exact gk),fun j hj hjk hjl=>?_,fun j hj=> .inr hj⟩⟩
   have:j≠id1:=fun e=>hjl (by rw[e];exact o1.nid)
   rw[ag _ _ this,hoj j hj]
 ·have e1:ixD (fun f=>geB f.name name) c.fields= -1:=by rw[ixD];exact if_neg hx
  have d1:decide ((-1:Int)<0)=true:=rfl;rw[e1];simp only[go_sem,d1];refine .stage (pick H [k,i1,i2]) [0,1,2,3,4,5,6,7,8,9,10,11] [12] bB acO ?_;simp only[go_sem,bD (show k∈ [k,i1,i2] by simp),bD (show i1∈ [k,i1,i2] by simp),bD (show i2∈ [k,i1,i2] by simp),gk,g1,g2,hc3]
  have hap1:Rd H 4 (.sl [bO ⟨name,v⟩] .full) [bO ⟨name,v⟩]:=.sl adv .full;refine OwE.app (U:=U) (tb:=189) (hfo.sub hH) (hs0.trans hH) hap1 acT acN acP acT acS adi fun id2 y' h' g3 hor hw ho2=>?_
  have hor' :H id2=none∨nid f=some id2:=by exact ahp
  have k2:k≠id2:=by
   rcases hor' with hor|hor
   ·exact fun e=>by rw[←e,gk]at hor;cases hor
   ·exact(lX ((hfo.sub hH).nid hor).2.2 gk ht).symm
  have j1:i1≠id2:=by
   rcases hor' with hor|hor
   ·exact fun e=>by rw[←e,g1]at hor;cases hor
   ·exact fun e=>(hfo.nid hor).2.1 (by rw[←e];exact h1)
  have j2:i2≠id2:=by
   rcases hor' with hor|hor
   ·exact fun e=>by rw[←e,g2]at hor;cases hor
   ·exact fun e=>(hfo.nid hor).2.1 (by rw[←e];exact n2)
  refine⟨iK fun j hj=>ho2 j ?_,?_⟩
  ·simp only[List.mem_cons,List.not_mem_nil,or_false]at hj
   rcases hj with rfl|rfl|rfl
   ·exact k2
   ·exact j1
   ·exact j2
  have gk' :=(ho2 k k2).trans gk;simp only[go_sem];refine⟨cL,hns _,?_⟩;simp only[go_sem,gk',hw.rd.fit,hw.rd.cells];rw[e5,Gc hx];refine⟨acK,hns _,.same (.refl _) ⟨y',?_,ah ..,fun j hj hjk hjl=>?_,fun j hj=>?_⟩⟩
  ·have hw' :Ow 189 (upd h' k (some (.obj (A++(cc c y' l++B)) t))) 4 id2 y' (c.fields.map bO++ [bO ⟨name,v⟩]):=hw.same (ag _ _ k2.symm)
   rw[List.map_append];exact .inr ⟨id2,g3,hw'⟩
  ·have hj2:j≠id2:=by
    rcases hor' with hor|hor
    ·intro e
     have:=hoj j hj;rw[e,hor]at this;exact hj (by rw[e];exact this.symm)
    ·exact fun e=>hjl agB
   rw[ag _ _ hjk,ho2 j hj2,hoj j hj]
  ·have:id2=j:=by have:=hw.nid;rw[hj]at this;exact(Option.some.inj this).symm
   rw[←this];rcases hor' with hor|hor
   ·exact .inl (hH.none hor)
   ·exact .inr hor
theorem Cz{cs}{id}(h:bY cs id=true):bz cs id=cs[findD cs id]'(jD h):=by simp_all [bz,if_pos,List.getD_eq_getElem?_getD,List.getElem?_eq_getElem,jD]
theorem CA{cs}{id}(h:bY cs id=false):bz cs id=oH:=by simp_all [bz,if_neg]
theorem mq{g h}{p}:Frz g h (.sl [] p) (.sl [] .no):=.sl _ _ _ rfl acK acS
theorem C1{g h}(c):Frz g h (ct c) (ct c):=.agg _ _ rfl fun j a b=>by
 rcases j with _|_|_|_|_|j
 ·exact ac5
 ·exact ac5
 ·exact ac5
 ·exact .pure (show cM (gz c.fields)=true from bw (fun _=>rfl) c.fields)
 ·exact .pure (show cM (so c.log)=true from bw (fun _=>rfl) c.log)
 ·simp[mZ]at a;omega
theorem BE{h}{x}{s}(hb:RdS h x s)(id)(hf:Few s):ai prog 81 [x,.s id] h fun r h' =>r= .tup [ct (bz s.cases id),.b (bY s.cases id)]∧h' =h:=
 ai.freeze fun g hg _=>by
 replace hb:=hb.sub hg;have hb0:=hb;obtain⟨y1,y2,y3,y4,rfl,⟨xs,hc,hn,hcs⟩,h2,h3,h4⟩:=hb;cases hpp:s.policy with
 |mk pid pset palg ptgt prules pkids pobls=>
 have hcC:fZ (.mk pid pset palg ptgt prules pkids pobls)= [.s pid,.b pset,.i palg,aV ptgt,.sl (prules.map aC) .no,.sl (pkids.map aN) .no,aA pobls]:=afM;rw[hpp,hcC]at hb0;refine acJ func81 23 [.cell 4 135,.tmp 5] fun hwf=>?_
 simp only[go_sem,hcC,List.cons_append,List.nil_append];intro i1 h1;simp only[go_sem];intro i2 h2';have n21:=aH h2';have n2:=aB h2';simp only[go_sem,ak,n21.symm];have hs:∀a b,Ab.Sub g (upd (upd g i1 a) i2 b):=fun a b=>((Sub.refl g).put h1 a).put n2 b
 refine(BK (hb0.sub (hs _ _)) id hf.cases).pthen ?_;cases d1:bY s.cases id
 ·simp only[go_sem]
  refine .mk _ (.refl _) (.refl _) ⟨hs _ _,.tup [.agg [.s [],.s [],.s [],.sl [] .no,.sl [] .no],.b false],.tup _ _ rfl fun i a b=>?_,by rw[CA d1];rfl⟩
  rcases i with _|_|i
  ·refine .agg _ _ rfl fun j c d=>?_
   rcases j with _|_|_|_|_|j
   ·exact ac5
   ·exact ac5
   ·exact ac5
   ·exact mq
   ·exact mq
   grind
  ·exact ac5
  grind
 ·have hlt:=jD d1
  have hltx:findD s.cases id<xs.length:=acK;obtain⟨f,l,ex,hfl,hlg⟩:=hcs _ hltx hlt;simp only[go_sem,ak,n21.symm];refine hc.idx (e:=135) (findD s.cases id) rfl hltx nJ acN fun p hp1=>?_
  have hld:=fun a b=>(hp1.sub (hs a b)).all (U:=U) (ty:=135) acN (by rw[nJ,ex];rfl) (by simp only[go_sem];rw[ex];rfl)
  simp only[go_sem,hld];refine(vO ((hcs _ hltx hlt).sub (hs _ _)) (hf.fields _ (acF hlt)) (hf.log _ (acF hlt))).pthen ?_;rw[←Cz d1];simp only[go_sem,ct,mZ,gz,so];refine .mk _ (.refl _) (.refl _) ⟨hs _ _,_,.tup _ _ rfl fun i a b=>?_,rfl⟩
  rcases i with _|_|i
  ·exact C1 _
  ·exact ac5
  grind
theorem B8{h}{x}{s}(hb:RdS h x s)(o)(hf:Few s):ai prog 96 [x,opA o] h fun r h' =>r= .i (bX s o)∧h' =h:=by
 have hb0:=hb;obtain⟨y1,y2,y3,y4,rfl,⟨xs,hc,hn,hcs⟩,h2,h3,h4⟩:=hb;cases hpp:s.policy with
 |mk pid pset palg ptgt prules pkids pobls=>
 have hcC:fZ (.mk pid pset palg ptgt prules pkids pobls)= [.s pid,.b pset,.i palg,aV ptgt,.sl (prules.map aC) .no,.sl (pkids.map aN) .no,aA pobls]:=afM;rw[hpp,hcC]at hb0;refine acJ func96 67 [.tmp 4] fun hwf=>?_
 simp only[go_sem,hcC,opA,opC,List.cons_append,List.nil_append];intro i1 h1;simp only[go_sem];intro i2 h2';have n21:=aH h2';have n2:=aB h2';simp only[go_sem,ak,n21.symm];have hs:∀a b,Ab.Sub h (upd (upd h i1 a) i2 b):=fun a b=>((Sub.refl h).put h1 a).put n2 b
 refine(BE (hb0.sub (hs _ _)) o.case hf).pthen ?_;simp only[go_sem,ct,mZ,gz,so];intro i3 h3';have n32:=aH h3';have h3b:=aB h3';have n31:=aH h3b;have n3:=aB h3b;have hs3:∀a b d,Ab.Sub h (upd (upd (upd h i1 a) i2 b) i3 d):=fun a b d=>(((Sub.refl h).put h1 a).put n2 b).put n3 d
 have hA:=(fun a b d=>Sub.trans (Sub.refl h) (hs3 a b d))
 simp only[go_sem,ak,n32.symm];have hfl:(bz s.cases o.case).fields.length≤1000000000:=by
  unfold bz;split
  ·rename_i ht
   have hlt:=jD ht;rw[List.getD_eq_getElem?_getD,List.getElem?_eq_getElem hlt];exact Nat.le_trans (hf.fields _ (acF hlt)) acN
  decide
 cases d1:bY s.cases o.case
 ·simp only[go_sem]
  exact .mk _ (.refl _) (hs3 _ _ _) ⟨by simp only[bX,d1];rfl,rfl⟩
 ·simp only[go_sem,ak,n32.symm]
  cases k3:(o.kind==3)
  ·have p3:o.kind≠3:=by grind
   simp only[go_sem];cases k2:(o.kind==2)
   ·have p2:o.kind≠2:=by grind
    have k2n:(o.kind !=2)=true:=acL;cases d256:decide ((256:Int)≤((bz s.cases o.case).log.length:Int))
    ·have p256:¬256≤(bz s.cases o.case).log.length:=by grind
     simp only[go_sem,ak,n32.symm,acA,k3,k2n,d256];cases k4:(o.kind==4)
     ·have p4:o.kind≠4:=by grind
      exact ag4
     ·have p4:o.kind=4:=by grind
      simp only[go_sem,ak,n32.symm];refine(Fc _ _ _).pthen ?_;cases dfo:mH (bz s.cases o.case).state o.to
      ·exact ag4
      ·exact ag4
    ·have p256:256≤(bz s.cases o.case).log.length:=by grind
     simp only[go_sem,acA,k2n,d256];exact .mk _ (.refl _) (hs3 _ _ _) ⟨aep,rfl⟩
   ·have p2:o.kind=2:=by grind
    have k2n:(o.kind !=2)=false:=acL;simp only[go_sem,ak,n32.symm,k3,k2n];cases k4:(o.kind==4)
    ·have p4:o.kind≠4:=by omega
     exact ag4
    ·have p4:o.kind=4:=by grind
     omega
  ·have p3:o.kind=3:=by grind
   cases d16:decide ((16:Int)≤((bz s.cases o.case).fields.length:Int))
   ·have p16:¬16≤(bz s.cases o.case).fields.length:=by grind
    simp only[go_sem,acA,d16];exact agX
   ·have p16:16≤(bz s.cases o.case).fields.length:=by grind
    simp only[go_sem,ak,n32.symm,acA,d16];refine(CV (show RdC _ (.agg [.s (bz s.cases o.case).id,.s (bz s.cases o.case).owner,.s (bz s.cases o.case).state,AV.sl ((bz s.cases o.case).fields.map bO) .no,AV.sl ((bz s.cases o.case).log.map iI) .no]) (bz s.cases o.case)from rdC _ _) o.field hfl).pthen ?_
    simp only[go_sem,aP];cases dv:((eO (bz s.cases o.case).fields o.field).kind==(0:Int) && ((eO (bz s.cases o.case).fields o.field).n==(0:Int) && (eO (bz s.cases o.case).fields o.field).s==([]:Txt)))
    ·have pv:eqV (eO (bz s.cases o.case).fields o.field) an=false:=dv
     simp only[go_sem];exact agX
    ·have pv:eqV (eO (bz s.cases o.case).fields o.field) an=true:=dv
     exact ag4
theorem zR{h}{x}{s}(hb:RdS h x s)(o)(hf:Few s)(h0:0<o.review)(hr:o.review≤9223372036854775807):ai prog 97 [x,opA o] h fun r h' =>r= .i (fU s o)∧h' =h:=by
 obtain⟨y1,y2,y3,y4,rfl,⟨xs,hc,hn,hcs⟩,h2,h3,h4⟩:=hb;cases hpp:s.policy with
 |mk pid pset palg ptgt prules pkids pobls=>
 have hcC:fZ (.mk pid pset palg ptgt prules pkids pobls)= [.s pid,.b pset,.i palg,aV ptgt,.sl (prules.map aC) .no,.sl (pkids.map aN) .no,aA pobls]:=afM;have hfr:=hf.reviews;refine acJ func97 35 [.tmp 4] fun hwf=>?_
 simp only[go_sem,hcC,opA,opC,List.cons_append,List.nil_append];intro i1 h1;simp only[go_sem];intro i2 h2';have n21:=aH h2';have n2:=aB h2';have hs:∀a b,Ab.Sub h (upd (upd h i1 a) i2 b):=fun a b=>((Sub.refl h).put h1 a).put n2 b
 simp only[go_sem,ak,n21.symm,h2.len,acA];obtain⟨n,en⟩:∃n:Nat,o.review=((n:Nat):Int)+1:=⟨(o.review - 1).toNat,acK⟩;have e1:vQ s.reviews o.review=s.reviews[n]? :=by unfold vQ;rw[if_pos acK,show(o.review - 1).toNat=n by omega]
 have w1:IntKind.i64.wrap (o.review - 1)=((n:Nat):Int):=acX;cases dlt:decide ((s.reviews.length:Int)<o.review)
 ·have hlt:n<s.reviews.length:=by grind
  have hgl:vQ s.reviews o.review=some s.reviews[n]:=acL;simp only[go_sem,ak,n21.symm,w1];refine h2.idx (e:=170) n rfl acL acY acN fun p hp1=>?_
  simp only[go_sem];refine hp1.field (f:=6) (off:=6) (t:=4) rfl acN fun p2 hp2=>?_
  have hld:=fun a b=>(hp2.sub (hs a b)).part (U:=U) (ty:=4) acN (by rw[acB,show(U 4).sz=1 by rfl];exact acz rfl)
  simp only[go_sem,hld,acB,iM];cases dop:s.reviews[n].isOpen
  ·exact ahu
  ·simp only[go_sem,ak,n21.symm]
   refine⟨.of acO,?_⟩;simp only[go_sem,w1];refine h2.idx (e:=170) n rfl acL acY acN fun p hp1=>?_
   simp only[go_sem];refine hp1.field (f:=2) (off:=2) (t:=9) rfl JL fun p2 hp2=>?_
   have hld:=fun a b=>(hp2.sub (hs a b)).part (U:=U) (ty:=9) JL (by rw[acB,MB];exact acz rfl)
   simp only[go_sem,hld,acB,iM];cases dsu:(s.reviews[n].subj==o.subj)
   ·have psu:s.reviews[n].subj≠o.subj:=by grind
    exact ahu
   ·have psu:s.reviews[n].subj=o.subj:=by grind
    exact ahu
 ·have hge:¬n<s.reviews.length:=by grind
  have hgn:vQ s.reviews o.review=none:=acL;exact ahu
theorem D5{h:Heap}{x:AV}(hb:RdS h x s)(o:OpD)(hf:Few s)(hr:i64 o.review)(ht:i64 s.tick):ai prog 73 [x,opA o] h fun r h' =>r= .i (bM s o)∧h' =h:=by
 have hb0:=hb;have hfo:=GC o;have hrc:=fun(G:Heap) (hG:Ab.Sub h G)=>B8 (hb.sub hG) o hf
 have hrl:=fun(G:Heap) (hG:Ab.Sub h G) (a:0<o.review)=>zR (hb.sub hG) o hf a hr.2
 have hfi:=fun(G:Heap) (hG:Ab.Sub h G)=>BK (hb.sub hG) o.case hf.cases
 have hha:=fun(G:Heap) (hG:Ab.Sub h G)=>Fl (hb.sub hG) o.case o.field (Nat.le_trans hf.roles acN)
 obtain⟨y1,y2,y3,y4,rfl,⟨xs,hc,hn,hcs⟩,h2,h3,h4⟩:=hb;cases hpp:s.policy with
 |mk pid pset palg ptgt prules pkids pobls=>
 have hcC:fZ (.mk pid pset palg ptgt prules pkids pobls)= [.s pid,.b pset,.i palg,aV ptgt,.sl (prules.map aC) .no,.sl (pkids.map aN) .no,aA pobls]:=afM;rw[hpp,hcC]at hb0 hrc hrl hfi hha;simp only[opA,opC,List.cons_append,List.nil_append]at hfo hrc hrl hfi hha;refine acJ func73 63 [.tmp 4] fun hwf=>?_
 simp only[go_sem,hcC,opA,opC,List.cons_append,List.nil_append];intro i1 h1;simp only[go_sem];intro i2 h2';have n21:=aH h2';have n2:=aB h2';have hs:∀a b,Ab.Sub h (upd (upd h i1 a) i2 b):=fun a b=>((Sub.refl h).put h1 a).put n2 b
 simp only[go_sem];refine(hfo _).pthen ?_;cases dform:dD o
 ·exact ag1
 ·simp only[go_sem]
  have hok:okD o=true:=by simp_all [dD,dI,Bool.and_eq_true]
  by_cases p1:o.kind=1
  ·have k1:(o.kind==1)=true:=by grind
   simp only[go_sem,ak,n21.symm,k1];refine(hfi _ (hs _ _)).pthen ?_;cases dth:bY s.cases o.case
   ·simp only[go_sem,ak,n21.symm,hc.len,hn]
    cases d64:decide ((64:Int)≤(s.cases.length:Int))
    ·have p64:¬64≤s.cases.length:=by grind
     exact ag1
    ·have p64:64≤s.cases.length:=by grind
     exact ag1
   ·exact ag1
  have k1:(o.kind==1)=false:=acL;simp only[go_sem,k1]
  by_cases p2:o.kind=2
  ·have k2:(o.kind==2)=true:=by grind
   simp only[go_sem,ak,n21.symm,k2];refine(hrc _ (hs _ _)).pthen ?_;exact ag1
  have k2:(o.kind==2)=false:=acL;simp only[go_sem,k2]
  by_cases p3:o.kind=3
  ·have k3:(o.kind==3)=true:=by grind
   simp only[go_sem,ak,n21.symm,k3];refine(hrc _ (hs _ _)).pthen ?_;exact ag1
  have k3:(o.kind==3)=false:=acL;simp only[go_sem,k3]
  by_cases p4:o.kind=4
  ·have k4:(o.kind==4)=true:=by grind
   simp only[go_sem,ak,n21.symm,k4];refine(hrc _ (hs _ _)).pthen ?_;exact ag1
  have k4:(o.kind==4)=false:=acL;simp only[go_sem,k4]
  by_cases p5:o.kind=5
  ·have k5:(o.kind==5)=true:=by grind
   simp only[go_sem,ak,n21.symm,k5];have hrv:0<o.review:=by grind [okD]
   refine(hrl _ (hs _ _) hrv).pthen ?_;exact ag1
  have k5:(o.kind==5)=false:=acL;simp only[go_sem,k5]
  by_cases p6:o.kind=6
  ·have k6:(o.kind==6)=true:=by grind
   simp only[go_sem,ak,n21.symm,k6];simp only[go_sem,h4.len,acA];cases d64:decide ((64:Int)≤(s.roles.length:Int))
   ·have p64:¬64≤s.roles.length:=by grind
    exact ag1
   ·have p64:64≤s.roles.length:=by grind
    simp only[go_sem,ak,n21.symm];refine(hha _ (hs _ _)).pthen ?_;cases dha:xY s.roles ⟨o.case,o.field⟩
    ·exact ag1
    ·exact ag1
  have k6:(o.kind==6)=false:=acL;simp only[go_sem,k6]
  by_cases p8:o.kind=8
  ·have k8:(o.kind==8)=true:=by grind
   simp only[go_sem,ak,n21.symm,k8];have hrv:0<o.review∧o.review≤1099511627776:=by grind [okD]
   have w1:IntKind.i64.wrap (1099511627776 - o.review)=1099511627776 - o.review:=aY _ acK;cases dt:decide (1099511627776 - o.review<s.tick)
   ·have pt:¬1099511627776 - o.review<s.tick:=acD dt
    simp only[go_sem,w1,dt];exact .mk _ (.refl _) (hs _ _) ⟨aeh,rfl⟩
   ·have pt:1099511627776 - o.review<s.tick:=acC dt
    simp only[go_sem,w1,dt];exact .mk _ (.refl _) (hs _ _) ⟨aeh,rfl⟩
  have k8:(o.kind==8)=false:=acL;simp only[go_sem,k8];exact .mk _ (.refl _) (hs _ _) ⟨by have:¬(2≤o.kind∧o.kind≤4):=acK;simp only[bM,dform,p1,p5,p6,p8,this,if_false,Bool.true_eq_false,ax],rfl⟩
end Go.Proofs.YteaaeelhjnhaaaaGreatDoor
namespace Go.Bf
open Go Go.Ab
structure wh where
 kind:Int
 pos:Int
 n:Int
 s:Txt
def fM(t:wh):AV:=.agg [.i t.kind,.i t.pos,.i t.n,.s t.s]
def wrd(c:UInt8):Bool:=ltr c||dgt c||(c.toNat:Int)==95
def pY(l:Txt):Nat:=l.foldl (fun n c=>n*10+(c.toNat - 48)) 0
def eW(neg:Bool)(s:Txt):Int×Nat:=
 let d:=s.takeWhile dgt
 if d= []∨(1<d.length∧s.head? =some 48)then(0,0)else
 let v:Int:=if neg then -(pY d:Int)else(pY d:Int)
 if -9223372036854775808≤v∧v≤9223372036854775807 then(v,d.length)else(0,0)
def jE(s:Txt):Txt:=if aK (s.takeWhile wrd)then s.takeWhile wrd else []
def jG(c:UInt8):Int:=if dgt c then(c.toNat:Int) - 48 else if 97≤(c.toNat:Int)∧(c.toNat:Int)≤102 then(c.toNat:Int) - 87 else -1
def tF:Txt→Option UInt8
 |b::x::y::_=>if b=92∧0≤jG x∧0≤jG y∧FH (UInt8.ofNat (16*jG x+jG y).toNat)=true then some (UInt8.ofNat (16*jG x+jG y).toNat)else none
 |_=>none
def tZ:Nat→Txt→Nat→Txt→Txt×Nat
 |0,_,_,_=>([],0)
 |_+1,[],_,_=>([],0)
 |f+1,c::r,at_,out=>
  if c=34 then(if 64<out.length then([],0)else(out,at_+1))
  else if FH c=false then tZ f r (at_+1) (out++ [c])
  else match tF (c::r)with
   |some b=>tZ f (r.drop 2) (at_+3) (out++ [b])
   |none=>([],0)
def zl(s:Txt):Txt×Nat:=tZ s.length (s.drop 1) 1 []
def Du(c:UInt8):Bool:=c∈([123,125,40,41,46,44,59,61,60,62,33]:Txt)
def bQ(s:Txt):wh×Nat:=
 let c:=s.headD 0
 if ltr c then(⟨1,0,0,jE s⟩,(jE s).length)
 else if dgt c then(⟨2,0,(eW false s).1,[]⟩,(eW false s).2)
 else if c=45 then(⟨2,0,(eW true (s.drop 1)).1,[]⟩,if(eW true (s.drop 1)).1=0 then 0 else(eW true (s.drop 1)).2+1)
 else if c=64 then(⟨3,0,(eW false (s.drop 1)).1,[]⟩,if(eW false (s.drop 1)).2=0∨(eW false (s.drop 1)).1>1099511627776 then 0 else(eW false (s.drop 1)).2+1)
 else if c=35 then(⟨4,0,0,jE (s.drop 1)⟩,if jE (s.drop 1)= []then 0 else(jE (s.drop 1)).length+1)
 else if c=34 then(⟨5,0,0,(zl s).1⟩,(zl s).2)
 else if Du c then(⟨6,0,0,[c]⟩,1)
 else(⟨0,0,0,[]⟩,0)
inductive Lexed where
 |bad (e:Int) (at_:Int)
 |ok (l:List wh)
def qk(c:UInt8):Bool:=(c.toNat:Int)==32||(c.toNat:Int)==10
def tD:Nat→Txt→Nat→List wh→Lexed
 |0,_,at_,_=> .bad 5 at_
 |_+1,[],at_,out=> .ok (out++ [⟨7,at_,0,[]⟩])
 |f+1,c::r,at_,out=>
  if qk c then tD f r (at_+1) out
  else if(bQ (c::r)).2=0 then .bad 5 at_
  else tD f ((c::r).drop (bQ (c::r)).2) (at_+(bQ (c::r)).2) (out++ [{(bQ (c::r)).1 with pos:=at_}])
def sk(s:Txt):Lexed:=if s.length>4096 then .bad 6 4096 else tD (s.length+1) s 0 []
theorem j3(p:UInt8→Bool)(s:Txt):(s.takeWhile p).length≤s.length:=(List.takeWhile_prefix p).length_le
theorem qW(p:UInt8→Bool)(s:Txt):s.take (s.takeWhile p).length=s.takeWhile p:=by
 obtain⟨t,ht⟩:=List.takeWhile_prefix (l:=s) p
 grind
theorem o8(neg:Bool)(s:Txt):(eW neg s).2≤s.length:=by
 have:=j3 dgt s;unfold eW;simp only;split
 ·exact afP
 ·generalize (if neg=true then -(pY (s.takeWhile dgt):Int)else(pY (s.takeWhile dgt):Int))=v
  split
  ·exact adr
  ·exact afP
theorem uh(s):(jE s).length≤s.length:=by grind [j3,wrd,jE]
theorem DC{s}{b}(h:tF s=some b):3≤s.length:=by
 match s,h with
 |_::_::_::_,_=>simp
theorem zm:∀(f:Nat) (r:Txt) (at_:Nat) (out:Txt),(tZ f r at_ out).2≤at_+r.length
 |0,_,_,_=>by simp[tZ]
 |_+1,[],_,_=>by simp[tZ]
 |f+1,c::r,at_,out=>by
  simp only[tZ];split
  ·grind
  ·split
   ·have:=zm f r (at_+1) (out++ [c]);simp only[List.length_cons];omega
   ·split
    ·rename_i b hb
     have h3:=DC hb;have:=zm f (r.drop 2) (at_+3) (out++ [b]);simp only[List.length_cons,List.length_drop]at this h3⊢;omega
    ·simp
theorem rW(s)(hs:s≠ []):(bQ s).2≤s.length:=by
 have h1:1≤s.length:=acL;have hd:(s.drop 1).length=s.length - 1:=acS;have k1:=uh s;have k2:=uh (s.drop 1);have k3:=o8 false s;have k4:=o8 false (s.drop 1);have k5:=o8 true (s.drop 1);have k6:=zm s.length (s.drop 1) 1 [];unfold bQ;simp only;split
 ·exact k1
 split
 ·exact k3
 split
 ·simp only;split<;>omega
 split
 ·simp only;split<;>omega
 split
 ·simp only;split<;>omega
 split
 ·simp only[zl];omega
 split
 ·simp only;omega
 ·simp
structure PS where
 ts:List wh
 pos:Nat
 rules:Nat
 bad:Int
 place:Int
def aL(st:PS):wh:=st.ts.getD st.pos ⟨7,0,0,[]⟩
def bI(st:PS)(e p:Int):PS:=if st.bad=0 then {st with bad:=e,place:=p} else st
def bp(st:PS):PS:=bI st 5 (aL st).pos
def bF(st:PS)(more:Bool):PS:=if more then bI st 6 (aL st).pos else st
def isD(st:PS)(s:Txt):Bool:=st.bad==0 && ((aL st).s==s && ((aL st).kind==1||(aL st).kind==6))
def bk(st:PS):PS:={st with pos:=st.pos+1}
def cq(st:PS)(s:Txt):Bool×PS:=if isD st s=true then(true,bk st)else(false,st)
def dV(st:PS)(s:Txt):PS:=if isD st s=true then bk st else bp st
def cp(st:PS):Txt×PS:=
 if(aL st).kind=1∧st.bad=0 then((aL st).s,bk st)else([],if(aL st).kind=1 then st else bp st)
def uE(s:Txt):List Txt→Option Nat
 | []=>none
 |w::r=>if w=s then some 0 else(uE s r).map (· +1)
def aX(st:PS)(ws:List Txt):Int×PS:=match uE (aL st).s ws with
 |some i=>if(aL st).kind=1∧st.bad=0 then((i:Int)+1,bk st)else(0,bp st)
 |none=>(0,bp st)
def WfP(st:PS):Prop:=st.pos<st.ts.length∧(∀i (h:i<st.ts.length),st.ts[i].kind≠7→i+1<st.ts.length)∧st.ts.length≤5000
theorem Db{st}(h:st.pos<st.ts.length):aL st=st.ts[st.pos]:=by grind [aL,List.getElem?_eq_getElem]
theorem JR{st}(e p:Int)(h:WfP st):WfP (bI st e p):=by unfold bI;split<;>exact h
theorem MK{st}(h:WfP st)(hk:(aL st).kind≠7):WfP (bk st):=by rw[Db h.1]at hk;exact⟨h.2.1 _ h.1 hk,h.2⟩
theorem dF{st}{s}(h:isD st s=true):(aL st).kind≠7:=by simp only[isD,Bool.and_eq_true,Bool.or_eq_true,beq_iff_eq]at h;omega
def Ah(st st' :PS):Prop:=WfP st'∧st'.ts=st.ts∧st.pos≤st'.pos
theorem Ah.refl{st}(h:WfP st):Ah st st:=⟨h,rfl,Nat.le_refl _⟩
theorem Ah.trans{a b c}(x:Ah a b)(y:Ah b c):Ah a c:=⟨y.1,y.2.1.trans x.2.1,Nat.le_trans x.2.2 y.2.2⟩
theorem xl{st}(e p:Int)(h:WfP st):Ah st (bI st e p):=⟨JR e p h,by grind [bI],by unfold bI;grind⟩
theorem eU{st}(h:WfP st)(hk:(aL st).kind≠7):Ah st (bk st):=⟨MK h hk,rfl,Nat.le_succ _⟩
theorem oh{st}(h:WfP st):Ah st (bp st):=xl _ _ h
theorem kX{st}(b)(h:WfP st):Ah st (bF st b):=by
 unfold bF;split
 ·grind [xl]
 ·exact ae8
theorem Nd{st}(s)(h:WfP st):Ah st (cq st s).2:=by
 unfold cq;split
 ·grind [eU,dF]
 ·exact ae8
theorem jj{st}(s)(h:WfP st):Ah st (dV st s):=by grind [dV,eU,dF,oh]
theorem mV{st}(h:WfP st):Ah st (cp st).2:=by
 unfold cp;split
 ·grind [eU]
 ·simp only;split
  ·exact ae8
  grind [oh]
theorem gF{st}(ws)(h:WfP st):Ah st (aX st ws).2:=by grind [aX,eU,oh]
def vr:List Txt:=[[115,117,98,106,101,99,116],[97,99,116,105,111,110],[99,97,115,101],[101,110,118]]
def fY(st:PS):rM×PS:=
 (⟨(aX st vr).1,(cp (dV (aX st vr).2 [46])).1,(cq (cp (dV (aX st vr).2 [46])).2 [33]).1⟩,(cq (cp (dV (aX st vr).2 [46])).2 [33]).2)
theorem Bu{st}(h:WfP st):Ah st (fY st).2:=by have h1:=gF vr h;have h2:=jj [46] h1.1;have h3:=mV h2.1;exact((h1.trans h2).trans h3).trans (Nd [33] h3.1)
def vY:Txt:=[116,114,117,101]
def qA:Txt:=[102,97,108,115,101]
def fX(st:PS):bt×PS:=
 if(aL st).kind=2 then(⟨2,(aL st).n,(aL st).s⟩,st)
 else if(aL st).kind=3 then(⟨4,(aL st).n,(aL st).s⟩,st)
 else if(aL st).kind=4 then(⟨5,(aL st).n,(aL st).s⟩,st)
 else if(aL st).kind=5 then(⟨3,(aL st).n,(aL st).s⟩,st)
 else if isD st vY then(⟨1,1,[]⟩,st)
 else if isD st qA then(⟨1,0,[]⟩,st)
 else(⟨0,(aL st).n,(aL st).s⟩,bp st)
def aD(st:PS):bt×PS:=if(fX st).2.bad=0 then((fX st).1,bk (fX st).2)else(⟨0,0,[]⟩,(fX st).2)
theorem rF(st):(bp st).bad≠0:=by grind [bp,bI,Int]
theorem ue(st):(fX st).2=st∧(aL st).kind≠7∨(fX st).2=bp st:=by
 unfold fX;split
 ·grind
 split
 ·grind
 split
 ·grind
 split
 ·grind
 split
 ·rename_i h;exact .inl ⟨rfl,dF h⟩
 split
 ·rename_i h;exact .inl ⟨rfl,dF h⟩
 simp
theorem Cq{st}(h:WfP st):Ah st (aD st).2:=by
 unfold aD;rcases ue st with⟨e,hk⟩|e
 ·rw[e];split
  ·grind [eU]
  ·exact ae8
 simp_all [if_neg,rF,oh]
def opP(st:PS):Int×PS:=
 if isD st [61]then(1,bk st)else if isD st [60]then(2,bk st)else if isD st [62]then(3,bk st)else(0,bp st)
theorem Tw{st}(h:WfP st):Ah st (opP st).2:=by grind [opP,eU,dF,oh]
def gA(st:PS):ck×PS:=(⟨(fY st).1,(opP (fY st).2).1,(aD (opP (fY st).2).2).1⟩,(aD (opP (fY st).2).2).2)
theorem qf{st}(h:WfP st):Ah st (gA st).2:=by have h1:=Bu h;have h2:=Tw h1.1;exact(h1.trans h2).trans (Cq h2.1)
def fS{α:Type}(one:PS→α×PS)(w:Txt)(most:Nat):Nat→PS→List α→List α×PS
 |0,st,l=>(l,st)
 |f+1,st,l=>if isD st w=true then fS one w most f (bF (one (bk st)).2 (decide (most<l.length+1))) (l++ [(one (bk st)).1])else(l,st)
theorem sN{α:Type}{one:PS→α×PS}(ho:∀st,WfP st→Ah st (one st).2)(w)(most:Nat):∀(f:Nat) (st:PS) (l:List α),WfP st→Ah st (fS one w most f st l).2
 |0,st,l,h=> .refl h
 |f+1,st,l,h=>by
  unfold fS;split
  ·rename_i hi
   have h1:=eU h (dF hi);have h2:=ho _ h1.1;have h3:=kX (decide (most<l.length+1)) h2.1;exact((h1.trans h2).trans h3).trans (sN ho w most f _ _ h3.1)
  ·exact ae8
def orT:Txt:=[111,114]
def Cs:Txt:=[97,110,100]
def Eu:Txt:=[119,104,101,110]
def pW(st:PS):List ck×PS:=fS gA [44] 8 st.ts.length (gA st).2 [(gA st).1]
theorem Bs{st}(h:WfP st):Ah st (pW st).2:=(qf h).trans (sN (fun _ h=>qf h) _ _ _ _ _ (qf h).1)
def rI(st:PS):List (List ck)×PS:=
 let a:=pW (dV st [40])
 let m:=fS pW orT 8 st.ts.length a.2 [a.1]
 (m.1,dV m.2 [41])
theorem Bt{st}(h:WfP st):Ah st (rI st).2:=by
 have h0:=jj [40] h;have h1:=Bs h0.1;have h2:=sN (fun _ h=>Bs h) orT 8 st.ts.length _ [(pW (dV st [40])).1] h1.1
 exact((h0.trans h1).trans h2).trans (jj [41] h2.1)
def gR(st:PS):kr×PS:=if isD st Eu=true then fS rI Cs 8 st.ts.length (rI (bk st)).2 [(rI (bk st)).1]else([],st)
theorem Bz{st}(h:WfP st):Ah st (gR st).2:=by
 unfold gR;split
 ·rename_i hi
  have h0:=eU h (dF hi);have h1:=Bt h0.1;exact(h0.trans h1).trans (sN (by grind [Bt]) _ _ _ _ _ h1.1)
 ·exact ae8
def lR:List Txt:=[[111,110,101],[115,105,122,101],[104,97,115],[101,113],[108,101,115,115],[97,100,100],[115,117,98],[109,117,108],[110,111,116],[97,110,100],[111,114]]
def opers(op:Int):List Bool:=if op=3∨op=4 then [true]else if op=5 then [true,false]else if op=11 then [false]else [false,false]
abbrev ExF:=PS→List aZ→(List aZ×Bool)×PS
def iq(ex:ExF)(st:PS)(l:List aZ)(must:Bool):List aZ×PS:=
 ((ex st l).1.1,if(ex st l).1.2=must then(ex st l).2 else bI (ex st l).2 5 (aL st).pos)
def jr(ex:ExF):List Bool→PS→List aZ→List aZ×PS
 | [],st,l=>(l,st)
 |b::bs,st,l=>if st.bad=0 then jr ex bs (iq ex st l b).2 (iq ex st l b).1 else(l,st)
def qC(ex:ExF)(st:PS)(l:List aZ):(List aZ×aZ)×PS:=
 (((jr ex (opers (2+(aX st lR).1)) (aX st lR).2 l).1,⟨2+(aX st lR).1,⟨0,0,[]⟩,⟨0,[],false⟩⟩),dV (jr ex (opers (2+(aX st lR).1)) (aX st lR).2 l).2 [41])
def iZ(ex:ExF)(st:PS)(l:List aZ):(List aZ×aZ)×PS:=
 if isD st [40]=true then qC ex (bk st) l
 else if(aL st).kind=1∧(aL st).s≠vY∧(aL st).s≠qA then((l,⟨2,⟨0,0,[]⟩,(fY st).1⟩),(fY st).2)
 else((l,⟨1,(aD st).1,⟨0,[],false⟩⟩),(aD st).2)
def eD:Nat→ExF
 |0,st,l=>((l,false),st)
 |f+1,st,l=>(((iZ (eD f) st l).1.1++ [(iZ (eD f) st l).1.2],(iZ (eD f) st l).1.2.op==2),bF (iZ (eD f) st l).2 (decide (32<(iZ (eD f) st l).1.1.length+1)))
def Ez(ex:ExF):Prop:=∀st l,WfP st→Ah st (ex st l).2∧(ex st l).1.1.length+2*st.pos≤l.length+2*(ex st l).2.pos+1
theorem yG{ex}(he:Ez ex)(st)(l)(b)(h:WfP st):Ah st (iq ex st l b).2∧(iq ex st l b).1.length+2*st.pos≤l.length+2*(iq ex st l b).2.pos+1:=by
 obtain⟨h1,h2⟩:=he st l h;unfold iq;split
 ·grind
 ·refine⟨h1.trans (xl _ _ h1.1),?_⟩
  grind [bI,aL]
theorem AS{ex}(he:Ez ex):∀(bs:List Bool) (st:PS) (l:List aZ),WfP st→Ah st (jr ex bs st l).2∧(jr ex bs st l).1.length+2*st.pos≤l.length+2*(jr ex bs st l).2.pos+bs.length
 | [],st,l,h=>⟨.refl h,by simp[jr]⟩
 |b::bs,st,l,h=>by
  unfold jr;split
  ·obtain⟨h1,h2⟩:=yG he st l b h
   obtain⟨h3,h4⟩:=AS he bs (iq ex st l b).2 (iq ex st l b).1 h1.1;exact⟨h1.trans h3,acL⟩
  ·exact⟨.refl h,acS⟩
theorem DG(op:Int):(opers op).length≤2:=by grind [opers]
theorem KT{ex}(he:Ez ex)(st)(l)(h:WfP st):Ah st (qC ex st l).2∧(qC ex st l).1.1.length+2*st.pos≤l.length+2*(qC ex st l).2.pos+2:=by have h1:=gF lR h;obtain⟨h2,h3⟩:=AS he (opers (2+(aX st lR).1)) _ l h1.1;have h4:=jj [41] h2.1;have:=DG (2+(aX st lR).1);have p1:=h1.2.2;have p4:=h4.2.2;unfold qC;exact⟨(h1.trans h2).trans h4,acL⟩
theorem Da{ex}(he:Ez ex)(st)(l)(h:WfP st):Ah st (iZ ex st l).2∧(iZ ex st l).1.1.length+2*st.pos≤l.length+2*(iZ ex st l).2.pos:=by
 unfold iZ;split
 ·rename_i hi
  have h1:=eU h (dF hi);obtain⟨h2,h3⟩:=KT he _ l h1.1;have:(bk st).pos=st.pos+1:=rfl;exact⟨h1.trans h2,acK⟩
 ·split
  ·have h1:=Bu h
   have:=h1.2.2;exact⟨h1,acL⟩
  ·have h1:=Cq h
   have:=h1.2.2;exact⟨h1,acL⟩
theorem qw:∀f,Ez (eD f)
 |0=>fun st l h=>⟨.refl h,by simp[eD]⟩
 |f+1=>fun st l h=>by
  obtain⟨h1,h2⟩:=Da (qw f) st l h;have h3:=kX (decide (32<(iZ (eD f) st l).1.1.length+1)) h1.1;have:=h3.2.2;refine⟨h1.trans h3,?_⟩
  grind [eD,acE,List.length_singleton]
def uS:List Txt:=[[112,101,114,109,105,116],[100,101,110,121]]
def mF:List Txt:=[[108,111,103],[114,101,100,97,99,116],[114,101,118,105,101,119],[110,111,116,105,102,121]]
def vM:Txt:=[111,110]
def zM(st:PS):dN×PS:=
 (⟨(aX st uS).1,(aX (aX st uS).2 mF).1,(cp (aX (aX st uS).2 mF).2).1⟩,(cp (aX (aX st uS).2 mF).2).2)
theorem Ka{st}(h:WfP st):Ah st (zM st).2:=by have h1:=gF uS h;have h2:=gF mF h1.1;exact(h1.trans h2).trans (mV h2.1)
def gv(st:PS):List dN×PS:=fS zM vM 8 st.ts.length st []
theorem Bw{st}(h:WfP st):Ah st (gv st).2:=sN (fun _ h=>Ka h) _ _ _ _ _ h
inductive Rch (a:PS):PS→Prop where
 |refl:Rch a a
 |wrong {b:PS} (e p:Int):Rch a b→(e=5∨e=6)→(∃i,i≤b.pos∧p=(b.ts.getD i ⟨7,0,0,[]⟩).pos)→Rch a (bI b e p)
 |next {b:PS}:Rch a b→b.bad=0→(aL b).kind≠7→Rch a (bk b)
theorem Rch.trans{a b c}(x:Rch a b)(y:Rch b c):Rch a c:=by
 induction y with
 |refl=>exact x
 |wrong e p _ h1 h2 ih=>grind [wrong]
 |next _ h1 h2 ih=>grind [next]
theorem kJ(st):Rch st (bp st):=.wrong _ _ .refl (.inl rfl) ⟨st.pos,Nat.le_refl _,rfl⟩
theorem rB(st)(b):Rch st (bF st b):=by
 unfold bF;split
 ·exact .wrong _ _ .refl (.inr rfl) ⟨st.pos,Nat.le_refl _,rfl⟩
 ·exact afd
theorem GM{st}{s}(h:isD st s=true):st.bad=0:=by simp_all [isD,Bool.and_eq_true,beq_iff_eq]
theorem sA{st}{s}(h:isD st s=true):Rch st (bk st):=.next .refl (GM h) (dF h)
theorem L5(st)(s):Rch st (cq st s).2:=by
 unfold cq;split
 ·grind [sA]
 ·exact afd
theorem mO(st)(s):Rch st (dV st s):=by grind [dV,sA,kJ]
theorem tW(st):Rch st (cp st).2:=by
 unfold cp;split
 ·rename_i h;exact .next .refl h.2 acK
 ·simp only;split
  ·exact afd
  grind [kJ]
theorem mB(st)(ws):Rch st (aX st ws).2:=by
 unfold aX;split
 ·split
  ·rename_i h;exact .next .refl h.2 acK
  grind [kJ]
 grind [kJ]
theorem DV(st):Rch st (fY st).2:=(((mB st vr).trans (mO _ [46])).trans (tW _)).trans (L5 _ [33])
theorem A2(st):Rch st (aD st).2:=by
 unfold aD;rcases ue st with⟨e,hk⟩|e
 ·rw[e];split
  ·rename_i h;exact .next .refl h hk
  ·exact afd
 simp_all [if_neg,rF,kJ]
theorem RF(st):Rch st (opP st).2:=by grind [opP,sA,kJ]
theorem A0(st):Rch st (gA st).2:=((DV st).trans (RF _)).trans (A2 _)
theorem qP{α:Type}{one:PS→α×PS}(ho:∀st,Rch st (one st).2)(w)(most:Nat):∀(f:Nat) (st:PS) (l:List α),Rch st (fS one w most f st l).2
 |0,st,l=> .refl
 |f+1,st,l=>by
  unfold fS;split
  ·rename_i h
   exact(((sA h).trans (ho _)).trans (rB _ _)).trans (qP ho w most f _ _)
  ·exact afd
theorem Ht(st):Rch st (pW st).2:=(A0 st).trans (qP A0 _ _ _ _ _)
theorem Hu(st):Rch st (rI st).2:=(((mO st [40]).trans (Ht _)).trans (qP Ht orT 8 st.ts.length _ [(pW (dV st [40])).1])).trans (mO _ [41])
theorem Hv(st):Rch st (gR st).2:=by
 unfold gR;split
 ·rename_i h;exact((sA h).trans (Hu _)).trans (qP Hu _ _ _ _ _)
 ·exact afd
theorem On(st):Rch st (zM st).2:=((mB st uS).trans (mB _ mF)).trans (tW _)
theorem DZ(st):Rch st (gv st).2:=qP On _ _ _ _ _
theorem rC{a b}(h:Rch a b):b.ts=a.ts∧a.pos≤b.pos∧b.rules=a.rules:=by
 induction h with
 |refl=>simp
 |wrong e p _ _ _ ih=>grind [bI]
 |next _ _ _ ih=>exact⟨ih.1,Nat.le_succ_of_le ih.2.1,ih.2.2⟩
theorem D3{ex}(he:∀st l,Rch st (ex st l).2)(st)(l)(b):Rch st (iq ex st l b).2:=by
 unfold iq;simp only;split
 ·grind
 ·have:=rC (he st l)
  exact .wrong _ _ (he st l) (.inl rfl) ⟨st.pos,this.2.1,by rw[this.1];rfl⟩
theorem A1{ex}(he:∀st l,Rch st (ex st l).2):∀(bs:List Bool) (st:PS) (l:List aZ),Rch st (jr ex bs st l).2
 | [],st,l=> .refl
 |b::bs,st,l=>by
  unfold jr;split
  ·exact(D3 he st l b).trans (A1 he bs _ _)
  ·exact afd
theorem DW:∀(f:Nat) (st:PS) (l:List aZ),Rch st (eD f st l).2
 |0,st,l=> .refl
 |f+1,st,l=>by
  refine Rch.trans ?_ (rB _ _);unfold iZ;split
  ·rename_i h
   exact(sA h).trans (((mB _ lR).trans (A1 (DW f) _ _ _)).trans (mO _ [41]))
  grind [DV,A2]
def ifT:Txt:=[105,102]
def pn:Txt:=[112,101,114,109,105,116]
def iX:Txt:=[100,101,110,121]
def pq:Txt:=[112,111,108,105,99,121]
def FR:Txt:=[115,101,116]
def mL:List Txt:=[pq,FR]
def xm:List Txt:=[[100,101,110,121,111,118,101,114],[112,101,114,109,105,116,111,118,101,114],[102,105,114,115,116],[111,110,108,121],[100,101,110,121,117,110,108,101,115,115],[112,101,114,109,105,116,117,110,108,101,115,115]]
def qu(st:PS):List aZ×PS:=if isD st ifT=true then iq (eD st.ts.length) (bk st) [] false else([],st)
theorem L4(st):Rch st (qu st).2:=by
 unfold qu;split
 ·rename_i h;exact(sA h).trans (D3 (DW _) _ _ _)
 ·exact afd
theorem Gh{st}(h:WfP st):Ah st (qu st).2:=by
 unfold qu;split
 ·rename_i hi
  have h1:=eU h (dF hi);exact h1.trans (yG (qw _) _ _ _ h1.1).1
 ·exact ae8
def pU(deny:Bool)(st:PS):fy×PS:=
 (⟨(cp st).1,deny,(gR (cp st).2).1,(qu (gR (cp st).2).2).1,(gv (qu (gR (cp st).2).2).2).1⟩,dV (gv (qu (gR (cp st).2).2).2).2 [59])
theorem yU(deny)(st):Rch st (pU deny st).2:=((((tW st).trans (Hv _)).trans (L4 _)).trans (DZ _)).trans (mO _ [59])
theorem Bx(deny){st}(h:WfP st):Ah st (pU deny st).2:=by have h1:=mV h;have h2:=Bz h1.1;have h3:=Gh h2.1;have h4:=Bw h3.1;exact(((h1.trans h2).trans h3).trans h4).trans (jj [59] h4.1)
inductive nP (a:PS):PS→Prop where
 |refl:nP a a
 |small {b c:PS}:nP a b→Rch b c→nP a c
 |rule {b:PS}:nP a b→b.bad=0→b.rules≠64→(aL b).kind≠7→nP a {bk b with rules:=b.rules+1}
theorem nP.trans{a b c}(x:nP a b)(y:nP b c):nP a c:=by
 induction y with
 |refl=>exact x
 |small _ h1 ih=>grind [small]
 |rule _ h1 h2 h3 ih=>grind [rule]
theorem Rch.big{a b}(h:Rch a b):nP a b:=.small .refl h
def jZ:Nat→PS→List fy→List fy×PS
 |0,st,l=>(l,st)
 |f+1,st,l=>if isD st pn=true∨isD st iX=true then
   if l.length=16∨st.rules=64 then(l,bF st true)
   else jZ f (pU (isD st iX) {bk st with rules:=st.rules+1}).2 (l++ [(pU (isD st iX) {bk st with rules:=st.rules+1}).1])
  else(l,st)
abbrev PoF:=PS→bV×PS
def jT(pol:PoF)(deep:Bool):Nat→PS→List bV→List bV×PS
 |0,st,l=>(l,st)
 |f+1,st,l=>if isD st pq=true∨isD st FR=true then
   if l.length=16∨deep=true then(l,bF st true)
   else jT pol deep f (pol st).2 (l++ [(pol st).1])
  else(l,st)
def cU(st:PS):(Bool×Txt×Int×kr)×PS:=
 (((aX st mL).1==2,(cp (aX st mL).2).1,(aX (cp (aX st mL).2).2 xm).1,(gR (aX (cp (aX st mL).2).2 xm).2).1),dV (gR (aX (cp (aX st mL).2).2 xm).2).2 [123])
theorem DX(st):Rch st (cU st).2:=((((mB st mL).trans (tW _)).trans (mB _ xm)).trans (Hv _)).trans (mO _ [123])
theorem Nc{st}(h:WfP st):Ah st (cU st).2:=by have h1:=gF mL h;have h2:=mV h1.1;have h3:=gF xm h2.1;have h4:=Bz h3.1;exact(((h1.trans h2).trans h3).trans h4).trans (jj [123] h4.1)
def pP(pol:PoF)(deep:Bool)(set:Bool)(st:PS):(List fy×List bV)×PS:=
 if set=true then(([],(jT pol deep 17 st []).1),(jT pol deep 17 st []).2)else(((jZ 17 st []).1,[]),(jZ 17 st []).2)
def gH:Nat→PoF
 |0,st=>(.mk [] false 0 [] [] [] [],st)
 |r+1,st=>(.mk (cU st).1.2.1 (cU st).1.1 (cU st).1.2.2.1 (cU st).1.2.2.2 (pP (gH r) (r==0) (cU st).1.1 (cU st).2).1.1 (pP (gH r) (r==0) (cU st).1.1 (cU st).2).1.2
   (gv (dV (pP (gH r) (r==0) (cU st).1.1 (cU st).2).2 [125])).1,(gv (dV (pP (gH r) (r==0) (cU st).1.1 (cU st).2).2 [125])).2)
theorem mJ{st}{a b}(h:isD st a=true∨isD st b=true):st.bad=0∧(aL st).kind≠7:=by grind [GM,dF]
theorem xk{st}(h:WfP st)(hk:(aL st).kind≠7):Ah st {bk st with rules:=st.rules+1}:=eU h hk
theorem Gj:∀(f:Nat) (st:PS) (l:List fy),WfP st→Ah st (jZ f st l).2
 |0,st,l,h=> .refl h
 |f+1,st,l,h=>by
  unfold jZ;split
  ·rename_i hi
   split
   ·exact kX true h
   ·have h1:=xk h (mJ hi).2
    have h2:=Bx (isD st iX) h1.1;exact(h1.trans h2).trans (Gj f _ _ h2.1)
  ·exact ae8
theorem D4:∀(f:Nat) (st:PS) (l:List fy),nP st (jZ f st l).2
 |0,st,l=> .refl
 |f+1,st,l=>by
  unfold jZ;split
  ·rename_i hi
   split
   ·exact(rB st true).big
   ·rename_i hn
    have h1:nP st {bk st with rules:=st.rules+1}:=.rule .refl (mJ hi).1 acK (mJ hi).2
    exact(h1.trans (yU (isD st iX) _).big).trans (D4 f _ _)
  ·exact afd
theorem Gi{pol}(hp:∀st,WfP st→Ah st (pol st).2)(deep):∀(f:Nat) (st:PS) (l:List bV),WfP st→Ah st (jT pol deep f st l).2
 |0,st,l,h=> .refl h
 |f+1,st,l,h=>by
  unfold jT;split
  ·split
   ·exact kX true h
   ·have h1:=hp st h
    exact h1.trans (Gi hp deep f _ _ h1.1)
  ·exact ae8
theorem DY{pol}(hp:∀st,nP st (pol st).2)(deep):∀(f:Nat) (st:PS) (l:List bV),nP st (jT pol deep f st l).2
 |0,st,l=> .refl
 |f+1,st,l=>by
  unfold jT;split
  ·split
   ·exact(rB st true).big
   ·exact(hp st).trans (DY hp deep f _ _)
  ·exact afd
theorem Bv{pol}(hp:∀st,WfP st→Ah st (pol st).2)(deep set){st}(h:WfP st):Ah st (pP pol deep set st).2:=by grind [pP,Gi,Gj]
theorem L3{pol}(hp:∀st,nP st (pol st).2)(deep set)(st):nP st (pP pol deep set st).2:=by grind [pP,DY,D4]
theorem xj:∀(r:Nat) (st:PS),WfP st→Ah st (gH r st).2
 |0,st,h=> .refl h
 |r+1,st,h=>by have h1:=Nc h;have h2:=Bv (xj r) (r==0) (cU st).1.1 h1.1;have h3:=jj [125] h2.1;exact((h1.trans h2).trans h3).trans (Bw h3.1)
theorem B7:∀(r:Nat) (st:PS),nP st (gH r st).2
 |0,st=> .refl
 |r+1,st=>(((DX st).big.trans (L3 (B7 r) _ _ _)).trans (mO _ [125]).big).trans (DZ _).big
theorem u0{a b}(h:nP a b)(h0:a.rules≤64):b.rules≤64:=by
 induction h with
 |refl=>omega
 |small _ h1 ih=>rw[(rC h1).2.2];omega
 |rule _ _ h2 _ ih=>grind
theorem uJ:∀(f:Nat) (s:Txt) (a:Nat) (out l:List wh),tD f s a out= .ok l→∃pre,l=out++pre++ [⟨7,(a+s.length:Nat),0,[]⟩]∧pre.length≤s.length∧∀t∈pre,(a:Int)≤t.pos∧t.pos<((a+s.length:Nat):Int)
 |0,_,_,_,_,h=>by grind [tD]
 |f+1,[],a,out,l,h=>by grind [tD,Lexed.ok.injEq]
 |f+1,c::r,a,out,l,h=>by
  simp only[tD]at h;split at h
  ·obtain⟨pre,e1,e2,e3⟩:=uJ f r (a+1) out l h
   grind
  ·split at h
   ·cases h
   ·rename_i hn
    have hle:=rW (c::r) acS;obtain⟨pre,e1,e2,e3⟩:=uJ f _ _ _ l h;have ee:((a+(bQ (c::r)).2+((c::r).drop (bQ (c::r)).2).length:Nat):Int)=((a+(c::r).length:Nat):Int):=acL;refine⟨{(bQ (c::r)).1 with pos:=a}::pre,acL,acL,fun t ht=>?_⟩
    grind
theorem AM{s}{ts}(h:sk s= .ok ts):∃pre,ts=pre++ [⟨7,s.length,0,[]⟩]∧pre.length≤s.length∧(∀t∈pre,0≤t.pos∧t.pos<(s.length:Int))∧s.length≤4096:=by grind [sk,uJ]
theorem JQ{s}{ts}(h:sk s= .ok ts)(x:Nat)(e p:Int):WfP ⟨ts,0,x,e,p⟩:=by
 obtain⟨pre,rfl,h2,_,h3⟩:=AM h;refine⟨acS,fun i hi hk=>?_,acL⟩
 grind
theorem yp:∀(f:Nat) (s:Txt) (a:Nat) (out:List wh) (e p:Int),tD f s a out= .bad e p→e=5∧0≤p∧(s.length<f→p≤((a+s.length:Nat):Int))
 |0,s,a,out,e,p,h=>by simp only[tD,Lexed.bad.injEq]at h;omega
 |f+1,[],a,out,e,p,h=>by grind [tD]
 |f+1,c::r,a,out,e,p,h=>by
  simp only[tD]at h;split at h
  ·obtain⟨h1,h2,h3⟩:=yp f r (a+1) out e p h
   grind
  ·split at h
   ·grind
   ·obtain⟨h1,h2,h3⟩:=yp f _ _ _ e p h
    grind [rW,List.length_drop]
theorem yo{s}{e a:Int}(h:sk s= .bad e a):(e=5∨e=6)∧0≤a∧a≤s.length:=by
 unfold sk at h;split at h
 ·grind
 ·obtain⟨h1,h2,h3⟩:=yp _ _ _ _ _ _ h
  omega
def oI:bV:=.mk [] false 0 [] [] [] []
def pZ(s:Txt)(x:bV×PS):PS:=
 if(if(aL x.2).kind=7 then x.2 else bp x.2).bad=0∧gC x.1≠0 then bI (if(aL x.2).kind=7 then x.2 else bp x.2) 5 s.length else(if(aL x.2).kind=7 then x.2 else bp x.2)
def yI(s:Txt)(ts:List wh):bV×Int×Int:=
 if(pZ s (gH 4 ⟨ts,0,0,0,0⟩)).bad=0 then((gH 4 ⟨ts,0,0,0,0⟩).1,0,0)else(oI,(pZ s (gH 4 ⟨ts,0,0,0,0⟩)).bad,(pZ s (gH 4 ⟨ts,0,0,0,0⟩)).place)
def aQ(s:Txt):bV×Int×Int:=match sk s with
 |.bad e a=>(oI,e,a)
 |.ok ts=>yI s ts
end Go.Bf
namespace Go.Proofs.YteaaeelhjnhaaaaGreatDoor
open Go Go.Ab Go.Bf Tryz
def Byt(g:FuncId)(p:UInt8→Bool):Prop:=∀(c:UInt8) (h:Heap),ai prog g [.v (.int .u8 c.toNat)] h fun r h' =>r= .b (p c)∧h' =h
theorem mK:Byt 156 dgt:=fun c h=>by
 refine acJ func156 9 [.tmp 2] fun hwf=>?_
 cases d1:decide (48≤(c.toNat:Int))<;>cases d2:decide ((c.toNat:Int)≤57)
 all_goals
  simp only[go_sem,d1,d2];exact .same (.refl _) ⟨by simp only[dgt,d1,d2];rfl,rfl⟩
theorem IY:Byt 186 wrd:=fun c h=>by
 refine acJ func186 17 [.tmp 2] fun hwf=>?_
 cases d1:decide (97≤(c.toNat:Int))<;>cases d2:decide ((c.toNat:Int)≤122)<;>cases d3:dgt c<;>cases d4:((c.toNat:Int)==95)
 all_goals
  simp only[go_sem,d1,d2]
  first
   |exact .same (.refl _) ⟨by simp only[wrd,ltr,d1,d2,d3,d4];rfl,rfl⟩
   |(refine(mK c _).pthen ?_;simp only[go_sem,d3,d4];exact .same (.refl _) ⟨by simp only[wrd,ltr,d1,d2,d3,d4];rfl,rfl⟩)
theorem DN:Byt 188 (fun c=> !FH c):=fun c h=>by
 refine acJ func188 17 [.tmp 2] fun hwf=>?_
 cases d1:decide (32≤(c.toNat:Int))<;>cases d2:decide ((c.toNat:Int)≤126)<;>cases d3:((c.toNat:Int)==34)<;>cases d4:((c.toNat:Int)==92)
 all_goals
  simp only[go_sem,d1,d2,d3,d4,bne];refine .same (.refl _) ⟨?_,rfl⟩;have e1:decide ((c.toNat:Int)<32)= !decide (32≤(c.toNat:Int)):=by grind
  have e2:decide (126<(c.toNat:Int))= !decide ((c.toNat:Int)≤126):=by grind
  simp only[FH,e1,e2,d1,d2,d3,d4];rfl
theorem OI(p:UInt8→Bool)(s:Txt)(i:Nat)(hi:i<s.length)(h:i≤(s.takeWhile p).length)(hp:p s[i]=true):i+1≤(s.takeWhile p).length:=by exact ahw
theorem U3(p:UInt8→Bool)(s:Txt)(i:Nat)(hi:i<s.length)(h:i≤(s.takeWhile p).length)(hp:p s[i]=false):(s.takeWhile p).length=i:=by exact ahw
theorem Mh(g)(p)(hg:Byt g p)(s)(h):ai prog 185 [.s s,.fn g []] h fun r h' =>r= .v (.int .i64 (s.takeWhile p).length)∧h' =h:=by
 refine acJ func185 20 [.tmp 4] fun hwf=>?_
 have hlen:=hwf (.s s) acS;simp only[wfA,wf1,lim]at hlen;simp only[go_sem];refine .intro (fun m ρ h' =>h' =h∧∃i:Nat,i≤s.length∧m=s.length - i∧i≤(s.takeWhile p).length∧lk ρ 0=some (.s s)∧lk ρ 1=some (.fn g [])∧lk ρ 5=some (.i i)) s.length ?_ ?_
 ·refine⟨rfl,0,acK,rfl,acK,?_,?_,?_⟩<;>simp only[go_sem]
 ·rintro m ρ h' ⟨rfl,i,hi,rfl,hc,r0,r1,r5⟩
  cases d1:decide ((i:Int)<(s.length:Int))
  ·have hge:i=s.length:=by grind
   have:=j3 p s;simp only[go_sem,r0,r5,d1];exact .same (.refl _) ⟨by grind [ax],rfl⟩
  ·have hlt:i<s.length:=by grind
   have w1:IntKind.i64.wrap ((i:Int)+1)=((i+1:Nat):Int):=acX;simp only[go_sem,r0,r1,r5,d1];refine .at i hlt ?_;simp only[go_sem,aI];refine(hg s[i] _).pthen ?_;cases d2:p s[i]
   ·have:=U3 p s i hlt hc d2
    simp only[go_sem,r5];exact .same (.refl _) ⟨by rw[this];rfl,rfl⟩
   ·simp only[go_sem,r5,w1]
    refine⟨_,?_,rfl,i+1,acK,rfl,OI p s i hlt hc d2,?_,?_,?_⟩
    ·omega
    all_goals simp only[go_sem,r0,r1]
theorem yB(s)(h):ai prog 155 [.s s] h fun r h' =>r= .s (jE s)∧h' =h:=by
 refine acJ func155 12 [.tmp 2] fun hwf=>?_
 simp only[go_sem];refine(Mh _ _ IY s _).pthen ?_;simp only[go_sem];refine⟨acK,acK,?_⟩;simp only[go_sem,Option.isSome_none,Option.isSome_some,sR,Int.toNat_natCast,qW];refine⟨by grind [j3,wrd],?_⟩
 refine(o6 _ _).pthen ?_;cases d1:aK (s.takeWhile wrd)
 ·exact aiz
 ·exact aiz
theorem wr8{x:Int}(h:0≤x∧x<256):IntKind.u8.wrap x=x:=by grind [IntKind.wrap,IntKind.signed,IntKind.bits]
theorem sU(c)(h):ai prog 211 [.v (.int .u8 c.toNat)] h fun r h' =>r= .i (jG c)∧h' =h:=by
 refine acJ func211 20 [.tmp 2] fun hwf=>?_
 have hc:=c.toNat_lt;simp only[go_sem];refine(mK c _).pthen ?_;cases d1:dgt c
 case true=>
  have e1:48≤(c.toNat:Int)∧(c.toNat:Int)≤57:=by grind [dgt]
  have w1:IntKind.u8.wrap ((c.toNat:Int) - 48)=(c.toNat:Int) - 48:=wr8 acK;have w2:IntKind.i64.wrap ((c.toNat:Int) - 48)=(c.toNat:Int) - 48:=aY _ acK;simp only[go_sem,w1,w2];exact .same (.refl _) ⟨by grind [jG,ax],rfl⟩
 cases d2:decide (97≤(c.toNat:Int))<;>cases d3:decide ((c.toNat:Int)≤102)
 case true.true=>have e2:=acC d2;have e3:=acC d3;have w1:IntKind.u8.wrap ((c.toNat:Int) - 97)=(c.toNat:Int) - 97:=wr8 acK;have w2:IntKind.i64.wrap ((c.toNat:Int) - 97)=(c.toNat:Int) - 97:=aY _ acK;have w3:IntKind.i64.wrap ((c.toNat:Int) - 97+10)=(c.toNat:Int) - 87:=acX;simp only[go_sem,d2,d3,w1,w2,w3];exact .same (.refl _) ⟨by grind [jG,ax],rfl⟩
 all_goals
  simp only[go_sem,d2,d3];simp only[decide_eq_true_eq,decide_eq_false_iff_not]at d2 d3;refine .same (.refl _) ⟨?_,rfl⟩
  grind [Int,jG,ax]
theorem GI(c): -1≤jG c∧jG c≤15:=by grind [jG,dgt]
theorem MA(n:Nat)(h:n<256):((UInt8.ofNat n).toNat:Int)=n:=by simp;omega
theorem Rq(s)(h):ai prog 189 [.s s] h fun r h' =>(∃x:Int,r= .tup [.v (.int .u8 x),.v (.bool (tF s).isSome)]∧∀c,tF s=some c→x=c.toNat)∧h' =h:=by
 refine acJ func189 38 [.tmp 2,.tmp 3] fun hwf=>?_
 have hlen:=hwf (.s s) acS;simp only[wfA,wf1,lim]at hlen;cases d0:decide ((s.length:Int)<3)
 case true=>
  have e0:s.length<3:=acL;have:tF s=none:=by
   match s,e0 with
   | [],_=>rfl
   | [_],_=>rfl
   | [_,_],_=>rfl
  simp only[go_sem,d0];exact .same (.refl _) ⟨⟨0,by rw[this];rfl,fun c hc=>acL⟩,rfl⟩
 have e0:3≤s.length:=acL;obtain⟨b,x,y,t,rfl⟩:∃b x y t,s=b::x::y::t:=by
  match s,e0 with
  |b::x::y::t,_=>exact⟨b,x,y,t,rfl⟩
 simp only[List.length_cons]at d0;have bad:tF (b::x::y::t)=none→∃z:Int,AV.tup [.v (.int .u8 0),.b false]= .tup [.v (.int .u8 z),.v (.bool (tF (b::x::y::t)).isSome)]∧∀c,tF (b::x::y::t)=some c→z=c.toNat:=
  fun e=>⟨0,acL,fun c hc=>acL⟩
 cases d1:((b.toNat:Int) !=92)
 case true=>
  have e1:b≠92:=by rintro rfl;grind
  simp only[go_sem,d0];refine .at 0 acS ?_;simp only[go_sem,aI,List.getElem_cons_zero,d1];exact aii
 have e1:b=92:=by have:(b.toNat:Int)=92:=acL;exact UInt8.toNat_inj.1 acL
 simp only[go_sem,d0];refine .at 0 acS ?_;simp only[go_sem,aI,List.getElem_cons_zero,d1];refine .at 1 acS ?_;simp only[go_sem,aI,List.getElem_cons_zero,List.getElem_cons_succ];refine(sU x _).pthen ?_;cases d2:decide (jG x<0)
 case true=>have e2:=acC d2;simp only[go_sem,d2];exact aii
 have e2:0≤jG x:=acL;simp only[go_sem,d2];refine .at 2 acS ?_;simp only[go_sem,aI,List.getElem_cons_zero,List.getElem_cons_succ];refine(sU y _).pthen ?_;cases d3:decide (jG y<0)
 case true=>have e3:=acC d3;simp only[go_sem,d3];exact aii
 have e3:0≤jG y:=acL;have hx:=GI x;have hy:=GI y;have w1:IntKind.i64.wrap (16*jG x)=16*jG x:=aY _ acK;have w2:IntKind.i64.wrap (16*jG x+jG y)=16*jG x+jG y:=aY _ acK;have w3:IntKind.u8.wrap (16*jG x+jG y)=((UInt8.ofNat (16*jG x+jG y).toNat).toNat:Int):=by grind [wr8,MA]
 simp only[go_sem,d3];refine .quiet acO ?_;simp only[go_sem];refine .at 1 acS ?_;simp only[go_sem,aI,List.getElem_cons_zero,List.getElem_cons_succ];refine⟨_,sU x _,?_⟩;simp only[go_sem];refine .at 2 acS ?_;simp only[go_sem,aI,List.getElem_cons_zero,List.getElem_cons_succ];refine⟨_,sU y _,?_⟩;simp only[go_sem,w1,w2,w3];refine(DN _ _).pthen ?_;simp only[go_sem];refine .same (.refl _) ⟨⟨((UInt8.ofNat (16*jG x+jG y).toNat).toNat:Int),?_,fun c hc=>?_⟩,rfl⟩
 ·grind [FH,UInt8.ofNat,jG,tF,ax]
 grind [tF]
end Go.Proofs.YteaaeelhjnhaaaaGreatDoor
