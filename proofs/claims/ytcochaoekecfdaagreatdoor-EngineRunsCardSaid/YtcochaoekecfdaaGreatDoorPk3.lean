/- The law EngineRuns: pack 3 of its texts. -/
import Derived.Below
import Derived.Lib.ItoaLen
import Derived.Lib.Join
import Derived.Lib.Small
import Derived.Laws.Externs
import Derived.Lib.Overlaps
import Derived.Test.YtcochaoekecfdaaGreatDoorProg
import Derived.KernelRfl
import Derived.Lib.AtoiAll
import Derived.Test.YtcochaoekecfdaaGreatDoorPk1
import Derived.Test.YtcochaoekecfdaaGreatDoorPk2
set_option linter.unusedSimpArgs false
set_option linter.unusedVariables false
set_option maxRecDepth 100000
namespace Go.Ab
open Go
section
variable {P : Program} {U : TypeId → TI} {n : Nat} {ρ : Env} {h : Heap}
variable {d : Option Tmp} {t : TypeId} {p : String} {a : Array Edge} {g : Option (Nat × Bool)} {Q : AV → Heap → Prop} {k : AV → Prop}
@[go_sem] theorem Tq(x y:TypeId)(k:TK→Prop):atK (.map x y) k=k (.map x y):=rfl
@[go_sem] theorem RN(i:Nat):AV.cells (.mp i)= [.mp i]:=rfl
@[go_sem] theorem UT(i m:Nat):fit (.mp i) m=(m=1):=rfl
@[go_sem] theorem T3(l:List UInt8):gb .str (.s l)=(l.length≤maxLen):=rfl
def mpL(b:Blk)(f:List (AV×AV)→Prop):Prop:=match b with
 |.mp m=>f m
 |_=>False
@[congr] theorem Q2{b b' :Blk}{f:List (AV×AV)→Prop}(e:b=b'):mpL b f=mpL b' f:=by rw[e]
@[go_sem↓] theorem U2(m:List (AV×AV))(f:List (AV×AV)→Prop):mpL (.mp m) f=f m:=rfl
def zl(tk:TK)(m:List (AV×AV)):Prop:=∀p∈m,gb tk p.1
def IU(ti:TI):Prop:=ti.sz≠0∨ti.k= .strct []
def Cz(U:TypeId→TI)(h:Heap)(u v:AV)(ok:Bool)(k:AV→Prop)(tk:TK):Prop:=match tk,u with
 |.map kt e,.mp id=>gb (U kt).k v∧IU (U e)∧aD (h id) fun b=>mpL b fun m=>zl (U kt).k m∧k (xE U e m v ok)
 |_,_=>False
@[congr] theorem NF{u u' v v' :AV}{ok:Bool}{k:AV→Prop}{tk:TK}(h1:u=u')(h2:v=v'):Cz U h u v ok k tk=Cz U h u' v' ok k tk:=by grind
@[go_sem↓] theorem Su(kt e:TypeId)(id:Nat)(v:AV)(ok:Bool):Cz U h (.mp id) v ok k (.map kt e)=(gb (U kt).k v∧IU (U e)∧aD (h id) fun b=>mpL b fun m=>zl (U kt).k m∧k (xE U e m v ok)):=rfl
@[go_sem↓] theorem SF(mt:TypeId)(x y:Operand)(ok:Bool):aX P U ρ h ⟨d,.lookup mt x y ok,t,p,a,g⟩ Q=aD (ev ρ x) fun u=>aD (ev ρ y) fun v=>atK (U mt).k (Cz U h u v ok (atH Q h)):=by
 simp only[aX,pv,bR,atK]
 congr 1
 funext u
 congr 1
 funext v
 cases (U mt).k with
 |map kt e=>
  cases u with
  |mp id=>
   simp only[Cz]
   congr 2
   exact aeI
  |_=>rfl
 |_=>rfl
def Ks(U:TypeId→TI)(h:Heap)(u v w:AV)(Q:AV→Heap→Prop)(tk:TK):Prop:=match tk,u with
 |.map kt e,.mp id=>gb (U kt).k v∧aD (h id) fun b=>mpL b fun m=>zl (U kt).k m∧Q (.v undef) (upd h id (some (.mp (yZ m v w))))
 |_,_=>False
@[congr] theorem Py{u u' v v' w w' :AV}{tk:TK}(h1:u=u')(h2:v=v')(h3:w=w'):Ks U h u v w Q tk=Ks U h u' v' w' Q tk:=by grind
@[go_sem↓] theorem Uh(kt e:TypeId)(id:Nat)(v w:AV):Ks U h (.mp id) v w Q (.map kt e)=(gb (U kt).k v∧aD (h id) fun b=>mpL b fun m=>zl (U kt).k m∧Q (.v undef) (upd h id (some (.mp (yZ m v w))))):=rfl
@[go_sem↓] theorem NL(mt:TypeId)(x y z:Operand):aX P U ρ h ⟨d,.mapUpdate mt x y z,t,p,a,g⟩ Q=aD (ev ρ x) fun u=>aD (ev ρ y) fun v=>aD (ev ρ z) fun w=>atK (U mt).k (Ks U h u v w Q):=by
 simp only[aX,bR,atK]
 congr 1
 funext u
 congr 1
 funext v
 congr 1
 funext w
 cases (U mt).k with
 |map kt e=>
  cases u with
  |mp id=>
   simp only[Ks]
   congr 1
   exact aeI
  |_=>rfl
 |_=>rfl
def Ru(h:Heap)(Q:AV→Heap→Prop):Prop:=∀id,h id=none→Q (.mp id) (upd h id (some (.mp [])))
@[go_sem↓] theorem Re(mt:TypeId):aX P U ρ h ⟨d,.makeMap mt none,t,p,a,g⟩ Q=Ru h Q:=by
 simp only[aX,F9,true_and];rfl
end
def yY(ls:List (List UInt8)):List (AV×AV):=ls.map fun l=>(.s l,.agg [])
theorem Cb(ls:List (List UInt8))(l:List UInt8):getM (yY ls) (.s l)=if l∈ls then some (.agg [])else none:=by
 induction ls with
 |nil=>rfl
 |cons x ls ih=>
  simp only[getM,yY,List.map_cons,List.find?_cons,rA]at ih⊢
  grind
theorem KK{ls:List (List UInt8)}{l:List UInt8}(hn:l∉ls):yZ (yY ls) (.s l) (.agg [])=yY (ls++ [l]):=by
 unfold yZ;rw[Cb,if_neg hn];simp[yY]
theorem HJ(U:TypeId→TI)(e:TypeId)(he:(U e).sz=0)(ls:List (List UInt8))(l:List UInt8):xE U e (yY ls) (.s l) true= .tup [.agg [],.b (decide (l∈ls))]:=by
 simp only[xE,Cb,jh,he,if_true]
 grind
theorem HH{ls:List (List UInt8)}(h:∀l∈ls,l.length≤maxLen):zl .str (yY ls):=fun p hp=>by
 obtain⟨l,hl,rfl⟩:=List.mem_map.1 hp;exact h l hl
section
variable {P : Program} {f : FuncId} {args : List AV} {h h' : Heap} {Q : AV → Heap → Prop}
theorem Ext.below{c:Cx}{w' :World}(hb:Go.RowKit.Below c.w.heap.size c.w w'):Ext c {c with w:=w'} where
 os:=hb.os
 tape:=hb.tape
 output:=hb.output
 size:=hb.size
 block:=fun b h _=>hb.block b h
 cell:=fun b o h _=>by
  simp only[World.cell?,hb.block b h]
 shape:=fun b cs t fr h=>⟨cs,fr,(hb.block b (cO h)).trans h,rfl⟩
 steal:=fun _ _ _ h=>h
 obj:=fun _ cs _ h=>⟨rfl,cs,h,rfl⟩
 spare:=fun _ n _ h=>⟨n,h,.inl ⟨rfl,rfl⟩⟩
 mp:=fun _ m h=>⟨rfl,m,h⟩
 ro:=fun _ _ _ h=>⟨rfl,h⟩
theorem Good.below{c:Cx}(g:Good c){w' :World}(hb:Go.RowKit.Below c.w.heap.size c.w w'):Good {c with w:=w'} where
 fin:=g.fin
 inj:=g.inj
 obj:=fun id cs t h=>by
  obtain⟨vs,a1,a2,a3⟩:=g.obj id cs t h;exact⟨vs,(hb.block _ (cO a1)).trans a1,a2,fun j hj=>⟨(a3 j hj).1.mono (.below hb),(a3 j hj).2⟩⟩
 spare:=fun id n sz h=>by
  obtain⟨a0,vs,t,fr,a1,a2⟩:=g.spare id n sz h;exact⟨a0,vs,t,fr,(hb.block _ (cO a1)).trans a1,a2⟩
 mp:=fun id m h=>by
  obtain⟨es,cl,a1,a2,a3⟩:=g.mp id m h;exact⟨es,cl,(hb.block _ (cO a1)).trans a1,a2,fun i hi hi' =>⟨(a3 i hi hi').1,(a3 i hi hi').2.mono (.below hb)⟩⟩
 keys:=g.keys
 ro:=fun id b vs h=>g.mF (.below hb) h
theorem ai.lib{X:AV}(hc:callable P f)(hf:∀c (vs:Array Value),Sub h c.h→Good c→vs.size=args.length→(∀i (hi:i<args.length),Rep c args[i] (vs.getD i undef))→
  Calls P f vs c.w fun e w' =>(∃u,e= .returned u∧∀c',Ext c c'→Rep c' X u)∧Go.RowKit.Below c.w.heap.size c.w w'):ai P f args h fun r h' =>r=X∧h' =h:=by
 refine fun c vs hs g h1 h2=> .inl ⟨hc,(hf c vs hs g h1 h2).mono ?_⟩
 rintro e w' ⟨⟨u,rfl,hu⟩,hb⟩
 exact⟨u,rfl,{c with w:=w'},X,h,rfl,g.below hb,.below hb,hu _ (.below hb),hs,rfl,rfl⟩
def Tab(h:Heap)(b:Nat)(vs:List Value):Prop:=∃id,h id=some (.ro b vs)
theorem Tab.sub{b:Nat}{vs:List Value}(ht:Tab h b vs)(hs:Sub h h'):Tab h' b vs:=let ⟨id,hi⟩:=ht;⟨id,hs _ _ hi⟩
end
def vM(ts:List (Nat×List Value)):Heap:=fun i=>(ts[i]?).map fun p=> .ro p.1 p.2
def cxT(w:World)(ts:List (Nat×List Value)):Cx:=⟨w,fun i=>⟨((ts[i]?).map (·.1)).getD 0,0,none⟩,vM ts⟩
theorem Kk(w:World)(ts:List (Nat×List Value))(b o:Nat):¬owned (cxT w ts) b o:=by
 rintro⟨id,k,h,_,h3⟩
 simp only[cxT,vM,Option.map_eq_some_iff]at h;obtain⟨p,_,rfl⟩:=h;exact h3
theorem Si(w:World)(ts:List (Nat×List Value))(hd:ts.Pairwise fun p q=>p.1≠q.1)(ht:∀p∈ts,∃(t:TypeId) (fr:Nat×Nat),w.heap[p.1]? =some (.cells p.2.toArray t fr)):Good (cxT w ts) where
 fin:=⟨ts.length,fun id h=>by simp[cxT,vM,List.getElem?_eq_none h]⟩
 inj:=fun i j k l h1 h2 hne=>by
  simp only[cxT,vM,Option.map_eq_some_iff]at h1 h2;obtain⟨p,hp,rfl⟩:=h1;obtain⟨q,hq,rfl⟩:=h2;simp only[cxT,hp,hq,Option.map_some,Option.getD_some];obtain⟨hi,rfl⟩:=List.getElem?_eq_some_iff.1 hp
  grind [List.pairwise_iff_getElem,Nat.lt_or_gt_of_ne]
 obj:=fun id cs t h=>by
  simp_all [cxT,vM,Option.map_eq_some_iff]
 spare:=fun id n sz h=>by
  simp_all [cxT,vM,Option.map_eq_some_iff]
 mp:=fun id m h=>by
  simp_all [cxT,vM,Option.map_eq_some_iff]
 keys:=fun id m h=>by
  simp_all [cxT,vM,Option.map_eq_some_iff]
 ro:=fun id b vs h=>by
  simp only[cxT,vM,Option.map_eq_some_iff]at h;obtain⟨p,hp,h⟩:=h;cases h;refine⟨by grind [cxT],ht p aas⟩
theorem ai.OA{P:Program}{f:FuncId}{args:List AV}{b:Value}{vs:Array Value}{w:World}{ts:List (Nat×List Value)}(hc:callable P f)(hf:ai P f args (vM ts) fun r _=>r= .v b)(hd:ts.Pairwise fun p q=>p.1≠q.1)
  (ht:∀p∈ts,∃(t:TypeId) (fr:Nat×Nat),w.heap[p.1]? =some (.cells p.2.toArray t fr)) (hv:vs.size=args.length) (hr:∀i (hi:i<args.length),Rep (cx0 w) args[i] (vs.getD i undef)):
  Calls P f vs w fun e w' =>e= .returned b∧Go.RowKit.Below w.heap.size w w' :=by
 have hE:Ext (cx0 w) (cxT w ts):=⟨rfl,rfl,rfl,Nat.le_refl _,fun _ _ _=>rfl,fun _ _ _ _=>rfl,fun _ cs _ fr h=>⟨cs,fr,h,rfl⟩,fun b o _ h=>(Kk w ts b o h).elim,
  fun _ _ _ h=>abt,fun _ _ _ h=>abt,fun _ _ h=>abt,fun _ _ _ h=>abt⟩
 refine((hf (cxT w ts) vs (fun _ _ h=>h) (Si w ts hd ht) hv fun i hi=>(hr i hi).mono hE).calls hc).mono ?_
 rintro e w' ⟨u,rfl,c',x,h',rfl,g',hE,hx,hs,rfl⟩
 rw[hx.bQ];exact⟨rfl,hE.os,hE.tape,hE.output,hE.size,fun k hk=>hE.block k hk fun o=>Kk w ts k o⟩
mutual
def strip:AV→AV
 |.sl xs _=> .sl (fG xs) .no
 |.agg xs=> .agg (fG xs)
 |.tup xs=> .tup (fG xs)
 |.v x=> .v x
 |.s l=> .s l
 |.pe x o=> .pe x o
 |.ptr i o=> .ptr i o
 |.oa i o l=> .oa i o l
 |.ifc t x=> .ifc t x
 |.fn f c=> .fn f c
 |.mp i=> .mp i
 |.ob i o l c s=> .ob i o l c s
def fG:List AV→List AV
 | []=>[]
 |x::r=>strip x::fG r
end
theorem eP:∀xs:List AV,(fG xs).length=xs.length
 | []=>rfl
 |x::r=>by simp[fG,eP r]
theorem fZ:∀(xs:List AV) (i:Nat) (h1:i<xs.length) (h2:i<(fG xs).length),(fG xs)[i]=strip xs[i]
 |x::r,0,h1,h2=>aaG
 |x::r,i+1,h1,h2=>by simpa[fG]using fZ r i aas (by grind [fG])
theorem vq(x:AV):(strip x).cells=match x with|.agg xs=>fG xs|_=>[strip x]:=by
 cases x<;>simp[strip,AV.cells]
mutual
theorem eY:∀x:AV,Weak x (strip x)
 |.sl xs p=> .deep _ _ p (eP xs).symm (fun i h1 h2=>by
    rw[fZ xs i h1 h2,vq];have:=mJ xs i h1;cases hx:xs[i]<;>simp[AV.cells,eP])
   (fun i h1 h2 j h3 h4=>by
    have hw:=mJ xs i h1;have e:=fZ xs i h1 h2;exact hw (fG xs)[i] e j h3 h4)
 |.agg xs=> .agg _ _ (eP xs).symm fun i h1 h2=>acU
 |.tup xs=> .tup _ _ (eP xs).symm fun i h1 h2=>acU
 |.v x=> .refl _
 |.s l=> .refl _
 |.pe x o=> .refl _
 |.ptr i o=> .refl _
 |.oa i o l=> .refl _
 |.ifc t x=> .refl _
 |.fn f c=> .refl _
 |.mp i=> .refl _
 |.ob i o l c s=> .refl _
theorem kN:∀(xs:List AV) (i:Nat) (h:i<xs.length),Weak xs[i] (strip xs[i])
 |x::r,0,h=>eY x
 |x::r,i+1,h=>kN r i (by simpa using h)
theorem mJ:∀(xs:List AV) (i:Nat) (h:i<xs.length) (y:AV),y=strip xs[i]→∀(j:Nat) (h3:j<xs[i].cells.length) (h4:j<y.cells.length),Weak xs[i].cells[j] y.cells[j]
 |x::r,0,h,y,e,j,h3,h4=>E6 x y e j h3 h4
 |x::r,i+1,h,y,e,j,h3,h4=>mJ r i (by simpa using h) y e j h3 h4
theorem E6:∀(x y:AV),y=strip x→∀(j:Nat) (h3:j<x.cells.length) (h4:j<y.cells.length),Weak x.cells[j] y.cells[j]
 |.agg xs,y,e,j,h3,h4=>by
  subst e;simp only[strip,AV.cells]at h4⊢;rw[fZ xs j h3 h4];exact kN xs j h3
 |.sl xs p,y,e,j,h3,h4=>by
  subst e;simp only[strip,AV.cells,List.length_singleton]at h3 h4⊢;obtain rfl:j=0:=aar;exact .deep _ _ p (eP xs).symm (fun i h1 h2=>by
    rw[fZ xs i h1 h2,vq];cases hx:xs[i]<;>simp[AV.cells,eP])
   (fun i h1 h2 j h3 h4=>mJ xs i h1 _ (fZ xs i h1 h2) j h3 h4)
 |.tup xs,y,e,j,h3,h4=>by
  subst e;simp only[strip,AV.cells,List.length_singleton]at h3 h4⊢;obtain rfl:j=0:=aar;exact .tup _ _ (eP xs).symm fun i h1 h2=>acU
 |.v x,y,e,j,h3,h4=>abx
 |.s l,y,e,j,h3,h4=>abx
 |.pe x o,y,e,j,h3,h4=>abx
 |.ptr i o,y,e,j,h3,h4=>abx
 |.oa i o l,y,e,j,h3,h4=>abx
 |.ifc t x,y,e,j,h3,h4=>abx
 |.fn f c,y,e,j,h3,h4=>abx
 |.mp i,y,e,j,h3,h4=>abx
 |.ob i o l c s,y,e,j,h3,h4=>abx
end
section
variable {P : Program} {U : TypeId → TI} {n : Nat} {ρ : Env} {h0 h h' : Heap} {tb : TypeId} {y v : AV} {xs zs : List AV} {Q : AV → Heap → Prop} {f : FuncId} {args : List AV}
def One(xs:List AV):Prop:=∀x∈xs,bu x=false
theorem mZ{x:AV}(h:bu x=false):x.cells= [x]:=by cases x<;>first|rfl|(cases h)
theorem One.sized(h:One xs):Sized 1 xs:=fun z hz=>by rw[mZ (h z hz)];rfl
theorem One.map{α:Type}{g:α→AV}(hg:∀a,bu (g a)=false)(l:List α):One (l.map g):=fun x hx=>by
 grind
def DA(tb:TypeId)(h:Heap)(y:AV)(xs:List AV):Prop:=
 (∃q,y= .sl xs q)∨∃id off cs,y= .oa id off xs.length∧h id=some (.obj cs tb)∧off+xs.length≤cs.length∧(cs.drop off).take xs.length=xs
theorem DA.sl(xs:List AV)(q:Perm):DA tb h (.sl xs q) xs:=.inl ⟨q,rfl⟩
theorem DA.len(hb:DA tb h y xs)(e:TypeId)(k:AV→Prop):vG y k (.slice e)=k (.i xs.length):=by
 exact afl
def AtP(U:TypeId→TI)(tb:TypeId)(h:Heap)(p x:AV):Prop:=∀k:AV→Prop,mA U h tb p k=k x
theorem DA.idx(hb:DA tb h y xs)(ho:One xs){m:Int}{x:IntKind}{K:AV→Prop}(j:Nat)(hm:m=j)(hj:j<xs.length)(hz:(U tb).sz=1)(ha:(U tb).k.agg=false)
  (hk:∀p,AtP U tb h p xs[j]→K p):nQ U y (.v (.int x m)) K (.slice tb):=by
 subst hm;have h1:=ho xs[j] aaz;rcases hb with⟨q,rfl⟩|⟨id,off,cs,rfl,g1,g2,g3⟩
 ·refine(tM ..).mpr ⟨aar, ?_⟩
  refine fz.at j hj (by grind [mZ]) ?_
  refine hk _ fun k=> ?_
  simp_all [mA,I2,mZ,List.length_cons,List.length_nil,Nat.zero_add,and_self,if_true]
 ·refine(zI ..).mpr ⟨aar,aar,aar, ?_⟩
  refine hk _ fun k=> ?_
  have e1:cs[off+j]? =some xs[j]:=by
   grind
  simp only[mA,g1,cW,Bb,hz,Nat.mul_one,Int.toNat_natCast,CQ,ha,Br,e1];simp
def WrA(tb:TypeId)(h0 h:Heap)(y:AV)(xs:List AV):Prop:=
 Sub h0 h∧((xs= []∧y= .sl [] .full)∨∃id cs,h0 id=none∧y= .oa id 0 xs.length∧h id=some (.obj cs tb)∧xs.length≤cs.length∧cs.take xs.length=xs)
theorem WrA.nil(hs:Sub h0 h):WrA tb h0 h (.sl [] .full) []:=⟨hs,.inl ⟨rfl,rfl⟩⟩
theorem WrA.seq(hw:WrA tb h0 h y xs):DA tb h y xs:=by
 obtain⟨_,⟨rfl,rfl⟩|⟨id,cs,_,rfl,h1,h2,h3⟩⟩:=hw
 ·exact ac3
 ·exact .inr ⟨id,0,cs,rfl,h1,aar,aas⟩
theorem WrA.sub(hw:WrA tb h0 h y xs)(hs:Sub h h'):WrA tb h0 h' y xs:=by
 obtain⟨h1,hw|⟨id,cs,a,e,b,c,d⟩⟩:=hw
 ·exact⟨h1.trans hs,.inl hw⟩
 ·exact⟨h1.trans hs,.inr ⟨id,cs,a,e,hs _ _ b,c,d⟩⟩
theorem WrA.base(hw:WrA tb h0 h y xs){id:Nat}(hid:h id=none)(b:Option Blk):WrA tb (upd h0 id b) (upd h id b) y xs:=by
 obtain⟨h1,hw⟩:=hw;have h2:Sub (upd h0 id b) (upd h id b):=fun j k hj=>by
  by_cases e:j=id
  ·grind [ah]
  ·rw[ag _ _ e]at hj⊢;exact h1 _ _ hj
 rcases hw with hw|⟨i,cs,a,e,c,d⟩
 ·exact⟨h2,.inl hw⟩
 ·have hne:i≠id:=fun hh=>by subst hh;rw[hid]at c;cases c
  exact⟨h2,.inr ⟨i,cs,aaZ,e,aaZ,d⟩⟩
theorem WrA.less(hw:WrA tb h' h y xs)(hs:Sub h0 h'):WrA tb h0 h y xs:=by
 obtain⟨h1,hw|⟨i,cs,a,e,c,d⟩⟩:=hw
 ·exact⟨hs.trans h1,.inl hw⟩
 ·exact⟨hs.trans h1,.inr ⟨i,cs,hs.none a,e,c,d⟩⟩
theorem WrA.len(hw:WrA tb h0 h y xs)(e:TypeId)(k:AV→Prop):vG y k (.slice e)=k (.i xs.length):=hw.seq.len e k
theorem WrA.idx(hb:WrA tb h0 h y xs)(ho:One xs){m:Int}{x:IntKind}{K:AV→Prop}(j:Nat)(hm:m=j)(hj:j<xs.length)(hz:(U tb).sz=1)(ha:(U tb).k.agg=false)
  (hk:∀p,AtP U tb h p xs[j]→K p):nQ U y (.v (.int x m)) K (.slice tb):=hb.seq.idx ho j hm hj hz ha hk
theorem WrA.cut(hw:WrA tb h0 h y xs){hi:Operand}{m:Int}{x:IntKind}{K:AV→Prop}(j:Nat)(hm:ev ρ hi=some (.v (.int x m)))(hj:m=j)(hl:j≤xs.length)(hz:(U tb).sz=1)
  (hk:∀z,WrA tb h0 h z (xs.take j)→K z):gx U ρ y none (some hi) none K (.slice tb):=by
 subst hj;have hs:=hw.1;obtain⟨_,⟨rfl,rfl⟩|⟨id,cs,h1,rfl,h2,h3,h4⟩⟩:=hw
 ·rw[qi,fu,hm]
  refine⟨aar, ?_⟩;have:j=0:=aas;subst this;refine⟨aar,aaz, ?_⟩;exact hk _ (.nil hs)
 ·rw[qH]
  refine⟨aar,fun _=>hz, ?_⟩
  simp only[lG,fu,hm,cW,mw];refine⟨aar,aar,aar, ?_⟩;have e:(xs.take j).length=j:=aas;have:=hk (.oa id 0 (xs.take j).length) ⟨hs,.inr ⟨id,cs,h1,rfl,h2,aar,aas⟩⟩;rw[e]at this;simpa using this
theorem WrA.app(hw:WrA tb h0 h y xs)(ho:One xs)(hoz:One zs)(hz:(U tb).sz=1)(hb:(U tb).bytes≠0)(hf:fit (U tb).zero 1)(hn:bu (U tb).zero=false)(hsrc:∀k:List AV→Prop,k zs→gU U tb h v k)
  (hlen:(xs.length+zs.length)*(U tb).bytes≤140737488355328) (hk:∀y' h',WrA tb h0 h' y' (xs++zs)→Q y' h'):apK U h y v Q (.slice tb):=by
 have hs:=hw.1;have one:Sized (U tb).sz zs:=by rw[hz];exact hoz.sized
 obtain⟨_,⟨rfl,rfl⟩|⟨id,cs,h1,rfl,h2,h3,h4⟩⟩:=hw
 ·refine(oX ..).mpr ⟨aar,hb,hsrc _ ⟨by simp[Sized],one,aar,fun hn' => ?_,fun hn' => ?_⟩⟩
  ·subst hn'
   exact hk _ _ (.nil hs)
  ·refine .oa hz hf hn hoz fun id k hid=> ?_
   refine hk _ _ ⟨hs.new hid _,.inr ⟨id,_,hs.none hid, ?_,ah .., ?_, ?_⟩⟩
   ·simp
   ·simp
   ·simp
 ·refine⟨aar,hb,hz,hsrc _ ⟨aas,hoz,aar, ?_⟩⟩
  rw[h2];refine⟨aar, ?_,hf,hn,fun hle=> ?_,fun id' k hid=> ?_⟩
  ·rw[List.drop_zero,h4];exact ho
  ·have hsub:Sub h0 (upd h id (some (.obj (over cs (0+xs.length) zs) tb))):=fun j b hj=>by
    by_cases e:j=id
    ·grind
    ·rw[ag _ _ e];exact hs _ _ hj
   have ho' :(over cs (0+xs.length) zs).length=cs.length:=gR aar;refine hk _ _ ⟨hsub,.inr ⟨id,_,h1,aaz,ah ..,aas, ?_⟩⟩;rw[over,Nat.zero_add,h4,aal,List.take_append_of_le_length aaz]
   grind
  ·refine hk _ _ ⟨hs.new hid _,.inr ⟨id',_,hs.none hid,aaz,ah .., ?_, ?_⟩⟩
   ·grind
   grind
end
end Go.Ab
namespace Go.Bf
open Go Go.Ab
abbrev Txt:=List UInt8
structure oT where
 cat:Int
 name:Txt
 must:Bool
structure bw where
 kind:Int
 n:Int
 s:Txt
structure bM where
 attr:oT
 op:Int
 val:bw
structure aM where
 op:Int
 val:bw
 attr:oT
structure cA where
 on:Int
 kind:Int
 arg:Txt
abbrev fQ:=List (List (List bM))
structure cK where
 id:Txt
 deny:Bool
 tgt:fQ
 cond:List aM
 obls:List cA
inductive bG where
 |mk (id:Txt) (set:Bool) (alg:Int) (tgt:fQ) (rules:List cK) (kids:List bG) (obls:List cA)
def BI(a:oT):AV:=.agg [.i a.cat,.s a.name,.b a.must]
def aQ(v:bw):AV:=.agg [.i v.kind,.i v.n,.s v.s]
def dz(m:bM):AV:=.agg [.i m.attr.cat,.s m.attr.name,.b m.attr.must,.i m.op,.i m.val.kind,.i m.val.n,.s m.val.s]
def dj(m:aM):AV:=.agg [.i m.op,.i m.val.kind,.i m.val.n,.s m.val.s,.i m.attr.cat,.s m.attr.name,.b m.attr.must]
def jn(b:Bool):AV:=.b b
def bl(o:cA):AV:=.agg [.i o.on,.i o.kind,.s o.arg]
def iA(l:List bM):AV:=.sl (l.map dz) .no
def cM(l:List (List bM)):AV:=.sl (l.map iA) .no
def aT(t:fQ):AV:=.sl (t.map cM) .no
def eU(l:List aM):AV:=.sl (l.map dj) .no
def az(l:List cA):AV:=.sl (l.map bl) .no
def aA(r:cK):AV:=.agg [.s r.id,.b r.deny,aT r.tgt,eU r.cond,az r.obls]
mutual
def aK:bG→AV
 |.mk id set alg tgt rules kids obls=> .agg [.s id,.b set,.i alg,aT tgt,.sl (rules.map aA) .no,.sl (fj kids) .no,az obls]
def fj:List bG→List AV
 | []=>[]
 |k::r=>aK k::fj r
end
theorem aV:∀l:List bG,fj l=l.map aK
 | []=>rfl
 |k::r=>by simp[fj,aV r]
def ltr(c:UInt8):Bool:=decide (97≤(c.toNat:Int)) && decide ((c.toNat:Int)≤122)
def dgt(c:UInt8):Bool:=decide (48≤(c.toNat:Int)) && decide ((c.toNat:Int)≤57)
def rT(c:UInt8)(i:Nat):Bool:=ltr c||(decide (i≠0) && (dgt c||(c.toNat:Int)==95))
def uL(l:Txt):Bool:=l.zipIdx.all fun p=>rT p.1 p.2
def bk(l:Txt):Bool:=uL l && decide (1≤l.length) && decide (l.length≤16)
def oZ(a:oT):Bool:=decide (1≤a.cat) && decide (a.cat≤4) && bk a.name
def bF(v:bw):Bool:=
 if v.kind=1 then(v.n==0||v.n==1) && v.s== []
 else if v.kind=2 then v.s== []
 else if v.kind=3 then v.n==0 && decide (v.s.length≤64)
 else if v.kind=4 then decide (0≤v.n) && decide (v.n≤1099511627776) && v.s== []
 else if v.kind=5 then v.n==0 && bk v.s
 else false
def jX(m:bM):Bool:=oZ m.attr && decide (1≤m.op) && decide (m.op≤3) && bF m.val
def jG(n:Nat):Int:=if n=0 then 1 else if n>8 then 6 else 0
def gM{α:Type}(f:α→Int):List α→Int
 | []=>0
 |x::r=>if f x=0 then gM f r else f x
def vC(l:List bM):Int:=if jG l.length=0 then(if l.all jX then 0 else 1)else jG l.length
def vD(l:List (List bM)):Int:=if jG l.length=0 then gM vC l else jG l.length
def kJ(t:fQ):Int:=if t.length>8 then 6 else gM vD t
def gW(op:Int):Option (List Bool):=
 if op=1∨op=2 then some []
 else if op=3∨op=4 then some [true]
 else if op=5 then some [true,false]
 else if op=11 then some [false]
 else if 6≤op∧op≤13 then some [false,false]
 else none
def zeroV(v:bw):Bool:=v.kind==0 && (v.n==0 && v.s== [])
def zeroAt(a:oT):Bool:=a.cat==0 && (a.name== [] && a.must==false)
def jo(n:aM):Bool:=
 if n.op=1 then bF n.val && zeroAt n.attr
 else if n.op=2 then oZ n.attr && zeroV n.val
 else zeroV n.val && zeroAt n.attr
def gV(st:List Bool)(n:aM):Option (List Bool):=match gW n.op with
 |none=>none
 |some w=>if jo n=true∧w.length≤st.length∧st.drop (st.length - w.length)=w then some (st.take (st.length - w.length)++ [n.op==2])else none
def fF(st:List Bool):List aM→Option (List Bool)
 | []=>some st
 |n::r=>match gV st n with
  |none=>none
  |some st' =>fF st' r
def jF(l:List aM):Int:=if l.length>32 then 6 else match fF [] l with
 |none=>1
 |some st=>if l= []∨st= [false]then 0 else 1
def pW(o:cA):Bool:=decide (1≤o.on) && decide (o.on≤2) && decide (1≤o.kind) && decide (o.kind≤4) && bk o.arg
def gO(l:List cA):Int:=if l.length>8 then 6 else if l.all pW then 0 else 1
structure dN where
 met:List Txt
 rules:Nat
inductive Went where
 |bad (e:Int)
 |ok (m:dN)
def iL(m:dN)(s:Txt):Option dN:=if s∉m.met∧bk s=true then some ⟨m.met++ [s],m.rules⟩else none
def Went.err:Went→Int
 |.bad e=>e
 |.ok _=>0
def need(e:Int)(w:Went):Went:=if e=0 then w else .bad e
def fS(m:dN)(r:cK):Went:=match iL m r.id with
 |none=> .bad 1
 |some m=>if m.rules+1>64 then .bad 6 else need (kJ r.tgt) (need (jF r.cond) (need (gO r.obls) (.ok ⟨m.met,m.rules+1⟩)))
def eW(m:dN):List cK→Went
 | []=> .ok m
 |r::l=>match fS m r with
  |.bad e=> .bad e
  |.ok m=>eW m l
def eO(m:dN)(id:Txt)(set:Bool)(alg:Int)(tgt:fQ)(nr nk:Nat)(obls:List cA):Went:=match iL m id with
 |none=> .bad 1
 |some m=>if alg<1∨alg>6 then .bad 1
  else if set=true∧nr>0∨set=false∧(nk>0∨alg=4)then .bad 1
  else need (kJ tgt) (need (gO obls) (if nr>16∨nk>16 then .bad 6 else .ok m))
mutual
def jQ(m:dN)(d:Nat):bG→Went
 |.mk id set alg tgt rules kids obls=>
  if d>4 then .bad 6 else match eO m id set alg tgt rules.length kids.length obls with
  |.bad e=> .bad e
  |.ok m=>match eW m rules with
   |.bad e=> .bad e
   |.ok m=>ij m (d+1) kids
def ij(m:dN)(d:Nat):List bG→Went
 | []=> .ok m
 |k::r=>match jQ m d k with
  |.bad e=> .bad e
  |.ok m=>ij m d r
end
def fY(p:bG):Int:=(jQ ⟨[],0⟩ 1 p).err
def Sj(n:Nat):UInt8:=if n<10 then UInt8.ofNat (48+n)else UInt8.ofNat (87+n)
def EC(c:UInt8):Bool:=decide ((c.toNat:Int)<32)||decide (126<(c.toNat:Int))||(c.toNat:Int)==34||(c.toNat:Int)==92
def Pz(c:UInt8):Txt:=if EC c then [92,Sj (c.toNat / 16),Sj (c.toNat % 16)]else [c]
def PA(l:Txt):Txt:=[34]++(l.map Pz).flatten++ [34]
def nv(v:bw):Txt:=
 if v.kind=1 then Lib.formatBool (v.n==1)else if v.kind=4 then [64]++Lib.itoa v.n else if v.kind=5 then [35]++v.s else if v.kind=3 then PA v.s else Lib.itoa v.n
theorem uC{α:Type}(l:List α)(i:Nat)(h:i<l.length):(l.take (i+1)).zipIdx=(l.take i).zipIdx++ [(l[i],i)]:=by
 grind [List.take_succ_eq_append_getElem,Nat.min_eq_left,Nat.le_of_lt]
theorem DI(l:Txt)(i:Nat)(h:i<l.length):uL (l.take (i+1))=(uL (l.take i) && rT l[i] i):=by
 grind [uL,uC]
theorem GD(l:Txt)(i:Nat)(h:i<l.length)(hb:rT l[i] i=false):uL l=false:=by
 rw[uL,List.all_eq_false];exact⟨(l[i],i),aas,aas⟩
theorem LO(c:UInt8):
  (decide (97≤(c.toNat:Int))=true∧decide ((c.toNat:Int)≤122)=true∧decide (48≤(c.toNat:Int))=true∧decide ((c.toNat:Int)≤57)=false∧((c.toNat:Int)==95)=false)∨
  (decide (97≤(c.toNat:Int))=false∧decide ((c.toNat:Int)≤122)=true∧decide (48≤(c.toNat:Int))=true∧decide ((c.toNat:Int)≤57)=true∧((c.toNat:Int)==95)=false)∨
  (decide (97≤(c.toNat:Int))=false∧decide ((c.toNat:Int)≤122)=true∧decide (48≤(c.toNat:Int))=true∧decide ((c.toNat:Int)≤57)=false∧((c.toNat:Int)==95)=true)∨
  (decide (97≤(c.toNat:Int))=false∧decide ((c.toNat:Int)≤122)=true∧decide (48≤(c.toNat:Int))=false∧decide ((c.toNat:Int)≤57)=true∧((c.toNat:Int)==95)=false)∨
  (decide (97≤(c.toNat:Int))=false∧decide ((c.toNat:Int)≤122)=true∧decide (48≤(c.toNat:Int))=true∧decide ((c.toNat:Int)≤57)=false∧((c.toNat:Int)==95)=false)∨
  (decide (97≤(c.toNat:Int))=true∧decide ((c.toNat:Int)≤122)=false∧decide (48≤(c.toNat:Int))=true∧decide ((c.toNat:Int)≤57)=false∧((c.toNat:Int)==95)=false):=by
 simp only[decide_eq_true_eq,decide_eq_false_iff_not,beq_iff_eq,beq_eq_false_iff_ne,ne_eq];omega
theorem uY{α:Type}{f:α→Int}{l:List α}{i:Nat}(h:i<l.length)(h0:gM f (l.take i)=0)(h1:f l[i]=0):gM f (l.take (i+1))=0:=by
 rw[List.take_succ_eq_append_getElem h];generalize l.take i=a at h0
 induction a with
 |nil=>grind [gM]
 |cons x r ih=>
  simp only[gM]at h0;split at h0
  ·simp_all [List.cons_append,gM,if_true]
  omega
theorem zF{α:Type}{f:α→Int}{l:List α}{i:Nat}(h:i<l.length)(h0:gM f (l.take i)=0)(h1:f l[i]≠0):gM f l=f l[i]:=by
 induction l generalizing i with
 |nil=>cases h
 |cons x r ih=>
  cases i with
  |zero=>grind [gM]
  |succ i=>
   simp only[List.take_succ_cons,gM]at h0;split at h0
   ·rename_i hx
    simp only[gM,hx,if_true,List.getElem_cons_succ]
    grind
   omega
theorem CE{e x:Int}{w:Went}(h:need e w= .bad x)(hw:w= .bad x→x≠0):x≠0:=by
 grind [need]
theorem Ag{m:dN}{r:cK}{e:Int}(h:fS m r= .bad e):e≠0:=by
 grind [fS,CE]
theorem zH{m:dN}{id:Txt}{set:Bool}{alg:Int}{tgt:fQ}{nr nk:Nat}{obls:List cA}{e:Int}(h:eO m id set alg tgt nr nk obls= .bad e):e≠0:=by
 grind [eO,CE]
theorem oo(m:dN):∀(l:List cK) (i:Nat),eW m l=(match eW m (l.take i)with
  |.bad e=> .bad e
  |.ok m1=>eW m1 (l.drop i))
 | [],i=>by simp[eW]
 |r::l,0=>aaG
 |r::l,i+1=>by
  simp only[List.take_succ_cons,List.drop_succ_cons,eW];cases fS m r with
  |bad e=>rfl
  |ok m1=>simp only;exact oo m1 l i
theorem vn{m m1:dN}{l:List cK}{i:Nat}(hi:i<l.length)(h:eW m (l.take i)= .ok m1):eW m (l.take (i+1))=fS m1 l[i]:=by
 rw[oo m _ i,List.take_take,Nat.min_eq_left aar,h,List.take_succ_eq_append_getElem hi,List.drop_append_of_le_length aas,List.drop_of_length_le aas]
 grind [eW,fS]
theorem Da{m m1:dN}{l:List cK}{i:Nat}{e:Int}(hi:i<l.length)(h:eW m (l.take i)= .ok m1)(hr:fS m1 l[i]= .bad e):eW m l= .bad e:=by
 rw[oo m l (i+1),vn hi h,hr]
theorem pR(m:dN)(d:Nat):∀(l:List bG) (i:Nat),ij m d l=(match ij m d (l.take i)with
  |.bad e=> .bad e
  |.ok m1=>ij m1 d (l.drop i))
 | [],i=>by simp[ij]
 |r::l,0=>aaG
 |r::l,i+1=>by
  simp only[List.take_succ_cons,List.drop_succ_cons,ij];cases jQ m d r with
  |bad e=>rfl
  |ok m1=>simp only;exact pR m1 d l i
theorem xu{m m1:dN}{d:Nat}{l:List bG}{i:Nat}(hi:i<l.length)(h:ij m d (l.take i)= .ok m1):ij m d (l.take (i+1))=jQ m1 d l[i]:=by
 rw[pR m d _ i,List.take_take,Nat.min_eq_left aar,h,List.take_succ_eq_append_getElem hi,List.drop_append_of_le_length aas,List.drop_of_length_le aas]
 grind [ij,jQ]
theorem Er{m m1:dN}{d:Nat}{l:List bG}{i:Nat}{e:Int}(hi:i<l.length)(h:ij m d (l.take i)= .ok m1)(hr:jQ m1 d l[i]= .bad e):ij m d l= .bad e:=by
 rw[pR m d l (i+1),xu hi h,hr]
theorem jP{l:List cA}(h:gO l=0):l.length≤8∧∀o∈l,pW o=true:=by
 grind [gO,List.all_eq_true]
theorem xF{n:Nat}(h:jG n=0):0<n∧n≤8:=by
 grind [jG]
theorem uZ{α:Type}{f:α→Int}{l:List α}(h:gM f l=0):∀x∈l,f x=0:=by
 induction l with
 |nil=>simp
 |cons y r ih=>
  simp only[gM]at h
  grind
theorem zn{l:List bM}(h:vC l=0):0<l.length∧l.length≤8∧∀m∈l,jX m=true:=by
 unfold vC at h;split at h
 ·simp_all [xF,List.all_eq_true]
 omega
theorem zo{l:List (List bM)}(h:vD l=0):0<l.length∧l.length≤8∧∀m∈l,vC m=0:=by
 unfold vD at h;split at h
 ·rename_i hm
  have:=xF hm;exact⟨this.1,this.2,uZ h⟩
 omega
theorem Am{l:fQ}(h:kJ l=0):l.length≤8∧∀m∈l,vD m=0:=by
 grind [kJ,uZ]
def inV(v:bw):Prop:= -9223372036854775808≤v.n∧v.n≤9223372036854775807
def inA(l:List bM):Prop:=∀m∈l,inV m.val
def inY(l:List (List bM)):Prop:=∀a∈l,inA a
def inT(t:fQ):Prop:=∀a∈t,inY a
def inL(l:List aM):Prop:=∀n∈l,inV n.val
def inR(r:cK):Prop:=inT r.tgt∧inL r.cond
mutual
def inP:bG→Prop
 |.mk id set alg tgt rules kids obls=>inT tgt∧(∀r∈rules,inR r)∧inK kids
def inK:List bG→Prop
 | []=>True
 |k::r=>inP k∧inK r
end
theorem O3:∀l:List bG,inK l↔∀k∈l,inP k
 | []=>by simp[inK]
 |k::r=>by simp[inK,O3 r]
theorem wV{l:List aM}(h:jF l=0)(hn:l≠ []):l.length≤32∧fF [] l=some [false]:=by
 grind [jF]
def C9(r:cK):Prop:=bk r.id=true∧kJ r.tgt=0∧jF r.cond=0∧gO r.obls=0
mutual
def lU(d:Nat):bG→Prop
 |.mk id set alg tgt rules kids obls=>d≤4∧bk id=true∧1≤alg∧alg≤6∧(set=true→rules= [])∧(set=false→kids= []∧alg≠4)∧kJ tgt=0∧gO obls=0∧rules.length≤16∧kids.length≤16∧(∀r∈rules,C9 r)∧vg (d+1) kids
def vg(d:Nat):List bG→Prop
 | []=>True
 |k::r=>lU d k∧vg d r
end
theorem pQ(d:Nat):∀l:List bG,vg d l↔∀k∈l,lU d k
 | []=>by simp[vg]
 |k::r=>by simp[vg,pQ d r]
theorem xH{m m' :dN}{s:Txt}(h:iL m s=some m'):bk s=true:=by
 grind [iL]
theorem pU{e:Int}{w:Went}{m:dN}(h:need e w= .ok m):e=0∧w= .ok m:=by
 grind [need]
theorem KA{m m' :dN}{r:cK}(h:fS m r= .ok m'):C9 r:=by
 unfold fS at h;split at h
 ·cases h
 ·rename_i m1 hm
  split at h
  ·cases h
  ·obtain⟨h1,h⟩:=pU h
   obtain⟨h2,h⟩:=pU h;obtain⟨h3,h⟩:=pU h;exact⟨xH hm,h1,h2,h3⟩
theorem Ai:∀(l:List cK) (m m' :dN),eW m l= .ok m'→∀r∈l,C9 r
 | [],_,_,_,r,hr=>aas
 |x::l,m,m',h,r,hr=>by
  simp only[eW]at h;cases hx:fS m x with
  |bad e=>grind
  |ok m1=>
   rw[hx]at h;rcases List.mem_cons.1 hr with rfl|hr
   ·exact KA hx
   ·exact Ai l m1 m' h r hr
theorem Hy{m m1:dN}{id:Txt}{set:Bool}{alg:Int}{tgt:fQ}{nr nk:Nat}{obls:List cA}(h:eO m id set alg tgt nr nk obls= .ok m1):
  iL m id=some m1∧1≤alg∧alg≤6∧(set=true→nr=0)∧(set=false→nk=0∧alg≠4)∧kJ tgt=0∧gO obls=0∧nr≤16∧nk≤16:=by
 unfold eO at h;split at h
 ·cases h
 split at h
 ·cases h
 split at h
 ·cases h
 obtain⟨h3,h⟩:=pU h;obtain⟨h4,h⟩:=pU h
 grind
mutual
theorem FZ:∀(p:bG) (d:Nat) (m m' :dN),jQ m d p= .ok m'→lU d p
 |.mk id set alg tgt rules kids obls,d,m,m',h=>by
  simp only[jQ]at h;split at h
  ·cases h
  rename_i hd
  split at h
  ·cases h
  rename_i m1 h1
  split at h
  ·cases h
  rename_i m2 h2
  obtain⟨g1,g2,g3,g4,g5,g6,g7,g8,g9⟩:=Hy h1;simp only[lU];exact⟨aar,xH g1,g2,g3,fun e=>List.length_eq_zero_iff.1 (g4 e),fun e=>⟨List.length_eq_zero_iff.1 (g5 e).1,(g5 e).2⟩,g6,g7,g8,g9,Ai _ _ _ h2,Cs kids (d+1) m2 m' h⟩
theorem Cs:∀(l:List bG) (d:Nat) (m m' :dN),ij m d l= .ok m'→vg d l
 | [],_,_,_,_=>by simp[vg]
 |k::r,d,m,m',h=>by
  simp only[ij]at h;split at h
  ·cases h
  rename_i m1 h1
  simp only[vg];exact⟨FZ k d m m1 h1,Cs r d m1 m' h⟩
end
end Go.Bf
namespace Go.Ab
open Go
def hm2(i:Nat)(a:Blk)(j:Nat)(b:Blk):Heap:=upd (hm1 i a) j (some b)
theorem Sub.hm2{h:Heap}{i j:Nat}{a b:Blk}(h1:h i=some a)(h2:h j=some b):Sub (hm2 i a j b) h:=fun k c hk=>by
 unfold Ab.hm2 at hk
 by_cases e:k=j
 ·grind [ah]
 ·rw[ag _ _ e]at hk;exact Sub.hm1 h1 k c hk
theorem qB(i:Nat)(a:Blk)(j:Nat)(b:Blk):hm2 i a j b j=some b:=ah ..
theorem qA{i:Nat}(a:Blk){j:Nat}(b:Blk)(h:i≠j):hm2 i a j b i=some a:=by
 simp_all [hm2,ag,fN]
theorem aF{h:Heap}{i j:Nat}{b:Blk}(e:upd h i (some b) j=none):j≠i:=fun hh=>by
 subst hh;rw[ah]at e;cases e
theorem Sub.put{h g:Heap}(hs:Sub h g){i:Nat}(hi:h i=Option.none)(x:Option Blk):Sub h (Ab.upd g i x):=fun k c hk=>by
 by_cases e:k=i
 ·grind
 ·rw[ag _ _ e];exact hs k c hk
theorem Sub.both{h g:Heap}(hs:Sub h g)(i:Nat)(x:Option Blk):Sub (Ab.upd h i x) (Ab.upd g i x):=fun k c hk=>by
 by_cases e:k=i
 ·grind [ah]
 ·rw[ag _ _ e]at hk⊢;exact hs k c hk
theorem Acc.put{U:TypeId→TI}{e:TypeId}{h h' :Heap}{y:AV}{xs:List AV}(ha:Acc U e h h' y xs){id:Nat}(hid:h id=Option.none){cs:List AV}{t:TypeId}(hob:h' id=some (.obj cs t))(x:Option Blk):Acc U e h (Ab.upd h' id x) y xs:=by
 obtain⟨h1,rfl|⟨k,i1,rfl,i2⟩⟩:=ha
 ·exact⟨h1.put hid x,.inl rfl⟩
 ·refine⟨h1.put hid x,.inr ⟨k,i1,rfl, ?_⟩⟩
  grind [ag]
theorem base_start(G:Heap)(id:Nat)(x:Option Blk):Sub (upd G id Option.none) (upd G id x):=fun k c hk=>by
 grind [ah,ag]
theorem eT{G H:Heap}{id:Nat}{b:Blk}(hs:Sub (upd G id Option.none) H)(hb:H id=some b):Sub (upd G id (some b)) H:=fun k c hk=>by
 by_cases e:k=id
 ·grind [ah]
 ·rw[ag _ _ e]at hk;exact hs k c aaZ
theorem Aw(xs:List AV)(q:Perm)(a b:AV):Weak (.tup [.sl xs q,a,b]) (.tup [.sl xs .no,a,b]):=.tup _ _ rfl fun i h1 h2=>by
 rcases i with _|_|_|i
 ·exact ac3
 ·exact abG
 ·exact abG
 grind
theorem WP.KJ{P:Program}{U:TypeId→TI}{n:Nat}(hU:∀t,aN P U t)(hm:P.follows .mixedOrders=true){c rest:Code}{ρ:Env}{h:Heap}{K:Exit→Env→Heap→Prop}(l:Nat)(J:Nat→Env→Heap→Prop)(hf:findLabel c l=some (.seq .skip rest))
  (pass:∀m ρ h,J m ρ h→WP P n rest ρ h (KJump l (fun ρ' h' =>∃m',m' <m∧J m' ρ' h') K))
  (first:(∀m ρ h,J m ρ h→WP P n rest ρ h (KJump l (fun ρ h=>∃m,J m ρ h) K))→WP P n c ρ h (KJump l (fun ρ h=>∃m,J m ρ h) K)):WP P n (.scope c) ρ h K:=
 WP.scope l J hf (first fun m ρ h hJ=>(pass m ρ h hJ).weaken fun e ρ h hk=>by
  cases e with
  |goto l' =>obtain⟨h1,m',_,h2⟩:=hk;exact⟨h1,m',h2⟩
  |_=>exact hk) fun m ρ h hJ=>WP.seq (dw hU hm .skip ρ h _ (pass m ρ h hJ))
end Go.Ab
namespace Go.Ab
attribute [go_sem] Int.natCast_zero Int.ofNat_zero Int.natCast_one Int.cast_ofNat_Int bne_self_eq_false beq_self_eq_true Bool.not_true Bool.not_false
attribute [go_sem] Nat.reduceLT Nat.reduceEqDiff Nat.reduceAdd Nat.reduceLeDiff Nat.reduceMul Nat.reduceSub Int.reduceBEq Int.reduceBNe
attribute [go_sem ↓] reduceIte
end Go.Ab
namespace Go.Ab
open Go
inductive Av (F:Nat→Prop):AV→Prop where
 |v (x:Value):Av F (.v x)
 |s (l:List UInt8):Av F (.s l)
 |agg (xs:List AV) (h:∀x∈xs,Av F x):Av F (.agg xs)
 |tup (xs:List AV) (h:∀x∈xs,Av F x):Av F (.tup xs)
 |sl (xs:List AV) (p:Perm) (h:∀x∈xs,Av F x) (hp:∀id,p= .own id→¬F id):Av F (.sl xs p)
 |pe (x:AV) (o:Nat) (h:Av F x):Av F (.pe x o)
 |ptr (id o:Nat) (h:¬F id):Av F (.ptr id o)
 |oa (id o l:Nat) (h:¬F id):Av F (.oa id o l)
 |ob (id o l c z:Nat) (h:¬F id):Av F (.ob id o l c z)
 |ifc (t:TypeId) (x:AV) (h:Av F x):Av F (.ifc t x)
 |fn (f:FuncId) (xs:List AV) (h:∀x∈xs,Av F x):Av F (.fn f xs)
 |mp (id:Nat) (h:¬F id):Av F (.mp id)
theorem Av.cells{F:Nat→Prop}{x:AV}(h:Av F x):∀y∈x.cells,Av F y:=by
 cases h with
 |agg xs hx=>exact hx
 |_=>intro y hy;rw[List.mem_singleton.1 hy];constructor<;>assumption
theorem Av.CJ{F:Nat→Prop}{x:AV}(h:∀y∈x.cells,Av F y):Av F x:=by
 cases x with
 |agg xs=>exact .agg xs h
 |_=>exact h _ (List.mem_singleton.2 rfl)
theorem Rep.av{c:Cx}{F:Nat→Prop}(hF:∀id,F id→c.h id=none){x:AV}{u:Value}(h:Rep c x u):Av F x:=by
 have nf:∀ {id:Nat} {k:Blk},c.h id=some k→¬F id:=fun hk hf=>aas
 induction h with
 |v x=>exact .v x
 |s l hl=>exact .s l
 |agg xs vs hn hr ho ih=>exact .agg xs fun x hx=>ab3
 |tup xs vs hn hr ih=>exact .tup xs fun x hx=>ab3
 |sl xs p a cap sz val hc hm h0 hs hz hf hr ho hp ih=>
  refine .sl xs p (fun x hx=> ?_) fun id e=> ?_
  ·obtain⟨i,hi,rfl⟩:=List.mem_iff_getElem.1 hx
   refine .CJ fun y hy=> ?_
   obtain⟨j,hj,rfl⟩:=List.mem_iff_getElem.1 hy
   grind
  ·subst e
   obtain⟨m,h1,_⟩:=hp
   grind
 |pe x off b o val hb hf hr ho ih=>
  refine .pe x off (.CJ fun y hy=> ?_)
  obtain⟨j,hj,rfl⟩:=List.mem_iff_getElem.1 hy
  grind
 |ptr id off cs t h=>exact .ptr _ _ (nf h)
 |oa id off len cap o cs t h hc hm ho=>exact .oa _ _ _ (nf h)
 |ob id off len cap sz o cs t h hc hm ho=>exact .ob _ _ _ _ _ (nf h)
 |ifc t x u h ih=>exact .ifc t x ih
 |fn f xs vs hn hr ih=>exact .fn f xs fun x hx=>ab3
 |mp id m h=>exact .mp _ (nf h)
noncomputable def Cx.back (c' :Cx) (g:Heap):Cx:={c' with h:=fun id=>if g id=none then none else c'.h id}
theorem tC{c' :Cx}{g:Heap}{id:Nat}{k:Blk}(h:(c'.back g).h id=some k):g id≠none∧c'.h id=some k:=by
 grind [Cx.back]
theorem jV{c' :Cx}{g:Heap}{id:Nat}(h:g id≠none):(c'.back g).h id=c'.h id:=by
 simp_all [Cx.back,if_false]
theorem wE{c' :Cx}{g:Heap}{b o:Nat}(h:owned (c'.back g) b o):owned c' b o:=by
 obtain⟨id,k,h1,h2,h3⟩:=h;exact⟨id,k,(tC h1).2,h2,h3⟩
theorem wD{c' :Cx}{g:Heap}{b o:Nat}{u:Value}(h:fix c' b o u):fix (c'.back g) b o u:=⟨h.1,fun ho=>h.2 (wE ho)⟩
theorem Rep.back{c' :Cx}{g:Heap}{x:AV}{u:Value}(h:Rep c' x u)(ha:Av (fun id=>g id=none) x):Rep (c'.back g) x u:=by
 induction h with
 |v x=>exact .v x
 |s l hl=>exact .s l hl
 |agg xs vs hn hr ho ih=>cases ha with|agg _ ha=>exact .agg xs vs hn aas ho
 |tup xs vs hn hr ih=>cases ha with|tup _ ha=>exact .tup xs vs hn aas
 |sl xs p a cap sz val hc hm h0 hs hz hf hr ho hp ih=>
  cases ha with
  |sl _ _ ha hq=>
   refine .sl xs p a cap sz val hc hm h0 hs hz (by grind [wD]) (fun i hi j hj=>ih i hi j hj ((ha _ (aam hi)).cells _ (aam hj))) ho ?_
   cases p with
   |no=>trivial
   |full=>exact hp
   |own id=>
    obtain⟨m,h1,h2,h3⟩:=hp;exact⟨m,by rw[jV (hq id rfl)];omega,h2,h3⟩
 |pe x off b o val hb hf hr ho ih=>
  cases ha with
  |pe _ _ ha=>exact .pe x off b o val hb (by grind [wD]) (fun j hj=>ih j hj (ha.cells _ (aam hj))) ho
 |ptr id off cs t h=>cases ha with|ptr _ _ ha=>exact .ptr id off cs t (by grind [jV])
 |oa id off len cap o cs t h hc hm ho=>cases ha with|oa _ _ _ ha=>exact .oa id off len cap o cs t (by grind [jV]) hc hm ho
 |ob id off len cap sz o cs t h hc hm ho=>cases ha with|ob _ _ _ _ _ ha=>exact .ob id off len cap sz o cs t (by grind [jV]) hc hm ho
 |ifc t x u h ih=>cases ha with|ifc _ _ ha=>exact .ifc t x u (ih ha)
 |fn f xs vs hn hr ih=>cases ha with|fn _ _ ha=>exact .fn f xs vs hn aas
 |mp id m h=>cases ha with|mp _ ha=>exact .mp id m (by grind [jV])
inductive Frz (g h:Heap):AV→AV→Prop where
 |keep (x:AV) (ha:Av (fun id=>g id=none) x):Frz g h x x
 |agg (xs ys:List AV) (hn:xs.length=ys.length) (hr:∀i (h1:i<xs.length) (h2:i<ys.length),Frz g h xs[i] ys[i]):Frz g h (.agg xs) (.agg ys)
 |tup (xs ys:List AV) (hn:xs.length=ys.length) (hr:∀i (h1:i<xs.length) (h2:i<ys.length),Frz g h xs[i] ys[i]):Frz g h (.tup xs) (.tup ys)
 |sl (xs ys:List AV) (p:Perm) (hn:xs.length=ys.length) (hz:∀i (h1:i<xs.length) (h2:i<ys.length),xs[i].cells.length=ys[i].cells.length)
   (hr:∀i (h1:i<xs.length) (h2:i<ys.length) j (h3:j<xs[i].cells.length) (h4:j<ys[i].cells.length),Frz g h xs[i].cells[j] ys[i].cells[j]):Frz g h (.sl xs p) (.sl ys .no)
 |ob (id off len cap sz:Nat) (cs:List AV) (t:TypeId) (ys:List AV) (hg:g id=none) (hh:h id=some (.obj cs t)) (hl:off+len*sz≤cs.length) (hn:ys.length=len) (hz:∀i (h1:i<ys.length),ys[i].cells.length=sz)
   (hr:∀i (h1:i<ys.length) j (h3:j<ys[i].cells.length) (h4:off+(i*sz+j)<cs.length),Frz g h (cs[off+(i*sz+j)]) ys[i].cells[j]):Frz g h (.ob id off len cap sz) (.sl ys .no)
 |ptr (id off:Nat) (cs:List AV) (t:TypeId) (ys:List AV) (hg:g id=none) (hh:h id=some (.obj cs t)) (hn:cs.length=ys.length) (hr:∀i (h1:i<cs.length) (h2:i<ys.length),Frz g h cs[i] ys[i]):Frz g h (.ptr id off) (.pe (.agg ys) off)
 |ifc (t:TypeId) (x y:AV) (hr:Frz g h x y):Frz g h (.ifc t x) (.ifc t y)
theorem Frz.rep{c' :Cx}{g h:Heap}(gd:Good c')(hh:Sub h c'.h){x y:AV}(hz:Frz g h x y):∀ {u:Value},Rep c' x u→Rep (c'.back g) y u:=by
 have nown:∀ {id:Nat} {k:Blk} {o:Nat},g id=none→h id=some k→¬owned (c'.back g) (c'.φ id).block o:=fun {id k o} h1 h2 ho=>by
  obtain⟨j,l,h3,h4,h5⟩:=ho;obtain⟨h6,h7⟩:=tC h3;exact gd.inj j id l k h7 (hh _ _ h2) (fun e=>h6 aas) h4
 induction hz with
 |keep x ha=>exact fun hr=>hr.back ha
 |agg xs ys hn hr ih=>
  intro u hu;obtain⟨vs,rfl,h1,h2,h3⟩:=hu.nE;exact .agg ys vs aar (fun i hi=>ih i aar hi (h2 i aar)) fun i hi=>h3 i aar
 |tup xs ys hn hr ih=>
  intro u hu;obtain⟨vs,rfl,h1,h2⟩:=hu.Bo;exact .tup ys vs aar (fun i hi=>ih i aar hi (h2 i aar))
 |sl xs ys p hn hz hr ih=>
  intro u hu;obtain⟨a,cap,sz,val,rfl,hs⟩:=hu.gT;rw[hn];have hcap:=hs.hc;refine .sl ys .no a cap sz val aar hs.hm hs.h0 hs.hs (fun i hi=>by rw[←hz i aar hi];exact hs.hz i aar) (fun q hq i j hi hj=>wD (hs.hf q hq i j aar hj)) (fun i hi j hj=> ?_) (fun i j hi hj=>hs.ho i j aar hj) trivial
  exact ih i aar hi j aas hj (hs.hr i aar j aas)
 |ob id off len cap sz cs t ys hg hid hl hn hz hr ih=>
  intro u hu;obtain⟨o,rfl,h1,h2,cs',t',h3,h4⟩:=hu.iQ;have hcid:=hh _ _ hid;obtain⟨vs,v1,v2,v3⟩:=gd.obj id cs t hcid;subst hn;have hbd:∀i j,i<ys.length→j<sz→i*sz+j<ys.length*sz:=fun i j hi hj=>by
   have:(i+1)*sz≤ys.length*sz:=Nat.mul_le_mul_right _ aar;rw[Nat.add_mul,Nat.one_mul]at this;omega
  refine .sl ys .no _ cap sz (fun i j=>vs.getD (off+(i*sz+j)) undef) h1 h2 (fun e=>aaU) (fun q hq _=> ?_) hz (fun q hq i j hi hj=> ?_) (fun i hi j hj=> ?_) (fun i j hi hj=>(v3 _ aas).2) trivial
  ·cases hq
   exact⟨rfl,gd.lt hcid⟩
  ·cases hq
   obtain⟨rfl,_⟩:=h4 aar;have hb:=hbd i j hi hj;refine⟨?_,nown hg hid⟩;have:o+(i*sz+j)<vs.size:=aar;simp[World.cell?,Cx.back,v1,this]
  ·have hj' :j<sz:=by grind
   have hb:=hbd i j hi hj';exact ih i hi j hj aar (v3 _ aar).1
 |ptr id off cs t ys hg hid hn hr ih=>
  intro u hu;obtain⟨rfl,_⟩:=hu.j0;have hcid:=hh _ _ hid;obtain⟨vs,v1,v2,v3⟩:=gd.obj id cs t hcid;have:=Rep.pe (c:=c'.back g) (.agg ys) off (c'.φ id).block 0 (fun j=>vs.getD j undef) (gd.lt hcid) (fun j hj=>by
    have hj' :j<ys.length:=hj;refine⟨?_,nown hg hid⟩
    simp_all [World.cell?,Cx.back]) (fun j hj=>by
    have hj' :j<ys.length:=hj;exact ih j aar hj' (v3 j aar).1) (fun j hj=>by
    have hj' :j<ys.length:=hj;exact(v3 j aar).2)
  rw[Nat.zero_add]at this;exact aa8
 |ifc t x y hr ih=>
  intro u hu;cases hu with
  |ifc _ _ u' h=>exact .ifc t y _ (ih h)
theorem ai.freeze{P:Program}{f:FuncId}{args:List AV}{h:Heap}{Q:AV→Prop}
  (hf:∀g,Sub h g→(∀x∈args,Av (fun id=>g id=none) x)→ai P f args g fun r h' =>Sub g h'∧∃y,Frz g h' r y∧Q y):ai P f args h fun r h' =>Q r∧h' =h:=by
 intro c vs hs gd h1 h2;have hav:∀x∈args,Av (fun id=>c.h id=none) x:=fun x hx=>by
  obtain⟨i,hi,rfl⟩:=List.mem_iff_getElem.1 hx;exact(h2 i hi).av fun _ e=>e
 refine(hf c.h hs hav c vs (.refl _) gd h1 h2).mono ?_
 rintro u w' ⟨c',x,h',rfl,gd',hE,hr,hsub,hgh,y,hz,hq⟩
 have hkeep:∀id k,c.h id=some k→c'.h id=some k:=fun id k hk=>hsub _ _ (hgh _ _ hk)
 have hE2:Ext c (c'.back c.h):={
  os:=hE.os,tape:=hE.tape,output:=hE.output,size:=hE.size,block:=hE.block,cell:=hE.cell,shape:=hE.shape
  steal:=fun b o hb ho=>hE.steal b o hb (wE ho)
  obj:=fun id cs t hi=>by rw[jV aas];exact hE.obj id cs t hi
  spare:=fun id n sz hi=>by rw[jV aas];exact hE.spare id n sz hi
  mp:=fun id m hi=>by rw[jV aas];exact hE.mp id m hi
  ro:=fun id b vs hi=>by rw[jV aas];exact hE.ro id b vs hi}
 have hold:∀id k,(c'.back c.h).h id=some k→c.h id=some k∧c'.h id=some k:=fun id k hk=>by
  obtain⟨a1,a2⟩:=tC hk;cases hc:c.h id with
  |none=>grind
  |some k' =>grind
 refine⟨c'.back c.h,y,h,rfl, ?_,hE2,hz.rep gd' hsub hr,fun id k hk=> ?_,hq,rfl⟩
 ·refine⟨?_,fun i j k l hi hj hne=>gd'.inj i j k l (hold i k hi).2 (hold j l hj).2 hne,fun id cs t hi=> ?_,fun id n sz hi=>gd'.spare id n sz (hold id _ hi).2,fun id m hi=> ?_,fun id m hi=>gd'.keys id m (hold id _ hi).2,fun id b vs hi=>gd'.ro id b vs (hold id _ hi).2⟩
  ·obtain⟨N,hN⟩:=gd'.fin
   exact⟨N,fun id hid=>by grind [Cx.back]⟩
  ·obtain⟨vs,v1,v2,v3⟩:=gd'.obj id cs t (hold id _ hi).2
   obtain⟨vs0,w1,w2,w3⟩:=gd.obj id cs t (hold id _ hi).1;exact⟨vs,v1,v2,fun j hj=>⟨(v3 j hj).1.back ((w3 j hj).1.av fun _ e=>e),(v3 j hj).2⟩⟩
  ·obtain⟨es,cl,v1,v2,v3⟩:=gd'.mp id m (hold id _ hi).2
   obtain⟨es0,cl0,w1,w2,w3⟩:=gd.mp id m (hold id _ hi).1;exact⟨es,cl,v1,v2,fun i hi' hi2=>⟨(v3 i hi' hi2).1,(v3 i hi' hi2).2.back ((w3 i hi' aar).2.av fun _ e=>e)⟩⟩
 ·rw[jV (by rw[hs _ _ hk];simp)]
  exact hkeep id k (hs _ _ hk)
section
variable {P : Program} {U : TypeId → TI} {ρ : Env} {h h' : Heap} {sz : Nat} {y : AV} {xs : List AV} {e : TypeId}
def Rd(h:Heap)(sz:Nat)(y:AV)(xs:List AV):Prop:=
 Sized sz xs∧((∃q,y= .sl xs q)∨∃id off cap cs t,y= .ob id off xs.length cap sz∧h id=some (.obj cs t)∧off+xs.length*sz≤cs.length∧(cs.drop off).take (xs.length*sz)=aq xs)
theorem Rd.sl(hs:Sized sz xs)(q:Perm):Rd h sz (.sl xs q) xs:=⟨hs,.inl ⟨q,rfl⟩⟩
theorem Rd.sub(hb:Rd h sz y xs)(hs:Sub h h'):Rd h' sz y xs:=by
 obtain⟨h1,hb|⟨id,off,cap,cs,t,rfl,h2,h3⟩⟩:=hb
 ·exact⟨h1,.inl hb⟩
 ·exact⟨h1,.inr ⟨id,off,cap,cs,t,rfl,hs _ _ h2,h3⟩⟩
theorem Rd.len(hb:Rd h sz y xs)(e:TypeId)(k:AV→Prop):vG y k (.slice e)=k (.i xs.length):=by
 exact afr
theorem Rd.cells(hb:Rd h sz y xs):y.cells= [y]:=by
 exact afr
theorem Rd.fit(hb:Rd h sz y xs)(m:Nat):fit y m=(m=1):=by
 exact afr
theorem Rd.src(hb:Rd h sz y xs)(hz:(U e).sz=sz){f:List AV→Prop}(hf:f xs):gU U e h y f:=by
 obtain⟨_,⟨q,rfl⟩|⟨id,off,cap,cs,t,rfl,h2,h3,h4⟩⟩:=hb
 ·exact hf
 ·rw[MM,h2]
  exact⟨hz.symm,xs,rfl,h3,h4.symm,hf⟩
def At(h:Heap)(p x:AV)(o:Nat):Prop:=p= .pe x o∨∃id a cs t,p= .ptr id (a+o)∧h id=some (.obj cs t)∧a+x.cells.length≤cs.length∧(cs.drop a).take x.cells.length=x.cells
theorem At.sub{p x:AV}{o:Nat}(ha:At h p x o)(hs:Sub h h'):At h' p x o:=by
 rcases ha with rfl|⟨id,a,cs,t,rfl,h2,h3⟩
 ·exact .inl rfl
 ·exact .inr ⟨id,a,cs,t,rfl,hs _ _ h2,h3⟩
theorem EG{cs:List AV}{x:AV}{a o:Nat}{i:TI}{k:AV→Prop}(h1:a+x.cells.length≤cs.length)(h2:(cs.drop a).take x.cells.length=x.cells)(h3:i.sz≠0)(h4:o+i.sz≤x.cells.length):gS cs (a+o) i k=gS x.cells o i k:=by
 unfold gS;split
 ·have e:(cs.drop (a+o)).take i.sz=(x.cells.drop o).take i.sz:=by
   grind [List.drop_take,List.drop_drop,Nat.min_eq_left]
  apply propext
  grind
 grind
theorem At.part{p x:AV}{o:Nat}(ha:At h p x o){ty:TypeId}(hz:(U ty).sz≠0)(hl:o+(U ty).sz≤x.cells.length)(k:AV→Prop):mA U h ty p k=gS x.cells o (U ty) k:=by
 rcases ha with rfl|⟨id,a,cs,t,rfl,h2,h3,h4⟩
 ·rw[JZ]
  unfold atA;split
  ·rename_i hc
   obtain⟨rfl,hc2,hc3⟩:=hc;unfold gS;split
   ·rename_i hag
    rw[hag]at hc3;have:x= .agg x.cells:=by cases x<;>first|rfl|cases hc3
    rw[List.drop_zero,←hc2,List.take_length,Nat.zero_add,←this];simp
   simp_all [bu,false,mZ]
  ·rfl
 ·rw[HI,h2]
  exact EG h3 h4 hz hl
theorem At.all{p x:AV}(ha:At h p x 0){ty:TypeId}(hz:(U ty).sz≠0)(hl:x.cells.length=(U ty).sz)(hg:bu x=(U ty).k.agg)(k:AV→Prop):mA U h ty p k=k x:=by
 rw[ha.part hz aar];unfold gS;split
 ·rename_i hag
  rw[hag]at hg;have:x= .agg x.cells:=by cases x<;>first|rfl|cases hg
  rw[List.drop_zero,←hl,List.take_length,Nat.zero_add,←this];simp
 simp_all [bu,false,mZ]
theorem At.field{p x:AV}{o:Nat}(ha:At h p x o){f off:Nat}{t:TypeId}{fs:List (Nat×TypeId)}{K:AV→Prop}(hf:fs[f]? =some (off,t))(hz:(U t).sz≠0)(hk:∀p',At h p' x (o+off)→K p'):wW U f p K (.strct fs):=by
 rcases ha with rfl|⟨id,a,cs,t',rfl,h2,h3,h4⟩
 ·rw[GQ,hf]
  exact⟨hz,hk _ (.inl rfl)⟩
 ·rw[DZ,hf]
  exact⟨hz,hk _ (.inr ⟨id,a,cs,t',aas,h2,h3,h4⟩)⟩
theorem Rd.idx(hb:Rd h sz y xs){m:Int}{x:IntKind}{K:AV→Prop}(j:Nat)(hm:m=j)(hj:j<xs.length)(hz:(U e).sz=sz)(h0:sz≠0)(hk:∀p,At h p xs[j] 0→K p):nQ U y (.v (.int x m)) K (.slice e):=by
 subst hm;have hc:=hb.1 xs[j] (aam hj);obtain⟨hs,⟨q,rfl⟩|⟨id,off,cap,cs,t,rfl,h2,h3,h4⟩⟩:=hb
 ·refine(tM ..).mpr ⟨aar, ?_⟩
  exact fz.at j hj aar (hk _ (.inl rfl))
 ·refine(zJ ..).mpr ⟨aar,hz.symm,aar,aar,hk _ (.inr ⟨id,off+j*sz,cs,t,aaz,h2, ?_, ?_⟩)⟩
  ·have:(j+1)*sz≤xs.length*sz:=Nat.mul_le_mul_right _ aar
   rw[Nat.add_mul,Nat.one_mul]at this;rw[hc];omega
  ·have e1:=nK hs j hj
   rw[←h4,List.drop_take,List.take_take,List.drop_drop]at e1;rw[hc];have:(j+1)*sz≤xs.length*sz:=aas;rw[Nat.add_mul,Nat.one_mul]at this;rw[Nat.min_eq_left aar]at e1;exact e1
def Ow(tb:TypeId)(h:Heap)(sz id:Nat)(y:AV)(xs:List AV):Prop:=
 ∃cap rest,y= .ob id 0 xs.length cap sz∧h id=some (.obj (aq xs++rest) tb)∧rest.length=(cap - xs.length)*sz∧xs.length≤cap∧Sized sz xs
variable {tb : TypeId} {id : Nat}
theorem Ow.rd(hw:Ow tb h sz id y xs):Rd h sz y xs:=by
 obtain⟨cap,rest,rfl,h1,h2,h3,h4⟩:=hw;have hl:=aW h4;exact⟨h4,.inr ⟨id,0,cap,_,tb,rfl,h1,aas,aas⟩⟩
theorem Ow.sub(hw:Ow tb h sz id y xs)(hs:Sub h h'):Ow tb h' sz id y xs:=by
 obtain⟨cap,rest,e1,h1,h2⟩:=hw;exact⟨cap,rest,e1,hs _ _ h1,h2⟩
theorem Ow.same(hw:Ow tb h sz id y xs)(hs:h' id=h id):Ow tb h' sz id y xs:=by
 obtain⟨cap,rest,e1,h1,h2⟩:=hw;exact⟨cap,rest,e1,hs.trans h1,h2⟩
theorem Ow.none(hw:Ow tb h sz id y xs):h id≠Option.none:=by
 obtain⟨cap,rest,e1,h1,h2⟩:=hw
 grind
theorem Ow.make{cs:List AV}{cap:Nat}{rest:List AV}(hs:Sized sz xs)(hcs:cs=aq xs){n:Nat}(hn:n=xs.length)(hc:n≤cap)(hr:rest.length=(cap - n)*sz):Ow tb (upd h id (some (.obj (cs++rest) tb))) sz id (.ob id 0 n cap sz) xs:=by
 subst hcs;subst hn
 exact⟨cap,rest,rfl,ah ..,hr,hc,hs⟩
theorem jH.ow{cs:List AV}{n:Nat}{Q:AV→Heap→Prop}(hs:Sized sz xs)(hcs:cs=aq xs)(hn:n=xs.length)(hk:∀id y h',h id=Option.none→Ow tb h' sz id y xs→(∀j,j≠id→h' j=h j)→Q y h'):jH h cs n sz tb Q:=
 fun id cap rest hid hc hr=>hk id _ _ hid (Ow.make hs hcs hn hc hr) fun j hj=>ag _ _ hj
theorem HS{us vs:List AV}{o:Nat}{c:List AV}:over (us++vs) (us.length+o) c=us++over vs o c:=by
 simp[Ab.over,Nat.add_assoc,List.take_length_add_append,List.drop_length_add_append,List.append_assoc]
theorem G8{xs:List AV}(hs:Sized sz xs)(j:Nat)(hj:j<xs.length)(x:AV)(hx:x.cells.length=sz):aq (xs.set j x)=over (aq xs) (j*sz) x.cells:=by
 induction xs generalizing j with
 |nil=>grind
 |cons a r ih=>
  have h1:=hs a aaz;have h2:Sized sz r:=fun z hz=>hs z aas
  cases j with
  |zero=>
   simp only[List.set_cons_zero,jN,Ab.over,Nat.zero_mul,List.take_zero,List.nil_append,Nat.zero_add];rw[hx,←h1,List.drop_left]
  |succ j=>
   have hj' :j<r.length:=aas;have e1:(j+1)*sz=a.cells.length+j*sz:=aas;rw[List.set_cons_succ,jN,jN,ih h2 j hj',e1,HS]
theorem G0{xs:List AV}(hs:Sized sz xs)(j:Nat)(hj:j<xs.length)(o:Nat)(c:List AV)(ho:o+c.length≤sz):over (aq xs) (j*sz+o) c=aq (xs.set j (.agg (over xs[j].cells o c))):=by
 have hc:=hs xs[j] (aam hj);have hl:(over xs[j].cells o c).length=sz:=by grind [gR]
 rw[G8 hs j hj (.agg (over xs[j].cells o c)) hl];have hp:=nK hs j hj;have e1:(aq xs).take (j*sz+o)=(aq xs).take (j*sz)++xs[j].cells.take o:=by
  rw[←hp,List.take_take,Nat.min_eq_left aar,List.take_add]
 have e2:(aq xs).drop (j*sz+o+c.length)=xs[j].cells.drop (o+c.length)++(aq xs).drop (j*sz+sz):=by
  have e3:(aq xs).drop (j*sz)=xs[j].cells++(aq xs).drop (j*sz+sz):=by
   grind [List.drop_drop,List.take_append_drop]
  rw[Nat.add_assoc,←List.drop_drop,e3,List.drop_append_of_le_length aar]
 show over (aq xs) (j*sz+o) c=over (aq xs) (j*sz) (over xs[j].cells o c)
 grind [over,Ab.over,List.append_assoc]
theorem Ki{us vs:List AV}{o:Nat}{c:List AV}(h1:o+c.length≤us.length):over (us++vs) o c=over us o c++vs:=by
 grind [Ab.over,List.append_assoc]
theorem Ow.idx(hw:Ow tb h sz id y xs){m:Int}{x:IntKind}{K:AV→Prop}(j:Nat)(hm:m=j)(hj:j<xs.length)(hz:(U e).sz=sz)(h0:sz≠0)(hk:K (.ptr id (j*sz))):nQ U y (.v (.int x m)) K (.slice e):=by
 obtain⟨cap,rest,rfl,h1,h2,h3,h4⟩:=hw
 simp_all [zJ,Nat.zero_add,Int.toNat_natCast]
def OwE(tb:TypeId)(h0 h:Heap)(sz:Nat)(y:AV)(xs:List AV):Prop:=(xs= []∧y= .sl [] .full)∨∃id,h0 id=Option.none∧Ow tb h sz id y xs
variable {h0 : Heap}
theorem OwE.rd(hw:OwE tb h0 h sz y xs):Rd h sz y xs:=by
 rcases hw with⟨rfl,rfl⟩|⟨id,_,hw⟩
 ·exact .sl (fun z hz=>aas) _
 ·exact hw.rd
theorem OwE.sub(hw:OwE tb h0 h sz y xs)(hs:Sub h h'):OwE tb h0 h' sz y xs:=by
 rcases hw with hw|⟨id,h1,hw⟩
 ·exact ael
 ·exact .inr ⟨id,h1,hw.sub hs⟩
theorem OwE.ow(hw:OwE tb h0 h sz y xs)(hn:xs≠ []):∃id,h0 id=Option.none∧Ow tb h sz id y xs:=by
 rcases hw with hw|hw
 ·grind
 omega
theorem OwE.app{v:AV}{zs:List AV}{Q:AV→Heap→Prop}(hw:OwE tb h0 h sz y xs)(hs0:Sub h0 h)(hb:Rd h sz v zs)(hz:(U tb).sz=sz)(h1:sz≠0)(hby:(U tb).bytes≠0)(hf:Ab.fit (U tb).zero sz)(hne:zs≠ [])(hlen:(xs.length+zs.length)*(U tb).bytes≤140737488355328)
  (hk:∀id y' h',h0 id=Option.none→(h id=Option.none∨∃l c,y= .ob id 0 l c sz)→Ow tb h' sz id y' (xs++zs)→(∀j,j≠id→h' j=h j)→Q y' h'):apK U h y v Q (.slice tb):=by
 subst hz;rcases hw with⟨rfl,rfl⟩|⟨id,h2,cap,rest,rfl,h3,h4,h5,h6⟩
 ·refine(oX ..).mpr ⟨h1,hby,hb.src rfl ⟨by simp[Sized],hb.1,aar,fun hn=>(hne hn).elim,fun _=> ?_⟩⟩
  refine .ob hf (jH.ow (by simpa using hb.1) aaG aaz fun id y' h' hid hw ho=> ?_)
  exact hk id _ _ (hs0.none hid) (.inl hid) aas ho
 ·have hl:=aW h6
  refine⟨h1,hby,rfl,hb.src rfl ⟨hb.1,hlen, ?_⟩⟩;rw[h3];have hsz:Sized (U tb).sz (xs++zs):=fun z hz=>(List.mem_append.1 hz).elim (h6 z) (hb.1 z)
  refine⟨aas,hf,fun hle=> ?_,fun hgt=> ?_⟩
  ·have hlz:=aW hb.1
   have hmul:(cap - xs.length)*(U tb).sz=zs.length*(U tb).sz+(cap - (xs.length+zs.length))*(U tb).sz:=by rw[←Nat.add_mul];grind
   refine hk id _ _ h2 (.inr ⟨_,_,rfl⟩) ⟨cap,rest.drop (zs.length*(U tb).sz),aaz, ?_, ?_,aas,hsz⟩ fun j hj=>ag _ _ hj
   ·simp_all [ah,lB,Nat.zero_add,Ab.over,List.take_left,List.drop_append,List.drop_of_length_le]
   grind
  ·refine jH.ow hsz ?_ aaz fun id' y' h' hid hw ho=> ?_
   ·grind [lB,List.take_left]
   ·exact hk id' _ _ (hs0.none hid) (.inl hid) hw ho
theorem vi {f : FuncId} {fn : Func} {tS tR : TypeId} (hU : ∀ t, aN P U t) (hfn : P.funcs[f]? = some fn) (hname : (fn.name == "runtime.NumGoroutine") = false) (hb : fn.body.isNone = true) (hn : Extern.findNext fn = Option.none)
  (he:Extern.find fn=some (Extern.SlicesOverlaps.overlaps #[tS,tS] #[tR])) (hty:(U tS).k= .slice e) (hz:(U e).sz≠0) {q:Perm} (hx:Sized (U e).sz xs) (hne:xs≠ []) {id off len cap sz:Nat} {cs:List AV} {t:TypeId} (hid:h id=some (.obj cs t)) (hcs:cs≠ []):
  ai P f [.sl xs q,.ob id off len cap sz] h fun r h' =>r= .b false∧h' =h:=by
 intro c vs hs g h1 h2;obtain⟨a,cap0,sz0,val,hu,sl⟩:=(h2 0 aaz).gT;obtain⟨o,hv,_⟩:=(h2 1 aaz).iQ;have hd:=(hU tS).desc;rw[hty]at hd;have hpos:0<xs.length:=List.length_pos_iff.2 hne;have hcap:=sl.hc;obtain⟨qa,rfl⟩:∃qa,a=some qa:=by
  cases a with
  |none=>have:=sl.h0 rfl;omega
  |some qa=>simp
 have hs0:sz0=(U e).sz:=by rw[←sl.hz 0 hpos];exact hx _ (aam hpos)
 have hf:=sl.hf qa rfl 0 0 hpos aar;have hq:=(sl.hs qa rfl aar).1;have hcid:=hs _ _ hid;obtain⟨us,u1,u2,u3⟩:=g.obj id cs t hcid;have hnb:qa.block≠(c.φ id).block:=fun hh=>hf.2 ⟨id,_,hcid,hh.symm,Nat.zero_le _⟩
 obtain⟨ws,tw,fr,hws,hwlt⟩:∃ws tw fr,c.w.heap[qa.block]? =some (.cells ws tw fr)∧0<ws.size:=by
  have:=hf.1;simp only[World.cell?]at this;split at this
  ·rename_i ws tw fr hh
   refine⟨ws,tw,fr,hh, ?_⟩
   grind
  all_goals cases this
 have hvs:vs= #[.slice (some qa) xs.length cap0,.slice (some ⟨(c.φ id).block,o,Option.none⟩) len cap]:=by
  apply Array.ext
  ·omega
  ·intro i hi hi2
   have hi3:i<2:=aar;rcases i with _|_|i
   ·simpa[Array.getD,hi]using hu
   ·simpa[Array.getD,hi]using hv
   ·omega
 subst hvs;refine .inr ⟨.bool false,c.w, ?_,c,_,h,rfl,g,.refl c,.v _,hs,rfl,rfl⟩;rw[Go.run_callFunc_extern hfn hname hb hn he];have key:(Extern.SlicesOverlaps.overlaps #[tS,tS] #[tR] #[.slice (some qa) xs.length cap0,.slice (some ⟨(c.φ id).block,o,Option.none⟩) len cap]).run P c.w= .ok (.bool false) c.w:=by
  have hnb1:(qa.block !=(c.φ id).block)=true:=aas;have hnb2:(qa.block==(c.φ id).block)=false:=aas;have hws2:∃m,ws.size=m+1:=⟨ws.size - 1,aar⟩;obtain⟨m,hm⟩:=hws2
  change Sem.run P (α:=Value) (do
   let some t := (#[tS, tS] : Array TypeId)[0]? | stuck "slices.overlaps: no parameter types"
   let .slice elem ← underlying t | stuck "slices.overlaps: slice type expected"
   let size←sizeOf elem
   match (some qa:Option Addr),(some ⟨(c.φ id).block,o,Option.none⟩:Option Addr)with
   |some a,some b=>
    if xs.length=0∨len=0∨size=0 then pure (Value.bool false)
    else if a.block !=b.block && (←frozen a) && (←frozen b)then unsupported .addressObserved
    else do
     if a.block !=b.block then do
      noView a;noView b
      if ← mayBeOne a b then return Value.bool ((← choose (.extern "sameAddr.stringBytes" 2)) == 1)
     pure (Value.bool (a.block==b.block && a.off<b.off+len*size && b.off<a.off+xs.length*size))
   |_,_=>pure (Value.bool false)) c.w=_
  have hfb:∀x,c.w.frozen? ⟨(c.φ id).block,x,Option.none⟩=false:=fun x=>by grind [World.frozen?]
  have hsb:c.w.shape? (c.φ id).block=some (t,us.size):=by grind [World.shape?]
  have hsa:c.w.shape? qa.block=some (tw,m+1):=by grind [World.shape?]
  by_cases hl:len=0
  ·simp[run_underlying hd,bx hU hz,hl]
  ·have hus:us.size≠0:=by grind
   obtain⟨n,hn'⟩:∃n,us.size=n+1:=⟨us.size - 1,aar⟩;rw[hn']at hsb;cases hfa:c.w.frozen? qa<;>cases hfa2:c.w.frozen? {block:=qa.block,off:=m+1}<;>
    simp[run_underlying hd,bx hU hz,hl,hne,hz,hnb1,hnb2,frozen,noView,viewAt,mayBeOne,stringish,shape,Sem.run,hsa,hsb,hfb,hfa,hfa2]
 rw[key];rfl
end
end Go.Ab
namespace Go.Bf
open Go Go.Ab
structure OpD where
 kind:Int
 subj:Txt
 case:Txt
 field:Txt
 to:Txt
 val:bw
 review:Int
 text:Txt
 reason:Txt
 glass:Bool
structure wj where
 tick:Int
 actor:Txt
 what:Txt
structure cS where
 name:Txt
 val:bw
structure aJ where
 id:Txt
 owner:Txt
 state:Txt
 fields:List cS
 log:List wj
structure oV where
 id:Int
 tick:Int
 subj:Txt
 case:Txt
 action:Txt
 reason:Txt
 isOpen:Bool
structure Gq where
 tick:Int
 case:Txt
 arg:Txt
structure gI where
 subj:Txt
 role:Txt
structure an where
 tick:Int
 cases:List aJ
 reviews:List oV
 notices:List Gq
 roles:List gI
 policy:bG
 version:Int
structure bh where
 cat:Int
 name:Txt
 bag:List bw
def opC(o:OpD):List AV:=[.i o.kind,.s o.subj,.s o.case,.s o.field,.s o.to,.i o.val.kind,.i o.val.n,.s o.val.s,.i o.review,.s o.text,.s o.reason,.b o.glass]
def opA(o:OpD):AV:=.agg (opC o)
def hY(x:wj):AV:=.agg [.i x.tick,.s x.actor,.s x.what]
def bJ(f:cS):AV:=.agg [.s f.name,.i f.val.kind,.i f.val.n,.s f.val.s]
def fV(l:List cS):AV:=.sl (l.map bJ) .no
def rD(l:List wj):AV:=.sl (l.map hY) .no
def mq(c:aJ):List AV:=[.s c.id,.s c.owner,.s c.state,fV c.fields,rD c.log]
def cm(c:aJ):AV:=.agg (mq c)
def fM(l:List aJ):AV:=.sl (l.map cm) .no
def ie(r:oV):AV:=.agg [.i r.id,.i r.tick,.s r.subj,.s r.case,.s r.action,.s r.reason,.b r.isOpen]
def jJ(l:List oV):AV:=.sl (l.map ie) .no
def lY(n:Gq):AV:=.agg [.i n.tick,.s n.case,.s n.arg]
def kD(l:List Gq):AV:=.sl (l.map lY) .no
def dU(r:gI):AV:=.agg [.s r.subj,.s r.role]
def dM(l:List gI):AV:=.sl (l.map dU) .no
def fJ:bG→List AV
 |.mk id set alg tgt rules kids obls=>[.s id,.b set,.i alg,aT tgt,.sl (rules.map aA) .no,.sl (fj kids) .no,az obls]
theorem My(p:bG):aK p= .agg (fJ p):=by cases p;rfl
def cH(s:an):AV:=.agg ([.i s.tick,fM s.cases,jJ s.reviews,kD s.notices,dM s.roles]++fJ s.policy++ [.i s.version])
def kj(g:bh):AV:=.agg [.i g.cat,.s g.name,.sl (g.bag.map aQ) .no]
def bE(l:List bh):AV:=.sl (l.map kj) .no
def geB(a b:Txt):Bool:= !(Op.bytesLess a b)
def findD(cs:List aJ)(id:Txt):Nat:=cs.findIdx fun c=>geB c.id id
def bW(cs:List aJ)(id:Txt):Bool:=match cs[findD cs id]? with
 |some c=>c.id==id
 |none=>false
def ax:bw:=⟨0,0,[]⟩
def ny:aJ:=⟨[],[],[],[],[]⟩
def br(cs:List aJ)(id:Txt):aJ:=if bW cs id then cs.getD (findD cs id) ny else ny
def dX(fs:List cS)(name:Txt):bw:=match fs.find? fun f=>f.name==name with
 |some f=>f.val
 |none=>ax
def tF(a b:gI):Bool:=a.subj==b.subj && a.role==b.role
def xk(l:List gI)(r:gI):Bool:=l.any (tF r)
def jb:Txt:=[111,112,101,110]
def vw:Txt:=[119,111,114,107]
def zz:Txt:=[100,111,110,101]
def gD:Txt:=[99,108,111,115,101,100]
def lO(a b:Txt):Bool:=
 if a==jb then b==vw else if a==vw then b==zz else if a==zz then b==vw||b==gD else false
def Rx:List Txt:=[[110,101,119],[114,101,97,100],[119,114,105,116,101],[109,111,118,101],[99,108,111,115,101],[114,111,108,101],[112,111,108,105,99,121]]
def jl(k:Int):Txt:=if k<1∨k>7 then [116,105,99,107]else Rx.getD (k - 1).toNat []
def tZ(k:Int):Bool:=decide (1≤k) && decide (k≤4)
def iC(s:Txt):Bool:=s== []||bk s
def lg(o:OpD):Bool:=if o.glass then tZ o.kind && (!(o.reason== [])) && decide (o.reason.length≤64)else o.reason== []
def iu(o:OpD):OpD:=
 let z:OpD:=⟨o.kind,[],[],[],[],ax,0,[],[],false⟩
 if o.kind=1 then {z with case:=o.case}
 else if o.kind=2∨o.kind=6 then {z with case:=o.case,field:=o.field}
 else if o.kind=3 then {z with case:=o.case,field:=o.field,val:=o.val}
 else if o.kind=4 then {z with case:=o.case,to:=o.to}
 else if o.kind=5∨o.kind=8 then {z with review:=o.review}
 else {z with text:=o.text}
def eqV(a b:bw):Bool:=a.kind==b.kind && (a.n==b.n && a.s==b.s)
def lX(a b:OpD):Bool:=a.kind==b.kind && (a.subj==b.subj && (a.case==b.case && (a.field==b.field && (a.to==b.to && (a.val.kind==b.val.kind && (a.val.n==b.val.n && (a.val.s==b.val.s && (a.review==b.review && (a.text==b.text && (a.reason==b.reason && a.glass==b.glass))))))))))
def okD(o:OpD):Bool:=
 if o.kind=1 then !(o.case== [])
 else if o.kind=2∨o.kind=6 then !(o.case== []) && !(o.field== [])
 else if o.kind=3 then !(o.case== []) && !(o.field== []) && !(eqV o.val ax)
 else if o.kind=4 then !(o.case== []) && !(o.to== [])
 else if o.kind=5 then decide (0<o.review)
 else if o.kind=8 then decide (0<o.review) && decide (o.review≤1099511627776)
 else true
def gz(o:OpD):OpD:={o with subj:=[],reason:=[],glass:=false}
def dD(o:OpD):Bool:=decide (1≤o.kind) && decide (o.kind≤8) && okD o && lX (gz o) (iu o)
def eN(o:OpD):Bool:=bk o.subj && lg o && decide (o.text.length≤4096) && iC o.case && iC o.field && iC o.to && (eqV o.val ax||bF o.val) && dD o
def bV(s:an)(o:OpD):Int:=
 let c:=br s.cases o.case
 if bW s.cases o.case=false then 10
 else if o.kind=3∧c.fields.length≥16∧eqV (dX c.fields o.field) ax=true then 6
 else if o.kind≠2∧c.log.length≥256 then 6
 else if o.kind=3∧c.state=gD∨o.kind=4∧lO c.state o.to=false then 13
 else 0
def vm(l:List oV)(n:Int):Option oV:=if 1≤n then l[(n - 1).toNat]? else none
def fD(s:an)(o:OpD):Int:=match vm s.reviews o.review with
 |none=>10
 |some r=>if r.isOpen=false then 10 else if r.subj=o.subj then 12 else 0
def bI(s:an)(o:OpD):Int:=
 if eN o=false then 1
 else if o.kind=1 then(if bW s.cases o.case then 11 else if s.cases.length≥64 then 6 else 0)
 else if 2≤o.kind∧o.kind≤4 then bV s o
 else if o.kind=5 then fD s o
 else if o.kind=6 then(if s.roles.length≥64∧xk s.roles ⟨o.case,o.field⟩=false then 6 else 0)
 else if o.kind=8 then(if s.tick>1099511627776 - o.review then 6 else 0)
 else 0
def idV(s:Txt):bw:=⟨5,0,s⟩
def td(l:List wj)(subj:Txt):bw:=⟨1,if l.any (fun x=>x.actor==subj)then 1 else 0,[]⟩
def idT:Txt:=[105,100]
def cy(c:aJ)(subj:Txt):List bh:=
 [⟨3,idT,[idV c.id]⟩,⟨3,[111,119,110,101,114],[idV c.owner]⟩,⟨3,[115,116,97,116,101],[idV c.state]⟩,⟨3,[101,118,101,110,116,115],[⟨2,c.log.length,[]⟩]⟩,⟨3,[116,111,111,107],[td c.log subj]⟩]++
 (match c.log.getLast? with
  |some x=>[⟨3,[108,97,115,116],[idV x.actor]⟩]
  |none=>[])++
 (c.fields.filter fun f=>decide (f.name.length≤14)).map fun f=>⟨3,[102,95]++f.name,[f.val]⟩
def cR(l:List gI)(subj:Txt):List bw:=((l.filter fun r=>r.subj==subj).map fun r=>idV r.role).take 16
def fl(s:an)(o:OpD):List bh:=
 [⟨1,idT,[idV o.subj]⟩,⟨1,[114,111,108,101],cR s.roles o.subj⟩,⟨2,[110,97,109,101],[idV (jl o.kind)]⟩]++
 (if o.field= []then []else [⟨2,[102,105,101,108,100],[idV o.field]⟩])++
 (if o.to= []then []else [⟨2,[116,111],[idV o.to]⟩])++
 [⟨4,[110,111,119],[⟨4,s.tick,[]⟩]⟩]++
 (if bW s.cases o.case=true∧o.kind≠6 then cy (br s.cases o.case) o.subj else [])
def eL(fs:List cS)(name:Txt)(v:bw):List cS:=
 let i:=fs.findIdx fun f=>geB f.name name
 match fs[i]? with
 |none=>fs++ [⟨name,v⟩]
 |some f=>if f.name=name then fs.set i ⟨f.name,v⟩else fs.take i++ [⟨name,v⟩]++fs.drop i
def iP(s:an)(c:aJ)(actor what:Txt):aJ:={c with log:=c.log++ [⟨s.tick,actor,what⟩]}
def doD(par:Txt→bG×Int×Int)(s:an)(o:OpD):an:=
 let i:=findD s.cases o.case
 if o.kind=1 then {s with cases:=s.cases.take i++ [iP s ⟨o.case,o.subj,jb,[],[]⟩ o.subj [110,101,119]]++s.cases.drop i}
 else if o.kind=3 then {s with cases:=s.cases.modify i fun c=>iP s {c with fields:=eL c.fields o.field o.val} o.subj [119,114,105,116,101]}
 else if o.kind=4 then {s with cases:=s.cases.modify i fun c=>iP s {c with state:=o.to} o.subj o.to}
 else if o.kind=5 then {s with reviews:=s.reviews.modify (o.review - 1).toNat fun r=> {r with isOpen:=false}}
 else if o.kind=6 then(if xk s.roles ⟨o.case,o.field⟩then s else {s with roles:=s.roles++ [⟨o.case,o.field⟩]})
 else if o.kind=7 then(if(par o.text).2.1=0 then {s with policy:=(par o.text).1,version:=s.version+1} else s)
 else if o.kind=8 then {s with tick:=s.tick+o.review}
 else s
def dI(par:Txt→bG×Int×Int)(s:an)(o:OpD):an:=if bI s o=0 then doD par s o else s
def i64(n:Int):Prop:= -9223372036854775808≤n∧n≤9223372036854775807
end Go.Bf
namespace Go.Proofs.YtcochaoekecfdaaGreatDoor
open Go Go.Ab
abbrev aap:TI:=⟨.other,1,8,.v .nilFunc,none⟩
def K0:List TI:=[
 ⟨.other,0,0,default,none⟩,
 aap,
 ⟨.int .i64,1,8,.i 0,some (0,[.int .i64])⟩,
 ⟨.int .i64,1,8,.i 0,some (0,[.int .i64])⟩,
 ⟨.bool,1,1,.b false,some (0,[.bool])⟩,
 ⟨.int .u8,1,1,.v (.int .u8 0),some (0,[.int .u8])⟩,
 ⟨.int .u8,1,1,.v (.int .u8 0),some (0,[.int .u8])⟩,
 ⟨.strct [(0,2),(1,3),(2,4),(3,6)],4,24,.agg [.i 0,.i 0,.b false,.v (.int .u8 0)],none⟩,
 ⟨.strct [(0,2),(1,3),(2,4),(3,6)],4,24,.agg [.i 0,.i 0,.b false,.v (.int .u8 0)],none⟩,
 ⟨.str,1,16,.s [],some (0,[.str])⟩,
 ⟨.str,1,16,.s [],some (0,[.str])⟩,
 ⟨.str,1,16,.s [],some (0,[.str])⟩,
 ⟨.int .u64,1,8,.v (.int .u64 0),some (0,[.int .u64])⟩,
 ⟨.strct [(0,9),(1,12)],2,24,.agg [.s [],.v (.int .u64 0)],none⟩,
 ⟨.strct [(0,9),(1,12)],2,24,.agg [.s [],.v (.int .u64 0)],none⟩,
 ⟨.ptr 417,1,8,.v (.pointer none),none⟩,
 ⟨.ptr 420,1,8,.v (.pointer none),none⟩,
 ⟨.ptr 427,1,8,.v (.pointer none),none⟩,
 ⟨.strct [(0,17)],1,8,.agg [.v (.pointer none)],none⟩,
 ⟨.strct [(0,17)],1,8,.agg [.v (.pointer none)],none⟩,
 ⟨.iface,1,16,.v .nilIface,none⟩,
 ⟨.int .i32,1,4,.v (.int .i32 0),some (0,[.int .i32])⟩,
 ⟨.ptr 96,1,8,.v (.pointer none),none⟩,
 ⟨.int .i64,1,8,.i 0,some (0,[.int .i64])⟩,
 ⟨.other,0,0,default,none⟩,
 aap,
 ⟨.ptr 101,1,8,.v (.pointer none),none⟩,
 ⟨.other,0,0,default,none⟩,
 aap,
 ⟨.strct [(0,3),(1,3),(2,9)],3,32,.agg [.i 0,.i 0,.s []],some (1,[.int .i64,.int .i64,.str])⟩,
 ⟨.strct [(0,3),(1,3),(2,9)],3,32,.agg [.i 0,.i 0,.s []],some (1,[.int .i64,.int .i64,.str])⟩,
 ⟨.strct [(0,3),(1,9),(2,9),(3,9),(4,9),(5,30),(8,3),(9,9),(10,9),(11,4)],12,152,.agg [.i 0,.s [],.s [],.s [],.s [],.i 0,.i 0,.s [],.i 0,.s [],.s [],.b false],some (2,[.int .i64,.str,.str,.str,.str,.int .i64,.int .i64,.str,.int .i64,.str,.str,.bool])⟩,
 ⟨.strct [(0,3),(1,9),(2,9),(3,9),(4,9),(5,30),(8,3),(9,9),(10,9),(11,4)],12,152,.agg [.i 0,.s [],.s [],.s [],.s [],.i 0,.i 0,.s [],.i 0,.s [],.s [],.b false],some (2,[.int .i64,.str,.str,.str,.str,.int .i64,.int .i64,.str,.int .i64,.str,.str,.bool])⟩,
 ⟨.cplx .f64,1,16,.v (.complex .f64 0 0),some (0,[.cplx .f64])⟩,
 ⟨.cplx .f64,1,16,.v (.complex .f64 0 0),some (0,[.cplx .f64])⟩,
 ⟨.strct [(0,23),(1,34),(2,4),(3,30),(6,4),(7,3)],8,80,.agg [.i 0,.v (.complex .f64 0 0),.b false,.i 0,.i 0,.s [],.b false,.i 0],some (2,[.int .i64,.cplx .f64,.bool,.int .i64,.int .i64,.str,.bool,.int .i64])⟩,
 ⟨.strct [(0,23),(1,34),(2,4),(3,30),(6,4),(7,3)],8,80,.agg [.i 0,.v (.complex .f64 0 0),.b false,.i 0,.i 0,.s [],.b false,.i 0],some (2,[.int .i64,.cplx .f64,.bool,.int .i64,.int .i64,.str,.bool,.int .i64])⟩,
 aap,
 ⟨.slice 41,1,24,.sl [] .full,none⟩,
 aap,
 aap,
 ⟨.slice 5,1,24,.sl [] .full,none⟩,
 aap,
 ⟨.int .u64,1,8,.v (.int .u64 0),some (0,[.int .u64])⟩,
 aap,
 aap,
 aap,
 aap,
 aap,
 aap,
 ⟨.other,0,0,default,none⟩,
 aap,
 aap,
 aap,
 ⟨.slice 32,1,24,.sl [] .full,none⟩,
 ⟨.slice 134,1,24,.sl [] .full,none⟩,
 ⟨.slice 143,1,24,.sl [] .full,none⟩,
 ⟨.slice 146,1,24,.sl [] .full,none⟩,
 ⟨.slice 149,1,24,.sl [] .full,none⟩,
 ⟨.slice 270,1,24,.sl [] .full,none⟩,
 ⟨.slice 270,1,24,.sl [] .full,none⟩,
 ⟨.slice 224,1,24,.sl [] .full,none⟩,
 ⟨.slice 65,1,24,.sl [] .full,none⟩,
 ⟨.slice 158,1,24,.sl [] .full,none⟩,
 ⟨.strct [(0,9),(1,4),(2,3),(3,60),(4,61),(5,62),(6,63)],7,128,.agg [.s [],.b false,.i 0,.sl [] .full,.sl [] .full,.sl [] .full,.sl [] .full],none⟩,
 ⟨.strct [(0,9),(1,4),(2,3),(3,60),(4,61),(5,62),(6,63)],7,128,.agg [.s [],.b false,.i 0,.sl [] .full,.sl [] .full,.sl [] .full,.sl [] .full],none⟩,
 ⟨.strct [(0,3),(1,55),(2,56),(3,57),(4,58),(5,65),(12,3)],13,240,.agg [.i 0,.sl [] .full,.sl [] .full,.sl [] .full,.sl [] .full,.s [],.b false,.i 0,.sl [] .full,.sl [] .full,.sl [] .full,.sl [] .full,.i 0],none⟩,
 ⟨.strct [(0,3),(1,55),(2,56),(3,57),(4,58),(5,65),(12,3)],13,240,.agg [.i 0,.sl [] .full,.sl [] .full,.sl [] .full,.sl [] .full,.s [],.b false,.i 0,.sl [] .full,.sl [] .full,.sl [] .full,.sl [] .full,.i 0],none⟩,
 aap,
 aap,
 ⟨.strct [(0,32),(12,3),(13,34),(14,4),(15,63)],16,208,.agg [.i 0,.s [],.s [],.s [],.s [],.i 0,.i 0,.s [],.i 0,.s [],.s [],.b false,.i 0,.v (.complex .f64 0 0),.b false,.sl [] .full],none⟩,
 ⟨.strct [(0,32),(12,3),(13,34),(14,4),(15,63)],16,208,.agg [.i 0,.s [],.s [],.s [],.s [],.i 0,.i 0,.s [],.i 0,.s [],.s [],.b false,.i 0,.v (.complex .f64 0 0),.b false,.sl [] .full],none⟩,
 ⟨.other,0,0,default,none⟩,
 aap,
 aap,
 aap,
 aap,
 ⟨.slice 9,1,24,.sl [] .full,none⟩,
 ⟨.slice 43,1,24,.sl [] .full,none⟩,
 aap,
 aap,
 aap,
 aap,
 aap,
 ⟨.slice 71,1,24,.sl [] .full,none⟩,
 aap,
 aap,
 aap,
 aap,
 aap,
 aap,
 aap,
 aap,
 aap,
 aap,
 ⟨.strct [(0,3),(1,41),(2,3),(3,3),(4,4)],5,56,.agg [.i 0,.sl [] .full,.i 0,.i 0,.b false],none⟩,
 ⟨.strct [(0,3),(1,41),(2,3),(3,3),(4,4)],5,56,.agg [.i 0,.sl [] .full,.i 0,.i 0,.b false],none⟩,
 ⟨.ptr 173,1,8,.v (.pointer none),none⟩,
 ⟨.other,0,0,default,none⟩,
 aap,
 ⟨.strct [(0,97),(1,67),(14,84),(15,43)],16,280,.agg [.v (.pointer none),.i 0,.sl [] .full,.sl [] .full,.sl [] .full,.sl [] .full,.s [],.b false,.i 0,.sl [] .full,.sl [] .full,.sl [] .full,.sl [] .full,.i 0,.sl [] .full,.v (.int .u64 0)],none⟩,
 ⟨.strct [(0,97),(1,67),(14,84),(15,43)],16,280,.agg [.v (.pointer none),.i 0,.sl [] .full,.sl [] .full,.sl [] .full,.sl [] .full,.s [],.b false,.i 0,.sl [] .full,.sl [] .full,.sl [] .full,.sl [] .full,.i 0,.sl [] .full,.v (.int .u64 0)],none⟩,
 aap,
 ⟨.int .u64,1,8,.v (.int .u64 0),some (0,[.int .u64])⟩,
 aap,
 aap,
 aap,
 aap,
 aap,
 aap,
 ⟨.ptr 176,1,8,.v (.pointer none),none⟩,
 aap,
 aap,
 aap,
 aap,
 aap,
 ⟨.other,0,0,default,none⟩,
 aap,
 ⟨.strct [(0,34),(1,63)],2,40,.agg [.v (.complex .f64 0 0),.sl [] .full],none⟩,
 ⟨.strct [(0,34),(1,63)],2,40,.agg [.v (.complex .f64 0 0),.sl [] .full],none⟩,
 aap,
 ⟨.other,0,0,default,none⟩,
 aap,
 ⟨.slice 196,1,24,.sl [] .full,none⟩,
 aap,
 aap,
 aap,
 aap,
 ⟨.ptr 67,1,8,.v (.pointer none),none⟩,
 aap,
 aap,
 ⟨.slice 215,1,24,.sl [] .full,none⟩,
 ⟨.slice 205,1,24,.sl [] .full,none⟩,
 ⟨.strct [(0,9),(1,9),(2,9),(3,131),(4,132)],5,96,.agg [.s [],.s [],.s [],.sl [] .full,.sl [] .full],none⟩,
 ⟨.strct [(0,9),(1,9),(2,9),(3,131),(4,132)],5,96,.agg [.s [],.s [],.s [],.sl [] .full,.sl [] .full],none⟩,
 ⟨.other,0,0,default,none⟩,
 aap,
 aap,
 aap,
 aap,
 aap,
 aap,
 ⟨.strct [(0,3),(1,3),(2,9),(3,9),(4,9),(5,9),(6,4)],7,88,.agg [.i 0,.i 0,.s [],.s [],.s [],.s [],.b false],some (1,[.int .i64,.int .i64,.str,.str,.str,.str,.bool])⟩,
 ⟨.strct [(0,3),(1,3),(2,9),(3,9),(4,9),(5,9),(6,4)],7,88,.agg [.i 0,.i 0,.s [],.s [],.s [],.s [],.b false],some (1,[.int .i64,.int .i64,.str,.str,.str,.str,.bool])⟩,
 aap,
 ⟨.strct [(0,3),(1,9),(2,9)],3,40,.agg [.i 0,.s [],.s []],some (1,[.int .i64,.str,.str])⟩,
 ⟨.strct [(0,3),(1,9),(2,9)],3,40,.agg [.i 0,.s [],.s []],some (1,[.int .i64,.str,.str])⟩,
 aap,
 ⟨.strct [(0,9),(1,9)],2,32,.agg [.s [],.s []],some (1,[.str,.str])⟩,
 ⟨.strct [(0,9),(1,9)],2,32,.agg [.s [],.s []],some (1,[.str,.str])⟩,
 aap,
 aap,
 aap,
 ⟨.int .u32,1,4,.v (.int .u32 0),some (0,[.int .u32])⟩,
 aap,
 aap,
 aap,
 ⟨.strct [(0,3),(1,3),(2,9)],3,32,.agg [.i 0,.i 0,.s []],some (1,[.int .i64,.int .i64,.str])⟩,
 ⟨.strct [(0,3),(1,3),(2,9)],3,32,.agg [.i 0,.i 0,.s []],some (1,[.int .i64,.int .i64,.str])⟩,
 aap,
 aap,
 ⟨.other,0,0,default,none⟩,
 aap,
 aap,
 aap,
 ⟨.other,0,0,default,none⟩,
 aap,
 aap,
 ⟨.other,0,0,default,none⟩,
 aap,
 aap,
 aap,
 ⟨.strct [(0,22),(1,38),(2,4)],3,40,.agg [.v (.pointer none),.sl [] .full,.b false],none⟩,
 ⟨.strct [(0,22),(1,38),(2,4)],3,40,.agg [.v (.pointer none),.sl [] .full,.b false],none⟩,
 aap,
 ⟨.strct [(0,41),(1,3),(2,4)],3,40,.agg [.sl [] .full,.i 0,.b false],none⟩,
 ⟨.strct [(0,41),(1,3),(2,4)],3,40,.agg [.sl [] .full,.i 0,.b false],none⟩,
 aap,
 ⟨.slice 186,1,24,.sl [] .full,none⟩,
 ⟨.other,0,0,default,none⟩,
 aap,
 ⟨.ptr 183,1,8,.v (.pointer none),none⟩,
 ⟨.strct [(0,178),(1,3),(2,3),(3,23),(4,3)],5,56,.agg [.sl [] .full,.i 0,.i 0,.i 0,.i 0],none⟩,
 ⟨.strct [(0,178),(1,3),(2,3),(3,23),(4,3)],5,56,.agg [.sl [] .full,.i 0,.i 0,.i 0,.i 0],none⟩,
 aap,
 ⟨.strct [(0,3),(1,3),(2,3),(3,9)],4,40,.agg [.i 0,.i 0,.i 0,.s []],some (1,[.int .i64,.int .i64,.int .i64,.str])⟩,
 ⟨.strct [(0,3),(1,3),(2,3),(3,9)],4,40,.agg [.i 0,.i 0,.i 0,.s []],some (1,[.int .i64,.int .i64,.int .i64,.str])⟩,
 aap,
 aap,
 aap,
 ⟨.other,0,0,default,none⟩,
 aap,
 aap,
 ⟨.slice 30,1,24,.sl [] .full,none⟩,
 aap,
 ⟨.strct [(0,3),(1,9),(2,193)],3,48,.agg [.i 0,.s [],.sl [] .full],none⟩,
 ⟨.strct [(0,3),(1,9),(2,193)],3,48,.agg [.i 0,.s [],.sl [] .full],none⟩,
 aap,
 aap,
 aap,
 aap,
 aap,
 aap,
 aap,
 ⟨.strct [(0,3),(1,9),(2,9)],3,40,.agg [.i 0,.s [],.s []],some (1,[.int .i64,.str,.str])⟩,
 ⟨.strct [(0,3),(1,9),(2,9)],3,40,.agg [.i 0,.s [],.s []],some (1,[.int .i64,.str,.str])⟩,
 aap,
 ⟨.ptr 134,1,8,.v (.pointer none),none⟩,
 aap,
 aap,
 aap,
 aap,
 aap,
 aap,
 ⟨.strct [(0,9),(1,30)],4,48,.agg [.s [],.i 0,.i 0,.s []],some (2,[.str,.int .i64,.int .i64,.str])⟩,
 ⟨.strct [(0,9),(1,30)],4,48,.agg [.s [],.i 0,.i 0,.s []],some (2,[.str,.int .i64,.int .i64,.str])⟩,
 aap,
 aap,
 aap,
 aap,
 aap,
 aap,
 ⟨.slice 229,1,24,.sl [] .full,none⟩,
 ⟨.strct [(0,9),(1,4),(2,60),(3,222),(4,63)],5,96,.agg [.s [],.b false,.sl [] .full,.sl [] .full,.sl [] .full],none⟩,
 ⟨.strct [(0,9),(1,4),(2,60),(3,222),(4,63)],5,96,.agg [.s [],.b false,.sl [] .full,.sl [] .full,.sl [] .full],none⟩,
 aap,
 ⟨.strct [(0,3),(1,9),(2,4)],3,32,.agg [.i 0,.s [],.b false],some (1,[.int .i64,.str,.bool])⟩,
 ⟨.strct [(0,3),(1,9),(2,4)],3,32,.agg [.i 0,.s [],.b false],some (1,[.int .i64,.str,.bool])⟩,
 ⟨.strct [(0,3),(1,30),(4,227)],7,72,.agg [.i 0,.i 0,.i 0,.s [],.i 0,.s [],.b false],some (2,[.int .i64,.int .i64,.int .i64,.str,.int .i64,.str,.bool])⟩,
 ⟨.strct [(0,3),(1,30),(4,227)],7,72,.agg [.i 0,.i 0,.i 0,.s [],.i 0,.s [],.b false],some (2,[.int .i64,.int .i64,.int .i64,.str,.int .i64,.str,.bool])⟩,
 aap,
 ⟨.other,0,0,default,none⟩,
 aap,
 ⟨.iface,1,16,.v .nilIface,none⟩,
 ⟨.iface,1,16,.v .nilIface,none⟩,
 ⟨.other,0,0,default,none⟩,
 aap,
 aap,
 aap,
 ⟨.other,0,0,default,none⟩,
 aap,
 ⟨.other,0,0,default,none⟩,
 aap,
 ⟨.other,0,0,default,none⟩,
 aap,
 aap,
 aap,
 aap,
 aap,
 aap,
 aap,
 aap,
 ⟨.ptr 255,1,8,.v (.pointer none),none⟩,
 ⟨.map 9 355,1,8,.v (.map none),none⟩,
 ⟨.strct [(0,253),(1,3)],2,16,.agg [.v (.map none),.i 0],none⟩,
 ⟨.strct [(0,253),(1,3)],2,16,.agg [.v (.map none),.i 0],none⟩,
 aap,
 aap,
 aap,
 aap,
 ⟨.slice 3,1,24,.sl [] .full,none⟩,
 aap,
 aap,
 aap,
 aap,
 aap,
 aap,
 aap,
 aap,
 aap,
 ⟨.slice 274,1,24,.sl [] .full,none⟩,
 aap,
 ⟨.strct [(0,227),(3,3),(4,30)],7,72,.agg [.i 0,.s [],.b false,.i 0,.i 0,.i 0,.s []],some (2,[.int .i64,.str,.bool,.int .i64,.int .i64,.int .i64,.str])⟩,
 ⟨.strct [(0,227),(3,3),(4,30)],7,72,.agg [.i 0,.s [],.b false,.i 0,.i 0,.i 0,.s []],some (2,[.int .i64,.str,.bool,.int .i64,.int .i64,.int .i64,.str])⟩,
 ⟨.slice 273,1,24,.sl [] .full,none⟩,
 aap,
 ⟨.ptr 278,1,8,.v (.pointer none),none⟩,
 ⟨.strct [(0,276),(1,41)],2,32,.agg [.v (.pointer none),.sl [] .full],none⟩,
 ⟨.strct [(0,276),(1,41)],2,32,.agg [.v (.pointer none),.sl [] .full],none⟩,
 aap,
 aap,
 aap,
 ⟨.other,0,0,default,none⟩,
 aap,
 aap,
 aap,
 aap,
 aap,
 aap,
 aap,
 aap,
 aap,
 ⟨.slice 119,1,24,.sl [] .full,none⟩,
 aap,
 aap,
 ⟨.other,0,0,default,none⟩,
 aap,
 aap,
 aap,
 aap,
 aap,
 aap,
 aap,
 aap,
 aap,
 aap,
 aap,
 aap,
 ⟨.int .i64,1,8,.i 0,some (0,[.int .i64])⟩,
 ⟨.other,0,0,default,none⟩,
 aap,
 ⟨.ptr 347,1,8,.v (.pointer none),none⟩,
 aap,
 aap,
 ⟨.ptr 5,1,8,.v (.pointer none),none⟩,
 aap,
 ⟨.other,0,0,default,none⟩,
 aap,
 aap,
 aap,
 aap,
 aap,
 aap,
 aap,
 aap,
 aap,
 ⟨.slice 34,1,24,.sl [] .full,none⟩,
 ⟨.other,0,0,default,none⟩,
 aap,
 aap,
 aap,
 ⟨.other,0,0,default,none⟩,
 aap,
 ⟨.other,0,0,default,none⟩,
 aap,
 aap,
 aap,
 aap,
 ⟨.arr 24 5,24,24,.agg [.v (.int .u8 0),.v (.int .u8 0),.v (.int .u8 0),.v (.int .u8 0),.v (.int .u8 0),.v (.int .u8 0),.v (.int .u8 0),.v (.int .u8 0),.v (.int .u8 0),.v (.int .u8 0),.v (.int .u8 0),.v (.int .u8 0),.v (.int .u8 0),.v (.int .u8 0),.v (.int .u8 0),.v (.int .u8 0),.v (.int .u8 0),.v (.int .u8 0),.v (.int .u8 0),.v (.int .u8 0),.v (.int .u8 0),.v (.int .u8 0),.v (.int .u8 0),.v (.int .u8 0)],some (1,[.int .u8,.int .u8,.int .u8,.int .u8,.int .u8,.int .u8,.int .u8,.int .u8,.int .u8,.int .u8,.int .u8,.int .u8,.int .u8,.int .u8,.int .u8,.int .u8,.int .u8,.int .u8,.int .u8,.int .u8,.int .u8,.int .u8,.int .u8,.int .u8])⟩,
 aap,
 aap,
 ⟨.other,0,0,default,none⟩,
 aap,
 aap,
 ⟨.other,0,0,default,none⟩,
 aap,
 ⟨.strct [(0,9),(1,9),(2,234)],3,48,.agg [.s [],.s [],.v .nilIface],none⟩,
 ⟨.strct [(0,9),(1,9),(2,234)],3,48,.agg [.s [],.s [],.v .nilIface],none⟩,
 aap,
 ⟨.other,1,8,.v (.pointer none),none⟩,
 aap,
 aap,
 aap,
 ⟨.other,0,0,default,none⟩,
 aap,
 ⟨.strct [],0,0,default,none⟩,
 ⟨.other,0,0,default,none⟩,
 aap,
 ⟨.slice 4,1,24,.sl [] .full,none⟩,
 ⟨.other,0,0,default,none⟩,
 aap,
 ⟨.other,0,0,default,none⟩,
 aap,
 ⟨.strct [(0,193),(1,30),(4,23)],5,64,.agg [.sl [] .full,.i 0,.i 0,.s [],.i 0],none⟩,
 ⟨.strct [(0,193),(1,30),(4,23)],5,64,.agg [.sl [] .full,.i 0,.i 0,.s [],.i 0],none⟩,
 aap,
 aap,
 aap,
 aap,
 aap,
 aap,
 aap,
 aap,
 aap,
 ⟨.arr 20 43,20,160,.agg [.v (.int .u64 0),.v (.int .u64 0),.v (.int .u64 0),.v (.int .u64 0),.v (.int .u64 0),.v (.int .u64 0),.v (.int .u64 0),.v (.int .u64 0),.v (.int .u64 0),.v (.int .u64 0),.v (.int .u64 0),.v (.int .u64 0),.v (.int .u64 0),.v (.int .u64 0),.v (.int .u64 0),.v (.int .u64 0),.v (.int .u64 0),.v (.int .u64 0),.v (.int .u64 0),.v (.int .u64 0)],some (1,[.int .u64,.int .u64,.int .u64,.int .u64,.int .u64,.int .u64,.int .u64,.int .u64,.int .u64,.int .u64,.int .u64,.int .u64,.int .u64,.int .u64,.int .u64,.int .u64,.int .u64,.int .u64,.int .u64,.int .u64])⟩,
 ⟨.arr 65 5,65,65,.agg [.v (.int .u8 0),.v (.int .u8 0),.v (.int .u8 0),.v (.int .u8 0),.v (.int .u8 0),.v (.int .u8 0),.v (.int .u8 0),.v (.int .u8 0),.v (.int .u8 0),.v (.int .u8 0),.v (.int .u8 0),.v (.int .u8 0),.v (.int .u8 0),.v (.int .u8 0),.v (.int .u8 0),.v (.int .u8 0),.v (.int .u8 0),.v (.int .u8 0),.v (.int .u8 0),.v (.int .u8 0),.v (.int .u8 0),.v (.int .u8 0),.v (.int .u8 0),.v (.int .u8 0),.v (.int .u8 0),.v (.int .u8 0),.v (.int .u8 0),.v (.int .u8 0),.v (.int .u8 0),.v (.int .u8 0),.v (.int .u8 0),.v (.int .u8 0),.v (.int .u8 0),.v (.int .u8 0),.v (.int .u8 0),.v (.int .u8 0),.v (.int .u8 0),.v (.int .u8 0),.v (.int .u8 0),.v (.int .u8 0),.v (.int .u8 0),.v (.int .u8 0),.v (.int .u8 0),.v (.int .u8 0),.v (.int .u8 0),.v (.int .u8 0),.v (.int .u8 0),.v (.int .u8 0),.v (.int .u8 0),.v (.int .u8 0),.v (.int .u8 0),.v (.int .u8 0),.v (.int .u8 0),.v (.int .u8 0),.v (.int .u8 0),.v (.int .u8 0),.v (.int .u8 0),.v (.int .u8 0),.v (.int .u8 0),.v (.int .u8 0),.v (.int .u8 0),.v (.int .u8 0),.v (.int .u8 0),.v (.int .u8 0),.v (.int .u8 0)],none⟩,
 aap,
 ⟨.other,0,0,default,none⟩,
 aap,
 aap,
 ⟨.ptr 382,1,8,.v (.pointer none),none⟩,
 ⟨.strct [(0,9)],1,16,.agg [.s []],some (1,[.str])⟩,
 ⟨.strct [(0,9)],1,16,.agg [.s []],some (1,[.str])⟩,
 aap,
 aap,
 ⟨.other,0,0,default,none⟩,
 aap,
 aap,
 aap,
 aap,
 ⟨.slice 364,1,24,.sl [] .full,none⟩,
 aap,
 ⟨.other,0,0,default,none⟩,
 ⟨.other,0,0,default,none⟩,
 aap,
 aap,
 aap,
 aap,
 aap,
 aap,
 aap,
 aap,
 aap,
 aap,
 aap,
 aap,
 aap,
 aap,
 aap,
 ⟨.arr 32 5,32,32,.agg [.v (.int .u8 0),.v (.int .u8 0),.v (.int .u8 0),.v (.int .u8 0),.v (.int .u8 0),.v (.int .u8 0),.v (.int .u8 0),.v (.int .u8 0),.v (.int .u8 0),.v (.int .u8 0),.v (.int .u8 0),.v (.int .u8 0),.v (.int .u8 0),.v (.int .u8 0),.v (.int .u8 0),.v (.int .u8 0),.v (.int .u8 0),.v (.int .u8 0),.v (.int .u8 0),.v (.int .u8 0),.v (.int .u8 0),.v (.int .u8 0),.v (.int .u8 0),.v (.int .u8 0),.v (.int .u8 0),.v (.int .u8 0),.v (.int .u8 0),.v (.int .u8 0),.v (.int .u8 0),.v (.int .u8 0),.v (.int .u8 0),.v (.int .u8 0)],some (1,[.int .u8,.int .u8,.int .u8,.int .u8,.int .u8,.int .u8,.int .u8,.int .u8,.int .u8,.int .u8,.int .u8,.int .u8,.int .u8,.int .u8,.int .u8,.int .u8,.int .u8,.int .u8,.int .u8,.int .u8,.int .u8,.int .u8,.int .u8,.int .u8,.int .u8,.int .u8,.int .u8,.int .u8,.int .u8,.int .u8,.int .u8,.int .u8])⟩,
 ⟨.arr 64 5,64,64,.agg [.v (.int .u8 0),.v (.int .u8 0),.v (.int .u8 0),.v (.int .u8 0),.v (.int .u8 0),.v (.int .u8 0),.v (.int .u8 0),.v (.int .u8 0),.v (.int .u8 0),.v (.int .u8 0),.v (.int .u8 0),.v (.int .u8 0),.v (.int .u8 0),.v (.int .u8 0),.v (.int .u8 0),.v (.int .u8 0),.v (.int .u8 0),.v (.int .u8 0),.v (.int .u8 0),.v (.int .u8 0),.v (.int .u8 0),.v (.int .u8 0),.v (.int .u8 0),.v (.int .u8 0),.v (.int .u8 0),.v (.int .u8 0),.v (.int .u8 0),.v (.int .u8 0),.v (.int .u8 0),.v (.int .u8 0),.v (.int .u8 0),.v (.int .u8 0),.v (.int .u8 0),.v (.int .u8 0),.v (.int .u8 0),.v (.int .u8 0),.v (.int .u8 0),.v (.int .u8 0),.v (.int .u8 0),.v (.int .u8 0),.v (.int .u8 0),.v (.int .u8 0),.v (.int .u8 0),.v (.int .u8 0),.v (.int .u8 0),.v (.int .u8 0),.v (.int .u8 0),.v (.int .u8 0),.v (.int .u8 0),.v (.int .u8 0),.v (.int .u8 0),.v (.int .u8 0),.v (.int .u8 0),.v (.int .u8 0),.v (.int .u8 0),.v (.int .u8 0),.v (.int .u8 0),.v (.int .u8 0),.v (.int .u8 0),.v (.int .u8 0),.v (.int .u8 0),.v (.int .u8 0),.v (.int .u8 0),.v (.int .u8 0)],none⟩,
 aap,
 aap,
 aap,
 aap,
 ⟨.other,0,0,default,none⟩,
 ⟨.strct [(0,17),(1,17),(2,17),(3,9)],4,40,.agg [.v (.pointer none),.v (.pointer none),.v (.pointer none),.s []],none⟩,
 ⟨.strct [(0,17),(1,17),(2,17),(3,9)],4,40,.agg [.v (.pointer none),.v (.pointer none),.v (.pointer none),.s []],none⟩,
 ⟨.arr 0 16,0,0,default,none⟩,
 ⟨.other,0,0,default,none⟩,
 ⟨.other,0,0,default,none⟩,
 ⟨.int .u8,1,1,.v (.int .u8 0),some (0,[.int .u8])⟩,
 ⟨.int .u8,1,1,.v (.int .u8 0),some (0,[.int .u8])⟩,
 aap,
 ⟨.int .i32,1,4,.v (.int .i32 0),some (0,[.int .i32])⟩,
 ⟨.int .i32,1,4,.v (.int .i32 0),some (0,[.int .i32])⟩,
 ⟨.strct [(0,12),(1,12),(2,153),(3,421),(4,5),(5,5),(6,422),(7,423),(8,314),(9,424),(10,425)],11,48,.agg [.v (.int .u64 0),.v (.int .u64 0),.v (.int .u32 0),.v (.int .u8 0),.v (.int .u8 0),.v (.int .u8 0),.v (.int .u8 0),.v .nilFunc,.v (.pointer none),.v (.int .i32 0),.v (.int .i32 0)],none⟩,
 ⟨.strct [(0,12),(1,12),(2,153),(3,421),(4,5),(5,5),(6,422),(7,423),(8,314),(9,424),(10,425)],11,48,.agg [.v (.int .u64 0),.v (.int .u64 0),.v (.int .u32 0),.v (.int .u8 0),.v (.int .u8 0),.v (.int .u8 0),.v (.int .u8 0),.v .nilFunc,.v (.pointer none),.v (.int .i32 0),.v (.int .i32 0)],none⟩]
def U(t:TypeId):TI:=K0.getD t ⟨.other,0,0,default,none⟩
@[go_sem] theorem U3k:(U 3).k= .int .i64∧(U 3).sz=1∧(U 3).bytes=8∧(U 3).zero= .i 0:=⟨rfl,rfl,rfl,rfl⟩
@[go_sem] theorem U4k:(U 4).k= .bool∧(U 4).sz=1∧(U 4).bytes=1∧(U 4).zero= .b false:=⟨rfl,rfl,rfl,rfl⟩
@[go_sem] theorem U5k:(U 5).k= .int .u8∧(U 5).sz=1∧(U 5).bytes=1∧(U 5).zero= .v (.int .u8 0):=⟨rfl,rfl,rfl,rfl⟩
@[go_sem] theorem U9k:(U 9).k= .str∧(U 9).sz=1∧(U 9).bytes=16∧(U 9).zero= .s []:=⟨rfl,rfl,rfl,rfl⟩
@[go_sem] theorem Yv:(U 22).k= .ptr 96∧(U 22).sz=1∧(U 22).bytes=8∧(U 22).zero= .v (.pointer none):=⟨rfl,rfl,rfl,rfl⟩
@[go_sem] theorem Yz:(U 23).k= .int .i64∧(U 23).sz=1∧(U 23).bytes=8∧(U 23).zero= .i 0:=⟨rfl,rfl,rfl,rfl⟩
@[go_sem] theorem YE:(U 26).k= .ptr 101∧(U 26).sz=1∧(U 26).bytes=8∧(U 26).zero= .v (.pointer none):=⟨rfl,rfl,rfl,rfl⟩
@[go_sem] theorem YJ:(U 30).k= .strct [(0,3),(1,3),(2,9)]∧(U 30).sz=3∧(U 30).bytes=32∧(U 30).zero= .agg [.i 0,.i 0,.s []]∧(U 30).eq=some (1,[.int .i64,.int .i64,.str]):=⟨rfl,rfl,rfl,rfl,rfl⟩
@[go_sem] theorem YO:(U 32).k= .strct [(0,3),(1,9),(2,9),(3,9),(4,9),(5,30),(8,3),(9,9),(10,9),(11,4)]∧(U 32).sz=12∧(U 32).bytes=152∧(U 32).zero= .agg [.i 0,.s [],.s [],.s [],.s [],.i 0,.i 0,.s [],.i 0,.s [],.s [],.b false]∧(U 32).eq=some (2,[.int .i64,.str,.str,.str,.str,.int .i64,.int .i64,.str,.int .i64,.str,.str,.bool]):=⟨rfl,rfl,rfl,rfl,rfl⟩
@[go_sem] theorem YT:(U 34).k= .cplx .f64∧(U 34).sz=1∧(U 34).bytes=16∧(U 34).zero= .v (.complex .f64 0 0):=⟨rfl,rfl,rfl,rfl⟩
@[go_sem] theorem YY:(U 36).k= .strct [(0,23),(1,34),(2,4),(3,30),(6,4),(7,3)]∧(U 36).sz=8∧(U 36).bytes=80∧(U 36).zero= .agg [.i 0,.v (.complex .f64 0 0),.b false,.i 0,.i 0,.s [],.b false,.i 0]∧(U 36).eq=some (2,[.int .i64,.cplx .f64,.bool,.int .i64,.int .i64,.str,.bool,.int .i64]):=⟨rfl,rfl,rfl,rfl,rfl⟩
@[go_sem] theorem Y2:(U 38).k= .slice 41∧(U 38).sz=1∧(U 38).bytes=24∧(U 38).zero= .sl [] .full:=⟨rfl,rfl,rfl,rfl⟩
@[go_sem] theorem Y6:(U 41).k= .slice 5∧(U 41).sz=1∧(U 41).bytes=24∧(U 41).zero= .sl [] .full:=⟨rfl,rfl,rfl,rfl⟩
@[go_sem] theorem Za:(U 43).k= .int .u64∧(U 43).sz=1∧(U 43).bytes=8∧(U 43).zero= .v (.int .u64 0):=⟨rfl,rfl,rfl,rfl⟩
@[go_sem] theorem Ze:(U 55).k= .slice 134∧(U 55).sz=1∧(U 55).bytes=24∧(U 55).zero= .sl [] .full:=⟨rfl,rfl,rfl,rfl⟩
@[go_sem] theorem Zi:(U 56).k= .slice 143∧(U 56).sz=1∧(U 56).bytes=24∧(U 56).zero= .sl [] .full:=⟨rfl,rfl,rfl,rfl⟩
@[go_sem] theorem Zm:(U 57).k= .slice 146∧(U 57).sz=1∧(U 57).bytes=24∧(U 57).zero= .sl [] .full:=⟨rfl,rfl,rfl,rfl⟩
@[go_sem] theorem Zq:(U 58).k= .slice 149∧(U 58).sz=1∧(U 58).bytes=24∧(U 58).zero= .sl [] .full:=⟨rfl,rfl,rfl,rfl⟩
@[go_sem] theorem Zu:(U 60).k= .slice 270∧(U 60).sz=1∧(U 60).bytes=24∧(U 60).zero= .sl [] .full:=⟨rfl,rfl,rfl,rfl⟩
@[go_sem] theorem Zy:(U 61).k= .slice 224∧(U 61).sz=1∧(U 61).bytes=24∧(U 61).zero= .sl [] .full:=⟨rfl,rfl,rfl,rfl⟩
@[go_sem] theorem ZC:(U 62).k= .slice 65∧(U 62).sz=1∧(U 62).bytes=24∧(U 62).zero= .sl [] .full:=⟨rfl,rfl,rfl,rfl⟩
@[go_sem] theorem ZG:(U 63).k= .slice 158∧(U 63).sz=1∧(U 63).bytes=24∧(U 63).zero= .sl [] .full:=⟨rfl,rfl,rfl,rfl⟩
@[go_sem] theorem ZK:(U 65).k= .strct [(0,9),(1,4),(2,3),(3,60),(4,61),(5,62),(6,63)]∧(U 65).sz=7∧(U 65).bytes=128∧(U 65).zero= .agg [.s [],.b false,.i 0,.sl [] .full,.sl [] .full,.sl [] .full,.sl [] .full]:=⟨rfl,rfl,rfl,rfl⟩
@[go_sem] theorem ZO:(U 67).k= .strct [(0,3),(1,55),(2,56),(3,57),(4,58),(5,65),(12,3)]∧(U 67).sz=13∧(U 67).bytes=240∧(U 67).zero= .agg [.i 0,.sl [] .full,.sl [] .full,.sl [] .full,.sl [] .full,.s [],.b false,.i 0,.sl [] .full,.sl [] .full,.sl [] .full,.sl [] .full,.i 0]:=⟨rfl,rfl,rfl,rfl⟩
@[go_sem] theorem ZS:(U 71).k= .strct [(0,32),(12,3),(13,34),(14,4),(15,63)]∧(U 71).sz=16∧(U 71).bytes=208∧(U 71).zero= .agg [.i 0,.s [],.s [],.s [],.s [],.i 0,.i 0,.s [],.i 0,.s [],.s [],.b false,.i 0,.v (.complex .f64 0 0),.b false,.sl [] .full]:=⟨rfl,rfl,rfl,rfl⟩
@[go_sem] theorem ZW:(U 77).k= .slice 9∧(U 77).sz=1∧(U 77).bytes=24∧(U 77).zero= .sl [] .full:=⟨rfl,rfl,rfl,rfl⟩
@[go_sem] theorem Z0:(U 84).k= .slice 71∧(U 84).sz=1∧(U 84).bytes=24∧(U 84).zero= .sl [] .full:=⟨rfl,rfl,rfl,rfl⟩
@[go_sem] theorem Z6:(U 96).k= .strct [(0,3),(1,41),(2,3),(3,3),(4,4)]∧(U 96).sz=5∧(U 96).bytes=56∧(U 96).zero= .agg [.i 0,.sl [] .full,.i 0,.i 0,.b false]:=⟨rfl,rfl,rfl,rfl⟩
@[go_sem] theorem aaa:(U 97).k= .ptr 173∧(U 97).sz=1∧(U 97).bytes=8∧(U 97).zero= .v (.pointer none):=⟨rfl,rfl,rfl,rfl⟩
@[go_sem] theorem Vu:(U 101).k= .strct [(0,97),(1,67),(14,84),(15,43)]∧(U 101).sz=16∧(U 101).bytes=280∧(U 101).zero= .agg [.v (.pointer none),.i 0,.sl [] .full,.sl [] .full,.sl [] .full,.sl [] .full,.s [],.b false,.i 0,.sl [] .full,.sl [] .full,.sl [] .full,.sl [] .full,.i 0,.sl [] .full,.v (.int .u64 0)]:=⟨rfl,rfl,rfl,rfl⟩
@[go_sem] theorem Vy:(U 103).k= .int .u64∧(U 103).sz=1∧(U 103).bytes=8∧(U 103).zero= .v (.int .u64 0):=⟨rfl,rfl,rfl,rfl⟩
@[go_sem] theorem VC:(U 119).k= .strct [(0,34),(1,63)]∧(U 119).sz=2∧(U 119).bytes=40∧(U 119).zero= .agg [.v (.complex .f64 0 0),.sl [] .full]:=⟨rfl,rfl,rfl,rfl⟩
@[go_sem] theorem VG:(U 123).k= .slice 196∧(U 123).sz=1∧(U 123).bytes=24∧(U 123).zero= .sl [] .full:=⟨rfl,rfl,rfl,rfl⟩
@[go_sem] theorem VK:(U 131).k= .slice 215∧(U 131).sz=1∧(U 131).bytes=24∧(U 131).zero= .sl [] .full:=⟨rfl,rfl,rfl,rfl⟩
@[go_sem] theorem VO:(U 132).k= .slice 205∧(U 132).sz=1∧(U 132).bytes=24∧(U 132).zero= .sl [] .full:=⟨rfl,rfl,rfl,rfl⟩
@[go_sem] theorem VS:(U 134).k= .strct [(0,9),(1,9),(2,9),(3,131),(4,132)]∧(U 134).sz=5∧(U 134).bytes=96∧(U 134).zero= .agg [.s [],.s [],.s [],.sl [] .full,.sl [] .full]:=⟨rfl,rfl,rfl,rfl⟩
@[go_sem] theorem VW:(U 143).k= .strct [(0,3),(1,3),(2,9),(3,9),(4,9),(5,9),(6,4)]∧(U 143).sz=7∧(U 143).bytes=88∧(U 143).zero= .agg [.i 0,.i 0,.s [],.s [],.s [],.s [],.b false]:=⟨rfl,rfl,rfl,rfl⟩
@[go_sem] theorem V0:(U 146).k= .strct [(0,3),(1,9),(2,9)]∧(U 146).sz=3∧(U 146).bytes=40∧(U 146).zero= .agg [.i 0,.s [],.s []]:=⟨rfl,rfl,rfl,rfl⟩
@[go_sem] theorem V5:(U 149).k= .strct [(0,9),(1,9)]∧(U 149).sz=2∧(U 149).bytes=32∧(U 149).zero= .agg [.s [],.s []]∧(U 149).eq=some (1,[.str,.str]):=⟨rfl,rfl,rfl,rfl,rfl⟩
@[go_sem] theorem V9:(U 153).k= .int .u32∧(U 153).sz=1∧(U 153).bytes=4∧(U 153).zero= .v (.int .u32 0):=⟨rfl,rfl,rfl,rfl⟩
@[go_sem] theorem Wd:(U 158).k= .strct [(0,3),(1,3),(2,9)]∧(U 158).sz=3∧(U 158).bytes=32∧(U 158).zero= .agg [.i 0,.i 0,.s []]:=⟨rfl,rfl,rfl,rfl⟩
@[go_sem] theorem Wi:(U 173).k= .strct [(0,22),(1,38),(2,4)]∧(U 173).sz=3∧(U 173).bytes=40∧(U 173).zero= .agg [.v (.pointer none),.sl [] .full,.b false]:=⟨rfl,rfl,rfl,rfl⟩
@[go_sem] theorem Wm:(U 176).k= .strct [(0,41),(1,3),(2,4)]∧(U 176).sz=3∧(U 176).bytes=40∧(U 176).zero= .agg [.sl [] .full,.i 0,.b false]:=⟨rfl,rfl,rfl,rfl⟩
@[go_sem] theorem Wq:(U 178).k= .slice 186∧(U 178).sz=1∧(U 178).bytes=24∧(U 178).zero= .sl [] .full:=⟨rfl,rfl,rfl,rfl⟩
@[go_sem] theorem Wu:(U 183).k= .strct [(0,178),(1,3),(2,3),(3,23),(4,3)]∧(U 183).sz=5∧(U 183).bytes=56∧(U 183).zero= .agg [.sl [] .full,.i 0,.i 0,.i 0,.i 0]:=⟨rfl,rfl,rfl,rfl⟩
@[go_sem] theorem Wy:(U 186).k= .strct [(0,3),(1,3),(2,3),(3,9)]∧(U 186).sz=4∧(U 186).bytes=40∧(U 186).zero= .agg [.i 0,.i 0,.i 0,.s []]:=⟨rfl,rfl,rfl,rfl⟩
@[go_sem] theorem WC:(U 193).k= .slice 30∧(U 193).sz=1∧(U 193).bytes=24∧(U 193).zero= .sl [] .full:=⟨rfl,rfl,rfl,rfl⟩
@[go_sem] theorem WH:(U 196).k= .strct [(0,3),(1,9),(2,193)]∧(U 196).sz=3∧(U 196).bytes=48∧(U 196).zero= .agg [.i 0,.s [],.sl [] .full]:=⟨rfl,rfl,rfl,rfl⟩
@[go_sem] theorem WL:(U 205).k= .strct [(0,3),(1,9),(2,9)]∧(U 205).sz=3∧(U 205).bytes=40∧(U 205).zero= .agg [.i 0,.s [],.s []]:=⟨rfl,rfl,rfl,rfl⟩
@[go_sem] theorem WQ:(U 215).k= .strct [(0,9),(1,30)]∧(U 215).sz=4∧(U 215).bytes=48∧(U 215).zero= .agg [.s [],.i 0,.i 0,.s []]:=⟨rfl,rfl,rfl,rfl⟩
@[go_sem] theorem WU:(U 222).k= .slice 229∧(U 222).sz=1∧(U 222).bytes=24∧(U 222).zero= .sl [] .full:=⟨rfl,rfl,rfl,rfl⟩
@[go_sem] theorem WY:(U 224).k= .strct [(0,9),(1,4),(2,60),(3,222),(4,63)]∧(U 224).sz=5∧(U 224).bytes=96∧(U 224).zero= .agg [.s [],.b false,.sl [] .full,.sl [] .full,.sl [] .full]:=⟨rfl,rfl,rfl,rfl⟩
@[go_sem] theorem W5:(U 227).k= .strct [(0,3),(1,9),(2,4)]∧(U 227).sz=3∧(U 227).bytes=32∧(U 227).zero= .agg [.i 0,.s [],.b false]∧(U 227).eq=some (1,[.int .i64,.str,.bool]):=⟨rfl,rfl,rfl,rfl,rfl⟩
@[go_sem] theorem W9:(U 229).k= .strct [(0,3),(1,30),(4,227)]∧(U 229).sz=7∧(U 229).bytes=72∧(U 229).zero= .agg [.i 0,.i 0,.i 0,.s [],.i 0,.s [],.b false]:=⟨rfl,rfl,rfl,rfl⟩
@[go_sem] theorem Xd:(U 253).k= .map 9 355∧(U 253).sz=1∧(U 253).bytes=8∧(U 253).zero= .v (.map none):=⟨rfl,rfl,rfl,rfl⟩
@[go_sem] theorem Xh:(U 255).k= .strct [(0,253),(1,3)]∧(U 255).sz=2∧(U 255).bytes=16∧(U 255).zero= .agg [.v (.map none),.i 0]:=⟨rfl,rfl,rfl,rfl⟩
@[go_sem] theorem Xl:(U 260).k= .slice 3∧(U 260).sz=1∧(U 260).bytes=24∧(U 260).zero= .sl [] .full:=⟨rfl,rfl,rfl,rfl⟩
@[go_sem] theorem Xp:(U 270).k= .slice 274∧(U 270).sz=1∧(U 270).bytes=24∧(U 270).zero= .sl [] .full:=⟨rfl,rfl,rfl,rfl⟩
@[go_sem] theorem Xt:(U 273).k= .strct [(0,227),(3,3),(4,30)]∧(U 273).sz=7∧(U 273).bytes=72∧(U 273).zero= .agg [.i 0,.s [],.b false,.i 0,.i 0,.i 0,.s []]:=⟨rfl,rfl,rfl,rfl⟩
@[go_sem] theorem Xx:(U 274).k= .slice 273∧(U 274).sz=1∧(U 274).bytes=24∧(U 274).zero= .sl [] .full:=⟨rfl,rfl,rfl,rfl⟩
@[go_sem] theorem XB:(U 292).k= .slice 119∧(U 292).sz=1∧(U 292).bytes=24∧(U 292).zero= .sl [] .full:=⟨rfl,rfl,rfl,rfl⟩
@[go_sem] theorem XG:(U 326).k= .slice 34∧(U 326).sz=1∧(U 326).bytes=24∧(U 326).zero= .sl [] .full:=⟨rfl,rfl,rfl,rfl⟩
@[go_sem] theorem XJ:(U 355).k= .strct []∧(U 355).sz=0:=⟨rfl,rfl⟩
@[go_sem] theorem XM:(U 358).k= .slice 4∧(U 358).sz=1∧(U 358).bytes=24∧(U 358).zero= .sl [] .full:=⟨rfl,rfl,rfl,rfl⟩
@[go_sem] theorem XQ:(U 364).k= .strct [(0,193),(1,30),(4,23)]∧(U 364).sz=5∧(U 364).bytes=64∧(U 364).zero= .agg [.sl [] .full,.i 0,.i 0,.s [],.i 0]:=⟨rfl,rfl,rfl,rfl⟩
@[go_sem] theorem XU:(U 390).k= .slice 364∧(U 390).sz=1∧(U 390).bytes=24∧(U 390).zero= .sl [] .full:=⟨rfl,rfl,rfl,rfl⟩
theorem hU:∀t,aN Tryz.prog U t:=Gr 428 aav fun t ht=>by
 unfold U;rw[List.getD_eq_getElem?_getD,List.getElem?_eq_none (show K0.length≤t from ht)]
 rfl
theorem hm:Tryz.prog.follows .mixedOrders=true:=aav
end Go.Proofs.YtcochaoekecfdaaGreatDoor
namespace Go.Proofs.YtcochaoekecfdaaGreatDoor
open Go Go.Ab Go.Bf
theorem aaq {f:FuncId} {fn:Func} {c:Code} {args:List AV} {h:Heap} {Q:AV→Heap→Prop} (hf:Tryz.prog.funcs[f]? =some fn) (m:Nat) (rs:List ResultVar) (hk:(∀x∈args,wfA x)→bC Tryz.prog U m c (wR args) h (uJ U rs Q)) (hb:fn.body=some c:=by exact rfl) (hn:(fn.name=="runtime.NumGoroutine")=false:=by kernel_rfl) (h1:fn.ntmps=m:=by exact rfl) (h2:fn.results.toList=rs:=by exact rfl) (hl:args.length≤m:=by exact Nat.le_of_ble_eq_true rfl):ai Tryz.prog f args h Q:=ai.body hU hm hf hb hn m h1 rs h2 hl hk
theorem nU(l:Txt)(h:Heap):ai Tryz.prog 51 [.s l] h fun r h' =>r= .b (bk l)∧h' =h:=by
 refine aaq Tryz.func51 49 [.tmp 2] fun hwf=> ?_
 simp only[go_sem];refine .intro (fun m ρ h' =>h' =h∧∃i:Nat,i≤l.length∧m=l.length - i∧uL (l.take i)=true∧lk ρ 0=some (.s l)∧lk ρ 8=some (.i l.length)∧lk ρ 9=some (.i i)) l.length ?_ ?_
 ·refine⟨rfl,0,aar,rfl,rfl, ?_, ?_, ?_⟩<;>simp only[go_sem]
 ·rintro m ρ h' ⟨rfl,i,hi,rfl,hc,r0,r8,r9⟩
  simp only[go_sem,r8,r9];refine .intro (fun e=> ?_) (fun e=> ?_)
  ·have hlt:i<l.length:=aao e
   have w1:IntKind.i64.wrap ((i:Int)+1)=((i+1:Nat):Int):=by rw[bg _ (by have:=hwf (.s l) aaz;simp only[wfA,wf1,lim]at this;omega)];omega
   have w0:IntKind.i64.wrap (0+1)=1:=rfl;have hb:=GD l i hlt;have hg:=DI l i hlt;rw[hc]at hg;have hcl:=LO l[i];have h255:=l[i].toNat_lt;simp only[go_sem,r0,r9];refine .at i hlt ?_;generalize hcc:l[i]=c at hb hg hcl h255⊢
   by_cases hi0:i=0
   ·subst hi0
    rcases hcl with⟨a1,a2,a3,a4,a5⟩|⟨a1,a2,a3,a4,a5⟩|⟨a1,a2,a3,a4,a5⟩|⟨a1,a2,a3,a4,a5⟩|⟨a1,a2,a3,a4,a5⟩|⟨a1,a2,a3,a4,a5⟩
    ·simp only[go_sem,r9,a1,a2,a3,a4,a5,w0]
     refine⟨_, ?_,rfl,0+1,aar,rfl,by simp[hg,rT,ltr,a1,a2], ?_, ?_, ?_⟩
     ·omega
     all_goals simp only[go_sem,r0,r8]
    all_goals
     simp only[go_sem,a1,a2,a3,a4,a5];exact .same (.refl _) ⟨by simp[bk,hb (by simp[rT,ltr,a1,a2]),au],rfl⟩
   ·have hin:((i:Int)==0)=false:=by simp;omega
    rcases hcl with⟨a1,a2,a3,a4,a5⟩|⟨a1,a2,a3,a4,a5⟩|⟨a1,a2,a3,a4,a5⟩|⟨a1,a2,a3,a4,a5⟩|⟨a1,a2,a3,a4,a5⟩|⟨a1,a2,a3,a4,a5⟩
    ·simp only[go_sem,r9,a1,a2,a3,a4,a5,w1]
     exact ae5
    ·simp only[go_sem,r9,a1,a3,a4,w1,hin]
     exact ae5
    ·simp only[go_sem,r9,a1,a3,a4,a5,w1,hin]
     exact ae5
    ·simp only[go_sem,a1,a3,a5,hin]
     exact .same (.refl _) ⟨abZ,rfl⟩
    ·simp only[go_sem,a1,a3,a4,a5,hin]
     exact .same (.refl _) ⟨abZ,rfl⟩
    ·simp only[go_sem,a1,a2,a3,a4,a5,hin]
     exact .same (.refl _) ⟨abZ,rfl⟩
  ·have hge:i=l.length:=by have:=aak e;omega
   subst hge;rw[List.take_length]at hc
   by_cases h0:l= []
   ·subst h0
    have b0:((([]:Txt)== [])=true):=rfl;simp only[go_sem,r0,b0];exact aaD
   ·have b0:(l== [])=false:=by simpa using h0
    have hp:1≤l.length:=List.length_pos_iff.2 h0;simp only[go_sem,r0,b0];exact .same (.refl _) ⟨by simp[bk,hc,au,hp];omega,rfl⟩
theorem Fj(a:oT)(h:Heap):ai Tryz.prog 316 [BI a] h fun r h' =>r= .b (oZ a)∧h' =h:=by
 refine aaq Tryz.func316 16 [.tmp 2] fun hwf=> ?_
 simp only[go_sem,BI];intro id hid;cases d1:decide (1≤a.cat)
 ·simp only[go_sem,d1]
  exact afD
 cases d2:decide (a.cat≤4)
 ·simp only[go_sem,d1,d2]
  exact afD
 simp only[go_sem,d1,d2];refine(nU _ _).pthen ?_;simp only[go_sem];exact afD
theorem fT(v:bw)(h:Heap):ai Tryz.prog 54 [aQ v] h fun r h' =>r= .b (bF v)∧h' =h:=by
 refine aaq Tryz.func54 61 [.tmp 2] fun hwf=> ?_
 simp only[go_sem,aQ];intro id hid;cases k1:(v.kind==1)
 case true=>
  have e1:v.kind=1:=aas;cases d1:(v.n==0)<;>cases d2:(v.n==1)
  ·simp only[go_sem,k1,d1,d2]
   exact .mk _ (.refl _) (.aj hid) ⟨adK,rfl⟩
  all_goals
   simp only[go_sem,k1,d1,d2];exact .mk _ (.refl _) (.aj hid) ⟨adK,rfl⟩
 have n1:v.kind≠1:=aas;cases k2:(v.kind==2)
 case true=>
  have e1:v.kind=2:=aas;simp only[go_sem,k1,k2];exact .mk _ (.refl _) (.aj hid) ⟨adK,rfl⟩
 have n2:v.kind≠2:=aas;cases k3:(v.kind==3)
 case true=>
  have e1:v.kind=3:=aas;cases d1:(v.n==0)
  all_goals
   simp only[go_sem,k1,k2,k3,d1];exact .mk _ (.refl _) (.aj hid) ⟨by simp[bF,e1,d1,au]<;>omega,rfl⟩
 have n3:v.kind≠3:=aas;cases k4:(v.kind==4)
 case true=>
  have e1:v.kind=4:=aas;cases d1:decide (0≤v.n)<;>cases d2:decide (v.n≤1099511627776)
  all_goals
   simp only[go_sem,k1,k2,k3,k4,d1,d2];exact .mk _ (.refl _) (.aj hid) ⟨adK,rfl⟩
 have n4:v.kind≠4:=aas;cases k5:(v.kind==5)
 case true=>
  have e1:v.kind=5:=aas;cases d1:(v.n==0)
  ·simp only[go_sem,k1,k2,k3,k4,k5,d1]
   exact .mk _ (.refl _) (.aj hid) ⟨adK,rfl⟩
  ·simp only[go_sem,k1,k2,k3,k4,k5,d1]
   refine(nU _ _).pthen ?_;simp only[go_sem];exact .mk _ (.refl _) (.aj hid) ⟨adK,rfl⟩
 have n5:v.kind≠5:=aas;simp only[go_sem,k1,k2,k3,k4,k5];exact .mk _ (.refl _) (.aj hid) ⟨adK,rfl⟩
theorem J3(m:bM)(h:Heap):ai Tryz.prog 315 [dz m] h fun r h' =>r= .b (jX m)∧h' =h:=by
 refine aaq Tryz.func315 21 [.tmp 2] fun hwf=> ?_
 simp only[go_sem,dz];intro id hid;simp only[go_sem];refine(Fj m.attr _).pthen ?_;cases d0:oZ m.attr
 ·simp only[go_sem]
  exact afg
 cases d1:decide (1≤m.op)
 ·simp only[go_sem,d1]
  exact afg
 cases d2:decide (m.op≤3)
 ·simp only[go_sem,d1,d2]
  exact afg
 simp only[go_sem,d1,d2];refine(fT m.val _).pthen ?_;simp only[go_sem];exact afg
theorem FM(n:Nat)(h:Heap):ai Tryz.prog 297 [.i n] h fun r h' =>r= .i (jG n)∧h' =h:=by
 refine aaq Tryz.func297 9 [.tmp 2] fun hwf=> ?_
 cases d1:((n:Int)==0)
 case true=>
  simp only[go_sem,d1];exact .same (.refl _) ⟨by grind [jG,au],rfl⟩
 cases d2:decide (8<(n:Int))
 ·have e2:¬n>8:=by grind
  exact afV
 ·have e2:n>8:=by grind
  exact afV
theorem CA{n:Nat}(h:jG n=0):1≤n∧n≤8:=by
 grind [jG]
theorem IZ(l:List bM)(h:Heap):ai Tryz.prog 298 [iA l] h fun r h' =>r= .i (vC l)∧h' =h:=by
 refine aaq Tryz.func298 22 [.tmp 2] fun hwf=> ?_
 simp only[go_sem,iA,aah];refine(FM _ _).pthen ?_;cases d1:(jG l.length !=0)
 case true=>
  have e1:jG l.length≠0:=aas;simp only[go_sem,d1];exact .same (.refl _) ⟨by grind [vC,au],rfl⟩
 have e1:jG l.length=0:=aas;have hlen:=CA e1;simp only[go_sem,d1,aah];refine .intro (fun m ρ h' =>Ab.Sub h h'∧∃i:Nat,i≤l.length∧m=l.length - i∧(l.take i).all jX=true∧lk ρ 12=some (iA l)∧lk ρ 13=some (.i l.length)∧lk ρ 14=some (.i i)) l.length ?_ ?_
 ·refine⟨.refl _,0,aar,rfl,rfl, ?_, ?_, ?_⟩<;>simp only[go_sem,iA]
 ·rintro m ρ h' ⟨hs,i,hi,rfl,hc,r12,r13,r14⟩
  simp only[go_sem,r13,r14];refine .intro (fun e=> ?_) (fun e=> ?_)
  ·have hlt:i<l.length:=aao e
   have w1:IntKind.i64.wrap ((i:Int)+1)=((i+1:Nat):Int):=aaE;simp only[go_sem,r12,r14,iA];refine .at i aas aaH ?_;simp only[go_sem,aai,dz];intro id hid;simp only[go_sem];refine(J3 l[i] _).pthen ?_;cases d2:jX l[i]
   ·simp only[go_sem]
    refine .mk _ (.refl _) (hs.new hid _) ⟨?_,rfl⟩;have:l.all jX=false:=List.all_eq_false.2 ⟨_,aam hlt,aas⟩;simp[vC,e1,this,au]
   ·simp only[go_sem,r14,w1]
    refine⟨_, ?_,hs.new hid _,i+1,aar,rfl, ?_, ?_, ?_, ?_⟩
    ·omega
    ·grind [List.take_succ_eq_append_getElem]
    all_goals simp only[go_sem,r12,r13,iA]
  ·have hge:i=l.length:=by grind
   subst hge;rw[List.take_length]at hc;simp only[go_sem];exact .mk _ (.refl _) hs ⟨by grind [vC,au],rfl⟩
theorem aB{h:Heap}{i j:Nat}{b:Blk}(e:upd h i (some b) j=none):h j=none:=by grind [ag,aF]
theorem K9{v:bw}(h:(v.kind==(0:Int) && (v.n==(0:Int) && v.s==([]:Txt)))=false):¬v.kind=0∨¬v.n=0∨¬v.s= []:=by
 grind
theorem K8{v:bw}(h:(v.kind==(0:Int) && (v.n==(0:Int) && v.s==([]:Txt)))=true):v.kind=0∧v.n=0∧v.s= []:=by
 grind
theorem HP(k:Int)(h:Heap):ai Tryz.prog 106 [.i k] h fun r h' =>r= .b (tZ k)∧h' =h:=by
 refine aaq Tryz.func106 9 [.tmp 2] fun hwf=> ?_
 cases d1:decide (1≤k)
 ·simp -implicitDefEqProofs only[go_sem,d1]
  exact .same (.refl _) ⟨by simp only[tZ,d1,au,Bool.false_and],rfl⟩
 ·simp -implicitDefEqProofs only[go_sem,d1]
  exact .same (.refl _) ⟨by simp_all [tZ,au,Bool.true_and],rfl⟩
theorem wP(s:Txt)(h:Heap):ai Tryz.prog 53 [.s s] h fun r h' =>r= .b (iC s)∧h' =h:=by
 refine aaq Tryz.func53 9 [.tmp 2] fun hwf=> ?_
 cases d1:(s==([]:Txt))
 ·simp -implicitDefEqProofs only[go_sem,d1]
  refine(nU s h).pthen ?_;simp -implicitDefEqProofs only[go_sem];exact .same (.refl _) ⟨by simp_all [iC,au,Bool.false_or],rfl⟩
 ·simp -implicitDefEqProofs only[go_sem,d1]
  exact .same (.refl _) ⟨by simp_all [iC,au,Bool.true_or],rfl⟩
theorem Eb(a b:Txt)(h:Heap):ai Tryz.prog 170 [.s a,.s b] h fun r h' =>r= .b (lO a b)∧h' =h:=by
 refine aaq Tryz.func170 22 [.tmp 4] fun hwf=> ?_
 cases d1:(a==jb)<;>cases d2:(a==vw)<;>cases d3:(a==zz)<;>cases d4:(b==vw)<;>simp only[jb,vw,zz]at d1 d2 d3 d4<;>simp -implicitDefEqProofs only[go_sem,d1,d2,d3,d4]<;>
  exact .same (.refl _) ⟨by simp only[lO,d1,d2,d3,d4,au,jb,vw,zz,gD,if_true,Bool.false_eq_true,if_false,Bool.true_or,Bool.false_or],rfl⟩
theorem zm(k:Int)(hk:i64 k)(h:Heap):ai Tryz.prog 100 [.i k] h fun r h' =>r= .s (jl k)∧h' =h:=by
 refine aaq Tryz.func100 18 [.tmp 2] fun hwf=> ?_
 simp -implicitDefEqProofs only[go_sem];cases d1:decide (k<1)
 case true=>
  simp -implicitDefEqProofs only[go_sem];exact .same (.refl _) ⟨by simp_all [jl,aaj,true_or,if_true,au],rfl⟩
 cases d2:decide ((7:Int)<k)
 case true=>
  simp -implicitDefEqProofs only[go_sem,d2];exact .same (.refl _) ⟨by simp_all [jl,aaj,or_true,if_true,au],rfl⟩
 have h1:=aak d1;have h2:=aak d2;obtain⟨j,rfl⟩:∃j:Nat,k=(j:Int)+1:=⟨(k - 1).toNat,aar⟩;have hj:j<7:=aar;have w1:IntKind.i64.wrap ((j:Int)+1 - 1)=(j:Int):=aaE;simp -implicitDefEqProofs only[go_sem,d2,w1];refine .at j aar (by rcases j with _|_|_|_|_|_|_|j<;>first|rfl|omega) ?_
 rcases j with _|_|_|_|_|_|_|j
 all_goals first|omega|skip
 all_goals
  simp -implicitDefEqProofs only[go_sem,List.getElem_cons_zero,List.getElem_cons_succ];exact .same (.refl _) ⟨aaG,rfl⟩
theorem H7(o:OpD)(h:Heap):ai Tryz.prog 52 [opA o] h fun r h' =>r= .v (.bool (lg o))∧h' =h:=by
 refine aaq Tryz.func52 23 [.tmp 2] fun hwf=> ?_
 simp -implicitDefEqProofs only[go_sem,opA,opC];intro id hid;cases d1:o.glass
 ·simp -implicitDefEqProofs only[go_sem]
  exact afE
 simp -implicitDefEqProofs only[go_sem];refine(HP _ _).pthen ?_;cases d2:tZ o.kind
 ·simp -implicitDefEqProofs only[go_sem]
  exact afE
 cases d3:(o.reason==([]:Txt))
 ·simp -implicitDefEqProofs only[go_sem,d3]
  exact .mk _ (.refl _) (.aj hid) ⟨by
   simp only[lg,d1,d2,d3,au,if_true,Bool.not_false,Bool.true_and]
   congr 2
   grind,rfl⟩
 ·simp -implicitDefEqProofs only[go_sem,d3]
  exact afE
theorem LJ(o:OpD)(h:Heap):ai Tryz.prog 107 [opA o] h fun r h' =>r=opA (gz o)∧h' =h:=by
 refine aaq Tryz.func107 7 [.cell 2 32] fun hwf=> ?_
 simp -implicitDefEqProofs only[go_sem,opA,opC];intro i1 h1;simp -implicitDefEqProofs only[go_sem];intro i2 h2;have hne:=aF h2;simp -implicitDefEqProofs only[go_sem,ak,hne,hne.symm];have n2:=aB h2;exact .mk _ (.refl _) (((((Sub.refl h).put h1 _).put n2 _).put h1 _).put n2 _) ⟨rfl,rfl⟩
theorem KS(o:OpD)(h:Heap):ai Tryz.prog 55 [opA o] h fun r h' =>r= .b (dD o)∧h' =h:=by
 have hb:=fun hh=>LJ o hh
 simp only[gz,opA,opC]at hb;refine aaq Tryz.func55 111 [.tmp 2] fun hwf=> ?_
 simp -implicitDefEqProofs only[go_sem,opA,opC];intro i1 h1;simp -implicitDefEqProofs only[go_sem];refine(hb _).pthen ?_;simp -implicitDefEqProofs only[go_sem];intro i3 h3;have n31:=aF h3;have n3:=aB h3;simp -implicitDefEqProofs only[go_sem,ak,n31.symm];intro i4 h4;have n43:=aF h4;have h4' :=aB h4;have n41:=aF h4';have n4:=aB h4';have bnd:o.kind≠1→o.kind≠2→o.kind≠3→o.kind≠4→o.kind≠5→o.kind≠6→o.kind≠7→o.kind≠8→(decide (1≤o.kind) && decide (o.kind≤8))=false:=by
  intro a1 a2 a3 a4 a5 a6 a7 a8;simp only[Bool.and_eq_false_iff,decide_eq_false_iff_not];omega
 by_cases k1:o.kind=1
 ·simp -implicitDefEqProofs only[go_sem,ak,n31.symm,n41.symm,k1]
  cases dcase:(o.case==([]:Txt))
  ·simp -implicitDefEqProofs only[go_sem,ak,n43.symm]
   exact .mk _ (.refl _) aax ⟨by simp[dD,okD,iu,gz,lX,ax,au,k1,decide_true,dcase,Bool.and_true,Bool.true_and,Bool.not_false],rfl⟩
  ·simp -implicitDefEqProofs only[go_sem]
   exact .mk _ (.refl _) aax ⟨by simp[dD,okD,iu,gz,lX,ax,au,k1,decide_true,dcase,Bool.and_true,Bool.true_and,Bool.false_and,Bool.and_false,Bool.not_true],rfl⟩
 by_cases k2:o.kind=2
 ·simp -implicitDefEqProofs only[go_sem,ak,n31.symm,n41.symm,k2,Int.reduceBEq]
  refine .calls (hm1 i1 _) [0,1,2,3,4,5,6,7] (.hm1 ab2) aav rfl ?_;simp -implicitDefEqProofs only[go_sem,ak,n31.symm,n41.symm];refine⟨(.hm1 aaO),(.hm1 aaO), ?_⟩;cases dcase:(o.case==([]:Txt))
  ·simp -implicitDefEqProofs only[go_sem,ak,n31.symm,n41.symm]
   cases dfield:(o.field==([]:Txt))
   ·simp -implicitDefEqProofs only[go_sem,ak,n43.symm]
    exact .mk _ (.refl _) aax ⟨by simp[dD,okD,iu,gz,lX,ax,au,k2,decide_true,dcase,dfield,Bool.and_true,Bool.true_and,Bool.not_false],rfl⟩
   ·simp -implicitDefEqProofs only[go_sem]
    exact .mk _ (.refl _) aax ⟨by simp[dD,okD,iu,gz,lX,ax,au,k2,decide_true,dcase,dfield,Bool.and_true,Bool.true_and,Bool.false_and,Bool.and_false,Bool.not_true,Bool.not_false],rfl⟩
  ·simp -implicitDefEqProofs only[go_sem]
   exact .mk _ (.refl _) aax ⟨by simp[dD,okD,iu,gz,lX,ax,au,k2,decide_true,dcase,Bool.and_true,Bool.true_and,Bool.false_and,Bool.and_false,Bool.not_true],rfl⟩
 by_cases k6:o.kind=6
 ·simp -implicitDefEqProofs only[go_sem,ak,n31.symm,n41.symm,k6,Int.reduceBEq]
  refine .calls (hm1 i1 _) [0,1,2,3,4,5,6,7] (.hm1 ab2) aav rfl ?_;simp -implicitDefEqProofs only[go_sem,ak,n31.symm,n41.symm];refine⟨(.hm1 aaO),(.hm1 aaO), ?_⟩;cases dcase:(o.case==([]:Txt))
  ·simp -implicitDefEqProofs only[go_sem,ak,n31.symm,n41.symm]
   cases dfield:(o.field==([]:Txt))
   ·simp -implicitDefEqProofs only[go_sem,ak,n43.symm]
    exact .mk _ (.refl _) aax ⟨by simp[dD,okD,iu,gz,lX,ax,au,k6,decide_true,dcase,dfield,Bool.and_true,Bool.true_and,Bool.not_false],rfl⟩
   ·simp -implicitDefEqProofs only[go_sem]
    exact .mk _ (.refl _) aax ⟨by simp[dD,okD,iu,gz,lX,ax,au,k6,decide_true,dcase,dfield,Bool.and_true,Bool.true_and,Bool.false_and,Bool.and_false,Bool.not_true,Bool.not_false],rfl⟩
  ·simp -implicitDefEqProofs only[go_sem]
   exact .mk _ (.refl _) aax ⟨by simp[dD,okD,iu,gz,lX,ax,au,k6,decide_true,dcase,Bool.and_true,Bool.true_and,Bool.false_and,Bool.and_false,Bool.not_true],rfl⟩
 by_cases k3:o.kind=3
 ·simp -implicitDefEqProofs only[go_sem,ak,n31.symm,n41.symm,k3,Int.reduceBEq]
  refine .calls (hm1 i1 _) [0,1,2,3,4,5,6,7,8,9,10,11] (.hm1 ab2) aav rfl ?_;simp -implicitDefEqProofs only[go_sem,ak,n31.symm,n41.symm];refine⟨(.hm1 aaO),(.hm1 aaO),(.hm1 aaO), ?_⟩;cases dcase:(o.case==([]:Txt))
  ·simp -implicitDefEqProofs only[go_sem,ak,n31.symm,n41.symm]
   cases dfield:(o.field==([]:Txt))
   ·simp -implicitDefEqProofs only[go_sem,ak,n31.symm,n41.symm]
    cases dval:(o.val.kind==(0:Int) && (o.val.n==(0:Int) && o.val.s==([]:Txt)))
    ·simp -implicitDefEqProofs only[go_sem,ak,n43.symm]
     exact .mk _ (.refl _) aax ⟨aaT,rfl⟩
    ·simp -implicitDefEqProofs only[go_sem]
     exact .mk _ (.refl _) aax ⟨aaT,rfl⟩
   ·simp -implicitDefEqProofs only[go_sem]
    exact .mk _ (.refl _) aax ⟨by simp[dD,okD,iu,gz,lX,eqV,ax,au,k3,decide_true,dcase,dfield,Bool.and_true,Bool.true_and,Bool.false_and,Bool.and_false,Bool.not_true,Bool.not_false],rfl⟩
  ·simp -implicitDefEqProofs only[go_sem]
   exact .mk _ (.refl _) aax ⟨by simp[dD,okD,iu,gz,lX,eqV,ax,au,k3,decide_true,dcase,Bool.and_true,Bool.true_and,Bool.false_and,Bool.and_false,Bool.not_true],rfl⟩
 by_cases k4:o.kind=4
 ·simp -implicitDefEqProofs only[go_sem,ak,n31.symm,n41.symm,k4,Int.reduceBEq]
  refine .calls (hm1 i1 _) [0,1,2,3,4,5,6,7] (.hm1 ab2) aav rfl ?_;simp -implicitDefEqProofs only[go_sem,ak,n31.symm,n41.symm];refine⟨(.hm1 aaO),(.hm1 aaO), ?_⟩;cases dcase:(o.case==([]:Txt))
  ·simp -implicitDefEqProofs only[go_sem,ak,n31.symm,n41.symm]
   cases dto:(o.to==([]:Txt))
   ·simp -implicitDefEqProofs only[go_sem,ak,n43.symm]
    exact .mk _ (.refl _) aax ⟨by simp[dD,okD,iu,gz,lX,ax,au,k4,decide_true,dcase,dto,Bool.and_true,Bool.true_and,Bool.not_false],rfl⟩
   ·simp -implicitDefEqProofs only[go_sem]
    exact .mk _ (.refl _) aax ⟨by simp[dD,okD,iu,gz,lX,ax,au,k4,decide_true,dcase,dto,Bool.and_true,Bool.true_and,Bool.false_and,Bool.and_false,Bool.not_true,Bool.not_false],rfl⟩
  ·simp -implicitDefEqProofs only[go_sem]
   exact .mk _ (.refl _) aax ⟨by simp[dD,okD,iu,gz,lX,ax,au,k4,decide_true,dcase,Bool.and_true,Bool.true_and,Bool.false_and,Bool.and_false,Bool.not_true],rfl⟩
 by_cases k5:o.kind=5
 ·simp -implicitDefEqProofs only[go_sem,ak,n31.symm,n41.symm,k5,Int.reduceBEq]
  cases drev0:decide ((0:Int)<o.review)
  ·simp -implicitDefEqProofs only[go_sem]
   exact .mk _ (.refl _) aax ⟨by simp[dD,okD,iu,gz,lX,ax,au,k5,decide_true,drev0,Bool.and_true,Bool.true_and,Bool.false_and,Bool.and_false],rfl⟩
  ·simp -implicitDefEqProofs only[go_sem,ak,n43.symm]
   exact .mk _ (.refl _) aax ⟨by simp[dD,okD,iu,gz,lX,ax,au,k5,decide_true,drev0,Bool.and_true,Bool.true_and],rfl⟩
 by_cases k7:o.kind=7
 ·simp -implicitDefEqProofs only[go_sem,ak,n31.symm,n43.symm,n41.symm,k7,Int.reduceBEq]
  exact .mk _ (.refl _) aax ⟨by simp[dD,okD,iu,gz,lX,ax,au,k7,decide_true,Bool.and_true,Bool.true_and],rfl⟩
 by_cases k8:o.kind=8
 ·simp -implicitDefEqProofs only[go_sem,ak,n31.symm,n41.symm,k8,Int.reduceBEq]
  cases drev0:decide ((0:Int)<o.review)
  ·simp -implicitDefEqProofs only[go_sem]
   exact .mk _ (.refl _) aax ⟨by simp[dD,okD,iu,gz,lX,ax,au,k8,decide_true,drev0,Bool.and_true,Bool.true_and,Bool.false_and,Bool.and_false],rfl⟩
  ·simp -implicitDefEqProofs only[go_sem,ak,n31.symm,n41.symm]
   cases drev1:decide (o.review≤(1099511627776:Int))
   ·simp -implicitDefEqProofs only[go_sem]
    exact .mk _ (.refl _) aax ⟨by simp[dD,okD,iu,gz,lX,ax,au,k8,decide_true,drev0,drev1,Bool.and_true,Bool.true_and,Bool.false_and,Bool.and_false],rfl⟩
   ·simp -implicitDefEqProofs only[go_sem,ak,n43.symm]
    exact .mk _ (.refl _) aax ⟨by simp[dD,okD,iu,gz,lX,ax,au,k8,decide_true,drev0,drev1,Bool.and_true,Bool.true_and],rfl⟩
 simp -implicitDefEqProofs only[go_sem,ak,n31.symm,n41.symm,beq_eq_false_iff_ne.2 k1,beq_eq_false_iff_ne.2 k2,beq_eq_false_iff_ne.2 k6,beq_eq_false_iff_ne.2 k3,beq_eq_false_iff_ne.2 k4,beq_eq_false_iff_ne.2 k5,beq_eq_false_iff_ne.2 k7,beq_eq_false_iff_ne.2 k8];exact .mk _ (.refl _) aax ⟨by simp only[dD,bnd k1 k2 k3 k4 k5 k6 k7 k8,Bool.false_and,au],rfl⟩
theorem Fz(o:OpD)(h:Heap):ai Tryz.prog 22 [opA o] h fun r h' =>r= .b (eN o)∧h' =h:=by
 have hr:=fun hh=>H7 o hh
 have ht:=fun hh=>KS o hh
 have hv:=fun hh=>fT o.val hh
 simp only[opA,opC,aQ]at hr ht hv;refine aaq Tryz.func22 48 [.tmp 2] fun hwf=> ?_
 simp -implicitDefEqProofs only[go_sem,opA,opC];intro i1 h1;simp -implicitDefEqProofs only[go_sem];refine(nU o.subj _).pthen ?_;cases d1:bk o.subj
 ·simp -implicitDefEqProofs only[go_sem]
  exact .mk _ (.refl _) (.aj h1) ⟨by simp_all [eN,Bool.false_and,au],rfl⟩
 simp -implicitDefEqProofs only[go_sem];refine(hr _).pthen ?_;cases d2:lg o
 ·exact aeZ
 cases d3:decide ((4096:Int)<(o.text.length:Int))
 case true=>
  have e3:decide (o.text.length≤4096)=false:=decide_eq_false aas;simp -implicitDefEqProofs only[go_sem,d3];exact .mk _ (.refl _) (.aj h1) ⟨by simp only[eN,d1,d2,e3,Bool.false_and,Bool.true_and,au],rfl⟩
 have e3:decide (o.text.length≤4096)=true:=decide_eq_true aas;simp -implicitDefEqProofs only[go_sem,d3];refine(wP o.case _).pthen ?_;cases d4:iC o.case
 ·exact aeZ
 simp -implicitDefEqProofs only[go_sem];refine(wP o.field _).pthen ?_;cases d5:iC o.field
 ·exact aeZ
 simp -implicitDefEqProofs only[go_sem];refine(wP o.to _).pthen ?_;cases d6:iC o.to
 ·exact aeZ
 cases d7:(o.val.kind==(0:Int) && (o.val.n==(0:Int) && o.val.s==([]:Txt)))
 ·simp -implicitDefEqProofs only[go_sem,d7]
  refine(hv _).pthen ?_;have e7:eqV o.val ax=false:=d7;cases d8:bF o.val
  ·simp -implicitDefEqProofs only[go_sem]
   exact .mk _ (.refl _) (.aj h1) ⟨by simp_all [eN,Bool.or_self,Bool.false_and,Bool.true_and,au],rfl⟩
  simp -implicitDefEqProofs only[go_sem];refine(ht _).pthen ?_;simp -implicitDefEqProofs only[go_sem];exact .mk _ (.refl _) (.aj h1) ⟨by simp_all [eN,Bool.false_or,Bool.true_and,au],rfl⟩
 ·simp -implicitDefEqProofs only[go_sem,d7]
  have e7:eqV o.val ax=true:=d7;refine(ht _).pthen ?_;simp -implicitDefEqProofs only[go_sem];exact .mk _ (.refl _) (.aj h1) ⟨by simp_all [eN,Bool.true_or,Bool.true_and,au],rfl⟩
end Go.Proofs.YtcochaoekecfdaaGreatDoor
namespace Go.Bf
open Go Go.Ab
def ixD{α:Type}(q:α→Bool)(l:List α):Int:=if l.findIdx q<l.length then(l.findIdx q:Nat)else -1
theorem mQ{α:Type}{q:α→Bool}{l:List α}{i:Nat}(hi:i<l.length)(h1:q l[i]=true)(h2:∀j (hj:j<i),q (l[j]'aar)=false):ixD q l=(i:Nat):=by
 have e:l.findIdx q=i:=by grind [List.findIdx_eq]
 rw[ixD,e,if_pos hi]
theorem iJ{α:Type}{q:α→Bool}{l:List α}(h:∀j (hj:j<l.length),q l[j]=false):ixD q l= -1:=by
 have e:l.findIdx q=l.length:=aas;rw[ixD,e,if_neg (Nat.lt_irrefl _)]
end Go.Bf
namespace Go.Proofs.YtcochaoekecfdaaGreatDoor
open Go Go.Ab Go.Bf
theorem tP{α:Type}(y:AV)(xs:List AV)(ds:List α)(q:α→Bool)(g:FuncId)(cap:List AV)(h:Heap)(hb:Rd h 5 y xs)(hn:xs.length=ds.length)(hl:xs.length≤1000000000)(hx:∀x∈xs,bu x=true)
  (hp:∀i (h1:i<xs.length) (h2:i<ds.length),ai Tryz.prog g (xs[i]::cap) h fun r h' =>r= .b (q ds[i])∧h' =h):
  ai Tryz.prog 168 [y,.fn g cap] h fun r h' =>r= .i (ixD q ds)∧h' =h:=by
 refine aaq Tryz.func168 19 [.tmp 4] fun hwf=> ?_
 simp only[go_sem,hb.len];refine .intro (fun m ρ h' =>h' =h∧∃i:Nat,i≤xs.length∧m=xs.length - i∧(∀j (hj:j<i) (h2:j<ds.length),q ds[j]=false)∧lk ρ 0=some y∧lk ρ 1=some (.fn g cap)∧lk ρ 7=some (.i xs.length)∧lk ρ 8=some (.i i)) xs.length ?_ ?_
 ·refine⟨rfl,0,aar,rfl,fun j hj=>aar, ?_, ?_, ?_, ?_⟩<;>simp only[go_sem]
 ·rintro m ρ h' ⟨rfl,i,hi,rfl,hc,r0,r1,r7,r8⟩
  simp only[go_sem,r7,r8];refine .intro (fun e=> ?_) (fun e=> ?_)
  ·have hlt:i<xs.length:=aao e
   have hlt2:i<ds.length:=aar;have w1:IntKind.i64.wrap ((i:Int)+1)=((i+1:Nat):Int):=aaE;simp only[go_sem,r0,r1,r8];refine hb.idx (e:=134) i rfl hlt aaG aau fun p hp1=> ?_
   have hld:=hp1.all (U:=U) (ty:=134) aau abg ab8;simp only[go_sem,hld];refine(show ai Tryz.prog g (xs[i]::cap) _ _ from hp i hlt hlt2).pthen ?_
   cases d1:q ds[i]
   ·simp only[go_sem,r8,w1]
    refine⟨_, ?_,rfl,i+1,aar,rfl,fun j hj h2=> ?_, ?_, ?_, ?_, ?_⟩
    ·omega
    ·grind
    all_goals simp only[go_sem,r0,r1,r7]
   ·simp only[go_sem]
    exact .same (.refl _) ⟨aa4,rfl⟩
  ·have hge:i=xs.length:=by grind
   simp only[go_sem];exact .same (.refl _) ⟨aaS,rfl⟩
theorem xq{α:Type}(y:AV)(xs:List AV)(ds:List α)(q:α→Bool)(g:FuncId)(cap:List AV)(h:Heap)(hb:Rd h 4 y xs)(hn:xs.length=ds.length)(hl:xs.length≤1000000000)(hx:∀x∈xs,bu x=true)
  (hp:∀i (h1:i<xs.length) (h2:i<ds.length),ai Tryz.prog g (xs[i]::cap) h fun r h' =>r= .b (q ds[i])∧h' =h):
  ai Tryz.prog 140 [y,.fn g cap] h fun r h' =>r= .i (ixD q ds)∧h' =h:=by
 refine aaq Tryz.func140 19 [.tmp 4] fun hwf=> ?_
 simp only[go_sem,hb.len];refine .intro (fun m ρ h' =>h' =h∧∃i:Nat,i≤xs.length∧m=xs.length - i∧(∀j (hj:j<i) (h2:j<ds.length),q ds[j]=false)∧lk ρ 0=some y∧lk ρ 1=some (.fn g cap)∧lk ρ 7=some (.i xs.length)∧lk ρ 8=some (.i i)) xs.length ?_ ?_
 ·refine⟨rfl,0,aar,rfl,fun j hj=>aar, ?_, ?_, ?_, ?_⟩<;>simp only[go_sem]
 ·rintro m ρ h' ⟨rfl,i,hi,rfl,hc,r0,r1,r7,r8⟩
  simp only[go_sem,r7,r8];refine .intro (fun e=> ?_) (fun e=> ?_)
  ·have hlt:i<xs.length:=aao e
   have hlt2:i<ds.length:=aar;have w1:IntKind.i64.wrap ((i:Int)+1)=((i+1:Nat):Int):=aaE;simp only[go_sem,r0,r1,r8];refine hb.idx (e:=215) i rfl hlt aaG aau fun p hp1=> ?_
   have hld:=hp1.all (U:=U) (ty:=215) aau abg ab8;simp only[go_sem,hld];refine(show ai Tryz.prog g (xs[i]::cap) _ _ from hp i hlt hlt2).pthen ?_
   cases d1:q ds[i]
   ·simp only[go_sem,r8,w1]
    refine⟨_, ?_,rfl,i+1,aar,rfl,fun j hj h2=> ?_, ?_, ?_, ?_, ?_⟩
    ·omega
    ·grind
    all_goals simp only[go_sem,r0,r1,r7]
   ·simp only[go_sem]
    exact .same (.refl _) ⟨aa4,rfl⟩
  ·have hge:i=xs.length:=by grind
   simp only[go_sem];exact .same (.refl _) ⟨aaS,rfl⟩
def RdC(h:Heap)(x:AV)(c:aJ):Prop:=∃f l,x= .agg [.s c.id,.s c.owner,.s c.state,f,l]∧Rd h 4 f (c.fields.map bJ)∧Rd h 3 l (c.log.map hY)
def yI(h:Heap)(y:AV)(cs:List aJ):Prop:=∃xs,Rd h 5 y xs∧xs.length=cs.length∧∀i (h1:i<xs.length) (h2:i<cs.length),RdC h xs[i] cs[i]
def RdS(h:Heap)(x:AV)(s:an):Prop:=∃y1 y2 y3 y4,x= .agg ([.i s.tick,y1,y2,y3,y4]++fJ s.policy++ [.i s.version])∧yI h y1 s.cases∧Rd h 7 y2 (s.reviews.map ie)∧Rd h 3 y3 (s.notices.map lY)∧Rd h 2 y4 (s.roles.map dU)
theorem RdC.sub{h h' :Heap}{x:AV}{c:aJ}(hb:RdC h x c)(hs:Ab.Sub h h'):RdC h' x c:=by
 obtain⟨f,l,e,h1,h2⟩:=hb;exact⟨f,l,e,h1.sub hs,h2.sub hs⟩
theorem yI.sub{h h' :Heap}{y:AV}{cs:List aJ}(hb:yI h y cs)(hs:Ab.Sub h h'):yI h' y cs:=by
 obtain⟨xs,h1,h2,h3⟩:=hb;exact⟨xs,h1.sub hs,h2,fun i a b=>(h3 i a b).sub hs⟩
theorem RdS.sub{h h' :Heap}{x:AV}{s:an}(hb:RdS h x s)(hs:Ab.Sub h h'):RdS h' x s:=by
 obtain⟨y1,y2,y3,y4,e,h1,h2,h3,h4⟩:=hb;exact⟨y1,y2,y3,y4,e,h1.sub hs,h2.sub hs,h3.sub hs,h4.sub hs⟩
theorem bp{α:Type}{f:α→AV}{n:Nat}(hf:∀a,(f a).cells.length=n)(l:List α):Sized n (l.map f):=fun z hz=>by
 grind
theorem nF{α:Type}{f:α→AV}(hf:∀a,bu (f a)=true)(l:List α):∀x∈l.map f,bu x=true:=fun z hz=>by
 obtain⟨a,_,rfl⟩:=List.mem_map.1 hz;exact hf a
theorem dZ{α:Type}(f:α→AV)(n:Nat)(hf:∀a,(f a).cells.length=n)(h:Heap)(l:List α):Rd h n (.sl (l.map f) .no) (l.map f):=.sl (bp hf l) _
theorem rdC(h:Heap)(c:aJ):RdC h (cm c) c:=⟨_,_,rfl,dZ bJ 4 (fun _=>rfl) h _,dZ hY 3 (fun _=>rfl) h _⟩
theorem Vl(h:Heap)(cs:List aJ):yI h (fM cs) cs:=⟨_,dZ cm 5 (fun _=>rfl) h cs,aaz,fun i h1 h2=>by grind [rdC]⟩
theorem rdS(h:Heap)(s:an):RdS h (cH s) s:=⟨_,_,_,_,rfl,Vl h _,dZ ie 7 (fun _=>rfl) h _,dZ lY 3 (fun _=>rfl) h _,dZ dU 2 (fun _=>rfl) h _⟩
theorem RdC.agg{h:Heap}{x:AV}{c:aJ}(hb:RdC h x c):bu x=true:=by
 obtain⟨f,l,rfl,_⟩:=hb;rfl
theorem yI.agg{h:Heap}{xs:List AV}{cs:List aJ}(hn:xs.length=cs.length)(hb:∀i (h1:i<xs.length) (h2:i<cs.length),RdC h xs[i] cs[i]):∀x∈xs,bu x=true:=fun x hx=>by
 obtain⟨i,hi,rfl⟩:=List.mem_iff_getElem.1 hx;exact(hb i hi aar).agg
theorem mH:(U 134).sz=5:=aaG
theorem E3:(U 215).sz=4:=aaG
theorem Iz:(U 9).sz≠0:=aau
theorem K6:(U 9).sz=1:=aaG
theorem Jw{h:Heap}{x:AV}{c:aJ}(hb:RdC h x c){k:Nat}{id:Txt}(hk:h k=some (.obj [.s id] 9)):ai Tryz.prog 169 [x,.ptr k 0] h fun r h' =>r= .b (geB c.id id)∧h' =h:=by
 obtain⟨f,l,rfl,hf,hl⟩:=hb;refine aaq Tryz.func169 8 [.tmp 3] fun hwf=> ?_
 simp only[go_sem];exact aeM
structure Few (s:an):Prop where
 cases:s.cases.length≤1000000
 fields:∀c∈s.cases,c.fields.length≤1000000
 log:∀c∈s.cases,c.log.length≤1000000
 reviews:s.reviews.length≤1000000
 notices:s.notices.length≤1000000
 roles:s.roles.length≤1000000
theorem jc{cs:List aJ}{id:Txt}(h:bW cs id=true):findD cs id<cs.length:=by
 grind [bW,List.getElem?_eq_some_iff]
theorem It{cs:List aJ}{id:Txt}(h:findD cs id<cs.length):bW cs id=(cs[findD cs id].id==id):=by
 grind [bW,List.getElem?_eq_getElem]
theorem Iu{cs:List aJ}{id:Txt}(h:¬findD cs id<cs.length):bW cs id=false:=by
 grind [bW,List.getElem?_eq_none]
theorem AY{h:Heap}{x:AV}{s:an}(hb:RdS h x s)(id:Txt)(hl:s.cases.length≤1000000):ai Tryz.prog 119 [x,.s id] h fun r h' =>r= .tup [.i (findD s.cases id:Nat),.b (bW s.cases id)]∧h' =h:=by
 obtain⟨y1,y2,y3,y4,rfl,⟨xs,hc,hn,hcs⟩,h2,h3,h4⟩:=hb;cases hp:s.policy with
 |mk pid pset palg ptgt prules pkids pobls=>
 refine aaq Tryz.func119 25 [.tmp 4,.tmp 5] fun hwf=> ?_
 simp only[go_sem,fJ,List.cons_append,List.nil_append];intro i1 h1;simp only[go_sem];intro i2 h2;have n21:=aF h2;have n2:=aB h2;have hs:∀a b,Ab.Sub h (upd (upd h i1 a) i2 b):=fun a b=>((Sub.refl h).put h1 a).put n2 b
 simp only[go_sem,ak,n21.symm];refine(tP y1 xs s.cases (fun c=>geB c.id id) _ [.ptr i2 0] _ (hc.sub (hs _ _)) hn aar (yI.agg hn hcs) fun i a b=>Jw ((hcs i a b).sub (hs _ _)) (ah ..)).pthen ?_
 by_cases hf:findD s.cases id<s.cases.length
 ·have e1:ixD (fun c=>geB c.id id) s.cases=(findD s.cases id:Nat):=by rw[ixD];exact if_pos hf
  have d1:decide (((findD s.cases id:Nat):Int)<0)=false:=decide_eq_false aar;rw[e1];simp only[go_sem,ak,n21.symm,d1];refine⟨.of aav, ?_⟩;obtain⟨f,l,ex,hfl,hlg⟩:=hcs (findD s.cases id) aar hf;refine hc.idx (e:=134) (findD s.cases id) rfl aar mH aau fun p hp1=> ?_
  simp only[go_sem];refine hp1.field (f:=0) (off:=0) (t:=9) rfl Iz fun p2 hp2=> ?_
  have hld:=fun a b=>(hp2.sub (hs a b)).part (U:=U) (ty:=9) Iz (by rw[ex,K6];exact aag rfl)
  simp only[go_sem,hld,ex];exact .mk _ (.refl _) (hs _ _) ⟨by rw[It hf];rfl,rfl⟩
 ·have e1:ixD (fun c=>geB c.id id) s.cases= -1:=by rw[ixD];exact if_neg hf
  have e2:findD s.cases id=s.cases.length:=by
   grind [findD,List.findIdx_le_length]
  have d1:decide ((-1:Int)<0)=true:=rfl;rw[e1];simp only[go_sem,ak,n21.symm,d1];simp only[go_sem,hc.len];exact .mk _ (.refl _) (hs _ _) ⟨by rw[Iu hf,e2,hn];rfl,rfl⟩
theorem Gj:(U 149).sz=2:=aaG
theorem HG(y:AV)(ds:List gI)(r:gI)(h:Heap)(hb:Rd h 2 y (ds.map dU))(hl:ds.length≤1000000000):
  ai Tryz.prog 209 [y,dU r] h fun x h' =>x= .i (ixD (tF r) ds)∧h' =h:=by
 refine aaq Tryz.func209 19 [.tmp 4] fun hwf=> ?_
 simp only[go_sem,dU];intro i1 h1;have hs:∀a,Ab.Sub h (upd h i1 a):=fun a=>(Sub.refl h).put h1 a
 simp only[go_sem,hb.len,aah];refine .intro (fun m ρ h' =>h' =upd h i1 (some (.obj [.s r.subj,.s r.role] 149))∧∃i:Nat,i≤ds.length∧m=ds.length - i∧(∀j (hj:j<i) (h2:j<ds.length),tF r ds[j]=false)∧lk ρ 0=some y∧lk ρ 3=some (.ptr i1 0)∧lk ρ 7=some (.i ds.length)∧lk ρ 8=some (.i i)) ds.length ?_ ?_
 ·refine⟨rfl,0,aar,rfl,fun j hj=>aar, ?_, ?_, ?_, ?_⟩<;>simp only[go_sem]
 ·rintro m ρ h' ⟨rfl,i,hi,rfl,hc,r0,r3,r7,r8⟩
  simp only[go_sem,r7,r8];refine .intro (fun e=> ?_) (fun e=> ?_)
  ·have hlt:i<ds.length:=aao e
   have w1:IntKind.i64.wrap ((i:Int)+1)=((i+1:Nat):Int):=aaE;simp only[go_sem,r0,r3,r8];refine⟨.of aav, ?_⟩;refine hb.idx (e:=149) i rfl aas Gj aau fun p hp1=> ?_
   have hld:=fun a=>(hp1.sub (hs a)).all (U:=U) (ty:=149) aau (by rw[Gj,aai];rfl) aa2
   cases d1:tF r ds[i]
   ·have d2:=d1
    simp only[tF]at d2;simp only[go_sem,r8,hld,aai,dU,d2,w1];refine⟨_, ?_,rfl,i+1,aar,rfl,fun j hj h2=> ?_, ?_, ?_, ?_, ?_⟩
    ·omega
    ·grind
    all_goals simp only[go_sem,r0,r3,r7]
   ·have d2:=d1
    simp only[tF]at d2;simp only[go_sem,hld,aai,dU,d2];exact .mk _ (.refl _) (hs _) ⟨by rw[mQ hlt d1 fun j hj=>hc j hj aar];rfl,rfl⟩
  ·have hge:i=ds.length:=by grind
   simp only[go_sem];exact .mk _ (.refl _) (hs _) ⟨aaS,rfl⟩
theorem Eh(y:AV)(ds:List gI)(r:gI)(h:Heap)(hb:Rd h 2 y (ds.map dU))(hl:ds.length≤1000000000):
  ai Tryz.prog 171 [y,dU r] h fun x h' =>x= .b (xk ds r)∧h' =h:=by
 have hq:=fun H (hH:Ab.Sub h H)=>HG y ds r H (hb.sub hH) hl
 refine aaq Tryz.func171 9 [.tmp 4] fun hwf=> ?_
 simp only[go_sem,dU];intro i1 h1;simp only[go_sem];refine(hq _ (.aj h1)).pthen ?_;simp only[go_sem];refine .mk _ (.refl _) (.aj h1) ⟨?_,rfl⟩
 grind [au,xk,ixD,decide_eq_true,List.any_eq_true,aam,List.findIdx_getElem,decide_eq_false,List.any_eq_false]
theorem Ei{h:Heap}{x:AV}{s:an}(hb:RdS h x s)(subj role:Txt)(hl:s.roles.length≤1000000000):ai Tryz.prog 122 [x,.s subj,.s role] h fun r h' =>r= .b (xk s.roles ⟨subj,role⟩)∧h' =h:=by
 obtain⟨y1,y2,y3,y4,rfl,hc,h2,h3,h4⟩:=hb;have hq:=fun H (hH:Ab.Sub h H)=>Eh y4 s.roles ⟨subj,role⟩ H (h4.sub hH) hl
 cases hp:s.policy with
 |mk pid pset palg ptgt prules pkids pobls=>
 refine aaq Tryz.func122 13 [.tmp 6] fun hwf=> ?_
 simp only[go_sem,fJ,List.cons_append,List.nil_append];intro i1 h1;simp only[go_sem];refine(hq _ (.aj h1)).pthen ?_;simp only[go_sem];exact aaI
theorem GR{h:Heap}(f:cS){k:Nat}{name:Txt}(hk:h k=some (.obj [.s name] 9)):ai Tryz.prog 141 [bJ f,.ptr k 0] h fun r h' =>r= .b (f.name==name)∧h' =h:=by
 refine aaq Tryz.func141 8 [.tmp 3] fun hwf=> ?_
 simp only[go_sem,bJ];exact aeM
theorem GS{fs:List cS}{name:Txt}(h:fs.findIdx (fun f=>f.name==name)<fs.length):dX fs name=fs[fs.findIdx fun f=>f.name==name].val:=by
 unfold dX;rw[show fs.find? (fun f=>f.name==name)=some fs[fs.findIdx fun f=>f.name==name]from List.find?_eq_some_iff_getElem.2 ⟨List.findIdx_getElem (w:=h),_,h,rfl,fun j hj=>aas⟩]
theorem GU{fs:List cS}{name:Txt}(h:¬fs.findIdx (fun f=>f.name==name)<fs.length):dX fs name=ax:=by
 grind [dX,List.findIdx_le_length,List.find?_eq_none,List.findIdx_eq_length]
theorem B4{h:Heap}{x:AV}{c:aJ}(hb:RdC h x c)(name:Txt)(hl:c.fields.length≤1000000000):ai Tryz.prog 77 [x,.s name] h fun r h' =>r=aQ (dX c.fields name)∧h' =h:=by
 obtain⟨f,l,rfl,hf,hlg⟩:=hb;refine aaq Tryz.func77 19 [.cell 4 30] fun hwf=> ?_
 simp only[go_sem];intro i1 h1;simp only[go_sem];intro i2 h2;have n21:=aF h2;have n2:=aB h2;simp only[go_sem];intro i3 h3;have h3' :=aB h3;have n31:=aF h3';have n3:=aB h3';have hs:∀a b d,Ab.Sub h (upd (upd (upd h i1 a) i2 b) i3 d):=fun a b d=>(((Sub.refl h).put h1 a).put n2 b).put n3 d
 simp only[go_sem,ak,n21.symm,n31.symm];refine(xq f _ c.fields (fun f=>f.name==name) _ [.ptr i2 0] _ (hf.sub (hs _ _ _)) aaz aas (nF (fun _=>rfl) _) fun i a b=>by
  rw[aai];exact GR _ (by grind [ak,fO,not_false_eq_true])).pthen ?_
 by_cases hx:c.fields.findIdx (fun f=>f.name==name)<c.fields.length
 ·have e1:ixD (fun f=>f.name==name) c.fields=(c.fields.findIdx (fun f=>f.name==name):Nat):=by simp_all [ixD,if_pos]
  have d1:decide ((0:Int)≤((c.fields.findIdx (fun f=>f.name==name):Nat):Int))=true:=decide_eq_true aar
  rw[e1];simp only[go_sem,ak,n21.symm,n31.symm,d1];refine hf.idx (e:=215) (c.fields.findIdx fun f=>f.name==name) rfl aas E3 aau fun p hp1=> ?_
  simp only[go_sem];refine hp1.field (f:=1) (off:=1) (t:=30) rfl aau fun p2 hp2=> ?_
  have hld:=fun a b d=>(hp2.sub (hs a b d)).part (U:=U) (ty:=30) aau (by rw[aai,show(U 30).sz=3 by rfl];exact aag rfl)
  simp only[go_sem,hld,aai,bJ];exact .mk _ (.refl _) aas ⟨by rw[GS hx];rfl,rfl⟩
 ·have e1:ixD (fun f=>f.name==name) c.fields= -1:=by simp_all [ixD,if_neg]
  have d1:decide ((0:Int)≤ -1)=false:=rfl;rw[e1];simp only[go_sem,d1];exact .mk _ (.refl _) aas ⟨by rw[GU hx];rfl,rfl⟩
end Go.Proofs.YtcochaoekecfdaaGreatDoor
namespace Go.Ab
open Go
mutual
def cG:AV→Bool
 |.v _=>true
 |.s _=>true
 |.agg xs=>gF xs
 |.tup xs=>gF xs
 |.sl xs (.own _)=>false
 |.sl xs _=>gF xs
 |.pe x _=>cG x
 |.ifc _ x=>cG x
 |_=>false
def gF:List AV→Bool
 | []=>true
 |x::r=>cG x && gF r
end
mutual
theorem sS{F:Nat→Prop}:∀x:AV,cG x=true→Av F x
 |.v x,_=> .v x
 |.s l,_=> .s l
 |.agg xs,h=> .agg xs (qb xs acZ)
 |.tup xs,h=> .tup xs (qb xs acZ)
 |.sl xs .no,h=> .sl xs .no (qb xs acZ) fun _ e=>aaU
 |.sl xs .full,h=> .sl xs .full (qb xs acZ) fun _ e=>aaU
 |.sl xs (.own _),h=>adX
 |.pe x o,h=> .pe x o (sS x acZ)
 |.ptr i o,h=>adX
 |.oa i o l,h=>adX
 |.ifc t x,h=> .ifc t x (sS x acZ)
 |.fn f c,h=>adX
 |.mp i,h=>adX
 |.ob i o l c z,h=>adX
theorem qb{F:Nat→Prop}:∀xs:List AV,gF xs=true→∀x∈xs,Av F x
 | [],_,x,hx=>by cases hx
 |y::r,h,x,hx=>by
  simp only[gF,Bool.and_eq_true]at h;rcases List.mem_cons.1 hx with e|e
  ·rw[e];exact sS y h.1
  ·exact qb r h.2 x e
end
theorem bn{α:Type}{f:α→AV}(hf:∀a,cG (f a)=true):∀l:List α,gF (l.map f)=true
 | []=>rfl
 |a::r=>by simp[gF,hf a,bn hf r]
theorem z6{xs:List AV}(h:gF xs=true):∀x∈xs,cG x=true:=by
 induction xs with
 |nil=>simp
 |cons y r ih=>
  simp_all [gF,Bool.and_eq_true,List.mem_cons]
theorem mD{x:AV}(h:cG x=true):∀c∈x.cells,cG c=true:=by
 cases x with
 |agg cs=>exact z6 (show gF cs=true by grind [cG])
 |_=>intro c hc;rw[List.mem_singleton.1 hc];exact h
theorem Frz.pure{g h:Heap}{x:AV}(hx:cG x=true):Frz g h x x:=.keep x (sS x hx)
theorem Ow.frz{g h:Heap}{tb:TypeId}{sz id:Nat}{y:AV}{xs ys:List AV}(hw:Ow tb h sz id y xs)(hg:g id=Option.none)(hn:xs.length=ys.length)(hz:∀i (h1:i<xs.length) (h2:i<ys.length),xs[i].cells.length=ys[i].cells.length)
  (hr:∀i (h1:i<xs.length) (h2:i<ys.length) j (h3:j<xs[i].cells.length) (h4:j<ys[i].cells.length),Frz g h xs[i].cells[j] ys[i].cells[j]):Frz g h y (.sl ys .no):=by
 obtain⟨cap,rest,rfl,h1,h2,h3,h4⟩:=hw;have hl:=aW h4;refine .ob id 0 _ cap sz _ tb ys hg h1 aas hn.symm (fun i hi=>by rw[←hz i aar hi];exact h4 _ aaz) fun i hi j hj hb=> ?_
 have hj' :j<sz:=by rw[←h4 xs[i] aaz,hz i aar hi];omega
 have hbd:i*sz+j<xs.length*sz:=by
  have:(i+1)*sz≤xs.length*sz:=Nat.mul_le_mul_right _ aar;rw[Nat.add_mul,Nat.one_mul]at this;omega
 have hjx:j<xs[i].cells.length:=aas;have e:(aq xs++rest)[0+(i*sz+j)]? =some (xs[i].cells[j]):=by
  rw[Nat.zero_add,List.getElem?_append_left aar,tH h4 aar hj',List.getElem?_eq_getElem hjx]
 rw[List.getElem?_eq_getElem hb,Option.some.injEq]at e;rw[e];exact hr i aar hi j hjx hj
theorem OwE.frz{g h:Heap}{tb:TypeId}{sz:Nat}{y:AV}{xs:List AV}(hw:OwE tb g h sz y xs)(hp:gF xs=true):Frz g h y (.sl xs .no):=by
 rcases hw with⟨rfl,rfl⟩|⟨id,hg,hw⟩
 ·exact .sl [] [] .full rfl aar aaz
 ·exact hw.frz hg rfl aar fun i h1 h2 j h3 h4=> .pure (mD (z6 hp _ (aam h1)) _ aaz)
theorem OwE.kQ{U:TypeId→TI}{h:Heap}{sz:Nat}{tb:TypeId}{xs:List AV}{Q:AV→Heap→Prop}(hz:(U tb).sz=sz)(hf:Ab.fit (U tb).zero sz)(hb:Sized sz xs)(hk:∀y' h',OwE tb h h' sz y' xs→Sub h h'→Q y' h'):qZ U h [] xs tb Q:=by
 subst hz;refine⟨fun hn=> ?_,fun hn=> ?_⟩
 ·subst hn
  exact hk _ _ (.inl ⟨rfl,rfl⟩) (.refl _)
 ·refine .ob hf (jH.ow hb aaG aaz fun id y' h' hid hw ho=> ?_)
  exact hk _ _ (.inr ⟨id,hid,hw⟩) fun j b hj=>aas
theorem Rd.nil{h:Heap}{sz:Nat}{y:AV}{xs:List AV}{e:TypeId}{Q:AV→Heap→Prop}(hb:Rd h sz y xs)(hk:∀b:Bool,(xs≠ []→b=false)→Q (.b b) h):Pn h .eql y Q (.slice e):=by
 obtain⟨_,⟨q,rfl⟩|⟨id,off,cap,cs,t,rfl,_⟩⟩:=hb
 ·exact hk
 ·exact hk false fun _=>rfl
def nid:AV→Option Nat
 |.ob id _ _ _ _=>some id
 |_=>none
theorem OwE.nid{tb:TypeId}{h0 h:Heap}{sz:Nat}{y:AV}{xs:List AV}(hw:OwE tb h0 h sz y xs){id:Nat}(e:Ab.nid y=some id):h0 id=Option.none∧h id≠Option.none∧Ow tb h sz id y xs:=by
 rcases hw with⟨rfl,rfl⟩|⟨id',h1,hw⟩
 ·cases e
 ·obtain⟨cap,rest,rfl,h2,h3⟩:=hw
  cases e;exact⟨h1,aas,cap,rest,rfl,h2,h3⟩
theorem Ow.nid{tb:TypeId}{h:Heap}{sz id:Nat}{y:AV}{xs:List AV}(hw:Ow tb h sz id y xs):Ab.nid y=some id:=by
 obtain⟨cap,rest,rfl,h2,h3⟩:=hw;rfl
theorem OwE.keep{tb:TypeId}{h0 h h' :Heap}{sz:Nat}{y:AV}{xs:List AV}(hw:OwE tb h0 h sz y xs)(hs:∀id,Ab.nid y=some id→h' id=h id):OwE tb h0 h' sz y xs:=by
 rcases hw with hw|⟨id,h1,hw⟩
 ·exact ael
 ·exact .inr ⟨id,h1,hw.same (hs id hw.nid)⟩
theorem OwE.less{tb:TypeId}{h0 h1 h:Heap}{sz:Nat}{y:AV}{xs:List AV}(hw:OwE tb h1 h sz y xs)(hs:Sub h0 h1):OwE tb h0 h sz y xs:=by
 rcases hw with hw|⟨id,a,hw⟩
 ·exact ael
 ·exact .inr ⟨id,hs.none a,hw⟩
end Go.Ab
namespace Go.Proofs.YtcochaoekecfdaaGreatDoor
open Go Go.Ab Go.Bf
theorem zp(y:AV)(xs:List AV)(h:Heap)(hb:Rd h 5 y xs)(hl:xs.length≤1000000):ai Tryz.prog 131 [y] h fun r h' =>OwE 134 h h' 5 r xs∧Ab.Sub h h' :=by
 refine aaq Tryz.func131 8 [.tmp 2] fun hwf=> ?_
 simp only[go_sem];refine hb.nil fun b hxs=> ?_
 cases b
 ·simp only[go_sem]
  refine hb.src (U:=U) (e:=134) aaG ⟨hb.1,aar,OwE.kQ (U:=U) (sz:=5) aaG aaG hb.1 fun y' h' hw hs=> ?_⟩
  exact aeJ
 ·exact aeF
theorem uQ(y:AV)(xs:List AV)(h:Heap)(hb:Rd h 7 y xs)(hl:xs.length≤1000000):ai Tryz.prog 129 [y] h fun r h' =>OwE 143 h h' 7 r xs∧Ab.Sub h h' :=by
 refine aaq Tryz.func129 8 [.tmp 2] fun hwf=> ?_
 simp only[go_sem];refine hb.nil fun b hxs=> ?_
 cases b
 ·simp only[go_sem]
  refine hb.src (U:=U) (e:=143) aaG ⟨hb.1,aar,OwE.kQ (U:=U) (sz:=7) aaG aaG hb.1 fun y' h' hw hs=> ?_⟩
  exact aeJ
 ·exact aeF
theorem uN(y:AV)(xs:List AV)(h:Heap)(hb:Rd h 3 y xs)(hl:xs.length≤1000000):ai Tryz.prog 130 [y] h fun r h' =>OwE 146 h h' 3 r xs∧Ab.Sub h h' :=by
 refine aaq Tryz.func130 8 [.tmp 2] fun hwf=> ?_
 simp only[go_sem];refine hb.nil fun b hxs=> ?_
 cases b
 ·simp only[go_sem]
  refine hb.src (U:=U) (e:=146) aaG ⟨hb.1,aar,OwE.kQ (U:=U) (sz:=3) aaG aaG hb.1 fun y' h' hw hs=> ?_⟩
  exact aeJ
 ·exact aeF
theorem GG(y:AV)(xs:List AV)(h:Heap)(hb:Rd h 2 y xs)(hl:xs.length≤1000000):ai Tryz.prog 177 [y] h fun r h' =>OwE 149 h h' 2 r xs∧Ab.Sub h h' :=by
 refine aaq Tryz.func177 8 [.tmp 2] fun hwf=> ?_
 simp only[go_sem];refine hb.nil fun b hxs=> ?_
 cases b
 ·simp only[go_sem]
  refine hb.src (U:=U) (e:=149) aaG ⟨hb.1,aar,OwE.kQ (U:=U) (sz:=2) aaG aaG hb.1 fun y' h' hw hs=> ?_⟩
  exact aeJ
 ·exact aeF
theorem DJ(y:AV)(xs:List AV)(h:Heap)(hb:Rd h 4 y xs)(hl:xs.length≤1000000):ai Tryz.prog 184 [y] h fun r h' =>OwE 215 h h' 4 r xs∧Ab.Sub h h' :=by
 refine aaq Tryz.func184 8 [.tmp 2] fun hwf=> ?_
 simp only[go_sem];refine hb.nil fun b hxs=> ?_
 cases b
 ·simp only[go_sem]
  refine hb.src (U:=U) (e:=215) aaG ⟨hb.1,aar,OwE.kQ (U:=U) (sz:=4) aaG aaG hb.1 fun y' h' hw hs=> ?_⟩
  exact aeJ
 ·exact aeF
theorem pg(y:AV)(xs:List AV)(h:Heap)(hb:Rd h 3 y xs)(hl:xs.length≤1000000):ai Tryz.prog 132 [y] h fun r h' =>OwE 205 h h' 3 r xs∧Ab.Sub h h' :=by
 refine aaq Tryz.func132 8 [.tmp 2] fun hwf=> ?_
 simp only[go_sem];refine hb.nil fun b hxs=> ?_
 cases b
 ·simp only[go_sem]
  refine hb.src (U:=U) (e:=205) aaG ⟨hb.1,aar,OwE.kQ (U:=U) (sz:=3) aaG aaG hb.1 fun y' h' hw hs=> ?_⟩
  exact aeJ
 ·exact aeF
theorem vE(y:AV)(xs:List AV)(h:Heap)(hb:Rd h 3 y xs)(hl:xs.length≤1000000)(hp:gF xs=true):ai Tryz.prog 132 [y] h fun r h' =>r= .sl xs .no∧h' =h:=
 ai.freeze fun g hg _=>(pg y xs g (hb.sub hg) hl).mono fun r h' ⟨h1,h2⟩=>⟨h2,_,h1.frz hp,rfl⟩
theorem Jg(y:AV)(xs:List AV)(h:Heap)(hb:Rd h 3 y xs)(hl:xs.length≤1000000):ai Tryz.prog 91 [y] h fun r h' =>OwE 158 h h' 3 r xs∧Ab.Sub h h' :=by
 refine aaq Tryz.func91 8 [.tmp 2] fun hwf=> ?_
 simp only[go_sem];refine hb.nil fun b hxs=> ?_
 cases b
 ·simp only[go_sem]
  refine hb.src (U:=U) (e:=158) aaG ⟨hb.1,aar,OwE.kQ (U:=U) (sz:=3) aaG aaG hb.1 fun y' h' hw hs=> ?_⟩
  exact aeJ
 ·exact aeF
theorem zu(y:AV)(xs:List AV)(h:Heap)(hb:Rd h 3 y xs)(hl:xs.length≤1000000)(hp:gF xs=true):ai Tryz.prog 91 [y] h fun r h' =>r= .sl xs .no∧h' =h:=
 ai.freeze fun g hg _=>(Jg y xs g (hb.sub hg) hl).mono fun r h' ⟨h1,h2⟩=>⟨h2,_,h1.frz hp,rfl⟩
theorem GH(y:AV)(xs:List AV)(h:Heap)(hb:Rd h 5 y xs)(hl:xs.length≤1000000):ai Tryz.prog 219 [y] h fun r h' =>OwE 224 h h' 5 r xs∧Ab.Sub h h' :=by
 refine aaq Tryz.func219 8 [.tmp 2] fun hwf=> ?_
 simp only[go_sem];refine hb.nil fun b hxs=> ?_
 cases b
 ·simp only[go_sem]
  refine hb.src (U:=U) (e:=224) aaG ⟨hb.1,aar,OwE.kQ (U:=U) (sz:=5) aaG aaG hb.1 fun y' h' hw hs=> ?_⟩
  exact aeJ
 ·exact aeF
theorem BP(y:AV)(xs:List AV)(h:Heap)(hb:Rd h 7 y xs)(hl:xs.length≤1000000):ai Tryz.prog 220 [y] h fun r h' =>OwE 65 h h' 7 r xs∧Ab.Sub h h' :=by
 refine aaq Tryz.func220 8 [.tmp 2] fun hwf=> ?_
 simp only[go_sem];refine hb.nil fun b hxs=> ?_
 cases b
 ·simp only[go_sem]
  refine hb.src (U:=U) (e:=65) aaG ⟨hb.1,aar,OwE.kQ (U:=U) (sz:=7) aaG aaG hb.1 fun y' h' hw hs=> ?_⟩
  exact aeJ
 ·exact aeF
theorem GF(y:AV)(xs:List AV)(h:Heap)(hb:Rd h 7 y xs)(hl:xs.length≤1000000):ai Tryz.prog 221 [y] h fun r h' =>OwE 229 h h' 7 r xs∧Ab.Sub h h' :=by
 refine aaq Tryz.func221 8 [.tmp 2] fun hwf=> ?_
 simp only[go_sem];refine hb.nil fun b hxs=> ?_
 cases b
 ·simp only[go_sem]
  refine hb.src (U:=U) (e:=229) aaG ⟨hb.1,aar,OwE.kQ (U:=U) (sz:=7) aaG aaG hb.1 fun y' h' hw hs=> ?_⟩
  exact aeJ
 ·exact aeF
theorem DM(y:AV)(xs:List AV)(h:Heap)(hb:Rd h 7 y xs)(hl:xs.length≤1000000)(hp:gF xs=true):ai Tryz.prog 221 [y] h fun r h' =>r= .sl xs .no∧h' =h:=
 ai.freeze fun g hg _=>(GF y xs g (hb.sub hg) hl).mono fun r h' ⟨h1,h2⟩=>⟨h2,_,h1.frz hp,rfl⟩
theorem DK(y:AV)(xs:List AV)(h:Heap)(hb:Rd h 7 y xs)(hl:xs.length≤1000000):ai Tryz.prog 253 [y] h fun r h' =>OwE 273 h h' 7 r xs∧Ab.Sub h h' :=by
 refine aaq Tryz.func253 8 [.tmp 2] fun hwf=> ?_
 simp only[go_sem];refine hb.nil fun b hxs=> ?_
 cases b
 ·simp only[go_sem]
  refine hb.src (U:=U) (e:=273) aaG ⟨hb.1,aar,OwE.kQ (U:=U) (sz:=7) aaG aaG hb.1 fun y' h' hw hs=> ?_⟩
  exact aeJ
 ·exact aeF
theorem BR(y:AV)(xs:List AV)(h:Heap)(hb:Rd h 7 y xs)(hl:xs.length≤1000000)(hp:gF xs=true):ai Tryz.prog 253 [y] h fun r h' =>r= .sl xs .no∧h' =h:=
 ai.freeze fun g hg _=>(DK y xs g (hb.sub hg) hl).mono fun r h' ⟨h1,h2⟩=>⟨h2,_,h1.frz hp,rfl⟩
theorem DL(y:AV)(xs:List AV)(h:Heap)(hb:Rd h 3 y xs)(hl:xs.length≤1000000):ai Tryz.prog 283 [y] h fun r h' =>OwE 30 h h' 3 r xs∧Ab.Sub h h' :=by
 refine aaq Tryz.func283 8 [.tmp 2] fun hwf=> ?_
 simp only[go_sem];refine hb.nil fun b hxs=> ?_
 cases b
 ·simp only[go_sem]
  refine hb.src (U:=U) (e:=30) aaG ⟨hb.1,aar,OwE.kQ (U:=U) (sz:=3) aaG aaG hb.1 fun y' h' hw hs=> ?_⟩
  exact aeJ
 ·exact aeF
theorem BS(y:AV)(xs:List AV)(h:Heap)(hb:Rd h 3 y xs)(hl:xs.length≤1000000)(hp:gF xs=true):ai Tryz.prog 283 [y] h fun r h' =>r= .sl xs .no∧h' =h:=
 ai.freeze fun g hg _=>(DL y xs g (hb.sub hg) hl).mono fun r h' ⟨h1,h2⟩=>⟨h2,_,h1.frz hp,rfl⟩
def N3(h0 h:Heap)(x:AV)(c:aJ):Prop:=∃f l,x= .agg [.s c.id,.s c.owner,.s c.state,f,l]∧OwE 215 h0 h 4 f (c.fields.map bJ)∧OwE 205 h0 h 3 l (c.log.map hY)∧∀i,nid f=some i→nid l≠some i
theorem cC{h:Heap}{i j:Nat}{b:Blk}(h1:h i=none)(h2:h j=some b):i≠j:=fun e=>by subst e;rw[h2]at h1;cases h1
theorem xM{h:Heap}{x:AV}{c:aJ}(hb:RdC h x c)(hl:c.fields.length≤1000000)(hl2:c.log.length≤1000000):ai Tryz.prog 139 [x] h fun r h' =>N3 h h' r c∧Ab.Sub h h' :=by
 obtain⟨f,l,rfl,hf,hlg⟩:=hb;refine aaq Tryz.func139 12 [.cell 2 134] fun hwf=> ?_
 simp only[go_sem];intro i1 h1;simp only[go_sem];intro i2 h2;have n21:=aF h2;have n2:=aB h2;simp only[go_sem];obtain⟨H,eH⟩:∃H,upd (upd h i1 (some (.obj [.s c.id,.s c.owner,.s c.state,f,l] 134))) i2 (some (.obj [.s [],.s [],.s [],.sl [] .full,.sl [] .full] 134))=H:=⟨_,rfl⟩;have hH:Ab.Sub h H:=abl;have g1:H i1=some (.obj [.s c.id,.s c.owner,.s c.state,f,l] 134):=abU;have g2:H i2=some (.obj [.s [],.s [],.s [],.sl [] .full,.sl [] .full] 134):=abM;rw[eH];refine .stage (hm1 i1 _) [0,1,3,4,2,6,5] [7,8,9] (.hm1 g1) aav ?_;simp only[go_sem,fN];refine(DJ f _ H (hf.sub hH) aas).mono fun f' H1 ⟨hf',s1⟩=> ?_
 refine⟨.hm1 (s1 _ _ g1), ?_⟩;simp only[go_sem];refine(pg l _ H1 ((hlg.sub hH).sub s1) aas).mono fun l' H2 ⟨hl',s2⟩=> ?_
 refine⟨.hm1 (s2 _ _ (s1 _ _ g1)),di,(fun _ _ e=>aaU), ?_⟩
 have g1' :=s2 _ _ (s1 _ _ g1);have g2' :=s2 _ _ (s1 _ _ g2);simp only[go_sem,g1',hf'.rd.fit,hf'.rd.cells,hl'.rd.fit,hl'.rd.cells];have n1:∀b,upd H2 i1 b i2=some (.obj [.s [],.s [],.s [],.sl [] .full,.sl [] .full] 134):=fun b=>aaZ
 refine⟨fun _ _ e=>aaU,fun _ _ e=>aaU, ?_⟩
 simp only[go_sem,n1];have hid:∀ {y:AV} {xs:List AV} {G:Heap} {tb:TypeId} {z:Nat},Ab.Sub H G→OwE tb G H2 z y xs→∀a b,OwE tb h (upd (upd H2 i1 a) i2 b) z y xs:=fun hG hw a b=>(hw.less (hH.trans hG)).keep fun id e=>by
  have h0:=hG.none (hw.nid e).1;rw[ag _ _ (cC h0 g2),ag _ _ (cC h0 g1)]
 refine .mk _ (.refl _) (.refl _) ⟨⟨f',l',rfl,hid (.refl _) (hf'.sub s2) _ _,hid s1 hl' _ _,fun i ef el=> ?_⟩,((hH.trans (s1.trans s2)).put h1 _).put n2 _⟩
 exact(hf'.nid ef).2.1 ((hl'.nid el).1)
theorem vj{h:Heap}{x:AV}{c:aJ}(hb:RdC h x c)(hl:c.fields.length≤1000000)(hl2:c.log.length≤1000000):ai Tryz.prog 139 [x] h fun r h' =>r=cm c∧h' =h:=
 ai.freeze fun g hg _=>(xM (hb.sub hg) hl hl2).mono fun r h' ⟨⟨f,l,e,hf,hlg,_⟩,h2⟩=>⟨h2,cm c,by
  subst e;refine .agg _ _ rfl fun i h1 h2=> ?_
  rcases i with _|_|_|_|_|i
  ·exact aaL
  ·exact aaL
  ·exact aaL
  ·exact hf.frz (bn (fun _=>rfl) _)
  ·exact hlg.frz (bn (fun _=>rfl) _)
  ·simp at h1;omega,rfl⟩
theorem Kr(l:List bM):gF (l.map dz)=true:=bn (fun _=>rfl) l
theorem S0:(U 274).sz=1:=aaG
theorem S1:(U 270).sz=1:=aaG
theorem sI(t:fQ)(ht:kJ t=0)(h:Heap):ai Tryz.prog 218 [aT t] h fun r h' =>r=aT t∧h' =h:=by
 obtain⟨hl,he⟩:=Am ht;refine aaq Tryz.func218 33 [.tmp 2] fun hwf=> ?_
 simp only[go_sem,aT,aah];refine .intro (fun m ρ h' =>∃(i:Nat) (y:AV) (ys:List AV),Acc U 270 h h' y ys∧ys.length=i∧(∀j (h1:j<ys.length) (h2:j<t.length),∃q,ys[j]= .sl (t[j].map iA) q)∧i≤t.length∧m=t.length - i∧lk ρ 3=some y∧lk ρ 9=some (.sl (t.map cM) .no)∧lk ρ 10=some (.i t.length)∧lk ρ 11=some (.i i)) t.length ?_ ?_
 ·refine⟨0,_,[],.full (.refl _),rfl,fun j h1=>aas,aar,rfl, ?_, ?_, ?_, ?_⟩<;>simp only[go_sem]
 ·rintro m ρ h' ⟨i,y,ys,hy,hn,hys,hi,rfl,r3,r9,r10,r11⟩
  simp only[go_sem,r10,r11];refine .intro (fun e=> ?_) (fun e=> ?_)
  ·have hlt:i<t.length:=aao e
   have w1:IntKind.i64.wrap ((i:Int)+1)=((i+1:Nat):Int):=aaE;obtain⟨ha0,hal,hae⟩:=zo (he _ (aam hlt));simp only[go_sem,r9,r11];refine .at i aas aaH ?_;simp only[go_sem,aai,cM,aah];refine .intro (fun m ρ H=>∃(j:Nat) (z:AV) (zs:List AV),Acc U 274 h' H z zs∧zs=(t[i].take j).map iA∧j≤t[i].length∧m=t[i].length - j∧lk ρ 3=some y∧lk ρ 9=some (.sl (t.map cM) .no)∧lk ρ 10=some (.i t.length)∧lk ρ 11=some (.i i)∧lk ρ 6=some z∧lk ρ 15=some (.sl (t[i].map iA) .no)∧lk ρ 16=some (.i t[i].length)∧lk ρ 17=some (.i j)) t[i].length ?_ ?_
   ·refine⟨0,_,[],.full (.refl _),rfl,aar,rfl, ?_, ?_, ?_, ?_, ?_, ?_, ?_, ?_⟩<;>simp only[go_sem,r3,r9,r10,r11]
   ·rintro m ρ H ⟨j,z,zs,hz,rfl,hj,rfl,r3,r9,r10,r11,r6,r15,r16,r17⟩
    simp only[go_sem,r16,r17];refine .intro (fun e=> ?_) (fun e=> ?_)
    ·have hlt2:j<t[i].length:=aao e
     have w2:IntKind.i64.wrap ((j:Int)+1)=((j+1:Nat):Int):=aaE;have hml:=(zn (hae _ (aam hlt2))).2.1;simp only[go_sem,r15,r17];refine .at j aas aaH ?_;simp only[go_sem,r6,aai,iA];refine(BR _ (t[i][j].map dz) _ (dZ dz 7 (fun _=>rfl) _ _) aas (Kr _)).pthen ?_
     simp only[go_sem];refine hz.app (zs:=[iA t[i][j]]) aau aau (fun k hk=>hk) (by rw[S0];exact bp (f:=iA) (fun _=>rfl) _) (by rw[S0];exact bp (f:=iA) (fun _=>rfl) [t[i][j]]) (by simp only[go_sem,aah,List.length_cons,List.length_nil,List.length_take];omega) fun z' H' hz' _=> ?_
     simp only[go_sem,r17,w2];refine⟨_, ?_,j+1,z',_,hz', ?_,aar,rfl, ?_, ?_, ?_, ?_, ?_, ?_, ?_, ?_⟩
     ·omega
     ·grind [List.take_succ_eq_append_getElem]
     all_goals simp only[go_sem,r3,r9,r10,r11,r15,r16]
    ·have hge:j=t[i].length:=by grind
     subst hge;rw[List.take_length]at hz;have hyH:=hy.sub hz.1;obtain⟨q,rfl⟩:=hz.row;simp only[go_sem,r3,r6];refine hyH.app (zs:=[.sl (t[i].map iA) q]) aau aau (fun k hk=>hk) (by rw[S1];intro w hw;obtain⟨k,hk,rfl⟩:=List.mem_iff_getElem.1 hw;obtain⟨q',e'⟩:=hys k hk aar;rw[e'];rfl) (by rw[S1];intro w hw;rw[List.mem_singleton.1 hw];rfl) (by simp only[go_sem,hn,List.length_cons,List.length_nil];omega) fun y' H' hy' _=> ?_
     simp only[go_sem,r11,w1];refine⟨_, ?_,i+1,y',_,hy',aas,fun k h1 h2=> ?_,aar,rfl, ?_, ?_, ?_, ?_⟩
     ·omega
     ·grind
     all_goals simp only[go_sem,r9,r10]
  ·have hge:i=t.length:=by grind
   simp only[go_sem,r3];obtain⟨q,rfl⟩:=hy.row;refine .mk (aT t) ?_ hy.1 ⟨rfl,rfl⟩;refine .deep _ _ q aas (fun k h1 h2=> ?_) fun k h1 h2 j h3 h4=> ?_
   ·obtain⟨q',e'⟩:=hys k h1 aar
    rw[e',aai];rfl
   ·obtain⟨q',e'⟩:=hys k h1 aar
    simp only[e',AV.cells,List.length_singleton]at h3;obtain rfl:j=0:=aar;simp only[e',aai,cM,AV.cells,List.getElem_singleton];exact ac3
theorem xU(t:fQ):cG (aT t)=true:=by
 refine bn (fun a=> ?_) t
 refine bn (fun b=> ?_) a
 exact bn (fun _=>rfl) b
theorem HY(l:List aM):cG (eU l)=true:=by simp only[eU,cG];exact bn (fun _=>rfl) l
theorem uh(l:List cA):cG (az l)=true:=by simp only[az,cG];exact bn (fun _=>rfl) l
theorem z7(r:cK):cG (aA r)=true:=by simp[aA,cG,gF,xU,HY,uh]
mutual
theorem CY:∀p:bG,cG (aK p)=true
 |.mk id set alg tgt rules kids obls=>by simp[aK,cG,gF,xU,uh,bn z7 rules,ug kids]
theorem ug:∀l:List bG,gF (fj l)=true
 | []=>rfl
 |k::r=>by simp[fj,gF,CY k,ug r]
end
theorem iS(p:bG):(aK p).cells.length=7:=by cases p;rfl
theorem LP{l:List aM}(h:jF l=0):l.length≤32:=by
 grind [wV]
theorem FU{l:List cA}(h:gO l=0):l.length≤8:=(jP h).1
theorem ux{H:Heap}{i:Nat}{x:Option Blk}(h:H i=x):upd H i x=H:=by
 grind [ah,ag]
theorem kV{tb:TypeId}{h:Heap}{sz id i:Nat}{y:AV}{xs cs:List AV}{t:TypeId}(hw:Ow tb h sz id y xs)(hi:h i=some (.obj cs t))(ht:t≠tb):id≠i:=by
 obtain⟨cap,rest,rfl,h1,_⟩:=hw
 grind
theorem kG{sz:Nat}{xs:List AV}(hs:Sized sz xs)(j:Nat)(hj:j<xs.length)(o:Nat)(c:List AV)(ho:o+c.length≤sz){rest:List AV}:
  (aq xs++rest).take (j*sz+o)++c++(aq xs++rest).drop (j*sz+o+c.length)=aq (xs.set j (.agg (Ab.over xs[j].cells o c)))++rest:=by
 have hl:=aW hs;have hb:(j+1)*sz≤xs.length*sz:=Nat.mul_le_mul_right _ aar;rw[Nat.add_mul,Nat.one_mul]at hb;have:=Ki (us:=aq xs) (vs:=rest) (o:=j*sz+o) (c:=c) aar;rw[Ab.over]at this;rw[this,G0 hs j hj o c ho]
theorem qg{α:Type}{xs:List α}{i:Nat}{x:α}(h:xs[i]? =some x):xs.set i x=xs:=by
 obtain⟨hi,rfl⟩:=List.getElem?_eq_some_iff.1 h;simp
theorem mC(id:Txt)(set:Bool)(alg:Int)(tgt:fQ)(rules:List cK)(kids:List bG)(obls:List cA):aK (.mk id set alg tgt rules kids obls)= .agg [.s id,.b set,.i alg,aT tgt,.sl (rules.map aA) .no,.sl (kids.map aK) .no,az obls]:=by simp[aK,aV]
theorem sH:∀(p:bG) (d:Nat),lU d p→∀h,ai Tryz.prog 178 [aK p] h fun r h' =>r=aK p∧h' =h
 |.mk pid pset palg ptgt prules pkids pobls,d,hp,h=>by
  obtain⟨_,_,_,_,_,_,ht,ho,hr16,hk16,hre,hke⟩:=hp;rw[pQ]at hke;have ih:∀(j:Nat) (hj:j<pkids.length) (h:Heap),ai Tryz.prog 178 [aK pkids[j]] h fun r h' =>r=aK pkids[j]∧h' =h:=fun j hj h=>sH pkids[j] (d+1) (hke _ (aam hj)) h
  have hob:=FU ho;refine ai.freeze fun g hg _=> ?_
  rw[mC];refine aaq Tryz.func178 72 [.cell 2 65] fun hwf=> ?_
  simp only[go_sem];intro i1 h1;simp only[go_sem];intro i2 h2;have n21:=aF h2;have n2:=aB h2;simp only[go_sem];obtain⟨H,eH⟩:∃H,upd (upd g i1 (some (.obj [.s pid,.b pset,.i palg,aT ptgt,.sl (prules.map aA) .no,.sl (pkids.map aK) .no,az pobls] 65))) i2 (some (.obj [.s [],.b false,.i 0,.sl [] .full,.sl [] .full,.sl [] .full,.sl [] .full] 65))=H:=⟨_,rfl⟩;have hH:Ab.Sub g H:=by rw[←eH];exact((Sub.refl g).put h1 _).put n2 _
  have g1:H i1=some (.obj [.s pid,.b pset,.i palg,aT ptgt,.sl (prules.map aA) .no,.sl (pkids.map aK) .no,az pobls] 65):=abU;have g2:H i2=some (.obj [.s [],.b false,.i 0,.sl [] .full,.sl [] .full,.sl [] .full,.sl [] .full] 65):=abM;rw[eH];refine .stage (hm1 i1 _) [0,1,3,4,2,6,5] [7,8,9] (.hm1 g1) aav ?_;simp only[go_sem,fN];refine(sI ptgt ht H).pthen ?_;refine⟨.hm1 g1, ?_⟩;simp only[go_sem];refine(zu _ (pobls.map bl) H (dZ bl 3 (fun _=>rfl) _ _) aa7 (bn (fun _=>rfl) _)).pthen ?_
  refine⟨.hm1 g1,di,(fun _ _ e=>aaU), ?_⟩
  have cT:(aT ptgt).cells= [aT ptgt]:=rfl;simp only[go_sem,g1,show fit (aT ptgt) 1=(1=1)from rfl,cT]
  have eo:(.sl (pobls.map bl) .no:AV)=az pobls:=rfl;rw[eo];refine⟨fun _ _ e=>aaU,fun _ _ e=>aaU, ?_⟩
  rw[ux g1];refine .stage (hm1 i1 _) [0,1,3,4,2,6,5] [7,8,9] (.hm1 g1) aav ?_;simp only[go_sem,fN];refine(GH _ (prules.map aA) H (dZ aA 5 (fun _=>rfl) _ _) aa7).mono fun y4 H1 ⟨w4,s1⟩=> ?_
  refine⟨.hm1 (s1 _ _ g1), ?_⟩;simp only[go_sem];refine(BP _ (pkids.map aK) H1 (dZ aK 7 iS _ _) aa7).mono fun y5 H2 ⟨w5,s2⟩=> ?_
  have g1' :=s2 _ _ (s1 _ _ g1);have g2' :=s2 _ _ (s1 _ _ g2);refine⟨.hm1 g1',di,(fun _ _ e=>aaU), ?_⟩
  simp only[go_sem,g1',w4.rd.fit,w4.rd.cells,w5.rd.fit,w5.rd.cells];refine⟨fun _ _ e=>aaU,fun _ _ e=>aaU, ?_⟩
  have hn4:∀id,nid y4=some id→id≠i2:=fun id e=>cC (w4.nid e).1 g2
  have hn5:∀id,nid y5=some id→id≠i2:=fun id e=>cC (w5.nid e).1 (s1 _ _ g2)
  have hnd:∀i,nid y4=some i→nid y5≠some i:=fun i e4 e5=>(w4.nid e4).2.1 (w5.nid e5).1
  have v4:∀b,OwE 224 g (upd H2 i1 b) 5 y4 (prules.map aA):=fun b=>((w4.sub s2).less hH).keep fun id e=>ag _ _ (cC (w4.nid e).1 g1)
  have v5:∀b,OwE 65 g (upd H2 i1 b) 7 y5 (pkids.map aK):=fun b=>(w5.less (hH.trans s1)).keep fun id e=>ag _ _ (cC (s1.none (w5.nid e).1) g1)
  have vs:∀b,Ab.Sub g (upd H2 i1 b):=fun b=>(hH.trans (s1.trans s2)).put h1 b
  have vz:∀b,upd H2 i1 b i2=some (.obj [.s [],.b false,.i 0,.sl [] .full,.sl [] .full,.sl [] .full,.sl [] .full] 65):=fun b=>by rw[ag _ _ n21];exact g2'
  obtain⟨H3,eH3⟩:∃H3,upd H2 i1 (some (.obj [.s pid,.b pset,.i palg,aT ptgt,y4,y5,az pobls] 65))=H3:=⟨_,rfl⟩;have q1:H3 i1=some (.obj [.s pid,.b pset,.i palg,aT ptgt,y4,y5,az pobls] 65):=by rw[←eH3,ah]
  replace v4:=v4 (some (.obj [.s pid,.b pset,.i palg,aT ptgt,y4,y5,az pobls] 65));replace v5:=v5 (some (.obj [.s pid,.b pset,.i palg,aT ptgt,y4,y5,az pobls] 65));replace vs:=vs (some (.obj [.s pid,.b pset,.i palg,aT ptgt,y4,y5,az pobls] 65));replace vz:=vz (some (.obj [.s pid,.b pset,.i palg,aT ptgt,y4,y5,az pobls] 65));rw[eH3]at v4 v5 vs vz;rw[eH3];clear eH3;have hi1:∀id,g id=none→∀ {K:Heap} {b:Blk},K id=some b→K id≠none:=fun id _ K b e=>by rw[e];simp
  simp only[go_sem,v4.rd.len,aah];refine .intro (fun m ρ G=>∃i:Nat,G i1=some (.obj [.s pid,.b pset,.i palg,aT ptgt,y4,y5,az pobls] 65)∧G i2=some (.obj [.s [],.b false,.i 0,.sl [] .full,.sl [] .full,.sl [] .full,.sl [] .full] 65)∧Ab.Sub g G∧OwE 224 g G 5 y4 (prules.map aA)∧OwE 65 g G 7 y5 (pkids.map aK)∧i≤prules.length∧m=prules.length - i∧
   lk ρ 1=some (.ptr i1 0)∧lk ρ 2=some (.ptr i2 0)∧lk ρ 24=some y4∧lk ρ 25=some (.i prules.length)∧lk ρ 26=some (.i i)) prules.length ?_ ?_
  ·refine⟨0,q1,vz,vs,v4,v5,aar,rfl, ?_, ?_, ?_, ?_, ?_⟩<;>simp only[go_sem]
  ·rintro m ρ G ⟨i,q1,vz,vs,v4,v5,hi,rfl,r1,r2,r24,r25,r26⟩
   simp only[go_sem,r25,r26];refine .intro (fun e=> ?_) (fun e=> ?_)
   ·have hlt:i<prules.length:=aao e
    have w1:=aan i aar;obtain⟨_,rt,rc,ro⟩:=hre _ (aam hlt);have hrc:=LP rc;have hro:=FU ro;simp only[go_sem,r24,r26];refine v4.rd.idx (e:=224) i rfl aaQ aaA aau fun p hp1=> ?_
    have hld:=hp1.all (U:=U) (ty:=224) aaA aa2 aa2;simp only[go_sem,hld,aai,aA];intro i4 h4;have n41:i4≠i1:=cC h4 q1;simp only[go_sem];obtain⟨G4,eG4⟩:∃G4,upd G i4 (some (.obj [.s prules[i].id,.b prules[i].deny,aT prules[i].tgt,eU prules[i].cond,az prules[i].obls] 224))=G4:=⟨_,rfl⟩;rw[eG4];have p1:G4 i1=some (.obj [.s pid,.b pset,.i palg,aT ptgt,y4,y5,az pobls] 65):=ac2;have p4:G4 i4=some (.obj [.s prules[i].id,.b prules[i].deny,aT prules[i].tgt,eU prules[i].cond,az prules[i].obls] 224):=by rw[←eG4,ah]
    have sG:Ab.Sub G G4:=adI;refine .calls (hm2 i1 (.obj [.s pid,.b pset,.i palg,aT ptgt,y4,y5,az pobls] 65) i4 (.obj [.s prules[i].id,.b prules[i].deny,aT prules[i].tgt,eU prules[i].cond,az prules[i].obls] 224)) [0,1,2,3,4,5,6,7,8,9,10,12,13,15,16,11,14,17,18,19,20,21,22,23,24,25,26] (.hm2 p1 p4) aav rfl ?_;simp only[go_sem,r1,qA _ _ n41.symm,qB];refine(sI prules[i].tgt rt G4).pthen ?_;refine⟨.hm2 p1 p4, ?_⟩;simp only[go_sem];refine(DM _ (prules[i].cond.map dj) G4 (dZ dj 7 (fun _=>rfl) _ _) aa7 (bn (fun _=>rfl) _)).pthen ?_
    refine⟨.hm2 p1 p4, ?_⟩;simp only[go_sem];refine(zu _ (prules[i].obls.map bl) G4 (dZ bl 3 (fun _=>rfl) _ _) aa7 (bn (fun _=>rfl) _)).pthen ?_
    refine⟨.hm2 p1 p4, ?_⟩;simp only[go_sem];obtain⟨id4,hg4,o4⟩:=(v4.sub sG).ow acy;have m1:id4≠i1:=kV o4 p1 aau;have m4:id4≠i4:=fun e=>(v4.nid o4.nid).2.1 (by rw[e];exact h4)
    refine o4.idx (U:=U) (e:=224) i rfl aaQ aaA aau ?_;simp only[go_sem];have o4' :=o4;obtain⟨cap,rest,ey,hid,hr,hc,hsz⟩:=o4';have hbd:i*5+5≤(aq (prules.map aA)++rest).length:=by
     rw[aal,aW hsz,aah];omega
    have e2:List.take (i*5+2) (aq (prules.map aA)++rest)++(aT prules[i].tgt).cells++List.drop (i*5+2+(aT prules[i].tgt).cells.length) (aq (prules.map aA)++rest)=aq (prules.map aA)++rest:=by
     refine(kG hsz i aaQ 2 ((aT prules[i].tgt).cells) (aag rfl)).trans ?_;exact afP
    have e3:List.take (i*5+3) (aq (prules.map aA)++rest)++ [.sl (prules[i].cond.map dj) .no]++List.drop (i*5+3+1) (aq (prules.map aA)++rest)=aq (prules.map aA)++rest:=by
     refine(kG hsz i aaQ 3 ([.sl (prules[i].cond.map dj) .no]) (aag rfl)).trans ?_;exact afP
    have e4:List.take (i*5+4) (aq (prules.map aA)++rest)++ [.sl (prules[i].obls.map bl) .no]++List.drop (i*5+4+1) (aq (prules.map aA)++rest)=aq (prules.map aA)++rest:=by
     refine(kG hsz i aaQ 4 ([.sl (prules[i].obls.map bl) .no]) (aag rfl)).trans ?_;exact afP
    simp only[go_sem,hid];rw[e2,ux hid];refine⟨rfl,aar,.hm2 p1 p4, ?_⟩;refine o4.idx (U:=U) (e:=224) i rfl aaQ aaA aau ?_;simp only[go_sem,hid];rw[e3,ux hid];refine⟨aar,.hm2 p1 p4, ?_⟩;refine o4.idx (U:=U) (e:=224) i rfl aaQ aaA aau ?_;simp only[go_sem,hid];rw[e4,ux hid];refine⟨aar,.hm2 p1 p4, ?_⟩;simp only[go_sem,r26,w1];refine⟨_, ?_,i+1,p1,sG _ _ vz,vs.trans sG,v4.sub sG,v5.sub sG,aar,rfl, ?_, ?_, ?_, ?_, ?_⟩
    ·omega
    all_goals simp only[go_sem,r1,r2,r24,r25]
   ·have hge:i=prules.length:=by have:=aak e;omega
    clear hge;simp only[go_sem,r1,q1,v5.rd.len,aah];refine .intro (fun m ρ G=>∃i:Nat,G i1=some (.obj [.s pid,.b pset,.i palg,aT ptgt,y4,y5,az pobls] 65)∧G i2=some (.obj [.s [],.b false,.i 0,.sl [] .full,.sl [] .full,.sl [] .full,.sl [] .full] 65)∧Ab.Sub g G∧OwE 224 g G 5 y4 (prules.map aA)∧OwE 65 g G 7 y5 (pkids.map aK)∧i≤pkids.length∧m=pkids.length - i∧
     lk ρ 1=some (.ptr i1 0)∧lk ρ 2=some (.ptr i2 0)∧lk ρ 57=some y5∧lk ρ 58=some (.i pkids.length)∧lk ρ 59=some (.i i)) pkids.length ?_ ?_
    ·refine⟨0,q1,vz,vs,v4,v5,aar,rfl, ?_, ?_, ?_, ?_, ?_⟩<;>simp only[go_sem,r1,r2]
    ·clear r1 r2 r24 r25 r26 q1 vz vs v4 v5 e hi
     rintro m ρ G ⟨i,q1,vz,vs,v4,v5,hi,rfl,r1,r2,r57,r58,r59⟩
     simp only[go_sem,r58,r59];refine .intro (fun e=> ?_) (fun e=> ?_)
     ·have hlt:i<pkids.length:=aao e
      have w1:=aan i aar;have ihi:=ih i hlt;have hci:=iS pkids[i];cases hpk:pkids[i]with
      |mk kid kset kalg ktgt krules kkids kobls=>
      rw[hpk,mC]at ihi;simp only[go_sem,r57,r59];refine v5.rd.idx (e:=65) i rfl aaQ aaA aau fun p hp1=> ?_
      have hld:=hp1.all (U:=U) (ty:=65) aaA (by simp only[go_sem];rw[aai];exact hci) (by simp only[go_sem];rw[aai,hpk,mC];rfl)
      simp only[go_sem,hld,aai,hpk,mC];intro i4 h4;have n41:i4≠i1:=cC h4 q1;simp only[go_sem];obtain⟨G4,eG4⟩:∃G4,upd G i4 (some (.obj [.s kid,.b kset,.i kalg,aT ktgt,.sl (krules.map aA) .no,.sl (kkids.map aK) .no,az kobls] 65))=G4:=⟨_,rfl⟩;rw[eG4];have p1:G4 i1=some (.obj [.s pid,.b pset,.i palg,aT ptgt,y4,y5,az pobls] 65):=ac2;have p4:G4 i4=some (.obj [.s kid,.b kset,.i kalg,aT ktgt,.sl (krules.map aA) .no,.sl (kkids.map aK) .no,az kobls] 65):=by rw[←eG4,ah]
      have sG:Ab.Sub G G4:=adI;refine .calls (hm2 i1 (.obj [.s pid,.b pset,.i palg,aT ptgt,y4,y5,az pobls] 65) i4 (.obj [.s kid,.b kset,.i kalg,aT ktgt,.sl (krules.map aA) .no,.sl (kkids.map aK) .no,az kobls] 65)) [0,1,2,3,4,5,6] (.hm2 p1 p4) aav rfl ?_;simp only[go_sem,r1,qA _ _ n41.symm,qB];refine(ihi G4).pthen ?_;refine⟨.hm2 p1 p4, ?_⟩;simp only[go_sem];obtain⟨id4,hg4,o4⟩:=(v5.sub sG).ow acy;have o4' :=o4;obtain⟨cap,rest,ey,hid,hr,hc,hsz⟩:=o4';have hbd:i*7+7≤(aq (pkids.map aK)++rest).length:=by
       rw[aal,aW hsz,aah];omega
      have e2:List.take (i*7) (aq (pkids.map aK)++rest)++ [.s kid,.b kset,.i kalg,aT ktgt,.sl (krules.map aA) .no,.sl (kkids.map aK) .no,az kobls]++List.drop (i*7+7) (aq (pkids.map aK)++rest)=aq (pkids.map aK)++rest:=by
       refine(kG hsz i aaQ 0 [.s kid,.b kset,.i kalg,aT ktgt,.sl (krules.map aA) .no,.sl (kkids.map aK) .no,az kobls] (aag rfl)).trans ?_;rw[qg];rw[List.getElem?_eq_getElem aaQ,aai,hpk,mC];rfl
      refine o4.idx (U:=U) (e:=65) i rfl aaQ aaA aau ?_;simp only[go_sem,hid];rw[e2,ux hid];refine⟨aar,.hm2 p1 p4, ?_⟩;simp only[go_sem,r59,w1];refine⟨_, ?_,i+1,p1,sG _ _ vz,vs.trans sG,v4.sub sG,v5.sub sG,aar,rfl, ?_, ?_, ?_, ?_, ?_⟩
      ·omega
      all_goals simp only[go_sem,r1,r2,r57,r58]
     ·simp only[go_sem,r1,r2,q1,vz]
      refine .mk _ (.refl _) (.refl _) ⟨vs.put n2 _,aK (.mk pid pset palg ptgt prules pkids pobls), ?_,mC ..⟩;rw[mC];have z4:∀b,Frz g (upd G i2 b) y4 (.sl (prules.map aA) .no):=fun b=>(v4.keep fun id e=>ag _ _ (hn4 id e)).frz (bn z7 prules)
      have z5:∀b,Frz g (upd G i2 b) y5 (.sl (pkids.map aK) .no):=fun b=>(v5.keep fun id e=>ag _ _ (hn5 id e)).frz (by rw[←aV];exact ug pkids)
      refine .agg _ _ rfl fun k k1 k2=> ?_
      rcases k with _|_|_|_|_|_|_|k
      ·exact aaL
      ·exact aaL
      ·exact aaL
      ·exact .pure (xU _)
      ·exact z4 _
      ·exact z5 _
      ·exact .pure (uh _)
      ·simp at k1;omega
termination_by p=>SizeOf.sizeOf p
decreasing_by
 have:=List.sizeOf_lt_of_mem (aam hj);simp only[bG.mk.sizeOf_spec];omega
end Go.Proofs.YtcochaoekecfdaaGreatDoor
namespace Go.Ab
open Go
def apart(a b:AV):Prop:=∀i,nid a=some i→nid b≠some i
theorem apart.symm{a b:AV}(h:apart a b):apart b a:=fun i e1 e2=>h i e2 e1
theorem dL{a y:AV}{tb:TypeId}{g h:Heap}{sz:Nat}{xs:List AV}(hw:OwE tb g h sz y xs)(ha:∀i,nid a=some i→g i≠none):apart a y:=fun i e1 e2=>ha i e1 (hw.nid e2).1
theorem OwE.there{tb:TypeId}{h0 h h' :Heap}{sz:Nat}{y:AV}{xs:List AV}(hw:OwE tb h0 h sz y xs)(hs:∀i,h i≠Option.none→h' i≠Option.none):∀i,Ab.nid y=some i→h' i≠Option.none:=fun i e=>hs i (hw.nid e).2.1
theorem Sub.some{h h' :Heap}(hs:Sub h h'):∀i,h i≠Option.none→h' i≠Option.none:=fun i e e' =>e (hs.none e')
end Go.Ab
namespace Go.Proofs.YtcochaoekecfdaaGreatDoor
open Go Go.Ab Go.Bf
def eS(h0 h:Heap)(ys:List AV)(x:AV)(c:aJ):Prop:=∃f l,x= .agg [.s c.id,.s c.owner,.s c.state,f,l]∧OwE 215 h0 h 4 f (c.fields.map bJ)∧OwE 205 h0 h 3 l (c.log.map hY)∧apart f l∧∀y∈ys,apart f y∧apart l y
def kY(h0 h:Heap)(ys:List AV)(y1:AV)(cs:List aJ)(i0:Nat):Prop:=∃xs,OwE 134 h0 h 5 y1 xs∧xs.length=cs.length∧(∀j (h1:j<xs.length) (h2:j<cs.length),j≠i0→xs[j]=cm cs[j])∧∀(h1:i0<xs.length) (h2:i0<cs.length),eS h0 h ys xs[i0] cs[i0]
def rO(h0 h:Heap)(x:AV)(s:an)(i0:Nat):Prop:=∃y1 y2 y3 y4,x= .agg ([.i s.tick,y1,y2,y3,y4]++fJ s.policy++ [.i s.version])∧kY h0 h [y1,y2,y3,y4] y1 s.cases i0∧
 OwE 143 h0 h 7 y2 (s.reviews.map ie)∧OwE 146 h0 h 3 y3 (s.notices.map lY)∧OwE 149 h0 h 2 y4 (s.roles.map dU)∧apart y1 y2∧apart y1 y3∧apart y1 y4∧apart y2 y3∧apart y2 y4∧apart y3 y4
theorem HT{cs L:List AV}(h:L.length=cs.length):Ab.over cs 0 L=L:=by
 simp_all [Ab.over,List.take_zero,List.nil_append,Nat.zero_add,List.drop_of_length_le,List.append_nil]
theorem CO{h:Heap}{x:AV}{c:aJ}(i i0:Nat)(hb:RdC h x c)(hl:c.fields.length≤1000000)(hl2:c.log.length≤1000000):ai Tryz.prog 139 [x] h fun r h' =>
  ∃f l,r= .agg [.s c.id,.s c.owner,.s c.state,f,l]∧Ab.Sub h h'∧f.cells= [f]∧l.cells= [l]∧(i≠i0→f=fV c.fields∧l=rD c.log)∧(i=i0→OwE 215 h h' 4 f (c.fields.map bJ)∧OwE 205 h h' 3 l (c.log.map hY)∧apart f l):=by
 by_cases e:i=i0
 ·exact(xM hb hl hl2).mono fun r h' ⟨⟨f,l,e1,a,b,c⟩,d⟩=>⟨f,l,e1,d,a.rd.cells,b.rd.cells,fun hh=>(hh e).elim,fun _=>⟨a,b,c⟩⟩
 ·exact(vj hb hl hl2).mono fun r h' ⟨e1,e2⟩=>⟨_,_,e1,by rw[e2];exact .refl _,rfl,rfl,fun _=>⟨rfl,rfl⟩,fun hh=>(e hh).elim⟩
theorem eS.sub{h0 h h' :Heap}{ys:List AV}{x:AV}{c:aJ}(hm:eS h0 h ys x c)(hs:Ab.Sub h h'):eS h0 h' ys x c:=by
 obtain⟨f,l,e,a,b,c,d⟩:=hm;exact⟨f,l,e,a.sub hs,b.sub hs,c,d⟩
theorem eS.keep{h0 h h' :Heap}{ys:List AV}{x:AV}{c:aJ}(hm:eS h0 h ys x c)(hs:∀f l,x= .agg [.s c.id,.s c.owner,.s c.state,f,l]→(∀y∈ys,apart f y∧apart l y)→∀i,(nid f=some i∨nid l=some i)→h' i=h i):eS h0 h' ys x c:=by
 obtain⟨f,l,e,a,b,c,d⟩:=hm;exact⟨f,l,e,a.keep fun i hi=>hs f l e d i (.inl hi),b.keep fun i hi=>hs f l e d i (.inr hi),c,d⟩
theorem Pv{h:Heap}{x:AV}{s:an}(hb:RdS h x s)(i0:Nat)(hf:Few s)(hp:lU 1 s.policy):ai Tryz.prog 133 [x] h fun r h' =>rO h h' r s i0∧Ab.Sub h h' :=by
 obtain⟨y1,y2,y3,y4,rfl,⟨xs0,hc,hn,hcs⟩,h2,h3,h4⟩:=hb;have hpo:=sH s.policy 1 hp;cases hpp:s.policy with
 |mk pid pset palg ptgt prules pkids pobls=>
 rw[hpp,mC]at hpo;have hcC:fJ (.mk pid pset palg ptgt prules pkids pobls)= [.s pid,.b pset,.i palg,aT ptgt,.sl (prules.map aA) .no,.sl (pkids.map aK) .no,az pobls]:=adt;have hfc:=hf.cases;refine aaq Tryz.func133 41 [.cell 2 67] fun hwf=> ?_
 simp only[go_sem,hcC,List.cons_append,List.nil_append];intro i1 h1;simp only[go_sem];intro i2 h2';have n21:=aF h2';have n2:=aB h2';simp only[go_sem,ak,n21.symm];obtain⟨H,eH⟩:∃H,upd (upd h i1 (some (.obj [.i s.tick,y1,y2,y3,y4,.s pid,.b pset,.i palg,aT ptgt,.sl (prules.map aA) .no,.sl (pkids.map aK) .no,az pobls,.i s.version] 67))) i2 (some (.obj [.i 0,.sl [] .full,.sl [] .full,.sl [] .full,.sl [] .full,.s [],.b false,.i 0,.sl [] .full,.sl [] .full,.sl [] .full,.sl [] .full,.i 0] 67))=H:=⟨_,rfl⟩;have hH:Ab.Sub h H:=abl;have g1:H i1=some (.obj [.i s.tick,y1,y2,y3,y4,.s pid,.b pset,.i palg,aT ptgt,.sl (prules.map aA) .no,.sl (pkids.map aK) .no,az pobls,.i s.version] 67):=abU;have g2:H i2=some (.obj [.i 0,.sl [] .full,.sl [] .full,.sl [] .full,.sl [] .full,.s [],.b false,.i 0,.sl [] .full,.sl [] .full,.sl [] .full,.sl [] .full,.i 0] 67):=abM;rw[eH];clear eH;refine(zp y1 xs0 H (hc.sub hH) aar).mono fun z1 H1 ⟨w1,s1⟩=> ?_
 simp only[go_sem,s1 _ _ g1,w1.rd.fit,w1.rd.cells];have v1:∀b,OwE 134 h (upd H1 i1 b) 5 z1 xs0:=fun b=>(w1.less hH).keep fun id e=>ag _ _ (cC (w1.nid e).1 g1)
 have vs:∀b,Ab.Sub h (upd H1 i1 b):=fun b=>(hH.trans s1).put h1 b
 have vz:∀b,upd H1 i1 b i2=some (.obj [.i 0,.sl [] .full,.sl [] .full,.sl [] .full,.sl [] .full,.s [],.b false,.i 0,.sl [] .full,.sl [] .full,.sl [] .full,.sl [] .full,.i 0] 67):=fun b=>by rw[ag _ _ n21];exact s1 _ _ g2
 have hz1:∀id,nid z1=some id→id≠i1:=fun id e=>cC (w1.nid e).1 g1
 have hz2:∀id,nid z1=some id→id≠i2:=fun id e=>cC (w1.nid e).1 g2
 obtain⟨H2,eH2⟩:∃H2,upd H1 i1 (some (.obj [.i s.tick,z1,y2,y3,y4,.s pid,.b pset,.i palg,aT ptgt,.sl (prules.map aA) .no,.sl (pkids.map aK) .no,az pobls,.i s.version] 67))=H2:=⟨_,rfl⟩;replace v1:=v1 (some (.obj [.i s.tick,z1,y2,y3,y4,.s pid,.b pset,.i palg,aT ptgt,.sl (prules.map aA) .no,.sl (pkids.map aK) .no,az pobls,.i s.version] 67));replace vs:=vs (some (.obj [.i s.tick,z1,y2,y3,y4,.s pid,.b pset,.i palg,aT ptgt,.sl (prules.map aA) .no,.sl (pkids.map aK) .no,az pobls,.i s.version] 67));replace vz:=vz (some (.obj [.i s.tick,z1,y2,y3,y4,.s pid,.b pset,.i palg,aT ptgt,.sl (prules.map aA) .no,.sl (pkids.map aK) .no,az pobls,.i s.version] 67));have q1:H2 i1=some (.obj [.i s.tick,z1,y2,y3,y4,.s pid,.b pset,.i palg,aT ptgt,.sl (prules.map aA) .no,.sl (pkids.map aK) .no,az pobls,.i s.version] 67):=by rw[←eH2,ah]
 rw[eH2]at v1 vs vz;rw[eH2];clear eH2;simp only[go_sem,v1.rd.len,hn];refine .intro (fun m ρ G=>∃(i:Nat) (xs:List AV),G i1=some (.obj [.i s.tick,z1,y2,y3,y4,.s pid,.b pset,.i palg,aT ptgt,.sl (prules.map aA) .no,.sl (pkids.map aK) .no,az pobls,.i s.version] 67)∧G i2=some (.obj [.i 0,.sl [] .full,.sl [] .full,.sl [] .full,.sl [] .full,.s [],.b false,.i 0,.sl [] .full,.sl [] .full,.sl [] .full,.sl [] .full,.i 0] 67)∧Ab.Sub h G∧OwE 134 h G 5 z1 xs∧xs.length=s.cases.length∧(∀j (h1:j<xs.length) (h2:j<s.cases.length),j<i→j≠i0→xs[j]=cm s.cases[j])∧(∀(h1:i0<xs.length) (h2:i0<s.cases.length),i0<i→eS h G [z1] xs[i0] s.cases[i0])∧(∀j (h1:j<xs.length) (h2:j<s.cases.length),i≤j→RdC h xs[j] s.cases[j])∧i≤s.cases.length∧m=s.cases.length - i∧
  lk ρ 1=some (.ptr i1 0)∧lk ρ 2=some (.ptr i2 0)∧lk ρ 10=some z1∧lk ρ 11=some (.i s.cases.length)∧lk ρ 12=some (.i i)) s.cases.length ?_ ?_
 ·refine⟨0,xs0,q1,vz,vs,v1,hn,fun j _ _ hj=>aar,fun _ _ hj=>aar,fun j a b _=>hcs j a b,aar,rfl, ?_, ?_, ?_, ?_, ?_⟩<;>simp only[go_sem]
 ·rintro m ρ G ⟨i,xs,q1,vz,vs,v1,hn,hlo,hmy,hhi,hi,rfl,r1,r2,r10,r11,r12⟩
  simp only[go_sem,r11,r12];refine .intro (fun e=> ?_) (fun e=> ?_)
  ·have hlt:i<s.cases.length:=aao e
   have hltx:i<xs.length:=aar;have w1:=aan i aar;obtain⟨f,l,ex,hfl,hlg⟩:=hhi i hltx hlt (Nat.le_refl _);have hff:=hf.fields _ (aam hlt);have hfg:=hf.log _ (aam hlt);simp only[go_sem,r10,r12];refine v1.rd.idx (e:=134) i rfl hltx mH aau fun p hp1=> ?_
   have hld:=hp1.all (U:=U) (ty:=134) aaA (by rw[mH,ex];rfl) (by simp only[go_sem];rw[ex];rfl)
   simp only[go_sem,hld,ex];intro i4 h4;have n41:i4≠i1:=cC h4 q1;simp only[go_sem];obtain⟨G4,eG4⟩:∃G4,upd G i4 (some (.obj [.s s.cases[i].id,.s s.cases[i].owner,.s s.cases[i].state,f,l] 134))=G4:=⟨_,rfl⟩;rw[eG4];have p1:G4 i1=some (.obj [.i s.tick,z1,y2,y3,y4,.s pid,.b pset,.i palg,aT ptgt,.sl (prules.map aA) .no,.sl (pkids.map aK) .no,az pobls,.i s.version] 67):=ac2;have p4:G4 i4=some (.obj [.s s.cases[i].id,.s s.cases[i].owner,.s s.cases[i].state,f,l] 134):=by rw[←eG4,ah]
   have sG:Ab.Sub G G4:=adI;refine .calls (hm2 i1 (.obj [.i s.tick,z1,y2,y3,y4,.s pid,.b pset,.i palg,aT ptgt,.sl (prules.map aA) .no,.sl (pkids.map aK) .no,az pobls,.i s.version] 67) i4 (.obj [.s s.cases[i].id,.s s.cases[i].owner,.s s.cases[i].state,f,l] 134)) [0,1,2,3,4,5,6] (.hm2 p1 p4) aav rfl ?_;simp only[go_sem,r1,qA _ _ n41.symm,qB];refine(CO i i0 (show RdC G4 (.agg [.s s.cases[i].id,.s s.cases[i].owner,.s s.cases[i].state,f,l]) s.cases[i]from⟨f,l,rfl,hfl.sub (vs.trans sG),hlg.sub (vs.trans sG)⟩) hff hfg).mono fun r G5 ⟨f',l',er,s5,cf,cl,hne,heq⟩=> ?_
   subst er;have p1' :=s5 _ _ p1;have p4' :=s5 _ _ p4;refine⟨.hm2 p1' p4', ?_⟩;simp only[go_sem];obtain⟨id1,hg1,o1⟩:=((v1.sub sG).sub s5).ow (by intro e;rw[e]at hltx;cases hltx)
   have t1:id1≠i1:=kV o1 p1' aau;have t2:id1≠i2:=hz2 id1 o1.nid;have t3:G4 id1≠none:=fun e=>(v1.nid o1.nid).2.1 (sG.none e)
   have o1' :=o1;obtain⟨cap,rest,ey,hid,hr,hcap,hsz⟩:=o1';have hbd:i*5+5≤(aq xs++rest).length:=by
    rw[aal,aW hsz];omega
   have hx5:xs[i].cells.length=5:=hsz _ (aam hltx);have e2:List.take (i*5) (aq xs++rest)++ [.s s.cases[i].id,.s s.cases[i].owner,.s s.cases[i].state,f',l']++List.drop (i*5+5) (aq xs++rest)=aq (xs.set i (.agg [.s s.cases[i].id,.s s.cases[i].owner,.s s.cases[i].state,f',l']))++rest:=by
    refine(kG hsz i hltx 0 [.s s.cases[i].id,.s s.cases[i].owner,.s s.cases[i].state,f',l'] (aag rfl)).trans ?_;rw[HT (by rw[hx5];rfl)]
   refine o1.idx (U:=U) (e:=134) i rfl hltx mH aau ?_;simp only[go_sem,hid];rw[e2];have t4:id1≠i4:=fun e=>(v1.nid o1.nid).2.1 (by rw[e];exact h4)
   refine⟨aar,.hm2 (by rw[ag _ _ t1.symm];exact p1') (by rw[ag _ _ t4.symm];exact p4'), ?_⟩
   simp only[go_sem,r12,w1];have ho:∀b k,k≠id1→upd G5 id1 b k=G5 k:=fun b k hk=>ag _ _ hk
   have hs6:∀b,Ab.Sub h (upd G5 id1 b):=fun b=>((vs.trans sG).trans s5).put hg1 b
   refine⟨_, ?_,i+1,xs.set i (.agg [.s s.cases[i].id,.s s.cases[i].owner,.s s.cases[i].state,f',l']),(ho _ _ t1.symm).trans p1',(ho _ _ t2.symm).trans (s5 _ _ (sG _ _ vz)),hs6 _,.inr ⟨id1,hg1,cap,rest,acH,ah ..,by rw[List.length_set];exact hr,acz, ?_⟩,by rw[List.length_set];exact hn,fun j a b hj hj0=> ?_,fun a b hj=> ?_,fun j a b hj=> ?_,aar,rfl, ?_, ?_, ?_, ?_, ?_⟩
   ·omega
   ·intro z hz
    exact ae9
   ·have a' :j<xs.length:=by rw[List.length_set]at a;exact a
    by_cases hji:j=i
    ·subst hji
     obtain⟨ef,el⟩:=hne hj0;rw[List.getElem_set_self,ef,el];rfl
    ·rw[List.getElem_set_ne (Ne.symm hji)]
     exact hlo j a' b aar hj0
   ·have a' :i0<xs.length:=by rw[List.length_set]at a;exact a
    by_cases hji:i=i0
    ·subst hji
     obtain⟨of,ol,hap⟩:=heq rfl;have kf:∀k,G4 k=none→upd G5 id1 (some (.obj (aq (xs.set i (.agg [.s s.cases[i].id,.s s.cases[i].owner,.s s.cases[i].state,f',l']))++rest) 134)) k=G5 k:=fun k hk=>ag _ _ fun e=>t3 (by rw[←e];exact hk)
     rw[List.getElem_set_self];refine⟨f',l',rfl,(of.less (vs.trans sG)).keep fun k hk=>kf k (of.nid hk).1,(ol.less (vs.trans sG)).keep fun k hk=>kf k (ol.nid hk).1,hap,fun y hy=> ?_⟩
     rw[List.mem_singleton.1 hy];have hz1:∀k,nid z1=some k→G4 k≠none:=(v1.sub sG).there fun k hk=>hk
     exact⟨(dL of hz1).symm,(dL ol hz1).symm⟩
    ·rw[List.getElem_set_ne hji]
     have hm:=hmy a' b aar;refine eS.keep (h:=G5) ((hm.sub sG).sub s5) fun f l ex hap k hk=> ?_
     refine ag _ _ fun e=> ?_
     subst e;rcases hk with hk|hk
     ·exact(hap z1 (List.mem_singleton.2 rfl)).1 _ hk o1.nid
     ·exact(hap z1 (List.mem_singleton.2 rfl)).2 _ hk o1.nid
   ·have a' :j<xs.length:=by rw[List.length_set]at a;exact a
    rw[List.getElem_set_ne aar];exact hhi j a' b aar
   all_goals simp only[go_sem,r1,r2,r10,r11]
  ·have hge:i=s.cases.length:=by have:=aak e;omega
   simp only[go_sem];refine .stage (hm1 i1 (.obj [.i s.tick,z1,y2,y3,y4,.s pid,.b pset,.i palg,aT ptgt,.sl (prules.map aA) .no,.sl (pkids.map aK) .no,az pobls,.i s.version] 67)) [0,1,3,4,6,7,2,9,5,8] [10,11,12,13,14] (.hm1 q1) aav ?_;simp only[go_sem,r1,fN];refine(uQ y2 _ G (h2.sub vs) (by rw[aah];exact hf.reviews)).mono fun z2 G1 ⟨o2,s1⟩=> ?_
   refine⟨.hm1 (s1 _ _ q1), ?_⟩;simp only[go_sem,r1];refine(uN y3 _ G1 ((h3.sub vs).sub s1) (by rw[aah];exact hf.notices)).mono fun z3 G2 ⟨o3,s2⟩=> ?_
   refine⟨.hm1 (s2 _ _ (s1 _ _ q1)), ?_⟩;simp only[go_sem];refine(GG y4 _ G2 (((h4.sub vs).sub s1).sub s2) (by rw[aah];exact hf.roles)).mono fun z4 G3 ⟨o4,s3⟩=> ?_
   have s03:Ab.Sub G G3:=s1.trans (s2.trans s3);have q1' :=s03 _ _ q1;have q2' :=s03 _ _ vz;refine⟨.hm1 q1',di,(fun _ _ e=>aaU), ?_⟩
   simp only[go_sem,r1,q1',o2.rd.fit,o2.rd.cells,o3.rd.fit,o3.rd.cells,o4.rd.fit,o4.rd.cells];refine⟨fun _ _ e=>aaU,fun _ _ e=>aaU,fun _ _ e=>aaU, ?_⟩
   refine(show ai Tryz.prog 178 [_] _ _ from hpo _).pthen ?_
   have vz' :∀b,upd G3 i1 b i2=some (.obj [.i 0,.sl [] .full,.sl [] .full,.sl [] .full,.sl [] .full,.s [],.b false,.i 0,.sl [] .full,.sl [] .full,.sl [] .full,.sl [] .full,.i 0] 67):=fun b=>by rw[ag _ _ n21];exact q2'
   simp only[go_sem,r1,r2,vz'];have k1:∀ {tb:TypeId} {z:AV} {xs:List AV} {n:Nat} {g:Heap},OwE tb g G3 n z xs→Ab.Sub h g→(∀id,nid z=some id→id≠i1∧id≠i2)→∀a b,OwE tb h (upd (upd G3 i1 a) i2 b) n z xs:=fun w hg hn a b=>(w.less hg).keep fun id e=>by
    rw[ag _ _ (hn id e).2,ag _ _ (hn id e).1]
   have new:∀ {tb:TypeId} {z:AV} {xs:List AV} {n:Nat} {g:Heap},OwE tb g G3 n z xs→Ab.Sub G g→∀id,nid z=some id→id≠i1∧id≠i2:=fun w hg id e=>⟨cC (w.nid e).1 (hg _ _ q1),cC (w.nid e).1 (hg _ _ vz)⟩
   have n2' :=new (o2.sub (s2.trans s3)) (.refl _);have n3' :=new (o3.sub s3) s1;have n4' :=new o4 (s1.trans s2);have n1' :∀id,nid z1=some id→id≠i1∧id≠i2:=fun id e=>⟨hz1 id e,hz2 id e⟩
   have aG:∀k,nid z1=some k→G k≠none:=v1.there fun k hk=>hk
   refine .mk _ (.refl _) (.refl _) ⟨⟨z1,z2,z3,z4,by rw[hpp,hcC];rfl,⟨xs,k1 (v1.sub s03) (.refl _) n1' _ _,hn,fun j a b hj=>hlo j a b aar hj,fun a b=> ?_⟩,k1 (o2.sub (s2.trans s3)) vs n2' _ _,k1 (o3.sub s3) (vs.trans s1) n3' _ _,k1 o4 (vs.trans (s1.trans s2)) n4' _ _, ?_, ?_, ?_, ?_, ?_, ?_⟩,((vs.trans s03).put h1 _).put n2 _⟩
   ·have hm:=(hmy a b aar).sub s03
    obtain⟨f,l,ex,of,ol,hap,hy⟩:=hm;obtain⟨af,al⟩:=hy z1 (List.mem_singleton.2 rfl);have kf:∀k,nid f=some k→k≠i1∧k≠i2:=fun k hk=>⟨kV (of.nid hk).2.2 q1' aau,kV (of.nid hk).2.2 q2' aau⟩
    have kl:∀k,nid l=some k→k≠i1∧k≠i2:=fun k hk=>⟨kV (ol.nid hk).2.2 q1' aau,kV (ol.nid hk).2.2 q2' aau⟩
    obtain⟨f0,l0,ex0,of0,ol0,_⟩:=hmy a b aar;obtain⟨rfl,rfl⟩:f0=f∧l0=l:=by
     rw[ex0]at ex;simp only[AV.agg.injEq,List.cons.injEq,true_and,and_true]at ex;exact ex
    have gf:∀k,nid f0=some k→G k≠none:=of0.there fun k hk=>hk
    have gl:∀k,nid l0=some k→G k≠none:=ol0.there fun k hk=>hk
    refine⟨f0,l0,ex,k1 of (.refl _) kf _ _,k1 ol (.refl _) kl _ _,hap,fun y hy=> ?_⟩
    simp only[List.mem_cons,List.not_mem_nil,or_false]at hy;rcases hy with rfl|rfl|rfl|rfl
    ·exact⟨af,al⟩
    ·exact⟨dL o2 gf,dL o2 gl⟩
    ·exact⟨dL o3 fun k hk=>s1.some k (gf k hk),dL o3 fun k hk=>s1.some k (gl k hk)⟩
    ·exact⟨dL o4 fun k hk=>(s1.trans s2).some k (gf k hk),dL o4 fun k hk=>(s1.trans s2).some k (gl k hk)⟩
   ·exact dL o2 aG
   ·exact dL o3 fun k hk=>s1.some k (aG k hk)
   ·exact dL o4 fun k hk=>(s1.trans s2).some k (aG k hk)
   ·exact dL o3 (o2.there fun k hk=>hk)
   ·exact dL o4 ((o2.sub s2).there fun k hk=>hk)
   ·exact dL o4 (o3.there fun k hk=>hk)
end Go.Proofs.YtcochaoekecfdaaGreatDoor
namespace Go.Ab
open Go
theorem nT{A B C X:List AV}{k m:Nat}(hk:k=A.length)(hm:m=X.length)(h:X.length=B.length):(A++(B++C)).take k++X++(A++(B++C)).drop (k+m)=A++(X++C):=by
 grind
theorem FH{A B C X:List AV}{k1 k2 k3 k4:Nat}(h1:k1=A.length+X.length)(h2:k2=k1+B.length)(h3:k3=A.length)(h4:k4=k3+X.length)(hc:X.length≤C.length):
  List.take k3 (List.take k1 (A++(B++C))++B++List.drop k2 (A++(B++C)))++X++List.drop k4 (List.take k1 (A++(B++C))++B++List.drop k2 (A++(B++C)))=A++(X++(B++C.drop X.length)):=by
 subst h1;subst h2;subst h3;subst h4
 have e1:List.take (A.length+X.length) (A++(B++C))=A++List.take X.length (B++C):=aas;have e2:List.drop (A.length+X.length+B.length) (A++(B++C))=C.drop X.length:=by
  grind [Nat.add_assoc,List.drop_drop,List.drop_left,Nat.add_comm]
 rw[e1,e2,List.append_assoc A];have e3:(List.take X.length (B++C)).length=X.length:=by rw[List.length_take,aal];omega
 have e4:A++(List.take X.length (B++C)++B++List.drop X.length C)=A++(List.take X.length (B++C)++(B++C.drop X.length)):=aaz;rw[List.append_assoc A,e4];exact nT rfl rfl e3.symm
theorem FI{A Z R X B:List AV}{k1 k2 k3 k4:Nat}(h1:k1=A.length)(h2:k2=k1+X.length)(h3:k3=A.length+X.length)(h4:k4=k3+B.length)(hz:Z.length=X.length+B.length):
  List.take k3 (List.take k1 (A++Z++R)++X++List.drop k2 (A++Z++R))++B++List.drop k4 (List.take k1 (A++Z++R)++X++List.drop k2 (A++Z++R))=A++(X++(B++R)):=by
 subst h1;subst h2;subst h3;subst h4
 obtain⟨Z1,Z2,rfl,e1⟩:∃Z1 Z2,Z=Z1++Z2∧Z1.length=X.length:=⟨Z.take X.length,Z.drop X.length,(List.take_append_drop _ _).symm,aas⟩;have e2:Z2.length=B.length:=aas;have e3:A++(Z1++Z2)++R=A++(Z1++(Z2++R)):=aaz;rw[e3,nT rfl rfl e1.symm,←List.append_assoc A X,nT aaz rfl e2.symm,List.append_assoc]
end Go.Ab
namespace Go.Proofs.YtcochaoekecfdaaGreatDoor
open Go Go.Ab Go.Bf
theorem HR{h:Heap}{v:AV}{id off len cap:Nat}{cs:List AV}{t:TypeId}(hv:v.cells.length=5)(hid:h id=some (.obj cs t))(hcs:cs≠ []):ai Tryz.prog 179 [.sl [v] .full,.ob id off len cap 5] h fun r h' =>r= .b false∧h' =h:=
 vi (U:=U) (tS:=55) (tR:=4) (e:=134) hU Tryz.func179 aaG aaG aaG aav aaG aau (by simp only[go_sem];omega) aaz hid hcs
theorem Ek(y:AV)(xs:List AV)(v:AV)(i:Nat)(h0 h:Heap)(hw:OwE 134 h0 h 5 y xs)(hs0:Ab.Sub h0 h)(hi:i≤xs.length)(hl:xs.length≤1000000)(hv:v.cells.length=5)(hva:fit v 5):
  ai Tryz.prog 135 [y,.i i,.sl [v] .full] h fun r h' =>OwE 134 h0 h' 5 r (xs.take i++([v]++xs.drop i))∧(∀k,h k≠none→nid y≠some k→h' k=h k)∧∀k,nid r=some k→h k=none∨nid y=some k:=by
 rcases hw with⟨rfl,rfl⟩|⟨id,hg,cap,rest,rfl,hid,hr,hc,hsz⟩
 ·obtain rfl:i=0:=by simpa using hi
  refine aaq Tryz.func135 95 [.tmp 6] fun hwf=> ?_
  simp -implicitDefEqProofs only[go_sem];refine⟨aar,aar,hv,.ob aaA (jH.ow (xs:=[v]) aci adN rfl fun id y' h' hid hw ho=> ?_)⟩
  have hw' :Ow 134 h' 5 id y' [v]:=ads;simp -implicitDefEqProofs only[go_sem];refine .same (.refl _) ⟨.inr ⟨id,hs0.none hid,hw'⟩,fun k hk _=>ho k (fun e=>hk (by rw[e];exact hid)),fun k hk=> ?_⟩
  rw[show au [y']=y' from rfl,hw'.nid]at hk
  cases hk;exact .inl hid
 ·have how:OwE 134 h0 h 5 (.ob id 0 xs.length cap 5) xs:=.inr ⟨id,hg,cap,rest,rfl,hid,hr,hc,hsz⟩
  have hfl:=aW hsz;refine aaq Tryz.func135 95 [.tmp 6] fun hwf=> ?_
  simp -implicitDefEqProofs only[go_sem];refine⟨aar,aar, ?_⟩;cases d1:((i:Int)==(xs.length:Int))
  case true=>
   have hin:i=xs.length:=by
    have:(i:Int)=(xs.length:Int):=adq;omega
   simp -implicitDefEqProofs only[go_sem];subst hin;refine⟨aar, ?_⟩;refine OwE.app (U:=U) (tb:=134) how hs0 (.sl adf .full:Rd h 5 (.sl [v] .full) [v]) aaA aau aaw aaA aaz acN fun id2 y' h' g2 hor hw ho=> ?_
   simp -implicitDefEqProofs only[go_sem];have e1:xs.take xs.length++([v]++xs.drop xs.length)=xs++ [v]:=aaz;refine .same (.refl _) ⟨by have:OwE 134 h0 h' 5 y' (xs++ [v]):=.inr ⟨id2,g2,hw⟩;rw[←e1]at this;exact this,fun k hk hk2=>ho k fun e=> ?_,fun k hk=> ?_⟩
   ·rcases hor with hor|⟨l,c,ey⟩
    ·exact hk aei
    ·cases ey
     exact hk2 aec
   ·exact afz
  have hne:i<xs.length:=by
   have:¬(i:Int)=(xs.length:Int):=adq;omega
  have wn:IntKind.i64.wrap ((xs.length:Int)+1)=((xs.length+1:Nat):Int):=aaV;have wi:=aan i aar;have wm:IntKind.i64.wrap (((xs.length+1:Nat):Int) - (i:Int))=((xs.length+1 - i:Nat):Int):=aaV;have f1:aq xs=aq (xs.take i)++aq (xs.drop i):=adM;have f2:(aq (xs.take i)).length=i*5:=by rw[aW (sz:=5) fun z hz=>hsz z (List.mem_of_mem_take hz),List.length_take,Nat.min_eq_left hi]
  have f3:(aq (xs.drop i)).length=(xs.length - i)*5:=by rw[aW (sz:=5) fun z hz=>hsz z (List.mem_of_mem_drop hz),List.length_drop]
  have f4:aq (xs.take i++([v]++xs.drop i))=aq (xs.take i)++(v.cells++aq (xs.drop i)):=adN;have f5:Sized 5 (xs.take i++([v]++xs.drop i)):=fun z hz=>by
   exact afa
  have f6:(xs.take i++([v]++xs.drop i)).length=xs.length+1:=aa7;have f6' :(xs.take i++v::xs.drop i).length=xs.length+1:=f6;cases d2:decide ((cap:Int)<((xs.length+1:Nat):Int))
  ·have e2:=aak d2
   simp -implicitDefEqProofs only[go_sem,wn,d2];refine⟨aar, ?_⟩;simp -implicitDefEqProofs only[go_sem,wi];have hcs:aq xs++rest≠ []:=by
    intro e;have:=congrArg List.length e;rw[aal,hfl]at this;simp at this;omega
   refine⟨aar,aar,aar,aar,aar,aar, ?_⟩;refine(HR hv hid hcs).pthen ?_;simp -implicitDefEqProofs only[go_sem];refine .calls di [0,1,2,3,4,5,6,7,8] (fun _ _ e=>aaU) aav rfl ?_
   simp -implicitDefEqProofs only[go_sem,wi,hid,Nat.sub_zero];have hmin:min (xs.length+1 - i) (xs.length+1 - (i+1))=xs.length - i:=aar;refine⟨aar,aar,aar,aar,aar,aar,xs.drop i,ac5,acV, ?q1,fun z hz=>hsz z (List.mem_of_mem_drop hz),acj,by rw[aal,hfl,hr];omega,ad8,aar,aar,aar,hv,aar, ?ln, ?fin⟩
   case q1=>rw[hmin,f1,List.append_assoc,←f2,List.drop_left,←f3,List.take_left]
   case ln=>simp only[aal,List.length_take,List.length_drop,hfl,hr,f3];omega
   have hrl:(5:Nat)≤rest.length:=by rw[hr];omega
   have hfv:aq [v]=v.cells:=adN;have key:=FH (A:=aq (xs.take i)) (B:=aq (xs.drop i)) (C:=rest) (X:=aq [v]) (k1:=(i+1)*5) (k2:=(i+1)*5+(aq (xs.drop i)).length) (k3:=i*5) (k4:=i*5+(aq [v]).length) adV rfl f2.symm rfl (by rw[hfv,hv];exact hrl)
   rw[←List.append_assoc (aq (xs.take i)) (aq (xs.drop i)) rest,←f1]at key;rw[key];have e8:aq (xs.take i)++(aq [v]++(aq (xs.drop i)++rest.drop (aq [v]).length))=aq (xs.take i++([v]++xs.drop i))++rest.drop 5:=by rw[f4,hfv,hv];simp only[List.append_assoc]
   rw[e8];refine .same (.refl _) ⟨.inr ⟨id,hg,cap,rest.drop 5,by rw[←f6];rfl,ah _ _ _,by rw[List.length_drop,hr,f6'];omega,abW,f5⟩,fun k hk hk2=>ag _ _ fun e=>hk2 aec,fun k hk=> .inr hk⟩
  ·have e2:=aaj d2
   simp -implicitDefEqProofs only[go_sem,wn,d2,wm];refine⟨aar, ?_⟩;simp -implicitDefEqProofs only[go_sem,hid];have eA:List.take (i*5) (aq xs++rest)=aq (xs.take i):=by rw[f1,List.append_assoc,←f2,List.take_left]
   refine⟨aar,aar,aar,aar,aar,aar,by rw[aal,hfl];omega, ?_⟩
   rw[Nat.sub_zero,eA];obtain⟨Z,eZ⟩:∃Z,cD (AV.agg [AV.s [],AV.s [],AV.s [],AV.sl [] Perm.full,AV.sl [] Perm.full]) (xs.length+1 - i) 5=Z:=⟨_,rfl⟩;have lZ:Z.length=(xs.length+1 - i)*5:=by rw[←eZ];simp[cD]
   rw[eZ];intro id2 cap2 rest2 hid2 hc2 hr2;have hx:¬id=id2:=fun e=>by rw[e,hid2]at hid;cases hid
   simp -implicitDefEqProofs only[go_sem];have hfv:aq [v]=v.cells:=adN;refine⟨aar,aar,aar,hv,aar,acB, ?_⟩;refine .calls di [0,1,2,3,4,5,6,7,8] (fun _ _ e=>aaU) aav rfl ?_
   simp -implicitDefEqProofs only[go_sem,wi,hid,hx,Nat.sub_zero];have hmin:min (xs.length - i) (i+(xs.length+1 - i) - (i+1))=xs.length - i:=aar;have l0:(aq (xs.take i)++Z++rest2).length=(i+(xs.length+1 - i))*5+(cap2 - (i+(xs.length+1 - i)))*5:=acB;refine⟨aar,aar,aar,aar,aar,aar,xs.drop i,ac5,acV, ?q2,fun z hz=>hsz z (List.mem_of_mem_drop hz),acj, ?lm,ad8, ?fim⟩
   case q2=>rw[hmin,f1,List.append_assoc,←f2,List.drop_left,←f3,List.take_left]
   case lm=>rw[hfv];simp only[aal,List.length_take,List.length_drop,l0,hv];omega
   rw[FI f2.symm rfl adV rfl (by rw[hfv,hv,lZ,f3];omega)]
   have e8:aq (xs.take i)++(aq [v]++(aq (xs.drop i)++rest2))=aq (xs.take i++([v]++xs.drop i))++rest2:=by rw[f4,hfv];simp only[List.append_assoc]
   rw[e8];have e9:i+(xs.length+1 - i)=xs.length+1:=aar;rw[e9]at hr2 hc2⊢;refine .same (.refl _) ⟨.inr ⟨id2,hs0.none hid2,cap2,rest2,by rw[←f6];rfl,ah _ _ _,by rw[hr2,f6'],by rw[f6'];omega,f5⟩,fun k hk hk2=>ag _ _ fun e=>hk (by rw[e];exact hid2),fun k hk=> .inl (by cases hk;exact hid2)⟩
theorem EE{h:Heap}{v:AV}{id off len cap:Nat}{cs:List AV}{t:TypeId}(hv:v.cells.length=4)(hid:h id=some (.obj cs t))(hcs:cs≠ []):ai Tryz.prog 223 [.sl [v] .full,.ob id off len cap 4] h fun r h' =>r= .b false∧h' =h:=
 vi (U:=U) (tS:=131) (tR:=4) (e:=215) hU Tryz.func223 aaG aaG aaG aav aaG aau (by simp only[go_sem];omega) aaz hid hcs
theorem Cn(y:AV)(xs:List AV)(v:AV)(i:Nat)(h0 h:Heap)(hw:OwE 215 h0 h 4 y xs)(hs0:Ab.Sub h0 h)(hi:i≤xs.length)(hl:xs.length≤1000000)(hv:v.cells.length=4)(hva:fit v 4):
  ai Tryz.prog 182 [y,.i i,.sl [v] .full] h fun r h' =>OwE 215 h0 h' 4 r (xs.take i++([v]++xs.drop i))∧(∀k,h k≠none→nid y≠some k→h' k=h k)∧∀k,nid r=some k→h k=none∨nid y=some k:=by
 rcases hw with⟨rfl,rfl⟩|⟨id,hg,cap,rest,rfl,hid,hr,hc,hsz⟩
 ·obtain rfl:i=0:=by simpa using hi
  refine aaq Tryz.func182 95 [.tmp 6] fun hwf=> ?_
  simp -implicitDefEqProofs only[go_sem];refine⟨aar,aar,hv,.ob aaA (jH.ow (xs:=[v]) aci adN rfl fun id y' h' hid hw ho=> ?_)⟩
  have hw' :Ow 215 h' 4 id y' [v]:=ads;simp -implicitDefEqProofs only[go_sem];refine .same (.refl _) ⟨.inr ⟨id,hs0.none hid,hw'⟩,fun k hk _=>ho k (fun e=>hk (by rw[e];exact hid)),fun k hk=> ?_⟩
  rw[show au [y']=y' from rfl,hw'.nid]at hk
  cases hk;exact .inl hid
 ·have how:OwE 215 h0 h 4 (.ob id 0 xs.length cap 4) xs:=.inr ⟨id,hg,cap,rest,rfl,hid,hr,hc,hsz⟩
  have hfl:=aW hsz;refine aaq Tryz.func182 95 [.tmp 6] fun hwf=> ?_
  simp -implicitDefEqProofs only[go_sem];refine⟨aar,aar, ?_⟩;cases d1:((i:Int)==(xs.length:Int))
  case true=>
   have hin:i=xs.length:=by
    have:(i:Int)=(xs.length:Int):=adq;omega
   simp -implicitDefEqProofs only[go_sem];subst hin;refine⟨aar, ?_⟩;refine OwE.app (U:=U) (tb:=215) how hs0 (.sl adf .full:Rd h 4 (.sl [v] .full) [v]) aaA aau aaw aaA aaz acN fun id2 y' h' g2 hor hw ho=> ?_
   simp -implicitDefEqProofs only[go_sem];have e1:xs.take xs.length++([v]++xs.drop xs.length)=xs++ [v]:=aaz;refine .same (.refl _) ⟨by have:OwE 215 h0 h' 4 y' (xs++ [v]):=.inr ⟨id2,g2,hw⟩;rw[←e1]at this;exact this,fun k hk hk2=>ho k fun e=> ?_,fun k hk=> ?_⟩
   ·rcases hor with hor|⟨l,c,ey⟩
    ·exact hk aei
    ·cases ey
     exact hk2 aec
   ·exact afz
  have hne:i<xs.length:=by
   have:¬(i:Int)=(xs.length:Int):=adq;omega
  have wn:IntKind.i64.wrap ((xs.length:Int)+1)=((xs.length+1:Nat):Int):=aaV;have wi:=aan i aar;have wm:IntKind.i64.wrap (((xs.length+1:Nat):Int) - (i:Int))=((xs.length+1 - i:Nat):Int):=aaV;have f1:aq xs=aq (xs.take i)++aq (xs.drop i):=adM;have f2:(aq (xs.take i)).length=i*4:=by rw[aW (sz:=4) fun z hz=>hsz z (List.mem_of_mem_take hz),List.length_take,Nat.min_eq_left hi]
  have f3:(aq (xs.drop i)).length=(xs.length - i)*4:=by rw[aW (sz:=4) fun z hz=>hsz z (List.mem_of_mem_drop hz),List.length_drop]
  have f4:aq (xs.take i++([v]++xs.drop i))=aq (xs.take i)++(v.cells++aq (xs.drop i)):=adN;have f5:Sized 4 (xs.take i++([v]++xs.drop i)):=fun z hz=>by
   exact afa
  have f6:(xs.take i++([v]++xs.drop i)).length=xs.length+1:=aa7;have f6' :(xs.take i++v::xs.drop i).length=xs.length+1:=f6;cases d2:decide ((cap:Int)<((xs.length+1:Nat):Int))
  ·have e2:=aak d2
   simp -implicitDefEqProofs only[go_sem,wn,d2];refine⟨aar, ?_⟩;simp -implicitDefEqProofs only[go_sem,wi];have hcs:aq xs++rest≠ []:=by
    intro e;have:=congrArg List.length e;rw[aal,hfl]at this;simp at this;omega
   refine⟨aar,aar,aar,aar,aar,aar, ?_⟩;refine(EE hv hid hcs).pthen ?_;simp -implicitDefEqProofs only[go_sem];refine .calls di [0,1,2,3,4,5,6,7,8] (fun _ _ e=>aaU) aav rfl ?_
   simp -implicitDefEqProofs only[go_sem,wi,hid,Nat.sub_zero];have hmin:min (xs.length+1 - i) (xs.length+1 - (i+1))=xs.length - i:=aar;refine⟨aar,aar,aar,aar,aar,aar,xs.drop i,ac5,acV, ?q1,fun z hz=>hsz z (List.mem_of_mem_drop hz),acj,by rw[aal,hfl,hr];omega,ad8,aar,aar,aar,hv,aar, ?ln, ?fin⟩
   case q1=>rw[hmin,f1,List.append_assoc,←f2,List.drop_left,←f3,List.take_left]
   case ln=>simp only[aal,List.length_take,List.length_drop,hfl,hr,f3];omega
   have hrl:(4:Nat)≤rest.length:=by rw[hr];omega
   have hfv:aq [v]=v.cells:=adN;have key:=FH (A:=aq (xs.take i)) (B:=aq (xs.drop i)) (C:=rest) (X:=aq [v]) (k1:=(i+1)*4) (k2:=(i+1)*4+(aq (xs.drop i)).length) (k3:=i*4) (k4:=i*4+(aq [v]).length) adV rfl f2.symm rfl (by rw[hfv,hv];exact hrl)
   rw[←List.append_assoc (aq (xs.take i)) (aq (xs.drop i)) rest,←f1]at key;rw[key];have e8:aq (xs.take i)++(aq [v]++(aq (xs.drop i)++rest.drop (aq [v]).length))=aq (xs.take i++([v]++xs.drop i))++rest.drop 4:=by rw[f4,hfv,hv];simp only[List.append_assoc]
   rw[e8];refine .same (.refl _) ⟨.inr ⟨id,hg,cap,rest.drop 4,by rw[←f6];rfl,ah _ _ _,by rw[List.length_drop,hr,f6'];omega,abW,f5⟩,fun k hk hk2=>ag _ _ fun e=>hk2 aec,fun k hk=> .inr hk⟩
  ·have e2:=aaj d2
   simp -implicitDefEqProofs only[go_sem,wn,d2,wm];refine⟨aar, ?_⟩;simp -implicitDefEqProofs only[go_sem,hid];have eA:List.take (i*4) (aq xs++rest)=aq (xs.take i):=by rw[f1,List.append_assoc,←f2,List.take_left]
   refine⟨aar,aar,aar,aar,aar,aar,by rw[aal,hfl];omega, ?_⟩
   rw[Nat.sub_zero,eA];obtain⟨Z,eZ⟩:∃Z,cD (AV.agg [AV.s [],AV.v (Value.int IntKind.i64 0),AV.v (Value.int IntKind.i64 0),AV.s []]) (xs.length+1 - i) 4=Z:=⟨_,rfl⟩;have lZ:Z.length=(xs.length+1 - i)*4:=by rw[←eZ];simp[cD]
   rw[eZ];intro id2 cap2 rest2 hid2 hc2 hr2;have hx:¬id=id2:=fun e=>by rw[e,hid2]at hid;cases hid
   simp -implicitDefEqProofs only[go_sem];have hfv:aq [v]=v.cells:=adN;refine⟨aar,aar,aar,hv,aar,acB, ?_⟩;refine .calls di [0,1,2,3,4,5,6,7,8] (fun _ _ e=>aaU) aav rfl ?_
   simp -implicitDefEqProofs only[go_sem,wi,hid,hx,Nat.sub_zero];have hmin:min (xs.length - i) (i+(xs.length+1 - i) - (i+1))=xs.length - i:=aar;have l0:(aq (xs.take i)++Z++rest2).length=(i+(xs.length+1 - i))*4+(cap2 - (i+(xs.length+1 - i)))*4:=acB;refine⟨aar,aar,aar,aar,aar,aar,xs.drop i,ac5,acV, ?q2,fun z hz=>hsz z (List.mem_of_mem_drop hz),acj, ?lm,ad8, ?fim⟩
   case q2=>rw[hmin,f1,List.append_assoc,←f2,List.drop_left,←f3,List.take_left]
   case lm=>rw[hfv];simp only[aal,List.length_take,List.length_drop,l0,hv];omega
   rw[FI f2.symm rfl adV rfl (by rw[hfv,hv,lZ,f3];omega)]
   have e8:aq (xs.take i)++(aq [v]++(aq (xs.drop i)++rest2))=aq (xs.take i++([v]++xs.drop i))++rest2:=by rw[f4,hfv];simp only[List.append_assoc]
   rw[e8];have e9:i+(xs.length+1 - i)=xs.length+1:=aar;rw[e9]at hr2 hc2⊢;refine .same (.refl _) ⟨.inr ⟨id2,hs0.none hid2,cap2,rest2,by rw[←f6];rfl,ah _ _ _,by rw[hr2,f6'],by rw[f6'];omega,f5⟩,fun k hk hk2=>ag _ _ fun e=>hk (by rw[e];exact hid2),fun k hk=> .inl (by cases hk;exact hid2)⟩
end Go.Proofs.YtcochaoekecfdaaGreatDoor
namespace Go.Ab
open Go
noncomputable def pick (H:Heap) (l:List Nat):Heap:=fun j=>if j∈l then H j else none
theorem bz{H:Heap}{l:List Nat}{j:Nat}(hj:j∈l):pick H l j=H j:=if_pos hj
theorem ic{H h' :Heap}{l:List Nat}(hs:∀j∈l,h' j=H j):Sub (pick H l) h' :=fun j b hb=>by
 simp_all [bz,pick,if_neg]
theorem bO{H:Heap}{l:List Nat}:Sub (pick H l) H:=ic fun _ _=>rfl
end Go.Ab
namespace Go.Proofs.YtcochaoekecfdaaGreatDoor
open Go Go.Ab Go.Bf
def bY(c:aJ)(f l:AV):List AV:=[.s c.id,.s c.owner,.s c.state,f,l]
theorem ry{h0 h:Heap}{s:an}(y1 y2 y3 y4:AV){k o:Nat}{A B:List AV}{t:TypeId}{c:aJ}{f l:AV}(ho:o=A.length)(hk:h k=some (.obj (A++(bY c f l++B)) t))(ht:t≠205)
  (hlo:OwE 205 h0 h 3 l (c.log.map hY)) (hs0:Ab.Sub h0 h) (hll:c.log.length≤1000000) (actor what:Txt):
  ai Tryz.prog 134 [.agg ([.i s.tick,y1,y2,y3,y4]++fJ s.policy++ [.i s.version]),.ptr k o,.s actor,.s what] h fun r h' =>∃l',OwE 205 h0 h' 3 l' ((c.log++ [(⟨s.tick,actor,what⟩:wj)]).map hY)∧h' k=some (.obj (A++(bY c f l' ++B)) t)∧(∀j,h j≠none→j≠k→nid l≠some j→h' j=h j)∧∀j,nid l' =some j→h j=none∨nid l=some j:=by
 cases hpp:s.policy with
 |mk pid pset palg ptgt prules pkids pobls=>
 have hcC:fJ (.mk pid pset palg ptgt prules pkids pobls)= [.s pid,.b pset,.i palg,aT ptgt,.sl (prules.map aA) .no,.sl (pkids.map aK) .no,az pobls]:=adt;refine aaq Tryz.func134 22 [] fun hwf=> ?_
 simp only[go_sem,hcC,List.cons_append,List.nil_append];intro i1 h1;simp only[go_sem];obtain⟨H,eH⟩:∃H,upd h i1 (some (.obj [.i s.tick,y1,y2,y3,y4,.s pid,.b pset,.i palg,aT ptgt,.sl (prules.map aA) .no,.sl (pkids.map aK) .no,az pobls,.i s.version] 67))=H:=⟨_,rfl⟩;have n1k:k≠i1:=fun e=>by rw[e,h1]at hk;cases hk
 have g1:H i1=some (.obj [.i s.tick,y1,y2,y3,y4,.s pid,.b pset,.i palg,aT ptgt,.sl (prules.map aA) .no,.sl (pkids.map aK) .no,az pobls,.i s.version] 67):=abM;have gk:H k=some (.obj (A++(bY c f l++B)) t):=by rw[←eH,ag _ _ n1k];exact hk
 have hH:Ab.Sub h H:=by rw[←eH];exact(Sub.refl h).put h1 _
 have hoj:∀j,j≠i1→H j=h j:=fun j hj=>by rw[←eH];exact ag _ _ hj
 rw[eH];clear eH;refine .stage (hm2 k (.obj (A++(bY c f l++B)) t) i1 (.obj [.i s.tick,y1,y2,y3,y4,.s pid,.b pset,.i palg,aT ptgt,.sl (prules.map aA) .no,.sl (pkids.map aK) .no,az pobls,.i s.version] 67)) [0,1,2,3,4,5,6,7,8,9,10,11,12,13] [14] (.hm2 gk g1) aav ?_;have hc4:(A++(bY c f l++B))[o+4]? =some l:=acd;obtain⟨CS,eCS⟩:∃CS,A++(bY c f l++B)=CS:=⟨_,rfl⟩;rw[eCS]at hc4 gk⊢;simp only[go_sem,qB,qA _ _ n1k,hc4];have hap1:Rd H 3 (.sl [hY ⟨s.tick,actor,what⟩] .full) [hY ⟨s.tick,actor,what⟩]:=.sl aa9 .full;refine OwE.app (U:=U) (tb:=205) (hlo.sub hH) (hs0.trans hH) hap1 aaA aau aaw aaA aaz aaW fun id2 y' h' g2 hor hw ho2=> ?_
 have hor' :H id2=none∨nid l=some id2:=by
  exact ae3
 have k2:k≠id2:=by
  rcases hor' with hor|hor
  ·exact fun e=>by rw[←e,gk]at hor;cases hor
  ·exact(kV ((hlo.sub hH).nid hor).2.2 gk ht).symm
 have i2:i1≠id2:=by
  rcases hor' with hor|hor
  ·exact fun e=>by rw[←e,g1]at hor;cases hor
  ·exact fun e=>(hlo.nid hor).2.1 (by rw[←e];exact h1)
 have gk' :=(ho2 k k2).trans gk;have gi' :=(ho2 i1 i2).trans g1;refine⟨.hm2 gk' gi', ?_⟩;simp only[go_sem];refine⟨di,(fun _ _ e=>aaU), ?_⟩
 simp only[go_sem,gk',hw.rd.fit,hw.rd.cells];have lCS:CS.length=A.length+(5+B.length):=by rw[←eCS];simp[bY];omega
 have e5:List.take (o+4) CS++ [y']++List.drop (o+4+1) CS=A++(bY c f y' ++B):=by
  have:=nT (A:=A++ [.s c.id,.s c.owner,.s c.state,f]) (B:=[l]) (C:=B) (X:=[y']) (k:=o+4) (m:=1) (by rw[ho];simp) rfl rfl
  exact afW
 rw[e5];refine⟨aar,(fun _ _ e=>aaU),.same (.refl _) ⟨y', ?_,ah ..,fun j hj hjk hjl=> ?_,fun j hj=> ?_⟩⟩
 ·have hw' :Ow 205 (upd h' k (some (.obj (A++(bY c f y' ++B)) t))) 3 id2 y' (c.log.map hY++ [hY ⟨s.tick,actor,what⟩]):=hw.same (ag _ _ k2.symm)
  rw[List.map_append];exact .inr ⟨id2,g2,hw'⟩
 ·have hj2:j≠id2:=by
   rcases hor' with hor|hor
   ·intro e
    have:=hoj j (fun e' =>hj (by rw[e'];exact h1))
    rw[e,hor]at this;exact hj (by rw[e];exact this.symm)
   ·exact fun e=>hjl aei
  have hj1:j≠i1:=fun e=>hj (by rw[e];exact h1)
  rw[ag _ _ hjk,ho2 j hj2,hoj j hj1]
 ·have:id2=j:=by have:=hw.nid;rw[hj]at this;exact(Option.some.inj this).symm
  rw[←this];rcases hor' with hor|hor
  ·refine .inl ?_
   cases hh:h id2 with
   |none=>rfl
   |some b=>rw[hH _ _ hh]at hor;cases hor
  ·exact .inr hor
theorem IF{h:Heap}(f:cS){k:Nat}{name:Txt}(hk:h k=some (.obj [.s name] 9)):ai Tryz.prog 181 [bJ f,.ptr k 0] h fun r h' =>r= .b (geB f.name name)∧h' =h:=by
 refine aaq Tryz.func181 8 [.tmp 3] fun hwf=> ?_
 simp only[go_sem,bJ];exact aeM
theorem E7{fs:List cS}{name:Txt}{v:bw}(hx:¬fs.findIdx (fun f=>geB f.name name)<fs.length):eL fs name v=fs++ [⟨name,v⟩]:=by
 grind [eL,List.getElem?_eq_none,geB]
theorem yC{fs:List cS}{name:Txt}{v:bw}(hx:fs.findIdx (fun f=>geB f.name name)<fs.length)(he:fs[fs.findIdx (fun f=>geB f.name name)].name=name):eL fs name v=fs.set (fs.findIdx (fun f=>geB f.name name)) ⟨name,v⟩:=by
 simp_all [eL,List.getElem?_eq_getElem,if_true]
theorem E8{fs:List cS}{name:Txt}{v:bw}(hx:fs.findIdx (fun f=>geB f.name name)<fs.length)(he:fs[fs.findIdx (fun f=>geB f.name name)].name≠name):eL fs name v=fs.take (fs.findIdx (fun f=>geB f.name name))++ [⟨name,v⟩]++fs.drop (fs.findIdx (fun f=>geB f.name name)):=by
 simp_all [eL,List.getElem?_eq_getElem,if_false]
theorem Lf{h0 h:Heap}{k o:Nat}{A B:List AV}{t:TypeId}{c:aJ}{f l:AV}(ho:o=A.length)(hk:h k=some (.obj (A++(bY c f l++B)) t))(ht:t≠215)
  (hfo:OwE 215 h0 h 4 f (c.fields.map bJ)) (hs0:Ab.Sub h0 h) (hff:c.fields.length≤1000000) (name:Txt) (v:bw):
  ai Tryz.prog 136 [.ptr k o,.s name,aQ v] h fun r h' =>∃f',OwE 215 h0 h' 4 f' ((eL c.fields name v).map bJ)∧h' k=some (.obj (A++(bY c f' l++B)) t)∧(∀j,h j≠none→j≠k→nid f≠some j→h' j=h j)∧∀j,nid f' =some j→h j=none∨nid f=some j:=by
 have hc3:(A++(bY c f l++B))[o+3]? =some f:=acd;have lCS:(A++(bY c f l++B)).length=A.length+(5+B.length):=by simp[bY];omega
 have e5:∀y',List.take (o+3) (A++(bY c f l++B))++ [y']++List.drop (o+3+1) (A++(bY c f l++B))=A++(bY c y' l++B):=fun y' =>by
  have:=nT (A:=A++ [.s c.id,.s c.owner,.s c.state]) (B:=[f]) (C:=l::B) (X:=[y']) (k:=o+3) (m:=1) (by rw[ho];simp) rfl rfl
  exact af6
 obtain⟨CS,eCS⟩:∃CS,A++(bY c f l++B)=CS:=⟨_,rfl⟩;rw[eCS]at hc3 hk lCS e5;refine aaq Tryz.func136 60 [] fun hwf=> ?_
 simp only[go_sem,aQ];intro i1 h1;simp only[go_sem];intro i2 h2;have n21:=aF h2;have n2:=aB h2;have nk1:k≠i1:=fun e=>by rw[e,h1]at hk;cases hk
 have nk2:k≠i2:=fun e=>by rw[e,n2]at hk;cases hk
 obtain⟨H,eH⟩:∃H,upd (upd h i1 (some (.obj [.s name] 9))) i2 (some (.obj [.i v.kind,.i v.n,.s v.s] 30))=H:=⟨_,rfl⟩;have g1:H i1=some (.obj [.s name] 9):=abU;have g2:H i2=some (.obj [.i v.kind,.i v.n,.s v.s] 30):=abM;have gk:H k=some (.obj CS t):=by rw[←eH,ag _ _ nk2,ag _ _ nk1];exact hk
 have hH:Ab.Sub h H:=abl;have hoj:∀j,h j≠none→H j=h j:=fun j hj=>by rw[←eH,ag _ _ (fun e=>hj (by rw[e];exact n2)),ag _ _ (fun e=>hj (by rw[e];exact h1))]
 rw[eH];clear eH;simp only[go_sem,gk,hc3];refine(xq f _ c.fields (fun f=>geB f.name name) _ [.ptr i1 0] _ (hfo.sub hH).rd aaz aa7 (nF (fun _=>rfl) _) fun i a b=>by
  rw[aai];exact IF _ g1).pthen ?_
 have hns:∀G,Ab.Sub di G:=fun G _ _ e=>aaU
 by_cases hx:c.fields.findIdx (fun f=>geB f.name name)<c.fields.length
 ·obtain⟨i,ei⟩:∃i,c.fields.findIdx (fun f=>geB f.name name)=i:=⟨_,rfl⟩
  have hxm:i<(c.fields.map bJ).length:=by rw[←ei];simpa using hx
  have e1:ixD (fun f=>geB f.name name) c.fields=(i:Nat):=by rw[ixD,ei];exact if_pos (by rw[←ei];exact hx)
  have d1:decide (((i:Nat):Int)<0)=false:=decide_eq_false aar;rw[e1];simp only[go_sem,d1];refine⟨.of aav, ?_⟩;simp only[go_sem,gk,hc3];refine(hfo.sub hH).rd.idx (e:=215) i rfl hxm E3 aau fun p hp1=> ?_
  simp only[go_sem];refine hp1.field (f:=0) (off:=0) (t:=9) rfl Iz fun p2 hp2=> ?_
  have hld:=hp2.part (U:=U) (ty:=9) Iz (by rw[aai,K6];exact aag rfl)
  simp only[go_sem,hld,aai,bJ,g1];have hxi:i<c.fields.length:=by rw[←ei];exact hx
  cases d2:(c.fields[i].name==name)
  ·have hne:c.fields[i].name≠name:=by simpa using d2
   simp only[go_sem];refine .stage (pick H [k,i1,i2]) [0,1,2,3,4,5,6,7,8,9,10,11,12] [13] bO aav ?_;simp only[go_sem,bz (show k∈ [k,i1,i2] by simp),bz (show i1∈ [k,i1,i2] by simp),bz (show i2∈ [k,i1,i2] by simp),gk,g1,g2,hc3]
   refine(Cn f _ (bJ ⟨name,v⟩) i h0 H (hfo.sub hH) (hs0.trans hH) aar (by simpa using hff) rfl (by simp[bJ,Ab.fit])).mono fun f' H1 ⟨w1,fr,ap⟩=> ?_
   have nk:nid f≠some k:=fun e=>kV ((hfo.sub hH).nid e).2.2 gk ht rfl
   have n1' :nid f≠some i1:=fun e=>(hfo.nid e).2.1 h1
   have n2' :nid f≠some i2:=fun e=>(hfo.nid e).2.1 n2
   have gk' :H1 k=some (.obj CS t):=(fr k (by rw[gk];simp) nk).trans gk
   refine⟨ic fun j hj=> ?_, ?_⟩
   ·simp only[List.mem_cons,List.not_mem_nil,or_false]at hj
    rcases hj with rfl|rfl|rfl
    ·exact fr _ (by rw[gk];simp) nk
    ·exact fr _ (by rw[g1];simp) n1'
    ·exact fr _ (by rw[g2];simp) n2'
   simp only[go_sem];refine⟨di,hns _, ?_⟩;simp only[go_sem,gk',w1.rd.fit,w1.rd.cells];have hk2:nid f'≠some k:=fun e=>by
    rcases ap k e with h|h
    ·rw[gk]at h;cases h
    ·exact nk h
   have em:List.take i (c.fields.map bJ)++([bJ ⟨name,v⟩]++List.drop i (c.fields.map bJ))=(eL c.fields name v).map bJ:=by
    rw[E8 hx (by simp only[ei];exact hne),ei]
    simp[List.map_append,List.map_take,List.map_drop]
   rw[e5];rw[em]at w1;refine⟨aar,hns _,.same (.refl _) ⟨f',w1.keep fun id e=>ag _ _ fun e' =>hk2 (by rw[←e'];exact e),ah ..,fun j hj hjk hjl=> ?_,fun j hj=> ?_⟩⟩
   ·rw[ag _ _ hjk,fr j (by rw[hoj j hj];exact hj) hjl,hoj j hj]
   ·rcases ap j hj with h|h
    ·exact .inl (hH.none h)
    ·exact .inr h
  ·have heq:c.fields[i].name=name:=by simpa using d2
   simp only[go_sem];refine⟨.of aav, ?_⟩;simp only[go_sem,gk,g2,hc3];obtain⟨id1,hg1,o1⟩:=(hfo.sub hH).ow (by intro e;rw[e]at hxm;cases hxm)
   have t1:id1≠k:=kV o1 gk ht;have o1' :=o1;obtain⟨cap,rest,ey,hid,hr,hcap,hsz⟩:=o1';refine o1.idx (U:=U) (e:=215) i rfl hxm E3 aau ?_;simp only[go_sem,hid];have hxl:=aai (f:=bJ) (l:=c.fields) (i:=i) (h:=hxm);have e2:List.take (i*4+1) (aq (c.fields.map bJ)++rest)++ [.i v.kind,.i v.n,.s v.s]++List.drop (i*4+1+3) (aq (c.fields.map bJ)++rest)=aq ((eL c.fields name v).map bJ)++rest:=by
    refine(kG hsz i hxm 1 [.i v.kind,.i v.n,.s v.s] (aag rfl)).trans ?_;rw[yC hx (by simp only[ei];exact heq),ei,List.map_set,hxl]
    have:AV.agg (over (bJ c.fields[i]).cells 1 [.i v.kind,.i v.n,.s v.s])=bJ ⟨name,v⟩:=by rw[←heq];rfl
    rw[this]
   have lw:(eL c.fields name v).length=c.fields.length:=by rw[yC hx (by simp only[ei];exact heq),List.length_set]
   rw[e2];refine⟨by rw[aal,aW hsz];omega,.same (.refl _) ⟨f,.inr ⟨id1,hg1,cap,rest,by rw[ey];simp[lw],ah ..,by rw[hr];simp[lw],by rw[aah]at hcap⊢;omega,bp (f:=bJ) (n:=4) (fun _=>rfl) _⟩,(ag _ _ t1.symm).trans (by rw[eCS];exact gk),fun j hj hjk hjl=> ?_,fun j hj=> .inr hj⟩⟩
   have:j≠id1:=fun e=>hjl (by rw[e];exact o1.nid)
   rw[ag _ _ this,hoj j hj]
 ·have e1:ixD (fun f=>geB f.name name) c.fields= -1:=by rw[ixD];exact if_neg hx
  have d1:decide ((-1:Int)<0)=true:=rfl;rw[e1];simp only[go_sem,d1];refine .stage (pick H [k,i1,i2]) [0,1,2,3,4,5,6,7,8,9,10,11] [12] bO aav ?_;simp only[go_sem,bz (show k∈ [k,i1,i2] by simp),bz (show i1∈ [k,i1,i2] by simp),bz (show i2∈ [k,i1,i2] by simp),gk,g1,g2,hc3]
  have hap1:Rd H 4 (.sl [bJ ⟨name,v⟩] .full) [bJ ⟨name,v⟩]:=.sl aa9 .full;refine OwE.app (U:=U) (tb:=215) (hfo.sub hH) (hs0.trans hH) hap1 aaA aau aaw aaA aaz aaW fun id2 y' h' g3 hor hw ho2=> ?_
  have hor' :H id2=none∨nid f=some id2:=by
   exact ae3
  have k2:k≠id2:=by
   rcases hor' with hor|hor
   ·exact fun e=>by rw[←e,gk]at hor;cases hor
   ·exact(kV ((hfo.sub hH).nid hor).2.2 gk ht).symm
  have j1:i1≠id2:=by
   rcases hor' with hor|hor
   ·exact fun e=>by rw[←e,g1]at hor;cases hor
   ·exact fun e=>(hfo.nid hor).2.1 (by rw[←e];exact h1)
  have j2:i2≠id2:=by
   rcases hor' with hor|hor
   ·exact fun e=>by rw[←e,g2]at hor;cases hor
   ·exact fun e=>(hfo.nid hor).2.1 (by rw[←e];exact n2)
  refine⟨ic fun j hj=>ho2 j ?_, ?_⟩
  ·simp only[List.mem_cons,List.not_mem_nil,or_false]at hj
   rcases hj with rfl|rfl|rfl
   ·exact k2
   ·exact j1
   ·exact j2
  have gk' :=(ho2 k k2).trans gk;simp only[go_sem];refine⟨di,hns _, ?_⟩;simp only[go_sem,gk',hw.rd.fit,hw.rd.cells];rw[e5,E7 hx];refine⟨aar,hns _,.same (.refl _) ⟨y', ?_,ah ..,fun j hj hjk hjl=> ?_,fun j hj=> ?_⟩⟩
  ·have hw' :Ow 215 (upd h' k (some (.obj (A++(bY c y' l++B)) t))) 4 id2 y' (c.fields.map bJ++ [bJ ⟨name,v⟩]):=hw.same (ag _ _ k2.symm)
   rw[List.map_append];exact .inr ⟨id2,g3,hw'⟩
  ·have hj2:j≠id2:=by
    rcases hor' with hor|hor
    ·intro e
     have:=hoj j hj;rw[e,hor]at this;exact hj (by rw[e];exact this.symm)
    ·exact fun e=>hjl aei
   rw[ag _ _ hjk,ho2 j hj2,hoj j hj]
  ·have:id2=j:=by have:=hw.nid;rw[hj]at this;exact(Option.some.inj this).symm
   rw[←this];rcases hor' with hor|hor
   ·exact .inl (hH.none hor)
   ·exact .inr hor
theorem BL{cs:List aJ}{id:Txt}(h:bW cs id=true):br cs id=cs[findD cs id]'(jc h):=by
 simp_all [br,if_pos,List.getD_eq_getElem?_getD,List.getElem?_eq_getElem,jc]
theorem BM{cs:List aJ}{id:Txt}(h:bW cs id=false):br cs id=ny:=by
 simp_all [br,if_neg]
theorem lC{g h:Heap}{p:Perm}:Frz g h (.sl [] p) (.sl [] .no):=.sl _ _ _ rfl aar aaz
theorem B9{g h:Heap}(c:aJ):Frz g h (cm c) (cm c):=.agg _ _ rfl fun j a b=>by
 rcases j with _|_|_|_|_|j
 ·exact aaL
 ·exact aaL
 ·exact aaL
 ·exact .pure (show cG (fV c.fields)=true from bn (fun _=>rfl) c.fields)
 ·exact .pure (show cG (rD c.log)=true from bn (fun _=>rfl) c.log)
 ·simp[mq]at a;omega
theorem AQ{h:Heap}{x:AV}{s:an}(hb:RdS h x s)(id:Txt)(hf:Few s):ai Tryz.prog 76 [x,.s id] h fun r h' =>r= .tup [cm (br s.cases id),.b (bW s.cases id)]∧h' =h:=
 ai.freeze fun g hg _=>by
 replace hb:=hb.sub hg;have hb0:=hb;obtain⟨y1,y2,y3,y4,rfl,⟨xs,hc,hn,hcs⟩,h2,h3,h4⟩:=hb;cases hpp:s.policy with
 |mk pid pset palg ptgt prules pkids pobls=>
 have hcC:fJ (.mk pid pset palg ptgt prules pkids pobls)= [.s pid,.b pset,.i palg,aT ptgt,.sl (prules.map aA) .no,.sl (pkids.map aK) .no,az pobls]:=adt;rw[hpp,hcC]at hb0;refine aaq Tryz.func76 23 [.cell 4 134,.tmp 5] fun hwf=> ?_
 simp -implicitDefEqProofs only[go_sem,hcC,List.cons_append,List.nil_append];intro i1 h1;simp -implicitDefEqProofs only[go_sem];intro i2 h2';have n21:=aF h2';have n2:=aB h2';simp -implicitDefEqProofs only[go_sem,ak,n21.symm];have hs:∀a b,Ab.Sub g (upd (upd g i1 a) i2 b):=fun a b=>((Sub.refl g).put h1 a).put n2 b
 refine(AY (hb0.sub (hs _ _)) id hf.cases).pthen ?_;cases d1:bW s.cases id
 ·simp -implicitDefEqProofs only[go_sem]
  refine .mk _ (.refl _) (.refl _) ⟨hs _ _,.tup [.agg [.s [],.s [],.s [],.sl [] .no,.sl [] .no],.b false],.tup _ _ rfl fun i a b=> ?_,by rw[BM d1];rfl⟩
  rcases i with _|_|i
  ·refine .agg _ _ rfl fun j c d=> ?_
   rcases j with _|_|_|_|_|j
   ·exact aaL
   ·exact aaL
   ·exact aaL
   ·exact lC
   ·exact lC
   grind
  ·exact aaL
  grind
 ·have hlt:=jc d1
  have hltx:findD s.cases id<xs.length:=aar;obtain⟨f,l,ex,hfl,hlg⟩:=hcs _ hltx hlt;simp -implicitDefEqProofs only[go_sem,ak,n21.symm];refine hc.idx (e:=134) (findD s.cases id) rfl hltx mH aau fun p hp1=> ?_
  have hld:=fun a b=>(hp1.sub (hs a b)).all (U:=U) (ty:=134) aau (by rw[mH,ex];rfl) (by simp only[go_sem];rw[ex];rfl)
  simp -implicitDefEqProofs only[go_sem,hld];refine(vj ((hcs _ hltx hlt).sub (hs _ _)) (hf.fields _ (aam hlt)) (hf.log _ (aam hlt))).pthen ?_;rw[←BL d1];simp -implicitDefEqProofs only[go_sem,cm,mq,fV,rD];refine .mk _ (.refl _) (.refl _) ⟨hs _ _,_,.tup _ _ rfl fun i a b=> ?_,rfl⟩
  rcases i with _|_|i
  ·exact B9 _
  ·exact aaL
  grind
theorem Bk{h:Heap}{x:AV}{s:an}(hb:RdS h x s)(o:OpD)(hf:Few s):ai Tryz.prog 120 [x,opA o] h fun r h' =>r= .i (bV s o)∧h' =h:=by
 have hb0:=hb;obtain⟨y1,y2,y3,y4,rfl,⟨xs,hc,hn,hcs⟩,h2,h3,h4⟩:=hb;cases hpp:s.policy with
 |mk pid pset palg ptgt prules pkids pobls=>
 have hcC:fJ (.mk pid pset palg ptgt prules pkids pobls)= [.s pid,.b pset,.i palg,aT ptgt,.sl (prules.map aA) .no,.sl (pkids.map aK) .no,az pobls]:=adt;rw[hpp,hcC]at hb0;refine aaq Tryz.func120 67 [.tmp 4] fun hwf=> ?_
 simp -implicitDefEqProofs only[go_sem,hcC,opA,opC,List.cons_append,List.nil_append];intro i1 h1;simp -implicitDefEqProofs only[go_sem];intro i2 h2';have n21:=aF h2';have n2:=aB h2';simp -implicitDefEqProofs only[go_sem,ak,n21.symm];have hs:∀a b,Ab.Sub h (upd (upd h i1 a) i2 b):=fun a b=>((Sub.refl h).put h1 a).put n2 b
 refine(AQ (hb0.sub (hs _ _)) o.case hf).pthen ?_;simp -implicitDefEqProofs only[go_sem,cm,mq,fV,rD];intro i3 h3';have n32:=aF h3';have h3b:=aB h3';have n31:=aF h3b;have n3:=aB h3b;have hs3:∀a b d,Ab.Sub h (upd (upd (upd h i1 a) i2 b) i3 d):=fun a b d=>(((Sub.refl h).put h1 a).put n2 b).put n3 d
 have hA:=(fun a b d=>Sub.trans (Sub.refl h) (hs3 a b d))
 simp -implicitDefEqProofs only[go_sem,ak,n32.symm];have hfl:(br s.cases o.case).fields.length≤1000000000:=by
  unfold br;split
  ·rename_i ht
   have hlt:=jc ht;rw[List.getD_eq_getElem?_getD,List.getElem?_eq_getElem hlt];exact Nat.le_trans (hf.fields _ (aam hlt)) aau
  decide
 cases d1:bW s.cases o.case
 ·simp -implicitDefEqProofs only[go_sem]
  exact .mk _ (.refl _) (hs3 _ _ _) ⟨by simp only[bV,d1];rfl,rfl⟩
 ·simp -implicitDefEqProofs only[go_sem,ak,n32.symm]
  cases k3:(o.kind==3)
  ·have p3:o.kind≠3:=by grind
   simp -implicitDefEqProofs only[go_sem];cases k2:(o.kind==2)
   ·have p2:o.kind≠2:=by grind
    have k2n:(o.kind !=2)=true:=aas;cases d256:decide ((256:Int)≤((br s.cases o.case).log.length:Int))
    ·have p256:¬256≤(br s.cases o.case).log.length:=by grind
     simp -implicitDefEqProofs only[go_sem,ak,n32.symm,aah,k3,k2n,d256];cases k4:(o.kind==4)
     ·have p4:o.kind≠4:=by grind
      exact aeK
     ·have p4:o.kind=4:=by grind
      simp -implicitDefEqProofs only[go_sem,ak,n32.symm];refine(Eb _ _ _).pthen ?_;cases dfo:lO (br s.cases o.case).state o.to
      ·exact aeK
      ·exact aeK
    ·have p256:256≤(br s.cases o.case).log.length:=by grind
     simp -implicitDefEqProofs only[go_sem,aah,k2n,d256];exact .mk _ (.refl _) (hs3 _ _ _) ⟨ab0,rfl⟩
   ·have p2:o.kind=2:=by grind
    have k2n:(o.kind !=2)=false:=aas;simp -implicitDefEqProofs only[go_sem,ak,n32.symm,k3,k2n];cases k4:(o.kind==4)
    ·have p4:o.kind≠4:=by omega
     exact aeK
    ·have p4:o.kind=4:=by grind
     omega
  ·have p3:o.kind=3:=by grind
   cases d16:decide ((16:Int)≤((br s.cases o.case).fields.length:Int))
   ·have p16:¬16≤(br s.cases o.case).fields.length:=by grind
    simp -implicitDefEqProofs only[go_sem,aah,d16];exact aeC
   ·have p16:16≤(br s.cases o.case).fields.length:=by grind
    simp -implicitDefEqProofs only[go_sem,ak,n32.symm,aah,d16];refine(B4 (show RdC _ (.agg [.s (br s.cases o.case).id,.s (br s.cases o.case).owner,.s (br s.cases o.case).state,AV.sl ((br s.cases o.case).fields.map bJ) .no,AV.sl ((br s.cases o.case).log.map hY) .no]) (br s.cases o.case)from rdC _ _) o.field hfl).pthen ?_
    simp -implicitDefEqProofs only[go_sem,aQ];cases dv:((dX (br s.cases o.case).fields o.field).kind==(0:Int) && ((dX (br s.cases o.case).fields o.field).n==(0:Int) && (dX (br s.cases o.case).fields o.field).s==([]:Txt)))
    ·have pv:eqV (dX (br s.cases o.case).fields o.field) ax=false:=dv
     simp -implicitDefEqProofs only[go_sem];exact aeC
    ·have pv:eqV (dX (br s.cases o.case).fields o.field) ax=true:=dv
     exact aeK
theorem yX{h:Heap}{x:AV}{s:an}(hb:RdS h x s)(o:OpD)(hf:Few s)(h0:0<o.review)(hr:o.review≤9223372036854775807):ai Tryz.prog 121 [x,opA o] h fun r h' =>r= .i (fD s o)∧h' =h:=by
 obtain⟨y1,y2,y3,y4,rfl,⟨xs,hc,hn,hcs⟩,h2,h3,h4⟩:=hb;cases hpp:s.policy with
 |mk pid pset palg ptgt prules pkids pobls=>
 have hcC:fJ (.mk pid pset palg ptgt prules pkids pobls)= [.s pid,.b pset,.i palg,aT ptgt,.sl (prules.map aA) .no,.sl (pkids.map aK) .no,az pobls]:=adt;have hfr:=hf.reviews;refine aaq Tryz.func121 35 [.tmp 4] fun hwf=> ?_
 simp -implicitDefEqProofs only[go_sem,hcC,opA,opC,List.cons_append,List.nil_append];intro i1 h1;simp -implicitDefEqProofs only[go_sem];intro i2 h2';have n21:=aF h2';have n2:=aB h2';have hs:∀a b,Ab.Sub h (upd (upd h i1 a) i2 b):=fun a b=>((Sub.refl h).put h1 a).put n2 b
 simp -implicitDefEqProofs only[go_sem,ak,n21.symm,h2.len,aah];obtain⟨n,en⟩:∃n:Nat,o.review=((n:Nat):Int)+1:=⟨(o.review - 1).toNat,aar⟩;have e1:vm s.reviews o.review=s.reviews[n]? :=by
  unfold vm;rw[if_pos aar,show(o.review - 1).toNat=n by omega]
 have w1:IntKind.i64.wrap (o.review - 1)=((n:Nat):Int):=aaE;cases dlt:decide ((s.reviews.length:Int)<o.review)
 ·have hlt:n<s.reviews.length:=by grind
  have hgl:vm s.reviews o.review=some s.reviews[n]:=aas;simp -implicitDefEqProofs only[go_sem,ak,n21.symm,w1];refine h2.idx (e:=143) n rfl aas aaG aau fun p hp1=> ?_
  simp -implicitDefEqProofs only[go_sem];refine hp1.field (f:=6) (off:=6) (t:=4) rfl aau fun p2 hp2=> ?_
  have hld:=fun a b=>(hp2.sub (hs a b)).part (U:=U) (ty:=4) aau (by rw[aai,show(U 4).sz=1 by rfl];exact aag rfl)
  simp -implicitDefEqProofs only[go_sem,hld,aai,ie];cases dop:s.reviews[n].isOpen
  ·exact aeU
  ·simp -implicitDefEqProofs only[go_sem,ak,n21.symm]
   refine⟨.of aav, ?_⟩;simp -implicitDefEqProofs only[go_sem,w1];refine h2.idx (e:=143) n rfl aas aaG aau fun p hp1=> ?_
   simp -implicitDefEqProofs only[go_sem];refine hp1.field (f:=2) (off:=2) (t:=9) rfl Iz fun p2 hp2=> ?_
   have hld:=fun a b=>(hp2.sub (hs a b)).part (U:=U) (ty:=9) Iz (by rw[aai,K6];exact aag rfl)
   simp -implicitDefEqProofs only[go_sem,hld,aai,ie];cases dsu:(s.reviews[n].subj==o.subj)
   ·have psu:s.reviews[n].subj≠o.subj:=by grind
    exact aeU
   ·have psu:s.reviews[n].subj=o.subj:=by grind
    exact aeU
 ·have hge:¬n<s.reviews.length:=by grind
  have hgn:vm s.reviews o.review=none:=aas;exact aeU
theorem C7{h:Heap}{x:AV}{s:an}(hb:RdS h x s)(o:OpD)(hf:Few s)(hr:i64 o.review)(ht:i64 s.tick):ai Tryz.prog 68 [x,opA o] h fun r h' =>r= .i (bI s o)∧h' =h:=by
 have hb0:=hb;have hfo:=Fz o;have hrc:=fun(G:Heap) (hG:Ab.Sub h G)=>Bk (hb.sub hG) o hf
 have hrl:=fun(G:Heap) (hG:Ab.Sub h G) (a:0<o.review)=>yX (hb.sub hG) o hf a hr.2
 have hfi:=fun(G:Heap) (hG:Ab.Sub h G)=>AY (hb.sub hG) o.case hf.cases
 have hha:=fun(G:Heap) (hG:Ab.Sub h G)=>Ei (hb.sub hG) o.case o.field (Nat.le_trans hf.roles aau)
 obtain⟨y1,y2,y3,y4,rfl,⟨xs,hc,hn,hcs⟩,h2,h3,h4⟩:=hb;cases hpp:s.policy with
 |mk pid pset palg ptgt prules pkids pobls=>
 have hcC:fJ (.mk pid pset palg ptgt prules pkids pobls)= [.s pid,.b pset,.i palg,aT ptgt,.sl (prules.map aA) .no,.sl (pkids.map aK) .no,az pobls]:=adt;rw[hpp,hcC]at hb0 hrc hrl hfi hha;simp only[opA,opC,List.cons_append,List.nil_append]at hfo hrc hrl hfi hha;refine aaq Tryz.func68 63 [.tmp 4] fun hwf=> ?_
 simp -implicitDefEqProofs only[go_sem,hcC,opA,opC,List.cons_append,List.nil_append];intro i1 h1;simp -implicitDefEqProofs only[go_sem];intro i2 h2';have n21:=aF h2';have n2:=aB h2';have hs:∀a b,Ab.Sub h (upd (upd h i1 a) i2 b):=fun a b=>((Sub.refl h).put h1 a).put n2 b
 simp -implicitDefEqProofs only[go_sem];refine(hfo _).pthen ?_;cases dform:eN o
 ·exact aeE
 ·simp -implicitDefEqProofs only[go_sem]
  have hok:okD o=true:=by simp_all [eN,dD,Bool.and_eq_true]
  by_cases p1:o.kind=1
  ·have k1:(o.kind==1)=true:=by grind
   simp -implicitDefEqProofs only[go_sem,ak,n21.symm,k1];refine(hfi _ (hs _ _)).pthen ?_;cases dth:bW s.cases o.case
   ·simp -implicitDefEqProofs only[go_sem,ak,n21.symm,hc.len,hn]
    cases d64:decide ((64:Int)≤(s.cases.length:Int))
    ·have p64:¬64≤s.cases.length:=by grind
     exact aeE
    ·have p64:64≤s.cases.length:=by grind
     exact aeE
   ·exact aeE
  have k1:(o.kind==1)=false:=aas;simp -implicitDefEqProofs only[go_sem,k1]
  by_cases p2:o.kind=2
  ·have k2:(o.kind==2)=true:=by grind
   simp -implicitDefEqProofs only[go_sem,ak,n21.symm,k2];refine(hrc _ (hs _ _)).pthen ?_;exact aeE
  have k2:(o.kind==2)=false:=aas;simp -implicitDefEqProofs only[go_sem,k2]
  by_cases p3:o.kind=3
  ·have k3:(o.kind==3)=true:=by grind
   simp -implicitDefEqProofs only[go_sem,ak,n21.symm,k3];refine(hrc _ (hs _ _)).pthen ?_;exact aeE
  have k3:(o.kind==3)=false:=aas;simp -implicitDefEqProofs only[go_sem,k3]
  by_cases p4:o.kind=4
  ·have k4:(o.kind==4)=true:=by grind
   simp -implicitDefEqProofs only[go_sem,ak,n21.symm,k4];refine(hrc _ (hs _ _)).pthen ?_;exact aeE
  have k4:(o.kind==4)=false:=aas;simp -implicitDefEqProofs only[go_sem,k4]
  by_cases p5:o.kind=5
  ·have k5:(o.kind==5)=true:=by grind
   simp -implicitDefEqProofs only[go_sem,ak,n21.symm,k5];have hrv:0<o.review:=by grind [okD]
   refine(hrl _ (hs _ _) hrv).pthen ?_;exact aeE
  have k5:(o.kind==5)=false:=aas;simp -implicitDefEqProofs only[go_sem,k5]
  by_cases p6:o.kind=6
  ·have k6:(o.kind==6)=true:=by grind
   simp -implicitDefEqProofs only[go_sem,ak,n21.symm,k6];simp -implicitDefEqProofs only[go_sem,h4.len,aah];cases d64:decide ((64:Int)≤(s.roles.length:Int))
   ·have p64:¬64≤s.roles.length:=by grind
    exact aeE
   ·have p64:64≤s.roles.length:=by grind
    simp -implicitDefEqProofs only[go_sem,ak,n21.symm];refine(hha _ (hs _ _)).pthen ?_;cases dha:xk s.roles ⟨o.case,o.field⟩
    ·exact aeE
    ·exact aeE
  have k6:(o.kind==6)=false:=aas;simp -implicitDefEqProofs only[go_sem,k6]
  by_cases p8:o.kind=8
  ·have k8:(o.kind==8)=true:=by grind
   simp -implicitDefEqProofs only[go_sem,ak,n21.symm,k8];have hrv:0<o.review∧o.review≤1099511627776:=by grind [okD]
   have w1:IntKind.i64.wrap (1099511627776 - o.review)=1099511627776 - o.review:=bg _ aar;cases dt:decide (1099511627776 - o.review<s.tick)
   ·have pt:¬1099511627776 - o.review<s.tick:=aak dt
    exact af0
   ·have pt:1099511627776 - o.review<s.tick:=aaj dt
    exact af0
  have k8:(o.kind==8)=false:=aas;simp -implicitDefEqProofs only[go_sem,k8];exact .mk _ (.refl _) (hs _ _) ⟨by have:¬(2≤o.kind∧o.kind≤4):=aar;simp only[bI,dform,p1,p5,p6,p8,this,if_false,Bool.true_eq_false,au],rfl⟩
end Go.Proofs.YtcochaoekecfdaaGreatDoor
namespace Go.Bf
open Go Go.Ab
structure qK where
 kind:Int
 pos:Int
 n:Int
 s:Txt
def fo(t:qK):AV:=.agg [.i t.kind,.i t.pos,.i t.n,.s t.s]
def wrd(c:UInt8):Bool:=ltr c||dgt c||(c.toNat:Int)==95
def oP(l:Txt):Nat:=l.foldl (fun n c=>n*10+(c.toNat - 48)) 0
def eC(neg:Bool)(s:Txt):Int×Nat:=
 let d:=s.takeWhile dgt
 if d= []∨(1<d.length∧s.head? =some 48)then(0,0)else
 let v:Int:=if neg then -(oP d:Int)else(oP d:Int)
 if -9223372036854775808≤v∧v≤9223372036854775807 then(v,d.length)else(0,0)
def jg(s:Txt):Txt:=if bk (s.takeWhile wrd)then s.takeWhile wrd else []
def ji(c:UInt8):Int:=if dgt c then(c.toNat:Int) - 48 else if 97≤(c.toNat:Int)∧(c.toNat:Int)≤102 then(c.toNat:Int) - 87 else -1
def sD:Txt→Option UInt8
 |b::x::y::_=>if b=92∧0≤ji x∧0≤ji y∧EC (UInt8.ofNat (16*ji x+ji y).toNat)=true then some (UInt8.ofNat (16*ji x+ji y).toNat)else none
 |_=>none
def sY:Nat→Txt→Nat→Txt→Txt×Nat
 |0,_,_,_=>([],0)
 |_+1,[],_,_=>([],0)
 |f+1,c::r,at_,out=>
  if c=34 then(if 64<out.length then([],0)else(out,at_+1))
  else if EC c=false then sY f r (at_+1) (out++ [c])
  else match sD (c::r)with
   |some b=>sY f (r.drop 2) (at_+3) (out++ [b])
   |none=>([],0)
def yt(s:Txt):Txt×Nat:=sY s.length (s.drop 1) 1 []
def CB(c:UInt8):Bool:=c∈([123,125,40,41,46,44,59,61,60,62,33]:Txt)
def bN(s:Txt):qK×Nat:=
 let c:=s.headD 0
 if ltr c then(⟨1,0,0,jg s⟩,(jg s).length)
 else if dgt c then(⟨2,0,(eC false s).1,[]⟩,(eC false s).2)
 else if c=45 then(⟨2,0,(eC true (s.drop 1)).1,[]⟩,if(eC true (s.drop 1)).1=0 then 0 else(eC true (s.drop 1)).2+1)
 else if c=64 then(⟨3,0,(eC false (s.drop 1)).1,[]⟩,if(eC false (s.drop 1)).2=0∨(eC false (s.drop 1)).1>1099511627776 then 0 else(eC false (s.drop 1)).2+1)
 else if c=35 then(⟨4,0,0,jg (s.drop 1)⟩,if jg (s.drop 1)= []then 0 else(jg (s.drop 1)).length+1)
 else if c=34 then(⟨5,0,0,(yt s).1⟩,(yt s).2)
 else if CB c then(⟨6,0,0,[c]⟩,1)
 else(⟨0,0,0,[]⟩,0)
inductive Lexed where
 |bad (e:Int) (at_:Int)
 |ok (l:List qK)
def o6(c:UInt8):Bool:=(c.toNat:Int)==32||(c.toNat:Int)==10
def sB:Nat→Txt→Nat→List qK→Lexed
 |0,_,at_,_=> .bad 5 at_
 |_+1,[],at_,out=> .ok (out++ [⟨7,at_,0,[]⟩])
 |f+1,c::r,at_,out=>
  if o6 c then sB f r (at_+1) out
  else if(bN (c::r)).2=0 then .bad 5 at_
  else sB f ((c::r).drop (bN (c::r)).2) (at_+(bN (c::r)).2) (out++ [{(bN (c::r)).1 with pos:=at_}])
def rC(s:Txt):Lexed:=if s.length>4096 then .bad 6 4096 else sB (s.length+1) s 0 []
theorem jB(p:UInt8→Bool)(s:Txt):(s.takeWhile p).length≤s.length:=(List.takeWhile_prefix p).length_le
theorem qo(p:UInt8→Bool)(s:Txt):s.take (s.takeWhile p).length=s.takeWhile p:=by
 obtain⟨t,ht⟩:=List.takeWhile_prefix (l:=s) p
 grind
theorem nW(neg:Bool)(s:Txt):(eC neg s).2≤s.length:=by
 have:=jB dgt s;unfold eC;simp only;split
 ·exact adw
 ·generalize (if neg=true then -(oP (s.takeWhile dgt):Int)else(oP (s.takeWhile dgt):Int))=v
  split
  ·exact aa8
  ·exact adw
theorem tj(s:Txt):(jg s).length≤s.length:=by
 grind [jB,wrd,jg]
theorem CI{s:Txt}{b:UInt8}(h:sD s=some b):3≤s.length:=by
 match s,h with
 |_::_::_::_,_=>simp
theorem yu:∀(f:Nat) (r:Txt) (at_:Nat) (out:Txt),(sY f r at_ out).2≤at_+r.length
 |0,_,_,_=>by simp[sY]
 |_+1,[],_,_=>by simp[sY]
 |f+1,c::r,at_,out=>by
  simp only[sY];split
  ·grind
  ·split
   ·have:=yu f r (at_+1) (out++ [c]);simp only[List.length_cons];omega
   ·split
    ·rename_i b hb
     have h3:=CI hb;have:=yu f (r.drop 2) (at_+3) (out++ [b]);simp only[List.length_cons,List.length_drop]at this h3⊢;omega
    ·simp
theorem ri(s:Txt)(hs:s≠ []):(bN s).2≤s.length:=by
 have h1:1≤s.length:=aas;have hd:(s.drop 1).length=s.length - 1:=aaz;have k1:=tj s;have k2:=tj (s.drop 1);have k3:=nW false s;have k4:=nW false (s.drop 1);have k5:=nW true (s.drop 1);have k6:=yu s.length (s.drop 1) 1 [];unfold bN;simp only;split
 ·exact k1
 split
 ·exact k3
 split
 ·simp only;split<;>omega
 split
 ·simp only;split<;>omega
 split
 ·simp only;split<;>omega
 split
 ·simp only[yt];omega
 split
 ·simp only;omega
 ·simp
structure PS where
 ts:List qK
 pos:Nat
 rules:Nat
 bad:Int
 place:Int
def aI(st:PS):qK:=st.ts.getD st.pos ⟨7,0,0,[]⟩
def bD(st:PS)(e p:Int):PS:=if st.bad=0 then {st with bad:=e,place:=p} else st
def bf(st:PS):PS:=bD st 5 (aI st).pos
def bA(st:PS)(more:Bool):PS:=if more then bD st 6 (aI st).pos else st
def isD(st:PS)(s:Txt):Bool:=st.bad==0 && ((aI st).s==s && ((aI st).kind==1||(aI st).kind==6))
def aY(st:PS):PS:={st with pos:=st.pos+1}
def ck(st:PS)(s:Txt):Bool×PS:=if isD st s=true then(true,aY st)else(false,st)
def dJ(st:PS)(s:Txt):PS:=if isD st s=true then aY st else bf st
def cj(st:PS):Txt×PS:=
 if(aI st).kind=1∧st.bad=0 then((aI st).s,aY st)else([],if(aI st).kind=1 then st else bf st)
def tN(s:Txt):List Txt→Option Nat
 | []=>none
 |w::r=>if w=s then some 0 else(tN s r).map (· +1)
def aU(st:PS)(ws:List Txt):Int×PS:=match tN (aI st).s ws with
 |some i=>if(aI st).kind=1∧st.bad=0 then((i:Int)+1,aY st)else(0,bf st)
 |none=>(0,bf st)
def WfP(st:PS):Prop:=st.pos<st.ts.length∧(∀i (h:i<st.ts.length),st.ts[i].kind≠7→i+1<st.ts.length)∧st.ts.length≤5000
theorem Ck{st:PS}(h:st.pos<st.ts.length):aI st=st.ts[st.pos]:=by
 grind [aI,List.getElem?_eq_getElem]
theorem IE{st:PS}(e p:Int)(h:WfP st):WfP (bD st e p):=by
 unfold bD;split<;>exact h
theorem Ld{st:PS}(h:WfP st)(hk:(aI st).kind≠7):WfP (aY st):=by
 rw[Ck h.1]at hk;exact⟨h.2.1 _ h.1 hk,h.2⟩
theorem cZ{st:PS}{s:Txt}(h:isD st s=true):(aI st).kind≠7:=by
 simp only[isD,Bool.and_eq_true,Bool.or_eq_true,beq_iff_eq]at h;omega
def Ah(st st' :PS):Prop:=WfP st'∧st'.ts=st.ts∧st.pos≤st'.pos
theorem Ah.refl{st:PS}(h:WfP st):Ah st st:=⟨h,rfl,Nat.le_refl _⟩
theorem Ah.trans{a b c:PS}(x:Ah a b)(y:Ah b c):Ah a c:=⟨y.1,y.2.1.trans x.2.1,Nat.le_trans x.2.2 y.2.2⟩
theorem wB{st:PS}(e p:Int)(h:WfP st):Ah st (bD st e p):=⟨IE e p h,by grind [bD],by unfold bD;grind⟩
theorem ew{st:PS}(h:WfP st)(hk:(aI st).kind≠7):Ah st (aY st):=⟨Ld h hk,rfl,Nat.le_succ _⟩
theorem mX{st:PS}(h:WfP st):Ah st (bf st):=wB _ _ h
theorem j8{st:PS}(b:Bool)(h:WfP st):Ah st (bA st b):=by
 unfold bA;split
 ·grind [wB]
 ·exact acL
theorem LC{st:PS}(s:Txt)(h:WfP st):Ah st (ck st s).2:=by
 unfold ck;split
 ·grind [ew,cZ]
 ·exact acL
theorem iM{st:PS}(s:Txt)(h:WfP st):Ah st (dJ st s):=by
 grind [dJ,ew,cZ,mX]
theorem mc{st:PS}(h:WfP st):Ah st (cj st).2:=by
 unfold cj;split
 ·grind [ew]
 ·simp only;split
  ·exact acL
  grind [mX]
theorem ga{st:PS}(ws:List Txt)(h:WfP st):Ah st (aU st ws).2:=by
 grind [aU,ew,mX]
def uK:List Txt:=[[115,117,98,106,101,99,116],[97,99,116,105,111,110],[99,97,115,101],[101,110,118]]
def fI(st:PS):oT×PS:=
 (⟨(aU st uK).1,(cj (dJ (aU st uK).2 [46])).1,(ck (cj (dJ (aU st uK).2 [46])).2 [33]).1⟩,(ck (cj (dJ (aU st uK).2 [46])).2 [33]).2)
theorem AH{st:PS}(h:WfP st):Ah st (fI st).2:=by
 have h1:=ga uK h;have h2:=iM [46] h1.1;have h3:=mc h2.1;exact((h1.trans h2).trans h3).trans (LC [33] h3.1)
def vu:Txt:=[116,114,117,101]
def pH:Txt:=[102,97,108,115,101]
def fH(st:PS):bw×PS:=
 if(aI st).kind=2 then(⟨2,(aI st).n,(aI st).s⟩,st)
 else if(aI st).kind=3 then(⟨4,(aI st).n,(aI st).s⟩,st)
 else if(aI st).kind=4 then(⟨5,(aI st).n,(aI st).s⟩,st)
 else if(aI st).kind=5 then(⟨3,(aI st).n,(aI st).s⟩,st)
 else if isD st vu then(⟨1,1,[]⟩,st)
 else if isD st pH then(⟨1,0,[]⟩,st)
 else(⟨0,(aI st).n,(aI st).s⟩,bf st)
def aC(st:PS):bw×PS:=if(fH st).2.bad=0 then((fH st).1,aY (fH st).2)else(⟨0,0,[]⟩,(fH st).2)
theorem qI(st:PS):(bf st).bad≠0:=by
 grind [bf,bD,Int]
theorem tf(st:PS):(fH st).2=st∧(aI st).kind≠7∨(fH st).2=bf st:=by
 unfold fH;split
 ·grind
 split
 ·grind
 split
 ·grind
 split
 ·grind
 split
 ·rename_i h;exact .inl ⟨rfl,cZ h⟩
 split
 ·rename_i h;exact .inl ⟨rfl,cZ h⟩
 simp
theorem BC{st:PS}(h:WfP st):Ah st (aC st).2:=by
 unfold aC;rcases tf st with⟨e,hk⟩|e
 ·rw[e];split
  ·grind [ew]
  ·exact acL
 simp_all [if_neg,qI,mX]
def opP(st:PS):Int×PS:=
 if isD st [61]then(1,aY st)else if isD st [60]then(2,aY st)else if isD st [62]then(3,aY st)else(0,bf st)
theorem RA{st:PS}(h:WfP st):Ah st (opP st).2:=by
 grind [opP,ew,cZ,mX]
def fW(st:PS):bM×PS:=(⟨(fI st).1,(opP (fI st).2).1,(aC (opP (fI st).2).2).1⟩,(aC (opP (fI st).2).2).2)
theorem oW{st:PS}(h:WfP st):Ah st (fW st).2:=by
 have h1:=AH h;have h2:=RA h1.1;exact(h1.trans h2).trans (BC h2.1)
def fC{α:Type}(one:PS→α×PS)(w:Txt)(most:Nat):Nat→PS→List α→List α×PS
 |0,st,l=>(l,st)
 |f+1,st,l=>if isD st w=true then fC one w most f (bA (one (aY st)).2 (decide (most<l.length+1))) (l++ [(one (aY st)).1])else(l,st)
theorem rQ{α:Type}{one:PS→α×PS}(ho:∀st,WfP st→Ah st (one st).2)(w:Txt)(most:Nat):∀(f:Nat) (st:PS) (l:List α),WfP st→Ah st (fC one w most f st l).2
 |0,st,l,h=> .refl h
 |f+1,st,l,h=>by
  unfold fC;split
  ·rename_i hi
   have h1:=ew h (cZ hi);have h2:=ho _ h1.1;have h3:=j8 (decide (most<l.length+1)) h2.1;exact((h1.trans h2).trans h3).trans (rQ ho w most f _ _ h3.1)
  ·exact acL
def orT:Txt:=[111,114]
def BE:Txt:=[97,110,100]
def Dv:Txt:=[119,104,101,110]
def oO(st:PS):List bM×PS:=fC fW [44] 8 st.ts.length (fW st).2 [(fW st).1]
theorem AF{st:PS}(h:WfP st):Ah st (oO st).2:=(oW h).trans (rQ (fun _ h=>oW h) _ _ _ _ _ (oW h).1)
def qL(st:PS):List (List bM)×PS:=
 let a:=oO (dJ st [40])
 let m:=fC oO orT 8 st.ts.length a.2 [a.1]
 (m.1,dJ m.2 [41])
theorem AG{st:PS}(h:WfP st):Ah st (qL st).2:=by
 have h0:=iM [40] h;have h1:=AF h0.1;have h2:=rQ (fun _ h=>AF h) orT 8 st.ts.length _ [(oO (dJ st [40])).1] h1.1
 exact((h0.trans h1).trans h2).trans (iM [41] h2.1)
def gy(st:PS):fQ×PS:=if isD st Dv=true then fC qL BE 8 st.ts.length (qL (aY st)).2 [(qL (aY st)).1]else([],st)
theorem AL{st:PS}(h:WfP st):Ah st (gy st).2:=by
 unfold gy;split
 ·rename_i hi
  have h0:=ew h (cZ hi);have h1:=AG h0.1;exact(h0.trans h1).trans (rQ (by grind [AG]) _ _ _ _ _ h1.1)
 ·exact acL
def kR:List Txt:=[[111,110,101],[115,105,122,101],[104,97,115],[101,113],[108,101,115,115],[97,100,100],[115,117,98],[109,117,108],[110,111,116],[97,110,100],[111,114]]
def opers(op:Int):List Bool:=if op=3∨op=4 then [true]else if op=5 then [true,false]else if op=11 then [false]else [false,false]
abbrev ExF:=PS→List aM→(List aM×Bool)×PS
def gQ(ex:ExF)(st:PS)(l:List aM)(must:Bool):List aM×PS:=
 ((ex st l).1.1,if(ex st l).1.2=must then(ex st l).2 else bD (ex st l).2 5 (aI st).pos)
def iR(ex:ExF):List Bool→PS→List aM→List aM×PS
 | [],st,l=>(l,st)
 |b::bs,st,l=>if st.bad=0 then iR ex bs (gQ ex st l b).2 (gQ ex st l b).1 else(l,st)
def pJ(ex:ExF)(st:PS)(l:List aM):(List aM×aM)×PS:=
 (((iR ex (opers (2+(aU st kR).1)) (aU st kR).2 l).1,⟨2+(aU st kR).1,⟨0,0,[]⟩,⟨0,[],false⟩⟩),dJ (iR ex (opers (2+(aU st kR).1)) (aU st kR).2 l).2 [41])
def iI(ex:ExF)(st:PS)(l:List aM):(List aM×aM)×PS:=
 if isD st [40]=true then pJ ex (aY st) l
 else if(aI st).kind=1∧(aI st).s≠vu∧(aI st).s≠pH then((l,⟨2,⟨0,0,[]⟩,(fI st).1⟩),(fI st).2)
 else((l,⟨1,(aC st).1,⟨0,[],false⟩⟩),(aC st).2)
def dR:Nat→ExF
 |0,st,l=>((l,false),st)
 |f+1,st,l=>(((iI (dR f) st l).1.1++ [(iI (dR f) st l).1.2],(iI (dR f) st l).1.2.op==2),bA (iI (dR f) st l).2 (decide (32<(iI (dR f) st l).1.1.length+1)))
def Dy(ex:ExF):Prop:=∀st l,WfP st→Ah st (ex st l).2∧(ex st l).1.1.length+2*st.pos≤l.length+2*(ex st l).2.pos+1
theorem xL{ex:ExF}(he:Dy ex)(st:PS)(l:List aM)(b:Bool)(h:WfP st):Ah st (gQ ex st l b).2∧(gQ ex st l b).1.length+2*st.pos≤l.length+2*(gQ ex st l b).2.pos+1:=by
 obtain⟨h1,h2⟩:=he st l h;unfold gQ;split
 ·grind
 ·refine⟨h1.trans (wB _ _ h1.1), ?_⟩
  grind [bD,aI]
theorem zV{ex:ExF}(he:Dy ex):∀(bs:List Bool) (st:PS) (l:List aM),WfP st→Ah st (iR ex bs st l).2∧(iR ex bs st l).1.length+2*st.pos≤l.length+2*(iR ex bs st l).2.pos+bs.length
 | [],st,l,h=>⟨.refl h,by simp[iR]⟩
 |b::bs,st,l,h=>by
  unfold iR;split
  ·obtain⟨h1,h2⟩:=xL he st l b h
   obtain⟨h3,h4⟩:=zV he bs (gQ ex st l b).2 (gQ ex st l b).1 h1.1;exact⟨h1.trans h3,aas⟩
  ·exact⟨.refl h,aaz⟩
theorem CM(op:Int):(opers op).length≤2:=by
 grind [opers]
theorem JB{ex:ExF}(he:Dy ex)(st:PS)(l:List aM)(h:WfP st):Ah st (pJ ex st l).2∧(pJ ex st l).1.1.length+2*st.pos≤l.length+2*(pJ ex st l).2.pos+2:=by
 have h1:=ga kR h;obtain⟨h2,h3⟩:=zV he (opers (2+(aU st kR).1)) _ l h1.1;have h4:=iM [41] h2.1;have:=CM (2+(aU st kR).1);have p1:=h1.2.2;have p4:=h4.2.2;unfold pJ;exact⟨(h1.trans h2).trans h4,aas⟩
theorem Cj{ex:ExF}(he:Dy ex)(st:PS)(l:List aM)(h:WfP st):Ah st (iI ex st l).2∧(iI ex st l).1.1.length+2*st.pos≤l.length+2*(iI ex st l).2.pos:=by
 unfold iI;split
 ·rename_i hi
  have h1:=ew h (cZ hi);obtain⟨h2,h3⟩:=JB he _ l h1.1;have:(aY st).pos=st.pos+1:=rfl;exact⟨h1.trans h2,aar⟩
 ·split
  ·have h1:=AH h
   have:=h1.2.2;exact⟨h1,aas⟩
  ·have h1:=BC h
   have:=h1.2.2;exact⟨h1,aas⟩
theorem pG:∀f,Dy (dR f)
 |0=>fun st l h=>⟨.refl h,by simp[dR]⟩
 |f+1=>fun st l h=>by
  obtain⟨h1,h2⟩:=Cj (pG f) st l h;have h3:=j8 (decide (32<(iI (dR f) st l).1.1.length+1)) h1.1;have:=h3.2.2;refine⟨h1.trans h3, ?_⟩
  grind [dR,aal,List.length_singleton]
def ua:List Txt:=[[112,101,114,109,105,116],[100,101,110,121]]
def lM:List Txt:=[[108,111,103],[114,101,100,97,99,116],[114,101,118,105,101,119],[110,111,116,105,102,121]]
def vh:Txt:=[111,110]
def yU(st:PS):cA×PS:=
 (⟨(aU st ua).1,(aU (aU st ua).2 lM).1,(cj (aU (aU st ua).2 lM).2).1⟩,(cj (aU (aU st ua).2 lM).2).2)
theorem IY{st:PS}(h:WfP st):Ah st (yU st).2:=by
 have h1:=ga ua h;have h2:=ga lM h1.1;exact(h1.trans h2).trans (mc h2.1)
def fR(st:PS):List cA×PS:=fC yU vh 8 st.ts.length st []
theorem AJ{st:PS}(h:WfP st):Ah st (fR st).2:=rQ (fun _ h=>IY h) _ _ _ _ _ h
inductive Rch (a:PS):PS→Prop where
 |refl:Rch a a
 |wrong {b:PS} (e p:Int):Rch a b→(e=5∨e=6)→(∃i,i≤b.pos∧p=(b.ts.getD i ⟨7,0,0,[]⟩).pos)→Rch a (bD b e p)
 |next {b:PS}:Rch a b→b.bad=0→(aI b).kind≠7→Rch a (aY b)
theorem Rch.trans{a b c:PS}(x:Rch a b)(y:Rch b c):Rch a c:=by
 induction y with
 |refl=>exact x
 |wrong e p _ h1 h2 ih=>grind [wrong]
 |next _ h1 h2 ih=>grind [next]
theorem jR(st:PS):Rch st (bf st):=.wrong _ _ .refl (.inl rfl) ⟨st.pos,Nat.le_refl _,rfl⟩
theorem qE(st:PS)(b:Bool):Rch st (bA st b):=by
 unfold bA;split
 ·exact .wrong _ _ .refl (.inr rfl) ⟨st.pos,Nat.le_refl _,rfl⟩
 ·exact acQ
theorem FJ{st:PS}{s:Txt}(h:isD st s=true):st.bad=0:=by
 simp_all [isD,Bool.and_eq_true,beq_iff_eq]
theorem rI{st:PS}{s:Txt}(h:isD st s=true):Rch st (aY st):=.next .refl (FJ h) (cZ h)
theorem Kx(st:PS)(s:Txt):Rch st (ck st s).2:=by
 unfold ck;split
 ·grind [rI]
 ·exact acQ
theorem lV(st:PS)(s:Txt):Rch st (dJ st s):=by
 grind [dJ,rI,jR]
theorem sV(st:PS):Rch st (cj st).2:=by
 unfold cj;split
 ·rename_i h;exact .next .refl h.2 aar
 ·simp only;split
  ·exact acQ
  grind [jR]
theorem lI(st:PS)(ws:List Txt):Rch st (aU st ws).2:=by
 unfold aU;split
 ·split
  ·rename_i h;exact .next .refl h.2 aar
  grind [jR]
 grind [jR]
theorem C0(st:PS):Rch st (fI st).2:=(((lI st uK).trans (lV _ [46])).trans (sV _)).trans (Kx _ [33])
theorem Ac(st:PS):Rch st (aC st).2:=by
 unfold aC;rcases tf st with⟨e,hk⟩|e
 ·rw[e];split
  ·rename_i h;exact .next .refl h hk
  ·exact acQ
 simp_all [if_neg,qI,jR]
theorem PD(st:PS):Rch st (opP st).2:=by
 grind [opP,rI,jR]
theorem z8(st:PS):Rch st (fW st).2:=((C0 st).trans (PD _)).trans (Ac _)
theorem qc{α:Type}{one:PS→α×PS}(ho:∀st,Rch st (one st).2)(w:Txt)(most:Nat):∀(f:Nat) (st:PS) (l:List α),Rch st (fC one w most f st l).2
 |0,st,l=> .refl
 |f+1,st,l=>by
  unfold fC;split
  ·rename_i h
   exact(((rI h).trans (ho _)).trans (qE _ _)).trans (qc ho w most f _ _)
  ·exact acQ
theorem F6(st:PS):Rch st (oO st).2:=(z8 st).trans (qc z8 _ _ _ _ _)
theorem F7(st:PS):Rch st (qL st).2:=(((lV st [40]).trans (F6 _)).trans (qc F6 orT 8 st.ts.length _ [(oO (dJ st [40])).1])).trans (lV _ [41])
theorem F8(st:PS):Rch st (gy st).2:=by
 unfold gy;split
 ·rename_i h;exact((rI h).trans (F7 _)).trans (qc F7 _ _ _ _ _)
 ·exact acQ
theorem MB(st:PS):Rch st (yU st).2:=((lI st ua).trans (lI _ lM)).trans (sV _)
theorem C4(st:PS):Rch st (fR st).2:=qc MB _ _ _ _ _
theorem qF{a b:PS}(h:Rch a b):b.ts=a.ts∧a.pos≤b.pos∧b.rules=a.rules:=by
 induction h with
 |refl=>simp
 |wrong e p _ _ _ ih=>
  grind [bD]
 |next _ _ _ ih=>exact⟨ih.1,Nat.le_succ_of_le ih.2.1,ih.2.2⟩
theorem C5{ex:ExF}(he:∀st l,Rch st (ex st l).2)(st:PS)(l:List aM)(b:Bool):Rch st (gQ ex st l b).2:=by
 unfold gQ;simp only;split
 ·grind
 ·have:=qF (he st l)
  exact .wrong _ _ (he st l) (.inl rfl) ⟨st.pos,this.2.1,by rw[this.1];rfl⟩
theorem Aa{ex:ExF}(he:∀st l,Rch st (ex st l).2):∀(bs:List Bool) (st:PS) (l:List aM),Rch st (iR ex bs st l).2
 | [],st,l=> .refl
 |b::bs,st,l=>by
  unfold iR;split
  ·exact(C5 he st l b).trans (Aa he bs _ _)
  ·exact acQ
theorem C1:∀(f:Nat) (st:PS) (l:List aM),Rch st (dR f st l).2
 |0,st,l=> .refl
 |f+1,st,l=>by
  refine Rch.trans ?_ (qE _ _);unfold iI;split
  ·rename_i h
   exact(rI h).trans (((lI _ kR).trans (Aa (C1 f) _ _ _)).trans (lV _ [41]))
  grind [C0,Ac]
def ifT:Txt:=[105,102]
def oe:Txt:=[112,101,114,109,105,116]
def iF:Txt:=[100,101,110,121]
def og:Txt:=[112,111,108,105,99,121]
def EM:Txt:=[115,101,116]
def lS:List Txt:=[og,EM]
def wC:List Txt:=[[100,101,110,121,111,118,101,114],[112,101,114,109,105,116,111,118,101,114],[102,105,114,115,116],[111,110,108,121],[100,101,110,121,117,110,108,101,115,115],[112,101,114,109,105,116,117,110,108,101,115,115]]
def pz(st:PS):List aM×PS:=if isD st ifT=true then gQ (dR st.ts.length) (aY st) [] false else([],st)
theorem Kw(st:PS):Rch st (pz st).2:=by
 unfold pz;split
 ·rename_i h;exact(rI h).trans (C5 (C1 _) _ _ _)
 ·exact acQ
theorem Fe{st:PS}(h:WfP st):Ah st (pz st).2:=by
 unfold pz;split
 ·rename_i hi
  have h1:=ew h (cZ hi);exact h1.trans (xL (pG _) _ _ _ h1.1).1
 ·exact acL
def oL(deny:Bool)(st:PS):cK×PS:=
 (⟨(cj st).1,deny,(gy (cj st).2).1,(pz (gy (cj st).2).2).1,(fR (pz (gy (cj st).2).2).2).1⟩,dJ (fR (pz (gy (cj st).2).2).2).2 [59])
theorem xY(deny:Bool)(st:PS):Rch st (oL deny st).2:=((((sV st).trans (F8 _)).trans (Kw _)).trans (C4 _)).trans (lV _ [59])
theorem AK(deny:Bool){st:PS}(h:WfP st):Ah st (oL deny st).2:=by
 have h1:=mc h;have h2:=AL h1.1;have h3:=Fe h2.1;have h4:=AJ h3.1;exact(((h1.trans h2).trans h3).trans h4).trans (iM [59] h4.1)
inductive mN (a:PS):PS→Prop where
 |refl:mN a a
 |small {b c:PS}:mN a b→Rch b c→mN a c
 |rule {b:PS}:mN a b→b.bad=0→b.rules≠64→(aI b).kind≠7→mN a {aY b with rules:=b.rules+1}
theorem mN.trans{a b c:PS}(x:mN a b)(y:mN b c):mN a c:=by
 induction y with
 |refl=>exact x
 |small _ h1 ih=>grind [small]
 |rule _ h1 h2 h3 ih=>grind [rule]
theorem Rch.big{a b:PS}(h:Rch a b):mN a b:=.small .refl h
def jz:Nat→PS→List cK→List cK×PS
 |0,st,l=>(l,st)
 |f+1,st,l=>if isD st oe=true∨isD st iF=true then
   if l.length=16∨st.rules=64 then(l,bA st true)
   else jz f (oL (isD st iF) {aY st with rules:=st.rules+1}).2 (l++ [(oL (isD st iF) {aY st with rules:=st.rules+1}).1])
  else(l,st)
abbrev PoF:=PS→bG×PS
def js(pol:PoF)(deep:Bool):Nat→PS→List bG→List bG×PS
 |0,st,l=>(l,st)
 |f+1,st,l=>if isD st og=true∨isD st EM=true then
   if l.length=16∨deep=true then(l,bA st true)
   else js pol deep f (pol st).2 (l++ [(pol st).1])
  else(l,st)
def cN(st:PS):(Bool×Txt×Int×fQ)×PS:=
 (((aU st lS).1==2,(cj (aU st lS).2).1,(aU (cj (aU st lS).2).2 wC).1,(gy (aU (cj (aU st lS).2).2 wC).2).1),dJ (gy (aU (cj (aU st lS).2).2 wC).2).2 [123])
theorem C2(st:PS):Rch st (cN st).2:=((((lI st lS).trans (sV _)).trans (lI _ wC)).trans (F8 _)).trans (lV _ [123])
theorem LB{st:PS}(h:WfP st):Ah st (cN st).2:=by
 have h1:=ga lS h;have h2:=mc h1.1;have h3:=ga wC h2.1;have h4:=AL h3.1;exact(((h1.trans h2).trans h3).trans h4).trans (iM [123] h4.1)
def oE(pol:PoF)(deep:Bool)(set:Bool)(st:PS):(List cK×List bG)×PS:=
 if set=true then(([],(js pol deep 17 st []).1),(js pol deep 17 st []).2)else(((jz 17 st []).1,[]),(jz 17 st []).2)
def gh:Nat→PoF
 |0,st=>(.mk [] false 0 [] [] [] [],st)
 |r+1,st=>(.mk (cN st).1.2.1 (cN st).1.1 (cN st).1.2.2.1 (cN st).1.2.2.2 (oE (gh r) (r==0) (cN st).1.1 (cN st).2).1.1 (oE (gh r) (r==0) (cN st).1.1 (cN st).2).1.2
   (fR (dJ (oE (gh r) (r==0) (cN st).1.1 (cN st).2).2 [125])).1,(fR (dJ (oE (gh r) (r==0) (cN st).1.1 (cN st).2).2 [125])).2)
theorem lQ{st:PS}{a b:Txt}(h:isD st a=true∨isD st b=true):st.bad=0∧(aI st).kind≠7:=by
 grind [FJ,cZ]
theorem wA{st:PS}(h:WfP st)(hk:(aI st).kind≠7):Ah st {aY st with rules:=st.rules+1}:=ew h hk
theorem Fg:∀(f:Nat) (st:PS) (l:List cK),WfP st→Ah st (jz f st l).2
 |0,st,l,h=> .refl h
 |f+1,st,l,h=>by
  unfold jz;split
  ·rename_i hi
   split
   ·exact j8 true h
   ·have h1:=wA h (lQ hi).2
    have h2:=AK (isD st iF) h1.1;exact(h1.trans h2).trans (Fg f _ _ h2.1)
  ·exact acL
theorem C6:∀(f:Nat) (st:PS) (l:List cK),mN st (jz f st l).2
 |0,st,l=> .refl
 |f+1,st,l=>by
  unfold jz;split
  ·rename_i hi
   split
   ·exact(qE st true).big
   ·rename_i hn
    have h1:mN st {aY st with rules:=st.rules+1}:=.rule .refl (lQ hi).1 aar (lQ hi).2
    exact(h1.trans (xY (isD st iF) _).big).trans (C6 f _ _)
  ·exact acQ
theorem Ff{pol:PoF}(hp:∀st,WfP st→Ah st (pol st).2)(deep:Bool):∀(f:Nat) (st:PS) (l:List bG),WfP st→Ah st (js pol deep f st l).2
 |0,st,l,h=> .refl h
 |f+1,st,l,h=>by
  unfold js;split
  ·split
   ·exact j8 true h
   ·have h1:=hp st h
    exact h1.trans (Ff hp deep f _ _ h1.1)
  ·exact acL
theorem C3{pol:PoF}(hp:∀st,mN st (pol st).2)(deep:Bool):∀(f:Nat) (st:PS) (l:List bG),mN st (js pol deep f st l).2
 |0,st,l=> .refl
 |f+1,st,l=>by
  unfold js;split
  ·split
   ·exact(qE st true).big
   ·exact(hp st).trans (C3 hp deep f _ _)
  ·exact acQ
theorem AI{pol:PoF}(hp:∀st,WfP st→Ah st (pol st).2)(deep set:Bool){st:PS}(h:WfP st):Ah st (oE pol deep set st).2:=by
 grind [oE,Ff,Fg]
theorem Kv{pol:PoF}(hp:∀st,mN st (pol st).2)(deep set:Bool)(st:PS):mN st (oE pol deep set st).2:=by
 grind [oE,C3,C6]
theorem wz:∀(r:Nat) (st:PS),WfP st→Ah st (gh r st).2
 |0,st,h=> .refl h
 |r+1,st,h=>by
  have h1:=LB h;have h2:=AI (wz r) (r==0) (cN st).1.1 h1.1;have h3:=iM [125] h2.1;exact((h1.trans h2).trans h3).trans (AJ h3.1)
theorem Bj:∀(r:Nat) (st:PS),mN st (gh r st).2
 |0,st=> .refl
 |r+1,st=>(((C2 st).big.trans (Kv (Bj r) _ _ _)).trans (lV _ [125]).big).trans (C4 _).big
theorem um{a b:PS}(h:mN a b)(h0:a.rules≤64):b.rules≤64:=by
 induction h with
 |refl=>omega
 |small _ h1 ih=>rw[(qF h1).2.2];omega
 |rule _ _ h2 _ ih=>grind
end Go.Bf
