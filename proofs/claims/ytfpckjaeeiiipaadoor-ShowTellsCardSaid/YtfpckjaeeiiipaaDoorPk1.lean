/- The law ShowTells: pack 1 of its texts. -/
import Derived.Tactics
import Derived.Still
import Derived.Below
import Derived.Laws.IdiomCopy
import Derived.Laws.Append
import Derived.Laws.Strings
import Derived.Laws.StructEq
import Derived.ChangeKeysEq
import Derived.WalkKit
import Derived.Maps.Keyed
set_option linter.unusedSimpArgs false
set_option linter.unusedVariables false
namespace Go
theorem Gp {n m:Nat} (h:Nat.ble n m=true):n≤m:=Nat.le_of_ble_eq_true h
theorem Gq.{u,v} {α:Type u} {β:Type v} {l:List α} (f:α→β):(l.map f).length=l.length:=List.length_map f
theorem Gr.{u,v} {α:Type u} {β:Type v} (f:α→β) {l:List α} {i:Nat} {h:i<(l.map f).length}:(l.map f)[i]=f (l[i]'(List.length_map (as:=l) f▸h)):=List.getElem_map f
theorem Gs {p:Prop} [Decidable p] (h:decide p=true):p:=_root_.of_decide_eq_true h
theorem Gt {p:Prop} [Decidable p] (h:decide p=false):¬p:=_root_.of_decide_eq_false h
theorem Gu.{u} {α:Type u} {l k:List α}:(l++k).length=l.length+k.length:=List.length_append
theorem Gv.{u} {α:Type u} {l:List α} {n:Nat} (h:n<l.length):l[n]∈l:=List.getElem_mem h
end Go
namespace Go.Ab
open Go
inductive Perm where
 |no
 |full
 |own (id:Nat)
inductive AV where
 |v (x:Value)
 |s (l:List UInt8)
 |agg (cells:List AV)
 |tup (vs:List AV)
 |sl (xs:List AV) (p:Perm)
 |pe (x:AV) (off:Nat)
 |ptr (id off:Nat)
 |oa (id off len:Nat)
 |ifc (t:TypeId) (x:AV)
 |fn (f:FuncId) (cap:List AV)
 |mp (id:Nat)
 |ob (id off len cap sz:Nat)
instance:Inhabited AV:=⟨.v undef⟩
def AV.cells:AV→List AV
 | .agg cs=>cs
 |x=> [x]
inductive Blk where
 |obj (cells:List AV) (t:TypeId)
 |spare (n sz:Nat)
 |mp (m:List (AV×AV))
 |ro (b:Nat) (vs:List Value)
def dj:AV→Value
 | .s l=> .string ⟨l.toArray⟩
 | .v x=>x
 |_=>undef
abbrev Heap:=Nat→Option Blk
structure Cx where
 w:World
 φ:Nat→Addr
 h:Heap
def Blk.start (base:Addr):Blk→Nat
 | .obj .. =>0
 | .spare n sz=>base.off+n*sz
 | .mp _=>0
 | .ro .. =>0
def Blk.holds (base:Addr) (k:Blk) (o:Nat):Prop:=match k with
 | .ro .. =>False
 |k=>k.start base≤o
theorem Blk.holds.up {base:Addr} {k:Blk} {o x:Nat} (h:k.holds base o) (hx:o≤x):k.holds base x:=by
 cases k<;>first|exact h.elim|exact Nat.le_trans h hx
def owned (c:Cx) (b o:Nat):Prop:=∃id k,c.h id=some k∧(c.φ id).block=b∧k.holds (c.φ id) o
def fix (c:Cx) (b o:Nat) (u:Value):Prop:=c.w.cell? ⟨b,o,none⟩=some u∧¬owned c b o
def lim:Nat:=9223372036854775808
def jY (c:Cx) (a:Option Addr) (n cap sz:Nat):Perm→Prop
 | .no=>True
 | .full=>cap=n
 | .own id=>∃m,c.h id=some (.spare m sz)∧n≤m∧(n=m→∃q,a=some q∧c.φ id=q∧∃(cs:Array Value) (t:TypeId) (fr:Nat×Nat),c.w.heap[q.block]? =some (.cells cs t fr)∧q.off+cap*sz≤cs.size)
inductive Rep (c:Cx):AV→Value→Prop where
 |v (x:Value):Rep c (.v x) x
 |s (l:List UInt8) (hl:l.length<lim):Rep c (.s l) (.string ⟨l.toArray⟩)
 |agg (xs:List AV) (vs:Array Value) (hn:vs.size=xs.length)
   (hr:∀i (h:i<xs.length),Rep c xs[i] (vs.getD i undef)) (ho:∀i,i<xs.length→(vs.getD i undef).oneCell' =true):Rep c (.agg xs) (.agg vs)
 |tup (xs:List AV) (vs:Array Value) (hn:vs.size=xs.length)
   (hr:∀i (h:i<xs.length),Rep c xs[i] (vs.getD i undef)):Rep c (.tup xs) (.tuple vs)
 |sl (xs:List AV) (p:Perm) (a:Option Addr) (cap sz:Nat) (val:Nat→Nat→Value)
   (hc:xs.length≤cap) (hm:cap<lim) (h0:a=none→cap=0)
   (hs:∀q,a=some q→0<cap→q.spot=none∧q.block<c.w.heap.size)
   (hz:∀i (h:i<xs.length),xs[i].cells.length=sz)
   (hf:∀q,a=some q→∀i j,i<xs.length→j<sz→fix c q.block (q.off+(i*sz+j)) (val i j))
   (hr:∀i (h:i<xs.length) j (h' :j<xs[i].cells.length),Rep c xs[i].cells[j] (val i j))
   (ho:∀i j,i<xs.length→j<sz→(val i j).oneCell' =true)
   (hp:jY c a xs.length cap sz p):Rep c (.sl xs p) (.slice a xs.length cap)
 |pe (x:AV) (off b o:Nat) (val:Nat→Value) (hb:b<c.w.heap.size)
   (hf:∀j,j<x.cells.length→fix c b (o+j) (val j))
   (hr:∀j (h:j<x.cells.length),Rep c x.cells[j] (val j))
   (ho:∀j,j<x.cells.length→(val j).oneCell' =true):Rep c (.pe x off) (.pointer (some ⟨b,o+off,none⟩))
 |ptr (id off:Nat) (cs:List AV) (t:TypeId) (h:c.h id=some (.obj cs t)):Rep c (.ptr id off) (.pointer (some ⟨(c.φ id).block,off,none⟩))
 |oa (id off len cap o:Nat) (cs:List AV) (t:TypeId) (h:c.h id=some (.obj cs t)) (hc:len≤cap) (hm:cap<lim) (ho:cap≠0→o=off∧off+cap≤cs.length):
   Rep c (.oa id off len) (.slice (some ⟨(c.φ id).block,o,none⟩) len cap)
 |ifc (t:TypeId) (x:AV) (u:Value) (h:Rep c x u):Rep c (.ifc t x) (.iface t u)
 |fn (f:FuncId) (xs:List AV) (vs:Array Value) (hn:vs.size=xs.length)
   (hr:∀i (h:i<xs.length),Rep c xs[i] (vs.getD i undef)):Rep c (.fn f xs) (.func (.func f) #[] vs)
 |mp (id:Nat) (m:List (AV×AV)) (h:c.h id=some (.mp m)):Rep c (.mp id) (.map (some (c.φ id).block))
 |ob (id off len cap sz o:Nat) (cs:List AV) (t:TypeId) (h:c.h id=some (.obj cs t)) (hc:len≤cap) (hm:cap<lim) (ho:cap≠0→o=off∧off+cap*sz≤cs.length):
   Rep c (.ob id off len cap sz) (.slice (some ⟨(c.φ id).block,o,none⟩) len cap)
structure Ext (c c' :Cx):Prop where
 os:c'.w.os=c.w.os
 tape:c'.w.tape=c.w.tape
 output:c'.w.output=c.w.output
 size:c.w.heap.size≤c'.w.heap.size
 block:∀b,b<c.w.heap.size→(∀o,¬owned c b o)→c'.w.heap[b]? =c.w.heap[b]?
 cell:∀b o,b<c.w.heap.size→¬owned c b o→c'.w.cell? ⟨b,o,none⟩=c.w.cell? ⟨b,o,none⟩
 shape:∀(b:Nat) (cs:Array Value) (t:TypeId) (fr:Nat×Nat),c.w.heap[b]? =some (.cells cs t fr)→∃(cs' :Array Value) (fr' :Nat×Nat),c'.w.heap[b]? =some (.cells cs' t fr')∧cs'.size=cs.size
 steal:∀b o,b<c.w.heap.size→owned c' b o→owned c b o
 obj:∀id cs t,c.h id=some (.obj cs t)→c'.φ id=c.φ id∧∃cs',c'.h id=some (.obj cs' t)∧cs'.length=cs.length
 spare:∀id n sz,c.h id=some (.spare n sz)→∃n',c'.h id=some (.spare n' sz)∧(n' =n∧c'.φ id=c.φ id∨n<n')
 mp:∀id m,c.h id=some (.mp m)→c'.φ id=c.φ id∧∃m',c'.h id=some (.mp m')
 ro:∀id b vs,c.h id=some (.ro b vs)→c'.φ id=c.φ id∧c'.h id=some (.ro b vs)
theorem Ext.refl (c):Ext c c where
 os:=rfl
 tape:=rfl
 output:=rfl
 size:=Nat.le_refl _
 block:=fun _ _ _=>rfl
 cell:=fun _ _ _ _=>rfl
 shape:=fun _ cs _ fr h=>⟨cs,fr,h,rfl⟩
 steal:=fun _ _ _ h=>h
 obj:=fun _ cs _ h=>⟨rfl,cs,h,rfl⟩
 spare:=fun _ n _ h=>⟨n,h, .inl ⟨rfl,rfl⟩⟩
 mp:=fun _ m h=>⟨rfl,m,h⟩
 ro:=fun _ _ _ h=>⟨rfl,h⟩
theorem Ext.trans {a b c} (h:Ext a b) (k:Ext b c):Ext a c where
 os:=k.os.trans h.os
 tape:=k.tape.trans h.tape
 output:=k.output.trans h.output
 size:=Nat.le_trans h.size k.size
 block:=fun x hx ho=>(k.block x (Nat.lt_of_lt_of_le hx h.size) fun o ho' =>ho o (h.steal x o hx ho')).trans (h.block x hx ho)
 cell:=fun x o hx ho=>(k.cell x o (Nat.lt_of_lt_of_le hx h.size) fun ho' =>ho (h.steal x o hx ho')).trans (h.cell x o hx ho)
 shape:=fun x cs t fr hx=>by
  obtain ⟨cs',fr',h1,h2⟩:=h.shape x cs t fr hx;obtain ⟨cs'',fr'',h3,h4⟩:=k.shape x cs' t fr' h1
  grind
 steal:=fun x o hx ho=>h.steal x o hx (k.steal x o (Nat.lt_of_lt_of_le hx h.size) ho)
 obj:=fun id cs t hi=>by
  obtain ⟨h1,cs',h2,h5⟩:=h.obj id cs t hi;obtain ⟨h3,cs'',h4,h6⟩:=k.obj id cs' t h2
  grind
 spare:=fun id n sz hi=>by
  obtain ⟨n',h1,h2⟩:=h.spare id n sz hi;obtain ⟨n'',h3,h4⟩:=k.spare id n' sz h1
  grind
 mp:=fun id m hi=>by
  obtain ⟨h1,m',h2⟩:=h.mp id m hi;obtain ⟨h3,m'',h4⟩:=k.mp id m' h2
  grind
 ro:=fun id b vs hi=>by
  obtain ⟨h1,h2⟩:=h.ro id b vs hi;obtain ⟨h3,h4⟩:=k.ro id b vs h2
  grind
theorem fix.mono {c c'} {b o} {u} (he:Ext c c') (hb:b<c.w.heap.size) (h:fix c b o u):fix c' b o u:=
 ⟨(he.cell b o hb h.2).trans h.1,fun h' =>h.2 (he.steal b o hb h')⟩
theorem jY.mono {c c'} {a} {n cap sz} {p} (he:Ext c c') (h:jY c a n cap sz p):jY c' a n cap sz p:=by
 cases p with
 |no=>trivial
 |full=>exact h
 |own id=>
  obtain ⟨m,h1,h2,h3⟩:=h;obtain ⟨n',h4,h5⟩:=he.spare id m sz h1;refine ⟨n',h4, ?_, ?_⟩
  ·omega
  ·intro e
   rcases h5 with ⟨rfl,h5⟩|h5
   ·obtain ⟨q,h6,h7,cs,t,fr,h8,h9⟩:=h3 e
    obtain ⟨cs',fr',h10,h11⟩:=he.shape _ cs t fr h8
    grind
   omega
theorem Rep.mono {c c'} (he:Ext c c') {x} {u} (h:Rep c x u):Rep c' x u:=by
 induction h with
 |v x=>exact .v x
 |s l hl=>exact .s l hl
 |agg xs vs hn hr ho ih=>exact .agg xs vs hn ih ho
 |tup xs vs hn hr ih=>exact .tup xs vs hn ih
 |sl xs p a cap sz val hc hm h0 hs hz hf hr ho hp ih=>
  exact .sl xs p a cap sz val hc hm h0 (fun q hq hp=>⟨(hs q hq hp).1,Nat.lt_of_lt_of_le (hs q hq hp).2 he.size⟩) hz
   (fun q hq i j hi hj=>(hf q hq i j hi hj).mono he (hs q hq (by omega)).2) ih ho (hp.mono he)
 |pe x off b o val hb hf hr ho ih=>exact .pe x off b o val (Nat.lt_of_lt_of_le hb he.size) (fun j hj=>(hf j hj).mono he hb) ih ho
 |ptr id off cs t h=>
  obtain ⟨h1,cs',h2,_⟩:=he.obj id cs t h;rw [←h1];exact .ptr id off cs' t h2
 |oa id off len cap o cs t h hc hm ho=>
  obtain ⟨h1,cs',h2,h3⟩:=he.obj id cs t h;rw [←h1];exact .oa id off len cap o cs' t h2 hc hm (by omega)
 |ifc t x u h ih=>exact .ifc t x u ih
 |fn f xs vs hn hr ih=>exact .fn f xs vs hn ih
 |mp id m h=>
  obtain ⟨h1,m',h2⟩:=he.mp id m h;rw [←h1];exact .mp id m' h2
 |ob id off len cap sz o cs t h hc hm ho=>
  obtain ⟨h1,cs',h2,h3⟩:=he.obj id cs t h;rw [←h1];exact .ob id off len cap sz o cs' t h2 hc hm (by omega)
structure Good (c:Cx):Prop where
 fin:∃N,∀id,N≤id→c.h id=none
 inj:∀i j k l,c.h i=some k→c.h j=some l→i≠j→(c.φ i).block≠(c.φ j).block
 obj:∀id cs t,c.h id=some (.obj cs t)→∃vs:Array Value,c.w.heap[(c.φ id).block]? =some (.cells vs t (0,0))∧vs.size=cs.length∧
  ∀j (h:j<cs.length),Rep c cs[j] (vs.getD j undef)∧(vs.getD j undef).oneCell' =true
 spare:∀id n sz,c.h id=some (.spare n sz)→(c.φ id).spot=none∧∃(vs:Array Value) (t:TypeId) (fr:Nat×Nat),c.w.heap[(c.φ id).block]? =some (.cells vs t fr)∧
  ∀o,(c.φ id).off+n*sz≤o→¬(fr.1≤o∧o<fr.2)
 mp:∀id m,c.h id=some (.mp m)→∃(es:Array MapEntry) (clock:Nat),c.w.heap[(c.φ id).block]? =some (.map es clock)∧es.size=m.length∧
  ∀i (h:i<m.length) (h' :i<es.size),es[i].key=dj m[i].1∧Rep c m[i].2 es[i].val
 keys:∀id m,c.h id=some (.mp m)→m.Pairwise (fun p q=>dj p.1≠dj q.1)
 ro:∀id b vs,c.h id=some (.ro b vs)→(c.φ id).block=b∧∃(t:TypeId) (fr:Nat×Nat),c.w.heap[b]? =some (.cells vs.toArray t fr)
theorem Good.Ae {c} (g:Good c) {id b} {vs} (h:c.h id=some (.ro b vs)) (o):¬owned c b o:=by
 rintro ⟨j,k,h1,h2,h3⟩
 by_cases e:j=id
 ·subst e; rw [h] at h1; cases h1; exact h3
 ·exact g.inj j id k _ h1 h e (h2.trans (g.ro id b vs h).1.symm)
theorem Good.fK {c c'} (g:Good c) (he:Ext c c') {id b} {vs} (h:c.h id=some (.ro b vs)):(c'.φ id).block=b∧∃(t:TypeId) (fr:Nat×Nat),c'.w.heap[b]? =some (.cells vs.toArray t fr):=by
 obtain ⟨h1,t,fr,h2⟩:=g.ro id b vs h;have hlt:b<c.w.heap.size:=by
  grind
 exact ⟨by rw [(he.ro id b vs h).1]; omega,t,fr,(he.block b hlt fun o=>g.Ae h o).trans h2⟩
abbrev Env:=List (Nat×AV)
def lk:Env→Nat→Option AV
 | [],_=>none
 |(k,x)::r,t=>if k=t then some x else lk r t
def put (ρ:Env):Option Tmp→AV→Env
 |some d,x=>(d,x)::ρ
 |none,_=>ρ
structure aP (c:Cx) (n:Nat) (ρ:Env) (a:Act):Prop where
 size:a.tmps.size=n
 defers:a.defers= []
 rep:∀t x,lk ρ t=some x→Rep c x (a.tmps.getD t undef)
theorem aP.mono {c c'} {n} {ρ} {a} (he:Ext c c') (h:aP c n ρ a):aP c' n ρ a:=
 ⟨h.size,h.defers,fun t x hx=>(h.rep t x hx).mono he⟩
def bS (n:Nat):Option Tmp→Bool
 |some d=>decide (d<n)
 |none=>true
theorem aP.put {c} {n} {ρ} {a} (h:aP c n ρ a) {d} (hd:bS n d=true) {x} {u} (hx:Rep c x u):
  aP c n (put ρ d x) (a.put d u):=by
 cases d with
 |none=>exact h
 |some d=>
  have hd' :d<a.tmps.size:=by rw [h.size]; exact Gs hd
  refine ⟨by simp [Act.put,h.size],h.defers,fun t y hy=> ?_⟩
  simp only [Ab.put,lk] at hy;split at hy
  ·rename_i e; subst e
   simp only [Option.some.injEq] at hy; subst hy
   simpa [Act.put,hd'] using hx
  ·rename_i e
   have:=h.rep t y hy;simpa [Act.put,Array.getElem?_setIfInBounds_ne e] using this
def upd {α:Type} (f:Nat→α) (i:Nat) (x:α):Nat→α:=fun j=>if j=i then x else f j
theorem ag {α:Type} (f:Nat→α) (i) (x:α):upd f i x i=x:=by simp [upd]
theorem af {α:Type} (f:Nat→α) {i j} (x:α) (h:j≠i):upd f i x j=f j:=by grind [upd]
theorem bg {α:Type} {a:Array α} {i} {x:α} (h:a[i]? =some x):i<a.size:=by
 grind
section
variable {c : Cx} {w' : World}
theorem Ext.draw (hh:w'.heap=c.w.heap) (h1:w'.os=c.w.os) (h2:w'.tape=c.w.tape) (h3:w'.output=c.w.output):Ext c {c with w:=w'} where
 os:=h1
 tape:=h2
 output:=h3
 size:=by grind
 block:=fun b _ _=>by grind
 cell:=fun b o _ _=>by grind [World.cell?]
 shape:=fun b cs t fr h=>⟨cs,fr,by grind,rfl⟩
 steal:=fun _ _ _ h=>h
 obj:=fun _ cs _ h=>⟨rfl,cs,h,rfl⟩
 spare:=fun _ n _ h=>⟨n,h, .inl ⟨rfl,rfl⟩⟩
 mp:=fun _ m h=>⟨rfl,m,h⟩
 ro:=fun _ _ _ h=>⟨rfl,h⟩
theorem Good.draw (g:Good c) (hh:w'.heap=c.w.heap) (h1:w'.os=c.w.os) (h2:w'.tape=c.w.tape) (h3:w'.output=c.w.output):Good {c with w:=w'} where
 fin:=g.fin
 inj:=g.inj
 obj:=fun id cs t h=>by
  obtain ⟨vs,a1,a2,a3⟩:=g.obj id cs t h;exact ⟨vs,by grind,a2,fun j hj=>⟨(a3 j hj).1.mono (Ext.draw hh h1 h2 h3),(a3 j hj).2⟩⟩
 spare:=fun id n sz h=>by
  obtain ⟨a0,vs,t,fr,a1,a2⟩:=g.spare id n sz h
  grind
 mp:=fun id m h=>by
  obtain ⟨es,cl,a1,a2,a3⟩:=g.mp id m h;exact ⟨es,cl,by grind,a2,fun i hi hi' =>⟨(a3 i hi hi').1,(a3 i hi hi').2.mono (Ext.draw hh h1 h2 h3)⟩⟩
 keys:=g.keys
 ro:=fun id b vs h=>g.fK (Ext.draw hh h1 h2 h3) h
end
theorem aQ (w:World) (o:Obj) {b:Nat} (h:b<w.heap.size):(w.alloc o).heap[b]? =w.heap[b]? :=Go.RowKit.Below.heap_alloc w o b h
theorem heap_alloc_new (w:World) (o:Obj):(w.alloc o).heap[w.heap.size]? =some o:=by
 show (w.heap.push o)[w.heap.size]? =_
 simp
theorem Good.lt {c} (g:Good c) {id} {k} (h:c.h id=some k):(c.φ id).block<c.w.heap.size:=by
 cases k with
 |obj cs t=>obtain ⟨vs,h1,_⟩:=g.obj id cs t h; grind
 |spare n sz=>obtain ⟨_,vs,t,fr,h1,_⟩:=g.spare id n sz h; grind
 |mp m=>obtain ⟨es,cl,h1,_⟩:=g.mp id m h; grind
 |ro b vs=>obtain ⟨h1,t,fr,h2⟩:=g.ro id b vs h; grind
theorem Ext.alloc (c) (o):Ext c {c with w:=c.w.alloc o} where
 os:=rfl
 tape:=rfl
 output:=rfl
 size:=by simp
 block:=fun b hb _=>aQ _ _ hb
 cell:=fun b x hb _=>World.cell?_alloc_lt _ _ _ hb
 shape:=fun b cs t fr h=>⟨cs,fr,(aQ _ _ (bg h)).trans h,rfl⟩
 steal:=fun _ _ _ h=>h
 obj:=fun _ cs _ h=>⟨rfl,cs,h,rfl⟩
 spare:=fun _ n _ h=>⟨n,h, .inl ⟨rfl,rfl⟩⟩
 mp:=fun _ m h=>⟨rfl,m,h⟩
 ro:=fun _ _ _ h=>⟨rfl,h⟩
theorem Good.alloc {c} (g:Good c) (o):Good {c with w:=c.w.alloc o} where
 fin:=g.fin
 inj:=g.inj
 obj:=fun id cs t h=>by
  obtain ⟨vs,a1,a2,a3⟩:=g.obj id cs t h;exact ⟨vs,(aQ _ _ (bg a1)).trans a1,a2,fun j hj=>⟨(a3 j hj).1.mono (Ext.alloc c o),(a3 j hj).2⟩⟩
 spare:=fun id n sz h=>by
  obtain ⟨a0,vs,t,fr,a1,a2⟩:=g.spare id n sz h
  grind [aQ,bg,trans]
 mp:=fun id m h=>by
  obtain ⟨es,cl,a1,a2,a3⟩:=g.mp id m h;exact ⟨es,cl,(aQ _ _ (bg a1)).trans a1,a2,fun i hi hi' =>⟨(a3 i hi hi').1,(a3 i hi hi').2.mono (Ext.alloc c o)⟩⟩
 keys:=g.keys
 ro:=fun id b vs h=>g.fK (Ext.alloc c o) h
def Cx.ai (c:Cx) (o:Obj) (id:Nat) (a:Addr) (k:Blk):Cx:= {w:=c.w.alloc o,φ:=upd c.φ id a,h:=upd c.h id (some k)}
theorem nM {c} {o} {id} {a} {k} (ha:a.block=c.w.heap.size) {b x} (hb:b<c.w.heap.size)
  (h:owned (c.ai o id a k) b x):owned c b x:=by
 obtain ⟨j,l,h1,h2,h3⟩:=h
 by_cases e:j=id
 ·simp_all [Cx.ai,ag]
 ·simp only [Cx.ai,af _ _ e] at h1 h2 h3
  exact ⟨j,l,h1,h2,h3⟩
theorem Ext.ai (c) (o) (id) (a) (k) (ha:a.block=c.w.heap.size)
  (hid:c.h id=none∨∃n m sz,c.h id=some (.spare n sz)∧k= .spare m sz∧n<m):Ext c (c.ai o id a k) where
 os:=rfl
 tape:=rfl
 output:=rfl
 size:=by simp [Cx.ai]
 block:=fun b hb _=>aQ _ _ hb
 cell:=fun b x hb _=>World.cell?_alloc_lt _ _ _ hb
 shape:=fun b cs t fr h=>⟨cs,fr,(aQ _ _ (bg h)).trans h,rfl⟩
 steal:=fun b x hb h=>nM ha hb h
 obj:=fun j cs t h=>by
  have e:j≠id:=by
   grind
  exact ⟨af _ _ e,cs,(af _ _ e).trans h,rfl⟩
 spare:=fun j n sz h=>by
  by_cases e:j=id
  ·subst e
   rcases hid with h' |⟨n',m,sz',h',rfl,hlt⟩
   ·grind
   simp_all [Cx.ai,ag]
  ·exact ⟨n,(af _ _ e).trans h, .inl ⟨rfl,af _ _ e⟩⟩
 mp:=fun j m h=>by
  have e:j≠id:=by
   grind
  exact ⟨af _ _ e,m,(af _ _ e).trans h⟩
 ro:=fun j b vs h=>by
  have e:j≠id:=by
   grind
  exact ⟨af _ _ e,(af _ _ e).trans h⟩
theorem Good.ai {c} (g:Good c) (vs) (t) (fr) (id) (a) (k) (ha:a.block=c.w.heap.size)
  (hid:c.h id=none∨∃n m sz,c.h id=some (.spare n sz)∧k= .spare m sz∧n<m)
  (hobj:∀cs t',k= .obj cs t'→t' =t∧fr=(0,0)∧vs.size=cs.length∧∀j (h:j<cs.length),Rep c cs[j] (vs.getD j undef)∧(vs.getD j undef).oneCell' =true)
  (hsp:∀n sz,k= .spare n sz→a.spot=none∧∀o,a.off+n*sz≤o→¬(fr.1≤o∧o<fr.2)) (hmp:∀m,k≠ .mp m:=by intro m hh; cases hh) (hro:∀b vs,k≠ .ro b vs:=by intro b vs hh; cases hh):
  Good (c.ai (.cells vs t fr) id a k):=by
 have hE:=Ext.ai c (.cells vs t fr) id a k ha hid;refine ⟨?_, ?_, ?_, ?_, ?_, ?_, ?_⟩
 ·obtain ⟨N,hN⟩:=g.fin
  refine ⟨max N (id+1),fun j hj=> ?_⟩
  have e:j≠id:=by omega
  exact (af _ _ e).trans (hN j (by omega))
 ·intro i j k1 k2 h1 h2 hne
  by_cases ei:i=id
  ·subst ei
   have ej:j≠i:=fun e=>hne e.symm
   simp only [Cx.ai,ag,af _ _ ej] at h2⊢;have:=g.lt h2;omega
  ·by_cases ej:j=id
   ·subst ej
    simp only [Cx.ai,ag,af _ _ ei] at h1⊢;have:=g.lt h1;omega
   ·simp only [Cx.ai,af _ _ ei,af _ _ ej] at h1 h2⊢
    exact g.inj i j k1 k2 h1 h2 hne
 ·intro j cs t' h
  by_cases e:j=id
  ·subst e
   simp only [Cx.ai,ag,Option.some.injEq] at h;obtain ⟨rfl,rfl,h2,h3⟩:=hobj cs t' h;refine ⟨vs, ?_,h2,fun i hi=>⟨(h3 i hi).1.mono hE,(h3 i hi).2⟩⟩
   simp only [Cx.ai,ag,ha];exact heap_alloc_new _ _
  ·simp only [Cx.ai,af _ _ e] at h
   obtain ⟨us,a1,a2,a3⟩:=g.obj j cs t' h;refine ⟨us, ?_,a2,fun i hi=>⟨(a3 i hi).1.mono hE,(a3 i hi).2⟩⟩
   simp only [Cx.ai,af _ _ e];exact (aQ _ _ (bg a1)).trans a1
 ·intro j n sz h
  by_cases e:j=id
  ·subst e
   simp only [Cx.ai,ag,Option.some.injEq] at h;obtain ⟨h1,h2⟩:=hsp n sz h;simp only [Cx.ai,ag];exact ⟨h1,vs,t,fr,by rw [ha]; exact heap_alloc_new _ _,h2⟩
  ·simp only [Cx.ai,af _ _ e] at h⊢
   obtain ⟨a0,us,t',fr',a1,a2⟩:=g.spare j n sz h;exact ⟨a0,us,t',fr',(aQ _ _ (bg a1)).trans a1,a2⟩
 ·intro j m h
  by_cases e:j=id
  ·subst e
   simp only [Cx.ai,ag,Option.some.injEq] at h;exact (hmp m h).elim
  ·simp only [Cx.ai,af _ _ e] at h
   obtain ⟨es,cl,a1,a2,a3⟩:=g.mp j m h;refine ⟨es,cl, ?_,a2,fun i hi hi' =>⟨(a3 i hi hi').1,(a3 i hi hi').2.mono hE⟩⟩
   simp only [Cx.ai,af _ _ e];exact (aQ _ _ (bg a1)).trans a1
 ·intro j m h
  by_cases e:j=id
  ·subst e
   simp only [Cx.ai,ag,Option.some.injEq] at h;exact (hmp m h).elim
  ·simp only [Cx.ai,af _ _ e] at h
   exact g.keys j m h
 ·intro j b us h
  by_cases e:j=id
  ·subst e
   simp only [Cx.ai,ag,Option.some.injEq] at h;exact (hro b us h).elim
  ·simp only [Cx.ai,af _ _ e] at h
   exact g.fK hE h
theorem Good.allocMap {c} (g:Good c) (id) (hid:c.h id=none):Good (c.ai (.map #[] 0) id ⟨c.w.heap.size,0,none⟩ (.mp [])):=by
 have hE:=Ext.ai c (.map #[] 0) id ⟨c.w.heap.size,0,none⟩ (.mp []) rfl (.inl hid);have old:∀ {j k},(c.ai (.map #[] 0) id ⟨c.w.heap.size,0,none⟩ (.mp [])).h j=some k→j≠id→c.h j=some k∧(c.ai (.map #[] 0) id ⟨c.w.heap.size,0,none⟩ (.mp [])).φ j=c.φ j:=fun h e=>by
  simp_all [Cx.ai,af,trivial]
 refine ⟨?_, ?_, ?_, ?_, ?_, ?_, ?_⟩
 ·obtain ⟨N,hN⟩:=g.fin
  refine ⟨max N (id+1),fun j hj=> ?_⟩
  have e:j≠id:=by omega
  exact (af _ _ e).trans (hN j (by omega))
 ·intro i j k1 k2 h1 h2 hne
  by_cases ei:i=id
  ·subst ei
   have ej:j≠i:=fun e=>hne e.symm
   simp only [Cx.ai,ag,af _ _ ej] at h2⊢;have:=g.lt h2;omega
  ·by_cases ej:j=id
   ·subst ej
    simp only [Cx.ai,ag,af _ _ ei] at h1⊢;have:=g.lt h1;omega
   ·simp only [Cx.ai,af _ _ ei,af _ _ ej] at h1 h2⊢
    exact g.inj i j k1 k2 h1 h2 hne
 ·intro j cs t' h
  have e:j≠id:=fun e=>by simp_all [Cx.ai,ag]
  obtain ⟨h,hφ⟩:=old h e;obtain ⟨us,a1,a2,a3⟩:=g.obj j cs t' h;rw [hφ];exact ⟨us,(aQ _ _ (bg a1)).trans a1,a2,fun i hi=>⟨(a3 i hi).1.mono hE,(a3 i hi).2⟩⟩
 ·intro j n sz h
  have e:j≠id:=fun e=>by simp_all [Cx.ai,ag]
  obtain ⟨h,hφ⟩:=old h e;obtain ⟨a0,us,t',fr',a1,a2⟩:=g.spare j n sz h;rw [hφ];exact ⟨a0,us,t',fr',(aQ _ _ (bg a1)).trans a1,a2⟩
 ·intro j m h
  by_cases e:j=id
  ·subst e
   simp only [Cx.ai,ag,Option.some.injEq,Blk.mp.injEq] at h;subst h;simp only [Cx.ai,ag];exact ⟨#[],0,heap_alloc_new _ _,rfl,fun i hi=>by simp⟩
  ·obtain ⟨h,hφ⟩:=old h e
   obtain ⟨es,cl,a1,a2,a3⟩:=g.mp j m h;rw [hφ];exact ⟨es,cl,(aQ _ _ (bg a1)).trans a1,a2,fun i hi hi' =>⟨(a3 i hi hi').1,(a3 i hi hi').2.mono hE⟩⟩
 ·intro j m h
  by_cases e:j=id
  ·simp_all [Cx.ai,ag,Option.some.injEq,Blk.mp.injEq]
  ·exact g.keys j m (old h e).1
 ·intro j b us h
  have e:j≠id:=fun e=>by simp_all [Cx.ai,ag]
  exact g.fK hE (old h e).1
theorem Good.fresh {c} (g:Good c):∃id,c.h id=none:=let ⟨N,h⟩:=g.fin; ⟨N,h N (Nat.le_refl _)⟩
theorem fP (b):∀(vs:List Value) (o:Nat) (w:World),(w.setCells b o vs).heap.size=w.heap.size
 | [],_,_=>rfl
 |v::r,o,w=>by rw [World.setCells,fP b r,World.size_setCell]
theorem aL (b):∀(vs:List Value) (o:Nat) (w:World) (k:Nat),k≠b→(w.setCells b o vs).heap[k]? =w.heap[k]?
 | [],_,_,_,_=>rfl
 |v::r,o,w,k,h=>by rw [World.setCells,aL b r _ _ k h,Go.RowKit.Below.heap_setCell _ _ _ _ h]
theorem cc (b):∀(vs:List Value) (o:Nat) (w:World) (cs:Array Value) (t:TypeId) (fr:Nat×Nat),w.heap[b]? =some (.cells cs t fr)→
  ∃cs' :Array Value,(w.setCells b o vs).heap[b]? =some (.cells cs' t fr)∧cs'.size=cs.size
 | [],_,_,cs,_,_,h=>⟨cs,h,rfl⟩
 |v::r,o,w,cs,t,fr,h=>by
  have h1:(w.setCell ⟨b,o,none⟩ v).heap[b]? =some (.cells (cs.setIfInBounds o v) t fr):=by
   grind [World.setCell]
  obtain ⟨cs',h2,h3⟩:=cc b r (o+1) _ _ t fr h1;exact ⟨cs',h2,by grind⟩
theorem fI (b):∀(vs:List Value) (o:Nat) (w:World),(w.setCells b o vs).os=w.os∧(w.setCells b o vs).tape=w.tape∧(w.setCells b o vs).output=w.output
 | [],_,_=>⟨rfl,rfl,rfl⟩
 |v::r,o,w=>by rw [World.setCells]; exact fI b r (o+1) _
def Cx.fill (c:Cx) (id o:Nat) (vs:List Value) (k:Blk):Cx:= {c with w:=c.w.setCells (c.φ id).block o vs,h:=upd c.h id (some k)}
theorem Ext.fill {c} (id o) (vs) (k0 k) (h:c.h id=some k0) (ho:k0.holds (c.φ id) o)
  (hk:(∃cs cs' t,k0= .obj cs t∧k= .obj cs' t∧cs'.length=cs.length)∨(∃n m sz,k0= .spare n sz∧k= .spare m sz∧n<m)):Ext c (c.fill id o vs k) where
 os:=(fI _ vs o _).1
 tape:=(fI _ vs o _).2.1
 output:=(fI _ vs o _).2.2
 size:=by show _≤(c.w.setCells _ o vs).heap.size; simp [fP,Nat.le_refl]
 block:=fun b _ hno=>aL _ vs o _ b fun e=>hno o ⟨id,k0,h,e.symm,ho⟩
 cell:=fun b x _ hno=>World.cell?_setCells_out _ vs o _ _ fun e _=>by
  rcases Nat.lt_or_ge x o with h' |h'
  ·grind
  ·exact (hno ⟨id,k0,h,e.symm,ho.up h'⟩).elim
 shape:=fun b cs t fr hb=>by
  by_cases e:b=(c.φ id).block
  ·subst e
   obtain ⟨cs',h1,h2⟩:=cc _ vs o _ cs t fr hb;exact ⟨cs',fr,h1,h2⟩
  ·exact ⟨cs,fr,(aL _ vs o _ b e).trans hb,rfl⟩
 steal:=fun b x _ hx=>by
  obtain ⟨j,l,h1,h2,h3⟩:=hx
  by_cases e:j=id
  ·subst e
   simp only [Cx.fill,ag,Option.some.injEq] at h1;subst h1;refine ⟨j,k0,h,h2, ?_⟩;rcases hk with ⟨cs,cs',t,rfl,rfl,_⟩|⟨n,m,sz,rfl,rfl,hlt⟩
   ·exact Nat.zero_le _
   ·simp only [Blk.holds,Blk.start,Cx.fill] at h3⊢
    have:n*sz≤m*sz:=Nat.mul_le_mul_right _ (Nat.le_of_lt hlt);omega
  ·simp only [Cx.fill,af _ _ e] at h1 h2 h3
   exact ⟨j,l,h1,h2,h3⟩
 obj:=fun j cs t hj=>by
  by_cases e:j=id
  ·subst e
   rw [h] at hj;rcases hk with ⟨cs0,cs',t0,rfl,rfl,hlen⟩|⟨n,m,sz,rfl,_⟩<;>cases hj
   exact ⟨rfl,cs',by simp [Cx.fill,ag],hlen⟩
  ·exact ⟨rfl,cs,(af _ _ e).trans hj,rfl⟩
 spare:=fun j n sz hj=>by
  by_cases e:j=id
  ·subst e
   rw [h] at hj;rcases hk with ⟨cs0,cs',t0,rfl,_⟩|⟨n0,m,sz0,rfl,rfl,hlt⟩<;>cases hj
   simp_all [Cx.fill,ag]
  ·exact ⟨n,(af _ _ e).trans hj, .inl ⟨rfl,rfl⟩⟩
 mp:=fun j m hj=>by
  have e:j≠id:=by
   grind
  exact ⟨rfl,m,(af _ _ e).trans hj⟩
 ro:=fun j b us hj=>by
  have e:j≠id:=by
   grind
  exact ⟨rfl,(af _ _ e).trans hj⟩
def over (cs:List AV) (o:Nat) (xs:List AV):List AV:=cs.take o++xs++cs.drop (o+xs.length)
theorem cY {cs xs} {o} (h:o+xs.length≤cs.length):(over cs o xs).length=cs.length:=by
 grind [over]
theorem qP {cs xs} {o j} (h:o+xs.length≤cs.length) (hj:j<cs.length) (hne:j<o∨o+xs.length≤j)
  (hj' :j<(over cs o xs).length):(over cs o xs)[j]=cs[j]:=by
 rcases hne with h1|h1
 ·grind [over,List.append_assoc,List.getElem_append_left]
 ·simp only [over]
  rw [List.getElem_append_right (by grind)]
  grind
theorem tH {cs xs} {o j} (h:o+xs.length≤cs.length) (hj:j<xs.length)
  (hj' :o+j<(over cs o xs).length):(over cs o xs)[o+j]=xs[j]:=by
 grind [over,List.append_assoc,List.getElem_append_right,List.getElem_append_left]
theorem Good.xC {c} (g:Good c) (id o) (vs) (cs xs) (t) (h:c.h id=some (.obj cs t))
  (hl:vs.length=xs.length) (hb:o+xs.length≤cs.length) (hr:∀j (h:j<xs.length),Rep c xs[j] (vs.getD j undef)∧(vs.getD j undef).oneCell' =true):
  Good (c.fill id o vs (.obj (over cs o xs) t)):=by
 have hE:=Ext.fill id o vs (.obj cs t) (.obj (over cs o xs) t) h (Nat.zero_le _) (.inl ⟨_,_,_,rfl,rfl,cY (by omega)⟩)
 refine ⟨?_, ?_, ?_, ?_, ?_, ?_, ?_⟩
 ·obtain ⟨N,hN⟩:=g.fin
  refine ⟨max N (id+1),fun j hj=> ?_⟩
  have e:j≠id:=by omega
  exact (af _ _ e).trans (hN j (by omega))
 ·intro i j k1 k2 h1 h2 hne
  have f:∀i k,(c.fill id o vs (.obj (over cs o xs) t)).h i=some k→∃k',c.h i=some k' :=fun i k hi=>by
   by_cases e:i=id
   ·grind
   simp_all [Cx.fill,af]
  obtain ⟨k1',h1'⟩:=f i k1 h1;obtain ⟨k2',h2'⟩:=f j k2 h2;exact g.inj i j k1' k2' h1' h2' hne
 ·intro j ys t' hj
  by_cases e:j=id
  ·subst e
   simp only [Cx.fill,ag,Option.some.injEq,Blk.obj.injEq] at hj;obtain ⟨rfl,rfl⟩:=hj;obtain ⟨us,a1,a2,a3⟩:=g.obj j cs t h;obtain ⟨us',b1,b2⟩:=cc _ vs o c.w us t (0,0) a1;refine ⟨us',b1,by grind [cY],fun i hi=> ?_⟩
   have hi' :i<cs.length:=by grind [cY]
   have hcell:∀i,i<us.size→c.w.cell? ⟨(c.φ j).block,i,none⟩=some (us.getD i undef):=fun i hi=>by simp [World.cell?,a1,hi]
   have hcell' :(c.w.setCells (c.φ j).block o vs).cell? ⟨(c.φ j).block,i,none⟩=some (us'.getD i undef):=by
    simp_all [World.cell?]
   by_cases hin:o≤i∧i<o+xs.length
   ·obtain ⟨k,rfl⟩:∃k,i=o+k:=⟨i - o,by omega⟩
    have hk:k<xs.length:=by omega
    have:=World.cell?_setCells_in (c.φ j).block vs o c.w (by grind) k (by omega)
    rw [hcell'] at this;simp only [Option.some.injEq] at this;rw [this,tH hb hk];have h3:=hr k hk;have e3:vs.getD k undef=vs[k]:=by grind
    rw [e3] at h3;exact ⟨h3.1.mono hE,h3.2⟩
   ·have hout:i<o∨o+xs.length≤i:=by omega
    have:=World.cell?_setCells_out (c.φ j).block vs o c.w ⟨(c.φ j).block,i,none⟩ (by grind)
    rw [hcell',hcell i (by omega)] at this
    simp only [Option.some.injEq] at this;rw [this,qP hb hi' hout];exact ⟨(a3 i hi').1.mono hE,(a3 i hi').2⟩
  ·simp only [Cx.fill,af _ _ e] at hj
   obtain ⟨us,a1,a2,a3⟩:=g.obj j ys t' hj;refine ⟨us,(aL _ vs o _ _ ?_).trans a1,a2,fun i hi=>⟨(a3 i hi).1.mono hE,(a3 i hi).2⟩⟩
   exact g.inj j id _ _ hj h e
 ·intro j n sz hj
  have e:j≠id:=by
   rintro rfl
   simp_all [Cx.fill,ag]
  simp only [Cx.fill,af _ _ e] at hj⊢;obtain ⟨a0,us,t',fr',a1,a2⟩:=g.spare j n sz hj;exact ⟨a0,us,t',fr',(aL _ vs o _ _ (g.inj j id _ _ hj h e)).trans a1,a2⟩
 ·intro j m hj
  have e:j≠id:=fun e=>by simp_all [Cx.fill,ag]
  simp only [Cx.fill,af _ _ e] at hj⊢;obtain ⟨es,cl,a1,a2,a3⟩:=g.mp j m hj;exact ⟨es,cl,(aL _ vs o _ _ (g.inj j id _ _ hj h e)).trans a1,a2,fun i hi hi' =>⟨(a3 i hi hi').1,(a3 i hi hi').2.mono hE⟩⟩
 ·intro j m hj
  have e:j≠id:=fun e=>by simp_all [Cx.fill,ag]
  simp only [Cx.fill,af _ _ e] at hj;exact g.keys j m hj
 ·intro j b us hj
  have e:j≠id:=fun e=>by simp_all [Cx.fill,ag]
  simp only [Cx.fill,af _ _ e] at hj;exact g.fK hE hj
theorem Good.uf {c} (g:Good c) (id o) (vs) (n m sz) (h:c.h id=some (.spare n sz)) (ho:(c.φ id).off+n*sz≤o) (hlt:n<m):
  Good (c.fill id o vs (.spare m sz)):=by
 have hE:=Ext.fill id o vs (.spare n sz) (.spare m sz) h ho (.inr ⟨_,_,_,rfl,rfl,hlt⟩);refine ⟨?_, ?_, ?_, ?_, ?_, ?_, ?_⟩
 ·obtain ⟨N,hN⟩:=g.fin
  refine ⟨max N (id+1),fun j hj=> ?_⟩
  have e:j≠id:=by omega
  exact (af _ _ e).trans (hN j (by omega))
 ·intro i j k1 k2 h1 h2 hne
  have f:∀i k,(c.fill id o vs (.spare m sz)).h i=some k→∃k',c.h i=some k' :=fun i k hi=>by
   by_cases e:i=id
   ·grind
   simp_all [Cx.fill,af]
  obtain ⟨k1',h1'⟩:=f i k1 h1;obtain ⟨k2',h2'⟩:=f j k2 h2;exact g.inj i j k1' k2' h1' h2' hne
 ·intro j ys t' hj
  have e:j≠id:=by
   rintro rfl
   simp_all [Cx.fill,ag]
  simp only [Cx.fill,af _ _ e] at hj;obtain ⟨us,a1,a2,a3⟩:=g.obj j ys t' hj;refine ⟨us,(aL _ vs o _ _ ?_).trans a1,a2,fun i hi=>⟨(a3 i hi).1.mono hE,(a3 i hi).2⟩⟩
  exact g.inj j id _ _ hj h e
 ·intro j n' sz' hj
  by_cases e:j=id
  ·subst e
   simp only [Cx.fill,ag,Option.some.injEq,Blk.spare.injEq] at hj;obtain ⟨rfl,rfl⟩:=hj;obtain ⟨a0,us,t',fr',a1,a2⟩:=g.spare j n sz h;obtain ⟨us',b1,_⟩:=cc _ vs o c.w us t' fr' a1;refine ⟨a0,us',t',fr',b1,fun x hx=>a2 x ?_⟩
   have:n*sz≤m*sz:=Nat.mul_le_mul_right _ (Nat.le_of_lt hlt);simp only [Cx.fill] at hx;omega
  ·simp only [Cx.fill,af _ _ e] at hj⊢
   obtain ⟨a0,us,t',fr',a1,a2⟩:=g.spare j n' sz' hj;exact ⟨a0,us,t',fr',(aL _ vs o _ _ (g.inj j id _ _ hj h e)).trans a1,a2⟩
 ·intro j m' hj
  have e:j≠id:=fun e=>by simp_all [Cx.fill,ag]
  simp only [Cx.fill,af _ _ e] at hj⊢;obtain ⟨es,cl,a1,a2,a3⟩:=g.mp j m' hj;exact ⟨es,cl,(aL _ vs o _ _ (g.inj j id _ _ hj h e)).trans a1,a2,fun i hi hi' =>⟨(a3 i hi hi').1,(a3 i hi hi').2.mono hE⟩⟩
 ·intro j m' hj
  have e:j≠id:=fun e=>by simp_all [Cx.fill,ag]
  simp only [Cx.fill,af _ _ e] at hj;exact g.keys j m' hj
 ·intro j b us hj
  have e:j≠id:=fun e=>by simp_all [Cx.fill,ag]
  simp only [Cx.fill,af _ _ e] at hj;exact g.fK hE hj
def Cx.turn (c:Cx) (id:Nat) (es:Array MapEntry) (cl:Nat) (m:List (AV×AV)):Cx:= {c with w:= {c.w with heap:=c.w.heap.setIfInBounds (c.φ id).block (.map es cl)},h:=upd c.h id (some (.mp m))}
theorem cu {c:Cx} {id:Nat} {es:Array MapEntry} {cl:Nat} {m:List (AV×AV)} {b:Nat} (h:b≠(c.φ id).block):(c.turn id es cl m).w.heap[b]? =c.w.heap[b]? :=by
 simp_all [Cx.turn,Array.getElem?_setIfInBounds_ne,Ne.symm]
theorem Ext.turn {c:Cx} (id:Nat) (es es0:Array MapEntry) (cl cl0:Nat) (m m0:List (AV×AV)) (h:c.h id=some (.mp m0)) (hb:c.w.heap[(c.φ id).block]? =some (.map es0 cl0)):Ext c (c.turn id es cl m) where
 os:=rfl
 tape:=rfl
 output:=rfl
 size:=by simp [Cx.turn]
 block:=fun b _ hno=>cu fun e=>hno 0 ⟨id,_,h,e.symm,Nat.zero_le _⟩
 cell:=fun b x _ hno=>by
  have e:b≠(c.φ id).block:=fun e=>hno ⟨id,_,h,e.symm,Nat.zero_le _⟩
  unfold World.cell?;rw [cu e]
 shape:=fun b cs t fr hh=>by
  have e:b≠(c.φ id).block:=fun e=>by subst e; rw [hb] at hh; cases hh
  exact ⟨cs,fr,(cu e).trans hh,rfl⟩
 steal:=fun b x _ ho=>by
  obtain ⟨j,k,h1,h2,h3⟩:=ho
  by_cases e:j=id
  ·subst e; exact ⟨j,_,h,h2,Nat.zero_le _⟩
  ·simp only [Cx.turn,af _ _ e] at h1 h2 h3
   exact ⟨j,k,h1,h2,h3⟩
 obj:=fun j cs t hj=>by
  have e:j≠id:=fun e=>by subst e; rw [h] at hj; cases hj
  exact ⟨rfl,cs,(af _ _ e).trans hj,rfl⟩
 spare:=fun j n sz hj=>by
  have e:j≠id:=fun e=>by subst e; rw [h] at hj; cases hj
  exact ⟨n,(af _ _ e).trans hj, .inl ⟨rfl,rfl⟩⟩
 mp:=fun j m' hj=>by
  by_cases e:j=id
  ·subst e; exact ⟨rfl,m,by simp [Cx.turn,ag]⟩
  ·exact ⟨rfl,m',(af _ _ e).trans hj⟩
 ro:=fun j b us hj=>by
  have e:j≠id:=fun e=>by subst e; rw [h] at hj; cases hj
  exact ⟨rfl,(af _ _ e).trans hj⟩
theorem Good.turn {c} (g:Good c) (id) (es es0) (cl cl0) (m m0) (h:c.h id=some (.mp m0)) (hb:c.w.heap[(c.φ id).block]? =some (.map es0 cl0))
  (hs:es.size=m.length) (hr:∀i (h:i<m.length) (h' :i<es.size),es[i].key=dj m[i].1∧Rep c m[i].2 es[i].val) (hk:m.Pairwise (fun p q=>dj p.1≠dj q.1)):Good (c.turn id es cl m):=by
 have hE:=Ext.turn (c:=c) id es es0 cl cl0 m m0 h hb;have f:∀j k,(c.turn id es cl m).h j=some k→∃k',c.h j=some k' :=fun j k hj=>by
  by_cases e:j=id
  ·grind
  simp_all [Cx.turn,af]
 refine ⟨?_, ?_, ?_, ?_, ?_, ?_, ?_⟩
 ·obtain ⟨N,hN⟩:=g.fin
  refine ⟨max N (id+1),fun j hj=> ?_⟩
  have e:j≠id:=by omega
  exact (af _ _ e).trans (hN j (by omega))
 ·intro i j k1 k2 h1 h2 hne
  obtain ⟨k1',h1'⟩:=f i k1 h1;obtain ⟨k2',h2'⟩:=f j k2 h2;exact g.inj i j k1' k2' h1' h2' hne
 ·intro j cs t hj
  have e:j≠id:=fun e=>by simp_all [Cx.turn,ag]
  have hj' :c.h j=some (.obj cs t):=by simp_all [Cx.turn,af]
  obtain ⟨us,a1,a2,a3⟩:=g.obj j cs t hj';exact ⟨us,(cu (g.inj j id _ _ hj' h e)).trans a1,a2,fun i hi=>⟨(a3 i hi).1.mono hE,(a3 i hi).2⟩⟩
 ·intro j n sz hj
  have e:j≠id:=fun e=>by simp_all [Cx.turn,ag]
  have hj' :c.h j=some (.spare n sz):=by simp_all [Cx.turn,af]
  obtain ⟨a0,us,t',fr',a1,a2⟩:=g.spare j n sz hj';exact ⟨a0,us,t',fr',(cu (g.inj j id _ _ hj' h e)).trans a1,a2⟩
 ·intro j m' hj
  by_cases e:j=id
  ·subst e
   simp only [Cx.turn,ag,Option.some.injEq,Blk.mp.injEq] at hj;subst hj;refine ⟨es,cl, ?_,hs,fun i hi hi' =>⟨(hr i hi hi').1,(hr i hi hi').2.mono hE⟩⟩
   grind [bg,Cx.turn]
  ·have hj' :c.h j=some (.mp m'):=by simp_all [Cx.turn,af]
   obtain ⟨es',cl',a1,a2,a3⟩:=g.mp j m' hj';exact ⟨es',cl',(cu (g.inj j id _ _ hj' h e)).trans a1,a2,fun i hi hi' =>⟨(a3 i hi hi').1,(a3 i hi hi').2.mono hE⟩⟩
 ·intro j m' hj
  by_cases e:j=id
  ·simp_all [Cx.turn,ag,Option.some.injEq,Blk.mp.injEq]
  ·exact g.keys j m' (by simp_all [Cx.turn,af])
 ·intro j b us hj
  have e:j≠id:=fun e=>by simp_all [Cx.turn,ag]
  exact g.fK hE (by simp_all [Cx.turn,af])
inductive TK where
 |int (k:IntKind)
 |bool
 |str
 |slice (e:TypeId)
 |strct (fs:List (Nat×TypeId))
 |ptr (e:TypeId)
 |arr (n:Nat) (e:TypeId)
 |iface
 |cplx (k:FloatKind)
 |map (k e:TypeId)
 |other
structure TI where
 k:TK
 sz:Nat
 bytes:Nat
 zero:AV
 eq:Option (Nat×List TK)
def TK.agg:TK→Bool
 | .strct _| .arr _ _=>true
 |_=>false
def isUnit:TK→Bool
 | .strct []=>true
 |_=>false
theorem ko {k} (h:isUnit k=true):k= .strct []:=by
 grind [isUnit]
def rK (U:TypeId→TI) (r:Nat):List (Nat×TypeId)→Nat→List TK→Prop
 | [],_,l=>l= []
 |f::fs,o,l=>f.1=o∧∃r' l',(U f.2).eq=some (r',l')∧r' <r∧l.take l'.length=l'∧rK U r fs (o+l'.length) (l.drop l'.length)
def w6 (P:Program) (U:TypeId→TI) (t:TypeId) (r:Nat) (l:List TK):Prop:=
 l.length=(U t).sz∧l≠ []∧r<100∧match (U t).k with
  | .int k=>l= [.int k]
  | .bool=>l= [.bool]
  | .str=>l= [.str]
  | .cplx k=>l= [.cplx k]
  | .strct fs => P.stoodInHeld t = false ∧ P.eqGuardType P.depth t = false ∧ (∀ f ∈ P.fieldsOf t, f.name ≠ "_") ∧ rK U r fs 0 l
  | .arr n e=>P.eqGuardType P.depth t=false∧∃r' l',(U e).eq=some (r',l')∧r' <r∧l=(List.replicate n l').flatten
  |_=>False
structure ax (P:Program) (U:TypeId→TI) (t:TypeId):Prop where
 desc:match (U t).k with
  | .int k=>P.underlying t=some (.int k)
  | .bool=>P.underlying t=some .bool
  | .str=>P.underlying t=some .string
  | .slice e=>P.underlying t=some (.slice e)
  | .strct fs=>∃fields:Array Field,P.underlying t=some (.struct fields)∧fields.toList.map (fun f=>(f.offset,f.type))=fs∧∀p∈fs,(U p.2).sz≠0
  | .ptr e=>P.underlying t=some (.pointer e)
  | .arr n e=>P.underlying t=some (.array n e)
  | .iface=>∃ms,P.underlying t=some (.interface ms)
  | .cplx k=>P.underlying t=some (.complex k)
  | .map k e=>P.underlying t=some (.map k e)
  | .other=>True
 info:(U t).sz≠0→∃i,P.info? t=some i∧i.size=(U t).sz∧i.bytes=(U t).bytes∧∃z,i.zero=some z∧z.cells.size=(U t).sz∧∀c,Rep c (U t).zero z
 unit:(U t).k= .strct []→∃i,P.info? t=some i∧i.zero=some (.agg #[])∧i.size=0
 eq:∀r l,(U t).eq=some (r,l)→w6 P U t r l
def bX (c:UInt8):AV:= .v (.int .u8 c.toNat)
def sD:Value→AV
 | .string b=>if b.data.toList.length<lim then .s b.data.toList else .v (.string b)
 | .slice a l c=>match a,l,c with
  |none,0,0=> .sl [] .full
  |a,l,c=> .v (.slice a l c)
 | .func g a b=>match g with
  | .func f=>if a.size=0∧b.size=0 then .fn f [] else .v (.func (.func f) a b)
  |g=> .v (.func g a b)
 |x=> .v x
def ofV:Value→AV
 | .agg cs=>if cs.toList.all (fun x=>x.oneCell') then .agg (cs.toList.map sD) else .v (.agg cs)
 |x=>sD x
theorem nj (c) (x):Rep c (sD x) x:=by
 cases x
 case string b=>
  simp only [sD];split
  ·rename_i h; exact .s _ h
  ·exact .v _
 case slice a l k=>
  simp only [sD];split
  ·exact .sl [] .full none 0 0 (fun _ _=>undef) (Nat.le_refl _) (by decide) (by omega) (by omega) (by simp) (by omega) (by simp) (by omega) rfl
  ·exact .v _
 case func g a b=>
  simp only [sD];split
  ·split
   ·rename_i h
    have e1:a= #[]:=by grind
    have e2:b= #[]:=by grind
    subst e1; subst e2
    exact .fn _ [] #[] rfl (by simp)
   ·exact .v _
  ·exact .v _
 all_goals exact .v _
theorem xS (c) (x):Rep c (ofV x) x:=by
 unfold ofV;split
 ·rename_i cs
  split
  ·rename_i h
   refine .agg _ _ (by simp) (fun i hi=> ?_) (fun i hi=> ?_)
   ·have hi' :i<cs.size:=by grind
    simp only [Gr,Array.getElem_toList];have e:cs.getD i undef=cs[i]:=by simp_all
    rw [e];exact nj c _
   simp_all
  ·exact .v _
 ·exact nj c _
def ev (ρ:Env):Operand→Option AV
 | .tmp t=>lk ρ t
 | .const v=>some (ofV v)
 | .global _=>none
 | .func f=>some (.fn f [])
theorem ak {c} {n} {ρ} {a} (h:aP c n ρ a) {x} {y} (hx:ev ρ x=some y):Rep c y (a.eval x):=by
 cases x with
 |tmp t=>exact h.rep t y hx
 |const v=>simp only [ev,Option.some.injEq] at hx; subst hx; exact xS c v
 |global g=>cases hx
 |func f=>simp only [ev,Option.some.injEq] at hx; subst hx; exact .fn f [] #[] rfl (by simp)
def withv (ρ:Env) (x:Operand) (k:AV→Prop):Prop:=
 match ev ρ x with
 |some y=>k y
 |none=>False
def Idx {α:Type} (xs:List α) (n:Int) (k:α→Prop):Prop:=0≤n∧∃x,xs[n.toNat]? =some x∧k x
def aU:AV→Bool
 | .agg _=>true
 |_=>false
def eF (cs:List AV) (off:Nat) (i:TI) (k:AV→Prop):Prop:=
 if i.k.agg then off+i.sz≤cs.length∧k (.agg ((cs.drop off).take i.sz)) else∃x,cs[off]? =some x∧k x
def atA (y:AV) (off:Nat) (i:TI) (k:AV→Prop):Prop:=
 if off=0∧y.cells.length=i.sz∧aU y=i.k.agg then k y else eF y.cells off i k
def jx (op:BinOp) (k:IntKind) (a b:Int) (K:AV→Prop):Prop:=
 match op with
 | .add=>K (.v (.int k (k.wrap (a+b))))
 | .sub=>K (.v (.int k (k.wrap (a - b))))
 | .mul=>K (.v (.int k (k.wrap (a*b))))
 | .quo=>b≠0∧K (.v (.int k (k.wrap (a.tdiv b))))
 | .rem=>b≠0∧K (.v (.int k (a.tmod b)))
 | .and=>K (.v (.int k (k.wrap (BitVec.ofInt k.bits a &&& BitVec.ofInt k.bits b).toNat)))
 | .or=>K (.v (.int k (k.wrap (BitVec.ofInt k.bits a|||BitVec.ofInt k.bits b).toNat)))
 | .xor=>K (.v (.int k (k.wrap (BitVec.ofInt k.bits a ^^^ BitVec.ofInt k.bits b).toNat)))
 | .andNot=>K (.v (.int k (k.wrap (BitVec.ofInt k.bits a &&& ~~~ BitVec.ofInt k.bits b).toNat)))
 | .eql=>K (.v (.bool (a==b)))
 | .neq=>K (.v (.bool (a !=b)))
 | .lss=>K (.v (.bool (decide (a<b))))
 | .leq=>K (.v (.bool (decide (a≤b))))
 | .gtr=>K (.v (.bool (decide (b<a))))
 | .geq=>K (.v (.bool (decide (b≤a))))
 |_=>False
def vn (op:BinOp) (k:IntKind) (a b:Int) (K:AV→Prop):Prop:=
 match op with
 | .shl=>0≤b∧K (.v (.int k (k.wrap (a*2 ^ (min b.toNat k.bits)))))
 | .shr=>0≤b∧K (.v (.int k (a.fdiv (2 ^ (min b.toNat k.bits)))))
 |_=>False
def zq (op:BinOp) (a b:List UInt8) (K:AV→Prop):Prop:=
 match op with
 | .add=>a.length+b.length<lim∧K (.s (a++b))
 | .eql=>K (.v (.bool (a==b)))
 | .neq=>K (.v (.bool (!(a==b))))
 | .lss=>K (.v (.bool (Op.bytesLess a b)))
 | .leq=>K (.v (.bool (Op.bytesLess a b||a==b)))
 | .gtr=>K (.v (.bool (!(Op.bytesLess a b||a==b))))
 | .geq=>K (.v (.bool (!(Op.bytesLess a b))))
 |_=>False
def zZ:AV→Option Bool
 | .v (.pointer none)=>some true
 | .ptr .. | .pe .. =>some false
 |_=>none
def cU:BinOp→Bool
 | .shl| .shr=>true
 |_=>false
def xm (U:TypeId→TI) (op:BinOp) (ty:TypeId) (a b:Bool) (K:AV→Prop):Prop:=
 match (U ty).k,op with
 | .bool, .eql=>K (.v (.bool (a==b)))
 | .bool, .neq=>K (.v (.bool (!(a==b))))
 |_,_=>False
def zp (U:TypeId→TI) (op:BinOp) (ty:TypeId) (x:AV) (K:AV→Prop):Prop:=
 match (U ty).k,op,zZ x with
 | .ptr _, .eql,some n=>K (.v (.bool n))
 | .ptr _, .neq,some n=>K (.v (.bool (!n)))
 |_,_,_=>False
def eqC:AV→AV→Bool
 | .s a, .s b=>a==b
 | .v (.int _ a), .v (.int _ b)=>a==b
 | .v (.bool a), .v (.bool b)=>a==b
 | .v (.complex k a b), .v (.complex _ c d)=>Op.floatEq k a c && Op.floatEq k b d
 |_,_=>false
def eqL:List AV→List AV→Bool
 | [],[]=>true
 |x::xs,y::ys=>eqC x y && eqL xs ys
 |_,_=>false
def iT:TK→AV→Prop
 | .int k, .v (.int k' _)=>k' =k
 | .bool, .v (.bool _)=>True
 | .str, .s _=>True
 | .cplx k, .v (.complex k' _ _)=>k' =k
 |_,_=>False
def aS:List TK→List AV→Prop
 | [],xs=>xs= []
 |_::_,[]=>False
 |t::ts,x::xs=>iT t x∧aS ts xs
def vm (U:TypeId→TI) (op:BinOp) (ty:TypeId) (xs ys:List AV) (K:AV→Prop):Prop:=
 match (U ty).eq,op with
 |some (_,l), .eql=>(U ty).k.agg=true∧aS l xs∧aS l ys∧K (.v (.bool (eqL xs ys)))
 |some (_,l), .neq=>(U ty).k.agg=true∧aS l xs∧aS l ys∧K (.v (.bool (!(eqL xs ys))))
 |_,_=>False
def u0 (op:BinOp) (x y:Value) (K:AV→Prop):Prop:=∃r,(∀(P:Program) (ty:TypeId) (w:World),(binOp op ty x y).run P w= .ok r w)∧K (.v r)
def cA (U:TypeId→TI) (op:BinOp) (ty:TypeId) (x y:AV) (K:AV→Prop):Prop:=
 match y with
 | .v (.int k' b)=>match x with
  | .v (.int k a)=>if cU op then vn op k a b K else k=k'∧jx op k a b K
  |_=>False
 | .s b=>match x with
  | .s a=>zq op a b K
  |_=>False
 | .v (.bool b)=>match x with
  | .v (.bool a)=>xm U op ty a b K
  |_=>False
 | .v (.pointer none)=>zp U op ty x K
 | .agg ys=>match x with
  | .agg xs=>vm U op ty xs ys K
  |_=>False
 | .v (.float k' b)=>match x with
  | .v (.float k a)=>u0 op (.float k a) (.float k' b) K
  |_=>False
 | .v (.complex k' c d)=>match x with
  | .v (.complex k a b)=>u0 op (.complex k a b) (.complex k' c d) K
  |_=>False
 |_=>False
def qW:List AV→(AV→Prop)→Prop
 | [.v (.complex k a _)],K=>K (.v (.float k a))
 |_,_=>False
def qz:List AV→(AV→Prop)→Prop
 | [.v (.complex k _ b)],K=>K (.v (.float k b))
 |_,_=>False
def p5:List AV→(AV→Prop)→Prop
 | [.v (.float k a), .v (.float k' b)],K=>k=k'∧K (.v (.complex k a b))
 |_,_=>False
def qK:List AV→(AV→Prop)→Prop
 | [.v (.int k a), .v (.int k' b)],K=>k=k'∧K (.v (.int k (if b<a then b else a)))
 |_,_=>False
def vU:List AV→(AV→Prop)→Prop
 | [.v (.int k a), .v (.int k' b)],K=>k=k'∧K (.v (.int k (if a<b then b else a)))
 | [.v (.float k a), .v (.float k' b)],K=>∃r,(∀(P:Program) (ts:Array TypeId) (ty:TypeId) (w:World),(Builtin.max_ ts ty #[.float k a, .float k' b]).run P w= .ok r w)∧K (.v r)
 |_,_=>False
def evs (ρ:Env):List Operand→Option (List AV)
 | []=>some []
 |x::r=>match ev ρ x,evs ρ r with
  |some y,some ys=>some (y::ys)
  |_,_=>none
def withvs (ρ:Env) (xs:List Operand) (k:List AV→Prop):Prop:=
 match evs ρ xs with
 |some ys=>k ys
 |none=>False
def bZ (ρ:Env) (x:Option Operand) (dflt:Nat) (k:Int→Prop):Prop:=
 match x with
 |none=>k dflt
 |some o=>withv ρ o fun| .v (.int _ n)=>k n|_=>False
def iX {α:Type} (xs:List α) (a b:Int):Bool→Bool→List α
 |false,false=>xs
 |true,false=>xs.drop a.toNat
 |false,true=>xs.take b.toNat
 |true,true=>(xs.drop a.toNat).take (b.toNat - a.toNat)
def zx (p:Perm):Bool→Bool→Perm
 |false,false=>p
 |true,false=>match p with
  | .full=> .full
  |_=> .no
 |_,_=> .no
def oZ (xs:List AV) (p:Perm) (a b:Bool):Perm:=match xs,p with
 | [], .full=> .full
 |_,p=>zx p a b
def iB (U:TypeId→TI) (ρ:Env) (ty:TypeId) (y:AV) (lo hi mx:Option Operand) (k:AV→Prop):Prop:=
 match y with
 | .s l=>(U ty).k= .str∧mx=none∧bZ ρ lo 0 fun a=>bZ ρ hi l.length fun b=>0≤a∧a≤b∧b≤l.length∧k (.s (iX l a b lo.isSome hi.isSome))
 | .sl xs p=>match (U ty).k with
  | .slice e=>(U e).sz≠0∧(lo.isSome=true→∀z∈xs,z.cells.length=(U e).sz)∧match mx with
   |none=>bZ ρ lo 0 fun a=>bZ ρ hi xs.length fun b=>0≤a∧a≤b∧b≤xs.length∧k (.sl (iX xs a b lo.isSome hi.isSome) (oZ xs p lo.isSome hi.isSome))
   |some m=>hi.isSome=true∧bZ ρ lo 0 fun a=>bZ ρ hi xs.length fun b=>bZ ρ (some m) 0 fun c=>0≤a∧a≤b∧b=c∧c≤xs.length∧k (.sl (iX xs a b lo.isSome true) .full)
  |_=>False
 | .oa id off len=>match (U ty).k with
  | .slice e=>(U e).sz≠0∧(lo.isSome=true→(U e).sz=1)∧mx=none∧bZ ρ lo 0 fun a=>bZ ρ hi len fun b=>0≤a∧a≤b∧b≤len∧k (.oa id (off+a.toNat*(U e).sz) (b.toNat - a.toNat))
  |_=>False
 | .ob id off len cap sz=>match (U ty).k with
  | .slice e=>(U e).sz≠0∧sz=(U e).sz∧match mx with
   |none=>bZ ρ lo 0 fun a=>bZ ρ hi len fun b=>0≤a∧a≤b∧b≤cap∧k (.ob id (off+a.toNat*sz) (b.toNat - a.toNat) (cap - a.toNat) sz)
   |some m=>hi.isSome=true∧bZ ρ lo 0 fun a=>bZ ρ hi len fun b=>bZ ρ (some m) 0 fun c=>0≤a∧a≤b∧b≤c∧c≤cap∧k (.ob id (off+a.toNat*sz) (b.toNat - a.toNat) (c.toNat - a.toNat) sz)
  |_=>False
 |_=>False
def pvB (U:TypeId→TI) (ρ:Env) (h:Heap) (b:Builtin) (args:List Operand) (ts:List TypeId) (k:AV→Prop):Prop:=
 match b with
 | .len=>match args,ts with
  | [x],[t]=>withv ρ x fun y=>match (U t).k,y with
   | .str, .s l=>k (.v (.int .i64 l.length))
   | .slice _, .sl xs _=>k (.v (.int .i64 xs.length))
   | .slice _, .oa _ _ len=>k (.v (.int .i64 len))
   | .slice _, .ob _ _ len _ _=>k (.v (.int .i64 len))
   | .map _ _, .mp id=>match h id with
    |some (.mp m)=>k (.v (.int .i64 m.length))
    |_=>False
   |_,_=>False
  |_,_=>False
 | .cap=>match args,ts with
  | [x],[t]=>withv ρ x fun y=>match (U t).k,y with
   | .slice _, .sl xs .full=>k (.v (.int .i64 xs.length))
   | .slice _, .ob _ _ _ cap _=>k (.v (.int .i64 cap))
   |_,_=>False
  |_,_=>False
 | .min=>withvs ρ args fun ys=>qK ys k
 | .max=>withvs ρ args fun ys=>vU ys k
 | .real=>withvs ρ args fun ys=>qW ys k
 | .imag=>withvs ρ args fun ys=>qz ys k
 | .complex=>withvs ρ args fun ys=>p5 ys k
 |_=>False
def fit (y:AV) (n:Nat):Prop:=
 match y with
 | .agg cs=>cs.length=n
 | .v x=>x.oneCell' =true∧n=1
 | .tup _=>False
 |_=>n=1
def fits (n:Nat):List AV→Prop
 | []=>True
 |y::r=>fit y n∧fits n r
def withps (U:TypeId→TI) (ρ:Env) (fs:List (Nat×TypeId)):List (Nat×Operand)→List AV→(List AV→Prop)→Prop
 | [],cs,k=>k cs
 |(i,x)::r,cs,k=>match fs[i]? with
  |some (off,t)=>(U t).sz≠0∧withv ρ x fun y=>fit y (U t).sz∧off+(U t).sz≤cs.length∧withps U ρ fs r (over cs off y.cells) k
  |none=>False
def cP:TK→AV→Prop
 | .str, .s l=>l.length≤maxLen
 | .int q, .v (.int q' n)=>q' =q∧(Lit.int q n).wf=true
 |_,_=>False
def jc:AV→AV→Bool
 | .s a, .s b=>a==b
 | .v (.int _ a), .v (.int _ b)=>a==b
 |_,_=>false
def getM (m:List (AV×AV)) (b:AV):Option AV:=(m.find? fun p=>jc p.1 b).map (·.2)
def oU (U:TypeId→TI) (e:TypeId):AV:=if (U e).sz=0 then .agg [] else (U e).zero
def mW (U:TypeId→TI) (e:TypeId) (m:List (AV×AV)) (b:AV) (ok:Bool):AV:=
 if ok then .tup [(getM m b).getD (oU U e), .v (.bool (getM m b).isSome)] else (getM m b).getD (oU U e)
def pv (U:TypeId→TI) (ρ:Env) (h:Heap) (op:Op) (k:AV→Prop):Prop:=
 match op with
 | .move x| .assign x=>withv ρ x k
 | .pick c a b=>withv ρ c fun
  | .v (.bool true)=>withv ρ a k
  | .v (.bool false)=>withv ρ b k
  |_=>False
 | .nilCheck x=>withv ρ x fun y=>match y with
  | .ptr .. | .pe .. | .fn .. =>k y
  |_=>False
 | .binOp op ty x y _=>withv ρ x fun a=>withv ρ y fun b=>cA U op ty a b k
 | .unOp op _ x=>withv ρ x fun y=>match op,y with
  | .not, .v (.bool b)=>k (.v (.bool (!b)))
  | .neg, .v (.int kk n)=>k (.v (.int kk (kk.wrap (0 - n))))
  | .xor, .v (.int kk n)=>k (.v (.int kk (kk.wrap (BitVec.ofInt kk.bits (if kk.signed then -1 else kk.max) ^^^ BitVec.ofInt kk.bits n).toNat)))
  |_,_=>False
 | .convert src dst x=>withv ρ x fun y=>match (U src).k,(U dst).k,y with
  | .int _, .int kk, .v (.int _ n)=>k (.v (.int kk (kk.wrap n)))
  | .str, .str, .s l=>k (.s l)
  | .slice e, .str, .sl xs _=>match (U e).k with
   | .int .u8=>∃l:List UInt8,xs=l.map bX∧k (.s l)
   |_=>False
  | .str, .slice e, .s l=>match (U e).k with
   | .int .u8=>k (.sl (l.map bX) .no)
   |_=>False
  | .cplx _, .cplx kk, .v (.complex kf a b)=>kf=kk∧k (.v (.complex kk a b))
  |_,_,_=>False
 | .field ty x f=>withv ρ x fun y=>match (U ty).k,y with
  | .strct fs, .agg cs=>match fs[f]? with
   |some (off,t)=>(U t).sz≠0∧(U t).k≠ .other∧eF cs off (U t) k
   |none=>False
  |_,_=>False
 | .extract x i=>withv ρ x fun y=>match y with
  | .tup vs=>∃z,vs[i]? =some z∧k z
  |_=>False
 | .index ty x i=>withv ρ x fun y=>withv ρ i fun z=>match (U ty).k,y,z with
  | .str, .s l, .v (.int _ n)=>Idx l n fun b=>k (bX b)
  |_,_,_=>False
 | .fieldAddr ty x f=>withv ρ x fun y=>match (U ty).k with
  | .strct fs=>match fs[f]? with
   |some (off,t)=>(U t).sz≠0∧match y with
    | .ptr id o=>k (.ptr id (o+off))
    | .pe z o=>k (.pe z (o+off))
    |_=>False
   |none=>False
  |_=>False
 | .indexAddr ty x i=>withv ρ x fun y=>withv ρ i fun z=>match (U ty).k,y,z with
  | .slice e, .sl xs _, .v (.int _ n)=>(U e).sz≠0∧Idx xs n fun b=>b.cells.length=(U e).sz∧k (.pe b 0)
  | .slice e, .oa id off len, .v (.int _ n)=>(U e).sz≠0∧0≤n∧n<len∧k (.ptr id (off+n.toNat*(U e).sz))
  | .arr len e, .ptr id off, .v (.int _ n)=>(U e).sz≠0∧0≤n∧n<len∧k (.ptr id (off+n.toNat*(U e).sz))
  | .slice e, .ob id off len _ sz, .v (.int _ n)=>(U e).sz≠0∧sz=(U e).sz∧0≤n∧n<len∧k (.ptr id (off+n.toNat*sz))
  |_,_,_=>False
 | .load ty x=>(U ty).sz≠0∧(U ty).k≠ .other∧withv ρ x fun y=>match y with
  | .ptr id off=>match h id with
   |some (.obj cs _)=>eF cs off (U ty) k
   |_=>False
  | .pe z off=>atA z off (U ty) k
  |_=>False
 | .slice ty x lo hi mx=>withv ρ x fun y=>iB U ρ ty y lo hi mx k
 | .lookup mt x y ok=>withv ρ x fun a=>withv ρ y fun b=>match (U mt).k,a with
  | .map kt e, .mp id=>cP (U kt).k b∧((U e).sz≠0∨(U e).k= .strct [])∧match h id with
   |some (.mp m)=>(∀p∈m,cP (U kt).k p.1)∧k (mW U e m b ok)
   |_=>False
  |_,_=>False
 | .buildSlice ty len parts=>match (U ty).k with
  | .slice e=>(U e).sz≠0∧len*(U e).sz≤2 ^ 24∧parts.toList.map (·.1)=List.range len∧
    withvs ρ (parts.toList.map (·.2)) fun xs=>fits (U e).sz xs∧k (.sl xs .full)
  |_=>False
 | .build ty parts=>if isUnit (U ty).k then parts.toList= []∧k (.agg []) else match (U ty).k with
  | .strct fs=>(U ty).sz≠0∧∃cs0,(U ty).zero= .agg cs0∧withps U ρ fs parts.toList cs0 fun cs=>k (.agg cs)
  |_=>False
 | .makeInterface ty x=>(match (U ty).k with| .iface| .other=>False|_=>True)∧withv ρ x fun y=>k (.ifc ty y)
 | .makeFunc fn first cap=>match fn,first.toList with
  | .func f,[]=>withvs ρ cap.toList fun ys=>k (.fn f ys)
  |_,_=>False
 | .call c=>match c.callee with
  | .builtin b=>pvB U ρ h b c.args.toList c.argTypes.toList k
  |_=>False
 |_=>False
def Sub (h h' :Heap):Prop:=∀id k,h id=some k→h' id=some k
def br (P:Program) (o:Oper) (ρ:Env) (h:Heap) (X:AV):Prop:=
 ∀c a n,Sub h c.h→Good c→aP c n ρ a→∃u c',(execOp a.eval o).run P c.w= .ok (.value u) c'.w∧Good c'∧Ext c c'∧c'.h=c.h∧Rep c' X u
section
variable {P : Program} {U : TypeId → TI}
theorem eO {t} (hU:∀t,ax P U t) (ht:(U t).k≠ .other) (w):(isAgg t).run P w= .ok (U t).k.agg w:=by
 have hd:=(hU t).desc;cases hty:(U t).k<;>rw [hty] at ht hd<;>simp only at hd<;>
  first
   |(exact (ht rfl).elim)
   |(simp [isAgg,run_underlying hd,TK.agg]; done)
   |(obtain ⟨fs,hd,_⟩:=hd; simp [isAgg,run_underlying hd,TK.agg]; done)
   |(obtain ⟨fs,hd⟩:=hd; simp [isAgg,run_underlying hd,TK.agg]; done)
theorem aI {t} (hU:∀t,ax P U t) (hz:(U t).sz≠0) (w):(sizeOf t).run P w= .ok (U t).sz w:=by
 obtain ⟨i,h1,h2,_⟩:=(hU t).info hz
 simp_all [sizeOf,typeInfo]
def cv:AV→Value
 | .s l=> .string ⟨l.toArray⟩
 | .v x=>x
 |_=>undef
theorem zy {c} {t} {x} {u} (h:iT t x) (hr:Rep c x u):u=cv x:=by
 cases hr<;>first|rfl|(cases t<;>exact h.elim)
theorem dr:∀ {l:List TK} {xs:List AV},aS l xs→xs.length=l.length
 | [],xs,h=>by have:xs= []:=h; rw [this]; rfl
 |t::ts,[],h=>h.elim
 |t::ts,x::xs,h=>by simp [dr h.2]
theorem nF:∀ {l:List TK} {xs:List AV},aS l xs→∀i (h:i<xs.length),∃t,iT t xs[i]
 | [],xs,h,i,hi=>by have:xs= []:=h; subst this; cases hi
 |t::ts,[],h,i,hi=>h.elim
 |t::ts,x::xs,h,0,hi=>⟨t,h.1⟩
 |t::ts,x::xs,h,i+1,hi=>by simpa using nF h.2 i (by grind)
theorem eA:∀(n:Nat) {l:List TK} {xs:List AV},aS l xs→aS (l.take n) (xs.take n)
 |0,l,xs,h=>by rfl
 |n+1,[],xs,h=>by grind [aS]
 |n+1,t::ts,[],h=>h.elim
 |n+1,t::ts,x::xs,h=>⟨h.1,eA n h.2⟩
theorem ew:∀(n:Nat) {l:List TK} {xs:List AV},aS l xs→aS (l.drop n) (xs.drop n)
 |0,l,xs,h=>by grind
 |n+1,[],xs,h=>by grind [aS]
 |n+1,t::ts,[],h=>h.elim
 |n+1,t::ts,x::xs,h=>by simpa using ew n h.2
theorem mI:∀ {a c:List AV} (b d:List AV),a.length=c.length→eqL (a++b) (c++d)=(eqL a c && eqL b d)
 | [],[],b,d,h=>by simp [eqL]
 | [],_::_,b,d,h=>by cases h
 |_::_,[],b,d,h=>by cases h
 |x::a,y::c,b,d,h=>by simp [eqL,mI b d (show a.length=c.length by simpa using h),Bool.and_assoc]
theorem oo (n) {xs ys} (h:xs.length=ys.length):eqL xs ys=(eqL (xs.take n) (ys.take n) && eqL (xs.drop n) (ys.drop n)):=by
 rw [←mI _ _ (by grind),List.take_append_drop,List.take_append_drop]
def ck (U:TypeId→TI) (t:TypeId) (xs:List AV):Value:=if (U t).k.agg then .agg (xs.map cv).toArray else cv (xs.headD default)
theorem qi {t} {r} {l} (h:w6 P U t r l):(U t).k≠ .other:=by
 intro e;have:=h.2.2.2;rw [e] at this;exact this.elim
theorem zN {t} {r} {l} (h:w6 P U t r l) (hg:(U t).k.agg=false):∃q,l= [q]:=by
 have:=h.2.2.2;cases hk:(U t).k<;>rw [hk] at this hg<;>simp only [TK.agg] at hg<;>first|exact ⟨_,this⟩|exact this.elim|(cases hg)
theorem jI (hU:∀t,ax P U t) {t:TypeId} {r:Nat} {l:List TK} (he:(U t).eq=some (r,l)) (cs:List AV) (off:Nat) (hx:aS l ((cs.drop off).take l.length)) (w:World):
  (part t (cs.map cv).toArray off).run P w= .ok (ck U t ((cs.drop off).take l.length)) w:=by
 have hq:=(hU t).eq r l he;have h1:(U t).sz≠0:=by rw [←hq.1]; intro h; exact hq.2.1 (List.length_eq_zero_iff.1 h)
 cases hg:(U t).k.agg
 ·obtain ⟨q,rfl⟩:=zN hq hg
  have h2:=dr hx;have h3:off<cs.length:=by
   grind
  have h4:(cs.drop off).take [q].length= [cs[off]]:=by
   grind [List.drop_eq_getElem_cons]
  rw [h4];simp [part,eO hU (qi hq),hg,ck,h3]
 ·have h2:=dr hx
  simp [part,eO hU (qi hq),hg,aI hU h1,ck,hq.1]
theorem jz (hU:∀t,ax P U t) {d r:Nat} (xs ys:List AV) (hl:xs.length=ys.length) (w:World)
  (ih:∀(t:TypeId) (r' :Nat) (l:List TK),(U t).eq=some (r',l)→r' <r→∀xs ys,aS l xs→aS l ys→(Op.equalIn d t (ck U t xs) (ck U t ys)).run P w= .ok (eqL xs ys) w):
  ∀ (gs : List Field) (fs : List (Nat × TypeId)) (o : Nat) (l : List TK), gs.map (fun f => (f.offset, f.type)) = fs → (∀ f ∈ gs, f.name ≠ "_") → rK U r fs o l → aS l (xs.drop o) → aS l (ys.drop o) →
   (Op.eqFields d (xs.map cv).toArray (ys.map cv).toArray gs).run P w= .ok (eqL (xs.drop o) (ys.drop o)) w
 | [],fs,o,l,hg,hn,ht,hx,hy=>by
  subst hg;have:l= []:=ht;subst this;have h1:xs.drop o= []:=hx;have h2:ys.drop o= []:=hy;rw [h1,h2];simp [Op.eqFields,eqL]
 |g::gs,fs,o,l,hg,hn,ht,hx,hy=>by
  subst hg;obtain ⟨h1,r',l',h2,h3,h4,h5⟩:=ht;simp only at h1 h2;have hn1:=hn g (by simp)
  have e1:aS l' ((xs.drop o).take l'.length):=by
   grind [eA]
  have e2:aS l' ((ys.drop o).take l'.length):=by
   grind [eA]
  have e3:=ew l'.length hx;have e4:=ew l'.length hy;rw [List.drop_drop] at e3 e4;have p1:=jI hU h2 xs o e1 w;have p2:=jI hU h2 ys o e2 w;have p3:=ih _ _ _ h2 h3 _ _ e1 e2;have p4:=jz hU xs ys hl w ih gs _ _ _ rfl (by grind) h5 e3 e4
  simp only [Op.eqFields,hn1,ne_eq,not_false_eq_true,if_true,Sem.run_bind,h1,p1,p2,p3,Result.andThen_ok];rw [oo l'.length (xs:=xs.drop o) (ys:=ys.drop o) (by grind)]
  cases eqL ((xs.drop o).take l'.length) ((ys.drop o).take l'.length)
  ·simp
  ·simp only [Bool.not_true,Bool.false_eq_true,if_false,Bool.true_and]
   rw [p4,List.drop_drop,List.drop_drop]
theorem oQ (n i:Nat) (l' :List TK) (h:i<n):((List.replicate n l').flatten.drop (i*l'.length)).take l'.length=l' :=by
 induction i generalizing n with
 |zero=>
  cases n with
  |zero=>cases h
  |succ n=>grind
 |succ i ih=>
  cases n with
  |zero=>cases h
  |succ n=>
   simp_all [List.replicate_succ,List.flatten_cons,Nat.succ_mul,Nat.add_comm,List.drop_drop]
theorem kZ (hU:∀t,ax P U t) {d:Nat} {e:TypeId} {n r' :Nat} {l' :List TK} (he:(U e).eq=some (r',l')) (xs ys:List AV) (hl:xs.length=ys.length) (w:World)
  (hx:aS (List.replicate n l').flatten xs) (hy:aS (List.replicate n l').flatten ys)
  (ih:∀xs ys,aS l' xs→aS l' ys→(Op.equalIn d e (ck U e xs) (ck U e ys)).run P w= .ok (eqL xs ys) w):
  ∀(m i:Nat),i+m=n→(Op.eqItems d e l'.length (xs.map cv).toArray (ys.map cv).toArray (List.range' i m)).run P w= .ok (eqL (xs.drop (i*l'.length)) (ys.drop (i*l'.length))) w
 |0,i,hm=>by
  have h1:=dr hx;have h2:=dr hy;simp only [List.length_flatten,List.map_replicate,List.sum_replicate_nat] at h1 h2;have e1:xs.drop (i*l'.length)= []:=by grind
  have e2:ys.drop (i*l'.length)= []:=by grind
  rw [e1,e2];simp [Op.eqItems,eqL]
 |m+1,i,hm=>by
  have e1:aS l' ((xs.drop (i*l'.length)).take l'.length):=by
   have:=eA l'.length (ew (i*l'.length) hx)
   rwa [oQ n i l' (by omega)] at this
  have e2:aS l' ((ys.drop (i*l'.length)).take l'.length):=by
   have:=eA l'.length (ew (i*l'.length) hy)
   rwa [oQ n i l' (by omega)] at this
  have p1:=jI hU he xs _ e1 w;have p2:=jI hU he ys _ e2 w;have p3:=ih _ _ e1 e2;have p4:=kZ hU he xs ys hl w hx hy ih m (i+1) (by omega)
  rw [List.range'_succ];simp only [Op.eqItems,Sem.run_bind,p1,p2,p3,Result.andThen_ok];rw [oo l'.length (xs:=xs.drop (i*l'.length)) (ys:=ys.drop (i*l'.length)) (by grind)]
  cases eqL ((xs.drop (i*l'.length)).take l'.length) ((ys.drop (i*l'.length)).take l'.length)
  ·simp
  ·simp only [Bool.not_true,Bool.false_eq_true,if_false,Bool.true_and]
   rw [p4,List.drop_drop,List.drop_drop,Nat.succ_mul]
theorem l9 (hU:∀t,ax P U t) (w):∀(d:Nat) (t:TypeId) (r:Nat) (l:List TK),(U t).eq=some (r,l)→r<d→∀xs ys,aS l xs→aS l ys→
  (Op.equalIn d t (ck U t xs) (ck U t ys)).run P w= .ok (eqL xs ys) w
 |0,t,r,l,he,hr,xs,ys,hx,hy=>by omega
 |d+1,t,r,l,he,hr,xs,ys,hx,hy=>by
  have hq:=(hU t).eq r l he;have hd:=(hU t).desc;have hl:xs.length=ys.length:=(dr hx).trans (dr hy).symm;obtain ⟨h1,h2,h3,h4⟩:=hq;cases hk:(U t).k<;>rw [hk] at h4 hd<;>simp only at h4 hd<;>first|exact h4.elim|skip
  case int q=>
   subst h4
   match xs,ys,hx,hy with
   | [.v (.int a x)],[.v (.int b y)],hx,hy=>
    have ha:a=q:=hx.1;have hb:b=q:=hy.1;subst ha; subst hb
    simp [ck,hk,TK.agg,cv,run_equalIn_int w d t _ _ x y hd,eqL,eqC]
  case bool=>
   subst h4
   match xs,ys,hx,hy with
   | [.v (.bool x)],[.v (.bool y)],hx,hy=>
    simp [ck,hk,TK.agg,cv,run_equalIn_bool' w d t x y hd,eqL,eqC]
  case str=>
   subst h4
   match xs,ys,hx,hy with
   | [.s x],[.s y],hx,hy=>
    simp [ck,hk,TK.agg,cv,run_equalIn_string w d t _ _ hd,eqL,eqC,ByteArray.toList_eq]
  case cplx q=>
   subst h4
   match xs,ys,hx,hy with
   | [.v (.complex a i j)],[.v (.complex b m n)],hx,hy=>
    have ha:a=q:=hx.1;have hb:b=q:=hy.1;subst ha; subst hb
    simp [ck,hk,TK.agg,cv,Op.equalIn,run_underlying hd,eqL,eqC]
  case strct fs=>
   obtain ⟨fields,hd,hfs,hsz⟩:=hd;obtain ⟨g1,g2,g3,g4⟩:=h4;have hf:P.fieldsOf t=fields:=by grind [Program.fieldsOf]
   have:(Op.equalIn (d+1) t (.agg (xs.map cv).toArray) (.agg (ys.map cv).toArray)).run P w= .ok (eqL xs ys) w:=by
    rw [run_equalIn_struct w d t _ _ (by grind) g1]
    have:=jz (d:=d) (r:=r) hU xs ys hl w (fun t' r' l' he' hr' =>l9 hU w d t' r' l' he' (by omega)) (P.fieldsOf t).toList fs 0 l (by grind) (fun f hf=>g3 f (by grind)) g4 hx hy
    simpa using this
   simpa [ck,hk,TK.agg] using this
  case arr n e=>
   obtain ⟨g2,r',l',g3,g4,rfl⟩:=h4;have hq' :=(hU e).eq r' l' g3;have hz:(U e).sz≠0:=by rw [←hq'.1]; simp_all
   obtain ⟨i,i1,i2,_⟩:=(hU e).info hz;have:(Op.equalIn (d+1) t (.agg (xs.map cv).toArray) (.agg (ys.map cv).toArray)).run P w= .ok (eqL xs ys) w:=by
    rw [run_equalIn_array w d _ _ hd i1];have hc:P.cellsOf e=l'.length:=by simp [Program.cellsOf,i1,i2,hq'.1]
    have:=kZ (d:=d) (n:=n) hU g3 xs ys hl w hx hy (fun xs ys hx hy=>l9 hU w d e r' l' g3 (by omega) xs ys hx hy) n 0 (by omega)
    rw [hc,List.range_eq_range'];simpa using this
   simpa [ck,hk,TK.agg] using this
theorem oW {c} {l} {xs} {u} (hx:aS l xs) (h:Rep c (.agg xs) u):u= .agg (xs.map cv).toArray:=by
 cases h with
 |agg _ vs hn hr ho=>
  congr 1
  apply Array.ext
  ·grind
  ·intro i h1 h2
   have hi:i<xs.length:=by omega
   obtain ⟨t,ht⟩:=nF hx i hi;have:=zy ht (hr i hi);simpa [h1] using this
theorem wA {op} {ty} {xs ys} {K} (x y) (hU:∀t,ax P U t) (hk:vm U op ty xs ys K):
  ∃X,K X∧∀c u v,Rep c (.agg xs) u→Rep c (.agg ys) v→(eqGuard op ty x y u v).run P c.w= .ok () c.w∧∃r,(binOp op ty u v).run P c.w= .ok r c.w∧Rep c X r:=by
 have guard:∀r l,(U ty).eq=some (r,l)→(U ty).k.agg=true→P.eqGuardType P.depth ty=false:=fun r l he ha=>by
  have h4:=((hU ty).eq r l he).2.2.2;cases hk:(U ty).k<;>rw [hk] at ha h4<;>simp only [TK.agg] at ha<;>first|exact h4.2.1|exact h4.1|(cases ha)
 unfold vm at hk;split at hk
 ·rename_i r l he
  obtain ⟨h1,h2,h3,h4⟩:=hk;refine ⟨_,h4,fun c u v hu hv=> ?_⟩
  obtain rfl:=oW h2 hu;obtain rfl:=oW h3 hv;have:=l9 hU c.w 10000 ty r l he (by have:=((hU ty).eq r l he).2.2.1; omega) xs ys h2 h3
  rw [ck,ck,h1,if_pos rfl,if_pos rfl] at this;exact ⟨run_eqGuard_agg c.w _ _ _ _ _ _ (guard _ _ he h1),_,by simp_all [run_eql_struct], .v _⟩
 ·rename_i r l he
  obtain ⟨h1,h2,h3,h4⟩:=hk;refine ⟨_,h4,fun c u v hu hv=> ?_⟩
  obtain rfl:=oW h2 hu;obtain rfl:=oW h3 hv;have:=l9 hU c.w 10000 ty r l he (by have:=((hU ty).eq r l he).2.2.1; omega) xs ys h2 h3
  rw [ck,ck,h1,if_pos rfl,if_pos rfl] at this;exact ⟨run_eqGuard_agg c.w _ _ _ _ _ _ (guard _ _ he h1),_,by simp_all [run_neq_struct], .v _⟩
 ·exact hk.elim
end
theorem an {ρ} {x} {k} (h:withv ρ x k):∃y,ev ρ x=some y∧k y:=by
 grind [withv]
theorem bY {ρ} {xs} {k} (h:withvs ρ xs k):∃ys,evs ρ xs=some ys∧k ys:=by
 grind [withvs]
theorem Rep.aK {c} {x u} (h:Rep c (.v x) u):u=x:=by cases h; rfl
theorem Rep.fl {c} {l} {u} (h:Rep c (.s l) u):u= .string ⟨l.toArray⟩∧l.length<lim:=by cases h; grind
theorem Rep.gh {c} {xs} {u} (h:Rep c (.agg xs) u):∃vs:Array Value,u= .agg vs∧vs.size=xs.length∧
  (∀i (h:i<xs.length),Rep c xs[i] (vs.getD i undef))∧∀i,i<xs.length→(vs.getD i undef).oneCell' =true:=by
 cases h; grind
theorem Rep.pN {c} {xs} {u} (h:Rep c (.tup xs) u):∃vs:Array Value,u= .tuple vs∧vs.size=xs.length∧
  (∀i (h:i<xs.length),Rep c xs[i] (vs.getD i undef)):=by
 cases h; grind
theorem Rep.dX {c} {id off} {u} (h:Rep c (.ptr id off) u):u= .pointer (some ⟨(c.φ id).block,off,none⟩)∧∃cs t,c.h id=some (.obj cs t):=by
 cases h; grind
theorem Rep.kI {c} {x} {off} {u} (h:Rep c (.pe x off) u):∃(b o:Nat) (val:Nat→Value),u= .pointer (some ⟨b,o+off,none⟩)∧b<c.w.heap.size∧
  (∀j,j<x.cells.length→fix c b (o+j) (val j))∧(∀j (h:j<x.cells.length),Rep c x.cells[j] (val j))∧(∀j,j<x.cells.length→(val j).oneCell' =true):=by
 cases h; exact ⟨_,_,_,rfl,‹_›,‹_›,‹_›,‹_›⟩
theorem Rep.fh {c} {id off len} {u} (h:Rep c (.oa id off len) u):∃cap o,u= .slice (some ⟨(c.φ id).block,o,none⟩) len cap∧len≤cap∧cap<lim∧(len≠0→o=off)∧∃cs t,c.h id=some (.obj cs t)∧(cap≠0→o=off∧off+cap≤cs.length):=by
 cases h with
 |oa _ _ _ cap o cs t h hc hm ho=>grind
theorem Rep.dF {c} {id off len cap sz} {u} (h:Rep c (.ob id off len cap sz) u):∃o,u= .slice (some ⟨(c.φ id).block,o,none⟩) len cap∧len≤cap∧cap<lim∧∃cs t,c.h id=some (.obj cs t)∧(cap≠0→o=off∧off+cap*sz≤cs.length):=by
 cases h with
 |ob _ _ _ _ _ o cs t h hc hm ho=>grind
theorem Rep.sw {c} {id} {u} (h:Rep c (.mp id) u):u= .map (some (c.φ id).block)∧∃m,c.h id=some (.mp m):=by
 cases h; grind
theorem Rep.si {c} {f} {xs} {u} (h:Rep c (.fn f xs) u):∃vs:Array Value,u= .func (.func f) #[] vs∧vs.size=xs.length∧
  (∀i (h:i<xs.length),Rep c xs[i] (vs.getD i undef)):=by
 cases h; grind
structure pV (c:Cx) (xs:List AV) (p:Perm) (a:Option Addr) (cap sz:Nat) (val:Nat→Nat→Value):Prop where
 hc:xs.length≤cap
 hm:cap<lim
 h0:a=none→cap=0
 hs:∀q,a=some q→0<cap→q.spot=none∧q.block<c.w.heap.size
 hz:∀i (h:i<xs.length),xs[i].cells.length=sz
 hf:∀q,a=some q→∀i j,i<xs.length→j<sz→fix c q.block (q.off+(i*sz+j)) (val i j)
 hr:∀i (h:i<xs.length) j (h' :j<xs[i].cells.length),Rep c xs[i].cells[j] (val i j)
 ho:∀i j,i<xs.length→j<sz→(val i j).oneCell' =true
 hp:jY c a xs.length cap sz p
theorem Rep.dc {c} {xs} {p} {u} (h:Rep c (.sl xs p) u):∃a cap sz val,u= .slice a xs.length cap∧pV c xs p a cap sz val:=by
 cases h; exact ⟨_,_,_,_,rfl,‹_›,‹_›,‹_›,‹_›,‹_›,‹_›,‹_›,‹_›,‹_›⟩
theorem pV.rep {c} {xs} {p} {a} {cap sz} {val} (h:pV c xs p a cap sz val):Rep c (.sl xs p) (.slice a xs.length cap):=
 .sl xs p a cap sz val h.hc h.hm h.h0 h.hs h.hz h.hf h.hr h.ho h.hp
theorem lY {c} {n} {ρ} {a} (h:aP c n ρ a):∀(xs:List Operand) (ys:List AV),evs ρ xs=some ys→
  xs.length=ys.length∧∀i (hi:i<xs.length) (hj:i<ys.length),Rep c ys[i] (a.eval xs[i])
 | [],ys,e=>by simp only [evs,Option.some.injEq] at e; grind
 |x::r,ys,e=>by
  simp only [evs] at e;split at e
  ·rename_i y ys' h1 h2
   obtain ⟨h3,h4⟩:=lY h r ys' h2
   grind [ak]
  grind
section
variable {P : Program} {U : TypeId → TI} {ρ : Env} {h : Heap} {k : AV → Prop} {o : Oper}
theorem br.stay {X} (hs:∀c a n,Sub h c.h→Good c→aP c n ρ a→∃u,(execOp a.eval o).run P c.w= .ok (.value u) c.w∧Rep c X u):br P o ρ h X:=
 fun c a n hc g he=>let ⟨u,h1,h2⟩:=hs c a n hc g he; ⟨u,c,h1,g, .refl c,rfl,h2⟩
theorem ny {x} (ho:o.op= .move x∨o.op= .assign x) (hp:withv ρ x k):∃X,k X∧br P o ρ h X:=by
 obtain ⟨y,hy,hk⟩:=an hp;refine ⟨y,hk, .stay fun c a n _ _ he=>⟨a.eval x, ?_,ak he hy⟩⟩
 rcases ho with ho|ho<;>simp [execOp,ho]
theorem sS {x y z} (ho:o.op= .pick x y z) (hp:pv U ρ h (.pick x y z) k):∃X,k X∧br P o ρ h X:=by
 obtain ⟨b,hb,hk⟩:=an hp;split at hk
 ·obtain ⟨w,hw,hk⟩:=an hk
  refine ⟨w,hk, .stay fun c a n _ _ he=>⟨a.eval y, ?_,ak he hw⟩⟩
  have:=(ak he hb).aK;simp [execOp,ho,this,asBool]
 ·obtain ⟨w,hw,hk⟩:=an hk
  refine ⟨w,hk, .stay fun c a n _ _ he=>⟨a.eval z, ?_,ak he hw⟩⟩
  have:=(ak he hb).aK;simp [execOp,ho,this,asBool]
 grind
theorem nA {x} (ho:o.op= .nilCheck x) (hp:pv U ρ h (.nilCheck x) k):∃X,k X∧br P o ρ h X:=by
 obtain ⟨y,hy,hk⟩:=an hp;have key:(y matches .ptr .. | .pe .. | .fn ..)=true→∃X,k X∧br P o ρ h X:=fun hm=>by
  refine ⟨y,by cases y<;>simp at hm<;>exact hk, .stay fun c a n _ _ he=>⟨a.eval x, ?_,ak he hy⟩⟩
  have hr:=ak he hy;cases y<;>simp at hm
  ·obtain ⟨b,o',val,hu,_⟩:=hr.kI
   simp [execOp,ho,hu]
  ·obtain ⟨hu,_⟩:=hr.dX
   simp [execOp,ho,hu]
  ·obtain ⟨vs,hu,_⟩:=hr.si
   simp [execOp,ho,hu]
 cases y<;>first|exact key rfl|exact hk.elim
theorem kY (op) (ty) (x y) (k k') (a b) (w):(eqGuard op ty x y (.int k a) (.int k' b)).run P w= .ok () w:=by
 simp [eqGuard]
theorem wB (op) (ty) (k) (a b) (K) (hs:cU op=false) (hp:jx op k a b K):
  ∃r,K (.v r)∧∀w,(binOp op ty (.int k a) (.int k b)).run P w= .ok r w:=by
 cases op<;>simp only [jx,cU] at hp hs<;>
  first
   |(exact ⟨_,hp,fun w=>by simp [binOp,Op.intArith,Op.intCmp,Op.intBits]⟩)
   |(exact ⟨_,hp.2,fun w=>by simp [binOp,Op.intDiv,hp.1]⟩)
   |(cases hs)
   |(exact hp.elim)
theorem uF (op) (ty) (k k') (a b) (K) (hp:vn op k a b K):
  ∃r,K (.v r)∧∀w,(binOp op ty (.int k a) (.int k' b)).run P w= .ok r w:=by
 cases op<;>simp only [vn] at hp<;>
  first
   |(refine ⟨_,hp.2,fun w=> ?_⟩; have h1:¬b<0:=Int.not_lt.2 hp.1; simp [binOp,Op.shift,h1])
   |(exact hp.elim)
theorem wD (op) (ty) (a b) (K) (hp:zq op a b K):
  ∃X r,K X∧(∀c,Rep c X r)∧∀w,(binOp op ty (.string ⟨a.toArray⟩) (.string ⟨b.toArray⟩)).run P w= .ok r w:=by
 have key:∀t:Bool,K (.v (.bool t))→(∀w,(binOp op ty (.string ⟨a.toArray⟩) (.string ⟨b.toArray⟩)).run P w= .ok (.bool t) w)→
   ∃X r,K X∧(∀c,Rep c X r)∧∀w,(binOp op ty (.string ⟨a.toArray⟩) (.string ⟨b.toArray⟩)).run P w= .ok r w:=fun t h1 h2=>⟨_,_,h1,fun c=> .v _,h2⟩
 cases op<;>simp only [zq] at hp<;>
  first
   |(exact hp.elim)
   |(refine key _ hp fun w=> ?_; simp [binOp,Op.stringOp,ByteArray.toList_eq])
   |skip
 obtain ⟨h1,h2⟩:=hp;refine ⟨_, .string ⟨(a++b).toArray⟩,h2,fun c=> .s _ (by grind),fun w=> ?_⟩
 have e1:(⟨a.toArray⟩:ByteArray)++⟨b.toArray⟩=⟨(a++b).toArray⟩:=by rfl
 have e2:(⟨a.toArray⟩:ByteArray).size=a.length:=rfl;have e3:(⟨b.toArray⟩:ByteArray).size=b.length:=rfl;have h3:¬(((a.length+b.length:Nat):Int)>IntKind.i64.max):=by
  have e4:IntKind.i64.max=9223372036854775807:=rfl;simp only [lim] at h1;omega
 simp only [binOp,Op.stringOp,e1,e2,e3];rw [if_neg h3];rfl
theorem jA {ty} (hu:P.underlying ty=some .bool) (d) (a b) (w):(Op.equalIn (d+1) ty (.bool a) (.bool b)).run P w= .ok (a==b) w:=by
 simp [Op.equalIn,run_underlying hu]
theorem gE {ty e} (hu:P.underlying ty=some (.pointer e)) (d) (a) (w):(Op.equalIn (d+1) ty (.pointer a) (.pointer none)).run P w= .ok a.isNone w:=by
 cases a<;>simp [Op.equalIn,run_underlying hu]
theorem dY (ty) (x y) (b) (w) (h:(Op.equalIn (9999+1) ty x y).run P w= .ok b w):(Op.equal ty x y).run P w= .ok b w:=h
theorem cQ (op) (ty) (x y) (u v) (w) (h:(u matches .nilIface| .agg _)=false):(eqGuard op ty x y u v).run P w= .ok () w:=by
 unfold eqGuard;cases u<;>first|(simp at h; done)|(split<;>rfl)
theorem qM {c} {A} {u} {n} (h:zZ A=some n) (hr:Rep c A u):∃a,u= .pointer a∧a.isNone=n:=by
 unfold zZ at h;split at h
 ·simp only [Option.some.injEq] at h; subst h; exact ⟨none,hr.aK,rfl⟩
 ·simp only [Option.some.injEq] at h; subst h; exact ⟨_,hr.dX.1,rfl⟩
 ·simp only [Option.some.injEq] at h; subst h; obtain ⟨b,o',val,hu,_⟩:=hr.kI; grind
 grind
theorem wz {op} {ty} {a b} {K} (hU:∀t,ax P U t) (hk:xm U op ty a b K):
  ∃r,K (.v r)∧∀w,(binOp op ty (.bool a) (.bool b)).run P w= .ok r w:=by
 unfold xm at hk;split at hk
 ·rename_i hty
  have:=(hU ty).desc;exact ⟨_,hk,fun w=>by simp_all [binOp,dY,jA]⟩
 ·rename_i hty
  have:=(hU ty).desc;exact ⟨_,hk,fun w=>by simp_all [binOp,dY,jA]⟩
 grind
theorem wC {op} {ty} {x} {K} (hU:∀t,ax P U t) (hk:zp U op ty x K):
  ∃r,K (.v r)∧∀c u,Rep c x u→(binOp op ty u (.pointer none)).run P c.w= .ok r c.w∧(u matches .nilIface| .agg _)=false:=by
 unfold zp at hk;split at hk
 ·rename_i e n hty hn
  have:=(hU ty).desc;refine ⟨_,hk,fun c u hu=> ?_⟩
  obtain ⟨a,rfl,hn'⟩:=qM hn hu;exact ⟨by simp_all [binOp,dY,gE],rfl⟩
 ·rename_i e n hty hn
  have:=(hU ty).desc;refine ⟨_,hk,fun c u hu=> ?_⟩
  obtain ⟨a,rfl,hn'⟩:=qM hn hu;exact ⟨by simp_all [binOp,dY,gE],rfl⟩
 grind
theorem wv {op} {ty} {A B} {K} (x y) (hU:∀t,ax P U t) (hk:cA U op ty A B K):
  ∃X,K X∧∀c u v,Rep c A u→Rep c B v→(eqGuard op ty x y u v).run P c.w= .ok () c.w∧∃r,(binOp op ty u v).run P c.w= .ok r c.w∧Rep c X r:=by
 unfold cA at hk;split at hk
 ·split at hk
  ·split at hk
   ·obtain ⟨r,h1,h2⟩:=uF (P:=P) op ty _ _ _ _ _ hk
    refine ⟨_,h1,fun c u v ra rb=> ?_⟩
    rw [ra.aK,rb.aK];exact ⟨kY _ _ _ _ _ _ _ _ _,r,h2 _, .v _⟩
   ·rename_i hs
    obtain ⟨rfl,hk⟩:=hk;obtain ⟨r,h1,h2⟩:=wB (P:=P) op ty _ _ _ _ (by grind) hk
    refine ⟨_,h1,fun c u v ra rb=> ?_⟩
    rw [ra.aK,rb.aK];exact ⟨kY _ _ _ _ _ _ _ _ _,r,h2 _, .v _⟩
  grind
 ·split at hk
  ·obtain ⟨X,r,h1,h2,h3⟩:=wD (P:=P) op ty _ _ _ hk
   refine ⟨_,h1,fun c u v ra rb=> ?_⟩
   rw [ra.fl.1,rb.fl.1];exact ⟨cQ _ _ _ _ _ _ _ rfl,r,h3 _,h2 _⟩
  grind
 ·split at hk
  ·obtain ⟨r,h1,h2⟩:=wz hU hk
   refine ⟨_,h1,fun c u v ra rb=> ?_⟩
   rw [ra.aK,rb.aK];exact ⟨cQ _ _ _ _ _ _ _ rfl,r,h2 _, .v _⟩
  grind
 ·obtain ⟨r,h1,h2⟩:=wC hU hk
  refine ⟨_,h1,fun c u v ra rb=> ?_⟩
  rw [rb.aK];exact ⟨cQ _ _ _ _ _ _ _ (h2 c u ra).2,r,(h2 c u ra).1, .v _⟩
 ·split at hk
  ·exact wA x y hU hk
  grind
 ·split at hk
  ·obtain ⟨r,h1,h2⟩:=hk
   refine ⟨_,h2,fun c u v ra rb=> ?_⟩
   rw [ra.aK,rb.aK];exact ⟨cQ _ _ _ _ _ _ _ rfl,r,h1 _ _ _, .v _⟩
  grind
 ·split at hk
  ·obtain ⟨r,h1,h2⟩:=hk
   refine ⟨_,h2,fun c u v ra rb=> ?_⟩
   rw [ra.aK,rb.aK];exact ⟨cQ _ _ _ _ _ _ _ rfl,r,h1 _ _ _, .v _⟩
  grind
 grind
theorem ru {op} {ty ty'} {x y} (hU:∀t,ax P U t) (ho:o.op= .binOp op ty x y ty') (hp:pv U ρ h (.binOp op ty x y ty') k):∃X,k X∧br P o ρ h X:=by
 obtain ⟨A,hA,hk⟩:=an hp;obtain ⟨B,hB,hk⟩:=an hk;obtain ⟨X,h1,h2⟩:=wv (P:=P) x y hU hk;refine ⟨X,h1, .stay fun c a n hc g he=> ?_⟩
 obtain ⟨h3,r,h4,h5⟩:=h2 c _ _ (ak he hA) (ak he hB)
 simp_all [execOp]
end
section
variable {P : Program} {U : TypeId → TI} {ρ : Env} {h : Heap} {k : AV → Prop} {o : Oper}
theorem sV {op} {ty} {x} (ho:o.op= .unOp op ty x) (hp:pv U ρ h (.unOp op ty x) k):∃X,k X∧br P o ρ h X:=by
 obtain ⟨A,hA,hk⟩:=an hp;split at hk
 ·refine ⟨_,hk, .stay fun c a n hc g he=>⟨_, ?_, .v _⟩⟩
  simp [execOp,ho,(ak he hA).aK,Op.unary]
 ·refine ⟨_,hk, .stay fun c a n hc g he=>⟨_, ?_, .v _⟩⟩
  simp [execOp,ho,(ak he hA).aK,Op.unary,Op.intArith]
 ·refine ⟨_,hk, .stay fun c a n hc g he=>⟨_, ?_, .v _⟩⟩
  simp [execOp,ho,(ak he hA).aK,Op.unary,Op.intBits]
 grind
theorem nU {x} {i} (ho:o.op= .extract x i) (hp:pv U ρ h (.extract x i) k):∃X,k X∧br P o ρ h X:=by
 obtain ⟨A,hA,hk⟩:=an hp;split at hk
 ·obtain ⟨z,hz,hk⟩:=hk
  refine ⟨z,hk, .stay fun c a n hc g he=> ?_⟩
  obtain ⟨us,hu,hn,hr⟩:=(ak he hA).pN;obtain ⟨hi,hz'⟩:=List.getElem?_eq_some_iff.1 hz;have:=hr i hi
  simp_all [execOp,Instr.extract]
 grind
theorem iK {ty} {x} (hU:∀t,ax P U t) (ho:o.op= .makeInterface ty x) (hp:pv U ρ h (.makeInterface ty x) k):∃X,k X∧br P o ρ h X:=by
 obtain ⟨ht,hp⟩:=hp;obtain ⟨A,hA,hk⟩:=an hp;refine ⟨_,hk, .stay fun c a n hc g he=>⟨_, ?_, .ifc _ _ _ (ak he hA)⟩⟩
 have hd:=(hU ty).desc;cases hty:(U ty).k<;>rw [hty] at ht hd<;>simp only at ht hd<;>
  first
   |(exact ht.elim)
   |(simp [execOp,ho,Instr.makeInterface,run_underlying hd]; done)
   |(obtain ⟨fs,hd,_⟩:=hd; simp [execOp,ho,Instr.makeInterface,run_underlying hd]; done)
theorem nw {fn} {first cap} (ho:o.op= .makeFunc fn first cap) (hp:pv U ρ h (.makeFunc fn first cap) k):∃X,k X∧br P o ρ h X:=by
 simp only [pv] at hp;split at hp
 ·rename_i f hf
  have hf' :first= #[]:=by grind
  subst hf';obtain ⟨ys,hy,hk⟩:=bY hp;refine ⟨_,hk, .stay fun c a n hc g he=> ?_⟩
  obtain ⟨h1,h2⟩:=lY he _ _ hy;refine ⟨.func (.func f) #[] (cap.map a.eval),by simp [execOp,ho,Instr.makeFunc], .fn f ys _ (by grind) fun i hi=> ?_⟩
  have hi' :i<cap.size:=by grind
  have:=h2 i (by omega) hi
  simpa [hi'] using this
 grind
theorem jB (vs:Array Value) (off n i:Nat) (h1:i<n) (h2:off+n≤vs.size):(vs.extract off (off+n)).getD i undef=vs.getD (off+i) undef:=by
 have h3:i<(vs.extract off (off+n)).size:=by grind
 have h4:off+i<vs.size:=by omega
 rw [Array.getD,dif_pos h3,Array.getD,dif_pos h4];exact Array.getElem_extract h3
theorem uz {t} (hU:∀t,ax P U t) (hz:(U t).sz≠0) (ht:(U t).k≠ .other) {cs} {off} (hk:eF cs off (U t) k):
  ∃X,k X∧∀c (vs:Array Value),vs.size=cs.length→(∀i (h:i<cs.length),Rep c cs[i] (vs.getD i undef))→(∀i,i<cs.length→(vs.getD i undef).oneCell' =true)→
   ∃r,(part t vs off).run P c.w= .ok r c.w∧Rep c X r:=by
 unfold eF at hk;split at hk
 ·rename_i hag
  obtain ⟨hle,hk⟩:=hk;refine ⟨_,hk,fun c vs hn hr ho=>⟨.agg (vs.extract off (off+(U t).sz)),by simp [part,eO hU ht,hag,aI hU hz], ?_⟩⟩
  refine .agg _ _ (by grind) (fun i hi=> ?_) (fun i hi=> ?_)
  ·simp at hi
   have h1:off+i<cs.length:=by omega
   have:=hr (off+i) h1;rw [jB _ _ _ _ (by omega) (by omega)]
   simpa using this
  grind [jB]
 ·rename_i hag
  obtain ⟨x,hx,hk⟩:=hk;obtain ⟨hi,hx'⟩:=List.getElem?_eq_some_iff.1 hx;refine ⟨x,hk,fun c vs hn hr ho=> ?_⟩
  have h1:off<vs.size:=by omega
  have:=hr off hi;rw [hx'] at this;exact ⟨vs[off],by simp [part,eO hU ht,hag,h1],by simpa [h1] using this⟩
theorem rz {ty} {x} {f} (hU:∀t,ax P U t) (ho:o.op= .field ty x f) (hp:pv U ρ h (.field ty x f) k):∃X,k X∧br P o ρ h X:=by
 obtain ⟨A,hA,hk⟩:=an hp;split at hk
 ·rename_i fs cs hty
  split at hk
  ·rename_i off t hf
   obtain ⟨hz,ht,hk⟩:=hk;obtain ⟨X,hk,hX⟩:=uz hU hz ht hk;refine ⟨X,hk, .stay fun c a n hc g he=> ?_⟩
   obtain ⟨us,hu,hn,hr,h1⟩:=(ak he hA).gh;obtain ⟨r,h2,h3⟩:=hX c us hn hr h1;have hd:=(hU ty).desc;rw [hty] at hd;obtain ⟨fields,hd,hfs,_⟩:=hd;rw [←hfs] at hf;obtain ⟨fd,hf1,hf2⟩:=List.getElem?_map .. ▸hf|>Option.map_eq_some_iff.1
   exact ⟨r,by simp_all [execOp,Instr.field,run_underlying,asAgg],h3⟩
  grind
 grind
theorem aO {b} {args} {ts} (ho:o.op= .call {callee:= .builtin b,args:=args,argTypes:=ts}) (ev):
  execOp ev o=builtin b ts o.type (args.map fun| .const _=>true|_=>false) (args.map ev):=by
 simp only [execOp,ho,resolve];rfl
theorem uJ {args:Array Operand} {ts:Array TypeId} (hU:∀t,ax P U t) (ho:o.op= .call {callee:= .builtin .len,args:=args,argTypes:=ts})
  (hp:pvB U ρ h .len args.toList ts.toList k):∃X,k X∧br P o ρ h X:=by
 obtain ⟨args⟩:=args;obtain ⟨ts⟩:=ts;simp only [pvB] at hp;split at hp
 ·rename_i x t
  obtain ⟨A,hA,hk⟩:=an hp;have hd:=(hU t).desc;split at hk
  ·rename_i hty
   rw [hty] at hd;refine ⟨_,hk, .stay fun c a n hc g he=>⟨_, ?_, .v _⟩⟩
   rw [aO ho];simp [builtin,Builtin.len_,run_underlying hd,(ak he hA).fl.1,goInt];rfl
  ·rename_i hty
   rw [hty] at hd;refine ⟨_,hk, .stay fun c a n hc g he=>⟨_, ?_, .v _⟩⟩
   obtain ⟨q,cap,sz,val,hu,_⟩:=(ak he hA).dc;rw [aO ho]
   simp_all [builtin,Builtin.len_,run_underlying,goInt]
  ·rename_i hty
   rw [hty] at hd;refine ⟨_,hk, .stay fun c a n hc g he=>⟨_, ?_, .v _⟩⟩
   obtain ⟨cap,o',hu,_⟩:=(ak he hA).fh;rw [aO ho]
   simp_all [builtin,Builtin.len_,run_underlying,goInt]
  ·rename_i hty
   rw [hty] at hd;refine ⟨_,hk, .stay fun c a n hc g he=>⟨_, ?_, .v _⟩⟩
   obtain ⟨o',hu,_⟩:=(ak he hA).dF;rw [aO ho]
   simp_all [builtin,Builtin.len_,run_underlying,goInt]
  ·rename_i id hty
   rw [hty] at hd;split at hk
   ·rename_i m hid
    refine ⟨_,hk,fun c a n hs g he=> ?_⟩
    have hcid:=hs _ _ hid;obtain ⟨hu,_⟩:=(ak he hA).sw;obtain ⟨es,cl,e1,e2,e3⟩:=g.mp id m hcid;refine ⟨_,c, ?_,g, .refl c,rfl, .v _⟩;rw [aO ho];simp [builtin,Builtin.len_,run_underlying hd,hu,MapKept.run_getObj_map e1,goInt,e2]
   ·exact hk.elim
  ·exact hk.elim
 grind
theorem uI {args:Array Operand} {ts:Array TypeId} (hU:∀t,ax P U t) (ho:o.op= .call {callee:= .builtin .cap,args:=args,argTypes:=ts})
  (hp:pvB U ρ h .cap args.toList ts.toList k):∃X,k X∧br P o ρ h X:=by
 obtain ⟨args⟩:=args;obtain ⟨ts⟩:=ts;simp only [pvB] at hp;split at hp
 ·rename_i x t
  obtain ⟨A,hA,hk⟩:=an hp;have hd:=(hU t).desc;split at hk
  ·rename_i hty
   rw [hty] at hd;refine ⟨_,hk, .stay fun c a n hc g he=>⟨_, ?_, .v _⟩⟩
   obtain ⟨q,cap,sz,val,hu,hs⟩:=(ak he hA).dc;have hp:cap=_:=hs.hp;rw [aO ho];simp [builtin,Builtin.cap_,run_underlying hd,hu,goInt,hp]
  ·rename_i hty
   rw [hty] at hd;refine ⟨_,hk, .stay fun c a n hc g he=>⟨_, ?_, .v _⟩⟩
   obtain ⟨o',hu,_⟩:=(ak he hA).dF;rw [aO ho]
   simp_all [builtin,Builtin.cap_,run_underlying,goInt]
  ·exact hk.elim
 grind
theorem lZ {xs} {A B} (h:evs ρ xs=some [A,B]):∃x y,xs= [x,y]∧ev ρ x=some A∧ev ρ y=some B:=by
 match xs,h with
 | [x,y],h=>
  simp only [evs] at h;split at h
  ·rename_i h1 h2
   split at h2
   ·rename_i h3 h4
    simp only [Option.some.injEq] at h4 h2 h;subst h4; subst h2
    obtain ⟨rfl,rfl⟩:=h;exact ⟨x,y,rfl,h1,h3⟩
   ·cases h2
  ·cases h
 | [x],h=>simp only [evs] at h; split at h<;>simp_all
 | [],h=>simp [evs] at h
 |x::y::z::r,h=>
  simp only [evs] at h;split at h
  ·rename_i h1 h2
   split at h2
   ·rename_i h3 h4
    split at h4<;>simp_all
   ·cases h2
  ·cases h
theorem uL {args} {ts} (ho:o.op= .call {callee:= .builtin .min,args,argTypes:=ts})
  (hp:withvs ρ args.toList fun ys=>qK ys k):∃X,k X∧br P o ρ h X:=by
 obtain ⟨ys,hy,hk⟩:=bY hp;unfold qK at hk;split at hk
 ·obtain ⟨rfl,hk⟩:=hk
  obtain ⟨x,y,e,hx,hy2⟩:=lZ hy;have e' :args= #[x,y]:=by grind
  subst e';refine ⟨_,hk, .stay fun c a n hc g he=>⟨_, ?_, .v _⟩⟩
  rw [aO ho];simp [builtin,Builtin.min_,Builtin.min2,(ak he hx).aK,(ak he hy2).aK]
 grind
theorem uK {args} {ts} (ho:o.op= .call {callee:= .builtin .max,args,argTypes:=ts})
  (hp:withvs ρ args.toList fun ys=>vU ys k):∃X,k X∧br P o ρ h X:=by
 obtain ⟨ys,hy,hk⟩:=bY hp;unfold vU at hk;split at hk
 ·obtain ⟨rfl,hk⟩:=hk
  obtain ⟨x,y,e,hx,hy2⟩:=lZ hy;have e' :args= #[x,y]:=by grind
  subst e';refine ⟨_,hk, .stay fun c a n hc g he=>⟨_, ?_, .v _⟩⟩
  rw [aO ho];simp [builtin,Builtin.max_,Builtin.max2,(ak he hx).aK,(ak he hy2).aK]
 ·obtain ⟨r,h1,hk⟩:=hk
  obtain ⟨x,y,e,hx,hy2⟩:=lZ hy;have e' :args= #[x,y]:=by grind
  subst e';refine ⟨_,hk, .stay fun c a n hc g he=>⟨_, ?_, .v r⟩⟩
  rw [aO ho];have h2:=h1 P ts o.type c.w;rw [←(ak he hx).aK,←(ak he hy2).aK] at h2;simp [builtin,h2]
 grind
theorem tq {l} {y} (h:evs ρ l=some [y]):∃x,l= [x]∧ev ρ x=some y:=by
 cases l with
 |nil=>cases h
 |cons x r=>
  simp only [evs] at h;split at h
  ·rename_i u us h1 h2
   cases r with
   |nil=>grind
   |cons z r=>
    grind [evs]
  grind
theorem wm (ts) (ty) (k) (a b):Builtin.real_ ts ty #[.complex k a b]=pure (.float k a):=rfl
theorem vL (ts) (ty) (k) (a b):Builtin.imag_ ts ty #[.complex k a b]=pure (.float k b):=rfl
theorem vo (ts) (ty) (k) (a b):Builtin.complex_ ts ty #[.float k a, .float k b]=pure (.complex k a b):=by
 show (if k=k then (pure (Value.complex k a b):Sem Value) else _)=_
 simp
theorem sU {args} {ts} (ho:o.op= .call {callee:= .builtin .real,args,argTypes:=ts})
  (hp:withvs ρ args.toList fun ys=>qW ys k):∃X,k X∧br P o ρ h X:=by
 obtain ⟨ys,hy,hk⟩:=bY hp;unfold qW at hk;split at hk
 ·rename_i kf p q
  obtain ⟨x,e,hx⟩:=tq hy;have e' :args= #[x]:=by grind
  subst e';refine ⟨_,hk, .stay fun c a n hc g he=>⟨_, ?_, .v _⟩⟩
  rw [aO ho];have h2:=wm ts o.type kf p q;rw [←(ak he hx).aK] at h2;simp [builtin,h2]
 grind
theorem sQ {args} {ts} (ho:o.op= .call {callee:= .builtin .imag,args,argTypes:=ts})
  (hp:withvs ρ args.toList fun ys=>qz ys k):∃X,k X∧br P o ρ h X:=by
 obtain ⟨ys,hy,hk⟩:=bY hp;unfold qz at hk;split at hk
 ·rename_i kf p q
  obtain ⟨x,e,hx⟩:=tq hy;have e' :args= #[x]:=by grind
  subst e';refine ⟨_,hk, .stay fun c a n hc g he=>⟨_, ?_, .v _⟩⟩
  rw [aO ho];have h2:=vL ts o.type kf p q;rw [←(ak he hx).aK] at h2;simp [builtin,h2]
 grind
theorem sP {args} {ts} (ho:o.op= .call {callee:= .builtin .complex,args,argTypes:=ts})
  (hp:withvs ρ args.toList fun ys=>p5 ys k):∃X,k X∧br P o ρ h X:=by
 obtain ⟨ys,hy,hk⟩:=bY hp;unfold p5 at hk;split at hk
 ·rename_i kf p kf' q
  obtain ⟨rfl,hk⟩:=hk;obtain ⟨x,y,e,hx,hy2⟩:=lZ hy;have e' :args= #[x,y]:=by grind
  subst e';refine ⟨_,hk, .stay fun c a n hc g he=>⟨_, ?_, .v _⟩⟩
  rw [aO ho];have h2:=vo ts o.type kf p q;rw [←(ak he hx).aK,←(ak he hy2).aK] at h2;simp [builtin,h2]
 grind
end
section
variable {P : Program} {U : TypeId → TI} {ρ : Env} {h : Heap} {k : AV → Prop} {o : Oper}
theorem aT (b o n):(⟨b,o,none⟩:Addr).add n=⟨b,o+n,none⟩:=by
 grind [Addr.add]
theorem rA {ty} {x i} (hU:∀t,ax P U t) (ho:o.op= .index ty x i) (hp:pv U ρ h (.index ty x i) k):∃X,k X∧br P o ρ h X:=by
 obtain ⟨A,hA,hk⟩:=an hp;obtain ⟨B,hB,hk2⟩:=an hk;clear hk;have hk:=hk2;split at hk
 ·rename_i l kk n hty
  obtain ⟨h0,b,hb,hk⟩:=hk;refine ⟨_,hk, .stay fun c a m hc g he=>⟨_, ?_, .v _⟩⟩
  have hd:=(hU ty).desc;rw [hty] at hd;obtain ⟨hi,hb'⟩:=List.getElem?_eq_some_iff.1 hb;have e:(⟨l.toArray⟩:ByteArray)[n.toNat]? =some b:=by
   rw [getElem?_pos (⟨l.toArray⟩:ByteArray) n.toNat hi,←hb'];rfl
  simp [execOp,ho,(ak he hA).fl.1,(ak he hB).aK,Instr.index,asIntOf,run_underlying hd,h0,e]
 ·exact hk.elim
theorem mK {a:Addr} {f:Field} (hU:∀t,ax P U t) (hz:(U f.type).sz≠0) (w:World):(fieldPlace a f).run P w= .ok (a.add f.offset) w:=by
 simp [fieldPlace,aI hU hz,hz]
theorem sg {ty} {fs} {f off:Nat} {t} (hU:∀t,ax P U t) (hty:(U ty).k= .strct fs) (hf:fs[f]? =some (off,t)):
  ∃(fields:Array Field) (fd:Field),P.underlying ty=some (.struct fields)∧fields[f]? =some fd∧fd.offset=off∧fd.type=t:=by
 have hd:=(hU ty).desc;rw [hty] at hd;obtain ⟨fields,hd,hfs,_⟩:=hd;rw [←hfs] at hf;obtain ⟨fd,hf1,hf2⟩:=List.getElem?_map .. ▸hf|>Option.map_eq_some_iff.1
 simp only [Prod.mk.injEq] at hf2;exact ⟨fields,fd,hd,by grind,hf2.1,hf2.2⟩
theorem lQ {ty:TypeId} {x:Operand} {f:Nat} (hU:∀t,ax P U t) (ho:o.op= .fieldAddr ty x f) (hp:pv U ρ h (.fieldAddr ty x f) k):∃X,k X∧br P o ρ h X:=by
 obtain ⟨A,hA,hk⟩:=an hp;split at hk
 ·rename_i fs hty
  split at hk
  ·rename_i off t hf
   obtain ⟨hz,hk⟩:=hk;obtain ⟨fields,fd,hd,hf3,rfl,rfl⟩:=sg hU hty hf;have hrun:∀(b q:Nat) (w:World),(Instr.fieldAt ty (.pointer (some ⟨b,q,none⟩)) f).run P w= .ok (.pointer (some ⟨b,q+fd.offset,none⟩)) w:=fun b q w=>by
    simp [Instr.fieldAt,run_underlying hd,hf3,Instr.sureAddr,mK hU hz,aT]
   split at hk
   ·rename_i id q
    refine ⟨_,hk, .stay fun c a m hc g he=> ?_⟩
    obtain ⟨hu,cs,t,hcs⟩:=(ak he hA).dX;exact ⟨_,by simp_all [execOp], .ptr _ _ cs t hcs⟩
   ·rename_i z q
    refine ⟨_,hk, .stay fun c a m hc g he=> ?_⟩
    obtain ⟨b,p,val,hu,h1,h2,h3,h4⟩:=(ak he hA).kI;refine ⟨_,by simp [execOp,ho,hu,hrun]; rfl, ?_⟩
    rw [Nat.add_assoc];exact .pe z _ b p val h1 h2 h3 h4
   ·exact hk.elim
  grind
 grind
theorem lR {ty} {x i} (hU:∀t,ax P U t) (ho:o.op= .indexAddr ty x i) (hp:pv U ρ h (.indexAddr ty x i) k):∃X,k X∧br P o ρ h X:=by
 obtain ⟨A,hA,hk⟩:=an hp;obtain ⟨B,hB,hk2⟩:=an hk;clear hk;have hk:=hk2;clear hk2;have hd:=(hU ty).desc;split at hk
 ·rename_i e xs p kk n hty
  rw [hty] at hd;obtain ⟨hz,h0,b,hb,hsz,hk⟩:=hk;refine ⟨_,hk, .stay fun c a m hc g he=> ?_⟩
  obtain ⟨q,cap,sz,val,hu,hs⟩:=(ak he hA).dc;obtain ⟨hi,hb'⟩:=List.getElem?_eq_some_iff.1 hb;have hcap:=hs.hc;obtain ⟨q,rfl⟩:∃q',q=some q' :=by
   cases q with
   |none=>have:=hs.h0 rfl; omega
   |some q' =>simp
  obtain ⟨hspot,hblk⟩:=hs.hs q rfl (by omega)
  have hz' :=hs.hz n.toNat hi;rw [hb',hsz] at hz';have hlt:n<xs.length:=by omega
  obtain ⟨bq,oq,sq⟩:=q;simp only at hspot hblk; subst hspot
  refine ⟨.pointer (some ⟨bq,oq+n.toNat*sz+0,none⟩),by simp [execOp,ho,hu,(ak he hB).aK,Instr.indexAt,asIntOf,run_underlying hd,h0,hlt,aI hU hz,aT,hz'], ?_⟩
  refine .pe b 0 bq (oq+n.toNat*sz) (fun j=>val n.toNat j) hblk (fun j hj=> ?_) (fun j hj=> ?_) (fun j hj=> ?_)
  ·have:=hs.hf _ rfl n.toNat j hi (by omega)
   rwa [←Nat.add_assoc] at this
  ·have:=hs.hr n.toNat hi j (by grind)
   simpa only [hb'] using this
  ·exact hs.ho n.toNat j hi (by omega)
 ·rename_i e id off len kk n hty
  rw [hty] at hd;obtain ⟨hz,h0,h1,hk⟩:=hk;refine ⟨_,hk, .stay fun c a m hc g he=> ?_⟩
  obtain ⟨cap,o',hu,h2,h3,ho',cs,t,h4,h5⟩:=(ak he hA).fh;obtain rfl:=ho' (by omega)
  exact ⟨_,by simp [execOp,ho,hu,(ak he hB).aK,Instr.indexAt,asIntOf,run_underlying hd,h0,h1,aI hU hz,aT], .ptr _ _ cs t h4⟩
 ·rename_i len e id off kk n hty
  rw [hty] at hd;obtain ⟨hz,h0,h1,hk⟩:=hk;refine ⟨_,hk, .stay fun c a m hc g he=> ?_⟩
  obtain ⟨hu,cs,t,h4⟩:=(ak he hA).dX;exact ⟨_,by simp [execOp,ho,hu,(ak he hB).aK,Instr.indexAt,asIntOf,run_underlying hd,h0,h1,aI hU hz,aT,Instr.sureAddr], .ptr _ _ cs t h4⟩
 ·rename_i e id off len cap sz kk n hty
  rw [hty] at hd;obtain ⟨hz,rfl,h0,h1,hk⟩:=hk;refine ⟨_,hk, .stay fun c a m hc g he=> ?_⟩
  obtain ⟨o',hu,h2,h3,cs,t,h4,h5⟩:=(ak he hA).dF;obtain ⟨rfl,_⟩:=h5 (by omega)
  exact ⟨_,by simp [execOp,ho,hu,(ak he hB).aK,Instr.indexAt,asIntOf,run_underlying hd,h0,h1,aI hU hz,aT], .ptr _ _ cs t h4⟩
 ·exact hk.elim
theorem gW {ty} (hU:∀t,ax P U t) (hz:(U ty).sz≠0) (ht:(U ty).k≠ .other) (w) (b q) (f)
  (hf:∀j,j<(if (U ty).k.agg then (U ty).sz else 1)→w.cell? ⟨b,q+j,none⟩=some (f j)):
  (loadVar ty ⟨b,q,none⟩).run P w= .ok (if (U ty).k.agg then .agg ((List.range (U ty).sz).map f).toArray else f 0) w:=by
 by_cases hag:(U ty).k.agg=true
 ·simp only [hag,if_true] at hf⊢
  simp [loadVar,eO hU ht,hag,aI hU hz,run_loadCells w ⟨b,q,none⟩ _ f (fun j hj=>by rw [aT]; exact hf j hj)]
 ·simp only [hag] at hf⊢
  have:=hf 0 (by simp)
  simp at this;simp [loadVar,eO hU ht,hag,this]
theorem ve {c} {cs} {f} {n} (hn:n=cs.length) (hr:∀j (h:j<cs.length),Rep c cs[j] (f j)) (ho:∀j,j<cs.length→(f j).oneCell' =true):
  Rep c (.agg cs) (.agg ((List.range n).map f).toArray):=by
 subst hn;refine .agg _ _ (by simp) (fun i hi=> ?_) (fun i hi=> ?_)
 ·simpa [hi] using hr i hi
 simp_all
theorem jh {ty} (hU:∀t,ax P U t) (hz:(U ty).sz≠0) (ht:(U ty).k≠ .other) {cs} {off} (hk:eF cs off (U ty) k):
  ∃X,k X∧∀c b q (val:Nat→Value),(∀j,j<cs.length→c.w.cell? ⟨b,q+j,none⟩=some (val j))→(∀j (h:j<cs.length),Rep c cs[j] (val j))→
   (∀j,j<cs.length→(val j).oneCell' =true)→∃r,(loadVar ty ⟨b,q+off,none⟩).run P c.w= .ok r c.w∧Rep c X r:=by
 unfold eF at hk;split at hk
 ·rename_i hag
  obtain ⟨hle,hk⟩:=hk;refine ⟨_,hk,fun c b q val h1 h2 h3=>⟨_,gW hU hz ht c.w b (q+off) (fun j=>val (off+j)) (fun j hj=> ?_), ?_⟩⟩
  ·grind
  ·simp only [hag,if_true]
   refine ve (by grind) (fun j hj=> ?_) (fun j hj=> ?_)
   ·simp at hj
    simpa using h2 (off+j) (by omega)
   grind
 ·rename_i hag
  obtain ⟨x,hx,hk⟩:=hk;obtain ⟨hi,hx'⟩:=List.getElem?_eq_some_iff.1 hx;refine ⟨x,hk,fun c b q val h1 h2 h3=>⟨_,gW hU hz ht c.w b (q+off) (fun j=>val (off+j)) (fun j hj=> ?_), ?_⟩⟩
  ·grind
  ·have:=h2 off hi
   rw [hx'] at this;simpa [hag] using this
theorem xl {ty} (hU:∀t,ax P U t) (hz:(U ty).sz≠0) (ht:(U ty).k≠ .other) {y} {off} (hk:atA y off (U ty) k):
  ∃X,k X∧∀c b q (val:Nat→Value),(∀j,j<y.cells.length→c.w.cell? ⟨b,q+j,none⟩=some (val j))→(∀j (h:j<y.cells.length),Rep c y.cells[j] (val j))→
   (∀j,j<y.cells.length→(val j).oneCell' =true)→∃r,(loadVar ty ⟨b,q+off,none⟩).run P c.w= .ok r c.w∧Rep c X r:=by
 unfold atA at hk;split at hk
 ·rename_i hc
  obtain ⟨rfl,hlen,hag⟩:=hc;refine ⟨y,hk,fun c b q val h1 h2 h3=>⟨_,gW hU hz ht c.w b (q+0) val (fun j hj=> ?_), ?_⟩⟩
  ·grind
  ·by_cases hagg:(U ty).k.agg=true
   ·rw [hagg] at hag
    simp only [hagg,if_true];cases y<;>simp [aU] at hag
    exact ve hlen.symm h2 h3
   ·simp only [hagg]
    have hn:aU y=false:=by grind
    have:y.cells= [y]:=by cases y<;>simp [aU] at hn<;>rfl
    have h4:=h2 0 (by omega)
    simpa [this] using h4
 ·exact jh hU hz ht hk
theorem sR {ty} {x} (hU:∀t,ax P U t) (ho:o.op= .load ty x) (hp:pv U ρ h (.load ty x) k):∃X,k X∧br P o ρ h X:=by
 obtain ⟨hz,ht,hp⟩:=hp;obtain ⟨A,hA,hk⟩:=an hp;split at hk
 ·rename_i id off
  split at hk
  ·rename_i cs t hid
   obtain ⟨X,hk,hX⟩:=jh (P:=P) hU hz ht hk;refine ⟨X,hk, .stay fun c a m hc g he=> ?_⟩
   obtain ⟨hu,_⟩:=(ak he hA).dX;obtain ⟨vs,h1,h2,h3⟩:=g.obj id cs t (hc _ _ hid);obtain ⟨r,h5,h6⟩:=hX c (c.φ id).block 0 (fun j=>vs.getD j undef) (by simp_all [World.cell?]) (by grind) (by grind)
   simp_all [Nat.zero_add,execOp,Instr.loadAt,Instr.sureAddr]
  grind
 ·obtain ⟨X,hk,hX⟩:=xl (P:=P) hU hz ht hk
  refine ⟨X,hk, .stay fun c a m hc g he=> ?_⟩
  obtain ⟨b,p,val,hu,h1,h2,h3,h4⟩:=(ak he hA).kI;obtain ⟨r,h5,h6⟩:=hX c b p val (fun j hj=>(h2 j hj).1) h3 h4
  simp_all [execOp,Instr.loadAt,Instr.sureAddr]
 grind
end
section
variable {P : Program} {U : TypeId → TI} {ρ : Env} {h : Heap} {k : AV → Prop} {o : Oper}
theorem bQ {x} {d} {k} (hp:bZ ρ x d k):∃n,k n∧(x=none∧n=d∨∃q kk,x=some q∧ev ρ q=some (.v (.int kk n))):=by
 unfold bZ at hp;split at hp
 ·grind
 ·obtain ⟨A,hA,hk⟩:=an hp
  grind
def xg (x:Option Value) (d:Nat) (n:Int):Prop:=x=none∧n=d∨∃kk,x=some (.int kk n)
theorem dW {c} {m:Nat} {a} (he:aP c m ρ a) {x} {d:Nat} {n:Int} (hx:x=none∧n=d∨∃q kk,x=some q∧ev ρ q=some (.v (.int kk n))):xg (x.map a.eval) d n:=by
 rcases hx with ⟨rfl,rfl⟩|⟨q,kk,rfl,hq⟩
 ·exact .inl ⟨rfl,rfl⟩
 ·exact .inr ⟨kk,by simp [(ak he hq).aK]⟩
theorem gy {s} {len cap:Nat} {lo hi} {a b:Int} (hl:xg lo 0 a) (hh:xg hi len b) (h0:0≤a) (h1:a≤b) (h2:b≤cap) (w):
  (Instr.sliceBounds s len cap lo hi none).run P w= .ok (a.toNat,b.toNat,cap) w:=by
 have hb:0≤b∧b≤(cap:Int):=by omega
 have ha:0≤a∧a≤((b.toNat:Nat):Int):=by omega
 rcases hh with ⟨rfl,rfl⟩|⟨kh,rfl⟩<;>rcases hl with ⟨rfl,rfl⟩|⟨kl,rfl⟩<;>simp [Instr.sliceBounds,Instr.sliceBound,asIntOf,ha,hb]<;>(try (intro hh; omega))
theorem lF {s} {len cap:Nat} {lo} {a b m:Int} {kh km} (hl:xg lo 0 a) (h0:0≤a) (h1:a≤b) (h2:b≤m) (h3:m≤cap) (w):
  (Instr.sliceBounds s len cap lo (some (.int kh b)) (some (.int km m))).run P w= .ok (a.toNat,b.toNat,m.toNat) w:=by
 have hm:0≤m∧m≤(cap:Int):=by omega
 have hb:0≤b∧b≤((m.toNat:Nat):Int):=by omega
 have ha:0≤a∧a≤((b.toNat:Nat):Int):=by omega
 rcases hl with ⟨rfl,rfl⟩|⟨kl,rfl⟩<;>simp [Instr.sliceBounds,Instr.sliceBound,asIntOf,ha,hb,hm]
 ·intro hh; omega
 ·rw [if_pos (by omega),if_pos (by omega)]
theorem oY {α:Type} (xs:List α) (a b:Int) (lo hi) (h1:lo=false→a=0) (h2:hi=false→b=xs.length) (_h0:0≤a):
  iX xs a b lo hi=(xs.drop a.toNat).take (b.toNat - a.toNat):=by
 cases lo<;>cases hi<;>simp only [iX]
 ·simp_all
 ·simp_all
 ·rw [h2 rfl,List.take_of_length_le (by simp)]
theorem pV.cut {c} {xs} {p} {a} {cap sz} {val} (hs:pV c xs p a cap sz val) (i j m) (h1:i≤j) (h2:j≤xs.length)
  (h3:j≤m) (h4:m≤cap) (p') (hp:p' = .no∨p' = .full∧m=j) (s) (hsz:i*s=i*sz):
  Rep c (.sl ((xs.drop i).take (j - i)) p') (.slice (if m=i then a else a.map (·.add (i*s))) (j - i) (m - i)):=by
 have hlen:((xs.drop i).take (j - i)).length=j - i:=by grind
 have hperm:∀q,jY c q ((xs.drop i).take (j - i)).length (m - i) sz p' :=fun q=>by
  rcases hp with rfl|⟨rfl,rfl⟩
  ·trivial
  ·show m - i=_; omega
 have hcap:=hs.hm;rw [hsz]
 by_cases hmi:m=i
 ·subst hmi
  have e:j=m:=by omega
  subst e;have:=Rep.sl (c:=c) ((xs.drop j).take (j - j)) p' a 0 sz val (by simp) (by omega) (by omega) (by omega) (by omega) (by omega)
   (by omega) (by omega) (by grind)
  simpa using this
 ·rw [if_neg hmi]
  obtain ⟨q,rfl⟩:∃q,a=some q:=by
   cases a with
   |none=>have:=hs.h0 rfl; omega
   |some q=>simp
  obtain ⟨hq1,hq2⟩:=hs.hs q rfl (by omega)
  obtain ⟨bq,oq,sq⟩:=q;simp only at hq1 hq2; subst hq1
  simp only [Option.map_some,aT];have:=Rep.sl (c:=c) ((xs.drop i).take (j - i)) p' (some ⟨bq,oq+i*sz,none⟩) (m - i) sz (fun x y=>val (i+x) y) (by omega) (by omega) (by simp)
   (by grind)
   (fun x hx=>by
    have hx' :i+x<xs.length:=by omega
    simpa using hs.hz (i+x) hx')
   (fun q hq x y hx hy=>by
    cases hq;have hx' :i+x<xs.length:=by omega
    have:=hs.hf _ rfl (i+x) y hx' hy;rw [Nat.add_mul] at this;have e:oq+i*sz+(x*sz+y)=oq+(i*sz+x*sz+y):=by omega
    simp only [e];exact this)
   (fun x hx y hy=>by
    have hx' :i+x<xs.length:=by omega
    have hg:((xs.drop i).take (j - i))[x]=xs[i+x]:=by simp
    rw [hg] at hy;have:=hs.hr (i+x) hx' y hy;simpa only [hg] using this)
   (fun x y hx hy=>hs.ho (i+x) y (by omega) hy)
   (hperm _)
  rwa [hlen] at this
theorem rB {ty} {x} {lo hi mx} (hU:∀t,ax P U t) (ho:o.op= .slice ty x lo hi mx) (hp:pv U ρ h (.slice ty x lo hi mx) k):∃X,k X∧br P o ρ h X:=by
 obtain ⟨A,hA,hk⟩:=an hp;have hd:=(hU ty).desc;unfold iB at hk;split at hk
 ·rename_i l
  obtain ⟨hty,rfl,hk⟩:=hk;rw [hty] at hd;obtain ⟨i,hk1,hlo⟩:=bQ hk;obtain ⟨j,hk2,hhi⟩:=bQ hk1;obtain ⟨h0,h1,h2,hk3⟩:=hk2;refine ⟨_,hk3, .stay fun c a m hc g he=> ?_⟩
  obtain ⟨hu,hl⟩:=(ak he hA).fl;have hb:=gy (P:=P) (s:=false) (cap:=l.length) (dW he hlo) (dW he hhi) h0 h1 h2 c.w;have e:iX l i j lo.isSome hi.isSome=(l.drop i.toNat).take (j.toNat - i.toNat):=oY l i j _ _
   (fun e=>by rcases hlo with ⟨rfl,h⟩|⟨q,kk,rfl,_⟩; exact h; cases e) (fun e=>by rcases hhi with ⟨rfl,h⟩|⟨q,kk,rfl,_⟩; exact h; cases e) h0
  rw [e];refine ⟨_, ?_, .s _ (by simp; omega)⟩
  have hsz:(⟨l.toArray⟩:ByteArray).size=l.length:=rfl;simp [execOp,ho,hu,Instr.sliceAt,Instr.slice,run_underlying hd,hsz,hb,ByteArray.extract_mk]
 ·rename_i xs p
  split at hk
  ·rename_i e hty
   rw [hty] at hd;obtain ⟨hz,hcond,hk⟩:=hk;split at hk
   ·obtain ⟨i,hk1,hlo⟩:=bQ hk
    obtain ⟨j,hk2,hhi⟩:=bQ hk1;obtain ⟨h0,h1,h2,hk3⟩:=hk2;refine ⟨_,hk3, .stay fun c a m hc g he=> ?_⟩
    obtain ⟨q,cap,sz,val,hu,hs⟩:=(ak he hA).dc;have hcap:=hs.hc;have hb:=gy (P:=P) (s:=true) (cap:=cap) (dW he hlo) (dW he hhi) h0 h1 (by omega) c.w
    have e1:iX xs i j lo.isSome hi.isSome=(xs.drop i.toNat).take (j.toNat - i.toNat):=oY xs i j _ _
     (fun e=>by rcases hlo with ⟨rfl,h⟩|⟨q,kk,rfl,_⟩; exact h; cases e) (fun e=>by rcases hhi with ⟨rfl,h⟩|⟨q,kk,rfl,_⟩; exact h; cases e) h0
    have hss:i.toNat*(U e).sz=i.toNat*sz:=by
     rcases hlo with ⟨rfl,h⟩|⟨q',kk,rfl,_⟩
     ·subst h; simp
     ·by_cases hx:xs= []
      ·subst hx
       have:i.toNat=0:=by simp at h2; omega
       simp [this]
      ·have hne:0<xs.length:=List.length_pos_iff.2 hx
       have a1:=hs.hz 0 hne;have a2:=hcond rfl _ (Gv hne);rw [a2] at a1;rw [a1]
    have hrun:(execOp a.eval o).run P c.w= .ok (.value (.slice (if cap=i.toNat then q else q.map (·.add (i.toNat*(U e).sz))) (j.toNat - i.toNat) (cap - i.toNat))) c.w:=by
     simp [execOp,ho,hu,Instr.sliceAt,Instr.slice,run_underlying hd,hb,aI hU hz]
    by_cases hnn:lo.isSome=false∧hi.isSome=false
    ·obtain ⟨hn1,hn2⟩:=hnn
     have hi0:i=0:=by rcases hlo with ⟨rfl,h⟩|⟨q,kk,rfl,_⟩; exact h; cases hn1
     have hj0:j=xs.length:=by rcases hhi with ⟨rfl,h⟩|⟨q,kk,rfl,_⟩; exact h; cases hn2
     subst hi0; subst hj0
     refine ⟨_,hrun, ?_⟩;have e3:oZ xs p false false=p:=by cases xs<;>cases p<;>rfl
     simp only [hn1,hn2,iX,e3];have e2:(if cap=(0:Int).toNat then q else q.map (·.add ((0:Int).toNat*(U e).sz)))=q:=by
      split
      ·rfl
      ·cases q<;>simp [Addr.add]
     rw [e2];simpa using hs.rep
    ·refine ⟨_,hrun, ?_⟩
     rw [e1];refine hs.cut i.toNat j.toNat cap (by omega) (by omega) (by omega) (Nat.le_refl _) _ ?_ _ hss
     by_cases hE:xs= []∧p= .full
     ·obtain ⟨hx,hp⟩:=hE
      have hcp:cap=0:=by
       have:=hs.hp;rw [hp] at this;have:cap=xs.length:=this;rw [this,hx]; rfl
      have hl0:xs.length=0:=by rw [hx]; rfl
      refine .inr ⟨by rw [hx,hp]; rfl,by omega⟩
     have e4:oZ xs p lo.isSome hi.isSome=zx p lo.isSome hi.isSome:=by
      cases xs with
      |nil=>cases p with
       |full=>exact (hE ⟨rfl,rfl⟩).elim
       |no=>rfl
       |own id=>rfl
      |cons=>rfl
     rw [e4];cases h5:lo.isSome<;>cases h6:hi.isSome<;>simp only [zx]
     ·exact (hnn ⟨h5,h6⟩).elim
     ·exact .inl trivial
     ·have hj0:j=xs.length:=by rcases hhi with ⟨rfl,h⟩|⟨q,kk,rfl,_⟩; exact h; cases h6
      cases p with
      |full=>
       have:cap=xs.length:=hs.hp;exact .inr ⟨rfl,by omega⟩
      |no=>exact .inl rfl
      |own id=>exact .inl rfl
     ·exact .inl trivial
   ·rename_i mm
    obtain ⟨hhs,hk⟩:=hk;obtain ⟨i,hk1,hlo⟩:=bQ hk;obtain ⟨j,hk2,hhi⟩:=bQ hk1;obtain ⟨m3,hk3,hmx⟩:=bQ hk2;obtain ⟨h0,h1,rfl,h3,hk4⟩:=hk3;refine ⟨_,hk4, .stay fun c a m hc g he=> ?_⟩
    obtain ⟨q,cap,sz,val,hu,hs⟩:=(ak he hA).dc;have hcap:=hs.hc;obtain ⟨qh,kh,rfl,hqh⟩:∃q kk,hi=some q∧ev ρ q=some (.v (.int kk j)):=by
     rcases hhi with ⟨rfl,_⟩|h
     ·cases hhs
     ·exact h
    obtain ⟨qm,km,hqm',hqm⟩:∃q kk,some mm=some q∧ev ρ q=some (.v (.int kk j)):=by
     rcases hmx with ⟨e,_⟩|h
     ·cases e
     ·exact h
    cases hqm';have hb:=lF (P:=P) (s:=true) (len:=xs.length) (cap:=cap) (kh:=kh) (km:=km) (dW he hlo) h0 h1 (Int.le_refl j) (by omega) c.w
    have e1:iX xs i j lo.isSome true=(xs.drop i.toNat).take (j.toNat - i.toNat):=oY xs i j _ _
     (fun e=>by rcases hlo with ⟨rfl,h⟩|⟨q,kk,rfl,_⟩; exact h; cases e) (fun e=>by cases e) h0
    have hss:i.toNat*(U e).sz=i.toNat*sz:=by
     rcases hlo with ⟨rfl,h⟩|⟨q',kk,rfl,_⟩
     ·subst h; simp
     ·by_cases hx:xs= []
      ·subst hx
       have:i.toNat=0:=by simp at h3; omega
       simp [this]
      ·have hne:0<xs.length:=List.length_pos_iff.2 hx
       have a1:=hs.hz 0 hne;have a2:=hcond rfl _ (Gv hne);rw [a2] at a1;rw [a1]
    rw [e1];refine ⟨_, ?_,hs.cut i.toNat j.toNat j.toNat (by omega) (by omega) (Nat.le_refl _) (by omega) .full (.inr ⟨rfl,rfl⟩) _ hss⟩
    simp [execOp,ho,hu,Instr.sliceAt,Instr.slice,run_underlying hd,(ak he hqh).aK,(ak he hqm).aK,hb,aI hU hz]
  ·exact hk.elim
 ·rename_i id off len
  split at hk
  ·rename_i e hty
   rw [hty] at hd;obtain ⟨hz,h1z,rfl,hk⟩:=hk;obtain ⟨i,hk1,hlo⟩:=bQ hk;obtain ⟨j,hk2,hhi⟩:=bQ hk1;obtain ⟨h0,h1,h2,hk3⟩:=hk2;refine ⟨_,hk3, .stay fun c a m hc g he=> ?_⟩
   obtain ⟨cap,o',hu,hc1,hc2,ho',cs,t,hcs,hcp⟩:=(ak he hA).fh;have hb:=gy (P:=P) (s:=true) (cap:=cap) (dW he hlo) (dW he hhi) h0 h1 (by omega) c.w
   refine ⟨.slice (some ⟨(c.φ id).block,if cap=i.toNat then o' else o' +i.toNat*(U e).sz,none⟩) (j.toNat - i.toNat) (cap - i.toNat), ?_, .oa _ _ _ _ _ cs t hcs (by omega) (by omega) (fun hne=> ?_)⟩
   ·simp [execOp,ho,hu,Instr.sliceAt,Instr.slice,run_underlying hd,hb,aI hU hz,aT]
    split<;>rfl
   ·obtain ⟨e1,e2⟩:=hcp (by omega)
    rw [if_neg (by omega),e1]
    refine ⟨rfl, ?_⟩;rcases hlo with ⟨_,rfl⟩|⟨q,kk,rfl,_⟩
    ·simpa using e2
    ·rw [h1z rfl]; omega
  ·exact hk.elim
 ·rename_i id off len cap sz
  split at hk
  ·rename_i e hty
   rw [hty] at hd;obtain ⟨hz,rfl,hk⟩:=hk;split at hk
   ·obtain ⟨i,hk1,hlo⟩:=bQ hk
    obtain ⟨j,hk2,hhi⟩:=bQ hk1;obtain ⟨h0,h1,h2,hk3⟩:=hk2;refine ⟨_,hk3, .stay fun c a m hc g he=> ?_⟩
    obtain ⟨o',hu,hc1,hc2,cs,t,hcs,hcp⟩:=(ak he hA).dF;have hb:=gy (P:=P) (s:=true) (cap:=cap) (dW he hlo) (dW he hhi) h0 h1 (by omega) c.w
    refine ⟨.slice (some ⟨(c.φ id).block,if cap=i.toNat then o' else o' +i.toNat*(U e).sz,none⟩) (j.toNat - i.toNat) (cap - i.toNat), ?_, .ob _ _ _ _ _ _ cs t hcs (by omega) (by omega) (fun hne=> ?_)⟩
    ·simp [execOp,ho,hu,Instr.sliceAt,Instr.slice,run_underlying hd,hb,aI hU hz,aT]
     split<;>rfl
    ·obtain ⟨e1,e2⟩:=hcp (by omega)
     rw [if_neg (by omega),e1]
     refine ⟨rfl, ?_⟩;have:cap*(U e).sz=i.toNat*(U e).sz+(cap - i.toNat)*(U e).sz:=by rw [←Nat.add_mul]; congr 1; omega
     omega
   ·rename_i mm
    obtain ⟨hhs,hk⟩:=hk;obtain ⟨i,hk1,hlo⟩:=bQ hk;obtain ⟨j,hk2,hhi⟩:=bQ hk1;obtain ⟨m3,hk3,hmx⟩:=bQ hk2;obtain ⟨h0,h1,h2,h3,hk4⟩:=hk3;refine ⟨_,hk4, .stay fun c a m hc g he=> ?_⟩
    obtain ⟨o',hu,hc1,hc2,cs,t,hcs,hcp⟩:=(ak he hA).dF;obtain ⟨qh,kh,rfl,hqh⟩:∃q kk,hi=some q∧ev ρ q=some (.v (.int kk j)):=by
     rcases hhi with ⟨rfl,_⟩|h
     ·cases hhs
     ·exact h
    obtain ⟨qm,km,hqm',hqm⟩:∃q kk,some mm=some q∧ev ρ q=some (.v (.int kk m3)):=by
     rcases hmx with ⟨e,_⟩|h
     ·cases e
     ·exact h
    cases hqm';have hb:=lF (P:=P) (s:=true) (len:=len) (cap:=cap) (kh:=kh) (km:=km) (dW he hlo) h0 h1 h2 (by omega) c.w
    refine ⟨.slice (some ⟨(c.φ id).block,if m3.toNat=i.toNat then o' else o' +i.toNat*(U e).sz,none⟩) (j.toNat - i.toNat) (m3.toNat - i.toNat), ?_, .ob _ _ _ _ _ _ cs t hcs (by omega) (by omega) (fun hne=> ?_)⟩
    ·simp [execOp,ho,hu,Instr.sliceAt,Instr.slice,run_underlying hd,(ak he hqh).aK,(ak he hqm).aK,hb,aI hU hz,aT]
     split<;>rfl
    ·obtain ⟨e1,e2⟩:=hcp (by omega)
     rw [if_neg (by omega),e1]
     refine ⟨rfl, ?_⟩;have:i.toNat*(U e).sz+(m3.toNat - i.toNat)*(U e).sz≤cap*(U e).sz:=by rw [←Nat.add_mul]; exact Nat.mul_le_mul_right _ (by omega)
     omega
  ·exact hk.elim
 ·exact hk.elim
end
section
variable {P : Program} {U : TypeId → TI} {ρ : Env} {h : Heap} {k : AV → Prop} {o : Oper}
theorem jE (hU:∀t,ax P U t) {kt} {b} (hb:cP (U kt).k b):Maps.Keyed P kt∧∃l,keyOf P kt (dj b)=some l:=by
 have hd:=(hU kt).desc;unfold cP at hb;split at hb
 ·rename_i l hk
  rw [hk] at hd;exact ⟨Maps.string_keyed hd,_,WideMaps.keyOf_string_mk hd (s:=⟨l.toArray⟩) (by show l.toArray.size≤_; omega)⟩
 ·rename_i q q' n hk
  rw [hk] at hd;obtain ⟨rfl,hw⟩:=hb;exact ⟨Maps.int_keyed hd,_,Maps.keyOf_int_mk hd hw⟩
 ·exact hb.elim
theorem qA {tk} {b} (hb:cP tk b) {c} {u} (hr:Rep c b u):u=dj b:=by
 unfold cP at hb;split at hb
 ·exact hr.fl.1
 ·exact hr.aK
 grind
theorem gU {tk} {a b} (ha:cP tk a) (hb:cP tk b):jc a b=true↔dj a=dj b:=by
 unfold cP at ha hb;split at ha
 ·rename_i l
  split at hb
  ·rename_i l' _
   simp only [jc,dj,beq_iff_eq];simp
  ·grind
  grind
 ·rename_i q q' n
  split at hb
  ·grind
  ·rename_i q2 q2' n2 heq
   cases heq;obtain ⟨rfl,_⟩:=ha;obtain ⟨rfl,_⟩:=hb;simp only [jc,dj,beq_iff_eq];simp
  grind
 grind
theorem getM_none {tk} {m} {b} (hb:cP tk b) (hm:∀p∈m,cP tk p.1) (hn:∀p∈m,dj p.1≠dj b):getM m b=none:=by
 grind [getM,Option.map_eq_none_iff,List.find?_eq_none,gU]
theorem o5 {tk} {b} (hb:cP tk b):∀ {m:List (AV×AV)},(∀p∈m,cP tk p.1)→m.Pairwise (fun p q=>dj p.1≠dj q.1)→∀(j:Nat) (hj:j<m.length),dj m[j].1=dj b→getM m b=some m[j].2
 |p::m,hm,hd,0,hj,he=>by
  have:jc p.1 b=true:=by grind [gU]
  simp [getM,this]
 |p::m,hm,hd,j+1,hj,he=>by
  have hd' :=List.pairwise_cons.1 hd;have hj' :j<m.length:=by grind
  have he' :dj m[j].1=dj b:=he;have hne:jc p.1 b=false:=by
   cases h:jc p.1 b with
   |false=>rfl
   |true=>
    grind [gU,Gv]
  have ih:=o5 hb (by grind) hd'.2 j hj' he'
  simp only [getM,List.find?_cons,hne,List.getElem_cons_succ] at ih⊢;exact ih
theorem qn (hU:∀t,ax P U t) {kt:TypeId} {b:AV} (hb:cP (U kt).k b) {m:List (AV×AV)} (hm:∀p∈m,cP (U kt).k p.1) {es:Array MapEntry} (hs:es.size=m.length)
  (hk:∀i (h:i<m.length) (h' :i<es.size),es[i].key=dj m[i].1) (w:World):
  ((Instr.findKey kt (dj b) es.toList).run P w= .ok none w∧∀p∈m,dj p.1≠dj b)∨∃(j:Nat) (hj:j<m.length) (hj' :j<es.size),(Instr.findKey kt (dj b) es.toList).run P w= .ok (some (j,es[j].val)) w∧dj m[j].1=dj b:=by
 obtain ⟨K,l,hl⟩:=jE hU hb;have hes:∀e∈es.toList,∃l,keyOf P kt e.key=some l:=fun e he=>by
  obtain ⟨i,hi,rfl⟩:=List.mem_iff_getElem.1 he;have hi' :i<es.size:=by omega
  have:=hk i (by omega) hi'
  simp only [Array.getElem_toList];rw [this];exact (jE hU (hm _ (Gv _))).2
 rcases K.find w hl es.toList hes with ⟨h1,h2⟩|⟨j,e,h1,h2,h3⟩
 ·refine .inl ⟨h1,fun p hp=> ?_⟩
  obtain ⟨i,hi,rfl⟩:=List.mem_iff_getElem.1 hp
  grind
 ·have hj' :j<es.size:=by
   grind
  grind
theorem uU (hU:∀t,ax P U t) {e} (hz:(U e).sz≠0∨(U e).k= .strct []) (w):∃z,(zeroValue e).run P w= .ok z w∧∀c,Rep c (oU U e) z:=by
 by_cases h0:(U e).sz=0
 ·obtain ⟨i,h1,h2,_⟩:=(hU e).unit (by grind)
  refine ⟨.agg #[],by simp_all [zeroValue,typeInfo],fun c=> ?_⟩
  simp only [oU,h0,if_true];exact .agg [] #[] rfl (by simp) (by simp)
 ·obtain ⟨i,h1,_,_,z,h2,_,h3⟩:=(hU e).info h0
  simp_all [zeroValue,typeInfo,oU,if_false]
theorem pL (hU:∀t,ax P U t) {mt:TypeId} {x y:Operand} {ok:Bool} (ho:o.op= .lookup mt x y ok) (hp:pv U ρ h (.lookup mt x y ok) k):∃X,k X∧br P o ρ h X:=by
 simp only [pv] at hp;obtain ⟨A,hA,hp⟩:=an hp;obtain ⟨b,hB,hp⟩:=an hp;have hd:=(hU mt).desc;split at hp
 ·rename_i kt e id hty hp'
  clear hp';rw [hty] at hd;obtain ⟨hb,hz,hp⟩:=hp;split at hp
  ·rename_i m hid
   obtain ⟨hm,hk⟩:=hp;refine ⟨_,hk,fun c a n hs g he=> ?_⟩
   have hcid:=hs _ _ hid;obtain ⟨hu,_⟩:=(ak he hA).sw;have hv:=qA hb (ak he hB);obtain ⟨es,cl,e1,e2,e3⟩:=g.mp id m hcid;obtain ⟨K,l,hl⟩:=jE hU hb;obtain ⟨z,hz1,hz2⟩:=uU hU hz c.w;have hchk:=K.check c.w es.isEmpty hl;have hg:=g.keys id m hcid;rcases qn hU hb hm e2 (by grind) c.w with ⟨f1,f2⟩|⟨j,hj,hj',f1,f2⟩
   ·have hget:=getM_none hb hm f2
    refine ⟨if ok then .tuple #[z, .bool false] else z,c, ?_,g, .refl c,rfl, ?_⟩
    ·simp [execOp,ho,hu,hv,Instr.lookup,run_underlying hd,MapKept.run_getObj_map e1,hchk,f1,hz1]
     try rfl
    ·simp only [mW,hget]
     cases ok with
     |false=>exact hz2 c
     |true=>
      refine .tup _ _ rfl fun i hi=> ?_
      have:i=0∨i=1:=by grind
      rcases this with rfl|rfl
      ·exact hz2 c
      ·exact .v _
   ·have hget:=o5 hb hm hg j hj f2
    refine ⟨if ok then .tuple #[es[j].val, .bool true] else es[j].val,c, ?_,g, .refl c,rfl, ?_⟩
    ·simp [execOp,ho,hu,hv,Instr.lookup,run_underlying hd,MapKept.run_getObj_map e1,hchk,f1]
     try rfl
    ·simp only [mW,hget]
     cases ok with
     |false=>exact (e3 j hj hj').2
     |true=>
      refine .tup _ _ rfl fun i hi=> ?_
      have:i=0∨i=1:=by grind
      rcases this with rfl|rfl
      ·exact (e3 j hj hj').2
      ·exact .v _
  ·exact hp.elim
 ·exact hp.elim
end
section
variable {P : Program} {U : TypeId → TI} {ρ : Env} {h : Heap} {k : AV → Prop} {o : Oper}
theorem nL {c} (g:Good c) (o) (x):¬owned {c with w:=c.w.alloc o} c.w.heap.size x:=by
 rintro ⟨id,k,h1,h2,_⟩
 have:=g.lt h1;simp only at h2;omega
theorem yL {c:Cx} (g:Good c) (t:TypeId) (fr:Nat×Nat) (vs:Array Value) (xs:List AV) (sz cap:Nat) (val:Nat→Nat→Value) (hc:xs.length≤cap) (hm:cap<lim)
  (hz:∀i (h:i<xs.length),xs[i].cells.length=sz) (hv:∀i j,i<xs.length→j<sz→vs[i*sz+j]? =some (val i j))
  (hr:∀i (h:i<xs.length) j (h' :j<xs[i].cells.length),Rep c xs[i].cells[j] (val i j)) (ho:∀i j,i<xs.length→j<sz→(val i j).oneCell' =true)
  (p:Perm) (hp:p= .no∨p= .full∧cap=xs.length):
  Rep {c with w:=c.w.alloc (.cells vs t fr)} (.sl xs p) (.slice (some ⟨c.w.heap.size,0,none⟩) xs.length cap):=by
 refine .sl xs p _ cap sz val hc hm (fun e=>by cases e) (fun q hq _=>by cases hq; simp) hz (fun q hq i j hi hj=> ?_) (fun i hi j hj=>(hr i hi j hj).mono (.alloc c _)) ho ?_
 ·cases hq
  refine ⟨?_,nL g _ _⟩
  simp_all [Nat.zero_add,World.cell?_alloc_mark,trans]
 ·rcases hp with rfl|⟨rfl,rfl⟩
  ·trivial
  ·rfl
theorem mw (w) (n old) (e) (h:n<lim):n≤grownCap w n old e∧grownCap w n old e<lim:=by
 unfold grownCap;simp only [Question.cut,lim] at*;have:w.tape w.drawn (.appendCap n old e) % (2 ^ 63 - n)<2 ^ 63 - n:=Nat.mod_lt _ (by omega)
 omega
theorem nT {src dst} {x} (hU:∀t,ax P U t) (ho:o.op= .convert src dst x) (hp:pv U ρ h (.convert src dst x) k):∃X,k X∧br P o ρ h X:=by
 obtain ⟨A,hA,hk⟩:=an hp;have hd:=(hU dst).desc;have hs:=(hU src).desc;split at hk
 ·rename_i k1 kk k2 n h1 h2
  rw [h1] at hs; rw [h2] at hd
  refine ⟨_,hk, .stay fun c a m hc g he=>⟨_, ?_, .v _⟩⟩
  simp [execOp,ho,(ak he hA).aK,convert,run_underlying hs,run_underlying hd,Conv.intToInt]
 ·rename_i l h1 h2
  rw [h1] at hs; rw [h2] at hd
  refine ⟨_,hk, .stay fun c a m hc g he=>⟨_, ?_,ak he hA⟩⟩
  simp [execOp,ho,(ak he hA).fl.1,convert,run_underlying hs,run_underlying hd]
 ·rename_i e xs p h1 h2
  rw [h1] at hs; rw [h2] at hd
  split at hk
  ·rename_i h3
   have hE:=(hU e).desc;rw [h3] at hE;obtain ⟨l,rfl,hk⟩:=hk;refine ⟨_,hk, .stay fun c a m hc g he=> ?_⟩
   obtain ⟨q,cap,sz,val,hu,hs'⟩:=(ak he hA).dc;have hlen:(l.map bX).length=l.length:=by simp
   have hl:l.length<lim:=by have:=hs'.hc; have:=hs'.hm; simp only [lim] at*; omega
   cases q with
   |none=>
    have h5:=hs'.h0 rfl;have h6:=hs'.hc;have:l= []:=by
     simp_all
    subst this;refine ⟨.string ⟨#[]⟩, ?_, .s [] hl⟩;simp [execOp,ho,hu,convert,run_underlying hs,run_underlying hd,run_underlying hE,Conv.bytesToString];rfl
   |some q=>
    refine ⟨.string ⟨l.toArray⟩, ?_, .s l hl⟩;have hrun:=run_convert_bytes_back (P:=P) c.w src dst e q cap l hs hE hd (fun j hj=>by
     have hj' :j<(l.map bX).length:=by omega
     have hz:=hs'.hz j hj';simp only [Gr,bX,AV.cells,List.length_singleton] at hz;have hf:=hs'.hf q rfl j 0 hj' (by omega)
     have hr:=hs'.hr j hj' 0 (by simp [bX,AV.cells])
     simp only [Gr,bX,AV.cells,List.getElem_singleton] at hr;rw [hr.aK] at hf;obtain ⟨bq,oq,sq⟩:=q;have hsp:=(hs'.hs _ rfl (by have:=hs'.hc; omega)).1
     simp only at hsp; subst hsp
     rw [aT];have:=hf.1
     rwa [←hz,Nat.mul_one,Nat.add_zero] at this)
    rw [hlen] at hu;simp [execOp,ho,hu,hrun]
  ·exact hk.elim
 ·rename_i e l h1 h2
  rw [h1] at hs; rw [h2] at hd
  split at hk
  ·rename_i h3
   have hE:=(hU e).desc;rw [h3] at hE;refine ⟨_,hk,fun c a m hc g he=> ?_⟩
   obtain ⟨hu,hl⟩:=(ak he hA).fl;have hrun:=run_bytes_of_string (P:=P) c.w src dst e ⟨l.toArray⟩ hs hd hE;have hsz:(⟨l.toArray⟩:ByteArray).size=l.length:=rfl;rw [hsz] at hrun;obtain ⟨hcap1,hcap2⟩:=mw c.w l.length 0 e hl;generalize hcp:grownCap c.w l.length 0 e=cap at hrun hcap1 hcap2;have g1:Good {c with w:=c.w.drew}:=g.draw rfl rfl rfl rfl
   have e1:Ext c {c with w:=c.w.drew}:=Ext.draw rfl rfl rfl rfl
   refine ⟨_,{c with w:=c.w.drew.alloc (.cells (bytesRow ⟨l.toArray⟩ cap) e ((bytesRow ⟨l.toArray⟩ cap).size,(bytesRow ⟨l.toArray⟩ cap).size+1))},by simp [execOp,ho,hu,hrun]; rfl,
    g1.alloc _,e1.trans (Ext.alloc _ _),rfl, ?_⟩
   have:=yL g1 e ((bytesRow ⟨l.toArray⟩ cap).size,(bytesRow ⟨l.toArray⟩ cap).size+1) (bytesRow ⟨l.toArray⟩ cap) (l.map bX) 1 cap (fun i _=> .int .u8 ((l.getD i 0).toNat:Int)) (by grind) hcap2
    (by grind [bX,AV.cells]) (by grind [bytesRow_at]) (fun i hi j hj=>by
     have hi' :i<l.length:=by grind
     simp only [Gr,bX,AV.cells,List.length_singleton] at hj;have ej:j=0:=by omega
     subst ej;simp only [Gr,bX,AV.cells,List.getElem_singleton];rw [show l.getD i 0=l[i] by grind]
     exact .v _) (fun i j _ _=>rfl) .no (.inl rfl)
   simpa using this
  ·exact hk.elim
 ·rename_i k1 kk kf x y h1 h2
  rw [h1] at hs; rw [h2] at hd
  obtain ⟨rfl,hk⟩:=hk;refine ⟨_,hk, .stay fun c a m hc g he=>⟨_, ?_, .v _⟩⟩
  simp [execOp,ho,(ak he hA).aK,convert,run_underlying hs,run_underlying hd,Conv.complexToComplex,Conv.floatToFloat]
 ·exact hk.elim
theorem tu (off):∀(l:List Value) (k:Nat) (cells:Array Value),
  let r:=(l.zipIdx k).foldl (fun cs (x:Value×Nat)=>cs.setIfInBounds (off+x.2) x.1) cells
  r.size=cells.size∧(∀j,j<l.length→off+k+j<cells.size→r.getD (off+k+j) undef=l.getD j undef)∧
   ∀x,(x<off+k∨off+k+l.length≤x)→r.getD x undef=cells.getD x undef
 | [],k,cells=>by
  refine ⟨rfl,fun j hj=> ?_,fun _ _=>rfl⟩
  grind
 |v::l,k,cells=>by
  obtain ⟨h1,h2,h3⟩:=tu off l (k+1) (cells.setIfInBounds (off+k) v);simp only [List.zipIdx_cons,List.foldl_cons] at*;refine ⟨by grind,fun j hj hb=> ?_,fun x hx=> ?_⟩
  ·cases j with
   |zero=>
    rw [h3 _ (.inl (by omega))]
    simp_all
   |succ j=>
    grind
  ·rw [h3 x (by grind)]
   have:off+k≠x:=by grind
   simp [Array.getElem?_setIfInBounds_ne this]
theorem ou {place} {cells} {i off size} {v} {rest} (hp:place i=some (off,size)) (hv:v.cells.size=size) (hb:off+size≤cells.size):
  ∃r:Array Value,Instr.fill place cells ((i,v)::rest)=Instr.fill place r rest∧r.size=cells.size∧(∀j,j<size→r.getD (off+j) undef=v.cells.getD j undef)∧
   ∀x,(x<off∨off+size≤x)→r.getD x undef=cells.getD x undef:=by
 obtain ⟨h1,h2,h3⟩:=tu off v.cells.toList 0 cells;refine ⟨v.cells.zipIdx.foldl (fun cs (c,j)=>cs.setIfInBounds (off+j) c) cells, ?_, ?_, ?_, ?_⟩
 ·simp_all [Instr.fill,if_neg]
 ·grind [Array.toList_zipIdx]
 ·intro j hj
  rw [←Array.foldl_toList,Array.toList_zipIdx];have:=h2 j (by grind) (by omega)
  simp only [Nat.add_zero] at this;rw [this];simp [List.getD]
 grind [Array.toList_zipIdx]
theorem ql (size):∀(vs:List Value) (s:Nat) (cells:Array Value),(∀v∈vs,v.cells.size=size)→(s+vs.length)*size≤cells.size→
  ∃r:Array Value,Instr.fill (fun i=>some (i*size,size)) cells ((List.range' s vs.length).zip vs)=some r∧r.size=cells.size∧
   (∀i (h:i<vs.length) j,j<size→r.getD ((s+i)*size+j) undef=vs[i].cells.getD j undef)∧∀x,x<s*size→r.getD x undef=cells.getD x undef
 | [],s,cells,_,_=>⟨cells,by rfl,rfl,fun i h=>(by cases h),fun _ _=>rfl⟩
 |v::vs,s,cells,hv,hb=>by
  have e1:(s+(v::vs).length)*size=s*size+size+vs.length*size:=by
   grind
  obtain ⟨r1,h1,h2,h3,h4⟩:=ou (place:=fun i=>some (i*size,size)) (cells:=cells) (i:=s) (v:=v) (rest:=(List.range' (s+1) vs.length).zip vs) rfl (hv v (by simp)) (by omega)
  obtain ⟨r,h5,h6,h7,h8⟩:=ql size vs (s+1) r1 (by grind) (by grind)
  refine ⟨r, ?_,by omega,fun i hi j hj=> ?_,fun x hx=> ?_⟩
  ·grind [List.length_cons,List.range'_succ,List.zip_cons_cons]
  ·cases i with
   |zero=>
    grind
   |succ i=>
    grind
  grind
theorem Rep.fits {c} {x} {u} {n} (h:Rep c x u) (hf:fit x n):u.cells.size=n∧x.cells.length=n∧(∀j (hj:j<x.cells.length),Rep c x.cells[j] (u.cells.getD j undef))∧
  ∀j,j<n→(u.cells.getD j undef).oneCell' =true:=by
 have one:n=1→x.cells= [x]→u.oneCell' =true→u.cells.size=n∧x.cells.length=n∧(∀j (hj:j<x.cells.length),Rep c x.cells[j] (u.cells.getD j undef))∧
  ∀j,j<n→(u.cells.getD j undef).oneCell' =true:=by
  rintro rfl h1 h2
  have e:u.cells= #[u]:=by cases u<;>simp [Value.oneCell'] at h2<;>rfl
  refine ⟨by grind,by grind,fun j hj=> ?_,fun j hj=> ?_⟩
  ·have ej:j=0:=by grind
   subst ej;simpa [h1,e] using h
  simp_all
 cases x with
 |agg cs=>
  obtain ⟨vs,rfl,hn,hr,ho⟩:=h.gh;have hl:cs.length=n:=hf;exact ⟨hn.trans hl,hl,hr,fun j hj=>ho j (by omega)⟩
 |v x=>obtain ⟨h1,h2⟩:=hf; exact one h2 rfl (by rw [h.aK]; omega)
 |s l=>exact one hf rfl (by rw [h.fl.1]; rfl)
 |tup vs=>exact hf.elim
 |sl xs p=>obtain ⟨a,cap,sz,val,hu,_⟩:=h.dc; exact one hf rfl (by rw [hu]; rfl)
 |pe y off=>obtain ⟨b,p,val,hu,_⟩:=h.kI; exact one hf rfl (by rw [hu]; rfl)
 |ptr id off=>exact one hf rfl (by rw [h.dX.1]; rfl)
 |oa id off len=>obtain ⟨cap,p,hu,_⟩:=h.fh; exact one hf rfl (by rw [hu]; rfl)
 |ob id off len cap sz=>obtain ⟨p,hu,_⟩:=h.dF; exact one hf rfl (by rw [hu]; rfl)
 |ifc t y=>exact one hf rfl (by cases h; rfl)
 |mp id=>exact one hf rfl (by cases h; rfl)
 |fn f cap=>obtain ⟨vs,hu,_⟩:=h.si; exact one hf rfl (by rw [hu]; rfl)
theorem gS {n}:∀ {xs:List AV},fits n xs→∀i (h:i<xs.length),fit xs[i] n
 |y::r,h,0,_=>h.1
 |y::r,h,i+1,hi=>gS h.2 i (by grind)
theorem kN {ty} {len:Nat} {parts} (hU:∀t,ax P U t) (ho:o.op= .buildSlice ty len parts) (hp:pv U ρ h (.buildSlice ty len parts) k):∃X,k X∧br P o ρ h X:=by
 simp only [pv] at hp;have hd:=(hU ty).desc;split at hp
 ·rename_i e hty
  rw [hty] at hd;obtain ⟨hz,hle,hidx,hp⟩:=hp;obtain ⟨xs,hxs,hft,hk⟩:=bY hp;refine ⟨_,hk,fun c a m hc g he=> ?_⟩
  obtain ⟨hl1,hl2⟩:=lY he _ _ hxs;obtain ⟨i,hi1,hi2,_,z,hz1,hz2,_⟩:=(hU e).info hz;have hplen:parts.toList.length=len:=by have:=congrArg List.length hidx; simpa using this
  have hxlen:xs.length=len:=by rw [←hl1]; simpa using hplen
  let vs:List Value:=parts.toList.map (fun p=>a.eval p.2)
  have hvlen:vs.length=len:=by simp [vs]; simpa using hplen
  have hv:∀i (h1:i<xs.length) (h2:i<vs.length),Rep c xs[i] vs[i]:=fun i h1 h2=>by
   have:=hl2 i (by simp; simpa [vs] using h2) h1
   simpa [vs] using this
  have hvs:∀v∈vs,v.cells.size=(U e).sz:=fun v hv' =>by
   obtain ⟨i,hi,rfl⟩:=List.mem_iff_getElem.1 hv';exact ((hv i (by omega) hi).fits (gS hft i (by omega))).1
  obtain ⟨r,h1,h2,h3,_⟩:=ql (U e).sz vs 0 ((Array.range (len*(U e).sz)).map (fun j=>(if len*(U e).sz=0 then #[] else z.cells)[j % (if len*(U e).sz=0 then #[] else z.cells).size]!)) hvs (by simp [hvlen])
  have hparts:(parts.map fun (i,x)=>(i,a.eval x)).toList=(List.range' 0 vs.length).zip vs:=by
   rw [hvlen,←List.range_eq_range',←hidx];simp only [Array.toList_map,vs];rw [List.zip_map',List.map_eq_map_iff];intro p hp; rfl
  rw [←hparts] at h1;have hrun:(execOp a.eval o).run P c.w= .ok (.value (.slice (some ⟨c.w.heap.size,0,none⟩) len len)) (c.w.alloc (.cells r e)):=by
   by_cases h0:len*(U e).sz=0
   ·simp only [h0,if_true] at h1
    simp [execOp,ho,Instr.buildSlice,run_underlying hd,aI hU hz,h0];simp at h1;simp [h1,newRow]
    try rfl
   ·simp only [h0,if_false] at h1
    have hz0:(zeroValue e).run P c.w= .ok z c.w:=by simp [zeroValue,typeInfo,hi1,hz1]
    have h24:¬(len*(U e).sz>2 ^ 24):=by omega
    simp only [execOp,ho,Instr.buildSlice,Sem.run_bind,run_underlying hd,aI hU hz,Result.andThen_ok,h24,h0,if_false,hz0,Sem.run_pure];rw [h1];simp [newRow]
    try rfl
  refine ⟨_,{c with w:=c.w.alloc (.cells r e)},hrun,g.alloc _,Ext.alloc _ _,rfl, ?_⟩
  have:=yL g e (0,0) r xs (U e).sz len (fun i j=>r.getD (i*(U e).sz+j) undef) (by omega) (by simp only [lim]; have:len≤len*(U e).sz:=Nat.le_mul_of_pos_right _ (by omega); omega)
   (fun i hi=>by
    have:=(hv i hi (by omega)).fits (gS hft i hi)
    exact this.2.1) (fun i j hi hj=>by
    have hlt:i*(U e).sz+j<r.size:=by
     rw [h2];simp;have:(i+1)*(U e).sz≤len*(U e).sz:=Nat.mul_le_mul_right _ (by omega)
     rw [Nat.add_mul,Nat.one_mul] at this;omega
    simp [hlt]) (fun i hi j hj=>by
    have hf:=(hv i hi (by omega)).fits (gS hft i hi)
    have hj' :j<(U e).sz:=by rw [←hf.2.1]; exact hj
    have:=h3 i (by omega) j hj'
    rw [Nat.zero_add] at this;rw [this];exact hf.2.2.1 j hj) (fun i j hi hj=>by
    have hf:=(hv i hi (by omega)).fits (gS hft i hi)
    have:=h3 i (by omega) j hj
    rw [Nat.zero_add] at this;rw [this];exact hf.2.2.2 j hj) .full (.inr ⟨rfl,hxlen.symm⟩)
  rwa [hxlen] at this
 ·exact hp.elim
theorem ng (hU:∀t,ax P U t) (w):∀(l:List Field),(∀f∈l,(U f.type).sz≠0)→
  (l.mapM fun (f:Field)=>do pure (f.offset,←sizeOf f.type)).run P w= .ok (l.map fun f=>(f.offset,(U f.type).sz)) w
 | [],_=>by simp
 |f::l,h=>by
  have ih:=ng hU w l (by grind)
  simp only [List.mapM_cons,Sem.run_bind,aI hU (h f (by simp)),Result.andThen_ok,Sem.run_pure,ih,List.map_cons]
theorem lK (hz:∀p∈([]:List (Nat×TypeId)),True) {fs} (n:Nat):∀(ps:List (Nat×Operand)) (cs:List AV) (k:List AV→Prop),withps U ρ fs ps cs k→
  ∃cs',k cs'∧cs'.length=cs.length∧∀c a m,aP c m ρ a→∀cells:Array Value,cells.size=cs.length→(∀i (h:i<cs.length),Rep c cs[i] (cells.getD i undef))→(∀i,i<cs.length→(cells.getD i undef).oneCell' =true)→
   ∃r:Array Value,Instr.fill ((fs.map fun p=>(p.1,(U p.2).sz)).toArray[·]?) cells (ps.map fun p=>(p.1,a.eval p.2))=some r∧r.size=cs'.length∧
    (∀i (h:i<cs'.length),Rep c cs'[i] (r.getD i undef))∧∀i,i<cs'.length→(r.getD i undef).oneCell' =true
 | [],cs,k,hp=>⟨cs,hp,rfl,fun c a m he cells h1 h2 h3=>⟨cells,by simp [Instr.fill],h1,h2,h3⟩⟩
 |(i,x)::ps,cs,k,hp=>by
  simp only [withps] at hp;split at hp
  ·rename_i off t hf
   obtain ⟨hz0,hp⟩:=hp;obtain ⟨y,hy,hfit,hb,hp⟩:=an hp;obtain ⟨cs',hk,hl,hrest⟩:=lK hz n ps _ k hp;have hyl:y.cells.length=(U t).sz:=by
    cases y with
    |agg cs=>exact hfit
    |v x=>exact hfit.2.symm
    |tup vs=>exact hfit.elim
    |_=>exact (show _=_ from hfit).symm
   have hov:(over cs off y.cells).length=cs.length:=cY (by omega)
   refine ⟨cs',hk,by omega,fun c a m he cells h1 h2 h3=> ?_⟩
   obtain ⟨f1,f2,f3,f4⟩:=(ak he hy).fits hfit;have hpl:((fs.map fun p=>(p.1,(U p.2).sz)).toArray[i]?)=some (off,(U t).sz):=by simp [hf]
   obtain ⟨r1,g1,g2,g3,g4⟩:=ou (place:=((fs.map fun p=>(p.1,(U p.2).sz)).toArray[·]?)) (cells:=cells) (i:=i) (v:=a.eval x) (rest:=ps.map fun p=>(p.1,a.eval p.2)) hpl f1 (by omega)
   have key:∀j (hj:j<cs.length) (hj' :j<(over cs off y.cells).length),Rep c (over cs off y.cells)[j] (r1.getD j undef)∧(r1.getD j undef).oneCell' =true:=fun j hj hj' =>by
    by_cases hin:off≤j∧j<off+y.cells.length
    ·obtain ⟨q,rfl⟩:∃q,j=off+q:=⟨j - off,by omega⟩
     have hq:q<y.cells.length:=by omega
     rw [tH (by omega) hq,g3 q (by omega)]
     exact ⟨f3 q hq,f4 q (by omega)⟩
    ·rw [qP (by omega) hj (by omega),g4 j (by omega)]
     exact ⟨h2 j hj,h3 j hj⟩
   obtain ⟨r,k1,k2,k3,k4⟩:=hrest c a m he r1 (by omega) (fun j hj=>(key j (by omega) hj).1) (fun j hj=>(key j (by omega) hj).2)
   exact ⟨r,by rw [List.map_cons,g1]; exact k1,k2,k3,k4⟩
  ·exact hp.elim
theorem ry {ty} {parts} (hU:∀t,ax P U t) (ho:o.op= .build ty parts) (hp:pv U ρ h (.build ty parts) k):∃X,k X∧br P o ρ h X:=by
 simp only [pv] at hp;have hd:=(hU ty).desc
 by_cases hun:isUnit (U ty).k=true
 ·rw [if_pos hun] at hp
  have hty:=ko hun;rw [hty] at hd;obtain ⟨fields,hd,hfs,_⟩:=hd;obtain ⟨i,hi1,hi2,_⟩:=(hU ty).unit hty;have hf0:fields= #[]:=by
   simp_all
  have hp0:parts= #[]:=by grind
  refine ⟨_,hp.2, .stay fun c a m hc g he=>⟨.agg #[], ?_, .agg [] #[] rfl (by simp) (by simp)⟩⟩
  have hz4:(zeroValue ty).run P c.w= .ok (.agg #[]) c.w:=by simp_all [zeroValue,typeInfo]
  subst hf0; subst hp0
  simp [execOp,ho,Instr.build,run_underlying hd,hz4,Value.cells,Instr.fill]
 rw [if_neg hun] at hp;split at hp
 ·rename_i fs hty
  rw [hty] at hd;obtain ⟨fields,hd,hfs,hnz⟩:=hd;obtain ⟨hz,cs0,hz0,hp⟩:=hp;obtain ⟨cs,hk,hl,hX⟩:=lK (by simp) 0 _ _ _ hp
  refine ⟨_,hk, .stay fun c a m hc g he=> ?_⟩
  obtain ⟨i,hi1,hi2,_,z,hz1,hz2,hz3⟩:=(hU ty).info hz;have hzr:=hz3 c;rw [hz0] at hzr;obtain ⟨us,rfl,u1,u2,u3⟩:=hzr.gh;obtain ⟨r,r1,r2,r3,r4⟩:=hX c a m he us u1 u2 u3;refine ⟨.agg r, ?_, .agg _ _ r2 r3 r4⟩;have hz4:(zeroValue ty).run P c.w= .ok (.agg us) c.w:=by simp_all [zeroValue,typeInfo]
  have hpl:=ng (P:=P) hU c.w fields.toList (fun f hf=>by
   have:=hnz (f.offset,f.type) (by grind)
   exact this)
  have he1:(fs.map fun p=>(p.1,(U p.2).sz))=fields.toList.map fun f=>(f.offset,(U f.type).sz):=by
   rw [←hfs,List.map_map]; rfl
  rw [he1] at r1;have he2:(parts.map fun (i,x)=>(i,a.eval x)).toList=parts.toList.map fun p=>(p.1,a.eval p.2):=by simp
  simp only [execOp,ho,Instr.build,Sem.run_bind,run_underlying hd,hz4,Result.andThen_ok,Array.mapM_eq_mapM_toList,Sem.run_map,hpl,Value.cells,he2];rw [r1];simp
 ·exact hp.elim
theorem ni (hU:∀t,ax P U t) (hp:pv U ρ h o.op k):∃X,k X∧br P o ρ h X:=by
 generalize ho:o.op=op at hp;cases op
 case move x=>exact ny (.inl ho) hp
 case assign x=>exact ny (.inr ho) hp
 case pick c a b=>exact sS ho hp
 case nilCheck x=>exact nA ho hp
 case binOp=>exact ru hU ho hp
 case unOp=>exact sV ho hp
 case convert=>exact nT hU ho hp
 case field=>exact rz hU ho hp
 case extract=>exact nU ho hp
 case index=>exact rA hU ho hp
 case fieldAddr=>exact lQ hU ho hp
 case indexAddr=>exact lR hU ho hp
 case load=>exact sR hU ho hp
 case slice=>exact rB hU ho hp
 case lookup=>exact pL hU ho hp
 case buildSlice=>exact kN hU ho hp
 case build=>exact ry hU ho hp
 case makeInterface=>exact iK hU ho hp
 case makeFunc=>exact nw ho hp
 case call c=>
  obtain ⟨callee,args,ts⟩:=c;simp only [pv] at hp;split at hp
  ·rename_i x b
   cases b
   case len=>exact uJ hU ho hp
   case cap=>exact uI hU ho hp
   case min=>exact uL ho hp
   case max=>exact uK ho hp
   case real=>exact sU ho hp
   case imag=>exact sQ ho hp
   case complex=>exact sP ho hp
   all_goals exact hp.elim
  grind
 all_goals exact hp.elim
end
section
variable {P : Program} {U : TypeId → TI}
def Sized (n:Nat) (xs:List AV):Prop:=∀z∈xs,z.cells.length=n
structure Row (c:Cx) (ys:List AV) (sz:Nat) (val:Nat→Nat→Value):Prop where
 hz:∀i (h:i<ys.length),ys[i].cells.length=sz
 hr:∀i (h:i<ys.length) j (h' :j<ys[i].cells.length),Rep c ys[i].cells[j] (val i j)
 ho:∀i j,i<ys.length→j<sz→(val i j).oneCell' =true
def aM (sz n:Nat) (val:Nat→Nat→Value):List Value:=(List.range (n*sz)).map fun q=>val (q / sz) (q % sz)
theorem aA (sz n) (val):(aM sz n val).length=n*sz:=by simp [aM]
theorem cR {sz n} {val} {i j} (hi:i<n) (hj:j<sz):(aM sz n val)[i*sz+j]? =some (val i j):=by
 have hlt:i*sz+j<n*sz:=by
  have:(i+1)*sz≤n*sz:=Nat.mul_le_mul_right _ (by omega)
  rw [Nat.add_mul,Nat.one_mul] at this;omega
 have h1:(i*sz+j) / sz=i:=by
  rw [Nat.mul_comm,Nat.mul_add_div (by omega),Nat.div_eq_of_lt hj,Nat.add_zero]
 have h2:(i*sz+j) % sz=j:=by
  rw [Nat.mul_comm,Nat.mul_add_mod,Nat.mod_eq_of_lt hj]
 simp [aM,hlt,h1,h2]
theorem ug {c} {ys} {sz} {val} (h:Row c ys sz val) (hs:0<sz):∀v∈aM sz ys.length val,v.oneCell' =true:=by
 intro v hv;simp only [aM,List.mem_map,List.mem_range] at hv;obtain ⟨q,hq,rfl⟩:=hv;exact h.ho _ _ ((Nat.div_lt_iff_lt_mul hs).2 hq) (Nat.mod_lt _ hs)
def bx (xs:List AV):List AV:=(xs.map AV.cells).flatten
theorem ja (x) (xs):bx (x::xs)=x.cells++bx xs:=by rfl
theorem ov (xs ys):bx (xs++ys)=bx xs++bx ys:=by simp [bx]
theorem de {sz}:∀ {xs:List AV},Sized sz xs→(bx xs).length=xs.length*sz
 | [],_=>by simp [bx]
 |x::r,h=>by
  rw [ja,Gu,de (fun z hz=>h z (by grind)),h x (by simp),List.length_cons,Nat.add_mul,Nat.one_mul,Nat.add_comm]
theorem mL {sz}:∀ {xs:List AV} (_:Sized sz xs) (i:Nat) (hi:i<xs.length),((bx xs).drop (i*sz)).take sz=xs[i].cells
 |x::r,h,0,_=>by
  rw [ja,Nat.zero_mul,List.drop_zero];have:=h x (List.mem_cons_self ..);rw [←this]; simp
 |x::r,h,i+1,hi=>by
  have h1:=h x (List.mem_cons_self ..);have e:(x.cells++bx r).drop ((i+1)*sz)=(bx r).drop (i*sz):=by
   rw [Nat.add_mul,Nat.one_mul,Nat.add_comm,←List.drop_drop]
   grind
  rw [ja,e];exact mL (fun z hz=>h z (List.mem_cons_of_mem _ hz)) i (by grind)
theorem j8 {sz} {xs} (h:Sized sz xs) {i j} (hi:i<xs.length) (hj:j<sz):(bx xs)[i*sz+j]? =xs[i].cells[j]? :=by
 have:=congrArg (fun q=>q[j]?) (mL h i hi)
 simp only [List.getElem?_take,hj,if_true,List.getElem?_drop] at this;exact this
theorem Row.flat {c} {ys} {sz} {val} (r:Row c ys sz val) (hs:0<sz):
  (bx ys).length=ys.length*sz∧∀j (h:j<(bx ys).length),Rep c (bx ys)[j] ((aM sz ys.length val).getD j undef)∧((aM sz ys.length val).getD j undef).oneCell' =true:=by
 have hsz:Sized sz ys:=fun z hz=>by
  obtain ⟨i,hi,rfl⟩:=List.mem_iff_getElem.1 hz;exact r.hz i hi
 have hl:=de hsz;refine ⟨hl,fun j h=> ?_⟩
 have h1:j / sz<ys.length:=by simp_all [Nat.div_lt_iff_lt_mul]
 have h2:j % sz<sz:=Nat.mod_lt _ hs;have e:j / sz*sz+j % sz=j:=by grind [Nat.mul_comm,Nat.div_add_mod]
 have g1:=j8 hsz h1 h2;have g2:=cR (val:=val) h1 h2;rw [e] at g1 g2;have hc:j % sz<(ys[j / sz]).cells.length:=by grind
 rw [List.getElem?_eq_getElem h,List.getElem?_eq_getElem hc] at g1;rw [Option.some.inj g1,List.getD_eq_getElem?_getD,g2];exact ⟨r.hr _ h1 _ hc,r.ho _ _ h1 h2⟩
def eD (U:TypeId→TI) (e:TypeId) (h:Heap) (y:AV) (k:List AV→Prop):Prop:=
 match y with
 | .sl ys _=>k ys
 | .s l=>(U e).k= .int .u8∧(U e).sz=1∧k (l.map bX)
 | .oa id off len=>(U e).sz=1∧match h id with
  |some (.obj cs _)=>off+len≤cs.length∧(∀x∈(cs.drop off).take len,x.cells.length=1)∧(∀x∈(cs.drop off).take len,aU x=false)∧k ((cs.drop off).take len)
  |_=>False
 | .ob id off len _ sz=>sz=(U e).sz∧match h id with
  |some (.obj cs _)=>∃ys:List AV,ys.length=len∧off+len*sz≤cs.length∧bx ys=(cs.drop off).take (len*sz)∧k ys
  |_=>False
 |_=>False
theorem hO {e} {h} {y} {k} (hz:(U e).sz≠0) (hk:eD U e h y k):
  ∃ys,k ys∧∀c u,Sub h c.h→Good c→Rep c y u→Sized (U e).sz ys→ys.length<lim∧∃val,Row c ys (U e).sz val∧(∀w,(Builtin.lenOf u).run P w= .ok ys.length w)∧
   (Builtin.firstCells (U e).sz ys.length u).run P c.w= .ok (aM (U e).sz ys.length val).toArray c.w:=by
 unfold eD at hk;split at hk
 ·rename_i ys p
  refine ⟨ys,hk,fun c u hs g hr hsz=> ?_⟩
  obtain ⟨a,cap,sz,val,hu,hsl⟩:=hr.dc;have hcm:=hsl.hc;have hmm:=hsl.hm;refine ⟨by omega, ?_⟩
  rw [hu]
  by_cases hy:ys= []
  ·subst hy
   refine ⟨val,⟨fun i hi=>(by grind),fun i hi=>(by grind),fun i j hi=>(by grind)⟩,fun w=>by rfl, ?_⟩
   cases a with
   |none=>simp [Builtin.firstCells,aM]
   |some q=>simp [Builtin.firstCells,aM,loadCells,loadCellsFrom]
  ·have hne:0<ys.length:=List.length_pos_iff.2 hy
   have hsz' :sz=(U e).sz:=by
    rw [←hsl.hz 0 hne];exact hsz _ (Gv hne)
   subst hsz';obtain ⟨q,rfl⟩:∃q,a=some q:=by
    cases a with
    |none=>have:=hsl.h0 rfl; omega
    |some q=>simp
   obtain ⟨hq1,hq2⟩:=hsl.hs q rfl (by omega)
   obtain ⟨bq,oq,sq⟩:=q;simp only at hq1 hq2; subst hq1
   refine ⟨val,⟨hsl.hz,hsl.hr,hsl.ho⟩,fun w=>by rfl, ?_⟩
   have:=run_loadCells (P:=P) c.w ⟨bq,oq,none⟩ (ys.length*(U e).sz) (fun q=>val (q / (U e).sz) (q % (U e).sz)) (fun j hj=>by
    have h1:j / (U e).sz<ys.length:=(Nat.div_lt_iff_lt_mul (by omega)).2 hj
    have h2:j % (U e).sz<(U e).sz:=Nat.mod_lt _ (by omega)
    have:=(hsl.hf _ rfl _ _ h1 h2).1;rw [aT]
    rwa [show j / (U e).sz*(U e).sz+j % (U e).sz=j from by grind [Nat.mul_comm,Nat.div_add_mod]] at this)
   simpa [Builtin.firstCells,aM] using this
 ·rename_i l
  obtain ⟨hty,h1,hk⟩:=hk;refine ⟨_,hk,fun c u hs g hr hsz=> ?_⟩
  obtain ⟨rfl,hl⟩:=hr.fl;refine ⟨by grind,fun i _=> .int .u8 ((l.getD i 0).toNat:Int),⟨fun i hi=> ?_,fun i hi j hj=> ?_,fun _ _ _ _=>rfl⟩,fun w=>by simp [Builtin.lenOf]; rfl, ?_⟩
  ·exact hsz _ (Gv hi)
  ·have hi' :i<l.length:=by grind
   simp only [Gr,bX,AV.cells,List.length_singleton] at hj;have ej:j=0:=by omega
   subst ej;simp only [Gr,bX,AV.cells,List.getElem_singleton];rw [show l.getD i 0=l[i] by grind]
   exact .v _
  ·rw [h1]
   simp only [Builtin.firstCells,Gq,Sem.run_pure]
   congr 1
   grind [Array.ext,aM,ByteArray.extract_mk]
 ·rename_i id off len
  obtain ⟨h1,hk⟩:=hk;split at hk
  ·rename_i cs t hid
   obtain ⟨hle,hone,hna,hk⟩:=hk;refine ⟨_,hk,fun c u hs g hr hsz=> ?_⟩
   obtain ⟨cap,o',rfl,hc1,hc2,hoff,_⟩:=hr.fh;obtain ⟨vs,v1,v2,v3⟩:=g.obj id cs t (hs _ _ hid);have hlen:((cs.drop off).take len).length=len:=by grind
   refine ⟨by omega,fun i _=>vs.getD (off+i) undef,⟨fun i hi=>hsz _ (Gv hi),fun i hi j hj=> ?_,fun i j hi hj=>(v3 (off+i) (by omega)).2⟩,fun w=>by simp_all [Builtin.lenOf], ?_⟩
   ·have hcell:((cs.drop off).take len)[i].cells= [((cs.drop off).take len)[i]]:=by
     have hx:=hna _ (Gv hi);generalize ((cs.drop off).take len)[i]=x at hx;cases x<;>simp [aU] at hx<;>rfl
    have hj' :=hj;rw [hcell] at hj';have ej:j=0:=by grind
    subst ej;have e1:((cs.drop off).take len)[i].cells[0]=cs[off+i]'(by omega):=by
     grind
    rw [e1];exact (v3 (off+i) (by omega)).1
   ·rw [h1,hlen]
    by_cases h0:len=0
    ·simp_all [Builtin.firstCells,aM,loadCells,loadCellsFrom]
    ·obtain rfl:=hoff h0
     have:=run_loadCells (P:=P) c.w ⟨(c.φ id).block,o',none⟩ (len*1) (fun q=>vs.getD (o' +q / 1) undef) (fun j hj=>by
      rw [aT];have:o' +j<vs.size:=by omega
      simp [World.cell?,v1,this])
     simpa [Builtin.firstCells,aM] using this
  grind
 ·rename_i id off len cap0 sz
  obtain ⟨rfl,hk⟩:=hk;split at hk
  ·rename_i cs t hid
   obtain ⟨ys,rfl,hle,hfl,hk⟩:=hk;refine ⟨ys,hk,fun c u hs g hr hsz=> ?_⟩
   obtain ⟨o',rfl,hc1,hc2,cs',t',hcs',hcp⟩:=hr.dF;have hcid:=hs _ _ hid;rw [hcid] at hcs';cases hcs';obtain ⟨vs,v1,v2,v3⟩:=g.obj id cs t hcid;have hbd:∀i j,i<ys.length→j<(U e).sz→i*(U e).sz+j<ys.length*(U e).sz:=fun i j hi hj=>by
    have:(i+1)*(U e).sz≤ys.length*(U e).sz:=Nat.mul_le_mul_right _ (by omega)
    rw [Nat.add_mul,Nat.one_mul] at this;omega
   refine ⟨by omega,fun i j=>vs.getD (off+(i*(U e).sz+j)) undef,⟨fun i hi=>hsz _ (Gv hi),fun i hi j hj=> ?_,fun i j hi hj=>(v3 (off+(i*(U e).sz+j)) (by grind)).2⟩,fun w=>by rfl, ?_⟩
   ·have hj' :j<(U e).sz:=by rw [←hsz _ (Gv hi)]; omega
    have hb:=hbd i j hi hj';have g1:=j8 hsz hi hj';rw [hfl,List.getElem?_take,if_pos hb,List.getElem?_drop,List.getElem?_eq_getElem (by omega),List.getElem?_eq_getElem hj] at g1
    rw [←Option.some.inj g1];exact (v3 _ (by omega)).1
   ·by_cases h0:ys.length=0
    ·simp_all [Builtin.firstCells,aM,loadCells,loadCellsFrom]
    ·obtain ⟨rfl,_⟩:=hcp (by omega)
     have:=run_loadCells (P:=P) c.w ⟨(c.φ id).block,o',none⟩ (ys.length*(U e).sz) (fun q=>vs.getD (o' +(q / (U e).sz*(U e).sz+q % (U e).sz)) undef) (fun j hj=>by
      rw [aT,show j / (U e).sz*(U e).sz+j % (U e).sz=j from by grind [Nat.mul_comm,Nat.div_add_mod]]
      have:o' +j<vs.size:=by omega
      simp [World.cell?,v1,this])
     simpa [Builtin.firstCells,aM] using this
  grind
 grind
def bw (z:AV) (n sz:Nat):List AV:=(List.range (n*sz)).map fun q=>z.cells.getD (q % sz) default
def fG (h:Heap) (cs:List AV) (n sz:Nat) (e:TypeId) (Q:AV→Heap→Prop):Prop:=
 ∀id cap rest,h id=none→n≤cap→rest.length=(cap - n)*sz→Q (.ob id 0 n cap sz) (upd h id (some (.obj (cs++rest) e)))
def ig (U:TypeId→TI) (h:Heap) (ts:TypeId) (x y:AV) (Q:AV→Heap→Prop):Prop:=
 match (U ts).k with
 | .slice e=>(U e).sz≠0∧(U e).bytes≠0∧match x with
  | .sl xs p=>eD U e h y fun ys=>Sized (U e).sz xs∧Sized (U e).sz ys∧(xs.length+ys.length)*(U e).bytes≤140737488355328∧match p with
   | .no=>False
   | .full=>(ys= []→Q (.sl xs .full) h)∧(ys≠ []→(∀id,h id=none→Q (.sl (xs++ys) (.own id)) (upd h id (some (.spare (xs.length+ys.length) (U e).sz))))∨
     ((U e).sz=1∧fit (U e).zero 1∧aU (U e).zero=false∧(∀z∈xs++ys,aU z=false)∧∀id m,h id=none→Q (.oa id 0 (xs.length+ys.length)) (upd h id (some (.obj (xs++ys++List.replicate m (U e).zero) e))))∨
     (fit (U e).zero (U e).sz∧fG h (bx xs++bx ys) (xs.length+ys.length) (U e).sz e Q))
   | .own id=>h id=some (.spare xs.length (U e).sz)∧Q (.sl (xs++ys) (.own id)) (upd h id (some (.spare (xs.length+ys.length) (U e).sz)))
  | .oa id off len=>(U e).sz=1∧eD U e h y fun ys=>Sized 1 ys∧(∀z∈ys,aU z=false)∧(len+ys.length)*(U e).bytes≤140737488355328∧match h id with
   |some (.obj cs t)=>off+len≤cs.length∧(∀z∈(cs.drop off).take len,aU z=false)∧fit (U e).zero 1∧aU (U e).zero=false∧
     (off+(len+ys.length)≤cs.length→Q (.oa id off (len+ys.length)) (upd h id (some (.obj (over cs (off+len) ys) t))))∧
     (∀id' m,h id' =none→Q (.oa id' 0 (len+ys.length)) (upd h id' (some (.obj ((cs.drop off).take len++ys++List.replicate m (U e).zero) e))))
   |_=>False
  | .ob id off len cap sz=>sz=(U e).sz∧eD U e h y fun ys=>Sized (U e).sz ys∧(len+ys.length)*(U e).bytes≤140737488355328∧match h id with
   |some (.obj cs t)=>off+len*(U e).sz≤cs.length∧fit (U e).zero (U e).sz∧
     (len+ys.length≤cap→Q (.ob id off (len+ys.length) cap (U e).sz) (upd h id (some (.obj (over cs (off+len*(U e).sz) (bx ys)) t))))∧
     (cap<len+ys.length→fG h ((cs.drop off).take (len*(U e).sz)++bx ys) (len+ys.length) (U e).sz e Q)
   |_=>False
  |_=>False
 |_=>False
def rN (U:TypeId→TI) (h:Heap) (ts:TypeId) (x y:AV) (Q:AV→Heap→Prop):Prop:=
 match (U ts).k with
 | .slice e=>match x with
  | .ob id off len cap sz=>match y with
   | .v (.int _ n)=>(U e).sz≠0∧(U e).bytes≠0∧sz=(U e).sz∧0<n∧(len+n.toNat)*(U e).bytes≤140737488355328∧fit (U e).zero (U e).sz∧cap<len+n.toNat∧match h id with
    |some (.obj cs _)=>off+len*(U e).sz≤cs.length∧fG h ((cs.drop off).take (len*(U e).sz)++bw (U e).zero n.toNat (U e).sz) (len+n.toNat) (U e).sz e Q
    |_=>False
   |_=>False
  |_=>False
 |_=>False
def apT (A B:Prop) (tk:TK):Prop:=match tk with
 | .int _=>B
 | .slice _| .str=>A
 |_=>False
theorem Sub.upd {h h'} (hs:Sub h h') (id) (k):Sub (upd h id k) (upd h' id k):=by
 intro j l hj
 by_cases e:j=id
 ·grind [ag]
 ·rw [af _ _ e] at hj⊢; exact hs _ _ hj
def vX:TK→Bool
 | .slice _| .str=>true
 |_=>false
theorem fB {ts tx ty e:TypeId} {i:TypeInfo} {w:World} {base:Option Addr} {n cap m:Nat} {v:Value} {news:List Value}
  (ht:P.underlying ts=some (.slice e)) (hx:(∃d,P.underlying tx=some (.slice d))∨P.underlying tx=some .string) (hi:P.info? e=some i)
  (hlen:(Builtin.lenOf v).run P w= .ok m w) (hf:(Builtin.firstCells i.size m v).run P w= .ok news.toArray w) (hroom:n+m≤cap):
  (Builtin.append_ #[ts,tx] ty #[.slice base n cap,v]).run P w=((match base with|some a=>storeCells (a.add (n*i.size)) news|none=>pure ()).run P w).andThen fun _ w' => .ok (.slice base (n+m) cap) w' :=by
 rcases hx with ⟨d,hx⟩|hx<;>cases base<;>simp [Builtin.append_,run_underlying ht,run_underlying hx,sizeOf,typeInfo,hi,hlen,hroom,hf]
theorem fA {ts tx ty e:TypeId} {i:TypeInfo} {z:Value} {w:World} {base:Option Addr} {n cap m:Nat} {v:Value} {olds news:List Value}
  (ht:P.underlying ts=some (.slice e)) (hx:(∃d,P.underlying tx=some (.slice d))∨P.underlying tx=some .string) (hi:P.info? e=some i) (hz:i.zero=some z)
  (hlen:(Builtin.lenOf v).run P w= .ok m w) (h3:(Builtin.firstCells i.size m v).run P w.drew= .ok news.toArray w.drew)
  (h4:(Builtin.firstCells i.size n (.slice base n cap)).run P w.drew= .ok olds.toArray w.drew)
  (hgrow:cap<n+m) (hb:(n+m)*i.bytes≤140737488355328) (hb0:i.bytes≠0):
  (Builtin.append_ #[ts,tx] ty #[.slice base n cap,v]).run P w=
   .ok (.slice (some ⟨w.heap.size,0,none⟩) (n+m) (grownCap w (n+m) cap e)) (w.drew.alloc (.cells (olds.toArray++news.toArray++Builtin.zeroCells z.cells (grownCap w (n+m) cap e - (n+m))) e)):=by
 have h1:¬(n+m≤cap):=by omega
 have h2:¬(Builtin.nextslicecap (n+m) cap*i.bytes>2 ^ 48):=by
  simp_all [growslice_fits]
 have hz0:(zeroValue e).run P w.drew= .ok z w.drew:=by simp_all [zeroValue,typeInfo]
 have hfo:(Question.appendCap (n+m) cap e).forced=false:=rfl;rcases hx with ⟨d,hx⟩|hx<;>
 ·simp [Builtin.append_,run_underlying ht,run_underlying hx,sizeOf,typeInfo,hi,hlen,h1,h2,hb0,h3,h4,hz0,newRow,hfo,grownCap, -Array.append_assoc]
  try rfl
end
section
variable {P : Program} {U : TypeId → TI}
def bV (c:Cx) (Q:AV→Heap→Prop) (u:Value) (w' :World):Prop:=
 ∃c' x h',c'.w=w'∧Good c'∧Ext c c'∧Rep c' x u∧Sub h' c'.h∧Q x h'
theorem ec {z} (h:aU z=false):z.cells= [z]:=by
 cases z<;>simp [aU] at h<;>rfl
theorem di {c} {h} {id off} {cs xs} {t} {vs} {u} {X} {Q} (hs:Sub h c.h) (g:Good c) (hid:h id=some (.obj cs t)) (hl:vs.length=xs.length) (hb:off+xs.length≤cs.length)
  (hr:∀j (h:j<xs.length),Rep c xs[j] (vs.getD j undef)∧(vs.getD j undef).oneCell' =true) (hX:∀c',Ext c c'→Rep c' X u) (hQ:Q X (upd h id (some (.obj (over cs off xs) t)))):
  (storeCells ⟨(c.φ id).block,off,none⟩ vs).run P c.w= .ok () (c.w.setCells (c.φ id).block off vs)∧bV c Q u (c.w.setCells (c.φ id).block off vs):=by
 have hcid:=hs _ _ hid;obtain ⟨us,u1,u2,u3⟩:=g.obj id cs t hcid;have hE:=Ext.fill (c:=c) id off vs (.obj cs t) (.obj (over cs off xs) t) hcid (Nat.zero_le _) (.inl ⟨_,_,_,rfl,rfl,cY (by omega)⟩)
 refine ⟨?_,c.fill id off vs (.obj (over cs off xs) t),X,_,rfl,g.xC id off vs cs xs t hcid hl hb hr,hE,hX _ hE,hs.upd id _,hQ⟩;have:=run_storeCells_cells (P:=P) (c.φ id).block off vs 0 c.w (by grind [World.cell?]) (by grind [World.frozen?]) (fun v hv=>by
   obtain ⟨j,hj,rfl⟩:=List.mem_iff_getElem.1 hv
   grind)
 simpa using this
theorem nK {h} {ts tx ty e} {y} {Q} {i} {z} {xs ys} {vx} {a} {cap}
  (hd:P.underlying ts=some (.slice e)) (htx' :(∃d,P.underlying tx=some (.slice d))∨P.underlying tx=some .string) (i1:P.info? e=some i) (i2:i.size=(U e).sz) (i3:i.bytes=(U e).bytes)
  (z1:i.zero=some z) (z2:z.cells.size=(U e).sz) (z3:∀c,Rep c (U e).zero z) (c) (v) (hs:Sub h c.h) (g:Good c) (hy:Rep c y v)
  (hsrc:∀c u,Sub h c.h→Good c→Rep c y u→Sized (U e).sz ys→ys.length<lim∧∃val,Row c ys (U e).sz val∧(∀w,(Builtin.lenOf u).run P w= .ok ys.length w)∧
   (Builtin.firstCells (U e).sz ys.length u).run P c.w= .ok (aM (U e).sz ys.length val).toArray c.w)
  (hsy:Sized (U e).sz ys) (hb:(xs.length+ys.length)*(U e).bytes≤140737488355328) (hby:(U e).bytes≠0) (hbyte:xs.length+ys.length<lim) (rowx:Row c xs (U e).sz vx)
  (holds:(Builtin.firstCells i.size xs.length (.slice a xs.length cap)).run P c.w.drew= .ok (aM (U e).sz xs.length vx).toArray c.w.drew) (hgr:cap<xs.length+ys.length)
  (hz1:(U e).sz=1) (hzf:fit (U e).zero 1) (hza:aU (U e).zero=false) (hna:∀z∈xs++ys,aU z=false)
  (hQ:∀id m,h id=none→Q (.oa id 0 (xs.length+ys.length)) (upd h id (some (.obj (xs++ys++List.replicate m (U e).zero) e)))):
  ∃r w',(Builtin.append_ #[ts,tx] ty #[.slice a xs.length cap,v]).run P c.w= .ok r w'∧bV c Q r w' :=by
 have hfr:∀id,c.h id=none→h id=none:=fun id hid=>by
  cases hh:h id with
  |none=>rfl
  |some k=>rw [hs _ _ hh] at hid; omega
 obtain ⟨id,hid⟩:=g.fresh;have g1:Good {c with w:=c.w.drew}:=g.draw rfl rfl rfl rfl
 have e1:Ext c {c with w:=c.w.drew}:=Ext.draw rfl rfl rfl rfl
 obtain ⟨_,vy,rowy,hlen,hfirst⟩:=hsrc {c with w:=c.w.drew} v hs g1 (hy.mono e1) hsy
 rw [←i2] at hfirst;have hr:=fA (ty:=ty) hd htx' i1 z1 (hlen c.w) hfirst holds (by omega) (by grind) (by omega)
 obtain ⟨hcap1,hcap2⟩:=mw c.w (xs.length+ys.length) cap e hbyte;generalize hcp:grownCap c.w (xs.length+ys.length) cap e=ncap at hr hcap1 hcap2;generalize hcells:(aM (U e).sz xs.length vx).toArray++(aM i.size ys.length vy).toArray++Builtin.zeroCells z.cells (ncap - (xs.length+ys.length))=cells at hr;rw [i2,hz1] at hcells;rw [hz1] at rowx rowy z2;have hcs:cells.size=ncap:=by
  grind [Array.size_append,List.size_toArray,aA,size_zeroCells]
 obtain ⟨f1,f2,f3,f4⟩:=(z3 {c with w:=c.w.drew}).fits hzf
 have hzc:=ec hza;refine ⟨_,_,hr,({c with w:=c.w.drew}:Cx).ai (.cells cells e) id ⟨c.w.heap.size,0,none⟩ (.obj (xs++ys++List.replicate (ncap - (xs.length+ys.length)) (U e).zero) e),_,_,rfl, ?_,
  e1.trans (Ext.ai _ _ id _ _ rfl (.inl hid)), ?_,hs.upd id _,hQ id _ (hfr id hid)⟩
 ·refine g1.ai _ _ (0,0) id _ _ rfl (.inl hid) (fun cs t' hh=> ?_) (fun n sz hh=>by simp)
  cases hh;refine ⟨rfl,rfl,by grind,fun j hj=> ?_⟩
  have hj' :j<ncap:=by grind
  by_cases hj1:j<xs.length
  ·have e2:(xs++ys++List.replicate (ncap - (xs.length+ys.length)) (U e).zero)[j]=xs[j]:=by
    grind
   have e3:cells.getD j undef=vx j 0:=by
    have h5:=cR (val:=vx) hj1 (show 0<1 by omega)
    rw [Nat.mul_one,Nat.add_zero] at h5;rw [←hcells,Array.getD_eq_getD_getElem?,Array.getElem?_append_left (by grind),Array.getElem?_append_left (by grind)]
    simp [h5]
   rw [e2,e3];have hc1:=ec (hna xs[j] (List.mem_append_left _ (Gv hj1)));have:=rowx.hr j hj1 0 (by grind)
   simp only [hc1,List.getElem_cons_zero] at this;exact ⟨this.mono e1,rowx.ho j 0 hj1 (by omega)⟩
  ·by_cases hj2:j<xs.length+ys.length
   ·have hj3:j - xs.length<ys.length:=by omega
    have e2:(xs++ys++List.replicate (ncap - (xs.length+ys.length)) (U e).zero)[j]=ys[j - xs.length]:=by
     grind
    have e3:cells.getD j undef=vy (j - xs.length) 0:=by
     have h5:=cR (val:=vy) hj3 (show 0<1 by omega)
     rw [Nat.mul_one,Nat.add_zero] at h5;rw [←hcells,Array.getD_eq_getD_getElem?,Array.getElem?_append_left (by grind [aA]),Array.getElem?_append_right (by grind [aA])]
     simp [aA,h5]
    rw [e2,e3];have hc1:=ec (hna ys[j - xs.length] (List.mem_append_right _ (Gv hj3)));have:=rowy.hr (j - xs.length) hj3 0 (by grind)
    simp only [hc1,List.getElem_cons_zero] at this;exact ⟨this,rowy.ho _ 0 hj3 (by omega)⟩
   ·have e2:(xs++ys++List.replicate (ncap - (xs.length+ys.length)) (U e).zero)[j]=(U e).zero:=by
     grind
    have e3:cells.getD j undef=z.cells.getD 0 undef:=by
     rw [←hcells,Array.getD_eq_getD_getElem?,Array.getElem?_append_right (by grind [aA])]
     have h6:j - (xs.length+ys.length)<ncap - (xs.length+ys.length):=by omega
     simp only [Array.size_append,List.size_toArray,aA,Nat.mul_one,Builtin.zeroCells,z2,Array.getElem?_map,Array.getElem?_range,h6,if_true,Option.map_some,Option.getD_some,Nat.mod_one];rw [getElem!_pos z.cells 0 (by omega),Array.getD,dif_pos (show 0<z.cells.size by omega)]
     rfl
    rw [e2,e3];have:=f3 0 (by omega)
    simp only [hzc,List.getElem_cons_zero] at this;exact ⟨this,f4 0 (by omega)⟩
 ·have:=Rep.oa (c:=({c with w:=c.w.drew}:Cx).ai (.cells cells e) id ⟨c.w.heap.size,0,none⟩ (.obj (xs++ys++List.replicate (ncap - (xs.length+ys.length)) (U e).zero) e)) id 0 (xs.length+ys.length) ncap 0 _ e
   (by simp [Cx.ai,ag]; rfl) (by omega) hcap2 (fun _=>⟨rfl,by grind⟩)
  simpa [Cx.ai,ag] using this
theorem lg {h:Heap} {e:TypeId} {Q:AV→Heap→Prop} {z:Value} {cx dy:List AV} {ox news:List Value} {m k cap:Nat}
  (z2:z.cells.size=(U e).sz) (z3:∀c,Rep c (U e).zero z) (c:Cx) (hs:Sub h c.h) (g:Good c)
  (hbyte:m+k<lim)
  (hl:cx.length=m*(U e).sz) (hl2:ox.length=m*(U e).sz) (hro:∀j (h:j<cx.length),Rep c cx[j] (ox.getD j undef)∧(ox.getD j undef).oneCell' =true)
  (hly:dy.length=k*(U e).sz) (hln:news.length=k*(U e).sz) (hry:∀j (h:j<dy.length),Rep {c with w:=c.w.drew} dy[j] (news.getD j undef)∧(news.getD j undef).oneCell' =true)
  (hzs:(U e).sz≠0) (hzf:fit (U e).zero (U e).sz) (hQ:fG h (cx++dy) (m+k) (U e).sz e Q):
  bV c Q (.slice (some ⟨c.w.heap.size,0,none⟩) (m+k) (grownCap c.w (m+k) cap e)) (c.w.drew.alloc (.cells (ox.toArray++news.toArray++Builtin.zeroCells z.cells (grownCap c.w (m+k) cap e - (m+k))) e)):=by
 have hfr:∀id,c.h id=none→h id=none:=fun id hid=>by
  cases hh:h id with
  |none=>rfl
  |some k=>rw [hs _ _ hh] at hid; omega
 obtain ⟨id,hid⟩:=g.fresh;have g1:Good {c with w:=c.w.drew}:=g.draw rfl rfl rfl rfl
 have e1:Ext c {c with w:=c.w.drew}:=Ext.draw rfl rfl rfl rfl
 obtain ⟨hcap1,hcap2⟩:=mw c.w (m+k) cap e hbyte;generalize hcp:grownCap c.w (m+k) cap e=ncap at hcap1 hcap2⊢;generalize hcells:ox.toArray++news.toArray++Builtin.zeroCells z.cells (ncap - (m+k))=cells;have hmul:ncap*(U e).sz=m*(U e).sz+k*(U e).sz+(ncap - (m+k))*(U e).sz:=by
  rw [←Nat.add_mul,←Nat.add_mul]; grind
 have hcs:cells.size=ncap*(U e).sz:=by
  grind [Array.size_append,List.size_toArray,size_zeroCells]
 obtain ⟨f1,f2,f3,f4⟩:=(z3 {c with w:=c.w.drew}).fits hzf
 have hzl:(bw (U e).zero (ncap - (m+k)) (U e).sz).length=(ncap - (m+k))*(U e).sz:=by simp [bw]
 refine ⟨({c with w:=c.w.drew}:Cx).ai (.cells cells e) id ⟨c.w.heap.size,0,none⟩ (.obj (cx++dy++bw (U e).zero (ncap - (m+k)) (U e).sz) e),_,_,rfl, ?_,
  e1.trans (Ext.ai _ _ id _ _ rfl (.inl hid)), ?_,hs.upd id _,hQ id ncap _ (hfr id hid) hcap1 hzl⟩
 ·refine g1.ai _ _ (0,0) id _ _ rfl (.inl hid) (fun cs t' hh=> ?_) (fun n sz hh=>by simp)
  cases hh;have hcz:cells.size=(cx++dy++bw (U e).zero (ncap - (m+k)) (U e).sz).length:=by
   grind
  refine ⟨rfl,rfl,hcz,fun j hj=> ?_⟩
  have hj' :j<cells.size:=by omega
  by_cases hj1:j<cx.length
  ·have e2:(cx++dy++bw (U e).zero (ncap - (m+k)) (U e).sz)[j]=cx[j]:=by
    grind
   have e3:cells.getD j undef=ox.getD j undef:=by
    rw [←hcells,Array.getD_eq_getD_getElem?,Array.getElem?_append_left (by grind),Array.getElem?_append_left (by grind)]
    simp
   rw [e2,e3];exact ⟨(hro j hj1).1.mono e1,(hro j hj1).2⟩
  ·by_cases hj2:j<cx.length+dy.length
   ·have hj3:j - cx.length<dy.length:=by omega
    have e2:(cx++dy++bw (U e).zero (ncap - (m+k)) (U e).sz)[j]=dy[j - cx.length]:=by
     grind
    have e3:cells.getD j undef=news.getD (j - cx.length) undef:=by
     rw [←hcells,Array.getD_eq_getD_getElem?,Array.getElem?_append_left (by grind),Array.getElem?_append_right (by grind)]
     grind
    rw [e2,e3];exact hry _ hj3
   ·have hj4:j - (cx.length+dy.length)<(ncap - (m+k))*(U e).sz:=by omega
    have hmod:(j - (cx.length+dy.length)) % (U e).sz<(U e).sz:=Nat.mod_lt _ (by omega)
    have e2:(cx++dy++bw (U e).zero (ncap - (m+k)) (U e).sz)[j]=(U e).zero.cells[(j - (cx.length+dy.length)) % (U e).sz]'(by omega):=by
     grind [List.getElem_append_right,bw]
    have e3:cells.getD j undef=z.cells.getD ((j - (cx.length+dy.length)) % (U e).sz) undef:=by
     rw [←hcells,Array.getD_eq_getD_getElem?,Array.getElem?_append_right (by grind)]
     have h5:j - (ox.toArray++news.toArray).size=j - (cx.length+dy.length):=by grind
     rw [h5];have h6:(j - (cx.length+dy.length)) % (U e).sz<z.cells.size:=by omega
     simp only [Builtin.zeroCells,z2,Array.getElem?_map,Array.getElem?_range,hj4,if_true,Option.map_some,Option.getD_some];rw [getElem!_pos z.cells _ h6,Array.getD,dif_pos h6];rfl
    rw [e2,e3];exact ⟨f3 _ (by omega),f4 _ hmod⟩
 ·have:=Rep.ob (c:=({c with w:=c.w.drew}:Cx).ai (.cells cells e) id ⟨c.w.heap.size,0,none⟩ (.obj (cx++dy++bw (U e).zero (ncap - (m+k)) (U e).sz) e)) id 0 (m+k) ncap (U e).sz 0 _ e
   (by simp [Cx.ai,ag]; rfl) hcap1 hcap2 (fun _=>⟨rfl,by grind⟩)
  simpa [Cx.ai,ag] using this
theorem jC {h:Heap} {ts tx ty e:TypeId} {y:AV} {Q:AV→Heap→Prop} {i:TypeInfo} {z:Value} {ys cx:List AV} {ox:List Value} {m:Nat} {a:Option Addr} {cap:Nat}
  (hd:P.underlying ts=some (.slice e)) (htx' :(∃d,P.underlying tx=some (.slice d))∨P.underlying tx=some .string) (i1:P.info? e=some i) (i2:i.size=(U e).sz) (i3:i.bytes=(U e).bytes)
  (z1:i.zero=some z) (z2:z.cells.size=(U e).sz) (z3:∀c,Rep c (U e).zero z) (c:Cx) (v:Value) (hs:Sub h c.h) (g:Good c) (hy:Rep c y v)
  (hsrc:∀c u,Sub h c.h→Good c→Rep c y u→Sized (U e).sz ys→ys.length<lim∧∃val,Row c ys (U e).sz val∧(∀w,(Builtin.lenOf u).run P w= .ok ys.length w)∧
   (Builtin.firstCells (U e).sz ys.length u).run P c.w= .ok (aM (U e).sz ys.length val).toArray c.w)
  (hsy:Sized (U e).sz ys) (hb:(m+ys.length)*(U e).bytes≤140737488355328) (hby:(U e).bytes≠0) (hbyte:m+ys.length<lim)
  (hl:cx.length=m*(U e).sz) (hl2:ox.length=m*(U e).sz) (hro:∀j (h:j<cx.length),Rep c cx[j] (ox.getD j undef)∧(ox.getD j undef).oneCell' =true)
  (holds:(Builtin.firstCells i.size m (.slice a m cap)).run P c.w.drew= .ok ox.toArray c.w.drew) (hgr:cap<m+ys.length)
  (hzs:(U e).sz≠0) (hzf:fit (U e).zero (U e).sz) (hQ:fG h (cx++bx ys) (m+ys.length) (U e).sz e Q):
  ∃r w',(Builtin.append_ #[ts,tx] ty #[.slice a m cap,v]).run P c.w= .ok r w'∧bV c Q r w' :=by
 have g1:Good {c with w:=c.w.drew}:=g.draw rfl rfl rfl rfl
 have e1:Ext c {c with w:=c.w.drew}:=Ext.draw rfl rfl rfl rfl
 obtain ⟨hfy,vy,rowy,hlen,hfirst⟩:=hsrc {c with w:=c.w.drew} v hs g1 (hy.mono e1) hsy
 obtain ⟨hly,hry⟩:=rowy.flat (by omega)
 rw [←i2] at hfirst;have hr:=fA (ty:=ty) hd htx' i1 z1 (hlen c.w) hfirst holds (by omega) (by grind) (by omega)
 rw [i2] at hr;exact ⟨_,_,hr,lg z2 z3 c hs g hbyte hl hl2 hro hly (aA ..) hry hzs hzf hQ⟩
theorem qt {h:Heap} {ts tx ty e:TypeId} {Q:AV→Heap→Prop} {i:TypeInfo} {z:Value} {cx:List AV} {ox:List Value} {m n:Nat} {a:Option Addr} {cap:Nat} {kk ki:IntKind}
  (hd:P.underlying ts=some (.slice e)) (htx:P.underlying tx=some (.int ki)) (i1:P.info? e=some i) (i2:i.size=(U e).sz) (i3:i.bytes=(U e).bytes)
  (z1:i.zero=some z) (z2:z.cells.size=(U e).sz) (z3:∀c,Rep c (U e).zero z) (c:Cx) (hs:Sub h c.h) (g:Good c)
  (hn0:n≠0) (hb:(m+n)*(U e).bytes≤140737488355328) (hby:(U e).bytes≠0) (hbyte:m+n<lim)
  (hl:cx.length=m*(U e).sz) (hl2:ox.length=m*(U e).sz) (hro:∀j (h:j<cx.length),Rep c cx[j] (ox.getD j undef)∧(ox.getD j undef).oneCell' =true)
  (holds:(Builtin.firstCells i.size m (.slice a m cap)).run P c.w.drew= .ok ox.toArray c.w.drew) (hgr:cap<m+n)
  (hzs:(U e).sz≠0) (hzf:fit (U e).zero (U e).sz) (hQ:fG h (cx++bw (U e).zero n (U e).sz) (m+n) (U e).sz e Q):
  ∃r w',(Builtin.append_ #[ts,tx] ty #[.slice a m cap, .int kk n]).run P c.w= .ok r w'∧bV c Q r w' :=by
 have hw:IntKind.i64.wrap (n:Int)=n:=IntWalk.i64_in _ (by grind [lim])
 have h1:¬(m+n≤cap):=by omega
 have hbm:(m+n)*i.bytes≤140737488355328:=by grind
 have h2:¬(Builtin.nextslicecap (m+n) cap*i.bytes>2 ^ 48):=by
  simp_all [growslice_fits]
 have h3:¬((n:Int)<0):=by omega
 have h4:¬(281474976710656<(n:Int)*(i.bytes:Int)):=by
  grind
 have h5:¬(9223372036854775807<(m:Int)+(n:Int)):=by grind [lim]
 have hz0:(zeroValue e).run P c.w.drew= .ok z c.w.drew:=by simp_all [zeroValue,typeInfo]
 have hfo:(Question.appendCap (m+n) cap e).forced=false:=rfl;have hby' :i.bytes≠0:=by omega
 have hsz' :¬(n*i.size=0):=by grind [Nat.mul_ne_zero]
 have hr:(Builtin.append_ #[ts,tx] ty #[.slice a m cap, .int kk n]).run P c.w=
   .ok (.slice (some ⟨c.w.heap.size,0,none⟩) (m+n) (grownCap c.w (m+n) cap e)) (c.w.drew.alloc (.cells (ox.toArray++(Builtin.zeroCells z.cells n).toList.toArray++Builtin.zeroCells z.cells (grownCap c.w (m+n) cap e - (m+n))) e)):=by
  simp [Builtin.append_,run_underlying hd,run_underlying htx,sizeOf,typeInfo,i1,asInt,asIntOf,hw,h1,h2,h3,h4,h5,hsz',holds,hz0,newRow,hfo,grownCap, -Array.append_assoc]
  try rfl
 obtain ⟨f1,f2,f3,f4⟩:=(z3 {c with w:=c.w.drew}).fits hzf
 refine ⟨_,_,hr,lg z2 z3 c hs g hbyte hl hl2 hro (by simp [bw]) (by grind [Builtin.zeroCells]) (fun j hj=> ?_) hzs hzf hQ⟩
 have hj' :j<n*(U e).sz:=by grind [bw]
 have hmod:j % (U e).sz<(U e).sz:=Nat.mod_lt _ (by omega)
 have e2:(bw (U e).zero n (U e).sz)[j]=(U e).zero.cells[j % (U e).sz]'(by omega):=by
  grind [bw]
 have e3:(Builtin.zeroCells z.cells n).toList.getD j undef=z.cells.getD (j % (U e).sz) undef:=by
  simp_all [Builtin.zeroCells,List.getD_eq_getElem?_getD,Array.getElem?_toList,Array.getElem?_map,Array.getElem?_range,if_true,Option.map_some,Option.getD_some]
 rw [e2,e3];exact ⟨f3 _ (by omega),f4 _ hmod⟩
theorem jw (hU:∀t,ax P U t) {h:Heap} {ts tx ty:TypeId} {x y:AV} {Q:AV→Heap→Prop} (htx:vX (U tx).k=true) (hk:ig U h ts x y Q) (c:Cx) (u v:Value)
  (hs:Sub h c.h) (g:Good c) (hx:Rep c x u) (hy:Rep c y v):
  ∃r w',(Builtin.append_ #[ts,tx] ty #[u,v]).run P c.w= .ok r w'∧bV c Q r w' :=by
 unfold ig at hk;have hd:=(hU ts).desc;split at hk
 ·rename_i e hty
  rw [hty] at hd;obtain ⟨hz,hby,hk⟩:=hk;have htx' :(∃d,P.underlying tx=some (.slice d))∨P.underlying tx=some .string:=by
   have:=(hU tx).desc;cases hk:(U tx).k<;>rw [hk] at htx this<;>simp [vX] at htx
   ·exact .inr this
   ·exact .inl ⟨_,this⟩
  obtain ⟨i,i1,i2,i3,z,z1,z2,z3⟩:=(hU e).info hz;split at hk
  ·rename_i xs p
   obtain ⟨ys,hk',hsrc⟩:=hO (P:=P) hz hk;clear hk;have hk:=hk';clear hk';obtain ⟨hsx,hsy,hb,hk⟩:=hk;obtain ⟨hyl,vy,rowy,hlen,hfirst⟩:=hsrc c v hs g hy hsy;obtain ⟨a,cap,sz,vx,rfl,sl⟩:=hx.dc;have hcap:=sl.hc;have hcm:=sl.hm;have hbyte:(xs.length+ys.length)<lim:=by
    have:(xs.length+ys.length)≤(xs.length+ys.length)*(U e).bytes:=Nat.le_mul_of_pos_right _ (by omega)
    simp only [lim]; omega
   have holds:(Builtin.firstCells i.size xs.length (.slice a xs.length cap)).run P c.w.drew= .ok (aM (U e).sz xs.length vx).toArray c.w.drew:=by
    by_cases hxn:xs= []
    ·subst hxn
     cases a<;>simp [Builtin.firstCells,aM,loadCells,loadCellsFrom]
    ·have hne:0<xs.length:=List.length_pos_iff.2 hxn
     have e1:sz=(U e).sz:=by rw [←sl.hz 0 hne]; exact hsx _ (Gv hne)
     subst e1;obtain ⟨q,rfl⟩:∃q,a=some q:=by
      cases a with
      |none=>have:=sl.h0 rfl; omega
      |some q=>exact ⟨q,rfl⟩
     obtain ⟨hq1,hq2⟩:=sl.hs q rfl (by omega)
     obtain ⟨bq,oq,sq⟩:=q;simp only at hq1 hq2; subst hq1
     have:=run_loadCells (P:=P) c.w.drew ⟨bq,oq,none⟩ (xs.length*(U e).sz) (fun q=>vx (q / (U e).sz) (q % (U e).sz)) (fun j hj=>by
      have h1:j / (U e).sz<xs.length:=(Nat.div_lt_iff_lt_mul (by omega)).2 hj
      have h2:j % (U e).sz<(U e).sz:=Nat.mod_lt _ (by omega)
      have:=(sl.hf _ rfl _ _ h1 h2).1;rw [aT];rw [show j / (U e).sz*(U e).sz+j % (U e).sz=j from by rw [Nat.mul_comm]; exact Nat.div_add_mod j _] at this
      exact this)
     rw [i2];simpa [Builtin.firstCells,aM] using this
   have rowx:Row c xs (U e).sz vx:=by
    by_cases hxn:xs= []
    ·subst hxn
     exact ⟨fun i hi=>(by cases hi),fun i hi=>(by cases hi),fun i j hi=>(by cases hi)⟩
    ·have hne:0<xs.length:=List.length_pos_iff.2 hxn
     have e1:sz=(U e).sz:=by rw [←sl.hz 0 hne]; exact hsx _ (Gv hne)
     subst e1;exact ⟨sl.hz,sl.hr,sl.ho⟩
   have grow:cap<xs.length+ys.length→∀id,(c.h id=none∨∃n m sz,c.h id=some (.spare n sz)∧Blk.spare (xs.length+ys.length) (U e).sz= .spare m sz∧n<m)→
     Q (.sl (xs++ys) (.own id)) (upd h id (some (.spare (xs.length+ys.length) (U e).sz)))→
     ∃r w',(Builtin.append_ #[ts,tx] ty #[.slice a xs.length cap,v]).run P c.w= .ok r w'∧bV c Q r w' :=by
    intro hg id hid hQ;have g1:Good {c with w:=c.w.drew}:=g.draw rfl rfl rfl rfl
    have e1:Ext c {c with w:=c.w.drew}:=Ext.draw rfl rfl rfl rfl
    obtain ⟨_,vy,rowy,hlen,hfirst⟩:=hsrc {c with w:=c.w.drew} v hs g1 (hy.mono e1) hsy
    rw [←i2] at hfirst;have hr:=fA (ty:=ty) hd htx' i1 z1 (hlen c.w) hfirst holds hg (by rw [i3]; exact hb) (by rw [i3]; exact hby)
    obtain ⟨hcap1,hcap2⟩:=mw c.w (xs.length+ys.length) cap e hbyte;generalize hcp:grownCap c.w (xs.length+ys.length) cap e=ncap at hr hcap1 hcap2;generalize hcells:(aM (U e).sz xs.length vx).toArray++(aM i.size ys.length vy).toArray++Builtin.zeroCells z.cells (ncap - (xs.length+ys.length))=cells at hr;rw [i2] at hcells;have hcs:cells.size=ncap*(U e).sz:=by
     rw [←hcells];simp only [Array.size_append,List.size_toArray,aA,size_zeroCells,z2,←Nat.add_mul]
     congr 1
     omega
    refine ⟨_,_,hr,({c with w:=c.w.drew}:Cx).ai (.cells cells e) id ⟨c.w.heap.size,0,none⟩ (.spare (xs.length+ys.length) (U e).sz),_,_,rfl, ?_, ?_, ?_,hs.upd id _,hQ⟩
    ·exact g1.ai _ _ _ id _ _ rfl hid (fun cs t' hh=>by cases hh) (fun n sz hh=>⟨rfl,fun o ho=>by simp⟩)
    ·exact e1.trans (Ext.ai _ _ id _ _ rfl hid)
    ·have hE:=Ext.ai {c with w:=c.w.drew} (.cells cells e) id ⟨c.w.heap.size,0,none⟩ (.spare (xs.length+ys.length) (U e).sz) rfl hid
     have hE0:=e1.trans hE;have hl:(xs++ys).length=xs.length+ys.length:=by simp
     have e0:Value.slice (some ⟨c.w.heap.size,0,none⟩) (xs.length+ys.length) ncap=Value.slice (some ⟨c.w.heap.size,0,none⟩) (xs++ys).length ncap:=by rw [hl]
     rw [e0];refine .sl _ _ _ ncap (U e).sz (fun i j=>if i<xs.length then vx i j else vy (i - xs.length) j) (by omega) hcap2 (fun hh=>by cases hh)
      (fun q hq _=>by cases hq; exact ⟨rfl,by simp [Cx.ai]⟩) (fun i hi=> ?_) (fun q hq i j hi hj=> ?_) (fun i hi j hj=> ?_) (fun i j hi hj=> ?_) ?_
     ·rw [List.getElem_append]
      split
      ·exact rowx.hz _ _
      ·exact rowy.hz _ _
     ·cases hq
      refine ⟨?_, ?_⟩
      ·have hnew:((({c with w:=c.w.drew}:Cx).ai (.cells cells e) id ⟨c.w.heap.size,0,none⟩ (.spare (xs.length+ys.length) (U e).sz)).w.cell? ⟨c.w.heap.size,0+(i*(U e).sz+j),none⟩)=cells[i*(U e).sz+j]? :=by
        rw [Nat.zero_add];exact World.cell?_alloc_mark c.w.drew _ _ _ _
       rw [hnew,←hcells,Array.getElem?_append_left,Array.getElem?_append]
       ·simp only [List.size_toArray,aA,List.getElem?_toArray]
        by_cases hix:i<xs.length
        ·have:i*(U e).sz+j<xs.length*(U e).sz:=by
          have:(i+1)*(U e).sz≤xs.length*(U e).sz:=Nat.mul_le_mul_right _ (by omega)
          rw [Nat.add_mul,Nat.one_mul] at this;omega
         rw [if_pos this,if_pos hix];exact cR hix hj
        ·have:¬(i*(U e).sz+j<xs.length*(U e).sz):=by
          have:xs.length*(U e).sz≤i*(U e).sz:=Nat.mul_le_mul_right _ (by omega)
          omega
         rw [if_neg this,if_neg hix];have e2:i*(U e).sz+j - xs.length*(U e).sz=(i - xs.length)*(U e).sz+j:=by
          have:xs.length*(U e).sz≤i*(U e).sz:=Nat.mul_le_mul_right _ (by omega)
          rw [Nat.sub_mul];omega
         rw [e2];exact cR (by omega) hj
       ·simp only [Array.size_append,List.size_toArray,aA,←Nat.add_mul]
        have:(i+1)*(U e).sz≤(xs.length+ys.length)*(U e).sz:=Nat.mul_le_mul_right _ (by omega)
        rw [Nat.add_mul,Nat.one_mul] at this;omega
      ·rintro ⟨j',k',k1,k2,k3⟩
       by_cases ej:j' =id
       ·subst ej
        simp only [Cx.ai,ag,Option.some.injEq] at k1 k2 k3;subst k1;simp only [Blk.holds,Blk.start,Nat.zero_add] at k3;have:(i+1)*(U e).sz≤(xs.length+ys.length)*(U e).sz:=Nat.mul_le_mul_right _ (by omega)
        rw [Nat.add_mul i,Nat.one_mul] at this;omega
       ·simp only [Cx.ai,af _ _ ej] at k1 k2
        have:=g.lt k1;omega
     ·have hi' :i<xs.length+ys.length:=by omega
      by_cases hix:i<xs.length
      ·simp only [if_pos hix]
       have e2:(xs++ys)[i]=xs[i]:=List.getElem_append_left hix;simp only [e2] at hj⊢;exact (rowx.hr i hix j hj).mono hE0
      ·simp only [if_neg hix]
       have e2:(xs++ys)[i]=ys[i - xs.length]:=List.getElem_append_right (by omega)
       simp only [e2] at hj⊢;exact (rowy.hr (i - xs.length) (by omega) j hj).mono hE
     ·by_cases hix:i<xs.length
      ·simp only [if_pos hix]; exact rowx.ho i j hix hj
      ·simp only [if_neg hix]; exact rowy.ho (i - xs.length) j (by omega) hj
     ·refine ⟨xs.length+ys.length,by simp [Cx.ai,ag],by omega,fun _=>⟨_,rfl,by simp [Cx.ai,ag],cells,e,(0,0), ?_, ?_⟩⟩
      ·exact heap_alloc_new c.w.drew _
      ·simp [hcs]
   split at hk
   ·exact hk.elim
   ·obtain ⟨hk1,hk2⟩:=hk
    have hcapn:cap=xs.length:=sl.hp
    by_cases hyn:ys= []
    ·subst hyn
     have hr:=fB (ty:=ty) hd htx' i1 (hlen c.w) (by rw [i2]; exact hfirst) (base:=a) (n:=xs.length) (cap:=cap) (by simp; omega)
     refine ⟨_,_, ?_,c,_,h,rfl,g, .refl c,sl.rep,hs,hk1 rfl⟩;rw [hr];cases a<;>simp [aM,storeCells]
    ·have hpos:0<ys.length:=List.length_pos_iff.2 hyn
     have hfr:∀id,c.h id=none→h id=none:=fun id hid=>by
      cases hh:h id with
      |none=>rfl
      |some k=>rw [hs _ _ hh] at hid; cases hid
     rcases hk2 hyn with hk2|⟨hz1,hzf,hza,hna,hQ⟩|⟨hzf,hQ⟩
     ·obtain ⟨id,hid⟩:=g.fresh
      exact grow (by omega) id (.inl hid) (hk2 id (hfr id hid))
     ·obtain ⟨id,hid⟩:=g.fresh
      have g1:Good {c with w:=c.w.drew}:=g.draw rfl rfl rfl rfl
      have e1:Ext c {c with w:=c.w.drew}:=Ext.draw rfl rfl rfl rfl
      obtain ⟨_,vy,rowy,hlen,hfirst⟩:=hsrc {c with w:=c.w.drew} v hs g1 (hy.mono e1) hsy
      rw [←i2] at hfirst;have hr:=fA (ty:=ty) hd htx' i1 z1 (hlen c.w) hfirst holds (by omega) (by rw [i3]; exact hb) (by rw [i3]; exact hby)
      obtain ⟨hcap1,hcap2⟩:=mw c.w (xs.length+ys.length) cap e hbyte;generalize hcp:grownCap c.w (xs.length+ys.length) cap e=ncap at hr hcap1 hcap2;generalize hcells:(aM (U e).sz xs.length vx).toArray++(aM i.size ys.length vy).toArray++Builtin.zeroCells z.cells (ncap - (xs.length+ys.length))=cells at hr;rw [i2,hz1] at hcells;rw [hz1] at rowx rowy z2;have hcs:cells.size=ncap:=by
       rw [←hcells];simp only [Array.size_append,List.size_toArray,aA,size_zeroCells,z2];omega
      obtain ⟨f1,f2,f3,f4⟩:=(z3 {c with w:=c.w.drew}).fits hzf
      have hzc:=ec hza;refine ⟨_,_,hr,({c with w:=c.w.drew}:Cx).ai (.cells cells e) id ⟨c.w.heap.size,0,none⟩ (.obj (xs++ys++List.replicate (ncap - (xs.length+ys.length)) (U e).zero) e),_,_,rfl, ?_,
       e1.trans (Ext.ai _ _ id _ _ rfl (.inl hid)), ?_,hs.upd id _,hQ id _ (hfr id hid)⟩
      ·refine g1.ai _ _ (0,0) id _ _ rfl (.inl hid) (fun cs t' hh=> ?_) (fun n sz hh=>by cases hh)
       cases hh;refine ⟨rfl,rfl,by simp [hcs]; omega,fun j hj=> ?_⟩
       have hj' :j<ncap:=by simp at hj; omega
       by_cases hj1:j<xs.length
       ·have e2:(xs++ys++List.replicate (ncap - (xs.length+ys.length)) (U e).zero)[j]=xs[j]:=by
         rw [List.getElem_append_left (by simp; omega),List.getElem_append_left hj1]
        have e3:cells.getD j undef=vx j 0:=by
         have h5:=cR (val:=vx) hj1 (show 0<1 by omega)
         rw [Nat.mul_one,Nat.add_zero] at h5;rw [←hcells,Array.getD_eq_getD_getElem?,Array.getElem?_append_left (by simp [aA]; omega),Array.getElem?_append_left (by simp [aA]; omega)]
         simp [h5]
        rw [e2,e3];have hc1:=ec (hna xs[j] (List.mem_append_left _ (Gv hj1)));have:=rowx.hr j hj1 0 (by rw [hc1]; simp)
        simp only [hc1,List.getElem_cons_zero] at this;exact ⟨this.mono e1,rowx.ho j 0 hj1 (by omega)⟩
       ·by_cases hj2:j<xs.length+ys.length
        ·have hj3:j - xs.length<ys.length:=by omega
         have e2:(xs++ys++List.replicate (ncap - (xs.length+ys.length)) (U e).zero)[j]=ys[j - xs.length]:=by
          rw [List.getElem_append_left (by simp; omega),List.getElem_append_right (by omega)]
         have e3:cells.getD j undef=vy (j - xs.length) 0:=by
          have h5:=cR (val:=vy) hj3 (show 0<1 by omega)
          rw [Nat.mul_one,Nat.add_zero] at h5;rw [←hcells,Array.getD_eq_getD_getElem?,Array.getElem?_append_left (by simp [aA]; omega),Array.getElem?_append_right (by simp [aA]; omega)]
          simp [aA,h5]
         rw [e2,e3];have hc1:=ec (hna ys[j - xs.length] (List.mem_append_right _ (Gv hj3)));have:=rowy.hr (j - xs.length) hj3 0 (by rw [hc1]; simp)
         simp only [hc1,List.getElem_cons_zero] at this;exact ⟨this,rowy.ho _ 0 hj3 (by omega)⟩
        ·have e2:(xs++ys++List.replicate (ncap - (xs.length+ys.length)) (U e).zero)[j]=(U e).zero:=by
          rw [List.getElem_append_right (by simp; omega)]
          simp
         have e3:cells.getD j undef=z.cells.getD 0 undef:=by
          rw [←hcells,Array.getD_eq_getD_getElem?,Array.getElem?_append_right (by simp [aA]; omega)]
          have h6:j - (xs.length+ys.length)<ncap - (xs.length+ys.length):=by omega
          simp only [Array.size_append,List.size_toArray,aA,Nat.mul_one,Builtin.zeroCells,z2,Array.getElem?_map,Array.getElem?_range,h6,if_true,Option.map_some,Option.getD_some,Nat.mod_one];rw [getElem!_pos z.cells 0 (by omega),Array.getD,dif_pos (show 0<z.cells.size by omega)]
          rfl
         rw [e2,e3];have:=f3 0 (by rw [hzc]; simp)
         simp only [hzc,List.getElem_cons_zero] at this;exact ⟨this,f4 0 (by omega)⟩
      ·have:=Rep.oa (c:=({c with w:=c.w.drew}:Cx).ai (.cells cells e) id ⟨c.w.heap.size,0,none⟩ (.obj (xs++ys++List.replicate (ncap - (xs.length+ys.length)) (U e).zero) e)) id 0 (xs.length+ys.length) ncap 0 _ e
        (by simp [Cx.ai,ag]; rfl) (by omega) hcap2 (fun _=>⟨rfl,by simp; omega⟩)
       simpa [Cx.ai,ag] using this
     ·obtain ⟨hlx,hrx⟩:=rowx.flat (by omega)
      exact jC (P:=P) (U:=U) (tx:=tx) (ty:=ty) (Q:=Q) (a:=a) (cap:=cap) hd htx' i1 i2 i3 z1 z2 z3 c v hs g hy hsrc hsy hb hby hbyte hlx (aA ..) hrx holds (by omega) hz hzf hQ
   ·rename_i id
    obtain ⟨hid,hk⟩:=hk;have hcid:=hs _ _ hid;obtain ⟨m,p1,p2,p3⟩:=sl.hp;rw [hcid] at p1;simp only [Option.some.injEq,Blk.spare.injEq] at p1;obtain ⟨rfl,rfl⟩:=p1;obtain ⟨q,rfl,hφ,cs,t,fr,q1,q2⟩:=p3 rfl;have hq1:q.spot=none:=by rw [←hφ]; exact (g.spare id _ _ hcid).1
    have hq2:q.block<c.w.heap.size:=(Array.getElem?_eq_some_iff.1 q1).1
    by_cases hroom:xs.length+ys.length≤cap
    ·have hr:=fB (ty:=ty) hd htx' i1 (hlen c.w) (by rw [i2]; exact hfirst) (base:=some q) (n:=xs.length) (cap:=cap) hroom
     obtain ⟨bq,oq,sq⟩:=q;simp only at hq1 hq2 q1 q2; subst hq1
     rw [i2] at hr;simp only [aT] at hr;have hcap' :(xs.length+ys.length)*(U e).sz≤cap*(U e).sz:=Nat.mul_le_mul_right _ hroom;rw [Nat.add_mul] at hcap';obtain ⟨_,cs1,t1,fr1,s1,s2⟩:=g.spare id _ _ hcid;have hb1:(c.φ id).block=bq:=by rw [hφ]
     have ho1:(c.φ id).off=oq:=by rw [hφ]
     rw [hb1,q1] at s1;cases s1;rw [ho1] at s2;have hst:=run_storeCells_cells (P:=P) bq (oq+xs.length*(U e).sz) (aM (U e).sz ys.length vy) 0 c.w (fun j hj=>by
      rw [aA] at hj;simp [World.cell?,q1];omega) (fun j hj=>by
      have:=s2 (oq+xs.length*(U e).sz+0+j) (by omega)
      simp only [World.frozen?,q1];simpa using this) (ug rowy (by omega))
     rw [Nat.add_zero] at hst;simp only [hst,Result.andThen_ok] at hr
     by_cases hyn:ys= []
     ·subst hyn
      refine ⟨_,_,hr,c,_,_,by simp [aM,World.setCells],g, .refl c, ?_, ?_,hk⟩
      ·simpa using sl.rep
      ·intro j l hj
       by_cases ej:j=id
       ·subst ej
        rw [ag] at hj;simp only [List.length_nil,Nat.add_zero] at hj;rw [hcid]; exact hj
       ·rw [af _ _ ej] at hj
        exact hs _ _ hj
     ·have hypos:0<ys.length:=List.length_pos_iff.2 hyn
      have hfill:(c.fill id (oq+xs.length*(U e).sz) (aM (U e).sz ys.length vy) (.spare (xs.length+ys.length) (U e).sz)).w=c.w.setCells bq (oq+xs.length*(U e).sz) (aM (U e).sz ys.length vy):=by
       simp only [Cx.fill,hb1]
      have hE:=Ext.fill (c:=c) id (oq+xs.length*(U e).sz) (aM (U e).sz ys.length vy) (.spare xs.length (U e).sz) (.spare (xs.length+ys.length) (U e).sz) hcid
       (by simp only [Blk.holds,Blk.start]; omega) (.inr ⟨_,_,_,rfl,rfl,by omega⟩)
      have hG:=g.uf id (oq+xs.length*(U e).sz) (aM (U e).sz ys.length vy) xs.length (xs.length+ys.length) (U e).sz hcid (by omega) (by omega)
      refine ⟨_,_,hr,c.fill id (oq+xs.length*(U e).sz) (aM (U e).sz ys.length vy) (.spare (xs.length+ys.length) (U e).sz),_,_,hfill,hG,hE, ?_,hs.upd id _,hk⟩;have hl:(xs++ys).length=xs.length+ys.length:=by simp
      have e0:Value.slice (some ⟨bq,oq,none⟩) (xs.length+ys.length) cap=Value.slice (some ⟨bq,oq,none⟩) (xs++ys).length cap:=by rw [hl]
      rw [e0];have hown:∀x,(owned (c.fill id (oq+xs.length*(U e).sz) (aM (U e).sz ys.length vy) (.spare (xs.length+ys.length) (U e).sz)) bq x)→oq+(xs.length+ys.length)*(U e).sz≤x:=by
       rintro x ⟨j',k',k1,k2,k3⟩
       by_cases ej:j' =id
       ·subst ej
        simp only [Cx.fill,ag,Option.some.injEq] at k1 k2 k3;subst k1;simp only [Blk.holds,Blk.start] at k3;rw [ho1] at k3;exact k3
       ·simp only [Cx.fill,af _ _ ej] at k1 k2
        exact (g.inj j' id _ _ k1 hcid ej (k2.trans hb1.symm)).elim
      refine .sl _ _ _ cap (U e).sz (fun i j=>if i<xs.length then vx i j else vy (i - xs.length) j) (by omega) hcm (fun hh=>by cases hh)
       (fun q hq _=>by cases hq; exact ⟨rfl,by rw [hfill,fP]; exact hq2⟩) (fun i hi=> ?_) (fun q hq i j hi hj=> ?_) (fun i hi j hj=> ?_) (fun i j hi hj=> ?_) ?_
      ·rw [List.getElem_append]
       split
       ·exact rowx.hz _ _
       ·exact rowy.hz _ _
      ·cases hq
       have hi2:(i+1)*(U e).sz≤(xs.length+ys.length)*(U e).sz:=Nat.mul_le_mul_right _ (by omega)
       rw [Nat.add_mul i,Nat.one_mul] at hi2;refine ⟨?_,fun ho=> ?_⟩
       ·rw [hfill]
        by_cases hix:i<xs.length
        ·have:(i+1)*(U e).sz≤xs.length*(U e).sz:=Nat.mul_le_mul_right _ (by omega)
         rw [Nat.add_mul,Nat.one_mul] at this;rw [if_pos hix,World.cell?_setCells_out _ _ _ _ _ (fun _ _=> .inl (by simp only; omega))]
         exact (sl.hf _ rfl i j hix hj).1
        ·have h5:xs.length*(U e).sz≤i*(U e).sz:=Nat.mul_le_mul_right _ (by omega)
         have h6:oq+(i*(U e).sz+j)=oq+xs.length*(U e).sz+((i - xs.length)*(U e).sz+j):=by
          rw [Nat.sub_mul]; omega
         have h7:(i - xs.length)*(U e).sz+j<ys.length*(U e).sz:=by
          have:(i - xs.length+1)*(U e).sz≤ys.length*(U e).sz:=Nat.mul_le_mul_right _ (by omega)
          rw [Nat.add_mul,Nat.one_mul] at this;omega
         rw [if_neg hix];simp only [h6];rw [World.cell?_setCells_in bq _ _ c.w (fun j hj=>by
          rw [aA] at hj;have:oq+xs.length*(U e).sz+j<cs.size:=by omega
          simp [World.cell?,q1,this]) _ (by rw [aA]; exact h7)]
         have:=cR (val:=vy) (show i - xs.length<ys.length by omega) hj
         rw [List.getElem?_eq_getElem (by rw [aA]; exact h7)] at this
         exact this
       ·have:=hown _ ho
        simp only at this;omega
      ·have hi' :i<xs.length+ys.length:=by omega
       by_cases hix:i<xs.length
       ·simp only [if_pos hix]
        have e2:(xs++ys)[i]=xs[i]:=List.getElem_append_left hix;simp only [e2] at hj⊢;exact (rowx.hr i hix j hj).mono hE
       ·simp only [if_neg hix]
        have e2:(xs++ys)[i]=ys[i - xs.length]:=List.getElem_append_right (by omega)
        simp only [e2] at hj⊢;exact (rowy.hr (i - xs.length) (by omega) j hj).mono hE
      ·by_cases hix:i<xs.length
       ·simp only [if_pos hix]; exact rowx.ho i j hix hj
       ·simp only [if_neg hix]; exact rowy.ho (i - xs.length) j (by omega) hj
      ·obtain ⟨cs2,r1,r2⟩:=cc bq (aM (U e).sz ys.length vy) (oq+xs.length*(U e).sz) c.w cs t fr q1
       exact ⟨xs.length+ys.length,by simp [Cx.fill,ag],by omega,fun _=>⟨_,rfl,by simp only [Cx.fill]; exact hφ,cs2,t,fr,by rw [hfill]; exact r1,by simp only; omega⟩⟩
    ·exact grow (by omega) id (.inr ⟨_,_,_,hcid,rfl,by omega⟩) hk
  ·rename_i id off len
   obtain ⟨hz1,hk⟩:=hk;obtain ⟨ys,hk',hsrc⟩:=hO (P:=P) hz hk;clear hk;obtain ⟨hsy,hna,hb,hk⟩:=hk';split at hk
   ·rename_i cs t hid
    obtain ⟨hle,hnx,hzf,hza,hQ1,hQ2⟩:=hk;have hcid:=hs _ _ hid;have hsy' :Sized (U e).sz ys:=by rw [hz1]; exact hsy
    obtain ⟨cap,o',rfl,hc1,hc2,_,cs',t',hcs,hcp⟩:=hx.fh;rw [hcid] at hcs;simp only [Option.some.injEq,Blk.obj.injEq] at hcs;obtain ⟨rfl,rfl⟩:=hcs;obtain ⟨us,u1,u2,u3⟩:=g.obj id cs t hcid;obtain ⟨hyl,vy,rowy,hlen,hfirst⟩:=hsrc c v hs g hy hsy';have hbyte:len+ys.length<lim:=by
     have:(len+ys.length)≤(len+ys.length)*(U e).bytes:=Nat.le_mul_of_pos_right _ (by omega)
     simp only [lim]; omega
    have hcellsy:∀i (hi:i<ys.length),ys[i].cells= [ys[i]]:=fun i hi=>ec (hna _ (Gv hi))
    by_cases hroom:len+ys.length≤cap
    ·have hr:=fB (ty:=ty) hd htx' i1 (hlen c.w) (by rw [i2]; exact hfirst) (base:=some ⟨(c.φ id).block,o',none⟩) (n:=len) (cap:=cap) hroom
     rw [i2,hz1,Nat.mul_one] at hr;simp only [aT] at hr
     by_cases hyn:ys= []
     ·subst hyn
      refine ⟨_,_,hr,c, .oa id off (len+0),_, ?_,g, .refl c, .oa id off len cap o' cs t hcid (by omega) hc2 hcp, ?_,hQ1 (by simpa using hle)⟩
      ·simp
      ·intro j l hj
       by_cases ej:j=id
       ·subst ej
        rw [ag] at hj;rw [hcid,←hj];simp [over]
       ·rw [af _ _ ej] at hj
        exact hs _ _ hj
     ·have hypos:0<ys.length:=List.length_pos_iff.2 hyn
      obtain ⟨rfl,hcl⟩:=hcp (by omega)
      have hget:∀j,j<ys.length→(aM 1 ys.length vy).getD j undef=vy j 0:=fun j hj=>by
       have:=cR (sz:=1) (n:=ys.length) (val:=vy) hj (show 0<1 by omega)
       rw [Nat.mul_one,Nat.add_zero] at this;simp [List.getD,this]
      rw [hz1] at rowy;obtain ⟨s1,s2⟩:=di (P:=P) (off:=o' +len) (xs:=ys) (vs:=aM 1 ys.length vy) (u:= .slice (some ⟨(c.φ id).block,o',none⟩) (len+ys.length) cap) (X:= .oa id o' (len+ys.length)) hs g hid (by simp [aA]) (by omega)
       (fun j hj=>by
        rw [hget j hj];have:=rowy.hr j hj 0 (by rw [hcellsy j hj]; simp)
        simp only [hcellsy j hj,List.getElem_singleton] at this;exact ⟨this,rowy.ho j 0 hj (by omega)⟩) (fun c' hE=>(Rep.oa id o' (len+ys.length) cap o' cs t hcid hroom hc2 (fun _=>⟨rfl,hcl⟩)).mono hE) (hQ1 (by omega))
      rw [s1] at hr;exact ⟨_,_,hr,s2⟩
    ·
     have hxl:((cs.drop off).take len).length=len:=by rw [List.length_take,List.length_drop]; omega
     have hcx:∀i (hi:i<((cs.drop off).take len).length),((cs.drop off).take len)[i].cells= [((cs.drop off).take len)[i]]:=fun i hi=>ec (hnx _ (Gv hi))
     have rowx:Row c ((cs.drop off).take len) (U e).sz (fun i _=>us.getD (off+i) undef):=by
      refine ⟨fun i hi=>by rw [hcx i hi,hz1]; rfl,fun i hi j hj=> ?_,fun i j hi hj=>(u3 (off+i) (by omega)).2⟩
      have hj' :=hj;rw [hcx i hi] at hj';have ej:j=0:=by simp only [List.length_singleton] at hj'; omega
      subst ej;have e1:((cs.drop off).take len)[i].cells[0]=cs[off+i]'(by omega):=by
       simp only [hcx i hi,List.getElem_singleton];simp
      rw [e1];exact (u3 (off+i) (by omega)).1
     have holds:(Builtin.firstCells i.size ((cs.drop off).take len).length (.slice (some ⟨(c.φ id).block,o',none⟩) ((cs.drop off).take len).length cap)).run P c.w.drew= .ok (aM (U e).sz ((cs.drop off).take len).length (fun i _=>us.getD (off+i) undef)).toArray c.w.drew:=by
      rw [i2,hz1,hxl]
      by_cases h0:len=0
      ·subst h0
       simp [Builtin.firstCells,aM,loadCells,loadCellsFrom]
      ·obtain ⟨rfl,_⟩:=hcp (by omega)
       have hd1:c.w.drew.heap=c.w.heap:=rfl;have:=run_loadCells (P:=P) c.w.drew ⟨(c.φ id).block,o',none⟩ (len*1) (fun q=>us.getD (o' +q / 1) undef) (fun j hj=>by
        rw [aT];have:o' +j<us.size:=by omega
        simp [World.cell?,hd1,u1,this])
       simpa [Builtin.firstCells,aM] using this
     have:=nK (P:=P) (U:=U) (tx:=tx) (ty:=ty) (Q:=Q) (a:=some ⟨(c.φ id).block,o',none⟩) (cap:=cap) hd htx' i1 i2 i3 z1 z2 z3 c v hs g hy hsrc hsy' (by rw [hxl]; exact hb) hby (by rw [hxl]; exact hbyte) rowx holds (by rw [hxl]; omega) hz1 hzf hza
      (fun z hz=>(List.mem_append.1 hz).elim (hnx z) (hna z)) (by rw [hxl]; exact hQ2)
     rwa [hxl] at this
   ·exact hk.elim
  ·rename_i id off len cap0 sz0
   obtain ⟨rfl,hk⟩:=hk;obtain ⟨ys,hk',hsrc⟩:=hO (P:=P) hz hk;clear hk;obtain ⟨hsy,hb,hk⟩:=hk';split at hk
   ·rename_i cs t hid
    obtain ⟨hle,hzf,hQ1,hQ2⟩:=hk;have hcid:=hs _ _ hid;obtain ⟨o',rfl,hc1,hc2,cs',t',hcs,hcp⟩:=hx.dF;rw [hcid] at hcs;simp only [Option.some.injEq,Blk.obj.injEq] at hcs;obtain ⟨rfl,rfl⟩:=hcs;obtain ⟨us,u1,u2,u3⟩:=g.obj id cs t hcid;obtain ⟨hyl,vy,rowy,hlen,hfirst⟩:=hsrc c v hs g hy hsy;obtain ⟨hly,hry⟩:=rowy.flat (by omega)
    have hbyte:len+ys.length<lim:=by
     have:(len+ys.length)≤(len+ys.length)*(U e).bytes:=Nat.le_mul_of_pos_right _ (by omega)
     simp only [lim]; omega
    by_cases hroom:len+ys.length≤cap0
    ·have hr:=fB (ty:=ty) hd htx' i1 (hlen c.w) (by rw [i2]; exact hfirst) (base:=some ⟨(c.φ id).block,o',none⟩) (n:=len) (cap:=cap0) hroom
     rw [i2] at hr;simp only [aT] at hr
     by_cases hyn:ys= []
     ·subst hyn
      have e0:aM (U e).sz ([]:List AV).length vy= []:=by simp [aM]
      rw [e0] at hr;refine ⟨_,_,hr,c, .ob id off (len+0) cap0 (U e).sz,_, ?_,g, .refl c, .ob id off len cap0 (U e).sz o' cs t hcid (by omega) hc2 hcp, ?_,hQ1 (by simpa using hroom)⟩
      ·simp
      ·intro j l hj
       by_cases ej:j=id
       ·subst ej
        rw [ag] at hj;rw [hcid,←hj];simp [over,bx]
       ·rw [af _ _ ej] at hj
        exact hs _ _ hj
     ·have hypos:0<ys.length:=List.length_pos_iff.2 hyn
      obtain ⟨rfl,hcl⟩:=hcp (by omega)
      have hfits:o' +len*(U e).sz+(bx ys).length≤cs.length:=by
       have:(len+ys.length)*(U e).sz≤cap0*(U e).sz:=Nat.mul_le_mul_right _ hroom;rw [Nat.add_mul] at this;omega
      obtain ⟨s1,s2⟩:=di (P:=P) (off:=o' +len*(U e).sz) (xs:=bx ys) (vs:=aM (U e).sz ys.length vy) (u:= .slice (some ⟨(c.φ id).block,o',none⟩) (len+ys.length) cap0) (X:= .ob id o' (len+ys.length) cap0 (U e).sz) hs g hid (by rw [aA,hly]) hfits
       hry (fun c' hE=>(Rep.ob id o' (len+ys.length) cap0 (U e).sz o' cs t hcid hroom hc2 (fun _=>⟨rfl,hcl⟩)).mono hE) (hQ1 hroom)
      rw [s1] at hr;exact ⟨_,_,hr,s2⟩
    ·have hxl:((cs.drop off).take (len*(U e).sz)).length=len*(U e).sz:=by rw [List.length_take,List.length_drop]; omega
     have holds:(Builtin.firstCells i.size len (.slice (some ⟨(c.φ id).block,o',none⟩) len cap0)).run P c.w.drew= .ok ((List.range (len*(U e).sz)).map fun q=>us.getD (off+q) undef).toArray c.w.drew:=by
      rw [i2]
      by_cases h0:len=0
      ·subst h0
       simp [Builtin.firstCells,loadCells,loadCellsFrom]
      ·obtain ⟨rfl,_⟩:=hcp (by omega)
       have hd1:c.w.drew.heap=c.w.heap:=rfl;have:=run_loadCells (P:=P) c.w.drew ⟨(c.φ id).block,o',none⟩ (len*(U e).sz) (fun q=>us.getD (o' +q) undef) (fun j hj=>by
        rw [aT];have:o' +j<us.size:=by omega
        simp [World.cell?,hd1,u1,this])
       simpa [Builtin.firstCells] using this
     exact jC (P:=P) (U:=U) (tx:=tx) (ty:=ty) (Q:=Q) (a:=some ⟨(c.φ id).block,o',none⟩) (cap:=cap0) (m:=len) hd htx' i1 i2 i3 z1 z2 z3 c v hs g hy hsrc hsy hb hby hbyte hxl (by simp) (fun j hj=>by
       have hj2:j<len*(U e).sz:=by omega
       have e2:((cs.drop off).take (len*(U e).sz))[j]=cs[off+j]'(by omega):=by simp
       have e3:((List.range (len*(U e).sz)).map fun q=>us.getD (off+q) undef).getD j undef=us.getD (off+j) undef:=by simp [List.getD_eq_getElem?_getD,hj2]
       rw [e2,e3];exact u3 _ _) holds (by omega) hz hzf (hQ2 (by omega))
   ·exact hk.elim
  ·exact hk.elim
 ·exact hk.elim
theorem tX (hU:∀t,ax P U t) {h:Heap} {ts tx ty:TypeId} {x y:AV} {Q:AV→Heap→Prop} {ki:IntKind} (htx:(U tx).k= .int ki) (hk:rN U h ts x y Q) (c:Cx) (u v:Value)
  (hs:Sub h c.h) (g:Good c) (hx:Rep c x u) (hy:Rep c y v):
  ∃r w',(Builtin.append_ #[ts,tx] ty #[u,v]).run P c.w= .ok r w'∧bV c Q r w' :=by
 unfold rN at hk;have hd:=(hU ts).desc;have hdx:=(hU tx).desc;rw [htx] at hdx;split at hk
 ·rename_i e hty
  rw [hty] at hd;split at hk
  ·rename_i id off len cap0 sz0
   split at hk
   ·rename_i kk n
    obtain ⟨hz,hby,rfl,hn,hb,hzf,hgr,hk⟩:=hk;split at hk
    ·rename_i cs t hid
     obtain ⟨hle,hQ⟩:=hk;obtain ⟨i,i1,i2,i3,z,z1,z2,z3⟩:=(hU e).info hz;have hcid:=hs _ _ hid;obtain ⟨o',rfl,hc1,hc2,cs',t',hcs,hcp⟩:=hx.dF;rw [hcid] at hcs;simp only [Option.some.injEq,Blk.obj.injEq] at hcs;obtain ⟨rfl,rfl⟩:=hcs;obtain ⟨us,u1,u2,u3⟩:=g.obj id cs t hcid;have hbyte:len+n.toNat<lim:=by
      have:(len+n.toNat)≤(len+n.toNat)*(U e).bytes:=Nat.le_mul_of_pos_right _ (by omega)
      simp only [lim]; omega
     have hxl:((cs.drop off).take (len*(U e).sz)).length=len*(U e).sz:=by grind
     have holds:(Builtin.firstCells i.size len (.slice (some ⟨(c.φ id).block,o',none⟩) len cap0)).run P c.w.drew= .ok ((List.range (len*(U e).sz)).map fun q=>us.getD (off+q) undef).toArray c.w.drew:=by
      rw [i2]
      by_cases h0:len=0
      ·simp_all [Builtin.firstCells,loadCells,loadCellsFrom]
      ·obtain ⟨rfl,_⟩:=hcp (by omega)
       have hd1:c.w.drew.heap=c.w.heap:=rfl;have:=run_loadCells (P:=P) c.w.drew ⟨(c.φ id).block,o',none⟩ (len*(U e).sz) (fun q=>us.getD (o' +q) undef) (fun j hj=>by
        rw [aT];have:o' +j<us.size:=by omega
        simp [World.cell?,hd1,u1,this])
       simpa [Builtin.firstCells] using this
     obtain rfl:=hy.aK;have hn' :n=(n.toNat:Int):=by omega
     rw [hn'];exact qt (P:=P) (U:=U) (tx:=tx) (ty:=ty) (Q:=Q) (a:=some ⟨(c.φ id).block,o',none⟩) (cap:=cap0) (m:=len) (n:=n.toNat) hd hdx i1 i2 i3 z1 z2 z3 c hs g (by omega) hb hby hbyte hxl (by simp) (by grind) holds (by omega) hz hzf hQ
    ·exact hk.elim
   ·exact hk.elim
  ·exact hk.elim
 ·exact hk.elim
end
section
variable {P : Program} {U : TypeId → TI}
def callable (P : Program) (f : FuncId) : Prop := ∃ fn, P.funcs[f]? = some fn ∧ (fn.name == "runtime.NumGoroutine") = false ∧ fn.body.isNone = false
def nZ (P:Program) (f:FuncId) (vs:Array Value) (w:World) (K:Value→World→Prop):Prop:=
 (callable P f∧Calls P f vs w fun e w' =>∃u,e= .returned u∧K u w')∨∃u w',(callFunc f vs).run P w= .ok (.value u) w'∧K u w'
theorem nZ.mono {f} {vs} {w} {K K'} (h:nZ P f vs w K) (hk:∀u w',K u w'→K' u w'):nZ P f vs w K' :=by
 rcases h with ⟨h1,h2⟩|⟨u,w',h1,h2⟩
 ·exact .inl ⟨h1,h2.mono fun e w' ⟨u,h3,h4⟩=>⟨u,h3,hk _ _ h4⟩⟩
 ·exact .inr ⟨u,w',h1,hk _ _ h2⟩
theorem gO {f} (hc:callable P f) (vs) (w):(callFunc f vs).run P w= .ok (.enter f vs) w:=by
 obtain ⟨fn,hfn,hname,hbody⟩:=hc;have h3 : fn.name ≠ "runtime.NumGoroutine" := by grind
 have h4:fn.body≠none:=fun hh=>by rw [hh] at hbody; cases hbody
 simp [callFunc,hfn,h3,h4]
theorem nZ.calls {f} {vs} {w} {K} (hc:callable P f) (h:nZ P f vs w K):Calls P f vs w fun e w' =>∃u,e= .returned u∧K u w' :=by
 rcases h with ⟨h1,h2⟩|⟨u,w',h1,h2⟩
 ·omega
 grind [gO]
def aj (P:Program) (f:FuncId) (args:List AV) (h:Heap) (Q:AV→Heap→Prop):Prop:=
 ∀c (vs:Array Value),Sub h c.h→Good c→vs.size=args.length→(∀i (hi:i<args.length),Rep c args[i] (vs.getD i undef))→nZ P f vs c.w (bV c Q)
theorem bV.mono {c} {Q Q'} {u} {w'} (h:bV c Q u w') (hq:∀x h,Q x h→Q' x h):bV c Q' u w' :=by
 obtain ⟨c',x,h',h1,h2,h3,h4,h5,h6⟩:=h;exact ⟨c',x,h',h1,h2,h3,h4,h5,hq _ _ h6⟩
theorem aj.mono {f} {args} {h} {Q Q'} (hf:aj P f args h Q) (hq:∀x h,Q x h→Q' x h):aj P f args h Q' :=
 fun c vs h1 h2 h3 h4=>(hf c vs h1 h2 h3 h4).mono fun u w' h6=>h6.mono hq
def BJ (y:AV) (n:Nat):AV:=match y with
 | .ob id off len cap sz=> .ob id off (min len n) cap sz
 |y=>y
theorem vp {c} {y} {u} (n) (h:Rep c y u):∃u',Rep c (BJ y n) u'∧(∀sz k,Builtin.firstCells sz k u' =Builtin.firstCells sz k u)∧
  ∀w m,(Builtin.lenOf u').run P w= .ok m w→m≤n→∃m',(Builtin.lenOf u).run P w= .ok m' w∧Nat.min m' n=m:=by
 cases y with
 |ob id off len cap sz=>
  obtain ⟨o,rfl,h1,h2,cs,t,h3,h4⟩:=h.dF;refine ⟨.slice (some ⟨(c.φ id).block,o,none⟩) (min len n) cap, .ob _ _ _ _ _ _ cs t h3 (by omega) h2 h4,fun _ _=>rfl,fun w m hm hn=>⟨len,by rfl, ?_⟩⟩
  simp_all [Builtin.lenOf,Sem.run_pure,Result.ok.injEq,and_true]
 |_=>exact ⟨u,h,fun _ _=>rfl,fun w m hm hn=>⟨m,hm,Nat.min_eq_left hn⟩⟩
def sW (U:TypeId→TI) (h:Heap) (ts:TypeId) (x y:AV) (Q:AV→Heap→Prop):Prop:=
 match (U ts).k with
 | .slice e=>match x with
  | .oa id off len=>(U e).sz=1∧eD U e h y fun ys=>Sized 1 ys∧(∀z∈ys,aU z=false)∧match h id with
   |some (.obj cs t)=>ys.length≤len∧off+len≤cs.length∧Q (.v (.int .i64 ys.length)) (upd h id (some (.obj (over cs off ys) t)))
   |_=>False
  | .ob id off len _ sz=>(U e).sz≠0∧sz=(U e).sz∧eD U e h (BJ y len) fun ys=>Sized (U e).sz ys∧match h id with
   |some (.obj cs t)=>ys.length≤len∧off+len*(U e).sz≤cs.length∧Q (.v (.int .i64 ys.length)) (upd h id (some (.obj (over cs off (bx ys)) t)))
   |_=>False
  |_=>False
 |_=>False
def uy:Operand→Bool
 | .const (.slice none _ _)=>true
 |_=>false
def wP (U:TypeId→TI) (h:Heap) (op:BinOp) (ty:TypeId) (x:AV) (Q:AV→Heap→Prop):Prop:=
 match (U ty).k,op,x with
 | .slice _, .eql, .sl xs _=>∀b:Bool,(xs≠ []→b=false)→Q (.v (.bool b)) h
 | .slice _, .neq, .sl xs _=>∀b:Bool,(xs≠ []→b=true)→Q (.v (.bool b)) h
 | .slice _, .eql, .oa .. =>Q (.v (.bool false)) h
 | .slice _, .neq, .oa .. =>Q (.v (.bool true)) h
 | .slice _, .eql, .ob .. =>Q (.v (.bool false)) h
 | .slice _, .neq, .ob .. =>Q (.v (.bool true)) h
 |_,_,_=>False
def zl (sz m id:Nat):AV:=if sz=1 then .oa id 0 m else .ob id 0 m m sz
def nQ (m:List (AV×AV)) (b v:AV):List (AV×AV):=if (getM m b).isSome then m.map (fun p=>if jc p.1 b then (p.1,v) else p) else m++ [(b,v)]
def tN (U:TypeId→TI) (ρ:Env) (mt:TypeId):Option Operand→Prop
 |none=>True
 |some x=>(∃kt e,(U mt).k= .map kt e)∧withv ρ x fun a=>∃kk n,a= .v (.int kk n)
def aF (P:Program) (U:TypeId→TI) (ρ:Env) (h:Heap) (o:Oper) (Q:AV→Heap→Prop):Prop:=
 match o.op with
 | .alloc t=>if isUnit (U t).k then∀id,h id=none→Q (.ptr id 0) (upd h id (some (.obj [] t))) else (U t).sz≠0∧fit (U t).zero (U t).sz∧∀id,h id=none→Q (.ptr id 0) (upd h id (some (.obj (U t).zero.cells t)))
 | .box t x=>(U t).sz≠0∧withv ρ x fun y=>fit y (U t).sz∧∀id,h id=none→Q (.ptr id 0) (upd h id (some (.obj y.cells t)))
 | .store t a x=>if isUnit (U t).k then withv ρ a fun p=>withv ρ x fun y=>y= .agg []∧match p with
   | .ptr .. =>Q (.v undef) h
   |_=>False
  else (U t).sz≠0∧withv ρ a fun p=>withv ρ x fun y=>match p with
  | .ptr id off=>match h id with
   |some (.obj cs t')=>fit y (U t).sz∧off+(U t).sz≤cs.length∧Q (.v undef) (upd h id (some (.obj (over cs off y.cells) t')))
   |_=>False
  |_=>False
 | .makeSlice t l m=>withv ρ l fun a=>withv ρ m fun b=>match (U t).k,a,b with
  | .slice e, .v (.int _ n), .v (.int _ n')=>n=n'∧0≤n∧n<lim∧n*(U e).bytes≤281474976710656∧(U e).sz≠0∧fit (U e).zero (U e).sz∧
   ∀id,h id=none→Q (zl (U e).sz n.toNat id) (upd h id (some (.obj (bw (U e).zero n.toNat (U e).sz) e)))
  |_,_,_=>False
 | .makeMap mt r=>tN U ρ mt r∧∀id,h id=none→Q (.mp id) (upd h id (some (.mp [])))
 | .mapUpdate mt x y z=>withv ρ x fun a=>withv ρ y fun b=>withv ρ z fun v=>match (U mt).k,a with
  | .map kt e, .mp id=>cP (U kt).k b∧match h id with
   |some (.mp m)=>(∀p∈m,cP (U kt).k p.1)∧Q (.v undef) (upd h id (some (.mp (nQ m b v))))
   |_=>False
  |_,_=>False
 | .call c=>match c.callee with
  | .value q=>withv ρ q fun y=>match y with
   | .fn f cap=>withvs ρ c.args.toList fun ys=>aj P f (ys++cap) h Q
   |_=>False
  | .builtin .append=>match c.args.toList,c.argTypes.toList with
   | [x,y],[ts,tx]=>withv ρ x fun a=>withv ρ y fun b=>apT (ig U h ts a b Q) (rN U h ts a b Q) (U tx).k
   |_,_=>False
  | .builtin .copy=>match c.args.toList,c.argTypes.toList with
   | [x,y],[ts,_]=>withv ρ x fun a=>withv ρ y fun b=>sW U h ts a b Q
   |_,_=>False
  |_=>pv U ρ h o.op fun x=>Q x h
 | .binOp op ty x y _=>if uy y then withv ρ x fun a=>wP U h op ty a Q else pv U ρ h o.op fun x=>Q x h
 |_=>pv U ρ h o.op fun x=>Q x h
def eE (P:Program) (c:Cx) (Q:AV→Heap→Prop):Result Next→Prop
 | .ok (.value u) w' =>bV c Q u w'
 | .ok .skip w' =>bV c Q undef w'
 | .ok (.enter f args) w' =>w' =c.w∧Calls P f args w' fun e w'' =>∃u,e= .returned u∧bV c Q u w''
 |_=>False
theorem kR {ρ} {h} {o} {Q} (hU:∀t,ax P U t) (hp:pv U ρ h o.op fun x=>Q x h) {c} {a} {n} (hs:Sub h c.h) (g:Good c) (he:aP c n ρ a):
  eE P c Q ((execOp a.eval o).run P c.w):=by
 obtain ⟨X,hQ,hX⟩:=ni hU hp;obtain ⟨u,c',h1,h2,h3,h4,h5⟩:=hX c a n hs g he;rw [h1];exact ⟨c',X,h,rfl,h2,h3,h5,by grind,hQ⟩
theorem qp {h:Heap} {c:Cx} (hs:Sub h c.h) {id:Nat} (hid:c.h id=none):h id=none:=by
 cases hh:h id with
 |none=>rfl
 |some k=>rw [hs _ _ hh] at hid; omega
theorem gv {c} {h} {t} {y} {u} {n} {Q} (hs:Sub h c.h) (g:Good c) (hr:Rep c y u) (hf:fit y n)
  (hQ:∀id,h id=none→Q (.ptr id 0) (upd h id (some (.obj y.cells t)))):bV c Q (.pointer (some ⟨c.w.heap.size,0,none⟩)) (c.w.alloc (.cells u.cells t)):=by
 obtain ⟨id,hid⟩:=g.fresh;obtain ⟨f1,f2,f3,f4⟩:=hr.fits hf;refine ⟨c.ai (.cells u.cells t) id ⟨c.w.heap.size,0,none⟩ (.obj y.cells t),_,_,rfl, ?_,Ext.ai c _ id _ _ rfl (.inl hid), ?_,hs.upd id _,hQ id (qp hs hid)⟩
 ·refine g.ai _ _ (0,0) id _ _ rfl (.inl hid) (fun cs t' hh=> ?_) (fun n sz hh=>by simp)
  grind
 ·have:=Rep.ptr (c:=c.ai (.cells u.cells t) id ⟨c.w.heap.size,0,none⟩ (.obj y.cells t)) id 0 y.cells t (by simp [Cx.ai,ag])
  simpa [Cx.ai,ag] using this
theorem rq {ρ:Env} {h:Heap} {o:Oper} {Q:AV→Heap→Prop} {t:TypeId} (hU:∀t,ax P U t) (ho:o.op= .alloc t) (hz:(U t).sz≠0) (hf:fit (U t).zero (U t).sz)
  (hQ:∀id,h id=none→Q (.ptr id 0) (upd h id (some (.obj (U t).zero.cells t)))) {c:Cx} {a:Act} (hs:Sub h c.h) (g:Good c):eE P c Q ((execOp a.eval o).run P c.w):=by
 obtain ⟨i,i1,i2,i3,z,z1,z2,z3⟩:=(hU t).info hz;have hz0:(zeroValue t).run P c.w= .ok z c.w:=by simp_all [zeroValue,typeInfo]
 have:=gv (t:=t) hs g (z3 c) hf hQ;have hr:(execOp a.eval o).run P c.w= .ok (.value (.pointer (some ⟨c.w.heap.size,0,none⟩))) (c.w.alloc (.cells z.cells t)):=by
  simp_all [execOp,Instr.alloc,newVar,newRow]
 rw [hr];exact this
theorem uH {ρ} {h} {o} {Q} {t} {x} (ho:o.op= .box t x)
  (hk:withv ρ x fun y=>fit y (U t).sz∧∀id,h id=none→Q (.ptr id 0) (upd h id (some (.obj y.cells t)))) {c} {a} {n} (hs:Sub h c.h) (g:Good c) (he:aP c n ρ a):
  eE P c Q ((execOp a.eval o).run P c.w):=by
 obtain ⟨y,hy,hf,hQ⟩:=an hk;have:=gv (t:=t) hs g (ak he hy) hf hQ;have hr:(execOp a.eval o).run P c.w= .ok (.value (.pointer (some ⟨c.w.heap.size,0,none⟩))) (c.w.alloc (.cells (a.eval x).cells t)):=by
  simp [execOp,ho,Instr.box,newVar,newRow]
 rw [hr];exact this
theorem rC {ρ} {h} {o} {Q} {t} {p x} (hU:∀t,ax P U t) (ho:o.op= .store t p x) (hk:aF P U ρ h o Q) {c} {a} {n} (hs:Sub h c.h) (g:Good c) (he:aP c n ρ a):
  eE P c Q ((execOp a.eval o).run P c.w):=by
 simp only [aF,ho] at hk
 by_cases hun:isUnit (U t).k=true
 ·rw [if_pos hun] at hk
  obtain ⟨i,i1,_,i3⟩:=(hU t).unit (ko hun);obtain ⟨A,hA,hk⟩:=an hk;obtain ⟨y,hy,hk2⟩:=an hk;obtain ⟨rfl,hk2⟩:=hk2;split at hk2
  ·obtain ⟨hu,_⟩:=(ak he hA).dX
   obtain ⟨vs,hv,hn,_⟩:=(ak he hy).gh;have hr:(execOp a.eval o).run P c.w= .ok .skip c.w:=by
    simp_all [execOp,Instr.storeAt,Instr.sureAddr,storeVar,sizeOf,typeInfo,Value.cells,storeCells]
   rw [hr];exact ⟨c,_,h,rfl,g, .refl c, .v _,hs,hk2⟩
  grind
 rw [if_neg hun] at hk;obtain ⟨hz,hk⟩:=hk;obtain ⟨A,hA,hk⟩:=an hk;obtain ⟨y,hy,hk2⟩:=an hk;split at hk2
 ·rename_i id off
  split at hk2
  ·rename_i cs t' hid
   obtain ⟨hf,hb,hQ⟩:=hk2;obtain ⟨f1,f2,f3,f4⟩:=(ak he hy).fits hf;obtain ⟨hu,_⟩:=(ak he hA).dX;obtain ⟨h1,h2⟩:=di (P:=P) (off:=off) (xs:=y.cells) (vs:=(a.eval x).cells.toList) (u:=undef) (X:= .v undef) hs g hid (by grind) (by omega)
    (by simp_all) (fun _ _=> .v _) hQ
   have hr:(execOp a.eval o).run P c.w= .ok .skip (c.w.setCells (c.φ id).block off (a.eval x).cells.toList):=by
    simp [execOp,ho,Instr.storeAt,hu,Instr.sureAddr,storeVar,aI hU hz,f1,h1]
   rw [hr];exact h2
  grind
 grind
theorem nV {ρ} {h} {o} {Q} {mt} {r} (hU:∀t,ax P U t) (ho:o.op= .makeMap mt r) (hr:tN U ρ mt r) (hk:∀id,h id=none→Q (.mp id) (upd h id (some (.mp []))))
  {c} {a} {n} (hs:Sub h c.h) (g:Good c) (he:aP c n ρ a):eE P c Q ((execOp a.eval o).run P c.w):=by
 obtain ⟨id,hid⟩:=g.fresh;have hfr:h id=none:=by
  cases hh:h id with
  |none=>rfl
  |some k=>rw [hs _ _ hh] at hid; omega
 have hrun:(execOp a.eval o).run P c.w= .ok (.value (.map (some c.w.heap.size))) (c.w.alloc (.map #[] 0)):=by
  cases r with
  |none=>simp [execOp,ho,Instr.makeMap]
  |some x=>
   obtain ⟨⟨kt,e,hty⟩,hv⟩:=hr;have hd:=(hU mt).desc;rw [hty] at hd;obtain ⟨A,hA,kk,m,rfl⟩:=an hv;simp [execOp,ho,Instr.makeMap,run_underlying hd,(ak he hA).aK,asInt,asIntOf]
 rw [hrun];refine ⟨c.ai (.map #[] 0) id ⟨c.w.heap.size,0,none⟩ (.mp []),_,_,rfl,g.allocMap id hid,Ext.ai _ _ id _ _ rfl (.inl hid), ?_,hs.upd id _,hk id hfr⟩;have:=Rep.mp (c:=c.ai (.map #[] 0) id ⟨c.w.heap.size,0,none⟩ (.mp [])) id [] (by simp [Cx.ai,ag])
 simpa [Cx.ai,ag] using this
theorem lT {ρ} {h} {o} {Q} {mt} {x y z} (hU:∀t,ax P U t) (ho:o.op= .mapUpdate mt x y z)
  (hk:withv ρ x fun a=>withv ρ y fun b=>withv ρ z fun v=>match (U mt).k,a with
   | .map kt e, .mp id=>cP (U kt).k b∧match h id with
    |some (.mp m)=>(∀p∈m,cP (U kt).k p.1)∧Q (.v undef) (upd h id (some (.mp (nQ m b v))))
    |_=>False
   |_,_=>False)
  {c} {a} {n} (hs:Sub h c.h) (g:Good c) (he:aP c n ρ a):eE P c Q ((execOp a.eval o).run P c.w):=by
 obtain ⟨A,hA,hk⟩:=an hk;obtain ⟨b,hB,hk⟩:=an hk;obtain ⟨v,hV,hk⟩:=an hk;have hd:=(hU mt).desc;split at hk
 ·rename_i kt e id hty hp' hp''
  clear hp' hp'';rw [hty] at hd;obtain ⟨hb,hk⟩:=hk;split at hk
  ·rename_i m hid
   obtain ⟨hm,hQ⟩:=hk;have hcid:=hs _ _ hid;obtain ⟨hu,_⟩:=(ak he hA).sw;have hv:=qA hb (ak he hB);have hval:=ak he hV;obtain ⟨es,cl,e1,e2,e3⟩:=g.mp id m hcid;obtain ⟨K,l,hl⟩:=jE hU hb;have hchk:=K.check c.w false hl;have hg:=g.keys id m hcid;rcases qn hU hb hm e2 (fun i h1 h2=>(e3 i h1 h2).1) c.w with ⟨f1,f2⟩|⟨j,hj,hj',f1,f2⟩
   ·have hget:=getM_none hb hm f2
    have hset:nQ m b v=m++ [(b,v)]:=by grind [nQ]
    have hrun:(execOp a.eval o).run P c.w= .ok .skip (c.turn id (es.push {key:=dj b,val:=a.eval z,born:=cl}) (cl+1) (m++ [(b,v)])).w:=by
     simp [execOp,ho,hu,hv,Instr.mapUpdate,run_underlying hd,MapKept.run_getObj_map e1,hchk,f1,MapKept.run_setObj_map _ e1,Cx.turn]
     try rfl
    rw [hrun];rw [hset] at hQ;refine ⟨c.turn id (es.push {key:=dj b,val:=a.eval z,born:=cl}) (cl+1) (m++ [(b,v)]),_,_,rfl,g.turn id _ es _ cl _ m hcid e1 (by grind) (fun i h1 h2=> ?_) ?_,Ext.turn id _ es _ cl _ m hcid e1, .v _,hs.upd id _,hQ⟩
    ·grind
    grind
   ·have hget:=o5 hb hm hg j hj f2
    have hset:nQ m b v=m.map (fun p=>if jc p.1 b then (p.1,v) else p):=by grind [nQ]
    have hst:=K.stays c.w hl;have hkey:es[j].key=dj b:=(e3 j hj hj').1.trans f2;have hrun:(execOp a.eval o).run P c.w= .ok .skip (c.turn id (es.modify j fun e=> {e with key:=dj b,val:=a.eval z}) cl (m.map (fun p=>if jc p.1 b then (p.1,v) else p))).w:=by
     simp [execOp,ho,hu,hv,Instr.mapUpdate,run_underlying hd,MapKept.run_getObj_map e1,hchk,f1,hj',hkey,hst,MapKept.run_setObj_map _ e1,Cx.turn]
     try rfl
    rw [hrun];rw [hset] at hQ;refine ⟨c.turn id (es.modify j fun e=> {e with key:=dj b,val:=a.eval z}) cl (m.map (fun p=>if jc p.1 b then (p.1,v) else p)),_,_,rfl,g.turn id _ es _ cl _ m hcid e1 (by grind) (fun i h1 h2=> ?_) ?_,Ext.turn id _ es _ cl _ m hcid e1, .v _,hs.upd id _,hQ⟩
    ·have hi:i<m.length:=by grind
     have h3:i<es.size:=by omega
     rw [Array.getElem_modify,Gr]
     by_cases hij:j=i
     ·subst hij
      have hke:jc m[j].1 b=true:=(gU (hm _ (Gv hj)) hb).2 f2;rw [if_pos rfl,if_pos hke];exact ⟨f2.symm,hval⟩
     ·have hke:jc m[i].1 b=false:=by
       cases hh:jc m[i].1 b with
       |false=>rfl
       |true=>
        grind [gU,Gv,List.pairwise_iff_getElem,Nat.lt_or_gt_of_ne]
      rw [if_neg hij,if_neg (by grind)]
      exact e3 i hi h3
    grind
  ·exact hk.elim
 ·exact hk.elim
theorem lS {ρ} {h} {o} {Q} {t} {l m} (hU:∀t,ax P U t) (ho:o.op= .makeSlice t l m) (hk:aF P U ρ h o Q) {c} {a} {n} (hs:Sub h c.h) (g:Good c) (he:aP c n ρ a):
  eE P c Q ((execOp a.eval o).run P c.w):=by
 simp only [aF,ho] at hk;obtain ⟨A,hA,hk⟩:=an hk;obtain ⟨B,hB,hk2⟩:=an hk;clear hk;have hd:=(hU t).desc;split at hk2
 ·rename_i e k1 n1 k2 n2 hty
  rw [hty] at hd;obtain ⟨rfl,h0,hlim,hbytes,hz,hf,hQ⟩:=hk2;obtain ⟨i,i1,i2,i3,z,z1,z2,z3⟩:=(hU e).info hz;have hz0:(zeroValue e).run P c.w= .ok z c.w:=by simp_all [zeroValue,typeInfo]
  obtain ⟨f1,f2,f3,f4⟩:=(z3 c).fits hf;have hw:IntKind.i64.wrap n1=n1:=by
   grind [lim,IntWalk.i64_in]
  generalize hcells:(Array.range (n1.toNat*(U e).sz)).map (fun j=>(if n1.toNat*(U e).sz=0 then #[] else z.cells)[j % (if n1.toNat*(U e).sz=0 then #[] else z.cells).size]!)=cells
  have hr:(execOp a.eval o).run P c.w= .ok (.value (.slice (some ⟨c.w.heap.size,0,none⟩) n1.toNat n1.toNat)) (c.w.alloc (.cells cells e)):=by
   have hcap:¬(n1<0∨281474976710656<(U e).bytes*n1):=by
    grind
   have h00:¬(n1<0):=by omega
   have hcap' :¬(281474976710656<(U e).bytes*n1):=fun hh=>hcap (.inr hh)
   by_cases hn:n1.toNat*(U e).sz=0
   ·simp only [hn,if_true] at hcells
    simp [execOp,ho,(ak he hA).aK,(ak he hB).aK,Instr.makeSlice,run_underlying hd,asInt,asIntOf,typeInfo,i1,i3,hw,aI hU hz,newRow,hcap',h00,hn];simp at hcells;rw [←hcells]
   ·simp only [hn,if_false] at hcells
    simp [execOp,ho,(ak he hA).aK,(ak he hB).aK,Instr.makeSlice,run_underlying hd,asInt,asIntOf,typeInfo,i1,i3,hw,aI hU hz,newRow,hcap',h00,hn,hz0,hcells]
  rw [hr];obtain ⟨id,hid⟩:=g.fresh;refine ⟨c.ai (.cells cells e) id ⟨c.w.heap.size,0,none⟩ (.obj (bw (U e).zero n1.toNat (U e).sz) e),_,_,rfl, ?_,Ext.ai c _ id _ _ rfl (.inl hid), ?_,hs.upd id _,hQ id (qp hs hid)⟩
  ·refine g.ai _ _ (0,0) id _ _ rfl (.inl hid) (fun cs t' hh=> ?_) (fun n sz hh=>by simp)
   cases hh;have hsz:cells.size=n1.toNat*(U e).sz:=by grind
   refine ⟨rfl,rfl,by grind [bw],fun j hj=> ?_⟩
   have hj' :j<n1.toNat*(U e).sz:=by grind [bw]
   have hmod:j % (U e).sz<(U e).sz:=Nat.mod_lt _ (by omega)
   have e1:(bw (U e).zero n1.toNat (U e).sz)[j]=(U e).zero.cells[j % (U e).sz]'(by omega):=by
    grind [bw]
   have e2:cells.getD j undef=z.cells.getD (j % (U e).sz) undef:=by
    rw [←hcells];have hne:¬(n1.toNat*(U e).sz=0):=by omega
    simp only [hne,if_false];have h9:j % (U e).sz<z.cells.size:=by omega
    simp [hj',z2];rw [getElem!_pos z.cells (j % (U e).sz) h9,Array.getElem?_eq_getElem h9];rfl
   rw [e1,e2];exact ⟨f3 _ (by omega),f4 _ hmod⟩
  ·have r1:=Rep.oa (c:=c.ai (.cells cells e) id ⟨c.w.heap.size,0,none⟩ (.obj (bw (U e).zero n1.toNat (U e).sz) e)) id 0 n1.toNat n1.toNat 0 (bw (U e).zero n1.toNat (U e).sz) e
    (by simp [Cx.ai,ag]) (Nat.le_refl _) (by omega) (fun _=>⟨rfl,by simp only [bw,Gq,List.length_range]; have:=Nat.le_mul_of_pos_right n1.toNat (show 0<(U e).sz by omega); omega⟩)
   have r2:=Rep.ob (c:=c.ai (.cells cells e) id ⟨c.w.heap.size,0,none⟩ (.obj (bw (U e).zero n1.toNat (U e).sz) e)) id 0 n1.toNat n1.toNat (U e).sz 0 (bw (U e).zero n1.toNat (U e).sz) e
    (by simp [Cx.ai,ag]) (Nat.le_refl _) (by omega) (fun _=>⟨rfl,by grind [bw,Gq,List.length_range]⟩)
   simp only [Cx.ai,ag] at r1 r2;unfold zl;split
   ·simpa [Cx.ai,ag] using r1
   ·simpa [Cx.ai,ag] using r2
 ·exact hk2.elim
theorem sN {h} {ts tx ty} {x y} {Q} (hU:∀t,ax P U t) (hk:sW U h ts x y Q) (c) (u v)
  (hs:Sub h c.h) (g:Good c) (hx:Rep c x u) (hy:Rep c y v):
  ∃r w',(Builtin.copy_ #[ts,tx] ty #[u,v]).run P c.w= .ok r w'∧bV c Q r w' :=by
 unfold sW at hk;have hd:=(hU ts).desc;split at hk
 ·rename_i e hty
  rw [hty] at hd;split at hk
  ·rename_i id off len
   obtain ⟨hz,hk⟩:=hk;obtain ⟨ys,hk',hsrc⟩:=hO (P:=P) (by omega) hk
   clear hk;obtain ⟨hsy,hna,hk⟩:=hk';split at hk
   ·rename_i cs t hid
    obtain ⟨hle,hb,hQ⟩:=hk;rw [hz] at hsrc;obtain ⟨hl,val,row,hlen,hfirst⟩:=hsrc c v hs g hy hsy;obtain ⟨cap,o',rfl,h1,h2,h3,_⟩:=hx.fh;have hcells:∀i (hi:i<ys.length),ys[i].cells= [ys[i]]:=fun i hi=>by
     have hh:=hna _ (Gv hi);generalize ys[i]=q at hh;cases q<;>simp [aU] at hh<;>rfl
    have hrow:∀i (hi:i<ys.length),Rep c ys[i] (val i 0):=fun i hi=>by
     have:=row.hr i hi 0 (by grind)
     simpa only [hcells i hi,List.getElem_singleton] using this
    have hget:∀j,j<ys.length→(aM 1 ys.length val).getD j undef=val j 0:=fun j hj=>by
     have:=cR (sz:=1) (n:=ys.length) (val:=val) hj (show 0<1 by omega)
     rw [Nat.mul_one,Nat.add_zero] at this;simp [List.getD,this]
    obtain ⟨s1,s2⟩:=di (P:=P) (off:=off) (xs:=ys) (vs:=aM 1 ys.length val) (u:= .int .i64 ys.length) (X:= .v (.int .i64 ys.length)) hs g hid (by simp [aA]) (by omega)
     (fun j hj=>by rw [hget j hj]; exact ⟨hrow j hj,row.ho j 0 hj (by omega)⟩) (fun _ _=> .v _) hQ
    refine ⟨_,_, ?_,s2⟩;have hmin:Nat.min ys.length len=ys.length:=by grind
    by_cases h0:ys.length=0
    ·have e0:aM 1 ys.length val= []:=by grind [aM]
     rw [e0] at hfirst s1⊢;simp [Builtin.copy_,run_underlying hd,hlen,hmin,aI hU (show (U e).sz≠0 by omega),hz,hfirst,goInt,storeCells,World.setCells]
    ·obtain rfl:=h3 (by omega)
     simp [Builtin.copy_,run_underlying hd,hlen,hmin,aI hU (show (U e).sz≠0 by omega),hz,hfirst,goInt,s1]
   ·exact hk.elim
  ·rename_i id off len cap0 sz0
   obtain ⟨hz,rfl,hk⟩:=hk;obtain ⟨ys,hk',hsrc⟩:=hO (P:=P) hz hk;clear hk;obtain ⟨hsy,hk⟩:=hk';split at hk
   ·rename_i cs t hid
    obtain ⟨hle,hb,hQ⟩:=hk;obtain ⟨v',hy',hfc,hlv⟩:=vp (P:=P) len hy;obtain ⟨hl,val,row,hlen,hfirst⟩:=hsrc c v' hs g hy' hsy;rw [hfc] at hfirst;obtain ⟨m',hm1,hm2⟩:=hlv c.w _ (hlen c.w) hle;obtain ⟨o',rfl,h1,h2,cs',t',h4,h5⟩:=hx.dF;obtain ⟨hly,hry⟩:=row.flat (by omega)
    have hle2:ys.length*(U e).sz≤len*(U e).sz:=Nat.mul_le_mul_right _ hle;obtain ⟨s1,s2⟩:=di (P:=P) (off:=off) (xs:=bx ys) (vs:=aM (U e).sz ys.length val) (u:= .int .i64 ys.length) (X:= .v (.int .i64 ys.length)) hs g hid (by grind [aA]) (by omega)
     hry (fun _ _=> .v _) hQ
    refine ⟨_,_, ?_,s2⟩
    by_cases h0:ys.length=0
    ·have e0:aM (U e).sz ys.length val= []:=by grind [aM]
     rw [e0] at hfirst s1⊢;simp [Builtin.copy_,run_underlying hd,hm1,hm2,aI hU hz,hfirst,goInt,storeCells,World.setCells]
    ·obtain ⟨rfl,_⟩:=h5 (by omega)
     simp [Builtin.copy_,run_underlying hd,hm1,hm2,aI hU hz,hfirst,goInt,s1]
   ·exact hk.elim
  ·exact hk.elim
 ·exact hk.elim
theorem sM {f} {h} {Q} {ys} (hf:aj P f ys h Q) {c} (hs:Sub h c.h) (g:Good c) {vs} (h1:vs.size=ys.length) (h2:∀i (hi:i<ys.length),Rep c ys[i] (vs.getD i undef)):
  eE P c Q ((callFunc f vs).run P c.w):=by
 rcases hf c vs hs g h1 h2 with ⟨hc,hcall⟩|⟨u,w',hr,hk⟩
 ·rw [gO hc]
  exact ⟨rfl,hcall⟩
 ·rw [hr]
  exact hk
theorem kV {c} {Q} {s} {r} {w'} (hr:s.run P c.w= .ok r w') (hc:bV c Q r w'):eE P c Q ((do pure (.value (←s)):Sem Next).run P c.w):=by
 simp only [Sem.run_bind,hr,Result.andThen_ok,Sem.run_pure];exact hc
theorem bP {ty e} (h:P.underlying ty=some (.slice e)) (d) (a) (l k l' k') (w):(Op.equalIn (d+1) ty (.slice a l k) (.slice none l' k')).run P w= .ok a.isNone w:=by
 cases a<;>simp [Op.equalIn,run_underlying h]
theorem uM {ρ} {h} {o} {Q} {op} {t t'} {x y} (hU:∀t,ax P U t) (ho:o.op= .binOp op t x y t') (hy:uy y=true) (hk:withv ρ x fun a=>wP U h op t a Q)
  {c} {a} {n} (hs:Sub h c.h) (g:Good c) (he:aP c n ρ a):eE P c Q ((execOp a.eval o).run P c.w):=by
 obtain ⟨A,hA,hk2⟩:=an hk;clear hk;obtain ⟨l',k',rfl⟩:∃l' k',y= .const (.slice none l' k'):=by
  unfold uy at hy
  grind
 have hev:a.eval (.const (.slice none l' k'))= .slice none l' k' :=rfl;have hd:=(hU t).desc;have hgu:∀ad l k,(eqGuard op t x (.const (.slice none l' k')) (.slice ad l k) (.slice none l' k')).run P c.w= .ok () c.w:=fun ad l k=>cQ _ _ _ _ _ _ _ rfl
 unfold wP at hk2;split at hk2
 ·rename_i e xs p hty
  rw [hty] at hd;obtain ⟨ad,cap,sz,val,hu,sl⟩:=(ak he hA).dc;have h1:(execOp a.eval o).run P c.w= .ok (.value (.bool ad.isNone)) c.w:=by
   simp_all [execOp,binOp,dY,bP]
  rw [h1];refine ⟨c,_,h,rfl,g, .refl c, .v _,hs,hk2 _ fun hne=> ?_⟩
  cases ad with
  |some q=>rfl
  |none=>have:=sl.h0 rfl; have:=sl.hc; have:=List.length_pos_iff.2 hne; omega
 ·rename_i e xs p hty
  rw [hty] at hd;obtain ⟨ad,cap,sz,val,hu,sl⟩:=(ak he hA).dc;have h1:(execOp a.eval o).run P c.w= .ok (.value (.bool (!ad.isNone))) c.w:=by
   simp_all [execOp,binOp,dY,bP]
  rw [h1];refine ⟨c,_,h,rfl,g, .refl c, .v _,hs,hk2 _ fun hne=> ?_⟩
  cases ad with
  |some q=>rfl
  |none=>have:=sl.h0 rfl; have:=sl.hc; have:=List.length_pos_iff.2 hne; omega
 ·rename_i e id off len hty
  rw [hty] at hd;obtain ⟨cap,o',hu,_⟩:=(ak he hA).fh;have h1:(execOp a.eval o).run P c.w= .ok (.value (.bool false)) c.w:=by
   simp_all [execOp,binOp,dY,bP]
  rw [h1];exact ⟨c,_,h,rfl,g, .refl c, .v _,hs,hk2⟩
 ·rename_i e id off len hty
  rw [hty] at hd;obtain ⟨cap,o',hu,_⟩:=(ak he hA).fh;have h1:(execOp a.eval o).run P c.w= .ok (.value (.bool true)) c.w:=by
   simp_all [execOp,binOp,dY,bP]
  rw [h1];exact ⟨c,_,h,rfl,g, .refl c, .v _,hs,hk2⟩
 ·rename_i e id off len cap0 sz0 hty
  rw [hty] at hd;obtain ⟨o',hu,_⟩:=(ak he hA).dF;have h1:(execOp a.eval o).run P c.w= .ok (.value (.bool false)) c.w:=by
   simp_all [execOp,binOp,dY,bP]
  rw [h1];exact ⟨c,_,h,rfl,g, .refl c, .v _,hs,hk2⟩
 ·rename_i e id off len cap0 sz0 hty
  rw [hty] at hd;obtain ⟨o',hu,_⟩:=(ak he hA).dF;have h1:(execOp a.eval o).run P c.w= .ok (.value (.bool true)) c.w:=by
   simp_all [execOp,binOp,dY,bP]
  rw [h1];exact ⟨c,_,h,rfl,g, .refl c, .v _,hs,hk2⟩
 ·exact hk2.elim
theorem fq {ρ} {h} {o} {Q} (hU:∀t,ax P U t) (hk:aF P U ρ h o Q) {c} {a} {n} (hs:Sub h c.h) (g:Good c) (he:aP c n ρ a):
  eE P c Q ((execOp a.eval o).run P c.w):=by
 have hk0:=hk;unfold aF at hk;split at hk
 ·rename_i t ho
  split at hk
  ·rename_i hun
   obtain ⟨i,i1,i2,_⟩:=(hU t).unit (ko hun);have hz0:(zeroValue t).run P c.w= .ok (.agg #[]) c.w:=by simp_all [zeroValue,typeInfo]
   have:=gv (t:=t) (y:= .agg []) (u:= .agg #[]) (n:=0) hs g (.agg [] #[] rfl (by simp) (by simp)) rfl hk
   have hr:(execOp a.eval o).run P c.w= .ok (.value (.pointer (some ⟨c.w.heap.size,0,none⟩))) (c.w.alloc (.cells (Value.agg #[]).cells t)):=by
    simp_all [execOp,Instr.alloc,newVar,newRow]
   rw [hr];exact this
  ·exact rq (ρ:=ρ) hU ho hk.1 hk.2.1 hk.2.2 hs g
 ·rename_i t x ho
  exact uH ho hk.2 hs g he
 ·rename_i t p x ho
  exact rC hU ho hk0 hs g he
 ·rename_i t l m ho
  exact lS hU ho hk0 hs g he
 ·rename_i t r ho
  exact nV hU ho hk.1 hk.2 hs g he
 ·rename_i t x y z ho
  exact lT hU ho hk hs g he
 ·rename_i cl ho
  obtain ⟨callee,args,ts⟩:=cl;simp only at hk;split at hk
  ·rename_i q
   obtain ⟨y,hy,hk⟩:=an hk;split at hk
   ·rename_i f cap
    obtain ⟨ys,hys,hk⟩:=bY hk;obtain ⟨vs,hu,hn,hr⟩:=(ak he hy).si;obtain ⟨h1,h2⟩:=lY he _ _ hys;have:(execOp a.eval o).run P c.w=(callFunc f (args.map a.eval++vs)).run P c.w:=by
     grind [execOp,resolve,Deferred.ofValue,invoke]
    rw [this];refine sM hk hs g (by grind) fun i hi=> ?_
    have hsz:(args.map a.eval).size=ys.length:=by grind
    by_cases hlt:i<ys.length
    ·have e1:(ys++cap)[i]=ys[i]:=by grind
     have hlt' :i<args.size:=by grind
     have:=h2 i (by omega) hlt
     rw [e1];have e2:(args.map a.eval++vs).getD i undef=a.eval args.toList[i]:=by
      have h9:i<(args.map a.eval++vs).size:=by grind
      rw [Array.getD,dif_pos h9]
      show (args.map a.eval++vs)[i]=_
      grind
     rw [e2];exact this
    ·have hi' :i<ys.length+cap.length:=by grind
     have e1:(ys++cap)[i]=cap[i - ys.length]:=by grind
     rw [e1];have e2:(args.map a.eval++vs).getD i undef=vs.getD (i - ys.length) undef:=by
      have h9:i<(args.map a.eval++vs).size:=by grind
      have h8:i - ys.length<vs.size:=by omega
      rw [Array.getD,dif_pos h9,Array.getD,dif_pos h8]
      show (args.map a.eval++vs)[i]=_
      rw [Array.getElem_append_right (by omega)]
      simp_all
     rw [e2];exact hr _ (by omega)
   ·exact hk.elim
  ·split at hk
   ·rename_i x y t1 t2 hA hB
    obtain ⟨A,hA',hk⟩:=an hk;obtain ⟨B,hB',hk2⟩:=an hk;obtain ⟨r,w',hr,hc⟩:∃r w',(Builtin.append_ #[t1,t2] o.type #[a.eval x,a.eval y]).run P c.w= .ok r w'∧bV c Q r w' :=by
     unfold apT at hk2;split at hk2
     ·rename_i ki hki
      exact tX hU hki hk2 c _ _ hs g (ak he hA') (ak he hB')
     ·rename_i hki
      exact jw (P:=P) (ty:=o.type) hU (by rw [hki]; rfl) hk2 c _ _ hs g (ak he hA') (ak he hB')
     ·rename_i hki
      exact jw (P:=P) (ty:=o.type) hU (by rw [hki]; rfl) hk2 c _ _ hs g (ak he hA') (ak he hB')
     grind
    rw [aO ho];have e1:args= #[x,y]:=by grind
    have e2:ts= #[t1,t2]:=by grind
    subst e1; subst e2
    exact kV (by grind) hc
   ·exact hk.elim
  ·split at hk
   ·rename_i x y t1 t2 hA hB
    obtain ⟨A,hA',hk⟩:=an hk;obtain ⟨B,hB',hk2⟩:=an hk;obtain ⟨r,w',hr,hc⟩:=sN (P:=P) (tx:=t2) (ty:=o.type) hU hk2 c _ _ hs g (ak he hA') (ak he hB');rw [aO ho];have e1:args= #[x,y]:=by grind
    have e2:ts= #[t1,t2]:=by grind
    subst e1; subst e2
    exact kV (by grind) hc
   ·exact hk.elim
  ·exact kR hU hk hs g he
 ·rename_i op ty x y t' ho
  split at hk
  ·rename_i hy
   exact uM hU ho hy hk hs g he
  ·exact kR hU (by omega) hs g he
 ·exact kR hU hk hs g he
end
section
variable (P : Program) (U : TypeId → TI) (n : Nat)
def gQ (all:List Oper) (g:Nat):Option Tmp:=(all[g]?).bind (·.dst)
def fM (all:List Oper) (ρ:Env) (gd:Option (Nat×Bool)) (yes no:Env→Prop):Prop:=
 match gd with
 |none=>yes ρ
 |some (g,want)=>match gQ all g with
  |some d=>match lk ρ d with
   |some (.v (.bool t))=>(t=want→yes ((d, .v (.bool want))::ρ))∧(t= !want→no ((d, .v (.bool (!want)))::ρ))
   |some (.v (.tuple _))=>no ρ
   |_=>False
  |none=>False
def KOp (k:Env→Heap→Prop) (ρ:Env) (d:Option Tmp) (x:AV) (h:Heap):Prop:=k (put ρ d x) h
def dK (all:List Oper):List Oper→Env→Heap→(Env→Heap→Prop)→Prop
 | [],ρ,h,K=>K ρ h
 |o::os,ρ,h,K=>bS n o.dst=true∧fM all ρ o.guard
   (fun ρ=>aF P U ρ h o (KOp (fun ρ h=>dK all os ρ h K) ρ o.dst))
   (fun ρ=>dK all os (put ρ o.dst (.v undef)) h K)
def WPK (K:Exit→Env→Heap→Prop) (c0:Cx) (e:Exit) (a:Act) (w:World):Prop:=
 ∃c ρ h,c.w=w∧Good c∧Ext c0 c∧aP c n ρ a∧Sub h c.h∧K e ρ h
end
section
variable {P : Program} {U : TypeId → TI} {n : Nat}
theorem aP.learn {c} {ρ} {a} (h:aP c n ρ a) {d} {t} (hd:lk ρ d=some (.v (.bool t))) {b} (hb:t=b):aP c n ((d, .v (.bool b))::ρ) a:=by
 subst hb;refine ⟨h.size,h.defers,fun t' x hx=> ?_⟩
 simp only [lk] at hx;split at hx
 ·rename_i e; subst e
  cases hx;exact h.rep _ _ hd
 ·exact h.rep _ _ hx
theorem uO {c} {ρ} {a} (h:aP c n ρ a) {d} {u} (hd:lk ρ d=some (.v u)) (hu:u≠undef∨d<a.tmps.size):a.tmps[d]? =some u:=by
 have:=(h.rep d _ hd).aK
 by_cases hlt:d<a.tmps.size
 ·simpa [hlt] using this
 ·have e:a.tmps.getD d undef=undef:=by grind
  rw [e] at this;rcases hu with hu|hu
  ·exact (hu this.symm).elim
  ·exact (hlt hu).elim
theorem qu {all} {ρ} {o} {yes no} (hg:fM all ρ o.guard yes no) {c} {a} (he:aP c n ρ a):
  ∃ρ',aP c n ρ' a∧((Region.wanted o (yielded all.toArray a.tmps)=true∧yes ρ')∨(Region.wanted o (yielded all.toArray a.tmps)=false∧no ρ')):=by
 unfold fM at hg;split at hg
 ·grind [Region.wanted]
 ·rename_i g want hgd
  split at hg
  ·rename_i d hd
   have hd' :(all[g]?).bind (·.dst)=some d:=hd
   split at hg
   ·rename_i t ht
    obtain ⟨h1,h2⟩:=hg;have hy:yielded all.toArray a.tmps g=some t:=by
     have:=uO he ht (by grind [undef])
     simp [yielded,hd',this]
    by_cases e:t=want
    ·exact ⟨_,he.learn ht e, .inl ⟨by grind [Region.wanted],h1 e⟩⟩
    ·have e' :t= !want:=by cases t<;>cases want<;>simp_all
     exact ⟨_,he.learn ht e', .inr ⟨by grind [Region.wanted],h2 e'⟩⟩
   ·rename_i vs ht
    refine ⟨ρ,he, .inr ⟨?_,hg⟩⟩;have hy:yielded all.toArray a.tmps g=none:=by
     have:=(he.rep _ _ ht).aK
     by_cases hlt:d<a.tmps.size
     ·have e:a.tmps[d]? =some (.tuple vs):=by simp_all
      simp [yielded,hd',e]
     ·have e:a.tmps[d]? =none:=by grind
      simp [yielded,hd',e]
    simp [Region.wanted,hgd,hy]
   ·exact hg.elim
  grind
theorem WPK.after {K} {c0 c1} (he:Ext c0 c1) {e} {a} {w} (h:WPK n K c1 e a w):WPK n K c0 e a w:=by
 obtain ⟨c,ρ,hh,h1,h2,h3,h4⟩:=h;exact ⟨c,ρ,hh,h1,h2,he.trans h3,h4⟩
theorem ij (hU:∀t,ax P U t) {all} {K} (c0):∀(l:List Oper) (ρ:Env) (h:Heap),dK P U n all l ρ h (K .normal)→
  ∀c a,Ext c0 c→Sub h c.h→Good c→aP c n ρ a→wpList P all.toArray (WPK n K c0) l a c.w
 | [],ρ,h,hk,c,a,hE,hs,g,he=>⟨c,ρ,h,rfl,g,hE,he,hs,hk⟩
 |o::os,ρ,h,hk,c,a,hE,hs,g,he=>by
  obtain ⟨hd,hk⟩:=hk;obtain ⟨ρ',he',hk⟩:=qu hk he;unfold wpList;rcases hk with ⟨hw,hk⟩|⟨hw,hk⟩
  ·rw [if_pos hw]
   left
   have hu:=fq hU hk hs g he';have next:∀u w',bV c (KOp (fun ρ h=>dK P U n all os ρ h (K .normal)) ρ' o.dst) u w'→wpList P all.toArray (WPK n K c0) os (a.put o.dst u) w' :=by
    rintro u w' ⟨c',x,h',rfl,g',hE',hr,hs',hK⟩
    exact ij hU c0 os _ h' hK c' _ (hE.trans hE') hs' g' ((he'.mono hE').put hd hr)
   unfold Oper.wp;generalize (execOp a.eval o).run P c.w=r at hu;cases r with
   |ok nx w' =>
    cases nx<;>simp only [eE] at hu<;>simp only [Oper.upon]
    case value u=>exact next u w' hu
    case skip=>exact next undef w' hu
    case enter f args=>
     obtain ⟨rfl,hc⟩:=hu;exact hc.mono fun e w'' ⟨u,he,hcm⟩=>by grind
   |halt x w' =>exact hu.elim
  ·rw [if_neg (by grind)]
   exact ij hU c0 os _ h hk c _ hE hs g (he'.put hd (.v _))
end
section
variable {P : Program} {U : TypeId → TI}
theorem qj {ρ ρ'} {x} (h:∀t,x= .tmp t→lk ρ t=lk ρ' t):ev ρ x=ev ρ' x:=by
 cases x with
 |tmp t=>exact h t rfl
 |_=>rfl
theorem eN {ρ ρ'}:∀ {xs:List Operand},(∀x∈xs,ev ρ x=ev ρ' x)→evs ρ xs=evs ρ' xs
 | [],_=>rfl
 |x::r,h=>by
  simp only [evs];rw [h x (by simp),eN fun y hy=>h y (by grind)]
theorem jg {ρ ρ'} {x} {d} {k} (h:∀y,x=some y→ev ρ y=ev ρ' y):bZ ρ x d k=bZ ρ' x d k:=by
 cases x with
 |none=>rfl
 |some y=>simp only [bZ,withv,h y rfl]
theorem jW {ρ ρ'} {fs} {k}:∀ {ps:List (Nat×Operand)} {cs:List AV},(∀p∈ps,ev ρ p.2=ev ρ' p.2)→withps U ρ fs ps cs k=withps U ρ' fs ps cs k
 | [],_,_=>rfl
 |(i,x)::r,cs,h=>by
  simp only [withps,withv];have h1:ev ρ x=ev ρ' x:=by simp_all
  rw [h1];have h2:∀cs',withps U ρ fs r cs' k=withps U ρ' fs r cs' k:=fun cs' =>jW fun p hp=>h p (by grind)
  simp only [h2]
theorem uC {ρ ρ'} {hp} {b} {args} {ts} {k} (h:∀x∈args,ev ρ x=ev ρ' x):pvB U ρ hp b args ts k=pvB U ρ' hp b args ts k:=by
 cases b<;>simp only [pvB,withvs,eN h]
 ·grind [withv]
 grind [withv]
theorem nN {ρ ρ'} {ty} {y} {lo hi mx} {k} (h1:∀x,lo=some x→ev ρ x=ev ρ' x) (h2:∀x,hi=some x→ev ρ x=ev ρ' x) (h3:∀x,mx=some x→ev ρ x=ev ρ' x):
  iB U ρ ty y lo hi mx k=iB U ρ' ty y lo hi mx k:=by
 have e1:∀d (k:Int→Prop),bZ ρ lo d k=bZ ρ' lo d k:=fun d k=>jg h1
 have e2:∀d (k:Int→Prop),bZ ρ hi d k=bZ ρ' hi d k:=fun d k=>jg h2
 cases mx with
 |none=>simp only [iB,e1,e2]
 |some m=>
  have e3:∀d (k:Int→Prop),bZ ρ (some m) d k=bZ ρ' (some m) d k:=fun d k=>jg h3
  simp only [iB,e1,e2,e3]
theorem qU {ρ ρ'} {h} {op} {k} (he:∀x∈op.operands,ev ρ x=ev ρ' x):pv U ρ h op k=pv U ρ' h op k:=by
 cases op<;>simp only [pv]
 case move x=>grind [withv,Op.operands]
 case assign x=>grind [withv,Op.operands]
 case pick c a b=>simp_all [withv,Op.operands]
 case nilCheck x=>grind [withv,Op.operands]
 case binOp op ty x y ty' =>grind [withv,Op.operands]
 case unOp op ty x=>grind [withv,Op.operands]
 case convert s d x=>grind [withv,Op.operands]
 case field ty x f=>grind [withv,Op.operands]
 case extract x i=>grind [withv,Op.operands]
 case index ty x y=>grind [withv,Op.operands]
 case fieldAddr ty x f=>grind [withv,Op.operands]
 case indexAddr ty x y=>grind [withv,Op.operands]
 case load ty x=>grind [withv,Op.operands]
 case slice ty x lo hi mx=>
  simp only [withv,he x (by simp [Op.operands])]
  grind [nN,Op.operands]
 case lookup mt x y ok=>grind [withv,Op.operands]
 case buildSlice ty n ps=>
  grind [evs,eN,Op.operands,withvs]
 case build ty ps=>
  have:∀fs cs (k:List AV→Prop),withps U ρ fs ps.toList cs k=withps U ρ' fs ps.toList cs k:=fun fs cs k=>jW fun p hp=>he p.2 (by simp only [Op.operands,List.mem_toArray,List.mem_map]; grind)
  simp only [this]
 case makeInterface ty x=>grind [withv,Op.operands]
 case makeFunc fn first cap=>
  grind [evs,eN,Op.operands,withvs]
 grind [builtin,uC,Op.operands,Call.operands]
def restrict (ρ:Env) (S:List Nat):Env:=ρ.filter fun p=>S.contains p.1
theorem en (S) (t):∀ρ:Env,lk (restrict ρ S) t=if S.contains t then lk ρ t else none
 | []=>by simp [restrict,lk]
 |(k,x)::r=>by
  have ih:=en S t r;simp only [restrict,List.filter_cons] at ih⊢
  by_cases hk:S.contains k=true
  ·rw [if_pos hk]
   simp only [lk]
   by_cases e:k=t
   ·subst e; rw [if_pos rfl,if_pos hk,if_pos rfl]
   ·rw [if_neg e,if_neg e]; exact ih
  ·rw [if_neg hk]
   rw [ih]
   by_cases e:k=t
   ·subst e
    simp only [hk];rfl
   ·simp only [lk,if_neg e]
def bW (op:Op):List Nat:=op.operands.toList.filterMap fun| .tmp t=>some t|_=>none
abbrev EF:=Nat→Option AV
def DUpon (P:Program) (c:Cx) (h:Heap) (X:AV):Result Next→Prop
 | .ok (.value u) w' =>∃c',c'.w=w'∧Good c'∧Ext c c'∧Sub h c'.h∧Rep c' X u
 | .ok .skip w' =>∃c',c'.w=w'∧Good c'∧Ext c c'∧Sub h c'.h∧Rep c' X undef
 | .ok (.enter f args) w' =>w' =c.w∧Calls P f args w' fun e w'' =>∃u,e= .returned u∧∃c',c'.w=w''∧Good c'∧Ext c c'∧Sub h c'.h∧Rep c' X u
 |_=>False
def DOK (P:Program) (o:Oper) (F:EF) (h:Heap) (X:AV):Prop:=
 ∀(c:Cx) (a:Act),Sub h c.h→Good c→a.defers= []→(∀t∈bW o.op,∀x,F t=some x→Rep c x (a.tmps.getD t undef))→DUpon P c h X ((execOp a.eval o).run P c.w)
def dP (P:Program) (U:TypeId→TI) (ρ:Env) (h:Heap) (o:Oper) (Q:AV→Prop):Prop:=
 match o.op with
 | .call c=>match c.callee with
  | .value q=>withv ρ q fun y=>match y with
   | .fn f cap=>withvs ρ c.args.toList fun ys=>∃X,aj P f (ys++cap) h (fun x h' =>x=X∧h' =h)∧Q X
   |_=>False
  |_=>pv U ρ h o.op Q
 |_=>pv U ρ h o.op Q
theorem sX {ρ} {h} {o} {Q} (hU:∀t,ax P U t) (hk:dP P U ρ h o Q):∃X,Q X∧DOK P o (lk ρ) h X:=by
 have hev:∀x∈o.op.operands,ev (restrict ρ (bW o.op)) x=ev ρ x:=fun x hx=>qj fun t ht=>by
  rw [en,if_pos];rw [List.contains_iff_mem];simp only [bW,List.mem_filterMap];exact ⟨.tmp t,by grind,rfl⟩
 have henv:∀ {c:Cx} {a:Act},a.defers= []→(∀t∈bW o.op,∀x,lk ρ t=some x→Rep c x (a.tmps.getD t undef))→aP c a.tmps.size (restrict ρ (bW o.op)) a:=fun hd hr=>
  ⟨rfl,hd,fun t x hx=>by
   rw [en] at hx;split at hx
   ·rename_i hc
    exact hr t (by grind) x hx
   ·cases hx⟩
 have pure:pv U ρ h o.op Q→∃X,Q X∧DOK P o (lk ρ) h X:=fun hp=>by
  rw [←qU hev] at hp;obtain ⟨X,hQ,hX⟩:=ni hU hp;refine ⟨X,hQ,fun c a hs g hd hr=> ?_⟩
  obtain ⟨u,c',h1,h2,h3,h4,h5⟩:=hX c a _ hs g (henv hd hr);rw [h1];exact ⟨c',rfl,h2,h3,by grind,h5⟩
 unfold dP at hk;split at hk
 ·rename_i cl ho
  obtain ⟨callee,args,ts⟩:=cl;simp only at hk;split at hk
  ·rename_i q
   obtain ⟨y,hy,hk⟩:=an hk;split at hk
   ·rename_i f cap
    obtain ⟨ys,hys,X,hf,hQ⟩:=bY hk;refine ⟨X,hQ,fun c a hs g hd hr=> ?_⟩
    have he:=henv hd hr;have hvc:aF P U (restrict ρ (bW o.op)) h o (fun x h' =>x=X∧h' =h):=by
     have e1:ev (restrict ρ (bW o.op)) q=some (.fn f cap):=by grind [Op.operands,Call.operands]
     have e2:evs (restrict ρ (bW o.op)) args.toList=some ys:=by
      grind [eN,Op.operands,Call.operands]
     simp only [aF,ho];simp only [ho] at e1 e2;simp only [withv,e1,withvs,e2];exact hf
    have hu:=fq hU hvc hs g he;generalize (execOp a.eval o).run P c.w=r at hu;have conv:∀u w',bV c (fun x h' =>x=X∧h' =h) u w'→∃c',c'.w=w'∧Good c'∧Ext c c'∧Sub h c'.h∧Rep c' X u:=by
     rintro u w' ⟨c',x,h',h1,h2,h3,h4,h5,rfl,rfl⟩
     grind
    cases r with
    |ok nx w' =>
     cases nx<;>simp only [eE] at hu<;>simp only [DUpon]
     case value u=>exact conv _ _ hu
     case skip=>exact conv _ _ hu
     case enter f args=>exact ⟨hu.1,hu.2.mono fun e w'' ⟨u,he,hc⟩=>⟨u,he,conv _ _ hc⟩⟩
    |halt x w' =>exact hu.elim
   ·exact hk.elim
  ·exact pure hk
 ·exact pure hk
end
section
variable {P : Program} {U : TypeId → TI} {ops : Array Oper} {md : Region.Mode} {h : Heap}
def cS (F:EF):Option Tmp→AV→EF
 |some d,x=>upd F d (some x)
 |none,_=>F
theorem je (ρ) (d) (x):lk (put ρ d x)=cS (lk ρ) d x:=by
 cases d with
 |none=>rfl
 |some d=>
  funext t
  simp only [put,lk,cS,upd]
  grind
def aX (ops:Array Oper) (F:EF) (o:Oper):Option Bool:=
 match o.guard with
 |none=>some true
 |some (g,want)=>match (ops[g]?).bind (·.dst) with
  |some d=>match F d with
   |some (.v (.bool t))=>some (t==want)
   |some (.v (.tuple _))=>some false
   |_=>none
  |none=>none
def kX (P:Program) (ops:Array Oper) (h:Heap) (o:Oper) (K:EF→Prop) (F:EF):Prop:=
 (aX ops F o=some true∧∃X,DOK P o F h X∧K (cS F o.dst X))∨(aX ops F o=some false∧K (cS F o.dst (.v undef)))
def dOp (P:Program) (ops:Array Oper) (h:Heap) (i:Nat) (K:EF→Prop) (F:EF):Prop:=
 match ops[i]? with
 |none=>K F
 |some o=>kX P ops h o K F
def dList (P:Program) (ops:Array Oper) (h:Heap) (Q:EF→Prop):List Oper→EF→Prop
 | [],F=>Q F
 |o::r,F=>kX P ops h o (dList P ops h Q r) F
theorem rW {o} {F} {K K'} (hk:∀F,K F→K' F) (hs:kX P ops h o K F):kX P ops h o K' F:=by
 rcases hs with ⟨h1,X,h2,h3⟩|⟨h1,h2⟩
 ·exact .inl ⟨h1,X,h2,hk _ h3⟩
 ·exact .inr ⟨h1,hk _ h2⟩
theorem p6 {i} {F} {K K'} (hk:∀F,K F→K' F) (hs:dOp P ops h i K F):dOp P ops h i K' F:=by
 grind [dOp,rW]
def YD (P:Program) (ops:Array Oper) (h:Heap) (o:Oper) (X:AV) (F:EF):Prop:=
 (aX ops F o=some true∧DOK P o F h X)∨(aX ops F o=some false∧X= .v undef)
theorem p7 {o} {X} {F} {K} (hy:YD P ops h o X F) (hk:K (cS F o.dst X)):kX P ops h o K F:=by
 rcases hy with ⟨h1,h2⟩|⟨h1,rfl⟩
 ·exact .inl ⟨h1,X,h2,hk⟩
 ·exact .inr ⟨h1,hk⟩
theorem pX {o} {F} {K} (hs:kX P ops h o K F):∃X,YD P ops h o X F∧K (cS F o.dst X):=by
 rcases hs with ⟨h1,X,h2,h3⟩|⟨h1,h2⟩
 ·exact ⟨X, .inl ⟨h1,h2⟩,h3⟩
 ·exact ⟨_, .inr ⟨h1,rfl⟩,h2⟩
theorem gw {F} {d} {x} {t} (hd:∀e,d=some e→e≠t):cS F d x t=F t:=by
 cases d with
 |none=>rfl
 |some e=>exact af _ _ (by grind)
theorem eP (F) {x y} (v u) (hd:∀d,x=some d→y≠some d):cS (cS F x v) y u=cS (cS F y u) x v:=by
 cases x with
 |none=>rfl
 |some d=>cases y with
  |none=>rfl
  |some e=>
   funext t
   simp only [cS,upd]
   grind
theorem nX {o} {F F'} {X} (hf:∀t∈bW o.op,F t=F' t) (hd:DOK P o F h X):DOK P o F' h X:=
 fun c a hs g hdf hr=>hd c a hs g hdf fun t ht x hx=>hr t ht x (by grind)
theorem eu {o:Oper} {t:Nat} (ht:t∈bW o.op):t∈o.looksAt ops:=by
 simp only [Oper.looksAt,List.mem_append];exact .inl ht
theorem bL {o} {F F'} (hf:∀t∈o.looksAt ops,F t=F' t):aX ops F o=aX ops F' o:=by
 grind [aX,Oper.looksAt]
theorem pW {o} {F F'} {X} (hf:∀t∈o.looksAt ops,F t=F' t) (hy:YD P ops h o X F):YD P ops h o X F' :=by
 rcases hy with ⟨h1,h2⟩|⟨h1,h2⟩
 ·exact .inl ⟨by grind [bL],nX (by grind [eu]) h2⟩
 ·exact .inr ⟨by grind [bL],h2⟩
theorem xw {j} {oi oj} {X} (hj:ops[j]? =some oj) (hap:oi.apart ops oj=true) {K} {F}
  (hy:YD P ops h oi X F) (hs:dOp P ops h j K (cS F oi.dst X)):dOp P ops h j (fun F' =>YD P ops h oi X F'∧K (cS F' oi.dst X)) F:=by
 obtain ⟨h1,h2,h3⟩:=Oper.apart_spec hap;unfold dOp at*;simp only [hj] at*;have hlook:∀t∈oj.looksAt ops,cS F oi.dst X t=F t:=fun t ht=>gw fun e he hte=>h1 e he (hte▸ht)
 have hlook2:∀u,∀t∈oi.looksAt ops,F t=cS F oj.dst u t:=fun u t ht=>(gw fun e he hte=>h3 e he (hte▸ht)).symm
 rcases hs with ⟨w1,Y,w2,w3⟩|⟨w1,w2⟩
 ·refine .inl ⟨by grind [bL],Y,nX (by grind [eu]) w2,pW (hlook2 Y) hy, ?_⟩
  rw [←eP F X Y h2]; exact w3
 ·refine .inr ⟨by grind [bL],pW (hlook2 _) hy, ?_⟩
  rw [←eP F X _ h2]; exact w2
theorem tY {i} {oi} {X} {F} {K} (hi:ops[i]? =some oi) (hy:YD P ops h oi X F) (hk:K (cS F oi.dst X)):dOp P ops h i K F:=by
 grind [dOp,p7]
structure Sys (ops:Array Oper) (S:Nat→(EF→Heap→Prop)→EF→Heap→Prop) (Y:Nat→AV→EF→Prop):Prop where
 mono:∀ {i:Nat} {F:EF} {h:Heap} {K K' :EF→Heap→Prop},(∀F h,K F h→K' F h)→S i K F h→S i K' F h
 of:∀ {i:Nat} {oi:Oper} {X:AV} {F:EF} {h:Heap} {K:EF→Heap→Prop},ops[i]? =some oi→Y i X F→K (cS F oi.dst X) h→S i K F h
 put:∀ {i j:Nat} {oi oj:Oper} {X:AV} {F:EF} {h:Heap} {K:EF→Heap→Prop},ops[i]? =some oi→ops[j]? =some oj→oi.apart ops oj=true→Y i X F→S j K (cS F oi.dst X) h→S j (fun F' h' =>Y i X F'∧K (cS F' oi.dst X) h') F h
def iI (md:Region.Mode) (ops:Array Oper) (S:Nat→(EF→Heap→Prop)→EF→Heap→Prop) (E:Array Bool→Prop) (Q:EF→Heap→Prop):Nat→Array Bool→EF→Heap→Prop
 |0,listed,F,h=>E listed∧Q F h
 |fuel+1,listed,F,h=>Region.ready md ops listed≠ []∧∀i∈Region.ready md ops listed,S i (iI md ops S E Q fuel (listed.setIfInBounds i true)) F h
def Closed (md:Region.Mode) (ops:Array Oper) (listed:Array Bool):Prop:=∀j oj,ops[j]? =some oj→listed.getD j false=true→∀e∈oj.after,Region.binds md e=true→listed.getD e.on false=true
def tK (md:Region.Mode) (ops:Array Oper) (k:Nat):List Nat:=match ops[k]? with
 |some o=>(o.after.toList.filter (Region.binds md)).map (·.on)
 |none=> []
def eK (md:Region.Mode) (ops:Array Oper) (s:List Nat):List Nat:=(List.range ops.size).filter fun k=>s.contains k||s.any fun j=>(tK md ops j).contains k
def s4 (md:Region.Mode) (ops:Array Oper) (z:Nat):Bool:=(List.range ops.size).all fun k=>(eK md ops (eK md ops (eK md ops [z]))).contains k
theorem cM {z} {listed} (hc:Closed md ops listed) (hz:z∈Region.ready md ops listed) {s} (hs:∀k∈s,k≠z→listed.getD k false=true):∀k∈eK md ops s,k≠z→listed.getD k false=true:=by
 intro k hk hkz;simp only [eK,List.mem_filter,Bool.or_eq_true,List.contains_iff_mem,List.any_eq_true] at hk;obtain ⟨_,h1|⟨j,hj,hp⟩⟩:=hk
 ·grind
 ·unfold tK at hp
  cases ho:ops[j]? with
  |none=>grind
  |some o=>
   rw [ho] at hp;simp only [List.mem_map,List.mem_filter] at hp;obtain ⟨e,⟨he,hb⟩,rfl⟩:=hp
   by_cases hjz:j=z
   ·grind [mem_ready]
   ·exact hc j o ho (hs j hj hjz) e (by grind) hb
theorem uS {z} (hz:s4 md ops z=true) {listed} (hc:Closed md ops listed) {i} (h1:z∈Region.ready md ops listed) (h2:i∈Region.ready md ops listed):i=z:=by
 obtain ⟨hun,oi,hoi,_⟩:=mem_ready.1 h2;unfold s4 at hz;rw [List.all_eq_true] at hz;have hm:=hz i (by grind)
 rw [List.contains_iff_mem] at hm;have s0:∀k∈ [z],k≠z→listed.getD k false=true:=fun k hk hn=>absurd (by simpa using hk) hn
 have s3:=cM hc h1 (cM hc h1 (cM hc h1 s0))
 by_cases e:i=z
 ·exact e
 ·have:=s3 i hm e
  exfalso
  grind
theorem Closed.set {listed} (hc:Closed md ops listed) {j} (hj:j∈Region.ready md ops listed):Closed md ops (listed.setIfInBounds j true):=by
 have up:∀k,listed.getD k false=true→(listed.setIfInBounds j true).getD k false=true:=fun k hk=>by
  by_cases e:j=k
  ·subst e
   rcases Nat.lt_or_ge j listed.size with h' |h'
   ·simp [h']
   grind
  simp_all
 intro k ok hk hl e he hb
 by_cases hkj:j=k
 ·grind [mem_ready]
 ·rw [getD_set_ne false hkj] at hl
  exact up _ (hc k ok hk hl e he hb)
theorem Closed.none (md) (ops) (m):Closed md ops (Array.replicate m false):=fun j oj _ hl=>by
 rcases Nat.lt_or_ge j m with h' |h'
 ·simp_all
 grind
def Ends (md:Region.Mode) (ops:Array Oper) (E:Array Bool→Prop) (i:Nat):Prop:=∀listed,Closed md ops listed→i∈Region.ready md ops listed→E (listed.setIfInBounds i true)→∀j∈Region.ready md ops listed,j=i
def rY (md:Region.Mode) (ops:Array Oper):Option Nat→Array Bool→Bool
 |none,l=>(Region.ready md ops l).isEmpty
 |some z,l=>Region.ready md ops l== [z] && (Region.ready md ops (l.setIfInBounds z true)).isEmpty
def me (md:Region.Mode) (ops:Array Oper) (z:Option Nat) (l:Array Bool):Prop:=rY md ops z l=true
theorem mG {z} (hz:∀k,z=some k→s4 md ops k=true) (i):Ends md ops (me md ops z) i:=fun listed hcl hr he j hj=>by
 by_cases e:j=i
 ·exact e
 have hm:=ready_mono hj e;cases z with
 |none=>simp only [me,rY,List.isEmpty_iff] at he; rw [he] at hm; cases hm
 |some z=>
  simp only [me,rY,Bool.and_eq_true,beq_iff_eq] at he;rw [he.1] at hm;obtain rfl:=List.mem_singleton.1 hm;exact (uS (hz _ rfl) hcl hj hr).symm
theorem Sys.first {S} {Y} (s:Sys ops S Y) {E} {Q} {i} {oi} {X} (hi:ops[i]? =some oi) (hend:Ends md ops E i):
  ∀(fuel:Nat) (listed:Array Bool) (F:EF) (h:Heap),Closed md ops listed→Region.free md ops listed i=true→
   i∈Region.ready md ops listed→Y i X F→
   iI md ops S E Q fuel (listed.setIfInBounds i true) (cS F oi.dst X) h→iI md ops S E Q (fuel+1) listed F h:=by
 suffices go:∀(fuel:Nat) (listed:Array Bool) (F:EF) (h:Heap),Closed md ops listed→
   (∀j oj,ops[j]? =some oj→j≠i→listed.getD j true=false→(∀e∈oj.after,Region.binds md e=true→e.on≠i)→oi.apart ops oj=true)→
   i∈Region.ready md ops listed→Y i X F→
   iI md ops S E Q fuel (listed.setIfInBounds i true) (cS F oi.dst X) h→iI md ops S E Q (fuel+1) listed F h from
  fun fuel listed F h hcl hf=>go fuel listed F h hcl (Region.free_spec hi hf)
 intro fuel
 induction fuel with
 |zero=>
  intro listed F h hcl _ hr hy H;refine ⟨fun e=>(by rw [e] at hr; cases hr),fun j hj=> ?_⟩
  obtain rfl:=hend listed hcl hr H.1 j hj;exact s.of hi hy H
 |succ fuel ih=>
  intro listed F h hcl hfree hr hy H;refine ⟨fun e=>(by rw [e] at hr; cases hr),fun j hj=> ?_⟩
  by_cases hji:j=i
  ·subst hji; exact s.of hi hy H
  ·have h1:=H.2 j (ready_mono hj hji)
   obtain ⟨hjun,oj,hoj,hall⟩:=mem_ready.1 hj;have hnot:∀e∈oj.after,Region.binds md e=true→e.on≠i:=fun e he hb heq=>by
    grind [mem_ready,Nat.lt_or_ge,Array.getElem?_eq_none]
   refine s.mono (fun F' h' h3=>ih (listed.setIfInBounds j true) F' h' (hcl.set hj) (fun k ok hk hki hun hno=>hfree k ok hk hki ?_ hno) (ready_mono hr (Ne.symm hji)) h3.1 ?_) (s.put hi hoj (hfree j oj hoj hji hjun hnot) hy h1)
   ·by_cases hjk:j=k
    ·grind
    simp_all
   ·rw [Array.setIfInBounds_comm _ _ hji]
    exact h3.2
def dS (P:Program) (ops:Array Oper) (h:Heap) (i:Nat) (K:EF→Heap→Prop) (F:EF) (g:Heap):Prop:=dOp P ops h i (fun F=>K F g) F
theorem DI:Sys ops (dS P ops h) fun i X F=>∃oi,ops[i]? =some oi∧YD P ops h oi X F where
 mono hk hs:=p6 (fun F=>hk F _) hs
 of hi:=fun ⟨o,ho,hy⟩ hk=>by rw [hi] at ho; cases ho; exact tY hi hy hk
 put hi hj ha:=fun ⟨o,ho,hy⟩ hs=>by
  rw [hi] at ho; cases ho
  exact p6 (fun F' ⟨a,b⟩=>⟨⟨_,hi,a⟩,b⟩) (xw hj ha hy hs)
def vQ (md:Region.Mode) (ops:Array Oper) (z:Option Nat):Nat→Nat→Array Bool→Bool
 |0,_,listed=>rY md ops z listed
 |fuel+1,k,listed=>(Region.ready md ops listed).contains k && Region.free md ops listed k && vQ md ops z fuel (k+1) (listed.setIfInBounds k true)
theorem mC {Q} {z} (hz:∀k,z=some k→s4 md ops k=true):∀(l:List Oper) (k:Nat) (listed:Array Bool) (F:EF) (g:Heap),Closed md ops listed→(∀j,j<l.length→l[j]? =ops[k+j]?)→
  vQ md ops z l.length k listed=true→dList P ops h Q l F→iI md ops (dS P ops h) (me md ops z) (fun F _=>Q F) l.length listed F g
 | [],_,_,_,_,_,_,hB,hd=>⟨hB,hd⟩
 |o::l,k,listed,F,g,hcl,hl,hB,hd=>by
  have h0:ops[k]? =some o:=by simpa using (hl 0 (by simp)).symm
  simp only [List.length_cons,vQ,Bool.and_eq_true] at hB;obtain ⟨⟨hr,hf⟩,hB'⟩:=hB;obtain ⟨X,hy,hK⟩:=pX hd;have hin:k∈Region.ready md ops listed:=by grind
  exact DI.first h0 (mG hz k) l.length listed F g hcl hf hin ⟨o,h0,hy⟩
   (mC hz l (k+1) _ _ g (hcl.set hin) (fun j hj=>by have:=hl (j+1) (by grind); simpa [Nat.add_assoc,Nat.add_comm 1 j] using this) hB' hK)
def eX (c:Cx) (n:Nat) (F:EF) (a:Act):Prop:=a.tmps.size=n∧a.defers= []∧∀t x,F t=some x→Rep c x (a.tmps.getD t undef)
theorem eX.put {c} {n} {F} {a} (he:eX c n F a) {d} (hd:bS n d=true) {x} {u} (hx:Rep c x u):eX c n (cS F d x) (a.put d u):=by
 obtain ⟨h1,h2,h3⟩:=he;cases d with
 |none=>exact ⟨h1,h2,h3⟩
 |some d=>
  have hd' :d<a.tmps.size:=by rw [h1]; exact Gs hd
  refine ⟨by grind [Act.put],h2,fun t y hy=> ?_⟩
  simp only [cS,upd] at hy;split at hy
  ·rename_i e; subst e
   simp only [Option.some.injEq] at hy; subst hy
   simpa [Act.put,hd'] using hx
  ·rename_i e
   have:=h3 t y hy;have e' :¬d=t:=fun h=>e h.symm
   simpa [Act.put,Array.getElem?_setIfInBounds_ne e'] using this
theorem eX.mono {c c'} {n} {F} {a} (he:Ext c c') (hf:eX c n F a):eX c' n F a:=⟨hf.1,hf.2.1,fun t x hx=>(hf.2.2 t x hx).mono he⟩
theorem dG {c} {n} {F} {a} {o} {b} (he:eX c n F a) (hw:aX ops F o=some b):Region.wanted o (yielded ops a.tmps)=b:=by
 unfold aX at hw;split at hw
 ·grind [Option.some.injEq,Region.wanted]
 ·rename_i g want hg
  split at hw
  ·rename_i d hd
   split at hw
   ·rename_i t ht
    simp only [Option.some.injEq] at hw; subst hw
    have h1:=(he.2.2 d _ ht).aK;have h2:a.tmps[d]? =some (.bool t):=by
     by_cases hlt:d<a.tmps.size
     ·simp_all
     grind [undef,Nat.le_of_not_lt]
    have h3:yielded ops a.tmps g=some t:=by grind [yielded]
    simp [Region.wanted,hg,h3]
   ·rename_i vs ht
    simp only [Option.some.injEq] at hw; subst hw
    have h1:=(he.2.2 d _ ht).aK;have h3:yielded ops a.tmps g=none:=by
     by_cases hlt:d<a.tmps.size
     ·simp_all [some,yielded]
     simp_all [none,Nat.le_of_not_lt,yielded]
    simp [Region.wanted,hg,h3]
   grind
  grind
theorem tZ {n:Nat} {i:Nat} {K:EF→Prop} {K' :Act→World→Prop} {Q:Exit→Act→World→Prop} {c0:Cx} (hdst:∀o∈ops.toList,bS n o.dst=true)
  (hk:∀c F a,Ext c0 c→Sub h c.h→Good c→eX c n F a→K F→K' a c.w) {c:Cx} {F:EF} {a:Act} (hE:Ext c0 c) (hs:Sub h c.h) (g:Good c) (he:eX c n F a) (hd:dOp P ops h i K F):wpOp P ops Q i K' a c.w:=by
 unfold dOp at hd;unfold wpOp;split
 ·rename_i ho; simp only [ho] at hd; exact hk c F a hE hs g he hd
 ·rename_i o ho
  simp only [ho] at hd;have hdo:bS n o.dst=true:=by grind
  rcases hd with ⟨h1,X,h2,h3⟩|⟨h1,h2⟩
  ·rw [if_pos (dG he h1)]
   left
   have hu:=h2 c a hs g he.2.1 (fun t _ x hx=>he.2.2 t x hx)
   have next:∀u w',(∃c',c'.w=w'∧Good c'∧Ext c c'∧Sub h c'.h∧Rep c' X u)→K' (a.put o.dst u) w' :=by
    rintro u w' ⟨c',rfl,k1,k2,k3,k4⟩
    exact hk c' _ _ (hE.trans k2) k3 k1 ((he.mono k2).put hdo k4) h3
   unfold Oper.wp;generalize (execOp a.eval o).run P c.w=r at hu;cases r with
   |ok nx w' =>
    cases nx<;>simp only [DUpon] at hu<;>simp only [Oper.upon]
    case value u=>exact next u w' hu
    case skip=>exact next undef w' hu
    case enter f args=>
     obtain ⟨rfl,hc⟩:=hu;exact hc.mono fun e w'' ⟨u,he,hcm⟩=>by grind
   |halt x w' =>exact hu.elim
  ·rw [if_neg (by grind [dG])]
   exact hk c _ _ hE hs g (he.put hdo (.v _)) h2
theorem gq {S:Nat→(EF→Heap→Prop)→EF→Heap→Prop} {E:Array Bool→Prop} {Q:EF→Heap→Prop} {Q' :Exit→Act→World→Prop} {T:Array Bool→Cx→EF→Heap→Act→Prop} {m:Nat}
  (hst:∀listed i K c F h a (K' :Act→World→Prop),T listed c F h a→i∈Region.ready md ops listed→S i K F h→(∀c F h a,T (listed.setIfInBounds i true) c F h a→K F h→K' a c.w)→wpOp P ops Q' i K' a c.w)
  (h0:∀listed c F h a,T listed c F h a→E listed→Q F h→wpAny P md ops Q' m listed a c.w):∀(fuel:Nat) (listed:Array Bool) (c:Cx) (F:EF) (h:Heap) (a:Act),T listed c F h a→iI md ops S E Q fuel listed F h→wpAny P md ops Q' (m+fuel) listed a c.w
 |0,listed,c,F,h,a,ht,hd=>h0 _ _ _ _ _ ht hd.1 hd.2
 |fuel+1,listed,c,F,h,a,ht,hd=>⟨fun e=>absurd e hd.1,fun i hi=>hst _ _ _ _ _ _ _ _ ht hi (hd.2 i hi) fun c F h a ht hk=>gq hst h0 fuel _ c F h a ht hk⟩
theorem mD {n m:Nat} {E:Array Bool→Prop} {Q:EF→Heap→Prop} {Q' :Exit→Act→World→Prop} {c0:Cx} (hdst:∀o∈ops.toList,bS n o.dst=true)
  (h0:∀listed c F g a,Ext c0 c→Sub h c.h→Good c→eX c n F a→E listed→Q F g→wpAny P md ops Q' m listed a c.w) (fuel:Nat) (listed:Array Bool) (c:Cx) (F:EF) (g:Heap) (a:Act) (h1:Ext c0 c) (h2:Sub h c.h) (h3:Good c) (h4:eX c n F a)
  (hd:iI md ops (dS P ops h) E Q fuel listed F g):wpAny P md ops Q' (m+fuel) listed a c.w:=
 gq (T:=fun _ c F _ a=>Ext c0 c∧Sub h c.h∧Good c∧eX c n F a) (fun _ _ _ _ _ _ _ _ ⟨h1,h2,h3,h4⟩ _ hd hk=>tZ hdst (fun c F a k1 k2 k3 k4 hK=>hk c F _ a ⟨k1,k2,k3,k4⟩ hK) h1 h2 h3 h4 hd)
  (fun listed c F g a ⟨k1,k2,k3,k4⟩ he hq=>h0 listed c F g a k1 k2 k3 k4 he hq) fuel listed c F g a ⟨h1,h2,h3,h4⟩ hd
end
end Go.Ab
