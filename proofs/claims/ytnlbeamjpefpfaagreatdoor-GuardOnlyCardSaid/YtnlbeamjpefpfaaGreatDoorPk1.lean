/- The law GuardOnly: pack 1 of its texts. -/
import Derived.Tactics
import Derived.Still
import Derived.Below
import Derived.Laws.IdiomCopy
import Derived.Laws.Append
import Derived.Laws.Strings
import Derived.Laws.StructEq
import Derived.ChangeKeysEq
import Derived.WalkKit
import Derived.Maps.Keyed
set_option linter.unusedSimpArgs false
set_option linter.unusedVariables false
namespace Go
theorem VZ {n m:Nat} (h:Nat.ble n m=true):n≤m:=Nat.le_of_ble_eq_true h
theorem V0.{u,v} {α:Type u} {β:Type v} {l:List α} (f:α→β):(l.map f).length=l.length:=List.length_map f
theorem V1.{u,v} {α:Type u} {β:Type v} (f:α→β) {l:List α} {i:Nat} {h:i<(l.map f).length}:(l.map f)[i]=f (l[i]'(List.length_map (as:=l) f▸h)):=List.getElem_map f
theorem V2 {p:Prop} [Decidable p] (h:decide p=true):p:=_root_.of_decide_eq_true h
theorem V3 {p:Prop} [Decidable p] (h:decide p=false):¬p:=_root_.of_decide_eq_false h
theorem V4.{u} {α:Type u} {l k:List α}:(l++k).length=l.length+k.length:=List.length_append
theorem V5.{u} {α:Type u} {l:List α} {n:Nat} (h:n<l.length):l[n]∈l:=List.getElem_mem h
end Go
namespace Go.Ab
open Go
inductive Perm where
 |no
 |full
 |own (id:Nat)
inductive AV where
 |v (x:Value)
 |s (l:List UInt8)
 |agg (cells:List AV)
 |tup (vs:List AV)
 |sl (xs:List AV) (p:Perm)
 |pe (x:AV) (off:Nat)
 |ptr (id off:Nat)
 |oa (id off len:Nat)
 |ifc (t:TypeId) (x:AV)
 |fn (f:FuncId) (cap:List AV)
 |mp (id:Nat)
 |ob (id off len cap sz:Nat)
instance:Inhabited AV:=⟨.v undef⟩
def AV.cells:AV→List AV
 | .agg cs=>cs
 |x=> [x]
inductive Blk where
 |obj (cells:List AV) (t:TypeId)
 |spare (n sz:Nat)
 |mp (m:List (AV×AV))
 |ro (b:Nat) (vs:List Value)
def gU:AV→Value
 | .s l=> .string ⟨l.toArray⟩
 | .v x=>x
 |_=>undef
abbrev Heap:=Nat→Option Blk
structure Cx where
 w:World
 φ:Nat→Addr
 h:Heap
def Blk.start (base:Addr):Blk→Nat
 | .obj .. =>0
 | .spare n sz=>base.off+n*sz
 | .mp _=>0
 | .ro .. =>0
def Blk.holds (base:Addr) (k:Blk) (o:Nat):Prop:=match k with
 | .ro .. =>False
 |k=>k.start base≤o
theorem Blk.holds.up {base:Addr} {k:Blk} {o x:Nat} (h:k.holds base o) (hx:o≤x):k.holds base x:=by
 cases k<;>first|exact h.elim|exact Nat.le_trans h hx
def owned (c:Cx) (b o:Nat):Prop:=∃id k,c.h id=some k∧(c.φ id).block=b∧k.holds (c.φ id) o
def fix (c:Cx) (b o:Nat) (u:Value):Prop:=c.w.cell? ⟨b,o,none⟩=some u∧¬owned c b o
def lim:Nat:=9223372036854775808
def su (c:Cx) (a:Option Addr) (n cap sz:Nat):Perm→Prop
 | .no=>True
 | .full=>cap=n
 | .own id=>∃m,c.h id=some (.spare m sz)∧n≤m∧(n=m→∃q,a=some q∧c.φ id=q∧∃(cs:Array Value) (t:TypeId) (fr:Nat×Nat),c.w.heap[q.block]? =some (.cells cs t fr)∧q.off+cap*sz≤cs.size)
inductive Rep (c:Cx):AV→Value→Prop where
 |v (x:Value):Rep c (.v x) x
 |s (l:List UInt8) (hl:l.length<lim):Rep c (.s l) (.string ⟨l.toArray⟩)
 |agg (xs:List AV) (vs:Array Value) (hn:vs.size=xs.length)
   (hr:∀i (h:i<xs.length),Rep c xs[i] (vs.getD i undef)) (ho:∀i,i<xs.length→(vs.getD i undef).oneCell' =true):Rep c (.agg xs) (.agg vs)
 |tup (xs:List AV) (vs:Array Value) (hn:vs.size=xs.length)
   (hr:∀i (h:i<xs.length),Rep c xs[i] (vs.getD i undef)):Rep c (.tup xs) (.tuple vs)
 |sl (xs:List AV) (p:Perm) (a:Option Addr) (cap sz:Nat) (val:Nat→Nat→Value)
   (hc:xs.length≤cap) (hm:cap<lim) (h0:a=none→cap=0)
   (hs:∀q,a=some q→0<cap→q.spot=none∧q.block<c.w.heap.size)
   (hz:∀i (h:i<xs.length),xs[i].cells.length=sz)
   (hf:∀q,a=some q→∀i j,i<xs.length→j<sz→fix c q.block (q.off+(i*sz+j)) (val i j))
   (hr:∀i (h:i<xs.length) j (h' :j<xs[i].cells.length),Rep c xs[i].cells[j] (val i j))
   (ho:∀i j,i<xs.length→j<sz→(val i j).oneCell' =true)
   (hp:su c a xs.length cap sz p):Rep c (.sl xs p) (.slice a xs.length cap)
 |pe (x:AV) (off b o:Nat) (val:Nat→Value) (hb:b<c.w.heap.size)
   (hf:∀j,j<x.cells.length→fix c b (o+j) (val j))
   (hr:∀j (h:j<x.cells.length),Rep c x.cells[j] (val j))
   (ho:∀j,j<x.cells.length→(val j).oneCell' =true):Rep c (.pe x off) (.pointer (some ⟨b,o+off,none⟩))
 |ptr (id off:Nat) (cs:List AV) (t:TypeId) (h:c.h id=some (.obj cs t)):Rep c (.ptr id off) (.pointer (some ⟨(c.φ id).block,off,none⟩))
 |oa (id off len cap o:Nat) (cs:List AV) (t:TypeId) (h:c.h id=some (.obj cs t)) (hc:len≤cap) (hm:cap<lim) (ho:cap≠0→o=off∧off+cap≤cs.length):
   Rep c (.oa id off len) (.slice (some ⟨(c.φ id).block,o,none⟩) len cap)
 |ifc (t:TypeId) (x:AV) (u:Value) (h:Rep c x u):Rep c (.ifc t x) (.iface t u)
 |fn (f:FuncId) (xs:List AV) (vs:Array Value) (hn:vs.size=xs.length)
   (hr:∀i (h:i<xs.length),Rep c xs[i] (vs.getD i undef)):Rep c (.fn f xs) (.func (.func f) #[] vs)
 |mp (id:Nat) (m:List (AV×AV)) (h:c.h id=some (.mp m)):Rep c (.mp id) (.map (some (c.φ id).block))
 |ob (id off len cap sz o:Nat) (cs:List AV) (t:TypeId) (h:c.h id=some (.obj cs t)) (hc:len≤cap) (hm:cap<lim) (ho:cap≠0→o=off∧off+cap*sz≤cs.length):
   Rep c (.ob id off len cap sz) (.slice (some ⟨(c.φ id).block,o,none⟩) len cap)
structure Ext (c c' :Cx):Prop where
 os:c'.w.os=c.w.os
 tape:c'.w.tape=c.w.tape
 output:c'.w.output=c.w.output
 size:c.w.heap.size≤c'.w.heap.size
 block:∀b,b<c.w.heap.size→(∀o,¬owned c b o)→c'.w.heap[b]? =c.w.heap[b]?
 cell:∀b o,b<c.w.heap.size→¬owned c b o→c'.w.cell? ⟨b,o,none⟩=c.w.cell? ⟨b,o,none⟩
 shape:∀(b:Nat) (cs:Array Value) (t:TypeId) (fr:Nat×Nat),c.w.heap[b]? =some (.cells cs t fr)→∃(cs' :Array Value) (fr' :Nat×Nat),c'.w.heap[b]? =some (.cells cs' t fr')∧cs'.size=cs.size
 steal:∀b o,b<c.w.heap.size→owned c' b o→owned c b o
 obj:∀id cs t,c.h id=some (.obj cs t)→c'.φ id=c.φ id∧∃cs',c'.h id=some (.obj cs' t)∧cs'.length=cs.length
 spare:∀id n sz,c.h id=some (.spare n sz)→∃n',c'.h id=some (.spare n' sz)∧(n' =n∧c'.φ id=c.φ id∨n<n')
 mp:∀id m,c.h id=some (.mp m)→c'.φ id=c.φ id∧∃m',c'.h id=some (.mp m')
 ro:∀id b vs,c.h id=some (.ro b vs)→c'.φ id=c.φ id∧c'.h id=some (.ro b vs)
theorem Ext.refl (c:Cx):Ext c c where
 os:=rfl
 tape:=rfl
 output:=rfl
 size:=Nat.le_refl _
 block:=fun _ _ _=>rfl
 cell:=fun _ _ _ _=>rfl
 shape:=fun _ cs _ fr h=>⟨cs,fr,h,rfl⟩
 steal:=fun _ _ _ h=>h
 obj:=fun _ cs _ h=>⟨rfl,cs,h,rfl⟩
 spare:=fun _ n _ h=>⟨n,h, .inl ⟨rfl,rfl⟩⟩
 mp:=fun _ m h=>⟨rfl,m,h⟩
 ro:=fun _ _ _ h=>⟨rfl,h⟩
theorem Ext.trans {a b c:Cx} (h:Ext a b) (k:Ext b c):Ext a c where
 os:=k.os.trans h.os
 tape:=k.tape.trans h.tape
 output:=k.output.trans h.output
 size:=Nat.le_trans h.size k.size
 block:=fun x hx ho=>(k.block x (Nat.lt_of_lt_of_le hx h.size) fun o ho' =>ho o (h.steal x o hx ho')).trans (h.block x hx ho)
 cell:=fun x o hx ho=>(k.cell x o (Nat.lt_of_lt_of_le hx h.size) fun ho' =>ho (h.steal x o hx ho')).trans (h.cell x o hx ho)
 shape:=fun x cs t fr hx=>by
  obtain ⟨cs',fr',h1,h2⟩:=h.shape x cs t fr hx;obtain ⟨cs'',fr'',h3,h4⟩:=k.shape x cs' t fr' h1;exact ⟨cs'',fr'',h3,h4.trans h2⟩
 steal:=fun x o hx ho=>h.steal x o hx (k.steal x o (Nat.lt_of_lt_of_le hx h.size) ho)
 obj:=fun id cs t hi=>by
  obtain ⟨h1,cs',h2,h5⟩:=h.obj id cs t hi;obtain ⟨h3,cs'',h4,h6⟩:=k.obj id cs' t h2;exact ⟨h3.trans h1,cs'',h4,h6.trans h5⟩
 spare:=fun id n sz hi=>by
  obtain ⟨n',h1,h2⟩:=h.spare id n sz hi;obtain ⟨n'',h3,h4⟩:=k.spare id n' sz h1;refine ⟨n'',h3, ?_⟩;rcases h2 with ⟨rfl,h2⟩|h2
  ·rcases h4 with ⟨rfl,h4⟩|h4
   ·exact .inl ⟨rfl,h4.trans h2⟩
   ·exact .inr h4
  ·rcases h4 with ⟨rfl,h4⟩|h4
   ·exact .inr h2
   ·exact .inr (Nat.lt_trans h2 h4)
 mp:=fun id m hi=>by
  obtain ⟨h1,m',h2⟩:=h.mp id m hi;obtain ⟨h3,m'',h4⟩:=k.mp id m' h2;exact ⟨h3.trans h1,m'',h4⟩
 ro:=fun id b vs hi=>by
  obtain ⟨h1,h2⟩:=h.ro id b vs hi;obtain ⟨h3,h4⟩:=k.ro id b vs h2;exact ⟨h3.trans h1,h4⟩
theorem fix.mono {c c' :Cx} {b o:Nat} {u:Value} (he:Ext c c') (hb:b<c.w.heap.size) (h:fix c b o u):fix c' b o u:=
 ⟨(he.cell b o hb h.2).trans h.1,fun h' =>h.2 (he.steal b o hb h')⟩
theorem su.mono {c c' :Cx} {a:Option Addr} {n cap sz:Nat} {p:Perm} (he:Ext c c') (h:su c a n cap sz p):su c' a n cap sz p:=by
 cases p with
 |no=>trivial
 |full=>exact h
 |own id=>
  obtain ⟨m,h1,h2,h3⟩:=h;obtain ⟨n',h4,h5⟩:=he.spare id m sz h1;refine ⟨n',h4, ?_, ?_⟩
  ·rcases h5 with ⟨rfl,_⟩|h5<;>omega
  ·intro e
   rcases h5 with ⟨rfl,h5⟩|h5
   ·obtain ⟨q,h6,h7,cs,t,fr,h8,h9⟩:=h3 e
    obtain ⟨cs',fr',h10,h11⟩:=he.shape _ cs t fr h8;exact ⟨q,h6,h5.trans h7,cs',t,fr',h10,by omega⟩
   ·omega
theorem Rep.mono {c c' :Cx} (he:Ext c c') {x:AV} {u:Value} (h:Rep c x u):Rep c' x u:=by
 induction h with
 |v x=>exact .v x
 |s l hl=>exact .s l hl
 |agg xs vs hn hr ho ih=>exact .agg xs vs hn ih ho
 |tup xs vs hn hr ih=>exact .tup xs vs hn ih
 |sl xs p a cap sz val hc hm h0 hs hz hf hr ho hp ih=>
  exact .sl xs p a cap sz val hc hm h0 (fun q hq hp=>⟨(hs q hq hp).1,Nat.lt_of_lt_of_le (hs q hq hp).2 he.size⟩) hz
   (fun q hq i j hi hj=>(hf q hq i j hi hj).mono he (hs q hq (by omega)).2) ih ho (hp.mono he)
 |pe x off b o val hb hf hr ho ih=>exact .pe x off b o val (Nat.lt_of_lt_of_le hb he.size) (fun j hj=>(hf j hj).mono he hb) ih ho
 |ptr id off cs t h=>
  obtain ⟨h1,cs',h2,_⟩:=he.obj id cs t h;rw [←h1];exact .ptr id off cs' t h2
 |oa id off len cap o cs t h hc hm ho=>
  obtain ⟨h1,cs',h2,h3⟩:=he.obj id cs t h;rw [←h1];exact .oa id off len cap o cs' t h2 hc hm (by rw [h3]; exact ho)
 |ifc t x u h ih=>exact .ifc t x u ih
 |fn f xs vs hn hr ih=>exact .fn f xs vs hn ih
 |mp id m h=>
  obtain ⟨h1,m',h2⟩:=he.mp id m h;rw [←h1];exact .mp id m' h2
 |ob id off len cap sz o cs t h hc hm ho=>
  obtain ⟨h1,cs',h2,h3⟩:=he.obj id cs t h;rw [←h1];exact .ob id off len cap sz o cs' t h2 hc hm (by rw [h3]; exact ho)
structure Good (c:Cx):Prop where
 fin:∃N,∀id,N≤id→c.h id=none
 inj:∀i j k l,c.h i=some k→c.h j=some l→i≠j→(c.φ i).block≠(c.φ j).block
 obj:∀id cs t,c.h id=some (.obj cs t)→∃vs:Array Value,c.w.heap[(c.φ id).block]? =some (.cells vs t (0,0))∧vs.size=cs.length∧
  ∀j (h:j<cs.length),Rep c cs[j] (vs.getD j undef)∧(vs.getD j undef).oneCell' =true
 spare:∀id n sz,c.h id=some (.spare n sz)→(c.φ id).spot=none∧∃(vs:Array Value) (t:TypeId) (fr:Nat×Nat),c.w.heap[(c.φ id).block]? =some (.cells vs t fr)∧
  ∀o,(c.φ id).off+n*sz≤o→¬(fr.1≤o∧o<fr.2)
 mp:∀id m,c.h id=some (.mp m)→∃(es:Array MapEntry) (clock:Nat),c.w.heap[(c.φ id).block]? =some (.map es clock)∧es.size=m.length∧
  ∀i (h:i<m.length) (h' :i<es.size),es[i].key=gU m[i].1∧Rep c m[i].2 es[i].val
 keys:∀id m,c.h id=some (.mp m)→m.Pairwise (fun p q=>gU p.1≠gU q.1)
 ro:∀id b vs,c.h id=some (.ro b vs)→(c.φ id).block=b∧∃(t:TypeId) (fr:Nat×Nat),c.w.heap[b]? =some (.cells vs.toArray t fr)
theorem Good.MN {c:Cx} (g:Good c) {id b:Nat} {vs:List Value} (h:c.h id=some (.ro b vs)) (o:Nat):¬owned c b o:=by
 rintro ⟨j,k,h1,h2,h3⟩
 by_cases e:j=id
 ·subst e; rw [h] at h1; cases h1; exact h3
 ·exact g.inj j id k _ h1 h e (h2.trans (g.ro id b vs h).1.symm)
theorem Good.l5 {c c' :Cx} (g:Good c) (he:Ext c c') {id b:Nat} {vs:List Value} (h:c.h id=some (.ro b vs)):(c'.φ id).block=b∧∃(t:TypeId) (fr:Nat×Nat),c'.w.heap[b]? =some (.cells vs.toArray t fr):=by
 obtain ⟨h1,t,fr,h2⟩:=g.ro id b vs h;have hlt:b<c.w.heap.size:=by
  rcases Nat.lt_or_ge b c.w.heap.size with h' |h'
  ·exact h'
  ·rw [Array.getElem?_eq_none h'] at h2; cases h2
 exact ⟨by rw [(he.ro id b vs h).1]; exact h1,t,fr,(he.block b hlt fun o=>g.MN h o).trans h2⟩
abbrev Env:=List (Nat×AV)
def lk:Env→Nat→Option AV
 | [],_=>none
 |(k,x)::r,t=>if k=t then some x else lk r t
def put (ρ:Env):Option Tmp→AV→Env
 |some d,x=>(d,x)::ρ
 |none,_=>ρ
structure cj (c:Cx) (n:Nat) (ρ:Env) (a:Act):Prop where
 size:a.tmps.size=n
 defers:a.defers= []
 rep:∀t x,lk ρ t=some x→Rep c x (a.tmps.getD t undef)
theorem cj.mono {c c' :Cx} {n:Nat} {ρ:Env} {a:Act} (he:Ext c c') (h:cj c n ρ a):cj c' n ρ a:=
 ⟨h.size,h.defers,fun t x hx=>(h.rep t x hx).mono he⟩
def dL (n:Nat):Option Tmp→Bool
 |some d=>decide (d<n)
 |none=>true
theorem cj.put {c:Cx} {n:Nat} {ρ:Env} {a:Act} (h:cj c n ρ a) {d:Option Tmp} (hd:dL n d=true) {x:AV} {u:Value} (hx:Rep c x u):
  cj c n (put ρ d x) (a.put d u):=by
 cases d with
 |none=>exact h
 |some d=>
  have hd' :d<a.tmps.size:=by rw [h.size]; exact V2 hd
  refine ⟨by simp [Act.put,h.size],h.defers,fun t y hy=> ?_⟩
  simp only [Ab.put,lk] at hy;split at hy
  ·rename_i e; subst e
   simp only [Option.some.injEq] at hy; subst hy
   simpa [Act.put,hd'] using hx
  ·rename_i e
   have:=h.rep t y hy;simpa [Act.put,Array.getElem?_setIfInBounds_ne e] using this
def upd {α:Type} (f:Nat→α) (i:Nat) (x:α):Nat→α:=fun j=>if j=i then x else f j
theorem ah {α:Type} (f:Nat→α) (i:Nat) (x:α):upd f i x i=x:=by simp [upd]
theorem ag {α:Type} (f:Nat→α) {i j:Nat} (x:α) (h:j≠i):upd f i x j=f j:=by simp [upd,h]
theorem cg {α:Type} {a:Array α} {i:Nat} {x:α} (h:a[i]? =some x):i<a.size:=by
 rcases Nat.lt_or_ge i a.size with h' |h'
 ·exact h'
 ·rw [Array.getElem?_eq_none h'] at h; cases h
section
variable {c : Cx} {w' : World}
theorem Ext.draw (hh:w'.heap=c.w.heap) (h1:w'.os=c.w.os) (h2:w'.tape=c.w.tape) (h3:w'.output=c.w.output):Ext c {c with w:=w'} where
 os:=h1
 tape:=h2
 output:=h3
 size:=by show c.w.heap.size≤w'.heap.size; rw [hh]; exact Nat.le_refl _
 block:=fun b _ _=>by show w'.heap[b]? =_; rw [hh]
 cell:=fun b o _ _=>by show w'.cell? _=_; simp [World.cell?,hh]
 shape:=fun b cs t fr h=>⟨cs,fr,by show w'.heap[b]? =_; rw [hh]; exact h,rfl⟩
 steal:=fun _ _ _ h=>h
 obj:=fun _ cs _ h=>⟨rfl,cs,h,rfl⟩
 spare:=fun _ n _ h=>⟨n,h, .inl ⟨rfl,rfl⟩⟩
 mp:=fun _ m h=>⟨rfl,m,h⟩
 ro:=fun _ _ _ h=>⟨rfl,h⟩
theorem Good.draw (g:Good c) (hh:w'.heap=c.w.heap) (h1:w'.os=c.w.os) (h2:w'.tape=c.w.tape) (h3:w'.output=c.w.output):Good {c with w:=w'} where
 fin:=g.fin
 inj:=g.inj
 obj:=fun id cs t h=>by
  obtain ⟨vs,a1,a2,a3⟩:=g.obj id cs t h;exact ⟨vs,by show w'.heap[_]? =_; rw [hh]; exact a1,a2,fun j hj=>⟨(a3 j hj).1.mono (Ext.draw hh h1 h2 h3),(a3 j hj).2⟩⟩
 spare:=fun id n sz h=>by
  obtain ⟨a0,vs,t,fr,a1,a2⟩:=g.spare id n sz h;exact ⟨a0,vs,t,fr,by show w'.heap[_]? =_; rw [hh]; exact a1,a2⟩
 mp:=fun id m h=>by
  obtain ⟨es,cl,a1,a2,a3⟩:=g.mp id m h;exact ⟨es,cl,by show w'.heap[_]? =_; rw [hh]; exact a1,a2,fun i hi hi' =>⟨(a3 i hi hi').1,(a3 i hi hi').2.mono (Ext.draw hh h1 h2 h3)⟩⟩
 keys:=g.keys
 ro:=fun id b vs h=>g.l5 (Ext.draw hh h1 h2 h3) h
end
theorem cr (w:World) (o:Obj) {b:Nat} (h:b<w.heap.size):(w.alloc o).heap[b]? =w.heap[b]? :=Go.RowKit.Below.heap_alloc w o b h
theorem heap_alloc_new (w:World) (o:Obj):(w.alloc o).heap[w.heap.size]? =some o:=by
 show (w.heap.push o)[w.heap.size]? =_
 simp
theorem Good.lt {c:Cx} (g:Good c) {id:Nat} {k:Blk} (h:c.h id=some k):(c.φ id).block<c.w.heap.size:=by
 cases k with
 |obj cs t=>obtain ⟨vs,h1,_⟩:=g.obj id cs t h; exact cg h1
 |spare n sz=>obtain ⟨_,vs,t,fr,h1,_⟩:=g.spare id n sz h; exact cg h1
 |mp m=>obtain ⟨es,cl,h1,_⟩:=g.mp id m h; exact cg h1
 |ro b vs=>obtain ⟨h1,t,fr,h2⟩:=g.ro id b vs h; rw [h1]; exact cg h2
theorem Ext.alloc (c:Cx) (o:Obj):Ext c {c with w:=c.w.alloc o} where
 os:=rfl
 tape:=rfl
 output:=rfl
 size:=by simp
 block:=fun b hb _=>cr _ _ hb
 cell:=fun b x hb _=>World.cell?_alloc_lt _ _ _ hb
 shape:=fun b cs t fr h=>⟨cs,fr,(cr _ _ (cg h)).trans h,rfl⟩
 steal:=fun _ _ _ h=>h
 obj:=fun _ cs _ h=>⟨rfl,cs,h,rfl⟩
 spare:=fun _ n _ h=>⟨n,h, .inl ⟨rfl,rfl⟩⟩
 mp:=fun _ m h=>⟨rfl,m,h⟩
 ro:=fun _ _ _ h=>⟨rfl,h⟩
theorem Good.alloc {c:Cx} (g:Good c) (o:Obj):Good {c with w:=c.w.alloc o} where
 fin:=g.fin
 inj:=g.inj
 obj:=fun id cs t h=>by
  obtain ⟨vs,a1,a2,a3⟩:=g.obj id cs t h;exact ⟨vs,(cr _ _ (cg a1)).trans a1,a2,fun j hj=>⟨(a3 j hj).1.mono (Ext.alloc c o),(a3 j hj).2⟩⟩
 spare:=fun id n sz h=>by
  obtain ⟨a0,vs,t,fr,a1,a2⟩:=g.spare id n sz h;exact ⟨a0,vs,t,fr,(cr _ _ (cg a1)).trans a1,a2⟩
 mp:=fun id m h=>by
  obtain ⟨es,cl,a1,a2,a3⟩:=g.mp id m h;exact ⟨es,cl,(cr _ _ (cg a1)).trans a1,a2,fun i hi hi' =>⟨(a3 i hi hi').1,(a3 i hi hi').2.mono (Ext.alloc c o)⟩⟩
 keys:=g.keys
 ro:=fun id b vs h=>g.l5 (Ext.alloc c o) h
def Cx.aA (c:Cx) (o:Obj) (id:Nat) (a:Addr) (k:Blk):Cx:= {w:=c.w.alloc o,φ:=upd c.φ id a,h:=upd c.h id (some k)}
theorem xD {c:Cx} {o:Obj} {id:Nat} {a:Addr} {k:Blk} (ha:a.block=c.w.heap.size) {b x:Nat} (hb:b<c.w.heap.size)
  (h:owned (c.aA o id a k) b x):owned c b x:=by
 obtain ⟨j,l,h1,h2,h3⟩:=h
 by_cases e:j=id
 ·subst e
  simp only [Cx.aA,ah] at h2;omega
 ·simp only [Cx.aA,ag _ _ e] at h1 h2 h3
  exact ⟨j,l,h1,h2,h3⟩
theorem Ext.aA (c:Cx) (o:Obj) (id:Nat) (a:Addr) (k:Blk) (ha:a.block=c.w.heap.size)
  (hid:c.h id=none∨∃n m sz,c.h id=some (.spare n sz)∧k= .spare m sz∧n<m):Ext c (c.aA o id a k) where
 os:=rfl
 tape:=rfl
 output:=rfl
 size:=by simp [Cx.aA]
 block:=fun b hb _=>cr _ _ hb
 cell:=fun b x hb _=>World.cell?_alloc_lt _ _ _ hb
 shape:=fun b cs t fr h=>⟨cs,fr,(cr _ _ (cg h)).trans h,rfl⟩
 steal:=fun b x hb h=>xD ha hb h
 obj:=fun j cs t h=>by
  have e:j≠id:=by
   rintro rfl
   rcases hid with h' |⟨n,m,sz,h',_⟩<;>rw [h'] at h<;>cases h
  exact ⟨ag _ _ e,cs,(ag _ _ e).trans h,rfl⟩
 spare:=fun j n sz h=>by
  by_cases e:j=id
  ·subst e
   rcases hid with h' |⟨n',m,sz',h',rfl,hlt⟩
   ·rw [h'] at h; cases h
   ·rw [h'] at h; cases h
    exact ⟨m,by simp [Cx.aA,ah], .inr hlt⟩
  ·exact ⟨n,(ag _ _ e).trans h, .inl ⟨rfl,ag _ _ e⟩⟩
 mp:=fun j m h=>by
  have e:j≠id:=by
   rintro rfl
   rcases hid with h' |⟨n,m,sz,h',_⟩<;>rw [h'] at h<;>cases h
  exact ⟨ag _ _ e,m,(ag _ _ e).trans h⟩
 ro:=fun j b vs h=>by
  have e:j≠id:=by
   rintro rfl
   rcases hid with h' |⟨n,m,sz,h',_⟩<;>rw [h'] at h<;>cases h
  exact ⟨ag _ _ e,(ag _ _ e).trans h⟩
theorem Good.aA {c:Cx} (g:Good c) (vs:Array Value) (t:TypeId) (fr:Nat×Nat) (id:Nat) (a:Addr) (k:Blk) (ha:a.block=c.w.heap.size)
  (hid:c.h id=none∨∃n m sz,c.h id=some (.spare n sz)∧k= .spare m sz∧n<m)
  (hobj:∀cs t',k= .obj cs t'→t' =t∧fr=(0,0)∧vs.size=cs.length∧∀j (h:j<cs.length),Rep c cs[j] (vs.getD j undef)∧(vs.getD j undef).oneCell' =true)
  (hsp:∀n sz,k= .spare n sz→a.spot=none∧∀o,a.off+n*sz≤o→¬(fr.1≤o∧o<fr.2)) (hmp:∀m,k≠ .mp m:=by intro m hh; cases hh) (hro:∀b vs,k≠ .ro b vs:=by intro b vs hh; cases hh):
  Good (c.aA (.cells vs t fr) id a k):=by
 have hE:=Ext.aA c (.cells vs t fr) id a k ha hid;refine ⟨?_, ?_, ?_, ?_, ?_, ?_, ?_⟩
 ·obtain ⟨N,hN⟩:=g.fin
  refine ⟨max N (id+1),fun j hj=> ?_⟩
  have e:j≠id:=by omega
  exact (ag _ _ e).trans (hN j (by omega))
 ·intro i j k1 k2 h1 h2 hne
  by_cases ei:i=id
  ·subst ei
   have ej:j≠i:=fun e=>hne e.symm
   simp only [Cx.aA,ah,ag _ _ ej] at h2⊢;have:=g.lt h2;omega
  ·by_cases ej:j=id
   ·subst ej
    simp only [Cx.aA,ah,ag _ _ ei] at h1⊢;have:=g.lt h1;omega
   ·simp only [Cx.aA,ag _ _ ei,ag _ _ ej] at h1 h2⊢
    exact g.inj i j k1 k2 h1 h2 hne
 ·intro j cs t' h
  by_cases e:j=id
  ·subst e
   simp only [Cx.aA,ah,Option.some.injEq] at h;obtain ⟨rfl,rfl,h2,h3⟩:=hobj cs t' h;refine ⟨vs, ?_,h2,fun i hi=>⟨(h3 i hi).1.mono hE,(h3 i hi).2⟩⟩
   simp only [Cx.aA,ah,ha];exact heap_alloc_new _ _
  ·simp only [Cx.aA,ag _ _ e] at h
   obtain ⟨us,a1,a2,a3⟩:=g.obj j cs t' h;refine ⟨us, ?_,a2,fun i hi=>⟨(a3 i hi).1.mono hE,(a3 i hi).2⟩⟩
   simp only [Cx.aA,ag _ _ e];exact (cr _ _ (cg a1)).trans a1
 ·intro j n sz h
  by_cases e:j=id
  ·subst e
   simp only [Cx.aA,ah,Option.some.injEq] at h;obtain ⟨h1,h2⟩:=hsp n sz h;simp only [Cx.aA,ah];exact ⟨h1,vs,t,fr,by rw [ha]; exact heap_alloc_new _ _,h2⟩
  ·simp only [Cx.aA,ag _ _ e] at h⊢
   obtain ⟨a0,us,t',fr',a1,a2⟩:=g.spare j n sz h;exact ⟨a0,us,t',fr',(cr _ _ (cg a1)).trans a1,a2⟩
 ·intro j m h
  by_cases e:j=id
  ·subst e
   simp only [Cx.aA,ah,Option.some.injEq] at h;exact (hmp m h).elim
  ·simp only [Cx.aA,ag _ _ e] at h
   obtain ⟨es,cl,a1,a2,a3⟩:=g.mp j m h;refine ⟨es,cl, ?_,a2,fun i hi hi' =>⟨(a3 i hi hi').1,(a3 i hi hi').2.mono hE⟩⟩
   simp only [Cx.aA,ag _ _ e];exact (cr _ _ (cg a1)).trans a1
 ·intro j m h
  by_cases e:j=id
  ·subst e
   simp only [Cx.aA,ah,Option.some.injEq] at h;exact (hmp m h).elim
  ·simp only [Cx.aA,ag _ _ e] at h
   exact g.keys j m h
 ·intro j b us h
  by_cases e:j=id
  ·subst e
   simp only [Cx.aA,ah,Option.some.injEq] at h;exact (hro b us h).elim
  ·simp only [Cx.aA,ag _ _ e] at h
   exact g.l5 hE h
theorem Good.allocMap {c:Cx} (g:Good c) (id:Nat) (hid:c.h id=none):Good (c.aA (.map #[] 0) id ⟨c.w.heap.size,0,none⟩ (.mp [])):=by
 have hE:=Ext.aA c (.map #[] 0) id ⟨c.w.heap.size,0,none⟩ (.mp []) rfl (.inl hid);have old:∀ {j k},(c.aA (.map #[] 0) id ⟨c.w.heap.size,0,none⟩ (.mp [])).h j=some k→j≠id→c.h j=some k∧(c.aA (.map #[] 0) id ⟨c.w.heap.size,0,none⟩ (.mp [])).φ j=c.φ j:=fun h e=>by
  simp only [Cx.aA,ag _ _ e] at h⊢;exact ⟨h,trivial⟩
 refine ⟨?_, ?_, ?_, ?_, ?_, ?_, ?_⟩
 ·obtain ⟨N,hN⟩:=g.fin
  refine ⟨max N (id+1),fun j hj=> ?_⟩
  have e:j≠id:=by omega
  exact (ag _ _ e).trans (hN j (by omega))
 ·intro i j k1 k2 h1 h2 hne
  by_cases ei:i=id
  ·subst ei
   have ej:j≠i:=fun e=>hne e.symm
   simp only [Cx.aA,ah,ag _ _ ej] at h2⊢;have:=g.lt h2;omega
  ·by_cases ej:j=id
   ·subst ej
    simp only [Cx.aA,ah,ag _ _ ei] at h1⊢;have:=g.lt h1;omega
   ·simp only [Cx.aA,ag _ _ ei,ag _ _ ej] at h1 h2⊢
    exact g.inj i j k1 k2 h1 h2 hne
 ·intro j cs t' h
  have e:j≠id:=fun e=>by subst e; simp [Cx.aA,ah] at h
  obtain ⟨h,hφ⟩:=old h e;obtain ⟨us,a1,a2,a3⟩:=g.obj j cs t' h;rw [hφ];exact ⟨us,(cr _ _ (cg a1)).trans a1,a2,fun i hi=>⟨(a3 i hi).1.mono hE,(a3 i hi).2⟩⟩
 ·intro j n sz h
  have e:j≠id:=fun e=>by subst e; simp [Cx.aA,ah] at h
  obtain ⟨h,hφ⟩:=old h e;obtain ⟨a0,us,t',fr',a1,a2⟩:=g.spare j n sz h;rw [hφ];exact ⟨a0,us,t',fr',(cr _ _ (cg a1)).trans a1,a2⟩
 ·intro j m h
  by_cases e:j=id
  ·subst e
   simp only [Cx.aA,ah,Option.some.injEq,Blk.mp.injEq] at h;subst h;simp only [Cx.aA,ah];exact ⟨#[],0,heap_alloc_new _ _,rfl,fun i hi=>by cases hi⟩
  ·obtain ⟨h,hφ⟩:=old h e
   obtain ⟨es,cl,a1,a2,a3⟩:=g.mp j m h;rw [hφ];exact ⟨es,cl,(cr _ _ (cg a1)).trans a1,a2,fun i hi hi' =>⟨(a3 i hi hi').1,(a3 i hi hi').2.mono hE⟩⟩
 ·intro j m h
  by_cases e:j=id
  ·subst e
   simp only [Cx.aA,ah,Option.some.injEq,Blk.mp.injEq] at h;subst h;exact .nil
  ·exact g.keys j m (old h e).1
 ·intro j b us h
  have e:j≠id:=fun e=>by subst e; simp [Cx.aA,ah] at h
  exact g.l5 hE (old h e).1
theorem Good.fresh {c:Cx} (g:Good c):∃id,c.h id=none:=let ⟨N,h⟩:=g.fin; ⟨N,h N (Nat.le_refl _)⟩
theorem mq (b:Nat):∀(vs:List Value) (o:Nat) (w:World),(w.setCells b o vs).heap.size=w.heap.size
 | [],_,_=>rfl
 |v::r,o,w=>by rw [World.setCells,mq b r,World.size_setCell]
theorem bT (b:Nat):∀(vs:List Value) (o:Nat) (w:World) (k:Nat),k≠b→(w.setCells b o vs).heap[k]? =w.heap[k]?
 | [],_,_,_,_=>rfl
 |v::r,o,w,k,h=>by rw [World.setCells,bT b r _ _ k h,Go.RowKit.Below.heap_setCell _ _ _ _ h]
theorem eW (b:Nat):∀(vs:List Value) (o:Nat) (w:World) (cs:Array Value) (t:TypeId) (fr:Nat×Nat),w.heap[b]? =some (.cells cs t fr)→
  ∃cs' :Array Value,(w.setCells b o vs).heap[b]? =some (.cells cs' t fr)∧cs'.size=cs.size
 | [],_,_,cs,_,_,h=>⟨cs,h,rfl⟩
 |v::r,o,w,cs,t,fr,h=>by
  have h1:(w.setCell ⟨b,o,none⟩ v).heap[b]? =some (.cells (cs.setIfInBounds o v) t fr):=by
   simp [World.setCell,Array.getElem?_modify,h]
  obtain ⟨cs',h2,h3⟩:=eW b r (o+1) _ _ t fr h1;exact ⟨cs',h2,by simpa using h3⟩
theorem lV (b:Nat):∀(vs:List Value) (o:Nat) (w:World),(w.setCells b o vs).os=w.os∧(w.setCells b o vs).tape=w.tape∧(w.setCells b o vs).output=w.output
 | [],_,_=>⟨rfl,rfl,rfl⟩
 |v::r,o,w=>by rw [World.setCells]; exact lV b r (o+1) _
def Cx.fill (c:Cx) (id o:Nat) (vs:List Value) (k:Blk):Cx:= {c with w:=c.w.setCells (c.φ id).block o vs,h:=upd c.h id (some k)}
theorem Ext.fill {c:Cx} (id o:Nat) (vs:List Value) (k0 k:Blk) (h:c.h id=some k0) (ho:k0.holds (c.φ id) o)
  (hk:(∃cs cs' t,k0= .obj cs t∧k= .obj cs' t∧cs'.length=cs.length)∨(∃n m sz,k0= .spare n sz∧k= .spare m sz∧n<m)):Ext c (c.fill id o vs k) where
 os:=(lV _ vs o _).1
 tape:=(lV _ vs o _).2.1
 output:=(lV _ vs o _).2.2
 size:=by show _≤(c.w.setCells _ o vs).heap.size; rw [mq]; exact Nat.le_refl _
 block:=fun b _ hno=>bT _ vs o _ b fun e=>hno o ⟨id,k0,h,e.symm,ho⟩
 cell:=fun b x _ hno=>World.cell?_setCells_out _ vs o _ _ fun e _=>by
  rcases Nat.lt_or_ge x o with h' |h'
  ·exact .inl h'
  ·exact (hno ⟨id,k0,h,e.symm,ho.up h'⟩).elim
 shape:=fun b cs t fr hb=>by
  by_cases e:b=(c.φ id).block
  ·subst e
   obtain ⟨cs',h1,h2⟩:=eW _ vs o _ cs t fr hb;exact ⟨cs',fr,h1,h2⟩
  ·exact ⟨cs,fr,(bT _ vs o _ b e).trans hb,rfl⟩
 steal:=fun b x _ hx=>by
  obtain ⟨j,l,h1,h2,h3⟩:=hx
  by_cases e:j=id
  ·subst e
   simp only [Cx.fill,ah,Option.some.injEq] at h1;subst h1;refine ⟨j,k0,h,h2, ?_⟩;rcases hk with ⟨cs,cs',t,rfl,rfl,_⟩|⟨n,m,sz,rfl,rfl,hlt⟩
   ·exact Nat.zero_le _
   ·simp only [Blk.holds,Blk.start,Cx.fill] at h3⊢
    have:n*sz≤m*sz:=Nat.mul_le_mul_right _ (Nat.le_of_lt hlt);omega
  ·simp only [Cx.fill,ag _ _ e] at h1 h2 h3
   exact ⟨j,l,h1,h2,h3⟩
 obj:=fun j cs t hj=>by
  by_cases e:j=id
  ·subst e
   rw [h] at hj;rcases hk with ⟨cs0,cs',t0,rfl,rfl,hlen⟩|⟨n,m,sz,rfl,_⟩<;>cases hj
   exact ⟨rfl,cs',by simp [Cx.fill,ah],hlen⟩
  ·exact ⟨rfl,cs,(ag _ _ e).trans hj,rfl⟩
 spare:=fun j n sz hj=>by
  by_cases e:j=id
  ·subst e
   rw [h] at hj;rcases hk with ⟨cs0,cs',t0,rfl,_⟩|⟨n0,m,sz0,rfl,rfl,hlt⟩<;>cases hj
   exact ⟨m,by simp [Cx.fill,ah], .inr hlt⟩
  ·exact ⟨n,(ag _ _ e).trans hj, .inl ⟨rfl,rfl⟩⟩
 mp:=fun j m hj=>by
  have e:j≠id:=by
   rintro rfl
   rw [h] at hj;rcases hk with ⟨cs0,cs',t0,rfl,_⟩|⟨n0,m,sz0,rfl,_⟩<;>cases hj
  exact ⟨rfl,m,(ag _ _ e).trans hj⟩
 ro:=fun j b us hj=>by
  have e:j≠id:=by
   rintro rfl
   rw [h] at hj;rcases hk with ⟨cs0,cs',t0,rfl,_⟩|⟨n0,m,sz0,rfl,_⟩<;>cases hj
  exact ⟨rfl,(ag _ _ e).trans hj⟩
def over (cs:List AV) (o:Nat) (xs:List AV):List AV:=cs.take o++xs++cs.drop (o+xs.length)
theorem gK {cs xs:List AV} {o:Nat} (h:o+xs.length≤cs.length):(over cs o xs).length=cs.length:=by
 simp [over]; omega
theorem BB {cs xs:List AV} {o j:Nat} (h:o+xs.length≤cs.length) (hj:j<cs.length) (hne:j<o∨o+xs.length≤j)
  (hj' :j<(over cs o xs).length):(over cs o xs)[j]=cs[j]:=by
 rcases hne with h1|h1
 ·simp only [over,List.append_assoc]
  rw [List.getElem_append_left (by simp; omega)]
  simp
 ·simp only [over]
  rw [List.getElem_append_right (by simp; omega)]
  simp only [V4,List.length_take,List.getElem_drop]
  congr 1
  omega
theorem Ei {cs xs:List AV} {o j:Nat} (h:o+xs.length≤cs.length) (hj:j<xs.length)
  (hj' :o+j<(over cs o xs).length):(over cs o xs)[o+j]=xs[j]:=by
 simp only [over,List.append_assoc];rw [List.getElem_append_right (by simp; omega)]
 rw [List.getElem_append_left (by simp; omega)]
 congr 1
 simp; omega
theorem Good.JO {c:Cx} (g:Good c) (id o:Nat) (vs:List Value) (cs xs:List AV) (t:TypeId) (h:c.h id=some (.obj cs t))
  (hl:vs.length=xs.length) (hb:o+xs.length≤cs.length) (hr:∀j (h:j<xs.length),Rep c xs[j] (vs.getD j undef)∧(vs.getD j undef).oneCell' =true):
  Good (c.fill id o vs (.obj (over cs o xs) t)):=by
 have hE:=Ext.fill id o vs (.obj cs t) (.obj (over cs o xs) t) h (Nat.zero_le _) (.inl ⟨_,_,_,rfl,rfl,gK (by assumption)⟩)
 refine ⟨?_, ?_, ?_, ?_, ?_, ?_, ?_⟩
 ·obtain ⟨N,hN⟩:=g.fin
  refine ⟨max N (id+1),fun j hj=> ?_⟩
  have e:j≠id:=by omega
  exact (ag _ _ e).trans (hN j (by omega))
 ·intro i j k1 k2 h1 h2 hne
  have f:∀i k,(c.fill id o vs (.obj (over cs o xs) t)).h i=some k→∃k',c.h i=some k' :=fun i k hi=>by
   by_cases e:i=id
   ·subst e; exact ⟨_,h⟩
   ·exact ⟨k,by simpa only [Cx.fill,ag _ _ e] using hi⟩
  obtain ⟨k1',h1'⟩:=f i k1 h1;obtain ⟨k2',h2'⟩:=f j k2 h2;exact g.inj i j k1' k2' h1' h2' hne
 ·intro j ys t' hj
  by_cases e:j=id
  ·subst e
   simp only [Cx.fill,ah,Option.some.injEq,Blk.obj.injEq] at hj;obtain ⟨rfl,rfl⟩:=hj;obtain ⟨us,a1,a2,a3⟩:=g.obj j cs t h;obtain ⟨us',b1,b2⟩:=eW _ vs o c.w us t (0,0) a1;refine ⟨us',b1,by rw [gK hb]; omega,fun i hi=> ?_⟩
   have hi' :i<cs.length:=by rwa [gK hb] at hi
   have hcell:∀i,i<us.size→c.w.cell? ⟨(c.φ j).block,i,none⟩=some (us.getD i undef):=fun i hi=>by simp [World.cell?,a1,hi]
   have hcell' :(c.w.setCells (c.φ j).block o vs).cell? ⟨(c.φ j).block,i,none⟩=some (us'.getD i undef):=by
    have:i<us'.size:=by omega
    simp [World.cell?,b1,this]
   by_cases hin:o≤i∧i<o+xs.length
   ·obtain ⟨k,rfl⟩:∃k,i=o+k:=⟨i - o,by omega⟩
    have hk:k<xs.length:=by omega
    have:=World.cell?_setCells_in (c.φ j).block vs o c.w (fun m hm=>by rw [hcell _ (by omega)]; rfl) k (by omega)
    rw [hcell'] at this;simp only [Option.some.injEq] at this;rw [this,Ei hb hk];have h3:=hr k hk;have e3:vs.getD k undef=vs[k]:=by simp [List.getD,List.getElem?_eq_getElem (show k<vs.length by omega)]
    rw [e3] at h3;exact ⟨h3.1.mono hE,h3.2⟩
   ·have hout:i<o∨o+xs.length≤i:=by omega
    have:=World.cell?_setCells_out (c.φ j).block vs o c.w ⟨(c.φ j).block,i,none⟩ (fun _ _=>by simp only; omega)
    rw [hcell',hcell i (by omega)] at this
    simp only [Option.some.injEq] at this;rw [this,BB hb hi' hout];exact ⟨(a3 i hi').1.mono hE,(a3 i hi').2⟩
  ·simp only [Cx.fill,ag _ _ e] at hj
   obtain ⟨us,a1,a2,a3⟩:=g.obj j ys t' hj;refine ⟨us,(bT _ vs o _ _ ?_).trans a1,a2,fun i hi=>⟨(a3 i hi).1.mono hE,(a3 i hi).2⟩⟩
   exact g.inj j id _ _ hj h e
 ·intro j n sz hj
  have e:j≠id:=by
   rintro rfl
   simp [Cx.fill,ah] at hj
  simp only [Cx.fill,ag _ _ e] at hj⊢;obtain ⟨a0,us,t',fr',a1,a2⟩:=g.spare j n sz hj;exact ⟨a0,us,t',fr',(bT _ vs o _ _ (g.inj j id _ _ hj h e)).trans a1,a2⟩
 ·intro j m hj
  have e:j≠id:=fun e=>by subst e; simp [Cx.fill,ah] at hj
  simp only [Cx.fill,ag _ _ e] at hj⊢;obtain ⟨es,cl,a1,a2,a3⟩:=g.mp j m hj;exact ⟨es,cl,(bT _ vs o _ _ (g.inj j id _ _ hj h e)).trans a1,a2,fun i hi hi' =>⟨(a3 i hi hi').1,(a3 i hi hi').2.mono hE⟩⟩
 ·intro j m hj
  have e:j≠id:=fun e=>by subst e; simp [Cx.fill,ah] at hj
  simp only [Cx.fill,ag _ _ e] at hj;exact g.keys j m hj
 ·intro j b us hj
  have e:j≠id:=fun e=>by subst e; simp [Cx.fill,ah] at hj
  simp only [Cx.fill,ag _ _ e] at hj;exact g.l5 hE hj
theorem Good.E5 {c:Cx} (g:Good c) (id o:Nat) (vs:List Value) (n m sz:Nat) (h:c.h id=some (.spare n sz)) (ho:(c.φ id).off+n*sz≤o) (hlt:n<m):
  Good (c.fill id o vs (.spare m sz)):=by
 have hE:=Ext.fill id o vs (.spare n sz) (.spare m sz) h ho (.inr ⟨_,_,_,rfl,rfl,hlt⟩);refine ⟨?_, ?_, ?_, ?_, ?_, ?_, ?_⟩
 ·obtain ⟨N,hN⟩:=g.fin
  refine ⟨max N (id+1),fun j hj=> ?_⟩
  have e:j≠id:=by omega
  exact (ag _ _ e).trans (hN j (by omega))
 ·intro i j k1 k2 h1 h2 hne
  have f:∀i k,(c.fill id o vs (.spare m sz)).h i=some k→∃k',c.h i=some k' :=fun i k hi=>by
   by_cases e:i=id
   ·subst e; exact ⟨_,h⟩
   ·exact ⟨k,by simpa only [Cx.fill,ag _ _ e] using hi⟩
  obtain ⟨k1',h1'⟩:=f i k1 h1;obtain ⟨k2',h2'⟩:=f j k2 h2;exact g.inj i j k1' k2' h1' h2' hne
 ·intro j ys t' hj
  have e:j≠id:=by
   rintro rfl
   simp [Cx.fill,ah] at hj
  simp only [Cx.fill,ag _ _ e] at hj;obtain ⟨us,a1,a2,a3⟩:=g.obj j ys t' hj;refine ⟨us,(bT _ vs o _ _ ?_).trans a1,a2,fun i hi=>⟨(a3 i hi).1.mono hE,(a3 i hi).2⟩⟩
  exact g.inj j id _ _ hj h e
 ·intro j n' sz' hj
  by_cases e:j=id
  ·subst e
   simp only [Cx.fill,ah,Option.some.injEq,Blk.spare.injEq] at hj;obtain ⟨rfl,rfl⟩:=hj;obtain ⟨a0,us,t',fr',a1,a2⟩:=g.spare j n sz h;obtain ⟨us',b1,_⟩:=eW _ vs o c.w us t' fr' a1;refine ⟨a0,us',t',fr',b1,fun x hx=>a2 x ?_⟩
   have:n*sz≤m*sz:=Nat.mul_le_mul_right _ (Nat.le_of_lt hlt);simp only [Cx.fill] at hx;omega
  ·simp only [Cx.fill,ag _ _ e] at hj⊢
   obtain ⟨a0,us,t',fr',a1,a2⟩:=g.spare j n' sz' hj;exact ⟨a0,us,t',fr',(bT _ vs o _ _ (g.inj j id _ _ hj h e)).trans a1,a2⟩
 ·intro j m' hj
  have e:j≠id:=fun e=>by subst e; simp [Cx.fill,ah] at hj
  simp only [Cx.fill,ag _ _ e] at hj⊢;obtain ⟨es,cl,a1,a2,a3⟩:=g.mp j m' hj;exact ⟨es,cl,(bT _ vs o _ _ (g.inj j id _ _ hj h e)).trans a1,a2,fun i hi hi' =>⟨(a3 i hi hi').1,(a3 i hi hi').2.mono hE⟩⟩
 ·intro j m' hj
  have e:j≠id:=fun e=>by subst e; simp [Cx.fill,ah] at hj
  simp only [Cx.fill,ag _ _ e] at hj;exact g.keys j m' hj
 ·intro j b us hj
  have e:j≠id:=fun e=>by subst e; simp [Cx.fill,ah] at hj
  simp only [Cx.fill,ag _ _ e] at hj;exact g.l5 hE hj
def Cx.turn (c:Cx) (id:Nat) (es:Array MapEntry) (cl:Nat) (m:List (AV×AV)):Cx:= {c with w:= {c.w with heap:=c.w.heap.setIfInBounds (c.φ id).block (.map es cl)},h:=upd c.h id (some (.mp m))}
theorem fo {c:Cx} {id:Nat} {es:Array MapEntry} {cl:Nat} {m:List (AV×AV)} {b:Nat} (h:b≠(c.φ id).block):(c.turn id es cl m).w.heap[b]? =c.w.heap[b]? :=by
 simp only [Cx.turn];rw [Array.getElem?_setIfInBounds_ne (Ne.symm h)]
theorem Ext.turn {c:Cx} (id:Nat) (es es0:Array MapEntry) (cl cl0:Nat) (m m0:List (AV×AV)) (h:c.h id=some (.mp m0)) (hb:c.w.heap[(c.φ id).block]? =some (.map es0 cl0)):Ext c (c.turn id es cl m) where
 os:=rfl
 tape:=rfl
 output:=rfl
 size:=by simp [Cx.turn]
 block:=fun b _ hno=>fo fun e=>hno 0 ⟨id,_,h,e.symm,Nat.zero_le _⟩
 cell:=fun b x _ hno=>by
  have e:b≠(c.φ id).block:=fun e=>hno ⟨id,_,h,e.symm,Nat.zero_le _⟩
  unfold World.cell?;rw [fo e]
 shape:=fun b cs t fr hh=>by
  have e:b≠(c.φ id).block:=fun e=>by subst e; rw [hb] at hh; cases hh
  exact ⟨cs,fr,(fo e).trans hh,rfl⟩
 steal:=fun b x _ ho=>by
  obtain ⟨j,k,h1,h2,h3⟩:=ho
  by_cases e:j=id
  ·subst e; exact ⟨j,_,h,h2,Nat.zero_le _⟩
  ·simp only [Cx.turn,ag _ _ e] at h1 h2 h3
   exact ⟨j,k,h1,h2,h3⟩
 obj:=fun j cs t hj=>by
  have e:j≠id:=fun e=>by subst e; rw [h] at hj; cases hj
  exact ⟨rfl,cs,(ag _ _ e).trans hj,rfl⟩
 spare:=fun j n sz hj=>by
  have e:j≠id:=fun e=>by subst e; rw [h] at hj; cases hj
  exact ⟨n,(ag _ _ e).trans hj, .inl ⟨rfl,rfl⟩⟩
 mp:=fun j m' hj=>by
  by_cases e:j=id
  ·subst e; exact ⟨rfl,m,by simp [Cx.turn,ah]⟩
  ·exact ⟨rfl,m',(ag _ _ e).trans hj⟩
 ro:=fun j b us hj=>by
  have e:j≠id:=fun e=>by subst e; rw [h] at hj; cases hj
  exact ⟨rfl,(ag _ _ e).trans hj⟩
theorem Good.turn {c:Cx} (g:Good c) (id:Nat) (es es0:Array MapEntry) (cl cl0:Nat) (m m0:List (AV×AV)) (h:c.h id=some (.mp m0)) (hb:c.w.heap[(c.φ id).block]? =some (.map es0 cl0))
  (hs:es.size=m.length) (hr:∀i (h:i<m.length) (h' :i<es.size),es[i].key=gU m[i].1∧Rep c m[i].2 es[i].val) (hk:m.Pairwise (fun p q=>gU p.1≠gU q.1)):Good (c.turn id es cl m):=by
 have hE:=Ext.turn (c:=c) id es es0 cl cl0 m m0 h hb;have f:∀j k,(c.turn id es cl m).h j=some k→∃k',c.h j=some k' :=fun j k hj=>by
  by_cases e:j=id
  ·subst e; exact ⟨_,h⟩
  ·exact ⟨k,by simpa only [Cx.turn,ag _ _ e] using hj⟩
 refine ⟨?_, ?_, ?_, ?_, ?_, ?_, ?_⟩
 ·obtain ⟨N,hN⟩:=g.fin
  refine ⟨max N (id+1),fun j hj=> ?_⟩
  have e:j≠id:=by omega
  exact (ag _ _ e).trans (hN j (by omega))
 ·intro i j k1 k2 h1 h2 hne
  obtain ⟨k1',h1'⟩:=f i k1 h1;obtain ⟨k2',h2'⟩:=f j k2 h2;exact g.inj i j k1' k2' h1' h2' hne
 ·intro j cs t hj
  have e:j≠id:=fun e=>by subst e; simp [Cx.turn,ah] at hj
  have hj' :c.h j=some (.obj cs t):=by simpa only [Cx.turn,ag _ _ e] using hj
  obtain ⟨us,a1,a2,a3⟩:=g.obj j cs t hj';exact ⟨us,(fo (g.inj j id _ _ hj' h e)).trans a1,a2,fun i hi=>⟨(a3 i hi).1.mono hE,(a3 i hi).2⟩⟩
 ·intro j n sz hj
  have e:j≠id:=fun e=>by subst e; simp [Cx.turn,ah] at hj
  have hj' :c.h j=some (.spare n sz):=by simpa only [Cx.turn,ag _ _ e] using hj
  obtain ⟨a0,us,t',fr',a1,a2⟩:=g.spare j n sz hj';exact ⟨a0,us,t',fr',(fo (g.inj j id _ _ hj' h e)).trans a1,a2⟩
 ·intro j m' hj
  by_cases e:j=id
  ·subst e
   simp only [Cx.turn,ah,Option.some.injEq,Blk.mp.injEq] at hj;subst hj;refine ⟨es,cl, ?_,hs,fun i hi hi' =>⟨(hr i hi hi').1,(hr i hi hi').2.mono hE⟩⟩
   have hlt:=cg hb;simp only [Cx.turn];simp [hlt]
  ·have hj' :c.h j=some (.mp m'):=by simpa only [Cx.turn,ag _ _ e] using hj
   obtain ⟨es',cl',a1,a2,a3⟩:=g.mp j m' hj';exact ⟨es',cl',(fo (g.inj j id _ _ hj' h e)).trans a1,a2,fun i hi hi' =>⟨(a3 i hi hi').1,(a3 i hi hi').2.mono hE⟩⟩
 ·intro j m' hj
  by_cases e:j=id
  ·subst e
   simp only [Cx.turn,ah,Option.some.injEq,Blk.mp.injEq] at hj;subst hj;exact hk
  ·exact g.keys j m' (by simpa only [Cx.turn,ag _ _ e] using hj)
 ·intro j b us hj
  have e:j≠id:=fun e=>by subst e; simp [Cx.turn,ah] at hj
  exact g.l5 hE (by simpa only [Cx.turn,ag _ _ e] using hj)
inductive TK where
 |int (k:IntKind)
 |bool
 |str
 |slice (e:TypeId)
 |strct (fs:List (Nat×TypeId))
 |ptr (e:TypeId)
 |arr (n:Nat) (e:TypeId)
 |iface
 |cplx (k:FloatKind)
 |map (k e:TypeId)
 |other
structure TI where
 k:TK
 sz:Nat
 bytes:Nat
 zero:AV
 eq:Option (Nat×List TK)
def TK.agg:TK→Bool
 | .strct _| .arr _ _=>true
 |_=>false
def isUnit:TK→Bool
 | .strct []=>true
 |_=>false
theorem sI {k:TK} (h:isUnit k=true):k= .strct []:=by
 unfold isUnit at h;split at h
 ·rfl
 ·cases h
def B8 (U:TypeId→TI) (r:Nat):List (Nat×TypeId)→Nat→List TK→Prop
 | [],_,l=>l= []
 |f::fs,o,l=>f.1=o∧∃r' l',(U f.2).eq=some (r',l')∧r' <r∧l.take l'.length=l'∧B8 U r fs (o+l'.length) (l.drop l'.length)
def Jm (P:Program) (U:TypeId→TI) (t:TypeId) (r:Nat) (l:List TK):Prop:=
 l.length=(U t).sz∧l≠ []∧r<100∧match (U t).k with
  | .int k=>l= [.int k]
  | .bool=>l= [.bool]
  | .str=>l= [.str]
  | .cplx k=>l= [.cplx k]
  | .strct fs => P.stoodInHeld t = false ∧ P.eqGuardType P.depth t = false ∧ (∀ f ∈ P.fieldsOf t, f.name ≠ "_") ∧ B8 U r fs 0 l
  | .arr n e=>P.eqGuardType P.depth t=false∧∃r' l',(U e).eq=some (r',l')∧r' <r∧l=(List.replicate n l').flatten
  |_=>False
structure aN (P:Program) (U:TypeId→TI) (t:TypeId):Prop where
 desc:match (U t).k with
  | .int k=>P.underlying t=some (.int k)
  | .bool=>P.underlying t=some .bool
  | .str=>P.underlying t=some .string
  | .slice e=>P.underlying t=some (.slice e)
  | .strct fs=>∃fields:Array Field,P.underlying t=some (.struct fields)∧fields.toList.map (fun f=>(f.offset,f.type))=fs∧∀p∈fs,(U p.2).sz≠0
  | .ptr e=>P.underlying t=some (.pointer e)
  | .arr n e=>P.underlying t=some (.array n e)
  | .iface=>∃ms,P.underlying t=some (.interface ms)
  | .cplx k=>P.underlying t=some (.complex k)
  | .map k e=>P.underlying t=some (.map k e)
  | .other=>True
 info:(U t).sz≠0→∃i,P.info? t=some i∧i.size=(U t).sz∧i.bytes=(U t).bytes∧∃z,i.zero=some z∧z.cells.size=(U t).sz∧∀c,Rep c (U t).zero z
 unit:(U t).k= .strct []→∃i,P.info? t=some i∧i.zero=some (.agg #[])∧i.size=0
 eq:∀r l,(U t).eq=some (r,l)→Jm P U t r l
def ct (c:UInt8):AV:= .v (.int .u8 c.toNat)
def Dd:Value→AV
 | .string b=>if b.data.toList.length<lim then .s b.data.toList else .v (.string b)
 | .slice a l c=>match a,l,c with
  |none,0,0=> .sl [] .full
  |a,l,c=> .v (.slice a l c)
 | .func g a b=>match g with
  | .func f=>if a.size=0∧b.size=0 then .fn f [] else .v (.func (.func f) a b)
  |g=> .v (.func g a b)
 |x=> .v x
def ofV:Value→AV
 | .agg cs=>if cs.toList.all (fun x=>x.oneCell') then .agg (cs.toList.map Dd) else .v (.agg cs)
 |x=>Dd x
theorem wP (c:Cx) (x:Value):Rep c (Dd x) x:=by
 cases x
 case string b=>
  simp only [Dd];split
  ·rename_i h; exact .s _ h
  ·exact .v _
 case slice a l k=>
  simp only [Dd];split
  ·exact .sl [] .full none 0 0 (fun _ _=>undef) (Nat.le_refl _) (by decide) (fun _=>rfl) (fun q h _=>by cases h) (fun i h=>by cases h) (fun q h=>by cases h) (fun i h=>by cases h) (fun i j h=>by cases h) rfl
  ·exact .v _
 case func g a b=>
  simp only [Dd];split
  ·split
   ·rename_i h
    obtain ⟨h1,h2⟩:=h;have e1:a= #[]:=Array.eq_empty_of_size_eq_zero h1;have e2:b= #[]:=Array.eq_empty_of_size_eq_zero h2;subst e1; subst e2
    exact .fn _ [] #[] rfl (fun i h=>by cases h)
   ·exact .v _
  ·exact .v _
 all_goals exact .v _
theorem Kk (c:Cx) (x:Value):Rep c (ofV x) x:=by
 unfold ofV;split
 ·rename_i cs
  split
  ·rename_i h
   rw [List.all_eq_true] at h;refine .agg _ _ (by simp) (fun i hi=> ?_) (fun i hi=> ?_)
   ·have hi' :i<cs.size:=by simpa using hi
    simp only [V1,Array.getElem_toList];have e:cs.getD i undef=cs[i]:=by simp [hi']
    rw [e];exact wP c _
   ·have hi' :i<cs.size:=by simpa using hi
    have e:cs.getD i undef=cs[i]:=by simp [hi']
    rw [e];exact h _ (by simp)
  ·exact .v _
 ·exact wP c _
def ev (ρ:Env):Operand→Option AV
 | .tmp t=>lk ρ t
 | .const v=>some (ofV v)
 | .global _=>none
 | .func f=>some (.fn f [])
theorem aE {c:Cx} {n:Nat} {ρ:Env} {a:Act} (h:cj c n ρ a) {x:Operand} {y:AV} (hx:ev ρ x=some y):Rep c y (a.eval x):=by
 cases x with
 |tmp t=>exact h.rep t y hx
 |const v=>simp only [ev,Option.some.injEq] at hx; subst hx; exact Kk c v
 |global g=>cases hx
 |func f=>simp only [ev,Option.some.injEq] at hx; subst hx; exact .fn f [] #[] rfl (fun i h=>by cases h)
def withv (ρ:Env) (x:Operand) (k:AV→Prop):Prop:=
 match ev ρ x with
 |some y=>k y
 |none=>False
def Idx {α:Type} (xs:List α) (n:Int) (k:α→Prop):Prop:=0≤n∧∃x,xs[n.toNat]? =some x∧k x
def bA:AV→Bool
 | .agg _=>true
 |_=>false
def gL (cs:List AV) (off:Nat) (i:TI) (k:AV→Prop):Prop:=
 if i.k.agg then off+i.sz≤cs.length∧k (.agg ((cs.drop off).take i.sz)) else∃x,cs[off]? =some x∧k x
def atA (y:AV) (off:Nat) (i:TI) (k:AV→Prop):Prop:=
 if off=0∧y.cells.length=i.sz∧bA y=i.k.agg then k y else gL y.cells off i k
def sx (op:BinOp) (k:IntKind) (a b:Int) (K:AV→Prop):Prop:=
 match op with
 | .add=>K (.v (.int k (k.wrap (a+b))))
 | .sub=>K (.v (.int k (k.wrap (a - b))))
 | .mul=>K (.v (.int k (k.wrap (a*b))))
 | .quo=>b≠0∧K (.v (.int k (k.wrap (a.tdiv b))))
 | .rem=>b≠0∧K (.v (.int k (a.tmod b)))
 | .and=>K (.v (.int k (k.wrap (BitVec.ofInt k.bits a &&& BitVec.ofInt k.bits b).toNat)))
 | .or=>K (.v (.int k (k.wrap (BitVec.ofInt k.bits a|||BitVec.ofInt k.bits b).toNat)))
 | .xor=>K (.v (.int k (k.wrap (BitVec.ofInt k.bits a ^^^ BitVec.ofInt k.bits b).toNat)))
 | .andNot=>K (.v (.int k (k.wrap (BitVec.ofInt k.bits a &&& ~~~ BitVec.ofInt k.bits b).toNat)))
 | .eql=>K (.v (.bool (a==b)))
 | .neq=>K (.v (.bool (a !=b)))
 | .lss=>K (.v (.bool (decide (a<b))))
 | .leq=>K (.v (.bool (decide (a≤b))))
 | .gtr=>K (.v (.bool (decide (b<a))))
 | .geq=>K (.v (.bool (decide (b≤a))))
 |_=>False
def GP (op:BinOp) (k:IntKind) (a b:Int) (K:AV→Prop):Prop:=
 match op with
 | .shl=>0≤b∧K (.v (.int k (k.wrap (a*2 ^ (min b.toNat k.bits)))))
 | .shr=>0≤b∧K (.v (.int k (a.fdiv (2 ^ (min b.toNat k.bits)))))
 |_=>False
def LW (op:BinOp) (a b:List UInt8) (K:AV→Prop):Prop:=
 match op with
 | .add=>a.length+b.length<lim∧K (.s (a++b))
 | .eql=>K (.v (.bool (a==b)))
 | .neq=>K (.v (.bool (!(a==b))))
 | .lss=>K (.v (.bool (Op.bytesLess a b)))
 | .leq=>K (.v (.bool (Op.bytesLess a b||a==b)))
 | .gtr=>K (.v (.bool (!(Op.bytesLess a b||a==b))))
 | .geq=>K (.v (.bool (!(Op.bytesLess a b))))
 |_=>False
def MA:AV→Option Bool
 | .v (.pointer none)=>some true
 | .ptr .. | .pe .. =>some false
 |_=>none
def gT:BinOp→Bool
 | .shl| .shr=>true
 |_=>false
def JD (U:TypeId→TI) (op:BinOp) (ty:TypeId) (a b:Bool) (K:AV→Prop):Prop:=
 match (U ty).k,op with
 | .bool, .eql=>K (.v (.bool (a==b)))
 | .bool, .neq=>K (.v (.bool (!(a==b))))
 |_,_=>False
def LV (U:TypeId→TI) (op:BinOp) (ty:TypeId) (x:AV) (K:AV→Prop):Prop:=
 match (U ty).k,op,MA x with
 | .ptr _, .eql,some n=>K (.v (.bool n))
 | .ptr _, .neq,some n=>K (.v (.bool (!n)))
 |_,_,_=>False
def eqC:AV→AV→Bool
 | .s a, .s b=>a==b
 | .v (.int _ a), .v (.int _ b)=>a==b
 | .v (.bool a), .v (.bool b)=>a==b
 | .v (.complex k a b), .v (.complex _ c d)=>Op.floatEq k a c && Op.floatEq k b d
 |_,_=>false
def eqL:List AV→List AV→Bool
 | [],[]=>true
 |x::xs,y::ys=>eqC x y && eqL xs ys
 |_,_=>false
def oe:TK→AV→Prop
 | .int k, .v (.int k' _)=>k' =k
 | .bool, .v (.bool _)=>True
 | .str, .s _=>True
 | .cplx k, .v (.complex k' _ _)=>k' =k
 |_,_=>False
def cu:List TK→List AV→Prop
 | [],xs=>xs= []
 |_::_,[]=>False
 |t::ts,x::xs=>oe t x∧cu ts xs
def GO (U:TypeId→TI) (op:BinOp) (ty:TypeId) (xs ys:List AV) (K:AV→Prop):Prop:=
 match (U ty).eq,op with
 |some (_,l), .eql=>(U ty).k.agg=true∧cu l xs∧cu l ys∧K (.v (.bool (eqL xs ys)))
 |some (_,l), .neq=>(U ty).k.agg=true∧cu l xs∧cu l ys∧K (.v (.bool (!(eqL xs ys))))
 |_,_=>False
def fH (op:BinOp) (x y:Value) (K:AV→Prop):Prop:=∃r,(∀(P:Program) (ty:TypeId) (w:World),(binOp op ty x y).run P w= .ok r w)∧K (.v r)
def fu (U:TypeId→TI) (op:BinOp) (ty:TypeId) (x y:AV) (K:AV→Prop):Prop:=
 match y with
 | .v (.int k' b)=>match x with
  | .v (.int k a)=>if gT op then GP op k a b K else k=k'∧sx op k a b K
  |_=>False
 | .s b=>match x with
  | .s a=>LW op a b K
  |_=>False
 | .v (.bool b)=>match x with
  | .v (.bool a)=>JD U op ty a b K
  |_=>False
 | .v (.pointer none)=>LV U op ty x K
 | .agg ys=>match x with
  | .agg xs=>GO U op ty xs ys K
  |_=>False
 | .v (.float k' b)=>match x with
  | .v (.float k a)=>fH op (.float k a) (.float k' b) K
  |_=>False
 | .v (.complex k' c d)=>match x with
  | .v (.complex k a b)=>fH op (.complex k a b) (.complex k' c d) K
  |_=>False
 |_=>False
def wO:List AV→(AV→Prop)→Prop
 | [.v (.complex k a _)],K=>K (.v (.float k a))
 |_,_=>False
def vO:List AV→(AV→Prop)→Prop
 | [.v (.complex k _ b)],K=>K (.v (.float k b))
 |_,_=>False
def vp:List AV→(AV→Prop)→Prop
 | [.v (.float k a), .v (.float k' b)],K=>k=k'∧K (.v (.complex k a b))
 |_,_=>False
def Bp:List AV→(AV→Prop)→Prop
 | [.v (.int k a), .v (.int k' b)],K=>k=k'∧K (.v (.int k (if b<a then b else a)))
 |_,_=>False
def xz:List AV→(AV→Prop)→Prop
 | [.v (.int k a), .v (.int k' b)],K=>k=k'∧K (.v (.int k (if a<b then b else a)))
 | [.v (.float k a), .v (.float k' b)],K=>∃r,(∀(P:Program) (ts:Array TypeId) (ty:TypeId) (w:World),(Builtin.max_ ts ty #[.float k a, .float k' b]).run P w= .ok r w)∧K (.v r)
 |_,_=>False
def evs (ρ:Env):List Operand→Option (List AV)
 | []=>some []
 |x::r=>match ev ρ x,evs ρ r with
  |some y,some ys=>some (y::ys)
  |_,_=>none
def withvs (ρ:Env) (xs:List Operand) (k:List AV→Prop):Prop:=
 match evs ρ xs with
 |some ys=>k ys
 |none=>False
def dR (ρ:Env) (x:Option Operand) (dflt:Nat) (k:Int→Prop):Prop:=
 match x with
 |none=>k dflt
 |some o=>withv ρ o fun| .v (.int _ n)=>k n|_=>False
def nR {α:Type} (xs:List α) (a b:Int):Bool→Bool→List α
 |false,false=>xs
 |true,false=>xs.drop a.toNat
 |false,true=>xs.take b.toNat
 |true,true=>(xs.drop a.toNat).take (b.toNat - a.toNat)
def LZ (p:Perm):Bool→Bool→Perm
 |false,false=>p
 |true,false=>match p with
  | .full=> .full
  |_=> .no
 |_,_=> .no
def AB (xs:List AV) (p:Perm) (a b:Bool):Perm:=match xs,p with
 | [], .full=> .full
 |_,p=>LZ p a b
def pO (U:TypeId→TI) (ρ:Env) (ty:TypeId) (y:AV) (lo hi mx:Option Operand) (k:AV→Prop):Prop:=
 match y with
 | .s l=>(U ty).k= .str∧mx=none∧dR ρ lo 0 fun a=>dR ρ hi l.length fun b=>0≤a∧a≤b∧b≤l.length∧k (.s (nR l a b lo.isSome hi.isSome))
 | .sl xs p=>match (U ty).k with
  | .slice e=>(U e).sz≠0∧(lo.isSome=true→∀z∈xs,z.cells.length=(U e).sz)∧match mx with
   |none=>dR ρ lo 0 fun a=>dR ρ hi xs.length fun b=>0≤a∧a≤b∧b≤xs.length∧k (.sl (nR xs a b lo.isSome hi.isSome) (AB xs p lo.isSome hi.isSome))
   |some m=>hi.isSome=true∧dR ρ lo 0 fun a=>dR ρ hi xs.length fun b=>dR ρ (some m) 0 fun c=>0≤a∧a≤b∧b=c∧c≤xs.length∧k (.sl (nR xs a b lo.isSome true) .full)
  |_=>False
 | .oa id off len=>match (U ty).k with
  | .slice e=>(U e).sz≠0∧(lo.isSome=true→(U e).sz=1)∧mx=none∧dR ρ lo 0 fun a=>dR ρ hi len fun b=>0≤a∧a≤b∧b≤len∧k (.oa id (off+a.toNat*(U e).sz) (b.toNat - a.toNat))
  |_=>False
 | .ob id off len cap sz=>match (U ty).k with
  | .slice e=>(U e).sz≠0∧sz=(U e).sz∧match mx with
   |none=>dR ρ lo 0 fun a=>dR ρ hi len fun b=>0≤a∧a≤b∧b≤cap∧k (.ob id (off+a.toNat*sz) (b.toNat - a.toNat) (cap - a.toNat) sz)
   |some m=>hi.isSome=true∧dR ρ lo 0 fun a=>dR ρ hi len fun b=>dR ρ (some m) 0 fun c=>0≤a∧a≤b∧b≤c∧c≤cap∧k (.ob id (off+a.toNat*sz) (b.toNat - a.toNat) (c.toNat - a.toNat) sz)
  |_=>False
 |_=>False
def pvB (U:TypeId→TI) (ρ:Env) (h:Heap) (b:Builtin) (args:List Operand) (ts:List TypeId) (k:AV→Prop):Prop:=
 match b with
 | .len=>match args,ts with
  | [x],[t]=>withv ρ x fun y=>match (U t).k,y with
   | .str, .s l=>k (.v (.int .i64 l.length))
   | .slice _, .sl xs _=>k (.v (.int .i64 xs.length))
   | .slice _, .oa _ _ len=>k (.v (.int .i64 len))
   | .slice _, .ob _ _ len _ _=>k (.v (.int .i64 len))
   | .map _ _, .mp id=>match h id with
    |some (.mp m)=>k (.v (.int .i64 m.length))
    |_=>False
   |_,_=>False
  |_,_=>False
 | .cap=>match args,ts with
  | [x],[t]=>withv ρ x fun y=>match (U t).k,y with
   | .slice _, .sl xs .full=>k (.v (.int .i64 xs.length))
   | .slice _, .ob _ _ _ cap _=>k (.v (.int .i64 cap))
   |_,_=>False
  |_,_=>False
 | .min=>withvs ρ args fun ys=>Bp ys k
 | .max=>withvs ρ args fun ys=>xz ys k
 | .real=>withvs ρ args fun ys=>wO ys k
 | .imag=>withvs ρ args fun ys=>vO ys k
 | .complex=>withvs ρ args fun ys=>vp ys k
 |_=>False
def fit (y:AV) (n:Nat):Prop:=
 match y with
 | .agg cs=>cs.length=n
 | .v x=>x.oneCell' =true∧n=1
 | .tup _=>False
 |_=>n=1
def fits (n:Nat):List AV→Prop
 | []=>True
 |y::r=>fit y n∧fits n r
def withps (U:TypeId→TI) (ρ:Env) (fs:List (Nat×TypeId)):List (Nat×Operand)→List AV→(List AV→Prop)→Prop
 | [],cs,k=>k cs
 |(i,x)::r,cs,k=>match fs[i]? with
  |some (off,t)=>(U t).sz≠0∧withv ρ x fun y=>fit y (U t).sz∧off+(U t).sz≤cs.length∧withps U ρ fs r (over cs off y.cells) k
  |none=>False
def fZ:TK→AV→Prop
 | .str, .s l=>l.length≤maxLen
 | .int q, .v (.int q' n)=>q' =q∧(Lit.int q n).wf=true
 |_,_=>False
def pW:AV→AV→Bool
 | .s a, .s b=>a==b
 | .v (.int _ a), .v (.int _ b)=>a==b
 |_,_=>false
def getM (m:List (AV×AV)) (b:AV):Option AV:=(m.find? fun p=>pW p.1 b).map (·.2)
def zh (U:TypeId→TI) (e:TypeId):AV:=if (U e).sz=0 then .agg [] else (U e).zero
def v8 (U:TypeId→TI) (e:TypeId) (m:List (AV×AV)) (b:AV) (ok:Bool):AV:=
 if ok then .tup [(getM m b).getD (zh U e), .v (.bool (getM m b).isSome)] else (getM m b).getD (zh U e)
def pv (U:TypeId→TI) (ρ:Env) (h:Heap) (op:Op) (k:AV→Prop):Prop:=
 match op with
 | .move x| .assign x=>withv ρ x k
 | .pick c a b=>withv ρ c fun
  | .v (.bool true)=>withv ρ a k
  | .v (.bool false)=>withv ρ b k
  |_=>False
 | .nilCheck x=>withv ρ x fun y=>match y with
  | .ptr .. | .pe .. | .fn .. =>k y
  |_=>False
 | .binOp op ty x y _=>withv ρ x fun a=>withv ρ y fun b=>fu U op ty a b k
 | .unOp op _ x=>withv ρ x fun y=>match op,y with
  | .not, .v (.bool b)=>k (.v (.bool (!b)))
  | .neg, .v (.int kk n)=>k (.v (.int kk (kk.wrap (0 - n))))
  | .xor, .v (.int kk n)=>k (.v (.int kk (kk.wrap (BitVec.ofInt kk.bits (if kk.signed then -1 else kk.max) ^^^ BitVec.ofInt kk.bits n).toNat)))
  |_,_=>False
 | .convert src dst x=>withv ρ x fun y=>match (U src).k,(U dst).k,y with
  | .int _, .int kk, .v (.int _ n)=>k (.v (.int kk (kk.wrap n)))
  | .str, .str, .s l=>k (.s l)
  | .slice e, .str, .sl xs _=>match (U e).k with
   | .int .u8=>∃l:List UInt8,xs=l.map ct∧k (.s l)
   |_=>False
  | .str, .slice e, .s l=>match (U e).k with
   | .int .u8=>k (.sl (l.map ct) .no)
   |_=>False
  | .cplx _, .cplx kk, .v (.complex kf a b)=>kf=kk∧k (.v (.complex kk a b))
  |_,_,_=>False
 | .field ty x f=>withv ρ x fun y=>match (U ty).k,y with
  | .strct fs, .agg cs=>match fs[f]? with
   |some (off,t)=>(U t).sz≠0∧(U t).k≠ .other∧gL cs off (U t) k
   |none=>False
  |_,_=>False
 | .extract x i=>withv ρ x fun y=>match y with
  | .tup vs=>∃z,vs[i]? =some z∧k z
  |_=>False
 | .index ty x i=>withv ρ x fun y=>withv ρ i fun z=>match (U ty).k,y,z with
  | .str, .s l, .v (.int _ n)=>Idx l n fun b=>k (ct b)
  |_,_,_=>False
 | .fieldAddr ty x f=>withv ρ x fun y=>match (U ty).k with
  | .strct fs=>match fs[f]? with
   |some (off,t)=>(U t).sz≠0∧match y with
    | .ptr id o=>k (.ptr id (o+off))
    | .pe z o=>k (.pe z (o+off))
    |_=>False
   |none=>False
  |_=>False
 | .indexAddr ty x i=>withv ρ x fun y=>withv ρ i fun z=>match (U ty).k,y,z with
  | .slice e, .sl xs _, .v (.int _ n)=>(U e).sz≠0∧Idx xs n fun b=>b.cells.length=(U e).sz∧k (.pe b 0)
  | .slice e, .oa id off len, .v (.int _ n)=>(U e).sz≠0∧0≤n∧n<len∧k (.ptr id (off+n.toNat*(U e).sz))
  | .arr len e, .ptr id off, .v (.int _ n)=>(U e).sz≠0∧0≤n∧n<len∧k (.ptr id (off+n.toNat*(U e).sz))
  | .slice e, .ob id off len _ sz, .v (.int _ n)=>(U e).sz≠0∧sz=(U e).sz∧0≤n∧n<len∧k (.ptr id (off+n.toNat*sz))
  |_,_,_=>False
 | .load ty x=>(U ty).sz≠0∧(U ty).k≠ .other∧withv ρ x fun y=>match y with
  | .ptr id off=>match h id with
   |some (.obj cs _)=>gL cs off (U ty) k
   |_=>False
  | .pe z off=>atA z off (U ty) k
  |_=>False
 | .slice ty x lo hi mx=>withv ρ x fun y=>pO U ρ ty y lo hi mx k
 | .lookup mt x y ok=>withv ρ x fun a=>withv ρ y fun b=>match (U mt).k,a with
  | .map kt e, .mp id=>fZ (U kt).k b∧((U e).sz≠0∨(U e).k= .strct [])∧match h id with
   |some (.mp m)=>(∀p∈m,fZ (U kt).k p.1)∧k (v8 U e m b ok)
   |_=>False
  |_,_=>False
 | .buildSlice ty len parts=>match (U ty).k with
  | .slice e=>(U e).sz≠0∧len*(U e).sz≤2 ^ 24∧parts.toList.map (·.1)=List.range len∧
    withvs ρ (parts.toList.map (·.2)) fun xs=>fits (U e).sz xs∧k (.sl xs .full)
  |_=>False
 | .build ty parts=>if isUnit (U ty).k then parts.toList= []∧k (.agg []) else match (U ty).k with
  | .strct fs=>(U ty).sz≠0∧∃cs0,(U ty).zero= .agg cs0∧withps U ρ fs parts.toList cs0 fun cs=>k (.agg cs)
  |_=>False
 | .makeInterface ty x=>(match (U ty).k with| .iface| .other=>False|_=>True)∧withv ρ x fun y=>k (.ifc ty y)
 | .makeFunc fn first cap=>match fn,first.toList with
  | .func f,[]=>withvs ρ cap.toList fun ys=>k (.fn f ys)
  |_,_=>False
 | .call c=>match c.callee with
  | .builtin b=>pvB U ρ h b c.args.toList c.argTypes.toList k
  |_=>False
 |_=>False
def Sub (h h' :Heap):Prop:=∀id k,h id=some k→h' id=some k
def cV (P:Program) (o:Oper) (ρ:Env) (h:Heap) (X:AV):Prop:=
 ∀c a n,Sub h c.h→Good c→cj c n ρ a→∃u c',(execOp a.eval o).run P c.w= .ok (.value u) c'.w∧Good c'∧Ext c c'∧c'.h=c.h∧Rep c' X u
section
variable {P : Program} {U : TypeId → TI}
theorem kS {t:TypeId} (hU:∀t,aN P U t) (ht:(U t).k≠ .other) (w:World):(isAgg t).run P w= .ok (U t).k.agg w:=by
 have hd:=(hU t).desc;cases hty:(U t).k<;>rw [hty] at ht hd<;>simp only at hd<;>
  first
   |(exact (ht rfl).elim)
   |(simp [isAgg,run_underlying hd,TK.agg]; done)
   |(obtain ⟨fs,hd,_⟩:=hd; simp [isAgg,run_underlying hd,TK.agg]; done)
   |(obtain ⟨fs,hd⟩:=hd; simp [isAgg,run_underlying hd,TK.agg]; done)
theorem bC {t:TypeId} (hU:∀t,aN P U t) (hz:(U t).sz≠0) (w:World):(sizeOf t).run P w= .ok (U t).sz w:=by
 obtain ⟨i,h1,h2,_⟩:=(hU t).info hz;simp [sizeOf,typeInfo,h1,h2]
def cv:AV→Value
 | .s l=> .string ⟨l.toArray⟩
 | .v x=>x
 |_=>undef
theorem L0 {c:Cx} {t:TK} {x:AV} {u:Value} (h:oe t x) (hr:Rep c x u):u=cv x:=by
 cases hr<;>first|rfl|(cases t<;>exact h.elim)
theorem iO:∀ {l:List TK} {xs:List AV},cu l xs→xs.length=l.length
 | [],xs,h=>by have:xs= []:=h; rw [this]; rfl
 |t::ts,[],h=>h.elim
 |t::ts,x::xs,h=>by simp [iO h.2]
theorem xe:∀ {l:List TK} {xs:List AV},cu l xs→∀i (h:i<xs.length),∃t,oe t xs[i]
 | [],xs,h,i,hi=>by have:xs= []:=h; subst this; cases hi
 |t::ts,[],h,i,hi=>h.elim
 |t::ts,x::xs,h,0,hi=>⟨t,h.1⟩
 |t::ts,x::xs,h,i+1,hi=>by simpa using xe h.2 i (by simpa using hi)
theorem kj:∀(n:Nat) {l:List TK} {xs:List AV},cu l xs→cu (l.take n) (xs.take n)
 |0,l,xs,h=>by simp [cu]
 |n+1,[],xs,h=>by have:xs= []:=h; subst this; simp [cu]
 |n+1,t::ts,[],h=>h.elim
 |n+1,t::ts,x::xs,h=>⟨h.1,kj n h.2⟩
theorem kg:∀(n:Nat) {l:List TK} {xs:List AV},cu l xs→cu (l.drop n) (xs.drop n)
 |0,l,xs,h=>by simpa using h
 |n+1,[],xs,h=>by have:xs= []:=h; subst this; simp [cu]
 |n+1,t::ts,[],h=>h.elim
 |n+1,t::ts,x::xs,h=>by simpa using kg n h.2
theorem vB:∀ {a c:List AV} (b d:List AV),a.length=c.length→eqL (a++b) (c++d)=(eqL a c && eqL b d)
 | [],[],b,d,h=>by simp [eqL]
 | [],_::_,b,d,h=>by cases h
 |_::_,[],b,d,h=>by cases h
 |x::a,y::c,b,d,h=>by simp [eqL,vB b d (show a.length=c.length by simpa using h),Bool.and_assoc]
theorem ye (n:Nat) {xs ys:List AV} (h:xs.length=ys.length):eqL xs ys=(eqL (xs.take n) (ys.take n) && eqL (xs.drop n) (ys.drop n)):=by
 rw [←vB _ _ (by simp [h]),List.take_append_drop,List.take_append_drop]
def mK (U:TypeId→TI) (t:TypeId) (xs:List AV):Value:=if (U t).k.agg then .agg (xs.map cv).toArray else cv (xs.headD default)
theorem AO {t:TypeId} {r:Nat} {l:List TK} (h:Jm P U t r l):(U t).k≠ .other:=by
 intro e;have:=h.2.2.2;rw [e] at this;exact this.elim
theorem Mf {t:TypeId} {r:Nat} {l:List TK} (h:Jm P U t r l) (hg:(U t).k.agg=false):∃q,l= [q]:=by
 have:=h.2.2.2;cases hk:(U t).k<;>rw [hk] at this hg<;>simp only [TK.agg] at hg<;>first|exact ⟨_,this⟩|exact this.elim|(cases hg)
theorem rN (hU:∀t,aN P U t) {t:TypeId} {r:Nat} {l:List TK} (he:(U t).eq=some (r,l)) (cs:List AV) (off:Nat) (hx:cu l ((cs.drop off).take l.length)) (w:World):
  (part t (cs.map cv).toArray off).run P w= .ok (mK U t ((cs.drop off).take l.length)) w:=by
 have hq:=(hU t).eq r l he;have h1:(U t).sz≠0:=by rw [←hq.1]; intro h; exact hq.2.1 (List.length_eq_zero_iff.1 h)
 cases hg:(U t).k.agg
 ·obtain ⟨q,rfl⟩:=Mf hq hg
  have h2:=iO hx;have h3:off<cs.length:=by
   simp only [List.length_take,List.length_drop,List.length_singleton] at h2;omega
  have h4:(cs.drop off).take [q].length= [cs[off]]:=by
   rw [List.drop_eq_getElem_cons h3];rfl
  rw [h4];simp [part,kS hU (AO hq),hg,mK,h3]
 ·have h2:=iO hx
  simp [part,kS hU (AO hq),hg,bC hU h1,mK,hq.1]
theorem qY (hU:∀t,aN P U t) {d r:Nat} (xs ys:List AV) (hl:xs.length=ys.length) (w:World)
  (ih:∀(t:TypeId) (r' :Nat) (l:List TK),(U t).eq=some (r',l)→r' <r→∀xs ys,cu l xs→cu l ys→(Op.equalIn d t (mK U t xs) (mK U t ys)).run P w= .ok (eqL xs ys) w):
  ∀ (gs : List Field) (fs : List (Nat × TypeId)) (o : Nat) (l : List TK), gs.map (fun f => (f.offset, f.type)) = fs → (∀ f ∈ gs, f.name ≠ "_") → B8 U r fs o l → cu l (xs.drop o) → cu l (ys.drop o) →
   (Op.eqFields d (xs.map cv).toArray (ys.map cv).toArray gs).run P w= .ok (eqL (xs.drop o) (ys.drop o)) w
 | [],fs,o,l,hg,hn,ht,hx,hy=>by
  subst hg;have:l= []:=ht;subst this;have h1:xs.drop o= []:=hx;have h2:ys.drop o= []:=hy;rw [h1,h2];simp [Op.eqFields,eqL]
 |g::gs,fs,o,l,hg,hn,ht,hx,hy=>by
  subst hg;obtain ⟨h1,r',l',h2,h3,h4,h5⟩:=ht;simp only at h1 h2;have hn1:=hn g (by simp)
  have e1:cu l' ((xs.drop o).take l'.length):=by
   have:=kj l'.length hx
   rwa [h4] at this
  have e2:cu l' ((ys.drop o).take l'.length):=by
   have:=kj l'.length hy
   rwa [h4] at this
  have e3:=kg l'.length hx;have e4:=kg l'.length hy;rw [List.drop_drop] at e3 e4;have p1:=rN hU h2 xs o e1 w;have p2:=rN hU h2 ys o e2 w;have p3:=ih _ _ _ h2 h3 _ _ e1 e2;have p4:=qY hU xs ys hl w ih gs _ _ _ rfl (fun f hf=>hn f (by simp [hf])) h5 e3 e4
  simp only [Op.eqFields,hn1,ne_eq,not_false_eq_true,if_true,Sem.run_bind,h1,p1,p2,p3,Result.andThen_ok];rw [ye l'.length (xs:=xs.drop o) (ys:=ys.drop o) (by simp [hl])]
  cases eqL ((xs.drop o).take l'.length) ((ys.drop o).take l'.length)
  ·simp
  ·simp only [Bool.not_true,Bool.false_eq_true,if_false,Bool.true_and]
   rw [p4,List.drop_drop,List.drop_drop]
theorem yT (n i:Nat) (l' :List TK) (h:i<n):((List.replicate n l').flatten.drop (i*l'.length)).take l'.length=l' :=by
 induction i generalizing n with
 |zero=>
  cases n with
  |zero=>cases h
  |succ n=>simp [List.replicate_succ]
 |succ i ih=>
  cases n with
  |zero=>cases h
  |succ n=>
   rw [List.replicate_succ,List.flatten_cons,Nat.succ_mul,Nat.add_comm,←List.drop_drop];simpa using ih n (by omega)
theorem tL (hU:∀t,aN P U t) {d:Nat} {e:TypeId} {n r' :Nat} {l' :List TK} (he:(U e).eq=some (r',l')) (xs ys:List AV) (hl:xs.length=ys.length) (w:World)
  (hx:cu (List.replicate n l').flatten xs) (hy:cu (List.replicate n l').flatten ys)
  (ih:∀xs ys,cu l' xs→cu l' ys→(Op.equalIn d e (mK U e xs) (mK U e ys)).run P w= .ok (eqL xs ys) w):
  ∀(m i:Nat),i+m=n→(Op.eqItems d e l'.length (xs.map cv).toArray (ys.map cv).toArray (List.range' i m)).run P w= .ok (eqL (xs.drop (i*l'.length)) (ys.drop (i*l'.length))) w
 |0,i,hm=>by
  have h1:=iO hx;have h2:=iO hy;simp only [List.length_flatten,List.map_replicate,List.sum_replicate_nat] at h1 h2;have e1:xs.drop (i*l'.length)= []:=List.drop_eq_nil_of_le (by rw [h1]; simp at hm; rw [hm]; omega)
  have e2:ys.drop (i*l'.length)= []:=List.drop_eq_nil_of_le (by rw [h2]; simp at hm; rw [hm]; omega)
  rw [e1,e2];simp [Op.eqItems,eqL]
 |m+1,i,hm=>by
  have e1:cu l' ((xs.drop (i*l'.length)).take l'.length):=by
   have:=kj l'.length (kg (i*l'.length) hx)
   rwa [yT n i l' (by omega)] at this
  have e2:cu l' ((ys.drop (i*l'.length)).take l'.length):=by
   have:=kj l'.length (kg (i*l'.length) hy)
   rwa [yT n i l' (by omega)] at this
  have p1:=rN hU he xs _ e1 w;have p2:=rN hU he ys _ e2 w;have p3:=ih _ _ e1 e2;have p4:=tL hU he xs ys hl w hx hy ih m (i+1) (by omega)
  rw [List.range'_succ];simp only [Op.eqItems,Sem.run_bind,p1,p2,p3,Result.andThen_ok];rw [ye l'.length (xs:=xs.drop (i*l'.length)) (ys:=ys.drop (i*l'.length)) (by simp [hl])]
  cases eqL ((xs.drop (i*l'.length)).take l'.length) ((ys.drop (i*l'.length)).take l'.length)
  ·simp
  ·simp only [Bool.not_true,Bool.false_eq_true,if_false,Bool.true_and]
   rw [p4,List.drop_drop,List.drop_drop,Nat.succ_mul]
theorem uT (hU:∀t,aN P U t) (w:World):∀(d:Nat) (t:TypeId) (r:Nat) (l:List TK),(U t).eq=some (r,l)→r<d→∀xs ys,cu l xs→cu l ys→
  (Op.equalIn d t (mK U t xs) (mK U t ys)).run P w= .ok (eqL xs ys) w
 |0,t,r,l,he,hr,xs,ys,hx,hy=>by cases hr
 |d+1,t,r,l,he,hr,xs,ys,hx,hy=>by
  have hq:=(hU t).eq r l he;have hd:=(hU t).desc;have hl:xs.length=ys.length:=(iO hx).trans (iO hy).symm;obtain ⟨h1,h2,h3,h4⟩:=hq;cases hk:(U t).k<;>rw [hk] at h4 hd<;>simp only at h4 hd<;>first|exact h4.elim|skip
  case int q=>
   subst h4
   match xs,ys,hx,hy with
   | [.v (.int a x)],[.v (.int b y)],hx,hy=>
    have ha:a=q:=hx.1;have hb:b=q:=hy.1;subst ha; subst hb
    simp [mK,hk,TK.agg,cv,run_equalIn_int w d t _ _ x y hd,eqL,eqC]
  case bool=>
   subst h4
   match xs,ys,hx,hy with
   | [.v (.bool x)],[.v (.bool y)],hx,hy=>
    simp [mK,hk,TK.agg,cv,run_equalIn_bool' w d t x y hd,eqL,eqC]
  case str=>
   subst h4
   match xs,ys,hx,hy with
   | [.s x],[.s y],hx,hy=>
    simp [mK,hk,TK.agg,cv,run_equalIn_string w d t _ _ hd,eqL,eqC,ByteArray.toList_eq]
  case cplx q=>
   subst h4
   match xs,ys,hx,hy with
   | [.v (.complex a i j)],[.v (.complex b m n)],hx,hy=>
    have ha:a=q:=hx.1;have hb:b=q:=hy.1;subst ha; subst hb
    simp [mK,hk,TK.agg,cv,Op.equalIn,run_underlying hd,eqL,eqC]
  case strct fs=>
   obtain ⟨fields,hd,hfs,hsz⟩:=hd;obtain ⟨g1,g2,g3,g4⟩:=h4;have hf:P.fieldsOf t=fields:=by simp [Program.fieldsOf,hd]
   have:(Op.equalIn (d+1) t (.agg (xs.map cv).toArray) (.agg (ys.map cv).toArray)).run P w= .ok (eqL xs ys) w:=by
    rw [run_equalIn_struct w d t _ _ (by rw [hf]; exact hd) g1]
    have:=qY (d:=d) (r:=r) hU xs ys hl w (fun t' r' l' he' hr' =>uT hU w d t' r' l' he' (by omega)) (P.fieldsOf t).toList fs 0 l (by rw [hf]; exact hfs) (fun f hf=>g3 f (by simpa using hf)) g4 hx hy
    simpa using this
   simpa [mK,hk,TK.agg] using this
  case arr n e=>
   obtain ⟨g2,r',l',g3,g4,rfl⟩:=h4;have hq' :=(hU e).eq r' l' g3;have hz:(U e).sz≠0:=by rw [←hq'.1]; intro h; exact hq'.2.1 (List.length_eq_zero_iff.1 h)
   obtain ⟨i,i1,i2,_⟩:=(hU e).info hz;have:(Op.equalIn (d+1) t (.agg (xs.map cv).toArray) (.agg (ys.map cv).toArray)).run P w= .ok (eqL xs ys) w:=by
    rw [run_equalIn_array w d _ _ hd i1];have hc:P.cellsOf e=l'.length:=by simp [Program.cellsOf,i1,i2,hq'.1]
    have:=tL (d:=d) (n:=n) hU g3 xs ys hl w hx hy (fun xs ys hx hy=>uT hU w d e r' l' g3 (by omega) xs ys hx hy) n 0 (by omega)
    rw [hc,List.range_eq_range'];simpa using this
   simpa [mK,hk,TK.agg] using this
theorem zl {c:Cx} {l:List TK} {xs:List AV} {u:Value} (hx:cu l xs) (h:Rep c (.agg xs) u):u= .agg (xs.map cv).toArray:=by
 cases h with
 |agg _ vs hn hr ho=>
  congr 1
  apply Array.ext
  ·simp [hn]
  ·intro i h1 h2
   have hi:i<xs.length:=by omega
   obtain ⟨t,ht⟩:=xe hx i hi;have:=L0 ht (hr i hi);simpa [h1] using this
theorem II {op:BinOp} {ty:TypeId} {xs ys:List AV} {K:AV→Prop} (x y:Operand) (hU:∀t,aN P U t) (hk:GO U op ty xs ys K):
  ∃X,K X∧∀c u v,Rep c (.agg xs) u→Rep c (.agg ys) v→(eqGuard op ty x y u v).run P c.w= .ok () c.w∧∃r,(binOp op ty u v).run P c.w= .ok r c.w∧Rep c X r:=by
 have guard:∀r l,(U ty).eq=some (r,l)→(U ty).k.agg=true→P.eqGuardType P.depth ty=false:=fun r l he ha=>by
  have h4:=((hU ty).eq r l he).2.2.2;cases hk:(U ty).k<;>rw [hk] at ha h4<;>simp only [TK.agg] at ha<;>first|exact h4.2.1|exact h4.1|(cases ha)
 unfold GO at hk;split at hk
 ·rename_i r l he
  obtain ⟨h1,h2,h3,h4⟩:=hk;refine ⟨_,h4,fun c u v hu hv=> ?_⟩
  obtain rfl:=zl h2 hu;obtain rfl:=zl h3 hv;have:=uT hU c.w 10000 ty r l he (by have:=((hU ty).eq r l he).2.2.1; omega) xs ys h2 h3
  rw [mK,mK,h1,if_pos rfl,if_pos rfl] at this;exact ⟨run_eqGuard_agg c.w _ _ _ _ _ _ (guard _ _ he h1),_,by rw [run_eql_struct,this]; rfl, .v _⟩
 ·rename_i r l he
  obtain ⟨h1,h2,h3,h4⟩:=hk;refine ⟨_,h4,fun c u v hu hv=> ?_⟩
  obtain rfl:=zl h2 hu;obtain rfl:=zl h3 hv;have:=uT hU c.w 10000 ty r l he (by have:=((hU ty).eq r l he).2.2.1; omega) xs ys h2 h3
  rw [mK,mK,h1,if_pos rfl,if_pos rfl] at this;exact ⟨run_eqGuard_agg c.w _ _ _ _ _ _ (guard _ _ he h1),_,by rw [run_neq_struct,this]; rfl, .v _⟩
 ·exact hk.elim
end
theorem aI {ρ:Env} {x:Operand} {k:AV→Prop} (h:withv ρ x k):∃y,ev ρ x=some y∧k y:=by
 unfold withv at h;split at h
 ·rename_i y hy; exact ⟨y,hy,h⟩
 ·exact h.elim
theorem eS {ρ:Env} {xs:List Operand} {k:List AV→Prop} (h:withvs ρ xs k):∃ys,evs ρ xs=some ys∧k ys:=by
 unfold withvs at h;split at h
 ·rename_i y hy; exact ⟨y,hy,h⟩
 ·exact h.elim
theorem Rep.bS {c:Cx} {x u:Value} (h:Rep c (.v x) u):u=x:=by cases h; rfl
theorem Rep.l6 {c:Cx} {l:List UInt8} {u:Value} (h:Rep c (.s l) u):u= .string ⟨l.toArray⟩∧l.length<lim:=by cases h; exact ⟨rfl,‹_›⟩
theorem Rep.mO {c:Cx} {xs:List AV} {u:Value} (h:Rep c (.agg xs) u):∃vs:Array Value,u= .agg vs∧vs.size=xs.length∧
  (∀i (h:i<xs.length),Rep c xs[i] (vs.getD i undef))∧∀i,i<xs.length→(vs.getD i undef).oneCell' =true:=by
 cases h; exact ⟨_,rfl,‹_›,‹_›,‹_›⟩
theorem Rep.z7 {c:Cx} {xs:List AV} {u:Value} (h:Rep c (.tup xs) u):∃vs:Array Value,u= .tuple vs∧vs.size=xs.length∧
  (∀i (h:i<xs.length),Rep c xs[i] (vs.getD i undef)):=by
 cases h; exact ⟨_,rfl,‹_›,‹_›⟩
theorem Rep.jR {c:Cx} {id off:Nat} {u:Value} (h:Rep c (.ptr id off) u):u= .pointer (some ⟨(c.φ id).block,off,none⟩)∧∃cs t,c.h id=some (.obj cs t):=by
 cases h; exact ⟨rfl,_,_,‹_›⟩
theorem Rep.sU {c:Cx} {x:AV} {off:Nat} {u:Value} (h:Rep c (.pe x off) u):∃(b o:Nat) (val:Nat→Value),u= .pointer (some ⟨b,o+off,none⟩)∧b<c.w.heap.size∧
  (∀j,j<x.cells.length→fix c b (o+j) (val j))∧(∀j (h:j<x.cells.length),Rep c x.cells[j] (val j))∧(∀j,j<x.cells.length→(val j).oneCell' =true):=by
 cases h; exact ⟨_,_,_,rfl,‹_›,‹_›,‹_›,‹_›⟩
theorem Rep.mZ {c:Cx} {id off len:Nat} {u:Value} (h:Rep c (.oa id off len) u):∃cap o,u= .slice (some ⟨(c.φ id).block,o,none⟩) len cap∧len≤cap∧cap<lim∧(len≠0→o=off)∧∃cs t,c.h id=some (.obj cs t)∧(cap≠0→o=off∧off+cap≤cs.length):=by
 cases h with
 |oa _ _ _ cap o cs t h hc hm ho=>exact ⟨_,_,rfl,hc,hm,fun hn=>(ho (by omega)).1,_,_,h,ho⟩
theorem Rep.iK {c:Cx} {id off len cap sz:Nat} {u:Value} (h:Rep c (.ob id off len cap sz) u):∃o,u= .slice (some ⟨(c.φ id).block,o,none⟩) len cap∧len≤cap∧cap<lim∧∃cs t,c.h id=some (.obj cs t)∧(cap≠0→o=off∧off+cap*sz≤cs.length):=by
 cases h with
 |ob _ _ _ _ _ o cs t h hc hm ho=>exact ⟨_,rfl,hc,hm,_,_,h,ho⟩
theorem Rep.C5 {c:Cx} {id:Nat} {u:Value} (h:Rep c (.mp id) u):u= .map (some (c.φ id).block)∧∃m,c.h id=some (.mp m):=by
 cases h; exact ⟨rfl,_,‹_›⟩
theorem Rep.CM {c:Cx} {f:FuncId} {xs:List AV} {u:Value} (h:Rep c (.fn f xs) u):∃vs:Array Value,u= .func (.func f) #[] vs∧vs.size=xs.length∧
  (∀i (h:i<xs.length),Rep c xs[i] (vs.getD i undef)):=by
 cases h; exact ⟨_,rfl,‹_›,‹_›⟩
structure Ag (c:Cx) (xs:List AV) (p:Perm) (a:Option Addr) (cap sz:Nat) (val:Nat→Nat→Value):Prop where
 hc:xs.length≤cap
 hm:cap<lim
 h0:a=none→cap=0
 hs:∀q,a=some q→0<cap→q.spot=none∧q.block<c.w.heap.size
 hz:∀i (h:i<xs.length),xs[i].cells.length=sz
 hf:∀q,a=some q→∀i j,i<xs.length→j<sz→fix c q.block (q.off+(i*sz+j)) (val i j)
 hr:∀i (h:i<xs.length) j (h' :j<xs[i].cells.length),Rep c xs[i].cells[j] (val i j)
 ho:∀i j,i<xs.length→j<sz→(val i j).oneCell' =true
 hp:su c a xs.length cap sz p
theorem Rep.ia {c:Cx} {xs:List AV} {p:Perm} {u:Value} (h:Rep c (.sl xs p) u):∃a cap sz val,u= .slice a xs.length cap∧Ag c xs p a cap sz val:=by
 cases h; exact ⟨_,_,_,_,rfl,‹_›,‹_›,‹_›,‹_›,‹_›,‹_›,‹_›,‹_›,‹_›⟩
theorem Ag.rep {c:Cx} {xs:List AV} {p:Perm} {a:Option Addr} {cap sz:Nat} {val:Nat→Nat→Value} (h:Ag c xs p a cap sz val):Rep c (.sl xs p) (.slice a xs.length cap):=
 .sl xs p a cap sz val h.hc h.hm h.h0 h.hs h.hz h.hf h.hr h.ho h.hp
theorem uL {c:Cx} {n:Nat} {ρ:Env} {a:Act} (h:cj c n ρ a):∀(xs:List Operand) (ys:List AV),evs ρ xs=some ys→
  xs.length=ys.length∧∀i (hi:i<xs.length) (hj:i<ys.length),Rep c ys[i] (a.eval xs[i])
 | [],ys,e=>by simp only [evs,Option.some.injEq] at e; subst e; exact ⟨rfl,fun i hi=>by cases hi⟩
 |x::r,ys,e=>by
  simp only [evs] at e;split at e
  ·rename_i y ys' h1 h2
   simp only [Option.some.injEq] at e; subst e
   obtain ⟨h3,h4⟩:=uL h r ys' h2;refine ⟨by simp [h3],fun i hi hj=> ?_⟩
   cases i with
   |zero=>exact aE h h1
   |succ i=>exact h4 i (by simpa using hi) (by simpa using hj)
  ·cases e
section
variable {P : Program} {U : TypeId → TI} {ρ : Env} {h : Heap} {k : AV → Prop} {o : Oper}
theorem cV.stay {X:AV} (hs:∀c a n,Sub h c.h→Good c→cj c n ρ a→∃u,(execOp a.eval o).run P c.w= .ok (.value u) c.w∧Rep c X u):cV P o ρ h X:=
 fun c a n hc g he=>let ⟨u,h1,h2⟩:=hs c a n hc g he; ⟨u,c,h1,g, .refl c,rfl,h2⟩
theorem wY {x:Operand} (ho:o.op= .move x∨o.op= .assign x) (hp:withv ρ x k):∃X,k X∧cV P o ρ h X:=by
 obtain ⟨y,hy,hk⟩:=aI hp;refine ⟨y,hk, .stay fun c a n _ _ he=>⟨a.eval x, ?_,aE he hy⟩⟩
 rcases ho with ho|ho<;>simp [execOp,ho]
theorem Dt {x y z:Operand} (ho:o.op= .pick x y z) (hp:pv U ρ h (.pick x y z) k):∃X,k X∧cV P o ρ h X:=by
 obtain ⟨b,hb,hk⟩:=aI hp;split at hk
 ·obtain ⟨w,hw,hk⟩:=aI hk
  refine ⟨w,hk, .stay fun c a n _ _ he=>⟨a.eval y, ?_,aE he hw⟩⟩
  have:=(aE he hb).bS;simp [execOp,ho,this,asBool]
 ·obtain ⟨w,hw,hk⟩:=aI hk
  refine ⟨w,hk, .stay fun c a n _ _ he=>⟨a.eval z, ?_,aE he hw⟩⟩
  have:=(aE he hb).bS;simp [execOp,ho,this,asBool]
 ·exact hk.elim
theorem wZ {x:Operand} (ho:o.op= .nilCheck x) (hp:pv U ρ h (.nilCheck x) k):∃X,k X∧cV P o ρ h X:=by
 obtain ⟨y,hy,hk⟩:=aI hp;have key:(y matches .ptr .. | .pe .. | .fn ..)=true→∃X,k X∧cV P o ρ h X:=fun hm=>by
  refine ⟨y,by cases y<;>simp at hm<;>exact hk, .stay fun c a n _ _ he=>⟨a.eval x, ?_,aE he hy⟩⟩
  have hr:=aE he hy;cases y<;>simp at hm
  ·obtain ⟨b,o',val,hu,_⟩:=hr.sU
   simp [execOp,ho,hu]
  ·obtain ⟨hu,_⟩:=hr.jR
   simp [execOp,ho,hu]
  ·obtain ⟨vs,hu,_⟩:=hr.CM
   simp [execOp,ho,hu]
 cases y<;>first|exact key rfl|exact hk.elim
theorem tK (op:BinOp) (ty:TypeId) (x y:Operand) (k k' :IntKind) (a b:Int) (w:World):(eqGuard op ty x y (.int k a) (.int k' b)).run P w= .ok () w:=by
 unfold eqGuard;split<;>rfl
theorem IJ (op:BinOp) (ty:TypeId) (k:IntKind) (a b:Int) (K:AV→Prop) (hs:gT op=false) (hp:sx op k a b K):
  ∃r,K (.v r)∧∀w,(binOp op ty (.int k a) (.int k b)).run P w= .ok r w:=by
 cases op<;>simp only [sx,gT] at hp hs<;>
  first
   |(exact ⟨_,hp,fun w=>by simp [binOp,Op.intArith,Op.intCmp,Op.intBits]⟩)
   |(exact ⟨_,hp.2,fun w=>by simp [binOp,Op.intDiv,hp.1]⟩)
   |(cases hs)
   |(exact hp.elim)
theorem FX (op:BinOp) (ty:TypeId) (k k' :IntKind) (a b:Int) (K:AV→Prop) (hp:GP op k a b K):
  ∃r,K (.v r)∧∀w,(binOp op ty (.int k a) (.int k' b)).run P w= .ok r w:=by
 cases op<;>simp only [GP] at hp<;>
  first
   |(refine ⟨_,hp.2,fun w=> ?_⟩; have h1:¬b<0:=Int.not_lt.2 hp.1; simp [binOp,Op.shift,h1])
   |(exact hp.elim)
theorem IL (op:BinOp) (ty:TypeId) (a b:List UInt8) (K:AV→Prop) (hp:LW op a b K):
  ∃X r,K X∧(∀c,Rep c X r)∧∀w,(binOp op ty (.string ⟨a.toArray⟩) (.string ⟨b.toArray⟩)).run P w= .ok r w:=by
 have key:∀t:Bool,K (.v (.bool t))→(∀w,(binOp op ty (.string ⟨a.toArray⟩) (.string ⟨b.toArray⟩)).run P w= .ok (.bool t) w)→
   ∃X r,K X∧(∀c,Rep c X r)∧∀w,(binOp op ty (.string ⟨a.toArray⟩) (.string ⟨b.toArray⟩)).run P w= .ok r w:=fun t h1 h2=>⟨_,_,h1,fun c=> .v _,h2⟩
 cases op<;>simp only [LW] at hp<;>
  first
   |(exact hp.elim)
   |(refine key _ hp fun w=> ?_; simp [binOp,Op.stringOp,ByteArray.toList_eq]; done)
   |skip
 obtain ⟨h1,h2⟩:=hp;refine ⟨_, .string ⟨(a++b).toArray⟩,h2,fun c=> .s _ (by simpa using h1),fun w=> ?_⟩
 have e1:(⟨a.toArray⟩:ByteArray)++⟨b.toArray⟩=⟨(a++b).toArray⟩:=ByteArray.ext (by simp [ByteArray.data_append])
 have e2:(⟨a.toArray⟩:ByteArray).size=a.length:=rfl;have e3:(⟨b.toArray⟩:ByteArray).size=b.length:=rfl;have h3:¬(((a.length+b.length:Nat):Int)>IntKind.i64.max):=by
  have e4:IntKind.i64.max=9223372036854775807:=rfl;rw [e4];simp only [lim] at h1;omega
 simp only [binOp,Op.stringOp,e1,e2,e3];rw [if_neg h3];rfl
theorem qZ {ty:TypeId} (hu:P.underlying ty=some .bool) (d:Nat) (a b:Bool) (w:World):(Op.equalIn (d+1) ty (.bool a) (.bool b)).run P w= .ok (a==b) w:=by
 simp [Op.equalIn,run_underlying hu]
theorem nL {ty e:TypeId} (hu:P.underlying ty=some (.pointer e)) (d:Nat) (a:Option Addr) (w:World):(Op.equalIn (d+1) ty (.pointer a) (.pointer none)).run P w= .ok a.isNone w:=by
 cases a<;>simp [Op.equalIn,run_underlying hu]
theorem jS (ty:TypeId) (x y:Value) (b:Bool) (w:World) (h:(Op.equalIn (9999+1) ty x y).run P w= .ok b w):(Op.equal ty x y).run P w= .ok b w:=h
theorem gb (op:BinOp) (ty:TypeId) (x y:Operand) (u v:Value) (w:World) (h:(u matches .nilIface| .agg _)=false):(eqGuard op ty x y u v).run P w= .ok () w:=by
 unfold eqGuard;cases u<;>first|(simp at h; done)|(split<;>rfl)
theorem Bs {c:Cx} {A:AV} {u:Value} {n:Bool} (h:MA A=some n) (hr:Rep c A u):∃a,u= .pointer a∧a.isNone=n:=by
 unfold MA at h;split at h
 ·simp only [Option.some.injEq] at h; subst h; exact ⟨none,hr.bS,rfl⟩
 ·simp only [Option.some.injEq] at h; subst h; exact ⟨_,hr.jR.1,rfl⟩
 ·simp only [Option.some.injEq] at h; subst h; obtain ⟨b,o',val,hu,_⟩:=hr.sU; exact ⟨_,hu,rfl⟩
 ·cases h
theorem IG {op:BinOp} {ty:TypeId} {a b:Bool} {K:AV→Prop} (hU:∀t,aN P U t) (hk:JD U op ty a b K):
  ∃r,K (.v r)∧∀w,(binOp op ty (.bool a) (.bool b)).run P w= .ok r w:=by
 unfold JD at hk;split at hk
 ·rename_i hty
  have:=(hU ty).desc;rw [hty] at this;exact ⟨_,hk,fun w=>by simp [binOp,jS _ _ _ _ _ (qZ this 9999 a b w)]⟩
 ·rename_i hty
  have:=(hU ty).desc;rw [hty] at this;exact ⟨_,hk,fun w=>by simp [binOp,jS _ _ _ _ _ (qZ this 9999 a b w)]⟩
 ·exact hk.elim
theorem IK {op:BinOp} {ty:TypeId} {x:AV} {K:AV→Prop} (hU:∀t,aN P U t) (hk:LV U op ty x K):
  ∃r,K (.v r)∧∀c u,Rep c x u→(binOp op ty u (.pointer none)).run P c.w= .ok r c.w∧(u matches .nilIface| .agg _)=false:=by
 unfold LV at hk;split at hk
 ·rename_i e n hty hn
  have:=(hU ty).desc;rw [hty] at this;refine ⟨_,hk,fun c u hu=> ?_⟩
  obtain ⟨a,rfl,hn'⟩:=Bs hn hu;exact ⟨by simp [binOp,jS _ _ _ _ _ (nL this 9999 a c.w),hn'],rfl⟩
 ·rename_i e n hty hn
  have:=(hU ty).desc;rw [hty] at this;refine ⟨_,hk,fun c u hu=> ?_⟩
  obtain ⟨a,rfl,hn'⟩:=Bs hn hu;exact ⟨by simp [binOp,jS _ _ _ _ _ (nL this 9999 a c.w),hn'],rfl⟩
 ·exact hk.elim
theorem IF {op:BinOp} {ty:TypeId} {A B:AV} {K:AV→Prop} (x y:Operand) (hU:∀t,aN P U t) (hk:fu U op ty A B K):
  ∃X,K X∧∀c u v,Rep c A u→Rep c B v→(eqGuard op ty x y u v).run P c.w= .ok () c.w∧∃r,(binOp op ty u v).run P c.w= .ok r c.w∧Rep c X r:=by
 unfold fu at hk;split at hk
 ·split at hk
  ·split at hk
   ·obtain ⟨r,h1,h2⟩:=FX (P:=P) op ty _ _ _ _ _ hk
    refine ⟨_,h1,fun c u v ra rb=> ?_⟩
    rw [ra.bS,rb.bS];exact ⟨tK _ _ _ _ _ _ _ _ _,r,h2 _, .v _⟩
   ·rename_i hs
    obtain ⟨rfl,hk⟩:=hk;obtain ⟨r,h1,h2⟩:=IJ (P:=P) op ty _ _ _ _ (by simpa using hs) hk
    refine ⟨_,h1,fun c u v ra rb=> ?_⟩
    rw [ra.bS,rb.bS];exact ⟨tK _ _ _ _ _ _ _ _ _,r,h2 _, .v _⟩
  ·exact hk.elim
 ·split at hk
  ·obtain ⟨X,r,h1,h2,h3⟩:=IL (P:=P) op ty _ _ _ hk
   refine ⟨_,h1,fun c u v ra rb=> ?_⟩
   rw [ra.l6.1,rb.l6.1];exact ⟨gb _ _ _ _ _ _ _ rfl,r,h3 _,h2 _⟩
  ·exact hk.elim
 ·split at hk
  ·obtain ⟨r,h1,h2⟩:=IG hU hk
   refine ⟨_,h1,fun c u v ra rb=> ?_⟩
   rw [ra.bS,rb.bS];exact ⟨gb _ _ _ _ _ _ _ rfl,r,h2 _, .v _⟩
  ·exact hk.elim
 ·obtain ⟨r,h1,h2⟩:=IK hU hk
  refine ⟨_,h1,fun c u v ra rb=> ?_⟩
  rw [rb.bS];exact ⟨gb _ _ _ _ _ _ _ (h2 c u ra).2,r,(h2 c u ra).1, .v _⟩
 ·split at hk
  ·exact II x y hU hk
  ·exact hk.elim
 ·split at hk
  ·obtain ⟨r,h1,h2⟩:=hk
   refine ⟨_,h2,fun c u v ra rb=> ?_⟩
   rw [ra.bS,rb.bS];exact ⟨gb _ _ _ _ _ _ _ rfl,r,h1 _ _ _, .v _⟩
  ·exact hk.elim
 ·split at hk
  ·obtain ⟨r,h1,h2⟩:=hk
   refine ⟨_,h2,fun c u v ra rb=> ?_⟩
   rw [ra.bS,rb.bS];exact ⟨gb _ _ _ _ _ _ _ rfl,r,h1 _ _ _, .v _⟩
  ·exact hk.elim
 ·exact hk.elim
theorem B0 {op:BinOp} {ty ty' :TypeId} {x y:Operand} (hU:∀t,aN P U t) (ho:o.op= .binOp op ty x y ty') (hp:pv U ρ h (.binOp op ty x y ty') k):∃X,k X∧cV P o ρ h X:=by
 obtain ⟨A,hA,hk⟩:=aI hp;obtain ⟨B,hB,hk⟩:=aI hk;obtain ⟨X,h1,h2⟩:=IF (P:=P) x y hU hk;refine ⟨X,h1, .stay fun c a n hc g he=> ?_⟩
 obtain ⟨h3,r,h4,h5⟩:=h2 c _ _ (aE he hA) (aE he hB);exact ⟨r,by simp [execOp,ho,h3,h4],h5⟩
end
section
variable {P : Program} {U : TypeId → TI} {ρ : Env} {h : Heap} {k : AV → Prop} {o : Oper}
theorem Dv {op:UnOp} {ty:TypeId} {x:Operand} (ho:o.op= .unOp op ty x) (hp:pv U ρ h (.unOp op ty x) k):∃X,k X∧cV P o ρ h X:=by
 obtain ⟨A,hA,hk⟩:=aI hp;split at hk
 ·refine ⟨_,hk, .stay fun c a n hc g he=>⟨_, ?_, .v _⟩⟩
  simp [execOp,ho,(aE he hA).bS,Op.unary]
 ·refine ⟨_,hk, .stay fun c a n hc g he=>⟨_, ?_, .v _⟩⟩
  simp [execOp,ho,(aE he hA).bS,Op.unary,Op.intArith]
 ·refine ⟨_,hk, .stay fun c a n hc g he=>⟨_, ?_, .v _⟩⟩
  simp [execOp,ho,(aE he hA).bS,Op.unary,Op.intBits]
 ·exact hk.elim
theorem xJ {x:Operand} {i:Nat} (ho:o.op= .extract x i) (hp:pv U ρ h (.extract x i) k):∃X,k X∧cV P o ρ h X:=by
 obtain ⟨A,hA,hk⟩:=aI hp;split at hk
 ·obtain ⟨z,hz,hk⟩:=hk
  refine ⟨z,hk, .stay fun c a n hc g he=> ?_⟩
  obtain ⟨us,hu,hn,hr⟩:=(aE he hA).z7;obtain ⟨hi,hz'⟩:=List.getElem?_eq_some_iff.1 hz;have hi' :i<us.size:=by omega
  have:=hr i hi;rw [hz'] at this;refine ⟨us[i], ?_,by simpa [hi'] using this⟩
  simp [execOp,ho,hu,Instr.extract,hi']
 ·exact hk.elim
theorem pY {ty:TypeId} {x:Operand} (hU:∀t,aN P U t) (ho:o.op= .makeInterface ty x) (hp:pv U ρ h (.makeInterface ty x) k):∃X,k X∧cV P o ρ h X:=by
 obtain ⟨ht,hp⟩:=hp;obtain ⟨A,hA,hk⟩:=aI hp;refine ⟨_,hk, .stay fun c a n hc g he=>⟨_, ?_, .ifc _ _ _ (aE he hA)⟩⟩
 have hd:=(hU ty).desc;cases hty:(U ty).k<;>rw [hty] at ht hd<;>simp only at ht hd<;>
  first
   |(exact ht.elim)
   |(simp [execOp,ho,Instr.makeInterface,run_underlying hd]; done)
   |(obtain ⟨fs,hd,_⟩:=hd; simp [execOp,ho,Instr.makeInterface,run_underlying hd]; done)
theorem wX {fn:Fn} {first cap:Array Operand} (ho:o.op= .makeFunc fn first cap) (hp:pv U ρ h (.makeFunc fn first cap) k):∃X,k X∧cV P o ρ h X:=by
 simp only [pv] at hp;split at hp
 ·rename_i f hf
  have hf' :first= #[]:=by rw [←Array.toList_inj]; exact hf
  subst hf';obtain ⟨ys,hy,hk⟩:=eS hp;refine ⟨_,hk, .stay fun c a n hc g he=> ?_⟩
  obtain ⟨h1,h2⟩:=uL he _ _ hy;refine ⟨.func (.func f) #[] (cap.map a.eval),by simp [execOp,ho,Instr.makeFunc], .fn f ys _ (by simpa using h1) fun i hi=> ?_⟩
  have hi' :i<cap.size:=by simpa [←h1] using hi
  have:=h2 i (by simpa using hi') hi
  simpa [hi'] using this
 ·exact hp.elim
theorem rm (vs:Array Value) (off n i:Nat) (h1:i<n) (h2:off+n≤vs.size):(vs.extract off (off+n)).getD i undef=vs.getD (off+i) undef:=by
 have h3:i<(vs.extract off (off+n)).size:=by simp; omega
 have h4:off+i<vs.size:=by omega
 rw [Array.getD,dif_pos h3,Array.getD,dif_pos h4];exact Array.getElem_extract h3
theorem FQ {t:TypeId} (hU:∀t,aN P U t) (hz:(U t).sz≠0) (ht:(U t).k≠ .other) {cs:List AV} {off:Nat} (hk:gL cs off (U t) k):
  ∃X,k X∧∀c (vs:Array Value),vs.size=cs.length→(∀i (h:i<cs.length),Rep c cs[i] (vs.getD i undef))→(∀i,i<cs.length→(vs.getD i undef).oneCell' =true)→
   ∃r,(part t vs off).run P c.w= .ok r c.w∧Rep c X r:=by
 unfold gL at hk;split at hk
 ·rename_i hag
  obtain ⟨hle,hk⟩:=hk;refine ⟨_,hk,fun c vs hn hr ho=>⟨.agg (vs.extract off (off+(U t).sz)),by simp [part,kS hU ht,hag,bC hU hz], ?_⟩⟩
  refine .agg _ _ (by simp; omega) (fun i hi=> ?_) (fun i hi=> ?_)
  ·simp at hi
   have h1:off+i<cs.length:=by omega
   have:=hr (off+i) h1;rw [rm _ _ _ _ (by omega) (by omega)]
   simpa using this
  ·simp at hi
   have h1:off+i<cs.length:=by omega
   have:=ho (off+i) h1;rw [rm _ _ _ _ (by omega) (by omega)]
   simpa using this
 ·rename_i hag
  obtain ⟨x,hx,hk⟩:=hk;obtain ⟨hi,hx'⟩:=List.getElem?_eq_some_iff.1 hx;refine ⟨x,hk,fun c vs hn hr ho=> ?_⟩
  have h1:off<vs.size:=by omega
  have:=hr off hi;rw [hx'] at this;exact ⟨vs[off],by simp [part,kS hU ht,hag,h1],by simpa [h1] using this⟩
theorem B2 {ty:TypeId} {x:Operand} {f:Nat} (hU:∀t,aN P U t) (ho:o.op= .field ty x f) (hp:pv U ρ h (.field ty x f) k):∃X,k X∧cV P o ρ h X:=by
 obtain ⟨A,hA,hk⟩:=aI hp;split at hk
 ·rename_i fs cs hty
  split at hk
  ·rename_i off t hf
   obtain ⟨hz,ht,hk⟩:=hk;obtain ⟨X,hk,hX⟩:=FQ hU hz ht hk;refine ⟨X,hk, .stay fun c a n hc g he=> ?_⟩
   obtain ⟨us,hu,hn,hr,h1⟩:=(aE he hA).mO;obtain ⟨r,h2,h3⟩:=hX c us hn hr h1;have hd:=(hU ty).desc;rw [hty] at hd;obtain ⟨fields,hd,hfs,_⟩:=hd;rw [←hfs] at hf;obtain ⟨fd,hf1,hf2⟩:=List.getElem?_map .. ▸hf|>Option.map_eq_some_iff.1
   simp only [Prod.mk.injEq] at hf2;obtain ⟨rfl,rfl⟩:=hf2;have hf3:fields[f]? =some fd:=by simpa using hf1
   exact ⟨r,by simp [execOp,ho,Instr.field,run_underlying hd,hf3,hu,asAgg,h2],h3⟩
  ·exact hk.elim
 ·exact hk.elim
theorem ck {b:Builtin} {args:Array Operand} {ts:Array TypeId} (ho:o.op= .call {callee:= .builtin b,args:=args,argTypes:=ts}) (ev:Operand→Value):
  execOp ev o=builtin b ts o.type (args.map fun| .const _=>true|_=>false) (args.map ev):=by
 simp only [execOp,ho,resolve];rfl
theorem F3 {args:Array Operand} {ts:Array TypeId} (hU:∀t,aN P U t) (ho:o.op= .call {callee:= .builtin .len,args:=args,argTypes:=ts})
  (hp:pvB U ρ h .len args.toList ts.toList k):∃X,k X∧cV P o ρ h X:=by
 obtain ⟨args⟩:=args;obtain ⟨ts⟩:=ts;simp only [pvB] at hp;split at hp
 ·rename_i x t
  obtain ⟨A,hA,hk⟩:=aI hp;have hd:=(hU t).desc;split at hk
  ·rename_i hty
   rw [hty] at hd;refine ⟨_,hk, .stay fun c a n hc g he=>⟨_, ?_, .v _⟩⟩
   rw [ck ho];simp [builtin,Builtin.len_,run_underlying hd,(aE he hA).l6.1,goInt];rfl
  ·rename_i hty
   rw [hty] at hd;refine ⟨_,hk, .stay fun c a n hc g he=>⟨_, ?_, .v _⟩⟩
   obtain ⟨q,cap,sz,val,hu,_⟩:=(aE he hA).ia;rw [ck ho];simp [builtin,Builtin.len_,run_underlying hd,hu,goInt]
  ·rename_i hty
   rw [hty] at hd;refine ⟨_,hk, .stay fun c a n hc g he=>⟨_, ?_, .v _⟩⟩
   obtain ⟨cap,o',hu,_⟩:=(aE he hA).mZ;rw [ck ho];simp [builtin,Builtin.len_,run_underlying hd,hu,goInt]
  ·rename_i hty
   rw [hty] at hd;refine ⟨_,hk, .stay fun c a n hc g he=>⟨_, ?_, .v _⟩⟩
   obtain ⟨o',hu,_⟩:=(aE he hA).iK;rw [ck ho];simp [builtin,Builtin.len_,run_underlying hd,hu,goInt]
  ·rename_i id hty
   rw [hty] at hd;split at hk
   ·rename_i m hid
    refine ⟨_,hk,fun c a n hs g he=> ?_⟩
    have hcid:=hs _ _ hid;obtain ⟨hu,_⟩:=(aE he hA).C5;obtain ⟨es,cl,e1,e2,e3⟩:=g.mp id m hcid;refine ⟨_,c, ?_,g, .refl c,rfl, .v _⟩;rw [ck ho];simp [builtin,Builtin.len_,run_underlying hd,hu,MapKept.run_getObj_map e1,goInt,e2]
   ·exact hk.elim
  ·exact hk.elim
 ·exact hp.elim
theorem F2 {args:Array Operand} {ts:Array TypeId} (hU:∀t,aN P U t) (ho:o.op= .call {callee:= .builtin .cap,args:=args,argTypes:=ts})
  (hp:pvB U ρ h .cap args.toList ts.toList k):∃X,k X∧cV P o ρ h X:=by
 obtain ⟨args⟩:=args;obtain ⟨ts⟩:=ts;simp only [pvB] at hp;split at hp
 ·rename_i x t
  obtain ⟨A,hA,hk⟩:=aI hp;have hd:=(hU t).desc;split at hk
  ·rename_i hty
   rw [hty] at hd;refine ⟨_,hk, .stay fun c a n hc g he=>⟨_, ?_, .v _⟩⟩
   obtain ⟨q,cap,sz,val,hu,hs⟩:=(aE he hA).ia;have hp:cap=_:=hs.hp;rw [ck ho];simp [builtin,Builtin.cap_,run_underlying hd,hu,goInt,hp]
  ·rename_i hty
   rw [hty] at hd;refine ⟨_,hk, .stay fun c a n hc g he=>⟨_, ?_, .v _⟩⟩
   obtain ⟨o',hu,_⟩:=(aE he hA).iK;rw [ck ho];simp [builtin,Builtin.cap_,run_underlying hd,hu,goInt]
  ·exact hk.elim
 ·exact hp.elim
theorem uN {xs:List Operand} {A B:AV} (h:evs ρ xs=some [A,B]):∃x y,xs= [x,y]∧ev ρ x=some A∧ev ρ y=some B:=by
 match xs,h with
 | [x,y],h=>
  simp only [evs] at h;split at h
  ·rename_i h1 h2
   split at h2
   ·rename_i h3 h4
    simp only [Option.some.injEq] at h4 h2 h;subst h4; subst h2
    simp only [List.cons.injEq,and_true] at h;obtain ⟨rfl,rfl⟩:=h;exact ⟨x,y,rfl,h1,h3⟩
   ·cases h2
  ·cases h
 | [x],h=>simp only [evs] at h; split at h<;>simp_all
 | [],h=>simp [evs] at h
 |x::y::z::r,h=>
  simp only [evs] at h;split at h
  ·rename_i h1 h2
   split at h2
   ·rename_i h3 h4
    split at h4<;>simp_all
   ·cases h2
  ·cases h
theorem F5 {args:Array Operand} {ts:Array TypeId} (ho:o.op= .call {callee:= .builtin .min,args,argTypes:=ts})
  (hp:withvs ρ args.toList fun ys=>Bp ys k):∃X,k X∧cV P o ρ h X:=by
 obtain ⟨ys,hy,hk⟩:=eS hp;unfold Bp at hk;split at hk
 ·obtain ⟨rfl,hk⟩:=hk
  obtain ⟨x,y,e,hx,hy2⟩:=uN hy;have e' :args= #[x,y]:=by rw [←Array.toList_inj]; exact e
  subst e';refine ⟨_,hk, .stay fun c a n hc g he=>⟨_, ?_, .v _⟩⟩
  rw [ck ho];simp [builtin,Builtin.min_,Builtin.min2,(aE he hx).bS,(aE he hy2).bS]
 ·exact hk.elim
theorem F4 {args:Array Operand} {ts:Array TypeId} (ho:o.op= .call {callee:= .builtin .max,args,argTypes:=ts})
  (hp:withvs ρ args.toList fun ys=>xz ys k):∃X,k X∧cV P o ρ h X:=by
 obtain ⟨ys,hy,hk⟩:=eS hp;unfold xz at hk;split at hk
 ·obtain ⟨rfl,hk⟩:=hk
  obtain ⟨x,y,e,hx,hy2⟩:=uN hy;have e' :args= #[x,y]:=by rw [←Array.toList_inj]; exact e
  subst e';refine ⟨_,hk, .stay fun c a n hc g he=>⟨_, ?_, .v _⟩⟩
  rw [ck ho];simp [builtin,Builtin.max_,Builtin.max2,(aE he hx).bS,(aE he hy2).bS]
 ·obtain ⟨r,h1,hk⟩:=hk
  obtain ⟨x,y,e,hx,hy2⟩:=uN hy;have e' :args= #[x,y]:=by rw [←Array.toList_inj]; exact e
  subst e';refine ⟨_,hk, .stay fun c a n hc g he=>⟨_, ?_, .v r⟩⟩
  rw [ck ho];have h2:=h1 P ts o.type c.w;rw [←(aE he hx).bS,←(aE he hy2).bS] at h2;simp [builtin,h2]
 ·exact hk.elim
theorem DW {l:List Operand} {y:AV} (h:evs ρ l=some [y]):∃x,l= [x]∧ev ρ x=some y:=by
 cases l with
 |nil=>cases h
 |cons x r=>
  simp only [evs] at h;split at h
  ·rename_i u us h1 h2
   simp only [Option.some.injEq,List.cons.injEq] at h;obtain ⟨rfl,rfl⟩:=h;cases r with
   |nil=>exact ⟨x,rfl,h1⟩
   |cons z r=>
    simp only [evs] at h2;split at h2<;>cases h2
  ·cases h
theorem IB (ts:Array TypeId) (ty:TypeId) (k:FloatKind) (a b:Nat):Builtin.real_ ts ty #[.complex k a b]=pure (.float k a):=rfl
theorem Hy (ts:Array TypeId) (ty:TypeId) (k:FloatKind) (a b:Nat):Builtin.imag_ ts ty #[.complex k a b]=pure (.float k b):=rfl
theorem GW (ts:Array TypeId) (ty:TypeId) (k:FloatKind) (a b:Nat):Builtin.complex_ ts ty #[.float k a, .float k b]=pure (.complex k a b):=by
 show (if k=k then (pure (Value.complex k a b):Sem Value) else _)=_
 rw [if_pos rfl]
theorem Du {args:Array Operand} {ts:Array TypeId} (ho:o.op= .call {callee:= .builtin .real,args,argTypes:=ts})
  (hp:withvs ρ args.toList fun ys=>wO ys k):∃X,k X∧cV P o ρ h X:=by
 obtain ⟨ys,hy,hk⟩:=eS hp;unfold wO at hk;split at hk
 ·rename_i kf p q
  obtain ⟨x,e,hx⟩:=DW hy;have e' :args= #[x]:=by rw [←Array.toList_inj]; exact e
  subst e';refine ⟨_,hk, .stay fun c a n hc g he=>⟨_, ?_, .v _⟩⟩
  rw [ck ho];have h2:=IB ts o.type kf p q;rw [←(aE he hx).bS] at h2;simp [builtin,h2]
 ·exact hk.elim
theorem Dr {args:Array Operand} {ts:Array TypeId} (ho:o.op= .call {callee:= .builtin .imag,args,argTypes:=ts})
  (hp:withvs ρ args.toList fun ys=>vO ys k):∃X,k X∧cV P o ρ h X:=by
 obtain ⟨ys,hy,hk⟩:=eS hp;unfold vO at hk;split at hk
 ·rename_i kf p q
  obtain ⟨x,e,hx⟩:=DW hy;have e' :args= #[x]:=by rw [←Array.toList_inj]; exact e
  subst e';refine ⟨_,hk, .stay fun c a n hc g he=>⟨_, ?_, .v _⟩⟩
  rw [ck ho];have h2:=Hy ts o.type kf p q;rw [←(aE he hx).bS] at h2;simp [builtin,h2]
 ·exact hk.elim
theorem Dq {args:Array Operand} {ts:Array TypeId} (ho:o.op= .call {callee:= .builtin .complex,args,argTypes:=ts})
  (hp:withvs ρ args.toList fun ys=>vp ys k):∃X,k X∧cV P o ρ h X:=by
 obtain ⟨ys,hy,hk⟩:=eS hp;unfold vp at hk;split at hk
 ·rename_i kf p kf' q
  obtain ⟨rfl,hk⟩:=hk;obtain ⟨x,y,e,hx,hy2⟩:=uN hy;have e' :args= #[x,y]:=by rw [←Array.toList_inj]; exact e
  subst e';refine ⟨_,hk, .stay fun c a n hc g he=>⟨_, ?_, .v _⟩⟩
  rw [ck ho];have h2:=GW ts o.type kf p q;rw [←(aE he hx).bS,←(aE he hy2).bS] at h2;simp [builtin,h2]
 ·exact hk.elim
end
section
variable {P : Program} {U : TypeId → TI} {ρ : Env} {h : Heap} {k : AV → Prop} {o : Oper}
theorem cA (b o n:Nat):(⟨b,o,none⟩:Addr).add n=⟨b,o+n,none⟩:=by
 unfold Addr.add;split<;>simp_all
theorem B3 {ty:TypeId} {x i:Operand} (hU:∀t,aN P U t) (ho:o.op= .index ty x i) (hp:pv U ρ h (.index ty x i) k):∃X,k X∧cV P o ρ h X:=by
 obtain ⟨A,hA,hk⟩:=aI hp;obtain ⟨B,hB,hk2⟩:=aI hk;clear hk;have hk:=hk2;clear hk2;split at hk
 ·rename_i l kk n hty
  obtain ⟨h0,b,hb,hk⟩:=hk;refine ⟨_,hk, .stay fun c a m hc g he=>⟨_, ?_, .v _⟩⟩
  have hd:=(hU ty).desc;rw [hty] at hd;obtain ⟨hi,hb'⟩:=List.getElem?_eq_some_iff.1 hb;have e:(⟨l.toArray⟩:ByteArray)[n.toNat]? =some b:=by
   rw [getElem?_pos (⟨l.toArray⟩:ByteArray) n.toNat hi,←hb'];rfl
  simp [execOp,ho,(aE he hA).l6.1,(aE he hB).bS,Instr.index,asIntOf,run_underlying hd,h0,e]
 ·exact hk.elim
theorem vG {a:Addr} {f:Field} (hU:∀t,aN P U t) (hz:(U f.type).sz≠0) (w:World):(fieldPlace a f).run P w= .ok (a.add f.offset) w:=by
 simp [fieldPlace,bC hU hz,hz]
theorem CL {ty:TypeId} {fs:List (Nat×TypeId)} {f off:Nat} {t:TypeId} (hU:∀t,aN P U t) (hty:(U ty).k= .strct fs) (hf:fs[f]? =some (off,t)):
  ∃(fields:Array Field) (fd:Field),P.underlying ty=some (.struct fields)∧fields[f]? =some fd∧fd.offset=off∧fd.type=t:=by
 have hd:=(hU ty).desc;rw [hty] at hd;obtain ⟨fields,hd,hfs,_⟩:=hd;rw [←hfs] at hf;obtain ⟨fd,hf1,hf2⟩:=List.getElem?_map .. ▸hf|>Option.map_eq_some_iff.1
 simp only [Prod.mk.injEq] at hf2;exact ⟨fields,fd,hd,by simpa using hf1,hf2.1,hf2.2⟩
theorem uC {ty:TypeId} {x:Operand} {f:Nat} (hU:∀t,aN P U t) (ho:o.op= .fieldAddr ty x f) (hp:pv U ρ h (.fieldAddr ty x f) k):∃X,k X∧cV P o ρ h X:=by
 obtain ⟨A,hA,hk⟩:=aI hp;split at hk
 ·rename_i fs hty
  split at hk
  ·rename_i off t hf
   obtain ⟨hz,hk⟩:=hk;obtain ⟨fields,fd,hd,hf3,rfl,rfl⟩:=CL hU hty hf;have hrun:∀(b q:Nat) (w:World),(Instr.fieldAt ty (.pointer (some ⟨b,q,none⟩)) f).run P w= .ok (.pointer (some ⟨b,q+fd.offset,none⟩)) w:=fun b q w=>by
    simp [Instr.fieldAt,run_underlying hd,hf3,Instr.sureAddr,vG hU hz,cA]
   split at hk
   ·rename_i id q
    refine ⟨_,hk, .stay fun c a m hc g he=> ?_⟩
    obtain ⟨hu,cs,t,hcs⟩:=(aE he hA).jR;exact ⟨_,by simp [execOp,ho,hu,hrun], .ptr _ _ cs t hcs⟩
   ·rename_i z q
    refine ⟨_,hk, .stay fun c a m hc g he=> ?_⟩
    obtain ⟨b,p,val,hu,h1,h2,h3,h4⟩:=(aE he hA).sU;refine ⟨_,by simp [execOp,ho,hu,hrun]; rfl, ?_⟩
    rw [Nat.add_assoc];exact .pe z _ b p val h1 h2 h3 h4
   ·exact hk.elim
  ·exact hk.elim
 ·exact hk.elim
theorem uD {ty:TypeId} {x i:Operand} (hU:∀t,aN P U t) (ho:o.op= .indexAddr ty x i) (hp:pv U ρ h (.indexAddr ty x i) k):∃X,k X∧cV P o ρ h X:=by
 obtain ⟨A,hA,hk⟩:=aI hp;obtain ⟨B,hB,hk2⟩:=aI hk;clear hk;have hk:=hk2;clear hk2;have hd:=(hU ty).desc;split at hk
 ·rename_i e xs p kk n hty
  rw [hty] at hd;obtain ⟨hz,h0,b,hb,hsz,hk⟩:=hk;refine ⟨_,hk, .stay fun c a m hc g he=> ?_⟩
  obtain ⟨q,cap,sz,val,hu,hs⟩:=(aE he hA).ia;obtain ⟨hi,hb'⟩:=List.getElem?_eq_some_iff.1 hb;have hcap:=hs.hc;obtain ⟨q,rfl⟩:∃q',q=some q' :=by
   cases q with
   |none=>have:=hs.h0 rfl; omega
   |some q' =>exact ⟨q',rfl⟩
  obtain ⟨hspot,hblk⟩:=hs.hs q rfl (by omega)
  have hz' :=hs.hz n.toNat hi;rw [hb',hsz] at hz';have hlt:n<xs.length:=by omega
  obtain ⟨bq,oq,sq⟩:=q;simp only at hspot hblk; subst hspot
  refine ⟨.pointer (some ⟨bq,oq+n.toNat*sz+0,none⟩),by simp [execOp,ho,hu,(aE he hB).bS,Instr.indexAt,asIntOf,run_underlying hd,h0,hlt,bC hU hz,cA,hz'], ?_⟩
  refine .pe b 0 bq (oq+n.toNat*sz) (fun j=>val n.toNat j) hblk (fun j hj=> ?_) (fun j hj=> ?_) (fun j hj=> ?_)
  ·have:=hs.hf _ rfl n.toNat j hi (by omega)
   rwa [←Nat.add_assoc] at this
  ·have:=hs.hr n.toNat hi j (by rw [hb']; exact hj)
   simpa only [hb'] using this
  ·exact hs.ho n.toNat j hi (by omega)
 ·rename_i e id off len kk n hty
  rw [hty] at hd;obtain ⟨hz,h0,h1,hk⟩:=hk;refine ⟨_,hk, .stay fun c a m hc g he=> ?_⟩
  obtain ⟨cap,o',hu,h2,h3,ho',cs,t,h4,h5⟩:=(aE he hA).mZ;obtain rfl:=ho' (by omega)
  exact ⟨_,by simp [execOp,ho,hu,(aE he hB).bS,Instr.indexAt,asIntOf,run_underlying hd,h0,h1,bC hU hz,cA], .ptr _ _ cs t h4⟩
 ·rename_i len e id off kk n hty
  rw [hty] at hd;obtain ⟨hz,h0,h1,hk⟩:=hk;refine ⟨_,hk, .stay fun c a m hc g he=> ?_⟩
  obtain ⟨hu,cs,t,h4⟩:=(aE he hA).jR;exact ⟨_,by simp [execOp,ho,hu,(aE he hB).bS,Instr.indexAt,asIntOf,run_underlying hd,h0,h1,bC hU hz,cA,Instr.sureAddr], .ptr _ _ cs t h4⟩
 ·rename_i e id off len cap sz kk n hty
  rw [hty] at hd;obtain ⟨hz,rfl,h0,h1,hk⟩:=hk;refine ⟨_,hk, .stay fun c a m hc g he=> ?_⟩
  obtain ⟨o',hu,h2,h3,cs,t,h4,h5⟩:=(aE he hA).iK;obtain ⟨rfl,_⟩:=h5 (by omega)
  exact ⟨_,by simp [execOp,ho,hu,(aE he hB).bS,Instr.indexAt,asIntOf,run_underlying hd,h0,h1,bC hU hz,cA], .ptr _ _ cs t h4⟩
 ·exact hk.elim
theorem oP {ty:TypeId} (hU:∀t,aN P U t) (hz:(U ty).sz≠0) (ht:(U ty).k≠ .other) (w:World) (b q:Nat) (f:Nat→Value)
  (hf:∀j,j<(if (U ty).k.agg then (U ty).sz else 1)→w.cell? ⟨b,q+j,none⟩=some (f j)):
  (loadVar ty ⟨b,q,none⟩).run P w= .ok (if (U ty).k.agg then .agg ((List.range (U ty).sz).map f).toArray else f 0) w:=by
 by_cases hag:(U ty).k.agg=true
 ·simp only [hag,if_true] at hf⊢
  simp [loadVar,kS hU ht,hag,bC hU hz,run_loadCells w ⟨b,q,none⟩ _ f (fun j hj=>by rw [cA]; exact hf j hj)]
 ·simp only [hag] at hf⊢
  have:=hf 0 (by simp)
  simp at this;simp [loadVar,kS hU ht,hag,this]
theorem GG {c:Cx} {cs:List AV} {f:Nat→Value} {n:Nat} (hn:n=cs.length) (hr:∀j (h:j<cs.length),Rep c cs[j] (f j)) (ho:∀j,j<cs.length→(f j).oneCell' =true):
  Rep c (.agg cs) (.agg ((List.range n).map f).toArray):=by
 subst hn;refine .agg _ _ (by simp) (fun i hi=> ?_) (fun i hi=> ?_)
 ·simpa [hi] using hr i hi
 ·simpa [hi] using ho i hi
theorem qH {ty:TypeId} (hU:∀t,aN P U t) (hz:(U ty).sz≠0) (ht:(U ty).k≠ .other) {cs:List AV} {off:Nat} (hk:gL cs off (U ty) k):
  ∃X,k X∧∀c b q (val:Nat→Value),(∀j,j<cs.length→c.w.cell? ⟨b,q+j,none⟩=some (val j))→(∀j (h:j<cs.length),Rep c cs[j] (val j))→
   (∀j,j<cs.length→(val j).oneCell' =true)→∃r,(loadVar ty ⟨b,q+off,none⟩).run P c.w= .ok r c.w∧Rep c X r:=by
 unfold gL at hk;split at hk
 ·rename_i hag
  obtain ⟨hle,hk⟩:=hk;refine ⟨_,hk,fun c b q val h1 h2 h3=>⟨_,oP hU hz ht c.w b (q+off) (fun j=>val (off+j)) (fun j hj=> ?_), ?_⟩⟩
  ·simp only [hag,if_true] at hj
   rw [Nat.add_assoc];exact h1 _ (by omega)
  ·simp only [hag,if_true]
   refine GG (by simp; omega) (fun j hj=> ?_) (fun j hj=> ?_)
   ·simp at hj
    simpa using h2 (off+j) (by omega)
   ·simp at hj
    exact h3 _ (by omega)
 ·rename_i hag
  obtain ⟨x,hx,hk⟩:=hk;obtain ⟨hi,hx'⟩:=List.getElem?_eq_some_iff.1 hx;refine ⟨x,hk,fun c b q val h1 h2 h3=>⟨_,oP hU hz ht c.w b (q+off) (fun j=>val (off+j)) (fun j hj=> ?_), ?_⟩⟩
  ·simp [hag] at hj
   subst hj;simpa using h1 off hi
  ·have:=h2 off hi
   rw [hx'] at this;simpa [hag] using this
theorem JB {ty:TypeId} (hU:∀t,aN P U t) (hz:(U ty).sz≠0) (ht:(U ty).k≠ .other) {y:AV} {off:Nat} (hk:atA y off (U ty) k):
  ∃X,k X∧∀c b q (val:Nat→Value),(∀j,j<y.cells.length→c.w.cell? ⟨b,q+j,none⟩=some (val j))→(∀j (h:j<y.cells.length),Rep c y.cells[j] (val j))→
   (∀j,j<y.cells.length→(val j).oneCell' =true)→∃r,(loadVar ty ⟨b,q+off,none⟩).run P c.w= .ok r c.w∧Rep c X r:=by
 unfold atA at hk;split at hk
 ·rename_i hc
  obtain ⟨rfl,hlen,hag⟩:=hc;refine ⟨y,hk,fun c b q val h1 h2 h3=>⟨_,oP hU hz ht c.w b (q+0) val (fun j hj=> ?_), ?_⟩⟩
  ·rw [Nat.add_zero]
   exact h1 j (by split at hj<;>omega)
  ·by_cases hagg:(U ty).k.agg=true
   ·rw [hagg] at hag
    simp only [hagg,if_true];cases y<;>simp [bA] at hag
    exact GG hlen.symm h2 h3
   ·simp only [hagg]
    have hn:bA y=false:=by rw [hag]; simpa using hagg
    have:y.cells= [y]:=by cases y<;>simp [bA] at hn<;>rfl
    have h4:=h2 0 (by rw [this]; simp)
    simpa [this] using h4
 ·exact qH hU hz ht hk
theorem Ds {ty:TypeId} {x:Operand} (hU:∀t,aN P U t) (ho:o.op= .load ty x) (hp:pv U ρ h (.load ty x) k):∃X,k X∧cV P o ρ h X:=by
 obtain ⟨hz,ht,hp⟩:=hp;obtain ⟨A,hA,hk⟩:=aI hp;split at hk
 ·rename_i id off
  split at hk
  ·rename_i cs t hid
   obtain ⟨X,hk,hX⟩:=qH (P:=P) hU hz ht hk;refine ⟨X,hk, .stay fun c a m hc g he=> ?_⟩
   obtain ⟨hu,_⟩:=(aE he hA).jR;obtain ⟨vs,h1,h2,h3⟩:=g.obj id cs t (hc _ _ hid);obtain ⟨r,h5,h6⟩:=hX c (c.φ id).block 0 (fun j=>vs.getD j undef) (fun j hj=>by
    have:j<vs.size:=by omega
    simp [World.cell?,h1,this]) (fun j hj=>(h3 j hj).1) (fun j hj=>(h3 j hj).2)
   rw [Nat.zero_add] at h5;exact ⟨r,by simp [execOp,ho,hu,Instr.loadAt,Instr.sureAddr,h5],h6⟩
  ·exact hk.elim
 ·obtain ⟨X,hk,hX⟩:=JB (P:=P) hU hz ht hk
  refine ⟨X,hk, .stay fun c a m hc g he=> ?_⟩
  obtain ⟨b,p,val,hu,h1,h2,h3,h4⟩:=(aE he hA).sU;obtain ⟨r,h5,h6⟩:=hX c b p val (fun j hj=>(h2 j hj).1) h3 h4
  exact ⟨r,by simp [execOp,ho,hu,Instr.loadAt,Instr.sureAddr,h5],h6⟩
 ·exact hk.elim
end
section
variable {P : Program} {U : TypeId → TI} {ρ : Env} {h : Heap} {k : AV → Prop} {o : Oper}
theorem dW {x:Option Operand} {d:Nat} {k:Int→Prop} (hp:dR ρ x d k):∃n,k n∧(x=none∧n=d∨∃q kk,x=some q∧ev ρ q=some (.v (.int kk n))):=by
 unfold dR at hp;split at hp
 ·exact ⟨_,hp, .inl ⟨rfl,rfl⟩⟩
 ·obtain ⟨A,hA,hk⟩:=aI hp
  split at hk
  ·exact ⟨_,hk, .inr ⟨_,_,rfl,hA⟩⟩
  ·exact hk.elim
def Jv (x:Option Value) (d:Nat) (n:Int):Prop:=x=none∧n=d∨∃kk,x=some (.int kk n)
theorem jQ {c:Cx} {m:Nat} {a:Act} (he:cj c m ρ a) {x:Option Operand} {d:Nat} {n:Int} (hx:x=none∧n=d∨∃q kk,x=some q∧ev ρ q=some (.v (.int kk n))):Jv (x.map a.eval) d n:=by
 rcases hx with ⟨rfl,rfl⟩|⟨q,kk,rfl,hq⟩
 ·exact .inl ⟨rfl,rfl⟩
 ·exact .inr ⟨kk,by simp [(aE he hq).bS]⟩
theorem nv {s:Bool} {len cap:Nat} {lo hi:Option Value} {a b:Int} (hl:Jv lo 0 a) (hh:Jv hi len b) (h0:0≤a) (h1:a≤b) (h2:b≤cap) (w:World):
  (Instr.sliceBounds s len cap lo hi none).run P w= .ok (a.toNat,b.toNat,cap) w:=by
 have hb:0≤b∧b≤(cap:Int):=⟨by omega,h2⟩
 have ha:0≤a∧a≤((b.toNat:Nat):Int):=⟨h0,by omega⟩
 rcases hh with ⟨rfl,rfl⟩|⟨kh,rfl⟩<;>rcases hl with ⟨rfl,rfl⟩|⟨kl,rfl⟩<;>simp [Instr.sliceBounds,Instr.sliceBound,asIntOf,ha,hb]<;>(try (intro hh; exfalso; omega))
theorem ug {s:Bool} {len cap:Nat} {lo:Option Value} {a b m:Int} {kh km:IntKind} (hl:Jv lo 0 a) (h0:0≤a) (h1:a≤b) (h2:b≤m) (h3:m≤cap) (w:World):
  (Instr.sliceBounds s len cap lo (some (.int kh b)) (some (.int km m))).run P w= .ok (a.toNat,b.toNat,m.toNat) w:=by
 have hm:0≤m∧m≤(cap:Int):=⟨by omega,h3⟩
 have hb:0≤b∧b≤((m.toNat:Nat):Int):=⟨by omega,by omega⟩
 have ha:0≤a∧a≤((b.toNat:Nat):Int):=⟨h0,by omega⟩
 rcases hl with ⟨rfl,rfl⟩|⟨kl,rfl⟩<;>simp [Instr.sliceBounds,Instr.sliceBound,asIntOf,ha,hb,hm]
 ·intro hh; exfalso; omega
 ·rw [if_pos (by omega),if_pos (by omega)]
theorem zA {α:Type} (xs:List α) (a b:Int) (lo hi:Bool) (h1:lo=false→a=0) (h2:hi=false→b=xs.length) (_h0:0≤a):
  nR xs a b lo hi=(xs.drop a.toNat).take (b.toNat - a.toNat):=by
 cases lo<;>cases hi<;>simp only [nR]
 ·rw [h1 rfl,h2 rfl]; simp
 ·rw [h1 rfl]; simp
 ·rw [h2 rfl,List.take_of_length_le (by simp)]
theorem Ag.cut {c:Cx} {xs:List AV} {p:Perm} {a:Option Addr} {cap sz:Nat} {val:Nat→Nat→Value} (hs:Ag c xs p a cap sz val) (i j m:Nat) (h1:i≤j) (h2:j≤xs.length)
  (h3:j≤m) (h4:m≤cap) (p' :Perm) (hp:p' = .no∨p' = .full∧m=j) (s:Nat) (hsz:i*s=i*sz):
  Rep c (.sl ((xs.drop i).take (j - i)) p') (.slice (if m=i then a else a.map (·.add (i*s))) (j - i) (m - i)):=by
 have hlen:((xs.drop i).take (j - i)).length=j - i:=by simp; omega
 have hperm:∀q,su c q ((xs.drop i).take (j - i)).length (m - i) sz p' :=fun q=>by
  rcases hp with rfl|⟨rfl,rfl⟩
  ·trivial
  ·show m - i=_; rw [hlen]
 have hcap:=hs.hm;rw [hsz]
 by_cases hmi:m=i
 ·subst hmi
  have e:j=m:=by omega
  subst e;simp only [if_true];have:=Rep.sl (c:=c) ((xs.drop j).take (j - j)) p' a 0 sz val (by simp) (by simp [lim]) (fun _=>rfl) (fun q hq hp=>absurd hp (by simp)) (fun i hi=>by simp at hi) (fun q hq i j hi=>by simp at hi)
   (fun i hi=>by simp at hi) (fun i j hi=>by simp at hi) (by simpa using hperm a)
  simpa using this
 ·rw [if_neg hmi]
  obtain ⟨q,rfl⟩:∃q,a=some q:=by
   cases a with
   |none=>have:=hs.h0 rfl; omega
   |some q=>exact ⟨q,rfl⟩
  obtain ⟨hq1,hq2⟩:=hs.hs q rfl (by omega)
  obtain ⟨bq,oq,sq⟩:=q;simp only at hq1 hq2; subst hq1
  simp only [Option.map_some,cA];have:=Rep.sl (c:=c) ((xs.drop i).take (j - i)) p' (some ⟨bq,oq+i*sz,none⟩) (m - i) sz (fun x y=>val (i+x) y) (by omega) (by omega) (fun e=>by cases e)
   (fun q hq _=>by cases hq; exact ⟨rfl,hq2⟩)
   (fun x hx=>by
    have hx' :i+x<xs.length:=by omega
    simpa using hs.hz (i+x) hx')
   (fun q hq x y hx hy=>by
    cases hq;have hx' :i+x<xs.length:=by omega
    have:=hs.hf _ rfl (i+x) y hx' hy;rw [Nat.add_mul] at this;have e:oq+i*sz+(x*sz+y)=oq+(i*sz+x*sz+y):=by omega
    simp only [e];exact this)
   (fun x hx y hy=>by
    have hx' :i+x<xs.length:=by omega
    have hg:((xs.drop i).take (j - i))[x]=xs[i+x]:=by simp
    rw [hg] at hy;have:=hs.hr (i+x) hx' y hy;simpa only [hg] using this)
   (fun x y hx hy=>hs.ho (i+x) y (by omega) hy)
   (hperm _)
  rwa [hlen] at this
theorem B4 {ty:TypeId} {x:Operand} {lo hi mx:Option Operand} (hU:∀t,aN P U t) (ho:o.op= .slice ty x lo hi mx) (hp:pv U ρ h (.slice ty x lo hi mx) k):∃X,k X∧cV P o ρ h X:=by
 obtain ⟨A,hA,hk⟩:=aI hp;have hd:=(hU ty).desc;unfold pO at hk;split at hk
 ·rename_i l
  obtain ⟨hty,rfl,hk⟩:=hk;rw [hty] at hd;obtain ⟨i,hk1,hlo⟩:=dW hk;obtain ⟨j,hk2,hhi⟩:=dW hk1;obtain ⟨h0,h1,h2,hk3⟩:=hk2;refine ⟨_,hk3, .stay fun c a m hc g he=> ?_⟩
  obtain ⟨hu,hl⟩:=(aE he hA).l6;have hb:=nv (P:=P) (s:=false) (cap:=l.length) (jQ he hlo) (jQ he hhi) h0 h1 h2 c.w;have e:nR l i j lo.isSome hi.isSome=(l.drop i.toNat).take (j.toNat - i.toNat):=zA l i j _ _
   (fun e=>by rcases hlo with ⟨rfl,h⟩|⟨q,kk,rfl,_⟩; exact h; cases e) (fun e=>by rcases hhi with ⟨rfl,h⟩|⟨q,kk,rfl,_⟩; exact h; cases e) h0
  rw [e];refine ⟨_, ?_, .s _ (by simp; omega)⟩
  have hsz:(⟨l.toArray⟩:ByteArray).size=l.length:=rfl;simp [execOp,ho,hu,Instr.sliceAt,Instr.slice,run_underlying hd,hsz,hb,ByteArray.extract_mk]
 ·rename_i xs p
  split at hk
  ·rename_i e hty
   rw [hty] at hd;obtain ⟨hz,hcond,hk⟩:=hk;split at hk
   ·obtain ⟨i,hk1,hlo⟩:=dW hk
    obtain ⟨j,hk2,hhi⟩:=dW hk1;obtain ⟨h0,h1,h2,hk3⟩:=hk2;refine ⟨_,hk3, .stay fun c a m hc g he=> ?_⟩
    obtain ⟨q,cap,sz,val,hu,hs⟩:=(aE he hA).ia;have hcap:=hs.hc;have hb:=nv (P:=P) (s:=true) (cap:=cap) (jQ he hlo) (jQ he hhi) h0 h1 (by omega) c.w
    have e1:nR xs i j lo.isSome hi.isSome=(xs.drop i.toNat).take (j.toNat - i.toNat):=zA xs i j _ _
     (fun e=>by rcases hlo with ⟨rfl,h⟩|⟨q,kk,rfl,_⟩; exact h; cases e) (fun e=>by rcases hhi with ⟨rfl,h⟩|⟨q,kk,rfl,_⟩; exact h; cases e) h0
    have hss:i.toNat*(U e).sz=i.toNat*sz:=by
     rcases hlo with ⟨rfl,h⟩|⟨q',kk,rfl,_⟩
     ·subst h; simp
     ·by_cases hx:xs= []
      ·subst hx
       have:i.toNat=0:=by simp at h2; omega
       simp [this]
      ·have hne:0<xs.length:=List.length_pos_iff.2 hx
       have a1:=hs.hz 0 hne;have a2:=hcond rfl _ (V5 hne);rw [a2] at a1;rw [a1]
    have hrun:(execOp a.eval o).run P c.w= .ok (.value (.slice (if cap=i.toNat then q else q.map (·.add (i.toNat*(U e).sz))) (j.toNat - i.toNat) (cap - i.toNat))) c.w:=by
     simp [execOp,ho,hu,Instr.sliceAt,Instr.slice,run_underlying hd,hb,bC hU hz]
    by_cases hnn:lo.isSome=false∧hi.isSome=false
    ·obtain ⟨hn1,hn2⟩:=hnn
     have hi0:i=0:=by rcases hlo with ⟨rfl,h⟩|⟨q,kk,rfl,_⟩; exact h; cases hn1
     have hj0:j=xs.length:=by rcases hhi with ⟨rfl,h⟩|⟨q,kk,rfl,_⟩; exact h; cases hn2
     subst hi0; subst hj0
     refine ⟨_,hrun, ?_⟩;have e3:AB xs p false false=p:=by cases xs<;>cases p<;>rfl
     simp only [hn1,hn2,nR,e3];have e2:(if cap=(0:Int).toNat then q else q.map (·.add ((0:Int).toNat*(U e).sz)))=q:=by
      split
      ·rfl
      ·cases q<;>simp [Addr.add]
     rw [e2];simpa using hs.rep
    ·refine ⟨_,hrun, ?_⟩
     rw [e1];refine hs.cut i.toNat j.toNat cap (by omega) (by omega) (by omega) (Nat.le_refl _) _ ?_ _ hss
     by_cases hE:xs= []∧p= .full
     ·obtain ⟨hx,hp⟩:=hE
      have hcp:cap=0:=by
       have:=hs.hp;rw [hp] at this;have:cap=xs.length:=this;rw [this,hx]; rfl
      have hl0:xs.length=0:=by rw [hx]; rfl
      refine .inr ⟨by rw [hx,hp]; rfl,by omega⟩
     have e4:AB xs p lo.isSome hi.isSome=LZ p lo.isSome hi.isSome:=by
      cases xs with
      |nil=>cases p with
       |full=>exact (hE ⟨rfl,rfl⟩).elim
       |no=>rfl
       |own id=>rfl
      |cons=>rfl
     rw [e4];cases h5:lo.isSome<;>cases h6:hi.isSome<;>simp only [LZ]
     ·exact (hnn ⟨h5,h6⟩).elim
     ·exact .inl trivial
     ·have hj0:j=xs.length:=by rcases hhi with ⟨rfl,h⟩|⟨q,kk,rfl,_⟩; exact h; cases h6
      cases p with
      |full=>
       have:cap=xs.length:=hs.hp;exact .inr ⟨rfl,by omega⟩
      |no=>exact .inl rfl
      |own id=>exact .inl rfl
     ·exact .inl trivial
   ·rename_i mm
    obtain ⟨hhs,hk⟩:=hk;obtain ⟨i,hk1,hlo⟩:=dW hk;obtain ⟨j,hk2,hhi⟩:=dW hk1;obtain ⟨m3,hk3,hmx⟩:=dW hk2;obtain ⟨h0,h1,rfl,h3,hk4⟩:=hk3;refine ⟨_,hk4, .stay fun c a m hc g he=> ?_⟩
    obtain ⟨q,cap,sz,val,hu,hs⟩:=(aE he hA).ia;have hcap:=hs.hc;obtain ⟨qh,kh,rfl,hqh⟩:∃q kk,hi=some q∧ev ρ q=some (.v (.int kk j)):=by
     rcases hhi with ⟨rfl,_⟩|h
     ·cases hhs
     ·exact h
    obtain ⟨qm,km,hqm',hqm⟩:∃q kk,some mm=some q∧ev ρ q=some (.v (.int kk j)):=by
     rcases hmx with ⟨e,_⟩|h
     ·cases e
     ·exact h
    cases hqm';have hb:=ug (P:=P) (s:=true) (len:=xs.length) (cap:=cap) (kh:=kh) (km:=km) (jQ he hlo) h0 h1 (Int.le_refl j) (by omega) c.w
    have e1:nR xs i j lo.isSome true=(xs.drop i.toNat).take (j.toNat - i.toNat):=zA xs i j _ _
     (fun e=>by rcases hlo with ⟨rfl,h⟩|⟨q,kk,rfl,_⟩; exact h; cases e) (fun e=>by cases e) h0
    have hss:i.toNat*(U e).sz=i.toNat*sz:=by
     rcases hlo with ⟨rfl,h⟩|⟨q',kk,rfl,_⟩
     ·subst h; simp
     ·by_cases hx:xs= []
      ·subst hx
       have:i.toNat=0:=by simp at h3; omega
       simp [this]
      ·have hne:0<xs.length:=List.length_pos_iff.2 hx
       have a1:=hs.hz 0 hne;have a2:=hcond rfl _ (V5 hne);rw [a2] at a1;rw [a1]
    rw [e1];refine ⟨_, ?_,hs.cut i.toNat j.toNat j.toNat (by omega) (by omega) (Nat.le_refl _) (by omega) .full (.inr ⟨rfl,rfl⟩) _ hss⟩
    simp [execOp,ho,hu,Instr.sliceAt,Instr.slice,run_underlying hd,(aE he hqh).bS,(aE he hqm).bS,hb,bC hU hz]
  ·exact hk.elim
 ·rename_i id off len
  split at hk
  ·rename_i e hty
   rw [hty] at hd;obtain ⟨hz,h1z,rfl,hk⟩:=hk;obtain ⟨i,hk1,hlo⟩:=dW hk;obtain ⟨j,hk2,hhi⟩:=dW hk1;obtain ⟨h0,h1,h2,hk3⟩:=hk2;refine ⟨_,hk3, .stay fun c a m hc g he=> ?_⟩
   obtain ⟨cap,o',hu,hc1,hc2,ho',cs,t,hcs,hcp⟩:=(aE he hA).mZ;have hb:=nv (P:=P) (s:=true) (cap:=cap) (jQ he hlo) (jQ he hhi) h0 h1 (by omega) c.w
   refine ⟨.slice (some ⟨(c.φ id).block,if cap=i.toNat then o' else o' +i.toNat*(U e).sz,none⟩) (j.toNat - i.toNat) (cap - i.toNat), ?_, .oa _ _ _ _ _ cs t hcs (by omega) (by omega) (fun hne=> ?_)⟩
   ·simp [execOp,ho,hu,Instr.sliceAt,Instr.slice,run_underlying hd,hb,bC hU hz,cA]
    split<;>rfl
   ·obtain ⟨e1,e2⟩:=hcp (by omega)
    rw [if_neg (by omega),e1]
    refine ⟨rfl, ?_⟩;rcases hlo with ⟨_,rfl⟩|⟨q,kk,rfl,_⟩
    ·simpa using e2
    ·rw [h1z rfl]; omega
  ·exact hk.elim
 ·rename_i id off len cap sz
  split at hk
  ·rename_i e hty
   rw [hty] at hd;obtain ⟨hz,rfl,hk⟩:=hk;split at hk
   ·obtain ⟨i,hk1,hlo⟩:=dW hk
    obtain ⟨j,hk2,hhi⟩:=dW hk1;obtain ⟨h0,h1,h2,hk3⟩:=hk2;refine ⟨_,hk3, .stay fun c a m hc g he=> ?_⟩
    obtain ⟨o',hu,hc1,hc2,cs,t,hcs,hcp⟩:=(aE he hA).iK;have hb:=nv (P:=P) (s:=true) (cap:=cap) (jQ he hlo) (jQ he hhi) h0 h1 (by omega) c.w
    refine ⟨.slice (some ⟨(c.φ id).block,if cap=i.toNat then o' else o' +i.toNat*(U e).sz,none⟩) (j.toNat - i.toNat) (cap - i.toNat), ?_, .ob _ _ _ _ _ _ cs t hcs (by omega) (by omega) (fun hne=> ?_)⟩
    ·simp [execOp,ho,hu,Instr.sliceAt,Instr.slice,run_underlying hd,hb,bC hU hz,cA]
     split<;>rfl
    ·obtain ⟨e1,e2⟩:=hcp (by omega)
     rw [if_neg (by omega),e1]
     refine ⟨rfl, ?_⟩;have:cap*(U e).sz=i.toNat*(U e).sz+(cap - i.toNat)*(U e).sz:=by rw [←Nat.add_mul]; congr 1; omega
     omega
   ·rename_i mm
    obtain ⟨hhs,hk⟩:=hk;obtain ⟨i,hk1,hlo⟩:=dW hk;obtain ⟨j,hk2,hhi⟩:=dW hk1;obtain ⟨m3,hk3,hmx⟩:=dW hk2;obtain ⟨h0,h1,h2,h3,hk4⟩:=hk3;refine ⟨_,hk4, .stay fun c a m hc g he=> ?_⟩
    obtain ⟨o',hu,hc1,hc2,cs,t,hcs,hcp⟩:=(aE he hA).iK;obtain ⟨qh,kh,rfl,hqh⟩:∃q kk,hi=some q∧ev ρ q=some (.v (.int kk j)):=by
     rcases hhi with ⟨rfl,_⟩|h
     ·cases hhs
     ·exact h
    obtain ⟨qm,km,hqm',hqm⟩:∃q kk,some mm=some q∧ev ρ q=some (.v (.int kk m3)):=by
     rcases hmx with ⟨e,_⟩|h
     ·cases e
     ·exact h
    cases hqm';have hb:=ug (P:=P) (s:=true) (len:=len) (cap:=cap) (kh:=kh) (km:=km) (jQ he hlo) h0 h1 h2 (by omega) c.w
    refine ⟨.slice (some ⟨(c.φ id).block,if m3.toNat=i.toNat then o' else o' +i.toNat*(U e).sz,none⟩) (j.toNat - i.toNat) (m3.toNat - i.toNat), ?_, .ob _ _ _ _ _ _ cs t hcs (by omega) (by omega) (fun hne=> ?_)⟩
    ·simp [execOp,ho,hu,Instr.sliceAt,Instr.slice,run_underlying hd,(aE he hqh).bS,(aE he hqm).bS,hb,bC hU hz,cA]
     split<;>rfl
    ·obtain ⟨e1,e2⟩:=hcp (by omega)
     rw [if_neg (by omega),e1]
     refine ⟨rfl, ?_⟩;have:i.toNat*(U e).sz+(m3.toNat - i.toNat)*(U e).sz≤cap*(U e).sz:=by rw [←Nat.add_mul]; exact Nat.mul_le_mul_right _ (by omega)
     omega
  ·exact hk.elim
 ·exact hk.elim
end
section
variable {P : Program} {U : TypeId → TI} {ρ : Env} {h : Heap} {k : AV → Prop} {o : Oper}
theorem rC (hU:∀t,aN P U t) {kt:TypeId} {b:AV} (hb:fZ (U kt).k b):Maps.Keyed P kt∧∃l,keyOf P kt (gU b)=some l:=by
 have hd:=(hU kt).desc;unfold fZ at hb;split at hb
 ·rename_i l hk
  rw [hk] at hd;exact ⟨Maps.string_keyed hd,_,WideMaps.keyOf_string_mk hd (s:=⟨l.toArray⟩) (by show l.toArray.size≤_; simpa using hb)⟩
 ·rename_i q q' n hk
  rw [hk] at hd;obtain ⟨rfl,hw⟩:=hb;exact ⟨Maps.int_keyed hd,_,Maps.keyOf_int_mk hd hw⟩
 ·exact hb.elim
theorem Be {tk:TK} {b:AV} (hb:fZ tk b) {c:Cx} {u:Value} (hr:Rep c b u):u=gU b:=by
 unfold fZ at hb;split at hb
 ·exact hr.l6.1
 ·exact hr.bS
 ·exact hb.elim
theorem oI {tk:TK} {a b:AV} (ha:fZ tk a) (hb:fZ tk b):pW a b=true↔gU a=gU b:=by
 unfold fZ at ha hb;split at ha
 ·rename_i l
  split at hb
  ·rename_i l' _
   simp only [pW,gU,beq_iff_eq];constructor
   ·rintro rfl; rfl
   ·intro h
    have:=congrArg (fun v:Value=>match v with| .string s=>s.data.toList|_=> []) h
    simpa using this
  ·exact absurd (by assumption:TK.str=TK.int _) (by simp)
  ·exact hb.elim
 ·rename_i q q' n
  split at hb
  ·exact absurd (by assumption:TK.int _=TK.str) (by simp)
  ·rename_i q2 q2' n2 heq
   cases heq;obtain ⟨rfl,_⟩:=ha;obtain ⟨rfl,_⟩:=hb;simp only [pW,gU,beq_iff_eq];constructor
   ·rintro rfl; rfl
   ·intro h; cases h; rfl
  ·exact hb.elim
 ·exact ha.elim
theorem getM_none {tk:TK} {m:List (AV×AV)} {b:AV} (hb:fZ tk b) (hm:∀p∈m,fZ tk p.1) (hn:∀p∈m,gU p.1≠gU b):getM m b=none:=by
 unfold getM;rw [Option.map_eq_none_iff,List.find?_eq_none];intro p hp h;exact hn p hp ((oI (hm p hp) hb).1 h)
theorem zG {tk:TK} {b:AV} (hb:fZ tk b):∀ {m:List (AV×AV)},(∀p∈m,fZ tk p.1)→m.Pairwise (fun p q=>gU p.1≠gU q.1)→∀(j:Nat) (hj:j<m.length),gU m[j].1=gU b→getM m b=some m[j].2
 |p::m,hm,hd,0,hj,he=>by
  have:pW p.1 b=true:=(oI (hm p (by simp)) hb).2 he
  simp [getM,this]
 |p::m,hm,hd,j+1,hj,he=>by
  have hd' :=List.pairwise_cons.1 hd;have hj' :j<m.length:=by simpa using hj
  have he' :gU m[j].1=gU b:=he;have hne:pW p.1 b=false:=by
   cases h:pW p.1 b with
   |false=>rfl
   |true=>
    have h1:=(oI (hm p (by simp)) hb).1 h
    exact (hd'.1 m[j] (V5 hj') (h1.trans he'.symm)).elim
  have ih:=zG hb (fun q hq=>hm q (by simp [hq])) hd'.2 j hj' he'
  simp only [getM,List.find?_cons,hne,List.getElem_cons_succ] at ih⊢;exact ih
theorem AT (hU:∀t,aN P U t) {kt:TypeId} {b:AV} (hb:fZ (U kt).k b) {m:List (AV×AV)} (hm:∀p∈m,fZ (U kt).k p.1) {es:Array MapEntry} (hs:es.size=m.length)
  (hk:∀i (h:i<m.length) (h' :i<es.size),es[i].key=gU m[i].1) (w:World):
  ((Instr.findKey kt (gU b) es.toList).run P w= .ok none w∧∀p∈m,gU p.1≠gU b)∨∃(j:Nat) (hj:j<m.length) (hj' :j<es.size),(Instr.findKey kt (gU b) es.toList).run P w= .ok (some (j,es[j].val)) w∧gU m[j].1=gU b:=by
 obtain ⟨K,l,hl⟩:=rC hU hb;have hes:∀e∈es.toList,∃l,keyOf P kt e.key=some l:=fun e he=>by
  obtain ⟨i,hi,rfl⟩:=List.mem_iff_getElem.1 he;have hi' :i<es.size:=by simpa using hi
  have:=hk i (by omega) hi'
  simp only [Array.getElem_toList];rw [this];exact (rC hU (hm _ (V5 _))).2
 rcases K.find w hl es.toList hes with ⟨h1,h2⟩|⟨j,e,h1,h2,h3⟩
 ·refine .inl ⟨h1,fun p hp=> ?_⟩
  obtain ⟨i,hi,rfl⟩:=List.mem_iff_getElem.1 hp;have hi' :i<es.size:=by omega
  rw [←hk i hi hi'];exact h2 es[i] (by simp)
 ·have hj' :j<es.size:=by
   have:=(List.getElem?_eq_some_iff.1 h2).1;simpa using this
  have he:es[j]=e:=by
   have:=(List.getElem?_eq_some_iff.1 h2).2;simpa using this
  refine .inr ⟨j,by omega,hj',by rw [he]; exact h1, ?_⟩
  rw [←hk j (by omega) hj',he]
  exact h3
theorem Gq (hU:∀t,aN P U t) {e:TypeId} (hz:(U e).sz≠0∨(U e).k= .strct []) (w:World):∃z,(zeroValue e).run P w= .ok z w∧∀c,Rep c (zh U e) z:=by
 by_cases h0:(U e).sz=0
 ·obtain ⟨i,h1,h2,_⟩:=(hU e).unit (hz.resolve_left (by simpa using h0))
  refine ⟨.agg #[],by simp [zeroValue,typeInfo,h1,h2],fun c=> ?_⟩
  simp only [zh,h0,if_true];exact .agg [] #[] rfl (fun i hi=>by cases hi) (fun i hi=>by cases hi)
 ·obtain ⟨i,h1,_,_,z,h2,_,h3⟩:=(hU e).info h0
  refine ⟨z,by simp [zeroValue,typeInfo,h1,h2],fun c=> ?_⟩
  simp only [zh,h0,if_false];exact h3 c
theorem zZ (hU:∀t,aN P U t) {mt:TypeId} {x y:Operand} {ok:Bool} (ho:o.op= .lookup mt x y ok) (hp:pv U ρ h (.lookup mt x y ok) k):∃X,k X∧cV P o ρ h X:=by
 simp only [pv] at hp;obtain ⟨A,hA,hp⟩:=aI hp;obtain ⟨b,hB,hp⟩:=aI hp;have hd:=(hU mt).desc;split at hp
 ·rename_i kt e id hty hp'
  clear hp';rw [hty] at hd;obtain ⟨hb,hz,hp⟩:=hp;split at hp
  ·rename_i m hid
   obtain ⟨hm,hk⟩:=hp;refine ⟨_,hk,fun c a n hs g he=> ?_⟩
   have hcid:=hs _ _ hid;obtain ⟨hu,_⟩:=(aE he hA).C5;have hv:=Be hb (aE he hB);obtain ⟨es,cl,e1,e2,e3⟩:=g.mp id m hcid;obtain ⟨K,l,hl⟩:=rC hU hb;obtain ⟨z,hz1,hz2⟩:=Gq hU hz c.w;have hchk:=K.check c.w es.isEmpty hl;have hg:=g.keys id m hcid;rcases AT hU hb hm e2 (fun i h1 h2=>(e3 i h1 h2).1) c.w with ⟨f1,f2⟩|⟨j,hj,hj',f1,f2⟩
   ·have hget:=getM_none hb hm f2
    refine ⟨if ok then .tuple #[z, .bool false] else z,c, ?_,g, .refl c,rfl, ?_⟩
    ·simp [execOp,ho,hu,hv,Instr.lookup,run_underlying hd,MapKept.run_getObj_map e1,hchk,f1,hz1]
     try rfl
    ·simp only [v8,hget]
     cases ok with
     |false=>exact hz2 c
     |true=>
      refine .tup _ _ rfl fun i hi=> ?_
      have:i=0∨i=1:=by simp at hi; omega
      rcases this with rfl|rfl
      ·exact hz2 c
      ·exact .v _
   ·have hget:=zG hb hm hg j hj f2
    refine ⟨if ok then .tuple #[es[j].val, .bool true] else es[j].val,c, ?_,g, .refl c,rfl, ?_⟩
    ·simp [execOp,ho,hu,hv,Instr.lookup,run_underlying hd,MapKept.run_getObj_map e1,hchk,f1]
     try rfl
    ·simp only [v8,hget]
     cases ok with
     |false=>exact (e3 j hj hj').2
     |true=>
      refine .tup _ _ rfl fun i hi=> ?_
      have:i=0∨i=1:=by simp at hi; omega
      rcases this with rfl|rfl
      ·exact (e3 j hj hj').2
      ·exact .v _
  ·exact hp.elim
 ·exact hp.elim
end
section
variable {P : Program} {U : TypeId → TI} {ρ : Env} {h : Heap} {k : AV → Prop} {o : Oper}
theorem xA {c:Cx} (g:Good c) (o:Obj) (x:Nat):¬owned {c with w:=c.w.alloc o} c.w.heap.size x:=by
 rintro ⟨id,k,h1,h2,_⟩
 have:=g.lt h1;simp only at h2;omega
theorem Lj {c:Cx} (g:Good c) (t:TypeId) (fr:Nat×Nat) (vs:Array Value) (xs:List AV) (sz cap:Nat) (val:Nat→Nat→Value) (hc:xs.length≤cap) (hm:cap<lim)
  (hz:∀i (h:i<xs.length),xs[i].cells.length=sz) (hv:∀i j,i<xs.length→j<sz→vs[i*sz+j]? =some (val i j))
  (hr:∀i (h:i<xs.length) j (h' :j<xs[i].cells.length),Rep c xs[i].cells[j] (val i j)) (ho:∀i j,i<xs.length→j<sz→(val i j).oneCell' =true)
  (p:Perm) (hp:p= .no∨p= .full∧cap=xs.length):
  Rep {c with w:=c.w.alloc (.cells vs t fr)} (.sl xs p) (.slice (some ⟨c.w.heap.size,0,none⟩) xs.length cap):=by
 refine .sl xs p _ cap sz val hc hm (fun e=>by cases e) (fun q hq _=>by cases hq; exact ⟨rfl,by simp⟩) hz (fun q hq i j hi hj=> ?_) (fun i hi j hj=>(hr i hi j hj).mono (.alloc c _)) ho ?_
 ·cases hq
  refine ⟨?_,xA g _ _⟩;rw [Nat.zero_add];exact (World.cell?_alloc_mark _ _ _ _ _).trans (hv i j hi hj)
 ·rcases hp with rfl|⟨rfl,rfl⟩
  ·trivial
  ·rfl
theorem vl (w:World) (n old:Nat) (e:TypeId) (h:n<lim):n≤grownCap w n old e∧grownCap w n old e<lim:=by
 unfold grownCap;simp only [Question.cut,lim] at*;have:w.tape w.drawn (.appendCap n old e) % (2 ^ 63 - n)<2 ^ 63 - n:=Nat.mod_lt _ (by omega)
 omega
theorem xI {src dst:TypeId} {x:Operand} (hU:∀t,aN P U t) (ho:o.op= .convert src dst x) (hp:pv U ρ h (.convert src dst x) k):∃X,k X∧cV P o ρ h X:=by
 obtain ⟨A,hA,hk⟩:=aI hp;have hd:=(hU dst).desc;have hs:=(hU src).desc;split at hk
 ·rename_i k1 kk k2 n h1 h2
  rw [h1] at hs; rw [h2] at hd
  refine ⟨_,hk, .stay fun c a m hc g he=>⟨_, ?_, .v _⟩⟩
  simp [execOp,ho,(aE he hA).bS,convert,run_underlying hs,run_underlying hd,Conv.intToInt]
 ·rename_i l h1 h2
  rw [h1] at hs; rw [h2] at hd
  refine ⟨_,hk, .stay fun c a m hc g he=>⟨_, ?_,aE he hA⟩⟩
  simp [execOp,ho,(aE he hA).l6.1,convert,run_underlying hs,run_underlying hd]
 ·rename_i e xs p h1 h2
  rw [h1] at hs; rw [h2] at hd
  split at hk
  ·rename_i h3
   have hE:=(hU e).desc;rw [h3] at hE;obtain ⟨l,rfl,hk⟩:=hk;refine ⟨_,hk, .stay fun c a m hc g he=> ?_⟩
   obtain ⟨q,cap,sz,val,hu,hs'⟩:=(aE he hA).ia;have hlen:(l.map ct).length=l.length:=by simp
   have hl:l.length<lim:=by have:=hs'.hc; have:=hs'.hm; simp only [lim] at*; omega
   cases q with
   |none=>
    have h5:=hs'.h0 rfl;have h6:=hs'.hc;have:l= []:=by
     cases l with
     |nil=>rfl
     |cons b r=>simp at h6; omega
    subst this;refine ⟨.string ⟨#[]⟩, ?_, .s [] hl⟩;simp [execOp,ho,hu,convert,run_underlying hs,run_underlying hd,run_underlying hE,Conv.bytesToString];rfl
   |some q=>
    refine ⟨.string ⟨l.toArray⟩, ?_, .s l hl⟩;have hrun:=run_convert_bytes_back (P:=P) c.w src dst e q cap l hs hE hd (fun j hj=>by
     have hj' :j<(l.map ct).length:=by simpa using hj
     have hz:=hs'.hz j hj';simp only [V1,ct,AV.cells,List.length_singleton] at hz;have hf:=hs'.hf q rfl j 0 hj' (by omega)
     have hr:=hs'.hr j hj' 0 (by simp [ct,AV.cells])
     simp only [V1,ct,AV.cells,List.getElem_singleton] at hr;rw [hr.bS] at hf;obtain ⟨bq,oq,sq⟩:=q;have hsp:=(hs'.hs _ rfl (by have:=hs'.hc; omega)).1
     simp only at hsp; subst hsp
     rw [cA];have:=hf.1
     rwa [←hz,Nat.mul_one,Nat.add_zero] at this)
    rw [hlen] at hu;simp [execOp,ho,hu,hrun]
  ·exact hk.elim
 ·rename_i e l h1 h2
  rw [h1] at hs; rw [h2] at hd
  split at hk
  ·rename_i h3
   have hE:=(hU e).desc;rw [h3] at hE;refine ⟨_,hk,fun c a m hc g he=> ?_⟩
   obtain ⟨hu,hl⟩:=(aE he hA).l6;have hrun:=run_bytes_of_string (P:=P) c.w src dst e ⟨l.toArray⟩ hs hd hE;have hsz:(⟨l.toArray⟩:ByteArray).size=l.length:=rfl;rw [hsz] at hrun;obtain ⟨hcap1,hcap2⟩:=vl c.w l.length 0 e hl;generalize hcp:grownCap c.w l.length 0 e=cap at hrun hcap1 hcap2;have g1:Good {c with w:=c.w.drew}:=g.draw rfl rfl rfl rfl
   have e1:Ext c {c with w:=c.w.drew}:=Ext.draw rfl rfl rfl rfl
   refine ⟨_,{c with w:=c.w.drew.alloc (.cells (bytesRow ⟨l.toArray⟩ cap) e ((bytesRow ⟨l.toArray⟩ cap).size,(bytesRow ⟨l.toArray⟩ cap).size+1))},by simp [execOp,ho,hu,hrun]; rfl,
    g1.alloc _,e1.trans (Ext.alloc _ _),rfl, ?_⟩
   have:=Lj g1 e ((bytesRow ⟨l.toArray⟩ cap).size,(bytesRow ⟨l.toArray⟩ cap).size+1) (bytesRow ⟨l.toArray⟩ cap) (l.map ct) 1 cap (fun i _=> .int .u8 ((l.getD i 0).toNat:Int)) (by simpa using hcap1) hcap2
    (fun i hi=>by simp [ct,AV.cells]) (fun i j hi hj=>by
     have hi' :i<l.length:=by simpa using hi
     have ej:j=0:=by omega
     subst ej;have:=bytesRow_at ⟨l.toArray⟩ cap i (by simpa using hi')
     simpa [hi'] using this) (fun i hi j hj=>by
     have hi' :i<l.length:=by simpa using hi
     simp only [V1,ct,AV.cells,List.length_singleton] at hj;have ej:j=0:=by omega
     subst ej;simp only [V1,ct,AV.cells,List.getElem_singleton];rw [show l.getD i 0=l[i] by simp [hi']]
     exact .v _) (fun i j _ _=>rfl) .no (.inl rfl)
   simpa using this
  ·exact hk.elim
 ·rename_i k1 kk kf x y h1 h2
  rw [h1] at hs; rw [h2] at hd
  obtain ⟨rfl,hk⟩:=hk;refine ⟨_,hk, .stay fun c a m hc g he=>⟨_, ?_, .v _⟩⟩
  simp [execOp,ho,(aE he hA).bS,convert,run_underlying hs,run_underlying hd,Conv.complexToComplex,Conv.floatToFloat]
 ·exact hk.elim
theorem D1 (off:Nat):∀(l:List Value) (k:Nat) (cells:Array Value),
  let r:=(l.zipIdx k).foldl (fun cs (x:Value×Nat)=>cs.setIfInBounds (off+x.2) x.1) cells
  r.size=cells.size∧(∀j,j<l.length→off+k+j<cells.size→r.getD (off+k+j) undef=l.getD j undef)∧
   ∀x,(x<off+k∨off+k+l.length≤x)→r.getD x undef=cells.getD x undef
 | [],k,cells=>by
  refine ⟨rfl,fun j hj=> ?_,fun _ _=>rfl⟩
  simp at hj
 |v::l,k,cells=>by
  obtain ⟨h1,h2,h3⟩:=D1 off l (k+1) (cells.setIfInBounds (off+k) v);simp only [List.zipIdx_cons,List.foldl_cons] at*;refine ⟨by rw [h1]; simp,fun j hj hb=> ?_,fun x hx=> ?_⟩
  ·cases j with
   |zero=>
    rw [h3 _ (.inl (by omega))]
    have:off+k<cells.size:=by omega
    simp [this]
   |succ j=>
    have:=h2 j (by simpa using hj) (by simp; omega)
    rw [show off+k+(j+1)=off+(k+1)+j by omega,this]
    simp
  ·rw [h3 x (by simp at hx; omega)]
   have:off+k≠x:=by simp at hx; omega
   simp [Array.getElem?_setIfInBounds_ne this]
theorem yf {place:Nat→Option (Nat×Nat)} {cells:Array Value} {i off size:Nat} {v:Value} {rest:List (Nat×Value)} (hp:place i=some (off,size)) (hv:v.cells.size=size) (hb:off+size≤cells.size):
  ∃r:Array Value,Instr.fill place cells ((i,v)::rest)=Instr.fill place r rest∧r.size=cells.size∧(∀j,j<size→r.getD (off+j) undef=v.cells.getD j undef)∧
   ∀x,(x<off∨off+size≤x)→r.getD x undef=cells.getD x undef:=by
 obtain ⟨h1,h2,h3⟩:=D1 off v.cells.toList 0 cells;refine ⟨v.cells.zipIdx.foldl (fun cs (c,j)=>cs.setIfInBounds (off+j) c) cells, ?_, ?_, ?_, ?_⟩
 ·simp only [Instr.fill,hp]
  rw [if_neg (by simp [hv]; omega)]
 ·rw [←Array.foldl_toList,Array.toList_zipIdx]; exact h1
 ·intro j hj
  rw [←Array.foldl_toList,Array.toList_zipIdx];have:=h2 j (by simp; omega) (by omega)
  simp only [Nat.add_zero] at this;rw [this];simp [List.getD]
 ·intro x hx
  rw [←Array.foldl_toList,Array.toList_zipIdx];exact h3 x (by simp; omega)
theorem AS (size:Nat):∀(vs:List Value) (s:Nat) (cells:Array Value),(∀v∈vs,v.cells.size=size)→(s+vs.length)*size≤cells.size→
  ∃r:Array Value,Instr.fill (fun i=>some (i*size,size)) cells ((List.range' s vs.length).zip vs)=some r∧r.size=cells.size∧
   (∀i (h:i<vs.length) j,j<size→r.getD ((s+i)*size+j) undef=vs[i].cells.getD j undef)∧∀x,x<s*size→r.getD x undef=cells.getD x undef
 | [],s,cells,_,_=>⟨cells,by simp [Instr.fill],rfl,fun i h=>(by cases h),fun _ _=>rfl⟩
 |v::vs,s,cells,hv,hb=>by
  have e1:(s+(v::vs).length)*size=s*size+size+vs.length*size:=by
   simp only [List.length_cons,Nat.add_mul,Nat.one_mul]; omega
  obtain ⟨r1,h1,h2,h3,h4⟩:=yf (place:=fun i=>some (i*size,size)) (cells:=cells) (i:=s) (v:=v) (rest:=(List.range' (s+1) vs.length).zip vs) rfl (hv v (by simp)) (by omega)
  obtain ⟨r,h5,h6,h7,h8⟩:=AS size vs (s+1) r1 (fun u hu=>hv u (by simp [hu])) (by rw [h2,Nat.add_mul,Nat.add_mul,Nat.one_mul]; omega)
  refine ⟨r, ?_,by omega,fun i hi j hj=> ?_,fun x hx=> ?_⟩
  ·simp only [List.length_cons,List.range'_succ,List.zip_cons_cons]
   rw [h1,h5]
  ·cases i with
   |zero=>
    rw [Nat.add_zero,h8 _ (by rw [Nat.add_mul,Nat.one_mul]; omega)]
    exact h3 j hj
   |succ i=>
    have:=h7 i (by simpa using hi) j hj
    rw [show s+(i+1)=s+1+i by omega,this]
    simp
  ·rw [h8 x (by rw [Nat.add_mul,Nat.one_mul]; omega)]
   exact h4 x (.inl hx)
theorem Rep.fits {c:Cx} {x:AV} {u:Value} {n:Nat} (h:Rep c x u) (hf:fit x n):u.cells.size=n∧x.cells.length=n∧(∀j (hj:j<x.cells.length),Rep c x.cells[j] (u.cells.getD j undef))∧
  ∀j,j<n→(u.cells.getD j undef).oneCell' =true:=by
 have one:n=1→x.cells= [x]→u.oneCell' =true→u.cells.size=n∧x.cells.length=n∧(∀j (hj:j<x.cells.length),Rep c x.cells[j] (u.cells.getD j undef))∧
  ∀j,j<n→(u.cells.getD j undef).oneCell' =true:=by
  rintro rfl h1 h2
  have e:u.cells= #[u]:=by cases u<;>simp [Value.oneCell'] at h2<;>rfl
  refine ⟨by rw [e]; rfl,by rw [h1]; rfl,fun j hj=> ?_,fun j hj=> ?_⟩
  ·have ej:j=0:=by rw [h1] at hj; simp only [List.length_singleton] at hj; omega
   subst ej;simpa [h1,e] using h
  ·have ej:j=0:=by omega
   subst ej;simpa [e] using h2
 cases x with
 |agg cs=>
  obtain ⟨vs,rfl,hn,hr,ho⟩:=h.mO;have hl:cs.length=n:=hf;exact ⟨hn.trans hl,hl,hr,fun j hj=>ho j (by omega)⟩
 |v x=>obtain ⟨h1,h2⟩:=hf; exact one h2 rfl (by rw [h.bS]; exact h1)
 |s l=>exact one hf rfl (by rw [h.l6.1]; rfl)
 |tup vs=>exact hf.elim
 |sl xs p=>obtain ⟨a,cap,sz,val,hu,_⟩:=h.ia; exact one hf rfl (by rw [hu]; rfl)
 |pe y off=>obtain ⟨b,p,val,hu,_⟩:=h.sU; exact one hf rfl (by rw [hu]; rfl)
 |ptr id off=>exact one hf rfl (by rw [h.jR.1]; rfl)
 |oa id off len=>obtain ⟨cap,p,hu,_⟩:=h.mZ; exact one hf rfl (by rw [hu]; rfl)
 |ob id off len cap sz=>obtain ⟨p,hu,_⟩:=h.iK; exact one hf rfl (by rw [hu]; rfl)
 |ifc t y=>exact one hf rfl (by cases h; rfl)
 |mp id=>exact one hf rfl (by cases h; rfl)
 |fn f cap=>obtain ⟨vs,hu,_⟩:=h.CM; exact one hf rfl (by rw [hu]; rfl)
theorem ov {n:Nat}:∀ {xs:List AV},fits n xs→∀i (h:i<xs.length),fit xs[i] n
 |y::r,h,0,_=>h.1
 |y::r,h,i+1,hi=>ov h.2 i (by simpa using hi)
theorem sZ {ty:TypeId} {len:Nat} {parts:Array (Nat×Operand)} (hU:∀t,aN P U t) (ho:o.op= .buildSlice ty len parts) (hp:pv U ρ h (.buildSlice ty len parts) k):∃X,k X∧cV P o ρ h X:=by
 simp only [pv] at hp;have hd:=(hU ty).desc;split at hp
 ·rename_i e hty
  rw [hty] at hd;obtain ⟨hz,hle,hidx,hp⟩:=hp;obtain ⟨xs,hxs,hft,hk⟩:=eS hp;refine ⟨_,hk,fun c a m hc g he=> ?_⟩
  obtain ⟨hl1,hl2⟩:=uL he _ _ hxs;obtain ⟨i,hi1,hi2,_,z,hz1,hz2,_⟩:=(hU e).info hz;have hplen:parts.toList.length=len:=by have:=congrArg List.length hidx; simpa using this
  have hxlen:xs.length=len:=by rw [←hl1]; simpa using hplen
  let vs:List Value:=parts.toList.map (fun p=>a.eval p.2)
  have hvlen:vs.length=len:=by simp [vs]; simpa using hplen
  have hv:∀i (h1:i<xs.length) (h2:i<vs.length),Rep c xs[i] vs[i]:=fun i h1 h2=>by
   have:=hl2 i (by simp; simpa [vs] using h2) h1
   simpa [vs] using this
  have hvs:∀v∈vs,v.cells.size=(U e).sz:=fun v hv' =>by
   obtain ⟨i,hi,rfl⟩:=List.mem_iff_getElem.1 hv';exact ((hv i (by omega) hi).fits (ov hft i (by omega))).1
  obtain ⟨r,h1,h2,h3,_⟩:=AS (U e).sz vs 0 ((Array.range (len*(U e).sz)).map (fun j=>(if len*(U e).sz=0 then #[] else z.cells)[j % (if len*(U e).sz=0 then #[] else z.cells).size]!)) hvs (by simp [hvlen])
  have hparts:(parts.map fun (i,x)=>(i,a.eval x)).toList=(List.range' 0 vs.length).zip vs:=by
   rw [hvlen,←List.range_eq_range',←hidx];simp only [Array.toList_map,vs];rw [List.zip_map',List.map_eq_map_iff];intro p hp; rfl
  rw [←hparts] at h1;have hrun:(execOp a.eval o).run P c.w= .ok (.value (.slice (some ⟨c.w.heap.size,0,none⟩) len len)) (c.w.alloc (.cells r e)):=by
   by_cases h0:len*(U e).sz=0
   ·simp only [h0,if_true] at h1
    simp [execOp,ho,Instr.buildSlice,run_underlying hd,bC hU hz,h0];simp at h1;simp [h1,newRow]
    try rfl
   ·simp only [h0,if_false] at h1
    have hz0:(zeroValue e).run P c.w= .ok z c.w:=by simp [zeroValue,typeInfo,hi1,hz1]
    have h24:¬(len*(U e).sz>2 ^ 24):=by omega
    simp only [execOp,ho,Instr.buildSlice,Sem.run_bind,run_underlying hd,bC hU hz,Result.andThen_ok,h24,h0,if_false,hz0,Sem.run_pure];rw [h1];simp [newRow]
    try rfl
  refine ⟨_,{c with w:=c.w.alloc (.cells r e)},hrun,g.alloc _,Ext.alloc _ _,rfl, ?_⟩
  have:=Lj g e (0,0) r xs (U e).sz len (fun i j=>r.getD (i*(U e).sz+j) undef) (by omega) (by simp only [lim]; have:len≤len*(U e).sz:=Nat.le_mul_of_pos_right _ (by omega); omega)
   (fun i hi=>by
    have:=(hv i hi (by omega)).fits (ov hft i hi)
    exact this.2.1) (fun i j hi hj=>by
    have hlt:i*(U e).sz+j<r.size:=by
     rw [h2];simp;have:(i+1)*(U e).sz≤len*(U e).sz:=Nat.mul_le_mul_right _ (by omega)
     rw [Nat.add_mul,Nat.one_mul] at this;omega
    simp [hlt]) (fun i hi j hj=>by
    have hf:=(hv i hi (by omega)).fits (ov hft i hi)
    have hj' :j<(U e).sz:=by rw [←hf.2.1]; exact hj
    have:=h3 i (by omega) j hj'
    rw [Nat.zero_add] at this;rw [this];exact hf.2.2.1 j hj) (fun i j hi hj=>by
    have hf:=(hv i hi (by omega)).fits (ov hft i hi)
    have:=h3 i (by omega) j hj
    rw [Nat.zero_add] at this;rw [this];exact hf.2.2.2 j hj) .full (.inr ⟨rfl,hxlen.symm⟩)
  rwa [hxlen] at this
 ·exact hp.elim
theorem wI (hU:∀t,aN P U t) (w:World):∀(l:List Field),(∀f∈l,(U f.type).sz≠0)→
  (l.mapM fun (f:Field)=>do pure (f.offset,←sizeOf f.type)).run P w= .ok (l.map fun f=>(f.offset,(U f.type).sz)) w
 | [],_=>by simp
 |f::l,h=>by
  have ih:=wI hU w l (fun g hg=>h g (by simp [hg]))
  simp only [List.mapM_cons,Sem.run_bind,bC hU (h f (by simp)),Result.andThen_ok,Sem.run_pure,ih,List.map_cons]
theorem uu (hz:∀p∈([]:List (Nat×TypeId)),True) {fs:List (Nat×TypeId)} (n:Nat):∀(ps:List (Nat×Operand)) (cs:List AV) (k:List AV→Prop),withps U ρ fs ps cs k→
  ∃cs',k cs'∧cs'.length=cs.length∧∀c a m,cj c m ρ a→∀cells:Array Value,cells.size=cs.length→(∀i (h:i<cs.length),Rep c cs[i] (cells.getD i undef))→(∀i,i<cs.length→(cells.getD i undef).oneCell' =true)→
   ∃r:Array Value,Instr.fill ((fs.map fun p=>(p.1,(U p.2).sz)).toArray[·]?) cells (ps.map fun p=>(p.1,a.eval p.2))=some r∧r.size=cs'.length∧
    (∀i (h:i<cs'.length),Rep c cs'[i] (r.getD i undef))∧∀i,i<cs'.length→(r.getD i undef).oneCell' =true
 | [],cs,k,hp=>⟨cs,hp,rfl,fun c a m he cells h1 h2 h3=>⟨cells,by simp [Instr.fill],h1,h2,h3⟩⟩
 |(i,x)::ps,cs,k,hp=>by
  simp only [withps] at hp;split at hp
  ·rename_i off t hf
   obtain ⟨hz0,hp⟩:=hp;obtain ⟨y,hy,hfit,hb,hp⟩:=aI hp;obtain ⟨cs',hk,hl,hrest⟩:=uu hz n ps _ k hp;have hyl:y.cells.length=(U t).sz:=by
    cases y with
    |agg cs=>exact hfit
    |v x=>exact hfit.2.symm
    |tup vs=>exact hfit.elim
    |_=>exact (show _=_ from hfit).symm
   have hov:(over cs off y.cells).length=cs.length:=gK (by omega)
   refine ⟨cs',hk,by omega,fun c a m he cells h1 h2 h3=> ?_⟩
   obtain ⟨f1,f2,f3,f4⟩:=(aE he hy).fits hfit;have hpl:((fs.map fun p=>(p.1,(U p.2).sz)).toArray[i]?)=some (off,(U t).sz):=by simp [hf]
   obtain ⟨r1,g1,g2,g3,g4⟩:=yf (place:=((fs.map fun p=>(p.1,(U p.2).sz)).toArray[·]?)) (cells:=cells) (i:=i) (v:=a.eval x) (rest:=ps.map fun p=>(p.1,a.eval p.2)) hpl f1 (by omega)
   have key:∀j (hj:j<cs.length) (hj' :j<(over cs off y.cells).length),Rep c (over cs off y.cells)[j] (r1.getD j undef)∧(r1.getD j undef).oneCell' =true:=fun j hj hj' =>by
    by_cases hin:off≤j∧j<off+y.cells.length
    ·obtain ⟨q,rfl⟩:∃q,j=off+q:=⟨j - off,by omega⟩
     have hq:q<y.cells.length:=by omega
     rw [Ei (by omega) hq,g3 q (by omega)]
     exact ⟨f3 q hq,f4 q (by omega)⟩
    ·rw [BB (by omega) hj (by omega),g4 j (by omega)]
     exact ⟨h2 j hj,h3 j hj⟩
   obtain ⟨r,k1,k2,k3,k4⟩:=hrest c a m he r1 (by omega) (fun j hj=>(key j (by omega) hj).1) (fun j hj=>(key j (by omega) hj).2)
   exact ⟨r,by rw [List.map_cons,g1]; exact k1,k2,k3,k4⟩
  ·exact hp.elim
theorem B1 {ty:TypeId} {parts:Array (Nat×Operand)} (hU:∀t,aN P U t) (ho:o.op= .build ty parts) (hp:pv U ρ h (.build ty parts) k):∃X,k X∧cV P o ρ h X:=by
 simp only [pv] at hp;have hd:=(hU ty).desc
 by_cases hun:isUnit (U ty).k=true
 ·rw [if_pos hun] at hp
  have hty:=sI hun;rw [hty] at hd;obtain ⟨fields,hd,hfs,_⟩:=hd;obtain ⟨i,hi1,hi2,_⟩:=(hU ty).unit hty;have hf0:fields= #[]:=by
   have:fields.toList= []:=by simpa using hfs
   exact Array.toList_inj.1 this
  have hp0:parts= #[]:=Array.toList_inj.1 hp.1;refine ⟨_,hp.2, .stay fun c a m hc g he=>⟨.agg #[], ?_, .agg [] #[] rfl (fun i h=>by cases h) (fun i h=>by cases h)⟩⟩
  have hz4:(zeroValue ty).run P c.w= .ok (.agg #[]) c.w:=by simp [zeroValue,typeInfo,hi1,hi2]
  subst hf0; subst hp0
  simp [execOp,ho,Instr.build,run_underlying hd,hz4,Value.cells,Instr.fill]
 rw [if_neg hun] at hp;split at hp
 ·rename_i fs hty
  rw [hty] at hd;obtain ⟨fields,hd,hfs,hnz⟩:=hd;obtain ⟨hz,cs0,hz0,hp⟩:=hp;obtain ⟨cs,hk,hl,hX⟩:=uu (fun _ _=>trivial) 0 _ _ _ hp
  refine ⟨_,hk, .stay fun c a m hc g he=> ?_⟩
  obtain ⟨i,hi1,hi2,_,z,hz1,hz2,hz3⟩:=(hU ty).info hz;have hzr:=hz3 c;rw [hz0] at hzr;obtain ⟨us,rfl,u1,u2,u3⟩:=hzr.mO;obtain ⟨r,r1,r2,r3,r4⟩:=hX c a m he us u1 u2 u3;refine ⟨.agg r, ?_, .agg _ _ r2 r3 r4⟩;have hz4:(zeroValue ty).run P c.w= .ok (.agg us) c.w:=by simp [zeroValue,typeInfo,hi1,hz1]
  have hpl:=wI (P:=P) hU c.w fields.toList (fun f hf=>by
   have:=hnz (f.offset,f.type) (by rw [←hfs]; exact List.mem_map.2 ⟨f,hf,rfl⟩)
   exact this)
  have he1:(fs.map fun p=>(p.1,(U p.2).sz))=fields.toList.map fun f=>(f.offset,(U f.type).sz):=by
   rw [←hfs,List.map_map]; rfl
  rw [he1] at r1;have he2:(parts.map fun (i,x)=>(i,a.eval x)).toList=parts.toList.map fun p=>(p.1,a.eval p.2):=by simp
  simp only [execOp,ho,Instr.build,Sem.run_bind,run_underlying hd,hz4,Result.andThen_ok,Array.mapM_eq_mapM_toList,Sem.run_map,hpl,Value.cells,he2];rw [r1];simp
 ·exact hp.elim
theorem wL (hU:∀t,aN P U t) (hp:pv U ρ h o.op k):∃X,k X∧cV P o ρ h X:=by
 generalize ho:o.op=op at hp;cases op
 case move x=>exact wY (.inl ho) hp
 case assign x=>exact wY (.inr ho) hp
 case pick c a b=>exact Dt ho hp
 case nilCheck x=>exact wZ ho hp
 case binOp=>exact B0 hU ho hp
 case unOp=>exact Dv ho hp
 case convert=>exact xI hU ho hp
 case field=>exact B2 hU ho hp
 case extract=>exact xJ ho hp
 case index=>exact B3 hU ho hp
 case fieldAddr=>exact uC hU ho hp
 case indexAddr=>exact uD hU ho hp
 case load=>exact Ds hU ho hp
 case slice=>exact B4 hU ho hp
 case lookup=>exact zZ hU ho hp
 case buildSlice=>exact sZ hU ho hp
 case build=>exact B1 hU ho hp
 case makeInterface=>exact pY hU ho hp
 case makeFunc=>exact wX ho hp
 case call c=>
  obtain ⟨callee,args,ts⟩:=c;simp only [pv] at hp;split at hp
  ·rename_i x b
   cases b
   case len=>exact F3 hU ho hp
   case cap=>exact F2 hU ho hp
   case min=>exact F5 ho hp
   case max=>exact F4 ho hp
   case real=>exact Du ho hp
   case imag=>exact Dr ho hp
   case complex=>exact Dq ho hp
   all_goals exact hp.elim
  ·exact hp.elim
 all_goals exact hp.elim
end
section
variable {P : Program} {U : TypeId → TI}
def Sized (n:Nat) (xs:List AV):Prop:=∀z∈xs,z.cells.length=n
structure Row (c:Cx) (ys:List AV) (sz:Nat) (val:Nat→Nat→Value):Prop where
 hz:∀i (h:i<ys.length),ys[i].cells.length=sz
 hr:∀i (h:i<ys.length) j (h' :j<ys[i].cells.length),Rep c ys[i].cells[j] (val i j)
 ho:∀i j,i<ys.length→j<sz→(val i j).oneCell' =true
def bQ (sz n:Nat) (val:Nat→Nat→Value):List Value:=(List.range (n*sz)).map fun q=>val (q / sz) (q % sz)
theorem aQ (sz n:Nat) (val:Nat→Nat→Value):(bQ sz n val).length=n*sz:=by simp [bQ]
theorem gh {sz n:Nat} {val:Nat→Nat→Value} {i j:Nat} (hi:i<n) (hj:j<sz):(bQ sz n val)[i*sz+j]? =some (val i j):=by
 have hlt:i*sz+j<n*sz:=by
  have:(i+1)*sz≤n*sz:=Nat.mul_le_mul_right _ (by omega)
  rw [Nat.add_mul,Nat.one_mul] at this;omega
 have h1:(i*sz+j) / sz=i:=by
  rw [Nat.mul_comm,Nat.mul_add_div (by omega),Nat.div_eq_of_lt hj,Nat.add_zero]
 have h2:(i*sz+j) % sz=j:=by
  rw [Nat.mul_comm,Nat.mul_add_mod,Nat.mod_eq_of_lt hj]
 simp [bQ,hlt,h1,h2]
theorem Fc {c:Cx} {ys:List AV} {sz:Nat} {val:Nat→Nat→Value} (h:Row c ys sz val) (hs:0<sz):∀v∈bQ sz ys.length val,v.oneCell' =true:=by
 intro v hv;simp only [bQ,List.mem_map,List.mem_range] at hv;obtain ⟨q,hq,rfl⟩:=hv;exact h.ho _ _ ((Nat.div_lt_iff_lt_mul hs).2 hq) (Nat.mod_lt _ hs)
def aq (xs:List AV):List AV:=(xs.map AV.cells).flatten
theorem jB (x:AV) (xs:List AV):aq (x::xs)=x.cells++aq xs:=by simp [aq]
theorem kO (xs ys:List AV):aq (xs++ys)=aq xs++aq ys:=by simp [aq]
theorem aW {sz:Nat}:∀ {xs:List AV},Sized sz xs→(aq xs).length=xs.length*sz
 | [],_=>by simp [aq]
 |x::r,h=>by
  rw [jB,V4,aW (fun z hz=>h z (List.mem_cons_of_mem _ hz)),h x (List.mem_cons_self ..),List.length_cons,Nat.add_mul,Nat.one_mul,Nat.add_comm]
theorem mR {sz:Nat}:∀ {xs:List AV} (_:Sized sz xs) (i:Nat) (hi:i<xs.length),((aq xs).drop (i*sz)).take sz=xs[i].cells
 |x::r,h,0,_=>by
  rw [jB,Nat.zero_mul,List.drop_zero];have:=h x (List.mem_cons_self ..);rw [←this]; simp
 |x::r,h,i+1,hi=>by
  have h1:=h x (List.mem_cons_self ..);have e:(x.cells++aq r).drop ((i+1)*sz)=(aq r).drop (i*sz):=by
   rw [Nat.add_mul,Nat.one_mul,Nat.add_comm,←List.drop_drop]
   congr 1
   rw [←h1]; simp
  rw [jB,e];exact mR (fun z hz=>h z (List.mem_cons_of_mem _ hz)) i (by simpa using hi)
theorem sC {sz:Nat} {xs:List AV} (h:Sized sz xs) {i j:Nat} (hi:i<xs.length) (hj:j<sz):(aq xs)[i*sz+j]? =xs[i].cells[j]? :=by
 have:=congrArg (fun q=>q[j]?) (mR h i hi)
 simp only [List.getElem?_take,hj,if_true,List.getElem?_drop] at this;exact this
theorem Row.flat {c:Cx} {ys:List AV} {sz:Nat} {val:Nat→Nat→Value} (r:Row c ys sz val) (hs:0<sz):
  (aq ys).length=ys.length*sz∧∀j (h:j<(aq ys).length),Rep c (aq ys)[j] ((bQ sz ys.length val).getD j undef)∧((bQ sz ys.length val).getD j undef).oneCell' =true:=by
 have hsz:Sized sz ys:=fun z hz=>by
  obtain ⟨i,hi,rfl⟩:=List.mem_iff_getElem.1 hz;exact r.hz i hi
 have hl:=aW hsz;refine ⟨hl,fun j h=> ?_⟩
 have h1:j / sz<ys.length:=(Nat.div_lt_iff_lt_mul hs).2 (by omega)
 have h2:j % sz<sz:=Nat.mod_lt _ hs;have e:j / sz*sz+j % sz=j:=by rw [Nat.mul_comm]; exact Nat.div_add_mod j _
 have g1:=sC hsz h1 h2;have g2:=gh (val:=val) h1 h2;rw [e] at g1 g2;have hc:j % sz<(ys[j / sz]).cells.length:=by rw [r.hz _ h1]; exact h2
 rw [List.getElem?_eq_getElem h,List.getElem?_eq_getElem hc] at g1;rw [Option.some.inj g1,List.getD_eq_getElem?_getD,g2];exact ⟨r.hr _ h1 _ hc,r.ho _ _ h1 h2⟩
def jq (U:TypeId→TI) (e:TypeId) (h:Heap) (y:AV) (k:List AV→Prop):Prop:=
 match y with
 | .sl ys _=>k ys
 | .s l=>(U e).k= .int .u8∧(U e).sz=1∧k (l.map ct)
 | .oa id off len=>(U e).sz=1∧match h id with
  |some (.obj cs _)=>off+len≤cs.length∧(∀x∈(cs.drop off).take len,x.cells.length=1)∧(∀x∈(cs.drop off).take len,bA x=false)∧k ((cs.drop off).take len)
  |_=>False
 | .ob id off len _ sz=>sz=(U e).sz∧match h id with
  |some (.obj cs _)=>∃ys:List AV,ys.length=len∧off+len*sz≤cs.length∧aq ys=(cs.drop off).take (len*sz)∧k ys
  |_=>False
 |_=>False
theorem o9 {e:TypeId} {h:Heap} {y:AV} {k:List AV→Prop} (hz:(U e).sz≠0) (hk:jq U e h y k):
  ∃ys,k ys∧∀c u,Sub h c.h→Good c→Rep c y u→Sized (U e).sz ys→ys.length<lim∧∃val,Row c ys (U e).sz val∧(∀w,(Builtin.lenOf u).run P w= .ok ys.length w)∧
   (Builtin.firstCells (U e).sz ys.length u).run P c.w= .ok (bQ (U e).sz ys.length val).toArray c.w:=by
 unfold jq at hk;split at hk
 ·rename_i ys p
  refine ⟨ys,hk,fun c u hs g hr hsz=> ?_⟩
  obtain ⟨a,cap,sz,val,hu,hsl⟩:=hr.ia;have hcm:=hsl.hc;have hmm:=hsl.hm;refine ⟨by omega, ?_⟩
  rw [hu]
  by_cases hy:ys= []
  ·subst hy
   refine ⟨val,⟨fun i hi=>(by cases hi),fun i hi=>(by cases hi),fun i j hi=>(by cases hi)⟩,fun w=>by simp [Builtin.lenOf], ?_⟩
   cases a with
   |none=>simp [Builtin.firstCells,bQ]
   |some q=>simp [Builtin.firstCells,bQ,loadCells,loadCellsFrom]
  ·have hne:0<ys.length:=List.length_pos_iff.2 hy
   have hsz' :sz=(U e).sz:=by
    rw [←hsl.hz 0 hne];exact hsz _ (V5 hne)
   subst hsz';obtain ⟨q,rfl⟩:∃q,a=some q:=by
    cases a with
    |none=>have:=hsl.h0 rfl; omega
    |some q=>exact ⟨q,rfl⟩
   obtain ⟨hq1,hq2⟩:=hsl.hs q rfl (by have:=hsl.hc; omega)
   obtain ⟨bq,oq,sq⟩:=q;simp only at hq1 hq2; subst hq1
   refine ⟨val,⟨hsl.hz,hsl.hr,hsl.ho⟩,fun w=>by simp [Builtin.lenOf], ?_⟩
   have:=run_loadCells (P:=P) c.w ⟨bq,oq,none⟩ (ys.length*(U e).sz) (fun q=>val (q / (U e).sz) (q % (U e).sz)) (fun j hj=>by
    have h1:j / (U e).sz<ys.length:=(Nat.div_lt_iff_lt_mul (by omega)).2 hj
    have h2:j % (U e).sz<(U e).sz:=Nat.mod_lt _ (by omega)
    have:=(hsl.hf _ rfl _ _ h1 h2).1;rw [cA]
    rwa [show j / (U e).sz*(U e).sz+j % (U e).sz=j from by rw [Nat.mul_comm]; exact Nat.div_add_mod j _] at this)
   simpa [Builtin.firstCells,bQ] using this
 ·rename_i l
  obtain ⟨hty,h1,hk⟩:=hk;refine ⟨_,hk,fun c u hs g hr hsz=> ?_⟩
  obtain ⟨rfl,hl⟩:=hr.l6;refine ⟨by simpa using hl,fun i _=> .int .u8 ((l.getD i 0).toNat:Int),⟨fun i hi=> ?_,fun i hi j hj=> ?_,fun _ _ _ _=>rfl⟩,fun w=>by simp [Builtin.lenOf]; rfl, ?_⟩
  ·exact hsz _ (V5 hi)
  ·have hi' :i<l.length:=by simpa using hi
   simp only [V1,ct,AV.cells,List.length_singleton] at hj;have ej:j=0:=by omega
   subst ej;simp only [V1,ct,AV.cells,List.getElem_singleton];rw [show l.getD i 0=l[i] by simp [hi']]
   exact .v _
  ·rw [h1]
   simp only [Builtin.firstCells,V0,Sem.run_pure]
   congr 1
   apply Array.ext
   ·simp [bQ,ByteArray.extract_mk]
   ·intro i h2 h3
    have hi' :i<l.length:=by simpa [bQ] using h3
    simp [bQ,ByteArray.extract_mk,hi']
 ·rename_i id off len
  obtain ⟨h1,hk⟩:=hk;split at hk
  ·rename_i cs t hid
   obtain ⟨hle,hone,hna,hk⟩:=hk;refine ⟨_,hk,fun c u hs g hr hsz=> ?_⟩
   obtain ⟨cap,o',rfl,hc1,hc2,hoff,_⟩:=hr.mZ;obtain ⟨vs,v1,v2,v3⟩:=g.obj id cs t (hs _ _ hid);have hlen:((cs.drop off).take len).length=len:=by simp; omega
   refine ⟨by omega,fun i _=>vs.getD (off+i) undef,⟨fun i hi=>hsz _ (V5 hi),fun i hi j hj=> ?_,fun i j hi hj=>(v3 (off+i) (by omega)).2⟩,fun w=>by simp [Builtin.lenOf]; omega, ?_⟩
   ·have hcell:((cs.drop off).take len)[i].cells= [((cs.drop off).take len)[i]]:=by
     have hx:=hna _ (V5 hi);generalize ((cs.drop off).take len)[i]=x at hx;cases x<;>simp [bA] at hx<;>rfl
    have hj' :=hj;rw [hcell] at hj';have ej:j=0:=by simp only [List.length_singleton] at hj'; omega
    subst ej;have e1:((cs.drop off).take len)[i].cells[0]=cs[off+i]'(by omega):=by
     simp only [hcell,List.getElem_singleton];simp
    rw [e1];exact (v3 (off+i) (by omega)).1
   ·rw [h1,hlen]
    by_cases h0:len=0
    ·subst h0
     simp [Builtin.firstCells,bQ,loadCells,loadCellsFrom]
    ·obtain rfl:=hoff h0
     have:=run_loadCells (P:=P) c.w ⟨(c.φ id).block,o',none⟩ (len*1) (fun q=>vs.getD (o' +q / 1) undef) (fun j hj=>by
      rw [cA];have:o' +j<vs.size:=by omega
      simp [World.cell?,v1,this])
     simpa [Builtin.firstCells,bQ] using this
  ·exact hk.elim
 ·rename_i id off len cap0 sz
  obtain ⟨rfl,hk⟩:=hk;split at hk
  ·rename_i cs t hid
   obtain ⟨ys,rfl,hle,hfl,hk⟩:=hk;refine ⟨ys,hk,fun c u hs g hr hsz=> ?_⟩
   obtain ⟨o',rfl,hc1,hc2,cs',t',hcs',hcp⟩:=hr.iK;have hcid:=hs _ _ hid;rw [hcid] at hcs';cases hcs';obtain ⟨vs,v1,v2,v3⟩:=g.obj id cs t hcid;have hbd:∀i j,i<ys.length→j<(U e).sz→i*(U e).sz+j<ys.length*(U e).sz:=fun i j hi hj=>by
    have:(i+1)*(U e).sz≤ys.length*(U e).sz:=Nat.mul_le_mul_right _ (by omega)
    rw [Nat.add_mul,Nat.one_mul] at this;omega
   refine ⟨by omega,fun i j=>vs.getD (off+(i*(U e).sz+j)) undef,⟨fun i hi=>hsz _ (V5 hi),fun i hi j hj=> ?_,fun i j hi hj=>(v3 (off+(i*(U e).sz+j)) (by have:=hbd i j hi hj; omega)).2⟩,fun w=>by simp [Builtin.lenOf], ?_⟩
   ·have hj' :j<(U e).sz:=by rw [←hsz _ (V5 hi)]; exact hj
    have hb:=hbd i j hi hj';have g1:=sC hsz hi hj';rw [hfl,List.getElem?_take,if_pos hb,List.getElem?_drop,List.getElem?_eq_getElem (by omega),List.getElem?_eq_getElem hj] at g1
    rw [←Option.some.inj g1];exact (v3 _ (by omega)).1
   ·by_cases h0:ys.length=0
    ·rw [h0]
     simp [Builtin.firstCells,bQ,loadCells,loadCellsFrom]
    ·obtain ⟨rfl,_⟩:=hcp (by omega)
     have:=run_loadCells (P:=P) c.w ⟨(c.φ id).block,o',none⟩ (ys.length*(U e).sz) (fun q=>vs.getD (o' +(q / (U e).sz*(U e).sz+q % (U e).sz)) undef) (fun j hj=>by
      rw [cA,show j / (U e).sz*(U e).sz+j % (U e).sz=j from by rw [Nat.mul_comm]; exact Nat.div_add_mod j _]
      have:o' +j<vs.size:=by omega
      simp [World.cell?,v1,this])
     simpa [Builtin.firstCells,bQ] using this
  ·exact hk.elim
 ·exact hk.elim
def cG (z:AV) (n sz:Nat):List AV:=(List.range (n*sz)).map fun q=>z.cells.getD (q % sz) default
def jy (h:Heap) (cs:List AV) (n sz:Nat) (e:TypeId) (Q:AV→Heap→Prop):Prop:=
 ∀id cap rest,h id=none→n≤cap→rest.length=(cap - n)*sz→Q (.ob id 0 n cap sz) (upd h id (some (.obj (cs++rest) e)))
def pz (U:TypeId→TI) (h:Heap) (ts:TypeId) (x y:AV) (Q:AV→Heap→Prop):Prop:=
 match (U ts).k with
 | .slice e=>(U e).sz≠0∧(U e).bytes≠0∧match x with
  | .sl xs p=>jq U e h y fun ys=>Sized (U e).sz xs∧Sized (U e).sz ys∧(xs.length+ys.length)*(U e).bytes≤140737488355328∧match p with
   | .no=>False
   | .full=>(ys= []→Q (.sl xs .full) h)∧(ys≠ []→(∀id,h id=none→Q (.sl (xs++ys) (.own id)) (upd h id (some (.spare (xs.length+ys.length) (U e).sz))))∨
     ((U e).sz=1∧fit (U e).zero 1∧bA (U e).zero=false∧(∀z∈xs++ys,bA z=false)∧∀id m,h id=none→Q (.oa id 0 (xs.length+ys.length)) (upd h id (some (.obj (xs++ys++List.replicate m (U e).zero) e))))∨
     (fit (U e).zero (U e).sz∧jy h (aq xs++aq ys) (xs.length+ys.length) (U e).sz e Q))
   | .own id=>h id=some (.spare xs.length (U e).sz)∧Q (.sl (xs++ys) (.own id)) (upd h id (some (.spare (xs.length+ys.length) (U e).sz)))
  | .oa id off len=>(U e).sz=1∧jq U e h y fun ys=>Sized 1 ys∧(∀z∈ys,bA z=false)∧(len+ys.length)*(U e).bytes≤140737488355328∧match h id with
   |some (.obj cs t)=>off+len≤cs.length∧(∀z∈(cs.drop off).take len,bA z=false)∧fit (U e).zero 1∧bA (U e).zero=false∧
     (off+(len+ys.length)≤cs.length→Q (.oa id off (len+ys.length)) (upd h id (some (.obj (over cs (off+len) ys) t))))∧
     (∀id' m,h id' =none→Q (.oa id' 0 (len+ys.length)) (upd h id' (some (.obj ((cs.drop off).take len++ys++List.replicate m (U e).zero) e))))
   |_=>False
  | .ob id off len cap sz=>sz=(U e).sz∧jq U e h y fun ys=>Sized (U e).sz ys∧(len+ys.length)*(U e).bytes≤140737488355328∧match h id with
   |some (.obj cs t)=>off+len*(U e).sz≤cs.length∧fit (U e).zero (U e).sz∧
     (len+ys.length≤cap→Q (.ob id off (len+ys.length) cap (U e).sz) (upd h id (some (.obj (over cs (off+len*(U e).sz) (aq ys)) t))))∧
     (cap<len+ys.length→jy h ((cs.drop off).take (len*(U e).sz)++aq ys) (len+ys.length) (U e).sz e Q)
   |_=>False
  |_=>False
 |_=>False
def Cb (U:TypeId→TI) (h:Heap) (ts:TypeId) (x y:AV) (Q:AV→Heap→Prop):Prop:=
 match (U ts).k with
 | .slice e=>match x with
  | .ob id off len cap sz=>match y with
   | .v (.int _ n)=>(U e).sz≠0∧(U e).bytes≠0∧sz=(U e).sz∧0<n∧(len+n.toNat)*(U e).bytes≤140737488355328∧fit (U e).zero (U e).sz∧cap<len+n.toNat∧match h id with
    |some (.obj cs _)=>off+len*(U e).sz≤cs.length∧jy h ((cs.drop off).take (len*(U e).sz)++cG (U e).zero n.toNat (U e).sz) (len+n.toNat) (U e).sz e Q
    |_=>False
   |_=>False
  |_=>False
 |_=>False
def apT (A B:Prop) (tk:TK):Prop:=match tk with
 | .int _=>B
 | .slice _| .str=>A
 |_=>False
theorem Sub.upd {h h' :Heap} (hs:Sub h h') (id:Nat) (k:Option Blk):Sub (upd h id k) (upd h' id k):=by
 intro j l hj
 by_cases e:j=id
 ·subst e; rw [ah] at hj⊢; exact hj
 ·rw [ag _ _ e] at hj⊢; exact hs _ _ hj
def H7:TK→Bool
 | .slice _| .str=>true
 |_=>false
theorem lP {ts tx ty e:TypeId} {i:TypeInfo} {w:World} {base:Option Addr} {n cap m:Nat} {v:Value} {news:List Value}
  (ht:P.underlying ts=some (.slice e)) (hx:(∃d,P.underlying tx=some (.slice d))∨P.underlying tx=some .string) (hi:P.info? e=some i)
  (hlen:(Builtin.lenOf v).run P w= .ok m w) (hf:(Builtin.firstCells i.size m v).run P w= .ok news.toArray w) (hroom:n+m≤cap):
  (Builtin.append_ #[ts,tx] ty #[.slice base n cap,v]).run P w=((match base with|some a=>storeCells (a.add (n*i.size)) news|none=>pure ()).run P w).andThen fun _ w' => .ok (.slice base (n+m) cap) w' :=by
 rcases hx with ⟨d,hx⟩|hx<;>cases base<;>simp [Builtin.append_,run_underlying ht,run_underlying hx,sizeOf,typeInfo,hi,hlen,hroom,hf]
theorem lO {ts tx ty e:TypeId} {i:TypeInfo} {z:Value} {w:World} {base:Option Addr} {n cap m:Nat} {v:Value} {olds news:List Value}
  (ht:P.underlying ts=some (.slice e)) (hx:(∃d,P.underlying tx=some (.slice d))∨P.underlying tx=some .string) (hi:P.info? e=some i) (hz:i.zero=some z)
  (hlen:(Builtin.lenOf v).run P w= .ok m w) (h3:(Builtin.firstCells i.size m v).run P w.drew= .ok news.toArray w.drew)
  (h4:(Builtin.firstCells i.size n (.slice base n cap)).run P w.drew= .ok olds.toArray w.drew)
  (hgrow:cap<n+m) (hb:(n+m)*i.bytes≤140737488355328) (hb0:i.bytes≠0):
  (Builtin.append_ #[ts,tx] ty #[.slice base n cap,v]).run P w=
   .ok (.slice (some ⟨w.heap.size,0,none⟩) (n+m) (grownCap w (n+m) cap e)) (w.drew.alloc (.cells (olds.toArray++news.toArray++Builtin.zeroCells z.cells (grownCap w (n+m) cap e - (n+m))) e)):=by
 have h1:¬(n+m≤cap):=by omega
 have h2:¬(Builtin.nextslicecap (n+m) cap*i.bytes>2 ^ 48):=by
  have:=growslice_fits hgrow hb;omega
 have hz0:(zeroValue e).run P w.drew= .ok z w.drew:=by simp [zeroValue,typeInfo,hi,hz]
 have hfo:(Question.appendCap (n+m) cap e).forced=false:=rfl;rcases hx with ⟨d,hx⟩|hx<;>
 ·simp [Builtin.append_,run_underlying ht,run_underlying hx,sizeOf,typeInfo,hi,hlen,h1,h2,hb0,h3,h4,hz0,newRow,hfo,grownCap, -Array.append_assoc]
  try rfl
end
section
variable {P : Program} {U : TypeId → TI}
def dX (c:Cx) (Q:AV→Heap→Prop) (u:Value) (w' :World):Prop:=
 ∃c' x h',c'.w=w'∧Good c'∧Ext c c'∧Rep c' x u∧Sub h' c'.h∧Q x h'
theorem jX {z:AV} (h:bA z=false):z.cells= [z]:=by
 cases z<;>simp [bA] at h<;>rfl
theorem iu {c:Cx} {h:Heap} {id off:Nat} {cs xs:List AV} {t:TypeId} {vs:List Value} {u:Value} {X:AV} {Q:AV→Heap→Prop} (hs:Sub h c.h) (g:Good c) (hid:h id=some (.obj cs t)) (hl:vs.length=xs.length) (hb:off+xs.length≤cs.length)
  (hr:∀j (h:j<xs.length),Rep c xs[j] (vs.getD j undef)∧(vs.getD j undef).oneCell' =true) (hX:∀c',Ext c c'→Rep c' X u) (hQ:Q X (upd h id (some (.obj (over cs off xs) t)))):
  (storeCells ⟨(c.φ id).block,off,none⟩ vs).run P c.w= .ok () (c.w.setCells (c.φ id).block off vs)∧dX c Q u (c.w.setCells (c.φ id).block off vs):=by
 have hcid:=hs _ _ hid;obtain ⟨us,u1,u2,u3⟩:=g.obj id cs t hcid;have hE:=Ext.fill (c:=c) id off vs (.obj cs t) (.obj (over cs off xs) t) hcid (Nat.zero_le _) (.inl ⟨_,_,_,rfl,rfl,gK (by assumption)⟩)
 refine ⟨?_,c.fill id off vs (.obj (over cs off xs) t),X,_,rfl,g.JO id off vs cs xs t hcid hl hb hr,hE,hX _ hE,hs.upd id _,hQ⟩;have:=run_storeCells_cells (P:=P) (c.φ id).block off vs 0 c.w (fun j hj=>by
  simp [World.cell?,u1];omega) (fun j hj=>by simp [World.frozen?,u1]) (fun v hv=>by
   obtain ⟨j,hj,rfl⟩:=List.mem_iff_getElem.1 hv;have:=(hr j (by omega)).2
   simpa [List.getD,List.getElem?_eq_getElem hj] using this)
 simpa using this
theorem xu {h:Heap} {ts tx ty e:TypeId} {y:AV} {Q:AV→Heap→Prop} {i:TypeInfo} {z:Value} {xs ys:List AV} {vx:Nat→Nat→Value} {a:Option Addr} {cap:Nat}
  (hd:P.underlying ts=some (.slice e)) (htx' :(∃d,P.underlying tx=some (.slice d))∨P.underlying tx=some .string) (i1:P.info? e=some i) (i2:i.size=(U e).sz) (i3:i.bytes=(U e).bytes)
  (z1:i.zero=some z) (z2:z.cells.size=(U e).sz) (z3:∀c,Rep c (U e).zero z) (c:Cx) (v:Value) (hs:Sub h c.h) (g:Good c) (hy:Rep c y v)
  (hsrc:∀c u,Sub h c.h→Good c→Rep c y u→Sized (U e).sz ys→ys.length<lim∧∃val,Row c ys (U e).sz val∧(∀w,(Builtin.lenOf u).run P w= .ok ys.length w)∧
   (Builtin.firstCells (U e).sz ys.length u).run P c.w= .ok (bQ (U e).sz ys.length val).toArray c.w)
  (hsy:Sized (U e).sz ys) (hb:(xs.length+ys.length)*(U e).bytes≤140737488355328) (hby:(U e).bytes≠0) (hbyte:xs.length+ys.length<lim) (rowx:Row c xs (U e).sz vx)
  (holds:(Builtin.firstCells i.size xs.length (.slice a xs.length cap)).run P c.w.drew= .ok (bQ (U e).sz xs.length vx).toArray c.w.drew) (hgr:cap<xs.length+ys.length)
  (hz1:(U e).sz=1) (hzf:fit (U e).zero 1) (hza:bA (U e).zero=false) (hna:∀z∈xs++ys,bA z=false)
  (hQ:∀id m,h id=none→Q (.oa id 0 (xs.length+ys.length)) (upd h id (some (.obj (xs++ys++List.replicate m (U e).zero) e)))):
  ∃r w',(Builtin.append_ #[ts,tx] ty #[.slice a xs.length cap,v]).run P c.w= .ok r w'∧dX c Q r w' :=by
 have hfr:∀id,c.h id=none→h id=none:=fun id hid=>by
  cases hh:h id with
  |none=>rfl
  |some k=>rw [hs _ _ hh] at hid; cases hid
 obtain ⟨id,hid⟩:=g.fresh;have g1:Good {c with w:=c.w.drew}:=g.draw rfl rfl rfl rfl
 have e1:Ext c {c with w:=c.w.drew}:=Ext.draw rfl rfl rfl rfl
 obtain ⟨_,vy,rowy,hlen,hfirst⟩:=hsrc {c with w:=c.w.drew} v hs g1 (hy.mono e1) hsy
 rw [←i2] at hfirst;have hr:=lO (ty:=ty) hd htx' i1 z1 (hlen c.w) hfirst holds (by omega) (by rw [i3]; exact hb) (by rw [i3]; exact hby)
 obtain ⟨hcap1,hcap2⟩:=vl c.w (xs.length+ys.length) cap e hbyte;generalize hcp:grownCap c.w (xs.length+ys.length) cap e=ncap at hr hcap1 hcap2;generalize hcells:(bQ (U e).sz xs.length vx).toArray++(bQ i.size ys.length vy).toArray++Builtin.zeroCells z.cells (ncap - (xs.length+ys.length))=cells at hr;rw [i2,hz1] at hcells;rw [hz1] at rowx rowy z2;have hcs:cells.size=ncap:=by
  rw [←hcells];simp only [Array.size_append,List.size_toArray,aQ,size_zeroCells,z2];omega
 obtain ⟨f1,f2,f3,f4⟩:=(z3 {c with w:=c.w.drew}).fits hzf
 have hzc:=jX hza;refine ⟨_,_,hr,({c with w:=c.w.drew}:Cx).aA (.cells cells e) id ⟨c.w.heap.size,0,none⟩ (.obj (xs++ys++List.replicate (ncap - (xs.length+ys.length)) (U e).zero) e),_,_,rfl, ?_,
  e1.trans (Ext.aA _ _ id _ _ rfl (.inl hid)), ?_,hs.upd id _,hQ id _ (hfr id hid)⟩
 ·refine g1.aA _ _ (0,0) id _ _ rfl (.inl hid) (fun cs t' hh=> ?_) (fun n sz hh=>by cases hh)
  cases hh;refine ⟨rfl,rfl,by simp [hcs]; omega,fun j hj=> ?_⟩
  have hj' :j<ncap:=by simp at hj; omega
  by_cases hj1:j<xs.length
  ·have e2:(xs++ys++List.replicate (ncap - (xs.length+ys.length)) (U e).zero)[j]=xs[j]:=by
    rw [List.getElem_append_left (by simp; omega),List.getElem_append_left hj1]
   have e3:cells.getD j undef=vx j 0:=by
    have h5:=gh (val:=vx) hj1 (show 0<1 by omega)
    rw [Nat.mul_one,Nat.add_zero] at h5;rw [←hcells,Array.getD_eq_getD_getElem?,Array.getElem?_append_left (by simp [aQ]; omega),Array.getElem?_append_left (by simp [aQ]; omega)]
    simp [h5]
   rw [e2,e3];have hc1:=jX (hna xs[j] (List.mem_append_left _ (V5 hj1)));have:=rowx.hr j hj1 0 (by rw [hc1]; simp)
   simp only [hc1,List.getElem_cons_zero] at this;exact ⟨this.mono e1,rowx.ho j 0 hj1 (by omega)⟩
  ·by_cases hj2:j<xs.length+ys.length
   ·have hj3:j - xs.length<ys.length:=by omega
    have e2:(xs++ys++List.replicate (ncap - (xs.length+ys.length)) (U e).zero)[j]=ys[j - xs.length]:=by
     rw [List.getElem_append_left (by simp; omega),List.getElem_append_right (by omega)]
    have e3:cells.getD j undef=vy (j - xs.length) 0:=by
     have h5:=gh (val:=vy) hj3 (show 0<1 by omega)
     rw [Nat.mul_one,Nat.add_zero] at h5;rw [←hcells,Array.getD_eq_getD_getElem?,Array.getElem?_append_left (by simp [aQ]; omega),Array.getElem?_append_right (by simp [aQ]; omega)]
     simp [aQ,h5]
    rw [e2,e3];have hc1:=jX (hna ys[j - xs.length] (List.mem_append_right _ (V5 hj3)));have:=rowy.hr (j - xs.length) hj3 0 (by rw [hc1]; simp)
    simp only [hc1,List.getElem_cons_zero] at this;exact ⟨this,rowy.ho _ 0 hj3 (by omega)⟩
   ·have e2:(xs++ys++List.replicate (ncap - (xs.length+ys.length)) (U e).zero)[j]=(U e).zero:=by
     rw [List.getElem_append_right (by simp; omega)]
     simp
    have e3:cells.getD j undef=z.cells.getD 0 undef:=by
     rw [←hcells,Array.getD_eq_getD_getElem?,Array.getElem?_append_right (by simp [aQ]; omega)]
     have h6:j - (xs.length+ys.length)<ncap - (xs.length+ys.length):=by omega
     simp only [Array.size_append,List.size_toArray,aQ,Nat.mul_one,Builtin.zeroCells,z2,Array.getElem?_map,Array.getElem?_range,h6,if_true,Option.map_some,Option.getD_some,Nat.mod_one];rw [getElem!_pos z.cells 0 (by omega),Array.getD,dif_pos (show 0<z.cells.size by omega)]
     rfl
    rw [e2,e3];have:=f3 0 (by rw [hzc]; simp)
    simp only [hzc,List.getElem_cons_zero] at this;exact ⟨this,f4 0 (by omega)⟩
 ·have:=Rep.oa (c:=({c with w:=c.w.drew}:Cx).aA (.cells cells e) id ⟨c.w.heap.size,0,none⟩ (.obj (xs++ys++List.replicate (ncap - (xs.length+ys.length)) (U e).zero) e)) id 0 (xs.length+ys.length) ncap 0 _ e
   (by simp [Cx.aA,ah]; rfl) (by omega) hcap2 (fun _=>⟨rfl,by simp; omega⟩)
  simpa [Cx.aA,ah] using this
theorem tQ {h:Heap} {e:TypeId} {Q:AV→Heap→Prop} {z:Value} {cx dy:List AV} {ox news:List Value} {m k cap:Nat}
  (z2:z.cells.size=(U e).sz) (z3:∀c,Rep c (U e).zero z) (c:Cx) (hs:Sub h c.h) (g:Good c)
  (hbyte:m+k<lim)
  (hl:cx.length=m*(U e).sz) (hl2:ox.length=m*(U e).sz) (hro:∀j (h:j<cx.length),Rep c cx[j] (ox.getD j undef)∧(ox.getD j undef).oneCell' =true)
  (hly:dy.length=k*(U e).sz) (hln:news.length=k*(U e).sz) (hry:∀j (h:j<dy.length),Rep {c with w:=c.w.drew} dy[j] (news.getD j undef)∧(news.getD j undef).oneCell' =true)
  (hzs:(U e).sz≠0) (hzf:fit (U e).zero (U e).sz) (hQ:jy h (cx++dy) (m+k) (U e).sz e Q):
  dX c Q (.slice (some ⟨c.w.heap.size,0,none⟩) (m+k) (grownCap c.w (m+k) cap e)) (c.w.drew.alloc (.cells (ox.toArray++news.toArray++Builtin.zeroCells z.cells (grownCap c.w (m+k) cap e - (m+k))) e)):=by
 have hfr:∀id,c.h id=none→h id=none:=fun id hid=>by
  cases hh:h id with
  |none=>rfl
  |some k=>rw [hs _ _ hh] at hid; cases hid
 obtain ⟨id,hid⟩:=g.fresh;have g1:Good {c with w:=c.w.drew}:=g.draw rfl rfl rfl rfl
 have e1:Ext c {c with w:=c.w.drew}:=Ext.draw rfl rfl rfl rfl
 obtain ⟨hcap1,hcap2⟩:=vl c.w (m+k) cap e hbyte;generalize hcp:grownCap c.w (m+k) cap e=ncap at hcap1 hcap2⊢;generalize hcells:ox.toArray++news.toArray++Builtin.zeroCells z.cells (ncap - (m+k))=cells;have hmul:ncap*(U e).sz=m*(U e).sz+k*(U e).sz+(ncap - (m+k))*(U e).sz:=by
  rw [←Nat.add_mul,←Nat.add_mul]; congr 1; omega
 have hcs:cells.size=ncap*(U e).sz:=by
  rw [←hcells];simp only [Array.size_append,List.size_toArray,hln,hl2,size_zeroCells,z2];omega
 obtain ⟨f1,f2,f3,f4⟩:=(z3 {c with w:=c.w.drew}).fits hzf
 have hzl:(cG (U e).zero (ncap - (m+k)) (U e).sz).length=(ncap - (m+k))*(U e).sz:=by simp [cG]
 refine ⟨({c with w:=c.w.drew}:Cx).aA (.cells cells e) id ⟨c.w.heap.size,0,none⟩ (.obj (cx++dy++cG (U e).zero (ncap - (m+k)) (U e).sz) e),_,_,rfl, ?_,
  e1.trans (Ext.aA _ _ id _ _ rfl (.inl hid)), ?_,hs.upd id _,hQ id ncap _ (hfr id hid) hcap1 hzl⟩
 ·refine g1.aA _ _ (0,0) id _ _ rfl (.inl hid) (fun cs t' hh=> ?_) (fun n sz hh=>by cases hh)
  cases hh;have hcz:cells.size=(cx++dy++cG (U e).zero (ncap - (m+k)) (U e).sz).length:=by
   rw [V4,V4,hl,hly,hzl,hcs]; omega
  refine ⟨rfl,rfl,hcz,fun j hj=> ?_⟩
  have hj' :j<cells.size:=by rw [hcz]; exact hj
  by_cases hj1:j<cx.length
  ·have e2:(cx++dy++cG (U e).zero (ncap - (m+k)) (U e).sz)[j]=cx[j]:=by
    rw [List.getElem_append_left (by simp; omega),List.getElem_append_left hj1]
   have e3:cells.getD j undef=ox.getD j undef:=by
    rw [←hcells,Array.getD_eq_getD_getElem?,Array.getElem?_append_left (by simp; omega),Array.getElem?_append_left (by simp; omega)]
    simp [List.getD_eq_getElem?_getD]
   rw [e2,e3];exact ⟨(hro j hj1).1.mono e1,(hro j hj1).2⟩
  ·by_cases hj2:j<cx.length+dy.length
   ·have hj3:j - cx.length<dy.length:=by omega
    have e2:(cx++dy++cG (U e).zero (ncap - (m+k)) (U e).sz)[j]=dy[j - cx.length]:=by
     rw [List.getElem_append_left (by simp; omega),List.getElem_append_right (by omega)]
    have e3:cells.getD j undef=news.getD (j - cx.length) undef:=by
     rw [←hcells,Array.getD_eq_getD_getElem?,Array.getElem?_append_left (by simp; omega),Array.getElem?_append_right (by simp; omega)]
     simp [List.getD_eq_getElem?_getD,hl,hl2]
    rw [e2,e3];exact hry _ hj3
   ·have hj4:j - (cx.length+dy.length)<(ncap - (m+k))*(U e).sz:=by omega
    have hmod:(j - (cx.length+dy.length)) % (U e).sz<(U e).sz:=Nat.mod_lt _ (by omega)
    have e2:(cx++dy++cG (U e).zero (ncap - (m+k)) (U e).sz)[j]=(U e).zero.cells[(j - (cx.length+dy.length)) % (U e).sz]'(by omega):=by
     rw [List.getElem_append_right (by simp; omega)]
     simp [cG,show (j - (cx.length+dy.length)) % (U e).sz<(U e).zero.cells.length by omega]
    have e3:cells.getD j undef=z.cells.getD ((j - (cx.length+dy.length)) % (U e).sz) undef:=by
     rw [←hcells,Array.getD_eq_getD_getElem?,Array.getElem?_append_right (by simp; omega)]
     have h5:j - (ox.toArray++news.toArray).size=j - (cx.length+dy.length):=by simp only [Array.size_append,List.size_toArray]; omega
     rw [h5];have h6:(j - (cx.length+dy.length)) % (U e).sz<z.cells.size:=by omega
     simp only [Builtin.zeroCells,z2,Array.getElem?_map,Array.getElem?_range,hj4,if_true,Option.map_some,Option.getD_some];rw [getElem!_pos z.cells _ h6,Array.getD,dif_pos h6];rfl
    rw [e2,e3];exact ⟨f3 _ (by omega),f4 _ hmod⟩
 ·have:=Rep.ob (c:=({c with w:=c.w.drew}:Cx).aA (.cells cells e) id ⟨c.w.heap.size,0,none⟩ (.obj (cx++dy++cG (U e).zero (ncap - (m+k)) (U e).sz) e)) id 0 (m+k) ncap (U e).sz 0 _ e
   (by simp [Cx.aA,ah]; rfl) hcap1 hcap2 (fun _=>⟨rfl,by rw [V4,V4,hl,hly,hzl]; omega⟩)
  simpa [Cx.aA,ah] using this
theorem rq {h:Heap} {ts tx ty e:TypeId} {y:AV} {Q:AV→Heap→Prop} {i:TypeInfo} {z:Value} {ys cx:List AV} {ox:List Value} {m:Nat} {a:Option Addr} {cap:Nat}
  (hd:P.underlying ts=some (.slice e)) (htx' :(∃d,P.underlying tx=some (.slice d))∨P.underlying tx=some .string) (i1:P.info? e=some i) (i2:i.size=(U e).sz) (i3:i.bytes=(U e).bytes)
  (z1:i.zero=some z) (z2:z.cells.size=(U e).sz) (z3:∀c,Rep c (U e).zero z) (c:Cx) (v:Value) (hs:Sub h c.h) (g:Good c) (hy:Rep c y v)
  (hsrc:∀c u,Sub h c.h→Good c→Rep c y u→Sized (U e).sz ys→ys.length<lim∧∃val,Row c ys (U e).sz val∧(∀w,(Builtin.lenOf u).run P w= .ok ys.length w)∧
   (Builtin.firstCells (U e).sz ys.length u).run P c.w= .ok (bQ (U e).sz ys.length val).toArray c.w)
  (hsy:Sized (U e).sz ys) (hb:(m+ys.length)*(U e).bytes≤140737488355328) (hby:(U e).bytes≠0) (hbyte:m+ys.length<lim)
  (hl:cx.length=m*(U e).sz) (hl2:ox.length=m*(U e).sz) (hro:∀j (h:j<cx.length),Rep c cx[j] (ox.getD j undef)∧(ox.getD j undef).oneCell' =true)
  (holds:(Builtin.firstCells i.size m (.slice a m cap)).run P c.w.drew= .ok ox.toArray c.w.drew) (hgr:cap<m+ys.length)
  (hzs:(U e).sz≠0) (hzf:fit (U e).zero (U e).sz) (hQ:jy h (cx++aq ys) (m+ys.length) (U e).sz e Q):
  ∃r w',(Builtin.append_ #[ts,tx] ty #[.slice a m cap,v]).run P c.w= .ok r w'∧dX c Q r w' :=by
 have g1:Good {c with w:=c.w.drew}:=g.draw rfl rfl rfl rfl
 have e1:Ext c {c with w:=c.w.drew}:=Ext.draw rfl rfl rfl rfl
 obtain ⟨hfy,vy,rowy,hlen,hfirst⟩:=hsrc {c with w:=c.w.drew} v hs g1 (hy.mono e1) hsy
 obtain ⟨hly,hry⟩:=rowy.flat (by omega)
 rw [←i2] at hfirst;have hr:=lO (ty:=ty) hd htx' i1 z1 (hlen c.w) hfirst holds (by omega) (by rw [i3]; exact hb) (by rw [i3]; exact hby)
 rw [i2] at hr;exact ⟨_,_,hr,tQ z2 z3 c hs g hbyte hl hl2 hro hly (aQ ..) hry hzs hzf hQ⟩
theorem A2 {h:Heap} {ts tx ty e:TypeId} {Q:AV→Heap→Prop} {i:TypeInfo} {z:Value} {cx:List AV} {ox:List Value} {m n:Nat} {a:Option Addr} {cap:Nat} {kk ki:IntKind}
  (hd:P.underlying ts=some (.slice e)) (htx:P.underlying tx=some (.int ki)) (i1:P.info? e=some i) (i2:i.size=(U e).sz) (i3:i.bytes=(U e).bytes)
  (z1:i.zero=some z) (z2:z.cells.size=(U e).sz) (z3:∀c,Rep c (U e).zero z) (c:Cx) (hs:Sub h c.h) (g:Good c)
  (hn0:n≠0) (hb:(m+n)*(U e).bytes≤140737488355328) (hby:(U e).bytes≠0) (hbyte:m+n<lim)
  (hl:cx.length=m*(U e).sz) (hl2:ox.length=m*(U e).sz) (hro:∀j (h:j<cx.length),Rep c cx[j] (ox.getD j undef)∧(ox.getD j undef).oneCell' =true)
  (holds:(Builtin.firstCells i.size m (.slice a m cap)).run P c.w.drew= .ok ox.toArray c.w.drew) (hgr:cap<m+n)
  (hzs:(U e).sz≠0) (hzf:fit (U e).zero (U e).sz) (hQ:jy h (cx++cG (U e).zero n (U e).sz) (m+n) (U e).sz e Q):
  ∃r w',(Builtin.append_ #[ts,tx] ty #[.slice a m cap, .int kk n]).run P c.w= .ok r w'∧dX c Q r w' :=by
 have hw:IntKind.i64.wrap (n:Int)=n:=IntWalk.i64_in _ (by simp only [lim] at hbyte; omega)
 have h1:¬(m+n≤cap):=by omega
 have hbm:(m+n)*i.bytes≤140737488355328:=by rw [i3]; exact hb
 have h2:¬(Builtin.nextslicecap (m+n) cap*i.bytes>2 ^ 48):=by
  have:=growslice_fits hgr hbm;omega
 have h3:¬((n:Int)<0):=by omega
 have h4:¬(281474976710656<(n:Int)*(i.bytes:Int)):=by
  have:n*i.bytes≤(m+n)*i.bytes:=Nat.mul_le_mul_right _ (by omega)
  have h5:((n*i.bytes:Nat):Int)=(n:Int)*(i.bytes:Int):=by simp
  omega
 have h5:¬(9223372036854775807<(m:Int)+(n:Int)):=by simp only [lim] at hbyte; omega
 have hz0:(zeroValue e).run P c.w.drew= .ok z c.w.drew:=by simp [zeroValue,typeInfo,i1,z1]
 have hfo:(Question.appendCap (m+n) cap e).forced=false:=rfl;have hby' :i.bytes≠0:=by rw [i3]; exact hby
 have hsz' :¬(n*i.size=0):=by rw [i2]; exact Nat.mul_ne_zero hn0 hzs
 have hr:(Builtin.append_ #[ts,tx] ty #[.slice a m cap, .int kk n]).run P c.w=
   .ok (.slice (some ⟨c.w.heap.size,0,none⟩) (m+n) (grownCap c.w (m+n) cap e)) (c.w.drew.alloc (.cells (ox.toArray++(Builtin.zeroCells z.cells n).toList.toArray++Builtin.zeroCells z.cells (grownCap c.w (m+n) cap e - (m+n))) e)):=by
  simp [Builtin.append_,run_underlying hd,run_underlying htx,sizeOf,typeInfo,i1,asInt,asIntOf,hw,h1,h2,h3,h4,h5,hsz',holds,hz0,newRow,hfo,grownCap, -Array.append_assoc]
  try rfl
 obtain ⟨f1,f2,f3,f4⟩:=(z3 {c with w:=c.w.drew}).fits hzf
 refine ⟨_,_,hr,tQ z2 z3 c hs g hbyte hl hl2 hro (by simp [cG]) (by simp [Builtin.zeroCells,z2]) (fun j hj=> ?_) hzs hzf hQ⟩
 have hj' :j<n*(U e).sz:=by simpa [cG] using hj
 have hmod:j % (U e).sz<(U e).sz:=Nat.mod_lt _ (by omega)
 have e2:(cG (U e).zero n (U e).sz)[j]=(U e).zero.cells[j % (U e).sz]'(by omega):=by
  simp [cG,show j % (U e).sz<(U e).zero.cells.length by omega]
 have e3:(Builtin.zeroCells z.cells n).toList.getD j undef=z.cells.getD (j % (U e).sz) undef:=by
  have h6:j % (U e).sz<z.cells.size:=by omega
  simp only [Builtin.zeroCells,z2,List.getD_eq_getElem?_getD,Array.getElem?_toList,Array.getElem?_map,Array.getElem?_range,hj',if_true,Option.map_some,Option.getD_some];rw [getElem!_pos z.cells _ h6,Array.getD,dif_pos h6];rfl
 rw [e2,e3];exact ⟨f3 _ (by omega),f4 _ hmod⟩
theorem qS (hU:∀t,aN P U t) {h:Heap} {ts tx ty:TypeId} {x y:AV} {Q:AV→Heap→Prop} (htx:H7 (U tx).k=true) (hk:pz U h ts x y Q) (c:Cx) (u v:Value)
  (hs:Sub h c.h) (g:Good c) (hx:Rep c x u) (hy:Rep c y v):
  ∃r w',(Builtin.append_ #[ts,tx] ty #[u,v]).run P c.w= .ok r w'∧dX c Q r w' :=by
 unfold pz at hk;have hd:=(hU ts).desc;split at hk
 ·rename_i e hty
  rw [hty] at hd;obtain ⟨hz,hby,hk⟩:=hk;have htx' :(∃d,P.underlying tx=some (.slice d))∨P.underlying tx=some .string:=by
   have:=(hU tx).desc;cases hk:(U tx).k<;>rw [hk] at htx this<;>simp [H7] at htx
   ·exact .inr this
   ·exact .inl ⟨_,this⟩
  obtain ⟨i,i1,i2,i3,z,z1,z2,z3⟩:=(hU e).info hz;split at hk
  ·rename_i xs p
   obtain ⟨ys,hk',hsrc⟩:=o9 (P:=P) hz hk;clear hk;have hk:=hk';clear hk';obtain ⟨hsx,hsy,hb,hk⟩:=hk;obtain ⟨hyl,vy,rowy,hlen,hfirst⟩:=hsrc c v hs g hy hsy;obtain ⟨a,cap,sz,vx,rfl,sl⟩:=hx.ia;have hcap:=sl.hc;have hcm:=sl.hm;have hbyte:(xs.length+ys.length)<lim:=by
    have:(xs.length+ys.length)≤(xs.length+ys.length)*(U e).bytes:=Nat.le_mul_of_pos_right _ (by omega)
    simp only [lim]; omega
   have holds:(Builtin.firstCells i.size xs.length (.slice a xs.length cap)).run P c.w.drew= .ok (bQ (U e).sz xs.length vx).toArray c.w.drew:=by
    by_cases hxn:xs= []
    ·subst hxn
     cases a<;>simp [Builtin.firstCells,bQ,loadCells,loadCellsFrom]
    ·have hne:0<xs.length:=List.length_pos_iff.2 hxn
     have e1:sz=(U e).sz:=by rw [←sl.hz 0 hne]; exact hsx _ (V5 hne)
     subst e1;obtain ⟨q,rfl⟩:∃q,a=some q:=by
      cases a with
      |none=>have:=sl.h0 rfl; omega
      |some q=>exact ⟨q,rfl⟩
     obtain ⟨hq1,hq2⟩:=sl.hs q rfl (by omega)
     obtain ⟨bq,oq,sq⟩:=q;simp only at hq1 hq2; subst hq1
     have:=run_loadCells (P:=P) c.w.drew ⟨bq,oq,none⟩ (xs.length*(U e).sz) (fun q=>vx (q / (U e).sz) (q % (U e).sz)) (fun j hj=>by
      have h1:j / (U e).sz<xs.length:=(Nat.div_lt_iff_lt_mul (by omega)).2 hj
      have h2:j % (U e).sz<(U e).sz:=Nat.mod_lt _ (by omega)
      have:=(sl.hf _ rfl _ _ h1 h2).1;rw [cA];rw [show j / (U e).sz*(U e).sz+j % (U e).sz=j from by rw [Nat.mul_comm]; exact Nat.div_add_mod j _] at this
      exact this)
     rw [i2];simpa [Builtin.firstCells,bQ] using this
   have rowx:Row c xs (U e).sz vx:=by
    by_cases hxn:xs= []
    ·subst hxn
     exact ⟨fun i hi=>(by cases hi),fun i hi=>(by cases hi),fun i j hi=>(by cases hi)⟩
    ·have hne:0<xs.length:=List.length_pos_iff.2 hxn
     have e1:sz=(U e).sz:=by rw [←sl.hz 0 hne]; exact hsx _ (V5 hne)
     subst e1;exact ⟨sl.hz,sl.hr,sl.ho⟩
   have grow:cap<xs.length+ys.length→∀id,(c.h id=none∨∃n m sz,c.h id=some (.spare n sz)∧Blk.spare (xs.length+ys.length) (U e).sz= .spare m sz∧n<m)→
     Q (.sl (xs++ys) (.own id)) (upd h id (some (.spare (xs.length+ys.length) (U e).sz)))→
     ∃r w',(Builtin.append_ #[ts,tx] ty #[.slice a xs.length cap,v]).run P c.w= .ok r w'∧dX c Q r w' :=by
    intro hg id hid hQ;have g1:Good {c with w:=c.w.drew}:=g.draw rfl rfl rfl rfl
    have e1:Ext c {c with w:=c.w.drew}:=Ext.draw rfl rfl rfl rfl
    obtain ⟨_,vy,rowy,hlen,hfirst⟩:=hsrc {c with w:=c.w.drew} v hs g1 (hy.mono e1) hsy
    rw [←i2] at hfirst;have hr:=lO (ty:=ty) hd htx' i1 z1 (hlen c.w) hfirst holds hg (by rw [i3]; exact hb) (by rw [i3]; exact hby)
    obtain ⟨hcap1,hcap2⟩:=vl c.w (xs.length+ys.length) cap e hbyte;generalize hcp:grownCap c.w (xs.length+ys.length) cap e=ncap at hr hcap1 hcap2;generalize hcells:(bQ (U e).sz xs.length vx).toArray++(bQ i.size ys.length vy).toArray++Builtin.zeroCells z.cells (ncap - (xs.length+ys.length))=cells at hr;rw [i2] at hcells;have hcs:cells.size=ncap*(U e).sz:=by
     rw [←hcells];simp only [Array.size_append,List.size_toArray,aQ,size_zeroCells,z2,←Nat.add_mul]
     congr 1
     omega
    refine ⟨_,_,hr,({c with w:=c.w.drew}:Cx).aA (.cells cells e) id ⟨c.w.heap.size,0,none⟩ (.spare (xs.length+ys.length) (U e).sz),_,_,rfl, ?_, ?_, ?_,hs.upd id _,hQ⟩
    ·exact g1.aA _ _ _ id _ _ rfl hid (fun cs t' hh=>by cases hh) (fun n sz hh=>⟨rfl,fun o ho=>by simp⟩)
    ·exact e1.trans (Ext.aA _ _ id _ _ rfl hid)
    ·have hE:=Ext.aA {c with w:=c.w.drew} (.cells cells e) id ⟨c.w.heap.size,0,none⟩ (.spare (xs.length+ys.length) (U e).sz) rfl hid
     have hE0:=e1.trans hE;have hl:(xs++ys).length=xs.length+ys.length:=by simp
     have e0:Value.slice (some ⟨c.w.heap.size,0,none⟩) (xs.length+ys.length) ncap=Value.slice (some ⟨c.w.heap.size,0,none⟩) (xs++ys).length ncap:=by rw [hl]
     rw [e0];refine .sl _ _ _ ncap (U e).sz (fun i j=>if i<xs.length then vx i j else vy (i - xs.length) j) (by omega) hcap2 (fun hh=>by cases hh)
      (fun q hq _=>by cases hq; exact ⟨rfl,by simp [Cx.aA]⟩) (fun i hi=> ?_) (fun q hq i j hi hj=> ?_) (fun i hi j hj=> ?_) (fun i j hi hj=> ?_) ?_
     ·rw [List.getElem_append]
      split
      ·exact rowx.hz _ _
      ·exact rowy.hz _ _
     ·cases hq
      refine ⟨?_, ?_⟩
      ·have hnew:((({c with w:=c.w.drew}:Cx).aA (.cells cells e) id ⟨c.w.heap.size,0,none⟩ (.spare (xs.length+ys.length) (U e).sz)).w.cell? ⟨c.w.heap.size,0+(i*(U e).sz+j),none⟩)=cells[i*(U e).sz+j]? :=by
        rw [Nat.zero_add];exact World.cell?_alloc_mark c.w.drew _ _ _ _
       rw [hnew,←hcells,Array.getElem?_append_left,Array.getElem?_append]
       ·simp only [List.size_toArray,aQ,List.getElem?_toArray]
        by_cases hix:i<xs.length
        ·have:i*(U e).sz+j<xs.length*(U e).sz:=by
          have:(i+1)*(U e).sz≤xs.length*(U e).sz:=Nat.mul_le_mul_right _ (by omega)
          rw [Nat.add_mul,Nat.one_mul] at this;omega
         rw [if_pos this,if_pos hix];exact gh hix hj
        ·have:¬(i*(U e).sz+j<xs.length*(U e).sz):=by
          have:xs.length*(U e).sz≤i*(U e).sz:=Nat.mul_le_mul_right _ (by omega)
          omega
         rw [if_neg this,if_neg hix];have e2:i*(U e).sz+j - xs.length*(U e).sz=(i - xs.length)*(U e).sz+j:=by
          have:xs.length*(U e).sz≤i*(U e).sz:=Nat.mul_le_mul_right _ (by omega)
          rw [Nat.sub_mul];omega
         rw [e2];exact gh (by omega) hj
       ·simp only [Array.size_append,List.size_toArray,aQ,←Nat.add_mul]
        have:(i+1)*(U e).sz≤(xs.length+ys.length)*(U e).sz:=Nat.mul_le_mul_right _ (by omega)
        rw [Nat.add_mul,Nat.one_mul] at this;omega
      ·rintro ⟨j',k',k1,k2,k3⟩
       by_cases ej:j' =id
       ·subst ej
        simp only [Cx.aA,ah,Option.some.injEq] at k1 k2 k3;subst k1;simp only [Blk.holds,Blk.start,Nat.zero_add] at k3;have:(i+1)*(U e).sz≤(xs.length+ys.length)*(U e).sz:=Nat.mul_le_mul_right _ (by omega)
        rw [Nat.add_mul i,Nat.one_mul] at this;omega
       ·simp only [Cx.aA,ag _ _ ej] at k1 k2
        have:=g.lt k1;omega
     ·have hi' :i<xs.length+ys.length:=by omega
      by_cases hix:i<xs.length
      ·simp only [if_pos hix]
       have e2:(xs++ys)[i]=xs[i]:=List.getElem_append_left hix;simp only [e2] at hj⊢;exact (rowx.hr i hix j hj).mono hE0
      ·simp only [if_neg hix]
       have e2:(xs++ys)[i]=ys[i - xs.length]:=List.getElem_append_right (by omega)
       simp only [e2] at hj⊢;exact (rowy.hr (i - xs.length) (by omega) j hj).mono hE
     ·by_cases hix:i<xs.length
      ·simp only [if_pos hix]; exact rowx.ho i j hix hj
      ·simp only [if_neg hix]; exact rowy.ho (i - xs.length) j (by omega) hj
     ·refine ⟨xs.length+ys.length,by simp [Cx.aA,ah],by omega,fun _=>⟨_,rfl,by simp [Cx.aA,ah],cells,e,(0,0), ?_, ?_⟩⟩
      ·exact heap_alloc_new c.w.drew _
      ·simp [hcs]
   split at hk
   ·exact hk.elim
   ·obtain ⟨hk1,hk2⟩:=hk
    have hcapn:cap=xs.length:=sl.hp
    by_cases hyn:ys= []
    ·subst hyn
     have hr:=lP (ty:=ty) hd htx' i1 (hlen c.w) (by rw [i2]; exact hfirst) (base:=a) (n:=xs.length) (cap:=cap) (by simp; omega)
     refine ⟨_,_, ?_,c,_,h,rfl,g, .refl c,sl.rep,hs,hk1 rfl⟩;rw [hr];cases a<;>simp [bQ,storeCells]
    ·have hpos:0<ys.length:=List.length_pos_iff.2 hyn
     have hfr:∀id,c.h id=none→h id=none:=fun id hid=>by
      cases hh:h id with
      |none=>rfl
      |some k=>rw [hs _ _ hh] at hid; cases hid
     rcases hk2 hyn with hk2|⟨hz1,hzf,hza,hna,hQ⟩|⟨hzf,hQ⟩
     ·obtain ⟨id,hid⟩:=g.fresh
      exact grow (by omega) id (.inl hid) (hk2 id (hfr id hid))
     ·obtain ⟨id,hid⟩:=g.fresh
      have g1:Good {c with w:=c.w.drew}:=g.draw rfl rfl rfl rfl
      have e1:Ext c {c with w:=c.w.drew}:=Ext.draw rfl rfl rfl rfl
      obtain ⟨_,vy,rowy,hlen,hfirst⟩:=hsrc {c with w:=c.w.drew} v hs g1 (hy.mono e1) hsy
      rw [←i2] at hfirst;have hr:=lO (ty:=ty) hd htx' i1 z1 (hlen c.w) hfirst holds (by omega) (by rw [i3]; exact hb) (by rw [i3]; exact hby)
      obtain ⟨hcap1,hcap2⟩:=vl c.w (xs.length+ys.length) cap e hbyte;generalize hcp:grownCap c.w (xs.length+ys.length) cap e=ncap at hr hcap1 hcap2;generalize hcells:(bQ (U e).sz xs.length vx).toArray++(bQ i.size ys.length vy).toArray++Builtin.zeroCells z.cells (ncap - (xs.length+ys.length))=cells at hr;rw [i2,hz1] at hcells;rw [hz1] at rowx rowy z2;have hcs:cells.size=ncap:=by
       rw [←hcells];simp only [Array.size_append,List.size_toArray,aQ,size_zeroCells,z2];omega
      obtain ⟨f1,f2,f3,f4⟩:=(z3 {c with w:=c.w.drew}).fits hzf
      have hzc:=jX hza;refine ⟨_,_,hr,({c with w:=c.w.drew}:Cx).aA (.cells cells e) id ⟨c.w.heap.size,0,none⟩ (.obj (xs++ys++List.replicate (ncap - (xs.length+ys.length)) (U e).zero) e),_,_,rfl, ?_,
       e1.trans (Ext.aA _ _ id _ _ rfl (.inl hid)), ?_,hs.upd id _,hQ id _ (hfr id hid)⟩
      ·refine g1.aA _ _ (0,0) id _ _ rfl (.inl hid) (fun cs t' hh=> ?_) (fun n sz hh=>by cases hh)
       cases hh;refine ⟨rfl,rfl,by simp [hcs]; omega,fun j hj=> ?_⟩
       have hj' :j<ncap:=by simp at hj; omega
       by_cases hj1:j<xs.length
       ·have e2:(xs++ys++List.replicate (ncap - (xs.length+ys.length)) (U e).zero)[j]=xs[j]:=by
         rw [List.getElem_append_left (by simp; omega),List.getElem_append_left hj1]
        have e3:cells.getD j undef=vx j 0:=by
         have h5:=gh (val:=vx) hj1 (show 0<1 by omega)
         rw [Nat.mul_one,Nat.add_zero] at h5;rw [←hcells,Array.getD_eq_getD_getElem?,Array.getElem?_append_left (by simp [aQ]; omega),Array.getElem?_append_left (by simp [aQ]; omega)]
         simp [h5]
        rw [e2,e3];have hc1:=jX (hna xs[j] (List.mem_append_left _ (V5 hj1)));have:=rowx.hr j hj1 0 (by rw [hc1]; simp)
        simp only [hc1,List.getElem_cons_zero] at this;exact ⟨this.mono e1,rowx.ho j 0 hj1 (by omega)⟩
       ·by_cases hj2:j<xs.length+ys.length
        ·have hj3:j - xs.length<ys.length:=by omega
         have e2:(xs++ys++List.replicate (ncap - (xs.length+ys.length)) (U e).zero)[j]=ys[j - xs.length]:=by
          rw [List.getElem_append_left (by simp; omega),List.getElem_append_right (by omega)]
         have e3:cells.getD j undef=vy (j - xs.length) 0:=by
          have h5:=gh (val:=vy) hj3 (show 0<1 by omega)
          rw [Nat.mul_one,Nat.add_zero] at h5;rw [←hcells,Array.getD_eq_getD_getElem?,Array.getElem?_append_left (by simp [aQ]; omega),Array.getElem?_append_right (by simp [aQ]; omega)]
          simp [aQ,h5]
         rw [e2,e3];have hc1:=jX (hna ys[j - xs.length] (List.mem_append_right _ (V5 hj3)));have:=rowy.hr (j - xs.length) hj3 0 (by rw [hc1]; simp)
         simp only [hc1,List.getElem_cons_zero] at this;exact ⟨this,rowy.ho _ 0 hj3 (by omega)⟩
        ·have e2:(xs++ys++List.replicate (ncap - (xs.length+ys.length)) (U e).zero)[j]=(U e).zero:=by
          rw [List.getElem_append_right (by simp; omega)]
          simp
         have e3:cells.getD j undef=z.cells.getD 0 undef:=by
          rw [←hcells,Array.getD_eq_getD_getElem?,Array.getElem?_append_right (by simp [aQ]; omega)]
          have h6:j - (xs.length+ys.length)<ncap - (xs.length+ys.length):=by omega
          simp only [Array.size_append,List.size_toArray,aQ,Nat.mul_one,Builtin.zeroCells,z2,Array.getElem?_map,Array.getElem?_range,h6,if_true,Option.map_some,Option.getD_some,Nat.mod_one];rw [getElem!_pos z.cells 0 (by omega),Array.getD,dif_pos (show 0<z.cells.size by omega)]
          rfl
         rw [e2,e3];have:=f3 0 (by rw [hzc]; simp)
         simp only [hzc,List.getElem_cons_zero] at this;exact ⟨this,f4 0 (by omega)⟩
      ·have:=Rep.oa (c:=({c with w:=c.w.drew}:Cx).aA (.cells cells e) id ⟨c.w.heap.size,0,none⟩ (.obj (xs++ys++List.replicate (ncap - (xs.length+ys.length)) (U e).zero) e)) id 0 (xs.length+ys.length) ncap 0 _ e
        (by simp [Cx.aA,ah]; rfl) (by omega) hcap2 (fun _=>⟨rfl,by simp; omega⟩)
       simpa [Cx.aA,ah] using this
     ·obtain ⟨hlx,hrx⟩:=rowx.flat (by omega)
      exact rq (P:=P) (U:=U) (tx:=tx) (ty:=ty) (Q:=Q) (a:=a) (cap:=cap) hd htx' i1 i2 i3 z1 z2 z3 c v hs g hy hsrc hsy hb hby hbyte hlx (aQ ..) hrx holds (by omega) hz hzf hQ
   ·rename_i id
    obtain ⟨hid,hk⟩:=hk;have hcid:=hs _ _ hid;obtain ⟨m,p1,p2,p3⟩:=sl.hp;rw [hcid] at p1;simp only [Option.some.injEq,Blk.spare.injEq] at p1;obtain ⟨rfl,rfl⟩:=p1;obtain ⟨q,rfl,hφ,cs,t,fr,q1,q2⟩:=p3 rfl;have hq1:q.spot=none:=by rw [←hφ]; exact (g.spare id _ _ hcid).1
    have hq2:q.block<c.w.heap.size:=(Array.getElem?_eq_some_iff.1 q1).1
    by_cases hroom:xs.length+ys.length≤cap
    ·have hr:=lP (ty:=ty) hd htx' i1 (hlen c.w) (by rw [i2]; exact hfirst) (base:=some q) (n:=xs.length) (cap:=cap) hroom
     obtain ⟨bq,oq,sq⟩:=q;simp only at hq1 hq2 q1 q2; subst hq1
     rw [i2] at hr;simp only [cA] at hr;have hcap' :(xs.length+ys.length)*(U e).sz≤cap*(U e).sz:=Nat.mul_le_mul_right _ hroom;rw [Nat.add_mul] at hcap';obtain ⟨_,cs1,t1,fr1,s1,s2⟩:=g.spare id _ _ hcid;have hb1:(c.φ id).block=bq:=by rw [hφ]
     have ho1:(c.φ id).off=oq:=by rw [hφ]
     rw [hb1,q1] at s1;cases s1;rw [ho1] at s2;have hst:=run_storeCells_cells (P:=P) bq (oq+xs.length*(U e).sz) (bQ (U e).sz ys.length vy) 0 c.w (fun j hj=>by
      rw [aQ] at hj;simp [World.cell?,q1];omega) (fun j hj=>by
      have:=s2 (oq+xs.length*(U e).sz+0+j) (by omega)
      simp only [World.frozen?,q1];simpa using this) (Fc rowy (by omega))
     rw [Nat.add_zero] at hst;simp only [hst,Result.andThen_ok] at hr
     by_cases hyn:ys= []
     ·subst hyn
      refine ⟨_,_,hr,c,_,_,by simp [bQ,World.setCells],g, .refl c, ?_, ?_,hk⟩
      ·simpa using sl.rep
      ·intro j l hj
       by_cases ej:j=id
       ·subst ej
        rw [ah] at hj;simp only [List.length_nil,Nat.add_zero] at hj;rw [hcid]; exact hj
       ·rw [ag _ _ ej] at hj
        exact hs _ _ hj
     ·have hypos:0<ys.length:=List.length_pos_iff.2 hyn
      have hfill:(c.fill id (oq+xs.length*(U e).sz) (bQ (U e).sz ys.length vy) (.spare (xs.length+ys.length) (U e).sz)).w=c.w.setCells bq (oq+xs.length*(U e).sz) (bQ (U e).sz ys.length vy):=by
       simp only [Cx.fill,hb1]
      have hE:=Ext.fill (c:=c) id (oq+xs.length*(U e).sz) (bQ (U e).sz ys.length vy) (.spare xs.length (U e).sz) (.spare (xs.length+ys.length) (U e).sz) hcid
       (by simp only [Blk.holds,Blk.start]; omega) (.inr ⟨_,_,_,rfl,rfl,by omega⟩)
      have hG:=g.E5 id (oq+xs.length*(U e).sz) (bQ (U e).sz ys.length vy) xs.length (xs.length+ys.length) (U e).sz hcid (by omega) (by omega)
      refine ⟨_,_,hr,c.fill id (oq+xs.length*(U e).sz) (bQ (U e).sz ys.length vy) (.spare (xs.length+ys.length) (U e).sz),_,_,hfill,hG,hE, ?_,hs.upd id _,hk⟩;have hl:(xs++ys).length=xs.length+ys.length:=by simp
      have e0:Value.slice (some ⟨bq,oq,none⟩) (xs.length+ys.length) cap=Value.slice (some ⟨bq,oq,none⟩) (xs++ys).length cap:=by rw [hl]
      rw [e0];have hown:∀x,(owned (c.fill id (oq+xs.length*(U e).sz) (bQ (U e).sz ys.length vy) (.spare (xs.length+ys.length) (U e).sz)) bq x)→oq+(xs.length+ys.length)*(U e).sz≤x:=by
       rintro x ⟨j',k',k1,k2,k3⟩
       by_cases ej:j' =id
       ·subst ej
        simp only [Cx.fill,ah,Option.some.injEq] at k1 k2 k3;subst k1;simp only [Blk.holds,Blk.start] at k3;rw [ho1] at k3;exact k3
       ·simp only [Cx.fill,ag _ _ ej] at k1 k2
        exact (g.inj j' id _ _ k1 hcid ej (k2.trans hb1.symm)).elim
      refine .sl _ _ _ cap (U e).sz (fun i j=>if i<xs.length then vx i j else vy (i - xs.length) j) (by omega) hcm (fun hh=>by cases hh)
       (fun q hq _=>by cases hq; exact ⟨rfl,by rw [hfill,mq]; exact hq2⟩) (fun i hi=> ?_) (fun q hq i j hi hj=> ?_) (fun i hi j hj=> ?_) (fun i j hi hj=> ?_) ?_
      ·rw [List.getElem_append]
       split
       ·exact rowx.hz _ _
       ·exact rowy.hz _ _
      ·cases hq
       have hi2:(i+1)*(U e).sz≤(xs.length+ys.length)*(U e).sz:=Nat.mul_le_mul_right _ (by omega)
       rw [Nat.add_mul i,Nat.one_mul] at hi2;refine ⟨?_,fun ho=> ?_⟩
       ·rw [hfill]
        by_cases hix:i<xs.length
        ·have:(i+1)*(U e).sz≤xs.length*(U e).sz:=Nat.mul_le_mul_right _ (by omega)
         rw [Nat.add_mul,Nat.one_mul] at this;rw [if_pos hix,World.cell?_setCells_out _ _ _ _ _ (fun _ _=> .inl (by simp only; omega))]
         exact (sl.hf _ rfl i j hix hj).1
        ·have h5:xs.length*(U e).sz≤i*(U e).sz:=Nat.mul_le_mul_right _ (by omega)
         have h6:oq+(i*(U e).sz+j)=oq+xs.length*(U e).sz+((i - xs.length)*(U e).sz+j):=by
          rw [Nat.sub_mul]; omega
         have h7:(i - xs.length)*(U e).sz+j<ys.length*(U e).sz:=by
          have:(i - xs.length+1)*(U e).sz≤ys.length*(U e).sz:=Nat.mul_le_mul_right _ (by omega)
          rw [Nat.add_mul,Nat.one_mul] at this;omega
         rw [if_neg hix];simp only [h6];rw [World.cell?_setCells_in bq _ _ c.w (fun j hj=>by
          rw [aQ] at hj;have:oq+xs.length*(U e).sz+j<cs.size:=by omega
          simp [World.cell?,q1,this]) _ (by rw [aQ]; exact h7)]
         have:=gh (val:=vy) (show i - xs.length<ys.length by omega) hj
         rw [List.getElem?_eq_getElem (by rw [aQ]; exact h7)] at this
         exact this
       ·have:=hown _ ho
        simp only at this;omega
      ·have hi' :i<xs.length+ys.length:=by omega
       by_cases hix:i<xs.length
       ·simp only [if_pos hix]
        have e2:(xs++ys)[i]=xs[i]:=List.getElem_append_left hix;simp only [e2] at hj⊢;exact (rowx.hr i hix j hj).mono hE
       ·simp only [if_neg hix]
        have e2:(xs++ys)[i]=ys[i - xs.length]:=List.getElem_append_right (by omega)
        simp only [e2] at hj⊢;exact (rowy.hr (i - xs.length) (by omega) j hj).mono hE
      ·by_cases hix:i<xs.length
       ·simp only [if_pos hix]; exact rowx.ho i j hix hj
       ·simp only [if_neg hix]; exact rowy.ho (i - xs.length) j (by omega) hj
      ·obtain ⟨cs2,r1,r2⟩:=eW bq (bQ (U e).sz ys.length vy) (oq+xs.length*(U e).sz) c.w cs t fr q1
       exact ⟨xs.length+ys.length,by simp [Cx.fill,ah],by omega,fun _=>⟨_,rfl,by simp only [Cx.fill]; exact hφ,cs2,t,fr,by rw [hfill]; exact r1,by simp only; omega⟩⟩
    ·exact grow (by omega) id (.inr ⟨_,_,_,hcid,rfl,by omega⟩) hk
  ·rename_i id off len
   obtain ⟨hz1,hk⟩:=hk;obtain ⟨ys,hk',hsrc⟩:=o9 (P:=P) hz hk;clear hk;obtain ⟨hsy,hna,hb,hk⟩:=hk';split at hk
   ·rename_i cs t hid
    obtain ⟨hle,hnx,hzf,hza,hQ1,hQ2⟩:=hk;have hcid:=hs _ _ hid;have hsy' :Sized (U e).sz ys:=by rw [hz1]; exact hsy
    obtain ⟨cap,o',rfl,hc1,hc2,_,cs',t',hcs,hcp⟩:=hx.mZ;rw [hcid] at hcs;simp only [Option.some.injEq,Blk.obj.injEq] at hcs;obtain ⟨rfl,rfl⟩:=hcs;obtain ⟨us,u1,u2,u3⟩:=g.obj id cs t hcid;obtain ⟨hyl,vy,rowy,hlen,hfirst⟩:=hsrc c v hs g hy hsy';have hbyte:len+ys.length<lim:=by
     have:(len+ys.length)≤(len+ys.length)*(U e).bytes:=Nat.le_mul_of_pos_right _ (by omega)
     simp only [lim]; omega
    have hcellsy:∀i (hi:i<ys.length),ys[i].cells= [ys[i]]:=fun i hi=>jX (hna _ (V5 hi))
    by_cases hroom:len+ys.length≤cap
    ·have hr:=lP (ty:=ty) hd htx' i1 (hlen c.w) (by rw [i2]; exact hfirst) (base:=some ⟨(c.φ id).block,o',none⟩) (n:=len) (cap:=cap) hroom
     rw [i2,hz1,Nat.mul_one] at hr;simp only [cA] at hr
     by_cases hyn:ys= []
     ·subst hyn
      refine ⟨_,_,hr,c, .oa id off (len+0),_, ?_,g, .refl c, .oa id off len cap o' cs t hcid (by omega) hc2 hcp, ?_,hQ1 (by simpa using hle)⟩
      ·simp [bQ]
      ·intro j l hj
       by_cases ej:j=id
       ·subst ej
        rw [ah] at hj;rw [hcid,←hj];simp [over]
       ·rw [ag _ _ ej] at hj
        exact hs _ _ hj
     ·have hypos:0<ys.length:=List.length_pos_iff.2 hyn
      obtain ⟨rfl,hcl⟩:=hcp (by omega)
      have hget:∀j,j<ys.length→(bQ 1 ys.length vy).getD j undef=vy j 0:=fun j hj=>by
       have:=gh (sz:=1) (n:=ys.length) (val:=vy) hj (show 0<1 by omega)
       rw [Nat.mul_one,Nat.add_zero] at this;simp [List.getD,this]
      rw [hz1] at rowy;obtain ⟨s1,s2⟩:=iu (P:=P) (off:=o' +len) (xs:=ys) (vs:=bQ 1 ys.length vy) (u:= .slice (some ⟨(c.φ id).block,o',none⟩) (len+ys.length) cap) (X:= .oa id o' (len+ys.length)) hs g hid (by simp [aQ]) (by omega)
       (fun j hj=>by
        rw [hget j hj];have:=rowy.hr j hj 0 (by rw [hcellsy j hj]; simp)
        simp only [hcellsy j hj,List.getElem_singleton] at this;exact ⟨this,rowy.ho j 0 hj (by omega)⟩) (fun c' hE=>(Rep.oa id o' (len+ys.length) cap o' cs t hcid hroom hc2 (fun _=>⟨rfl,hcl⟩)).mono hE) (hQ1 (by omega))
      rw [s1] at hr;exact ⟨_,_,hr,s2⟩
    ·
     have hxl:((cs.drop off).take len).length=len:=by rw [List.length_take,List.length_drop]; omega
     have hcx:∀i (hi:i<((cs.drop off).take len).length),((cs.drop off).take len)[i].cells= [((cs.drop off).take len)[i]]:=fun i hi=>jX (hnx _ (V5 hi))
     have rowx:Row c ((cs.drop off).take len) (U e).sz (fun i _=>us.getD (off+i) undef):=by
      refine ⟨fun i hi=>by rw [hcx i hi,hz1]; rfl,fun i hi j hj=> ?_,fun i j hi hj=>(u3 (off+i) (by omega)).2⟩
      have hj' :=hj;rw [hcx i hi] at hj';have ej:j=0:=by simp only [List.length_singleton] at hj'; omega
      subst ej;have e1:((cs.drop off).take len)[i].cells[0]=cs[off+i]'(by omega):=by
       simp only [hcx i hi,List.getElem_singleton];simp
      rw [e1];exact (u3 (off+i) (by omega)).1
     have holds:(Builtin.firstCells i.size ((cs.drop off).take len).length (.slice (some ⟨(c.φ id).block,o',none⟩) ((cs.drop off).take len).length cap)).run P c.w.drew= .ok (bQ (U e).sz ((cs.drop off).take len).length (fun i _=>us.getD (off+i) undef)).toArray c.w.drew:=by
      rw [i2,hz1,hxl]
      by_cases h0:len=0
      ·subst h0
       simp [Builtin.firstCells,bQ,loadCells,loadCellsFrom]
      ·obtain ⟨rfl,_⟩:=hcp (by omega)
       have hd1:c.w.drew.heap=c.w.heap:=rfl;have:=run_loadCells (P:=P) c.w.drew ⟨(c.φ id).block,o',none⟩ (len*1) (fun q=>us.getD (o' +q / 1) undef) (fun j hj=>by
        rw [cA];have:o' +j<us.size:=by omega
        simp [World.cell?,hd1,u1,this])
       simpa [Builtin.firstCells,bQ] using this
     have:=xu (P:=P) (U:=U) (tx:=tx) (ty:=ty) (Q:=Q) (a:=some ⟨(c.φ id).block,o',none⟩) (cap:=cap) hd htx' i1 i2 i3 z1 z2 z3 c v hs g hy hsrc hsy' (by rw [hxl]; exact hb) hby (by rw [hxl]; exact hbyte) rowx holds (by rw [hxl]; omega) hz1 hzf hza
      (fun z hz=>(List.mem_append.1 hz).elim (hnx z) (hna z)) (by rw [hxl]; exact hQ2)
     rwa [hxl] at this
   ·exact hk.elim
  ·rename_i id off len cap0 sz0
   obtain ⟨rfl,hk⟩:=hk;obtain ⟨ys,hk',hsrc⟩:=o9 (P:=P) hz hk;clear hk;obtain ⟨hsy,hb,hk⟩:=hk';split at hk
   ·rename_i cs t hid
    obtain ⟨hle,hzf,hQ1,hQ2⟩:=hk;have hcid:=hs _ _ hid;obtain ⟨o',rfl,hc1,hc2,cs',t',hcs,hcp⟩:=hx.iK;rw [hcid] at hcs;simp only [Option.some.injEq,Blk.obj.injEq] at hcs;obtain ⟨rfl,rfl⟩:=hcs;obtain ⟨us,u1,u2,u3⟩:=g.obj id cs t hcid;obtain ⟨hyl,vy,rowy,hlen,hfirst⟩:=hsrc c v hs g hy hsy;obtain ⟨hly,hry⟩:=rowy.flat (by omega)
    have hbyte:len+ys.length<lim:=by
     have:(len+ys.length)≤(len+ys.length)*(U e).bytes:=Nat.le_mul_of_pos_right _ (by omega)
     simp only [lim]; omega
    by_cases hroom:len+ys.length≤cap0
    ·have hr:=lP (ty:=ty) hd htx' i1 (hlen c.w) (by rw [i2]; exact hfirst) (base:=some ⟨(c.φ id).block,o',none⟩) (n:=len) (cap:=cap0) hroom
     rw [i2] at hr;simp only [cA] at hr
     by_cases hyn:ys= []
     ·subst hyn
      have e0:bQ (U e).sz ([]:List AV).length vy= []:=by simp [bQ]
      rw [e0] at hr;refine ⟨_,_,hr,c, .ob id off (len+0) cap0 (U e).sz,_, ?_,g, .refl c, .ob id off len cap0 (U e).sz o' cs t hcid (by omega) hc2 hcp, ?_,hQ1 (by simpa using hroom)⟩
      ·simp [bQ]
      ·intro j l hj
       by_cases ej:j=id
       ·subst ej
        rw [ah] at hj;rw [hcid,←hj];simp [over,aq]
       ·rw [ag _ _ ej] at hj
        exact hs _ _ hj
     ·have hypos:0<ys.length:=List.length_pos_iff.2 hyn
      obtain ⟨rfl,hcl⟩:=hcp (by omega)
      have hfits:o' +len*(U e).sz+(aq ys).length≤cs.length:=by
       have:(len+ys.length)*(U e).sz≤cap0*(U e).sz:=Nat.mul_le_mul_right _ hroom;rw [Nat.add_mul] at this;omega
      obtain ⟨s1,s2⟩:=iu (P:=P) (off:=o' +len*(U e).sz) (xs:=aq ys) (vs:=bQ (U e).sz ys.length vy) (u:= .slice (some ⟨(c.φ id).block,o',none⟩) (len+ys.length) cap0) (X:= .ob id o' (len+ys.length) cap0 (U e).sz) hs g hid (by rw [aQ,hly]) hfits
       hry (fun c' hE=>(Rep.ob id o' (len+ys.length) cap0 (U e).sz o' cs t hcid hroom hc2 (fun _=>⟨rfl,hcl⟩)).mono hE) (hQ1 hroom)
      rw [s1] at hr;exact ⟨_,_,hr,s2⟩
    ·have hxl:((cs.drop off).take (len*(U e).sz)).length=len*(U e).sz:=by rw [List.length_take,List.length_drop]; omega
     have holds:(Builtin.firstCells i.size len (.slice (some ⟨(c.φ id).block,o',none⟩) len cap0)).run P c.w.drew= .ok ((List.range (len*(U e).sz)).map fun q=>us.getD (off+q) undef).toArray c.w.drew:=by
      rw [i2]
      by_cases h0:len=0
      ·subst h0
       simp [Builtin.firstCells,loadCells,loadCellsFrom]
      ·obtain ⟨rfl,_⟩:=hcp (by omega)
       have hd1:c.w.drew.heap=c.w.heap:=rfl;have:=run_loadCells (P:=P) c.w.drew ⟨(c.φ id).block,o',none⟩ (len*(U e).sz) (fun q=>us.getD (o' +q) undef) (fun j hj=>by
        rw [cA];have:o' +j<us.size:=by omega
        simp [World.cell?,hd1,u1,this])
       simpa [Builtin.firstCells] using this
     exact rq (P:=P) (U:=U) (tx:=tx) (ty:=ty) (Q:=Q) (a:=some ⟨(c.φ id).block,o',none⟩) (cap:=cap0) (m:=len) hd htx' i1 i2 i3 z1 z2 z3 c v hs g hy hsrc hsy hb hby hbyte hxl (by simp) (fun j hj=>by
       have hj2:j<len*(U e).sz:=by omega
       have e2:((cs.drop off).take (len*(U e).sz))[j]=cs[off+j]'(by omega):=by simp
       have e3:((List.range (len*(U e).sz)).map fun q=>us.getD (off+q) undef).getD j undef=us.getD (off+j) undef:=by simp [List.getD_eq_getElem?_getD,hj2]
       rw [e2,e3];exact u3 _ _) holds (by omega) hz hzf (hQ2 (by omega))
   ·exact hk.elim
  ·exact hk.elim
 ·exact hk.elim
theorem EI (hU:∀t,aN P U t) {h:Heap} {ts tx ty:TypeId} {x y:AV} {Q:AV→Heap→Prop} {ki:IntKind} (htx:(U tx).k= .int ki) (hk:Cb U h ts x y Q) (c:Cx) (u v:Value)
  (hs:Sub h c.h) (g:Good c) (hx:Rep c x u) (hy:Rep c y v):
  ∃r w',(Builtin.append_ #[ts,tx] ty #[u,v]).run P c.w= .ok r w'∧dX c Q r w' :=by
 unfold Cb at hk;have hd:=(hU ts).desc;have hdx:=(hU tx).desc;rw [htx] at hdx;split at hk
 ·rename_i e hty
  rw [hty] at hd;split at hk
  ·rename_i id off len cap0 sz0
   split at hk
   ·rename_i kk n
    obtain ⟨hz,hby,rfl,hn,hb,hzf,hgr,hk⟩:=hk;split at hk
    ·rename_i cs t hid
     obtain ⟨hle,hQ⟩:=hk;obtain ⟨i,i1,i2,i3,z,z1,z2,z3⟩:=(hU e).info hz;have hcid:=hs _ _ hid;obtain ⟨o',rfl,hc1,hc2,cs',t',hcs,hcp⟩:=hx.iK;rw [hcid] at hcs;simp only [Option.some.injEq,Blk.obj.injEq] at hcs;obtain ⟨rfl,rfl⟩:=hcs;obtain ⟨us,u1,u2,u3⟩:=g.obj id cs t hcid;have hbyte:len+n.toNat<lim:=by
      have:(len+n.toNat)≤(len+n.toNat)*(U e).bytes:=Nat.le_mul_of_pos_right _ (by omega)
      simp only [lim]; omega
     have hxl:((cs.drop off).take (len*(U e).sz)).length=len*(U e).sz:=by rw [List.length_take,List.length_drop]; omega
     have holds:(Builtin.firstCells i.size len (.slice (some ⟨(c.φ id).block,o',none⟩) len cap0)).run P c.w.drew= .ok ((List.range (len*(U e).sz)).map fun q=>us.getD (off+q) undef).toArray c.w.drew:=by
      rw [i2]
      by_cases h0:len=0
      ·subst h0
       simp [Builtin.firstCells,loadCells,loadCellsFrom]
      ·obtain ⟨rfl,_⟩:=hcp (by omega)
       have hd1:c.w.drew.heap=c.w.heap:=rfl;have:=run_loadCells (P:=P) c.w.drew ⟨(c.φ id).block,o',none⟩ (len*(U e).sz) (fun q=>us.getD (o' +q) undef) (fun j hj=>by
        rw [cA];have:o' +j<us.size:=by omega
        simp [World.cell?,hd1,u1,this])
       simpa [Builtin.firstCells] using this
     obtain rfl:=hy.bS;have hn' :n=(n.toNat:Int):=by omega
     rw [hn'];exact A2 (P:=P) (U:=U) (tx:=tx) (ty:=ty) (Q:=Q) (a:=some ⟨(c.φ id).block,o',none⟩) (cap:=cap0) (m:=len) (n:=n.toNat) hd hdx i1 i2 i3 z1 z2 z3 c hs g (by omega) hb hby hbyte hxl (by simp) (fun j hj=>by
       have hj2:j<len*(U e).sz:=by omega
       have e2:((cs.drop off).take (len*(U e).sz))[j]=cs[off+j]'(by omega):=by simp
       have e3:((List.range (len*(U e).sz)).map fun q=>us.getD (off+q) undef).getD j undef=us.getD (off+j) undef:=by simp [List.getD_eq_getElem?_getD,hj2]
       rw [e2,e3];exact u3 _ _) holds (by omega) hz hzf hQ
    ·exact hk.elim
   ·exact hk.elim
  ·exact hk.elim
 ·exact hk.elim
end
section
variable {P : Program} {U : TypeId → TI}
def callable (P : Program) (f : FuncId) : Prop := ∃ fn, P.funcs[f]? = some fn ∧ (fn.name == "runtime.NumGoroutine") = false ∧ fn.body.isNone = false
def xS (P:Program) (f:FuncId) (vs:Array Value) (w:World) (K:Value→World→Prop):Prop:=
 (callable P f∧Calls P f vs w fun e w' =>∃u,e= .returned u∧K u w')∨∃u w',(callFunc f vs).run P w= .ok (.value u) w'∧K u w'
theorem xS.mono {f:FuncId} {vs:Array Value} {w:World} {K K' :Value→World→Prop} (h:xS P f vs w K) (hk:∀u w',K u w'→K' u w'):xS P f vs w K' :=by
 rcases h with ⟨h1,h2⟩|⟨u,w',h1,h2⟩
 ·exact .inl ⟨h1,h2.mono fun e w' ⟨u,h3,h4⟩=>⟨u,h3,hk _ _ h4⟩⟩
 ·exact .inr ⟨u,w',h1,hk _ _ h2⟩
theorem oc {f:FuncId} (hc:callable P f) (vs:Array Value) (w:World):(callFunc f vs).run P w= .ok (.enter f vs) w:=by
 obtain ⟨fn,hfn,hname,hbody⟩:=hc;have h3 : fn.name ≠ "runtime.NumGoroutine" := by simpa using hname
 have h4:fn.body≠none:=fun hh=>by rw [hh] at hbody; cases hbody
 simp [callFunc,hfn,h3,h4]
theorem xS.calls {f:FuncId} {vs:Array Value} {w:World} {K:Value→World→Prop} (hc:callable P f) (h:xS P f vs w K):Calls P f vs w fun e w' =>∃u,e= .returned u∧K u w' :=by
 rcases h with ⟨h1,h2⟩|⟨u,w',h1,h2⟩
 ·exact h2
 ·rw [oc hc] at h1; cases h1
def ak (P:Program) (f:FuncId) (args:List AV) (h:Heap) (Q:AV→Heap→Prop):Prop:=
 ∀c (vs:Array Value),Sub h c.h→Good c→vs.size=args.length→(∀i (hi:i<args.length),Rep c args[i] (vs.getD i undef))→xS P f vs c.w (dX c Q)
theorem dX.mono {c:Cx} {Q Q' :AV→Heap→Prop} {u:Value} {w' :World} (h:dX c Q u w') (hq:∀x h,Q x h→Q' x h):dX c Q' u w' :=by
 obtain ⟨c',x,h',h1,h2,h3,h4,h5,h6⟩:=h;exact ⟨c',x,h',h1,h2,h3,h4,h5,hq _ _ h6⟩
theorem ak.mono {f:FuncId} {args:List AV} {h:Heap} {Q Q' :AV→Heap→Prop} (hf:ak P f args h Q) (hq:∀x h,Q x h→Q' x h):ak P f args h Q' :=
 fun c vs h1 h2 h3 h4=>(hf c vs h1 h2 h3 h4).mono fun u w' h6=>h6.mono hq
def Cz (y:AV) (n:Nat):AV:=match y with
 | .ob id off len cap sz=> .ob id off (min len n) cap sz
 |y=>y
theorem GX {c:Cx} {y:AV} {u:Value} (n:Nat) (h:Rep c y u):∃u',Rep c (Cz y n) u'∧(∀sz k,Builtin.firstCells sz k u' =Builtin.firstCells sz k u)∧
  ∀w m,(Builtin.lenOf u').run P w= .ok m w→m≤n→∃m',(Builtin.lenOf u).run P w= .ok m' w∧Nat.min m' n=m:=by
 cases y with
 |ob id off len cap sz=>
  obtain ⟨o,rfl,h1,h2,cs,t,h3,h4⟩:=h.iK;refine ⟨.slice (some ⟨(c.φ id).block,o,none⟩) (min len n) cap, .ob _ _ _ _ _ _ cs t h3 (by omega) h2 h4,fun _ _=>rfl,fun w m hm hn=>⟨len,by simp [Builtin.lenOf], ?_⟩⟩
  simp only [Builtin.lenOf,Sem.run_pure,Result.ok.injEq,and_true] at hm;exact hm
 |_=>exact ⟨u,h,fun _ _=>rfl,fun w m hm hn=>⟨m,hm,Nat.min_eq_left hn⟩⟩
def Aa (U:TypeId→TI) (h:Heap) (ts:TypeId) (x y:AV) (Q:AV→Heap→Prop):Prop:=
 match (U ts).k with
 | .slice e=>match x with
  | .oa id off len=>(U e).sz=1∧jq U e h y fun ys=>Sized 1 ys∧(∀z∈ys,bA z=false)∧match h id with
   |some (.obj cs t)=>ys.length≤len∧off+len≤cs.length∧Q (.v (.int .i64 ys.length)) (upd h id (some (.obj (over cs off ys) t)))
   |_=>False
  | .ob id off len _ sz=>(U e).sz≠0∧sz=(U e).sz∧jq U e h (Cz y len) fun ys=>Sized (U e).sz ys∧match h id with
   |some (.obj cs t)=>ys.length≤len∧off+len*(U e).sz≤cs.length∧Q (.v (.int .i64 ys.length)) (upd h id (some (.obj (over cs off (aq ys)) t)))
   |_=>False
  |_=>False
 |_=>False
def Da:Operand→Bool
 | .const (.slice none _ _)=>true
 |_=>false
def I9 (U:TypeId→TI) (h:Heap) (op:BinOp) (ty:TypeId) (x:AV) (Q:AV→Heap→Prop):Prop:=
 match (U ty).k,op,x with
 | .slice _, .eql, .sl xs _=>∀b:Bool,(xs≠ []→b=false)→Q (.v (.bool b)) h
 | .slice _, .neq, .sl xs _=>∀b:Bool,(xs≠ []→b=true)→Q (.v (.bool b)) h
 | .slice _, .eql, .oa .. =>Q (.v (.bool false)) h
 | .slice _, .neq, .oa .. =>Q (.v (.bool true)) h
 | .slice _, .eql, .ob .. =>Q (.v (.bool false)) h
 | .slice _, .neq, .ob .. =>Q (.v (.bool true)) h
 |_,_,_=>False
def Oy (sz m id:Nat):AV:=if sz=1 then .oa id 0 m else .ob id 0 m m sz
def xH (m:List (AV×AV)) (b v:AV):List (AV×AV):=if (getM m b).isSome then m.map (fun p=>if pW p.1 b then (p.1,v) else p) else m++ [(b,v)]
def Es (U:TypeId→TI) (ρ:Env) (mt:TypeId):Option Operand→Prop
 |none=>True
 |some x=>(∃kt e,(U mt).k= .map kt e)∧withv ρ x fun a=>∃kk n,a= .v (.int kk n)
def aZ (P:Program) (U:TypeId→TI) (ρ:Env) (h:Heap) (o:Oper) (Q:AV→Heap→Prop):Prop:=
 match o.op with
 | .alloc t=>if isUnit (U t).k then∀id,h id=none→Q (.ptr id 0) (upd h id (some (.obj [] t))) else (U t).sz≠0∧fit (U t).zero (U t).sz∧∀id,h id=none→Q (.ptr id 0) (upd h id (some (.obj (U t).zero.cells t)))
 | .box t x=>(U t).sz≠0∧withv ρ x fun y=>fit y (U t).sz∧∀id,h id=none→Q (.ptr id 0) (upd h id (some (.obj y.cells t)))
 | .store t a x=>if isUnit (U t).k then withv ρ a fun p=>withv ρ x fun y=>y= .agg []∧match p with
   | .ptr .. =>Q (.v undef) h
   |_=>False
  else (U t).sz≠0∧withv ρ a fun p=>withv ρ x fun y=>match p with
  | .ptr id off=>match h id with
   |some (.obj cs t')=>fit y (U t).sz∧off+(U t).sz≤cs.length∧Q (.v undef) (upd h id (some (.obj (over cs off y.cells) t')))
   |_=>False
  |_=>False
 | .makeSlice t l m=>withv ρ l fun a=>withv ρ m fun b=>match (U t).k,a,b with
  | .slice e, .v (.int _ n), .v (.int _ n')=>n=n'∧0≤n∧n<lim∧n*(U e).bytes≤281474976710656∧(U e).sz≠0∧fit (U e).zero (U e).sz∧
   ∀id,h id=none→Q (Oy (U e).sz n.toNat id) (upd h id (some (.obj (cG (U e).zero n.toNat (U e).sz) e)))
  |_,_,_=>False
 | .makeMap mt r=>Es U ρ mt r∧∀id,h id=none→Q (.mp id) (upd h id (some (.mp [])))
 | .mapUpdate mt x y z=>withv ρ x fun a=>withv ρ y fun b=>withv ρ z fun v=>match (U mt).k,a with
  | .map kt e, .mp id=>fZ (U kt).k b∧match h id with
   |some (.mp m)=>(∀p∈m,fZ (U kt).k p.1)∧Q (.v undef) (upd h id (some (.mp (xH m b v))))
   |_=>False
  |_,_=>False
 | .call c=>match c.callee with
  | .value q=>withv ρ q fun y=>match y with
   | .fn f cap=>withvs ρ c.args.toList fun ys=>ak P f (ys++cap) h Q
   |_=>False
  | .builtin .append=>match c.args.toList,c.argTypes.toList with
   | [x,y],[ts,tx]=>withv ρ x fun a=>withv ρ y fun b=>apT (pz U h ts a b Q) (Cb U h ts a b Q) (U tx).k
   |_,_=>False
  | .builtin .copy=>match c.args.toList,c.argTypes.toList with
   | [x,y],[ts,_]=>withv ρ x fun a=>withv ρ y fun b=>Aa U h ts a b Q
   |_,_=>False
  |_=>pv U ρ h o.op fun x=>Q x h
 | .binOp op ty x y _=>if Da y then withv ρ x fun a=>I9 U h op ty a Q else pv U ρ h o.op fun x=>Q x h
 |_=>pv U ρ h o.op fun x=>Q x h
def jU (P:Program) (c:Cx) (Q:AV→Heap→Prop):Result Next→Prop
 | .ok (.value u) w' =>dX c Q u w'
 | .ok .skip w' =>dX c Q undef w'
 | .ok (.enter f args) w' =>w' =c.w∧Calls P f args w' fun e w'' =>∃u,e= .returned u∧dX c Q u w''
 |_=>False
theorem th {ρ:Env} {h:Heap} {o:Oper} {Q:AV→Heap→Prop} (hU:∀t,aN P U t) (hp:pv U ρ h o.op fun x=>Q x h) {c:Cx} {a:Act} {n:Nat} (hs:Sub h c.h) (g:Good c) (he:cj c n ρ a):
  jU P c Q ((execOp a.eval o).run P c.w):=by
 obtain ⟨X,hQ,hX⟩:=wL hU hp;obtain ⟨u,c',h1,h2,h3,h4,h5⟩:=hX c a n hs g he;rw [h1];exact ⟨c',X,h,rfl,h2,h3,h5,by rw [h4]; exact hs,hQ⟩
theorem AX {h:Heap} {c:Cx} (hs:Sub h c.h) {id:Nat} (hid:c.h id=none):h id=none:=by
 cases hh:h id with
 |none=>rfl
 |some k=>rw [hs _ _ hh] at hid; cases hid
theorem mX {c:Cx} {h:Heap} {t:TypeId} {y:AV} {u:Value} {n:Nat} {Q:AV→Heap→Prop} (hs:Sub h c.h) (g:Good c) (hr:Rep c y u) (hf:fit y n)
  (hQ:∀id,h id=none→Q (.ptr id 0) (upd h id (some (.obj y.cells t)))):dX c Q (.pointer (some ⟨c.w.heap.size,0,none⟩)) (c.w.alloc (.cells u.cells t)):=by
 obtain ⟨id,hid⟩:=g.fresh;obtain ⟨f1,f2,f3,f4⟩:=hr.fits hf;refine ⟨c.aA (.cells u.cells t) id ⟨c.w.heap.size,0,none⟩ (.obj y.cells t),_,_,rfl, ?_,Ext.aA c _ id _ _ rfl (.inl hid), ?_,hs.upd id _,hQ id (AX hs hid)⟩
 ·refine g.aA _ _ (0,0) id _ _ rfl (.inl hid) (fun cs t' hh=> ?_) (fun n sz hh=>by cases hh)
  cases hh;exact ⟨rfl,rfl,by omega,fun j hj=>⟨f3 j hj,f4 j (by omega)⟩⟩
 ·have:=Rep.ptr (c:=c.aA (.cells u.cells t) id ⟨c.w.heap.size,0,none⟩ (.obj y.cells t)) id 0 y.cells t (by simp [Cx.aA,ah])
  simpa [Cx.aA,ah] using this
theorem BZ {ρ:Env} {h:Heap} {o:Oper} {Q:AV→Heap→Prop} {t:TypeId} (hU:∀t,aN P U t) (ho:o.op= .alloc t) (hz:(U t).sz≠0) (hf:fit (U t).zero (U t).sz)
  (hQ:∀id,h id=none→Q (.ptr id 0) (upd h id (some (.obj (U t).zero.cells t)))) {c:Cx} {a:Act} (hs:Sub h c.h) (g:Good c):jU P c Q ((execOp a.eval o).run P c.w):=by
 obtain ⟨i,i1,i2,i3,z,z1,z2,z3⟩:=(hU t).info hz;have hz0:(zeroValue t).run P c.w= .ok z c.w:=by simp [zeroValue,typeInfo,i1,z1]
 have:=mX (t:=t) hs g (z3 c) hf hQ;have hr:(execOp a.eval o).run P c.w= .ok (.value (.pointer (some ⟨c.w.heap.size,0,none⟩))) (c.w.alloc (.cells z.cells t)):=by
  simp [execOp,ho,Instr.alloc,hz0,newVar,newRow]
 rw [hr];exact this
theorem F1 {ρ:Env} {h:Heap} {o:Oper} {Q:AV→Heap→Prop} {t:TypeId} {x:Operand} (ho:o.op= .box t x)
  (hk:withv ρ x fun y=>fit y (U t).sz∧∀id,h id=none→Q (.ptr id 0) (upd h id (some (.obj y.cells t)))) {c:Cx} {a:Act} {n:Nat} (hs:Sub h c.h) (g:Good c) (he:cj c n ρ a):
  jU P c Q ((execOp a.eval o).run P c.w):=by
 obtain ⟨y,hy,hf,hQ⟩:=aI hk;have:=mX (t:=t) hs g (aE he hy) hf hQ;have hr:(execOp a.eval o).run P c.w= .ok (.value (.pointer (some ⟨c.w.heap.size,0,none⟩))) (c.w.alloc (.cells (a.eval x).cells t)):=by
  simp [execOp,ho,Instr.box,newVar,newRow]
 rw [hr];exact this
theorem B5 {ρ:Env} {h:Heap} {o:Oper} {Q:AV→Heap→Prop} {t:TypeId} {p x:Operand} (hU:∀t,aN P U t) (ho:o.op= .store t p x) (hk:aZ P U ρ h o Q) {c:Cx} {a:Act} {n:Nat} (hs:Sub h c.h) (g:Good c) (he:cj c n ρ a):
  jU P c Q ((execOp a.eval o).run P c.w):=by
 simp only [aZ,ho] at hk
 by_cases hun:isUnit (U t).k=true
 ·rw [if_pos hun] at hk
  obtain ⟨i,i1,_,i3⟩:=(hU t).unit (sI hun);obtain ⟨A,hA,hk⟩:=aI hk;obtain ⟨y,hy,hk2⟩:=aI hk;clear hk;obtain ⟨rfl,hk2⟩:=hk2;split at hk2
  ·obtain ⟨hu,_⟩:=(aE he hA).jR
   obtain ⟨vs,hv,hn,_⟩:=(aE he hy).mO;have hv0:vs= #[]:=Array.eq_empty_of_size_eq_zero (by simpa using hn)
   subst hv0;have hr:(execOp a.eval o).run P c.w= .ok .skip c.w:=by
    simp [execOp,ho,Instr.storeAt,hu,hv,Instr.sureAddr,storeVar,sizeOf,typeInfo,i1,i3,Value.cells,storeCells]
   rw [hr];exact ⟨c,_,h,rfl,g, .refl c, .v _,hs,hk2⟩
  ·exact hk2.elim
 rw [if_neg hun] at hk;obtain ⟨hz,hk⟩:=hk;obtain ⟨A,hA,hk⟩:=aI hk;obtain ⟨y,hy,hk2⟩:=aI hk;clear hk;split at hk2
 ·rename_i id off
  split at hk2
  ·rename_i cs t' hid
   obtain ⟨hf,hb,hQ⟩:=hk2;obtain ⟨f1,f2,f3,f4⟩:=(aE he hy).fits hf;obtain ⟨hu,_⟩:=(aE he hA).jR;obtain ⟨h1,h2⟩:=iu (P:=P) (off:=off) (xs:=y.cells) (vs:=(a.eval x).cells.toList) (u:=undef) (X:= .v undef) hs g hid (by simp; omega) (by omega)
    (fun j hj=>by
     have e:(a.eval x).cells.toList.getD j undef=(a.eval x).cells.getD j undef:=by simp [List.getD]
     rw [e];exact ⟨f3 j hj,f4 j (by omega)⟩) (fun _ _=> .v _) hQ
   have hr:(execOp a.eval o).run P c.w= .ok .skip (c.w.setCells (c.φ id).block off (a.eval x).cells.toList):=by
    simp [execOp,ho,Instr.storeAt,hu,Instr.sureAddr,storeVar,bC hU hz,f1,h1]
   rw [hr];exact h2
  ·exact hk2.elim
 ·exact hk2.elim
theorem xK {ρ:Env} {h:Heap} {o:Oper} {Q:AV→Heap→Prop} {mt:TypeId} {r:Option Operand} (hU:∀t,aN P U t) (ho:o.op= .makeMap mt r) (hr:Es U ρ mt r) (hk:∀id,h id=none→Q (.mp id) (upd h id (some (.mp []))))
  {c:Cx} {a:Act} {n:Nat} (hs:Sub h c.h) (g:Good c) (he:cj c n ρ a):jU P c Q ((execOp a.eval o).run P c.w):=by
 obtain ⟨id,hid⟩:=g.fresh;have hfr:h id=none:=by
  cases hh:h id with
  |none=>rfl
  |some k=>rw [hs _ _ hh] at hid; cases hid
 have hrun:(execOp a.eval o).run P c.w= .ok (.value (.map (some c.w.heap.size))) (c.w.alloc (.map #[] 0)):=by
  cases r with
  |none=>simp [execOp,ho,Instr.makeMap]
  |some x=>
   obtain ⟨⟨kt,e,hty⟩,hv⟩:=hr;have hd:=(hU mt).desc;rw [hty] at hd;obtain ⟨A,hA,kk,m,rfl⟩:=aI hv;simp [execOp,ho,Instr.makeMap,run_underlying hd,(aE he hA).bS,asInt,asIntOf]
 rw [hrun];refine ⟨c.aA (.map #[] 0) id ⟨c.w.heap.size,0,none⟩ (.mp []),_,_,rfl,g.allocMap id hid,Ext.aA _ _ id _ _ rfl (.inl hid), ?_,hs.upd id _,hk id hfr⟩;have:=Rep.mp (c:=c.aA (.map #[] 0) id ⟨c.w.heap.size,0,none⟩ (.mp [])) id [] (by simp [Cx.aA,ah])
 simpa [Cx.aA,ah] using this
theorem uF {ρ:Env} {h:Heap} {o:Oper} {Q:AV→Heap→Prop} {mt:TypeId} {x y z:Operand} (hU:∀t,aN P U t) (ho:o.op= .mapUpdate mt x y z)
  (hk:withv ρ x fun a=>withv ρ y fun b=>withv ρ z fun v=>match (U mt).k,a with
   | .map kt e, .mp id=>fZ (U kt).k b∧match h id with
    |some (.mp m)=>(∀p∈m,fZ (U kt).k p.1)∧Q (.v undef) (upd h id (some (.mp (xH m b v))))
    |_=>False
   |_,_=>False)
  {c:Cx} {a:Act} {n:Nat} (hs:Sub h c.h) (g:Good c) (he:cj c n ρ a):jU P c Q ((execOp a.eval o).run P c.w):=by
 obtain ⟨A,hA,hk⟩:=aI hk;obtain ⟨b,hB,hk⟩:=aI hk;obtain ⟨v,hV,hk⟩:=aI hk;have hd:=(hU mt).desc;split at hk
 ·rename_i kt e id hty hp' hp''
  clear hp' hp'';rw [hty] at hd;obtain ⟨hb,hk⟩:=hk;split at hk
  ·rename_i m hid
   obtain ⟨hm,hQ⟩:=hk;have hcid:=hs _ _ hid;obtain ⟨hu,_⟩:=(aE he hA).C5;have hv:=Be hb (aE he hB);have hval:=aE he hV;obtain ⟨es,cl,e1,e2,e3⟩:=g.mp id m hcid;obtain ⟨K,l,hl⟩:=rC hU hb;have hchk:=K.check c.w false hl;have hg:=g.keys id m hcid;rcases AT hU hb hm e2 (fun i h1 h2=>(e3 i h1 h2).1) c.w with ⟨f1,f2⟩|⟨j,hj,hj',f1,f2⟩
   ·have hget:=getM_none hb hm f2
    have hset:xH m b v=m++ [(b,v)]:=by simp [xH,hget]
    have hrun:(execOp a.eval o).run P c.w= .ok .skip (c.turn id (es.push {key:=gU b,val:=a.eval z,born:=cl}) (cl+1) (m++ [(b,v)])).w:=by
     simp [execOp,ho,hu,hv,Instr.mapUpdate,run_underlying hd,MapKept.run_getObj_map e1,hchk,f1,MapKept.run_setObj_map _ e1,Cx.turn]
     try rfl
    rw [hrun];rw [hset] at hQ;refine ⟨c.turn id (es.push {key:=gU b,val:=a.eval z,born:=cl}) (cl+1) (m++ [(b,v)]),_,_,rfl,g.turn id _ es _ cl _ m hcid e1 (by simp [e2]) (fun i h1 h2=> ?_) ?_,Ext.turn id _ es _ cl _ m hcid e1, .v _,hs.upd id _,hQ⟩
    ·by_cases hi:i<m.length
     ·have h3:i<es.size:=by omega
      rw [Array.getElem_push_lt h3,List.getElem_append_left hi];exact e3 i hi h3
     ·have hi2:i=m.length:=by simp at h1; omega
      subst hi2;have:(es.push {key:=gU b,val:=a.eval z,born:=cl})[m.length]= {key:=gU b,val:=a.eval z,born:=cl}:=by simp [←e2]
      rw [this,List.getElem_append_right (by omega)]
      simp only [Nat.sub_self,List.getElem_singleton];exact ⟨trivial,hval⟩
    ·rw [List.pairwise_append]
     exact ⟨hg,by simp,fun p hp q hq=>by rw [List.mem_singleton.1 hq]; exact f2 p hp⟩
   ·have hget:=zG hb hm hg j hj f2
    have hset:xH m b v=m.map (fun p=>if pW p.1 b then (p.1,v) else p):=by simp [xH,hget]
    have hst:=K.stays c.w hl;have hkey:es[j].key=gU b:=(e3 j hj hj').1.trans f2;have hrun:(execOp a.eval o).run P c.w= .ok .skip (c.turn id (es.modify j fun e=> {e with key:=gU b,val:=a.eval z}) cl (m.map (fun p=>if pW p.1 b then (p.1,v) else p))).w:=by
     simp [execOp,ho,hu,hv,Instr.mapUpdate,run_underlying hd,MapKept.run_getObj_map e1,hchk,f1,hj',hkey,hst,MapKept.run_setObj_map _ e1,Cx.turn]
     try rfl
    rw [hrun];rw [hset] at hQ;refine ⟨c.turn id (es.modify j fun e=> {e with key:=gU b,val:=a.eval z}) cl (m.map (fun p=>if pW p.1 b then (p.1,v) else p)),_,_,rfl,g.turn id _ es _ cl _ m hcid e1 (by simp [e2]) (fun i h1 h2=> ?_) ?_,Ext.turn id _ es _ cl _ m hcid e1, .v _,hs.upd id _,hQ⟩
    ·have hi:i<m.length:=by simpa using h1
     have h3:i<es.size:=by omega
     rw [Array.getElem_modify,V1]
     by_cases hij:j=i
     ·subst hij
      have hke:pW m[j].1 b=true:=(oI (hm _ (V5 hj)) hb).2 f2;rw [if_pos rfl,if_pos hke];exact ⟨f2.symm,hval⟩
     ·have hke:pW m[i].1 b=false:=by
       cases hh:pW m[i].1 b with
       |false=>rfl
       |true=>
        have h4:=(oI (hm _ (V5 hi)) hb).1 hh;have hp:=List.pairwise_iff_getElem.1 hg;rcases Nat.lt_or_gt_of_ne hij with h5|h5
        ·exact (hp j i hj hi h5 (f2.trans h4.symm)).elim
        ·exact (hp i j hi hj h5 (h4.trans f2.symm)).elim
      rw [if_neg hij,if_neg (by simp [hke])]
      exact e3 i hi h3
    ·rw [List.pairwise_map]
     refine hg.imp fun {p q} hpq=> ?_
     have key:∀p:AV×AV,(if pW p.1 b then (p.1,v) else p).1=p.1:=fun p=>by split<;>rfl
     rw [key,key];exact hpq
  ·exact hk.elim
 ·exact hk.elim
theorem uE {ρ:Env} {h:Heap} {o:Oper} {Q:AV→Heap→Prop} {t:TypeId} {l m:Operand} (hU:∀t,aN P U t) (ho:o.op= .makeSlice t l m) (hk:aZ P U ρ h o Q) {c:Cx} {a:Act} {n:Nat} (hs:Sub h c.h) (g:Good c) (he:cj c n ρ a):
  jU P c Q ((execOp a.eval o).run P c.w):=by
 simp only [aZ,ho] at hk;obtain ⟨A,hA,hk⟩:=aI hk;obtain ⟨B,hB,hk2⟩:=aI hk;clear hk;have hd:=(hU t).desc;split at hk2
 ·rename_i e k1 n1 k2 n2 hty
  rw [hty] at hd;obtain ⟨rfl,h0,hlim,hbytes,hz,hf,hQ⟩:=hk2;obtain ⟨i,i1,i2,i3,z,z1,z2,z3⟩:=(hU e).info hz;have hz0:(zeroValue e).run P c.w= .ok z c.w:=by simp [zeroValue,typeInfo,i1,z1]
  obtain ⟨f1,f2,f3,f4⟩:=(z3 c).fits hf;have hw:IntKind.i64.wrap n1=n1:=by
   simp only [lim] at hlim;exact IntWalk.i64_in _ (by omega)
  generalize hcells:(Array.range (n1.toNat*(U e).sz)).map (fun j=>(if n1.toNat*(U e).sz=0 then #[] else z.cells)[j % (if n1.toNat*(U e).sz=0 then #[] else z.cells).size]!)=cells
  have hr:(execOp a.eval o).run P c.w= .ok (.value (.slice (some ⟨c.w.heap.size,0,none⟩) n1.toNat n1.toNat)) (c.w.alloc (.cells cells e)):=by
   have hcap:¬(n1<0∨281474976710656<(U e).bytes*n1):=by
    rw [Int.mul_comm]; omega
   have h00:¬(n1<0):=by omega
   have hcap' :¬(281474976710656<(U e).bytes*n1):=fun hh=>hcap (.inr hh)
   by_cases hn:n1.toNat*(U e).sz=0
   ·simp only [hn,if_true] at hcells
    simp [execOp,ho,(aE he hA).bS,(aE he hB).bS,Instr.makeSlice,run_underlying hd,asInt,asIntOf,typeInfo,i1,i3,hw,bC hU hz,newRow,hcap',h00,hn];simp at hcells;rw [←hcells]
   ·simp only [hn,if_false] at hcells
    simp [execOp,ho,(aE he hA).bS,(aE he hB).bS,Instr.makeSlice,run_underlying hd,asInt,asIntOf,typeInfo,i1,i3,hw,bC hU hz,newRow,hcap',h00,hn,hz0,hcells]
  rw [hr];obtain ⟨id,hid⟩:=g.fresh;refine ⟨c.aA (.cells cells e) id ⟨c.w.heap.size,0,none⟩ (.obj (cG (U e).zero n1.toNat (U e).sz) e),_,_,rfl, ?_,Ext.aA c _ id _ _ rfl (.inl hid), ?_,hs.upd id _,hQ id (AX hs hid)⟩
  ·refine g.aA _ _ (0,0) id _ _ rfl (.inl hid) (fun cs t' hh=> ?_) (fun n sz hh=>by cases hh)
   cases hh;have hsz:cells.size=n1.toNat*(U e).sz:=by rw [←hcells]; simp
   refine ⟨rfl,rfl,by simp [cG,hsz],fun j hj=> ?_⟩
   have hj' :j<n1.toNat*(U e).sz:=by simpa [cG] using hj
   have hmod:j % (U e).sz<(U e).sz:=Nat.mod_lt _ (by omega)
   have e1:(cG (U e).zero n1.toNat (U e).sz)[j]=(U e).zero.cells[j % (U e).sz]'(by omega):=by
    simp [cG,show j % (U e).sz<(U e).zero.cells.length by omega]
   have e2:cells.getD j undef=z.cells.getD (j % (U e).sz) undef:=by
    rw [←hcells];have hne:¬(n1.toNat*(U e).sz=0):=by omega
    simp only [hne,if_false];have h9:j % (U e).sz<z.cells.size:=by omega
    simp [hj',z2];rw [getElem!_pos z.cells (j % (U e).sz) h9,Array.getElem?_eq_getElem h9];rfl
   rw [e1,e2];exact ⟨f3 _ (by omega),f4 _ hmod⟩
  ·have r1:=Rep.oa (c:=c.aA (.cells cells e) id ⟨c.w.heap.size,0,none⟩ (.obj (cG (U e).zero n1.toNat (U e).sz) e)) id 0 n1.toNat n1.toNat 0 (cG (U e).zero n1.toNat (U e).sz) e
    (by simp [Cx.aA,ah]) (Nat.le_refl _) (by omega) (fun _=>⟨rfl,by simp only [cG,V0,List.length_range]; have:=Nat.le_mul_of_pos_right n1.toNat (show 0<(U e).sz by omega); omega⟩)
   have r2:=Rep.ob (c:=c.aA (.cells cells e) id ⟨c.w.heap.size,0,none⟩ (.obj (cG (U e).zero n1.toNat (U e).sz) e)) id 0 n1.toNat n1.toNat (U e).sz 0 (cG (U e).zero n1.toNat (U e).sz) e
    (by simp [Cx.aA,ah]) (Nat.le_refl _) (by omega) (fun _=>⟨rfl,by simp only [cG,V0,List.length_range]; omega⟩)
   simp only [Cx.aA,ah] at r1 r2;unfold Oy;split
   ·simpa [Cx.aA,ah] using r1
   ·simpa [Cx.aA,ah] using r2
 ·exact hk2.elim
theorem Dp {h:Heap} {ts tx ty:TypeId} {x y:AV} {Q:AV→Heap→Prop} (hU:∀t,aN P U t) (hk:Aa U h ts x y Q) (c:Cx) (u v:Value)
  (hs:Sub h c.h) (g:Good c) (hx:Rep c x u) (hy:Rep c y v):
  ∃r w',(Builtin.copy_ #[ts,tx] ty #[u,v]).run P c.w= .ok r w'∧dX c Q r w' :=by
 unfold Aa at hk;have hd:=(hU ts).desc;split at hk
 ·rename_i e hty
  rw [hty] at hd;split at hk
  ·rename_i id off len
   obtain ⟨hz,hk⟩:=hk;obtain ⟨ys,hk',hsrc⟩:=o9 (P:=P) (by omega) hk
   clear hk;obtain ⟨hsy,hna,hk⟩:=hk';split at hk
   ·rename_i cs t hid
    obtain ⟨hle,hb,hQ⟩:=hk;rw [hz] at hsrc;obtain ⟨hl,val,row,hlen,hfirst⟩:=hsrc c v hs g hy hsy;obtain ⟨cap,o',rfl,h1,h2,h3,_⟩:=hx.mZ;have hcells:∀i (hi:i<ys.length),ys[i].cells= [ys[i]]:=fun i hi=>by
     have hh:=hna _ (V5 hi);generalize ys[i]=q at hh;cases q<;>simp [bA] at hh<;>rfl
    have hrow:∀i (hi:i<ys.length),Rep c ys[i] (val i 0):=fun i hi=>by
     have:=row.hr i hi 0 (by rw [hcells i hi]; simp)
     simpa only [hcells i hi,List.getElem_singleton] using this
    have hget:∀j,j<ys.length→(bQ 1 ys.length val).getD j undef=val j 0:=fun j hj=>by
     have:=gh (sz:=1) (n:=ys.length) (val:=val) hj (show 0<1 by omega)
     rw [Nat.mul_one,Nat.add_zero] at this;simp [List.getD,this]
    obtain ⟨s1,s2⟩:=iu (P:=P) (off:=off) (xs:=ys) (vs:=bQ 1 ys.length val) (u:= .int .i64 ys.length) (X:= .v (.int .i64 ys.length)) hs g hid (by simp [aQ]) (by omega)
     (fun j hj=>by rw [hget j hj]; exact ⟨hrow j hj,row.ho j 0 hj (by omega)⟩) (fun _ _=> .v _) hQ
    refine ⟨_,_, ?_,s2⟩;have hmin:Nat.min ys.length len=ys.length:=Nat.min_eq_left hle
    by_cases h0:ys.length=0
    ·have e0:bQ 1 ys.length val= []:=by simp [bQ,h0]
     rw [e0] at hfirst s1⊢;simp [Builtin.copy_,run_underlying hd,hlen,hmin,bC hU (show (U e).sz≠0 by omega),hz,hfirst,goInt,storeCells,World.setCells]
    ·obtain rfl:=h3 (by omega)
     simp [Builtin.copy_,run_underlying hd,hlen,hmin,bC hU (show (U e).sz≠0 by omega),hz,hfirst,goInt,s1]
   ·exact hk.elim
  ·rename_i id off len cap0 sz0
   obtain ⟨hz,rfl,hk⟩:=hk;obtain ⟨ys,hk',hsrc⟩:=o9 (P:=P) hz hk;clear hk;obtain ⟨hsy,hk⟩:=hk';split at hk
   ·rename_i cs t hid
    obtain ⟨hle,hb,hQ⟩:=hk;obtain ⟨v',hy',hfc,hlv⟩:=GX (P:=P) len hy;obtain ⟨hl,val,row,hlen,hfirst⟩:=hsrc c v' hs g hy' hsy;rw [hfc] at hfirst;obtain ⟨m',hm1,hm2⟩:=hlv c.w _ (hlen c.w) hle;obtain ⟨o',rfl,h1,h2,cs',t',h4,h5⟩:=hx.iK;obtain ⟨hly,hry⟩:=row.flat (by omega)
    have hle2:ys.length*(U e).sz≤len*(U e).sz:=Nat.mul_le_mul_right _ hle;obtain ⟨s1,s2⟩:=iu (P:=P) (off:=off) (xs:=aq ys) (vs:=bQ (U e).sz ys.length val) (u:= .int .i64 ys.length) (X:= .v (.int .i64 ys.length)) hs g hid (by rw [aQ,hly]) (by omega)
     hry (fun _ _=> .v _) hQ
    refine ⟨_,_, ?_,s2⟩
    by_cases h0:ys.length=0
    ·have e0:bQ (U e).sz ys.length val= []:=by simp [bQ,h0]
     rw [e0] at hfirst s1⊢;simp [Builtin.copy_,run_underlying hd,hm1,hm2,bC hU hz,hfirst,goInt,storeCells,World.setCells]
    ·obtain ⟨rfl,_⟩:=h5 (by omega)
     simp [Builtin.copy_,run_underlying hd,hm1,hm2,bC hU hz,hfirst,goInt,s1]
   ·exact hk.elim
  ·exact hk.elim
 ·exact hk.elim
theorem Dn {f:FuncId} {h:Heap} {Q:AV→Heap→Prop} {ys:List AV} (hf:ak P f ys h Q) {c:Cx} (hs:Sub h c.h) (g:Good c) {vs:Array Value} (h1:vs.size=ys.length) (h2:∀i (hi:i<ys.length),Rep c ys[i] (vs.getD i undef)):
  jU P c Q ((callFunc f vs).run P c.w):=by
 rcases hf c vs hs g h1 h2 with ⟨hc,hcall⟩|⟨u,w',hr,hk⟩
 ·rw [oc hc]
  exact ⟨rfl,hcall⟩
 ·rw [hr]
  exact hk
theorem tu {c:Cx} {Q:AV→Heap→Prop} {s:Sem Value} {r:Value} {w' :World} (hr:s.run P c.w= .ok r w') (hc:dX c Q r w'):jU P c Q ((do pure (.value (←s)):Sem Next).run P c.w):=by
 simp only [Sem.run_bind,hr,Result.andThen_ok,Sem.run_pure];exact hc
theorem dS {ty e:TypeId} (h:P.underlying ty=some (.slice e)) (d:Nat) (a:Option Addr) (l k l' k' :Nat) (w:World):(Op.equalIn (d+1) ty (.slice a l k) (.slice none l' k')).run P w= .ok a.isNone w:=by
 cases a<;>simp [Op.equalIn,run_underlying h]
theorem F6 {ρ:Env} {h:Heap} {o:Oper} {Q:AV→Heap→Prop} {op:BinOp} {t t' :TypeId} {x y:Operand} (hU:∀t,aN P U t) (ho:o.op= .binOp op t x y t') (hy:Da y=true) (hk:withv ρ x fun a=>I9 U h op t a Q)
  {c:Cx} {a:Act} {n:Nat} (hs:Sub h c.h) (g:Good c) (he:cj c n ρ a):jU P c Q ((execOp a.eval o).run P c.w):=by
 obtain ⟨A,hA,hk2⟩:=aI hk;clear hk;obtain ⟨l',k',rfl⟩:∃l' k',y= .const (.slice none l' k'):=by
  unfold Da at hy;split at hy
  ·exact ⟨_,_,rfl⟩
  ·cases hy
 have hev:a.eval (.const (.slice none l' k'))= .slice none l' k' :=rfl;have hd:=(hU t).desc;have hgu:∀ad l k,(eqGuard op t x (.const (.slice none l' k')) (.slice ad l k) (.slice none l' k')).run P c.w= .ok () c.w:=fun ad l k=>gb _ _ _ _ _ _ _ rfl
 unfold I9 at hk2;split at hk2
 ·rename_i e xs p hty
  rw [hty] at hd;obtain ⟨ad,cap,sz,val,hu,sl⟩:=(aE he hA).ia;have h1:(execOp a.eval o).run P c.w= .ok (.value (.bool ad.isNone)) c.w:=by
   simp [execOp,ho,hu,hev,hgu,binOp,jS _ _ _ _ _ (dS hd 9999 ad _ _ l' k' c.w)]
  rw [h1];refine ⟨c,_,h,rfl,g, .refl c, .v _,hs,hk2 _ fun hne=> ?_⟩
  cases ad with
  |some q=>rfl
  |none=>have:=sl.h0 rfl; have:=sl.hc; have:=List.length_pos_iff.2 hne; omega
 ·rename_i e xs p hty
  rw [hty] at hd;obtain ⟨ad,cap,sz,val,hu,sl⟩:=(aE he hA).ia;have h1:(execOp a.eval o).run P c.w= .ok (.value (.bool (!ad.isNone))) c.w:=by
   simp [execOp,ho,hu,hev,hgu,binOp,jS _ _ _ _ _ (dS hd 9999 ad _ _ l' k' c.w)]
  rw [h1];refine ⟨c,_,h,rfl,g, .refl c, .v _,hs,hk2 _ fun hne=> ?_⟩
  cases ad with
  |some q=>rfl
  |none=>have:=sl.h0 rfl; have:=sl.hc; have:=List.length_pos_iff.2 hne; omega
 ·rename_i e id off len hty
  rw [hty] at hd;obtain ⟨cap,o',hu,_⟩:=(aE he hA).mZ;have h1:(execOp a.eval o).run P c.w= .ok (.value (.bool false)) c.w:=by
   simp [execOp,ho,hu,hev,hgu,binOp,jS _ _ _ _ _ (dS hd 9999 _ _ _ l' k' c.w)]
  rw [h1];exact ⟨c,_,h,rfl,g, .refl c, .v _,hs,hk2⟩
 ·rename_i e id off len hty
  rw [hty] at hd;obtain ⟨cap,o',hu,_⟩:=(aE he hA).mZ;have h1:(execOp a.eval o).run P c.w= .ok (.value (.bool true)) c.w:=by
   simp [execOp,ho,hu,hev,hgu,binOp,jS _ _ _ _ _ (dS hd 9999 _ _ _ l' k' c.w)]
  rw [h1];exact ⟨c,_,h,rfl,g, .refl c, .v _,hs,hk2⟩
 ·rename_i e id off len cap0 sz0 hty
  rw [hty] at hd;obtain ⟨o',hu,_⟩:=(aE he hA).iK;have h1:(execOp a.eval o).run P c.w= .ok (.value (.bool false)) c.w:=by
   simp [execOp,ho,hu,hev,hgu,binOp,jS _ _ _ _ _ (dS hd 9999 _ _ _ l' k' c.w)]
  rw [h1];exact ⟨c,_,h,rfl,g, .refl c, .v _,hs,hk2⟩
 ·rename_i e id off len cap0 sz0 hty
  rw [hty] at hd;obtain ⟨o',hu,_⟩:=(aE he hA).iK;have h1:(execOp a.eval o).run P c.w= .ok (.value (.bool true)) c.w:=by
   simp [execOp,ho,hu,hev,hgu,binOp,jS _ _ _ _ _ (dS hd 9999 _ _ _ l' k' c.w)]
  rw [h1];exact ⟨c,_,h,rfl,g, .refl c, .v _,hs,hk2⟩
 ·exact hk2.elim
theorem jK {ρ:Env} {h:Heap} {o:Oper} {Q:AV→Heap→Prop} (hU:∀t,aN P U t) (hk:aZ P U ρ h o Q) {c:Cx} {a:Act} {n:Nat} (hs:Sub h c.h) (g:Good c) (he:cj c n ρ a):
  jU P c Q ((execOp a.eval o).run P c.w):=by
 have hk0:=hk;unfold aZ at hk;split at hk
 ·rename_i t ho
  split at hk
  ·rename_i hun
   obtain ⟨i,i1,i2,_⟩:=(hU t).unit (sI hun);have hz0:(zeroValue t).run P c.w= .ok (.agg #[]) c.w:=by simp [zeroValue,typeInfo,i1,i2]
   have:=mX (t:=t) (y:= .agg []) (u:= .agg #[]) (n:=0) hs g (.agg [] #[] rfl (fun i h=>by cases h) (fun i h=>by cases h)) rfl hk
   have hr:(execOp a.eval o).run P c.w= .ok (.value (.pointer (some ⟨c.w.heap.size,0,none⟩))) (c.w.alloc (.cells (Value.agg #[]).cells t)):=by
    simp [execOp,ho,Instr.alloc,hz0,newVar,newRow]
   rw [hr];exact this
  ·exact BZ (ρ:=ρ) hU ho hk.1 hk.2.1 hk.2.2 hs g
 ·rename_i t x ho
  exact F1 ho hk.2 hs g he
 ·rename_i t p x ho
  exact B5 hU ho hk0 hs g he
 ·rename_i t l m ho
  exact uE hU ho hk0 hs g he
 ·rename_i t r ho
  exact xK hU ho hk.1 hk.2 hs g he
 ·rename_i t x y z ho
  exact uF hU ho hk hs g he
 ·rename_i cl ho
  obtain ⟨callee,args,ts⟩:=cl;simp only at hk;split at hk
  ·rename_i q
   obtain ⟨y,hy,hk⟩:=aI hk;split at hk
   ·rename_i f cap
    obtain ⟨ys,hys,hk⟩:=eS hk;obtain ⟨vs,hu,hn,hr⟩:=(aE he hy).CM;obtain ⟨h1,h2⟩:=uL he _ _ hys;have:(execOp a.eval o).run P c.w=(callFunc f (args.map a.eval++vs)).run P c.w:=by
     simp [execOp,ho,resolve,hu,Deferred.ofValue,invoke]
    rw [this];refine Dn hk hs g (by simp; simp at h1; omega) fun i hi=> ?_
    have hsz:(args.map a.eval).size=ys.length:=by simpa using h1
    by_cases hlt:i<ys.length
    ·have e1:(ys++cap)[i]=ys[i]:=List.getElem_append_left hlt
     have hlt' :i<args.size:=by simpa using (show i<(args.map a.eval).size by omega)
     have:=h2 i (by simpa using hlt') hlt
     rw [e1];have e2:(args.map a.eval++vs).getD i undef=a.eval args.toList[i]:=by
      have h9:i<(args.map a.eval++vs).size:=by simp; omega
      rw [Array.getD,dif_pos h9]
      show (args.map a.eval++vs)[i]=_
      rw [Array.getElem_append_left (by simpa using hlt')]
      simp
     rw [e2];exact this
    ·have hi' :i<ys.length+cap.length:=by simpa using hi
     have e1:(ys++cap)[i]=cap[i - ys.length]:=List.getElem_append_right (by omega)
     rw [e1];have e2:(args.map a.eval++vs).getD i undef=vs.getD (i - ys.length) undef:=by
      have h9:i<(args.map a.eval++vs).size:=by simp; simp at hsz; omega
      have h8:i - ys.length<vs.size:=by omega
      rw [Array.getD,dif_pos h9,Array.getD,dif_pos h8]
      show (args.map a.eval++vs)[i]=_
      rw [Array.getElem_append_right (by omega)]
      simp only [hsz];rfl
     rw [e2];exact hr _ (by omega)
   ·exact hk.elim
  ·split at hk
   ·rename_i x y t1 t2 hA hB
    obtain ⟨A,hA',hk⟩:=aI hk;obtain ⟨B,hB',hk2⟩:=aI hk;obtain ⟨r,w',hr,hc⟩:∃r w',(Builtin.append_ #[t1,t2] o.type #[a.eval x,a.eval y]).run P c.w= .ok r w'∧dX c Q r w' :=by
     unfold apT at hk2;split at hk2
     ·rename_i ki hki
      exact EI hU hki hk2 c _ _ hs g (aE he hA') (aE he hB')
     ·rename_i hki
      exact qS (P:=P) (ty:=o.type) hU (by rw [hki]; rfl) hk2 c _ _ hs g (aE he hA') (aE he hB')
     ·rename_i hki
      exact qS (P:=P) (ty:=o.type) hU (by rw [hki]; rfl) hk2 c _ _ hs g (aE he hA') (aE he hB')
     ·exact hk2.elim
    rw [ck ho];have e1:args= #[x,y]:=by rw [←Array.toList_inj]; exact hA
    have e2:ts= #[t1,t2]:=by rw [←Array.toList_inj]; exact hB
    subst e1; subst e2
    exact tu (by simpa using hr) hc
   ·exact hk.elim
  ·split at hk
   ·rename_i x y t1 t2 hA hB
    obtain ⟨A,hA',hk⟩:=aI hk;obtain ⟨B,hB',hk2⟩:=aI hk;obtain ⟨r,w',hr,hc⟩:=Dp (P:=P) (tx:=t2) (ty:=o.type) hU hk2 c _ _ hs g (aE he hA') (aE he hB');rw [ck ho];have e1:args= #[x,y]:=by rw [←Array.toList_inj]; exact hA
    have e2:ts= #[t1,t2]:=by rw [←Array.toList_inj]; exact hB
    subst e1; subst e2
    exact tu (by simpa using hr) hc
   ·exact hk.elim
  ·exact th hU hk hs g he
 ·rename_i op ty x y t' ho
  split at hk
  ·rename_i hy
   exact F6 hU ho hy hk hs g he
  ·exact th hU (by rw [ho] at hk⊢; exact hk) hs g he
 ·exact th hU hk hs g he
end
section
variable (P : Program) (U : TypeId → TI) (n : Nat)
def nK (all:List Oper) (g:Nat):Option Tmp:=(all[g]?).bind (·.dst)
def fI (all:List Oper) (ρ:Env) (gd:Option (Nat×Bool)) (yes no:Env→Prop):Prop:=
 match gd with
 |none=>yes ρ
 |some (g,want)=>match nK all g with
  |some d=>match lk ρ d with
   |some (.v (.bool t))=>(t=want→yes ((d, .v (.bool want))::ρ))∧(t= !want→no ((d, .v (.bool (!want)))::ρ))
   |some (.v (.tuple _))=>no ρ
   |_=>False
  |none=>False
def KOp (k:Env→Heap→Prop) (ρ:Env) (d:Option Tmp) (x:AV) (h:Heap):Prop:=k (put ρ d x) h
def jz (all:List Oper):List Oper→Env→Heap→(Env→Heap→Prop)→Prop
 | [],ρ,h,K=>K ρ h
 |o::os,ρ,h,K=>dL n o.dst=true∧fI all ρ o.guard
   (fun ρ=>aZ P U ρ h o (KOp (fun ρ h=>jz all os ρ h K) ρ o.dst))
   (fun ρ=>jz all os (put ρ o.dst (.v undef)) h K)
def WPK (K:Exit→Env→Heap→Prop) (c0:Cx) (e:Exit) (a:Act) (w:World):Prop:=
 ∃c ρ h,c.w=w∧Good c∧Ext c0 c∧cj c n ρ a∧Sub h c.h∧K e ρ h
end
section
variable {P : Program} {U : TypeId → TI} {n : Nat}
theorem cj.learn {c:Cx} {ρ:Env} {a:Act} (h:cj c n ρ a) {d:Nat} {t:Bool} (hd:lk ρ d=some (.v (.bool t))) {b:Bool} (hb:t=b):cj c n ((d, .v (.bool b))::ρ) a:=by
 subst hb;refine ⟨h.size,h.defers,fun t' x hx=> ?_⟩
 simp only [lk] at hx;split at hx
 ·rename_i e; subst e
  cases hx;exact h.rep _ _ hd
 ·exact h.rep _ _ hx
theorem Ge {c:Cx} {ρ:Env} {a:Act} (h:cj c n ρ a) {d:Nat} {u:Value} (hd:lk ρ d=some (.v u)) (hu:u≠undef∨d<a.tmps.size):a.tmps[d]? =some u:=by
 have:=(h.rep d _ hd).bS
 by_cases hlt:d<a.tmps.size
 ·simpa [hlt] using this
 ·have e:a.tmps.getD d undef=undef:=by simp [Nat.le_of_not_lt hlt]
  rw [e] at this;rcases hu with hu|hu
  ·exact (hu this.symm).elim
  ·exact (hlt hu).elim
theorem A3 {all:List Oper} {ρ:Env} {o:Oper} {yes no:Env→Prop} (hg:fI all ρ o.guard yes no) {c:Cx} {a:Act} (he:cj c n ρ a):
  ∃ρ',cj c n ρ' a∧((Region.wanted o (yielded all.toArray a.tmps)=true∧yes ρ')∨(Region.wanted o (yielded all.toArray a.tmps)=false∧no ρ')):=by
 unfold fI at hg;split at hg
 ·rename_i hgd
  exact ⟨ρ,he, .inl ⟨by simp [Region.wanted,hgd],hg⟩⟩
 ·rename_i g want hgd
  split at hg
  ·rename_i d hd
   have hd' :(all[g]?).bind (·.dst)=some d:=hd
   split at hg
   ·rename_i t ht
    obtain ⟨h1,h2⟩:=hg;have hy:yielded all.toArray a.tmps g=some t:=by
     have:=Ge he ht (.inl (by simp [undef]))
     simp [yielded,hd',this]
    by_cases e:t=want
    ·exact ⟨_,he.learn ht e, .inl ⟨by simp [Region.wanted,hgd,hy,e],h1 e⟩⟩
    ·have e' :t= !want:=by cases t<;>cases want<;>simp_all
     exact ⟨_,he.learn ht e', .inr ⟨by simp [Region.wanted,hgd,hy,e],h2 e'⟩⟩
   ·rename_i vs ht
    refine ⟨ρ,he, .inr ⟨?_,hg⟩⟩;have hy:yielded all.toArray a.tmps g=none:=by
     have:=(he.rep _ _ ht).bS
     by_cases hlt:d<a.tmps.size
     ·have e:a.tmps[d]? =some (.tuple vs):=by simpa [hlt] using this
      simp [yielded,hd',e]
     ·have e:a.tmps[d]? =none:=by simp [Nat.le_of_not_lt hlt]
      simp [yielded,hd',e]
    simp [Region.wanted,hgd,hy]
   ·exact hg.elim
  ·exact hg.elim
theorem WPK.after {K:Exit→Env→Heap→Prop} {c0 c1:Cx} (he:Ext c0 c1) {e:Exit} {a:Act} {w:World} (h:WPK n K c1 e a w):WPK n K c0 e a w:=by
 obtain ⟨c,ρ,hh,h1,h2,h3,h4⟩:=h;exact ⟨c,ρ,hh,h1,h2,he.trans h3,h4⟩
theorem pE (hU:∀t,aN P U t) {all:List Oper} {K:Exit→Env→Heap→Prop} (c0:Cx):∀(l:List Oper) (ρ:Env) (h:Heap),jz P U n all l ρ h (K .normal)→
  ∀c a,Ext c0 c→Sub h c.h→Good c→cj c n ρ a→wpList P all.toArray (WPK n K c0) l a c.w
 | [],ρ,h,hk,c,a,hE,hs,g,he=>⟨c,ρ,h,rfl,g,hE,he,hs,hk⟩
 |o::os,ρ,h,hk,c,a,hE,hs,g,he=>by
  obtain ⟨hd,hk⟩:=hk;obtain ⟨ρ',he',hk⟩:=A3 hk he;unfold wpList;rcases hk with ⟨hw,hk⟩|⟨hw,hk⟩
  ·rw [if_pos hw]
   left
   have hu:=jK hU hk hs g he';have next:∀u w',dX c (KOp (fun ρ h=>jz P U n all os ρ h (K .normal)) ρ' o.dst) u w'→wpList P all.toArray (WPK n K c0) os (a.put o.dst u) w' :=by
    rintro u w' ⟨c',x,h',rfl,g',hE',hr,hs',hK⟩
    exact pE hU c0 os _ h' hK c' _ (hE.trans hE') hs' g' ((he'.mono hE').put hd hr)
   unfold Oper.wp;generalize (execOp a.eval o).run P c.w=r at hu;cases r with
   |ok nx w' =>
    cases nx<;>simp only [jU] at hu<;>simp only [Oper.upon]
    case value u=>exact next u w' hu
    case skip=>exact next undef w' hu
    case enter f args=>
     obtain ⟨rfl,hc⟩:=hu;exact hc.mono fun e w'' ⟨u,he,hcm⟩=>by subst he; exact next u w'' hcm
   |halt x w' =>exact hu.elim
  ·rw [if_neg (by rw [hw]; simp)]
   exact pE hU c0 os _ h hk c _ hE hs g (he'.put hd (.v _))
end
section
variable {P : Program} {U : TypeId → TI}
theorem AP {ρ ρ' :Env} {x:Operand} (h:∀t,x= .tmp t→lk ρ t=lk ρ' t):ev ρ x=ev ρ' x:=by
 cases x with
 |tmp t=>exact h t rfl
 |_=>rfl
theorem kN {ρ ρ' :Env}:∀ {xs:List Operand},(∀x∈xs,ev ρ x=ev ρ' x)→evs ρ xs=evs ρ' xs
 | [],_=>rfl
 |x::r,h=>by
  simp only [evs];rw [h x (by simp),kN fun y hy=>h y (by simp [hy])]
theorem qG {ρ ρ' :Env} {x:Option Operand} {d:Nat} {k:Int→Prop} (h:∀y,x=some y→ev ρ y=ev ρ' y):dR ρ x d k=dR ρ' x d k:=by
 cases x with
 |none=>rfl
 |some y=>simp only [dR,withv,h y rfl]
theorem sj {ρ ρ' :Env} {fs:List (Nat×TypeId)} {k:List AV→Prop}:∀ {ps:List (Nat×Operand)} {cs:List AV},(∀p∈ps,ev ρ p.2=ev ρ' p.2)→withps U ρ fs ps cs k=withps U ρ' fs ps cs k
 | [],_,_=>rfl
 |(i,x)::r,cs,h=>by
  simp only [withps,withv];have h1:ev ρ x=ev ρ' x:=h (i,x) (by simp)
  rw [h1];have h2:∀cs',withps U ρ fs r cs' k=withps U ρ' fs r cs' k:=fun cs' =>sj fun p hp=>h p (by simp [hp])
  simp only [h2]
theorem FV {ρ ρ' :Env} {hp:Heap} {b:Builtin} {args:List Operand} {ts:List TypeId} {k:AV→Prop} (h:∀x∈args,ev ρ x=ev ρ' x):pvB U ρ hp b args ts k=pvB U ρ' hp b args ts k:=by
 cases b<;>simp only [pvB,withvs,kN h]
 ·cases args with
  |nil=>rfl
  |cons x r=>
   have hx:=h x (by simp)
   cases r with
   |cons _ _=>rfl
   |nil=>cases ts with
    |nil=>rfl
    |cons t q=>cases q<;>simp only [withv,hx]
 ·cases args with
  |nil=>rfl
  |cons x r=>
   have hx:=h x (by simp)
   cases r with
   |cons _ _=>rfl
   |nil=>cases ts with
    |nil=>rfl
    |cons t q=>cases q<;>simp only [withv,hx]
theorem xE {ρ ρ' :Env} {ty:TypeId} {y:AV} {lo hi mx:Option Operand} {k:AV→Prop} (h1:∀x,lo=some x→ev ρ x=ev ρ' x) (h2:∀x,hi=some x→ev ρ x=ev ρ' x) (h3:∀x,mx=some x→ev ρ x=ev ρ' x):
  pO U ρ ty y lo hi mx k=pO U ρ' ty y lo hi mx k:=by
 have e1:∀d (k:Int→Prop),dR ρ lo d k=dR ρ' lo d k:=fun d k=>qG h1
 have e2:∀d (k:Int→Prop),dR ρ hi d k=dR ρ' hi d k:=fun d k=>qG h2
 cases mx with
 |none=>simp only [pO,e1,e2]
 |some m=>
  have e3:∀d (k:Int→Prop),dR ρ (some m) d k=dR ρ' (some m) d k:=fun d k=>qG h3
  simp only [pO,e1,e2,e3]
theorem BL {ρ ρ' :Env} {h:Heap} {op:Op} {k:AV→Prop} (he:∀x∈op.operands,ev ρ x=ev ρ' x):pv U ρ h op k=pv U ρ' h op k:=by
 cases op<;>simp only [pv]
 case move x=>simp only [withv,he x (by simp [Op.operands])]
 case assign x=>simp only [withv,he x (by simp [Op.operands])]
 case pick c a b=>simp only [withv,he c (by simp [Op.operands]),he a (by simp [Op.operands]),he b (by simp [Op.operands])]
 case nilCheck x=>simp only [withv,he x (by simp [Op.operands])]
 case binOp op ty x y ty' =>simp only [withv,he x (by simp [Op.operands]),he y (by simp [Op.operands])]
 case unOp op ty x=>simp only [withv,he x (by simp [Op.operands])]
 case convert s d x=>simp only [withv,he x (by simp [Op.operands])]
 case field ty x f=>simp only [withv,he x (by simp [Op.operands])]
 case extract x i=>simp only [withv,he x (by simp [Op.operands])]
 case index ty x y=>simp only [withv,he x (by simp [Op.operands]),he y (by simp [Op.operands])]
 case fieldAddr ty x f=>simp only [withv,he x (by simp [Op.operands])]
 case indexAddr ty x y=>simp only [withv,he x (by simp [Op.operands]),he y (by simp [Op.operands])]
 case load ty x=>simp only [withv,he x (by simp [Op.operands])]
 case slice ty x lo hi mx=>
  simp only [withv,he x (by simp [Op.operands])]
  split
  ·exact xE (fun x hx=>he x (by simp [Op.operands,hx])) (fun x hx=>he x (by simp [Op.operands,hx])) (fun x hx=>he x (by simp [Op.operands,hx]))
  ·rfl
 case lookup mt x y ok=>simp only [withv,he x (by simp [Op.operands]),he y (by simp [Op.operands])]
 case buildSlice ty n ps=>
  have:evs ρ (ps.toList.map (·.2))=evs ρ' (ps.toList.map (·.2)):=kN fun x hx=>he x (by simpa [Op.operands] using hx)
  simp only [withvs,this]
 case build ty ps=>
  have:∀fs cs (k:List AV→Prop),withps U ρ fs ps.toList cs k=withps U ρ' fs ps.toList cs k:=fun fs cs k=>sj fun p hp=>he p.2 (by simp only [Op.operands,List.mem_toArray,List.mem_map]; exact ⟨p,hp,rfl⟩)
  simp only [this]
 case makeInterface ty x=>simp only [withv,he x (by simp [Op.operands])]
 case makeFunc fn first cap=>
  have:evs ρ cap.toList=evs ρ' cap.toList:=kN fun x hx=>he x (by simp only [Op.operands,Array.mem_append]; exact .inr (by simpa using hx))
  simp only [withvs,this]
 case call c=>
  obtain ⟨callee,args,ts⟩:=c;cases callee with
  |builtin b=>
   simp only;exact FV fun x hx=>he x (by simp only [Op.operands,Call.operands,Array.mem_append]; exact .inr (by simpa using hx))
  |_=>rfl
def restrict (ρ:Env) (S:List Nat):Env:=ρ.filter fun p=>S.contains p.1
theorem j3 (S:List Nat) (t:Nat):∀ρ:Env,lk (restrict ρ S) t=if S.contains t then lk ρ t else none
 | []=>by simp [restrict,lk]
 |(k,x)::r=>by
  have ih:=j3 S t r;simp only [restrict,List.filter_cons] at ih⊢
  by_cases hk:S.contains k=true
  ·rw [if_pos hk]
   simp only [lk]
   by_cases e:k=t
   ·subst e; rw [if_pos rfl,if_pos hk,if_pos rfl]
   ·rw [if_neg e,if_neg e]; exact ih
  ·rw [if_neg hk]
   rw [ih]
   by_cases e:k=t
   ·subst e
    simp only [hk];rfl
   ·simp only [lk,if_neg e]
def ff (op:Op):List Nat:=op.operands.toList.filterMap fun| .tmp t=>some t|_=>none
abbrev EF:=Nat→Option AV
def DUpon (P:Program) (c:Cx) (h:Heap) (X:AV):Result Next→Prop
 | .ok (.value u) w' =>∃c',c'.w=w'∧Good c'∧Ext c c'∧Sub h c'.h∧Rep c' X u
 | .ok .skip w' =>∃c',c'.w=w'∧Good c'∧Ext c c'∧Sub h c'.h∧Rep c' X undef
 | .ok (.enter f args) w' =>w' =c.w∧Calls P f args w' fun e w'' =>∃u,e= .returned u∧∃c',c'.w=w''∧Good c'∧Ext c c'∧Sub h c'.h∧Rep c' X u
 |_=>False
def DOK (P:Program) (o:Oper) (F:EF) (h:Heap) (X:AV):Prop:=
 ∀(c:Cx) (a:Act),Sub h c.h→Good c→a.defers= []→(∀t∈ff o.op,∀x,F t=some x→Rep c x (a.tmps.getD t undef))→DUpon P c h X ((execOp a.eval o).run P c.w)
def jt (P:Program) (U:TypeId→TI) (ρ:Env) (h:Heap) (o:Oper) (Q:AV→Prop):Prop:=
 match o.op with
 | .call c=>match c.callee with
  | .value q=>withv ρ q fun y=>match y with
   | .fn f cap=>withvs ρ c.args.toList fun ys=>∃X,ak P f (ys++cap) h (fun x h' =>x=X∧h' =h)∧Q X
   |_=>False
  |_=>pv U ρ h o.op Q
 |_=>pv U ρ h o.op Q
theorem DD {ρ:Env} {h:Heap} {o:Oper} {Q:AV→Prop} (hU:∀t,aN P U t) (hk:jt P U ρ h o Q):∃X,Q X∧DOK P o (lk ρ) h X:=by
 have hev:∀x∈o.op.operands,ev (restrict ρ (ff o.op)) x=ev ρ x:=fun x hx=>AP fun t ht=>by
  subst ht;rw [j3,if_pos];rw [List.contains_iff_mem];simp only [ff,List.mem_filterMap];exact ⟨.tmp t,by simpa using hx,rfl⟩
 have henv:∀ {c:Cx} {a:Act},a.defers= []→(∀t∈ff o.op,∀x,lk ρ t=some x→Rep c x (a.tmps.getD t undef))→cj c a.tmps.size (restrict ρ (ff o.op)) a:=fun hd hr=>
  ⟨rfl,hd,fun t x hx=>by
   rw [j3] at hx;split at hx
   ·rename_i hc
    exact hr t (by rwa [List.contains_iff_mem] at hc) x hx
   ·cases hx⟩
 have pure:pv U ρ h o.op Q→∃X,Q X∧DOK P o (lk ρ) h X:=fun hp=>by
  rw [←BL hev] at hp;obtain ⟨X,hQ,hX⟩:=wL hU hp;refine ⟨X,hQ,fun c a hs g hd hr=> ?_⟩
  obtain ⟨u,c',h1,h2,h3,h4,h5⟩:=hX c a _ hs g (henv hd hr);rw [h1];exact ⟨c',rfl,h2,h3,by rw [h4]; exact hs,h5⟩
 unfold jt at hk;split at hk
 ·rename_i cl ho
  obtain ⟨callee,args,ts⟩:=cl;simp only at hk;split at hk
  ·rename_i q
   obtain ⟨y,hy,hk⟩:=aI hk;split at hk
   ·rename_i f cap
    obtain ⟨ys,hys,X,hf,hQ⟩:=eS hk;refine ⟨X,hQ,fun c a hs g hd hr=> ?_⟩
    have he:=henv hd hr;have hvc:aZ P U (restrict ρ (ff o.op)) h o (fun x h' =>x=X∧h' =h):=by
     have e1:ev (restrict ρ (ff o.op)) q=some (.fn f cap):=by rw [hev q (by simp [ho,Op.operands,Call.operands])]; exact hy
     have e2:evs (restrict ρ (ff o.op)) args.toList=some ys:=by
      rw [kN fun x hx=>hev x (by simp only [ho,Op.operands,Call.operands,Array.mem_append]; exact .inr (by simpa using hx))]; exact hys
     simp only [aZ,ho];simp only [ho] at e1 e2;simp only [withv,e1,withvs,e2];exact hf
    have hu:=jK hU hvc hs g he;generalize (execOp a.eval o).run P c.w=r at hu;have conv:∀u w',dX c (fun x h' =>x=X∧h' =h) u w'→∃c',c'.w=w'∧Good c'∧Ext c c'∧Sub h c'.h∧Rep c' X u:=by
     rintro u w' ⟨c',x,h',h1,h2,h3,h4,h5,rfl,rfl⟩
     exact ⟨c',h1,h2,h3,h5,h4⟩
    cases r with
    |ok nx w' =>
     cases nx<;>simp only [jU] at hu<;>simp only [DUpon]
     case value u=>exact conv _ _ hu
     case skip=>exact conv _ _ hu
     case enter f args=>exact ⟨hu.1,hu.2.mono fun e w'' ⟨u,he,hc⟩=>⟨u,he,conv _ _ hc⟩⟩
    |halt x w' =>exact hu.elim
   ·exact hk.elim
  ·exact pure hk
 ·exact pure hk
end
end Go.Ab
