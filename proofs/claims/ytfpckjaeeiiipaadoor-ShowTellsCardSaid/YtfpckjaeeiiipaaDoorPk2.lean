/- The law ShowTells: pack 2 of its texts. -/
import Derived.ScopeJumps
import Derived.Below
import Derived.OpenShut
import Derived.Test.YtfpckjaeeiiipaaDoorProg
import Derived.KernelRfl
import Derived.Lib.ItoaLen
import Derived.Lib.Join
import Derived.Lib.Small
import Derived.Test.YtfpckjaeeiiipaaDoorPk1
set_option linter.unusedSimpArgs false
set_option linter.unusedVariables false
namespace Go.Ab
open Go
section
variable {P : Program} {U : TypeId → TI} {ops : Array Oper} {md : Region.Mode} {hm : Heap}
def bN:Op→Bool
 | .call c=>match c.callee with
  | .value _=>true
  | .builtin .append=>true
  | .builtin .copy=>true
  |_=>false
 | .alloc _=>true
 | .box _ _=>true
 | .store _ _ _=>true
 | .makeSlice _ _ _=>true
 | .makeMap _ _=>true
 | .mapUpdate _ _ _ _=>true
 |_=>false
def DPure (P:Program) (o:Oper) (F:EF) (hm:Heap) (X:AV):Prop:=
 ∀(c:Cx) (a:Act),Sub hm c.h→Good c→a.defers= []→(∀t∈bW o.op,∀x,F t=some x→Rep c x (a.tmps.getD t undef))→
  ∃u c',(execOp a.eval o).run P c.w= .ok (.value u) c'.w∧Good c'∧Ext c c'∧c'.h=c.h∧Rep c' X u
def EOK (P:Program) (o:Oper) (F:EF) (h:Heap) (Q:AV→Heap→Prop):Prop:=
 ∀(c:Cx) (a:Act),Sub h c.h→Good c→a.defers= []→(∀t∈bW o.op,∀x,F t=some x→Rep c x (a.tmps.getD t undef))→eE P c Q ((execOp a.eval o).run P c.w)
theorem jy {c:Cx} {a:Act} {ρ:Env} {o:Oper} (hd:a.defers= []) (hr:∀t∈bW o.op,∀x,lk ρ t=some x→Rep c x (a.tmps.getD t undef)):aP c a.tmps.size (restrict ρ (bW o.op)) a:=
 ⟨rfl,hd,fun t x hx=>by
  rw [en] at hx;split at hx
  ·rename_i hc
   exact hr t (by grind) x hx
  ·cases hx⟩
theorem ld (ρ:Env) (o:Oper):∀x∈o.op.operands,ev (restrict ρ (bW o.op)) x=ev ρ x:=fun x hx=>qj fun t ht=>by
 rw [en,if_pos];rw [List.contains_iff_mem];simp only [bW,List.mem_filterMap];exact ⟨.tmp t,by grind,rfl⟩
theorem sJ {ρ:Env} {o:Oper} {Q:AV→Prop} (hU:∀t,ax P U t) (hp:pv U ρ hm o.op Q):∃X,Q X∧DPure P o (lk ρ) hm X:=by
 rw [←qU (ld ρ o)] at hp;obtain ⟨X,hQ,hX⟩:=ni hU hp;exact ⟨X,hQ,fun c a hs g hd hr=>hX c a _ hs g (jy hd hr)⟩
theorem rP {ρ ρ'} {h} {o} {Q} (hb:bN o.op=true) (he:∀x∈o.op.operands,ev ρ x=ev ρ' x):aF P U ρ h o Q=aF P U ρ' h o Q:=by
 obtain ⟨d,op,t,p,a,g⟩:=o;simp only at hb he;cases op with
 |alloc t=>rfl
 |box t x=>simp only [aF,withv,he x (by simp [Op.operands])]
 |store t a x=>simp only [aF,withv,he a (by simp [Op.operands]),he x (by simp [Op.operands])]
 |makeSlice t l m=>simp only [aF,withv,he l (by simp [Op.operands]),he m (by simp [Op.operands])]
 |makeMap t r=>
  cases r with
  |none=>rfl
  |some x=>simp only [aF,tN,withv,he x (by simp [Op.operands])]
 |mapUpdate t x y z=>simp only [aF,withv,he x (by simp [Op.operands]),he y (by simp [Op.operands]),he z (by simp [Op.operands])]
 |call c=>
  obtain ⟨cal,args,ts⟩:=c;have ha:∀x∈args.toList,ev ρ x=ev ρ' x:=fun x hx=>he x (by simp only [Op.operands,Call.operands,Array.mem_append]; exact .inr (by simpa using hx))
  cases cal with
  |value q=>
   simp only [aF,withv,withvs,he q (by simp [Op.operands,Call.operands]),eN ha]
  |builtin b=>
   cases b with
   |append=>
    simp only [aF];split
    ·rename_i x y ts' tx h1 h2
     simp only [withv,ha x (by rw [h1]; simp),ha y (by rw [h1]; simp)]
    ·rfl
   |copy=>
    simp only [aF];split
    ·rename_i x y ts' tx h1 h2
     simp only [withv,ha x (by rw [h1]; simp),ha y (by rw [h1]; simp)]
    ·rfl
   |_=>simp [bN] at hb
  |_=>simp [bN] at hb
 |_=>simp [bN] at hb
def vcE (P:Program) (U:TypeId→TI) (ρ:Env) (h:Heap) (o:Oper) (Q:AV→Heap→Prop):Prop:=aF P U ρ h o Q
theorem oS {ρ:Env} {h:Heap} {o:Oper} {Q:AV→Heap→Prop} (hU:∀t,ax P U t) (hb:bN o.op=true) (hk:vcE P U ρ h o Q):EOK P o (lk ρ) h Q:=by
 intro c a hs g hd hr;unfold vcE at hk;rw [←rP hb (ld ρ o)] at hk;exact fq hU hk hs g (jy hd hr)
def DQ (P:Program) (o:Oper) (F:EF) (hm:Heap) (X:AV):Prop:=∀h,Sub hm h→EOK P o F h fun x h' =>x=X∧h' =h
theorem DPure.quiet {o} {F} {X} (hp:DPure P o F hm X):DQ P o F hm X:=by
 intro h hs c a hc g hd hr;obtain ⟨u,c',e1,g',hE,e2,hr'⟩:=hp c a (fun i b hb=>hc i b (hs i b hb)) g hd hr
 rw [e1];exact ⟨c',X,h,rfl,g',hE,hr',by grind,rfl,rfl⟩
def FnQ (P:Program) (f:FuncId) (args:List AV) (hm:Heap) (k:AV→Prop):Prop:=∃X,(∀h,Sub hm h→aj P f args h fun x h' =>x=X∧h' =h)∧k X
def vcQ (P:Program) (U:TypeId→TI) (ρ:Env) (hm:Heap) (o:Oper) (k:AV→Prop):Prop:=match o.op with
 | .call c=>match c.callee with
  | .value q=>withv ρ q fun y=>match y with
   | .fn f cap=>withvs ρ c.args.toList fun ys=>FnQ P f (ys++cap) hm k
   |_=>False
  |_=>False
 |_=>False
theorem uP {ρ} {o} {k} (hU:∀t,ax P U t) (hk:vcQ P U ρ hm o k):∃X,k X∧DQ P o (lk ρ) hm X:=by
 obtain ⟨d,op,t,p,a,g⟩:=o;unfold vcQ at hk;simp only at hk;split at hk
 ·rename_i cl
  obtain ⟨cal,args,ts⟩:=cl;simp only at hk;split at hk
  ·rename_i q
   obtain ⟨y,hy,hk⟩:=an hk;split at hk
   ·rename_i f cap
    obtain ⟨ys,hys,X,hf,hQ⟩:=bY hk;refine ⟨X,hQ,fun h hs=>oS hU rfl ?_⟩
    grind [vcE,aF,withv,withvs]
   grind
  grind
 grind
def lp (P:Program) (ops:Array Oper) (hm:Heap) (o:Oper) (K:EF→Heap→Prop) (F:EF) (h:Heap):Prop:=
 (aX ops F o=some true∧(bN o.op=true∧(∃Q:AV→Heap→Prop,EOK P o F h Q∧∀X h',Q X h'→Sub hm h'∧K (cS F o.dst X) h')∨∃X,DQ P o F hm X∧K (cS F o.dst X) h))∨
 (aX ops F o=some false∧K (cS F o.dst (.v undef)) h)
def hOp (P:Program) (ops:Array Oper) (hm:Heap) (i:Nat) (K:EF→Heap→Prop) (F:EF) (h:Heap):Prop:=
 match ops[i]? with
 |none=>K F h
 |some o=>lp P ops hm o K F h
theorem sj {o} {F} {h} {K K'} (hk:∀F h,K F h→K' F h) (hs:lp P ops hm o K F h):lp P ops hm o K' F h:=by
 rcases hs with ⟨h1,⟨h2,Q,h3,h4⟩|⟨X,h3,h4⟩⟩|⟨h1,h2⟩
 ·exact .inl ⟨h1, .inl ⟨h2,Q,h3,fun X h' hq=>⟨(h4 X h' hq).1,hk _ _ (h4 X h' hq).2⟩⟩⟩
 ·exact .inl ⟨h1, .inr ⟨X,h3,hk _ _ h4⟩⟩
 ·exact .inr ⟨h1,hk _ _ h2⟩
theorem eg {i} {F} {h} {K K'} (hk:∀F h,K F h→K' F h) (hs:hOp P ops hm i K F h):hOp P ops hm i K' F h:=by
 grind [hOp,sj]
def YP (P:Program) (ops:Array Oper) (hm:Heap) (o:Oper) (X:AV) (F:EF):Prop:=
 (aX ops F o=some true∧DQ P o F hm X)∨(aX ops F o=some false∧X= .v undef)
theorem qv {o} {X} {F} {h} {K} (hy:YP P ops hm o X F) (hk:K (cS F o.dst X) h):lp P ops hm o K F h:=by
 rcases hy with ⟨h1,h3⟩|⟨h1,rfl⟩
 ·exact .inl ⟨h1, .inr ⟨X,h3,hk⟩⟩
 ·exact .inr ⟨h1,hk⟩
theorem pY {o} {F} {h} {K} (he:bN o.op=false) (hs:lp P ops hm o K F h):∃X,YP P ops hm o X F∧K (cS F o.dst X) h:=by
 rcases hs with ⟨h1,⟨h2,_⟩|⟨X,h3,h4⟩⟩|⟨h1,h2⟩
 ·grind
 ·exact ⟨X, .inl ⟨h1,h3⟩,h4⟩
 ·exact ⟨_, .inr ⟨h1,rfl⟩,h2⟩
theorem x8 {o} {F F'} {X} (hf:∀t∈bW o.op,F t=F' t) (hd:DPure P o F hm X):DPure P o F' hm X:=
 fun c a hs g hdf hr=>hd c a hs g hdf fun t ht x hx=>hr t ht x (by grind)
theorem nY {o} {F F'} {h} {Q} (hf:∀t∈bW o.op,F t=F' t) (hd:EOK P o F h Q):EOK P o F' h Q:=
 fun c a hs g hdf hr=>hd c a hs g hdf fun t ht x hx=>hr t ht x (by grind)
theorem pT {o} {F F'} {X} (hf:∀t∈bW o.op,F t=F' t) (hd:DQ P o F hm X):DQ P o F' hm X:=fun h hs=>nY hf (hd h hs)
theorem mg {o} {F F'} {X} (hf:∀t∈o.looksAt ops,F t=F' t) (hy:YP P ops hm o X F):YP P ops hm o X F' :=by
 rcases hy with ⟨h1,h2⟩|⟨h1,h2⟩
 ·exact .inl ⟨by grind [bL],pT (by grind [eu]) h2⟩
 ·exact .inr ⟨by grind [bL],h2⟩
theorem xD {hm hm'} {j} {oi oj} {X} (hj:ops[j]? =some oj) (hap:oi.apart ops oj=true) {K} {F} {h}
  (hy:YP P ops hm' oi X F) (hs:hOp P ops hm j K (cS F oi.dst X) h):hOp P ops hm j (fun F' h' =>YP P ops hm' oi X F'∧K (cS F' oi.dst X) h') F h:=by
 obtain ⟨h1,h2,h3⟩:=Oper.apart_spec hap;unfold hOp at*;simp only [hj] at*;have hlook:∀t∈oj.looksAt ops,cS F oi.dst X t=F t:=fun t ht=>gw fun e he hte=>h1 e he (hte▸ht)
 have hlook2:∀u,∀t∈oi.looksAt ops,F t=cS F oj.dst u t:=fun u t ht=>(gw fun e he hte=>h3 e he (hte▸ht)).symm
 rcases hs with ⟨w1,⟨w0,Q,w2,w3⟩|⟨Y,w2,w3⟩⟩|⟨w1,w2⟩
 ·refine .inl ⟨by grind [bL], .inl ⟨w0,Q,nY (by grind [eu]) w2,fun Y h' hq=>⟨(w3 Y h' hq).1,mg (hlook2 Y) hy, ?_⟩⟩⟩
  rw [←eP F X Y h2]; exact (w3 Y h' hq).2
 ·refine .inl ⟨by grind [bL], .inr ⟨Y,pT (by grind [eu]) w2,mg (hlook2 Y) hy, ?_⟩⟩
  rw [←eP F X Y h2]; exact w3
 ·refine .inr ⟨by grind [bL],mg (hlook2 _) hy, ?_⟩
  rw [←eP F X _ h2]; exact w2
theorem uk {i} {oi} {X} {F} {h} {K} (hi:ops[i]? =some oi) (hy:YP P ops hm oi X F) (hk:K (cS F oi.dst X) h):hOp P ops hm i K F h:=by
 grind [hOp,qv]
def hS (P:Program) (ops:Array Oper) (H:Nat→Heap) (i:Nat) (K:EF→Heap→Prop) (F:EF) (h:Heap):Prop:=hOp P ops (H i) i K F h
theorem B4 {H}:Sys ops (hS P ops H) fun i X F=>∃oi,ops[i]? =some oi∧YP P ops (H i) oi X F where
 mono hk hs:=eg hk hs
 of hi:=fun ⟨o,ho,hy⟩ hk=>by rw [hi] at ho; cases ho; exact uk hi hy hk
 put hi hj ha:=fun ⟨o,ho,hy⟩ hs=>by
  rw [hi] at ho; cases ho
  exact eg (fun F' h' ⟨a,b⟩=>⟨⟨_,hi,a⟩,b⟩) (xD hj ha hy hs)
def fO (md:Region.Mode) (ops:Array Oper):List Nat→Array Bool→Bool
 | [],_=>true
 |k::ks,listed=>(match ops[k]? with
  |some o=>if bN o.op then Region.ready md ops listed== [k] else (Region.ready md ops listed).contains k && Region.free md ops listed k
  |none=>false) && fO md ops ks (listed.setIfInBounds k true)
def ct:List Nat→Array Bool→Array Bool
 | [],l=>l
 |k::ks,l=>ct ks (l.setIfInBounds k true)
def fc (P:Program) (ops:Array Oper) (H:Nat→Heap) (Q:EF→Heap→Prop):List Nat→EF→Heap→Prop
 | [],F,h=>Q F h
 |i::r,F,h=>hOp P ops (H i) i (fc P ops H Q r) F h
theorem dw {H} {E} {Q} (m):∀(l:List Nat) (listed:Array Bool) (F:EF) (h:Heap),(∀i∈l,Ends md ops E i)→Closed md ops listed→
  fO md ops l listed=true→fc P ops H (fun F h=>iI md ops (hS P ops H) E Q m (ct l listed) F h) l F h→iI md ops (hS P ops H) E Q (m+l.length) listed F h
 | [],_,_,_,_,_,_,hd=>hd
 |k::l,listed,F,h,hE,hcl,hB,hd=>by
  simp only [fO,Bool.and_eq_true] at hB;obtain ⟨hB,hB'⟩:=hB;have hE' :∀i∈l,Ends md ops E i:=fun i hi=>hE i (List.mem_cons_of_mem _ hi)
  cases h0:ops[k]? with
  |none=>grind
  |some o=>
   rw [h0] at hB;simp only at hB;cases he:bN o.op with
   |true=>
    refine ⟨fun e=>(by grind),fun j hj=> ?_⟩
    obtain rfl:j=k:=by grind
    exact eg (fun F' h' hh=>dw m l _ F' h' hE' (hcl.set (by grind)) hB' hh) hd
   |false=>
    rw [he,if_neg (by simp),Bool.and_eq_true] at hB
    have hd:lp P ops (H k) o (fc P ops H (fun F h=>iI md ops (hS P ops H) E Q m (ct (k::l) listed) F h) l) F h:=by
     grind [hOp,fc]
    obtain ⟨X,hy,hK⟩:=pY he hd;have hin:k∈Region.ready md ops listed:=by grind
    exact B4.first h0 (hE k (List.mem_cons_self ..)) (m+l.length) listed F h hcl hB.2 hin ⟨o,h0,hy⟩ (dw m l _ _ _ hE' (hcl.set hin) hB' hK)
theorem dn {H} {Q Q'} (hk:∀F h,Q F h→Q' F h):∀(l:List Nat) (F:EF) (h:Heap),fc P ops H Q l F h→fc P ops H Q' l F h
 | [],F,h,hh=>hk F h hh
 |_::l,_,_,hh=>eg (fun F h hh=>dn hk l F h hh) hh
inductive Ord where
 |seq (l:List Nat)
 |fork (l:List Nat) (i:Nat) (a:Ord) (j:Nat) (b:Ord)
 |quiet (l:List Nat) (i:Nat) (t:Ord)
 |news (l:List Nat) (is:List Nat) (t:Ord)
def nc (md:Region.Mode) (ops:Array Oper):Nat→List Nat→Array Bool→Bool
 |0,l,_=>l.isEmpty
 |fuel+1,l,listed=>l.isEmpty||(!(Region.ready md ops listed).isEmpty && (Region.ready md ops listed).all fun i=>l.contains i && nc md ops fuel (l.erase i) (listed.setIfInBounds i true))
def yA (o:Oper):Bool:=o.guard.isNone && o.dst.isSome && match o.op with
 | .alloc _=>true
 |_=>false
def vW (md:Region.Mode) (ops:Array Oper) (is:List Nat) (listed:Array Bool):Bool:=
 nc md ops is.length is listed && decide is.Nodup && decide (is.map fun i=>(ops[i]?).bind (·.dst)).Nodup && is.all fun i=>((ops[i]?).map yA).getD false
def Ord.len:Ord→Nat
 | .seq l=>l.length
 | .fork l _ a _ _=>a.len+1+l.length
 | .quiet l _ t=>t.len+1+l.length
 | .news l is t=>t.len+is.length+l.length
def dJ (md:Region.Mode) (ops:Array Oper) (z:Option Nat):Ord→Array Bool→Bool
 | .seq l,listed=>fO md ops l listed && rY md ops z (ct l listed)
 | .fork l i a j b,listed=>fO md ops l listed && (Region.ready md ops (ct l listed)== [i,j]) && (a.len==b.len) &&
  (dJ md ops z a ((ct l listed).setIfInBounds i true) && dJ md ops z b ((ct l listed).setIfInBounds j true))
 | .quiet l i t,listed=>fO md ops l listed && (((Region.ready md ops (ct l listed)).contains i && Region.free md ops (ct l listed) i) && dJ md ops z t ((ct l listed).setIfInBounds i true))
 | .news l is t,listed=>fO md ops l listed && (vW md ops is (ct l listed) && dJ md ops z t (ct is (ct l listed)))
theorem dh:∀(l:List Nat) (listed:Array Bool),Closed md ops listed→fO md ops l listed=true→Closed md ops (ct l listed)
 | [],_,hc,_=>hc
 |k::l,listed,hc,hB=>by
  simp only [fO,Bool.and_eq_true] at hB;obtain ⟨hB,hB'⟩:=hB;refine dh l _ (hc.set ?_) hB'
  grind
theorem kg {n:Nat} {i:Nat} {K:EF→Heap→Prop} {K' :Act→World→Prop} {Q:Exit→Act→World→Prop} {c0:Cx} (hdst:∀o∈ops.toList,bS n o.dst=true)
  (hk:∀c F h a,Ext c0 c→Sub h c.h→Sub hm c.h→Good c→eX c n F a→K F h→K' a c.w) {c:Cx} {F:EF} {h:Heap} {a:Act} (hE:Ext c0 c) (hs:Sub h c.h) (hs' :Sub hm c.h) (g:Good c) (he:eX c n F a) (hd:hOp P ops hm i K F h):wpOp P ops Q i K' a c.w:=by
 unfold hOp at hd;unfold wpOp;split
 ·rename_i ho; simp only [ho] at hd; exact hk c F h a hE hs hs' g he hd
 ·rename_i o ho
  simp only [ho] at hd;have hdo:bS n o.dst=true:=by grind
  have main:∀ {h0:Heap} {R:AV→Heap→Prop},Sub h0 c.h→EOK P o F h0 R→(∀c' x h',Good c'→Ext c c'→Sub h' c'.h→R x h'→∀u,Rep c' x u→K' (a.put o.dst u) c'.w)→Oper.wp P o a c.w K' Q:=by
   intro h0 R hs h2 next';have hu:=h2 c a hs g he.2.1 (fun t _ x hx=>he.2.2 t x hx)
   have next:∀u w',bV c R u w'→K' (a.put o.dst u) w' :=by
    rintro u w' ⟨c',x,h',rfl,g',hE',hr,hs2,hR⟩
    exact next' c' x h' g' hE' hs2 hR u hr
   unfold Oper.wp;generalize (execOp a.eval o).run P c.w=r at hu;cases r with
   |ok nx w' =>
    cases nx<;>simp only [eE] at hu<;>simp only [Oper.upon]
    case value u=>exact next u w' hu
    case skip=>exact next undef w' hu
    case enter f args=>
     obtain ⟨rfl,hc⟩:=hu;exact hc.mono fun e w'' ⟨u,he,hcm⟩=>by grind
   |halt x w' =>exact hu.elim
  rcases hd with ⟨h1,⟨h0,R,h2,h3⟩|⟨X,h2,h3⟩⟩|⟨h1,h2⟩
  ·rw [if_pos (dG he h1)]
   left
   refine main hs h2 fun c' x h' g' hE' hs2 hR u hr=> ?_
   obtain ⟨k1,k2⟩:=h3 x h' hR;exact hk c' _ h' _ (hE.trans hE') hs2 (fun j b hj=>hs2 _ _ (k1 _ _ hj)) g' ((he.mono hE').put hdo hr) k2
  ·rw [if_pos (dG he h1)]
   left
   refine main (fun _ _ e=>e) (h2 c.h hs') fun c' x h' g' hE' hs2 hR u hr=> ?_
   obtain ⟨rfl,rfl⟩:=hR;exact hk c' _ h _ (hE.trans hE') (fun j b hj=>hs2 _ _ (hs _ _ hj)) (fun j b hj=>hs2 _ _ (hs' _ _ hj)) g' ((he.mono hE').put hdo hr) h3
  ·rw [if_neg (by grind [dG])]
   exact hk c _ h _ hE hs hs' g (he.put hdo (.v _)) h2
theorem gr {n m:Nat} {E:Array Bool→Prop} {Q:EF→Heap→Prop} {Q' :Exit→Act→World→Prop} {c0:Cx} (hdst:∀o∈ops.toList,bS n o.dst=true)
  (h0:∀listed c F h a,Ext c0 c→Sub h c.h→Good c→eX c n F a→E listed→Q F h→wpAny P md ops Q' m listed a c.w) (fuel:Nat) (listed:Array Bool) (c:Cx) (F:EF) (h:Heap) (a:Act) (h1:Ext c0 c) (h2:Sub h c.h) (h2' :Sub hm c.h) (h3:Good c) (h4:eX c n F a)
  (hd:iI md ops (hS P ops fun _=>hm) E Q fuel listed F h):wpAny P md ops Q' (m+fuel) listed a c.w:=
 gq (T:=fun _ c F h a=>Ext c0 c∧Sub h c.h∧Sub hm c.h∧Good c∧eX c n F a) (fun _ _ _ _ _ _ _ _ ⟨h1,h2,h2',h3,h4⟩ _ hd hk=>kg hdst (fun c F h a k1 k2 k2' k3 k4 hK=>hk c F h a ⟨k1,k2,k2',k3,k4⟩ hK) h1 h2 h2' h3 h4 hd)
  (fun listed c F h a ⟨k1,k2,_,k3,k4⟩ he hq=>h0 listed c F h a k1 k2 k3 k4 he hq) fuel listed c F h a ⟨h1,h2,h2',h3,h4⟩ hd
def xh (md:Region.Mode) (ops:Array Oper):Nat→List Nat→List Nat
 |0,s=>s
 |n+1,s=>xh md ops n (eK md ops s)
theorem od {listed} (hc:Closed md ops listed) {j} (hj:j∈Region.ready md ops listed):∀(n:Nat) (s:List Nat),(∀k∈s,k≠j→listed.getD k false=true)→∀k∈xh md ops n s,k≠j→listed.getD k false=true
 |0,_,h=>h
 |n+1,_,h=>od hc hj n _ (cM hc hj h)
def tc (md:Region.Mode) (ops:Array Oper) (l:List Nat):Bool:=(List.range ops.size).all fun j=>l.contains j||((l.all fun k=>(xh md ops 3 [j]).contains k)||l.all fun k=>(xh md ops 16 [j]).contains k)
theorem rU {l} (hb:tc md ops l=true) {listed} (hc:Closed md ops listed) {j} (hj:j∈Region.ready md ops listed) (hl:j∉l):∀k∈l,listed.getD k false=true:=by
 intro k hk;obtain ⟨hun,oj,hoj,_⟩:=mem_ready.1 hj;unfold tc at hb;rw [List.all_eq_true] at hb;have hm:=hb j (by grind)
 rw [Bool.or_eq_true,Bool.or_eq_true,List.contains_iff_mem] at hm;have s0:∀k∈ [j],k≠j→listed.getD k false=true:=fun k hk hn=>absurd (by simpa using hk) hn
 rcases hm with hm|hm|hm
 ·exact (hl hm).elim
 all_goals
  rw [List.all_eq_true] at hm;have:=hm k hk;rw [List.contains_iff_mem] at this;exact od hc hj _ _ s0 k this fun e=>hl (e▸hk)
theorem vB {fin} {l} (hb:tc md ops l=true) (hfin:∀j∈l,fin.getD j false=true):∀i∈l,Ends md ops (· =fin) i:=fun i hil listed hcl hr he j hj=>by
 by_cases hji:j=i
 ·exact hji
 exfalso
 have hiu:=(mem_ready.1 hr).1;have hju:=(mem_ready.1 hj).1
 by_cases hjl:j∈l
 ·have h1:=hfin j hjl
  rw [←he,getD_set_ne false (Ne.symm hji)] at h1;rcases Nat.lt_or_ge j listed.size with h' |h'
  ·simp [h'] at h1 hju; rw [hju] at h1; cases h1
  ·simp [Array.getElem?_eq_none h'] at h1
 ·have h1:=rU hb hcl hj hjl i hil
  rcases Nat.lt_or_ge i listed.size with h' |h'
  ·simp [h'] at h1 hiu; rw [hiu] at h1; cases h1
  ·simp [Array.getElem?_eq_none h'] at h1
def mb (md:Region.Mode) (ops:Array Oper) (l1 l2:List Nat):Bool:=
 fO md ops l1 (Array.replicate ops.size false) && tc md ops l1 && (l1.all fun j=>(ct l1 (Array.replicate ops.size false)).getD j false) && dJ md ops none (.seq l2) (ct l1 (Array.replicate ops.size false)) && (l2.length+l1.length==ops.size)
def rO (P:Program) (U:TypeId→TI) (hm:Heap) (o:Oper) (ρ:Env) (h:Heap) (K:AV→Heap→Prop):Prop:=
 if bN o.op then vcE P U ρ h o (fun X h' =>Sub hm h'∧K X h') else pv U ρ hm o.op (fun X=>K X h)
def bO (P:Program) (U:TypeId→TI) (n:Nat) (all:List Oper) (hm:Heap):List Nat→Env→Heap→(Env→Heap→Prop)→Prop
 | [],ρ,h,K=>K ρ h
 |i::is,ρ,h,K=>match all[i]? with
  |none=>False
  |some o=>fM all ρ o.guard (fun ρ=>rO P U hm o ρ h fun X h' =>bO P U n all hm is (put ρ o.dst X) h' K) (fun ρ=>bO P U n all hm is (put ρ o.dst (.v undef)) h K)
theorem oF {ρ} {d} {x} (hd:lk ρ d=some x):lk ((d,x)::ρ)=lk ρ:=by
 grind [lk]
theorem bz {n} (hU:∀t,ax P U t) {all} {K}:∀(l:List Nat) (ρ:Env) (h:Heap),bO P U n all hm l ρ h K→fc P all.toArray (fun _=>hm) (fun F h=>∃ρ,lk ρ=F∧K ρ h) l (lk ρ) h
 | [],ρ,h,hk=>⟨ρ,rfl,hk⟩
 |i::is,ρ,h,hk=>by
  simp only [bO] at hk
  show hOp _ _ _ _ _ _ _
  unfold hOp;have e0:(all.toArray)[i]? =all[i]? :=by simp
  rw [e0];cases hi:all[i]? with
  |none=>rw [hi] at hk; exact hk.elim
  |some o=>
   rw [hi] at hk;simp only at hk⊢;have yes:∀ρ',aX all.toArray (lk ρ) o=some true→lk ρ' =lk ρ→rO P U hm o ρ' h (fun X h' =>bO P U n all hm is (put ρ' o.dst X) h' K)→lp P all.toArray hm o (fc P all.toArray (fun _=>hm) (fun F h=>∃ρ,lk ρ=F∧K ρ h) is) (lk ρ) h:=by
    intro ρ' hw hl hv;unfold rO at hv;cases he:bN o.op with
    |true=>
     rw [he,if_pos rfl] at hv;have:=oS hU he hv;rw [hl] at this;refine .inl ⟨hw, .inl ⟨he,_,this,fun X h' hq=>⟨hq.1, ?_⟩⟩⟩
     have:=bz hU is _ _ hq.2;rw [je,hl] at this;exact this
    |false=>
     rw [he,if_neg (by simp)] at hv
     obtain ⟨X,hQ,hX⟩:=sJ hU hv;rw [hl] at hX;refine .inl ⟨hw, .inr ⟨X,hX.quiet, ?_⟩⟩;have:=bz hU is _ _ hQ;rw [je,hl] at this;exact this
   have no:∀ρ',aX all.toArray (lk ρ) o=some false→lk ρ' =lk ρ→bO P U n all hm is (put ρ' o.dst (.v undef)) h K→lp P all.toArray hm o (fc P all.toArray (fun _=>hm) (fun F h=>∃ρ,lk ρ=F∧K ρ h) is) (lk ρ) h:=by
    intro ρ' hw hl hv;have:=bz hU is _ _ hv;rw [je,hl] at this;exact .inr ⟨hw,this⟩
   unfold fM at hk;split at hk
   ·rename_i hg
    exact yes ρ (by grind [aX]) rfl hk
   ·rename_i g want hg
    split at hk
    ·rename_i d hd'
     have hd2:((all.toArray)[g]?).bind (·.dst)=some d:=by grind [gQ]
     split at hk
     ·rename_i t ht
      have hw:aX all.toArray (lk ρ) o=some (t==want):=by
       grind [aX]
      by_cases e:t=want
      ·exact yes _ (by grind) (by grind [oF]) (hk.1 e)
      ·have e' :t= !want:=by cases t<;>cases want<;>simp_all
       exact no _ (by grind) (by grind [oF]) (hk.2 e')
     ·rename_i vs ht
      refine no ρ ?_ rfl hk
      grind [aX]
     ·exact hk.elim
    ·exact hk.elim
def sA (U:TypeId→TI):Op→Option Blk
 | .alloc t=>some (if isUnit (U t).k then .obj [] t else .obj (U t).zero.cells t)
 |_=>none
def nv (U:TypeId→TI):Op→Prop
 | .alloc t=>isUnit (U t).k=true∨(U t).sz≠0∧fit (U t).zero (U t).sz
 |_=>False
def eL (U:TypeId→TI) (all:List Oper):List Nat→Prop
 | []=>True
 |i::is=>(match all[i]? with
  |none=>False
  |some o=>nv U o.op)∧eL U all is
def iQ (P:Program) (U:TypeId→TI) (all:List Oper):List Nat→Env→Heap→(Env→Heap→Prop)→Prop
 | [],ρ,h,K=>K ρ h
 |i::is,ρ,h,K=>match all[i]? with
  |none=>False
  |some o=>aF P U ρ h o fun X h' =>iQ P U all is (put ρ o.dst X) h' K
theorem rQ {ρ:Env} {h:Heap} {o:Oper} {Q:AV→Heap→Prop} {B:Blk} (hB:sA U o.op=some B) (hs:nv U o.op):aF P U ρ h o Q↔∀id,h id=none→Q (.ptr id 0) (upd h id (some B)):=by
 obtain ⟨d,op,t,p,a,g⟩:=o;cases op with
 |alloc ty=>
  simp only [sA,Option.some.injEq] at hB;simp only [nv] at hs;simp only [aF]
  grind
 |_=>grind [sA]
def dA (U:TypeId→TI) (ops:Array Oper) (ids:Nat→Nat) (s:EF×Heap) (i:Nat):EF×Heap:=match ops[i]? with
 |some o=>(cS s.1 o.dst (.ptr (ids i) 0),upd s.2 (ids i) (sA U o.op))
 |none=>s
def Fresh (h:Heap) (is:List Nat) (ids:Nat→Nat):Prop:=(∀i∈is,h (ids i)=none)∧(is.map ids).Nodup
theorem lG {l l'} (hp:l.Perm l') (listed):ct l listed=ct l' listed:=by
 have e:∀(l:List Nat) (x:Array Bool),ct l x=l.foldl (fun x k=>x.setIfInBounds k true) x:=fun l=>by
  induction l with
  |nil=>intro x; rfl
  |cons k l ih=>intro x; exact ih _
 rw [e,e];refine hp.foldl_eq' (fun x _ y _ z=> ?_) listed
 grind
theorem sB {ids:Nat→Nat} {is:List Nat} (hd:(is.map fun i=>(ops[i]?).bind (·.dst)).Nodup) (hs:∀i∈is,∃o d,ops[i]? =some o∧o.dst=some d) (hi:(is.map ids).Nodup):
  ∀x∈is,∀y∈is,∀z,dA U ops ids (dA U ops ids z x) y=dA U ops ids (dA U ops ids z y) x:=by
 have inj:∀ {α:Type} {f:Nat→α} {l:List Nat},(l.map f).Nodup→∀x∈l,∀y∈l,f x=f y→x=y:=by
  intro α f l
  induction l with
  |nil=>simp
  |cons k l ih=>
   grind
 intro x hx y hy z
 by_cases e:x=y
 ·grind
 obtain ⟨ox,dx,hox,hdx⟩:=hs x hx;obtain ⟨oy,dy,hoy,hdy⟩:=hs y hy;simp only [dA,hox,hoy];rw [eP z.1 _ _ (by grind)]
 congr 1
 grind [upd]
theorem uj {E} {Q} {m}:∀(fuel:Nat) (is:List Nat) (listed:Array Bool) (F:EF) (h:Heap),Closed md ops listed→nc md ops fuel is listed=true→Sub hm h→is.Nodup→
  (is.map fun i=>(ops[i]?).bind (·.dst)).Nodup→
  (∀i∈is,∃o d B,ops[i]? =some o∧o.guard=none∧o.dst=some d∧bN o.op=true∧sA U o.op=some B∧∀F h,EOK P o F h fun X h' =>∃id,h id=none∧X= .ptr id 0∧h' =upd h id (some B))→
  (Closed md ops (ct is listed)→∀ids,Fresh h is ids→iI md ops (hS P ops fun _=>hm) E Q m (ct is listed) (is.foldl (dA U ops ids) (F,h)).1 (is.foldl (dA U ops ids) (F,h)).2)→iI md ops (hS P ops fun _=>hm) E Q (m+is.length) listed F h:=by
 intro fuel
 induction fuel with
 |zero=>
  intro is listed F h hcl hp _ _ _ _ H;have:is= []:=by simpa [nc] using hp
  subst this;exact H hcl id ⟨by simp,by simp⟩
 |succ fuel ih=>
  intro is listed F h hcl hp hs hn hdn ho H;simp only [nc,Bool.or_eq_true,List.isEmpty_iff,Bool.and_eq_true,Bool.not_eq_true',List.all_eq_true] at hp;rcases hp with rfl|⟨hp1,hp2⟩
  ·exact H hcl id ⟨by simp,by simp⟩
  have hne:Region.ready md ops listed≠ []:=fun e=>by rw [e] at hp1; simp at hp1
  obtain ⟨i0,hi0⟩:=List.exists_mem_of_ne_nil _ hne;have hl0:m+is.length=(m+(is.length - 1))+1:=by
   have:=List.length_pos_of_mem (show i0∈is by simpa using (hp2 i0 hi0).1)
   omega
  rw [hl0];refine ⟨fun e=>absurd e hne,fun i hi=> ?_⟩
  obtain ⟨h1,h2⟩:=hp2 i hi;have h1:i∈is:=by simpa using h1
  obtain ⟨o,d,B,e1,e2,e3,e4,e5,e6⟩:=ho i h1;have hpm:=List.perm_cons_erase h1;unfold hS hOp;simp only [e1];refine .inl ⟨by simp [aX,e2], .inl ⟨e4,_,e6 F h, ?_⟩⟩
  rintro X h' ⟨id,hid,rfl,rfl⟩
  have hs' :Sub hm (upd h id (some B)):=fun j b hj=>by
   have:=hs j b hj;simp only [upd]
   by_cases e:j=id
   ·subst e; rw [hid] at this; cases this
   ·simp [e,this]
  refine ⟨hs', ?_⟩;have hle:(is.length - 1)=(is.erase i).length:=(List.length_erase_of_mem h1).symm;rw [hle];have hni:i∉is.erase i:=fun hm=>by
   have:=hpm.nodup_iff.1 hn;exact (List.nodup_cons.1 this).1 hm
  refine ih (is.erase i) _ _ _ (hcl.set hi) h2 hs' (hn.erase i) (((hpm.map _).nodup_iff.1 hdn).of_cons) (fun j hj=>ho j (List.mem_of_mem_erase hj)) fun hcl2 ids hf=> ?_
  have hmem:∀j∈is.erase i,j≠i:=fun j hj e=>hni (e▸hj)
  let ids' :Nat→Nat:=fun j=>if j=i then id else ids j
  have hids:∀j∈is.erase i,ids' j=ids j:=fun j hj=>by simp [ids',hmem j hj]
  have hfr:∀j∈is.erase i,ids j≠id∧h (ids j)=none:=fun j hj=>by
   have:=hf.1 j hj;simp only [upd] at this;split at this
   ·cases this
   ·rename_i e; exact ⟨e,this⟩
  have hfresh:Fresh h is ids' :=by
   refine ⟨fun j hj=> ?_, ?_⟩
   ·by_cases e:j=i
    ·subst e; simp [ids',hid]
    ·have hj' :j∈is.erase i:=(List.mem_erase_of_ne e).2 hj
     rw [hids j hj'];exact (hfr j hj').2
   ·rw [(hpm.map ids').nodup_iff,List.map_cons,List.nodup_cons]
    have em:(is.erase i).map ids' =(is.erase i).map ids:=List.map_congr_left hids;rw [em];refine ⟨fun hm=> ?_,hf.2⟩
    obtain ⟨j,hj,he⟩:=List.mem_map.1 hm;exact (hfr j hj).1 (by rw [he]; simp [ids'])
  have hh:=H (by rw [lG hpm]; exact hcl2) ids' hfresh
  have hfold:is.foldl (dA U ops ids') (F,h)=(is.erase i).foldl (dA U ops ids) (cS F o.dst (.ptr id 0),upd h id (some B)):=by
   rw [hpm.foldl_eq' (sB hdn (fun j hj=>by obtain ⟨o,d,B,a1,_,a3,_⟩:=ho j hj; exact ⟨o,d,a1,a3⟩) hfresh.2),List.foldl_cons]
   have e0:dA U ops ids' (F,h) i=(cS F o.dst (.ptr id 0),upd h id (some B)):=by simp [dA,e1,ids',e5]
   rw [e0];have:∀(l:List Nat) (s:EF×Heap),(∀j∈l,ids' j=ids j)→l.foldl (dA U ops ids') s=l.foldl (dA U ops ids) s:=fun l=>by
    induction l with
    |nil=>intro s _; rfl
    |cons k l ih=>
     intro s hl;rw [List.foldl_cons,List.foldl_cons,ih _ fun j hj=>hl j (List.mem_cons_of_mem _ hj)]
     have:dA U ops ids' s k=dA U ops ids s k:=by simp only [dA,hl k (List.mem_cons_self ..)]
     rw [this]
   exact this _ _ hids
  rw [hfold,lG hpm] at hh;exact hh
theorem oT {all:List Oper} {K:Env→Heap→Prop}:∀(is:List Nat) (ρ:Env) (h:Heap),(∀i∈is,∃o B,all[i]? =some o∧sA U o.op=some B∧nv U o.op)→iQ P U all is ρ h K→∀ids,Fresh h is ids→
  ∃ρ',lk ρ' =(is.foldl (dA U all.toArray ids) (lk ρ,h)).1∧K ρ' (is.foldl (dA U all.toArray ids) (lk ρ,h)).2
 | [],ρ,h,_,hk,ids,_=>⟨ρ,rfl,hk⟩
 |i::is,ρ,h,ho,hk,ids,hf=>by
  obtain ⟨o,B,e1,e2,e3⟩:=ho i (List.mem_cons_self ..);simp only [iQ,e1] at hk;have hk:=(rQ e2 e3).1 hk (ids i) (hf.1 i (List.mem_cons_self ..));have hn:=hf.2;rw [List.map_cons,List.nodup_cons] at hn;have hf' :Fresh (upd h (ids i) (some B)) is ids:=⟨fun j hj=>by
   have:ids j≠ids i:=fun e=>hn.1 (e▸List.mem_map.2 ⟨j,hj,rfl⟩)
   simp only [upd,this,if_false];exact hf.1 j (List.mem_cons_of_mem _ hj),hn.2⟩
  obtain ⟨ρ',h1,h2⟩:=oT is _ _ (by grind) hk ids hf'
  have e0:dA U all.toArray ids (lk ρ,h) i=(lk (put ρ o.dst (.ptr (ids i) 0)),upd h (ids i) (some B)):=by
   simp_all [some,dA,je]
  refine ⟨ρ', ?_, ?_⟩
  ·grind
  ·rw [List.foldl_cons,e0]; exact h2
def fY (P:Program) (U:TypeId→TI) (n:Nat) (all:List Oper) (hm:Heap):Ord→Env→Heap→(Env→Heap→Prop)→Prop
 | .seq l,ρ,h,K=>bO P U n all hm l ρ h K
 | .fork l i a j b,ρ,h,K=>bO P U n all hm l ρ h fun ρ h=>
  bO P U n all hm [i] ρ h (fun ρ h=>fY P U n all hm a ρ h K)∧bO P U n all hm [j] ρ h (fun ρ h=>fY P U n all hm b ρ h K)
 | .quiet l i t,ρ,h,K=>bO P U n all hm l ρ h fun ρ h=>match all[i]? with
  |none=>False
  |some o=>o.guard=none∧vcQ P U ρ hm o fun X=>fY P U n all hm t (put ρ o.dst X) h K
 | .news l is t,ρ,h,K=>bO P U n all hm l ρ h fun ρ h=>Sub hm h∧eL U all is∧iQ P U all is ρ h fun ρ h=>fY P U n all hm t ρ h K
theorem dQ {n:Nat} (hU:∀t,ax P U t) {md:Region.Mode} {all:List Oper} {K:Env→Heap→Prop} {z:Option Nat} (hz:∀i,Ends md all.toArray (me md all.toArray z) i):∀(t:Ord) (listed:Array Bool) (ρ:Env) (h:Heap),Closed md all.toArray listed→dJ md all.toArray z t listed=true→fY P U n all hm t ρ h K→
  iI md all.toArray (hS P all.toArray fun _=>hm) (me md all.toArray z) (fun F h=>∃ρ,lk ρ=F∧K ρ h) t.len listed (lk ρ) h
 | .seq l,listed,ρ,h,hc,hB,hk=>by
  simp only [dJ,Bool.and_eq_true] at hB;have:=dw (H:=fun _=>hm) 0 l listed _ h (fun i _=>hz i) hc hB.1 (dn (fun F h hh=>⟨hB.2,hh⟩) l _ h (bz hU l ρ h hk))
  rwa [Nat.zero_add] at this
 | .fork l i a j b,listed,ρ,h,hc,hB,hk=>by
  simp only [dJ,Bool.and_eq_true,beq_iff_eq] at hB;obtain ⟨⟨⟨h1,h2⟩,h3⟩,h4,h5⟩:=hB;have hc' :=dh l listed hc h1;refine dw (a.len+1) l listed _ h (fun i _=>hz i) hc h1 (dn (fun F h hh=> ?_) l _ h (bz hU l ρ h hk))
  obtain ⟨ρ',rfl,g1,g2⟩:=hh;refine ⟨fun e=>(by rw [h2] at e; cases e),fun k hk' => ?_⟩
  have hc2:=hc'.set hk';rw [h2] at hk';rcases List.mem_cons.1 hk' with rfl|hk'
  ·exact eg (fun F h hh=>by obtain ⟨ρ2,rfl,hh⟩:=hh; exact dQ hU hz a _ ρ2 h hc2 h4 hh) (bz hU [k] ρ' h g1)
  ·obtain rfl:k=j:=by grind
   exact eg (fun F h hh=>by obtain ⟨ρ2,rfl,hh⟩:=hh; rw [h3]; exact dQ hU hz b _ ρ2 h hc2 h5 hh) (bz hU [k] ρ' h g2)
 | .quiet l i t,listed,ρ,h,hc,hB,hk=>by
  simp only [dJ,Bool.and_eq_true] at hB;obtain ⟨h1,⟨h2,h3⟩,h4⟩:=hB;have hc' :=dh l listed hc h1;refine dw (t.len+1) l listed _ h (fun i _=>hz i) hc h1 (dn (fun F h hh=> ?_) l _ h (bz hU l ρ h hk))
  obtain ⟨ρ',rfl,g⟩:=hh;cases hi:all[i]? with
  |none=>grind
  |some o=>
   rw [hi] at g;simp only at g;obtain ⟨X,hX,hq⟩:=uP hU g.2;have hi' :all.toArray[i]? =some o:=by grind
   have hin:i∈Region.ready md all.toArray (ct l listed):=by grind
   refine B4.first hi' (hz i) t.len _ _ h hc' h3 hin ⟨o,hi', .inl ⟨by grind [aX],hq⟩⟩ ?_
   rw [←je];exact dQ hU hz t _ _ h (hc'.set hin) h4 hX
 | .news l is t,listed,ρ,h,hc,hB,hk=>by
  simp only [dJ,vW,Bool.and_eq_true,decide_eq_true_eq] at hB;obtain ⟨h1,⟨⟨⟨h2,h3⟩,h4⟩,h5⟩,h6⟩:=hB;have hc' :=dh l listed hc h1;refine dw (t.len+is.length) l listed _ h (fun i _=>hz i) hc h1 (dn (fun F h hh=> ?_) l _ h (bz hU l ρ h hk))
  obtain ⟨ρ',rfl,g1,g2,g3⟩:=hh;have side:∀(is:List Nat),eL U all is→∀i∈is,∃o,all[i]? =some o∧nv U o.op:=fun is=>by
   induction is with
   |nil=>simp
   |cons k is ih=>
    intro hs i hi;simp only [eL] at hs
    grind
  have hall:∀i∈is,∃o d B,all.toArray[i]? =some o∧o.guard=none∧o.dst=some d∧bN o.op=true∧sA U o.op=some B∧nv U o.op:=fun i hi=>by
   obtain ⟨o,ha,hs⟩:=side is g2 i hi;have ha' :all.toArray[i]? =some o:=by grind
   have hn:=List.all_eq_true.1 h5 i hi;rw [ha'] at hn;simp only [Option.map_some,Option.getD_some,yA,Bool.and_eq_true,Option.isNone_iff_eq_none,Option.isSome_iff_exists] at hn;obtain ⟨⟨n1,d,n2⟩,n3⟩:=hn;split at n3
   ·rename_i ty hop
    exact ⟨o,d,_,ha',n1,n2,by rw [hop]; rfl,by rw [hop]; rfl,hs⟩
   ·cases n3
  refine uj (U:=U) is.length is _ _ h hc' h2 g1 h3 h4 (fun i hi=> ?_) fun hc2 ids hf=> ?_
  ·obtain ⟨o,d,B,a1,a2,a3,a4,a5,a6⟩:=hall i hi
   refine ⟨o,d,B,a1,a2,a3,a4,a5,fun F h=> ?_⟩
   intro c a hs g hd hr;exact fq hU ((rQ (ρ:= []) a5 a6).2 fun id hid=>⟨id,hid,rfl,rfl⟩) hs g ⟨rfl,hd,fun t x hx=>by cases hx⟩
  ·obtain ⟨ρ2,b1,b2⟩:=oT is ρ' h (fun i hi=>by
    grind) g3 ids hf
   rw [←b1];exact dQ hU hz t _ ρ2 _ hc2 h6 b2
end
section
variable {P : Program} {U : TypeId → TI} {ops : Array Oper} {md : Region.Mode} {H : Nat → Heap}
def mT (hm:Heap) (l1:List Nat) (i:Nat):Heap:=if l1.contains i then hm else fun _=>none
def o7 (md:Region.Mode) (ops:Array Oper) (l1:List Nat):Bool:=(List.range ops.size).all fun j=>match ops[j]? with
 |some o=>if bN o.op then !l1.contains j && l1.all fun k=>(eK md ops (eK md ops (eK md ops [j]))).contains k else true
 |none=>true
def vO (md:Region.Mode) (ops:Array Oper) (l1 l2:List Nat):Bool:=o7 md ops l1 && dJ md ops none (.seq (l1++l2)) (Array.replicate ops.size false) && ((l1++l2).length==ops.size) && l2.all fun i=> !l1.contains i
theorem qE {l} (hb:o7 md ops l=true) {listed} (hc:Closed md ops listed) {j} {oj} (hoj:ops[j]? =some oj) (he:bN oj.op=true) (hj:j∈Region.ready md ops listed):j∉l∧∀k∈l,listed.getD k false=true:=by
 unfold o7 at hb;rw [List.all_eq_true] at hb;have hm:=hb j (by grind)
 rw [hoj] at hm;simp only [he,if_true,Bool.and_eq_true,Bool.not_eq_true'] at hm;have hl:j∉l:=fun h=>by have:=hm.1; rw [List.contains_iff_mem.2 h] at this; cases this
 refine ⟨hl,fun k hk=> ?_⟩
 have s0:∀k∈ [j],k≠j→listed.getD k false=true:=fun k hk hn=>absurd (by simpa using hk) hn
 have s3:=cM hc hj (cM hc hj (cM hc hj s0));have h2:=hm.2;rw [List.all_eq_true] at h2;have:=h2 k hk;rw [List.contains_iff_mem] at this;exact s3 k this fun e=>hl (e▸hk)
theorem zP {hm hm'} {i} {o} {K} {F} {h} (ho:ops[i]? =some o) (he:bN o.op=false) (hs:Sub hm hm') (hd:hOp P ops hm i K F h):hOp P ops hm' i K F h:=by
 unfold hOp at*;simp only [ho] at*;rcases hd with ⟨h1,⟨h2,_⟩|⟨X,h3,h4⟩⟩|h1
 ·rw [he] at h2; cases h2
 ·exact .inl ⟨h1, .inr ⟨X,fun g hg=>h3 g fun j k e=>hg _ _ (hs _ _ e),h4⟩⟩
 ·exact .inr h1
theorem sn {n} {E} {Q} {Q'} {c0} {hm} {l1} (hb:o7 md ops l1=true) (hdst:∀o∈ops.toList,bS n o.dst=true)
  (h0:∀listed c F h a,Ext c0 c→Sub h c.h→Good c→eX c n F a→E listed→Q F h→wpAny P md ops Q' 0 listed a c.w) (fuel) (listed) (c) (F) (h) (a) (hc:Closed md ops listed) (h1:Ext c0 c) (h2:Sub h c.h) (hor:Sub hm c.h) (h3:Good c) (h4:eX c n F a)
  (hd:iI md ops (hS P ops (mT hm l1)) E Q fuel listed F h):wpAny P md ops Q' (0+fuel) listed a c.w:=by
 refine gq (T:=fun listed c F h a=>Closed md ops listed∧Ext c0 c∧Sub h c.h∧(Sub hm c.h∨∀k∈l1,listed.getD k false=true)∧Good c∧eX c n F a) (fun listed i K c F h a K' ⟨hc,h1,h2,hor,h3,h4⟩ hi hdi hk=> ?_)
  (fun listed c F h a ⟨_,k1,k2,_,k3,k4⟩ he hq=>h0 listed c F h a k1 k2 k3 k4 he hq) fuel listed c F h a ⟨hc,h1,h2, .inl hor,h3,h4⟩ hd
 unfold hS at hdi;have hset:=hc.set hi;obtain ⟨hun,oi,hoi,_⟩:=mem_ready.1 hi;have hun' :listed.getD i false=false:=by
  clear hdi
  grind
 have late:(∀k∈l1,listed.getD k false=true)→∀k∈l1,(listed.setIfInBounds i true).getD k false=true:=fun hh k hk=>by
  have:=hh k hk
  by_cases e:i=k
  ·subst e; rw [hun'] at this; cases this
  ·rw [getD_set_ne false e]; exact this
 have low:i∉l1→(∀k∈l1,listed.getD k false=true)→wpOp P ops Q' i K' a c.w:=fun hni hall=>by
  have eH:mT hm l1 i=fun _=>none:=by
   unfold mT;rw [if_neg (by rw [List.contains_iff_mem]; exact hni)]
  rw [eH] at hdi;exact kg hdst (fun c F h a k1 k2 _ k3 k4 hK=>hk c F h a ⟨hset,k1,k2, .inr (late hall),k3,k4⟩ hK) h1 h2 (fun _ _ e=>by cases e) h3 h4 hdi
 cases he:bN oi.op with
 |true=>
  obtain ⟨hni,hall⟩:=qE hb hc hoi he hi;exact low hni hall
 |false=>
  rcases hor with hs|hall
  ·exact kg hdst (fun c F h a k1 k2 k2' k3 k4 hK=>hk c F h a ⟨hset,k1,k2, .inl k2',k3,k4⟩ hK) h1 h2 hs h3 h4 (zP hoi he (fun j k e=>by
    unfold mT at e;split at e
    ·exact e
    ·cases e) hdi)
  ·exact low (fun hh=>by
    rw [hall i hh] at hun';cases hun') hall
theorem mM {hm} {Q Q'} (hq:∀F h,Q F h→Q' F h):∀(l:List Nat) (F:EF) (h:Heap),(∀i∈l,H i=hm)→fc P ops (fun _=>hm) Q l F h→fc P ops H Q' l F h
 | [],F,h,_,hd=>hq F h hd
 |i::l,F,h,hh,hd=>by
  show hOp P ops (H i) i _ F h
  rw [hh i (by simp)]
  exact eg (fun F h hd=>mM hq l F h (fun i hi=>hh i (by simp [hi])) hd) hd
theorem oA {Q}:∀(l l' :List Nat) (F:EF) (h:Heap),fc P ops H (fc P ops H Q l') l F h→fc P ops H Q (l++l') F h
 | [],_,_,_,hd=>hd
 |i::l,l',F,h,hd=>eg (fun F h hd=>oA l l' F h hd) hd
end
section
variable (P : Program) (U : TypeId → TI) (n : Nat)
def KSeq (next:Env→Heap→Prop) (K:Exit→Env→Heap→Prop) (e:Exit) (ρ:Env) (h:Heap):Prop:=
 match e with
 | .normal=>next ρ h
 |e=>K e ρ h
def KBlock (id:Nat) (K:Exit→Env→Heap→Prop) (e:Exit) (ρ:Env) (h:Heap):Prop:=
 match e with
 | .exit j=>if j=id then K .normal ρ h else K (.exit j) ρ h
 |e=>K e ρ h
def wf1:AV→Prop
 | .s l=>l.length<lim
 | .sl xs _=>xs.length<lim
 |_=>True
def wfA:AV→Prop
 | .agg cs=>∀x∈cs,wf1 x
 | .pe y _=>∀x∈y.cells,wf1 x
 |x=>wf1 x
def Wf (ρ:Env):Prop:=∀t x,lk ρ t=some x→wfA x
def uY (body:Env→Heap→(Exit→Env→Heap→Prop)→Prop) (ρ:Env) (h:Heap) (K:Exit→Env→Heap→Prop):Prop:=
 Wf ρ→∃(I:Nat→Env→Heap→Prop) (m:Nat),I m ρ h∧∀m ρ h,I m ρ h→body ρ h (KSeq (fun ρ' h' =>∃m',m' <m∧I m' ρ' h') K)
def fu (all:List Oper):List Oper→Env→Heap→(Env→Prop)→Prop
 | [],ρ,_,K=>K ρ
 |o::os,ρ,h,K=>bS n o.dst=true∧fM all ρ o.guard
   (fun ρ=>dP P U ρ h o fun X=>fu all os (put ρ o.dst X) h K)
   (fun ρ=>fu all os (put ρ o.dst (.v undef)) h K)
def mU (ops:Array Oper):Bool:=vQ .any ops none ops.size 0 (Array.replicate ops.size false)
def o6:Op→Bool
 | .store .. =>true
 |_=>false
def iO:List Oper→Bool
 | []=>false
 | [o]=>o6 o.op && o.guard.isNone
 |_::b::r=>iO (b::r)
def xL (ops:Array Oper):Bool:=s4 .any ops (ops.size - 1) && vQ .any ops (some (ops.size - 1)) (ops.size - 1) 0 (Array.replicate ops.size false)
def mR (l:List Oper) (h:Heap) (K:Env→Heap→Prop) (ρ:Env):Prop:=match l.getLast? with
 |some o=>aF P U ρ h o fun X h' =>K (put ρ o.dst X) h'
 |none=>False
def fQ (l:List Oper):Bool:=l.all fun o=> !bN o.op
def yR (P:Program) (U:TypeId→TI) (n:Nat) (ops:Array Oper) (ρ:Env) (h:Heap) (K:Env→Heap→Prop):Prop:=
 (ops.toList.all fun o=>bS n o.dst)=true∧
 (mU ops=true∧fu P U n ops.toList ops.toList ρ h (fun ρ=>K ρ h)∨
  (∃(hm:Heap) (t:Ord) (Post:Env→Heap→Prop),Sub hm h∧dJ .any ops none t (Array.replicate ops.size false)=true∧t.len=ops.size∧fY P U n ops.toList hm t ρ h Post∧∀ρ h,Post ρ h→K ρ h)∨
  (∃(hm:Heap) (l1 l2:List Nat),Sub hm h∧mb .any ops l1 l2=true∧bO P U n ops.toList hm l1 ρ h (fun ρ h=>∃hm2,Sub hm2 h∧bO P U n ops.toList hm2 l2 ρ h K))∨
  (∃(hm:Heap) (t:Ord),Sub hm h∧s4 .any ops t.len=true∧(ops.toList.getLast?.map fun o=>o.guard.isNone)=some true∧dJ .any ops (some t.len) t (Array.replicate ops.size false)=true∧t.len+1=ops.size∧fY P U n ops.toList hm t ρ h (fun ρ h=>mR P U ops.toList h K ρ))∨
  ∃(hm:Heap) (l1 l2:List Nat),Sub hm h∧vO .any ops l1 l2=true∧bO P U n ops.toList hm l1 ρ h (fun ρ h=>bO P U n ops.toList (fun _=>none) l2 ρ h K))
def WP (c:Code) (ρ:Env) (h:Heap) (K:Exit→Env→Heap→Prop):Prop:=
 ∀cx a,Sub h cx.h→Good cx→aP cx n ρ a→c.wp P (WPK n K cx) a cx.w
def KJump (l:Nat) (J:Env→Heap→Prop) (K:Exit→Env→Heap→Prop):Exit→Env→Heap→Prop
 | .goto l',ρ,h=>l' =l∧J ρ h
 |e,ρ,h=>K e ρ h
def aJ:Code→Env→Heap→(Exit→Env→Heap→Prop)→Prop
 | .skip,ρ,h,K=>K .normal ρ h
 | .region _ ops draw,ρ,h,K=>if draw then (if iO ops.toList && fQ ops.toList.dropLast then (xL ops && ops.toList.all fun o=>bS n o.dst)=true∧fu P U n ops.toList ops.toList.dropLast ρ h (mR P U ops.toList h (K .normal)) else if fQ ops.toList=false then yR P U n ops ρ h (K .normal) else (mU ops && ops.toList.all fun o=>bS n o.dst)=true∧fu P U n ops.toList ops.toList ρ h (fun ρ=>K .normal ρ h)) else dK P U n ops.toList ops.toList ρ h (K .normal)
 | .seq a b,ρ,h,K=>aJ a ρ h (KSeq (fun ρ h=>aJ b ρ h K) K)
 | .cond c a b,ρ,h,K=>withv ρ c fun
  | .v (.bool t)=>(t=true→aJ a ρ h K)∧(t=false→aJ b ρ h K)
  |_=>False
 | .block id c,ρ,h,K=>aJ c ρ h (KBlock id K)
 | .loop c,ρ,h,K=>uY (fun ρ h K=>aJ c ρ h K) ρ h K
 | .exit id,ρ,h,K=>K (.exit id) ρ h
 | .ret,ρ,h,K=>K .ret ρ h
 | .label _,ρ,h,K=>K .normal ρ h
 | .goto l,ρ,h,K=>K (.goto l) ρ h
 | .scope c,ρ,h,K=>∃(l:Nat) (rest:Code) (J:Nat→Env→Heap→Prop),findLabel c l=some rest∧aJ c ρ h (KJump l (fun ρ h=>∃m,J m ρ h) K)∧
  ∀m ρ h,J m ρ h→WP P n rest ρ h (KJump l (fun ρ' h' =>∃m',m' <m∧J m' ρ' h') K)
 |_,_,_,_=>False
end
section
variable {P : Program} {U : TypeId → TI} {n : Nat}
theorem WPK.mono {K K'} {c0} (hk:∀e ρ h,K e ρ h→K' e ρ h) {e} {a} {w} (h:WPK n K c0 e a w):WPK n K' c0 e a w:=by
 obtain ⟨c,ρ,hh,h1,h2,h3,h4,h5,h6⟩:=h;exact ⟨c,ρ,hh,h1,h2,h3,h4,h5,hk _ _ _ h6⟩
theorem WP.weaken {c} {ρ} {h} {K K'} (hw:WP P n c ρ h K) (hk:∀e ρ h,K e ρ h→K' e ρ h):WP P n c ρ h K' :=
 fun cx a h1 h2 h3=>wp_mono (hw cx a h1 h2 h3) fun _ _ _=>WPK.mono hk
theorem WP.seq {c d} {ρ} {h} {K} (hc:WP P n c ρ h (KSeq (WP P n d · · K) K)):WP P n (.seq c d) ρ h K:=by
 intro cx a h1 h2 h3;refine wp_seq (wp_mono (hc cx a h1 h2 h3) fun e a w hq=> ?_)
 obtain ⟨c',ρ',h',rfl,g,hE,he,hs,hk⟩:=hq;cases e with
 |normal=>
  have:=hk c' a hs g he;exact wp_mono this fun _ _ _=>WPK.after hE
 |_=>exact ⟨c',ρ',h',rfl,g,hE,he,hs,hk⟩
theorem WP.block {id} {c} {ρ} {h} {K} (hc:WP P n c ρ h (KBlock id K)):WP P n (.block id c) ρ h K:=by
 intro cx a h1 h2 h3;refine wp_block (wp_mono (hc cx a h1 h2 h3) fun e a w hq=> ?_)
 obtain ⟨c',ρ',h',rfl,g,hE,he,hs,hk⟩:=hq;cases e with
 |exit j=>
  simp only [Exit.inBlock,KBlock] at hk⊢;split
  ·rename_i e; rw [if_pos e] at hk; exact ⟨c',ρ',h',rfl,g,hE,he,hs,hk⟩
  ·rename_i e; rw [if_neg e] at hk; exact ⟨c',ρ',h',rfl,g,hE,he,hs,hk⟩
 |_=>exact ⟨c',ρ',h',rfl,g,hE,he,hs,hk⟩
theorem pR {c} {Q:Exit→Act→World→Prop} (I:Nat→Act→World→Prop) (round:∀m a w,I m a w→c.wp P (Exit.then (fun a' w' =>∃m',m' <m∧I m' a' w') Q) a w):
  ∀m a w,I m a w→(Code.loop c).wp P Q a w:=by
 intro m a w h0 b k cs;have key:∀n a w,I n a w→∃e a' w',Q e a' w'∧Arrives P (lone (b.at a (.code c:: .inLoop c::k)) cs w) b k cs e a' w' :=by
  intro n
  induction n using Nat.strongRecOn with
  |_ n ih=>
   intro a w hI;obtain ⟨e,a₁,w₁,hq,harr⟩:=round n a w hI b (.inLoop c::k) cs;cases e with
   |normal=>
    obtain ⟨m',hlt,hI₁⟩:=hq;obtain ⟨e₂,a₂,w₂,hq₂,harr₂⟩:=ih m' hlt a₁ w₁ hI₁;exact ⟨e₂,a₂,w₂,hq₂, .of_steps (Steps.trans harr (.one step_inLoop)) harr₂⟩
   |exit id=>exact ⟨_,a₁,w₁,hq, .pass (x:= .inLoop c) rfl (by simp) harr⟩
   |goto l=>exact ⟨_,a₁,w₁,hq, .pass (x:= .inLoop c) rfl (by simp) harr⟩
   |ret=>exact ⟨_,a₁,w₁,hq, .pass (x:= .inLoop c) rfl (by simp) harr⟩
   |panic ch=>exact ⟨_,a₁,w₁,hq, .pass (x:= .inLoop c) rfl (by simp) harr⟩
   |outgrown=>exact ⟨_,a₁,w₁,hq, .pass (x:= .inLoop c) rfl (by simp) harr⟩
 obtain ⟨e,a',w',hq,harr⟩:=key m a w h0;exact ⟨e,a',w',hq, .of_steps (.one step_loop) harr⟩
def Exit.vN (l:Nat) (J:Act→World→Prop) (Q:Exit→Act→World→Prop):Exit→Act→World→Prop
 | .goto l',a,w=>l' =l∧J a w
 |e,a,w=>Q e a w
theorem nW {c rest} {Q:Exit→Act→World→Prop} {a} {w} (l:Nat) (J:Nat→Act→World→Prop) (hf:findLabel c l=some rest)
  (first:c.wp P (Exit.vN l (fun a w=>∃m,J m a w) Q) a w)
  (pass:∀m a w,J m a w→rest.wp P (Exit.vN l (fun a' w' =>∃m',m' <m∧J m' a' w') Q) a w):(Code.scope c).wp P Q a w:=by
 intro b k cs;have hg:gotoIn l (.inScope c::k)=some (.code rest:: .inScope c::k):=by grind [gotoIn]
 have key:∀m a w,J m a w→∃e a' w',Q e a' w'∧Arrives P (lone (b.at a (.code rest:: .inScope c::k)) cs w) b k cs e a' w' :=by
  intro m
  induction m using Nat.strongRecOn with
  |_ m ih=>
   intro a w hJ;obtain ⟨e,a₁,w₁,hq,harr⟩:=pass m a w hJ b (.inScope c::k) cs;cases e with
   |normal=>exact ⟨.normal,a₁,w₁,hq,Steps.trans harr (.one step_inScope)⟩
   |exit id=>exact ⟨.exit id,a₁,w₁,hq,fun k' hk=>harr k' (by grind [exitTo])⟩
   |goto l' =>
    obtain ⟨rfl,m',hlt,hJ'⟩:=hq;obtain ⟨e₂,a₂,w₂,hq₂,harr₂⟩:=ih m' hlt a₁ w₁ hJ';exact ⟨e₂,a₂,w₂,hq₂, .of_steps (harr _ hg) harr₂⟩
   |ret=>exact ⟨_,a₁,w₁,hq,harr⟩
   |panic ch=>exact ⟨_,a₁,w₁,hq,harr⟩
   |outgrown=>exact ⟨_,a₁,w₁,hq,harr⟩
 obtain ⟨e,a₁,w₁,hq,harr⟩:=first b (.inScope c::k) cs;cases e with
 |normal=>exact ⟨.normal,a₁,w₁,hq, .head step_scope (Steps.trans harr (.one step_inScope))⟩
 |exit id=>exact ⟨.exit id,a₁,w₁,hq,fun k' hk=> .head step_scope (harr k' (by grind [exitTo]))⟩
 |goto l' =>
  obtain ⟨rfl,m,hJ⟩:=hq;obtain ⟨e₂,a₂,w₂,hq₂,harr₂⟩:=key m a₁ w₁ hJ;exact ⟨e₂,a₂,w₂,hq₂, .of_steps (.head step_scope (harr _ hg)) harr₂⟩
 |ret=>exact ⟨_,a₁,w₁,hq, .of_steps (.one step_scope) harr⟩
 |panic ch=>exact ⟨_,a₁,w₁,hq, .of_steps (.one step_scope) harr⟩
 |outgrown=>exact ⟨_,a₁,w₁,hq, .of_steps (.one step_scope) harr⟩
theorem WP.scope {c rest} {ρ:Env} {h:Heap} {K:Exit→Env→Heap→Prop} (l:Nat) (J:Nat→Env→Heap→Prop) (hf:findLabel c l=some rest) (first:WP P n c ρ h (KJump l (fun ρ h=>∃m,J m ρ h) K))
  (pass:∀m ρ h,J m ρ h→WP P n rest ρ h (KJump l (fun ρ' h' =>∃m',m' <m∧J m' ρ' h') K)):WP P n (.scope c) ρ h K:=by
 intro cx a h1 h2 h3;refine nW l (fun m a w=>∃c' ρ' h',c'.w=w∧Good c'∧Ext cx c'∧aP c' n ρ' a∧Sub h' c'.h∧J m ρ' h') hf (wp_mono (first cx a h1 h2 h3) fun e a w hq=> ?_) ?_
 ·obtain ⟨c2,ρ2,h2,rfl,g2,hE2,he2,hs2,hk⟩:=hq
  cases e with
  |goto l' =>obtain ⟨e1,m,hI⟩:=hk; exact ⟨e1,m,c2,ρ2,h2,rfl,g2,hE2,he2,hs2,hI⟩
  |_=>exact ⟨c2,ρ2,h2,rfl,g2,hE2,he2,hs2,hk⟩
 ·rintro m a w ⟨c',ρ',h',rfl,g,hE,he,hs,hI⟩
  refine wp_mono (pass m ρ' h' hI c' a hs g he) fun e a w hq=> ?_
  obtain ⟨c2,ρ2,h2,rfl,g2,hE2,he2,hs2,hk⟩:=hq;cases e with
  |goto l' =>
   obtain ⟨e1,m',hlt,hI'⟩:=hk;exact ⟨e1,m',hlt,c2,ρ2,h2,rfl,g2,hE.trans hE2,he2,hs2,hI'⟩
  |_=>exact ⟨c2,ρ2,h2,rfl,g2,hE.trans hE2,he2,hs2,hk⟩
theorem WP.loop {c} {ρ:Env} {h:Heap} {K:Exit→Env→Heap→Prop} (I:Nat→Env→Heap→Prop) (m:Nat) (h0:I m ρ h) (round:∀m ρ h,I m ρ h→WP P n c ρ h (KSeq (fun ρ' h' =>∃m',m' <m∧I m' ρ' h') K)):
  WP P n (.loop c) ρ h K:=by
 intro cx a h1 h2 h3;refine pR (fun m a w=>∃c' ρ' h',c'.w=w∧Good c'∧Ext cx c'∧aP c' n ρ' a∧Sub h' c'.h∧I m ρ' h') ?_ m a cx.w ⟨cx,ρ,h,rfl,h2, .refl _,h3,h1,h0⟩
 rintro m a w ⟨c',ρ',h',rfl,g,hE,he,hs,hI⟩
 refine wp_mono (round m ρ' h' hI c' a hs g he) fun e a w hq=> ?_
 obtain ⟨c2,ρ2,h2,rfl,g2,hE2,he2,hs2,hk⟩:=hq;cases e with
 |normal=>
  obtain ⟨m',hlt,hI'⟩:=hk;exact ⟨m',hlt,c2,ρ2,h2,rfl,g2,hE.trans hE2,he2,hs2,hI'⟩
 |_=>exact ⟨c2,ρ2,h2,rfl,g2,hE.trans hE2,he2,hs2,hk⟩
theorem WP.ops (hU:∀t,ax P U t) {id} {ops} {ρ} {h} {K} (hk:dK P U n ops.toList ops.toList ρ h (K .normal)):WP P n (.region id ops false) ρ h K:=by
 intro cx a h1 h2 h3;refine wp_region_list ?_;have:=ij (K:=K) hU cx ops.toList ρ h hk cx a (.refl _) h1 h2 h3;simpa using this
theorem Rep.wf1 {c} {x} {u} (h:Rep c x u):wf1 x:=by
 cases x with
 |s l=>exact h.fl.2
 |sl xs p=>obtain ⟨a,cap,sz,val,_,hs⟩:=h.dc; have:=hs.hc; have:=hs.hm; simp only [Ab.wf1]; omega
 |_=>trivial
theorem Rep.wf {c} {x} {u} (h:Rep c x u):wfA x:=by
 cases x with
 |agg cs=>
  obtain ⟨vs,_,_,hr,_⟩:=h.gh;intro x hx;obtain ⟨i,hi,rfl⟩:=List.mem_iff_getElem.1 hx
  grind [wf1]
 |pe y off=>
  obtain ⟨b,o,val,_,_,_,hr,_⟩:=h.kI;intro x hx;obtain ⟨i,hi,rfl⟩:=List.mem_iff_getElem.1 hx
  grind [wf1]
 |_=>exact h.wf1
theorem aP.wf {c} {ρ} {a} (h:aP c n ρ a):Wf ρ:=fun t x hx=>(h.rep t x hx).wf
theorem qG {ρ} {d} {x} (hd:lk ρ d=some x):lk ((d,x)::ρ)=lk ρ:=by
 grind [lk]
theorem gC (hU:∀t,ax P U t) {all} {h} {K}:∀(l:List Oper) (ρ:Env),fu P U n all l ρ h K→dList P all.toArray h (fun F=>∃ρ,lk ρ=F∧K ρ) l (lk ρ)
 | [],ρ,hk=>⟨ρ,rfl,hk⟩
 |o::os,ρ,hk=>by
  obtain ⟨hd,hk⟩:=hk;have yes:∀ρ',aX all.toArray (lk ρ) o=some true→lk ρ' =lk ρ→(dP P U ρ' h o fun X=>fu P U n all os (put ρ' o.dst X) h K)→kX P all.toArray h o (dList P all.toArray h (fun F=>∃ρ,lk ρ=F∧K ρ) os) (lk ρ):=by
   intro ρ' hw hl hv;obtain ⟨X,hQ,hX⟩:=sX hU hv;have:=gC hU os _ hQ;rw [je,hl] at this;rw [hl] at hX;exact .inl ⟨hw,X,hX,this⟩
  have no:∀ρ',aX all.toArray (lk ρ) o=some false→lk ρ' =lk ρ→fu P U n all os (put ρ' o.dst (.v undef)) h K→kX P all.toArray h o (dList P all.toArray h (fun F=>∃ρ,lk ρ=F∧K ρ) os) (lk ρ):=by
   intro ρ' hw hl hv;have:=gC hU os _ hv;rw [je,hl] at this;exact .inr ⟨hw,this⟩
  unfold fM at hk;split at hk
  ·rename_i hg
   exact yes ρ (by grind [aX]) rfl hk
  ·rename_i g want hg
   split at hk
   ·rename_i d hd'
    have hd2:((all.toArray)[g]?).bind (·.dst)=some d:=by grind [gQ]
    split at hk
    ·rename_i t ht
     have hw:aX all.toArray (lk ρ) o=some (t==want):=by
      grind [aX]
     by_cases e:t=want
     ·exact yes _ (by grind) (by grind [qG]) (hk.1 e)
     ·have e' :t= !want:=by cases t<;>cases want<;>simp_all
      exact no _ (by grind) (by grind [qG]) (hk.2 e')
    ·rename_i vs ht
     refine no ρ ?_ rfl hk
     grind [aX]
    ·exact hk.elim
   ·exact hk.elim
theorem WP.any (hm:P.follows .mixedOrders=true) {id} {ops} {ρ} {h} {K} (hk:∀c0 c a,Ext c0 c→Sub h c.h→Good c→eX c n (lk ρ) a→wpAny P .any ops (WPK n K c0) ops.size (Array.replicate ops.size false) a c.w):WP P n (.region id ops true) ρ h K:=by
 intro cx a h1 h2 h3;have hE:Ext cx {cx with w:= {cx.w with drawn:=cx.w.drawn+1}}:=Ext.draw rfl rfl rfl rfl
 exact wp_region_any hm (hk cx {cx with w:= {cx.w with drawn:=cx.w.drawn+1}} a hE h1 (h2.draw rfl rfl rfl rfl) ⟨h3.size,h3.defers,fun t x hx=>(h3.rep t x hx).mono hE⟩)
theorem lW {ops} {K} {listed} {c0 c} {F} {h} {a} (hE:Ext c0 c) (hs:Sub h c.h) (g:Good c) (he:eX c n F a) (hz:me .any ops none listed) (hK:∃ρ,lk ρ=F∧K .normal ρ h):wpAny P .any ops (WPK n K c0) 0 listed a c.w:=by
 obtain ⟨ρ',rfl,hK⟩:=hK;exact ⟨by simpa [me,rY] using hz,c,ρ',h,rfl,g,hE,⟨he.1,he.2.1,he.2.2⟩,hs,hK⟩
theorem qf (hU:∀t,ax P U t) {ops} {K} {z} {oz} (hoz:ops.toList.getLast? =some oz) (hgz:oz.guard=none) (hzz:ops[z]? =some oz) (hdst:∀o∈ops.toList,bS n o.dst=true) {listed} {c0 c} {F} {h} {a} (hE:Ext c0 c) (hs:Sub h c.h) (g:Good c) (he:eX c n F a)
  (hz:me .any ops (some z) listed) (hK:∃ρ,lk ρ=F∧mR P U ops.toList h (K .normal) ρ):wpAny P .any ops (WPK n K c0) 1 listed a c.w:=by
 obtain ⟨ρ',rfl,hK⟩:=hK;simp only [me,rY,Bool.and_eq_true,beq_iff_eq,List.isEmpty_iff] at hz;refine ⟨fun e=>(by rw [hz.1] at e; cases e),fun i hi=> ?_⟩
 rw [hz.1] at hi;obtain rfl:i=z:=by grind
 refine wpOp_mono (fun a w hh=>⟨hz.2,hh⟩) ?_
 unfold mR at hK;rw [hoz] at hK;have he' :aP c n ρ' a:=⟨he.1,he.2.1,he.2.2⟩;have hdz:bS n oz.dst=true:=by grind
 have hu:=fq hU hK hs g he';unfold wpOp;rw [hzz];simp only;rw [if_pos (by grind [Region.wanted])]
 left
 have next:∀u w',bV c (fun X h' =>K .normal (put ρ' oz.dst X) h') u w'→WPK n K c0 .normal (a.put oz.dst u) w' :=by
  rintro u w' ⟨c',x,h',rfl,g',hE',hr,hs',hK⟩
  exact ⟨c',_,h',rfl,g',hE.trans hE',(he'.mono hE').put hdz hr,hs',hK⟩
 unfold Oper.wp;generalize (execOp a.eval oz).run P c.w=r at hu;cases r with
 |ok nx w' =>
  cases nx<;>simp only [eE] at hu<;>simp only [Oper.upon]
  case value u=>exact next u w' hu
  case skip=>exact next undef w' hu
  case enter f args=>
   obtain ⟨rfl,hc⟩:=hu;exact hc.mono fun e w'' ⟨u,he,hcm⟩=>by grind
 |halt x w' =>exact hu.elim
theorem WP.draw (hU:∀t,ax P U t) (hm:P.follows .mixedOrders=true) {id} {ops} {ρ} {h} {K} (hdst:∀o∈ops.toList,bS n o.dst=true) (hB:mU ops=true)
  (hk:fu P U n ops.toList ops.toList ρ h (fun ρ=>K .normal ρ h)):WP P n (.region id ops true) ρ h K:=
 WP.any hm fun c0 c a hE h1 h2 h3=>by
 have hd:=mC (md:= .any) (ops:=ops) (z:=none) (fun k e=>by cases e) ops.toList 0 (Array.replicate ops.size false) (lk ρ) h (.none _ _ _) (by simp) (by grind [mU]) (by simpa using gC hU ops.toList ρ hk)
 simpa using mD (m:=0) hdst (fun listed c F g a k1 k2 k3 k4 he hq=>lW k1 k2 k3 k4 he hq) _ _ c _ h a hE h1 h2 h3 hd
theorem WP.BM (hU:∀t,ax P U t) (hm:P.follows .mixedOrders=true) {id} {ops} {ρ} {h hl} {K} {t} {Post} (hdst:∀o∈ops.toList,bS n o.dst=true) (hsub:Sub hl h)
  (hB:dJ .any ops none t (Array.replicate ops.size false)=true) (hlen:t.len=ops.size)
  (hk:fY P U n ops.toList hl t ρ h Post) (hp:∀ρ h,Post ρ h→K .normal ρ h):WP P n (.region id ops true) ρ h K:=
 WP.any hm fun c0 c a hE h1 h2 h3=>by
 have hd:=dQ (md:= .any) (all:=ops.toList) (z:=none) hU (mG fun k e=>by cases e) t (Array.replicate ops.size false) ρ h (.none _ _ _) hB hk
 have:=gr (m:=0) hdst (fun listed c F h a k1 k2 k3 k4 he ⟨ρ,e,hq⟩=>lW k1 k2 k3 k4 he ⟨ρ,e,hp _ _ hq⟩) _ _ c _ h a hE h1 (fun i k hi=>h1 _ _ (hsub _ _ hi)) h2 h3 hd
 rw [hlen,Nat.zero_add] at this;exact this
theorem WP.BO (hU:∀t,ax P U t) (hm:P.follows .mixedOrders=true) {id} {ops} {ρ} {h hl} {K} {l1 l2} (hdst:∀o∈ops.toList,bS n o.dst=true) (hsub:Sub hl h)
  (hB:mb .any ops l1 l2=true) (hk:bO P U n ops.toList hl l1 ρ h (fun ρ h=>∃hm2,Sub hm2 h∧bO P U n ops.toList hm2 l2 ρ h (K .normal))):WP P n (.region id ops true) ρ h K:=
 WP.any hm fun c0 c a hE h1 h2 h3=>by
 simp only [mb,Bool.and_eq_true,List.all_eq_true,beq_iff_eq] at hB;obtain ⟨⟨⟨⟨b1,b2⟩,b3⟩,b4⟩,b5⟩:=hB;have hcl:=Closed.none .any ops ops.size;have hd:=dw (md:= .any) 0 l1 (Array.replicate ops.size false) (lk ρ) h (vB b2 b3) hcl b1 (dn (fun F h hh=>⟨rfl,hh⟩) l1 _ h (bz hU l1 ρ h hk))
 rw [Nat.zero_add] at hd;have:=gr (m:=l2.length) hdst (fun listed c F h a k1 k2 k3 k4 he hR=>by
  subst he;obtain ⟨ρ',rfl,hm2,hs2,hk2⟩:=hR;have ha:=dQ (md:= .any) (all:=ops.toList) (z:=none) (hm:=hm2) hU (mG fun k e=>by cases e) (.seq l2) _ ρ' h (dh l1 _ hcl b1) b4 hk2
  have:=gr (m:=0) hdst (fun listed c F h a k1 k2 k3 k4 he hq=>lW k1 k2 k3 k4 he hq) _ _ c _ h a k1 k2 (fun i k hi=>k2 _ _ (hs2 _ _ hi)) k3 k4 ha
  rwa [Nat.zero_add] at this) _ _ c _ h a hE h1 (fun i k hi=>h1 _ _ (hsub _ _ hi)) h2 h3 hd
 rw [b5] at this;exact this
theorem WP.BN (hU:∀t,ax P U t) (hm:P.follows .mixedOrders=true) {id} {ops} {ρ} {h hl} {K} {l1 l2} (hdst:∀o∈ops.toList,bS n o.dst=true) (hsub:Sub hl h)
  (hB:vO .any ops l1 l2=true) (hk:bO P U n ops.toList hl l1 ρ h (fun ρ h=>bO P U n ops.toList (fun _=>none) l2 ρ h (K .normal))):WP P n (.region id ops true) ρ h K:=
 WP.any hm fun c0 c a hE h1 h2 h3=>by
 simp only [vO,dJ,Bool.and_eq_true,beq_iff_eq,List.all_eq_true] at hB;obtain ⟨⟨⟨b1,b2,b5⟩,b3⟩,b4⟩:=hB;have hcl:=Closed.none .any ops ops.size;have hd2:fc P ops (mT hl l1) (fun F h=>∃ρ,lk ρ=F∧K .normal ρ h) (l1++l2) (lk ρ) h:=
  oA _ _ _ _ (mM (fun F h ⟨ρ',e,hk2⟩=>by
   subst e;exact mM (fun _ _ hh=>hh) l2 _ h (fun i hi=>by
    have:=b4 i hi;unfold mT;rw [if_neg (by simpa using this)]) (bz hU l2 ρ' h hk2)) l1 _ h (fun i hi=>by unfold mT; rw [if_pos (List.contains_iff_mem.2 hi)]) (bz hU l1 ρ h hk))
 have ha:=dw (md:= .any) (E:=me .any ops none) 0 _ _ _ _ (fun i _=>mG (fun k e=>by cases e) i) hcl b2 (dn (fun F h hh=>⟨b5,hh⟩) _ _ h hd2)
 rw [Nat.zero_add] at ha;have:=sn b1 hdst (fun listed c F h a k1 k2 k3 k4 he hq=>lW k1 k2 k3 k4 he hq) _ _ c _ h a hcl hE h1 (fun i k hi=>h1 _ _ (hsub _ _ hi)) h2 h3 ha
 rw [b3,Nat.zero_add] at this;exact this
theorem mS:∀ {l:List Oper},iO l=true→∃o,l.getLast? =some o∧o.guard=none
 | [o],h=>⟨o,rfl,by simp_all [iO,Bool.and_eq_true]⟩
 |_::b::r,h=>by
  obtain ⟨o,h1,h2⟩:=mS (l:=b::r) h
  grind
theorem WP.BQ (hU:∀t,ax P U t) (hm:P.follows .mixedOrders=true) {id} {ops} {ρ} {h hl} {K} {l} (hdst:∀o∈ops.toList,bS n o.dst=true) (hsub:Sub hl h)
  (hz:s4 .any ops l.len=true) (hg:(ops.toList.getLast?.map fun o=>o.guard.isNone)=some true) (hB:dJ .any ops (some l.len) l (Array.replicate ops.size false)=true) (hlen:l.len+1=ops.size)
  (hk:fY P U n ops.toList hl l ρ h (fun ρ h=>mR P U ops.toList h (K .normal) ρ)):WP P n (.region id ops true) ρ h K:=
 WP.any hm fun c0 c a hE h1 h2 h3=>by
 obtain ⟨oz,hoz,hgz⟩:=Option.map_eq_some_iff.1 hg;have hzz:ops[l.len]? =some oz:=by
  grind
 have hd:=dQ (md:= .any) (all:=ops.toList) (z:=some l.len) hU (mG fun k e=>by cases e; exact hz) l (Array.replicate ops.size false) ρ h (.none _ _ _) hB hk
 have:=gr (m:=1) hdst (fun listed c F h a k1 k2 k3 k4 he hq=>qf hU hoz (by simpa using hgz) hzz hdst k1 k2 k3 k4 he hq) _ _ c _ h a hE h1 (fun i k hi=>h1 _ _ (hsub _ _ hi)) h2 h3 hd
 rw [Nat.add_comm,hlen] at this;exact this
theorem WP.BP (hU:∀t,ax P U t) (hm:P.follows .mixedOrders=true) {id} {ops} {ρ} {h} {K} (hdst:∀o∈ops.toList,bS n o.dst=true) (hl:iO ops.toList=true) (hB:xL ops=true)
  (hk:fu P U n ops.toList ops.toList.dropLast ρ h (mR P U ops.toList h (K .normal))):WP P n (.region id ops true) ρ h K:=
 WP.any hm fun c0 c a hE h1 h2 h3=>by
 obtain ⟨oz,hoz,hgz⟩:=mS hl;unfold xL at hB;rw [Bool.and_eq_true] at hB;have hpos:0<ops.size:=by
  grind
 have hz:ops[ops.size - 1]? =some oz:=by
  grind
 have hlen:ops.toList.dropLast.length=ops.size - 1:=by simp
 have hd:=mC (md:= .any) (ops:=ops) (z:=some (ops.size - 1)) (fun k e=>by cases e; exact hB.1) ops.toList.dropLast 0 (Array.replicate ops.size false) (lk ρ) h (.none _ _ _) (by grind) (by grind) (by simpa using gC hU ops.toList.dropLast ρ hk)
 have:=mD (m:=1) hdst (fun listed c F g a k1 k2 k3 k4 he hq=>qf hU hoz hgz hz hdst k1 k2 k3 k4 he hq) _ _ c _ h a hE h1 h2 h3 hd
 rw [hlen,Nat.add_comm,Nat.sub_add_cancel hpos] at this;exact this
theorem bJ (hU:∀t,ax P U t) (hm:P.follows .mixedOrders=true):∀(c:Code) (ρ:Env) (h:Heap) (K:Exit→Env→Heap→Prop),aJ P U n c ρ h K→WP P n c ρ h K
 | .skip,ρ,h,K,hk=>fun cx a h1 h2 h3=>wp_skip ⟨cx,ρ,h,rfl,h2, .refl _,h3,h1,hk⟩
 | .region id ops draw,ρ,h,K,hk=>by
  simp only [aJ] at hk;cases draw with
  |true=>
   simp only [if_true] at hk;split at hk
   ·rename_i hl
    obtain ⟨hb,hk⟩:=hk;rw [Bool.and_eq_true,List.all_eq_true] at hb;rw [Bool.and_eq_true] at hl;exact WP.BP hU hm hb.2 hl.1 hb.1 hk
   ·split at hk
    ·obtain ⟨hb,hk⟩:=hk
     rw [List.all_eq_true] at hb;rcases hk with ⟨h1,hk⟩|⟨hm',t,Post,h1,h2,h3,hk,hp⟩|⟨hm',l1,l2,h1,h2,hk⟩|⟨hm',l,h1,h2,h4,h5,h6,hk⟩|⟨hm',l1,l2,h1,h2,hk⟩
     ·exact WP.draw hU hm hb h1 hk
     ·exact WP.BM hU hm hb h1 h2 h3 hk hp
     ·exact WP.BO hU hm hb h1 h2 hk
     ·exact WP.BQ hU hm hb h1 h2 h4 h5 h6 hk
     ·exact WP.BN hU hm hb h1 h2 hk
    ·obtain ⟨hb,hk⟩:=hk
     rw [Bool.and_eq_true,List.all_eq_true] at hb;exact WP.draw hU hm hb.2 hb.1 hk
  |false=>exact WP.ops hU (by grind)
 | .seq a b,ρ,h,K,hk=>by
  simp only [aJ] at hk;refine WP.seq ((bJ hU hm a ρ h _ hk).weaken fun e ρ' h' hh=> ?_)
  cases e with
  |normal=>exact bJ hU hm b ρ' h' K hh
  |_=>exact hh
 | .cond c a b,ρ,h,K,hk=>by
  simp only [aJ] at hk;obtain ⟨y,hy,hk⟩:=an hk;split at hk
  ·rename_i t
   intro cx ac h1 h2 h3;have hv:=(ak h3 hy).aK;exact wp_cond_split hv (fun e=>bJ hU hm a ρ h K (hk.1 e) cx ac h1 h2 h3) (fun e=>bJ hU hm b ρ h K (hk.2 e) cx ac h1 h2 h3)
  ·exact hk.elim
 | .block id c,ρ,h,K,hk=>WP.block (bJ hU hm c ρ h _ (by grind [aJ]))
 | .loop c,ρ,h,K,hk=>by
  simp only [aJ] at hk;intro cx a h1 h2 h3;obtain ⟨I,m,h0,hr⟩:=hk h3.wf;exact WP.loop I m h0 (fun m ρ h hI=>bJ hU hm c ρ h _ (hr m ρ h hI)) cx a h1 h2 h3
 | .exit id,ρ,h,K,hk=>fun cx a h1 h2 h3=>wp_exit ⟨cx,ρ,h,rfl,h2, .refl _,h3,h1,by simpa only [aJ] using hk⟩
 | .ret,ρ,h,K,hk=>fun cx a h1 h2 h3=>wp_ret ⟨cx,ρ,h,rfl,h2, .refl _,h3,h1,by simpa only [aJ] using hk⟩
 | .label l,ρ,h,K,hk=>fun cx a h1 h2 h3=>wp_label ⟨cx,ρ,h,rfl,h2, .refl _,h3,h1,by simpa only [aJ] using hk⟩
 | .goto l,ρ,h,K,hk=>fun cx a h1 h2 h3=>wp_goto ⟨cx,ρ,h,rfl,h2, .refl _,h3,h1,by simpa only [aJ] using hk⟩
 | .rangeFunc ..,_,_,_,hk=>by simp [aJ] at hk
 | .scope c,ρ,h,K,hk=>by
  simp only [aJ] at hk;obtain ⟨l,rest,J,hf,h1,h2⟩:=hk;exact WP.scope l J hf (bJ hU hm c ρ h _ h1) h2
 | .refuse _,_,_,_,hk=>by simp [aJ] at hk
def jP (ρ:Env) (h:Heap) (U:TypeId→TI):List ResultVar→(List AV→Prop)→Prop
 | [],k=>k []
 | .tmp t::r,k=>match lk ρ t with
  |some x=>jP ρ h U r fun xs=>k (x::xs)
  |none=>False
 | .cell t ty::r,k=>match lk ρ t with
  |some (.ptr id off)=>match h id with
   |some (.obj cs _)=>(U ty).sz≠0∧(U ty).k≠ .other∧eF cs off (U ty) fun x=>jP ρ h U r fun xs=>k (x::xs)
   |_=>False
  |_=>False
def au (xs:List AV):AV:=match xs with
 | [x]=>x
 |xs=> .tup xs
inductive Weak:AV→AV→Prop where
 |refl (x:AV):Weak x x
 |sl (xs:List AV) (p:Perm):Weak (.sl xs p) (.sl xs .no)
 |agg (xs ys:List AV) (hl:xs.length=ys.length) (h:∀i (h1:i<xs.length) (h2:i<ys.length),Weak xs[i] ys[i]):Weak (.agg xs) (.agg ys)
 |tup (xs ys:List AV) (hl:xs.length=ys.length) (h:∀i (h1:i<xs.length) (h2:i<ys.length),Weak xs[i] ys[i]):Weak (.tup xs) (.tup ys)
 |deep (xs ys:List AV) (p:Perm) (hl:xs.length=ys.length) (hc:∀i (h1:i<xs.length) (h2:i<ys.length),xs[i].cells.length=ys[i].cells.length)
   (h:∀i (h1:i<xs.length) (h2:i<ys.length) j (h3:j<xs[i].cells.length) (h4:j<ys[i].cells.length),Weak xs[i].cells[j] ys[i].cells[j]):Weak (.sl xs p) (.sl ys .no)
theorem Rep.weak {c} {x y} (hw:Weak x y):∀ {u:Value},Rep c x u→Rep c y u:=by
 induction hw with
 |refl x=>simp
 |sl xs p=>
  intro u h;obtain ⟨a,cap,sz,val,rfl,hs⟩:=h.dc;exact .sl xs .no a cap sz val hs.hc hs.hm hs.h0 hs.hs hs.hz hs.hf hs.hr hs.ho trivial
 |agg xs ys hl h ih=>
  intro u hu;obtain ⟨vs,rfl,h1,h2,h3⟩:=hu.gh;exact .agg ys vs (by omega) (by grind) (by grind)
 |tup xs ys hl h ih=>
  intro u hu;obtain ⟨vs,rfl,h1,h2⟩:=hu.pN;exact .tup ys vs (by omega) (by grind)
 |deep xs ys p hl hc h ih=>
  intro u hu;obtain ⟨a,cap,sz,val,rfl,hs⟩:=hu.dc;rw [hl];exact .sl ys .no a cap sz val (by rw [←hl]; exact hs.hc) hs.hm hs.h0 hs.hs (fun i hi=>by rw [←hc i (by omega) hi]; exact hs.hz i (by omega)) (fun q hq i j hi hj=>hs.hf q hq i j (by omega) hj)
   (fun i hi j hj=>ih i (by omega) hi j (by grind) hj (hs.hr i (by omega) j (by grind))) (fun i j hi hj=>hs.ho i j (by omega) hj) trivial
theorem aj.weak {f} {args args'} {h} {Q} (hf:aj P f args' h Q) (hl:args.length=args'.length) (hw:∀i (h1:i<args.length) (h2:i<args'.length),Weak args[i] args'[i]):aj P f args h Q:=
 fun c vs h1 h2 h3 h4=>hf c vs h1 h2 (by omega) fun i hi=>(h4 i (by omega)).weak (by grind)
theorem jj (hU:∀t,ax P U t) {c} {ρ} {h} {a} (hs:Sub h c.h) (g:Good c) (he:aP c n ρ a):∀(rs:List ResultVar) (k:List AV→Prop),jP ρ h U rs k→
  ∃(xs:List AV) (vs:List Value),k xs∧vs.length=xs.length∧(∀i (h1:i<xs.length) (h2:i<vs.length),Rep c xs[i] vs[i])∧
   (rs.mapM fun (r:ResultVar)=>match r with| .tmp t=>(pure (a.tmps.getD t undef):Sem Value)| .cell q t=>do loadVar t (←asAddr (a.tmps.getD q undef))).run P c.w= .ok vs c.w
 | [],k,hk=>⟨[],[],hk,rfl,fun i h=>(by cases h),by simp⟩
 | .tmp t::r,k,hk=>by
  simp only [jP] at hk;split at hk
  ·rename_i x hx
   obtain ⟨xs,vs,h1,h2,h3,h4⟩:=jj hU hs g he r _ hk;refine ⟨x::xs,a.tmps.getD t undef::vs,h1,by grind,fun i hi1 hi2=> ?_, ?_⟩
   ·cases i with
    |zero=>exact he.rep _ _ hx
    |succ i=>exact h3 i (by grind) (by grind)
   simp_all
  grind
 | .cell t ty::r,k,hk=>by
  simp only [jP] at hk;split at hk
  ·rename_i id off hx
   split at hk
   ·rename_i cs t' hid
    obtain ⟨hz,ht,hk⟩:=hk;obtain ⟨x,hk,hX⟩:=jh (P:=P) hU hz ht hk;obtain ⟨xs,vs,h1,h2,h3,h4⟩:=jj hU hs g he r _ hk;obtain ⟨hu,_⟩:=(he.rep _ _ hx).dX;obtain ⟨us,u1,u2,u3⟩:=g.obj id cs t' (hs _ _ hid);obtain ⟨v,v1,v2⟩:=hX c (c.φ id).block 0 (fun j=>us.getD j undef) (fun j hj=>by
     simp_all [World.cell?]) (fun j hj=>(u3 j hj).1) (fun j hj=>(u3 j hj).2)
    rw [Nat.zero_add] at v1;refine ⟨x::xs,v::vs,h1,by grind,fun i hi1 hi2=> ?_, ?_⟩
    ·cases i with
     |zero=>exact v2
     |succ i=>exact h3 i (by grind) (by grind)
    simp_all [asAddr,undef,none]
   grind
  grind
def mH (args:List AV):Env:=args.zipIdx.map fun p=>(p.2,p.1)
theorem mV:∀(args:List AV) (k t:Nat),lk ((args.zipIdx k).map fun p=>(p.2,p.1)) t=if k≤t then args[t - k]? else none
 | [],k,t=>by simp [lk]
 |x::r,k,t=>by
  have ih:=mV r (k+1) t;simp only [List.zipIdx_cons,List.map_cons,lk,ih]
  by_cases e:k=t
  ·subst e; simp
  ·rw [if_neg e]
   by_cases h:k≤t
   ·rw [if_pos (by omega),if_pos h]
    rw [show t - k=(t - (k+1))+1 by omega]
    rfl
   ·rw [if_neg (by omega),if_neg h]
def og (U:TypeId→TI) (rs:List ResultVar) (Q:AV→Heap→Prop) (e:Exit) (ρ:Env) (h:Heap):Prop:=
 (match e with| .ret| .normal=>True|_=>False)∧jP ρ h U rs fun xs=>∃y h',Weak (au xs) y∧Sub h' h∧Q y h'
theorem aj.vZ (hU:∀t,ax P U t) {f} {fn} {c} {args} {h} {Q} (hf:P.funcs[f]? =some fn) (hb:fn.body=some c)
  (hn : (fn.name == "runtime.NumGoroutine") = false) (hl : args.length ≤ fn.ntmps)
  (hk:(∀x∈args,wfA x)→WP P fn.ntmps c (mH args) h (og U fn.results.toList Q)):aj P f args h Q:=by
 intro cx vs hs g hv hr;refine .inl ⟨⟨fn,hf,hn,by grind⟩,calls_of_wp hf hb ?_⟩
 have hwf:∀x∈args,wfA x:=fun x hx=>by
  obtain ⟨i,hi,rfl⟩:=List.mem_iff_getElem.1 hx;exact (hr i hi).wf
 have hw:=hk hwf;have he:aP cx fn.ntmps (mH args) {tmps:=vs++Array.replicate (fn.ntmps - vs.size) undef,defers:= []}:=by
  refine ⟨by grind,rfl,fun t x hx=> ?_⟩
  have:=mV args 0 t;simp only [Nat.zero_le,if_true,Nat.sub_zero] at this;have e:lk (mH args) t=args[t]? :=this;rw [e] at hx;obtain ⟨hi,rfl⟩:=List.getElem?_eq_some_iff.1 hx;have h1:=hr t hi;have h2:t<vs.size:=by omega
  have e2:(vs++Array.replicate (fn.ntmps - vs.size) undef).getD t undef=vs.getD t undef:=by
   rw [Array.getD,dif_pos (by grind),Array.getD,dif_pos h2]
   simp_all
  simp only [e2];exact h1
 refine wp_mono (hw cx _ hs g he) fun e a w hq=> ?_
 obtain ⟨c',ρ',h',rfl,g',hE,he',hs',hk1,hk2⟩:=hq;obtain ⟨xs,us,⟨y,h'',hwk,hsub,hQ⟩,hl',hr',hrun⟩:=jj hU hs' g' he' _ _ hk2;have hres:∃u,(results fn a.tmps).run P c'.w= .ok u c'.w∧Rep c' (au xs) u:=by
  have hrun' :(fn.results.mapM fun (r:ResultVar)=>match r with| .tmp t=>(pure (a.tmps.getD t undef):Sem Value)| .cell q t=>do loadVar t (←asAddr (a.tmps.getD q undef))).run P c'.w= .ok us.toArray c'.w:=by
   simp_all [Array.mapM_eq_mapM_toList,Sem.run_map]
  have hres0:(results fn a.tmps).run P c'.w= .ok (if h:us.toArray.size=1 then us.toArray[0] else .tuple us.toArray) c'.w:=by
   have e0:results fn a.tmps=(fn.results.mapM fun (r:ResultVar)=>match r with| .tmp t=>(pure (a.tmps.getD t undef):Sem Value)| .cell q t=>do loadVar t (←asAddr (a.tmps.getD q undef)))>>=fun vs=>pure (if h:vs.size=1 then vs[0] else .tuple vs):=rfl
   rw [e0,Sem.run_bind,hrun'];rfl
  by_cases h1:us.length=1
  ·obtain ⟨u,rfl⟩:=List.length_eq_one_iff.1 h1
   obtain ⟨x,rfl⟩:=List.length_eq_one_iff.1 (hl'.symm.trans h1);refine ⟨u, ?_,hr' 0 (by simp) (by simp)⟩
   grind
  ·refine ⟨.tuple us.toArray, ?_, ?_⟩
   ·grind
   ·have:au xs= .tup xs:=by
     cases xs with
     |nil=>rfl
     |cons x r=>cases r with
      |nil=>grind
      |cons y q=>rfl
    rw [this];refine .tup xs _ (by omega) fun i hi=> ?_
    have:=hr' i hi (by omega)
    simpa [show i<us.length by omega] using this
 obtain ⟨u,hu1,hu2⟩:=hres;have fin:a.defers= []∧∃v,(results fn a.tmps).run P c'.w= .ok v c'.w∧∃u,Ending.returned v= .returned u∧bV cx Q u c'.w:=
  ⟨he'.defers,u,hu1,u,rfl,c',y,h'',rfl,g',hE,hu2.weak hwk,fun id k hk=>hs' _ _ (hsub _ _ hk),hQ⟩
 cases e with
 |normal=>exact fin
 |ret=>exact fin
 |_=>exact hk1.elim
theorem aj.Cj (hU:∀t,ax P U t) (hm:P.follows .mixedOrders=true) {f} {fn} {c} {args} {h} {Q} (hf:P.funcs[f]? =some fn) (hb:fn.body=some c)
  (hn : (fn.name == "runtime.NumGoroutine") = false) (hl : args.length ≤ fn.ntmps)
  (hk:(∀x∈args,wfA x)→aJ P U fn.ntmps c (mH args) h (og U fn.results.toList Q)):aj P f args h Q:=
 aj.vZ hU hf hb hn hl fun hw=>bJ hU hm c _ h _ (hk hw)
end
def nG:AV→Value→Bool
 | .v (.int k n), .int k' m=>decide (k=k') && decide (n=m)
 | .v (.bool a), .bool b=>a==b
 | .s [], .string b=>b.data.toList.isEmpty
 | .sl [] .full, .slice none 0 0=>true
 | .v (.pointer none), .pointer none=>true
 | .v .nilIface, .nilIface=>true
 | .v .nilFunc, .nilFunc=>true
 | .v (.map none), .map none=>true
 | .v (.complex k a b), .complex k' a' b' =>decide (k=k') && a==a' && b==b'
 |_,_=>false
theorem jq {x} {v} (h:nG x v=true) (c):Rep c x v∧v.oneCell' =true:=by
 unfold nG at h;split at h
 ·simp at h; obtain ⟨rfl,rfl⟩:=h; exact ⟨.v _,rfl⟩
 ·simp at h; subst h; exact ⟨.v _,rfl⟩
 ·rename_i b
  have e:b=⟨([]:List UInt8).toArray⟩:=by
   apply ByteArray.ext
   grind
  subst e;exact ⟨.s [] (by decide),rfl⟩
 ·exact ⟨nj c (.slice none 0 0),rfl⟩
 ·exact ⟨.v _,rfl⟩
 ·exact ⟨.v _,rfl⟩
 ·exact ⟨.v _,rfl⟩
 ·exact ⟨.v _,rfl⟩
 ·simp at h; obtain ⟨⟨rfl,rfl⟩,rfl⟩:=h; exact ⟨.v _,rfl⟩
 grind
def kS:List AV→List Value→Bool
 | [],[]=>true
 |x::xs,v::vs=>nG x v && kS xs vs
 |_,_=>false
theorem lM:∀ {xs:List AV} {vs:List Value},kS xs vs=true→xs.length=vs.length∧∀i (h1:i<xs.length) (h2:i<vs.length),nG xs[i] vs[i]=true
 | [],[],_=>by simp
 |x::xs,v::vs,h=>by
  simp only [kS,Bool.and_eq_true] at h;obtain ⟨h1,h2⟩:=lM h.2
  grind
 | [],_::_,h=>by grind [kS]
 |_::_,[],h=>by grind [kS]
def wW:AV→Value→Bool
 | .agg xs, .agg vs=>kS xs vs.toList
 |x,v=>nG x v
theorem uT {x} {v} (h:wW x v=true) (c):Rep c x v:=by
 unfold wW at h;split at h
 ·rename_i xs vs
  obtain ⟨h1,h2⟩:=lM h;have hl:vs.size=xs.length:=by grind
  refine .agg xs vs hl (fun i hi=> ?_) (fun i hi=> ?_)
  ·have:=(jq (h2 i hi (by omega)) c).1
   simpa [show i<vs.size by omega] using this
  ·have:=(jq (h2 i hi (by omega)) c).2
   simpa [show i<vs.size by omega] using this
 ·exact (jq h c).1
def vv (P:Program) (U:TypeId→TI) (t:TypeId):Bool:=
 match (U t).k,P.underlying t with
 | .int k,some (.int k')=>decide (k' =k)
 | .bool,some .bool=>true
 | .str,some .string=>true
 | .slice e,some (.slice e')=>decide (e' =e)
 | .strct fs,some (.struct fields)=>decide (fields.toList.map (fun f=>(f.offset,f.type))=fs) && fs.all fun p=>(U p.2).sz !=0
 | .ptr e,some (.pointer e')=>decide (e' =e)
 | .arr n e,some (.array n' e')=>decide (n' =n) && decide (e' =e)
 | .iface,some (.interface _)=>true
 | .cplx k,some (.complex k')=>decide (k' =k)
 | .map k e,some (.map k' e')=>decide (k' =k) && decide (e' =e)
 | .other,_=>true
 |_,_=>false
def vM (P:Program) (U:TypeId→TI) (t:TypeId):Bool:=
 (U t).sz==0||match P.info? t with
  |some i=>i.size==(U t).sz && i.bytes==(U t).bytes && match i.zero with
   |some z=>z.cells.size==(U t).sz && wW (U t).zero z
   |none=>false
  |none=>false
def wN (P:Program) (U:TypeId→TI) (t:TypeId):Bool:=match (U t).k with
 | .strct []=>match P.info? t with
  |some i=>match i.zero with
   |some (.agg vs)=>vs.isEmpty && i.size==0
   |_=>false
  |none=>false
 |_=>true
def Al:TK→TK→Bool
 | .int a, .int b=>decide (a=b)
 | .bool, .bool=>true
 | .str, .str=>true
 | .cplx a, .cplx b=>decide (a=b)
 |_,_=>false
theorem xX {a b} (h:Al a b=true):a=b:=by
 unfold Al at h
 grind
def jS:List TK→List TK→Bool
 | [],[]=>true
 |x::xs,y::ys=>Al x y && jS xs ys
 |_,_=>false
theorem jT:∀ {a b:List TK},jS a b=true→a=b
 | [],[],_=>rfl
 | [],_::_,h=>by cases h
 |_::_,[],h=>by cases h
 |x::xs,y::ys,h=>by
  simp only [jS,Bool.and_eq_true] at h;rw [xX h.1,jT h.2]
def nE (U:TypeId→TI) (r:Nat):List (Nat×TypeId)→Nat→List TK→Bool
 | [],_,l=>l.isEmpty
 |f::fs,o,l=>match (U f.2).eq with
  |some (r',l')=>f.1==o && decide (r' <r) && jS (l.take l'.length) l' && nE U r fs (o+l'.length) (l.drop l'.length)
  |none=>false
theorem lJ {U} {r}:∀ {fs:List (Nat×TypeId)} {o:Nat} {l:List TK},nE U r fs o l=true→rK U r fs o l
 | [],o,l,h=>by grind [nE,rK]
 |f::fs,o,l,h=>by
  unfold nE at h;split at h
  ·rename_i r' l' he
   simp only [Bool.and_eq_true,beq_iff_eq,decide_eq_true_eq] at h;obtain ⟨⟨⟨h1,h2⟩,h3⟩,h4⟩:=h;exact ⟨h1,r',l',he,h2,jT h3,lJ h4⟩
  grind
def eqB (P:Program) (U:TypeId→TI) (t:TypeId):Bool:=match (U t).eq with
 |none=>true
 |some (r,l)=>l.length==(U t).sz && !l.isEmpty && decide (r<100) && match (U t).k with
  | .int k=>jS l [.int k]
  | .bool=>jS l [.bool]
  | .str=>jS l [.str]
  | .cplx k=>jS l [.cplx k]
  | .strct fs => !P.stoodInHeld t && !P.eqGuardType P.depth t && (P.fieldsOf t).toList.all (fun f => f.name != "_") && nE U r fs 0 l
  | .arr n e=> !P.eqGuardType P.depth t && match (U e).eq with
   |some (r',l')=>decide (r' <r) && jS l (List.replicate n l').flatten
   |none=>false
  |_=>false
theorem vC {P} {U} {t} (h:eqB P U t=true):∀r l,(U t).eq=some (r,l)→w6 P U t r l:=by
 intro r l he;unfold eqB at h;rw [he] at h;simp only [Bool.and_eq_true,beq_iff_eq,decide_eq_true_eq,Bool.not_eq_true'] at h;obtain ⟨⟨⟨h1,h2⟩,h3⟩,h4⟩:=h;refine ⟨h1,(by intro e; rw [e] at h2; cases h2),h3, ?_⟩
 cases hk:(U t).k<;>rw [hk] at h4<;>simp only at h4⊢<;>first|exact jT h4|(cases h4)|skip
 ·simp only [Bool.and_eq_true,Bool.not_eq_true',List.all_eq_true] at h4
  obtain ⟨⟨⟨g1,g2⟩,g3⟩,g4⟩:=h4;exact ⟨g1,g2,fun f hf=>by simpa using g3 f (by simpa using hf),lJ g4⟩
 ·simp only [Bool.and_eq_true,Bool.not_eq_true'] at h4
  obtain ⟨g1,g2⟩:=h4;split at g2
  ·rename_i r' l' he'
   simp only [Bool.and_eq_true,decide_eq_true_eq] at g2;exact ⟨g1,r',l',he',g2.1,jT g2.2⟩
  ·cases g2
theorem vf {P} {U} {t} (h1:vv P U t=true) (h2:vM P U t=true) (h3:wN P U t=true) (h4:eqB P U t=true):ax P U t:=by
 refine ⟨?_,fun hz=> ?_,fun hz=> ?_,vC h4⟩
 ·unfold vv at h1
  grind
 ·unfold vM at h2
  simp only [Bool.or_eq_true,beq_iff_eq,hz,false_or] at h2;split at h2
  ·rename_i i hi
   simp only [Bool.and_eq_true,beq_iff_eq] at h2;obtain ⟨⟨h3,h4⟩,h5⟩:=h2;split at h5
   ·simp_all [Bool.and_eq_true,beq_iff_eq,uT]
   grind
  grind
 ·unfold wN at h3
  grind
theorem tU {P} {U} (N) (h:(List.range N).all (fun t=>vv P U t && vM P U t && wN P U t && eqB P U t)=true) (h' :∀t,N≤t→U t=⟨.other,0,0,default,none⟩):∀t,ax P U t:=by
 intro t
 by_cases ht:t<N
 ·simp_all [List.all_eq_true,Bool.and_eq_true,vf]
 ·have:=h' t (by grind)
  exact ⟨by grind,fun hz=>by grind,fun hz=>(by grind),fun r l he=>by grind⟩
section
variable {P : Program} {U : TypeId → TI} {n : Nat} {ρ : Env} {h : Heap}
def aq {α:Type} (o:Option α) (k:α→Prop):Prop:=match o with
 |some y=>k y
 |none=>False
@[congr] theorem yg {α:Type} {o o' :Option α} {k:α→Prop} (e:o=o'):aq o k=aq o' k:=by rw [e]
@[go_sem] theorem dL {α:Type} (y:α) (k:α→Prop):aq (some y) k=k y:=rfl
def Br (t:Bool) (A B:Prop):Prop:=(t=true→A)∧(t=false→B)
@[congr] theorem Bp {t t'} {A B:Prop} (e:t=t'):Br t A B=Br t' A B:=by rw [e]
@[go_sem] theorem Cw (A B:Prop):Br true A B=A:=by simp [Br]
@[go_sem] theorem Bq (A B:Prop):Br false A B=B:=by simp [Br]
def atH (Q:AV→Heap→Prop) (h:Heap) (r:AV):Prop:=Q r h
@[go_sem↓] theorem Dx (Q) (h) (r):atH Q h r=Q r h:=rfl
def atK (t:TK) (k:TK→Prop):Prop:=k t
@[congr] theorem AI {t t'} {k} (e:t=t'):atK t k=atK t' k:=by rw [e]
@[go_sem] theorem CG (k):atK .str k=k .str:=rfl
@[go_sem] theorem AJ (x) (k):atK (.slice x) k=k (.slice x):=rfl
@[go_sem] theorem AK (x) (k):atK (.strct x) k=k (.strct x):=rfl
def uX (xs:List AV) (m:Int) (sz:Nat) (k:AV→Prop):Prop:=Idx xs m fun b=>b.cells.length=sz∧k (.pe b 0)
theorem uX.at {xs} {sz:Nat} {k:AV→Prop} (j:Nat) (hj:j<xs.length) (hz:xs[j].cells.length=sz) (hk:k (.pe xs[j] 0)):uX xs (j:Int) sz k:=⟨by omega,xs[j],by simp,hz,hk⟩
def w8 (l:List UInt8) (m:Int) (k:AV→Prop):Prop:=Idx l m fun b=>k (bX b)
theorem w8.at {l} {k:AV→Prop} (j:Nat) (hj:j<l.length) (hk:k (bX l[j])):w8 l (j:Int) k:=⟨by omega,l[j],by simp,hk⟩
@[congr] theorem yX {f f'} {a a'} {h h'} {Q} (h0:f=f') (h1:a=a') (h2:h=h'):aj P f a h Q=aj P f' a' h' Q:=by grind
@[go_sem↓] theorem Da (k) (x) (r) (t):lk ((k,x)::r) t=if k=t then some x else lk r t:=rfl
@[go_sem↓] theorem yx (d) (x) (r) (t):lk (put r (some d) x) t=if d=t then some x else lk r t:=rfl
@[go_sem↓] theorem yw (x) (r) (t):lk (put r none x) t=lk r t:=rfl
@[go_sem↓] theorem DU (args) (t):lk (mH args) t=args[t]? :=by
 have:=mV args 0 t;exact this
@[go_sem] theorem B2 {α:Type} (x:α) (r:List α):(x::r)[0]? =some x:=rfl
@[go_sem] theorem B1 {α:Type} (x:α) (r:List α) (i):(x::r)[i+1]? =r[i]? :=by simp
@[go_sem↓] theorem DM (t):ev ρ (.tmp t)=lk ρ t:=rfl
@[go_sem↓] theorem DK (k) (m):ev ρ (.const (.int k m))=some (.v (.int k m)):=rfl
@[go_sem↓] theorem CR (b):ev ρ (.const (.bool b))=some (.v (.bool b)):=rfl
@[go_sem↓] theorem yq:ev ρ (.const (.slice none 0 0))=some (.sl [] .full):=rfl
theorem ud {l} (hl:l.length<4096):ev ρ (.const (.string ⟨l.toArray⟩))=some (.s l):=by
 grind [lim,ev,ofV,sD]
@[go_sem] theorem DL (l) (hl:decide (l.length<4096)=true):ev ρ (.const (.string ⟨l.toArray⟩))=some (.s l):=ud (Gs hl)
@[go_sem↓] theorem CT:ev ρ (.const (.string ⟨#[]⟩))=some (.s []):=by rfl
@[go_sem↓] theorem CU (a0):ev ρ (.const (.string ⟨#[a0]⟩))=some (.s [a0]):=by rfl
@[go_sem↓] theorem CV (a0 a1):ev ρ (.const (.string ⟨#[a0,a1]⟩))=some (.s [a0,a1]):=by rfl
@[go_sem↓] theorem CW (a0 a1 a2):ev ρ (.const (.string ⟨#[a0,a1,a2]⟩))=some (.s [a0,a1,a2]):=by rfl
@[go_sem↓] theorem CX (a0 a1 a2 a3):ev ρ (.const (.string ⟨#[a0,a1,a2,a3]⟩))=some (.s [a0,a1,a2,a3]):=by rfl
@[go_sem↓] theorem CY (a0 a1 a2 a3 a4):ev ρ (.const (.string ⟨#[a0,a1,a2,a3,a4]⟩))=some (.s [a0,a1,a2,a3,a4]):=by rfl
@[go_sem↓] theorem CZ (a0 a1 a2 a3 a4 a5):ev ρ (.const (.string ⟨#[a0,a1,a2,a3,a4,a5]⟩))=some (.s [a0,a1,a2,a3,a4,a5]):=by rfl
@[go_sem↓] theorem C0 (a0 a1 a2 a3 a4 a5 a6):ev ρ (.const (.string ⟨#[a0,a1,a2,a3,a4,a5,a6]⟩))=some (.s [a0,a1,a2,a3,a4,a5,a6]):=by rfl
@[go_sem↓] theorem C1 (a0 a1 a2 a3 a4 a5 a6 a7):ev ρ (.const (.string ⟨#[a0,a1,a2,a3,a4,a5,a6,a7]⟩))=some (.s [a0,a1,a2,a3,a4,a5,a6,a7]):=by rfl
@[go_sem↓] theorem C2 (a0 a1 a2 a3 a4 a5 a6 a7 a8):ev ρ (.const (.string ⟨#[a0,a1,a2,a3,a4,a5,a6,a7,a8]⟩))=some (.s [a0,a1,a2,a3,a4,a5,a6,a7,a8]):=by rfl
@[go_sem↓] theorem BU (a0 a1 a2 a3 a4 a5 a6 a7 a8 a9):ev ρ (.const (.string ⟨#[a0,a1,a2,a3,a4,a5,a6,a7,a8,a9]⟩))=some (.s [a0,a1,a2,a3,a4,a5,a6,a7,a8,a9]):=by rfl
@[go_sem↓] theorem BV (a0 a1 a2 a3 a4 a5 a6 a7 a8 a9 a10):ev ρ (.const (.string ⟨#[a0,a1,a2,a3,a4,a5,a6,a7,a8,a9,a10]⟩))=some (.s [a0,a1,a2,a3,a4,a5,a6,a7,a8,a9,a10]):=by rfl
@[go_sem↓] theorem BW (a0 a1 a2 a3 a4 a5 a6 a7 a8 a9 a10 a11):ev ρ (.const (.string ⟨#[a0,a1,a2,a3,a4,a5,a6,a7,a8,a9,a10,a11]⟩))=some (.s [a0,a1,a2,a3,a4,a5,a6,a7,a8,a9,a10,a11]):=by rfl
@[go_sem↓] theorem CS (f):ev ρ (.func f)=some (.fn f []):=rfl
def yj (x:Option AV) (r:Option (List AV)):Option (List AV):=match x,r with
 |some y,some ys=>some (y::ys)
 |_,_=>none
@[go_sem] theorem zv (y) (ys):yj (some y) (some ys)=some (y::ys):=rfl
@[go_sem↓] theorem C3:evs ρ []=some []:=rfl
@[go_sem↓] theorem BX (x) (r):evs ρ (x::r)=yj (ev ρ x) (evs ρ r):=rfl
@[go_sem↓] theorem aV (x) (k):withv ρ x k=aq (ev ρ x) k:=by grind [withv,aq,ev]
@[go_sem↓] theorem iD (xs) (k):withvs ρ xs k=aq (evs ρ xs) k:=by grind [withvs,aq,evs]
@[go_sem↓] theorem D8 (K):aJ P U n .skip ρ h K=K .normal ρ h:=rfl
@[go_sem↓] theorem Cm (id) (l) (K):aJ P U n (.region id l.toArray false) ρ h K=dK P U n l l ρ h (K .normal):=rfl
def s5 (P:Program) (U:TypeId→TI) (n:Nat) (b:Code) (K:Exit→Env→Heap→Prop):Exit→Env→Heap→Prop:=KSeq (fun ρ h=>aJ P U n b ρ h K) K
@[go_sem↓] theorem EM (a b) (K):aJ P U n (.seq a b) ρ h K=aJ P U n a ρ h (s5 P U n b K):=rfl
@[go_sem↓] theorem xb (b) (K):s5 P U n b K .normal ρ h=aJ P U n b ρ h K:=rfl
@[go_sem↓] theorem Ay (b) (K):s5 P U n b K .ret ρ h=K .ret ρ h:=rfl
@[go_sem↓] theorem za (b) (K) (i):s5 P U n b K (.exit i) ρ h=K (.exit i) ρ h:=rfl
def iM (P:Program) (U:TypeId→TI) (n:Nat) (a b:Code) (ρ:Env) (h:Heap) (K:Exit→Env→Heap→Prop) (y:AV):Prop:=match y with
 | .v (.bool t)=>(t=true→aJ P U n a ρ h K)∧(t=false→aJ P U n b ρ h K)
 |_=>False
@[go_sem↓] theorem yW (a b) (K):iM P U n a b ρ h K (.v (.bool true))=aJ P U n a ρ h K:=by simp [iM]
@[go_sem↓] theorem xZ (a b) (K):iM P U n a b ρ h K (.v (.bool false))=aJ P U n b ρ h K:=by simp [iM]
theorem iM.intro {a b} {K} {t} (h1:t=true→aJ P U n a ρ h K) (h2:t=false→aJ P U n b ρ h K):iM P U n a b ρ h K (.v (.bool t)):=⟨h1,h2⟩
@[go_sem↓] theorem D3 (c) (a b) (K):aJ P U n (.cond c a b) ρ h K=aq (ev ρ c) (iM P U n a b ρ h K):=by
 simp only [aJ,withv];cases ev ρ c with
 |none=>rfl
 |some y=>rfl
@[go_sem↓] theorem Dk (id) (c) (K):aJ P U n (.block id c) ρ h K=aJ P U n c ρ h (KBlock id K):=rfl
def gD (P:Program) (U:TypeId→TI) (n:Nat) (c:Code) (ρ:Env) (h:Heap) (K:Exit→Env→Heap→Prop):Prop:=uY (fun ρ h K=>aJ P U n c ρ h K) ρ h K
def KRound (I:Nat→Env→Heap→Prop) (m:Nat) (K:Exit→Env→Heap→Prop):Exit→Env→Heap→Prop:=KSeq (fun ρ' h' =>∃m',m' <m∧I m' ρ' h') K
@[go_sem↓] theorem y9 {I} {m} {K}:KRound I m K .ret ρ h=K .ret ρ h:=rfl
@[go_sem↓] theorem yc {I} {m} {K} (i):KRound I m K (.exit i) ρ h=K (.exit i) ρ h:=rfl
theorem gD.intro {c} {K} (I) (m) (h0:I m ρ h) (hr:∀m ρ h,I m ρ h→aJ P U n c ρ h (KRound I m K)):gD P U n c ρ h K:=fun _=>⟨I,m,h0,hr⟩
theorem gD.wf {c} {K} (hk:Wf ρ→gD P U n c ρ h K):gD P U n c ρ h K:=fun hw=>hk hw hw
@[go_sem↓] theorem D7 (c) (K):aJ P U n (.loop c) ρ h K=gD P U n c ρ h K:=rfl
@[go_sem↓] theorem D6 (id) (K):aJ P U n (.exit id) ρ h K=K (.exit id) ρ h:=rfl
@[go_sem↓] theorem EL (K):aJ P U n .ret ρ h K=K .ret ρ h:=rfl
@[go_sem↓] theorem wX (id) (K):KBlock id K .normal ρ h=K .normal ρ h:=rfl
@[go_sem↓] theorem yZ (id) (K):KBlock id K .ret ρ h=K .ret ρ h:=rfl
@[go_sem↓] theorem yb (id) (K) (j):KBlock id K (.exit j) ρ h=if j=id then K .normal ρ h else K (.exit j) ρ h:=rfl
@[go_sem↓] theorem EK (all) (K):dK P U n all [] ρ h K=K ρ h:=rfl
def KOps (P:Program) (U:TypeId→TI) (n:Nat) (all os:List Oper) (K:Env→Heap→Prop) (ρ:Env) (d:Option Tmp) (x:AV) (h:Heap):Prop:=dK P U n all os (put ρ d x) h K
@[go_sem↓] theorem CA (all os) (K) (d) (x):KOps P U n all os K ρ d x h=dK P U n all os (put ρ d x) h K:=rfl
@[go_sem↓] theorem D4 (all) (d) (op) (t) (p) (a) (os) (K):
  dK P U n all (⟨d,op,t,p,a,none⟩::os) ρ h K=(bS n d=true∧aF P U ρ h ⟨d,op,t,p,a,none⟩ (KOps P U n all os K ρ d)):=rfl
@[go_sem] theorem zG (d):(bS n (some d)=true)=(d<n):=by simp [bS]
@[go_sem] theorem zF:(bS n none=true)=True:=by simp [bS]
def gB (d:Nat) (w:Bool) (ρ:Env) (yes no:Env→Prop) (x:AV):Prop:=match x with
 | .v (.bool t)=>if w then Br t (yes ((d, .v (.bool true))::ρ)) (no ((d, .v (.bool false))::ρ)) else Br t (no ((d, .v (.bool true))::ρ)) (yes ((d, .v (.bool false))::ρ))
 | .v (.tuple _)=>no ρ
 |_=>False
@[go_sem↓] theorem zE (d) (op) (t) (p) (a) (g) (os):gQ (⟨d,op,t,p,a,g⟩::os) 0=d:=rfl
@[go_sem↓] theorem zD (o) (os) (i):gQ (o::os) (i+1)=gQ os i:=by rfl
theorem j9 (all) (g) (w) (yes no):fM all ρ (some (g,w)) yes no=aq (gQ all g) fun d=>aq (lk ρ d) fun x=>gB d w ρ yes no x:=by
 simp only [fM];cases gQ all g with
 |none=>rfl
 |some d=>
  simp only [dL];cases lk ρ d with
  |none=>rfl
  |some x=>cases x with
   |v u=>cases u<;>first|rfl|(rename_i t; cases w<;>cases t<;>simp [aq,gB,Br])
   |_=>rfl
def eY (P:Program) (U:TypeId→TI) (n:Nat) (all os:List Oper) (ρ:Env) (h:Heap) (K:Env→Heap→Prop) (w:Bool) (d:Option Tmp) (op:Op) (t:TypeId) (p:String) (a:Array Edge) (s:Nat) (x:AV):Prop:=
 gB s w ρ (fun ρ=>aF P U ρ h ⟨d,op,t,p,a,none⟩ (KOps P U n all os K ρ d)) (fun ρ=>dK P U n all os (put ρ d (.v undef)) h K) x
section
variable {all os : List Oper} {K : Env → Heap → Prop} {d : Option Tmp} {op : Op} {t : TypeId} {p : String} {a : Array Edge} {s : Nat}
@[go_sem↓] theorem Aw:eY P U n all os ρ h K true d op t p a s (.v (.bool true))=aF P U ((s, .v (.bool true))::ρ) h ⟨d,op,t,p,a,none⟩ (KOps P U n all os K ((s, .v (.bool true))::ρ) d):=by simp [eY,gB,Br]
@[go_sem↓] theorem Au:eY P U n all os ρ h K true d op t p a s (.v (.bool false))=dK P U n all os (put ((s, .v (.bool false))::ρ) d (.v undef)) h K:=by simp [eY,gB,Br]
@[go_sem↓] theorem At:eY P U n all os ρ h K false d op t p a s (.v (.bool true))=dK P U n all os (put ((s, .v (.bool true))::ρ) d (.v undef)) h K:=by simp [eY,gB,Br]
@[go_sem↓] theorem As:eY P U n all os ρ h K false d op t p a s (.v (.bool false))=aF P U ((s, .v (.bool false))::ρ) h ⟨d,op,t,p,a,none⟩ (KOps P U n all os K ((s, .v (.bool false))::ρ) d):=by simp [eY,gB,Br]
@[go_sem↓] theorem w7 (w):eY P U n all os ρ h K w d op t p a s (.v undef)=dK P U n all os (put ρ d (.v undef)) h K:=rfl
end
@[go_sem↓] theorem Dl (all) (d) (op) (t) (p) (a) (g) (w) (os) (K):
  dK P U n all (⟨d,op,t,p,a,some (g,w)⟩::os) ρ h K=(bS n d=true∧aq (gQ all g) fun s=>aq (lk ρ s) (eY P U n all os ρ h K w d op t p a s)):=by
 have:=j9 (ρ:=ρ) all g w (fun ρ=>aF P U ρ h ⟨d,op,t,p,a,none⟩ (KOps P U n all os K ρ d)) (fun ρ=>dK P U n all os (put ρ d (.v undef)) h K)
 rw [show (fun s=>aq (lk ρ s) (eY P U n all os ρ h K w d op t p a s))=fun d_1=>aq (lk ρ d_1) fun x=>gB d_1 w ρ (fun ρ=>aF P U ρ h ⟨d,op,t,p,a,none⟩ (KOps P U n all os K ρ d)) (fun ρ=>dK P U n all os (put ρ d (.v undef)) h K) x from rfl,←this]
 rfl
variable {d : Option Tmp} {t : TypeId} {p : String} {a : Array Edge} {g : Option (Nat × Bool)} {Q : AV → Heap → Prop}
@[go_sem↓] theorem DZ (x):aF P U ρ h ⟨d, .move x,t,p,a,g⟩ Q=aq (ev ρ x) (atH Q h):=(aV x _)
@[go_sem↓] theorem Ch (x):aF P U ρ h ⟨d, .assign x,t,p,a,g⟩ Q=aq (ev ρ x) (atH Q h):=(aV x _)
def wh (ρ:Env) (x z:Operand) (k:AV→Prop) (y:AV):Prop:=match y with
 | .v (.bool true)=>aq (ev ρ x) k
 | .v (.bool false)=>aq (ev ρ z) k
 |_=>False
@[go_sem↓] theorem Ac (x z) (k):wh ρ x z k (.v (.bool true))=aq (ev ρ x) k:=rfl
@[go_sem↓] theorem yG (x z) (k):wh ρ x z k (.v (.bool false))=aq (ev ρ z) k:=rfl
@[go_sem↓] theorem D0 (x y z):aF P U ρ h ⟨d, .pick x y z,t,p,a,g⟩ Q=aq (ev ρ x) (wh ρ y z (atH Q h)):=by
 simp only [aF,pv,aV]
 congr 1
def yB (k:AV→Prop) (y:AV):Prop:=match y with
 | .ptr .. | .pe .. | .fn .. =>k y
 |_=>False
@[go_sem↓] theorem A9 (i o) (k):yB k (.ptr i o)=k (.ptr i o):=rfl
@[go_sem↓] theorem z6 (x):aF P U ρ h ⟨d, .nilCheck x,t,p,a,g⟩ Q=aq (ev ρ x) (yB (atH Q h)):=by
 simp only [aF,pv,aV]
 congr 1
@[congr] theorem zn {op} {ty} {x x' y y'} {K} (e1:x=x') (e2:y=y'):cA U op ty x y K=cA U op ty x' y' K:=by grind
theorem sC (op) (ty ty') (x y) (hy:uy y=false):aF P U ρ h ⟨d, .binOp op ty x y ty',t,p,a,g⟩ Q=aq (ev ρ x) fun u=>aq (ev ρ y) fun v=>cA U op ty u v (atH Q h):=by
 simp only [aF,pv,aV,hy];rfl
@[go_sem↓] theorem Dd (op) (ty ty') (x) (y):aF P U ρ h ⟨d, .binOp op ty x (.tmp y) ty',t,p,a,g⟩ Q=aq (ev ρ x) fun u=>aq (ev ρ (.tmp y)) fun v=>cA U op ty u v (atH Q h):=sC _ _ _ _ _ rfl
@[go_sem↓] theorem Ba (op) (ty ty') (x) (ik) (im):aF P U ρ h ⟨d, .binOp op ty x (.const (.int ik im)) ty',t,p,a,g⟩ Q=aq (ev ρ x) fun u=>cA U op ty u (.v (.int ik im)) (atH Q h):=sC _ _ _ _ _ rfl
@[go_sem↓] theorem Bb (op) (ty ty') (x) (b):aF P U ρ h ⟨d, .binOp op ty x (.const (.string b)) ty',t,p,a,g⟩ Q=aq (ev ρ x) fun u=>aq (ev ρ (.const (.string b))) fun v=>cA U op ty u v (atH Q h):=sC _ _ _ _ _ rfl
section
variable {ty : TypeId} {K : AV → Prop}
@[go_sem] theorem Eo (k) (x y):cA U .add ty (.v (.int k x)) (.v (.int k y)) K=K (.v (.int k (k.wrap (x+y)))):=by simp [cA,cU,jx]
@[go_sem] theorem Ey (k) (x y):cA U .sub ty (.v (.int k x)) (.v (.int k y)) K=K (.v (.int k (k.wrap (x - y)))):=by simp [cA,cU,jx]
@[go_sem] theorem Ew (k) (x y):cA U .quo ty (.v (.int k x)) (.v (.int k y)) K=(y≠0∧K (.v (.int k (k.wrap (x.tdiv y))))):=by simp [cA,cU,jx]
@[go_sem] theorem Ex (k) (x y):cA U .rem ty (.v (.int k x)) (.v (.int k y)) K=(y≠0∧K (.v (.int k (x.tmod y)))):=by simp [cA,cU,jx]
@[go_sem] theorem BA (k) (x y):cA U .and ty (.v (.int k x)) (.v (.int k y)) K=K (.v (.int k (k.wrap (BitVec.ofInt k.bits x &&& BitVec.ofInt k.bits y).toNat))):=by simp [cA,cU,jx]
@[go_sem] theorem Ep (k) (x y):cA U .eql ty (.v (.int k x)) (.v (.int k y)) K=K (.v (.bool (x==y))):=by simp [cA,cU,jx]
@[go_sem] theorem Ev (k) (x y):cA U .neq ty (.v (.int k x)) (.v (.int k y)) K=K (.v (.bool (x !=y))):=by simp [cA,cU,jx]
@[go_sem] theorem Eu (k) (x y):cA U .lss ty (.v (.int k x)) (.v (.int k y)) K=K (.v (.bool (decide (x<y)))):=by simp [cA,cU,jx]
@[go_sem] theorem Et (k) (x y):cA U .leq ty (.v (.int k x)) (.v (.int k y)) K=K (.v (.bool (decide (x≤y)))):=by simp [cA,cU,jx]
@[go_sem] theorem Es (k) (x y):cA U .gtr ty (.v (.int k x)) (.v (.int k y)) K=K (.v (.bool (decide (y<x)))):=by simp [cA,cU,jx]
@[go_sem] theorem Er (k) (x y):cA U .geq ty (.v (.int k x)) (.v (.int k y)) K=K (.v (.bool (decide (y≤x)))):=by simp [cA,cU,jx]
@[go_sem] theorem BB (k k') (x y):cA U .shr ty (.v (.int k x)) (.v (.int k' y)) K=(0≤y∧K (.v (.int k (x.fdiv (2 ^ (min y.toNat k.bits)))))):=by rfl
@[go_sem] theorem DC (x y):cA U .add ty (.s x) (.s y) K=(x.length+y.length<lim∧K (.s (x++y))):=rfl
@[go_sem] theorem DD (x y):cA U .eql ty (.s x) (.s y) K=K (.v (.bool (x==y))):=rfl
@[go_sem] theorem DE (x y):cA U .neq ty (.s x) (.s y) K=K (.v (.bool (!(x==y)))):=rfl
def eqK (tk:TK) (e:Option (Nat×List TK)) (xs ys:List AV) (k:Bool→Prop):Prop:=match e with
 |some (_,l)=>tk.agg=true∧aS l xs∧aS l ys∧k (eqL xs ys)
 |none=>False
@[congr] theorem AZ {tk tk'} {e e'} {xs ys} {k} (h1:tk=tk') (h2:e=e'):eqK tk e xs ys k=eqK tk' e' xs ys k:=by grind
@[go_sem] theorem ED (fs) (r) (l) (xs ys) (k):eqK (.strct fs) (some (r,l)) xs ys k=(aS l xs∧aS l ys∧k (eqL xs ys)):=by simp [eqK,TK.agg]
@[go_sem] theorem Dz (xs ys):cA U .eql ty (.agg xs) (.agg ys) K=eqK (U ty).k (U ty).eq xs ys fun b=>K (.v (.bool b)):=by
 simp only [cA,vm,eqK]; grind
@[go_sem] theorem DA (xs ys):cA U .neq ty (.agg xs) (.agg ys) K=eqK (U ty).k (U ty).eq xs ys fun b=>K (.v (.bool (!b))):=by
 simp only [cA,vm,eqK]; grind
@[go_sem] theorem An (xs):aS [] xs=(xs= []):=rfl
@[go_sem] theorem yQ (t) (ts) (x) (xs):aS (t::ts) (x::xs)=(iT t x∧aS ts xs):=rfl
@[go_sem] theorem BF (k k') (n):iT (.int k) (.v (.int k' n))=(k' =k):=rfl
@[go_sem] theorem BE (b):iT .bool (.v (.bool b))=True:=rfl
@[go_sem] theorem BG (l):iT .str (.s l)=True:=rfl
@[go_sem] theorem CQ:eqL [] []=true:=rfl
@[go_sem] theorem BT (x y) (xs ys):eqL (x::xs) (y::ys)=(eqC x y && eqL xs ys):=rfl
@[go_sem] theorem EB (k k') (n m):eqC (.v (.int k n)) (.v (.int k' m))=(n==m):=rfl
@[go_sem] theorem EA (b c):eqC (.v (.bool b)) (.v (.bool c))=(b==c):=rfl
@[go_sem] theorem EC (l m):eqC (.s l) (.s m)=(l==m):=rfl
def tkB (k:TK) (A:Prop):Prop:=k= .bool∧A
def tkP (k:TK) (A:Prop):Prop:=(∃e,k= .ptr e)∧A
@[congr] theorem Bk {k k'} {A:Prop} (e:k=k'):tkB k A=tkB k' A:=by rw [e]
@[congr] theorem Bl {k k'} {A:Prop} (e:k=k'):tkP k A=tkP k' A:=by rw [e]
@[go_sem] theorem Cr (A:Prop):tkB .bool A=A:=by simp [tkB]
@[go_sem] theorem DB (x y):cA U .neq ty (.v (.bool x)) (.v (.bool y)) K=tkB (U ty).k (K (.v (.bool (!(x==y))))):=by
 grind [cA,xm,tkB]
end
def unA (op:UnOp) (y:AV) (k:AV→Prop):Prop:=match op,y with
 | .not, .v (.bool b)=>k (.v (.bool (!b)))
 | .neg, .v (.int kk n)=>k (.v (.int kk (kk.wrap (0 - n))))
 | .xor, .v (.int kk n)=>k (.v (.int kk (kk.wrap (BitVec.ofInt kk.bits (if kk.signed then -1 else kk.max) ^^^ BitVec.ofInt kk.bits n).toNat)))
 |_,_=>False
@[congr] theorem Bm {op} {y y'} {k} (e:y=y'):unA op y k=unA op y' k:=by rw [e]
@[go_sem] theorem Ds (b) (k):unA .not (.v (.bool b)) k=k (.v (.bool (!b))):=rfl
@[go_sem] theorem Dr (kk) (m) (k):unA .neg (.v (.int kk m)) k=k (.v (.int kk (kk.wrap (0 - m)))):=rfl
@[go_sem↓] theorem D1 (op) (ty) (x):aF P U ρ h ⟨d, .unOp op ty x,t,p,a,g⟩ Q=aq (ev ρ x) fun y=>unA op y (atH Q h):=by
 simp only [aF,pv,aV]
 congr 1
def cvA (U:TypeId→TI) (s d:TK) (y:AV) (k:AV→Prop):Prop:=match s,d,y with
 | .int _, .int kk, .v (.int _ n)=>k (.v (.int kk (kk.wrap n)))
 | .str, .str, .s l=>k (.s l)
 | .slice e, .str, .sl xs _=>(U e).k= .int .u8∧∃l:List UInt8,xs=l.map bX∧k (.s l)
 | .str, .slice e, .s l=>(U e).k= .int .u8∧k (.sl (l.map bX) .no)
 | .cplx _, .cplx kk, .v (.complex kf a b)=>kf=kk∧k (.v (.complex kk a b))
 |_,_,_=>False
@[congr] theorem AQ {s s' d d'} {y y'} {k} (e1:s=s') (e2:d=d') (e:y=y'):cvA U s d y k=cvA U s' d' y' k:=by grind
@[go_sem] theorem DG (k0 kk k1) (m) (k):cvA U (.int k0) (.int kk) (.v (.int k1 m)) k=k (.v (.int kk (kk.wrap m))):=rfl
@[go_sem] theorem ym (e) (l) (pm) (k):cvA U (.slice e) .str (.sl (l.map bX) pm) k=((U e).k= .int .u8∧k (.s l)):=by
 simp only [cvA]
 congr 1
 apply propext;constructor
 ·rintro ⟨l',e1,hk⟩
  have:l=l' :=by
   have inj:∀(x y:List UInt8),x.map bX=y.map bX→x=y:=by
    intro x
    induction x with
    |nil=>simp
    |cons b r ih=>
     intro y e;cases y with
     |nil=>grind
     |cons b' r' =>
      simp only [List.map_cons,List.cons.injEq,bX,AV.v.injEq,Value.int.injEq,true_and,Int.natCast_inj] at e
      grind [UInt8.toNat_inj]
   exact inj _ _ e1
  rw [this]; exact hk
 grind
theorem u8m (k:TK) (X:Prop):(match k with| .int .u8=>X|_=>False)=(k= .int .u8∧X):=by
 grind
@[go_sem↓] theorem Bc (s e) (x):aF P U ρ h ⟨d, .convert s e x,t,p,a,g⟩ Q=aq (ev ρ x) fun y=>cvA U (U s).k (U e).k y (atH Q h):=by
 simp only [aF,pv,aV]
 congr 1
 funext y
 generalize (U s).k=ks;generalize (U e).k=ke;cases ks<;>cases ke<;>cases y<;>(first|rfl|(rename_i u; cases u<;>rfl)|skip)
 ·simp only [cvA]
  exact u8m _ _
 ·simp only [cvA]
  exact u8m _ _
end
attribute [go_sem] true_and and_true List.length_cons List.length_nil List.drop_succ_cons List.drop_zero List.drop_nil List.take_succ_cons List.take_zero List.take_nil List.append_nil List.cons_append List.nil_append List.map_cons List.map_nil ne_eq not_false_eq_true reduceCtorEq Nat.zero_add Nat.add_zero
section
variable {P : Program} {U : TypeId → TI} {n : Nat} {ρ : Env} {h : Heap}
variable {d : Option Tmp} {t : TypeId} {p : String} {a : Array Edge} {g : Option (Nat × Bool)} {Q : AV → Heap → Prop} {k : AV → Prop}
@[go_sem] theorem CC (x):TK.agg (.int x)=false:=rfl
@[go_sem] theorem CD (x y):TK.agg (.map x y)=false:=rfl
@[go_sem] theorem Bw:TK.agg .bool=false:=rfl
@[go_sem] theorem CE:TK.agg .str=false:=rfl
@[go_sem] theorem AF (x):TK.agg (.slice x)=false:=rfl
@[go_sem] theorem AG (x):TK.agg (.strct x)=true:=rfl
@[go_sem] theorem AN (cs):AV.cells (.agg cs)=cs:=rfl
@[go_sem] theorem CI (x):AV.cells (.v x)= [.v x]:=rfl
@[go_sem] theorem CH (x):AV.cells (.s x)= [.s x]:=rfl
@[go_sem] theorem BI (x) (q):AV.cells (.sl x q)= [.sl x q]:=rfl
@[go_sem] theorem A5 (cs):aU (.agg cs)=true:=rfl
@[go_sem] theorem C7 (x):aU (.v x)=false:=rfl
@[go_sem] theorem C6 (x):aU (.s x)=false:=rfl
@[go_sem] theorem B6 (x) (q):aU (.sl x q)=false:=rfl
@[go_sem] theorem C4 (cs) (m):fit (.agg cs) m=(cs.length=m):=rfl
@[go_sem] theorem C5 (x) (i) (m):fit (.v (.int x i)) m=(m=1):=by simp [fit,Value.oneCell']
@[go_sem] theorem BY (i) (m):fit (.v (.bool i)) m=(m=1):=by simp [fit,Value.oneCell']
@[go_sem] theorem EE (l) (m):fit (.s l) m=(m=1):=rfl
@[go_sem] theorem DP (l) (q) (m):fit (.sl l q) m=(m=1):=rfl
@[go_sem] theorem BZ (m):fits m []=True:=rfl
@[go_sem] theorem A2 (m) (y) (r):fits m (y::r)=(fit y m∧fits m r):=rfl
@[go_sem↓] theorem we (cs) (off) (i):eF cs off i k=Br i.k.agg (off+i.sz≤cs.length∧k (.agg ((cs.drop off).take i.sz))) (aq cs[off]? k):=by
 unfold eF;cases i.k.agg with
 |true=>simp [Br]
 |false=>
  grind [Br,aq]
@[go_sem↓] theorem zm (y) (off) (i):atA y off i k=if off=0∧y.cells.length=i.sz∧aU y=i.k.agg then k y else eF y.cells off i k:=rfl
def DN (U:TypeId→TI) (f:Nat) (y:AV) (k:AV→Prop) (tk:TK):Prop:=match tk,y with
 | .strct fs, .agg cs=>aq fs[f]? fun q=>(U q.2).sz≠0∧(U q.2).k≠ .other∧eF cs q.1 (U q.2) k
 |_,_=>False
def wL (y:AV) (i:Nat) (k:AV→Prop):Prop:=match y with
 | .tup vs=>aq vs[i]? k
 |_=>False
@[congr] theorem Am {y y'} {i} (e:y=y'):wL y i k=wL y' i k:=by rw [e]
@[go_sem↓] theorem Dp (vs) (i):wL (.tup vs) i k=aq vs[i]? k:=rfl
@[go_sem↓] theorem Bd (x) (i):aF P U ρ h ⟨d, .extract x i,t,p,a,g⟩ Q=aq (ev ρ x) fun y=>wL y i (atH Q h):=by
 simp only [aF,pv,aV]
 grind [wL,aq,atH]
def tQ (tk:TK) (y z:AV) (k:AV→Prop):Prop:=match tk,y,z with
 | .str, .s l, .v (.int _ n)=>w8 l n k
 |_,_,_=>False
@[congr] theorem yN {tk tk'} {y y' z z'} (e0:tk=tk') (e1:y=y') (e2:z=z'):tQ tk y z k=tQ tk' y' z' k:=by grind
@[go_sem↓] theorem Cq (l) (x) (m):tQ .str (.s l) (.v (.int x m)) k=w8 l m k:=rfl
@[go_sem↓] theorem Df (ty) (x i):aF P U ρ h ⟨d, .index ty x i,t,p,a,g⟩ Q=aq (ev ρ x) fun y=>aq (ev ρ i) fun z=>tQ (U ty).k y z (atH Q h):=by
 simp only [aF,pv,aV]
 congr 1
def se (U:TypeId→TI) (f:Nat) (y:AV) (k:AV→Prop) (tk:TK):Prop:=match tk with
 | .strct fs=>aq fs[f]? fun q=>(U q.2).sz≠0∧match y with
  | .ptr id o=>k (.ptr id (o+q.1))
  | .pe z o=>k (.pe z (o+q.1))
  |_=>False
 |_=>False
@[go_sem↓] theorem zO (f id o) (fs):se U f (.ptr id o) k (.strct fs)=aq fs[f]? fun q=>(U q.2).sz≠0∧k (.ptr id (o+q.1)):=rfl
@[go_sem↓] theorem yC (ty) (x) (f):aF P U ρ h ⟨d, .fieldAddr ty x f,t,p,a,g⟩ Q=aq (ev ρ x) fun y=>atK (U ty).k (se U f y (atH Q h)):=by
 simp only [aF,pv,aV,atK]
 congr 1
 funext y
 cases (U ty).k<;>simp only [se]
 rename_i fs
 cases fs[f]? with
 |none=>rfl
 |some q=>rfl
def mN (U:TypeId→TI) (y z:AV) (k:AV→Prop) (tk:TK):Prop:=match tk,y,z with
 | .slice e, .sl xs _, .v (.int _ n)=>(U e).sz≠0∧uX xs n (U e).sz k
 | .slice e, .oa id off len, .v (.int _ n)=>(U e).sz≠0∧0≤n∧n<len∧k (.ptr id (off+n.toNat*(U e).sz))
 | .arr len e, .ptr id off, .v (.int _ n)=>(U e).sz≠0∧0≤n∧n<len∧k (.ptr id (off+n.toNat*(U e).sz))
 | .slice e, .ob id off len _ sz, .v (.int _ n)=>(U e).sz≠0∧sz=(U e).sz∧0≤n∧n<len∧k (.ptr id (off+n.toNat*sz))
 |_,_,_=>False
@[go_sem↓] theorem uo (xs) (q) (x) (m) (e):mN U (.sl xs q) (.v (.int x m)) k (.slice e)=((U e).sz≠0∧uX xs m (U e).sz k):=rfl
@[go_sem↓] theorem um (id off len) (x) (m) (e):mN U (.oa id off len) (.v (.int x m)) k (.slice e)=((U e).sz≠0∧0≤m∧m<len∧k (.ptr id (off+m.toNat*(U e).sz))):=rfl
@[go_sem↓] theorem yD (ty) (x i):aF P U ρ h ⟨d, .indexAddr ty x i,t,p,a,g⟩ Q=aq (ev ρ x) fun y=>aq (ev ρ i) fun z=>atK (U ty).k (mN U y z (atH Q h)):=by
 simp only [aF,pv,aV,atK]
 congr 1
def kF (b:Blk) (f:List AV→TypeId→Prop):Prop:=match b with
 | .obj cs t=>f cs t
 |_=>False
@[congr] theorem z7 {b b'} {f} (e:b=b'):kF b f=kF b' f:=by rw [e]
@[go_sem↓] theorem xN (cs) (t) (f):kF (.obj cs t) f=f cs t:=rfl
def jH (U:TypeId→TI) (h:Heap) (ty:TypeId) (y:AV) (k:AV→Prop):Prop:=match y with
 | .ptr id off=>aq (h id) fun b=>kF b fun cs _=>eF cs off (U ty) k
 | .pe z off=>atA z off (U ty) k
 |_=>False
@[congr] theorem yy {ty} {y y'} (e:y=y'):jH U h ty y k=jH U h ty y' k:=by rw [e]
@[go_sem↓] theorem A7 (ty) (id off):jH U h ty (.ptr id off) k=aq (h id) fun b=>kF b fun cs _=>eF cs off (U ty) k:=rfl
@[go_sem↓] theorem Cc (ty) (z) (off):jH U h ty (.pe z off) k=atA z off (U ty) k:=rfl
@[go_sem↓] theorem DY (ty) (x):aF P U ρ h ⟨d, .load ty x,t,p,a,g⟩ Q=((U ty).sz≠0∧(U ty).k≠ .other∧aq (ev ρ x) fun y=>jH U h ty y (atH Q h)):=by
 simp only [aF,pv,aV]
 congr 1
 congr 1
 congr 1
 funext y
 cases y with
 |ptr id off=>
  simp only [jH];cases h id with
  |none=>rfl
  |some b=>cases b<;>rfl
 |_=>rfl
def ur (y:AV) (f:Int→Prop):Prop:=match y with
 | .v (.int _ m)=>f m
 |_=>False
@[congr] theorem zR {y y'} {f} (e:y=y'):ur y f=ur y' f:=by rw [e]
@[go_sem↓] theorem tv (x) (m) (f):ur (.v (.int x m)) f=f m:=rfl
@[go_sem↓] theorem kH (m) (f):bZ ρ none m f=f m:=rfl
@[go_sem↓] theorem fT (x) (m) (f):bZ ρ (some x) m f=aq (ev ρ x) fun y=>ur y f:=by
 simp only [bZ,aV]
 congr 1
def fm (U:TypeId→TI) (ρ:Env) (y:AV) (lo hi mx:Option Operand) (k:AV→Prop) (tk:TK):Prop:=match y with
 | .s l=>tk= .str∧mx=none∧bZ ρ lo 0 fun a=>bZ ρ hi l.length fun b=>0≤a∧a≤b∧b≤l.length∧k (.s (iX l a b lo.isSome hi.isSome))
 | .sl xs p=>match tk with
  | .slice e=>(U e).sz≠0∧(lo.isSome=true→∀z∈xs,z.cells.length=(U e).sz)∧match mx with
   |none=>bZ ρ lo 0 fun a=>bZ ρ hi xs.length fun b=>0≤a∧a≤b∧b≤xs.length∧k (.sl (iX xs a b lo.isSome hi.isSome) (oZ xs p lo.isSome hi.isSome))
   |some m=>hi.isSome=true∧bZ ρ lo 0 fun a=>bZ ρ hi xs.length fun b=>bZ ρ (some m) 0 fun c=>0≤a∧a≤b∧b=c∧c≤xs.length∧k (.sl (iX xs a b lo.isSome true) .full)
  |_=>False
 | .oa id off len=>match tk with
  | .slice e=>(U e).sz≠0∧(lo.isSome=true→(U e).sz=1)∧mx=none∧bZ ρ lo 0 fun a=>bZ ρ hi len fun b=>0≤a∧a≤b∧b≤len∧k (.oa id (off+a.toNat*(U e).sz) (b.toNat - a.toNat))
  |_=>False
 | .ob id off len cap sz=>match tk with
  | .slice e=>(U e).sz≠0∧sz=(U e).sz∧match mx with
   |none=>bZ ρ lo 0 fun a=>bZ ρ hi len fun b=>0≤a∧a≤b∧b≤cap∧k (.ob id (off+a.toNat*sz) (b.toNat - a.toNat) (cap - a.toNat) sz)
   |some m=>hi.isSome=true∧bZ ρ lo 0 fun a=>bZ ρ hi len fun b=>bZ ρ (some m) 0 fun c=>0≤a∧a≤b∧b≤c∧c≤cap∧k (.ob id (off+a.toNat*sz) (b.toNat - a.toNat) (c.toNat - a.toNat) sz)
  |_=>False
 |_=>False
@[go_sem↓] theorem lH (xs) (q) (hi) (e):fm U ρ (.sl xs q) none hi none k (.slice e)=((U e).sz≠0∧bZ ρ hi xs.length fun b=>0≤b∧b≤xs.length∧k (.sl (iX xs 0 b false hi.isSome) (oZ xs q false hi.isSome))):=by
 simp [fm,bZ]
@[go_sem↓] theorem rm (xs) (q) (lo) (hi) (e):fm U ρ (.sl xs q) (some lo) hi none k (.slice e)=((U e).sz≠0∧Sized (U e).sz xs∧bZ ρ (some lo) 0 fun a=>bZ ρ hi xs.length fun b=>0≤a∧a≤b∧b≤xs.length∧k (.sl (iX xs a b true hi.isSome) (oZ xs q true hi.isSome))):=by
 simp [fm,Sized]
@[go_sem↓] theorem oO (id off len) (lo hi) (e):fm U ρ (.oa id off len) lo hi none k (.slice e)=((U e).sz≠0∧(lo.isSome=true→(U e).sz=1)∧bZ ρ lo 0 fun a=>bZ ρ hi len fun b=>0≤a∧a≤b∧b≤len∧k (.oa id (off+a.toNat*(U e).sz) (b.toNat - a.toNat))):=by
 simp [fm]
@[go_sem] theorem xp {α:Type} (xs:List α) (a b):iX xs a b true false=xs.drop a.toNat:=rfl
@[go_sem] theorem CJ (xs) (a b):oZ xs .no a b= .no:=by cases xs<;>cases a<;>cases b<;>rfl
@[go_sem↓] theorem Dg (ty) (x) (lo hi mx):aF P U ρ h ⟨d, .slice ty x lo hi mx,t,p,a,g⟩ Q=aq (ev ρ x) fun y=>atK (U ty).k (fm U ρ y lo hi mx (atH Q h)):=by
 simp only [aF,pv,aV,atK]
 congr 1
end
section
variable {P : Program} {U : TypeId → TI} {n : Nat} {ρ : Env} {h : Heap}
variable {d : Option Tmp} {t : TypeId} {p : String} {a : Array Edge} {g : Option (Nat × Bool)} {Q : AV → Heap → Prop} {k : AV → Prop}
def uZ (h:Heap) (b:Blk) (Q:AV→Heap→Prop):Prop:=∀id,h id=none→Q (.ptr id 0) (upd h id (some b))
def Dv (h:Heap) (sz m:Nat) (b:Blk) (Q:AV→Heap→Prop):Prop:=∀id,h id=none→Q (zl sz m id) (upd h id (some b))
def Dw (h:Heap) (xs:List AV) (b:Blk) (Q:AV→Heap→Prop):Prop:=∀id,h id=none→Q (.sl xs (.own id)) (upd h id (some b))
def gJ (U:TypeId→TI) (h:Heap) (xs ys:List AV) (e:TypeId) (Q:AV→Heap→Prop):Prop:=
 (∀id,h id=none→Q (.sl (xs++ys) (.own id)) (upd h id (some (.spare (xs.length+ys.length) (U e).sz))))∨
  ((U e).sz=1∧fit (U e).zero 1∧aU (U e).zero=false∧(∀z∈xs++ys,aU z=false)∧∀id m,h id=none→Q (.oa id 0 (xs.length+ys.length)) (upd h id (some (.obj (xs++ys++List.replicate m (U e).zero) e))))∨
  (fit (U e).zero (U e).sz∧fG h (bx xs++bx ys) (xs.length+ys.length) (U e).sz e Q)
@[congr] theorem xY {h h'} {xs xs' ys ys'} {e} (e0:h=h') (e1:xs=xs') (e2:ys=ys'):gJ U h xs ys e Q=gJ U h' xs' ys' e Q:=by grind
theorem gJ.own {xs ys} {e} (hk:Dw h (xs++ys) (.spare (xs.length+ys.length) (U e).sz) Q):gJ U h xs ys e Q:= .inl hk
theorem gJ.oa {xs ys} {e} (h1:(U e).sz=1) (h2:fit (U e).zero 1) (h3:aU (U e).zero=false) (h4:∀z∈xs++ys,aU z=false)
  (hk:∀id m,h id=none→Q (.oa id 0 (xs.length+ys.length)) (upd h id (some (.obj (xs++ys++List.replicate m (U e).zero) e)))):gJ U h xs ys e Q:= .inr (.inl ⟨h1,h2,h3,h4,hk⟩)
theorem gJ.ob {xs ys} {e} (h1:fit (U e).zero (U e).sz) (hk:fG h (bx xs++bx ys) (xs.length+ys.length) (U e).sz e Q):gJ U h xs ys e Q:= .inr (.inr ⟨h1,hk⟩)
def jX (U:TypeId→TI) (h:Heap) (xs ys:List AV) (e:TypeId) (Q:AV→Heap→Prop):Prop:=(ys= []→Q (.sl xs .full) h)∧(ys≠ []→gJ U h xs ys e Q)
@[congr] theorem w5 {h h'} {xs xs' ys ys'} {e} (e0:h=h') (e1:xs=xs') (e2:ys=ys'):jX U h xs ys e Q=jX U h' xs' ys' e Q:=by grind
@[go_sem] theorem Bn {α:Type} (f:Nat→α) (i) (x:α):upd f i x i=x:=ag f i x
@[go_sem] theorem pO {α:Type} (f:Nat→α) (i j) (x:α) (e:¬j=i):upd f i x j=f j:=af f x e
@[go_sem] theorem Dt {α:Type} (f:Nat→α) (i) (x y:α):upd (upd f i x) i y=upd f i y:=by
 grind [upd]
def gT:List (Nat×Operand)→Nat→Bool
 | [],_=>true
 |(i,_)::r,k=>i==k && gT r (k+1)
theorem oD:∀(l:List (Nat×Operand)) (k:Nat),gT l k=true↔l.map (·.1)=List.range' k l.length
 | [],k=>by simp [gT]
 |(i,x)::r,k=>by simp [gT,oD r (k+1),List.range'_succ]
@[go_sem] theorem A4 (k):gT [] k=true:=rfl
@[go_sem] theorem zQ (i) (x) (r) (k):(gT ((i,x)::r) k=true)=(i=k∧gT r (k+1)=true):=by simp [gT]
theorem uq (l) (m):(l.map (·.1)=List.range m)=(gT l 0=true∧l.length=m):=by
 apply propext;rw [oD,List.range_eq_range'];constructor
 ·intro e
  have:=congrArg List.length e;simp at this;exact ⟨by grind,this⟩
 grind
def bsK (U:TypeId→TI) (ρ:Env) (len:Nat) (parts:List (Nat×Operand)) (k:AV→Prop) (tk:TK):Prop:=match tk with
 | .slice e=>(U e).sz≠0∧len*(U e).sz≤16777216∧(gT parts 0=true∧parts.length=len)∧aq (evs ρ (parts.map (·.2))) fun xs=>fits (U e).sz xs∧k (.sl xs .full)
 |_=>False
@[go_sem↓] theorem DF (len) (parts) (e):bsK U ρ len parts k (.slice e)=((U e).sz≠0∧len*(U e).sz≤16777216∧(gT parts 0=true∧parts.length=len)∧aq (evs ρ (parts.map (·.2))) fun xs=>fits (U e).sz xs∧k (.sl xs .full)):=rfl
@[go_sem↓] theorem xM (ty) (len) (parts):aF P U ρ h ⟨d, .buildSlice ty len parts.toArray,t,p,a,g⟩ Q=atK (U ty).k (bsK U ρ len parts (atH Q h)):=by
 simp only [aF,pv,atK];cases (U ty).k<;>simp only [bsK,iD,uq]
 rfl
def zi (k:AV→Prop) (cs:List AV):Prop:=k (.agg cs)
@[go_sem↓] theorem CB (cs):zi k cs=k (.agg cs):=rfl
def s6 (z:AV):Option (List AV):=match z with
 | .agg cs=>some cs
 |_=>none
@[go_sem] theorem AE (cs):s6 (.agg cs)=some cs:=rfl
def bK (U:TypeId→TI) (ρ:Env) (ty:TypeId) (parts:List (Nat×Operand)) (k:AV→Prop) (tk:TK):Prop:=match tk with
 | .strct fs=>(U ty).sz≠0∧aq (s6 (U ty).zero) fun cs0=>withps U ρ fs parts cs0 (zi k)
 |_=>False
@[go_sem↓] theorem En (ty) (parts) (fs):bK U ρ ty parts k (.strct fs)=((U ty).sz≠0∧aq (s6 (U ty).zero) fun cs0=>withps U ρ fs parts cs0 (zi k)):=rfl
def bU (U:TypeId→TI) (ρ:Env) (ty:TypeId) (parts:List (Nat×Operand)) (k:AV→Prop) (b:Bool):Prop:=match b with
 |true=>parts= []∧k (.agg [])
 |false=>atK (U ty).k (bK U ρ ty parts k)
@[go_sem↓] theorem Gn (ty) (parts):bU U ρ ty parts k true=(parts= []∧k (.agg [])):=rfl
@[go_sem↓] theorem Gm (ty) (parts):bU U ρ ty parts k false=atK (U ty).k (bK U ρ ty parts k):=rfl
@[go_sem] theorem Ca:isUnit (.strct [])=true:=rfl
@[go_sem] theorem B9 (f) (fs):isUnit (.strct (f::fs))=false:=rfl
@[go_sem] theorem B8 (x):isUnit (.int x)=false:=rfl
@[go_sem] theorem B7:isUnit .bool=false:=rfl
@[go_sem] theorem zS:isUnit .str=false:=rfl
@[go_sem] theorem A6 (e):isUnit (.slice e)=false:=rfl
theorem vY (ty) (parts):(match (U ty).k with
  | .strct fs=>(U ty).sz≠0∧∃cs0,(U ty).zero= .agg cs0∧withps U ρ fs parts cs0 fun cs=>(atH Q h) (.agg cs)
  |_=>False)=atK (U ty).k (bK U ρ ty parts (atH Q h)):=by
 congr 1
 cases hz:(U ty).zero<;>simp [s6,aq]
 rfl
@[go_sem↓] theorem De (ty) (parts):aF P U ρ h ⟨d, .build ty parts.toArray,t,p,a,g⟩ Q=bU U ρ ty parts (atH Q h) (isUnit (U ty).k):=by
 simp only [aF,pv];cases isUnit (U ty).k
 ·simp only [bU,Bool.false_eq_true,if_false]
  exact vY ty parts
 rfl
@[congr] theorem wZ {fs} {ps} {cs cs'} {k} (e:cs=cs'):withps U ρ fs ps cs k=withps U ρ fs ps cs' k:=by rw [e]
@[go_sem] theorem Ao (fs) (cs) (k):withps U ρ fs [] cs k=k cs:=rfl
@[go_sem] theorem yU (fs) (i) (x) (r) (cs) (k):
  withps U ρ fs ((i,x)::r) cs k=aq fs[i]? fun q=>(U q.2).sz≠0∧aq (ev ρ x) fun y=>fit y (U q.2).sz∧q.1+(U q.2).sz≤cs.length∧withps U ρ fs r (over cs q.1 y.cells) k:=by
 simp only [withps,aV];cases fs[i]? <;>rfl
@[go_sem] theorem Di (cs) (o) (xs):over cs o xs=cs.take o++xs++cs.drop (o+xs.length):=rfl
section
variable {ty : TypeId} {y : AV}
end
def fnA (y:AV) (f:FuncId→List AV→Prop):Prop:=match y with
 | .fn g cap=>f g cap
 |_=>False
@[congr] theorem A3 {y y'} {f} (e:y=y'):fnA y f=fnA y' f:=by rw [e]
@[go_sem↓] theorem DR (g) (cap) (f):fnA (.fn g cap) f=f g cap:=rfl
@[go_sem↓] theorem DX (q) (args) (ts):aF P U ρ h ⟨d, .call ⟨.value q,args.toArray,ts⟩,t,p,a,g⟩ Q=aq (ev ρ q) fun y=>fnA y fun f cap=>aq (evs ρ args) fun ys=>aj P f (ys++cap) h Q:=by
 simp only [aF,aV,iD]
 congr 1
def sr (y:AV) (k:AV→Prop) (tk:TK):Prop:=match tk,y with
 | .str, .s l=>k (.v (.int .i64 l.length))
 | .slice _, .sl xs _=>k (.v (.int .i64 xs.length))
 | .slice _, .oa _ _ len=>k (.v (.int .i64 len))
 | .slice _, .ob _ _ len _ _=>k (.v (.int .i64 len))
 |_,_=>False
def xK (k:AV→Prop) (b:Blk):Prop:=match b with
 | .mp m=>k (.v (.int .i64 m.length))
 |_=>False
@[congr] theorem zT {b b'} (e:b=b'):xK k b=xK k b' :=by rw [e]
def zU (h:Heap) (y:AV) (k:AV→Prop) (tk:TK):Prop:=match tk,y with
 | .map _ _, .mp id=>aq (h id) (xK k)
 |tk,y=>sr y k tk
@[go_sem↓] theorem Cb (y):zU h y k .str=sr y k .str:=rfl
@[go_sem↓] theorem zW (y) (e):zU h y k (.slice e)=sr y k (.slice e):=rfl
@[go_sem↓] theorem DT (l):sr (.s l) k .str=k (.v (.int .i64 l.length)):=rfl
@[go_sem↓] theorem C9 (xs) (q) (e):sr (.sl xs q) k (.slice e)=k (.v (.int .i64 xs.length)):=rfl
@[go_sem↓] theorem EI (x) (ty):aF P U ρ h ⟨d, .call ⟨.builtin .len, #[x], #[ty]⟩,t,p,a,g⟩ Q=aq (ev ρ x) fun y=>atK (U ty).k (zU h y (atH Q h)):=by
 simp only [aF,pv,pvB,aV,atK]
 congr 1
 funext y
 cases (U ty).k with
 |map a b=>
  cases y with
  |mp id=>
   show (match h id with
    |some (.mp m)=>Q (.v (.int .i64 m.length)) h
    |_=>False)=aq (h id) (xK (atH Q h))
   cases h id with
   |none=>rfl
   |some b=>cases b<;>rfl
  |_=>rfl
 |_=>cases y<;>rfl
@[congr] theorem zY {ys ys'} (e:ys=ys'):qK ys k=qK ys' k:=by rw [e]
@[congr] theorem zX {ys ys'} (e:ys=ys'):vU ys k=vU ys' k:=by rw [e]
@[go_sem] theorem Ce (x) (i j):qK [.v (.int x i), .v (.int x j)] k=k (.v (.int x (if j<i then j else i))):=by simp [qK]
@[congr] theorem yH {ys ys'} (e:ys=ys'):qW ys k=qW ys' k:=by rw [e]
@[congr] theorem yu {ys ys'} (e:ys=ys'):qz ys k=qz ys' k:=by rw [e]
@[congr] theorem yl {ys ys'} (e:ys=ys'):p5 ys k=p5 ys' k:=by rw [e]
@[go_sem↓] theorem EJ (args) (ts):aF P U ρ h ⟨d, .call ⟨.builtin .min,args.toArray,ts⟩,t,p,a,g⟩ Q=aq (evs ρ args) fun ys=>qK ys (atH Q h):=by
 simp only [aF,pv,pvB,iD];rfl
@[congr] theorem Ah {e} {y y'} {f} (h1:y=y'):eD U e h y f=eD U e h y' f:=by rw [h1]
@[go_sem↓] theorem Dm (e) (ys) (q) (f):eD U e h (.sl ys q) f=f ys:=rfl
def apK (U:TypeId→TI) (h:Heap) (x y:AV) (Q:AV→Heap→Prop) (tk:TK):Prop:=match tk,x with
 | .slice e, .sl xs .full=>(U e).sz≠0∧(U e).bytes≠0∧eD U e h y fun ys=>Sized (U e).sz xs∧Sized (U e).sz ys∧(xs.length+ys.length)*(U e).bytes≤140737488355328∧
   jX U h xs ys e Q
 | .slice e, .sl xs (.own id)=>(U e).sz≠0∧(U e).bytes≠0∧eD U e h y fun ys=>Sized (U e).sz xs∧Sized (U e).sz ys∧(xs.length+ys.length)*(U e).bytes≤140737488355328∧
   h id=some (.spare xs.length (U e).sz)∧Q (.sl (xs++ys) (.own id)) (upd h id (some (.spare (xs.length+ys.length) (U e).sz)))
 | .slice e, .oa id off len=>(U e).sz≠0∧(U e).bytes≠0∧(U e).sz=1∧eD U e h y fun ys=>Sized 1 ys∧(∀z∈ys,aU z=false)∧(len+ys.length)*(U e).bytes≤140737488355328∧aq (h id) fun b=>kF b fun cs t=>
   off+len≤cs.length∧(∀z∈(cs.drop off).take len,aU z=false)∧fit (U e).zero 1∧aU (U e).zero=false∧
     (off+(len+ys.length)≤cs.length→Q (.oa id off (len+ys.length)) (upd h id (some (.obj (over cs (off+len) ys) t))))∧
     (∀id' m,h id' =none→Q (.oa id' 0 (len+ys.length)) (upd h id' (some (.obj ((cs.drop off).take len++ys++List.replicate m (U e).zero) e))))
 | .slice e, .ob id off len cap sz=>(U e).sz≠0∧(U e).bytes≠0∧sz=(U e).sz∧eD U e h y fun ys=>Sized (U e).sz ys∧(len+ys.length)*(U e).bytes≤140737488355328∧aq (h id) fun b=>kF b fun cs t=>
   off+len*(U e).sz≤cs.length∧fit (U e).zero (U e).sz∧
     (len+ys.length≤cap→Q (.ob id off (len+ys.length) cap (U e).sz) (upd h id (some (.obj (over cs (off+len*(U e).sz) (bx ys)) t))))∧
     (cap<len+ys.length→fG h ((cs.drop off).take (len*(U e).sz)++bx ys) (len+ys.length) (U e).sz e Q)
 |_,_=>False
@[go_sem↓] theorem mh (xs) (y) (e):apK U h (.sl xs .full) y Q (.slice e)=((U e).sz≠0∧(U e).bytes≠0∧eD U e h y fun ys=>Sized (U e).sz xs∧Sized (U e).sz ys∧(xs.length+ys.length)*(U e).bytes≤140737488355328∧
   jX U h xs ys e Q):=rfl
@[go_sem↓] theorem xk (xs) (y) (id) (e):apK U h (.sl xs (.own id)) y Q (.slice e)=((U e).sz≠0∧(U e).bytes≠0∧eD U e h y fun ys=>Sized (U e).sz xs∧Sized (U e).sz ys∧(xs.length+ys.length)*(U e).bytes≤140737488355328∧
   h id=some (.spare xs.length (U e).sz)∧Q (.sl (xs++ys) (.own id)) (upd h id (some (.spare (xs.length+ys.length) (U e).sz)))):=rfl
theorem rM (ts) (x y):ig U h ts x y Q=atK (U ts).k (apK U h x y Q):=by
 unfold ig atK;cases (U ts).k with
 |slice e=>
  cases x with
  |sl xs q=>
   cases q with
   |no=>
    simp only [apK];apply propext;constructor
    ·rintro ⟨_,_,hk⟩
     obtain ⟨ys,hh,_⟩:∃ys:List AV,(Sized (U e).sz xs∧Sized (U e).sz ys∧(xs.length+ys.length)*(U e).bytes≤140737488355328∧False)∧True:=by
      unfold eD at hk
      grind
     grind
    simp
   |full=>
    rfl
   |own id=>rfl
  |oa id off len=>
   refine congrArg (fun q=>(U e).sz≠0∧(U e).bytes≠0∧(U e).sz=1∧q) (congrArg (fun f=>eD U e h y f) (funext fun ys=> ?_))
   cases h id with
   |none=>rfl
   |some b=>cases b<;>rfl
  |ob id off len cap sz=>
   refine congrArg (fun q=>(U e).sz≠0∧(U e).bytes≠0∧sz=(U e).sz∧q) (congrArg (fun f=>eD U e h y f) (funext fun ys=> ?_))
   cases h id with
   |none=>rfl
   |some b=>cases b<;>rfl
  |_=>simp [apK]
 |_=>rfl
@[go_sem↓] theorem AH (e) (A B:Prop):apT A B (.slice e)=A:=rfl
def zk (U:TypeId→TI) (h:Heap) (x y:AV) (Q:AV→Heap→Prop) (tk:TK):Prop:=match tk,x,y with
 | .slice e, .ob id off len cap sz, .v (.int _ n)=>(U e).sz≠0∧(U e).bytes≠0∧sz=(U e).sz∧0<n∧(len+n.toNat)*(U e).bytes≤140737488355328∧fit (U e).zero (U e).sz∧cap<len+n.toNat∧aq (h id) fun b=>kF b fun cs _=>
   off+len*(U e).sz≤cs.length∧fG h ((cs.drop off).take (len*(U e).sz)++bw (U e).zero n.toNat (U e).sz) (len+n.toNat) (U e).sz e Q
 |_,_,_=>False
theorem wO (ts) (x y):rN U h ts x y Q=atK (U ts).k (zk U h x y Q):=by
 unfold rN atK;cases (U ts).k with
 |slice e=>
  cases x with
  |ob id off len cap sz=>
   cases y with
   |v u=>
    cases u with
    |int k n=>
     simp only [zk];cases h id with
     |none=>rfl
     |some b=>cases b<;>rfl
    |_=>rfl
   |_=>rfl
  |_=>rfl
 |_=>rfl
@[go_sem↓] theorem Cg (x y) (t1 t2):aF P U ρ h ⟨d, .call ⟨.builtin .append, #[x,y], #[t1,t2]⟩,t,p,a,g⟩ Q=aq (ev ρ x) fun u=>aq (ev ρ y) fun v=>atK (U t2).k (apT (atK (U t1).k (apK U h u v Q)) (atK (U t1).k (zk U h u v Q))):=by
 simp [aF,aV,rM,wO,atK]
def alU (U:TypeId→TI) (h:Heap) (ty:TypeId) (Q:AV→Heap→Prop) (b:Bool):Prop:=match b with
 |true=>uZ h (.obj [] ty) Q
 |false=>(U ty).sz≠0∧fit (U ty).zero (U ty).sz∧uZ h (.obj (U ty).zero.cells ty) Q
@[go_sem↓] theorem Em (ty):alU U h ty Q true=uZ h (.obj [] ty) Q:=rfl
@[go_sem↓] theorem El (ty):alU U h ty Q false=((U ty).sz≠0∧fit (U ty).zero (U ty).sz∧uZ h (.obj (U ty).zero.cells ty) Q):=rfl
@[go_sem↓] theorem Dc (ty):aF P U ρ h ⟨d, .alloc ty,t,p,a,g⟩ Q=alU U h ty Q (isUnit (U ty).k):=by
 simp only [aF];cases isUnit (U ty).k<;>rfl
@[go_sem↓] theorem EH (ty) (x):aF P U ρ h ⟨d, .box ty x,t,p,a,g⟩ Q=((U ty).sz≠0∧aq (ev ρ x) fun y=>fit y (U ty).sz∧uZ h (.obj y.cells ty) Q):=by
 simp only [aF,aV];rfl
def stA (U:TypeId→TI) (h:Heap) (ty:TypeId) (q y:AV) (Q:AV→Heap→Prop):Prop:=match q with
 | .ptr id off=>aq (h id) fun b=>kF b fun cs t' =>fit y (U ty).sz∧off+(U ty).sz≤cs.length∧Q (.v undef) (upd h id (some (.obj (over cs off y.cells) t')))
 |_=>False
@[congr] theorem Bj {ty} {q q' y y'} (e1:q=q') (e2:y=y'):stA U h ty q y Q=stA U h ty q' y' Q:=by grind
@[go_sem↓] theorem Dn (ty) (id off) (y):stA U h ty (.ptr id off) y Q=aq (h id) fun b=>kF b fun cs t' =>fit y (U ty).sz∧off+(U ty).sz≤cs.length∧Q (.v undef) (upd h id (some (.obj (over cs off y.cells) t'))):=rfl
def utA (h:Heap) (u y:AV) (Q:AV→Heap→Prop):Prop:=y= .agg []∧match u with
 | .ptr .. =>Q (.v undef) h
 |_=>False
@[congr] theorem Bo {u u' y y'} (e1:u=u') (e2:y=y'):utA h u y Q=utA h u' y' Q:=by grind
@[go_sem↓] theorem Eb (i o):utA h (.ptr i o) (.agg []) Q=Q (.v undef) h:=by simp [utA]
def stU (U:TypeId→TI) (ρ:Env) (h:Heap) (ty:TypeId) (q x:Operand) (Q:AV→Heap→Prop) (b:Bool):Prop:=match b with
 |true=>aq (ev ρ q) fun u=>aq (ev ρ x) fun y=>utA h u y Q
 |false=>(U ty).sz≠0∧aq (ev ρ q) fun u=>aq (ev ρ x) fun y=>stA U h ty u y Q
@[go_sem↓] theorem EO (ty) (q x):stU U ρ h ty q x Q true=aq (ev ρ q) fun u=>aq (ev ρ x) fun y=>utA h u y Q:=rfl
@[go_sem↓] theorem EN (ty) (q x):stU U ρ h ty q x Q false=((U ty).sz≠0∧aq (ev ρ q) fun u=>aq (ev ρ x) fun y=>stA U h ty u y Q):=rfl
@[go_sem↓] theorem Dh (ty) (q x):aF P U ρ h ⟨d, .store ty q x,t,p,a,g⟩ Q=stU U ρ h ty q x Q (isUnit (U ty).k):=by
 simp only [aF,aV];cases isUnit (U ty).k
 case true=>rfl
 simp only [stU,Bool.false_eq_true,if_false]
 congr 1
 congr 1
 funext u
 congr 1
 funext y
 cases u<;>simp only [stA]
 rename_i id off
 cases h id with
 |none=>rfl
 |some b=>cases b<;>rfl
def mkK (U:TypeId→TI) (h:Heap) (x y:AV) (Q:AV→Heap→Prop) (tk:TK):Prop:=match tk,x,y with
 | .slice e, .v (.int _ n), .v (.int _ n')=>n=n'∧0≤n∧n<lim∧n*(U e).bytes≤281474976710656∧(U e).sz≠0∧fit (U e).zero (U e).sz∧
   Dv h (U e).sz n.toNat (.obj (bw (U e).zero n.toNat (U e).sz) e) Q
 |_,_,_=>False
def gK (xs:List AV) (h:Heap) (Q:AV→Heap→Prop):Prop:=∃y h',Weak (au xs) y∧Sub h' h∧Q y h'
@[congr] theorem ye {xs xs'} {h h'} {Q} (e1:xs=xs') (e2:h=h'):gK xs h Q=gK xs' h' Q:=by grind
@[go_sem↓] theorem AL (rs):og U rs Q .ret ρ h=jP ρ h U rs fun xs=>gK xs h Q:=by simp [og,gK]
@[go_sem↓] theorem Cn (f):jP ρ h U [] f=f []:=rfl
@[go_sem↓] theorem Co (i) (r) (f):jP ρ h U (.tmp i::r) f=aq (lk ρ i) fun x=>jP ρ h U r fun xs=>f (x::xs):=by
 simp only [jP];cases lk ρ i<;>rfl
def pZ (U:TypeId→TI) (h:Heap) (ty:TypeId) (y:AV) (k:AV→Prop):Prop:=match y with
 | .ptr id off=>aq (h id) fun b=>kF b fun cs _=>(U ty).sz≠0∧(U ty).k≠ .other∧eF cs off (U ty) k
 |_=>False
@[congr] theorem yh {ty} {y y'} (e:y=y'):pZ U h ty y k=pZ U h ty y' k:=by rw [e]
@[go_sem↓] theorem AM (ty) (id off):pZ U h ty (.ptr id off) k=aq (h id) fun b=>kF b fun cs _=>(U ty).sz≠0∧(U ty).k≠ .other∧eF cs off (U ty) k:=rfl
@[go_sem↓] theorem Bg (i) (ty) (r) (f):jP ρ h U (.cell i ty::r) f=aq (lk ρ i) fun y=>pZ U h ty y fun x=>jP ρ h U r fun xs=>f (x::xs):=by
 simp only [jP];cases lk ρ i with
 |none=>rfl
 |some y=>
  cases y<;>simp only [dL,pZ]
  rename_i id off
  cases h id with
  |none=>rfl
  |some b=>cases b<;>rfl
theorem gK.mk {xs} {h h'} {Q} (y) (hw:Weak (au xs) y) (hs:Sub h' h) (hq:Q y h'):gK xs h Q:=⟨y,h',hw,hs,hq⟩
theorem gK.same {xs} {h h'} {Q} (hs:Sub h' h) (hq:Q (au xs) h'):gK xs h Q:=⟨_,h', .refl _,hs,hq⟩
theorem Sub.refl (h):Sub h h:=fun _ _ e=>e
theorem Sub.trans {a b c} (h1:Sub a b) (h2:Sub b c):Sub a c:=fun i k e=>h2 i k (h1 i k e)
theorem Sub.new {a b} (hs:Sub a b) {id} (hid:b id=none) (k):Sub a (Ab.upd b id k):=fun j l e=>by
 by_cases ej:j=id
 ·subst ej; rw [hs _ _ e] at hid; grind
 ·rw [af _ _ ej]; exact hs _ _ e
theorem Sub.none {a b} (hs:Sub a b) {id} (hid:b id=none):a id=none:=by
 cases hh:a id with
 |none=>rfl
 |some k=>rw [hs _ _ hh] at hid; omega
theorem aj.body (hU:∀t,ax P U t) (hm:P.follows .mixedOrders=true) {f} {fn} {c} {args} {h} {Q} (hf:P.funcs[f]? =some fn) (hb:fn.body=some c)
  (hn : (fn.name == "runtime.NumGoroutine") = false) (m) (hm' : fn.ntmps = m) (rs) (hr : fn.results.toList = rs) (hl : args.length ≤ m)
  (hk:(∀x∈args,wfA x)→aJ P U m c (mH args) h (og U rs Q)):aj P f args h Q:=by
 subst hm'; subst hr
 exact aj.Cj hU hm hf hb hn hl hk
end
section
variable {P : Program} {U : TypeId → TI} {n : Nat} {ρ : Env} {h : Heap}
variable {d : Option Tmp} {t : TypeId} {p : String} {a : Array Edge} {g : Option (Nat × Bool)} {Q : AV → Heap → Prop} {k : AV → Prop}
def dsts (n:Nat):List Oper→Bool
 | []=>true
 |o::os=>bS n o.dst && dsts n os
theorem iq (l):dsts n l=l.all fun o=>bS n o.dst:=by induction l with
 |nil=>rfl
 |cons o os ih=>grind [dsts]
@[go_sem] theorem BR:(dsts n []=true)=True:=by simp [dsts]
@[go_sem] theorem AS (o) (os):(dsts n (o::os)=true)=(bS n o.dst=true∧dsts n os=true):=by simp [dsts]
def pU (ops:Array Oper):Prop:=mU ops=true
theorem pU.of {ops} (h:mU ops=true):pU ops:=h
def rV (k:AV→Prop) (x:AV) (_:Heap):Prop:=k x
@[go_sem↓] theorem AP (x):rV k x h=k x:=rfl
def KDr (P:Program) (U:TypeId→TI) (n:Nat) (all os:List Oper) (h:Heap) (K:Env→Prop) (ρ:Env) (d:Option Tmp) (x:AV):Prop:=fu P U n all os (put ρ d x) h K
@[go_sem↓] theorem Du (all os) (K) (x):KDr P U n all os h K ρ d x=fu P U n all os (put ρ d x) h K:=rfl
def atN (K:Exit→Env→Heap→Prop) (h:Heap) (ρ:Env):Prop:=K .normal ρ h
@[go_sem↓] theorem Dy (K):atN K h ρ=K .normal ρ h:=rfl
def Bt (ops:Array Oper):Prop:=xL ops=true
attribute [go_sem] Bool.not_false Bool.not_true o6 Option.isNone_none Option.isNone_some Bool.and_true Bool.true_and Bool.and_false Bool.false_and List.dropLast_singleton
@[go_sem] theorem sk (o o') (r):iO (o::o' ::r)=iO (o' ::r):=rfl
@[go_sem] theorem nJ (o o' :Oper) (r:List Oper):(o::o' ::r).dropLast=o::(o' ::r).dropLast:=rfl
def yS (l:List Oper) (k:List Oper→Prop):Prop:=k l
@[congr] theorem yT {l l'} {k} (e:l=l'):yS l k=yS l' k:=by rw [e]
section
variable (l : List Oper)
@[go_sem] theorem Ak:fQ []=true:=rfl
@[go_sem] theorem rG (o):fQ (o::l)=(!bN o.op && fQ l):=rfl
end
section
variable (x y z : Operand) (ty ty' : TypeId)
@[go_sem] theorem AW:bN (.move x)=false:=rfl
@[go_sem] theorem yp:bN (.assign x)=false:=rfl
@[go_sem] theorem AX:bN (.pick x y z)=false:=rfl
@[go_sem] theorem zI (op):bN (.binOp op ty x y ty')=false:=rfl
@[go_sem] theorem AY (op):bN (.unOp op ty x)=false:=rfl
@[go_sem] theorem xB:bN (.convert ty ty' x)=false:=rfl
@[go_sem] theorem zJ:bN (.index ty x y)=false:=rfl
@[go_sem] theorem vz (f):bN (.fieldAddr ty x f)=false:=rfl
@[go_sem] theorem vA:bN (.indexAddr ty x y)=false:=rfl
@[go_sem] theorem AU:bN (.load ty x)=false:=rfl
@[go_sem] theorem zK (lo hi mx):bN (.slice ty x lo hi mx)=false:=rfl
@[go_sem] theorem uW (m) (ps):bN (.buildSlice ty m ps)=false:=rfl
@[go_sem] theorem BS (aa) (ts):bN (.call ⟨.builtin .len,aa,ts⟩)=false:=rfl
@[go_sem] theorem AT (aa) (ts):bN (.call ⟨.value x,aa,ts⟩)=true:=rfl
@[go_sem] theorem yo (aa) (ts):bN (.call ⟨.builtin .append,aa,ts⟩)=true:=rfl
@[go_sem] theorem zH:bN (.alloc ty)=true:=rfl
@[go_sem] theorem zL:bN (.store ty x y)=true:=rfl
end
def iN (P:Program) (U:TypeId→TI) (n:Nat) (l:List Oper) (ρ:Env) (h:Heap) (K:Exit→Env→Heap→Prop):Prop:=yR P U n l.toArray ρ h (K .normal)
theorem iN.quiet {l} {K} (hB:mU l.toArray=true) (hk:dsts n l=true∧fu P U n l l ρ h (atN K h)):iN P U n l ρ h K:=
 ⟨by grind [iq], .inl ⟨hB,hk.2⟩⟩
theorem iN.calls {l} {K} (hm) (os) (hs:Sub hm h) (hB:dJ .any l.toArray none (.seq os) (Array.replicate l.toArray.size false)=true) (hl:os.length=l.toArray.size)
  (hk:dsts n l=true∧bO P U n l hm os ρ h (K .normal)):iN P U n l ρ h K:=
 ⟨by grind [iq], .inr (.inl ⟨hm, .seq os,_,hs,hB,hl,hk.2,fun _ _ h=>h⟩)⟩
def zh (P:Program) (U:TypeId→TI) (n:Nat) (l:List Oper) (o2:List Nat) (K:Exit→Env→Heap→Prop) (ρ:Env) (h:Heap):Prop:=∃hm2,Sub hm2 h∧bO P U n l hm2 o2 ρ h (K .normal)
theorem iN.tree {l} {K} (hm) (t) (hs:Sub hm h) (hB:dJ .any l.toArray none t (Array.replicate l.toArray.size false)=true) (hl:t.len=l.toArray.size)
  (hk:dsts n l=true∧fY P U n l hm t ρ h (K .normal)):iN P U n l ρ h K:=
 ⟨by grind [iq], .inr (by grind)⟩
theorem iN.stage {l} {K} (hm) (o1 o2) (hs:Sub hm h) (hB:mb .any l.toArray o1 o2=true)
  (hk:dsts n l=true∧bO P U n l hm o1 ρ h (zh P U n l o2 K)):iN P U n l ρ h K:=
 ⟨by grind [iq], .inr (.inr (.inl ⟨hm,o1,o2,hs,hB,hk.2⟩))⟩
def mc (P:Program) (U:TypeId→TI) (n:Nat) (l:List Oper) (ρ:Env) (h:Heap) (K:Exit→Env→Heap→Prop) (b:Bool) (e:Bool):Prop:=match b,e with
 |true,_=>Bt l.toArray∧dsts n l=true∧fu P U n l l.dropLast ρ h (mR P U l h (K .normal))
 |false,true=>pU l.toArray∧dsts n l=true∧fu P U n l l ρ h (atN K h)
 |false,false=>iN P U n l ρ h K
@[congr] theorem x9 {l} {K} {b b' e e'} (h1:b=b') (h2:e=e'):mc P U n l ρ h K b e=mc P U n l ρ h K b' e' :=by grind
@[go_sem↓] theorem ya (l) (K):mc P U n l ρ h K false true=(pU l.toArray∧dsts n l=true∧fu P U n l l ρ h (atN K h)):=rfl
@[go_sem↓] theorem Ap (l) (K):mc P U n l ρ h K false false=iN P U n l ρ h K:=rfl
def jn (l:List Oper):Bool:=iO l && fQ l.dropLast
@[go_sem] theorem Aj (o):jn [o]=(o6 o.op && o.guard.isNone):=by simp [jn,iO,fQ]
@[go_sem] theorem yM (o o') (r):jn (o::o' ::r)=(!bN o.op && jn (o' ::r)):=by
 grind [jn,sk,nJ,rG,bN]
@[go_sem↓] theorem D5 (id) (l) (K):aJ P U n (.region id l.toArray true) ρ h K=mc P U n l ρ h K (jn l) (fQ l):=by
 simp only [aJ,if_true,jn];cases hb:(iO l && fQ l.dropLast) with
 |true=>
  simp [if_true,Bool.and_eq_true,mc,Bt,iq,and_assoc]
 |false=>
  cases he:fQ l with
  |true=>
   simp only [Bool.false_eq_true,if_false,Bool.and_eq_true,mc,pU,iq,and_assoc,Bool.true_eq_false];rfl
  |false=>
   rfl
def lN (P:Program) (U:TypeId→TI) (n:Nat) (all:List Oper) (hm:Heap) (is:List Nat) (K:Env→Heap→Prop) (ρ:Env) (d:Option Tmp) (X:AV) (h:Heap):Prop:=bO P U n all hm is (put ρ d X) h K
@[go_sem↓] theorem Cy (all) (hm) (is) (K) (d) (X):lN P U n all hm is K ρ d X h=bO P U n all hm is (put ρ d X) h K:=rfl
def y8 (P:Program) (U:TypeId→TI) (n:Nat) (all:List Oper) (hm:Heap) (is:List Nat) (K:Env→Heap→Prop) (ρ:Env) (d:Option Tmp) (X:AV) (h:Heap):Prop:=Sub hm h∧bO P U n all hm is (put ρ d X) h K
@[go_sem↓] theorem Cz (all) (hm) (is) (K) (d) (X):y8 P U n all hm is K ρ d X h=(Sub hm h∧bO P U n all hm is (put ρ d X) h K):=rfl
@[go_sem↓] theorem EG (all) (hm) (K):bO P U n all hm [] ρ h K=K ρ h:=rfl
def gf (P:Program) (U:TypeId→TI) (n:Nat) (all:List Oper) (hm:Heap) (is:List Nat) (K:Env→Heap→Prop) (ρ:Env) (h:Heap) (o:Oper) (e:Bool):Prop:=match e with
 |true=>aF P U ρ h o (y8 P U n all hm is K ρ o.dst)
 |false=>pv U ρ hm o.op fun X=>bO P U n all hm is (put ρ o.dst X) h K
@[congr] theorem ze {all} {hm} {is} {K} {o} {e e'} (he:e=e'):gf P U n all hm is K ρ h o e=gf P U n all hm is K ρ h o e' :=by rw [he]
def dM (k:AV→Heap→Prop) (h:Heap) (x:AV) (_:Heap):Prop:=k x h
@[go_sem↓] theorem AO (k) (h h') (x):dM k h x h' =k x h:=rfl
@[go_sem↓] theorem AB (all) (hm) (is) (K) (op):gf P U n all hm is K ρ h ⟨d,op,t,p,a,g⟩ true=aF P U ρ h ⟨d,op,t,p,a,g⟩ (y8 P U n all hm is K ρ d):=rfl
def notNil:Op→Bool
 | .binOp _ _ _ y _=> !uy y
 |_=>true
theorem xQ {hm} {op} {k} (h1:bN op=false) (h2:notNil op=true):aF P U ρ hm ⟨d,op,t,p,a,g⟩ (dM k h)=pv U ρ hm op fun X=>k X h:=by
 cases op with
 |call c=>
  obtain ⟨cal,args,ts⟩:=c;cases cal with
  |value q=>grind [bN]
  |builtin b=>cases b<;>first|rfl|grind [bN]
  |_=>rfl
 |binOp op ty x y ty' =>
  simp only [notNil,Bool.not_eq_true'] at h2;simp only [aF,h2];rfl
 |alloc=>grind [bN]
 |box=>grind [bN]
 |store=>grind [bN]
 |makeSlice=>grind [bN]
 |makeMap=>grind [bN]
 |mapUpdate=>grind [bN]
 |_=>rfl
theorem cz {all} {hm} {is} {K} {op} (h1:bN op=false) (h2:notNil op=true):
  gf P U n all hm is K ρ h ⟨d,op,t,p,a,g⟩ false=aF P U ρ hm ⟨d,op,t,p,a,g⟩ (dM (lN P U n all hm is K ρ d) h):=by
 rw [xQ h1 h2]; rfl
section
variable (all : List Oper) (hm : Heap) (is : List Nat) (K : Env → Heap → Prop) (x y z : Operand) (ty ty' : TypeId)
@[go_sem↓] theorem AA:gf P U n all hm is K ρ h ⟨d, .move x,t,p,a,g⟩ false=aF P U ρ hm ⟨d, .move x,t,p,a,g⟩ (dM (lN P U n all hm is K ρ d) h):=cz rfl rfl
@[go_sem↓] theorem yd:gf P U n all hm is K ρ h ⟨d, .assign x,t,p,a,g⟩ false=aF P U ρ hm ⟨d, .assign x,t,p,a,g⟩ (dM (lN P U n all hm is K ρ d) h):=cz rfl rfl
@[go_sem↓] theorem u5 (f):gf P U n all hm is K ρ h ⟨d, .fieldAddr ty x f,t,p,a,g⟩ false=aF P U ρ hm ⟨d, .fieldAddr ty x f,t,p,a,g⟩ (dM (lN P U n all hm is K ρ d) h):=cz rfl rfl
@[go_sem↓] theorem u6:gf P U n all hm is K ρ h ⟨d, .indexAddr ty x y,t,p,a,g⟩ false=aF P U ρ hm ⟨d, .indexAddr ty x y,t,p,a,g⟩ (dM (lN P U n all hm is K ρ d) h):=cz rfl rfl
@[go_sem↓] theorem Az:gf P U n all hm is K ρ h ⟨d, .load ty x,t,p,a,g⟩ false=aF P U ρ hm ⟨d, .load ty x,t,p,a,g⟩ (dM (lN P U n all hm is K ρ d) h):=cz rfl rfl
@[go_sem↓] theorem zf (lo hi mx):gf P U n all hm is K ρ h ⟨d, .slice ty x lo hi mx,t,p,a,g⟩ false=aF P U ρ hm ⟨d, .slice ty x lo hi mx,t,p,a,g⟩ (dM (lN P U n all hm is K ρ d) h):=cz rfl rfl
@[go_sem↓] theorem uV (m) (ps):gf P U n all hm is K ρ h ⟨d, .buildSlice ty m ps,t,p,a,g⟩ false=aF P U ρ hm ⟨d, .buildSlice ty m ps,t,p,a,g⟩ (dM (lN P U n all hm is K ρ d) h):=cz rfl rfl
@[go_sem↓] theorem zb (op) (w):gf P U n all hm is K ρ h ⟨d, .binOp op ty x (.tmp w) ty',t,p,a,g⟩ false=aF P U ρ hm ⟨d, .binOp op ty x (.tmp w) ty',t,p,a,g⟩ (dM (lN P U n all hm is K ρ d) h):=cz rfl rfl
@[go_sem↓] theorem xd (op) (ik) (im):gf P U n all hm is K ρ h ⟨d, .binOp op ty x (.const (.int ik im)) ty',t,p,a,g⟩ false=aF P U ρ hm ⟨d, .binOp op ty x (.const (.int ik im)) ty',t,p,a,g⟩ (dM (lN P U n all hm is K ρ d) h):=cz rfl rfl
@[go_sem↓] theorem xe (op) (w):gf P U n all hm is K ρ h ⟨d, .binOp op ty x (.const (.string w)) ty',t,p,a,g⟩ false=aF P U ρ hm ⟨d, .binOp op ty x (.const (.string w)) ty',t,p,a,g⟩ (dM (lN P U n all hm is K ρ d) h):=cz rfl rfl
end
def yY (P:Program) (U:TypeId→TI) (n:Nat) (all:List Oper) (hm:Heap) (is:List Nat) (ρ:Env) (h:Heap) (K:Env→Heap→Prop) (w:Bool) (o:Oper) (s:Nat) (x:AV):Prop:=
 gB s w ρ (fun ρ=>gf P U n all hm is K ρ h o (bN o.op)) (fun ρ=>bO P U n all hm is (put ρ o.dst (.v undef)) h K) x
section
variable {all : List Oper} {hm : Heap} {is : List Nat} {K : Env → Heap → Prop} {o : Oper} {s : Nat}
end
def wJ (P:Program) (U:TypeId→TI) (n:Nat) (all:List Oper) (hm:Heap) (is:List Nat) (ρ:Env) (h:Heap) (K:Env→Heap→Prop) (o:Oper):Prop:=match o.guard with
 |none=>gf P U n all hm is K ρ h o (bN o.op)
 |some (gi,w)=>aq (gQ all gi) fun s=>aq (lk ρ s) (yY P U n all hm is ρ h K w o s)
@[go_sem↓] theorem Ai (all) (hm) (is) (K) (op):wJ P U n all hm is ρ h K ⟨d,op,t,p,a,none⟩=gf P U n all hm is K ρ h ⟨d,op,t,p,a,none⟩ (bN op):=rfl
@[go_sem↓] theorem DS (all) (hm) (i) (is) (K):bO P U n all hm (i::is) ρ h K=aq all[i]? (wJ P U n all hm is ρ h K):=by
 simp only [bO];cases all[i]? with
 |none=>rfl
 |some o=>
  simp only [dL,wJ];have e:∀ρ',rO P U hm o ρ' h (fun X h' =>bO P U n all hm is (put ρ' o.dst X) h' K)=gf P U n all hm is K ρ' h o (bN o.op):=fun ρ' =>by
   unfold rO gf vcE;cases bN o.op<;>rfl
  cases hg:o.guard with
  |none=>simp only [fM]; exact e ρ
  |some gg=>
   rw [j9];simp only [e];rfl
@[congr] theorem Ar {f f'} {a a'} {hm} {k} (h0:f=f') (h1:a=a'):FnQ P f a hm k=FnQ P f' a' hm k:=by grind
@[go_sem↓] theorem EP (all) (hm) (l) (K):fY P U n all hm (.seq l) ρ h K=bO P U n all hm l ρ h K:=rfl
@[go_sem↓] theorem D9 (all) (hm) (l is) (t') (K):fY P U n all hm (.news l is t') ρ h K=bO P U n all hm l ρ h fun ρ h=>Sub hm h∧eL U all is∧iQ P U all is ρ h fun ρ h=>fY P U n all hm t' ρ h K:=rfl
def yK (U:TypeId→TI) (o:Oper):Prop:=nv U o.op
@[go_sem↓] theorem Cp (ty):yK U ⟨d, .alloc ty,t,p,a,g⟩=(isUnit (U ty).k=true∨(U ty).sz≠0∧fit (U ty).zero (U ty).sz):=rfl
@[go_sem↓] theorem Bh (all):eL U all []=True:=rfl
@[go_sem↓] theorem Ag (all) (i) (is):eL U all (i::is)=(aq all[i]? (yK U)∧eL U all is):=by
 simp only [eL];cases all[i]? <;>rfl
def NStep (P:Program) (U:TypeId→TI) (all:List Oper) (is:List Nat) (ρ:Env) (h:Heap) (K:Env→Heap→Prop) (o:Oper):Prop:=aF P U ρ h o fun X h' =>iQ P U all is (put ρ o.dst X) h' K
@[go_sem↓] theorem Bu (all) (is) (K) (op):NStep P U all is ρ h K ⟨d,op,t,p,a,g⟩=aF P U ρ h ⟨d,op,t,p,a,g⟩ fun X h' =>iQ P U all is (put ρ d X) h' K:=rfl
@[go_sem↓] theorem Db (all) (K):iQ P U all [] ρ h K=K ρ h:=rfl
@[go_sem↓] theorem Cf (all) (i) (is) (K):iQ P U all (i::is) ρ h K=aq all[i]? (NStep P U all is ρ h K):=by
 simp only [iQ];cases all[i]? <;>rfl
@[go_sem↓] theorem Ez (all) (K):fu P U n all [] ρ h K=K ρ:=rfl
@[go_sem↓] theorem DJ (all) (op) (os) (K):
  fu P U n all (⟨d,op,t,p,a,none⟩::os) ρ h K=(bS n d=true∧dP P U ρ h ⟨d,op,t,p,a,none⟩ (KDr P U n all os h K ρ d)):=rfl
def oV (P:Program) (U:TypeId→TI) (n:Nat) (all os:List Oper) (ρ:Env) (h:Heap) (K:Env→Prop) (w:Bool) (d:Option Tmp) (op:Op) (t:TypeId) (p:String) (a:Array Edge) (g:Option (Nat×Bool)) (s:Nat) (x:AV):Prop:=
 gB s w ρ (fun ρ=>dP P U ρ h ⟨d,op,t,p,a,g⟩ (KDr P U n all os h K ρ d)) (fun ρ=>fu P U n all os (put ρ d (.v undef)) h K) x
section
variable {all os : List Oper} {K : Env → Prop} {op : Op} {s : Nat}
@[go_sem↓] theorem Ax:oV P U n all os ρ h K true d op t p a g s (.v (.bool true))=dP P U ((s, .v (.bool true))::ρ) h ⟨d,op,t,p,a,g⟩ (KDr P U n all os h K ((s, .v (.bool true))::ρ) d):=by simp [oV,gB,Br]
end
@[go_sem↓] theorem CP (all) (op) (gi) (w) (os) (K):
  fu P U n all (⟨d,op,t,p,a,some (gi,w)⟩::os) ρ h K=(bS n d=true∧aq (gQ all gi) fun s=>aq (lk ρ s) (oV P U n all os ρ h K w d op t p a (some (gi,w)) s)):=by
 have:=j9 (ρ:=ρ) all gi w (fun ρ=>dP P U ρ h ⟨d,op,t,p,a,some (gi,w)⟩ (KDr P U n all os h K ρ d)) (fun ρ=>fu P U n all os (put ρ d (.v undef)) h K)
 rw [show (fun s=>aq (lk ρ s) (oV P U n all os ρ h K w d op t p a (some (gi,w)) s))=fun d_1=>aq (lk ρ d_1) fun x=>gB d_1 w ρ (fun ρ=>dP P U ρ h ⟨d,op,t,p,a,some (gi,w)⟩ (KDr P U n all os h K ρ d)) (fun ρ=>fu P U n all os (put ρ d (.v undef)) h K) x from rfl,←this]
 rfl
def FnD (P:Program) (f:FuncId) (args:List AV) (h:Heap) (k:AV→Prop):Prop:=∃X,aj P f args h (fun x h' =>x=X∧h' =h)∧k X
@[congr] theorem Aq {f f'} {a a'} {h h'} (h0:f=f') (h1:a=a') (h2:h=h'):FnD P f a h k=FnD P f' a' h' k:=by grind
@[go_sem↓] theorem CK (q) (args) (ts):dP P U ρ h ⟨d, .call ⟨.value q,args.toArray,ts⟩,t,p,a,g⟩ k=aq (ev ρ q) fun y=>fnA y fun f cap=>aq (evs ρ args) fun ys=>FnD P f (ys++cap) h k:=by
 simp only [dP,aV,iD]
 congr 1
def opD (P:Program) (U:TypeId→TI) (ρ:Env) (h:Heap) (d:Option Tmp) (op:Op) (t:TypeId) (p:String) (a:Array Edge) (g:Option (Nat×Bool)) (k:AV→Prop):Prop:=aF P U ρ h ⟨d,op,t,p,a,g⟩ (rV k)
@[go_sem↓] theorem D2 (op):opD P U ρ h d op t p a g k=aF P U ρ h ⟨d,op,t,p,a,g⟩ (rV k):=rfl
section
@[go_sem↓] theorem CM (x):dP P U ρ h ⟨d, .move x,t,p,a,g⟩ k=opD P U ρ h d (.move x) t p a g k:=rfl
@[go_sem↓] theorem AR (x):dP P U ρ h ⟨d, .assign x,t,p,a,g⟩ k=opD P U ρ h d (.assign x) t p a g k:=rfl
@[go_sem↓] theorem CN (x y z):dP P U ρ h ⟨d, .pick x y z,t,p,a,g⟩ k=opD P U ρ h d (.pick x y z) t p a g k:=rfl
theorem o3 (op) (ty ty') (x y) (hy:uy y=false):dP P U ρ h ⟨d, .binOp op ty x y ty',t,p,a,g⟩ k=opD P U ρ h d (.binOp op ty x y ty') t p a g k:=by
 simp only [dP,opD,aF,hy];rfl
@[go_sem↓] theorem BK (op) (ty ty') (x) (y):dP P U ρ h ⟨d, .binOp op ty x (.tmp y) ty',t,p,a,g⟩ k=opD P U ρ h d (.binOp op ty x (.tmp y) ty') t p a g k:=o3 _ _ _ _ _ rfl
@[go_sem↓] theorem zz (op) (ty ty') (x) (ik) (im):dP P U ρ h ⟨d, .binOp op ty x (.const (.int ik im)) ty',t,p,a,g⟩ k=opD P U ρ h d (.binOp op ty x (.const (.int ik im)) ty') t p a g k:=o3 _ _ _ _ _ rfl
@[go_sem↓] theorem zB (op) (ty ty') (x) (b):dP P U ρ h ⟨d, .binOp op ty x (.const (.string b)) ty',t,p,a,g⟩ k=opD P U ρ h d (.binOp op ty x (.const (.string b)) ty') t p a g k:=o3 _ _ _ _ _ rfl
@[go_sem↓] theorem CO (op) (ty) (x):dP P U ρ h ⟨d, .unOp op ty x,t,p,a,g⟩ k=opD P U ρ h d (.unOp op ty x) t p a g k:=rfl
@[go_sem↓] theorem zC (s e) (x):dP P U ρ h ⟨d, .convert s e x,t,p,a,g⟩ k=opD P U ρ h d (.convert s e x) t p a g k:=rfl
@[go_sem↓] theorem BL (ty) (x i):dP P U ρ h ⟨d, .index ty x i,t,p,a,g⟩ k=opD P U ρ h d (.index ty x i) t p a g k:=rfl
@[go_sem↓] theorem xq (ty) (x) (f):dP P U ρ h ⟨d, .fieldAddr ty x f,t,p,a,g⟩ k=opD P U ρ h d (.fieldAddr ty x f) t p a g k:=rfl
@[go_sem↓] theorem xu (ty) (x i):dP P U ρ h ⟨d, .indexAddr ty x i,t,p,a,g⟩ k=opD P U ρ h d (.indexAddr ty x i) t p a g k:=rfl
@[go_sem↓] theorem CL (ty) (x):dP P U ρ h ⟨d, .load ty x,t,p,a,g⟩ k=opD P U ρ h d (.load ty x) t p a g k:=rfl
@[go_sem↓] theorem wY (ty) (len) (parts):dP P U ρ h ⟨d, .buildSlice ty len parts,t,p,a,g⟩ k=opD P U ρ h d (.buildSlice ty len parts) t p a g k:=rfl
@[go_sem↓] theorem DH (x) (ty):dP P U ρ h ⟨d, .call ⟨.builtin .len, #[x], #[ty]⟩,t,p,a,g⟩ k=opD P U ρ h d (.call ⟨.builtin .len, #[x], #[ty]⟩) t p a g k:=rfl
end
@[go_sem↓] theorem xV (e) (id off len cap sz) (f):eD U e h (.ob id off len cap sz) f=(sz=(U e).sz∧aq (h id) fun b=>kF b fun cs _=>∃ys:List AV,ys.length=len∧off+len*sz≤cs.length∧bx ys=(cs.drop off).take (len*sz)∧f ys):=by
 simp only [eD]
 congr 1
 cases h id with
 |none=>rfl
 |some b=>cases b<;>rfl
end
section
variable {P : Program} {U : TypeId → TI} {n : Nat} {ρ : Env} {h h' : Heap} {tb : TypeId} {y : AV} {l : List UInt8}
@[go_sem] theorem BC (c):bX c= .v (.int .u8 c.toNat):=rfl
@[go_sem] theorem kU (l:List UInt8):Sized 1 (l.map bX)=True:=by
 apply eq_true;intro z hz;obtain ⟨c,_,rfl⟩:=List.mem_map.1 hz;rfl
@[go_sem] theorem AD (m):Sized m []=True:=by simp [Sized]
theorem Sub.ah {id} {k} (hid:h id=Option.none):Sub h (Ab.upd h id k):=(Sub.refl h).new hid k
def Bytes (tb:TypeId) (h:Heap) (y:AV) (l:List UInt8):Prop:=
 (∃q,y= .sl (l.map bX) q)∨∃id off cs,y= .oa id off l.length∧h id=some (.obj cs tb)∧off+l.length≤cs.length∧(cs.drop off).take l.length=l.map bX
end
section
variable {P : Program} {U : TypeId → TI} {n : Nat} {ρ : Env} {h h' h2 : Heap} {e tb : TypeId} {y v : AV} {xs zs : List AV} {l : List UInt8} {Q : AV → Heap → Prop}
def dR (h h' :Heap):Prop:=∀j cs t,h j=some (.obj cs t)→h' j=some (.obj cs t)
theorem dR.refl (h):dR h h:=fun _ _ _ e=>e
theorem Sub.xF (hs:Sub h h'):dR h h' :=fun _ _ _ e=>hs _ _ e
def Acc (U:TypeId→TI) (e:TypeId) (h h' :Heap) (y:AV) (xs:List AV):Prop:=
 Sub h h'∧(y= .sl xs .full∨∃id,h id=none∧y= .sl xs (.own id)∧h' id=some (.spare xs.length (U e).sz))
theorem Acc.full (hs:Sub h h'):Acc U e h h' (.sl xs .full) xs:=⟨hs, .inl rfl⟩
theorem Acc.sub (ha:Acc U e h h' y xs) (hs:Sub h' h2):Acc U e h h2 y xs:=by
 obtain ⟨h1,rfl|⟨id,i1,rfl,i2⟩⟩:=ha
 ·exact ⟨h1.trans hs, .inl rfl⟩
 ·exact ⟨h1.trans hs, .inr ⟨id,i1,rfl,hs _ _ i2⟩⟩
theorem Acc.row (ha:Acc U e h h' y xs):∃q,y= .sl xs q:=by
 obtain ⟨h1,rfl|⟨id,i1,rfl,i2⟩⟩:=ha<;>exact ⟨_,rfl⟩
theorem Acc.app (ha:Acc U e h h' y xs) (hz:(U e).sz≠0) (hb:(U e).bytes≠0) (hsrc:∀k:List AV→Prop,k zs→eD U e h' v k) (s1:Sized (U e).sz xs) (s2:Sized (U e).sz zs)
  (hlen:(xs.length+zs.length)*(U e).bytes≤140737488355328) (hk:∀y' h'',Acc U e h h'' y' (xs++zs)→dR h' h''→Q y' h''):apK U h' y v Q (.slice e):=by
 have keep:∀id,(h' id=none∨∃m,h' id=some (.spare m (U e).sz))→∀k,dR h' (upd h' id k):=fun id hid k j cs t hj=>by
  grind [af]
 obtain ⟨h1,rfl|⟨id,i1,rfl,i2⟩⟩:=ha
 ·refine (mh ..).mpr ⟨hz,hb,hsrc _ ⟨s1,s2,hlen,fun hn=> ?_,fun hn=> .own fun id hid=> ?_⟩⟩
  ·subst hn
   have:=hk (.sl xs .full) h' (by grind [full]) (.refl _)
   exact this
  ·exact hk _ _ ⟨h1.new hid _, .inr ⟨id,h1.none hid,rfl,by rw [ag,Gu]⟩⟩ (by grind)
 ·refine (xk ..).mpr ⟨hz,hb,hsrc _ ⟨s1,s2,hlen,i2, ?_⟩⟩
  have hs2:Sub h (upd h' id (some (.spare (xs.length+zs.length) (U e).sz))):=by
   intro j k hj;rw [af _ _ fun e=> ?_]
   ·exact h1 _ _ hj
   grind
  exact hk _ _ ⟨hs2, .inr ⟨id,i1,rfl,by rw [ag,Gu]⟩⟩ (by grind)
def Rows (tb:TypeId) (h:Heap) (ys:List AV) (ls:List (List UInt8)):Prop:=ys.length=ls.length∧∀i (h1:i<ys.length) (h2:i<ls.length),Bytes tb h ys[i] ls[i]
end
section
variable {P : Program}
def mZ:Heap:=fun _=>none
def cx0 (w:World):Cx:=⟨w,fun _=>⟨0,0,none⟩,mZ⟩
theorem Aa (w) (b o):¬owned (cx0 w) b o:=fun ⟨id,k,h,_⟩=>by cases h
end
section
variable {P : Program} {f : FuncId} {args : List AV} {h : Heap} {Q : AV → Heap → Prop} {X : AV}
theorem aj.pthen (hf:aj P f args h fun r h' =>r=X∧h' =h) (k:Q X h):aj P f args h Q:=
 hf.mono fun r h' ⟨e1,e2⟩=>by subst e1; subst e2; exact k
def KV (K:AV→Prop) (x:AV):Prop:=K x
@[congr] theorem Bs {K} {x x'} (e:x=x'):KV K x=KV K x' :=by rw [e]
@[go_sem] theorem Ee (K) (x):KV K x=K x:=rfl
section
variable {U : TypeId → TI} {ρ : Env} {K : AV → Prop}
@[go_sem↓high] theorem Bi (xs) (q) (hi) (e):fm U ρ (.sl xs q) none (some hi) none K (.slice e)=((U e).sz≠0∧aq (ev ρ hi) fun y=>ur y fun b=>0≤b∧b≤xs.length∧KV K (.sl (xs.take b.toNat) (oZ xs q false true))):=by
 rw [lH,fT]; rfl
@[go_sem↓high] theorem rj (xs) (q) (lo) (e):fm U ρ (.sl xs q) (some lo) none none K (.slice e)=((U e).sz≠0∧Sized (U e).sz xs∧aq (ev ρ lo) fun y=>ur y fun a=>0≤a∧a≤xs.length∧KV K (.sl (xs.drop a.toNat) (oZ xs q true false))):=by
 simp [rm,fT,kH,Option.isSome_none,xp,KV]
end
attribute [go_sem] Int.toNat_natCast Int.toNat_zero
theorem iW {α β:Type} {f:β→α} {p:β→Prop}:∀(xs:List α),(∀x∈xs,∃b,x=f b∧p b)→∃bs:List β,xs=bs.map f∧∀b∈bs,p b
 | [],_=>by simp
 |x::xs,h=>by
  obtain ⟨b,rfl,hb⟩:=h x (by simp)
  obtain ⟨bs,rfl,hbs⟩:=iW xs fun y hy=>h y (by grind)
  exact ⟨b::bs,rfl,fun c hc=>by
   rcases List.mem_cons.1 hc with h1|h1
   ·rw [h1]; exact hb
   ·exact hbs c h1⟩
def iA (n:Int):AV:= .v (.int .i64 n)
theorem aY (n) (h: -9223372036854775808≤n∧n≤9223372036854775807):IntKind.i64.wrap n=n:=by grind [IntWalk.i64_in]
theorem Gw (n:Nat) (h:-9223372036854775808≤(n:Int)+1∧(n:Int)+1≤9223372036854775807):IntKind.i64.wrap ((n:Int)+1)=((n+1:Nat):Int):=by rw [aY _ h]; omega
theorem Gx {a b:Nat} (h:decide ((a:Int)<(b:Int))=true):a<b:=Int.ofNat_lt.1 (_root_.of_decide_eq_true h)
end
section
variable {P : Program} {U : TypeId → TI}
inductive Dat (U:TypeId→TI):TypeId→AV→Prop
 |bool {t:TypeId} (b:Bool) (h:(U t).k= .bool):Dat U t (.v (.bool b))
 |int {t:TypeId} {k:IntKind} (n:Int) (h:(U t).k= .int k) (hw:(Lit.int k n).wf=true):Dat U t (.v (.int k n))
 |str {t:TypeId} (l:List UInt8) (h:(U t).k= .str) (hl:l.length≤maxLen):Dat U t (.s l)
 |slice {t e:TypeId} (xs:List AV) (h:(U t).k= .slice e) (hx:∀x∈xs,Dat U e x) (hl:xs.length≤maxLen):Dat U t (.sl xs .no)
 |strct {t:TypeId} {fs:List (Nat×TypeId)} (ys:List AV) (h:(U t).k= .strct fs) (hn:ys.length=fs.length) (hx:∀i (h1:i<fs.length) (h2:i<ys.length),Dat U fs[i].2 ys[i]):Dat U t (.agg (ys.map AV.cells).flatten)
theorem Dat.mu {t} {x} (h:Dat U t x) (hk:(U t).k= .bool):∃b,x= .v (.bool b):=by
 cases h with
 |bool b h=>simp
 |_=>simp_all
theorem Dat.xE {t} {x} {k} (h:Dat U t x) (hk:(U t).k= .int k):∃n,x= .v (.int k n)∧(Lit.int k n).wf=true:=by
 cases h with
 |int n h hw=>grind
 |_=>simp_all
theorem Dat.jR {t} {x} (h:Dat U t x) (hk:(U t).k= .str):∃l,x= .s l∧l.length≤maxLen:=by
 cases h with
 |str l h hl=>grind
 |_=>simp_all
theorem Dat.uG {t e} {x} (h:Dat U t x) (hk:(U t).k= .slice e):∃xs,x= .sl xs .no∧xs.length≤maxLen∧∀y∈xs,Dat U e y:=by
 cases h with
 |slice xs h hx hl=>grind
 |_=>simp_all
def fZ (U:TypeId→TI):List TypeId→List AV→Prop
 | [],ys=>ys= []
 |t::ts,ys=>∃y r,ys=y::r∧Dat U t y∧fZ U ts r
theorem om:∀(fs:List (Nat×TypeId)) (ys:List AV),ys.length=fs.length→(∀i (h1:i<fs.length) (h2:i<ys.length),Dat U fs[i].2 ys[i])→fZ U (fs.map (·.2)) ys
 | [],ys,h,_=>List.length_eq_zero_iff.1 h
 |f::fs,[],h,_=>by cases h
 |f::fs,y::ys,h,hx=>⟨y,ys,rfl,hx 0 (by simp) (by simp),om fs ys (by grind) fun i h1 h2=>hx (i+1) (by grind) (by grind)⟩
theorem Dat.eR {t} {x} {fs} (h:Dat U t x) (hk:(U t).k= .strct fs):∃ys,x= .agg (ys.map AV.cells).flatten∧fZ U (fs.map (·.2)) ys:=by
 cases h with
 |strct ys h hn hx=>rw [hk] at h; cases h; exact ⟨ys,rfl,om _ _ hn hx⟩
 |_=>simp_all
theorem Ed {n} (h:(Lit.int .i64 n).wf=true): -9223372036854775808≤n∧n≤9223372036854775807:=by
 grind [Lit.wf,IntKind.min,IntKind.max,IntKind.signed,IntKind.bits]
theorem Dat.i64 {t} {x} (h:Dat U t x) (hk:(U t).k= .int .i64):∃n,x=iA n∧ -9223372036854775808≤n∧n≤9223372036854775807:=by
 obtain ⟨n,rfl,hw⟩:=h.xE hk;exact ⟨n,rfl,Ed hw⟩
theorem Dat.list {t e} {x} {β:Type} {f:β→AV} {p:β→Prop} (h:Dat U t x) (hk:(U t).k= .slice e) (he:∀y,Dat U e y→∃b,y=f b∧p b):∃bs:List β,x= .sl (bs.map f) .no∧bs.length≤maxLen∧∀b∈bs,p b:=by
 obtain ⟨xs,rfl,hl,hx⟩:=h.uG hk;obtain ⟨bs,rfl,hb⟩:=iW xs fun y hy=>he y (hx y hy)
 grind
def RL (c:Cx):List AV→List Value→Prop
 | [],vs=>vs= []
 |x::xs,[]=>False
 |x::xs,v::vs=>(Rep c x v∧v.oneCell' =true)∧RL c xs vs
theorem RL.len {c}:∀ {xs:List AV} {vs:List Value},RL c xs vs→xs.length=vs.length
 | [],vs,h=>by rw [h]; rfl
 |x::xs,[],h=>h.elim
 |x::xs,v::vs,h=>by simp [RL.len h.2]
theorem RL.get {c}:∀ {xs:List AV} {vs:List Value},RL c xs vs→∀i (h:i<xs.length),Rep c xs[i] (vs.getD i undef)∧(vs.getD i undef).oneCell' =true
 | [],vs,h,i,hi=>by grind
 |x::xs,[],h,i,hi=>h.elim
 |x::xs,v::vs,h,0,hi=>h.1
 |x::xs,v::vs,h,i+1,hi=>by simpa using RL.get h.2 i (by grind)
theorem RL.append {c}:∀ {xs ys:List AV} {vs us:List Value},RL c xs vs→RL c ys us→RL c (xs++ys) (vs++us)
 | [],ys,vs,us,h,k=>by rw [h]; exact k
 |x::xs,ys,[],us,h,k=>h.elim
 |x::xs,ys,v::vs,us,h,k=>⟨h.1,RL.append h.2 k⟩
theorem RL.one {c} {x} {v} (h:Rep c x v) (h1:v.oneCell' =true):RL c [x] [v]:=⟨⟨h,h1⟩,rfl⟩
def rJ (U:TypeId→TI) (n:Nat):List (Nat×TypeId)→Nat→Bool
 | [],o=>o==n
 |f::fs,o=>f.1==o && rJ U n fs (o+(U f.2).sz)
def sH (U:TypeId→TI) (L:List TypeId):Bool:=L.all fun t=>(U t).sz !=0 && match (U t).k with
 | .bool| .int _| .str=>(U t).sz==1
 | .slice e=>(U t).sz==1 && L.contains e
 | .strct fs=>fs.all (fun f=>L.contains f.2) && rJ U (U t).sz fs 0
 |_=>false
theorem iU (hU:∀t,ax P U t) {t} (hz:(U t).sz≠0):P.cellsOf t=(U t).sz:=by
 obtain ⟨i,h1,h2,_⟩:=(hU t).info hz
 grind [Program.cellsOf]
variable {H : Type} {enc : TypeId × Value → H} {w : World}
theorem wg (hU:∀t,ax P U t) {L:List TypeId} {m:Nat} {sp:Nat→Bool} {held:Bool} (n:Nat) (cs:List Value) (hn:cs.length=n)
  (ih:∀(t:TypeId) (cs:List Value) r,t∈L→DataW.trod enc P w 0 sp held m t cs=some r→∃x,Dat U t x∧RL (cx0 w) x.cells cs) (hz:∀t∈L,(U t).sz≠0):
  ∀(fs:List (Nat×TypeId)) (gs:List Field) (o:Nat),gs.map (fun f=>(f.offset,f.type))=fs→(∀f∈fs,f.2∈L)→rJ U n fs o=true→
   (∀f∈gs,∃r,DataW.trod enc P w 0 sp held m f.type ((cs.drop f.offset).take (P.cellsOf f.type))=some r)→
   ∃ys:List AV,ys.length=fs.length∧(∀i (h1:i<fs.length) (h2:i<ys.length),Dat U fs[i].2 ys[i])∧RL (cx0 w) (ys.map AV.cells).flatten (cs.drop o):=by
 intro fs
 induction fs with
 |nil=>
  intro gs o hg hL ht hr;refine ⟨[],rfl,fun i h1=>(by simp), ?_⟩
  have:o=n:=by grind [rJ]
  show cs.drop o= []
  grind
 |cons f fs ihf=>
  intro gs o hg hL ht hr;cases gs with
  |nil=>grind
  |cons g gs=>
   simp only [List.map_cons,List.cons.injEq] at hg;obtain ⟨hg1,hg2⟩:=hg;simp only [rJ,Bool.and_eq_true,beq_iff_eq] at ht;obtain ⟨ht1,ht2⟩:=ht;have hfL:=hL f (by simp)
   obtain ⟨ys,y1,y2,y3⟩:=ihf gs (o+(U f.2).sz) hg2 (by grind) ht2 (by grind)
   obtain ⟨r,hr0⟩:=hr g (by simp)
   have e1:g.type=f.2:=by grind
   have e2:g.offset=o:=by grind
   rw [e1,e2,iU hU (hz _ hfL)] at hr0;obtain ⟨x,x1,x2⟩:=ih _ _ _ hfL hr0;refine ⟨x::ys,by grind,fun i h1 h2=> ?_, ?_⟩
   ·grind
   ·have:cs.drop o=(cs.drop o).take (U f.2).sz++cs.drop (o+(U f.2).sz):=by
     rw [←List.drop_drop,List.take_append_drop]
    rw [this];exact x2.append y3
theorem qa (hU:∀t,ax P U t) (L:List TypeId) (hL:sH U L=true) {sp:Nat→Bool} {held:Bool} (hsp:∀b,sp b=true):
  ∀(fuel:Nat) (t:TypeId) (cs:List Value) (r:DataW H×List MemPlace),t∈L→DataW.trod enc P w 0 sp held fuel t cs=some r→∃x,Dat U t x∧RL (cx0 w) x.cells cs:=by
 have hall:∀t∈L,(U t).sz≠0:=fun t ht=>by
  have:=List.all_eq_true.1 hL t ht;simp only [Bool.and_eq_true,bne_iff_ne] at this;exact this.1
 intro fuel
 induction fuel with
 |zero=>intro t cs r _ h; simp [DataW.trod] at h
 |succ m ih=>
  intro t cs r ht h;have hp:=List.all_eq_true.1 hL t ht;simp only [Bool.and_eq_true,bne_iff_ne] at hp;obtain ⟨hz,hp⟩:=hp;have hd:=(hU t).desc;unfold DataW.trod at h;cases hk:(U t).k with
  |bool=>
   rw [hk] at hd;simp only at hd;rw [hd] at h;split at h<;>simp_all
   rename_i b
   exact ⟨_, .bool b hk, .one (.v _) rfl⟩
  |int k=>
   rw [hk] at hd;simp only at hd;rw [hd] at h;split at h<;>simp_all
   obtain ⟨⟨rfl,hw⟩,_⟩:=h;exact ⟨_, .int _ hk hw, .one (.v _) rfl⟩
  |str=>
   rw [hk] at hd;simp only at hd;rw [hd] at h;split at h<;>simp_all
   rename_i s
   refine ⟨_, .str s.data.toList hk (by simpa using h.1), .one ?_ rfl⟩
   have:=Rep.s (c:=cx0 w) s.data.toList (by have:=h.1; unfold maxLen at this; simp only [lim]; simp; omega)
   simpa using this
  |slice e=>
   rw [hk] at hd hp;simp only at hd;simp only [Bool.and_eq_true] at hp;have he:e∈L:=by simpa using hp.2
   have hez:=hall e he;rw [hd] at h;split at h<;>try (simp_all; done)
   ·rename_i e' heq
    refine ⟨_, .slice [] hk (fun x hx=>by cases hx) (by simp), .one ?_ rfl⟩
    exact .sl [] .no none 0 0 (fun _ _=>undef) (Nat.le_refl _) (by decide) (fun _=>rfl) (fun q h _=>by cases h) (fun i h=>by cases h) (fun q h=>by cases h) (fun i h=>by cases h) (fun i j h=>by cases h) trivial
   ·rename_i e' a len cap heq
    obtain rfl:e=e' :=by simpa using heq
    split at h
    ·rename_i hc
     obtain ⟨hc1,hc2,hc3⟩:=hc;simp only [hsp,if_true] at h;obtain ⟨els,hels,h⟩:=Option.bind_eq_some_iff.1 h;obtain ⟨⟨rst,hrst,_⟩⟩:Nonempty {rst // (List.range (cap - len)).mapM (fun j=>((w.cells? 0 (a.add ((len+j)*P.cellsOf e)) (P.cellsOf e)).bind (DataW.trod enc P w 0 sp held m e)))=some rst∧True}:=by
      cases hq:(List.range (cap - len)).mapM (fun j=>((w.cells? 0 (a.add ((len+j)*P.cellsOf e)) (P.cellsOf e)).bind (DataW.trod enc P w 0 sp held m e))) with
      |none=>rw [hq] at h; simp at h
      |some rst=>exact ⟨⟨rst,rfl,trivial⟩⟩
     rw [iU hU hez] at hels hrst;have cell:∀j,j<(U e).sz→∀(b:Addr) vs,w.cells? 0 b (U e).sz=some vs→w.cell? (b.add j)=vs[j]?∧vs.length=(U e).sz:=fun j hj b vs hb=>by
      simp only [World.cells?,Nat.zero_le,if_true] at hb;have:=mapM_some_get hb j j (by simp [hj])
      exact ⟨this,by simpa using mapM_some_length hb⟩
     have el:∀i,i<len→∃vs x,w.cells? 0 (a.add (i*(U e).sz)) (U e).sz=some vs∧Dat U e x∧RL (cx0 w) x.cells vs:=fun i hi=>by
      have:=mapM_some_get hels i i (by simp [hi])
      have hi2:i<els.length:=by have:=mapM_some_length hels; simp at this; omega
      rw [List.getElem?_eq_getElem hi2] at this;obtain ⟨vs,v1,v2⟩:=Option.bind_eq_some_iff.1 this;obtain ⟨x,x1,x2⟩:=ih _ _ _ he v2;exact ⟨vs,x,v1,x1,x2⟩
     have hspot:0<cap→a.spot=none∧a.block<w.heap.size:=fun hcap=>by
      have:∃b vs,w.cells? 0 b (U e).sz=some vs∧b.spot=a.spot∧b.block=a.block:=by
       by_cases hl:0<len
       ·obtain ⟨vs,x,v1,_⟩:=el 0 hl
        have a0:a.add (0*(U e).sz)=a:=by simp [Addr.add]
        exact ⟨_,vs,v1,by rw [a0],by rw [a0]⟩
       ·have:=mapM_some_get hrst 0 0 (by rw [List.getElem?_eq_getElem (by simp; omega)]; simp)
        have hi2:0<rst.length:=by have:=mapM_some_length hrst; simp at this; omega
        rw [List.getElem?_eq_getElem hi2] at this;obtain ⟨vs,v1,v2⟩:=Option.bind_eq_some_iff.1 this;have a0:a.add ((len+0)*(U e).sz)=a:=by
         obtain rfl:len=0:=by omega
         simp [Addr.add]
        exact ⟨_,vs,v1,by rw [a0],by rw [a0]⟩
      obtain ⟨b,vs,b1,b2,b3⟩:=this;obtain ⟨c1,c2⟩:=cell 0 (by omega) b vs b1
      rw [List.getElem?_eq_getElem (by omega)] at c1
      rw [←b2,←b3];unfold World.cell? at c1;split at c1
      ·rename_i hh
       split at c1
       ·cases c1
       ·rename_i hs
        refine ⟨?_, ?_⟩
        ·have:(b.add 0).spot=b.spot:=by simp [Addr.add]
         rw [this] at hs;cases hb:b.spot with
         |none=>rfl
         |some z=>rw [hb] at hs; simp at hs
        ·exact (Array.getElem?_eq_some_iff.1 hh).1
      ·cases c1
     have:∀n,n≤len→∃xs:List AV,xs.length=n∧∀i (hi:i<xs.length),Dat U e xs[i]∧∃vs,w.cells? 0 (a.add (i*(U e).sz)) (U e).sz=some vs∧RL (cx0 w) xs[i].cells vs:=by
      intro n
      induction n with
      |zero=>exact fun _=>⟨[],rfl,fun i hi=>by cases hi⟩
      |succ n ihn=>
       intro hn;obtain ⟨xs,e1,e2⟩:=ihn (by omega)
       obtain ⟨vs,x,v1,v2,v3⟩:=el n (by omega)
       refine ⟨xs++ [x],by simp [e1],fun i hi=> ?_⟩
       by_cases hi' :i<xs.length
       ·rw [List.getElem_append_left hi']
        exact e2 i hi'
       ·have:i=n:=by simp at hi; omega
        subst this;rw [List.getElem_append_right (by omega)]
        simp only [e1,Nat.sub_self,List.getElem_singleton];exact ⟨v2,vs,v1,v3⟩
     obtain ⟨xs,e1,e2⟩:=this len (Nat.le_refl _);subst e1;refine ⟨.sl xs .no, .slice xs hk (fun x hx=> ?_) (by omega), .one ?_ rfl⟩
     ·obtain ⟨i,hi,rfl⟩:=List.mem_iff_getElem.1 hx
      exact (e2 i hi).1
     ·refine .sl xs .no (some a) cap (U e).sz (fun i j=>((w.cells? 0 (a.add (i*(U e).sz)) (U e).sz).getD []).getD j undef) hc2 (by unfold maxLen at hc3; simp only [lim]; omega) (fun hh=>by cases hh) (fun q hq hcap=>by cases hq; exact hspot hcap)
       (fun i hi=> ?_) (fun q hq i j hi hj=> ?_) (fun i hi j hj=> ?_) (fun i j hi hj=> ?_) trivial
      ·obtain ⟨_,vs,v1,v2⟩:=e2 i hi
       rw [v2.len]; exact (cell 0 (by omega) _ _ v1).2
      ·cases hq
       obtain ⟨_,vs,v1,v2⟩:=e2 i hi;refine ⟨?_,Aa w _ _⟩;obtain ⟨c1,c2⟩:=cell j hj _ _ v1;rw [v1];obtain ⟨hs1,_⟩:=hspot (by omega)
       obtain ⟨ab,ao,az⟩:=a;simp only at hs1; subst hs1
       rw [aT,aT] at c1;simp only [Option.getD_some];have hj2:j<vs.length:=by omega
       rw [show vs.getD j undef=vs[j] by simp [hj2]]
       rw [List.getElem?_eq_getElem hj2,Nat.add_assoc] at c1;exact c1
      ·obtain ⟨_,vs,v1,v2⟩:=e2 i hi
       rw [v1];exact (v2.get j hj).1
      ·obtain ⟨_,vs,v1,v2⟩:=e2 i hi
       rw [v1];have:=(cell 0 (by omega) _ _ v1).2
       exact (v2.get j (by rw [v2.len]; omega)).2
    ·cases h
  |strct fs=>
   rw [hk] at hd hp;simp only at hd;simp only [Bool.and_eq_true] at hp;obtain ⟨gs,hd,hg,_⟩:=hd;rw [hd] at h;have hq:cs.length=P.cellsOf t∧∃xs,(gs.toList.mapM fun f=>DataW.trod enc P w 0 sp held m f.type ((cs.drop f.offset).take (P.cellsOf f.type)))=some xs:=by
    split at h<;>try (simp_all; done)
    rename_i fs' heq
    obtain rfl:gs=fs' :=by simpa using heq
    split at h
    ·rename_i hl
     obtain ⟨xs,h1,_⟩:=Option.map_eq_some_iff.1 h;exact ⟨hl,xs,h1⟩
    ·cases h
   obtain ⟨hl,xs,hxs⟩:=hq;rw [iU hU hz] at hl;obtain ⟨ys,y1,y2,y3⟩:=wg hU (U t).sz cs hl ih hall fs gs.toList 0 hg (fun f hf=>by have:=List.all_eq_true.1 hp.1 f hf; simpa using this) hp.2 (fun f hf=>by
    obtain ⟨i,hi,rfl⟩:=List.mem_iff_getElem.1 hf;have hi2:i<xs.length:=by have:=mapM_some_length hxs; omega
    have:=mapM_some_get hxs i _ (List.getElem?_eq_getElem hi);rw [List.getElem?_eq_getElem hi2] at this;exact ⟨_,this⟩)
   exact ⟨_, .strct ys hk y1 y2,y3⟩
  |_=>rw [hk] at hp; simp at hp
theorem iY (hU:∀t,ax P U t) (L) (hL:sH U L=true) {sp} {held} (hsp:∀b,sp b=true) {t} {v} {d} {p} (ht:t∈L) {base} {rc}
  (hv:Value.okWide P w rc base t v) (h:DataW.Trod enc P w 0 sp held t v d p):∃x,Dat U t x∧Rep (cx0 w) x v:=by
 obtain ⟨fuel,h⟩:=h;obtain ⟨x,x1,x2⟩:=qa hU L hL hsp fuel t _ _ ht h;refine ⟨x,x1, ?_⟩;have hd:=(hU t).desc;cases x1 with
 |strct ys hk hn hx=>
  rw [hk] at hd;obtain ⟨gs,hd,_⟩:=hd;unfold Value.okWide at hv;rw [hd] at hv;obtain ⟨cs,rfl,_⟩:=hv;have hl:=x2.len;simp only [AV.cells,Value.cells] at hl x2;refine .agg _ _ (by grind) (fun i hi=> ?_) (fun i hi=> ?_)
  ·have:=(x2.get i hi).1
   simpa using this
  ·have:=(x2.get i hi).2
   simpa using this
 |bool b hk=>
  cases v<;>first|exact x2.1.1|skip
  rw [hk] at hd;unfold Value.okWide at hv;simp [Cell.okWide,Cell.ok,hd] at hv
 |int n hk hw=>
  cases v<;>first|exact x2.1.1|skip
  rw [hk] at hd;unfold Value.okWide at hv;simp [Cell.okWide,Cell.ok,hd] at hv
 |str l hk hl=>
  cases v<;>first|exact x2.1.1|skip
  rw [hk] at hd;unfold Value.okWide at hv;simp [Cell.okWide,Cell.ok,hd] at hv
 |slice xs hk hx hl=>
  cases v<;>first|exact x2.1.1|skip
  rw [hk] at hd;unfold Value.okWide at hv;simp [Cell.okWide,Cell.ok,hd] at hv
end
end Go.Ab
namespace Go.Proofs.YtfpckjaeeiiipaaDoor
open Go Go.Ab
abbrev Gy:TI:=⟨.other,1,8, .v .nilFunc,none⟩
def wM:List TI:= [
 ⟨.other,0,0,default,none⟩,
 Gy,
 ⟨.int .i64,1,8, .v (.int .i64 0),some (0,[.int .i64])⟩,
 ⟨.int .i64,1,8, .v (.int .i64 0),some (0,[.int .i64])⟩,
 ⟨.bool,1,1, .v (.bool false),some (0,[.bool])⟩,
 ⟨.int .u8,1,1, .v (.int .u8 0),some (0,[.int .u8])⟩,
 ⟨.int .u8,1,1, .v (.int .u8 0),some (0,[.int .u8])⟩,
 ⟨.strct [(0,2),(1,3),(2,4),(3,6)],4,24, .agg [.v (.int .i64 0), .v (.int .i64 0), .v (.bool false), .v (.int .u8 0)],none⟩,
 ⟨.strct [(0,2),(1,3),(2,4),(3,6)],4,24, .agg [.v (.int .i64 0), .v (.int .i64 0), .v (.bool false), .v (.int .u8 0)],none⟩,
 ⟨.str,1,16, .s [],some (0,[.str])⟩,
 ⟨.str,1,16, .s [],some (0,[.str])⟩,
 ⟨.str,1,16, .s [],some (0,[.str])⟩,
 ⟨.int .u64,1,8, .v (.int .u64 0),some (0,[.int .u64])⟩,
 ⟨.strct [(0,9),(1,12)],2,24, .agg [.s [], .v (.int .u64 0)],none⟩,
 ⟨.strct [(0,9),(1,12)],2,24, .agg [.s [], .v (.int .u64 0)],none⟩,
 ⟨.ptr 143,1,8, .v (.pointer none),none⟩,
 ⟨.ptr 146,1,8, .v (.pointer none),none⟩,
 ⟨.ptr 154,1,8, .v (.pointer none),none⟩,
 ⟨.strct [(0,17)],1,8, .agg [.v (.pointer none)],none⟩,
 ⟨.strct [(0,17)],1,8, .agg [.v (.pointer none)],none⟩,
 ⟨.iface,1,16, .v .nilIface,none⟩,
 ⟨.int .i32,1,4, .v (.int .i32 0),some (0,[.int .i32])⟩,
 ⟨.slice 50,1,24, .sl [] .full,none⟩,
 ⟨.slice 50,1,24, .sl [] .full,none⟩,
 ⟨.slice 54,1,24, .sl [] .full,none⟩,
 ⟨.slice 28,1,24, .sl [] .full,none⟩,
 ⟨.slice 56,1,24, .sl [] .full,none⟩,
 ⟨.strct [(0,9),(1,4),(2,3),(3,23),(4,24),(5,25),(6,26)],7,128, .agg [.s [], .v (.bool false), .v (.int .i64 0), .sl [] .full, .sl [] .full, .sl [] .full, .sl [] .full],none⟩,
 ⟨.strct [(0,9),(1,4),(2,3),(3,23),(4,24),(5,25),(6,26)],7,128, .agg [.s [], .v (.bool false), .v (.int .i64 0), .sl [] .full, .sl [] .full, .sl [] .full, .sl [] .full],none⟩,
 ⟨.slice 52,1,24, .sl [] .full,none⟩,
 ⟨.strct [(0,3),(1,9),(2,4)],3,32, .agg [.v (.int .i64 0), .s [], .v (.bool false)],some (1,[.int .i64, .str, .bool])⟩,
 ⟨.strct [(0,3),(1,9),(2,4)],3,32, .agg [.v (.int .i64 0), .s [], .v (.bool false)],some (1,[.int .i64, .str, .bool])⟩,
 Gy,
 Gy,
 Gy,
 Gy,
 Gy,
 Gy,
 Gy,
 Gy,
 Gy,
 Gy,
 ⟨.ptr 44,1,8, .v (.pointer none),none⟩,
 ⟨.strct [(0,3)],1,8, .agg [.v (.int .i64 0)],some (1,[.int .i64])⟩,
 ⟨.strct [(0,3)],1,8, .agg [.v (.int .i64 0)],some (1,[.int .i64])⟩,
 ⟨.strct [(0,3),(1,3),(2,9)],3,32, .agg [.v (.int .i64 0), .v (.int .i64 0), .s []],some (1,[.int .i64, .int .i64, .str])⟩,
 ⟨.strct [(0,3),(1,3),(2,9)],3,32, .agg [.v (.int .i64 0), .v (.int .i64 0), .s []],some (1,[.int .i64, .int .i64, .str])⟩,
 ⟨.strct [(0,31),(3,3),(4,46)],7,72, .agg [.v (.int .i64 0), .s [], .v (.bool false), .v (.int .i64 0), .v (.int .i64 0), .v (.int .i64 0), .s []],some (2,[.int .i64, .str, .bool, .int .i64, .int .i64, .int .i64, .str])⟩,
 ⟨.strct [(0,31),(3,3),(4,46)],7,72, .agg [.v (.int .i64 0), .s [], .v (.bool false), .v (.int .i64 0), .v (.int .i64 0), .v (.int .i64 0), .s []],some (2,[.int .i64, .str, .bool, .int .i64, .int .i64, .int .i64, .str])⟩,
 ⟨.slice 48,1,24, .sl [] .full,none⟩,
 ⟨.slice 49,1,24, .sl [] .full,none⟩,
 ⟨.strct [(0,3),(1,46),(4,31)],7,72, .agg [.v (.int .i64 0), .v (.int .i64 0), .v (.int .i64 0), .s [], .v (.int .i64 0), .s [], .v (.bool false)],some (2,[.int .i64, .int .i64, .int .i64, .str, .int .i64, .str, .bool])⟩,
 ⟨.strct [(0,3),(1,46),(4,31)],7,72, .agg [.v (.int .i64 0), .v (.int .i64 0), .v (.int .i64 0), .s [], .v (.int .i64 0), .s [], .v (.bool false)],some (2,[.int .i64, .int .i64, .int .i64, .str, .int .i64, .str, .bool])⟩,
 ⟨.strct [(0,9),(1,4),(2,23),(3,29),(4,26)],5,96, .agg [.s [], .v (.bool false), .sl [] .full, .sl [] .full, .sl [] .full],none⟩,
 ⟨.strct [(0,9),(1,4),(2,23),(3,29),(4,26)],5,96, .agg [.s [], .v (.bool false), .sl [] .full, .sl [] .full, .sl [] .full],none⟩,
 ⟨.strct [(0,3),(1,3),(2,9)],3,32, .agg [.v (.int .i64 0), .v (.int .i64 0), .s []],some (1,[.int .i64, .int .i64, .str])⟩,
 ⟨.strct [(0,3),(1,3),(2,9)],3,32, .agg [.v (.int .i64 0), .v (.int .i64 0), .s []],some (1,[.int .i64, .int .i64, .str])⟩,
 ⟨.slice 4,1,24, .sl [] .full,none⟩,
 Gy,
 ⟨.slice 9,1,24, .sl [] .full,none⟩,
 Gy,
 Gy,
 Gy,
 Gy,
 ⟨.int .i64,1,8, .v (.int .i64 0),some (0,[.int .i64])⟩,
 Gy,
 Gy,
 Gy,
 ⟨.other,0,0,default,none⟩,
 Gy,
 Gy,
 Gy,
 Gy,
 Gy,
 Gy,
 Gy,
 Gy,
 Gy,
 Gy,
 ⟨.ptr 82,1,8, .v (.pointer none),none⟩,
 ⟨.map 9 122,1,8, .v (.map none),none⟩,
 ⟨.strct [(0,80),(1,3)],2,16, .agg [.v (.map none), .v (.int .i64 0)],none⟩,
 ⟨.strct [(0,80),(1,3)],2,16, .agg [.v (.map none), .v (.int .i64 0)],none⟩,
 Gy,
 Gy,
 Gy,
 Gy,
 ⟨.ptr 89,1,8, .v (.pointer none),none⟩,
 ⟨.strct [(0,59),(1,3)],2,32, .agg [.sl [] .full, .v (.int .i64 0)],none⟩,
 ⟨.strct [(0,59),(1,3)],2,32, .agg [.sl [] .full, .v (.int .i64 0)],none⟩,
 Gy,
 ⟨.other,0,0,default,none⟩,
 Gy,
 Gy,
 ⟨.ptr 97,1,8, .v (.pointer none),none⟩,
 ⟨.slice 5,1,24, .sl [] .full,none⟩,
 ⟨.strct [(0,94),(1,95)],2,32, .agg [.v (.pointer none), .sl [] .full],none⟩,
 ⟨.strct [(0,94),(1,95)],2,32, .agg [.v (.pointer none), .sl [] .full],none⟩,
 Gy,
 ⟨.iface,1,16, .v .nilIface,none⟩,
 ⟨.iface,1,16, .v .nilIface,none⟩,
 ⟨.other,0,0,default,none⟩,
 Gy,
 Gy,
 Gy,
 ⟨.int .u64,1,8, .v (.int .u64 0),some (0,[.int .u64])⟩,
 Gy,
 ⟨.int .u64,1,8, .v (.int .u64 0),some (0,[.int .u64])⟩,
 Gy,
 Gy,
 Gy,
 Gy,
 Gy,
 Gy,
 Gy,
 ⟨.ptr 5,1,8, .v (.pointer none),none⟩,
 Gy,
 Gy,
 Gy,
 ⟨.other,1,8, .v (.pointer none),none⟩,
 Gy,
 Gy,
 ⟨.strct [],0,0,default,none⟩,
 ⟨.other,0,0,default,none⟩,
 Gy,
 ⟨.arr 24 5,24,24, .agg [.v (.int .u8 0), .v (.int .u8 0), .v (.int .u8 0), .v (.int .u8 0), .v (.int .u8 0), .v (.int .u8 0), .v (.int .u8 0), .v (.int .u8 0), .v (.int .u8 0), .v (.int .u8 0), .v (.int .u8 0), .v (.int .u8 0), .v (.int .u8 0), .v (.int .u8 0), .v (.int .u8 0), .v (.int .u8 0), .v (.int .u8 0), .v (.int .u8 0), .v (.int .u8 0), .v (.int .u8 0), .v (.int .u8 0), .v (.int .u8 0), .v (.int .u8 0), .v (.int .u8 0)],some (1,[.int .u8, .int .u8, .int .u8, .int .u8, .int .u8, .int .u8, .int .u8, .int .u8, .int .u8, .int .u8, .int .u8, .int .u8, .int .u8, .int .u8, .int .u8, .int .u8, .int .u8, .int .u8, .int .u8, .int .u8, .int .u8, .int .u8, .int .u8, .int .u8])⟩,
 Gy,
 Gy,
 ⟨.other,0,0,default,none⟩,
 Gy,
 Gy,
 Gy,
 Gy,
 Gy,
 ⟨.arr 20 105,20,160, .agg [.v (.int .u64 0), .v (.int .u64 0), .v (.int .u64 0), .v (.int .u64 0), .v (.int .u64 0), .v (.int .u64 0), .v (.int .u64 0), .v (.int .u64 0), .v (.int .u64 0), .v (.int .u64 0), .v (.int .u64 0), .v (.int .u64 0), .v (.int .u64 0), .v (.int .u64 0), .v (.int .u64 0), .v (.int .u64 0), .v (.int .u64 0), .v (.int .u64 0), .v (.int .u64 0), .v (.int .u64 0)],some (1,[.int .u64, .int .u64, .int .u64, .int .u64, .int .u64, .int .u64, .int .u64, .int .u64, .int .u64, .int .u64, .int .u64, .int .u64, .int .u64, .int .u64, .int .u64, .int .u64, .int .u64, .int .u64, .int .u64, .int .u64])⟩,
 ⟨.int .u32,1,4, .v (.int .u32 0),some (0,[.int .u32])⟩,
 ⟨.arr 65 5,65,65, .agg [.v (.int .u8 0), .v (.int .u8 0), .v (.int .u8 0), .v (.int .u8 0), .v (.int .u8 0), .v (.int .u8 0), .v (.int .u8 0), .v (.int .u8 0), .v (.int .u8 0), .v (.int .u8 0), .v (.int .u8 0), .v (.int .u8 0), .v (.int .u8 0), .v (.int .u8 0), .v (.int .u8 0), .v (.int .u8 0), .v (.int .u8 0), .v (.int .u8 0), .v (.int .u8 0), .v (.int .u8 0), .v (.int .u8 0), .v (.int .u8 0), .v (.int .u8 0), .v (.int .u8 0), .v (.int .u8 0), .v (.int .u8 0), .v (.int .u8 0), .v (.int .u8 0), .v (.int .u8 0), .v (.int .u8 0), .v (.int .u8 0), .v (.int .u8 0), .v (.int .u8 0), .v (.int .u8 0), .v (.int .u8 0), .v (.int .u8 0), .v (.int .u8 0), .v (.int .u8 0), .v (.int .u8 0), .v (.int .u8 0), .v (.int .u8 0), .v (.int .u8 0), .v (.int .u8 0), .v (.int .u8 0), .v (.int .u8 0), .v (.int .u8 0), .v (.int .u8 0), .v (.int .u8 0), .v (.int .u8 0), .v (.int .u8 0), .v (.int .u8 0), .v (.int .u8 0), .v (.int .u8 0), .v (.int .u8 0), .v (.int .u8 0), .v (.int .u8 0), .v (.int .u8 0), .v (.int .u8 0), .v (.int .u8 0), .v (.int .u8 0), .v (.int .u8 0), .v (.int .u8 0), .v (.int .u8 0), .v (.int .u8 0), .v (.int .u8 0)],none⟩,
 Gy,
 Gy,
 Gy,
 ⟨.arr 32 5,32,32, .agg [.v (.int .u8 0), .v (.int .u8 0), .v (.int .u8 0), .v (.int .u8 0), .v (.int .u8 0), .v (.int .u8 0), .v (.int .u8 0), .v (.int .u8 0), .v (.int .u8 0), .v (.int .u8 0), .v (.int .u8 0), .v (.int .u8 0), .v (.int .u8 0), .v (.int .u8 0), .v (.int .u8 0), .v (.int .u8 0), .v (.int .u8 0), .v (.int .u8 0), .v (.int .u8 0), .v (.int .u8 0), .v (.int .u8 0), .v (.int .u8 0), .v (.int .u8 0), .v (.int .u8 0), .v (.int .u8 0), .v (.int .u8 0), .v (.int .u8 0), .v (.int .u8 0), .v (.int .u8 0), .v (.int .u8 0), .v (.int .u8 0), .v (.int .u8 0)],some (1,[.int .u8, .int .u8, .int .u8, .int .u8, .int .u8, .int .u8, .int .u8, .int .u8, .int .u8, .int .u8, .int .u8, .int .u8, .int .u8, .int .u8, .int .u8, .int .u8, .int .u8, .int .u8, .int .u8, .int .u8, .int .u8, .int .u8, .int .u8, .int .u8, .int .u8, .int .u8, .int .u8, .int .u8, .int .u8, .int .u8, .int .u8, .int .u8])⟩,
 ⟨.arr 64 5,64,64, .agg [.v (.int .u8 0), .v (.int .u8 0), .v (.int .u8 0), .v (.int .u8 0), .v (.int .u8 0), .v (.int .u8 0), .v (.int .u8 0), .v (.int .u8 0), .v (.int .u8 0), .v (.int .u8 0), .v (.int .u8 0), .v (.int .u8 0), .v (.int .u8 0), .v (.int .u8 0), .v (.int .u8 0), .v (.int .u8 0), .v (.int .u8 0), .v (.int .u8 0), .v (.int .u8 0), .v (.int .u8 0), .v (.int .u8 0), .v (.int .u8 0), .v (.int .u8 0), .v (.int .u8 0), .v (.int .u8 0), .v (.int .u8 0), .v (.int .u8 0), .v (.int .u8 0), .v (.int .u8 0), .v (.int .u8 0), .v (.int .u8 0), .v (.int .u8 0), .v (.int .u8 0), .v (.int .u8 0), .v (.int .u8 0), .v (.int .u8 0), .v (.int .u8 0), .v (.int .u8 0), .v (.int .u8 0), .v (.int .u8 0), .v (.int .u8 0), .v (.int .u8 0), .v (.int .u8 0), .v (.int .u8 0), .v (.int .u8 0), .v (.int .u8 0), .v (.int .u8 0), .v (.int .u8 0), .v (.int .u8 0), .v (.int .u8 0), .v (.int .u8 0), .v (.int .u8 0), .v (.int .u8 0), .v (.int .u8 0), .v (.int .u8 0), .v (.int .u8 0), .v (.int .u8 0), .v (.int .u8 0), .v (.int .u8 0), .v (.int .u8 0), .v (.int .u8 0), .v (.int .u8 0), .v (.int .u8 0), .v (.int .u8 0)],none⟩,
 ⟨.strct [(0,17),(1,17),(2,17),(3,9)],4,40, .agg [.v (.pointer none), .v (.pointer none), .v (.pointer none), .s []],none⟩,
 ⟨.strct [(0,17),(1,17),(2,17),(3,9)],4,40, .agg [.v (.pointer none), .v (.pointer none), .v (.pointer none), .s []],none⟩,
 ⟨.arr 0 16,0,0,default,none⟩,
 ⟨.other,0,0,default,none⟩,
 ⟨.other,0,0,default,none⟩,
 Gy,
 ⟨.int .u8,1,1, .v (.int .u8 0),some (0,[.int .u8])⟩,
 ⟨.int .u8,1,1, .v (.int .u8 0),some (0,[.int .u8])⟩,
 Gy,
 ⟨.int .i32,1,4, .v (.int .i32 0),some (0,[.int .i32])⟩,
 ⟨.int .i32,1,4, .v (.int .i32 0),some (0,[.int .i32])⟩,
 ⟨.strct [(0,12),(1,12),(2,135),(3,148),(4,5),(5,5),(6,149),(7,150),(8,115),(9,151),(10,152)],11,48, .agg [.v (.int .u64 0), .v (.int .u64 0), .v (.int .u32 0), .v (.int .u8 0), .v (.int .u8 0), .v (.int .u8 0), .v (.int .u8 0), .v .nilFunc, .v (.pointer none), .v (.int .i32 0), .v (.int .i32 0)],none⟩,
 ⟨.strct [(0,12),(1,12),(2,135),(3,148),(4,5),(5,5),(6,149),(7,150),(8,115),(9,151),(10,152)],11,48, .agg [.v (.int .u64 0), .v (.int .u64 0), .v (.int .u32 0), .v (.int .u8 0), .v (.int .u8 0), .v (.int .u8 0), .v (.int .u8 0), .v .nilFunc, .v (.pointer none), .v (.int .i32 0), .v (.int .i32 0)],none⟩]
def U (t:TypeId):TI:=wM.getD t ⟨.other,0,0,default,none⟩
@[go_sem] theorem U3k:(U 3).k= .int .i64:=rfl
@[go_sem] theorem U3s:(U 3).sz=1:=rfl
@[go_sem] theorem U3b:(U 3).bytes=8:=rfl
@[go_sem] theorem U3z:(U 3).zero= .v (.int .i64 0):=rfl
@[go_sem] theorem U4k:(U 4).k= .bool:=rfl
@[go_sem] theorem U4s:(U 4).sz=1:=rfl
@[go_sem] theorem U4b:(U 4).bytes=1:=rfl
@[go_sem] theorem U4z:(U 4).zero= .v (.bool false):=rfl
@[go_sem] theorem U5k:(U 5).k= .int .u8:=rfl
@[go_sem] theorem U5s:(U 5).sz=1:=rfl
@[go_sem] theorem U5b:(U 5).bytes=1:=rfl
@[go_sem] theorem U5z:(U 5).zero= .v (.int .u8 0):=rfl
@[go_sem] theorem U9k:(U 9).k= .str:=rfl
@[go_sem] theorem U9s:(U 9).sz=1:=rfl
@[go_sem] theorem U9b:(U 9).bytes=16:=rfl
@[go_sem] theorem U9z:(U 9).zero= .s []:=rfl
@[go_sem] theorem ES:(U 23).k= .slice 50:=rfl
@[go_sem] theorem ET:(U 23).sz=1:=rfl
@[go_sem] theorem ER:(U 23).bytes=24:=rfl
@[go_sem] theorem EU:(U 23).zero= .sl [] .full:=rfl
@[go_sem] theorem EW:(U 24).k= .slice 54:=rfl
@[go_sem] theorem EX:(U 24).sz=1:=rfl
@[go_sem] theorem EV:(U 24).bytes=24:=rfl
@[go_sem] theorem EY:(U 24).zero= .sl [] .full:=rfl
@[go_sem] theorem E0:(U 25).k= .slice 28:=rfl
@[go_sem] theorem E1:(U 25).sz=1:=rfl
@[go_sem] theorem EZ:(U 25).bytes=24:=rfl
@[go_sem] theorem E2:(U 25).zero= .sl [] .full:=rfl
@[go_sem] theorem E4:(U 26).k= .slice 56:=rfl
@[go_sem] theorem E5:(U 26).sz=1:=rfl
@[go_sem] theorem E3:(U 26).bytes=24:=rfl
@[go_sem] theorem E6:(U 26).zero= .sl [] .full:=rfl
@[go_sem] theorem E8:(U 28).k= .strct [(0,9),(1,4),(2,3),(3,23),(4,24),(5,25),(6,26)]:=rfl
@[go_sem] theorem E9:(U 28).sz=7:=rfl
@[go_sem] theorem E7:(U 28).bytes=128:=rfl
@[go_sem] theorem Fa:(U 28).zero= .agg [.s [], .v (.bool false), .v (.int .i64 0), .sl [] .full, .sl [] .full, .sl [] .full, .sl [] .full]:=rfl
@[go_sem] theorem Fc:(U 29).k= .slice 52:=rfl
@[go_sem] theorem Fe:(U 29).sz=1:=rfl
@[go_sem] theorem Fb:(U 29).bytes=24:=rfl
@[go_sem] theorem Ff:(U 29).zero= .sl [] .full:=rfl
@[go_sem] theorem Fi:(U 31).k= .strct [(0,3),(1,9),(2,4)]:=rfl
@[go_sem] theorem Fj:(U 31).sz=3:=rfl
@[go_sem] theorem Fg:(U 31).bytes=32:=rfl
@[go_sem] theorem Fk:(U 31).zero= .agg [.v (.int .i64 0), .s [], .v (.bool false)]:=rfl
@[go_sem] theorem Fh:(U 31).eq=some (1,[.int .i64, .str, .bool]):=rfl
@[go_sem] theorem Fm:(U 44).k= .strct [(0,3)]:=rfl
@[go_sem] theorem Fo:(U 44).sz=1:=rfl
@[go_sem] theorem Fl:(U 44).bytes=8:=rfl
@[go_sem] theorem Fp:(U 44).zero= .agg [.v (.int .i64 0)]:=rfl
@[go_sem] theorem Ft:(U 46).k= .strct [(0,3),(1,3),(2,9)]:=rfl
@[go_sem] theorem Fu:(U 46).sz=3:=rfl
@[go_sem] theorem Fq:(U 46).bytes=32:=rfl
@[go_sem] theorem Fv:(U 46).zero= .agg [.v (.int .i64 0), .v (.int .i64 0), .s []]:=rfl
@[go_sem] theorem Fs:(U 46).eq=some (1,[.int .i64, .int .i64, .str]):=rfl
@[go_sem] theorem Fy:(U 48).k= .strct [(0,31),(3,3),(4,46)]:=rfl
@[go_sem] theorem Fz:(U 48).sz=7:=rfl
@[go_sem] theorem Fw:(U 48).bytes=72:=rfl
@[go_sem] theorem FA:(U 48).zero= .agg [.v (.int .i64 0), .s [], .v (.bool false), .v (.int .i64 0), .v (.int .i64 0), .v (.int .i64 0), .s []]:=rfl
@[go_sem] theorem Fx:(U 48).eq=some (2,[.int .i64, .str, .bool, .int .i64, .int .i64, .int .i64, .str]):=rfl
@[go_sem] theorem FC:(U 49).k= .slice 48:=rfl
@[go_sem] theorem FD:(U 49).sz=1:=rfl
@[go_sem] theorem FB:(U 49).bytes=24:=rfl
@[go_sem] theorem FE:(U 49).zero= .sl [] .full:=rfl
@[go_sem] theorem FG:(U 50).k= .slice 49:=rfl
@[go_sem] theorem FH:(U 50).sz=1:=rfl
@[go_sem] theorem FF:(U 50).bytes=24:=rfl
@[go_sem] theorem FI:(U 50).zero= .sl [] .full:=rfl
@[go_sem] theorem FL:(U 52).k= .strct [(0,3),(1,46),(4,31)]:=rfl
@[go_sem] theorem FM:(U 52).sz=7:=rfl
@[go_sem] theorem FJ:(U 52).bytes=72:=rfl
@[go_sem] theorem FN:(U 52).zero= .agg [.v (.int .i64 0), .v (.int .i64 0), .v (.int .i64 0), .s [], .v (.int .i64 0), .s [], .v (.bool false)]:=rfl
@[go_sem] theorem FK:(U 52).eq=some (2,[.int .i64, .int .i64, .int .i64, .str, .int .i64, .str, .bool]):=rfl
@[go_sem] theorem FP:(U 54).k= .strct [(0,9),(1,4),(2,23),(3,29),(4,26)]:=rfl
@[go_sem] theorem FQ:(U 54).sz=5:=rfl
@[go_sem] theorem FO:(U 54).bytes=96:=rfl
@[go_sem] theorem FR:(U 54).zero= .agg [.s [], .v (.bool false), .sl [] .full, .sl [] .full, .sl [] .full]:=rfl
@[go_sem] theorem FV:(U 56).k= .strct [(0,3),(1,3),(2,9)]:=rfl
@[go_sem] theorem FW:(U 56).sz=3:=rfl
@[go_sem] theorem FT:(U 56).bytes=32:=rfl
@[go_sem] theorem FX:(U 56).zero= .agg [.v (.int .i64 0), .v (.int .i64 0), .s []]:=rfl
@[go_sem] theorem FU:(U 56).eq=some (1,[.int .i64, .int .i64, .str]):=rfl
@[go_sem] theorem FZ:(U 57).k= .slice 4:=rfl
@[go_sem] theorem F0:(U 57).sz=1:=rfl
@[go_sem] theorem FY:(U 57).bytes=24:=rfl
@[go_sem] theorem F1:(U 57).zero= .sl [] .full:=rfl
@[go_sem] theorem F3:(U 59).k= .slice 9:=rfl
@[go_sem] theorem F4:(U 59).sz=1:=rfl
@[go_sem] theorem F2:(U 59).bytes=24:=rfl
@[go_sem] theorem F5:(U 59).zero= .sl [] .full:=rfl
@[go_sem] theorem F7:(U 80).k= .map 9 122:=rfl
@[go_sem] theorem F8:(U 80).sz=1:=rfl
@[go_sem] theorem F6:(U 80).bytes=8:=rfl
@[go_sem] theorem F9:(U 80).zero= .v (.map none):=rfl
@[go_sem] theorem Gb:(U 82).k= .strct [(0,80),(1,3)]:=rfl
@[go_sem] theorem Gc:(U 82).sz=2:=rfl
@[go_sem] theorem Ga:(U 82).bytes=16:=rfl
@[go_sem] theorem Gd:(U 82).zero= .agg [.v (.map none), .v (.int .i64 0)]:=rfl
@[go_sem] theorem Gf:(U 89).k= .strct [(0,59),(1,3)]:=rfl
@[go_sem] theorem Gg:(U 89).sz=2:=rfl
@[go_sem] theorem Ge:(U 89).bytes=32:=rfl
@[go_sem] theorem Gh:(U 89).zero= .agg [.sl [] .full, .v (.int .i64 0)]:=rfl
@[go_sem] theorem Gj:(U 95).k= .slice 5:=rfl
@[go_sem] theorem Gk:(U 95).sz=1:=rfl
@[go_sem] theorem Gi:(U 95).bytes=24:=rfl
@[go_sem] theorem Gl:(U 95).zero= .sl [] .full:=rfl
@[go_sem] theorem Eg:(U 105).k= .int .u64:=rfl
@[go_sem] theorem Eh:(U 105).sz=1:=rfl
@[go_sem] theorem Ef:(U 105).bytes=8:=rfl
@[go_sem] theorem Ei:(U 105).zero= .v (.int .u64 0):=rfl
@[go_sem] theorem Ej:(U 122).k= .strct []:=rfl
@[go_sem] theorem Ek:(U 122).sz=0:=rfl
set_option maxRecDepth 100000 in
theorem hU:∀t,ax Tryd.prog U t:=tU 155 (by kernel_rfl) fun t ht=>by
 unfold U;rw [List.getD_eq_getElem?_getD,List.getElem?_eq_none (show wM.length≤t from ht)]
 rfl
theorem hm:Tryd.prog.follows .mixedOrders=true:=by kernel_rfl
end Go.Proofs.YtfpckjaeeiiipaaDoor
namespace Go.Ab
open Go
section
variable {P : Program} {U : TypeId → TI} {n : Nat} {ρ : Env} {h h' h2 : Heap} {e tb : TypeId} {y v : AV} {xs zs : List AV} {l : List UInt8} {Q : AV → Heap → Prop}
def hm1 (id:Nat) (k:Blk):Heap:=upd (fun _=>none) id (some k)
@[go_sem] theorem fe (id) (k):hm1 id k id=some k:=ag ..
theorem Sub.hm1 {id} {k} (h1:h id=some k):Sub (hm1 id k) h:=fun j b hj=>by
 unfold Ab.hm1 at hj
 grind [ag,af]
theorem dR.new {id} {k} (hid:h id=none):dR h (upd h id k):=((Sub.refl h).new hid k).xF
theorem gJ.acc (hk:∀y' h'',Acc U e h h'' y' (xs++zs)→dR h h''→Q y' h''):gJ U h xs zs e Q:=
 .own fun id hid=>hk _ _ ⟨(Sub.refl h).new hid _, .inr ⟨id,hid,rfl,by rw [ag,Gu]⟩⟩ (.new hid)
theorem jX.acc (hk:∀y' h'',Acc U e h h'' y' (xs++zs)→dR h h''→Q y' h''):jX U h xs zs e Q:=
 ⟨fun hn=>by subst hn; exact hk _ _ (by rw [List.append_nil]; exact .full (.refl h)) (.refl h),fun _=> .acc hk⟩
end
section
variable {P : Program} {U : TypeId → TI} {n : Nat} {ρ : Env} {h h' : Heap} {tb : TypeId} {y : AV} {l : List UInt8}
end
theorem Cu (k:IntKind) (n:Nat) (hk:k.signed=false) (hn:n<2 ^ k.bits):k.wrap (n:Int)=n:=by
 cases k<;>simp [IntKind.signed] at hk<;>simp [IntKind.wrap,IntKind.signed,IntKind.bits] at hn⊢<;>omega
section
variable {U : TypeId → TI} {ty : TypeId} {K : AV → Prop}
end
section
variable {P : Program} {U : TypeId → TI} {n : Nat} {ρ : Env} {h0 h h' : Heap} {tb : TypeId} {y v : AV} {l m : List UInt8} {Q : AV → Heap → Prop}
end
section
variable {U : TypeId → TI} {ty : TypeId} {K : AV → Prop}
end
section
variable {P : Program} {U : TypeId → TI} {n : Nat} {ρ : Env} {h : Heap}
section
variable (all : List Oper) (bs : List Bool) (r : List Oper) (K : Env → Heap → Prop)
end
theorem aj.of_wp {f} {fn} {c} {args} {Q} (hU:∀t,ax P U t) (hf:P.funcs[f]? =some fn) (hb:fn.body=some c)
  (hn : (fn.name == "runtime.NumGoroutine") = false) (m) (hm' : fn.ntmps = m) (rs) (hr : fn.results.toList = rs) (hl : args.length ≤ m)
  (hk:WP P m c (mH args) h (og U rs Q)):aj P f args h Q:=by
 subst hm'; subst hr
 exact aj.vZ hU hf hb hn hl fun _=>hk
end
section
variable {P : Program} {U : TypeId → TI} {n : Nat} {ρ : Env} {h : Heap}
def KCut (I:Env→Heap→Prop) (K:Exit→Env→Heap→Prop):Exit→Env→Heap→Prop:=KSeq I K
theorem WP.cut {c d} {K} (I) (hc:WP P n c ρ h (KCut I K)) (hd:∀ρ h,I ρ h→WP P n d ρ h K):WP P n (.seq c d) ρ h K:=
 WP.seq (hc.weaken fun e ρ h hk=>by
  cases e with
  |normal=>exact hd ρ h hk
  |_=>exact hk)
theorem WP.vc (hU:∀t,ax P U t) (hm:P.follows .mixedOrders=true) {c} {K} (hk:aJ P U n c ρ h K):WP P n c ρ h K:=bJ hU hm c ρ h K hk
def KNext (P:Program) (n:Nat) (d:Code) (K:Exit→Env→Heap→Prop):Exit→Env→Heap→Prop:=KSeq (WP P n d · · K) K
@[go_sem↓] theorem w9 (d) (K):KNext P n d K .normal ρ h=WP P n d ρ h K:=rfl
theorem WP.one (hU:∀t,ax P U t) (hm:P.follows .mixedOrders=true) {c d} {K} (hk:aJ P U n c ρ h (KNext P n d K)):WP P n (.seq c d) ρ h K:=WP.seq (bJ hU hm c ρ h _ hk)
end
section
variable {P : Program} {U : TypeId → TI} {n : Nat} {ρ : Env} {h : Heap}
variable {d : Option Tmp} {t : TypeId} {p : String} {a : Array Edge} {g : Option (Nat × Bool)} {Q : AV → Heap → Prop} {k : AV → Prop}
@[go_sem] theorem CF (x y) (k):atK (.map x y) k=k (.map x y):=rfl
@[go_sem] theorem BH (i):AV.cells (.mp i)= [.mp i]:=rfl
@[go_sem] theorem DO (i m):fit (.mp i) m=(m=1):=rfl
@[go_sem] theorem C8 (l):cP .str (.s l)=(l.length≤maxLen):=rfl
def mpL (b:Blk) (f:List (AV×AV)→Prop):Prop:=match b with
 | .mp m=>f m
 |_=>False
@[congr] theorem A8 {b b'} {f} (e:b=b'):mpL b f=mpL b' f:=by rw [e]
@[go_sem↓] theorem DW (m) (f):mpL (.mp m) f=f m:=rfl
def oc (tk:TK) (m:List (AV×AV)):Prop:=∀p∈m,cP tk p.1
def vb (ti:TI):Prop:=ti.sz≠0∨ti.k= .strct []
def qH (U:TypeId→TI) (h:Heap) (u v:AV) (ok:Bool) (k:AV→Prop) (tk:TK):Prop:=match tk,u with
 | .map kt e, .mp id=>cP (U kt).k v∧vb (U e)∧aq (h id) fun b=>mpL b fun m=>oc (U kt).k m∧k (mW U e m v ok)
 |_,_=>False
@[congr] theorem yz {u u' v v'} {ok} {k} {tk} (h1:u=u') (h2:v=v'):qH U h u v ok k tk=qH U h u' v' ok k tk:=by grind
@[go_sem↓] theorem Cd (kt e) (id) (v) (ok):qH U h (.mp id) v ok k (.map kt e)=(cP (U kt).k v∧vb (U e)∧aq (h id) fun b=>mpL b fun m=>oc (U kt).k m∧k (mW U e m v ok)):=rfl
@[go_sem↓] theorem Ci (mt) (x y) (ok):aF P U ρ h ⟨d, .lookup mt x y ok,t,p,a,g⟩ Q=aq (ev ρ x) fun u=>aq (ev ρ y) fun v=>atK (U mt).k (qH U h u v ok (atH Q h)):=by
 simp only [aF,pv,aV,atK]
 congr 1
 funext u
 congr 1
 funext v
 cases (U mt).k with
 |map kt e=>
  cases u with
  |mp id=>
   simp only [qH]
   congr 2
   cases h id with
   |none=>rfl
   |some b=>cases b<;>rfl
  |_=>rfl
 |_=>rfl
def wj (U:TypeId→TI) (h:Heap) (u v w:AV) (Q:AV→Heap→Prop) (tk:TK):Prop:=match tk,u with
 | .map kt e, .mp id=>cP (U kt).k v∧aq (h id) fun b=>mpL b fun m=>oc (U kt).k m∧Q (.v undef) (upd h id (some (.mp (nQ m v w))))
 |_,_=>False
@[congr] theorem Ad {u u' v v' w w'} {tk} (h1:u=u') (h2:v=v') (h3:w=w'):wj U h u v w Q tk=wj U h u' v' w' Q tk:=by grind
@[go_sem↓] theorem Dj (kt e) (id) (v w):wj U h (.mp id) v w Q (.map kt e)=(cP (U kt).k v∧aq (h id) fun b=>mpL b fun m=>oc (U kt).k m∧Q (.v undef) (upd h id (some (.mp (nQ m v w))))):=rfl
@[go_sem↓] theorem yE (mt) (x y z):aF P U ρ h ⟨d, .mapUpdate mt x y z,t,p,a,g⟩ Q=aq (ev ρ x) fun u=>aq (ev ρ y) fun v=>aq (ev ρ z) fun w=>atK (U mt).k (wj U h u v w Q):=by
 simp only [aF,aV,atK]
 congr 1
 funext u
 congr 1
 funext v
 congr 1
 funext w
 cases (U mt).k with
 |map kt e=>
  cases u with
  |mp id=>
   simp only [wj]
   congr 1
   cases h id with
   |none=>rfl
   |some b=>cases b<;>rfl
  |_=>rfl
 |_=>rfl
def Bv (h:Heap) (Q:AV→Heap→Prop):Prop:=∀id,h id=none→Q (.mp id) (upd h id (some (.mp [])))
@[go_sem↓] theorem Be (mt):aF P U ρ h ⟨d, .makeMap mt none,t,p,a,g⟩ Q=Bv h Q:=by
 simp only [aF,tN,true_and]; rfl
end
def nP (ls:List (List UInt8)):List (AV×AV):=ls.map fun l=>(.s l, .agg [])
theorem qs (ls) (l):getM (nP ls) (.s l)=if l∈ls then some (.agg []) else none:=by
 induction ls with
 |nil=>rfl
 |cons x ls ih=>
  simp only [getM,nP,List.map_cons,List.find?_cons,jc] at ih⊢
  grind
theorem wE {ls} {l} (hn:l∉ls):nQ (nP ls) (.s l) (.agg [])=nP (ls++ [l]):=by
 unfold nQ;rw [qs,if_neg hn];simp [nP]
theorem ux (U) (e) (he:(U e).sz=0) (ls) (l):mW U e (nP ls) (.s l) true= .tup [.agg [], .v (.bool (decide (l∈ls)))]:=by
 simp only [mW,qs,oU,he,if_true]
 grind
theorem uv {ls} (h:∀l∈ls,l.length≤maxLen):oc .str (nP ls):=fun p hp=>by
 obtain ⟨l,hl,rfl⟩:=List.mem_map.1 hp;exact h l hl
section
variable {P : Program} {f : FuncId} {args : List AV} {h h' : Heap} {Q : AV → Heap → Prop}
theorem Ext.below {c} {w'} (hb:Go.RowKit.Below c.w.heap.size c.w w'):Ext c {c with w:=w'} where
 os:=hb.os
 tape:=hb.tape
 output:=hb.output
 size:=hb.size
 block:=fun b h _=>hb.block b h
 cell:=fun b o h _=>by
  simp only [World.cell?,hb.block b h]
 shape:=fun b cs t fr h=>⟨cs,fr,(hb.block b (bg h)).trans h,rfl⟩
 steal:=fun _ _ _ h=>h
 obj:=fun _ cs _ h=>⟨rfl,cs,h,rfl⟩
 spare:=fun _ n _ h=>⟨n,h, .inl ⟨rfl,rfl⟩⟩
 mp:=fun _ m h=>⟨rfl,m,h⟩
 ro:=fun _ _ _ h=>⟨rfl,h⟩
theorem Good.below {c} (g:Good c) {w'} (hb:Go.RowKit.Below c.w.heap.size c.w w'):Good {c with w:=w'} where
 fin:=g.fin
 inj:=g.inj
 obj:=fun id cs t h=>by
  obtain ⟨vs,a1,a2,a3⟩:=g.obj id cs t h;exact ⟨vs,(hb.block _ (bg a1)).trans a1,a2,fun j hj=>⟨(a3 j hj).1.mono (.below hb),(a3 j hj).2⟩⟩
 spare:=fun id n sz h=>by
  obtain ⟨a0,vs,t,fr,a1,a2⟩:=g.spare id n sz h;exact ⟨a0,vs,t,fr,(hb.block _ (bg a1)).trans a1,a2⟩
 mp:=fun id m h=>by
  obtain ⟨es,cl,a1,a2,a3⟩:=g.mp id m h;exact ⟨es,cl,(hb.block _ (bg a1)).trans a1,a2,fun i hi hi' =>⟨(a3 i hi hi').1,(a3 i hi hi').2.mono (.below hb)⟩⟩
 keys:=g.keys
 ro:=fun id b vs h=>g.fK (.below hb) h
theorem aj.lib {X:AV} (hc:callable P f) (hf:∀c (vs:Array Value),Sub h c.h→Good c→vs.size=args.length→(∀i (hi:i<args.length),Rep c args[i] (vs.getD i undef))→
  Calls P f vs c.w fun e w' =>(∃u,e= .returned u∧∀c',Ext c c'→Rep c' X u)∧Go.RowKit.Below c.w.heap.size c.w w'):aj P f args h fun r h' =>r=X∧h' =h:=by
 refine fun c vs hs g h1 h2=> .inl ⟨hc,(hf c vs hs g h1 h2).mono ?_⟩
 rintro e w' ⟨⟨u,rfl,hu⟩,hb⟩
 exact ⟨u,rfl,{c with w:=w'},X,h,rfl,g.below hb, .below hb,hu _ (.below hb),hs,rfl,rfl⟩
def Tab (h:Heap) (b:Nat) (vs:List Value):Prop:=∃id,h id=some (.ro b vs)
theorem Tab.sub {b:Nat} {vs:List Value} (ht:Tab h b vs) (hs:Sub h h'):Tab h' b vs:=let ⟨id,hi⟩:=ht; ⟨id,hs _ _ hi⟩
theorem Tab.var {b:Nat} {vs:List Value} {name:String} (ht:Tab h b vs) (hn:P.globalNamed name=some b) {c:Cx} (hs:Sub h c.h) (g:Good c):c.w.var? P name=some vs.toArray:=by
 obtain ⟨id,hi⟩:=ht;obtain ⟨_,t,fr,h2⟩:=g.ro id b vs (hs _ _ hi)
 grind [World.var?]
end
def lU (ts:List (Nat×List Value)):Heap:=fun i=>(ts[i]?).map fun p=> .ro p.1 p.2
def cxT (w:World) (ts:List (Nat×List Value)):Cx:=⟨w,fun i=>⟨((ts[i]?).map (·.1)).getD 0,0,none⟩,lU ts⟩
theorem v8 (w) (ts) (b o):¬owned (cxT w ts) b o:=by
 rintro ⟨id,k,h,_,h3⟩
 simp only [cxT,lU,Option.map_eq_some_iff] at h;obtain ⟨p,_,rfl⟩:=h;exact h3
theorem B3 (w) (ts) (hd:ts.Pairwise fun p q=>p.1≠q.1) (ht:∀p∈ts,∃(t:TypeId) (fr:Nat×Nat),w.heap[p.1]? =some (.cells p.2.toArray t fr)):Good (cxT w ts) where
 fin:=⟨ts.length,fun id h=>by simp [cxT,lU,List.getElem?_eq_none h]⟩
 inj:=fun i j k l h1 h2 hne=>by
  simp only [cxT,lU,Option.map_eq_some_iff] at h1 h2;obtain ⟨p,hp,rfl⟩:=h1;obtain ⟨q,hq,rfl⟩:=h2;simp only [cxT,hp,hq,Option.map_some,Option.getD_some];obtain ⟨hi,rfl⟩:=List.getElem?_eq_some_iff.1 hp
  grind [List.pairwise_iff_getElem,Nat.lt_or_gt_of_ne]
 obj:=fun id cs t h=>by
  simp_all [cxT,lU,Option.map_eq_some_iff]
 spare:=fun id n sz h=>by
  simp_all [cxT,lU,Option.map_eq_some_iff]
 mp:=fun id m h=>by
  simp_all [cxT,lU,Option.map_eq_some_iff]
 keys:=fun id m h=>by
  simp_all [cxT,lU,Option.map_eq_some_iff]
 ro:=fun id b vs h=>by
  simp only [cxT,lU,Option.map_eq_some_iff] at h;obtain ⟨p,hp,h⟩:=h;cases h;refine ⟨by grind [cxT],ht p (by grind)⟩
theorem aj.zu {P} {f} {args} {b} {vs} {w} {ts} (hc:callable P f) (hf:aj P f args (lU ts) fun r _=>r= .v b) (hd:ts.Pairwise fun p q=>p.1≠q.1)
  (ht:∀p∈ts,∃(t:TypeId) (fr:Nat×Nat),w.heap[p.1]? =some (.cells p.2.toArray t fr)) (hv:vs.size=args.length) (hr:∀i (hi:i<args.length),Rep (cx0 w) args[i] (vs.getD i undef)):
  Calls P f vs w fun e w' =>e= .returned b∧Go.RowKit.Below w.heap.size w w' :=by
 have hE:Ext (cx0 w) (cxT w ts):=⟨rfl,rfl,rfl,Nat.le_refl _,fun _ _ _=>rfl,fun _ _ _ _=>rfl,fun _ cs _ fr h=>⟨cs,fr,h,rfl⟩,fun b o _ h=>(v8 w ts b o h).elim,
  fun _ _ _ h=>(by cases h),fun _ _ _ h=>(by cases h),fun _ _ h=>(by cases h),fun _ _ _ h=>(by cases h)⟩
 refine ((hf (cxT w ts) vs (fun _ _ h=>h) (B3 w ts hd ht) hv fun i hi=>(hr i hi).mono hE).calls hc).mono ?_
 rintro e w' ⟨u,rfl,c',x,h',rfl,g',hE,hx,hs,rfl⟩
 rw [hx.aK];exact ⟨rfl,hE.os,hE.tape,hE.output,hE.size,fun k hk=>hE.block k hk fun o=>v8 w ts k o⟩
mutual
def strip:AV→AV
 | .sl xs _=> .sl (cj xs) .no
 | .agg xs=> .agg (cj xs)
 | .tup xs=> .tup (cj xs)
 | .v x=> .v x
 | .s l=> .s l
 | .pe x o=> .pe x o
 | .ptr i o=> .ptr i o
 | .oa i o l=> .oa i o l
 | .ifc t x=> .ifc t x
 | .fn f c=> .fn f c
 | .mp i=> .mp i
 | .ob i o l c s=> .ob i o l c s
def cj:List AV→List AV
 | []=> []
 |x::r=>strip x::cj r
end
theorem bI:∀xs:List AV,(cj xs).length=xs.length
 | []=>rfl
 |x::r=>by simp [cj,bI r]
theorem cD:∀(xs:List AV) (i:Nat) (h1:i<xs.length) (h2:i<(cj xs).length),(cj xs)[i]=strip xs[i]
 |x::r,0,h1,h2=>by rfl
 |x::r,i+1,h1,h2=>by simpa [cj] using cD r i (by grind) (by grind [cj])
theorem lI (x):(strip x).cells=match x with| .agg xs=>cj xs|_=> [strip x]:=by
 cases x<;>simp [strip,AV.cells]
mutual
theorem cm:∀x:AV,Weak x (strip x)
 | .sl xs p=> .deep _ _ p (bI xs).symm (fun i h1 h2=>by
    rw [cD xs i h1 h2,lI];have:=fL xs i h1;cases hx:xs[i]<;>simp [AV.cells,bI])
   (fun i h1 h2 j h3 h4=>by
    have hw:=fL xs i h1;have e:=cD xs i h1 h2;exact hw (cj xs)[i] e j h3 h4)
 | .agg xs=> .agg _ _ (bI xs).symm fun i h1 h2=>by rw [cD xs i h1 h2]; exact eB xs i h1
 | .tup xs=> .tup _ _ (bI xs).symm fun i h1 h2=>by rw [cD xs i h1 h2]; exact eB xs i h1
 | .v x=> .refl _
 | .s l=> .refl _
 | .pe x o=> .refl _
 | .ptr i o=> .refl _
 | .oa i o l=> .refl _
 | .ifc t x=> .refl _
 | .fn f c=> .refl _
 | .mp i=> .refl _
 | .ob i o l c s=> .refl _
theorem eB:∀(xs:List AV) (i:Nat) (h:i<xs.length),Weak xs[i] (strip xs[i])
 |x::r,0,h=>cm x
 |x::r,i+1,h=>eB r i (by simpa using h)
theorem fL:∀(xs:List AV) (i:Nat) (h:i<xs.length) (y:AV),y=strip xs[i]→∀(j:Nat) (h3:j<xs[i].cells.length) (h4:j<y.cells.length),Weak xs[i].cells[j] y.cells[j]
 |x::r,0,h,y,e,j,h3,h4=>sY x y e j h3 h4
 |x::r,i+1,h,y,e,j,h3,h4=>fL r i (by simpa using h) y e j h3 h4
theorem sY:∀(x y:AV),y=strip x→∀(j:Nat) (h3:j<x.cells.length) (h4:j<y.cells.length),Weak x.cells[j] y.cells[j]
 | .agg xs,y,e,j,h3,h4=>by
  subst e;simp only [strip,AV.cells] at h4⊢;rw [cD xs j h3 h4];exact eB xs j h3
 | .sl xs p,y,e,j,h3,h4=>by
  subst e;simp only [strip,AV.cells,List.length_singleton] at h3 h4⊢;obtain rfl:j=0:=by omega
  exact .deep _ _ p (bI xs).symm (fun i h1 h2=>by
    rw [cD xs i h1 h2,lI];cases hx:xs[i]<;>simp [AV.cells,bI])
   (fun i h1 h2 j h3 h4=>fL xs i h1 _ (cD xs i h1 h2) j h3 h4)
 | .tup xs,y,e,j,h3,h4=>by
  subst e;simp only [strip,AV.cells,List.length_singleton] at h3 h4⊢;obtain rfl:j=0:=by omega
  exact .tup _ _ (bI xs).symm fun i h1 h2=>by rw [cD xs i h1 h2]; exact eB xs i h1
 | .v x,y,e,j,h3,h4=>by subst e; exact .refl _
 | .s l,y,e,j,h3,h4=>by subst e; exact .refl _
 | .pe x o,y,e,j,h3,h4=>by subst e; exact .refl _
 | .ptr i o,y,e,j,h3,h4=>by subst e; exact .refl _
 | .oa i o l,y,e,j,h3,h4=>by subst e; exact .refl _
 | .ifc t x,y,e,j,h3,h4=>by subst e; exact .refl _
 | .fn f c,y,e,j,h3,h4=>by subst e; exact .refl _
 | .mp i,y,e,j,h3,h4=>by subst e; exact .refl _
 | .ob i o l c s,y,e,j,h3,h4=>by subst e; exact .refl _
end
section
variable {P : Program} {U : TypeId → TI} {n : Nat} {ρ : Env} {h0 h h' : Heap} {tb : TypeId} {y v : AV} {xs zs : List AV} {Q : AV → Heap → Prop} {f : FuncId} {args : List AV}
theorem aj.strip (hf:aj P f (cj args) h Q):aj P f args h Q:=hf.weak (bI args).symm fun i h1 h2=>by grind [cD,cm]
def One (xs:List AV):Prop:=∀x∈xs,aU x=false
theorem j5 {x} (h:aU x=false):x.cells= [x]:=by cases x<;>first|rfl|(cases h)
theorem One.sized (h:One xs):Sized 1 xs:=fun z hz=>by rw [j5 (h z hz)]; rfl
theorem One.map {α:Type} {g:α→AV} (hg:∀a,aU (g a)=false) (l:List α):One (l.map g):=fun x hx=>by
 grind
def nH (tb:TypeId) (h:Heap) (y:AV) (xs:List AV):Prop:=
 (∃q,y= .sl xs q)∨∃id off cs,y= .oa id off xs.length∧h id=some (.obj cs tb)∧off+xs.length≤cs.length∧(cs.drop off).take xs.length=xs
theorem nH.sl (xs) (q):nH tb h (.sl xs q) xs:= .inl ⟨q,rfl⟩
theorem nH.len (hb:nH tb h y xs) (e:TypeId) (k:AV→Prop):sr y k (.slice e)=k (.v (.int .i64 xs.length)):=by
 rcases hb with ⟨q,rfl⟩|⟨id,off,cs,rfl,_⟩<;>rfl
def AtP (U:TypeId→TI) (tb:TypeId) (h:Heap) (p x:AV):Prop:=∀k:AV→Prop,jH U h tb p k=k x
theorem nH.idx (hb:nH tb h y xs) (ho:One xs) {m:Int} {x:IntKind} {K:AV→Prop} (j:Nat) (hm:m=j) (hj:j<xs.length) (hz:(U tb).sz=1) (ha:(U tb).k.agg=false)
  (hk:∀p,AtP U tb h p xs[j]→K p):mN U y (.v (.int x m)) K (.slice tb):=by
 subst hm;have h1:=ho xs[j] (by simp)
 rcases hb with ⟨q,rfl⟩|⟨id,off,cs,rfl,g1,g2,g3⟩
 ·refine (uo ..).mpr ⟨by omega, ?_⟩
  refine uX.at j hj (by grind [j5]) ?_
  refine hk _ fun k=> ?_
  simp_all [jH,zm,j5,List.length_cons,List.length_nil,Nat.zero_add,and_self,if_true]
 ·refine (um ..).mpr ⟨by omega,by omega,by omega, ?_⟩
  refine hk _ fun k=> ?_
  have e1:cs[off+j]? =some xs[j]:=by
   grind
  simp only [jH,g1,dL,xN,hz,Nat.mul_one,Int.toNat_natCast,we,ha,Br,e1];simp
def WrA (tb:TypeId) (h0 h:Heap) (y:AV) (xs:List AV):Prop:=
 Sub h0 h∧((xs= []∧y= .sl [] .full)∨∃id cs,h0 id=none∧y= .oa id 0 xs.length∧h id=some (.obj cs tb)∧xs.length≤cs.length∧cs.take xs.length=xs)
theorem WrA.nil (hs:Sub h0 h):WrA tb h0 h (.sl [] .full) []:=⟨hs, .inl ⟨rfl,rfl⟩⟩
theorem WrA.seq (hw:WrA tb h0 h y xs):nH tb h y xs:=by
 obtain ⟨_,⟨rfl,rfl⟩|⟨id,cs,_,rfl,h1,h2,h3⟩⟩:=hw
 ·exact .sl _ _
 ·exact .inr ⟨id,0,cs,rfl,h1,by omega,by grind⟩
theorem WrA.sub (hw:WrA tb h0 h y xs) (hs:Sub h h'):WrA tb h0 h' y xs:=by
 obtain ⟨h1,hw|⟨id,cs,a,e,b,c,d⟩⟩:=hw
 ·exact ⟨h1.trans hs, .inl hw⟩
 ·exact ⟨h1.trans hs, .inr ⟨id,cs,a,e,hs _ _ b,c,d⟩⟩
theorem WrA.base (hw:WrA tb h0 h y xs) {id:Nat} (hid:h id=none) (b:Option Blk):WrA tb (upd h0 id b) (upd h id b) y xs:=by
 obtain ⟨h1,hw⟩:=hw;have h2:Sub (upd h0 id b) (upd h id b):=fun j k hj=>by
  by_cases e:j=id
  ·grind [ag]
  ·rw [af _ _ e] at hj⊢; exact h1 _ _ hj
 rcases hw with hw|⟨i,cs,a,e,c,d⟩
 ·exact ⟨h2, .inl hw⟩
 ·have hne:i≠id:=fun hh=>by subst hh; rw [hid] at c; cases c
  exact ⟨h2, .inr ⟨i,cs,by grind [af],e,by grind [af],d⟩⟩
theorem WrA.less (hw:WrA tb h' h y xs) (hs:Sub h0 h'):WrA tb h0 h y xs:=by
 obtain ⟨h1,hw|⟨i,cs,a,e,c,d⟩⟩:=hw
 ·exact ⟨hs.trans h1, .inl hw⟩
 ·exact ⟨hs.trans h1, .inr ⟨i,cs,hs.none a,e,c,d⟩⟩
theorem WrA.len (hw:WrA tb h0 h y xs) (e:TypeId) (k:AV→Prop):sr y k (.slice e)=k (.v (.int .i64 xs.length)):=hw.seq.len e k
theorem WrA.idx (hb:WrA tb h0 h y xs) (ho:One xs) {m:Int} {x:IntKind} {K:AV→Prop} (j:Nat) (hm:m=j) (hj:j<xs.length) (hz:(U tb).sz=1) (ha:(U tb).k.agg=false)
  (hk:∀p,AtP U tb h p xs[j]→K p):mN U y (.v (.int x m)) K (.slice tb):=hb.seq.idx ho j hm hj hz ha hk
theorem WrA.cut (hw:WrA tb h0 h y xs) {hi:Operand} {m:Int} {x:IntKind} {K:AV→Prop} (j:Nat) (hm:ev ρ hi=some (.v (.int x m))) (hj:m=j) (hl:j≤xs.length) (hz:(U tb).sz=1)
  (hk:∀z,WrA tb h0 h z (xs.take j)→K z):fm U ρ y none (some hi) none K (.slice tb):=by
 subst hj;have hs:=hw.1;obtain ⟨_,⟨rfl,rfl⟩|⟨id,cs,h1,rfl,h2,h3,h4⟩⟩:=hw
 ·rw [lH,fT,hm]
  refine ⟨by omega, ?_⟩
  have:j=0:=by grind
  subst this;refine ⟨by omega,by simp, ?_⟩
  exact hk _ (.nil hs)
 ·rw [oO]
  refine ⟨by omega,fun _=>hz, ?_⟩
  simp only [kH,fT,hm,dL,tv];refine ⟨by omega,by omega,by omega, ?_⟩
  have e:(xs.take j).length=j:=by grind
  have:=hk (.oa id 0 (xs.take j).length) ⟨hs, .inr ⟨id,cs,h1,rfl,h2,by omega,by grind⟩⟩
  rw [e] at this;simpa using this
theorem WrA.from (hw:WrA tb h0 h y xs) (ho:One xs) {lo:Operand} {m:Int} {x:IntKind} {K:AV→Prop} (j:Nat) (hm:ev ρ lo=some (.v (.int x m))) (hj:m=j) (hl:j≤xs.length) (hz:(U tb).sz=1)
  (hk:∀z,nH tb h z (xs.drop j)→K z):fm U ρ y (some lo) none none K (.slice tb):=by
 subst hj;obtain ⟨_,⟨rfl,rfl⟩|⟨id,cs,h1,rfl,h2,h3,h4⟩⟩:=hw
 ·have:j=0:=by grind
  subst this;rw [rj,hm];refine ⟨by omega,by simp [Sized], ?_⟩
  exact ⟨by omega,by simp,hk _ (.sl _ _)⟩
 ·rw [oO]
  refine ⟨by omega,fun _=>hz, ?_⟩
  simp only [kH,fT,hm,dL,tv];refine ⟨by omega,by omega,by omega, ?_⟩
  simp only [Int.toNat_natCast,hz,Nat.mul_one,Nat.zero_add];have e:(xs.drop j).length=xs.length - j:=by simp
  have:=hk (.oa id j (xs.drop j).length) (.inr ⟨id,j,cs,rfl,h2,by omega,by grind [List.drop_take]⟩)
  simpa using this
theorem WrA.app (hw:WrA tb h0 h y xs) (ho:One xs) (hoz:One zs) (hz:(U tb).sz=1) (hb:(U tb).bytes≠0) (hf:fit (U tb).zero 1) (hn:aU (U tb).zero=false) (hsrc:∀k:List AV→Prop,k zs→eD U tb h v k)
  (hlen:(xs.length+zs.length)*(U tb).bytes≤140737488355328) (hk:∀y' h',WrA tb h0 h' y' (xs++zs)→Q y' h'):apK U h y v Q (.slice tb):=by
 have hs:=hw.1;have one:Sized (U tb).sz zs:=by rw [hz]; exact hoz.sized
 obtain ⟨_,⟨rfl,rfl⟩|⟨id,cs,h1,rfl,h2,h3,h4⟩⟩:=hw
 ·refine (mh ..).mpr ⟨by omega,hb,hsrc _ ⟨by simp [Sized],one,by omega,fun hn' => ?_,fun hn' => ?_⟩⟩
  ·subst hn'
   exact hk _ _ (.nil hs)
  ·refine .oa hz hf hn hoz fun id k hid=> ?_
   refine hk _ _ ⟨hs.new hid _, .inr ⟨id,_,hs.none hid, ?_,ag .., ?_, ?_⟩⟩
   ·simp
   ·simp
   ·simp
 ·refine ⟨by omega,hb,hz,hsrc _ ⟨by grind,hoz,by omega, ?_⟩⟩
  rw [h2];refine ⟨by omega, ?_,hf,hn,fun hle=> ?_,fun id' k hid=> ?_⟩
  ·rw [List.drop_zero,h4]; exact ho
  ·have hsub:Sub h0 (upd h id (some (.obj (over cs (0+xs.length) zs) tb))):=fun j b hj=>by
    by_cases e:j=id
    ·grind
    ·rw [af _ _ e]; exact hs _ _ hj
   have ho' :(over cs (0+xs.length) zs).length=cs.length:=cY (by omega)
   refine hk _ _ ⟨hsub, .inr ⟨id,_,h1,by simp,ag ..,by grind, ?_⟩⟩
   rw [over,Nat.zero_add,h4,Gu,List.take_append_of_le_length (by simp)]
   grind
  ·refine hk _ _ ⟨hs.new hid _, .inr ⟨id',_,hs.none hid,by simp,ag .., ?_, ?_⟩⟩
   ·grind
   grind
theorem WrA.Cl {id:Nat} {cs:List AV} {j:Nat} {c:AV} (hs:Sub h0 h) (h1:h0 id=none) (h2:h id=some (.obj cs tb)) (h3:xs.length≤cs.length) (h4:cs.take xs.length=xs) (hj:j<xs.length):
  WrA tb h0 (upd h id (some (.obj (over cs j [c]) tb))) (.oa id 0 xs.length) (xs.set j c):=by
 refine ⟨fun i b hi=> ?_, .inr ⟨id,_,h1,by simp,ag .., ?_, ?_⟩⟩
 ·by_cases e:i=id
  ·grind
  ·rw [af _ _ e]; exact hs _ _ hi
 ·grind [cY,List.length_set]
 ·have e:Ab.over cs j [c]=cs.set j c:=by
   rw [Ab.over,List.length_singleton,List.set_eq_take_append_cons_drop,if_pos (by omega)]; simp
  rw [e,List.length_set,List.take_set,h4]
end
def hm2 (i:Nat) (a:Blk) (j:Nat) (b:Blk):Heap:=upd (hm1 i a) j (some b)
theorem pg {h:Heap} {i j:Nat} {b} (e:upd h i (some b) j=none):j≠i:=fun hh=>by
 subst hh; rw [ag] at e; cases e
theorem Sub.put {h g} (hs:Sub h g) {i} (hi:h i=Option.none) (x):Sub h (Ab.upd g i x):=fun k c hk=>by
 by_cases e:k=i
 ·grind
 ·rw [af _ _ e]; exact hs k c hk
end Go.Ab
namespace Go.Ab
attribute [go_sem] Int.natCast_zero Int.ofNat_zero Int.natCast_one Int.cast_ofNat_Int bne_self_eq_false beq_self_eq_true Bool.not_true Bool.not_false
attribute [go_sem] Nat.reduceLT Nat.reduceEqDiff Nat.reduceAdd Nat.reduceLeDiff Nat.reduceMul Nat.reduceSub Int.reduceBEq Int.reduceBNe
attribute [go_sem ↓] reduceIte
end Go.Ab
namespace Go.Bf
open Go Go.Ab
abbrev Txt:=List UInt8
structure eU where
 cat:Int
 name:Txt
 must:Bool
structure iG where
 kind:Int
 n:Int
 s:Txt
structure bl where
 attr:eU
 op:Int
 val:iG
structure bf where
 op:Int
 val:iG
 attr:eU
structure iF where
 on:Int
 kind:Int
 arg:Txt
abbrev gH:=List (List (List bl))
structure cJ where
 id:Txt
 deny:Bool
 tgt:gH
 cond:List bf
 obls:List iF
inductive aR where
 |mk (id:Txt) (set:Bool) (alg:Int) (tgt:gH) (rules:List cJ) (kids:List aR) (obls:List iF)
def dZ (a:eU):AV:= .agg [.v (.int .i64 a.cat), .s a.name, .v (.bool a.must)]
def iL (v:iG):AV:= .agg [.v (.int .i64 v.kind), .v (.int .i64 v.n), .s v.s]
def cE (m:bl):AV:= .agg [.v (.int .i64 m.attr.cat), .s m.attr.name, .v (.bool m.attr.must), .v (.int .i64 m.op), .v (.int .i64 m.val.kind), .v (.int .i64 m.val.n), .s m.val.s]
def aW (m:bf):AV:= .agg [.v (.int .i64 m.op), .v (.int .i64 m.val.kind), .v (.int .i64 m.val.n), .s m.val.s, .v (.int .i64 m.attr.cat), .s m.attr.name, .v (.bool m.attr.must)]
def bC (b:Bool):AV:= .v (.bool b)
def aN (o:iF):AV:= .agg [.v (.int .i64 o.on), .v (.int .i64 o.kind), .s o.arg]
def bR (l:List bl):AV:= .sl (l.map cE) .no
def aD (l:List (List bl)):AV:= .sl (l.map bR) .no
def aC (t:gH):AV:= .sl (t.map aD) .no
def aH (l:List bf):AV:= .sl (l.map aW) .no
def ay (l:List iF):AV:= .sl (l.map aN) .no
def aB (r:cJ):AV:= .agg [.s r.id, .v (.bool r.deny),aC r.tgt,aH r.cond,ay r.obls]
mutual
def aE:aR→AV
 | .mk id set alg tgt rules kids obls=> .agg [.s id, .v (.bool set), .v (.int .i64 alg),aC tgt, .sl (rules.map aB) .no, .sl (aZ kids) .no,ay obls]
def aZ:List aR→List AV
 | []=> []
 |k::r=>aE k::aZ r
end
theorem aG:∀l:List aR,aZ l=l.map aE
 | []=>rfl
 |k::r=>by simp [aZ,aG r]
def ltr (c:UInt8):Bool:=decide (97≤(c.toNat:Int)) && decide ((c.toNat:Int)≤122)
def dgt (c:UInt8):Bool:=decide (48≤(c.toNat:Int)) && decide ((c.toNat:Int)≤57)
def iV (c:UInt8) (i:Nat):Bool:=ltr c||(decide (i≠0) && (dgt c||(c.toNat:Int)==95))
def kW (l:Txt):Bool:=l.zipIdx.all fun p=>iV p.1 p.2
def bu (l:Txt):Bool:=kW l && decide (1≤l.length) && decide (l.length≤16)
def bM (a:eU):Bool:=decide (1≤a.cat) && decide (a.cat≤4) && bu a.name
def bD (v:iG):Bool:=
 if v.kind=1 then (v.n==0||v.n==1) && v.s== []
 else if v.kind=2 then v.s== []
 else if v.kind=3 then v.n==0 && decide (v.s.length≤64)
 else if v.kind=4 then decide (0≤v.n) && decide (v.n≤1099511627776) && v.s== []
 else if v.kind=5 then v.n==0 && bu v.s
 else false
def bH (m:bl):Bool:=bM m.attr && decide (1≤m.op) && decide (m.op≤3) && bD m.val
def cV (n:Nat):Int:=if n=0 then 1 else if n>8 then 6 else 0
def cq {α:Type} (f:α→Int):List α→Int
 | []=>0
 |x::r=>if f x=0 then cq f r else f x
def eI (l:List bl):Int:=if cV l.length=0 then (if l.all bH then 0 else 1) else cV l.length
def eZ (l:List (List bl)):Int:=if cV l.length=0 then cq eI l else cV l.length
def cy (t:gH):Int:=if t.length>8 then 6 else cq eZ t
def bE (op:Int):Option (List Bool):=
 if op=1∨op=2 then some []
 else if op=3∨op=4 then some [true]
 else if op=5 then some [true,false]
 else if op=11 then some [false]
 else if 6≤op∧op≤13 then some [false,false]
 else none
def zeroV (v:iG):Bool:=v.kind==0 && (v.n==0 && v.s== [])
def zeroAt (a:eU):Bool:=a.cat==0 && (a.name== [] && a.must==false)
def b9 (n:bf):Bool:=
 if n.op=1 then bD n.val && zeroAt n.attr
 else if n.op=2 then bM n.attr && zeroV n.val
 else zeroV n.val && zeroAt n.attr
def bT (st:List Bool) (n:bf):Option (List Bool):=match bE n.op with
 |none=>none
 |some w=>if b9 n=true∧w.length≤st.length∧st.drop (st.length - w.length)=w then some (st.take (st.length - w.length)++ [n.op==2]) else none
def bn (st:List Bool):List bf→Option (List Bool)
 | []=>some st
 |n::r=>match bT st n with
  |none=>none
  |some st' =>bn st' r
def bF (l:List bf):Int:=if l.length>32 then 6 else match bn [] l with
 |none=>1
 |some st=>if l= []∨st= [false] then 0 else 1
def cL (o:iF):Bool:=decide (1≤o.on) && decide (o.on≤2) && decide (1≤o.kind) && decide (o.kind≤4) && bu o.arg
def bp (l:List iF):Int:=if l.length>8 then 6 else if l.all cL then 0 else 1
structure cH where
 met:List Txt
 rules:Nat
inductive Went where
 |bad (e:Int)
 |ok (m:cH)
def cX (m:cH) (s:Txt):Option cH:=if s∉m.met∧bu s=true then some ⟨m.met++ [s],m.rules⟩ else none
def Went.err:Went→Int
 | .bad e=>e
 | .ok _=>0
def need (e:Int) (w:Went):Went:=if e=0 then w else .bad e
def bG (m:cH) (r:cJ):Went:=match cX m r.id with
 |none=> .bad 1
 |some m=>if m.rules+1>64 then .bad 6 else need (cy r.tgt) (need (bF r.cond) (need (bp r.obls) (.ok ⟨m.met,m.rules+1⟩)))
def bA (m:cH):List cJ→Went
 | []=> .ok m
 |r::l=>match bG m r with
  | .bad e=> .bad e
  | .ok m=>bA m l
def bt (m:cH) (id:Txt) (set:Bool) (alg:Int) (tgt:gH) (nr nk:Nat) (obls:List iF):Went:=match cX m id with
 |none=> .bad 1
 |some m=>if alg<1∨alg>6 then .bad 1
  else if set=true∧nr>0∨set=false∧(nk>0∨alg=4) then .bad 1
  else need (cy tgt) (need (bp obls) (if nr>16∨nk>16 then .bad 6 else .ok m))
mutual
def cI (m:cH) (d:Nat):aR→Went
 | .mk id set alg tgt rules kids obls=>
  if d>4 then .bad 6 else match bt m id set alg tgt rules.length kids.length obls with
  | .bad e=> .bad e
  | .ok m=>match bA m rules with
   | .bad e=> .bad e
   | .ok m=>cK m (d+1) kids
def cK (m:cH) (d:Nat):List aR→Went
 | []=> .ok m
 |k::r=>match cI m d k with
  | .bad e=> .bad e
  | .ok m=>cK m d r
end
def eC (p:aR):Int:=(cI ⟨[],0⟩ 1 p).err
def j4 (n:Int):Txt:=if n=1 then [115,117,98,106,101,99,116] else if n=2 then [97,99,116,105,111,110] else if n=3 then [99,97,115,101] else [101,110,118]
def cn (a:eU):Txt:=j4 a.cat++ [46]++a.name++(if a.must then [33] else [])
def jD (n:Nat):UInt8:=if n<10 then UInt8.ofNat (48+n) else UInt8.ofNat (87+n)
def pq (c:UInt8):Bool:=decide ((c.toNat:Int)<32)||decide (126<(c.toNat:Int))||(c.toNat:Int)==34||(c.toNat:Int)==92
def cr (c:UInt8):Txt:=if pq c then [92,jD (c.toNat / 16),jD (c.toNat % 16)] else [c]
def dN (l:Txt):Txt:= [34]++(l.map cr).flatten++ [34]
def ck (v:iG):Txt:=
 if v.kind=1 then Lib.formatBool (v.n==1) else if v.kind=4 then [64]++Lib.itoa v.n else if v.kind=5 then [35]++v.s else if v.kind=3 then dN v.s else Lib.itoa v.n
def opW (n:Int):Txt:=if n=1 then [61] else if n=2 then [60] else [62]
def cC (m:bl):Txt:=cn m.attr++ [32]++opW m.op++ [32]++ck m.val
def iH (l:List bl):Txt:=Lib.join (l.map cC) [44,32]
def lP (l:List (List bl)):Txt:= [40]++Lib.join (l.map iH) [32,111,114,32]++ [41]
def dH (t:gH):Txt:=if t= [] then [] else [32,119,104,101,110,32]++Lib.join (t.map lP) [32,97,110,100,32]
def fnW (n:Int):Txt:=
 if n=3 then [111,110,101] else if n=4 then [115,105,122,101] else if n=5 then [104,97,115] else if n=6 then [101,113] else if n=7 then [108,101,115,115]
 else if n=8 then [97,100,100] else if n=9 then [115,117,98] else if n=10 then [109,117,108] else if n=11 then [110,111,116] else if n=12 then [97,110,100] else [111,114]
def arity (n:Int):Nat:=if n=3∨n=4∨n=11 then 1 else 2
def stepT (st:List Txt) (n:bf):List Txt:=
 if n.op=1 then st++ [ck n.val] else if n.op=2 then st++ [cn n.attr]
 else st.take (st.length - arity n.op)++ [[40]++fnW n.op++ [32]++Lib.join (st.drop (st.length - arity n.op)) [32]++ [41]]
def gG (l:List bf):Txt:=(l.foldl stepT []).headD []
def onW (n:Int):Txt:=if n=1 then [112,101,114,109,105,116] else [100,101,110,121]
def fC (n:Int):Txt:=if n=1 then [108,111,103] else if n=2 then [114,101,100,97,99,116] else if n=3 then [114,101,118,105,101,119] else [110,111,116,105,102,121]
def kG (o:iF):Txt:= [32,111,110,32]++onW o.on++ [32]++fC o.kind++ [32]++o.arg
def dI (l:List iF):Txt:=(l.map kG).flatten
def cZ (r:cJ):Txt:=(if r.deny then [32,100,101,110,121,32] else [32,112,101,114,109,105,116,32])++(r.id++dH r.tgt)++(if r.cond= [] then [] else [32,105,102,32]++gG r.cond)++dI r.obls++ [59]
def lO (n:Int):Txt:=
 if n=1 then [100,101,110,121,111,118,101,114] else if n=2 then [112,101,114,109,105,116,111,118,101,114] else if n=3 then [102,105,114,115,116] else if n=4 then [111,110,108,121]
 else if n=5 then [100,101,110,121,117,110,108,101,115,115] else [112,101,114,109,105,116,117,110,108,101,115,115]
mutual
def gI:aR→Txt
 | .mk id set alg tgt rules kids obls=>(if set then [115,101,116,32] else [112,111,108,105,99,121,32])++(id++ [32]++lO alg++dH tgt++ [32,123])++(rules.map cZ).flatten++qB kids++ [32,125]++dI obls
def qB:List aR→Txt
 | []=> []
 |k::r=> [32]++gI k++qB r
end
def nu (p:aR):Txt:=if eC p=0 then gI p else []
theorem kT {α:Type} (l:List α) (i:Nat) (h:i<l.length):(l.take (i+1)).zipIdx=(l.take i).zipIdx++ [(l[i],i)]:=by
 grind [List.take_succ_eq_append_getElem,Nat.min_eq_left,Nat.le_of_lt]
theorem mA (l:Txt) (i:Nat) (h:i<l.length):kW (l.take (i+1))=(kW (l.take i) && iV l[i] i):=by
 grind [kW,kT]
theorem oh (l) (i:Nat) (h:i<l.length) (hb:iV l[i] i=false):kW l=false:=by
 rw [kW,List.all_eq_false];exact ⟨(l[i],i),by grind,by grind⟩
theorem tf (c:UInt8):
  (decide (97≤(c.toNat:Int))=true∧decide ((c.toNat:Int)≤122)=true∧decide (48≤(c.toNat:Int))=true∧decide ((c.toNat:Int)≤57)=false∧((c.toNat:Int)==95)=false)∨
  (decide (97≤(c.toNat:Int))=false∧decide ((c.toNat:Int)≤122)=true∧decide (48≤(c.toNat:Int))=true∧decide ((c.toNat:Int)≤57)=true∧((c.toNat:Int)==95)=false)∨
  (decide (97≤(c.toNat:Int))=false∧decide ((c.toNat:Int)≤122)=true∧decide (48≤(c.toNat:Int))=true∧decide ((c.toNat:Int)≤57)=false∧((c.toNat:Int)==95)=true)∨
  (decide (97≤(c.toNat:Int))=false∧decide ((c.toNat:Int)≤122)=true∧decide (48≤(c.toNat:Int))=false∧decide ((c.toNat:Int)≤57)=true∧((c.toNat:Int)==95)=false)∨
  (decide (97≤(c.toNat:Int))=false∧decide ((c.toNat:Int)≤122)=true∧decide (48≤(c.toNat:Int))=true∧decide ((c.toNat:Int)≤57)=false∧((c.toNat:Int)==95)=false)∨
  (decide (97≤(c.toNat:Int))=true∧decide ((c.toNat:Int)≤122)=false∧decide (48≤(c.toNat:Int))=true∧decide ((c.toNat:Int)≤57)=false∧((c.toNat:Int)==95)=false):=by
 simp only [decide_eq_true_eq,decide_eq_false_iff_not,beq_iff_eq,beq_eq_false_iff_ne,ne_eq];omega
theorem fE {α:Type} {f:α→Int} {l:List α} {i:Nat} (h:i<l.length) (h0:cq f (l.take i)=0) (h1:f l[i]=0):cq f (l.take (i+1))=0:=by
 rw [List.take_succ_eq_append_getElem h];generalize l.take i=a at h0
 induction a with
 |nil=>grind [cq]
 |cons x r ih=>
  simp only [cq] at h0;split at h0
  ·simp_all [List.cons_append,cq,if_true]
  omega
theorem iu {α:Type} {f:α→Int} {l:List α} {i:Nat} (h:i<l.length) (h0:cq f (l.take i)=0) (h1:f l[i]≠0):cq f l=f l[i]:=by
 induction l generalizing i with
 |nil=>cases h
 |cons x r ih=>
  cases i with
  |zero=>grind [cq]
  |succ i=>
   simp only [List.take_succ_cons,cq] at h0;split at h0
   ·rename_i hx
    simp only [cq,hx,if_true,List.getElem_cons_succ]
    grind
   omega
theorem qL {e x:Int} {w} (h:need e w= .bad x) (hw:w= .bad x→x≠0):x≠0:=by
 grind [need]
theorem kM {m} {r} {e:Int} (h:bG m r= .bad e):e≠0:=by
 grind [bG,qL]
theorem kj {m} {id} {set} {alg:Int} {tgt} {nr nk:Nat} {obls} {e:Int} (h:bt m id set alg tgt nr nk obls= .bad e):e≠0:=by
 grind [bt,qL]
theorem gx (m):∀(l:List cJ) (i:Nat),bA m l=(match bA m (l.take i) with
  | .bad e=> .bad e
  | .ok m1=>bA m1 (l.drop i))
 | [],i=>by simp [bA]
 |r::l,0=>by rfl
 |r::l,i+1=>by
  simp only [List.take_succ_cons,List.drop_succ_cons,bA];cases bG m r with
  |bad e=>rfl
  |ok m1=>simp only; exact gx m1 l i
theorem hD {m m1:cH} {l:List cJ} {i:Nat} (hi:i<l.length) (h:bA m (l.take i)= .ok m1):bA m (l.take (i+1))=bG m1 l[i]:=by
 rw [gx m _ i,List.take_take,Nat.min_eq_left (by omega),h,List.take_succ_eq_append_getElem hi,List.drop_append_of_le_length (by grind),List.drop_of_length_le (by grind)]
 grind [bA,bG]
theorem lE {m m1} {l} {i:Nat} {e:Int} (hi:i<l.length) (h:bA m (l.take i)= .ok m1) (hr:bG m1 l[i]= .bad e):bA m l= .bad e:=by
 rw [gx m l (i+1),hD hi h,hr]
theorem gV (m) (d:Nat):∀(l:List aR) (i:Nat),cK m d l=(match cK m d (l.take i) with
  | .bad e=> .bad e
  | .ok m1=>cK m1 d (l.drop i))
 | [],i=>by simp [cK]
 |r::l,0=>by rfl
 |r::l,i+1=>by
  simp only [List.take_succ_cons,List.drop_succ_cons,cK];cases cI m d r with
  |bad e=>rfl
  |ok m1=>simp only; exact gV m1 d l i
theorem jd {m m1:cH} {d:Nat} {l:List aR} {i:Nat} (hi:i<l.length) (h:cK m d (l.take i)= .ok m1):cK m d (l.take (i+1))=cI m1 d l[i]:=by
 rw [gV m d _ i,List.take_take,Nat.min_eq_left (by omega),h,List.take_succ_eq_append_getElem hi,List.drop_append_of_le_length (by grind),List.drop_of_length_le (by grind)]
 grind [cK,cI]
theorem mQ {m m1} {d:Nat} {l} {i:Nat} {e:Int} (hi:i<l.length) (h:cK m d (l.take i)= .ok m1) (hr:cI m1 d l[i]= .bad e):cK m d l= .bad e:=by
 rw [gV m d l (i+1),jd hi h,hr]
end Go.Bf
namespace Go.Proofs.YtfpckjaeeiiipaaDoor
open Go Go.Ab Go.Bf
theorem l7 (l) (h):aj Tryd.prog 58 [.s l] h fun r h' =>r= .v (.bool (bu l))∧h' =h:=by
 refine aj.body hU hm Tryd.func58 rfl (by kernel_rfl) 49 rfl [.tmp 2] rfl (Gp rfl) (fun hwf=> ?_)
 simp only [go_sem];refine .intro (fun m ρ h' =>h' =h∧∃i:Nat,i≤l.length∧m=l.length - i∧kW (l.take i)=true∧lk ρ 0=some (.s l)∧lk ρ 8=some (.v (.int .i64 l.length))∧lk ρ 9=some (.v (.int .i64 i))) l.length ?_ ?_
 ·refine ⟨rfl,0,by omega,rfl,rfl, ?_, ?_, ?_⟩<;>simp only [go_sem]
 ·rintro m ρ h' ⟨rfl,i,hi,rfl,hc,r0,r8,r9⟩
  simp only [go_sem,r8,r9];refine .intro (fun e=> ?_) (fun e=> ?_)
  ·have hlt:i<l.length:=Gx e
   have w1:IntKind.i64.wrap ((i:Int)+1)=((i+1:Nat):Int):=by rw [aY _ (by have:=hwf (.s l) (by simp); simp only [wfA,wf1,lim] at this; omega)]; omega
   have w0:IntKind.i64.wrap (0+1)=1:=rfl;have hb:=oh l i hlt;have hg:=mA l i hlt;rw [hc] at hg;have hcl:=tf l[i];have h255:=l[i].toNat_lt;simp only [go_sem,r0,r9];refine .at i hlt ?_;generalize hcc:l[i]=c at hb hg hcl h255⊢
   by_cases hi0:i=0
   ·subst hi0
    rcases hcl with ⟨a1,a2,a3,a4,a5⟩|⟨a1,a2,a3,a4,a5⟩|⟨a1,a2,a3,a4,a5⟩|⟨a1,a2,a3,a4,a5⟩|⟨a1,a2,a3,a4,a5⟩|⟨a1,a2,a3,a4,a5⟩
    ·simp only [go_sem,r9,a1,a2,a3,a4,a5,w0]
     refine ⟨_, ?_,rfl,0+1,by omega,rfl,by simp [hg,iV,ltr,a1,a2], ?_, ?_, ?_⟩
     ·omega
     all_goals simp only [go_sem,r0,r8]
    all_goals
     simp only [go_sem,a1,a2,a3,a4,a5];exact .same (.refl _) ⟨by simp [bu,hb (by simp [iV,ltr,a1,a2]),au],rfl⟩
   ·have hin:((i:Int)==0)=false:=by simp; omega
    rcases hcl with ⟨a1,a2,a3,a4,a5⟩|⟨a1,a2,a3,a4,a5⟩|⟨a1,a2,a3,a4,a5⟩|⟨a1,a2,a3,a4,a5⟩|⟨a1,a2,a3,a4,a5⟩|⟨a1,a2,a3,a4,a5⟩
    ·simp only [go_sem,r9,a1,a2,a3,a4,a5,w1]
     refine ⟨_, ?_,rfl,i+1,by omega,rfl,by simp [hg,iV,ltr,dgt,a1,a2,a3,a4,a5,hi0], ?_, ?_, ?_⟩
     ·omega
     all_goals simp only [go_sem,r0,r8]
    ·simp only [go_sem,r9,a1,a3,a4,w1,hin]
     refine ⟨_, ?_,rfl,i+1,by omega,rfl,by simp [hg,iV,ltr,dgt,a1,a2,a3,a4,a5,hi0], ?_, ?_, ?_⟩
     ·omega
     all_goals simp only [go_sem,r0,r8]
    ·simp only [go_sem,r9,a1,a3,a4,a5,w1,hin]
     refine ⟨_, ?_,rfl,i+1,by omega,rfl,by simp [hg,iV,ltr,dgt,a1,a2,a3,a4,a5,hi0], ?_, ?_, ?_⟩
     ·omega
     all_goals simp only [go_sem,r0,r8]
    ·simp only [go_sem,a1,a3,a5,hin]
     exact .same (.refl _) ⟨by simp [bu,hb (by simp [iV,ltr,dgt,a1,a2,a3,a4,a5]),au],rfl⟩
    ·simp only [go_sem,a1,a3,a4,a5,hin]
     exact .same (.refl _) ⟨by simp [bu,hb (by simp [iV,ltr,dgt,a1,a2,a3,a4,a5]),au],rfl⟩
    ·simp only [go_sem,a1,a2,a3,a4,a5,hin]
     exact .same (.refl _) ⟨by simp [bu,hb (by simp [iV,ltr,dgt,a1,a2,a3,a4,a5]),au],rfl⟩
  ·have hge:i=l.length:=by have:=Gt e; omega
   subst hge;rw [List.take_length] at hc
   by_cases h0:l= []
   ·subst h0
    have b0:((([]:Txt)== [])=true):=rfl;simp only [go_sem,r0,b0];exact .same (.refl _) ⟨rfl,rfl⟩
   ·have b0:(l== [])=false:=by simpa using h0
    have hp:1≤l.length:=List.length_pos_iff.2 h0;simp only [go_sem,r0,b0];exact .same (.refl _) ⟨by simp [bu,hc,au,hp]; omega,rfl⟩
theorem oX (a) (h):aj Tryd.prog 31 [dZ a] h fun r h' =>r= .v (.bool (bM a))∧h' =h:=by
 refine aj.body hU hm Tryd.func31 rfl (by kernel_rfl) 16 rfl [.tmp 2] rfl (Gp rfl) (fun hwf=> ?_)
 simp only [go_sem,dZ];intro id hid;cases d1:decide (1≤a.cat)
 ·simp only [go_sem,d1]
  exact .mk _ (.refl _) (.ah hid) ⟨by grind [bM,au],rfl⟩
 cases d2:decide (a.cat≤4)
 ·simp only [go_sem,d1,d2]
  exact .mk _ (.refl _) (.ah hid) ⟨by grind [bM,au],rfl⟩
 simp only [go_sem,d1,d2];refine (l7 _ _).pthen ?_;simp only [go_sem];exact .mk _ (.refl _) (.ah hid) ⟨by grind [bM,au],rfl⟩
theorem ic (v) (h):aj Tryd.prog 51 [iL v] h fun r h' =>r= .v (.bool (bD v))∧h' =h:=by
 refine aj.body hU hm Tryd.func51 rfl (by kernel_rfl) 61 rfl [.tmp 2] rfl (Gp rfl) (fun hwf=> ?_)
 simp only [go_sem,iL];intro id hid;cases k1:(v.kind==1)
 case true=>
  have e1:v.kind=1:=by grind
  cases d1:(v.n==0)<;>cases d2:(v.n==1)
  ·simp only [go_sem,k1,d1,d2]
   exact .mk _ (.refl _) (.ah hid) ⟨by grind [bD,au],rfl⟩
  all_goals
   simp only [go_sem,k1,d1,d2];exact .mk _ (.refl _) (.ah hid) ⟨by grind [bD,au],rfl⟩
 have n1:v.kind≠1:=by grind
 cases k2:(v.kind==2)
 case true=>
  have e1:v.kind=2:=by grind
  simp only [go_sem,k1,k2];exact .mk _ (.refl _) (.ah hid) ⟨by grind [bD,au],rfl⟩
 have n2:v.kind≠2:=by grind
 cases k3:(v.kind==3)
 case true=>
  have e1:v.kind=3:=by grind
  cases d1:(v.n==0)
  all_goals
   simp only [go_sem,k1,k2,k3,d1];exact .mk _ (.refl _) (.ah hid) ⟨by simp [bD,e1,d1,au]<;>omega,rfl⟩
 have n3:v.kind≠3:=by grind
 cases k4:(v.kind==4)
 case true=>
  have e1:v.kind=4:=by grind
  cases d1:decide (0≤v.n)<;>cases d2:decide (v.n≤1099511627776)
  all_goals
   simp only [go_sem,k1,k2,k3,k4,d1,d2];exact .mk _ (.refl _) (.ah hid) ⟨by grind [bD,au],rfl⟩
 have n4:v.kind≠4:=by grind
 cases k5:(v.kind==5)
 case true=>
  have e1:v.kind=5:=by grind
  cases d1:(v.n==0)
  ·simp only [go_sem,k1,k2,k3,k4,k5,d1]
   exact .mk _ (.refl _) (.ah hid) ⟨by grind [bD,au],rfl⟩
  ·simp only [go_sem,k1,k2,k3,k4,k5,d1]
   refine (l7 _ _).pthen ?_;simp only [go_sem];exact .mk _ (.refl _) (.ah hid) ⟨by grind [bD,au],rfl⟩
 have n5:v.kind≠5:=by grind
 simp only [go_sem,k1,k2,k3,k4,k5];exact .mk _ (.refl _) (.ah hid) ⟨by grind [bD,au],rfl⟩
theorem vT (m) (h):aj Tryd.prog 93 [cE m] h fun r h' =>r= .v (.bool (bH m))∧h' =h:=by
 refine aj.body hU hm Tryd.func93 rfl (by kernel_rfl) 21 rfl [.tmp 2] rfl (Gp rfl) (fun hwf=> ?_)
 simp only [go_sem,cE];intro id hid;simp only [go_sem];refine (oX m.attr _).pthen ?_;cases d0:bM m.attr
 ·simp only [go_sem]
  exact .mk _ (.refl _) (.ah hid) ⟨by grind [bH,au],rfl⟩
 cases d1:decide (1≤m.op)
 ·simp only [go_sem,d1]
  exact .mk _ (.refl _) (.ah hid) ⟨by grind [bH,au],rfl⟩
 cases d2:decide (m.op≤3)
 ·simp only [go_sem,d1,d2]
  exact .mk _ (.refl _) (.ah hid) ⟨by grind [bH,au],rfl⟩
 simp only [go_sem,d1,d2];refine (ic m.val _).pthen ?_;simp only [go_sem];exact .mk _ (.refl _) (.ah hid) ⟨by grind [bH,au],rfl⟩
theorem tE (n:Nat) (h:Heap):aj Tryd.prog 86 [.v (.int .i64 n)] h fun r h' =>r= .v (.int .i64 (cV n))∧h' =h:=by
 refine aj.body hU hm Tryd.func86 rfl (by kernel_rfl) 9 rfl [.tmp 2] rfl (Gp rfl) (fun hwf=> ?_)
 cases d1:((n:Int)==0)
 case true=>
  simp only [go_sem,d1];exact .same (.refl _) ⟨by grind [cV,au],rfl⟩
 cases d2:decide (8<(n:Int))
 ·have e2:¬n>8:=by grind
  simp only [go_sem,d1,d2];exact .same (.refl _) ⟨by grind [cV,au],rfl⟩
 ·have e2:n>8:=by grind
  simp only [go_sem,d1,d2];exact .same (.refl _) ⟨by grind [cV,au],rfl⟩
theorem qI {n:Nat} (h:cV n=0):1≤n∧n≤8:=by
 grind [cV]
theorem vh (l) (h:Heap):aj Tryd.prog 87 [bR l] h fun r h' =>r= .v (.int .i64 (eI l))∧h' =h:=by
 refine aj.body hU hm Tryd.func87 rfl (by kernel_rfl) 22 rfl [.tmp 2] rfl (Gp rfl) (fun hwf=> ?_)
 simp only [go_sem,bR,Gq];refine (tE _ _).pthen ?_;cases d1:(cV l.length !=0)
 case true=>
  have e1:cV l.length≠0:=by grind
  simp only [go_sem,d1];exact .same (.refl _) ⟨by grind [eI,au],rfl⟩
 have e1:cV l.length=0:=by grind
 have hlen:=qI e1;simp only [go_sem,d1,Gq];refine .intro (fun m ρ h' =>Ab.Sub h h'∧∃i:Nat,i≤l.length∧m=l.length - i∧(l.take i).all bH=true∧lk ρ 12=some (bR l)∧lk ρ 13=some (.v (.int .i64 l.length))∧lk ρ 14=some (.v (.int .i64 i))) l.length ?_ ?_
 ·refine ⟨.refl _,0,by omega,rfl,rfl, ?_, ?_, ?_⟩<;>simp only [go_sem,bR]
 ·rintro m ρ h' ⟨hs,i,hi,rfl,hc,r12,r13,r14⟩
  simp only [go_sem,r13,r14];refine .intro (fun e=> ?_) (fun e=> ?_)
  ·have hlt:i<l.length:=Gx e
   have w1:IntKind.i64.wrap ((i:Int)+1)=((i+1:Nat):Int):=by grind [aY]
   simp only [go_sem,r12,r14,bR];refine .at i (by grind) (by rw [Gr]; rfl) ?_
   simp only [go_sem,Gr,cE];intro id hid;simp only [go_sem];refine (vT l[i] _).pthen ?_;cases d2:bH l[i]
   ·simp only [go_sem]
    refine .mk _ (.refl _) (hs.new hid _) ⟨?_,rfl⟩;have:l.all bH=false:=List.all_eq_false.2 ⟨_,Gv hlt,by grind⟩
    simp [eI,e1,this,au]
   ·simp only [go_sem,r14,w1]
    refine ⟨_, ?_,hs.new hid _,i+1,by omega,rfl, ?_, ?_, ?_, ?_⟩
    ·omega
    ·grind [List.take_succ_eq_append_getElem]
    all_goals simp only [go_sem,r12,r13,bR]
  ·have hge:i=l.length:=by grind
   subst hge;rw [List.take_length] at hc;simp only [go_sem];exact .mk _ (.refl _) hs ⟨by grind [eI,au],rfl⟩
theorem o9 (l) (h):aj Tryd.prog 20 [.s l] h fun r h' =>r= .v (.bool (bu l))∧h' =h:=by
 refine aj.body hU hm Tryd.func20 rfl (by kernel_rfl) 45 rfl [.tmp 2] rfl (Gp rfl) (fun hwf=> ?_)
 simp -implicitDefEqProofs only [go_sem];refine .intro (fun m ρ h' =>h' =h∧∃i:Nat,i≤l.length∧m=l.length - i∧kW (l.take i)=true∧lk ρ 0=some (.s l)∧lk ρ 3=some (.v (.int .i64 i))) l.length ?_ ?_
 ·refine ⟨rfl,0,by omega,rfl,rfl, ?_, ?_⟩<;>simp -implicitDefEqProofs only [go_sem]
 ·rintro m ρ h' ⟨rfl,i,hi,rfl,hc,r0,r3⟩
  simp -implicitDefEqProofs only [go_sem,r0,r3];refine .intro (fun e=> ?_) (fun e=> ?_)
  ·have hlt:i<l.length:=Gx e
   have w1:IntKind.i64.wrap ((i:Int)+1)=((i+1:Nat):Int):=by rw [aY _ (by have:=hwf (.s l) (by simp); simp only [wfA,wf1,lim] at this; omega)]; omega
   have hb:=oh l i hlt;have hg:=mA l i hlt;rw [hc] at hg;have hcl:=tf l[i];have h255:=l[i].toNat_lt;simp -implicitDefEqProofs only [go_sem,r0,r3];refine .at i hlt ?_;generalize hcc:l[i]=c at hb hg hcl h255⊢
   by_cases hi0:i=0
   ·have d5:decide ((0:Int)<(i:Int))=false:=decide_eq_false (by omega)
    rcases hcl with ⟨a1,a2,a3,a4,a5⟩|⟨a1,a2,a3,a4,a5⟩|⟨a1,a2,a3,a4,a5⟩|⟨a1,a2,a3,a4,a5⟩|⟨a1,a2,a3,a4,a5⟩|⟨a1,a2,a3,a4,a5⟩
    ·simp -implicitDefEqProofs only [go_sem,r3,a1,a2,a3,a4,a5,w1]
     refine ⟨_, ?_,rfl,i+1,by omega,rfl,by simp [hg,iV,ltr,a1,a2], ?_, ?_⟩
     ·omega
     all_goals simp -implicitDefEqProofs only [go_sem,r0]
    all_goals
     simp -implicitDefEqProofs only [go_sem,r3,a1,a2,a3,a4,a5,d5];exact .same (.refl _) ⟨by simp [bu,hb (by simp [iV,ltr,a1,a2,hi0]),au],rfl⟩
   ·have d5:decide ((0:Int)<(i:Int))=true:=decide_eq_true (by omega)
    rcases hcl with ⟨a1,a2,a3,a4,a5⟩|⟨a1,a2,a3,a4,a5⟩|⟨a1,a2,a3,a4,a5⟩|⟨a1,a2,a3,a4,a5⟩|⟨a1,a2,a3,a4,a5⟩|⟨a1,a2,a3,a4,a5⟩
    all_goals simp -implicitDefEqProofs only [go_sem,r3,a1,a2,a3,a4,a5,w1,d5]
    all_goals first
     |(refine ⟨_, ?_,rfl,i+1,by omega,rfl,by simp [hg,iV,ltr,dgt,a1,a2,a3,a4,a5,hi0], ?_, ?_⟩
       ·omega
       all_goals simp -implicitDefEqProofs only [go_sem,r0])
     |exact .same (.refl _) ⟨by simp [bu,hb (by simp [iV,ltr,dgt,a1,a2,a3,a4,a5]),au],rfl⟩
  ·have hge:i=l.length:=by have:=Gt e; omega
   subst hge;rw [List.take_length] at hc;cases d1:decide ((1:Int)≤(l.length:Int))
   ·have h1:=Gt d1
    simp -implicitDefEqProofs only [go_sem,r0,d1];exact .same (.refl _) ⟨by simp [bu,hc,au]; omega,rfl⟩
   ·have h1:=Gs d1
    simp -implicitDefEqProofs only [go_sem,r0,d1];refine .same (.refl _) ⟨?_,rfl⟩;rw [show bu l=decide ((l.length:Int)≤16) by
     simp only [bu,hc,Bool.true_and];rw [decide_eq_true (show 1≤l.length by omega),Bool.true_and]
     exact decide_eq_decide.2 (by omega)]
    rfl
theorem jo (v) (h):aj Tryd.prog 17 [iL v] h fun r h' =>r= .v (.bool (bD v))∧h' =h:=by
 refine aj.body hU hm Tryd.func17 rfl (by kernel_rfl) 61 rfl [.tmp 2] rfl (Gp rfl) (fun hwf=> ?_)
 simp -implicitDefEqProofs only [go_sem,iL];intro id hid;cases k1:(v.kind==1)
 case true=>
  have e1:v.kind=1:=by grind
  cases d1:(v.n==0)<;>cases d2:(v.n==1)
  ·simp -implicitDefEqProofs only [go_sem,k1,d1,d2]
   exact .mk _ (.refl _) (.ah hid) ⟨by grind [bD,au],rfl⟩
  all_goals
   simp -implicitDefEqProofs only [go_sem,k1,d1,d2];exact .mk _ (.refl _) (.ah hid) ⟨by grind [bD,au],rfl⟩
 have n1:v.kind≠1:=by grind
 cases k2:(v.kind==2)
 case true=>
  have e1:v.kind=2:=by grind
  simp -implicitDefEqProofs only [go_sem,k1,k2];exact .mk _ (.refl _) (.ah hid) ⟨by grind [bD,au],rfl⟩
 have n2:v.kind≠2:=by grind
 cases k3:(v.kind==3)
 case true=>
  have e1:v.kind=3:=by grind
  cases d1:(v.n==0)
  all_goals
   simp -implicitDefEqProofs only [go_sem,k1,k2,k3,d1];exact .mk _ (.refl _) (.ah hid) ⟨by simp [bD,e1,d1,au]<;>omega,rfl⟩
 have n3:v.kind≠3:=by grind
 cases k4:(v.kind==4)
 case true=>
  have e1:v.kind=4:=by grind
  cases d1:decide (0≤v.n)<;>cases d2:decide (v.n≤1099511627776)
  all_goals
   simp -implicitDefEqProofs only [go_sem,k1,k2,k3,k4,d1,d2];exact .mk _ (.refl _) (.ah hid) ⟨by grind [bD,au],rfl⟩
 have n4:v.kind≠4:=by grind
 cases k5:(v.kind==5)
 case true=>
  have e1:v.kind=5:=by grind
  cases d1:(v.n==0)
  ·simp -implicitDefEqProofs only [go_sem,k1,k2,k3,k4,k5,d1]
   exact .mk _ (.refl _) (.ah hid) ⟨by grind [bD,au],rfl⟩
  ·simp -implicitDefEqProofs only [go_sem,k1,k2,k3,k4,k5,d1]
   refine (o9 _ _).pthen ?_;simp -implicitDefEqProofs only [go_sem];exact .mk _ (.refl _) (.ah hid) ⟨by grind [bD,au],rfl⟩
 have n5:v.kind≠5:=by grind
 simp -implicitDefEqProofs only [go_sem,k1,k2,k3,k4,k5];exact .mk _ (.refl _) (.ah hid) ⟨by grind [bD,au],rfl⟩
theorem vk (l) (h):aj Tryd.prog 81 [aD l] h fun r h' =>r= .v (.int .i64 (eZ l))∧h' =h:=by
 refine aj.body hU hm Tryd.func81 rfl (by kernel_rfl) 25 rfl [.tmp 2] rfl (Gp rfl) (fun hwf=> ?_)
 simp only [go_sem,aD,Gq];refine (tE _ _).pthen ?_;cases d1:(cV l.length !=0)
 case true=>
  have e1:cV l.length≠0:=by grind
  simp only [go_sem,d1];exact .same (.refl _) ⟨by grind [eZ,au],rfl⟩
 have e1:cV l.length=0:=by grind
 have hlen:=qI e1;simp only [go_sem,d1,Gq];refine .intro (fun m ρ h' =>Ab.Sub h h'∧∃i:Nat,i≤l.length∧m=l.length - i∧cq eI (l.take i)=0∧lk ρ 13=some (aD l)∧lk ρ 14=some (.v (.int .i64 l.length))∧lk ρ 15=some (.v (.int .i64 i))) l.length ?_ ?_
 ·refine ⟨.refl _,0,by omega,rfl,rfl, ?_, ?_, ?_⟩<;>simp only [go_sem,aD]
 ·rintro m ρ h' ⟨hs,i,hi,rfl,hc,r12,r13,r14⟩
  simp only [go_sem,r13,r14];refine .intro (fun e=> ?_) (fun e=> ?_)
  ·have hlt:i<l.length:=Gx e
   have w1:IntKind.i64.wrap ((i:Int)+1)=((i+1:Nat):Int):=by grind [aY]
   simp only [go_sem,r12,r14,aD];refine .at i (by grind) (by rw [Gr]; rfl) ?_
   simp only [go_sem,Gr,bR];refine (vh l[i] _).pthen ?_;cases d2:(eI l[i] !=0)
   ·have e2:eI l[i]=0:=by grind
    simp only [go_sem,r14,d2,w1];refine ⟨_, ?_,hs,i+1,by omega,rfl,fE hlt hc e2, ?_, ?_, ?_⟩
    ·omega
    all_goals simp only [go_sem,r12,r13,aD]
   ·have e2:eI l[i]≠0:=by grind
    simp only [go_sem,d2];refine .mk _ (.refl _) hs ⟨?_,rfl⟩
    grind [eZ,iu,au]
  ·have hge:i=l.length:=by grind
   subst hge;rw [List.take_length] at hc;simp only [go_sem];exact .mk _ (.refl _) hs ⟨by grind [eZ,au],rfl⟩
theorem kP (l) (h):aj Tryd.prog 76 [aC l] h fun r h' =>r= .v (.int .i64 (cy l))∧h' =h:=by
 refine aj.body hU hm Tryd.func76 rfl (by kernel_rfl) 21 rfl [.tmp 2] rfl (Gp rfl) (fun hwf=> ?_)
 cases d1:decide (8<(l.length:Int))
 case true=>
  have e1:8<l.length:=by grind
  simp only [go_sem,aC,Gq,d1];exact .same (.refl _) ⟨by grind [cy,au],rfl⟩
 have e1:¬8<l.length:=by grind
 simp only [go_sem,d1,aC,Gq];refine .intro (fun m ρ h' =>Ab.Sub h h'∧∃i:Nat,i≤l.length∧m=l.length - i∧cq eZ (l.take i)=0∧lk ρ 9=some (aC l)∧lk ρ 10=some (.v (.int .i64 l.length))∧lk ρ 11=some (.v (.int .i64 i))) l.length ?_ ?_
 ·refine ⟨.refl _,0,by omega,rfl,rfl, ?_, ?_, ?_⟩<;>simp only [go_sem,aC]
 ·rintro m ρ h' ⟨hs,i,hi,rfl,hc,r12,r13,r14⟩
  simp only [go_sem,r13,r14];refine .intro (fun e=> ?_) (fun e=> ?_)
  ·have hlt:i<l.length:=Gx e
   have w1:IntKind.i64.wrap ((i:Int)+1)=((i+1:Nat):Int):=by grind [aY]
   simp only [go_sem,r12,r14,aC];refine .at i (by grind) (by rw [Gr]; rfl) ?_
   simp only [go_sem,Gr,aD];refine (vk l[i] _).pthen ?_;cases d2:(eZ l[i] !=0)
   ·have e2:eZ l[i]=0:=by grind
    simp only [go_sem,r14,d2,w1];refine ⟨_, ?_,hs,i+1,by omega,rfl,fE hlt hc e2, ?_, ?_, ?_⟩
    ·omega
    all_goals simp only [go_sem,r12,r13,aC]
   ·have e2:eZ l[i]≠0:=by grind
    simp only [go_sem,d2];refine .mk _ (.refl _) hs ⟨?_,rfl⟩
    grind [cy,iu,au]
  ·have hge:i=l.length:=by grind
   subst hge;rw [List.take_length] at hc;simp only [go_sem];exact .mk _ (.refl _) hs ⟨by grind [cy,au],rfl⟩
theorem pn (l) (h):aj Tryd.prog 77 [ay l] h fun r h' =>r= .v (.int .i64 (bp l))∧h' =h:=by
 refine aj.body hU hm Tryd.func77 rfl (by kernel_rfl) 39 rfl [.tmp 2] rfl (Gp rfl) (fun hwf=> ?_)
 cases d1:decide (8<(l.length:Int))
 case true=>
  have e1:8<l.length:=by grind
  simp only [go_sem,ay,Gq,d1];exact .same (.refl _) ⟨by grind [bp,au],rfl⟩
 have e1:¬8<l.length:=by grind
 simp only [go_sem,d1,ay,Gq];refine .intro (fun m ρ h' =>Ab.Sub h h'∧∃i:Nat,i≤l.length∧m=l.length - i∧(l.take i).all cL=true∧lk ρ 8=some (ay l)∧lk ρ 9=some (.v (.int .i64 l.length))∧lk ρ 10=some (.v (.int .i64 i))) l.length ?_ ?_
 ·refine ⟨.refl _,0,by omega,rfl,rfl, ?_, ?_, ?_⟩<;>simp only [go_sem,ay]
 ·rintro m ρ h' ⟨hs,i,hi,rfl,hc,r12,r13,r14⟩
  simp only [go_sem,r13,r14];refine .intro (fun e=> ?_) (fun e=> ?_)
  ·have hlt:i<l.length:=Gx e
   have w1:IntKind.i64.wrap ((i:Int)+1)=((i+1:Nat):Int):=by grind [aY]
   simp only [go_sem,r12,r14,ay];refine .at i (by grind) (by rw [Gr]; rfl) ?_
   simp only [go_sem,Gr,aN];intro id hid;have bad:cL l[i]=false→bp l=1:=fun hb=>by
    have:l.all cL=false:=List.all_eq_false.2 ⟨_,Gv hlt,by grind⟩
    simp [bp,e1,this]
   cases c1:decide (l[i].on<1)
   case true=>
    simp only [go_sem,c1];exact .mk _ (.refl _) (hs.new hid _) ⟨by rw [bad (by have:=Gs c1; simp [cL]; omega)]; rfl,rfl⟩
   cases c2:decide (2<l[i].on)
   case true=>
    simp only [go_sem,c1,c2];exact .mk _ (.refl _) (hs.new hid _) ⟨by rw [bad (by have:=Gs c2; simp [cL]; omega)]; rfl,rfl⟩
   cases c3:decide (l[i].kind<1)
   case true=>
    simp only [go_sem,c1,c2,c3];exact .mk _ (.refl _) (hs.new hid _) ⟨by rw [bad (by have:=Gs c3; simp [cL]; omega)]; rfl,rfl⟩
   cases c4:decide (4<l[i].kind)
   case true=>
    simp only [go_sem,c1,c2,c3,c4];exact .mk _ (.refl _) (hs.new hid _) ⟨by rw [bad (by have:=Gs c4; simp [cL]; omega)]; rfl,rfl⟩
   simp only [go_sem,c1,c2,c3,c4];refine (l7 _ _).pthen ?_;cases d2:bu l[i].arg
   ·simp only [go_sem]
    exact .mk _ (.refl _) (hs.new hid _) ⟨by rw [bad (by grind [cL])]; rfl,rfl⟩
   ·simp only [go_sem,r14,w1]
    refine ⟨_, ?_,hs.new hid _,i+1,by omega,rfl, ?_, ?_, ?_, ?_⟩
    ·omega
    ·grind [Gt,List.take_succ_eq_append_getElem,cL]
    all_goals simp only [go_sem,r12,r13,ay]
  ·have hge:i=l.length:=by grind
   subst hge;rw [List.take_length] at hc;simp only [go_sem];exact .mk _ (.refl _) hs ⟨by grind [bp,au],rfl⟩
theorem wQ (op:Int) (h):aj Tryd.prog 68 [.v (.int .i64 op)] h fun r h' =>r=(match bE op with
  |none=> .tup [.sl [] .no, .v (.bool false)]
  |some w=> .tup [.sl (w.map bC) .no, .v (.bool true)])∧h' =h:=by
 refine aj.body hU hm Tryd.func68 rfl (by kernel_rfl) 35 rfl [.tmp 2, .tmp 3] rfl (Gp rfl) (fun hwf=> ?_)
 cases k1:(op==1)
 case true=>
  have e1:op=1:=by grind
  simp only [go_sem,k1];exact .mk _ (cm _) (.refl _) ⟨by grind [bE,au,strip,cj],rfl⟩
 have n1:op≠1:=by grind
 cases k2:(op==2)
 case true=>
  have e1:op=2:=by grind
  simp only [go_sem,k1,k2];exact .mk _ (cm _) (.refl _) ⟨by grind [bE,au,strip,cj],rfl⟩
 have n2:op≠2:=by grind
 cases k3:(op==3)
 case true=>
  have e1:op=3:=by grind
  simp only [go_sem,k1,k2,k3];exact .mk _ (cm _) (.refl _) ⟨by grind [bE,au,strip,cj,bC],rfl⟩
 have n3:op≠3:=by grind
 cases k4:(op==4)
 case true=>
  have e1:op=4:=by grind
  simp only [go_sem,k1,k2,k3,k4];exact .mk _ (cm _) (.refl _) ⟨by grind [bE,au,strip,cj,bC],rfl⟩
 have n4:op≠4:=by grind
 cases k5:(op==5)
 case true=>
  have e1:op=5:=by grind
  simp only [go_sem,k1,k2,k3,k4,k5];exact .mk _ (cm _) (.refl _) ⟨by grind [bE,au,strip,cj,bC],rfl⟩
 have n5:op≠5:=by grind
 cases k11:(op==11)
 case true=>
  have e1:op=11:=by grind
  simp only [go_sem,k1,k2,k3,k4,k5,k11];exact .mk _ (cm _) (.refl _) ⟨by grind [bE,au,strip,cj,bC],rfl⟩
 have n11:op≠11:=by grind
 cases k6:decide (6≤op)
 ·have n6:=Gt k6
  simp only [go_sem,k1,k2,k3,k4,k5,k11,k6];exact .mk _ (cm _) (.refl _) ⟨by grind [bE,au,strip,cj],rfl⟩
 cases k13:decide (op≤13)
 ·have n13:=Gt k13
  simp only [go_sem,k1,k2,k3,k4,k5,k11,k6,k13];exact .mk _ (cm _) (.refl _) ⟨by grind [bE,au,strip,cj],rfl⟩
 have n6:=Gs k6;have n13:=Gs k13;simp only [go_sem,k1,k2,k3,k4,k5,k11,k6,k13];exact .mk _ (cm _) (.refl _) ⟨by grind [bE,au,strip,cj,bC],rfl⟩
theorem ue (n) (h):aj Tryd.prog 69 [aW n] h fun r h' =>r= .v (.bool (b9 n))∧h' =h:=by
 refine aj.body hU hm Tryd.func69 rfl (by kernel_rfl) 37 rfl [.tmp 2] rfl (Gp rfl) (fun hwf=> ?_)
 simp only [go_sem,aW];intro id hid;have fa:∀x y z:Bool,(x && (y && (z && true)))=(x && (y && (z && true))):=fun _ _ _=>rfl
 cases k1:(n.op==1)
 case true=>
  have e1:n.op=1:=by grind
  simp only [go_sem,k1];refine (ic n.val _).pthen ?_;cases d0:bD n.val
  ·simp only [go_sem]
   exact .mk _ (.refl _) (.ah hid) ⟨by grind [b9,au],rfl⟩
  ·simp only [go_sem]
   exact .mk _ (.refl _) (.ah hid) ⟨by grind [b9,au,zeroAt],rfl⟩
 have n1:n.op≠1:=by grind
 cases k2:(n.op==2)
 case true=>
  have e1:n.op=2:=by grind
  simp only [go_sem,k1,k2];refine (oX n.attr _).pthen ?_;cases d0:bM n.attr
  ·simp only [go_sem]
   exact .mk _ (.refl _) (.ah hid) ⟨by grind [b9,au],rfl⟩
  ·simp only [go_sem]
   exact .mk _ (.refl _) (.ah hid) ⟨by grind [b9,au,zeroV],rfl⟩
 have n2:n.op≠2:=by grind
 cases d0:zeroV n.val
 ·have d1:=d0
  unfold zeroV at d1;simp only [go_sem,k1,k2,d1];exact .mk _ (.refl _) (.ah hid) ⟨by grind [b9,au],rfl⟩
 ·have d1:=d0
  unfold zeroV at d1;simp only [go_sem,k1,k2,d1];exact .mk _ (.refl _) (.ah hid) ⟨by grind [b9,au,zeroAt],rfl⟩
theorem u4:(U 4).sz=1:=by rfl
theorem u4a:(U 4).k.agg=false:=by rfl
theorem u4b:(U 4).bytes=1:=by rfl
theorem u4f:fit (U 4).zero 1:=by simp only [go_sem]
theorem u4n:aU (U 4).zero=false:=by rfl
theorem gN (l:List Bool):One (l.map bC):=One.map (fun _=>rfl) l
theorem xW (y) (st) (n) (h0 h) (hy:WrA 4 h0 h y (st.map bC)) (hl:st.length≤1000000):
  aj Tryd.prog 50 [y,aW n] h fun r h' =>∃z,r= .tup [z, .v (.bool (bT st n).isSome)]∧match bT st n with
   |none=>Ab.Sub h0 h'
   |some st' =>WrA 4 h0 h' z (st'.map bC):=by
 refine aj.body hU hm Tryd.func50 rfl (by kernel_rfl) 60 rfl [.tmp 4, .tmp 5] rfl (Gp rfl) (fun hwf=> ?_)
 simp only [go_sem,aW];intro id hid;simp only [go_sem];have hyb:=hy.base hid (some (.obj [.v (.int .i64 n.op), .v (.int .i64 n.val.kind), .v (.int .i64 n.val.n), .s n.val.s, .v (.int .i64 n.attr.cat), .s n.attr.name, .v (.bool n.attr.must)] 52));have hw:=wQ n.op (upd h id (some (.obj [.v (.int .i64 n.op), .v (.int .i64 n.val.kind), .v (.int .i64 n.val.n), .s n.val.s, .v (.int .i64 n.attr.cat), .s n.attr.name, .v (.bool n.attr.must)] 52)));cases hwd:bE n.op with
 |none=>
  rw [hwd] at hw;have hst:bT st n=none:=by grind [bT]
  refine hw.pthen ?_;simp only [go_sem];exact .mk _ (.refl _) (.ah hid) ⟨_,by rw [hst]; rfl,by rw [hst]; exact hy.1⟩
 |some w=>
  rw [hwd] at hw;have hwl:w.length≤2:=by
   grind [bE]
  refine hw.pthen ?_;simp only [go_sem];refine (ue n _).pthen ?_;cases d1:b9 n
  ·have hst:bT st n=none:=by grind [bT]
   simp only [go_sem];exact .mk _ (.refl _) (.ah hid) ⟨_,by rw [hst]; rfl,by rw [hst]; exact hy.1⟩
  cases d2:decide ((st.length:Int)<(w.length:Int))
  case true=>
   have e2:¬w.length≤st.length:=by grind
   have hst:bT st n=none:=by grind [bT]
   simp only [go_sem,hyb.len,Gq,d2];exact .mk _ (.refl _) (.ah hid) ⟨_,by rw [hst]; rfl,by rw [hst]; exact hy.1⟩
  have e2:w.length≤st.length:=by grind
  have w1:IntKind.i64.wrap ((st.length:Int) - (w.length:Int))=((st.length - w.length:Nat):Int):=by grind [aY]
  obtain ⟨hb,ehb⟩:∃hb,upd h id (some (.obj [.v (.int .i64 n.op), .v (.int .i64 n.val.kind), .v (.int .i64 n.val.n), .s n.val.s, .v (.int .i64 n.attr.cat), .s n.attr.name, .v (.bool n.attr.must)] 52))=hb:=⟨_,rfl⟩;have hbid:hb id=some (.obj [.v (.int .i64 n.op), .v (.int .i64 n.val.kind), .v (.int .i64 n.val.n), .s n.val.s, .v (.int .i64 n.attr.cat), .s n.attr.name, .v (.bool n.attr.must)] 52):=by rw [←ehb]; exact ag ..
  have hsub:Ab.Sub h hb:=by rw [←ehb]; exact .ah hid
  rw [ehb] at hyb⊢;simp only [go_sem,hyb.len,Gq,d2,w1];refine .intro (fun m ρ h' =>h' =hb∧∃i:Nat,i≤w.length∧m=w.length - i∧(∀j,j<i→st[st.length - w.length+j]? =w[j]?)∧lk ρ 0=some y∧lk ρ 3=some (.ptr id 0)∧lk ρ 8=some (.v (.int .i64 ((st.length - w.length:Nat):Int)))∧lk ρ 36=some (.sl (w.map bC) .no)∧lk ρ 37=some (.v (.int .i64 w.length))∧lk ρ 38=some (.v (.int .i64 i))) w.length ?_ ?_
  ·refine ⟨rfl,0,by omega,rfl,fun j hj=>(by omega), ?_, ?_, ?_, ?_, ?_, ?_⟩<;>simp only [go_sem]
  ·rintro m ρ h' ⟨rfl,i,hi,rfl,hc,r0,r3,r8,r36,r37,r38⟩
   simp only [go_sem,r37,r38];refine .intro (fun e=> ?_) (fun e=> ?_)
   ·have hlt:i<w.length:=Gx e
    have w2:IntKind.i64.wrap ((i:Int)+1)=((i+1:Nat):Int):=by grind [aY]
    have w3:IntKind.i64.wrap (((st.length - w.length:Nat):Int)+(i:Int))=((st.length - w.length+i:Nat):Int):=by grind [aY]
    have hlt2:st.length - w.length+i<st.length:=by omega
    simp only [go_sem,r36,r38];refine .at i (by grind) (by rw [Gr]; rfl) ?_
    simp only [go_sem,r0,r8,Gr,bC,w3];refine hyb.idx (gN st) (st.length - w.length+i) rfl (by grind) u4 u4a fun p hp=> ?_
    simp only [go_sem,hp _,Gr,bC];cases d3:(st[st.length - w.length+i]==w[i])
    ·have hst:bT st n=none:=by
      have:st.drop (st.length - w.length)≠w:=fun hh=>by
       grind
      simp [bT,hwd,this]
     simp only [go_sem];exact .mk _ (.refl _) hsub ⟨_,by rw [hst]; rfl,by rw [hst]; exact hy.1⟩
    ·simp only [go_sem,r38,w2]
     refine ⟨_, ?_,rfl,i+1,by omega,rfl,fun j hj=> ?_, ?_, ?_, ?_, ?_, ?_, ?_⟩
     ·omega
     ·grind
     all_goals simp only [go_sem,r0,r3,r8,r36,r37]
   ·have hge:i=w.length:=by grind
    subst hge;have hdrop:st.drop (st.length - w.length)=w:=by
     apply List.ext_getElem?
     grind
    have hst:bT st n=some (st.take (st.length - w.length)++ [n.op==2]):=by
     grind [bT]
    simp only [go_sem];refine .calls (hm1 id _) [0,1,2,3,4,5,6,7,8,9] (.hm1 hbid) (by kernel_rfl) rfl ?_
    simp only [go_sem,r0,r8];refine hyb.cut (x:= .i64) (st.length - w.length) (by rfl) rfl (by simp) u4 fun z hz=> ?_
    rw [←List.map_take] at hz;simp only [go_sem,r3,fe];refine hz.app (zs:= [.v (.bool (n.op==2))]) (gN _) (gN [n.op==2]) u4 (by decide) u4f u4n (fun k hk=>hk) (by grind [u4b]) fun z' h2 hz' => ?_
    refine ⟨fun j b hj=>((Sub.hm1 (ag ..)).trans hz'.1) j b hj, ?_⟩
    simp only [go_sem];have hz2:=hz'.less (Sub.ah (hy.1.none hid));refine .same (.refl _) ⟨z',by rw [hst]; rfl, ?_⟩
    rw [hst];simp only [List.map_append];exact hz2
theorem mB {l} (h:l.length≤32) (hs:bn [] l=none):bF l=1:=by
 grind [bF,Nat.not_lt]
theorem cO (st):∀(l:List bf) (i:Nat),bn st l=(match bn st (l.take i) with
  |none=>none
  |some st' =>bn st' (l.drop i))
 | [],i=>by simp [bn]
 |n::r,0=>by rfl
 |n::r,i+1=>by
  simp only [List.take_succ_cons,List.drop_succ_cons,bn];cases bT st n with
  |none=>rfl
  |some st' =>simp only; exact cO st' r i
theorem iP (st st') (l) (h:bn st l=some st'):st'.length≤st.length+l.length:=by
 induction l generalizing st with
 |nil=>grind [bn,Option.some.injEq]
 |cons n r ih=>
  simp only [bn] at h;cases hs:bT st n with
  |none=>grind
  |some s2=>
   grind [bT]
theorem tr (l) (h):aj Tryd.prog 27 [aH l] h fun r h' =>r= .v (.int .i64 (bF l))∧h' =h:=by
 refine aj.body hU hm Tryd.func27 rfl (by kernel_rfl) 38 rfl [.tmp 2] rfl (Gp rfl) (fun hwf=> ?_)
 cases d1:decide (32<(l.length:Int))
 case true=>
  have e1:32<l.length:=by grind
  simp only [go_sem,aH,Gq,d1];exact .same (.refl _) ⟨by grind [bF,au],rfl⟩
 have e1:l.length≤32:=by grind
 simp only [go_sem,aH,Gq,d1];refine .intro (fun m ρ h' =>∃(i:Nat) (y:AV) (st:List Bool),WrA 4 h h' y (st.map bC)∧bn [] (l.take i)=some st∧i≤l.length∧m=l.length - i∧
  lk ρ 0=some (aH l)∧lk ρ 3=some y∧lk ρ 10=some (aH l)∧lk ρ 11=some (.v (.int .i64 l.length))∧lk ρ 12=some (.v (.int .i64 i))) l.length ?_ ?_
 ·refine ⟨0,_,[], .nil (.refl _),rfl,by omega,rfl, ?_, ?_, ?_, ?_, ?_⟩<;>simp only [go_sem,aH]
 ·rintro m ρ h' ⟨i,y,st,hy,hst,hi,rfl,r0,r3,r10,r11,r12⟩
  have hsl:=iP _ _ _ hst;have hsl:st.length≤i:=by grind
  simp only [go_sem,r11,r12];refine .intro (fun e=> ?_) (fun e=> ?_)
  ·have hlt:i<l.length:=Gx e
   have w1:IntKind.i64.wrap ((i:Int)+1)=((i+1:Nat):Int):=by grind [aY]
   have hnx:bn [] (l.take (i+1))=bT st l[i]:=by
    rw [cO [] _ i,List.take_take,Nat.min_eq_left (by omega),hst,List.take_succ_eq_append_getElem hlt,List.drop_append_of_le_length (by grind),List.drop_of_length_le (by grind)]
    grind [bn,bT]
   simp only [go_sem,r10,r12,aH];refine .at i (by grind) (by rw [Gr]; rfl) ?_
   simp only [go_sem,Gr,aW];intro id hid;simp only [go_sem,r3];have hyb:=hy.sub (Sub.ah (k:=some (.obj [.v (.int .i64 l[i].op), .v (.int .i64 l[i].val.kind), .v (.int .i64 l[i].val.n), .s l[i].val.s, .v (.int .i64 l[i].attr.cat), .s l[i].attr.name, .v (.bool l[i].attr.must)] 52)) hid);refine (xW y st l[i] h _ hyb (by omega)).mono fun r h2 ⟨z,e2,hz⟩=> ?_
   subst e2;cases hsd:bT st l[i] with
   |none=>
    rw [hsd] at hz;simp only [go_sem,Option.isSome_none];refine .mk _ (.refl _) hz ⟨?_,rfl⟩;rw [mB e1 (by rw [cO [] l (i+1),hnx,hsd])]; rfl
   |some st' =>
    rw [hsd] at hz hnx;simp only [go_sem,r12,Option.isSome_some,w1];refine ⟨_, ?_,i+1,z,st',hz,hnx,by omega,rfl, ?_, ?_, ?_, ?_, ?_⟩
    ·omega
    all_goals simp only [go_sem,r0,r10,r11,aH]
  ·have hge:i=l.length:=by grind
   subst hge;rw [List.take_length] at hst;have he:bF l=if l= []∨st= [false] then 0 else 1:=by
    simp_all [bF,if_neg]
   cases d2:decide (0<(l.length:Int))
   ·have e2:l= []:=by simp_all
    simp only [go_sem,r0,aH,Gq,d2];exact .mk _ (.refl _) hy.1 ⟨by rw [he,if_pos (.inl e2)]; rfl,rfl⟩
   have e2:l≠ []:=by grind
   cases d3:((st.length:Int) !=1)
   case true=>
    have e3:st≠ [false]:=by grind
    simp only [go_sem,r0,r3,aH,Gq,d2,hy.len,d3];exact .mk _ (.refl _) hy.1 ⟨by rw [he,if_neg (by grind)]; rfl,rfl⟩
   have e3:st.length=1:=by
    grind
   obtain ⟨b,rfl⟩:=List.length_eq_one_iff.1 e3;simp only [go_sem,r0,r3,aH,Gq,d2,hy.len];refine hy.idx (gN [b]) 0 rfl (by simp) u4 u4a fun p hp=> ?_
   simp only [go_sem,hp _,bC,List.getElem_cons_zero];cases b
   ·simp only [go_sem]
    exact .mk _ (.refl _) hy.1 ⟨by rw [he,if_pos (.inr rfl)]; rfl,rfl⟩
   ·simp only [go_sem]
    exact .mk _ (.refl _) hy.1 ⟨by rw [he,if_neg (by grind)]; rfl,rfl⟩
end Go.Proofs.YtfpckjaeeiiipaaDoor
