/- The law GuardDuties: pack 2 of its texts. -/
import Derived.ScopeJumps
import Derived.Below
import Derived.OpenShut
import Derived.Lib.ItoaLen
import Derived.Lib.Join
import Derived.Lib.Small
import Derived.Test.YtnlbeamjpefpfaaGreatDoorPk1
set_option linter.unusedSimpArgs false
set_option linter.unusedVariables false
namespace Go.Ab
open Go
section
variable {P : Program} {U : TypeId → TI} {ops : Array Oper} {md : Region.Mode} {h : Heap}
def gz (F:EF):Option Tmp→AV→EF
 |some d,x=>upd F d (some x)
 |none,_=>F
theorem oR (ρ:Env) (d:Option Tmp) (x:AV):lk (put ρ d x)=gz (lk ρ) d x:=by
 cases d with
 |none=>rfl
 |some d=>
  funext t
  simp only [put,lk,gz,upd]
  by_cases e:d=t
  ·subst e; simp
  ·have e' :¬t=d:=fun e' =>e e'.symm
   simp [e,e']
def cB (ops:Array Oper) (F:EF) (o:Oper):Option Bool:=
 match o.guard with
 |none=>some true
 |some (g,want)=>match (ops[g]?).bind (·.dst) with
  |some d=>match F d with
   |some (.v (.bool t))=>some (t==want)
   |some (.v (.tuple _))=>some false
   |_=>none
  |none=>none
def tH (P:Program) (ops:Array Oper) (h:Heap) (o:Oper) (K:EF→Prop) (F:EF):Prop:=
 (cB ops F o=some true∧∃X,DOK P o F h X∧K (gz F o.dst X))∨(cB ops F o=some false∧K (gz F o.dst (.v undef)))
def dOp (P:Program) (ops:Array Oper) (h:Heap) (i:Nat) (K:EF→Prop) (F:EF):Prop:=
 match ops[i]? with
 |none=>K F
 |some o=>tH P ops h o K F
def dList (P:Program) (ops:Array Oper) (h:Heap) (Q:EF→Prop):List Oper→EF→Prop
 | [],F=>Q F
 |o::r,F=>tH P ops h o (dList P ops h Q r) F
def GK (P:Program) (md:Region.Mode) (ops:Array Oper) (h:Heap) (Q:EF→Prop):Nat→Array Bool→EF→Prop
 |0,listed,F=>Region.ready md ops listed= []∧Q F
 |fuel+1,listed,F=>(Region.ready md ops listed= []→Q F)∧∀i∈Region.ready md ops listed,dOp P ops h i (GK P md ops h Q fuel (listed.setIfInBounds i true)) F
theorem Ck {o:Oper} {F:EF} {K K' :EF→Prop} (hk:∀F,K F→K' F) (hs:tH P ops h o K F):tH P ops h o K' F:=by
 rcases hs with ⟨h1,X,h2,h3⟩|⟨h1,h2⟩
 ·exact .inl ⟨h1,X,h2,hk _ h3⟩
 ·exact .inr ⟨h1,hk _ h2⟩
theorem Ak {i:Nat} {F:EF} {K K' :EF→Prop} (hk:∀F,K F→K' F) (hs:dOp P ops h i K F):dOp P ops h i K' F:=by
 unfold dOp at*;split
 ·rename_i ho; simp only [ho] at hs; exact hk _ hs
 ·rename_i o ho; simp only [ho] at hs; exact Ck hk hs
def YD (P:Program) (ops:Array Oper) (h:Heap) (o:Oper) (X:AV) (F:EF):Prop:=
 (cB ops F o=some true∧DOK P o F h X)∨(cB ops F o=some false∧X= .v undef)
theorem Al {o:Oper} {X:AV} {F:EF} {K:EF→Prop} (hy:YD P ops h o X F) (hk:K (gz F o.dst X)):tH P ops h o K F:=by
 rcases hy with ⟨h1,h2⟩|⟨h1,rfl⟩
 ·exact .inl ⟨h1,X,h2,hk⟩
 ·exact .inr ⟨h1,hk⟩
theorem tr {o:Oper} {F:EF} {K:EF→Prop} (hs:tH P ops h o K F):∃X,YD P ops h o X F∧K (gz F o.dst X):=by
 rcases hs with ⟨h1,X,h2,h3⟩|⟨h1,h2⟩
 ·exact ⟨X, .inl ⟨h1,h2⟩,h3⟩
 ·exact ⟨_, .inr ⟨h1,rfl⟩,h2⟩
theorem nw {F:EF} {d:Option Tmp} {x:AV} {t:Nat} (hd:∀e,d=some e→e≠t):gz F d x t=F t:=by
 cases d with
 |none=>rfl
 |some e=>exact ag _ _ (fun e' =>hd e rfl e'.symm)
theorem kU (F:EF) {x y:Option Tmp} (v u:AV) (hd:∀d,x=some d→y≠some d):gz (gz F x v) y u=gz (gz F y u) x v:=by
 cases x with
 |none=>rfl
 |some d=>cases y with
  |none=>rfl
  |some e=>
   have hne:d≠e:=fun he=>hd d rfl (he▸rfl)
   funext t
   simp only [gz,upd]
   by_cases h1:t=e
   ·subst h1
    have:¬t=d:=fun h=>hne h.symm
    simp [this]
   ·simp [h1]
theorem xF {o:Oper} {F F' :EF} {X:AV} (hf:∀t∈fm o.op,F t=F' t) (hd:DOK P o F h X):DOK P o F' h X:=
 fun c a hs g hdf hr=>hd c a hs g hdf fun t ht x hx=>hr t ht x (by rw [←hf t ht]; exact hx)
theorem j7 {o:Oper} {t:Nat} (ht:t∈fm o.op):t∈o.looksAt ops:=by
 simp only [Oper.looksAt,List.mem_append];exact .inl ht
theorem dS {o:Oper} {F F' :EF} (hf:∀t∈o.looksAt ops,F t=F' t):cB ops F o=cB ops F' o:=by
 unfold cB;split
 ·rfl
 ·rename_i g want hg
  split
  ·rename_i d hd
   have:F d=F' d:=hf d (by simp [Oper.looksAt,hg,hd])
   rw [this]
  ·rfl
theorem zS {o:Oper} {F F' :EF} {X:AV} (hf:∀t∈o.looksAt ops,F t=F' t) (hy:YD P ops h o X F):YD P ops h o X F' :=by
 rcases hy with ⟨h1,h2⟩|⟨h1,h2⟩
 ·exact .inl ⟨by rw [←dS hf]; exact h1,xF (fun t ht=>hf t (j7 ht)) h2⟩
 ·exact .inr ⟨by rw [←dS hf]; exact h1,h2⟩
theorem DG {j:Nat} {oi oj:Oper} {X:AV} (hj:ops[j]? =some oj) (hap:oi.apart ops oj=true) {K:EF→Prop} {F:EF}
  (hy:YD P ops h oi X F) (hs:dOp P ops h j K (gz F oi.dst X)):dOp P ops h j (fun F' =>YD P ops h oi X F'∧K (gz F' oi.dst X)) F:=by
 obtain ⟨h1,h2,h3⟩:=Oper.apart_spec hap;unfold dOp at*;simp only [hj] at*;have hlook:∀t∈oj.looksAt ops,gz F oi.dst X t=F t:=fun t ht=>nw fun e he hte=>h1 e he (hte▸ht)
 have hlook2:∀u,∀t∈oi.looksAt ops,F t=gz F oj.dst u t:=fun u t ht=>(nw fun e he hte=>h3 e he (hte▸ht)).symm
 rcases hs with ⟨w1,Y,w2,w3⟩|⟨w1,w2⟩
 ·refine .inl ⟨by rw [←dS hlook]; exact w1,Y,xF (fun t ht=>hlook t (j7 ht)) w2,zS (hlook2 Y) hy, ?_⟩
  rw [←kU F X Y h2]; exact w3
 ·refine .inr ⟨by rw [←dS hlook]; exact w1,zS (hlook2 _) hy, ?_⟩
  rw [←kU F X _ h2]; exact w2
theorem pL {i:Nat} {oi:Oper} {X:AV} {F:EF} {K:EF→Prop} (hi:ops[i]? =some oi) (hy:YD P ops h oi X F) (hk:K (gz F oi.dst X)):dOp P ops h i K F:=by
 unfold dOp;simp only [hi];exact Al hy hk
theorem Cj {Q:EF→Prop} {i:Nat} {oi:Oper} {X:AV} (hi:ops[i]? =some oi):
  ∀(fuel:Nat) (listed:Array Bool) (F:EF),
   (∀j oj,ops[j]? =some oj→j≠i→listed.getD j true=false→(∀e∈oj.after,Region.binds md e=true→e.on≠i)→oi.apart ops oj=true)→
   i∈Region.ready md ops listed→YD P ops h oi X F→
   GK P md ops h Q fuel (listed.setIfInBounds i true) (gz F oi.dst X)→GK P md ops h Q (fuel+1) listed F:=by
 intro fuel
 induction fuel with
 |zero=>
  intro listed F _ hr hy H;refine ⟨fun e=>(by rw [e] at hr; cases hr),fun j hj=> ?_⟩
  by_cases hji:j=i
  ·subst hji; exact pL hi hy H
  ·have:=ready_mono hj hji
   rw [H.1] at this;cases this
 |succ fuel ih=>
  intro listed F hfree hr hy H;refine ⟨fun e=>(by rw [e] at hr; cases hr),fun j hj=> ?_⟩
  by_cases hji:j=i
  ·subst hji; exact pL hi hy H
  ·have h1:=H.2 j (ready_mono hj hji)
   obtain ⟨hjun,oj,hoj,hall⟩:=mem_ready.1 hj;have hnot:∀e∈oj.after,Region.binds md e=true→e.on≠i:=fun e he hb heq=>by
    have h1:=hall e he hb;have h0:=(mem_ready.1 hr).1;rw [heq] at h1;rcases Nat.lt_or_ge i listed.size with h' |h'
    ·simp [h'] at h0 h1; rw [h0] at h1; cases h1
    ·simp [Array.getElem?_eq_none h'] at h1
   have h2:=DG hoj (hfree j oj hoj hji hjun hnot) hy h1;have hfree' :∀k ok,ops[k]? =some ok→k≠i→(listed.setIfInBounds j true).getD k true=false→
     (∀e∈ok.after,Region.binds md e=true→e.on≠i)→oi.apart ops ok=true:=fun k ok hk hki hun hno=>by
    refine hfree k ok hk hki ?_ hno
    by_cases hjk:j=k
    ·subst hjk; exact hjun
    ·rw [getD_set_ne true hjk] at hun; exact hun
   refine Ak (fun F' h3=>ih (listed.setIfInBounds j true) F' hfree' (ready_mono hr (Ne.symm hji)) h3.1 ?_) h2
   rw [Array.setIfInBounds_comm _ _ hji];exact h3.2
theorem Aj {Q:EF→Prop}:∀(l:List Oper) (k:Nat) (listed:Array Bool) (F:EF),(∀j,l[j]? =ops[k+j]?)→
  Region.lexFrom md ops l.length k listed=true→dList P ops h Q l F→GK P md ops h Q l.length listed F
 | [],_,_,_,_,hB,hd=>⟨by simpa [Region.lexFrom] using hB,hd⟩
 |o::l,k,listed,F,hl,hB,hd=>by
  have h0:ops[k]? =some o:=by simpa using (hl 0).symm
  simp only [List.length_cons,Region.lexFrom,Bool.and_eq_true] at hB;obtain ⟨⟨hr,hf⟩,hB'⟩:=hB;obtain ⟨X,hy,hK⟩:=tr hd;exact Cj h0 l.length listed F (Region.free_spec h0 hf) (by simpa using hr) hy
   (Aj l (k+1) _ _ (fun j=>by have:=hl (j+1); simpa [Nat.add_assoc,Nat.add_comm 1 j] using this) hB' hK)
def l6 (c:Cx) (n:Nat) (F:EF) (a:Act):Prop:=a.tmps.size=n∧a.defers= []∧∀t x,F t=some x→Rep c x (a.tmps.getD t undef)
theorem l6.put {c:Cx} {n:Nat} {F:EF} {a:Act} (he:l6 c n F a) {d:Option Tmp} (hd:dX n d=true) {x:AV} {u:Value} (hx:Rep c x u):l6 c n (gz F d x) (a.put d u):=by
 obtain ⟨h1,h2,h3⟩:=he;cases d with
 |none=>exact ⟨h1,h2,h3⟩
 |some d=>
  have hd' :d<a.tmps.size:=by rw [h1]; exact VC hd
  refine ⟨by simp [Act.put,h1],h2,fun t y hy=> ?_⟩
  simp only [gz,upd] at hy;split at hy
  ·rename_i e; subst e
   simp only [Option.some.injEq] at hy; subst hy
   simpa [Act.put,hd'] using hx
  ·rename_i e
   have:=h3 t y hy;have e' :¬d=t:=fun h=>e h.symm
   simpa [Act.put,Array.getElem?_setIfInBounds_ne e'] using this
theorem l6.mono {c c' :Cx} {n:Nat} {F:EF} {a:Act} (he:Ext c c') (hf:l6 c n F a):l6 c' n F a:=⟨hf.1,hf.2.1,fun t x hx=>(hf.2.2 t x hx).mono he⟩
theorem ju {c:Cx} {n:Nat} {F:EF} {a:Act} {o:Oper} {b:Bool} (he:l6 c n F a) (hw:cB ops F o=some b):Region.wanted o (yielded ops a.tmps)=b:=by
 unfold cB at hw;split at hw
 ·rename_i hg
  simp only [Option.some.injEq] at hw; subst hw
  simp [Region.wanted,hg]
 ·rename_i g want hg
  split at hw
  ·rename_i d hd
   split at hw
   ·rename_i t ht
    simp only [Option.some.injEq] at hw; subst hw
    have h1:=(he.2.2 d _ ht).bS;have h2:a.tmps[d]? =some (.bool t):=by
     by_cases hlt:d<a.tmps.size
     ·simpa [hlt] using h1
     ·have e:a.tmps.getD d undef=undef:=by simp [Nat.le_of_not_lt hlt]
      rw [e] at h1; cases h1
    have h3:yielded ops a.tmps g=some t:=by simp [yielded,hd,h2]
    simp [Region.wanted,hg,h3]
   ·rename_i vs ht
    simp only [Option.some.injEq] at hw; subst hw
    have h1:=(he.2.2 d _ ht).bS;have h3:yielded ops a.tmps g=none:=by
     by_cases hlt:d<a.tmps.size
     ·have e:a.tmps[d]? =some (.tuple vs):=by simpa [hlt] using h1
      simp [yielded,hd,e]
     ·have e:a.tmps[d]? =none:=by simp [Nat.le_of_not_lt hlt]
      simp [yielded,hd,e]
    simp [Region.wanted,hg,h3]
   ·cases hw
  ·cases hw
theorem xO {n:Nat} {i:Nat} {K:EF→Prop} {K' :Act→World→Prop} {Q:Exit→Act→World→Prop} {c0:Cx} (hdst:∀o∈ops.toList,dX n o.dst=true)
  (hk:∀c F a,Ext c0 c→Sub h c.h→Good c→l6 c n F a→K F→K' a c.w) {c:Cx} {F:EF} {a:Act} (hE:Ext c0 c) (hs:Sub h c.h) (g:Good c) (he:l6 c n F a) (hd:dOp P ops h i K F):wpOp P ops Q i K' a c.w:=by
 unfold dOp at hd;unfold wpOp;split
 ·rename_i ho; simp only [ho] at hd; exact hk c F a hE hs g he hd
 ·rename_i o ho
  simp only [ho] at hd;have hdo:dX n o.dst=true:=hdst o (by simpa using Array.mem_of_getElem? ho)
  rcases hd with ⟨h1,X,h2,h3⟩|⟨h1,h2⟩
  ·rw [if_pos (ju he h1)]
   left
   have hu:=h2 c a hs g he.2.1 (fun t _ x hx=>he.2.2 t x hx)
   have next:∀u w',(∃c',c'.w=w'∧Good c'∧Ext c c'∧Sub h c'.h∧Rep c' X u)→K' (a.put o.dst u) w' :=by
    rintro u w' ⟨c',rfl,k1,k2,k3,k4⟩
    exact hk c' _ _ (hE.trans k2) k3 k1 ((he.mono k2).put hdo k4) h3
   unfold Oper.wp;generalize (execOp a.eval o).run P c.w=r at hu;cases r with
   |ok nx w' =>
    cases nx<;>simp only [DUpon] at hu<;>simp only [Oper.upon]
    case value u=>exact next u w' hu
    case skip=>exact next undef w' hu
    case enter f args=>
     obtain ⟨rfl,hc⟩:=hu;exact hc.mono fun e w'' ⟨u,he,hcm⟩=>by subst he; exact next u w'' hcm
   |halt x w' =>exact hu.elim
  ·rw [if_neg (by rw [ju he h1]; simp)]
   exact hk c _ _ hE hs g (he.put hdo (.v _)) h2
theorem vh {n:Nat} {Q:EF→Prop} {Q' :Exit→Act→World→Prop} {c0:Cx} (hdst:∀o∈ops.toList,dX n o.dst=true)
  (hQ:∀c F a,Ext c0 c→Sub h c.h→Good c→l6 c n F a→Q F→Q' .normal a c.w):∀(fuel:Nat) (listed:Array Bool) (c:Cx) (F:EF) (a:Act),Ext c0 c→Sub h c.h→Good c→l6 c n F a→
   GK P md ops h Q fuel listed F→wpAny P md ops Q' fuel listed a c.w
 |0,_,c,F,a,h1,h2,h3,h4,hd=>⟨hd.1,hQ c F a h1 h2 h3 h4 hd.2⟩
 |fuel+1,listed,c,F,a,h1,h2,h3,h4,hd=>
  ⟨fun e=>hQ c F a h1 h2 h3 h4 (hd.1 e),fun i hi=>xO hdst (fun c F a k1 k2 k3 k4 hk=>vh hdst hQ fuel _ c F a k1 k2 k3 k4 hk) h1 h2 h3 h4 (hd.2 i hi)⟩
def Ai (P:Program) (md:Region.Mode) (ops:Array Oper) (h:Heap) (z:Nat) (Q:EF→Prop):Nat→Array Bool→EF→Prop
 |0,listed,F=>(Region.ready md ops listed= [z]∧Region.ready md ops (listed.setIfInBounds z true)= [])∧Q F
 |fuel+1,listed,F=>Region.ready md ops listed≠ []∧∀i∈Region.ready md ops listed,dOp P ops h i (Ai P md ops h z Q fuel (listed.setIfInBounds i true)) F
def HC (md:Region.Mode) (ops:Array Oper) (z:Nat):Nat→Nat→Array Bool→Bool
 |0,_,listed=>Region.ready md ops listed== [z] && (Region.ready md ops (listed.setIfInBounds z true)).isEmpty
 |fuel+1,k,listed=>(Region.ready md ops listed).contains k && Region.free md ops listed k && HC md ops z fuel (k+1) (listed.setIfInBounds k true)
theorem tG {n z:Nat} {Q:EF→Prop} {Q' :Exit→Act→World→Prop} {c0:Cx} (hdst:∀o∈ops.toList,dX n o.dst=true)
  (hQ:∀c F a,Ext c0 c→Sub h c.h→Good c→l6 c n F a→Q F→wpOp P ops Q' z (fun a' w' =>Q' .normal a' w') a c.w):∀(fuel:Nat) (listed:Array Bool) (c:Cx) (F:EF) (a:Act),Ext c0 c→Sub h c.h→Good c→l6 c n F a→
   Ai P md ops h z Q fuel listed F→wpAny P md ops Q' (fuel+1) listed a c.w
 |0,listed,c,F,a,h1,h2,h3,h4,hd=>⟨fun e=>(by rw [hd.1.1] at e; cases e),fun i hi=>by
   rw [hd.1.1] at hi;obtain rfl:i=z:=by simpa using hi
   exact wpOp_mono (fun a w hh=>⟨hd.1.2,hh⟩) (hQ c F a h1 h2 h3 h4 hd.2)⟩
 |fuel+1,listed,c,F,a,h1,h2,h3,h4,hd=>
  ⟨fun e=>absurd e hd.1,fun i hi=>xO hdst (fun c F a k1 k2 k3 k4 hk=>tG hdst hQ fuel _ c F a k1 k2 k3 k4 hk) h1 h2 h3 h4 (hd.2 i hi)⟩
end
section
variable {P : Program} {U : TypeId → TI} {ops : Array Oper} {md : Region.Mode} {hm : Heap}
def dI:Op→Bool
 | .call c=>match c.callee with
  | .value _=>true
  | .builtin .append=>true
  | .builtin .copy=>true
  |_=>false
 | .alloc _=>true
 | .box _ _=>true
 | .store _ _ _=>true
 | .makeSlice _ _ _=>true
 | .makeMap _ _=>true
 | .mapUpdate _ _ _ _=>true
 |_=>false
def DPure (P:Program) (o:Oper) (F:EF) (hm:Heap) (X:AV):Prop:=
 ∀(c:Cx) (a:Act),Sub hm c.h→Good c→a.defers= []→(∀t∈fm o.op,∀x,F t=some x→Rep c x (a.tmps.getD t undef))→
  ∃u c',(execOp a.eval o).run P c.w= .ok (.value u) c'.w∧Good c'∧Ext c c'∧c'.h=c.h∧Rep c' X u
def EOK (P:Program) (o:Oper) (F:EF) (h:Heap) (Q:AV→Heap→Prop):Prop:=
 ∀(c:Cx) (a:Act),Sub h c.h→Good c→a.defers= []→(∀t∈fm o.op,∀x,F t=some x→Rep c x (a.tmps.getD t undef))→jU P c Q ((execOp a.eval o).run P c.w)
theorem ri {c:Cx} {a:Act} {ρ:Env} {o:Oper} (hd:a.defers= []) (hr:∀t∈fm o.op,∀x,lk ρ t=some x→Rep c x (a.tmps.getD t undef)):cj c a.tmps.size (restrict ρ (fm o.op)) a:=
 ⟨rfl,hd,fun t x hx=>by
  rw [j0] at hx;split at hx
  ·rename_i hc
   exact hr t (by rwa [List.contains_iff_mem] at hc) x hx
  ·cases hx⟩
theorem tK (ρ:Env) (o:Oper):∀x∈o.op.operands,ev (restrict ρ (fm o.op)) x=ev ρ x:=fun x hx=>Ax fun t ht=>by
 subst ht;rw [j0,if_pos];rw [List.contains_iff_mem];simp only [fm,List.mem_filterMap];exact ⟨.tmp t,by simpa using hx,rfl⟩
theorem C5 {ρ:Env} {o:Oper} {Q:AV→Prop} (hU:∀t,aO P U t) (hp:pv U ρ hm o.op Q):∃X,Q X∧DPure P o (lk ρ) hm X:=by
 rw [←Bt (tK ρ o)] at hp;obtain ⟨X,hQ,hX⟩:=wB hU hp;exact ⟨X,hQ,fun c a hs g hd hr=>hX c a _ hs g (ri hd hr)⟩
theorem BW {ρ ρ' :Env} {h:Heap} {o:Oper} {Q:AV→Heap→Prop} (hb:dI o.op=true) (he:∀x∈o.op.operands,ev ρ x=ev ρ' x):bg P U ρ h o Q=bg P U ρ' h o Q:=by
 obtain ⟨d,op,t,p,a,g⟩:=o;simp only at hb he;cases op with
 |alloc t=>rfl
 |box t x=>simp only [bg,withv,he x (by simp [Op.operands])]
 |store t a x=>simp only [bg,withv,he a (by simp [Op.operands]),he x (by simp [Op.operands])]
 |makeSlice t l m=>simp only [bg,withv,he l (by simp [Op.operands]),he m (by simp [Op.operands])]
 |makeMap t r=>
  cases r with
  |none=>rfl
  |some x=>simp only [bg,Ee,withv,he x (by simp [Op.operands])]
 |mapUpdate t x y z=>simp only [bg,withv,he x (by simp [Op.operands]),he y (by simp [Op.operands]),he z (by simp [Op.operands])]
 |call c=>
  obtain ⟨cal,args,ts⟩:=c;have ha:∀x∈args.toList,ev ρ x=ev ρ' x:=fun x hx=>he x (by simp only [Op.operands,Call.operands,Array.mem_append]; exact .inr (by simpa using hx))
  cases cal with
  |value q=>
   simp only [bg,withv,withvs,he q (by simp [Op.operands,Call.operands]),kO ha]
  |builtin b=>
   cases b with
   |append=>
    simp only [bg];split
    ·rename_i x y ts' tx h1 h2
     simp only [withv,ha x (by rw [h1]; simp),ha y (by rw [h1]; simp)]
    ·rfl
   |copy=>
    simp only [bg];split
    ·rename_i x y ts' tx h1 h2
     simp only [withv,ha x (by rw [h1]; simp),ha y (by rw [h1]; simp)]
    ·rfl
   |_=>simp [dI] at hb
  |_=>simp [dI] at hb
 |_=>simp [dI] at hb
def vcE (P:Program) (U:TypeId→TI) (ρ:Env) (h:Heap) (o:Oper) (Q:AV→Heap→Prop):Prop:=bg P U ρ h o Q
theorem yK {ρ:Env} {h:Heap} {o:Oper} {Q:AV→Heap→Prop} (hU:∀t,aO P U t) (hb:dI o.op=true) (hk:vcE P U ρ h o Q):EOK P o (lk ρ) h Q:=by
 intro c a hs g hd hr;unfold vcE at hk;rw [←BW hb (tK ρ o)] at hk;exact jJ hU hk hs g (ri hd hr)
def DQ (P:Program) (o:Oper) (F:EF) (hm:Heap) (X:AV):Prop:=∀h,Sub hm h→EOK P o F h fun x h' =>x=X∧h' =h
theorem DPure.quiet {o:Oper} {F:EF} {X:AV} (hp:DPure P o F hm X):DQ P o F hm X:=by
 intro h hs c a hc g hd hr;obtain ⟨u,c',e1,g',hE,e2,hr'⟩:=hp c a (fun i b hb=>hc i b (hs i b hb)) g hd hr
 rw [e1];exact ⟨c',X,h,rfl,g',hE,hr',by rw [e2]; exact hc,rfl,rfl⟩
def FnQ (P:Program) (f:FuncId) (args:List AV) (hm:Heap) (k:AV→Prop):Prop:=∃X,(∀h,Sub hm h→ak P f args h fun x h' =>x=X∧h' =h)∧k X
def vcQ (P:Program) (U:TypeId→TI) (ρ:Env) (hm:Heap) (o:Oper) (k:AV→Prop):Prop:=match o.op with
 | .call c=>match c.callee with
  | .value q=>withv ρ q fun y=>match y with
   | .fn f cap=>withvs ρ c.args.toList fun ys=>FnQ P f (ys++cap) hm k
   |_=>False
  |_=>False
 |_=>False
theorem yM {ρ:Env} {o:Oper} {k:AV→Prop} (hU:∀t,aO P U t) (hk:vcQ P U ρ hm o k):∃X,k X∧DQ P o (lk ρ) hm X:=by
 obtain ⟨d,op,t,p,a,g⟩:=o;unfold vcQ at hk;simp only at hk;split at hk
 ·rename_i cl
  obtain ⟨cal,args,ts⟩:=cl;simp only at hk;split at hk
  ·rename_i q
   obtain ⟨y,hy,hk⟩:=aH hk;split at hk
   ·rename_i f cap
    obtain ⟨ys,hys,X,hf,hQ⟩:=eY hk;refine ⟨X,hQ,fun h hs=>yK hU rfl ?_⟩
    simp only [vcE,bg,withv,hy,withvs,hys];exact hf h hs
   ·exact hk.elim
  ·exact hk.elim
 ·exact hk.elim
def nQ (P:Program) (ops:Array Oper) (hm:Heap) (o:Oper) (K:EF→Heap→Prop) (F:EF) (h:Heap):Prop:=
 (cB ops F o=some true∧(dI o.op=true∧(∃Q:AV→Heap→Prop,EOK P o F h Q∧∀X h',Q X h'→Sub hm h'∧K (gz F o.dst X) h')∨∃X,DQ P o F hm X∧K (gz F o.dst X) h))∨
 (cB ops F o=some false∧K (gz F o.dst (.v undef)) h)
def hOp (P:Program) (ops:Array Oper) (hm:Heap) (i:Nat) (K:EF→Heap→Prop) (F:EF) (h:Heap):Prop:=
 match ops[i]? with
 |none=>K F h
 |some o=>nQ P ops hm o K F h
def vB (P:Program) (md:Region.Mode) (ops:Array Oper) (hm:Heap) (Q:EF→Heap→Prop):Nat→Array Bool→EF→Heap→Prop
 |0,listed,F,h=>Region.ready md ops listed= []∧Q F h
 |fuel+1,listed,F,h=>(Region.ready md ops listed= []→Q F h)∧∀i∈Region.ready md ops listed,hOp P ops hm i (vB P md ops hm Q fuel (listed.setIfInBounds i true)) F h
theorem CD {o:Oper} {F:EF} {h:Heap} {K K' :EF→Heap→Prop} (hk:∀F h,K F h→K' F h) (hs:nQ P ops hm o K F h):nQ P ops hm o K' F h:=by
 rcases hs with ⟨h1,⟨h2,Q,h3,h4⟩|⟨X,h3,h4⟩⟩|⟨h1,h2⟩
 ·exact .inl ⟨h1, .inl ⟨h2,Q,h3,fun X h' hq=>⟨(h4 X h' hq).1,hk _ _ (h4 X h' hq).2⟩⟩⟩
 ·exact .inl ⟨h1, .inr ⟨X,h3,hk _ _ h4⟩⟩
 ·exact .inr ⟨h1,hk _ _ h2⟩
theorem gL {i:Nat} {F:EF} {h:Heap} {K K' :EF→Heap→Prop} (hk:∀F h,K F h→K' F h) (hs:hOp P ops hm i K F h):hOp P ops hm i K' F h:=by
 unfold hOp at*;split
 ·rename_i ho; simp only [ho] at hs; exact hk _ _ hs
 ·rename_i o ho; simp only [ho] at hs; exact CD hk hs
def YP (P:Program) (ops:Array Oper) (hm:Heap) (o:Oper) (X:AV) (F:EF):Prop:=
 (cB ops F o=some true∧DQ P o F hm X)∨(cB ops F o=some false∧X= .v undef)
theorem AO {o:Oper} {X:AV} {F:EF} {h:Heap} {K:EF→Heap→Prop} (hy:YP P ops hm o X F) (hk:K (gz F o.dst X) h):nQ P ops hm o K F h:=by
 rcases hy with ⟨h1,h3⟩|⟨h1,rfl⟩
 ·exact .inl ⟨h1, .inr ⟨X,h3,hk⟩⟩
 ·exact .inr ⟨h1,hk⟩
theorem jV {o:Oper} {F:EF} {h:Heap} {K:EF→Heap→Prop} (he:dI o.op=false) (hs:nQ P ops hm o K F h):∃X,YP P ops hm o X F∧K (gz F o.dst X) h:=by
 rcases hs with ⟨h1,⟨h2,_⟩|⟨X,h3,h4⟩⟩|⟨h1,h2⟩
 ·rw [he] at h2; cases h2
 ·exact ⟨X, .inl ⟨h1,h3⟩,h4⟩
 ·exact ⟨_, .inr ⟨h1,rfl⟩,h2⟩
theorem xG {o:Oper} {F F' :EF} {h:Heap} {Q:AV→Heap→Prop} (hf:∀t∈fm o.op,F t=F' t) (hd:EOK P o F h Q):EOK P o F' h Q:=
 fun c a hs g hdf hr=>hd c a hs g hdf fun t ht x hx=>hr t ht x (by rw [←hf t ht]; exact hx)
theorem zO {o:Oper} {F F' :EF} {X:AV} (hf:∀t∈fm o.op,F t=F' t) (hd:DQ P o F hm X):DQ P o F' hm X:=fun h hs=>xG hf (hd h hs)
theorem uU {o:Oper} {F F' :EF} {X:AV} (hf:∀t∈o.looksAt ops,F t=F' t) (hy:YP P ops hm o X F):YP P ops hm o X F' :=by
 rcases hy with ⟨h1,h2⟩|⟨h1,h2⟩
 ·exact .inl ⟨by rw [←dS hf]; exact h1,zO (fun t ht=>hf t (j7 ht)) h2⟩
 ·exact .inr ⟨by rw [←dS hf]; exact h1,h2⟩
theorem zu {j:Nat} {oi oj:Oper} {X:AV} (hj:ops[j]? =some oj) (hap:oi.apart ops oj=true) {K:EF→Heap→Prop} {F:EF} {h:Heap}
  (hy:YP P ops hm oi X F) (hs:hOp P ops hm j K (gz F oi.dst X) h):hOp P ops hm j (fun F' h' =>YP P ops hm oi X F'∧K (gz F' oi.dst X) h') F h:=by
 obtain ⟨h1,h2,h3⟩:=Oper.apart_spec hap;unfold hOp at*;simp only [hj] at*;have hlook:∀t∈oj.looksAt ops,gz F oi.dst X t=F t:=fun t ht=>nw fun e he hte=>h1 e he (hte▸ht)
 have hlook2:∀u,∀t∈oi.looksAt ops,F t=gz F oj.dst u t:=fun u t ht=>(nw fun e he hte=>h3 e he (hte▸ht)).symm
 rcases hs with ⟨w1,⟨w0,Q,w2,w3⟩|⟨Y,w2,w3⟩⟩|⟨w1,w2⟩
 ·refine .inl ⟨by rw [←dS hlook]; exact w1, .inl ⟨w0,Q,xG (fun t ht=>hlook t (j7 ht)) w2,fun Y h' hq=>⟨(w3 Y h' hq).1,uU (hlook2 Y) hy, ?_⟩⟩⟩
  rw [←kU F X Y h2]; exact (w3 Y h' hq).2
 ·refine .inl ⟨by rw [←dS hlook]; exact w1, .inr ⟨Y,zO (fun t ht=>hlook t (j7 ht)) w2,uU (hlook2 Y) hy, ?_⟩⟩
  rw [←kU F X Y h2]; exact w3
 ·refine .inr ⟨by rw [←dS hlook]; exact w1,uU (hlook2 _) hy, ?_⟩
  rw [←kU F X _ h2]; exact w2
theorem kR {i:Nat} {oi:Oper} {X:AV} {F:EF} {h:Heap} {K:EF→Heap→Prop} (hi:ops[i]? =some oi) (hy:YP P ops hm oi X F) (hk:K (gz F oi.dst X) h):hOp P ops hm i K F h:=by
 unfold hOp;simp only [hi];exact AO hy hk
theorem qB {Q:EF→Heap→Prop} {i:Nat} {oi:Oper} {X:AV} (hi:ops[i]? =some oi):
  ∀(fuel:Nat) (listed:Array Bool) (F:EF) (h:Heap),
   (∀j oj,ops[j]? =some oj→j≠i→listed.getD j true=false→(∀e∈oj.after,Region.binds md e=true→e.on≠i)→oi.apart ops oj=true)→
   i∈Region.ready md ops listed→YP P ops hm oi X F→
   vB P md ops hm Q fuel (listed.setIfInBounds i true) (gz F oi.dst X) h→vB P md ops hm Q (fuel+1) listed F h:=by
 intro fuel
 induction fuel with
 |zero=>
  intro listed F h _ hr hy H;refine ⟨fun e=>(by rw [e] at hr; cases hr),fun j hj=> ?_⟩
  by_cases hji:j=i
  ·subst hji; exact kR hi hy H
  ·have:=ready_mono hj hji
   rw [H.1] at this;cases this
 |succ fuel ih=>
  intro listed F h hfree hr hy H;refine ⟨fun e=>(by rw [e] at hr; cases hr),fun j hj=> ?_⟩
  by_cases hji:j=i
  ·subst hji; exact kR hi hy H
  ·have h1:=H.2 j (ready_mono hj hji)
   obtain ⟨hjun,oj,hoj,hall⟩:=mem_ready.1 hj;have hnot:∀e∈oj.after,Region.binds md e=true→e.on≠i:=fun e he hb heq=>by
    have h1:=hall e he hb;have h0:=(mem_ready.1 hr).1;rw [heq] at h1;rcases Nat.lt_or_ge i listed.size with h' |h'
    ·simp [h'] at h0 h1; rw [h0] at h1; cases h1
    ·simp [Array.getElem?_eq_none h'] at h1
   have h2:=zu hoj (hfree j oj hoj hji hjun hnot) hy h1;have hfree' :∀k ok,ops[k]? =some ok→k≠i→(listed.setIfInBounds j true).getD k true=false→
     (∀e∈ok.after,Region.binds md e=true→e.on≠i)→oi.apart ops ok=true:=fun k ok hk hki hun hno=>by
    refine hfree k ok hk hki ?_ hno
    by_cases hjk:j=k
    ·subst hjk; exact hjun
    ·rw [getD_set_ne true hjk] at hun; exact hun
   refine gL (fun F' h' h3=>ih (listed.setIfInBounds j true) F' h' hfree' (ready_mono hr (Ne.symm hji)) h3.1 ?_) h2
   rw [Array.setIfInBounds_comm _ _ hji];exact h3.2
def ni (md:Region.Mode) (ops:Array Oper):List Nat→Array Bool→Bool
 | [],listed=>(Region.ready md ops listed).isEmpty
 |k::ks,listed=>(match ops[k]? with
  |some o=>if dI o.op then Region.ready md ops listed== [k] else (Region.ready md ops listed).contains k && Region.free md ops listed k
  |none=>false) && ni md ops ks (listed.setIfInBounds k true)
def iF (P:Program) (ops:Array Oper) (hm:Heap) (Q:EF→Heap→Prop):List Nat→EF→Heap→Prop
 | [],F,h=>Q F h
 |i::r,F,h=>hOp P ops hm i (iF P ops hm Q r) F h
theorem mV {Q:EF→Heap→Prop}:∀(l:List Nat) (listed:Array Bool) (F:EF) (h:Heap),
  ni md ops l listed=true→iF P ops hm Q l F h→vB P md ops hm Q l.length listed F h
 | [],_,_,_,hB,hd=>⟨by simpa [ni] using hB,hd⟩
 |k::l,listed,F,h,hB,hd=>by
  simp only [ni,Bool.and_eq_true] at hB;obtain ⟨hB,hB'⟩:=hB;cases h0:ops[k]? with
  |none=>rw [h0] at hB; cases hB
  |some o=>
   rw [h0] at hB;simp only at hB;cases he:dI o.op with
   |true=>
    rw [he,if_pos rfl] at hB;have hB:=beq_iff_eq.1 hB;refine ⟨fun e=>(by rw [hB] at e; cases e),fun j hj=> ?_⟩
    rw [hB] at hj;obtain rfl:j=k:=by simpa using hj
    exact gL (fun F' h' hh=>mV l _ F' h' hB' hh) hd
   |false=>
    rw [he,if_neg (by simp),Bool.and_eq_true] at hB
    have hd:nQ P ops hm o (iF P ops hm Q l) F h:=by
     have:hOp P ops hm k (iF P ops hm Q l) F h:=hd;unfold hOp at this;simpa only [h0] using this
    obtain ⟨X,hy,hK⟩:=jV he hd;exact qB h0 l.length listed F h (Region.free_spec h0 hB.2) (by simpa using hB.1) hy (mV l _ _ _ hB' hK)
def jn (md:Region.Mode) (ops:Array Oper):List Nat→Array Bool→Bool
 | [],_=>true
 |k::ks,listed=>(match ops[k]? with
  |some o=>if dI o.op then Region.ready md ops listed== [k] else (Region.ready md ops listed).contains k && Region.free md ops listed k
  |none=>false) && jn md ops ks (listed.setIfInBounds k true)
def dN:List Nat→Array Bool→Array Bool
 | [],l=>l
 |k::ks,l=>dN ks (l.setIfInBounds k true)
theorem mC {Q:EF→Heap→Prop} (m:Nat):∀(l:List Nat) (listed:Array Bool) (F:EF) (h:Heap),
  jn md ops l listed=true→iF P ops hm (fun F h=>vB P md ops hm Q m (dN l listed) F h) l F h→vB P md ops hm Q (m+l.length) listed F h
 | [],_,_,_,_,hd=>hd
 |k::l,listed,F,h,hB,hd=>by
  simp only [jn,Bool.and_eq_true] at hB;obtain ⟨hB,hB'⟩:=hB;cases h0:ops[k]? with
  |none=>rw [h0] at hB; cases hB
  |some o=>
   rw [h0] at hB;simp only at hB;cases he:dI o.op with
   |true=>
    rw [he,if_pos rfl] at hB;have hB:=beq_iff_eq.1 hB;refine ⟨fun e=>(by rw [hB] at e; cases e),fun j hj=> ?_⟩
    rw [hB] at hj;obtain rfl:j=k:=by simpa using hj
    exact gL (fun F' h' hh=>mC m l _ F' h' hB' hh) hd
   |false=>
    rw [he,if_neg (by simp),Bool.and_eq_true] at hB
    have hd:nQ P ops hm o (iF P ops hm (fun F h=>vB P md ops hm Q m (dN (k::l) listed) F h) l) F h:=by
     have:hOp P ops hm k (iF P ops hm _ l) F h:=hd;unfold hOp at this;simpa only [h0] using this
    obtain ⟨X,hy,hK⟩:=jV he hd;exact qB h0 (m+l.length) listed F h (Region.free_spec h0 hB.2) (by simpa using hB.1) hy (mC m l _ _ _ hB' hK)
theorem lg {Q Q' :EF→Heap→Prop} (hk:∀F h,Q F h→Q' F h):∀(l:List Nat) (F:EF) (h:Heap),iF P ops hm Q l F h→iF P ops hm Q' l F h
 | [],F,h,hh=>hk F h hh
 |_::l,_,_,hh=>gL (fun F h hh=>lg hk l F h hh) hh
inductive Ord where
 |seq (l:List Nat)
 |fork (l:List Nat) (i:Nat) (a:Ord) (j:Nat) (b:Ord)
 |quiet (l:List Nat) (i:Nat) (t:Ord)
 |news (l:List Nat) (is:List Nat) (t:Ord)
def wo (md:Region.Mode) (ops:Array Oper):Nat→List Nat→Array Bool→Bool
 |0,l,_=>l.isEmpty
 |fuel+1,l,listed=>l.isEmpty||(!(Region.ready md ops listed).isEmpty && (Region.ready md ops listed).all fun i=>l.contains i && wo md ops fuel (l.erase i) (listed.setIfInBounds i true))
def KS (o:Oper):Bool:=o.guard.isNone && o.dst.isSome && match o.op with
 | .alloc _=>true
 |_=>false
def HM (md:Region.Mode) (ops:Array Oper) (is:List Nat) (listed:Array Bool):Bool:=
 wo md ops is.length is listed && decide is.Nodup && decide (is.map fun i=>(ops[i]?).bind (·.dst)).Nodup && is.all fun i=>((ops[i]?).map KS).getD false
def Ord.len:Ord→Nat
 | .seq l=>l.length
 | .fork l _ a _ _=>a.len+1+l.length
 | .quiet l _ t=>t.len+1+l.length
 | .news l is t=>t.len+is.length+l.length
def qj (md:Region.Mode) (ops:Array Oper):Ord→Array Bool→Bool
 | .seq l,listed=>ni md ops l listed
 | .fork l i a j b,listed=>jn md ops l listed && (Region.ready md ops (dN l listed)== [i,j]) && (a.len==b.len) &&
  (qj md ops a ((dN l listed).setIfInBounds i true) && qj md ops b ((dN l listed).setIfInBounds j true))
 | .quiet l i t,listed=>jn md ops l listed && (((Region.ready md ops (dN l listed)).contains i && Region.free md ops (dN l listed) i) && qj md ops t ((dN l listed).setIfInBounds i true))
 | .news l is t,listed=>jn md ops l listed && (HM md ops is (dN l listed) && qj md ops t (dN is (dN l listed)))
def rC (P:Program) (md:Region.Mode) (ops:Array Oper) (hm:Heap) (z:Nat) (Q:EF→Heap→Prop):Nat→Array Bool→EF→Heap→Prop
 |0,listed,F,h=>(Region.ready md ops listed= [z]∧Region.ready md ops (listed.setIfInBounds z true)= [])∧Q F h
 |fuel+1,listed,F,h=>Region.ready md ops listed≠ []∧∀i∈Region.ready md ops listed,hOp P ops hm i (rC P md ops hm z Q fuel (listed.setIfInBounds i true)) F h
def Closed (md:Region.Mode) (ops:Array Oper) (listed:Array Bool):Prop:=∀j oj,ops[j]? =some oj→listed.getD j false=true→∀e∈oj.after,Region.binds md e=true→listed.getD e.on false=true
def D9 (md:Region.Mode) (ops:Array Oper) (k:Nat):List Nat:=match ops[k]? with
 |some o=>(o.after.toList.filter (Region.binds md)).map (·.on)
 |none=> []
def lK (md:Region.Mode) (ops:Array Oper) (s:List Nat):List Nat:=(List.range ops.size).filter fun k=>s.contains k||s.any fun j=>(D9 md ops j).contains k
def wY (md:Region.Mode) (ops:Array Oper) (z:Nat):Bool:=(List.range ops.size).all fun k=>(lK md ops (lK md ops (lK md ops [z]))).contains k
theorem gX {z:Nat} {listed:Array Bool} (hc:Closed md ops listed) (hz:z∈Region.ready md ops listed) {s:List Nat} (hs:∀k∈s,k≠z→listed.getD k false=true):∀k∈lK md ops s,k≠z→listed.getD k false=true:=by
 intro k hk hkz;simp only [lK,List.mem_filter,Bool.or_eq_true,List.contains_iff_mem,List.any_eq_true] at hk;obtain ⟨_,h1|⟨j,hj,hp⟩⟩:=hk
 ·exact hs k h1 hkz
 ·unfold D9 at hp
  cases ho:ops[j]? with
  |none=>rw [ho] at hp; cases hp
  |some o=>
   rw [ho] at hp;simp only [List.mem_map,List.mem_filter] at hp;obtain ⟨e,⟨he,hb⟩,rfl⟩:=hp
   by_cases hjz:j=z
   ·subst hjz
    obtain ⟨_,oz,hoz,hall⟩:=mem_ready.1 hz;rw [ho] at hoz;cases hoz;have:=hall e (by simpa using he) hb
    simpa using this
   ·exact hc j o ho (hs j hj hjz) e (by simpa using he) hb
theorem yR {z:Nat} (hz:wY md ops z=true) {listed:Array Bool} (hc:Closed md ops listed) {i:Nat} (h1:z∈Region.ready md ops listed) (h2:i∈Region.ready md ops listed):i=z:=by
 obtain ⟨hun,oi,hoi,_⟩:=mem_ready.1 h2;have hlt:i<ops.size:=(Array.getElem?_eq_some_iff.1 hoi).1;unfold wY at hz;rw [List.all_eq_true] at hz;have hm:=hz i (List.mem_range.2 hlt);rw [List.contains_iff_mem] at hm;have s0:∀k∈ [z],k≠z→listed.getD k false=true:=fun k hk hn=>absurd (by simpa using hk) hn
 have s3:=gX hc h1 (gX hc h1 (gX hc h1 s0))
 by_cases e:i=z
 ·exact e
 ·have:=s3 i hm e
  exfalso
  rcases Nat.lt_or_ge i listed.size with h' |h'
  ·simp [h'] at hun this; rw [hun] at this; cases this
  ·simp [Array.getElem?_eq_none h'] at this
theorem Closed.set {listed:Array Bool} (hc:Closed md ops listed) {j:Nat} (hj:j∈Region.ready md ops listed):Closed md ops (listed.setIfInBounds j true):=by
 have up:∀k,listed.getD k false=true→(listed.setIfInBounds j true).getD k false=true:=fun k hk=>by
  by_cases e:j=k
  ·subst e
   rcases Nat.lt_or_ge j listed.size with h' |h'
   ·simp [h']
   ·simp [Array.getElem?_eq_none h'] at hk
  ·rw [getD_set_ne false e]; exact hk
 intro k ok hk hl e he hb
 by_cases hkj:j=k
 ·subst hkj
  obtain ⟨_,oj,hoj,hall⟩:=mem_ready.1 hj;rw [hk] at hoj;cases hoj;refine up _ ?_;have:=hall e he hb;simpa using this
 ·rw [getD_set_ne false hkj] at hl
  exact up _ (hc k ok hk hl e he hb)
theorem Closed.none (md:Region.Mode) (ops:Array Oper) (m:Nat):Closed md ops (Array.replicate m false):=fun j oj _ hl=>by
 rcases Nat.lt_or_ge j m with h' |h'
 ·simp [h'] at hl
 ·simp [h'] at hl
theorem oF {Q:EF→Heap→Prop} {z i:Nat} {oi:Oper} {X:AV} (hz:wY md ops z=true) (hi:ops[i]? =some oi):
  ∀(fuel:Nat) (listed:Array Bool) (F:EF) (h:Heap),Closed md ops listed→
   (∀j oj,ops[j]? =some oj→j≠i→listed.getD j true=false→(∀e∈oj.after,Region.binds md e=true→e.on≠i)→oi.apart ops oj=true)→
   i∈Region.ready md ops listed→YP P ops hm oi X F→
   rC P md ops hm z Q fuel (listed.setIfInBounds i true) (gz F oi.dst X) h→rC P md ops hm z Q (fuel+1) listed F h:=by
 intro fuel
 induction fuel with
 |zero=>
  intro listed F h hcl _ hr hy H;refine ⟨fun e=>(by rw [e] at hr; cases hr),fun j hj=> ?_⟩
  by_cases hji:j=i
  ·subst hji; exact kR hi hy H
  ·have:=ready_mono hj hji
   rw [H.1.1] at this;obtain rfl:j=z:=by simpa using this
   exact (hji (yR hz hcl hj hr).symm).elim
 |succ fuel ih=>
  intro listed F h hcl hfree hr hy H;refine ⟨fun e=>(by rw [e] at hr; cases hr),fun j hj=> ?_⟩
  by_cases hji:j=i
  ·subst hji; exact kR hi hy H
  ·have h1:=H.2 j (ready_mono hj hji)
   obtain ⟨hjun,oj,hoj,hall⟩:=mem_ready.1 hj;have hnot:∀e∈oj.after,Region.binds md e=true→e.on≠i:=fun e he hb heq=>by
    have h1:=hall e he hb;have h0:=(mem_ready.1 hr).1;rw [heq] at h1;rcases Nat.lt_or_ge i listed.size with h' |h'
    ·simp [h'] at h0 h1; rw [h0] at h1; cases h1
    ·simp [Array.getElem?_eq_none h'] at h1
   have h2:=zu hoj (hfree j oj hoj hji hjun hnot) hy h1;have hfree' :∀k ok,ops[k]? =some ok→k≠i→(listed.setIfInBounds j true).getD k true=false→
     (∀e∈ok.after,Region.binds md e=true→e.on≠i)→oi.apart ops ok=true:=fun k ok hk hki hun hno=>by
    refine hfree k ok hk hki ?_ hno
    by_cases hjk:j=k
    ·subst hjk; exact hjun
    ·rw [getD_set_ne true hjk] at hun; exact hun
   refine gL (fun F' h' h3=>ih (listed.setIfInBounds j true) F' h' (hcl.set hj) hfree' (ready_mono hr (Ne.symm hji)) h3.1 ?_) h2
   rw [Array.setIfInBounds_comm _ _ hji];exact h3.2
def v7 (md:Region.Mode) (ops:Array Oper) (z:Nat):List Nat→Array Bool→Bool
 | [],listed=>Region.ready md ops listed== [z] && (Region.ready md ops (listed.setIfInBounds z true)).isEmpty
 |k::ks,listed=>(match ops[k]? with
  |some o=>if dI o.op then Region.ready md ops listed== [k] else (Region.ready md ops listed).contains k && Region.free md ops listed k
  |none=>false) && v7 md ops z ks (listed.setIfInBounds k true)
theorem oH {Q:EF→Heap→Prop} {z:Nat} (hz:wY md ops z=true):∀(l:List Nat) (listed:Array Bool) (F:EF) (h:Heap),Closed md ops listed→
  v7 md ops z l listed=true→iF P ops hm Q l F h→rC P md ops hm z Q l.length listed F h
 | [],_,_,_,_,hB,hd=>⟨by simpa [v7] using hB,hd⟩
 |k::l,listed,F,h,hcl,hB,hd=>by
  simp only [v7,Bool.and_eq_true] at hB;obtain ⟨hB,hB'⟩:=hB;cases h0:ops[k]? with
  |none=>rw [h0] at hB; cases hB
  |some o=>
   rw [h0] at hB;simp only at hB;cases he:dI o.op with
   |true=>
    rw [he,if_pos rfl] at hB;have hB:=beq_iff_eq.1 hB;refine ⟨fun e=>(by rw [hB] at e; cases e),fun j hj=> ?_⟩
    rw [hB] at hj;obtain rfl:j=k:=by simpa using hj
    exact gL (fun F' h' hh=>oH hz l _ F' h' (hcl.set (by rw [hB]; simp)) hB' hh) hd
   |false=>
    rw [he,if_neg (by simp),Bool.and_eq_true] at hB
    have hd:nQ P ops hm o (iF P ops hm Q l) F h:=by
     have:hOp P ops hm k (iF P ops hm Q l) F h:=hd;unfold hOp at this;simpa only [h0] using this
    obtain ⟨X,hy,hK⟩:=jV he hd;have hin:k∈Region.ready md ops listed:=by simpa using hB.1
    exact oF hz h0 l.length listed F h hcl (Region.free_spec h0 hB.2) hin hy (oH hz l _ _ _ (hcl.set hin) hB' hK)
theorem sD {n:Nat} {i:Nat} {K:EF→Heap→Prop} {K' :Act→World→Prop} {Q:Exit→Act→World→Prop} {c0:Cx} (hdst:∀o∈ops.toList,dX n o.dst=true)
  (hk:∀c F h a,Ext c0 c→Sub h c.h→Sub hm c.h→Good c→l6 c n F a→K F h→K' a c.w) {c:Cx} {F:EF} {h:Heap} {a:Act} (hE:Ext c0 c) (hs:Sub h c.h) (hs' :Sub hm c.h) (g:Good c) (he:l6 c n F a) (hd:hOp P ops hm i K F h):wpOp P ops Q i K' a c.w:=by
 unfold hOp at hd;unfold wpOp;split
 ·rename_i ho; simp only [ho] at hd; exact hk c F h a hE hs hs' g he hd
 ·rename_i o ho
  simp only [ho] at hd;have hdo:dX n o.dst=true:=hdst o (by simpa using Array.mem_of_getElem? ho)
  have main:∀ {h0:Heap} {R:AV→Heap→Prop},Sub h0 c.h→EOK P o F h0 R→(∀c' x h',Good c'→Ext c c'→Sub h' c'.h→R x h'→∀u,Rep c' x u→K' (a.put o.dst u) c'.w)→Oper.wp P o a c.w K' Q:=by
   intro h0 R hs h2 next';have hu:=h2 c a hs g he.2.1 (fun t _ x hx=>he.2.2 t x hx)
   have next:∀u w',eC c R u w'→K' (a.put o.dst u) w' :=by
    rintro u w' ⟨c',x,h',rfl,g',hE',hr,hs2,hR⟩
    exact next' c' x h' g' hE' hs2 hR u hr
   unfold Oper.wp;generalize (execOp a.eval o).run P c.w=r at hu;cases r with
   |ok nx w' =>
    cases nx<;>simp only [jU] at hu<;>simp only [Oper.upon]
    case value u=>exact next u w' hu
    case skip=>exact next undef w' hu
    case enter f args=>
     obtain ⟨rfl,hc⟩:=hu;exact hc.mono fun e w'' ⟨u,he,hcm⟩=>by subst he; exact next u w'' hcm
   |halt x w' =>exact hu.elim
  rcases hd with ⟨h1,⟨h0,R,h2,h3⟩|⟨X,h2,h3⟩⟩|⟨h1,h2⟩
  ·rw [if_pos (ju he h1)]
   left
   refine main hs h2 fun c' x h' g' hE' hs2 hR u hr=> ?_
   obtain ⟨k1,k2⟩:=h3 x h' hR;exact hk c' _ h' _ (hE.trans hE') hs2 (fun j b hj=>hs2 _ _ (k1 _ _ hj)) g' ((he.mono hE').put hdo hr) k2
  ·rw [if_pos (ju he h1)]
   left
   refine main (fun _ _ e=>e) (h2 c.h hs') fun c' x h' g' hE' hs2 hR u hr=> ?_
   obtain ⟨rfl,rfl⟩:=hR;exact hk c' _ h _ (hE.trans hE') (fun j b hj=>hs2 _ _ (hs _ _ hj)) (fun j b hj=>hs2 _ _ (hs' _ _ hj)) g' ((he.mono hE').put hdo hr) h3
  ·rw [if_neg (by rw [ju he h1]; simp)]
   exact hk c _ h _ hE hs hs' g (he.put hdo (.v _)) h2
theorem qC {n:Nat} {Q:EF→Heap→Prop} {Q' :Exit→Act→World→Prop} {c0:Cx} (hdst:∀o∈ops.toList,dX n o.dst=true)
  (hQ:∀c F h a,Ext c0 c→Sub h c.h→Good c→l6 c n F a→Q F h→Q' .normal a c.w):∀(fuel:Nat) (listed:Array Bool) (c:Cx) (F:EF) (h:Heap) (a:Act),Ext c0 c→Sub h c.h→Sub hm c.h→Good c→l6 c n F a→
   vB P md ops hm Q fuel listed F h→wpAny P md ops Q' fuel listed a c.w
 |0,_,c,F,h,a,h1,h2,_,h3,h4,hd=>⟨hd.1,hQ c F h a h1 h2 h3 h4 hd.2⟩
 |fuel+1,listed,c,F,h,a,h1,h2,h2',h3,h4,hd=>
  ⟨fun e=>hQ c F h a h1 h2 h3 h4 (hd.1 e),fun i hi=>sD hdst (fun c F h a k1 k2 k2' k3 k4 hk=>qC hdst hQ fuel _ c F h a k1 k2 k2' k3 k4 hk) h1 h2 h2' h3 h4 (hd.2 i hi)⟩
theorem tP {n z:Nat} {Q:EF→Heap→Prop} {Q' :Exit→Act→World→Prop} {c0:Cx} (hdst:∀o∈ops.toList,dX n o.dst=true)
  (hQ:∀c F h a,Ext c0 c→Sub h c.h→Good c→l6 c n F a→Q F h→wpOp P ops Q' z (fun a' w' =>Q' .normal a' w') a c.w):∀(fuel:Nat) (listed:Array Bool) (c:Cx) (F:EF) (h:Heap) (a:Act),Ext c0 c→Sub h c.h→Sub hm c.h→Good c→l6 c n F a→
   rC P md ops hm z Q fuel listed F h→wpAny P md ops Q' (fuel+1) listed a c.w
 |0,listed,c,F,h,a,h1,h2,_,h3,h4,hd=>⟨fun e=>(by rw [hd.1.1] at e; cases e),fun i hi=>by
   rw [hd.1.1] at hi;obtain rfl:i=z:=by simpa using hi
   exact wpOp_mono (fun a w hh=>⟨hd.1.2,hh⟩) (hQ c F h a h1 h2 h3 h4 hd.2)⟩
 |fuel+1,listed,c,F,h,a,h1,h2,h2',h3,h4,hd=>
  ⟨fun e=>absurd e hd.1,fun i hi=>sD hdst (fun c F h a k1 k2 k2' k3 k4 hk=>tP hdst hQ fuel _ c F h a k1 k2 k2' k3 k4 hk) h1 h2 h2' h3 h4 (hd.2 i hi)⟩
def AM (P:Program) (md:Region.Mode) (ops:Array Oper) (hm:Heap) (fin:Array Bool) (R:EF→Heap→Prop):Nat→Array Bool→EF→Heap→Prop
 |0,listed,F,h=>listed=fin∧R F h
 |fuel+1,listed,F,h=>Region.ready md ops listed≠ []∧∀i∈Region.ready md ops listed,hOp P ops hm i (AM P md ops hm fin R fuel (listed.setIfInBounds i true)) F h
def z6 (md:Region.Mode) (ops:Array Oper) (l:List Nat):Bool:=(List.range ops.size).all fun j=>l.contains j||l.all fun k=>(lK md ops (lK md ops (lK md ops [j]))).contains k
theorem Ca {l:List Nat} (hb:z6 md ops l=true) {listed:Array Bool} (hc:Closed md ops listed) {j:Nat} (hj:j∈Region.ready md ops listed) (hl:j∉l):∀k∈l,listed.getD k false=true:=by
 intro k hk;obtain ⟨hun,oj,hoj,_⟩:=mem_ready.1 hj;have hlt:j<ops.size:=(Array.getElem?_eq_some_iff.1 hoj).1;unfold z6 at hb;rw [List.all_eq_true] at hb;have hm:=hb j (List.mem_range.2 hlt);rw [Bool.or_eq_true,List.contains_iff_mem] at hm;rcases hm with hm|hm
 ·exact (hl hm).elim
 ·have s0:∀k∈ [j],k≠j→listed.getD k false=true:=fun k hk hn=>absurd (by simpa using hk) hn
  have s3:=gX hc hj (gX hc hj (gX hc hj s0));rw [List.all_eq_true] at hm;have:=hm k hk;rw [List.contains_iff_mem] at this;exact s3 k this fun e=>hl (e▸hk)
theorem AN {R:EF→Heap→Prop} {fin:Array Bool} {l:List Nat} {i:Nat} {oi:Oper} {X:AV} (hb:z6 md ops l=true) (hfin:∀j∈l,fin.getD j false=true) (hil:i∈l) (hi:ops[i]? =some oi):
  ∀(fuel:Nat) (listed:Array Bool) (F:EF) (h:Heap),Closed md ops listed→
   (∀j oj,ops[j]? =some oj→j≠i→listed.getD j true=false→(∀e∈oj.after,Region.binds md e=true→e.on≠i)→oi.apart ops oj=true)→
   i∈Region.ready md ops listed→YP P ops hm oi X F→
   AM P md ops hm fin R fuel (listed.setIfInBounds i true) (gz F oi.dst X) h→AM P md ops hm fin R (fuel+1) listed F h:=by
 intro fuel
 induction fuel with
 |zero=>
  intro listed F h hcl _ hr hy H;refine ⟨fun e=>(by rw [e] at hr; cases hr),fun j hj=> ?_⟩
  by_cases hji:j=i
  ·subst hji; exact kR hi hy H
  ·exfalso
   have hiu:=(mem_ready.1 hr).1;have hju:=(mem_ready.1 hj).1
   by_cases hjl:j∈l
   ·have h1:=hfin j hjl
    rw [←H.1,getD_set_ne false (Ne.symm hji)] at h1;rcases Nat.lt_or_ge j listed.size with h' |h'
    ·simp [h'] at h1 hju; rw [hju] at h1; cases h1
    ·simp [Array.getElem?_eq_none h'] at h1
   ·have h1:=Ca hb hcl hj hjl i hil
    rcases Nat.lt_or_ge i listed.size with h' |h'
    ·simp [h'] at h1 hiu; rw [hiu] at h1; cases h1
    ·simp [Array.getElem?_eq_none h'] at h1
 |succ fuel ih=>
  intro listed F h hcl hfree hr hy H;refine ⟨fun e=>(by rw [e] at hr; cases hr),fun j hj=> ?_⟩
  by_cases hji:j=i
  ·subst hji; exact kR hi hy H
  ·have h1:=H.2 j (ready_mono hj hji)
   obtain ⟨hjun,oj,hoj,hall⟩:=mem_ready.1 hj;have hnot:∀e∈oj.after,Region.binds md e=true→e.on≠i:=fun e he hb heq=>by
    have h1:=hall e he hb;have h0:=(mem_ready.1 hr).1;rw [heq] at h1;rcases Nat.lt_or_ge i listed.size with h' |h'
    ·simp [h'] at h0 h1; rw [h0] at h1; cases h1
    ·simp [Array.getElem?_eq_none h'] at h1
   have h2:=zu hoj (hfree j oj hoj hji hjun hnot) hy h1;have hfree' :∀k ok,ops[k]? =some ok→k≠i→(listed.setIfInBounds j true).getD k true=false→
     (∀e∈ok.after,Region.binds md e=true→e.on≠i)→oi.apart ops ok=true:=fun k ok hk hki hun hno=>by
    refine hfree k ok hk hki ?_ hno
    by_cases hjk:j=k
    ·subst hjk; exact hjun
    ·rw [getD_set_ne true hjk] at hun; exact hun
   refine gL (fun F' h' h3=>ih (listed.setIfInBounds j true) F' h' (hcl.set hj) hfree' (ready_mono hr (Ne.symm hji)) h3.1 ?_) h2
   rw [Array.setIfInBounds_comm _ _ hji];exact h3.2
theorem oI {R:EF→Heap→Prop} {fin:Array Bool} {l:List Nat} (hb:z6 md ops l=true) (hfin:∀j∈l,fin.getD j false=true):∀(r:List Nat) (listed:Array Bool) (F:EF) (h:Heap),(∀k∈r,k∈l)→fin=dN r listed→Closed md ops listed→
  jn md ops r listed=true→iF P ops hm R r F h→AM P md ops hm fin R r.length listed F h
 | [],_,_,_,_,hf,_,_,hd=>⟨hf.symm,hd⟩
 |k::r,listed,F,h,hr,hf,hcl,hB,hd=>by
  simp only [jn,Bool.and_eq_true] at hB;obtain ⟨hB,hB'⟩:=hB;have hr' :∀j∈r,j∈l:=fun j hj=>hr j (List.mem_cons_of_mem _ hj)
  cases h0:ops[k]? with
  |none=>rw [h0] at hB; cases hB
  |some o=>
   rw [h0] at hB;simp only at hB;cases he:dI o.op with
   |true=>
    rw [he,if_pos rfl] at hB;have hB:=beq_iff_eq.1 hB;refine ⟨fun e=>(by rw [hB] at e; cases e),fun j hj=> ?_⟩
    rw [hB] at hj;obtain rfl:j=k:=by simpa using hj
    exact gL (fun F' h' hh=>oI hb hfin r _ F' h' hr' hf (hcl.set (by rw [hB]; simp)) hB' hh) hd
   |false=>
    rw [he,if_neg (by simp),Bool.and_eq_true] at hB
    have hd:nQ P ops hm o (iF P ops hm R r) F h:=by
     have:hOp P ops hm k (iF P ops hm R r) F h:=hd;unfold hOp at this;simpa only [h0] using this
    obtain ⟨X,hy,hK⟩:=jV he hd;have hin:k∈Region.ready md ops listed:=by simpa using hB.1
    exact AN hb hfin (hr k (List.mem_cons_self ..)) h0 r.length listed F h hcl (Region.free_spec h0 hB.2) hin hy (oI hb hfin r _ _ _ hr' hf (hcl.set hin) hB' hK)
theorem tQ {n m:Nat} {R:EF→Heap→Prop} {fin:Array Bool} {Q' :Exit→Act→World→Prop} {c0:Cx} (hdst:∀o∈ops.toList,dX n o.dst=true)
  (hR:∀c F h a,Ext c0 c→Sub h c.h→Good c→l6 c n F a→R F h→wpAny P md ops Q' m fin a c.w):∀(fuel:Nat) (listed:Array Bool) (c:Cx) (F:EF) (h:Heap) (a:Act),Ext c0 c→Sub h c.h→Sub hm c.h→Good c→l6 c n F a→
   AM P md ops hm fin R fuel listed F h→wpAny P md ops Q' (m+fuel) listed a c.w
 |0,listed,c,F,h,a,h1,h2,_,h3,h4,hd=>by rw [hd.1]; exact hR c F h a h1 h2 h3 h4 hd.2
 |fuel+1,listed,c,F,h,a,h1,h2,h2',h3,h4,hd=>
  ⟨fun e=>absurd e hd.1,fun i hi=>sD hdst (fun c F h a k1 k2 k2' k3 k4 hk=>tQ hdst hR fuel _ c F h a k1 k2 k2' k3 k4 hk) h1 h2 h2' h3 h4 (hd.2 i hi)⟩
def uN (md:Region.Mode) (ops:Array Oper) (l1 l2:List Nat):Bool:=
 jn md ops l1 (Array.replicate ops.size false) && z6 md ops l1 && (l1.all fun j=>(dN l1 (Array.replicate ops.size false)).getD j false) && ni md ops l2 (dN l1 (Array.replicate ops.size false)) && (l2.length+l1.length==ops.size)
def BV (P:Program) (U:TypeId→TI) (hm:Heap) (o:Oper) (ρ:Env) (h:Heap) (K:AV→Heap→Prop):Prop:=
 if dI o.op then vcE P U ρ h o (fun X h' =>Sub hm h'∧K X h') else pv U ρ hm o.op (fun X=>K X h)
def fG (P:Program) (U:TypeId→TI) (n:Nat) (all:List Oper) (hm:Heap):List Nat→Env→Heap→(Env→Heap→Prop)→Prop
 | [],ρ,h,K=>K ρ h
 |i::is,ρ,h,K=>match all[i]? with
  |none=>False
  |some o=>fY all ρ o.guard (fun ρ=>BV P U hm o ρ h fun X h' =>fG P U n all hm is (put ρ o.dst X) h' K) (fun ρ=>fG P U n all hm is (put ρ o.dst (.v undef)) h K)
theorem yf {ρ:Env} {d:Nat} {x:AV} (hd:lk ρ d=some x):lk ((d,x)::ρ)=lk ρ:=by
 funext t
 simp only [lk];split
 ·rename_i e; subst e; exact hd.symm
 ·rfl
theorem cU {n:Nat} (hU:∀t,aO P U t) {all:List Oper} {K:Env→Heap→Prop}:∀(l:List Nat) (ρ:Env) (h:Heap),fG P U n all hm l ρ h K→iF P all.toArray hm (fun F h=>∃ρ,lk ρ=F∧K ρ h) l (lk ρ) h
 | [],ρ,h,hk=>⟨ρ,rfl,hk⟩
 |i::is,ρ,h,hk=>by
  simp only [fG] at hk
  show hOp _ _ _ _ _ _ _
  unfold hOp;have e0:(all.toArray)[i]? =all[i]? :=by simp
  rw [e0];cases hi:all[i]? with
  |none=>rw [hi] at hk; exact hk.elim
  |some o=>
   rw [hi] at hk;simp only at hk⊢;have yes:∀ρ',cB all.toArray (lk ρ) o=some true→lk ρ' =lk ρ→BV P U hm o ρ' h (fun X h' =>fG P U n all hm is (put ρ' o.dst X) h' K)→nQ P all.toArray hm o (iF P all.toArray hm (fun F h=>∃ρ,lk ρ=F∧K ρ h) is) (lk ρ) h:=by
    intro ρ' hw hl hv;unfold BV at hv;cases he:dI o.op with
    |true=>
     rw [he,if_pos rfl] at hv;have:=yK hU he hv;rw [hl] at this;refine .inl ⟨hw, .inl ⟨he,_,this,fun X h' hq=>⟨hq.1, ?_⟩⟩⟩
     have:=cU hU is _ _ hq.2;rw [oR,hl] at this;exact this
    |false=>
     rw [he,if_neg (by simp)] at hv
     obtain ⟨X,hQ,hX⟩:=C5 hU hv;rw [hl] at hX;refine .inl ⟨hw, .inr ⟨X,hX.quiet, ?_⟩⟩;have:=cU hU is _ _ hQ;rw [oR,hl] at this;exact this
   have no:∀ρ',cB all.toArray (lk ρ) o=some false→lk ρ' =lk ρ→fG P U n all hm is (put ρ' o.dst (.v undef)) h K→nQ P all.toArray hm o (iF P all.toArray hm (fun F h=>∃ρ,lk ρ=F∧K ρ h) is) (lk ρ) h:=by
    intro ρ' hw hl hv;have:=cU hU is _ _ hv;rw [oR,hl] at this;exact .inr ⟨hw,this⟩
   unfold fY at hk;split at hk
   ·rename_i hg
    exact yes ρ (by simp [cB,hg]) rfl hk
   ·rename_i g want hg
    split at hk
    ·rename_i d hd'
     have hd2:((all.toArray)[g]?).bind (·.dst)=some d:=by simpa [ou] using hd'
     split at hk
     ·rename_i t ht
      have hw:cB all.toArray (lk ρ) o=some (t==want):=by
       unfold cB;simp only [hg];rw [hd2];simp only [ht]
      by_cases e:t=want
      ·exact yes _ (by rw [hw,e]; simp) (yf (by rw [ht,e])) (hk.1 e)
      ·have e' :t= !want:=by cases t<;>cases want<;>simp_all
       exact no _ (by rw [hw]; simp [e]) (yf (by rw [ht,e'])) (hk.2 e')
     ·rename_i vs ht
      refine no ρ ?_ rfl hk;unfold cB;simp only [hg];rw [hd2];simp only [ht]
     ·exact hk.elim
    ·exact hk.elim
def CW (U:TypeId→TI):Op→Option Blk
 | .alloc t=>some (if isUnit (U t).k then .obj [] t else .obj (U t).zero.cells t)
 |_=>none
def yD (U:TypeId→TI):Op→Prop
 | .alloc t=>isUnit (U t).k=true∨(U t).sz≠0∧fit (U t).zero (U t).sz
 |_=>False
def uQ (U:TypeId→TI) (all:List Oper):List Nat→Prop
 | []=>True
 |i::is=>(match all[i]? with
  |none=>False
  |some o=>yD U o.op)∧uQ U all is
def Em (P:Program) (U:TypeId→TI) (all:List Oper):List Nat→Env→Heap→(Env→Heap→Prop)→Prop
 | [],ρ,h,K=>K ρ h
 |i::is,ρ,h,K=>match all[i]? with
  |none=>False
  |some o=>bg P U ρ h o fun X h' =>Em P U all is (put ρ o.dst X) h' K
theorem BX {ρ:Env} {h:Heap} {o:Oper} {Q:AV→Heap→Prop} {B:Blk} (hB:CW U o.op=some B) (hs:yD U o.op):bg P U ρ h o Q↔∀id,h id=none→Q (.ptr id 0) (upd h id (some B)):=by
 obtain ⟨d,op,t,p,a,g⟩:=o;cases op with
 |alloc ty=>
  simp only [CW,Option.some.injEq] at hB;simp only [yD] at hs;simp only [bg];subst hB;cases hu:isUnit (U ty).k with
  |true=>simp
  |false=>
   rw [hu] at hs;simp only [Bool.false_eq_true,if_false,false_or] at hs⊢;exact ⟨fun h=>h.2.2,fun h=>⟨hs.1,hs.2,h⟩⟩
 |_=>simp [CW] at hB
def iZ (U:TypeId→TI) (ops:Array Oper) (ids:Nat→Nat) (s:EF×Heap) (i:Nat):EF×Heap:=match ops[i]? with
 |some o=>(gz s.1 o.dst (.ptr (ids i) 0),upd s.2 (ids i) (CW U o.op))
 |none=>s
def Fresh (h:Heap) (is:List Nat) (ids:Nat→Nat):Prop:=(∀i∈is,h (ids i)=none)∧(is.map ids).Nodup
theorem BG {l l' :List Nat} (hp:l.Perm l') (listed:Array Bool):dN l listed=dN l' listed:=by
 have e:∀(l:List Nat) (x:Array Bool),dN l x=l.foldl (fun x k=>x.setIfInBounds k true) x:=fun l=>by
  induction l with
  |nil=>intro x; rfl
  |cons k l ih=>intro x; exact ih _
 rw [e,e];refine hp.foldl_eq' (fun x _ y _ z=> ?_) listed
 by_cases h:x=y
 ·subst h; rfl
 ·exact Array.setIfInBounds_comm _ _ h
theorem CX {ids:Nat→Nat} {is:List Nat} (hd:(is.map fun i=>(ops[i]?).bind (·.dst)).Nodup) (hs:∀i∈is,∃o d,ops[i]? =some o∧o.dst=some d) (hi:(is.map ids).Nodup):
  ∀x∈is,∀y∈is,∀z,iZ U ops ids (iZ U ops ids z x) y=iZ U ops ids (iZ U ops ids z y) x:=by
 have inj:∀ {α:Type} {f:Nat→α} {l:List Nat},(l.map f).Nodup→∀x∈l,∀y∈l,f x=f y→x=y:=by
  intro α f l
  induction l with
  |nil=>intro _ x hx; cases hx
  |cons k l ih=>
   intro hn x hx y hy he;rw [List.map_cons,List.nodup_cons] at hn;rcases List.mem_cons.1 hx with e1|hx1
   ·rcases List.mem_cons.1 hy with e2|hy1
    ·exact e1.trans e2.symm
    ·exact (hn.1 (by rw [←e1,he]; exact List.mem_map.2 ⟨y,hy1,rfl⟩)).elim
   ·rcases List.mem_cons.1 hy with e2|hy1
    ·exact (hn.1 (by rw [←e2,←he]; exact List.mem_map.2 ⟨x,hx1,rfl⟩)).elim
    ·exact ih hn.2 x hx1 y hy1 he
 intro x hx y hy z
 by_cases e:x=y
 ·subst e; rfl
 obtain ⟨ox,dx,hox,hdx⟩:=hs x hx;obtain ⟨oy,dy,hoy,hdy⟩:=hs y hy;have h1:ids x≠ids y:=fun e' =>e (inj hi x hx y hy e')
 have h2:dx≠dy:=fun e' =>e (inj hd x hx y hy (by simp [hox,hoy,hdx,hdy,e']))
 simp only [iZ,hox,hoy];rw [kU z.1 _ _ (by rw [hdx,hdy]; intro d hd; cases hd; intro hd; cases hd; exact h2 rfl)]
 congr 1
 funext j
 simp only [upd]
 by_cases e1:j=ids x
 ·subst e1
  simp [h1]
 ·simp [e1]
theorem E5 {Q:EF→Heap→Prop} {m:Nat}:∀(fuel:Nat) (is:List Nat) (listed:Array Bool) (F:EF) (h:Heap),wo md ops fuel is listed=true→Sub hm h→is.Nodup→
  (is.map fun i=>(ops[i]?).bind (·.dst)).Nodup→
  (∀i∈is,∃o d B,ops[i]? =some o∧o.guard=none∧o.dst=some d∧dI o.op=true∧CW U o.op=some B∧∀F h,EOK P o F h fun X h' =>∃id,h id=none∧X= .ptr id 0∧h' =upd h id (some B))→
  (∀ids,Fresh h is ids→vB P md ops hm Q m (dN is listed) (is.foldl (iZ U ops ids) (F,h)).1 (is.foldl (iZ U ops ids) (F,h)).2)→vB P md ops hm Q (m+is.length) listed F h:=by
 intro fuel
 induction fuel with
 |zero=>
  intro is listed F h hp _ _ _ _ H;have:is= []:=by simpa [wo] using hp
  subst this;exact H id ⟨by simp,by simp⟩
 |succ fuel ih=>
  intro is listed F h hp hs hn hdn ho H;simp only [wo,Bool.or_eq_true,List.isEmpty_iff,Bool.and_eq_true,Bool.not_eq_true',List.all_eq_true] at hp;rcases hp with rfl|⟨hp1,hp2⟩
  ·exact H id ⟨by simp,by simp⟩
  have hne:Region.ready md ops listed≠ []:=fun e=>by rw [e] at hp1; simp at hp1
  obtain ⟨i0,hi0⟩:=List.exists_mem_of_ne_nil _ hne;have hlen:∀i∈Region.ready md ops listed,m+is.length=(m+(is.erase i).length)+1:=fun i hi=>by
   have h1:i∈is:=by simpa using (hp2 i hi).1
   rw [List.length_erase_of_mem h1];have:=List.length_pos_of_mem h1;omega
  have hl0:m+is.length=(m+(is.length - 1))+1:=by
   have:=List.length_pos_of_mem (show i0∈is by simpa using (hp2 i0 hi0).1)
   omega
  rw [hl0];refine ⟨fun e=>absurd e hne,fun i hi=> ?_⟩
  obtain ⟨h1,h2⟩:=hp2 i hi;have h1:i∈is:=by simpa using h1
  obtain ⟨o,d,B,e1,e2,e3,e4,e5,e6⟩:=ho i h1;have hpm:=List.perm_cons_erase h1;unfold hOp;simp only [e1];refine .inl ⟨by simp [cB,e2], .inl ⟨e4,_,e6 F h, ?_⟩⟩
  rintro X h' ⟨id,hid,rfl,rfl⟩
  have hs' :Sub hm (upd h id (some B)):=fun j b hj=>by
   have:=hs j b hj;simp only [upd]
   by_cases e:j=id
   ·subst e; rw [hid] at this; cases this
   ·simp [e,this]
  refine ⟨hs', ?_⟩;have hle:(is.length - 1)=(is.erase i).length:=(List.length_erase_of_mem h1).symm;rw [hle];have hni:i∉is.erase i:=fun hm=>by
   have:=hpm.nodup_iff.1 hn;exact (List.nodup_cons.1 this).1 hm
  refine ih (is.erase i) _ _ _ h2 hs' (hn.erase i) (((hpm.map _).nodup_iff.1 hdn).of_cons) (fun j hj=>ho j (List.mem_of_mem_erase hj)) fun ids hf=> ?_
  have hmem:∀j∈is.erase i,j≠i:=fun j hj e=>hni (e▸hj)
  let ids' :Nat→Nat:=fun j=>if j=i then id else ids j
  have hids:∀j∈is.erase i,ids' j=ids j:=fun j hj=>by simp [ids',hmem j hj]
  have hfr:∀j∈is.erase i,ids j≠id∧h (ids j)=none:=fun j hj=>by
   have:=hf.1 j hj;simp only [upd] at this;split at this
   ·cases this
   ·rename_i e; exact ⟨e,this⟩
  have hfresh:Fresh h is ids' :=by
   refine ⟨fun j hj=> ?_, ?_⟩
   ·by_cases e:j=i
    ·subst e; simp [ids',hid]
    ·have hj' :j∈is.erase i:=(List.mem_erase_of_ne e).2 hj
     rw [hids j hj'];exact (hfr j hj').2
   ·rw [(hpm.map ids').nodup_iff,List.map_cons,List.nodup_cons]
    have em:(is.erase i).map ids' =(is.erase i).map ids:=List.map_congr_left hids;rw [em];refine ⟨fun hm=> ?_,hf.2⟩
    obtain ⟨j,hj,he⟩:=List.mem_map.1 hm;exact (hfr j hj).1 (by rw [he]; simp [ids'])
  have hh:=H ids' hfresh;have hfold:is.foldl (iZ U ops ids') (F,h)=(is.erase i).foldl (iZ U ops ids) (gz F o.dst (.ptr id 0),upd h id (some B)):=by
   rw [hpm.foldl_eq' (CX hdn (fun j hj=>by obtain ⟨o,d,B,a1,_,a3,_⟩:=ho j hj; exact ⟨o,d,a1,a3⟩) hfresh.2),List.foldl_cons]
   have e0:iZ U ops ids' (F,h) i=(gz F o.dst (.ptr id 0),upd h id (some B)):=by simp [iZ,e1,ids',e5]
   rw [e0];have:∀(l:List Nat) (s:EF×Heap),(∀j∈l,ids' j=ids j)→l.foldl (iZ U ops ids') s=l.foldl (iZ U ops ids) s:=fun l=>by
    induction l with
    |nil=>intro s _; rfl
    |cons k l ih=>
     intro s hl;rw [List.foldl_cons,List.foldl_cons,ih _ fun j hj=>hl j (List.mem_cons_of_mem _ hj)]
     have:iZ U ops ids' s k=iZ U ops ids s k:=by simp only [iZ,hl k (List.mem_cons_self ..)]
     rw [this]
   exact this _ _ hids
  rw [hfold,BG hpm] at hh;exact hh
theorem yL {all:List Oper} {K:Env→Heap→Prop}:∀(is:List Nat) (ρ:Env) (h:Heap),(∀i∈is,∃o B,all[i]? =some o∧CW U o.op=some B∧yD U o.op)→Em P U all is ρ h K→∀ids,Fresh h is ids→
  ∃ρ',lk ρ' =(is.foldl (iZ U all.toArray ids) (lk ρ,h)).1∧K ρ' (is.foldl (iZ U all.toArray ids) (lk ρ,h)).2
 | [],ρ,h,_,hk,ids,_=>⟨ρ,rfl,hk⟩
 |i::is,ρ,h,ho,hk,ids,hf=>by
  obtain ⟨o,B,e1,e2,e3⟩:=ho i (List.mem_cons_self ..);simp only [Em,e1] at hk;have hk:=(BX e2 e3).1 hk (ids i) (hf.1 i (List.mem_cons_self ..));have hn:=hf.2;rw [List.map_cons,List.nodup_cons] at hn;have hf' :Fresh (upd h (ids i) (some B)) is ids:=⟨fun j hj=>by
   have:ids j≠ids i:=fun e=>hn.1 (e▸List.mem_map.2 ⟨j,hj,rfl⟩)
   simp only [upd,this,if_false];exact hf.1 j (List.mem_cons_of_mem _ hj),hn.2⟩
  obtain ⟨ρ',h1,h2⟩:=yL is _ _ (fun j hj=>ho j (List.mem_cons_of_mem _ hj)) hk ids hf'
  have e0:iZ U all.toArray ids (lk ρ,h) i=(lk (put ρ o.dst (.ptr (ids i) 0)),upd h (ids i) (some B)):=by
   have:all.toArray[i]? =some o:=by simpa using e1
   simp only [iZ,this,e2,oR]
  refine ⟨ρ', ?_, ?_⟩
  ·rw [List.foldl_cons,e0]; exact h1
  ·rw [List.foldl_cons,e0]; exact h2
def qp (P:Program) (U:TypeId→TI) (n:Nat) (all:List Oper) (hm:Heap):Ord→Env→Heap→(Env→Heap→Prop)→Prop
 | .seq l,ρ,h,K=>fG P U n all hm l ρ h K
 | .fork l i a j b,ρ,h,K=>fG P U n all hm l ρ h fun ρ h=>
  fG P U n all hm [i] ρ h (fun ρ h=>qp P U n all hm a ρ h K)∧fG P U n all hm [j] ρ h (fun ρ h=>qp P U n all hm b ρ h K)
 | .quiet l i t,ρ,h,K=>fG P U n all hm l ρ h fun ρ h=>match all[i]? with
  |none=>False
  |some o=>o.guard=none∧vcQ P U ρ hm o fun X=>qp P U n all hm t (put ρ o.dst X) h K
 | .news l is t,ρ,h,K=>fG P U n all hm l ρ h fun ρ h=>Sub hm h∧uQ U all is∧Em P U all is ρ h fun ρ h=>qp P U n all hm t ρ h K
theorem mN {n:Nat} (hU:∀t,aO P U t) {md:Region.Mode} {all:List Oper} {K:Env→Heap→Prop}:∀(t:Ord) (listed:Array Bool) (ρ:Env) (h:Heap),qj md all.toArray t listed=true→qp P U n all hm t ρ h K→
  vB P md all.toArray hm (fun F h=>∃ρ,lk ρ=F∧K ρ h) t.len listed (lk ρ) h
 | .seq l,listed,ρ,h,hB,hk=>mV l listed _ h hB (cU hU l ρ h hk)
 | .fork l i a j b,listed,ρ,h,hB,hk=>by
  simp only [qj,Bool.and_eq_true,beq_iff_eq] at hB;obtain ⟨⟨⟨h1,h2⟩,h3⟩,h4,h5⟩:=hB;refine mC (a.len+1) l listed _ h h1 (lg (fun F h hh=> ?_) l _ h (cU hU l ρ h hk))
  obtain ⟨ρ',rfl,g1,g2⟩:=hh;refine ⟨fun e=>(by rw [h2] at e; cases e),fun k hk' => ?_⟩
  rw [h2] at hk';rcases List.mem_cons.1 hk' with rfl|hk'
  ·exact gL (fun F h hh=>by obtain ⟨ρ2,rfl,hh⟩:=hh; exact mN hU a _ ρ2 h h4 hh) (cU hU [k] ρ' h g1)
  ·obtain rfl:k=j:=by simpa using hk'
   exact gL (fun F h hh=>by obtain ⟨ρ2,rfl,hh⟩:=hh; rw [h3]; exact mN hU b _ ρ2 h h5 hh) (cU hU [k] ρ' h g2)
 | .quiet l i t,listed,ρ,h,hB,hk=>by
  simp only [qj,Bool.and_eq_true] at hB;obtain ⟨h1,⟨h2,h3⟩,h4⟩:=hB;refine mC (t.len+1) l listed _ h h1 (lg (fun F h hh=> ?_) l _ h (cU hU l ρ h hk))
  obtain ⟨ρ',rfl,g⟩:=hh;cases hi:all[i]? with
  |none=>rw [hi] at g; exact g.elim
  |some o=>
   rw [hi] at g;simp only at g;obtain ⟨X,hX,hq⟩:=yM hU g.2;have hi' :all.toArray[i]? =some o:=by simpa using hi
   refine qB hi' t.len _ _ h (Region.free_spec hi' h3) (by simpa using h2) (.inl ⟨by simp [cB,g.1],hq⟩) ?_
   rw [←oR];exact mN hU t _ _ h h4 hX
 | .news l is t,listed,ρ,h,hB,hk=>by
  simp only [qj,HM,Bool.and_eq_true,decide_eq_true_eq] at hB;obtain ⟨h1,⟨⟨⟨h2,h3⟩,h4⟩,h5⟩,h6⟩:=hB;refine mC (t.len+is.length) l listed _ h h1 (lg (fun F h hh=> ?_) l _ h (cU hU l ρ h hk))
  obtain ⟨ρ',rfl,g1,g2,g3⟩:=hh;have side:∀(is:List Nat),uQ U all is→∀i∈is,∃o,all[i]? =some o∧yD U o.op:=fun is=>by
   induction is with
   |nil=>intro _ i hi; cases hi
   |cons k is ih=>
    intro hs i hi;simp only [uQ] at hs;rcases List.mem_cons.1 hi with rfl|hi
    ·cases ha:all[i]? with
     |none=>rw [ha] at hs; exact hs.1.elim
     |some o=>rw [ha] at hs; exact ⟨o,rfl,hs.1⟩
    ·exact ih hs.2 i hi
  have hall:∀i∈is,∃o d B,all.toArray[i]? =some o∧o.guard=none∧o.dst=some d∧dI o.op=true∧CW U o.op=some B∧yD U o.op:=fun i hi=>by
   obtain ⟨o,ha,hs⟩:=side is g2 i hi;have ha' :all.toArray[i]? =some o:=by simpa using ha
   have hn:=List.all_eq_true.1 h5 i hi;rw [ha'] at hn;simp only [Option.map_some,Option.getD_some,KS,Bool.and_eq_true,Option.isNone_iff_eq_none,Option.isSome_iff_exists] at hn;obtain ⟨⟨n1,d,n2⟩,n3⟩:=hn;split at n3
   ·rename_i ty hop
    exact ⟨o,d,_,ha',n1,n2,by rw [hop]; rfl,by rw [hop]; rfl,hs⟩
   ·cases n3
  refine E5 (U:=U) is.length is _ _ h h2 g1 h3 h4 (fun i hi=> ?_) fun ids hf=> ?_
  ·obtain ⟨o,d,B,a1,a2,a3,a4,a5,a6⟩:=hall i hi
   refine ⟨o,d,B,a1,a2,a3,a4,a5,fun F h=> ?_⟩
   intro c a hs g hd hr;exact jJ hU ((BX (ρ:= []) a5 a6).2 fun id hid=>⟨id,hid,rfl,rfl⟩) hs g ⟨rfl,hd,fun t x hx=>by cases hx⟩
  ·obtain ⟨ρ2,b1,b2⟩:=yL is ρ' h (fun i hi=>by
    obtain ⟨o,d,B,a1,_,_,_,a5,a6⟩:=hall i hi;exact ⟨o,B,by simpa using a1,a5,a6⟩) g3 ids hf
   rw [←b1];exact mN hU t _ ρ2 _ h6 b2
def HT (md:Region.Mode) (ops:Array Oper) (z:Nat):Ord→Array Bool→Bool
 | .seq l,listed=>v7 md ops z l listed
 | .quiet l i t,listed=>jn md ops l listed && (((Region.ready md ops (dN l listed)).contains i && Region.free md ops (dN l listed) i) && HT md ops z t ((dN l listed).setIfInBounds i true))
 |_,_=>false
theorem qe:∀(l:List Nat) (listed:Array Bool),Closed md ops listed→jn md ops l listed=true→Closed md ops (dN l listed)
 | [],_,hc,_=>hc
 |k::l,listed,hc,hB=>by
  simp only [jn,Bool.and_eq_true] at hB;obtain ⟨hB,hB'⟩:=hB;refine qe l _ (hc.set ?_) hB';cases h0:ops[k]? with
  |none=>rw [h0] at hB; cases hB
  |some o=>
   rw [h0] at hB;simp only at hB;split at hB
   ·rw [beq_iff_eq.1 hB]; simp
   ·rw [Bool.and_eq_true] at hB; simpa using hB.1
theorem qA {Q:EF→Heap→Prop} {z:Nat} (hz:wY md ops z=true) (m:Nat):∀(l:List Nat) (listed:Array Bool) (F:EF) (h:Heap),Closed md ops listed→
  jn md ops l listed=true→iF P ops hm (fun F h=>rC P md ops hm z Q m (dN l listed) F h) l F h→rC P md ops hm z Q (m+l.length) listed F h
 | [],_,_,_,_,_,hd=>hd
 |k::l,listed,F,h,hcl,hB,hd=>by
  simp only [jn,Bool.and_eq_true] at hB;obtain ⟨hB,hB'⟩:=hB;cases h0:ops[k]? with
  |none=>rw [h0] at hB; cases hB
  |some o=>
   rw [h0] at hB;simp only at hB;cases he:dI o.op with
   |true=>
    rw [he,if_pos rfl] at hB;have hB:=beq_iff_eq.1 hB;refine ⟨fun e=>(by rw [hB] at e; cases e),fun j hj=> ?_⟩
    rw [hB] at hj;obtain rfl:j=k:=by simpa using hj
    exact gL (fun F' h' hh=>qA hz m l _ F' h' (hcl.set (by rw [hB]; simp)) hB' hh) hd
   |false=>
    rw [he,if_neg (by simp),Bool.and_eq_true] at hB
    have hd:nQ P ops hm o (iF P ops hm (fun F h=>rC P md ops hm z Q m (dN (k::l) listed) F h) l) F h:=by
     have:hOp P ops hm k (iF P ops hm _ l) F h:=hd;unfold hOp at this;simpa only [h0] using this
    obtain ⟨X,hy,hK⟩:=jV he hd;have hin:k∈Region.ready md ops listed:=by simpa using hB.1
    exact oF hz h0 (m+l.length) listed F h hcl (Region.free_spec h0 hB.2) hin hy (qA hz m l _ _ _ (hcl.set hin) hB' hK)
theorem wT {n z:Nat} (hU:∀t,aO P U t) {md:Region.Mode} {all:List Oper} {K:Env→Heap→Prop} (hz:wY md all.toArray z=true):∀(t:Ord) (listed:Array Bool) (ρ:Env) (h:Heap),Closed md all.toArray listed→HT md all.toArray z t listed=true→qp P U n all hm t ρ h K→
  rC P md all.toArray hm z (fun F h=>∃ρ,lk ρ=F∧K ρ h) t.len listed (lk ρ) h
 | .seq l,listed,ρ,h,hc,hB,hk=>oH hz l listed _ h hc hB (cU hU l ρ h hk)
 | .quiet l i t,listed,ρ,h,hc,hB,hk=>by
  simp only [HT,Bool.and_eq_true] at hB;obtain ⟨h1,⟨h2,h3⟩,h4⟩:=hB;have hc' :=qe l listed hc h1;refine qA hz (t.len+1) l listed _ h hc h1 (lg (fun F h hh=> ?_) l _ h (cU hU l ρ h hk))
  obtain ⟨ρ',rfl,g⟩:=hh;cases hi:all[i]? with
  |none=>rw [hi] at g; exact g.elim
  |some o=>
   rw [hi] at g;simp only at g;obtain ⟨X,hX,hq⟩:=yM hU g.2;have hi' :all.toArray[i]? =some o:=by simpa using hi
   have hin:i∈Region.ready md all.toArray (dN l listed):=by simpa using h2
   refine oF hz hi' t.len _ _ h hc' (Region.free_spec hi' h3) hin (.inl ⟨by simp [cB,g.1],hq⟩) ?_
   rw [←oR];exact wT hU hz t _ _ h (hc'.set hin) h4 hX
 | .fork ..,_,_,_,_,hB,_=>by cases hB
 | .news ..,_,_,_,_,hB,_=>by cases hB
end
section
variable {P : Program} {U : TypeId → TI} {ops : Array Oper} {md : Region.Mode} {h : Heap}
theorem zj {Q:EF→Prop} {z i:Nat} {oi:Oper} {X:AV} (hz:wY md ops z=true) (hi:ops[i]? =some oi):
  ∀(fuel:Nat) (listed:Array Bool) (F:EF),Closed md ops listed→
   (∀j oj,ops[j]? =some oj→j≠i→listed.getD j true=false→(∀e∈oj.after,Region.binds md e=true→e.on≠i)→oi.apart ops oj=true)→
   i∈Region.ready md ops listed→YD P ops h oi X F→
   Ai P md ops h z Q fuel (listed.setIfInBounds i true) (gz F oi.dst X)→Ai P md ops h z Q (fuel+1) listed F:=by
 intro fuel
 induction fuel with
 |zero=>
  intro listed F hcl _ hr hy H;refine ⟨fun e=>(by rw [e] at hr; cases hr),fun j hj=> ?_⟩
  by_cases hji:j=i
  ·subst hji; exact pL hi hy H
  ·have:=ready_mono hj hji
   rw [H.1.1] at this;obtain rfl:j=z:=by simpa using this
   exact (hji (yR hz hcl hj hr).symm).elim
 |succ fuel ih=>
  intro listed F hcl hfree hr hy H;refine ⟨fun e=>(by rw [e] at hr; cases hr),fun j hj=> ?_⟩
  by_cases hji:j=i
  ·subst hji; exact pL hi hy H
  ·have h1:=H.2 j (ready_mono hj hji)
   obtain ⟨hjun,oj,hoj,hall⟩:=mem_ready.1 hj;have hnot:∀e∈oj.after,Region.binds md e=true→e.on≠i:=fun e he hb heq=>by
    have h1:=hall e he hb;have h0:=(mem_ready.1 hr).1;rw [heq] at h1;rcases Nat.lt_or_ge i listed.size with h' |h'
    ·simp [h'] at h0 h1; rw [h0] at h1; cases h1
    ·simp [Array.getElem?_eq_none h'] at h1
   have h2:=DG hoj (hfree j oj hoj hji hjun hnot) hy h1;have hfree' :∀k ok,ops[k]? =some ok→k≠i→(listed.setIfInBounds j true).getD k true=false→
     (∀e∈ok.after,Region.binds md e=true→e.on≠i)→oi.apart ops ok=true:=fun k ok hk hki hun hno=>by
    refine hfree k ok hk hki ?_ hno
    by_cases hjk:j=k
    ·subst hjk; exact hjun
    ·rw [getD_set_ne true hjk] at hun; exact hun
   refine Ak (fun F' h3=>ih (listed.setIfInBounds j true) F' (hcl.set hj) hfree' (ready_mono hr (Ne.symm hji)) h3.1 ?_) h2
   rw [Array.setIfInBounds_comm _ _ hji];exact h3.2
theorem vg {Q:EF→Prop} {z:Nat} (hz:wY md ops z=true):∀(l:List Oper) (k:Nat) (listed:Array Bool) (F:EF),Closed md ops listed→(∀j,j<l.length→l[j]? =ops[k+j]?)→
  HC md ops z l.length k listed=true→dList P ops h Q l F→Ai P md ops h z Q l.length listed F
 | [],_,_,_,_,_,hB,hd=>⟨by simpa [HC] using hB,hd⟩
 |o::l,k,listed,F,hcl,hl,hB,hd=>by
  have h0:ops[k]? =some o:=by simpa using (hl 0 (by simp)).symm
  simp only [List.length_cons,HC,Bool.and_eq_true] at hB;obtain ⟨⟨hr,hf⟩,hB'⟩:=hB;obtain ⟨X,hy,hK⟩:=tr hd;exact zj hz h0 l.length listed F hcl (Region.free_spec h0 hf) (by simpa using hr) hy
   (vg hz l (k+1) _ _ (hcl.set (by simpa using hr)) (fun j hj=>by have:=hl (j+1) (by simpa using hj); simpa [Nat.add_assoc,Nat.add_comm 1 j] using this) hB' hK)
end
section
variable (P : Program) (U : TypeId → TI) (n : Nat)
def KSeq (next:Env→Heap→Prop) (K:Exit→Env→Heap→Prop) (e:Exit) (ρ:Env) (h:Heap):Prop:=
 match e with
 | .normal=>next ρ h
 |e=>K e ρ h
def KBlock (id:Nat) (K:Exit→Env→Heap→Prop) (e:Exit) (ρ:Env) (h:Heap):Prop:=
 match e with
 | .exit j=>if j=id then K .normal ρ h else K (.exit j) ρ h
 |e=>K e ρ h
def wf1:AV→Prop
 | .s l=>l.length<lim
 | .sl xs _=>xs.length<lim
 |_=>True
def wfA:AV→Prop
 | .agg cs=>∀x∈cs,wf1 x
 | .pe y _=>∀x∈y.cells,wf1 x
 |x=>wf1 x
def Wf (ρ:Env):Prop:=∀t x,lk ρ t=some x→wfA x
def Gi (body:Env→Heap→(Exit→Env→Heap→Prop)→Prop) (ρ:Env) (h:Heap) (K:Exit→Env→Heap→Prop):Prop:=
 Wf ρ→∃(I:Nat→Env→Heap→Prop) (m:Nat),I m ρ h∧∀m ρ h,I m ρ h→body ρ h (KSeq (fun ρ' h' =>∃m',m' <m∧I m' ρ' h') K)
def nJ (all:List Oper):List Oper→Env→Heap→(Env→Prop)→Prop
 | [],ρ,_,K=>K ρ
 |o::os,ρ,h,K=>dX n o.dst=true∧fY all ρ o.guard
   (fun ρ=>lF P U ρ h o fun X=>nJ all os (put ρ o.dst X) h K)
   (fun ρ=>nJ all os (put ρ o.dst (.v undef)) h K)
def vO (ops:Array Oper):Bool:=Region.lexFrom .any ops ops.size 0 (Array.replicate ops.size false)
def zx:Op→Bool
 | .store .. =>true
 |_=>false
def qg:List Oper→Bool
 | []=>false
 | [o]=>zx o.op && o.guard.isNone
 |_::b::r=>qg (b::r)
def HD (ops:Array Oper):Bool:=wY .any ops (ops.size - 1) && HC .any ops (ops.size - 1) (ops.size - 1) 0 (Array.replicate ops.size false)
def oQ (l:List Oper) (h:Heap) (K:Env→Heap→Prop) (ρ:Env):Prop:=match l.getLast? with
 |some o=>bg P U ρ h o fun X h' =>K (put ρ o.dst X) h'
 |none=>False
def mh (l:List Oper):Bool:=l.all fun o=> !dI o.op
def Le (P:Program) (U:TypeId→TI) (n:Nat) (ops:Array Oper) (ρ:Env) (h:Heap) (K:Env→Heap→Prop):Prop:=
 (ops.toList.all fun o=>dX n o.dst)=true∧
 (vO ops=true∧nJ P U n ops.toList ops.toList ρ h (fun ρ=>K ρ h)∨
  (∃(hm:Heap) (t:Ord) (Post:Env→Heap→Prop),Sub hm h∧qj .any ops t (Array.replicate ops.size false)=true∧t.len=ops.size∧qp P U n ops.toList hm t ρ h Post∧∀ρ h,Post ρ h→K ρ h)∨
  (∃(hm:Heap) (l1 l2:List Nat),Sub hm h∧uN .any ops l1 l2=true∧fG P U n ops.toList hm l1 ρ h (fun ρ h=>∃hm2,Sub hm2 h∧fG P U n ops.toList hm2 l2 ρ h K))∨
  ∃(hm:Heap) (t:Ord),Sub hm h∧wY .any ops t.len=true∧(ops.toList.getLast?.map fun o=>o.guard.isNone)=some true∧HT .any ops t.len t (Array.replicate ops.size false)=true∧t.len+1=ops.size∧qp P U n ops.toList hm t ρ h (fun ρ h=>oQ P U ops.toList h K ρ))
def WP (c:Code) (ρ:Env) (h:Heap) (K:Exit→Env→Heap→Prop):Prop:=
 ∀cx a,Sub h cx.h→Good cx→cj cx n ρ a→c.wp P (WPK n K cx) a cx.w
def KJump (l:Nat) (J:Env→Heap→Prop) (K:Exit→Env→Heap→Prop):Exit→Env→Heap→Prop
 | .goto l',ρ,h=>l' =l∧J ρ h
 |e,ρ,h=>K e ρ h
def bG:Code→Env→Heap→(Exit→Env→Heap→Prop)→Prop
 | .skip,ρ,h,K=>K .normal ρ h
 | .region _ ops draw,ρ,h,K=>if draw then (if qg ops.toList && mh ops.toList.dropLast then (HD ops && ops.toList.all fun o=>dX n o.dst)=true∧nJ P U n ops.toList ops.toList.dropLast ρ h (oQ P U ops.toList h (K .normal)) else if mh ops.toList=false then Le P U n ops ρ h (K .normal) else (vO ops && ops.toList.all fun o=>dX n o.dst)=true∧nJ P U n ops.toList ops.toList ρ h (fun ρ=>K .normal ρ h)) else jz P U n ops.toList ops.toList ρ h (K .normal)
 | .seq a b,ρ,h,K=>bG a ρ h (KSeq (fun ρ h=>bG b ρ h K) K)
 | .cond c a b,ρ,h,K=>withv ρ c fun
  | .v (.bool t)=>(t=true→bG a ρ h K)∧(t=false→bG b ρ h K)
  |_=>False
 | .block id c,ρ,h,K=>bG c ρ h (KBlock id K)
 | .loop c,ρ,h,K=>Gi (fun ρ h K=>bG c ρ h K) ρ h K
 | .exit id,ρ,h,K=>K (.exit id) ρ h
 | .ret,ρ,h,K=>K .ret ρ h
 | .label _,ρ,h,K=>K .normal ρ h
 | .goto l,ρ,h,K=>K (.goto l) ρ h
 | .scope c,ρ,h,K=>∃(l:Nat) (rest:Code) (J:Nat→Env→Heap→Prop),findLabel c l=some rest∧bG c ρ h (KJump l (fun ρ h=>∃m,J m ρ h) K)∧
  ∀m ρ h,J m ρ h→WP P n rest ρ h (KJump l (fun ρ' h' =>∃m',m' <m∧J m' ρ' h') K)
 |_,_,_,_=>False
end
section
variable {P : Program} {U : TypeId → TI} {n : Nat}
theorem WPK.mono {K K' :Exit→Env→Heap→Prop} {c0:Cx} (hk:∀e ρ h,K e ρ h→K' e ρ h) {e:Exit} {a:Act} {w:World} (h:WPK n K c0 e a w):WPK n K' c0 e a w:=by
 obtain ⟨c,ρ,hh,h1,h2,h3,h4,h5,h6⟩:=h;exact ⟨c,ρ,hh,h1,h2,h3,h4,h5,hk _ _ _ h6⟩
theorem WP.weaken {c:Code} {ρ:Env} {h:Heap} {K K' :Exit→Env→Heap→Prop} (hw:WP P n c ρ h K) (hk:∀e ρ h,K e ρ h→K' e ρ h):WP P n c ρ h K' :=
 fun cx a h1 h2 h3=>wp_mono (hw cx a h1 h2 h3) fun _ _ _=>WPK.mono hk
theorem WP.seq {c d:Code} {ρ:Env} {h:Heap} {K:Exit→Env→Heap→Prop} (hc:WP P n c ρ h (KSeq (WP P n d · · K) K)):WP P n (.seq c d) ρ h K:=by
 intro cx a h1 h2 h3;refine wp_seq (wp_mono (hc cx a h1 h2 h3) fun e a w hq=> ?_)
 obtain ⟨c',ρ',h',rfl,g,hE,he,hs,hk⟩:=hq;cases e with
 |normal=>
  have:=hk c' a hs g he;exact wp_mono this fun _ _ _=>WPK.after hE
 |_=>exact ⟨c',ρ',h',rfl,g,hE,he,hs,hk⟩
theorem WP.block {id:Nat} {c:Code} {ρ:Env} {h:Heap} {K:Exit→Env→Heap→Prop} (hc:WP P n c ρ h (KBlock id K)):WP P n (.block id c) ρ h K:=by
 intro cx a h1 h2 h3;refine wp_block (wp_mono (hc cx a h1 h2 h3) fun e a w hq=> ?_)
 obtain ⟨c',ρ',h',rfl,g,hE,he,hs,hk⟩:=hq;cases e with
 |exit j=>
  simp only [Exit.inBlock,KBlock] at hk⊢;split
  ·rename_i e; rw [if_pos e] at hk; exact ⟨c',ρ',h',rfl,g,hE,he,hs,hk⟩
  ·rename_i e; rw [if_neg e] at hk; exact ⟨c',ρ',h',rfl,g,hE,he,hs,hk⟩
 |_=>exact ⟨c',ρ',h',rfl,g,hE,he,hs,hk⟩
theorem zN {c:Code} {Q:Exit→Act→World→Prop} (I:Nat→Act→World→Prop) (round:∀m a w,I m a w→c.wp P (Exit.then (fun a' w' =>∃m',m' <m∧I m' a' w') Q) a w):
  ∀m a w,I m a w→(Code.loop c).wp P Q a w:=by
 intro m a w h0 b k cs;have key:∀n a w,I n a w→∃e a' w',Q e a' w'∧Arrives P (lone (b.at a (.code c:: .inLoop c::k)) cs w) b k cs e a' w' :=by
  intro n
  induction n using Nat.strongRecOn with
  |_ n ih=>
   intro a w hI;obtain ⟨e,a₁,w₁,hq,harr⟩:=round n a w hI b (.inLoop c::k) cs;cases e with
   |normal=>
    obtain ⟨m',hlt,hI₁⟩:=hq;obtain ⟨e₂,a₂,w₂,hq₂,harr₂⟩:=ih m' hlt a₁ w₁ hI₁;exact ⟨e₂,a₂,w₂,hq₂, .of_steps (Steps.trans harr (.one step_inLoop)) harr₂⟩
   |exit id=>exact ⟨_,a₁,w₁,hq, .pass (x:= .inLoop c) rfl (fun _ _=> .inl (by simp)) harr⟩
   |goto l=>exact ⟨_,a₁,w₁,hq, .pass (x:= .inLoop c) rfl (fun _ _=> .inl (by simp)) harr⟩
   |ret=>exact ⟨_,a₁,w₁,hq, .pass (x:= .inLoop c) rfl (fun _ _=> .inl (by simp)) harr⟩
   |panic ch=>exact ⟨_,a₁,w₁,hq, .pass (x:= .inLoop c) rfl (fun _ _=> .inl (by simp)) harr⟩
   |outgrown=>exact ⟨_,a₁,w₁,hq, .pass (x:= .inLoop c) rfl (fun _ _=> .inl (by simp)) harr⟩
 obtain ⟨e,a',w',hq,harr⟩:=key m a w h0;exact ⟨e,a',w',hq, .of_steps (.one step_loop) harr⟩
def Exit.Hv (l:Nat) (J:Act→World→Prop) (Q:Exit→Act→World→Prop):Exit→Act→World→Prop
 | .goto l',a,w=>l' =l∧J a w
 |e,a,w=>Q e a w
theorem xD {c rest:Code} {Q:Exit→Act→World→Prop} {a:Act} {w:World} (l:Nat) (J:Nat→Act→World→Prop) (hf:findLabel c l=some rest)
  (first:c.wp P (Exit.Hv l (fun a w=>∃m,J m a w) Q) a w)
  (pass:∀m a w,J m a w→rest.wp P (Exit.Hv l (fun a' w' =>∃m',m' <m∧J m' a' w') Q) a w):(Code.scope c).wp P Q a w:=by
 intro b k cs;have hg:gotoIn l (.inScope c::k)=some (.code rest:: .inScope c::k):=by simp [gotoIn,hf]
 have key:∀m a w,J m a w→∃e a' w',Q e a' w'∧Arrives P (lone (b.at a (.code rest:: .inScope c::k)) cs w) b k cs e a' w' :=by
  intro m
  induction m using Nat.strongRecOn with
  |_ m ih=>
   intro a w hJ;obtain ⟨e,a₁,w₁,hq,harr⟩:=pass m a w hJ b (.inScope c::k) cs;cases e with
   |normal=>exact ⟨.normal,a₁,w₁,hq,Steps.trans harr (.one step_inScope)⟩
   |exit id=>exact ⟨.exit id,a₁,w₁,hq,fun k' hk=>harr k' (by simp [exitTo,hk])⟩
   |goto l' =>
    obtain ⟨rfl,m',hlt,hJ'⟩:=hq;obtain ⟨e₂,a₂,w₂,hq₂,harr₂⟩:=ih m' hlt a₁ w₁ hJ';exact ⟨e₂,a₂,w₂,hq₂, .of_steps (harr _ hg) harr₂⟩
   |ret=>exact ⟨_,a₁,w₁,hq,harr⟩
   |panic ch=>exact ⟨_,a₁,w₁,hq,harr⟩
   |outgrown=>exact ⟨_,a₁,w₁,hq,harr⟩
 obtain ⟨e,a₁,w₁,hq,harr⟩:=first b (.inScope c::k) cs;cases e with
 |normal=>exact ⟨.normal,a₁,w₁,hq, .head step_scope (Steps.trans harr (.one step_inScope))⟩
 |exit id=>exact ⟨.exit id,a₁,w₁,hq,fun k' hk=> .head step_scope (harr k' (by simp [exitTo,hk]))⟩
 |goto l' =>
  obtain ⟨rfl,m,hJ⟩:=hq;obtain ⟨e₂,a₂,w₂,hq₂,harr₂⟩:=key m a₁ w₁ hJ;exact ⟨e₂,a₂,w₂,hq₂, .of_steps (.head step_scope (harr _ hg)) harr₂⟩
 |ret=>exact ⟨_,a₁,w₁,hq, .of_steps (.one step_scope) harr⟩
 |panic ch=>exact ⟨_,a₁,w₁,hq, .of_steps (.one step_scope) harr⟩
 |outgrown=>exact ⟨_,a₁,w₁,hq, .of_steps (.one step_scope) harr⟩
theorem WP.scope {c rest:Code} {ρ:Env} {h:Heap} {K:Exit→Env→Heap→Prop} (l:Nat) (J:Nat→Env→Heap→Prop) (hf:findLabel c l=some rest) (first:WP P n c ρ h (KJump l (fun ρ h=>∃m,J m ρ h) K))
  (pass:∀m ρ h,J m ρ h→WP P n rest ρ h (KJump l (fun ρ' h' =>∃m',m' <m∧J m' ρ' h') K)):WP P n (.scope c) ρ h K:=by
 intro cx a h1 h2 h3;refine xD l (fun m a w=>∃c' ρ' h',c'.w=w∧Good c'∧Ext cx c'∧cj c' n ρ' a∧Sub h' c'.h∧J m ρ' h') hf (wp_mono (first cx a h1 h2 h3) fun e a w hq=> ?_) ?_
 ·obtain ⟨c2,ρ2,h2,rfl,g2,hE2,he2,hs2,hk⟩:=hq
  cases e with
  |goto l' =>obtain ⟨e1,m,hI⟩:=hk; exact ⟨e1,m,c2,ρ2,h2,rfl,g2,hE2,he2,hs2,hI⟩
  |_=>exact ⟨c2,ρ2,h2,rfl,g2,hE2,he2,hs2,hk⟩
 ·rintro m a w ⟨c',ρ',h',rfl,g,hE,he,hs,hI⟩
  refine wp_mono (pass m ρ' h' hI c' a hs g he) fun e a w hq=> ?_
  obtain ⟨c2,ρ2,h2,rfl,g2,hE2,he2,hs2,hk⟩:=hq;cases e with
  |goto l' =>
   obtain ⟨e1,m',hlt,hI'⟩:=hk;exact ⟨e1,m',hlt,c2,ρ2,h2,rfl,g2,hE.trans hE2,he2,hs2,hI'⟩
  |_=>exact ⟨c2,ρ2,h2,rfl,g2,hE.trans hE2,he2,hs2,hk⟩
theorem WP.loop {c:Code} {ρ:Env} {h:Heap} {K:Exit→Env→Heap→Prop} (I:Nat→Env→Heap→Prop) (m:Nat) (h0:I m ρ h) (round:∀m ρ h,I m ρ h→WP P n c ρ h (KSeq (fun ρ' h' =>∃m',m' <m∧I m' ρ' h') K)):
  WP P n (.loop c) ρ h K:=by
 intro cx a h1 h2 h3;refine zN (fun m a w=>∃c' ρ' h',c'.w=w∧Good c'∧Ext cx c'∧cj c' n ρ' a∧Sub h' c'.h∧I m ρ' h') ?_ m a cx.w ⟨cx,ρ,h,rfl,h2, .refl _,h3,h1,h0⟩
 rintro m a w ⟨c',ρ',h',rfl,g,hE,he,hs,hI⟩
 refine wp_mono (round m ρ' h' hI c' a hs g he) fun e a w hq=> ?_
 obtain ⟨c2,ρ2,h2,rfl,g2,hE2,he2,hs2,hk⟩:=hq;cases e with
 |normal=>
  obtain ⟨m',hlt,hI'⟩:=hk;exact ⟨m',hlt,c2,ρ2,h2,rfl,g2,hE.trans hE2,he2,hs2,hI'⟩
 |_=>exact ⟨c2,ρ2,h2,rfl,g2,hE.trans hE2,he2,hs2,hk⟩
theorem WP.ops (hU:∀t,aO P U t) {id:Nat} {ops:Array Oper} {ρ:Env} {h:Heap} {K:Exit→Env→Heap→Prop} (hk:jz P U n ops.toList ops.toList ρ h (K .normal)):WP P n (.region id ops false) ρ h K:=by
 intro cx a h1 h2 h3;refine wp_region_list ?_;have:=pH (K:=K) hU cx ops.toList ρ h hk cx a (.refl _) h1 h2 h3;simpa using this
theorem Rep.wf1 {c:Cx} {x:AV} {u:Value} (h:Rep c x u):wf1 x:=by
 cases x with
 |s l=>exact h.lW.2
 |sl xs p=>obtain ⟨a,cap,sz,val,_,hs⟩:=h.iB; have:=hs.hc; have:=hs.hm; simp only [Ab.wf1]; omega
 |_=>trivial
theorem Rep.wf {c:Cx} {x:AV} {u:Value} (h:Rep c x u):wfA x:=by
 cases x with
 |agg cs=>
  obtain ⟨vs,_,_,hr,_⟩:=h.mP;intro x hx;obtain ⟨i,hi,rfl⟩:=List.mem_iff_getElem.1 hx;exact (hr i hi).wf1
 |pe y off=>
  obtain ⟨b,o,val,_,_,_,hr,_⟩:=h.sR;intro x hx;obtain ⟨i,hi,rfl⟩:=List.mem_iff_getElem.1 hx;exact (hr i hi).wf1
 |_=>exact h.wf1
theorem cj.wf {c:Cx} {ρ:Env} {a:Act} (h:cj c n ρ a):Wf ρ:=fun t x hx=>(h.rep t x hx).wf
theorem A2 {ρ:Env} {d:Nat} {x:AV} (hd:lk ρ d=some x):lk ((d,x)::ρ)=lk ρ:=by
 funext t
 simp only [lk];split
 ·rename_i e; subst e; exact hd.symm
 ·rfl
theorem nK (hU:∀t,aO P U t) {all:List Oper} {h:Heap} {K:Env→Prop}:∀(l:List Oper) (ρ:Env),nJ P U n all l ρ h K→dList P all.toArray h (fun F=>∃ρ,lk ρ=F∧K ρ) l (lk ρ)
 | [],ρ,hk=>⟨ρ,rfl,hk⟩
 |o::os,ρ,hk=>by
  obtain ⟨hd,hk⟩:=hk;have yes:∀ρ',cB all.toArray (lk ρ) o=some true→lk ρ' =lk ρ→(lF P U ρ' h o fun X=>nJ P U n all os (put ρ' o.dst X) h K)→tH P all.toArray h o (dList P all.toArray h (fun F=>∃ρ,lk ρ=F∧K ρ) os) (lk ρ):=by
   intro ρ' hw hl hv;obtain ⟨X,hQ,hX⟩:=Dr hU hv;have:=nK hU os _ hQ;rw [oR,hl] at this;rw [hl] at hX;exact .inl ⟨hw,X,hX,this⟩
  have no:∀ρ',cB all.toArray (lk ρ) o=some false→lk ρ' =lk ρ→nJ P U n all os (put ρ' o.dst (.v undef)) h K→tH P all.toArray h o (dList P all.toArray h (fun F=>∃ρ,lk ρ=F∧K ρ) os) (lk ρ):=by
   intro ρ' hw hl hv;have:=nK hU os _ hv;rw [oR,hl] at this;exact .inr ⟨hw,this⟩
  unfold fY at hk;split at hk
  ·rename_i hg
   exact yes ρ (by simp [cB,hg]) rfl hk
  ·rename_i g want hg
   split at hk
   ·rename_i d hd'
    have hd2:((all.toArray)[g]?).bind (·.dst)=some d:=by simpa [ou] using hd'
    split at hk
    ·rename_i t ht
     have hw:cB all.toArray (lk ρ) o=some (t==want):=by
      unfold cB;simp only [hg];rw [hd2];simp only [ht]
     by_cases e:t=want
     ·exact yes _ (by rw [hw,e]; simp) (A2 (by rw [ht,e])) (hk.1 e)
     ·have e' :t= !want:=by cases t<;>cases want<;>simp_all
      exact no _ (by rw [hw]; simp [e]) (A2 (by rw [ht,e'])) (hk.2 e')
    ·rename_i vs ht
     refine no ρ ?_ rfl hk;unfold cB;simp only [hg];rw [hd2];simp only [ht]
    ·exact hk.elim
   ·exact hk.elim
theorem WP.draw (hU:∀t,aO P U t) (hm:P.follows .mixedOrders=true) {id:Nat} {ops:Array Oper} {ρ:Env} {h:Heap} {K:Exit→Env→Heap→Prop} (hdst:∀o∈ops.toList,dX n o.dst=true) (hB:vO ops=true)
  (hk:nJ P U n ops.toList ops.toList ρ h (fun ρ=>K .normal ρ h)):WP P n (.region id ops true) ρ h K:=by
 intro cx a h1 h2 h3;have hd:=nK hU ops.toList ρ hk;have hd2:=Aj (md:= .any) (ops:=ops) ops.toList 0 (Array.replicate ops.size false) (lk ρ) (by simp) (by simpa [vO] using hB) (by simpa using hd)
 refine wp_region_any hm ?_;have hE:Ext cx {cx with w:= {cx.w with drawn:=cx.w.drawn+1}}:=Ext.draw rfl rfl rfl rfl
 have:=vh (n:=n) (Q' :=WPK n K cx) (c0:=cx) hdst (fun c F a hE hs g he hQ=>by
  obtain ⟨ρ',rfl,hK⟩:=hQ;exact ⟨c,ρ',h,rfl,g,hE,⟨he.1,he.2.1,he.2.2⟩,hs,hK⟩) _ _ {cx with w:= {cx.w with drawn:=cx.w.drawn+1}} (lk ρ) a hE h1 (h2.draw rfl rfl rfl rfl)
  ⟨h3.size,h3.defers,fun t x hx=>(h3.rep t x hx).mono hE⟩ hd2
 simpa using this
theorem WP.On (hU:∀t,aO P U t) (hm:P.follows .mixedOrders=true) {id:Nat} {ops:Array Oper} {ρ:Env} {h hl:Heap} {K:Exit→Env→Heap→Prop} {t:Ord} {Post:Env→Heap→Prop} (hdst:∀o∈ops.toList,dX n o.dst=true) (hsub:Sub hl h)
  (hB:qj .any ops t (Array.replicate ops.size false)=true) (hlen:t.len=ops.size)
  (hk:qp P U n ops.toList hl t ρ h Post) (hp:∀ρ h,Post ρ h→K .normal ρ h):WP P n (.region id ops true) ρ h K:=by
 intro cx a h1 h2 h3;have hd2:=mN (md:= .any) (all:=ops.toList) hU t (Array.replicate ops.size false) ρ h (by rw [Array.toArray_toList]; exact hB) hk
 rw [Array.toArray_toList] at hd2;refine wp_region_any hm ?_;have hE:Ext cx {cx with w:= {cx.w with drawn:=cx.w.drawn+1}}:=Ext.draw rfl rfl rfl rfl
 have:=qC (n:=n) (Q' :=WPK n K cx) (c0:=cx) hdst (fun c F h a hE hs g he hQ=>by
  obtain ⟨ρ',rfl,hK⟩:=hQ;exact ⟨c,ρ',h,rfl,g,hE,⟨he.1,he.2.1,he.2.2⟩,hs,hp _ _ hK⟩) _ _ {cx with w:= {cx.w with drawn:=cx.w.drawn+1}} (lk ρ) h a hE h1 (fun i k hi=>h1 _ _ (hsub _ _ hi)) (h2.draw rfl rfl rfl rfl)
  ⟨h3.size,h3.defers,fun t x hx=>(h3.rep t x hx).mono hE⟩ hd2
 rw [hlen] at this;simpa using this
theorem WP.Oo (hU:∀t,aO P U t) (hm:P.follows .mixedOrders=true) {id:Nat} {ops:Array Oper} {ρ:Env} {h hl:Heap} {K:Exit→Env→Heap→Prop} {l1 l2:List Nat} (hdst:∀o∈ops.toList,dX n o.dst=true) (hsub:Sub hl h)
  (hB:uN .any ops l1 l2=true) (hk:fG P U n ops.toList hl l1 ρ h (fun ρ h=>∃hm2,Sub hm2 h∧fG P U n ops.toList hm2 l2 ρ h (K .normal))):WP P n (.region id ops true) ρ h K:=by
 intro cx a h1 h2 h3;simp only [uN,Bool.and_eq_true,List.all_eq_true,beq_iff_eq] at hB;obtain ⟨⟨⟨⟨b1,b2⟩,b3⟩,b4⟩,b5⟩:=hB;have hd:=cU hU l1 ρ h hk;rw [Array.toArray_toList] at hd;have hd2:=oI (md:= .any) b2 b3 l1 (Array.replicate ops.size false) (lk ρ) h (fun _ hk=>hk) rfl (.none _ _ _) b1 hd
 refine wp_region_any hm ?_;have hE:Ext cx {cx with w:= {cx.w with drawn:=cx.w.drawn+1}}:=Ext.draw rfl rfl rfl rfl
 have:=tQ (n:=n) (m:=l2.length) (Q' :=WPK n K cx) (c0:=cx) hdst (fun c F h a hE hs g he hR=>by
  obtain ⟨ρ',rfl,hm2,hs2,hk2⟩:=hR;have he2:=cU hU l2 ρ' h hk2;rw [Array.toArray_toList] at he2;have ha:=mV (md:= .any) l2 (dN l1 (Array.replicate ops.size false)) (lk ρ') h b4 he2;exact qC (n:=n) (Q' :=WPK n K cx) (c0:=cx) hdst (fun c F h a hE hs g he hQ=>by
   obtain ⟨ρ',rfl,hK⟩:=hQ;exact ⟨c,ρ',h,rfl,g,hE,⟨he.1,he.2.1,he.2.2⟩,hs,hK⟩) _ _ c _ h a hE hs (fun i k hi=>hs _ _ (hs2 _ _ hi)) g he ha) _ _ {cx with w:= {cx.w with drawn:=cx.w.drawn+1}} (lk ρ) h a hE h1 (fun i k hi=>h1 _ _ (hsub _ _ hi)) (h2.draw rfl rfl rfl rfl)
  ⟨h3.size,h3.defers,fun t x hx=>(h3.rep t x hx).mono hE⟩ hd2
 rw [b5] at this;simpa using this
theorem vI:∀ {l:List Oper},qg l=true→∃o,l.getLast? =some o∧o.guard=none
 | [o],h=>⟨o,rfl,by simp only [qg,Bool.and_eq_true] at h; simpa using h.2⟩
 |_::b::r,h=>by
  obtain ⟨o,h1,h2⟩:=vI (l:=b::r) h;exact ⟨o,by rw [List.getLast?_cons_cons]; exact h1,h2⟩
theorem WP.Ot (hU:∀t,aO P U t) (hm:P.follows .mixedOrders=true) {id:Nat} {ops:Array Oper} {ρ:Env} {h hl:Heap} {K:Exit→Env→Heap→Prop} {l:Ord} (hdst:∀o∈ops.toList,dX n o.dst=true) (hsub:Sub hl h)
  (hz:wY .any ops l.len=true) (hg:(ops.toList.getLast?.map fun o=>o.guard.isNone)=some true) (hB:HT .any ops l.len l (Array.replicate ops.size false)=true) (hlen:l.len+1=ops.size)
  (hk:qp P U n ops.toList hl l ρ h (fun ρ h=>oQ P U ops.toList h (K .normal) ρ)):WP P n (.region id ops true) ρ h K:=by
 intro cx a h1 h2 h3;obtain ⟨oz,hoz,hgz⟩:=Option.map_eq_some_iff.1 hg;have hgz:oz.guard=none:=by simpa using hgz
 have hzz:ops[l.len]? =some oz:=by
  rw [List.getLast?_eq_getElem?] at hoz;rw [show l.len=ops.size - 1 by omega]
  simpa using hoz
 have hd2:=wT (md:= .any) (all:=ops.toList) (z:=l.len) hU (by rw [Array.toArray_toList]; exact hz) l (Array.replicate ops.size false) ρ h (.none _ _ _) (by rw [Array.toArray_toList]; exact hB) hk
 rw [Array.toArray_toList] at hd2;refine wp_region_any hm ?_;have hE:Ext cx {cx with w:= {cx.w with drawn:=cx.w.drawn+1}}:=Ext.draw rfl rfl rfl rfl
 have:=tP (n:=n) (Q' :=WPK n K cx) (c0:=cx) hdst (fun c F h a hE hs g he hQ=>by
  obtain ⟨ρ',rfl,hK⟩:=hQ;unfold oQ at hK;rw [hoz] at hK;simp only at hK;have he' :cj c n ρ' a:=⟨he.1,he.2.1,he.2.2⟩;have hdz:dX n oz.dst=true:=hdst oz (by simpa using Array.mem_of_getElem? hzz)
  have hu:=jJ hU hK hs g he';unfold wpOp;rw [hzz];simp only;rw [if_pos (by simp [Region.wanted,hgz])]
  left
  have next:∀u w',eC c (fun X h' =>K .normal (put ρ' oz.dst X) h') u w'→WPK n K cx .normal (a.put oz.dst u) w' :=by
   rintro u w' ⟨c',x,h',rfl,g',hE',hr,hs',hK⟩
   exact ⟨c',_,h',rfl,g',hE.trans hE',(he'.mono hE').put hdz hr,hs',hK⟩
  unfold Oper.wp;generalize (execOp a.eval oz).run P c.w=r at hu;cases r with
  |ok nx w' =>
   cases nx<;>simp only [jU] at hu<;>simp only [Oper.upon]
   case value u=>exact next u w' hu
   case skip=>exact next undef w' hu
   case enter f args=>
    obtain ⟨rfl,hc⟩:=hu;exact hc.mono fun e w'' ⟨u,he,hcm⟩=>by subst he; exact next u w'' hcm
  |halt x w' =>exact hu.elim) _ _ {cx with w:= {cx.w with drawn:=cx.w.drawn+1}} (lk ρ) h a hE h1 (fun i k hi=>h1 _ _ (hsub _ _ hi)) (h2.draw rfl rfl rfl rfl)
  ⟨h3.size,h3.defers,fun t x hx=>(h3.rep t x hx).mono hE⟩ hd2
 rw [hlen] at this;exact this
theorem WP.Oq (hU:∀t,aO P U t) (hm:P.follows .mixedOrders=true) {id:Nat} {ops:Array Oper} {ρ:Env} {h:Heap} {K:Exit→Env→Heap→Prop} (hdst:∀o∈ops.toList,dX n o.dst=true) (hl:qg ops.toList=true) (hB:HD ops=true)
  (hk:nJ P U n ops.toList ops.toList.dropLast ρ h (oQ P U ops.toList h (K .normal))):WP P n (.region id ops true) ρ h K:=by
 obtain ⟨oz,hoz,hgz⟩:=vI hl;intro cx a h1 h2 h3;unfold HD at hB;rw [Bool.and_eq_true] at hB;have hd:=nK hU ops.toList.dropLast ρ hk;have hpos:0<ops.size:=by
  rcases Nat.eq_zero_or_pos ops.size with e|e
  ·have:ops.toList= []:=by simpa using Array.eq_empty_of_size_eq_zero e
   rw [this] at hoz; cases hoz
  ·exact e
 have hz:ops[ops.size - 1]? =some oz:=by
  rw [List.getLast?_eq_getElem?] at hoz;simpa using hoz
 have hlen:ops.toList.dropLast.length=ops.size - 1:=by simp
 have hd2:=vg (md:= .any) (ops:=ops) hB.1 ops.toList.dropLast 0 (Array.replicate ops.size false) (lk ρ) (Closed.none _ _ _) (fun j hj=>by
  rw [List.getElem?_dropLast];simp at hj;simp [hj]) (by rw [hlen]; exact hB.2) (by simpa using hd)
 refine wp_region_any hm ?_;have hE:Ext cx {cx with w:= {cx.w with drawn:=cx.w.drawn+1}}:=Ext.draw rfl rfl rfl rfl
 have:=tG (n:=n) (Q' :=WPK n K cx) (c0:=cx) hdst (fun c F a hE hs g he hQ=>by
  obtain ⟨ρ',rfl,hK⟩:=hQ;unfold oQ at hK;rw [hoz] at hK;simp only at hK;have he' :cj c n ρ' a:=⟨he.1,he.2.1,he.2.2⟩;have hdz:dX n oz.dst=true:=hdst oz (by simpa using Array.mem_of_getElem? hz)
  have hu:=jJ hU hK hs g he';unfold wpOp;rw [hz];simp only;rw [if_pos (by simp [Region.wanted,hgz])]
  left
  have next:∀u w',eC c (fun X h' =>K .normal (put ρ' oz.dst X) h') u w'→WPK n K cx .normal (a.put oz.dst u) w' :=by
   rintro u w' ⟨c',x,h',rfl,g',hE',hr,hs',hK⟩
   exact ⟨c',_,h',rfl,g',hE.trans hE',(he'.mono hE').put hdz hr,hs',hK⟩
  unfold Oper.wp;generalize (execOp a.eval oz).run P c.w=r at hu;cases r with
  |ok nx w' =>
   cases nx<;>simp only [jU] at hu<;>simp only [Oper.upon]
   case value u=>exact next u w' hu
   case skip=>exact next undef w' hu
   case enter f args=>
    obtain ⟨rfl,hc⟩:=hu;exact hc.mono fun e w'' ⟨u,he,hcm⟩=>by subst he; exact next u w'' hcm
  |halt x w' =>exact hu.elim) _ _ {cx with w:= {cx.w with drawn:=cx.w.drawn+1}} (lk ρ) a hE h1 (h2.draw rfl rfl rfl rfl)
  ⟨h3.size,h3.defers,fun t x hx=>(h3.rep t x hx).mono hE⟩ hd2
 rw [hlen,Nat.sub_add_cancel hpos] at this;exact this
theorem dc (hU:∀t,aO P U t) (hm:P.follows .mixedOrders=true):∀(c:Code) (ρ:Env) (h:Heap) (K:Exit→Env→Heap→Prop),bG P U n c ρ h K→WP P n c ρ h K
 | .skip,ρ,h,K,hk=>fun cx a h1 h2 h3=>wp_skip ⟨cx,ρ,h,rfl,h2, .refl _,h3,h1,hk⟩
 | .region id ops draw,ρ,h,K,hk=>by
  simp only [bG] at hk;cases draw with
  |true=>
   simp only [if_true] at hk;split at hk
   ·rename_i hl
    obtain ⟨hb,hk⟩:=hk;rw [Bool.and_eq_true,List.all_eq_true] at hb;rw [Bool.and_eq_true] at hl;exact WP.Oq hU hm hb.2 hl.1 hb.1 hk
   ·split at hk
    ·obtain ⟨hb,hk⟩:=hk
     rw [List.all_eq_true] at hb;rcases hk with ⟨h1,hk⟩|⟨hm',t,Post,h1,h2,h3,hk,hp⟩|⟨hm',l1,l2,h1,h2,hk⟩|⟨hm',l,h1,h2,h4,h5,h6,hk⟩
     ·exact WP.draw hU hm hb h1 hk
     ·exact WP.On hU hm hb h1 h2 h3 hk hp
     ·exact WP.Oo hU hm hb h1 h2 hk
     ·exact WP.Ot hU hm hb h1 h2 h4 h5 h6 hk
    ·obtain ⟨hb,hk⟩:=hk
     rw [Bool.and_eq_true,List.all_eq_true] at hb;exact WP.draw hU hm hb.2 hb.1 hk
  |false=>exact WP.ops hU (by simpa using hk)
 | .seq a b,ρ,h,K,hk=>by
  simp only [bG] at hk;refine WP.seq ((dc hU hm a ρ h _ hk).weaken fun e ρ' h' hh=> ?_)
  cases e with
  |normal=>exact dc hU hm b ρ' h' K hh
  |_=>exact hh
 | .cond c a b,ρ,h,K,hk=>by
  simp only [bG] at hk;obtain ⟨y,hy,hk⟩:=aH hk;split at hk
  ·rename_i t
   intro cx ac h1 h2 h3;have hv:=(aF h3 hy).bS;exact wp_cond_split hv (fun e=>dc hU hm a ρ h K (hk.1 e) cx ac h1 h2 h3) (fun e=>dc hU hm b ρ h K (hk.2 e) cx ac h1 h2 h3)
  ·exact hk.elim
 | .block id c,ρ,h,K,hk=>WP.block (dc hU hm c ρ h _ (by simpa only [bG] using hk))
 | .loop c,ρ,h,K,hk=>by
  simp only [bG] at hk;intro cx a h1 h2 h3;obtain ⟨I,m,h0,hr⟩:=hk h3.wf;exact WP.loop I m h0 (fun m ρ h hI=>dc hU hm c ρ h _ (hr m ρ h hI)) cx a h1 h2 h3
 | .exit id,ρ,h,K,hk=>fun cx a h1 h2 h3=>wp_exit ⟨cx,ρ,h,rfl,h2, .refl _,h3,h1,by simpa only [bG] using hk⟩
 | .ret,ρ,h,K,hk=>fun cx a h1 h2 h3=>wp_ret ⟨cx,ρ,h,rfl,h2, .refl _,h3,h1,by simpa only [bG] using hk⟩
 | .label l,ρ,h,K,hk=>fun cx a h1 h2 h3=>wp_label ⟨cx,ρ,h,rfl,h2, .refl _,h3,h1,by simpa only [bG] using hk⟩
 | .goto l,ρ,h,K,hk=>fun cx a h1 h2 h3=>wp_goto ⟨cx,ρ,h,rfl,h2, .refl _,h3,h1,by simpa only [bG] using hk⟩
 | .rangeFunc ..,_,_,_,hk=>by simp [bG] at hk
 | .scope c,ρ,h,K,hk=>by
  simp only [bG] at hk;obtain ⟨l,rest,J,hf,h1,h2⟩:=hk;exact WP.scope l J hf (dc hU hm c ρ h _ h1) h2
 | .refuse _,_,_,_,hk=>by simp [bG] at hk
def qL (ρ:Env) (h:Heap) (U:TypeId→TI):List ResultVar→(List AV→Prop)→Prop
 | [],k=>k []
 | .tmp t::r,k=>match lk ρ t with
  |some x=>qL ρ h U r fun xs=>k (x::xs)
  |none=>False
 | .cell t ty::r,k=>match lk ρ t with
  |some (.ptr id off)=>match h id with
   |some (.obj cs _)=>(U ty).sz≠0∧(U ty).k≠ .other∧gS cs off (U ty) fun x=>qL ρ h U r fun xs=>k (x::xs)
   |_=>False
  |_=>False
def ax (xs:List AV):AV:=match xs with
 | [x]=>x
 |xs=> .tup xs
inductive Weak:AV→AV→Prop where
 |refl (x:AV):Weak x x
 |sl (xs:List AV) (p:Perm):Weak (.sl xs p) (.sl xs .no)
 |agg (xs ys:List AV) (hl:xs.length=ys.length) (h:∀i (h1:i<xs.length) (h2:i<ys.length),Weak xs[i] ys[i]):Weak (.agg xs) (.agg ys)
 |tup (xs ys:List AV) (hl:xs.length=ys.length) (h:∀i (h1:i<xs.length) (h2:i<ys.length),Weak xs[i] ys[i]):Weak (.tup xs) (.tup ys)
 |deep (xs ys:List AV) (p:Perm) (hl:xs.length=ys.length) (hc:∀i (h1:i<xs.length) (h2:i<ys.length),xs[i].cells.length=ys[i].cells.length)
   (h:∀i (h1:i<xs.length) (h2:i<ys.length) j (h3:j<xs[i].cells.length) (h4:j<ys[i].cells.length),Weak xs[i].cells[j] ys[i].cells[j]):Weak (.sl xs p) (.sl ys .no)
theorem Rep.weak {c:Cx} {x y:AV} (hw:Weak x y):∀ {u:Value},Rep c x u→Rep c y u:=by
 induction hw with
 |refl x=>exact id
 |sl xs p=>
  intro u h;obtain ⟨a,cap,sz,val,rfl,hs⟩:=h.iB;exact .sl xs .no a cap sz val hs.hc hs.hm hs.h0 hs.hs hs.hz hs.hf hs.hr hs.ho trivial
 |agg xs ys hl h ih=>
  intro u hu;obtain ⟨vs,rfl,h1,h2,h3⟩:=hu.mP;exact .agg ys vs (by omega) (fun i hi=>ih i (by omega) hi (h2 i (by omega))) (fun i hi=>h3 i (by omega))
 |tup xs ys hl h ih=>
  intro u hu;obtain ⟨vs,rfl,h1,h2⟩:=hu.zK;exact .tup ys vs (by omega) (fun i hi=>ih i (by omega) hi (h2 i (by omega)))
 |deep xs ys p hl hc h ih=>
  intro u hu;obtain ⟨a,cap,sz,val,rfl,hs⟩:=hu.iB;rw [hl];exact .sl ys .no a cap sz val (by rw [←hl]; exact hs.hc) hs.hm hs.h0 hs.hs (fun i hi=>by rw [←hc i (by omega) hi]; exact hs.hz i (by omega)) (fun q hq i j hi hj=>hs.hf q hq i j (by omega) hj)
   (fun i hi j hj=>ih i (by omega) hi j (by rw [hc i (by omega) hi]; exact hj) hj (hs.hr i (by omega) j (by rw [hc i (by omega) hi]; exact hj))) (fun i j hi hj=>hs.ho i j (by omega) hj) trivial
theorem ak.weak {f:FuncId} {args args' :List AV} {h:Heap} {Q:AV→Heap→Prop} (hf:ak P f args' h Q) (hl:args.length=args'.length) (hw:∀i (h1:i<args.length) (h2:i<args'.length),Weak args[i] args'[i]):ak P f args h Q:=
 fun c vs h1 h2 h3 h4=>hf c vs h1 h2 (by omega) fun i hi=>(h4 i (by omega)).weak (hw i (by omega) hi)
theorem qM (hU:∀t,aO P U t) {c:Cx} {ρ:Env} {h:Heap} {a:Act} (hs:Sub h c.h) (g:Good c) (he:cj c n ρ a):∀(rs:List ResultVar) (k:List AV→Prop),qL ρ h U rs k→
  ∃(xs:List AV) (vs:List Value),k xs∧vs.length=xs.length∧(∀i (h1:i<xs.length) (h2:i<vs.length),Rep c xs[i] vs[i])∧
   (rs.mapM fun (r:ResultVar)=>match r with| .tmp t=>(pure (a.tmps.getD t undef):Sem Value)| .cell q t=>do loadVar t (←asAddr (a.tmps.getD q undef))).run P c.w= .ok vs c.w
 | [],k,hk=>⟨[],[],hk,rfl,fun i h=>(by cases h),by simp⟩
 | .tmp t::r,k,hk=>by
  simp only [qL] at hk;split at hk
  ·rename_i x hx
   obtain ⟨xs,vs,h1,h2,h3,h4⟩:=qM hU hs g he r _ hk;refine ⟨x::xs,a.tmps.getD t undef::vs,h1,by simp [h2],fun i hi1 hi2=> ?_, ?_⟩
   ·cases i with
    |zero=>exact he.rep _ _ hx
    |succ i=>exact h3 i (by simpa using hi1) (by simpa using hi2)
   ·simp only [List.mapM_cons,Sem.run_bind,Sem.run_pure,Result.andThen_ok,h4]
  ·exact hk.elim
 | .cell t ty::r,k,hk=>by
  simp only [qL] at hk;split at hk
  ·rename_i id off hx
   split at hk
   ·rename_i cs t' hid
    obtain ⟨hz,ht,hk⟩:=hk;obtain ⟨x,hk,hX⟩:=qJ (P:=P) hU hz ht hk;obtain ⟨xs,vs,h1,h2,h3,h4⟩:=qM hU hs g he r _ hk;obtain ⟨hu,_⟩:=(he.rep _ _ hx).jQ;obtain ⟨us,u1,u2,u3⟩:=g.obj id cs t' (hs _ _ hid);obtain ⟨v,v1,v2⟩:=hX c (c.φ id).block 0 (fun j=>us.getD j undef) (fun j hj=>by
     have:j<us.size:=by omega
     simp [World.cell?,u1,this]) (fun j hj=>(u3 j hj).1) (fun j hj=>(u3 j hj).2)
    rw [Nat.zero_add] at v1;refine ⟨x::xs,v::vs,h1,by simp [h2],fun i hi1 hi2=> ?_, ?_⟩
    ·cases i with
     |zero=>exact v2
     |succ i=>exact h3 i (by simpa using hi1) (by simpa using hi2)
    ·have ha:(asAddr (a.tmps.getD t undef)).run P c.w= .ok ⟨(c.φ id).block,off,none⟩ c.w:=by rw [hu]; rfl
     simp only [List.mapM_cons,Sem.run_bind,ha,Sem.run_pure,Result.andThen_ok,v1,h4]
   ·exact hk.elim
  ·exact hk.elim
def vl (args:List AV):Env:=args.zipIdx.map fun p=>(p.2,p.1)
theorem vP:∀(args:List AV) (k t:Nat),lk ((args.zipIdx k).map fun p=>(p.2,p.1)) t=if k≤t then args[t - k]? else none
 | [],k,t=>by simp [lk]
 |x::r,k,t=>by
  have ih:=vP r (k+1) t;simp only [List.zipIdx_cons,List.map_cons,lk,ih]
  by_cases e:k=t
  ·subst e; simp
  ·rw [if_neg e]
   by_cases h:k≤t
   ·rw [if_pos (by omega),if_pos h]
    rw [show t - k=(t - (k+1))+1 by omega]
    rfl
   ·rw [if_neg (by omega),if_neg h]
def tv (U:TypeId→TI) (rs:List ResultVar) (Q:AV→Heap→Prop) (e:Exit) (ρ:Env) (h:Heap):Prop:=
 (match e with| .ret| .normal=>True|_=>False)∧qL ρ h U rs fun xs=>∃y h',Weak (ax xs) y∧Sub h' h∧Q y h'
theorem ak.HQ (hU:∀t,aO P U t) {f:FuncId} {fn:Func} {c:Code} {args:List AV} {h:Heap} {Q:AV→Heap→Prop} (hf:P.funcs[f]? =some fn) (hb:fn.body=some c)
  (hn : (fn.name == "runtime.NumGoroutine") = false) (hl : args.length ≤ fn.ntmps)
  (hk:(∀x∈args,wfA x)→WP P fn.ntmps c (vl args) h (tv U fn.results.toList Q)):ak P f args h Q:=by
 intro cx vs hs g hv hr;refine .inl ⟨⟨fn,hf,hn,by rw [hb]; rfl⟩,calls_of_wp hf hb ?_⟩
 have hwf:∀x∈args,wfA x:=fun x hx=>by
  obtain ⟨i,hi,rfl⟩:=List.mem_iff_getElem.1 hx;exact (hr i hi).wf
 have hw:=hk hwf;have he:cj cx fn.ntmps (vl args) {tmps:=vs++Array.replicate (fn.ntmps - vs.size) undef,defers:= []}:=by
  refine ⟨by simp; omega,rfl,fun t x hx=> ?_⟩
  have:=vP args 0 t;simp only [Nat.zero_le,if_true,Nat.sub_zero] at this;have e:lk (vl args) t=args[t]? :=this;rw [e] at hx;obtain ⟨hi,rfl⟩:=List.getElem?_eq_some_iff.1 hx;have h1:=hr t hi;have h2:t<vs.size:=by omega
  have e2:(vs++Array.replicate (fn.ntmps - vs.size) undef).getD t undef=vs.getD t undef:=by
   rw [Array.getD,dif_pos (by simp; omega),Array.getD,dif_pos h2]
   exact Array.getElem_append_left h2
  simp only [e2];exact h1
 refine wp_mono (hw cx _ hs g he) fun e a w hq=> ?_
 obtain ⟨c',ρ',h',rfl,g',hE,he',hs',hk1,hk2⟩:=hq;obtain ⟨xs,us,⟨y,h'',hwk,hsub,hQ⟩,hl',hr',hrun⟩:=qM hU hs' g' he' _ _ hk2;have hres:∃u,(results fn a.tmps).run P c'.w= .ok u c'.w∧Rep c' (ax xs) u:=by
  have hrun' :(fn.results.mapM fun (r:ResultVar)=>match r with| .tmp t=>(pure (a.tmps.getD t undef):Sem Value)| .cell q t=>do loadVar t (←asAddr (a.tmps.getD q undef))).run P c'.w= .ok us.toArray c'.w:=by
   rw [Array.mapM_eq_mapM_toList,Sem.run_map,hrun]; rfl
  have hres0:(results fn a.tmps).run P c'.w= .ok (if h:us.toArray.size=1 then us.toArray[0] else .tuple us.toArray) c'.w:=by
   have e0:results fn a.tmps=(fn.results.mapM fun (r:ResultVar)=>match r with| .tmp t=>(pure (a.tmps.getD t undef):Sem Value)| .cell q t=>do loadVar t (←asAddr (a.tmps.getD q undef)))>>=fun vs=>pure (if h:vs.size=1 then vs[0] else .tuple vs):=rfl
   rw [e0,Sem.run_bind,hrun'];rfl
  by_cases h1:us.length=1
  ·obtain ⟨u,rfl⟩:=List.length_eq_one_iff.1 h1
   obtain ⟨x,rfl⟩:=List.length_eq_one_iff.1 (hl'.symm.trans h1);refine ⟨u, ?_,hr' 0 (by simp) (by simp)⟩
   rw [hres0];simp
  ·refine ⟨.tuple us.toArray, ?_, ?_⟩
   ·rw [hres0]
    simp [h1]
   ·have:ax xs= .tup xs:=by
     cases xs with
     |nil=>rfl
     |cons x r=>cases r with
      |nil=>exact (h1 (by simpa using hl')).elim
      |cons y q=>rfl
    rw [this];refine .tup xs _ (by simp [hl']) fun i hi=> ?_
    have:=hr' i hi (by omega)
    simpa [show i<us.length by omega] using this
 obtain ⟨u,hu1,hu2⟩:=hres;have fin:a.defers= []∧∃v,(results fn a.tmps).run P c'.w= .ok v c'.w∧∃u,Ending.returned v= .returned u∧eC cx Q u c'.w:=
  ⟨he'.defers,u,hu1,u,rfl,c',y,h'',rfl,g',hE,hu2.weak hwk,fun id k hk=>hs' _ _ (hsub _ _ hk),hQ⟩
 cases e with
 |normal=>exact fin
 |ret=>exact fin
 |_=>exact hk1.elim
theorem ak.Pb (hU:∀t,aO P U t) (hm:P.follows .mixedOrders=true) {f:FuncId} {fn:Func} {c:Code} {args:List AV} {h:Heap} {Q:AV→Heap→Prop} (hf:P.funcs[f]? =some fn) (hb:fn.body=some c)
  (hn : (fn.name == "runtime.NumGoroutine") = false) (hl : args.length ≤ fn.ntmps)
  (hk:(∀x∈args,wfA x)→bG P U fn.ntmps c (vl args) h (tv U fn.results.toList Q)):ak P f args h Q:=
 ak.HQ hU hf hb hn hl fun hw=>dc hU hm c _ h _ (hk hw)
end
def wZ:AV→Value→Bool
 | .v (.int k n), .int k' m=>decide (k=k') && decide (n=m)
 | .v (.bool a), .bool b=>a==b
 | .s [], .string b=>b.data.toList.isEmpty
 | .sl [] .full, .slice none 0 0=>true
 | .v (.pointer none), .pointer none=>true
 | .v .nilIface, .nilIface=>true
 | .v .nilFunc, .nilFunc=>true
 | .v (.map none), .map none=>true
 | .v (.complex k a b), .complex k' a' b' =>decide (k=k') && a==a' && b==b'
 |_,_=>false
theorem qP {x:AV} {v:Value} (h:wZ x v=true) (c:Cx):Rep c x v∧v.oneCell' =true:=by
 unfold wZ at h;split at h
 ·simp at h; obtain ⟨rfl,rfl⟩:=h; exact ⟨.v _,rfl⟩
 ·simp at h; subst h; exact ⟨.v _,rfl⟩
 ·rename_i b
  have e:b=⟨([]:List UInt8).toArray⟩:=by
   apply ByteArray.ext;simpa using h
  subst e;exact ⟨.s [] (by decide),rfl⟩
 ·exact ⟨wF c (.slice none 0 0),rfl⟩
 ·exact ⟨.v _,rfl⟩
 ·exact ⟨.v _,rfl⟩
 ·exact ⟨.v _,rfl⟩
 ·exact ⟨.v _,rfl⟩
 ·simp at h; obtain ⟨⟨rfl,rfl⟩,rfl⟩:=h; exact ⟨.v _,rfl⟩
 ·cases h
def th:List AV→List Value→Bool
 | [],[]=>true
 |x::xs,v::vs=>wZ x v && th xs vs
 |_,_=>false
theorem uq:∀ {xs:List AV} {vs:List Value},th xs vs=true→xs.length=vs.length∧∀i (h1:i<xs.length) (h2:i<vs.length),wZ xs[i] vs[i]=true
 | [],[],_=>⟨rfl,fun i h=>(by cases h)⟩
 |x::xs,v::vs,h=>by
  simp only [th,Bool.and_eq_true] at h;obtain ⟨h1,h2⟩:=uq h.2;refine ⟨by simp [h1],fun i a b=> ?_⟩
  cases i with
  |zero=>exact h.1
  |succ i=>exact h2 i (by simpa using a) (by simpa using b)
 | [],_::_,h=>by simp [th] at h
 |_::_,[],h=>by simp [th] at h
def I3:AV→Value→Bool
 | .agg xs, .agg vs=>th xs vs.toList
 |x,v=>wZ x v
theorem Gc {x:AV} {v:Value} (h:I3 x v=true) (c:Cx):Rep c x v:=by
 unfold I3 at h;split at h
 ·rename_i xs vs
  obtain ⟨h1,h2⟩:=uq h;have hl:vs.size=xs.length:=by simpa using h1.symm
  refine .agg xs vs hl (fun i hi=> ?_) (fun i hi=> ?_)
  ·have:=(qP (h2 i hi (by simp; omega)) c).1
   simpa [show i<vs.size by omega] using this
  ·have:=(qP (h2 i hi (by simp; omega)) c).2
   simpa [show i<vs.size by omega] using this
 ·exact (qP h c).1
def GL (P:Program) (U:TypeId→TI) (t:TypeId):Bool:=
 match (U t).k,P.underlying t with
 | .int k,some (.int k')=>decide (k' =k)
 | .bool,some .bool=>true
 | .str,some .string=>true
 | .slice e,some (.slice e')=>decide (e' =e)
 | .strct fs,some (.struct fields)=>decide (fields.toList.map (fun f=>(f.offset,f.type))=fs) && fs.all fun p=>(U p.2).sz !=0
 | .ptr e,some (.pointer e')=>decide (e' =e)
 | .arr n e,some (.array n' e')=>decide (n' =n) && decide (e' =e)
 | .iface,some (.interface _)=>true
 | .cplx k,some (.complex k')=>decide (k' =k)
 | .map k e,some (.map k' e')=>decide (k' =k) && decide (e' =e)
 | .other,_=>true
 |_,_=>false
def Hl (P:Program) (U:TypeId→TI) (t:TypeId):Bool:=
 (U t).sz==0||match P.info? t with
  |some i=>i.size==(U t).sz && i.bytes==(U t).bytes && match i.zero with
   |some z=>z.cells.size==(U t).sz && I3 (U t).zero z
   |none=>false
  |none=>false
def IT (P:Program) (U:TypeId→TI) (t:TypeId):Bool:=match (U t).k with
 | .strct []=>match P.info? t with
  |some i=>match i.zero with
   |some (.agg vs)=>vs.isEmpty && i.size==0
   |_=>false
  |none=>false
 |_=>true
def ML:TK→TK→Bool
 | .int a, .int b=>decide (a=b)
 | .bool, .bool=>true
 | .str, .str=>true
 | .cplx a, .cplx b=>decide (a=b)
 |_,_=>false
theorem Ke {a b:TK} (h:ML a b=true):a=b:=by
 unfold ML at h;split at h
 ·exact congrArg _ (VC h)
 ·rfl
 ·rfl
 ·exact congrArg _ (VC h)
 ·cases h
def se:List TK→List TK→Bool
 | [],[]=>true
 |x::xs,y::ys=>ML x y && se xs ys
 |_,_=>false
theorem si:∀ {a b:List TK},se a b=true→a=b
 | [],[],_=>rfl
 | [],_::_,h=>by cases h
 |_::_,[],h=>by cases h
 |x::xs,y::ys,h=>by
  simp only [se,Bool.and_eq_true] at h;rw [Ke h.1,si h.2]
def wR (U:TypeId→TI) (r:Nat):List (Nat×TypeId)→Nat→List TK→Bool
 | [],_,l=>l.isEmpty
 |f::fs,o,l=>match (U f.2).eq with
  |some (r',l')=>f.1==o && decide (r' <r) && se (l.take l'.length) l' && wR U r fs (o+l'.length) (l.drop l'.length)
  |none=>false
theorem uk {U:TypeId→TI} {r:Nat}:∀ {fs:List (Nat×TypeId)} {o:Nat} {l:List TK},wR U r fs o l=true→BQ U r fs o l
 | [],o,l,h=>by simpa [wR,BQ] using h
 |f::fs,o,l,h=>by
  unfold wR at h;split at h
  ·rename_i r' l' he
   simp only [Bool.and_eq_true,beq_iff_eq,decide_eq_true_eq] at h;obtain ⟨⟨⟨h1,h2⟩,h3⟩,h4⟩:=h;exact ⟨h1,r',l',he,h2,si h3,uk h4⟩
  ·cases h
def eqB (P:Program) (U:TypeId→TI) (t:TypeId):Bool:=match (U t).eq with
 |none=>true
 |some (r,l)=>l.length==(U t).sz && !l.isEmpty && decide (r<100) && match (U t).k with
  | .int k=>se l [.int k]
  | .bool=>se l [.bool]
  | .str=>se l [.str]
  | .cplx k=>se l [.cplx k]
  | .strct fs => !P.stoodInHeld t && !P.eqGuardType P.depth t && (P.fieldsOf t).toList.all (fun f => f.name != "_") && wR U r fs 0 l
  | .arr n e=> !P.eqGuardType P.depth t && match (U e).eq with
   |some (r',l')=>decide (r' <r) && se l (List.replicate n l').flatten
   |none=>false
  |_=>false
theorem GV {P:Program} {U:TypeId→TI} {t:TypeId} (h:eqB P U t=true):∀r l,(U t).eq=some (r,l)→Ja P U t r l:=by
 intro r l he;unfold eqB at h;rw [he] at h;simp only [Bool.and_eq_true,beq_iff_eq,decide_eq_true_eq,Bool.not_eq_true'] at h;obtain ⟨⟨⟨h1,h2⟩,h3⟩,h4⟩:=h;refine ⟨h1,(by intro e; rw [e] at h2; cases h2),h3, ?_⟩
 cases hk:(U t).k<;>rw [hk] at h4<;>simp only at h4⊢<;>first|exact si h4|(cases h4)|skip
 ·simp only [Bool.and_eq_true,Bool.not_eq_true',List.all_eq_true] at h4
  obtain ⟨⟨⟨g1,g2⟩,g3⟩,g4⟩:=h4;exact ⟨g1,g2,fun f hf=>by simpa using g3 f (by simpa using hf),uk g4⟩
 ·simp only [Bool.and_eq_true,Bool.not_eq_true'] at h4
  obtain ⟨g1,g2⟩:=h4;split at g2
  ·rename_i r' l' he'
   simp only [Bool.and_eq_true,decide_eq_true_eq] at g2;exact ⟨g1,r',l',he',g2.1,si g2.2⟩
  ·cases g2
theorem Gs {P:Program} {U:TypeId→TI} {t:TypeId} (h1:GL P U t=true) (h2:Hl P U t=true) (h3:IT P U t=true) (h4:eqB P U t=true):aO P U t:=by
 refine ⟨?_,fun hz=> ?_,fun hz=> ?_,GV h4⟩
 ·unfold GL at h1
  split at h1
  ·rename_i k k' hk hu; rw [hk]; rw [hu]; simp at h1; rw [h1]
  ·rename_i hk hu; rw [hk]; exact hu
  ·rename_i hk hu; rw [hk]; exact hu
  ·rename_i e e' hk hu; rw [hk]; rw [hu]; simp at h1; rw [h1]
  ·rename_i fs fields hk hu
   rw [hk];rw [Bool.and_eq_true,List.all_eq_true] at h1;exact ⟨fields,hu,VC h1.1,fun p hp=>by simpa using h1.2 p hp⟩
  ·rename_i e e' hk hu; rw [hk]; rw [hu]; simp at h1; rw [h1]
  ·rename_i n e n' e' hk hu; rw [hk]; rw [hu]; simp at h1; rw [h1.1,h1.2]
  ·rename_i ms hk hu; rw [hk]; exact ⟨ms,hu⟩
  ·rename_i k k' hk hu; rw [hk]; rw [hu]; simp at h1; rw [h1]
  ·rename_i k e k' e' hk hu; rw [hk]; rw [hu]; simp at h1; rw [h1.1,h1.2]
  ·rename_i hk; rw [hk]; trivial
  ·cases h1
 ·unfold Hl at h2
  simp only [Bool.or_eq_true,beq_iff_eq,hz,false_or] at h2;split at h2
  ·rename_i i hi
   simp only [Bool.and_eq_true,beq_iff_eq] at h2;obtain ⟨⟨h3,h4⟩,h5⟩:=h2;split at h5
   ·rename_i z hz'
    simp only [Bool.and_eq_true,beq_iff_eq] at h5;exact ⟨i,hi,h3,h4,z,hz',h5.1,fun c=>Gc h5.2 c⟩
   ·cases h5
  ·cases h2
 ·unfold IT at h3
  rw [hz] at h3;simp only at h3;split at h3
  ·rename_i i hi
   split at h3
   ·rename_i vs hv
    rw [Bool.and_eq_true] at h3;exact ⟨i,hi,by rw [hv]; congr 2; simpa using h3.1,by simpa using h3.2⟩
   ·cases h3
  ·cases h3
theorem Er {P:Program} {U:TypeId→TI} (N:Nat) (h:(List.range N).all (fun t=>GL P U t && Hl P U t && IT P U t && eqB P U t)=true) (h' :∀t,N≤t→U t=⟨.other,0,0,default,none⟩):∀t,aO P U t:=by
 intro t
 by_cases ht:t<N
 ·rw [List.all_eq_true] at h
  have:=h t (by simpa using ht)
  rw [Bool.and_eq_true,Bool.and_eq_true,Bool.and_eq_true] at this;exact Gs this.1.1.1 this.1.1.2 this.1.2 this.2
 ·have:=h' t (Nat.le_of_not_lt ht)
  exact ⟨by rw [this]; trivial,fun hz=>by rw [this] at hz; exact (hz rfl).elim,fun hz=>(by rw [this] at hz; cases hz),fun r l he=>by rw [this] at he; cases he⟩
section
variable {P : Program} {U : TypeId → TI} {n : Nat} {ρ : Env} {h : Heap}
def aI {α:Type} (o:Option α) (k:α→Prop):Prop:=match o with
 |some y=>k y
 |none=>False
@[congr] theorem KC {α:Type} {o o' :Option α} {k:α→Prop} (e:o=o'):aI o k=aI o' k:=by rw [e]
@[go_sem] theorem fH {α:Type} (y:α) (k:α→Prop):aI (some y) k=k y:=rfl
def Br (t:Bool) (A B:Prop):Prop:=(t=true→A)∧(t=false→B)
@[congr] theorem N1 {t t' :Bool} {A B:Prop} (e:t=t'):Br t A B=Br t' A B:=by rw [e]
@[go_sem] theorem Py (A B:Prop):Br true A B=A:=by simp [Br]
@[go_sem] theorem N2 (A B:Prop):Br false A B=B:=by simp [Br]
def atH (Q:AV→Heap→Prop) (h:Heap) (r:AV):Prop:=Q r h
@[go_sem↓] theorem QF (Q:AV→Heap→Prop) (h:Heap) (r:AV):atH Q h r=Q r h:=rfl
def atK (t:TK) (k:TK→Prop):Prop:=k t
@[congr] theorem Nj {t t' :TK} {k:TK→Prop} (e:t=t'):atK t k=atK t' k:=by rw [e]
@[go_sem] theorem PK (x:IntKind) (k:TK→Prop):atK (.int x) k=k (.int x):=rfl
@[go_sem] theorem PM (k:TK→Prop):atK .str k=k .str:=rfl
@[go_sem] theorem Nk (x:TypeId) (k:TK→Prop):atK (.slice x) k=k (.slice x):=rfl
@[go_sem] theorem Nl (x:List (Nat×TypeId)) (k:TK→Prop):atK (.strct x) k=k (.strct x):=rfl
def fc (xs:List AV) (m:Int) (sz:Nat) (k:AV→Prop):Prop:=Idx xs m fun b=>b.cells.length=sz∧k (.pe b 0)
theorem fc.at {xs:List AV} {sz:Nat} {k:AV→Prop} (j:Nat) (hj:j<xs.length) (hz:xs[j].cells.length=sz) (hk:k (.pe xs[j] 0)):fc xs (j:Int) sz k:=⟨by omega,xs[j],by simp [hj],hz,hk⟩
def Jd (l:List UInt8) (m:Int) (k:AV→Prop):Prop:=Idx l m fun b=>k (cw b)
theorem Jd.at {l:List UInt8} {k:AV→Prop} (j:Nat) (hj:j<l.length) (hk:k (cw l[j])):Jd l (j:Int) k:=⟨by omega,l[j],by simp [hj],hk⟩
@[congr] theorem Ll {f f' :FuncId} {a a' :List AV} {h h' :Heap} {Q:AV→Heap→Prop} (h0:f=f') (h1:a=a') (h2:h=h'):ak P f a h Q=ak P f' a' h' Q:=by rw [h0,h1,h2]
@[go_sem↓] theorem Ql (k:Nat) (x:AV) (r:Env) (t:Nat):lk ((k,x)::r) t=if k=t then some x else lk r t:=rfl
@[go_sem↓] theorem KO (d:Nat) (x:AV) (r:Env) (t:Nat):lk (put r (some d) x) t=if d=t then some x else lk r t:=rfl
@[go_sem↓] theorem KN (x:AV) (r:Env) (t:Nat):lk (put r none x) t=lk r t:=rfl
@[go_sem↓] theorem Q7 (args:List AV) (t:Nat):lk (vl args) t=args[t]? :=by
 have:=vP args 0 t;simp only [Nat.zero_le,if_true,Nat.sub_zero] at this;exact this
@[go_sem] theorem OO {α:Type} (x:α) (r:List α):(x::r)[0]? =some x:=rfl
@[go_sem] theorem ON {α:Type} (x:α) (r:List α) (i:Nat):(x::r)[i+1]? =r[i]? :=by simp
@[go_sem↓] theorem QZ (t:Nat):ev ρ (.tmp t)=lk ρ t:=rfl
@[go_sem↓] theorem QY (k:IntKind) (m:Int):ev ρ (.const (.int k m))=some (.v (.int k m)):=rfl
@[go_sem↓] theorem P1 (b:Bool):ev ρ (.const (.bool b))=some (.v (.bool b)):=rfl
@[go_sem↓] theorem P2 (k:FloatKind) (a b:Nat):ev ρ (.const (.complex k a b))=some (.v (.complex k a b)):=rfl
@[go_sem↓] theorem OA (k:FloatKind) (a:Nat):ev ρ (.const (.float k a))=some (.v (.float k a)):=rfl
@[go_sem↓] theorem KK:ev ρ (.const (.slice none 0 0))=some (.sl [] .full):=rfl
theorem ct {l:List UInt8} (hl:l.length<4096):ev ρ (.const (.string ⟨l.toArray⟩))=some (.s l):=by
 have:l.length<lim:=by simp only [lim]; omega
 simp [ev,ofV,C1,this]
@[go_sem↓] theorem P4:ev ρ (.const (.string ⟨#[]⟩))=some (.s []):=ct (l:= []) (by decide)
@[go_sem↓] theorem P5 (a0:UInt8):ev ρ (.const (.string ⟨#[a0]⟩))=some (.s [a0]):=ct (l:= [a0]) (by simp)
@[go_sem↓] theorem P6 (a0 a1:UInt8):ev ρ (.const (.string ⟨#[a0,a1]⟩))=some (.s [a0,a1]):=ct (l:= [a0,a1]) (by simp)
@[go_sem↓] theorem P7 (a0 a1 a2:UInt8):ev ρ (.const (.string ⟨#[a0,a1,a2]⟩))=some (.s [a0,a1,a2]):=ct (l:= [a0,a1,a2]) (by simp)
@[go_sem↓] theorem P8 (a0 a1 a2 a3:UInt8):ev ρ (.const (.string ⟨#[a0,a1,a2,a3]⟩))=some (.s [a0,a1,a2,a3]):=ct (l:= [a0,a1,a2,a3]) (by simp)
@[go_sem↓] theorem P9 (a0 a1 a2 a3 a4:UInt8):ev ρ (.const (.string ⟨#[a0,a1,a2,a3,a4]⟩))=some (.s [a0,a1,a2,a3,a4]):=ct (l:= [a0,a1,a2,a3,a4]) (by simp)
@[go_sem↓] theorem Qa (a0 a1 a2 a3 a4 a5:UInt8):ev ρ (.const (.string ⟨#[a0,a1,a2,a3,a4,a5]⟩))=some (.s [a0,a1,a2,a3,a4,a5]):=ct (l:= [a0,a1,a2,a3,a4,a5]) (by simp)
@[go_sem↓] theorem Qb (a0 a1 a2 a3 a4 a5 a6:UInt8):ev ρ (.const (.string ⟨#[a0,a1,a2,a3,a4,a5,a6]⟩))=some (.s [a0,a1,a2,a3,a4,a5,a6]):=ct (l:= [a0,a1,a2,a3,a4,a5,a6]) (by simp)
@[go_sem↓] theorem Qc (a0 a1 a2 a3 a4 a5 a6 a7:UInt8):ev ρ (.const (.string ⟨#[a0,a1,a2,a3,a4,a5,a6,a7]⟩))=some (.s [a0,a1,a2,a3,a4,a5,a6,a7]):=ct (l:= [a0,a1,a2,a3,a4,a5,a6,a7]) (by simp)
@[go_sem↓] theorem OB (a0 a1 a2 a3 a4 a5 a6 a7 a8 a9:UInt8):ev ρ (.const (.string ⟨#[a0,a1,a2,a3,a4,a5,a6,a7,a8,a9]⟩))=some (.s [a0,a1,a2,a3,a4,a5,a6,a7,a8,a9]):=ct (l:= [a0,a1,a2,a3,a4,a5,a6,a7,a8,a9]) (by simp)
@[go_sem↓] theorem OC (a0 a1 a2 a3 a4 a5 a6 a7 a8 a9 a10:UInt8):ev ρ (.const (.string ⟨#[a0,a1,a2,a3,a4,a5,a6,a7,a8,a9,a10]⟩))=some (.s [a0,a1,a2,a3,a4,a5,a6,a7,a8,a9,a10]):=ct (l:= [a0,a1,a2,a3,a4,a5,a6,a7,a8,a9,a10]) (by simp)
@[go_sem↓] theorem OD (a0 a1 a2 a3 a4 a5 a6 a7 a8 a9 a10 a11:UInt8):ev ρ (.const (.string ⟨#[a0,a1,a2,a3,a4,a5,a6,a7,a8,a9,a10,a11]⟩))=some (.s [a0,a1,a2,a3,a4,a5,a6,a7,a8,a9,a10,a11]):=ct (l:= [a0,a1,a2,a3,a4,a5,a6,a7,a8,a9,a10,a11]) (by simp)
@[go_sem↓] theorem OE (a0 a1 a2 a3 a4 a5 a6 a7 a8 a9 a10 a11 a12:UInt8):ev ρ (.const (.string ⟨#[a0,a1,a2,a3,a4,a5,a6,a7,a8,a9,a10,a11,a12]⟩))=some (.s [a0,a1,a2,a3,a4,a5,a6,a7,a8,a9,a10,a11,a12]):=ct (l:= [a0,a1,a2,a3,a4,a5,a6,a7,a8,a9,a10,a11,a12]) (by simp)
@[go_sem↓] theorem OF (a0 a1 a2 a3 a4 a5 a6 a7 a8 a9 a10 a11 a12 a13 a14 a15:UInt8):ev ρ (.const (.string ⟨#[a0,a1,a2,a3,a4,a5,a6,a7,a8,a9,a10,a11,a12,a13,a14,a15]⟩))=some (.s [a0,a1,a2,a3,a4,a5,a6,a7,a8,a9,a10,a11,a12,a13,a14,a15]):=ct (l:= [a0,a1,a2,a3,a4,a5,a6,a7,a8,a9,a10,a11,a12,a13,a14,a15]) (by simp)
@[go_sem↓] theorem OG (a0 a1 a2 a3 a4 a5 a6 a7 a8 a9 a10 a11 a12 a13 a14 a15 a16:UInt8):ev ρ (.const (.string ⟨#[a0,a1,a2,a3,a4,a5,a6,a7,a8,a9,a10,a11,a12,a13,a14,a15,a16]⟩))=some (.s [a0,a1,a2,a3,a4,a5,a6,a7,a8,a9,a10,a11,a12,a13,a14,a15,a16]):=ct (l:= [a0,a1,a2,a3,a4,a5,a6,a7,a8,a9,a10,a11,a12,a13,a14,a15,a16]) (by simp)
@[go_sem↓] theorem OH (a0 a1 a2 a3 a4 a5 a6 a7 a8 a9 a10 a11 a12 a13 a14 a15 a16 a17 a18 a19:UInt8):ev ρ (.const (.string ⟨#[a0,a1,a2,a3,a4,a5,a6,a7,a8,a9,a10,a11,a12,a13,a14,a15,a16,a17,a18,a19]⟩))=some (.s [a0,a1,a2,a3,a4,a5,a6,a7,a8,a9,a10,a11,a12,a13,a14,a15,a16,a17,a18,a19]):=ct (l:= [a0,a1,a2,a3,a4,a5,a6,a7,a8,a9,a10,a11,a12,a13,a14,a15,a16,a17,a18,a19]) (by simp)
@[go_sem↓] theorem OI (a0 a1 a2 a3 a4 a5 a6 a7 a8 a9 a10 a11 a12 a13 a14 a15 a16 a17 a18 a19 a20 a21 a22:UInt8):ev ρ (.const (.string ⟨#[a0,a1,a2,a3,a4,a5,a6,a7,a8,a9,a10,a11,a12,a13,a14,a15,a16,a17,a18,a19,a20,a21,a22]⟩))=some (.s [a0,a1,a2,a3,a4,a5,a6,a7,a8,a9,a10,a11,a12,a13,a14,a15,a16,a17,a18,a19,a20,a21,a22]):=ct (l:= [a0,a1,a2,a3,a4,a5,a6,a7,a8,a9,a10,a11,a12,a13,a14,a15,a16,a17,a18,a19,a20,a21,a22]) (by simp)
@[go_sem↓] theorem P3 (f:FuncId):ev ρ (.func f)=some (.fn f []):=rfl
def KE (x:Option AV) (r:Option (List AV)):Option (List AV):=match x,r with
 |some y,some ys=>some (y::ys)
 |_,_=>none
@[go_sem] theorem LM (y:AV) (ys:List AV):KE (some y) (some ys)=some (y::ys):=rfl
@[go_sem↓] theorem Qd:evs ρ []=some []:=rfl
@[go_sem↓] theorem OJ (x:Operand) (r:List Operand):evs ρ (x::r)=KE (ev ρ x) (evs ρ r):=rfl
@[go_sem↓] theorem bV (x:Operand) (k:AV→Prop):withv ρ x k=aI (ev ρ x) k:=by unfold withv aI; cases ev ρ x<;>rfl
@[go_sem↓] theorem ig (xs:List Operand) (k:List AV→Prop):withvs ρ xs k=aI (evs ρ xs) k:=by unfold withvs aI; cases evs ρ xs<;>rfl
@[go_sem↓] theorem Rp (K:Exit→Env→Heap→Prop):bG P U n .skip ρ h K=K .normal ρ h:=rfl
@[go_sem↓] theorem Pe (id:Nat) (l:List Oper) (K:Exit→Env→Heap→Prop):bG P U n (.region id l.toArray false) ρ h K=jz P U n l l ρ h (K .normal):=rfl
def zP (P:Program) (U:TypeId→TI) (n:Nat) (b:Code) (K:Exit→Env→Heap→Prop):Exit→Env→Heap→Prop:=KSeq (fun ρ h=>bG P U n b ρ h K) K
@[go_sem↓] theorem Tu (a b:Code) (K:Exit→Env→Heap→Prop):bG P U n (.seq a b) ρ h K=bG P U n a ρ h (zP P U n b K):=rfl
@[go_sem↓] theorem Jf (b:Code) (K:Exit→Env→Heap→Prop):zP P U n b K .normal ρ h=bG P U n b ρ h K:=rfl
@[go_sem↓] theorem M7 (b:Code) (K:Exit→Env→Heap→Prop):zP P U n b K .ret ρ h=K .ret ρ h:=rfl
@[go_sem↓] theorem Lt (b:Code) (K:Exit→Env→Heap→Prop) (i:Nat):zP P U n b K (.exit i) ρ h=K (.exit i) ρ h:=rfl
@[go_sem↓] theorem Lu (b:Code) (K:Exit→Env→Heap→Prop) (i:Nat):zP P U n b K (.goto i) ρ h=K (.goto i) ρ h:=rfl
def uT (P:Program) (U:TypeId→TI) (n:Nat) (a b:Code) (ρ:Env) (h:Heap) (K:Exit→Env→Heap→Prop) (y:AV):Prop:=match y with
 | .v (.bool t)=>(t=true→bG P U n a ρ h K)∧(t=false→bG P U n b ρ h K)
 |_=>False
@[go_sem↓] theorem Li (a b:Code) (K:Exit→Env→Heap→Prop):uT P U n a b ρ h K (.v (.bool true))=bG P U n a ρ h K:=by simp [uT]
@[go_sem↓] theorem Ks (a b:Code) (K:Exit→Env→Heap→Prop):uT P U n a b ρ h K (.v (.bool false))=bG P U n b ρ h K:=by simp [uT]
theorem uT.intro {a b:Code} {K:Exit→Env→Heap→Prop} {t:Bool} (h1:t=true→bG P U n a ρ h K) (h2:t=false→bG P U n b ρ h K):uT P U n a b ρ h K (.v (.bool t)):=⟨h1,h2⟩
@[go_sem↓] theorem Rj (c:Operand) (a b:Code) (K:Exit→Env→Heap→Prop):bG P U n (.cond c a b) ρ h K=aI (ev ρ c) (uT P U n a b ρ h K):=by
 simp only [bG,withv];cases ev ρ c with
 |none=>rfl
 |some y=>cases y with
  |v x=>cases x<;>rfl
  |_=>rfl
@[go_sem↓] theorem Qw (id:Nat) (c:Code) (K:Exit→Env→Heap→Prop):bG P U n (.block id c) ρ h K=bG P U n c ρ h (KBlock id K):=rfl
def qR (P:Program) (U:TypeId→TI) (n:Nat) (c:Code) (ρ:Env) (h:Heap) (K:Exit→Env→Heap→Prop):Prop:=Gi (fun ρ h K=>bG P U n c ρ h K) ρ h K
def KRound (I:Nat→Env→Heap→Prop) (m:Nat) (K:Exit→Env→Heap→Prop):Exit→Env→Heap→Prop:=KSeq (fun ρ' h' =>∃m',m' <m∧I m' ρ' h') K
@[go_sem↓] theorem Ls {I:Nat→Env→Heap→Prop} {m:Nat} {K:Exit→Env→Heap→Prop}:KRound I m K .ret ρ h=K .ret ρ h:=rfl
@[go_sem↓] theorem Kw {I:Nat→Env→Heap→Prop} {m:Nat} {K:Exit→Env→Heap→Prop} (i:Nat):KRound I m K (.exit i) ρ h=K (.exit i) ρ h:=rfl
theorem qR.intro {c:Code} {K:Exit→Env→Heap→Prop} (I:Nat→Env→Heap→Prop) (m:Nat) (h0:I m ρ h) (hr:∀m ρ h,I m ρ h→bG P U n c ρ h (KRound I m K)):qR P U n c ρ h K:=fun _=>⟨I,m,h0,hr⟩
theorem qR.wf {c:Code} {K:Exit→Env→Heap→Prop} (hk:Wf ρ→qR P U n c ρ h K):qR P U n c ρ h K:=fun hw=>hk hw hw
@[go_sem↓] theorem Ro (c:Code) (K:Exit→Env→Heap→Prop):bG P U n (.loop c) ρ h K=qR P U n c ρ h K:=rfl
@[go_sem↓] theorem M4 (l:Nat) (J:Env→Heap→Prop) (K:Exit→Env→Heap→Prop):KJump l J K .ret ρ h=K .ret ρ h:=rfl
@[go_sem↓] theorem Lq (l:Nat) (J:Env→Heap→Prop) (K:Exit→Env→Heap→Prop):KJump l J K (.goto l) ρ h=J ρ h:=by simp [KJump]
@[go_sem↓] theorem Rm (id:Nat) (K:Exit→Env→Heap→Prop):bG P U n (.exit id) ρ h K=K (.exit id) ρ h:=rfl
@[go_sem↓] theorem Tt (K:Exit→Env→Heap→Prop):bG P U n .ret ρ h K=K .ret ρ h:=rfl
@[go_sem↓] theorem Qy (l:Nat) (K:Exit→Env→Heap→Prop):bG P U n (.label l) ρ h K=K .normal ρ h:=rfl
@[go_sem↓] theorem Rn (l:Nat) (K:Exit→Env→Heap→Prop):bG P U n (.goto l) ρ h K=K (.goto l) ρ h:=rfl
@[go_sem↓] theorem I4 (id:Nat) (K:Exit→Env→Heap→Prop):KBlock id K .normal ρ h=K .normal ρ h:=rfl
@[go_sem↓] theorem Lo (id:Nat) (K:Exit→Env→Heap→Prop):KBlock id K .ret ρ h=K .ret ρ h:=rfl
@[go_sem↓] theorem Kv (id:Nat) (K:Exit→Env→Heap→Prop) (j:Nat):KBlock id K (.exit j) ρ h=if j=id then K .normal ρ h else K (.exit j) ρ h:=rfl
@[go_sem↓] theorem Ts (all:List Oper) (K:Env→Heap→Prop):jz P U n all [] ρ h K=K ρ h:=rfl
def KOps (P:Program) (U:TypeId→TI) (n:Nat) (all os:List Oper) (K:Env→Heap→Prop) (ρ:Env) (d:Option Tmp) (x:AV) (h:Heap):Prop:=jz P U n all os (put ρ d x) h K
@[go_sem↓] theorem PB (all os:List Oper) (K:Env→Heap→Prop) (d:Option Tmp) (x:AV):KOps P U n all os K ρ d x h=jz P U n all os (put ρ d x) h K:=rfl
@[go_sem↓] theorem Rk (all:List Oper) (d:Option Tmp) (op:Op) (t:TypeId) (p:String) (a:Array Edge) (os:List Oper) (K:Env→Heap→Prop):
  jz P U n all (⟨d,op,t,p,a,none⟩::os) ρ h K=(dX n d=true∧bg P U ρ h ⟨d,op,t,p,a,none⟩ (KOps P U n all os K ρ d)):=rfl
@[go_sem] theorem LX (d:Nat):(dX n (some d)=true)=(d<n):=by simp [dX]
@[go_sem] theorem LW:(dX n none=true)=True:=by simp [dX]
def gB (d:Nat) (w:Bool) (ρ:Env) (yes no:Env→Prop) (x:AV):Prop:=match x with
 | .v (.bool t)=>if w then Br t (yes ((d, .v (.bool true))::ρ)) (no ((d, .v (.bool false))::ρ)) else Br t (no ((d, .v (.bool true))::ρ)) (yes ((d, .v (.bool false))::ρ))
 | .v (.tuple _)=>no ρ
 |_=>False
@[go_sem↓] theorem LV (d:Option Tmp) (op:Op) (t:TypeId) (p:String) (a:Array Edge) (g:Option (Nat×Bool)) (os:List Oper):ou (⟨d,op,t,p,a,g⟩::os) 0=d:=rfl
@[go_sem↓] theorem LU (o:Oper) (os:List Oper) (i:Nat):ou (o::os) (i+1)=ou os i:=by simp [ou]
theorem mB (all:List Oper) (g:Nat) (w:Bool) (yes no:Env→Prop):fY all ρ (some (g,w)) yes no=aI (ou all g) fun d=>aI (lk ρ d) fun x=>gB d w ρ yes no x:=by
 simp only [fY];cases ou all g with
 |none=>rfl
 |some d=>
  simp only [fH];cases lk ρ d with
  |none=>rfl
  |some x=>cases x with
   |v u=>cases u<;>first|rfl|(rename_i t; cases w<;>cases t<;>simp [aI,gB,Br])
   |_=>rfl
def kW (P:Program) (U:TypeId→TI) (n:Nat) (all os:List Oper) (ρ:Env) (h:Heap) (K:Env→Heap→Prop) (w:Bool) (d:Option Tmp) (op:Op) (t:TypeId) (p:String) (a:Array Edge) (s:Nat) (x:AV):Prop:=
 gB s w ρ (fun ρ=>bg P U ρ h ⟨d,op,t,p,a,none⟩ (KOps P U n all os K ρ d)) (fun ρ=>jz P U n all os (put ρ d (.v undef)) h K) x
section
variable {all os : List Oper} {K : Env → Heap → Prop} {d : Option Tmp} {op : Op} {t : TypeId} {p : String} {a : Array Edge} {s : Nat}
@[go_sem↓] theorem M3:kW P U n all os ρ h K true d op t p a s (.v (.bool true))=bg P U ((s, .v (.bool true))::ρ) h ⟨d,op,t,p,a,none⟩ (KOps P U n all os K ((s, .v (.bool true))::ρ) d):=by simp [kW,gB,Br]
@[go_sem↓] theorem M1:kW P U n all os ρ h K true d op t p a s (.v (.bool false))=jz P U n all os (put ((s, .v (.bool false))::ρ) d (.v undef)) h K:=by simp [kW,gB,Br]
@[go_sem↓] theorem M0:kW P U n all os ρ h K false d op t p a s (.v (.bool true))=jz P U n all os (put ((s, .v (.bool true))::ρ) d (.v undef)) h K:=by simp [kW,gB,Br]
@[go_sem↓] theorem MZ:kW P U n all os ρ h K false d op t p a s (.v (.bool false))=bg P U ((s, .v (.bool false))::ρ) h ⟨d,op,t,p,a,none⟩ (KOps P U n all os K ((s, .v (.bool false))::ρ) d):=by simp [kW,gB,Br]
@[go_sem↓] theorem Jc (w:Bool):kW P U n all os ρ h K w d op t p a s (.v undef)=jz P U n all os (put ρ d (.v undef)) h K:=rfl
end
@[go_sem↓] theorem Qx (all:List Oper) (d:Option Tmp) (op:Op) (t:TypeId) (p:String) (a:Array Edge) (g:Nat) (w:Bool) (os:List Oper) (K:Env→Heap→Prop):
  jz P U n all (⟨d,op,t,p,a,some (g,w)⟩::os) ρ h K=(dX n d=true∧aI (ou all g) fun s=>aI (lk ρ s) (kW P U n all os ρ h K w d op t p a s)):=by
 have:=mB (ρ:=ρ) all g w (fun ρ=>bg P U ρ h ⟨d,op,t,p,a,none⟩ (KOps P U n all os K ρ d)) (fun ρ=>jz P U n all os (put ρ d (.v undef)) h K)
 show (dX n d=true∧fY all ρ (some (g,w)) _ _)=_
 rw [show (fun s=>aI (lk ρ s) (kW P U n all os ρ h K w d op t p a s))=fun d_1=>aI (lk ρ d_1) fun x=>gB d_1 w ρ (fun ρ=>bg P U ρ h ⟨d,op,t,p,a,none⟩ (KOps P U n all os K ρ d)) (fun ρ=>jz P U n all os (put ρ d (.v undef)) h K) x from rfl,←this]
 rfl
variable {d : Option Tmp} {t : TypeId} {p : String} {a : Array Edge} {g : Option (Nat × Bool)} {Q : AV → Heap → Prop}
@[go_sem↓] theorem Re (x:Operand):bg P U ρ h ⟨d, .move x,t,p,a,g⟩ Q=aI (ev ρ x) (atH Q h):=(bV x _)
@[go_sem↓] theorem O9 (x:Operand):bg P U ρ h ⟨d, .assign x,t,p,a,g⟩ Q=aI (ev ρ x) (atH Q h):=(bV x _)
def Ia (ρ:Env) (x z:Operand) (k:AV→Prop) (y:AV):Prop:=match y with
 | .v (.bool true)=>aI (ev ρ x) k
 | .v (.bool false)=>aI (ev ρ z) k
 |_=>False
@[go_sem↓] theorem Mx (x z:Operand) (k:AV→Prop):Ia ρ x z k (.v (.bool true))=aI (ev ρ x) k:=rfl
@[go_sem↓] theorem KZ (x z:Operand) (k:AV→Prop):Ia ρ x z k (.v (.bool false))=aI (ev ρ z) k:=rfl
@[go_sem↓] theorem Rf (x y z:Operand):bg P U ρ h ⟨d, .pick x y z,t,p,a,g⟩ Q=aI (ev ρ x) (Ia ρ y z (atH Q h)):=by
 simp only [bg,pv,bV]
 congr 1
def KT (k:AV→Prop) (y:AV):Prop:=match y with
 | .ptr .. | .pe .. | .fn .. =>k y
 |_=>False
@[go_sem↓] theorem NL (i o:Nat) (k:AV→Prop):KT k (.ptr i o)=k (.ptr i o):=rfl
@[go_sem↓] theorem Mq (x:Operand):bg P U ρ h ⟨d, .nilCheck x,t,p,a,g⟩ Q=aI (ev ρ x) (KT (atH Q h)):=by
 simp only [bg,pv,bV]
 congr 1
@[congr] theorem LI {op:BinOp} {ty:TypeId} {x x' y y' :AV} {K:AV→Prop} (e1:x=x') (e2:y=y'):fo U op ty x y K=fo U op ty x' y' K:=by rw [e1,e2]
theorem vX (op:BinOp) (ty ty' :TypeId) (x y:Operand) (hy:CY y=false):bg P U ρ h ⟨d, .binOp op ty x y ty',t,p,a,g⟩ Q=aI (ev ρ x) fun u=>aI (ev ρ y) fun v=>fo U op ty u v (atH Q h):=by
 simp only [bg,pv,bV,hy];rfl
@[go_sem↓] theorem Qo (op:BinOp) (ty ty' :TypeId) (x:Operand) (y:Tmp):bg P U ρ h ⟨d, .binOp op ty x (.tmp y) ty',t,p,a,g⟩ Q=aI (ev ρ x) fun u=>aI (ev ρ (.tmp y)) fun v=>fo U op ty u v (atH Q h):=vX _ _ _ _ _ rfl
@[go_sem↓] theorem NO (op:BinOp) (ty ty' :TypeId) (x:Operand) (ik:IntKind) (im:Int):bg P U ρ h ⟨d, .binOp op ty x (.const (.int ik im)) ty',t,p,a,g⟩ Q=aI (ev ρ x) fun u=>fo U op ty u (.v (.int ik im)) (atH Q h):=vX _ _ _ _ _ rfl
@[go_sem↓] theorem NM (op:BinOp) (ty ty' :TypeId) (x:Operand) (ik:FloatKind) (im jm:Nat):bg P U ρ h ⟨d, .binOp op ty x (.const (.complex ik im jm)) ty',t,p,a,g⟩ Q=aI (ev ρ x) fun u=>fo U op ty u (.v (.complex ik im jm)) (atH Q h):=vX _ _ _ _ _ rfl
@[go_sem↓] theorem NN (op:BinOp) (ty ty' :TypeId) (x:Operand) (ik:FloatKind) (im:Nat):bg P U ρ h ⟨d, .binOp op ty x (.const (.float ik im)) ty',t,p,a,g⟩ Q=aI (ev ρ x) fun u=>fo U op ty u (.v (.float ik im)) (atH Q h):=vX _ _ _ _ _ rfl
@[go_sem↓] theorem NQ (op:BinOp) (ty ty' :TypeId) (x:Operand) (b:ByteArray):bg P U ρ h ⟨d, .binOp op ty x (.const (.string b)) ty',t,p,a,g⟩ Q=aI (ev ρ x) fun u=>aI (ev ρ (.const (.string b))) fun v=>fo U op ty u v (atH Q h):=vX _ _ _ _ _ rfl
def O6 (h:Heap) (op:BinOp) (x:AV) (Q:AV→Heap→Prop) (tk:TK):Prop:=match tk,op,x with
 | .slice _, .eql, .sl xs _=>∀b:Bool,(xs≠ []→b=false)→Q (.v (.bool b)) h
 | .slice _, .neq, .sl xs _=>∀b:Bool,(xs≠ []→b=true)→Q (.v (.bool b)) h
 | .slice _, .eql, .oa .. =>Q (.v (.bool false)) h
 | .slice _, .neq, .oa .. =>Q (.v (.bool true)) h
 | .slice _, .eql, .ob .. =>Q (.v (.bool false)) h
 | .slice _, .neq, .ob .. =>Q (.v (.bool true)) h
 |_,_,_=>False
@[go_sem↓] theorem NP (op:BinOp) (ty ty' :TypeId) (x:Operand) (l k:Nat):bg P U ρ h ⟨d, .binOp op ty x (.const (.slice none l k)) ty',t,p,a,g⟩ Q=aI (ev ρ x) fun u=>atK (U ty).k (O6 h op u Q):=by
 simp only [bg,CY,bV,atK,if_true];rfl
section
variable {ty : TypeId} {K : AV → Prop}
@[go_sem] theorem S4 (k:IntKind) (x y:Int):fo U .add ty (.v (.int k x)) (.v (.int k y)) K=K (.v (.int k (k.wrap (x+y)))):=by simp [fo,gF,qW]
@[go_sem] theorem Te (k:IntKind) (x y:Int):fo U .sub ty (.v (.int k x)) (.v (.int k y)) K=K (.v (.int k (k.wrap (x - y)))):=by simp [fo,gF,qW]
@[go_sem] theorem Ta (k:IntKind) (x y:Int):fo U .mul ty (.v (.int k x)) (.v (.int k y)) K=K (.v (.int k (k.wrap (x*y)))):=by simp [fo,gF,qW]
@[go_sem] theorem Tc (k:IntKind) (x y:Int):fo U .quo ty (.v (.int k x)) (.v (.int k y)) K=(y≠0∧K (.v (.int k (k.wrap (x.tdiv y))))):=by simp [fo,gF,qW]
@[go_sem] theorem Td (k:IntKind) (x y:Int):fo U .rem ty (.v (.int k x)) (.v (.int k y)) K=(y≠0∧K (.v (.int k (x.tmod y)))):=by simp [fo,gF,qW]
@[go_sem] theorem S5 (k:IntKind) (x y:Int):fo U .eql ty (.v (.int k x)) (.v (.int k y)) K=K (.v (.bool (x==y))):=by simp [fo,gF,qW]
@[go_sem] theorem Tb (k:IntKind) (x y:Int):fo U .neq ty (.v (.int k x)) (.v (.int k y)) K=K (.v (.bool (x !=y))):=by simp [fo,gF,qW]
@[go_sem] theorem S9 (k:IntKind) (x y:Int):fo U .lss ty (.v (.int k x)) (.v (.int k y)) K=K (.v (.bool (decide (x<y)))):=by simp [fo,gF,qW]
@[go_sem] theorem S8 (k:IntKind) (x y:Int):fo U .leq ty (.v (.int k x)) (.v (.int k y)) K=K (.v (.bool (decide (x≤y)))):=by simp [fo,gF,qW]
@[go_sem] theorem S7 (k:IntKind) (x y:Int):fo U .gtr ty (.v (.int k x)) (.v (.int k y)) K=K (.v (.bool (decide (y<x)))):=by simp [fo,gF,qW]
@[go_sem] theorem S6 (k:IntKind) (x y:Int):fo U .geq ty (.v (.int k x)) (.v (.int k y)) K=K (.v (.bool (decide (y≤x)))):=by simp [fo,gF,qW]
@[go_sem] theorem QL (x y:List UInt8):fo U .add ty (.s x) (.s y) K=(x.length+y.length<lim∧K (.s (x++y))):=rfl
@[go_sem] theorem QM (x y:List UInt8):fo U .eql ty (.s x) (.s y) K=K (.v (.bool (x==y))):=rfl
@[go_sem] theorem QS (x y:List UInt8):fo U .neq ty (.s x) (.s y) K=K (.v (.bool (!(x==y)))):=rfl
@[go_sem] theorem PN (k k' :FloatKind) (x y:Nat) (op:BinOp):fo U op ty (.v (.float k x)) (.v (.float k' y)) K=fX op (.float k x) (.float k' y) K:=rfl
@[go_sem] theorem QK (k k' :FloatKind) (x y z w:Nat) (op:BinOp):fo U op ty (.v (.complex k x y)) (.v (.complex k' z w)) K=fX op (.complex k x y) (.complex k' z w) K:=rfl
theorem mH {op:BinOp} {x y r:Value} (h:∀(P:Program) (ty:TypeId) (w:World),(binOp op ty x y).run P w= .ok r w) (K:AV→Prop):fX op x y K=K (.v r):=propext ⟨fun ⟨r',h',hk⟩=>by
 have e:=(h default 0 default).symm.trans (h' default 0 default);cases e;exact hk,fun hk=>⟨r,h,hk⟩⟩
@[go_sem] theorem QO (x y:List UInt8):fo U .lss ty (.s x) (.s y) K=K (.v (.bool (Op.bytesLess x y))):=rfl
@[go_sem] theorem QN (x y:List UInt8):fo U .geq ty (.s x) (.s y) K=K (.v (.bool (!(Op.bytesLess x y)))):=rfl
def eqK (tk:TK) (e:Option (Nat×List TK)) (xs ys:List AV) (k:Bool→Prop):Prop:=match e with
 |some (_,l)=>tk.agg=true∧cy l xs∧cy l ys∧k (eqL xs ys)
 |none=>False
@[congr] theorem NA {tk tk' :TK} {e e' :Option (Nat×List TK)} {xs ys:List AV} {k:Bool→Prop} (h1:tk=tk') (h2:e=e'):eqK tk e xs ys k=eqK tk' e' xs ys k:=by rw [h1,h2]
@[go_sem] theorem Tk (fs:List (Nat×TypeId)) (r:Nat) (l:List TK) (xs ys:List AV) (k:Bool→Prop):eqK (.strct fs) (some (r,l)) xs ys k=(cy l xs∧cy l ys∧k (eqL xs ys)):=by simp [eqK,TK.agg]
@[go_sem] theorem QH (xs ys:List AV):fo U .eql ty (.agg xs) (.agg ys) K=eqK (U ty).k (U ty).eq xs ys fun b=>K (.v (.bool b)):=by
 simp only [fo,GA,eqK]; rcases (U ty).eq with _|⟨r,l⟩<;>rfl
@[go_sem] theorem QI (xs ys:List AV):fo U .neq ty (.agg xs) (.agg ys) K=eqK (U ty).k (U ty).eq xs ys fun b=>K (.v (.bool (!b))):=by
 simp only [fo,GA,eqK]; rcases (U ty).eq with _|⟨r,l⟩<;>rfl
@[go_sem] theorem MN (xs:List AV):cy [] xs=(xs= []):=rfl
@[go_sem] theorem Ld (t:TK) (ts:List TK) (x:AV) (xs:List AV):cy (t::ts) (x::xs)=(om t x∧cy ts xs):=rfl
@[go_sem] theorem Of (k k' :IntKind) (n:Int):om (.int k) (.v (.int k' n))=(k' =k):=rfl
@[go_sem] theorem Od (b:Bool):om .bool (.v (.bool b))=True:=rfl
@[go_sem] theorem Oe (k k' :FloatKind) (a b:Nat):om (.cplx k) (.v (.complex k' a b))=(k' =k):=rfl
@[go_sem] theorem Og (l:List UInt8):om .str (.s l)=True:=rfl
@[go_sem] theorem P0:eqL [] []=true:=rfl
@[go_sem] theorem Oz (x y:AV) (xs ys:List AV):eqL (x::xs) (y::ys)=(eqC x y && eqL xs ys):=rfl
@[go_sem] theorem Ti (k k' :IntKind) (n m:Int):eqC (.v (.int k n)) (.v (.int k' m))=(n==m):=rfl
@[go_sem] theorem Th (b c:Bool):eqC (.v (.bool b)) (.v (.bool c))=(b==c):=rfl
@[go_sem] theorem Tj (l m:List UInt8):eqC (.s l) (.s m)=(l==m):=rfl
def tkB (k:TK) (A:Prop):Prop:=k= .bool∧A
def tkP (k:TK) (A:Prop):Prop:=(∃e,k= .ptr e)∧A
@[congr] theorem NX {k k' :TK} {A:Prop} (e:k=k'):tkB k A=tkB k' A:=by rw [e]
@[congr] theorem NY {k k' :TK} {A:Prop} (e:k=k'):tkP k A=tkP k' A:=by rw [e]
@[go_sem] theorem Pn (A:Prop):tkB .bool A=A:=by simp [tkB]
@[go_sem] theorem QJ (x y:Bool):fo U .neq ty (.v (.bool x)) (.v (.bool y)) K=tkB (U ty).k (K (.v (.bool (!(x==y))))):=by
 simp only [fo,Jq,tkB]; cases (U ty).k<;>simp
end
def unA (op:UnOp) (y:AV) (k:AV→Prop):Prop:=match op,y with
 | .not, .v (.bool b)=>k (.v (.bool (!b)))
 | .neg, .v (.int kk n)=>k (.v (.int kk (kk.wrap (0 - n))))
 | .xor, .v (.int kk n)=>k (.v (.int kk (kk.wrap (BitVec.ofInt kk.bits (if kk.signed then -1 else kk.max) ^^^ BitVec.ofInt kk.bits n).toNat)))
 |_,_=>False
@[congr] theorem NZ {op:UnOp} {y y' :AV} {k:AV→Prop} (e:y=y'):unA op y k=unA op y' k:=by rw [e]
@[go_sem] theorem QC (b:Bool) (k:AV→Prop):unA .not (.v (.bool b)) k=k (.v (.bool (!b))):=rfl
@[go_sem↓] theorem Rh (op:UnOp) (ty:TypeId) (x:Operand):bg P U ρ h ⟨d, .unOp op ty x,t,p,a,g⟩ Q=aI (ev ρ x) fun y=>unA op y (atH Q h):=by
 simp only [bg,pv,bV]
 congr 1
def cvA (U:TypeId→TI) (s d:TK) (y:AV) (k:AV→Prop):Prop:=match s,d,y with
 | .int _, .int kk, .v (.int _ n)=>k (.v (.int kk (kk.wrap n)))
 | .str, .str, .s l=>k (.s l)
 | .slice e, .str, .sl xs _=>(U e).k= .int .u8∧∃l:List UInt8,xs=l.map cw∧k (.s l)
 | .str, .slice e, .s l=>(U e).k= .int .u8∧k (.sl (l.map cw) .no)
 | .cplx _, .cplx kk, .v (.complex kf a b)=>kf=kk∧k (.v (.complex kk a b))
 |_,_,_=>False
@[congr] theorem Nt {s s' d d' :TK} {y y' :AV} {k:AV→Prop} (e1:s=s') (e2:d=d') (e:y=y'):cvA U s d y k=cvA U s' d' y' k:=by rw [e,e1,e2]
@[go_sem] theorem QV (k0 kk k1:IntKind) (m:Int) (k:AV→Prop):cvA U (.int k0) (.int kk) (.v (.int k1 m)) k=k (.v (.int kk (kk.wrap m))):=rfl
@[go_sem] theorem Tf (e:TypeId) (l:List UInt8) (pm:Perm) (k:AV→Prop):cvA U (.slice e) .str (.sl (l.map cw) pm) k=((U e).k= .int .u8∧k (.s l)):=by
 simp only [cvA]
 congr 1
 apply propext;constructor
 ·rintro ⟨l',e1,hk⟩
  have:l=l' :=by
   have inj:∀(x y:List UInt8),x.map cw=y.map cw→x=y:=by
    intro x
    induction x with
    |nil=>intro y e; cases y<;>simp at e⊢
    |cons b r ih=>
     intro y e;cases y with
     |nil=>simp at e
     |cons b' r' =>
      simp only [List.map_cons,List.cons.injEq,cw,AV.v.injEq,Value.int.injEq,true_and,Int.natCast_inj] at e;rw [UInt8.toNat_inj.1 e.1,ih r' e.2]
   exact inj _ _ e1
  rw [this]; exact hk
 ·exact fun hk=>⟨l,rfl,hk⟩
theorem u8m (k:TK) (X:Prop):(match k with| .int .u8=>X|_=>False)=(k= .int .u8∧X):=by
 cases k with
 |int kk=>cases kk<;>simp
 |_=>simp
@[go_sem↓] theorem NS (s e:TypeId) (x:Operand):bg P U ρ h ⟨d, .convert s e x,t,p,a,g⟩ Q=aI (ev ρ x) fun y=>cvA U (U s).k (U e).k y (atH Q h):=by
 simp only [bg,pv,bV]
 congr 1
 funext y
 generalize (U s).k=ks;generalize (U e).k=ke;cases ks<;>cases ke<;>cases y<;>(first|rfl|(rename_i u; cases u<;>rfl)|skip)
 ·simp only [cvA]
  exact u8m _ _
 ·simp only [cvA]
  exact u8m _ _
end
attribute [go_sem] true_and and_true List.length_cons List.length_nil List.drop_succ_cons List.drop_zero List.drop_nil List.take_succ_cons List.take_zero List.take_nil List.append_nil List.cons_append List.nil_append List.map_cons List.map_nil ne_eq not_false_eq_true reduceCtorEq Nat.zero_add Nat.add_zero
section
variable {P : Program} {U : TypeId → TI} {n : Nat} {ρ : Env} {h : Heap}
variable {d : Option Tmp} {t : TypeId} {p : String} {a : Array Edge} {g : Option (Nat × Bool)} {Q : AV → Heap → Prop} {k : AV → Prop}
@[go_sem] theorem PF (x:IntKind):TK.agg (.int x)=false:=rfl
@[go_sem] theorem mQ (x y:TypeId):TK.agg (.map x y)=false:=rfl
@[go_sem] theorem N7:TK.agg .bool=false:=rfl
@[go_sem] theorem PG:TK.agg .str=false:=rfl
@[go_sem] theorem Ng (x:TypeId):TK.agg (.slice x)=false:=rfl
@[go_sem] theorem Nh (x:List (Nat×TypeId)):TK.agg (.strct x)=true:=rfl
@[go_sem] theorem N8 (x:FloatKind):TK.agg (.cplx x)=false:=rfl
@[go_sem] theorem Np (cs:List AV):AV.cells (.agg cs)=cs:=rfl
@[go_sem] theorem PU (x:Value):AV.cells (.v x)= [.v x]:=rfl
@[go_sem] theorem PT (x:List UInt8):AV.cells (.s x)= [.s x]:=rfl
@[go_sem] theorem Oi (x:List AV) (q:Perm):AV.cells (.sl x q)= [.sl x q]:=rfl
@[go_sem] theorem NH (cs:List AV):bA (.agg cs)=true:=rfl
@[go_sem] theorem Qh (x:Value):bA (.v x)=false:=rfl
@[go_sem] theorem Qg (x:List UInt8):bA (.s x)=false:=rfl
@[go_sem] theorem OT (x:List AV) (q:Perm):bA (.sl x q)=false:=rfl
@[go_sem] theorem Qe (cs:List AV) (m:Nat):fit (.agg cs) m=(cs.length=m):=rfl
@[go_sem] theorem Qf (x:IntKind) (i:Int) (m:Nat):fit (.v (.int x i)) m=(m=1):=by simp [fit,Value.oneCell']
@[go_sem] theorem OK (i:Bool) (m:Nat):fit (.v (.bool i)) m=(m=1):=by simp [fit,Value.oneCell']
@[go_sem] theorem OL (x:FloatKind) (i j:Nat) (m:Nat):fit (.v (.complex x i j)) m=(m=1):=by simp [fit,Value.oneCell']
@[go_sem] theorem Tl (l:List UInt8) (m:Nat):fit (.s l) m=(m=1):=rfl
@[go_sem] theorem Q1 (l:List AV) (q:Perm) (m:Nat):fit (.sl l q) m=(m=1):=rfl
@[go_sem] theorem OM (m:Nat):fits m []=True:=rfl
@[go_sem] theorem ND (m:Nat) (y:AV) (r:List AV):fits m (y::r)=(fit y m∧fits m r):=rfl
@[go_sem↓] theorem HZ (cs:List AV) (off:Nat) (i:TI):gS cs off i k=Br i.k.agg (off+i.sz≤cs.length∧k (.agg ((cs.drop off).take i.sz))) (aI cs[off]? k):=by
 unfold gS;cases i.k.agg with
 |true=>simp [Br]
 |false=>
  simp only [Br];cases cs[off]? <;>simp [aI]
@[go_sem↓] theorem LH (y:AV) (off:Nat) (i:TI):atA y off i k=if off=0∧y.cells.length=i.sz∧bA y=i.k.agg then k y else gS y.cells off i k:=rfl
def Cs (U:TypeId→TI) (f:Nat) (y:AV) (k:AV→Prop) (tk:TK):Prop:=match tk,y with
 | .strct fs, .agg cs=>aI fs[f]? fun q=>(U q.2).sz≠0∧(U q.2).k≠ .other∧gS cs q.1 (U q.2) k
 |_,_=>False
@[go_sem↓] theorem NC (f:Nat) (cs:List AV) (fs:List (Nat×TypeId)):Cs U f (.agg cs) k (.strct fs)=aI fs[f]? fun q=>(U q.2).sz≠0∧(U q.2).k≠ .other∧gS cs q.1 (U q.2) k:=rfl
@[go_sem↓] theorem Qq (ty:TypeId) (x:Operand) (f:Nat):bg P U ρ h ⟨d, .field ty x f,t,p,a,g⟩ Q=aI (ev ρ x) fun y=>atK (U ty).k (Cs U f y (atH Q h)):=by
 simp only [bg,pv,bV,atK]
 congr 1
 funext y
 cases (U ty).k<;>cases y<;>simp only [Cs]
 rename_i fs cs
 cases fs[f]? <;>rfl
def IN (y:AV) (i:Nat) (k:AV→Prop):Prop:=match y with
 | .tup vs=>aI vs[i]? k
 |_=>False
@[congr] theorem MM {y y' :AV} {i:Nat} (e:y=y'):IN y i k=IN y' i k:=by rw [e]
@[go_sem↓] theorem QB (vs:List AV) (i:Nat):IN (.tup vs) i k=aI vs[i]? k:=rfl
@[go_sem↓] theorem NT (x:Operand) (i:Nat):bg P U ρ h ⟨d, .extract x i,t,p,a,g⟩ Q=aI (ev ρ x) fun y=>IN y i (atH Q h):=by
 simp only [bg,pv,bV]
 congr 1
 funext y
 cases y<;>simp only [IN]
 rename_i vs
 cases vs[i]? <;>simp [aI,atH]
def Ej (tk:TK) (y z:AV) (k:AV→Prop):Prop:=match tk,y,z with
 | .str, .s l, .v (.int _ n)=>Jd l n k
 |_,_,_=>False
@[congr] theorem Lb {tk tk' :TK} {y y' z z' :AV} (e0:tk=tk') (e1:y=y') (e2:z=z'):Ej tk y z k=Ej tk' y' z' k:=by rw [e0,e1,e2]
@[go_sem↓] theorem Pm (l:List UInt8) (x:IntKind) (m:Int):Ej .str (.s l) (.v (.int x m)) k=Jd l m k:=rfl
@[go_sem↓] theorem Qr (ty:TypeId) (x i:Operand):bg P U ρ h ⟨d, .index ty x i,t,p,a,g⟩ Q=aI (ev ρ x) fun y=>aI (ev ρ i) fun z=>Ej (U ty).k y z (atH Q h):=by
 simp only [bg,pv,bV]
 congr 1
def vo (U:TypeId→TI) (f:Nat) (y:AV) (k:AV→Prop) (tk:TK):Prop:=match tk with
 | .strct fs=>aI fs[f]? fun q=>(U q.2).sz≠0∧match y with
  | .ptr id o=>k (.ptr id (o+q.1))
  | .pe z o=>k (.pe z (o+q.1))
  |_=>False
 |_=>False
@[go_sem↓] theorem Cr (f id o:Nat) (fs:List (Nat×TypeId)):vo U f (.ptr id o) k (.strct fs)=aI fs[f]? fun q=>(U q.2).sz≠0∧k (.ptr id (o+q.1)):=rfl
@[go_sem↓] theorem EN (f o:Nat) (z:AV) (fs:List (Nat×TypeId)):vo U f (.pe z o) k (.strct fs)=aI fs[f]? fun q=>(U q.2).sz≠0∧k (.pe z (o+q.1)):=rfl
@[go_sem↓] theorem KU (ty:TypeId) (x:Operand) (f:Nat):bg P U ρ h ⟨d, .fieldAddr ty x f,t,p,a,g⟩ Q=aI (ev ρ x) fun y=>atK (U ty).k (vo U f y (atH Q h)):=by
 simp only [bg,pv,bV,atK]
 congr 1
 funext y
 cases (U ty).k<;>simp only [vo]
 rename_i fs
 cases fs[f]? with
 |none=>rfl
 |some q=>cases y<;>rfl
def oJ (U:TypeId→TI) (y z:AV) (k:AV→Prop) (tk:TK):Prop:=match tk,y,z with
 | .slice e, .sl xs _, .v (.int _ n)=>(U e).sz≠0∧fc xs n (U e).sz k
 | .slice e, .oa id off len, .v (.int _ n)=>(U e).sz≠0∧0≤n∧n<len∧k (.ptr id (off+n.toNat*(U e).sz))
 | .arr len e, .ptr id off, .v (.int _ n)=>(U e).sz≠0∧0≤n∧n<len∧k (.ptr id (off+n.toNat*(U e).sz))
 | .slice e, .ob id off len _ sz, .v (.int _ n)=>(U e).sz≠0∧sz=(U e).sz∧0≤n∧n<len∧k (.ptr id (off+n.toNat*sz))
 |_,_,_=>False
@[go_sem↓] theorem x7 (id off len cap sz:Nat) (x:IntKind) (m:Int) (e:TypeId):oJ U (.ob id off len cap sz) (.v (.int x m)) k (.slice e)=((U e).sz≠0∧sz=(U e).sz∧0≤m∧m<len∧k (.ptr id (off+m.toNat*sz))):=rfl
@[go_sem↓] theorem x8 (xs:List AV) (q:Perm) (x:IntKind) (m:Int) (e:TypeId):oJ U (.sl xs q) (.v (.int x m)) k (.slice e)=((U e).sz≠0∧fc xs m (U e).sz k):=rfl
@[go_sem↓] theorem Fc (id off len:Nat) (x:IntKind) (m:Int) (e:TypeId):oJ U (.oa id off len) (.v (.int x m)) k (.slice e)=((U e).sz≠0∧0≤m∧m<len∧k (.ptr id (off+m.toNat*(U e).sz))):=rfl
@[go_sem↓] theorem KW (ty:TypeId) (x i:Operand):bg P U ρ h ⟨d, .indexAddr ty x i,t,p,a,g⟩ Q=aI (ev ρ x) fun y=>aI (ev ρ i) fun z=>atK (U ty).k (oJ U y z (atH Q h)):=by
 simp only [bg,pv,bV,atK]
 congr 1
def oX (b:Blk) (f:List AV→TypeId→Prop):Prop:=match b with
 | .obj cs t=>f cs t
 |_=>False
@[congr] theorem Mr {b b' :Blk} {f:List AV→TypeId→Prop} (e:b=b'):oX b f=oX b' f:=by rw [e]
@[go_sem↓] theorem J1 (cs:List AV) (t:TypeId) (f:List AV→TypeId→Prop):oX (.obj cs t) f=f cs t:=rfl
def oS (U:TypeId→TI) (h:Heap) (ty:TypeId) (y:AV) (k:AV→Prop):Prop:=match y with
 | .ptr id off=>aI (h id) fun b=>oX b fun cs _=>gS cs off (U ty) k
 | .pe z off=>atA z off (U ty) k
 |_=>False
@[congr] theorem KP {ty:TypeId} {y y' :AV} (e:y=y'):oS U h ty y k=oS U h ty y' k:=by rw [e]
@[go_sem↓] theorem Fp (ty:TypeId) (id off:Nat):oS U h ty (.ptr id off) k=aI (h id) fun b=>oX b fun cs _=>gS cs off (U ty) k:=rfl
@[go_sem↓] theorem HE (ty:TypeId) (z:AV) (off:Nat):oS U h ty (.pe z off) k=atA z off (U ty) k:=rfl
@[go_sem↓] theorem Rc (ty:TypeId) (x:Operand):bg P U ρ h ⟨d, .load ty x,t,p,a,g⟩ Q=((U ty).sz≠0∧(U ty).k≠ .other∧aI (ev ρ x) fun y=>oS U h ty y (atH Q h)):=by
 simp only [bg,pv,bV]
 congr 1
 congr 1
 congr 1
 funext y
 cases y with
 |ptr id off=>
  simp only [oS];cases h id with
  |none=>rfl
  |some b=>cases b<;>rfl
 |_=>rfl
def Ho (y:AV) (f:Int→Prop):Prop:=match y with
 | .v (.int _ m)=>f m
 |_=>False
@[congr] theorem Ma {y y' :AV} {f:Int→Prop} (e:y=y'):Ho y f=Ho y' f:=by rw [e]
@[go_sem↓] theorem pO (x:IntKind) (m:Int) (f:Int→Prop):Ho (.v (.int x m)) f=f m:=rfl
@[go_sem↓] theorem mK (m:Nat) (f:Int→Prop):dW ρ none m f=f m:=rfl
@[go_sem↓] theorem jG (x:Operand) (m:Nat) (f:Int→Prop):dW ρ (some x) m f=aI (ev ρ x) fun y=>Ho y f:=by
 simp only [dW,bV]
 congr 1
def jo (U:TypeId→TI) (ρ:Env) (y:AV) (lo hi mx:Option Operand) (k:AV→Prop) (tk:TK):Prop:=match y with
 | .s l=>tk= .str∧mx=none∧dW ρ lo 0 fun a=>dW ρ hi l.length fun b=>0≤a∧a≤b∧b≤l.length∧k (.s (nT l a b lo.isSome hi.isSome))
 | .sl xs p=>match tk with
  | .slice e=>(U e).sz≠0∧(lo.isSome=true→∀z∈xs,z.cells.length=(U e).sz)∧match mx with
   |none=>dW ρ lo 0 fun a=>dW ρ hi xs.length fun b=>0≤a∧a≤b∧b≤xs.length∧k (.sl (nT xs a b lo.isSome hi.isSome) (Ag xs p lo.isSome hi.isSome))
   |some m=>hi.isSome=true∧dW ρ lo 0 fun a=>dW ρ hi xs.length fun b=>dW ρ (some m) 0 fun c=>0≤a∧a≤b∧b=c∧c≤xs.length∧k (.sl (nT xs a b lo.isSome true) .full)
  |_=>False
 | .oa id off len=>match tk with
  | .slice e=>(U e).sz≠0∧(lo.isSome=true→(U e).sz=1)∧mx=none∧dW ρ lo 0 fun a=>dW ρ hi len fun b=>0≤a∧a≤b∧b≤len∧k (.oa id (off+a.toNat*(U e).sz) (b.toNat - a.toNat))
  |_=>False
 | .ob id off len cap sz=>match tk with
  | .slice e=>(U e).sz≠0∧sz=(U e).sz∧match mx with
   |none=>dW ρ lo 0 fun a=>dW ρ hi len fun b=>0≤a∧a≤b∧b≤cap∧k (.ob id (off+a.toNat*sz) (b.toNat - a.toNat) (cap - a.toNat) sz)
   |some m=>hi.isSome=true∧dW ρ lo 0 fun a=>dW ρ hi len fun b=>dW ρ (some m) 0 fun c=>0≤a∧a≤b∧b≤c∧c≤cap∧k (.ob id (off+a.toNat*sz) (b.toNat - a.toNat) (c.toNat - a.toNat) sz)
  |_=>False
 |_=>False
@[go_sem↓] theorem yE (id off len cap sz:Nat) (lo hi:Option Operand) (e:TypeId):jo U ρ (.ob id off len cap sz) lo hi none k (.slice e)=((U e).sz≠0∧sz=(U e).sz∧dW ρ lo 0 fun a=>dW ρ hi len fun b=>0≤a∧a≤b∧b≤cap∧k (.ob id (off+a.toNat*sz) (b.toNat - a.toNat) (cap - a.toNat) sz)):=rfl
@[go_sem↓] theorem Pk (l:List UInt8) (lo hi:Option Operand):jo U ρ (.s l) lo hi none k .str=dW ρ lo 0 fun a=>dW ρ hi l.length fun b=>0≤a∧a≤b∧b≤l.length∧k (.s (nT l a b lo.isSome hi.isSome)):=by simp [jo]
@[go_sem↓] theorem ue (xs:List AV) (q:Perm) (hi:Option Operand) (e:TypeId):jo U ρ (.sl xs q) none hi none k (.slice e)=((U e).sz≠0∧dW ρ hi xs.length fun b=>0≤b∧b≤xs.length∧k (.sl (nT xs 0 b false hi.isSome) (Ag xs q false hi.isSome))):=by
 simp [jo,dW]
@[go_sem↓] theorem uf (xs:List AV) (q:Perm) (lo:Operand) (hi:Option Operand) (e:TypeId):jo U ρ (.sl xs q) (some lo) hi none k (.slice e)=((U e).sz≠0∧Sized (U e).sz xs∧dW ρ (some lo) 0 fun a=>dW ρ hi xs.length fun b=>0≤a∧a≤b∧b≤xs.length∧k (.sl (nT xs a b true hi.isSome) (Ag xs q true hi.isSome))):=by
 simp [jo,Sized]
@[go_sem↓] theorem FN (id off len:Nat) (lo hi:Option Operand) (e:TypeId):jo U ρ (.oa id off len) lo hi none k (.slice e)=((U e).sz≠0∧(lo.isSome=true→(U e).sz=1)∧dW ρ lo 0 fun a=>dW ρ hi len fun b=>0≤a∧a≤b∧b≤len∧k (.oa id (off+a.toNat*(U e).sz) (b.toNat - a.toNat))):=by
 simp [jo]
@[go_sem] theorem kG {α:Type} (xs:List α) (a b:Int):nT xs a b true false=xs.drop a.toNat:=rfl
@[go_sem] theorem pK {α:Type} (xs:List α) (a b:Int):nT xs a b false true=xs.take b.toNat:=rfl
@[go_sem] theorem Ns (xs:List AV):Ag xs .full true false= .full:=by cases xs<;>rfl
@[go_sem↓] theorem Qs (ty:TypeId) (x:Operand) (lo hi mx:Option Operand):bg P U ρ h ⟨d, .slice ty x lo hi mx,t,p,a,g⟩ Q=aI (ev ρ x) fun y=>atK (U ty).k (jo U ρ y lo hi mx (atH Q h)):=by
 simp only [bg,pv,bV,atK]
 congr 1
end
section
variable {P : Program} {U : TypeId → TI} {n : Nat} {ρ : Env} {h : Heap}
variable {d : Option Tmp} {t : TypeId} {p : String} {a : Array Edge} {g : Option (Nat × Bool)} {Q : AV → Heap → Prop} {k : AV → Prop}
def Gj (h:Heap) (b:Blk) (Q:AV→Heap→Prop):Prop:=∀id,h id=none→Q (.ptr id 0) (upd h id (some b))
def QE (h:Heap) (xs:List AV) (b:Blk) (Q:AV→Heap→Prop):Prop:=∀id,h id=none→Q (.sl xs (.own id)) (upd h id (some b))
def nM (U:TypeId→TI) (h:Heap) (xs ys:List AV) (e:TypeId) (Q:AV→Heap→Prop):Prop:=
 (∀id,h id=none→Q (.sl (xs++ys) (.own id)) (upd h id (some (.spare (xs.length+ys.length) (U e).sz))))∨
  ((U e).sz=1∧fit (U e).zero 1∧bA (U e).zero=false∧(∀z∈xs++ys,bA z=false)∧∀id m,h id=none→Q (.oa id 0 (xs.length+ys.length)) (upd h id (some (.obj (xs++ys++List.replicate m (U e).zero) e))))∨
  (fit (U e).zero (U e).sz∧jy h (aq xs++aq ys) (xs.length+ys.length) (U e).sz e Q)
@[congr] theorem Kq {h h' :Heap} {xs xs' ys ys' :List AV} {e:TypeId} (e0:h=h') (e1:xs=xs') (e2:ys=ys'):nM U h xs ys e Q=nM U h' xs' ys' e Q:=by rw [e0,e1,e2]
theorem nM.own {xs ys:List AV} {e:TypeId} (hk:QE h (xs++ys) (.spare (xs.length+ys.length) (U e).sz) Q):nM U h xs ys e Q:= .inl hk
theorem nM.oa {xs ys:List AV} {e:TypeId} (h1:(U e).sz=1) (h2:fit (U e).zero 1) (h3:bA (U e).zero=false) (h4:∀z∈xs++ys,bA z=false)
  (hk:∀id m,h id=none→Q (.oa id 0 (xs.length+ys.length)) (upd h id (some (.obj (xs++ys++List.replicate m (U e).zero) e)))):nM U h xs ys e Q:= .inr (.inl ⟨h1,h2,h3,h4,hk⟩)
theorem nM.ob {xs ys:List AV} {e:TypeId} (h1:fit (U e).zero (U e).sz) (hk:jy h (aq xs++aq ys) (xs.length+ys.length) (U e).sz e Q):nM U h xs ys e Q:= .inr (.inr ⟨h1,hk⟩)
def qq (U:TypeId→TI) (h:Heap) (xs ys:List AV) (e:TypeId) (Q:AV→Heap→Prop):Prop:=(ys= []→Q (.sl xs .full) h)∧(ys≠ []→nM U h xs ys e Q)
@[congr] theorem I9 {h h' :Heap} {xs xs' ys ys' :List AV} {e:TypeId} (e0:h=h') (e1:xs=xs') (e2:ys=ys'):qq U h xs ys e Q=qq U h' xs' ys' e Q:=by rw [e0,e1,e2]
@[go_sem↓] theorem Kp (xs:List AV) (y:AV) (r:List AV) (e:TypeId):qq U h xs (y::r) e Q=nM U h xs (y::r) e Q:=by simp [qq]
@[go_sem] theorem fR {α:Type} (f:Nat→α) (i:Nat) (x:α):upd f i x i=x:=ah f i x
@[go_sem] theorem aj {α:Type} (f:Nat→α) (i j:Nat) (x:α) (e:¬j=i):upd f i x j=f j:=ag f x e
@[go_sem] theorem nI {α:Type} (f:Nat→α) (i:Nat) (x y:α):upd (upd f i x) i y=upd f i y:=by
 funext j; simp only [upd]; split<;>rfl
def oK:List (Nat×Operand)→Nat→Bool
 | [],_=>true
 |(i,_)::r,k=>i==k && oK r (k+1)
theorem x9:∀(l:List (Nat×Operand)) (k:Nat),oK l k=true↔l.map (·.1)=List.range' k l.length
 | [],k=>by simp [oK]
 |(i,x)::r,k=>by simp [oK,x9 r (k+1),List.range'_succ]
@[go_sem] theorem NG (k:Nat):oK [] k=true:=rfl
@[go_sem] theorem L8 (i:Nat) (x:Operand) (r:List (Nat×Operand)) (k:Nat):(oK ((i,x)::r) k=true)=(i=k∧oK r (k+1)=true):=by simp [oK]
theorem Fe (l:List (Nat×Operand)) (m:Nat):(l.map (·.1)=List.range m)=(oK l 0=true∧l.length=m):=by
 apply propext;rw [x9,List.range_eq_range'];constructor
 ·intro e
  have:=congrArg List.length e;simp at this;exact ⟨by rw [this]; exact e,this⟩
 ·rintro ⟨e,rfl⟩; exact e
def bsK (U:TypeId→TI) (ρ:Env) (len:Nat) (parts:List (Nat×Operand)) (k:AV→Prop) (tk:TK):Prop:=match tk with
 | .slice e=>(U e).sz≠0∧len*(U e).sz≤16777216∧(oK parts 0=true∧parts.length=len)∧aI (evs ρ (parts.map (·.2))) fun xs=>fits (U e).sz xs∧k (.sl xs .full)
 |_=>False
@[go_sem↓] theorem QT (len:Nat) (parts:List (Nat×Operand)) (e:TypeId):bsK U ρ len parts k (.slice e)=((U e).sz≠0∧len*(U e).sz≤16777216∧(oK parts 0=true∧parts.length=len)∧aI (evs ρ (parts.map (·.2))) fun xs=>fits (U e).sz xs∧k (.sl xs .full)):=rfl
@[go_sem↓] theorem J0 (ty:TypeId) (len:Nat) (parts:List (Nat×Operand)):bg P U ρ h ⟨d, .buildSlice ty len parts.toArray,t,p,a,g⟩ Q=atK (U ty).k (bsK U ρ len parts (atH Q h)):=by
 simp only [bg,pv,atK];cases (U ty).k<;>simp only [bsK,ig,Fe]
 rfl
def LC (k:AV→Prop) (cs:List AV):Prop:=k (.agg cs)
@[go_sem↓] theorem PE (cs:List AV):LC k cs=k (.agg cs):=rfl
def Dw (z:AV):Option (List AV):=match z with
 | .agg cs=>some cs
 |_=>none
@[go_sem] theorem Nf (cs:List AV):Dw (.agg cs)=some cs:=rfl
def bK (U:TypeId→TI) (ρ:Env) (ty:TypeId) (parts:List (Nat×Operand)) (k:AV→Prop) (tk:TK):Prop:=match tk with
 | .strct fs=>(U ty).sz≠0∧aI (Dw (U ty).zero) fun cs0=>withps U ρ fs parts cs0 (LC k)
 |_=>False
@[go_sem↓] theorem S3 (ty:TypeId) (parts:List (Nat×Operand)) (fs:List (Nat×TypeId)):bK U ρ ty parts k (.strct fs)=((U ty).sz≠0∧aI (Dw (U ty).zero) fun cs0=>withps U ρ fs parts cs0 (LC k)):=rfl
def bU (U:TypeId→TI) (ρ:Env) (ty:TypeId) (parts:List (Nat×Operand)) (k:AV→Prop) (b:Bool):Prop:=match b with
 |true=>parts= []∧k (.agg [])
 |false=>atK (U ty).k (bK U ρ ty parts k)
@[go_sem↓] theorem Vy (ty:TypeId) (parts:List (Nat×Operand)):bU U ρ ty parts k true=(parts= []∧k (.agg [])):=rfl
@[go_sem↓] theorem Vx (ty:TypeId) (parts:List (Nat×Operand)):bU U ρ ty parts k false=atK (U ty).k (bK U ρ ty parts k):=rfl
@[go_sem] theorem OY:isUnit (.strct [])=true:=rfl
@[go_sem] theorem OX (f:Nat×TypeId) (fs:List (Nat×TypeId)):isUnit (.strct (f::fs))=false:=rfl
@[go_sem] theorem OW (x:IntKind):isUnit (.int x)=false:=rfl
@[go_sem] theorem OU:isUnit .bool=false:=rfl
@[go_sem] theorem Mc:isUnit .str=false:=rfl
@[go_sem] theorem NI (e:TypeId):isUnit (.slice e)=false:=rfl
@[go_sem] theorem OV (x:FloatKind):isUnit (.cplx x)=false:=rfl
theorem HP (ty:TypeId) (parts:List (Nat×Operand)):(match (U ty).k with
  | .strct fs=>(U ty).sz≠0∧∃cs0,(U ty).zero= .agg cs0∧withps U ρ fs parts cs0 fun cs=>(atH Q h) (.agg cs)
  |_=>False)=atK (U ty).k (bK U ρ ty parts (atH Q h)):=by
 simp only [atK];cases (U ty).k<;>simp only [bK]
 congr 1
 cases hz:(U ty).zero<;>simp [Dw,aI]
 exact Iff.rfl
@[go_sem↓] theorem Qp (ty:TypeId) (parts:List (Nat×Operand)):bg P U ρ h ⟨d, .build ty parts.toArray,t,p,a,g⟩ Q=bU U ρ ty parts (atH Q h) (isUnit (U ty).k):=by
 simp only [bg,pv];cases isUnit (U ty).k
 ·simp only [bU,Bool.false_eq_true,if_false]
  exact HP ty parts
 ·simp only [bU,if_true]
  rfl
@[congr] theorem I8 {fs:List (Nat×TypeId)} {ps:List (Nat×Operand)} {cs cs' :List AV} {k:List AV→Prop} (e:cs=cs'):withps U ρ fs ps cs k=withps U ρ fs ps cs' k:=by rw [e]
@[go_sem] theorem MV (fs:List (Nat×TypeId)) (cs:List AV) (k:List AV→Prop):withps U ρ fs [] cs k=k cs:=rfl
@[go_sem] theorem Lg (fs:List (Nat×TypeId)) (i:Nat) (x:Operand) (r:List (Nat×Operand)) (cs:List AV) (k:List AV→Prop):
  withps U ρ fs ((i,x)::r) cs k=aI fs[i]? fun q=>(U q.2).sz≠0∧aI (ev ρ x) fun y=>fit y (U q.2).sz∧q.1+(U q.2).sz≤cs.length∧withps U ρ fs r (over cs q.1 y.cells) k:=by
 simp only [withps,bV];cases fs[i]? <;>rfl
@[go_sem] theorem Qu (cs:List AV) (o:Nat) (xs:List AV):over cs o xs=cs.take o++xs++cs.drop (o+xs.length):=rfl
section
variable {ty : TypeId} {y : AV}
end
def O5 (f:FuncId) (k:AV→Prop) (ys:List AV):Prop:=k (.fn f ys)
@[go_sem↓] theorem Qm (f:FuncId) (ys:List AV):O5 f k ys=k (.fn f ys):=rfl
@[go_sem↓] theorem Mp (f:FuncId) (cap:List Operand):bg P U ρ h ⟨d, .makeFunc (.func f) #[] cap.toArray,t,p,a,g⟩ Q=aI (evs ρ cap) (O5 f (atH Q h)):=by
 simp only [bg,pv,ig];rfl
def fnA (y:AV) (f:FuncId→List AV→Prop):Prop:=match y with
 | .fn g cap=>f g cap
 |_=>False
@[congr] theorem NF {y y' :AV} {f:FuncId→List AV→Prop} (e:y=y'):fnA y f=fnA y' f:=by rw [e]
@[go_sem↓] theorem Q2 (g:FuncId) (cap:List AV) (f:FuncId→List AV→Prop):fnA (.fn g cap) f=f g cap:=rfl
@[go_sem↓] theorem Q9 (q:Operand) (args:List Operand) (ts:Array TypeId):bg P U ρ h ⟨d, .call ⟨.value q,args.toArray,ts⟩,t,p,a,g⟩ Q=aI (ev ρ q) fun y=>fnA y fun f cap=>aI (evs ρ args) fun ys=>ak P f (ys++cap) h Q:=by
 simp only [bg,bV,ig]
 congr 1
def xh (y:AV) (k:AV→Prop) (tk:TK):Prop:=match tk,y with
 | .str, .s l=>k (.v (.int .i64 l.length))
 | .slice _, .sl xs _=>k (.v (.int .i64 xs.length))
 | .slice _, .oa _ _ len=>k (.v (.int .i64 len))
 | .slice _, .ob _ _ len _ _=>k (.v (.int .i64 len))
 |_,_=>False
def JS (k:AV→Prop) (b:Blk):Prop:=match b with
 | .mp m=>k (.v (.int .i64 m.length))
 |_=>False
@[congr] theorem Mh {b b' :Blk} (e:b=b'):JS k b=JS k b' :=by rw [e]
def Mi (h:Heap) (y:AV) (k:AV→Prop) (tk:TK):Prop:=match tk,y with
 | .map _ _, .mp id=>aI (h id) (JS k)
 |tk,y=>xh y k tk
@[go_sem↓] theorem O0 (y:AV):Mi h y k .str=xh y k .str:=rfl
@[go_sem↓] theorem Mj (y:AV) (e:TypeId):Mi h y k (.slice e)=xh y k (.slice e):=rfl
@[go_sem↓] theorem Qj (i o l c s:Nat) (e:TypeId):xh (.ob i o l c s) k (.slice e)=k (.v (.int .i64 l)):=rfl
@[go_sem↓] theorem Q6 (l:List UInt8):xh (.s l) k .str=k (.v (.int .i64 l.length)):=rfl
@[go_sem↓] theorem Qk (xs:List AV) (q:Perm) (e:TypeId):xh (.sl xs q) k (.slice e)=k (.v (.int .i64 xs.length)):=rfl
@[go_sem↓] theorem Tp (x:Operand) (ty:TypeId):bg P U ρ h ⟨d, .call ⟨.builtin .len, #[x], #[ty]⟩,t,p,a,g⟩ Q=aI (ev ρ x) fun y=>atK (U ty).k (Mi h y (atH Q h)):=by
 simp only [bg,pv,pvB,bV,atK]
 congr 1
 funext y
 cases (U ty).k with
 |map a b=>
  cases y with
  |mp id=>
   show (match h id with
    |some (.mp m)=>Q (.v (.int .i64 m.length)) h
    |_=>False)=aI (h id) (JS (atH Q h))
   cases h id with
   |none=>rfl
   |some b=>cases b<;>rfl
  |_=>rfl
 |_=>cases y<;>rfl
def Oc (y:AV) (k:AV→Prop) (tk:TK):Prop:=match tk,y with
 | .slice _, .sl xs .full=>k (.v (.int .i64 xs.length))
 | .slice _, .ob _ _ _ cap _=>k (.v (.int .i64 cap))
 |_,_=>False
@[go_sem↓] theorem PR (i o l c s:Nat) (e:TypeId):Oc (.ob i o l c s) k (.slice e)=k (.v (.int .i64 c)):=rfl
@[go_sem↓] theorem To (x:Operand) (ty:TypeId):bg P U ρ h ⟨d, .call ⟨.builtin .cap, #[x], #[ty]⟩,t,p,a,g⟩ Q=aI (ev ρ x) fun y=>atK (U ty).k (Oc y (atH Q h)):=by
 simp only [bg,pv,pvB,bV,atK]
 congr 1
@[congr] theorem Mm {ys ys' :List AV} (e:ys=ys'):A7 ys k=A7 ys' k:=by rw [e]
@[congr] theorem Mk {ys ys' :List AV} (e:ys=ys'):xj ys k=xj ys' k:=by rw [e]
@[go_sem] theorem O4 (x:IntKind) (i j:Int):A7 [.v (.int x i), .v (.int x j)] k=k (.v (.int x (if j<i then j else i))):=by simp [A7]
@[go_sem] theorem O3 (x:IntKind) (i j:Int):xj [.v (.int x i), .v (.int x j)] k=k (.v (.int x (if i<j then j else i))):=by simp [xj]
@[congr] theorem K0 {ys ys' :List AV} (e:ys=ys'):wE ys k=wE ys' k:=by rw [e]
@[congr] theorem KM {ys ys' :List AV} (e:ys=ys'):vD ys k=vD ys' k:=by rw [e]
@[congr] theorem KF {ys ys' :List AV} (e:ys=ys'):vf ys k=vf ys' k:=by rw [e]
@[go_sem↓] theorem Pf (x:FloatKind) (i j:Nat):wE [.v (.complex x i j)] k=k (.v (.float x i)):=rfl
@[go_sem↓] theorem OS (x:FloatKind) (i j:Nat):vD [.v (.complex x i j)] k=k (.v (.float x j)):=rfl
@[go_sem] theorem Oj (x y:FloatKind) (i j:Nat):vf [.v (.float x i), .v (.float y j)] k=(x=y∧k (.v (.complex x i j))):=rfl
theorem CQ {x y:FloatKind} {i j:Nat} {r:Value} (h:∀(P:Program) (ts:Array TypeId) (ty:TypeId) (w:World),(Builtin.max_ ts ty #[.float x i, .float y j]).run P w= .ok r w) (k:AV→Prop):xj [.v (.float x i), .v (.float y j)] k=k (.v r):=propext ⟨fun ⟨r',h',hk⟩=>by
 have e:=(h default #[] 0 default).symm.trans (h' default #[] 0 default);cases e;exact hk,fun hk=>⟨r,h,hk⟩⟩
@[go_sem↓] theorem Rg (args:List Operand) (ts:Array TypeId):bg P U ρ h ⟨d, .call ⟨.builtin .real,args.toArray,ts⟩,t,p,a,g⟩ Q=aI (evs ρ args) fun ys=>wE ys (atH Q h):=by
 simp only [bg,pv,pvB,ig];rfl
@[go_sem↓] theorem Rb (args:List Operand) (ts:Array TypeId):bg P U ρ h ⟨d, .call ⟨.builtin .imag,args.toArray,ts⟩,t,p,a,g⟩ Q=aI (evs ρ args) fun ys=>vD ys (atH Q h):=by
 simp only [bg,pv,pvB,ig];rfl
@[go_sem↓] theorem NR (args:List Operand) (ts:Array TypeId):bg P U ρ h ⟨d, .call ⟨.builtin .complex,args.toArray,ts⟩,t,p,a,g⟩ Q=aI (evs ρ args) fun ys=>vf ys (atH Q h):=by
 simp only [bg,pv,pvB,ig];rfl
@[go_sem↓] theorem Tr (args:List Operand) (ts:Array TypeId):bg P U ρ h ⟨d, .call ⟨.builtin .min,args.toArray,ts⟩,t,p,a,g⟩ Q=aI (evs ρ args) fun ys=>A7 ys (atH Q h):=by
 simp only [bg,pv,pvB,ig];rfl
@[go_sem↓] theorem Tq (args:List Operand) (ts:Array TypeId):bg P U ρ h ⟨d, .call ⟨.builtin .max,args.toArray,ts⟩,t,p,a,g⟩ Q=aI (evs ρ args) fun ys=>xj ys (atH Q h):=by
 simp only [bg,pv,pvB,ig];rfl
@[congr] theorem MF {e:TypeId} {y y' :AV} {f:List AV→Prop} (h1:y=y'):jr U e h y f=jr U e h y' f:=by rw [h1]
@[go_sem↓] theorem Qz (e:TypeId) (ys:List AV) (q:Perm) (f:List AV→Prop):jr U e h (.sl ys q) f=f ys:=rfl
def apK (U:TypeId→TI) (h:Heap) (x y:AV) (Q:AV→Heap→Prop) (tk:TK):Prop:=match tk,x with
 | .slice e, .sl xs .full=>(U e).sz≠0∧(U e).bytes≠0∧jr U e h y fun ys=>Sized (U e).sz xs∧Sized (U e).sz ys∧(xs.length+ys.length)*(U e).bytes≤140737488355328∧
   qq U h xs ys e Q
 | .slice e, .sl xs (.own id)=>(U e).sz≠0∧(U e).bytes≠0∧jr U e h y fun ys=>Sized (U e).sz xs∧Sized (U e).sz ys∧(xs.length+ys.length)*(U e).bytes≤140737488355328∧
   h id=some (.spare xs.length (U e).sz)∧Q (.sl (xs++ys) (.own id)) (upd h id (some (.spare (xs.length+ys.length) (U e).sz)))
 | .slice e, .oa id off len=>(U e).sz≠0∧(U e).bytes≠0∧(U e).sz=1∧jr U e h y fun ys=>Sized 1 ys∧(∀z∈ys,bA z=false)∧(len+ys.length)*(U e).bytes≤140737488355328∧aI (h id) fun b=>oX b fun cs t=>
   off+len≤cs.length∧(∀z∈(cs.drop off).take len,bA z=false)∧fit (U e).zero 1∧bA (U e).zero=false∧
     (off+(len+ys.length)≤cs.length→Q (.oa id off (len+ys.length)) (upd h id (some (.obj (over cs (off+len) ys) t))))∧
     (∀id' m,h id' =none→Q (.oa id' 0 (len+ys.length)) (upd h id' (some (.obj ((cs.drop off).take len++ys++List.replicate m (U e).zero) e))))
 | .slice e, .ob id off len cap sz=>(U e).sz≠0∧(U e).bytes≠0∧sz=(U e).sz∧jr U e h y fun ys=>Sized (U e).sz ys∧(len+ys.length)*(U e).bytes≤140737488355328∧aI (h id) fun b=>oX b fun cs t=>
   off+len*(U e).sz≤cs.length∧fit (U e).zero (U e).sz∧
     (len+ys.length≤cap→Q (.ob id off (len+ys.length) cap (U e).sz) (upd h id (some (.obj (over cs (off+len*(U e).sz) (aq ys)) t))))∧
     (cap<len+ys.length→jy h ((cs.drop off).take (len*(U e).sz)++aq ys) (len+ys.length) (U e).sz e Q)
 |_,_=>False
@[go_sem↓] theorem u5 (xs:List AV) (y:AV) (e:TypeId):apK U h (.sl xs .full) y Q (.slice e)=((U e).sz≠0∧(U e).bytes≠0∧jr U e h y fun ys=>Sized (U e).sz xs∧Sized (U e).sz ys∧(xs.length+ys.length)*(U e).bytes≤140737488355328∧
   qq U h xs ys e Q):=rfl
@[go_sem↓] theorem Jn (xs:List AV) (y:AV) (id:Nat) (e:TypeId):apK U h (.sl xs (.own id)) y Q (.slice e)=((U e).sz≠0∧(U e).bytes≠0∧jr U e h y fun ys=>Sized (U e).sz xs∧Sized (U e).sz ys∧(xs.length+ys.length)*(U e).bytes≤140737488355328∧
   h id=some (.spare xs.length (U e).sz)∧Q (.sl (xs++ys) (.own id)) (upd h id (some (.spare (xs.length+ys.length) (U e).sz)))):=rfl
theorem BT (ts:TypeId) (x y:AV):pG U h ts x y Q=atK (U ts).k (apK U h x y Q):=by
 unfold pG atK;cases (U ts).k with
 |slice e=>
  simp only;cases x with
  |sl xs q=>
   cases q with
   |no=>
    simp only [apK];apply propext;constructor
    ·rintro ⟨_,_,hk⟩
     obtain ⟨ys,hh,_⟩:∃ys:List AV,(Sized (U e).sz xs∧Sized (U e).sz ys∧(xs.length+ys.length)*(U e).bytes≤140737488355328∧False)∧True:=by
      unfold jr at hk;split at hk
      ·exact ⟨_,hk,trivial⟩
      ·exact ⟨_,hk.2.2,trivial⟩
      ·obtain ⟨_,hk⟩:=hk
       split at hk
       ·exact ⟨_,hk.2.2.2,trivial⟩
       ·exact hk.elim
      ·obtain ⟨_,hk⟩:=hk
       split at hk
       ·obtain ⟨ys,_,_,_,hk⟩:=hk
        exact ⟨ys,hk,trivial⟩
       ·exact hk.elim
      ·exact hk.elim
     exact hh.2.2.2
    ·exact False.elim
   |full=>
    rfl
   |own id=>rfl
  |oa id off len=>
   refine congrArg (fun q=>(U e).sz≠0∧(U e).bytes≠0∧(U e).sz=1∧q) (congrArg (fun f=>jr U e h y f) (funext fun ys=> ?_))
   refine congrArg (fun q=>Sized 1 ys∧(∀z∈ys,bA z=false)∧(len+ys.length)*(U e).bytes≤140737488355328∧q) ?_
   cases h id with
   |none=>rfl
   |some b=>cases b<;>rfl
  |ob id off len cap sz=>
   refine congrArg (fun q=>(U e).sz≠0∧(U e).bytes≠0∧sz=(U e).sz∧q) (congrArg (fun f=>jr U e h y f) (funext fun ys=> ?_))
   refine congrArg (fun q=>Sized (U e).sz ys∧(len+ys.length)*(U e).bytes≤140737488355328∧q) ?_
   cases h id with
   |none=>rfl
   |some b=>cases b<;>rfl
  |_=>simp [apK]
 |_=>rfl
@[go_sem↓] theorem Ni (e:TypeId) (A B:Prop):apT A B (.slice e)=A:=rfl
@[go_sem↓] theorem PI (x:IntKind) (A B:Prop):apT A B (.int x)=B:=rfl
def B8 (U:TypeId→TI) (h:Heap) (x y:AV) (Q:AV→Heap→Prop) (tk:TK):Prop:=match tk,x,y with
 | .slice e, .ob id off len cap sz, .v (.int _ n)=>(U e).sz≠0∧(U e).bytes≠0∧sz=(U e).sz∧0<n∧(len+n.toNat)*(U e).bytes≤140737488355328∧fit (U e).zero (U e).sz∧cap<len+n.toNat∧aI (h id) fun b=>oX b fun cs _=>
   off+len*(U e).sz≤cs.length∧jy h ((cs.drop off).take (len*(U e).sz)++cI (U e).zero n.toNat (U e).sz) (len+n.toNat) (U e).sz e Q
 |_,_,_=>False
@[go_sem↓] theorem PJ (id off len cap sz:Nat) (x:IntKind) (n:Int) (e:TypeId):B8 U h (.ob id off len cap sz) (.v (.int x n)) Q (.slice e)=((U e).sz≠0∧(U e).bytes≠0∧sz=(U e).sz∧0<n∧(len+n.toNat)*(U e).bytes≤140737488355328∧fit (U e).zero (U e).sz∧cap<len+n.toNat∧aI (h id) fun b=>oX b fun cs _=>
   off+len*(U e).sz≤cs.length∧jy h ((cs.drop off).take (len*(U e).sz)++cI (U e).zero n.toNat (U e).sz) (len+n.toNat) (U e).sz e Q):=rfl
theorem IW (ts:TypeId) (x y:AV):BU U h ts x y Q=atK (U ts).k (B8 U h x y Q):=by
 unfold BU atK;cases (U ts).k with
 |slice e=>
  simp only;cases x with
  |ob id off len cap sz=>
   cases y with
   |v u=>
    cases u with
    |int k n=>
     simp only [B8];cases h id with
     |none=>rfl
     |some b=>cases b<;>rfl
    |_=>simp [B8]
   |_=>simp [B8]
  |_=>simp [B8]
 |_=>rfl
@[go_sem↓] theorem O8 (x y:Operand) (t1 t2:TypeId):bg P U ρ h ⟨d, .call ⟨.builtin .append, #[x,y], #[t1,t2]⟩,t,p,a,g⟩ Q=aI (ev ρ x) fun u=>aI (ev ρ y) fun v=>atK (U t2).k (apT (atK (U t1).k (apK U h u v Q)) (atK (U t1).k (B8 U h u v Q))):=by
 simp only [bg,bV,BT,IW,atK]
def alU (U:TypeId→TI) (h:Heap) (ty:TypeId) (Q:AV→Heap→Prop) (b:Bool):Prop:=match b with
 |true=>Gj h (.obj [] ty) Q
 |false=>(U ty).sz≠0∧fit (U ty).zero (U ty).sz∧Gj h (.obj (U ty).zero.cells ty) Q
@[go_sem↓] theorem S2 (ty:TypeId):alU U h ty Q true=Gj h (.obj [] ty) Q:=rfl
@[go_sem↓] theorem S1 (ty:TypeId):alU U h ty Q false=((U ty).sz≠0∧fit (U ty).zero (U ty).sz∧Gj h (.obj (U ty).zero.cells ty) Q):=rfl
@[go_sem↓] theorem Qn (ty:TypeId):bg P U ρ h ⟨d, .alloc ty,t,p,a,g⟩ Q=alU U h ty Q (isUnit (U ty).k):=by
 simp only [bg];cases isUnit (U ty).k<;>rfl
@[go_sem↓] theorem Tn (ty:TypeId) (x:Operand):bg P U ρ h ⟨d, .box ty x,t,p,a,g⟩ Q=((U ty).sz≠0∧aI (ev ρ x) fun y=>fit y (U ty).sz∧Gj h (.obj y.cells ty) Q):=by
 simp only [bg,bV];rfl
def stA (U:TypeId→TI) (h:Heap) (ty:TypeId) (q y:AV) (Q:AV→Heap→Prop):Prop:=match q with
 | .ptr id off=>aI (h id) fun b=>oX b fun cs t' =>fit y (U ty).sz∧off+(U ty).sz≤cs.length∧Q (.v undef) (upd h id (some (.obj (over cs off y.cells) t')))
 |_=>False
@[congr] theorem NW {ty:TypeId} {q q' y y' :AV} (e1:q=q') (e2:y=y'):stA U h ty q y Q=stA U h ty q' y' Q:=by rw [e1,e2]
@[go_sem↓] theorem QA (ty:TypeId) (id off:Nat) (y:AV):stA U h ty (.ptr id off) y Q=aI (h id) fun b=>oX b fun cs t' =>fit y (U ty).sz∧off+(U ty).sz≤cs.length∧Q (.v undef) (upd h id (some (.obj (over cs off y.cells) t'))):=rfl
def utA (h:Heap) (u y:AV) (Q:AV→Heap→Prop):Prop:=y= .agg []∧match u with
 | .ptr .. =>Q (.v undef) h
 |_=>False
@[congr] theorem N0 {u u' y y' :AV} (e1:u=u') (e2:y=y'):utA h u y Q=utA h u' y' Q:=by rw [e1,e2]
@[go_sem↓] theorem Rs (i o:Nat):utA h (.ptr i o) (.agg []) Q=Q (.v undef) h:=by simp [utA]
def stU (U:TypeId→TI) (ρ:Env) (h:Heap) (ty:TypeId) (q x:Operand) (Q:AV→Heap→Prop) (b:Bool):Prop:=match b with
 |true=>aI (ev ρ q) fun u=>aI (ev ρ x) fun y=>utA h u y Q
 |false=>(U ty).sz≠0∧aI (ev ρ q) fun u=>aI (ev ρ x) fun y=>stA U h ty u y Q
@[go_sem↓] theorem Tw (ty:TypeId) (q x:Operand):stU U ρ h ty q x Q true=aI (ev ρ q) fun u=>aI (ev ρ x) fun y=>utA h u y Q:=rfl
@[go_sem↓] theorem Tv (ty:TypeId) (q x:Operand):stU U ρ h ty q x Q false=((U ty).sz≠0∧aI (ev ρ q) fun u=>aI (ev ρ x) fun y=>stA U h ty u y Q):=rfl
@[go_sem↓] theorem Qt (ty:TypeId) (q x:Operand):bg P U ρ h ⟨d, .store ty q x,t,p,a,g⟩ Q=stU U ρ h ty q x Q (isUnit (U ty).k):=by
 simp only [bg,bV];cases isUnit (U ty).k
 case true=>rfl
 simp only [stU,Bool.false_eq_true,if_false]
 congr 1
 congr 1
 funext u
 congr 1
 funext y
 cases u<;>simp only [stA]
 rename_i id off
 cases h id with
 |none=>rfl
 |some b=>cases b<;>rfl
def qc (xs:List AV) (h:Heap) (Q:AV→Heap→Prop):Prop:=∃y h',Weak (ax xs) y∧Sub h' h∧Q y h'
@[congr] theorem Ky {xs xs' :List AV} {h h' :Heap} {Q:AV→Heap→Prop} (e1:xs=xs') (e2:h=h'):qc xs h Q=qc xs' h' Q:=by rw [e1,e2]
@[go_sem↓] theorem Nn (rs:List ResultVar):tv U rs Q .ret ρ h=qL ρ h U rs fun xs=>qc xs h Q:=by simp [tv,qc]
@[go_sem↓] theorem Jr (rs:List ResultVar):tv U rs Q .normal ρ h=qL ρ h U rs fun xs=>qc xs h Q:=by simp [tv,qc]
@[go_sem↓] theorem Pg (f:List AV→Prop):qL ρ h U [] f=f []:=rfl
@[go_sem↓] theorem Ph (i:Tmp) (r:List ResultVar) (f:List AV→Prop):qL ρ h U (.tmp i::r) f=aI (lk ρ i) fun x=>qL ρ h U r fun xs=>f (x::xs):=by
 simp only [qL];cases lk ρ i<;>rfl
def Aa (U:TypeId→TI) (h:Heap) (ty:TypeId) (y:AV) (k:AV→Prop):Prop:=match y with
 | .ptr id off=>aI (h id) fun b=>oX b fun cs _=>(U ty).sz≠0∧(U ty).k≠ .other∧gS cs off (U ty) k
 |_=>False
@[congr] theorem KD {ty:TypeId} {y y' :AV} (e:y=y'):Aa U h ty y k=Aa U h ty y' k:=by rw [e]
@[go_sem↓] theorem No (ty:TypeId) (id off:Nat):Aa U h ty (.ptr id off) k=aI (h id) fun b=>oX b fun cs _=>(U ty).sz≠0∧(U ty).k≠ .other∧gS cs off (U ty) k:=rfl
@[go_sem↓] theorem NV (i:Tmp) (ty:TypeId) (r:List ResultVar) (f:List AV→Prop):qL ρ h U (.cell i ty::r) f=aI (lk ρ i) fun y=>Aa U h ty y fun x=>qL ρ h U r fun xs=>f (x::xs):=by
 simp only [qL];cases lk ρ i with
 |none=>rfl
 |some y=>
  cases y<;>simp only [fH,Aa]
  rename_i id off
  cases h id with
  |none=>rfl
  |some b=>cases b<;>rfl
theorem qc.mk {xs:List AV} {h h' :Heap} {Q:AV→Heap→Prop} (y:AV) (hw:Weak (ax xs) y) (hs:Sub h' h) (hq:Q y h'):qc xs h Q:=⟨y,h',hw,hs,hq⟩
theorem qc.same {xs:List AV} {h h' :Heap} {Q:AV→Heap→Prop} (hs:Sub h' h) (hq:Q (ax xs) h'):qc xs h Q:=⟨_,h', .refl _,hs,hq⟩
theorem Sub.refl (h:Heap):Sub h h:=fun _ _ e=>e
theorem Sub.trans {a b c:Heap} (h1:Sub a b) (h2:Sub b c):Sub a c:=fun i k e=>h2 i k (h1 i k e)
theorem Sub.new {a b:Heap} (hs:Sub a b) {id:Nat} (hid:b id=none) (k:Option Blk):Sub a (Ab.upd b id k):=fun j l e=>by
 by_cases ej:j=id
 ·subst ej; rw [hs _ _ e] at hid; cases hid
 ·rw [ag _ _ ej]; exact hs _ _ e
theorem Sub.none {a b:Heap} (hs:Sub a b) {id:Nat} (hid:b id=none):a id=none:=by
 cases hh:a id with
 |none=>rfl
 |some k=>rw [hs _ _ hh] at hid; cases hid
theorem ak.body (hU:∀t,aO P U t) (hm:P.follows .mixedOrders=true) {f:FuncId} {fn:Func} {c:Code} {args:List AV} {h:Heap} {Q:AV→Heap→Prop} (hf:P.funcs[f]? =some fn) (hb:fn.body=some c)
  (hn : (fn.name == "runtime.NumGoroutine") = false) (m : Nat) (hm' : fn.ntmps = m) (rs : List ResultVar) (hr : fn.results.toList = rs) (hl : args.length ≤ m)
  (hk:(∀x∈args,wfA x)→bG P U m c (vl args) h (tv U rs Q)):ak P f args h Q:=by
 subst hm'; subst hr
 exact ak.Pb hU hm hf hb hn hl hk
end
section
variable {P : Program} {U : TypeId → TI} {n : Nat} {ρ : Env} {h : Heap}
variable {d : Option Tmp} {t : TypeId} {p : String} {a : Array Edge} {g : Option (Nat × Bool)} {Q : AV → Heap → Prop} {k : AV → Prop}
def dsts (n:Nat):List Oper→Bool
 | []=>true
 |o::os=>dX n o.dst && dsts n os
theorem q7 (l:List Oper):dsts n l=l.all fun o=>dX n o.dst:=by induction l with
 |nil=>rfl
 |cons o os ih=>simp [dsts,ih]
@[go_sem] theorem Ou:(dsts n []=true)=True:=by simp [dsts]
@[go_sem] theorem Nv (o:Oper) (os:List Oper):(dsts n (o::os)=true)=(dX n o.dst=true∧dsts n os=true):=by simp [dsts]
def zQ (ops:Array Oper):Prop:=vO ops=true
theorem zQ.of {ops:Array Oper} (h:vO ops=true):zQ ops:=h
def Ch (k:AV→Prop) (x:AV) (_:Heap):Prop:=k x
@[go_sem↓] theorem Nr (x:AV):Ch k x h=k x:=rfl
def KDr (P:Program) (U:TypeId→TI) (n:Nat) (all os:List Oper) (h:Heap) (K:Env→Prop) (ρ:Env) (d:Option Tmp) (x:AV):Prop:=nJ P U n all os (put ρ d x) h K
@[go_sem↓] theorem QD (all os:List Oper) (K:Env→Prop) (x:AV):KDr P U n all os h K ρ d x=nJ P U n all os (put ρ d x) h K:=rfl
def atN (K:Exit→Env→Heap→Prop) (h:Heap) (ρ:Env):Prop:=K .normal ρ h
@[go_sem↓] theorem QG (K:Exit→Env→Heap→Prop):atN K h ρ=K .normal ρ h:=rfl
def Gh (ops:Array Oper):Prop:=HD ops=true
theorem Gh.of {ops:Array Oper} (h:HD ops=true):Gh ops:=h
attribute [go_sem] Bool.not_false Bool.not_true zx Option.isNone_none Option.isNone_some Bool.and_true Bool.true_and Bool.and_false Bool.false_and List.dropLast_singleton
@[go_sem] theorem CO (o o' :Oper) (r:List Oper):qg (o::o' ::r)=qg (o' ::r):=rfl
@[go_sem] theorem xd (o o' :Oper) (r:List Oper):(o::o' ::r).dropLast=o::(o' ::r).dropLast:=rfl
@[go_sem↓] theorem NJ (o:Oper) (K:Env→Heap→Prop):oQ P U [o] h K ρ=bg P U ρ h o (fun X h' =>K (put ρ o.dst X) h'):=rfl
@[go_sem↓] theorem Mg (o o' :Oper) (r:List Oper) (K:Env→Heap→Prop):oQ P U (o::o' ::r) h K ρ=oQ P U (o' ::r) h K ρ:=rfl
def En (l:List Oper) (k:List Oper→Prop):Prop:=k l
@[congr] theorem Lf {l l' :List Oper} {k:List Oper→Prop} (e:l=l'):En l k=En l' k:=by rw [e]
@[go_sem] theorem MU (o:Oper) (r:List Oper) (k:List Oper→Prop):En (o::r) k=k (o::r):=rfl
section
variable (l : List Oper)
@[go_sem] theorem MJ:mh []=true:=rfl
@[go_sem] theorem BO (o:Oper):mh (o::l)=(!dI o.op && mh l):=rfl
end
section
variable (x y z : Operand) (ty ty' : TypeId)
@[go_sem] theorem Nz:dI (.move x)=false:=rfl
@[go_sem] theorem KJ:dI (.assign x)=false:=rfl
@[go_sem] theorem I7:dI (.nilCheck x)=false:=rfl
@[go_sem] theorem LY (op:BinOp):dI (.binOp op ty x y ty')=false:=rfl
@[go_sem] theorem JA:dI (.convert ty ty' x)=false:=rfl
@[go_sem] theorem JB (f:Nat):dI (.extract x f)=false:=rfl
@[go_sem] theorem L0:dI (.index ty x y)=false:=rfl
@[go_sem] theorem GS (f:Nat):dI (.fieldAddr ty x f)=false:=rfl
@[go_sem] theorem GU:dI (.indexAddr ty x y)=false:=rfl
@[go_sem] theorem Ny:dI (.load ty x)=false:=rfl
@[go_sem] theorem L1 (lo hi mx:Option Operand):dI (.slice ty x lo hi mx)=false:=rfl
@[go_sem] theorem Gf (m:Nat) (ps:Array (Nat×Operand)):dI (.buildSlice ty m ps)=false:=rfl
@[go_sem] theorem LZ (ps:Array (Nat×Operand)):dI (.build ty ps)=false:=rfl
@[go_sem] theorem Oy (aa:Array Operand) (ts:Array TypeId):dI (.call ⟨.builtin .len,aa,ts⟩)=false:=rfl
@[go_sem] theorem Nw (aa:Array Operand) (ts:Array TypeId):dI (.call ⟨.value x,aa,ts⟩)=true:=rfl
@[go_sem] theorem KI (aa:Array Operand) (ts:Array TypeId):dI (.call ⟨.builtin .append,aa,ts⟩)=true:=rfl
@[go_sem] theorem Nx (aa:Array Operand) (ts:Array TypeId):dI (.call ⟨.builtin .copy,aa,ts⟩)=true:=rfl
@[go_sem] theorem L2:dI (.store ty x y)=true:=rfl
end
def tn (P:Program) (U:TypeId→TI) (n:Nat) (l:List Oper) (ρ:Env) (h:Heap) (K:Exit→Env→Heap→Prop):Prop:=Le P U n l.toArray ρ h (K .normal)
theorem tn.quiet {l:List Oper} {K:Exit→Env→Heap→Prop} (hB:vO l.toArray=true) (hk:dsts n l=true∧nJ P U n l l ρ h (atN K h)):tn P U n l ρ h K:=
 ⟨by rw [q7] at hk; exact hk.1, .inl ⟨hB,hk.2⟩⟩
theorem tn.calls {l:List Oper} {K:Exit→Env→Heap→Prop} (hm:Heap) (os:List Nat) (hs:Sub hm h) (hB:ni .any l.toArray os (Array.replicate l.toArray.size false)=true) (hl:os.length=l.toArray.size)
  (hk:dsts n l=true∧fG P U n l hm os ρ h (K .normal)):tn P U n l ρ h K:=
 ⟨by rw [q7] at hk; exact hk.1, .inr (.inl ⟨hm, .seq os,_,hs,hB,hl,hk.2,fun _ _ h=>h⟩)⟩
def LA (P:Program) (U:TypeId→TI) (n:Nat) (l:List Oper) (o2:List Nat) (K:Exit→Env→Heap→Prop) (ρ:Env) (h:Heap):Prop:=∃hm2,Sub hm2 h∧fG P U n l hm2 o2 ρ h (K .normal)
theorem tn.stage {l:List Oper} {K:Exit→Env→Heap→Prop} (hm:Heap) (o1 o2:List Nat) (hs:Sub hm h) (hB:uN .any l.toArray o1 o2=true)
  (hk:dsts n l=true∧fG P U n l hm o1 ρ h (LA P U n l o2 K)):tn P U n l ρ h K:=
 ⟨by rw [q7] at hk; exact hk.1, .inr (.inr (.inl ⟨hm,o1,o2,hs,hB,hk.2⟩))⟩
def qQ (P:Program) (U:TypeId→TI) (n:Nat) (l:List Oper) (ρ:Env) (h:Heap) (K:Exit→Env→Heap→Prop) (b:Bool) (e:Bool):Prop:=match b,e with
 |true,_=>Gh l.toArray∧dsts n l=true∧nJ P U n l l.dropLast ρ h (oQ P U l h (K .normal))
 |false,true=>zQ l.toArray∧dsts n l=true∧nJ P U n l l ρ h (atN K h)
 |false,false=>tn P U n l ρ h K
@[congr] theorem Kt {l:List Oper} {K:Exit→Env→Heap→Prop} {b b' e e' :Bool} (h1:b=b') (h2:e=e'):qQ P U n l ρ h K b e=qQ P U n l ρ h K b' e' :=by rw [h1,h2]
@[go_sem↓] theorem Lj (l:List Oper) (K:Exit→Env→Heap→Prop) (e:Bool):qQ P U n l ρ h K true e=(Gh l.toArray∧dsts n l=true∧En l.dropLast fun l' =>nJ P U n l l' ρ h (oQ P U l h (K .normal))):=by cases e<;>rfl
@[go_sem↓] theorem Ku (l:List Oper) (K:Exit→Env→Heap→Prop):qQ P U n l ρ h K false true=(zQ l.toArray∧dsts n l=true∧nJ P U n l l ρ h (atN K h)):=rfl
@[go_sem↓] theorem MW (l:List Oper) (K:Exit→Env→Heap→Prop):qQ P U n l ρ h K false false=tn P U n l ρ h K:=rfl
def qN (l:List Oper):Bool:=qg l && mh l.dropLast
@[go_sem] theorem MI (o:Oper):qN [o]=(zx o.op && o.guard.isNone):=by simp [qN,qg,mh]
@[go_sem] theorem La (o o' :Oper) (r:List Oper):qN (o::o' ::r)=(!dI o.op && qN (o' ::r)):=by
 simp only [qN,CO,xd,BO];cases dI o.op<;>simp
@[go_sem↓] theorem Rl (id:Nat) (l:List Oper) (K:Exit→Env→Heap→Prop):bG P U n (.region id l.toArray true) ρ h K=qQ P U n l ρ h K (qN l) (mh l):=by
 simp only [bG,if_true,qN];cases hb:(qg l && mh l.dropLast) with
 |true=>
  simp only [if_true,Bool.and_eq_true,qQ,Gh,q7,and_assoc]
 |false=>
  cases he:mh l with
  |true=>
   simp only [Bool.false_eq_true,if_false,Bool.and_eq_true,qQ,zQ,q7,and_assoc,Bool.true_eq_false];rfl
  |false=>
   simp only [Bool.false_eq_true,if_false,qQ,if_true];rfl
def qt (P:Program) (U:TypeId→TI) (n:Nat) (all:List Oper) (hm:Heap) (is:List Nat) (K:Env→Heap→Prop) (ρ:Env) (d:Option Tmp) (X:AV) (h:Heap):Prop:=fG P U n all hm is (put ρ d X) h K
@[go_sem↓] theorem Pz (all:List Oper) (hm:Heap) (is:List Nat) (K:Env→Heap→Prop) (d:Option Tmp) (X:AV):qt P U n all hm is K ρ d X h=fG P U n all hm is (put ρ d X) h K:=rfl
def Lp (P:Program) (U:TypeId→TI) (n:Nat) (all:List Oper) (hm:Heap) (is:List Nat) (K:Env→Heap→Prop) (ρ:Env) (d:Option Tmp) (X:AV) (h:Heap):Prop:=Sub hm h∧fG P U n all hm is (put ρ d X) h K
@[go_sem↓] theorem PA (all:List Oper) (hm:Heap) (is:List Nat) (K:Env→Heap→Prop) (d:Option Tmp) (X:AV):Lp P U n all hm is K ρ d X h=(Sub hm h∧fG P U n all hm is (put ρ d X) h K):=rfl
@[go_sem↓] theorem Tm (all:List Oper) (hm:Heap) (K:Env→Heap→Prop):fG P U n all hm [] ρ h K=K ρ h:=rfl
def lH (P:Program) (U:TypeId→TI) (n:Nat) (all:List Oper) (hm:Heap) (is:List Nat) (K:Env→Heap→Prop) (ρ:Env) (h:Heap) (o:Oper) (e:Bool):Prop:=match e with
 |true=>bg P U ρ h o (Lp P U n all hm is K ρ o.dst)
 |false=>pv U ρ hm o.op fun X=>fG P U n all hm is (put ρ o.dst X) h K
@[congr] theorem Lx {all:List Oper} {hm:Heap} {is:List Nat} {K:Env→Heap→Prop} {o:Oper} {e e' :Bool} (he:e=e'):lH P U n all hm is K ρ h o e=lH P U n all hm is K ρ h o e' :=by rw [he]
def iq (k:AV→Heap→Prop) (h:Heap) (x:AV) (_:Heap):Prop:=k x h
@[go_sem↓] theorem Nq (k:AV→Heap→Prop) (h h' :Heap) (x:AV):iq k h x h' =k x h:=rfl
@[go_sem↓] theorem Nc (all:List Oper) (hm:Heap) (is:List Nat) (K:Env→Heap→Prop) (op:Op):lH P U n all hm is K ρ h ⟨d,op,t,p,a,g⟩ true=bg P U ρ h ⟨d,op,t,p,a,g⟩ (Lp P U n all hm is K ρ d):=rfl
def notNil:Op→Bool
 | .binOp _ _ _ y _=> !CY y
 |_=>true
theorem J5 {hm:Heap} {op:Op} {k:AV→Heap→Prop} (h1:dI op=false) (h2:notNil op=true):bg P U ρ hm ⟨d,op,t,p,a,g⟩ (iq k h)=pv U ρ hm op fun X=>k X h:=by
 cases op with
 |call c=>
  obtain ⟨cal,args,ts⟩:=c;cases cal with
  |value q=>simp [dI] at h1
  |builtin b=>cases b<;>first|rfl|simp [dI] at h1
  |_=>rfl
 |binOp op ty x y ty' =>
  simp only [notNil,Bool.not_eq_true'] at h2;simp only [bg,h2];rfl
 |alloc=>simp [dI] at h1
 |box=>simp [dI] at h1
 |store=>simp [dI] at h1
 |makeSlice=>simp [dI] at h1
 |makeMap=>simp [dI] at h1
 |mapUpdate=>simp [dI] at h1
 |_=>rfl
theorem dK {all:List Oper} {hm:Heap} {is:List Nat} {K:Env→Heap→Prop} {op:Op} (h1:dI op=false) (h2:notNil op=true):
  lH P U n all hm is K ρ h ⟨d,op,t,p,a,g⟩ false=bg P U ρ hm ⟨d,op,t,p,a,g⟩ (iq (qt P U n all hm is K ρ d) h):=by
 rw [J5 h1 h2]; rfl
section
variable (all : List Oper) (hm : Heap) (is : List Nat) (K : Env → Heap → Prop) (x y z : Operand) (ty ty' : TypeId)
@[go_sem↓] theorem Na:lH P U n all hm is K ρ h ⟨d, .move x,t,p,a,g⟩ false=bg P U ρ hm ⟨d, .move x,t,p,a,g⟩ (iq (qt P U n all hm is K ρ d) h):=dK rfl rfl
@[go_sem↓] theorem Kx:lH P U n all hm is K ρ h ⟨d, .assign x,t,p,a,g⟩ false=bg P U ρ hm ⟨d, .assign x,t,p,a,g⟩ (iq (qt P U n all hm is K ρ d) h):=dK rfl rfl
@[go_sem↓] theorem I5:lH P U n all hm is K ρ h ⟨d, .nilCheck x,t,p,a,g⟩ false=bg P U ρ hm ⟨d, .nilCheck x,t,p,a,g⟩ (iq (qt P U n all hm is K ρ d) h):=dK rfl rfl
@[go_sem↓] theorem Jh (f:Nat):lH P U n all hm is K ρ h ⟨d, .extract x f,t,p,a,g⟩ false=bg P U ρ hm ⟨d, .extract x f,t,p,a,g⟩ (iq (qt P U n all hm is K ρ d) h):=dK rfl rfl
@[go_sem↓] theorem Gk (f:Nat):lH P U n all hm is K ρ h ⟨d, .fieldAddr ty x f,t,p,a,g⟩ false=bg P U ρ hm ⟨d, .fieldAddr ty x f,t,p,a,g⟩ (iq (qt P U n all hm is K ρ d) h):=dK rfl rfl
@[go_sem↓] theorem Gl:lH P U n all hm is K ρ h ⟨d, .indexAddr ty x y,t,p,a,g⟩ false=bg P U ρ hm ⟨d, .indexAddr ty x y,t,p,a,g⟩ (iq (qt P U n all hm is K ρ d) h):=dK rfl rfl
@[go_sem↓] theorem M8:lH P U n all hm is K ρ h ⟨d, .load ty x,t,p,a,g⟩ false=bg P U ρ hm ⟨d, .load ty x,t,p,a,g⟩ (iq (qt P U n all hm is K ρ d) h):=dK rfl rfl
@[go_sem↓] theorem Ly (lo hi mx:Option Operand):lH P U n all hm is K ρ h ⟨d, .slice ty x lo hi mx,t,p,a,g⟩ false=bg P U ρ hm ⟨d, .slice ty x lo hi mx,t,p,a,g⟩ (iq (qt P U n all hm is K ρ d) h):=dK rfl rfl
@[go_sem↓] theorem Ge (m:Nat) (ps:Array (Nat×Operand)):lH P U n all hm is K ρ h ⟨d, .buildSlice ty m ps,t,p,a,g⟩ false=bg P U ρ hm ⟨d, .buildSlice ty m ps,t,p,a,g⟩ (iq (qt P U n all hm is K ρ d) h):=dK rfl rfl
@[go_sem↓] theorem Lw (ps:Array (Nat×Operand)):lH P U n all hm is K ρ h ⟨d, .build ty ps,t,p,a,g⟩ false=bg P U ρ hm ⟨d, .build ty ps,t,p,a,g⟩ (iq (qt P U n all hm is K ρ d) h):=dK rfl rfl
@[go_sem↓] theorem N5 (aa:Array Operand) (ts:Array TypeId):lH P U n all hm is K ρ h ⟨d, .call ⟨.builtin .len,aa,ts⟩,t,p,a,g⟩ false=bg P U ρ hm ⟨d, .call ⟨.builtin .len,aa,ts⟩,t,p,a,g⟩ (iq (qt P U n all hm is K ρ d) h):=dK rfl rfl
@[go_sem↓] theorem Lv (op:BinOp) (w:Tmp):lH P U n all hm is K ρ h ⟨d, .binOp op ty x (.tmp w) ty',t,p,a,g⟩ false=bg P U ρ hm ⟨d, .binOp op ty x (.tmp w) ty',t,p,a,g⟩ (iq (qt P U n all hm is K ρ d) h):=dK rfl rfl
@[go_sem↓] theorem Jg (op:BinOp) (ik:IntKind) (im:Int):lH P U n all hm is K ρ h ⟨d, .binOp op ty x (.const (.int ik im)) ty',t,p,a,g⟩ false=bg P U ρ hm ⟨d, .binOp op ty x (.const (.int ik im)) ty',t,p,a,g⟩ (iq (qt P U n all hm is K ρ d) h):=dK rfl rfl
end
def Ln (P:Program) (U:TypeId→TI) (n:Nat) (all:List Oper) (hm:Heap) (is:List Nat) (ρ:Env) (h:Heap) (K:Env→Heap→Prop) (w:Bool) (o:Oper) (s:Nat) (x:AV):Prop:=
 gB s w ρ (fun ρ=>lH P U n all hm is K ρ h o (dI o.op)) (fun ρ=>fG P U n all hm is (put ρ o.dst (.v undef)) h K) x
section
variable {all : List Oper} {hm : Heap} {is : List Nat} {K : Env → Heap → Prop} {o : Oper} {s : Nat}
end
def ID (P:Program) (U:TypeId→TI) (n:Nat) (all:List Oper) (hm:Heap) (is:List Nat) (ρ:Env) (h:Heap) (K:Env→Heap→Prop) (o:Oper):Prop:=match o.guard with
 |none=>lH P U n all hm is K ρ h o (dI o.op)
 |some (gi,w)=>aI (ou all gi) fun s=>aI (lk ρ s) (Ln P U n all hm is ρ h K w o s)
@[go_sem↓] theorem MH (all:List Oper) (hm:Heap) (is:List Nat) (K:Env→Heap→Prop) (op:Op):ID P U n all hm is ρ h K ⟨d,op,t,p,a,none⟩=lH P U n all hm is K ρ h ⟨d,op,t,p,a,none⟩ (dI op):=rfl
@[go_sem↓] theorem Q3 (all:List Oper) (hm:Heap) (i:Nat) (is:List Nat) (K:Env→Heap→Prop):fG P U n all hm (i::is) ρ h K=aI all[i]? (ID P U n all hm is ρ h K):=by
 simp only [fG];cases all[i]? with
 |none=>rfl
 |some o=>
  simp only [fH,ID];have e:∀ρ',BV P U hm o ρ' h (fun X h' =>fG P U n all hm is (put ρ' o.dst X) h' K)=lH P U n all hm is K ρ' h o (dI o.op):=fun ρ' =>by
   unfold BV lH vcE;cases dI o.op<;>rfl
  cases hg:o.guard with
  |none=>simp only [fY]; exact e ρ
  |some gg=>
   obtain ⟨gi,w⟩:=gg;simp only;rw [mB];simp only [e];rfl
@[congr] theorem MY {f f' :FuncId} {a a' :List AV} {hm:Heap} {k:AV→Prop} (h0:f=f') (h1:a=a'):FnQ P f a hm k=FnQ P f' a' hm k:=by rw [h0,h1]
@[go_sem↓] theorem Tg (all:List Oper) (K:Env→Prop):nJ P U n all [] ρ h K=K ρ:=rfl
@[go_sem↓] theorem QX (all:List Oper) (op:Op) (os:List Oper) (K:Env→Prop):
  nJ P U n all (⟨d,op,t,p,a,none⟩::os) ρ h K=(dX n d=true∧lF P U ρ h ⟨d,op,t,p,a,none⟩ (KDr P U n all os h K ρ d)):=rfl
section
variable {all os : List Oper} {K : Env → Prop} {op : Op} {s : Nat}
end
def FnD (P:Program) (f:FuncId) (args:List AV) (h:Heap) (k:AV→Prop):Prop:=∃X,ak P f args h (fun x h' =>x=X∧h' =h)∧k X
@[congr] theorem MX {f f' :FuncId} {a a' :List AV} {h h' :Heap} (h0:f=f') (h1:a=a') (h2:h=h'):FnD P f a h k=FnD P f' a' h' k:=by rw [h0,h1,h2]
@[go_sem↓] theorem PX (q:Operand) (args:List Operand) (ts:Array TypeId):lF P U ρ h ⟨d, .call ⟨.value q,args.toArray,ts⟩,t,p,a,g⟩ k=aI (ev ρ q) fun y=>fnA y fun f cap=>aI (evs ρ args) fun ys=>FnD P f (ys++cap) h k:=by
 simp only [lF,bV,ig]
 congr 1
def opD (P:Program) (U:TypeId→TI) (ρ:Env) (h:Heap) (d:Option Tmp) (op:Op) (t:TypeId) (p:String) (a:Array Edge) (g:Option (Nat×Bool)) (k:AV→Prop):Prop:=bg P U ρ h ⟨d,op,t,p,a,g⟩ (Ch k)
@[go_sem↓] theorem Ri (op:Op):opD P U ρ h d op t p a g k=bg P U ρ h ⟨d,op,t,p,a,g⟩ (Ch k):=rfl
section
@[go_sem↓] theorem PZ (x:Operand):lF P U ρ h ⟨d, .move x,t,p,a,g⟩ k=opD P U ρ h d (.move x) t p a g k:=rfl
@[go_sem↓] theorem Nu (x:Operand):lF P U ρ h ⟨d, .assign x,t,p,a,g⟩ k=opD P U ρ h d (.assign x) t p a g k:=rfl
@[go_sem↓] theorem KG (x:Operand):lF P U ρ h ⟨d, .nilCheck x,t,p,a,g⟩ k=opD P U ρ h d (.nilCheck x) t p a g k:=rfl
theorem DF (op:BinOp) (ty ty' :TypeId) (x y:Operand) (hy:CY y=false):lF P U ρ h ⟨d, .binOp op ty x y ty',t,p,a,g⟩ k=opD P U ρ h d (.binOp op ty x y ty') t p a g k:=by
 simp only [lF,opD,bg,hy];rfl
@[go_sem↓] theorem Ok (op:BinOp) (ty ty' :TypeId) (x:Operand) (y:Tmp):lF P U ρ h ⟨d, .binOp op ty x (.tmp y) ty',t,p,a,g⟩ k=opD P U ρ h d (.binOp op ty x (.tmp y) ty') t p a g k:=DF _ _ _ _ _ rfl
@[go_sem↓] theorem LP (op:BinOp) (ty ty' :TypeId) (x:Operand) (ik:IntKind) (im:Int):lF P U ρ h ⟨d, .binOp op ty x (.const (.int ik im)) ty',t,p,a,g⟩ k=opD P U ρ h d (.binOp op ty x (.const (.int ik im)) ty') t p a g k:=DF _ _ _ _ _ rfl
@[go_sem↓] theorem LQ (s e:TypeId) (x:Operand):lF P U ρ h ⟨d, .convert s e x,t,p,a,g⟩ k=opD P U ρ h d (.convert s e x) t p a g k:=rfl
@[go_sem↓] theorem LR (x:Operand) (i:Nat):lF P U ρ h ⟨d, .extract x i,t,p,a,g⟩ k=opD P U ρ h d (.extract x i) t p a g k:=rfl
@[go_sem↓] theorem Om (ty:TypeId) (x i:Operand):lF P U ρ h ⟨d, .index ty x i,t,p,a,g⟩ k=opD P U ρ h d (.index ty x i) t p a g k:=rfl
@[go_sem↓] theorem Jv (ty:TypeId) (x:Operand) (f:Nat):lF P U ρ h ⟨d, .fieldAddr ty x f,t,p,a,g⟩ k=opD P U ρ h d (.fieldAddr ty x f) t p a g k:=rfl
@[go_sem↓] theorem Jw (ty:TypeId) (x i:Operand):lF P U ρ h ⟨d, .indexAddr ty x i,t,p,a,g⟩ k=opD P U ρ h d (.indexAddr ty x i) t p a g k:=rfl
@[go_sem↓] theorem PY (ty:TypeId) (x:Operand):lF P U ρ h ⟨d, .load ty x,t,p,a,g⟩ k=opD P U ρ h d (.load ty x) t p a g k:=rfl
@[go_sem↓] theorem I6 (ty:TypeId) (len:Nat) (parts:Array (Nat×Operand)):lF P U ρ h ⟨d, .buildSlice ty len parts,t,p,a,g⟩ k=opD P U ρ h d (.buildSlice ty len parts) t p a g k:=rfl
@[go_sem↓] theorem Ol (ty:TypeId) (parts:Array (Nat×Operand)):lF P U ρ h ⟨d, .build ty parts,t,p,a,g⟩ k=opD P U ρ h d (.build ty parts) t p a g k:=rfl
@[go_sem↓] theorem QW (x:Operand) (ty:TypeId):lF P U ρ h ⟨d, .call ⟨.builtin .len, #[x], #[ty]⟩,t,p,a,g⟩ k=opD P U ρ h d (.call ⟨.builtin .len, #[x], #[ty]⟩) t p a g k:=rfl
end
@[go_sem↓] theorem J9 (e:TypeId) (id off len cap sz:Nat) (f:List AV→Prop):jr U e h (.ob id off len cap sz) f=(sz=(U e).sz∧aI (h id) fun b=>oX b fun cs _=>∃ys:List AV,ys.length=len∧off+len*sz≤cs.length∧aq ys=(cs.drop off).take (len*sz)∧f ys):=by
 simp only [jr]
 congr 1
 cases h id with
 |none=>rfl
 |some b=>cases b<;>rfl
@[go_sem] theorem PW (xs:List AV) (q:Perm) (n:Nat):Ci (.sl xs q) n= .sl xs q:=rfl
@[go_sem] theorem PV (i o l c s n:Nat):Ci (.ob i o l c s) n= .ob i o (min l n) c s:=rfl
def cpK (U:TypeId→TI) (h:Heap) (x y:AV) (Q:AV→Heap→Prop) (tk:TK):Prop:=match tk,x with
 | .slice e, .oa id off len=>(U e).sz=1∧jr U e h y fun ys=>Sized 1 ys∧(∀z∈ys,bA z=false)∧aI (h id) fun b=>oX b fun cs t=>
   ys.length≤len∧off+len≤cs.length∧Q (.v (.int .i64 ys.length)) (upd h id (some (.obj (over cs off ys) t)))
 | .slice e, .ob id off len _ sz=>(U e).sz≠0∧sz=(U e).sz∧jr U e h (Ci y len) fun ys=>Sized (U e).sz ys∧aI (h id) fun b=>oX b fun cs t=>
   ys.length≤len∧off+len*(U e).sz≤cs.length∧Q (.v (.int .i64 ys.length)) (upd h id (some (.obj (over cs off (aq ys)) t)))
 |_,_=>False
@[go_sem↓] theorem QU (id off len cap sz:Nat) (y:AV) (e:TypeId):cpK U h (.ob id off len cap sz) y Q (.slice e)=((U e).sz≠0∧sz=(U e).sz∧jr U e h (Ci y len) fun ys=>Sized (U e).sz ys∧aI (h id) fun b=>oX b fun cs t=>
   ys.length≤len∧off+len*(U e).sz≤cs.length∧Q (.v (.int .i64 ys.length)) (upd h id (some (.obj (over cs off (aq ys)) t)))):=rfl
@[go_sem↓] theorem Ra (x y:Operand) (t1 t2:TypeId):bg P U ρ h ⟨d, .call ⟨.builtin .copy, #[x,y], #[t1,t2]⟩,t,p,a,g⟩ Q=aI (ev ρ x) fun u=>aI (ev ρ y) fun v=>atK (U t1).k (cpK U h u v Q):=by
 simp only [bg,bV,zM,atK]
 congr 1
 funext u
 congr 1
 funext v
 cases (U t1).k with
 |slice e=>
  cases u with
  |oa id off len=>
   refine congrArg (fun f=>(U e).sz=1∧jr U e h v f) (funext fun ys=> ?_)
   refine congrArg (fun q=>Sized 1 ys∧(∀z∈ys,bA z=false)∧q) ?_
   cases h id with
   |none=>rfl
   |some b=>cases b<;>rfl
  |ob id off len cap sz=>
   refine congrArg (fun f=>(U e).sz≠0∧sz=(U e).sz∧jr U e h (Ci v len) f) (funext fun ys=> ?_)
   refine congrArg (fun q=>Sized (U e).sz ys∧q) ?_
   cases h id with
   |none=>rfl
   |some b=>cases b<;>rfl
  |_=>simp [cpK]
 |_=>simp [cpK]
end
section
variable {P : Program} {U : TypeId → TI} {n : Nat} {ρ : Env} {h h' : Heap} {tb : TypeId} {y : AV} {l : List UInt8}
@[go_sem] theorem Ob (c:UInt8):cw c= .v (.int .u8 c.toNat):=rfl
@[go_sem] theorem Nd (m:Nat):Sized m []=True:=by simp [Sized]
@[go_sem] theorem Lz (m:Nat) (x:AV) (r:List AV):Sized m (x::r)=(x.cells.length=m∧Sized m r):=by simp [Sized]
theorem Sub.ai {id:Nat} {k:Option Blk} (hid:h id=Option.none):Sub h (Ab.upd h id k):=(Sub.refl h).new hid k
def Bytes (tb:TypeId) (h:Heap) (y:AV) (l:List UInt8):Prop:=
 (∃q,y= .sl (l.map cw) q)∨∃id off cs,y= .oa id off l.length∧h id=some (.obj cs tb)∧off+l.length≤cs.length∧(cs.drop off).take l.length=l.map cw
end
section
variable {P : Program} {U : TypeId → TI} {n : Nat} {ρ : Env} {h h' h2 : Heap} {e tb : TypeId} {y v : AV} {xs zs : List AV} {l : List UInt8} {Q : AV → Heap → Prop}
def lI (h h' :Heap):Prop:=∀j cs t,h j=some (.obj cs t)→h' j=some (.obj cs t)
theorem lI.refl (h:Heap):lI h h:=fun _ _ _ e=>e
theorem Sub.JN (hs:Sub h h'):lI h h' :=fun _ _ _ e=>hs _ _ e
def Acc (U:TypeId→TI) (e:TypeId) (h h' :Heap) (y:AV) (xs:List AV):Prop:=
 Sub h h'∧(y= .sl xs .full∨∃id,h id=none∧y= .sl xs (.own id)∧h' id=some (.spare xs.length (U e).sz))
theorem Acc.full (hs:Sub h h'):Acc U e h h' (.sl xs .full) xs:=⟨hs, .inl rfl⟩
theorem Acc.sub (ha:Acc U e h h' y xs) (hs:Sub h' h2):Acc U e h h2 y xs:=by
 obtain ⟨h1,rfl|⟨id,i1,rfl,i2⟩⟩:=ha
 ·exact ⟨h1.trans hs, .inl rfl⟩
 ·exact ⟨h1.trans hs, .inr ⟨id,i1,rfl,hs _ _ i2⟩⟩
theorem Acc.row (ha:Acc U e h h' y xs):∃q,y= .sl xs q:=by
 obtain ⟨h1,rfl|⟨id,i1,rfl,i2⟩⟩:=ha<;>exact ⟨_,rfl⟩
theorem Acc.weak (ha:Acc U e h h' y xs):Weak y (.sl xs .no):=by
 obtain ⟨q,rfl⟩:=ha.row; exact .sl _ _
theorem Acc.len (ha:Acc U e h h' y xs) (t:TypeId) (k:AV→Prop):xh y k (.slice t)=k (.v (.int .i64 xs.length)):=by
 obtain ⟨q,rfl⟩:=ha.row; rfl
theorem Acc.app (ha:Acc U e h h' y xs) (hz:(U e).sz≠0) (hb:(U e).bytes≠0) (hsrc:∀k:List AV→Prop,k zs→jr U e h' v k) (s1:Sized (U e).sz xs) (s2:Sized (U e).sz zs)
  (hlen:(xs.length+zs.length)*(U e).bytes≤140737488355328) (hk:∀y' h'',Acc U e h h'' y' (xs++zs)→lI h' h''→Q y' h''):apK U h' y v Q (.slice e):=by
 have keep:∀id,(h' id=none∨∃m,h' id=some (.spare m (U e).sz))→∀k,lI h' (upd h' id k):=fun id hid k j cs t hj=>by
  rw [ag _ _ fun e=> ?_]
  ·exact hj
  ·subst e
   rcases hid with hid|⟨m,hid⟩<;>rw [hid] at hj<;>cases hj
 obtain ⟨h1,rfl|⟨id,i1,rfl,i2⟩⟩:=ha
 ·refine (u5 ..).mpr ⟨hz,hb,hsrc _ ⟨s1,s2,hlen,fun hn=> ?_,fun hn=> .own fun id hid=> ?_⟩⟩
  ·subst hn
   have:=hk (.sl xs .full) h' (by rw [List.append_nil]; exact .full h1) (.refl _)
   exact this
  ·exact hk _ _ ⟨h1.new hid _, .inr ⟨id,h1.none hid,rfl,by rw [ah,VE]⟩⟩ (keep id (.inl hid) _)
 ·refine (Jn ..).mpr ⟨hz,hb,hsrc _ ⟨s1,s2,hlen,i2, ?_⟩⟩
  have hs2:Sub h (upd h' id (some (.spare (xs.length+zs.length) (U e).sz))):=by
   intro j k hj;rw [ag _ _ fun e=> ?_]
   ·exact h1 _ _ hj
   ·subst e; rw [i1] at hj; cases hj
  exact hk _ _ ⟨hs2, .inr ⟨id,i1,rfl,by rw [ah,VE]⟩⟩ (keep id (.inr ⟨_,i2⟩) _)
def Rows (tb:TypeId) (h:Heap) (ys:List AV) (ls:List (List UInt8)):Prop:=ys.length=ls.length∧∀i (h1:i<ys.length) (h2:i<ls.length),Bytes tb h ys[i] ls[i]
end
section
variable {P : Program}
def cO:Heap:=fun _=>none
def cx0 (w:World):Cx:=⟨w,fun _=>⟨0,0,none⟩,cO⟩
theorem OP (w:World):Good (cx0 w) where
 fin:=⟨0,fun _ _=>rfl⟩
 inj:=fun i j k l h=>by cases h
 obj:=fun id cs t h=>by cases h
 spare:=fun id n sz h=>by cases h
 mp:=fun id m h=>by cases h
 keys:=fun id m h=>by cases h
 ro:=fun id b vs h=>by cases h
theorem HX (w:World) (b o:Nat):¬owned (cx0 w) b o:=fun ⟨id,k,h,_⟩=>by cases h
theorem ak.calls {f:FuncId} {args:List AV} {b:Value} {vs:Array Value} {w:World} (hc:callable P f) (hf:ak P f args cO fun r _=>r= .v b) (hv:vs.size=args.length) (hr:∀i (hi:i<args.length),Rep (cx0 w) args[i] (vs.getD i undef)):
  Calls P f vs w fun e w' =>e= .returned b∧Go.RowKit.Below w.heap.size w w' :=by
 refine ((hf (cx0 w) vs (fun _ _ h=>by cases h) (OP w) hv hr).calls hc).mono ?_
 rintro e w' ⟨u,rfl,c',x,h',rfl,g',hE,hx,hs,rfl⟩
 rw [hx.bS];exact ⟨rfl,hE.os,hE.tape,hE.output,hE.size,fun k hk=>hE.block k hk fun o=>HX w k o⟩
end
section
variable {P : Program} {f : FuncId} {args : List AV} {h : Heap} {Q : AV → Heap → Prop} {X : AV}
theorem ak.pthen (hf:ak P f args h fun r h' =>r=X∧h' =h) (k:Q X h):ak P f args h Q:=
 hf.mono fun r h' ⟨e1,e2⟩=>by subst e1; subst e2; exact k
def KV (K:AV→Prop) (x:AV):Prop:=K x
@[congr] theorem N3 {K:AV→Prop} {x x' :AV} (e:x=x'):KV K x=KV K x' :=by rw [e]
@[go_sem] theorem Ru (K:AV→Prop) (x:AV):KV K x=K x:=rfl
section
variable {U : TypeId → TI} {ρ : Env} {K : AV → Prop}
@[go_sem↓high] theorem K9 (xs:List AV) (q:Perm) (lo:Operand) (e:TypeId):jo U ρ (.sl xs q) (some lo) none none K (.slice e)=((U e).sz≠0∧Sized (U e).sz xs∧aI (ev ρ lo) fun y=>Ho y fun a=>0≤a∧a≤xs.length∧KV K (.sl (xs.drop a.toNat) (Ag xs q true false))):=by
 rw [uf,jG];simp only [mK,Option.isSome_none,kG,KV]
 congr 2
 congr 1
 funext y
 congr 1
 funext a
 simp
end
attribute [go_sem] Int.toNat_natCast Int.toNat_zero
def iA (n:Int):AV:= .v (.int .i64 n)
theorem bu (n:Int) (h: -9223372036854775808≤n∧n≤9223372036854775807):IntKind.i64.wrap n=n:=IntWalk.i64_in _ (by omega)
theorem VG (n:Nat) (h:-9223372036854775808≤(n:Int)+1∧(n:Int)+1≤9223372036854775807):IntKind.i64.wrap ((n:Int)+1)=((n+1:Nat):Int):=by rw [bu _ h]; omega
theorem VH {a b:Nat} (h:decide ((a:Int)<(b:Int))=true):a<b:=Int.ofNat_lt.1 (_root_.of_decide_eq_true h)
end
section
variable {P : Program} {U : TypeId → TI}
inductive Dat (U:TypeId→TI):TypeId→AV→Prop
 |bool {t:TypeId} (b:Bool) (h:(U t).k= .bool):Dat U t (.v (.bool b))
 |int {t:TypeId} {k:IntKind} (n:Int) (h:(U t).k= .int k) (hw:(Lit.int k n).wf=true):Dat U t (.v (.int k n))
 |str {t:TypeId} (l:List UInt8) (h:(U t).k= .str) (hl:l.length≤maxLen):Dat U t (.s l)
 |slice {t e:TypeId} (xs:List AV) (h:(U t).k= .slice e) (hx:∀x∈xs,Dat U e x) (hl:xs.length≤maxLen):Dat U t (.sl xs .no)
 |strct {t:TypeId} {fs:List (Nat×TypeId)} (ys:List AV) (h:(U t).k= .strct fs) (hn:ys.length=fs.length) (hx:∀i (h1:i<fs.length) (h2:i<ys.length),Dat U fs[i].2 ys[i]):Dat U t (.agg (ys.map AV.cells).flatten)
theorem Dat.JH {t:TypeId} {x:AV} {k:IntKind} (h:Dat U t x) (hk:(U t).k= .int k):∃n,x= .v (.int k n)∧(Lit.int k n).wf=true:=by
 cases h with
 |int n h hw=>rw [hk] at h; cases h; exact ⟨n,rfl,hw⟩
 |_=>simp_all
theorem Rt {n:Int} (h:(Lit.int .i64 n).wf=true): -9223372036854775808≤n∧n≤9223372036854775807:=by
 simpa [Lit.wf,IntKind.min,IntKind.max,IntKind.signed,IntKind.bits] using h
theorem Dat.i64 {t:TypeId} {x:AV} (h:Dat U t x) (hk:(U t).k= .int .i64):∃n,x=iA n∧ -9223372036854775808≤n∧n≤9223372036854775807:=by
 obtain ⟨n,rfl,hw⟩:=h.JH hk;exact ⟨n,rfl,Rt hw⟩
def RL (c:Cx):List AV→List Value→Prop
 | [],vs=>vs= []
 |x::xs,[]=>False
 |x::xs,v::vs=>(Rep c x v∧v.oneCell' =true)∧RL c xs vs
theorem RL.len {c:Cx}:∀ {xs:List AV} {vs:List Value},RL c xs vs→xs.length=vs.length
 | [],vs,h=>by rw [h]; rfl
 |x::xs,[],h=>h.elim
 |x::xs,v::vs,h=>by simp [RL.len h.2]
theorem RL.get {c:Cx}:∀ {xs:List AV} {vs:List Value},RL c xs vs→∀i (h:i<xs.length),Rep c xs[i] (vs.getD i undef)∧(vs.getD i undef).oneCell' =true
 | [],vs,h,i,hi=>by cases hi
 |x::xs,[],h,i,hi=>h.elim
 |x::xs,v::vs,h,0,hi=>h.1
 |x::xs,v::vs,h,i+1,hi=>by simpa using RL.get h.2 i (by simpa using hi)
theorem RL.append {c:Cx}:∀ {xs ys:List AV} {vs us:List Value},RL c xs vs→RL c ys us→RL c (xs++ys) (vs++us)
 | [],ys,vs,us,h,k=>by rw [h]; exact k
 |x::xs,ys,[],us,h,k=>h.elim
 |x::xs,ys,v::vs,us,h,k=>⟨h.1,RL.append h.2 k⟩
theorem RL.one {c:Cx} {x:AV} {v:Value} (h:Rep c x v) (h1:v.oneCell' =true):RL c [x] [v]:=⟨⟨h,h1⟩,rfl⟩
def BP (U:TypeId→TI) (n:Nat):List (Nat×TypeId)→Nat→Bool
 | [],o=>o==n
 |f::fs,o=>f.1==o && BP U n fs (o+(U f.2).sz)
def C4 (U:TypeId→TI) (L:List TypeId):Bool:=L.all fun t=>(U t).sz !=0 && match (U t).k with
 | .bool| .int _| .str=>(U t).sz==1
 | .slice e=>(U t).sz==1 && L.contains e
 | .strct fs=>fs.all (fun f=>L.contains f.2) && BP U (U t).sz fs 0
 |_=>false
theorem qv (hU:∀t,aO P U t) {t:TypeId} (hz:(U t).sz≠0):P.cellsOf t=(U t).sz:=by
 obtain ⟨i,h1,h2,_⟩:=(hU t).info hz;simp [Program.cellsOf,h1,h2]
variable {H : Type} {enc : TypeId × Value → H} {w : World}
theorem H7 (hU:∀t,aO P U t) {L:List TypeId} {m:Nat} {sp:Nat→Bool} {held:Bool} (n:Nat) (cs:List Value) (hn:cs.length=n)
  (ih:∀(t:TypeId) (cs:List Value) r,t∈L→DataW.trod enc P w 0 sp held m t cs=some r→∃x,Dat U t x∧RL (cx0 w) x.cells cs) (hz:∀t∈L,(U t).sz≠0):
  ∀(fs:List (Nat×TypeId)) (gs:List Field) (o:Nat),gs.map (fun f=>(f.offset,f.type))=fs→(∀f∈fs,f.2∈L)→BP U n fs o=true→
   (∀f∈gs,∃r,DataW.trod enc P w 0 sp held m f.type ((cs.drop f.offset).take (P.cellsOf f.type))=some r)→
   ∃ys:List AV,ys.length=fs.length∧(∀i (h1:i<fs.length) (h2:i<ys.length),Dat U fs[i].2 ys[i])∧RL (cx0 w) (ys.map AV.cells).flatten (cs.drop o):=by
 intro fs
 induction fs with
 |nil=>
  intro gs o hg hL ht hr;refine ⟨[],rfl,fun i h1=>(by cases h1), ?_⟩
  have:o=n:=by simpa [BP] using ht
  show cs.drop o= []
  rw [this,←hn]; simp
 |cons f fs ihf=>
  intro gs o hg hL ht hr;cases gs with
  |nil=>cases hg
  |cons g gs=>
   simp only [List.map_cons,List.cons.injEq] at hg;obtain ⟨hg1,hg2⟩:=hg;simp only [BP,Bool.and_eq_true,beq_iff_eq] at ht;obtain ⟨ht1,ht2⟩:=ht;have hfL:=hL f (by simp)
   obtain ⟨ys,y1,y2,y3⟩:=ihf gs (o+(U f.2).sz) hg2 (fun f' hf' =>hL f' (by simp [hf'])) ht2 (fun g' hg' =>hr g' (by simp [hg']))
   obtain ⟨r,hr0⟩:=hr g (by simp)
   have e1:g.type=f.2:=by rw [←hg1]
   have e2:g.offset=o:=by rw [←ht1,←hg1]
   rw [e1,e2,qv hU (hz _ hfL)] at hr0;obtain ⟨x,x1,x2⟩:=ih _ _ _ hfL hr0;refine ⟨x::ys,by simp [y1],fun i h1 h2=> ?_, ?_⟩
   ·cases i with
    |zero=>exact x1
    |succ i=>exact y2 i (by simpa using h1) (by simpa using h2)
   ·have:cs.drop o=(cs.drop o).take (U f.2).sz++cs.drop (o+(U f.2).sz):=by
     rw [←List.drop_drop,List.take_append_drop]
    rw [this];exact x2.append y3
theorem Am (hU:∀t,aO P U t) (L:List TypeId) (hL:C4 U L=true) {sp:Nat→Bool} {held:Bool} (hsp:∀b,sp b=true):
  ∀(fuel:Nat) (t:TypeId) (cs:List Value) (r:DataW H×List MemPlace),t∈L→DataW.trod enc P w 0 sp held fuel t cs=some r→∃x,Dat U t x∧RL (cx0 w) x.cells cs:=by
 have hall:∀t∈L,(U t).sz≠0:=fun t ht=>by
  have:=List.all_eq_true.1 hL t ht;simp only [Bool.and_eq_true,bne_iff_ne] at this;exact this.1
 intro fuel
 induction fuel with
 |zero=>intro t cs r _ h; simp [DataW.trod] at h
 |succ m ih=>
  intro t cs r ht h;have hp:=List.all_eq_true.1 hL t ht;simp only [Bool.and_eq_true,bne_iff_ne] at hp;obtain ⟨hz,hp⟩:=hp;have hd:=(hU t).desc;unfold DataW.trod at h;cases hk:(U t).k with
  |bool=>
   rw [hk] at hd;simp only at hd;rw [hd] at h;split at h<;>simp_all
   rename_i b
   exact ⟨_, .bool b hk, .one (.v _) rfl⟩
  |int k=>
   rw [hk] at hd;simp only at hd;rw [hd] at h;split at h<;>simp_all
   obtain ⟨⟨rfl,hw⟩,_⟩:=h;exact ⟨_, .int _ hk hw, .one (.v _) rfl⟩
  |str=>
   rw [hk] at hd;simp only at hd;rw [hd] at h;split at h<;>simp_all
   rename_i s
   refine ⟨_, .str s.data.toList hk (by simpa using h.1), .one ?_ rfl⟩
   have:=Rep.s (c:=cx0 w) s.data.toList (by have:=h.1; unfold maxLen at this; simp only [lim]; simp; omega)
   simpa using this
  |slice e=>
   rw [hk] at hd hp;simp only at hd;simp only [Bool.and_eq_true] at hp;have he:e∈L:=by simpa using hp.2
   have hez:=hall e he;rw [hd] at h;split at h<;>try (simp_all; done)
   ·rename_i e' heq
    refine ⟨_, .slice [] hk (fun x hx=>by cases hx) (by simp), .one ?_ rfl⟩
    exact .sl [] .no none 0 0 (fun _ _=>undef) (Nat.le_refl _) (by decide) (fun _=>rfl) (fun q h _=>by cases h) (fun i h=>by cases h) (fun q h=>by cases h) (fun i h=>by cases h) (fun i j h=>by cases h) trivial
   ·rename_i e' a len cap heq
    obtain rfl:e=e' :=by simpa using heq
    split at h
    ·rename_i hc
     obtain ⟨hc1,hc2,hc3⟩:=hc;simp only [hsp,if_true] at h;obtain ⟨els,hels,h⟩:=Option.bind_eq_some_iff.1 h;obtain ⟨⟨rst,hrst,_⟩⟩:Nonempty {rst // (List.range (cap - len)).mapM (fun j=>((w.cells? 0 (a.add ((len+j)*P.cellsOf e)) (P.cellsOf e)).bind (DataW.trod enc P w 0 sp held m e)))=some rst∧True}:=by
      cases hq:(List.range (cap - len)).mapM (fun j=>((w.cells? 0 (a.add ((len+j)*P.cellsOf e)) (P.cellsOf e)).bind (DataW.trod enc P w 0 sp held m e))) with
      |none=>rw [hq] at h; simp at h
      |some rst=>exact ⟨⟨rst,rfl,trivial⟩⟩
     rw [qv hU hez] at hels hrst;have cell:∀j,j<(U e).sz→∀(b:Addr) vs,w.cells? 0 b (U e).sz=some vs→w.cell? (b.add j)=vs[j]?∧vs.length=(U e).sz:=fun j hj b vs hb=>by
      simp only [World.cells?,Nat.zero_le,if_true] at hb;have:=mapM_some_get hb j j (by simp [hj])
      exact ⟨this,by simpa using mapM_some_length hb⟩
     have el:∀i,i<len→∃vs x,w.cells? 0 (a.add (i*(U e).sz)) (U e).sz=some vs∧Dat U e x∧RL (cx0 w) x.cells vs:=fun i hi=>by
      have:=mapM_some_get hels i i (by simp [hi])
      have hi2:i<els.length:=by have:=mapM_some_length hels; simp at this; omega
      rw [List.getElem?_eq_getElem hi2] at this;obtain ⟨vs,v1,v2⟩:=Option.bind_eq_some_iff.1 this;obtain ⟨x,x1,x2⟩:=ih _ _ _ he v2;exact ⟨vs,x,v1,x1,x2⟩
     have hspot:0<cap→a.spot=none∧a.block<w.heap.size:=fun hcap=>by
      have:∃b vs,w.cells? 0 b (U e).sz=some vs∧b.spot=a.spot∧b.block=a.block:=by
       by_cases hl:0<len
       ·obtain ⟨vs,x,v1,_⟩:=el 0 hl
        have a0:a.add (0*(U e).sz)=a:=by simp [Addr.add]
        exact ⟨_,vs,v1,by rw [a0],by rw [a0]⟩
       ·have:=mapM_some_get hrst 0 0 (by rw [List.getElem?_eq_getElem (by simp; omega)]; simp)
        have hi2:0<rst.length:=by have:=mapM_some_length hrst; simp at this; omega
        rw [List.getElem?_eq_getElem hi2] at this;obtain ⟨vs,v1,v2⟩:=Option.bind_eq_some_iff.1 this;have a0:a.add ((len+0)*(U e).sz)=a:=by
         obtain rfl:len=0:=by omega
         simp [Addr.add]
        exact ⟨_,vs,v1,by rw [a0],by rw [a0]⟩
      obtain ⟨b,vs,b1,b2,b3⟩:=this;obtain ⟨c1,c2⟩:=cell 0 (by omega) b vs b1
      rw [List.getElem?_eq_getElem (by omega)] at c1
      rw [←b2,←b3];unfold World.cell? at c1;split at c1
      ·rename_i hh
       split at c1
       ·cases c1
       ·rename_i hs
        refine ⟨?_, ?_⟩
        ·have:(b.add 0).spot=b.spot:=by simp [Addr.add]
         rw [this] at hs;cases hb:b.spot with
         |none=>rfl
         |some z=>rw [hb] at hs; simp at hs
        ·exact (Array.getElem?_eq_some_iff.1 hh).1
      ·cases c1
     have:∀n,n≤len→∃xs:List AV,xs.length=n∧∀i (hi:i<xs.length),Dat U e xs[i]∧∃vs,w.cells? 0 (a.add (i*(U e).sz)) (U e).sz=some vs∧RL (cx0 w) xs[i].cells vs:=by
      intro n
      induction n with
      |zero=>exact fun _=>⟨[],rfl,fun i hi=>by cases hi⟩
      |succ n ihn=>
       intro hn;obtain ⟨xs,e1,e2⟩:=ihn (by omega)
       obtain ⟨vs,x,v1,v2,v3⟩:=el n (by omega)
       refine ⟨xs++ [x],by simp [e1],fun i hi=> ?_⟩
       by_cases hi' :i<xs.length
       ·rw [List.getElem_append_left hi']
        exact e2 i hi'
       ·have:i=n:=by simp at hi; omega
        subst this;rw [List.getElem_append_right (by omega)]
        simp only [e1,Nat.sub_self,List.getElem_singleton];exact ⟨v2,vs,v1,v3⟩
     obtain ⟨xs,e1,e2⟩:=this len (Nat.le_refl _);subst e1;refine ⟨.sl xs .no, .slice xs hk (fun x hx=> ?_) (by omega), .one ?_ rfl⟩
     ·obtain ⟨i,hi,rfl⟩:=List.mem_iff_getElem.1 hx
      exact (e2 i hi).1
     ·refine .sl xs .no (some a) cap (U e).sz (fun i j=>((w.cells? 0 (a.add (i*(U e).sz)) (U e).sz).getD []).getD j undef) hc2 (by unfold maxLen at hc3; simp only [lim]; omega) (fun hh=>by cases hh) (fun q hq hcap=>by cases hq; exact hspot hcap)
       (fun i hi=> ?_) (fun q hq i j hi hj=> ?_) (fun i hi j hj=> ?_) (fun i j hi hj=> ?_) trivial
      ·obtain ⟨_,vs,v1,v2⟩:=e2 i hi
       rw [v2.len]; exact (cell 0 (by omega) _ _ v1).2
      ·cases hq
       obtain ⟨_,vs,v1,v2⟩:=e2 i hi;refine ⟨?_,HX w _ _⟩;obtain ⟨c1,c2⟩:=cell j hj _ _ v1;rw [v1];obtain ⟨hs1,_⟩:=hspot (by omega)
       obtain ⟨ab,ao,az⟩:=a;simp only at hs1; subst hs1
       rw [cC,cC] at c1;simp only [Option.getD_some];have hj2:j<vs.length:=by omega
       rw [show vs.getD j undef=vs[j] by simp [hj2]]
       rw [List.getElem?_eq_getElem hj2,Nat.add_assoc] at c1;exact c1
      ·obtain ⟨_,vs,v1,v2⟩:=e2 i hi
       rw [v1];exact (v2.get j hj).1
      ·obtain ⟨_,vs,v1,v2⟩:=e2 i hi
       rw [v1];have:=(cell 0 (by omega) _ _ v1).2
       exact (v2.get j (by rw [v2.len]; omega)).2
    ·cases h
  |strct fs=>
   rw [hk] at hd hp;simp only at hd;simp only [Bool.and_eq_true] at hp;obtain ⟨gs,hd,hg,_⟩:=hd;rw [hd] at h;have hq:cs.length=P.cellsOf t∧∃xs,(gs.toList.mapM fun f=>DataW.trod enc P w 0 sp held m f.type ((cs.drop f.offset).take (P.cellsOf f.type)))=some xs:=by
    split at h<;>try (simp_all; done)
    rename_i fs' heq
    obtain rfl:gs=fs' :=by simpa using heq
    split at h
    ·rename_i hl
     obtain ⟨xs,h1,_⟩:=Option.map_eq_some_iff.1 h;exact ⟨hl,xs,h1⟩
    ·cases h
   obtain ⟨hl,xs,hxs⟩:=hq;rw [qv hU hz] at hl;obtain ⟨ys,y1,y2,y3⟩:=H7 hU (U t).sz cs hl ih hall fs gs.toList 0 hg (fun f hf=>by have:=List.all_eq_true.1 hp.1 f hf; simpa using this) hp.2 (fun f hf=>by
    obtain ⟨i,hi,rfl⟩:=List.mem_iff_getElem.1 hf;have hi2:i<xs.length:=by have:=mapM_some_length hxs; omega
    have:=mapM_some_get hxs i _ (List.getElem?_eq_getElem hi);rw [List.getElem?_eq_getElem hi2] at this;exact ⟨_,this⟩)
   exact ⟨_, .strct ys hk y1 y2,y3⟩
  |_=>rw [hk] at hp; simp at hp
theorem mR (hU:∀t,aO P U t) (L:List TypeId) (hL:C4 U L=true) {sp:Nat→Bool} {held:Bool} (hsp:∀b,sp b=true) {t:TypeId} {v:Value} {d:DataW H} {p:List MemPlace} (ht:t∈L) {base:Nat} {rc:Reach}
  (hv:Value.okWide P w rc base t v) (h:DataW.Trod enc P w 0 sp held t v d p):∃x,Dat U t x∧Rep (cx0 w) x v:=by
 obtain ⟨fuel,h⟩:=h;obtain ⟨x,x1,x2⟩:=Am hU L hL hsp fuel t _ _ ht h;refine ⟨x,x1, ?_⟩;have hd:=(hU t).desc;cases x1 with
 |strct ys hk hn hx=>
  rw [hk] at hd;obtain ⟨gs,hd,_⟩:=hd;unfold Value.okWide at hv;rw [hd] at hv;obtain ⟨cs,rfl,_⟩:=hv;have hl:=x2.len;simp only [AV.cells,Value.cells] at hl x2;refine .agg _ _ (by simpa using hl.symm) (fun i hi=> ?_) (fun i hi=> ?_)
  ·have:=(x2.get i hi).1
   simpa using this
  ·have:=(x2.get i hi).2
   simpa using this
 |bool b hk=>
  cases v<;>first|exact x2.1.1|skip
  rename_i cs
  rw [hk] at hd;unfold Value.okWide at hv;rw [hd] at hv;simp [Cell.okWide,Cell.ok,hd] at hv
 |int n hk hw=>
  cases v<;>first|exact x2.1.1|skip
  rename_i cs
  rw [hk] at hd;unfold Value.okWide at hv;rw [hd] at hv;simp [Cell.okWide,Cell.ok,hd] at hv
 |str l hk hl=>
  cases v<;>first|exact x2.1.1|skip
  rename_i cs
  rw [hk] at hd;unfold Value.okWide at hv;rw [hd] at hv;simp [Cell.okWide,Cell.ok,hd] at hv
 |slice xs hk hx hl=>
  cases v<;>first|exact x2.1.1|skip
  rename_i cs
  rw [hk] at hd;unfold Value.okWide at hv;rw [hd] at hv;simp [Cell.okWide,Cell.ok,hd] at hv
end
section
variable {P : Program} {U : TypeId → TI} {n : Nat} {ρ : Env} {h h' h2 : Heap} {e tb : TypeId} {y v : AV} {xs zs : List AV} {l : List UInt8} {Q : AV → Heap → Prop}
def hm1 (id:Nat) (k:Blk):Heap:=upd (fun _=>none) id (some k)
@[go_sem] theorem fP (id:Nat) (k:Blk):hm1 id k id=some k:=ah ..
theorem Sub.hm1 {id:Nat} {k:Blk} (h1:h id=some k):Sub (hm1 id k) h:=fun j b hj=>by
 unfold Ab.hm1 at hj
 by_cases e:j=id
 ·subst e; rw [ah] at hj; rw [h1,hj]
 ·rw [ag _ _ e] at hj; cases hj
theorem lI.new {id:Nat} {k:Option Blk} (hid:h id=none):lI h (upd h id k):=((Sub.refl h).new hid k).JN
theorem nM.accs {h0:Heap} (hs:Sub h0 h) (hk:∀y' h'',Acc U e h0 h'' y' (xs++zs)→lI h h''→Q y' h''):nM U h xs zs e Q:=
 .own fun id hid=>hk _ _ ⟨hs.new hid _, .inr ⟨id,hs.none hid,rfl,by rw [ah,VE]⟩⟩ (.new hid)
end
section
variable {P : Program} {U : TypeId → TI} {n : Nat} {ρ : Env} {h h' : Heap} {tb : TypeId} {y : AV} {l : List UInt8}
end
theorem w8 (n:Nat):IntKind.u8.wrap (n:Int)=(UInt8.ofNat n).toNat:=by
 rw [UInt8.toNat_ofNat'];simp [IntKind.wrap,IntKind.signed,IntKind.bits]
section
variable {U : TypeId → TI} {ty : TypeId} {K : AV → Prop}
end
section
variable {P : Program} {U : TypeId → TI} {n : Nat} {ρ : Env} {h0 h h' : Heap} {tb : TypeId} {y v : AV} {l m : List UInt8} {Q : AV → Heap → Prop}
end
section
variable {U : TypeId → TI} {ty : TypeId} {K : AV → Prop}
end
section
variable {P : Program} {U : TypeId → TI} {n : Nat} {ρ : Env} {h : Heap}
section
variable (all : List Oper) (bs : List Bool) (r : List Oper) (K : Env → Heap → Prop)
end
theorem ak.of_wp {f:FuncId} {fn:Func} {c:Code} {args:List AV} {Q:AV→Heap→Prop} (hU:∀t,aO P U t) (hf:P.funcs[f]? =some fn) (hb:fn.body=some c)
  (hn : (fn.name == "runtime.NumGoroutine") = false) (m : Nat) (hm' : fn.ntmps = m) (rs : List ResultVar) (hr : fn.results.toList = rs) (hl : args.length ≤ m)
  (hk:WP P m c (vl args) h (tv U rs Q)):ak P f args h Q:=by
 subst hm'; subst hr
 exact ak.HQ hU hf hb hn hl fun _=>hk
end
section
variable {P : Program} {U : TypeId → TI} {n : Nat} {ρ : Env} {h : Heap}
def KCut (I:Env→Heap→Prop) (K:Exit→Env→Heap→Prop):Exit→Env→Heap→Prop:=KSeq I K
theorem WP.cut {c d:Code} {K:Exit→Env→Heap→Prop} (I:Env→Heap→Prop) (hc:WP P n c ρ h (KCut I K)) (hd:∀ρ h,I ρ h→WP P n d ρ h K):WP P n (.seq c d) ρ h K:=
 WP.seq (hc.weaken fun e ρ h hk=>by
  cases e with
  |normal=>exact hd ρ h hk
  |_=>exact hk)
theorem WP.vc (hU:∀t,aO P U t) (hm:P.follows .mixedOrders=true) {c:Code} {K:Exit→Env→Heap→Prop} (hk:bG P U n c ρ h K):WP P n c ρ h K:=dc hU hm c ρ h K hk
def KNext (P:Program) (n:Nat) (d:Code) (K:Exit→Env→Heap→Prop):Exit→Env→Heap→Prop:=KSeq (WP P n d · · K) K
@[go_sem↓] theorem Je (d:Code) (K:Exit→Env→Heap→Prop):KNext P n d K .normal ρ h=WP P n d ρ h K:=rfl
@[go_sem↓] theorem M5 (d:Code) (K:Exit→Env→Heap→Prop):KNext P n d K .ret ρ h=K .ret ρ h:=rfl
@[go_sem↓] theorem Lr (d:Code) (K:Exit→Env→Heap→Prop) (i:Nat):KNext P n d K (.goto i) ρ h=K (.goto i) ρ h:=rfl
theorem WP.one (hU:∀t,aO P U t) (hm:P.follows .mixedOrders=true) {c d:Code} {K:Exit→Env→Heap→Prop} (hk:bG P U n c ρ h (KNext P n d K)):WP P n (.seq c d) ρ h K:=WP.seq (dc hU hm c ρ h _ hk)
end
section
variable {P : Program} {U : TypeId → TI} {n : Nat} {ρ : Env} {h : Heap}
variable {d : Option Tmp} {t : TypeId} {p : String} {a : Array Edge} {g : Option (Nat × Bool)} {Q : AV → Heap → Prop} {k : AV → Prop}
@[go_sem] theorem PL (x y:TypeId) (k:TK→Prop):atK (.map x y) k=k (.map x y):=rfl
@[go_sem] theorem Oh (i:Nat):AV.cells (.mp i)= [.mp i]:=rfl
@[go_sem] theorem Q0 (i m:Nat):fit (.mp i) m=(m=1):=rfl
@[go_sem] theorem Qi (l:List UInt8):gm .str (.s l)=(l.length≤maxLen):=rfl
def mpL (b:Blk) (f:List (AV×AV)→Prop):Prop:=match b with
 | .mp m=>f m
 |_=>False
@[congr] theorem NK {b b' :Blk} {f:List (AV×AV)→Prop} (e:b=b'):mpL b f=mpL b' f:=by rw [e]
@[go_sem↓] theorem Q8 (m:List (AV×AV)) (f:List (AV×AV)→Prop):mpL (.mp m) f=f m:=rfl
def xI (tk:TK) (m:List (AV×AV)):Prop:=∀p∈m,gm tk p.1
def Gm (ti:TI):Prop:=ti.sz≠0∨ti.k= .strct []
def A4 (U:TypeId→TI) (h:Heap) (u v:AV) (ok:Bool) (k:AV→Prop) (tk:TK):Prop:=match tk,u with
 | .map kt e, .mp id=>gm (U kt).k v∧Gm (U e)∧aI (h id) fun b=>mpL b fun m=>xI (U kt).k m∧k (vR U e m v ok)
 |_,_=>False
@[congr] theorem KQ {u u' v v' :AV} {ok:Bool} {k:AV→Prop} {tk:TK} (h1:u=u') (h2:v=v'):A4 U h u v ok k tk=A4 U h u' v' ok k tk:=by rw [h1,h2]
@[go_sem↓] theorem O1 (kt e:TypeId) (id:Nat) (v:AV) (ok:Bool):A4 U h (.mp id) v ok k (.map kt e)=(gm (U kt).k v∧Gm (U e)∧aI (h id) fun b=>mpL b fun m=>xI (U kt).k m∧k (vR U e m v ok)):=rfl
@[go_sem↓] theorem Pa (mt:TypeId) (x y:Operand) (ok:Bool):bg P U ρ h ⟨d, .lookup mt x y ok,t,p,a,g⟩ Q=aI (ev ρ x) fun u=>aI (ev ρ y) fun v=>atK (U mt).k (A4 U h u v ok (atH Q h)):=by
 simp only [bg,pv,bV,atK]
 congr 1
 funext u
 congr 1
 funext v
 cases (U mt).k with
 |map kt e=>
  cases u with
  |mp id=>
   simp only [A4]
   congr 2
   cases h id with
   |none=>rfl
   |some b=>cases b<;>rfl
  |_=>rfl
 |_=>rfl
def Ik (U:TypeId→TI) (h:Heap) (u v w:AV) (Q:AV→Heap→Prop) (tk:TK):Prop:=match tk,u with
 | .map kt e, .mp id=>gm (U kt).k v∧aI (h id) fun b=>mpL b fun m=>xI (U kt).k m∧Q (.v undef) (upd h id (some (.mp (xw m v w))))
 |_,_=>False
@[congr] theorem My {u u' v v' w w' :AV} {tk:TK} (h1:u=u') (h2:v=v') (h3:w=w'):Ik U h u v w Q tk=Ik U h u' v' w' Q tk:=by rw [h1,h2,h3]
@[go_sem↓] theorem Qv (kt e:TypeId) (id:Nat) (v w:AV):Ik U h (.mp id) v w Q (.map kt e)=(gm (U kt).k v∧aI (h id) fun b=>mpL b fun m=>xI (U kt).k m∧Q (.v undef) (upd h id (some (.mp (xw m v w))))):=rfl
@[go_sem↓] theorem KX (mt:TypeId) (x y z:Operand):bg P U ρ h ⟨d, .mapUpdate mt x y z,t,p,a,g⟩ Q=aI (ev ρ x) fun u=>aI (ev ρ y) fun v=>aI (ev ρ z) fun w=>atK (U mt).k (Ik U h u v w Q):=by
 simp only [bg,bV,atK]
 congr 1
 funext u
 congr 1
 funext v
 congr 1
 funext w
 cases (U mt).k with
 |map kt e=>
  cases u with
  |mp id=>
   simp only [Ik]
   congr 1
   cases h id with
   |none=>rfl
   |some b=>cases b<;>rfl
  |_=>rfl
 |_=>rfl
def N4 (h:Heap) (Q:AV→Heap→Prop):Prop:=∀id,h id=none→Q (.mp id) (upd h id (some (.mp [])))
@[go_sem↓] theorem NU (mt:TypeId):bg P U ρ h ⟨d, .makeMap mt none,t,p,a,g⟩ Q=N4 h Q:=by
 simp only [bg,Ee,true_and]; rfl
end
def xu (ls:List (List UInt8)):List (AV×AV):=ls.map fun l=>(.s l, .agg [])
theorem AI (ls:List (List UInt8)) (l:List UInt8):getM (xu ls) (.s l)=if l∈ls then some (.agg []) else none:=by
 induction ls with
 |nil=>rfl
 |cons x ls ih=>
  simp only [getM,xu,List.map_cons,List.find?_cons,pY] at ih⊢
  by_cases e:x=l
  ·subst e; simp
  ·have:(x==l)=false:=by simpa using e
   rw [this];simp only;rw [ih];simp [Ne.symm e]
theorem IC {ls:List (List UInt8)} {l:List UInt8} (hn:l∉ls):xw (xu ls) (.s l) (.agg [])=xu (ls++ [l]):=by
 unfold xw;rw [AI,if_neg hn];simp [xu]
theorem Fq (U:TypeId→TI) (e:TypeId) (he:(U e).sz=0) (ls:List (List UInt8)) (l:List UInt8):vR U e (xu ls) (.s l) true= .tup [.agg [], .v (.bool (decide (l∈ls)))]:=by
 simp only [vR,AI,yS,he,if_true]
 by_cases h:l∈ls
 ·simp [h]
 ·simp [h]
theorem Fm {ls:List (List UInt8)} (h:∀l∈ls,l.length≤maxLen):xI .str (xu ls):=fun p hp=>by
 obtain ⟨l,hl,rfl⟩:=List.mem_map.1 hp;exact h l hl
section
variable {P : Program} {f : FuncId} {args : List AV} {h h' : Heap} {Q : AV → Heap → Prop}
theorem Ext.below {c:Cx} {w' :World} (hb:Go.RowKit.Below c.w.heap.size c.w w'):Ext c {c with w:=w'} where
 os:=hb.os
 tape:=hb.tape
 output:=hb.output
 size:=hb.size
 block:=fun b h _=>hb.block b h
 cell:=fun b o h _=>by
  show w'.cell? _=_
  simp only [World.cell?,hb.block b h]
 shape:=fun b cs t fr h=>⟨cs,fr,(hb.block b (cg h)).trans h,rfl⟩
 steal:=fun _ _ _ h=>h
 obj:=fun _ cs _ h=>⟨rfl,cs,h,rfl⟩
 spare:=fun _ n _ h=>⟨n,h, .inl ⟨rfl,rfl⟩⟩
 mp:=fun _ m h=>⟨rfl,m,h⟩
 ro:=fun _ _ _ h=>⟨rfl,h⟩
theorem Good.below {c:Cx} (g:Good c) {w' :World} (hb:Go.RowKit.Below c.w.heap.size c.w w'):Good {c with w:=w'} where
 fin:=g.fin
 inj:=g.inj
 obj:=fun id cs t h=>by
  obtain ⟨vs,a1,a2,a3⟩:=g.obj id cs t h;exact ⟨vs,(hb.block _ (cg a1)).trans a1,a2,fun j hj=>⟨(a3 j hj).1.mono (.below hb),(a3 j hj).2⟩⟩
 spare:=fun id n sz h=>by
  obtain ⟨a0,vs,t,fr,a1,a2⟩:=g.spare id n sz h;exact ⟨a0,vs,t,fr,(hb.block _ (cg a1)).trans a1,a2⟩
 mp:=fun id m h=>by
  obtain ⟨es,cl,a1,a2,a3⟩:=g.mp id m h;exact ⟨es,cl,(hb.block _ (cg a1)).trans a1,a2,fun i hi hi' =>⟨(a3 i hi hi').1,(a3 i hi hi').2.mono (.below hb)⟩⟩
 keys:=g.keys
 ro:=fun id b vs h=>g.lV (.below hb) h
theorem ak.lib {X:AV} (hc:callable P f) (hf:∀c (vs:Array Value),Sub h c.h→Good c→vs.size=args.length→(∀i (hi:i<args.length),Rep c args[i] (vs.getD i undef))→
  Calls P f vs c.w fun e w' =>(∃u,e= .returned u∧∀c',Ext c c'→Rep c' X u)∧Go.RowKit.Below c.w.heap.size c.w w'):ak P f args h fun r h' =>r=X∧h' =h:=by
 refine fun c vs hs g h1 h2=> .inl ⟨hc,(hf c vs hs g h1 h2).mono ?_⟩
 rintro e w' ⟨⟨u,rfl,hu⟩,hb⟩
 exact ⟨u,rfl,{c with w:=w'},X,h,rfl,g.below hb, .below hb,hu _ (.below hb),hs,rfl,rfl⟩
def Tab (h:Heap) (b:Nat) (vs:List Value):Prop:=∃id,h id=some (.ro b vs)
theorem Tab.sub {b:Nat} {vs:List Value} (ht:Tab h b vs) (hs:Sub h h'):Tab h' b vs:=let ⟨id,hi⟩:=ht; ⟨id,hs _ _ hi⟩
end
def uC (ts:List (Nat×List Value)):Heap:=fun i=>(ts[i]?).map fun p=> .ro p.1 p.2
def cxT (w:World) (ts:List (Nat×List Value)):Cx:=⟨w,fun i=>⟨((ts[i]?).map (·.1)).getD 0,0,none⟩,uC ts⟩
theorem HY (w:World) (ts:List (Nat×List Value)) (b o:Nat):¬owned (cxT w ts) b o:=by
 rintro ⟨id,k,h,_,h3⟩
 simp only [cxT,uC,Option.map_eq_some_iff] at h;obtain ⟨p,_,rfl⟩:=h;exact h3
theorem OQ (w:World) (ts:List (Nat×List Value)) (hd:ts.Pairwise fun p q=>p.1≠q.1) (ht:∀p∈ts,∃(t:TypeId) (fr:Nat×Nat),w.heap[p.1]? =some (.cells p.2.toArray t fr)):Good (cxT w ts) where
 fin:=⟨ts.length,fun id h=>by simp [cxT,uC,List.getElem?_eq_none h]⟩
 inj:=fun i j k l h1 h2 hne=>by
  simp only [cxT,uC,Option.map_eq_some_iff] at h1 h2;obtain ⟨p,hp,rfl⟩:=h1;obtain ⟨q,hq,rfl⟩:=h2;simp only [cxT,hp,hq,Option.map_some,Option.getD_some];obtain ⟨hi,rfl⟩:=List.getElem?_eq_some_iff.1 hp;obtain ⟨hj,rfl⟩:=List.getElem?_eq_some_iff.1 hq;rw [List.pairwise_iff_getElem] at hd;rcases Nat.lt_or_gt_of_ne hne with h|h
  ·exact hd i j hi hj h
  ·exact fun e=>hd j i hj hi h e.symm
 obj:=fun id cs t h=>by
  simp only [cxT,uC,Option.map_eq_some_iff] at h;obtain ⟨p,_,h⟩:=h; cases h
 spare:=fun id n sz h=>by
  simp only [cxT,uC,Option.map_eq_some_iff] at h;obtain ⟨p,_,h⟩:=h; cases h
 mp:=fun id m h=>by
  simp only [cxT,uC,Option.map_eq_some_iff] at h;obtain ⟨p,_,h⟩:=h; cases h
 keys:=fun id m h=>by
  simp only [cxT,uC,Option.map_eq_some_iff] at h;obtain ⟨p,_,h⟩:=h; cases h
 ro:=fun id b vs h=>by
  simp only [cxT,uC,Option.map_eq_some_iff] at h;obtain ⟨p,hp,h⟩:=h;cases h;refine ⟨by simp [cxT,hp],ht p (List.mem_of_getElem? hp)⟩
theorem ak.LL {P:Program} {f:FuncId} {args:List AV} {b:Value} {vs:Array Value} {w:World} {ts:List (Nat×List Value)} (hc:callable P f) (hf:ak P f args (uC ts) fun r _=>r= .v b) (hd:ts.Pairwise fun p q=>p.1≠q.1)
  (ht:∀p∈ts,∃(t:TypeId) (fr:Nat×Nat),w.heap[p.1]? =some (.cells p.2.toArray t fr)) (hv:vs.size=args.length) (hr:∀i (hi:i<args.length),Rep (cx0 w) args[i] (vs.getD i undef)):
  Calls P f vs w fun e w' =>e= .returned b∧Go.RowKit.Below w.heap.size w w' :=by
 have hE:Ext (cx0 w) (cxT w ts):=⟨rfl,rfl,rfl,Nat.le_refl _,fun _ _ _=>rfl,fun _ _ _ _=>rfl,fun _ cs _ fr h=>⟨cs,fr,h,rfl⟩,fun b o _ h=>(HY w ts b o h).elim,
  fun _ _ _ h=>(by cases h),fun _ _ _ h=>(by cases h),fun _ _ h=>(by cases h),fun _ _ _ h=>(by cases h)⟩
 refine ((hf (cxT w ts) vs (fun _ _ h=>h) (OQ w ts hd ht) hv fun i hi=>(hr i hi).mono hE).calls hc).mono ?_
 rintro e w' ⟨u,rfl,c',x,h',rfl,g',hE,hx,hs,rfl⟩
 rw [hx.bS];exact ⟨rfl,hE.os,hE.tape,hE.output,hE.size,fun k hk=>hE.block k hk fun o=>HY w ts k o⟩
mutual
def strip:AV→AV
 | .sl xs _=> .sl (fA xs) .no
 | .agg xs=> .agg (fA xs)
 | .tup xs=> .tup (fA xs)
 | .v x=> .v x
 | .s l=> .s l
 | .pe x o=> .pe x o
 | .ptr i o=> .ptr i o
 | .oa i o l=> .oa i o l
 | .ifc t x=> .ifc t x
 | .fn f c=> .fn f c
 | .mp i=> .mp i
 | .ob i o l c s=> .ob i o l c s
def fA:List AV→List AV
 | []=> []
 |x::r=>strip x::fA r
end
theorem eW:∀xs:List AV,(fA xs).length=xs.length
 | []=>rfl
 |x::r=>by simp [fA,eW r]
theorem gh:∀(xs:List AV) (i:Nat) (h1:i<xs.length) (h2:i<(fA xs).length),(fA xs)[i]=strip xs[i]
 |x::r,0,h1,h2=>by simp [fA]
 |x::r,i+1,h1,h2=>by simpa [fA] using gh r i (by simpa using h1) (by simpa [fA] using h2)
theorem uh (x:AV):(strip x).cells=match x with| .agg xs=>fA xs|_=> [strip x]:=by
 cases x<;>simp [strip,AV.cells]
mutual
theorem fk:∀x:AV,Weak x (strip x)
 | .sl xs p=> .deep _ _ p (eW xs).symm (fun i h1 h2=>by
    rw [gh xs i h1 h2,uh];have:=l5 xs i h1;cases hx:xs[i]<;>simp [AV.cells,eW])
   (fun i h1 h2 j h3 h4=>by
    have hw:=l5 xs i h1;have e:=gh xs i h1 h2;exact hw (fA xs)[i] e j h3 h4)
 | .agg xs=> .agg _ _ (eW xs).symm fun i h1 h2=>by rw [gh xs i h1 h2]; exact kn xs i h1
 | .tup xs=> .tup _ _ (eW xs).symm fun i h1 h2=>by rw [gh xs i h1 h2]; exact kn xs i h1
 | .v x=> .refl _
 | .s l=> .refl _
 | .pe x o=> .refl _
 | .ptr i o=> .refl _
 | .oa i o l=> .refl _
 | .ifc t x=> .refl _
 | .fn f c=> .refl _
 | .mp i=> .refl _
 | .ob i o l c s=> .refl _
theorem kn:∀(xs:List AV) (i:Nat) (h:i<xs.length),Weak xs[i] (strip xs[i])
 |x::r,0,h=>fk x
 |x::r,i+1,h=>kn r i (by simpa using h)
theorem l5:∀(xs:List AV) (i:Nat) (h:i<xs.length) (y:AV),y=strip xs[i]→∀(j:Nat) (h3:j<xs[i].cells.length) (h4:j<y.cells.length),Weak xs[i].cells[j] y.cells[j]
 |x::r,0,h,y,e,j,h3,h4=>Ds x y e j h3 h4
 |x::r,i+1,h,y,e,j,h3,h4=>l5 r i (by simpa using h) y e j h3 h4
theorem Ds:∀(x y:AV),y=strip x→∀(j:Nat) (h3:j<x.cells.length) (h4:j<y.cells.length),Weak x.cells[j] y.cells[j]
 | .agg xs,y,e,j,h3,h4=>by
  subst e;simp only [strip,AV.cells] at h4⊢;rw [gh xs j h3 h4];exact kn xs j h3
 | .sl xs p,y,e,j,h3,h4=>by
  subst e;simp only [strip,AV.cells,List.length_singleton] at h3 h4⊢;obtain rfl:j=0:=by omega
  exact .deep _ _ p (eW xs).symm (fun i h1 h2=>by
    rw [gh xs i h1 h2,uh];cases hx:xs[i]<;>simp [AV.cells,eW])
   (fun i h1 h2 j h3 h4=>l5 xs i h1 _ (gh xs i h1 h2) j h3 h4)
 | .tup xs,y,e,j,h3,h4=>by
  subst e;simp only [strip,AV.cells,List.length_singleton] at h3 h4⊢;obtain rfl:j=0:=by omega
  exact .tup _ _ (eW xs).symm fun i h1 h2=>by rw [gh xs i h1 h2]; exact kn xs i h1
 | .v x,y,e,j,h3,h4=>by subst e; exact .refl _
 | .s l,y,e,j,h3,h4=>by subst e; exact .refl _
 | .pe x o,y,e,j,h3,h4=>by subst e; exact .refl _
 | .ptr i o,y,e,j,h3,h4=>by subst e; exact .refl _
 | .oa i o l,y,e,j,h3,h4=>by subst e; exact .refl _
 | .ifc t x,y,e,j,h3,h4=>by subst e; exact .refl _
 | .fn f c,y,e,j,h3,h4=>by subst e; exact .refl _
 | .mp i,y,e,j,h3,h4=>by subst e; exact .refl _
 | .ob i o l c s,y,e,j,h3,h4=>by subst e; exact .refl _
end
section
variable {P : Program} {U : TypeId → TI} {n : Nat} {ρ : Env} {h0 h h' : Heap} {tb : TypeId} {y v : AV} {xs zs : List AV} {Q : AV → Heap → Prop} {f : FuncId} {args : List AV}
def One (xs:List AV):Prop:=∀x∈xs,bA x=false
theorem mw {x:AV} (h:bA x=false):x.cells= [x]:=by cases x<;>first|rfl|(cases h)
theorem One.sized (h:One xs):Sized 1 xs:=fun z hz=>by rw [mw (h z hz)]; rfl
theorem One.map {α:Type} {g:α→AV} (hg:∀a,bA (g a)=false) (l:List α):One (l.map g):=fun x hx=>by
 obtain ⟨a,_,rfl⟩:=List.mem_map.1 hx;exact hg a
def B4 (tb:TypeId) (h:Heap) (y:AV) (xs:List AV):Prop:=
 (∃q,y= .sl xs q)∨∃id off cs,y= .oa id off xs.length∧h id=some (.obj cs tb)∧off+xs.length≤cs.length∧(cs.drop off).take xs.length=xs
theorem B4.sl (xs:List AV) (q:Perm):B4 tb h (.sl xs q) xs:= .inl ⟨q,rfl⟩
theorem B4.len (hb:B4 tb h y xs) (e:TypeId) (k:AV→Prop):xh y k (.slice e)=k (.v (.int .i64 xs.length)):=by
 rcases hb with ⟨q,rfl⟩|⟨id,off,cs,rfl,_⟩<;>rfl
def AtP (U:TypeId→TI) (tb:TypeId) (h:Heap) (p x:AV):Prop:=∀k:AV→Prop,oS U h tb p k=k x
theorem B4.idx (hb:B4 tb h y xs) (ho:One xs) {m:Int} {x:IntKind} {K:AV→Prop} (j:Nat) (hm:m=j) (hj:j<xs.length) (hz:(U tb).sz=1) (ha:(U tb).k.agg=false)
  (hk:∀p,AtP U tb h p xs[j]→K p):oJ U y (.v (.int x m)) K (.slice tb):=by
 subst hm;have h1:=ho xs[j] (VF hj);rcases hb with ⟨q,rfl⟩|⟨id,off,cs,rfl,g1,g2,g3⟩
 ·refine (x8 ..).mpr ⟨by rw [hz]; decide, ?_⟩
  refine fc.at j hj (by rw [hz,mw h1]; rfl) ?_
  refine hk _ fun k=> ?_
  simp only [oS,LH,ha,hz,mw h1,h1,List.length_cons,List.length_nil,Nat.zero_add,and_self,if_true]
 ·refine (Fc ..).mpr ⟨by rw [hz]; decide,by omega,by omega, ?_⟩
  refine hk _ fun k=> ?_
  have e1:cs[off+j]? =some xs[j]:=by
   have:=congrArg (fun q=>q[j]?) g3
   simp only [List.getElem?_take,hj,if_true,List.getElem?_drop,List.getElem?_eq_getElem hj] at this;exact this
  simp only [oS,g1,fH,J1,hz,Nat.mul_one,Int.toNat_natCast,HZ,ha,Br,e1];simp
def WrA (tb:TypeId) (h0 h:Heap) (y:AV) (xs:List AV):Prop:=
 Sub h0 h∧((xs= []∧y= .sl [] .full)∨∃id cs,h0 id=none∧y= .oa id 0 xs.length∧h id=some (.obj cs tb)∧xs.length≤cs.length∧cs.take xs.length=xs)
theorem WrA.nil (hs:Sub h0 h):WrA tb h0 h (.sl [] .full) []:=⟨hs, .inl ⟨rfl,rfl⟩⟩
theorem WrA.seq (hw:WrA tb h0 h y xs):B4 tb h y xs:=by
 obtain ⟨_,⟨rfl,rfl⟩|⟨id,cs,_,rfl,h1,h2,h3⟩⟩:=hw
 ·exact .sl _ _
 ·exact .inr ⟨id,0,cs,rfl,h1,by omega,by simpa using h3⟩
theorem WrA.sub (hw:WrA tb h0 h y xs) (hs:Sub h h'):WrA tb h0 h' y xs:=by
 obtain ⟨h1,hw|⟨id,cs,a,e,b,c,d⟩⟩:=hw
 ·exact ⟨h1.trans hs, .inl hw⟩
 ·exact ⟨h1.trans hs, .inr ⟨id,cs,a,e,hs _ _ b,c,d⟩⟩
theorem WrA.base (hw:WrA tb h0 h y xs) {id:Nat} (hid:h id=none) (b:Option Blk):WrA tb (upd h0 id b) (upd h id b) y xs:=by
 obtain ⟨h1,hw⟩:=hw;have h2:Sub (upd h0 id b) (upd h id b):=fun j k hj=>by
  by_cases e:j=id
  ·subst e; rw [ah] at hj⊢; exact hj
  ·rw [ag _ _ e] at hj⊢; exact h1 _ _ hj
 rcases hw with hw|⟨i,cs,a,e,c,d⟩
 ·exact ⟨h2, .inl hw⟩
 ·have hne:i≠id:=fun hh=>by subst hh; rw [hid] at c; cases c
  exact ⟨h2, .inr ⟨i,cs,by rw [ag _ _ hne]; exact a,e,by rw [ag _ _ hne]; exact c,d⟩⟩
theorem WrA.less (hw:WrA tb h' h y xs) (hs:Sub h0 h'):WrA tb h0 h y xs:=by
 obtain ⟨h1,hw|⟨i,cs,a,e,c,d⟩⟩:=hw
 ·exact ⟨hs.trans h1, .inl hw⟩
 ·exact ⟨hs.trans h1, .inr ⟨i,cs,hs.none a,e,c,d⟩⟩
theorem WrA.len (hw:WrA tb h0 h y xs) (e:TypeId) (k:AV→Prop):xh y k (.slice e)=k (.v (.int .i64 xs.length)):=hw.seq.len e k
theorem WrA.idx (hb:WrA tb h0 h y xs) (ho:One xs) {m:Int} {x:IntKind} {K:AV→Prop} (j:Nat) (hm:m=j) (hj:j<xs.length) (hz:(U tb).sz=1) (ha:(U tb).k.agg=false)
  (hk:∀p,AtP U tb h p xs[j]→K p):oJ U y (.v (.int x m)) K (.slice tb):=hb.seq.idx ho j hm hj hz ha hk
theorem WrA.cut (hw:WrA tb h0 h y xs) {hi:Operand} {m:Int} {x:IntKind} {K:AV→Prop} (j:Nat) (hm:ev ρ hi=some (.v (.int x m))) (hj:m=j) (hl:j≤xs.length) (hz:(U tb).sz=1)
  (hk:∀z,WrA tb h0 h z (xs.take j)→K z):jo U ρ y none (some hi) none K (.slice tb):=by
 subst hj;have hs:=hw.1;obtain ⟨_,⟨rfl,rfl⟩|⟨id,cs,h1,rfl,h2,h3,h4⟩⟩:=hw
 ·rw [ue,jG,hm]
  refine ⟨by rw [hz]; decide, ?_⟩
  simp only [fH,pO,Option.isSome_some,pK,Int.toNat_natCast];have:j=0:=by simpa using hl
  subst this;refine ⟨by omega,by simp, ?_⟩
  exact hk _ (.nil hs)
 ·rw [FN]
  refine ⟨by rw [hz]; decide,fun _=>hz, ?_⟩
  simp only [mK,jG,hm,fH,pO];refine ⟨by omega,by omega,by omega, ?_⟩
  simp only [Int.toNat_natCast,hz,Nat.mul_one];have e:(xs.take j).length=j:=by simp; omega
  have:=hk (.oa id 0 (xs.take j).length) ⟨hs, .inr ⟨id,cs,h1,rfl,h2,by omega,by rw [e,←h4,List.take_take,Nat.min_eq_left hl]⟩⟩
  rw [e] at this;simpa using this
theorem WrA.app (hw:WrA tb h0 h y xs) (ho:One xs) (hoz:One zs) (hz:(U tb).sz=1) (hb:(U tb).bytes≠0) (hf:fit (U tb).zero 1) (hn:bA (U tb).zero=false) (hsrc:∀k:List AV→Prop,k zs→jr U tb h v k)
  (hlen:(xs.length+zs.length)*(U tb).bytes≤140737488355328) (hk:∀y' h',WrA tb h0 h' y' (xs++zs)→Q y' h'):apK U h y v Q (.slice tb):=by
 have hs:=hw.1;have one:Sized (U tb).sz zs:=by rw [hz]; exact hoz.sized
 obtain ⟨_,⟨rfl,rfl⟩|⟨id,cs,h1,rfl,h2,h3,h4⟩⟩:=hw
 ·refine (u5 ..).mpr ⟨by rw [hz]; decide,hb,hsrc _ ⟨by simp [Sized],one,by simpa using hlen,fun hn' => ?_,fun hn' => ?_⟩⟩
  ·subst hn'
   exact hk _ _ (.nil hs)
  ·refine .oa hz hf hn hoz fun id k hid=> ?_
   refine hk _ _ ⟨hs.new hid _, .inr ⟨id,_,hs.none hid, ?_,ah .., ?_, ?_⟩⟩
   ·simp
   ·simp
   ·simp [List.take_append_of_le_length]
 ·refine ⟨by rw [hz]; decide,hb,hz,hsrc _ ⟨by rw [←hz]; exact one,hoz,by simpa using hlen, ?_⟩⟩
  rw [h2];refine ⟨by omega, ?_,hf,hn,fun hle=> ?_,fun id' k hid=> ?_⟩
  ·rw [List.drop_zero,h4]; exact ho
  ·have hsub:Sub h0 (upd h id (some (.obj (over cs (0+xs.length) zs) tb))):=fun j b hj=>by
    by_cases e:j=id
    ·subst e; rw [h1] at hj; cases hj
    ·rw [ag _ _ e]; exact hs _ _ hj
   have ho' :(over cs (0+xs.length) zs).length=cs.length:=gR (by omega)
   refine hk _ _ ⟨hsub, .inr ⟨id,_,h1,by rw [VE],ah ..,by rw [ho',VE]; omega, ?_⟩⟩
   rw [over,Nat.zero_add,h4,VE,List.take_append_of_le_length (by simp)]
   exact List.take_of_length_le (by simp)
  ·refine hk _ _ ⟨hs.new hid _, .inr ⟨id',_,hs.none hid,by rw [VE],ah .., ?_, ?_⟩⟩
   ·rw [List.drop_zero,h4]; simp
   ·rw [List.drop_zero,h4,List.take_append_of_le_length (by simp)]
    exact List.take_of_length_le (by simp)
end
end Go.Ab
namespace Go.Bf
open Go Go.Ab
abbrev Txt:=List UInt8
structure nX where
 cat:Int
 name:Txt
 must:Bool
structure bW where
 kind:Int
 n:Int
 s:Txt
structure bN where
 attr:nX
 op:Int
 val:bW
structure aP where
 op:Int
 val:bW
 attr:nX
structure cA where
 on:Int
 kind:Int
 arg:Txt
abbrev fT:=List (List (List bN))
structure cQ where
 id:Txt
 deny:Bool
 tgt:fT
 cond:List aP
 obls:List cA
inductive bB where
 |mk (id:Txt) (set:Bool) (alg:Int) (tgt:fT) (rules:List cQ) (kids:List bB) (obls:List cA)
def zZ (a:nX):AV:= .agg [.v (.int .i64 a.cat), .s a.name, .v (.bool a.must)]
def aV (v:bW):AV:= .agg [.v (.int .i64 v.kind), .v (.int .i64 v.n), .s v.s]
def dG (m:bN):AV:= .agg [.v (.int .i64 m.attr.cat), .s m.attr.name, .v (.bool m.attr.must), .v (.int .i64 m.op), .v (.int .i64 m.val.kind), .v (.int .i64 m.val.n), .s m.val.s]
def cZ (m:aP):AV:= .agg [.v (.int .i64 m.op), .v (.int .i64 m.val.kind), .v (.int .i64 m.val.n), .s m.val.s, .v (.int .i64 m.attr.cat), .s m.attr.name, .v (.bool m.attr.must)]
def jd (b:Bool):AV:= .v (.bool b)
def bp (o:cA):AV:= .agg [.v (.int .i64 o.on), .v (.int .i64 o.kind), .s o.arg]
def gW (l:List bN):AV:= .sl (l.map dG) .no
def cN (l:List (List bN)):AV:= .sl (l.map gW) .no
def aU (t:fT):AV:= .sl (t.map cN) .no
def fh (l:List aP):AV:= .sl (l.map cZ) .no
def aA (l:List cA):AV:= .sl (l.map bp) .no
def aC (r:cQ):AV:= .agg [.s r.id, .v (.bool r.deny),aU r.tgt,fh r.cond,aA r.obls]
mutual
def aK:bB→AV
 | .mk id set alg tgt rules kids obls=> .agg [.s id, .v (.bool set), .v (.int .i64 alg),aU tgt, .sl (rules.map aC) .no, .sl (fu kids) .no,aA obls]
def fu:List bB→List AV
 | []=> []
 |k::r=>aK k::fu r
end
theorem aX:∀l:List bB,fu l=l.map aK
 | []=>rfl
 |k::r=>by simp [fu,aX r]
def ltr (c:UInt8):Bool:=decide (97≤(c.toNat:Int)) && decide ((c.toNat:Int)≤122)
def dgt (c:UInt8):Bool:=decide (48≤(c.toNat:Int)) && decide ((c.toNat:Int)≤57)
def qY (c:UInt8) (i:Nat):Bool:=ltr c||(decide (i≠0) && (dgt c||(c.toNat:Int)==95))
def tD (l:Txt):Bool:=l.zipIdx.all fun p=>qY p.1 p.2
def bf (l:Txt):Bool:=tD l && decide (1≤l.length) && decide (l.length≤16)
def od (a:nX):Bool:=decide (1≤a.cat) && decide (a.cat≤4) && bf a.name
def b7 (v:bW):Bool:=
 if v.kind=1 then (v.n==0||v.n==1) && v.s== []
 else if v.kind=2 then v.s== []
 else if v.kind=3 then v.n==0 && decide (v.s.length≤64)
 else if v.kind=4 then decide (0≤v.n) && decide (v.n≤1099511627776) && v.s== []
 else if v.kind=5 then v.n==0 && bf v.s
 else false
def jN (m:bN):Bool:=od m.attr && decide (1≤m.op) && decide (m.op≤3) && b7 m.val
def jx (n:Nat):Int:=if n=0 then 1 else if n>8 then 6 else 0
def gK {α:Type} (f:α→Int):List α→Int
 | []=>0
 |x::r=>if f x=0 then gK f r else f x
def ur (l:List bN):Int:=if jx l.length=0 then (if l.all jN then 0 else 1) else jx l.length
def uu (l:List (List bN)):Int:=if jx l.length=0 then gK ur l else jx l.length
def j9 (t:fT):Int:=if t.length>8 then 6 else gK uu t
def gU (op:Int):Option (List Bool):=
 if op=1∨op=2 then some []
 else if op=3∨op=4 then some [true]
 else if op=5 then some [true,false]
 else if op=11 then some [false]
 else if 6≤op∧op≤13 then some [false,false]
 else none
def zeroV (v:bW):Bool:=v.kind==0 && (v.n==0 && v.s== [])
def zeroAt (a:nX):Bool:=a.cat==0 && (a.name== [] && a.must==false)
def je (n:aP):Bool:=
 if n.op=1 then b7 n.val && zeroAt n.attr
 else if n.op=2 then od n.attr && zeroV n.val
 else zeroV n.val && zeroAt n.attr
def gT (st:List Bool) (n:aP):Option (List Bool):=match gU n.op with
 |none=>none
 |some w=>if je n=true∧w.length≤st.length∧st.drop (st.length - w.length)=w then some (st.take (st.length - w.length)++ [n.op==2]) else none
def fz (st:List Bool):List aP→Option (List Bool)
 | []=>some st
 |n::r=>match gT st n with
  |none=>none
  |some st' =>fz st' r
def jw (l:List aP):Int:=if l.length>32 then 6 else match fz [] l with
 |none=>1
 |some st=>if l= []∨st= [false] then 0 else 1
def oY (o:cA):Bool:=decide (1≤o.on) && decide (o.on≤2) && decide (1≤o.kind) && decide (o.kind≤4) && bf o.arg
def gO (l:List cA):Int:=if l.length>8 then 6 else if l.all oY then 0 else 1
structure dV where
 met:List Txt
 rules:Nat
inductive Went where
 |bad (e:Int)
 |ok (m:dV)
def iJ (m:dV) (s:Txt):Option dV:=if s∉m.met∧bf s=true then some ⟨m.met++ [s],m.rules⟩ else none
def Went.err:Went→Int
 | .bad e=>e
 | .ok _=>0
def need (e:Int) (w:Went):Went:=if e=0 then w else .bad e
def fW (m:dV) (r:cQ):Went:=match iJ m r.id with
 |none=> .bad 1
 |some m=>if m.rules+1>64 then .bad 6 else need (j9 r.tgt) (need (jw r.cond) (need (gO r.obls) (.ok ⟨m.met,m.rules+1⟩)))
def eO (m:dV):List cQ→Went
 | []=> .ok m
 |r::l=>match fW m r with
  | .bad e=> .bad e
  | .ok m=>eO m l
def eV (m:dV) (id:Txt) (set:Bool) (alg:Int) (tgt:fT) (nr nk:Nat) (obls:List cA):Went:=match iJ m id with
 |none=> .bad 1
 |some m=>if alg<1∨alg>6 then .bad 1
  else if set=true∧nr>0∨set=false∧(nk>0∨alg=4) then .bad 1
  else need (j9 tgt) (need (gO obls) (if nr>16∨nk>16 then .bad 6 else .ok m))
mutual
def jH (m:dV) (d:Nat):bB→Went
 | .mk id set alg tgt rules kids obls=>
  if d>4 then .bad 6 else match eV m id set alg tgt rules.length kids.length obls with
  | .bad e=> .bad e
  | .ok m=>match eO m rules with
   | .bad e=> .bad e
   | .ok m=>gN m (d+1) kids
def gN (m:dV) (d:Nat):List bB→Went
 | []=> .ok m
 |k::r=>match jH m d k with
  | .bad e=> .bad e
  | .ok m=>gN m d r
end
def gb (p:bB):Int:=(jH ⟨[],0⟩ 1 p).err
def OR (n:Nat):UInt8:=if n<10 then UInt8.ofNat (48+n) else UInt8.ofNat (87+n)
def C0 (c:UInt8):Bool:=decide ((c.toNat:Int)<32)||decide (126<(c.toNat:Int))||(c.toNat:Int)==34||(c.toNat:Int)==92
def Mz (c:UInt8):Txt:=if C0 c then [92,OR (c.toNat / 16),OR (c.toNat % 16)] else [c]
def MA (l:Txt):Txt:= [34]++(l.map Mz).flatten++ [34]
def mM (v:bW):Txt:=
 if v.kind=1 then Lib.formatBool (v.n==1) else if v.kind=4 then [64]++Lib.itoa v.n else if v.kind=5 then [35]++v.s else if v.kind=3 then MA v.s else Lib.itoa v.n
theorem tj {α:Type} (l:List α) (i:Nat) (h:i<l.length):(l.take (i+1)).zipIdx=(l.take i).zipIdx++ [(l[i],i)]:=by
 rw [List.take_succ_eq_append_getElem h,List.zipIdx_append];simp [Nat.min_eq_left (Nat.le_of_lt h)]
theorem Cb (l:Txt) (i:Nat) (h:i<l.length):tD (l.take (i+1))=(tD (l.take i) && qY l[i] i):=by
 simp [tD,tj l i h]
theorem EB (l:Txt) (i:Nat) (h:i<l.length) (hb:qY l[i] i=false):tD l=false:=by
 rw [tD,List.all_eq_false];exact ⟨(l[i],i),by rw [List.mk_mem_zipIdx_iff_getElem?]; exact List.getElem?_eq_getElem h,by simp [hb]⟩
theorem Js (c:UInt8):
  (decide (97≤(c.toNat:Int))=true∧decide ((c.toNat:Int)≤122)=true∧decide (48≤(c.toNat:Int))=true∧decide ((c.toNat:Int)≤57)=false∧((c.toNat:Int)==95)=false)∨
  (decide (97≤(c.toNat:Int))=false∧decide ((c.toNat:Int)≤122)=true∧decide (48≤(c.toNat:Int))=true∧decide ((c.toNat:Int)≤57)=true∧((c.toNat:Int)==95)=false)∨
  (decide (97≤(c.toNat:Int))=false∧decide ((c.toNat:Int)≤122)=true∧decide (48≤(c.toNat:Int))=true∧decide ((c.toNat:Int)≤57)=false∧((c.toNat:Int)==95)=true)∨
  (decide (97≤(c.toNat:Int))=false∧decide ((c.toNat:Int)≤122)=true∧decide (48≤(c.toNat:Int))=false∧decide ((c.toNat:Int)≤57)=true∧((c.toNat:Int)==95)=false)∨
  (decide (97≤(c.toNat:Int))=false∧decide ((c.toNat:Int)≤122)=true∧decide (48≤(c.toNat:Int))=true∧decide ((c.toNat:Int)≤57)=false∧((c.toNat:Int)==95)=false)∨
  (decide (97≤(c.toNat:Int))=true∧decide ((c.toNat:Int)≤122)=false∧decide (48≤(c.toNat:Int))=true∧decide ((c.toNat:Int)≤57)=false∧((c.toNat:Int)==95)=false):=by
 simp only [decide_eq_true_eq,decide_eq_false_iff_not,beq_iff_eq,beq_eq_false_iff_ne,ne_eq];omega
theorem tL {α:Type} {f:α→Int} {l:List α} {i:Nat} (h:i<l.length) (h0:gK f (l.take i)=0) (h1:f l[i]=0):gK f (l.take (i+1))=0:=by
 rw [List.take_succ_eq_append_getElem h];generalize l.take i=a at h0
 induction a with
 |nil=>simp [gK,h1]
 |cons x r ih=>
  simp only [gK] at h0;split at h0
  ·rename_i hx
   simp only [List.cons_append,gK,hx,if_true];exact ih h0
  ·rename_i hx; exact (hx h0).elim
theorem xX {α:Type} {f:α→Int} {l:List α} {i:Nat} (h:i<l.length) (h0:gK f (l.take i)=0) (h1:f l[i]≠0):gK f l=f l[i]:=by
 induction l generalizing i with
 |nil=>cases h
 |cons x r ih=>
  cases i with
  |zero=>simp only [List.getElem_cons_zero] at h1⊢; simp [gK,h1]
  |succ i=>
   simp only [List.take_succ_cons,gK] at h0;split at h0
   ·rename_i hx
    simp only [gK,hx,if_true,List.getElem_cons_succ];exact ih (by simpa using h) h0 (by simpa using h1)
   ·rename_i hx; exact (hx h0).elim
theorem oV {e x:Int} {w:Went} (h:need e w= .bad x) (hw:w= .bad x→x≠0):x≠0:=by
 unfold need at h;split at h
 ·exact hw h
 ·cases h; assumption
theorem yB {m:dV} {r:cQ} {e:Int} (h:fW m r= .bad e):e≠0:=by
 unfold fW at h;split at h
 ·cases h; decide
 ·split at h
  ·cases h; decide
  ·exact oV h fun h=>oV h fun h=>oV h fun h=>by cases h
theorem xZ {m:dV} {id:Txt} {set:Bool} {alg:Int} {tgt:fT} {nr nk:Nat} {obls:List cA} {e:Int} (h:eV m id set alg tgt nr nk obls= .bad e):e≠0:=by
 unfold eV at h;split at h
 ·cases h; decide
 ·split at h
  ·cases h; decide
  ·split at h
   ·cases h; decide
   ·exact oV h fun h=>oV h fun h=>by
     split at h
     ·cases h; decide
     ·cases h
theorem nC (m:dV):∀(l:List cQ) (i:Nat),eO m l=(match eO m (l.take i) with
  | .bad e=> .bad e
  | .ok m1=>eO m1 (l.drop i))
 | [],i=>by simp [eO]
 |r::l,0=>by simp [eO]
 |r::l,i+1=>by
  simp only [List.take_succ_cons,List.drop_succ_cons,eO];cases fW m r with
  |bad e=>rfl
  |ok m1=>simp only; exact nC m1 l i
theorem uc {m m1:dV} {l:List cQ} {i:Nat} (hi:i<l.length) (h:eO m (l.take i)= .ok m1):eO m (l.take (i+1))=fW m1 l[i]:=by
 rw [nC m _ i,List.take_take,Nat.min_eq_left (by omega),h,List.take_succ_eq_append_getElem hi,List.drop_append_of_le_length (by simp; omega),List.drop_of_length_le (by simp; omega)]
 simp only [List.nil_append,eO];cases fW m1 l[i]<;>rfl
theorem BE {m m1:dV} {l:List cQ} {i:Nat} {e:Int} (hi:i<l.length) (h:eO m (l.take i)= .ok m1) (hr:fW m1 l[i]= .bad e):eO m l= .bad e:=by
 rw [nC m l (i+1),uc hi h,hr]
theorem oO (m:dV) (d:Nat):∀(l:List bB) (i:Nat),gN m d l=(match gN m d (l.take i) with
  | .bad e=> .bad e
  | .ok m1=>gN m1 d (l.drop i))
 | [],i=>by simp [gN]
 |r::l,0=>by simp [gN]
 |r::l,i+1=>by
  simp only [List.take_succ_cons,List.drop_succ_cons,gN];cases jH m d r with
  |bad e=>rfl
  |ok m1=>simp only; exact oO m1 d l i
theorem vH {m m1:dV} {d:Nat} {l:List bB} {i:Nat} (hi:i<l.length) (h:gN m d (l.take i)= .ok m1):gN m d (l.take (i+1))=jH m1 d l[i]:=by
 rw [oO m d _ i,List.take_take,Nat.min_eq_left (by omega),h,List.take_succ_eq_append_getElem hi,List.drop_append_of_le_length (by simp; omega),List.drop_of_length_le (by simp; omega)]
 simp only [List.nil_append,gN];cases jH m1 d l[i]<;>rfl
theorem CN {m m1:dV} {d:Nat} {l:List bB} {i:Nat} {e:Int} (hi:i<l.length) (h:gN m d (l.take i)= .ok m1) (hr:jH m1 d l[i]= .bad e):gN m d l= .bad e:=by
 rw [oO m d l (i+1),vH hi h,hr]
theorem jF {l:List cA} (h:gO l=0):l.length≤8∧∀o∈l,oY o=true:=by
 unfold gO at h;split at h
 ·cases h
 ·rename_i h8
  split at h
  ·rename_i ha; exact ⟨by omega,fun o ho=>List.all_eq_true.1 ha o ho⟩
  ·cases h
theorem vS {n:Nat} (h:jx n=0):0<n∧n≤8:=by
 unfold jx at h;split at h
 ·cases h
 ·split at h
  ·cases h
  ·omega
theorem tM {α:Type} {f:α→Int} {l:List α} (h:gK f l=0):∀x∈l,f x=0:=by
 induction l with
 |nil=>intro x hx; cases hx
 |cons y r ih=>
  simp only [gK] at h;split at h
  ·rename_i hy
   intro x hx;rcases List.mem_cons.1 hx with rfl|hx
   ·exact hy
   ·exact ih h x hx
  ·rename_i hy; exact (hy h).elim
theorem xK {l:List bN} (h:ur l=0):0<l.length∧l.length≤8∧∀m∈l,jN m=true:=by
 unfold ur at h;split at h
 ·rename_i hm
  have:=vS hm;split at h
  ·rename_i ha; exact ⟨this.1,this.2,fun o ho=>List.all_eq_true.1 ha o ho⟩
  ·cases h
 ·rename_i hm; exact (hm h).elim
theorem xL {l:List (List bN)} (h:uu l=0):0<l.length∧l.length≤8∧∀m∈l,ur m=0:=by
 unfold uu at h;split at h
 ·rename_i hm
  have:=vS hm;exact ⟨this.1,this.2,tM h⟩
 ·rename_i hm; exact (hm h).elim
theorem yG {l:fT} (h:j9 l=0):l.length≤8∧∀m∈l,uu m=0:=by
 unfold j9 at h;split at h
 ·cases h
 ·exact ⟨by omega,tM h⟩
end Go.Bf
