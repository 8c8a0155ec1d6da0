/- The law GuardOnly: pack 2 of its texts. -/
import Derived.ScopeJumps
import Derived.Below
import Derived.OpenShut
import Derived.Lib.ItoaLen
import Derived.Lib.Join
import Derived.Lib.Small
import Derived.Test.YtnlbeamjpefpfaaGreatDoorPk1
set_option linter.unusedSimpArgs false
set_option linter.unusedVariables false
namespace Go.Ab
open Go
section
variable {P : Program} {U : TypeId → TI} {ops : Array Oper} {md : Region.Mode} {h : Heap}
def gq (F:EF):Option Tmp→AV→EF
 |some d,x=>upd F d (some x)
 |none,_=>F
theorem oN (ρ:Env) (d:Option Tmp) (x:AV):lk (put ρ d x)=gq (lk ρ) d x:=by
 cases d with
 |none=>rfl
 |some d=>
  funext t
  simp only [put,lk,gq,upd]
  by_cases e:d=t
  ·subst e; simp
  ·have e' :¬t=d:=fun e' =>e e'.symm
   simp [e,e']
def cy (ops:Array Oper) (F:EF) (o:Oper):Option Bool:=
 match o.guard with
 |none=>some true
 |some (g,want)=>match (ops[g]?).bind (·.dst) with
  |some d=>match F d with
   |some (.v (.bool t))=>some (t==want)
   |some (.v (.tuple _))=>some false
   |_=>none
  |none=>none
def tJ (P:Program) (ops:Array Oper) (h:Heap) (o:Oper) (K:EF→Prop) (F:EF):Prop:=
 (cy ops F o=some true∧∃X,DOK P o F h X∧K (gq F o.dst X))∨(cy ops F o=some false∧K (gq F o.dst (.v undef)))
def dOp (P:Program) (ops:Array Oper) (h:Heap) (i:Nat) (K:EF→Prop) (F:EF):Prop:=
 match ops[i]? with
 |none=>K F
 |some o=>tJ P ops h o K F
def dList (P:Program) (ops:Array Oper) (h:Heap) (Q:EF→Prop):List Oper→EF→Prop
 | [],F=>Q F
 |o::r,F=>tJ P ops h o (dList P ops h Q r) F
def GY (P:Program) (md:Region.Mode) (ops:Array Oper) (h:Heap) (Q:EF→Prop):Nat→Array Bool→EF→Prop
 |0,listed,F=>Region.ready md ops listed= []∧Q F
 |fuel+1,listed,F=>(Region.ready md ops listed= []→Q F)∧∀i∈Region.ready md ops listed,dOp P ops h i (GY P md ops h Q fuel (listed.setIfInBounds i true)) F
theorem CB {o:Oper} {F:EF} {K K' :EF→Prop} (hk:∀F,K F→K' F) (hs:tJ P ops h o K F):tJ P ops h o K' F:=by
 rcases hs with ⟨h1,X,h2,h3⟩|⟨h1,h2⟩
 ·exact .inl ⟨h1,X,h2,hk _ h3⟩
 ·exact .inr ⟨h1,hk _ h2⟩
theorem AF {i:Nat} {F:EF} {K K' :EF→Prop} (hk:∀F,K F→K' F) (hs:dOp P ops h i K F):dOp P ops h i K' F:=by
 unfold dOp at*;split
 ·rename_i ho; simp only [ho] at hs; exact hk _ hs
 ·rename_i o ho; simp only [ho] at hs; exact CB hk hs
def YD (P:Program) (ops:Array Oper) (h:Heap) (o:Oper) (X:AV) (F:EF):Prop:=
 (cy ops F o=some true∧DOK P o F h X)∨(cy ops F o=some false∧X= .v undef)
theorem AG {o:Oper} {X:AV} {F:EF} {K:EF→Prop} (hy:YD P ops h o X F) (hk:K (gq F o.dst X)):tJ P ops h o K F:=by
 rcases hy with ⟨h1,h2⟩|⟨h1,rfl⟩
 ·exact .inl ⟨h1,X,h2,hk⟩
 ·exact .inr ⟨h1,hk⟩
theorem tv {o:Oper} {F:EF} {K:EF→Prop} (hs:tJ P ops h o K F):∃X,YD P ops h o X F∧K (gq F o.dst X):=by
 rcases hs with ⟨h1,X,h2,h3⟩|⟨h1,h2⟩
 ·exact ⟨X, .inl ⟨h1,h2⟩,h3⟩
 ·exact ⟨_, .inr ⟨h1,rfl⟩,h2⟩
theorem nj {F:EF} {d:Option Tmp} {x:AV} {t:Nat} (hd:∀e,d=some e→e≠t):gq F d x t=F t:=by
 cases d with
 |none=>rfl
 |some e=>exact ag _ _ (fun e' =>hd e rfl e'.symm)
theorem kU (F:EF) {x y:Option Tmp} (v u:AV) (hd:∀d,x=some d→y≠some d):gq (gq F x v) y u=gq (gq F y u) x v:=by
 cases x with
 |none=>rfl
 |some d=>cases y with
  |none=>rfl
  |some e=>
   have hne:d≠e:=fun he=>hd d rfl (he▸rfl)
   funext t
   simp only [gq,upd]
   by_cases h1:t=e
   ·subst h1
    have:¬t=d:=fun h=>hne h.symm
    simp [this]
   ·simp [h1]
theorem xQ {o:Oper} {F F' :EF} {X:AV} (hf:∀t∈ff o.op,F t=F' t) (hd:DOK P o F h X):DOK P o F' h X:=
 fun c a hs g hdf hr=>hd c a hs g hdf fun t ht x hx=>hr t ht x (by rw [←hf t ht]; exact hx)
theorem j7 {o:Oper} {t:Nat} (ht:t∈ff o.op):t∈o.looksAt ops:=by
 simp only [Oper.looksAt,List.mem_append];exact .inl ht
theorem dO {o:Oper} {F F' :EF} (hf:∀t∈o.looksAt ops,F t=F' t):cy ops F o=cy ops F' o:=by
 unfold cy;split
 ·rfl
 ·rename_i g want hg
  split
  ·rename_i d hd
   have:F d=F' d:=hf d (by simp [Oper.looksAt,hg,hd])
   rw [this]
  ·rfl
theorem Ai {o:Oper} {F F' :EF} {X:AV} (hf:∀t∈o.looksAt ops,F t=F' t) (hy:YD P ops h o X F):YD P ops h o X F' :=by
 rcases hy with ⟨h1,h2⟩|⟨h1,h2⟩
 ·exact .inl ⟨by rw [←dO hf]; exact h1,xQ (fun t ht=>hf t (j7 ht)) h2⟩
 ·exact .inr ⟨by rw [←dO hf]; exact h1,h2⟩
theorem DU {j:Nat} {oi oj:Oper} {X:AV} (hj:ops[j]? =some oj) (hap:oi.apart ops oj=true) {K:EF→Prop} {F:EF}
  (hy:YD P ops h oi X F) (hs:dOp P ops h j K (gq F oi.dst X)):dOp P ops h j (fun F' =>YD P ops h oi X F'∧K (gq F' oi.dst X)) F:=by
 obtain ⟨h1,h2,h3⟩:=Oper.apart_spec hap;unfold dOp at*;simp only [hj] at*;have hlook:∀t∈oj.looksAt ops,gq F oi.dst X t=F t:=fun t ht=>nj fun e he hte=>h1 e he (hte▸ht)
 have hlook2:∀u,∀t∈oi.looksAt ops,F t=gq F oj.dst u t:=fun u t ht=>(nj fun e he hte=>h3 e he (hte▸ht)).symm
 rcases hs with ⟨w1,Y,w2,w3⟩|⟨w1,w2⟩
 ·refine .inl ⟨by rw [←dO hlook]; exact w1,Y,xQ (fun t ht=>hlook t (j7 ht)) w2,Ai (hlook2 Y) hy, ?_⟩
  rw [←kU F X Y h2]; exact w3
 ·refine .inr ⟨by rw [←dO hlook]; exact w1,Ai (hlook2 _) hy, ?_⟩
  rw [←kU F X _ h2]; exact w2
theorem pI {i:Nat} {oi:Oper} {X:AV} {F:EF} {K:EF→Prop} (hi:ops[i]? =some oi) (hy:YD P ops h oi X F) (hk:K (gq F oi.dst X)):dOp P ops h i K F:=by
 unfold dOp;simp only [hi];exact AG hy hk
theorem CA {Q:EF→Prop} {i:Nat} {oi:Oper} {X:AV} (hi:ops[i]? =some oi):
  ∀(fuel:Nat) (listed:Array Bool) (F:EF),
   (∀j oj,ops[j]? =some oj→j≠i→listed.getD j true=false→(∀e∈oj.after,Region.binds md e=true→e.on≠i)→oi.apart ops oj=true)→
   i∈Region.ready md ops listed→YD P ops h oi X F→
   GY P md ops h Q fuel (listed.setIfInBounds i true) (gq F oi.dst X)→GY P md ops h Q (fuel+1) listed F:=by
 intro fuel
 induction fuel with
 |zero=>
  intro listed F _ hr hy H;refine ⟨fun e=>(by rw [e] at hr; cases hr),fun j hj=> ?_⟩
  by_cases hji:j=i
  ·subst hji; exact pI hi hy H
  ·have:=ready_mono hj hji
   rw [H.1] at this;cases this
 |succ fuel ih=>
  intro listed F hfree hr hy H;refine ⟨fun e=>(by rw [e] at hr; cases hr),fun j hj=> ?_⟩
  by_cases hji:j=i
  ·subst hji; exact pI hi hy H
  ·have h1:=H.2 j (ready_mono hj hji)
   obtain ⟨hjun,oj,hoj,hall⟩:=mem_ready.1 hj;have hnot:∀e∈oj.after,Region.binds md e=true→e.on≠i:=fun e he hb heq=>by
    have h1:=hall e he hb;have h0:=(mem_ready.1 hr).1;rw [heq] at h1;rcases Nat.lt_or_ge i listed.size with h' |h'
    ·simp [h'] at h0 h1; rw [h0] at h1; cases h1
    ·simp [Array.getElem?_eq_none h'] at h1
   have h2:=DU hoj (hfree j oj hoj hji hjun hnot) hy h1;have hfree' :∀k ok,ops[k]? =some ok→k≠i→(listed.setIfInBounds j true).getD k true=false→
     (∀e∈ok.after,Region.binds md e=true→e.on≠i)→oi.apart ops ok=true:=fun k ok hk hki hun hno=>by
    refine hfree k ok hk hki ?_ hno
    by_cases hjk:j=k
    ·subst hjk; exact hjun
    ·rw [getD_set_ne true hjk] at hun; exact hun
   refine AF (fun F' h3=>ih (listed.setIfInBounds j true) F' hfree' (ready_mono hr (Ne.symm hji)) h3.1 ?_) h2
   rw [Array.setIfInBounds_comm _ _ hji];exact h3.2
theorem AE {Q:EF→Prop}:∀(l:List Oper) (k:Nat) (listed:Array Bool) (F:EF),(∀j,l[j]? =ops[k+j]?)→
  Region.lexFrom md ops l.length k listed=true→dList P ops h Q l F→GY P md ops h Q l.length listed F
 | [],_,_,_,_,hB,hd=>⟨by simpa [Region.lexFrom] using hB,hd⟩
 |o::l,k,listed,F,hl,hB,hd=>by
  have h0:ops[k]? =some o:=by simpa using (hl 0).symm
  simp only [List.length_cons,Region.lexFrom,Bool.and_eq_true] at hB;obtain ⟨⟨hr,hf⟩,hB'⟩:=hB;obtain ⟨X,hy,hK⟩:=tv hd;exact CA h0 l.length listed F (Region.free_spec h0 hf) (by simpa using hr) hy
   (AE l (k+1) _ _ (fun j=>by have:=hl (j+1); simpa [Nat.add_assoc,Nat.add_comm 1 j] using this) hB' hK)
def mb (c:Cx) (n:Nat) (F:EF) (a:Act):Prop:=a.tmps.size=n∧a.defers= []∧∀t x,F t=some x→Rep c x (a.tmps.getD t undef)
theorem mb.put {c:Cx} {n:Nat} {F:EF} {a:Act} (he:mb c n F a) {d:Option Tmp} (hd:dL n d=true) {x:AV} {u:Value} (hx:Rep c x u):mb c n (gq F d x) (a.put d u):=by
 obtain ⟨h1,h2,h3⟩:=he;cases d with
 |none=>exact ⟨h1,h2,h3⟩
 |some d=>
  have hd' :d<a.tmps.size:=by rw [h1]; exact V2 hd
  refine ⟨by simp [Act.put,h1],h2,fun t y hy=> ?_⟩
  simp only [gq,upd] at hy;split at hy
  ·rename_i e; subst e
   simp only [Option.some.injEq] at hy; subst hy
   simpa [Act.put,hd'] using hx
  ·rename_i e
   have:=h3 t y hy;have e' :¬d=t:=fun h=>e h.symm
   simpa [Act.put,Array.getElem?_setIfInBounds_ne e'] using this
theorem mb.mono {c c' :Cx} {n:Nat} {F:EF} {a:Act} (he:Ext c c') (hf:mb c n F a):mb c' n F a:=⟨hf.1,hf.2.1,fun t x hx=>(hf.2.2 t x hx).mono he⟩
theorem jv {c:Cx} {n:Nat} {F:EF} {a:Act} {o:Oper} {b:Bool} (he:mb c n F a) (hw:cy ops F o=some b):Region.wanted o (yielded ops a.tmps)=b:=by
 unfold cy at hw;split at hw
 ·rename_i hg
  simp only [Option.some.injEq] at hw; subst hw
  simp [Region.wanted,hg]
 ·rename_i g want hg
  split at hw
  ·rename_i d hd
   split at hw
   ·rename_i t ht
    simp only [Option.some.injEq] at hw; subst hw
    have h1:=(he.2.2 d _ ht).bS;have h2:a.tmps[d]? =some (.bool t):=by
     by_cases hlt:d<a.tmps.size
     ·simpa [hlt] using h1
     ·have e:a.tmps.getD d undef=undef:=by simp [Nat.le_of_not_lt hlt]
      rw [e] at h1; cases h1
    have h3:yielded ops a.tmps g=some t:=by simp [yielded,hd,h2]
    simp [Region.wanted,hg,h3]
   ·rename_i vs ht
    simp only [Option.some.injEq] at hw; subst hw
    have h1:=(he.2.2 d _ ht).bS;have h3:yielded ops a.tmps g=none:=by
     by_cases hlt:d<a.tmps.size
     ·have e:a.tmps[d]? =some (.tuple vs):=by simpa [hlt] using h1
      simp [yielded,hd,e]
     ·have e:a.tmps[d]? =none:=by simp [Nat.le_of_not_lt hlt]
      simp [yielded,hd,e]
    simp [Region.wanted,hg,h3]
   ·cases hw
  ·cases hw
theorem x7 {n:Nat} {i:Nat} {K:EF→Prop} {K' :Act→World→Prop} {Q:Exit→Act→World→Prop} {c0:Cx} (hdst:∀o∈ops.toList,dL n o.dst=true)
  (hk:∀c F a,Ext c0 c→Sub h c.h→Good c→mb c n F a→K F→K' a c.w) {c:Cx} {F:EF} {a:Act} (hE:Ext c0 c) (hs:Sub h c.h) (g:Good c) (he:mb c n F a) (hd:dOp P ops h i K F):wpOp P ops Q i K' a c.w:=by
 unfold dOp at hd;unfold wpOp;split
 ·rename_i ho; simp only [ho] at hd; exact hk c F a hE hs g he hd
 ·rename_i o ho
  simp only [ho] at hd;have hdo:dL n o.dst=true:=hdst o (by simpa using Array.mem_of_getElem? ho)
  rcases hd with ⟨h1,X,h2,h3⟩|⟨h1,h2⟩
  ·rw [if_pos (jv he h1)]
   left
   have hu:=h2 c a hs g he.2.1 (fun t _ x hx=>he.2.2 t x hx)
   have next:∀u w',(∃c',c'.w=w'∧Good c'∧Ext c c'∧Sub h c'.h∧Rep c' X u)→K' (a.put o.dst u) w' :=by
    rintro u w' ⟨c',rfl,k1,k2,k3,k4⟩
    exact hk c' _ _ (hE.trans k2) k3 k1 ((he.mono k2).put hdo k4) h3
   unfold Oper.wp;generalize (execOp a.eval o).run P c.w=r at hu;cases r with
   |ok nx w' =>
    cases nx<;>simp only [DUpon] at hu<;>simp only [Oper.upon]
    case value u=>exact next u w' hu
    case skip=>exact next undef w' hu
    case enter f args=>
     obtain ⟨rfl,hc⟩:=hu;exact hc.mono fun e w'' ⟨u,he,hcm⟩=>by subst he; exact next u w'' hcm
   |halt x w' =>exact hu.elim
  ·rw [if_neg (by rw [jv he h1]; simp)]
   exact hk c _ _ hE hs g (he.put hdo (.v _)) h2
theorem vr {n:Nat} {Q:EF→Prop} {Q' :Exit→Act→World→Prop} {c0:Cx} (hdst:∀o∈ops.toList,dL n o.dst=true)
  (hQ:∀c F a,Ext c0 c→Sub h c.h→Good c→mb c n F a→Q F→Q' .normal a c.w):∀(fuel:Nat) (listed:Array Bool) (c:Cx) (F:EF) (a:Act),Ext c0 c→Sub h c.h→Good c→mb c n F a→
   GY P md ops h Q fuel listed F→wpAny P md ops Q' fuel listed a c.w
 |0,_,c,F,a,h1,h2,h3,h4,hd=>⟨hd.1,hQ c F a h1 h2 h3 h4 hd.2⟩
 |fuel+1,listed,c,F,a,h1,h2,h3,h4,hd=>
  ⟨fun e=>hQ c F a h1 h2 h3 h4 (hd.1 e),fun i hi=>x7 hdst (fun c F a k1 k2 k3 k4 hk=>vr hdst hQ fuel _ c F a k1 k2 k3 k4 hk) h1 h2 h3 h4 (hd.2 i hi)⟩
def AD (P:Program) (md:Region.Mode) (ops:Array Oper) (h:Heap) (z:Nat) (Q:EF→Prop):Nat→Array Bool→EF→Prop
 |0,listed,F=>(Region.ready md ops listed= [z]∧Region.ready md ops (listed.setIfInBounds z true)= [])∧Q F
 |fuel+1,listed,F=>Region.ready md ops listed≠ []∧∀i∈Region.ready md ops listed,dOp P ops h i (AD P md ops h z Q fuel (listed.setIfInBounds i true)) F
def HO (md:Region.Mode) (ops:Array Oper) (z:Nat):Nat→Nat→Array Bool→Bool
 |0,_,listed=>Region.ready md ops listed== [z] && (Region.ready md ops (listed.setIfInBounds z true)).isEmpty
 |fuel+1,k,listed=>(Region.ready md ops listed).contains k && Region.free md ops listed k && HO md ops z fuel (k+1) (listed.setIfInBounds k true)
theorem tI {n z:Nat} {Q:EF→Prop} {Q' :Exit→Act→World→Prop} {c0:Cx} (hdst:∀o∈ops.toList,dL n o.dst=true)
  (hQ:∀c F a,Ext c0 c→Sub h c.h→Good c→mb c n F a→Q F→wpOp P ops Q' z (fun a' w' =>Q' .normal a' w') a c.w):∀(fuel:Nat) (listed:Array Bool) (c:Cx) (F:EF) (a:Act),Ext c0 c→Sub h c.h→Good c→mb c n F a→
   AD P md ops h z Q fuel listed F→wpAny P md ops Q' (fuel+1) listed a c.w
 |0,listed,c,F,a,h1,h2,h3,h4,hd=>⟨fun e=>(by rw [hd.1.1] at e; cases e),fun i hi=>by
   rw [hd.1.1] at hi;obtain rfl:i=z:=by simpa using hi
   exact wpOp_mono (fun a w hh=>⟨hd.1.2,hh⟩) (hQ c F a h1 h2 h3 h4 hd.2)⟩
 |fuel+1,listed,c,F,a,h1,h2,h3,h4,hd=>
  ⟨fun e=>absurd e hd.1,fun i hi=>x7 hdst (fun c F a k1 k2 k3 k4 hk=>tI hdst hQ fuel _ c F a k1 k2 k3 k4 hk) h1 h2 h3 h4 (hd.2 i hi)⟩
end
section
variable {P : Program} {U : TypeId → TI} {ops : Array Oper} {md : Region.Mode} {hm : Heap}
def cX:Op→Bool
 | .call c=>match c.callee with
  | .value _=>true
  | .builtin .append=>true
  | .builtin .copy=>true
  |_=>false
 | .alloc _=>true
 | .box _ _=>true
 | .store _ _ _=>true
 | .makeSlice _ _ _=>true
 | .makeMap _ _=>true
 | .mapUpdate _ _ _ _=>true
 |_=>false
def DPure (P:Program) (o:Oper) (F:EF) (hm:Heap) (X:AV):Prop:=
 ∀(c:Cx) (a:Act),Sub hm c.h→Good c→a.defers= []→(∀t∈ff o.op,∀x,F t=some x→Rep c x (a.tmps.getD t undef))→
  ∃u c',(execOp a.eval o).run P c.w= .ok (.value u) c'.w∧Good c'∧Ext c c'∧c'.h=c.h∧Rep c' X u
def EOK (P:Program) (o:Oper) (F:EF) (h:Heap) (Q:AV→Heap→Prop):Prop:=
 ∀(c:Cx) (a:Act),Sub h c.h→Good c→a.defers= []→(∀t∈ff o.op,∀x,F t=some x→Rep c x (a.tmps.getD t undef))→jU P c Q ((execOp a.eval o).run P c.w)
theorem qX {c:Cx} {a:Act} {ρ:Env} {o:Oper} (hd:a.defers= []) (hr:∀t∈ff o.op,∀x,lk ρ t=some x→Rep c x (a.tmps.getD t undef)):cj c a.tmps.size (restrict ρ (ff o.op)) a:=
 ⟨rfl,hd,fun t x hx=>by
  rw [j3] at hx;split at hx
  ·rename_i hc
   exact hr t (by rwa [List.contains_iff_mem] at hc) x hx
  ·cases hx⟩
theorem tN (ρ:Env) (o:Oper):∀x∈o.op.operands,ev (restrict ρ (ff o.op)) x=ev ρ x:=fun x hx=>AP fun t ht=>by
 subst ht;rw [j3,if_pos];rw [List.contains_iff_mem];simp only [ff,List.mem_filterMap];exact ⟨.tmp t,by simpa using hx,rfl⟩
theorem Dh {ρ:Env} {o:Oper} {Q:AV→Prop} (hU:∀t,aN P U t) (hp:pv U ρ hm o.op Q):∃X,Q X∧DPure P o (lk ρ) hm X:=by
 rw [←BL (tN ρ o)] at hp;obtain ⟨X,hQ,hX⟩:=wL hU hp;exact ⟨X,hQ,fun c a hs g hd hr=>hX c a _ hs g (qX hd hr)⟩
theorem Cd {ρ ρ' :Env} {h:Heap} {o:Oper} {Q:AV→Heap→Prop} (hb:cX o.op=true) (he:∀x∈o.op.operands,ev ρ x=ev ρ' x):aZ P U ρ h o Q=aZ P U ρ' h o Q:=by
 obtain ⟨d,op,t,p,a,g⟩:=o;simp only at hb he;cases op with
 |alloc t=>rfl
 |box t x=>simp only [aZ,withv,he x (by simp [Op.operands])]
 |store t a x=>simp only [aZ,withv,he a (by simp [Op.operands]),he x (by simp [Op.operands])]
 |makeSlice t l m=>simp only [aZ,withv,he l (by simp [Op.operands]),he m (by simp [Op.operands])]
 |makeMap t r=>
  cases r with
  |none=>rfl
  |some x=>simp only [aZ,Es,withv,he x (by simp [Op.operands])]
 |mapUpdate t x y z=>simp only [aZ,withv,he x (by simp [Op.operands]),he y (by simp [Op.operands]),he z (by simp [Op.operands])]
 |call c=>
  obtain ⟨cal,args,ts⟩:=c;have ha:∀x∈args.toList,ev ρ x=ev ρ' x:=fun x hx=>he x (by simp only [Op.operands,Call.operands,Array.mem_append]; exact .inr (by simpa using hx))
  cases cal with
  |value q=>
   simp only [aZ,withv,withvs,he q (by simp [Op.operands,Call.operands]),kN ha]
  |builtin b=>
   cases b with
   |append=>
    simp only [aZ];split
    ·rename_i x y ts' tx h1 h2
     simp only [withv,ha x (by rw [h1]; simp),ha y (by rw [h1]; simp)]
    ·rfl
   |copy=>
    simp only [aZ];split
    ·rename_i x y ts' tx h1 h2
     simp only [withv,ha x (by rw [h1]; simp),ha y (by rw [h1]; simp)]
    ·rfl
   |_=>simp [cX] at hb
  |_=>simp [cX] at hb
 |_=>simp [cX] at hb
def vcE (P:Program) (U:TypeId→TI) (ρ:Env) (h:Heap) (o:Oper) (Q:AV→Heap→Prop):Prop:=aZ P U ρ h o Q
theorem yY {ρ:Env} {h:Heap} {o:Oper} {Q:AV→Heap→Prop} (hU:∀t,aN P U t) (hb:cX o.op=true) (hk:vcE P U ρ h o Q):EOK P o (lk ρ) h Q:=by
 intro c a hs g hd hr;unfold vcE at hk;rw [←Cd hb (tN ρ o)] at hk;exact jK hU hk hs g (qX hd hr)
def DQ (P:Program) (o:Oper) (F:EF) (hm:Heap) (X:AV):Prop:=∀h,Sub hm h→EOK P o F h fun x h' =>x=X∧h' =h
theorem DPure.quiet {o:Oper} {F:EF} {X:AV} (hp:DPure P o F hm X):DQ P o F hm X:=by
 intro h hs c a hc g hd hr;obtain ⟨u,c',e1,g',hE,e2,hr'⟩:=hp c a (fun i b hb=>hc i b (hs i b hb)) g hd hr
 rw [e1];exact ⟨c',X,h,rfl,g',hE,hr',by rw [e2]; exact hc,rfl,rfl⟩
def FnQ (P:Program) (f:FuncId) (args:List AV) (hm:Heap) (k:AV→Prop):Prop:=∃X,(∀h,Sub hm h→ak P f args h fun x h' =>x=X∧h' =h)∧k X
def vcQ (P:Program) (U:TypeId→TI) (ρ:Env) (hm:Heap) (o:Oper) (k:AV→Prop):Prop:=match o.op with
 | .call c=>match c.callee with
  | .value q=>withv ρ q fun y=>match y with
   | .fn f cap=>withvs ρ c.args.toList fun ys=>FnQ P f (ys++cap) hm k
   |_=>False
  |_=>False
 |_=>False
theorem za {ρ:Env} {o:Oper} {k:AV→Prop} (hU:∀t,aN P U t) (hk:vcQ P U ρ hm o k):∃X,k X∧DQ P o (lk ρ) hm X:=by
 obtain ⟨d,op,t,p,a,g⟩:=o;unfold vcQ at hk;simp only at hk;split at hk
 ·rename_i cl
  obtain ⟨cal,args,ts⟩:=cl;simp only at hk;split at hk
  ·rename_i q
   obtain ⟨y,hy,hk⟩:=aI hk;split at hk
   ·rename_i f cap
    obtain ⟨ys,hys,X,hf,hQ⟩:=eS hk;refine ⟨X,hQ,fun h hs=>yY hU rfl ?_⟩
    simp only [vcE,aZ,withv,hy,withvs,hys];exact hf h hs
   ·exact hk.elim
  ·exact hk.elim
 ·exact hk.elim
def nM (P:Program) (ops:Array Oper) (hm:Heap) (o:Oper) (K:EF→Heap→Prop) (F:EF) (h:Heap):Prop:=
 (cy ops F o=some true∧(cX o.op=true∧(∃Q:AV→Heap→Prop,EOK P o F h Q∧∀X h',Q X h'→Sub hm h'∧K (gq F o.dst X) h')∨∃X,DQ P o F hm X∧K (gq F o.dst X) h))∨
 (cy ops F o=some false∧K (gq F o.dst (.v undef)) h)
def hOp (P:Program) (ops:Array Oper) (hm:Heap) (i:Nat) (K:EF→Heap→Prop) (F:EF) (h:Heap):Prop:=
 match ops[i]? with
 |none=>K F h
 |some o=>nM P ops hm o K F h
def vM (P:Program) (md:Region.Mode) (ops:Array Oper) (hm:Heap) (Q:EF→Heap→Prop):Nat→Array Bool→EF→Heap→Prop
 |0,listed,F,h=>Region.ready md ops listed= []∧Q F h
 |fuel+1,listed,F,h=>(Region.ready md ops listed= []→Q F h)∧∀i∈Region.ready md ops listed,hOp P ops hm i (vM P md ops hm Q fuel (listed.setIfInBounds i true)) F h
theorem CR {o:Oper} {F:EF} {h:Heap} {K K' :EF→Heap→Prop} (hk:∀F h,K F h→K' F h) (hs:nM P ops hm o K F h):nM P ops hm o K' F h:=by
 rcases hs with ⟨h1,⟨h2,Q,h3,h4⟩|⟨X,h3,h4⟩⟩|⟨h1,h2⟩
 ·exact .inl ⟨h1, .inl ⟨h2,Q,h3,fun X h' hq=>⟨(h4 X h' hq).1,hk _ _ (h4 X h' hq).2⟩⟩⟩
 ·exact .inl ⟨h1, .inr ⟨X,h3,hk _ _ h4⟩⟩
 ·exact .inr ⟨h1,hk _ _ h2⟩
theorem gE {i:Nat} {F:EF} {h:Heap} {K K' :EF→Heap→Prop} (hk:∀F h,K F h→K' F h) (hs:hOp P ops hm i K F h):hOp P ops hm i K' F h:=by
 unfold hOp at*;split
 ·rename_i ho; simp only [ho] at hs; exact hk _ _ hs
 ·rename_i o ho; simp only [ho] at hs; exact CR hk hs
def YP (P:Program) (ops:Array Oper) (hm:Heap) (o:Oper) (X:AV) (F:EF):Prop:=
 (cy ops F o=some true∧DQ P o F hm X)∨(cy ops F o=some false∧X= .v undef)
theorem A6 {o:Oper} {X:AV} {F:EF} {h:Heap} {K:EF→Heap→Prop} (hy:YP P ops hm o X F) (hk:K (gq F o.dst X) h):nM P ops hm o K F h:=by
 rcases hy with ⟨h1,h3⟩|⟨h1,rfl⟩
 ·exact .inl ⟨h1, .inr ⟨X,h3,hk⟩⟩
 ·exact .inr ⟨h1,hk⟩
theorem jV {o:Oper} {F:EF} {h:Heap} {K:EF→Heap→Prop} (he:cX o.op=false) (hs:nM P ops hm o K F h):∃X,YP P ops hm o X F∧K (gq F o.dst X) h:=by
 rcases hs with ⟨h1,⟨h2,_⟩|⟨X,h3,h4⟩⟩|⟨h1,h2⟩
 ·rw [he] at h2; cases h2
 ·exact ⟨X, .inl ⟨h1,h3⟩,h4⟩
 ·exact ⟨_, .inr ⟨h1,rfl⟩,h2⟩
theorem xR {o:Oper} {F F' :EF} {h:Heap} {Q:AV→Heap→Prop} (hf:∀t∈ff o.op,F t=F' t) (hd:EOK P o F h Q):EOK P o F' h Q:=
 fun c a hs g hdf hr=>hd c a hs g hdf fun t ht x hx=>hr t ht x (by rw [←hf t ht]; exact hx)
theorem Ad {o:Oper} {F F' :EF} {X:AV} (hf:∀t∈ff o.op,F t=F' t) (hd:DQ P o F hm X):DQ P o F' hm X:=fun h hs=>xR hf (hd h hs)
theorem u0 {o:Oper} {F F' :EF} {X:AV} (hf:∀t∈o.looksAt ops,F t=F' t) (hy:YP P ops hm o X F):YP P ops hm o X F' :=by
 rcases hy with ⟨h1,h2⟩|⟨h1,h2⟩
 ·exact .inl ⟨by rw [←dO hf]; exact h1,Ad (fun t ht=>hf t (j7 ht)) h2⟩
 ·exact .inr ⟨by rw [←dO hf]; exact h1,h2⟩
theorem zJ {j:Nat} {oi oj:Oper} {X:AV} (hj:ops[j]? =some oj) (hap:oi.apart ops oj=true) {K:EF→Heap→Prop} {F:EF} {h:Heap}
  (hy:YP P ops hm oi X F) (hs:hOp P ops hm j K (gq F oi.dst X) h):hOp P ops hm j (fun F' h' =>YP P ops hm oi X F'∧K (gq F' oi.dst X) h') F h:=by
 obtain ⟨h1,h2,h3⟩:=Oper.apart_spec hap;unfold hOp at*;simp only [hj] at*;have hlook:∀t∈oj.looksAt ops,gq F oi.dst X t=F t:=fun t ht=>nj fun e he hte=>h1 e he (hte▸ht)
 have hlook2:∀u,∀t∈oi.looksAt ops,F t=gq F oj.dst u t:=fun u t ht=>(nj fun e he hte=>h3 e he (hte▸ht)).symm
 rcases hs with ⟨w1,⟨w0,Q,w2,w3⟩|⟨Y,w2,w3⟩⟩|⟨w1,w2⟩
 ·refine .inl ⟨by rw [←dO hlook]; exact w1, .inl ⟨w0,Q,xR (fun t ht=>hlook t (j7 ht)) w2,fun Y h' hq=>⟨(w3 Y h' hq).1,u0 (hlook2 Y) hy, ?_⟩⟩⟩
  rw [←kU F X Y h2]; exact (w3 Y h' hq).2
 ·refine .inl ⟨by rw [←dO hlook]; exact w1, .inr ⟨Y,Ad (fun t ht=>hlook t (j7 ht)) w2,u0 (hlook2 Y) hy, ?_⟩⟩
  rw [←kU F X Y h2]; exact w3
 ·refine .inr ⟨by rw [←dO hlook]; exact w1,u0 (hlook2 _) hy, ?_⟩
  rw [←kU F X _ h2]; exact w2
theorem kR {i:Nat} {oi:Oper} {X:AV} {F:EF} {h:Heap} {K:EF→Heap→Prop} (hi:ops[i]? =some oi) (hy:YP P ops hm oi X F) (hk:K (gq F oi.dst X) h):hOp P ops hm i K F h:=by
 unfold hOp;simp only [hi];exact A6 hy hk
theorem qA {Q:EF→Heap→Prop} {i:Nat} {oi:Oper} {X:AV} (hi:ops[i]? =some oi):
  ∀(fuel:Nat) (listed:Array Bool) (F:EF) (h:Heap),
   (∀j oj,ops[j]? =some oj→j≠i→listed.getD j true=false→(∀e∈oj.after,Region.binds md e=true→e.on≠i)→oi.apart ops oj=true)→
   i∈Region.ready md ops listed→YP P ops hm oi X F→
   vM P md ops hm Q fuel (listed.setIfInBounds i true) (gq F oi.dst X) h→vM P md ops hm Q (fuel+1) listed F h:=by
 intro fuel
 induction fuel with
 |zero=>
  intro listed F h _ hr hy H;refine ⟨fun e=>(by rw [e] at hr; cases hr),fun j hj=> ?_⟩
  by_cases hji:j=i
  ·subst hji; exact kR hi hy H
  ·have:=ready_mono hj hji
   rw [H.1] at this;cases this
 |succ fuel ih=>
  intro listed F h hfree hr hy H;refine ⟨fun e=>(by rw [e] at hr; cases hr),fun j hj=> ?_⟩
  by_cases hji:j=i
  ·subst hji; exact kR hi hy H
  ·have h1:=H.2 j (ready_mono hj hji)
   obtain ⟨hjun,oj,hoj,hall⟩:=mem_ready.1 hj;have hnot:∀e∈oj.after,Region.binds md e=true→e.on≠i:=fun e he hb heq=>by
    have h1:=hall e he hb;have h0:=(mem_ready.1 hr).1;rw [heq] at h1;rcases Nat.lt_or_ge i listed.size with h' |h'
    ·simp [h'] at h0 h1; rw [h0] at h1; cases h1
    ·simp [Array.getElem?_eq_none h'] at h1
   have h2:=zJ hoj (hfree j oj hoj hji hjun hnot) hy h1;have hfree' :∀k ok,ops[k]? =some ok→k≠i→(listed.setIfInBounds j true).getD k true=false→
     (∀e∈ok.after,Region.binds md e=true→e.on≠i)→oi.apart ops ok=true:=fun k ok hk hki hun hno=>by
    refine hfree k ok hk hki ?_ hno
    by_cases hjk:j=k
    ·subst hjk; exact hjun
    ·rw [getD_set_ne true hjk] at hun; exact hun
   refine gE (fun F' h' h3=>ih (listed.setIfInBounds j true) F' h' hfree' (ready_mono hr (Ne.symm hji)) h3.1 ?_) h2
   rw [Array.setIfInBounds_comm _ _ hji];exact h3.2
def nc (md:Region.Mode) (ops:Array Oper):List Nat→Array Bool→Bool
 | [],listed=>(Region.ready md ops listed).isEmpty
 |k::ks,listed=>(match ops[k]? with
  |some o=>if cX o.op then Region.ready md ops listed== [k] else (Region.ready md ops listed).contains k && Region.free md ops listed k
  |none=>false) && nc md ops ks (listed.setIfInBounds k true)
def iB (P:Program) (ops:Array Oper) (hm:Heap) (Q:EF→Heap→Prop):List Nat→EF→Heap→Prop
 | [],F,h=>Q F h
 |i::r,F,h=>hOp P ops hm i (iB P ops hm Q r) F h
theorem mS {Q:EF→Heap→Prop}:∀(l:List Nat) (listed:Array Bool) (F:EF) (h:Heap),
  nc md ops l listed=true→iB P ops hm Q l F h→vM P md ops hm Q l.length listed F h
 | [],_,_,_,hB,hd=>⟨by simpa [nc] using hB,hd⟩
 |k::l,listed,F,h,hB,hd=>by
  simp only [nc,Bool.and_eq_true] at hB;obtain ⟨hB,hB'⟩:=hB;cases h0:ops[k]? with
  |none=>rw [h0] at hB; cases hB
  |some o=>
   rw [h0] at hB;simp only at hB;cases he:cX o.op with
   |true=>
    rw [he,if_pos rfl] at hB;have hB:=beq_iff_eq.1 hB;refine ⟨fun e=>(by rw [hB] at e; cases e),fun j hj=> ?_⟩
    rw [hB] at hj;obtain rfl:j=k:=by simpa using hj
    exact gE (fun F' h' hh=>mS l _ F' h' hB' hh) hd
   |false=>
    rw [he,if_neg (by simp),Bool.and_eq_true] at hB
    have hd:nM P ops hm o (iB P ops hm Q l) F h:=by
     have:hOp P ops hm k (iB P ops hm Q l) F h:=hd;unfold hOp at this;simpa only [h0] using this
    obtain ⟨X,hy,hK⟩:=jV he hd;exact qA h0 l.length listed F h (Region.free_spec h0 hB.2) (by simpa using hB.1) hy (mS l _ _ _ hB' hK)
def jl (md:Region.Mode) (ops:Array Oper):List Nat→Array Bool→Bool
 | [],_=>true
 |k::ks,listed=>(match ops[k]? with
  |some o=>if cX o.op then Region.ready md ops listed== [k] else (Region.ready md ops listed).contains k && Region.free md ops listed k
  |none=>false) && jl md ops ks (listed.setIfInBounds k true)
def dJ:List Nat→Array Bool→Array Bool
 | [],l=>l
 |k::ks,l=>dJ ks (l.setIfInBounds k true)
theorem mB {Q:EF→Heap→Prop} (m:Nat):∀(l:List Nat) (listed:Array Bool) (F:EF) (h:Heap),
  jl md ops l listed=true→iB P ops hm (fun F h=>vM P md ops hm Q m (dJ l listed) F h) l F h→vM P md ops hm Q (m+l.length) listed F h
 | [],_,_,_,_,hd=>hd
 |k::l,listed,F,h,hB,hd=>by
  simp only [jl,Bool.and_eq_true] at hB;obtain ⟨hB,hB'⟩:=hB;cases h0:ops[k]? with
  |none=>rw [h0] at hB; cases hB
  |some o=>
   rw [h0] at hB;simp only at hB;cases he:cX o.op with
   |true=>
    rw [he,if_pos rfl] at hB;have hB:=beq_iff_eq.1 hB;refine ⟨fun e=>(by rw [hB] at e; cases e),fun j hj=> ?_⟩
    rw [hB] at hj;obtain rfl:j=k:=by simpa using hj
    exact gE (fun F' h' hh=>mB m l _ F' h' hB' hh) hd
   |false=>
    rw [he,if_neg (by simp),Bool.and_eq_true] at hB
    have hd:nM P ops hm o (iB P ops hm (fun F h=>vM P md ops hm Q m (dJ (k::l) listed) F h) l) F h:=by
     have:hOp P ops hm k (iB P ops hm _ l) F h:=hd;unfold hOp at this;simpa only [h0] using this
    obtain ⟨X,hy,hK⟩:=jV he hd;exact qA h0 (m+l.length) listed F h (Region.free_spec h0 hB.2) (by simpa using hB.1) hy (mB m l _ _ _ hB' hK)
theorem lp {Q Q' :EF→Heap→Prop} (hk:∀F h,Q F h→Q' F h):∀(l:List Nat) (F:EF) (h:Heap),iB P ops hm Q l F h→iB P ops hm Q' l F h
 | [],F,h,hh=>hk F h hh
 |_::l,_,_,hh=>gE (fun F h hh=>lp hk l F h hh) hh
inductive Ord where
 |seq (l:List Nat)
 |fork (l:List Nat) (i:Nat) (a:Ord) (j:Nat) (b:Ord)
 |quiet (l:List Nat) (i:Nat) (t:Ord)
 |news (l:List Nat) (is:List Nat) (t:Ord)
def wH (md:Region.Mode) (ops:Array Oper):Nat→List Nat→Array Bool→Bool
 |0,l,_=>l.isEmpty
 |fuel+1,l,listed=>l.isEmpty||(!(Region.ready md ops listed).isEmpty && (Region.ready md ops listed).all fun i=>l.contains i && wH md ops fuel (l.erase i) (listed.setIfInBounds i true))
def K7 (o:Oper):Bool:=o.guard.isNone && o.dst.isSome && match o.op with
 | .alloc _=>true
 |_=>false
def HY (md:Region.Mode) (ops:Array Oper) (is:List Nat) (listed:Array Bool):Bool:=
 wH md ops is.length is listed && decide is.Nodup && decide (is.map fun i=>(ops[i]?).bind (·.dst)).Nodup && is.all fun i=>((ops[i]?).map K7).getD false
def Ord.len:Ord→Nat
 | .seq l=>l.length
 | .fork l _ a _ _=>a.len+1+l.length
 | .quiet l _ t=>t.len+1+l.length
 | .news l is t=>t.len+is.length+l.length
def oU (md:Region.Mode) (ops:Array Oper):Ord→Array Bool→Bool
 | .seq l,listed=>nc md ops l listed
 | .fork l i a j b,listed=>jl md ops l listed && (Region.ready md ops (dJ l listed)== [i,j]) && (a.len==b.len) &&
  (oU md ops a ((dJ l listed).setIfInBounds i true) && oU md ops b ((dJ l listed).setIfInBounds j true))
 | .quiet l i t,listed=>jl md ops l listed && (((Region.ready md ops (dJ l listed)).contains i && Region.free md ops (dJ l listed) i) && oU md ops t ((dJ l listed).setIfInBounds i true))
 | .news l is t,listed=>jl md ops l listed && (HY md ops is (dJ l listed) && oU md ops t (dJ is (dJ l listed)))
def ru (P:Program) (md:Region.Mode) (ops:Array Oper) (hm:Heap) (z:Nat) (Q:EF→Heap→Prop):Nat→Array Bool→EF→Heap→Prop
 |0,listed,F,h=>(Region.ready md ops listed= [z]∧Region.ready md ops (listed.setIfInBounds z true)= [])∧Q F h
 |fuel+1,listed,F,h=>Region.ready md ops listed≠ []∧∀i∈Region.ready md ops listed,hOp P ops hm i (ru P md ops hm z Q fuel (listed.setIfInBounds i true)) F h
def Closed (md:Region.Mode) (ops:Array Oper) (listed:Array Bool):Prop:=∀j oj,ops[j]? =some oj→listed.getD j false=true→∀e∈oj.after,Region.binds md e=true→listed.getD e.on false=true
def Em (md:Region.Mode) (ops:Array Oper) (k:Nat):List Nat:=match ops[k]? with
 |some o=>(o.after.toList.filter (Region.binds md)).map (·.on)
 |none=> []
def lN (md:Region.Mode) (ops:Array Oper) (s:List Nat):List Nat:=(List.range ops.size).filter fun k=>s.contains k||s.any fun j=>(Em md ops j).contains k
def uH (md:Region.Mode) (ops:Array Oper) (z:Nat):Bool:=(List.range ops.size).all fun k=>(lN md ops (lN md ops (lN md ops [z]))).contains k
theorem gS {z:Nat} {listed:Array Bool} (hc:Closed md ops listed) (hz:z∈Region.ready md ops listed) {s:List Nat} (hs:∀k∈s,k≠z→listed.getD k false=true):∀k∈lN md ops s,k≠z→listed.getD k false=true:=by
 intro k hk hkz;simp only [lN,List.mem_filter,Bool.or_eq_true,List.contains_iff_mem,List.any_eq_true] at hk;obtain ⟨_,h1|⟨j,hj,hp⟩⟩:=hk
 ·exact hs k h1 hkz
 ·unfold Em at hp
  cases ho:ops[j]? with
  |none=>rw [ho] at hp; cases hp
  |some o=>
   rw [ho] at hp;simp only [List.mem_map,List.mem_filter] at hp;obtain ⟨e,⟨he,hb⟩,rfl⟩:=hp
   by_cases hjz:j=z
   ·subst hjz
    obtain ⟨_,oz,hoz,hall⟩:=mem_ready.1 hz;rw [ho] at hoz;cases hoz;have:=hall e (by simpa using he) hb
    simpa using this
   ·exact hc j o ho (hs j hj hjz) e (by simpa using he) hb
theorem zg {z:Nat} (hz:uH md ops z=true) {listed:Array Bool} (hc:Closed md ops listed) {i:Nat} (h1:z∈Region.ready md ops listed) (h2:i∈Region.ready md ops listed):i=z:=by
 obtain ⟨hun,oi,hoi,_⟩:=mem_ready.1 h2;have hlt:i<ops.size:=(Array.getElem?_eq_some_iff.1 hoi).1;unfold uH at hz;rw [List.all_eq_true] at hz;have hm:=hz i (List.mem_range.2 hlt);rw [List.contains_iff_mem] at hm;have s0:∀k∈ [z],k≠z→listed.getD k false=true:=fun k hk hn=>absurd (by simpa using hk) hn
 have s3:=gS hc h1 (gS hc h1 (gS hc h1 s0))
 by_cases e:i=z
 ·exact e
 ·have:=s3 i hm e
  exfalso
  rcases Nat.lt_or_ge i listed.size with h' |h'
  ·simp [h'] at hun this; rw [hun] at this; cases this
  ·simp [Array.getElem?_eq_none h'] at this
theorem Closed.set {listed:Array Bool} (hc:Closed md ops listed) {j:Nat} (hj:j∈Region.ready md ops listed):Closed md ops (listed.setIfInBounds j true):=by
 have up:∀k,listed.getD k false=true→(listed.setIfInBounds j true).getD k false=true:=fun k hk=>by
  by_cases e:j=k
  ·subst e
   rcases Nat.lt_or_ge j listed.size with h' |h'
   ·simp [h']
   ·simp [Array.getElem?_eq_none h'] at hk
  ·rw [getD_set_ne false e]; exact hk
 intro k ok hk hl e he hb
 by_cases hkj:j=k
 ·subst hkj
  obtain ⟨_,oj,hoj,hall⟩:=mem_ready.1 hj;rw [hk] at hoj;cases hoj;refine up _ ?_;have:=hall e he hb;simpa using this
 ·rw [getD_set_ne false hkj] at hl
  exact up _ (hc k ok hk hl e he hb)
theorem Closed.none (md:Region.Mode) (ops:Array Oper) (m:Nat):Closed md ops (Array.replicate m false):=fun j oj _ hl=>by
 rcases Nat.lt_or_ge j m with h' |h'
 ·simp [h'] at hl
 ·simp [h'] at hl
theorem oC {Q:EF→Heap→Prop} {z i:Nat} {oi:Oper} {X:AV} (hz:uH md ops z=true) (hi:ops[i]? =some oi):
  ∀(fuel:Nat) (listed:Array Bool) (F:EF) (h:Heap),Closed md ops listed→
   (∀j oj,ops[j]? =some oj→j≠i→listed.getD j true=false→(∀e∈oj.after,Region.binds md e=true→e.on≠i)→oi.apart ops oj=true)→
   i∈Region.ready md ops listed→YP P ops hm oi X F→
   ru P md ops hm z Q fuel (listed.setIfInBounds i true) (gq F oi.dst X) h→ru P md ops hm z Q (fuel+1) listed F h:=by
 intro fuel
 induction fuel with
 |zero=>
  intro listed F h hcl _ hr hy H;refine ⟨fun e=>(by rw [e] at hr; cases hr),fun j hj=> ?_⟩
  by_cases hji:j=i
  ·subst hji; exact kR hi hy H
  ·have:=ready_mono hj hji
   rw [H.1.1] at this;obtain rfl:j=z:=by simpa using this
   exact (hji (zg hz hcl hj hr).symm).elim
 |succ fuel ih=>
  intro listed F h hcl hfree hr hy H;refine ⟨fun e=>(by rw [e] at hr; cases hr),fun j hj=> ?_⟩
  by_cases hji:j=i
  ·subst hji; exact kR hi hy H
  ·have h1:=H.2 j (ready_mono hj hji)
   obtain ⟨hjun,oj,hoj,hall⟩:=mem_ready.1 hj;have hnot:∀e∈oj.after,Region.binds md e=true→e.on≠i:=fun e he hb heq=>by
    have h1:=hall e he hb;have h0:=(mem_ready.1 hr).1;rw [heq] at h1;rcases Nat.lt_or_ge i listed.size with h' |h'
    ·simp [h'] at h0 h1; rw [h0] at h1; cases h1
    ·simp [Array.getElem?_eq_none h'] at h1
   have h2:=zJ hoj (hfree j oj hoj hji hjun hnot) hy h1;have hfree' :∀k ok,ops[k]? =some ok→k≠i→(listed.setIfInBounds j true).getD k true=false→
     (∀e∈ok.after,Region.binds md e=true→e.on≠i)→oi.apart ops ok=true:=fun k ok hk hki hun hno=>by
    refine hfree k ok hk hki ?_ hno
    by_cases hjk:j=k
    ·subst hjk; exact hjun
    ·rw [getD_set_ne true hjk] at hun; exact hun
   refine gE (fun F' h' h3=>ih (listed.setIfInBounds j true) F' h' (hcl.set hj) hfree' (ready_mono hr (Ne.symm hji)) h3.1 ?_) h2
   rw [Array.setIfInBounds_comm _ _ hji];exact h3.2
def wB (md:Region.Mode) (ops:Array Oper) (z:Nat):List Nat→Array Bool→Bool
 | [],listed=>Region.ready md ops listed== [z] && (Region.ready md ops (listed.setIfInBounds z true)).isEmpty
 |k::ks,listed=>(match ops[k]? with
  |some o=>if cX o.op then Region.ready md ops listed== [k] else (Region.ready md ops listed).contains k && Region.free md ops listed k
  |none=>false) && wB md ops z ks (listed.setIfInBounds k true)
theorem oD {Q:EF→Heap→Prop} {z:Nat} (hz:uH md ops z=true):∀(l:List Nat) (listed:Array Bool) (F:EF) (h:Heap),Closed md ops listed→
  wB md ops z l listed=true→iB P ops hm Q l F h→ru P md ops hm z Q l.length listed F h
 | [],_,_,_,_,hB,hd=>⟨by simpa [wB] using hB,hd⟩
 |k::l,listed,F,h,hcl,hB,hd=>by
  simp only [wB,Bool.and_eq_true] at hB;obtain ⟨hB,hB'⟩:=hB;cases h0:ops[k]? with
  |none=>rw [h0] at hB; cases hB
  |some o=>
   rw [h0] at hB;simp only at hB;cases he:cX o.op with
   |true=>
    rw [he,if_pos rfl] at hB;have hB:=beq_iff_eq.1 hB;refine ⟨fun e=>(by rw [hB] at e; cases e),fun j hj=> ?_⟩
    rw [hB] at hj;obtain rfl:j=k:=by simpa using hj
    exact gE (fun F' h' hh=>oD hz l _ F' h' (hcl.set (by rw [hB]; simp)) hB' hh) hd
   |false=>
    rw [he,if_neg (by simp),Bool.and_eq_true] at hB
    have hd:nM P ops hm o (iB P ops hm Q l) F h:=by
     have:hOp P ops hm k (iB P ops hm Q l) F h:=hd;unfold hOp at this;simpa only [h0] using this
    obtain ⟨X,hy,hK⟩:=jV he hd;have hin:k∈Region.ready md ops listed:=by simpa using hB.1
    exact oC hz h0 l.length listed F h hcl (Region.free_spec h0 hB.2) hin hy (oD hz l _ _ _ (hcl.set hin) hB' hK)
theorem sF {n:Nat} {i:Nat} {K:EF→Heap→Prop} {K' :Act→World→Prop} {Q:Exit→Act→World→Prop} {c0:Cx} (hdst:∀o∈ops.toList,dL n o.dst=true)
  (hk:∀c F h a,Ext c0 c→Sub h c.h→Sub hm c.h→Good c→mb c n F a→K F h→K' a c.w) {c:Cx} {F:EF} {h:Heap} {a:Act} (hE:Ext c0 c) (hs:Sub h c.h) (hs' :Sub hm c.h) (g:Good c) (he:mb c n F a) (hd:hOp P ops hm i K F h):wpOp P ops Q i K' a c.w:=by
 unfold hOp at hd;unfold wpOp;split
 ·rename_i ho; simp only [ho] at hd; exact hk c F h a hE hs hs' g he hd
 ·rename_i o ho
  simp only [ho] at hd;have hdo:dL n o.dst=true:=hdst o (by simpa using Array.mem_of_getElem? ho)
  have main:∀ {h0:Heap} {R:AV→Heap→Prop},Sub h0 c.h→EOK P o F h0 R→(∀c' x h',Good c'→Ext c c'→Sub h' c'.h→R x h'→∀u,Rep c' x u→K' (a.put o.dst u) c'.w)→Oper.wp P o a c.w K' Q:=by
   intro h0 R hs h2 next';have hu:=h2 c a hs g he.2.1 (fun t _ x hx=>he.2.2 t x hx)
   have next:∀u w',dX c R u w'→K' (a.put o.dst u) w' :=by
    rintro u w' ⟨c',x,h',rfl,g',hE',hr,hs2,hR⟩
    exact next' c' x h' g' hE' hs2 hR u hr
   unfold Oper.wp;generalize (execOp a.eval o).run P c.w=r at hu;cases r with
   |ok nx w' =>
    cases nx<;>simp only [jU] at hu<;>simp only [Oper.upon]
    case value u=>exact next u w' hu
    case skip=>exact next undef w' hu
    case enter f args=>
     obtain ⟨rfl,hc⟩:=hu;exact hc.mono fun e w'' ⟨u,he,hcm⟩=>by subst he; exact next u w'' hcm
   |halt x w' =>exact hu.elim
  rcases hd with ⟨h1,⟨h0,R,h2,h3⟩|⟨X,h2,h3⟩⟩|⟨h1,h2⟩
  ·rw [if_pos (jv he h1)]
   left
   refine main hs h2 fun c' x h' g' hE' hs2 hR u hr=> ?_
   obtain ⟨k1,k2⟩:=h3 x h' hR;exact hk c' _ h' _ (hE.trans hE') hs2 (fun j b hj=>hs2 _ _ (k1 _ _ hj)) g' ((he.mono hE').put hdo hr) k2
  ·rw [if_pos (jv he h1)]
   left
   refine main (fun _ _ e=>e) (h2 c.h hs') fun c' x h' g' hE' hs2 hR u hr=> ?_
   obtain ⟨rfl,rfl⟩:=hR;exact hk c' _ h _ (hE.trans hE') (fun j b hj=>hs2 _ _ (hs _ _ hj)) (fun j b hj=>hs2 _ _ (hs' _ _ hj)) g' ((he.mono hE').put hdo hr) h3
  ·rw [if_neg (by rw [jv he h1]; simp)]
   exact hk c _ h _ hE hs hs' g (he.put hdo (.v _)) h2
theorem qB {n:Nat} {Q:EF→Heap→Prop} {Q' :Exit→Act→World→Prop} {c0:Cx} (hdst:∀o∈ops.toList,dL n o.dst=true)
  (hQ:∀c F h a,Ext c0 c→Sub h c.h→Good c→mb c n F a→Q F h→Q' .normal a c.w):∀(fuel:Nat) (listed:Array Bool) (c:Cx) (F:EF) (h:Heap) (a:Act),Ext c0 c→Sub h c.h→Sub hm c.h→Good c→mb c n F a→
   vM P md ops hm Q fuel listed F h→wpAny P md ops Q' fuel listed a c.w
 |0,_,c,F,h,a,h1,h2,_,h3,h4,hd=>⟨hd.1,hQ c F h a h1 h2 h3 h4 hd.2⟩
 |fuel+1,listed,c,F,h,a,h1,h2,h2',h3,h4,hd=>
  ⟨fun e=>hQ c F h a h1 h2 h3 h4 (hd.1 e),fun i hi=>sF hdst (fun c F h a k1 k2 k2' k3 k4 hk=>qB hdst hQ fuel _ c F h a k1 k2 k2' k3 k4 hk) h1 h2 h2' h3 h4 (hd.2 i hi)⟩
theorem tU {n z:Nat} {Q:EF→Heap→Prop} {Q' :Exit→Act→World→Prop} {c0:Cx} (hdst:∀o∈ops.toList,dL n o.dst=true)
  (hQ:∀c F h a,Ext c0 c→Sub h c.h→Good c→mb c n F a→Q F h→wpOp P ops Q' z (fun a' w' =>Q' .normal a' w') a c.w):∀(fuel:Nat) (listed:Array Bool) (c:Cx) (F:EF) (h:Heap) (a:Act),Ext c0 c→Sub h c.h→Sub hm c.h→Good c→mb c n F a→
   ru P md ops hm z Q fuel listed F h→wpAny P md ops Q' (fuel+1) listed a c.w
 |0,listed,c,F,h,a,h1,h2,_,h3,h4,hd=>⟨fun e=>(by rw [hd.1.1] at e; cases e),fun i hi=>by
   rw [hd.1.1] at hi;obtain rfl:i=z:=by simpa using hi
   exact wpOp_mono (fun a w hh=>⟨hd.1.2,hh⟩) (hQ c F h a h1 h2 h3 h4 hd.2)⟩
 |fuel+1,listed,c,F,h,a,h1,h2,h2',h3,h4,hd=>
  ⟨fun e=>absurd e hd.1,fun i hi=>sF hdst (fun c F h a k1 k2 k2' k3 k4 hk=>tU hdst hQ fuel _ c F h a k1 k2 k2' k3 k4 hk) h1 h2 h2' h3 h4 (hd.2 i hi)⟩
def A4 (P:Program) (md:Region.Mode) (ops:Array Oper) (hm:Heap) (fin:Array Bool) (R:EF→Heap→Prop):Nat→Array Bool→EF→Heap→Prop
 |0,listed,F,h=>listed=fin∧R F h
 |fuel+1,listed,F,h=>Region.ready md ops listed≠ []∧∀i∈Region.ready md ops listed,hOp P ops hm i (A4 P md ops hm fin R fuel (listed.setIfInBounds i true)) F h
def Ar (md:Region.Mode) (ops:Array Oper) (l:List Nat):Bool:=(List.range ops.size).all fun j=>l.contains j||l.all fun k=>(lN md ops (lN md ops (lN md ops [j]))).contains k
theorem Cq {l:List Nat} (hb:Ar md ops l=true) {listed:Array Bool} (hc:Closed md ops listed) {j:Nat} (hj:j∈Region.ready md ops listed) (hl:j∉l):∀k∈l,listed.getD k false=true:=by
 intro k hk;obtain ⟨hun,oj,hoj,_⟩:=mem_ready.1 hj;have hlt:j<ops.size:=(Array.getElem?_eq_some_iff.1 hoj).1;unfold Ar at hb;rw [List.all_eq_true] at hb;have hm:=hb j (List.mem_range.2 hlt);rw [Bool.or_eq_true,List.contains_iff_mem] at hm;rcases hm with hm|hm
 ·exact (hl hm).elim
 ·have s0:∀k∈ [j],k≠j→listed.getD k false=true:=fun k hk hn=>absurd (by simpa using hk) hn
  have s3:=gS hc hj (gS hc hj (gS hc hj s0));rw [List.all_eq_true] at hm;have:=hm k hk;rw [List.contains_iff_mem] at this;exact s3 k this fun e=>hl (e▸hk)
theorem A5 {R:EF→Heap→Prop} {fin:Array Bool} {l:List Nat} {i:Nat} {oi:Oper} {X:AV} (hb:Ar md ops l=true) (hfin:∀j∈l,fin.getD j false=true) (hil:i∈l) (hi:ops[i]? =some oi):
  ∀(fuel:Nat) (listed:Array Bool) (F:EF) (h:Heap),Closed md ops listed→
   (∀j oj,ops[j]? =some oj→j≠i→listed.getD j true=false→(∀e∈oj.after,Region.binds md e=true→e.on≠i)→oi.apart ops oj=true)→
   i∈Region.ready md ops listed→YP P ops hm oi X F→
   A4 P md ops hm fin R fuel (listed.setIfInBounds i true) (gq F oi.dst X) h→A4 P md ops hm fin R (fuel+1) listed F h:=by
 intro fuel
 induction fuel with
 |zero=>
  intro listed F h hcl _ hr hy H;refine ⟨fun e=>(by rw [e] at hr; cases hr),fun j hj=> ?_⟩
  by_cases hji:j=i
  ·subst hji; exact kR hi hy H
  ·exfalso
   have hiu:=(mem_ready.1 hr).1;have hju:=(mem_ready.1 hj).1
   by_cases hjl:j∈l
   ·have h1:=hfin j hjl
    rw [←H.1,getD_set_ne false (Ne.symm hji)] at h1;rcases Nat.lt_or_ge j listed.size with h' |h'
    ·simp [h'] at h1 hju; rw [hju] at h1; cases h1
    ·simp [Array.getElem?_eq_none h'] at h1
   ·have h1:=Cq hb hcl hj hjl i hil
    rcases Nat.lt_or_ge i listed.size with h' |h'
    ·simp [h'] at h1 hiu; rw [hiu] at h1; cases h1
    ·simp [Array.getElem?_eq_none h'] at h1
 |succ fuel ih=>
  intro listed F h hcl hfree hr hy H;refine ⟨fun e=>(by rw [e] at hr; cases hr),fun j hj=> ?_⟩
  by_cases hji:j=i
  ·subst hji; exact kR hi hy H
  ·have h1:=H.2 j (ready_mono hj hji)
   obtain ⟨hjun,oj,hoj,hall⟩:=mem_ready.1 hj;have hnot:∀e∈oj.after,Region.binds md e=true→e.on≠i:=fun e he hb heq=>by
    have h1:=hall e he hb;have h0:=(mem_ready.1 hr).1;rw [heq] at h1;rcases Nat.lt_or_ge i listed.size with h' |h'
    ·simp [h'] at h0 h1; rw [h0] at h1; cases h1
    ·simp [Array.getElem?_eq_none h'] at h1
   have h2:=zJ hoj (hfree j oj hoj hji hjun hnot) hy h1;have hfree' :∀k ok,ops[k]? =some ok→k≠i→(listed.setIfInBounds j true).getD k true=false→
     (∀e∈ok.after,Region.binds md e=true→e.on≠i)→oi.apart ops ok=true:=fun k ok hk hki hun hno=>by
    refine hfree k ok hk hki ?_ hno
    by_cases hjk:j=k
    ·subst hjk; exact hjun
    ·rw [getD_set_ne true hjk] at hun; exact hun
   refine gE (fun F' h' h3=>ih (listed.setIfInBounds j true) F' h' (hcl.set hj) hfree' (ready_mono hr (Ne.symm hji)) h3.1 ?_) h2
   rw [Array.setIfInBounds_comm _ _ hji];exact h3.2
theorem oE {R:EF→Heap→Prop} {fin:Array Bool} {l:List Nat} (hb:Ar md ops l=true) (hfin:∀j∈l,fin.getD j false=true):∀(r:List Nat) (listed:Array Bool) (F:EF) (h:Heap),(∀k∈r,k∈l)→fin=dJ r listed→Closed md ops listed→
  jl md ops r listed=true→iB P ops hm R r F h→A4 P md ops hm fin R r.length listed F h
 | [],_,_,_,_,hf,_,_,hd=>⟨hf.symm,hd⟩
 |k::r,listed,F,h,hr,hf,hcl,hB,hd=>by
  simp only [jl,Bool.and_eq_true] at hB;obtain ⟨hB,hB'⟩:=hB;have hr' :∀j∈r,j∈l:=fun j hj=>hr j (List.mem_cons_of_mem _ hj)
  cases h0:ops[k]? with
  |none=>rw [h0] at hB; cases hB
  |some o=>
   rw [h0] at hB;simp only at hB;cases he:cX o.op with
   |true=>
    rw [he,if_pos rfl] at hB;have hB:=beq_iff_eq.1 hB;refine ⟨fun e=>(by rw [hB] at e; cases e),fun j hj=> ?_⟩
    rw [hB] at hj;obtain rfl:j=k:=by simpa using hj
    exact gE (fun F' h' hh=>oE hb hfin r _ F' h' hr' hf (hcl.set (by rw [hB]; simp)) hB' hh) hd
   |false=>
    rw [he,if_neg (by simp),Bool.and_eq_true] at hB
    have hd:nM P ops hm o (iB P ops hm R r) F h:=by
     have:hOp P ops hm k (iB P ops hm R r) F h:=hd;unfold hOp at this;simpa only [h0] using this
    obtain ⟨X,hy,hK⟩:=jV he hd;have hin:k∈Region.ready md ops listed:=by simpa using hB.1
    exact A5 hb hfin (hr k (List.mem_cons_self ..)) h0 r.length listed F h hcl (Region.free_spec h0 hB.2) hin hy (oE hb hfin r _ _ _ hr' hf (hcl.set hin) hB' hK)
theorem tV {n m:Nat} {R:EF→Heap→Prop} {fin:Array Bool} {Q' :Exit→Act→World→Prop} {c0:Cx} (hdst:∀o∈ops.toList,dL n o.dst=true)
  (hR:∀c F h a,Ext c0 c→Sub h c.h→Good c→mb c n F a→R F h→wpAny P md ops Q' m fin a c.w):∀(fuel:Nat) (listed:Array Bool) (c:Cx) (F:EF) (h:Heap) (a:Act),Ext c0 c→Sub h c.h→Sub hm c.h→Good c→mb c n F a→
   A4 P md ops hm fin R fuel listed F h→wpAny P md ops Q' (m+fuel) listed a c.w
 |0,listed,c,F,h,a,h1,h2,_,h3,h4,hd=>by rw [hd.1]; exact hR c F h a h1 h2 h3 h4 hd.2
 |fuel+1,listed,c,F,h,a,h1,h2,h2',h3,h4,hd=>
  ⟨fun e=>absurd e hd.1,fun i hi=>sF hdst (fun c F h a k1 k2 k2' k3 k4 hk=>tV hdst hR fuel _ c F h a k1 k2 k2' k3 k4 hk) h1 h2 h2' h3 h4 (hd.2 i hi)⟩
def uX (md:Region.Mode) (ops:Array Oper) (l1 l2:List Nat):Bool:=
 jl md ops l1 (Array.replicate ops.size false) && Ar md ops l1 && (l1.all fun j=>(dJ l1 (Array.replicate ops.size false)).getD j false) && nc md ops l2 (dJ l1 (Array.replicate ops.size false)) && (l2.length+l1.length==ops.size)
def Cc (P:Program) (U:TypeId→TI) (hm:Heap) (o:Oper) (ρ:Env) (h:Heap) (K:AV→Heap→Prop):Prop:=
 if cX o.op then vcE P U ρ h o (fun X h' =>Sub hm h'∧K X h') else pv U ρ hm o.op (fun X=>K X h)
def eR (P:Program) (U:TypeId→TI) (n:Nat) (all:List Oper) (hm:Heap):List Nat→Env→Heap→(Env→Heap→Prop)→Prop
 | [],ρ,h,K=>K ρ h
 |i::is,ρ,h,K=>match all[i]? with
  |none=>False
  |some o=>fI all ρ o.guard (fun ρ=>Cc P U hm o ρ h fun X h' =>eR P U n all hm is (put ρ o.dst X) h' K) (fun ρ=>eR P U n all hm is (put ρ o.dst (.v undef)) h K)
theorem yy {ρ:Env} {d:Nat} {x:AV} (hd:lk ρ d=some x):lk ((d,x)::ρ)=lk ρ:=by
 funext t
 simp only [lk];split
 ·rename_i e; subst e; exact hd.symm
 ·rfl
theorem cR {n:Nat} (hU:∀t,aN P U t) {all:List Oper} {K:Env→Heap→Prop}:∀(l:List Nat) (ρ:Env) (h:Heap),eR P U n all hm l ρ h K→iB P all.toArray hm (fun F h=>∃ρ,lk ρ=F∧K ρ h) l (lk ρ) h
 | [],ρ,h,hk=>⟨ρ,rfl,hk⟩
 |i::is,ρ,h,hk=>by
  simp only [eR] at hk
  show hOp _ _ _ _ _ _ _
  unfold hOp;have e0:(all.toArray)[i]? =all[i]? :=by simp
  rw [e0];cases hi:all[i]? with
  |none=>rw [hi] at hk; exact hk.elim
  |some o=>
   rw [hi] at hk;simp only at hk⊢;have yes:∀ρ',cy all.toArray (lk ρ) o=some true→lk ρ' =lk ρ→Cc P U hm o ρ' h (fun X h' =>eR P U n all hm is (put ρ' o.dst X) h' K)→nM P all.toArray hm o (iB P all.toArray hm (fun F h=>∃ρ,lk ρ=F∧K ρ h) is) (lk ρ) h:=by
    intro ρ' hw hl hv;unfold Cc at hv;cases he:cX o.op with
    |true=>
     rw [he,if_pos rfl] at hv;have:=yY hU he hv;rw [hl] at this;refine .inl ⟨hw, .inl ⟨he,_,this,fun X h' hq=>⟨hq.1, ?_⟩⟩⟩
     have:=cR hU is _ _ hq.2;rw [oN,hl] at this;exact this
    |false=>
     rw [he,if_neg (by simp)] at hv
     obtain ⟨X,hQ,hX⟩:=Dh hU hv;rw [hl] at hX;refine .inl ⟨hw, .inr ⟨X,hX.quiet, ?_⟩⟩;have:=cR hU is _ _ hQ;rw [oN,hl] at this;exact this
   have no:∀ρ',cy all.toArray (lk ρ) o=some false→lk ρ' =lk ρ→eR P U n all hm is (put ρ' o.dst (.v undef)) h K→nM P all.toArray hm o (iB P all.toArray hm (fun F h=>∃ρ,lk ρ=F∧K ρ h) is) (lk ρ) h:=by
    intro ρ' hw hl hv;have:=cR hU is _ _ hv;rw [oN,hl] at this;exact .inr ⟨hw,this⟩
   unfold fI at hk;split at hk
   ·rename_i hg
    exact yes ρ (by simp [cy,hg]) rfl hk
   ·rename_i g want hg
    split at hk
    ·rename_i d hd'
     have hd2:((all.toArray)[g]?).bind (·.dst)=some d:=by simpa [nK] using hd'
     split at hk
     ·rename_i t ht
      have hw:cy all.toArray (lk ρ) o=some (t==want):=by
       unfold cy;simp only [hg];rw [hd2];simp only [ht]
      by_cases e:t=want
      ·exact yes _ (by rw [hw,e]; simp) (yy (by rw [ht,e])) (hk.1 e)
      ·have e' :t= !want:=by cases t<;>cases want<;>simp_all
       exact no _ (by rw [hw]; simp [e]) (yy (by rw [ht,e'])) (hk.2 e')
     ·rename_i vs ht
      refine no ρ ?_ rfl hk;unfold cy;simp only [hg];rw [hd2];simp only [ht]
     ·exact hk.elim
    ·exact hk.elim
def C8 (U:TypeId→TI):Op→Option Blk
 | .alloc t=>some (if isUnit (U t).k then .obj [] t else .obj (U t).zero.cells t)
 |_=>none
def wV (U:TypeId→TI):Op→Prop
 | .alloc t=>isUnit (U t).k=true∨(U t).sz≠0∧fit (U t).zero (U t).sz
 |_=>False
def kM (U:TypeId→TI) (all:List Oper):List Nat→Prop
 | []=>True
 |i::is=>(match all[i]? with
  |none=>False
  |some o=>wV U o.op)∧kM U all is
def qo (P:Program) (U:TypeId→TI) (all:List Oper):List Nat→Env→Heap→(Env→Heap→Prop)→Prop
 | [],ρ,h,K=>K ρ h
 |i::is,ρ,h,K=>match all[i]? with
  |none=>False
  |some o=>aZ P U ρ h o fun X h' =>qo P U all is (put ρ o.dst X) h' K
theorem Ce {ρ:Env} {h:Heap} {o:Oper} {Q:AV→Heap→Prop} {B:Blk} (hB:C8 U o.op=some B) (hs:wV U o.op):aZ P U ρ h o Q↔∀id,h id=none→Q (.ptr id 0) (upd h id (some B)):=by
 obtain ⟨d,op,t,p,a,g⟩:=o;cases op with
 |alloc ty=>
  simp only [C8,Option.some.injEq] at hB;simp only [wV] at hs;simp only [aZ];subst hB;cases hu:isUnit (U ty).k with
  |true=>simp
  |false=>
   rw [hu] at hs;simp only [Bool.false_eq_true,if_false,false_or] at hs⊢;exact ⟨fun h=>h.2.2,fun h=>⟨hs.1,hs.2,h⟩⟩
 |_=>simp [C8] at hB
def iS (U:TypeId→TI) (ops:Array Oper) (ids:Nat→Nat) (s:EF×Heap) (i:Nat):EF×Heap:=match ops[i]? with
 |some o=>(gq s.1 o.dst (.ptr (ids i) 0),upd s.2 (ids i) (C8 U o.op))
 |none=>s
def Fresh (h:Heap) (is:List Nat) (ids:Nat→Nat):Prop:=(∀i∈is,h (ids i)=none)∧(is.map ids).Nodup
theorem BY {l l' :List Nat} (hp:l.Perm l') (listed:Array Bool):dJ l listed=dJ l' listed:=by
 have e:∀(l:List Nat) (x:Array Bool),dJ l x=l.foldl (fun x k=>x.setIfInBounds k true) x:=fun l=>by
  induction l with
  |nil=>intro x; rfl
  |cons k l ih=>intro x; exact ih _
 rw [e,e];refine hp.foldl_eq' (fun x _ y _ z=> ?_) listed
 by_cases h:x=y
 ·subst h; rfl
 ·exact Array.setIfInBounds_comm _ _ h
theorem C9 {ids:Nat→Nat} {is:List Nat} (hd:(is.map fun i=>(ops[i]?).bind (·.dst)).Nodup) (hs:∀i∈is,∃o d,ops[i]? =some o∧o.dst=some d) (hi:(is.map ids).Nodup):
  ∀x∈is,∀y∈is,∀z,iS U ops ids (iS U ops ids z x) y=iS U ops ids (iS U ops ids z y) x:=by
 have inj:∀ {α:Type} {f:Nat→α} {l:List Nat},(l.map f).Nodup→∀x∈l,∀y∈l,f x=f y→x=y:=by
  intro α f l
  induction l with
  |nil=>intro _ x hx; cases hx
  |cons k l ih=>
   intro hn x hx y hy he;rw [List.map_cons,List.nodup_cons] at hn;rcases List.mem_cons.1 hx with e1|hx1
   ·rcases List.mem_cons.1 hy with e2|hy1
    ·exact e1.trans e2.symm
    ·exact (hn.1 (by rw [←e1,he]; exact List.mem_map.2 ⟨y,hy1,rfl⟩)).elim
   ·rcases List.mem_cons.1 hy with e2|hy1
    ·exact (hn.1 (by rw [←e2,←he]; exact List.mem_map.2 ⟨x,hx1,rfl⟩)).elim
    ·exact ih hn.2 x hx1 y hy1 he
 intro x hx y hy z
 by_cases e:x=y
 ·subst e; rfl
 obtain ⟨ox,dx,hox,hdx⟩:=hs x hx;obtain ⟨oy,dy,hoy,hdy⟩:=hs y hy;have h1:ids x≠ids y:=fun e' =>e (inj hi x hx y hy e')
 have h2:dx≠dy:=fun e' =>e (inj hd x hx y hy (by simp [hox,hoy,hdx,hdy,e']))
 simp only [iS,hox,hoy];rw [kU z.1 _ _ (by rw [hdx,hdy]; intro d hd; cases hd; intro hd; cases hd; exact h2 rfl)]
 congr 1
 funext j
 simp only [upd]
 by_cases e1:j=ids x
 ·subst e1
  simp [h1]
 ·simp [e1]
theorem Fl {Q:EF→Heap→Prop} {m:Nat}:∀(fuel:Nat) (is:List Nat) (listed:Array Bool) (F:EF) (h:Heap),wH md ops fuel is listed=true→Sub hm h→is.Nodup→
  (is.map fun i=>(ops[i]?).bind (·.dst)).Nodup→
  (∀i∈is,∃o d B,ops[i]? =some o∧o.guard=none∧o.dst=some d∧cX o.op=true∧C8 U o.op=some B∧∀F h,EOK P o F h fun X h' =>∃id,h id=none∧X= .ptr id 0∧h' =upd h id (some B))→
  (∀ids,Fresh h is ids→vM P md ops hm Q m (dJ is listed) (is.foldl (iS U ops ids) (F,h)).1 (is.foldl (iS U ops ids) (F,h)).2)→vM P md ops hm Q (m+is.length) listed F h:=by
 intro fuel
 induction fuel with
 |zero=>
  intro is listed F h hp _ _ _ _ H;have:is= []:=by simpa [wH] using hp
  subst this;exact H id ⟨by simp,by simp⟩
 |succ fuel ih=>
  intro is listed F h hp hs hn hdn ho H;simp only [wH,Bool.or_eq_true,List.isEmpty_iff,Bool.and_eq_true,Bool.not_eq_true',List.all_eq_true] at hp;rcases hp with rfl|⟨hp1,hp2⟩
  ·exact H id ⟨by simp,by simp⟩
  have hne:Region.ready md ops listed≠ []:=fun e=>by rw [e] at hp1; simp at hp1
  obtain ⟨i0,hi0⟩:=List.exists_mem_of_ne_nil _ hne;have hlen:∀i∈Region.ready md ops listed,m+is.length=(m+(is.erase i).length)+1:=fun i hi=>by
   have h1:i∈is:=by simpa using (hp2 i hi).1
   rw [List.length_erase_of_mem h1];have:=List.length_pos_of_mem h1;omega
  have hl0:m+is.length=(m+(is.length - 1))+1:=by
   have:=List.length_pos_of_mem (show i0∈is by simpa using (hp2 i0 hi0).1)
   omega
  rw [hl0];refine ⟨fun e=>absurd e hne,fun i hi=> ?_⟩
  obtain ⟨h1,h2⟩:=hp2 i hi;have h1:i∈is:=by simpa using h1
  obtain ⟨o,d,B,e1,e2,e3,e4,e5,e6⟩:=ho i h1;have hpm:=List.perm_cons_erase h1;unfold hOp;simp only [e1];refine .inl ⟨by simp [cy,e2], .inl ⟨e4,_,e6 F h, ?_⟩⟩
  rintro X h' ⟨id,hid,rfl,rfl⟩
  have hs' :Sub hm (upd h id (some B)):=fun j b hj=>by
   have:=hs j b hj;simp only [upd]
   by_cases e:j=id
   ·subst e; rw [hid] at this; cases this
   ·simp [e,this]
  refine ⟨hs', ?_⟩;have hle:(is.length - 1)=(is.erase i).length:=(List.length_erase_of_mem h1).symm;rw [hle];have hni:i∉is.erase i:=fun hm=>by
   have:=hpm.nodup_iff.1 hn;exact (List.nodup_cons.1 this).1 hm
  refine ih (is.erase i) _ _ _ h2 hs' (hn.erase i) (((hpm.map _).nodup_iff.1 hdn).of_cons) (fun j hj=>ho j (List.mem_of_mem_erase hj)) fun ids hf=> ?_
  have hmem:∀j∈is.erase i,j≠i:=fun j hj e=>hni (e▸hj)
  let ids' :Nat→Nat:=fun j=>if j=i then id else ids j
  have hids:∀j∈is.erase i,ids' j=ids j:=fun j hj=>by simp [ids',hmem j hj]
  have hfr:∀j∈is.erase i,ids j≠id∧h (ids j)=none:=fun j hj=>by
   have:=hf.1 j hj;simp only [upd] at this;split at this
   ·cases this
   ·rename_i e; exact ⟨e,this⟩
  have hfresh:Fresh h is ids' :=by
   refine ⟨fun j hj=> ?_, ?_⟩
   ·by_cases e:j=i
    ·subst e; simp [ids',hid]
    ·have hj' :j∈is.erase i:=(List.mem_erase_of_ne e).2 hj
     rw [hids j hj'];exact (hfr j hj').2
   ·rw [(hpm.map ids').nodup_iff,List.map_cons,List.nodup_cons]
    have em:(is.erase i).map ids' =(is.erase i).map ids:=List.map_congr_left hids;rw [em];refine ⟨fun hm=> ?_,hf.2⟩
    obtain ⟨j,hj,he⟩:=List.mem_map.1 hm;exact (hfr j hj).1 (by rw [he]; simp [ids'])
  have hh:=H ids' hfresh;have hfold:is.foldl (iS U ops ids') (F,h)=(is.erase i).foldl (iS U ops ids) (gq F o.dst (.ptr id 0),upd h id (some B)):=by
   rw [hpm.foldl_eq' (C9 hdn (fun j hj=>by obtain ⟨o,d,B,a1,_,a3,_⟩:=ho j hj; exact ⟨o,d,a1,a3⟩) hfresh.2),List.foldl_cons]
   have e0:iS U ops ids' (F,h) i=(gq F o.dst (.ptr id 0),upd h id (some B)):=by simp [iS,e1,ids',e5]
   rw [e0];have:∀(l:List Nat) (s:EF×Heap),(∀j∈l,ids' j=ids j)→l.foldl (iS U ops ids') s=l.foldl (iS U ops ids) s:=fun l=>by
    induction l with
    |nil=>intro s _; rfl
    |cons k l ih=>
     intro s hl;rw [List.foldl_cons,List.foldl_cons,ih _ fun j hj=>hl j (List.mem_cons_of_mem _ hj)]
     have:iS U ops ids' s k=iS U ops ids s k:=by simp only [iS,hl k (List.mem_cons_self ..)]
     rw [this]
   exact this _ _ hids
  rw [hfold,BY hpm] at hh;exact hh
theorem yZ {all:List Oper} {K:Env→Heap→Prop}:∀(is:List Nat) (ρ:Env) (h:Heap),(∀i∈is,∃o B,all[i]? =some o∧C8 U o.op=some B∧wV U o.op)→qo P U all is ρ h K→∀ids,Fresh h is ids→
  ∃ρ',lk ρ' =(is.foldl (iS U all.toArray ids) (lk ρ,h)).1∧K ρ' (is.foldl (iS U all.toArray ids) (lk ρ,h)).2
 | [],ρ,h,_,hk,ids,_=>⟨ρ,rfl,hk⟩
 |i::is,ρ,h,ho,hk,ids,hf=>by
  obtain ⟨o,B,e1,e2,e3⟩:=ho i (List.mem_cons_self ..);simp only [qo,e1] at hk;have hk:=(Ce e2 e3).1 hk (ids i) (hf.1 i (List.mem_cons_self ..));have hn:=hf.2;rw [List.map_cons,List.nodup_cons] at hn;have hf' :Fresh (upd h (ids i) (some B)) is ids:=⟨fun j hj=>by
   have:ids j≠ids i:=fun e=>hn.1 (e▸List.mem_map.2 ⟨j,hj,rfl⟩)
   simp only [upd,this,if_false];exact hf.1 j (List.mem_cons_of_mem _ hj),hn.2⟩
  obtain ⟨ρ',h1,h2⟩:=yZ is _ _ (fun j hj=>ho j (List.mem_cons_of_mem _ hj)) hk ids hf'
  have e0:iS U all.toArray ids (lk ρ,h) i=(lk (put ρ o.dst (.ptr (ids i) 0)),upd h (ids i) (some B)):=by
   have:all.toArray[i]? =some o:=by simpa using e1
   simp only [iS,this,e2,oN]
  refine ⟨ρ', ?_, ?_⟩
  ·rw [List.foldl_cons,e0]; exact h1
  ·rw [List.foldl_cons,e0]; exact h2
def ju (P:Program) (U:TypeId→TI) (n:Nat) (all:List Oper) (hm:Heap):Ord→Env→Heap→(Env→Heap→Prop)→Prop
 | .seq l,ρ,h,K=>eR P U n all hm l ρ h K
 | .fork l i a j b,ρ,h,K=>eR P U n all hm l ρ h fun ρ h=>
  eR P U n all hm [i] ρ h (fun ρ h=>ju P U n all hm a ρ h K)∧eR P U n all hm [j] ρ h (fun ρ h=>ju P U n all hm b ρ h K)
 | .quiet l i t,ρ,h,K=>eR P U n all hm l ρ h fun ρ h=>match all[i]? with
  |none=>False
  |some o=>o.guard=none∧vcQ P U ρ hm o fun X=>ju P U n all hm t (put ρ o.dst X) h K
 | .news l is t,ρ,h,K=>eR P U n all hm l ρ h fun ρ h=>Sub hm h∧kM U all is∧qo P U all is ρ h fun ρ h=>ju P U n all hm t ρ h K
theorem mL {n:Nat} (hU:∀t,aN P U t) {md:Region.Mode} {all:List Oper} {K:Env→Heap→Prop}:∀(t:Ord) (listed:Array Bool) (ρ:Env) (h:Heap),oU md all.toArray t listed=true→ju P U n all hm t ρ h K→
  vM P md all.toArray hm (fun F h=>∃ρ,lk ρ=F∧K ρ h) t.len listed (lk ρ) h
 | .seq l,listed,ρ,h,hB,hk=>mS l listed _ h hB (cR hU l ρ h hk)
 | .fork l i a j b,listed,ρ,h,hB,hk=>by
  simp only [oU,Bool.and_eq_true,beq_iff_eq] at hB;obtain ⟨⟨⟨h1,h2⟩,h3⟩,h4,h5⟩:=hB;refine mB (a.len+1) l listed _ h h1 (lp (fun F h hh=> ?_) l _ h (cR hU l ρ h hk))
  obtain ⟨ρ',rfl,g1,g2⟩:=hh;refine ⟨fun e=>(by rw [h2] at e; cases e),fun k hk' => ?_⟩
  rw [h2] at hk';rcases List.mem_cons.1 hk' with rfl|hk'
  ·exact gE (fun F h hh=>by obtain ⟨ρ2,rfl,hh⟩:=hh; exact mL hU a _ ρ2 h h4 hh) (cR hU [k] ρ' h g1)
  ·obtain rfl:k=j:=by simpa using hk'
   exact gE (fun F h hh=>by obtain ⟨ρ2,rfl,hh⟩:=hh; rw [h3]; exact mL hU b _ ρ2 h h5 hh) (cR hU [k] ρ' h g2)
 | .quiet l i t,listed,ρ,h,hB,hk=>by
  simp only [oU,Bool.and_eq_true] at hB;obtain ⟨h1,⟨h2,h3⟩,h4⟩:=hB;refine mB (t.len+1) l listed _ h h1 (lp (fun F h hh=> ?_) l _ h (cR hU l ρ h hk))
  obtain ⟨ρ',rfl,g⟩:=hh;cases hi:all[i]? with
  |none=>rw [hi] at g; exact g.elim
  |some o=>
   rw [hi] at g;simp only at g;obtain ⟨X,hX,hq⟩:=za hU g.2;have hi' :all.toArray[i]? =some o:=by simpa using hi
   refine qA hi' t.len _ _ h (Region.free_spec hi' h3) (by simpa using h2) (.inl ⟨by simp [cy,g.1],hq⟩) ?_
   rw [←oN];exact mL hU t _ _ h h4 hX
 | .news l is t,listed,ρ,h,hB,hk=>by
  simp only [oU,HY,Bool.and_eq_true,decide_eq_true_eq] at hB;obtain ⟨h1,⟨⟨⟨h2,h3⟩,h4⟩,h5⟩,h6⟩:=hB;refine mB (t.len+is.length) l listed _ h h1 (lp (fun F h hh=> ?_) l _ h (cR hU l ρ h hk))
  obtain ⟨ρ',rfl,g1,g2,g3⟩:=hh;have side:∀(is:List Nat),kM U all is→∀i∈is,∃o,all[i]? =some o∧wV U o.op:=fun is=>by
   induction is with
   |nil=>intro _ i hi; cases hi
   |cons k is ih=>
    intro hs i hi;simp only [kM] at hs;rcases List.mem_cons.1 hi with rfl|hi
    ·cases ha:all[i]? with
     |none=>rw [ha] at hs; exact hs.1.elim
     |some o=>rw [ha] at hs; exact ⟨o,rfl,hs.1⟩
    ·exact ih hs.2 i hi
  have hall:∀i∈is,∃o d B,all.toArray[i]? =some o∧o.guard=none∧o.dst=some d∧cX o.op=true∧C8 U o.op=some B∧wV U o.op:=fun i hi=>by
   obtain ⟨o,ha,hs⟩:=side is g2 i hi;have ha' :all.toArray[i]? =some o:=by simpa using ha
   have hn:=List.all_eq_true.1 h5 i hi;rw [ha'] at hn;simp only [Option.map_some,Option.getD_some,K7,Bool.and_eq_true,Option.isNone_iff_eq_none,Option.isSome_iff_exists] at hn;obtain ⟨⟨n1,d,n2⟩,n3⟩:=hn;split at n3
   ·rename_i ty hop
    exact ⟨o,d,_,ha',n1,n2,by rw [hop]; rfl,by rw [hop]; rfl,hs⟩
   ·cases n3
  refine Fl (U:=U) is.length is _ _ h h2 g1 h3 h4 (fun i hi=> ?_) fun ids hf=> ?_
  ·obtain ⟨o,d,B,a1,a2,a3,a4,a5,a6⟩:=hall i hi
   refine ⟨o,d,B,a1,a2,a3,a4,a5,fun F h=> ?_⟩
   intro c a hs g hd hr;exact jK hU ((Ce (ρ:= []) a5 a6).2 fun id hid=>⟨id,hid,rfl,rfl⟩) hs g ⟨rfl,hd,fun t x hx=>by cases hx⟩
  ·obtain ⟨ρ2,b1,b2⟩:=yZ is ρ' h (fun i hi=>by
    obtain ⟨o,d,B,a1,_,_,_,a5,a6⟩:=hall i hi;exact ⟨o,B,by simpa using a1,a5,a6⟩) g3 ids hf
   rw [←b1];exact mL hU t _ ρ2 _ h6 b2
def FL (md:Region.Mode) (ops:Array Oper) (z:Nat):Ord→Array Bool→Bool
 | .seq l,listed=>wB md ops z l listed
 | .quiet l i t,listed=>jl md ops l listed && (((Region.ready md ops (dJ l listed)).contains i && Region.free md ops (dJ l listed) i) && FL md ops z t ((dJ l listed).setIfInBounds i true))
 |_,_=>false
theorem qc:∀(l:List Nat) (listed:Array Bool),Closed md ops listed→jl md ops l listed=true→Closed md ops (dJ l listed)
 | [],_,hc,_=>hc
 |k::l,listed,hc,hB=>by
  simp only [jl,Bool.and_eq_true] at hB;obtain ⟨hB,hB'⟩:=hB;refine qc l _ (hc.set ?_) hB';cases h0:ops[k]? with
  |none=>rw [h0] at hB; cases hB
  |some o=>
   rw [h0] at hB;simp only at hB;split at hB
   ·rw [beq_iff_eq.1 hB]; simp
   ·rw [Bool.and_eq_true] at hB; simpa using hB.1
theorem qx {Q:EF→Heap→Prop} {z:Nat} (hz:uH md ops z=true) (m:Nat):∀(l:List Nat) (listed:Array Bool) (F:EF) (h:Heap),Closed md ops listed→
  jl md ops l listed=true→iB P ops hm (fun F h=>ru P md ops hm z Q m (dJ l listed) F h) l F h→ru P md ops hm z Q (m+l.length) listed F h
 | [],_,_,_,_,_,hd=>hd
 |k::l,listed,F,h,hcl,hB,hd=>by
  simp only [jl,Bool.and_eq_true] at hB;obtain ⟨hB,hB'⟩:=hB;cases h0:ops[k]? with
  |none=>rw [h0] at hB; cases hB
  |some o=>
   rw [h0] at hB;simp only at hB;cases he:cX o.op with
   |true=>
    rw [he,if_pos rfl] at hB;have hB:=beq_iff_eq.1 hB;refine ⟨fun e=>(by rw [hB] at e; cases e),fun j hj=> ?_⟩
    rw [hB] at hj;obtain rfl:j=k:=by simpa using hj
    exact gE (fun F' h' hh=>qx hz m l _ F' h' (hcl.set (by rw [hB]; simp)) hB' hh) hd
   |false=>
    rw [he,if_neg (by simp),Bool.and_eq_true] at hB
    have hd:nM P ops hm o (iB P ops hm (fun F h=>ru P md ops hm z Q m (dJ (k::l) listed) F h) l) F h:=by
     have:hOp P ops hm k (iB P ops hm _ l) F h:=hd;unfold hOp at this;simpa only [h0] using this
    obtain ⟨X,hy,hK⟩:=jV he hd;have hin:k∈Region.ready md ops listed:=by simpa using hB.1
    exact oC hz h0 (m+l.length) listed F h hcl (Region.free_spec h0 hB.2) hin hy (qx hz m l _ _ _ (hcl.set hin) hB' hK)
theorem xg {n z:Nat} (hU:∀t,aN P U t) {md:Region.Mode} {all:List Oper} {K:Env→Heap→Prop} (hz:uH md all.toArray z=true):∀(t:Ord) (listed:Array Bool) (ρ:Env) (h:Heap),Closed md all.toArray listed→FL md all.toArray z t listed=true→ju P U n all hm t ρ h K→
  ru P md all.toArray hm z (fun F h=>∃ρ,lk ρ=F∧K ρ h) t.len listed (lk ρ) h
 | .seq l,listed,ρ,h,hc,hB,hk=>oD hz l listed _ h hc hB (cR hU l ρ h hk)
 | .quiet l i t,listed,ρ,h,hc,hB,hk=>by
  simp only [FL,Bool.and_eq_true] at hB;obtain ⟨h1,⟨h2,h3⟩,h4⟩:=hB;have hc' :=qc l listed hc h1;refine qx hz (t.len+1) l listed _ h hc h1 (lp (fun F h hh=> ?_) l _ h (cR hU l ρ h hk))
  obtain ⟨ρ',rfl,g⟩:=hh;cases hi:all[i]? with
  |none=>rw [hi] at g; exact g.elim
  |some o=>
   rw [hi] at g;simp only at g;obtain ⟨X,hX,hq⟩:=za hU g.2;have hi' :all.toArray[i]? =some o:=by simpa using hi
   have hin:i∈Region.ready md all.toArray (dJ l listed):=by simpa using h2
   refine oC hz hi' t.len _ _ h hc' (Region.free_spec hi' h3) hin (.inl ⟨by simp [cy,g.1],hq⟩) ?_
   rw [←oN];exact xg hU hz t _ _ h (hc'.set hin) h4 hX
 | .fork ..,_,_,_,_,hB,_=>by cases hB
 | .news ..,_,_,_,_,hB,_=>by cases hB
end
section
variable {P : Program} {U : TypeId → TI} {ops : Array Oper} {md : Region.Mode} {h : Heap}
theorem zB {Q:EF→Prop} {z i:Nat} {oi:Oper} {X:AV} (hz:uH md ops z=true) (hi:ops[i]? =some oi):
  ∀(fuel:Nat) (listed:Array Bool) (F:EF),Closed md ops listed→
   (∀j oj,ops[j]? =some oj→j≠i→listed.getD j true=false→(∀e∈oj.after,Region.binds md e=true→e.on≠i)→oi.apart ops oj=true)→
   i∈Region.ready md ops listed→YD P ops h oi X F→
   AD P md ops h z Q fuel (listed.setIfInBounds i true) (gq F oi.dst X)→AD P md ops h z Q (fuel+1) listed F:=by
 intro fuel
 induction fuel with
 |zero=>
  intro listed F hcl _ hr hy H;refine ⟨fun e=>(by rw [e] at hr; cases hr),fun j hj=> ?_⟩
  by_cases hji:j=i
  ·subst hji; exact pI hi hy H
  ·have:=ready_mono hj hji
   rw [H.1.1] at this;obtain rfl:j=z:=by simpa using this
   exact (hji (zg hz hcl hj hr).symm).elim
 |succ fuel ih=>
  intro listed F hcl hfree hr hy H;refine ⟨fun e=>(by rw [e] at hr; cases hr),fun j hj=> ?_⟩
  by_cases hji:j=i
  ·subst hji; exact pI hi hy H
  ·have h1:=H.2 j (ready_mono hj hji)
   obtain ⟨hjun,oj,hoj,hall⟩:=mem_ready.1 hj;have hnot:∀e∈oj.after,Region.binds md e=true→e.on≠i:=fun e he hb heq=>by
    have h1:=hall e he hb;have h0:=(mem_ready.1 hr).1;rw [heq] at h1;rcases Nat.lt_or_ge i listed.size with h' |h'
    ·simp [h'] at h0 h1; rw [h0] at h1; cases h1
    ·simp [Array.getElem?_eq_none h'] at h1
   have h2:=DU hoj (hfree j oj hoj hji hjun hnot) hy h1;have hfree' :∀k ok,ops[k]? =some ok→k≠i→(listed.setIfInBounds j true).getD k true=false→
     (∀e∈ok.after,Region.binds md e=true→e.on≠i)→oi.apart ops ok=true:=fun k ok hk hki hun hno=>by
    refine hfree k ok hk hki ?_ hno
    by_cases hjk:j=k
    ·subst hjk; exact hjun
    ·rw [getD_set_ne true hjk] at hun; exact hun
   refine AF (fun F' h3=>ih (listed.setIfInBounds j true) F' (hcl.set hj) hfree' (ready_mono hr (Ne.symm hji)) h3.1 ?_) h2
   rw [Array.setIfInBounds_comm _ _ hji];exact h3.2
theorem vq {Q:EF→Prop} {z:Nat} (hz:uH md ops z=true):∀(l:List Oper) (k:Nat) (listed:Array Bool) (F:EF),Closed md ops listed→(∀j,j<l.length→l[j]? =ops[k+j]?)→
  HO md ops z l.length k listed=true→dList P ops h Q l F→AD P md ops h z Q l.length listed F
 | [],_,_,_,_,_,hB,hd=>⟨by simpa [HO] using hB,hd⟩
 |o::l,k,listed,F,hcl,hl,hB,hd=>by
  have h0:ops[k]? =some o:=by simpa using (hl 0 (by simp)).symm
  simp only [List.length_cons,HO,Bool.and_eq_true] at hB;obtain ⟨⟨hr,hf⟩,hB'⟩:=hB;obtain ⟨X,hy,hK⟩:=tv hd;exact zB hz h0 l.length listed F hcl (Region.free_spec h0 hf) (by simpa using hr) hy
   (vq hz l (k+1) _ _ (hcl.set (by simpa using hr)) (fun j hj=>by have:=hl (j+1) (by simpa using hj); simpa [Nat.add_assoc,Nat.add_comm 1 j] using this) hB' hK)
end
section
variable (P : Program) (U : TypeId → TI) (n : Nat)
def KSeq (next:Env→Heap→Prop) (K:Exit→Env→Heap→Prop) (e:Exit) (ρ:Env) (h:Heap):Prop:=
 match e with
 | .normal=>next ρ h
 |e=>K e ρ h
def KBlock (id:Nat) (K:Exit→Env→Heap→Prop) (e:Exit) (ρ:Env) (h:Heap):Prop:=
 match e with
 | .exit j=>if j=id then K .normal ρ h else K (.exit j) ρ h
 |e=>K e ρ h
def wf1:AV→Prop
 | .s l=>l.length<lim
 | .sl xs _=>xs.length<lim
 |_=>True
def wfA:AV→Prop
 | .agg cs=>∀x∈cs,wf1 x
 | .pe y _=>∀x∈y.cells,wf1 x
 |x=>wf1 x
def Wf (ρ:Env):Prop:=∀t x,lk ρ t=some x→wfA x
def Gv (body:Env→Heap→(Exit→Env→Heap→Prop)→Prop) (ρ:Env) (h:Heap) (K:Exit→Env→Heap→Prop):Prop:=
 Wf ρ→∃(I:Nat→Env→Heap→Prop) (m:Nat),I m ρ h∧∀m ρ h,I m ρ h→body ρ h (KSeq (fun ρ' h' =>∃m',m' <m∧I m' ρ' h') K)
def kL (all:List Oper):List Oper→Env→Heap→(Env→Prop)→Prop
 | [],ρ,_,K=>K ρ
 |o::os,ρ,h,K=>dL n o.dst=true∧fI all ρ o.guard
   (fun ρ=>jt P U ρ h o fun X=>kL all os (put ρ o.dst X) h K)
   (fun ρ=>kL all os (put ρ o.dst (.v undef)) h K)
def vY (ops:Array Oper):Bool:=Region.lexFrom .any ops ops.size 0 (Array.replicate ops.size false)
def zN:Op→Bool
 | .store .. =>true
 |_=>false
def qg:List Oper→Bool
 | []=>false
 | [o]=>zN o.op && o.guard.isNone
 |_::b::r=>qg (b::r)
def HP (ops:Array Oper):Bool:=uH .any ops (ops.size - 1) && HO .any ops (ops.size - 1) (ops.size - 1) 0 (Array.replicate ops.size false)
def nO (l:List Oper) (h:Heap) (K:Env→Heap→Prop) (ρ:Env):Prop:=match l.getLast? with
 |some o=>aZ P U ρ h o fun X h' =>K (put ρ o.dst X) h'
 |none=>False
def mu (l:List Oper):Bool:=l.all fun o=> !cX o.op
def Lq (P:Program) (U:TypeId→TI) (n:Nat) (ops:Array Oper) (ρ:Env) (h:Heap) (K:Env→Heap→Prop):Prop:=
 (ops.toList.all fun o=>dL n o.dst)=true∧
 (vY ops=true∧kL P U n ops.toList ops.toList ρ h (fun ρ=>K ρ h)∨
  (∃(hm:Heap) (t:Ord) (Post:Env→Heap→Prop),Sub hm h∧oU .any ops t (Array.replicate ops.size false)=true∧t.len=ops.size∧ju P U n ops.toList hm t ρ h Post∧∀ρ h,Post ρ h→K ρ h)∨
  (∃(hm:Heap) (l1 l2:List Nat),Sub hm h∧uX .any ops l1 l2=true∧eR P U n ops.toList hm l1 ρ h (fun ρ h=>∃hm2,Sub hm2 h∧eR P U n ops.toList hm2 l2 ρ h K))∨
  ∃(hm:Heap) (t:Ord),Sub hm h∧uH .any ops t.len=true∧(ops.toList.getLast?.map fun o=>o.guard.isNone)=some true∧FL .any ops t.len t (Array.replicate ops.size false)=true∧t.len+1=ops.size∧ju P U n ops.toList hm t ρ h (fun ρ h=>nO P U ops.toList h K ρ))
def WP (c:Code) (ρ:Env) (h:Heap) (K:Exit→Env→Heap→Prop):Prop:=
 ∀cx a,Sub h cx.h→Good cx→cj cx n ρ a→c.wp P (WPK n K cx) a cx.w
def KJump (l:Nat) (J:Env→Heap→Prop) (K:Exit→Env→Heap→Prop):Exit→Env→Heap→Prop
 | .goto l',ρ,h=>l' =l∧J ρ h
 |e,ρ,h=>K e ρ h
def bF:Code→Env→Heap→(Exit→Env→Heap→Prop)→Prop
 | .skip,ρ,h,K=>K .normal ρ h
 | .region _ ops draw,ρ,h,K=>if draw then (if qg ops.toList && mu ops.toList.dropLast then (HP ops && ops.toList.all fun o=>dL n o.dst)=true∧kL P U n ops.toList ops.toList.dropLast ρ h (nO P U ops.toList h (K .normal)) else if mu ops.toList=false then Lq P U n ops ρ h (K .normal) else (vY ops && ops.toList.all fun o=>dL n o.dst)=true∧kL P U n ops.toList ops.toList ρ h (fun ρ=>K .normal ρ h)) else jz P U n ops.toList ops.toList ρ h (K .normal)
 | .seq a b,ρ,h,K=>bF a ρ h (KSeq (fun ρ h=>bF b ρ h K) K)
 | .cond c a b,ρ,h,K=>withv ρ c fun
  | .v (.bool t)=>(t=true→bF a ρ h K)∧(t=false→bF b ρ h K)
  |_=>False
 | .block id c,ρ,h,K=>bF c ρ h (KBlock id K)
 | .loop c,ρ,h,K=>Gv (fun ρ h K=>bF c ρ h K) ρ h K
 | .exit id,ρ,h,K=>K (.exit id) ρ h
 | .ret,ρ,h,K=>K .ret ρ h
 | .label _,ρ,h,K=>K .normal ρ h
 | .goto l,ρ,h,K=>K (.goto l) ρ h
 | .scope c,ρ,h,K=>∃(l:Nat) (rest:Code) (J:Nat→Env→Heap→Prop),findLabel c l=some rest∧bF c ρ h (KJump l (fun ρ h=>∃m,J m ρ h) K)∧
  ∀m ρ h,J m ρ h→WP P n rest ρ h (KJump l (fun ρ' h' =>∃m',m' <m∧J m' ρ' h') K)
 |_,_,_,_=>False
end
section
variable {P : Program} {U : TypeId → TI} {n : Nat}
theorem WPK.mono {K K' :Exit→Env→Heap→Prop} {c0:Cx} (hk:∀e ρ h,K e ρ h→K' e ρ h) {e:Exit} {a:Act} {w:World} (h:WPK n K c0 e a w):WPK n K' c0 e a w:=by
 obtain ⟨c,ρ,hh,h1,h2,h3,h4,h5,h6⟩:=h;exact ⟨c,ρ,hh,h1,h2,h3,h4,h5,hk _ _ _ h6⟩
theorem WP.weaken {c:Code} {ρ:Env} {h:Heap} {K K' :Exit→Env→Heap→Prop} (hw:WP P n c ρ h K) (hk:∀e ρ h,K e ρ h→K' e ρ h):WP P n c ρ h K' :=
 fun cx a h1 h2 h3=>wp_mono (hw cx a h1 h2 h3) fun _ _ _=>WPK.mono hk
theorem WP.seq {c d:Code} {ρ:Env} {h:Heap} {K:Exit→Env→Heap→Prop} (hc:WP P n c ρ h (KSeq (WP P n d · · K) K)):WP P n (.seq c d) ρ h K:=by
 intro cx a h1 h2 h3;refine wp_seq (wp_mono (hc cx a h1 h2 h3) fun e a w hq=> ?_)
 obtain ⟨c',ρ',h',rfl,g,hE,he,hs,hk⟩:=hq;cases e with
 |normal=>
  have:=hk c' a hs g he;exact wp_mono this fun _ _ _=>WPK.after hE
 |_=>exact ⟨c',ρ',h',rfl,g,hE,he,hs,hk⟩
theorem WP.block {id:Nat} {c:Code} {ρ:Env} {h:Heap} {K:Exit→Env→Heap→Prop} (hc:WP P n c ρ h (KBlock id K)):WP P n (.block id c) ρ h K:=by
 intro cx a h1 h2 h3;refine wp_block (wp_mono (hc cx a h1 h2 h3) fun e a w hq=> ?_)
 obtain ⟨c',ρ',h',rfl,g,hE,he,hs,hk⟩:=hq;cases e with
 |exit j=>
  simp only [Exit.inBlock,KBlock] at hk⊢;split
  ·rename_i e; rw [if_pos e] at hk; exact ⟨c',ρ',h',rfl,g,hE,he,hs,hk⟩
  ·rename_i e; rw [if_neg e] at hk; exact ⟨c',ρ',h',rfl,g,hE,he,hs,hk⟩
 |_=>exact ⟨c',ρ',h',rfl,g,hE,he,hs,hk⟩
theorem Ac {c:Code} {Q:Exit→Act→World→Prop} (I:Nat→Act→World→Prop) (round:∀m a w,I m a w→c.wp P (Exit.then (fun a' w' =>∃m',m' <m∧I m' a' w') Q) a w):
  ∀m a w,I m a w→(Code.loop c).wp P Q a w:=by
 intro m a w h0 b k cs;have key:∀n a w,I n a w→∃e a' w',Q e a' w'∧Arrives P (lone (b.at a (.code c:: .inLoop c::k)) cs w) b k cs e a' w' :=by
  intro n
  induction n using Nat.strongRecOn with
  |_ n ih=>
   intro a w hI;obtain ⟨e,a₁,w₁,hq,harr⟩:=round n a w hI b (.inLoop c::k) cs;cases e with
   |normal=>
    obtain ⟨m',hlt,hI₁⟩:=hq;obtain ⟨e₂,a₂,w₂,hq₂,harr₂⟩:=ih m' hlt a₁ w₁ hI₁;exact ⟨e₂,a₂,w₂,hq₂, .of_steps (Steps.trans harr (.one step_inLoop)) harr₂⟩
   |exit id=>exact ⟨_,a₁,w₁,hq, .pass (x:= .inLoop c) rfl (fun _ _=> .inl (by simp)) harr⟩
   |goto l=>exact ⟨_,a₁,w₁,hq, .pass (x:= .inLoop c) rfl (fun _ _=> .inl (by simp)) harr⟩
   |ret=>exact ⟨_,a₁,w₁,hq, .pass (x:= .inLoop c) rfl (fun _ _=> .inl (by simp)) harr⟩
   |panic ch=>exact ⟨_,a₁,w₁,hq, .pass (x:= .inLoop c) rfl (fun _ _=> .inl (by simp)) harr⟩
   |outgrown=>exact ⟨_,a₁,w₁,hq, .pass (x:= .inLoop c) rfl (fun _ _=> .inl (by simp)) harr⟩
 obtain ⟨e,a',w',hq,harr⟩:=key m a w h0;exact ⟨e,a',w',hq, .of_steps (.one step_loop) harr⟩
def Exit.HH (l:Nat) (J:Act→World→Prop) (Q:Exit→Act→World→Prop):Exit→Act→World→Prop
 | .goto l',a,w=>l' =l∧J a w
 |e,a,w=>Q e a w
theorem xO {c rest:Code} {Q:Exit→Act→World→Prop} {a:Act} {w:World} (l:Nat) (J:Nat→Act→World→Prop) (hf:findLabel c l=some rest)
  (first:c.wp P (Exit.HH l (fun a w=>∃m,J m a w) Q) a w)
  (pass:∀m a w,J m a w→rest.wp P (Exit.HH l (fun a' w' =>∃m',m' <m∧J m' a' w') Q) a w):(Code.scope c).wp P Q a w:=by
 intro b k cs;have hg:gotoIn l (.inScope c::k)=some (.code rest:: .inScope c::k):=by simp [gotoIn,hf]
 have key:∀m a w,J m a w→∃e a' w',Q e a' w'∧Arrives P (lone (b.at a (.code rest:: .inScope c::k)) cs w) b k cs e a' w' :=by
  intro m
  induction m using Nat.strongRecOn with
  |_ m ih=>
   intro a w hJ;obtain ⟨e,a₁,w₁,hq,harr⟩:=pass m a w hJ b (.inScope c::k) cs;cases e with
   |normal=>exact ⟨.normal,a₁,w₁,hq,Steps.trans harr (.one step_inScope)⟩
   |exit id=>exact ⟨.exit id,a₁,w₁,hq,fun k' hk=>harr k' (by simp [exitTo,hk])⟩
   |goto l' =>
    obtain ⟨rfl,m',hlt,hJ'⟩:=hq;obtain ⟨e₂,a₂,w₂,hq₂,harr₂⟩:=ih m' hlt a₁ w₁ hJ';exact ⟨e₂,a₂,w₂,hq₂, .of_steps (harr _ hg) harr₂⟩
   |ret=>exact ⟨_,a₁,w₁,hq,harr⟩
   |panic ch=>exact ⟨_,a₁,w₁,hq,harr⟩
   |outgrown=>exact ⟨_,a₁,w₁,hq,harr⟩
 obtain ⟨e,a₁,w₁,hq,harr⟩:=first b (.inScope c::k) cs;cases e with
 |normal=>exact ⟨.normal,a₁,w₁,hq, .head step_scope (Steps.trans harr (.one step_inScope))⟩
 |exit id=>exact ⟨.exit id,a₁,w₁,hq,fun k' hk=> .head step_scope (harr k' (by simp [exitTo,hk]))⟩
 |goto l' =>
  obtain ⟨rfl,m,hJ⟩:=hq;obtain ⟨e₂,a₂,w₂,hq₂,harr₂⟩:=key m a₁ w₁ hJ;exact ⟨e₂,a₂,w₂,hq₂, .of_steps (.head step_scope (harr _ hg)) harr₂⟩
 |ret=>exact ⟨_,a₁,w₁,hq, .of_steps (.one step_scope) harr⟩
 |panic ch=>exact ⟨_,a₁,w₁,hq, .of_steps (.one step_scope) harr⟩
 |outgrown=>exact ⟨_,a₁,w₁,hq, .of_steps (.one step_scope) harr⟩
theorem WP.scope {c rest:Code} {ρ:Env} {h:Heap} {K:Exit→Env→Heap→Prop} (l:Nat) (J:Nat→Env→Heap→Prop) (hf:findLabel c l=some rest) (first:WP P n c ρ h (KJump l (fun ρ h=>∃m,J m ρ h) K))
  (pass:∀m ρ h,J m ρ h→WP P n rest ρ h (KJump l (fun ρ' h' =>∃m',m' <m∧J m' ρ' h') K)):WP P n (.scope c) ρ h K:=by
 intro cx a h1 h2 h3;refine xO l (fun m a w=>∃c' ρ' h',c'.w=w∧Good c'∧Ext cx c'∧cj c' n ρ' a∧Sub h' c'.h∧J m ρ' h') hf (wp_mono (first cx a h1 h2 h3) fun e a w hq=> ?_) ?_
 ·obtain ⟨c2,ρ2,h2,rfl,g2,hE2,he2,hs2,hk⟩:=hq
  cases e with
  |goto l' =>obtain ⟨e1,m,hI⟩:=hk; exact ⟨e1,m,c2,ρ2,h2,rfl,g2,hE2,he2,hs2,hI⟩
  |_=>exact ⟨c2,ρ2,h2,rfl,g2,hE2,he2,hs2,hk⟩
 ·rintro m a w ⟨c',ρ',h',rfl,g,hE,he,hs,hI⟩
  refine wp_mono (pass m ρ' h' hI c' a hs g he) fun e a w hq=> ?_
  obtain ⟨c2,ρ2,h2,rfl,g2,hE2,he2,hs2,hk⟩:=hq;cases e with
  |goto l' =>
   obtain ⟨e1,m',hlt,hI'⟩:=hk;exact ⟨e1,m',hlt,c2,ρ2,h2,rfl,g2,hE.trans hE2,he2,hs2,hI'⟩
  |_=>exact ⟨c2,ρ2,h2,rfl,g2,hE.trans hE2,he2,hs2,hk⟩
theorem WP.loop {c:Code} {ρ:Env} {h:Heap} {K:Exit→Env→Heap→Prop} (I:Nat→Env→Heap→Prop) (m:Nat) (h0:I m ρ h) (round:∀m ρ h,I m ρ h→WP P n c ρ h (KSeq (fun ρ' h' =>∃m',m' <m∧I m' ρ' h') K)):
  WP P n (.loop c) ρ h K:=by
 intro cx a h1 h2 h3;refine Ac (fun m a w=>∃c' ρ' h',c'.w=w∧Good c'∧Ext cx c'∧cj c' n ρ' a∧Sub h' c'.h∧I m ρ' h') ?_ m a cx.w ⟨cx,ρ,h,rfl,h2, .refl _,h3,h1,h0⟩
 rintro m a w ⟨c',ρ',h',rfl,g,hE,he,hs,hI⟩
 refine wp_mono (round m ρ' h' hI c' a hs g he) fun e a w hq=> ?_
 obtain ⟨c2,ρ2,h2,rfl,g2,hE2,he2,hs2,hk⟩:=hq;cases e with
 |normal=>
  obtain ⟨m',hlt,hI'⟩:=hk;exact ⟨m',hlt,c2,ρ2,h2,rfl,g2,hE.trans hE2,he2,hs2,hI'⟩
 |_=>exact ⟨c2,ρ2,h2,rfl,g2,hE.trans hE2,he2,hs2,hk⟩
theorem WP.ops (hU:∀t,aN P U t) {id:Nat} {ops:Array Oper} {ρ:Env} {h:Heap} {K:Exit→Env→Heap→Prop} (hk:jz P U n ops.toList ops.toList ρ h (K .normal)):WP P n (.region id ops false) ρ h K:=by
 intro cx a h1 h2 h3;refine wp_region_list ?_;have:=pE (K:=K) hU cx ops.toList ρ h hk cx a (.refl _) h1 h2 h3;simpa using this
theorem Rep.wf1 {c:Cx} {x:AV} {u:Value} (h:Rep c x u):wf1 x:=by
 cases x with
 |s l=>exact h.l6.2
 |sl xs p=>obtain ⟨a,cap,sz,val,_,hs⟩:=h.ia; have:=hs.hc; have:=hs.hm; simp only [Ab.wf1]; omega
 |_=>trivial
theorem Rep.wf {c:Cx} {x:AV} {u:Value} (h:Rep c x u):wfA x:=by
 cases x with
 |agg cs=>
  obtain ⟨vs,_,_,hr,_⟩:=h.mO;intro x hx;obtain ⟨i,hi,rfl⟩:=List.mem_iff_getElem.1 hx;exact (hr i hi).wf1
 |pe y off=>
  obtain ⟨b,o,val,_,_,_,hr,_⟩:=h.sU;intro x hx;obtain ⟨i,hi,rfl⟩:=List.mem_iff_getElem.1 hx;exact (hr i hi).wf1
 |_=>exact h.wf1
theorem cj.wf {c:Cx} {ρ:Env} {a:Act} (h:cj c n ρ a):Wf ρ:=fun t x hx=>(h.rep t x hx).wf
theorem Bk {ρ:Env} {d:Nat} {x:AV} (hd:lk ρ d=some x):lk ((d,x)::ρ)=lk ρ:=by
 funext t
 simp only [lk];split
 ·rename_i e; subst e; exact hd.symm
 ·rfl
theorem nF (hU:∀t,aN P U t) {all:List Oper} {h:Heap} {K:Env→Prop}:∀(l:List Oper) (ρ:Env),kL P U n all l ρ h K→dList P all.toArray h (fun F=>∃ρ,lk ρ=F∧K ρ) l (lk ρ)
 | [],ρ,hk=>⟨ρ,rfl,hk⟩
 |o::os,ρ,hk=>by
  obtain ⟨hd,hk⟩:=hk;have yes:∀ρ',cy all.toArray (lk ρ) o=some true→lk ρ' =lk ρ→(jt P U ρ' h o fun X=>kL P U n all os (put ρ' o.dst X) h K)→tJ P all.toArray h o (dList P all.toArray h (fun F=>∃ρ,lk ρ=F∧K ρ) os) (lk ρ):=by
   intro ρ' hw hl hv;obtain ⟨X,hQ,hX⟩:=DD hU hv;have:=nF hU os _ hQ;rw [oN,hl] at this;rw [hl] at hX;exact .inl ⟨hw,X,hX,this⟩
  have no:∀ρ',cy all.toArray (lk ρ) o=some false→lk ρ' =lk ρ→kL P U n all os (put ρ' o.dst (.v undef)) h K→tJ P all.toArray h o (dList P all.toArray h (fun F=>∃ρ,lk ρ=F∧K ρ) os) (lk ρ):=by
   intro ρ' hw hl hv;have:=nF hU os _ hv;rw [oN,hl] at this;exact .inr ⟨hw,this⟩
  unfold fI at hk;split at hk
  ·rename_i hg
   exact yes ρ (by simp [cy,hg]) rfl hk
  ·rename_i g want hg
   split at hk
   ·rename_i d hd'
    have hd2:((all.toArray)[g]?).bind (·.dst)=some d:=by simpa [nK] using hd'
    split at hk
    ·rename_i t ht
     have hw:cy all.toArray (lk ρ) o=some (t==want):=by
      unfold cy;simp only [hg];rw [hd2];simp only [ht]
     by_cases e:t=want
     ·exact yes _ (by rw [hw,e]; simp) (Bk (by rw [ht,e])) (hk.1 e)
     ·have e' :t= !want:=by cases t<;>cases want<;>simp_all
      exact no _ (by rw [hw]; simp [e]) (Bk (by rw [ht,e'])) (hk.2 e')
    ·rename_i vs ht
     refine no ρ ?_ rfl hk;unfold cy;simp only [hg];rw [hd2];simp only [ht]
    ·exact hk.elim
   ·exact hk.elim
theorem WP.draw (hU:∀t,aN P U t) (hm:P.follows .mixedOrders=true) {id:Nat} {ops:Array Oper} {ρ:Env} {h:Heap} {K:Exit→Env→Heap→Prop} (hdst:∀o∈ops.toList,dL n o.dst=true) (hB:vY ops=true)
  (hk:kL P U n ops.toList ops.toList ρ h (fun ρ=>K .normal ρ h)):WP P n (.region id ops true) ρ h K:=by
 intro cx a h1 h2 h3;have hd:=nF hU ops.toList ρ hk;have hd2:=AE (md:= .any) (ops:=ops) ops.toList 0 (Array.replicate ops.size false) (lk ρ) (by simp) (by simpa [vY] using hB) (by simpa using hd)
 refine wp_region_any hm ?_;have hE:Ext cx {cx with w:= {cx.w with drawn:=cx.w.drawn+1}}:=Ext.draw rfl rfl rfl rfl
 have:=vr (n:=n) (Q' :=WPK n K cx) (c0:=cx) hdst (fun c F a hE hs g he hQ=>by
  obtain ⟨ρ',rfl,hK⟩:=hQ;exact ⟨c,ρ',h,rfl,g,hE,⟨he.1,he.2.1,he.2.2⟩,hs,hK⟩) _ _ {cx with w:= {cx.w with drawn:=cx.w.drawn+1}} (lk ρ) a hE h1 (h2.draw rfl rfl rfl rfl)
  ⟨h3.size,h3.defers,fun t x hx=>(h3.rep t x hx).mono hE⟩ hd2
 simpa using this
theorem WP.OL (hU:∀t,aN P U t) (hm:P.follows .mixedOrders=true) {id:Nat} {ops:Array Oper} {ρ:Env} {h hl:Heap} {K:Exit→Env→Heap→Prop} {t:Ord} {Post:Env→Heap→Prop} (hdst:∀o∈ops.toList,dL n o.dst=true) (hsub:Sub hl h)
  (hB:oU .any ops t (Array.replicate ops.size false)=true) (hlen:t.len=ops.size)
  (hk:ju P U n ops.toList hl t ρ h Post) (hp:∀ρ h,Post ρ h→K .normal ρ h):WP P n (.region id ops true) ρ h K:=by
 intro cx a h1 h2 h3;have hd2:=mL (md:= .any) (all:=ops.toList) hU t (Array.replicate ops.size false) ρ h (by rw [Array.toArray_toList]; exact hB) hk
 rw [Array.toArray_toList] at hd2;refine wp_region_any hm ?_;have hE:Ext cx {cx with w:= {cx.w with drawn:=cx.w.drawn+1}}:=Ext.draw rfl rfl rfl rfl
 have:=qB (n:=n) (Q' :=WPK n K cx) (c0:=cx) hdst (fun c F h a hE hs g he hQ=>by
  obtain ⟨ρ',rfl,hK⟩:=hQ;exact ⟨c,ρ',h,rfl,g,hE,⟨he.1,he.2.1,he.2.2⟩,hs,hp _ _ hK⟩) _ _ {cx with w:= {cx.w with drawn:=cx.w.drawn+1}} (lk ρ) h a hE h1 (fun i k hi=>h1 _ _ (hsub _ _ hi)) (h2.draw rfl rfl rfl rfl)
  ⟨h3.size,h3.defers,fun t x hx=>(h3.rep t x hx).mono hE⟩ hd2
 rw [hlen] at this;simpa using this
theorem WP.OM (hU:∀t,aN P U t) (hm:P.follows .mixedOrders=true) {id:Nat} {ops:Array Oper} {ρ:Env} {h hl:Heap} {K:Exit→Env→Heap→Prop} {l1 l2:List Nat} (hdst:∀o∈ops.toList,dL n o.dst=true) (hsub:Sub hl h)
  (hB:uX .any ops l1 l2=true) (hk:eR P U n ops.toList hl l1 ρ h (fun ρ h=>∃hm2,Sub hm2 h∧eR P U n ops.toList hm2 l2 ρ h (K .normal))):WP P n (.region id ops true) ρ h K:=by
 intro cx a h1 h2 h3;simp only [uX,Bool.and_eq_true,List.all_eq_true,beq_iff_eq] at hB;obtain ⟨⟨⟨⟨b1,b2⟩,b3⟩,b4⟩,b5⟩:=hB;have hd:=cR hU l1 ρ h hk;rw [Array.toArray_toList] at hd;have hd2:=oE (md:= .any) b2 b3 l1 (Array.replicate ops.size false) (lk ρ) h (fun _ hk=>hk) rfl (.none _ _ _) b1 hd
 refine wp_region_any hm ?_;have hE:Ext cx {cx with w:= {cx.w with drawn:=cx.w.drawn+1}}:=Ext.draw rfl rfl rfl rfl
 have:=tV (n:=n) (m:=l2.length) (Q' :=WPK n K cx) (c0:=cx) hdst (fun c F h a hE hs g he hR=>by
  obtain ⟨ρ',rfl,hm2,hs2,hk2⟩:=hR;have he2:=cR hU l2 ρ' h hk2;rw [Array.toArray_toList] at he2;have ha:=mS (md:= .any) l2 (dJ l1 (Array.replicate ops.size false)) (lk ρ') h b4 he2;exact qB (n:=n) (Q' :=WPK n K cx) (c0:=cx) hdst (fun c F h a hE hs g he hQ=>by
   obtain ⟨ρ',rfl,hK⟩:=hQ;exact ⟨c,ρ',h,rfl,g,hE,⟨he.1,he.2.1,he.2.2⟩,hs,hK⟩) _ _ c _ h a hE hs (fun i k hi=>hs _ _ (hs2 _ _ hi)) g he ha) _ _ {cx with w:= {cx.w with drawn:=cx.w.drawn+1}} (lk ρ) h a hE h1 (fun i k hi=>h1 _ _ (hsub _ _ hi)) (h2.draw rfl rfl rfl rfl)
  ⟨h3.size,h3.defers,fun t x hx=>(h3.rep t x hx).mono hE⟩ hd2
 rw [b5] at this;simpa using this
theorem vT:∀ {l:List Oper},qg l=true→∃o,l.getLast? =some o∧o.guard=none
 | [o],h=>⟨o,rfl,by simp only [qg,Bool.and_eq_true] at h; simpa using h.2⟩
 |_::b::r,h=>by
  obtain ⟨o,h1,h2⟩:=vT (l:=b::r) h;exact ⟨o,by rw [List.getLast?_cons_cons]; exact h1,h2⟩
theorem WP.OO (hU:∀t,aN P U t) (hm:P.follows .mixedOrders=true) {id:Nat} {ops:Array Oper} {ρ:Env} {h hl:Heap} {K:Exit→Env→Heap→Prop} {l:Ord} (hdst:∀o∈ops.toList,dL n o.dst=true) (hsub:Sub hl h)
  (hz:uH .any ops l.len=true) (hg:(ops.toList.getLast?.map fun o=>o.guard.isNone)=some true) (hB:FL .any ops l.len l (Array.replicate ops.size false)=true) (hlen:l.len+1=ops.size)
  (hk:ju P U n ops.toList hl l ρ h (fun ρ h=>nO P U ops.toList h (K .normal) ρ)):WP P n (.region id ops true) ρ h K:=by
 intro cx a h1 h2 h3;obtain ⟨oz,hoz,hgz⟩:=Option.map_eq_some_iff.1 hg;have hgz:oz.guard=none:=by simpa using hgz
 have hzz:ops[l.len]? =some oz:=by
  rw [List.getLast?_eq_getElem?] at hoz;rw [show l.len=ops.size - 1 by omega]
  simpa using hoz
 have hd2:=xg (md:= .any) (all:=ops.toList) (z:=l.len) hU (by rw [Array.toArray_toList]; exact hz) l (Array.replicate ops.size false) ρ h (.none _ _ _) (by rw [Array.toArray_toList]; exact hB) hk
 rw [Array.toArray_toList] at hd2;refine wp_region_any hm ?_;have hE:Ext cx {cx with w:= {cx.w with drawn:=cx.w.drawn+1}}:=Ext.draw rfl rfl rfl rfl
 have:=tU (n:=n) (Q' :=WPK n K cx) (c0:=cx) hdst (fun c F h a hE hs g he hQ=>by
  obtain ⟨ρ',rfl,hK⟩:=hQ;unfold nO at hK;rw [hoz] at hK;simp only at hK;have he' :cj c n ρ' a:=⟨he.1,he.2.1,he.2.2⟩;have hdz:dL n oz.dst=true:=hdst oz (by simpa using Array.mem_of_getElem? hzz)
  have hu:=jK hU hK hs g he';unfold wpOp;rw [hzz];simp only;rw [if_pos (by simp [Region.wanted,hgz])]
  left
  have next:∀u w',dX c (fun X h' =>K .normal (put ρ' oz.dst X) h') u w'→WPK n K cx .normal (a.put oz.dst u) w' :=by
   rintro u w' ⟨c',x,h',rfl,g',hE',hr,hs',hK⟩
   exact ⟨c',_,h',rfl,g',hE.trans hE',(he'.mono hE').put hdz hr,hs',hK⟩
  unfold Oper.wp;generalize (execOp a.eval oz).run P c.w=r at hu;cases r with
  |ok nx w' =>
   cases nx<;>simp only [jU] at hu<;>simp only [Oper.upon]
   case value u=>exact next u w' hu
   case skip=>exact next undef w' hu
   case enter f args=>
    obtain ⟨rfl,hc⟩:=hu;exact hc.mono fun e w'' ⟨u,he,hcm⟩=>by subst he; exact next u w'' hcm
  |halt x w' =>exact hu.elim) _ _ {cx with w:= {cx.w with drawn:=cx.w.drawn+1}} (lk ρ) h a hE h1 (fun i k hi=>h1 _ _ (hsub _ _ hi)) (h2.draw rfl rfl rfl rfl)
  ⟨h3.size,h3.defers,fun t x hx=>(h3.rep t x hx).mono hE⟩ hd2
 rw [hlen] at this;exact this
theorem WP.ON (hU:∀t,aN P U t) (hm:P.follows .mixedOrders=true) {id:Nat} {ops:Array Oper} {ρ:Env} {h:Heap} {K:Exit→Env→Heap→Prop} (hdst:∀o∈ops.toList,dL n o.dst=true) (hl:qg ops.toList=true) (hB:HP ops=true)
  (hk:kL P U n ops.toList ops.toList.dropLast ρ h (nO P U ops.toList h (K .normal))):WP P n (.region id ops true) ρ h K:=by
 obtain ⟨oz,hoz,hgz⟩:=vT hl;intro cx a h1 h2 h3;unfold HP at hB;rw [Bool.and_eq_true] at hB;have hd:=nF hU ops.toList.dropLast ρ hk;have hpos:0<ops.size:=by
  rcases Nat.eq_zero_or_pos ops.size with e|e
  ·have:ops.toList= []:=by simpa using Array.eq_empty_of_size_eq_zero e
   rw [this] at hoz; cases hoz
  ·exact e
 have hz:ops[ops.size - 1]? =some oz:=by
  rw [List.getLast?_eq_getElem?] at hoz;simpa using hoz
 have hlen:ops.toList.dropLast.length=ops.size - 1:=by simp
 have hd2:=vq (md:= .any) (ops:=ops) hB.1 ops.toList.dropLast 0 (Array.replicate ops.size false) (lk ρ) (Closed.none _ _ _) (fun j hj=>by
  rw [List.getElem?_dropLast];simp at hj;simp [hj]) (by rw [hlen]; exact hB.2) (by simpa using hd)
 refine wp_region_any hm ?_;have hE:Ext cx {cx with w:= {cx.w with drawn:=cx.w.drawn+1}}:=Ext.draw rfl rfl rfl rfl
 have:=tI (n:=n) (Q' :=WPK n K cx) (c0:=cx) hdst (fun c F a hE hs g he hQ=>by
  obtain ⟨ρ',rfl,hK⟩:=hQ;unfold nO at hK;rw [hoz] at hK;simp only at hK;have he' :cj c n ρ' a:=⟨he.1,he.2.1,he.2.2⟩;have hdz:dL n oz.dst=true:=hdst oz (by simpa using Array.mem_of_getElem? hz)
  have hu:=jK hU hK hs g he';unfold wpOp;rw [hz];simp only;rw [if_pos (by simp [Region.wanted,hgz])]
  left
  have next:∀u w',dX c (fun X h' =>K .normal (put ρ' oz.dst X) h') u w'→WPK n K cx .normal (a.put oz.dst u) w' :=by
   rintro u w' ⟨c',x,h',rfl,g',hE',hr,hs',hK⟩
   exact ⟨c',_,h',rfl,g',hE.trans hE',(he'.mono hE').put hdz hr,hs',hK⟩
  unfold Oper.wp;generalize (execOp a.eval oz).run P c.w=r at hu;cases r with
  |ok nx w' =>
   cases nx<;>simp only [jU] at hu<;>simp only [Oper.upon]
   case value u=>exact next u w' hu
   case skip=>exact next undef w' hu
   case enter f args=>
    obtain ⟨rfl,hc⟩:=hu;exact hc.mono fun e w'' ⟨u,he,hcm⟩=>by subst he; exact next u w'' hcm
  |halt x w' =>exact hu.elim) _ _ {cx with w:= {cx.w with drawn:=cx.w.drawn+1}} (lk ρ) a hE h1 (h2.draw rfl rfl rfl rfl)
  ⟨h3.size,h3.defers,fun t x hx=>(h3.rep t x hx).mono hE⟩ hd2
 rw [hlen,Nat.sub_add_cancel hpos] at this;exact this
theorem dj (hU:∀t,aN P U t) (hm:P.follows .mixedOrders=true):∀(c:Code) (ρ:Env) (h:Heap) (K:Exit→Env→Heap→Prop),bF P U n c ρ h K→WP P n c ρ h K
 | .skip,ρ,h,K,hk=>fun cx a h1 h2 h3=>wp_skip ⟨cx,ρ,h,rfl,h2, .refl _,h3,h1,hk⟩
 | .region id ops draw,ρ,h,K,hk=>by
  simp only [bF] at hk;cases draw with
  |true=>
   simp only [if_true] at hk;split at hk
   ·rename_i hl
    obtain ⟨hb,hk⟩:=hk;rw [Bool.and_eq_true,List.all_eq_true] at hb;rw [Bool.and_eq_true] at hl;exact WP.ON hU hm hb.2 hl.1 hb.1 hk
   ·split at hk
    ·obtain ⟨hb,hk⟩:=hk
     rw [List.all_eq_true] at hb;rcases hk with ⟨h1,hk⟩|⟨hm',t,Post,h1,h2,h3,hk,hp⟩|⟨hm',l1,l2,h1,h2,hk⟩|⟨hm',l,h1,h2,h4,h5,h6,hk⟩
     ·exact WP.draw hU hm hb h1 hk
     ·exact WP.OL hU hm hb h1 h2 h3 hk hp
     ·exact WP.OM hU hm hb h1 h2 hk
     ·exact WP.OO hU hm hb h1 h2 h4 h5 h6 hk
    ·obtain ⟨hb,hk⟩:=hk
     rw [Bool.and_eq_true,List.all_eq_true] at hb;exact WP.draw hU hm hb.2 hb.1 hk
  |false=>exact WP.ops hU (by simpa using hk)
 | .seq a b,ρ,h,K,hk=>by
  simp only [bF] at hk;refine WP.seq ((dj hU hm a ρ h _ hk).weaken fun e ρ' h' hh=> ?_)
  cases e with
  |normal=>exact dj hU hm b ρ' h' K hh
  |_=>exact hh
 | .cond c a b,ρ,h,K,hk=>by
  simp only [bF] at hk;obtain ⟨y,hy,hk⟩:=aI hk;split at hk
  ·rename_i t
   intro cx ac h1 h2 h3;have hv:=(aE h3 hy).bS;exact wp_cond_split hv (fun e=>dj hU hm a ρ h K (hk.1 e) cx ac h1 h2 h3) (fun e=>dj hU hm b ρ h K (hk.2 e) cx ac h1 h2 h3)
  ·exact hk.elim
 | .block id c,ρ,h,K,hk=>WP.block (dj hU hm c ρ h _ (by simpa only [bF] using hk))
 | .loop c,ρ,h,K,hk=>by
  simp only [bF] at hk;intro cx a h1 h2 h3;obtain ⟨I,m,h0,hr⟩:=hk h3.wf;exact WP.loop I m h0 (fun m ρ h hI=>dj hU hm c ρ h _ (hr m ρ h hI)) cx a h1 h2 h3
 | .exit id,ρ,h,K,hk=>fun cx a h1 h2 h3=>wp_exit ⟨cx,ρ,h,rfl,h2, .refl _,h3,h1,by simpa only [bF] using hk⟩
 | .ret,ρ,h,K,hk=>fun cx a h1 h2 h3=>wp_ret ⟨cx,ρ,h,rfl,h2, .refl _,h3,h1,by simpa only [bF] using hk⟩
 | .label l,ρ,h,K,hk=>fun cx a h1 h2 h3=>wp_label ⟨cx,ρ,h,rfl,h2, .refl _,h3,h1,by simpa only [bF] using hk⟩
 | .goto l,ρ,h,K,hk=>fun cx a h1 h2 h3=>wp_goto ⟨cx,ρ,h,rfl,h2, .refl _,h3,h1,by simpa only [bF] using hk⟩
 | .rangeFunc ..,_,_,_,hk=>by simp [bF] at hk
 | .scope c,ρ,h,K,hk=>by
  simp only [bF] at hk;obtain ⟨l,rest,J,hf,h1,h2⟩:=hk;exact WP.scope l J hf (dj hU hm c ρ h _ h1) h2
 | .refuse _,_,_,_,hk=>by simp [bF] at hk
def qJ (ρ:Env) (h:Heap) (U:TypeId→TI):List ResultVar→(List AV→Prop)→Prop
 | [],k=>k []
 | .tmp t::r,k=>match lk ρ t with
  |some x=>qJ ρ h U r fun xs=>k (x::xs)
  |none=>False
 | .cell t ty::r,k=>match lk ρ t with
  |some (.ptr id off)=>match h id with
   |some (.obj cs _)=>(U ty).sz≠0∧(U ty).k≠ .other∧gL cs off (U ty) fun x=>qJ ρ h U r fun xs=>k (x::xs)
   |_=>False
  |_=>False
def ax (xs:List AV):AV:=match xs with
 | [x]=>x
 |xs=> .tup xs
inductive Weak:AV→AV→Prop where
 |refl (x:AV):Weak x x
 |sl (xs:List AV) (p:Perm):Weak (.sl xs p) (.sl xs .no)
 |agg (xs ys:List AV) (hl:xs.length=ys.length) (h:∀i (h1:i<xs.length) (h2:i<ys.length),Weak xs[i] ys[i]):Weak (.agg xs) (.agg ys)
 |tup (xs ys:List AV) (hl:xs.length=ys.length) (h:∀i (h1:i<xs.length) (h2:i<ys.length),Weak xs[i] ys[i]):Weak (.tup xs) (.tup ys)
 |deep (xs ys:List AV) (p:Perm) (hl:xs.length=ys.length) (hc:∀i (h1:i<xs.length) (h2:i<ys.length),xs[i].cells.length=ys[i].cells.length)
   (h:∀i (h1:i<xs.length) (h2:i<ys.length) j (h3:j<xs[i].cells.length) (h4:j<ys[i].cells.length),Weak xs[i].cells[j] ys[i].cells[j]):Weak (.sl xs p) (.sl ys .no)
theorem Rep.weak {c:Cx} {x y:AV} (hw:Weak x y):∀ {u:Value},Rep c x u→Rep c y u:=by
 induction hw with
 |refl x=>exact id
 |sl xs p=>
  intro u h;obtain ⟨a,cap,sz,val,rfl,hs⟩:=h.ia;exact .sl xs .no a cap sz val hs.hc hs.hm hs.h0 hs.hs hs.hz hs.hf hs.hr hs.ho trivial
 |agg xs ys hl h ih=>
  intro u hu;obtain ⟨vs,rfl,h1,h2,h3⟩:=hu.mO;exact .agg ys vs (by omega) (fun i hi=>ih i (by omega) hi (h2 i (by omega))) (fun i hi=>h3 i (by omega))
 |tup xs ys hl h ih=>
  intro u hu;obtain ⟨vs,rfl,h1,h2⟩:=hu.z7;exact .tup ys vs (by omega) (fun i hi=>ih i (by omega) hi (h2 i (by omega)))
 |deep xs ys p hl hc h ih=>
  intro u hu;obtain ⟨a,cap,sz,val,rfl,hs⟩:=hu.ia;rw [hl];exact .sl ys .no a cap sz val (by rw [←hl]; exact hs.hc) hs.hm hs.h0 hs.hs (fun i hi=>by rw [←hc i (by omega) hi]; exact hs.hz i (by omega)) (fun q hq i j hi hj=>hs.hf q hq i j (by omega) hj)
   (fun i hi j hj=>ih i (by omega) hi j (by rw [hc i (by omega) hi]; exact hj) hj (hs.hr i (by omega) j (by rw [hc i (by omega) hi]; exact hj))) (fun i j hi hj=>hs.ho i j (by omega) hj) trivial
theorem ak.weak {f:FuncId} {args args' :List AV} {h:Heap} {Q:AV→Heap→Prop} (hf:ak P f args' h Q) (hl:args.length=args'.length) (hw:∀i (h1:i<args.length) (h2:i<args'.length),Weak args[i] args'[i]):ak P f args h Q:=
 fun c vs h1 h2 h3 h4=>hf c vs h1 h2 (by omega) fun i hi=>(h4 i (by omega)).weak (hw i (by omega) hi)
theorem qK (hU:∀t,aN P U t) {c:Cx} {ρ:Env} {h:Heap} {a:Act} (hs:Sub h c.h) (g:Good c) (he:cj c n ρ a):∀(rs:List ResultVar) (k:List AV→Prop),qJ ρ h U rs k→
  ∃(xs:List AV) (vs:List Value),k xs∧vs.length=xs.length∧(∀i (h1:i<xs.length) (h2:i<vs.length),Rep c xs[i] vs[i])∧
   (rs.mapM fun (r:ResultVar)=>match r with| .tmp t=>(pure (a.tmps.getD t undef):Sem Value)| .cell q t=>do loadVar t (←asAddr (a.tmps.getD q undef))).run P c.w= .ok vs c.w
 | [],k,hk=>⟨[],[],hk,rfl,fun i h=>(by cases h),by simp⟩
 | .tmp t::r,k,hk=>by
  simp only [qJ] at hk;split at hk
  ·rename_i x hx
   obtain ⟨xs,vs,h1,h2,h3,h4⟩:=qK hU hs g he r _ hk;refine ⟨x::xs,a.tmps.getD t undef::vs,h1,by simp [h2],fun i hi1 hi2=> ?_, ?_⟩
   ·cases i with
    |zero=>exact he.rep _ _ hx
    |succ i=>exact h3 i (by simpa using hi1) (by simpa using hi2)
   ·simp only [List.mapM_cons,Sem.run_bind,Sem.run_pure,Result.andThen_ok,h4]
  ·exact hk.elim
 | .cell t ty::r,k,hk=>by
  simp only [qJ] at hk;split at hk
  ·rename_i id off hx
   split at hk
   ·rename_i cs t' hid
    obtain ⟨hz,ht,hk⟩:=hk;obtain ⟨x,hk,hX⟩:=qH (P:=P) hU hz ht hk;obtain ⟨xs,vs,h1,h2,h3,h4⟩:=qK hU hs g he r _ hk;obtain ⟨hu,_⟩:=(he.rep _ _ hx).jR;obtain ⟨us,u1,u2,u3⟩:=g.obj id cs t' (hs _ _ hid);obtain ⟨v,v1,v2⟩:=hX c (c.φ id).block 0 (fun j=>us.getD j undef) (fun j hj=>by
     have:j<us.size:=by omega
     simp [World.cell?,u1,this]) (fun j hj=>(u3 j hj).1) (fun j hj=>(u3 j hj).2)
    rw [Nat.zero_add] at v1;refine ⟨x::xs,v::vs,h1,by simp [h2],fun i hi1 hi2=> ?_, ?_⟩
    ·cases i with
     |zero=>exact v2
     |succ i=>exact h3 i (by simpa using hi1) (by simpa using hi2)
    ·have ha:(asAddr (a.tmps.getD t undef)).run P c.w= .ok ⟨(c.φ id).block,off,none⟩ c.w:=by rw [hu]; rfl
     simp only [List.mapM_cons,Sem.run_bind,ha,Sem.run_pure,Result.andThen_ok,v1,h4]
   ·exact hk.elim
  ·exact hk.elim
def vA (args:List AV):Env:=args.zipIdx.map fun p=>(p.2,p.1)
theorem vZ:∀(args:List AV) (k t:Nat),lk ((args.zipIdx k).map fun p=>(p.2,p.1)) t=if k≤t then args[t - k]? else none
 | [],k,t=>by simp [lk]
 |x::r,k,t=>by
  have ih:=vZ r (k+1) t;simp only [List.zipIdx_cons,List.map_cons,lk,ih]
  by_cases e:k=t
  ·subst e; simp
  ·rw [if_neg e]
   by_cases h:k≤t
   ·rw [if_pos (by omega),if_pos h]
    rw [show t - k=(t - (k+1))+1 by omega]
    rfl
   ·rw [if_neg (by omega),if_neg h]
def tD (U:TypeId→TI) (rs:List ResultVar) (Q:AV→Heap→Prop) (e:Exit) (ρ:Env) (h:Heap):Prop:=
 (match e with| .ret| .normal=>True|_=>False)∧qJ ρ h U rs fun xs=>∃y h',Weak (ax xs) y∧Sub h' h∧Q y h'
theorem ak.Ib (hU:∀t,aN P U t) {f:FuncId} {fn:Func} {c:Code} {args:List AV} {h:Heap} {Q:AV→Heap→Prop} (hf:P.funcs[f]? =some fn) (hb:fn.body=some c)
  (hn : (fn.name == "runtime.NumGoroutine") = false) (hl : args.length ≤ fn.ntmps)
  (hk:(∀x∈args,wfA x)→WP P fn.ntmps c (vA args) h (tD U fn.results.toList Q)):ak P f args h Q:=by
 intro cx vs hs g hv hr;refine .inl ⟨⟨fn,hf,hn,by rw [hb]; rfl⟩,calls_of_wp hf hb ?_⟩
 have hwf:∀x∈args,wfA x:=fun x hx=>by
  obtain ⟨i,hi,rfl⟩:=List.mem_iff_getElem.1 hx;exact (hr i hi).wf
 have hw:=hk hwf;have he:cj cx fn.ntmps (vA args) {tmps:=vs++Array.replicate (fn.ntmps - vs.size) undef,defers:= []}:=by
  refine ⟨by simp; omega,rfl,fun t x hx=> ?_⟩
  have:=vZ args 0 t;simp only [Nat.zero_le,if_true,Nat.sub_zero] at this;have e:lk (vA args) t=args[t]? :=this;rw [e] at hx;obtain ⟨hi,rfl⟩:=List.getElem?_eq_some_iff.1 hx;have h1:=hr t hi;have h2:t<vs.size:=by omega
  have e2:(vs++Array.replicate (fn.ntmps - vs.size) undef).getD t undef=vs.getD t undef:=by
   rw [Array.getD,dif_pos (by simp; omega),Array.getD,dif_pos h2]
   exact Array.getElem_append_left h2
  simp only [e2];exact h1
 refine wp_mono (hw cx _ hs g he) fun e a w hq=> ?_
 obtain ⟨c',ρ',h',rfl,g',hE,he',hs',hk1,hk2⟩:=hq;obtain ⟨xs,us,⟨y,h'',hwk,hsub,hQ⟩,hl',hr',hrun⟩:=qK hU hs' g' he' _ _ hk2;have hres:∃u,(results fn a.tmps).run P c'.w= .ok u c'.w∧Rep c' (ax xs) u:=by
  have hrun' :(fn.results.mapM fun (r:ResultVar)=>match r with| .tmp t=>(pure (a.tmps.getD t undef):Sem Value)| .cell q t=>do loadVar t (←asAddr (a.tmps.getD q undef))).run P c'.w= .ok us.toArray c'.w:=by
   rw [Array.mapM_eq_mapM_toList,Sem.run_map,hrun]; rfl
  have hres0:(results fn a.tmps).run P c'.w= .ok (if h:us.toArray.size=1 then us.toArray[0] else .tuple us.toArray) c'.w:=by
   have e0:results fn a.tmps=(fn.results.mapM fun (r:ResultVar)=>match r with| .tmp t=>(pure (a.tmps.getD t undef):Sem Value)| .cell q t=>do loadVar t (←asAddr (a.tmps.getD q undef)))>>=fun vs=>pure (if h:vs.size=1 then vs[0] else .tuple vs):=rfl
   rw [e0,Sem.run_bind,hrun'];rfl
  by_cases h1:us.length=1
  ·obtain ⟨u,rfl⟩:=List.length_eq_one_iff.1 h1
   obtain ⟨x,rfl⟩:=List.length_eq_one_iff.1 (hl'.symm.trans h1);refine ⟨u, ?_,hr' 0 (by simp) (by simp)⟩
   rw [hres0];simp
  ·refine ⟨.tuple us.toArray, ?_, ?_⟩
   ·rw [hres0]
    simp [h1]
   ·have:ax xs= .tup xs:=by
     cases xs with
     |nil=>rfl
     |cons x r=>cases r with
      |nil=>exact (h1 (by simpa using hl')).elim
      |cons y q=>rfl
    rw [this];refine .tup xs _ (by simp [hl']) fun i hi=> ?_
    have:=hr' i hi (by omega)
    simpa [show i<us.length by omega] using this
 obtain ⟨u,hu1,hu2⟩:=hres;have fin:a.defers= []∧∃v,(results fn a.tmps).run P c'.w= .ok v c'.w∧∃u,Ending.returned v= .returned u∧dX cx Q u c'.w:=
  ⟨he'.defers,u,hu1,u,rfl,c',y,h'',rfl,g',hE,hu2.weak hwk,fun id k hk=>hs' _ _ (hsub _ _ hk),hQ⟩
 cases e with
 |normal=>exact fin
 |ret=>exact fin
 |_=>exact hk1.elim
theorem ak.Pw (hU:∀t,aN P U t) (hm:P.follows .mixedOrders=true) {f:FuncId} {fn:Func} {c:Code} {args:List AV} {h:Heap} {Q:AV→Heap→Prop} (hf:P.funcs[f]? =some fn) (hb:fn.body=some c)
  (hn : (fn.name == "runtime.NumGoroutine") = false) (hl : args.length ≤ fn.ntmps)
  (hk:(∀x∈args,wfA x)→bF P U fn.ntmps c (vA args) h (tD U fn.results.toList Q)):ak P f args h Q:=
 ak.Ib hU hf hb hn hl fun hw=>dj hU hm c _ h _ (hk hw)
end
def xm:AV→Value→Bool
 | .v (.int k n), .int k' m=>decide (k=k') && decide (n=m)
 | .v (.bool a), .bool b=>a==b
 | .s [], .string b=>b.data.toList.isEmpty
 | .sl [] .full, .slice none 0 0=>true
 | .v (.pointer none), .pointer none=>true
 | .v .nilIface, .nilIface=>true
 | .v .nilFunc, .nilFunc=>true
 | .v (.map none), .map none=>true
 | .v (.complex k a b), .complex k' a' b' =>decide (k=k') && a==a' && b==b'
 |_,_=>false
theorem qN {x:AV} {v:Value} (h:xm x v=true) (c:Cx):Rep c x v∧v.oneCell' =true:=by
 unfold xm at h;split at h
 ·simp at h; obtain ⟨rfl,rfl⟩:=h; exact ⟨.v _,rfl⟩
 ·simp at h; subst h; exact ⟨.v _,rfl⟩
 ·rename_i b
  have e:b=⟨([]:List UInt8).toArray⟩:=by
   apply ByteArray.ext;simpa using h
  subst e;exact ⟨.s [] (by decide),rfl⟩
 ·exact ⟨wP c (.slice none 0 0),rfl⟩
 ·exact ⟨.v _,rfl⟩
 ·exact ⟨.v _,rfl⟩
 ·exact ⟨.v _,rfl⟩
 ·exact ⟨.v _,rfl⟩
 ·simp at h; obtain ⟨⟨rfl,rfl⟩,rfl⟩:=h; exact ⟨.v _,rfl⟩
 ·cases h
def tn:List AV→List Value→Bool
 | [],[]=>true
 |x::xs,v::vs=>xm x v && tn xs vs
 |_,_=>false
theorem uw:∀ {xs:List AV} {vs:List Value},tn xs vs=true→xs.length=vs.length∧∀i (h1:i<xs.length) (h2:i<vs.length),xm xs[i] vs[i]=true
 | [],[],_=>⟨rfl,fun i h=>(by cases h)⟩
 |x::xs,v::vs,h=>by
  simp only [tn,Bool.and_eq_true] at h;obtain ⟨h1,h2⟩:=uw h.2;refine ⟨by simp [h1],fun i a b=> ?_⟩
  cases i with
  |zero=>exact h.1
  |succ i=>exact h2 i (by simpa using a) (by simpa using b)
 | [],_::_,h=>by simp [tn] at h
 |_::_,[],h=>by simp [tn] at h
def Jf:AV→Value→Bool
 | .agg xs, .agg vs=>tn xs vs.toList
 |x,v=>xm x v
theorem Gp {x:AV} {v:Value} (h:Jf x v=true) (c:Cx):Rep c x v:=by
 unfold Jf at h;split at h
 ·rename_i xs vs
  obtain ⟨h1,h2⟩:=uw h;have hl:vs.size=xs.length:=by simpa using h1.symm
  refine .agg xs vs hl (fun i hi=> ?_) (fun i hi=> ?_)
  ·have:=(qN (h2 i hi (by simp; omega)) c).1
   simpa [show i<vs.size by omega] using this
  ·have:=(qN (h2 i hi (by simp; omega)) c).2
   simpa [show i<vs.size by omega] using this
 ·exact (qN h c).1
def G8 (P:Program) (U:TypeId→TI) (t:TypeId):Bool:=
 match (U t).k,P.underlying t with
 | .int k,some (.int k')=>decide (k' =k)
 | .bool,some .bool=>true
 | .str,some .string=>true
 | .slice e,some (.slice e')=>decide (e' =e)
 | .strct fs,some (.struct fields)=>decide (fields.toList.map (fun f=>(f.offset,f.type))=fs) && fs.all fun p=>(U p.2).sz !=0
 | .ptr e,some (.pointer e')=>decide (e' =e)
 | .arr n e,some (.array n' e')=>decide (n' =n) && decide (e' =e)
 | .iface,some (.interface _)=>true
 | .cplx k,some (.complex k')=>decide (k' =k)
 | .map k e,some (.map k' e')=>decide (k' =k) && decide (e' =e)
 | .other,_=>true
 |_,_=>false
def Hz (P:Program) (U:TypeId→TI) (t:TypeId):Bool:=
 (U t).sz==0||match P.info? t with
  |some i=>i.size==(U t).sz && i.bytes==(U t).bytes && match i.zero with
   |some z=>z.cells.size==(U t).sz && Jf (U t).zero z
   |none=>false
  |none=>false
def I5 (P:Program) (U:TypeId→TI) (t:TypeId):Bool:=match (U t).k with
 | .strct []=>match P.info? t with
  |some i=>match i.zero with
   |some (.agg vs)=>vs.isEmpty && i.size==0
   |_=>false
  |none=>false
 |_=>true
def MX:TK→TK→Bool
 | .int a, .int b=>decide (a=b)
 | .bool, .bool=>true
 | .str, .str=>true
 | .cplx a, .cplx b=>decide (a=b)
 |_,_=>false
theorem Kq {a b:TK} (h:MX a b=true):a=b:=by
 unfold MX at h;split at h
 ·exact congrArg _ (V2 h)
 ·rfl
 ·rfl
 ·exact congrArg _ (V2 h)
 ·cases h
def rY:List TK→List TK→Bool
 | [],[]=>true
 |x::xs,y::ys=>MX x y && rY xs ys
 |_,_=>false
theorem rZ:∀ {a b:List TK},rY a b=true→a=b
 | [],[],_=>rfl
 | [],_::_,h=>by cases h
 |_::_,[],h=>by cases h
 |x::xs,y::ys,h=>by
  simp only [rY,Bool.and_eq_true] at h;rw [Kq h.1,rZ h.2]
def xd (U:TypeId→TI) (r:Nat):List (Nat×TypeId)→Nat→List TK→Bool
 | [],_,l=>l.isEmpty
 |f::fs,o,l=>match (U f.2).eq with
  |some (r',l')=>f.1==o && decide (r' <r) && rY (l.take l'.length) l' && xd U r fs (o+l'.length) (l.drop l'.length)
  |none=>false
theorem uq {U:TypeId→TI} {r:Nat}:∀ {fs:List (Nat×TypeId)} {o:Nat} {l:List TK},xd U r fs o l=true→B8 U r fs o l
 | [],o,l,h=>by simpa [xd,B8] using h
 |f::fs,o,l,h=>by
  unfold xd at h;split at h
  ·rename_i r' l' he
   simp only [Bool.and_eq_true,beq_iff_eq,decide_eq_true_eq] at h;obtain ⟨⟨⟨h1,h2⟩,h3⟩,h4⟩:=h;exact ⟨h1,r',l',he,h2,rZ h3,uq h4⟩
  ·cases h
def eqB (P:Program) (U:TypeId→TI) (t:TypeId):Bool:=match (U t).eq with
 |none=>true
 |some (r,l)=>l.length==(U t).sz && !l.isEmpty && decide (r<100) && match (U t).k with
  | .int k=>rY l [.int k]
  | .bool=>rY l [.bool]
  | .str=>rY l [.str]
  | .cplx k=>rY l [.cplx k]
  | .strct fs => !P.stoodInHeld t && !P.eqGuardType P.depth t && (P.fieldsOf t).toList.all (fun f => f.name != "_") && xd U r fs 0 l
  | .arr n e=> !P.eqGuardType P.depth t && match (U e).eq with
   |some (r',l')=>decide (r' <r) && rY l (List.replicate n l').flatten
   |none=>false
  |_=>false
theorem Hi {P:Program} {U:TypeId→TI} {t:TypeId} (h:eqB P U t=true):∀r l,(U t).eq=some (r,l)→Jm P U t r l:=by
 intro r l he;unfold eqB at h;rw [he] at h;simp only [Bool.and_eq_true,beq_iff_eq,decide_eq_true_eq,Bool.not_eq_true'] at h;obtain ⟨⟨⟨h1,h2⟩,h3⟩,h4⟩:=h;refine ⟨h1,(by intro e; rw [e] at h2; cases h2),h3, ?_⟩
 cases hk:(U t).k<;>rw [hk] at h4<;>simp only at h4⊢<;>first|exact rZ h4|(cases h4)|skip
 ·simp only [Bool.and_eq_true,Bool.not_eq_true',List.all_eq_true] at h4
  obtain ⟨⟨⟨g1,g2⟩,g3⟩,g4⟩:=h4;exact ⟨g1,g2,fun f hf=>by simpa using g3 f (by simpa using hf),uq g4⟩
 ·simp only [Bool.and_eq_true,Bool.not_eq_true'] at h4
  obtain ⟨g1,g2⟩:=h4;split at g2
  ·rename_i r' l' he'
   simp only [Bool.and_eq_true,decide_eq_true_eq] at g2;exact ⟨g1,r',l',he',g2.1,rZ g2.2⟩
  ·cases g2
theorem GH {P:Program} {U:TypeId→TI} {t:TypeId} (h1:G8 P U t=true) (h2:Hz P U t=true) (h3:I5 P U t=true) (h4:eqB P U t=true):aN P U t:=by
 refine ⟨?_,fun hz=> ?_,fun hz=> ?_,Hi h4⟩
 ·unfold G8 at h1
  split at h1
  ·rename_i k k' hk hu; rw [hk]; rw [hu]; simp at h1; rw [h1]
  ·rename_i hk hu; rw [hk]; exact hu
  ·rename_i hk hu; rw [hk]; exact hu
  ·rename_i e e' hk hu; rw [hk]; rw [hu]; simp at h1; rw [h1]
  ·rename_i fs fields hk hu
   rw [hk];rw [Bool.and_eq_true,List.all_eq_true] at h1;exact ⟨fields,hu,V2 h1.1,fun p hp=>by simpa using h1.2 p hp⟩
  ·rename_i e e' hk hu; rw [hk]; rw [hu]; simp at h1; rw [h1]
  ·rename_i n e n' e' hk hu; rw [hk]; rw [hu]; simp at h1; rw [h1.1,h1.2]
  ·rename_i ms hk hu; rw [hk]; exact ⟨ms,hu⟩
  ·rename_i k k' hk hu; rw [hk]; rw [hu]; simp at h1; rw [h1]
  ·rename_i k e k' e' hk hu; rw [hk]; rw [hu]; simp at h1; rw [h1.1,h1.2]
  ·rename_i hk; rw [hk]; trivial
  ·cases h1
 ·unfold Hz at h2
  simp only [Bool.or_eq_true,beq_iff_eq,hz,false_or] at h2;split at h2
  ·rename_i i hi
   simp only [Bool.and_eq_true,beq_iff_eq] at h2;obtain ⟨⟨h3,h4⟩,h5⟩:=h2;split at h5
   ·rename_i z hz'
    simp only [Bool.and_eq_true,beq_iff_eq] at h5;exact ⟨i,hi,h3,h4,z,hz',h5.1,fun c=>Gp h5.2 c⟩
   ·cases h5
  ·cases h2
 ·unfold I5 at h3
  rw [hz] at h3;simp only at h3;split at h3
  ·rename_i i hi
   split at h3
   ·rename_i vs hv
    rw [Bool.and_eq_true] at h3;exact ⟨i,hi,by rw [hv]; congr 2; simpa using h3.1,by simpa using h3.2⟩
   ·cases h3
  ·cases h3
theorem EE {P:Program} {U:TypeId→TI} (N:Nat) (h:(List.range N).all (fun t=>G8 P U t && Hz P U t && I5 P U t && eqB P U t)=true) (h' :∀t,N≤t→U t=⟨.other,0,0,default,none⟩):∀t,aN P U t:=by
 intro t
 by_cases ht:t<N
 ·rw [List.all_eq_true] at h
  have:=h t (by simpa using ht)
  rw [Bool.and_eq_true,Bool.and_eq_true,Bool.and_eq_true] at this;exact GH this.1.1.1 this.1.1.2 this.1.2 this.2
 ·have:=h' t (Nat.le_of_not_lt ht)
  exact ⟨by rw [this]; trivial,fun hz=>by rw [this] at hz; exact (hz rfl).elim,fun hz=>(by rw [this] at hz; cases hz),fun r l he=>by rw [this] at he; cases he⟩
section
variable {P : Program} {U : TypeId → TI} {n : Nat} {ρ : Env} {h : Heap}
def aF {α:Type} (o:Option α) (k:α→Prop):Prop:=match o with
 |some y=>k y
 |none=>False
@[congr] theorem KM {α:Type} {o o' :Option α} {k:α→Prop} (e:o=o'):aF o k=aF o' k:=by rw [e]
@[go_sem] theorem fA {α:Type} (y:α) (k:α→Prop):aF (some y) k=k y:=rfl
def Br (t:Bool) (A B:Prop):Prop:=(t=true→A)∧(t=false→B)
@[congr] theorem Oj {t t' :Bool} {A B:Prop} (e:t=t'):Br t A B=Br t' A B:=by rw [e]
@[go_sem] theorem PX (A B:Prop):Br true A B=A:=by simp [Br]
@[go_sem] theorem Ok (A B:Prop):Br false A B=B:=by simp [Br]
def atH (Q:AV→Heap→Prop) (h:Heap) (r:AV):Prop:=Q r h
@[go_sem↓] theorem Q5 (Q:AV→Heap→Prop) (h:Heap) (r:AV):atH Q h r=Q r h:=rfl
def atK (t:TK) (k:TK→Prop):Prop:=k t
@[congr] theorem Nz {t t' :TK} {k:TK→Prop} (e:t=t'):atK t k=atK t' k:=by rw [e]
@[go_sem] theorem P6 (x:IntKind) (k:TK→Prop):atK (.int x) k=k (.int x):=rfl
@[go_sem] theorem P8 (k:TK→Prop):atK .str k=k .str:=rfl
@[go_sem] theorem NA (x:TypeId) (k:TK→Prop):atK (.slice x) k=k (.slice x):=rfl
@[go_sem] theorem NC (x:List (Nat×TypeId)) (k:TK→Prop):atK (.strct x) k=k (.strct x):=rfl
def fj (xs:List AV) (m:Int) (sz:Nat) (k:AV→Prop):Prop:=Idx xs m fun b=>b.cells.length=sz∧k (.pe b 0)
theorem fj.at {xs:List AV} {sz:Nat} {k:AV→Prop} (j:Nat) (hj:j<xs.length) (hz:xs[j].cells.length=sz) (hk:k (.pe xs[j] 0)):fj xs (j:Int) sz k:=⟨by omega,xs[j],by simp [hj],hz,hk⟩
def Jp (l:List UInt8) (m:Int) (k:AV→Prop):Prop:=Idx l m fun b=>k (ct b)
theorem Jp.at {l:List UInt8} {k:AV→Prop} (j:Nat) (hj:j<l.length) (hk:k (ct l[j])):Jp l (j:Int) k:=⟨by omega,l[j],by simp [hj],hk⟩
@[congr] theorem Lw {f f' :FuncId} {a a' :List AV} {h h' :Heap} {Q:AV→Heap→Prop} (h0:f=f') (h1:a=a') (h2:h=h'):ak P f a h Q=ak P f' a' h' Q:=by rw [h0,h1,h2]
@[go_sem↓] theorem QG (k:Nat) (x:AV) (r:Env) (t:Nat):lk ((k,x)::r) t=if k=t then some x else lk r t:=rfl
@[go_sem↓] theorem KZ (d:Nat) (x:AV) (r:Env) (t:Nat):lk (put r (some d) x) t=if d=t then some x else lk r t:=rfl
@[go_sem↓] theorem KY (x:AV) (r:Env) (t:Nat):lk (put r none x) t=lk r t:=rfl
@[go_sem↓] theorem Rv (args:List AV) (t:Nat):lk (vA args) t=args[t]? :=by
 have:=vZ args 0 t;simp only [Nat.zero_le,if_true,Nat.sub_zero] at this;exact this
@[go_sem] theorem O5 {α:Type} (x:α) (r:List α):(x::r)[0]? =some x:=rfl
@[go_sem] theorem O4 {α:Type} (x:α) (r:List α) (i:Nat):(x::r)[i+1]? =r[i]? :=by simp
@[go_sem↓] theorem Rn (t:Nat):ev ρ (.tmp t)=lk ρ t:=rfl
@[go_sem↓] theorem Rm (k:IntKind) (m:Int):ev ρ (.const (.int k m))=some (.v (.int k m)):=rfl
@[go_sem↓] theorem Qm (b:Bool):ev ρ (.const (.bool b))=some (.v (.bool b)):=rfl
@[go_sem↓] theorem Qn (k:FloatKind) (a b:Nat):ev ρ (.const (.complex k a b))=some (.v (.complex k a b)):=rfl
@[go_sem↓] theorem OS (k:FloatKind) (a:Nat):ev ρ (.const (.float k a))=some (.v (.float k a)):=rfl
@[go_sem↓] theorem KT:ev ρ (.const (.slice none 0 0))=some (.sl [] .full):=rfl
theorem dw {l:List UInt8} (hl:l.length<4096):ev ρ (.const (.string ⟨l.toArray⟩))=some (.s l):=by
 have:l.length<lim:=by simp only [lim]; omega
 simp [ev,ofV,Dd,this]
@[go_sem↓] theorem Qp:ev ρ (.const (.string ⟨#[]⟩))=some (.s []):=dw (l:= []) (by decide)
@[go_sem↓] theorem Qq (a0:UInt8):ev ρ (.const (.string ⟨#[a0]⟩))=some (.s [a0]):=dw (l:= [a0]) (by simp)
@[go_sem↓] theorem Qr (a0 a1:UInt8):ev ρ (.const (.string ⟨#[a0,a1]⟩))=some (.s [a0,a1]):=dw (l:= [a0,a1]) (by simp)
@[go_sem↓] theorem Qs (a0 a1 a2:UInt8):ev ρ (.const (.string ⟨#[a0,a1,a2]⟩))=some (.s [a0,a1,a2]):=dw (l:= [a0,a1,a2]) (by simp)
@[go_sem↓] theorem Qt (a0 a1 a2 a3:UInt8):ev ρ (.const (.string ⟨#[a0,a1,a2,a3]⟩))=some (.s [a0,a1,a2,a3]):=dw (l:= [a0,a1,a2,a3]) (by simp)
@[go_sem↓] theorem Qu (a0 a1 a2 a3 a4:UInt8):ev ρ (.const (.string ⟨#[a0,a1,a2,a3,a4]⟩))=some (.s [a0,a1,a2,a3,a4]):=dw (l:= [a0,a1,a2,a3,a4]) (by simp)
@[go_sem↓] theorem Qv (a0 a1 a2 a3 a4 a5:UInt8):ev ρ (.const (.string ⟨#[a0,a1,a2,a3,a4,a5]⟩))=some (.s [a0,a1,a2,a3,a4,a5]):=dw (l:= [a0,a1,a2,a3,a4,a5]) (by simp)
@[go_sem↓] theorem Qw (a0 a1 a2 a3 a4 a5 a6:UInt8):ev ρ (.const (.string ⟨#[a0,a1,a2,a3,a4,a5,a6]⟩))=some (.s [a0,a1,a2,a3,a4,a5,a6]):=dw (l:= [a0,a1,a2,a3,a4,a5,a6]) (by simp)
@[go_sem↓] theorem Qx (a0 a1 a2 a3 a4 a5 a6 a7:UInt8):ev ρ (.const (.string ⟨#[a0,a1,a2,a3,a4,a5,a6,a7]⟩))=some (.s [a0,a1,a2,a3,a4,a5,a6,a7]):=dw (l:= [a0,a1,a2,a3,a4,a5,a6,a7]) (by simp)
@[go_sem↓] theorem OT (a0 a1 a2 a3 a4 a5 a6 a7 a8 a9:UInt8):ev ρ (.const (.string ⟨#[a0,a1,a2,a3,a4,a5,a6,a7,a8,a9]⟩))=some (.s [a0,a1,a2,a3,a4,a5,a6,a7,a8,a9]):=dw (l:= [a0,a1,a2,a3,a4,a5,a6,a7,a8,a9]) (by simp)
@[go_sem↓] theorem OU (a0 a1 a2 a3 a4 a5 a6 a7 a8 a9 a10:UInt8):ev ρ (.const (.string ⟨#[a0,a1,a2,a3,a4,a5,a6,a7,a8,a9,a10]⟩))=some (.s [a0,a1,a2,a3,a4,a5,a6,a7,a8,a9,a10]):=dw (l:= [a0,a1,a2,a3,a4,a5,a6,a7,a8,a9,a10]) (by simp)
@[go_sem↓] theorem OV (a0 a1 a2 a3 a4 a5 a6 a7 a8 a9 a10 a11:UInt8):ev ρ (.const (.string ⟨#[a0,a1,a2,a3,a4,a5,a6,a7,a8,a9,a10,a11]⟩))=some (.s [a0,a1,a2,a3,a4,a5,a6,a7,a8,a9,a10,a11]):=dw (l:= [a0,a1,a2,a3,a4,a5,a6,a7,a8,a9,a10,a11]) (by simp)
@[go_sem↓] theorem OW (a0 a1 a2 a3 a4 a5 a6 a7 a8 a9 a10 a11 a12:UInt8):ev ρ (.const (.string ⟨#[a0,a1,a2,a3,a4,a5,a6,a7,a8,a9,a10,a11,a12]⟩))=some (.s [a0,a1,a2,a3,a4,a5,a6,a7,a8,a9,a10,a11,a12]):=dw (l:= [a0,a1,a2,a3,a4,a5,a6,a7,a8,a9,a10,a11,a12]) (by simp)
@[go_sem↓] theorem OX (a0 a1 a2 a3 a4 a5 a6 a7 a8 a9 a10 a11 a12 a13 a14 a15:UInt8):ev ρ (.const (.string ⟨#[a0,a1,a2,a3,a4,a5,a6,a7,a8,a9,a10,a11,a12,a13,a14,a15]⟩))=some (.s [a0,a1,a2,a3,a4,a5,a6,a7,a8,a9,a10,a11,a12,a13,a14,a15]):=dw (l:= [a0,a1,a2,a3,a4,a5,a6,a7,a8,a9,a10,a11,a12,a13,a14,a15]) (by simp)
@[go_sem↓] theorem OY (a0 a1 a2 a3 a4 a5 a6 a7 a8 a9 a10 a11 a12 a13 a14 a15 a16:UInt8):ev ρ (.const (.string ⟨#[a0,a1,a2,a3,a4,a5,a6,a7,a8,a9,a10,a11,a12,a13,a14,a15,a16]⟩))=some (.s [a0,a1,a2,a3,a4,a5,a6,a7,a8,a9,a10,a11,a12,a13,a14,a15,a16]):=dw (l:= [a0,a1,a2,a3,a4,a5,a6,a7,a8,a9,a10,a11,a12,a13,a14,a15,a16]) (by simp)
@[go_sem↓] theorem OZ (a0 a1 a2 a3 a4 a5 a6 a7 a8 a9 a10 a11 a12 a13 a14 a15 a16 a17 a18 a19 a20 a21 a22:UInt8):ev ρ (.const (.string ⟨#[a0,a1,a2,a3,a4,a5,a6,a7,a8,a9,a10,a11,a12,a13,a14,a15,a16,a17,a18,a19,a20,a21,a22]⟩))=some (.s [a0,a1,a2,a3,a4,a5,a6,a7,a8,a9,a10,a11,a12,a13,a14,a15,a16,a17,a18,a19,a20,a21,a22]):=dw (l:= [a0,a1,a2,a3,a4,a5,a6,a7,a8,a9,a10,a11,a12,a13,a14,a15,a16,a17,a18,a19,a20,a21,a22]) (by simp)
@[go_sem↓] theorem Qo (f:FuncId):ev ρ (.func f)=some (.fn f []):=rfl
def KO (x:Option AV) (r:Option (List AV)):Option (List AV):=match x,r with
 |some y,some ys=>some (y::ys)
 |_,_=>none
@[go_sem] theorem LY (y:AV) (ys:List AV):KO (some y) (some ys)=some (y::ys):=rfl
@[go_sem↓] theorem Qy:evs ρ []=some []:=rfl
@[go_sem↓] theorem O0 (x:Operand) (r:List Operand):evs ρ (x::r)=KO (ev ρ x) (evs ρ r):=rfl
@[go_sem↓] theorem bR (x:Operand) (k:AV→Prop):withv ρ x k=aF (ev ρ x) k:=by unfold withv aF; cases ev ρ x<;>rfl
@[go_sem↓] theorem gj (xs:List Operand) (k:List AV→Prop):withvs ρ xs k=aF (evs ρ xs) k:=by unfold withvs aF; cases evs ρ xs<;>rfl
@[go_sem↓] theorem RP (K:Exit→Env→Heap→Prop):bF P U n .skip ρ h K=K .normal ρ h:=rfl
@[go_sem↓] theorem Pz (id:Nat) (l:List Oper) (K:Exit→Env→Heap→Prop):bF P U n (.region id l.toArray false) ρ h K=jz P U n l l ρ h (K .normal):=rfl
def Ae (P:Program) (U:TypeId→TI) (n:Nat) (b:Code) (K:Exit→Env→Heap→Prop):Exit→Env→Heap→Prop:=KSeq (fun ρ h=>bF P U n b ρ h K) K
@[go_sem↓] theorem TV (a b:Code) (K:Exit→Env→Heap→Prop):bF P U n (.seq a b) ρ h K=bF P U n a ρ h (Ae P U n b K):=rfl
@[go_sem↓] theorem Jr (b:Code) (K:Exit→Env→Heap→Prop):Ae P U n b K .normal ρ h=bF P U n b ρ h K:=rfl
@[go_sem↓] theorem Np (b:Code) (K:Exit→Env→Heap→Prop):Ae P U n b K .ret ρ h=K .ret ρ h:=rfl
@[go_sem↓] theorem LF (b:Code) (K:Exit→Env→Heap→Prop) (i:Nat):Ae P U n b K (.exit i) ρ h=K (.exit i) ρ h:=rfl
@[go_sem↓] theorem LG (b:Code) (K:Exit→Env→Heap→Prop) (i:Nat):Ae P U n b K (.goto i) ρ h=K (.goto i) ρ h:=rfl
def uY (P:Program) (U:TypeId→TI) (n:Nat) (a b:Code) (ρ:Env) (h:Heap) (K:Exit→Env→Heap→Prop) (y:AV):Prop:=match y with
 | .v (.bool t)=>(t=true→bF P U n a ρ h K)∧(t=false→bF P U n b ρ h K)
 |_=>False
@[go_sem↓] theorem Lu (a b:Code) (K:Exit→Env→Heap→Prop):uY P U n a b ρ h K (.v (.bool true))=bF P U n a ρ h K:=by simp [uY]
@[go_sem↓] theorem KC (a b:Code) (K:Exit→Env→Heap→Prop):uY P U n a b ρ h K (.v (.bool false))=bF P U n b ρ h K:=by simp [uY]
theorem uY.intro {a b:Code} {K:Exit→Env→Heap→Prop} {t:Bool} (h1:t=true→bF P U n a ρ h K) (h2:t=false→bF P U n b ρ h K):uY P U n a b ρ h K (.v (.bool t)):=⟨h1,h2⟩
@[go_sem↓] theorem RH (c:Operand) (a b:Code) (K:Exit→Env→Heap→Prop):bF P U n (.cond c a b) ρ h K=aF (ev ρ c) (uY P U n a b ρ h K):=by
 simp only [bF,withv];cases ev ρ c with
 |none=>rfl
 |some y=>cases y with
  |v x=>cases x<;>rfl
  |_=>rfl
@[go_sem↓] theorem QV (id:Nat) (c:Code) (K:Exit→Env→Heap→Prop):bF P U n (.block id c) ρ h K=bF P U n c ρ h (KBlock id K):=rfl
def tr (P:Program) (U:TypeId→TI) (n:Nat) (c:Code) (ρ:Env) (h:Heap) (K:Exit→Env→Heap→Prop):Prop:=Gv (fun ρ h K=>bF P U n c ρ h K) ρ h K
def KRound (I:Nat→Env→Heap→Prop) (m:Nat) (K:Exit→Env→Heap→Prop):Exit→Env→Heap→Prop:=KSeq (fun ρ' h' =>∃m',m' <m∧I m' ρ' h') K
@[go_sem↓] theorem LD {I:Nat→Env→Heap→Prop} {m:Nat} {K:Exit→Env→Heap→Prop}:KRound I m K .ret ρ h=K .ret ρ h:=rfl
@[go_sem↓] theorem KG {I:Nat→Env→Heap→Prop} {m:Nat} {K:Exit→Env→Heap→Prop} (i:Nat):KRound I m K (.exit i) ρ h=K (.exit i) ρ h:=rfl
theorem tr.intro {c:Code} {K:Exit→Env→Heap→Prop} (I:Nat→Env→Heap→Prop) (m:Nat) (h0:I m ρ h) (hr:∀m ρ h,I m ρ h→bF P U n c ρ h (KRound I m K)):tr P U n c ρ h K:=fun _=>⟨I,m,h0,hr⟩
theorem tr.wf {c:Code} {K:Exit→Env→Heap→Prop} (hk:Wf ρ→tr P U n c ρ h K):tr P U n c ρ h K:=fun hw=>hk hw hw
@[go_sem↓] theorem RO (c:Code) (K:Exit→Env→Heap→Prop):bF P U n (.loop c) ρ h K=tr P U n c ρ h K:=rfl
@[go_sem↓] theorem Nn (l:Nat) (J:Env→Heap→Prop) (K:Exit→Env→Heap→Prop):KJump l J K .ret ρ h=K .ret ρ h:=rfl
@[go_sem↓] theorem LB (l:Nat) (J:Env→Heap→Prop) (K:Exit→Env→Heap→Prop):KJump l J K (.goto l) ρ h=J ρ h:=by simp [KJump]
@[go_sem↓] theorem RM (id:Nat) (K:Exit→Env→Heap→Prop):bF P U n (.exit id) ρ h K=K (.exit id) ρ h:=rfl
@[go_sem↓] theorem TU (K:Exit→Env→Heap→Prop):bF P U n .ret ρ h K=K .ret ρ h:=rfl
@[go_sem↓] theorem QX (l:Nat) (K:Exit→Env→Heap→Prop):bF P U n (.label l) ρ h K=K .normal ρ h:=rfl
@[go_sem↓] theorem RN (l:Nat) (K:Exit→Env→Heap→Prop):bF P U n (.goto l) ρ h K=K (.goto l) ρ h:=rfl
@[go_sem↓] theorem Jg (id:Nat) (K:Exit→Env→Heap→Prop):KBlock id K .normal ρ h=K .normal ρ h:=rfl
@[go_sem↓] theorem Lz (id:Nat) (K:Exit→Env→Heap→Prop):KBlock id K .ret ρ h=K .ret ρ h:=rfl
@[go_sem↓] theorem KF (id:Nat) (K:Exit→Env→Heap→Prop) (j:Nat):KBlock id K (.exit j) ρ h=if j=id then K .normal ρ h else K (.exit j) ρ h:=rfl
@[go_sem↓] theorem TT (all:List Oper) (K:Env→Heap→Prop):jz P U n all [] ρ h K=K ρ h:=rfl
def KOps (P:Program) (U:TypeId→TI) (n:Nat) (all os:List Oper) (K:Env→Heap→Prop) (ρ:Env) (d:Option Tmp) (x:AV) (h:Heap):Prop:=jz P U n all os (put ρ d x) h K
@[go_sem↓] theorem P0 (all os:List Oper) (K:Env→Heap→Prop) (d:Option Tmp) (x:AV):KOps P U n all os K ρ d x h=jz P U n all os (put ρ d x) h K:=rfl
@[go_sem↓] theorem RI (all:List Oper) (d:Option Tmp) (op:Op) (t:TypeId) (p:String) (a:Array Edge) (os:List Oper) (K:Env→Heap→Prop):
  jz P U n all (⟨d,op,t,p,a,none⟩::os) ρ h K=(dL n d=true∧aZ P U ρ h ⟨d,op,t,p,a,none⟩ (KOps P U n all os K ρ d)):=rfl
@[go_sem] theorem L8 (d:Nat):(dL n (some d)=true)=(d<n):=by simp [dL]
@[go_sem] theorem L7:(dL n none=true)=True:=by simp [dL]
def gB (d:Nat) (w:Bool) (ρ:Env) (yes no:Env→Prop) (x:AV):Prop:=match x with
 | .v (.bool t)=>if w then Br t (yes ((d, .v (.bool true))::ρ)) (no ((d, .v (.bool false))::ρ)) else Br t (no ((d, .v (.bool true))::ρ)) (yes ((d, .v (.bool false))::ρ))
 | .v (.tuple _)=>no ρ
 |_=>False
@[go_sem↓] theorem L6 (d:Option Tmp) (op:Op) (t:TypeId) (p:String) (a:Array Edge) (g:Option (Nat×Bool)) (os:List Oper):nK (⟨d,op,t,p,a,g⟩::os) 0=d:=rfl
@[go_sem↓] theorem L5 (o:Oper) (os:List Oper) (i:Nat):nK (o::os) (i+1)=nK os i:=by simp [nK]
theorem kQ (all:List Oper) (g:Nat) (w:Bool) (yes no:Env→Prop):fI all ρ (some (g,w)) yes no=aF (nK all g) fun d=>aF (lk ρ d) fun x=>gB d w ρ yes no x:=by
 simp only [fI];cases nK all g with
 |none=>rfl
 |some d=>
  simp only [fA];cases lk ρ d with
  |none=>rfl
  |some x=>cases x with
   |v u=>cases u<;>first|rfl|(rename_i t; cases w<;>cases t<;>simp [aF,gB,Br])
   |_=>rfl
def kW (P:Program) (U:TypeId→TI) (n:Nat) (all os:List Oper) (ρ:Env) (h:Heap) (K:Env→Heap→Prop) (w:Bool) (d:Option Tmp) (op:Op) (t:TypeId) (p:String) (a:Array Edge) (s:Nat) (x:AV):Prop:=
 gB s w ρ (fun ρ=>aZ P U ρ h ⟨d,op,t,p,a,none⟩ (KOps P U n all os K ρ d)) (fun ρ=>jz P U n all os (put ρ d (.v undef)) h K) x
section
variable {all os : List Oper} {K : Env → Heap → Prop} {d : Option Tmp} {op : Op} {t : TypeId} {p : String} {a : Array Edge} {s : Nat}
@[go_sem↓] theorem Nj:kW P U n all os ρ h K true d op t p a s (.v (.bool true))=aZ P U ((s, .v (.bool true))::ρ) h ⟨d,op,t,p,a,none⟩ (KOps P U n all os K ((s, .v (.bool true))::ρ) d):=by simp [kW,gB,Br]
@[go_sem↓] theorem Ni:kW P U n all os ρ h K true d op t p a s (.v (.bool false))=jz P U n all os (put ((s, .v (.bool false))::ρ) d (.v undef)) h K:=by simp [kW,gB,Br]
@[go_sem↓] theorem Nh:kW P U n all os ρ h K false d op t p a s (.v (.bool true))=jz P U n all os (put ((s, .v (.bool true))::ρ) d (.v undef)) h K:=by simp [kW,gB,Br]
@[go_sem↓] theorem Ng:kW P U n all os ρ h K false d op t p a s (.v (.bool false))=aZ P U ((s, .v (.bool false))::ρ) h ⟨d,op,t,p,a,none⟩ (KOps P U n all os K ((s, .v (.bool false))::ρ) d):=by simp [kW,gB,Br]
@[go_sem↓] theorem Jo (w:Bool):kW P U n all os ρ h K w d op t p a s (.v undef)=jz P U n all os (put ρ d (.v undef)) h K:=rfl
end
@[go_sem↓] theorem QW (all:List Oper) (d:Option Tmp) (op:Op) (t:TypeId) (p:String) (a:Array Edge) (g:Nat) (w:Bool) (os:List Oper) (K:Env→Heap→Prop):
  jz P U n all (⟨d,op,t,p,a,some (g,w)⟩::os) ρ h K=(dL n d=true∧aF (nK all g) fun s=>aF (lk ρ s) (kW P U n all os ρ h K w d op t p a s)):=by
 have:=kQ (ρ:=ρ) all g w (fun ρ=>aZ P U ρ h ⟨d,op,t,p,a,none⟩ (KOps P U n all os K ρ d)) (fun ρ=>jz P U n all os (put ρ d (.v undef)) h K)
 show (dL n d=true∧fI all ρ (some (g,w)) _ _)=_
 rw [show (fun s=>aF (lk ρ s) (kW P U n all os ρ h K w d op t p a s))=fun d_1=>aF (lk ρ d_1) fun x=>gB d_1 w ρ (fun ρ=>aZ P U ρ h ⟨d,op,t,p,a,none⟩ (KOps P U n all os K ρ d)) (fun ρ=>jz P U n all os (put ρ d (.v undef)) h K) x from rfl,←this]
 rfl
variable {d : Option Tmp} {t : TypeId} {p : String} {a : Array Edge} {g : Option (Nat × Bool)} {Q : AV → Heap → Prop}
@[go_sem↓] theorem RB (x:Operand):aZ P U ρ h ⟨d, .move x,t,p,a,g⟩ Q=aF (ev ρ x) (atH Q h):=(bR x _)
@[go_sem↓] theorem Pu (x:Operand):aZ P U ρ h ⟨d, .assign x,t,p,a,g⟩ Q=aF (ev ρ x) (atH Q h):=(bR x _)
def Iq (ρ:Env) (x z:Operand) (k:AV→Prop) (y:AV):Prop:=match y with
 | .v (.bool true)=>aF (ev ρ x) k
 | .v (.bool false)=>aF (ev ρ z) k
 |_=>False
@[go_sem↓] theorem MI (x z:Operand) (k:AV→Prop):Iq ρ x z k (.v (.bool true))=aF (ev ρ x) k:=rfl
@[go_sem↓] theorem Ld (x z:Operand) (k:AV→Prop):Iq ρ x z k (.v (.bool false))=aF (ev ρ z) k:=rfl
@[go_sem↓] theorem RC (x y z:Operand):aZ P U ρ h ⟨d, .pick x y z,t,p,a,g⟩ Q=aF (ev ρ x) (Iq ρ y z (atH Q h)):=by
 simp only [aZ,pv,bR]
 congr 1
def K8 (k:AV→Prop) (y:AV):Prop:=match y with
 | .ptr .. | .pe .. | .fn .. =>k y
 |_=>False
@[go_sem↓] theorem N2 (i o:Nat) (k:AV→Prop):K8 k (.ptr i o)=k (.ptr i o):=rfl
@[go_sem↓] theorem MC (x:Operand):aZ P U ρ h ⟨d, .nilCheck x,t,p,a,g⟩ Q=aF (ev ρ x) (K8 (atH Q h)):=by
 simp only [aZ,pv,bR]
 congr 1
@[congr] theorem LU {op:BinOp} {ty:TypeId} {x x' y y' :AV} {K:AV→Prop} (e1:x=x') (e2:y=y'):fu U op ty x y K=fu U op ty x' y' K:=by rw [e1,e2]
theorem wu (op:BinOp) (ty ty' :TypeId) (x y:Operand) (hy:Da y=false):aZ P U ρ h ⟨d, .binOp op ty x y ty',t,p,a,g⟩ Q=aF (ev ρ x) fun u=>aF (ev ρ y) fun v=>fu U op ty u v (atH Q h):=by
 simp only [aZ,pv,bR,hy];rfl
@[go_sem↓] theorem QK (op:BinOp) (ty ty' :TypeId) (x:Operand) (y:Tmp):aZ P U ρ h ⟨d, .binOp op ty x (.tmp y) ty',t,p,a,g⟩ Q=aF (ev ρ x) fun u=>aF (ev ρ (.tmp y)) fun v=>fu U op ty u v (atH Q h):=wu _ _ _ _ _ rfl
@[go_sem↓] theorem N5 (op:BinOp) (ty ty' :TypeId) (x:Operand) (ik:IntKind) (im:Int):aZ P U ρ h ⟨d, .binOp op ty x (.const (.int ik im)) ty',t,p,a,g⟩ Q=aF (ev ρ x) fun u=>fu U op ty u (.v (.int ik im)) (atH Q h):=wu _ _ _ _ _ rfl
@[go_sem↓] theorem N3 (op:BinOp) (ty ty' :TypeId) (x:Operand) (ik:FloatKind) (im jm:Nat):aZ P U ρ h ⟨d, .binOp op ty x (.const (.complex ik im jm)) ty',t,p,a,g⟩ Q=aF (ev ρ x) fun u=>fu U op ty u (.v (.complex ik im jm)) (atH Q h):=wu _ _ _ _ _ rfl
@[go_sem↓] theorem N4 (op:BinOp) (ty ty' :TypeId) (x:Operand) (ik:FloatKind) (im:Nat):aZ P U ρ h ⟨d, .binOp op ty x (.const (.float ik im)) ty',t,p,a,g⟩ Q=aF (ev ρ x) fun u=>fu U op ty u (.v (.float ik im)) (atH Q h):=wu _ _ _ _ _ rfl
@[go_sem↓] theorem N7 (op:BinOp) (ty ty' :TypeId) (x:Operand) (b:ByteArray):aZ P U ρ h ⟨d, .binOp op ty x (.const (.string b)) ty',t,p,a,g⟩ Q=aF (ev ρ x) fun u=>aF (ev ρ (.const (.string b))) fun v=>fu U op ty u v (atH Q h):=wu _ _ _ _ _ rfl
def Pq (h:Heap) (op:BinOp) (x:AV) (Q:AV→Heap→Prop) (tk:TK):Prop:=match tk,op,x with
 | .slice _, .eql, .sl xs _=>∀b:Bool,(xs≠ []→b=false)→Q (.v (.bool b)) h
 | .slice _, .neq, .sl xs _=>∀b:Bool,(xs≠ []→b=true)→Q (.v (.bool b)) h
 | .slice _, .eql, .oa .. =>Q (.v (.bool false)) h
 | .slice _, .neq, .oa .. =>Q (.v (.bool true)) h
 | .slice _, .eql, .ob .. =>Q (.v (.bool false)) h
 | .slice _, .neq, .ob .. =>Q (.v (.bool true)) h
 |_,_,_=>False
@[go_sem↓] theorem N6 (op:BinOp) (ty ty' :TypeId) (x:Operand) (l k:Nat):aZ P U ρ h ⟨d, .binOp op ty x (.const (.slice none l k)) ty',t,p,a,g⟩ Q=aF (ev ρ x) fun u=>atK (U ty).k (Pq h op u Q):=by
 simp only [aZ,Da,bR,atK,if_true];rfl
section
variable {ty : TypeId} {K : AV → Prop}
@[go_sem] theorem Tu (k:IntKind) (x y:Int):fu U .add ty (.v (.int k x)) (.v (.int k y)) K=K (.v (.int k (k.wrap (x+y)))):=by simp [fu,gT,sx]
@[go_sem] theorem TD (k:IntKind) (x y:Int):fu U .sub ty (.v (.int k x)) (.v (.int k y)) K=K (.v (.int k (k.wrap (x - y)))):=by simp [fu,gT,sx]
@[go_sem] theorem TA (k:IntKind) (x y:Int):fu U .mul ty (.v (.int k x)) (.v (.int k y)) K=K (.v (.int k (k.wrap (x*y)))):=by simp [fu,gT,sx]
@[go_sem] theorem TC (k:IntKind) (x y:Int):fu U .quo ty (.v (.int k x)) (.v (.int k y)) K=(y≠0∧K (.v (.int k (k.wrap (x.tdiv y))))):=by simp [fu,gT,sx]
@[go_sem] theorem Tv (k:IntKind) (x y:Int):fu U .eql ty (.v (.int k x)) (.v (.int k y)) K=K (.v (.bool (x==y))):=by simp [fu,gT,sx]
@[go_sem] theorem TB (k:IntKind) (x y:Int):fu U .neq ty (.v (.int k x)) (.v (.int k y)) K=K (.v (.bool (x !=y))):=by simp [fu,gT,sx]
@[go_sem] theorem Tz (k:IntKind) (x y:Int):fu U .lss ty (.v (.int k x)) (.v (.int k y)) K=K (.v (.bool (decide (x<y)))):=by simp [fu,gT,sx]
@[go_sem] theorem Ty (k:IntKind) (x y:Int):fu U .leq ty (.v (.int k x)) (.v (.int k y)) K=K (.v (.bool (decide (x≤y)))):=by simp [fu,gT,sx]
@[go_sem] theorem Tx (k:IntKind) (x y:Int):fu U .gtr ty (.v (.int k x)) (.v (.int k y)) K=K (.v (.bool (decide (y<x)))):=by simp [fu,gT,sx]
@[go_sem] theorem Tw (k:IntKind) (x y:Int):fu U .geq ty (.v (.int k x)) (.v (.int k y)) K=K (.v (.bool (decide (y≤x)))):=by simp [fu,gT,sx]
@[go_sem] theorem Rb (x y:List UInt8):fu U .add ty (.s x) (.s y) K=(x.length+y.length<lim∧K (.s (x++y))):=rfl
@[go_sem] theorem Rc (x y:List UInt8):fu U .eql ty (.s x) (.s y) K=K (.v (.bool (x==y))):=rfl
@[go_sem] theorem Rg (x y:List UInt8):fu U .neq ty (.s x) (.s y) K=K (.v (.bool (!(x==y)))):=rfl
@[go_sem] theorem P9 (k k' :FloatKind) (x y:Nat) (op:BinOp):fu U op ty (.v (.float k x)) (.v (.float k' y)) K=fH op (.float k x) (.float k' y) K:=rfl
@[go_sem] theorem Ra (k k' :FloatKind) (x y z w:Nat) (op:BinOp):fu U op ty (.v (.complex k x y)) (.v (.complex k' z w)) K=fH op (.complex k x y) (.complex k' z w) K:=rfl
theorem mG {op:BinOp} {x y r:Value} (h:∀(P:Program) (ty:TypeId) (w:World),(binOp op ty x y).run P w= .ok r w) (K:AV→Prop):fH op x y K=K (.v r):=propext ⟨fun ⟨r',h',hk⟩=>by
 have e:=(h default 0 default).symm.trans (h' default 0 default);cases e;exact hk,fun hk=>⟨r,h,hk⟩⟩
@[go_sem] theorem Rf (x y:List UInt8):fu U .lss ty (.s x) (.s y) K=K (.v (.bool (Op.bytesLess x y))):=rfl
@[go_sem] theorem Re (x y:List UInt8):fu U .geq ty (.s x) (.s y) K=K (.v (.bool (!(Op.bytesLess x y)))):=rfl
def eqK (tk:TK) (e:Option (Nat×List TK)) (xs ys:List AV) (k:Bool→Prop):Prop:=match e with
 |some (_,l)=>tk.agg=true∧cu l xs∧cu l ys∧k (eqL xs ys)
 |none=>False
@[congr] theorem NT {tk tk' :TK} {e e' :Option (Nat×List TK)} {xs ys:List AV} {k:Bool→Prop} (h1:tk=tk') (h2:e=e'):eqK tk e xs ys k=eqK tk' e' xs ys k:=by rw [h1,h2]
@[go_sem] theorem TL (fs:List (Nat×TypeId)) (r:Nat) (l:List TK) (xs ys:List AV) (k:Bool→Prop):eqK (.strct fs) (some (r,l)) xs ys k=(cu l xs∧cu l ys∧k (eqL xs ys)):=by simp [eqK,TK.agg]
@[go_sem] theorem Q7 (xs ys:List AV):fu U .eql ty (.agg xs) (.agg ys) K=eqK (U ty).k (U ty).eq xs ys fun b=>K (.v (.bool b)):=by
 simp only [fu,GO,eqK]; rcases (U ty).eq with _|⟨r,l⟩<;>rfl
@[go_sem] theorem Q8 (xs ys:List AV):fu U .neq ty (.agg xs) (.agg ys) K=eqK (U ty).k (U ty).eq xs ys fun b=>K (.v (.bool (!b))):=by
 simp only [fu,GO,eqK]; rcases (U ty).eq with _|⟨r,l⟩<;>rfl
@[go_sem] theorem MZ (xs:List AV):cu [] xs=(xs= []):=rfl
@[go_sem] theorem Lp (t:TK) (ts:List TK) (x:AV) (xs:List AV):cu (t::ts) (x::xs)=(oe t x∧cu ts xs):=rfl
@[go_sem] theorem OD (k k' :IntKind) (n:Int):oe (.int k) (.v (.int k' n))=(k' =k):=rfl
@[go_sem] theorem OB (b:Bool):oe .bool (.v (.bool b))=True:=rfl
@[go_sem] theorem OC (k k' :FloatKind) (a b:Nat):oe (.cplx k) (.v (.complex k' a b))=(k' =k):=rfl
@[go_sem] theorem OE (l:List UInt8):oe .str (.s l)=True:=rfl
@[go_sem] theorem Ql:eqL [] []=true:=rfl
@[go_sem] theorem OR (x y:AV) (xs ys:List AV):eqL (x::xs) (y::ys)=(eqC x y && eqL xs ys):=rfl
@[go_sem] theorem TH (k k' :IntKind) (n m:Int):eqC (.v (.int k n)) (.v (.int k' m))=(n==m):=rfl
@[go_sem] theorem TG (b c:Bool):eqC (.v (.bool b)) (.v (.bool c))=(b==c):=rfl
@[go_sem] theorem TJ (l m:List UInt8):eqC (.s l) (.s m)=(l==m):=rfl
def tkB (k:TK) (A:Prop):Prop:=k= .bool∧A
def tkP (k:TK) (A:Prop):Prop:=(∃e,k= .ptr e)∧A
@[congr] theorem Of {k k' :TK} {A:Prop} (e:k=k'):tkB k A=tkB k' A:=by rw [e]
@[congr] theorem Og {k k' :TK} {A:Prop} (e:k=k'):tkP k A=tkP k' A:=by rw [e]
@[go_sem] theorem PJ (A:Prop):tkB .bool A=A:=by simp [tkB]
@[go_sem] theorem Q9 (x y:Bool):fu U .neq ty (.v (.bool x)) (.v (.bool y)) K=tkB (U ty).k (K (.v (.bool (!(x==y))))):=by
 simp only [fu,JD,tkB]; cases (U ty).k<;>simp
end
def unA (op:UnOp) (y:AV) (k:AV→Prop):Prop:=match op,y with
 | .not, .v (.bool b)=>k (.v (.bool (!b)))
 | .neg, .v (.int kk n)=>k (.v (.int kk (kk.wrap (0 - n))))
 | .xor, .v (.int kk n)=>k (.v (.int kk (kk.wrap (BitVec.ofInt kk.bits (if kk.signed then -1 else kk.max) ^^^ BitVec.ofInt kk.bits n).toNat)))
 |_,_=>False
@[congr] theorem Oh {op:UnOp} {y y' :AV} {k:AV→Prop} (e:y=y'):unA op y k=unA op y' k:=by rw [e]
@[go_sem] theorem Q2 (b:Bool) (k:AV→Prop):unA .not (.v (.bool b)) k=k (.v (.bool (!b))):=rfl
@[go_sem↓] theorem RE (op:UnOp) (ty:TypeId) (x:Operand):aZ P U ρ h ⟨d, .unOp op ty x,t,p,a,g⟩ Q=aF (ev ρ x) fun y=>unA op y (atH Q h):=by
 simp only [aZ,pv,bR]
 congr 1
def cvA (U:TypeId→TI) (s d:TK) (y:AV) (k:AV→Prop):Prop:=match s,d,y with
 | .int _, .int kk, .v (.int _ n)=>k (.v (.int kk (kk.wrap n)))
 | .str, .str, .s l=>k (.s l)
 | .slice e, .str, .sl xs _=>(U e).k= .int .u8∧∃l:List UInt8,xs=l.map ct∧k (.s l)
 | .str, .slice e, .s l=>(U e).k= .int .u8∧k (.sl (l.map ct) .no)
 | .cplx _, .cplx kk, .v (.complex kf a b)=>kf=kk∧k (.v (.complex kk a b))
 |_,_,_=>False
@[congr] theorem NK {s s' d d' :TK} {y y' :AV} {k:AV→Prop} (e1:s=s') (e2:d=d') (e:y=y'):cvA U s d y k=cvA U s' d' y' k:=by rw [e,e1,e2]
@[go_sem] theorem Rj (k0 kk k1:IntKind) (m:Int) (k:AV→Prop):cvA U (.int k0) (.int kk) (.v (.int k1 m)) k=k (.v (.int kk (kk.wrap m))):=rfl
@[go_sem] theorem TE (e:TypeId) (l:List UInt8) (pm:Perm) (k:AV→Prop):cvA U (.slice e) .str (.sl (l.map ct) pm) k=((U e).k= .int .u8∧k (.s l)):=by
 simp only [cvA]
 congr 1
 apply propext;constructor
 ·rintro ⟨l',e1,hk⟩
  have:l=l' :=by
   have inj:∀(x y:List UInt8),x.map ct=y.map ct→x=y:=by
    intro x
    induction x with
    |nil=>intro y e; cases y<;>simp at e⊢
    |cons b r ih=>
     intro y e;cases y with
     |nil=>simp at e
     |cons b' r' =>
      simp only [List.map_cons,List.cons.injEq,ct,AV.v.injEq,Value.int.injEq,true_and,Int.natCast_inj] at e;rw [UInt8.toNat_inj.1 e.1,ih r' e.2]
   exact inj _ _ e1
  rw [this]; exact hk
 ·exact fun hk=>⟨l,rfl,hk⟩
theorem u8m (k:TK) (X:Prop):(match k with| .int .u8=>X|_=>False)=(k= .int .u8∧X):=by
 cases k with
 |int kk=>cases kk<;>simp
 |_=>simp
@[go_sem↓] theorem N9 (s e:TypeId) (x:Operand):aZ P U ρ h ⟨d, .convert s e x,t,p,a,g⟩ Q=aF (ev ρ x) fun y=>cvA U (U s).k (U e).k y (atH Q h):=by
 simp only [aZ,pv,bR]
 congr 1
 funext y
 generalize (U s).k=ks;generalize (U e).k=ke;cases ks<;>cases ke<;>cases y<;>(first|rfl|(rename_i u; cases u<;>rfl)|skip)
 ·simp only [cvA]
  exact u8m _ _
 ·simp only [cvA]
  exact u8m _ _
end
attribute [go_sem] true_and and_true List.length_cons List.length_nil List.drop_succ_cons List.drop_zero List.drop_nil List.take_succ_cons List.take_zero List.take_nil List.append_nil List.cons_append List.nil_append List.map_cons List.map_nil ne_eq not_false_eq_true reduceCtorEq Nat.zero_add Nat.add_zero
section
variable {P : Program} {U : TypeId → TI} {n : Nat} {ρ : Env} {h : Heap}
variable {d : Option Tmp} {t : TypeId} {p : String} {a : Array Edge} {g : Option (Nat × Bool)} {Q : AV → Heap → Prop} {k : AV → Prop}
@[go_sem] theorem P2 (x:IntKind):TK.agg (.int x)=false:=rfl
@[go_sem] theorem mP (x y:TypeId):TK.agg (.map x y)=false:=rfl
@[go_sem] theorem Ou:TK.agg .bool=false:=rfl
@[go_sem] theorem P3:TK.agg .str=false:=rfl
@[go_sem] theorem Nw (x:TypeId):TK.agg (.slice x)=false:=rfl
@[go_sem] theorem Nx (x:List (Nat×TypeId)):TK.agg (.strct x)=true:=rfl
@[go_sem] theorem Ov (x:FloatKind):TK.agg (.cplx x)=false:=rfl
@[go_sem] theorem NG (cs:List AV):AV.cells (.agg cs)=cs:=rfl
@[go_sem] theorem Qc (x:Value):AV.cells (.v x)= [.v x]:=rfl
@[go_sem] theorem Qb (x:List UInt8):AV.cells (.s x)= [.s x]:=rfl
@[go_sem] theorem OG (x:List AV) (q:Perm):AV.cells (.sl x q)= [.sl x q]:=rfl
@[go_sem] theorem NY (cs:List AV):bA (.agg cs)=true:=rfl
@[go_sem] theorem QC (x:Value):bA (.v x)=false:=rfl
@[go_sem] theorem QB (x:List UInt8):bA (.s x)=false:=rfl
@[go_sem] theorem Pa (x:List AV) (q:Perm):bA (.sl x q)=false:=rfl
@[go_sem] theorem Qz (cs:List AV) (m:Nat):fit (.agg cs) m=(cs.length=m):=rfl
@[go_sem] theorem QA (x:IntKind) (i:Int) (m:Nat):fit (.v (.int x i)) m=(m=1):=by simp [fit,Value.oneCell']
@[go_sem] theorem O1 (i:Bool) (m:Nat):fit (.v (.bool i)) m=(m=1):=by simp [fit,Value.oneCell']
@[go_sem] theorem O2 (x:FloatKind) (i j:Nat) (m:Nat):fit (.v (.complex x i j)) m=(m=1):=by simp [fit,Value.oneCell']
@[go_sem] theorem TM (l:List UInt8) (m:Nat):fit (.s l) m=(m=1):=rfl
@[go_sem] theorem Rp (l:List AV) (q:Perm) (m:Nat):fit (.sl l q) m=(m=1):=rfl
@[go_sem] theorem O3 (m:Nat):fits m []=True:=rfl
@[go_sem] theorem NV (m:Nat) (y:AV) (r:List AV):fits m (y::r)=(fit y m∧fits m r):=rfl
@[go_sem↓] theorem Io (cs:List AV) (off:Nat) (i:TI):gL cs off i k=Br i.k.agg (off+i.sz≤cs.length∧k (.agg ((cs.drop off).take i.sz))) (aF cs[off]? k):=by
 unfold gL;cases i.k.agg with
 |true=>simp [Br]
 |false=>
  simp only [Br];cases cs[off]? <;>simp [aF]
@[go_sem↓] theorem LS (y:AV) (off:Nat) (i:TI):atA y off i k=if off=0∧y.cells.length=i.sz∧bA y=i.k.agg then k y else gL y.cells off i k:=rfl
def CI (U:TypeId→TI) (f:Nat) (y:AV) (k:AV→Prop) (tk:TK):Prop:=match tk,y with
 | .strct fs, .agg cs=>aF fs[f]? fun q=>(U q.2).sz≠0∧(U q.2).k≠ .other∧gL cs q.1 (U q.2) k
 |_,_=>False
@[go_sem↓] theorem NU (f:Nat) (cs:List AV) (fs:List (Nat×TypeId)):CI U f (.agg cs) k (.strct fs)=aF fs[f]? fun q=>(U q.2).sz≠0∧(U q.2).k≠ .other∧gL cs q.1 (U q.2) k:=rfl
@[go_sem↓] theorem QM (ty:TypeId) (x:Operand) (f:Nat):aZ P U ρ h ⟨d, .field ty x f,t,p,a,g⟩ Q=aF (ev ρ x) fun y=>atK (U ty).k (CI U f y (atH Q h)):=by
 simp only [aZ,pv,bR,atK]
 congr 1
 funext y
 cases (U ty).k<;>cases y<;>simp only [CI]
 rename_i fs cs
 cases fs[f]? <;>rfl
def I1 (y:AV) (i:Nat) (k:AV→Prop):Prop:=match y with
 | .tup vs=>aF vs[i]? k
 |_=>False
@[congr] theorem MY {y y' :AV} {i:Nat} (e:y=y'):I1 y i k=I1 y' i k:=by rw [e]
@[go_sem↓] theorem Q1 (vs:List AV) (i:Nat):I1 (.tup vs) i k=aF vs[i]? k:=rfl
@[go_sem↓] theorem Oa (x:Operand) (i:Nat):aZ P U ρ h ⟨d, .extract x i,t,p,a,g⟩ Q=aF (ev ρ x) fun y=>I1 y i (atH Q h):=by
 simp only [aZ,pv,bR]
 congr 1
 funext y
 cases y<;>simp only [I1]
 rename_i vs
 cases vs[i]? <;>simp [aF,atH]
def Ex (tk:TK) (y z:AV) (k:AV→Prop):Prop:=match tk,y,z with
 | .str, .s l, .v (.int _ n)=>Jp l n k
 |_,_,_=>False
@[congr] theorem Ln {tk tk' :TK} {y y' z z' :AV} (e0:tk=tk') (e1:y=y') (e2:z=z'):Ex tk y z k=Ex tk' y' z' k:=by rw [e0,e1,e2]
@[go_sem↓] theorem PI (l:List UInt8) (x:IntKind) (m:Int):Ex .str (.s l) (.v (.int x m)) k=Jp l m k:=rfl
@[go_sem↓] theorem QN (ty:TypeId) (x i:Operand):aZ P U ρ h ⟨d, .index ty x i,t,p,a,g⟩ Q=aF (ev ρ x) fun y=>aF (ev ρ i) fun z=>Ex (U ty).k y z (atH Q h):=by
 simp only [aZ,pv,bR]
 congr 1
def vE (U:TypeId→TI) (f:Nat) (y:AV) (k:AV→Prop) (tk:TK):Prop:=match tk with
 | .strct fs=>aF fs[f]? fun q=>(U q.2).sz≠0∧match y with
  | .ptr id o=>k (.ptr id (o+q.1))
  | .pe z o=>k (.pe z (o+q.1))
  |_=>False
 |_=>False
@[go_sem↓] theorem CH (f id o:Nat) (fs:List (Nat×TypeId)):vE U f (.ptr id o) k (.strct fs)=aF fs[f]? fun q=>(U q.2).sz≠0∧k (.ptr id (o+q.1)):=rfl
@[go_sem↓] theorem E0 (f o:Nat) (z:AV) (fs:List (Nat×TypeId)):vE U f (.pe z o) k (.strct fs)=aF fs[f]? fun q=>(U q.2).sz≠0∧k (.pe z (o+q.1)):=rfl
@[go_sem↓] theorem K9 (ty:TypeId) (x:Operand) (f:Nat):aZ P U ρ h ⟨d, .fieldAddr ty x f,t,p,a,g⟩ Q=aF (ev ρ x) fun y=>atK (U ty).k (vE U f y (atH Q h)):=by
 simp only [aZ,pv,bR,atK]
 congr 1
 funext y
 cases (U ty).k<;>simp only [vE]
 rename_i fs
 cases fs[f]? with
 |none=>rfl
 |some q=>cases y<;>rfl
def oF (U:TypeId→TI) (y z:AV) (k:AV→Prop) (tk:TK):Prop:=match tk,y,z with
 | .slice e, .sl xs _, .v (.int _ n)=>(U e).sz≠0∧fj xs n (U e).sz k
 | .slice e, .oa id off len, .v (.int _ n)=>(U e).sz≠0∧0≤n∧n<len∧k (.ptr id (off+n.toNat*(U e).sz))
 | .arr len e, .ptr id off, .v (.int _ n)=>(U e).sz≠0∧0≤n∧n<len∧k (.ptr id (off+n.toNat*(U e).sz))
 | .slice e, .ob id off len _ sz, .v (.int _ n)=>(U e).sz≠0∧sz=(U e).sz∧0≤n∧n<len∧k (.ptr id (off+n.toNat*sz))
 |_,_,_=>False
@[go_sem↓] theorem ym (id off len cap sz:Nat) (x:IntKind) (m:Int) (e:TypeId):oF U (.ob id off len cap sz) (.v (.int x m)) k (.slice e)=((U e).sz≠0∧sz=(U e).sz∧0≤m∧m<len∧k (.ptr id (off+m.toNat*sz))):=rfl
@[go_sem↓] theorem yo (xs:List AV) (q:Perm) (x:IntKind) (m:Int) (e:TypeId):oF U (.sl xs q) (.v (.int x m)) k (.slice e)=((U e).sz≠0∧fj xs m (U e).sz k):=rfl
@[go_sem↓] theorem Fu (id off len:Nat) (x:IntKind) (m:Int) (e:TypeId):oF U (.oa id off len) (.v (.int x m)) k (.slice e)=((U e).sz≠0∧0≤m∧m<len∧k (.ptr id (off+m.toNat*(U e).sz))):=rfl
@[go_sem↓] theorem La (ty:TypeId) (x i:Operand):aZ P U ρ h ⟨d, .indexAddr ty x i,t,p,a,g⟩ Q=aF (ev ρ x) fun y=>aF (ev ρ i) fun z=>atK (U ty).k (oF U y z (atH Q h)):=by
 simp only [aZ,pv,bR,atK]
 congr 1
def oS (b:Blk) (f:List AV→TypeId→Prop):Prop:=match b with
 | .obj cs t=>f cs t
 |_=>False
@[congr] theorem MD {b b' :Blk} {f:List AV→TypeId→Prop} (e:b=b'):oS b f=oS b' f:=by rw [e]
@[go_sem↓] theorem Ke (cs:List AV) (t:TypeId) (f:List AV→TypeId→Prop):oS (.obj cs t) f=f cs t:=rfl
def oO (U:TypeId→TI) (h:Heap) (ty:TypeId) (y:AV) (k:AV→Prop):Prop:=match y with
 | .ptr id off=>aF (h id) fun b=>oS b fun cs _=>gL cs off (U ty) k
 | .pe z off=>atA z off (U ty) k
 |_=>False
@[congr] theorem K0 {ty:TypeId} {y y' :AV} (e:y=y'):oO U h ty y k=oO U h ty y' k:=by rw [e]
@[go_sem↓] theorem FD (ty:TypeId) (id off:Nat):oO U h ty (.ptr id off) k=aF (h id) fun b=>oS b fun cs _=>gL cs off (U ty) k:=rfl
@[go_sem↓] theorem HQ (ty:TypeId) (z:AV) (off:Nat):oO U h ty (.pe z off) k=atA z off (U ty) k:=rfl
@[go_sem↓] theorem RA (ty:TypeId) (x:Operand):aZ P U ρ h ⟨d, .load ty x,t,p,a,g⟩ Q=((U ty).sz≠0∧(U ty).k≠ .other∧aF (ev ρ x) fun y=>oO U h ty y (atH Q h)):=by
 simp only [aZ,pv,bR]
 congr 1
 congr 1
 congr 1
 funext y
 cases y with
 |ptr id off=>
  simp only [oO];cases h id with
  |none=>rfl
  |some b=>cases b<;>rfl
 |_=>rfl
def HA (y:AV) (f:Int→Prop):Prop:=match y with
 | .v (.int _ m)=>f m
 |_=>False
@[congr] theorem Mm {y y' :AV} {f:Int→Prop} (e:y=y'):HA y f=HA y' f:=by rw [e]
@[go_sem↓] theorem pM (x:IntKind) (m:Int) (f:Int→Prop):HA (.v (.int x m)) f=f m:=rfl
@[go_sem↓] theorem mI (m:Nat) (f:Int→Prop):dR ρ none m f=f m:=rfl
@[go_sem↓] theorem jH (x:Operand) (m:Nat) (f:Int→Prop):dR ρ (some x) m f=aF (ev ρ x) fun y=>HA y f:=by
 simp only [dR,bR]
 congr 1
def jn (U:TypeId→TI) (ρ:Env) (y:AV) (lo hi mx:Option Operand) (k:AV→Prop) (tk:TK):Prop:=match y with
 | .s l=>tk= .str∧mx=none∧dR ρ lo 0 fun a=>dR ρ hi l.length fun b=>0≤a∧a≤b∧b≤l.length∧k (.s (nR l a b lo.isSome hi.isSome))
 | .sl xs p=>match tk with
  | .slice e=>(U e).sz≠0∧(lo.isSome=true→∀z∈xs,z.cells.length=(U e).sz)∧match mx with
   |none=>dR ρ lo 0 fun a=>dR ρ hi xs.length fun b=>0≤a∧a≤b∧b≤xs.length∧k (.sl (nR xs a b lo.isSome hi.isSome) (AB xs p lo.isSome hi.isSome))
   |some m=>hi.isSome=true∧dR ρ lo 0 fun a=>dR ρ hi xs.length fun b=>dR ρ (some m) 0 fun c=>0≤a∧a≤b∧b=c∧c≤xs.length∧k (.sl (nR xs a b lo.isSome true) .full)
  |_=>False
 | .oa id off len=>match tk with
  | .slice e=>(U e).sz≠0∧(lo.isSome=true→(U e).sz=1)∧mx=none∧dR ρ lo 0 fun a=>dR ρ hi len fun b=>0≤a∧a≤b∧b≤len∧k (.oa id (off+a.toNat*(U e).sz) (b.toNat - a.toNat))
  |_=>False
 | .ob id off len cap sz=>match tk with
  | .slice e=>(U e).sz≠0∧sz=(U e).sz∧match mx with
   |none=>dR ρ lo 0 fun a=>dR ρ hi len fun b=>0≤a∧a≤b∧b≤cap∧k (.ob id (off+a.toNat*sz) (b.toNat - a.toNat) (cap - a.toNat) sz)
   |some m=>hi.isSome=true∧dR ρ lo 0 fun a=>dR ρ hi len fun b=>dR ρ (some m) 0 fun c=>0≤a∧a≤b∧b≤c∧c≤cap∧k (.ob id (off+a.toNat*sz) (b.toNat - a.toNat) (c.toNat - a.toNat) sz)
  |_=>False
 |_=>False
@[go_sem↓] theorem yR (id off len cap sz:Nat) (lo hi:Option Operand) (e:TypeId):jn U ρ (.ob id off len cap sz) lo hi none k (.slice e)=((U e).sz≠0∧sz=(U e).sz∧dR ρ lo 0 fun a=>dR ρ hi len fun b=>0≤a∧a≤b∧b≤cap∧k (.ob id (off+a.toNat*sz) (b.toNat - a.toNat) (cap - a.toNat) sz)):=rfl
@[go_sem↓] theorem PG (l:List UInt8) (lo hi:Option Operand):jn U ρ (.s l) lo hi none k .str=dR ρ lo 0 fun a=>dR ρ hi l.length fun b=>0≤a∧a≤b∧b≤l.length∧k (.s (nR l a b lo.isSome hi.isSome)):=by simp [jn]
@[go_sem↓] theorem uh (xs:List AV) (q:Perm) (hi:Option Operand) (e:TypeId):jn U ρ (.sl xs q) none hi none k (.slice e)=((U e).sz≠0∧dR ρ hi xs.length fun b=>0≤b∧b≤xs.length∧k (.sl (nR xs 0 b false hi.isSome) (AB xs q false hi.isSome))):=by
 simp [jn,dR]
@[go_sem↓] theorem uj (xs:List AV) (q:Perm) (lo:Operand) (hi:Option Operand) (e:TypeId):jn U ρ (.sl xs q) (some lo) hi none k (.slice e)=((U e).sz≠0∧Sized (U e).sz xs∧dR ρ (some lo) 0 fun a=>dR ρ hi xs.length fun b=>0≤a∧a≤b∧b≤xs.length∧k (.sl (nR xs a b true hi.isSome) (AB xs q true hi.isSome))):=by
 simp [jn,Sized]
@[go_sem↓] theorem FZ (id off len:Nat) (lo hi:Option Operand) (e:TypeId):jn U ρ (.oa id off len) lo hi none k (.slice e)=((U e).sz≠0∧(lo.isSome=true→(U e).sz=1)∧dR ρ lo 0 fun a=>dR ρ hi len fun b=>0≤a∧a≤b∧b≤len∧k (.oa id (off+a.toNat*(U e).sz) (b.toNat - a.toNat))):=by
 simp [jn]
@[go_sem] theorem kG {α:Type} (xs:List α) (a b:Int):nR xs a b true false=xs.drop a.toNat:=rfl
@[go_sem] theorem pH {α:Type} (xs:List α) (a b:Int):nR xs a b false true=xs.take b.toNat:=rfl
@[go_sem] theorem NJ (xs:List AV):AB xs .full true false= .full:=by cases xs<;>rfl
@[go_sem↓] theorem QO (ty:TypeId) (x:Operand) (lo hi mx:Option Operand):aZ P U ρ h ⟨d, .slice ty x lo hi mx,t,p,a,g⟩ Q=aF (ev ρ x) fun y=>atK (U ty).k (jn U ρ y lo hi mx (atH Q h)):=by
 simp only [aZ,pv,bR,atK]
 congr 1
end
section
variable {P : Program} {U : TypeId → TI} {n : Nat} {ρ : Env} {h : Heap}
variable {d : Option Tmp} {t : TypeId} {p : String} {a : Array Edge} {g : Option (Nat × Bool)} {Q : AV → Heap → Prop} {k : AV → Prop}
def Gw (h:Heap) (b:Blk) (Q:AV→Heap→Prop):Prop:=∀id,h id=none→Q (.ptr id 0) (upd h id (some b))
def Q4 (h:Heap) (xs:List AV) (b:Blk) (Q:AV→Heap→Prop):Prop:=∀id,h id=none→Q (.sl xs (.own id)) (upd h id (some b))
def nH (U:TypeId→TI) (h:Heap) (xs ys:List AV) (e:TypeId) (Q:AV→Heap→Prop):Prop:=
 (∀id,h id=none→Q (.sl (xs++ys) (.own id)) (upd h id (some (.spare (xs.length+ys.length) (U e).sz))))∨
  ((U e).sz=1∧fit (U e).zero 1∧bA (U e).zero=false∧(∀z∈xs++ys,bA z=false)∧∀id m,h id=none→Q (.oa id 0 (xs.length+ys.length)) (upd h id (some (.obj (xs++ys++List.replicate m (U e).zero) e))))∨
  (fit (U e).zero (U e).sz∧jy h (aq xs++aq ys) (xs.length+ys.length) (U e).sz e Q)
@[congr] theorem KA {h h' :Heap} {xs xs' ys ys' :List AV} {e:TypeId} (e0:h=h') (e1:xs=xs') (e2:ys=ys'):nH U h xs ys e Q=nH U h' xs' ys' e Q:=by rw [e0,e1,e2]
theorem nH.own {xs ys:List AV} {e:TypeId} (hk:Q4 h (xs++ys) (.spare (xs.length+ys.length) (U e).sz) Q):nH U h xs ys e Q:= .inl hk
theorem nH.oa {xs ys:List AV} {e:TypeId} (h1:(U e).sz=1) (h2:fit (U e).zero 1) (h3:bA (U e).zero=false) (h4:∀z∈xs++ys,bA z=false)
  (hk:∀id m,h id=none→Q (.oa id 0 (xs.length+ys.length)) (upd h id (some (.obj (xs++ys++List.replicate m (U e).zero) e)))):nH U h xs ys e Q:= .inr (.inl ⟨h1,h2,h3,h4,hk⟩)
theorem nH.ob {xs ys:List AV} {e:TypeId} (h1:fit (U e).zero (U e).sz) (hk:jy h (aq xs++aq ys) (xs.length+ys.length) (U e).sz e Q):nH U h xs ys e Q:= .inr (.inr ⟨h1,hk⟩)
def qp (U:TypeId→TI) (h:Heap) (xs ys:List AV) (e:TypeId) (Q:AV→Heap→Prop):Prop:=(ys= []→Q (.sl xs .full) h)∧(ys≠ []→nH U h xs ys e Q)
@[congr] theorem Jl {h h' :Heap} {xs xs' ys ys' :List AV} {e:TypeId} (e0:h=h') (e1:xs=xs') (e2:ys=ys'):qp U h xs ys e Q=qp U h' xs' ys' e Q:=by rw [e0,e1,e2]
@[go_sem↓] theorem Kz (xs:List AV) (y:AV) (r:List AV) (e:TypeId):qp U h xs (y::r) e Q=nH U h xs (y::r) e Q:=by simp [qp]
@[go_sem] theorem fN {α:Type} (f:Nat→α) (i:Nat) (x:α):upd f i x i=x:=ah f i x
@[go_sem] theorem aj {α:Type} (f:Nat→α) (i j:Nat) (x:α) (e:¬j=i):upd f i x j=f j:=ag f x e
@[go_sem] theorem nE {α:Type} (f:Nat→α) (i:Nat) (x y:α):upd (upd f i x) i y=upd f i y:=by
 funext j; simp only [upd]; split<;>rfl
def oH:List (Nat×Operand)→Nat→Bool
 | [],_=>true
 |(i,_)::r,k=>i==k && oH r (k+1)
theorem yp:∀(l:List (Nat×Operand)) (k:Nat),oH l k=true↔l.map (·.1)=List.range' k l.length
 | [],k=>by simp [oH]
 |(i,x)::r,k=>by simp [oH,yp r (k+1),List.range'_succ]
@[go_sem] theorem NX (k:Nat):oH [] k=true:=rfl
@[go_sem] theorem Mk (i:Nat) (x:Operand) (r:List (Nat×Operand)) (k:Nat):(oH ((i,x)::r) k=true)=(i=k∧oH r (k+1)=true):=by simp [oH]
theorem Fv (l:List (Nat×Operand)) (m:Nat):(l.map (·.1)=List.range m)=(oH l 0=true∧l.length=m):=by
 apply propext;rw [yp,List.range_eq_range'];constructor
 ·intro e
  have:=congrArg List.length e;simp at this;exact ⟨by rw [this]; exact e,this⟩
 ·rintro ⟨e,rfl⟩; exact e
def bsK (U:TypeId→TI) (ρ:Env) (len:Nat) (parts:List (Nat×Operand)) (k:AV→Prop) (tk:TK):Prop:=match tk with
 | .slice e=>(U e).sz≠0∧len*(U e).sz≤16777216∧(oH parts 0=true∧parts.length=len)∧aF (evs ρ (parts.map (·.2))) fun xs=>fits (U e).sz xs∧k (.sl xs .full)
 |_=>False
@[go_sem↓] theorem Rh (len:Nat) (parts:List (Nat×Operand)) (e:TypeId):bsK U ρ len parts k (.slice e)=((U e).sz≠0∧len*(U e).sz≤16777216∧(oH parts 0=true∧parts.length=len)∧aF (evs ρ (parts.map (·.2))) fun xs=>fits (U e).sz xs∧k (.sl xs .full)):=rfl
@[go_sem↓] theorem Kc (ty:TypeId) (len:Nat) (parts:List (Nat×Operand)):aZ P U ρ h ⟨d, .buildSlice ty len parts.toArray,t,p,a,g⟩ Q=atK (U ty).k (bsK U ρ len parts (atH Q h)):=by
 simp only [aZ,pv,atK];cases (U ty).k<;>simp only [bsK,gj,Fv]
 rfl
def LP (k:AV→Prop) (cs:List AV):Prop:=k (.agg cs)
@[go_sem↓] theorem P1 (cs:List AV):LP k cs=k (.agg cs):=rfl
def DJ (z:AV):Option (List AV):=match z with
 | .agg cs=>some cs
 |_=>none
@[go_sem] theorem Nv (cs:List AV):DJ (.agg cs)=some cs:=rfl
def bK (U:TypeId→TI) (ρ:Env) (ty:TypeId) (parts:List (Nat×Operand)) (k:AV→Prop) (tk:TK):Prop:=match tk with
 | .strct fs=>(U ty).sz≠0∧aF (DJ (U ty).zero) fun cs0=>withps U ρ fs parts cs0 (LP k)
 |_=>False
@[go_sem↓] theorem Tt (ty:TypeId) (parts:List (Nat×Operand)) (fs:List (Nat×TypeId)):bK U ρ ty parts k (.strct fs)=((U ty).sz≠0∧aF (DJ (U ty).zero) fun cs0=>withps U ρ fs parts cs0 (LP k)):=rfl
def bU (U:TypeId→TI) (ρ:Env) (ty:TypeId) (parts:List (Nat×Operand)) (k:AV→Prop) (b:Bool):Prop:=match b with
 |true=>parts= []∧k (.agg [])
 |false=>atK (U ty).k (bK U ρ ty parts k)
@[go_sem↓] theorem VY (ty:TypeId) (parts:List (Nat×Operand)):bU U ρ ty parts k true=(parts= []∧k (.agg [])):=rfl
@[go_sem↓] theorem VX (ty:TypeId) (parts:List (Nat×Operand)):bU U ρ ty parts k false=atK (U ty).k (bK U ρ ty parts k):=rfl
@[go_sem] theorem Pf:isUnit (.strct [])=true:=rfl
@[go_sem] theorem Pe (f:Nat×TypeId) (fs:List (Nat×TypeId)):isUnit (.strct (f::fs))=false:=rfl
@[go_sem] theorem Pd (x:IntKind):isUnit (.int x)=false:=rfl
@[go_sem] theorem Pb:isUnit .bool=false:=rfl
@[go_sem] theorem Mo:isUnit .str=false:=rfl
@[go_sem] theorem NZ (e:TypeId):isUnit (.slice e)=false:=rfl
@[go_sem] theorem Pc (x:FloatKind):isUnit (.cplx x)=false:=rfl
theorem Ia (ty:TypeId) (parts:List (Nat×Operand)):(match (U ty).k with
  | .strct fs=>(U ty).sz≠0∧∃cs0,(U ty).zero= .agg cs0∧withps U ρ fs parts cs0 fun cs=>(atH Q h) (.agg cs)
  |_=>False)=atK (U ty).k (bK U ρ ty parts (atH Q h)):=by
 simp only [atK];cases (U ty).k<;>simp only [bK]
 congr 1
 cases hz:(U ty).zero<;>simp [DJ,aF]
 exact Iff.rfl
@[go_sem↓] theorem QL (ty:TypeId) (parts:List (Nat×Operand)):aZ P U ρ h ⟨d, .build ty parts.toArray,t,p,a,g⟩ Q=bU U ρ ty parts (atH Q h) (isUnit (U ty).k):=by
 simp only [aZ,pv];cases isUnit (U ty).k
 ·simp only [bU,Bool.false_eq_true,if_false]
  exact Ia ty parts
 ·simp only [bU,if_true]
  rfl
@[congr] theorem Jk {fs:List (Nat×TypeId)} {ps:List (Nat×Operand)} {cs cs' :List AV} {k:List AV→Prop} (e:cs=cs'):withps U ρ fs ps cs k=withps U ρ fs ps cs' k:=by rw [e]
@[go_sem] theorem Na (fs:List (Nat×TypeId)) (cs:List AV) (k:List AV→Prop):withps U ρ fs [] cs k=k cs:=rfl
@[go_sem] theorem Ls (fs:List (Nat×TypeId)) (i:Nat) (x:Operand) (r:List (Nat×Operand)) (cs:List AV) (k:List AV→Prop):
  withps U ρ fs ((i,x)::r) cs k=aF fs[i]? fun q=>(U q.2).sz≠0∧aF (ev ρ x) fun y=>fit y (U q.2).sz∧q.1+(U q.2).sz≤cs.length∧withps U ρ fs r (over cs q.1 y.cells) k:=by
 simp only [withps,bR];cases fs[i]? <;>rfl
@[go_sem] theorem QT (cs:List AV) (o:Nat) (xs:List AV):over cs o xs=cs.take o++xs++cs.drop (o+xs.length):=rfl
section
variable {ty : TypeId} {y : AV}
end
def Po (f:FuncId) (k:AV→Prop) (ys:List AV):Prop:=k (.fn f ys)
@[go_sem↓] theorem QH (f:FuncId) (ys:List AV):Po f k ys=k (.fn f ys):=rfl
@[go_sem↓] theorem MB (f:FuncId) (cap:List Operand):aZ P U ρ h ⟨d, .makeFunc (.func f) #[] cap.toArray,t,p,a,g⟩ Q=aF (evs ρ cap) (Po f (atH Q h)):=by
 simp only [aZ,pv,gj];rfl
def fnA (y:AV) (f:FuncId→List AV→Prop):Prop:=match y with
 | .fn g cap=>f g cap
 |_=>False
@[congr] theorem NW {y y' :AV} {f:FuncId→List AV→Prop} (e:y=y'):fnA y f=fnA y' f:=by rw [e]
@[go_sem↓] theorem Rq (g:FuncId) (cap:List AV) (f:FuncId→List AV→Prop):fnA (.fn g cap) f=f g cap:=rfl
@[go_sem↓] theorem Rx (q:Operand) (args:List Operand) (ts:Array TypeId):aZ P U ρ h ⟨d, .call ⟨.value q,args.toArray,ts⟩,t,p,a,g⟩ Q=aF (ev ρ q) fun y=>fnA y fun f cap=>aF (evs ρ args) fun ys=>ak P f (ys++cap) h Q:=by
 simp only [aZ,bR,gj]
 congr 1
def xy (y:AV) (k:AV→Prop) (tk:TK):Prop:=match tk,y with
 | .str, .s l=>k (.v (.int .i64 l.length))
 | .slice _, .sl xs _=>k (.v (.int .i64 xs.length))
 | .slice _, .oa _ _ len=>k (.v (.int .i64 len))
 | .slice _, .ob _ _ len _ _=>k (.v (.int .i64 len))
 |_,_=>False
def J3 (k:AV→Prop) (b:Blk):Prop:=match b with
 | .mp m=>k (.v (.int .i64 m.length))
 |_=>False
@[congr] theorem Mt {b b' :Blk} (e:b=b'):J3 k b=J3 k b' :=by rw [e]
def Mu (h:Heap) (y:AV) (k:AV→Prop) (tk:TK):Prop:=match tk,y with
 | .map _ _, .mp id=>aF (h id) (J3 k)
 |tk,y=>xy y k tk
@[go_sem↓] theorem Pj (y:AV):Mu h y k .str=xy y k .str:=rfl
@[go_sem↓] theorem Mv (y:AV) (e:TypeId):Mu h y k (.slice e)=xy y k (.slice e):=rfl
@[go_sem↓] theorem QE (i o l c s:Nat) (e:TypeId):xy (.ob i o l c s) k (.slice e)=k (.v (.int .i64 l)):=rfl
@[go_sem↓] theorem Ru (l:List UInt8):xy (.s l) k .str=k (.v (.int .i64 l.length)):=rfl
@[go_sem↓] theorem QF (xs:List AV) (q:Perm) (e:TypeId):xy (.sl xs q) k (.slice e)=k (.v (.int .i64 xs.length)):=rfl
@[go_sem↓] theorem TQ (x:Operand) (ty:TypeId):aZ P U ρ h ⟨d, .call ⟨.builtin .len, #[x], #[ty]⟩,t,p,a,g⟩ Q=aF (ev ρ x) fun y=>atK (U ty).k (Mu h y (atH Q h)):=by
 simp only [aZ,pv,pvB,bR,atK]
 congr 1
 funext y
 cases (U ty).k with
 |map a b=>
  cases y with
  |mp id=>
   show (match h id with
    |some (.mp m)=>Q (.v (.int .i64 m.length)) h
    |_=>False)=aF (h id) (J3 (atH Q h))
   cases h id with
   |none=>rfl
   |some b=>cases b<;>rfl
  |_=>rfl
 |_=>cases y<;>rfl
def OA (y:AV) (k:AV→Prop) (tk:TK):Prop:=match tk,y with
 | .slice _, .sl xs .full=>k (.v (.int .i64 xs.length))
 | .slice _, .ob _ _ _ cap _=>k (.v (.int .i64 cap))
 |_,_=>False
@[go_sem↓] theorem Qa (i o l c s:Nat) (e:TypeId):OA (.ob i o l c s) k (.slice e)=k (.v (.int .i64 c)):=rfl
@[go_sem↓] theorem TP (x:Operand) (ty:TypeId):aZ P U ρ h ⟨d, .call ⟨.builtin .cap, #[x], #[ty]⟩,t,p,a,g⟩ Q=aF (ev ρ x) fun y=>atK (U ty).k (OA y (atH Q h)):=by
 simp only [aZ,pv,pvB,bR,atK]
 congr 1
@[congr] theorem My {ys ys' :List AV} (e:ys=ys'):Bp ys k=Bp ys' k:=by rw [e]
@[congr] theorem Mw {ys ys' :List AV} (e:ys=ys'):xz ys k=xz ys' k:=by rw [e]
@[go_sem] theorem Pn (x:IntKind) (i j:Int):Bp [.v (.int x i), .v (.int x j)] k=k (.v (.int x (if j<i then j else i))):=by simp [Bp]
@[go_sem] theorem Pm (x:IntKind) (i j:Int):xz [.v (.int x i), .v (.int x j)] k=k (.v (.int x (if i<j then j else i))):=by simp [xz]
@[congr] theorem Le {ys ys' :List AV} (e:ys=ys'):wO ys k=wO ys' k:=by rw [e]
@[congr] theorem KX {ys ys' :List AV} (e:ys=ys'):vO ys k=vO ys' k:=by rw [e]
@[congr] theorem KP {ys ys' :List AV} (e:ys=ys'):vp ys k=vp ys' k:=by rw [e]
@[go_sem↓] theorem PA (x:FloatKind) (i j:Nat):wO [.v (.complex x i j)] k=k (.v (.float x i)):=rfl
@[go_sem↓] theorem O9 (x:FloatKind) (i j:Nat):vO [.v (.complex x i j)] k=k (.v (.float x j)):=rfl
@[go_sem] theorem OH (x y:FloatKind) (i j:Nat):vp [.v (.float x i), .v (.float y j)] k=(x=y∧k (.v (.complex x i j))):=rfl
theorem C3 {x y:FloatKind} {i j:Nat} {r:Value} (h:∀(P:Program) (ts:Array TypeId) (ty:TypeId) (w:World),(Builtin.max_ ts ty #[.float x i, .float y j]).run P w= .ok r w) (k:AV→Prop):xz [.v (.float x i), .v (.float y j)] k=k (.v r):=propext ⟨fun ⟨r',h',hk⟩=>by
 have e:=(h default #[] 0 default).symm.trans (h' default #[] 0 default);cases e;exact hk,fun hk=>⟨r,h,hk⟩⟩
@[go_sem↓] theorem RD (args:List Operand) (ts:Array TypeId):aZ P U ρ h ⟨d, .call ⟨.builtin .real,args.toArray,ts⟩,t,p,a,g⟩ Q=aF (evs ρ args) fun ys=>wO ys (atH Q h):=by
 simp only [aZ,pv,pvB,gj];rfl
@[go_sem↓] theorem Rz (args:List Operand) (ts:Array TypeId):aZ P U ρ h ⟨d, .call ⟨.builtin .imag,args.toArray,ts⟩,t,p,a,g⟩ Q=aF (evs ρ args) fun ys=>vO ys (atH Q h):=by
 simp only [aZ,pv,pvB,gj];rfl
@[go_sem↓] theorem N8 (args:List Operand) (ts:Array TypeId):aZ P U ρ h ⟨d, .call ⟨.builtin .complex,args.toArray,ts⟩,t,p,a,g⟩ Q=aF (evs ρ args) fun ys=>vp ys (atH Q h):=by
 simp only [aZ,pv,pvB,gj];rfl
@[go_sem↓] theorem TS (args:List Operand) (ts:Array TypeId):aZ P U ρ h ⟨d, .call ⟨.builtin .min,args.toArray,ts⟩,t,p,a,g⟩ Q=aF (evs ρ args) fun ys=>Bp ys (atH Q h):=by
 simp only [aZ,pv,pvB,gj];rfl
@[go_sem↓] theorem TR (args:List Operand) (ts:Array TypeId):aZ P U ρ h ⟨d, .call ⟨.builtin .max,args.toArray,ts⟩,t,p,a,g⟩ Q=aF (evs ρ args) fun ys=>xz ys (atH Q h):=by
 simp only [aZ,pv,pvB,gj];rfl
@[congr] theorem MR {e:TypeId} {y y' :AV} {f:List AV→Prop} (h1:y=y'):jq U e h y f=jq U e h y' f:=by rw [h1]
@[go_sem↓] theorem QY (e:TypeId) (ys:List AV) (q:Perm) (f:List AV→Prop):jq U e h (.sl ys q) f=f ys:=rfl
def apK (U:TypeId→TI) (h:Heap) (x y:AV) (Q:AV→Heap→Prop) (tk:TK):Prop:=match tk,x with
 | .slice e, .sl xs .full=>(U e).sz≠0∧(U e).bytes≠0∧jq U e h y fun ys=>Sized (U e).sz xs∧Sized (U e).sz ys∧(xs.length+ys.length)*(U e).bytes≤140737488355328∧
   qp U h xs ys e Q
 | .slice e, .sl xs (.own id)=>(U e).sz≠0∧(U e).bytes≠0∧jq U e h y fun ys=>Sized (U e).sz xs∧Sized (U e).sz ys∧(xs.length+ys.length)*(U e).bytes≤140737488355328∧
   h id=some (.spare xs.length (U e).sz)∧Q (.sl (xs++ys) (.own id)) (upd h id (some (.spare (xs.length+ys.length) (U e).sz)))
 | .slice e, .oa id off len=>(U e).sz≠0∧(U e).bytes≠0∧(U e).sz=1∧jq U e h y fun ys=>Sized 1 ys∧(∀z∈ys,bA z=false)∧(len+ys.length)*(U e).bytes≤140737488355328∧aF (h id) fun b=>oS b fun cs t=>
   off+len≤cs.length∧(∀z∈(cs.drop off).take len,bA z=false)∧fit (U e).zero 1∧bA (U e).zero=false∧
     (off+(len+ys.length)≤cs.length→Q (.oa id off (len+ys.length)) (upd h id (some (.obj (over cs (off+len) ys) t))))∧
     (∀id' m,h id' =none→Q (.oa id' 0 (len+ys.length)) (upd h id' (some (.obj ((cs.drop off).take len++ys++List.replicate m (U e).zero) e))))
 | .slice e, .ob id off len cap sz=>(U e).sz≠0∧(U e).bytes≠0∧sz=(U e).sz∧jq U e h y fun ys=>Sized (U e).sz ys∧(len+ys.length)*(U e).bytes≤140737488355328∧aF (h id) fun b=>oS b fun cs t=>
   off+len*(U e).sz≤cs.length∧fit (U e).zero (U e).sz∧
     (len+ys.length≤cap→Q (.ob id off (len+ys.length) cap (U e).sz) (upd h id (some (.obj (over cs (off+len*(U e).sz) (aq ys)) t))))∧
     (cap<len+ys.length→jy h ((cs.drop off).take (len*(U e).sz)++aq ys) (len+ys.length) (U e).sz e Q)
 |_,_=>False
@[go_sem↓] theorem vf (xs:List AV) (y:AV) (e:TypeId):apK U h (.sl xs .full) y Q (.slice e)=((U e).sz≠0∧(U e).bytes≠0∧jq U e h y fun ys=>Sized (U e).sz xs∧Sized (U e).sz ys∧(xs.length+ys.length)*(U e).bytes≤140737488355328∧
   qp U h xs ys e Q):=rfl
@[go_sem↓] theorem JA (xs:List AV) (y:AV) (id:Nat) (e:TypeId):apK U h (.sl xs (.own id)) y Q (.slice e)=((U e).sz≠0∧(U e).bytes≠0∧jq U e h y fun ys=>Sized (U e).sz xs∧Sized (U e).sz ys∧(xs.length+ys.length)*(U e).bytes≤140737488355328∧
   h id=some (.spare xs.length (U e).sz)∧Q (.sl (xs++ys) (.own id)) (upd h id (some (.spare (xs.length+ys.length) (U e).sz)))):=rfl
theorem Ca (ts:TypeId) (x y:AV):pz U h ts x y Q=atK (U ts).k (apK U h x y Q):=by
 unfold pz atK;cases (U ts).k with
 |slice e=>
  simp only;cases x with
  |sl xs q=>
   cases q with
   |no=>
    simp only [apK];apply propext;constructor
    ·rintro ⟨_,_,hk⟩
     obtain ⟨ys,hh,_⟩:∃ys:List AV,(Sized (U e).sz xs∧Sized (U e).sz ys∧(xs.length+ys.length)*(U e).bytes≤140737488355328∧False)∧True:=by
      unfold jq at hk;split at hk
      ·exact ⟨_,hk,trivial⟩
      ·exact ⟨_,hk.2.2,trivial⟩
      ·obtain ⟨_,hk⟩:=hk
       split at hk
       ·exact ⟨_,hk.2.2.2,trivial⟩
       ·exact hk.elim
      ·obtain ⟨_,hk⟩:=hk
       split at hk
       ·obtain ⟨ys,_,_,_,hk⟩:=hk
        exact ⟨ys,hk,trivial⟩
       ·exact hk.elim
      ·exact hk.elim
     exact hh.2.2.2
    ·exact False.elim
   |full=>
    rfl
   |own id=>rfl
  |oa id off len=>
   refine congrArg (fun q=>(U e).sz≠0∧(U e).bytes≠0∧(U e).sz=1∧q) (congrArg (fun f=>jq U e h y f) (funext fun ys=> ?_))
   refine congrArg (fun q=>Sized 1 ys∧(∀z∈ys,bA z=false)∧(len+ys.length)*(U e).bytes≤140737488355328∧q) ?_
   cases h id with
   |none=>rfl
   |some b=>cases b<;>rfl
  |ob id off len cap sz=>
   refine congrArg (fun q=>(U e).sz≠0∧(U e).bytes≠0∧sz=(U e).sz∧q) (congrArg (fun f=>jq U e h y f) (funext fun ys=> ?_))
   refine congrArg (fun q=>Sized (U e).sz ys∧(len+ys.length)*(U e).bytes≤140737488355328∧q) ?_
   cases h id with
   |none=>rfl
   |some b=>cases b<;>rfl
  |_=>simp [apK]
 |_=>rfl
@[go_sem↓] theorem Ny (e:TypeId) (A B:Prop):apT A B (.slice e)=A:=rfl
@[go_sem↓] theorem P4 (x:IntKind) (A B:Prop):apT A B (.int x)=B:=rfl
def Co (U:TypeId→TI) (h:Heap) (x y:AV) (Q:AV→Heap→Prop) (tk:TK):Prop:=match tk,x,y with
 | .slice e, .ob id off len cap sz, .v (.int _ n)=>(U e).sz≠0∧(U e).bytes≠0∧sz=(U e).sz∧0<n∧(len+n.toNat)*(U e).bytes≤140737488355328∧fit (U e).zero (U e).sz∧cap<len+n.toNat∧aF (h id) fun b=>oS b fun cs _=>
   off+len*(U e).sz≤cs.length∧jy h ((cs.drop off).take (len*(U e).sz)++cG (U e).zero n.toNat (U e).sz) (len+n.toNat) (U e).sz e Q
 |_,_,_=>False
@[go_sem↓] theorem P5 (id off len cap sz:Nat) (x:IntKind) (n:Int) (e:TypeId):Co U h (.ob id off len cap sz) (.v (.int x n)) Q (.slice e)=((U e).sz≠0∧(U e).bytes≠0∧sz=(U e).sz∧0<n∧(len+n.toNat)*(U e).bytes≤140737488355328∧fit (U e).zero (U e).sz∧cap<len+n.toNat∧aF (h id) fun b=>oS b fun cs _=>
   off+len*(U e).sz≤cs.length∧jy h ((cs.drop off).take (len*(U e).sz)++cG (U e).zero n.toNat (U e).sz) (len+n.toNat) (U e).sz e Q):=rfl
theorem I8 (ts:TypeId) (x y:AV):Cb U h ts x y Q=atK (U ts).k (Co U h x y Q):=by
 unfold Cb atK;cases (U ts).k with
 |slice e=>
  simp only;cases x with
  |ob id off len cap sz=>
   cases y with
   |v u=>
    cases u with
    |int k n=>
     simp only [Co];cases h id with
     |none=>rfl
     |some b=>cases b<;>rfl
    |_=>simp [Co]
   |_=>simp [Co]
  |_=>simp [Co]
 |_=>rfl
@[go_sem↓] theorem Pt (x y:Operand) (t1 t2:TypeId):aZ P U ρ h ⟨d, .call ⟨.builtin .append, #[x,y], #[t1,t2]⟩,t,p,a,g⟩ Q=aF (ev ρ x) fun u=>aF (ev ρ y) fun v=>atK (U t2).k (apT (atK (U t1).k (apK U h u v Q)) (atK (U t1).k (Co U h u v Q))):=by
 simp only [aZ,bR,Ca,I8,atK]
def alU (U:TypeId→TI) (h:Heap) (ty:TypeId) (Q:AV→Heap→Prop) (b:Bool):Prop:=match b with
 |true=>Gw h (.obj [] ty) Q
 |false=>(U ty).sz≠0∧fit (U ty).zero (U ty).sz∧Gw h (.obj (U ty).zero.cells ty) Q
@[go_sem↓] theorem Ts (ty:TypeId):alU U h ty Q true=Gw h (.obj [] ty) Q:=rfl
@[go_sem↓] theorem Tr (ty:TypeId):alU U h ty Q false=((U ty).sz≠0∧fit (U ty).zero (U ty).sz∧Gw h (.obj (U ty).zero.cells ty) Q):=rfl
@[go_sem↓] theorem QJ (ty:TypeId):aZ P U ρ h ⟨d, .alloc ty,t,p,a,g⟩ Q=alU U h ty Q (isUnit (U ty).k):=by
 simp only [aZ];cases isUnit (U ty).k<;>rfl
@[go_sem↓] theorem TO (ty:TypeId) (x:Operand):aZ P U ρ h ⟨d, .box ty x,t,p,a,g⟩ Q=((U ty).sz≠0∧aF (ev ρ x) fun y=>fit y (U ty).sz∧Gw h (.obj y.cells ty) Q):=by
 simp only [aZ,bR];rfl
def stA (U:TypeId→TI) (h:Heap) (ty:TypeId) (q y:AV) (Q:AV→Heap→Prop):Prop:=match q with
 | .ptr id off=>aF (h id) fun b=>oS b fun cs t' =>fit y (U ty).sz∧off+(U ty).sz≤cs.length∧Q (.v undef) (upd h id (some (.obj (over cs off y.cells) t')))
 |_=>False
@[congr] theorem Oe {ty:TypeId} {q q' y y' :AV} (e1:q=q') (e2:y=y'):stA U h ty q y Q=stA U h ty q' y' Q:=by rw [e1,e2]
@[go_sem↓] theorem QZ (ty:TypeId) (id off:Nat) (y:AV):stA U h ty (.ptr id off) y Q=aF (h id) fun b=>oS b fun cs t' =>fit y (U ty).sz∧off+(U ty).sz≤cs.length∧Q (.v undef) (upd h id (some (.obj (over cs off y.cells) t'))):=rfl
def utA (h:Heap) (u y:AV) (Q:AV→Heap→Prop):Prop:=y= .agg []∧match u with
 | .ptr .. =>Q (.v undef) h
 |_=>False
@[congr] theorem Oi {u u' y y' :AV} (e1:u=u') (e2:y=y'):utA h u y Q=utA h u' y' Q:=by rw [e1,e2]
@[go_sem↓] theorem RT (i o:Nat):utA h (.ptr i o) (.agg []) Q=Q (.v undef) h:=by simp [utA]
def stU (U:TypeId→TI) (ρ:Env) (h:Heap) (ty:TypeId) (q x:Operand) (Q:AV→Heap→Prop) (b:Bool):Prop:=match b with
 |true=>aF (ev ρ q) fun u=>aF (ev ρ x) fun y=>utA h u y Q
 |false=>(U ty).sz≠0∧aF (ev ρ q) fun u=>aF (ev ρ x) fun y=>stA U h ty u y Q
@[go_sem↓] theorem TX (ty:TypeId) (q x:Operand):stU U ρ h ty q x Q true=aF (ev ρ q) fun u=>aF (ev ρ x) fun y=>utA h u y Q:=rfl
@[go_sem↓] theorem TW (ty:TypeId) (q x:Operand):stU U ρ h ty q x Q false=((U ty).sz≠0∧aF (ev ρ q) fun u=>aF (ev ρ x) fun y=>stA U h ty u y Q):=rfl
@[go_sem↓] theorem QS (ty:TypeId) (q x:Operand):aZ P U ρ h ⟨d, .store ty q x,t,p,a,g⟩ Q=stU U ρ h ty q x Q (isUnit (U ty).k):=by
 simp only [aZ,bR];cases isUnit (U ty).k
 case true=>rfl
 simp only [stU,Bool.false_eq_true,if_false]
 congr 1
 congr 1
 funext u
 congr 1
 funext y
 cases u<;>simp only [stA]
 rename_i id off
 cases h id with
 |none=>rfl
 |some b=>cases b<;>rfl
def qb (xs:List AV) (h:Heap) (Q:AV→Heap→Prop):Prop:=∃y h',Weak (ax xs) y∧Sub h' h∧Q y h'
@[congr] theorem KI {xs xs' :List AV} {h h' :Heap} {Q:AV→Heap→Prop} (e1:xs=xs') (e2:h=h'):qb xs h Q=qb xs' h' Q:=by rw [e1,e2]
@[go_sem↓] theorem ND (rs:List ResultVar):tD U rs Q .ret ρ h=qJ ρ h U rs fun xs=>qb xs h Q:=by simp [tD,qb]
@[go_sem↓] theorem JE (rs:List ResultVar):tD U rs Q .normal ρ h=qJ ρ h U rs fun xs=>qb xs h Q:=by simp [tD,qb]
@[go_sem↓] theorem PB (f:List AV→Prop):qJ ρ h U [] f=f []:=rfl
@[go_sem↓] theorem PD (i:Tmp) (r:List ResultVar) (f:List AV→Prop):qJ ρ h U (.tmp i::r) f=aF (lk ρ i) fun x=>qJ ρ h U r fun xs=>f (x::xs):=by
 simp only [qJ];cases lk ρ i<;>rfl
def Aw (U:TypeId→TI) (h:Heap) (ty:TypeId) (y:AV) (k:AV→Prop):Prop:=match y with
 | .ptr id off=>aF (h id) fun b=>oS b fun cs _=>(U ty).sz≠0∧(U ty).k≠ .other∧gL cs off (U ty) k
 |_=>False
@[congr] theorem KN {ty:TypeId} {y y' :AV} (e:y=y'):Aw U h ty y k=Aw U h ty y' k:=by rw [e]
@[go_sem↓] theorem NF (ty:TypeId) (id off:Nat):Aw U h ty (.ptr id off) k=aF (h id) fun b=>oS b fun cs _=>(U ty).sz≠0∧(U ty).k≠ .other∧gL cs off (U ty) k:=rfl
@[go_sem↓] theorem Oc (i:Tmp) (ty:TypeId) (r:List ResultVar) (f:List AV→Prop):qJ ρ h U (.cell i ty::r) f=aF (lk ρ i) fun y=>Aw U h ty y fun x=>qJ ρ h U r fun xs=>f (x::xs):=by
 simp only [qJ];cases lk ρ i with
 |none=>rfl
 |some y=>
  cases y<;>simp only [fA,Aw]
  rename_i id off
  cases h id with
  |none=>rfl
  |some b=>cases b<;>rfl
theorem qb.mk {xs:List AV} {h h' :Heap} {Q:AV→Heap→Prop} (y:AV) (hw:Weak (ax xs) y) (hs:Sub h' h) (hq:Q y h'):qb xs h Q:=⟨y,h',hw,hs,hq⟩
theorem qb.same {xs:List AV} {h h' :Heap} {Q:AV→Heap→Prop} (hs:Sub h' h) (hq:Q (ax xs) h'):qb xs h Q:=⟨_,h', .refl _,hs,hq⟩
theorem Sub.refl (h:Heap):Sub h h:=fun _ _ e=>e
theorem Sub.trans {a b c:Heap} (h1:Sub a b) (h2:Sub b c):Sub a c:=fun i k e=>h2 i k (h1 i k e)
theorem Sub.new {a b:Heap} (hs:Sub a b) {id:Nat} (hid:b id=none) (k:Option Blk):Sub a (Ab.upd b id k):=fun j l e=>by
 by_cases ej:j=id
 ·subst ej; rw [hs _ _ e] at hid; cases hid
 ·rw [ag _ _ ej]; exact hs _ _ e
theorem Sub.none {a b:Heap} (hs:Sub a b) {id:Nat} (hid:b id=none):a id=none:=by
 cases hh:a id with
 |none=>rfl
 |some k=>rw [hs _ _ hh] at hid; cases hid
theorem ak.body (hU:∀t,aN P U t) (hm:P.follows .mixedOrders=true) {f:FuncId} {fn:Func} {c:Code} {args:List AV} {h:Heap} {Q:AV→Heap→Prop} (hf:P.funcs[f]? =some fn) (hb:fn.body=some c)
  (hn : (fn.name == "runtime.NumGoroutine") = false) (m : Nat) (hm' : fn.ntmps = m) (rs : List ResultVar) (hr : fn.results.toList = rs) (hl : args.length ≤ m)
  (hk:(∀x∈args,wfA x)→bF P U m c (vA args) h (tD U rs Q)):ak P f args h Q:=by
 subst hm'; subst hr
 exact ak.Pw hU hm hf hb hn hl hk
end
section
variable {P : Program} {U : TypeId → TI} {n : Nat} {ρ : Env} {h : Heap}
variable {d : Option Tmp} {t : TypeId} {p : String} {a : Array Edge} {g : Option (Nat × Bool)} {Q : AV → Heap → Prop} {k : AV → Prop}
def dsts (n:Nat):List Oper→Bool
 | []=>true
 |o::os=>dL n o.dst && dsts n os
theorem mQ (l:List Oper):dsts n l=l.all fun o=>dL n o.dst:=by induction l with
 |nil=>rfl
 |cons o os ih=>simp [dsts,ih]
@[go_sem] theorem OP:(dsts n []=true)=True:=by simp [dsts]
@[go_sem] theorem NM (o:Oper) (os:List Oper):(dsts n (o::os)=true)=(dL n o.dst=true∧dsts n os=true):=by simp [dsts]
def Af (ops:Array Oper):Prop:=vY ops=true
theorem Af.of {ops:Array Oper} (h:vY ops=true):Af ops:=h
def Cy (k:AV→Prop) (x:AV) (_:Heap):Prop:=k x
@[go_sem↓] theorem NI (x:AV):Cy k x h=k x:=rfl
def KDr (P:Program) (U:TypeId→TI) (n:Nat) (all os:List Oper) (h:Heap) (K:Env→Prop) (ρ:Env) (d:Option Tmp) (x:AV):Prop:=kL P U n all os (put ρ d x) h K
@[go_sem↓] theorem Q3 (all os:List Oper) (K:Env→Prop) (x:AV):KDr P U n all os h K ρ d x=kL P U n all os (put ρ d x) h K:=rfl
def atN (K:Exit→Env→Heap→Prop) (h:Heap) (ρ:Env):Prop:=K .normal ρ h
@[go_sem↓] theorem Q6 (K:Exit→Env→Heap→Prop):atN K h ρ=K .normal ρ h:=rfl
def Gu (ops:Array Oper):Prop:=HP ops=true
theorem Gu.of {ops:Array Oper} (h:HP ops=true):Gu ops:=h
attribute [go_sem] Bool.not_false Bool.not_true zN Option.isNone_none Option.isNone_some Bool.and_true Bool.true_and Bool.and_false Bool.false_and List.dropLast_singleton
@[go_sem] theorem C2 (o o' :Oper) (r:List Oper):qg (o::o' ::r)=qg (o' ::r):=rfl
@[go_sem] theorem xq (o o' :Oper) (r:List Oper):(o::o' ::r).dropLast=o::(o' ::r).dropLast:=rfl
@[go_sem↓] theorem N0 (o:Oper) (K:Env→Heap→Prop):nO P U [o] h K ρ=aZ P U ρ h o (fun X h' =>K (put ρ o.dst X) h'):=rfl
@[go_sem↓] theorem Ms (o o' :Oper) (r:List Oper) (K:Env→Heap→Prop):nO P U (o::o' ::r) h K ρ=nO P U (o' ::r) h K ρ:=rfl
def EA (l:List Oper) (k:List Oper→Prop):Prop:=k l
@[congr] theorem Lr {l l' :List Oper} {k:List Oper→Prop} (e:l=l'):EA l k=EA l' k:=by rw [e]
@[go_sem] theorem M8 (o:Oper) (r:List Oper) (k:List Oper→Prop):EA (o::r) k=k (o::r):=rfl
section
variable (l : List Oper)
@[go_sem] theorem MV:mu []=true:=rfl
@[go_sem] theorem B6 (o:Oper):mu (o::l)=(!cX o.op && mu l):=rfl
end
section
variable (x y z : Operand) (ty ty' : TypeId)
@[go_sem] theorem NQ:cX (.move x)=false:=rfl
@[go_sem] theorem KS:cX (.assign x)=false:=rfl
@[go_sem] theorem NR:cX (.pick x y z)=false:=rfl
@[go_sem] theorem Jj:cX (.nilCheck x)=false:=rfl
@[go_sem] theorem Ma (op:BinOp):cX (.binOp op ty x y ty')=false:=rfl
@[go_sem] theorem NS (op:UnOp):cX (.unOp op ty x)=false:=rfl
@[go_sem] theorem JM:cX (.convert ty ty' x)=false:=rfl
@[go_sem] theorem JN (f:Nat):cX (.extract x f)=false:=rfl
@[go_sem] theorem Mc:cX (.index ty x y)=false:=rfl
@[go_sem] theorem Hg (f:Nat):cX (.fieldAddr ty x f)=false:=rfl
@[go_sem] theorem Hh:cX (.indexAddr ty x y)=false:=rfl
@[go_sem] theorem NP:cX (.load ty x)=false:=rfl
@[go_sem] theorem Md (lo hi mx:Option Operand):cX (.slice ty x lo hi mx)=false:=rfl
@[go_sem] theorem Gs (m:Nat) (ps:Array (Nat×Operand)):cX (.buildSlice ty m ps)=false:=rfl
@[go_sem] theorem Mb (ps:Array (Nat×Operand)):cX (.build ty ps)=false:=rfl
@[go_sem] theorem OQ (aa:Array Operand) (ts:Array TypeId):cX (.call ⟨.builtin .len,aa,ts⟩)=false:=rfl
@[go_sem] theorem NN (aa:Array Operand) (ts:Array TypeId):cX (.call ⟨.value x,aa,ts⟩)=true:=rfl
@[go_sem] theorem KR (aa:Array Operand) (ts:Array TypeId):cX (.call ⟨.builtin .append,aa,ts⟩)=true:=rfl
@[go_sem] theorem NO (aa:Array Operand) (ts:Array TypeId):cX (.call ⟨.builtin .copy,aa,ts⟩)=true:=rfl
@[go_sem] theorem L9:cX (.alloc ty)=true:=rfl
@[go_sem] theorem Me:cX (.store ty x y)=true:=rfl
end
def nI (P:Program) (U:TypeId→TI) (n:Nat) (l:List Oper) (ρ:Env) (h:Heap) (K:Exit→Env→Heap→Prop):Prop:=Lq P U n l.toArray ρ h (K .normal)
theorem nI.quiet {l:List Oper} {K:Exit→Env→Heap→Prop} (hB:vY l.toArray=true) (hk:dsts n l=true∧kL P U n l l ρ h (atN K h)):nI P U n l ρ h K:=
 ⟨by rw [mQ] at hk; exact hk.1, .inl ⟨hB,hk.2⟩⟩
theorem nI.calls {l:List Oper} {K:Exit→Env→Heap→Prop} (hm:Heap) (os:List Nat) (hs:Sub hm h) (hB:nc .any l.toArray os (Array.replicate l.toArray.size false)=true) (hl:os.length=l.toArray.size)
  (hk:dsts n l=true∧eR P U n l hm os ρ h (K .normal)):nI P U n l ρ h K:=
 ⟨by rw [mQ] at hk; exact hk.1, .inr (.inl ⟨hm, .seq os,_,hs,hB,hl,hk.2,fun _ _ h=>h⟩)⟩
def LN (P:Program) (U:TypeId→TI) (n:Nat) (l:List Oper) (o2:List Nat) (K:Exit→Env→Heap→Prop) (ρ:Env) (h:Heap):Prop:=∃hm2,Sub hm2 h∧eR P U n l hm2 o2 ρ h (K .normal)
theorem nI.tree {l:List Oper} {K:Exit→Env→Heap→Prop} (hm:Heap) (t:Ord) (hs:Sub hm h) (hB:oU .any l.toArray t (Array.replicate l.toArray.size false)=true) (hl:t.len=l.toArray.size)
  (hk:dsts n l=true∧ju P U n l hm t ρ h (K .normal)):nI P U n l ρ h K:=
 ⟨by rw [mQ] at hk; exact hk.1, .inr (.inl ⟨hm,t,_,hs,hB,hl,hk.2,fun _ _ h=>h⟩)⟩
theorem nI.stage {l:List Oper} {K:Exit→Env→Heap→Prop} (hm:Heap) (o1 o2:List Nat) (hs:Sub hm h) (hB:uX .any l.toArray o1 o2=true)
  (hk:dsts n l=true∧eR P U n l hm o1 ρ h (LN P U n l o2 K)):nI P U n l ρ h K:=
 ⟨by rw [mQ] at hk; exact hk.1, .inr (.inr (.inl ⟨hm,o1,o2,hs,hB,hk.2⟩))⟩
def DI (P:Program) (U:TypeId→TI) (l:List Oper) (K:Exit→Env→Heap→Prop) (ρ:Env) (h:Heap):Prop:=nO P U l h (K .normal) ρ
@[go_sem↓] theorem Nq (o:Oper) (K:Exit→Env→Heap→Prop):DI P U [o] K ρ h=aZ P U ρ h o (fun X h' =>K .normal (put ρ o.dst X) h'):=rfl
@[go_sem↓] theorem LH (o o' :Oper) (r:List Oper) (K:Exit→Env→Heap→Prop):DI P U (o::o' ::r) K ρ h=DI P U (o' ::r) K ρ h:=rfl
theorem nI.Ph {l:List Oper} {K:Exit→Env→Heap→Prop} (hm:Heap) (t:Ord) (hs:Sub hm h) (hz:uH .any l.toArray t.len=true) (hg:(l.getLast?.map fun o=>o.guard.isNone)=some true) (hB:FL .any l.toArray t.len t (Array.replicate l.toArray.size false)=true) (hl:t.len+1=l.toArray.size)
  (hk:dsts n l=true∧ju P U n l hm t ρ h (DI P U l K)):nI P U n l ρ h K:=
 ⟨by rw [mQ] at hk; exact hk.1, .inr (.inr (.inr ⟨hm,t,hs,hz,hg,hB,hl,hk.2⟩))⟩
def qO (P:Program) (U:TypeId→TI) (n:Nat) (l:List Oper) (ρ:Env) (h:Heap) (K:Exit→Env→Heap→Prop) (b:Bool) (e:Bool):Prop:=match b,e with
 |true,_=>Gu l.toArray∧dsts n l=true∧kL P U n l l.dropLast ρ h (nO P U l h (K .normal))
 |false,true=>Af l.toArray∧dsts n l=true∧kL P U n l l ρ h (atN K h)
 |false,false=>nI P U n l ρ h K
@[congr] theorem KD {l:List Oper} {K:Exit→Env→Heap→Prop} {b b' e e' :Bool} (h1:b=b') (h2:e=e'):qO P U n l ρ h K b e=qO P U n l ρ h K b' e' :=by rw [h1,h2]
@[go_sem↓] theorem Lv (l:List Oper) (K:Exit→Env→Heap→Prop) (e:Bool):qO P U n l ρ h K true e=(Gu l.toArray∧dsts n l=true∧EA l.dropLast fun l' =>kL P U n l l' ρ h (nO P U l h (K .normal))):=by cases e<;>rfl
@[go_sem↓] theorem KE (l:List Oper) (K:Exit→Env→Heap→Prop):qO P U n l ρ h K false true=(Af l.toArray∧dsts n l=true∧kL P U n l l ρ h (atN K h)):=rfl
@[go_sem↓] theorem Nc (l:List Oper) (K:Exit→Env→Heap→Prop):qO P U n l ρ h K false false=nI P U n l ρ h K:=rfl
def qL (l:List Oper):Bool:=qg l && mu l.dropLast
@[go_sem] theorem MU (o:Oper):qL [o]=(zN o.op && o.guard.isNone):=by simp [qL,qg,mu]
@[go_sem] theorem Lm (o o' :Oper) (r:List Oper):qL (o::o' ::r)=(!cX o.op && qL (o' ::r)):=by
 simp only [qL,C2,xq,B6];cases cX o.op<;>simp
@[go_sem↓] theorem RJ (id:Nat) (l:List Oper) (K:Exit→Env→Heap→Prop):bF P U n (.region id l.toArray true) ρ h K=qO P U n l ρ h K (qL l) (mu l):=by
 simp only [bF,if_true,qL];cases hb:(qg l && mu l.dropLast) with
 |true=>
  simp only [if_true,Bool.and_eq_true,qO,Gu,mQ,and_assoc]
 |false=>
  cases he:mu l with
  |true=>
   simp only [Bool.false_eq_true,if_false,Bool.and_eq_true,qO,Af,mQ,and_assoc,Bool.true_eq_false];rfl
  |false=>
   simp only [Bool.false_eq_true,if_false,qO,if_true];rfl
def qs (P:Program) (U:TypeId→TI) (n:Nat) (all:List Oper) (hm:Heap) (is:List Nat) (K:Env→Heap→Prop) (ρ:Env) (d:Option Tmp) (X:AV) (h:Heap):Prop:=eR P U n all hm is (put ρ d X) h K
@[go_sem↓] theorem PY (all:List Oper) (hm:Heap) (is:List Nat) (K:Env→Heap→Prop) (d:Option Tmp) (X:AV):qs P U n all hm is K ρ d X h=eR P U n all hm is (put ρ d X) h K:=rfl
def LA (P:Program) (U:TypeId→TI) (n:Nat) (all:List Oper) (hm:Heap) (is:List Nat) (K:Env→Heap→Prop) (ρ:Env) (d:Option Tmp) (X:AV) (h:Heap):Prop:=Sub hm h∧eR P U n all hm is (put ρ d X) h K
@[go_sem↓] theorem PZ (all:List Oper) (hm:Heap) (is:List Nat) (K:Env→Heap→Prop) (d:Option Tmp) (X:AV):LA P U n all hm is K ρ d X h=(Sub hm h∧eR P U n all hm is (put ρ d X) h K):=rfl
@[go_sem↓] theorem TN (all:List Oper) (hm:Heap) (K:Env→Heap→Prop):eR P U n all hm [] ρ h K=K ρ h:=rfl
def lH (P:Program) (U:TypeId→TI) (n:Nat) (all:List Oper) (hm:Heap) (is:List Nat) (K:Env→Heap→Prop) (ρ:Env) (h:Heap) (o:Oper) (e:Bool):Prop:=match e with
 |true=>aZ P U ρ h o (LA P U n all hm is K ρ o.dst)
 |false=>pv U ρ hm o.op fun X=>eR P U n all hm is (put ρ o.dst X) h K
@[congr] theorem LK {all:List Oper} {hm:Heap} {is:List Nat} {K:Env→Heap→Prop} {o:Oper} {e e' :Bool} (he:e=e'):lH P U n all hm is K ρ h o e=lH P U n all hm is K ρ h o e' :=by rw [he]
def hD (k:AV→Heap→Prop) (h:Heap) (x:AV) (_:Heap):Prop:=k x h
@[go_sem↓] theorem NH (k:AV→Heap→Prop) (h h' :Heap) (x:AV):hD k h x h' =k x h:=rfl
@[go_sem↓] theorem Nt (all:List Oper) (hm:Heap) (is:List Nat) (K:Env→Heap→Prop) (op:Op):lH P U n all hm is K ρ h ⟨d,op,t,p,a,g⟩ true=aZ P U ρ h ⟨d,op,t,p,a,g⟩ (LA P U n all hm is K ρ d):=rfl
def notNil:Op→Bool
 | .binOp _ _ _ y _=> !Da y
 |_=>true
theorem Ki {hm:Heap} {op:Op} {k:AV→Heap→Prop} (h1:cX op=false) (h2:notNil op=true):aZ P U ρ hm ⟨d,op,t,p,a,g⟩ (hD k h)=pv U ρ hm op fun X=>k X h:=by
 cases op with
 |call c=>
  obtain ⟨cal,args,ts⟩:=c;cases cal with
  |value q=>simp [cX] at h1
  |builtin b=>cases b<;>first|rfl|simp [cX] at h1
  |_=>rfl
 |binOp op ty x y ty' =>
  simp only [notNil,Bool.not_eq_true'] at h2;simp only [aZ,h2];rfl
 |alloc=>simp [cX] at h1
 |box=>simp [cX] at h1
 |store=>simp [cX] at h1
 |makeSlice=>simp [cX] at h1
 |makeMap=>simp [cX] at h1
 |mapUpdate=>simp [cX] at h1
 |_=>rfl
theorem dI {all:List Oper} {hm:Heap} {is:List Nat} {K:Env→Heap→Prop} {op:Op} (h1:cX op=false) (h2:notNil op=true):
  lH P U n all hm is K ρ h ⟨d,op,t,p,a,g⟩ false=aZ P U ρ hm ⟨d,op,t,p,a,g⟩ (hD (qs P U n all hm is K ρ d) h):=by
 rw [Ki h1 h2]; rfl
section
variable (all : List Oper) (hm : Heap) (is : List Nat) (K : Env → Heap → Prop) (x y z : Operand) (ty ty' : TypeId)
@[go_sem↓] theorem Ns:lH P U n all hm is K ρ h ⟨d, .move x,t,p,a,g⟩ false=aZ P U ρ hm ⟨d, .move x,t,p,a,g⟩ (hD (qs P U n all hm is K ρ d) h):=dI rfl rfl
@[go_sem↓] theorem KH:lH P U n all hm is K ρ h ⟨d, .assign x,t,p,a,g⟩ false=aZ P U ρ hm ⟨d, .assign x,t,p,a,g⟩ (hD (qs P U n all hm is K ρ d) h):=dI rfl rfl
@[go_sem↓] theorem Jh:lH P U n all hm is K ρ h ⟨d, .nilCheck x,t,p,a,g⟩ false=aZ P U ρ hm ⟨d, .nilCheck x,t,p,a,g⟩ (hD (qs P U n all hm is K ρ d) h):=dI rfl rfl
@[go_sem↓] theorem Jt (f:Nat):lH P U n all hm is K ρ h ⟨d, .extract x f,t,p,a,g⟩ false=aZ P U ρ hm ⟨d, .extract x f,t,p,a,g⟩ (hD (qs P U n all hm is K ρ d) h):=dI rfl rfl
@[go_sem↓] theorem Gx (f:Nat):lH P U n all hm is K ρ h ⟨d, .fieldAddr ty x f,t,p,a,g⟩ false=aZ P U ρ hm ⟨d, .fieldAddr ty x f,t,p,a,g⟩ (hD (qs P U n all hm is K ρ d) h):=dI rfl rfl
@[go_sem↓] theorem Gy:lH P U n all hm is K ρ h ⟨d, .indexAddr ty x y,t,p,a,g⟩ false=aZ P U ρ hm ⟨d, .indexAddr ty x y,t,p,a,g⟩ (hD (qs P U n all hm is K ρ d) h):=dI rfl rfl
@[go_sem↓] theorem Nr:lH P U n all hm is K ρ h ⟨d, .load ty x,t,p,a,g⟩ false=aZ P U ρ hm ⟨d, .load ty x,t,p,a,g⟩ (hD (qs P U n all hm is K ρ d) h):=dI rfl rfl
@[go_sem↓] theorem LL (lo hi mx:Option Operand):lH P U n all hm is K ρ h ⟨d, .slice ty x lo hi mx,t,p,a,g⟩ false=aZ P U ρ hm ⟨d, .slice ty x lo hi mx,t,p,a,g⟩ (hD (qs P U n all hm is K ρ d) h):=dI rfl rfl
@[go_sem↓] theorem Gr (m:Nat) (ps:Array (Nat×Operand)):lH P U n all hm is K ρ h ⟨d, .buildSlice ty m ps,t,p,a,g⟩ false=aZ P U ρ hm ⟨d, .buildSlice ty m ps,t,p,a,g⟩ (hD (qs P U n all hm is K ρ d) h):=dI rfl rfl
@[go_sem↓] theorem LJ (ps:Array (Nat×Operand)):lH P U n all hm is K ρ h ⟨d, .build ty ps,t,p,a,g⟩ false=aZ P U ρ hm ⟨d, .build ty ps,t,p,a,g⟩ (hD (qs P U n all hm is K ρ d) h):=dI rfl rfl
@[go_sem↓] theorem Oo (aa:Array Operand) (ts:Array TypeId):lH P U n all hm is K ρ h ⟨d, .call ⟨.builtin .len,aa,ts⟩,t,p,a,g⟩ false=aZ P U ρ hm ⟨d, .call ⟨.builtin .len,aa,ts⟩,t,p,a,g⟩ (hD (qs P U n all hm is K ρ d) h):=dI rfl rfl
@[go_sem↓] theorem LI (op:BinOp) (w:Tmp):lH P U n all hm is K ρ h ⟨d, .binOp op ty x (.tmp w) ty',t,p,a,g⟩ false=aZ P U ρ hm ⟨d, .binOp op ty x (.tmp w) ty',t,p,a,g⟩ (hD (qs P U n all hm is K ρ d) h):=dI rfl rfl
@[go_sem↓] theorem Js (op:BinOp) (ik:IntKind) (im:Int):lH P U n all hm is K ρ h ⟨d, .binOp op ty x (.const (.int ik im)) ty',t,p,a,g⟩ false=aZ P U ρ hm ⟨d, .binOp op ty x (.const (.int ik im)) ty',t,p,a,g⟩ (hD (qs P U n all hm is K ρ d) h):=dI rfl rfl
end
def Ly (P:Program) (U:TypeId→TI) (n:Nat) (all:List Oper) (hm:Heap) (is:List Nat) (ρ:Env) (h:Heap) (K:Env→Heap→Prop) (w:Bool) (o:Oper) (s:Nat) (x:AV):Prop:=
 gB s w ρ (fun ρ=>lH P U n all hm is K ρ h o (cX o.op)) (fun ρ=>eR P U n all hm is (put ρ o.dst (.v undef)) h K) x
section
variable {all : List Oper} {hm : Heap} {is : List Nat} {K : Env → Heap → Prop} {o : Oper} {s : Nat}
end
def IS (P:Program) (U:TypeId→TI) (n:Nat) (all:List Oper) (hm:Heap) (is:List Nat) (ρ:Env) (h:Heap) (K:Env→Heap→Prop) (o:Oper):Prop:=match o.guard with
 |none=>lH P U n all hm is K ρ h o (cX o.op)
 |some (gi,w)=>aF (nK all gi) fun s=>aF (lk ρ s) (Ly P U n all hm is ρ h K w o s)
@[go_sem↓] theorem MT (all:List Oper) (hm:Heap) (is:List Nat) (K:Env→Heap→Prop) (op:Op):IS P U n all hm is ρ h K ⟨d,op,t,p,a,none⟩=lH P U n all hm is K ρ h ⟨d,op,t,p,a,none⟩ (cX op):=rfl
@[go_sem↓] theorem Rr (all:List Oper) (hm:Heap) (i:Nat) (is:List Nat) (K:Env→Heap→Prop):eR P U n all hm (i::is) ρ h K=aF all[i]? (IS P U n all hm is ρ h K):=by
 simp only [eR];cases all[i]? with
 |none=>rfl
 |some o=>
  simp only [fA,IS];have e:∀ρ',Cc P U hm o ρ' h (fun X h' =>eR P U n all hm is (put ρ' o.dst X) h' K)=lH P U n all hm is K ρ' h o (cX o.op):=fun ρ' =>by
   unfold Cc lH vcE;cases cX o.op<;>rfl
  cases hg:o.guard with
  |none=>simp only [fI]; exact e ρ
  |some gg=>
   obtain ⟨gi,w⟩:=gg;simp only;rw [kQ];simp only [e];rfl
@[congr] theorem Nf {f f' :FuncId} {a a' :List AV} {hm:Heap} {k:AV→Prop} (h0:f=f') (h1:a=a'):FnQ P f a hm k=FnQ P f' a' hm k:=by rw [h0,h1]
@[go_sem↓] theorem RG (hm:Heap) (q:Operand) (args:List Operand) (ts:Array TypeId) (k:AV→Prop):vcQ P U ρ hm ⟨d, .call ⟨.value q,args.toArray,ts⟩,t,p,a,g⟩ k=aF (ev ρ q) fun y=>fnA y fun f cap=>aF (evs ρ args) fun ys=>FnQ P f (ys++cap) hm k:=by
 simp only [vcQ,bR,gj]
 congr 1
def QStep (P:Program) (U:TypeId→TI) (n:Nat) (all:List Oper) (hm:Heap) (t:Ord) (ρ:Env) (h:Heap) (K:Env→Heap→Prop) (o:Oper):Prop:=o.guard=none∧vcQ P U ρ hm o fun X=>ju P U n all hm t (put ρ o.dst X) h K
@[go_sem↓] theorem Oq (all:List Oper) (hm:Heap) (t' :Ord) (K:Env→Heap→Prop) (op:Op):QStep P U n all hm t' ρ h K ⟨d,op,t,p,a,none⟩=vcQ P U ρ hm ⟨d,op,t,p,a,none⟩ fun X=>ju P U n all hm t' (put ρ d X) h K:=by simp [QStep]
@[go_sem↓] theorem TY (all:List Oper) (hm:Heap) (l:List Nat) (K:Env→Heap→Prop):ju P U n all hm (.seq l) ρ h K=eR P U n all hm l ρ h K:=rfl
@[go_sem↓] theorem Q0 (all:List Oper) (hm:Heap) (l:List Nat) (i:Nat) (t' :Ord) (K:Env→Heap→Prop):ju P U n all hm (.quiet l i t') ρ h K=eR P U n all hm l ρ h fun ρ h=>aF all[i]? (QStep P U n all hm t' ρ h K):=by
 simp only [ju]
 congr 1
 funext ρ h
 cases all[i]? <;>rfl
@[go_sem↓] theorem RR (all:List Oper) (hm:Heap) (l is:List Nat) (t' :Ord) (K:Env→Heap→Prop):ju P U n all hm (.news l is t') ρ h K=eR P U n all hm l ρ h fun ρ h=>Sub hm h∧kM U all is∧qo P U all is ρ h fun ρ h=>ju P U n all hm t' ρ h K:=rfl
def Li (U:TypeId→TI) (o:Oper):Prop:=wV U o.op
@[go_sem↓] theorem PF (ty:TypeId):Li U ⟨d, .alloc ty,t,p,a,g⟩=(isUnit (U ty).k=true∨(U ty).sz≠0∧fit (U ty).zero (U ty).sz):=rfl
@[go_sem↓] theorem Od (all:List Oper):kM U all []=True:=rfl
@[go_sem↓] theorem MP (all:List Oper) (i:Nat) (is:List Nat):kM U all (i::is)=(aF all[i]? (Li U)∧kM U all is):=by
 simp only [kM];cases all[i]? <;>rfl
def NStep (P:Program) (U:TypeId→TI) (all:List Oper) (is:List Nat) (ρ:Env) (h:Heap) (K:Env→Heap→Prop) (o:Oper):Prop:=aZ P U ρ h o fun X h' =>qo P U all is (put ρ o.dst X) h' K
@[go_sem↓] theorem Om (all:List Oper) (is:List Nat) (K:Env→Heap→Prop) (op:Op):NStep P U all is ρ h K ⟨d,op,t,p,a,g⟩=aZ P U ρ h ⟨d,op,t,p,a,g⟩ fun X h' =>qo P U all is (put ρ d X) h' K:=rfl
@[go_sem↓] theorem QI (all:List Oper) (K:Env→Heap→Prop):qo P U all [] ρ h K=K ρ h:=rfl
@[go_sem↓] theorem Pp (all:List Oper) (i:Nat) (is:List Nat) (K:Env→Heap→Prop):qo P U all (i::is) ρ h K=aF all[i]? (NStep P U all is ρ h K):=by
 simp only [qo];cases all[i]? <;>rfl
@[go_sem↓] theorem TF (all:List Oper) (K:Env→Prop):kL P U n all [] ρ h K=K ρ:=rfl
@[go_sem↓] theorem Rl (all:List Oper) (op:Op) (os:List Oper) (K:Env→Prop):
  kL P U n all (⟨d,op,t,p,a,none⟩::os) ρ h K=(dL n d=true∧jt P U ρ h ⟨d,op,t,p,a,none⟩ (KDr P U n all os h K ρ d)):=rfl
def so (P:Program) (U:TypeId→TI) (n:Nat) (all os:List Oper) (ρ:Env) (h:Heap) (K:Env→Prop) (w:Bool) (d:Option Tmp) (op:Op) (t:TypeId) (p:String) (a:Array Edge) (g:Option (Nat×Bool)) (s:Nat) (x:AV):Prop:=
 gB s w ρ (fun ρ=>jt P U ρ h ⟨d,op,t,p,a,g⟩ (KDr P U n all os h K ρ d)) (fun ρ=>kL P U n all os (put ρ d (.v undef)) h K) x
section
variable {all os : List Oper} {K : Env → Prop} {op : Op} {s : Nat}
@[go_sem↓] theorem Nl:so P U n all os ρ h K false d op t p a g s (.v (.bool true))=kL P U n all os (put ((s, .v (.bool true))::ρ) d (.v undef)) h K:=by simp [so,gB,Br]
@[go_sem↓] theorem Nk:so P U n all os ρ h K false d op t p a g s (.v (.bool false))=jt P U ((s, .v (.bool false))::ρ) h ⟨d,op,t,p,a,g⟩ (KDr P U n all os h K ((s, .v (.bool false))::ρ) d):=by simp [so,gB,Br]
end
@[go_sem↓] theorem Qk (all:List Oper) (op:Op) (gi:Nat) (w:Bool) (os:List Oper) (K:Env→Prop):
  kL P U n all (⟨d,op,t,p,a,some (gi,w)⟩::os) ρ h K=(dL n d=true∧aF (nK all gi) fun s=>aF (lk ρ s) (so P U n all os ρ h K w d op t p a (some (gi,w)) s)):=by
 have:=kQ (ρ:=ρ) all gi w (fun ρ=>jt P U ρ h ⟨d,op,t,p,a,some (gi,w)⟩ (KDr P U n all os h K ρ d)) (fun ρ=>kL P U n all os (put ρ d (.v undef)) h K)
 show (dL n d=true∧fI all ρ (some (gi,w)) _ _)=_
 rw [show (fun s=>aF (lk ρ s) (so P U n all os ρ h K w d op t p a (some (gi,w)) s))=fun d_1=>aF (lk ρ d_1) fun x=>gB d_1 w ρ (fun ρ=>jt P U ρ h ⟨d,op,t,p,a,some (gi,w)⟩ (KDr P U n all os h K ρ d)) (fun ρ=>kL P U n all os (put ρ d (.v undef)) h K) x from rfl,←this]
 rfl
def FnD (P:Program) (f:FuncId) (args:List AV) (h:Heap) (k:AV→Prop):Prop:=∃X,ak P f args h (fun x h' =>x=X∧h' =h)∧k X
@[congr] theorem Nd {f f' :FuncId} {a a' :List AV} {h h' :Heap} (h0:f=f') (h1:a=a') (h2:h=h'):FnD P f a h k=FnD P f' a' h' k:=by rw [h0,h1,h2]
@[go_sem↓] theorem Qf (q:Operand) (args:List Operand) (ts:Array TypeId):jt P U ρ h ⟨d, .call ⟨.value q,args.toArray,ts⟩,t,p,a,g⟩ k=aF (ev ρ q) fun y=>fnA y fun f cap=>aF (evs ρ args) fun ys=>FnD P f (ys++cap) h k:=by
 simp only [jt,bR,gj]
 congr 1
def opD (P:Program) (U:TypeId→TI) (ρ:Env) (h:Heap) (d:Option Tmp) (op:Op) (t:TypeId) (p:String) (a:Array Edge) (g:Option (Nat×Bool)) (k:AV→Prop):Prop:=aZ P U ρ h ⟨d,op,t,p,a,g⟩ (Cy k)
@[go_sem↓] theorem RF (op:Op):opD P U ρ h d op t p a g k=aZ P U ρ h ⟨d,op,t,p,a,g⟩ (Cy k):=rfl
section
@[go_sem↓] theorem Qh (x:Operand):jt P U ρ h ⟨d, .move x,t,p,a,g⟩ k=opD P U ρ h d (.move x) t p a g k:=rfl
@[go_sem↓] theorem NL (x:Operand):jt P U ρ h ⟨d, .assign x,t,p,a,g⟩ k=opD P U ρ h d (.assign x) t p a g k:=rfl
@[go_sem↓] theorem Qi (x y z:Operand):jt P U ρ h ⟨d, .pick x y z,t,p,a,g⟩ k=opD P U ρ h d (.pick x y z) t p a g k:=rfl
@[go_sem↓] theorem KQ (x:Operand):jt P U ρ h ⟨d, .nilCheck x,t,p,a,g⟩ k=opD P U ρ h d (.nilCheck x) t p a g k:=rfl
theorem DT (op:BinOp) (ty ty' :TypeId) (x y:Operand) (hy:Da y=false):jt P U ρ h ⟨d, .binOp op ty x y ty',t,p,a,g⟩ k=opD P U ρ h d (.binOp op ty x y ty') t p a g k:=by
 simp only [jt,opD,aZ,hy];rfl
@[go_sem↓] theorem OI (op:BinOp) (ty ty' :TypeId) (x:Operand) (y:Tmp):jt P U ρ h ⟨d, .binOp op ty x (.tmp y) ty',t,p,a,g⟩ k=opD P U ρ h d (.binOp op ty x (.tmp y) ty') t p a g k:=DT _ _ _ _ _ rfl
@[go_sem↓] theorem L1 (op:BinOp) (ty ty' :TypeId) (x:Operand) (ik:IntKind) (im:Int):jt P U ρ h ⟨d, .binOp op ty x (.const (.int ik im)) ty',t,p,a,g⟩ k=opD P U ρ h d (.binOp op ty x (.const (.int ik im)) ty') t p a g k:=DT _ _ _ _ _ rfl
@[go_sem↓] theorem Qj (op:UnOp) (ty:TypeId) (x:Operand):jt P U ρ h ⟨d, .unOp op ty x,t,p,a,g⟩ k=opD P U ρ h d (.unOp op ty x) t p a g k:=rfl
@[go_sem↓] theorem L2 (s e:TypeId) (x:Operand):jt P U ρ h ⟨d, .convert s e x,t,p,a,g⟩ k=opD P U ρ h d (.convert s e x) t p a g k:=rfl
@[go_sem↓] theorem L3 (x:Operand) (i:Nat):jt P U ρ h ⟨d, .extract x i,t,p,a,g⟩ k=opD P U ρ h d (.extract x i) t p a g k:=rfl
@[go_sem↓] theorem OK (ty:TypeId) (x i:Operand):jt P U ρ h ⟨d, .index ty x i,t,p,a,g⟩ k=opD P U ρ h d (.index ty x i) t p a g k:=rfl
@[go_sem↓] theorem JI (ty:TypeId) (x:Operand) (f:Nat):jt P U ρ h ⟨d, .fieldAddr ty x f,t,p,a,g⟩ k=opD P U ρ h d (.fieldAddr ty x f) t p a g k:=rfl
@[go_sem↓] theorem JJ (ty:TypeId) (x i:Operand):jt P U ρ h ⟨d, .indexAddr ty x i,t,p,a,g⟩ k=opD P U ρ h d (.indexAddr ty x i) t p a g k:=rfl
@[go_sem↓] theorem Qg (ty:TypeId) (x:Operand):jt P U ρ h ⟨d, .load ty x,t,p,a,g⟩ k=opD P U ρ h d (.load ty x) t p a g k:=rfl
@[go_sem↓] theorem Ji (ty:TypeId) (len:Nat) (parts:Array (Nat×Operand)):jt P U ρ h ⟨d, .buildSlice ty len parts,t,p,a,g⟩ k=opD P U ρ h d (.buildSlice ty len parts) t p a g k:=rfl
@[go_sem↓] theorem OJ (ty:TypeId) (parts:Array (Nat×Operand)):jt P U ρ h ⟨d, .build ty parts,t,p,a,g⟩ k=opD P U ρ h d (.build ty parts) t p a g k:=rfl
@[go_sem↓] theorem Rk (x:Operand) (ty:TypeId):jt P U ρ h ⟨d, .call ⟨.builtin .len, #[x], #[ty]⟩,t,p,a,g⟩ k=opD P U ρ h d (.call ⟨.builtin .len, #[x], #[ty]⟩) t p a g k:=rfl
end
@[go_sem↓] theorem Km (e:TypeId) (id off len cap sz:Nat) (f:List AV→Prop):jq U e h (.ob id off len cap sz) f=(sz=(U e).sz∧aF (h id) fun b=>oS b fun cs _=>∃ys:List AV,ys.length=len∧off+len*sz≤cs.length∧aq ys=(cs.drop off).take (len*sz)∧f ys):=by
 simp only [jq]
 congr 1
 cases h id with
 |none=>rfl
 |some b=>cases b<;>rfl
@[go_sem] theorem Qe (xs:List AV) (q:Perm) (n:Nat):Cz (.sl xs q) n= .sl xs q:=rfl
@[go_sem] theorem Qd (i o l c s n:Nat):Cz (.ob i o l c s) n= .ob i o (min l n) c s:=rfl
def cpK (U:TypeId→TI) (h:Heap) (x y:AV) (Q:AV→Heap→Prop) (tk:TK):Prop:=match tk,x with
 | .slice e, .oa id off len=>(U e).sz=1∧jq U e h y fun ys=>Sized 1 ys∧(∀z∈ys,bA z=false)∧aF (h id) fun b=>oS b fun cs t=>
   ys.length≤len∧off+len≤cs.length∧Q (.v (.int .i64 ys.length)) (upd h id (some (.obj (over cs off ys) t)))
 | .slice e, .ob id off len _ sz=>(U e).sz≠0∧sz=(U e).sz∧jq U e h (Cz y len) fun ys=>Sized (U e).sz ys∧aF (h id) fun b=>oS b fun cs t=>
   ys.length≤len∧off+len*(U e).sz≤cs.length∧Q (.v (.int .i64 ys.length)) (upd h id (some (.obj (over cs off (aq ys)) t)))
 |_,_=>False
@[go_sem↓] theorem Ri (id off len cap sz:Nat) (y:AV) (e:TypeId):cpK U h (.ob id off len cap sz) y Q (.slice e)=((U e).sz≠0∧sz=(U e).sz∧jq U e h (Cz y len) fun ys=>Sized (U e).sz ys∧aF (h id) fun b=>oS b fun cs t=>
   ys.length≤len∧off+len*(U e).sz≤cs.length∧Q (.v (.int .i64 ys.length)) (upd h id (some (.obj (over cs off (aq ys)) t)))):=rfl
@[go_sem↓] theorem Ry (x y:Operand) (t1 t2:TypeId):aZ P U ρ h ⟨d, .call ⟨.builtin .copy, #[x,y], #[t1,t2]⟩,t,p,a,g⟩ Q=aF (ev ρ x) fun u=>aF (ev ρ y) fun v=>atK (U t1).k (cpK U h u v Q):=by
 simp only [aZ,bR,Aa,atK]
 congr 1
 funext u
 congr 1
 funext v
 cases (U t1).k with
 |slice e=>
  cases u with
  |oa id off len=>
   refine congrArg (fun f=>(U e).sz=1∧jq U e h v f) (funext fun ys=> ?_)
   refine congrArg (fun q=>Sized 1 ys∧(∀z∈ys,bA z=false)∧q) ?_
   cases h id with
   |none=>rfl
   |some b=>cases b<;>rfl
  |ob id off len cap sz=>
   refine congrArg (fun f=>(U e).sz≠0∧sz=(U e).sz∧jq U e h (Cz v len) f) (funext fun ys=> ?_)
   refine congrArg (fun q=>Sized (U e).sz ys∧q) ?_
   cases h id with
   |none=>rfl
   |some b=>cases b<;>rfl
  |_=>simp [cpK]
 |_=>simp [cpK]
end
section
variable {P : Program} {U : TypeId → TI} {n : Nat} {ρ : Env} {h h' : Heap} {tb : TypeId} {y : AV} {l : List UInt8}
@[go_sem] theorem Oz (c:UInt8):ct c= .v (.int .u8 c.toNat):=rfl
@[go_sem] theorem Nu (m:Nat):Sized m []=True:=by simp [Sized]
@[go_sem] theorem LM (m:Nat) (x:AV) (r:List AV):Sized m (x::r)=(x.cells.length=m∧Sized m r):=by simp [Sized]
theorem Sub.ai {id:Nat} {k:Option Blk} (hid:h id=Option.none):Sub h (Ab.upd h id k):=(Sub.refl h).new hid k
def Bytes (tb:TypeId) (h:Heap) (y:AV) (l:List UInt8):Prop:=
 (∃q,y= .sl (l.map ct) q)∨∃id off cs,y= .oa id off l.length∧h id=some (.obj cs tb)∧off+l.length≤cs.length∧(cs.drop off).take l.length=l.map ct
end
section
variable {P : Program} {U : TypeId → TI} {n : Nat} {ρ : Env} {h h' h2 : Heap} {e tb : TypeId} {y v : AV} {xs zs : List AV} {l : List UInt8} {Q : AV → Heap → Prop}
def lK (h h' :Heap):Prop:=∀j cs t,h j=some (.obj cs t)→h' j=some (.obj cs t)
theorem lK.refl (h:Heap):lK h h:=fun _ _ _ e=>e
theorem Sub.JZ (hs:Sub h h'):lK h h' :=fun _ _ _ e=>hs _ _ e
def Acc (U:TypeId→TI) (e:TypeId) (h h' :Heap) (y:AV) (xs:List AV):Prop:=
 Sub h h'∧(y= .sl xs .full∨∃id,h id=none∧y= .sl xs (.own id)∧h' id=some (.spare xs.length (U e).sz))
theorem Acc.full (hs:Sub h h'):Acc U e h h' (.sl xs .full) xs:=⟨hs, .inl rfl⟩
theorem Acc.sub (ha:Acc U e h h' y xs) (hs:Sub h' h2):Acc U e h h2 y xs:=by
 obtain ⟨h1,rfl|⟨id,i1,rfl,i2⟩⟩:=ha
 ·exact ⟨h1.trans hs, .inl rfl⟩
 ·exact ⟨h1.trans hs, .inr ⟨id,i1,rfl,hs _ _ i2⟩⟩
theorem Acc.row (ha:Acc U e h h' y xs):∃q,y= .sl xs q:=by
 obtain ⟨h1,rfl|⟨id,i1,rfl,i2⟩⟩:=ha<;>exact ⟨_,rfl⟩
theorem Acc.weak (ha:Acc U e h h' y xs):Weak y (.sl xs .no):=by
 obtain ⟨q,rfl⟩:=ha.row; exact .sl _ _
theorem Acc.len (ha:Acc U e h h' y xs) (t:TypeId) (k:AV→Prop):xy y k (.slice t)=k (.v (.int .i64 xs.length)):=by
 obtain ⟨q,rfl⟩:=ha.row; rfl
theorem Acc.app (ha:Acc U e h h' y xs) (hz:(U e).sz≠0) (hb:(U e).bytes≠0) (hsrc:∀k:List AV→Prop,k zs→jq U e h' v k) (s1:Sized (U e).sz xs) (s2:Sized (U e).sz zs)
  (hlen:(xs.length+zs.length)*(U e).bytes≤140737488355328) (hk:∀y' h'',Acc U e h h'' y' (xs++zs)→lK h' h''→Q y' h''):apK U h' y v Q (.slice e):=by
 have keep:∀id,(h' id=none∨∃m,h' id=some (.spare m (U e).sz))→∀k,lK h' (upd h' id k):=fun id hid k j cs t hj=>by
  rw [ag _ _ fun e=> ?_]
  ·exact hj
  ·subst e
   rcases hid with hid|⟨m,hid⟩<;>rw [hid] at hj<;>cases hj
 obtain ⟨h1,rfl|⟨id,i1,rfl,i2⟩⟩:=ha
 ·refine (vf ..).mpr ⟨hz,hb,hsrc _ ⟨s1,s2,hlen,fun hn=> ?_,fun hn=> .own fun id hid=> ?_⟩⟩
  ·subst hn
   have:=hk (.sl xs .full) h' (by rw [List.append_nil]; exact .full h1) (.refl _)
   exact this
  ·exact hk _ _ ⟨h1.new hid _, .inr ⟨id,h1.none hid,rfl,by rw [ah,V4]⟩⟩ (keep id (.inl hid) _)
 ·refine (JA ..).mpr ⟨hz,hb,hsrc _ ⟨s1,s2,hlen,i2, ?_⟩⟩
  have hs2:Sub h (upd h' id (some (.spare (xs.length+zs.length) (U e).sz))):=by
   intro j k hj;rw [ag _ _ fun e=> ?_]
   ·exact h1 _ _ hj
   ·subst e; rw [i1] at hj; cases hj
  exact hk _ _ ⟨hs2, .inr ⟨id,i1,rfl,by rw [ah,V4]⟩⟩ (keep id (.inr ⟨_,i2⟩) _)
def Rows (tb:TypeId) (h:Heap) (ys:List AV) (ls:List (List UInt8)):Prop:=ys.length=ls.length∧∀i (h1:i<ys.length) (h2:i<ls.length),Bytes tb h ys[i] ls[i]
end
section
variable {P : Program}
def cN:Heap:=fun _=>none
def cx0 (w:World):Cx:=⟨w,fun _=>⟨0,0,none⟩,cN⟩
theorem O6 (w:World):Good (cx0 w) where
 fin:=⟨0,fun _ _=>rfl⟩
 inj:=fun i j k l h=>by cases h
 obj:=fun id cs t h=>by cases h
 spare:=fun id n sz h=>by cases h
 mp:=fun id m h=>by cases h
 keys:=fun id m h=>by cases h
 ro:=fun id b vs h=>by cases h
theorem Il (w:World) (b o:Nat):¬owned (cx0 w) b o:=fun ⟨id,k,h,_⟩=>by cases h
theorem ak.calls {f:FuncId} {args:List AV} {b:Value} {vs:Array Value} {w:World} (hc:callable P f) (hf:ak P f args cN fun r _=>r= .v b) (hv:vs.size=args.length) (hr:∀i (hi:i<args.length),Rep (cx0 w) args[i] (vs.getD i undef)):
  Calls P f vs w fun e w' =>e= .returned b∧Go.RowKit.Below w.heap.size w w' :=by
 refine ((hf (cx0 w) vs (fun _ _ h=>by cases h) (O6 w) hv hr).calls hc).mono ?_
 rintro e w' ⟨u,rfl,c',x,h',rfl,g',hE,hx,hs,rfl⟩
 rw [hx.bS];exact ⟨rfl,hE.os,hE.tape,hE.output,hE.size,fun k hk=>hE.block k hk fun o=>Il w k o⟩
end
section
variable {P : Program} {f : FuncId} {args : List AV} {h : Heap} {Q : AV → Heap → Prop} {X : AV}
theorem ak.pthen (hf:ak P f args h fun r h' =>r=X∧h' =h) (k:Q X h):ak P f args h Q:=
 hf.mono fun r h' ⟨e1,e2⟩=>by subst e1; subst e2; exact k
def KV (K:AV→Prop) (x:AV):Prop:=K x
@[congr] theorem Ol {K:AV→Prop} {x x' :AV} (e:x=x'):KV K x=KV K x' :=by rw [e]
@[go_sem] theorem RV (K:AV→Prop) (x:AV):KV K x=K x:=rfl
section
variable {U : TypeId → TI} {ρ : Env} {K : AV → Prop}
@[go_sem↓high] theorem Ll (xs:List AV) (q:Perm) (lo:Operand) (e:TypeId):jn U ρ (.sl xs q) (some lo) none none K (.slice e)=((U e).sz≠0∧Sized (U e).sz xs∧aF (ev ρ lo) fun y=>HA y fun a=>0≤a∧a≤xs.length∧KV K (.sl (xs.drop a.toNat) (AB xs q true false))):=by
 rw [uj,jH];simp only [mI,Option.isSome_none,kG,KV]
 congr 2
 congr 1
 funext y
 congr 1
 funext a
 simp
end
attribute [go_sem] Int.toNat_natCast Int.toNat_zero
theorem vo {α β:Type} {f:β→α} {p:β→Prop}:∀(xs:List α),(∀x∈xs,∃b,x=f b∧p b)→∃bs:List β,xs=bs.map f∧∀b∈bs,p b
 | [],_=>⟨[],rfl,fun b h=>by cases h⟩
 |x::xs,h=>by
  obtain ⟨b,rfl,hb⟩:=h x (by simp)
  obtain ⟨bs,rfl,hbs⟩:=vo xs fun y hy=>h y (by simp [hy])
  exact ⟨b::bs,rfl,fun c hc=>by
   rcases List.mem_cons.1 hc with h1|h1
   ·rw [h1]; exact hb
   ·exact hbs c h1⟩
def iA (n:Int):AV:= .v (.int .i64 n)
theorem bx (n:Int) (h: -9223372036854775808≤n∧n≤9223372036854775807):IntKind.i64.wrap n=n:=IntWalk.i64_in _ (by omega)
theorem V6 (n:Nat) (h:-9223372036854775808≤(n:Int)+1∧(n:Int)+1≤9223372036854775807):IntKind.i64.wrap ((n:Int)+1)=((n+1:Nat):Int):=by rw [bx _ h]; omega
theorem V7 {a b:Nat} (h:decide ((a:Int)<(b:Int))=true):a<b:=Int.ofNat_lt.1 (_root_.of_decide_eq_true h)
end
section
variable {P : Program} {U : TypeId → TI}
inductive Dat (U:TypeId→TI):TypeId→AV→Prop
 |bool {t:TypeId} (b:Bool) (h:(U t).k= .bool):Dat U t (.v (.bool b))
 |int {t:TypeId} {k:IntKind} (n:Int) (h:(U t).k= .int k) (hw:(Lit.int k n).wf=true):Dat U t (.v (.int k n))
 |str {t:TypeId} (l:List UInt8) (h:(U t).k= .str) (hl:l.length≤maxLen):Dat U t (.s l)
 |slice {t e:TypeId} (xs:List AV) (h:(U t).k= .slice e) (hx:∀x∈xs,Dat U e x) (hl:xs.length≤maxLen):Dat U t (.sl xs .no)
 |strct {t:TypeId} {fs:List (Nat×TypeId)} (ys:List AV) (h:(U t).k= .strct fs) (hn:ys.length=fs.length) (hx:∀i (h1:i<fs.length) (h2:i<ys.length),Dat U fs[i].2 ys[i]):Dat U t (.agg (ys.map AV.cells).flatten)
theorem Dat.GQ {t:TypeId} {x:AV} (h:Dat U t x) (hk:(U t).k= .bool):∃b,x= .v (.bool b):=by
 cases h with
 |bool b h=>exact ⟨b,rfl⟩
 |_=>simp_all
theorem Dat.JT {t:TypeId} {x:AV} {k:IntKind} (h:Dat U t x) (hk:(U t).k= .int k):∃n,x= .v (.int k n)∧(Lit.int k n).wf=true:=by
 cases h with
 |int n h hw=>rw [hk] at h; cases h; exact ⟨n,rfl,hw⟩
 |_=>simp_all
theorem Dat.nC {t:TypeId} {x:AV} (h:Dat U t x) (hk:(U t).k= .str):∃l,x= .s l∧l.length≤maxLen:=by
 cases h with
 |str l h hl=>exact ⟨l,rfl,hl⟩
 |_=>simp_all
theorem Dat.F0 {t e:TypeId} {x:AV} (h:Dat U t x) (hk:(U t).k= .slice e):∃xs,x= .sl xs .no∧xs.length≤maxLen∧∀y∈xs,Dat U e y:=by
 cases h with
 |slice xs h hx hl=>rw [hk] at h; cases h; exact ⟨xs,rfl,hl,hx⟩
 |_=>simp_all
def uZ (U:TypeId→TI):List TypeId→List AV→Prop
 | [],ys=>ys= []
 |t::ts,ys=>∃y r,ys=y::r∧Dat U t y∧uZ U ts r
theorem x8:∀(fs:List (Nat×TypeId)) (ys:List AV),ys.length=fs.length→(∀i (h1:i<fs.length) (h2:i<ys.length),Dat U fs[i].2 ys[i])→uZ U (fs.map (·.2)) ys
 | [],ys,h,_=>List.length_eq_zero_iff.1 h
 |f::fs,[],h,_=>by cases h
 |f::fs,y::ys,h,hx=>⟨y,ys,rfl,hx 0 (by simp) (by simp),x8 fs ys (by simpa using h) fun i h1 h2=>hx (i+1) (by simpa using h1) (by simpa using h2)⟩
theorem Dat.yS {t:TypeId} {x:AV} {fs:List (Nat×TypeId)} (h:Dat U t x) (hk:(U t).k= .strct fs):∃ys,x= .agg (ys.map AV.cells).flatten∧uZ U (fs.map (·.2)) ys:=by
 cases h with
 |strct ys h hn hx=>rw [hk] at h; cases h; exact ⟨ys,rfl,x8 _ _ hn hx⟩
 |_=>simp_all
theorem RU {n:Int} (h:(Lit.int .i64 n).wf=true): -9223372036854775808≤n∧n≤9223372036854775807:=by
 simpa [Lit.wf,IntKind.min,IntKind.max,IntKind.signed,IntKind.bits] using h
theorem Dat.i64 {t:TypeId} {x:AV} (h:Dat U t x) (hk:(U t).k= .int .i64):∃n,x=iA n∧ -9223372036854775808≤n∧n≤9223372036854775807:=by
 obtain ⟨n,rfl,hw⟩:=h.JT hk;exact ⟨n,rfl,RU hw⟩
theorem Dat.list {t e:TypeId} {x:AV} {β:Type} {f:β→AV} {p:β→Prop} (h:Dat U t x) (hk:(U t).k= .slice e) (he:∀y,Dat U e y→∃b,y=f b∧p b):∃bs:List β,x= .sl (bs.map f) .no∧bs.length≤maxLen∧∀b∈bs,p b:=by
 obtain ⟨xs,rfl,hl,hx⟩:=h.F0 hk;obtain ⟨bs,rfl,hb⟩:=vo xs fun y hy=>he y (hx y hy)
 exact ⟨bs,rfl,by simpa using hl,hb⟩
def RL (c:Cx):List AV→List Value→Prop
 | [],vs=>vs= []
 |x::xs,[]=>False
 |x::xs,v::vs=>(Rep c x v∧v.oneCell' =true)∧RL c xs vs
theorem RL.len {c:Cx}:∀ {xs:List AV} {vs:List Value},RL c xs vs→xs.length=vs.length
 | [],vs,h=>by rw [h]; rfl
 |x::xs,[],h=>h.elim
 |x::xs,v::vs,h=>by simp [RL.len h.2]
theorem RL.get {c:Cx}:∀ {xs:List AV} {vs:List Value},RL c xs vs→∀i (h:i<xs.length),Rep c xs[i] (vs.getD i undef)∧(vs.getD i undef).oneCell' =true
 | [],vs,h,i,hi=>by cases hi
 |x::xs,[],h,i,hi=>h.elim
 |x::xs,v::vs,h,0,hi=>h.1
 |x::xs,v::vs,h,i+1,hi=>by simpa using RL.get h.2 i (by simpa using hi)
theorem RL.append {c:Cx}:∀ {xs ys:List AV} {vs us:List Value},RL c xs vs→RL c ys us→RL c (xs++ys) (vs++us)
 | [],ys,vs,us,h,k=>by rw [h]; exact k
 |x::xs,ys,[],us,h,k=>h.elim
 |x::xs,ys,v::vs,us,h,k=>⟨h.1,RL.append h.2 k⟩
theorem RL.one {c:Cx} {x:AV} {v:Value} (h:Rep c x v) (h1:v.oneCell' =true):RL c [x] [v]:=⟨⟨h,h1⟩,rfl⟩
def B7 (U:TypeId→TI) (n:Nat):List (Nat×TypeId)→Nat→Bool
 | [],o=>o==n
 |f::fs,o=>f.1==o && B7 U n fs (o+(U f.2).sz)
def Dg (U:TypeId→TI) (L:List TypeId):Bool:=L.all fun t=>(U t).sz !=0 && match (U t).k with
 | .bool| .int _| .str=>(U t).sz==1
 | .slice e=>(U t).sz==1 && L.contains e
 | .strct fs=>fs.all (fun f=>L.contains f.2) && B7 U (U t).sz fs 0
 |_=>false
theorem qu (hU:∀t,aN P U t) {t:TypeId} (hz:(U t).sz≠0):P.cellsOf t=(U t).sz:=by
 obtain ⟨i,h1,h2,_⟩:=(hU t).info hz;simp [Program.cellsOf,h1,h2]
variable {H : Type} {enc : TypeId × Value → H} {w : World}
theorem Ip (hU:∀t,aN P U t) {L:List TypeId} {m:Nat} {sp:Nat→Bool} {held:Bool} (n:Nat) (cs:List Value) (hn:cs.length=n)
  (ih:∀(t:TypeId) (cs:List Value) r,t∈L→DataW.trod enc P w 0 sp held m t cs=some r→∃x,Dat U t x∧RL (cx0 w) x.cells cs) (hz:∀t∈L,(U t).sz≠0):
  ∀(fs:List (Nat×TypeId)) (gs:List Field) (o:Nat),gs.map (fun f=>(f.offset,f.type))=fs→(∀f∈fs,f.2∈L)→B7 U n fs o=true→
   (∀f∈gs,∃r,DataW.trod enc P w 0 sp held m f.type ((cs.drop f.offset).take (P.cellsOf f.type))=some r)→
   ∃ys:List AV,ys.length=fs.length∧(∀i (h1:i<fs.length) (h2:i<ys.length),Dat U fs[i].2 ys[i])∧RL (cx0 w) (ys.map AV.cells).flatten (cs.drop o):=by
 intro fs
 induction fs with
 |nil=>
  intro gs o hg hL ht hr;refine ⟨[],rfl,fun i h1=>(by cases h1), ?_⟩
  have:o=n:=by simpa [B7] using ht
  show cs.drop o= []
  rw [this,←hn]; simp
 |cons f fs ihf=>
  intro gs o hg hL ht hr;cases gs with
  |nil=>cases hg
  |cons g gs=>
   simp only [List.map_cons,List.cons.injEq] at hg;obtain ⟨hg1,hg2⟩:=hg;simp only [B7,Bool.and_eq_true,beq_iff_eq] at ht;obtain ⟨ht1,ht2⟩:=ht;have hfL:=hL f (by simp)
   obtain ⟨ys,y1,y2,y3⟩:=ihf gs (o+(U f.2).sz) hg2 (fun f' hf' =>hL f' (by simp [hf'])) ht2 (fun g' hg' =>hr g' (by simp [hg']))
   obtain ⟨r,hr0⟩:=hr g (by simp)
   have e1:g.type=f.2:=by rw [←hg1]
   have e2:g.offset=o:=by rw [←ht1,←hg1]
   rw [e1,e2,qu hU (hz _ hfL)] at hr0;obtain ⟨x,x1,x2⟩:=ih _ _ _ hfL hr0;refine ⟨x::ys,by simp [y1],fun i h1 h2=> ?_, ?_⟩
   ·cases i with
    |zero=>exact x1
    |succ i=>exact y2 i (by simpa using h1) (by simpa using h2)
   ·have:cs.drop o=(cs.drop o).take (U f.2).sz++cs.drop (o+(U f.2).sz):=by
     rw [←List.drop_drop,List.take_append_drop]
    rw [this];exact x2.append y3
theorem AH (hU:∀t,aN P U t) (L:List TypeId) (hL:Dg U L=true) {sp:Nat→Bool} {held:Bool} (hsp:∀b,sp b=true):
  ∀(fuel:Nat) (t:TypeId) (cs:List Value) (r:DataW H×List MemPlace),t∈L→DataW.trod enc P w 0 sp held fuel t cs=some r→∃x,Dat U t x∧RL (cx0 w) x.cells cs:=by
 have hall:∀t∈L,(U t).sz≠0:=fun t ht=>by
  have:=List.all_eq_true.1 hL t ht;simp only [Bool.and_eq_true,bne_iff_ne] at this;exact this.1
 intro fuel
 induction fuel with
 |zero=>intro t cs r _ h; simp [DataW.trod] at h
 |succ m ih=>
  intro t cs r ht h;have hp:=List.all_eq_true.1 hL t ht;simp only [Bool.and_eq_true,bne_iff_ne] at hp;obtain ⟨hz,hp⟩:=hp;have hd:=(hU t).desc;unfold DataW.trod at h;cases hk:(U t).k with
  |bool=>
   rw [hk] at hd;simp only at hd;rw [hd] at h;split at h<;>simp_all
   rename_i b
   exact ⟨_, .bool b hk, .one (.v _) rfl⟩
  |int k=>
   rw [hk] at hd;simp only at hd;rw [hd] at h;split at h<;>simp_all
   obtain ⟨⟨rfl,hw⟩,_⟩:=h;exact ⟨_, .int _ hk hw, .one (.v _) rfl⟩
  |str=>
   rw [hk] at hd;simp only at hd;rw [hd] at h;split at h<;>simp_all
   rename_i s
   refine ⟨_, .str s.data.toList hk (by simpa using h.1), .one ?_ rfl⟩
   have:=Rep.s (c:=cx0 w) s.data.toList (by have:=h.1; unfold maxLen at this; simp only [lim]; simp; omega)
   simpa using this
  |slice e=>
   rw [hk] at hd hp;simp only at hd;simp only [Bool.and_eq_true] at hp;have he:e∈L:=by simpa using hp.2
   have hez:=hall e he;rw [hd] at h;split at h<;>try (simp_all; done)
   ·rename_i e' heq
    refine ⟨_, .slice [] hk (fun x hx=>by cases hx) (by simp), .one ?_ rfl⟩
    exact .sl [] .no none 0 0 (fun _ _=>undef) (Nat.le_refl _) (by decide) (fun _=>rfl) (fun q h _=>by cases h) (fun i h=>by cases h) (fun q h=>by cases h) (fun i h=>by cases h) (fun i j h=>by cases h) trivial
   ·rename_i e' a len cap heq
    obtain rfl:e=e' :=by simpa using heq
    split at h
    ·rename_i hc
     obtain ⟨hc1,hc2,hc3⟩:=hc;simp only [hsp,if_true] at h;obtain ⟨els,hels,h⟩:=Option.bind_eq_some_iff.1 h;obtain ⟨⟨rst,hrst,_⟩⟩:Nonempty {rst // (List.range (cap - len)).mapM (fun j=>((w.cells? 0 (a.add ((len+j)*P.cellsOf e)) (P.cellsOf e)).bind (DataW.trod enc P w 0 sp held m e)))=some rst∧True}:=by
      cases hq:(List.range (cap - len)).mapM (fun j=>((w.cells? 0 (a.add ((len+j)*P.cellsOf e)) (P.cellsOf e)).bind (DataW.trod enc P w 0 sp held m e))) with
      |none=>rw [hq] at h; simp at h
      |some rst=>exact ⟨⟨rst,rfl,trivial⟩⟩
     rw [qu hU hez] at hels hrst;have cell:∀j,j<(U e).sz→∀(b:Addr) vs,w.cells? 0 b (U e).sz=some vs→w.cell? (b.add j)=vs[j]?∧vs.length=(U e).sz:=fun j hj b vs hb=>by
      simp only [World.cells?,Nat.zero_le,if_true] at hb;have:=mapM_some_get hb j j (by simp [hj])
      exact ⟨this,by simpa using mapM_some_length hb⟩
     have el:∀i,i<len→∃vs x,w.cells? 0 (a.add (i*(U e).sz)) (U e).sz=some vs∧Dat U e x∧RL (cx0 w) x.cells vs:=fun i hi=>by
      have:=mapM_some_get hels i i (by simp [hi])
      have hi2:i<els.length:=by have:=mapM_some_length hels; simp at this; omega
      rw [List.getElem?_eq_getElem hi2] at this;obtain ⟨vs,v1,v2⟩:=Option.bind_eq_some_iff.1 this;obtain ⟨x,x1,x2⟩:=ih _ _ _ he v2;exact ⟨vs,x,v1,x1,x2⟩
     have hspot:0<cap→a.spot=none∧a.block<w.heap.size:=fun hcap=>by
      have:∃b vs,w.cells? 0 b (U e).sz=some vs∧b.spot=a.spot∧b.block=a.block:=by
       by_cases hl:0<len
       ·obtain ⟨vs,x,v1,_⟩:=el 0 hl
        have a0:a.add (0*(U e).sz)=a:=by simp [Addr.add]
        exact ⟨_,vs,v1,by rw [a0],by rw [a0]⟩
       ·have:=mapM_some_get hrst 0 0 (by rw [List.getElem?_eq_getElem (by simp; omega)]; simp)
        have hi2:0<rst.length:=by have:=mapM_some_length hrst; simp at this; omega
        rw [List.getElem?_eq_getElem hi2] at this;obtain ⟨vs,v1,v2⟩:=Option.bind_eq_some_iff.1 this;have a0:a.add ((len+0)*(U e).sz)=a:=by
         obtain rfl:len=0:=by omega
         simp [Addr.add]
        exact ⟨_,vs,v1,by rw [a0],by rw [a0]⟩
      obtain ⟨b,vs,b1,b2,b3⟩:=this;obtain ⟨c1,c2⟩:=cell 0 (by omega) b vs b1
      rw [List.getElem?_eq_getElem (by omega)] at c1
      rw [←b2,←b3];unfold World.cell? at c1;split at c1
      ·rename_i hh
       split at c1
       ·cases c1
       ·rename_i hs
        refine ⟨?_, ?_⟩
        ·have:(b.add 0).spot=b.spot:=by simp [Addr.add]
         rw [this] at hs;cases hb:b.spot with
         |none=>rfl
         |some z=>rw [hb] at hs; simp at hs
        ·exact (Array.getElem?_eq_some_iff.1 hh).1
      ·cases c1
     have:∀n,n≤len→∃xs:List AV,xs.length=n∧∀i (hi:i<xs.length),Dat U e xs[i]∧∃vs,w.cells? 0 (a.add (i*(U e).sz)) (U e).sz=some vs∧RL (cx0 w) xs[i].cells vs:=by
      intro n
      induction n with
      |zero=>exact fun _=>⟨[],rfl,fun i hi=>by cases hi⟩
      |succ n ihn=>
       intro hn;obtain ⟨xs,e1,e2⟩:=ihn (by omega)
       obtain ⟨vs,x,v1,v2,v3⟩:=el n (by omega)
       refine ⟨xs++ [x],by simp [e1],fun i hi=> ?_⟩
       by_cases hi' :i<xs.length
       ·rw [List.getElem_append_left hi']
        exact e2 i hi'
       ·have:i=n:=by simp at hi; omega
        subst this;rw [List.getElem_append_right (by omega)]
        simp only [e1,Nat.sub_self,List.getElem_singleton];exact ⟨v2,vs,v1,v3⟩
     obtain ⟨xs,e1,e2⟩:=this len (Nat.le_refl _);subst e1;refine ⟨.sl xs .no, .slice xs hk (fun x hx=> ?_) (by omega), .one ?_ rfl⟩
     ·obtain ⟨i,hi,rfl⟩:=List.mem_iff_getElem.1 hx
      exact (e2 i hi).1
     ·refine .sl xs .no (some a) cap (U e).sz (fun i j=>((w.cells? 0 (a.add (i*(U e).sz)) (U e).sz).getD []).getD j undef) hc2 (by unfold maxLen at hc3; simp only [lim]; omega) (fun hh=>by cases hh) (fun q hq hcap=>by cases hq; exact hspot hcap)
       (fun i hi=> ?_) (fun q hq i j hi hj=> ?_) (fun i hi j hj=> ?_) (fun i j hi hj=> ?_) trivial
      ·obtain ⟨_,vs,v1,v2⟩:=e2 i hi
       rw [v2.len]; exact (cell 0 (by omega) _ _ v1).2
      ·cases hq
       obtain ⟨_,vs,v1,v2⟩:=e2 i hi;refine ⟨?_,Il w _ _⟩;obtain ⟨c1,c2⟩:=cell j hj _ _ v1;rw [v1];obtain ⟨hs1,_⟩:=hspot (by omega)
       obtain ⟨ab,ao,az⟩:=a;simp only at hs1; subst hs1
       rw [cA,cA] at c1;simp only [Option.getD_some];have hj2:j<vs.length:=by omega
       rw [show vs.getD j undef=vs[j] by simp [hj2]]
       rw [List.getElem?_eq_getElem hj2,Nat.add_assoc] at c1;exact c1
      ·obtain ⟨_,vs,v1,v2⟩:=e2 i hi
       rw [v1];exact (v2.get j hj).1
      ·obtain ⟨_,vs,v1,v2⟩:=e2 i hi
       rw [v1];have:=(cell 0 (by omega) _ _ v1).2
       exact (v2.get j (by rw [v2.len]; omega)).2
    ·cases h
  |strct fs=>
   rw [hk] at hd hp;simp only at hd;simp only [Bool.and_eq_true] at hp;obtain ⟨gs,hd,hg,_⟩:=hd;rw [hd] at h;have hq:cs.length=P.cellsOf t∧∃xs,(gs.toList.mapM fun f=>DataW.trod enc P w 0 sp held m f.type ((cs.drop f.offset).take (P.cellsOf f.type)))=some xs:=by
    split at h<;>try (simp_all; done)
    rename_i fs' heq
    obtain rfl:gs=fs' :=by simpa using heq
    split at h
    ·rename_i hl
     obtain ⟨xs,h1,_⟩:=Option.map_eq_some_iff.1 h;exact ⟨hl,xs,h1⟩
    ·cases h
   obtain ⟨hl,xs,hxs⟩:=hq;rw [qu hU hz] at hl;obtain ⟨ys,y1,y2,y3⟩:=Ip hU (U t).sz cs hl ih hall fs gs.toList 0 hg (fun f hf=>by have:=List.all_eq_true.1 hp.1 f hf; simpa using this) hp.2 (fun f hf=>by
    obtain ⟨i,hi,rfl⟩:=List.mem_iff_getElem.1 hf;have hi2:i<xs.length:=by have:=mapM_some_length hxs; omega
    have:=mapM_some_get hxs i _ (List.getElem?_eq_getElem hi);rw [List.getElem?_eq_getElem hi2] at this;exact ⟨_,this⟩)
   exact ⟨_, .strct ys hk y1 y2,y3⟩
  |_=>rw [hk] at hp; simp at hp
theorem vt (hU:∀t,aN P U t) (L:List TypeId) (hL:Dg U L=true) {sp:Nat→Bool} {held:Bool} (hsp:∀b,sp b=true) {t:TypeId} {v:Value} {d:DataW H} {p:List MemPlace} (ht:t∈L) {base:Nat} {rc:Reach}
  (hv:Value.okWide P w rc base t v) (h:DataW.Trod enc P w 0 sp held t v d p):∃x,Dat U t x∧Rep (cx0 w) x v:=by
 obtain ⟨fuel,h⟩:=h;obtain ⟨x,x1,x2⟩:=AH hU L hL hsp fuel t _ _ ht h;refine ⟨x,x1, ?_⟩;have hd:=(hU t).desc;cases x1 with
 |strct ys hk hn hx=>
  rw [hk] at hd;obtain ⟨gs,hd,_⟩:=hd;unfold Value.okWide at hv;rw [hd] at hv;obtain ⟨cs,rfl,_⟩:=hv;have hl:=x2.len;simp only [AV.cells,Value.cells] at hl x2;refine .agg _ _ (by simpa using hl.symm) (fun i hi=> ?_) (fun i hi=> ?_)
  ·have:=(x2.get i hi).1
   simpa using this
  ·have:=(x2.get i hi).2
   simpa using this
 |bool b hk=>
  cases v<;>first|exact x2.1.1|skip
  rename_i cs
  rw [hk] at hd;unfold Value.okWide at hv;rw [hd] at hv;simp [Cell.okWide,Cell.ok,hd] at hv
 |int n hk hw=>
  cases v<;>first|exact x2.1.1|skip
  rename_i cs
  rw [hk] at hd;unfold Value.okWide at hv;rw [hd] at hv;simp [Cell.okWide,Cell.ok,hd] at hv
 |str l hk hl=>
  cases v<;>first|exact x2.1.1|skip
  rename_i cs
  rw [hk] at hd;unfold Value.okWide at hv;rw [hd] at hv;simp [Cell.okWide,Cell.ok,hd] at hv
 |slice xs hk hx hl=>
  cases v<;>first|exact x2.1.1|skip
  rename_i cs
  rw [hk] at hd;unfold Value.okWide at hv;rw [hd] at hv;simp [Cell.okWide,Cell.ok,hd] at hv
end
section
variable {P : Program} {U : TypeId → TI} {n : Nat} {ρ : Env} {h h' h2 : Heap} {e tb : TypeId} {y v : AV} {xs zs : List AV} {l : List UInt8} {Q : AV → Heap → Prop}
def hm1 (id:Nat) (k:Blk):Heap:=upd (fun _=>none) id (some k)
@[go_sem] theorem fJ (id:Nat) (k:Blk):hm1 id k id=some k:=ah ..
theorem Sub.hm1 {id:Nat} {k:Blk} (h1:h id=some k):Sub (hm1 id k) h:=fun j b hj=>by
 unfold Ab.hm1 at hj
 by_cases e:j=id
 ·subst e; rw [ah] at hj; rw [h1,hj]
 ·rw [ag _ _ e] at hj; cases hj
theorem lK.new {id:Nat} {k:Option Blk} (hid:h id=none):lK h (upd h id k):=((Sub.refl h).new hid k).JZ
theorem nH.accs {h0:Heap} (hs:Sub h0 h) (hk:∀y' h'',Acc U e h0 h'' y' (xs++zs)→lK h h''→Q y' h''):nH U h xs zs e Q:=
 .own fun id hid=>hk _ _ ⟨hs.new hid _, .inr ⟨id,hs.none hid,rfl,by rw [ah,V4]⟩⟩ (.new hid)
end
section
variable {P : Program} {U : TypeId → TI} {n : Nat} {ρ : Env} {h h' : Heap} {tb : TypeId} {y : AV} {l : List UInt8}
end
theorem w8 (n:Nat):IntKind.u8.wrap (n:Int)=(UInt8.ofNat n).toNat:=by
 rw [UInt8.toNat_ofNat'];simp [IntKind.wrap,IntKind.signed,IntKind.bits]
section
variable {U : TypeId → TI} {ty : TypeId} {K : AV → Prop}
end
section
variable {P : Program} {U : TypeId → TI} {n : Nat} {ρ : Env} {h0 h h' : Heap} {tb : TypeId} {y v : AV} {l m : List UInt8} {Q : AV → Heap → Prop}
end
section
variable {U : TypeId → TI} {ty : TypeId} {K : AV → Prop}
end
section
variable {P : Program} {U : TypeId → TI} {n : Nat} {ρ : Env} {h : Heap}
section
variable (all : List Oper) (bs : List Bool) (r : List Oper) (K : Env → Heap → Prop)
end
theorem ak.of_wp {f:FuncId} {fn:Func} {c:Code} {args:List AV} {Q:AV→Heap→Prop} (hU:∀t,aN P U t) (hf:P.funcs[f]? =some fn) (hb:fn.body=some c)
  (hn : (fn.name == "runtime.NumGoroutine") = false) (m : Nat) (hm' : fn.ntmps = m) (rs : List ResultVar) (hr : fn.results.toList = rs) (hl : args.length ≤ m)
  (hk:WP P m c (vA args) h (tD U rs Q)):ak P f args h Q:=by
 subst hm'; subst hr
 exact ak.Ib hU hf hb hn hl fun _=>hk
end
section
variable {P : Program} {U : TypeId → TI} {n : Nat} {ρ : Env} {h : Heap}
def KCut (I:Env→Heap→Prop) (K:Exit→Env→Heap→Prop):Exit→Env→Heap→Prop:=KSeq I K
theorem WP.cut {c d:Code} {K:Exit→Env→Heap→Prop} (I:Env→Heap→Prop) (hc:WP P n c ρ h (KCut I K)) (hd:∀ρ h,I ρ h→WP P n d ρ h K):WP P n (.seq c d) ρ h K:=
 WP.seq (hc.weaken fun e ρ h hk=>by
  cases e with
  |normal=>exact hd ρ h hk
  |_=>exact hk)
theorem WP.vc (hU:∀t,aN P U t) (hm:P.follows .mixedOrders=true) {c:Code} {K:Exit→Env→Heap→Prop} (hk:bF P U n c ρ h K):WP P n c ρ h K:=dj hU hm c ρ h K hk
def KNext (P:Program) (n:Nat) (d:Code) (K:Exit→Env→Heap→Prop):Exit→Env→Heap→Prop:=KSeq (WP P n d · · K) K
@[go_sem↓] theorem Jq (d:Code) (K:Exit→Env→Heap→Prop):KNext P n d K .normal ρ h=WP P n d ρ h K:=rfl
@[go_sem↓] theorem No (d:Code) (K:Exit→Env→Heap→Prop):KNext P n d K .ret ρ h=K .ret ρ h:=rfl
@[go_sem↓] theorem LC (d:Code) (K:Exit→Env→Heap→Prop) (i:Nat):KNext P n d K (.goto i) ρ h=K (.goto i) ρ h:=rfl
theorem WP.one (hU:∀t,aN P U t) (hm:P.follows .mixedOrders=true) {c d:Code} {K:Exit→Env→Heap→Prop} (hk:bF P U n c ρ h (KNext P n d K)):WP P n (.seq c d) ρ h K:=WP.seq (dj hU hm c ρ h _ hk)
end
section
variable {P : Program} {U : TypeId → TI} {n : Nat} {ρ : Env} {h : Heap}
variable {d : Option Tmp} {t : TypeId} {p : String} {a : Array Edge} {g : Option (Nat × Bool)} {Q : AV → Heap → Prop} {k : AV → Prop}
@[go_sem] theorem P7 (x y:TypeId) (k:TK→Prop):atK (.map x y) k=k (.map x y):=rfl
@[go_sem] theorem OF (i:Nat):AV.cells (.mp i)= [.mp i]:=rfl
@[go_sem] theorem Ro (i m:Nat):fit (.mp i) m=(m=1):=rfl
@[go_sem] theorem QD (l:List UInt8):fZ .str (.s l)=(l.length≤maxLen):=rfl
def mpL (b:Blk) (f:List (AV×AV)→Prop):Prop:=match b with
 | .mp m=>f m
 |_=>False
@[congr] theorem N1 {b b' :Blk} {f:List (AV×AV)→Prop} (e:b=b'):mpL b f=mpL b' f:=by rw [e]
@[go_sem↓] theorem Rw (m:List (AV×AV)) (f:List (AV×AV)→Prop):mpL (.mp m) f=f m:=rfl
def xT (tk:TK) (m:List (AV×AV)):Prop:=∀p∈m,fZ tk p.1
def GA (ti:TI):Prop:=ti.sz≠0∨ti.k= .strct []
def Bm (U:TypeId→TI) (h:Heap) (u v:AV) (ok:Bool) (k:AV→Prop) (tk:TK):Prop:=match tk,u with
 | .map kt e, .mp id=>fZ (U kt).k v∧GA (U e)∧aF (h id) fun b=>mpL b fun m=>xT (U kt).k m∧k (v8 U e m v ok)
 |_,_=>False
@[congr] theorem K1 {u u' v v' :AV} {ok:Bool} {k:AV→Prop} {tk:TK} (h1:u=u') (h2:v=v'):Bm U h u v ok k tk=Bm U h u' v' ok k tk:=by rw [h1,h2]
@[go_sem↓] theorem Pk (kt e:TypeId) (id:Nat) (v:AV) (ok:Bool):Bm U h (.mp id) v ok k (.map kt e)=(fZ (U kt).k v∧GA (U e)∧aF (h id) fun b=>mpL b fun m=>xT (U kt).k m∧k (v8 U e m v ok)):=rfl
@[go_sem↓] theorem Pv (mt:TypeId) (x y:Operand) (ok:Bool):aZ P U ρ h ⟨d, .lookup mt x y ok,t,p,a,g⟩ Q=aF (ev ρ x) fun u=>aF (ev ρ y) fun v=>atK (U mt).k (Bm U h u v ok (atH Q h)):=by
 simp only [aZ,pv,bR,atK]
 congr 1
 funext u
 congr 1
 funext v
 cases (U mt).k with
 |map kt e=>
  cases u with
  |mp id=>
   simp only [Bm]
   congr 2
   cases h id with
   |none=>rfl
   |some b=>cases b<;>rfl
  |_=>rfl
 |_=>rfl
def Ix (U:TypeId→TI) (h:Heap) (u v w:AV) (Q:AV→Heap→Prop) (tk:TK):Prop:=match tk,u with
 | .map kt e, .mp id=>fZ (U kt).k v∧aF (h id) fun b=>mpL b fun m=>xT (U kt).k m∧Q (.v undef) (upd h id (some (.mp (xH m v w))))
 |_,_=>False
@[congr] theorem MJ {u u' v v' w w' :AV} {tk:TK} (h1:u=u') (h2:v=v') (h3:w=w'):Ix U h u v w Q tk=Ix U h u' v' w' Q tk:=by rw [h1,h2,h3]
@[go_sem↓] theorem QU (kt e:TypeId) (id:Nat) (v w:AV):Ix U h (.mp id) v w Q (.map kt e)=(fZ (U kt).k v∧aF (h id) fun b=>mpL b fun m=>xT (U kt).k m∧Q (.v undef) (upd h id (some (.mp (xH m v w))))):=rfl
@[go_sem↓] theorem Lb (mt:TypeId) (x y z:Operand):aZ P U ρ h ⟨d, .mapUpdate mt x y z,t,p,a,g⟩ Q=aF (ev ρ x) fun u=>aF (ev ρ y) fun v=>aF (ev ρ z) fun w=>atK (U mt).k (Ix U h u v w Q):=by
 simp only [aZ,bR,atK]
 congr 1
 funext u
 congr 1
 funext v
 congr 1
 funext w
 cases (U mt).k with
 |map kt e=>
  cases u with
  |mp id=>
   simp only [Ix]
   congr 1
   cases h id with
   |none=>rfl
   |some b=>cases b<;>rfl
  |_=>rfl
 |_=>rfl
def On (h:Heap) (Q:AV→Heap→Prop):Prop:=∀id,h id=none→Q (.mp id) (upd h id (some (.mp [])))
@[go_sem↓] theorem Ob (mt:TypeId):aZ P U ρ h ⟨d, .makeMap mt none,t,p,a,g⟩ Q=On h Q:=by
 simp only [aZ,Es,true_and]; rfl
end
def xG (ls:List (List UInt8)):List (AV×AV):=ls.map fun l=>(.s l, .agg [])
theorem A0 (ls:List (List UInt8)) (l:List UInt8):getM (xG ls) (.s l)=if l∈ls then some (.agg []) else none:=by
 induction ls with
 |nil=>rfl
 |cons x ls ih=>
  simp only [getM,xG,List.map_cons,List.find?_cons,pW] at ih⊢
  by_cases e:x=l
  ·subst e; simp
  ·have:(x==l)=false:=by simpa using e
   rw [this];simp only;rw [ih];simp [Ne.symm e]
theorem IQ {ls:List (List UInt8)} {l:List UInt8} (hn:l∉ls):xH (xG ls) (.s l) (.agg [])=xG (ls++ [l]):=by
 unfold xH;rw [A0,if_neg hn];simp [xG]
theorem FE (U:TypeId→TI) (e:TypeId) (he:(U e).sz=0) (ls:List (List UInt8)) (l:List UInt8):v8 U e (xG ls) (.s l) true= .tup [.agg [], .v (.bool (decide (l∈ls)))]:=by
 simp only [v8,A0,zh,he,if_true]
 by_cases h:l∈ls
 ·simp [h]
 ·simp [h]
theorem FC {ls:List (List UInt8)} (h:∀l∈ls,l.length≤maxLen):xT .str (xG ls):=fun p hp=>by
 obtain ⟨l,hl,rfl⟩:=List.mem_map.1 hp;exact h l hl
section
variable {P : Program} {f : FuncId} {args : List AV} {h h' : Heap} {Q : AV → Heap → Prop}
theorem Ext.below {c:Cx} {w' :World} (hb:Go.RowKit.Below c.w.heap.size c.w w'):Ext c {c with w:=w'} where
 os:=hb.os
 tape:=hb.tape
 output:=hb.output
 size:=hb.size
 block:=fun b h _=>hb.block b h
 cell:=fun b o h _=>by
  show w'.cell? _=_
  simp only [World.cell?,hb.block b h]
 shape:=fun b cs t fr h=>⟨cs,fr,(hb.block b (cg h)).trans h,rfl⟩
 steal:=fun _ _ _ h=>h
 obj:=fun _ cs _ h=>⟨rfl,cs,h,rfl⟩
 spare:=fun _ n _ h=>⟨n,h, .inl ⟨rfl,rfl⟩⟩
 mp:=fun _ m h=>⟨rfl,m,h⟩
 ro:=fun _ _ _ h=>⟨rfl,h⟩
theorem Good.below {c:Cx} (g:Good c) {w' :World} (hb:Go.RowKit.Below c.w.heap.size c.w w'):Good {c with w:=w'} where
 fin:=g.fin
 inj:=g.inj
 obj:=fun id cs t h=>by
  obtain ⟨vs,a1,a2,a3⟩:=g.obj id cs t h;exact ⟨vs,(hb.block _ (cg a1)).trans a1,a2,fun j hj=>⟨(a3 j hj).1.mono (.below hb),(a3 j hj).2⟩⟩
 spare:=fun id n sz h=>by
  obtain ⟨a0,vs,t,fr,a1,a2⟩:=g.spare id n sz h;exact ⟨a0,vs,t,fr,(hb.block _ (cg a1)).trans a1,a2⟩
 mp:=fun id m h=>by
  obtain ⟨es,cl,a1,a2,a3⟩:=g.mp id m h;exact ⟨es,cl,(hb.block _ (cg a1)).trans a1,a2,fun i hi hi' =>⟨(a3 i hi hi').1,(a3 i hi hi').2.mono (.below hb)⟩⟩
 keys:=g.keys
 ro:=fun id b vs h=>g.l5 (.below hb) h
theorem ak.lib {X:AV} (hc:callable P f) (hf:∀c (vs:Array Value),Sub h c.h→Good c→vs.size=args.length→(∀i (hi:i<args.length),Rep c args[i] (vs.getD i undef))→
  Calls P f vs c.w fun e w' =>(∃u,e= .returned u∧∀c',Ext c c'→Rep c' X u)∧Go.RowKit.Below c.w.heap.size c.w w'):ak P f args h fun r h' =>r=X∧h' =h:=by
 refine fun c vs hs g h1 h2=> .inl ⟨hc,(hf c vs hs g h1 h2).mono ?_⟩
 rintro e w' ⟨⟨u,rfl,hu⟩,hb⟩
 exact ⟨u,rfl,{c with w:=w'},X,h,rfl,g.below hb, .below hb,hu _ (.below hb),hs,rfl,rfl⟩
def Tab (h:Heap) (b:Nat) (vs:List Value):Prop:=∃id,h id=some (.ro b vs)
theorem Tab.sub {b:Nat} {vs:List Value} (ht:Tab h b vs) (hs:Sub h h'):Tab h' b vs:=let ⟨id,hi⟩:=ht; ⟨id,hs _ _ hi⟩
end
def uG (ts:List (Nat×List Value)):Heap:=fun i=>(ts[i]?).map fun p=> .ro p.1 p.2
def cxT (w:World) (ts:List (Nat×List Value)):Cx:=⟨w,fun i=>⟨((ts[i]?).map (·.1)).getD 0,0,none⟩,uG ts⟩
theorem Im (w:World) (ts:List (Nat×List Value)) (b o:Nat):¬owned (cxT w ts) b o:=by
 rintro ⟨id,k,h,_,h3⟩
 simp only [cxT,uG,Option.map_eq_some_iff] at h;obtain ⟨p,_,rfl⟩:=h;exact h3
theorem O7 (w:World) (ts:List (Nat×List Value)) (hd:ts.Pairwise fun p q=>p.1≠q.1) (ht:∀p∈ts,∃(t:TypeId) (fr:Nat×Nat),w.heap[p.1]? =some (.cells p.2.toArray t fr)):Good (cxT w ts) where
 fin:=⟨ts.length,fun id h=>by simp [cxT,uG,List.getElem?_eq_none h]⟩
 inj:=fun i j k l h1 h2 hne=>by
  simp only [cxT,uG,Option.map_eq_some_iff] at h1 h2;obtain ⟨p,hp,rfl⟩:=h1;obtain ⟨q,hq,rfl⟩:=h2;simp only [cxT,hp,hq,Option.map_some,Option.getD_some];obtain ⟨hi,rfl⟩:=List.getElem?_eq_some_iff.1 hp;obtain ⟨hj,rfl⟩:=List.getElem?_eq_some_iff.1 hq;rw [List.pairwise_iff_getElem] at hd;rcases Nat.lt_or_gt_of_ne hne with h|h
  ·exact hd i j hi hj h
  ·exact fun e=>hd j i hj hi h e.symm
 obj:=fun id cs t h=>by
  simp only [cxT,uG,Option.map_eq_some_iff] at h;obtain ⟨p,_,h⟩:=h; cases h
 spare:=fun id n sz h=>by
  simp only [cxT,uG,Option.map_eq_some_iff] at h;obtain ⟨p,_,h⟩:=h; cases h
 mp:=fun id m h=>by
  simp only [cxT,uG,Option.map_eq_some_iff] at h;obtain ⟨p,_,h⟩:=h; cases h
 keys:=fun id m h=>by
  simp only [cxT,uG,Option.map_eq_some_iff] at h;obtain ⟨p,_,h⟩:=h; cases h
 ro:=fun id b vs h=>by
  simp only [cxT,uG,Option.map_eq_some_iff] at h;obtain ⟨p,hp,h⟩:=h;cases h;refine ⟨by simp [cxT,hp],ht p (List.mem_of_getElem? hp)⟩
theorem ak.LX {P:Program} {f:FuncId} {args:List AV} {b:Value} {vs:Array Value} {w:World} {ts:List (Nat×List Value)} (hc:callable P f) (hf:ak P f args (uG ts) fun r _=>r= .v b) (hd:ts.Pairwise fun p q=>p.1≠q.1)
  (ht:∀p∈ts,∃(t:TypeId) (fr:Nat×Nat),w.heap[p.1]? =some (.cells p.2.toArray t fr)) (hv:vs.size=args.length) (hr:∀i (hi:i<args.length),Rep (cx0 w) args[i] (vs.getD i undef)):
  Calls P f vs w fun e w' =>e= .returned b∧Go.RowKit.Below w.heap.size w w' :=by
 have hE:Ext (cx0 w) (cxT w ts):=⟨rfl,rfl,rfl,Nat.le_refl _,fun _ _ _=>rfl,fun _ _ _ _=>rfl,fun _ cs _ fr h=>⟨cs,fr,h,rfl⟩,fun b o _ h=>(Im w ts b o h).elim,
  fun _ _ _ h=>(by cases h),fun _ _ _ h=>(by cases h),fun _ _ h=>(by cases h),fun _ _ _ h=>(by cases h)⟩
 refine ((hf (cxT w ts) vs (fun _ _ h=>h) (O7 w ts hd ht) hv fun i hi=>(hr i hi).mono hE).calls hc).mono ?_
 rintro e w' ⟨u,rfl,c',x,h',rfl,g',hE,hx,hs,rfl⟩
 rw [hx.bS];exact ⟨rfl,hE.os,hE.tape,hE.output,hE.size,fun k hk=>hE.block k hk fun o=>Im w ts k o⟩
mutual
def strip:AV→AV
 | .sl xs _=> .sl (fl xs) .no
 | .agg xs=> .agg (fl xs)
 | .tup xs=> .tup (fl xs)
 | .v x=> .v x
 | .s l=> .s l
 | .pe x o=> .pe x o
 | .ptr i o=> .ptr i o
 | .oa i o l=> .oa i o l
 | .ifc t x=> .ifc t x
 | .fn f c=> .fn f c
 | .mp i=> .mp i
 | .ob i o l c s=> .ob i o l c s
def fl:List AV→List AV
 | []=> []
 |x::r=>strip x::fl r
end
theorem eP:∀xs:List AV,(fl xs).length=xs.length
 | []=>rfl
 |x::r=>by simp [fl,eP r]
theorem fX:∀(xs:List AV) (i:Nat) (h1:i<xs.length) (h2:i<(fl xs).length),(fl xs)[i]=strip xs[i]
 |x::r,0,h1,h2=>by simp [fl]
 |x::r,i+1,h1,h2=>by simpa [fl] using fX r i (by simpa using h1) (by simpa [fl] using h2)
theorem um (x:AV):(strip x).cells=match x with| .agg xs=>fl xs|_=> [strip x]:=by
 cases x<;>simp [strip,AV.cells]
mutual
theorem eY:∀x:AV,Weak x (strip x)
 | .sl xs p=> .deep _ _ p (eP xs).symm (fun i h1 h2=>by
    rw [fX xs i h1 h2,um];have:=l9 xs i h1;cases hx:xs[i]<;>simp [AV.cells,eP])
   (fun i h1 h2 j h3 h4=>by
    have hw:=l9 xs i h1;have e:=fX xs i h1 h2;exact hw (fl xs)[i] e j h3 h4)
 | .agg xs=> .agg _ _ (eP xs).symm fun i h1 h2=>by rw [fX xs i h1 h2]; exact kn xs i h1
 | .tup xs=> .tup _ _ (eP xs).symm fun i h1 h2=>by rw [fX xs i h1 h2]; exact kn xs i h1
 | .v x=> .refl _
 | .s l=> .refl _
 | .pe x o=> .refl _
 | .ptr i o=> .refl _
 | .oa i o l=> .refl _
 | .ifc t x=> .refl _
 | .fn f c=> .refl _
 | .mp i=> .refl _
 | .ob i o l c s=> .refl _
theorem kn:∀(xs:List AV) (i:Nat) (h:i<xs.length),Weak xs[i] (strip xs[i])
 |x::r,0,h=>eY x
 |x::r,i+1,h=>kn r i (by simpa using h)
theorem l9:∀(xs:List AV) (i:Nat) (h:i<xs.length) (y:AV),y=strip xs[i]→∀(j:Nat) (h3:j<xs[i].cells.length) (h4:j<y.cells.length),Weak xs[i].cells[j] y.cells[j]
 |x::r,0,h,y,e,j,h3,h4=>DE x y e j h3 h4
 |x::r,i+1,h,y,e,j,h3,h4=>l9 r i (by simpa using h) y e j h3 h4
theorem DE:∀(x y:AV),y=strip x→∀(j:Nat) (h3:j<x.cells.length) (h4:j<y.cells.length),Weak x.cells[j] y.cells[j]
 | .agg xs,y,e,j,h3,h4=>by
  subst e;simp only [strip,AV.cells] at h4⊢;rw [fX xs j h3 h4];exact kn xs j h3
 | .sl xs p,y,e,j,h3,h4=>by
  subst e;simp only [strip,AV.cells,List.length_singleton] at h3 h4⊢;obtain rfl:j=0:=by omega
  exact .deep _ _ p (eP xs).symm (fun i h1 h2=>by
    rw [fX xs i h1 h2,um];cases hx:xs[i]<;>simp [AV.cells,eP])
   (fun i h1 h2 j h3 h4=>l9 xs i h1 _ (fX xs i h1 h2) j h3 h4)
 | .tup xs,y,e,j,h3,h4=>by
  subst e;simp only [strip,AV.cells,List.length_singleton] at h3 h4⊢;obtain rfl:j=0:=by omega
  exact .tup _ _ (eP xs).symm fun i h1 h2=>by rw [fX xs i h1 h2]; exact kn xs i h1
 | .v x,y,e,j,h3,h4=>by subst e; exact .refl _
 | .s l,y,e,j,h3,h4=>by subst e; exact .refl _
 | .pe x o,y,e,j,h3,h4=>by subst e; exact .refl _
 | .ptr i o,y,e,j,h3,h4=>by subst e; exact .refl _
 | .oa i o l,y,e,j,h3,h4=>by subst e; exact .refl _
 | .ifc t x,y,e,j,h3,h4=>by subst e; exact .refl _
 | .fn f c,y,e,j,h3,h4=>by subst e; exact .refl _
 | .mp i,y,e,j,h3,h4=>by subst e; exact .refl _
 | .ob i o l c s,y,e,j,h3,h4=>by subst e; exact .refl _
end
section
variable {P : Program} {U : TypeId → TI} {n : Nat} {ρ : Env} {h0 h h' : Heap} {tb : TypeId} {y v : AV} {xs zs : List AV} {Q : AV → Heap → Prop} {f : FuncId} {args : List AV}
def One (xs:List AV):Prop:=∀x∈xs,bA x=false
theorem mA {x:AV} (h:bA x=false):x.cells= [x]:=by cases x<;>first|rfl|(cases h)
theorem One.sized (h:One xs):Sized 1 xs:=fun z hz=>by rw [mA (h z hz)]; rfl
theorem One.map {α:Type} {g:α→AV} (hg:∀a,bA (g a)=false) (l:List α):One (l.map g):=fun x hx=>by
 obtain ⟨a,_,rfl⟩:=List.mem_map.1 hx;exact hg a
def Ck (tb:TypeId) (h:Heap) (y:AV) (xs:List AV):Prop:=
 (∃q,y= .sl xs q)∨∃id off cs,y= .oa id off xs.length∧h id=some (.obj cs tb)∧off+xs.length≤cs.length∧(cs.drop off).take xs.length=xs
theorem Ck.sl (xs:List AV) (q:Perm):Ck tb h (.sl xs q) xs:= .inl ⟨q,rfl⟩
theorem Ck.len (hb:Ck tb h y xs) (e:TypeId) (k:AV→Prop):xy y k (.slice e)=k (.v (.int .i64 xs.length)):=by
 rcases hb with ⟨q,rfl⟩|⟨id,off,cs,rfl,_⟩<;>rfl
def AtP (U:TypeId→TI) (tb:TypeId) (h:Heap) (p x:AV):Prop:=∀k:AV→Prop,oO U h tb p k=k x
theorem Ck.idx (hb:Ck tb h y xs) (ho:One xs) {m:Int} {x:IntKind} {K:AV→Prop} (j:Nat) (hm:m=j) (hj:j<xs.length) (hz:(U tb).sz=1) (ha:(U tb).k.agg=false)
  (hk:∀p,AtP U tb h p xs[j]→K p):oF U y (.v (.int x m)) K (.slice tb):=by
 subst hm;have h1:=ho xs[j] (V5 hj);rcases hb with ⟨q,rfl⟩|⟨id,off,cs,rfl,g1,g2,g3⟩
 ·refine (yo ..).mpr ⟨by rw [hz]; decide, ?_⟩
  refine fj.at j hj (by rw [hz,mA h1]; rfl) ?_
  refine hk _ fun k=> ?_
  simp only [oO,LS,ha,hz,mA h1,h1,List.length_cons,List.length_nil,Nat.zero_add,and_self,if_true]
 ·refine (Fu ..).mpr ⟨by rw [hz]; decide,by omega,by omega, ?_⟩
  refine hk _ fun k=> ?_
  have e1:cs[off+j]? =some xs[j]:=by
   have:=congrArg (fun q=>q[j]?) g3
   simp only [List.getElem?_take,hj,if_true,List.getElem?_drop,List.getElem?_eq_getElem hj] at this;exact this
  simp only [oO,g1,fA,Ke,hz,Nat.mul_one,Int.toNat_natCast,Io,ha,Br,e1];simp
def WrA (tb:TypeId) (h0 h:Heap) (y:AV) (xs:List AV):Prop:=
 Sub h0 h∧((xs= []∧y= .sl [] .full)∨∃id cs,h0 id=none∧y= .oa id 0 xs.length∧h id=some (.obj cs tb)∧xs.length≤cs.length∧cs.take xs.length=xs)
theorem WrA.nil (hs:Sub h0 h):WrA tb h0 h (.sl [] .full) []:=⟨hs, .inl ⟨rfl,rfl⟩⟩
theorem WrA.seq (hw:WrA tb h0 h y xs):Ck tb h y xs:=by
 obtain ⟨_,⟨rfl,rfl⟩|⟨id,cs,_,rfl,h1,h2,h3⟩⟩:=hw
 ·exact .sl _ _
 ·exact .inr ⟨id,0,cs,rfl,h1,by omega,by simpa using h3⟩
theorem WrA.sub (hw:WrA tb h0 h y xs) (hs:Sub h h'):WrA tb h0 h' y xs:=by
 obtain ⟨h1,hw|⟨id,cs,a,e,b,c,d⟩⟩:=hw
 ·exact ⟨h1.trans hs, .inl hw⟩
 ·exact ⟨h1.trans hs, .inr ⟨id,cs,a,e,hs _ _ b,c,d⟩⟩
theorem WrA.base (hw:WrA tb h0 h y xs) {id:Nat} (hid:h id=none) (b:Option Blk):WrA tb (upd h0 id b) (upd h id b) y xs:=by
 obtain ⟨h1,hw⟩:=hw;have h2:Sub (upd h0 id b) (upd h id b):=fun j k hj=>by
  by_cases e:j=id
  ·subst e; rw [ah] at hj⊢; exact hj
  ·rw [ag _ _ e] at hj⊢; exact h1 _ _ hj
 rcases hw with hw|⟨i,cs,a,e,c,d⟩
 ·exact ⟨h2, .inl hw⟩
 ·have hne:i≠id:=fun hh=>by subst hh; rw [hid] at c; cases c
  exact ⟨h2, .inr ⟨i,cs,by rw [ag _ _ hne]; exact a,e,by rw [ag _ _ hne]; exact c,d⟩⟩
theorem WrA.less (hw:WrA tb h' h y xs) (hs:Sub h0 h'):WrA tb h0 h y xs:=by
 obtain ⟨h1,hw|⟨i,cs,a,e,c,d⟩⟩:=hw
 ·exact ⟨hs.trans h1, .inl hw⟩
 ·exact ⟨hs.trans h1, .inr ⟨i,cs,hs.none a,e,c,d⟩⟩
theorem WrA.len (hw:WrA tb h0 h y xs) (e:TypeId) (k:AV→Prop):xy y k (.slice e)=k (.v (.int .i64 xs.length)):=hw.seq.len e k
theorem WrA.idx (hb:WrA tb h0 h y xs) (ho:One xs) {m:Int} {x:IntKind} {K:AV→Prop} (j:Nat) (hm:m=j) (hj:j<xs.length) (hz:(U tb).sz=1) (ha:(U tb).k.agg=false)
  (hk:∀p,AtP U tb h p xs[j]→K p):oF U y (.v (.int x m)) K (.slice tb):=hb.seq.idx ho j hm hj hz ha hk
theorem WrA.cut (hw:WrA tb h0 h y xs) {hi:Operand} {m:Int} {x:IntKind} {K:AV→Prop} (j:Nat) (hm:ev ρ hi=some (.v (.int x m))) (hj:m=j) (hl:j≤xs.length) (hz:(U tb).sz=1)
  (hk:∀z,WrA tb h0 h z (xs.take j)→K z):jn U ρ y none (some hi) none K (.slice tb):=by
 subst hj;have hs:=hw.1;obtain ⟨_,⟨rfl,rfl⟩|⟨id,cs,h1,rfl,h2,h3,h4⟩⟩:=hw
 ·rw [uh,jH,hm]
  refine ⟨by rw [hz]; decide, ?_⟩
  simp only [fA,pM,Option.isSome_some,pH,Int.toNat_natCast];have:j=0:=by simpa using hl
  subst this;refine ⟨by omega,by simp, ?_⟩
  exact hk _ (.nil hs)
 ·rw [FZ]
  refine ⟨by rw [hz]; decide,fun _=>hz, ?_⟩
  simp only [mI,jH,hm,fA,pM];refine ⟨by omega,by omega,by omega, ?_⟩
  simp only [Int.toNat_natCast,hz,Nat.mul_one];have e:(xs.take j).length=j:=by simp; omega
  have:=hk (.oa id 0 (xs.take j).length) ⟨hs, .inr ⟨id,cs,h1,rfl,h2,by omega,by rw [e,←h4,List.take_take,Nat.min_eq_left hl]⟩⟩
  rw [e] at this;simpa using this
theorem WrA.app (hw:WrA tb h0 h y xs) (ho:One xs) (hoz:One zs) (hz:(U tb).sz=1) (hb:(U tb).bytes≠0) (hf:fit (U tb).zero 1) (hn:bA (U tb).zero=false) (hsrc:∀k:List AV→Prop,k zs→jq U tb h v k)
  (hlen:(xs.length+zs.length)*(U tb).bytes≤140737488355328) (hk:∀y' h',WrA tb h0 h' y' (xs++zs)→Q y' h'):apK U h y v Q (.slice tb):=by
 have hs:=hw.1;have one:Sized (U tb).sz zs:=by rw [hz]; exact hoz.sized
 obtain ⟨_,⟨rfl,rfl⟩|⟨id,cs,h1,rfl,h2,h3,h4⟩⟩:=hw
 ·refine (vf ..).mpr ⟨by rw [hz]; decide,hb,hsrc _ ⟨by simp [Sized],one,by simpa using hlen,fun hn' => ?_,fun hn' => ?_⟩⟩
  ·subst hn'
   exact hk _ _ (.nil hs)
  ·refine .oa hz hf hn hoz fun id k hid=> ?_
   refine hk _ _ ⟨hs.new hid _, .inr ⟨id,_,hs.none hid, ?_,ah .., ?_, ?_⟩⟩
   ·simp
   ·simp
   ·simp [List.take_append_of_le_length]
 ·refine ⟨by rw [hz]; decide,hb,hz,hsrc _ ⟨by rw [←hz]; exact one,hoz,by simpa using hlen, ?_⟩⟩
  rw [h2];refine ⟨by omega, ?_,hf,hn,fun hle=> ?_,fun id' k hid=> ?_⟩
  ·rw [List.drop_zero,h4]; exact ho
  ·have hsub:Sub h0 (upd h id (some (.obj (over cs (0+xs.length) zs) tb))):=fun j b hj=>by
    by_cases e:j=id
    ·subst e; rw [h1] at hj; cases hj
    ·rw [ag _ _ e]; exact hs _ _ hj
   have ho' :(over cs (0+xs.length) zs).length=cs.length:=gK (by omega)
   refine hk _ _ ⟨hsub, .inr ⟨id,_,h1,by rw [V4],ah ..,by rw [ho',V4]; omega, ?_⟩⟩
   rw [over,Nat.zero_add,h4,V4,List.take_append_of_le_length (by simp)]
   exact List.take_of_length_le (by simp)
  ·refine hk _ _ ⟨hs.new hid _, .inr ⟨id',_,hs.none hid,by rw [V4],ah .., ?_, ?_⟩⟩
   ·rw [List.drop_zero,h4]; simp
   ·rw [List.drop_zero,h4,List.take_append_of_le_length (by simp)]
    exact List.take_of_length_le (by simp)
end
end Go.Ab
namespace Go.Bf
open Go Go.Ab
abbrev Txt:=List UInt8
structure nU where
 cat:Int
 name:Txt
 must:Bool
structure bX where
 kind:Int
 n:Int
 s:Txt
structure bN where
 attr:nU
 op:Int
 val:bX
structure aO where
 op:Int
 val:bX
 attr:nU
structure cw where
 on:Int
 kind:Int
 arg:Txt
abbrev fP:=List (List (List bN))
structure cO where
 id:Txt
 deny:Bool
 tgt:fP
 cond:List aO
 obls:List cw
inductive bG where
 |mk (id:Txt) (set:Bool) (alg:Int) (tgt:fP) (rules:List cO) (kids:List bG) (obls:List cw)
def Aq (a:nU):AV:= .agg [.v (.int .i64 a.cat), .s a.name, .v (.bool a.must)]
def aU (v:bX):AV:= .agg [.v (.int .i64 v.kind), .v (.int .i64 v.n), .s v.s]
def dD (m:bN):AV:= .agg [.v (.int .i64 m.attr.cat), .s m.attr.name, .v (.bool m.attr.must), .v (.int .i64 m.op), .v (.int .i64 m.val.kind), .v (.int .i64 m.val.n), .s m.val.s]
def cZ (m:aO):AV:= .agg [.v (.int .i64 m.op), .v (.int .i64 m.val.kind), .v (.int .i64 m.val.n), .s m.val.s, .v (.int .i64 m.attr.cat), .s m.attr.name, .v (.bool m.attr.must)]
def iX (b:Bool):AV:= .v (.bool b)
def bf (o:cw):AV:= .agg [.v (.int .i64 o.on), .v (.int .i64 o.kind), .s o.arg]
def gR (l:List bN):AV:= .sl (l.map dD) .no
def cH (l:List (List bN)):AV:= .sl (l.map gR) .no
def aT (t:fP):AV:= .sl (t.map cH) .no
def eV (l:List aO):AV:= .sl (l.map cZ) .no
def au (l:List cw):AV:= .sl (l.map bf) .no
def aB (r:cO):AV:= .agg [.s r.id, .v (.bool r.deny),aT r.tgt,eV r.cond,au r.obls]
mutual
def aK:bG→AV
 | .mk id set alg tgt rules kids obls=> .agg [.s id, .v (.bool set), .v (.int .i64 alg),aT tgt, .sl (rules.map aB) .no, .sl (fh kids) .no,au obls]
def fh:List bG→List AV
 | []=> []
 |k::r=>aK k::fh r
end
theorem aV:∀l:List bG,fh l=l.map aK
 | []=>rfl
 |k::r=>by simp [fh,aV r]
def ltr (c:UInt8):Bool:=decide (97≤(c.toNat:Int)) && decide ((c.toNat:Int)≤122)
def dgt (c:UInt8):Bool:=decide (48≤(c.toNat:Int)) && decide ((c.toNat:Int)≤57)
def qT (c:UInt8) (i:Nat):Bool:=ltr c||(decide (i≠0) && (dgt c||(c.toNat:Int)==95))
def tF (l:Txt):Bool:=l.zipIdx.all fun p=>qT p.1 p.2
def bu (l:Txt):Bool:=tF l && decide (1≤l.length) && decide (l.length≤16)
def nY (a:nU):Bool:=decide (1≤a.cat) && decide (a.cat≤4) && bu a.name
def cc (v:bX):Bool:=
 if v.kind=1 then (v.n==0||v.n==1) && v.s== []
 else if v.kind=2 then v.s== []
 else if v.kind=3 then v.n==0 && decide (v.s.length≤64)
 else if v.kind=4 then decide (0≤v.n) && decide (v.n≤1099511627776) && v.s== []
 else if v.kind=5 then v.n==0 && bu v.s
 else false
def jO (m:bN):Bool:=nY m.attr && decide (1≤m.op) && decide (m.op≤3) && cc m.val
def jx (n:Nat):Int:=if n=0 then 1 else if n>8 then 6 else 0
def gD {α:Type} (f:α→Int):List α→Int
 | []=>0
 |x::r=>if f x=0 then gD f r else f x
def ux (l:List bN):Int:=if jx l.length=0 then (if l.all jO then 0 else 1) else jx l.length
def uz (l:List (List bN)):Int:=if jx l.length=0 then gD ux l else jx l.length
def j9 (t:fP):Int:=if t.length>8 then 6 else gD uz t
def gO (op:Int):Option (List Bool):=
 if op=1∨op=2 then some []
 else if op=3∨op=4 then some [true]
 else if op=5 then some [true,false]
 else if op=11 then some [false]
 else if 6≤op∧op≤13 then some [false,false]
 else none
def zeroV (v:bX):Bool:=v.kind==0 && (v.n==0 && v.s== [])
def zeroAt (a:nU):Bool:=a.cat==0 && (a.name== [] && a.must==false)
def je (n:aO):Bool:=
 if n.op=1 then cc n.val && zeroAt n.attr
 else if n.op=2 then nY n.attr && zeroV n.val
 else zeroV n.val && zeroAt n.attr
def gN (st:List Bool) (n:aO):Option (List Bool):=match gO n.op with
 |none=>none
 |some w=>if je n=true∧w.length≤st.length∧st.drop (st.length - w.length)=w then some (st.take (st.length - w.length)++ [n.op==2]) else none
def fk (st:List Bool):List aO→Option (List Bool)
 | []=>some st
 |n::r=>match gN st n with
  |none=>none
  |some st' =>fk st' r
def jw (l:List aO):Int:=if l.length>32 then 6 else match fk [] l with
 |none=>1
 |some st=>if l= []∨st= [false] then 0 else 1
def oT (o:cw):Bool:=decide (1≤o.on) && decide (o.on≤2) && decide (1≤o.kind) && decide (o.kind≤4) && bu o.arg
def gH (l:List cw):Int:=if l.length>8 then 6 else if l.all oT then 0 else 1
structure dQ where
 met:List Txt
 rules:Nat
inductive Went where
 |bad (e:Int)
 |ok (m:dQ)
def iE (m:dQ) (s:Txt):Option dQ:=if s∉m.met∧bu s=true then some ⟨m.met++ [s],m.rules⟩ else none
def Went.err:Went→Int
 | .bad e=>e
 | .ok _=>0
def need (e:Int) (w:Went):Went:=if e=0 then w else .bad e
def fT (m:dQ) (r:cO):Went:=match iE m r.id with
 |none=> .bad 1
 |some m=>if m.rules+1>64 then .bad 6 else need (j9 r.tgt) (need (jw r.cond) (need (gH r.obls) (.ok ⟨m.met,m.rules+1⟩)))
def eD (m:dQ):List cO→Went
 | []=> .ok m
 |r::l=>match fT m r with
  | .bad e=> .bad e
  | .ok m=>eD m l
def eO (m:dQ) (id:Txt) (set:Bool) (alg:Int) (tgt:fP) (nr nk:Nat) (obls:List cw):Went:=match iE m id with
 |none=> .bad 1
 |some m=>if alg<1∨alg>6 then .bad 1
  else if set=true∧nr>0∨set=false∧(nk>0∨alg=4) then .bad 1
  else need (j9 tgt) (need (gH obls) (if nr>16∨nk>16 then .bad 6 else .ok m))
mutual
def jI (m:dQ) (d:Nat):bG→Went
 | .mk id set alg tgt rules kids obls=>
  if d>4 then .bad 6 else match eO m id set alg tgt rules.length kids.length obls with
  | .bad e=> .bad e
  | .ok m=>match eD m rules with
   | .bad e=> .bad e
   | .ok m=>gG m (d+1) kids
def gG (m:dQ) (d:Nat):List bG→Went
 | []=> .ok m
 |k::r=>match jI m d k with
  | .bad e=> .bad e
  | .ok m=>gG m d r
end
def fW (p:bG):Int:=(jI ⟨[],0⟩ 1 p).err
def O8 (n:Nat):UInt8:=if n<10 then UInt8.ofNat (48+n) else UInt8.ofNat (87+n)
def Dc (c:UInt8):Bool:=decide ((c.toNat:Int)<32)||decide (126<(c.toNat:Int))||(c.toNat:Int)==34||(c.toNat:Int)==92
def MK (c:UInt8):Txt:=if Dc c then [92,O8 (c.toNat / 16),O8 (c.toNat % 16)] else [c]
def ML (l:Txt):Txt:= [34]++(l.map MK).flatten++ [34]
def mK (v:bX):Txt:=
 if v.kind=1 then Lib.formatBool (v.n==1) else if v.kind=4 then [64]++Lib.itoa v.n else if v.kind=5 then [35]++v.s else if v.kind=3 then ML v.s else Lib.itoa v.n
end Go.Bf
