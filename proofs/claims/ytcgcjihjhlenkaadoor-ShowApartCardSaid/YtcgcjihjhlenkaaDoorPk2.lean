/- The law ShowApart: pack 2 of its texts. -/
import Derived.ScopeJumps
import Derived.Below
import Derived.OpenShut
import Derived.Test.YtcgcjihjhlenkaaDoorProg
import Derived.KernelRfl
import Derived.Test.YtcgcjihjhlenkaaDoorPk1
set_option linter.unusedSimpArgs false
set_option linter.unusedVariables false
namespace Go.Ab
open Go
section
variable {P : Program} {U : TypeId → TI} {ops : Array Oper} {md : Region.Mode} {h : Heap}
def putF (F:EF):Option Tmp→AV→EF
 |some d,x=>upd F d (some x)
 |none,_=>F
theorem lk_put (ρ) (d) (x):lk (put ρ d x)=putF (lk ρ) d x:=by
 cases d with
 |none=>rfl
 |some d=>
  funext t
  simp only [put,lk,putF,upd]
  grind
def wantedF (ops:Array Oper) (F:EF) (o:Oper):Option Bool:=
 match o.guard with
 |none=>some true
 |some (g,want)=>match (ops[g]?).bind (·.dst) with
  |some d=>match F d with
   |some (.v (.bool t))=>some (t==want)
   |some (.v (.tuple _))=>some false
   |_=>none
  |none=>none
def dStep (P:Program) (ops:Array Oper) (h:Heap) (o:Oper) (K:EF→Prop) (F:EF):Prop:=
 (wantedF ops F o=some true∧∃X,DOK P o F h X∧K (putF F o.dst X))∨(wantedF ops F o=some false∧K (putF F o.dst (.v undef)))
def dOp (P:Program) (ops:Array Oper) (h:Heap) (i:Nat) (K:EF→Prop) (F:EF):Prop:=
 match ops[i]? with
 |none=>K F
 |some o=>dStep P ops h o K F
def dList (P:Program) (ops:Array Oper) (h:Heap) (Q:EF→Prop):List Oper→EF→Prop
 | [],F=>Q F
 |o::r,F=>dStep P ops h o (dList P ops h Q r) F
theorem dStep_mono {o} {F} {K K'} (hk:∀F,K F→K' F) (hs:dStep P ops h o K F):dStep P ops h o K' F:=by
 rcases hs with ⟨h1,X,h2,h3⟩|⟨h1,h2⟩
 ·exact .inl ⟨h1,X,h2,hk _ h3⟩
 ·exact .inr ⟨h1,hk _ h2⟩
theorem dOp_mono {i} {F} {K K'} (hk:∀F,K F→K' F) (hs:dOp P ops h i K F):dOp P ops h i K' F:=by
 grind [dOp,dStep_mono]
def YD (P:Program) (ops:Array Oper) (h:Heap) (o:Oper) (X:AV) (F:EF):Prop:=
 (wantedF ops F o=some true∧DOK P o F h X)∨(wantedF ops F o=some false∧X= .v undef)
theorem dStep_of_YD {o} {X} {F} {K} (hy:YD P ops h o X F) (hk:K (putF F o.dst X)):dStep P ops h o K F:=by
 rcases hy with ⟨h1,h2⟩|⟨h1,rfl⟩
 ·exact .inl ⟨h1,X,h2,hk⟩
 ·exact .inr ⟨h1,hk⟩
theorem YD_of_dStep {o} {F} {K} (hs:dStep P ops h o K F):∃X,YD P ops h o X F∧K (putF F o.dst X):=by
 rcases hs with ⟨h1,X,h2,h3⟩|⟨h1,h2⟩
 ·exact ⟨X, .inl ⟨h1,h2⟩,h3⟩
 ·exact ⟨_, .inr ⟨h1,rfl⟩,h2⟩
theorem putF_other {F} {d} {x} {t} (hd:∀e,d=some e→e≠t):putF F d x t=F t:=by
 cases d with
 |none=>rfl
 |some e=>exact upd_other _ _ (by grind)
theorem putF_comm (F) {x y} (v u) (hd:∀d,x=some d→y≠some d):putF (putF F x v) y u=putF (putF F y u) x v:=by
 cases x with
 |none=>rfl
 |some d=>cases y with
  |none=>rfl
  |some e=>
   funext t
   simp only [putF,upd]
   grind
theorem DOK_congr {o} {F F'} {X} (hf:∀t∈opSlots o.op,F t=F' t) (hd:DOK P o F h X):DOK P o F' h X:=
 fun c a hs g hdf hr=>hd c a hs g hdf fun t ht x hx=>hr t ht x (by grind)
theorem slots_looks {o:Oper} {t:Nat} (ht:t∈opSlots o.op):t∈o.looksAt ops:=by
 simp only [Oper.looksAt,List.mem_append]
 exact .inl ht
theorem wantedF_congr {o} {F F'} (hf:∀t∈o.looksAt ops,F t=F' t):wantedF ops F o=wantedF ops F' o:=by
 grind [wantedF,Oper.looksAt]
theorem YD_congr {o} {F F'} {X} (hf:∀t∈o.looksAt ops,F t=F' t) (hy:YD P ops h o X F):YD P ops h o X F' :=by
 rcases hy with ⟨h1,h2⟩|⟨h1,h2⟩
 ·exact .inl ⟨by grind [wantedF_congr],DOK_congr (by grind [slots_looks]) h2⟩
 ·exact .inr ⟨by grind [wantedF_congr],h2⟩
theorem dOp_put {j} {oi oj} {X} (hj:ops[j]? =some oj) (hap:oi.apart ops oj=true) {K} {F}
  (hy:YD P ops h oi X F) (hs:dOp P ops h j K (putF F oi.dst X)):dOp P ops h j (fun F' =>YD P ops h oi X F'∧K (putF F' oi.dst X)) F:=by
 obtain ⟨h1,h2,h3⟩:=Oper.apart_spec hap
 unfold dOp at*
 simp only [hj] at*
 have hlook:∀t∈oj.looksAt ops,putF F oi.dst X t=F t:=fun t ht=>putF_other fun e he hte=>h1 e he (hte▸ht)
 have hlook2:∀u,∀t∈oi.looksAt ops,F t=putF F oj.dst u t:=fun u t ht=>(putF_other fun e he hte=>h3 e he (hte▸ht)).symm
 rcases hs with ⟨w1,Y,w2,w3⟩|⟨w1,w2⟩
 ·refine .inl ⟨by grind [wantedF_congr],Y,DOK_congr (by grind [slots_looks]) w2,YD_congr (hlook2 Y) hy, ?_⟩
  rw [←putF_comm F X Y h2]; exact w3
 ·refine .inr ⟨by grind [wantedF_congr],YD_congr (hlook2 _) hy, ?_⟩
  rw [←putF_comm F X _ h2]; exact w2
theorem dOp_of_YD {i} {oi} {X} {F} {K} (hi:ops[i]? =some oi) (hy:YD P ops h oi X F) (hk:K (putF F oi.dst X)):dOp P ops h i K F:=by
 grind [dOp,dStep_of_YD]
structure Sys (ops:Array Oper) (S:Nat→(EF→Heap→Prop)→EF→Heap→Prop) (Y:Nat→AV→EF→Prop):Prop where
 mono:∀ {i:Nat} {F:EF} {h:Heap} {K K' :EF→Heap→Prop},(∀F h,K F h→K' F h)→S i K F h→S i K' F h
 of:∀ {i:Nat} {oi:Oper} {X:AV} {F:EF} {h:Heap} {K:EF→Heap→Prop},ops[i]? =some oi→Y i X F→K (putF F oi.dst X) h→S i K F h
 put:∀ {i j:Nat} {oi oj:Oper} {X:AV} {F:EF} {h:Heap} {K:EF→Heap→Prop},ops[i]? =some oi→ops[j]? =some oj→oi.apart ops oj=true→Y i X F→S j K (putF F oi.dst X) h→S j (fun F' h' =>Y i X F'∧K (putF F' oi.dst X) h') F h
def gAny (md:Region.Mode) (ops:Array Oper) (S:Nat→(EF→Heap→Prop)→EF→Heap→Prop) (E:Array Bool→Prop) (Q:EF→Heap→Prop):Nat→Array Bool→EF→Heap→Prop
 |0,listed,F,h=>E listed∧Q F h
 |fuel+1,listed,F,h=>Region.ready md ops listed≠ []∧∀i∈Region.ready md ops listed,S i (gAny md ops S E Q fuel (listed.setIfInBounds i true)) F h
def Closed (md:Region.Mode) (ops:Array Oper) (listed:Array Bool):Prop:=∀j oj,ops[j]? =some oj→listed.getD j false=true→∀e∈oj.after,Region.binds md e=true→listed.getD e.on false=true
def predsOf (md:Region.Mode) (ops:Array Oper) (k:Nat):List Nat:=match ops[k]? with
 |some o=>(o.after.toList.filter (Region.binds md)).map (·.on)
 |none=> []
def ancStep (md:Region.Mode) (ops:Array Oper) (s:List Nat):List Nat:=(List.range ops.size).filter fun k=>s.contains k||s.any fun j=>(predsOf md ops j).contains k
def zOKt (md:Region.Mode) (ops:Array Oper) (z:Nat):Bool:=(List.range ops.size).all fun k=>(ancStep md ops (ancStep md ops (ancStep md ops [z]))).contains k
theorem ancStep_spec {z} {listed} (hc:Closed md ops listed) (hz:z∈Region.ready md ops listed) {s} (hs:∀k∈s,k≠z→listed.getD k false=true):∀k∈ancStep md ops s,k≠z→listed.getD k false=true:=by
 intro k hk hkz
 simp only [ancStep,List.mem_filter,Bool.or_eq_true,List.contains_iff_mem,List.any_eq_true] at hk
 obtain ⟨_,h1|⟨j,hj,hp⟩⟩:=hk
 ·grind
 ·unfold predsOf at hp
  cases ho:ops[j]? with
  |none=>grind
  |some o=>
   rw [ho] at hp
   simp only [List.mem_map,List.mem_filter] at hp
   obtain ⟨e,⟨he,hb⟩,rfl⟩:=hp
   by_cases hjz:j=z
   ·grind [mem_ready]
   ·exact hc j o ho (hs j hj hjz) e (by grind) hb
theorem zOKt_spec {z} (hz:zOKt md ops z=true) {listed} (hc:Closed md ops listed) {i} (h1:z∈Region.ready md ops listed) (h2:i∈Region.ready md ops listed):i=z:=by
 obtain ⟨hun,oi,hoi,_⟩:=mem_ready.1 h2
 unfold zOKt at hz
 rw [List.all_eq_true] at hz
 have hm:=hz i (by grind)
 rw [List.contains_iff_mem] at hm
 have s0:∀k∈ [z],k≠z→listed.getD k false=true:=fun k hk hn=>absurd (by simpa using hk) hn
 have s3:=ancStep_spec hc h1 (ancStep_spec hc h1 (ancStep_spec hc h1 s0))
 by_cases e:i=z
 ·exact e
 ·have:=s3 i hm e
  exfalso
  grind
theorem Closed.set {listed} (hc:Closed md ops listed) {j} (hj:j∈Region.ready md ops listed):Closed md ops (listed.setIfInBounds j true):=by
 have up:∀k,listed.getD k false=true→(listed.setIfInBounds j true).getD k false=true:=fun k hk=>by
  by_cases e:j=k
  ·subst e
   rcases Nat.lt_or_ge j listed.size with h' |h'
   ·simp [h']
   grind
  simp_all
 intro k ok hk hl e he hb
 by_cases hkj:j=k
 ·grind [mem_ready]
 ·rw [getD_set_ne false hkj] at hl
  exact up _ (hc k ok hk hl e he hb)
theorem Closed.none (md) (ops) (m):Closed md ops (Array.replicate m false):=fun j oj _ hl=>by
 rcases Nat.lt_or_ge j m with h' |h'
 ·simp_all
 grind
def Ends (md:Region.Mode) (ops:Array Oper) (E:Array Bool→Prop) (i:Nat):Prop:=∀listed,Closed md ops listed→i∈Region.ready md ops listed→E (listed.setIfInBounds i true)→∀j∈Region.ready md ops listed,j=i
def endB (md:Region.Mode) (ops:Array Oper):Option Nat→Array Bool→Bool
 |none,l=>(Region.ready md ops l).isEmpty
 |some z,l=>Region.ready md ops l== [z] && (Region.ready md ops (l.setIfInBounds z true)).isEmpty
def EndZ (md:Region.Mode) (ops:Array Oper) (z:Option Nat) (l:Array Bool):Prop:=endB md ops z l=true
theorem ends_z {z} (hz:∀k,z=some k→zOKt md ops k=true) (i):Ends md ops (EndZ md ops z) i:=fun listed hcl hr he j hj=>by
 by_cases e:j=i
 ·exact e
 have hm:=ready_mono hj e
 cases z with
 |none=>simp only [EndZ,endB,List.isEmpty_iff] at he; rw [he] at hm; cases hm
 |some z=>
  simp only [EndZ,endB,Bool.and_eq_true,beq_iff_eq] at he
  rw [he.1] at hm
  obtain rfl:=List.mem_singleton.1 hm
  exact (zOKt_spec (hz _ rfl) hcl hj hr).symm
theorem Sys.first {S} {Y} (s:Sys ops S Y) {E} {Q} {i} {oi} {X} (hi:ops[i]? =some oi) (hend:Ends md ops E i):
  ∀(fuel:Nat) (listed:Array Bool) (F:EF) (h:Heap),Closed md ops listed→Region.free md ops listed i=true→
   i∈Region.ready md ops listed→Y i X F→
   gAny md ops S E Q fuel (listed.setIfInBounds i true) (putF F oi.dst X) h→gAny md ops S E Q (fuel+1) listed F h:=by
 suffices go:∀(fuel:Nat) (listed:Array Bool) (F:EF) (h:Heap),Closed md ops listed→
   (∀j oj,ops[j]? =some oj→j≠i→listed.getD j true=false→(∀e∈oj.after,Region.binds md e=true→e.on≠i)→oi.apart ops oj=true)→
   i∈Region.ready md ops listed→Y i X F→
   gAny md ops S E Q fuel (listed.setIfInBounds i true) (putF F oi.dst X) h→gAny md ops S E Q (fuel+1) listed F h from
  fun fuel listed F h hcl hf=>go fuel listed F h hcl (Region.free_spec hi hf)
 intro fuel
 induction fuel with
 |zero=>
  intro listed F h hcl _ hr hy H
  refine ⟨fun e=>(by rw [e] at hr; cases hr),fun j hj=> ?_⟩
  obtain rfl:=hend listed hcl hr H.1 j hj
  exact s.of hi hy H
 |succ fuel ih=>
  intro listed F h hcl hfree hr hy H
  refine ⟨fun e=>(by rw [e] at hr; cases hr),fun j hj=> ?_⟩
  by_cases hji:j=i
  ·subst hji; exact s.of hi hy H
  ·have h1:=H.2 j (ready_mono hj hji)
   obtain ⟨hjun,oj,hoj,hall⟩:=mem_ready.1 hj
   have hnot:∀e∈oj.after,Region.binds md e=true→e.on≠i:=fun e he hb heq=>by
    grind [mem_ready,Nat.lt_or_ge,Array.getElem?_eq_none]
   refine s.mono (fun F' h' h3=>ih (listed.setIfInBounds j true) F' h' (hcl.set hj) (fun k ok hk hki hun hno=>hfree k ok hk hki ?_ hno) (ready_mono hr (Ne.symm hji)) h3.1 ?_) (s.put hi hoj (hfree j oj hoj hji hjun hnot) hy h1)
   ·by_cases hjk:j=k
    ·grind
    simp_all
   ·rw [Array.setIfInBounds_comm _ _ hji]
    exact h3.2
def dS (P:Program) (ops:Array Oper) (h:Heap) (i:Nat) (K:EF→Heap→Prop) (F:EF) (g:Heap):Prop:=dOp P ops h i (fun F=>K F g) F
theorem dSys:Sys ops (dS P ops h) fun i X F=>∃oi,ops[i]? =some oi∧YD P ops h oi X F where
 mono hk hs:=dOp_mono (fun F=>hk F _) hs
 of hi:=fun ⟨o,ho,hy⟩ hk=>by rw [hi] at ho; cases ho; exact dOp_of_YD hi hy hk
 put hi hj ha:=fun ⟨o,ho,hy⟩ hs=>by
  rw [hi] at ho; cases ho
  exact dOp_mono (fun F' ⟨a,b⟩=>⟨⟨_,hi,a⟩,b⟩) (dOp_put hj ha hy hs)
def lexG (md:Region.Mode) (ops:Array Oper) (z:Option Nat):Nat→Nat→Array Bool→Bool
 |0,_,listed=>endB md ops z listed
 |fuel+1,k,listed=>(Region.ready md ops listed).contains k && Region.free md ops listed k && lexG md ops z fuel (k+1) (listed.setIfInBounds k true)
theorem dAny_lex {Q} {z} (hz:∀k,z=some k→zOKt md ops k=true):∀(l:List Oper) (k:Nat) (listed:Array Bool) (F:EF) (g:Heap),Closed md ops listed→(∀j,j<l.length→l[j]? =ops[k+j]?)→
  lexG md ops z l.length k listed=true→dList P ops h Q l F→gAny md ops (dS P ops h) (EndZ md ops z) (fun F _=>Q F) l.length listed F g
 | [],_,_,_,_,_,_,hB,hd=>⟨hB,hd⟩
 |o::l,k,listed,F,g,hcl,hl,hB,hd=>by
  have h0:ops[k]? =some o:=by simpa using (hl 0 (by simp)).symm
  simp only [List.length_cons,lexG,Bool.and_eq_true] at hB
  obtain ⟨⟨hr,hf⟩,hB'⟩:=hB
  obtain ⟨X,hy,hK⟩:=YD_of_dStep hd
  have hin:k∈Region.ready md ops listed:=by grind
  exact dSys.first h0 (ends_z hz k) l.length listed F g hcl hf hin ⟨o,h0,hy⟩
   (dAny_lex hz l (k+1) _ _ g (hcl.set hin) (fun j hj=>by have:=hl (j+1) (by grind); simpa [Nat.add_assoc,Nat.add_comm 1 j] using this) hB' hK)
def EnvF (c:Cx) (n:Nat) (F:EF) (a:Act):Prop:=a.tmps.size=n∧a.defers= []∧∀t x,F t=some x→Rep c x (a.tmps.getD t undef)
theorem EnvF.put {c} {n} {F} {a} (he:EnvF c n F a) {d} (hd:dstOK n d=true) {x} {u} (hx:Rep c x u):EnvF c n (putF F d x) (a.put d u):=by
 obtain ⟨h1,h2,h3⟩:=he
 cases d with
 |none=>exact ⟨h1,h2,h3⟩
 |some d=>
  have hd' :d<a.tmps.size:=by rw [h1]; exact of_decide_eq_true hd
  refine ⟨by grind [Act.put],h2,fun t y hy=> ?_⟩
  simp only [putF,upd] at hy
  split at hy
  ·rename_i e; subst e
   simp only [Option.some.injEq] at hy; subst hy
   simpa [Act.put,hd'] using hx
  ·rename_i e
   have:=h3 t y hy
   have e' :¬d=t:=fun h=>e h.symm
   simpa [Act.put,Array.getElem?_setIfInBounds_ne e'] using this
theorem EnvF.mono {c c'} {n} {F} {a} (he:Ext c c') (hf:EnvF c n F a):EnvF c' n F a:=⟨hf.1,hf.2.1,fun t x hx=>(hf.2.2 t x hx).mono he⟩
theorem wantedF_spec {c} {n} {F} {a} {o} {b} (he:EnvF c n F a) (hw:wantedF ops F o=some b):Region.wanted o (yielded ops a.tmps)=b:=by
 unfold wantedF at hw
 split at hw
 ·grind [Option.some.injEq,Region.wanted]
 ·rename_i g want hg
  split at hw
  ·rename_i d hd
   split at hw
   ·rename_i t ht
    simp only [Option.some.injEq] at hw; subst hw
    have h1:=(he.2.2 d _ ht).v_inv
    have h2:a.tmps[d]? =some (.bool t):=by
     by_cases hlt:d<a.tmps.size
     ·simp_all
     grind [undef,Nat.le_of_not_lt]
    have h3:yielded ops a.tmps g=some t:=by grind [yielded]
    simp [Region.wanted,hg,h3]
   ·rename_i vs ht
    simp only [Option.some.injEq] at hw; subst hw
    have h1:=(he.2.2 d _ ht).v_inv
    have h3:yielded ops a.tmps g=none:=by
     by_cases hlt:d<a.tmps.size
     ·simp_all [some,yielded]
     simp_all [none,Nat.le_of_not_lt,yielded]
    simp [Region.wanted,hg,h3]
   grind
  grind
theorem dOp_sound {n:Nat} {i:Nat} {K:EF→Prop} {K' :Act→World→Prop} {Q:Exit→Act→World→Prop} {c0:Cx} (hdst:∀o∈ops.toList,dstOK n o.dst=true)
  (hk:∀c F a,Ext c0 c→Sub h c.h→Good c→EnvF c n F a→K F→K' a c.w) {c:Cx} {F:EF} {a:Act} (hE:Ext c0 c) (hs:Sub h c.h) (g:Good c) (he:EnvF c n F a) (hd:dOp P ops h i K F):wpOp P ops Q i K' a c.w:=by
 unfold dOp at hd
 unfold wpOp
 split
 ·rename_i ho; simp only [ho] at hd; exact hk c F a hE hs g he hd
 ·rename_i o ho
  simp only [ho] at hd
  have hdo:dstOK n o.dst=true:=by grind
  rcases hd with ⟨h1,X,h2,h3⟩|⟨h1,h2⟩
  ·rw [if_pos (wantedF_spec he h1)]
   left
   have hu:=h2 c a hs g he.2.1 (fun t _ x hx=>he.2.2 t x hx)
   have next:∀u w',(∃c',c'.w=w'∧Good c'∧Ext c c'∧Sub h c'.h∧Rep c' X u)→K' (a.put o.dst u) w' :=by
    rintro u w' ⟨c',rfl,k1,k2,k3,k4⟩
    exact hk c' _ _ (hE.trans k2) k3 k1 ((he.mono k2).put hdo k4) h3
   unfold Oper.wp
   generalize (execOp a.eval o).run P c.w=r at hu
   cases r with
   |ok nx w' =>
    cases nx<;>simp only [DUpon] at hu<;>simp only [Oper.upon]
    case value u=>exact next u w' hu
    case skip=>exact next undef w' hu
    case enter f args=>
     obtain ⟨rfl,hc⟩:=hu
     exact hc.mono fun e w'' ⟨u,he,hcm⟩=>by grind
   |halt x w' =>exact hu.elim
  ·rw [if_neg (by grind [wantedF_spec])]
   exact hk c _ _ hE hs g (he.put hdo (.v _)) h2
theorem gAny_sound {S:Nat→(EF→Heap→Prop)→EF→Heap→Prop} {E:Array Bool→Prop} {Q:EF→Heap→Prop} {Q' :Exit→Act→World→Prop} {T:Array Bool→Cx→EF→Heap→Act→Prop} {m:Nat}
  (hst:∀listed i K c F h a (K' :Act→World→Prop),T listed c F h a→i∈Region.ready md ops listed→S i K F h→(∀c F h a,T (listed.setIfInBounds i true) c F h a→K F h→K' a c.w)→wpOp P ops Q' i K' a c.w)
  (h0:∀listed c F h a,T listed c F h a→E listed→Q F h→wpAny P md ops Q' m listed a c.w):∀(fuel:Nat) (listed:Array Bool) (c:Cx) (F:EF) (h:Heap) (a:Act),T listed c F h a→gAny md ops S E Q fuel listed F h→wpAny P md ops Q' (m+fuel) listed a c.w
 |0,listed,c,F,h,a,ht,hd=>h0 _ _ _ _ _ ht hd.1 hd.2
 |fuel+1,listed,c,F,h,a,ht,hd=>⟨fun e=>absurd e hd.1,fun i hi=>hst _ _ _ _ _ _ _ _ ht hi (hd.2 i hi) fun c F h a ht hk=>gAny_sound hst h0 fuel _ c F h a ht hk⟩
theorem dAny_sound {n m:Nat} {E:Array Bool→Prop} {Q:EF→Heap→Prop} {Q' :Exit→Act→World→Prop} {c0:Cx} (hdst:∀o∈ops.toList,dstOK n o.dst=true)
  (h0:∀listed c F g a,Ext c0 c→Sub h c.h→Good c→EnvF c n F a→E listed→Q F g→wpAny P md ops Q' m listed a c.w) (fuel:Nat) (listed:Array Bool) (c:Cx) (F:EF) (g:Heap) (a:Act) (h1:Ext c0 c) (h2:Sub h c.h) (h3:Good c) (h4:EnvF c n F a)
  (hd:gAny md ops (dS P ops h) E Q fuel listed F g):wpAny P md ops Q' (m+fuel) listed a c.w:=
 gAny_sound (T:=fun _ c F _ a=>Ext c0 c∧Sub h c.h∧Good c∧EnvF c n F a) (fun _ _ _ _ _ _ _ _ ⟨h1,h2,h3,h4⟩ _ hd hk=>dOp_sound hdst (fun c F a k1 k2 k3 k4 hK=>hk c F _ a ⟨k1,k2,k3,k4⟩ hK) h1 h2 h3 h4 hd)
  (fun listed c F g a ⟨k1,k2,k3,k4⟩ he hq=>h0 listed c F g a k1 k2 k3 k4 he hq) fuel listed c F g a ⟨h1,h2,h3,h4⟩ hd
end
end Go.Ab

set_option linter.unusedSimpArgs false
set_option linter.unusedVariables false
namespace Go.Ab
open Go
section
variable {P : Program} {U : TypeId → TI} {ops : Array Oper} {md : Region.Mode} {hm : Heap}
def effB:Op→Bool
 | .call c=>match c.callee with
  | .value _=>true
  | .builtin .append=>true
  | .builtin .copy=>true
  |_=>false
 | .alloc _=>true
 | .box _ _=>true
 | .store _ _ _=>true
 | .makeSlice _ _ _=>true
 | .makeMap _ _=>true
 | .mapUpdate _ _ _ _=>true
 |_=>false
def DPure (P:Program) (o:Oper) (F:EF) (hm:Heap) (X:AV):Prop:=
 ∀(c:Cx) (a:Act),Sub hm c.h→Good c→a.defers= []→(∀t∈opSlots o.op,∀x,F t=some x→Rep c x (a.tmps.getD t undef))→
  ∃u c',(execOp a.eval o).run P c.w= .ok (.value u) c'.w∧Good c'∧Ext c c'∧c'.h=c.h∧Rep c' X u
def EOK (P:Program) (o:Oper) (F:EF) (h:Heap) (Q:AV→Heap→Prop):Prop:=
 ∀(c:Cx) (a:Act),Sub h c.h→Good c→a.defers= []→(∀t∈opSlots o.op,∀x,F t=some x→Rep c x (a.tmps.getD t undef))→Upon1 P c Q ((execOp a.eval o).run P c.w)
theorem env_restrict {c:Cx} {a:Act} {ρ:Env} {o:Oper} (hd:a.defers= []) (hr:∀t∈opSlots o.op,∀x,lk ρ t=some x→Rep c x (a.tmps.getD t undef)):EnvSat c a.tmps.size (restrict ρ (opSlots o.op)) a:=
 ⟨rfl,hd,fun t x hx=>by
  rw [lk_restrict] at hx
  split at hx
  ·rename_i hc
   exact hr t (by grind) x hx
  ·cases hx⟩
theorem ev_restrict (ρ:Env) (o:Oper):∀x∈o.op.operands,ev (restrict ρ (opSlots o.op)) x=ev ρ x:=fun x hx=>ev_congr fun t ht=>by
 rw [lk_restrict,if_pos]
 rw [List.contains_iff_mem]
 simp only [opSlots,List.mem_filterMap]
 exact ⟨.tmp t,by grind,rfl⟩
theorem pure_sound {ρ:Env} {o:Oper} {Q:AV→Prop} (hU:∀t,AgreeT P U t) (hp:pv U ρ hm o.op Q):∃X,Q X∧DPure P o (lk ρ) hm X:=by
 rw [←pv_congr (ev_restrict ρ o)] at hp
 obtain ⟨X,hQ,hX⟩:=pv_sound hU hp
 exact ⟨X,hQ,fun c a hs g hd hr=>hX c a _ hs g (env_restrict hd hr)⟩
theorem vcOp_congrE {ρ ρ'} {h} {o} {Q} (hb:effB o.op=true) (he:∀x∈o.op.operands,ev ρ x=ev ρ' x):vcOp P U ρ h o Q=vcOp P U ρ' h o Q:=by
 obtain ⟨d,op,t,p,a,g⟩:=o
 simp only at hb he
 cases op with
 |alloc t=>rfl
 |box t x=>simp only [vcOp,withv,he x (by simp [Op.operands])]
 |store t a x=>simp only [vcOp,withv,he a (by simp [Op.operands]),he x (by simp [Op.operands])]
 |makeSlice t l m=>simp only [vcOp,withv,he l (by simp [Op.operands]),he m (by simp [Op.operands])]
 |makeMap t r=>
  cases r with
  |none=>rfl
  |some x=>simp only [vcOp,roomM,withv,he x (by simp [Op.operands])]
 |mapUpdate t x y z=>simp only [vcOp,withv,he x (by simp [Op.operands]),he y (by simp [Op.operands]),he z (by simp [Op.operands])]
 |call c=>
  obtain ⟨cal,args,ts⟩:=c
  have ha:∀x∈args.toList,ev ρ x=ev ρ' x:=fun x hx=>he x (by simp only [Op.operands,Call.operands,Array.mem_append]; exact .inr (by simpa using hx))
  cases cal with
  |value q=>
   simp only [vcOp,withv,withvs,he q (by simp [Op.operands,Call.operands]),evs_congr ha]
  |builtin b=>
   cases b with
   |append=>
    simp only [vcOp]
    split
    ·rename_i x y ts' tx h1 h2
     simp only [withv,ha x (by rw [h1]; simp),ha y (by rw [h1]; simp)]
    ·rfl
   |copy=>
    simp only [vcOp]
    split
    ·rename_i x y ts' tx h1 h2
     simp only [withv,ha x (by rw [h1]; simp),ha y (by rw [h1]; simp)]
    ·rfl
   |_=>simp [effB] at hb
  |_=>simp [effB] at hb
 |_=>simp [effB] at hb
def vcE (P:Program) (U:TypeId→TI) (ρ:Env) (h:Heap) (o:Oper) (Q:AV→Heap→Prop):Prop:=vcOp P U ρ h o Q
theorem vcE_sound {ρ:Env} {h:Heap} {o:Oper} {Q:AV→Heap→Prop} (hU:∀t,AgreeT P U t) (hb:effB o.op=true) (hk:vcE P U ρ h o Q):EOK P o (lk ρ) h Q:=by
 intro c a hs g hd hr
 unfold vcE at hk
 rw [←vcOp_congrE hb (ev_restrict ρ o)] at hk
 exact vcOp_sound hU hk hs g (env_restrict hd hr)
def DQ (P:Program) (o:Oper) (F:EF) (hm:Heap) (X:AV):Prop:=∀h,Sub hm h→EOK P o F h fun x h' =>x=X∧h' =h
theorem DPure.quiet {o} {F} {X} (hp:DPure P o F hm X):DQ P o F hm X:=by
 intro h hs c a hc g hd hr
 obtain ⟨u,c',e1,g',hE,e2,hr'⟩:=hp c a (fun i b hb=>hc i b (hs i b hb)) g hd hr
 rw [e1]
 exact ⟨c',X,h,rfl,g',hE,hr',by grind,rfl,rfl⟩
def FnQ (P:Program) (f:FuncId) (args:List AV) (hm:Heap) (k:AV→Prop):Prop:=∃X,(∀h,Sub hm h→FnOK P f args h fun x h' =>x=X∧h' =h)∧k X
def vcQ (P:Program) (U:TypeId→TI) (ρ:Env) (hm:Heap) (o:Oper) (k:AV→Prop):Prop:=match o.op with
 | .call c=>match c.callee with
  | .value q=>withv ρ q fun y=>match y with
   | .fn f cap=>withvs ρ c.args.toList fun ys=>FnQ P f (ys++cap) hm k
   |_=>False
  |_=>False
 |_=>False
theorem vcQ_sound {ρ} {o} {k} (hU:∀t,AgreeT P U t) (hk:vcQ P U ρ hm o k):∃X,k X∧DQ P o (lk ρ) hm X:=by
 obtain ⟨d,op,t,p,a,g⟩:=o
 unfold vcQ at hk
 simp only at hk
 split at hk
 ·rename_i cl
  obtain ⟨cal,args,ts⟩:=cl
  simp only at hk
  split at hk
  ·rename_i q
   obtain ⟨y,hy,hk⟩:=withv_elim hk
   split at hk
   ·rename_i f cap
    obtain ⟨ys,hys,X,hf,hQ⟩:=withvs_elim hk
    refine ⟨X,hQ,fun h hs=>vcE_sound hU rfl ?_⟩
    grind [vcE,vcOp,withv,withvs]
   grind
  grind
 grind
def hStep (P:Program) (ops:Array Oper) (hm:Heap) (o:Oper) (K:EF→Heap→Prop) (F:EF) (h:Heap):Prop:=
 (wantedF ops F o=some true∧(effB o.op=true∧(∃Q:AV→Heap→Prop,EOK P o F h Q∧∀X h',Q X h'→Sub hm h'∧K (putF F o.dst X) h')∨∃X,DQ P o F hm X∧K (putF F o.dst X) h))∨
 (wantedF ops F o=some false∧K (putF F o.dst (.v undef)) h)
def hOp (P:Program) (ops:Array Oper) (hm:Heap) (i:Nat) (K:EF→Heap→Prop) (F:EF) (h:Heap):Prop:=
 match ops[i]? with
 |none=>K F h
 |some o=>hStep P ops hm o K F h
theorem hStep_mono {o} {F} {h} {K K'} (hk:∀F h,K F h→K' F h) (hs:hStep P ops hm o K F h):hStep P ops hm o K' F h:=by
 rcases hs with ⟨h1,⟨h2,Q,h3,h4⟩|⟨X,h3,h4⟩⟩|⟨h1,h2⟩
 ·exact .inl ⟨h1, .inl ⟨h2,Q,h3,fun X h' hq=>⟨(h4 X h' hq).1,hk _ _ (h4 X h' hq).2⟩⟩⟩
 ·exact .inl ⟨h1, .inr ⟨X,h3,hk _ _ h4⟩⟩
 ·exact .inr ⟨h1,hk _ _ h2⟩
theorem hOp_mono {i} {F} {h} {K K'} (hk:∀F h,K F h→K' F h) (hs:hOp P ops hm i K F h):hOp P ops hm i K' F h:=by
 grind [hOp,hStep_mono]
def YP (P:Program) (ops:Array Oper) (hm:Heap) (o:Oper) (X:AV) (F:EF):Prop:=
 (wantedF ops F o=some true∧DQ P o F hm X)∨(wantedF ops F o=some false∧X= .v undef)
theorem hStep_of_YP {o} {X} {F} {h} {K} (hy:YP P ops hm o X F) (hk:K (putF F o.dst X) h):hStep P ops hm o K F h:=by
 rcases hy with ⟨h1,h3⟩|⟨h1,rfl⟩
 ·exact .inl ⟨h1, .inr ⟨X,h3,hk⟩⟩
 ·exact .inr ⟨h1,hk⟩
theorem YP_of_hStep {o} {F} {h} {K} (he:effB o.op=false) (hs:hStep P ops hm o K F h):∃X,YP P ops hm o X F∧K (putF F o.dst X) h:=by
 rcases hs with ⟨h1,⟨h2,_⟩|⟨X,h3,h4⟩⟩|⟨h1,h2⟩
 ·grind
 ·exact ⟨X, .inl ⟨h1,h3⟩,h4⟩
 ·exact ⟨_, .inr ⟨h1,rfl⟩,h2⟩
theorem DPure_congr {o} {F F'} {X} (hf:∀t∈opSlots o.op,F t=F' t) (hd:DPure P o F hm X):DPure P o F' hm X:=
 fun c a hs g hdf hr=>hd c a hs g hdf fun t ht x hx=>hr t ht x (by grind)
theorem EOK_congr {o} {F F'} {h} {Q} (hf:∀t∈opSlots o.op,F t=F' t) (hd:EOK P o F h Q):EOK P o F' h Q:=
 fun c a hs g hdf hr=>hd c a hs g hdf fun t ht x hx=>hr t ht x (by grind)
theorem DQ_congr {o} {F F'} {X} (hf:∀t∈opSlots o.op,F t=F' t) (hd:DQ P o F hm X):DQ P o F' hm X:=fun h hs=>EOK_congr hf (hd h hs)
theorem YP_congr {o} {F F'} {X} (hf:∀t∈o.looksAt ops,F t=F' t) (hy:YP P ops hm o X F):YP P ops hm o X F' :=by
 rcases hy with ⟨h1,h2⟩|⟨h1,h2⟩
 ·exact .inl ⟨by grind [wantedF_congr],DQ_congr (by grind [slots_looks]) h2⟩
 ·exact .inr ⟨by grind [wantedF_congr],h2⟩
theorem hOp_put {hm hm'} {j} {oi oj} {X} (hj:ops[j]? =some oj) (hap:oi.apart ops oj=true) {K} {F} {h}
  (hy:YP P ops hm' oi X F) (hs:hOp P ops hm j K (putF F oi.dst X) h):hOp P ops hm j (fun F' h' =>YP P ops hm' oi X F'∧K (putF F' oi.dst X) h') F h:=by
 obtain ⟨h1,h2,h3⟩:=Oper.apart_spec hap
 unfold hOp at*
 simp only [hj] at*
 have hlook:∀t∈oj.looksAt ops,putF F oi.dst X t=F t:=fun t ht=>putF_other fun e he hte=>h1 e he (hte▸ht)
 have hlook2:∀u,∀t∈oi.looksAt ops,F t=putF F oj.dst u t:=fun u t ht=>(putF_other fun e he hte=>h3 e he (hte▸ht)).symm
 rcases hs with ⟨w1,⟨w0,Q,w2,w3⟩|⟨Y,w2,w3⟩⟩|⟨w1,w2⟩
 ·refine .inl ⟨by grind [wantedF_congr], .inl ⟨w0,Q,EOK_congr (by grind [slots_looks]) w2,fun Y h' hq=>⟨(w3 Y h' hq).1,YP_congr (hlook2 Y) hy, ?_⟩⟩⟩
  rw [←putF_comm F X Y h2]; exact (w3 Y h' hq).2
 ·refine .inl ⟨by grind [wantedF_congr], .inr ⟨Y,DQ_congr (by grind [slots_looks]) w2,YP_congr (hlook2 Y) hy, ?_⟩⟩
  rw [←putF_comm F X Y h2]; exact w3
 ·refine .inr ⟨by grind [wantedF_congr],YP_congr (hlook2 _) hy, ?_⟩
  rw [←putF_comm F X _ h2]; exact w2
theorem hOp_of_YP {i} {oi} {X} {F} {h} {K} (hi:ops[i]? =some oi) (hy:YP P ops hm oi X F) (hk:K (putF F oi.dst X) h):hOp P ops hm i K F h:=by
 grind [hOp,hStep_of_YP]
def hS (P:Program) (ops:Array Oper) (H:Nat→Heap) (i:Nat) (K:EF→Heap→Prop) (F:EF) (h:Heap):Prop:=hOp P ops (H i) i K F h
theorem hSys {H}:Sys ops (hS P ops H) fun i X F=>∃oi,ops[i]? =some oi∧YP P ops (H i) oi X F where
 mono hk hs:=hOp_mono hk hs
 of hi:=fun ⟨o,ho,hy⟩ hk=>by rw [hi] at ho; cases ho; exact hOp_of_YP hi hy hk
 put hi hj ha:=fun ⟨o,ho,hy⟩ hs=>by
  rw [hi] at ho; cases ho
  exact hOp_mono (fun F' h' ⟨a,b⟩=>⟨⟨_,hi,a⟩,b⟩) (hOp_put hj ha hy hs)
def prefOK (md:Region.Mode) (ops:Array Oper):List Nat→Array Bool→Bool
 | [],_=>true
 |k::ks,listed=>(match ops[k]? with
  |some o=>if effB o.op then Region.ready md ops listed== [k] else (Region.ready md ops listed).contains k && Region.free md ops listed k
  |none=>false) && prefOK md ops ks (listed.setIfInBounds k true)
def setAll:List Nat→Array Bool→Array Bool
 | [],l=>l
 |k::ks,l=>setAll ks (l.setIfInBounds k true)
def hList (P:Program) (ops:Array Oper) (H:Nat→Heap) (Q:EF→Heap→Prop):List Nat→EF→Heap→Prop
 | [],F,h=>Q F h
 |i::r,F,h=>hOp P ops (H i) i (hList P ops H Q r) F h
theorem hAny_pref {H} {E} {Q} (m):∀(l:List Nat) (listed:Array Bool) (F:EF) (h:Heap),(∀i∈l,Ends md ops E i)→Closed md ops listed→
  prefOK md ops l listed=true→hList P ops H (fun F h=>gAny md ops (hS P ops H) E Q m (setAll l listed) F h) l F h→gAny md ops (hS P ops H) E Q (m+l.length) listed F h
 | [],_,_,_,_,_,_,hd=>hd
 |k::l,listed,F,h,hE,hcl,hB,hd=>by
  simp only [prefOK,Bool.and_eq_true] at hB
  obtain ⟨hB,hB'⟩:=hB
  have hE' :∀i∈l,Ends md ops E i:=fun i hi=>hE i (List.mem_cons_of_mem _ hi)
  cases h0:ops[k]? with
  |none=>grind
  |some o=>
   rw [h0] at hB
   simp only at hB
   cases he:effB o.op with
   |true=>
    refine ⟨fun e=>(by grind),fun j hj=> ?_⟩
    obtain rfl:j=k:=by grind
    exact hOp_mono (fun F' h' hh=>hAny_pref m l _ F' h' hE' (hcl.set (by grind)) hB' hh) hd
   |false=>
    rw [he,if_neg (by simp),Bool.and_eq_true] at hB
    have hd:hStep P ops (H k) o (hList P ops H (fun F h=>gAny md ops (hS P ops H) E Q m (setAll (k::l) listed) F h) l) F h:=by
     grind [hOp,hList]
    obtain ⟨X,hy,hK⟩:=YP_of_hStep he hd
    have hin:k∈Region.ready md ops listed:=by grind
    exact hSys.first h0 (hE k (List.mem_cons_self ..)) (m+l.length) listed F h hcl hB.2 hin ⟨o,h0,hy⟩ (hAny_pref m l _ _ _ hE' (hcl.set hin) hB' hK)
theorem hList_mono {H} {Q Q'} (hk:∀F h,Q F h→Q' F h):∀(l:List Nat) (F:EF) (h:Heap),hList P ops H Q l F h→hList P ops H Q' l F h
 | [],F,h,hh=>hk F h hh
 |_::l,_,_,hh=>hOp_mono (fun F h hh=>hList_mono hk l F h hh) hh
inductive Ord where
 |seq (l:List Nat)
 |fork (l:List Nat) (i:Nat) (a:Ord) (j:Nat) (b:Ord)
 |quiet (l:List Nat) (i:Nat) (t:Ord)
 |news (l:List Nat) (is:List Nat) (t:Ord)
def permOK (md:Region.Mode) (ops:Array Oper):Nat→List Nat→Array Bool→Bool
 |0,l,_=>l.isEmpty
 |fuel+1,l,listed=>l.isEmpty||(!(Region.ready md ops listed).isEmpty && (Region.ready md ops listed).all fun i=>l.contains i && permOK md ops fuel (l.erase i) (listed.setIfInBounds i true))
def newOp (o:Oper):Bool:=o.guard.isNone && o.dst.isSome && match o.op with
 | .alloc _=>true
 |_=>false
def newsOK (md:Region.Mode) (ops:Array Oper) (is:List Nat) (listed:Array Bool):Bool:=
 permOK md ops is.length is listed && decide is.Nodup && decide (is.map fun i=>(ops[i]?).bind (·.dst)).Nodup && is.all fun i=>((ops[i]?).map newOp).getD false
def Ord.len:Ord→Nat
 | .seq l=>l.length
 | .fork l _ a _ _=>a.len+1+l.length
 | .quiet l _ t=>t.len+1+l.length
 | .news l is t=>t.len+is.length+l.length
def ordOK (md:Region.Mode) (ops:Array Oper) (z:Option Nat):Ord→Array Bool→Bool
 | .seq l,listed=>prefOK md ops l listed && endB md ops z (setAll l listed)
 | .fork l i a j b,listed=>prefOK md ops l listed && (Region.ready md ops (setAll l listed)== [i,j]) && (a.len==b.len) &&
  (ordOK md ops z a ((setAll l listed).setIfInBounds i true) && ordOK md ops z b ((setAll l listed).setIfInBounds j true))
 | .quiet l i t,listed=>prefOK md ops l listed && (((Region.ready md ops (setAll l listed)).contains i && Region.free md ops (setAll l listed) i) && ordOK md ops z t ((setAll l listed).setIfInBounds i true))
 | .news l is t,listed=>prefOK md ops l listed && (newsOK md ops is (setAll l listed) && ordOK md ops z t (setAll is (setAll l listed)))
theorem closed_setAll:∀(l:List Nat) (listed:Array Bool),Closed md ops listed→prefOK md ops l listed=true→Closed md ops (setAll l listed)
 | [],_,hc,_=>hc
 |k::l,listed,hc,hB=>by
  simp only [prefOK,Bool.and_eq_true] at hB
  obtain ⟨hB,hB'⟩:=hB
  refine closed_setAll l _ (hc.set ?_) hB'
  grind
theorem hOp_sound {n:Nat} {i:Nat} {K:EF→Heap→Prop} {K' :Act→World→Prop} {Q:Exit→Act→World→Prop} {c0:Cx} (hdst:∀o∈ops.toList,dstOK n o.dst=true)
  (hk:∀c F h a,Ext c0 c→Sub h c.h→Sub hm c.h→Good c→EnvF c n F a→K F h→K' a c.w) {c:Cx} {F:EF} {h:Heap} {a:Act} (hE:Ext c0 c) (hs:Sub h c.h) (hs' :Sub hm c.h) (g:Good c) (he:EnvF c n F a) (hd:hOp P ops hm i K F h):wpOp P ops Q i K' a c.w:=by
 unfold hOp at hd
 unfold wpOp
 split
 ·rename_i ho; simp only [ho] at hd; exact hk c F h a hE hs hs' g he hd
 ·rename_i o ho
  simp only [ho] at hd
  have hdo:dstOK n o.dst=true:=by grind
  have main:∀ {h0:Heap} {R:AV→Heap→Prop},Sub h0 c.h→EOK P o F h0 R→(∀c' x h',Good c'→Ext c c'→Sub h' c'.h→R x h'→∀u,Rep c' x u→K' (a.put o.dst u) c'.w)→Oper.wp P o a c.w K' Q:=by
   intro h0 R hs h2 next'
   have hu:=h2 c a hs g he.2.1 (fun t _ x hx=>he.2.2 t x hx)
   have next:∀u w',Comes1 c R u w'→K' (a.put o.dst u) w' :=by
    rintro u w' ⟨c',x,h',rfl,g',hE',hr,hs2,hR⟩
    exact next' c' x h' g' hE' hs2 hR u hr
   unfold Oper.wp
   generalize (execOp a.eval o).run P c.w=r at hu
   cases r with
   |ok nx w' =>
    cases nx<;>simp only [Upon1] at hu<;>simp only [Oper.upon]
    case value u=>exact next u w' hu
    case skip=>exact next undef w' hu
    case enter f args=>
     obtain ⟨rfl,hc⟩:=hu
     exact hc.mono fun e w'' ⟨u,he,hcm⟩=>by grind
   |halt x w' =>exact hu.elim
  rcases hd with ⟨h1,⟨h0,R,h2,h3⟩|⟨X,h2,h3⟩⟩|⟨h1,h2⟩
  ·rw [if_pos (wantedF_spec he h1)]
   left
   refine main hs h2 fun c' x h' g' hE' hs2 hR u hr=> ?_
   obtain ⟨k1,k2⟩:=h3 x h' hR
   exact hk c' _ h' _ (hE.trans hE') hs2 (fun j b hj=>hs2 _ _ (k1 _ _ hj)) g' ((he.mono hE').put hdo hr) k2
  ·rw [if_pos (wantedF_spec he h1)]
   left
   refine main (fun _ _ e=>e) (h2 c.h hs') fun c' x h' g' hE' hs2 hR u hr=> ?_
   obtain ⟨rfl,rfl⟩:=hR
   exact hk c' _ h _ (hE.trans hE') (fun j b hj=>hs2 _ _ (hs _ _ hj)) (fun j b hj=>hs2 _ _ (hs' _ _ hj)) g' ((he.mono hE').put hdo hr) h3
  ·rw [if_neg (by grind [wantedF_spec])]
   exact hk c _ h _ hE hs hs' g (he.put hdo (.v _)) h2
theorem hAny_sound {n m:Nat} {E:Array Bool→Prop} {Q:EF→Heap→Prop} {Q' :Exit→Act→World→Prop} {c0:Cx} (hdst:∀o∈ops.toList,dstOK n o.dst=true)
  (h0:∀listed c F h a,Ext c0 c→Sub h c.h→Good c→EnvF c n F a→E listed→Q F h→wpAny P md ops Q' m listed a c.w) (fuel:Nat) (listed:Array Bool) (c:Cx) (F:EF) (h:Heap) (a:Act) (h1:Ext c0 c) (h2:Sub h c.h) (h2' :Sub hm c.h) (h3:Good c) (h4:EnvF c n F a)
  (hd:gAny md ops (hS P ops fun _=>hm) E Q fuel listed F h):wpAny P md ops Q' (m+fuel) listed a c.w:=
 gAny_sound (T:=fun _ c F h a=>Ext c0 c∧Sub h c.h∧Sub hm c.h∧Good c∧EnvF c n F a) (fun _ _ _ _ _ _ _ _ ⟨h1,h2,h2',h3,h4⟩ _ hd hk=>hOp_sound hdst (fun c F h a k1 k2 k2' k3 k4 hK=>hk c F h a ⟨k1,k2,k2',k3,k4⟩ hK) h1 h2 h2' h3 h4 hd)
  (fun listed c F h a ⟨k1,k2,_,k3,k4⟩ he hq=>h0 listed c F h a k1 k2 k3 k4 he hq) fuel listed c F h a ⟨h1,h2,h2',h3,h4⟩ hd
def barOK (md:Region.Mode) (ops:Array Oper) (l:List Nat):Bool:=(List.range ops.size).all fun j=>l.contains j||l.all fun k=>(ancStep md ops (ancStep md ops (ancStep md ops [j]))).contains k
theorem barOK_spec {l} (hb:barOK md ops l=true) {listed} (hc:Closed md ops listed) {j} (hj:j∈Region.ready md ops listed) (hl:j∉l):∀k∈l,listed.getD k false=true:=by
 intro k hk
 obtain ⟨hun,oj,hoj,_⟩:=mem_ready.1 hj
 unfold barOK at hb
 rw [List.all_eq_true] at hb
 have hm:=hb j (by grind)
 rw [Bool.or_eq_true,List.contains_iff_mem] at hm
 rcases hm with hm|hm
 ·exact (hl hm).elim
 ·have s0:∀k∈ [j],k≠j→listed.getD k false=true:=fun k hk hn=>absurd (by simpa using hk) hn
  have s3:=ancStep_spec hc hj (ancStep_spec hc hj (ancStep_spec hc hj s0))
  rw [List.all_eq_true] at hm
  have:=hm k hk
  rw [List.contains_iff_mem] at this
  exact s3 k this fun e=>hl (e▸hk)
theorem ends_fin {fin} {l} (hb:barOK md ops l=true) (hfin:∀j∈l,fin.getD j false=true):∀i∈l,Ends md ops (· =fin) i:=fun i hil listed hcl hr he j hj=>by
 by_cases hji:j=i
 ·exact hji
 exfalso
 have hiu:=(mem_ready.1 hr).1
 have hju:=(mem_ready.1 hj).1
 by_cases hjl:j∈l
 ·have h1:=hfin j hjl
  rw [←he,getD_set_ne false (Ne.symm hji)] at h1
  rcases Nat.lt_or_ge j listed.size with h' |h'
  ·simp [h'] at h1 hju; rw [hju] at h1; cases h1
  ·simp [Array.getElem?_eq_none h'] at h1
 ·have h1:=barOK_spec hb hcl hj hjl i hil
  rcases Nat.lt_or_ge i listed.size with h' |h'
  ·simp [h'] at h1 hiu; rw [hiu] at h1; cases h1
  ·simp [Array.getElem?_eq_none h'] at h1
def stageOK (md:Region.Mode) (ops:Array Oper) (l1 l2:List Nat):Bool:=
 prefOK md ops l1 (Array.replicate ops.size false) && barOK md ops l1 && (l1.all fun j=>(setAll l1 (Array.replicate ops.size false)).getD j false) && ordOK md ops none (.seq l2) (setAll l1 (Array.replicate ops.size false)) && (l2.length+l1.length==ops.size)
def vcOne (P:Program) (U:TypeId→TI) (hm:Heap) (o:Oper) (ρ:Env) (h:Heap) (K:AV→Heap→Prop):Prop:=
 if effB o.op then vcE P U ρ h o (fun X h' =>Sub hm h'∧K X h') else pv U ρ hm o.op (fun X=>K X h)
def vcDrH (P:Program) (U:TypeId→TI) (n:Nat) (all:List Oper) (hm:Heap):List Nat→Env→Heap→(Env→Heap→Prop)→Prop
 | [],ρ,h,K=>K ρ h
 |i::is,ρ,h,K=>match all[i]? with
  |none=>False
  |some o=>guardA all ρ o.guard (fun ρ=>vcOne P U hm o ρ h fun X h' =>vcDrH P U n all hm is (put ρ o.dst X) h' K) (fun ρ=>vcDrH P U n all hm is (put ρ o.dst (.v undef)) h K)
theorem lk_learn' {ρ} {d} {x} (hd:lk ρ d=some x):lk ((d,x)::ρ)=lk ρ:=by
 grind [lk]
theorem vcDrH_hList {n} (hU:∀t,AgreeT P U t) {all} {K}:∀(l:List Nat) (ρ:Env) (h:Heap),vcDrH P U n all hm l ρ h K→hList P all.toArray (fun _=>hm) (fun F h=>∃ρ,lk ρ=F∧K ρ h) l (lk ρ) h
 | [],ρ,h,hk=>⟨ρ,rfl,hk⟩
 |i::is,ρ,h,hk=>by
  simp only [vcDrH] at hk
  show hOp _ _ _ _ _ _ _
  unfold hOp
  have e0:(all.toArray)[i]? =all[i]? :=by simp
  rw [e0]
  cases hi:all[i]? with
  |none=>rw [hi] at hk; exact hk.elim
  |some o=>
   rw [hi] at hk
   simp only at hk⊢
   have yes:∀ρ',wantedF all.toArray (lk ρ) o=some true→lk ρ' =lk ρ→vcOne P U hm o ρ' h (fun X h' =>vcDrH P U n all hm is (put ρ' o.dst X) h' K)→hStep P all.toArray hm o (hList P all.toArray (fun _=>hm) (fun F h=>∃ρ,lk ρ=F∧K ρ h) is) (lk ρ) h:=by
    intro ρ' hw hl hv
    unfold vcOne at hv
    cases he:effB o.op with
    |true=>
     rw [he,if_pos rfl] at hv
     have:=vcE_sound hU he hv
     rw [hl] at this
     refine .inl ⟨hw, .inl ⟨he,_,this,fun X h' hq=>⟨hq.1, ?_⟩⟩⟩
     have:=vcDrH_hList hU is _ _ hq.2
     rw [lk_put,hl] at this
     exact this
    |false=>
     rw [he,if_neg (by simp)] at hv
     obtain ⟨X,hQ,hX⟩:=pure_sound hU hv
     rw [hl] at hX
     refine .inl ⟨hw, .inr ⟨X,hX.quiet, ?_⟩⟩
     have:=vcDrH_hList hU is _ _ hQ
     rw [lk_put,hl] at this
     exact this
   have no:∀ρ',wantedF all.toArray (lk ρ) o=some false→lk ρ' =lk ρ→vcDrH P U n all hm is (put ρ' o.dst (.v undef)) h K→hStep P all.toArray hm o (hList P all.toArray (fun _=>hm) (fun F h=>∃ρ,lk ρ=F∧K ρ h) is) (lk ρ) h:=by
    intro ρ' hw hl hv
    have:=vcDrH_hList hU is _ _ hv
    rw [lk_put,hl] at this
    exact .inr ⟨hw,this⟩
   unfold guardA at hk
   split at hk
   ·rename_i hg
    exact yes ρ (by grind [wantedF]) rfl hk
   ·rename_i g want hg
    split at hk
    ·rename_i d hd'
     have hd2:((all.toArray)[g]?).bind (·.dst)=some d:=by grind [dstAt]
     split at hk
     ·rename_i t ht
      have hw:wantedF all.toArray (lk ρ) o=some (t==want):=by
       grind [wantedF]
      by_cases e:t=want
      ·exact yes _ (by grind) (by grind [lk_learn']) (hk.1 e)
      ·have e' :t= !want:=by cases t<;>cases want<;>simp_all
       exact no _ (by grind) (by grind [lk_learn']) (hk.2 e')
     ·rename_i vs ht
      refine no ρ ?_ rfl hk
      grind [wantedF]
     ·exact hk.elim
    ·exact hk.elim
def newB (U:TypeId→TI):Op→Option Blk
 | .alloc t=>some (if isUnit (U t).k then .obj [] t else .obj (U t).zero.cells t)
 |_=>none
def sideN (U:TypeId→TI):Op→Prop
 | .alloc t=>isUnit (U t).k=true∨(U t).sz≠0∧fit (U t).zero (U t).sz
 |_=>False
def vcSides (U:TypeId→TI) (all:List Oper):List Nat→Prop
 | []=>True
 |i::is=>(match all[i]? with
  |none=>False
  |some o=>sideN U o.op)∧vcSides U all is
def vcNew (P:Program) (U:TypeId→TI) (all:List Oper):List Nat→Env→Heap→(Env→Heap→Prop)→Prop
 | [],ρ,h,K=>K ρ h
 |i::is,ρ,h,K=>match all[i]? with
  |none=>False
  |some o=>vcOp P U ρ h o fun X h' =>vcNew P U all is (put ρ o.dst X) h' K
theorem vcOp_new {ρ:Env} {h:Heap} {o:Oper} {Q:AV→Heap→Prop} {B:Blk} (hB:newB U o.op=some B) (hs:sideN U o.op):vcOp P U ρ h o Q↔∀id,h id=none→Q (.ptr id 0) (upd h id (some B)):=by
 obtain ⟨d,op,t,p,a,g⟩:=o
 cases op with
 |alloc ty=>
  simp only [newB,Option.some.injEq] at hB
  simp only [sideN] at hs
  simp only [vcOp]
  grind
 |_=>grind [newB]
def newSt (U:TypeId→TI) (ops:Array Oper) (ids:Nat→Nat) (s:EF×Heap) (i:Nat):EF×Heap:=match ops[i]? with
 |some o=>(putF s.1 o.dst (.ptr (ids i) 0),upd s.2 (ids i) (newB U o.op))
 |none=>s
def Fresh (h:Heap) (is:List Nat) (ids:Nat→Nat):Prop:=(∀i∈is,h (ids i)=none)∧(is.map ids).Nodup
theorem setAll_perm {l l'} (hp:l.Perm l') (listed):setAll l listed=setAll l' listed:=by
 have e:∀(l:List Nat) (x:Array Bool),setAll l x=l.foldl (fun x k=>x.setIfInBounds k true) x:=fun l=>by
  induction l with
  |nil=>intro x; rfl
  |cons k l ih=>intro x; exact ih _
 rw [e,e]
 refine hp.foldl_eq' (fun x _ y _ z=> ?_) listed
 grind
theorem newSt_comm {ids:Nat→Nat} {is:List Nat} (hd:(is.map fun i=>(ops[i]?).bind (·.dst)).Nodup) (hs:∀i∈is,∃o d,ops[i]? =some o∧o.dst=some d) (hi:(is.map ids).Nodup):
  ∀x∈is,∀y∈is,∀z,newSt U ops ids (newSt U ops ids z x) y=newSt U ops ids (newSt U ops ids z y) x:=by
 have inj:∀ {α:Type} {f:Nat→α} {l:List Nat},(l.map f).Nodup→∀x∈l,∀y∈l,f x=f y→x=y:=by
  intro α f l
  induction l with
  |nil=>simp
  |cons k l ih=>
   grind
 intro x hx y hy z
 by_cases e:x=y
 ·grind
 obtain ⟨ox,dx,hox,hdx⟩:=hs x hx
 obtain ⟨oy,dy,hoy,hdy⟩:=hs y hy
 simp only [newSt,hox,hoy]
 rw [putF_comm z.1 _ _ (by grind)]
 congr 1
 grind [upd]
theorem hAny_news {E} {Q} {m}:∀(fuel:Nat) (is:List Nat) (listed:Array Bool) (F:EF) (h:Heap),Closed md ops listed→permOK md ops fuel is listed=true→Sub hm h→is.Nodup→
  (is.map fun i=>(ops[i]?).bind (·.dst)).Nodup→
  (∀i∈is,∃o d B,ops[i]? =some o∧o.guard=none∧o.dst=some d∧effB o.op=true∧newB U o.op=some B∧∀F h,EOK P o F h fun X h' =>∃id,h id=none∧X= .ptr id 0∧h' =upd h id (some B))→
  (Closed md ops (setAll is listed)→∀ids,Fresh h is ids→gAny md ops (hS P ops fun _=>hm) E Q m (setAll is listed) (is.foldl (newSt U ops ids) (F,h)).1 (is.foldl (newSt U ops ids) (F,h)).2)→gAny md ops (hS P ops fun _=>hm) E Q (m+is.length) listed F h:=by
 intro fuel
 induction fuel with
 |zero=>
  intro is listed F h hcl hp _ _ _ _ H
  have:is= []:=by simpa [permOK] using hp
  subst this
  exact H hcl id ⟨by simp,by simp⟩
 |succ fuel ih=>
  intro is listed F h hcl hp hs hn hdn ho H
  simp only [permOK,Bool.or_eq_true,List.isEmpty_iff,Bool.and_eq_true,Bool.not_eq_true',List.all_eq_true] at hp
  rcases hp with rfl|⟨hp1,hp2⟩
  ·exact H hcl id ⟨by simp,by simp⟩
  have hne:Region.ready md ops listed≠ []:=fun e=>by rw [e] at hp1; simp at hp1
  obtain ⟨i0,hi0⟩:=List.exists_mem_of_ne_nil _ hne
  have hl0:m+is.length=(m+(is.length - 1))+1:=by
   have:=List.length_pos_of_mem (show i0∈is by simpa using (hp2 i0 hi0).1)
   omega
  rw [hl0]
  refine ⟨fun e=>absurd e hne,fun i hi=> ?_⟩
  obtain ⟨h1,h2⟩:=hp2 i hi
  have h1:i∈is:=by simpa using h1
  obtain ⟨o,d,B,e1,e2,e3,e4,e5,e6⟩:=ho i h1
  have hpm:=List.perm_cons_erase h1
  unfold hS hOp
  simp only [e1]
  refine .inl ⟨by simp [wantedF,e2], .inl ⟨e4,_,e6 F h, ?_⟩⟩
  rintro X h' ⟨id,hid,rfl,rfl⟩
  have hs' :Sub hm (upd h id (some B)):=fun j b hj=>by
   have:=hs j b hj
   simp only [upd]
   by_cases e:j=id
   ·subst e; rw [hid] at this; cases this
   ·simp [e,this]
  refine ⟨hs', ?_⟩
  have hle:(is.length - 1)=(is.erase i).length:=(List.length_erase_of_mem h1).symm
  rw [hle]
  have hni:i∉is.erase i:=fun hm=>by
   have:=hpm.nodup_iff.1 hn
   exact (List.nodup_cons.1 this).1 hm
  refine ih (is.erase i) _ _ _ (hcl.set hi) h2 hs' (hn.erase i) (((hpm.map _).nodup_iff.1 hdn).of_cons) (fun j hj=>ho j (List.mem_of_mem_erase hj)) fun hcl2 ids hf=> ?_
  have hmem:∀j∈is.erase i,j≠i:=fun j hj e=>hni (e▸hj)
  let ids' :Nat→Nat:=fun j=>if j=i then id else ids j
  have hids:∀j∈is.erase i,ids' j=ids j:=fun j hj=>by simp [ids',hmem j hj]
  have hfr:∀j∈is.erase i,ids j≠id∧h (ids j)=none:=fun j hj=>by
   have:=hf.1 j hj
   simp only [upd] at this
   split at this
   ·cases this
   ·rename_i e; exact ⟨e,this⟩
  have hfresh:Fresh h is ids' :=by
   refine ⟨fun j hj=> ?_, ?_⟩
   ·by_cases e:j=i
    ·subst e; simp [ids',hid]
    ·have hj' :j∈is.erase i:=(List.mem_erase_of_ne e).2 hj
     rw [hids j hj']
     exact (hfr j hj').2
   ·rw [(hpm.map ids').nodup_iff,List.map_cons,List.nodup_cons]
    have em:(is.erase i).map ids' =(is.erase i).map ids:=List.map_congr_left hids
    rw [em]
    refine ⟨fun hm=> ?_,hf.2⟩
    obtain ⟨j,hj,he⟩:=List.mem_map.1 hm
    exact (hfr j hj).1 (by rw [he]; simp [ids'])
  have hh:=H (by rw [setAll_perm hpm]; exact hcl2) ids' hfresh
  have hfold:is.foldl (newSt U ops ids') (F,h)=(is.erase i).foldl (newSt U ops ids) (putF F o.dst (.ptr id 0),upd h id (some B)):=by
   rw [hpm.foldl_eq' (newSt_comm hdn (fun j hj=>by obtain ⟨o,d,B,a1,_,a3,_⟩:=ho j hj; exact ⟨o,d,a1,a3⟩) hfresh.2),List.foldl_cons]
   have e0:newSt U ops ids' (F,h) i=(putF F o.dst (.ptr id 0),upd h id (some B)):=by simp [newSt,e1,ids',e5]
   rw [e0]
   have:∀(l:List Nat) (s:EF×Heap),(∀j∈l,ids' j=ids j)→l.foldl (newSt U ops ids') s=l.foldl (newSt U ops ids) s:=fun l=>by
    induction l with
    |nil=>intro s _; rfl
    |cons k l ih=>
     intro s hl
     rw [List.foldl_cons,List.foldl_cons,ih _ fun j hj=>hl j (List.mem_cons_of_mem _ hj)]
     have:newSt U ops ids' s k=newSt U ops ids s k:=by simp only [newSt,hl k (List.mem_cons_self ..)]
     rw [this]
   exact this _ _ hids
  rw [hfold,setAll_perm hpm] at hh
  exact hh
theorem vcNew_all {all:List Oper} {K:Env→Heap→Prop}:∀(is:List Nat) (ρ:Env) (h:Heap),(∀i∈is,∃o B,all[i]? =some o∧newB U o.op=some B∧sideN U o.op)→vcNew P U all is ρ h K→∀ids,Fresh h is ids→
  ∃ρ',lk ρ' =(is.foldl (newSt U all.toArray ids) (lk ρ,h)).1∧K ρ' (is.foldl (newSt U all.toArray ids) (lk ρ,h)).2
 | [],ρ,h,_,hk,ids,_=>⟨ρ,rfl,hk⟩
 |i::is,ρ,h,ho,hk,ids,hf=>by
  obtain ⟨o,B,e1,e2,e3⟩:=ho i (List.mem_cons_self ..)
  simp only [vcNew,e1] at hk
  have hk:=(vcOp_new e2 e3).1 hk (ids i) (hf.1 i (List.mem_cons_self ..))
  have hn:=hf.2
  rw [List.map_cons,List.nodup_cons] at hn
  have hf' :Fresh (upd h (ids i) (some B)) is ids:=⟨fun j hj=>by
   have:ids j≠ids i:=fun e=>hn.1 (e▸List.mem_map.2 ⟨j,hj,rfl⟩)
   simp only [upd,this,if_false]
   exact hf.1 j (List.mem_cons_of_mem _ hj),hn.2⟩
  obtain ⟨ρ',h1,h2⟩:=vcNew_all is _ _ (by grind) hk ids hf'
  have e0:newSt U all.toArray ids (lk ρ,h) i=(lk (put ρ o.dst (.ptr (ids i) 0)),upd h (ids i) (some B)):=by
   simp_all [some,newSt,lk_put]
  refine ⟨ρ', ?_, ?_⟩
  ·grind
  ·rw [List.foldl_cons,e0]; exact h2
def vcDrT (P:Program) (U:TypeId→TI) (n:Nat) (all:List Oper) (hm:Heap):Ord→Env→Heap→(Env→Heap→Prop)→Prop
 | .seq l,ρ,h,K=>vcDrH P U n all hm l ρ h K
 | .fork l i a j b,ρ,h,K=>vcDrH P U n all hm l ρ h fun ρ h=>
  vcDrH P U n all hm [i] ρ h (fun ρ h=>vcDrT P U n all hm a ρ h K)∧vcDrH P U n all hm [j] ρ h (fun ρ h=>vcDrT P U n all hm b ρ h K)
 | .quiet l i t,ρ,h,K=>vcDrH P U n all hm l ρ h fun ρ h=>match all[i]? with
  |none=>False
  |some o=>o.guard=none∧vcQ P U ρ hm o fun X=>vcDrT P U n all hm t (put ρ o.dst X) h K
 | .news l is t,ρ,h,K=>vcDrH P U n all hm l ρ h fun ρ h=>Sub hm h∧vcSides U all is∧vcNew P U all is ρ h fun ρ h=>vcDrT P U n all hm t ρ h K
theorem vcDrT_any {n:Nat} (hU:∀t,AgreeT P U t) {md:Region.Mode} {all:List Oper} {K:Env→Heap→Prop} {z:Option Nat} (hz:∀i,Ends md all.toArray (EndZ md all.toArray z) i):∀(t:Ord) (listed:Array Bool) (ρ:Env) (h:Heap),Closed md all.toArray listed→ordOK md all.toArray z t listed=true→vcDrT P U n all hm t ρ h K→
  gAny md all.toArray (hS P all.toArray fun _=>hm) (EndZ md all.toArray z) (fun F h=>∃ρ,lk ρ=F∧K ρ h) t.len listed (lk ρ) h
 | .seq l,listed,ρ,h,hc,hB,hk=>by
  simp only [ordOK,Bool.and_eq_true] at hB
  have:=hAny_pref (H:=fun _=>hm) 0 l listed _ h (fun i _=>hz i) hc hB.1 (hList_mono (fun F h hh=>⟨hB.2,hh⟩) l _ h (vcDrH_hList hU l ρ h hk))
  rwa [Nat.zero_add] at this
 | .fork l i a j b,listed,ρ,h,hc,hB,hk=>by
  simp only [ordOK,Bool.and_eq_true,beq_iff_eq] at hB
  obtain ⟨⟨⟨h1,h2⟩,h3⟩,h4,h5⟩:=hB
  have hc' :=closed_setAll l listed hc h1
  refine hAny_pref (a.len+1) l listed _ h (fun i _=>hz i) hc h1 (hList_mono (fun F h hh=> ?_) l _ h (vcDrH_hList hU l ρ h hk))
  obtain ⟨ρ',rfl,g1,g2⟩:=hh
  refine ⟨fun e=>(by rw [h2] at e; cases e),fun k hk' => ?_⟩
  have hc2:=hc'.set hk'
  rw [h2] at hk'
  rcases List.mem_cons.1 hk' with rfl|hk'
  ·exact hOp_mono (fun F h hh=>by obtain ⟨ρ2,rfl,hh⟩:=hh; exact vcDrT_any hU hz a _ ρ2 h hc2 h4 hh) (vcDrH_hList hU [k] ρ' h g1)
  ·obtain rfl:k=j:=by grind
   exact hOp_mono (fun F h hh=>by obtain ⟨ρ2,rfl,hh⟩:=hh; rw [h3]; exact vcDrT_any hU hz b _ ρ2 h hc2 h5 hh) (vcDrH_hList hU [k] ρ' h g2)
 | .quiet l i t,listed,ρ,h,hc,hB,hk=>by
  simp only [ordOK,Bool.and_eq_true] at hB
  obtain ⟨h1,⟨h2,h3⟩,h4⟩:=hB
  have hc' :=closed_setAll l listed hc h1
  refine hAny_pref (t.len+1) l listed _ h (fun i _=>hz i) hc h1 (hList_mono (fun F h hh=> ?_) l _ h (vcDrH_hList hU l ρ h hk))
  obtain ⟨ρ',rfl,g⟩:=hh
  cases hi:all[i]? with
  |none=>grind
  |some o=>
   rw [hi] at g
   simp only at g
   obtain ⟨X,hX,hq⟩:=vcQ_sound hU g.2
   have hi' :all.toArray[i]? =some o:=by grind
   have hin:i∈Region.ready md all.toArray (setAll l listed):=by grind
   refine hSys.first hi' (hz i) t.len _ _ h hc' h3 hin ⟨o,hi', .inl ⟨by grind [wantedF],hq⟩⟩ ?_
   rw [←lk_put]
   exact vcDrT_any hU hz t _ _ h (hc'.set hin) h4 hX
 | .news l is t,listed,ρ,h,hc,hB,hk=>by
  simp only [ordOK,newsOK,Bool.and_eq_true,decide_eq_true_eq] at hB
  obtain ⟨h1,⟨⟨⟨h2,h3⟩,h4⟩,h5⟩,h6⟩:=hB
  have hc' :=closed_setAll l listed hc h1
  refine hAny_pref (t.len+is.length) l listed _ h (fun i _=>hz i) hc h1 (hList_mono (fun F h hh=> ?_) l _ h (vcDrH_hList hU l ρ h hk))
  obtain ⟨ρ',rfl,g1,g2,g3⟩:=hh
  have side:∀(is:List Nat),vcSides U all is→∀i∈is,∃o,all[i]? =some o∧sideN U o.op:=fun is=>by
   induction is with
   |nil=>simp
   |cons k is ih=>
    intro hs i hi
    simp only [vcSides] at hs
    grind
  have hall:∀i∈is,∃o d B,all.toArray[i]? =some o∧o.guard=none∧o.dst=some d∧effB o.op=true∧newB U o.op=some B∧sideN U o.op:=fun i hi=>by
   obtain ⟨o,ha,hs⟩:=side is g2 i hi
   have ha' :all.toArray[i]? =some o:=by grind
   have hn:=List.all_eq_true.1 h5 i hi
   rw [ha'] at hn
   simp only [Option.map_some,Option.getD_some,newOp,Bool.and_eq_true,Option.isNone_iff_eq_none,Option.isSome_iff_exists] at hn
   obtain ⟨⟨n1,d,n2⟩,n3⟩:=hn
   split at n3
   ·rename_i ty hop
    exact ⟨o,d,_,ha',n1,n2,by rw [hop]; rfl,by rw [hop]; rfl,hs⟩
   ·cases n3
  refine hAny_news (U:=U) is.length is _ _ h hc' h2 g1 h3 h4 (fun i hi=> ?_) fun hc2 ids hf=> ?_
  ·obtain ⟨o,d,B,a1,a2,a3,a4,a5,a6⟩:=hall i hi
   refine ⟨o,d,B,a1,a2,a3,a4,a5,fun F h=> ?_⟩
   intro c a hs g hd hr
   exact vcOp_sound hU ((vcOp_new (ρ:= []) a5 a6).2 fun id hid=>⟨id,hid,rfl,rfl⟩) hs g ⟨rfl,hd,fun t x hx=>by cases hx⟩
  ·obtain ⟨ρ2,b1,b2⟩:=vcNew_all is ρ' h (fun i hi=>by
    grind) g3 ids hf
   rw [←b1]
   exact vcDrT_any hU hz t _ ρ2 _ hc2 h6 b2
end
end Go.Ab

set_option linter.unusedSimpArgs false
set_option linter.unusedVariables false
namespace Go.Ab
open Go
section
variable {P : Program} {U : TypeId → TI} {ops : Array Oper} {md : Region.Mode} {H : Nat → Heap}
def lateH (hm:Heap) (l1:List Nat) (i:Nat):Heap:=if l1.contains i then hm else fun _=>none
def lateOK (md:Region.Mode) (ops:Array Oper) (l1:List Nat):Bool:=(List.range ops.size).all fun j=>match ops[j]? with
 |some o=>if effB o.op then !l1.contains j && l1.all fun k=>(ancStep md ops (ancStep md ops (ancStep md ops [j]))).contains k else true
 |none=>true
def lateK (md:Region.Mode) (ops:Array Oper) (l1 l2:List Nat):Bool:=lateOK md ops l1 && ordOK md ops none (.seq (l1++l2)) (Array.replicate ops.size false) && ((l1++l2).length==ops.size) && l2.all fun i=> !l1.contains i
theorem lateOK_spec {l} (hb:lateOK md ops l=true) {listed} (hc:Closed md ops listed) {j} {oj} (hoj:ops[j]? =some oj) (he:effB oj.op=true) (hj:j∈Region.ready md ops listed):j∉l∧∀k∈l,listed.getD k false=true:=by
 unfold lateOK at hb
 rw [List.all_eq_true] at hb
 have hm:=hb j (by grind)
 rw [hoj] at hm
 simp only [he,if_true,Bool.and_eq_true,Bool.not_eq_true'] at hm
 have hl:j∉l:=fun h=>by have:=hm.1; rw [List.contains_iff_mem.2 h] at this; cases this
 refine ⟨hl,fun k hk=> ?_⟩
 have s0:∀k∈ [j],k≠j→listed.getD k false=true:=fun k hk hn=>absurd (by simpa using hk) hn
 have s3:=ancStep_spec hc hj (ancStep_spec hc hj (ancStep_spec hc hj s0))
 have h2:=hm.2
 rw [List.all_eq_true] at h2
 have:=h2 k hk
 rw [List.contains_iff_mem] at this
 exact s3 k this fun e=>hl (e▸hk)
theorem hOp_up {hm hm'} {i} {o} {K} {F} {h} (ho:ops[i]? =some o) (he:effB o.op=false) (hs:Sub hm hm') (hd:hOp P ops hm i K F h):hOp P ops hm' i K F h:=by
 unfold hOp at*
 simp only [ho] at*
 rcases hd with ⟨h1,⟨h2,_⟩|⟨X,h3,h4⟩⟩|h1
 ·rw [he] at h2; cases h2
 ·exact .inl ⟨h1, .inr ⟨X,fun g hg=>h3 g fun j k e=>hg _ _ (hs _ _ e),h4⟩⟩
 ·exact .inr h1
theorem late_sound {n} {E} {Q} {Q'} {c0} {hm} {l1} (hb:lateOK md ops l1=true) (hdst:∀o∈ops.toList,dstOK n o.dst=true)
  (h0:∀listed c F h a,Ext c0 c→Sub h c.h→Good c→EnvF c n F a→E listed→Q F h→wpAny P md ops Q' 0 listed a c.w) (fuel) (listed) (c) (F) (h) (a) (hc:Closed md ops listed) (h1:Ext c0 c) (h2:Sub h c.h) (hor:Sub hm c.h) (h3:Good c) (h4:EnvF c n F a)
  (hd:gAny md ops (hS P ops (lateH hm l1)) E Q fuel listed F h):wpAny P md ops Q' (0+fuel) listed a c.w:=by
 refine gAny_sound (T:=fun listed c F h a=>Closed md ops listed∧Ext c0 c∧Sub h c.h∧(Sub hm c.h∨∀k∈l1,listed.getD k false=true)∧Good c∧EnvF c n F a) (fun listed i K c F h a K' ⟨hc,h1,h2,hor,h3,h4⟩ hi hdi hk=> ?_)
  (fun listed c F h a ⟨_,k1,k2,_,k3,k4⟩ he hq=>h0 listed c F h a k1 k2 k3 k4 he hq) fuel listed c F h a ⟨hc,h1,h2, .inl hor,h3,h4⟩ hd
 unfold hS at hdi
 have hset:=hc.set hi
 obtain ⟨hun,oi,hoi,_⟩:=mem_ready.1 hi
 have hun' :listed.getD i false=false:=by
  clear hdi
  grind
 have late:(∀k∈l1,listed.getD k false=true)→∀k∈l1,(listed.setIfInBounds i true).getD k false=true:=fun hh k hk=>by
  have:=hh k hk
  by_cases e:i=k
  ·subst e; rw [hun'] at this; cases this
  ·rw [getD_set_ne false e]; exact this
 have low:i∉l1→(∀k∈l1,listed.getD k false=true)→wpOp P ops Q' i K' a c.w:=fun hni hall=>by
  have eH:lateH hm l1 i=fun _=>none:=by
   unfold lateH
   rw [if_neg (by rw [List.contains_iff_mem]; exact hni)]
  rw [eH] at hdi
  exact hOp_sound hdst (fun c F h a k1 k2 _ k3 k4 hK=>hk c F h a ⟨hset,k1,k2, .inr (late hall),k3,k4⟩ hK) h1 h2 (fun _ _ e=>by cases e) h3 h4 hdi
 cases he:effB oi.op with
 |true=>
  obtain ⟨hni,hall⟩:=lateOK_spec hb hc hoi he hi
  exact low hni hall
 |false=>
  rcases hor with hs|hall
  ·exact hOp_sound hdst (fun c F h a k1 k2 k2' k3 k4 hK=>hk c F h a ⟨hset,k1,k2, .inl k2',k3,k4⟩ hK) h1 h2 hs h3 h4 (hOp_up hoi he (fun j k e=>by
    unfold lateH at e
    split at e
    ·exact e
    ·cases e) hdi)
  ·exact low (fun hh=>by
    rw [hall i hh] at hun'
    cases hun') hall
theorem hList_of {hm} {Q Q'} (hq:∀F h,Q F h→Q' F h):∀(l:List Nat) (F:EF) (h:Heap),(∀i∈l,H i=hm)→hList P ops (fun _=>hm) Q l F h→hList P ops H Q' l F h
 | [],F,h,_,hd=>hq F h hd
 |i::l,F,h,hh,hd=>by
  show hOp P ops (H i) i _ F h
  rw [hh i (by simp)]
  exact hOp_mono (fun F h hd=>hList_of hq l F h (fun i hi=>hh i (by simp [hi])) hd) hd
theorem hList_app {Q}:∀(l l' :List Nat) (F:EF) (h:Heap),hList P ops H (hList P ops H Q l') l F h→hList P ops H Q (l++l') F h
 | [],_,_,_,hd=>hd
 |i::l,l',F,h,hd=>hOp_mono (fun F h hd=>hList_app l l' F h hd) hd
end
end Go.Ab

set_option linter.unusedSimpArgs false
set_option linter.unusedVariables false
namespace Go.Ab
open Go
section
variable (P : Program) (U : TypeId → TI) (n : Nat)
def KSeq (next:Env→Heap→Prop) (K:Exit→Env→Heap→Prop) (e:Exit) (ρ:Env) (h:Heap):Prop:=
 match e with
 | .normal=>next ρ h
 |e=>K e ρ h
def KBlock (id:Nat) (K:Exit→Env→Heap→Prop) (e:Exit) (ρ:Env) (h:Heap):Prop:=
 match e with
 | .exit j=>if j=id then K .normal ρ h else K (.exit j) ρ h
 |e=>K e ρ h
def wf1:AV→Prop
 | .s l=>l.length<lim
 | .sl xs _=>xs.length<lim
 |_=>True
def wfA:AV→Prop
 | .agg cs=>∀x∈cs,wf1 x
 | .pe y _=>∀x∈y.cells,wf1 x
 |x=>wf1 x
def Wf (ρ:Env):Prop:=∀t x,lk ρ t=some x→wfA x
def LoopVC (body:Env→Heap→(Exit→Env→Heap→Prop)→Prop) (ρ:Env) (h:Heap) (K:Exit→Env→Heap→Prop):Prop:=
 Wf ρ→∃(I:Nat→Env→Heap→Prop) (m:Nat),I m ρ h∧∀m ρ h,I m ρ h→body ρ h (KSeq (fun ρ' h' =>∃m',m' <m∧I m' ρ' h') K)
def vcDr (all:List Oper):List Oper→Env→Heap→(Env→Prop)→Prop
 | [],ρ,_,K=>K ρ
 |o::os,ρ,h,K=>dstOK n o.dst=true∧guardA all ρ o.guard
   (fun ρ=>vcD1 P U ρ h o fun X=>vcDr all os (put ρ o.dst X) h K)
   (fun ρ=>vcDr all os (put ρ o.dst (.v undef)) h K)
def lexOK (ops:Array Oper):Bool:=lexG .any ops none ops.size 0 (Array.replicate ops.size false)
def isStore:Op→Bool
 | .store .. =>true
 |_=>false
def lastS:List Oper→Bool
 | []=>false
 | [o]=>isStore o.op && o.guard.isNone
 |_::b::r=>lastS (b::r)
def lexS (ops:Array Oper):Bool:=zOKt .any ops (ops.size - 1) && lexG .any ops (some (ops.size - 1)) (ops.size - 1) 0 (Array.replicate ops.size false)
def lastK (l:List Oper) (h:Heap) (K:Env→Heap→Prop) (ρ:Env):Prop:=match l.getLast? with
 |some o=>vcOp P U ρ h o fun X h' =>K (put ρ o.dst X) h'
 |none=>False
def stillL (l:List Oper):Bool:=l.all fun o=> !effB o.op
def vcDrE (P:Program) (U:TypeId→TI) (n:Nat) (ops:Array Oper) (ρ:Env) (h:Heap) (K:Env→Heap→Prop):Prop:=
 (ops.toList.all fun o=>dstOK n o.dst)=true∧
 (lexOK ops=true∧vcDr P U n ops.toList ops.toList ρ h (fun ρ=>K ρ h)∨
  (∃(hm:Heap) (t:Ord) (Post:Env→Heap→Prop),Sub hm h∧ordOK .any ops none t (Array.replicate ops.size false)=true∧t.len=ops.size∧vcDrT P U n ops.toList hm t ρ h Post∧∀ρ h,Post ρ h→K ρ h)∨
  (∃(hm:Heap) (l1 l2:List Nat),Sub hm h∧stageOK .any ops l1 l2=true∧vcDrH P U n ops.toList hm l1 ρ h (fun ρ h=>∃hm2,Sub hm2 h∧vcDrH P U n ops.toList hm2 l2 ρ h K))∨
  (∃(hm:Heap) (t:Ord),Sub hm h∧zOKt .any ops t.len=true∧(ops.toList.getLast?.map fun o=>o.guard.isNone)=some true∧ordOK .any ops (some t.len) t (Array.replicate ops.size false)=true∧t.len+1=ops.size∧vcDrT P U n ops.toList hm t ρ h (fun ρ h=>lastK P U ops.toList h K ρ))∨
  ∃(hm:Heap) (l1 l2:List Nat),Sub hm h∧lateK .any ops l1 l2=true∧vcDrH P U n ops.toList hm l1 ρ h (fun ρ h=>vcDrH P U n ops.toList (fun _=>none) l2 ρ h K))
def WP (c:Code) (ρ:Env) (h:Heap) (K:Exit→Env→Heap→Prop):Prop:=
 ∀cx a,Sub h cx.h→Good cx→EnvSat cx n ρ a→c.wp P (WPK n K cx) a cx.w
def KJump (l:Nat) (J:Env→Heap→Prop) (K:Exit→Env→Heap→Prop):Exit→Env→Heap→Prop
 | .goto l',ρ,h=>l' =l∧J ρ h
 |e,ρ,h=>K e ρ h
def vcCode:Code→Env→Heap→(Exit→Env→Heap→Prop)→Prop
 | .skip,ρ,h,K=>K .normal ρ h
 | .region _ ops draw,ρ,h,K=>if draw then (if lastS ops.toList && stillL ops.toList.dropLast then (lexS ops && ops.toList.all fun o=>dstOK n o.dst)=true∧vcDr P U n ops.toList ops.toList.dropLast ρ h (lastK P U ops.toList h (K .normal)) else if stillL ops.toList=false then vcDrE P U n ops ρ h (K .normal) else (lexOK ops && ops.toList.all fun o=>dstOK n o.dst)=true∧vcDr P U n ops.toList ops.toList ρ h (fun ρ=>K .normal ρ h)) else vcOps P U n ops.toList ops.toList ρ h (K .normal)
 | .seq a b,ρ,h,K=>vcCode a ρ h (KSeq (fun ρ h=>vcCode b ρ h K) K)
 | .cond c a b,ρ,h,K=>withv ρ c fun
  | .v (.bool t)=>(t=true→vcCode a ρ h K)∧(t=false→vcCode b ρ h K)
  |_=>False
 | .block id c,ρ,h,K=>vcCode c ρ h (KBlock id K)
 | .loop c,ρ,h,K=>LoopVC (fun ρ h K=>vcCode c ρ h K) ρ h K
 | .exit id,ρ,h,K=>K (.exit id) ρ h
 | .ret,ρ,h,K=>K .ret ρ h
 | .label _,ρ,h,K=>K .normal ρ h
 | .goto l,ρ,h,K=>K (.goto l) ρ h
 | .scope c,ρ,h,K=>∃(l:Nat) (rest:Code) (J:Nat→Env→Heap→Prop),findLabel c l=some rest∧vcCode c ρ h (KJump l (fun ρ h=>∃m,J m ρ h) K)∧
  ∀m ρ h,J m ρ h→WP P n rest ρ h (KJump l (fun ρ' h' =>∃m',m' <m∧J m' ρ' h') K)
 |_,_,_,_=>False
end
section
variable {P : Program} {U : TypeId → TI} {n : Nat}
theorem WPK.mono {K K'} {c0} (hk:∀e ρ h,K e ρ h→K' e ρ h) {e} {a} {w} (h:WPK n K c0 e a w):WPK n K' c0 e a w:=by
 obtain ⟨c,ρ,hh,h1,h2,h3,h4,h5,h6⟩:=h
 exact ⟨c,ρ,hh,h1,h2,h3,h4,h5,hk _ _ _ h6⟩
theorem WP.weaken {c} {ρ} {h} {K K'} (hw:WP P n c ρ h K) (hk:∀e ρ h,K e ρ h→K' e ρ h):WP P n c ρ h K' :=
 fun cx a h1 h2 h3=>wp_mono (hw cx a h1 h2 h3) fun _ _ _=>WPK.mono hk
theorem WP.seq {c d} {ρ} {h} {K} (hc:WP P n c ρ h (KSeq (WP P n d · · K) K)):WP P n (.seq c d) ρ h K:=by
 intro cx a h1 h2 h3
 refine wp_seq (wp_mono (hc cx a h1 h2 h3) fun e a w hq=> ?_)
 obtain ⟨c',ρ',h',rfl,g,hE,he,hs,hk⟩:=hq
 cases e with
 |normal=>
  have:=hk c' a hs g he
  exact wp_mono this fun _ _ _=>WPK.after hE
 |_=>exact ⟨c',ρ',h',rfl,g,hE,he,hs,hk⟩
theorem WP.block {id} {c} {ρ} {h} {K} (hc:WP P n c ρ h (KBlock id K)):WP P n (.block id c) ρ h K:=by
 intro cx a h1 h2 h3
 refine wp_block (wp_mono (hc cx a h1 h2 h3) fun e a w hq=> ?_)
 obtain ⟨c',ρ',h',rfl,g,hE,he,hs,hk⟩:=hq
 cases e with
 |exit j=>
  simp only [Exit.inBlock,KBlock] at hk⊢
  split
  ·rename_i e; rw [if_pos e] at hk; exact ⟨c',ρ',h',rfl,g,hE,he,hs,hk⟩
  ·rename_i e; rw [if_neg e] at hk; exact ⟨c',ρ',h',rfl,g,hE,he,hs,hk⟩
 |_=>exact ⟨c',ρ',h',rfl,g,hE,he,hs,hk⟩
theorem wp_loop_down {c} {Q:Exit→Act→World→Prop} (I:Nat→Act→World→Prop) (round:∀m a w,I m a w→c.wp P (Exit.then (fun a' w' =>∃m',m' <m∧I m' a' w') Q) a w):
  ∀m a w,I m a w→(Code.loop c).wp P Q a w:=by
 intro m a w h0 b k cs
 have key:∀n a w,I n a w→∃e a' w',Q e a' w'∧Arrives P (lone (b.at a (.code c:: .inLoop c::k)) cs w) b k cs e a' w' :=by
  intro n
  induction n using Nat.strongRecOn with
  |_ n ih=>
   intro a w hI
   obtain ⟨e,a₁,w₁,hq,harr⟩:=round n a w hI b (.inLoop c::k) cs
   cases e with
   |normal=>
    obtain ⟨m',hlt,hI₁⟩:=hq
    obtain ⟨e₂,a₂,w₂,hq₂,harr₂⟩:=ih m' hlt a₁ w₁ hI₁
    exact ⟨e₂,a₂,w₂,hq₂, .of_steps (Steps.trans harr (.one step_inLoop)) harr₂⟩
   |exit id=>exact ⟨_,a₁,w₁,hq, .pass (x:= .inLoop c) rfl (by simp) harr⟩
   |goto l=>exact ⟨_,a₁,w₁,hq, .pass (x:= .inLoop c) rfl (by simp) harr⟩
   |ret=>exact ⟨_,a₁,w₁,hq, .pass (x:= .inLoop c) rfl (by simp) harr⟩
   |panic ch=>exact ⟨_,a₁,w₁,hq, .pass (x:= .inLoop c) rfl (by simp) harr⟩
   |outgrown=>exact ⟨_,a₁,w₁,hq, .pass (x:= .inLoop c) rfl (by simp) harr⟩
 obtain ⟨e,a',w',hq,harr⟩:=key m a w h0
 exact ⟨e,a',w',hq, .of_steps (.one step_loop) harr⟩
def Exit.jumpTo (l:Nat) (J:Act→World→Prop) (Q:Exit→Act→World→Prop):Exit→Act→World→Prop
 | .goto l',a,w=>l' =l∧J a w
 |e,a,w=>Q e a w
theorem wp_scope_down {c rest} {Q:Exit→Act→World→Prop} {a} {w} (l:Nat) (J:Nat→Act→World→Prop) (hf:findLabel c l=some rest)
  (first:c.wp P (Exit.jumpTo l (fun a w=>∃m,J m a w) Q) a w)
  (pass:∀m a w,J m a w→rest.wp P (Exit.jumpTo l (fun a' w' =>∃m',m' <m∧J m' a' w') Q) a w):(Code.scope c).wp P Q a w:=by
 intro b k cs
 have hg:gotoIn l (.inScope c::k)=some (.code rest:: .inScope c::k):=by grind [gotoIn]
 have key:∀m a w,J m a w→∃e a' w',Q e a' w'∧Arrives P (lone (b.at a (.code rest:: .inScope c::k)) cs w) b k cs e a' w' :=by
  intro m
  induction m using Nat.strongRecOn with
  |_ m ih=>
   intro a w hJ
   obtain ⟨e,a₁,w₁,hq,harr⟩:=pass m a w hJ b (.inScope c::k) cs
   cases e with
   |normal=>exact ⟨.normal,a₁,w₁,hq,Steps.trans harr (.one step_inScope)⟩
   |exit id=>exact ⟨.exit id,a₁,w₁,hq,fun k' hk=>harr k' (by grind [exitTo])⟩
   |goto l' =>
    obtain ⟨rfl,m',hlt,hJ'⟩:=hq
    obtain ⟨e₂,a₂,w₂,hq₂,harr₂⟩:=ih m' hlt a₁ w₁ hJ'
    exact ⟨e₂,a₂,w₂,hq₂, .of_steps (harr _ hg) harr₂⟩
   |ret=>exact ⟨_,a₁,w₁,hq,harr⟩
   |panic ch=>exact ⟨_,a₁,w₁,hq,harr⟩
   |outgrown=>exact ⟨_,a₁,w₁,hq,harr⟩
 obtain ⟨e,a₁,w₁,hq,harr⟩:=first b (.inScope c::k) cs
 cases e with
 |normal=>exact ⟨.normal,a₁,w₁,hq, .head step_scope (Steps.trans harr (.one step_inScope))⟩
 |exit id=>exact ⟨.exit id,a₁,w₁,hq,fun k' hk=> .head step_scope (harr k' (by grind [exitTo]))⟩
 |goto l' =>
  obtain ⟨rfl,m,hJ⟩:=hq
  obtain ⟨e₂,a₂,w₂,hq₂,harr₂⟩:=key m a₁ w₁ hJ
  exact ⟨e₂,a₂,w₂,hq₂, .of_steps (.head step_scope (harr _ hg)) harr₂⟩
 |ret=>exact ⟨_,a₁,w₁,hq, .of_steps (.one step_scope) harr⟩
 |panic ch=>exact ⟨_,a₁,w₁,hq, .of_steps (.one step_scope) harr⟩
 |outgrown=>exact ⟨_,a₁,w₁,hq, .of_steps (.one step_scope) harr⟩
theorem WP.scope {c rest} {ρ:Env} {h:Heap} {K:Exit→Env→Heap→Prop} (l:Nat) (J:Nat→Env→Heap→Prop) (hf:findLabel c l=some rest) (first:WP P n c ρ h (KJump l (fun ρ h=>∃m,J m ρ h) K))
  (pass:∀m ρ h,J m ρ h→WP P n rest ρ h (KJump l (fun ρ' h' =>∃m',m' <m∧J m' ρ' h') K)):WP P n (.scope c) ρ h K:=by
 intro cx a h1 h2 h3
 refine wp_scope_down l (fun m a w=>∃c' ρ' h',c'.w=w∧Good c'∧Ext cx c'∧EnvSat c' n ρ' a∧Sub h' c'.h∧J m ρ' h') hf (wp_mono (first cx a h1 h2 h3) fun e a w hq=> ?_) ?_
 ·obtain ⟨c2,ρ2,h2,rfl,g2,hE2,he2,hs2,hk⟩:=hq
  cases e with
  |goto l' =>obtain ⟨e1,m,hI⟩:=hk; exact ⟨e1,m,c2,ρ2,h2,rfl,g2,hE2,he2,hs2,hI⟩
  |_=>exact ⟨c2,ρ2,h2,rfl,g2,hE2,he2,hs2,hk⟩
 ·rintro m a w ⟨c',ρ',h',rfl,g,hE,he,hs,hI⟩
  refine wp_mono (pass m ρ' h' hI c' a hs g he) fun e a w hq=> ?_
  obtain ⟨c2,ρ2,h2,rfl,g2,hE2,he2,hs2,hk⟩:=hq
  cases e with
  |goto l' =>
   obtain ⟨e1,m',hlt,hI'⟩:=hk
   exact ⟨e1,m',hlt,c2,ρ2,h2,rfl,g2,hE.trans hE2,he2,hs2,hI'⟩
  |_=>exact ⟨c2,ρ2,h2,rfl,g2,hE.trans hE2,he2,hs2,hk⟩
theorem WP.loop {c} {ρ:Env} {h:Heap} {K:Exit→Env→Heap→Prop} (I:Nat→Env→Heap→Prop) (m:Nat) (h0:I m ρ h) (round:∀m ρ h,I m ρ h→WP P n c ρ h (KSeq (fun ρ' h' =>∃m',m' <m∧I m' ρ' h') K)):
  WP P n (.loop c) ρ h K:=by
 intro cx a h1 h2 h3
 refine wp_loop_down (fun m a w=>∃c' ρ' h',c'.w=w∧Good c'∧Ext cx c'∧EnvSat c' n ρ' a∧Sub h' c'.h∧I m ρ' h') ?_ m a cx.w ⟨cx,ρ,h,rfl,h2, .refl _,h3,h1,h0⟩
 rintro m a w ⟨c',ρ',h',rfl,g,hE,he,hs,hI⟩
 refine wp_mono (round m ρ' h' hI c' a hs g he) fun e a w hq=> ?_
 obtain ⟨c2,ρ2,h2,rfl,g2,hE2,he2,hs2,hk⟩:=hq
 cases e with
 |normal=>
  obtain ⟨m',hlt,hI'⟩:=hk
  exact ⟨m',hlt,c2,ρ2,h2,rfl,g2,hE.trans hE2,he2,hs2,hI'⟩
 |_=>exact ⟨c2,ρ2,h2,rfl,g2,hE.trans hE2,he2,hs2,hk⟩
theorem WP.ops (hU:∀t,AgreeT P U t) {id} {ops} {ρ} {h} {K} (hk:vcOps P U n ops.toList ops.toList ρ h (K .normal)):WP P n (.region id ops false) ρ h K:=by
 intro cx a h1 h2 h3
 refine wp_region_list ?_
 have:=vcOps_sound (K:=K) hU cx ops.toList ρ h hk cx a (.refl _) h1 h2 h3
 simpa using this
theorem Rep.wf1 {c} {x} {u} (h:Rep c x u):wf1 x:=by
 cases x with
 |s l=>exact h.s_inv.2
 |sl xs p=>obtain ⟨a,cap,sz,val,_,hs⟩:=h.sl_inv; have:=hs.hc; have:=hs.hm; simp only [Ab.wf1]; omega
 |_=>trivial
theorem Rep.wf {c} {x} {u} (h:Rep c x u):wfA x:=by
 cases x with
 |agg cs=>
  obtain ⟨vs,_,_,hr,_⟩:=h.agg_inv
  intro x hx
  obtain ⟨i,hi,rfl⟩:=List.mem_iff_getElem.1 hx
  grind [wf1]
 |pe y off=>
  obtain ⟨b,o,val,_,_,_,hr,_⟩:=h.pe_inv
  intro x hx
  obtain ⟨i,hi,rfl⟩:=List.mem_iff_getElem.1 hx
  grind [wf1]
 |_=>exact h.wf1
theorem EnvSat.wf {c} {ρ} {a} (h:EnvSat c n ρ a):Wf ρ:=fun t x hx=>(h.rep t x hx).wf
theorem lk_learn {ρ} {d} {x} (hd:lk ρ d=some x):lk ((d,x)::ρ)=lk ρ:=by
 grind [lk]
theorem vcDr_dList (hU:∀t,AgreeT P U t) {all} {h} {K}:∀(l:List Oper) (ρ:Env),vcDr P U n all l ρ h K→dList P all.toArray h (fun F=>∃ρ,lk ρ=F∧K ρ) l (lk ρ)
 | [],ρ,hk=>⟨ρ,rfl,hk⟩
 |o::os,ρ,hk=>by
  obtain ⟨hd,hk⟩:=hk
  have yes:∀ρ',wantedF all.toArray (lk ρ) o=some true→lk ρ' =lk ρ→(vcD1 P U ρ' h o fun X=>vcDr P U n all os (put ρ' o.dst X) h K)→dStep P all.toArray h o (dList P all.toArray h (fun F=>∃ρ,lk ρ=F∧K ρ) os) (lk ρ):=by
   intro ρ' hw hl hv
   obtain ⟨X,hQ,hX⟩:=vcD1_sound hU hv
   have:=vcDr_dList hU os _ hQ
   rw [lk_put,hl] at this
   rw [hl] at hX
   exact .inl ⟨hw,X,hX,this⟩
  have no:∀ρ',wantedF all.toArray (lk ρ) o=some false→lk ρ' =lk ρ→vcDr P U n all os (put ρ' o.dst (.v undef)) h K→dStep P all.toArray h o (dList P all.toArray h (fun F=>∃ρ,lk ρ=F∧K ρ) os) (lk ρ):=by
   intro ρ' hw hl hv
   have:=vcDr_dList hU os _ hv
   rw [lk_put,hl] at this
   exact .inr ⟨hw,this⟩
  unfold guardA at hk
  split at hk
  ·rename_i hg
   exact yes ρ (by grind [wantedF]) rfl hk
  ·rename_i g want hg
   split at hk
   ·rename_i d hd'
    have hd2:((all.toArray)[g]?).bind (·.dst)=some d:=by grind [dstAt]
    split at hk
    ·rename_i t ht
     have hw:wantedF all.toArray (lk ρ) o=some (t==want):=by
      grind [wantedF]
     by_cases e:t=want
     ·exact yes _ (by grind) (by grind [lk_learn]) (hk.1 e)
     ·have e' :t= !want:=by cases t<;>cases want<;>simp_all
      exact no _ (by grind) (by grind [lk_learn]) (hk.2 e')
    ·rename_i vs ht
     refine no ρ ?_ rfl hk
     grind [wantedF]
    ·exact hk.elim
   ·exact hk.elim
theorem WP.any (hm:P.follows .mixedOrders=true) {id} {ops} {ρ} {h} {K} (hk:∀c0 c a,Ext c0 c→Sub h c.h→Good c→EnvF c n (lk ρ) a→wpAny P .any ops (WPK n K c0) ops.size (Array.replicate ops.size false) a c.w):WP P n (.region id ops true) ρ h K:=by
 intro cx a h1 h2 h3
 have hE:Ext cx {cx with w:= {cx.w with drawn:=cx.w.drawn+1}}:=Ext.draw rfl rfl rfl rfl
 exact wp_region_any hm (hk cx {cx with w:= {cx.w with drawn:=cx.w.drawn+1}} a hE h1 (h2.draw rfl rfl rfl rfl) ⟨h3.size,h3.defers,fun t x hx=>(h3.rep t x hx).mono hE⟩)
theorem end_any {ops} {K} {listed} {c0 c} {F} {h} {a} (hE:Ext c0 c) (hs:Sub h c.h) (g:Good c) (he:EnvF c n F a) (hz:EndZ .any ops none listed) (hK:∃ρ,lk ρ=F∧K .normal ρ h):wpAny P .any ops (WPK n K c0) 0 listed a c.w:=by
 obtain ⟨ρ',rfl,hK⟩:=hK
 exact ⟨by simpa [EndZ,endB] using hz,c,ρ',h,rfl,g,hE,⟨he.1,he.2.1,he.2.2⟩,hs,hK⟩
theorem end_last (hU:∀t,AgreeT P U t) {ops} {K} {z} {oz} (hoz:ops.toList.getLast? =some oz) (hgz:oz.guard=none) (hzz:ops[z]? =some oz) (hdst:∀o∈ops.toList,dstOK n o.dst=true) {listed} {c0 c} {F} {h} {a} (hE:Ext c0 c) (hs:Sub h c.h) (g:Good c) (he:EnvF c n F a)
  (hz:EndZ .any ops (some z) listed) (hK:∃ρ,lk ρ=F∧lastK P U ops.toList h (K .normal) ρ):wpAny P .any ops (WPK n K c0) 1 listed a c.w:=by
 obtain ⟨ρ',rfl,hK⟩:=hK
 simp only [EndZ,endB,Bool.and_eq_true,beq_iff_eq,List.isEmpty_iff] at hz
 refine ⟨fun e=>(by rw [hz.1] at e; cases e),fun i hi=> ?_⟩
 rw [hz.1] at hi
 obtain rfl:i=z:=by grind
 refine wpOp_mono (fun a w hh=>⟨hz.2,hh⟩) ?_
 unfold lastK at hK
 rw [hoz] at hK
 have he' :EnvSat c n ρ' a:=⟨he.1,he.2.1,he.2.2⟩
 have hdz:dstOK n oz.dst=true:=by grind
 have hu:=vcOp_sound hU hK hs g he'
 unfold wpOp
 rw [hzz]
 simp only
 rw [if_pos (by grind [Region.wanted])]
 left
 have next:∀u w',Comes1 c (fun X h' =>K .normal (put ρ' oz.dst X) h') u w'→WPK n K c0 .normal (a.put oz.dst u) w' :=by
  rintro u w' ⟨c',x,h',rfl,g',hE',hr,hs',hK⟩
  exact ⟨c',_,h',rfl,g',hE.trans hE',(he'.mono hE').put hdz hr,hs',hK⟩
 unfold Oper.wp
 generalize (execOp a.eval oz).run P c.w=r at hu
 cases r with
 |ok nx w' =>
  cases nx<;>simp only [Upon1] at hu<;>simp only [Oper.upon]
  case value u=>exact next u w' hu
  case skip=>exact next undef w' hu
  case enter f args=>
   obtain ⟨rfl,hc⟩:=hu
   exact hc.mono fun e w'' ⟨u,he,hcm⟩=>by grind
 |halt x w' =>exact hu.elim
theorem WP.draw (hU:∀t,AgreeT P U t) (hm:P.follows .mixedOrders=true) {id} {ops} {ρ} {h} {K} (hdst:∀o∈ops.toList,dstOK n o.dst=true) (hB:lexOK ops=true)
  (hk:vcDr P U n ops.toList ops.toList ρ h (fun ρ=>K .normal ρ h)):WP P n (.region id ops true) ρ h K:=
 WP.any hm fun c0 c a hE h1 h2 h3=>by
 have hd:=dAny_lex (md:= .any) (ops:=ops) (z:=none) (fun k e=>by cases e) ops.toList 0 (Array.replicate ops.size false) (lk ρ) h (.none _ _ _) (by simp) (by grind [lexOK]) (by simpa using vcDr_dList hU ops.toList ρ hk)
 simpa using dAny_sound (m:=0) hdst (fun listed c F g a k1 k2 k3 k4 he hq=>end_any k1 k2 k3 k4 he hq) _ _ c _ h a hE h1 h2 h3 hd
theorem WP.drawH (hU:∀t,AgreeT P U t) (hm:P.follows .mixedOrders=true) {id} {ops} {ρ} {h hl} {K} {t} {Post} (hdst:∀o∈ops.toList,dstOK n o.dst=true) (hsub:Sub hl h)
  (hB:ordOK .any ops none t (Array.replicate ops.size false)=true) (hlen:t.len=ops.size)
  (hk:vcDrT P U n ops.toList hl t ρ h Post) (hp:∀ρ h,Post ρ h→K .normal ρ h):WP P n (.region id ops true) ρ h K:=
 WP.any hm fun c0 c a hE h1 h2 h3=>by
 have hd:=vcDrT_any (md:= .any) (all:=ops.toList) (z:=none) hU (ends_z fun k e=>by cases e) t (Array.replicate ops.size false) ρ h (.none _ _ _) hB hk
 have:=hAny_sound (m:=0) hdst (fun listed c F h a k1 k2 k3 k4 he ⟨ρ,e,hq⟩=>end_any k1 k2 k3 k4 he ⟨ρ,e,hp _ _ hq⟩) _ _ c _ h a hE h1 (fun i k hi=>h1 _ _ (hsub _ _ hi)) h2 h3 hd
 rw [hlen,Nat.zero_add] at this
 exact this
theorem WP.drawP (hU:∀t,AgreeT P U t) (hm:P.follows .mixedOrders=true) {id} {ops} {ρ} {h hl} {K} {l1 l2} (hdst:∀o∈ops.toList,dstOK n o.dst=true) (hsub:Sub hl h)
  (hB:stageOK .any ops l1 l2=true) (hk:vcDrH P U n ops.toList hl l1 ρ h (fun ρ h=>∃hm2,Sub hm2 h∧vcDrH P U n ops.toList hm2 l2 ρ h (K .normal))):WP P n (.region id ops true) ρ h K:=
 WP.any hm fun c0 c a hE h1 h2 h3=>by
 simp only [stageOK,Bool.and_eq_true,List.all_eq_true,beq_iff_eq] at hB
 obtain ⟨⟨⟨⟨b1,b2⟩,b3⟩,b4⟩,b5⟩:=hB
 have hcl:=Closed.none .any ops ops.size
 have hd:=hAny_pref (md:= .any) 0 l1 (Array.replicate ops.size false) (lk ρ) h (ends_fin b2 b3) hcl b1 (hList_mono (fun F h hh=>⟨rfl,hh⟩) l1 _ h (vcDrH_hList hU l1 ρ h hk))
 rw [Nat.zero_add] at hd
 have:=hAny_sound (m:=l2.length) hdst (fun listed c F h a k1 k2 k3 k4 he hR=>by
  subst he
  obtain ⟨ρ',rfl,hm2,hs2,hk2⟩:=hR
  have ha:=vcDrT_any (md:= .any) (all:=ops.toList) (z:=none) (hm:=hm2) hU (ends_z fun k e=>by cases e) (.seq l2) _ ρ' h (closed_setAll l1 _ hcl b1) b4 hk2
  have:=hAny_sound (m:=0) hdst (fun listed c F h a k1 k2 k3 k4 he hq=>end_any k1 k2 k3 k4 he hq) _ _ c _ h a k1 k2 (fun i k hi=>k2 _ _ (hs2 _ _ hi)) k3 k4 ha
  rwa [Nat.zero_add] at this) _ _ c _ h a hE h1 (fun i k hi=>h1 _ _ (hsub _ _ hi)) h2 h3 hd
 rw [b5] at this
 exact this
theorem WP.drawL (hU:∀t,AgreeT P U t) (hm:P.follows .mixedOrders=true) {id} {ops} {ρ} {h hl} {K} {l1 l2} (hdst:∀o∈ops.toList,dstOK n o.dst=true) (hsub:Sub hl h)
  (hB:lateK .any ops l1 l2=true) (hk:vcDrH P U n ops.toList hl l1 ρ h (fun ρ h=>vcDrH P U n ops.toList (fun _=>none) l2 ρ h (K .normal))):WP P n (.region id ops true) ρ h K:=
 WP.any hm fun c0 c a hE h1 h2 h3=>by
 simp only [lateK,ordOK,Bool.and_eq_true,beq_iff_eq,List.all_eq_true] at hB
 obtain ⟨⟨⟨b1,b2,b5⟩,b3⟩,b4⟩:=hB
 have hcl:=Closed.none .any ops ops.size
 have hd2:hList P ops (lateH hl l1) (fun F h=>∃ρ,lk ρ=F∧K .normal ρ h) (l1++l2) (lk ρ) h:=
  hList_app _ _ _ _ (hList_of (fun F h ⟨ρ',e,hk2⟩=>by
   subst e
   exact hList_of (fun _ _ hh=>hh) l2 _ h (fun i hi=>by
    have:=b4 i hi
    unfold lateH
    rw [if_neg (by simpa using this)]) (vcDrH_hList hU l2 ρ' h hk2)) l1 _ h (fun i hi=>by unfold lateH; rw [if_pos (List.contains_iff_mem.2 hi)]) (vcDrH_hList hU l1 ρ h hk))
 have ha:=hAny_pref (md:= .any) (E:=EndZ .any ops none) 0 _ _ _ _ (fun i _=>ends_z (fun k e=>by cases e) i) hcl b2 (hList_mono (fun F h hh=>⟨b5,hh⟩) _ _ h hd2)
 rw [Nat.zero_add] at ha
 have:=late_sound b1 hdst (fun listed c F h a k1 k2 k3 k4 he hq=>end_any k1 k2 k3 k4 he hq) _ _ c _ h a hcl hE h1 (fun i k hi=>h1 _ _ (hsub _ _ hi)) h2 h3 ha
 rw [b3,Nat.zero_add] at this
 exact this
theorem lastS_spec:∀ {l:List Oper},lastS l=true→∃o,l.getLast? =some o∧o.guard=none
 | [o],h=>⟨o,rfl,by simp_all [lastS,Bool.and_eq_true]⟩
 |_::b::r,h=>by
  obtain ⟨o,h1,h2⟩:=lastS_spec (l:=b::r) h
  grind
theorem WP.drawZ (hU:∀t,AgreeT P U t) (hm:P.follows .mixedOrders=true) {id} {ops} {ρ} {h hl} {K} {l} (hdst:∀o∈ops.toList,dstOK n o.dst=true) (hsub:Sub hl h)
  (hz:zOKt .any ops l.len=true) (hg:(ops.toList.getLast?.map fun o=>o.guard.isNone)=some true) (hB:ordOK .any ops (some l.len) l (Array.replicate ops.size false)=true) (hlen:l.len+1=ops.size)
  (hk:vcDrT P U n ops.toList hl l ρ h (fun ρ h=>lastK P U ops.toList h (K .normal) ρ)):WP P n (.region id ops true) ρ h K:=
 WP.any hm fun c0 c a hE h1 h2 h3=>by
 obtain ⟨oz,hoz,hgz⟩:=Option.map_eq_some_iff.1 hg
 have hzz:ops[l.len]? =some oz:=by
  grind
 have hd:=vcDrT_any (md:= .any) (all:=ops.toList) (z:=some l.len) hU (ends_z fun k e=>by cases e; exact hz) l (Array.replicate ops.size false) ρ h (.none _ _ _) hB hk
 have:=hAny_sound (m:=1) hdst (fun listed c F h a k1 k2 k3 k4 he hq=>end_last hU hoz (by simpa using hgz) hzz hdst k1 k2 k3 k4 he hq) _ _ c _ h a hE h1 (fun i k hi=>h1 _ _ (hsub _ _ hi)) h2 h3 hd
 rw [Nat.add_comm,hlen] at this
 exact this
theorem WP.drawS (hU:∀t,AgreeT P U t) (hm:P.follows .mixedOrders=true) {id} {ops} {ρ} {h} {K} (hdst:∀o∈ops.toList,dstOK n o.dst=true) (hl:lastS ops.toList=true) (hB:lexS ops=true)
  (hk:vcDr P U n ops.toList ops.toList.dropLast ρ h (lastK P U ops.toList h (K .normal))):WP P n (.region id ops true) ρ h K:=
 WP.any hm fun c0 c a hE h1 h2 h3=>by
 obtain ⟨oz,hoz,hgz⟩:=lastS_spec hl
 unfold lexS at hB
 rw [Bool.and_eq_true] at hB
 have hpos:0<ops.size:=by
  grind
 have hz:ops[ops.size - 1]? =some oz:=by
  grind
 have hlen:ops.toList.dropLast.length=ops.size - 1:=by simp
 have hd:=dAny_lex (md:= .any) (ops:=ops) (z:=some (ops.size - 1)) (fun k e=>by cases e; exact hB.1) ops.toList.dropLast 0 (Array.replicate ops.size false) (lk ρ) h (.none _ _ _) (by grind) (by grind) (by simpa using vcDr_dList hU ops.toList.dropLast ρ hk)
 have:=dAny_sound (m:=1) hdst (fun listed c F g a k1 k2 k3 k4 he hq=>end_last hU hoz hgz hz hdst k1 k2 k3 k4 he hq) _ _ c _ h a hE h1 h2 h3 hd
 rw [hlen,Nat.add_comm,Nat.sub_add_cancel hpos] at this
 exact this
theorem vcCode_sound (hU:∀t,AgreeT P U t) (hm:P.follows .mixedOrders=true):∀(c:Code) (ρ:Env) (h:Heap) (K:Exit→Env→Heap→Prop),vcCode P U n c ρ h K→WP P n c ρ h K
 | .skip,ρ,h,K,hk=>fun cx a h1 h2 h3=>wp_skip ⟨cx,ρ,h,rfl,h2, .refl _,h3,h1,hk⟩
 | .region id ops draw,ρ,h,K,hk=>by
  simp only [vcCode] at hk
  cases draw with
  |true=>
   simp only [if_true] at hk
   split at hk
   ·rename_i hl
    obtain ⟨hb,hk⟩:=hk
    rw [Bool.and_eq_true,List.all_eq_true] at hb
    rw [Bool.and_eq_true] at hl
    exact WP.drawS hU hm hb.2 hl.1 hb.1 hk
   ·split at hk
    ·obtain ⟨hb,hk⟩:=hk
     rw [List.all_eq_true] at hb
     rcases hk with ⟨h1,hk⟩|⟨hm',t,Post,h1,h2,h3,hk,hp⟩|⟨hm',l1,l2,h1,h2,hk⟩|⟨hm',l,h1,h2,h4,h5,h6,hk⟩|⟨hm',l1,l2,h1,h2,hk⟩
     ·exact WP.draw hU hm hb h1 hk
     ·exact WP.drawH hU hm hb h1 h2 h3 hk hp
     ·exact WP.drawP hU hm hb h1 h2 hk
     ·exact WP.drawZ hU hm hb h1 h2 h4 h5 h6 hk
     ·exact WP.drawL hU hm hb h1 h2 hk
    ·obtain ⟨hb,hk⟩:=hk
     rw [Bool.and_eq_true,List.all_eq_true] at hb
     exact WP.draw hU hm hb.2 hb.1 hk
  |false=>exact WP.ops hU (by grind)
 | .seq a b,ρ,h,K,hk=>by
  simp only [vcCode] at hk
  refine WP.seq ((vcCode_sound hU hm a ρ h _ hk).weaken fun e ρ' h' hh=> ?_)
  cases e with
  |normal=>exact vcCode_sound hU hm b ρ' h' K hh
  |_=>exact hh
 | .cond c a b,ρ,h,K,hk=>by
  simp only [vcCode] at hk
  obtain ⟨y,hy,hk⟩:=withv_elim hk
  split at hk
  ·rename_i t
   intro cx ac h1 h2 h3
   have hv:=(ev_rep h3 hy).v_inv
   exact wp_cond_split hv (fun e=>vcCode_sound hU hm a ρ h K (hk.1 e) cx ac h1 h2 h3) (fun e=>vcCode_sound hU hm b ρ h K (hk.2 e) cx ac h1 h2 h3)
  ·exact hk.elim
 | .block id c,ρ,h,K,hk=>WP.block (vcCode_sound hU hm c ρ h _ (by grind [vcCode]))
 | .loop c,ρ,h,K,hk=>by
  simp only [vcCode] at hk
  intro cx a h1 h2 h3
  obtain ⟨I,m,h0,hr⟩:=hk h3.wf
  exact WP.loop I m h0 (fun m ρ h hI=>vcCode_sound hU hm c ρ h _ (hr m ρ h hI)) cx a h1 h2 h3
 | .exit id,ρ,h,K,hk=>fun cx a h1 h2 h3=>wp_exit ⟨cx,ρ,h,rfl,h2, .refl _,h3,h1,by simpa only [vcCode] using hk⟩
 | .ret,ρ,h,K,hk=>fun cx a h1 h2 h3=>wp_ret ⟨cx,ρ,h,rfl,h2, .refl _,h3,h1,by simpa only [vcCode] using hk⟩
 | .label l,ρ,h,K,hk=>fun cx a h1 h2 h3=>wp_label ⟨cx,ρ,h,rfl,h2, .refl _,h3,h1,by simpa only [vcCode] using hk⟩
 | .goto l,ρ,h,K,hk=>fun cx a h1 h2 h3=>wp_goto ⟨cx,ρ,h,rfl,h2, .refl _,h3,h1,by simpa only [vcCode] using hk⟩
 | .rangeFunc ..,_,_,_,hk=>by simp [vcCode] at hk
 | .scope c,ρ,h,K,hk=>by
  simp only [vcCode] at hk
  obtain ⟨l,rest,J,hf,h1,h2⟩:=hk
  exact WP.scope l J hf (vcCode_sound hU hm c ρ h _ h1) h2
 | .refuse _,_,_,_,hk=>by simp [vcCode] at hk
def resA (ρ:Env) (h:Heap) (U:TypeId→TI):List ResultVar→(List AV→Prop)→Prop
 | [],k=>k []
 | .tmp t::r,k=>match lk ρ t with
  |some x=>resA ρ h U r fun xs=>k (x::xs)
  |none=>False
 | .cell t ty::r,k=>match lk ρ t with
  |some (.ptr id off)=>match h id with
   |some (.obj cs _)=>(U ty).sz≠0∧(U ty).k≠ .other∧partA cs off (U ty) fun x=>resA ρ h U r fun xs=>k (x::xs)
   |_=>False
  |_=>False
def oneOr (xs:List AV):AV:=match xs with
 | [x]=>x
 |xs=> .tup xs
inductive Weak:AV→AV→Prop where
 |refl (x:AV):Weak x x
 |sl (xs:List AV) (p:Perm):Weak (.sl xs p) (.sl xs .no)
 |agg (xs ys:List AV) (hl:xs.length=ys.length) (h:∀i (h1:i<xs.length) (h2:i<ys.length),Weak xs[i] ys[i]):Weak (.agg xs) (.agg ys)
 |tup (xs ys:List AV) (hl:xs.length=ys.length) (h:∀i (h1:i<xs.length) (h2:i<ys.length),Weak xs[i] ys[i]):Weak (.tup xs) (.tup ys)
 |deep (xs ys:List AV) (p:Perm) (hl:xs.length=ys.length) (hc:∀i (h1:i<xs.length) (h2:i<ys.length),xs[i].cells.length=ys[i].cells.length)
   (h:∀i (h1:i<xs.length) (h2:i<ys.length) j (h3:j<xs[i].cells.length) (h4:j<ys[i].cells.length),Weak xs[i].cells[j] ys[i].cells[j]):Weak (.sl xs p) (.sl ys .no)
theorem Rep.weak {c} {x y} (hw:Weak x y):∀ {u:Value},Rep c x u→Rep c y u:=by
 induction hw with
 |refl x=>simp
 |sl xs p=>
  intro u h
  obtain ⟨a,cap,sz,val,rfl,hs⟩:=h.sl_inv
  exact .sl xs .no a cap sz val hs.hc hs.hm hs.h0 hs.hs hs.hz hs.hf hs.hr hs.ho trivial
 |agg xs ys hl h ih=>
  intro u hu
  obtain ⟨vs,rfl,h1,h2,h3⟩:=hu.agg_inv
  exact .agg ys vs (by omega) (by grind) (by grind)
 |tup xs ys hl h ih=>
  intro u hu
  obtain ⟨vs,rfl,h1,h2⟩:=hu.tup_inv
  exact .tup ys vs (by omega) (by grind)
 |deep xs ys p hl hc h ih=>
  intro u hu
  obtain ⟨a,cap,sz,val,rfl,hs⟩:=hu.sl_inv
  rw [hl]
  exact .sl ys .no a cap sz val (by rw [←hl]; exact hs.hc) hs.hm hs.h0 hs.hs (fun i hi=>by rw [←hc i (by omega) hi]; exact hs.hz i (by omega)) (fun q hq i j hi hj=>hs.hf q hq i j (by omega) hj)
   (fun i hi j hj=>ih i (by omega) hi j (by grind) hj (hs.hr i (by omega) j (by grind))) (fun i j hi hj=>hs.ho i j (by omega) hj) trivial
theorem FnOK.weak {f} {args args'} {h} {Q} (hf:FnOK P f args' h Q) (hl:args.length=args'.length) (hw:∀i (h1:i<args.length) (h2:i<args'.length),Weak args[i] args'[i]):FnOK P f args h Q:=
 fun c vs h1 h2 h3 h4=>hf c vs h1 h2 (by omega) fun i hi=>(h4 i (by omega)).weak (by grind)
theorem resA_sound (hU:∀t,AgreeT P U t) {c} {ρ} {h} {a} (hs:Sub h c.h) (g:Good c) (he:EnvSat c n ρ a):∀(rs:List ResultVar) (k:List AV→Prop),resA ρ h U rs k→
  ∃(xs:List AV) (vs:List Value),k xs∧vs.length=xs.length∧(∀i (h1:i<xs.length) (h2:i<vs.length),Rep c xs[i] vs[i])∧
   (rs.mapM fun (r:ResultVar)=>match r with| .tmp t=>(pure (a.tmps.getD t undef):Sem Value)| .cell q t=>do loadVar t (←asAddr (a.tmps.getD q undef))).run P c.w= .ok vs c.w
 | [],k,hk=>⟨[],[],hk,rfl,fun i h=>(by cases h),by simp⟩
 | .tmp t::r,k,hk=>by
  simp only [resA] at hk
  split at hk
  ·rename_i x hx
   obtain ⟨xs,vs,h1,h2,h3,h4⟩:=resA_sound hU hs g he r _ hk
   refine ⟨x::xs,a.tmps.getD t undef::vs,h1,by grind,fun i hi1 hi2=> ?_, ?_⟩
   ·cases i with
    |zero=>exact he.rep _ _ hx
    |succ i=>exact h3 i (by grind) (by grind)
   simp_all
  grind
 | .cell t ty::r,k,hk=>by
  simp only [resA] at hk
  split at hk
  ·rename_i id off hx
   split at hk
   ·rename_i cs t' hid
    obtain ⟨hz,ht,hk⟩:=hk
    obtain ⟨x,hk,hX⟩:=partA_load (P:=P) hU hz ht hk
    obtain ⟨xs,vs,h1,h2,h3,h4⟩:=resA_sound hU hs g he r _ hk
    obtain ⟨hu,_⟩:=(he.rep _ _ hx).ptr_inv
    obtain ⟨us,u1,u2,u3⟩:=g.obj id cs t' (hs _ _ hid)
    obtain ⟨v,v1,v2⟩:=hX c (c.φ id).block 0 (fun j=>us.getD j undef) (fun j hj=>by
     simp_all [World.cell?]) (fun j hj=>(u3 j hj).1) (fun j hj=>(u3 j hj).2)
    rw [Nat.zero_add] at v1
    refine ⟨x::xs,v::vs,h1,by grind,fun i hi1 hi2=> ?_, ?_⟩
    ·cases i with
     |zero=>exact v2
     |succ i=>exact h3 i (by grind) (by grind)
    simp_all [asAddr,undef,none]
   grind
  grind
def envOf (args:List AV):Env:=args.zipIdx.map fun p=>(p.2,p.1)
theorem lk_envOf:∀(args:List AV) (k t:Nat),lk ((args.zipIdx k).map fun p=>(p.2,p.1)) t=if k≤t then args[t - k]? else none
 | [],k,t=>by simp [lk]
 |x::r,k,t=>by
  have ih:=lk_envOf r (k+1) t
  simp only [List.zipIdx_cons,List.map_cons,lk,ih]
  by_cases e:k=t
  ·subst e; simp
  ·rw [if_neg e]
   by_cases h:k≤t
   ·rw [if_pos (by omega),if_pos h]
    rw [show t - k=(t - (k+1))+1 by omega]
    rfl
   ·rw [if_neg (by omega),if_neg h]
def bodyK (U:TypeId→TI) (rs:List ResultVar) (Q:AV→Heap→Prop) (e:Exit) (ρ:Env) (h:Heap):Prop:=
 (match e with| .ret| .normal=>True|_=>False)∧resA ρ h U rs fun xs=>∃y h',Weak (oneOr xs) y∧Sub h' h∧Q y h'
theorem FnOK.of_wp0 (hU:∀t,AgreeT P U t) {f} {fn} {c} {args} {h} {Q} (hf:P.funcs[f]? =some fn) (hb:fn.body=some c)
  (hn : (fn.name == "runtime.NumGoroutine") = false) (hl : args.length ≤ fn.ntmps)
  (hk:(∀x∈args,wfA x)→WP P fn.ntmps c (envOf args) h (bodyK U fn.results.toList Q)):FnOK P f args h Q:=by
 intro cx vs hs g hv hr
 refine .inl ⟨⟨fn,hf,hn,by grind⟩,calls_of_wp hf hb ?_⟩
 have hwf:∀x∈args,wfA x:=fun x hx=>by
  obtain ⟨i,hi,rfl⟩:=List.mem_iff_getElem.1 hx
  exact (hr i hi).wf
 have hw:=hk hwf
 have he:EnvSat cx fn.ntmps (envOf args) {tmps:=vs++Array.replicate (fn.ntmps - vs.size) undef,defers:= []}:=by
  refine ⟨by grind,rfl,fun t x hx=> ?_⟩
  have:=lk_envOf args 0 t
  simp only [Nat.zero_le,if_true,Nat.sub_zero] at this
  have e:lk (envOf args) t=args[t]? :=this
  rw [e] at hx
  obtain ⟨hi,rfl⟩:=List.getElem?_eq_some_iff.1 hx
  have h1:=hr t hi
  have h2:t<vs.size:=by omega
  have e2:(vs++Array.replicate (fn.ntmps - vs.size) undef).getD t undef=vs.getD t undef:=by
   rw [Array.getD,dif_pos (by grind),Array.getD,dif_pos h2]
   simp_all
  simp only [e2]
  exact h1
 refine wp_mono (hw cx _ hs g he) fun e a w hq=> ?_
 obtain ⟨c',ρ',h',rfl,g',hE,he',hs',hk1,hk2⟩:=hq
 obtain ⟨xs,us,⟨y,h'',hwk,hsub,hQ⟩,hl',hr',hrun⟩:=resA_sound hU hs' g' he' _ _ hk2
 have hres:∃u,(results fn a.tmps).run P c'.w= .ok u c'.w∧Rep c' (oneOr xs) u:=by
  have hrun' :(fn.results.mapM fun (r:ResultVar)=>match r with| .tmp t=>(pure (a.tmps.getD t undef):Sem Value)| .cell q t=>do loadVar t (←asAddr (a.tmps.getD q undef))).run P c'.w= .ok us.toArray c'.w:=by
   simp_all [Array.mapM_eq_mapM_toList,Sem.run_map]
  have hres0:(results fn a.tmps).run P c'.w= .ok (if h:us.toArray.size=1 then us.toArray[0] else .tuple us.toArray) c'.w:=by
   have e0:results fn a.tmps=(fn.results.mapM fun (r:ResultVar)=>match r with| .tmp t=>(pure (a.tmps.getD t undef):Sem Value)| .cell q t=>do loadVar t (←asAddr (a.tmps.getD q undef)))>>=fun vs=>pure (if h:vs.size=1 then vs[0] else .tuple vs):=rfl
   rw [e0,Sem.run_bind,hrun']
   rfl
  by_cases h1:us.length=1
  ·obtain ⟨u,rfl⟩:=List.length_eq_one_iff.1 h1
   obtain ⟨x,rfl⟩:=List.length_eq_one_iff.1 (hl'.symm.trans h1)
   refine ⟨u, ?_,hr' 0 (by simp) (by simp)⟩
   grind
  ·refine ⟨.tuple us.toArray, ?_, ?_⟩
   ·grind
   ·have:oneOr xs= .tup xs:=by
     cases xs with
     |nil=>rfl
     |cons x r=>cases r with
      |nil=>grind
      |cons y q=>rfl
    rw [this]
    refine .tup xs _ (by omega) fun i hi=> ?_
    have:=hr' i hi (by omega)
    simpa [show i<us.length by omega] using this
 obtain ⟨u,hu1,hu2⟩:=hres
 have fin:a.defers= []∧∃v,(results fn a.tmps).run P c'.w= .ok v c'.w∧∃u,Ending.returned v= .returned u∧Comes1 cx Q u c'.w:=
  ⟨he'.defers,u,hu1,u,rfl,c',y,h'',rfl,g',hE,hu2.weak hwk,fun id k hk=>hs' _ _ (hsub _ _ hk),hQ⟩
 cases e with
 |normal=>exact fin
 |ret=>exact fin
 |_=>exact hk1.elim
theorem FnOK.of_vc (hU:∀t,AgreeT P U t) (hm:P.follows .mixedOrders=true) {f} {fn} {c} {args} {h} {Q} (hf:P.funcs[f]? =some fn) (hb:fn.body=some c)
  (hn : (fn.name == "runtime.NumGoroutine") = false) (hl : args.length ≤ fn.ntmps)
  (hk:(∀x∈args,wfA x)→vcCode P U fn.ntmps c (envOf args) h (bodyK U fn.results.toList Q)):FnOK P f args h Q:=
 FnOK.of_wp0 hU hf hb hn hl fun hw=>vcCode_sound hU hm c _ h _ (hk hw)
end
end Go.Ab

set_option linter.unusedSimpArgs false
set_option linter.unusedVariables false
namespace Go.Ab
open Go
def zeroB1:AV→Value→Bool
 | .v (.int k n), .int k' m=>decide (k=k') && decide (n=m)
 | .v (.bool a), .bool b=>a==b
 | .s [], .string b=>b.data.toList.isEmpty
 | .sl [] .full, .slice none 0 0=>true
 | .v (.pointer none), .pointer none=>true
 | .v .nilIface, .nilIface=>true
 | .v .nilFunc, .nilFunc=>true
 | .v (.map none), .map none=>true
 | .v (.complex k a b), .complex k' a' b' =>decide (k=k') && a==a' && b==b'
 |_,_=>false
theorem zeroB1_rep {x} {v} (h:zeroB1 x v=true) (c):Rep c x v∧v.oneCell' =true:=by
 unfold zeroB1 at h
 split at h
 ·simp at h; obtain ⟨rfl,rfl⟩:=h; exact ⟨.v _,rfl⟩
 ·simp at h; subst h; exact ⟨.v _,rfl⟩
 ·rename_i b
  have e:b=⟨([]:List UInt8).toArray⟩:=by
   apply ByteArray.ext
   grind
  subst e
  exact ⟨.s [] (by decide),rfl⟩
 ·exact ⟨rep_ofV1 c (.slice none 0 0),rfl⟩
 ·exact ⟨.v _,rfl⟩
 ·exact ⟨.v _,rfl⟩
 ·exact ⟨.v _,rfl⟩
 ·exact ⟨.v _,rfl⟩
 ·simp at h; obtain ⟨⟨rfl,rfl⟩,rfl⟩:=h; exact ⟨.v _,rfl⟩
 grind
def zeroBs:List AV→List Value→Bool
 | [],[]=>true
 |x::xs,v::vs=>zeroB1 x v && zeroBs xs vs
 |_,_=>false
theorem zeroBs_spec:∀ {xs:List AV} {vs:List Value},zeroBs xs vs=true→xs.length=vs.length∧∀i (h1:i<xs.length) (h2:i<vs.length),zeroB1 xs[i] vs[i]=true
 | [],[],_=>by simp
 |x::xs,v::vs,h=>by
  simp only [zeroBs,Bool.and_eq_true] at h
  obtain ⟨h1,h2⟩:=zeroBs_spec h.2
  grind
 | [],_::_,h=>by grind [zeroBs]
 |_::_,[],h=>by grind [zeroBs]
def zeroB:AV→Value→Bool
 | .agg xs, .agg vs=>zeroBs xs vs.toList
 |x,v=>zeroB1 x v
theorem zeroB_rep {x} {v} (h:zeroB x v=true) (c):Rep c x v:=by
 unfold zeroB at h
 split at h
 ·rename_i xs vs
  obtain ⟨h1,h2⟩:=zeroBs_spec h
  have hl:vs.size=xs.length:=by grind
  refine .agg xs vs hl (fun i hi=> ?_) (fun i hi=> ?_)
  ·have:=(zeroB1_rep (h2 i hi (by omega)) c).1
   simpa [show i<vs.size by omega] using this
  ·have:=(zeroB1_rep (h2 i hi (by omega)) c).2
   simpa [show i<vs.size by omega] using this
 ·exact (zeroB1_rep h c).1
def descB (P:Program) (U:TypeId→TI) (t:TypeId):Bool:=
 match (U t).k,P.underlying t with
 | .int k,some (.int k')=>decide (k' =k)
 | .bool,some .bool=>true
 | .str,some .string=>true
 | .slice e,some (.slice e')=>decide (e' =e)
 | .strct fs,some (.struct fields)=>decide (fields.toList.map (fun f=>(f.offset,f.type))=fs) && fs.all fun p=>(U p.2).sz !=0
 | .ptr e,some (.pointer e')=>decide (e' =e)
 | .arr n e,some (.array n' e')=>decide (n' =n) && decide (e' =e)
 | .iface,some (.interface _)=>true
 | .cplx k,some (.complex k')=>decide (k' =k)
 | .map k e,some (.map k' e')=>decide (k' =k) && decide (e' =e)
 | .other,_=>true
 |_,_=>false
def infoB (P:Program) (U:TypeId→TI) (t:TypeId):Bool:=
 (U t).sz==0||match P.info? t with
  |some i=>i.size==(U t).sz && i.bytes==(U t).bytes && match i.zero with
   |some z=>z.cells.size==(U t).sz && zeroB (U t).zero z
   |none=>false
  |none=>false
def unitB (P:Program) (U:TypeId→TI) (t:TypeId):Bool:=match (U t).k with
 | .strct []=>match P.info? t with
  |some i=>match i.zero with
   |some (.agg vs)=>vs.isEmpty && i.size==0
   |_=>false
  |none=>false
 |_=>true
def tkEq:TK→TK→Bool
 | .int a, .int b=>decide (a=b)
 | .bool, .bool=>true
 | .str, .str=>true
 | .cplx a, .cplx b=>decide (a=b)
 |_,_=>false
theorem tkEq_eq {a b} (h:tkEq a b=true):a=b:=by
 unfold tkEq at h
 grind
def tksEq:List TK→List TK→Bool
 | [],[]=>true
 |x::xs,y::ys=>tkEq x y && tksEq xs ys
 |_,_=>false
theorem tksEq_eq:∀ {a b:List TK},tksEq a b=true→a=b
 | [],[],_=>rfl
 | [],_::_,h=>by cases h
 |_::_,[],h=>by cases h
 |x::xs,y::ys,h=>by
  simp only [tksEq,Bool.and_eq_true] at h
  rw [tkEq_eq h.1,tksEq_eq h.2]
def tileEB (U:TypeId→TI) (r:Nat):List (Nat×TypeId)→Nat→List TK→Bool
 | [],_,l=>l.isEmpty
 |f::fs,o,l=>match (U f.2).eq with
  |some (r',l')=>f.1==o && decide (r' <r) && tksEq (l.take l'.length) l' && tileEB U r fs (o+l'.length) (l.drop l'.length)
  |none=>false
theorem tileEB_spec {U} {r}:∀ {fs:List (Nat×TypeId)} {o:Nat} {l:List TK},tileEB U r fs o l=true→tileE U r fs o l
 | [],o,l,h=>by grind [tileEB,tileE]
 |f::fs,o,l,h=>by
  unfold tileEB at h
  split at h
  ·rename_i r' l' he
   simp only [Bool.and_eq_true,beq_iff_eq,decide_eq_true_eq] at h
   obtain ⟨⟨⟨h1,h2⟩,h3⟩,h4⟩:=h
   exact ⟨h1,r',l',he,h2,tksEq_eq h3,tileEB_spec h4⟩
  grind
def eqB (P:Program) (U:TypeId→TI) (t:TypeId):Bool:=match (U t).eq with
 |none=>true
 |some (r,l)=>l.length==(U t).sz && !l.isEmpty && decide (r<100) && match (U t).k with
  | .int k=>tksEq l [.int k]
  | .bool=>tksEq l [.bool]
  | .str=>tksEq l [.str]
  | .cplx k=>tksEq l [.cplx k]
  | .strct fs => !P.stoodInHeld t && !P.eqGuardType P.depth t && (P.fieldsOf t).toList.all (fun f => f.name != "_") && tileEB U r fs 0 l
  | .arr n e=> !P.eqGuardType P.depth t && match (U e).eq with
   |some (r',l')=>decide (r' <r) && tksEq l (List.replicate n l').flatten
   |none=>false
  |_=>false
theorem eqB_spec {P} {U} {t} (h:eqB P U t=true):∀r l,(U t).eq=some (r,l)→EqOK P U t r l:=by
 intro r l he
 unfold eqB at h
 rw [he] at h
 simp only [Bool.and_eq_true,beq_iff_eq,decide_eq_true_eq,Bool.not_eq_true'] at h
 obtain ⟨⟨⟨h1,h2⟩,h3⟩,h4⟩:=h
 refine ⟨h1,(by intro e; rw [e] at h2; cases h2),h3, ?_⟩
 cases hk:(U t).k<;>rw [hk] at h4<;>simp only at h4⊢<;>first|exact tksEq_eq h4|(cases h4)|skip
 ·simp only [Bool.and_eq_true,Bool.not_eq_true',List.all_eq_true] at h4
  obtain ⟨⟨⟨g1,g2⟩,g3⟩,g4⟩:=h4
  exact ⟨g1,g2,fun f hf=>by simpa using g3 f (by simpa using hf),tileEB_spec g4⟩
 ·simp only [Bool.and_eq_true,Bool.not_eq_true'] at h4
  obtain ⟨g1,g2⟩:=h4
  split at g2
  ·rename_i r' l' he'
   simp only [Bool.and_eq_true,decide_eq_true_eq] at g2
   exact ⟨g1,r',l',he',g2.1,tksEq_eq g2.2⟩
  ·cases g2
theorem agree_of {P} {U} {t} (h1:descB P U t=true) (h2:infoB P U t=true) (h3:unitB P U t=true) (h4:eqB P U t=true):AgreeT P U t:=by
 refine ⟨?_,fun hz=> ?_,fun hz=> ?_,eqB_spec h4⟩
 ·unfold descB at h1
  grind
 ·unfold infoB at h2
  simp only [Bool.or_eq_true,beq_iff_eq,hz,false_or] at h2
  split at h2
  ·rename_i i hi
   simp only [Bool.and_eq_true,beq_iff_eq] at h2
   obtain ⟨⟨h3,h4⟩,h5⟩:=h2
   split at h5
   ·simp_all [Bool.and_eq_true,beq_iff_eq,zeroB_rep]
   grind
  grind
 ·unfold unitB at h3
  grind
theorem agree_all {P} {U} (N) (h:(List.range N).all (fun t=>descB P U t && infoB P U t && unitB P U t && eqB P U t)=true) (h' :∀t,N≤t→U t=⟨.other,0,0,default,none⟩):∀t,AgreeT P U t:=by
 intro t
 by_cases ht:t<N
 ·simp_all [List.all_eq_true,Bool.and_eq_true,agree_of]
 ·have:=h' t (by grind)
  exact ⟨by grind,fun hz=>by grind,fun hz=>(by grind),fun r l he=>by grind⟩
end Go.Ab

set_option linter.unusedSimpArgs false
set_option linter.unusedVariables false
namespace Go.Ab
open Go
section
variable {P : Program} {U : TypeId → TI} {n : Nat} {ρ : Env} {h : Heap}
def bindO {α:Type} (o:Option α) (k:α→Prop):Prop:=match o with
 |some y=>k y
 |none=>False
@[congr] theorem bindO_congr {α:Type} {o o' :Option α} {k:α→Prop} (e:o=o'):bindO o k=bindO o' k:=by rw [e]
@[go_sem] theorem bindO_some {α:Type} (y:α) (k:α→Prop):bindO (some y) k=k y:=rfl
def Br (t:Bool) (A B:Prop):Prop:=(t=true→A)∧(t=false→B)
@[congr] theorem Br_congr {t t'} {A B:Prop} (e:t=t'):Br t A B=Br t' A B:=by rw [e]
@[go_sem] theorem Br_true (A B:Prop):Br true A B=A:=by simp [Br]
@[go_sem] theorem Br_false (A B:Prop):Br false A B=B:=by simp [Br]
theorem Br.intro {t} {A B:Prop} (h1:t=true→A) (h2:t=false→B):Br t A B:=⟨h1,h2⟩
def atH (Q:AV→Heap→Prop) (h:Heap) (r:AV):Prop:=Q r h
@[go_sem↓] theorem atH_eq (Q) (h) (r):atH Q h r=Q r h:=rfl
def atK (t:TK) (k:TK→Prop):Prop:=k t
@[congr] theorem atK_congr {t t'} {k} (e:t=t'):atK t k=atK t' k:=by rw [e]
@[go_sem] theorem atK_str (k):atK .str k=k .str:=rfl
@[go_sem] theorem atK_slice (x) (k):atK (.slice x) k=k (.slice x):=rfl
@[go_sem] theorem atK_strct (x) (k):atK (.strct x) k=k (.strct x):=rfl
def IdxE (xs:List AV) (m:Int) (sz:Nat) (k:AV→Prop):Prop:=Idx xs m fun b=>b.cells.length=sz∧k (.pe b 0)
theorem IdxE.at {xs} {sz:Nat} {k:AV→Prop} (j:Nat) (hj:j<xs.length) (hz:xs[j].cells.length=sz) (hk:k (.pe xs[j] 0)):IdxE xs (j:Int) sz k:=⟨by omega,xs[j],by simp,hz,hk⟩
theorem IdxE.of {xs} {m:Int} {sz:Nat} {k:AV→Prop} (j:Nat) (hm:m=j) (hj:j<xs.length) (hz:xs[j].cells.length=sz) (hk:k (.pe xs[j] 0)):IdxE xs m sz k:=by grind [IdxE.at]
def IdxB (l:List UInt8) (m:Int) (k:AV→Prop):Prop:=Idx l m fun b=>k (byteA b)
theorem IdxB.at {l} {k:AV→Prop} (j:Nat) (hj:j<l.length) (hk:k (byteA l[j])):IdxB l (j:Int) k:=⟨by omega,l[j],by simp,hk⟩
theorem IdxB.of {l} {m:Int} {k:AV→Prop} (j:Nat) (hm:m=j) (hj:j<l.length) (hk:k (byteA l[j])):IdxB l m k:=by grind [IdxB.at]
@[congr] theorem FnOK_congr {f f'} {a a'} {h h'} {Q} (h0:f=f') (h1:a=a') (h2:h=h'):FnOK P f a h Q=FnOK P f' a' h' Q:=by grind
@[go_sem↓] theorem lk_cons (k) (x) (r) (t):lk ((k,x)::r) t=if k=t then some x else lk r t:=rfl
@[go_sem↓] theorem lk_put_some (d) (x) (r) (t):lk (put r (some d) x) t=if d=t then some x else lk r t:=rfl
@[go_sem↓] theorem lk_put_none (x) (r) (t):lk (put r none x) t=lk r t:=rfl
@[go_sem↓] theorem lk_env (args) (t):lk (envOf args) t=args[t]? :=by
 have:=lk_envOf args 0 t
 exact this
@[go_sem] theorem get_zero {α:Type} (x:α) (r:List α):(x::r)[0]? =some x:=rfl
@[go_sem] theorem get_succ {α:Type} (x:α) (r:List α) (i):(x::r)[i+1]? =r[i]? :=by simp
@[go_sem↓] theorem ev_tmp (t):ev ρ (.tmp t)=lk ρ t:=rfl
@[go_sem↓] theorem ev_int (k) (m):ev ρ (.const (.int k m))=some (.v (.int k m)):=rfl
@[go_sem↓] theorem ev_bool (b):ev ρ (.const (.bool b))=some (.v (.bool b)):=rfl
@[go_sem↓] theorem ev_nilSlice:ev ρ (.const (.slice none 0 0))=some (.sl [] .full):=rfl
theorem ev_str_lt {l} (hl:l.length<4096):ev ρ (.const (.string ⟨l.toArray⟩))=some (.s l):=by
 grind [lim,ev,ofV,ofV1]
@[go_sem] theorem ev_str (l) (hl:decide (l.length<4096)=true):ev ρ (.const (.string ⟨l.toArray⟩))=some (.s l):=ev_str_lt (of_decide_eq_true hl)
@[go_sem↓] theorem ev_str0:ev ρ (.const (.string ⟨#[]⟩))=some (.s []):=by rfl
@[go_sem↓] theorem ev_str1 (a0):ev ρ (.const (.string ⟨#[a0]⟩))=some (.s [a0]):=by rfl
@[go_sem↓] theorem ev_str2 (a0 a1):ev ρ (.const (.string ⟨#[a0,a1]⟩))=some (.s [a0,a1]):=by rfl
@[go_sem↓] theorem ev_str3 (a0 a1 a2):ev ρ (.const (.string ⟨#[a0,a1,a2]⟩))=some (.s [a0,a1,a2]):=by rfl
@[go_sem↓] theorem ev_str4 (a0 a1 a2 a3):ev ρ (.const (.string ⟨#[a0,a1,a2,a3]⟩))=some (.s [a0,a1,a2,a3]):=by rfl
@[go_sem↓] theorem ev_str5 (a0 a1 a2 a3 a4):ev ρ (.const (.string ⟨#[a0,a1,a2,a3,a4]⟩))=some (.s [a0,a1,a2,a3,a4]):=by rfl
@[go_sem↓] theorem ev_str6 (a0 a1 a2 a3 a4 a5):ev ρ (.const (.string ⟨#[a0,a1,a2,a3,a4,a5]⟩))=some (.s [a0,a1,a2,a3,a4,a5]):=by rfl
@[go_sem↓] theorem ev_str7 (a0 a1 a2 a3 a4 a5 a6):ev ρ (.const (.string ⟨#[a0,a1,a2,a3,a4,a5,a6]⟩))=some (.s [a0,a1,a2,a3,a4,a5,a6]):=by rfl
@[go_sem↓] theorem ev_str8 (a0 a1 a2 a3 a4 a5 a6 a7):ev ρ (.const (.string ⟨#[a0,a1,a2,a3,a4,a5,a6,a7]⟩))=some (.s [a0,a1,a2,a3,a4,a5,a6,a7]):=by rfl
@[go_sem↓] theorem ev_str10 (a0 a1 a2 a3 a4 a5 a6 a7 a8 a9):ev ρ (.const (.string ⟨#[a0,a1,a2,a3,a4,a5,a6,a7,a8,a9]⟩))=some (.s [a0,a1,a2,a3,a4,a5,a6,a7,a8,a9]):=by rfl
@[go_sem↓] theorem ev_str12 (a0 a1 a2 a3 a4 a5 a6 a7 a8 a9 a10 a11):ev ρ (.const (.string ⟨#[a0,a1,a2,a3,a4,a5,a6,a7,a8,a9,a10,a11]⟩))=some (.s [a0,a1,a2,a3,a4,a5,a6,a7,a8,a9,a10,a11]):=by rfl
@[go_sem↓] theorem ev_func (f):ev ρ (.func f)=some (.fn f []):=rfl
def consO (x:Option AV) (r:Option (List AV)):Option (List AV):=match x,r with
 |some y,some ys=>some (y::ys)
 |_,_=>none
@[go_sem] theorem consO_some (y) (ys):consO (some y) (some ys)=some (y::ys):=rfl
@[go_sem↓] theorem evs_nil:evs ρ []=some []:=rfl
@[go_sem↓] theorem evs_cons (x) (r):evs ρ (x::r)=consO (ev ρ x) (evs ρ r):=rfl
@[go_sem↓] theorem withv_eq (x) (k):withv ρ x k=bindO (ev ρ x) k:=by grind [withv,bindO,ev]
@[go_sem↓] theorem withvs_eq (xs) (k):withvs ρ xs k=bindO (evs ρ xs) k:=by grind [withvs,bindO,evs]
@[go_sem↓] theorem r_skip (K):vcCode P U n .skip ρ h K=K .normal ρ h:=rfl
@[go_sem↓] theorem r_region (id) (l) (K):vcCode P U n (.region id l.toArray false) ρ h K=vcOps P U n l l ρ h (K .normal):=rfl
def KSeqC (P:Program) (U:TypeId→TI) (n:Nat) (b:Code) (K:Exit→Env→Heap→Prop):Exit→Env→Heap→Prop:=KSeq (fun ρ h=>vcCode P U n b ρ h K) K
@[go_sem↓] theorem r_seq (a b) (K):vcCode P U n (.seq a b) ρ h K=vcCode P U n a ρ h (KSeqC P U n b K):=rfl
@[go_sem↓] theorem KSeqC_normal (b) (K):KSeqC P U n b K .normal ρ h=vcCode P U n b ρ h K:=rfl
@[go_sem↓] theorem KSeqC_ret (b) (K):KSeqC P U n b K .ret ρ h=K .ret ρ h:=rfl
@[go_sem↓] theorem KSeqC_exit (b) (K) (i):KSeqC P U n b K (.exit i) ρ h=K (.exit i) ρ h:=rfl
def CondC (P:Program) (U:TypeId→TI) (n:Nat) (a b:Code) (ρ:Env) (h:Heap) (K:Exit→Env→Heap→Prop) (y:AV):Prop:=match y with
 | .v (.bool t)=>(t=true→vcCode P U n a ρ h K)∧(t=false→vcCode P U n b ρ h K)
 |_=>False
@[go_sem↓] theorem CondC_true (a b) (K):CondC P U n a b ρ h K (.v (.bool true))=vcCode P U n a ρ h K:=by simp [CondC]
@[go_sem↓] theorem CondC_false (a b) (K):CondC P U n a b ρ h K (.v (.bool false))=vcCode P U n b ρ h K:=by simp [CondC]
theorem CondC.intro {a b} {K} {t} (h1:t=true→vcCode P U n a ρ h K) (h2:t=false→vcCode P U n b ρ h K):CondC P U n a b ρ h K (.v (.bool t)):=⟨h1,h2⟩
theorem CondC.yes {a b} {K} {t} (e:t=true) (h1:vcCode P U n a ρ h K):CondC P U n a b ρ h K (.v (.bool t)):=⟨fun _=>h1,fun h=>absurd (e.symm.trans h) (by simp)⟩
theorem CondC.no {a b} {K} {t} (e:t=false) (h1:vcCode P U n b ρ h K):CondC P U n a b ρ h K (.v (.bool t)):=⟨fun h=>absurd (e.symm.trans h) (by simp),fun _=>h1⟩
@[go_sem↓] theorem r_cond (c) (a b) (K):vcCode P U n (.cond c a b) ρ h K=bindO (ev ρ c) (CondC P U n a b ρ h K):=by
 simp only [vcCode,withv]
 cases ev ρ c with
 |none=>rfl
 |some y=>rfl
@[go_sem↓] theorem r_block (id) (c) (K):vcCode P U n (.block id c) ρ h K=vcCode P U n c ρ h (KBlock id K):=rfl
def LoopC (P:Program) (U:TypeId→TI) (n:Nat) (c:Code) (ρ:Env) (h:Heap) (K:Exit→Env→Heap→Prop):Prop:=LoopVC (fun ρ h K=>vcCode P U n c ρ h K) ρ h K
def KRound (I:Nat→Env→Heap→Prop) (m:Nat) (K:Exit→Env→Heap→Prop):Exit→Env→Heap→Prop:=KSeq (fun ρ' h' =>∃m',m' <m∧I m' ρ' h') K
@[go_sem↓] theorem KRound_ret {I} {m} {K}:KRound I m K .ret ρ h=K .ret ρ h:=rfl
@[go_sem↓] theorem KRound_exit {I} {m} {K} (i):KRound I m K (.exit i) ρ h=K (.exit i) ρ h:=rfl
theorem LoopC.intro {c} {K} (I) (m) (h0:I m ρ h) (hr:∀m ρ h,I m ρ h→vcCode P U n c ρ h (KRound I m K)):LoopC P U n c ρ h K:=fun _=>⟨I,m,h0,hr⟩
theorem LoopC.wf {c} {K} (hk:Wf ρ→LoopC P U n c ρ h K):LoopC P U n c ρ h K:=fun hw=>hk hw hw
@[go_sem↓] theorem r_loop (c) (K):vcCode P U n (.loop c) ρ h K=LoopC P U n c ρ h K:=rfl
def ScopeC (P:Program) (U:TypeId→TI) (n:Nat) (c:Code) (ρ:Env) (h:Heap) (K:Exit→Env→Heap→Prop):Prop:=vcCode P U n (.scope c) ρ h K
theorem ScopeC.intro (hU:∀t,AgreeT P U t) (hm:P.follows .mixedOrders=true) {c rest} {K:Exit→Env→Heap→Prop} (l:Nat) (J:Nat→Env→Heap→Prop) (hf:findLabel c l=some rest) (h1:vcCode P U n c ρ h (KJump l (fun ρ h=>∃m,J m ρ h) K))
  (h2:∀m ρ h,J m ρ h→vcCode P U n rest ρ h (KJump l (fun ρ' h' =>∃m',m' <m∧J m' ρ' h') K)):ScopeC P U n c ρ h K:=⟨l,rest,J,hf,h1,fun m ρ h hJ=>vcCode_sound hU hm rest ρ h _ (h2 m ρ h hJ)⟩
@[go_sem↓] theorem r_exit (id) (K):vcCode P U n (.exit id) ρ h K=K (.exit id) ρ h:=rfl
@[go_sem↓] theorem r_ret (K):vcCode P U n .ret ρ h K=K .ret ρ h:=rfl
@[go_sem↓] theorem KBlock_normal (id) (K):KBlock id K .normal ρ h=K .normal ρ h:=rfl
@[go_sem↓] theorem KBlock_ret (id) (K):KBlock id K .ret ρ h=K .ret ρ h:=rfl
@[go_sem↓] theorem KBlock_exit (id) (K) (j):KBlock id K (.exit j) ρ h=if j=id then K .normal ρ h else K (.exit j) ρ h:=rfl
@[go_sem↓] theorem r_nil (all) (K):vcOps P U n all [] ρ h K=K ρ h:=rfl
def KOps (P:Program) (U:TypeId→TI) (n:Nat) (all os:List Oper) (K:Env→Heap→Prop) (ρ:Env) (d:Option Tmp) (x:AV) (h:Heap):Prop:=vcOps P U n all os (put ρ d x) h K
@[go_sem↓] theorem KOps_eq (all os) (K) (d) (x):KOps P U n all os K ρ d x h=vcOps P U n all os (put ρ d x) h K:=rfl
@[go_sem↓] theorem r_cons (all) (d) (op) (t) (p) (a) (os) (K):
  vcOps P U n all (⟨d,op,t,p,a,none⟩::os) ρ h K=(dstOK n d=true∧vcOp P U ρ h ⟨d,op,t,p,a,none⟩ (KOps P U n all os K ρ d)):=rfl
@[go_sem] theorem dstOK_some (d):(dstOK n (some d)=true)=(d<n):=by simp [dstOK]
@[go_sem] theorem dstOK_none:(dstOK n none=true)=True:=by simp [dstOK]
def gB (d:Nat) (w:Bool) (ρ:Env) (yes no:Env→Prop) (x:AV):Prop:=match x with
 | .v (.bool t)=>if w then Br t (yes ((d, .v (.bool true))::ρ)) (no ((d, .v (.bool false))::ρ)) else Br t (no ((d, .v (.bool true))::ρ)) (yes ((d, .v (.bool false))::ρ))
 | .v (.tuple _)=>no ρ
 |_=>False
@[go_sem↓] theorem dstAt_zero (d) (op) (t) (p) (a) (g) (os):dstAt (⟨d,op,t,p,a,g⟩::os) 0=d:=rfl
@[go_sem↓] theorem dstAt_succ (o) (os) (i):dstAt (o::os) (i+1)=dstAt os i:=by rfl
theorem guardA_eq (all) (g) (w) (yes no):guardA all ρ (some (g,w)) yes no=bindO (dstAt all g) fun d=>bindO (lk ρ d) fun x=>gB d w ρ yes no x:=by
 simp only [guardA]
 cases dstAt all g with
 |none=>rfl
 |some d=>
  simp only [bindO_some]
  cases lk ρ d with
  |none=>rfl
  |some x=>cases x with
   |v u=>cases u<;>first|rfl|(rename_i t; cases w<;>cases t<;>simp [bindO,gB,Br])
   |_=>rfl
def GuardC (P:Program) (U:TypeId→TI) (n:Nat) (all os:List Oper) (ρ:Env) (h:Heap) (K:Env→Heap→Prop) (w:Bool) (d:Option Tmp) (op:Op) (t:TypeId) (p:String) (a:Array Edge) (s:Nat) (x:AV):Prop:=
 gB s w ρ (fun ρ=>vcOp P U ρ h ⟨d,op,t,p,a,none⟩ (KOps P U n all os K ρ d)) (fun ρ=>vcOps P U n all os (put ρ d (.v undef)) h K) x
section
variable {all os : List Oper} {K : Env → Heap → Prop} {d : Option Tmp} {op : Op} {t : TypeId} {p : String} {a : Array Edge} {s : Nat}
@[go_sem↓] theorem GuardC_tt:GuardC P U n all os ρ h K true d op t p a s (.v (.bool true))=vcOp P U ((s, .v (.bool true))::ρ) h ⟨d,op,t,p,a,none⟩ (KOps P U n all os K ((s, .v (.bool true))::ρ) d):=by simp [GuardC,gB,Br]
@[go_sem↓] theorem GuardC_tf:GuardC P U n all os ρ h K true d op t p a s (.v (.bool false))=vcOps P U n all os (put ((s, .v (.bool false))::ρ) d (.v undef)) h K:=by simp [GuardC,gB,Br]
@[go_sem↓] theorem GuardC_ft:GuardC P U n all os ρ h K false d op t p a s (.v (.bool true))=vcOps P U n all os (put ((s, .v (.bool true))::ρ) d (.v undef)) h K:=by simp [GuardC,gB,Br]
@[go_sem↓] theorem GuardC_ff:GuardC P U n all os ρ h K false d op t p a s (.v (.bool false))=vcOp P U ((s, .v (.bool false))::ρ) h ⟨d,op,t,p,a,none⟩ (KOps P U n all os K ((s, .v (.bool false))::ρ) d):=by simp [GuardC,gB,Br]
@[go_sem↓] theorem GuardC_undef (w):GuardC P U n all os ρ h K w d op t p a s (.v undef)=vcOps P U n all os (put ρ d (.v undef)) h K:=rfl
theorem GuardC.intro {w b} (h1:b=true→GuardC P U n all os ρ h K w d op t p a s (.v (.bool true))) (h2:b=false→GuardC P U n all os ρ h K w d op t p a s (.v (.bool false))):GuardC P U n all os ρ h K w d op t p a s (.v (.bool b)):=by
 cases b
 ·grind
 grind
end
@[go_sem↓] theorem r_guard (all) (d) (op) (t) (p) (a) (g) (w) (os) (K):
  vcOps P U n all (⟨d,op,t,p,a,some (g,w)⟩::os) ρ h K=(dstOK n d=true∧bindO (dstAt all g) fun s=>bindO (lk ρ s) (GuardC P U n all os ρ h K w d op t p a s)):=by
 have:=guardA_eq (ρ:=ρ) all g w (fun ρ=>vcOp P U ρ h ⟨d,op,t,p,a,none⟩ (KOps P U n all os K ρ d)) (fun ρ=>vcOps P U n all os (put ρ d (.v undef)) h K)
 rw [show (fun s=>bindO (lk ρ s) (GuardC P U n all os ρ h K w d op t p a s))=fun d_1=>bindO (lk ρ d_1) fun x=>gB d_1 w ρ (fun ρ=>vcOp P U ρ h ⟨d,op,t,p,a,none⟩ (KOps P U n all os K ρ d)) (fun ρ=>vcOps P U n all os (put ρ d (.v undef)) h K) x from rfl,←this]
 rfl
variable {d : Option Tmp} {t : TypeId} {p : String} {a : Array Edge} {g : Option (Nat × Bool)} {Q : AV → Heap → Prop}
@[go_sem↓] theorem o_move (x):vcOp P U ρ h ⟨d, .move x,t,p,a,g⟩ Q=bindO (ev ρ x) (atH Q h):=(withv_eq x _)
@[go_sem↓] theorem o_assign (x):vcOp P U ρ h ⟨d, .assign x,t,p,a,g⟩ Q=bindO (ev ρ x) (atH Q h):=(withv_eq x _)
def pickA (ρ:Env) (x z:Operand) (k:AV→Prop) (y:AV):Prop:=match y with
 | .v (.bool true)=>bindO (ev ρ x) k
 | .v (.bool false)=>bindO (ev ρ z) k
 |_=>False
@[go_sem↓] theorem pickA_true (x z) (k):pickA ρ x z k (.v (.bool true))=bindO (ev ρ x) k:=rfl
@[go_sem↓] theorem pickA_false (x z) (k):pickA ρ x z k (.v (.bool false))=bindO (ev ρ z) k:=rfl
@[go_sem↓] theorem o_pick (x y z):vcOp P U ρ h ⟨d, .pick x y z,t,p,a,g⟩ Q=bindO (ev ρ x) (pickA ρ y z (atH Q h)):=by
 simp only [vcOp,pv,withv_eq]
 congr 1
def nilCk (k:AV→Prop) (y:AV):Prop:=match y with
 | .ptr .. | .pe .. | .fn .. =>k y
 |_=>False
@[go_sem↓] theorem nilCk_ptr (i o) (k):nilCk k (.ptr i o)=k (.ptr i o):=rfl
@[go_sem↓] theorem o_nilCheck (x):vcOp P U ρ h ⟨d, .nilCheck x,t,p,a,g⟩ Q=bindO (ev ρ x) (nilCk (atH Q h)):=by
 simp only [vcOp,pv,withv_eq]
 congr 1
@[congr] theorem binA_congr {op} {ty} {x x' y y'} {K} (e1:x=x') (e2:y=y'):binA U op ty x y K=binA U op ty x' y' K:=by grind
theorem o_bin0 (op) (ty ty') (x y) (hy:nilS y=false):vcOp P U ρ h ⟨d, .binOp op ty x y ty',t,p,a,g⟩ Q=bindO (ev ρ x) fun u=>bindO (ev ρ y) fun v=>binA U op ty u v (atH Q h):=by
 simp only [vcOp,pv,withv_eq,hy]
 rfl
@[go_sem↓] theorem o_binOp (op) (ty ty') (x) (y):vcOp P U ρ h ⟨d, .binOp op ty x (.tmp y) ty',t,p,a,g⟩ Q=bindO (ev ρ x) fun u=>bindO (ev ρ (.tmp y)) fun v=>binA U op ty u v (atH Q h):=o_bin0 _ _ _ _ _ rfl
@[go_sem↓] theorem o_binOp_i (op) (ty ty') (x) (ik) (im):vcOp P U ρ h ⟨d, .binOp op ty x (.const (.int ik im)) ty',t,p,a,g⟩ Q=bindO (ev ρ x) fun u=>binA U op ty u (.v (.int ik im)) (atH Q h):=o_bin0 _ _ _ _ _ rfl
@[go_sem↓] theorem o_binOp_s (op) (ty ty') (x) (b):vcOp P U ρ h ⟨d, .binOp op ty x (.const (.string b)) ty',t,p,a,g⟩ Q=bindO (ev ρ x) fun u=>bindO (ev ρ (.const (.string b))) fun v=>binA U op ty u v (atH Q h):=o_bin0 _ _ _ _ _ rfl
def nilK (h:Heap) (op:BinOp) (x:AV) (Q:AV→Heap→Prop) (tk:TK):Prop:=match tk,op,x with
 | .slice _, .eql, .sl xs _=>∀b:Bool,(xs≠ []→b=false)→Q (.v (.bool b)) h
 | .slice _, .neq, .sl xs _=>∀b:Bool,(xs≠ []→b=true)→Q (.v (.bool b)) h
 | .slice _, .eql, .oa .. =>Q (.v (.bool false)) h
 | .slice _, .neq, .oa .. =>Q (.v (.bool true)) h
 | .slice _, .eql, .ob .. =>Q (.v (.bool false)) h
 | .slice _, .neq, .ob .. =>Q (.v (.bool true)) h
 |_,_,_=>False
section
variable {ty : TypeId} {K : AV → Prop}
@[go_sem] theorem b_add (k) (x y):binA U .add ty (.v (.int k x)) (.v (.int k y)) K=K (.v (.int k (k.wrap (x+y)))):=by simp [binA,isShift,binI]
@[go_sem] theorem b_sub (k) (x y):binA U .sub ty (.v (.int k x)) (.v (.int k y)) K=K (.v (.int k (k.wrap (x - y)))):=by simp [binA,isShift,binI]
@[go_sem] theorem b_quo (k) (x y):binA U .quo ty (.v (.int k x)) (.v (.int k y)) K=(y≠0∧K (.v (.int k (k.wrap (x.tdiv y))))):=by simp [binA,isShift,binI]
@[go_sem] theorem b_rem (k) (x y):binA U .rem ty (.v (.int k x)) (.v (.int k y)) K=(y≠0∧K (.v (.int k (x.tmod y)))):=by simp [binA,isShift,binI]
@[go_sem] theorem b_eql (k) (x y):binA U .eql ty (.v (.int k x)) (.v (.int k y)) K=K (.v (.bool (x==y))):=by simp [binA,isShift,binI]
@[go_sem] theorem b_neq (k) (x y):binA U .neq ty (.v (.int k x)) (.v (.int k y)) K=K (.v (.bool (x !=y))):=by simp [binA,isShift,binI]
@[go_sem] theorem b_lss (k) (x y):binA U .lss ty (.v (.int k x)) (.v (.int k y)) K=K (.v (.bool (decide (x<y)))):=by simp [binA,isShift,binI]
@[go_sem] theorem b_leq (k) (x y):binA U .leq ty (.v (.int k x)) (.v (.int k y)) K=K (.v (.bool (decide (x≤y)))):=by simp [binA,isShift,binI]
@[go_sem] theorem b_gtr (k) (x y):binA U .gtr ty (.v (.int k x)) (.v (.int k y)) K=K (.v (.bool (decide (y<x)))):=by simp [binA,isShift,binI]
@[go_sem] theorem b_geq (k) (x y):binA U .geq ty (.v (.int k x)) (.v (.int k y)) K=K (.v (.bool (decide (y≤x)))):=by simp [binA,isShift,binI]
@[go_sem] theorem b_sadd (x y):binA U .add ty (.s x) (.s y) K=(x.length+y.length<lim∧K (.s (x++y))):=rfl
@[go_sem] theorem b_seql (x y):binA U .eql ty (.s x) (.s y) K=K (.v (.bool (x==y))):=rfl
@[go_sem] theorem b_sneq (x y):binA U .neq ty (.s x) (.s y) K=K (.v (.bool (!(x==y)))):=rfl
def eqK (tk:TK) (e:Option (Nat×List TK)) (xs ys:List AV) (k:Bool→Prop):Prop:=match e with
 |some (_,l)=>tk.agg=true∧typedL l xs∧typedL l ys∧k (eqL xs ys)
 |none=>False
@[congr] theorem eqK_congr {tk tk'} {e e'} {xs ys} {k} (h1:tk=tk') (h2:e=e'):eqK tk e xs ys k=eqK tk' e' xs ys k:=by grind
@[go_sem] theorem eqK_s (fs) (r) (l) (xs ys) (k):eqK (.strct fs) (some (r,l)) xs ys k=(typedL l xs∧typedL l ys∧k (eqL xs ys)):=by simp [eqK,TK.agg]
@[go_sem] theorem b_aeql (xs ys):binA U .eql ty (.agg xs) (.agg ys) K=eqK (U ty).k (U ty).eq xs ys fun b=>K (.v (.bool b)):=by
 simp only [binA,binG,eqK]; grind
@[go_sem] theorem b_aneq (xs ys):binA U .neq ty (.agg xs) (.agg ys) K=eqK (U ty).k (U ty).eq xs ys fun b=>K (.v (.bool (!b))):=by
 simp only [binA,binG,eqK]; grind
@[go_sem] theorem typedL_nil (xs):typedL [] xs=(xs= []):=rfl
@[go_sem] theorem typedL_cons (t) (ts) (x) (xs):typedL (t::ts) (x::xs)=(cellOK t x∧typedL ts xs):=rfl
@[go_sem] theorem cellOK_i (k k') (n):cellOK (.int k) (.v (.int k' n))=(k' =k):=rfl
@[go_sem] theorem cellOK_b (b):cellOK .bool (.v (.bool b))=True:=rfl
@[go_sem] theorem cellOK_s (l):cellOK .str (.s l)=True:=rfl
@[go_sem] theorem eqL_nil:eqL [] []=true:=rfl
@[go_sem] theorem eqL_cons (x y) (xs ys):eqL (x::xs) (y::ys)=(eqC x y && eqL xs ys):=rfl
@[go_sem] theorem eqC_i (k k') (n m):eqC (.v (.int k n)) (.v (.int k' m))=(n==m):=rfl
@[go_sem] theorem eqC_b (b c):eqC (.v (.bool b)) (.v (.bool c))=(b==c):=rfl
@[go_sem] theorem eqC_s (l m):eqC (.s l) (.s m)=(l==m):=rfl
def tkB (k:TK) (A:Prop):Prop:=k= .bool∧A
def tkP (k:TK) (A:Prop):Prop:=(∃e,k= .ptr e)∧A
@[congr] theorem tkB_congr {k k'} {A:Prop} (e:k=k'):tkB k A=tkB k' A:=by rw [e]
@[congr] theorem tkP_congr {k k'} {A:Prop} (e:k=k'):tkP k A=tkP k' A:=by rw [e]
@[go_sem] theorem tkB_bool (A:Prop):tkB .bool A=A:=by simp [tkB]
@[go_sem] theorem b_beql (x y):binA U .eql ty (.v (.bool x)) (.v (.bool y)) K=tkB (U ty).k (K (.v (.bool (x==y)))):=by
 grind [binA,binB,tkB]
@[go_sem] theorem b_bneq (x y):binA U .neq ty (.v (.bool x)) (.v (.bool y)) K=tkB (U ty).k (K (.v (.bool (!(x==y))))):=by
 grind [binA,binB,tkB]
end
def unA (op:UnOp) (y:AV) (k:AV→Prop):Prop:=match op,y with
 | .not, .v (.bool b)=>k (.v (.bool (!b)))
 | .neg, .v (.int kk n)=>k (.v (.int kk (kk.wrap (0 - n))))
 | .xor, .v (.int kk n)=>k (.v (.int kk (kk.wrap (BitVec.ofInt kk.bits (if kk.signed then -1 else kk.max) ^^^ BitVec.ofInt kk.bits n).toNat)))
 |_,_=>False
@[congr] theorem unA_congr {op} {y y'} {k} (e:y=y'):unA op y k=unA op y' k:=by rw [e]
@[go_sem] theorem unA_not (b) (k):unA .not (.v (.bool b)) k=k (.v (.bool (!b))):=rfl
@[go_sem↓] theorem o_unOp (op) (ty) (x):vcOp P U ρ h ⟨d, .unOp op ty x,t,p,a,g⟩ Q=bindO (ev ρ x) fun y=>unA op y (atH Q h):=by
 simp only [vcOp,pv,withv_eq]
 congr 1
def cvA (U:TypeId→TI) (s d:TK) (y:AV) (k:AV→Prop):Prop:=match s,d,y with
 | .int _, .int kk, .v (.int _ n)=>k (.v (.int kk (kk.wrap n)))
 | .str, .str, .s l=>k (.s l)
 | .slice e, .str, .sl xs _=>(U e).k= .int .u8∧∃l:List UInt8,xs=l.map byteA∧k (.s l)
 | .str, .slice e, .s l=>(U e).k= .int .u8∧k (.sl (l.map byteA) .no)
 | .cplx _, .cplx kk, .v (.complex kf a b)=>kf=kk∧k (.v (.complex kk a b))
 |_,_,_=>False
@[congr] theorem cvA_congr {s s' d d'} {y y'} {k} (e1:s=s') (e2:d=d') (e:y=y'):cvA U s d y k=cvA U s' d' y' k:=by grind
end
end Go.Ab

set_option linter.unusedSimpArgs false
set_option linter.unusedVariables false
namespace Go.Ab
open Go
attribute [go_sem] true_and and_true List.length_cons List.length_nil List.drop_succ_cons List.drop_zero List.drop_nil List.take_succ_cons List.take_zero List.take_nil List.append_nil List.cons_append List.nil_append List.map_cons List.map_nil ne_eq not_false_eq_true reduceCtorEq Nat.zero_add Nat.add_zero
section
variable {P : Program} {U : TypeId → TI} {n : Nat} {ρ : Env} {h : Heap}
variable {d : Option Tmp} {t : TypeId} {p : String} {a : Array Edge} {g : Option (Nat × Bool)} {Q : AV → Heap → Prop} {k : AV → Prop}
@[go_sem] theorem agg_int (x):TK.agg (.int x)=false:=rfl
@[go_sem] theorem agg_map (x y):TK.agg (.map x y)=false:=rfl
@[go_sem] theorem agg_bool:TK.agg .bool=false:=rfl
@[go_sem] theorem agg_str:TK.agg .str=false:=rfl
@[go_sem] theorem agg_slice (x):TK.agg (.slice x)=false:=rfl
@[go_sem] theorem agg_strct (x):TK.agg (.strct x)=true:=rfl
@[go_sem] theorem cells_agg (cs):AV.cells (.agg cs)=cs:=rfl
@[go_sem] theorem cells_v (x):AV.cells (.v x)= [.v x]:=rfl
@[go_sem] theorem cells_s (x):AV.cells (.s x)= [.s x]:=rfl
@[go_sem] theorem cells_sl (x) (q):AV.cells (.sl x q)= [.sl x q]:=rfl
@[go_sem] theorem isAgg_agg (cs):isAggA (.agg cs)=true:=rfl
@[go_sem] theorem isAgg_v (x):isAggA (.v x)=false:=rfl
@[go_sem] theorem isAgg_sl (x) (q):isAggA (.sl x q)=false:=rfl
@[go_sem] theorem fit_agg (cs) (m):fit (.agg cs) m=(cs.length=m):=rfl
@[go_sem] theorem fit_int (x) (i) (m):fit (.v (.int x i)) m=(m=1):=by simp [fit,Value.oneCell']
@[go_sem] theorem fit_bool (i) (m):fit (.v (.bool i)) m=(m=1):=by simp [fit,Value.oneCell']
@[go_sem] theorem fit_s (l) (m):fit (.s l) m=(m=1):=rfl
@[go_sem] theorem fit_sl (l) (q) (m):fit (.sl l q) m=(m=1):=rfl
@[go_sem] theorem fits_nil (m):fits m []=True:=rfl
@[go_sem] theorem fits_cons (m) (y) (r):fits m (y::r)=(fit y m∧fits m r):=rfl
@[go_sem↓] theorem partA_eq (cs) (off) (i):partA cs off i k=Br i.k.agg (off+i.sz≤cs.length∧k (.agg ((cs.drop off).take i.sz))) (bindO cs[off]? k):=by
 unfold partA
 cases i.k.agg with
 |true=>simp [Br]
 |false=>
  grind [Br,bindO]
@[go_sem↓] theorem atA_eq (y) (off) (i):atA y off i k=if off=0∧y.cells.length=i.sz∧isAggA y=i.k.agg then k y else partA y.cells off i k:=rfl
def fieldK (U:TypeId→TI) (f:Nat) (y:AV) (k:AV→Prop) (tk:TK):Prop:=match tk,y with
 | .strct fs, .agg cs=>bindO fs[f]? fun q=>(U q.2).sz≠0∧(U q.2).k≠ .other∧partA cs q.1 (U q.2) k
 |_,_=>False
def tupA (y:AV) (i:Nat) (k:AV→Prop):Prop:=match y with
 | .tup vs=>bindO vs[i]? k
 |_=>False
@[congr] theorem tupA_congr {y y'} {i} (e:y=y'):tupA y i k=tupA y' i k:=by rw [e]
@[go_sem↓] theorem tupA_eq (vs) (i):tupA (.tup vs) i k=bindO vs[i]? k:=rfl
@[go_sem↓] theorem o_extract (x) (i):vcOp P U ρ h ⟨d, .extract x i,t,p,a,g⟩ Q=bindO (ev ρ x) fun y=>tupA y i (atH Q h):=by
 simp only [vcOp,pv,withv_eq]
 grind [tupA,bindO,atH]
def strIx (tk:TK) (y z:AV) (k:AV→Prop):Prop:=match tk,y,z with
 | .str, .s l, .v (.int _ n)=>IdxB l n k
 |_,_,_=>False
@[congr] theorem strIx_congr {tk tk'} {y y' z z'} (e0:tk=tk') (e1:y=y') (e2:z=z'):strIx tk y z k=strIx tk' y' z' k:=by grind
@[go_sem↓] theorem strIx_eq (l) (x) (m):strIx .str (.s l) (.v (.int x m)) k=IdxB l m k:=rfl
@[go_sem↓] theorem o_index (ty) (x i):vcOp P U ρ h ⟨d, .index ty x i,t,p,a,g⟩ Q=bindO (ev ρ x) fun y=>bindO (ev ρ i) fun z=>strIx (U ty).k y z (atH Q h):=by
 simp only [vcOp,pv,withv_eq]
 congr 1
def faddrK (U:TypeId→TI) (f:Nat) (y:AV) (k:AV→Prop) (tk:TK):Prop:=match tk with
 | .strct fs=>bindO fs[f]? fun q=>(U q.2).sz≠0∧match y with
  | .ptr id o=>k (.ptr id (o+q.1))
  | .pe z o=>k (.pe z (o+q.1))
  |_=>False
 |_=>False
@[go_sem↓] theorem faddrK_ptr (f id o) (fs):faddrK U f (.ptr id o) k (.strct fs)=bindO fs[f]? fun q=>(U q.2).sz≠0∧k (.ptr id (o+q.1)):=rfl
@[go_sem↓] theorem faddrK_pe (f o) (z) (fs):faddrK U f (.pe z o) k (.strct fs)=bindO fs[f]? fun q=>(U q.2).sz≠0∧k (.pe z (o+q.1)):=rfl
@[go_sem↓] theorem o_fieldAddr (ty) (x) (f):vcOp P U ρ h ⟨d, .fieldAddr ty x f,t,p,a,g⟩ Q=bindO (ev ρ x) fun y=>atK (U ty).k (faddrK U f y (atH Q h)):=by
 simp only [vcOp,pv,withv_eq,atK]
 congr 1
 funext y
 cases (U ty).k<;>simp only [faddrK]
 rename_i fs
 cases fs[f]? with
 |none=>rfl
 |some q=>rfl
def iaddrK (U:TypeId→TI) (y z:AV) (k:AV→Prop) (tk:TK):Prop:=match tk,y,z with
 | .slice e, .sl xs _, .v (.int _ n)=>(U e).sz≠0∧IdxE xs n (U e).sz k
 | .slice e, .oa id off len, .v (.int _ n)=>(U e).sz≠0∧0≤n∧n<len∧k (.ptr id (off+n.toNat*(U e).sz))
 | .arr len e, .ptr id off, .v (.int _ n)=>(U e).sz≠0∧0≤n∧n<len∧k (.ptr id (off+n.toNat*(U e).sz))
 | .slice e, .ob id off len _ sz, .v (.int _ n)=>(U e).sz≠0∧sz=(U e).sz∧0≤n∧n<len∧k (.ptr id (off+n.toNat*sz))
 |_,_,_=>False
@[go_sem↓] theorem iaddrK_ob (id off len cap sz) (x) (m) (e):iaddrK U (.ob id off len cap sz) (.v (.int x m)) k (.slice e)=((U e).sz≠0∧sz=(U e).sz∧0≤m∧m<len∧k (.ptr id (off+m.toNat*sz))):=rfl
@[go_sem↓] theorem iaddrK_sl (xs) (q) (x) (m) (e):iaddrK U (.sl xs q) (.v (.int x m)) k (.slice e)=((U e).sz≠0∧IdxE xs m (U e).sz k):=rfl
@[go_sem↓] theorem iaddrK_oa (id off len) (x) (m) (e):iaddrK U (.oa id off len) (.v (.int x m)) k (.slice e)=((U e).sz≠0∧0≤m∧m<len∧k (.ptr id (off+m.toNat*(U e).sz))):=rfl
@[go_sem↓] theorem o_indexAddr (ty) (x i):vcOp P U ρ h ⟨d, .indexAddr ty x i,t,p,a,g⟩ Q=bindO (ev ρ x) fun y=>bindO (ev ρ i) fun z=>atK (U ty).k (iaddrK U y z (atH Q h)):=by
 simp only [vcOp,pv,withv_eq,atK]
 congr 1
def objL (b:Blk) (f:List AV→TypeId→Prop):Prop:=match b with
 | .obj cs t=>f cs t
 |_=>False
@[congr] theorem objL_congr {b b'} {f} (e:b=b'):objL b f=objL b' f:=by rw [e]
@[go_sem↓] theorem objL_eq (cs) (t) (f):objL (.obj cs t) f=f cs t:=rfl
def loadA (U:TypeId→TI) (h:Heap) (ty:TypeId) (y:AV) (k:AV→Prop):Prop:=match y with
 | .ptr id off=>bindO (h id) fun b=>objL b fun cs _=>partA cs off (U ty) k
 | .pe z off=>atA z off (U ty) k
 |_=>False
@[congr] theorem loadA_congr {ty} {y y'} (e:y=y'):loadA U h ty y k=loadA U h ty y' k:=by rw [e]
@[go_sem↓] theorem loadA_ptr (ty) (id off):loadA U h ty (.ptr id off) k=bindO (h id) fun b=>objL b fun cs _=>partA cs off (U ty) k:=rfl
@[go_sem↓] theorem loadA_pe (ty) (z) (off):loadA U h ty (.pe z off) k=atA z off (U ty) k:=rfl
@[go_sem↓] theorem o_load (ty) (x):vcOp P U ρ h ⟨d, .load ty x,t,p,a,g⟩ Q=((U ty).sz≠0∧(U ty).k≠ .other∧bindO (ev ρ x) fun y=>loadA U h ty y (atH Q h)):=by
 simp only [vcOp,pv,withv_eq]
 congr 1
 congr 1
 congr 1
 funext y
 cases y with
 |ptr id off=>
  simp only [loadA]
  cases h id with
  |none=>rfl
  |some b=>cases b<;>rfl
 |_=>rfl
def intA (y:AV) (f:Int→Prop):Prop:=match y with
 | .v (.int _ m)=>f m
 |_=>False
@[congr] theorem intA_congr {y y'} {f} (e:y=y'):intA y f=intA y' f:=by rw [e]
@[go_sem↓] theorem intA_eq (x) (m) (f):intA (.v (.int x m)) f=f m:=rfl
@[go_sem↓] theorem optA_none (m) (f):optA ρ none m f=f m:=rfl
@[go_sem↓] theorem optA_some (x) (m) (f):optA ρ (some x) m f=bindO (ev ρ x) fun y=>intA y f:=by
 simp only [optA,withv_eq]
 congr 1
def sliceK (U:TypeId→TI) (ρ:Env) (y:AV) (lo hi mx:Option Operand) (k:AV→Prop) (tk:TK):Prop:=match y with
 | .s l=>tk= .str∧mx=none∧optA ρ lo 0 fun a=>optA ρ hi l.length fun b=>0≤a∧a≤b∧b≤l.length∧k (.s (cutL l a b lo.isSome hi.isSome))
 | .sl xs p=>match tk with
  | .slice e=>(U e).sz≠0∧(lo.isSome=true→∀z∈xs,z.cells.length=(U e).sz)∧match mx with
   |none=>optA ρ lo 0 fun a=>optA ρ hi xs.length fun b=>0≤a∧a≤b∧b≤xs.length∧k (.sl (cutL xs a b lo.isSome hi.isSome) (cutQ xs p lo.isSome hi.isSome))
   |some m=>hi.isSome=true∧optA ρ lo 0 fun a=>optA ρ hi xs.length fun b=>optA ρ (some m) 0 fun c=>0≤a∧a≤b∧b=c∧c≤xs.length∧k (.sl (cutL xs a b lo.isSome true) .full)
  |_=>False
 | .oa id off len=>match tk with
  | .slice e=>(U e).sz≠0∧(lo.isSome=true→(U e).sz=1)∧mx=none∧optA ρ lo 0 fun a=>optA ρ hi len fun b=>0≤a∧a≤b∧b≤len∧k (.oa id (off+a.toNat*(U e).sz) (b.toNat - a.toNat))
  |_=>False
 | .ob id off len cap sz=>match tk with
  | .slice e=>(U e).sz≠0∧sz=(U e).sz∧match mx with
   |none=>optA ρ lo 0 fun a=>optA ρ hi len fun b=>0≤a∧a≤b∧b≤cap∧k (.ob id (off+a.toNat*sz) (b.toNat - a.toNat) (cap - a.toNat) sz)
   |some m=>hi.isSome=true∧optA ρ lo 0 fun a=>optA ρ hi len fun b=>optA ρ (some m) 0 fun c=>0≤a∧a≤b∧b≤c∧c≤cap∧k (.ob id (off+a.toNat*sz) (b.toNat - a.toNat) (c.toNat - a.toNat) sz)
  |_=>False
 |_=>False
@[go_sem↓] theorem sliceK_s (l) (lo hi):sliceK U ρ (.s l) lo hi none k .str=optA ρ lo 0 fun a=>optA ρ hi l.length fun b=>0≤a∧a≤b∧b≤l.length∧k (.s (cutL l a b lo.isSome hi.isSome)):=by simp [sliceK]
@[go_sem↓] theorem sliceK_none (xs) (q) (hi) (e):sliceK U ρ (.sl xs q) none hi none k (.slice e)=((U e).sz≠0∧optA ρ hi xs.length fun b=>0≤b∧b≤xs.length∧k (.sl (cutL xs 0 b false hi.isSome) (cutQ xs q false hi.isSome))):=by
 simp [sliceK,optA]
@[go_sem↓] theorem sliceK_some (xs) (q) (lo) (hi) (e):sliceK U ρ (.sl xs q) (some lo) hi none k (.slice e)=((U e).sz≠0∧Sized (U e).sz xs∧optA ρ (some lo) 0 fun a=>optA ρ hi xs.length fun b=>0≤a∧a≤b∧b≤xs.length∧k (.sl (cutL xs a b true hi.isSome) (cutQ xs q true hi.isSome))):=by
 simp [sliceK,Sized]
@[go_sem↓] theorem sliceK_oa (id off len) (lo hi) (e):sliceK U ρ (.oa id off len) lo hi none k (.slice e)=((U e).sz≠0∧(lo.isSome=true→(U e).sz=1)∧optA ρ lo 0 fun a=>optA ρ hi len fun b=>0≤a∧a≤b∧b≤len∧k (.oa id (off+a.toNat*(U e).sz) (b.toNat - a.toNat))):=by
 simp [sliceK]
@[go_sem] theorem cutL_tf {α:Type} (xs:List α) (a b):cutL xs a b true false=xs.drop a.toNat:=rfl
@[go_sem] theorem cutL_ft {α:Type} (xs:List α) (a b):cutL xs a b false true=xs.take b.toNat:=rfl
@[go_sem] theorem cutL_tt {α:Type} (xs:List α) (a b):cutL xs a b true true=(xs.drop a.toNat).take (b.toNat - a.toNat):=rfl
@[go_sem↓] theorem o_slice (ty) (x) (lo hi mx):vcOp P U ρ h ⟨d, .slice ty x lo hi mx,t,p,a,g⟩ Q=bindO (ev ρ x) fun y=>atK (U ty).k (sliceK U ρ y lo hi mx (atH Q h)):=by
 simp only [vcOp,pv,withv_eq,atK]
 congr 1
end
end Go.Ab

set_option linter.unusedSimpArgs false
set_option linter.unusedVariables false
namespace Go.Ab
open Go
section
variable {P : Program} {U : TypeId → TI} {n : Nat} {ρ : Env} {h : Heap}
variable {d : Option Tmp} {t : TypeId} {p : String} {a : Array Edge} {g : Option (Nat × Bool)} {Q : AV → Heap → Prop} {k : AV → Prop}
def NewP (h:Heap) (b:Blk) (Q:AV→Heap→Prop):Prop:=∀id,h id=none→Q (.ptr id 0) (upd h id (some b))
def NewA (h:Heap) (sz m:Nat) (b:Blk) (Q:AV→Heap→Prop):Prop:=∀id,h id=none→Q (arrA sz m id) (upd h id (some b))
def NewS (h:Heap) (xs:List AV) (b:Blk) (Q:AV→Heap→Prop):Prop:=∀id,h id=none→Q (.sl xs (.own id)) (upd h id (some b))
def ApNew (U:TypeId→TI) (h:Heap) (xs ys:List AV) (e:TypeId) (Q:AV→Heap→Prop):Prop:=
 (∀id,h id=none→Q (.sl (xs++ys) (.own id)) (upd h id (some (.spare (xs.length+ys.length) (U e).sz))))∨
  ((U e).sz=1∧fit (U e).zero 1∧isAggA (U e).zero=false∧(∀z∈xs++ys,isAggA z=false)∧∀id m,h id=none→Q (.oa id 0 (xs.length+ys.length)) (upd h id (some (.obj (xs++ys++List.replicate m (U e).zero) e))))∨
  (fit (U e).zero (U e).sz∧newOb h (flatA xs++flatA ys) (xs.length+ys.length) (U e).sz e Q)
@[congr] theorem ApNew_congr {h h'} {xs xs' ys ys'} {e} (e0:h=h') (e1:xs=xs') (e2:ys=ys'):ApNew U h xs ys e Q=ApNew U h' xs' ys' e Q:=by grind
theorem ApNew.own {xs ys} {e} (hk:NewS h (xs++ys) (.spare (xs.length+ys.length) (U e).sz) Q):ApNew U h xs ys e Q:= .inl hk
theorem ApNew.oa {xs ys} {e} (h1:(U e).sz=1) (h2:fit (U e).zero 1) (h3:isAggA (U e).zero=false) (h4:∀z∈xs++ys,isAggA z=false)
  (hk:∀id m,h id=none→Q (.oa id 0 (xs.length+ys.length)) (upd h id (some (.obj (xs++ys++List.replicate m (U e).zero) e)))):ApNew U h xs ys e Q:= .inr (.inl ⟨h1,h2,h3,h4,hk⟩)
theorem ApNew.ob {xs ys} {e} (h1:fit (U e).zero (U e).sz) (hk:newOb h (flatA xs++flatA ys) (xs.length+ys.length) (U e).sz e Q):ApNew U h xs ys e Q:= .inr (.inr ⟨h1,hk⟩)
def ApFull (U:TypeId→TI) (h:Heap) (xs ys:List AV) (e:TypeId) (Q:AV→Heap→Prop):Prop:=(ys= []→Q (.sl xs .full) h)∧(ys≠ []→ApNew U h xs ys e Q)
@[congr] theorem ApFull_congr {h h'} {xs xs' ys ys'} {e} (e0:h=h') (e1:xs=xs') (e2:ys=ys'):ApFull U h xs ys e Q=ApFull U h' xs' ys' e Q:=by grind
@[go_sem] theorem upd_same' {α:Type} (f:Nat→α) (i) (x:α):upd f i x i=x:=upd_same f i x
@[go_sem] theorem upd_ne {α:Type} (f:Nat→α) (i j) (x:α) (e:¬j=i):upd f i x j=f j:=upd_other f x e
@[go_sem] theorem upd_upd {α:Type} (f:Nat→α) (i) (x y:α):upd (upd f i x) i y=upd f i y:=by
 grind [upd]
def idxOK:List (Nat×Operand)→Nat→Bool
 | [],_=>true
 |(i,_)::r,k=>i==k && idxOK r (k+1)
theorem idxOK_iff:∀(l:List (Nat×Operand)) (k:Nat),idxOK l k=true↔l.map (·.1)=List.range' k l.length
 | [],k=>by simp [idxOK]
 |(i,x)::r,k=>by simp [idxOK,idxOK_iff r (k+1),List.range'_succ]
@[go_sem] theorem idxOK_nil (k):idxOK [] k=true:=rfl
@[go_sem] theorem idxOK_cons (i) (x) (r) (k):(idxOK ((i,x)::r) k=true)=(i=k∧idxOK r (k+1)=true):=by simp [idxOK]
theorem idx_range (l) (m):(l.map (·.1)=List.range m)=(idxOK l 0=true∧l.length=m):=by
 apply propext
 rw [idxOK_iff,List.range_eq_range']
 constructor
 ·intro e
  have:=congrArg List.length e
  simp at this
  exact ⟨by grind,this⟩
 grind
def bsK (U:TypeId→TI) (ρ:Env) (len:Nat) (parts:List (Nat×Operand)) (k:AV→Prop) (tk:TK):Prop:=match tk with
 | .slice e=>(U e).sz≠0∧len*(U e).sz≤16777216∧(idxOK parts 0=true∧parts.length=len)∧bindO (evs ρ (parts.map (·.2))) fun xs=>fits (U e).sz xs∧k (.sl xs .full)
 |_=>False
@[go_sem↓] theorem bsK_eq (len) (parts) (e):bsK U ρ len parts k (.slice e)=((U e).sz≠0∧len*(U e).sz≤16777216∧(idxOK parts 0=true∧parts.length=len)∧bindO (evs ρ (parts.map (·.2))) fun xs=>fits (U e).sz xs∧k (.sl xs .full)):=rfl
@[go_sem↓] theorem o_buildSlice (ty) (len) (parts):vcOp P U ρ h ⟨d, .buildSlice ty len parts.toArray,t,p,a,g⟩ Q=atK (U ty).k (bsK U ρ len parts (atH Q h)):=by
 simp only [vcOp,pv,atK]
 cases (U ty).k<;>simp only [bsK,withvs_eq,idx_range]
 rfl
def aggK (k:AV→Prop) (cs:List AV):Prop:=k (.agg cs)
@[go_sem↓] theorem aggK_eq (cs):aggK k cs=k (.agg cs):=rfl
def aggOf (z:AV):Option (List AV):=match z with
 | .agg cs=>some cs
 |_=>none
@[go_sem] theorem aggOf_agg (cs):aggOf (.agg cs)=some cs:=rfl
def bK (U:TypeId→TI) (ρ:Env) (ty:TypeId) (parts:List (Nat×Operand)) (k:AV→Prop) (tk:TK):Prop:=match tk with
 | .strct fs=>(U ty).sz≠0∧bindO (aggOf (U ty).zero) fun cs0=>withps U ρ fs parts cs0 (aggK k)
 |_=>False
@[go_sem↓] theorem bK_eq (ty) (parts) (fs):bK U ρ ty parts k (.strct fs)=((U ty).sz≠0∧bindO (aggOf (U ty).zero) fun cs0=>withps U ρ fs parts cs0 (aggK k)):=rfl
def bU (U:TypeId→TI) (ρ:Env) (ty:TypeId) (parts:List (Nat×Operand)) (k:AV→Prop) (b:Bool):Prop:=match b with
 |true=>parts= []∧k (.agg [])
 |false=>atK (U ty).k (bK U ρ ty parts k)
@[go_sem↓] theorem bU_t (ty) (parts):bU U ρ ty parts k true=(parts= []∧k (.agg [])):=rfl
@[go_sem↓] theorem bU_f (ty) (parts):bU U ρ ty parts k false=atK (U ty).k (bK U ρ ty parts k):=rfl
@[go_sem] theorem isUnit_u:isUnit (.strct [])=true:=rfl
@[go_sem] theorem isUnit_s (f) (fs):isUnit (.strct (f::fs))=false:=rfl
@[go_sem] theorem isUnit_i (x):isUnit (.int x)=false:=rfl
@[go_sem] theorem isUnit_b:isUnit .bool=false:=rfl
@[go_sem] theorem isUnit_str:isUnit .str=false:=rfl
@[go_sem] theorem isUnit_sl (e):isUnit (.slice e)=false:=rfl
theorem o_build' (ty) (parts):(match (U ty).k with
  | .strct fs=>(U ty).sz≠0∧∃cs0,(U ty).zero= .agg cs0∧withps U ρ fs parts cs0 fun cs=>(atH Q h) (.agg cs)
  |_=>False)=atK (U ty).k (bK U ρ ty parts (atH Q h)):=by
 congr 1
 cases hz:(U ty).zero<;>simp [aggOf,bindO]
 rfl
@[go_sem↓] theorem o_build (ty) (parts):vcOp P U ρ h ⟨d, .build ty parts.toArray,t,p,a,g⟩ Q=bU U ρ ty parts (atH Q h) (isUnit (U ty).k):=by
 simp only [vcOp,pv]
 cases isUnit (U ty).k
 ·simp only [bU,Bool.false_eq_true,if_false]
  exact o_build' ty parts
 rfl
@[congr] theorem withps_congr' {fs} {ps} {cs cs'} {k} (e:cs=cs'):withps U ρ fs ps cs k=withps U ρ fs ps cs' k:=by rw [e]
@[go_sem] theorem withps_nil (fs) (cs) (k):withps U ρ fs [] cs k=k cs:=rfl
@[go_sem] theorem withps_cons (fs) (i) (x) (r) (cs) (k):
  withps U ρ fs ((i,x)::r) cs k=bindO fs[i]? fun q=>(U q.2).sz≠0∧bindO (ev ρ x) fun y=>fit y (U q.2).sz∧q.1+(U q.2).sz≤cs.length∧withps U ρ fs r (over cs q.1 y.cells) k:=by
 simp only [withps,withv_eq]
 cases fs[i]? <;>rfl
@[go_sem] theorem over_eq (cs) (o) (xs):over cs o xs=cs.take o++xs++cs.drop (o+xs.length):=rfl
section
variable {ty : TypeId} {y : AV}
end
def fnA (y:AV) (f:FuncId→List AV→Prop):Prop:=match y with
 | .fn g cap=>f g cap
 |_=>False
@[congr] theorem fnA_congr {y y'} {f} (e:y=y'):fnA y f=fnA y' f:=by rw [e]
@[go_sem↓] theorem fnA_eq (g) (cap) (f):fnA (.fn g cap) f=f g cap:=rfl
@[go_sem↓] theorem o_call (q) (args) (ts):vcOp P U ρ h ⟨d, .call ⟨.value q,args.toArray,ts⟩,t,p,a,g⟩ Q=bindO (ev ρ q) fun y=>fnA y fun f cap=>bindO (evs ρ args) fun ys=>FnOK P f (ys++cap) h Q:=by
 simp only [vcOp,withv_eq,withvs_eq]
 congr 1
def lenK (y:AV) (k:AV→Prop) (tk:TK):Prop:=match tk,y with
 | .str, .s l=>k (.v (.int .i64 l.length))
 | .slice _, .sl xs _=>k (.v (.int .i64 xs.length))
 | .slice _, .oa _ _ len=>k (.v (.int .i64 len))
 | .slice _, .ob _ _ len _ _=>k (.v (.int .i64 len))
 |_,_=>False
def lenB (k:AV→Prop) (b:Blk):Prop:=match b with
 | .mp m=>k (.v (.int .i64 m.length))
 |_=>False
@[congr] theorem lenB_congr {b b'} (e:b=b'):lenB k b=lenB k b' :=by rw [e]
def lenM (h:Heap) (y:AV) (k:AV→Prop) (tk:TK):Prop:=match tk,y with
 | .map _ _, .mp id=>bindO (h id) (lenB k)
 |tk,y=>lenK y k tk
@[go_sem↓] theorem lenM_str (y):lenM h y k .str=lenK y k .str:=rfl
@[go_sem↓] theorem lenM_slice (y) (e):lenM h y k (.slice e)=lenK y k (.slice e):=rfl
@[go_sem↓] theorem lenK_s (l):lenK (.s l) k .str=k (.v (.int .i64 l.length)):=rfl
@[go_sem↓] theorem lenK_sl (xs) (q) (e):lenK (.sl xs q) k (.slice e)=k (.v (.int .i64 xs.length)):=rfl
@[go_sem↓] theorem o_len (x) (ty):vcOp P U ρ h ⟨d, .call ⟨.builtin .len, #[x], #[ty]⟩,t,p,a,g⟩ Q=bindO (ev ρ x) fun y=>atK (U ty).k (lenM h y (atH Q h)):=by
 simp only [vcOp,pv,pvB,withv_eq,atK]
 congr 1
 funext y
 cases (U ty).k with
 |map a b=>
  cases y with
  |mp id=>
   show (match h id with
    |some (.mp m)=>Q (.v (.int .i64 m.length)) h
    |_=>False)=bindO (h id) (lenB (atH Q h))
   cases h id with
   |none=>rfl
   |some b=>cases b<;>rfl
  |_=>rfl
 |_=>cases y<;>rfl
@[congr] theorem minA_congr {ys ys'} (e:ys=ys'):minA ys k=minA ys' k:=by rw [e]
@[congr] theorem maxA_congr {ys ys'} (e:ys=ys'):maxA ys k=maxA ys' k:=by rw [e]
@[congr] theorem realA_congr {ys ys'} (e:ys=ys'):realA ys k=realA ys' k:=by rw [e]
@[congr] theorem imagA_congr {ys ys'} (e:ys=ys'):imagA ys k=imagA ys' k:=by rw [e]
@[congr] theorem cplxA_congr {ys ys'} (e:ys=ys'):cplxA ys k=cplxA ys' k:=by rw [e]
@[congr] theorem srcA_congr {e} {y y'} {f} (h1:y=y'):srcA U e h y f=srcA U e h y' f:=by rw [h1]
@[go_sem↓] theorem srcA_sl (e) (ys) (q) (f):srcA U e h (.sl ys q) f=f ys:=rfl
def apK (U:TypeId→TI) (h:Heap) (x y:AV) (Q:AV→Heap→Prop) (tk:TK):Prop:=match tk,x with
 | .slice e, .sl xs .full=>(U e).sz≠0∧(U e).bytes≠0∧srcA U e h y fun ys=>Sized (U e).sz xs∧Sized (U e).sz ys∧(xs.length+ys.length)*(U e).bytes≤140737488355328∧
   ApFull U h xs ys e Q
 | .slice e, .sl xs (.own id)=>(U e).sz≠0∧(U e).bytes≠0∧srcA U e h y fun ys=>Sized (U e).sz xs∧Sized (U e).sz ys∧(xs.length+ys.length)*(U e).bytes≤140737488355328∧
   h id=some (.spare xs.length (U e).sz)∧Q (.sl (xs++ys) (.own id)) (upd h id (some (.spare (xs.length+ys.length) (U e).sz)))
 | .slice e, .oa id off len=>(U e).sz≠0∧(U e).bytes≠0∧(U e).sz=1∧srcA U e h y fun ys=>Sized 1 ys∧(∀z∈ys,isAggA z=false)∧(len+ys.length)*(U e).bytes≤140737488355328∧bindO (h id) fun b=>objL b fun cs t=>
   off+len≤cs.length∧(∀z∈(cs.drop off).take len,isAggA z=false)∧fit (U e).zero 1∧isAggA (U e).zero=false∧
     (off+(len+ys.length)≤cs.length→Q (.oa id off (len+ys.length)) (upd h id (some (.obj (over cs (off+len) ys) t))))∧
     (∀id' m,h id' =none→Q (.oa id' 0 (len+ys.length)) (upd h id' (some (.obj ((cs.drop off).take len++ys++List.replicate m (U e).zero) e))))
 | .slice e, .ob id off len cap sz=>(U e).sz≠0∧(U e).bytes≠0∧sz=(U e).sz∧srcA U e h y fun ys=>Sized (U e).sz ys∧(len+ys.length)*(U e).bytes≤140737488355328∧bindO (h id) fun b=>objL b fun cs t=>
   off+len*(U e).sz≤cs.length∧fit (U e).zero (U e).sz∧
     (len+ys.length≤cap→Q (.ob id off (len+ys.length) cap (U e).sz) (upd h id (some (.obj (over cs (off+len*(U e).sz) (flatA ys)) t))))∧
     (cap<len+ys.length→newOb h ((cs.drop off).take (len*(U e).sz)++flatA ys) (len+ys.length) (U e).sz e Q)
 |_,_=>False
@[go_sem↓] theorem apK_full (xs) (y) (e):apK U h (.sl xs .full) y Q (.slice e)=((U e).sz≠0∧(U e).bytes≠0∧srcA U e h y fun ys=>Sized (U e).sz xs∧Sized (U e).sz ys∧(xs.length+ys.length)*(U e).bytes≤140737488355328∧
   ApFull U h xs ys e Q):=rfl
@[go_sem↓] theorem apK_own (xs) (y) (id) (e):apK U h (.sl xs (.own id)) y Q (.slice e)=((U e).sz≠0∧(U e).bytes≠0∧srcA U e h y fun ys=>Sized (U e).sz xs∧Sized (U e).sz ys∧(xs.length+ys.length)*(U e).bytes≤140737488355328∧
   h id=some (.spare xs.length (U e).sz)∧Q (.sl (xs++ys) (.own id)) (upd h id (some (.spare (xs.length+ys.length) (U e).sz)))):=rfl
theorem vcAppend_eq (ts) (x y):vcAppend U h ts x y Q=atK (U ts).k (apK U h x y Q):=by
 unfold vcAppend atK
 cases (U ts).k with
 |slice e=>
  cases x with
  |sl xs q=>
   cases q with
   |no=>
    simp only [apK]
    apply propext
    constructor
    ·rintro ⟨_,_,hk⟩
     obtain ⟨ys,hh,_⟩:∃ys:List AV,(Sized (U e).sz xs∧Sized (U e).sz ys∧(xs.length+ys.length)*(U e).bytes≤140737488355328∧False)∧True:=by
      unfold srcA at hk
      grind
     grind
    simp
   |full=>
    rfl
   |own id=>rfl
  |oa id off len=>
   refine congrArg (fun q=>(U e).sz≠0∧(U e).bytes≠0∧(U e).sz=1∧q) (congrArg (fun f=>srcA U e h y f) (funext fun ys=> ?_))
   cases h id with
   |none=>rfl
   |some b=>cases b<;>rfl
  |ob id off len cap sz=>
   refine congrArg (fun q=>(U e).sz≠0∧(U e).bytes≠0∧sz=(U e).sz∧q) (congrArg (fun f=>srcA U e h y f) (funext fun ys=> ?_))
   cases h id with
   |none=>rfl
   |some b=>cases b<;>rfl
  |_=>simp [apK]
 |_=>rfl
@[go_sem↓] theorem apT_slice (e) (A B:Prop):apT A B (.slice e)=A:=rfl
def apzK (U:TypeId→TI) (h:Heap) (x y:AV) (Q:AV→Heap→Prop) (tk:TK):Prop:=match tk,x,y with
 | .slice e, .ob id off len cap sz, .v (.int _ n)=>(U e).sz≠0∧(U e).bytes≠0∧sz=(U e).sz∧0<n∧(len+n.toNat)*(U e).bytes≤140737488355328∧fit (U e).zero (U e).sz∧cap<len+n.toNat∧bindO (h id) fun b=>objL b fun cs _=>
   off+len*(U e).sz≤cs.length∧newOb h ((cs.drop off).take (len*(U e).sz)++zerosA (U e).zero n.toNat (U e).sz) (len+n.toNat) (U e).sz e Q
 |_,_,_=>False
theorem vcApz_eq (ts) (x y):vcApz U h ts x y Q=atK (U ts).k (apzK U h x y Q):=by
 unfold vcApz atK
 cases (U ts).k with
 |slice e=>
  cases x with
  |ob id off len cap sz=>
   cases y with
   |v u=>
    cases u with
    |int k n=>
     simp only [apzK]
     cases h id with
     |none=>rfl
     |some b=>cases b<;>rfl
    |_=>rfl
   |_=>rfl
  |_=>rfl
 |_=>rfl
@[go_sem↓] theorem o_append (x y) (t1 t2):vcOp P U ρ h ⟨d, .call ⟨.builtin .append, #[x,y], #[t1,t2]⟩,t,p,a,g⟩ Q=bindO (ev ρ x) fun u=>bindO (ev ρ y) fun v=>atK (U t2).k (apT (atK (U t1).k (apK U h u v Q)) (atK (U t1).k (apzK U h u v Q))):=by
 simp [vcOp,withv_eq,vcAppend_eq,vcApz_eq,atK]
def alU (U:TypeId→TI) (h:Heap) (ty:TypeId) (Q:AV→Heap→Prop) (b:Bool):Prop:=match b with
 |true=>NewP h (.obj [] ty) Q
 |false=>(U ty).sz≠0∧fit (U ty).zero (U ty).sz∧NewP h (.obj (U ty).zero.cells ty) Q
@[go_sem↓] theorem alU_t (ty):alU U h ty Q true=NewP h (.obj [] ty) Q:=rfl
@[go_sem↓] theorem alU_f (ty):alU U h ty Q false=((U ty).sz≠0∧fit (U ty).zero (U ty).sz∧NewP h (.obj (U ty).zero.cells ty) Q):=rfl
@[go_sem↓] theorem o_alloc (ty):vcOp P U ρ h ⟨d, .alloc ty,t,p,a,g⟩ Q=alU U h ty Q (isUnit (U ty).k):=by
 simp only [vcOp]
 cases isUnit (U ty).k<;>rfl
@[go_sem↓] theorem o_box (ty) (x):vcOp P U ρ h ⟨d, .box ty x,t,p,a,g⟩ Q=((U ty).sz≠0∧bindO (ev ρ x) fun y=>fit y (U ty).sz∧NewP h (.obj y.cells ty) Q):=by
 simp only [vcOp,withv_eq]
 rfl
def stA (U:TypeId→TI) (h:Heap) (ty:TypeId) (q y:AV) (Q:AV→Heap→Prop):Prop:=match q with
 | .ptr id off=>bindO (h id) fun b=>objL b fun cs t' =>fit y (U ty).sz∧off+(U ty).sz≤cs.length∧Q (.v undef) (upd h id (some (.obj (over cs off y.cells) t')))
 |_=>False
@[congr] theorem stA_congr {ty} {q q' y y'} (e1:q=q') (e2:y=y'):stA U h ty q y Q=stA U h ty q' y' Q:=by grind
@[go_sem↓] theorem stA_ptr (ty) (id off) (y):stA U h ty (.ptr id off) y Q=bindO (h id) fun b=>objL b fun cs t' =>fit y (U ty).sz∧off+(U ty).sz≤cs.length∧Q (.v undef) (upd h id (some (.obj (over cs off y.cells) t'))):=rfl
def utA (h:Heap) (u y:AV) (Q:AV→Heap→Prop):Prop:=y= .agg []∧match u with
 | .ptr .. =>Q (.v undef) h
 |_=>False
@[congr] theorem utA_congr {u u' y y'} (e1:u=u') (e2:y=y'):utA h u y Q=utA h u' y' Q:=by grind
@[go_sem↓] theorem utA_eq (i o):utA h (.ptr i o) (.agg []) Q=Q (.v undef) h:=by simp [utA]
def stU (U:TypeId→TI) (ρ:Env) (h:Heap) (ty:TypeId) (q x:Operand) (Q:AV→Heap→Prop) (b:Bool):Prop:=match b with
 |true=>bindO (ev ρ q) fun u=>bindO (ev ρ x) fun y=>utA h u y Q
 |false=>(U ty).sz≠0∧bindO (ev ρ q) fun u=>bindO (ev ρ x) fun y=>stA U h ty u y Q
@[go_sem↓] theorem stU_t (ty) (q x):stU U ρ h ty q x Q true=bindO (ev ρ q) fun u=>bindO (ev ρ x) fun y=>utA h u y Q:=rfl
@[go_sem↓] theorem stU_f (ty) (q x):stU U ρ h ty q x Q false=((U ty).sz≠0∧bindO (ev ρ q) fun u=>bindO (ev ρ x) fun y=>stA U h ty u y Q):=rfl
@[go_sem↓] theorem o_store (ty) (q x):vcOp P U ρ h ⟨d, .store ty q x,t,p,a,g⟩ Q=stU U ρ h ty q x Q (isUnit (U ty).k):=by
 simp only [vcOp,withv_eq]
 cases isUnit (U ty).k
 case true=>rfl
 simp only [stU,Bool.false_eq_true,if_false]
 congr 1
 congr 1
 funext u
 congr 1
 funext y
 cases u<;>simp only [stA]
 rename_i id off
 cases h id with
 |none=>rfl
 |some b=>cases b<;>rfl
def mkK (U:TypeId→TI) (h:Heap) (x y:AV) (Q:AV→Heap→Prop) (tk:TK):Prop:=match tk,x,y with
 | .slice e, .v (.int _ n), .v (.int _ n')=>n=n'∧0≤n∧n<lim∧n*(U e).bytes≤281474976710656∧(U e).sz≠0∧fit (U e).zero (U e).sz∧
   NewA h (U e).sz n.toNat (.obj (zerosA (U e).zero n.toNat (U e).sz) e) Q
 |_,_,_=>False
def RetOK (xs:List AV) (h:Heap) (Q:AV→Heap→Prop):Prop:=∃y h',Weak (oneOr xs) y∧Sub h' h∧Q y h'
@[congr] theorem RetOK_congr {xs xs'} {h h'} {Q} (e1:xs=xs') (e2:h=h'):RetOK xs h Q=RetOK xs' h' Q:=by grind
@[go_sem↓] theorem bodyK_ret (rs):bodyK U rs Q .ret ρ h=resA ρ h U rs fun xs=>RetOK xs h Q:=by simp [bodyK,RetOK]
@[go_sem↓] theorem resA_nil (f):resA ρ h U [] f=f []:=rfl
@[go_sem↓] theorem resA_tmp (i) (r) (f):resA ρ h U (.tmp i::r) f=bindO (lk ρ i) fun x=>resA ρ h U r fun xs=>f (x::xs):=by
 simp only [resA]
 cases lk ρ i<;>rfl
def cellA (U:TypeId→TI) (h:Heap) (ty:TypeId) (y:AV) (k:AV→Prop):Prop:=match y with
 | .ptr id off=>bindO (h id) fun b=>objL b fun cs _=>(U ty).sz≠0∧(U ty).k≠ .other∧partA cs off (U ty) k
 |_=>False
@[congr] theorem cellA_congr {ty} {y y'} (e:y=y'):cellA U h ty y k=cellA U h ty y' k:=by rw [e]
@[go_sem↓] theorem cellA_ptr (ty) (id off):cellA U h ty (.ptr id off) k=bindO (h id) fun b=>objL b fun cs _=>(U ty).sz≠0∧(U ty).k≠ .other∧partA cs off (U ty) k:=rfl
@[go_sem↓] theorem resA_cell (i) (ty) (r) (f):resA ρ h U (.cell i ty::r) f=bindO (lk ρ i) fun y=>cellA U h ty y fun x=>resA ρ h U r fun xs=>f (x::xs):=by
 simp only [resA]
 cases lk ρ i with
 |none=>rfl
 |some y=>
  cases y<;>simp only [bindO_some,cellA]
  rename_i id off
  cases h id with
  |none=>rfl
  |some b=>cases b<;>rfl
theorem RetOK.mk {xs} {h h'} {Q} (y) (hw:Weak (oneOr xs) y) (hs:Sub h' h) (hq:Q y h'):RetOK xs h Q:=⟨y,h',hw,hs,hq⟩
theorem RetOK.same {xs} {h h'} {Q} (hs:Sub h' h) (hq:Q (oneOr xs) h'):RetOK xs h Q:=⟨_,h', .refl _,hs,hq⟩
theorem Sub.refl (h):Sub h h:=fun _ _ e=>e
theorem Sub.trans {a b c} (h1:Sub a b) (h2:Sub b c):Sub a c:=fun i k e=>h2 i k (h1 i k e)
theorem Sub.new {a b} (hs:Sub a b) {id} (hid:b id=none) (k):Sub a (Ab.upd b id k):=fun j l e=>by
 by_cases ej:j=id
 ·subst ej; rw [hs _ _ e] at hid; grind
 ·rw [upd_other _ _ ej]; exact hs _ _ e
theorem Sub.none {a b} (hs:Sub a b) {id} (hid:b id=none):a id=none:=by
 cases hh:a id with
 |none=>rfl
 |some k=>rw [hs _ _ hh] at hid; omega
theorem FnOK.body (hU:∀t,AgreeT P U t) (hm:P.follows .mixedOrders=true) {f} {fn} {c} {args} {h} {Q} (hf:P.funcs[f]? =some fn) (hb:fn.body=some c)
  (hn : (fn.name == "runtime.NumGoroutine") = false) (m) (hm' : fn.ntmps = m) (rs) (hr : fn.results.toList = rs) (hl : args.length ≤ m)
  (hk:(∀x∈args,wfA x)→vcCode P U m c (envOf args) h (bodyK U rs Q)):FnOK P f args h Q:=by
 subst hm'; subst hr
 exact FnOK.of_vc hU hm hf hb hn hl hk
end
end Go.Ab

set_option linter.unusedSimpArgs false
set_option linter.unusedVariables false
namespace Go.Ab
open Go
section
variable {P : Program} {U : TypeId → TI} {n : Nat} {ρ : Env} {h : Heap}
variable {d : Option Tmp} {t : TypeId} {p : String} {a : Array Edge} {g : Option (Nat × Bool)} {Q : AV → Heap → Prop} {k : AV → Prop}
def dsts (n:Nat):List Oper→Bool
 | []=>true
 |o::os=>dstOK n o.dst && dsts n os
theorem dsts_eq (l):dsts n l=l.all fun o=>dstOK n o.dst:=by induction l with
 |nil=>rfl
 |cons o os ih=>grind [dsts]
@[go_sem] theorem dsts_nil:(dsts n []=true)=True:=by simp [dsts]
@[go_sem] theorem dsts_cons (o) (os):(dsts n (o::os)=true)=(dstOK n o.dst=true∧dsts n os=true):=by simp [dsts]
def LexOK (ops:Array Oper):Prop:=lexOK ops=true
theorem LexOK.of {ops} (h:lexOK ops=true):LexOK ops:=h
def constK (k:AV→Prop) (x:AV) (_:Heap):Prop:=k x
@[go_sem↓] theorem constK_eq (x):constK k x h=k x:=rfl
def KDr (P:Program) (U:TypeId→TI) (n:Nat) (all os:List Oper) (h:Heap) (K:Env→Prop) (ρ:Env) (d:Option Tmp) (x:AV):Prop:=vcDr P U n all os (put ρ d x) h K
@[go_sem↓] theorem KDr_eq (all os) (K) (x):KDr P U n all os h K ρ d x=vcDr P U n all os (put ρ d x) h K:=rfl
def atN (K:Exit→Env→Heap→Prop) (h:Heap) (ρ:Env):Prop:=K .normal ρ h
@[go_sem↓] theorem atN_eq (K):atN K h ρ=K .normal ρ h:=rfl
def LexS (ops:Array Oper):Prop:=lexS ops=true
theorem LexS.of {ops} (h:lexS ops=true):LexS ops:=h
attribute [go_sem] Bool.not_false Bool.not_true isStore Option.isNone_none Option.isNone_some Bool.and_true Bool.true_and Bool.and_false Bool.false_and List.dropLast_singleton
@[go_sem] theorem lastS_cons (o o') (r):lastS (o::o' ::r)=lastS (o' ::r):=rfl
@[go_sem] theorem dropLast_cons (o o' :Oper) (r:List Oper):(o::o' ::r).dropLast=o::(o' ::r).dropLast:=rfl
@[go_sem↓] theorem lastK_one (o) (K):lastK P U [o] h K ρ=vcOp P U ρ h o (fun X h' =>K (put ρ o.dst X) h'):=rfl
@[go_sem↓] theorem lastK_cons (o o') (r) (K):lastK P U (o::o' ::r) h K ρ=lastK P U (o' ::r) h K ρ:=rfl
def withL (l:List Oper) (k:List Oper→Prop):Prop:=k l
@[congr] theorem withL_congr {l l'} {k} (e:l=l'):withL l k=withL l' k:=by rw [e]
@[go_sem] theorem withL_cons (o) (r) (k):withL (o::r) k=k (o::r):=rfl
section
variable (l : List Oper)
@[go_sem] theorem stillL_nil:stillL []=true:=rfl
@[go_sem] theorem stillL_cons (o):stillL (o::l)=(!effB o.op && stillL l):=rfl
end
section
variable (x y z : Operand) (ty ty' : TypeId)
@[go_sem] theorem effB_move:effB (.move x)=false:=rfl
@[go_sem] theorem effB_assign:effB (.assign x)=false:=rfl
@[go_sem] theorem effB_pick:effB (.pick x y z)=false:=rfl
@[go_sem] theorem effB_binOp (op):effB (.binOp op ty x y ty')=false:=rfl
@[go_sem] theorem effB_unOp (op):effB (.unOp op ty x)=false:=rfl
@[go_sem] theorem effB_fieldAddr (f):effB (.fieldAddr ty x f)=false:=rfl
@[go_sem] theorem effB_indexAddr:effB (.indexAddr ty x y)=false:=rfl
@[go_sem] theorem effB_load:effB (.load ty x)=false:=rfl
@[go_sem] theorem effB_slice (lo hi mx):effB (.slice ty x lo hi mx)=false:=rfl
@[go_sem] theorem effB_buildSlice (m) (ps):effB (.buildSlice ty m ps)=false:=rfl
@[go_sem] theorem effB_len (aa) (ts):effB (.call ⟨.builtin .len,aa,ts⟩)=false:=rfl
@[go_sem] theorem effB_call (aa) (ts):effB (.call ⟨.value x,aa,ts⟩)=true:=rfl
@[go_sem] theorem effB_append (aa) (ts):effB (.call ⟨.builtin .append,aa,ts⟩)=true:=rfl
@[go_sem] theorem effB_alloc:effB (.alloc ty)=true:=rfl
@[go_sem] theorem effB_store:effB (.store ty x y)=true:=rfl
end
def DrawE (P:Program) (U:TypeId→TI) (n:Nat) (l:List Oper) (ρ:Env) (h:Heap) (K:Exit→Env→Heap→Prop):Prop:=vcDrE P U n l.toArray ρ h (K .normal)
theorem DrawE.quiet {l} {K} (hB:lexOK l.toArray=true) (hk:dsts n l=true∧vcDr P U n l l ρ h (atN K h)):DrawE P U n l ρ h K:=
 ⟨by grind [dsts_eq], .inl ⟨hB,hk.2⟩⟩
theorem DrawE.calls {l} {K} (hm) (os) (hs:Sub hm h) (hB:ordOK .any l.toArray none (.seq os) (Array.replicate l.toArray.size false)=true) (hl:os.length=l.toArray.size)
  (hk:dsts n l=true∧vcDrH P U n l hm os ρ h (K .normal)):DrawE P U n l ρ h K:=
 ⟨by grind [dsts_eq], .inr (.inl ⟨hm, .seq os,_,hs,hB,hl,hk.2,fun _ _ h=>h⟩)⟩
def StageK (P:Program) (U:TypeId→TI) (n:Nat) (l:List Oper) (o2:List Nat) (K:Exit→Env→Heap→Prop) (ρ:Env) (h:Heap):Prop:=∃hm2,Sub hm2 h∧vcDrH P U n l hm2 o2 ρ h (K .normal)
theorem DrawE.fork {l} {K} (hm) (t) (Post) (hs:Sub hm h) (hB:ordOK .any l.toArray none t (Array.replicate l.toArray.size false)=true) (hl:t.len=l.toArray.size)
  (hd:dsts n l=true) (hk:vcDrT P U n l hm t ρ h Post) (hp:∀ρ h,Post ρ h→K .normal ρ h):DrawE P U n l ρ h K:=
 ⟨by grind [dsts_eq], .inr (by grind)⟩
theorem DrawE.tree {l} {K} (hm) (t) (hs:Sub hm h) (hB:ordOK .any l.toArray none t (Array.replicate l.toArray.size false)=true) (hl:t.len=l.toArray.size)
  (hk:dsts n l=true∧vcDrT P U n l hm t ρ h (K .normal)):DrawE P U n l ρ h K:=
 ⟨by grind [dsts_eq], .inr (by grind)⟩
theorem DrawE.stage {l} {K} (hm) (o1 o2) (hs:Sub hm h) (hB:stageOK .any l.toArray o1 o2=true)
  (hk:dsts n l=true∧vcDrH P U n l hm o1 ρ h (StageK P U n l o2 K)):DrawE P U n l ρ h K:=
 ⟨by grind [dsts_eq], .inr (.inr (.inl ⟨hm,o1,o2,hs,hB,hk.2⟩))⟩
theorem DrawE.late {l} {K} (hm) (o1 o2) (hs:Sub hm h) (hB:lateK .any l.toArray o1 o2=true)
  (hk:dsts n l=true∧vcDrH P U n l hm o1 ρ h (fun ρ h=>vcDrH P U n l (fun _=>none) o2 ρ h (K .normal))):DrawE P U n l ρ h K:=
 ⟨by grind [dsts_eq], .inr (.inr (.inr (.inr ⟨hm,o1,o2,hs,hB,hk.2⟩)))⟩
def DrawC (P:Program) (U:TypeId→TI) (n:Nat) (l:List Oper) (ρ:Env) (h:Heap) (K:Exit→Env→Heap→Prop) (b:Bool) (e:Bool):Prop:=match b,e with
 |true,_=>LexS l.toArray∧dsts n l=true∧vcDr P U n l l.dropLast ρ h (lastK P U l h (K .normal))
 |false,true=>LexOK l.toArray∧dsts n l=true∧vcDr P U n l l ρ h (atN K h)
 |false,false=>DrawE P U n l ρ h K
@[congr] theorem DrawC_congr {l} {K} {b b' e e'} (h1:b=b') (h2:e=e'):DrawC P U n l ρ h K b e=DrawC P U n l ρ h K b' e' :=by grind
@[go_sem↓] theorem DrawC_true (l) (K) (e):DrawC P U n l ρ h K true e=(LexS l.toArray∧dsts n l=true∧withL l.dropLast fun l' =>vcDr P U n l l' ρ h (lastK P U l h (K .normal))):=by rfl
@[go_sem↓] theorem DrawC_false (l) (K):DrawC P U n l ρ h K false true=(LexOK l.toArray∧dsts n l=true∧vcDr P U n l l ρ h (atN K h)):=rfl
@[go_sem↓] theorem DrawC_eff (l) (K):DrawC P U n l ρ h K false false=DrawE P U n l ρ h K:=rfl
def stillD (l:List Oper):Bool:=lastS l && stillL l.dropLast
@[go_sem] theorem stillD_one (o):stillD [o]=(isStore o.op && o.guard.isNone):=by simp [stillD,lastS,stillL]
@[go_sem] theorem stillD_cons (o o') (r):stillD (o::o' ::r)=(!effB o.op && stillD (o' ::r)):=by
 grind [stillD,lastS_cons,dropLast_cons,stillL_cons,effB]
@[go_sem↓] theorem r_draw (id) (l) (K):vcCode P U n (.region id l.toArray true) ρ h K=DrawC P U n l ρ h K (stillD l) (stillL l):=by
 simp only [vcCode,if_true,stillD]
 cases hb:(lastS l && stillL l.dropLast) with
 |true=>
  simp [if_true,Bool.and_eq_true,DrawC,LexS,dsts_eq,and_assoc]
 |false=>
  cases he:stillL l with
  |true=>
   simp only [Bool.false_eq_true,if_false,Bool.and_eq_true,DrawC,LexOK,dsts_eq,and_assoc,Bool.true_eq_false]
   rfl
  |false=>
   rfl
def KDrH (P:Program) (U:TypeId→TI) (n:Nat) (all:List Oper) (hm:Heap) (is:List Nat) (K:Env→Heap→Prop) (ρ:Env) (d:Option Tmp) (X:AV) (h:Heap):Prop:=vcDrH P U n all hm is (put ρ d X) h K
@[go_sem↓] theorem KDrH_eq (all) (hm) (is) (K) (d) (X):KDrH P U n all hm is K ρ d X h=vcDrH P U n all hm is (put ρ d X) h K:=rfl
def KDrS (P:Program) (U:TypeId→TI) (n:Nat) (all:List Oper) (hm:Heap) (is:List Nat) (K:Env→Heap→Prop) (ρ:Env) (d:Option Tmp) (X:AV) (h:Heap):Prop:=Sub hm h∧vcDrH P U n all hm is (put ρ d X) h K
@[go_sem↓] theorem KDrS_eq (all) (hm) (is) (K) (d) (X):KDrS P U n all hm is K ρ d X h=(Sub hm h∧vcDrH P U n all hm is (put ρ d X) h K):=rfl
@[go_sem↓] theorem h_nil (all) (hm) (K):vcDrH P U n all hm [] ρ h K=K ρ h:=rfl
def OneH (P:Program) (U:TypeId→TI) (n:Nat) (all:List Oper) (hm:Heap) (is:List Nat) (K:Env→Heap→Prop) (ρ:Env) (h:Heap) (o:Oper) (e:Bool):Prop:=match e with
 |true=>vcOp P U ρ h o (KDrS P U n all hm is K ρ o.dst)
 |false=>pv U ρ hm o.op fun X=>vcDrH P U n all hm is (put ρ o.dst X) h K
@[congr] theorem OneH_congr {all} {hm} {is} {K} {o} {e e'} (he:e=e'):OneH P U n all hm is K ρ h o e=OneH P U n all hm is K ρ h o e' :=by rw [he]
def constH (k:AV→Heap→Prop) (h:Heap) (x:AV) (_:Heap):Prop:=k x h
@[go_sem↓] theorem constH_eq (k) (h h') (x):constH k h x h' =k x h:=rfl
@[go_sem↓] theorem OneH_true (all) (hm) (is) (K) (op):OneH P U n all hm is K ρ h ⟨d,op,t,p,a,g⟩ true=vcOp P U ρ h ⟨d,op,t,p,a,g⟩ (KDrS P U n all hm is K ρ d):=rfl
def notNil:Op→Bool
 | .binOp _ _ _ y _=> !nilS y
 |_=>true
theorem pv_vcOp {hm} {op} {k} (h1:effB op=false) (h2:notNil op=true):vcOp P U ρ hm ⟨d,op,t,p,a,g⟩ (constH k h)=pv U ρ hm op fun X=>k X h:=by
 cases op with
 |call c=>
  obtain ⟨cal,args,ts⟩:=c
  cases cal with
  |value q=>grind [effB]
  |builtin b=>cases b<;>first|rfl|grind [effB]
  |_=>rfl
 |binOp op ty x y ty' =>
  simp only [notNil,Bool.not_eq_true'] at h2
  simp only [vcOp,h2]
  rfl
 |alloc=>grind [effB]
 |box=>grind [effB]
 |store=>grind [effB]
 |makeSlice=>grind [effB]
 |makeMap=>grind [effB]
 |mapUpdate=>grind [effB]
 |_=>rfl
theorem OneH_false {all} {hm} {is} {K} {op} (h1:effB op=false) (h2:notNil op=true):
  OneH P U n all hm is K ρ h ⟨d,op,t,p,a,g⟩ false=vcOp P U ρ hm ⟨d,op,t,p,a,g⟩ (constH (KDrH P U n all hm is K ρ d) h):=by
 rw [pv_vcOp h1 h2]; rfl
section
variable (all : List Oper) (hm : Heap) (is : List Nat) (K : Env → Heap → Prop) (x y z : Operand) (ty ty' : TypeId)
@[go_sem↓] theorem OneH_move:OneH P U n all hm is K ρ h ⟨d, .move x,t,p,a,g⟩ false=vcOp P U ρ hm ⟨d, .move x,t,p,a,g⟩ (constH (KDrH P U n all hm is K ρ d) h):=OneH_false rfl rfl
@[go_sem↓] theorem OneH_assign:OneH P U n all hm is K ρ h ⟨d, .assign x,t,p,a,g⟩ false=vcOp P U ρ hm ⟨d, .assign x,t,p,a,g⟩ (constH (KDrH P U n all hm is K ρ d) h):=OneH_false rfl rfl
@[go_sem↓] theorem OneH_pick:OneH P U n all hm is K ρ h ⟨d, .pick x y z,t,p,a,g⟩ false=vcOp P U ρ hm ⟨d, .pick x y z,t,p,a,g⟩ (constH (KDrH P U n all hm is K ρ d) h):=OneH_false rfl rfl
@[go_sem↓] theorem OneH_fieldAddr (f):OneH P U n all hm is K ρ h ⟨d, .fieldAddr ty x f,t,p,a,g⟩ false=vcOp P U ρ hm ⟨d, .fieldAddr ty x f,t,p,a,g⟩ (constH (KDrH P U n all hm is K ρ d) h):=OneH_false rfl rfl
@[go_sem↓] theorem OneH_indexAddr:OneH P U n all hm is K ρ h ⟨d, .indexAddr ty x y,t,p,a,g⟩ false=vcOp P U ρ hm ⟨d, .indexAddr ty x y,t,p,a,g⟩ (constH (KDrH P U n all hm is K ρ d) h):=OneH_false rfl rfl
@[go_sem↓] theorem OneH_load:OneH P U n all hm is K ρ h ⟨d, .load ty x,t,p,a,g⟩ false=vcOp P U ρ hm ⟨d, .load ty x,t,p,a,g⟩ (constH (KDrH P U n all hm is K ρ d) h):=OneH_false rfl rfl
@[go_sem↓] theorem OneH_slice (lo hi mx):OneH P U n all hm is K ρ h ⟨d, .slice ty x lo hi mx,t,p,a,g⟩ false=vcOp P U ρ hm ⟨d, .slice ty x lo hi mx,t,p,a,g⟩ (constH (KDrH P U n all hm is K ρ d) h):=OneH_false rfl rfl
@[go_sem↓] theorem OneH_buildSlice (m) (ps):OneH P U n all hm is K ρ h ⟨d, .buildSlice ty m ps,t,p,a,g⟩ false=vcOp P U ρ hm ⟨d, .buildSlice ty m ps,t,p,a,g⟩ (constH (KDrH P U n all hm is K ρ d) h):=OneH_false rfl rfl
@[go_sem↓] theorem OneH_binOp (op) (w):OneH P U n all hm is K ρ h ⟨d, .binOp op ty x (.tmp w) ty',t,p,a,g⟩ false=vcOp P U ρ hm ⟨d, .binOp op ty x (.tmp w) ty',t,p,a,g⟩ (constH (KDrH P U n all hm is K ρ d) h):=OneH_false rfl rfl
@[go_sem↓] theorem OneH_binOp_i (op) (ik) (im):OneH P U n all hm is K ρ h ⟨d, .binOp op ty x (.const (.int ik im)) ty',t,p,a,g⟩ false=vcOp P U ρ hm ⟨d, .binOp op ty x (.const (.int ik im)) ty',t,p,a,g⟩ (constH (KDrH P U n all hm is K ρ d) h):=OneH_false rfl rfl
@[go_sem↓] theorem OneH_binOp_s (op) (w):OneH P U n all hm is K ρ h ⟨d, .binOp op ty x (.const (.string w)) ty',t,p,a,g⟩ false=vcOp P U ρ hm ⟨d, .binOp op ty x (.const (.string w)) ty',t,p,a,g⟩ (constH (KDrH P U n all hm is K ρ d) h):=OneH_false rfl rfl
end
def GuardH (P:Program) (U:TypeId→TI) (n:Nat) (all:List Oper) (hm:Heap) (is:List Nat) (ρ:Env) (h:Heap) (K:Env→Heap→Prop) (w:Bool) (o:Oper) (s:Nat) (x:AV):Prop:=
 gB s w ρ (fun ρ=>OneH P U n all hm is K ρ h o (effB o.op)) (fun ρ=>vcDrH P U n all hm is (put ρ o.dst (.v undef)) h K) x
section
variable {all : List Oper} {hm : Heap} {is : List Nat} {K : Env → Heap → Prop} {o : Oper} {s : Nat}
@[go_sem↓] theorem GuardH_tt:GuardH P U n all hm is ρ h K true o s (.v (.bool true))=OneH P U n all hm is K ((s, .v (.bool true))::ρ) h o (effB o.op):=by simp [GuardH,gB,Br]
theorem GuardH.intro {w b} (h1:b=true→GuardH P U n all hm is ρ h K w o s (.v (.bool true))) (h2:b=false→GuardH P U n all hm is ρ h K w o s (.v (.bool false))):GuardH P U n all hm is ρ h K w o s (.v (.bool b)):=by
 cases b
 ·grind
 grind
end
def stepH (P:Program) (U:TypeId→TI) (n:Nat) (all:List Oper) (hm:Heap) (is:List Nat) (ρ:Env) (h:Heap) (K:Env→Heap→Prop) (o:Oper):Prop:=match o.guard with
 |none=>OneH P U n all hm is K ρ h o (effB o.op)
 |some (gi,w)=>bindO (dstAt all gi) fun s=>bindO (lk ρ s) (GuardH P U n all hm is ρ h K w o s)
@[go_sem↓] theorem stepH_none (all) (hm) (is) (K) (op):stepH P U n all hm is ρ h K ⟨d,op,t,p,a,none⟩=OneH P U n all hm is K ρ h ⟨d,op,t,p,a,none⟩ (effB op):=rfl
@[go_sem↓] theorem stepH_some (all) (hm) (is) (K) (op) (gi) (w):stepH P U n all hm is ρ h K ⟨d,op,t,p,a,some (gi,w)⟩=bindO (dstAt all gi) fun s=>bindO (lk ρ s) (GuardH P U n all hm is ρ h K w ⟨d,op,t,p,a,some (gi,w)⟩ s):=rfl
@[go_sem↓] theorem h_cons (all) (hm) (i) (is) (K):vcDrH P U n all hm (i::is) ρ h K=bindO all[i]? (stepH P U n all hm is ρ h K):=by
 simp only [vcDrH]
 cases all[i]? with
 |none=>rfl
 |some o=>
  simp only [bindO_some,stepH]
  have e:∀ρ',vcOne P U hm o ρ' h (fun X h' =>vcDrH P U n all hm is (put ρ' o.dst X) h' K)=OneH P U n all hm is K ρ' h o (effB o.op):=fun ρ' =>by
   unfold vcOne OneH vcE
   cases effB o.op<;>rfl
  cases hg:o.guard with
  |none=>simp only [guardA]; exact e ρ
  |some gg=>
   rw [guardA_eq]
   simp only [e]
   rfl
@[congr] theorem FnQ_congr {f f'} {a a'} {hm} {k} (h0:f=f') (h1:a=a'):FnQ P f a hm k=FnQ P f' a' hm k:=by grind
theorem FnQ.of {f} {args} {hm} {k} {X} (h1:∀h,FnOK P f args h fun x h' =>x=X∧h' =h) (h2:k X):FnQ P f args hm k:=⟨X,fun h _=>h1 h,h2⟩
@[go_sem↓] theorem t_seq (all) (hm) (l) (K):vcDrT P U n all hm (.seq l) ρ h K=vcDrH P U n all hm l ρ h K:=rfl
@[go_sem↓] theorem t_news (all) (hm) (l is) (t') (K):vcDrT P U n all hm (.news l is t') ρ h K=vcDrH P U n all hm l ρ h fun ρ h=>Sub hm h∧vcSides U all is∧vcNew P U all is ρ h fun ρ h=>vcDrT P U n all hm t' ρ h K:=rfl
def sideO (U:TypeId→TI) (o:Oper):Prop:=sideN U o.op
@[go_sem↓] theorem sideO_eq (ty):sideO U ⟨d, .alloc ty,t,p,a,g⟩=(isUnit (U ty).k=true∨(U ty).sz≠0∧fit (U ty).zero (U ty).sz):=rfl
@[go_sem↓] theorem sides_nil (all):vcSides U all []=True:=rfl
@[go_sem↓] theorem sides_cons (all) (i) (is):vcSides U all (i::is)=(bindO all[i]? (sideO U)∧vcSides U all is):=by
 simp only [vcSides]
 cases all[i]? <;>rfl
def NStep (P:Program) (U:TypeId→TI) (all:List Oper) (is:List Nat) (ρ:Env) (h:Heap) (K:Env→Heap→Prop) (o:Oper):Prop:=vcOp P U ρ h o fun X h' =>vcNew P U all is (put ρ o.dst X) h' K
@[go_sem↓] theorem NStep_eq (all) (is) (K) (op):NStep P U all is ρ h K ⟨d,op,t,p,a,g⟩=vcOp P U ρ h ⟨d,op,t,p,a,g⟩ fun X h' =>vcNew P U all is (put ρ d X) h' K:=rfl
@[go_sem↓] theorem new_nil (all) (K):vcNew P U all [] ρ h K=K ρ h:=rfl
@[go_sem↓] theorem new_cons (all) (i) (is) (K):vcNew P U all (i::is) ρ h K=bindO all[i]? (NStep P U all is ρ h K):=by
 simp only [vcNew]
 cases all[i]? <;>rfl
@[go_sem↓] theorem d_nil (all) (K):vcDr P U n all [] ρ h K=K ρ:=rfl
@[go_sem↓] theorem d_cons (all) (op) (os) (K):
  vcDr P U n all (⟨d,op,t,p,a,none⟩::os) ρ h K=(dstOK n d=true∧vcD1 P U ρ h ⟨d,op,t,p,a,none⟩ (KDr P U n all os h K ρ d)):=rfl
def GuardD (P:Program) (U:TypeId→TI) (n:Nat) (all os:List Oper) (ρ:Env) (h:Heap) (K:Env→Prop) (w:Bool) (d:Option Tmp) (op:Op) (t:TypeId) (p:String) (a:Array Edge) (g:Option (Nat×Bool)) (s:Nat) (x:AV):Prop:=
 gB s w ρ (fun ρ=>vcD1 P U ρ h ⟨d,op,t,p,a,g⟩ (KDr P U n all os h K ρ d)) (fun ρ=>vcDr P U n all os (put ρ d (.v undef)) h K) x
section
variable {all os : List Oper} {K : Env → Prop} {op : Op} {s : Nat}
theorem GuardD.intro {w b} (h1:b=true→GuardD P U n all os ρ h K w d op t p a g s (.v (.bool true))) (h2:b=false→GuardD P U n all os ρ h K w d op t p a g s (.v (.bool false))):GuardD P U n all os ρ h K w d op t p a g s (.v (.bool b)):=by
 cases b
 ·grind
 grind
end
def FnD (P:Program) (f:FuncId) (args:List AV) (h:Heap) (k:AV→Prop):Prop:=∃X,FnOK P f args h (fun x h' =>x=X∧h' =h)∧k X
@[congr] theorem FnD_congr {f f'} {a a'} {h h'} (h0:f=f') (h1:a=a') (h2:h=h'):FnD P f a h k=FnD P f' a' h' k:=by grind
@[go_sem↓] theorem d1_call (q) (args) (ts):vcD1 P U ρ h ⟨d, .call ⟨.value q,args.toArray,ts⟩,t,p,a,g⟩ k=bindO (ev ρ q) fun y=>fnA y fun f cap=>bindO (evs ρ args) fun ys=>FnD P f (ys++cap) h k:=by
 simp only [vcD1,withv_eq,withvs_eq]
 congr 1
def opD (P:Program) (U:TypeId→TI) (ρ:Env) (h:Heap) (d:Option Tmp) (op:Op) (t:TypeId) (p:String) (a:Array Edge) (g:Option (Nat×Bool)) (k:AV→Prop):Prop:=vcOp P U ρ h ⟨d,op,t,p,a,g⟩ (constK k)
@[go_sem↓] theorem opD_eq (op):opD P U ρ h d op t p a g k=vcOp P U ρ h ⟨d,op,t,p,a,g⟩ (constK k):=rfl
section
@[go_sem↓] theorem d1_move (x):vcD1 P U ρ h ⟨d, .move x,t,p,a,g⟩ k=opD P U ρ h d (.move x) t p a g k:=rfl
@[go_sem↓] theorem d1_assign (x):vcD1 P U ρ h ⟨d, .assign x,t,p,a,g⟩ k=opD P U ρ h d (.assign x) t p a g k:=rfl
theorem d1_bin0 (op) (ty ty') (x y) (hy:nilS y=false):vcD1 P U ρ h ⟨d, .binOp op ty x y ty',t,p,a,g⟩ k=opD P U ρ h d (.binOp op ty x y ty') t p a g k:=by
 simp only [vcD1,opD,vcOp,hy]
 rfl
@[go_sem↓] theorem d1_binOp (op) (ty ty') (x) (y):vcD1 P U ρ h ⟨d, .binOp op ty x (.tmp y) ty',t,p,a,g⟩ k=opD P U ρ h d (.binOp op ty x (.tmp y) ty') t p a g k:=d1_bin0 _ _ _ _ _ rfl
@[go_sem↓] theorem d1_binOp_s (op) (ty ty') (x) (b):vcD1 P U ρ h ⟨d, .binOp op ty x (.const (.string b)) ty',t,p,a,g⟩ k=opD P U ρ h d (.binOp op ty x (.const (.string b)) ty') t p a g k:=d1_bin0 _ _ _ _ _ rfl
@[go_sem↓] theorem d1_unOp (op) (ty) (x):vcD1 P U ρ h ⟨d, .unOp op ty x,t,p,a,g⟩ k=opD P U ρ h d (.unOp op ty x) t p a g k:=rfl
@[go_sem↓] theorem d1_fieldAddr (ty) (x) (f):vcD1 P U ρ h ⟨d, .fieldAddr ty x f,t,p,a,g⟩ k=opD P U ρ h d (.fieldAddr ty x f) t p a g k:=rfl
@[go_sem↓] theorem d1_indexAddr (ty) (x i):vcD1 P U ρ h ⟨d, .indexAddr ty x i,t,p,a,g⟩ k=opD P U ρ h d (.indexAddr ty x i) t p a g k:=rfl
@[go_sem↓] theorem d1_load (ty) (x):vcD1 P U ρ h ⟨d, .load ty x,t,p,a,g⟩ k=opD P U ρ h d (.load ty x) t p a g k:=rfl
@[go_sem↓] theorem d1_buildSlice (ty) (len) (parts):vcD1 P U ρ h ⟨d, .buildSlice ty len parts,t,p,a,g⟩ k=opD P U ρ h d (.buildSlice ty len parts) t p a g k:=rfl
@[go_sem↓] theorem d1_len (x) (ty):vcD1 P U ρ h ⟨d, .call ⟨.builtin .len, #[x], #[ty]⟩,t,p,a,g⟩ k=opD P U ρ h d (.call ⟨.builtin .len, #[x], #[ty]⟩) t p a g k:=rfl
end
@[go_sem↓] theorem srcA_oa (e) (id off len) (f):srcA U e h (.oa id off len) f=((U e).sz=1∧bindO (h id) fun b=>objL b fun cs _=>off+len≤cs.length∧(∀x∈(cs.drop off).take len,x.cells.length=1)∧(∀x∈(cs.drop off).take len,isAggA x=false)∧f ((cs.drop off).take len)):=by
 simp only [srcA]
 congr 1
 cases h id with
 |none=>rfl
 |some b=>cases b<;>rfl
@[go_sem↓] theorem srcA_ob (e) (id off len cap sz) (f):srcA U e h (.ob id off len cap sz) f=(sz=(U e).sz∧bindO (h id) fun b=>objL b fun cs _=>∃ys:List AV,ys.length=len∧off+len*sz≤cs.length∧flatA ys=(cs.drop off).take (len*sz)∧f ys):=by
 simp only [srcA]
 congr 1
 cases h id with
 |none=>rfl
 |some b=>cases b<;>rfl
end
end Go.Ab

set_option linter.unusedSimpArgs false
set_option linter.unusedVariables false
namespace Go.Ab
open Go
section
variable {P : Program} {U : TypeId → TI} {n : Nat} {ρ : Env} {h h' : Heap} {tb : TypeId} {y : AV} {l : List UInt8}
@[go_sem] theorem byteA_eq (c):byteA c= .v (.int .u8 c.toNat):=rfl
@[go_sem] theorem Sized_bytes (l:List UInt8):Sized 1 (l.map byteA)=True:=by
 apply eq_true
 intro z hz
 obtain ⟨c,_,rfl⟩:=List.mem_map.1 hz
 rfl
@[go_sem] theorem Sized_nil (m):Sized m []=True:=by simp [Sized]
theorem noAgg_bytes (l:List UInt8):∀z∈l.map byteA,isAggA z=false:=by
 intro z hz
 obtain ⟨c,_,rfl⟩:=List.mem_map.1 hz
 rfl
theorem Sub.upd_new {id} {k} (hid:h id=Option.none):Sub h (Ab.upd h id k):=(Sub.refl h).new hid k
def Keep (id:Nat) (h h' :Heap):Prop:=∀j k,j≠id→h j=some k→h' j=some k
theorem Keep.refl (id) (h):Keep id h h:=fun _ _ _ e=>e
theorem Keep.trans {a b c} {id} (x:Keep id a b) (y:Keep id b c):Keep id a c:=fun j k e hj=>y j k e (x j k e hj)
theorem Sub.keep (hs:Sub h h') (id:Nat):Keep id h h' :=fun _ _ _ e=>hs _ _ e
theorem Keep.upd (id) (k):Keep id h (Ab.upd h id k):=fun _ _ e hj=>by grind [upd_other]
def Bytes (tb:TypeId) (h:Heap) (y:AV) (l:List UInt8):Prop:=
 (∃q,y= .sl (l.map byteA) q)∨∃id off cs,y= .oa id off l.length∧h id=some (.obj cs tb)∧off+l.length≤cs.length∧(cs.drop off).take l.length=l.map byteA
theorem Bytes.sl (l) (q):Bytes tb h (.sl (l.map byteA) q) l:= .inl ⟨q,rfl⟩
theorem Bytes.nil (q):Bytes tb h (.sl [] q) []:= .inl ⟨q,rfl⟩
theorem Bytes.oa {id off} {cs} (h1:h id=some (.obj cs tb)) (h2:off+l.length≤cs.length) (h3:(cs.drop off).take l.length=l.map byteA):Bytes tb h (.oa id off l.length) l:= .inr ⟨id,off,cs,rfl,h1,h2,h3⟩
theorem Bytes.sub (hb:Bytes tb h y l) (hs:Sub h h'):Bytes tb h' y l:=by
 rcases hb with hb|⟨id,off,cs,rfl,h1,h2,h3⟩
 ·exact .inl hb
 ·exact .oa (hs _ _ h1) h2 h3
theorem Bytes.keep (hb:Bytes tb h y l) {id:Nat} (hs:Keep id h h') {cs:List AV} {t:TypeId} (hid:h id=some (.obj cs t)) (ht:t≠tb):Bytes tb h' y l:=by
 rcases hb with hb|⟨i,off,cs',rfl,h1,h2,h3⟩
 ·exact .inl hb
 ·refine .oa (hs _ _ (fun e=> ?_) h1) h2 h3
  grind
theorem Bytes.new (hb:Bytes tb h y l) {id:Nat} {k:Option Blk} (hid:h id=none):Bytes tb (Ab.upd h id k) y l:=hb.sub (Sub.upd_new hid)
theorem Bytes.cells (hb:Bytes tb h y l):y.cells= [y]:=by
 rcases hb with ⟨q,rfl⟩|⟨id,off,cs,rfl,_⟩<;>rfl
theorem Bytes.fit (hb:Bytes tb h y l) (m:Nat):Ab.fit y m=(m=1):=by
 rcases hb with ⟨q,rfl⟩|⟨id,off,cs,rfl,_⟩<;>rfl
theorem Bytes.len (hb:Bytes tb h y l) (e:TypeId) (k:AV→Prop):lenK y k (.slice e)=k (.v (.int .i64 l.length)):=by
 rcases hb with ⟨q,rfl⟩|⟨id,off,cs,rfl,_⟩
 ·grind [lenK,List.length_map]
 ·rfl
theorem Bytes.src (hb:Bytes tb h y l) {e:TypeId} (he:(U e).sz=1) (k:List AV→Prop):srcA U e h y k=k (l.map byteA):=by
 rcases hb with ⟨q,rfl⟩|⟨id,off,cs,rfl,h1,h2,h3⟩
 ·rfl
 ·rw [srcA_oa,h1,he]
  simp only [bindO_some,objL_eq,h3,h2,true_and]
  apply propext
  constructor
  ·simp
  ·intro hk
   exact ⟨fun x hx=>by obtain ⟨c,_,rfl⟩:=List.mem_map.1 hx; rfl,noAgg_bytes l,hk⟩
def ByteP (U:TypeId→TI) (tb:TypeId) (h:Heap) (p:AV) (c:UInt8):Prop:=∀k:AV→Prop,loadA U h tb p k=k (byteA c)
theorem Bytes.idx (hb:Bytes tb h y l) {m:Int} {x:IntKind} {K:AV→Prop} (j:Nat) (hm:m=j) (hj:j<l.length) (hz:(U tb).sz=1) (ha:(U tb).k.agg=false)
  (hk:∀p,ByteP U tb h p l[j]→K p):iaddrK U y (.v (.int x m)) K (.slice tb):=by
 subst hm
 rcases hb with ⟨q,rfl⟩|⟨id,off,cs,rfl,h1,h2,h3⟩
 ·refine (iaddrK_sl ..).mpr ⟨by omega, ?_⟩
  refine IdxE.at j (by grind) (by rw [List.getElem_map,hz]; rfl) ?_
  refine hk _ fun k=> ?_
  simp_all [loadA,atA_eq,byteA,AV.cells,isAggA,List.length_cons,List.length_nil,Nat.zero_add,and_self,if_true]
 ·refine (iaddrK_oa ..).mpr ⟨by omega,by omega,by omega, ?_⟩
  refine hk _ fun k=> ?_
  have e1:cs[off+j]? =some (byteA l[j]):=by
   have:=congrArg (fun q=>q[j]?) h3
   simp only [List.getElem?_take,hj,if_true,List.getElem?_drop,List.getElem?_map,List.getElem?_eq_getElem hj,Option.map_some] at this
   exact this
  simp only [loadA,h1,bindO_some,objL_eq,hz,Nat.mul_one,Int.toNat_natCast,partA_eq,ha,Br,e1]
  simp
theorem Bytes.take (hb:Bytes tb h y l) {hi:Operand} {m:Int} {x:IntKind} {K:AV→Prop} (j:Nat) (hm:ev ρ hi=some (.v (.int x m))) (hj:m=j) (hl:j≤l.length) (hz:(U tb).sz=1) (hk:∀z,Bytes tb h z (l.take j)→K z):
  sliceK U ρ y none (some hi) none K (.slice tb):=by
 subst hj
 rcases hb with ⟨q,rfl⟩|⟨id,off,cs,rfl,h1,h2,h3⟩
 ·grind [sliceK_none,optA_some,bindO_some,intA_eq,Option.isSome_some,cutL_ft,Int.toNat_natCast,List.map_take,sl]
 ·rw [sliceK_oa]
  refine ⟨by omega,fun _=>hz, ?_⟩
  simp only [optA_none,optA_some,hm,bindO_some,intA_eq]
  refine ⟨by omega,by omega,by omega, ?_⟩
  have e:(l.take j).length=j:=by grind
  have:=hk (.oa id off (l.take j).length) (by grind [oa,List.map_take,Nat.min_eq_left])
  rw [e] at this
  simpa using this
end
end Go.Ab

set_option linter.unusedSimpArgs false
set_option linter.unusedVariables false
namespace Go.Ab
open Go
section
variable {P : Program} {U : TypeId → TI} {n : Nat} {ρ : Env} {h h' h2 : Heap} {e tb : TypeId} {y v : AV} {xs zs : List AV} {l : List UInt8} {Q : AV → Heap → Prop}
def KeepObj (h h' :Heap):Prop:=∀j cs t,h j=some (.obj cs t)→h' j=some (.obj cs t)
theorem KeepObj.refl (h):KeepObj h h:=fun _ _ _ e=>e
theorem KeepObj.trans {a b c} (x:KeepObj a b) (y:KeepObj b c):KeepObj a c:=fun j cs t e=>y j cs t (x j cs t e)
theorem Sub.keepObj (hs:Sub h h'):KeepObj h h' :=fun _ _ _ e=>hs _ _ e
theorem Bytes.keepObj (hb:Bytes tb h y l) (hs:KeepObj h h'):Bytes tb h' y l:=by
 rcases hb with hb|⟨id,off,cs,rfl,h1,h2,h3⟩
 ·exact .inl hb
 ·exact .oa (hs _ _ _ h1) h2 h3
def Acc (U:TypeId→TI) (e:TypeId) (h h' :Heap) (y:AV) (xs:List AV):Prop:=
 Sub h h'∧(y= .sl xs .full∨∃id,h id=none∧y= .sl xs (.own id)∧h' id=some (.spare xs.length (U e).sz))
theorem Acc.full (hs:Sub h h'):Acc U e h h' (.sl xs .full) xs:=⟨hs, .inl rfl⟩
theorem Acc.sub (ha:Acc U e h h' y xs) (hs:Sub h' h2):Acc U e h h2 y xs:=by
 obtain ⟨h1,rfl|⟨id,i1,rfl,i2⟩⟩:=ha
 ·exact ⟨h1.trans hs, .inl rfl⟩
 ·exact ⟨h1.trans hs, .inr ⟨id,i1,rfl,hs _ _ i2⟩⟩
theorem Acc.row (ha:Acc U e h h' y xs):∃q,y= .sl xs q:=by
 obtain ⟨h1,rfl|⟨id,i1,rfl,i2⟩⟩:=ha<;>exact ⟨_,rfl⟩
theorem Acc.weak (ha:Acc U e h h' y xs):Weak y (.sl xs .no):=by
 obtain ⟨q,rfl⟩:=ha.row; exact .sl _ _
theorem Acc.fit (ha:Acc U e h h' y xs) (m:Nat):Ab.fit y m=(m=1):=by
 obtain ⟨q,rfl⟩:=ha.row; rfl
theorem Acc.len (ha:Acc U e h h' y xs) (t:TypeId) (k:AV→Prop):lenK y k (.slice t)=k (.v (.int .i64 xs.length)):=by
 obtain ⟨q,rfl⟩:=ha.row; rfl
theorem Acc.app (ha:Acc U e h h' y xs) (hz:(U e).sz≠0) (hb:(U e).bytes≠0) (hsrc:∀k:List AV→Prop,k zs→srcA U e h' v k) (s1:Sized (U e).sz xs) (s2:Sized (U e).sz zs)
  (hlen:(xs.length+zs.length)*(U e).bytes≤140737488355328) (hk:∀y' h'',Acc U e h h'' y' (xs++zs)→KeepObj h' h''→Q y' h''):apK U h' y v Q (.slice e):=by
 have keep:∀id,(h' id=none∨∃m,h' id=some (.spare m (U e).sz))→∀k,KeepObj h' (upd h' id k):=fun id hid k j cs t hj=>by
  grind [upd_other]
 obtain ⟨h1,rfl|⟨id,i1,rfl,i2⟩⟩:=ha
 ·refine (apK_full ..).mpr ⟨hz,hb,hsrc _ ⟨s1,s2,hlen,fun hn=> ?_,fun hn=> .own fun id hid=> ?_⟩⟩
  ·subst hn
   have:=hk (.sl xs .full) h' (by grind [full]) (.refl _)
   exact this
  ·exact hk _ _ ⟨h1.new hid _, .inr ⟨id,h1.none hid,rfl,by rw [upd_same,List.length_append]⟩⟩ (by grind)
 ·refine (apK_own ..).mpr ⟨hz,hb,hsrc _ ⟨s1,s2,hlen,i2, ?_⟩⟩
  have hs2:Sub h (upd h' id (some (.spare (xs.length+zs.length) (U e).sz))):=by
   intro j k hj
   rw [upd_other _ _ fun e=> ?_]
   ·exact h1 _ _ hj
   grind
  exact hk _ _ ⟨hs2, .inr ⟨id,i1,rfl,by rw [upd_same,List.length_append]⟩⟩ (by grind)
theorem Bytes.noAgg (hb:Bytes tb h y l):isAggA y=false:=by
 rcases hb with ⟨q,rfl⟩|⟨id,off,cs,rfl,_⟩<;>rfl
theorem Bytes.load (hb:Bytes tb h y l) {t:TypeId} (hz:(U t).sz=1) (ha:(U t).k.agg=false) (k:AV→Prop):loadA U h' t (.pe y 0) k=k y:=by
 simp only [loadA,atA_eq,hz,ha,hb.cells,hb.noAgg,List.length_cons,List.length_nil,Nat.zero_add,and_self,if_true]
theorem Bytes.wf (hb:Bytes tb h y l) (hw:wfA y):l.length<lim∨∃id off m,y= .oa id off m:=by
 rcases hb with ⟨q,rfl⟩|⟨id,off,cs,rfl,_⟩
 ·grind [wfA,wf1]
 simp
def Rows (tb:TypeId) (h:Heap) (ys:List AV) (ls:List (List UInt8)):Prop:=ys.length=ls.length∧∀i (h1:i<ys.length) (h2:i<ls.length),Bytes tb h ys[i] ls[i]
theorem Rows.keepObj {ys:List AV} {ls:List (List UInt8)} (hr:Rows tb h ys ls) (hs:KeepObj h h'):Rows tb h' ys ls:=⟨hr.1,fun i h1 h2=>(hr.2 i h1 h2).keepObj hs⟩
theorem Rows.sized {ys} {ls} (hr:Rows tb h ys ls):Sized 1 ys:=fun z hz=>by
 obtain ⟨i,hi,rfl⟩:=List.mem_iff_getElem.1 hz
 rw [(hr.2 i hi (by rw [←hr.1]; omega)).cells]; rfl
theorem Rows.nil:Rows tb h [] []:=⟨rfl,fun i h1=>by simp⟩
theorem Rows.cons {ys:List AV} {ls:List (List UInt8)} (hb:Bytes tb h y l) (hr:Rows tb h ys ls):Rows tb h (y::ys) (l::ls):=⟨by simp [hr.1],fun i h1 h2=>by
 cases i with
 |zero=>grind
 |succ i=>exact hr.2 i (by grind) (by grind)⟩
end
end Go.Ab

set_option linter.unusedSimpArgs false
set_option linter.unusedVariables false
namespace Go.Ab
open Go
section
variable {P : Program}
def noHeap:Heap:=fun _=>none
def cx0 (w:World):Cx:=⟨w,fun _=>⟨0,0,none⟩,noHeap⟩
theorem good0 (w):Good (cx0 w) where
 fin:=⟨0,fun _ _=>rfl⟩
 inj:=fun i j k l h=>by cases h
 obj:=fun id cs t h=>by cases h
 spare:=fun id n sz h=>by cases h
 mp:=fun id m h=>by cases h
 keys:=fun id m h=>by cases h
 ro:=fun id b vs h=>by cases h
theorem owned0 (w) (b o):¬owned (cx0 w) b o:=fun ⟨id,k,h,_⟩=>by cases h
theorem FnOK.calls {f} {args} {b} {vs} {w} (hc:callable P f) (hf:FnOK P f args noHeap fun r _=>r= .v b) (hv:vs.size=args.length) (hr:∀i (hi:i<args.length),Rep (cx0 w) args[i] (vs.getD i undef)):
  Calls P f vs w fun e w' =>e= .returned b∧Go.RowKit.Below w.heap.size w w' :=by
 refine ((hf (cx0 w) vs (fun _ _ h=>by cases h) (good0 w) hv hr).calls hc).mono ?_
 rintro e w' ⟨u,rfl,c',x,h',rfl,g',hE,hx,hs,rfl⟩
 rw [hx.v_inv]
 exact ⟨rfl,hE.os,hE.tape,hE.output,hE.size,fun k hk=>hE.block k hk fun o=>owned0 w k o⟩
end
end Go.Ab

set_option linter.unusedSimpArgs false
set_option linter.unusedVariables false
namespace Go.Ab
open Go
section
variable {P : Program} {f : FuncId} {args : List AV} {h : Heap} {Q : AV → Heap → Prop} {X : AV}
theorem FnOK.pthen (hf:FnOK P f args h fun r h' =>r=X∧h' =h) (k:Q X h):FnOK P f args h Q:=
 hf.mono fun r h' ⟨e1,e2⟩=>by subst e1; subst e2; exact k
def KV (K:AV→Prop) (x:AV):Prop:=K x
@[congr] theorem KV_congr {K} {x x'} (e:x=x'):KV K x=KV K x' :=by rw [e]
@[go_sem] theorem KV_eq (K) (x):KV K x=K x:=rfl
section
variable {U : TypeId → TI} {ρ : Env} {K : AV → Prop}
@[go_sem↓high] theorem sliceK_to (xs) (q) (hi) (e):sliceK U ρ (.sl xs q) none (some hi) none K (.slice e)=((U e).sz≠0∧bindO (ev ρ hi) fun y=>intA y fun b=>0≤b∧b≤xs.length∧KV K (.sl (xs.take b.toNat) (cutQ xs q false true))):=by
 rw [sliceK_none,optA_some]; rfl
@[go_sem↓high] theorem sliceK_from (xs) (q) (lo) (e):sliceK U ρ (.sl xs q) (some lo) none none K (.slice e)=((U e).sz≠0∧Sized (U e).sz xs∧bindO (ev ρ lo) fun y=>intA y fun a=>0≤a∧a≤xs.length∧KV K (.sl (xs.drop a.toNat) (cutQ xs q true false))):=by
 simp [sliceK_some,optA_some,optA_none,Option.isSome_none,cutL_tf,KV]
@[go_sem↓high] theorem sliceK_ft (xs) (q) (lo hi) (e):sliceK U ρ (.sl xs q) (some lo) (some hi) none K (.slice e)=((U e).sz≠0∧Sized (U e).sz xs∧bindO (ev ρ lo) fun y=>intA y fun a=>bindO (ev ρ hi) fun z=>intA z fun b=>0≤a∧a≤b∧b≤xs.length∧KV K (.sl ((xs.drop a.toNat).take (b.toNat - a.toNat)) (cutQ xs q true true))):=by
 simp [sliceK_some,optA_some,Option.isSome_some,cutL_tt,KV]
end
attribute [go_sem] Int.toNat_natCast Int.toNat_zero
theorem choose_map {α β:Type} {f:β→α} {p:β→Prop}:∀(xs:List α),(∀x∈xs,∃b,x=f b∧p b)→∃bs:List β,xs=bs.map f∧∀b∈bs,p b
 | [],_=>by simp
 |x::xs,h=>by
  obtain ⟨b,rfl,hb⟩:=h x (by simp)
  obtain ⟨bs,rfl,hbs⟩:=choose_map xs fun y hy=>h y (by grind)
  exact ⟨b::bs,rfl,fun c hc=>by
   rcases List.mem_cons.1 hc with h1|h1
   ·rw [h1]; exact hb
   ·exact hbs c h1⟩
def iA (n:Int):AV:= .v (.int .i64 n)
@[go_sem] theorem iA_eq (n):iA n= .v (.int .i64 n):=rfl
theorem wr64 (n) (h: -9223372036854775808≤n∧n≤9223372036854775807):IntKind.i64.wrap n=n:=by grind [IntWalk.i64_in]
end
end Go.Ab

set_option linter.unusedSimpArgs false
set_option linter.unusedVariables false
namespace Go.Ab
open Go
section
variable {P : Program} {U : TypeId → TI}
inductive Dat (U:TypeId→TI):TypeId→AV→Prop
 |bool {t:TypeId} (b:Bool) (h:(U t).k= .bool):Dat U t (.v (.bool b))
 |int {t:TypeId} {k:IntKind} (n:Int) (h:(U t).k= .int k) (hw:(Lit.int k n).wf=true):Dat U t (.v (.int k n))
 |str {t:TypeId} (l:List UInt8) (h:(U t).k= .str) (hl:l.length≤maxLen):Dat U t (.s l)
 |slice {t e:TypeId} (xs:List AV) (h:(U t).k= .slice e) (hx:∀x∈xs,Dat U e x) (hl:xs.length≤maxLen):Dat U t (.sl xs .no)
 |strct {t:TypeId} {fs:List (Nat×TypeId)} (ys:List AV) (h:(U t).k= .strct fs) (hn:ys.length=fs.length) (hx:∀i (h1:i<fs.length) (h2:i<ys.length),Dat U fs[i].2 ys[i]):Dat U t (.agg (ys.map AV.cells).flatten)
theorem Dat.bool_inv {t} {x} (h:Dat U t x) (hk:(U t).k= .bool):∃b,x= .v (.bool b):=by
 cases h with
 |bool b h=>simp
 |_=>simp_all
theorem Dat.int_inv {t} {x} {k} (h:Dat U t x) (hk:(U t).k= .int k):∃n,x= .v (.int k n)∧(Lit.int k n).wf=true:=by
 cases h with
 |int n h hw=>grind
 |_=>simp_all
theorem Dat.str_inv {t} {x} (h:Dat U t x) (hk:(U t).k= .str):∃l,x= .s l∧l.length≤maxLen:=by
 cases h with
 |str l h hl=>grind
 |_=>simp_all
theorem Dat.slice_inv {t e} {x} (h:Dat U t x) (hk:(U t).k= .slice e):∃xs,x= .sl xs .no∧xs.length≤maxLen∧∀y∈xs,Dat U e y:=by
 cases h with
 |slice xs h hx hl=>grind
 |_=>simp_all
def DatAll (U:TypeId→TI):List TypeId→List AV→Prop
 | [],ys=>ys= []
 |t::ts,ys=>∃y r,ys=y::r∧Dat U t y∧DatAll U ts r
theorem datAll_of:∀(fs:List (Nat×TypeId)) (ys:List AV),ys.length=fs.length→(∀i (h1:i<fs.length) (h2:i<ys.length),Dat U fs[i].2 ys[i])→DatAll U (fs.map (·.2)) ys
 | [],ys,h,_=>List.length_eq_zero_iff.1 h
 |f::fs,[],h,_=>by cases h
 |f::fs,y::ys,h,hx=>⟨y,ys,rfl,hx 0 (by simp) (by simp),datAll_of fs ys (by grind) fun i h1 h2=>hx (i+1) (by grind) (by grind)⟩
theorem Dat.strct_inv {t} {x} {fs} (h:Dat U t x) (hk:(U t).k= .strct fs):∃ys,x= .agg (ys.map AV.cells).flatten∧DatAll U (fs.map (·.2)) ys:=by
 cases h with
 |strct ys h hn hx=>rw [hk] at h; cases h; exact ⟨ys,rfl,datAll_of _ _ hn hx⟩
 |_=>simp_all
theorem wf64 {n} (h:(Lit.int .i64 n).wf=true): -9223372036854775808≤n∧n≤9223372036854775807:=by
 grind [Lit.wf,IntKind.min,IntKind.max,IntKind.signed,IntKind.bits]
theorem wf8 {n} (h:(Lit.int .u8 n).wf=true):∃c:UInt8,n=c.toNat:=by
 have hr:0≤n∧n≤255:=by grind [Lit.wf,IntKind.min,IntKind.max,IntKind.signed,IntKind.bits]
 refine ⟨UInt8.ofNat n.toNat, ?_⟩
 grind [UInt8.toNat_ofNat']
theorem Dat.i64 {t} {x} (h:Dat U t x) (hk:(U t).k= .int .i64):∃n,x=iA n∧ -9223372036854775808≤n∧n≤9223372036854775807:=by
 obtain ⟨n,rfl,hw⟩:=h.int_inv hk
 exact ⟨n,rfl,wf64 hw⟩
theorem Dat.u8 {t} {x} (h:Dat U t x) (hk:(U t).k= .int .u8):∃c:UInt8,x=byteA c:=by
 obtain ⟨n,rfl,hw⟩:=h.int_inv hk
 obtain ⟨c,rfl⟩:=wf8 hw
 exact ⟨c,rfl⟩
theorem Dat.list {t e} {x} {β:Type} {f:β→AV} {p:β→Prop} (h:Dat U t x) (hk:(U t).k= .slice e) (he:∀y,Dat U e y→∃b,y=f b∧p b):∃bs:List β,x= .sl (bs.map f) .no∧bs.length≤maxLen∧∀b∈bs,p b:=by
 obtain ⟨xs,rfl,hl,hx⟩:=h.slice_inv hk
 obtain ⟨bs,rfl,hb⟩:=choose_map xs fun y hy=>he y (hx y hy)
 grind
theorem Dat.bytes {t e} {x} (h:Dat U t x) (hk:(U t).k= .slice e) (he:(U e).k= .int .u8):∃l:List UInt8,x= .sl (l.map byteA) .no∧l.length≤maxLen:=by
 obtain ⟨l,h1,h2,_⟩:=h.list (f:=byteA) (p:=fun _=>True) hk fun y hy=>by obtain ⟨c,hc⟩:=hy.u8 he; grind
 grind
def RL (c:Cx):List AV→List Value→Prop
 | [],vs=>vs= []
 |x::xs,[]=>False
 |x::xs,v::vs=>(Rep c x v∧v.oneCell' =true)∧RL c xs vs
theorem RL.len {c}:∀ {xs:List AV} {vs:List Value},RL c xs vs→xs.length=vs.length
 | [],vs,h=>by rw [h]; rfl
 |x::xs,[],h=>h.elim
 |x::xs,v::vs,h=>by simp [RL.len h.2]
theorem RL.get {c}:∀ {xs:List AV} {vs:List Value},RL c xs vs→∀i (h:i<xs.length),Rep c xs[i] (vs.getD i undef)∧(vs.getD i undef).oneCell' =true
 | [],vs,h,i,hi=>by grind
 |x::xs,[],h,i,hi=>h.elim
 |x::xs,v::vs,h,0,hi=>h.1
 |x::xs,v::vs,h,i+1,hi=>by simpa using RL.get h.2 i (by grind)
theorem RL.append {c}:∀ {xs ys:List AV} {vs us:List Value},RL c xs vs→RL c ys us→RL c (xs++ys) (vs++us)
 | [],ys,vs,us,h,k=>by rw [h]; exact k
 |x::xs,ys,[],us,h,k=>h.elim
 |x::xs,ys,v::vs,us,h,k=>⟨h.1,RL.append h.2 k⟩
theorem RL.one {c} {x} {v} (h:Rep c x v) (h1:v.oneCell' =true):RL c [x] [v]:=⟨⟨h,h1⟩,rfl⟩
def tileB (U:TypeId→TI) (n:Nat):List (Nat×TypeId)→Nat→Bool
 | [],o=>o==n
 |f::fs,o=>f.1==o && tileB U n fs (o+(U f.2).sz)
def plainB (U:TypeId→TI) (L:List TypeId):Bool:=L.all fun t=>(U t).sz !=0 && match (U t).k with
 | .bool| .int _| .str=>(U t).sz==1
 | .slice e=>(U t).sz==1 && L.contains e
 | .strct fs=>fs.all (fun f=>L.contains f.2) && tileB U (U t).sz fs 0
 |_=>false
theorem cellsOf_of (hU:∀t,AgreeT P U t) {t} (hz:(U t).sz≠0):P.cellsOf t=(U t).sz:=by
 obtain ⟨i,h1,h2,_⟩:=(hU t).info hz
 grind [Program.cellsOf]
variable {H : Type} {enc : TypeId × Value → H} {w : World}
theorem parts_of (hU:∀t,AgreeT P U t) {L:List TypeId} {m:Nat} {sp:Nat→Bool} {held:Bool} (n:Nat) (cs:List Value) (hn:cs.length=n)
  (ih:∀(t:TypeId) (cs:List Value) r,t∈L→DataW.trod enc P w 0 sp held m t cs=some r→∃x,Dat U t x∧RL (cx0 w) x.cells cs) (hz:∀t∈L,(U t).sz≠0):
  ∀(fs:List (Nat×TypeId)) (gs:List Field) (o:Nat),gs.map (fun f=>(f.offset,f.type))=fs→(∀f∈fs,f.2∈L)→tileB U n fs o=true→
   (∀f∈gs,∃r,DataW.trod enc P w 0 sp held m f.type ((cs.drop f.offset).take (P.cellsOf f.type))=some r)→
   ∃ys:List AV,ys.length=fs.length∧(∀i (h1:i<fs.length) (h2:i<ys.length),Dat U fs[i].2 ys[i])∧RL (cx0 w) (ys.map AV.cells).flatten (cs.drop o):=by
 intro fs
 induction fs with
 |nil=>
  intro gs o hg hL ht hr
  refine ⟨[],rfl,fun i h1=>(by simp), ?_⟩
  have:o=n:=by grind [tileB]
  show cs.drop o= []
  grind
 |cons f fs ihf=>
  intro gs o hg hL ht hr
  cases gs with
  |nil=>grind
  |cons g gs=>
   simp only [List.map_cons,List.cons.injEq] at hg
   obtain ⟨hg1,hg2⟩:=hg
   simp only [tileB,Bool.and_eq_true,beq_iff_eq] at ht
   obtain ⟨ht1,ht2⟩:=ht
   have hfL:=hL f (by simp)
   obtain ⟨ys,y1,y2,y3⟩:=ihf gs (o+(U f.2).sz) hg2 (by grind) ht2 (by grind)
   obtain ⟨r,hr0⟩:=hr g (by simp)
   have e1:g.type=f.2:=by grind
   have e2:g.offset=o:=by grind
   rw [e1,e2,cellsOf_of hU (hz _ hfL)] at hr0
   obtain ⟨x,x1,x2⟩:=ih _ _ _ hfL hr0
   refine ⟨x::ys,by grind,fun i h1 h2=> ?_, ?_⟩
   ·grind
   ·have:cs.drop o=(cs.drop o).take (U f.2).sz++cs.drop (o+(U f.2).sz):=by
     rw [←List.drop_drop,List.take_append_drop]
    rw [this]
    exact x2.append y3
theorem dat_of_trod (hU:∀t,AgreeT P U t) (L:List TypeId) (hL:plainB U L=true) {sp:Nat→Bool} {held:Bool} (hsp:∀b,sp b=true):
  ∀(fuel:Nat) (t:TypeId) (cs:List Value) (r:DataW H×List MemPlace),t∈L→DataW.trod enc P w 0 sp held fuel t cs=some r→∃x,Dat U t x∧RL (cx0 w) x.cells cs:=by
 have hall:∀t∈L,(U t).sz≠0:=fun t ht=>by
  have:=List.all_eq_true.1 hL t ht
  simp only [Bool.and_eq_true,bne_iff_ne] at this
  exact this.1
 intro fuel
 induction fuel with
 |zero=>intro t cs r _ h; simp [DataW.trod] at h
 |succ m ih=>
  intro t cs r ht h
  have hp:=List.all_eq_true.1 hL t ht
  simp only [Bool.and_eq_true,bne_iff_ne] at hp
  obtain ⟨hz,hp⟩:=hp
  have hd:=(hU t).desc
  unfold DataW.trod at h
  cases hk:(U t).k with
  |bool=>
   rw [hk] at hd
   simp only at hd
   rw [hd] at h
   split at h<;>simp_all
   rename_i b
   exact ⟨_, .bool b hk, .one (.v _) rfl⟩
  |int k=>
   rw [hk] at hd
   simp only at hd
   rw [hd] at h
   split at h<;>simp_all
   obtain ⟨⟨rfl,hw⟩,_⟩:=h
   exact ⟨_, .int _ hk hw, .one (.v _) rfl⟩
  |str=>
   rw [hk] at hd
   simp only at hd
   rw [hd] at h
   split at h<;>simp_all
   rename_i s
   refine ⟨_, .str s.data.toList hk (by simpa using h.1), .one ?_ rfl⟩
   have:=Rep.s (c:=cx0 w) s.data.toList (by have:=h.1; unfold maxLen at this; simp only [lim]; simp; omega)
   simpa using this
  |slice e=>
   rw [hk] at hd hp
   simp only at hd
   simp only [Bool.and_eq_true] at hp
   have he:e∈L:=by simpa using hp.2
   have hez:=hall e he
   rw [hd] at h
   split at h<;>try (simp_all; done)
   ·rename_i e' heq
    refine ⟨_, .slice [] hk (fun x hx=>by cases hx) (by simp), .one ?_ rfl⟩
    exact .sl [] .no none 0 0 (fun _ _=>undef) (Nat.le_refl _) (by decide) (fun _=>rfl) (fun q h _=>by cases h) (fun i h=>by cases h) (fun q h=>by cases h) (fun i h=>by cases h) (fun i j h=>by cases h) trivial
   ·rename_i e' a len cap heq
    obtain rfl:e=e' :=by simpa using heq
    split at h
    ·rename_i hc
     obtain ⟨hc1,hc2,hc3⟩:=hc
     simp only [hsp,if_true] at h
     obtain ⟨els,hels,h⟩:=Option.bind_eq_some_iff.1 h
     obtain ⟨⟨rst,hrst,_⟩⟩:Nonempty {rst // (List.range (cap - len)).mapM (fun j=>((w.cells? 0 (a.add ((len+j)*P.cellsOf e)) (P.cellsOf e)).bind (DataW.trod enc P w 0 sp held m e)))=some rst∧True}:=by
      cases hq:(List.range (cap - len)).mapM (fun j=>((w.cells? 0 (a.add ((len+j)*P.cellsOf e)) (P.cellsOf e)).bind (DataW.trod enc P w 0 sp held m e))) with
      |none=>rw [hq] at h; simp at h
      |some rst=>exact ⟨⟨rst,rfl,trivial⟩⟩
     rw [cellsOf_of hU hez] at hels hrst
     have cell:∀j,j<(U e).sz→∀(b:Addr) vs,w.cells? 0 b (U e).sz=some vs→w.cell? (b.add j)=vs[j]?∧vs.length=(U e).sz:=fun j hj b vs hb=>by
      simp only [World.cells?,Nat.zero_le,if_true] at hb
      have:=mapM_some_get hb j j (by simp [hj])
      exact ⟨this,by simpa using mapM_some_length hb⟩
     have el:∀i,i<len→∃vs x,w.cells? 0 (a.add (i*(U e).sz)) (U e).sz=some vs∧Dat U e x∧RL (cx0 w) x.cells vs:=fun i hi=>by
      have:=mapM_some_get hels i i (by simp [hi])
      have hi2:i<els.length:=by have:=mapM_some_length hels; simp at this; omega
      rw [List.getElem?_eq_getElem hi2] at this
      obtain ⟨vs,v1,v2⟩:=Option.bind_eq_some_iff.1 this
      obtain ⟨x,x1,x2⟩:=ih _ _ _ he v2
      exact ⟨vs,x,v1,x1,x2⟩
     have hspot:0<cap→a.spot=none∧a.block<w.heap.size:=fun hcap=>by
      have:∃b vs,w.cells? 0 b (U e).sz=some vs∧b.spot=a.spot∧b.block=a.block:=by
       by_cases hl:0<len
       ·obtain ⟨vs,x,v1,_⟩:=el 0 hl
        have a0:a.add (0*(U e).sz)=a:=by simp [Addr.add]
        exact ⟨_,vs,v1,by rw [a0],by rw [a0]⟩
       ·have:=mapM_some_get hrst 0 0 (by rw [List.getElem?_eq_getElem (by simp; omega)]; simp)
        have hi2:0<rst.length:=by have:=mapM_some_length hrst; simp at this; omega
        rw [List.getElem?_eq_getElem hi2] at this
        obtain ⟨vs,v1,v2⟩:=Option.bind_eq_some_iff.1 this
        have a0:a.add ((len+0)*(U e).sz)=a:=by
         obtain rfl:len=0:=by omega
         simp [Addr.add]
        exact ⟨_,vs,v1,by rw [a0],by rw [a0]⟩
      obtain ⟨b,vs,b1,b2,b3⟩:=this
      obtain ⟨c1,c2⟩:=cell 0 (by omega) b vs b1
      rw [List.getElem?_eq_getElem (by omega)] at c1
      rw [←b2,←b3]
      unfold World.cell? at c1
      split at c1
      ·rename_i hh
       split at c1
       ·cases c1
       ·rename_i hs
        refine ⟨?_, ?_⟩
        ·have:(b.add 0).spot=b.spot:=by simp [Addr.add]
         rw [this] at hs
         cases hb:b.spot with
         |none=>rfl
         |some z=>rw [hb] at hs; simp at hs
        ·exact (Array.getElem?_eq_some_iff.1 hh).1
      ·cases c1
     have:∀n,n≤len→∃xs:List AV,xs.length=n∧∀i (hi:i<xs.length),Dat U e xs[i]∧∃vs,w.cells? 0 (a.add (i*(U e).sz)) (U e).sz=some vs∧RL (cx0 w) xs[i].cells vs:=by
      intro n
      induction n with
      |zero=>exact fun _=>⟨[],rfl,fun i hi=>by cases hi⟩
      |succ n ihn=>
       intro hn
       obtain ⟨xs,e1,e2⟩:=ihn (by omega)
       obtain ⟨vs,x,v1,v2,v3⟩:=el n (by omega)
       refine ⟨xs++ [x],by simp [e1],fun i hi=> ?_⟩
       by_cases hi' :i<xs.length
       ·rw [List.getElem_append_left hi']
        exact e2 i hi'
       ·have:i=n:=by simp at hi; omega
        subst this
        rw [List.getElem_append_right (by omega)]
        simp only [e1,Nat.sub_self,List.getElem_singleton]
        exact ⟨v2,vs,v1,v3⟩
     obtain ⟨xs,e1,e2⟩:=this len (Nat.le_refl _)
     subst e1
     refine ⟨.sl xs .no, .slice xs hk (fun x hx=> ?_) (by omega), .one ?_ rfl⟩
     ·obtain ⟨i,hi,rfl⟩:=List.mem_iff_getElem.1 hx
      exact (e2 i hi).1
     ·refine .sl xs .no (some a) cap (U e).sz (fun i j=>((w.cells? 0 (a.add (i*(U e).sz)) (U e).sz).getD []).getD j undef) hc2 (by unfold maxLen at hc3; simp only [lim]; omega) (fun hh=>by cases hh) (fun q hq hcap=>by cases hq; exact hspot hcap)
       (fun i hi=> ?_) (fun q hq i j hi hj=> ?_) (fun i hi j hj=> ?_) (fun i j hi hj=> ?_) trivial
      ·obtain ⟨_,vs,v1,v2⟩:=e2 i hi
       rw [v2.len]; exact (cell 0 (by omega) _ _ v1).2
      ·cases hq
       obtain ⟨_,vs,v1,v2⟩:=e2 i hi
       refine ⟨?_,owned0 w _ _⟩
       obtain ⟨c1,c2⟩:=cell j hj _ _ v1
       rw [v1]
       obtain ⟨hs1,_⟩:=hspot (by omega)
       obtain ⟨ab,ao,az⟩:=a
       simp only at hs1; subst hs1
       rw [add_addr,add_addr] at c1
       simp only [Option.getD_some]
       have hj2:j<vs.length:=by omega
       rw [show vs.getD j undef=vs[j] by simp [hj2]]
       rw [List.getElem?_eq_getElem hj2,Nat.add_assoc] at c1
       exact c1
      ·obtain ⟨_,vs,v1,v2⟩:=e2 i hi
       rw [v1]
       exact (v2.get j hj).1
      ·obtain ⟨_,vs,v1,v2⟩:=e2 i hi
       rw [v1]
       have:=(cell 0 (by omega) _ _ v1).2
       exact (v2.get j (by rw [v2.len]; omega)).2
    ·cases h
  |strct fs=>
   rw [hk] at hd hp
   simp only at hd
   simp only [Bool.and_eq_true] at hp
   obtain ⟨gs,hd,hg,_⟩:=hd
   rw [hd] at h
   have hq:cs.length=P.cellsOf t∧∃xs,(gs.toList.mapM fun f=>DataW.trod enc P w 0 sp held m f.type ((cs.drop f.offset).take (P.cellsOf f.type)))=some xs:=by
    split at h<;>try (simp_all; done)
    rename_i fs' heq
    obtain rfl:gs=fs' :=by simpa using heq
    split at h
    ·rename_i hl
     obtain ⟨xs,h1,_⟩:=Option.map_eq_some_iff.1 h
     exact ⟨hl,xs,h1⟩
    ·cases h
   obtain ⟨hl,xs,hxs⟩:=hq
   rw [cellsOf_of hU hz] at hl
   obtain ⟨ys,y1,y2,y3⟩:=parts_of hU (U t).sz cs hl ih hall fs gs.toList 0 hg (fun f hf=>by have:=List.all_eq_true.1 hp.1 f hf; simpa using this) hp.2 (fun f hf=>by
    obtain ⟨i,hi,rfl⟩:=List.mem_iff_getElem.1 hf
    have hi2:i<xs.length:=by have:=mapM_some_length hxs; omega
    have:=mapM_some_get hxs i _ (List.getElem?_eq_getElem hi)
    rw [List.getElem?_eq_getElem hi2] at this
    exact ⟨_,this⟩)
   exact ⟨_, .strct ys hk y1 y2,y3⟩
  |_=>rw [hk] at hp; simp at hp
theorem dat_of_arg (hU:∀t,AgreeT P U t) (L) (hL:plainB U L=true) {sp} {held} (hsp:∀b,sp b=true) {t} {v} {d} {p} (ht:t∈L) {base} {rc}
  (hv:Value.okWide P w rc base t v) (h:DataW.Trod enc P w 0 sp held t v d p):∃x,Dat U t x∧Rep (cx0 w) x v:=by
 obtain ⟨fuel,h⟩:=h
 obtain ⟨x,x1,x2⟩:=dat_of_trod hU L hL hsp fuel t _ _ ht h
 refine ⟨x,x1, ?_⟩
 have hd:=(hU t).desc
 cases x1 with
 |strct ys hk hn hx=>
  rw [hk] at hd
  obtain ⟨gs,hd,_⟩:=hd
  unfold Value.okWide at hv
  rw [hd] at hv
  obtain ⟨cs,rfl,_⟩:=hv
  have hl:=x2.len
  simp only [AV.cells,Value.cells] at hl x2
  refine .agg _ _ (by grind) (fun i hi=> ?_) (fun i hi=> ?_)
  ·have:=(x2.get i hi).1
   simpa using this
  ·have:=(x2.get i hi).2
   simpa using this
 |bool b hk=>
  cases v<;>first|exact x2.1.1|skip
  rw [hk] at hd
  unfold Value.okWide at hv
  simp [Cell.okWide,Cell.ok,hd] at hv
 |int n hk hw=>
  cases v<;>first|exact x2.1.1|skip
  rw [hk] at hd
  unfold Value.okWide at hv
  simp [Cell.okWide,Cell.ok,hd] at hv
 |str l hk hl=>
  cases v<;>first|exact x2.1.1|skip
  rw [hk] at hd
  unfold Value.okWide at hv
  simp [Cell.okWide,Cell.ok,hd] at hv
 |slice xs hk hx hl=>
  cases v<;>first|exact x2.1.1|skip
  rw [hk] at hd
  unfold Value.okWide at hv
  simp [Cell.okWide,Cell.ok,hd] at hv
end
end Go.Ab

namespace Go.Proofs.YtcgcjihjhlenkaaDoor
open Go Go.Ab
def tyRows:List TI:= [
 ⟨.other,0,0,default,none⟩,
 ⟨.other,1,8, .v .nilFunc,none⟩,
 ⟨.int .i64,1,8, .v (.int .i64 0),some (0,[.int .i64])⟩,
 ⟨.int .i64,1,8, .v (.int .i64 0),some (0,[.int .i64])⟩,
 ⟨.bool,1,1, .v (.bool false),some (0,[.bool])⟩,
 ⟨.int .u8,1,1, .v (.int .u8 0),some (0,[.int .u8])⟩,
 ⟨.int .u8,1,1, .v (.int .u8 0),some (0,[.int .u8])⟩,
 ⟨.strct [(0,2),(1,3),(2,4),(3,6)],4,24, .agg [.v (.int .i64 0), .v (.int .i64 0), .v (.bool false), .v (.int .u8 0)],none⟩,
 ⟨.strct [(0,2),(1,3),(2,4),(3,6)],4,24, .agg [.v (.int .i64 0), .v (.int .i64 0), .v (.bool false), .v (.int .u8 0)],none⟩,
 ⟨.str,1,16, .s [],some (0,[.str])⟩,
 ⟨.str,1,16, .s [],some (0,[.str])⟩,
 ⟨.str,1,16, .s [],some (0,[.str])⟩,
 ⟨.int .u64,1,8, .v (.int .u64 0),some (0,[.int .u64])⟩,
 ⟨.strct [(0,9),(1,12)],2,24, .agg [.s [], .v (.int .u64 0)],none⟩,
 ⟨.strct [(0,9),(1,12)],2,24, .agg [.s [], .v (.int .u64 0)],none⟩,
 ⟨.ptr 135,1,8, .v (.pointer none),none⟩,
 ⟨.ptr 138,1,8, .v (.pointer none),none⟩,
 ⟨.ptr 146,1,8, .v (.pointer none),none⟩,
 ⟨.strct [(0,17)],1,8, .agg [.v (.pointer none)],none⟩,
 ⟨.strct [(0,17)],1,8, .agg [.v (.pointer none)],none⟩,
 ⟨.iface,1,16, .v .nilIface,none⟩,
 ⟨.int .i32,1,4, .v (.int .i32 0),some (0,[.int .i32])⟩,
 ⟨.slice 56,1,24, .sl [] .full,none⟩,
 ⟨.slice 56,1,24, .sl [] .full,none⟩,
 ⟨.slice 37,1,24, .sl [] .full,none⟩,
 ⟨.slice 28,1,24, .sl [] .full,none⟩,
 ⟨.slice 60,1,24, .sl [] .full,none⟩,
 ⟨.strct [(0,9),(1,4),(2,3),(3,23),(4,24),(5,25),(6,26)],7,128, .agg [.s [], .v (.bool false), .v (.int .i64 0), .sl [] .full, .sl [] .full, .sl [] .full, .sl [] .full],none⟩,
 ⟨.strct [(0,9),(1,4),(2,3),(3,23),(4,24),(5,25),(6,26)],7,128, .agg [.s [], .v (.bool false), .v (.int .i64 0), .sl [] .full, .sl [] .full, .sl [] .full, .sl [] .full],none⟩,
 ⟨.other,1,8, .v .nilFunc,none⟩,
 ⟨.int .i64,1,8, .v (.int .i64 0),some (0,[.int .i64])⟩,
 ⟨.other,1,8, .v .nilFunc,none⟩,
 ⟨.other,1,8, .v .nilFunc,none⟩,
 ⟨.other,1,8, .v .nilFunc,none⟩,
 ⟨.other,1,8, .v .nilFunc,none⟩,
 ⟨.slice 58,1,24, .sl [] .full,none⟩,
 ⟨.strct [(0,9),(1,4),(2,23),(3,35),(4,26)],5,96, .agg [.s [], .v (.bool false), .sl [] .full, .sl [] .full, .sl [] .full],none⟩,
 ⟨.strct [(0,9),(1,4),(2,23),(3,35),(4,26)],5,96, .agg [.s [], .v (.bool false), .sl [] .full, .sl [] .full, .sl [] .full],none⟩,
 ⟨.other,1,8, .v .nilFunc,none⟩,
 ⟨.other,1,8, .v .nilFunc,none⟩,
 ⟨.other,1,8, .v .nilFunc,none⟩,
 ⟨.ptr 43,1,8, .v (.pointer none),none⟩,
 ⟨.strct [(0,3)],1,8, .agg [.v (.int .i64 0)],some (1,[.int .i64])⟩,
 ⟨.strct [(0,3)],1,8, .agg [.v (.int .i64 0)],some (1,[.int .i64])⟩,
 ⟨.ptr 47,1,8, .v (.pointer none),none⟩,
 ⟨.map 9 82,1,8, .v (.map none),none⟩,
 ⟨.strct [(0,45),(1,3)],2,16, .agg [.v (.map none), .v (.int .i64 0)],none⟩,
 ⟨.strct [(0,45),(1,3)],2,16, .agg [.v (.map none), .v (.int .i64 0)],none⟩,
 ⟨.other,1,8, .v .nilFunc,none⟩,
 ⟨.strct [(0,3),(1,9),(2,4)],3,32, .agg [.v (.int .i64 0), .s [], .v (.bool false)],some (1,[.int .i64, .str, .bool])⟩,
 ⟨.strct [(0,3),(1,9),(2,4)],3,32, .agg [.v (.int .i64 0), .s [], .v (.bool false)],some (1,[.int .i64, .str, .bool])⟩,
 ⟨.strct [(0,3),(1,3),(2,9)],3,32, .agg [.v (.int .i64 0), .v (.int .i64 0), .s []],some (1,[.int .i64, .int .i64, .str])⟩,
 ⟨.strct [(0,3),(1,3),(2,9)],3,32, .agg [.v (.int .i64 0), .v (.int .i64 0), .s []],some (1,[.int .i64, .int .i64, .str])⟩,
 ⟨.strct [(0,50),(3,3),(4,52)],7,72, .agg [.v (.int .i64 0), .s [], .v (.bool false), .v (.int .i64 0), .v (.int .i64 0), .v (.int .i64 0), .s []],some (2,[.int .i64, .str, .bool, .int .i64, .int .i64, .int .i64, .str])⟩,
 ⟨.strct [(0,50),(3,3),(4,52)],7,72, .agg [.v (.int .i64 0), .s [], .v (.bool false), .v (.int .i64 0), .v (.int .i64 0), .v (.int .i64 0), .s []],some (2,[.int .i64, .str, .bool, .int .i64, .int .i64, .int .i64, .str])⟩,
 ⟨.slice 54,1,24, .sl [] .full,none⟩,
 ⟨.slice 55,1,24, .sl [] .full,none⟩,
 ⟨.strct [(0,3),(1,52),(4,50)],7,72, .agg [.v (.int .i64 0), .v (.int .i64 0), .v (.int .i64 0), .s [], .v (.int .i64 0), .s [], .v (.bool false)],some (2,[.int .i64, .int .i64, .int .i64, .str, .int .i64, .str, .bool])⟩,
 ⟨.strct [(0,3),(1,52),(4,50)],7,72, .agg [.v (.int .i64 0), .v (.int .i64 0), .v (.int .i64 0), .s [], .v (.int .i64 0), .s [], .v (.bool false)],some (2,[.int .i64, .int .i64, .int .i64, .str, .int .i64, .str, .bool])⟩,
 ⟨.strct [(0,3),(1,3),(2,9)],3,32, .agg [.v (.int .i64 0), .v (.int .i64 0), .s []],some (1,[.int .i64, .int .i64, .str])⟩,
 ⟨.strct [(0,3),(1,3),(2,9)],3,32, .agg [.v (.int .i64 0), .v (.int .i64 0), .s []],some (1,[.int .i64, .int .i64, .str])⟩,
 ⟨.other,1,8, .v .nilFunc,none⟩,
 ⟨.other,1,8, .v .nilFunc,none⟩,
 ⟨.other,1,8, .v .nilFunc,none⟩,
 ⟨.other,1,8, .v .nilFunc,none⟩,
 ⟨.other,1,8, .v .nilFunc,none⟩,
 ⟨.other,1,8, .v .nilFunc,none⟩,
 ⟨.other,1,8, .v .nilFunc,none⟩,
 ⟨.other,1,8, .v .nilFunc,none⟩,
 ⟨.other,1,8, .v .nilFunc,none⟩,
 ⟨.other,1,8, .v .nilFunc,none⟩,
 ⟨.other,1,8, .v .nilFunc,none⟩,
 ⟨.other,1,8, .v .nilFunc,none⟩,
 ⟨.other,1,8, .v .nilFunc,none⟩,
 ⟨.other,1,8, .v .nilFunc,none⟩,
 ⟨.other,1,8, .v .nilFunc,none⟩,
 ⟨.other,1,8, .v .nilFunc,none⟩,
 ⟨.other,1,8, .v .nilFunc,none⟩,
 ⟨.slice 9,1,24, .sl [] .full,none⟩,
 ⟨.other,1,8, .v .nilFunc,none⟩,
 ⟨.other,1,8, .v .nilFunc,none⟩,
 ⟨.other,1,8, .v .nilFunc,none⟩,
 ⟨.strct [],0,0,default,none⟩,
 ⟨.other,0,0,default,none⟩,
 ⟨.other,1,8, .v .nilFunc,none⟩,
 ⟨.slice 4,1,24, .sl [] .full,none⟩,
 ⟨.other,0,0,default,none⟩,
 ⟨.other,1,8, .v .nilFunc,none⟩,
 ⟨.other,1,8, .v .nilFunc,none⟩,
 ⟨.other,1,8, .v .nilFunc,none⟩,
 ⟨.ptr 93,1,8, .v (.pointer none),none⟩,
 ⟨.slice 5,1,24, .sl [] .full,none⟩,
 ⟨.strct [(0,90),(1,91)],2,32, .agg [.v (.pointer none), .sl [] .full],none⟩,
 ⟨.strct [(0,90),(1,91)],2,32, .agg [.v (.pointer none), .sl [] .full],none⟩,
 ⟨.other,1,8, .v .nilFunc,none⟩,
 ⟨.iface,1,16, .v .nilIface,none⟩,
 ⟨.iface,1,16, .v .nilIface,none⟩,
 ⟨.other,0,0,default,none⟩,
 ⟨.other,1,8, .v .nilFunc,none⟩,
 ⟨.other,1,8, .v .nilFunc,none⟩,
 ⟨.other,0,0,default,none⟩,
 ⟨.other,1,8, .v .nilFunc,none⟩,
 ⟨.other,1,8, .v .nilFunc,none⟩,
 ⟨.other,1,8, .v .nilFunc,none⟩,
 ⟨.other,1,8, .v .nilFunc,none⟩,
 ⟨.other,1,8, .v .nilFunc,none⟩,
 ⟨.other,1,8, .v .nilFunc,none⟩,
 ⟨.other,1,8, .v .nilFunc,none⟩,
 ⟨.other,1,8, .v .nilFunc,none⟩,
 ⟨.other,1,8, .v .nilFunc,none⟩,
 ⟨.other,1,8, .v .nilFunc,none⟩,
 ⟨.ptr 5,1,8, .v (.pointer none),none⟩,
 ⟨.other,1,8, .v .nilFunc,none⟩,
 ⟨.other,1,8, .v .nilFunc,none⟩,
 ⟨.int .u64,1,8, .v (.int .u64 0),some (0,[.int .u64])⟩,
 ⟨.other,1,8, .v (.pointer none),none⟩,
 ⟨.other,1,8, .v .nilFunc,none⟩,
 ⟨.other,1,8, .v .nilFunc,none⟩,
 ⟨.other,1,8, .v .nilFunc,none⟩,
 ⟨.arr 24 5,24,24, .agg [.v (.int .u8 0), .v (.int .u8 0), .v (.int .u8 0), .v (.int .u8 0), .v (.int .u8 0), .v (.int .u8 0), .v (.int .u8 0), .v (.int .u8 0), .v (.int .u8 0), .v (.int .u8 0), .v (.int .u8 0), .v (.int .u8 0), .v (.int .u8 0), .v (.int .u8 0), .v (.int .u8 0), .v (.int .u8 0), .v (.int .u8 0), .v (.int .u8 0), .v (.int .u8 0), .v (.int .u8 0), .v (.int .u8 0), .v (.int .u8 0), .v (.int .u8 0), .v (.int .u8 0)],some (1,[.int .u8, .int .u8, .int .u8, .int .u8, .int .u8, .int .u8, .int .u8, .int .u8, .int .u8, .int .u8, .int .u8, .int .u8, .int .u8, .int .u8, .int .u8, .int .u8, .int .u8, .int .u8, .int .u8, .int .u8, .int .u8, .int .u8, .int .u8, .int .u8])⟩,
 ⟨.int .u64,1,8, .v (.int .u64 0),some (0,[.int .u64])⟩,
 ⟨.other,1,8, .v .nilFunc,none⟩,
 ⟨.other,1,8, .v .nilFunc,none⟩,
 ⟨.other,0,0,default,none⟩,
 ⟨.other,1,8, .v .nilFunc,none⟩,
 ⟨.other,1,8, .v .nilFunc,none⟩,
 ⟨.other,1,8, .v .nilFunc,none⟩,
 ⟨.arr 20 120,20,160, .agg [.v (.int .u64 0), .v (.int .u64 0), .v (.int .u64 0), .v (.int .u64 0), .v (.int .u64 0), .v (.int .u64 0), .v (.int .u64 0), .v (.int .u64 0), .v (.int .u64 0), .v (.int .u64 0), .v (.int .u64 0), .v (.int .u64 0), .v (.int .u64 0), .v (.int .u64 0), .v (.int .u64 0), .v (.int .u64 0), .v (.int .u64 0), .v (.int .u64 0), .v (.int .u64 0), .v (.int .u64 0)],some (1,[.int .u64, .int .u64, .int .u64, .int .u64, .int .u64, .int .u64, .int .u64, .int .u64, .int .u64, .int .u64, .int .u64, .int .u64, .int .u64, .int .u64, .int .u64, .int .u64, .int .u64, .int .u64, .int .u64, .int .u64])⟩,
 ⟨.int .u32,1,4, .v (.int .u32 0),some (0,[.int .u32])⟩,
 ⟨.arr 65 5,65,65, .agg [.v (.int .u8 0), .v (.int .u8 0), .v (.int .u8 0), .v (.int .u8 0), .v (.int .u8 0), .v (.int .u8 0), .v (.int .u8 0), .v (.int .u8 0), .v (.int .u8 0), .v (.int .u8 0), .v (.int .u8 0), .v (.int .u8 0), .v (.int .u8 0), .v (.int .u8 0), .v (.int .u8 0), .v (.int .u8 0), .v (.int .u8 0), .v (.int .u8 0), .v (.int .u8 0), .v (.int .u8 0), .v (.int .u8 0), .v (.int .u8 0), .v (.int .u8 0), .v (.int .u8 0), .v (.int .u8 0), .v (.int .u8 0), .v (.int .u8 0), .v (.int .u8 0), .v (.int .u8 0), .v (.int .u8 0), .v (.int .u8 0), .v (.int .u8 0), .v (.int .u8 0), .v (.int .u8 0), .v (.int .u8 0), .v (.int .u8 0), .v (.int .u8 0), .v (.int .u8 0), .v (.int .u8 0), .v (.int .u8 0), .v (.int .u8 0), .v (.int .u8 0), .v (.int .u8 0), .v (.int .u8 0), .v (.int .u8 0), .v (.int .u8 0), .v (.int .u8 0), .v (.int .u8 0), .v (.int .u8 0), .v (.int .u8 0), .v (.int .u8 0), .v (.int .u8 0), .v (.int .u8 0), .v (.int .u8 0), .v (.int .u8 0), .v (.int .u8 0), .v (.int .u8 0), .v (.int .u8 0), .v (.int .u8 0), .v (.int .u8 0), .v (.int .u8 0), .v (.int .u8 0), .v (.int .u8 0), .v (.int .u8 0), .v (.int .u8 0)],none⟩,
 ⟨.other,1,8, .v .nilFunc,none⟩,
 ⟨.other,1,8, .v .nilFunc,none⟩,
 ⟨.arr 32 5,32,32, .agg [.v (.int .u8 0), .v (.int .u8 0), .v (.int .u8 0), .v (.int .u8 0), .v (.int .u8 0), .v (.int .u8 0), .v (.int .u8 0), .v (.int .u8 0), .v (.int .u8 0), .v (.int .u8 0), .v (.int .u8 0), .v (.int .u8 0), .v (.int .u8 0), .v (.int .u8 0), .v (.int .u8 0), .v (.int .u8 0), .v (.int .u8 0), .v (.int .u8 0), .v (.int .u8 0), .v (.int .u8 0), .v (.int .u8 0), .v (.int .u8 0), .v (.int .u8 0), .v (.int .u8 0), .v (.int .u8 0), .v (.int .u8 0), .v (.int .u8 0), .v (.int .u8 0), .v (.int .u8 0), .v (.int .u8 0), .v (.int .u8 0), .v (.int .u8 0)],some (1,[.int .u8, .int .u8, .int .u8, .int .u8, .int .u8, .int .u8, .int .u8, .int .u8, .int .u8, .int .u8, .int .u8, .int .u8, .int .u8, .int .u8, .int .u8, .int .u8, .int .u8, .int .u8, .int .u8, .int .u8, .int .u8, .int .u8, .int .u8, .int .u8, .int .u8, .int .u8, .int .u8, .int .u8, .int .u8, .int .u8, .int .u8, .int .u8])⟩,
 ⟨.arr 64 5,64,64, .agg [.v (.int .u8 0), .v (.int .u8 0), .v (.int .u8 0), .v (.int .u8 0), .v (.int .u8 0), .v (.int .u8 0), .v (.int .u8 0), .v (.int .u8 0), .v (.int .u8 0), .v (.int .u8 0), .v (.int .u8 0), .v (.int .u8 0), .v (.int .u8 0), .v (.int .u8 0), .v (.int .u8 0), .v (.int .u8 0), .v (.int .u8 0), .v (.int .u8 0), .v (.int .u8 0), .v (.int .u8 0), .v (.int .u8 0), .v (.int .u8 0), .v (.int .u8 0), .v (.int .u8 0), .v (.int .u8 0), .v (.int .u8 0), .v (.int .u8 0), .v (.int .u8 0), .v (.int .u8 0), .v (.int .u8 0), .v (.int .u8 0), .v (.int .u8 0), .v (.int .u8 0), .v (.int .u8 0), .v (.int .u8 0), .v (.int .u8 0), .v (.int .u8 0), .v (.int .u8 0), .v (.int .u8 0), .v (.int .u8 0), .v (.int .u8 0), .v (.int .u8 0), .v (.int .u8 0), .v (.int .u8 0), .v (.int .u8 0), .v (.int .u8 0), .v (.int .u8 0), .v (.int .u8 0), .v (.int .u8 0), .v (.int .u8 0), .v (.int .u8 0), .v (.int .u8 0), .v (.int .u8 0), .v (.int .u8 0), .v (.int .u8 0), .v (.int .u8 0), .v (.int .u8 0), .v (.int .u8 0), .v (.int .u8 0), .v (.int .u8 0), .v (.int .u8 0), .v (.int .u8 0), .v (.int .u8 0), .v (.int .u8 0)],none⟩,
 ⟨.strct [(0,17),(1,17),(2,17),(3,9)],4,40, .agg [.v (.pointer none), .v (.pointer none), .v (.pointer none), .s []],none⟩,
 ⟨.strct [(0,17),(1,17),(2,17),(3,9)],4,40, .agg [.v (.pointer none), .v (.pointer none), .v (.pointer none), .s []],none⟩,
 ⟨.arr 0 16,0,0,default,none⟩,
 ⟨.other,0,0,default,none⟩,
 ⟨.other,0,0,default,none⟩,
 ⟨.other,1,8, .v .nilFunc,none⟩,
 ⟨.int .u8,1,1, .v (.int .u8 0),some (0,[.int .u8])⟩,
 ⟨.int .u8,1,1, .v (.int .u8 0),some (0,[.int .u8])⟩,
 ⟨.other,1,8, .v .nilFunc,none⟩,
 ⟨.int .i32,1,4, .v (.int .i32 0),some (0,[.int .i32])⟩,
 ⟨.int .i32,1,4, .v (.int .i32 0),some (0,[.int .i32])⟩,
 ⟨.strct [(0,12),(1,12),(2,128),(3,140),(4,5),(5,5),(6,141),(7,142),(8,111),(9,143),(10,144)],11,48, .agg [.v (.int .u64 0), .v (.int .u64 0), .v (.int .u32 0), .v (.int .u8 0), .v (.int .u8 0), .v (.int .u8 0), .v (.int .u8 0), .v .nilFunc, .v (.pointer none), .v (.int .i32 0), .v (.int .i32 0)],none⟩,
 ⟨.strct [(0,12),(1,12),(2,128),(3,140),(4,5),(5,5),(6,141),(7,142),(8,111),(9,143),(10,144)],11,48, .agg [.v (.int .u64 0), .v (.int .u64 0), .v (.int .u32 0), .v (.int .u8 0), .v (.int .u8 0), .v (.int .u8 0), .v (.int .u8 0), .v .nilFunc, .v (.pointer none), .v (.int .i32 0), .v (.int .i32 0)],none⟩]
def U (t:TypeId):TI:=tyRows.getD t ⟨.other,0,0,default,none⟩
@[go_sem] theorem U3k:(U 3).k= .int .i64:=rfl
@[go_sem] theorem U3s:(U 3).sz=1:=rfl
@[go_sem] theorem U3b:(U 3).bytes=8:=rfl
@[go_sem] theorem U3z:(U 3).zero= .v (.int .i64 0):=rfl
@[go_sem] theorem U4k:(U 4).k= .bool:=rfl
@[go_sem] theorem U4s:(U 4).sz=1:=rfl
@[go_sem] theorem U4b:(U 4).bytes=1:=rfl
@[go_sem] theorem U4z:(U 4).zero= .v (.bool false):=rfl
@[go_sem] theorem U9k:(U 9).k= .str:=rfl
@[go_sem] theorem U9s:(U 9).sz=1:=rfl
@[go_sem] theorem U9b:(U 9).bytes=16:=rfl
@[go_sem] theorem U9z:(U 9).zero= .s []:=rfl
@[go_sem] theorem U23k:(U 23).k= .slice 56:=rfl
@[go_sem] theorem U23s:(U 23).sz=1:=rfl
@[go_sem] theorem U23b:(U 23).bytes=24:=rfl
@[go_sem] theorem U23z:(U 23).zero= .sl [] .full:=rfl
@[go_sem] theorem U24k:(U 24).k= .slice 37:=rfl
@[go_sem] theorem U24s:(U 24).sz=1:=rfl
@[go_sem] theorem U24b:(U 24).bytes=24:=rfl
@[go_sem] theorem U24z:(U 24).zero= .sl [] .full:=rfl
@[go_sem] theorem U25k:(U 25).k= .slice 28:=rfl
@[go_sem] theorem U25s:(U 25).sz=1:=rfl
@[go_sem] theorem U25b:(U 25).bytes=24:=rfl
@[go_sem] theorem U25z:(U 25).zero= .sl [] .full:=rfl
@[go_sem] theorem U26k:(U 26).k= .slice 60:=rfl
@[go_sem] theorem U26s:(U 26).sz=1:=rfl
@[go_sem] theorem U26b:(U 26).bytes=24:=rfl
@[go_sem] theorem U26z:(U 26).zero= .sl [] .full:=rfl
@[go_sem] theorem U28k:(U 28).k= .strct [(0,9),(1,4),(2,3),(3,23),(4,24),(5,25),(6,26)]:=rfl
@[go_sem] theorem U28s:(U 28).sz=7:=rfl
@[go_sem] theorem U28b:(U 28).bytes=128:=rfl
@[go_sem] theorem U28z:(U 28).zero= .agg [.s [], .v (.bool false), .v (.int .i64 0), .sl [] .full, .sl [] .full, .sl [] .full, .sl [] .full]:=rfl
@[go_sem] theorem U35k:(U 35).k= .slice 58:=rfl
@[go_sem] theorem U35s:(U 35).sz=1:=rfl
@[go_sem] theorem U35b:(U 35).bytes=24:=rfl
@[go_sem] theorem U35z:(U 35).zero= .sl [] .full:=rfl
@[go_sem] theorem U37k:(U 37).k= .strct [(0,9),(1,4),(2,23),(3,35),(4,26)]:=rfl
@[go_sem] theorem U37s:(U 37).sz=5:=rfl
@[go_sem] theorem U37b:(U 37).bytes=96:=rfl
@[go_sem] theorem U37z:(U 37).zero= .agg [.s [], .v (.bool false), .sl [] .full, .sl [] .full, .sl [] .full]:=rfl
@[go_sem] theorem U43k:(U 43).k= .strct [(0,3)]:=rfl
@[go_sem] theorem U43s:(U 43).sz=1:=rfl
@[go_sem] theorem U43b:(U 43).bytes=8:=rfl
@[go_sem] theorem U43z:(U 43).zero= .agg [.v (.int .i64 0)]:=rfl
@[go_sem] theorem U45k:(U 45).k= .map 9 82:=rfl
@[go_sem] theorem U45s:(U 45).sz=1:=rfl
@[go_sem] theorem U45b:(U 45).bytes=8:=rfl
@[go_sem] theorem U45z:(U 45).zero= .v (.map none):=rfl
@[go_sem] theorem U47k:(U 47).k= .strct [(0,45),(1,3)]:=rfl
@[go_sem] theorem U47s:(U 47).sz=2:=rfl
@[go_sem] theorem U47b:(U 47).bytes=16:=rfl
@[go_sem] theorem U47z:(U 47).zero= .agg [.v (.map none), .v (.int .i64 0)]:=rfl
@[go_sem] theorem U50k:(U 50).k= .strct [(0,3),(1,9),(2,4)]:=rfl
@[go_sem] theorem U50s:(U 50).sz=3:=rfl
@[go_sem] theorem U50b:(U 50).bytes=32:=rfl
@[go_sem] theorem U50z:(U 50).zero= .agg [.v (.int .i64 0), .s [], .v (.bool false)]:=rfl
@[go_sem] theorem U50e:(U 50).eq=some (1,[.int .i64, .str, .bool]):=rfl
@[go_sem] theorem U52k:(U 52).k= .strct [(0,3),(1,3),(2,9)]:=rfl
@[go_sem] theorem U52s:(U 52).sz=3:=rfl
@[go_sem] theorem U52b:(U 52).bytes=32:=rfl
@[go_sem] theorem U52z:(U 52).zero= .agg [.v (.int .i64 0), .v (.int .i64 0), .s []]:=rfl
@[go_sem] theorem U52e:(U 52).eq=some (1,[.int .i64, .int .i64, .str]):=rfl
@[go_sem] theorem U54k:(U 54).k= .strct [(0,50),(3,3),(4,52)]:=rfl
@[go_sem] theorem U54s:(U 54).sz=7:=rfl
@[go_sem] theorem U54b:(U 54).bytes=72:=rfl
@[go_sem] theorem U54z:(U 54).zero= .agg [.v (.int .i64 0), .s [], .v (.bool false), .v (.int .i64 0), .v (.int .i64 0), .v (.int .i64 0), .s []]:=rfl
@[go_sem] theorem U54e:(U 54).eq=some (2,[.int .i64, .str, .bool, .int .i64, .int .i64, .int .i64, .str]):=rfl
@[go_sem] theorem U55k:(U 55).k= .slice 54:=rfl
@[go_sem] theorem U55s:(U 55).sz=1:=rfl
@[go_sem] theorem U55b:(U 55).bytes=24:=rfl
@[go_sem] theorem U55z:(U 55).zero= .sl [] .full:=rfl
@[go_sem] theorem U56k:(U 56).k= .slice 55:=rfl
@[go_sem] theorem U56s:(U 56).sz=1:=rfl
@[go_sem] theorem U56b:(U 56).bytes=24:=rfl
@[go_sem] theorem U56z:(U 56).zero= .sl [] .full:=rfl
@[go_sem] theorem U58k:(U 58).k= .strct [(0,3),(1,52),(4,50)]:=rfl
@[go_sem] theorem U58s:(U 58).sz=7:=rfl
@[go_sem] theorem U58b:(U 58).bytes=72:=rfl
@[go_sem] theorem U58z:(U 58).zero= .agg [.v (.int .i64 0), .v (.int .i64 0), .v (.int .i64 0), .s [], .v (.int .i64 0), .s [], .v (.bool false)]:=rfl
@[go_sem] theorem U58e:(U 58).eq=some (2,[.int .i64, .int .i64, .int .i64, .str, .int .i64, .str, .bool]):=rfl
@[go_sem] theorem U60k:(U 60).k= .strct [(0,3),(1,3),(2,9)]:=rfl
@[go_sem] theorem U60s:(U 60).sz=3:=rfl
@[go_sem] theorem U60b:(U 60).bytes=32:=rfl
@[go_sem] theorem U60z:(U 60).zero= .agg [.v (.int .i64 0), .v (.int .i64 0), .s []]:=rfl
@[go_sem] theorem U60e:(U 60).eq=some (1,[.int .i64, .int .i64, .str]):=rfl
@[go_sem] theorem U78k:(U 78).k= .slice 9:=rfl
@[go_sem] theorem U78s:(U 78).sz=1:=rfl
@[go_sem] theorem U78b:(U 78).bytes=24:=rfl
@[go_sem] theorem U78z:(U 78).zero= .sl [] .full:=rfl
@[go_sem] theorem U82k:(U 82).k= .strct []:=rfl
@[go_sem] theorem U82s:(U 82).sz=0:=rfl
@[go_sem] theorem U85k:(U 85).k= .slice 4:=rfl
@[go_sem] theorem U85s:(U 85).sz=1:=rfl
@[go_sem] theorem U85b:(U 85).bytes=24:=rfl
@[go_sem] theorem U85z:(U 85).zero= .sl [] .full:=rfl
set_option maxRecDepth 100000 in
theorem hU:∀t,AgreeT Tryd.prog U t:=agree_all 147 (by kernel_rfl) fun t ht=>by
 unfold U
 rw [List.getD_eq_getElem?_getD,List.getElem?_eq_none (show tyRows.length≤t from ht)]
 rfl
theorem hm:Tryd.prog.follows .mixedOrders=true:=by kernel_rfl
end Go.Proofs.YtcgcjihjhlenkaaDoor

set_option linter.unusedSimpArgs false
set_option linter.unusedVariables false
namespace Go.Ab
open Go
section
variable {P : Program} {U : TypeId → TI} {n : Nat} {ρ : Env} {h h' h2 : Heap} {e tb : TypeId} {y v : AV} {xs zs : List AV} {l : List UInt8} {Q : AV → Heap → Prop}
def hm1 (id:Nat) (k:Blk):Heap:=upd (fun _=>none) id (some k)
@[go_sem] theorem hm1_same (id) (k):hm1 id k id=some k:=upd_same ..
theorem Sub.hm1 {id} {k} (h1:h id=some k):Sub (hm1 id k) h:=fun j b hj=>by
 unfold Ab.hm1 at hj
 grind [upd_same,upd_other]
theorem KeepObj.new {id} {k} (hid:h id=none):KeepObj h (upd h id k):=((Sub.refl h).new hid k).keepObj
theorem ApNew.acc (hk:∀y' h'',Acc U e h h'' y' (xs++zs)→KeepObj h h''→Q y' h''):ApNew U h xs zs e Q:=
 .own fun id hid=>hk _ _ ⟨(Sub.refl h).new hid _, .inr ⟨id,hid,rfl,by rw [upd_same,List.length_append]⟩⟩ (.new hid)
theorem ApFull.acc (hk:∀y' h'',Acc U e h h'' y' (xs++zs)→KeepObj h h''→Q y' h''):ApFull U h xs zs e Q:=
 ⟨fun hn=>by subst hn; exact hk _ _ (by rw [List.append_nil]; exact .full (.refl h)) (.refl h),fun _=> .acc hk⟩
theorem Acc.bytes (ha:Acc U e h h' y (l.map byteA)):Bytes tb h2 y l:=by
 obtain ⟨q,rfl⟩:=ha.row
 exact .sl _ _
end
end Go.Ab

set_option linter.unusedSimpArgs false
set_option linter.unusedVariables false
namespace Go.Ab
open Go
section
variable {P : Program} {U : TypeId → TI} {n : Nat} {ρ : Env} {h h' : Heap} {tb : TypeId} {y : AV} {l : List UInt8}
theorem Bytes.from (hb:Bytes tb h y l) {lo:Operand} {m:Int} {x:IntKind} {K:AV→Prop} (j:Nat) (hm:ev ρ lo=some (.v (.int x m))) (hj:m=j) (hl:j≤l.length) (hz:(U tb).sz=1) (hk:∀z,Bytes tb h z (l.drop j)→K z):
  sliceK U ρ y (some lo) none none K (.slice tb):=by
 subst hj
 rcases hb with ⟨q,rfl⟩|⟨id,off,cs,rfl,h1,h2,h3⟩
 ·rw [sliceK_from,hm]
  refine ⟨by omega,by grind [Sized_bytes], ?_⟩
  refine ⟨by omega,by grind, ?_⟩
  rw [←List.map_drop]
  exact hk _ (.sl _ _)
 ·rw [sliceK_oa]
  refine ⟨by omega,fun _=>hz, ?_⟩
  simp only [optA_none,optA_some,hm,bindO_some,intA_eq]
  refine ⟨by omega,by omega,by omega, ?_⟩
  simp only [Int.toNat_natCast,hz,Nat.mul_one]
  have e:(l.drop j).length=l.length - j:=by simp
  have:=hk (.oa id (off+j) (l.drop j).length) (by grind [oa,List.map_drop,List.drop_drop,List.drop_take])
  rwa [e] at this
theorem Bytes.cut (hb:Bytes tb h y l) {lo hi:Operand} {m m2:Int} {x x2:IntKind} {K:AV→Prop} (j k:Nat) (hm:ev ρ lo=some (.v (.int x m))) (hj:m=j) (hm2:ev ρ hi=some (.v (.int x2 m2))) (hk2:m2=k) (hjk:j≤k) (hl:k≤l.length) (hz:(U tb).sz=1)
  (hk:∀z,Bytes tb h z ((l.drop j).take (k - j))→K z):sliceK U ρ y (some lo) (some hi) none K (.slice tb):=by
 subst hj; subst hk2
 rcases hb with ⟨q,rfl⟩|⟨id,off,cs,rfl,h1,h2,h3⟩
 ·rw [sliceK_ft,hm]
  refine ⟨by omega,by grind [Sized_bytes], ?_⟩
  simp only [bindO_some,intA_eq,hm2,Int.toNat_natCast,KV_eq]
  refine ⟨by omega,by omega,by grind, ?_⟩
  rw [←List.map_drop,←List.map_take]
  exact hk _ (.sl _ _)
 ·rw [sliceK_oa]
  refine ⟨by omega,fun _=>hz, ?_⟩
  simp only [optA_some,hm,bindO_some,intA_eq,hm2]
  refine ⟨by omega,by omega,by omega, ?_⟩
  simp only [Int.toNat_natCast,hz,Nat.mul_one]
  have e:((l.drop j).take (k - j)).length=k - j:=by grind
  have:=hk (.oa id (off+j) ((l.drop j).take (k - j)).length) (.oa h1 (by omega) (by
   grind [List.map_take,List.map_drop,List.drop_drop,List.drop_take]))
  rwa [e] at this
end
section
variable {U : TypeId → TI} {ty : TypeId} {K : AV → Prop}
end
end Go.Ab

set_option linter.unusedSimpArgs false
set_option linter.unusedVariables false
namespace Go.Ab
open Go
section
variable {P : Program} {U : TypeId → TI} {n : Nat} {ρ : Env} {h0 h h' : Heap} {tb : TypeId} {y v : AV} {l m : List UInt8} {Q : AV → Heap → Prop}
def Wr (tb:TypeId) (h0 h:Heap) (y:AV) (l:List UInt8):Prop:=
 Sub h0 h∧((l= []∧y= .sl [] .full)∨∃id cs,h0 id=none∧y= .oa id 0 l.length∧h id=some (.obj cs tb)∧l.length≤cs.length∧cs.take l.length=l.map byteA)
theorem Wr.bytes (hw:Wr tb h0 h y l):Bytes tb h y l:=by
 obtain ⟨_,⟨rfl,rfl⟩|⟨id,cs,_,rfl,h1,h2,h3⟩⟩:=hw
 ·exact .nil _
 ·exact .oa h1 (by omega) (by grind)
theorem Wr.nil (hs:Sub h0 h):Wr tb h0 h (.sl [] .full) []:=⟨hs, .inl ⟨rfl,rfl⟩⟩
theorem Wr.sub (hw:Wr tb h0 h y l) (hs:Sub h h'):Wr tb h0 h' y l:=by
 obtain ⟨h1,hw|⟨id,cs,a,e,b,c,d⟩⟩:=hw
 ·exact ⟨h1.trans hs, .inl hw⟩
 ·exact ⟨h1.trans hs, .inr ⟨id,cs,a,e,hs _ _ b,c,d⟩⟩
theorem Wr.app (hw:Wr tb h0 h y l) (hz:(U tb).sz=1) (hb:(U tb).bytes=1) (hf:(U tb).zero=byteA 0) (hsrc:∀k:List AV→Prop,k (m.map byteA)→srcA U tb h v k)
  (hlen:l.length+m.length≤140737488355328) (hk:∀y' h',Wr tb h0 h' y' (l++m)→Q y' h'):apK U h y v Q (.slice tb):=by
 have hs:=hw.1
 have one:Sized (U tb).sz (m.map byteA):=by grind [Sized_bytes]
 obtain ⟨_,⟨rfl,rfl⟩|⟨id,cs,h1,rfl,h2,h3,h4⟩⟩:=hw
 ·refine (apK_full ..).mpr ⟨by omega,by omega,hsrc _ ⟨by simp [Sized],one,by grind,fun hn=> ?_,fun hn=> ?_⟩⟩
  ·have:m= []:=by simp_all
   subst this
   exact hk _ _ (.nil hs)
  ·refine .oa hz (by grind [fit,byteA,Value.oneCell']) (by rw [hf]; rfl) (noAgg_bytes m) fun id k hid=> ?_
   refine hk _ _ ⟨hs.new hid _, .inr ⟨id,_,hs.none hid, ?_,upd_same .., ?_, ?_⟩⟩
   ·simp
   ·simp
   ·simp
 ·refine ⟨by omega,by omega,hz,hsrc _ ⟨by grind,noAgg_bytes m,by grind, ?_⟩⟩
  rw [h2]
  refine ⟨by omega, ?_,by grind [fit,byteA,Value.oneCell'],by rw [hf]; rfl,fun hle=> ?_,fun id' k hid=> ?_⟩
  ·grind [noAgg_bytes]
  ·rw [List.length_map] at hle⊢
   have hsub:Sub h0 (upd h id (some (.obj (over cs (0+l.length) (m.map byteA)) tb))):=fun j b hj=>by
    by_cases e:j=id
    ·grind
    ·rw [upd_other _ _ e]; exact hs _ _ hj
   have ho:(over cs (0+l.length) (m.map byteA)).length=cs.length:=by grind [over_length]
   refine hk _ _ ⟨hsub, .inr ⟨id,_,h1,by simp,upd_same ..,by grind, ?_⟩⟩
   rw [over,Nat.zero_add,h4,List.map_append,List.length_append,List.take_append_of_le_length (by simp),←List.map_append]
   grind
  ·rw [List.length_map]
   refine hk _ _ ⟨hs.new hid _, .inr ⟨id',_,hs.none hid,by simp,upd_same .., ?_, ?_⟩⟩
   ·grind
   grind
theorem Wr.put (hw:Wr tb h0 h y l) (hz:(U tb).sz=1) (j:Nat) (hj:j<l.length) {K:AV→Prop} {x:IntKind} (hk:∀id cs,y= .oa id 0 l.length→h0 id=none→h id=some (.obj cs tb)→l.length≤cs.length→cs.take l.length=l.map byteA→K (.ptr id j)):iaddrK U y (.v (.int x (j:Nat))) K (.slice tb):=by
 obtain ⟨hs,⟨rfl,rfl⟩|⟨id,cs,h1,rfl,h2,h3,h4⟩⟩:=hw
 ·grind
 ·refine (iaddrK_oa ..).mpr ⟨by omega,by omega,by omega, ?_⟩
  rw [hz,Nat.zero_add,Nat.mul_one]
  exact hk id cs rfl h1 h2 h3 h4
end
end Go.Ab

set_option linter.unusedSimpArgs false
set_option linter.unusedVariables false
namespace Go.Ab
open Go
section
variable {U : TypeId → TI} {ty : TypeId} {K : AV → Prop}
end
end Go.Ab

set_option linter.unusedSimpArgs false
set_option linter.unusedVariables false
namespace Go.Ab
open Go
section
variable {P : Program} {U : TypeId → TI} {n : Nat} {ρ : Env} {h : Heap}
section
variable (all : List Oper) (bs : List Bool) (r : List Oper) (K : Env → Heap → Prop)
end
end
end Go.Ab

set_option linter.unusedSimpArgs false
set_option linter.unusedVariables false
namespace Go.Ab
open Go
section
variable {P : Program} {U : TypeId → TI} {n : Nat} {ρ : Env} {h : Heap}
def KCut (I:Env→Heap→Prop) (K:Exit→Env→Heap→Prop):Exit→Env→Heap→Prop:=KSeq I K
theorem KCut.at {I} {K} (hi:I ρ h):KCut I K .normal ρ h:=hi
theorem WP.cut {c d} {K} (I) (hc:WP P n c ρ h (KCut I K)) (hd:∀ρ h,I ρ h→WP P n d ρ h K):WP P n (.seq c d) ρ h K:=
 WP.seq (hc.weaken fun e ρ h hk=>by
  cases e with
  |normal=>exact hd ρ h hk
  |_=>exact hk)
def KNext (P:Program) (n:Nat) (d:Code) (K:Exit→Env→Heap→Prop):Exit→Env→Heap→Prop:=KSeq (WP P n d · · K) K
theorem WP.one (hU:∀t,AgreeT P U t) (hm:P.follows .mixedOrders=true) {c d} {K} (hk:vcCode P U n c ρ h (KNext P n d K)):WP P n (.seq c d) ρ h K:=WP.seq (vcCode_sound hU hm c ρ h _ hk)
theorem ApFull.wr {h0} {tb} {m} {Q} (hs:Sub h0 h) (hz:(U tb).sz=1) (hf:(U tb).zero=byteA 0) (hk:∀y' h',Wr tb h0 h' y' m→Q y' h'):ApFull U h [] (m.map byteA) tb Q:=by
 refine ⟨fun hn=> ?_,fun hn=> .oa hz (by grind [fit,byteA,Value.oneCell']) (by rw [hf]; rfl) (noAgg_bytes m) fun id k hid=> ?_⟩
 ·have:m= []:=by simp_all
  subst this
  exact hk _ _ (.nil hs)
 ·refine hk _ _ ⟨hs.new hid _, .inr ⟨id,_,hs.none hid,by simp,upd_same ..,by simp, ?_⟩⟩
  simp
end
end Go.Ab

set_option linter.unusedSimpArgs false
set_option linter.unusedVariables false
namespace Go.Ab
open Go
section
variable {P : Program} {U : TypeId → TI} {n : Nat} {ρ : Env} {h : Heap}
variable {d : Option Tmp} {t : TypeId} {p : String} {a : Array Edge} {g : Option (Nat × Bool)} {Q : AV → Heap → Prop} {k : AV → Prop}
@[go_sem] theorem atK_map (x y) (k):atK (.map x y) k=k (.map x y):=rfl
@[go_sem] theorem cells_mp (i):AV.cells (.mp i)= [.mp i]:=rfl
@[go_sem] theorem fit_mp (i m):fit (.mp i) m=(m=1):=rfl
@[go_sem] theorem keyOK_s (l):keyOK .str (.s l)=(l.length≤maxLen):=rfl
def mpL (b:Blk) (f:List (AV×AV)→Prop):Prop:=match b with
 | .mp m=>f m
 |_=>False
@[congr] theorem mpL_congr {b b'} {f} (e:b=b'):mpL b f=mpL b' f:=by rw [e]
@[go_sem↓] theorem mpL_eq (m) (f):mpL (.mp m) f=f m:=rfl
def KeysA (tk:TK) (m:List (AV×AV)):Prop:=∀p∈m,keyOK tk p.1
def UnitOr (ti:TI):Prop:=ti.sz≠0∨ti.k= .strct []
def lookK (U:TypeId→TI) (h:Heap) (u v:AV) (ok:Bool) (k:AV→Prop) (tk:TK):Prop:=match tk,u with
 | .map kt e, .mp id=>keyOK (U kt).k v∧UnitOr (U e)∧bindO (h id) fun b=>mpL b fun m=>KeysA (U kt).k m∧k (lookM U e m v ok)
 |_,_=>False
@[congr] theorem lookK_congr {u u' v v'} {ok} {k} {tk} (h1:u=u') (h2:v=v'):lookK U h u v ok k tk=lookK U h u' v' ok k tk:=by grind
@[go_sem↓] theorem lookK_mp (kt e) (id) (v) (ok):lookK U h (.mp id) v ok k (.map kt e)=(keyOK (U kt).k v∧UnitOr (U e)∧bindO (h id) fun b=>mpL b fun m=>KeysA (U kt).k m∧k (lookM U e m v ok)):=rfl
@[go_sem↓] theorem o_lookup (mt) (x y) (ok):vcOp P U ρ h ⟨d, .lookup mt x y ok,t,p,a,g⟩ Q=bindO (ev ρ x) fun u=>bindO (ev ρ y) fun v=>atK (U mt).k (lookK U h u v ok (atH Q h)):=by
 simp only [vcOp,pv,withv_eq,atK]
 congr 1
 funext u
 congr 1
 funext v
 cases (U mt).k with
 |map kt e=>
  cases u with
  |mp id=>
   simp only [lookK]
   congr 2
   cases h id with
   |none=>rfl
   |some b=>cases b<;>rfl
  |_=>rfl
 |_=>rfl
def putK (U:TypeId→TI) (h:Heap) (u v w:AV) (Q:AV→Heap→Prop) (tk:TK):Prop:=match tk,u with
 | .map kt e, .mp id=>keyOK (U kt).k v∧bindO (h id) fun b=>mpL b fun m=>KeysA (U kt).k m∧Q (.v undef) (upd h id (some (.mp (setM m v w))))
 |_,_=>False
@[congr] theorem putK_congr {u u' v v' w w'} {tk} (h1:u=u') (h2:v=v') (h3:w=w'):putK U h u v w Q tk=putK U h u' v' w' Q tk:=by grind
@[go_sem↓] theorem putK_mp (kt e) (id) (v w):putK U h (.mp id) v w Q (.map kt e)=(keyOK (U kt).k v∧bindO (h id) fun b=>mpL b fun m=>KeysA (U kt).k m∧Q (.v undef) (upd h id (some (.mp (setM m v w))))):=rfl
@[go_sem↓] theorem o_mapUpdate (mt) (x y z):vcOp P U ρ h ⟨d, .mapUpdate mt x y z,t,p,a,g⟩ Q=bindO (ev ρ x) fun u=>bindO (ev ρ y) fun v=>bindO (ev ρ z) fun w=>atK (U mt).k (putK U h u v w Q):=by
 simp only [vcOp,withv_eq,atK]
 congr 1
 funext u
 congr 1
 funext v
 congr 1
 funext w
 cases (U mt).k with
 |map kt e=>
  cases u with
  |mp id=>
   simp only [putK]
   congr 1
   cases h id with
   |none=>rfl
   |some b=>cases b<;>rfl
  |_=>rfl
 |_=>rfl
def NewMp (h:Heap) (Q:AV→Heap→Prop):Prop:=∀id,h id=none→Q (.mp id) (upd h id (some (.mp [])))
@[go_sem↓] theorem o_makeMap (mt):vcOp P U ρ h ⟨d, .makeMap mt none,t,p,a,g⟩ Q=NewMp h Q:=by
 simp only [vcOp,roomM,true_and]; rfl
end
def setA (ls:List (List UInt8)):List (AV×AV):=ls.map fun l=>(.s l, .agg [])
theorem getM_set (ls) (l):getM (setA ls) (.s l)=if l∈ls then some (.agg []) else none:=by
 induction ls with
 |nil=>rfl
 |cons x ls ih=>
  simp only [getM,setA,List.map_cons,List.find?_cons,keyE] at ih⊢
  grind
theorem setM_new {ls} {l} (hn:l∉ls):setM (setA ls) (.s l) (.agg [])=setA (ls++ [l]):=by
 unfold setM
 rw [getM_set,if_neg hn]
 simp [setA]
theorem lookM_set (U) (e) (he:(U e).sz=0) (ls) (l):lookM U e (setA ls) (.s l) true= .tup [.agg [], .v (.bool (decide (l∈ls)))]:=by
 simp only [lookM,getM_set,zeroE,he,if_true]
 grind
theorem keysA_set {ls} (h:∀l∈ls,l.length≤maxLen):KeysA .str (setA ls):=fun p hp=>by
 obtain ⟨l,hl,rfl⟩:=List.mem_map.1 hp
 exact h l hl
end Go.Ab

set_option linter.unusedSimpArgs false
set_option linter.unusedVariables false
namespace Go.Ab
open Go
section
variable {P : Program} {f : FuncId} {args : List AV} {h h' : Heap} {Q : AV → Heap → Prop}
theorem Ext.below {c} {w'} (hb:Go.RowKit.Below c.w.heap.size c.w w'):Ext c {c with w:=w'} where
 os:=hb.os
 tape:=hb.tape
 output:=hb.output
 size:=hb.size
 block:=fun b h _=>hb.block b h
 cell:=fun b o h _=>by
  simp only [World.cell?,hb.block b h]
 shape:=fun b cs t fr h=>⟨cs,fr,(hb.block b (lt_of_get h)).trans h,rfl⟩
 steal:=fun _ _ _ h=>h
 obj:=fun _ cs _ h=>⟨rfl,cs,h,rfl⟩
 spare:=fun _ n _ h=>⟨n,h, .inl ⟨rfl,rfl⟩⟩
 mp:=fun _ m h=>⟨rfl,m,h⟩
 ro:=fun _ _ _ h=>⟨rfl,h⟩
theorem Good.below {c} (g:Good c) {w'} (hb:Go.RowKit.Below c.w.heap.size c.w w'):Good {c with w:=w'} where
 fin:=g.fin
 inj:=g.inj
 obj:=fun id cs t h=>by
  obtain ⟨vs,a1,a2,a3⟩:=g.obj id cs t h
  exact ⟨vs,(hb.block _ (lt_of_get a1)).trans a1,a2,fun j hj=>⟨(a3 j hj).1.mono (.below hb),(a3 j hj).2⟩⟩
 spare:=fun id n sz h=>by
  obtain ⟨a0,vs,t,fr,a1,a2⟩:=g.spare id n sz h
  exact ⟨a0,vs,t,fr,(hb.block _ (lt_of_get a1)).trans a1,a2⟩
 mp:=fun id m h=>by
  obtain ⟨es,cl,a1,a2,a3⟩:=g.mp id m h
  exact ⟨es,cl,(hb.block _ (lt_of_get a1)).trans a1,a2,fun i hi hi' =>⟨(a3 i hi hi').1,(a3 i hi hi').2.mono (.below hb)⟩⟩
 keys:=g.keys
 ro:=fun id b vs h=>g.ro_mono (.below hb) h
theorem FnOK.lib {X:AV} (hc:callable P f) (hf:∀c (vs:Array Value),Sub h c.h→Good c→vs.size=args.length→(∀i (hi:i<args.length),Rep c args[i] (vs.getD i undef))→
  Calls P f vs c.w fun e w' =>(∃u,e= .returned u∧∀c',Ext c c'→Rep c' X u)∧Go.RowKit.Below c.w.heap.size c.w w'):FnOK P f args h fun r h' =>r=X∧h' =h:=by
 refine fun c vs hs g h1 h2=> .inl ⟨hc,(hf c vs hs g h1 h2).mono ?_⟩
 rintro e w' ⟨⟨u,rfl,hu⟩,hb⟩
 exact ⟨u,rfl,{c with w:=w'},X,h,rfl,g.below hb, .below hb,hu _ (.below hb),hs,rfl,rfl⟩
def Tab (h:Heap) (b:Nat) (vs:List Value):Prop:=∃id,h id=some (.ro b vs)
theorem Tab.sub {b:Nat} {vs:List Value} (ht:Tab h b vs) (hs:Sub h h'):Tab h' b vs:=let ⟨id,hi⟩:=ht; ⟨id,hs _ _ hi⟩
theorem Tab.keep {b} {vs} {id} (ht:Tab h b vs) (hs:Keep id h h') (hn:∀vs,h id≠some (.ro b vs)):Tab h' b vs:=by
 obtain ⟨j,hj⟩:=ht
 exact ⟨j,hs j _ (by grind) hj⟩
theorem Tab.var {b:Nat} {vs:List Value} {name:String} (ht:Tab h b vs) (hn:P.globalNamed name=some b) {c:Cx} (hs:Sub h c.h) (g:Good c):c.w.var? P name=some vs.toArray:=by
 obtain ⟨id,hi⟩:=ht
 obtain ⟨_,t,fr,h2⟩:=g.ro id b vs (hs _ _ hi)
 grind [World.var?]
end
def tabH (ts:List (Nat×List Value)):Heap:=fun i=>(ts[i]?).map fun p=> .ro p.1 p.2
def cxT (w:World) (ts:List (Nat×List Value)):Cx:=⟨w,fun i=>⟨((ts[i]?).map (·.1)).getD 0,0,none⟩,tabH ts⟩
theorem ownedT (w) (ts) (b o):¬owned (cxT w ts) b o:=by
 rintro ⟨id,k,h,_,h3⟩
 simp only [cxT,tabH,Option.map_eq_some_iff] at h
 obtain ⟨p,_,rfl⟩:=h
 exact h3
theorem goodT (w) (ts) (hd:ts.Pairwise fun p q=>p.1≠q.1) (ht:∀p∈ts,∃(t:TypeId) (fr:Nat×Nat),w.heap[p.1]? =some (.cells p.2.toArray t fr)):Good (cxT w ts) where
 fin:=⟨ts.length,fun id h=>by simp [cxT,tabH,List.getElem?_eq_none h]⟩
 inj:=fun i j k l h1 h2 hne=>by
  simp only [cxT,tabH,Option.map_eq_some_iff] at h1 h2
  obtain ⟨p,hp,rfl⟩:=h1
  obtain ⟨q,hq,rfl⟩:=h2
  simp only [cxT,hp,hq,Option.map_some,Option.getD_some]
  obtain ⟨hi,rfl⟩:=List.getElem?_eq_some_iff.1 hp
  grind [List.pairwise_iff_getElem,Nat.lt_or_gt_of_ne]
 obj:=fun id cs t h=>by
  simp_all [cxT,tabH,Option.map_eq_some_iff]
 spare:=fun id n sz h=>by
  simp_all [cxT,tabH,Option.map_eq_some_iff]
 mp:=fun id m h=>by
  simp_all [cxT,tabH,Option.map_eq_some_iff]
 keys:=fun id m h=>by
  simp_all [cxT,tabH,Option.map_eq_some_iff]
 ro:=fun id b vs h=>by
  simp only [cxT,tabH,Option.map_eq_some_iff] at h
  obtain ⟨p,hp,h⟩:=h
  cases h
  refine ⟨by grind [cxT],ht p (by grind)⟩
theorem FnOK.callsT {P} {f} {args} {b} {vs} {w} {ts} (hc:callable P f) (hf:FnOK P f args (tabH ts) fun r _=>r= .v b) (hd:ts.Pairwise fun p q=>p.1≠q.1)
  (ht:∀p∈ts,∃(t:TypeId) (fr:Nat×Nat),w.heap[p.1]? =some (.cells p.2.toArray t fr)) (hv:vs.size=args.length) (hr:∀i (hi:i<args.length),Rep (cx0 w) args[i] (vs.getD i undef)):
  Calls P f vs w fun e w' =>e= .returned b∧Go.RowKit.Below w.heap.size w w' :=by
 have hE:Ext (cx0 w) (cxT w ts):=⟨rfl,rfl,rfl,Nat.le_refl _,fun _ _ _=>rfl,fun _ _ _ _=>rfl,fun _ cs _ fr h=>⟨cs,fr,h,rfl⟩,fun b o _ h=>(ownedT w ts b o h).elim,
  fun _ _ _ h=>(by cases h),fun _ _ _ h=>(by cases h),fun _ _ h=>(by cases h),fun _ _ _ h=>(by cases h)⟩
 refine ((hf (cxT w ts) vs (fun _ _ h=>h) (goodT w ts hd ht) hv fun i hi=>(hr i hi).mono hE).calls hc).mono ?_
 rintro e w' ⟨u,rfl,c',x,h',rfl,g',hE,hx,hs,rfl⟩
 rw [hx.v_inv]
 exact ⟨rfl,hE.os,hE.tape,hE.output,hE.size,fun k hk=>hE.block k hk fun o=>ownedT w ts k o⟩
end Go.Ab

set_option linter.unusedSimpArgs false
set_option linter.unusedVariables false
namespace Go.Ab
open Go
mutual
def strip:AV→AV
 | .sl xs _=> .sl (stripL xs) .no
 | .agg xs=> .agg (stripL xs)
 | .tup xs=> .tup (stripL xs)
 | .v x=> .v x
 | .s l=> .s l
 | .pe x o=> .pe x o
 | .ptr i o=> .ptr i o
 | .oa i o l=> .oa i o l
 | .ifc t x=> .ifc t x
 | .fn f c=> .fn f c
 | .mp i=> .mp i
 | .ob i o l c s=> .ob i o l c s
def stripL:List AV→List AV
 | []=> []
 |x::r=>strip x::stripL r
end
theorem stripL_length:∀xs:List AV,(stripL xs).length=xs.length
 | []=>rfl
 |x::r=>by simp [stripL,stripL_length r]
theorem stripL_get:∀(xs:List AV) (i:Nat) (h1:i<xs.length) (h2:i<(stripL xs).length),(stripL xs)[i]=strip xs[i]
 |x::r,0,h1,h2=>by rfl
 |x::r,i+1,h1,h2=>by simpa [stripL] using stripL_get r i (by grind) (by grind [stripL])
theorem strip_cells (x):(strip x).cells=match x with| .agg xs=>stripL xs|_=> [strip x]:=by
 cases x<;>simp [strip,AV.cells]
mutual
theorem weak_strip:∀x:AV,Weak x (strip x)
 | .sl xs p=> .deep _ _ p (stripL_length xs).symm (fun i h1 h2=>by
    rw [stripL_get xs i h1 h2,strip_cells]
    have:=weak_stripC xs i h1
    cases hx:xs[i]<;>simp [AV.cells,stripL_length])
   (fun i h1 h2 j h3 h4=>by
    have hw:=weak_stripC xs i h1
    have e:=stripL_get xs i h1 h2
    exact hw (stripL xs)[i] e j h3 h4)
 | .agg xs=> .agg _ _ (stripL_length xs).symm fun i h1 h2=>by rw [stripL_get xs i h1 h2]; exact weak_stripL xs i h1
 | .tup xs=> .tup _ _ (stripL_length xs).symm fun i h1 h2=>by rw [stripL_get xs i h1 h2]; exact weak_stripL xs i h1
 | .v x=> .refl _
 | .s l=> .refl _
 | .pe x o=> .refl _
 | .ptr i o=> .refl _
 | .oa i o l=> .refl _
 | .ifc t x=> .refl _
 | .fn f c=> .refl _
 | .mp i=> .refl _
 | .ob i o l c s=> .refl _
theorem weak_stripL:∀(xs:List AV) (i:Nat) (h:i<xs.length),Weak xs[i] (strip xs[i])
 |x::r,0,h=>weak_strip x
 |x::r,i+1,h=>weak_stripL r i (by simpa using h)
theorem weak_stripC:∀(xs:List AV) (i:Nat) (h:i<xs.length) (y:AV),y=strip xs[i]→∀(j:Nat) (h3:j<xs[i].cells.length) (h4:j<y.cells.length),Weak xs[i].cells[j] y.cells[j]
 |x::r,0,h,y,e,j,h3,h4=>weak_cells x y e j h3 h4
 |x::r,i+1,h,y,e,j,h3,h4=>weak_stripC r i (by simpa using h) y e j h3 h4
theorem weak_cells:∀(x y:AV),y=strip x→∀(j:Nat) (h3:j<x.cells.length) (h4:j<y.cells.length),Weak x.cells[j] y.cells[j]
 | .agg xs,y,e,j,h3,h4=>by
  subst e
  simp only [strip,AV.cells] at h4⊢
  rw [stripL_get xs j h3 h4]
  exact weak_stripL xs j h3
 | .sl xs p,y,e,j,h3,h4=>by
  subst e
  simp only [strip,AV.cells,List.length_singleton] at h3 h4⊢
  obtain rfl:j=0:=by omega
  exact .deep _ _ p (stripL_length xs).symm (fun i h1 h2=>by
    rw [stripL_get xs i h1 h2,strip_cells]
    cases hx:xs[i]<;>simp [AV.cells,stripL_length])
   (fun i h1 h2 j h3 h4=>weak_stripC xs i h1 _ (stripL_get xs i h1 h2) j h3 h4)
 | .tup xs,y,e,j,h3,h4=>by
  subst e
  simp only [strip,AV.cells,List.length_singleton] at h3 h4⊢
  obtain rfl:j=0:=by omega
  exact .tup _ _ (stripL_length xs).symm fun i h1 h2=>by rw [stripL_get xs i h1 h2]; exact weak_stripL xs i h1
 | .v x,y,e,j,h3,h4=>by subst e; exact .refl _
 | .s l,y,e,j,h3,h4=>by subst e; exact .refl _
 | .pe x o,y,e,j,h3,h4=>by subst e; exact .refl _
 | .ptr i o,y,e,j,h3,h4=>by subst e; exact .refl _
 | .oa i o l,y,e,j,h3,h4=>by subst e; exact .refl _
 | .ifc t x,y,e,j,h3,h4=>by subst e; exact .refl _
 | .fn f c,y,e,j,h3,h4=>by subst e; exact .refl _
 | .mp i,y,e,j,h3,h4=>by subst e; exact .refl _
 | .ob i o l c s,y,e,j,h3,h4=>by subst e; exact .refl _
end
section
variable {P : Program} {U : TypeId → TI} {n : Nat} {ρ : Env} {h0 h h' : Heap} {tb : TypeId} {y v : AV} {xs zs : List AV} {Q : AV → Heap → Prop} {f : FuncId} {args : List AV}
theorem FnOK.strip (hf:FnOK P f (stripL args) h Q):FnOK P f args h Q:=hf.weak (stripL_length args).symm fun i h1 h2=>by grind [stripL_get,weak_strip]
def One (xs:List AV):Prop:=∀x∈xs,isAggA x=false
theorem cells_one {x} (h:isAggA x=false):x.cells= [x]:=by cases x<;>first|rfl|(cases h)
theorem One.sized (h:One xs):Sized 1 xs:=fun z hz=>by rw [cells_one (h z hz)]; rfl
theorem One.app (h1:One xs) (h2:One zs):One (xs++zs):=fun x hx=>by
 rcases List.mem_append.1 hx with h|h
 ·exact h1 x h
 ·exact h2 x h
theorem One.take (h1:One xs) (n:Nat):One (xs.take n):=fun x hx=>h1 x (List.mem_of_mem_take hx)
theorem One.drop (h1:One xs) (n:Nat):One (xs.drop n):=fun x hx=>h1 x (List.mem_of_mem_drop hx)
theorem One.map {α:Type} {g:α→AV} (hg:∀a,isAggA (g a)=false) (l:List α):One (l.map g):=fun x hx=>by
 grind
def SeqA (tb:TypeId) (h:Heap) (y:AV) (xs:List AV):Prop:=
 (∃q,y= .sl xs q)∨∃id off cs,y= .oa id off xs.length∧h id=some (.obj cs tb)∧off+xs.length≤cs.length∧(cs.drop off).take xs.length=xs
theorem SeqA.sl (xs) (q):SeqA tb h (.sl xs q) xs:= .inl ⟨q,rfl⟩
theorem SeqA.sub (hb:SeqA tb h y xs) (hs:Sub h h'):SeqA tb h' y xs:=by
 rcases hb with hb|⟨id,off,cs,rfl,h1,h2⟩
 ·exact .inl hb
 ·exact .inr ⟨id,off,cs,rfl,hs _ _ h1,h2⟩
theorem SeqA.len (hb:SeqA tb h y xs) (e:TypeId) (k:AV→Prop):lenK y k (.slice e)=k (.v (.int .i64 xs.length)):=by
 rcases hb with ⟨q,rfl⟩|⟨id,off,cs,rfl,_⟩<;>rfl
theorem SeqA.cells (hb:SeqA tb h y xs):y.cells= [y]:=by
 rcases hb with ⟨q,rfl⟩|⟨id,off,cs,rfl,_⟩<;>rfl
def AtP (U:TypeId→TI) (tb:TypeId) (h:Heap) (p x:AV):Prop:=∀k:AV→Prop,loadA U h tb p k=k x
theorem SeqA.idx (hb:SeqA tb h y xs) (ho:One xs) {m:Int} {x:IntKind} {K:AV→Prop} (j:Nat) (hm:m=j) (hj:j<xs.length) (hz:(U tb).sz=1) (ha:(U tb).k.agg=false)
  (hk:∀p,AtP U tb h p xs[j]→K p):iaddrK U y (.v (.int x m)) K (.slice tb):=by
 subst hm
 have h1:=ho xs[j] (by simp)
 rcases hb with ⟨q,rfl⟩|⟨id,off,cs,rfl,g1,g2,g3⟩
 ·refine (iaddrK_sl ..).mpr ⟨by omega, ?_⟩
  refine IdxE.at j hj (by grind [cells_one]) ?_
  refine hk _ fun k=> ?_
  simp_all [loadA,atA_eq,cells_one,List.length_cons,List.length_nil,Nat.zero_add,and_self,if_true]
 ·refine (iaddrK_oa ..).mpr ⟨by omega,by omega,by omega, ?_⟩
  refine hk _ fun k=> ?_
  have e1:cs[off+j]? =some xs[j]:=by
   grind
  simp only [loadA,g1,bindO_some,objL_eq,hz,Nat.mul_one,Int.toNat_natCast,partA_eq,ha,Br,e1]
  simp
def WrA (tb:TypeId) (h0 h:Heap) (y:AV) (xs:List AV):Prop:=
 Sub h0 h∧((xs= []∧y= .sl [] .full)∨∃id cs,h0 id=none∧y= .oa id 0 xs.length∧h id=some (.obj cs tb)∧xs.length≤cs.length∧cs.take xs.length=xs)
theorem WrA.nil (hs:Sub h0 h):WrA tb h0 h (.sl [] .full) []:=⟨hs, .inl ⟨rfl,rfl⟩⟩
theorem WrA.seq (hw:WrA tb h0 h y xs):SeqA tb h y xs:=by
 obtain ⟨_,⟨rfl,rfl⟩|⟨id,cs,_,rfl,h1,h2,h3⟩⟩:=hw
 ·exact .sl _ _
 ·exact .inr ⟨id,0,cs,rfl,h1,by omega,by grind⟩
theorem WrA.sub (hw:WrA tb h0 h y xs) (hs:Sub h h'):WrA tb h0 h' y xs:=by
 obtain ⟨h1,hw|⟨id,cs,a,e,b,c,d⟩⟩:=hw
 ·exact ⟨h1.trans hs, .inl hw⟩
 ·exact ⟨h1.trans hs, .inr ⟨id,cs,a,e,hs _ _ b,c,d⟩⟩
theorem WrA.base (hw:WrA tb h0 h y xs) {id:Nat} (hid:h id=none) (b:Option Blk):WrA tb (upd h0 id b) (upd h id b) y xs:=by
 obtain ⟨h1,hw⟩:=hw
 have h2:Sub (upd h0 id b) (upd h id b):=fun j k hj=>by
  by_cases e:j=id
  ·grind [upd_same]
  ·rw [upd_other _ _ e] at hj⊢; exact h1 _ _ hj
 rcases hw with hw|⟨i,cs,a,e,c,d⟩
 ·exact ⟨h2, .inl hw⟩
 ·have hne:i≠id:=fun hh=>by subst hh; rw [hid] at c; cases c
  exact ⟨h2, .inr ⟨i,cs,by grind [upd_other],e,by grind [upd_other],d⟩⟩
theorem WrA.less (hw:WrA tb h' h y xs) (hs:Sub h0 h'):WrA tb h0 h y xs:=by
 obtain ⟨h1,hw|⟨i,cs,a,e,c,d⟩⟩:=hw
 ·exact ⟨hs.trans h1, .inl hw⟩
 ·exact ⟨hs.trans h1, .inr ⟨i,cs,hs.none a,e,c,d⟩⟩
theorem WrA.len (hw:WrA tb h0 h y xs) (e:TypeId) (k:AV→Prop):lenK y k (.slice e)=k (.v (.int .i64 xs.length)):=hw.seq.len e k
theorem WrA.idx (hb:WrA tb h0 h y xs) (ho:One xs) {m:Int} {x:IntKind} {K:AV→Prop} (j:Nat) (hm:m=j) (hj:j<xs.length) (hz:(U tb).sz=1) (ha:(U tb).k.agg=false)
  (hk:∀p,AtP U tb h p xs[j]→K p):iaddrK U y (.v (.int x m)) K (.slice tb):=hb.seq.idx ho j hm hj hz ha hk
theorem WrA.cut (hw:WrA tb h0 h y xs) {hi:Operand} {m:Int} {x:IntKind} {K:AV→Prop} (j:Nat) (hm:ev ρ hi=some (.v (.int x m))) (hj:m=j) (hl:j≤xs.length) (hz:(U tb).sz=1)
  (hk:∀z,WrA tb h0 h z (xs.take j)→K z):sliceK U ρ y none (some hi) none K (.slice tb):=by
 subst hj
 have hs:=hw.1
 obtain ⟨_,⟨rfl,rfl⟩|⟨id,cs,h1,rfl,h2,h3,h4⟩⟩:=hw
 ·rw [sliceK_none,optA_some,hm]
  refine ⟨by omega, ?_⟩
  have:j=0:=by grind
  subst this
  refine ⟨by omega,by simp, ?_⟩
  exact hk _ (.nil hs)
 ·rw [sliceK_oa]
  refine ⟨by omega,fun _=>hz, ?_⟩
  simp only [optA_none,optA_some,hm,bindO_some,intA_eq]
  refine ⟨by omega,by omega,by omega, ?_⟩
  have e:(xs.take j).length=j:=by grind
  have:=hk (.oa id 0 (xs.take j).length) ⟨hs, .inr ⟨id,cs,h1,rfl,h2,by omega,by grind⟩⟩
  rw [e] at this
  simpa using this
theorem WrA.from (hw:WrA tb h0 h y xs) (ho:One xs) {lo:Operand} {m:Int} {x:IntKind} {K:AV→Prop} (j:Nat) (hm:ev ρ lo=some (.v (.int x m))) (hj:m=j) (hl:j≤xs.length) (hz:(U tb).sz=1)
  (hk:∀z,SeqA tb h z (xs.drop j)→K z):sliceK U ρ y (some lo) none none K (.slice tb):=by
 subst hj
 obtain ⟨_,⟨rfl,rfl⟩|⟨id,cs,h1,rfl,h2,h3,h4⟩⟩:=hw
 ·have:j=0:=by grind
  subst this
  rw [sliceK_from,hm]
  refine ⟨by omega,by simp [Sized], ?_⟩
  exact ⟨by omega,by simp,hk _ (.sl _ _)⟩
 ·rw [sliceK_oa]
  refine ⟨by omega,fun _=>hz, ?_⟩
  simp only [optA_none,optA_some,hm,bindO_some,intA_eq]
  refine ⟨by omega,by omega,by omega, ?_⟩
  simp only [Int.toNat_natCast,hz,Nat.mul_one,Nat.zero_add]
  have e:(xs.drop j).length=xs.length - j:=by simp
  have:=hk (.oa id j (xs.drop j).length) (.inr ⟨id,j,cs,rfl,h2,by omega,by grind [List.drop_take]⟩)
  simpa using this
theorem WrA.app (hw:WrA tb h0 h y xs) (ho:One xs) (hoz:One zs) (hz:(U tb).sz=1) (hb:(U tb).bytes≠0) (hf:fit (U tb).zero 1) (hn:isAggA (U tb).zero=false) (hsrc:∀k:List AV→Prop,k zs→srcA U tb h v k)
  (hlen:(xs.length+zs.length)*(U tb).bytes≤140737488355328) (hk:∀y' h',WrA tb h0 h' y' (xs++zs)→Q y' h'):apK U h y v Q (.slice tb):=by
 have hs:=hw.1
 have one:Sized (U tb).sz zs:=by rw [hz]; exact hoz.sized
 obtain ⟨_,⟨rfl,rfl⟩|⟨id,cs,h1,rfl,h2,h3,h4⟩⟩:=hw
 ·refine (apK_full ..).mpr ⟨by omega,hb,hsrc _ ⟨by simp [Sized],one,by omega,fun hn' => ?_,fun hn' => ?_⟩⟩
  ·subst hn'
   exact hk _ _ (.nil hs)
  ·refine .oa hz hf hn hoz fun id k hid=> ?_
   refine hk _ _ ⟨hs.new hid _, .inr ⟨id,_,hs.none hid, ?_,upd_same .., ?_, ?_⟩⟩
   ·simp
   ·simp
   ·simp
 ·refine ⟨by omega,hb,hz,hsrc _ ⟨by grind,hoz,by omega, ?_⟩⟩
  rw [h2]
  refine ⟨by omega, ?_,hf,hn,fun hle=> ?_,fun id' k hid=> ?_⟩
  ·rw [List.drop_zero,h4]; exact ho
  ·have hsub:Sub h0 (upd h id (some (.obj (over cs (0+xs.length) zs) tb))):=fun j b hj=>by
    by_cases e:j=id
    ·grind
    ·rw [upd_other _ _ e]; exact hs _ _ hj
   have ho' :(over cs (0+xs.length) zs).length=cs.length:=over_length (by omega)
   refine hk _ _ ⟨hsub, .inr ⟨id,_,h1,by simp,upd_same ..,by grind, ?_⟩⟩
   rw [over,Nat.zero_add,h4,List.length_append,List.take_append_of_le_length (by simp)]
   grind
  ·refine hk _ _ ⟨hs.new hid _, .inr ⟨id',_,hs.none hid,by simp,upd_same .., ?_, ?_⟩⟩
   ·grind
   grind
theorem WrA.put (hw:WrA tb h0 h y xs) (hz:(U tb).sz=1) (j:Nat) (hj:j<xs.length) {K:AV→Prop} {x:IntKind} (hk:∀id cs,y= .oa id 0 xs.length→h0 id=none→h id=some (.obj cs tb)→xs.length≤cs.length→cs.take xs.length=xs→K (.ptr id j)):iaddrK U y (.v (.int x (j:Nat))) K (.slice tb):=by
 obtain ⟨hs,⟨rfl,rfl⟩|⟨id,cs,h1,rfl,h2,h3,h4⟩⟩:=hw
 ·grind
 ·refine (iaddrK_oa ..).mpr ⟨by omega,by omega,by omega, ?_⟩
  rw [hz,Nat.zero_add,Nat.mul_one]
  exact hk id cs rfl h1 h2 h3 h4
end
end Go.Ab

set_option linter.unusedSimpArgs false
set_option linter.unusedVariables false
namespace Go.Ab
open Go
def hm2 (i:Nat) (a:Blk) (j:Nat) (b:Blk):Heap:=upd (hm1 i a) j (some b)
theorem Sub.hm2 {h} {i j} {a b} (h1:h i=some a) (h2:h j=some b):Sub (hm2 i a j b) h:=fun k c hk=>by
 unfold Ab.hm2 at hk
 by_cases e:k=j
 ·grind [upd_same]
 ·rw [upd_other _ _ e] at hk; exact Sub.hm1 h1 k c hk
theorem hm2_snd (i) (a) (j) (b):hm2 i a j b j=some b:=upd_same ..
theorem hm2_fst {i} (a) {j} (b) (h:i≠j):hm2 i a j b i=some a:=by
 simp_all [hm2,upd_other,hm1_same]
theorem ne_upd {h:Heap} {i j:Nat} {b} (e:upd h i (some b) j=none):j≠i:=fun hh=>by
 subst hh; rw [upd_same] at e; cases e
theorem Sub.put {h g} (hs:Sub h g) {i} (hi:h i=Option.none) (x):Sub h (Ab.upd g i x):=fun k c hk=>by
 by_cases e:k=i
 ·grind
 ·rw [upd_other _ _ e]; exact hs k c hk
theorem Acc.put {U} {e} {h h'} {y} {xs} (ha:Acc U e h h' y xs) {id} (hid:h id=Option.none) {cs} {t} (hob:h' id=some (.obj cs t)) (x):Acc U e h (Ab.upd h' id x) y xs:=by
 obtain ⟨h1,rfl|⟨k,i1,rfl,i2⟩⟩:=ha
 ·exact ⟨h1.put hid x, .inl rfl⟩
 ·refine ⟨h1.put hid x, .inr ⟨k,i1,rfl, ?_⟩⟩
  grind [upd_other]
end Go.Ab

namespace Go.Ab
attribute [go_sem] Int.natCast_zero Int.ofNat_zero Int.natCast_one Int.cast_ofNat_Int bne_self_eq_false beq_self_eq_true Bool.not_true Bool.not_false
attribute [go_sem] Nat.reduceLT Nat.reduceEqDiff Nat.reduceAdd Nat.reduceLeDiff Nat.reduceMul Nat.reduceSub Int.reduceBEq Int.reduceBNe
attribute [go_sem ↓] reduceIte
end Go.Ab
