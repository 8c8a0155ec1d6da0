/- The law CasesStays: pack 3 of its texts. -/
import Derived.Below
import Derived.Lib.ItoaLen
import Derived.Lib.Join
import Derived.Lib.Small
import Derived.Laws.Externs
import Derived.Lib.Overlaps
import Derived.Test.YtmlhcdeamjkpjaaGreatDoorProg
import Derived.KernelRfl
import Derived.Test.YtmlhcdeamjkpjaaGreatDoorPk1
import Derived.Test.YtmlhcdeamjkpjaaGreatDoorPk2
set_option linter.unusedSimpArgs false
set_option linter.unusedVariables false
namespace Go.Ab
open Go
section
variable {P : Program} {U : TypeId → TI} {n : Nat} {ρ : Env} {h0 h h' : Heap} {tb : TypeId} {y v : AV} {l m : List UInt8} {Q : AV → Heap → Prop}
def Wr (tb:TypeId) (h0 h:Heap) (y:AV) (l:List UInt8):Prop:=
 Sub h0 h∧((l= []∧y= .sl [] .full)∨∃id cs,h0 id=none∧y= .oa id 0 l.length∧h id=some (.obj cs tb)∧l.length≤cs.length∧cs.take l.length=l.map byteA)
theorem Wr.bytes (hw:Wr tb h0 h y l):Bytes tb h y l:=by
 obtain ⟨_,⟨rfl,rfl⟩|⟨id,cs,_,rfl,h1,h2,h3⟩⟩:=hw
 ·exact .nil _
 ·exact .oa h1 (by omega) (by simpa using h3)
theorem Wr.nil (hs:Sub h0 h):Wr tb h0 h (.sl [] .full) []:=⟨hs, .inl ⟨rfl,rfl⟩⟩
theorem Wr.sub (hw:Wr tb h0 h y l) (hs:Sub h h'):Wr tb h0 h' y l:=by
 obtain ⟨h1,hw|⟨id,cs,a,e,b,c,d⟩⟩:=hw
 ·exact ⟨h1.trans hs, .inl hw⟩
 ·exact ⟨h1.trans hs, .inr ⟨id,cs,a,e,hs _ _ b,c,d⟩⟩
theorem Wr.app (hw:Wr tb h0 h y l) (hz:(U tb).sz=1) (hb:(U tb).bytes=1) (hf:(U tb).zero=byteA 0) (hsrc:∀k:List AV→Prop,k (m.map byteA)→srcA U tb h v k)
  (hlen:l.length+m.length≤140737488355328) (hk:∀y' h',Wr tb h0 h' y' (l++m)→Q y' h'):apK U h y v Q (.slice tb):=by
 have hs:=hw.1
 have one:Sized (U tb).sz (m.map byteA):=by rw [hz,Sized_bytes]; trivial
 obtain ⟨_,⟨rfl,rfl⟩|⟨id,cs,h1,rfl,h2,h3,h4⟩⟩:=hw
 ·refine (apK_full ..).mpr ⟨by rw [hz]; decide,by rw [hb]; decide,hsrc _ ⟨by simp [Sized],one,by rw [hb]; simpa using hlen,fun hn=> ?_,fun hn=> ?_⟩⟩
  ·have:m= []:=by simpa using hn
   subst this
   exact hk _ _ (.nil hs)
  ·refine .oa hz (by rw [hf]; simp [fit,byteA,Value.oneCell']) (by rw [hf]; rfl) (noAgg_bytes m) fun id k hid=> ?_
   refine hk _ _ ⟨hs.new hid _, .inr ⟨id,_,hs.none hid, ?_,upd_same .., ?_, ?_⟩⟩
   ·simp
   ·simp
   ·simp [List.take_append_of_le_length]
 ·refine ⟨by rw [hz]; decide,by rw [hb]; decide,hz,hsrc _ ⟨by rw [←hz]; exact one,noAgg_bytes m,by rw [hb]; simpa using hlen, ?_⟩⟩
  rw [h2]
  refine ⟨by omega, ?_,by rw [hf]; simp [fit,byteA,Value.oneCell'],by rw [hf]; rfl,fun hle=> ?_,fun id' k hid=> ?_⟩
  ·rw [List.drop_zero,h4]; exact noAgg_bytes l
  ·rw [List.length_map] at hle⊢
   have hsub:Sub h0 (upd h id (some (.obj (over cs (0+l.length) (m.map byteA)) tb))):=fun j b hj=>by
    by_cases e:j=id
    ·subst e; rw [h1] at hj; cases hj
    ·rw [upd_other _ _ e]; exact hs _ _ hj
   have ho:(over cs (0+l.length) (m.map byteA)).length=cs.length:=over_length (by simpa using hle)
   refine hk _ _ ⟨hsub, .inr ⟨id,_,h1,by rw [List.length_append],upd_same ..,by rw [ho,List.length_append]; omega, ?_⟩⟩
   rw [over,Nat.zero_add,h4,List.map_append,List.length_append,List.take_append_of_le_length (by simp),←List.map_append]
   exact List.take_of_length_le (by simp)
  ·rw [List.length_map]
   refine hk _ _ ⟨hs.new hid _, .inr ⟨id',_,hs.none hid,by rw [List.length_append],upd_same .., ?_, ?_⟩⟩
   ·rw [List.drop_zero,h4]; simp
   ·rw [List.drop_zero,h4,←List.map_append,List.take_append_of_le_length (by simp)]
    exact List.take_of_length_le (by simp)
theorem Wr.put (hw:Wr tb h0 h y l) (hz:(U tb).sz=1) (j:Nat) (hj:j<l.length) {K:AV→Prop} {x:IntKind} (hk:∀id cs,y= .oa id 0 l.length→h0 id=none→h id=some (.obj cs tb)→l.length≤cs.length→cs.take l.length=l.map byteA→K (.ptr id j)):iaddrK U y (.v (.int x (j:Nat))) K (.slice tb):=by
 obtain ⟨hs,⟨rfl,rfl⟩|⟨id,cs,h1,rfl,h2,h3,h4⟩⟩:=hw
 ·cases hj
 ·refine (iaddrK_oa ..).mpr ⟨by rw [hz]; decide,by omega,by omega, ?_⟩
  rw [hz,Nat.zero_add,Nat.mul_one]
  exact hk id cs rfl h1 h2 h3 h4
end
end Go.Ab

set_option linter.unusedSimpArgs false
set_option linter.unusedVariables false
namespace Go.Ab
open Go
section
variable {U : TypeId → TI} {ty : TypeId} {K : AV → Prop}
end
end Go.Ab

set_option linter.unusedSimpArgs false
set_option linter.unusedVariables false
namespace Go.Ab
open Go
section
variable {P : Program} {U : TypeId → TI} {n : Nat} {ρ : Env} {h : Heap}
section
variable (all : List Oper) (bs : List Bool) (r : List Oper) (K : Env → Heap → Prop)
end
theorem FnOK.of_wp {f:FuncId} {fn:Func} {c:Code} {args:List AV} {Q:AV→Heap→Prop} (hU:∀t,AgreeT P U t) (hf:P.funcs[f]? =some fn) (hb:fn.body=some c)
  (hn : (fn.name == "runtime.NumGoroutine") = false) (m : Nat) (hm' : fn.ntmps = m) (rs : List ResultVar) (hr : fn.results.toList = rs) (hl : args.length ≤ m)
  (hk:WP P m c (envOf args) h (bodyK U rs Q)):FnOK P f args h Q:=by
 subst hm'; subst hr
 exact FnOK.of_wp0 hU hf hb hn hl fun _=>hk
end
end Go.Ab

set_option linter.unusedSimpArgs false
set_option linter.unusedVariables false
namespace Go.Ab
open Go
section
variable {P : Program} {U : TypeId → TI} {n : Nat} {ρ : Env} {h : Heap}
def KCut (I:Env→Heap→Prop) (K:Exit→Env→Heap→Prop):Exit→Env→Heap→Prop:=KSeq I K
theorem KCut.at {I:Env→Heap→Prop} {K:Exit→Env→Heap→Prop} (hi:I ρ h):KCut I K .normal ρ h:=hi
theorem WP.cut {c d:Code} {K:Exit→Env→Heap→Prop} (I:Env→Heap→Prop) (hc:WP P n c ρ h (KCut I K)) (hd:∀ρ h,I ρ h→WP P n d ρ h K):WP P n (.seq c d) ρ h K:=
 WP.seq (hc.weaken fun e ρ h hk=>by
  cases e with
  |normal=>exact hd ρ h hk
  |_=>exact hk)
theorem WP.vc (hU:∀t,AgreeT P U t) (hm:P.follows .mixedOrders=true) {c:Code} {K:Exit→Env→Heap→Prop} (hk:vcCode P U n c ρ h K):WP P n c ρ h K:=vcCode_sound hU hm c ρ h K hk
def KNext (P:Program) (n:Nat) (d:Code) (K:Exit→Env→Heap→Prop):Exit→Env→Heap→Prop:=KSeq (WP P n d · · K) K
@[go_sem↓] theorem KNext_normal (d:Code) (K:Exit→Env→Heap→Prop):KNext P n d K .normal ρ h=WP P n d ρ h K:=rfl
@[go_sem↓] theorem KNext_ret (d:Code) (K:Exit→Env→Heap→Prop):KNext P n d K .ret ρ h=K .ret ρ h:=rfl
theorem WP.one (hU:∀t,AgreeT P U t) (hm:P.follows .mixedOrders=true) {c d:Code} {K:Exit→Env→Heap→Prop} (hk:vcCode P U n c ρ h (KNext P n d K)):WP P n (.seq c d) ρ h K:=WP.seq (vcCode_sound hU hm c ρ h _ hk)
end
end Go.Ab

set_option linter.unusedSimpArgs false
set_option linter.unusedVariables false
namespace Go.Ab
open Go
section
variable {P : Program} {U : TypeId → TI} {n : Nat} {ρ : Env} {h : Heap}
variable {d : Option Tmp} {t : TypeId} {p : String} {a : Array Edge} {g : Option (Nat × Bool)} {Q : AV → Heap → Prop} {k : AV → Prop}
@[go_sem] theorem atK_map (x y:TypeId) (k:TK→Prop):atK (.map x y) k=k (.map x y):=rfl
@[go_sem] theorem cells_mp (i:Nat):AV.cells (.mp i)= [.mp i]:=rfl
@[go_sem] theorem fit_mp (i m:Nat):fit (.mp i) m=(m=1):=rfl
@[go_sem] theorem keyOK_s (l:List UInt8):keyOK .str (.s l)=(l.length≤maxLen):=rfl
def mpL (b:Blk) (f:List (AV×AV)→Prop):Prop:=match b with
 | .mp m=>f m
 |_=>False
@[congr] theorem mpL_congr {b b' :Blk} {f:List (AV×AV)→Prop} (e:b=b'):mpL b f=mpL b' f:=by rw [e]
@[go_sem↓] theorem mpL_eq (m:List (AV×AV)) (f:List (AV×AV)→Prop):mpL (.mp m) f=f m:=rfl
def KeysA (tk:TK) (m:List (AV×AV)):Prop:=∀p∈m,keyOK tk p.1
def UnitOr (ti:TI):Prop:=ti.sz≠0∨ti.k= .strct []
def lookK (U:TypeId→TI) (h:Heap) (u v:AV) (ok:Bool) (k:AV→Prop) (tk:TK):Prop:=match tk,u with
 | .map kt e, .mp id=>keyOK (U kt).k v∧UnitOr (U e)∧bindO (h id) fun b=>mpL b fun m=>KeysA (U kt).k m∧k (lookM U e m v ok)
 |_,_=>False
@[congr] theorem lookK_congr {u u' v v' :AV} {ok:Bool} {k:AV→Prop} {tk:TK} (h1:u=u') (h2:v=v'):lookK U h u v ok k tk=lookK U h u' v' ok k tk:=by rw [h1,h2]
@[go_sem↓] theorem lookK_mp (kt e:TypeId) (id:Nat) (v:AV) (ok:Bool):lookK U h (.mp id) v ok k (.map kt e)=(keyOK (U kt).k v∧UnitOr (U e)∧bindO (h id) fun b=>mpL b fun m=>KeysA (U kt).k m∧k (lookM U e m v ok)):=rfl
@[go_sem↓] theorem o_lookup (mt:TypeId) (x y:Operand) (ok:Bool):vcOp P U ρ h ⟨d, .lookup mt x y ok,t,p,a,g⟩ Q=bindO (ev ρ x) fun u=>bindO (ev ρ y) fun v=>atK (U mt).k (lookK U h u v ok (atH Q h)):=by
 simp only [vcOp,pv,withv_eq,atK]
 congr 1
 funext u
 congr 1
 funext v
 cases (U mt).k with
 |map kt e=>
  cases u with
  |mp id=>
   simp only [lookK]
   congr 2
   cases h id with
   |none=>rfl
   |some b=>cases b<;>rfl
  |_=>rfl
 |_=>rfl
def putK (U:TypeId→TI) (h:Heap) (u v w:AV) (Q:AV→Heap→Prop) (tk:TK):Prop:=match tk,u with
 | .map kt e, .mp id=>keyOK (U kt).k v∧bindO (h id) fun b=>mpL b fun m=>KeysA (U kt).k m∧Q (.v undef) (upd h id (some (.mp (setM m v w))))
 |_,_=>False
@[congr] theorem putK_congr {u u' v v' w w' :AV} {tk:TK} (h1:u=u') (h2:v=v') (h3:w=w'):putK U h u v w Q tk=putK U h u' v' w' Q tk:=by rw [h1,h2,h3]
@[go_sem↓] theorem putK_mp (kt e:TypeId) (id:Nat) (v w:AV):putK U h (.mp id) v w Q (.map kt e)=(keyOK (U kt).k v∧bindO (h id) fun b=>mpL b fun m=>KeysA (U kt).k m∧Q (.v undef) (upd h id (some (.mp (setM m v w))))):=rfl
@[go_sem↓] theorem o_mapUpdate (mt:TypeId) (x y z:Operand):vcOp P U ρ h ⟨d, .mapUpdate mt x y z,t,p,a,g⟩ Q=bindO (ev ρ x) fun u=>bindO (ev ρ y) fun v=>bindO (ev ρ z) fun w=>atK (U mt).k (putK U h u v w Q):=by
 simp only [vcOp,withv_eq,atK]
 congr 1
 funext u
 congr 1
 funext v
 congr 1
 funext w
 cases (U mt).k with
 |map kt e=>
  cases u with
  |mp id=>
   simp only [putK]
   congr 1
   cases h id with
   |none=>rfl
   |some b=>cases b<;>rfl
  |_=>rfl
 |_=>rfl
def NewMp (h:Heap) (Q:AV→Heap→Prop):Prop:=∀id,h id=none→Q (.mp id) (upd h id (some (.mp [])))
@[go_sem↓] theorem o_makeMap (mt:TypeId):vcOp P U ρ h ⟨d, .makeMap mt none,t,p,a,g⟩ Q=NewMp h Q:=by
 simp only [vcOp,roomM,true_and]; rfl
end
def setA (ls:List (List UInt8)):List (AV×AV):=ls.map fun l=>(.s l, .agg [])
theorem getM_set (ls:List (List UInt8)) (l:List UInt8):getM (setA ls) (.s l)=if l∈ls then some (.agg []) else none:=by
 induction ls with
 |nil=>rfl
 |cons x ls ih=>
  simp only [getM,setA,List.map_cons,List.find?_cons,keyE] at ih⊢
  by_cases e:x=l
  ·subst e; simp
  ·have:(x==l)=false:=by simpa using e
   rw [this]
   simp only
   rw [ih]
   simp [Ne.symm e]
theorem setM_new {ls:List (List UInt8)} {l:List UInt8} (hn:l∉ls):setM (setA ls) (.s l) (.agg [])=setA (ls++ [l]):=by
 unfold setM
 rw [getM_set,if_neg hn]
 simp [setA]
theorem lookM_set (U:TypeId→TI) (e:TypeId) (he:(U e).sz=0) (ls:List (List UInt8)) (l:List UInt8):lookM U e (setA ls) (.s l) true= .tup [.agg [], .v (.bool (decide (l∈ls)))]:=by
 simp only [lookM,getM_set,zeroE,he,if_true]
 by_cases h:l∈ls
 ·simp [h]
 ·simp [h]
theorem keysA_set {ls:List (List UInt8)} (h:∀l∈ls,l.length≤maxLen):KeysA .str (setA ls):=fun p hp=>by
 obtain ⟨l,hl,rfl⟩:=List.mem_map.1 hp
 exact h l hl
end Go.Ab

set_option linter.unusedSimpArgs false
set_option linter.unusedVariables false
namespace Go.Ab
open Go
section
variable {P : Program} {f : FuncId} {args : List AV} {h h' : Heap} {Q : AV → Heap → Prop}
theorem Ext.below {c:Cx} {w' :World} (hb:Go.RowKit.Below c.w.heap.size c.w w'):Ext c {c with w:=w'} where
 os:=hb.os
 tape:=hb.tape
 output:=hb.output
 size:=hb.size
 block:=fun b h _=>hb.block b h
 cell:=fun b o h _=>by
  show w'.cell? _=_
  simp only [World.cell?,hb.block b h]
 shape:=fun b cs t fr h=>⟨cs,fr,(hb.block b (lt_of_get h)).trans h,rfl⟩
 steal:=fun _ _ _ h=>h
 obj:=fun _ cs _ h=>⟨rfl,cs,h,rfl⟩
 spare:=fun _ n _ h=>⟨n,h, .inl ⟨rfl,rfl⟩⟩
 mp:=fun _ m h=>⟨rfl,m,h⟩
 ro:=fun _ _ _ h=>⟨rfl,h⟩
theorem Good.below {c:Cx} (g:Good c) {w' :World} (hb:Go.RowKit.Below c.w.heap.size c.w w'):Good {c with w:=w'} where
 fin:=g.fin
 inj:=g.inj
 obj:=fun id cs t h=>by
  obtain ⟨vs,a1,a2,a3⟩:=g.obj id cs t h
  exact ⟨vs,(hb.block _ (lt_of_get a1)).trans a1,a2,fun j hj=>⟨(a3 j hj).1.mono (.below hb),(a3 j hj).2⟩⟩
 spare:=fun id n sz h=>by
  obtain ⟨a0,vs,t,fr,a1,a2⟩:=g.spare id n sz h
  exact ⟨a0,vs,t,fr,(hb.block _ (lt_of_get a1)).trans a1,a2⟩
 mp:=fun id m h=>by
  obtain ⟨es,cl,a1,a2,a3⟩:=g.mp id m h
  exact ⟨es,cl,(hb.block _ (lt_of_get a1)).trans a1,a2,fun i hi hi' =>⟨(a3 i hi hi').1,(a3 i hi hi').2.mono (.below hb)⟩⟩
 keys:=g.keys
 ro:=fun id b vs h=>g.ro_mono (.below hb) h
theorem FnOK.lib {X:AV} (hc:callable P f) (hf:∀c (vs:Array Value),Sub h c.h→Good c→vs.size=args.length→(∀i (hi:i<args.length),Rep c args[i] (vs.getD i undef))→
  Calls P f vs c.w fun e w' =>(∃u,e= .returned u∧∀c',Ext c c'→Rep c' X u)∧Go.RowKit.Below c.w.heap.size c.w w'):FnOK P f args h fun r h' =>r=X∧h' =h:=by
 refine fun c vs hs g h1 h2=> .inl ⟨hc,(hf c vs hs g h1 h2).mono ?_⟩
 rintro e w' ⟨⟨u,rfl,hu⟩,hb⟩
 exact ⟨u,rfl,{c with w:=w'},X,h,rfl,g.below hb, .below hb,hu _ (.below hb),hs,rfl,rfl⟩
def Tab (h:Heap) (b:Nat) (vs:List Value):Prop:=∃id,h id=some (.ro b vs)
theorem Tab.sub {b:Nat} {vs:List Value} (ht:Tab h b vs) (hs:Sub h h'):Tab h' b vs:=let ⟨id,hi⟩:=ht; ⟨id,hs _ _ hi⟩
theorem Tab.keep {b:Nat} {vs:List Value} {id:Nat} (ht:Tab h b vs) (hs:Keep id h h') (hn:∀vs,h id≠some (.ro b vs)):Tab h' b vs:=by
 obtain ⟨j,hj⟩:=ht
 exact ⟨j,hs j _ (fun e=>by subst e; exact hn _ hj) hj⟩
end
def tabH (ts:List (Nat×List Value)):Heap:=fun i=>(ts[i]?).map fun p=> .ro p.1 p.2
def cxT (w:World) (ts:List (Nat×List Value)):Cx:=⟨w,fun i=>⟨((ts[i]?).map (·.1)).getD 0,0,none⟩,tabH ts⟩
theorem ownedT (w:World) (ts:List (Nat×List Value)) (b o:Nat):¬owned (cxT w ts) b o:=by
 rintro ⟨id,k,h,_,h3⟩
 simp only [cxT,tabH,Option.map_eq_some_iff] at h
 obtain ⟨p,_,rfl⟩:=h
 exact h3
theorem goodT (w:World) (ts:List (Nat×List Value)) (hd:ts.Pairwise fun p q=>p.1≠q.1) (ht:∀p∈ts,∃(t:TypeId) (fr:Nat×Nat),w.heap[p.1]? =some (.cells p.2.toArray t fr)):Good (cxT w ts) where
 fin:=⟨ts.length,fun id h=>by simp [cxT,tabH,List.getElem?_eq_none h]⟩
 inj:=fun i j k l h1 h2 hne=>by
  simp only [cxT,tabH,Option.map_eq_some_iff] at h1 h2
  obtain ⟨p,hp,rfl⟩:=h1
  obtain ⟨q,hq,rfl⟩:=h2
  simp only [cxT,hp,hq,Option.map_some,Option.getD_some]
  obtain ⟨hi,rfl⟩:=List.getElem?_eq_some_iff.1 hp
  obtain ⟨hj,rfl⟩:=List.getElem?_eq_some_iff.1 hq
  rw [List.pairwise_iff_getElem] at hd
  rcases Nat.lt_or_gt_of_ne hne with h|h
  ·exact hd i j hi hj h
  ·exact fun e=>hd j i hj hi h e.symm
 obj:=fun id cs t h=>by
  simp only [cxT,tabH,Option.map_eq_some_iff] at h
  obtain ⟨p,_,h⟩:=h; cases h
 spare:=fun id n sz h=>by
  simp only [cxT,tabH,Option.map_eq_some_iff] at h
  obtain ⟨p,_,h⟩:=h; cases h
 mp:=fun id m h=>by
  simp only [cxT,tabH,Option.map_eq_some_iff] at h
  obtain ⟨p,_,h⟩:=h; cases h
 keys:=fun id m h=>by
  simp only [cxT,tabH,Option.map_eq_some_iff] at h
  obtain ⟨p,_,h⟩:=h; cases h
 ro:=fun id b vs h=>by
  simp only [cxT,tabH,Option.map_eq_some_iff] at h
  obtain ⟨p,hp,h⟩:=h
  cases h
  refine ⟨by simp [cxT,hp],ht p (List.mem_of_getElem? hp)⟩
theorem FnOK.callsT {P:Program} {f:FuncId} {args:List AV} {b:Value} {vs:Array Value} {w:World} {ts:List (Nat×List Value)} (hc:callable P f) (hf:FnOK P f args (tabH ts) fun r _=>r= .v b) (hd:ts.Pairwise fun p q=>p.1≠q.1)
  (ht:∀p∈ts,∃(t:TypeId) (fr:Nat×Nat),w.heap[p.1]? =some (.cells p.2.toArray t fr)) (hv:vs.size=args.length) (hr:∀i (hi:i<args.length),Rep (cx0 w) args[i] (vs.getD i undef)):
  Calls P f vs w fun e w' =>e= .returned b∧Go.RowKit.Below w.heap.size w w' :=by
 have hE:Ext (cx0 w) (cxT w ts):=⟨rfl,rfl,rfl,Nat.le_refl _,fun _ _ _=>rfl,fun _ _ _ _=>rfl,fun _ cs _ fr h=>⟨cs,fr,h,rfl⟩,fun b o _ h=>(ownedT w ts b o h).elim,
  fun _ _ _ h=>(by cases h),fun _ _ _ h=>(by cases h),fun _ _ h=>(by cases h),fun _ _ _ h=>(by cases h)⟩
 refine ((hf (cxT w ts) vs (fun _ _ h=>h) (goodT w ts hd ht) hv fun i hi=>(hr i hi).mono hE).calls hc).mono ?_
 rintro e w' ⟨u,rfl,c',x,h',rfl,g',hE,hx,hs,rfl⟩
 rw [hx.v_inv]
 exact ⟨rfl,hE.os,hE.tape,hE.output,hE.size,fun k hk=>hE.block k hk fun o=>ownedT w ts k o⟩
end Go.Ab

set_option linter.unusedSimpArgs false
set_option linter.unusedVariables false
namespace Go.Ab
open Go
mutual
def strip:AV→AV
 | .sl xs _=> .sl (stripL xs) .no
 | .agg xs=> .agg (stripL xs)
 | .tup xs=> .tup (stripL xs)
 | .v x=> .v x
 | .s l=> .s l
 | .pe x o=> .pe x o
 | .ptr i o=> .ptr i o
 | .oa i o l=> .oa i o l
 | .ifc t x=> .ifc t x
 | .fn f c=> .fn f c
 | .mp i=> .mp i
 | .ob i o l c s=> .ob i o l c s
def stripL:List AV→List AV
 | []=> []
 |x::r=>strip x::stripL r
end
theorem stripL_length:∀xs:List AV,(stripL xs).length=xs.length
 | []=>rfl
 |x::r=>by simp [stripL,stripL_length r]
theorem stripL_get:∀(xs:List AV) (i:Nat) (h1:i<xs.length) (h2:i<(stripL xs).length),(stripL xs)[i]=strip xs[i]
 |x::r,0,h1,h2=>by simp [stripL]
 |x::r,i+1,h1,h2=>by simpa [stripL] using stripL_get r i (by simpa using h1) (by simpa [stripL] using h2)
theorem strip_cells (x:AV):(strip x).cells=match x with| .agg xs=>stripL xs|_=> [strip x]:=by
 cases x<;>simp [strip,AV.cells]
mutual
theorem weak_strip:∀x:AV,Weak x (strip x)
 | .sl xs p=> .deep _ _ p (stripL_length xs).symm (fun i h1 h2=>by
    rw [stripL_get xs i h1 h2,strip_cells]
    have:=weak_stripC xs i h1
    cases hx:xs[i]<;>simp [AV.cells,stripL_length])
   (fun i h1 h2 j h3 h4=>by
    have hw:=weak_stripC xs i h1
    have e:=stripL_get xs i h1 h2
    exact hw (stripL xs)[i] e j h3 h4)
 | .agg xs=> .agg _ _ (stripL_length xs).symm fun i h1 h2=>by rw [stripL_get xs i h1 h2]; exact weak_stripL xs i h1
 | .tup xs=> .tup _ _ (stripL_length xs).symm fun i h1 h2=>by rw [stripL_get xs i h1 h2]; exact weak_stripL xs i h1
 | .v x=> .refl _
 | .s l=> .refl _
 | .pe x o=> .refl _
 | .ptr i o=> .refl _
 | .oa i o l=> .refl _
 | .ifc t x=> .refl _
 | .fn f c=> .refl _
 | .mp i=> .refl _
 | .ob i o l c s=> .refl _
theorem weak_stripL:∀(xs:List AV) (i:Nat) (h:i<xs.length),Weak xs[i] (strip xs[i])
 |x::r,0,h=>weak_strip x
 |x::r,i+1,h=>weak_stripL r i (by simpa using h)
theorem weak_stripC:∀(xs:List AV) (i:Nat) (h:i<xs.length) (y:AV),y=strip xs[i]→∀(j:Nat) (h3:j<xs[i].cells.length) (h4:j<y.cells.length),Weak xs[i].cells[j] y.cells[j]
 |x::r,0,h,y,e,j,h3,h4=>weak_cells x y e j h3 h4
 |x::r,i+1,h,y,e,j,h3,h4=>weak_stripC r i (by simpa using h) y e j h3 h4
theorem weak_cells:∀(x y:AV),y=strip x→∀(j:Nat) (h3:j<x.cells.length) (h4:j<y.cells.length),Weak x.cells[j] y.cells[j]
 | .agg xs,y,e,j,h3,h4=>by
  subst e
  simp only [strip,AV.cells] at h4⊢
  rw [stripL_get xs j h3 h4]
  exact weak_stripL xs j h3
 | .sl xs p,y,e,j,h3,h4=>by
  subst e
  simp only [strip,AV.cells,List.length_singleton] at h3 h4⊢
  obtain rfl:j=0:=by omega
  exact .deep _ _ p (stripL_length xs).symm (fun i h1 h2=>by
    rw [stripL_get xs i h1 h2,strip_cells]
    cases hx:xs[i]<;>simp [AV.cells,stripL_length])
   (fun i h1 h2 j h3 h4=>weak_stripC xs i h1 _ (stripL_get xs i h1 h2) j h3 h4)
 | .tup xs,y,e,j,h3,h4=>by
  subst e
  simp only [strip,AV.cells,List.length_singleton] at h3 h4⊢
  obtain rfl:j=0:=by omega
  exact .tup _ _ (stripL_length xs).symm fun i h1 h2=>by rw [stripL_get xs i h1 h2]; exact weak_stripL xs i h1
 | .v x,y,e,j,h3,h4=>by subst e; exact .refl _
 | .s l,y,e,j,h3,h4=>by subst e; exact .refl _
 | .pe x o,y,e,j,h3,h4=>by subst e; exact .refl _
 | .ptr i o,y,e,j,h3,h4=>by subst e; exact .refl _
 | .oa i o l,y,e,j,h3,h4=>by subst e; exact .refl _
 | .ifc t x,y,e,j,h3,h4=>by subst e; exact .refl _
 | .fn f c,y,e,j,h3,h4=>by subst e; exact .refl _
 | .mp i,y,e,j,h3,h4=>by subst e; exact .refl _
 | .ob i o l c s,y,e,j,h3,h4=>by subst e; exact .refl _
end
section
variable {P : Program} {U : TypeId → TI} {n : Nat} {ρ : Env} {h0 h h' : Heap} {tb : TypeId} {y v : AV} {xs zs : List AV} {Q : AV → Heap → Prop} {f : FuncId} {args : List AV}
theorem FnOK.strip (hf:FnOK P f (stripL args) h Q):FnOK P f args h Q:=hf.weak (stripL_length args).symm fun i h1 h2=>by rw [stripL_get args i h1 h2]; exact weak_strip _
def One (xs:List AV):Prop:=∀x∈xs,isAggA x=false
theorem cells_one {x:AV} (h:isAggA x=false):x.cells= [x]:=by cases x<;>first|rfl|(cases h)
theorem One.sized (h:One xs):Sized 1 xs:=fun z hz=>by rw [cells_one (h z hz)]; rfl
theorem One.app (h1:One xs) (h2:One zs):One (xs++zs):=fun x hx=>by
 rcases List.mem_append.1 hx with h|h
 ·exact h1 x h
 ·exact h2 x h
theorem One.take (h1:One xs) (n:Nat):One (xs.take n):=fun x hx=>h1 x (List.mem_of_mem_take hx)
theorem One.drop (h1:One xs) (n:Nat):One (xs.drop n):=fun x hx=>h1 x (List.mem_of_mem_drop hx)
theorem One.map {α:Type} {g:α→AV} (hg:∀a,isAggA (g a)=false) (l:List α):One (l.map g):=fun x hx=>by
 obtain ⟨a,_,rfl⟩:=List.mem_map.1 hx
 exact hg a
def SeqA (tb:TypeId) (h:Heap) (y:AV) (xs:List AV):Prop:=
 (∃q,y= .sl xs q)∨∃id off cs,y= .oa id off xs.length∧h id=some (.obj cs tb)∧off+xs.length≤cs.length∧(cs.drop off).take xs.length=xs
theorem SeqA.sl (xs:List AV) (q:Perm):SeqA tb h (.sl xs q) xs:= .inl ⟨q,rfl⟩
theorem SeqA.sub (hb:SeqA tb h y xs) (hs:Sub h h'):SeqA tb h' y xs:=by
 rcases hb with hb|⟨id,off,cs,rfl,h1,h2⟩
 ·exact .inl hb
 ·exact .inr ⟨id,off,cs,rfl,hs _ _ h1,h2⟩
theorem SeqA.len (hb:SeqA tb h y xs) (e:TypeId) (k:AV→Prop):lenK y k (.slice e)=k (.v (.int .i64 xs.length)):=by
 rcases hb with ⟨q,rfl⟩|⟨id,off,cs,rfl,_⟩<;>rfl
theorem SeqA.cells (hb:SeqA tb h y xs):y.cells= [y]:=by
 rcases hb with ⟨q,rfl⟩|⟨id,off,cs,rfl,_⟩<;>rfl
def AtP (U:TypeId→TI) (tb:TypeId) (h:Heap) (p x:AV):Prop:=∀k:AV→Prop,loadA U h tb p k=k x
theorem SeqA.idx (hb:SeqA tb h y xs) (ho:One xs) {m:Int} {x:IntKind} {K:AV→Prop} (j:Nat) (hm:m=j) (hj:j<xs.length) (hz:(U tb).sz=1) (ha:(U tb).k.agg=false)
  (hk:∀p,AtP U tb h p xs[j]→K p):iaddrK U y (.v (.int x m)) K (.slice tb):=by
 subst hm
 have h1:=ho xs[j] (List.getElem_mem hj)
 rcases hb with ⟨q,rfl⟩|⟨id,off,cs,rfl,g1,g2,g3⟩
 ·refine (iaddrK_sl ..).mpr ⟨by rw [hz]; decide, ?_⟩
  refine IdxE.at j hj (by rw [hz,cells_one h1]; rfl) ?_
  refine hk _ fun k=> ?_
  simp only [loadA,atA_eq,ha,hz,cells_one h1,h1,List.length_cons,List.length_nil,Nat.zero_add,and_self,if_true]
 ·refine (iaddrK_oa ..).mpr ⟨by rw [hz]; decide,by omega,by omega, ?_⟩
  refine hk _ fun k=> ?_
  have e1:cs[off+j]? =some xs[j]:=by
   have:=congrArg (fun q=>q[j]?) g3
   simp only [List.getElem?_take,hj,if_true,List.getElem?_drop,List.getElem?_eq_getElem hj] at this
   exact this
  simp only [loadA,g1,bindO_some,objL_eq,hz,Nat.mul_one,Int.toNat_natCast,partA_eq,ha,Br,e1]
  simp
def WrA (tb:TypeId) (h0 h:Heap) (y:AV) (xs:List AV):Prop:=
 Sub h0 h∧((xs= []∧y= .sl [] .full)∨∃id cs,h0 id=none∧y= .oa id 0 xs.length∧h id=some (.obj cs tb)∧xs.length≤cs.length∧cs.take xs.length=xs)
theorem WrA.nil (hs:Sub h0 h):WrA tb h0 h (.sl [] .full) []:=⟨hs, .inl ⟨rfl,rfl⟩⟩
theorem WrA.seq (hw:WrA tb h0 h y xs):SeqA tb h y xs:=by
 obtain ⟨_,⟨rfl,rfl⟩|⟨id,cs,_,rfl,h1,h2,h3⟩⟩:=hw
 ·exact .sl _ _
 ·exact .inr ⟨id,0,cs,rfl,h1,by omega,by simpa using h3⟩
theorem WrA.sub (hw:WrA tb h0 h y xs) (hs:Sub h h'):WrA tb h0 h' y xs:=by
 obtain ⟨h1,hw|⟨id,cs,a,e,b,c,d⟩⟩:=hw
 ·exact ⟨h1.trans hs, .inl hw⟩
 ·exact ⟨h1.trans hs, .inr ⟨id,cs,a,e,hs _ _ b,c,d⟩⟩
theorem WrA.base (hw:WrA tb h0 h y xs) {id:Nat} (hid:h id=none) (b:Option Blk):WrA tb (upd h0 id b) (upd h id b) y xs:=by
 obtain ⟨h1,hw⟩:=hw
 have h2:Sub (upd h0 id b) (upd h id b):=fun j k hj=>by
  by_cases e:j=id
  ·subst e; rw [upd_same] at hj⊢; exact hj
  ·rw [upd_other _ _ e] at hj⊢; exact h1 _ _ hj
 rcases hw with hw|⟨i,cs,a,e,c,d⟩
 ·exact ⟨h2, .inl hw⟩
 ·have hne:i≠id:=fun hh=>by subst hh; rw [hid] at c; cases c
  exact ⟨h2, .inr ⟨i,cs,by rw [upd_other _ _ hne]; exact a,e,by rw [upd_other _ _ hne]; exact c,d⟩⟩
theorem WrA.less (hw:WrA tb h' h y xs) (hs:Sub h0 h'):WrA tb h0 h y xs:=by
 obtain ⟨h1,hw|⟨i,cs,a,e,c,d⟩⟩:=hw
 ·exact ⟨hs.trans h1, .inl hw⟩
 ·exact ⟨hs.trans h1, .inr ⟨i,cs,hs.none a,e,c,d⟩⟩
theorem WrA.len (hw:WrA tb h0 h y xs) (e:TypeId) (k:AV→Prop):lenK y k (.slice e)=k (.v (.int .i64 xs.length)):=hw.seq.len e k
theorem WrA.idx (hb:WrA tb h0 h y xs) (ho:One xs) {m:Int} {x:IntKind} {K:AV→Prop} (j:Nat) (hm:m=j) (hj:j<xs.length) (hz:(U tb).sz=1) (ha:(U tb).k.agg=false)
  (hk:∀p,AtP U tb h p xs[j]→K p):iaddrK U y (.v (.int x m)) K (.slice tb):=hb.seq.idx ho j hm hj hz ha hk
theorem WrA.cut (hw:WrA tb h0 h y xs) {hi:Operand} {m:Int} {x:IntKind} {K:AV→Prop} (j:Nat) (hm:ev ρ hi=some (.v (.int x m))) (hj:m=j) (hl:j≤xs.length) (hz:(U tb).sz=1)
  (hk:∀z,WrA tb h0 h z (xs.take j)→K z):sliceK U ρ y none (some hi) none K (.slice tb):=by
 subst hj
 have hs:=hw.1
 obtain ⟨_,⟨rfl,rfl⟩|⟨id,cs,h1,rfl,h2,h3,h4⟩⟩:=hw
 ·rw [sliceK_none,optA_some,hm]
  refine ⟨by rw [hz]; decide, ?_⟩
  simp only [bindO_some,intA_eq,Option.isSome_some,cutL_ft,Int.toNat_natCast]
  have:j=0:=by simpa using hl
  subst this
  refine ⟨by omega,by simp, ?_⟩
  exact hk _ (.nil hs)
 ·rw [sliceK_oa]
  refine ⟨by rw [hz]; decide,fun _=>hz, ?_⟩
  simp only [optA_none,optA_some,hm,bindO_some,intA_eq]
  refine ⟨by omega,by omega,by omega, ?_⟩
  simp only [Int.toNat_natCast,hz,Nat.mul_one]
  have e:(xs.take j).length=j:=by simp; omega
  have:=hk (.oa id 0 (xs.take j).length) ⟨hs, .inr ⟨id,cs,h1,rfl,h2,by omega,by rw [e,←h4,List.take_take,Nat.min_eq_left hl]⟩⟩
  rw [e] at this
  simpa using this
theorem WrA.from (hw:WrA tb h0 h y xs) (ho:One xs) {lo:Operand} {m:Int} {x:IntKind} {K:AV→Prop} (j:Nat) (hm:ev ρ lo=some (.v (.int x m))) (hj:m=j) (hl:j≤xs.length) (hz:(U tb).sz=1)
  (hk:∀z,SeqA tb h z (xs.drop j)→K z):sliceK U ρ y (some lo) none none K (.slice tb):=by
 subst hj
 obtain ⟨_,⟨rfl,rfl⟩|⟨id,cs,h1,rfl,h2,h3,h4⟩⟩:=hw
 ·have:j=0:=by simpa using hl
  subst this
  rw [sliceK_from,hm]
  refine ⟨by rw [hz]; decide,by simp [Sized], ?_⟩
  simp only [bindO_some,intA_eq,KV_eq]
  exact ⟨by omega,by simp,hk _ (.sl _ _)⟩
 ·rw [sliceK_oa]
  refine ⟨by rw [hz]; decide,fun _=>hz, ?_⟩
  simp only [optA_none,optA_some,hm,bindO_some,intA_eq]
  refine ⟨by omega,by omega,by omega, ?_⟩
  simp only [Int.toNat_natCast,hz,Nat.mul_one,Nat.zero_add]
  have e:(xs.drop j).length=xs.length - j:=by simp
  have:=hk (.oa id j (xs.drop j).length) (.inr ⟨id,j,cs,rfl,h2,by omega,by rw [e,←List.drop_take,h4]⟩)
  rw [e] at this
  simpa using this
theorem WrA.app (hw:WrA tb h0 h y xs) (ho:One xs) (hoz:One zs) (hz:(U tb).sz=1) (hb:(U tb).bytes≠0) (hf:fit (U tb).zero 1) (hn:isAggA (U tb).zero=false) (hsrc:∀k:List AV→Prop,k zs→srcA U tb h v k)
  (hlen:(xs.length+zs.length)*(U tb).bytes≤140737488355328) (hk:∀y' h',WrA tb h0 h' y' (xs++zs)→Q y' h'):apK U h y v Q (.slice tb):=by
 have hs:=hw.1
 have one:Sized (U tb).sz zs:=by rw [hz]; exact hoz.sized
 obtain ⟨_,⟨rfl,rfl⟩|⟨id,cs,h1,rfl,h2,h3,h4⟩⟩:=hw
 ·refine (apK_full ..).mpr ⟨by rw [hz]; decide,hb,hsrc _ ⟨by simp [Sized],one,by simpa using hlen,fun hn' => ?_,fun hn' => ?_⟩⟩
  ·subst hn'
   exact hk _ _ (.nil hs)
  ·refine .oa hz hf hn hoz fun id k hid=> ?_
   refine hk _ _ ⟨hs.new hid _, .inr ⟨id,_,hs.none hid, ?_,upd_same .., ?_, ?_⟩⟩
   ·simp
   ·simp
   ·simp [List.take_append_of_le_length]
 ·refine ⟨by rw [hz]; decide,hb,hz,hsrc _ ⟨by rw [←hz]; exact one,hoz,by simpa using hlen, ?_⟩⟩
  rw [h2]
  refine ⟨by omega, ?_,hf,hn,fun hle=> ?_,fun id' k hid=> ?_⟩
  ·rw [List.drop_zero,h4]; exact ho
  ·have hsub:Sub h0 (upd h id (some (.obj (over cs (0+xs.length) zs) tb))):=fun j b hj=>by
    by_cases e:j=id
    ·subst e; rw [h1] at hj; cases hj
    ·rw [upd_other _ _ e]; exact hs _ _ hj
   have ho' :(over cs (0+xs.length) zs).length=cs.length:=over_length (by omega)
   refine hk _ _ ⟨hsub, .inr ⟨id,_,h1,by rw [List.length_append],upd_same ..,by rw [ho',List.length_append]; omega, ?_⟩⟩
   rw [over,Nat.zero_add,h4,List.length_append,List.take_append_of_le_length (by simp)]
   exact List.take_of_length_le (by simp)
  ·refine hk _ _ ⟨hs.new hid _, .inr ⟨id',_,hs.none hid,by rw [List.length_append],upd_same .., ?_, ?_⟩⟩
   ·rw [List.drop_zero,h4]; simp
   ·rw [List.drop_zero,h4,List.take_append_of_le_length (by simp)]
    exact List.take_of_length_le (by simp)
theorem WrA.put (hw:WrA tb h0 h y xs) (hz:(U tb).sz=1) (j:Nat) (hj:j<xs.length) {K:AV→Prop} {x:IntKind} (hk:∀id cs,y= .oa id 0 xs.length→h0 id=none→h id=some (.obj cs tb)→xs.length≤cs.length→cs.take xs.length=xs→K (.ptr id j)):iaddrK U y (.v (.int x (j:Nat))) K (.slice tb):=by
 obtain ⟨hs,⟨rfl,rfl⟩|⟨id,cs,h1,rfl,h2,h3,h4⟩⟩:=hw
 ·cases hj
 ·refine (iaddrK_oa ..).mpr ⟨by rw [hz]; decide,by omega,by omega, ?_⟩
  rw [hz,Nat.zero_add,Nat.mul_one]
  exact hk id cs rfl h1 h2 h3 h4
end
end Go.Ab

set_option linter.unusedVariables false
namespace Go.Bf
open Go Go.Ab
abbrev Txt:=List UInt8
structure AttrD where
 cat:Int
 name:Txt
 must:Bool
structure ValD where
 kind:Int
 n:Int
 s:Txt
structure MatchD where
 attr:AttrD
 op:Int
 val:ValD
structure NodeD where
 op:Int
 val:ValD
 attr:AttrD
structure OblD where
 on:Int
 kind:Int
 arg:Txt
abbrev TgtD:=List (List (List MatchD))
structure RuleD where
 id:Txt
 deny:Bool
 tgt:TgtD
 cond:List NodeD
 obls:List OblD
inductive PolD where
 |mk (id:Txt) (set:Bool) (alg:Int) (tgt:TgtD) (rules:List RuleD) (kids:List PolD) (obls:List OblD)
def attrA (a:AttrD):AV:= .agg [.v (.int .i64 a.cat), .s a.name, .v (.bool a.must)]
def valA (v:ValD):AV:= .agg [.v (.int .i64 v.kind), .v (.int .i64 v.n), .s v.s]
def matchA (m:MatchD):AV:= .agg [.v (.int .i64 m.attr.cat), .s m.attr.name, .v (.bool m.attr.must), .v (.int .i64 m.op), .v (.int .i64 m.val.kind), .v (.int .i64 m.val.n), .s m.val.s]
def nodeA (m:NodeD):AV:= .agg [.v (.int .i64 m.op), .v (.int .i64 m.val.kind), .v (.int .i64 m.val.n), .s m.val.s, .v (.int .i64 m.attr.cat), .s m.attr.name, .v (.bool m.attr.must)]
def boolA (b:Bool):AV:= .v (.bool b)
def oblA (o:OblD):AV:= .agg [.v (.int .i64 o.on), .v (.int .i64 o.kind), .s o.arg]
def allA (l:List MatchD):AV:= .sl (l.map matchA) .no
def anyA (l:List (List MatchD)):AV:= .sl (l.map allA) .no
def tgtA (t:TgtD):AV:= .sl (t.map anyA) .no
def condA (l:List NodeD):AV:= .sl (l.map nodeA) .no
def oblsA (l:List OblD):AV:= .sl (l.map oblA) .no
def ruleA (r:RuleD):AV:= .agg [.s r.id, .v (.bool r.deny),tgtA r.tgt,condA r.cond,oblsA r.obls]
mutual
def polA:PolD→AV
 | .mk id set alg tgt rules kids obls=> .agg [.s id, .v (.bool set), .v (.int .i64 alg),tgtA tgt, .sl (rules.map ruleA) .no, .sl (kidsA kids) .no,oblsA obls]
def kidsA:List PolD→List AV
 | []=> []
 |k::r=>polA k::kidsA r
end
theorem kidsA_eq:∀l:List PolD,kidsA l=l.map polA
 | []=>rfl
 |k::r=>by simp [kidsA,kidsA_eq r]
def ltr (c:UInt8):Bool:=decide (97≤(c.toNat:Int)) && decide ((c.toNat:Int)≤122)
def dgt (c:UInt8):Bool:=decide (48≤(c.toNat:Int)) && decide ((c.toNat:Int)≤57)
def chOK (c:UInt8) (i:Nat):Bool:=ltr c||(decide (i≠0) && (dgt c||(c.toNat:Int)==95))
def chsOK (l:Txt):Bool:=l.zipIdx.all fun p=>chOK p.1 p.2
def nameOK (l:Txt):Bool:=chsOK l && decide (1≤l.length) && decide (l.length≤16)
def attrOK (a:AttrD):Bool:=decide (1≤a.cat) && decide (a.cat≤4) && nameOK a.name
def valOK (v:ValD):Bool:=
 if v.kind=1 then (v.n==0||v.n==1) && v.s== []
 else if v.kind=2 then v.s== []
 else if v.kind=3 then v.n==0 && decide (v.s.length≤64)
 else if v.kind=4 then decide (0≤v.n) && decide (v.n≤1099511627776) && v.s== []
 else if v.kind=5 then v.n==0 && nameOK v.s
 else false
def matchOK (m:MatchD):Bool:=attrOK m.attr && decide (1≤m.op) && decide (m.op≤3) && valOK m.val
def manyE (n:Nat):Int:=if n=0 then 1 else if n>8 then 6 else 0
def firstE {α:Type} (f:α→Int):List α→Int
 | []=>0
 |x::r=>if f x=0 then firstE f r else f x
def allE (l:List MatchD):Int:=if manyE l.length=0 then (if l.all matchOK then 0 else 1) else manyE l.length
def anyE (l:List (List MatchD)):Int:=if manyE l.length=0 then firstE allE l else manyE l.length
def tgtE (t:TgtD):Int:=if t.length>8 then 6 else firstE anyE t
def wantsD (op:Int):Option (List Bool):=
 if op=1∨op=2 then some []
 else if op=3∨op=4 then some [true]
 else if op=5 then some [true,false]
 else if op=11 then some [false]
 else if 6≤op∧op≤13 then some [false,false]
 else none
def zeroV (v:ValD):Bool:=v.kind==0 && (v.n==0 && v.s== [])
def zeroAt (a:AttrD):Bool:=a.cat==0 && (a.name== [] && a.must==false)
def fieldsOK (n:NodeD):Bool:=
 if n.op=1 then valOK n.val && zeroAt n.attr
 else if n.op=2 then attrOK n.attr && zeroV n.val
 else zeroV n.val && zeroAt n.attr
def stepD (st:List Bool) (n:NodeD):Option (List Bool):=match wantsD n.op with
 |none=>none
 |some w=>if fieldsOK n=true∧w.length≤st.length∧st.drop (st.length - w.length)=w then some (st.take (st.length - w.length)++ [n.op==2]) else none
def stepsD (st:List Bool):List NodeD→Option (List Bool)
 | []=>some st
 |n::r=>match stepD st n with
  |none=>none
  |some st' =>stepsD st' r
def exprE (l:List NodeD):Int:=if l.length>32 then 6 else match stepsD [] l with
 |none=>1
 |some st=>if l= []∨st= [false] then 0 else 1
def oblOK (o:OblD):Bool:=decide (1≤o.on) && decide (o.on≤2) && decide (1≤o.kind) && decide (o.kind≤4) && nameOK o.arg
def oblsE (l:List OblD):Int:=if l.length>8 then 6 else if l.all oblOK then 0 else 1
structure MetD where
 met:List Txt
 rules:Nat
inductive Went where
 |bad (e:Int)
 |ok (m:MetD)
def meetD (m:MetD) (s:Txt):Option MetD:=if s∉m.met∧nameOK s=true then some ⟨m.met++ [s],m.rules⟩ else none
def Went.err:Went→Int
 | .bad e=>e
 | .ok _=>0
def need (e:Int) (w:Went):Went:=if e=0 then w else .bad e
def ruleW (m:MetD) (r:RuleD):Went:=match meetD m r.id with
 |none=> .bad 1
 |some m=>if m.rules+1>64 then .bad 6 else need (tgtE r.tgt) (need (exprE r.cond) (need (oblsE r.obls) (.ok ⟨m.met,m.rules+1⟩)))
def rulesW (m:MetD):List RuleD→Went
 | []=> .ok m
 |r::l=>match ruleW m r with
  | .bad e=> .bad e
  | .ok m=>rulesW m l
def headW (m:MetD) (id:Txt) (set:Bool) (alg:Int) (tgt:TgtD) (nr nk:Nat) (obls:List OblD):Went:=match meetD m id with
 |none=> .bad 1
 |some m=>if alg<1∨alg>6 then .bad 1
  else if set=true∧nr>0∨set=false∧(nk>0∨alg=4) then .bad 1
  else need (tgtE tgt) (need (oblsE obls) (if nr>16∨nk>16 then .bad 6 else .ok m))
mutual
def polW (m:MetD) (d:Nat):PolD→Went
 | .mk id set alg tgt rules kids obls=>
  if d>4 then .bad 6 else match headW m id set alg tgt rules.length kids.length obls with
  | .bad e=> .bad e
  | .ok m=>match rulesW m rules with
   | .bad e=> .bad e
   | .ok m=>kidsW m (d+1) kids
def kidsW (m:MetD) (d:Nat):List PolD→Went
 | []=> .ok m
 |k::r=>match polW m d k with
  | .bad e=> .bad e
  | .ok m=>kidsW m d r
end
def rightE (p:PolD):Int:=(polW ⟨[],0⟩ 1 p).err
def hexD (n:Nat):UInt8:=if n<10 then UInt8.ofNat (48+n) else UInt8.ofNat (87+n)
def oddB (c:UInt8):Bool:=decide ((c.toNat:Int)<32)||decide (126<(c.toNat:Int))||(c.toNat:Int)==34||(c.toNat:Int)==92
def quoteB (c:UInt8):Txt:=if oddB c then [92,hexD (c.toNat / 16),hexD (c.toNat % 16)] else [c]
def quoteT (l:Txt):Txt:= [34]++(l.map quoteB).flatten++ [34]
def valT (v:ValD):Txt:=
 if v.kind=1 then Lib.formatBool (v.n==1) else if v.kind=4 then [64]++Lib.itoa v.n else if v.kind=5 then [35]++v.s else if v.kind=3 then quoteT v.s else Lib.itoa v.n
end Go.Bf

set_option linter.unusedSimpArgs false
set_option linter.unusedVariables false
namespace Go.Bf
open Go Go.Ab
theorem zipIdx_take_succ {α:Type} (l:List α) (i:Nat) (h:i<l.length):(l.take (i+1)).zipIdx=(l.take i).zipIdx++ [(l[i],i)]:=by
 rw [List.take_succ_eq_append_getElem h,List.zipIdx_append]
 simp [Nat.min_eq_left (Nat.le_of_lt h)]
theorem chsOK_succ (l:Txt) (i:Nat) (h:i<l.length):chsOK (l.take (i+1))=(chsOK (l.take i) && chOK l[i] i):=by
 simp [chsOK,zipIdx_take_succ l i h]
theorem chsOK_bad (l:Txt) (i:Nat) (h:i<l.length) (hb:chOK l[i] i=false):chsOK l=false:=by
 rw [chsOK,List.all_eq_false]
 exact ⟨(l[i],i),by rw [List.mk_mem_zipIdx_iff_getElem?]; exact List.getElem?_eq_getElem h,by simp [hb]⟩
theorem chCases (c:UInt8):
  (decide (97≤(c.toNat:Int))=true∧decide ((c.toNat:Int)≤122)=true∧decide (48≤(c.toNat:Int))=true∧decide ((c.toNat:Int)≤57)=false∧((c.toNat:Int)==95)=false)∨
  (decide (97≤(c.toNat:Int))=false∧decide ((c.toNat:Int)≤122)=true∧decide (48≤(c.toNat:Int))=true∧decide ((c.toNat:Int)≤57)=true∧((c.toNat:Int)==95)=false)∨
  (decide (97≤(c.toNat:Int))=false∧decide ((c.toNat:Int)≤122)=true∧decide (48≤(c.toNat:Int))=true∧decide ((c.toNat:Int)≤57)=false∧((c.toNat:Int)==95)=true)∨
  (decide (97≤(c.toNat:Int))=false∧decide ((c.toNat:Int)≤122)=true∧decide (48≤(c.toNat:Int))=false∧decide ((c.toNat:Int)≤57)=true∧((c.toNat:Int)==95)=false)∨
  (decide (97≤(c.toNat:Int))=false∧decide ((c.toNat:Int)≤122)=true∧decide (48≤(c.toNat:Int))=true∧decide ((c.toNat:Int)≤57)=false∧((c.toNat:Int)==95)=false)∨
  (decide (97≤(c.toNat:Int))=true∧decide ((c.toNat:Int)≤122)=false∧decide (48≤(c.toNat:Int))=true∧decide ((c.toNat:Int)≤57)=false∧((c.toNat:Int)==95)=false):=by
 simp only [decide_eq_true_eq,decide_eq_false_iff_not,beq_iff_eq,beq_eq_false_iff_ne,ne_eq]
 omega
theorem firstE_take {α:Type} {f:α→Int} {l:List α} {i:Nat} (h:i<l.length) (h0:firstE f (l.take i)=0) (h1:f l[i]=0):firstE f (l.take (i+1))=0:=by
 rw [List.take_succ_eq_append_getElem h]
 generalize l.take i=a at h0
 induction a with
 |nil=>simp [firstE,h1]
 |cons x r ih=>
  simp only [firstE] at h0
  split at h0
  ·rename_i hx
   simp only [List.cons_append,firstE,hx,if_true]
   exact ih h0
  ·rename_i hx; exact (hx h0).elim
theorem firstE_at {α:Type} {f:α→Int} {l:List α} {i:Nat} (h:i<l.length) (h0:firstE f (l.take i)=0) (h1:f l[i]≠0):firstE f l=f l[i]:=by
 induction l generalizing i with
 |nil=>cases h
 |cons x r ih=>
  cases i with
  |zero=>simp only [List.getElem_cons_zero] at h1⊢; simp [firstE,h1]
  |succ i=>
   simp only [List.take_succ_cons,firstE] at h0
   split at h0
   ·rename_i hx
    simp only [firstE,hx,if_true,List.getElem_cons_succ]
    exact ih (by simpa using h) h0 (by simpa using h1)
   ·rename_i hx; exact (hx h0).elim
theorem need_bad {e x:Int} {w:Went} (h:need e w= .bad x) (hw:w= .bad x→x≠0):x≠0:=by
 unfold need at h
 split at h
 ·exact hw h
 ·cases h; assumption
theorem ruleW_bad {m:MetD} {r:RuleD} {e:Int} (h:ruleW m r= .bad e):e≠0:=by
 unfold ruleW at h
 split at h
 ·cases h; decide
 ·split at h
  ·cases h; decide
  ·exact need_bad h fun h=>need_bad h fun h=>need_bad h fun h=>by cases h
theorem headW_bad {m:MetD} {id:Txt} {set:Bool} {alg:Int} {tgt:TgtD} {nr nk:Nat} {obls:List OblD} {e:Int} (h:headW m id set alg tgt nr nk obls= .bad e):e≠0:=by
 unfold headW at h
 split at h
 ·cases h; decide
 ·split at h
  ·cases h; decide
  ·split at h
   ·cases h; decide
   ·exact need_bad h fun h=>need_bad h fun h=>by
     split at h
     ·cases h; decide
     ·cases h
theorem rulesW_split (m:MetD):∀(l:List RuleD) (i:Nat),rulesW m l=(match rulesW m (l.take i) with
  | .bad e=> .bad e
  | .ok m1=>rulesW m1 (l.drop i))
 | [],i=>by simp [rulesW]
 |r::l,0=>by simp [rulesW]
 |r::l,i+1=>by
  simp only [List.take_succ_cons,List.drop_succ_cons,rulesW]
  cases ruleW m r with
  |bad e=>rfl
  |ok m1=>simp only; exact rulesW_split m1 l i
theorem rulesW_next {m m1:MetD} {l:List RuleD} {i:Nat} (hi:i<l.length) (h:rulesW m (l.take i)= .ok m1):rulesW m (l.take (i+1))=ruleW m1 l[i]:=by
 rw [rulesW_split m _ i,List.take_take,Nat.min_eq_left (by omega),h,List.take_succ_eq_append_getElem hi,List.drop_append_of_le_length (by simp; omega),List.drop_of_length_le (by simp; omega)]
 simp only [List.nil_append,rulesW]
 cases ruleW m1 l[i]<;>rfl
theorem rulesW_stop {m m1:MetD} {l:List RuleD} {i:Nat} {e:Int} (hi:i<l.length) (h:rulesW m (l.take i)= .ok m1) (hr:ruleW m1 l[i]= .bad e):rulesW m l= .bad e:=by
 rw [rulesW_split m l (i+1),rulesW_next hi h,hr]
theorem kidsW_split (m:MetD) (d:Nat):∀(l:List PolD) (i:Nat),kidsW m d l=(match kidsW m d (l.take i) with
  | .bad e=> .bad e
  | .ok m1=>kidsW m1 d (l.drop i))
 | [],i=>by simp [kidsW]
 |r::l,0=>by simp [kidsW]
 |r::l,i+1=>by
  simp only [List.take_succ_cons,List.drop_succ_cons,kidsW]
  cases polW m d r with
  |bad e=>rfl
  |ok m1=>simp only; exact kidsW_split m1 d l i
theorem kidsW_next {m m1:MetD} {d:Nat} {l:List PolD} {i:Nat} (hi:i<l.length) (h:kidsW m d (l.take i)= .ok m1):kidsW m d (l.take (i+1))=polW m1 d l[i]:=by
 rw [kidsW_split m d _ i,List.take_take,Nat.min_eq_left (by omega),h,List.take_succ_eq_append_getElem hi,List.drop_append_of_le_length (by simp; omega),List.drop_of_length_le (by simp; omega)]
 simp only [List.nil_append,kidsW]
 cases polW m1 d l[i]<;>rfl
theorem kidsW_stop {m m1:MetD} {d:Nat} {l:List PolD} {i:Nat} {e:Int} (hi:i<l.length) (h:kidsW m d (l.take i)= .ok m1) (hr:polW m1 d l[i]= .bad e):kidsW m d l= .bad e:=by
 rw [kidsW_split m d l (i+1),kidsW_next hi h,hr]
end Go.Bf

set_option linter.unusedSimpArgs false
set_option linter.unusedVariables false
namespace Go.Bf
open Go Go.Ab
theorem oblsE_zero {l:List OblD} (h:oblsE l=0):l.length≤8∧∀o∈l,oblOK o=true:=by
 unfold oblsE at h
 split at h
 ·cases h
 ·rename_i h8
  split at h
  ·rename_i ha; exact ⟨by omega,fun o ho=>List.all_eq_true.1 ha o ho⟩
  ·cases h
theorem manyE_zero {n:Nat} (h:manyE n=0):0<n∧n≤8:=by
 unfold manyE at h
 split at h
 ·cases h
 ·split at h
  ·cases h
  ·omega
theorem firstE_zero {α:Type} {f:α→Int} {l:List α} (h:firstE f l=0):∀x∈l,f x=0:=by
 induction l with
 |nil=>intro x hx; cases hx
 |cons y r ih=>
  simp only [firstE] at h
  split at h
  ·rename_i hy
   intro x hx
   rcases List.mem_cons.1 hx with rfl|hx
   ·exact hy
   ·exact ih h x hx
  ·rename_i hy; exact (hy h).elim
theorem allE_zero {l:List MatchD} (h:allE l=0):0<l.length∧l.length≤8∧∀m∈l,matchOK m=true:=by
 unfold allE at h
 split at h
 ·rename_i hm
  have:=manyE_zero hm
  split at h
  ·rename_i ha; exact ⟨this.1,this.2,fun o ho=>List.all_eq_true.1 ha o ho⟩
  ·cases h
 ·rename_i hm; exact (hm h).elim
theorem anyE_zero {l:List (List MatchD)} (h:anyE l=0):0<l.length∧l.length≤8∧∀m∈l,allE m=0:=by
 unfold anyE at h
 split at h
 ·rename_i hm
  have:=manyE_zero hm
  exact ⟨this.1,this.2,firstE_zero h⟩
 ·rename_i hm; exact (hm h).elim
theorem tgtE_zero {l:TgtD} (h:tgtE l=0):l.length≤8∧∀m∈l,anyE m=0:=by
 unfold tgtE at h
 split at h
 ·cases h
 ·exact ⟨by omega,firstE_zero h⟩
end Go.Bf

set_option linter.unusedSimpArgs false
set_option linter.unusedVariables false
namespace Go.Bf
open Go Go.Ab
def inV (v:ValD):Prop:= -9223372036854775808≤v.n∧v.n≤9223372036854775807
def inA (l:List MatchD):Prop:=∀m∈l,inV m.val
def inY (l:List (List MatchD)):Prop:=∀a∈l,inA a
def inT (t:TgtD):Prop:=∀a∈t,inY a
def inL (l:List NodeD):Prop:=∀n∈l,inV n.val
def inR (r:RuleD):Prop:=inT r.tgt∧inL r.cond
mutual
def inP:PolD→Prop
 | .mk id set alg tgt rules kids obls=>inT tgt∧(∀r∈rules,inR r)∧inK kids
def inK:List PolD→Prop
 | []=>True
 |k::r=>inP k∧inK r
end
theorem inK_eq:∀l:List PolD,inK l↔∀k∈l,inP k
 | []=>by simp [inK]
 |k::r=>by simp [inK,inK_eq r]
theorem exprE_zero {l:List NodeD} (h:exprE l=0) (hn:l≠ []):l.length≤32∧stepsD [] l=some [false]:=by
 unfold exprE at h
 split at h
 ·cases h
 ·split at h
  ·cases h
  ·rename_i st hst
   split at h
   ·rename_i hx
    rcases hx with hx|hx
    ·exact (hn hx).elim
    ·subst hx; exact ⟨by omega,hst⟩
   ·cases h
def ruleE (r:RuleD):Prop:=nameOK r.id=true∧tgtE r.tgt=0∧exprE r.cond=0∧oblsE r.obls=0
mutual
def polE (d:Nat):PolD→Prop
 | .mk id set alg tgt rules kids obls=>d≤4∧nameOK id=true∧1≤alg∧alg≤6∧(set=true→rules= [])∧(set=false→kids= []∧alg≠4)∧tgtE tgt=0∧oblsE obls=0∧rules.length≤16∧kids.length≤16∧(∀r∈rules,ruleE r)∧kidsE (d+1) kids
def kidsE (d:Nat):List PolD→Prop
 | []=>True
 |k::r=>polE d k∧kidsE d r
end
theorem kidsE_eq (d:Nat):∀l:List PolD,kidsE d l↔∀k∈l,polE d k
 | []=>by simp [kidsE]
 |k::r=>by simp [kidsE,kidsE_eq d r]
theorem meetD_name {m m' :MetD} {s:Txt} (h:meetD m s=some m'):nameOK s=true:=by
 unfold meetD at h
 split at h
 ·rename_i hc; exact hc.2
 ·cases h
theorem need_ok' {e:Int} {w:Went} {m:MetD} (h:need e w= .ok m):e=0∧w= .ok m:=by
 unfold need at h
 split at h
 ·exact ⟨by assumption,h⟩
 ·cases h
theorem ruleW_ok {m m' :MetD} {r:RuleD} (h:ruleW m r= .ok m'):ruleE r:=by
 unfold ruleW at h
 split at h
 ·cases h
 ·rename_i m1 hm
  split at h
  ·cases h
  ·obtain ⟨h1,h⟩:=need_ok' h
   obtain ⟨h2,h⟩:=need_ok' h
   obtain ⟨h3,h⟩:=need_ok' h
   exact ⟨meetD_name hm,h1,h2,h3⟩
theorem rulesW_ok:∀(l:List RuleD) (m m' :MetD),rulesW m l= .ok m'→∀r∈l,ruleE r
 | [],_,_,_,r,hr=>by cases hr
 |x::l,m,m',h,r,hr=>by
  simp only [rulesW] at h
  cases hx:ruleW m x with
  |bad e=>rw [hx] at h; cases h
  |ok m1=>
   rw [hx] at h
   rcases List.mem_cons.1 hr with rfl|hr
   ·exact ruleW_ok hx
   ·exact rulesW_ok l m1 m' h r hr
theorem headW_ok' {m m1:MetD} {id:Txt} {set:Bool} {alg:Int} {tgt:TgtD} {nr nk:Nat} {obls:List OblD} (h:headW m id set alg tgt nr nk obls= .ok m1):
  meetD m id=some m1∧1≤alg∧alg≤6∧(set=true→nr=0)∧(set=false→nk=0∧alg≠4)∧tgtE tgt=0∧oblsE obls=0∧nr≤16∧nk≤16:=by
 unfold headW at h
 split at h
 ·cases h
 rename_i m2 hm
 split at h
 ·cases h
 split at h
 ·cases h
 rename_i h1 h2
 obtain ⟨h3,h⟩:=need_ok' h
 obtain ⟨h4,h⟩:=need_ok' h
 split at h
 ·cases h
 cases h
 have h5:(set=true→nr=0)∧(set=false→nk=0∧alg≠4):=by
  cases set<;>simp at h2⊢<;>omega
 exact ⟨hm,by omega,by omega,h5.1,h5.2,h3,h4,by omega,by omega⟩
mutual
theorem polW_ok:∀(p:PolD) (d:Nat) (m m' :MetD),polW m d p= .ok m'→polE d p
 | .mk id set alg tgt rules kids obls,d,m,m',h=>by
  simp only [polW] at h
  split at h
  ·cases h
  rename_i hd
  split at h
  ·cases h
  rename_i m1 h1
  split at h
  ·cases h
  rename_i m2 h2
  obtain ⟨g1,g2,g3,g4,g5,g6,g7,g8,g9⟩:=headW_ok' h1
  simp only [polE]
  exact ⟨by omega,meetD_name g1,g2,g3,fun e=>List.length_eq_zero_iff.1 (g4 e),fun e=>⟨List.length_eq_zero_iff.1 (g5 e).1,(g5 e).2⟩,g6,g7,g8,g9,rulesW_ok _ _ _ h2,kidsW_ok kids (d+1) m2 m' h⟩
theorem kidsW_ok:∀(l:List PolD) (d:Nat) (m m' :MetD),kidsW m d l= .ok m'→kidsE d l
 | [],_,_,_,_=>by simp [kidsE]
 |k::r,d,m,m',h=>by
  simp only [kidsW] at h
  split at h
  ·cases h
  rename_i m1 h1
  simp only [kidsE]
  exact ⟨polW_ok k d m m1 h1,kidsW_ok r d m1 m' h⟩
end
end Go.Bf

set_option linter.unusedSimpArgs false
set_option linter.unusedVariables false
namespace Go.Ab
open Go
def hm2 (i:Nat) (a:Blk) (j:Nat) (b:Blk):Heap:=upd (hm1 i a) j (some b)
theorem Sub.hm2 {h:Heap} {i j:Nat} {a b:Blk} (h1:h i=some a) (h2:h j=some b):Sub (hm2 i a j b) h:=fun k c hk=>by
 unfold Ab.hm2 at hk
 by_cases e:k=j
 ·subst e; rw [upd_same] at hk; cases hk; exact h2
 ·rw [upd_other _ _ e] at hk; exact Sub.hm1 h1 k c hk
theorem hm2_snd (i:Nat) (a:Blk) (j:Nat) (b:Blk):hm2 i a j b j=some b:=upd_same ..
theorem hm2_fst {i:Nat} (a:Blk) {j:Nat} (b:Blk) (h:i≠j):hm2 i a j b i=some a:=by
 unfold hm2; rw [upd_other _ _ h]; exact hm1_same i a
theorem ne_upd {h:Heap} {i j:Nat} {b:Blk} (e:upd h i (some b) j=none):j≠i:=fun hh=>by
 subst hh; rw [upd_same] at e; cases e
theorem Sub.put {h g:Heap} (hs:Sub h g) {i:Nat} (hi:h i=Option.none) (x:Option Blk):Sub h (Ab.upd g i x):=fun k c hk=>by
 by_cases e:k=i
 ·subst e; rw [hi] at hk; cases hk
 ·rw [upd_other _ _ e]; exact hs k c hk
theorem Sub.both {h g:Heap} (hs:Sub h g) (i:Nat) (x:Option Blk):Sub (Ab.upd h i x) (Ab.upd g i x):=fun k c hk=>by
 by_cases e:k=i
 ·subst e; rw [upd_same] at hk⊢; exact hk
 ·rw [upd_other _ _ e] at hk⊢; exact hs k c hk
theorem Acc.put {U:TypeId→TI} {e:TypeId} {h h' :Heap} {y:AV} {xs:List AV} (ha:Acc U e h h' y xs) {id:Nat} (hid:h id=Option.none) {cs:List AV} {t:TypeId} (hob:h' id=some (.obj cs t)) (x:Option Blk):Acc U e h (Ab.upd h' id x) y xs:=by
 obtain ⟨h1,rfl|⟨k,i1,rfl,i2⟩⟩:=ha
 ·exact ⟨h1.put hid x, .inl rfl⟩
 ·refine ⟨h1.put hid x, .inr ⟨k,i1,rfl, ?_⟩⟩
  rw [upd_other _ _ fun e=> ?_]
  ·exact i2
  ·subst e; rw [hob] at i2; cases i2
theorem base_start (G:Heap) (id:Nat) (x:Option Blk):Sub (upd G id Option.none) (upd G id x):=fun k c hk=>by
 by_cases e:k=id
 ·subst e; rw [upd_same] at hk; cases hk
 ·rw [upd_other _ _ e] at hk⊢; exact hk
theorem base_end {G H:Heap} {id:Nat} {b:Blk} (hs:Sub (upd G id Option.none) H) (hb:H id=some b):Sub (upd G id (some b)) H:=fun k c hk=>by
 by_cases e:k=id
 ·subst e; rw [upd_same] at hk; cases hk; exact hb
 ·rw [upd_other _ _ e] at hk; exact hs k c (by rw [upd_other _ _ e]; exact hk)
theorem weak_tup3 (xs:List AV) (q:Perm) (a b:AV):Weak (.tup [.sl xs q,a,b]) (.tup [.sl xs .no,a,b]):= .tup _ _ rfl fun i h1 h2=>by
 rcases i with _|_|_|i
 ·exact .sl _ _
 ·exact .refl _
 ·exact .refl _
 ·simp at h1; omega
theorem WP.scope2 {P:Program} {U:TypeId→TI} {n:Nat} (hU:∀t,AgreeT P U t) (hm:P.follows .mixedOrders=true) {c rest:Code} {ρ:Env} {h:Heap} {K:Exit→Env→Heap→Prop} (l:Nat) (J:Nat→Env→Heap→Prop) (hf:findLabel c l=some (.seq .skip rest))
  (pass:∀m ρ h,J m ρ h→WP P n rest ρ h (KJump l (fun ρ' h' =>∃m',m' <m∧J m' ρ' h') K))
  (first:(∀m ρ h,J m ρ h→WP P n rest ρ h (KJump l (fun ρ h=>∃m,J m ρ h) K))→WP P n c ρ h (KJump l (fun ρ h=>∃m,J m ρ h) K)):WP P n (.scope c) ρ h K:=
 WP.scope l J hf (first fun m ρ h hJ=>(pass m ρ h hJ).weaken fun e ρ h hk=>by
  cases e with
  |goto l' =>obtain ⟨h1,m',_,h2⟩:=hk; exact ⟨h1,m',h2⟩
  |_=>exact hk) fun m ρ h hJ=>WP.seq (vcCode_sound hU hm .skip ρ h _ (pass m ρ h hJ))
end Go.Ab

namespace Go.Ab
attribute [go_sem] Int.natCast_zero Int.ofNat_zero Int.natCast_one Int.cast_ofNat_Int bne_self_eq_false beq_self_eq_true Bool.not_true Bool.not_false
attribute [go_sem] Nat.reduceLT Nat.reduceEqDiff Nat.reduceAdd Nat.reduceLeDiff Nat.reduceMul Nat.reduceSub Int.reduceBEq Int.reduceBNe
attribute [go_sem ↓] reduceIte
end Go.Ab

set_option linter.unusedSimpArgs false
set_option linter.unusedVariables false
namespace Go.Ab
open Go
inductive Av (F:Nat→Prop):AV→Prop where
 |v (x:Value):Av F (.v x)
 |s (l:List UInt8):Av F (.s l)
 |agg (xs:List AV) (h:∀x∈xs,Av F x):Av F (.agg xs)
 |tup (xs:List AV) (h:∀x∈xs,Av F x):Av F (.tup xs)
 |sl (xs:List AV) (p:Perm) (h:∀x∈xs,Av F x) (hp:∀id,p= .own id→¬F id):Av F (.sl xs p)
 |pe (x:AV) (o:Nat) (h:Av F x):Av F (.pe x o)
 |ptr (id o:Nat) (h:¬F id):Av F (.ptr id o)
 |oa (id o l:Nat) (h:¬F id):Av F (.oa id o l)
 |ob (id o l c z:Nat) (h:¬F id):Av F (.ob id o l c z)
 |ifc (t:TypeId) (x:AV) (h:Av F x):Av F (.ifc t x)
 |fn (f:FuncId) (xs:List AV) (h:∀x∈xs,Av F x):Av F (.fn f xs)
 |mp (id:Nat) (h:¬F id):Av F (.mp id)
theorem Av.cells {F:Nat→Prop} {x:AV} (h:Av F x):∀y∈x.cells,Av F y:=by
 cases h with
 |agg xs hx=>exact hx
 |_=>intro y hy; rw [List.mem_singleton.1 hy]; constructor<;>assumption
theorem Av.of_cells {F:Nat→Prop} {x:AV} (h:∀y∈x.cells,Av F y):Av F x:=by
 cases x with
 |agg xs=>exact .agg xs h
 |_=>exact h _ (List.mem_singleton.2 rfl)
theorem Rep.av {c:Cx} {F:Nat→Prop} (hF:∀id,F id→c.h id=none) {x:AV} {u:Value} (h:Rep c x u):Av F x:=by
 have nf:∀ {id:Nat} {k:Blk},c.h id=some k→¬F id:=fun hk hf=>by rw [hF _ hf] at hk; cases hk
 induction h with
 |v x=>exact .v x
 |s l hl=>exact .s l
 |agg xs vs hn hr ho ih=>exact .agg xs fun x hx=>by obtain ⟨i,hi,rfl⟩:=List.mem_iff_getElem.1 hx; exact ih i hi
 |tup xs vs hn hr ih=>exact .tup xs fun x hx=>by obtain ⟨i,hi,rfl⟩:=List.mem_iff_getElem.1 hx; exact ih i hi
 |sl xs p a cap sz val hc hm h0 hs hz hf hr ho hp ih=>
  refine .sl xs p (fun x hx=> ?_) fun id e=> ?_
  ·obtain ⟨i,hi,rfl⟩:=List.mem_iff_getElem.1 hx
   refine .of_cells fun y hy=> ?_
   obtain ⟨j,hj,rfl⟩:=List.mem_iff_getElem.1 hy
   exact ih i hi j hj
  ·subst e
   obtain ⟨m,h1,_⟩:=hp
   exact nf h1
 |pe x off b o val hb hf hr ho ih=>
  refine .pe x off (.of_cells fun y hy=> ?_)
  obtain ⟨j,hj,rfl⟩:=List.mem_iff_getElem.1 hy
  exact ih j hj
 |ptr id off cs t h=>exact .ptr _ _ (nf h)
 |oa id off len cap o cs t h hc hm ho=>exact .oa _ _ _ (nf h)
 |ob id off len cap sz o cs t h hc hm ho=>exact .ob _ _ _ _ _ (nf h)
 |ifc t x u h ih=>exact .ifc t x ih
 |fn f xs vs hn hr ih=>exact .fn f xs fun x hx=>by obtain ⟨i,hi,rfl⟩:=List.mem_iff_getElem.1 hx; exact ih i hi
 |mp id m h=>exact .mp _ (nf h)
noncomputable def Cx.back (c' :Cx) (g:Heap):Cx:= {c' with h:=fun id=>if g id=none then none else c'.h id}
theorem back_some {c' :Cx} {g:Heap} {id:Nat} {k:Blk} (h:(c'.back g).h id=some k):g id≠none∧c'.h id=some k:=by
 simp only [Cx.back] at h
 split at h
 ·cases h
 ·exact ⟨‹_›,h⟩
theorem back_at {c' :Cx} {g:Heap} {id:Nat} (h:g id≠none):(c'.back g).h id=c'.h id:=by
 simp only [Cx.back,h,if_false]
theorem back_owned {c' :Cx} {g:Heap} {b o:Nat} (h:owned (c'.back g) b o):owned c' b o:=by
 obtain ⟨id,k,h1,h2,h3⟩:=h
 exact ⟨id,k,(back_some h1).2,h2,h3⟩
theorem back_fix {c' :Cx} {g:Heap} {b o:Nat} {u:Value} (h:fix c' b o u):fix (c'.back g) b o u:=⟨h.1,fun ho=>h.2 (back_owned ho)⟩
theorem Rep.back {c' :Cx} {g:Heap} {x:AV} {u:Value} (h:Rep c' x u) (ha:Av (fun id=>g id=none) x):Rep (c'.back g) x u:=by
 induction h with
 |v x=>exact .v x
 |s l hl=>exact .s l hl
 |agg xs vs hn hr ho ih=>cases ha with|agg _ ha=>exact .agg xs vs hn (fun i hi=>ih i hi (ha _ (List.getElem_mem hi))) ho
 |tup xs vs hn hr ih=>cases ha with|tup _ ha=>exact .tup xs vs hn (fun i hi=>ih i hi (ha _ (List.getElem_mem hi)))
 |sl xs p a cap sz val hc hm h0 hs hz hf hr ho hp ih=>
  cases ha with
  |sl _ _ ha hq=>
   refine .sl xs p a cap sz val hc hm h0 hs hz (fun q hq i j hi hj=>back_fix (hf q hq i j hi hj)) (fun i hi j hj=>ih i hi j hj ((ha _ (List.getElem_mem hi)).cells _ (List.getElem_mem hj))) ho ?_
   cases p with
   |no=>trivial
   |full=>exact hp
   |own id=>
    obtain ⟨m,h1,h2,h3⟩:=hp
    exact ⟨m,by rw [back_at (hq id rfl)]; exact h1,h2,h3⟩
 |pe x off b o val hb hf hr ho ih=>
  cases ha with
  |pe _ _ ha=>exact .pe x off b o val hb (fun j hj=>back_fix (hf j hj)) (fun j hj=>ih j hj (ha.cells _ (List.getElem_mem hj))) ho
 |ptr id off cs t h=>cases ha with|ptr _ _ ha=>exact .ptr id off cs t (by rw [back_at ha]; exact h)
 |oa id off len cap o cs t h hc hm ho=>cases ha with|oa _ _ _ ha=>exact .oa id off len cap o cs t (by rw [back_at ha]; exact h) hc hm ho
 |ob id off len cap sz o cs t h hc hm ho=>cases ha with|ob _ _ _ _ _ ha=>exact .ob id off len cap sz o cs t (by rw [back_at ha]; exact h) hc hm ho
 |ifc t x u h ih=>cases ha with|ifc _ _ ha=>exact .ifc t x u (ih ha)
 |fn f xs vs hn hr ih=>cases ha with|fn _ _ ha=>exact .fn f xs vs hn (fun i hi=>ih i hi (ha _ (List.getElem_mem hi)))
 |mp id m h=>cases ha with|mp _ ha=>exact .mp id m (by rw [back_at ha]; exact h)
inductive Frz (g h:Heap):AV→AV→Prop where
 |keep (x:AV) (ha:Av (fun id=>g id=none) x):Frz g h x x
 |agg (xs ys:List AV) (hn:xs.length=ys.length) (hr:∀i (h1:i<xs.length) (h2:i<ys.length),Frz g h xs[i] ys[i]):Frz g h (.agg xs) (.agg ys)
 |tup (xs ys:List AV) (hn:xs.length=ys.length) (hr:∀i (h1:i<xs.length) (h2:i<ys.length),Frz g h xs[i] ys[i]):Frz g h (.tup xs) (.tup ys)
 |sl (xs ys:List AV) (p:Perm) (hn:xs.length=ys.length) (hz:∀i (h1:i<xs.length) (h2:i<ys.length),xs[i].cells.length=ys[i].cells.length)
   (hr:∀i (h1:i<xs.length) (h2:i<ys.length) j (h3:j<xs[i].cells.length) (h4:j<ys[i].cells.length),Frz g h xs[i].cells[j] ys[i].cells[j]):Frz g h (.sl xs p) (.sl ys .no)
 |ob (id off len cap sz:Nat) (cs:List AV) (t:TypeId) (ys:List AV) (hg:g id=none) (hh:h id=some (.obj cs t)) (hl:off+len*sz≤cs.length) (hn:ys.length=len) (hz:∀i (h1:i<ys.length),ys[i].cells.length=sz)
   (hr:∀i (h1:i<ys.length) j (h3:j<ys[i].cells.length) (h4:off+(i*sz+j)<cs.length),Frz g h (cs[off+(i*sz+j)]) ys[i].cells[j]):Frz g h (.ob id off len cap sz) (.sl ys .no)
 |ptr (id off:Nat) (cs:List AV) (t:TypeId) (ys:List AV) (hg:g id=none) (hh:h id=some (.obj cs t)) (hn:cs.length=ys.length) (hr:∀i (h1:i<cs.length) (h2:i<ys.length),Frz g h cs[i] ys[i]):Frz g h (.ptr id off) (.pe (.agg ys) off)
 |ifc (t:TypeId) (x y:AV) (hr:Frz g h x y):Frz g h (.ifc t x) (.ifc t y)
theorem Frz.rep {c' :Cx} {g h:Heap} (gd:Good c') (hh:Sub h c'.h) {x y:AV} (hz:Frz g h x y):∀ {u:Value},Rep c' x u→Rep (c'.back g) y u:=by
 have nown:∀ {id:Nat} {k:Blk} {o:Nat},g id=none→h id=some k→¬owned (c'.back g) (c'.φ id).block o:=fun {id k o} h1 h2 ho=>by
  obtain ⟨j,l,h3,h4,h5⟩:=ho
  obtain ⟨h6,h7⟩:=back_some h3
  exact gd.inj j id l k h7 (hh _ _ h2) (fun e=>h6 (by rw [e]; exact h1)) h4
 induction hz with
 |keep x ha=>exact fun hr=>hr.back ha
 |agg xs ys hn hr ih=>
  intro u hu
  obtain ⟨vs,rfl,h1,h2,h3⟩:=hu.agg_inv
  exact .agg ys vs (by omega) (fun i hi=>ih i (by omega) hi (h2 i (by omega))) fun i hi=>h3 i (by omega)
 |tup xs ys hn hr ih=>
  intro u hu
  obtain ⟨vs,rfl,h1,h2⟩:=hu.tup_inv
  exact .tup ys vs (by omega) (fun i hi=>ih i (by omega) hi (h2 i (by omega)))
 |sl xs ys p hn hz hr ih=>
  intro u hu
  obtain ⟨a,cap,sz,val,rfl,hs⟩:=hu.sl_inv
  rw [hn]
  have hcap:=hs.hc
  refine .sl ys .no a cap sz val (by omega) hs.hm hs.h0 hs.hs (fun i hi=>by rw [←hz i (by omega) hi]; exact hs.hz i (by omega)) (fun q hq i j hi hj=>back_fix (hs.hf q hq i j (by omega) hj)) (fun i hi j hj=> ?_) (fun i j hi hj=>hs.ho i j (by omega) hj) trivial
  exact ih i (by omega) hi j (by rw [hz i (by omega) hi]; exact hj) hj (hs.hr i (by omega) j (by rw [hz i (by omega) hi]; exact hj))
 |ob id off len cap sz cs t ys hg hid hl hn hz hr ih=>
  intro u hu
  obtain ⟨o,rfl,h1,h2,cs',t',h3,h4⟩:=hu.ob_inv
  have hcid:=hh _ _ hid
  rw [hcid] at h3
  cases h3
  obtain ⟨vs,v1,v2,v3⟩:=gd.obj id cs t hcid
  subst hn
  have hbd:∀i j,i<ys.length→j<sz→i*sz+j<ys.length*sz:=fun i j hi hj=>by
   have:(i+1)*sz≤ys.length*sz:=Nat.mul_le_mul_right _ (by omega)
   rw [Nat.add_mul,Nat.one_mul] at this
   omega
  refine .sl ys .no _ cap sz (fun i j=>vs.getD (off+(i*sz+j)) undef) h1 h2 (fun e=>by cases e) (fun q hq _=> ?_) hz (fun q hq i j hi hj=> ?_) (fun i hi j hj=> ?_) (fun i j hi hj=>(v3 _ (by have:=hbd i j hi hj; omega)).2) trivial
  ·cases hq
   exact ⟨rfl,gd.lt hcid⟩
  ·cases hq
   obtain ⟨rfl,_⟩:=h4 (by omega)
   have hb:=hbd i j hi hj
   refine ⟨?_,nown hg hid⟩
   have:o+(i*sz+j)<vs.size:=by omega
   simp [World.cell?,Cx.back,v1,this]
  ·have hj' :j<sz:=by rw [←hz i hi]; exact hj
   have hb:=hbd i j hi hj'
   exact ih i hi j hj (by omega) (v3 _ (by omega)).1
 |ptr id off cs t ys hg hid hn hr ih=>
  intro u hu
  obtain ⟨rfl,_⟩:=hu.ptr_inv
  have hcid:=hh _ _ hid
  obtain ⟨vs,v1,v2,v3⟩:=gd.obj id cs t hcid
  have:=Rep.pe (c:=c'.back g) (.agg ys) off (c'.φ id).block 0 (fun j=>vs.getD j undef) (gd.lt hcid) (fun j hj=>by
    have hj' :j<ys.length:=hj
    refine ⟨?_,nown hg hid⟩
    have:j<vs.size:=by omega
    simp [World.cell?,Cx.back,v1,this]) (fun j hj=>by
    have hj' :j<ys.length:=hj
    exact ih j (by omega) hj' (v3 j (by omega)).1) (fun j hj=>by
    have hj' :j<ys.length:=hj
    exact (v3 j (by omega)).2)
  rw [Nat.zero_add] at this
  exact this
 |ifc t x y hr ih=>
  intro u hu
  cases hu with
  |ifc _ _ u' h=>exact .ifc t y _ (ih h)
theorem FnOK.freeze {P:Program} {f:FuncId} {args:List AV} {h:Heap} {Q:AV→Prop}
  (hf:∀g,Sub h g→(∀x∈args,Av (fun id=>g id=none) x)→FnOK P f args g fun r h' =>Sub g h'∧∃y,Frz g h' r y∧Q y):FnOK P f args h fun r h' =>Q r∧h' =h:=by
 intro c vs hs gd h1 h2
 have hav:∀x∈args,Av (fun id=>c.h id=none) x:=fun x hx=>by
  obtain ⟨i,hi,rfl⟩:=List.mem_iff_getElem.1 hx
  exact (h2 i hi).av fun _ e=>e
 refine (hf c.h hs hav c vs (.refl _) gd h1 h2).mono ?_
 rintro u w' ⟨c',x,h',rfl,gd',hE,hr,hsub,hgh,y,hz,hq⟩
 have hkeep:∀id k,c.h id=some k→c'.h id=some k:=fun id k hk=>hsub _ _ (hgh _ _ hk)
 have hE2:Ext c (c'.back c.h):= {
  os:=hE.os,tape:=hE.tape,output:=hE.output,size:=hE.size,block:=hE.block,cell:=hE.cell,shape:=hE.shape
  steal:=fun b o hb ho=>hE.steal b o hb (back_owned ho)
  obj:=fun id cs t hi=>by rw [back_at (by rw [hi]; simp)]; exact hE.obj id cs t hi
  spare:=fun id n sz hi=>by rw [back_at (by rw [hi]; simp)]; exact hE.spare id n sz hi
  mp:=fun id m hi=>by rw [back_at (by rw [hi]; simp)]; exact hE.mp id m hi
  ro:=fun id b vs hi=>by rw [back_at (by rw [hi]; simp)]; exact hE.ro id b vs hi}
 have hold:∀id k,(c'.back c.h).h id=some k→c.h id=some k∧c'.h id=some k:=fun id k hk=>by
  obtain ⟨a1,a2⟩:=back_some hk
  cases hc:c.h id with
  |none=>exact (a1 hc).elim
  |some k' =>rw [hkeep id k' hc] at a2; cases a2; exact ⟨rfl,hkeep id _ hc⟩
 refine ⟨c'.back c.h,y,h,rfl, ?_,hE2,hz.rep gd' hsub hr,fun id k hk=> ?_,hq,rfl⟩
 ·refine ⟨?_,fun i j k l hi hj hne=>gd'.inj i j k l (hold i k hi).2 (hold j l hj).2 hne,fun id cs t hi=> ?_,fun id n sz hi=>gd'.spare id n sz (hold id _ hi).2,fun id m hi=> ?_,fun id m hi=>gd'.keys id m (hold id _ hi).2,fun id b vs hi=>gd'.ro id b vs (hold id _ hi).2⟩
  ·obtain ⟨N,hN⟩:=gd'.fin
   exact ⟨N,fun id hid=>by simp only [Cx.back]; split; rfl; exact hN id hid⟩
  ·obtain ⟨vs,v1,v2,v3⟩:=gd'.obj id cs t (hold id _ hi).2
   obtain ⟨vs0,w1,w2,w3⟩:=gd.obj id cs t (hold id _ hi).1
   exact ⟨vs,v1,v2,fun j hj=>⟨(v3 j hj).1.back ((w3 j hj).1.av fun _ e=>e),(v3 j hj).2⟩⟩
  ·obtain ⟨es,cl,v1,v2,v3⟩:=gd'.mp id m (hold id _ hi).2
   obtain ⟨es0,cl0,w1,w2,w3⟩:=gd.mp id m (hold id _ hi).1
   exact ⟨es,cl,v1,v2,fun i hi' hi2=>⟨(v3 i hi' hi2).1,(v3 i hi' hi2).2.back ((w3 i hi' (by omega)).2.av fun _ e=>e)⟩⟩
 ·rw [back_at (by rw [hs _ _ hk]; simp)]
  exact hkeep id k (hs _ _ hk)
end Go.Ab

set_option linter.unusedSimpArgs false
set_option linter.unusedVariables false
namespace Go.Ab
open Go
section
variable {P : Program} {U : TypeId → TI} {ρ : Env} {h h' : Heap} {sz : Nat} {y : AV} {xs : List AV} {e : TypeId}
def Rd (h:Heap) (sz:Nat) (y:AV) (xs:List AV):Prop:=
 Sized sz xs∧((∃q,y= .sl xs q)∨∃id off cap cs t,y= .ob id off xs.length cap sz∧h id=some (.obj cs t)∧off+xs.length*sz≤cs.length∧(cs.drop off).take (xs.length*sz)=flatA xs)
theorem Rd.sl (hs:Sized sz xs) (q:Perm):Rd h sz (.sl xs q) xs:=⟨hs, .inl ⟨q,rfl⟩⟩
theorem Rd.sub (hb:Rd h sz y xs) (hs:Sub h h'):Rd h' sz y xs:=by
 obtain ⟨h1,hb|⟨id,off,cap,cs,t,rfl,h2,h3⟩⟩:=hb
 ·exact ⟨h1, .inl hb⟩
 ·exact ⟨h1, .inr ⟨id,off,cap,cs,t,rfl,hs _ _ h2,h3⟩⟩
theorem Rd.len (hb:Rd h sz y xs) (e:TypeId) (k:AV→Prop):lenK y k (.slice e)=k (.v (.int .i64 xs.length)):=by
 obtain ⟨_,⟨q,rfl⟩|⟨id,off,cap,cs,t,rfl,_⟩⟩:=hb<;>rfl
theorem Rd.cells (hb:Rd h sz y xs):y.cells= [y]:=by
 obtain ⟨_,⟨q,rfl⟩|⟨id,off,cap,cs,t,rfl,_⟩⟩:=hb<;>rfl
theorem Rd.agg (hb:Rd h sz y xs):isAggA y=false:=by
 obtain ⟨_,⟨q,rfl⟩|⟨id,off,cap,cs,t,rfl,_⟩⟩:=hb<;>rfl
theorem Rd.fit (hb:Rd h sz y xs) (m:Nat):fit y m=(m=1):=by
 obtain ⟨_,⟨q,rfl⟩|⟨id,off,cap,cs,t,rfl,_⟩⟩:=hb<;>rfl
theorem Rd.src (hb:Rd h sz y xs) (hz:(U e).sz=sz) {f:List AV→Prop} (hf:f xs):srcA U e h y f:=by
 obtain ⟨_,⟨q,rfl⟩|⟨id,off,cap,cs,t,rfl,h2,h3,h4⟩⟩:=hb
 ·exact hf
 ·rw [srcA_ob,h2]
  exact ⟨hz.symm,xs,rfl,h3,h4.symm,hf⟩
def At (h:Heap) (p x:AV) (o:Nat):Prop:=p= .pe x o∨∃id a cs t,p= .ptr id (a+o)∧h id=some (.obj cs t)∧a+x.cells.length≤cs.length∧(cs.drop a).take x.cells.length=x.cells
theorem At.sub {p x:AV} {o:Nat} (ha:At h p x o) (hs:Sub h h'):At h' p x o:=by
 rcases ha with rfl|⟨id,a,cs,t,rfl,h2,h3⟩
 ·exact .inl rfl
 ·exact .inr ⟨id,a,cs,t,rfl,hs _ _ h2,h3⟩
theorem partA_drop {cs:List AV} {x:AV} {a o:Nat} {i:TI} {k:AV→Prop} (h1:a+x.cells.length≤cs.length) (h2:(cs.drop a).take x.cells.length=x.cells) (h3:i.sz≠0) (h4:o+i.sz≤x.cells.length):partA cs (a+o) i k=partA x.cells o i k:=by
 unfold partA
 split
 ·have e:(cs.drop (a+o)).take i.sz=(x.cells.drop o).take i.sz:=by
   rw [←h2,List.drop_take,List.take_take,List.drop_drop,Nat.min_eq_left (by omega)]
  rw [e]
  apply propext
  constructor
  ·exact fun hk=>⟨h4,hk.2⟩
  ·exact fun hk=>⟨by omega,hk.2⟩
 ·have e:cs[a+o]? =x.cells[o]? :=by
   have:=congrArg (fun q=>q[o]?) h2
   simp only [List.getElem?_take,List.getElem?_drop,show o<x.cells.length by omega,if_true] at this
   exact this
  rw [e]
theorem At.part {p x:AV} {o:Nat} (ha:At h p x o) {ty:TypeId} (hz:(U ty).sz≠0) (hl:o+(U ty).sz≤x.cells.length) (k:AV→Prop):loadA U h ty p k=partA x.cells o (U ty) k:=by
 rcases ha with rfl|⟨id,a,cs,t,rfl,h2,h3,h4⟩
 ·rw [loadA_pe]
  unfold atA
  split
  ·rename_i hc
   obtain ⟨rfl,hc2,hc3⟩:=hc
   unfold partA
   split
   ·rename_i hag
    rw [hag] at hc3
    have:x= .agg x.cells:=by cases x<;>first|rfl|cases hc3
    rw [List.drop_zero,←hc2,List.take_length,Nat.zero_add,←this]
    simp
   ·rename_i hag
    have:isAggA x=false:=by rw [hc3]; simpa using hag
    rw [cells_one this]
    simp
  ·rfl
 ·rw [loadA_ptr,h2]
  exact partA_drop h3 h4 hz hl
theorem At.all {p x:AV} (ha:At h p x 0) {ty:TypeId} (hz:(U ty).sz≠0) (hl:x.cells.length=(U ty).sz) (hg:isAggA x=(U ty).k.agg) (k:AV→Prop):loadA U h ty p k=k x:=by
 rw [ha.part hz (by omega)]
 unfold partA
 split
 ·rename_i hag
  rw [hag] at hg
  have:x= .agg x.cells:=by cases x<;>first|rfl|cases hg
  rw [List.drop_zero,←hl,List.take_length,Nat.zero_add,←this]
  simp
 ·rename_i hag
  have:isAggA x=false:=by rw [hg]; simpa using hag
  rw [cells_one this]
  simp
theorem At.field {p x:AV} {o:Nat} (ha:At h p x o) {f off:Nat} {t:TypeId} {fs:List (Nat×TypeId)} {K:AV→Prop} (hf:fs[f]? =some (off,t)) (hz:(U t).sz≠0) (hk:∀p',At h p' x (o+off)→K p'):faddrK U f p K (.strct fs):=by
 rcases ha with rfl|⟨id,a,cs,t',rfl,h2,h3,h4⟩
 ·rw [faddrK_pe,hf]
  exact ⟨hz,hk _ (.inl rfl)⟩
 ·rw [faddrK_ptr,hf]
  exact ⟨hz,hk _ (.inr ⟨id,a,cs,t',by rw [Nat.add_assoc],h2,h3,h4⟩)⟩
theorem Rd.idx (hb:Rd h sz y xs) {m:Int} {x:IntKind} {K:AV→Prop} (j:Nat) (hm:m=j) (hj:j<xs.length) (hz:(U e).sz=sz) (h0:sz≠0) (hk:∀p,At h p xs[j] 0→K p):iaddrK U y (.v (.int x m)) K (.slice e):=by
 subst hm
 have hc:=hb.1 xs[j] (List.getElem_mem hj)
 obtain ⟨hs,⟨q,rfl⟩|⟨id,off,cap,cs,t,rfl,h2,h3,h4⟩⟩:=hb
 ·refine (iaddrK_sl ..).mpr ⟨by omega, ?_⟩
  exact IdxE.at j hj (by omega) (hk _ (.inl rfl))
 ·refine (iaddrK_ob ..).mpr ⟨by omega,hz.symm,by omega,by omega,hk _ (.inr ⟨id,off+j*sz,cs,t,by simp,h2, ?_, ?_⟩)⟩
  ·have:(j+1)*sz≤xs.length*sz:=Nat.mul_le_mul_right _ (by omega)
   rw [Nat.add_mul,Nat.one_mul] at this
   rw [hc]; omega
  ·have e1:=flatA_part hs j hj
   rw [←h4,List.drop_take,List.take_take,List.drop_drop] at e1
   rw [hc]
   have:(j+1)*sz≤xs.length*sz:=Nat.mul_le_mul_right _ (by omega)
   rw [Nat.add_mul,Nat.one_mul] at this
   rw [Nat.min_eq_left (by omega)] at e1
   exact e1
def Ow (tb:TypeId) (h:Heap) (sz id:Nat) (y:AV) (xs:List AV):Prop:=
 ∃cap rest,y= .ob id 0 xs.length cap sz∧h id=some (.obj (flatA xs++rest) tb)∧rest.length=(cap - xs.length)*sz∧xs.length≤cap∧Sized sz xs
variable {tb : TypeId} {id : Nat}
theorem Ow.rd (hw:Ow tb h sz id y xs):Rd h sz y xs:=by
 obtain ⟨cap,rest,rfl,h1,h2,h3,h4⟩:=hw
 have hl:=flatA_length h4
 exact ⟨h4, .inr ⟨id,0,cap,_,tb,rfl,h1,by rw [List.length_append,hl]; omega,by rw [List.drop_zero,←hl,List.take_left]⟩⟩
theorem Ow.sub (hw:Ow tb h sz id y xs) (hs:Sub h h'):Ow tb h' sz id y xs:=by
 obtain ⟨cap,rest,e1,h1,h2⟩:=hw
 exact ⟨cap,rest,e1,hs _ _ h1,h2⟩
theorem Ow.same (hw:Ow tb h sz id y xs) (hs:h' id=h id):Ow tb h' sz id y xs:=by
 obtain ⟨cap,rest,e1,h1,h2⟩:=hw
 exact ⟨cap,rest,e1,hs.trans h1,h2⟩
theorem Ow.none (hw:Ow tb h sz id y xs):h id≠Option.none:=by
 obtain ⟨cap,rest,e1,h1,h2⟩:=hw
 rw [h1]; simp
theorem Ow.make {cs:List AV} {cap:Nat} {rest:List AV} (hs:Sized sz xs) (hcs:cs=flatA xs) {n:Nat} (hn:n=xs.length) (hc:n≤cap) (hr:rest.length=(cap - n)*sz):Ow tb (upd h id (some (.obj (cs++rest) tb))) sz id (.ob id 0 n cap sz) xs:=by
 subst hcs; subst hn
 exact ⟨cap,rest,rfl,upd_same ..,hr,hc,hs⟩
theorem newOb.ow {cs:List AV} {n:Nat} {Q:AV→Heap→Prop} (hs:Sized sz xs) (hcs:cs=flatA xs) (hn:n=xs.length) (hk:∀id y h',h id=Option.none→Ow tb h' sz id y xs→(∀j,j≠id→h' j=h j)→Q y h'):newOb h cs n sz tb Q:=
 fun id cap rest hid hc hr=>hk id _ _ hid (Ow.make hs hcs hn hc hr) fun j hj=>upd_other _ _ hj
theorem over_app2 {us vs:List AV} {o:Nat} {c:List AV}:over (us++vs) (us.length+o) c=us++over vs o c:=by
 simp only [Ab.over,Nat.add_assoc,List.take_length_add_append,List.drop_length_add_append,List.append_assoc]
theorem flatA_set {xs:List AV} (hs:Sized sz xs) (j:Nat) (hj:j<xs.length) (x:AV) (hx:x.cells.length=sz):flatA (xs.set j x)=over (flatA xs) (j*sz) x.cells:=by
 induction xs generalizing j with
 |nil=>cases hj
 |cons a r ih=>
  have h1:=hs a (List.mem_cons_self ..)
  have h2:Sized sz r:=fun z hz=>hs z (List.mem_cons_of_mem _ hz)
  cases j with
  |zero=>
   simp only [List.set_cons_zero,flatA_cons,Ab.over,Nat.zero_mul,List.take_zero,List.nil_append,Nat.zero_add]
   rw [hx,←h1,List.drop_left]
  |succ j=>
   have hj' :j<r.length:=by simpa using hj
   have e1:(j+1)*sz=a.cells.length+j*sz:=by rw [Nat.add_mul,Nat.one_mul,h1]; omega
   rw [List.set_cons_succ,flatA_cons,flatA_cons,ih h2 j hj',e1,over_app2]
theorem flatA_put {xs:List AV} (hs:Sized sz xs) (j:Nat) (hj:j<xs.length) (o:Nat) (c:List AV) (ho:o+c.length≤sz):over (flatA xs) (j*sz+o) c=flatA (xs.set j (.agg (over xs[j].cells o c))):=by
 have hc:=hs xs[j] (List.getElem_mem hj)
 have hl:(over xs[j].cells o c).length=sz:=by rw [over_length (by omega)]; exact hc
 rw [flatA_set hs j hj (.agg (over xs[j].cells o c)) hl]
 have hp:=flatA_part hs j hj
 have hfl:=flatA_length hs
 have hb:(j+1)*sz≤xs.length*sz:=Nat.mul_le_mul_right _ (by omega)
 rw [Nat.add_mul,Nat.one_mul] at hb
 have e1:(flatA xs).take (j*sz+o)=(flatA xs).take (j*sz)++xs[j].cells.take o:=by
  rw [←hp,List.take_take,Nat.min_eq_left (by omega),List.take_add]
 have e2:(flatA xs).drop (j*sz+o+c.length)=xs[j].cells.drop (o+c.length)++(flatA xs).drop (j*sz+sz):=by
  have e3:(flatA xs).drop (j*sz)=xs[j].cells++(flatA xs).drop (j*sz+sz):=by
   rw [←List.drop_drop,←hp,List.take_append_drop]
  rw [Nat.add_assoc,←List.drop_drop,e3,List.drop_append_of_le_length (by omega)]
 show over (flatA xs) (j*sz+o) c=over (flatA xs) (j*sz) (over xs[j].cells o c)
 have e4:j*sz+(over xs[j].cells o c).length=j*sz+sz:=by rw [hl]
 rw [Ab.over,Ab.over,e4,e1,e2]
 simp only [Ab.over,List.append_assoc]
theorem over_app {us vs:List AV} {o:Nat} {c:List AV} (h1:o+c.length≤us.length):over (us++vs) o c=over us o c++vs:=by
 simp only [Ab.over]
 rw [List.take_append_of_le_length (by omega),List.drop_append_of_le_length (by omega)]
 simp [List.append_assoc]
theorem Ow.st (hw:Ow tb h sz id y xs) (j:Nat) (hj:j<xs.length) (o:Nat) {off n:Nat} {z:AV} {Q:AV→Heap→Prop} (hoff:off=j*sz+o) (hf:Ab.fit z n) (hn:z.cells.length=n) (ho:o+n≤sz)
  (hk:∀h',Ow tb h' sz id y (xs.set j (.agg (over xs[j].cells o z.cells)))→(∀k,k≠id→h' k=h k)→Q (.v undef) h'):
  bindO (h id) fun b=>objL b fun cs t' =>Ab.fit z n∧off+n≤cs.length∧Q (.v undef) (upd h id (some (.obj (over cs off z.cells) t'))):=by
 obtain ⟨cap,rest,rfl,h1,h2,h3,h4⟩:=hw
 have hl:=flatA_length h4
 have hb:(j+1)*sz≤xs.length*sz:=Nat.mul_le_mul_right _ (by omega)
 rw [Nat.add_mul,Nat.one_mul] at hb
 have hlt:off+n≤(flatA xs).length:=by omega
 rw [h1]
 refine ⟨hf,by rw [List.length_append]; omega, ?_⟩
 have e1:over (flatA xs++rest) off z.cells=flatA (xs.set j (.agg (over xs[j].cells o z.cells)))++rest:=by
  rw [over_app (by omega),hoff,flatA_put h4 j hj o z.cells (by omega)]
 rw [e1]
 refine hk _ ⟨cap,rest,by rw [List.length_set],upd_same ..,by rw [List.length_set]; exact h2,by rw [List.length_set]; exact h3,fun w hw=> ?_⟩ fun k hk=>upd_other _ _ hk
 rcases List.mem_or_eq_of_mem_set hw with hw|rfl
 ·exact h4 w hw
 ·exact (over_length (by rw [h4 xs[j] (List.getElem_mem hj)]; omega)).trans (h4 xs[j] (List.getElem_mem hj))
theorem Ow.idx (hw:Ow tb h sz id y xs) {m:Int} {x:IntKind} {K:AV→Prop} (j:Nat) (hm:m=j) (hj:j<xs.length) (hz:(U e).sz=sz) (h0:sz≠0) (hk:K (.ptr id (j*sz))):iaddrK U y (.v (.int x m)) K (.slice e):=by
 subst hm
 obtain ⟨cap,rest,rfl,h1,h2,h3,h4⟩:=hw
 refine (iaddrK_ob ..).mpr ⟨by omega,hz.symm,by omega,by omega, ?_⟩
 rw [Nat.zero_add,Int.toNat_natCast]
 exact hk
theorem Ow.at (hw:Ow tb h sz id y xs) (j:Nat) (hj:j<xs.length):At h (.ptr id (j*sz)) xs[j] 0:=by
 obtain ⟨cap,rest,rfl,h1,h2,h3,h4⟩:=hw
 have hl:=flatA_length h4
 have hc:=h4 xs[j] (List.getElem_mem hj)
 have hb:(j+1)*sz≤xs.length*sz:=Nat.mul_le_mul_right _ (by omega)
 rw [Nat.add_mul,Nat.one_mul] at hb
 refine .inr ⟨id,j*sz,_,tb,rfl,h1,by rw [List.length_append,hc]; omega, ?_⟩
 rw [hc,List.drop_append_of_le_length (by omega),List.take_append_of_le_length (by rw [List.length_drop]; omega)]
 exact flatA_part h4 j hj
def OwE (tb:TypeId) (h0 h:Heap) (sz:Nat) (y:AV) (xs:List AV):Prop:=(xs= []∧y= .sl [] .full)∨∃id,h0 id=Option.none∧Ow tb h sz id y xs
variable {h0 : Heap}
theorem OwE.rd (hw:OwE tb h0 h sz y xs):Rd h sz y xs:=by
 rcases hw with ⟨rfl,rfl⟩|⟨id,_,hw⟩
 ·exact .sl (fun z hz=>by cases hz) _
 ·exact hw.rd
theorem OwE.sub (hw:OwE tb h0 h sz y xs) (hs:Sub h h'):OwE tb h0 h' sz y xs:=by
 rcases hw with hw|⟨id,h1,hw⟩
 ·exact .inl hw
 ·exact .inr ⟨id,h1,hw.sub hs⟩
theorem OwE.ow (hw:OwE tb h0 h sz y xs) (hn:xs≠ []):∃id,h0 id=Option.none∧Ow tb h sz id y xs:=by
 rcases hw with hw|hw
 ·exact (hn hw.1).elim
 ·exact hw
theorem OwE.app {v:AV} {zs:List AV} {Q:AV→Heap→Prop} (hw:OwE tb h0 h sz y xs) (hs0:Sub h0 h) (hb:Rd h sz v zs) (hz:(U tb).sz=sz) (h1:sz≠0) (hby:(U tb).bytes≠0) (hf:Ab.fit (U tb).zero sz) (hne:zs≠ []) (hlen:(xs.length+zs.length)*(U tb).bytes≤140737488355328)
  (hk:∀id y' h',h0 id=Option.none→(h id=Option.none∨∃l c,y= .ob id 0 l c sz)→Ow tb h' sz id y' (xs++zs)→(∀j,j≠id→h' j=h j)→Q y' h'):apK U h y v Q (.slice tb):=by
 subst hz
 rcases hw with ⟨rfl,rfl⟩|⟨id,h2,cap,rest,rfl,h3,h4,h5,h6⟩
 ·refine (apK_full ..).mpr ⟨h1,hby,hb.src rfl ⟨by simp [Sized],hb.1,by simpa using hlen,fun hn=>(hne hn).elim,fun _=> ?_⟩⟩
  refine .ob hf (newOb.ow (by simpa using hb.1) (by simp [flatA]) (by simp) fun id y' h' hid hw ho=> ?_)
  exact hk id _ _ (hs0.none hid) (.inl hid) (by simpa using hw) ho
 ·have hl:=flatA_length h6
  refine ⟨h1,hby,rfl,hb.src rfl ⟨hb.1,hlen, ?_⟩⟩
  rw [h3]
  have hsz:Sized (U tb).sz (xs++zs):=fun z hz=>(List.mem_append.1 hz).elim (h6 z) (hb.1 z)
  refine ⟨by rw [List.length_append,hl]; omega,hf,fun hle=> ?_,fun hgt=> ?_⟩
  ·have hlz:=flatA_length hb.1
   have hmul:(cap - xs.length)*(U tb).sz=zs.length*(U tb).sz+(cap - (xs.length+zs.length))*(U tb).sz:=by rw [←Nat.add_mul]; congr 1; omega
   refine hk id _ _ h2 (.inr ⟨_,_,rfl⟩) ⟨cap,rest.drop (zs.length*(U tb).sz),by rw [List.length_append], ?_, ?_,by rw [List.length_append]; omega,hsz⟩ fun j hj=>upd_other _ _ hj
   ·rw [upd_same,flatA_app,Nat.zero_add,←hl,Ab.over,List.take_left,List.drop_append,List.drop_of_length_le (by omega),hlz]
    simp
   ·rw [List.length_drop,h4,List.length_append]; omega
  ·refine newOb.ow hsz ?_ (by rw [List.length_append]) fun id' y' h' hid hw ho=> ?_
   ·rw [flatA_app,List.drop_zero,←hl,List.take_left]
   ·exact hk id' _ _ (hs0.none hid) (.inl hid) hw ho
theorem overlaps_ok {f : FuncId} {fn : Func} {tS tR : TypeId} (hU : ∀ t, AgreeT P U t) (hfn : P.funcs[f]? = some fn) (hname : (fn.name == "runtime.NumGoroutine") = false) (hb : fn.body.isNone = true) (hn : Extern.findNext fn = Option.none)
  (he:Extern.find fn=some (Extern.SlicesOverlaps.overlaps #[tS,tS] #[tR])) (hty:(U tS).k= .slice e) (hz:(U e).sz≠0) {q:Perm} (hx:Sized (U e).sz xs) (hne:xs≠ []) {id off len cap sz:Nat} {cs:List AV} {t:TypeId} (hid:h id=some (.obj cs t)) (hcs:cs≠ []):
  FnOK P f [.sl xs q, .ob id off len cap sz] h fun r h' =>r= .v (.bool false)∧h' =h:=by
 intro c vs hs g h1 h2
 obtain ⟨a,cap0,sz0,val,hu,sl⟩:=(h2 0 (by simp)).sl_inv
 obtain ⟨o,hv,_⟩:=(h2 1 (by simp)).ob_inv
 have hd:=(hU tS).desc
 rw [hty] at hd
 have hpos:0<xs.length:=List.length_pos_iff.2 hne
 have hcap:=sl.hc
 obtain ⟨qa,rfl⟩:∃qa,a=some qa:=by
  cases a with
  |none=>have:=sl.h0 rfl; omega
  |some qa=>exact ⟨qa,rfl⟩
 have hs0:sz0=(U e).sz:=by rw [←sl.hz 0 hpos]; exact hx _ (List.getElem_mem hpos)
 have hf:=sl.hf qa rfl 0 0 hpos (by omega)
 have hq:=(sl.hs qa rfl (by omega)).1
 have hcid:=hs _ _ hid
 obtain ⟨us,u1,u2,u3⟩:=g.obj id cs t hcid
 have hnb:qa.block≠(c.φ id).block:=fun hh=>hf.2 ⟨id,_,hcid,hh.symm,Nat.zero_le _⟩
 obtain ⟨ws,tw,fr,hws,hwlt⟩:∃ws tw fr,c.w.heap[qa.block]? =some (.cells ws tw fr)∧0<ws.size:=by
  have:=hf.1
  simp only [World.cell?] at this
  split at this
  ·rename_i ws tw fr hh
   refine ⟨ws,tw,fr,hh, ?_⟩
   have hlt:=lt_of_get this
   omega
  all_goals cases this
 have hvs:vs= #[.slice (some qa) xs.length cap0, .slice (some ⟨(c.φ id).block,o,Option.none⟩) len cap]:=by
  apply Array.ext
  ·simpa using h1
  ·intro i hi hi2
   have hi3:i<2:=by simpa using hi2
   rcases i with _|_|i
   ·simpa [Array.getD,hi] using hu
   ·simpa [Array.getD,hi] using hv
   ·omega
 subst hvs
 refine .inr ⟨.bool false,c.w, ?_,c,_,h,rfl,g, .refl c, .v _,hs,rfl,rfl⟩
 rw [Go.run_callFunc_extern hfn hname hb hn he]
 have key:(Extern.SlicesOverlaps.overlaps #[tS,tS] #[tR] #[.slice (some qa) xs.length cap0, .slice (some ⟨(c.φ id).block,o,Option.none⟩) len cap]).run P c.w= .ok (.bool false) c.w:=by
  have hnb1:(qa.block !=(c.φ id).block)=true:=by simpa using hnb
  have hnb2:(qa.block==(c.φ id).block)=false:=by simpa using hnb
  have hws2:∃m,ws.size=m+1:=⟨ws.size - 1,by omega⟩
  obtain ⟨m,hm⟩:=hws2
  change Sem.run P (α:=Value) (do
   let some t := (#[tS, tS] : Array TypeId)[0]? | stuck "slices.overlaps: no parameter types"
   let .slice elem ← underlying t | stuck "slices.overlaps: slice type expected"
   let size←sizeOf elem
   match (some qa:Option Addr),(some ⟨(c.φ id).block,o,Option.none⟩:Option Addr) with
   |some a,some b=>
    if xs.length=0∨len=0∨size=0 then pure (Value.bool false)
    else if a.block !=b.block && (←frozen a) && (←frozen b) then unsupported .addressObserved
    else do
     if a.block !=b.block then do
      noView a; noView b
      if ← mayBeOne a b then return Value.bool ((← choose (.extern "sameAddr.stringBytes" 2)) == 1)
     pure (Value.bool (a.block==b.block && a.off<b.off+len*size && b.off<a.off+xs.length*size))
   |_,_=>pure (Value.bool false)) c.w=_
  have hfb:∀x,c.w.frozen? ⟨(c.φ id).block,x,Option.none⟩=false:=fun x=>by simp [World.frozen?,u1]
  have hsb:c.w.shape? (c.φ id).block=some (t,us.size):=by simp [World.shape?,u1]
  have hsa:c.w.shape? qa.block=some (tw,m+1):=by simp [World.shape?,hws,hm]
  by_cases hl:len=0
  ·simp [run_underlying hd,sizeOf_run hU hz,hl]
  ·have hus:us.size≠0:=by rw [u2]; exact fun hh=>hcs (List.length_eq_zero_iff.1 hh)
   obtain ⟨n,hn'⟩:∃n,us.size=n+1:=⟨us.size - 1,by omega⟩
   rw [hn'] at hsb
   cases hfa:c.w.frozen? qa<;>cases hfa2:c.w.frozen? {block:=qa.block,off:=m+1}<;>
    simp [run_underlying hd,sizeOf_run hU hz,hl,hne,hz,hnb1,hnb2,frozen,noView,viewAt,mayBeOne,stringish,shape,Sem.run,hsa,hsb,hfb,hfa,hfa2]
 rw [key]
 rfl
end
end Go.Ab

set_option linter.unusedSimpArgs false
set_option linter.unusedVariables false
namespace Go.Bf
open Go Go.Ab
structure OpD where
 kind:Int
 subj:Txt
 case:Txt
 field:Txt
 to:Txt
 val:ValD
 review:Int
 text:Txt
 reason:Txt
 glass:Bool
structure HapD where
 tick:Int
 actor:Txt
 what:Txt
structure FieldD where
 name:Txt
 val:ValD
structure CaseD where
 id:Txt
 owner:Txt
 state:Txt
 fields:List FieldD
 log:List HapD
structure RevD where
 id:Int
 tick:Int
 subj:Txt
 case:Txt
 action:Txt
 reason:Txt
 isOpen:Bool
structure NotD where
 tick:Int
 case:Txt
 arg:Txt
structure RoleD where
 subj:Txt
 role:Txt
structure StoreD where
 tick:Int
 cases:List CaseD
 reviews:List RevD
 notices:List NotD
 roles:List RoleD
 policy:PolD
 version:Int
structure GivD where
 cat:Int
 name:Txt
 bag:List ValD
def opC (o:OpD):List AV:= [.v (.int .i64 o.kind), .s o.subj, .s o.case, .s o.field, .s o.to, .v (.int .i64 o.val.kind), .v (.int .i64 o.val.n), .s o.val.s, .v (.int .i64 o.review), .s o.text, .s o.reason, .v (.bool o.glass)]
def opA (o:OpD):AV:= .agg (opC o)
def hapA (x:HapD):AV:= .agg [.v (.int .i64 x.tick), .s x.actor, .s x.what]
def fieldA (f:FieldD):AV:= .agg [.s f.name, .v (.int .i64 f.val.kind), .v (.int .i64 f.val.n), .s f.val.s]
def fieldsA (l:List FieldD):AV:= .sl (l.map fieldA) .no
def logA (l:List HapD):AV:= .sl (l.map hapA) .no
def caseC (c:CaseD):List AV:= [.s c.id, .s c.owner, .s c.state,fieldsA c.fields,logA c.log]
def caseA (c:CaseD):AV:= .agg (caseC c)
def casesA (l:List CaseD):AV:= .sl (l.map caseA) .no
def revA (r:RevD):AV:= .agg [.v (.int .i64 r.id), .v (.int .i64 r.tick), .s r.subj, .s r.case, .s r.action, .s r.reason, .v (.bool r.isOpen)]
def revsA (l:List RevD):AV:= .sl (l.map revA) .no
def notA (n:NotD):AV:= .agg [.v (.int .i64 n.tick), .s n.case, .s n.arg]
def notsA (l:List NotD):AV:= .sl (l.map notA) .no
def roleA (r:RoleD):AV:= .agg [.s r.subj, .s r.role]
def rolesA (l:List RoleD):AV:= .sl (l.map roleA) .no
def polC:PolD→List AV
 | .mk id set alg tgt rules kids obls=> [.s id, .v (.bool set), .v (.int .i64 alg),tgtA tgt, .sl (rules.map ruleA) .no, .sl (kidsA kids) .no,oblsA obls]
theorem polA_eq (p:PolD):polA p= .agg (polC p):=by cases p; simp [polA,polC]
def storeA (s:StoreD):AV:= .agg ([.v (.int .i64 s.tick),casesA s.cases,revsA s.reviews,notsA s.notices,rolesA s.roles]++polC s.policy++ [.v (.int .i64 s.version)])
def givA (g:GivD):AV:= .agg [.v (.int .i64 g.cat), .s g.name, .sl (g.bag.map valA) .no]
def givsA (l:List GivD):AV:= .sl (l.map givA) .no
def geB (a b:Txt):Bool:= !(Op.bytesLess a b)
def findD (cs:List CaseD) (id:Txt):Nat:=cs.findIdx fun c=>geB c.id id
def thereD (cs:List CaseD) (id:Txt):Bool:=match cs[findD cs id]? with
 |some c=>c.id==id
 |none=>false
def zeroVal:ValD:=⟨0,0,[]⟩
def zeroCase:CaseD:=⟨[],[],[],[],[]⟩
def caseD (cs:List CaseD) (id:Txt):CaseD:=if thereD cs id then cs.getD (findD cs id) zeroCase else zeroCase
def fieldD (fs:List FieldD) (name:Txt):ValD:=match fs.find? fun f=>f.name==name with
 |some f=>f.val
 |none=>zeroVal
def eqRole (a b:RoleD):Bool:=a.subj==b.subj && a.role==b.role
def hasD (l:List RoleD) (r:RoleD):Bool:=l.any (eqRole r)
def openT:Txt:= [111,112,101,110]
def workT:Txt:= [119,111,114,107]
def doneT:Txt:= [100,111,110,101]
def closedT:Txt:= [99,108,111,115,101,100]
def followsD (a b:Txt):Bool:=
 if a==openT then b==workT else if a==workT then b==doneT else if a==doneT then b==workT||b==closedT else false
def actWs:List Txt:= [[110,101,119],[114,101,97,100],[119,114,105,116,101],[109,111,118,101],[99,108,111,115,101],[114,111,108,101],[112,111,108,105,99,121]]
def actionD (k:Int):Txt:=if k<1∨k>7 then [116,105,99,107] else actWs.getD (k - 1).toNat []
def onCase (k:Int):Bool:=decide (1≤k) && decide (k≤4)
def emptyD (s:Txt):Bool:=s== []||nameOK s
def reasonD (o:OpD):Bool:=if o.glass then onCase o.kind && (!(o.reason== [])) && decide (o.reason.length≤64) else o.reason== []
def onlyD (o:OpD):OpD:=
 let z:OpD:=⟨o.kind,[],[],[],[],zeroVal,0,[],[],false⟩
 if o.kind=1 then {z with case:=o.case}
 else if o.kind=2∨o.kind=6 then {z with case:=o.case,field:=o.field}
 else if o.kind=3 then {z with case:=o.case,field:=o.field,val:=o.val}
 else if o.kind=4 then {z with case:=o.case,to:=o.to}
 else if o.kind=5∨o.kind=8 then {z with review:=o.review}
 else {z with text:=o.text}
def eqV (a b:ValD):Bool:=a.kind==b.kind && (a.n==b.n && a.s==b.s)
def eqOp (a b:OpD):Bool:=a.kind==b.kind && (a.subj==b.subj && (a.case==b.case && (a.field==b.field && (a.to==b.to && (a.val.kind==b.val.kind && (a.val.n==b.val.n && (a.val.s==b.val.s && (a.review==b.review && (a.text==b.text && (a.reason==b.reason && a.glass==b.glass))))))))))
def okD (o:OpD):Bool:=
 if o.kind=1 then !(o.case== [])
 else if o.kind=2∨o.kind=6 then !(o.case== []) && !(o.field== [])
 else if o.kind=3 then !(o.case== []) && !(o.field== []) && !(eqV o.val zeroVal)
 else if o.kind=4 then !(o.case== []) && !(o.to== [])
 else if o.kind=5 then decide (0<o.review)
 else if o.kind=8 then decide (0<o.review) && decide (o.review≤1099511627776)
 else true
def bareD (o:OpD):OpD:= {o with subj:= [],reason:= [],glass:=false}
def takesD (o:OpD):Bool:=decide (1≤o.kind) && decide (o.kind≤8) && okD o && eqOp (bareD o) (onlyD o)
def formD (o:OpD):Bool:=nameOK o.subj && reasonD o && decide (o.text.length≤4096) && emptyD o.case && emptyD o.field && emptyD o.to && (eqV o.val zeroVal||valOK o.val) && takesD o
def readyCaseD (s:StoreD) (o:OpD):Int:=
 let c:=caseD s.cases o.case
 if thereD s.cases o.case=false then 10
 else if o.kind=3∧c.fields.length≥16∧eqV (fieldD c.fields o.field) zeroVal=true then 6
 else if o.kind≠2∧c.log.length≥256 then 6
 else if o.kind=3∧c.state=closedT∨o.kind=4∧followsD c.state o.to=false then 13
 else 0
def revAt (l:List RevD) (n:Int):Option RevD:=if 1≤n then l[(n - 1).toNat]? else none
def readyCloseD (s:StoreD) (o:OpD):Int:=match revAt s.reviews o.review with
 |none=>10
 |some r=>if r.isOpen=false then 10 else if r.subj=o.subj then 12 else 0
def readyD (s:StoreD) (o:OpD):Int:=
 if formD o=false then 1
 else if o.kind=1 then (if thereD s.cases o.case then 11 else if s.cases.length≥64 then 6 else 0)
 else if 2≤o.kind∧o.kind≤4 then readyCaseD s o
 else if o.kind=5 then readyCloseD s o
 else if o.kind=6 then (if s.roles.length≥64∧hasD s.roles ⟨o.case,o.field⟩=false then 6 else 0)
 else if o.kind=8 then (if s.tick>1099511627776 - o.review then 6 else 0)
 else 0
def idV (s:Txt):ValD:=⟨5,0,s⟩
def tookD (l:List HapD) (subj:Txt):ValD:=⟨1,if l.any (fun x=>x.actor==subj) then 1 else 0,[]⟩
def idT:Txt:= [105,100]
def askCaseD (c:CaseD) (subj:Txt):List GivD:=
 [⟨3,idT,[idV c.id]⟩,⟨3,[111,119,110,101,114],[idV c.owner]⟩,⟨3,[115,116,97,116,101],[idV c.state]⟩,⟨3,[101,118,101,110,116,115],[⟨2,c.log.length,[]⟩]⟩,⟨3,[116,111,111,107],[tookD c.log subj]⟩]++
 (match c.log.getLast? with
  |some x=> [⟨3,[108,97,115,116],[idV x.actor]⟩]
  |none=> [])++
 (c.fields.filter fun f=>decide (f.name.length≤14)).map fun f=>⟨3,[102,95]++f.name,[f.val]⟩
def rolesOf (l:List RoleD) (subj:Txt):List ValD:=((l.filter fun r=>r.subj==subj).map fun r=>idV r.role).take 16
def askD (s:StoreD) (o:OpD):List GivD:=
 [⟨1,idT,[idV o.subj]⟩,⟨1,[114,111,108,101],rolesOf s.roles o.subj⟩,⟨2,[110,97,109,101],[idV (actionD o.kind)]⟩]++
 (if o.field= [] then [] else [⟨2,[102,105,101,108,100],[idV o.field]⟩])++
 (if o.to= [] then [] else [⟨2,[116,111],[idV o.to]⟩])++
 [⟨4,[110,111,119],[⟨4,s.tick,[]⟩]⟩]++
 (if thereD s.cases o.case=true∧o.kind≠6 then askCaseD (caseD s.cases o.case) o.subj else [])
def writeD (fs:List FieldD) (name:Txt) (v:ValD):List FieldD:=
 let i:=fs.findIdx fun f=>geB f.name name
 match fs[i]? with
 |none=>fs++ [⟨name,v⟩]
 |some f=>if f.name=name then fs.set i ⟨f.name,v⟩ else fs.take i++ [⟨name,v⟩]++fs.drop i
def hapD (s:StoreD) (c:CaseD) (actor what:Txt):CaseD:= {c with log:=c.log++ [⟨s.tick,actor,what⟩]}
def doD (par:Txt→PolD×Int×Int) (s:StoreD) (o:OpD):StoreD:=
 let i:=findD s.cases o.case
 if o.kind=1 then {s with cases:=s.cases.take i++ [hapD s ⟨o.case,o.subj,openT,[],[]⟩ o.subj [110,101,119]]++s.cases.drop i}
 else if o.kind=3 then {s with cases:=s.cases.modify i fun c=>hapD s {c with fields:=writeD c.fields o.field o.val} o.subj [119,114,105,116,101]}
 else if o.kind=4 then {s with cases:=s.cases.modify i fun c=>hapD s {c with state:=o.to} o.subj o.to}
 else if o.kind=5 then {s with reviews:=s.reviews.modify (o.review - 1).toNat fun r=> {r with isOpen:=false}}
 else if o.kind=6 then (if hasD s.roles ⟨o.case,o.field⟩ then s else {s with roles:=s.roles++ [⟨o.case,o.field⟩]})
 else if o.kind=7 then (if (par o.text).2.1=0 then {s with policy:=(par o.text).1,version:=s.version+1} else s)
 else if o.kind=8 then {s with tick:=s.tick+o.review}
 else s
def doneD (par:Txt→PolD×Int×Int) (s:StoreD) (o:OpD):StoreD:=if readyD s o=0 then doD par s o else s
def i64 (n:Int):Prop:= -9223372036854775808≤n∧n≤9223372036854775807
end Go.Bf

namespace Go.Proofs.YtmlhcdeamjkpjaaGreatDoor
open Go Go.Ab
def tyRows:List TI:= [
 ⟨.other,0,0,default,none⟩,
 ⟨.other,1,8, .v .nilFunc,none⟩,
 ⟨.int .i64,1,8, .v (.int .i64 0),some (0,[.int .i64])⟩,
 ⟨.int .i64,1,8, .v (.int .i64 0),some (0,[.int .i64])⟩,
 ⟨.bool,1,1, .v (.bool false),some (0,[.bool])⟩,
 ⟨.int .u8,1,1, .v (.int .u8 0),some (0,[.int .u8])⟩,
 ⟨.int .u8,1,1, .v (.int .u8 0),some (0,[.int .u8])⟩,
 ⟨.strct [(0,2),(1,3),(2,4),(3,6)],4,24, .agg [.v (.int .i64 0), .v (.int .i64 0), .v (.bool false), .v (.int .u8 0)],none⟩,
 ⟨.strct [(0,2),(1,3),(2,4),(3,6)],4,24, .agg [.v (.int .i64 0), .v (.int .i64 0), .v (.bool false), .v (.int .u8 0)],none⟩,
 ⟨.str,1,16, .s [],some (0,[.str])⟩,
 ⟨.str,1,16, .s [],some (0,[.str])⟩,
 ⟨.str,1,16, .s [],some (0,[.str])⟩,
 ⟨.int .u64,1,8, .v (.int .u64 0),some (0,[.int .u64])⟩,
 ⟨.strct [(0,9),(1,12)],2,24, .agg [.s [], .v (.int .u64 0)],none⟩,
 ⟨.strct [(0,9),(1,12)],2,24, .agg [.s [], .v (.int .u64 0)],none⟩,
 ⟨.ptr 400,1,8, .v (.pointer none),none⟩,
 ⟨.ptr 403,1,8, .v (.pointer none),none⟩,
 ⟨.ptr 411,1,8, .v (.pointer none),none⟩,
 ⟨.strct [(0,17)],1,8, .agg [.v (.pointer none)],none⟩,
 ⟨.strct [(0,17)],1,8, .agg [.v (.pointer none)],none⟩,
 ⟨.iface,1,16, .v .nilIface,none⟩,
 ⟨.int .i32,1,4, .v (.int .i32 0),some (0,[.int .i32])⟩,
 ⟨.slice 44,1,24, .sl [] .full,none⟩,
 ⟨.other,1,8, .v .nilFunc,none⟩,
 ⟨.slice 57,1,24, .sl [] .full,none⟩,
 ⟨.slice 82,1,24, .sl [] .full,none⟩,
 ⟨.slice 98,1,24, .sl [] .full,none⟩,
 ⟨.slice 71,1,24, .sl [] .full,none⟩,
 ⟨.slice 243,1,24, .sl [] .full,none⟩,
 ⟨.slice 243,1,24, .sl [] .full,none⟩,
 ⟨.slice 181,1,24, .sl [] .full,none⟩,
 ⟨.slice 34,1,24, .sl [] .full,none⟩,
 ⟨.slice 90,1,24, .sl [] .full,none⟩,
 ⟨.strct [(0,9),(1,4),(2,3),(3,29),(4,30),(5,31),(6,32)],7,128, .agg [.s [], .v (.bool false), .v (.int .i64 0), .sl [] .full, .sl [] .full, .sl [] .full, .sl [] .full],none⟩,
 ⟨.strct [(0,9),(1,4),(2,3),(3,29),(4,30),(5,31),(6,32)],7,128, .agg [.s [], .v (.bool false), .v (.int .i64 0), .sl [] .full, .sl [] .full, .sl [] .full, .sl [] .full],none⟩,
 ⟨.strct [(0,3),(1,24),(2,25),(3,26),(4,27),(5,34),(12,3)],13,240, .agg [.v (.int .i64 0), .sl [] .full, .sl [] .full, .sl [] .full, .sl [] .full, .s [], .v (.bool false), .v (.int .i64 0), .sl [] .full, .sl [] .full, .sl [] .full, .sl [] .full, .v (.int .i64 0)],none⟩,
 ⟨.strct [(0,3),(1,24),(2,25),(3,26),(4,27),(5,34),(12,3)],13,240, .agg [.v (.int .i64 0), .sl [] .full, .sl [] .full, .sl [] .full, .sl [] .full, .s [], .v (.bool false), .v (.int .i64 0), .sl [] .full, .sl [] .full, .sl [] .full, .sl [] .full, .v (.int .i64 0)],none⟩,
 ⟨.other,1,8, .v .nilFunc,none⟩,
 ⟨.ptr 61,1,8, .v (.pointer none),none⟩,
 ⟨.other,1,8, .v .nilFunc,none⟩,
 ⟨.other,1,8, .v .nilFunc,none⟩,
 ⟨.strct [(0,3),(1,3),(2,9)],3,32, .agg [.v (.int .i64 0), .v (.int .i64 0), .s []],some (1,[.int .i64, .int .i64, .str])⟩,
 ⟨.strct [(0,3),(1,3),(2,9)],3,32, .agg [.v (.int .i64 0), .v (.int .i64 0), .s []],some (1,[.int .i64, .int .i64, .str])⟩,
 ⟨.strct [(0,3),(1,9),(2,9),(3,9),(4,9),(5,42),(8,3),(9,9),(10,9),(11,4)],12,152, .agg [.v (.int .i64 0), .s [], .s [], .s [], .s [], .v (.int .i64 0), .v (.int .i64 0), .s [], .v (.int .i64 0), .s [], .s [], .v (.bool false)],some (2,[.int .i64, .str, .str, .str, .str, .int .i64, .int .i64, .str, .int .i64, .str, .str, .bool])⟩,
 ⟨.strct [(0,3),(1,9),(2,9),(3,9),(4,9),(5,42),(8,3),(9,9),(10,9),(11,4)],12,152, .agg [.v (.int .i64 0), .s [], .s [], .s [], .s [], .v (.int .i64 0), .v (.int .i64 0), .s [], .v (.int .i64 0), .s [], .s [], .v (.bool false)],some (2,[.int .i64, .str, .str, .str, .str, .int .i64, .int .i64, .str, .int .i64, .str, .str, .bool])⟩,
 ⟨.other,1,8, .v .nilFunc,none⟩,
 ⟨.int .i64,1,8, .v (.int .i64 0),some (0,[.int .i64])⟩,
 ⟨.other,1,8, .v .nilFunc,none⟩,
 ⟨.other,1,8, .v .nilFunc,none⟩,
 ⟨.other,1,8, .v .nilFunc,none⟩,
 ⟨.slice 123,1,24, .sl [] .full,none⟩,
 ⟨.other,1,8, .v .nilFunc,none⟩,
 ⟨.other,0,0,default,none⟩,
 ⟨.other,1,8, .v .nilFunc,none⟩,
 ⟨.slice 131,1,24, .sl [] .full,none⟩,
 ⟨.slice 96,1,24, .sl [] .full,none⟩,
 ⟨.strct [(0,9),(1,9),(2,9),(3,54),(4,55)],5,96, .agg [.s [], .s [], .s [], .sl [] .full, .sl [] .full],none⟩,
 ⟨.strct [(0,9),(1,9),(2,9),(3,54),(4,55)],5,96, .agg [.s [], .s [], .s [], .sl [] .full, .sl [] .full],none⟩,
 ⟨.other,0,0,default,none⟩,
 ⟨.other,1,8, .v .nilFunc,none⟩,
 ⟨.other,1,8, .v .nilFunc,none⟩,
 ⟨.strct [(0,3),(1,24),(2,25),(3,26),(4,27),(5,34),(12,3)],13,240, .agg [.v (.int .i64 0), .sl [] .full, .sl [] .full, .sl [] .full, .sl [] .full, .s [], .v (.bool false), .v (.int .i64 0), .sl [] .full, .sl [] .full, .sl [] .full, .sl [] .full, .v (.int .i64 0)],none⟩,
 ⟨.other,1,8, .v .nilFunc,none⟩,
 ⟨.other,1,8, .v .nilFunc,none⟩,
 ⟨.other,1,8, .v .nilFunc,none⟩,
 ⟨.other,1,8, .v .nilFunc,none⟩,
 ⟨.other,1,8, .v .nilFunc,none⟩,
 ⟨.other,1,8, .v .nilFunc,none⟩,
 ⟨.other,1,8, .v .nilFunc,none⟩,
 ⟨.other,1,8, .v .nilFunc,none⟩,
 ⟨.strct [(0,9),(1,9)],2,32, .agg [.s [], .s []],some (1,[.str, .str])⟩,
 ⟨.strct [(0,9),(1,9)],2,32, .agg [.s [], .s []],some (1,[.str, .str])⟩,
 ⟨.other,1,8, .v .nilFunc,none⟩,
 ⟨.cplx .f64,1,16, .v (.complex .f64 0 0),some (0,[.cplx .f64])⟩,
 ⟨.cplx .f64,1,16, .v (.complex .f64 0 0),some (0,[.cplx .f64])⟩,
 ⟨.strct [(0,46),(1,74),(2,4),(3,42),(6,4),(7,3)],8,80, .agg [.v (.int .i64 0), .v (.complex .f64 0 0), .v (.bool false), .v (.int .i64 0), .v (.int .i64 0), .s [], .v (.bool false), .v (.int .i64 0)],some (2,[.int .i64, .cplx .f64, .bool, .int .i64, .int .i64, .str, .bool, .int .i64])⟩,
 ⟨.strct [(0,46),(1,74),(2,4),(3,42),(6,4),(7,3)],8,80, .agg [.v (.int .i64 0), .v (.complex .f64 0 0), .v (.bool false), .v (.int .i64 0), .v (.int .i64 0), .s [], .v (.bool false), .v (.int .i64 0)],some (2,[.int .i64, .cplx .f64, .bool, .int .i64, .int .i64, .str, .bool, .int .i64])⟩,
 ⟨.strct [(0,44),(12,3),(13,74),(14,4),(15,32)],16,208, .agg [.v (.int .i64 0), .s [], .s [], .s [], .s [], .v (.int .i64 0), .v (.int .i64 0), .s [], .v (.int .i64 0), .s [], .s [], .v (.bool false), .v (.int .i64 0), .v (.complex .f64 0 0), .v (.bool false), .sl [] .full],none⟩,
 ⟨.strct [(0,44),(12,3),(13,74),(14,4),(15,32)],16,208, .agg [.v (.int .i64 0), .s [], .s [], .s [], .s [], .v (.int .i64 0), .v (.int .i64 0), .s [], .v (.int .i64 0), .s [], .s [], .v (.bool false), .v (.int .i64 0), .v (.complex .f64 0 0), .v (.bool false), .sl [] .full],none⟩,
 ⟨.other,0,0,default,none⟩,
 ⟨.other,1,8, .v .nilFunc,none⟩,
 ⟨.strct [(0,3),(1,3),(2,9),(3,9),(4,9),(5,9),(6,4)],7,88, .agg [.v (.int .i64 0), .v (.int .i64 0), .s [], .s [], .s [], .s [], .v (.bool false)],some (1,[.int .i64, .int .i64, .str, .str, .str, .str, .bool])⟩,
 ⟨.strct [(0,3),(1,3),(2,9),(3,9),(4,9),(5,9),(6,4)],7,88, .agg [.v (.int .i64 0), .v (.int .i64 0), .s [], .s [], .s [], .s [], .v (.bool false)],some (1,[.int .i64, .int .i64, .str, .str, .str, .str, .bool])⟩,
 ⟨.other,1,8, .v .nilFunc,none⟩,
 ⟨.strct [(0,74),(1,32)],2,40, .agg [.v (.complex .f64 0 0), .sl [] .full],none⟩,
 ⟨.strct [(0,74),(1,32)],2,40, .agg [.v (.complex .f64 0 0), .sl [] .full],none⟩,
 ⟨.other,0,0,default,none⟩,
 ⟨.other,1,8, .v .nilFunc,none⟩,
 ⟨.other,1,8, .v .nilFunc,none⟩,
 ⟨.strct [(0,3),(1,3),(2,9)],3,32, .agg [.v (.int .i64 0), .v (.int .i64 0), .s []],some (1,[.int .i64, .int .i64, .str])⟩,
 ⟨.strct [(0,3),(1,3),(2,9)],3,32, .agg [.v (.int .i64 0), .v (.int .i64 0), .s []],some (1,[.int .i64, .int .i64, .str])⟩,
 ⟨.other,1,8, .v .nilFunc,none⟩,
 ⟨.other,1,8, .v .nilFunc,none⟩,
 ⟨.other,1,8, .v .nilFunc,none⟩,
 ⟨.other,1,8, .v .nilFunc,none⟩,
 ⟨.strct [(0,3),(1,9),(2,9)],3,40, .agg [.v (.int .i64 0), .s [], .s []],some (1,[.int .i64, .str, .str])⟩,
 ⟨.strct [(0,3),(1,9),(2,9)],3,40, .agg [.v (.int .i64 0), .s [], .s []],some (1,[.int .i64, .str, .str])⟩,
 ⟨.strct [(0,3),(1,9),(2,9)],3,40, .agg [.v (.int .i64 0), .s [], .s []],some (1,[.int .i64, .str, .str])⟩,
 ⟨.strct [(0,3),(1,9),(2,9)],3,40, .agg [.v (.int .i64 0), .s [], .s []],some (1,[.int .i64, .str, .str])⟩,
 ⟨.other,1,8, .v .nilFunc,none⟩,
 ⟨.other,1,8, .v .nilFunc,none⟩,
 ⟨.other,1,8, .v .nilFunc,none⟩,
 ⟨.other,1,8, .v .nilFunc,none⟩,
 ⟨.other,1,8, .v .nilFunc,none⟩,
 ⟨.other,1,8, .v .nilFunc,none⟩,
 ⟨.slice 78,1,24, .sl [] .full,none⟩,
 ⟨.other,1,8, .v .nilFunc,none⟩,
 ⟨.other,0,0,default,none⟩,
 ⟨.other,1,8, .v .nilFunc,none⟩,
 ⟨.other,1,8, .v .nilFunc,none⟩,
 ⟨.slice 3,1,24, .sl [] .full,none⟩,
 ⟨.other,1,8, .v .nilFunc,none⟩,
 ⟨.other,1,8, .v .nilFunc,none⟩,
 ⟨.other,1,8, .v .nilFunc,none⟩,
 ⟨.other,1,8, .v .nilFunc,none⟩,
 ⟨.other,0,0,default,none⟩,
 ⟨.other,1,8, .v .nilFunc,none⟩,
 ⟨.other,0,0,default,none⟩,
 ⟨.other,1,8, .v .nilFunc,none⟩,
 ⟨.other,1,8, .v .nilFunc,none⟩,
 ⟨.other,1,8, .v .nilFunc,none⟩,
 ⟨.slice 42,1,24, .sl [] .full,none⟩,
 ⟨.strct [(0,3),(1,9),(2,121)],3,48, .agg [.v (.int .i64 0), .s [], .sl [] .full],none⟩,
 ⟨.strct [(0,3),(1,9),(2,121)],3,48, .agg [.v (.int .i64 0), .s [], .sl [] .full],none⟩,
 ⟨.other,1,8, .v .nilFunc,none⟩,
 ⟨.other,1,8, .v .nilFunc,none⟩,
 ⟨.other,1,8, .v .nilFunc,none⟩,
 ⟨.other,1,8, .v .nilFunc,none⟩,
 ⟨.other,1,8, .v .nilFunc,none⟩,
 ⟨.other,1,8, .v .nilFunc,none⟩,
 ⟨.strct [(0,9),(1,42)],4,48, .agg [.s [], .v (.int .i64 0), .v (.int .i64 0), .s []],some (2,[.str, .int .i64, .int .i64, .str])⟩,
 ⟨.strct [(0,9),(1,42)],4,48, .agg [.s [], .v (.int .i64 0), .v (.int .i64 0), .s []],some (2,[.str, .int .i64, .int .i64, .str])⟩,
 ⟨.other,1,8, .v .nilFunc,none⟩,
 ⟨.other,1,8, .v .nilFunc,none⟩,
 ⟨.other,1,8, .v .nilFunc,none⟩,
 ⟨.other,1,8, .v .nilFunc,none⟩,
 ⟨.other,1,8, .v .nilFunc,none⟩,
 ⟨.other,1,8, .v .nilFunc,none⟩,
 ⟨.other,1,8, .v .nilFunc,none⟩,
 ⟨.ptr 57,1,8, .v (.pointer none),none⟩,
 ⟨.other,1,8, .v .nilFunc,none⟩,
 ⟨.other,1,8, .v .nilFunc,none⟩,
 ⟨.other,1,8, .v .nilFunc,none⟩,
 ⟨.other,1,8, .v .nilFunc,none⟩,
 ⟨.other,1,8, .v .nilFunc,none⟩,
 ⟨.other,1,8, .v .nilFunc,none⟩,
 ⟨.other,1,8, .v .nilFunc,none⟩,
 ⟨.other,1,8, .v .nilFunc,none⟩,
 ⟨.ptr 36,1,8, .v (.pointer none),none⟩,
 ⟨.other,1,8, .v .nilFunc,none⟩,
 ⟨.other,1,8, .v .nilFunc,none⟩,
 ⟨.other,1,8, .v .nilFunc,none⟩,
 ⟨.other,1,8, .v .nilFunc,none⟩,
 ⟨.other,1,8, .v .nilFunc,none⟩,
 ⟨.other,1,8, .v .nilFunc,none⟩,
 ⟨.other,1,8, .v .nilFunc,none⟩,
 ⟨.other,1,8, .v .nilFunc,none⟩,
 ⟨.other,0,0,default,none⟩,
 ⟨.other,1,8, .v .nilFunc,none⟩,
 ⟨.other,1,8, .v .nilFunc,none⟩,
 ⟨.slice 168,1,24, .sl [] .full,none⟩,
 ⟨.other,0,0,default,none⟩,
 ⟨.other,1,8, .v .nilFunc,none⟩,
 ⟨.ptr 165,1,8, .v (.pointer none),none⟩,
 ⟨.strct [(0,160),(1,3),(2,3),(3,46),(4,3)],5,56, .agg [.sl [] .full, .v (.int .i64 0), .v (.int .i64 0), .v (.int .i64 0), .v (.int .i64 0)],none⟩,
 ⟨.strct [(0,160),(1,3),(2,3),(3,46),(4,3)],5,56, .agg [.sl [] .full, .v (.int .i64 0), .v (.int .i64 0), .v (.int .i64 0), .v (.int .i64 0)],none⟩,
 ⟨.other,1,8, .v .nilFunc,none⟩,
 ⟨.strct [(0,3),(1,3),(2,3),(3,9)],4,40, .agg [.v (.int .i64 0), .v (.int .i64 0), .v (.int .i64 0), .s []],some (1,[.int .i64, .int .i64, .int .i64, .str])⟩,
 ⟨.strct [(0,3),(1,3),(2,3),(3,9)],4,40, .agg [.v (.int .i64 0), .v (.int .i64 0), .v (.int .i64 0), .s []],some (1,[.int .i64, .int .i64, .int .i64, .str])⟩,
 ⟨.other,1,8, .v .nilFunc,none⟩,
 ⟨.other,1,8, .v .nilFunc,none⟩,
 ⟨.other,0,0,default,none⟩,
 ⟨.other,1,8, .v .nilFunc,none⟩,
 ⟨.ptr 175,1,8, .v (.pointer none),none⟩,
 ⟨.strct [(0,160),(1,3),(2,3),(3,3),(4,3)],5,56, .agg [.sl [] .full, .v (.int .i64 0), .v (.int .i64 0), .v (.int .i64 0), .v (.int .i64 0)],none⟩,
 ⟨.strct [(0,160),(1,3),(2,3),(3,3),(4,3)],5,56, .agg [.sl [] .full, .v (.int .i64 0), .v (.int .i64 0), .v (.int .i64 0), .v (.int .i64 0)],none⟩,
 ⟨.other,1,8, .v .nilFunc,none⟩,
 ⟨.other,1,8, .v .nilFunc,none⟩,
 ⟨.other,1,8, .v .nilFunc,none⟩,
 ⟨.slice 186,1,24, .sl [] .full,none⟩,
 ⟨.strct [(0,9),(1,4),(2,29),(3,179),(4,32)],5,96, .agg [.s [], .v (.bool false), .sl [] .full, .sl [] .full, .sl [] .full],none⟩,
 ⟨.strct [(0,9),(1,4),(2,29),(3,179),(4,32)],5,96, .agg [.s [], .v (.bool false), .sl [] .full, .sl [] .full, .sl [] .full],none⟩,
 ⟨.other,1,8, .v .nilFunc,none⟩,
 ⟨.strct [(0,3),(1,9),(2,4)],3,32, .agg [.v (.int .i64 0), .s [], .v (.bool false)],some (1,[.int .i64, .str, .bool])⟩,
 ⟨.strct [(0,3),(1,9),(2,4)],3,32, .agg [.v (.int .i64 0), .s [], .v (.bool false)],some (1,[.int .i64, .str, .bool])⟩,
 ⟨.strct [(0,3),(1,42),(4,184)],7,72, .agg [.v (.int .i64 0), .v (.int .i64 0), .v (.int .i64 0), .s [], .v (.int .i64 0), .s [], .v (.bool false)],some (2,[.int .i64, .int .i64, .int .i64, .str, .int .i64, .str, .bool])⟩,
 ⟨.strct [(0,3),(1,42),(4,184)],7,72, .agg [.v (.int .i64 0), .v (.int .i64 0), .v (.int .i64 0), .s [], .v (.int .i64 0), .s [], .v (.bool false)],some (2,[.int .i64, .int .i64, .int .i64, .str, .int .i64, .str, .bool])⟩,
 ⟨.other,1,8, .v .nilFunc,none⟩,
 ⟨.other,1,8, .v .nilFunc,none⟩,
 ⟨.slice 9,1,24, .sl [] .full,none⟩,
 ⟨.other,1,8, .v .nilFunc,none⟩,
 ⟨.other,1,8, .v .nilFunc,none⟩,
 ⟨.other,1,8, .v .nilFunc,none⟩,
 ⟨.other,1,8, .v .nilFunc,none⟩,
 ⟨.other,1,8, .v .nilFunc,none⟩,
 ⟨.other,1,8, .v .nilFunc,none⟩,
 ⟨.other,1,8, .v .nilFunc,none⟩,
 ⟨.other,1,8, .v .nilFunc,none⟩,
 ⟨.other,1,8, .v .nilFunc,none⟩,
 ⟨.other,1,8, .v .nilFunc,none⟩,
 ⟨.other,1,8, .v .nilFunc,none⟩,
 ⟨.other,1,8, .v .nilFunc,none⟩,
 ⟨.other,1,8, .v .nilFunc,none⟩,
 ⟨.other,1,8, .v .nilFunc,none⟩,
 ⟨.other,1,8, .v .nilFunc,none⟩,
 ⟨.ptr 208,1,8, .v (.pointer none),none⟩,
 ⟨.map 9 323,1,8, .v (.map none),none⟩,
 ⟨.strct [(0,206),(1,3)],2,16, .agg [.v (.map none), .v (.int .i64 0)],none⟩,
 ⟨.strct [(0,206),(1,3)],2,16, .agg [.v (.map none), .v (.int .i64 0)],none⟩,
 ⟨.other,1,8, .v .nilFunc,none⟩,
 ⟨.other,1,8, .v .nilFunc,none⟩,
 ⟨.slice 85,1,24, .sl [] .full,none⟩,
 ⟨.other,1,8, .v .nilFunc,none⟩,
 ⟨.other,1,8, .v .nilFunc,none⟩,
 ⟨.other,1,8, .v .nilFunc,none⟩,
 ⟨.slice 74,1,24, .sl [] .full,none⟩,
 ⟨.other,0,0,default,none⟩,
 ⟨.other,1,8, .v .nilFunc,none⟩,
 ⟨.other,1,8, .v .nilFunc,none⟩,
 ⟨.other,1,8, .v .nilFunc,none⟩,
 ⟨.other,0,0,default,none⟩,
 ⟨.other,1,8, .v .nilFunc,none⟩,
 ⟨.other,1,8, .v .nilFunc,none⟩,
 ⟨.other,1,8, .v .nilFunc,none⟩,
 ⟨.other,1,8, .v .nilFunc,none⟩,
 ⟨.other,1,8, .v .nilFunc,none⟩,
 ⟨.other,1,8, .v .nilFunc,none⟩,
 ⟨.other,1,8, .v .nilFunc,none⟩,
 ⟨.other,1,8, .v .nilFunc,none⟩,
 ⟨.other,1,8, .v .nilFunc,none⟩,
 ⟨.other,1,8, .v .nilFunc,none⟩,
 ⟨.int .u64,1,8, .v (.int .u64 0),some (0,[.int .u64])⟩,
 ⟨.other,0,0,default,none⟩,
 ⟨.other,1,8, .v .nilFunc,none⟩,
 ⟨.other,0,0,default,none⟩,
 ⟨.other,1,8, .v .nilFunc,none⟩,
 ⟨.slice 5,1,24, .sl [] .full,none⟩,
 ⟨.other,1,8, .v .nilFunc,none⟩,
 ⟨.other,1,8, .v .nilFunc,none⟩,
 ⟨.ptr 241,1,8, .v (.pointer none),none⟩,
 ⟨.strct [(0,189),(1,3)],2,32, .agg [.sl [] .full, .v (.int .i64 0)],none⟩,
 ⟨.strct [(0,189),(1,3)],2,32, .agg [.sl [] .full, .v (.int .i64 0)],none⟩,
 ⟨.other,1,8, .v .nilFunc,none⟩,
 ⟨.slice 247,1,24, .sl [] .full,none⟩,
 ⟨.other,1,8, .v .nilFunc,none⟩,
 ⟨.strct [(0,184),(3,3),(4,42)],7,72, .agg [.v (.int .i64 0), .s [], .v (.bool false), .v (.int .i64 0), .v (.int .i64 0), .v (.int .i64 0), .s []],some (2,[.int .i64, .str, .bool, .int .i64, .int .i64, .int .i64, .str])⟩,
 ⟨.strct [(0,184),(3,3),(4,42)],7,72, .agg [.v (.int .i64 0), .s [], .v (.bool false), .v (.int .i64 0), .v (.int .i64 0), .v (.int .i64 0), .s []],some (2,[.int .i64, .str, .bool, .int .i64, .int .i64, .int .i64, .str])⟩,
 ⟨.slice 246,1,24, .sl [] .full,none⟩,
 ⟨.other,1,8, .v .nilFunc,none⟩,
 ⟨.other,1,8, .v .nilFunc,none⟩,
 ⟨.other,1,8, .v .nilFunc,none⟩,
 ⟨.other,1,8, .v .nilFunc,none⟩,
 ⟨.other,1,8, .v .nilFunc,none⟩,
 ⟨.other,1,8, .v .nilFunc,none⟩,
 ⟨.other,1,8, .v .nilFunc,none⟩,
 ⟨.other,1,8, .v .nilFunc,none⟩,
 ⟨.other,1,8, .v .nilFunc,none⟩,
 ⟨.other,1,8, .v .nilFunc,none⟩,
 ⟨.other,1,8, .v .nilFunc,none⟩,
 ⟨.other,1,8, .v .nilFunc,none⟩,
 ⟨.other,1,8, .v .nilFunc,none⟩,
 ⟨.other,1,8, .v .nilFunc,none⟩,
 ⟨.other,0,0,default,none⟩,
 ⟨.other,1,8, .v .nilFunc,none⟩,
 ⟨.other,1,8, .v .nilFunc,none⟩,
 ⟨.other,1,8, .v .nilFunc,none⟩,
 ⟨.other,1,8, .v .nilFunc,none⟩,
 ⟨.other,0,0,default,none⟩,
 ⟨.other,1,8, .v .nilFunc,none⟩,
 ⟨.other,0,0,default,none⟩,
 ⟨.other,1,8, .v .nilFunc,none⟩,
 ⟨.other,0,0,default,none⟩,
 ⟨.other,1,8, .v .nilFunc,none⟩,
 ⟨.other,1,8, .v .nilFunc,none⟩,
 ⟨.other,1,8, .v .nilFunc,none⟩,
 ⟨.other,1,8, .v .nilFunc,none⟩,
 ⟨.other,1,8, .v .nilFunc,none⟩,
 ⟨.other,0,0,default,none⟩,
 ⟨.other,1,8, .v .nilFunc,none⟩,
 ⟨.int .u64,1,8, .v (.int .u64 0),some (0,[.int .u64])⟩,
 ⟨.other,1,8, .v .nilFunc,none⟩,
 ⟨.other,1,8, .v .nilFunc,none⟩,
 ⟨.other,0,0,default,none⟩,
 ⟨.other,1,8, .v .nilFunc,none⟩,
 ⟨.other,1,8, .v .nilFunc,none⟩,
 ⟨.other,1,8, .v .nilFunc,none⟩,
 ⟨.other,1,8, .v .nilFunc,none⟩,
 ⟨.other,1,8, .v .nilFunc,none⟩,
 ⟨.other,1,8, .v .nilFunc,none⟩,
 ⟨.other,1,8, .v .nilFunc,none⟩,
 ⟨.other,0,0,default,none⟩,
 ⟨.other,1,8, .v .nilFunc,none⟩,
 ⟨.other,1,8, .v .nilFunc,none⟩,
 ⟨.other,1,8, .v .nilFunc,none⟩,
 ⟨.other,1,8, .v .nilFunc,none⟩,
 ⟨.other,0,0,default,none⟩,
 ⟨.other,1,8, .v .nilFunc,none⟩,
 ⟨.strct [(0,121),(1,42),(4,46)],5,64, .agg [.sl [] .full, .v (.int .i64 0), .v (.int .i64 0), .s [], .v (.int .i64 0)],none⟩,
 ⟨.strct [(0,121),(1,42),(4,46)],5,64, .agg [.sl [] .full, .v (.int .i64 0), .v (.int .i64 0), .s [], .v (.int .i64 0)],none⟩,
 ⟨.other,1,8, .v .nilFunc,none⟩,
 ⟨.other,1,8, .v .nilFunc,none⟩,
 ⟨.other,0,0,default,none⟩,
 ⟨.other,1,8, .v .nilFunc,none⟩,
 ⟨.other,0,0,default,none⟩,
 ⟨.other,1,8, .v .nilFunc,none⟩,
 ⟨.other,0,0,default,none⟩,
 ⟨.other,1,8, .v .nilFunc,none⟩,
 ⟨.other,1,8, .v .nilFunc,none⟩,
 ⟨.other,1,8, .v .nilFunc,none⟩,
 ⟨.iface,1,16, .v .nilIface,none⟩,
 ⟨.iface,1,16, .v .nilIface,none⟩,
 ⟨.other,0,0,default,none⟩,
 ⟨.other,1,8, .v .nilFunc,none⟩,
 ⟨.other,1,8, .v .nilFunc,none⟩,
 ⟨.other,1,8, .v .nilFunc,none⟩,
 ⟨.other,1,8, .v .nilFunc,none⟩,
 ⟨.other,1,8, .v .nilFunc,none⟩,
 ⟨.slice 4,1,24, .sl [] .full,none⟩,
 ⟨.other,1,8, .v .nilFunc,none⟩,
 ⟨.other,0,0,default,none⟩,
 ⟨.other,1,8, .v .nilFunc,none⟩,
 ⟨.other,0,0,default,none⟩,
 ⟨.other,1,8, .v .nilFunc,none⟩,
 ⟨.strct [],0,0,default,none⟩,
 ⟨.other,0,0,default,none⟩,
 ⟨.other,1,8, .v .nilFunc,none⟩,
 ⟨.other,0,0,default,none⟩,
 ⟨.other,1,8, .v .nilFunc,none⟩,
 ⟨.slice 298,1,24, .sl [] .full,none⟩,
 ⟨.other,1,8, .v .nilFunc,none⟩,
 ⟨.other,1,8, .v .nilFunc,none⟩,
 ⟨.other,1,8, .v .nilFunc,none⟩,
 ⟨.other,0,0,default,none⟩,
 ⟨.other,1,8, .v .nilFunc,none⟩,
 ⟨.other,1,8, .v .nilFunc,none⟩,
 ⟨.other,1,8, .v .nilFunc,none⟩,
 ⟨.other,1,8, .v .nilFunc,none⟩,
 ⟨.other,1,8, .v .nilFunc,none⟩,
 ⟨.slice 340,1,24, .sl [] .full,none⟩,
 ⟨.strct [(0,121),(1,42),(4,3)],5,64, .agg [.sl [] .full, .v (.int .i64 0), .v (.int .i64 0), .s [], .v (.int .i64 0)],none⟩,
 ⟨.strct [(0,121),(1,42),(4,3)],5,64, .agg [.sl [] .full, .v (.int .i64 0), .v (.int .i64 0), .s [], .v (.int .i64 0)],none⟩,
 ⟨.other,1,8, .v .nilFunc,none⟩,
 ⟨.other,1,8, .v .nilFunc,none⟩,
 ⟨.other,1,8, .v .nilFunc,none⟩,
 ⟨.other,1,8, .v .nilFunc,none⟩,
 ⟨.other,1,8, .v .nilFunc,none⟩,
 ⟨.other,1,8, .v .nilFunc,none⟩,
 ⟨.other,1,8, .v .nilFunc,none⟩,
 ⟨.other,1,8, .v .nilFunc,none⟩,
 ⟨.other,1,8, .v .nilFunc,none⟩,
 ⟨.other,1,8, .v .nilFunc,none⟩,
 ⟨.other,1,8, .v .nilFunc,none⟩,
 ⟨.other,1,8, .v .nilFunc,none⟩,
 ⟨.other,1,8, .v .nilFunc,none⟩,
 ⟨.other,1,8, .v .nilFunc,none⟩,
 ⟨.other,1,8, .v .nilFunc,none⟩,
 ⟨.other,1,8, .v .nilFunc,none⟩,
 ⟨.int .i64,1,8, .v (.int .i64 0),some (0,[.int .i64])⟩,
 ⟨.other,0,0,default,none⟩,
 ⟨.other,1,8, .v .nilFunc,none⟩,
 ⟨.ptr 375,1,8, .v (.pointer none),none⟩,
 ⟨.other,1,8, .v .nilFunc,none⟩,
 ⟨.other,1,8, .v .nilFunc,none⟩,
 ⟨.other,0,0,default,none⟩,
 ⟨.other,1,8, .v .nilFunc,none⟩,
 ⟨.other,1,8, .v .nilFunc,none⟩,
 ⟨.other,1,8, .v .nilFunc,none⟩,
 ⟨.other,1,8, .v .nilFunc,none⟩,
 ⟨.other,1,8, .v .nilFunc,none⟩,
 ⟨.other,1,8, .v .nilFunc,none⟩,
 ⟨.other,1,8, .v .nilFunc,none⟩,
 ⟨.other,1,8, .v .nilFunc,none⟩,
 ⟨.other,0,0,default,none⟩,
 ⟨.other,1,8, .v .nilFunc,none⟩,
 ⟨.strct [(0,9),(1,9),(2,310)],3,48, .agg [.s [], .s [], .v .nilIface],none⟩,
 ⟨.strct [(0,9),(1,9),(2,310)],3,48, .agg [.s [], .s [], .v .nilIface],none⟩,
 ⟨.other,1,8, .v .nilFunc,none⟩,
 ⟨.other,1,8, .v .nilFunc,none⟩,
 ⟨.other,1,8, .v .nilFunc,none⟩,
 ⟨.other,0,0,default,none⟩,
 ⟨.other,1,8, .v .nilFunc,none⟩,
 ⟨.ptr 5,1,8, .v (.pointer none),none⟩,
 ⟨.ptr 384,1,8, .v (.pointer none),none⟩,
 ⟨.strct [(0,9)],1,16, .agg [.s []],some (1,[.str])⟩,
 ⟨.strct [(0,9)],1,16, .agg [.s []],some (1,[.str])⟩,
 ⟨.other,1,8, .v .nilFunc,none⟩,
 ⟨.arr 24 5,24,24, .agg [.v (.int .u8 0), .v (.int .u8 0), .v (.int .u8 0), .v (.int .u8 0), .v (.int .u8 0), .v (.int .u8 0), .v (.int .u8 0), .v (.int .u8 0), .v (.int .u8 0), .v (.int .u8 0), .v (.int .u8 0), .v (.int .u8 0), .v (.int .u8 0), .v (.int .u8 0), .v (.int .u8 0), .v (.int .u8 0), .v (.int .u8 0), .v (.int .u8 0), .v (.int .u8 0), .v (.int .u8 0), .v (.int .u8 0), .v (.int .u8 0), .v (.int .u8 0), .v (.int .u8 0)],some (1,[.int .u8, .int .u8, .int .u8, .int .u8, .int .u8, .int .u8, .int .u8, .int .u8, .int .u8, .int .u8, .int .u8, .int .u8, .int .u8, .int .u8, .int .u8, .int .u8, .int .u8, .int .u8, .int .u8, .int .u8, .int .u8, .int .u8, .int .u8, .int .u8])⟩,
 ⟨.other,1,8, .v .nilFunc,none⟩,
 ⟨.other,1,8, .v .nilFunc,none⟩,
 ⟨.other,0,0,default,none⟩,
 ⟨.other,1,8, .v .nilFunc,none⟩,
 ⟨.other,1,8, .v .nilFunc,none⟩,
 ⟨.arr 20 231,20,160, .agg [.v (.int .u64 0), .v (.int .u64 0), .v (.int .u64 0), .v (.int .u64 0), .v (.int .u64 0), .v (.int .u64 0), .v (.int .u64 0), .v (.int .u64 0), .v (.int .u64 0), .v (.int .u64 0), .v (.int .u64 0), .v (.int .u64 0), .v (.int .u64 0), .v (.int .u64 0), .v (.int .u64 0), .v (.int .u64 0), .v (.int .u64 0), .v (.int .u64 0), .v (.int .u64 0), .v (.int .u64 0)],some (1,[.int .u64, .int .u64, .int .u64, .int .u64, .int .u64, .int .u64, .int .u64, .int .u64, .int .u64, .int .u64, .int .u64, .int .u64, .int .u64, .int .u64, .int .u64, .int .u64, .int .u64, .int .u64, .int .u64, .int .u64])⟩,
 ⟨.int .u32,1,4, .v (.int .u32 0),some (0,[.int .u32])⟩,
 ⟨.arr 65 5,65,65, .agg [.v (.int .u8 0), .v (.int .u8 0), .v (.int .u8 0), .v (.int .u8 0), .v (.int .u8 0), .v (.int .u8 0), .v (.int .u8 0), .v (.int .u8 0), .v (.int .u8 0), .v (.int .u8 0), .v (.int .u8 0), .v (.int .u8 0), .v (.int .u8 0), .v (.int .u8 0), .v (.int .u8 0), .v (.int .u8 0), .v (.int .u8 0), .v (.int .u8 0), .v (.int .u8 0), .v (.int .u8 0), .v (.int .u8 0), .v (.int .u8 0), .v (.int .u8 0), .v (.int .u8 0), .v (.int .u8 0), .v (.int .u8 0), .v (.int .u8 0), .v (.int .u8 0), .v (.int .u8 0), .v (.int .u8 0), .v (.int .u8 0), .v (.int .u8 0), .v (.int .u8 0), .v (.int .u8 0), .v (.int .u8 0), .v (.int .u8 0), .v (.int .u8 0), .v (.int .u8 0), .v (.int .u8 0), .v (.int .u8 0), .v (.int .u8 0), .v (.int .u8 0), .v (.int .u8 0), .v (.int .u8 0), .v (.int .u8 0), .v (.int .u8 0), .v (.int .u8 0), .v (.int .u8 0), .v (.int .u8 0), .v (.int .u8 0), .v (.int .u8 0), .v (.int .u8 0), .v (.int .u8 0), .v (.int .u8 0), .v (.int .u8 0), .v (.int .u8 0), .v (.int .u8 0), .v (.int .u8 0), .v (.int .u8 0), .v (.int .u8 0), .v (.int .u8 0), .v (.int .u8 0), .v (.int .u8 0), .v (.int .u8 0), .v (.int .u8 0)],none⟩,
 ⟨.other,1,8, .v .nilFunc,none⟩,
 ⟨.other,1,8, .v .nilFunc,none⟩,
 ⟨.arr 32 5,32,32, .agg [.v (.int .u8 0), .v (.int .u8 0), .v (.int .u8 0), .v (.int .u8 0), .v (.int .u8 0), .v (.int .u8 0), .v (.int .u8 0), .v (.int .u8 0), .v (.int .u8 0), .v (.int .u8 0), .v (.int .u8 0), .v (.int .u8 0), .v (.int .u8 0), .v (.int .u8 0), .v (.int .u8 0), .v (.int .u8 0), .v (.int .u8 0), .v (.int .u8 0), .v (.int .u8 0), .v (.int .u8 0), .v (.int .u8 0), .v (.int .u8 0), .v (.int .u8 0), .v (.int .u8 0), .v (.int .u8 0), .v (.int .u8 0), .v (.int .u8 0), .v (.int .u8 0), .v (.int .u8 0), .v (.int .u8 0), .v (.int .u8 0), .v (.int .u8 0)],some (1,[.int .u8, .int .u8, .int .u8, .int .u8, .int .u8, .int .u8, .int .u8, .int .u8, .int .u8, .int .u8, .int .u8, .int .u8, .int .u8, .int .u8, .int .u8, .int .u8, .int .u8, .int .u8, .int .u8, .int .u8, .int .u8, .int .u8, .int .u8, .int .u8, .int .u8, .int .u8, .int .u8, .int .u8, .int .u8, .int .u8, .int .u8, .int .u8])⟩,
 ⟨.arr 64 5,64,64, .agg [.v (.int .u8 0), .v (.int .u8 0), .v (.int .u8 0), .v (.int .u8 0), .v (.int .u8 0), .v (.int .u8 0), .v (.int .u8 0), .v (.int .u8 0), .v (.int .u8 0), .v (.int .u8 0), .v (.int .u8 0), .v (.int .u8 0), .v (.int .u8 0), .v (.int .u8 0), .v (.int .u8 0), .v (.int .u8 0), .v (.int .u8 0), .v (.int .u8 0), .v (.int .u8 0), .v (.int .u8 0), .v (.int .u8 0), .v (.int .u8 0), .v (.int .u8 0), .v (.int .u8 0), .v (.int .u8 0), .v (.int .u8 0), .v (.int .u8 0), .v (.int .u8 0), .v (.int .u8 0), .v (.int .u8 0), .v (.int .u8 0), .v (.int .u8 0), .v (.int .u8 0), .v (.int .u8 0), .v (.int .u8 0), .v (.int .u8 0), .v (.int .u8 0), .v (.int .u8 0), .v (.int .u8 0), .v (.int .u8 0), .v (.int .u8 0), .v (.int .u8 0), .v (.int .u8 0), .v (.int .u8 0), .v (.int .u8 0), .v (.int .u8 0), .v (.int .u8 0), .v (.int .u8 0), .v (.int .u8 0), .v (.int .u8 0), .v (.int .u8 0), .v (.int .u8 0), .v (.int .u8 0), .v (.int .u8 0), .v (.int .u8 0), .v (.int .u8 0), .v (.int .u8 0), .v (.int .u8 0), .v (.int .u8 0), .v (.int .u8 0), .v (.int .u8 0), .v (.int .u8 0), .v (.int .u8 0), .v (.int .u8 0)],none⟩,
 ⟨.strct [(0,17),(1,17),(2,17),(3,9)],4,40, .agg [.v (.pointer none), .v (.pointer none), .v (.pointer none), .s []],none⟩,
 ⟨.strct [(0,17),(1,17),(2,17),(3,9)],4,40, .agg [.v (.pointer none), .v (.pointer none), .v (.pointer none), .s []],none⟩,
 ⟨.arr 0 16,0,0,default,none⟩,
 ⟨.other,0,0,default,none⟩,
 ⟨.other,0,0,default,none⟩,
 ⟨.other,1,8, .v .nilFunc,none⟩,
 ⟨.int .u8,1,1, .v (.int .u8 0),some (0,[.int .u8])⟩,
 ⟨.int .u8,1,1, .v (.int .u8 0),some (0,[.int .u8])⟩,
 ⟨.other,1,8, .v .nilFunc,none⟩,
 ⟨.int .i32,1,4, .v (.int .i32 0),some (0,[.int .i32])⟩,
 ⟨.int .i32,1,4, .v (.int .i32 0),some (0,[.int .i32])⟩,
 ⟨.strct [(0,12),(1,12),(2,393),(3,405),(4,5),(5,5),(6,406),(7,407),(8,381),(9,408),(10,409)],11,48, .agg [.v (.int .u64 0), .v (.int .u64 0), .v (.int .u32 0), .v (.int .u8 0), .v (.int .u8 0), .v (.int .u8 0), .v (.int .u8 0), .v .nilFunc, .v (.pointer none), .v (.int .i32 0), .v (.int .i32 0)],none⟩,
 ⟨.strct [(0,12),(1,12),(2,393),(3,405),(4,5),(5,5),(6,406),(7,407),(8,381),(9,408),(10,409)],11,48, .agg [.v (.int .u64 0), .v (.int .u64 0), .v (.int .u32 0), .v (.int .u8 0), .v (.int .u8 0), .v (.int .u8 0), .v (.int .u8 0), .v .nilFunc, .v (.pointer none), .v (.int .i32 0), .v (.int .i32 0)],none⟩,
 ⟨.other,1,8, .v (.pointer none),none⟩]
def U (t:TypeId):TI:=tyRows.getD t ⟨.other,0,0,default,none⟩
@[go_sem] theorem U3k:(U 3).k= .int .i64:=rfl
@[go_sem] theorem U3s:(U 3).sz=1:=rfl
@[go_sem] theorem U3b:(U 3).bytes=8:=rfl
@[go_sem] theorem U3z:(U 3).zero= .v (.int .i64 0):=rfl
@[go_sem] theorem U4k:(U 4).k= .bool:=rfl
@[go_sem] theorem U4s:(U 4).sz=1:=rfl
@[go_sem] theorem U4b:(U 4).bytes=1:=rfl
@[go_sem] theorem U4z:(U 4).zero= .v (.bool false):=rfl
@[go_sem] theorem U5k:(U 5).k= .int .u8:=rfl
@[go_sem] theorem U5s:(U 5).sz=1:=rfl
@[go_sem] theorem U5b:(U 5).bytes=1:=rfl
@[go_sem] theorem U5z:(U 5).zero= .v (.int .u8 0):=rfl
@[go_sem] theorem U9k:(U 9).k= .str:=rfl
@[go_sem] theorem U9s:(U 9).sz=1:=rfl
@[go_sem] theorem U9b:(U 9).bytes=16:=rfl
@[go_sem] theorem U9z:(U 9).zero= .s []:=rfl
@[go_sem] theorem U22k:(U 22).k= .slice 44:=rfl
@[go_sem] theorem U22s:(U 22).sz=1:=rfl
@[go_sem] theorem U22b:(U 22).bytes=24:=rfl
@[go_sem] theorem U22z:(U 22).zero= .sl [] .full:=rfl
@[go_sem] theorem U24k:(U 24).k= .slice 57:=rfl
@[go_sem] theorem U24s:(U 24).sz=1:=rfl
@[go_sem] theorem U24b:(U 24).bytes=24:=rfl
@[go_sem] theorem U24z:(U 24).zero= .sl [] .full:=rfl
@[go_sem] theorem U25k:(U 25).k= .slice 82:=rfl
@[go_sem] theorem U25s:(U 25).sz=1:=rfl
@[go_sem] theorem U25b:(U 25).bytes=24:=rfl
@[go_sem] theorem U25z:(U 25).zero= .sl [] .full:=rfl
@[go_sem] theorem U26k:(U 26).k= .slice 98:=rfl
@[go_sem] theorem U26s:(U 26).sz=1:=rfl
@[go_sem] theorem U26b:(U 26).bytes=24:=rfl
@[go_sem] theorem U26z:(U 26).zero= .sl [] .full:=rfl
@[go_sem] theorem U27k:(U 27).k= .slice 71:=rfl
@[go_sem] theorem U27s:(U 27).sz=1:=rfl
@[go_sem] theorem U27b:(U 27).bytes=24:=rfl
@[go_sem] theorem U27z:(U 27).zero= .sl [] .full:=rfl
@[go_sem] theorem U29k:(U 29).k= .slice 243:=rfl
@[go_sem] theorem U29s:(U 29).sz=1:=rfl
@[go_sem] theorem U29b:(U 29).bytes=24:=rfl
@[go_sem] theorem U29z:(U 29).zero= .sl [] .full:=rfl
@[go_sem] theorem U30k:(U 30).k= .slice 181:=rfl
@[go_sem] theorem U30s:(U 30).sz=1:=rfl
@[go_sem] theorem U30b:(U 30).bytes=24:=rfl
@[go_sem] theorem U30z:(U 30).zero= .sl [] .full:=rfl
@[go_sem] theorem U31k:(U 31).k= .slice 34:=rfl
@[go_sem] theorem U31s:(U 31).sz=1:=rfl
@[go_sem] theorem U31b:(U 31).bytes=24:=rfl
@[go_sem] theorem U31z:(U 31).zero= .sl [] .full:=rfl
@[go_sem] theorem U32k:(U 32).k= .slice 90:=rfl
@[go_sem] theorem U32s:(U 32).sz=1:=rfl
@[go_sem] theorem U32b:(U 32).bytes=24:=rfl
@[go_sem] theorem U32z:(U 32).zero= .sl [] .full:=rfl
@[go_sem] theorem U34k:(U 34).k= .strct [(0,9),(1,4),(2,3),(3,29),(4,30),(5,31),(6,32)]:=rfl
@[go_sem] theorem U34s:(U 34).sz=7:=rfl
@[go_sem] theorem U34b:(U 34).bytes=128:=rfl
@[go_sem] theorem U34z:(U 34).zero= .agg [.s [], .v (.bool false), .v (.int .i64 0), .sl [] .full, .sl [] .full, .sl [] .full, .sl [] .full]:=rfl
@[go_sem] theorem U36k:(U 36).k= .strct [(0,3),(1,24),(2,25),(3,26),(4,27),(5,34),(12,3)]:=rfl
@[go_sem] theorem U36s:(U 36).sz=13:=rfl
@[go_sem] theorem U36b:(U 36).bytes=240:=rfl
@[go_sem] theorem U36z:(U 36).zero= .agg [.v (.int .i64 0), .sl [] .full, .sl [] .full, .sl [] .full, .sl [] .full, .s [], .v (.bool false), .v (.int .i64 0), .sl [] .full, .sl [] .full, .sl [] .full, .sl [] .full, .v (.int .i64 0)]:=rfl
@[go_sem] theorem U42k:(U 42).k= .strct [(0,3),(1,3),(2,9)]:=rfl
@[go_sem] theorem U42s:(U 42).sz=3:=rfl
@[go_sem] theorem U42b:(U 42).bytes=32:=rfl
@[go_sem] theorem U42z:(U 42).zero= .agg [.v (.int .i64 0), .v (.int .i64 0), .s []]:=rfl
@[go_sem] theorem U42e:(U 42).eq=some (1,[.int .i64, .int .i64, .str]):=rfl
@[go_sem] theorem U44k:(U 44).k= .strct [(0,3),(1,9),(2,9),(3,9),(4,9),(5,42),(8,3),(9,9),(10,9),(11,4)]:=rfl
@[go_sem] theorem U44s:(U 44).sz=12:=rfl
@[go_sem] theorem U44b:(U 44).bytes=152:=rfl
@[go_sem] theorem U44z:(U 44).zero= .agg [.v (.int .i64 0), .s [], .s [], .s [], .s [], .v (.int .i64 0), .v (.int .i64 0), .s [], .v (.int .i64 0), .s [], .s [], .v (.bool false)]:=rfl
@[go_sem] theorem U44e:(U 44).eq=some (2,[.int .i64, .str, .str, .str, .str, .int .i64, .int .i64, .str, .int .i64, .str, .str, .bool]):=rfl
@[go_sem] theorem U46k:(U 46).k= .int .i64:=rfl
@[go_sem] theorem U46s:(U 46).sz=1:=rfl
@[go_sem] theorem U46b:(U 46).bytes=8:=rfl
@[go_sem] theorem U46z:(U 46).zero= .v (.int .i64 0):=rfl
@[go_sem] theorem U50k:(U 50).k= .slice 123:=rfl
@[go_sem] theorem U50s:(U 50).sz=1:=rfl
@[go_sem] theorem U50b:(U 50).bytes=24:=rfl
@[go_sem] theorem U50z:(U 50).zero= .sl [] .full:=rfl
@[go_sem] theorem U54k:(U 54).k= .slice 131:=rfl
@[go_sem] theorem U54s:(U 54).sz=1:=rfl
@[go_sem] theorem U54b:(U 54).bytes=24:=rfl
@[go_sem] theorem U54z:(U 54).zero= .sl [] .full:=rfl
@[go_sem] theorem U55k:(U 55).k= .slice 96:=rfl
@[go_sem] theorem U55s:(U 55).sz=1:=rfl
@[go_sem] theorem U55b:(U 55).bytes=24:=rfl
@[go_sem] theorem U55z:(U 55).zero= .sl [] .full:=rfl
@[go_sem] theorem U57k:(U 57).k= .strct [(0,9),(1,9),(2,9),(3,54),(4,55)]:=rfl
@[go_sem] theorem U57s:(U 57).sz=5:=rfl
@[go_sem] theorem U57b:(U 57).bytes=96:=rfl
@[go_sem] theorem U57z:(U 57).zero= .agg [.s [], .s [], .s [], .sl [] .full, .sl [] .full]:=rfl
@[go_sem] theorem U71k:(U 71).k= .strct [(0,9),(1,9)]:=rfl
@[go_sem] theorem U71s:(U 71).sz=2:=rfl
@[go_sem] theorem U71b:(U 71).bytes=32:=rfl
@[go_sem] theorem U71z:(U 71).zero= .agg [.s [], .s []]:=rfl
@[go_sem] theorem U71e:(U 71).eq=some (1,[.str, .str]):=rfl
@[go_sem] theorem U82k:(U 82).k= .strct [(0,3),(1,3),(2,9),(3,9),(4,9),(5,9),(6,4)]:=rfl
@[go_sem] theorem U82s:(U 82).sz=7:=rfl
@[go_sem] theorem U82b:(U 82).bytes=88:=rfl
@[go_sem] theorem U82z:(U 82).zero= .agg [.v (.int .i64 0), .v (.int .i64 0), .s [], .s [], .s [], .s [], .v (.bool false)]:=rfl
@[go_sem] theorem U90k:(U 90).k= .strct [(0,3),(1,3),(2,9)]:=rfl
@[go_sem] theorem U90s:(U 90).sz=3:=rfl
@[go_sem] theorem U90b:(U 90).bytes=32:=rfl
@[go_sem] theorem U90z:(U 90).zero= .agg [.v (.int .i64 0), .v (.int .i64 0), .s []]:=rfl
@[go_sem] theorem U96k:(U 96).k= .strct [(0,3),(1,9),(2,9)]:=rfl
@[go_sem] theorem U96s:(U 96).sz=3:=rfl
@[go_sem] theorem U96b:(U 96).bytes=40:=rfl
@[go_sem] theorem U96z:(U 96).zero= .agg [.v (.int .i64 0), .s [], .s []]:=rfl
@[go_sem] theorem U96e:(U 96).eq=some (1,[.int .i64, .str, .str]):=rfl
@[go_sem] theorem U98k:(U 98).k= .strct [(0,3),(1,9),(2,9)]:=rfl
@[go_sem] theorem U98s:(U 98).sz=3:=rfl
@[go_sem] theorem U98b:(U 98).bytes=40:=rfl
@[go_sem] theorem U98z:(U 98).zero= .agg [.v (.int .i64 0), .s [], .s []]:=rfl
@[go_sem] theorem U121k:(U 121).k= .slice 42:=rfl
@[go_sem] theorem U121s:(U 121).sz=1:=rfl
@[go_sem] theorem U121b:(U 121).bytes=24:=rfl
@[go_sem] theorem U121z:(U 121).zero= .sl [] .full:=rfl
@[go_sem] theorem U123k:(U 123).k= .strct [(0,3),(1,9),(2,121)]:=rfl
@[go_sem] theorem U123s:(U 123).sz=3:=rfl
@[go_sem] theorem U123b:(U 123).bytes=48:=rfl
@[go_sem] theorem U123z:(U 123).zero= .agg [.v (.int .i64 0), .s [], .sl [] .full]:=rfl
@[go_sem] theorem U131k:(U 131).k= .strct [(0,9),(1,42)]:=rfl
@[go_sem] theorem U131s:(U 131).sz=4:=rfl
@[go_sem] theorem U131b:(U 131).bytes=48:=rfl
@[go_sem] theorem U131z:(U 131).zero= .agg [.s [], .v (.int .i64 0), .v (.int .i64 0), .s []]:=rfl
@[go_sem] theorem U131e:(U 131).eq=some (2,[.str, .int .i64, .int .i64, .str]):=rfl
@[go_sem] theorem U160k:(U 160).k= .slice 168:=rfl
@[go_sem] theorem U160s:(U 160).sz=1:=rfl
@[go_sem] theorem U160b:(U 160).bytes=24:=rfl
@[go_sem] theorem U160z:(U 160).zero= .sl [] .full:=rfl
@[go_sem] theorem U165k:(U 165).k= .strct [(0,160),(1,3),(2,3),(3,46),(4,3)]:=rfl
@[go_sem] theorem U165s:(U 165).sz=5:=rfl
@[go_sem] theorem U165b:(U 165).bytes=56:=rfl
@[go_sem] theorem U165z:(U 165).zero= .agg [.sl [] .full, .v (.int .i64 0), .v (.int .i64 0), .v (.int .i64 0), .v (.int .i64 0)]:=rfl
@[go_sem] theorem U168k:(U 168).k= .strct [(0,3),(1,3),(2,3),(3,9)]:=rfl
@[go_sem] theorem U168s:(U 168).sz=4:=rfl
@[go_sem] theorem U168b:(U 168).bytes=40:=rfl
@[go_sem] theorem U168z:(U 168).zero= .agg [.v (.int .i64 0), .v (.int .i64 0), .v (.int .i64 0), .s []]:=rfl
@[go_sem] theorem U179k:(U 179).k= .slice 186:=rfl
@[go_sem] theorem U179s:(U 179).sz=1:=rfl
@[go_sem] theorem U179b:(U 179).bytes=24:=rfl
@[go_sem] theorem U179z:(U 179).zero= .sl [] .full:=rfl
@[go_sem] theorem U181k:(U 181).k= .strct [(0,9),(1,4),(2,29),(3,179),(4,32)]:=rfl
@[go_sem] theorem U181s:(U 181).sz=5:=rfl
@[go_sem] theorem U181b:(U 181).bytes=96:=rfl
@[go_sem] theorem U181z:(U 181).zero= .agg [.s [], .v (.bool false), .sl [] .full, .sl [] .full, .sl [] .full]:=rfl
@[go_sem] theorem U184k:(U 184).k= .strct [(0,3),(1,9),(2,4)]:=rfl
@[go_sem] theorem U184s:(U 184).sz=3:=rfl
@[go_sem] theorem U184b:(U 184).bytes=32:=rfl
@[go_sem] theorem U184z:(U 184).zero= .agg [.v (.int .i64 0), .s [], .v (.bool false)]:=rfl
@[go_sem] theorem U184e:(U 184).eq=some (1,[.int .i64, .str, .bool]):=rfl
@[go_sem] theorem U186k:(U 186).k= .strct [(0,3),(1,42),(4,184)]:=rfl
@[go_sem] theorem U186s:(U 186).sz=7:=rfl
@[go_sem] theorem U186b:(U 186).bytes=72:=rfl
@[go_sem] theorem U186z:(U 186).zero= .agg [.v (.int .i64 0), .v (.int .i64 0), .v (.int .i64 0), .s [], .v (.int .i64 0), .s [], .v (.bool false)]:=rfl
@[go_sem] theorem U189k:(U 189).k= .slice 9:=rfl
@[go_sem] theorem U189s:(U 189).sz=1:=rfl
@[go_sem] theorem U189b:(U 189).bytes=24:=rfl
@[go_sem] theorem U189z:(U 189).zero= .sl [] .full:=rfl
@[go_sem] theorem U206k:(U 206).k= .map 9 323:=rfl
@[go_sem] theorem U206s:(U 206).sz=1:=rfl
@[go_sem] theorem U206b:(U 206).bytes=8:=rfl
@[go_sem] theorem U206z:(U 206).zero= .v (.map none):=rfl
@[go_sem] theorem U208k:(U 208).k= .strct [(0,206),(1,3)]:=rfl
@[go_sem] theorem U208s:(U 208).sz=2:=rfl
@[go_sem] theorem U208b:(U 208).bytes=16:=rfl
@[go_sem] theorem U208z:(U 208).zero= .agg [.v (.map none), .v (.int .i64 0)]:=rfl
@[go_sem] theorem U236k:(U 236).k= .slice 5:=rfl
@[go_sem] theorem U236s:(U 236).sz=1:=rfl
@[go_sem] theorem U236b:(U 236).bytes=24:=rfl
@[go_sem] theorem U236z:(U 236).zero= .sl [] .full:=rfl
@[go_sem] theorem U243k:(U 243).k= .slice 247:=rfl
@[go_sem] theorem U243s:(U 243).sz=1:=rfl
@[go_sem] theorem U243b:(U 243).bytes=24:=rfl
@[go_sem] theorem U243z:(U 243).zero= .sl [] .full:=rfl
@[go_sem] theorem U246k:(U 246).k= .strct [(0,184),(3,3),(4,42)]:=rfl
@[go_sem] theorem U246s:(U 246).sz=7:=rfl
@[go_sem] theorem U246b:(U 246).bytes=72:=rfl
@[go_sem] theorem U246z:(U 246).zero= .agg [.v (.int .i64 0), .s [], .v (.bool false), .v (.int .i64 0), .v (.int .i64 0), .v (.int .i64 0), .s []]:=rfl
@[go_sem] theorem U247k:(U 247).k= .slice 246:=rfl
@[go_sem] theorem U247s:(U 247).sz=1:=rfl
@[go_sem] theorem U247b:(U 247).bytes=24:=rfl
@[go_sem] theorem U247z:(U 247).zero= .sl [] .full:=rfl
@[go_sem] theorem U317k:(U 317).k= .slice 4:=rfl
@[go_sem] theorem U317s:(U 317).sz=1:=rfl
@[go_sem] theorem U317b:(U 317).bytes=24:=rfl
@[go_sem] theorem U317z:(U 317).zero= .sl [] .full:=rfl
@[go_sem] theorem U323k:(U 323).k= .strct []:=rfl
@[go_sem] theorem U323s:(U 323).sz=0:=rfl
set_option maxRecDepth 100000 in
theorem hU:∀t,AgreeT Tryz.prog U t:=agree_all 413 (by kernel_rfl) fun t ht=>by
 unfold U
 rw [List.getD_eq_getElem?_getD,List.getElem?_eq_none (show tyRows.length≤t from ht)]
 rfl
theorem hm:Tryz.prog.follows .mixedOrders=true:=by kernel_rfl
end Go.Proofs.YtmlhcdeamjkpjaaGreatDoor

set_option linter.unusedSimpArgs false
set_option linter.unusedVariables false
namespace Go.Proofs.YtmlhcdeamjkpjaaGreatDoor
open Go Go.Ab Go.Bf
theorem name_ok (l:Txt) (h:Heap):FnOK Tryz.prog 56 [.s l] h fun r h' =>r= .v (.bool (nameOK l))∧h' =h:=by
 refine FnOK.body hU hm Tryz.func56 rfl (by kernel_rfl) 49 rfl [.tmp 2] rfl (Nat.le_of_ble_eq_true rfl) (fun hwf=> ?_)
 simp -implicitDefEqProofs only [go_sem]
 refine .intro (fun m ρ h' =>h' =h∧∃i:Nat,i≤l.length∧m=l.length - i∧chsOK (l.take i)=true∧lk ρ 0=some (.s l)∧lk ρ 8=some (.v (.int .i64 l.length))∧lk ρ 9=some (.v (.int .i64 i))) l.length ?_ ?_
 ·refine ⟨rfl,0,by omega,rfl,rfl, ?_, ?_, ?_⟩<;>simp -implicitDefEqProofs only [go_sem]
 ·rintro m ρ h' ⟨rfl,i,hi,rfl,hc,r0,r8,r9⟩
  simp -implicitDefEqProofs only [go_sem,r0,r8,r9]
  refine .intro (fun e=> ?_) (fun e=> ?_)
  ·have hlt:i<l.length:=Int.ofNat_lt.1 (of_decide_eq_true e)
   have w1:IntKind.i64.wrap ((i:Int)+1)=((i+1:Nat):Int):=by rw [wr64 _ (by have:=hwf (.s l) (by simp); simp only [wfA,wf1,lim] at this; omega)]; omega
   have w0:IntKind.i64.wrap (0+1)=1:=rfl
   have hb:=chsOK_bad l i hlt
   have hg:=chsOK_succ l i hlt
   rw [hc] at hg
   have hcl:=chCases l[i]
   have h255:=l[i].toNat_lt
   simp -implicitDefEqProofs only [go_sem,r0,r8,r9]
   refine .at i hlt ?_
   generalize hcc:l[i]=c at hb hg hcl h255⊢
   by_cases hi0:i=0
   ·subst hi0
    rcases hcl with ⟨a1,a2,a3,a4,a5⟩|⟨a1,a2,a3,a4,a5⟩|⟨a1,a2,a3,a4,a5⟩|⟨a1,a2,a3,a4,a5⟩|⟨a1,a2,a3,a4,a5⟩|⟨a1,a2,a3,a4,a5⟩
    ·simp -implicitDefEqProofs only [go_sem,r0,r8,r9,a1,a2,a3,a4,a5,w1,w0]
     refine ⟨_, ?_,rfl,0+1,by omega,rfl,by simp [hg,chOK,ltr,a1,a2], ?_, ?_, ?_⟩
     ·omega
     all_goals simp -implicitDefEqProofs only [go_sem,r0,r8,r9,w1,w0]
    all_goals
     simp -implicitDefEqProofs only [go_sem,r0,r8,r9,a1,a2,a3,a4,a5,w1]
     exact .same (.refl _) ⟨by simp [nameOK,hb (by simp [chOK,ltr,a1,a2]),oneOr],rfl⟩
   ·have hin:((i:Int)==0)=false:=by simp; omega
    rcases hcl with ⟨a1,a2,a3,a4,a5⟩|⟨a1,a2,a3,a4,a5⟩|⟨a1,a2,a3,a4,a5⟩|⟨a1,a2,a3,a4,a5⟩|⟨a1,a2,a3,a4,a5⟩|⟨a1,a2,a3,a4,a5⟩
    ·simp -implicitDefEqProofs only [go_sem,r0,r8,r9,a1,a2,a3,a4,a5,w1,hin]
     refine ⟨_, ?_,rfl,i+1,by omega,rfl,by simp [hg,chOK,ltr,dgt,a1,a2,a3,a4,a5,hi0], ?_, ?_, ?_⟩
     ·omega
     all_goals simp -implicitDefEqProofs only [go_sem,r0,r8,r9,w1]
    ·simp -implicitDefEqProofs only [go_sem,r0,r8,r9,a1,a2,a3,a4,a5,w1,hin]
     refine ⟨_, ?_,rfl,i+1,by omega,rfl,by simp [hg,chOK,ltr,dgt,a1,a2,a3,a4,a5,hi0], ?_, ?_, ?_⟩
     ·omega
     all_goals simp -implicitDefEqProofs only [go_sem,r0,r8,r9,w1]
    ·simp -implicitDefEqProofs only [go_sem,r0,r8,r9,a1,a2,a3,a4,a5,w1,hin]
     refine ⟨_, ?_,rfl,i+1,by omega,rfl,by simp [hg,chOK,ltr,dgt,a1,a2,a3,a4,a5,hi0], ?_, ?_, ?_⟩
     ·omega
     all_goals simp -implicitDefEqProofs only [go_sem,r0,r8,r9,w1]
    ·simp -implicitDefEqProofs only [go_sem,r0,r8,r9,a1,a2,a3,a4,a5,w1,hin]
     exact .same (.refl _) ⟨by simp [nameOK,hb (by simp [chOK,ltr,dgt,a1,a2,a3,a4,a5]),oneOr],rfl⟩
    ·simp -implicitDefEqProofs only [go_sem,r0,r8,r9,a1,a2,a3,a4,a5,w1,hin]
     exact .same (.refl _) ⟨by simp [nameOK,hb (by simp [chOK,ltr,dgt,a1,a2,a3,a4,a5]),oneOr],rfl⟩
    ·simp -implicitDefEqProofs only [go_sem,r0,r8,r9,a1,a2,a3,a4,a5,w1,hin]
     exact .same (.refl _) ⟨by simp [nameOK,hb (by simp [chOK,ltr,dgt,a1,a2,a3,a4,a5]),oneOr],rfl⟩
  ·have hge:i=l.length:=by have:=of_decide_eq_false e; omega
   subst hge
   rw [List.take_length] at hc
   by_cases h0:l= []
   ·subst h0
    have b0:((([]:Txt)== [])=true):=rfl
    simp -implicitDefEqProofs only [go_sem,r0,r8,r9,b0]
    exact .same (.refl _) ⟨rfl,rfl⟩
   ·have b0:(l== [])=false:=by simpa using h0
    have hp:1≤l.length:=List.length_pos_iff.2 h0
    simp -implicitDefEqProofs only [go_sem,r0,r8,r9,b0]
    exact .same (.refl _) ⟨by simp [nameOK,hc,oneOr,hp]; omega,rfl⟩
end Go.Proofs.YtmlhcdeamjkpjaaGreatDoor

set_option linter.unusedSimpArgs false
set_option linter.unusedVariables false
namespace Go.Proofs.YtmlhcdeamjkpjaaGreatDoor
open Go Go.Ab Go.Bf
theorem attr_ok (a:AttrD) (h:Heap):FnOK Tryz.prog 303 [attrA a] h fun r h' =>r= .v (.bool (attrOK a))∧h' =h:=by
 refine FnOK.body hU hm Tryz.func303 rfl (by kernel_rfl) 16 rfl [.tmp 2] rfl (Nat.le_of_ble_eq_true rfl) (fun hwf=> ?_)
 simp -implicitDefEqProofs only [go_sem,attrA]
 intro id hid
 cases d1:decide (1≤a.cat)
 ·simp -implicitDefEqProofs only [go_sem,d1]
  exact .mk _ (.refl _) (.upd_new hid) ⟨by simp [attrOK,d1,oneOr],rfl⟩
 cases d2:decide (a.cat≤4)
 ·simp -implicitDefEqProofs only [go_sem,d1,d2]
  exact .mk _ (.refl _) (.upd_new hid) ⟨by simp [attrOK,d1,d2,oneOr],rfl⟩
 simp -implicitDefEqProofs only [go_sem,d1,d2]
 refine (name_ok _ _).pthen ?_
 simp -implicitDefEqProofs only [go_sem,d1,d2]
 exact .mk _ (.refl _) (.upd_new hid) ⟨by simp [attrOK,d1,d2,oneOr],rfl⟩
theorem valRight_ok (v:ValD) (h:Heap):FnOK Tryz.prog 59 [valA v] h fun r h' =>r= .v (.bool (valOK v))∧h' =h:=by
 refine FnOK.body hU hm Tryz.func59 rfl (by kernel_rfl) 61 rfl [.tmp 2] rfl (Nat.le_of_ble_eq_true rfl) (fun hwf=> ?_)
 simp -implicitDefEqProofs only [go_sem,valA]
 intro id hid
 cases k1:(v.kind==1)
 case true=>
  have e1:v.kind=1:=by simpa using k1
  cases d1:(v.n==0)<;>cases d2:(v.n==1)
  ·simp -implicitDefEqProofs only [go_sem,k1,d1,d2]
   exact .mk _ (.refl _) (.upd_new hid) ⟨by simp [valOK,e1,d1,d2,oneOr],rfl⟩
  all_goals
   simp -implicitDefEqProofs only [go_sem,k1,d1,d2]
   exact .mk _ (.refl _) (.upd_new hid) ⟨by simp [valOK,e1,d1,d2,oneOr],rfl⟩
 have n1:v.kind≠1:=by simpa using k1
 cases k2:(v.kind==2)
 case true=>
  have e1:v.kind=2:=by simpa using k2
  simp -implicitDefEqProofs only [go_sem,k1,k2]
  exact .mk _ (.refl _) (.upd_new hid) ⟨by simp [valOK,e1,oneOr],rfl⟩
 have n2:v.kind≠2:=by simpa using k2
 cases k3:(v.kind==3)
 case true=>
  have e1:v.kind=3:=by simpa using k3
  cases d1:(v.n==0)
  all_goals
   simp -implicitDefEqProofs only [go_sem,k1,k2,k3,d1]
   exact .mk _ (.refl _) (.upd_new hid) ⟨by simp [valOK,e1,d1,oneOr]<;>omega,rfl⟩
 have n3:v.kind≠3:=by simpa using k3
 cases k4:(v.kind==4)
 case true=>
  have e1:v.kind=4:=by simpa using k4
  cases d1:decide (0≤v.n)<;>cases d2:decide (v.n≤1099511627776)
  all_goals
   simp -implicitDefEqProofs only [go_sem,k1,k2,k3,k4,d1,d2]
   exact .mk _ (.refl _) (.upd_new hid) ⟨by simp [valOK,e1,d1,d2,oneOr],rfl⟩
 have n4:v.kind≠4:=by simpa using k4
 cases k5:(v.kind==5)
 case true=>
  have e1:v.kind=5:=by simpa using k5
  cases d1:(v.n==0)
  ·simp -implicitDefEqProofs only [go_sem,k1,k2,k3,k4,k5,d1]
   exact .mk _ (.refl _) (.upd_new hid) ⟨by simp [valOK,e1,d1,oneOr],rfl⟩
  ·simp -implicitDefEqProofs only [go_sem,k1,k2,k3,k4,k5,d1]
   refine (name_ok _ _).pthen ?_
   simp -implicitDefEqProofs only [go_sem,d1]
   exact .mk _ (.refl _) (.upd_new hid) ⟨by simp [valOK,e1,d1,oneOr],rfl⟩
 have n5:v.kind≠5:=by simpa using k5
 simp -implicitDefEqProofs only [go_sem,k1,k2,k3,k4,k5]
 exact .mk _ (.refl _) (.upd_new hid) ⟨by simp [valOK,n1,n2,n3,n4,n5,oneOr],rfl⟩
theorem match_ok (m:MatchD) (h:Heap):FnOK Tryz.prog 302 [matchA m] h fun r h' =>r= .v (.bool (matchOK m))∧h' =h:=by
 refine FnOK.body hU hm Tryz.func302 rfl (by kernel_rfl) 21 rfl [.tmp 2] rfl (Nat.le_of_ble_eq_true rfl) (fun hwf=> ?_)
 simp -implicitDefEqProofs only [go_sem,matchA]
 intro id hid
 simp -implicitDefEqProofs only [go_sem]
 refine (attr_ok m.attr _).pthen ?_
 cases d0:attrOK m.attr
 ·simp -implicitDefEqProofs only [go_sem,d0]
  exact .mk _ (.refl _) (.upd_new hid) ⟨by simp [matchOK,d0,oneOr],rfl⟩
 cases d1:decide (1≤m.op)
 ·simp -implicitDefEqProofs only [go_sem,d0,d1]
  exact .mk _ (.refl _) (.upd_new hid) ⟨by simp [matchOK,d0,d1,oneOr],rfl⟩
 cases d2:decide (m.op≤3)
 ·simp -implicitDefEqProofs only [go_sem,d0,d1,d2]
  exact .mk _ (.refl _) (.upd_new hid) ⟨by simp [matchOK,d0,d1,d2,oneOr],rfl⟩
 simp -implicitDefEqProofs only [go_sem,d0,d1,d2]
 refine (valRight_ok m.val _).pthen ?_
 simp -implicitDefEqProofs only [go_sem,d0,d1,d2]
 exact .mk _ (.refl _) (.upd_new hid) ⟨by simp [matchOK,d0,d1,d2,oneOr],rfl⟩
theorem many_ok (n:Nat) (h:Heap):FnOK Tryz.prog 280 [.v (.int .i64 n)] h fun r h' =>r= .v (.int .i64 (manyE n))∧h' =h:=by
 refine FnOK.body hU hm Tryz.func280 rfl (by kernel_rfl) 9 rfl [.tmp 2] rfl (Nat.le_of_ble_eq_true rfl) (fun hwf=> ?_)
 cases d1:((n:Int)==0)
 case true=>
  have e1:n=0:=by simpa using d1
  simp -implicitDefEqProofs only [go_sem,d1]
  exact .same (.refl _) ⟨by simp [manyE,e1,oneOr],rfl⟩
 have e1:n≠0:=by simpa using d1
 cases d2:decide (8<(n:Int))
 ·have e2:¬n>8:=by have:=of_decide_eq_false d2; omega
  simp -implicitDefEqProofs only [go_sem,d1,d2]
  exact .same (.refl _) ⟨by simp [manyE,e1,e2,oneOr],rfl⟩
 ·have e2:n>8:=by have:=of_decide_eq_true d2; omega
  simp -implicitDefEqProofs only [go_sem,d1,d2]
  exact .same (.refl _) ⟨by simp [manyE,e1,e2,oneOr],rfl⟩
theorem manyE_le {n:Nat} (h:manyE n=0):1≤n∧n≤8:=by
 unfold manyE at h
 split at h
 ·cases h
 ·split at h
  ·cases h
  ·omega
theorem allOf_ok (l:List MatchD) (h:Heap):FnOK Tryz.prog 281 [allA l] h fun r h' =>r= .v (.int .i64 (allE l))∧h' =h:=by
 refine FnOK.body hU hm Tryz.func281 rfl (by kernel_rfl) 22 rfl [.tmp 2] rfl (Nat.le_of_ble_eq_true rfl) (fun hwf=> ?_)
 simp -implicitDefEqProofs only [go_sem,allA,List.length_map]
 refine (many_ok _ _).pthen ?_
 cases d1:(manyE l.length !=0)
 case true=>
  have e1:manyE l.length≠0:=by simpa using d1
  simp -implicitDefEqProofs only [go_sem,d1]
  exact .same (.refl _) ⟨by simp [allE,e1,oneOr],rfl⟩
 have e1:manyE l.length=0:=by simpa using d1
 have hlen:=manyE_le e1
 simp -implicitDefEqProofs only [go_sem,d1,List.length_map]
 refine .intro (fun m ρ h' =>Ab.Sub h h'∧∃i:Nat,i≤l.length∧m=l.length - i∧(l.take i).all matchOK=true∧lk ρ 12=some (allA l)∧lk ρ 13=some (.v (.int .i64 l.length))∧lk ρ 14=some (.v (.int .i64 i))) l.length ?_ ?_
 ·refine ⟨.refl _,0,by omega,rfl,rfl, ?_, ?_, ?_⟩<;>simp -implicitDefEqProofs only [go_sem,allA]
 ·rintro m ρ h' ⟨hs,i,hi,rfl,hc,r12,r13,r14⟩
  simp -implicitDefEqProofs only [go_sem,r12,r13,r14]
  refine .intro (fun e=> ?_) (fun e=> ?_)
  ·have hlt:i<l.length:=Int.ofNat_lt.1 (of_decide_eq_true e)
   have w1:IntKind.i64.wrap ((i:Int)+1)=((i+1:Nat):Int):=by rw [wr64 _ (by omega)]; omega
   simp -implicitDefEqProofs only [go_sem,r12,r13,r14,allA]
   refine .at i (by simpa using hlt) (by rw [List.getElem_map]; rfl) ?_
   simp -implicitDefEqProofs only [go_sem,r12,r13,r14,List.getElem_map,matchA]
   intro id hid
   simp -implicitDefEqProofs only [go_sem,r12,r13,r14]
   refine (match_ok l[i] _).pthen ?_
   cases d2:matchOK l[i]
   ·simp -implicitDefEqProofs only [go_sem,r12,r13,r14,d2]
    refine .mk _ (.refl _) (hs.new hid _) ⟨?_,rfl⟩
    have:l.all matchOK=false:=List.all_eq_false.2 ⟨_,List.getElem_mem hlt,by simp [d2]⟩
    simp [allE,e1,this,oneOr]
   ·simp -implicitDefEqProofs only [go_sem,r12,r13,r14,d2,w1]
    refine ⟨_, ?_,hs.new hid _,i+1,by omega,rfl, ?_, ?_, ?_, ?_⟩
    ·omega
    ·rw [List.take_succ_eq_append_getElem hlt,List.all_append,hc]; simp [d2]
    all_goals simp -implicitDefEqProofs only [go_sem,r12,r13,r14,w1,allA]
  ·have hge:i=l.length:=by have:=of_decide_eq_false e; omega
   subst hge
   rw [List.take_length] at hc
   simp -implicitDefEqProofs only [go_sem,r12,r13,r14]
   exact .mk _ (.refl _) hs ⟨by simp [allE,e1,hc,oneOr],rfl⟩
end Go.Proofs.YtmlhcdeamjkpjaaGreatDoor

set_option linter.unusedSimpArgs false
set_option linter.unusedVariables false
namespace Go.Proofs.YtmlhcdeamjkpjaaGreatDoor
open Go Go.Ab Go.Bf
theorem upd_none {h:Heap} {i j:Nat} {b:Blk} (e:upd h i (some b) j=none):h j=none:=by rwa [upd_other _ _ (ne_upd e)] at e
theorem val_ne {v:ValD} (h:(v.kind==(0:Int) && (v.n==(0:Int) && v.s==([]:Txt)))=false):¬v.kind=0∨¬v.n=0∨¬v.s= []:=by
 by_cases a1:v.kind=0
 ·by_cases a2:v.n=0
  ·by_cases a3:v.s= []
   ·simp [a1,a2,a3] at h
   ·exact .inr (.inr a3)
  ·exact .inr (.inl a2)
 ·exact .inl a1
theorem val_eq {v:ValD} (h:(v.kind==(0:Int) && (v.n==(0:Int) && v.s==([]:Txt)))=true):v.kind=0∧v.n=0∧v.s= []:=by
 simpa [Bool.and_eq_true] using h
theorem onCase_ok (k:Int) (h:Heap):FnOK Tryz.prog 115 [.v (.int .i64 k)] h fun r h' =>r= .v (.bool (onCase k))∧h' =h:=by
 refine FnOK.body hU hm Tryz.func115 rfl (by kernel_rfl) 9 rfl [.tmp 2] rfl (Nat.le_of_ble_eq_true rfl) (fun hwf=> ?_)
 cases d1:decide (1≤k)
 ·simp -implicitDefEqProofs only [go_sem,d1]
  exact .same (.refl _) ⟨by simp only [onCase,d1,oneOr,Bool.false_and],rfl⟩
 ·simp -implicitDefEqProofs only [go_sem,d1]
  exact .same (.refl _) ⟨by simp only [onCase,d1,oneOr,Bool.true_and],rfl⟩
theorem empty_ok (s:Txt) (h:Heap):FnOK Tryz.prog 58 [.s s] h fun r h' =>r= .v (.bool (emptyD s))∧h' =h:=by
 refine FnOK.body hU hm Tryz.func58 rfl (by kernel_rfl) 9 rfl [.tmp 2] rfl (Nat.le_of_ble_eq_true rfl) (fun hwf=> ?_)
 cases d1:(s==([]:Txt))
 ·simp -implicitDefEqProofs only [go_sem,d1]
  refine (name_ok s h).pthen ?_
  simp -implicitDefEqProofs only [go_sem]
  exact .same (.refl _) ⟨by simp only [emptyD,d1,oneOr,Bool.false_or],rfl⟩
 ·simp -implicitDefEqProofs only [go_sem,d1]
  exact .same (.refl _) ⟨by simp only [emptyD,d1,oneOr,Bool.true_or],rfl⟩
theorem follows_ok (a b:Txt) (h:Heap):FnOK Tryz.prog 119 [.s a, .s b] h fun r h' =>r= .v (.bool (followsD a b))∧h' =h:=by
 refine FnOK.body hU hm Tryz.func119 rfl (by kernel_rfl) 22 rfl [.tmp 4] rfl (Nat.le_of_ble_eq_true rfl) (fun hwf=> ?_)
 cases d1:(a==openT)<;>cases d2:(a==workT)<;>cases d3:(a==doneT)<;>cases d4:(b==workT)<;>simp only [openT,workT,doneT] at d1 d2 d3 d4<;>simp -implicitDefEqProofs only [go_sem,d1,d2,d3,d4]<;>
  exact .same (.refl _) ⟨by simp only [followsD,d1,d2,d3,d4,oneOr,openT,workT,doneT,closedT,if_true,Bool.false_eq_true,if_false,Bool.true_or,Bool.false_or],rfl⟩
theorem action_ok (k:Int) (hk:i64 k) (h:Heap):FnOK Tryz.prog 70 [.v (.int .i64 k)] h fun r h' =>r= .s (actionD k)∧h' =h:=by
 refine FnOK.body hU hm Tryz.func70 rfl (by kernel_rfl) 18 rfl [.tmp 2] rfl (Nat.le_of_ble_eq_true rfl) (fun hwf=> ?_)
 simp -implicitDefEqProofs only [go_sem]
 cases d1:decide (k<1)
 case true=>
  simp -implicitDefEqProofs only [go_sem,d1]
  exact .same (.refl _) ⟨by simp only [actionD,of_decide_eq_true d1,true_or,if_true,oneOr],rfl⟩
 cases d2:decide ((7:Int)<k)
 case true=>
  simp -implicitDefEqProofs only [go_sem,d1,d2]
  exact .same (.refl _) ⟨by simp only [actionD,show k>7 from of_decide_eq_true d2,or_true,if_true,oneOr],rfl⟩
 have h1:=of_decide_eq_false d1
 have h2:=of_decide_eq_false d2
 obtain ⟨j,rfl⟩:∃j:Nat,k=(j:Int)+1:=⟨(k - 1).toNat,by omega⟩
 have hj:j<7:=by omega
 have w1:IntKind.i64.wrap ((j:Int)+1 - 1)=(j:Int):=by rw [wr64 _ (by omega)]; omega
 simp -implicitDefEqProofs only [go_sem,d1,d2,w1]
 refine .at j (by simpa using hj) (by rcases j with _|_|_|_|_|_|_|j<;>first|rfl|omega) ?_
 rcases j with _|_|_|_|_|_|_|j
 all_goals first|omega|skip
 all_goals
  simp -implicitDefEqProofs only [go_sem,List.getElem_cons_zero,List.getElem_cons_succ]
  exact .same (.refl _) ⟨by rfl,rfl⟩
theorem reason_ok (o:OpD) (h:Heap):FnOK Tryz.prog 57 [opA o] h fun r h' =>r= .v (.bool (reasonD o))∧h' =h:=by
 refine FnOK.body hU hm Tryz.func57 rfl (by kernel_rfl) 23 rfl [.tmp 2] rfl (Nat.le_of_ble_eq_true rfl) (fun hwf=> ?_)
 simp -implicitDefEqProofs only [go_sem,opA,opC]
 intro id hid
 cases d1:o.glass
 ·simp -implicitDefEqProofs only [go_sem,d1]
  exact .mk _ (.refl _) (.upd_new hid) ⟨by simp [reasonD,d1,oneOr],rfl⟩
 simp -implicitDefEqProofs only [go_sem,d1]
 refine (onCase_ok _ _).pthen ?_
 cases d2:onCase o.kind
 ·simp -implicitDefEqProofs only [go_sem,d2]
  exact .mk _ (.refl _) (.upd_new hid) ⟨by simp [reasonD,d1,d2,oneOr],rfl⟩
 cases d3:(o.reason==([]:Txt))
 ·simp -implicitDefEqProofs only [go_sem,d2,d3]
  exact .mk _ (.refl _) (.upd_new hid) ⟨by
   simp only [reasonD,d1,d2,d3,oneOr,if_true,Bool.not_false,Bool.true_and]
   congr 2
   simp only [Bool.and_true,decide_eq_decide]
   omega,rfl⟩
 ·simp -implicitDefEqProofs only [go_sem,d2,d3]
  exact .mk _ (.refl _) (.upd_new hid) ⟨by simp [reasonD,d1,d2,d3,oneOr],rfl⟩
theorem bare_ok (o:OpD) (h:Heap):FnOK Tryz.prog 116 [opA o] h fun r h' =>r=opA (bareD o)∧h' =h:=by
 refine FnOK.body hU hm Tryz.func116 rfl (by kernel_rfl) 7 rfl [.cell 2 44] rfl (Nat.le_of_ble_eq_true rfl) (fun hwf=> ?_)
 simp -implicitDefEqProofs only [go_sem,opA,opC]
 intro i1 h1
 simp -implicitDefEqProofs only [go_sem]
 intro i2 h2
 have hne:=ne_upd h2
 simp -implicitDefEqProofs only [go_sem,upd_ne,hne,hne.symm]
 have n2:=upd_none h2
 exact .mk _ (.refl _) (((((Sub.refl h).put h1 _).put n2 _).put h1 _).put n2 _) ⟨rfl,rfl⟩
set_option maxRecDepth 100000 in
theorem takes_ok (o:OpD) (h:Heap):FnOK Tryz.prog 60 [opA o] h fun r h' =>r= .v (.bool (takesD o))∧h' =h:=by
 have hb:=fun hh=>bare_ok o hh
 simp only [bareD,opA,opC] at hb
 refine FnOK.body hU hm Tryz.func60 rfl (by kernel_rfl) 111 rfl [.tmp 2] rfl (Nat.le_of_ble_eq_true rfl) (fun hwf=> ?_)
 simp -implicitDefEqProofs only [go_sem,opA,opC]
 intro i1 h1
 simp -implicitDefEqProofs only [go_sem]
 refine (hb _).pthen ?_
 simp -implicitDefEqProofs only [go_sem]
 intro i3 h3
 have n31:=ne_upd h3
 have n3:=upd_none h3
 simp -implicitDefEqProofs only [go_sem,upd_ne,n31,n31.symm]
 intro i4 h4
 have n43:=ne_upd h4
 have h4' :=upd_none h4
 have n41:=ne_upd h4'
 have n4:=upd_none h4'
 have bnd:o.kind≠1→o.kind≠2→o.kind≠3→o.kind≠4→o.kind≠5→o.kind≠6→o.kind≠7→o.kind≠8→(decide (1≤o.kind) && decide (o.kind≤8))=false:=by
  intro a1 a2 a3 a4 a5 a6 a7 a8
  simp only [Bool.and_eq_false_iff,decide_eq_false_iff_not]
  omega
 by_cases k1:o.kind=1
 ·simp -implicitDefEqProofs only [go_sem,upd_ne,n31,n31.symm,n43,n43.symm,n41,n41.symm,k1,decide_true,Int.reduceBEq,Int.reduceBNe]
  cases dcase:(o.case==([]:Txt))
  ·simp -implicitDefEqProofs only [go_sem,upd_ne,n31,n31.symm,n43,n43.symm,n41,n41.symm,k1,decide_true,Int.reduceBEq,Int.reduceBNe,dcase]
   exact .mk _ (.refl _) (by repeat' first|exact .refl _|(refine Sub.put ?_ (by assumption) _)) ⟨by simp [takesD,okD,onlyD,bareD,eqOp,eqV,zeroVal,oneOr,k1,decide_true,dcase,beq_self_eq_true,Bool.and_true,Bool.true_and,Bool.false_and,Bool.and_false,Bool.not_true,Bool.not_false],rfl⟩
  ·simp -implicitDefEqProofs only [go_sem,upd_ne,n31,n31.symm,n43,n43.symm,n41,n41.symm,k1,decide_true,Int.reduceBEq,Int.reduceBNe,dcase]
   exact .mk _ (.refl _) (by repeat' first|exact .refl _|(refine Sub.put ?_ (by assumption) _)) ⟨by simp [takesD,okD,onlyD,bareD,eqOp,eqV,zeroVal,oneOr,k1,decide_true,dcase,beq_self_eq_true,Bool.and_true,Bool.true_and,Bool.false_and,Bool.and_false,Bool.not_true,Bool.not_false],rfl⟩
 by_cases k2:o.kind=2
 ·simp -implicitDefEqProofs only [go_sem,upd_ne,n31,n31.symm,n43,n43.symm,n41,n41.symm,k2,decide_true,Int.reduceBEq,Int.reduceBNe]
  refine .calls (hm1 i1 _) [0,1,2,3,4,5,6,7] (.hm1 (by rw [upd_other _ _ n41.symm,upd_other _ _ n31.symm,upd_same])) (by kernel_rfl) rfl ?_
  simp -implicitDefEqProofs only [go_sem,upd_ne,n31,n31.symm,n43,n43.symm,n41,n41.symm,k2,decide_true,Int.reduceBEq,Int.reduceBNe]
  refine ⟨(.hm1 (by simp only [upd_ne,n41,n41.symm,n31,n31.symm,n43,n43.symm,upd_same',not_false_eq_true])),(.hm1 (by simp only [upd_ne,n41,n41.symm,n31,n31.symm,n43,n43.symm,upd_same',not_false_eq_true])), ?_⟩
  cases dcase:(o.case==([]:Txt))
  ·simp -implicitDefEqProofs only [go_sem,upd_ne,n31,n31.symm,n43,n43.symm,n41,n41.symm,k2,decide_true,Int.reduceBEq,Int.reduceBNe,dcase]
   cases dfield:(o.field==([]:Txt))
   ·simp -implicitDefEqProofs only [go_sem,upd_ne,n31,n31.symm,n43,n43.symm,n41,n41.symm,k2,decide_true,Int.reduceBEq,Int.reduceBNe,dcase,dfield]
    exact .mk _ (.refl _) (by repeat' first|exact .refl _|(refine Sub.put ?_ (by assumption) _)) ⟨by simp [takesD,okD,onlyD,bareD,eqOp,eqV,zeroVal,oneOr,k2,decide_true,dcase,dfield,beq_self_eq_true,Bool.and_true,Bool.true_and,Bool.false_and,Bool.and_false,Bool.not_true,Bool.not_false],rfl⟩
   ·simp -implicitDefEqProofs only [go_sem,upd_ne,n31,n31.symm,n43,n43.symm,n41,n41.symm,k2,decide_true,Int.reduceBEq,Int.reduceBNe,dcase,dfield]
    exact .mk _ (.refl _) (by repeat' first|exact .refl _|(refine Sub.put ?_ (by assumption) _)) ⟨by simp [takesD,okD,onlyD,bareD,eqOp,eqV,zeroVal,oneOr,k2,decide_true,dcase,dfield,beq_self_eq_true,Bool.and_true,Bool.true_and,Bool.false_and,Bool.and_false,Bool.not_true,Bool.not_false],rfl⟩
  ·simp -implicitDefEqProofs only [go_sem,upd_ne,n31,n31.symm,n43,n43.symm,n41,n41.symm,k2,decide_true,Int.reduceBEq,Int.reduceBNe,dcase]
   exact .mk _ (.refl _) (by repeat' first|exact .refl _|(refine Sub.put ?_ (by assumption) _)) ⟨by simp [takesD,okD,onlyD,bareD,eqOp,eqV,zeroVal,oneOr,k2,decide_true,dcase,beq_self_eq_true,Bool.and_true,Bool.true_and,Bool.false_and,Bool.and_false,Bool.not_true,Bool.not_false],rfl⟩
 by_cases k6:o.kind=6
 ·simp -implicitDefEqProofs only [go_sem,upd_ne,n31,n31.symm,n43,n43.symm,n41,n41.symm,k6,decide_true,Int.reduceBEq,Int.reduceBNe]
  refine .calls (hm1 i1 _) [0,1,2,3,4,5,6,7] (.hm1 (by rw [upd_other _ _ n41.symm,upd_other _ _ n31.symm,upd_same])) (by kernel_rfl) rfl ?_
  simp -implicitDefEqProofs only [go_sem,upd_ne,n31,n31.symm,n43,n43.symm,n41,n41.symm,k6,decide_true,Int.reduceBEq,Int.reduceBNe]
  refine ⟨(.hm1 (by simp only [upd_ne,n41,n41.symm,n31,n31.symm,n43,n43.symm,upd_same',not_false_eq_true])),(.hm1 (by simp only [upd_ne,n41,n41.symm,n31,n31.symm,n43,n43.symm,upd_same',not_false_eq_true])), ?_⟩
  cases dcase:(o.case==([]:Txt))
  ·simp -implicitDefEqProofs only [go_sem,upd_ne,n31,n31.symm,n43,n43.symm,n41,n41.symm,k6,decide_true,Int.reduceBEq,Int.reduceBNe,dcase]
   cases dfield:(o.field==([]:Txt))
   ·simp -implicitDefEqProofs only [go_sem,upd_ne,n31,n31.symm,n43,n43.symm,n41,n41.symm,k6,decide_true,Int.reduceBEq,Int.reduceBNe,dcase,dfield]
    exact .mk _ (.refl _) (by repeat' first|exact .refl _|(refine Sub.put ?_ (by assumption) _)) ⟨by simp [takesD,okD,onlyD,bareD,eqOp,eqV,zeroVal,oneOr,k6,decide_true,dcase,dfield,beq_self_eq_true,Bool.and_true,Bool.true_and,Bool.false_and,Bool.and_false,Bool.not_true,Bool.not_false],rfl⟩
   ·simp -implicitDefEqProofs only [go_sem,upd_ne,n31,n31.symm,n43,n43.symm,n41,n41.symm,k6,decide_true,Int.reduceBEq,Int.reduceBNe,dcase,dfield]
    exact .mk _ (.refl _) (by repeat' first|exact .refl _|(refine Sub.put ?_ (by assumption) _)) ⟨by simp [takesD,okD,onlyD,bareD,eqOp,eqV,zeroVal,oneOr,k6,decide_true,dcase,dfield,beq_self_eq_true,Bool.and_true,Bool.true_and,Bool.false_and,Bool.and_false,Bool.not_true,Bool.not_false],rfl⟩
  ·simp -implicitDefEqProofs only [go_sem,upd_ne,n31,n31.symm,n43,n43.symm,n41,n41.symm,k6,decide_true,Int.reduceBEq,Int.reduceBNe,dcase]
   exact .mk _ (.refl _) (by repeat' first|exact .refl _|(refine Sub.put ?_ (by assumption) _)) ⟨by simp [takesD,okD,onlyD,bareD,eqOp,eqV,zeroVal,oneOr,k6,decide_true,dcase,beq_self_eq_true,Bool.and_true,Bool.true_and,Bool.false_and,Bool.and_false,Bool.not_true,Bool.not_false],rfl⟩
 by_cases k3:o.kind=3
 ·simp -implicitDefEqProofs only [go_sem,upd_ne,n31,n31.symm,n43,n43.symm,n41,n41.symm,k3,decide_true,Int.reduceBEq,Int.reduceBNe]
  refine .calls (hm1 i1 _) [0,1,2,3,4,5,6,7,8,9,10,11] (.hm1 (by rw [upd_other _ _ n41.symm,upd_other _ _ n31.symm,upd_same])) (by kernel_rfl) rfl ?_
  simp -implicitDefEqProofs only [go_sem,upd_ne,n31,n31.symm,n43,n43.symm,n41,n41.symm,k3,decide_true,Int.reduceBEq,Int.reduceBNe]
  refine ⟨(.hm1 (by simp only [upd_ne,n41,n41.symm,n31,n31.symm,n43,n43.symm,upd_same',not_false_eq_true])),(.hm1 (by simp only [upd_ne,n41,n41.symm,n31,n31.symm,n43,n43.symm,upd_same',not_false_eq_true])),(.hm1 (by simp only [upd_ne,n41,n41.symm,n31,n31.symm,n43,n43.symm,upd_same',not_false_eq_true])), ?_⟩
  cases dcase:(o.case==([]:Txt))
  ·simp -implicitDefEqProofs only [go_sem,upd_ne,n31,n31.symm,n43,n43.symm,n41,n41.symm,k3,decide_true,Int.reduceBEq,Int.reduceBNe,dcase]
   cases dfield:(o.field==([]:Txt))
   ·simp -implicitDefEqProofs only [go_sem,upd_ne,n31,n31.symm,n43,n43.symm,n41,n41.symm,k3,decide_true,Int.reduceBEq,Int.reduceBNe,dcase,dfield]
    cases dval:(o.val.kind==(0:Int) && (o.val.n==(0:Int) && o.val.s==([]:Txt)))
    ·simp -implicitDefEqProofs only [go_sem,upd_ne,n31,n31.symm,n43,n43.symm,n41,n41.symm,k3,decide_true,Int.reduceBEq,Int.reduceBNe,dcase,dfield,dval]
     exact .mk _ (.refl _) (by repeat' first|exact .refl _|(refine Sub.put ?_ (by assumption) _)) ⟨by simp [takesD,okD,onlyD,bareD,eqOp,eqV,zeroVal,oneOr,k3,decide_true,dcase,dfield,dval,beq_self_eq_true,Bool.and_true,Bool.true_and,Bool.false_and,Bool.and_false,Bool.not_true,Bool.not_false]; first|exact fun _ _ _=>val_ne dval|(intro hh; obtain ⟨a,b,c⟩:=val_eq dval; simp [a,b,c] at hh),rfl⟩
    ·simp -implicitDefEqProofs only [go_sem,upd_ne,n31,n31.symm,n43,n43.symm,n41,n41.symm,k3,decide_true,Int.reduceBEq,Int.reduceBNe,dcase,dfield,dval]
     exact .mk _ (.refl _) (by repeat' first|exact .refl _|(refine Sub.put ?_ (by assumption) _)) ⟨by simp [takesD,okD,onlyD,bareD,eqOp,eqV,zeroVal,oneOr,k3,decide_true,dcase,dfield,dval,beq_self_eq_true,Bool.and_true,Bool.true_and,Bool.false_and,Bool.and_false,Bool.not_true,Bool.not_false]; first|exact fun _ _ _=>val_ne dval|(intro hh; obtain ⟨a,b,c⟩:=val_eq dval; simp [a,b,c] at hh),rfl⟩
   ·simp -implicitDefEqProofs only [go_sem,upd_ne,n31,n31.symm,n43,n43.symm,n41,n41.symm,k3,decide_true,Int.reduceBEq,Int.reduceBNe,dcase,dfield]
    exact .mk _ (.refl _) (by repeat' first|exact .refl _|(refine Sub.put ?_ (by assumption) _)) ⟨by simp [takesD,okD,onlyD,bareD,eqOp,eqV,zeroVal,oneOr,k3,decide_true,dcase,dfield,beq_self_eq_true,Bool.and_true,Bool.true_and,Bool.false_and,Bool.and_false,Bool.not_true,Bool.not_false],rfl⟩
  ·simp -implicitDefEqProofs only [go_sem,upd_ne,n31,n31.symm,n43,n43.symm,n41,n41.symm,k3,decide_true,Int.reduceBEq,Int.reduceBNe,dcase]
   exact .mk _ (.refl _) (by repeat' first|exact .refl _|(refine Sub.put ?_ (by assumption) _)) ⟨by simp [takesD,okD,onlyD,bareD,eqOp,eqV,zeroVal,oneOr,k3,decide_true,dcase,beq_self_eq_true,Bool.and_true,Bool.true_and,Bool.false_and,Bool.and_false,Bool.not_true,Bool.not_false],rfl⟩
 by_cases k4:o.kind=4
 ·simp -implicitDefEqProofs only [go_sem,upd_ne,n31,n31.symm,n43,n43.symm,n41,n41.symm,k4,decide_true,Int.reduceBEq,Int.reduceBNe]
  refine .calls (hm1 i1 _) [0,1,2,3,4,5,6,7] (.hm1 (by rw [upd_other _ _ n41.symm,upd_other _ _ n31.symm,upd_same])) (by kernel_rfl) rfl ?_
  simp -implicitDefEqProofs only [go_sem,upd_ne,n31,n31.symm,n43,n43.symm,n41,n41.symm,k4,decide_true,Int.reduceBEq,Int.reduceBNe]
  refine ⟨(.hm1 (by simp only [upd_ne,n41,n41.symm,n31,n31.symm,n43,n43.symm,upd_same',not_false_eq_true])),(.hm1 (by simp only [upd_ne,n41,n41.symm,n31,n31.symm,n43,n43.symm,upd_same',not_false_eq_true])), ?_⟩
  cases dcase:(o.case==([]:Txt))
  ·simp -implicitDefEqProofs only [go_sem,upd_ne,n31,n31.symm,n43,n43.symm,n41,n41.symm,k4,decide_true,Int.reduceBEq,Int.reduceBNe,dcase]
   cases dto:(o.to==([]:Txt))
   ·simp -implicitDefEqProofs only [go_sem,upd_ne,n31,n31.symm,n43,n43.symm,n41,n41.symm,k4,decide_true,Int.reduceBEq,Int.reduceBNe,dcase,dto]
    exact .mk _ (.refl _) (by repeat' first|exact .refl _|(refine Sub.put ?_ (by assumption) _)) ⟨by simp [takesD,okD,onlyD,bareD,eqOp,eqV,zeroVal,oneOr,k4,decide_true,dcase,dto,beq_self_eq_true,Bool.and_true,Bool.true_and,Bool.false_and,Bool.and_false,Bool.not_true,Bool.not_false],rfl⟩
   ·simp -implicitDefEqProofs only [go_sem,upd_ne,n31,n31.symm,n43,n43.symm,n41,n41.symm,k4,decide_true,Int.reduceBEq,Int.reduceBNe,dcase,dto]
    exact .mk _ (.refl _) (by repeat' first|exact .refl _|(refine Sub.put ?_ (by assumption) _)) ⟨by simp [takesD,okD,onlyD,bareD,eqOp,eqV,zeroVal,oneOr,k4,decide_true,dcase,dto,beq_self_eq_true,Bool.and_true,Bool.true_and,Bool.false_and,Bool.and_false,Bool.not_true,Bool.not_false],rfl⟩
  ·simp -implicitDefEqProofs only [go_sem,upd_ne,n31,n31.symm,n43,n43.symm,n41,n41.symm,k4,decide_true,Int.reduceBEq,Int.reduceBNe,dcase]
   exact .mk _ (.refl _) (by repeat' first|exact .refl _|(refine Sub.put ?_ (by assumption) _)) ⟨by simp [takesD,okD,onlyD,bareD,eqOp,eqV,zeroVal,oneOr,k4,decide_true,dcase,beq_self_eq_true,Bool.and_true,Bool.true_and,Bool.false_and,Bool.and_false,Bool.not_true,Bool.not_false],rfl⟩
 by_cases k5:o.kind=5
 ·simp -implicitDefEqProofs only [go_sem,upd_ne,n31,n31.symm,n43,n43.symm,n41,n41.symm,k5,decide_true,Int.reduceBEq,Int.reduceBNe]
  cases drev0:decide ((0:Int)<o.review)
  ·simp -implicitDefEqProofs only [go_sem,upd_ne,n31,n31.symm,n43,n43.symm,n41,n41.symm,k5,decide_true,Int.reduceBEq,Int.reduceBNe,drev0]
   exact .mk _ (.refl _) (by repeat' first|exact .refl _|(refine Sub.put ?_ (by assumption) _)) ⟨by simp [takesD,okD,onlyD,bareD,eqOp,eqV,zeroVal,oneOr,k5,decide_true,drev0,beq_self_eq_true,Bool.and_true,Bool.true_and,Bool.false_and,Bool.and_false,Bool.not_true,Bool.not_false],rfl⟩
  ·simp -implicitDefEqProofs only [go_sem,upd_ne,n31,n31.symm,n43,n43.symm,n41,n41.symm,k5,decide_true,Int.reduceBEq,Int.reduceBNe,drev0]
   exact .mk _ (.refl _) (by repeat' first|exact .refl _|(refine Sub.put ?_ (by assumption) _)) ⟨by simp [takesD,okD,onlyD,bareD,eqOp,eqV,zeroVal,oneOr,k5,decide_true,drev0,beq_self_eq_true,Bool.and_true,Bool.true_and,Bool.false_and,Bool.and_false,Bool.not_true,Bool.not_false],rfl⟩
 by_cases k7:o.kind=7
 ·simp -implicitDefEqProofs only [go_sem,upd_ne,n31,n31.symm,n43,n43.symm,n41,n41.symm,k7,decide_true,Int.reduceBEq,Int.reduceBNe]
  exact .mk _ (.refl _) (by repeat' first|exact .refl _|(refine Sub.put ?_ (by assumption) _)) ⟨by simp [takesD,okD,onlyD,bareD,eqOp,eqV,zeroVal,oneOr,k7,decide_true,beq_self_eq_true,Bool.and_true,Bool.true_and,Bool.false_and,Bool.and_false,Bool.not_true,Bool.not_false],rfl⟩
 by_cases k8:o.kind=8
 ·simp -implicitDefEqProofs only [go_sem,upd_ne,n31,n31.symm,n43,n43.symm,n41,n41.symm,k8,decide_true,Int.reduceBEq,Int.reduceBNe]
  cases drev0:decide ((0:Int)<o.review)
  ·simp -implicitDefEqProofs only [go_sem,upd_ne,n31,n31.symm,n43,n43.symm,n41,n41.symm,k8,decide_true,Int.reduceBEq,Int.reduceBNe,drev0]
   exact .mk _ (.refl _) (by repeat' first|exact .refl _|(refine Sub.put ?_ (by assumption) _)) ⟨by simp [takesD,okD,onlyD,bareD,eqOp,eqV,zeroVal,oneOr,k8,decide_true,drev0,beq_self_eq_true,Bool.and_true,Bool.true_and,Bool.false_and,Bool.and_false,Bool.not_true,Bool.not_false],rfl⟩
  ·simp -implicitDefEqProofs only [go_sem,upd_ne,n31,n31.symm,n43,n43.symm,n41,n41.symm,k8,decide_true,Int.reduceBEq,Int.reduceBNe,drev0]
   cases drev1:decide (o.review≤(1099511627776:Int))
   ·simp -implicitDefEqProofs only [go_sem,upd_ne,n31,n31.symm,n43,n43.symm,n41,n41.symm,k8,decide_true,Int.reduceBEq,Int.reduceBNe,drev0,drev1]
    exact .mk _ (.refl _) (by repeat' first|exact .refl _|(refine Sub.put ?_ (by assumption) _)) ⟨by simp [takesD,okD,onlyD,bareD,eqOp,eqV,zeroVal,oneOr,k8,decide_true,drev0,drev1,beq_self_eq_true,Bool.and_true,Bool.true_and,Bool.false_and,Bool.and_false,Bool.not_true,Bool.not_false],rfl⟩
   ·simp -implicitDefEqProofs only [go_sem,upd_ne,n31,n31.symm,n43,n43.symm,n41,n41.symm,k8,decide_true,Int.reduceBEq,Int.reduceBNe,drev0,drev1]
    exact .mk _ (.refl _) (by repeat' first|exact .refl _|(refine Sub.put ?_ (by assumption) _)) ⟨by simp [takesD,okD,onlyD,bareD,eqOp,eqV,zeroVal,oneOr,k8,decide_true,drev0,drev1,beq_self_eq_true,Bool.and_true,Bool.true_and,Bool.false_and,Bool.and_false,Bool.not_true,Bool.not_false],rfl⟩
 simp -implicitDefEqProofs only [go_sem,upd_ne,n31,n31.symm,n43,n43.symm,n41,n41.symm,beq_eq_false_iff_ne.2 k1,beq_eq_false_iff_ne.2 k2,beq_eq_false_iff_ne.2 k6,beq_eq_false_iff_ne.2 k3,beq_eq_false_iff_ne.2 k4,beq_eq_false_iff_ne.2 k5,beq_eq_false_iff_ne.2 k7,beq_eq_false_iff_ne.2 k8]
 exact .mk _ (.refl _) (by repeat' first|exact .refl _|(refine Sub.put ?_ (by assumption) _)) ⟨by simp only [takesD,bnd k1 k2 k3 k4 k5 k6 k7 k8,Bool.false_and,oneOr],rfl⟩
theorem form_ok (o:OpD) (h:Heap):FnOK Tryz.prog 19 [opA o] h fun r h' =>r= .v (.bool (formD o))∧h' =h:=by
 have hr:=fun hh=>reason_ok o hh
 have ht:=fun hh=>takes_ok o hh
 have hv:=fun hh=>valRight_ok o.val hh
 simp only [opA,opC,valA] at hr ht hv
 refine FnOK.body hU hm Tryz.func19 rfl (by kernel_rfl) 48 rfl [.tmp 2] rfl (Nat.le_of_ble_eq_true rfl) (fun hwf=> ?_)
 simp -implicitDefEqProofs only [go_sem,opA,opC]
 intro i1 h1
 simp -implicitDefEqProofs only [go_sem]
 refine (name_ok o.subj _).pthen ?_
 cases d1:nameOK o.subj
 ·simp -implicitDefEqProofs only [go_sem,d1]
  exact .mk _ (.refl _) (.upd_new h1) ⟨by simp only [formD,d1,Bool.false_and,oneOr],rfl⟩
 simp -implicitDefEqProofs only [go_sem,d1]
 refine (hr _).pthen ?_
 cases d2:reasonD o
 ·simp -implicitDefEqProofs only [go_sem,d1,d2]
  exact .mk _ (.refl _) (.upd_new h1) ⟨by simp only [formD,d1,d2,Bool.false_and,Bool.true_and,oneOr],rfl⟩
 cases d3:decide ((4096:Int)<(o.text.length:Int))
 case true=>
  have e3:decide (o.text.length≤4096)=false:=decide_eq_false (by have:=of_decide_eq_true d3; omega)
  simp -implicitDefEqProofs only [go_sem,d1,d2,d3]
  exact .mk _ (.refl _) (.upd_new h1) ⟨by simp only [formD,d1,d2,e3,Bool.false_and,Bool.true_and,oneOr],rfl⟩
 have e3:decide (o.text.length≤4096)=true:=decide_eq_true (by have:=of_decide_eq_false d3; omega)
 simp -implicitDefEqProofs only [go_sem,d1,d2,d3]
 refine (empty_ok o.case _).pthen ?_
 cases d4:emptyD o.case
 ·simp -implicitDefEqProofs only [go_sem,d4]
  exact .mk _ (.refl _) (.upd_new h1) ⟨by simp only [formD,d1,d2,e3,d4,Bool.false_and,Bool.true_and,oneOr],rfl⟩
 simp -implicitDefEqProofs only [go_sem,d4]
 refine (empty_ok o.field _).pthen ?_
 cases d5:emptyD o.field
 ·simp -implicitDefEqProofs only [go_sem,d4,d5]
  exact .mk _ (.refl _) (.upd_new h1) ⟨by simp only [formD,d1,d2,e3,d4,d5,Bool.false_and,Bool.true_and,oneOr],rfl⟩
 simp -implicitDefEqProofs only [go_sem,d4,d5]
 refine (empty_ok o.to _).pthen ?_
 cases d6:emptyD o.to
 ·simp -implicitDefEqProofs only [go_sem,d4,d5,d6]
  exact .mk _ (.refl _) (.upd_new h1) ⟨by simp only [formD,d1,d2,e3,d4,d5,d6,Bool.false_and,Bool.true_and,oneOr],rfl⟩
 cases d7:(o.val.kind==(0:Int) && (o.val.n==(0:Int) && o.val.s==([]:Txt)))
 ·simp -implicitDefEqProofs only [go_sem,d4,d5,d6,d7]
  refine (hv _).pthen ?_
  have e7:eqV o.val zeroVal=false:=d7
  cases d8:valOK o.val
  ·simp -implicitDefEqProofs only [go_sem,d4,d5,d6,d7,d8]
   exact .mk _ (.refl _) (.upd_new h1) ⟨by simp only [formD,d1,d2,e3,d4,d5,d6,e7,d8,Bool.or_self,Bool.false_and,Bool.true_and,oneOr],rfl⟩
  simp -implicitDefEqProofs only [go_sem,d4,d5,d6,d7,d8]
  refine (ht _).pthen ?_
  simp -implicitDefEqProofs only [go_sem]
  exact .mk _ (.refl _) (.upd_new h1) ⟨by simp only [formD,d1,d2,e3,d4,d5,d6,e7,d8,Bool.false_or,Bool.true_and,oneOr],rfl⟩
 ·simp -implicitDefEqProofs only [go_sem,d4,d5,d6,d7]
  have e7:eqV o.val zeroVal=true:=d7
  refine (ht _).pthen ?_
  simp -implicitDefEqProofs only [go_sem]
  exact .mk _ (.refl _) (.upd_new h1) ⟨by simp only [formD,d1,d2,e3,d4,d5,d6,e7,Bool.true_or,Bool.true_and,oneOr],rfl⟩
end Go.Proofs.YtmlhcdeamjkpjaaGreatDoor

set_option linter.unusedSimpArgs false
set_option linter.unusedVariables false
namespace Go.Bf
open Go Go.Ab
def ixD {α:Type} (q:α→Bool) (l:List α):Int:=if l.findIdx q<l.length then (l.findIdx q:Nat) else -1
theorem ixD_at {α:Type} {q:α→Bool} {l:List α} {i:Nat} (hi:i<l.length) (h1:q l[i]=true) (h2:∀j (hj:j<i),q (l[j]'(by omega))=false):ixD q l=(i:Nat):=by
 have e:l.findIdx q=i:=(List.findIdx_eq hi).2 ⟨h1,fun j hj=>h2 j hj⟩
 rw [ixD,e,if_pos hi]
theorem ixD_none {α:Type} {q:α→Bool} {l:List α} (h:∀j (hj:j<l.length),q l[j]=false):ixD q l= -1:=by
 have e:l.findIdx q=l.length:=List.findIdx_eq_length.2 fun x hx=>by
  obtain ⟨j,hj,rfl⟩:=List.mem_iff_getElem.1 hx
  exact h j hj
 rw [ixD,e,if_neg (Nat.lt_irrefl _)]
end Go.Bf
namespace Go.Proofs.YtmlhcdeamjkpjaaGreatDoor
open Go Go.Ab Go.Bf
theorem ixCase_ok {α:Type} (y:AV) (xs:List AV) (ds:List α) (q:α→Bool) (g:FuncId) (cap:List AV) (h:Heap) (hb:Rd h 5 y xs) (hn:xs.length=ds.length) (hl:xs.length≤1000000000) (hx:∀x∈xs,isAggA x=true)
  (hp:∀i (h1:i<xs.length) (h2:i<ds.length),FnOK Tryz.prog g (xs[i]::cap) h fun r h' =>r= .v (.bool (q ds[i]))∧h' =h):
  FnOK Tryz.prog 117 [y, .fn g cap] h fun r h' =>r= .v (.int .i64 (ixD q ds))∧h' =h:=by
 refine FnOK.body hU hm Tryz.func117 rfl (by kernel_rfl) 19 rfl [.tmp 4] rfl (Nat.le_of_ble_eq_true rfl) (fun hwf=> ?_)
 simp -implicitDefEqProofs only [go_sem,hb.len]
 refine .intro (fun m ρ h' =>h' =h∧∃i:Nat,i≤xs.length∧m=xs.length - i∧(∀j (hj:j<i) (h2:j<ds.length),q ds[j]=false)∧lk ρ 0=some y∧lk ρ 1=some (.fn g cap)∧lk ρ 7=some (.v (.int .i64 xs.length))∧lk ρ 8=some (.v (.int .i64 i))) xs.length ?_ ?_
 ·refine ⟨rfl,0,by omega,rfl,fun j hj=>(by omega), ?_, ?_, ?_, ?_⟩<;>simp -implicitDefEqProofs only [go_sem]
 ·rintro m ρ h' ⟨rfl,i,hi,rfl,hc,r0,r1,r7,r8⟩
  simp -implicitDefEqProofs only [go_sem,r0,r1,r7,r8]
  refine .intro (fun e=> ?_) (fun e=> ?_)
  ·have hlt:i<xs.length:=Int.ofNat_lt.1 (of_decide_eq_true e)
   have hlt2:i<ds.length:=by omega
   have w1:IntKind.i64.wrap ((i:Int)+1)=((i+1:Nat):Int):=by rw [wr64 _ (by omega)]; omega
   simp -implicitDefEqProofs only [go_sem,r0,r1,r7,r8]
   refine hb.idx (e:=57) i rfl hlt (by simp only [go_sem]) (by decide) fun p hp1=> ?_
   have hld:=hp1.all (U:=U) (ty:=57) (by simp only [go_sem]) (by simp only [go_sem]; exact hb.1 _ (List.getElem_mem hlt)) (by simp only [go_sem]; rw [hx _ (List.getElem_mem hlt)])
   simp -implicitDefEqProofs only [go_sem,r0,r1,r7,r8,hld]
   refine (show FnOK Tryz.prog g (xs[i]::cap) _ _ from hp i hlt hlt2).pthen ?_
   cases d1:q ds[i]
   ·simp -implicitDefEqProofs only [go_sem,r0,r1,r7,r8,w1]
    refine ⟨_, ?_,rfl,i+1,by omega,rfl,fun j hj h2=> ?_, ?_, ?_, ?_, ?_⟩
    ·omega
    ·by_cases hji:j=i
     ·subst hji; exact d1
     ·exact hc j (by omega) h2
    all_goals simp -implicitDefEqProofs only [go_sem,r0,r1,r7,r8,w1]
   ·simp -implicitDefEqProofs only [go_sem,r0,r1,r7,r8]
    exact .same (.refl _) ⟨by rw [ixD_at hlt2 d1 fun j hj=>hc j hj (by omega)]; rfl,rfl⟩
  ·have hge:i=xs.length:=by have:=of_decide_eq_false e; omega
   simp -implicitDefEqProofs only [go_sem,r0,r1,r7,r8]
   exact .same (.refl _) ⟨by rw [ixD_none fun j hj=>hc j (by omega) hj]; rfl,rfl⟩
theorem ixField_ok {α:Type} (y:AV) (xs:List AV) (ds:List α) (q:α→Bool) (g:FuncId) (cap:List AV) (h:Heap) (hb:Rd h 4 y xs) (hn:xs.length=ds.length) (hl:xs.length≤1000000000) (hx:∀x∈xs,isAggA x=true)
  (hp:∀i (h1:i<xs.length) (h2:i<ds.length),FnOK Tryz.prog g (xs[i]::cap) h fun r h' =>r= .v (.bool (q ds[i]))∧h' =h):
  FnOK Tryz.prog 77 [y, .fn g cap] h fun r h' =>r= .v (.int .i64 (ixD q ds))∧h' =h:=by
 refine FnOK.body hU hm Tryz.func77 rfl (by kernel_rfl) 19 rfl [.tmp 4] rfl (Nat.le_of_ble_eq_true rfl) (fun hwf=> ?_)
 simp -implicitDefEqProofs only [go_sem,hb.len]
 refine .intro (fun m ρ h' =>h' =h∧∃i:Nat,i≤xs.length∧m=xs.length - i∧(∀j (hj:j<i) (h2:j<ds.length),q ds[j]=false)∧lk ρ 0=some y∧lk ρ 1=some (.fn g cap)∧lk ρ 7=some (.v (.int .i64 xs.length))∧lk ρ 8=some (.v (.int .i64 i))) xs.length ?_ ?_
 ·refine ⟨rfl,0,by omega,rfl,fun j hj=>(by omega), ?_, ?_, ?_, ?_⟩<;>simp -implicitDefEqProofs only [go_sem]
 ·rintro m ρ h' ⟨rfl,i,hi,rfl,hc,r0,r1,r7,r8⟩
  simp -implicitDefEqProofs only [go_sem,r0,r1,r7,r8]
  refine .intro (fun e=> ?_) (fun e=> ?_)
  ·have hlt:i<xs.length:=Int.ofNat_lt.1 (of_decide_eq_true e)
   have hlt2:i<ds.length:=by omega
   have w1:IntKind.i64.wrap ((i:Int)+1)=((i+1:Nat):Int):=by rw [wr64 _ (by omega)]; omega
   simp -implicitDefEqProofs only [go_sem,r0,r1,r7,r8]
   refine hb.idx (e:=131) i rfl hlt (by simp only [go_sem]) (by decide) fun p hp1=> ?_
   have hld:=hp1.all (U:=U) (ty:=131) (by simp only [go_sem]) (by simp only [go_sem]; exact hb.1 _ (List.getElem_mem hlt)) (by simp only [go_sem]; rw [hx _ (List.getElem_mem hlt)])
   simp -implicitDefEqProofs only [go_sem,r0,r1,r7,r8,hld]
   refine (show FnOK Tryz.prog g (xs[i]::cap) _ _ from hp i hlt hlt2).pthen ?_
   cases d1:q ds[i]
   ·simp -implicitDefEqProofs only [go_sem,r0,r1,r7,r8,w1]
    refine ⟨_, ?_,rfl,i+1,by omega,rfl,fun j hj h2=> ?_, ?_, ?_, ?_, ?_⟩
    ·omega
    ·by_cases hji:j=i
     ·subst hji; exact d1
     ·exact hc j (by omega) h2
    all_goals simp -implicitDefEqProofs only [go_sem,r0,r1,r7,r8,w1]
   ·simp -implicitDefEqProofs only [go_sem,r0,r1,r7,r8]
    exact .same (.refl _) ⟨by rw [ixD_at hlt2 d1 fun j hj=>hc j hj (by omega)]; rfl,rfl⟩
  ·have hge:i=xs.length:=by have:=of_decide_eq_false e; omega
   simp -implicitDefEqProofs only [go_sem,r0,r1,r7,r8]
   exact .same (.refl _) ⟨by rw [ixD_none fun j hj=>hc j (by omega) hj]; rfl,rfl⟩
def RdC (h:Heap) (x:AV) (c:CaseD):Prop:=∃f l,x= .agg [.s c.id, .s c.owner, .s c.state,f,l]∧Rd h 4 f (c.fields.map fieldA)∧Rd h 3 l (c.log.map hapA)
def RdCs (h:Heap) (y:AV) (cs:List CaseD):Prop:=∃xs,Rd h 5 y xs∧xs.length=cs.length∧∀i (h1:i<xs.length) (h2:i<cs.length),RdC h xs[i] cs[i]
def RdS (h:Heap) (x:AV) (s:StoreD):Prop:=∃y1 y2 y3 y4,x= .agg ([.v (.int .i64 s.tick),y1,y2,y3,y4]++polC s.policy++ [.v (.int .i64 s.version)])∧RdCs h y1 s.cases∧Rd h 7 y2 (s.reviews.map revA)∧Rd h 3 y3 (s.notices.map notA)∧Rd h 2 y4 (s.roles.map roleA)
theorem RdC.sub {h h' :Heap} {x:AV} {c:CaseD} (hb:RdC h x c) (hs:Ab.Sub h h'):RdC h' x c:=by
 obtain ⟨f,l,e,h1,h2⟩:=hb
 exact ⟨f,l,e,h1.sub hs,h2.sub hs⟩
theorem RdCs.sub {h h' :Heap} {y:AV} {cs:List CaseD} (hb:RdCs h y cs) (hs:Ab.Sub h h'):RdCs h' y cs:=by
 obtain ⟨xs,h1,h2,h3⟩:=hb
 exact ⟨xs,h1.sub hs,h2,fun i a b=>(h3 i a b).sub hs⟩
theorem RdS.sub {h h' :Heap} {x:AV} {s:StoreD} (hb:RdS h x s) (hs:Ab.Sub h h'):RdS h' x s:=by
 obtain ⟨y1,y2,y3,y4,e,h1,h2,h3,h4⟩:=hb
 exact ⟨y1,y2,y3,y4,e,h1.sub hs,h2.sub hs,h3.sub hs,h4.sub hs⟩
theorem sized_map {α:Type} {f:α→AV} {n:Nat} (hf:∀a,(f a).cells.length=n) (l:List α):Sized n (l.map f):=fun z hz=>by
 obtain ⟨a,_,rfl⟩:=List.mem_map.1 hz
 exact hf a
theorem agg_map {α:Type} {f:α→AV} (hf:∀a,isAggA (f a)=true) (l:List α):∀x∈l.map f,isAggA x=true:=fun z hz=>by
 obtain ⟨a,_,rfl⟩:=List.mem_map.1 hz
 exact hf a
theorem rd_map {α:Type} (f:α→AV) (n:Nat) (hf:∀a,(f a).cells.length=n) (h:Heap) (l:List α):Rd h n (.sl (l.map f) .no) (l.map f):= .sl (sized_map hf l) _
theorem rdC (h:Heap) (c:CaseD):RdC h (caseA c) c:=⟨_,_,rfl,rd_map fieldA 4 (fun _=>rfl) h _,rd_map hapA 3 (fun _=>rfl) h _⟩
theorem rdCs (h:Heap) (cs:List CaseD):RdCs h (casesA cs) cs:=⟨_,rd_map caseA 5 (fun _=>rfl) h cs,by simp,fun i h1 h2=>by rw [List.getElem_map]; exact rdC h _⟩
theorem rdS (h:Heap) (s:StoreD):RdS h (storeA s) s:=⟨_,_,_,_,rfl,rdCs h _,rd_map revA 7 (fun _=>rfl) h _,rd_map notA 3 (fun _=>rfl) h _,rd_map roleA 2 (fun _=>rfl) h _⟩
theorem RdC.agg {h:Heap} {x:AV} {c:CaseD} (hb:RdC h x c):isAggA x=true:=by
 obtain ⟨f,l,rfl,_⟩:=hb
 rfl
theorem RdCs.agg {h:Heap} {xs:List AV} {cs:List CaseD} (hn:xs.length=cs.length) (hb:∀i (h1:i<xs.length) (h2:i<cs.length),RdC h xs[i] cs[i]):∀x∈xs,isAggA x=true:=fun x hx=>by
 obtain ⟨i,hi,rfl⟩:=List.mem_iff_getElem.1 hx
 exact (hb i hi (by omega)).agg
theorem uCase:(U 57).sz=5:=by simp only [go_sem]
theorem uField:(U 131).sz=4:=by simp only [go_sem]
theorem uStr:(U 9).sz≠0:=by simp only [go_sem]
theorem uStr1:(U 9).sz=1:=by simp only [go_sem]
theorem find1_ok {h:Heap} {x:AV} {c:CaseD} (hb:RdC h x c) {k:Nat} {id:Txt} (hk:h k=some (.obj [.s id] 9)):FnOK Tryz.prog 118 [x, .ptr k 0] h fun r h' =>r= .v (.bool (geB c.id id))∧h' =h:=by
 obtain ⟨f,l,rfl,hf,hl⟩:=hb
 refine FnOK.body hU hm Tryz.func118 rfl (by kernel_rfl) 8 rfl [.tmp 3] rfl (Nat.le_of_ble_eq_true rfl) (fun hwf=> ?_)
 simp -implicitDefEqProofs only [go_sem]
 intro i1 h1
 have n1:k≠i1:=fun e=>by subst e; rw [hk] at h1; cases h1
 simp -implicitDefEqProofs only [go_sem,upd_ne,n1,n1.symm,hk]
 exact .mk _ (.refl _) (.upd_new h1) ⟨rfl,rfl⟩
structure Few (s:StoreD):Prop where
 cases:s.cases.length≤1000000
 fields:∀c∈s.cases,c.fields.length≤1000000
 log:∀c∈s.cases,c.log.length≤1000000
 reviews:s.reviews.length≤1000000
 notices:s.notices.length≤1000000
 roles:s.roles.length≤1000000
theorem thereD_lt {cs:List CaseD} {id:Txt} (h:thereD cs id=true):findD cs id<cs.length:=by
 unfold thereD at h
 split at h
 ·rename_i c hc
  exact (List.getElem?_eq_some_iff.1 hc).1
 ·cases h
theorem thereD_eq {cs:List CaseD} {id:Txt} (h:findD cs id<cs.length):thereD cs id=(cs[findD cs id].id==id):=by
 unfold thereD
 rw [List.getElem?_eq_getElem h]
theorem thereD_no {cs:List CaseD} {id:Txt} (h:¬findD cs id<cs.length):thereD cs id=false:=by
 unfold thereD
 rw [List.getElem?_eq_none (by omega)]
theorem find_ok {h:Heap} {x:AV} {s:StoreD} (hb:RdS h x s) (id:Txt) (hl:s.cases.length≤1000000):FnOK Tryz.prog 63 [x, .s id] h fun r h' =>r= .tup [.v (.int .i64 (findD s.cases id:Nat)), .v (.bool (thereD s.cases id))]∧h' =h:=by
 obtain ⟨y1,y2,y3,y4,rfl,⟨xs,hc,hn,hcs⟩,h2,h3,h4⟩:=hb
 cases hp:s.policy with
 |mk pid pset palg ptgt prules pkids pobls=>
 refine FnOK.body hU hm Tryz.func63 rfl (by kernel_rfl) 25 rfl [.tmp 4, .tmp 5] rfl (Nat.le_of_ble_eq_true rfl) (fun hwf=> ?_)
 simp -implicitDefEqProofs only [go_sem,polC,List.cons_append,List.nil_append]
 intro i1 h1
 simp -implicitDefEqProofs only [go_sem]
 intro i2 h2
 have n21:=ne_upd h2
 have n2:=upd_none h2
 have hs:∀a b,Ab.Sub h (upd (upd h i1 a) i2 b):=fun a b=>((Sub.refl h).put h1 a).put n2 b
 simp -implicitDefEqProofs only [go_sem,upd_ne,n21,n21.symm]
 refine (ixCase_ok y1 xs s.cases (fun c=>geB c.id id) _ [.ptr i2 0] _ (hc.sub (hs _ _)) hn (by omega) (RdCs.agg hn hcs) fun i a b=>find1_ok ((hcs i a b).sub (hs _ _)) (upd_same ..)).pthen ?_
 by_cases hf:findD s.cases id<s.cases.length
 ·have e1:ixD (fun c=>geB c.id id) s.cases=(findD s.cases id:Nat):=by rw [ixD]; exact if_pos hf
  have d1:decide (((findD s.cases id:Nat):Int)<0)=false:=decide_eq_false (by omega)
  rw [e1]
  simp -implicitDefEqProofs only [go_sem,upd_ne,n21,n21.symm,d1]
  refine ⟨.of (by kernel_rfl), ?_⟩
  obtain ⟨f,l,ex,hfl,hlg⟩:=hcs (findD s.cases id) (by omega) hf
  refine hc.idx (e:=57) (findD s.cases id) rfl (by omega) uCase (by decide) fun p hp1=> ?_
  simp -implicitDefEqProofs only [go_sem,upd_ne,n21,n21.symm]
  refine hp1.field (f:=0) (off:=0) (t:=9) rfl uStr fun p2 hp2=> ?_
  have hld:=fun a b=>(hp2.sub (hs a b)).part (U:=U) (ty:=9) uStr (by rw [ex,uStr1]; exact Nat.le_of_ble_eq_true rfl)
  simp -implicitDefEqProofs only [go_sem,hld,ex,upd_ne,n21,n21.symm]
  exact .mk _ (.refl _) (hs _ _) ⟨by rw [thereD_eq hf]; rfl,rfl⟩
 ·have e1:ixD (fun c=>geB c.id id) s.cases= -1:=by rw [ixD]; exact if_neg hf
  have e2:findD s.cases id=s.cases.length:=by
   have:findD s.cases id≤s.cases.length:=List.findIdx_le_length
   omega
  have d1:decide ((-1:Int)<0)=true:=rfl
  rw [e1]
  simp -implicitDefEqProofs only [go_sem,upd_ne,n21,n21.symm,d1]
  simp -implicitDefEqProofs only [go_sem,hc.len]
  exact .mk _ (.refl _) (hs _ _) ⟨by rw [thereD_no hf,e2,hn]; rfl,rfl⟩
end Go.Proofs.YtmlhcdeamjkpjaaGreatDoor

set_option linter.unusedSimpArgs false
set_option linter.unusedVariables false
namespace Go.Proofs.YtmlhcdeamjkpjaaGreatDoor
open Go Go.Ab Go.Bf
theorem uRole:(U 71).sz=2:=by simp only [go_sem]
theorem ixRole_ok (y:AV) (ds:List RoleD) (r:RoleD) (h:Heap) (hb:Rd h 2 y (ds.map roleA)) (hl:ds.length≤1000000000):
  FnOK Tryz.prog 123 [y,roleA r] h fun x h' =>x= .v (.int .i64 (ixD (eqRole r) ds))∧h' =h:=by
 refine FnOK.body hU hm Tryz.func123 rfl (by kernel_rfl) 19 rfl [.tmp 4] rfl (Nat.le_of_ble_eq_true rfl) (fun hwf=> ?_)
 simp -implicitDefEqProofs only [go_sem,roleA]
 intro i1 h1
 have hs:∀a,Ab.Sub h (upd h i1 a):=fun a=>(Sub.refl h).put h1 a
 simp -implicitDefEqProofs only [go_sem,hb.len,List.length_map]
 refine .intro (fun m ρ h' =>h' =upd h i1 (some (.obj [.s r.subj, .s r.role] 71))∧∃i:Nat,i≤ds.length∧m=ds.length - i∧(∀j (hj:j<i) (h2:j<ds.length),eqRole r ds[j]=false)∧lk ρ 0=some y∧lk ρ 3=some (.ptr i1 0)∧lk ρ 7=some (.v (.int .i64 ds.length))∧lk ρ 8=some (.v (.int .i64 i))) ds.length ?_ ?_
 ·refine ⟨rfl,0,by omega,rfl,fun j hj=>(by omega), ?_, ?_, ?_, ?_⟩<;>simp -implicitDefEqProofs only [go_sem]
 ·rintro m ρ h' ⟨rfl,i,hi,rfl,hc,r0,r3,r7,r8⟩
  simp -implicitDefEqProofs only [go_sem,r0,r3,r7,r8]
  refine .intro (fun e=> ?_) (fun e=> ?_)
  ·have hlt:i<ds.length:=Int.ofNat_lt.1 (of_decide_eq_true e)
   have w1:IntKind.i64.wrap ((i:Int)+1)=((i+1:Nat):Int):=by rw [wr64 _ (by omega)]; omega
   simp -implicitDefEqProofs only [go_sem,r0,r3,r7,r8]
   refine ⟨.of (by kernel_rfl), ?_⟩
   refine hb.idx (e:=71) i rfl (by simpa using hlt) uRole (by decide) fun p hp1=> ?_
   have hld:=fun a=>(hp1.sub (hs a)).all (U:=U) (ty:=71) (by simp only [go_sem]) (by rw [uRole,List.getElem_map]; rfl) (by simp only [go_sem]; rw [List.getElem_map]; rfl)
   cases d1:eqRole r ds[i]
   ·have d2:=d1
    simp only [eqRole] at d2
    simp -implicitDefEqProofs only [go_sem,r0,r3,r7,r8,hld,List.getElem_map,roleA,d2,w1]
    refine ⟨_, ?_,rfl,i+1,by omega,rfl,fun j hj h2=> ?_, ?_, ?_, ?_, ?_⟩
    ·omega
    ·by_cases hji:j=i
     ·subst hji; exact d1
     ·exact hc j (by omega) h2
    all_goals simp -implicitDefEqProofs only [go_sem,r0,r3,r7,r8,w1]
   ·have d2:=d1
    simp only [eqRole] at d2
    simp -implicitDefEqProofs only [go_sem,r0,r3,r7,r8,hld,List.getElem_map,roleA,d2]
    exact .mk _ (.refl _) (hs _) ⟨by rw [ixD_at hlt d1 fun j hj=>hc j hj (by omega)]; rfl,rfl⟩
  ·have hge:i=ds.length:=by have:=of_decide_eq_false e; omega
   simp -implicitDefEqProofs only [go_sem,r0,r3,r7,r8]
   exact .mk _ (.refl _) (hs _) ⟨by rw [ixD_none fun j hj=>hc j (by omega) hj]; rfl,rfl⟩
theorem hasRole_ok (y:AV) (ds:List RoleD) (r:RoleD) (h:Heap) (hb:Rd h 2 y (ds.map roleA)) (hl:ds.length≤1000000000):
  FnOK Tryz.prog 79 [y,roleA r] h fun x h' =>x= .v (.bool (hasD ds r))∧h' =h:=by
 have hq:=fun H (hH:Ab.Sub h H)=>ixRole_ok y ds r H (hb.sub hH) hl
 simp only [roleA] at hq
 refine FnOK.body hU hm Tryz.func79 rfl (by kernel_rfl) 9 rfl [.tmp 4] rfl (Nat.le_of_ble_eq_true rfl) (fun hwf=> ?_)
 simp -implicitDefEqProofs only [go_sem,roleA]
 intro i1 h1
 simp -implicitDefEqProofs only [go_sem]
 refine (hq _ (.upd_new h1)).pthen ?_
 simp -implicitDefEqProofs only [go_sem]
 refine .mk _ (.refl _) (.upd_new h1) ⟨?_,rfl⟩
 simp only [oneOr]
 congr 2
 unfold hasD ixD
 split
 ·rename_i hlt
  rw [decide_eq_true (by omega)]
  exact (List.any_eq_true.2 ⟨_,List.getElem_mem hlt,List.findIdx_getElem (w:=hlt)⟩).symm
 ·rename_i hge
  rw [decide_eq_false (by omega)]
  refine (List.any_eq_false.2 fun x hx=> ?_).symm
  have e:ds.findIdx (eqRole r)=ds.length:=by
   have:ds.findIdx (eqRole r)≤ds.length:=List.findIdx_le_length
   omega
  have:=List.findIdx_eq_length.1 e x hx
  rw [this]; simp
theorem has_ok {h:Heap} {x:AV} {s:StoreD} (hb:RdS h x s) (subj role:Txt) (hl:s.roles.length≤1000000000):FnOK Tryz.prog 31 [x, .s subj, .s role] h fun r h' =>r= .v (.bool (hasD s.roles ⟨subj,role⟩))∧h' =h:=by
 obtain ⟨y1,y2,y3,y4,rfl,hc,h2,h3,h4⟩:=hb
 have hq:=fun H (hH:Ab.Sub h H)=>hasRole_ok y4 s.roles ⟨subj,role⟩ H (h4.sub hH) hl
 simp only [roleA] at hq
 cases hp:s.policy with
 |mk pid pset palg ptgt prules pkids pobls=>
 refine FnOK.body hU hm Tryz.func31 rfl (by kernel_rfl) 13 rfl [.tmp 6] rfl (Nat.le_of_ble_eq_true rfl) (fun hwf=> ?_)
 simp -implicitDefEqProofs only [go_sem,polC,List.cons_append,List.nil_append]
 intro i1 h1
 simp -implicitDefEqProofs only [go_sem]
 refine (hq _ (.upd_new h1)).pthen ?_
 simp -implicitDefEqProofs only [go_sem]
 exact .mk _ (.refl _) (.upd_new h1) ⟨rfl,rfl⟩
theorem field1_ok {h:Heap} (f:FieldD) {k:Nat} {name:Txt} (hk:h k=some (.obj [.s name] 9)):FnOK Tryz.prog 78 [fieldA f, .ptr k 0] h fun r h' =>r= .v (.bool (f.name==name))∧h' =h:=by
 refine FnOK.body hU hm Tryz.func78 rfl (by kernel_rfl) 8 rfl [.tmp 3] rfl (Nat.le_of_ble_eq_true rfl) (fun hwf=> ?_)
 simp -implicitDefEqProofs only [go_sem,fieldA]
 intro i1 h1
 have n1:k≠i1:=fun e=>by subst e; rw [hk] at h1; cases h1
 simp -implicitDefEqProofs only [go_sem,upd_ne,n1,n1.symm,hk]
 exact .mk _ (.refl _) (.upd_new h1) ⟨rfl,rfl⟩
theorem fieldD_at {fs:List FieldD} {name:Txt} (h:fs.findIdx (fun f=>f.name==name)<fs.length):fieldD fs name=fs[fs.findIdx fun f=>f.name==name].val:=by
 unfold fieldD
 rw [show fs.find? (fun f=>f.name==name)=some fs[fs.findIdx fun f=>f.name==name] from List.find?_eq_some_iff_getElem.2 ⟨List.findIdx_getElem (w:=h),_,h,rfl,fun j hj=>by simpa using List.not_of_lt_findIdx hj⟩]
theorem fieldD_no {fs:List FieldD} {name:Txt} (h:¬fs.findIdx (fun f=>f.name==name)<fs.length):fieldD fs name=zeroVal:=by
 unfold fieldD
 have e:fs.findIdx (fun f=>f.name==name)=fs.length:=by
  have:fs.findIdx (fun f=>f.name==name)≤fs.length:=List.findIdx_le_length
  omega
 rw [List.find?_eq_none.2 fun x hx=>by simpa using List.findIdx_eq_length.1 e x hx]
theorem field_ok {h:Heap} {x:AV} {c:CaseD} (hb:RdC h x c) (name:Txt) (hl:c.fields.length≤1000000000):FnOK Tryz.prog 29 [x, .s name] h fun r h' =>r=valA (fieldD c.fields name)∧h' =h:=by
 obtain ⟨f,l,rfl,hf,hlg⟩:=hb
 refine FnOK.body hU hm Tryz.func29 rfl (by kernel_rfl) 19 rfl [.cell 4 42] rfl (Nat.le_of_ble_eq_true rfl) (fun hwf=> ?_)
 simp -implicitDefEqProofs only [go_sem]
 intro i1 h1
 simp -implicitDefEqProofs only [go_sem]
 intro i2 h2
 have n21:=ne_upd h2
 have n2:=upd_none h2
 simp -implicitDefEqProofs only [go_sem,upd_ne,n21,n21.symm]
 intro i3 h3
 have n32:=ne_upd h3
 have h3' :=upd_none h3
 have n31:=ne_upd h3'
 have n3:=upd_none h3'
 have hs:∀a b d,Ab.Sub h (upd (upd (upd h i1 a) i2 b) i3 d):=fun a b d=>(((Sub.refl h).put h1 a).put n2 b).put n3 d
 simp -implicitDefEqProofs only [go_sem,upd_ne,n21,n21.symm,n31,n31.symm,n32,n32.symm]
 refine (ixField_ok f _ c.fields (fun f=>f.name==name) _ [.ptr i2 0] _ (hf.sub (hs _ _ _)) (by simp) (by simpa using hl) (agg_map (fun _=>rfl) _) fun i a b=>by
  rw [List.getElem_map]; exact field1_ok _ (by simp only [upd_ne,n32.symm,upd_same',not_false_eq_true])).pthen ?_
 by_cases hx:c.fields.findIdx (fun f=>f.name==name)<c.fields.length
 ·have e1:ixD (fun f=>f.name==name) c.fields=(c.fields.findIdx (fun f=>f.name==name):Nat):=by rw [ixD]; exact if_pos hx
  have d1:decide ((0:Int)≤((c.fields.findIdx (fun f=>f.name==name):Nat):Int))=true:=decide_eq_true (by omega)
  rw [e1]
  simp -implicitDefEqProofs only [go_sem,upd_ne,n21,n21.symm,n31,n31.symm,n32,n32.symm,d1]
  refine hf.idx (e:=131) (c.fields.findIdx fun f=>f.name==name) rfl (by simpa using hx) uField (by decide) fun p hp1=> ?_
  simp -implicitDefEqProofs only [go_sem,upd_ne,n21,n21.symm,n31,n31.symm,n32,n32.symm]
  refine hp1.field (f:=1) (off:=1) (t:=42) rfl (by simp only [go_sem]) fun p2 hp2=> ?_
  have hld:=fun a b d=>(hp2.sub (hs a b d)).part (U:=U) (ty:=42) (by simp only [go_sem]) (by rw [List.getElem_map,show (U 42).sz=3 by simp only [go_sem]]; exact Nat.le_of_ble_eq_true rfl)
  simp -implicitDefEqProofs only [go_sem,hld,List.getElem_map,fieldA,upd_ne,n21,n21.symm,n31,n31.symm,n32,n32.symm]
  exact .mk _ (.refl _) (by repeat' first|exact .refl _|(refine Sub.put ?_ (by assumption) _)) ⟨by rw [fieldD_at hx]; rfl,rfl⟩
 ·have e1:ixD (fun f=>f.name==name) c.fields= -1:=by rw [ixD]; exact if_neg hx
  have d1:decide ((0:Int)≤ -1)=false:=rfl
  rw [e1]
  simp -implicitDefEqProofs only [go_sem,upd_ne,n21,n21.symm,n31,n31.symm,n32,n32.symm,d1]
  exact .mk _ (.refl _) (by repeat' first|exact .refl _|(refine Sub.put ?_ (by assumption) _)) ⟨by rw [fieldD_no hx]; rfl,rfl⟩
end Go.Proofs.YtmlhcdeamjkpjaaGreatDoor

set_option linter.unusedSimpArgs false
set_option linter.unusedVariables false
namespace Go.Ab
open Go
mutual
def pureB:AV→Bool
 | .v _=>true
 | .s _=>true
 | .agg xs=>pureL xs
 | .tup xs=>pureL xs
 | .sl xs (.own _)=>false
 | .sl xs _=>pureL xs
 | .pe x _=>pureB x
 | .ifc _ x=>pureB x
 |_=>false
def pureL:List AV→Bool
 | []=>true
 |x::r=>pureB x && pureL r
end
mutual
theorem pureB_av {F:Nat→Prop}:∀x:AV,pureB x=true→Av F x
 | .v x,_=> .v x
 | .s l,_=> .s l
 | .agg xs,h=> .agg xs (pureL_av xs (by simpa [pureB] using h))
 | .tup xs,h=> .tup xs (pureL_av xs (by simpa [pureB] using h))
 | .sl xs .no,h=> .sl xs .no (pureL_av xs (by simpa [pureB] using h)) fun _ e=>by cases e
 | .sl xs .full,h=> .sl xs .full (pureL_av xs (by simpa [pureB] using h)) fun _ e=>by cases e
 | .sl xs (.own _),h=>by simp [pureB] at h
 | .pe x o,h=> .pe x o (pureB_av x (by simpa [pureB] using h))
 | .ptr i o,h=>by simp [pureB] at h
 | .oa i o l,h=>by simp [pureB] at h
 | .ifc t x,h=> .ifc t x (pureB_av x (by simpa [pureB] using h))
 | .fn f c,h=>by simp [pureB] at h
 | .mp i,h=>by simp [pureB] at h
 | .ob i o l c z,h=>by simp [pureB] at h
theorem pureL_av {F:Nat→Prop}:∀xs:List AV,pureL xs=true→∀x∈xs,Av F x
 | [],_,x,hx=>by cases hx
 |y::r,h,x,hx=>by
  simp only [pureL,Bool.and_eq_true] at h
  rcases List.mem_cons.1 hx with e|e
  ·rw [e]; exact pureB_av y h.1
  ·exact pureL_av r h.2 x e
end
theorem pureL_map {α:Type} {f:α→AV} (hf:∀a,pureB (f a)=true):∀l:List α,pureL (l.map f)=true
 | []=>rfl
 |a::r=>by simp [pureL,hf a,pureL_map hf r]
theorem pureL_mem {xs:List AV} (h:pureL xs=true):∀x∈xs,pureB x=true:=by
 induction xs with
 |nil=>intro x hx; cases hx
 |cons y r ih=>
  simp only [pureL,Bool.and_eq_true] at h
  intro x hx
  rcases List.mem_cons.1 hx with e|e
  ·rw [e]; exact h.1
  ·exact ih h.2 x e
theorem pureB_cells {x:AV} (h:pureB x=true):∀c∈x.cells,pureB c=true:=by
 cases x with
 |agg cs=>exact pureL_mem (show pureL cs=true by simpa [pureB] using h)
 |_=>intro c hc; rw [List.mem_singleton.1 hc]; exact h
theorem Frz.pure {g h:Heap} {x:AV} (hx:pureB x=true):Frz g h x x:= .keep x (pureB_av x hx)
theorem Ow.frz {g h:Heap} {tb:TypeId} {sz id:Nat} {y:AV} {xs ys:List AV} (hw:Ow tb h sz id y xs) (hg:g id=Option.none) (hn:xs.length=ys.length) (hz:∀i (h1:i<xs.length) (h2:i<ys.length),xs[i].cells.length=ys[i].cells.length)
  (hr:∀i (h1:i<xs.length) (h2:i<ys.length) j (h3:j<xs[i].cells.length) (h4:j<ys[i].cells.length),Frz g h xs[i].cells[j] ys[i].cells[j]):Frz g h y (.sl ys .no):=by
 obtain ⟨cap,rest,rfl,h1,h2,h3,h4⟩:=hw
 have hl:=flatA_length h4
 refine .ob id 0 _ cap sz _ tb ys hg h1 (by rw [List.length_append]; omega) hn.symm (fun i hi=>by rw [←hz i (by omega) hi]; exact h4 _ (List.getElem_mem _)) fun i hi j hj hb=> ?_
 have hj' :j<sz:=by rw [←h4 xs[i] (List.getElem_mem _),hz i (by omega) hi]; exact hj
 have hbd:i*sz+j<xs.length*sz:=by
  have:(i+1)*sz≤xs.length*sz:=Nat.mul_le_mul_right _ (by omega)
  rw [Nat.add_mul,Nat.one_mul] at this
  omega
 have hjx:j<xs[i].cells.length:=by rw [hz i (by omega) hi]; exact hj
 have e:(flatA xs++rest)[0+(i*sz+j)]? =some (xs[i].cells[j]):=by
  rw [Nat.zero_add,List.getElem?_append_left (by omega),flatA_get h4 (by omega) hj',List.getElem?_eq_getElem hjx]
 rw [List.getElem?_eq_getElem hb,Option.some.injEq] at e
 rw [e]
 exact hr i (by omega) hi j hjx hj
theorem OwE.frz {g h:Heap} {tb:TypeId} {sz:Nat} {y:AV} {xs:List AV} (hw:OwE tb g h sz y xs) (hp:pureL xs=true):Frz g h y (.sl xs .no):=by
 rcases hw with ⟨rfl,rfl⟩|⟨id,hg,hw⟩
 ·exact .sl [] [] .full rfl (fun i h1=>by cases h1) (fun i h1=>by cases h1)
 ·exact hw.frz hg rfl (fun _ _ _=>rfl) fun i h1 h2 j h3 h4=> .pure (pureB_cells (pureL_mem hp _ (List.getElem_mem h1)) _ (List.getElem_mem h3))
theorem OwE.cloneF {U:TypeId→TI} {h:Heap} {sz:Nat} {tb:TypeId} {xs:List AV} {Q:AV→Heap→Prop} (hz:(U tb).sz=sz) (hf:Ab.fit (U tb).zero sz) (hb:Sized sz xs) (hk:∀y' h',OwE tb h h' sz y' xs→Sub h h'→Q y' h'):ApFull U h [] xs tb Q:=by
 subst hz
 refine ⟨fun hn=> ?_,fun hn=> ?_⟩
 ·subst hn
  exact hk _ _ (.inl ⟨rfl,rfl⟩) (.refl _)
 ·refine .ob hf (newOb.ow hb (by simp [flatA]) (by simp) fun id y' h' hid hw ho=> ?_)
  exact hk _ _ (.inr ⟨id,hid,hw⟩) fun j b hj=>by rw [ho j (fun e=>by subst e; rw [hid] at hj; cases hj)]; exact hj
theorem Rd.nil {h:Heap} {sz:Nat} {y:AV} {xs:List AV} {e:TypeId} {Q:AV→Heap→Prop} (hb:Rd h sz y xs) (hk:∀b:Bool,(xs≠ []→b=false)→Q (.v (.bool b)) h):nilK h .eql y Q (.slice e):=by
 obtain ⟨_,⟨q,rfl⟩|⟨id,off,cap,cs,t,rfl,_⟩⟩:=hb
 ·exact hk
 ·exact hk false fun _=>rfl
def nid:AV→Option Nat
 | .ob id _ _ _ _=>some id
 |_=>none
theorem OwE.nid {tb:TypeId} {h0 h:Heap} {sz:Nat} {y:AV} {xs:List AV} (hw:OwE tb h0 h sz y xs) {id:Nat} (e:Ab.nid y=some id):h0 id=Option.none∧h id≠Option.none∧Ow tb h sz id y xs:=by
 rcases hw with ⟨rfl,rfl⟩|⟨id',h1,hw⟩
 ·cases e
 ·obtain ⟨cap,rest,rfl,h2,h3⟩:=hw
  cases e
  exact ⟨h1,by rw [h2]; simp,cap,rest,rfl,h2,h3⟩
theorem Ow.nid {tb:TypeId} {h:Heap} {sz id:Nat} {y:AV} {xs:List AV} (hw:Ow tb h sz id y xs):Ab.nid y=some id:=by
 obtain ⟨cap,rest,rfl,h2,h3⟩:=hw
 rfl
theorem OwE.keep {tb:TypeId} {h0 h h' :Heap} {sz:Nat} {y:AV} {xs:List AV} (hw:OwE tb h0 h sz y xs) (hs:∀id,Ab.nid y=some id→h' id=h id):OwE tb h0 h' sz y xs:=by
 rcases hw with hw|⟨id,h1,hw⟩
 ·exact .inl hw
 ·exact .inr ⟨id,h1,hw.same (hs id hw.nid)⟩
theorem OwE.less {tb:TypeId} {h0 h1 h:Heap} {sz:Nat} {y:AV} {xs:List AV} (hw:OwE tb h1 h sz y xs) (hs:Sub h0 h1):OwE tb h0 h sz y xs:=by
 rcases hw with hw|⟨id,a,hw⟩
 ·exact .inl hw
 ·exact .inr ⟨id,hs.none a,hw⟩
end Go.Ab
namespace Go.Proofs.YtmlhcdeamjkpjaaGreatDoor
open Go Go.Ab Go.Bf
theorem clCase_ok (y:AV) (xs:List AV) (h:Heap) (hb:Rd h 5 y xs) (hl:xs.length≤1000000):FnOK Tryz.prog 124 [y] h fun r h' =>OwE 57 h h' 5 r xs∧Ab.Sub h h' :=by
 refine FnOK.body hU hm Tryz.func124 rfl (by kernel_rfl) 8 rfl [.tmp 2] rfl (Nat.le_of_ble_eq_true rfl) (fun hwf=> ?_)
 simp -implicitDefEqProofs only [go_sem]
 refine hb.nil fun b hxs=> ?_
 cases b
 ·simp -implicitDefEqProofs only [go_sem]
  refine hb.src (U:=U) (e:=57) (by simp only [go_sem]) ⟨hb.1,by omega,OwE.cloneF (U:=U) (sz:=5) (by simp only [go_sem]) (by simp only [go_sem]) hb.1 fun y' h' hw hs=> ?_⟩
  simp -implicitDefEqProofs only [go_sem]
  exact .same (.refl _) ⟨hw,hs⟩
 ·have hx:xs= []:=by
   by_cases hx:xs= []
   ·exact hx
   ·cases hxs hx
  simp -implicitDefEqProofs only [go_sem]
  exact .same (.refl _) ⟨.inl ⟨hx,rfl⟩, .refl _⟩
theorem clReview_ok (y:AV) (xs:List AV) (h:Heap) (hb:Rd h 7 y xs) (hl:xs.length≤1000000):FnOK Tryz.prog 125 [y] h fun r h' =>OwE 82 h h' 7 r xs∧Ab.Sub h h' :=by
 refine FnOK.body hU hm Tryz.func125 rfl (by kernel_rfl) 8 rfl [.tmp 2] rfl (Nat.le_of_ble_eq_true rfl) (fun hwf=> ?_)
 simp -implicitDefEqProofs only [go_sem]
 refine hb.nil fun b hxs=> ?_
 cases b
 ·simp -implicitDefEqProofs only [go_sem]
  refine hb.src (U:=U) (e:=82) (by simp only [go_sem]) ⟨hb.1,by omega,OwE.cloneF (U:=U) (sz:=7) (by simp only [go_sem]) (by simp only [go_sem]) hb.1 fun y' h' hw hs=> ?_⟩
  simp -implicitDefEqProofs only [go_sem]
  exact .same (.refl _) ⟨hw,hs⟩
 ·have hx:xs= []:=by
   by_cases hx:xs= []
   ·exact hx
   ·cases hxs hx
  simp -implicitDefEqProofs only [go_sem]
  exact .same (.refl _) ⟨.inl ⟨hx,rfl⟩, .refl _⟩
theorem clNotice_ok (y:AV) (xs:List AV) (h:Heap) (hb:Rd h 3 y xs) (hl:xs.length≤1000000):FnOK Tryz.prog 126 [y] h fun r h' =>OwE 98 h h' 3 r xs∧Ab.Sub h h' :=by
 refine FnOK.body hU hm Tryz.func126 rfl (by kernel_rfl) 8 rfl [.tmp 2] rfl (Nat.le_of_ble_eq_true rfl) (fun hwf=> ?_)
 simp -implicitDefEqProofs only [go_sem]
 refine hb.nil fun b hxs=> ?_
 cases b
 ·simp -implicitDefEqProofs only [go_sem]
  refine hb.src (U:=U) (e:=98) (by simp only [go_sem]) ⟨hb.1,by omega,OwE.cloneF (U:=U) (sz:=3) (by simp only [go_sem]) (by simp only [go_sem]) hb.1 fun y' h' hw hs=> ?_⟩
  simp -implicitDefEqProofs only [go_sem]
  exact .same (.refl _) ⟨hw,hs⟩
 ·have hx:xs= []:=by
   by_cases hx:xs= []
   ·exact hx
   ·cases hxs hx
  simp -implicitDefEqProofs only [go_sem]
  exact .same (.refl _) ⟨.inl ⟨hx,rfl⟩, .refl _⟩
theorem clRole_ok (y:AV) (xs:List AV) (h:Heap) (hb:Rd h 2 y xs) (hl:xs.length≤1000000):FnOK Tryz.prog 127 [y] h fun r h' =>OwE 71 h h' 2 r xs∧Ab.Sub h h' :=by
 refine FnOK.body hU hm Tryz.func127 rfl (by kernel_rfl) 8 rfl [.tmp 2] rfl (Nat.le_of_ble_eq_true rfl) (fun hwf=> ?_)
 simp -implicitDefEqProofs only [go_sem]
 refine hb.nil fun b hxs=> ?_
 cases b
 ·simp -implicitDefEqProofs only [go_sem]
  refine hb.src (U:=U) (e:=71) (by simp only [go_sem]) ⟨hb.1,by omega,OwE.cloneF (U:=U) (sz:=2) (by simp only [go_sem]) (by simp only [go_sem]) hb.1 fun y' h' hw hs=> ?_⟩
  simp -implicitDefEqProofs only [go_sem]
  exact .same (.refl _) ⟨hw,hs⟩
 ·have hx:xs= []:=by
   by_cases hx:xs= []
   ·exact hx
   ·cases hxs hx
  simp -implicitDefEqProofs only [go_sem]
  exact .same (.refl _) ⟨.inl ⟨hx,rfl⟩, .refl _⟩
theorem clField_ok (y:AV) (xs:List AV) (h:Heap) (hb:Rd h 4 y xs) (hl:xs.length≤1000000):FnOK Tryz.prog 121 [y] h fun r h' =>OwE 131 h h' 4 r xs∧Ab.Sub h h' :=by
 refine FnOK.body hU hm Tryz.func121 rfl (by kernel_rfl) 8 rfl [.tmp 2] rfl (Nat.le_of_ble_eq_true rfl) (fun hwf=> ?_)
 simp -implicitDefEqProofs only [go_sem]
 refine hb.nil fun b hxs=> ?_
 cases b
 ·simp -implicitDefEqProofs only [go_sem]
  refine hb.src (U:=U) (e:=131) (by simp only [go_sem]) ⟨hb.1,by omega,OwE.cloneF (U:=U) (sz:=4) (by simp only [go_sem]) (by simp only [go_sem]) hb.1 fun y' h' hw hs=> ?_⟩
  simp -implicitDefEqProofs only [go_sem]
  exact .same (.refl _) ⟨hw,hs⟩
 ·have hx:xs= []:=by
   by_cases hx:xs= []
   ·exact hx
   ·cases hxs hx
  simp -implicitDefEqProofs only [go_sem]
  exact .same (.refl _) ⟨.inl ⟨hx,rfl⟩, .refl _⟩
theorem clHappening_ok (y:AV) (xs:List AV) (h:Heap) (hb:Rd h 3 y xs) (hl:xs.length≤1000000):FnOK Tryz.prog 122 [y] h fun r h' =>OwE 96 h h' 3 r xs∧Ab.Sub h h' :=by
 refine FnOK.body hU hm Tryz.func122 rfl (by kernel_rfl) 8 rfl [.tmp 2] rfl (Nat.le_of_ble_eq_true rfl) (fun hwf=> ?_)
 simp -implicitDefEqProofs only [go_sem]
 refine hb.nil fun b hxs=> ?_
 cases b
 ·simp -implicitDefEqProofs only [go_sem]
  refine hb.src (U:=U) (e:=96) (by simp only [go_sem]) ⟨hb.1,by omega,OwE.cloneF (U:=U) (sz:=3) (by simp only [go_sem]) (by simp only [go_sem]) hb.1 fun y' h' hw hs=> ?_⟩
  simp -implicitDefEqProofs only [go_sem]
  exact .same (.refl _) ⟨hw,hs⟩
 ·have hx:xs= []:=by
   by_cases hx:xs= []
   ·exact hx
   ·cases hxs hx
  simp -implicitDefEqProofs only [go_sem]
  exact .same (.refl _) ⟨.inl ⟨hx,rfl⟩, .refl _⟩
theorem clObl_ok (y:AV) (xs:List AV) (h:Heap) (hb:Rd h 3 y xs) (hl:xs.length≤1000000):FnOK Tryz.prog 176 [y] h fun r h' =>OwE 90 h h' 3 r xs∧Ab.Sub h h' :=by
 refine FnOK.body hU hm Tryz.func176 rfl (by kernel_rfl) 8 rfl [.tmp 2] rfl (Nat.le_of_ble_eq_true rfl) (fun hwf=> ?_)
 simp -implicitDefEqProofs only [go_sem]
 refine hb.nil fun b hxs=> ?_
 cases b
 ·simp -implicitDefEqProofs only [go_sem]
  refine hb.src (U:=U) (e:=90) (by simp only [go_sem]) ⟨hb.1,by omega,OwE.cloneF (U:=U) (sz:=3) (by simp only [go_sem]) (by simp only [go_sem]) hb.1 fun y' h' hw hs=> ?_⟩
  simp -implicitDefEqProofs only [go_sem]
  exact .same (.refl _) ⟨hw,hs⟩
 ·have hx:xs= []:=by
   by_cases hx:xs= []
   ·exact hx
   ·cases hxs hx
  simp -implicitDefEqProofs only [go_sem]
  exact .same (.refl _) ⟨.inl ⟨hx,rfl⟩, .refl _⟩
theorem clpObl_ok (y:AV) (xs:List AV) (h:Heap) (hb:Rd h 3 y xs) (hl:xs.length≤1000000) (hp:pureL xs=true):FnOK Tryz.prog 176 [y] h fun r h' =>r= .sl xs .no∧h' =h:=
 FnOK.freeze fun g hg _=>(clObl_ok y xs g (hb.sub hg) hl).mono fun r h' ⟨h1,h2⟩=>⟨h2,_,h1.frz hp,rfl⟩
theorem clRule_ok (y:AV) (xs:List AV) (h:Heap) (hb:Rd h 5 y xs) (hl:xs.length≤1000000):FnOK Tryz.prog 177 [y] h fun r h' =>OwE 181 h h' 5 r xs∧Ab.Sub h h' :=by
 refine FnOK.body hU hm Tryz.func177 rfl (by kernel_rfl) 8 rfl [.tmp 2] rfl (Nat.le_of_ble_eq_true rfl) (fun hwf=> ?_)
 simp -implicitDefEqProofs only [go_sem]
 refine hb.nil fun b hxs=> ?_
 cases b
 ·simp -implicitDefEqProofs only [go_sem]
  refine hb.src (U:=U) (e:=181) (by simp only [go_sem]) ⟨hb.1,by omega,OwE.cloneF (U:=U) (sz:=5) (by simp only [go_sem]) (by simp only [go_sem]) hb.1 fun y' h' hw hs=> ?_⟩
  simp -implicitDefEqProofs only [go_sem]
  exact .same (.refl _) ⟨hw,hs⟩
 ·have hx:xs= []:=by
   by_cases hx:xs= []
   ·exact hx
   ·cases hxs hx
  simp -implicitDefEqProofs only [go_sem]
  exact .same (.refl _) ⟨.inl ⟨hx,rfl⟩, .refl _⟩
theorem clPolicy_ok (y:AV) (xs:List AV) (h:Heap) (hb:Rd h 7 y xs) (hl:xs.length≤1000000):FnOK Tryz.prog 178 [y] h fun r h' =>OwE 34 h h' 7 r xs∧Ab.Sub h h' :=by
 refine FnOK.body hU hm Tryz.func178 rfl (by kernel_rfl) 8 rfl [.tmp 2] rfl (Nat.le_of_ble_eq_true rfl) (fun hwf=> ?_)
 simp -implicitDefEqProofs only [go_sem]
 refine hb.nil fun b hxs=> ?_
 cases b
 ·simp -implicitDefEqProofs only [go_sem]
  refine hb.src (U:=U) (e:=34) (by simp only [go_sem]) ⟨hb.1,by omega,OwE.cloneF (U:=U) (sz:=7) (by simp only [go_sem]) (by simp only [go_sem]) hb.1 fun y' h' hw hs=> ?_⟩
  simp -implicitDefEqProofs only [go_sem]
  exact .same (.refl _) ⟨hw,hs⟩
 ·have hx:xs= []:=by
   by_cases hx:xs= []
   ·exact hx
   ·cases hxs hx
  simp -implicitDefEqProofs only [go_sem]
  exact .same (.refl _) ⟨.inl ⟨hx,rfl⟩, .refl _⟩
theorem clNode_ok (y:AV) (xs:List AV) (h:Heap) (hb:Rd h 7 y xs) (hl:xs.length≤1000000):FnOK Tryz.prog 179 [y] h fun r h' =>OwE 186 h h' 7 r xs∧Ab.Sub h h' :=by
 refine FnOK.body hU hm Tryz.func179 rfl (by kernel_rfl) 8 rfl [.tmp 2] rfl (Nat.le_of_ble_eq_true rfl) (fun hwf=> ?_)
 simp -implicitDefEqProofs only [go_sem]
 refine hb.nil fun b hxs=> ?_
 cases b
 ·simp -implicitDefEqProofs only [go_sem]
  refine hb.src (U:=U) (e:=186) (by simp only [go_sem]) ⟨hb.1,by omega,OwE.cloneF (U:=U) (sz:=7) (by simp only [go_sem]) (by simp only [go_sem]) hb.1 fun y' h' hw hs=> ?_⟩
  simp -implicitDefEqProofs only [go_sem]
  exact .same (.refl _) ⟨hw,hs⟩
 ·have hx:xs= []:=by
   by_cases hx:xs= []
   ·exact hx
   ·cases hxs hx
  simp -implicitDefEqProofs only [go_sem]
  exact .same (.refl _) ⟨.inl ⟨hx,rfl⟩, .refl _⟩
theorem clpNode_ok (y:AV) (xs:List AV) (h:Heap) (hb:Rd h 7 y xs) (hl:xs.length≤1000000) (hp:pureL xs=true):FnOK Tryz.prog 179 [y] h fun r h' =>r= .sl xs .no∧h' =h:=
 FnOK.freeze fun g hg _=>(clNode_ok y xs g (hb.sub hg) hl).mono fun r h' ⟨h1,h2⟩=>⟨h2,_,h1.frz hp,rfl⟩
theorem clMatch_ok (y:AV) (xs:List AV) (h:Heap) (hb:Rd h 7 y xs) (hl:xs.length≤1000000):FnOK Tryz.prog 224 [y] h fun r h' =>OwE 246 h h' 7 r xs∧Ab.Sub h h' :=by
 refine FnOK.body hU hm Tryz.func224 rfl (by kernel_rfl) 8 rfl [.tmp 2] rfl (Nat.le_of_ble_eq_true rfl) (fun hwf=> ?_)
 simp -implicitDefEqProofs only [go_sem]
 refine hb.nil fun b hxs=> ?_
 cases b
 ·simp -implicitDefEqProofs only [go_sem]
  refine hb.src (U:=U) (e:=246) (by simp only [go_sem]) ⟨hb.1,by omega,OwE.cloneF (U:=U) (sz:=7) (by simp only [go_sem]) (by simp only [go_sem]) hb.1 fun y' h' hw hs=> ?_⟩
  simp -implicitDefEqProofs only [go_sem]
  exact .same (.refl _) ⟨hw,hs⟩
 ·have hx:xs= []:=by
   by_cases hx:xs= []
   ·exact hx
   ·cases hxs hx
  simp -implicitDefEqProofs only [go_sem]
  exact .same (.refl _) ⟨.inl ⟨hx,rfl⟩, .refl _⟩
theorem clpMatch_ok (y:AV) (xs:List AV) (h:Heap) (hb:Rd h 7 y xs) (hl:xs.length≤1000000) (hp:pureL xs=true):FnOK Tryz.prog 224 [y] h fun r h' =>r= .sl xs .no∧h' =h:=
 FnOK.freeze fun g hg _=>(clMatch_ok y xs g (hb.sub hg) hl).mono fun r h' ⟨h1,h2⟩=>⟨h2,_,h1.frz hp,rfl⟩
end Go.Proofs.YtmlhcdeamjkpjaaGreatDoor

set_option linter.unusedSimpArgs false
set_option linter.unusedVariables false
namespace Go.Proofs.YtmlhcdeamjkpjaaGreatDoor
open Go Go.Ab Go.Bf
def CaseOw (h0 h:Heap) (x:AV) (c:CaseD):Prop:=∃f l,x= .agg [.s c.id, .s c.owner, .s c.state,f,l]∧OwE 131 h0 h 4 f (c.fields.map fieldA)∧OwE 96 h0 h 3 l (c.log.map hapA)∧∀i,nid f=some i→nid l≠some i
theorem ne_of_none {h:Heap} {i j:Nat} {b:Blk} (h1:h i=none) (h2:h j=some b):i≠j:=fun e=>by subst e; rw [h2] at h1; cases h1
theorem ownCase_ok {h:Heap} {x:AV} {c:CaseD} (hb:RdC h x c) (hl:c.fields.length≤1000000) (hl2:c.log.length≤1000000):FnOK Tryz.prog 74 [x] h fun r h' =>CaseOw h h' r c∧Ab.Sub h h' :=by
 obtain ⟨f,l,rfl,hf,hlg⟩:=hb
 refine FnOK.body hU hm Tryz.func74 rfl (by kernel_rfl) 12 rfl [.cell 2 57] rfl (Nat.le_of_ble_eq_true rfl) (fun hwf=> ?_)
 simp -implicitDefEqProofs only [go_sem]
 intro i1 h1
 simp -implicitDefEqProofs only [go_sem]
 intro i2 h2
 have n21:=ne_upd h2
 have n2:=upd_none h2
 simp -implicitDefEqProofs only [go_sem,upd_ne,n21,n21.symm]
 obtain ⟨H,eH⟩:∃H,upd (upd h i1 (some (.obj [.s c.id, .s c.owner, .s c.state,f,l] 57))) i2 (some (.obj [.s [], .s [], .s [], .sl [] .full, .sl [] .full] 57))=H:=⟨_,rfl⟩
 have hH:Ab.Sub h H:=by rw [←eH]; exact ((Sub.refl h).put h1 _).put n2 _
 have g1:H i1=some (.obj [.s c.id, .s c.owner, .s c.state,f,l] 57):=by rw [←eH,upd_other _ _ n21.symm,upd_same]
 have g2:H i2=some (.obj [.s [], .s [], .s [], .sl [] .full, .sl [] .full] 57):=by rw [←eH,upd_same]
 rw [eH]
 refine .stage (hm1 i1 _) [0,1,3,4,2,6,5] [7,8,9] (.hm1 g1) (by kernel_rfl) ?_
 simp -implicitDefEqProofs only [go_sem,hm1_same]
 refine (clField_ok f _ H (hf.sub hH) (by simpa using hl)).mono fun f' H1 ⟨hf',s1⟩=> ?_
 refine ⟨.hm1 (s1 _ _ g1), ?_⟩
 simp -implicitDefEqProofs only [go_sem,hm1_same]
 refine (clHappening_ok l _ H1 ((hlg.sub hH).sub s1) (by simpa using hl2)).mono fun l' H2 ⟨hl',s2⟩=> ?_
 refine ⟨.hm1 (s2 _ _ (s1 _ _ g1)),noHeap,(fun _ _ e=>by cases e), ?_⟩
 have g1' :=s2 _ _ (s1 _ _ g1)
 have g2' :=s2 _ _ (s1 _ _ g2)
 simp -implicitDefEqProofs only [go_sem,g1',hf'.rd.fit,hf'.rd.cells,hl'.rd.fit,hl'.rd.cells]
 have n1:∀b,upd H2 i1 b i2=some (.obj [.s [], .s [], .s [], .sl [] .full, .sl [] .full] 57):=fun b=>by rw [upd_other _ _ n21]; exact g2'
 refine ⟨fun _ _ e=>(by cases e),fun _ _ e=>(by cases e), ?_⟩
 simp -implicitDefEqProofs only [go_sem,n1]
 have hid:∀ {y:AV} {xs:List AV} {G:Heap} {tb:TypeId} {z:Nat},Ab.Sub H G→OwE tb G H2 z y xs→∀a b,OwE tb h (upd (upd H2 i1 a) i2 b) z y xs:=fun hG hw a b=>(hw.less (hH.trans hG)).keep fun id e=>by
  have h0:=hG.none (hw.nid e).1
  rw [upd_other _ _ (ne_of_none h0 g2),upd_other _ _ (ne_of_none h0 g1)]
 refine .mk _ (.refl _) (.refl _) ⟨⟨f',l',rfl,hid (.refl _) (hf'.sub s2) _ _,hid s1 hl' _ _,fun i ef el=> ?_⟩,((hH.trans (s1.trans s2)).put h1 _).put n2 _⟩
 exact (hf'.nid ef).2.1 ((hl'.nid el).1)
theorem ownCasep_ok {h:Heap} {x:AV} {c:CaseD} (hb:RdC h x c) (hl:c.fields.length≤1000000) (hl2:c.log.length≤1000000):FnOK Tryz.prog 74 [x] h fun r h' =>r=caseA c∧h' =h:=
 FnOK.freeze fun g hg _=>(ownCase_ok (hb.sub hg) hl hl2).mono fun r h' ⟨⟨f,l,e,hf,hlg,_⟩,h2⟩=>⟨h2,caseA c,by
  subst e
  refine .agg _ _ rfl fun i h1 h2=> ?_
  rcases i with _|_|_|_|_|i
  ·exact .pure rfl
  ·exact .pure rfl
  ·exact .pure rfl
  ·exact hf.frz (pureL_map (fun _=>rfl) _)
  ·exact hlg.frz (pureL_map (fun _=>rfl) _)
  ·simp at h1; omega,rfl⟩
end Go.Proofs.YtmlhcdeamjkpjaaGreatDoor

set_option linter.unusedSimpArgs false
set_option linter.unusedVariables false
namespace Go.Proofs.YtmlhcdeamjkpjaaGreatDoor
open Go Go.Ab Go.Bf
theorem pure_all (l:List MatchD):pureL (l.map matchA)=true:=pureL_map (fun _=>rfl) l
theorem uAll:(U 247).sz=1:=by simp only [go_sem]
theorem uAny:(U 243).sz=1:=by simp only [go_sem]
theorem ownTarget_ok (t:TgtD) (ht:tgtE t=0) (h:Heap):FnOK Tryz.prog 175 [tgtA t] h fun r h' =>r=tgtA t∧h' =h:=by
 obtain ⟨hl,he⟩:=tgtE_zero ht
 refine FnOK.body hU hm Tryz.func175 rfl (by kernel_rfl) 33 rfl [.tmp 2] rfl (Nat.le_of_ble_eq_true rfl) (fun hwf=> ?_)
 simp -implicitDefEqProofs only [go_sem,tgtA,List.length_map]
 refine .intro (fun m ρ h' =>∃(i:Nat) (y:AV) (ys:List AV),Acc U 243 h h' y ys∧ys.length=i∧(∀j (h1:j<ys.length) (h2:j<t.length),∃q,ys[j]= .sl (t[j].map allA) q)∧i≤t.length∧m=t.length - i∧lk ρ 3=some y∧lk ρ 9=some (.sl (t.map anyA) .no)∧lk ρ 10=some (.v (.int .i64 t.length))∧lk ρ 11=some (.v (.int .i64 i))) t.length ?_ ?_
 ·refine ⟨0,_,[], .full (.refl _),rfl,fun j h1=>(by cases h1),by omega,rfl, ?_, ?_, ?_, ?_⟩<;>simp -implicitDefEqProofs only [go_sem]
 ·rintro m ρ h' ⟨i,y,ys,hy,hn,hys,hi,rfl,r3,r9,r10,r11⟩
  simp -implicitDefEqProofs only [go_sem,r3,r9,r10,r11]
  refine .intro (fun e=> ?_) (fun e=> ?_)
  ·have hlt:i<t.length:=Int.ofNat_lt.1 (of_decide_eq_true e)
   have w1:IntKind.i64.wrap ((i:Int)+1)=((i+1:Nat):Int):=by rw [wr64 _ (by omega)]; omega
   obtain ⟨ha0,hal,hae⟩:=anyE_zero (he _ (List.getElem_mem hlt))
   simp -implicitDefEqProofs only [go_sem,r3,r9,r10,r11]
   refine .at i (by simpa using hlt) (by rw [List.getElem_map]; rfl) ?_
   simp -implicitDefEqProofs only [go_sem,r3,r9,r10,r11,List.getElem_map,anyA,List.length_map]
   refine .intro (fun m ρ H=>∃(j:Nat) (z:AV) (zs:List AV),Acc U 247 h' H z zs∧zs=(t[i].take j).map allA∧j≤t[i].length∧m=t[i].length - j∧lk ρ 3=some y∧lk ρ 9=some (.sl (t.map anyA) .no)∧lk ρ 10=some (.v (.int .i64 t.length))∧lk ρ 11=some (.v (.int .i64 i))∧lk ρ 6=some z∧lk ρ 15=some (.sl (t[i].map allA) .no)∧lk ρ 16=some (.v (.int .i64 t[i].length))∧lk ρ 17=some (.v (.int .i64 j))) t[i].length ?_ ?_
   ·refine ⟨0,_,[], .full (.refl _),rfl,by omega,rfl, ?_, ?_, ?_, ?_, ?_, ?_, ?_, ?_⟩<;>simp -implicitDefEqProofs only [go_sem,r3,r9,r10,r11]
   ·rintro m ρ H ⟨j,z,zs,hz,rfl,hj,rfl,r3,r9,r10,r11,r6,r15,r16,r17⟩
    simp -implicitDefEqProofs only [go_sem,r3,r9,r10,r11,r6,r15,r16,r17]
    refine .intro (fun e=> ?_) (fun e=> ?_)
    ·have hlt2:j<t[i].length:=Int.ofNat_lt.1 (of_decide_eq_true e)
     have w2:IntKind.i64.wrap ((j:Int)+1)=((j+1:Nat):Int):=by rw [wr64 _ (by omega)]; omega
     have hml:=(allE_zero (hae _ (List.getElem_mem hlt2))).2.1
     simp -implicitDefEqProofs only [go_sem,r3,r9,r10,r11,r6,r15,r16,r17]
     refine .at j (by simpa using hlt2) (by rw [List.getElem_map]; rfl) ?_
     simp -implicitDefEqProofs only [go_sem,r3,r9,r10,r11,r6,r15,r16,r17,List.getElem_map,allA]
     refine (clpMatch_ok _ (t[i][j].map matchA) _ (rd_map matchA 7 (fun _=>rfl) _ _) (by simp; omega) (pure_all _)).pthen ?_
     simp -implicitDefEqProofs only [go_sem,r3,r9,r10,r11,r6,r15,r16,r17]
     refine hz.app (zs:= [allA t[i][j]]) (by rw [uAll]; decide) (by simp only [go_sem,ne_eq,not_false_eq_true]) (fun k hk=>hk) (by rw [uAll]; exact sized_map (f:=allA) (fun _=>rfl) _) (by rw [uAll]; exact sized_map (f:=allA) (fun _=>rfl) [t[i][j]]) (by simp only [go_sem,List.length_map,List.length_cons,List.length_nil,List.length_take]; omega) fun z' H' hz' _=> ?_
     simp -implicitDefEqProofs only [go_sem,r3,r9,r10,r11,r6,r15,r16,r17,w2]
     refine ⟨_, ?_,j+1,z',_,hz', ?_,by omega,rfl, ?_, ?_, ?_, ?_, ?_, ?_, ?_, ?_⟩
     ·omega
     ·rw [List.take_succ_eq_append_getElem hlt2,List.map_append]; rfl
     all_goals simp -implicitDefEqProofs only [go_sem,r3,r9,r10,r11,r6,r15,r16,r17,w2]
    ·have hge:j=t[i].length:=by have:=of_decide_eq_false e; omega
     subst hge
     rw [List.take_length] at hz
     have hyH:=hy.sub hz.1
     obtain ⟨q,rfl⟩:=hz.row
     simp -implicitDefEqProofs only [go_sem,r3,r9,r10,r11,r6,r15,r16,r17]
     refine hyH.app (zs:= [.sl (t[i].map allA) q]) (by rw [uAny]; decide) (by simp only [go_sem,ne_eq,not_false_eq_true]) (fun k hk=>hk) (by rw [uAny]; intro w hw; obtain ⟨k,hk,rfl⟩:=List.mem_iff_getElem.1 hw; obtain ⟨q',e'⟩:=hys k hk (by omega); rw [e']; rfl) (by rw [uAny]; intro w hw; rw [List.mem_singleton.1 hw]; rfl) (by simp only [go_sem,hn,List.length_cons,List.length_nil]; omega) fun y' H' hy' _=> ?_
     simp -implicitDefEqProofs only [go_sem,r3,r9,r10,r11,r6,r15,r16,r17,w1]
     refine ⟨_, ?_,i+1,y',_,hy',by simp [hn],fun k h1 h2=> ?_,by omega,rfl, ?_, ?_, ?_, ?_⟩
     ·omega
     ·by_cases hk:k<ys.length
      ·rw [List.getElem_append_left hk]; exact hys k hk h2
      ·have:k=i:=by simp at h1; omega
       subst this
       exact ⟨q,by rw [List.getElem_append_right (by omega)]; simp [hn]⟩
     all_goals simp -implicitDefEqProofs only [go_sem,r3,r9,r10,r11,r6,r15,r16,r17,w1]
  ·have hge:i=t.length:=by have:=of_decide_eq_false e; omega
   simp -implicitDefEqProofs only [go_sem,r3,r9,r10,r11]
   obtain ⟨q,rfl⟩:=hy.row
   refine .mk (tgtA t) ?_ hy.1 ⟨rfl,rfl⟩
   refine .deep _ _ q (by simp; omega) (fun k h1 h2=> ?_) fun k h1 h2 j h3 h4=> ?_
   ·obtain ⟨q',e'⟩:=hys k h1 (by omega)
    rw [e',List.getElem_map]; rfl
   ·obtain ⟨q',e'⟩:=hys k h1 (by omega)
    simp only [e',AV.cells,List.length_singleton] at h3
    obtain rfl:j=0:=by omega
    simp only [e',List.getElem_map,anyA,AV.cells,List.getElem_singleton]
    exact .sl _ _
end Go.Proofs.YtmlhcdeamjkpjaaGreatDoor

set_option linter.unusedSimpArgs false
set_option linter.unusedVariables false
namespace Go.Proofs.YtmlhcdeamjkpjaaGreatDoor
open Go Go.Ab Go.Bf
theorem pure_tgt (t:TgtD):pureB (tgtA t)=true:=by
 simp only [tgtA,pureB]
 refine pureL_map (fun a=> ?_) t
 simp only [anyA,pureB]
 refine pureL_map (fun b=> ?_) a
 simp only [allA,pureB]
 exact pureL_map (fun _=>rfl) b
theorem pure_cond (l:List NodeD):pureB (condA l)=true:=by simp only [condA,pureB]; exact pureL_map (fun _=>rfl) l
theorem pure_obls (l:List OblD):pureB (oblsA l)=true:=by simp only [oblsA,pureB]; exact pureL_map (fun _=>rfl) l
theorem pure_rule (r:RuleD):pureB (ruleA r)=true:=by simp [ruleA,pureB,pureL,pure_tgt,pure_cond,pure_obls]
mutual
theorem pure_pol:∀p:PolD,pureB (polA p)=true
 | .mk id set alg tgt rules kids obls=>by simp [polA,pureB,pureL,pure_tgt,pure_obls,pureL_map pure_rule rules,pure_kids kids]
theorem pure_kids:∀l:List PolD,pureL (kidsA l)=true
 | []=>rfl
 |k::r=>by simp [kidsA,pureL,pure_pol k,pure_kids r]
end
theorem polA_cells (p:PolD):(polA p).cells.length=7:=by cases p; simp [polA,AV.cells]
theorem cond_le {l:List NodeD} (h:exprE l=0):l.length≤32:=by
 by_cases hn:l= []
 ·subst hn; simp
 ·exact (exprE_zero h hn).1
theorem obls_le {l:List OblD} (h:oblsE l=0):l.length≤8:=(oblsE_zero h).1
theorem upd_id {H:Heap} {i:Nat} {x:Option Blk} (h:H i=x):upd H i x=H:=by
 funext j
 by_cases e:j=i
 ·rw [e,upd_same,h]
 ·rw [upd_other _ _ e]
theorem ow_ne {tb:TypeId} {h:Heap} {sz id i:Nat} {y:AV} {xs cs:List AV} {t:TypeId} (hw:Ow tb h sz id y xs) (hi:h i=some (.obj cs t)) (ht:t≠tb):id≠i:=by
 obtain ⟨cap,rest,rfl,h1,_⟩:=hw
 intro e
 rw [e,hi] at h1
 injection h1 with h1
 injection h1 with _ h1
 exact ht h1
theorem put_flat {sz:Nat} {xs:List AV} (hs:Sized sz xs) (j:Nat) (hj:j<xs.length) (o:Nat) (c:List AV) (ho:o+c.length≤sz) {rest:List AV}:
  (flatA xs++rest).take (j*sz+o)++c++(flatA xs++rest).drop (j*sz+o+c.length)=flatA (xs.set j (.agg (Ab.over xs[j].cells o c)))++rest:=by
 have hl:=flatA_length hs
 have hb:(j+1)*sz≤xs.length*sz:=Nat.mul_le_mul_right _ (by omega)
 rw [Nat.add_mul,Nat.one_mul] at hb
 have:=over_app (us:=flatA xs) (vs:=rest) (o:=j*sz+o) (c:=c) (by omega)
 rw [Ab.over] at this
 rw [this,flatA_put hs j hj o c ho]
theorem set_same {α:Type} {xs:List α} {i:Nat} {x:α} (h:xs[i]? =some x):xs.set i x=xs:=by
 obtain ⟨hi,rfl⟩:=List.getElem?_eq_some_iff.1 h
 exact List.set_getElem_self hi
theorem polC_mk (id:Txt) (set:Bool) (alg:Int) (tgt:TgtD) (rules:List RuleD) (kids:List PolD) (obls:List OblD):polA (.mk id set alg tgt rules kids obls)= .agg [.s id, .v (.bool set), .v (.int .i64 alg),tgtA tgt, .sl (rules.map ruleA) .no, .sl (kids.map polA) .no,oblsA obls]:=by simp [polA,kidsA_eq]
set_option maxRecDepth 100000 in
theorem ownPolicy_ok:∀(p:PolD) (d:Nat),polE d p→∀h,FnOK Tryz.prog 128 [polA p] h fun r h' =>r=polA p∧h' =h
 | .mk pid pset palg ptgt prules pkids pobls,d,hp,h=>by
  obtain ⟨_,_,_,_,_,_,ht,ho,hr16,hk16,hre,hke⟩:=hp
  rw [kidsE_eq] at hke
  have ih:∀(j:Nat) (hj:j<pkids.length) (h:Heap),FnOK Tryz.prog 128 [polA pkids[j]] h fun r h' =>r=polA pkids[j]∧h' =h:=fun j hj h=>ownPolicy_ok pkids[j] (d+1) (hke _ (List.getElem_mem hj)) h
  have hob:=obls_le ho
  refine FnOK.freeze fun g hg _=> ?_
  rw [polC_mk]
  refine FnOK.body hU hm Tryz.func128 rfl (by kernel_rfl) 72 rfl [.cell 2 34] rfl (Nat.le_of_ble_eq_true rfl) (fun hwf=> ?_)
  simp -implicitDefEqProofs only [go_sem]
  intro i1 h1
  simp -implicitDefEqProofs only [go_sem]
  intro i2 h2
  have n21:=ne_upd h2
  have n2:=upd_none h2
  simp -implicitDefEqProofs only [go_sem,upd_ne,n21,n21.symm]
  obtain ⟨H,eH⟩:∃H,upd (upd g i1 (some (.obj [.s pid, .v (.bool pset), .v (.int .i64 palg),tgtA ptgt, .sl (prules.map ruleA) .no, .sl (pkids.map polA) .no,oblsA pobls] 34))) i2 (some (.obj [.s [], .v (.bool false), .v (.int .i64 0), .sl [] .full, .sl [] .full, .sl [] .full, .sl [] .full] 34))=H:=⟨_,rfl⟩
  have hH:Ab.Sub g H:=by rw [←eH]; exact ((Sub.refl g).put h1 _).put n2 _
  have g1:H i1=some (.obj [.s pid, .v (.bool pset), .v (.int .i64 palg),tgtA ptgt, .sl (prules.map ruleA) .no, .sl (pkids.map polA) .no,oblsA pobls] 34):=by rw [←eH,upd_other _ _ n21.symm,upd_same]
  have g2:H i2=some (.obj [.s [], .v (.bool false), .v (.int .i64 0), .sl [] .full, .sl [] .full, .sl [] .full, .sl [] .full] 34):=by rw [←eH,upd_same]
  rw [eH]
  refine .stage (hm1 i1 _) [0,1,3,4,2,6,5] [7,8,9] (.hm1 g1) (by kernel_rfl) ?_
  simp -implicitDefEqProofs only [go_sem,hm1_same]
  refine (ownTarget_ok ptgt ht H).pthen ?_
  refine ⟨.hm1 g1, ?_⟩
  simp -implicitDefEqProofs only [go_sem,hm1_same]
  refine (clpObl_ok _ (pobls.map oblA) H (rd_map oblA 3 (fun _=>rfl) _ _) (by simp; omega) (pureL_map (fun _=>rfl) _)).pthen ?_
  refine ⟨.hm1 g1,noHeap,(fun _ _ e=>by cases e), ?_⟩
  have cT:(tgtA ptgt).cells= [tgtA ptgt]:=rfl
  simp -implicitDefEqProofs only [go_sem,g1,show fit (tgtA ptgt) 1=(1=1) from rfl,cT]
  have eo:(.sl (pobls.map oblA) .no:AV)=oblsA pobls:=rfl
  rw [eo]
  refine ⟨fun _ _ e=>(by cases e),fun _ _ e=>(by cases e), ?_⟩
  rw [upd_id g1]
  refine .stage (hm1 i1 _) [0,1,3,4,2,6,5] [7,8,9] (.hm1 g1) (by kernel_rfl) ?_
  simp -implicitDefEqProofs only [go_sem,hm1_same]
  refine (clRule_ok _ (prules.map ruleA) H (rd_map ruleA 5 (fun _=>rfl) _ _) (by simp; omega)).mono fun y4 H1 ⟨w4,s1⟩=> ?_
  refine ⟨.hm1 (s1 _ _ g1), ?_⟩
  simp -implicitDefEqProofs only [go_sem,hm1_same]
  refine (clPolicy_ok _ (pkids.map polA) H1 (rd_map polA 7 polA_cells _ _) (by simp; omega)).mono fun y5 H2 ⟨w5,s2⟩=> ?_
  have g1' :=s2 _ _ (s1 _ _ g1)
  have g2' :=s2 _ _ (s1 _ _ g2)
  refine ⟨.hm1 g1',noHeap,(fun _ _ e=>by cases e), ?_⟩
  simp -implicitDefEqProofs only [go_sem,g1',w4.rd.fit,w4.rd.cells,w5.rd.fit,w5.rd.cells]
  refine ⟨fun _ _ e=>(by cases e),fun _ _ e=>(by cases e), ?_⟩
  have hn4:∀id,nid y4=some id→id≠i2:=fun id e=>ne_of_none (w4.nid e).1 g2
  have hn5:∀id,nid y5=some id→id≠i2:=fun id e=>ne_of_none (w5.nid e).1 (s1 _ _ g2)
  have hnd:∀i,nid y4=some i→nid y5≠some i:=fun i e4 e5=>(w4.nid e4).2.1 (w5.nid e5).1
  have v4:∀b,OwE 181 g (upd H2 i1 b) 5 y4 (prules.map ruleA):=fun b=>((w4.sub s2).less hH).keep fun id e=>upd_other _ _ (ne_of_none (w4.nid e).1 g1)
  have v5:∀b,OwE 34 g (upd H2 i1 b) 7 y5 (pkids.map polA):=fun b=>(w5.less (hH.trans s1)).keep fun id e=>upd_other _ _ (ne_of_none (s1.none (w5.nid e).1) g1)
  have vs:∀b,Ab.Sub g (upd H2 i1 b):=fun b=>(hH.trans (s1.trans s2)).put h1 b
  have vz:∀b,upd H2 i1 b i2=some (.obj [.s [], .v (.bool false), .v (.int .i64 0), .sl [] .full, .sl [] .full, .sl [] .full, .sl [] .full] 34):=fun b=>by rw [upd_other _ _ n21]; exact g2'
  obtain ⟨H3,eH3⟩:∃H3,upd H2 i1 (some (.obj [.s pid, .v (.bool pset), .v (.int .i64 palg),tgtA ptgt,y4,y5,oblsA pobls] 34))=H3:=⟨_,rfl⟩
  have q1:H3 i1=some (.obj [.s pid, .v (.bool pset), .v (.int .i64 palg),tgtA ptgt,y4,y5,oblsA pobls] 34):=by rw [←eH3,upd_same]
  replace v4:=v4 (some (.obj [.s pid, .v (.bool pset), .v (.int .i64 palg),tgtA ptgt,y4,y5,oblsA pobls] 34))
  replace v5:=v5 (some (.obj [.s pid, .v (.bool pset), .v (.int .i64 palg),tgtA ptgt,y4,y5,oblsA pobls] 34))
  replace vs:=vs (some (.obj [.s pid, .v (.bool pset), .v (.int .i64 palg),tgtA ptgt,y4,y5,oblsA pobls] 34))
  replace vz:=vz (some (.obj [.s pid, .v (.bool pset), .v (.int .i64 palg),tgtA ptgt,y4,y5,oblsA pobls] 34))
  rw [eH3] at v4 v5 vs vz
  rw [eH3]
  clear eH3
  have hi1:∀id,g id=none→∀ {K:Heap} {b:Blk},K id=some b→K id≠none:=fun id _ K b e=>by rw [e]; simp
  simp -implicitDefEqProofs only [go_sem,q1,v4.rd.len,List.length_map]
  refine .intro (fun m ρ G=>∃i:Nat,G i1=some (.obj [.s pid, .v (.bool pset), .v (.int .i64 palg),tgtA ptgt,y4,y5,oblsA pobls] 34)∧G i2=some (.obj [.s [], .v (.bool false), .v (.int .i64 0), .sl [] .full, .sl [] .full, .sl [] .full, .sl [] .full] 34)∧Ab.Sub g G∧OwE 181 g G 5 y4 (prules.map ruleA)∧OwE 34 g G 7 y5 (pkids.map polA)∧i≤prules.length∧m=prules.length - i∧
   lk ρ 1=some (.ptr i1 0)∧lk ρ 2=some (.ptr i2 0)∧lk ρ 24=some y4∧lk ρ 25=some (.v (.int .i64 prules.length))∧lk ρ 26=some (.v (.int .i64 i))) prules.length ?_ ?_
  ·refine ⟨0,q1,vz,vs,v4,v5,by omega,rfl, ?_, ?_, ?_, ?_, ?_⟩<;>simp -implicitDefEqProofs only [go_sem]
  ·rintro m ρ G ⟨i,q1,vz,vs,v4,v5,hi,rfl,r1,r2,r24,r25,r26⟩
   simp -implicitDefEqProofs only [go_sem,r1,r2,r24,r25,r26]
   refine .intro (fun e=> ?_) (fun e=> ?_)
   ·have hlt:i<prules.length:=Int.ofNat_lt.1 (of_decide_eq_true e)
    have w1:IntKind.i64.wrap ((i:Int)+1)=((i+1:Nat):Int):=by rw [wr64 _ (by omega)]; omega
    obtain ⟨_,rt,rc,ro⟩:=hre _ (List.getElem_mem hlt)
    have hrc:=cond_le rc
    have hro:=obls_le ro
    simp -implicitDefEqProofs only [go_sem,r1,r2,r24,r25,r26]
    refine v4.rd.idx (e:=181) i rfl (by simpa using hlt) (by simp only [go_sem]) (by decide) fun p hp1=> ?_
    have hld:=hp1.all (U:=U) (ty:=181) (by simp only [go_sem]) (by simp only [go_sem]; rw [List.getElem_map]; rfl) (by simp only [go_sem]; rw [List.getElem_map]; rfl)
    simp -implicitDefEqProofs only [go_sem,r1,r2,r24,r25,r26,hld,List.getElem_map,ruleA]
    intro i4 h4
    have n41:i4≠i1:=ne_of_none h4 q1
    simp -implicitDefEqProofs only [go_sem,r1,r2,r24,r25,r26]
    obtain ⟨G4,eG4⟩:∃G4,upd G i4 (some (.obj [.s prules[i].id, .v (.bool prules[i].deny),tgtA prules[i].tgt,condA prules[i].cond,oblsA prules[i].obls] 181))=G4:=⟨_,rfl⟩
    rw [eG4]
    have p1:G4 i1=some (.obj [.s pid, .v (.bool pset), .v (.int .i64 palg),tgtA ptgt,y4,y5,oblsA pobls] 34):=by rw [←eG4,upd_other _ _ n41.symm]; exact q1
    have p4:G4 i4=some (.obj [.s prules[i].id, .v (.bool prules[i].deny),tgtA prules[i].tgt,condA prules[i].cond,oblsA prules[i].obls] 181):=by rw [←eG4,upd_same]
    have sG:Ab.Sub G G4:=by rw [←eG4]; exact .upd_new h4
    refine .calls (hm2 i1 (.obj [.s pid, .v (.bool pset), .v (.int .i64 palg),tgtA ptgt,y4,y5,oblsA pobls] 34) i4 (.obj [.s prules[i].id, .v (.bool prules[i].deny),tgtA prules[i].tgt,condA prules[i].cond,oblsA prules[i].obls] 181)) [0,1,2,3,4,5,6,7,8,9,10,12,13,15,16,11,14,17,18,19,20,21,22,23,24,25,26] (.hm2 p1 p4) (by kernel_rfl) rfl ?_
    simp -implicitDefEqProofs only [go_sem,r1,hm2_fst _ _ n41.symm,hm2_snd]
    refine (ownTarget_ok prules[i].tgt rt G4).pthen ?_
    refine ⟨.hm2 p1 p4, ?_⟩
    simp -implicitDefEqProofs only [go_sem,r1,hm2_fst _ _ n41.symm,hm2_snd]
    refine (clpNode_ok _ (prules[i].cond.map nodeA) G4 (rd_map nodeA 7 (fun _=>rfl) _ _) (by simp; omega) (pureL_map (fun _=>rfl) _)).pthen ?_
    refine ⟨.hm2 p1 p4, ?_⟩
    simp -implicitDefEqProofs only [go_sem,r1,hm2_fst _ _ n41.symm,hm2_snd]
    refine (clpObl_ok _ (prules[i].obls.map oblA) G4 (rd_map oblA 3 (fun _=>rfl) _ _) (by simp; omega) (pureL_map (fun _=>rfl) _)).pthen ?_
    refine ⟨.hm2 p1 p4, ?_⟩
    simp -implicitDefEqProofs only [go_sem,r1,hm2_fst _ _ n41.symm,hm2_snd]
    obtain ⟨id4,hg4,o4⟩:=(v4.sub sG).ow (by intro e; rw [List.map_eq_nil_iff] at e; rw [e] at hlt; cases hlt)
    have m1:id4≠i1:=ow_ne o4 p1 (by decide)
    have m4:id4≠i4:=fun e=>(v4.nid o4.nid).2.1 (by rw [e]; exact h4)
    refine o4.idx (U:=U) (e:=181) i rfl (by simpa using hlt) (by simp only [go_sem]) (by decide) ?_
    simp -implicitDefEqProofs only [go_sem,r1,hm2_fst _ _ n41.symm,hm2_snd]
    have o4' :=o4
    obtain ⟨cap,rest,ey,hid,hr,hc,hsz⟩:=o4'
    have hbd:i*5+5≤(flatA (prules.map ruleA)++rest).length:=by
     rw [List.length_append,flatA_length hsz,List.length_map]; omega
    have e2:List.take (i*5+2) (flatA (prules.map ruleA)++rest)++(tgtA prules[i].tgt).cells++List.drop (i*5+2+(tgtA prules[i].tgt).cells.length) (flatA (prules.map ruleA)++rest)=flatA (prules.map ruleA)++rest:=by
     refine (put_flat hsz i (by simpa using hlt) 2 ((tgtA prules[i].tgt).cells) (Nat.le_of_ble_eq_true rfl)).trans ?_
     rw [set_same]
     rw [List.getElem?_eq_getElem (by simpa using hlt),List.getElem_map]; rfl
    have e3:List.take (i*5+3) (flatA (prules.map ruleA)++rest)++ [.sl (prules[i].cond.map nodeA) .no]++List.drop (i*5+3+1) (flatA (prules.map ruleA)++rest)=flatA (prules.map ruleA)++rest:=by
     refine (put_flat hsz i (by simpa using hlt) 3 ([.sl (prules[i].cond.map nodeA) .no]) (Nat.le_of_ble_eq_true rfl)).trans ?_
     rw [set_same]
     rw [List.getElem?_eq_getElem (by simpa using hlt),List.getElem_map]; rfl
    have e4:List.take (i*5+4) (flatA (prules.map ruleA)++rest)++ [.sl (prules[i].obls.map oblA) .no]++List.drop (i*5+4+1) (flatA (prules.map ruleA)++rest)=flatA (prules.map ruleA)++rest:=by
     refine (put_flat hsz i (by simpa using hlt) 4 ([.sl (prules[i].obls.map oblA) .no]) (Nat.le_of_ble_eq_true rfl)).trans ?_
     rw [set_same]
     rw [List.getElem?_eq_getElem (by simpa using hlt),List.getElem_map]; rfl
    simp -implicitDefEqProofs only [go_sem,hid]
    rw [e2,upd_id hid]
    refine ⟨rfl,by omega, .hm2 p1 p4, ?_⟩
    refine o4.idx (U:=U) (e:=181) i rfl (by simpa using hlt) (by simp only [go_sem]) (by decide) ?_
    simp -implicitDefEqProofs only [go_sem,r1,hm2_fst _ _ n41.symm,hm2_snd,hid]
    rw [e3,upd_id hid]
    refine ⟨by omega, .hm2 p1 p4, ?_⟩
    refine o4.idx (U:=U) (e:=181) i rfl (by simpa using hlt) (by simp only [go_sem]) (by decide) ?_
    simp -implicitDefEqProofs only [go_sem,r1,hm2_fst _ _ n41.symm,hm2_snd,hid]
    rw [e4,upd_id hid]
    refine ⟨by omega, .hm2 p1 p4, ?_⟩
    simp -implicitDefEqProofs only [go_sem,r1,r2,r24,r25,r26,w1]
    refine ⟨_, ?_,i+1,p1,sG _ _ vz,vs.trans sG,v4.sub sG,v5.sub sG,by omega,rfl, ?_, ?_, ?_, ?_, ?_⟩
    ·omega
    all_goals simp -implicitDefEqProofs only [go_sem,r1,r2,r24,r25,r26,w1]
   ·have hge:i=prules.length:=by have:=of_decide_eq_false e; omega
    clear hge
    simp -implicitDefEqProofs only [go_sem,r1,r2,r24,r25,r26,q1,v5.rd.len,List.length_map]
    refine .intro (fun m ρ G=>∃i:Nat,G i1=some (.obj [.s pid, .v (.bool pset), .v (.int .i64 palg),tgtA ptgt,y4,y5,oblsA pobls] 34)∧G i2=some (.obj [.s [], .v (.bool false), .v (.int .i64 0), .sl [] .full, .sl [] .full, .sl [] .full, .sl [] .full] 34)∧Ab.Sub g G∧OwE 181 g G 5 y4 (prules.map ruleA)∧OwE 34 g G 7 y5 (pkids.map polA)∧i≤pkids.length∧m=pkids.length - i∧
     lk ρ 1=some (.ptr i1 0)∧lk ρ 2=some (.ptr i2 0)∧lk ρ 57=some y5∧lk ρ 58=some (.v (.int .i64 pkids.length))∧lk ρ 59=some (.v (.int .i64 i))) pkids.length ?_ ?_
    ·refine ⟨0,q1,vz,vs,v4,v5,by omega,rfl, ?_, ?_, ?_, ?_, ?_⟩<;>simp -implicitDefEqProofs only [go_sem,r1,r2]
    ·clear r1 r2 r24 r25 r26 q1 vz vs v4 v5 e hi
     rintro m ρ G ⟨i,q1,vz,vs,v4,v5,hi,rfl,r1,r2,r57,r58,r59⟩
     simp -implicitDefEqProofs only [go_sem,r1,r2,r57,r58,r59]
     refine .intro (fun e=> ?_) (fun e=> ?_)
     ·have hlt:i<pkids.length:=Int.ofNat_lt.1 (of_decide_eq_true e)
      have w1:IntKind.i64.wrap ((i:Int)+1)=((i+1:Nat):Int):=by rw [wr64 _ (by omega)]; omega
      have ihi:=ih i hlt
      have hci:=polA_cells pkids[i]
      cases hpk:pkids[i] with
      |mk kid kset kalg ktgt krules kkids kobls=>
      rw [hpk,polC_mk] at ihi
      simp -implicitDefEqProofs only [go_sem,r1,r2,r57,r58,r59]
      refine v5.rd.idx (e:=34) i rfl (by simpa using hlt) (by simp only [go_sem]) (by decide) fun p hp1=> ?_
      have hld:=hp1.all (U:=U) (ty:=34) (by simp only [go_sem]) (by simp only [go_sem]; rw [List.getElem_map]; exact hci) (by simp only [go_sem]; rw [List.getElem_map,hpk,polC_mk]; rfl)
      simp -implicitDefEqProofs only [go_sem,r1,r2,r57,r58,r59,hld,List.getElem_map,hpk,polC_mk]
      intro i4 h4
      have n41:i4≠i1:=ne_of_none h4 q1
      simp -implicitDefEqProofs only [go_sem,r1,r2,r57,r58,r59]
      obtain ⟨G4,eG4⟩:∃G4,upd G i4 (some (.obj [.s kid, .v (.bool kset), .v (.int .i64 kalg),tgtA ktgt, .sl (krules.map ruleA) .no, .sl (kkids.map polA) .no,oblsA kobls] 34))=G4:=⟨_,rfl⟩
      rw [eG4]
      have p1:G4 i1=some (.obj [.s pid, .v (.bool pset), .v (.int .i64 palg),tgtA ptgt,y4,y5,oblsA pobls] 34):=by rw [←eG4,upd_other _ _ n41.symm]; exact q1
      have p4:G4 i4=some (.obj [.s kid, .v (.bool kset), .v (.int .i64 kalg),tgtA ktgt, .sl (krules.map ruleA) .no, .sl (kkids.map polA) .no,oblsA kobls] 34):=by rw [←eG4,upd_same]
      have sG:Ab.Sub G G4:=by rw [←eG4]; exact .upd_new h4
      refine .calls (hm2 i1 (.obj [.s pid, .v (.bool pset), .v (.int .i64 palg),tgtA ptgt,y4,y5,oblsA pobls] 34) i4 (.obj [.s kid, .v (.bool kset), .v (.int .i64 kalg),tgtA ktgt, .sl (krules.map ruleA) .no, .sl (kkids.map polA) .no,oblsA kobls] 34)) [0,1,2,3,4,5,6] (.hm2 p1 p4) (by kernel_rfl) rfl ?_
      simp -implicitDefEqProofs only [go_sem,r1,hm2_fst _ _ n41.symm,hm2_snd]
      refine (ihi G4).pthen ?_
      refine ⟨.hm2 p1 p4, ?_⟩
      simp -implicitDefEqProofs only [go_sem,r1,hm2_fst _ _ n41.symm,hm2_snd]
      obtain ⟨id4,hg4,o4⟩:=(v5.sub sG).ow (by intro e; rw [List.map_eq_nil_iff] at e; rw [e] at hlt; cases hlt)
      have o4' :=o4
      obtain ⟨cap,rest,ey,hid,hr,hc,hsz⟩:=o4'
      have hbd:i*7+7≤(flatA (pkids.map polA)++rest).length:=by
       rw [List.length_append,flatA_length hsz,List.length_map]; omega
      have e2:List.take (i*7) (flatA (pkids.map polA)++rest)++ [.s kid, .v (.bool kset), .v (.int .i64 kalg),tgtA ktgt, .sl (krules.map ruleA) .no, .sl (kkids.map polA) .no,oblsA kobls]++List.drop (i*7+7) (flatA (pkids.map polA)++rest)=flatA (pkids.map polA)++rest:=by
       refine (put_flat hsz i (by simpa using hlt) 0 [.s kid, .v (.bool kset), .v (.int .i64 kalg),tgtA ktgt, .sl (krules.map ruleA) .no, .sl (kkids.map polA) .no,oblsA kobls] (Nat.le_of_ble_eq_true rfl)).trans ?_
       rw [set_same]
       rw [List.getElem?_eq_getElem (by simpa using hlt),List.getElem_map,hpk,polC_mk]; rfl
      refine o4.idx (U:=U) (e:=34) i rfl (by simpa using hlt) (by simp only [go_sem]) (by decide) ?_
      simp -implicitDefEqProofs only [go_sem,r1,hm2_fst _ _ n41.symm,hm2_snd,hid]
      rw [e2,upd_id hid]
      refine ⟨by omega, .hm2 p1 p4, ?_⟩
      simp -implicitDefEqProofs only [go_sem,r1,r2,r57,r58,r59,w1]
      refine ⟨_, ?_,i+1,p1,sG _ _ vz,vs.trans sG,v4.sub sG,v5.sub sG,by omega,rfl, ?_, ?_, ?_, ?_, ?_⟩
      ·omega
      all_goals simp -implicitDefEqProofs only [go_sem,r1,r2,r57,r58,r59,w1]
     ·simp -implicitDefEqProofs only [go_sem,r1,r2,r57,r58,r59,q1,vz]
      refine .mk _ (.refl _) (.refl _) ⟨vs.put n2 _,polA (.mk pid pset palg ptgt prules pkids pobls), ?_,polC_mk ..⟩
      rw [polC_mk]
      have z4:∀b,Frz g (upd G i2 b) y4 (.sl (prules.map ruleA) .no):=fun b=>(v4.keep fun id e=>upd_other _ _ (hn4 id e)).frz (pureL_map pure_rule prules)
      have z5:∀b,Frz g (upd G i2 b) y5 (.sl (pkids.map polA) .no):=fun b=>(v5.keep fun id e=>upd_other _ _ (hn5 id e)).frz (by rw [←kidsA_eq]; exact pure_kids pkids)
      refine .agg _ _ rfl fun k k1 k2=> ?_
      rcases k with _|_|_|_|_|_|_|k
      ·exact .pure rfl
      ·exact .pure rfl
      ·exact .pure rfl
      ·exact .pure (pure_tgt _)
      ·exact z4 _
      ·exact z5 _
      ·exact .pure (pure_obls _)
      ·simp at k1; omega
termination_by p=>SizeOf.sizeOf p
decreasing_by
 have:=List.sizeOf_lt_of_mem (List.getElem_mem hj)
 simp only [PolD.mk.sizeOf_spec]
 omega
end Go.Proofs.YtmlhcdeamjkpjaaGreatDoor

set_option linter.unusedSimpArgs false
set_option linter.unusedVariables false
namespace Go.Ab
open Go
def apart (a b:AV):Prop:=∀i,nid a=some i→nid b≠some i
theorem apart.symm {a b:AV} (h:apart a b):apart b a:=fun i e1 e2=>h i e2 e1
theorem apart_of {a y:AV} {tb:TypeId} {g h:Heap} {sz:Nat} {xs:List AV} (hw:OwE tb g h sz y xs) (ha:∀i,nid a=some i→g i≠none):apart a y:=fun i e1 e2=>ha i e1 (hw.nid e2).1
theorem OwE.there {tb:TypeId} {h0 h h' :Heap} {sz:Nat} {y:AV} {xs:List AV} (hw:OwE tb h0 h sz y xs) (hs:∀i,h i≠Option.none→h' i≠Option.none):∀i,Ab.nid y=some i→h' i≠Option.none:=fun i e=>hs i (hw.nid e).2.1
theorem Sub.some {h h' :Heap} (hs:Sub h h'):∀i,h i≠Option.none→h' i≠Option.none:=fun i e e' =>e (hs.none e')
end Go.Ab
namespace Go.Proofs.YtmlhcdeamjkpjaaGreatDoor
open Go Go.Ab Go.Bf
def MyCase (h0 h:Heap) (ys:List AV) (x:AV) (c:CaseD):Prop:=∃f l,x= .agg [.s c.id, .s c.owner, .s c.state,f,l]∧OwE 131 h0 h 4 f (c.fields.map fieldA)∧OwE 96 h0 h 3 l (c.log.map hapA)∧apart f l∧∀y∈ys,apart f y∧apart l y
def OwnC (h0 h:Heap) (ys:List AV) (y1:AV) (cs:List CaseD) (i0:Nat):Prop:=∃xs,OwE 57 h0 h 5 y1 xs∧xs.length=cs.length∧(∀j (h1:j<xs.length) (h2:j<cs.length),j≠i0→xs[j]=caseA cs[j])∧∀(h1:i0<xs.length) (h2:i0<cs.length),MyCase h0 h ys xs[i0] cs[i0]
def OwnS (h0 h:Heap) (x:AV) (s:StoreD) (i0:Nat):Prop:=∃y1 y2 y3 y4,x= .agg ([.v (.int .i64 s.tick),y1,y2,y3,y4]++polC s.policy++ [.v (.int .i64 s.version)])∧OwnC h0 h [y1,y2,y3,y4] y1 s.cases i0∧
 OwE 82 h0 h 7 y2 (s.reviews.map revA)∧OwE 98 h0 h 3 y3 (s.notices.map notA)∧OwE 71 h0 h 2 y4 (s.roles.map roleA)∧apart y1 y2∧apart y1 y3∧apart y1 y4∧apart y2 y3∧apart y2 y4∧apart y3 y4
theorem over_full {cs L:List AV} (h:L.length=cs.length):Ab.over cs 0 L=L:=by
 rw [Ab.over,List.take_zero,List.nil_append,Nat.zero_add,List.drop_of_length_le (by omega),List.append_nil]
theorem ownCase2_ok {h:Heap} {x:AV} {c:CaseD} (i i0:Nat) (hb:RdC h x c) (hl:c.fields.length≤1000000) (hl2:c.log.length≤1000000):FnOK Tryz.prog 74 [x] h fun r h' =>
  ∃f l,r= .agg [.s c.id, .s c.owner, .s c.state,f,l]∧Ab.Sub h h'∧f.cells= [f]∧l.cells= [l]∧(i≠i0→f=fieldsA c.fields∧l=logA c.log)∧(i=i0→OwE 131 h h' 4 f (c.fields.map fieldA)∧OwE 96 h h' 3 l (c.log.map hapA)∧apart f l):=by
 by_cases e:i=i0
 ·exact (ownCase_ok hb hl hl2).mono fun r h' ⟨⟨f,l,e1,a,b,c⟩,d⟩=>⟨f,l,e1,d,a.rd.cells,b.rd.cells,fun hh=>(hh e).elim,fun _=>⟨a,b,c⟩⟩
 ·exact (ownCasep_ok hb hl hl2).mono fun r h' ⟨e1,e2⟩=>⟨_,_,e1,by rw [e2]; exact .refl _,rfl,rfl,fun _=>⟨rfl,rfl⟩,fun hh=>(e hh).elim⟩
theorem MyCase.sub {h0 h h' :Heap} {ys:List AV} {x:AV} {c:CaseD} (hm:MyCase h0 h ys x c) (hs:Ab.Sub h h'):MyCase h0 h' ys x c:=by
 obtain ⟨f,l,e,a,b,c,d⟩:=hm
 exact ⟨f,l,e,a.sub hs,b.sub hs,c,d⟩
theorem MyCase.keep {h0 h h' :Heap} {ys:List AV} {x:AV} {c:CaseD} (hm:MyCase h0 h ys x c) (hs:∀f l,x= .agg [.s c.id, .s c.owner, .s c.state,f,l]→(∀y∈ys,apart f y∧apart l y)→∀i,(nid f=some i∨nid l=some i)→h' i=h i):MyCase h0 h' ys x c:=by
 obtain ⟨f,l,e,a,b,c,d⟩:=hm
 exact ⟨f,l,e,a.keep fun i hi=>hs f l e d i (.inl hi),b.keep fun i hi=>hs f l e d i (.inr hi),c,d⟩
set_option maxRecDepth 100000 in
theorem own_ok {h:Heap} {x:AV} {s:StoreD} (hb:RdS h x s) (i0:Nat) (hf:Few s) (hp:polE 1 s.policy):FnOK Tryz.prog 80 [x] h fun r h' =>OwnS h h' r s i0∧Ab.Sub h h' :=by
 obtain ⟨y1,y2,y3,y4,rfl,⟨xs0,hc,hn,hcs⟩,h2,h3,h4⟩:=hb
 have hpo:=ownPolicy_ok s.policy 1 hp
 cases hpp:s.policy with
 |mk pid pset palg ptgt prules pkids pobls=>
 rw [hpp,polC_mk] at hpo
 have hcC:polC (.mk pid pset palg ptgt prules pkids pobls)= [.s pid, .v (.bool pset), .v (.int .i64 palg),tgtA ptgt, .sl (prules.map ruleA) .no, .sl (pkids.map polA) .no,oblsA pobls]:=by simp [polC,kidsA_eq]
 have hfc:=hf.cases
 refine FnOK.body hU hm Tryz.func80 rfl (by kernel_rfl) 41 rfl [.cell 2 36] rfl (Nat.le_of_ble_eq_true rfl) (fun hwf=> ?_)
 simp -implicitDefEqProofs only [go_sem,hcC,List.cons_append,List.nil_append]
 intro i1 h1
 simp -implicitDefEqProofs only [go_sem]
 intro i2 h2'
 have n21:=ne_upd h2'
 have n2:=upd_none h2'
 simp -implicitDefEqProofs only [go_sem,upd_ne,n21,n21.symm]
 obtain ⟨H,eH⟩:∃H,upd (upd h i1 (some (.obj [.v (.int .i64 s.tick),y1,y2,y3,y4, .s pid, .v (.bool pset), .v (.int .i64 palg),tgtA ptgt, .sl (prules.map ruleA) .no, .sl (pkids.map polA) .no,oblsA pobls, .v (.int .i64 s.version)] 36))) i2 (some (.obj [.v (.int .i64 0), .sl [] .full, .sl [] .full, .sl [] .full, .sl [] .full, .s [], .v (.bool false), .v (.int .i64 0), .sl [] .full, .sl [] .full, .sl [] .full, .sl [] .full, .v (.int .i64 0)] 36))=H:=⟨_,rfl⟩
 have hH:Ab.Sub h H:=by rw [←eH]; exact ((Sub.refl h).put h1 _).put n2 _
 have g1:H i1=some (.obj [.v (.int .i64 s.tick),y1,y2,y3,y4, .s pid, .v (.bool pset), .v (.int .i64 palg),tgtA ptgt, .sl (prules.map ruleA) .no, .sl (pkids.map polA) .no,oblsA pobls, .v (.int .i64 s.version)] 36):=by rw [←eH,upd_other _ _ n21.symm,upd_same]
 have g2:H i2=some (.obj [.v (.int .i64 0), .sl [] .full, .sl [] .full, .sl [] .full, .sl [] .full, .s [], .v (.bool false), .v (.int .i64 0), .sl [] .full, .sl [] .full, .sl [] .full, .sl [] .full, .v (.int .i64 0)] 36):=by rw [←eH,upd_same]
 rw [eH]
 clear eH
 refine (clCase_ok y1 xs0 H (hc.sub hH) (by omega)).mono fun z1 H1 ⟨w1,s1⟩=> ?_
 simp -implicitDefEqProofs only [go_sem,s1 _ _ g1,w1.rd.fit,w1.rd.cells]
 have v1:∀b,OwE 57 h (upd H1 i1 b) 5 z1 xs0:=fun b=>(w1.less hH).keep fun id e=>upd_other _ _ (ne_of_none (w1.nid e).1 g1)
 have vs:∀b,Ab.Sub h (upd H1 i1 b):=fun b=>(hH.trans s1).put h1 b
 have vz:∀b,upd H1 i1 b i2=some (.obj [.v (.int .i64 0), .sl [] .full, .sl [] .full, .sl [] .full, .sl [] .full, .s [], .v (.bool false), .v (.int .i64 0), .sl [] .full, .sl [] .full, .sl [] .full, .sl [] .full, .v (.int .i64 0)] 36):=fun b=>by rw [upd_other _ _ n21]; exact s1 _ _ g2
 have hz1:∀id,nid z1=some id→id≠i1:=fun id e=>ne_of_none (w1.nid e).1 g1
 have hz2:∀id,nid z1=some id→id≠i2:=fun id e=>ne_of_none (w1.nid e).1 g2
 obtain ⟨H2,eH2⟩:∃H2,upd H1 i1 (some (.obj [.v (.int .i64 s.tick),z1,y2,y3,y4, .s pid, .v (.bool pset), .v (.int .i64 palg),tgtA ptgt, .sl (prules.map ruleA) .no, .sl (pkids.map polA) .no,oblsA pobls, .v (.int .i64 s.version)] 36))=H2:=⟨_,rfl⟩
 replace v1:=v1 (some (.obj [.v (.int .i64 s.tick),z1,y2,y3,y4, .s pid, .v (.bool pset), .v (.int .i64 palg),tgtA ptgt, .sl (prules.map ruleA) .no, .sl (pkids.map polA) .no,oblsA pobls, .v (.int .i64 s.version)] 36))
 replace vs:=vs (some (.obj [.v (.int .i64 s.tick),z1,y2,y3,y4, .s pid, .v (.bool pset), .v (.int .i64 palg),tgtA ptgt, .sl (prules.map ruleA) .no, .sl (pkids.map polA) .no,oblsA pobls, .v (.int .i64 s.version)] 36))
 replace vz:=vz (some (.obj [.v (.int .i64 s.tick),z1,y2,y3,y4, .s pid, .v (.bool pset), .v (.int .i64 palg),tgtA ptgt, .sl (prules.map ruleA) .no, .sl (pkids.map polA) .no,oblsA pobls, .v (.int .i64 s.version)] 36))
 have q1:H2 i1=some (.obj [.v (.int .i64 s.tick),z1,y2,y3,y4, .s pid, .v (.bool pset), .v (.int .i64 palg),tgtA ptgt, .sl (prules.map ruleA) .no, .sl (pkids.map polA) .no,oblsA pobls, .v (.int .i64 s.version)] 36):=by rw [←eH2,upd_same]
 rw [eH2] at v1 vs vz
 rw [eH2]
 clear eH2
 simp -implicitDefEqProofs only [go_sem,q1,v1.rd.len,hn]
 refine .intro (fun m ρ G=>∃(i:Nat) (xs:List AV),G i1=some (.obj [.v (.int .i64 s.tick),z1,y2,y3,y4, .s pid, .v (.bool pset), .v (.int .i64 palg),tgtA ptgt, .sl (prules.map ruleA) .no, .sl (pkids.map polA) .no,oblsA pobls, .v (.int .i64 s.version)] 36)∧G i2=some (.obj [.v (.int .i64 0), .sl [] .full, .sl [] .full, .sl [] .full, .sl [] .full, .s [], .v (.bool false), .v (.int .i64 0), .sl [] .full, .sl [] .full, .sl [] .full, .sl [] .full, .v (.int .i64 0)] 36)∧Ab.Sub h G∧OwE 57 h G 5 z1 xs∧xs.length=s.cases.length∧(∀j (h1:j<xs.length) (h2:j<s.cases.length),j<i→j≠i0→xs[j]=caseA s.cases[j])∧(∀(h1:i0<xs.length) (h2:i0<s.cases.length),i0<i→MyCase h G [z1] xs[i0] s.cases[i0])∧(∀j (h1:j<xs.length) (h2:j<s.cases.length),i≤j→RdC h xs[j] s.cases[j])∧i≤s.cases.length∧m=s.cases.length - i∧
  lk ρ 1=some (.ptr i1 0)∧lk ρ 2=some (.ptr i2 0)∧lk ρ 10=some z1∧lk ρ 11=some (.v (.int .i64 s.cases.length))∧lk ρ 12=some (.v (.int .i64 i))) s.cases.length ?_ ?_
 ·refine ⟨0,xs0,q1,vz,vs,v1,hn,fun j _ _ hj=>(by omega),fun _ _ hj=>(by omega),fun j a b _=>hcs j a b,by omega,rfl, ?_, ?_, ?_, ?_, ?_⟩<;>simp -implicitDefEqProofs only [go_sem]
 ·rintro m ρ G ⟨i,xs,q1,vz,vs,v1,hn,hlo,hmy,hhi,hi,rfl,r1,r2,r10,r11,r12⟩
  simp -implicitDefEqProofs only [go_sem,r1,r2,r10,r11,r12]
  refine .intro (fun e=> ?_) (fun e=> ?_)
  ·have hlt:i<s.cases.length:=Int.ofNat_lt.1 (of_decide_eq_true e)
   have hltx:i<xs.length:=by omega
   have w1:IntKind.i64.wrap ((i:Int)+1)=((i+1:Nat):Int):=by rw [wr64 _ (by omega)]; omega
   obtain ⟨f,l,ex,hfl,hlg⟩:=hhi i hltx hlt (Nat.le_refl _)
   have hff:=hf.fields _ (List.getElem_mem hlt)
   have hfg:=hf.log _ (List.getElem_mem hlt)
   simp -implicitDefEqProofs only [go_sem,r1,r2,r10,r11,r12]
   refine v1.rd.idx (e:=57) i rfl hltx uCase (by decide) fun p hp1=> ?_
   have hld:=hp1.all (U:=U) (ty:=57) (by simp only [go_sem]) (by rw [uCase,ex]; rfl) (by simp only [go_sem]; rw [ex]; rfl)
   simp -implicitDefEqProofs only [go_sem,r1,r2,r10,r11,r12,hld,ex]
   intro i4 h4
   have n41:i4≠i1:=ne_of_none h4 q1
   simp -implicitDefEqProofs only [go_sem,r1,r2,r10,r11,r12]
   obtain ⟨G4,eG4⟩:∃G4,upd G i4 (some (.obj [.s s.cases[i].id, .s s.cases[i].owner, .s s.cases[i].state,f,l] 57))=G4:=⟨_,rfl⟩
   rw [eG4]
   have p1:G4 i1=some (.obj [.v (.int .i64 s.tick),z1,y2,y3,y4, .s pid, .v (.bool pset), .v (.int .i64 palg),tgtA ptgt, .sl (prules.map ruleA) .no, .sl (pkids.map polA) .no,oblsA pobls, .v (.int .i64 s.version)] 36):=by rw [←eG4,upd_other _ _ n41.symm]; exact q1
   have p4:G4 i4=some (.obj [.s s.cases[i].id, .s s.cases[i].owner, .s s.cases[i].state,f,l] 57):=by rw [←eG4,upd_same]
   have sG:Ab.Sub G G4:=by rw [←eG4]; exact .upd_new h4
   refine .calls (hm2 i1 (.obj [.v (.int .i64 s.tick),z1,y2,y3,y4, .s pid, .v (.bool pset), .v (.int .i64 palg),tgtA ptgt, .sl (prules.map ruleA) .no, .sl (pkids.map polA) .no,oblsA pobls, .v (.int .i64 s.version)] 36) i4 (.obj [.s s.cases[i].id, .s s.cases[i].owner, .s s.cases[i].state,f,l] 57)) [0,1,2,3,4,5,6] (.hm2 p1 p4) (by kernel_rfl) rfl ?_
   simp -implicitDefEqProofs only [go_sem,r1,hm2_fst _ _ n41.symm,hm2_snd]
   refine (ownCase2_ok i i0 (show RdC G4 (.agg [.s s.cases[i].id, .s s.cases[i].owner, .s s.cases[i].state,f,l]) s.cases[i] from ⟨f,l,rfl,hfl.sub (vs.trans sG),hlg.sub (vs.trans sG)⟩) hff hfg).mono fun r G5 ⟨f',l',er,s5,cf,cl,hne,heq⟩=> ?_
   subst er
   have p1' :=s5 _ _ p1
   have p4' :=s5 _ _ p4
   refine ⟨.hm2 p1' p4', ?_⟩
   simp -implicitDefEqProofs only [go_sem,r1,hm2_fst _ _ n41.symm,hm2_snd]
   obtain ⟨id1,hg1,o1⟩:=((v1.sub sG).sub s5).ow (by intro e; rw [e] at hltx; cases hltx)
   have t1:id1≠i1:=ow_ne o1 p1' (by decide)
   have t2:id1≠i2:=hz2 id1 o1.nid
   have t3:G4 id1≠none:=fun e=>(v1.nid o1.nid).2.1 (sG.none e)
   have o1' :=o1
   obtain ⟨cap,rest,ey,hid,hr,hcap,hsz⟩:=o1'
   have hbd:i*5+5≤(flatA xs++rest).length:=by
    rw [List.length_append,flatA_length hsz]; omega
   have hx5:xs[i].cells.length=5:=hsz _ (List.getElem_mem hltx)
   have e2:List.take (i*5) (flatA xs++rest)++ [.s s.cases[i].id, .s s.cases[i].owner, .s s.cases[i].state,f',l']++List.drop (i*5+5) (flatA xs++rest)=flatA (xs.set i (.agg [.s s.cases[i].id, .s s.cases[i].owner, .s s.cases[i].state,f',l']))++rest:=by
    refine (put_flat hsz i hltx 0 [.s s.cases[i].id, .s s.cases[i].owner, .s s.cases[i].state,f',l'] (Nat.le_of_ble_eq_true rfl)).trans ?_
    rw [over_full (by rw [hx5]; rfl)]
   refine o1.idx (U:=U) (e:=57) i rfl hltx uCase (by decide) ?_
   simp -implicitDefEqProofs only [go_sem,r1,hm2_fst _ _ n41.symm,hm2_snd,hid]
   rw [e2]
   have t4:id1≠i4:=fun e=>(v1.nid o1.nid).2.1 (by rw [e]; exact h4)
   refine ⟨by omega, .hm2 (by rw [upd_other _ _ t1.symm]; exact p1') (by rw [upd_other _ _ t4.symm]; exact p4'), ?_⟩
   simp -implicitDefEqProofs only [go_sem,r1,r2,r10,r11,r12,w1]
   have ho:∀b k,k≠id1→upd G5 id1 b k=G5 k:=fun b k hk=>upd_other _ _ hk
   have hs6:∀b,Ab.Sub h (upd G5 id1 b):=fun b=>((vs.trans sG).trans s5).put hg1 b
   refine ⟨_, ?_,i+1,xs.set i (.agg [.s s.cases[i].id, .s s.cases[i].owner, .s s.cases[i].state,f',l']),(ho _ _ t1.symm).trans p1',(ho _ _ t2.symm).trans (s5 _ _ (sG _ _ vz)),hs6 _, .inr ⟨id1,hg1,cap,rest,by rw [List.length_set]; exact ey,upd_same ..,by rw [List.length_set]; exact hr,by rw [List.length_set]; exact hcap, ?_⟩,by rw [List.length_set]; exact hn,fun j a b hj hj0=> ?_,fun a b hj=> ?_,fun j a b hj=> ?_,by omega,rfl, ?_, ?_, ?_, ?_, ?_⟩
   ·omega
   ·intro z hz
    rcases List.mem_or_eq_of_mem_set hz with hz|rfl
    ·exact hsz z hz
    ·rfl
   ·have a' :j<xs.length:=by rw [List.length_set] at a; exact a
    by_cases hji:j=i
    ·subst hji
     obtain ⟨ef,el⟩:=hne hj0
     rw [List.getElem_set_self,ef,el]; rfl
    ·rw [List.getElem_set_ne (Ne.symm hji)]
     exact hlo j a' b (by omega) hj0
   ·have a' :i0<xs.length:=by rw [List.length_set] at a; exact a
    by_cases hji:i=i0
    ·subst hji
     obtain ⟨of,ol,hap⟩:=heq rfl
     have kf:∀k,G4 k=none→upd G5 id1 (some (.obj (flatA (xs.set i (.agg [.s s.cases[i].id, .s s.cases[i].owner, .s s.cases[i].state,f',l']))++rest) 57)) k=G5 k:=fun k hk=>upd_other _ _ fun e=>t3 (by rw [←e]; exact hk)
     rw [List.getElem_set_self]
     refine ⟨f',l',rfl,(of.less (vs.trans sG)).keep fun k hk=>kf k (of.nid hk).1,(ol.less (vs.trans sG)).keep fun k hk=>kf k (ol.nid hk).1,hap,fun y hy=> ?_⟩
     rw [List.mem_singleton.1 hy]
     have hz1:∀k,nid z1=some k→G4 k≠none:=(v1.sub sG).there fun k hk=>hk
     exact ⟨(apart_of of hz1).symm,(apart_of ol hz1).symm⟩
    ·rw [List.getElem_set_ne hji]
     have hm:=hmy a' b (by omega)
     refine MyCase.keep (h:=G5) ((hm.sub sG).sub s5) fun f l ex hap k hk=> ?_
     refine upd_other _ _ fun e=> ?_
     subst e
     rcases hk with hk|hk
     ·exact (hap z1 (List.mem_singleton.2 rfl)).1 _ hk o1.nid
     ·exact (hap z1 (List.mem_singleton.2 rfl)).2 _ hk o1.nid
   ·have a' :j<xs.length:=by rw [List.length_set] at a; exact a
    rw [List.getElem_set_ne (by omega)]
    exact hhi j a' b (by omega)
   all_goals simp -implicitDefEqProofs only [go_sem,r1,r2,r10,r11,r12,w1]
  ·have hge:i=s.cases.length:=by have:=of_decide_eq_false e; omega
   simp -implicitDefEqProofs only [go_sem,r1,r2,r10,r11,r12]
   refine .stage (hm1 i1 (.obj [.v (.int .i64 s.tick),z1,y2,y3,y4, .s pid, .v (.bool pset), .v (.int .i64 palg),tgtA ptgt, .sl (prules.map ruleA) .no, .sl (pkids.map polA) .no,oblsA pobls, .v (.int .i64 s.version)] 36)) [0,1,3,4,6,7,2,9,5,8] [10,11,12,13,14] (.hm1 q1) (by kernel_rfl) ?_
   simp -implicitDefEqProofs only [go_sem,r1,hm1_same]
   refine (clReview_ok y2 _ G (h2.sub vs) (by rw [List.length_map]; exact hf.reviews)).mono fun z2 G1 ⟨o2,s1⟩=> ?_
   refine ⟨.hm1 (s1 _ _ q1), ?_⟩
   simp -implicitDefEqProofs only [go_sem,r1,hm1_same]
   refine (clNotice_ok y3 _ G1 ((h3.sub vs).sub s1) (by rw [List.length_map]; exact hf.notices)).mono fun z3 G2 ⟨o3,s2⟩=> ?_
   refine ⟨.hm1 (s2 _ _ (s1 _ _ q1)), ?_⟩
   simp -implicitDefEqProofs only [go_sem,r1,hm1_same]
   refine (clRole_ok y4 _ G2 (((h4.sub vs).sub s1).sub s2) (by rw [List.length_map]; exact hf.roles)).mono fun z4 G3 ⟨o4,s3⟩=> ?_
   have s03:Ab.Sub G G3:=s1.trans (s2.trans s3)
   have q1' :=s03 _ _ q1
   have q2' :=s03 _ _ vz
   refine ⟨.hm1 q1',noHeap,(fun _ _ e=>by cases e), ?_⟩
   simp -implicitDefEqProofs only [go_sem,r1,q1',o2.rd.fit,o2.rd.cells,o3.rd.fit,o3.rd.cells,o4.rd.fit,o4.rd.cells]
   refine ⟨fun _ _ e=>(by cases e),fun _ _ e=>(by cases e),fun _ _ e=>(by cases e), ?_⟩
   refine (show FnOK Tryz.prog 128 [_] _ _ from hpo _).pthen ?_
   have vz' :∀b,upd G3 i1 b i2=some (.obj [.v (.int .i64 0), .sl [] .full, .sl [] .full, .sl [] .full, .sl [] .full, .s [], .v (.bool false), .v (.int .i64 0), .sl [] .full, .sl [] .full, .sl [] .full, .sl [] .full, .v (.int .i64 0)] 36):=fun b=>by rw [upd_other _ _ n21]; exact q2'
   simp -implicitDefEqProofs only [go_sem,r1,r2,vz']
   have k1:∀ {tb:TypeId} {z:AV} {xs:List AV} {n:Nat} {g:Heap},OwE tb g G3 n z xs→Ab.Sub h g→(∀id,nid z=some id→id≠i1∧id≠i2)→∀a b,OwE tb h (upd (upd G3 i1 a) i2 b) n z xs:=fun w hg hn a b=>(w.less hg).keep fun id e=>by
    rw [upd_other _ _ (hn id e).2,upd_other _ _ (hn id e).1]
   have new:∀ {tb:TypeId} {z:AV} {xs:List AV} {n:Nat} {g:Heap},OwE tb g G3 n z xs→Ab.Sub G g→∀id,nid z=some id→id≠i1∧id≠i2:=fun w hg id e=>⟨ne_of_none (w.nid e).1 (hg _ _ q1),ne_of_none (w.nid e).1 (hg _ _ vz)⟩
   have n2' :=new (o2.sub (s2.trans s3)) (.refl _)
   have n3' :=new (o3.sub s3) s1
   have n4' :=new o4 (s1.trans s2)
   have n1' :∀id,nid z1=some id→id≠i1∧id≠i2:=fun id e=>⟨hz1 id e,hz2 id e⟩
   have aG:∀k,nid z1=some k→G k≠none:=v1.there fun k hk=>hk
   refine .mk _ (.refl _) (.refl _) ⟨⟨z1,z2,z3,z4,by rw [hpp,hcC]; rfl,⟨xs,k1 (v1.sub s03) (.refl _) n1' _ _,hn,fun j a b hj=>hlo j a b (by omega) hj,fun a b=> ?_⟩,k1 (o2.sub (s2.trans s3)) vs n2' _ _,k1 (o3.sub s3) (vs.trans s1) n3' _ _,k1 o4 (vs.trans (s1.trans s2)) n4' _ _, ?_, ?_, ?_, ?_, ?_, ?_⟩,((vs.trans s03).put h1 _).put n2 _⟩
   ·have hm:=(hmy a b (by omega)).sub s03
    obtain ⟨f,l,ex,of,ol,hap,hy⟩:=hm
    obtain ⟨af,al⟩:=hy z1 (List.mem_singleton.2 rfl)
    have kf:∀k,nid f=some k→k≠i1∧k≠i2:=fun k hk=>⟨ow_ne (of.nid hk).2.2 q1' (by decide),ow_ne (of.nid hk).2.2 q2' (by decide)⟩
    have kl:∀k,nid l=some k→k≠i1∧k≠i2:=fun k hk=>⟨ow_ne (ol.nid hk).2.2 q1' (by decide),ow_ne (ol.nid hk).2.2 q2' (by decide)⟩
    obtain ⟨f0,l0,ex0,of0,ol0,_⟩:=hmy a b (by omega)
    obtain ⟨rfl,rfl⟩:f0=f∧l0=l:=by
     rw [ex0] at ex
     simp only [AV.agg.injEq,List.cons.injEq,true_and,and_true] at ex
     exact ex
    have gf:∀k,nid f0=some k→G k≠none:=of0.there fun k hk=>hk
    have gl:∀k,nid l0=some k→G k≠none:=ol0.there fun k hk=>hk
    refine ⟨f0,l0,ex,k1 of (.refl _) kf _ _,k1 ol (.refl _) kl _ _,hap,fun y hy=> ?_⟩
    simp only [List.mem_cons,List.not_mem_nil,or_false] at hy
    rcases hy with rfl|rfl|rfl|rfl
    ·exact ⟨af,al⟩
    ·exact ⟨apart_of o2 gf,apart_of o2 gl⟩
    ·exact ⟨apart_of o3 fun k hk=>s1.some k (gf k hk),apart_of o3 fun k hk=>s1.some k (gl k hk)⟩
    ·exact ⟨apart_of o4 fun k hk=>(s1.trans s2).some k (gf k hk),apart_of o4 fun k hk=>(s1.trans s2).some k (gl k hk)⟩
   ·exact apart_of o2 aG
   ·exact apart_of o3 fun k hk=>s1.some k (aG k hk)
   ·exact apart_of o4 fun k hk=>(s1.trans s2).some k (aG k hk)
   ·exact apart_of o3 (o2.there fun k hk=>hk)
   ·exact apart_of o4 ((o2.sub s2).there fun k hk=>hk)
   ·exact apart_of o4 (o3.there fun k hk=>hk)
end Go.Proofs.YtmlhcdeamjkpjaaGreatDoor
