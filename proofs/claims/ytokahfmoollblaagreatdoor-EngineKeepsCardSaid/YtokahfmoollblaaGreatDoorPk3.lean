/- The law EngineKeeps: pack 3 of its texts. -/
import Derived.Below
import Derived.Lib.ItoaLen
import Derived.Lib.Join
import Derived.Lib.Small
import Derived.Laws.Externs
import Derived.Lib.Overlaps
import Derived.Test.YtokahfmoollblaaGreatDoorProg
import Derived.KernelRfl
import Derived.Lib.AtoiAll
import Derived.Test.YtokahfmoollblaaGreatDoorPk1
import Derived.Test.YtokahfmoollblaaGreatDoorPk2
set_option linter.unusedSimpArgs false
set_option linter.unusedVariables false
set_option maxRecDepth 100000
namespace Go.Ab
open Go
variable {ls:List (List UInt8)}
section
variable {P : Program} {U : TypeId → TI} {n : Nat} {ρ : Env} {h h' : Heap} {tb : TypeId} {y : AV} {l : List UInt8}
theorem Bytes.from(hb:Bytes tb h y l){lo:Operand}{m:Int}{x:IntKind}{K:AV→Prop}(j:Nat)(hm:ev ρ lo=some (.v (.int x m)))(hj:m=j)(hl:j≤l.length)(hz:(U tb).sz=1)(hk:∀z,Bytes tb h z (l.drop j)→K z):
  ie U ρ y (some lo) none none K (.slice tb):=by
 subst hj;rcases hb with⟨q,rfl⟩|⟨id,off,cs,rfl,h1,h2,h3⟩
 ·rw[E0,hm]
  refine⟨ad3,by grind [jK],?_⟩
  refine⟨ad3,ad4,?_⟩;rw[←List.map_drop];exact hk _ (.sl _ _)
 ·rw[si]
  refine⟨ad3,fun _=>hz,?_⟩
  simp only[mS,fU,hm,dN,nR];refine⟨ad3,ad3,ad3,?_⟩;simp only[Int.toNat_natCast,hz,Nat.mul_one];have e:(l.drop j).length=l.length - j:=aea;have:=hk (.oa id (off+j) (l.drop j).length) (by grind [oa,List.map_drop,List.drop_drop,List.drop_take])
  rwa [e]at this
theorem Bytes.cut(hb:Bytes tb h y l){lo hi:Operand}{m m2:Int}{x x2:IntKind}{K:AV→Prop}(j k:Nat)(hm:ev ρ lo=some (.v (.int x m)))(hj:m=j)(hm2:ev ρ hi=some (.v (.int x2 m2)))(hk2:m2=k)(hjk:j≤k)(hl:k≤l.length)(hz:(U tb).sz=1)
  (hk:∀z,Bytes tb h z ((l.drop j).take (k - j))→K z):ie U ρ y (some lo) (some hi) none K (.slice tb):=by
 subst hj;subst hk2
 rcases hb with⟨q,rfl⟩|⟨id,off,cs,rfl,h1,h2,h3⟩
 ·rw[Kx,hm]
  refine⟨ad3,by grind [jK],?_⟩
  simp only[dN,nR,hm2,Int.toNat_natCast,UK];refine⟨ad3,ad3,ad4,?_⟩;rw[←List.map_drop,←List.map_take];exact hk _ (.sl _ _)
 ·rw[si]
  refine⟨ad3,fun _=>hz,?_⟩
  simp only[fU,hm,dN,nR,hm2];refine⟨ad3,ad3,ad3,?_⟩;simp only[Int.toNat_natCast,hz,Nat.mul_one];have e:((l.drop j).take (k - j)).length=k - j:=ad4;have:=hk (.oa id (off+j) ((l.drop j).take (k - j)).length) (.oa h1 ad3 (by grind [List.map_take,List.map_drop,List.drop_drop,List.drop_take]))
  rwa [e]at this
end
theorem Ra(k:IntKind)(n:Nat)(hk:k.signed=false)(hn:n<2 ^ k.bits):k.wrap (n:Int)=n:=by cases k<;>simp[IntKind.signed]at hk<;>simp[IntKind.wrap,IntKind.signed,IntKind.bits]at hn⊢<;>omega
theorem w32(n:Nat)(hn:n<4294967296):IntKind.u32.wrap (n:Int)=n:=Ra .u32 n rfl ahJ
theorem w8(n:Nat):IntKind.u8.wrap (n:Int)=(UInt8.ofNat n).toNat:=by rfl
theorem Bw(w n:Nat):BitVec.ofInt w (n:Int)=BitVec.ofNat w n:=BitVec.ofInt_natCast ..
theorem N6(x y:BitVec 32):IntKind.u32.wrap (((BitVec.ofInt IntKind.u32.bits (x.toNat:Int) ^^^ BitVec.ofInt IntKind.u32.bits (y.toNat:Int)).toNat:Nat):Int)=((x ^^^ y).toNat:Int):=by
 have e:∀z:BitVec 32,BitVec.ofInt IntKind.u32.bits (z.toNat:Int)=z:=fun z=>by
  show BitVec.ofInt 32 (z.toNat:Int)=z
  simp
 rw[e,e];exact w32 _ (x ^^^ y).isLt
theorem Tn(x:BitVec 32):IntKind.u32.wrap (((BitVec.ofInt IntKind.u32.bits (x.toNat:Int) ^^^ BitVec.ofInt IntKind.u32.bits (3988292384:Int)).toNat:Nat):Int)=((x ^^^ 0xedb88320#32).toNat:Int):=N6 x 0xedb88320#32
theorem VS(x:BitVec 32):IntKind.u32.wrap (((BitVec.ofInt IntKind.u32.bits (if IntKind.u32.signed=true then -1 else IntKind.u32.max) ^^^ BitVec.ofInt IntKind.u32.bits (x.toNat:Int)).toNat:Nat):Int)=((~~~ x).toNat:Int):=by have:=N6 (BitVec.allOnes 32) x;exact aeE
theorem UT(x:BitVec 32):IntKind.u32.wrap (((BitVec.ofInt IntKind.u32.bits (x.toNat:Int) &&& BitVec.ofInt IntKind.u32.bits (1:Int)).toNat:Nat):Int)=((x &&& 1#32).toNat:Int):=by
 have e:BitVec.ofInt IntKind.u32.bits (x.toNat:Int)=x:=by
  show BitVec.ofInt 32 (x.toNat:Int)=x
  simp
 rw[e];exact w32 _ (x &&& 1#32).isLt
theorem V5(x:BitVec 32):(x.toNat:Int).fdiv (2 ^ (min (1:Int).toNat IntKind.u32.bits))=((x>>>1).toNat:Int):=by
 show(x.toNat:Int).fdiv (2 ^ 1)=_
 grind [Int.fdiv_eq_ediv_of_nonneg,Nat.shiftRight_eq_div_pow]
theorem YI(n:Nat)(k:Nat)(hk:k≤24):(n:Int).fdiv (2 ^ (min (k:Int).toNat IntKind.u32.bits))=((n / 2 ^ k:Nat):Int):=by grind [min,Int,IntKind.bits,Int.fdiv_eq_ediv_of_nonneg,Int.le_of_lt,Int.pow_pos]
theorem Yx(a b k:Nat)(ha:a<2 ^ k)(hk:k≤24)(hb:b<256):IntKind.u32.wrap (((BitVec.ofInt IntKind.u32.bits (a:Int)|||BitVec.ofInt IntKind.u32.bits ((b*2 ^ k:Nat):Int)).toNat:Nat):Int)=((a+b*2 ^ k:Nat):Int):=by
 have h24:2 ^ k≤2 ^ 24:=Nat.pow_le_pow_right ad6 hk;have hbk:b*2 ^ k≤255*2 ^ 24:=Nat.mul_le_mul ad3 h24;have e1:(BitVec.ofNat 32 a|||BitVec.ofNat 32 (b*2 ^ k)).toNat=a+b*2 ^ k:=by exact aiZ
 show IntKind.u32.wrap (((BitVec.ofInt 32 (a:Int)|||BitVec.ofInt 32 ((b*2 ^ k:Nat):Int)).toNat:Nat):Int)=_
 rw[Bw,Bw,e1]
 grind [w32]
theorem V4(b k:Nat)(hk:k≤24)(hb:b<256):IntKind.u32.wrap ((b:Int)*2 ^ (min (k:Int).toNat IntKind.u32.bits))=((b*2 ^ k:Nat):Int):=by
 have h24:2 ^ k≤2 ^ 24:=Nat.pow_le_pow_right ad6 hk;have hbk:b*2 ^ k≤255*2 ^ 24:=Nat.mul_le_mul ad3 h24;have:min (k:Int).toNat IntKind.u32.bits=k:=ahJ;rw[this,show((b:Int)*2 ^ k)=((b*2 ^ k:Nat):Int) by simp]
 exact w32 _ ad3
section
variable {U : TypeId → TI} {ty : TypeId} {K : AV → Prop}
@[go_sem high] theorem adR(x y:BitVec 32):cw U .xor ty (.v (.int .u32 (x.toNat:Int))) (.v (.int .u32 (y.toNat:Int))) K=K (.v (.int .u32 ((x ^^^ y).toNat:Int))):=by rw[Qs,N6]
@[go_sem high] theorem abD(x:BitVec 32):cw U .xor ty (.v (.int .u32 (x.toNat:Int))) (.v (.int .u32 3988292384)) K=K (.v (.int .u32 ((x ^^^ 0xedb88320#32).toNat:Int))):=by rw[Qs,Tn]
@[go_sem high] theorem X0(x:BitVec 32):cw U .and ty (.v (.int .u32 (x.toNat:Int))) (.v (.int .u32 1)) K=K (.v (.int .u32 ((x &&& 1#32).toNat:Int))):=by rw[Lv,UT]
@[go_sem high] theorem X2(x:BitVec 32)(kk:IntKind):cw U .shr ty (.v (.int .u32 (x.toNat:Int))) (.v (.int kk 1)) K=K (.v (.int .u32 ((x>>>1).toNat:Int))):=by grind [Lw,V5]
@[go_sem high] theorem YN(x:BitVec 32):unA .xor (.v (.int .u32 (x.toNat:Int))) K=K (.v (.int .u32 ((~~~ x).toNat:Int))):=by rw[xV,VS]
theorem LC(n k:Nat)(kk:IntKind)(hk:k≤24):cw U .shr ty (.v (.int .u32 (n:Int))) (.v (.int kk (k:Int))) K=K (.v (.int .u32 ((n / 2 ^ k:Nat):Int))):=by grind [Lw,YI]
theorem LB(a b k:Nat)(ha:a<2 ^ k)(hk:k≤24)(hb:b<256):cw U .or ty (.v (.int .u32 (a:Int))) (.v (.int .u32 ((b*2 ^ k:Nat):Int))) K=K (.v (.int .u32 ((a+b*2 ^ k:Nat):Int))):=by grind [UX,Yx]
theorem FG(b k:Nat)(kk:IntKind)(hk:k≤24)(hb:b<256):cw U .shl ty (.v (.int .u32 (b:Int))) (.v (.int kk (k:Int))) K=K (.v (.int .u32 ((b*2 ^ k:Nat):Int))):=by grind [Qr,V4]
end
section
variable {P : Program} {U : TypeId → TI} {n : Nat} {ρ : Env} {h0 h h' : Heap} {tb : TypeId} {y v : AV} {l m : List UInt8} {Q : AV → Heap → Prop}
end
section
variable {U : TypeId → TI} {ty : TypeId} {K : AV → Prop}
end
section
variable {P : Program} {U : TypeId → TI} {n : Nat} {ρ : Env} {h : Heap}
section
variable (all : List Oper) (bs : List Bool) (r : List Oper) (K : Env → Heap → Prop)
end
theorem ai.of_wp{f:FuncId}{fn:Func}{c:Code}{args:List AV}{Q:AV→Heap→Prop}(hU:∀t,aP P U t)(hf:P.funcs[f]? =some fn)(hb:fn.body=some c)
  (hn : (fn.name == "runtime.NumGoroutine") = false) (m : Nat) (hm' : fn.ntmps = m) (rs : List ResultVar) (hr : fn.results.toList = rs) (hl : args.length ≤ m)
  (hk:WP P m c (yD args) h (wh U rs Q)):ai P f args h Q:=by
 subst hm';subst hr
 exact ai.MY hU hf hb hn hl fun _=>hk
end
section
variable {P : Program} {U : TypeId → TI} {n : Nat} {ρ : Env} {h : Heap}
def KCut(I:Env→Heap→Prop)(K:Exit→Env→Heap→Prop):Exit→Env→Heap→Prop:=KSeq I K
theorem UI(I:Env→Heap→Prop)(K:Exit→Env→Heap→Prop):KCut I K .ret ρ h=K .ret ρ h:=(rfl)
theorem WP.cut{c d:Code}{K:Exit→Env→Heap→Prop}(I:Env→Heap→Prop)(hc:WP P n c ρ h (KCut I K))(hd:∀ρ h,I ρ h→WP P n d ρ h K):WP P n (.seq c d) ρ h K:=
 WP.seq (hc.weaken fun e ρ h hk=>by
  cases e with
  |normal=>exact hd ρ h hk
  |_=>exact hk)
theorem WP.vc(hU:∀t,aP P U t)(hm:P.follows .mixedOrders=true){c:Code}{K:Exit→Env→Heap→Prop}(hk:aW P U n c ρ h K):WP P n c ρ h K:=dU hU hm c ρ h K hk
def KNext(P:Program)(n:Nat)(d:Code)(K:Exit→Env→Heap→Prop):Exit→Env→Heap→Prop:=KSeq (WP P n d · · K) K
theorem Oj(d:Code)(K:Exit→Env→Heap→Prop):KNext P n d K .normal ρ h=WP P n d ρ h K:=(rfl)
theorem TE(d:Code)(K:Exit→Env→Heap→Prop):KNext P n d K .ret ρ h=K .ret ρ h:=(rfl)
theorem Rl(d:Code)(K:Exit→Env→Heap→Prop)(i:Nat):KNext P n d K (.goto i) ρ h=K (.goto i) ρ h:=(rfl)
theorem WP.one(hU:∀t,aP P U t)(hm:P.follows .mixedOrders=true){c d:Code}{K:Exit→Env→Heap→Prop}(hk:aW P U n c ρ h (KNext P n d K)):WP P n (.seq c d) ρ h K:=WP.seq (dU hU hm c ρ h _ hk)
attribute [go_sem↓] UI Oj TE Rl
end
section
variable {P : Program} {U : TypeId → TI} {n : Nat} {ρ : Env} {h : Heap}
variable {d : Option Tmp} {t : TypeId} {p : String} {a : Array Edge} {g : Option (Nat × Bool)} {Q : AV → Heap → Prop} {k : AV → Prop}
theorem WJ(x y:TypeId)(k:TK→Prop):atK (.map x y) k=k (.map x y):=(rfl)
theorem U4(i:Nat):AV.cells (.mp i)= [.mp i]:=(rfl)
theorem Ye(i m:Nat):fit (.mp i) m=(m=1):=(rfl)
theorem Xl(l:List UInt8):gT .str (.s l)=(l.length≤maxLen):=(rfl)
def mpL(b:Blk)(f:List (AV×AV)→Prop):Prop:=match b with
 |.mp m=>f m
 |_=>False
@[congr] theorem Ul{b b' :Blk}{f:List (AV×AV)→Prop}(e:b=b'):mpL b f=mpL b' f:=by rw[e]
theorem Yn(m:List (AV×AV))(f:List (AV×AV)→Prop):mpL (.mp m) f=f m:=(rfl)
def AS(tk:TK)(m:List (AV×AV)):Prop:=∀p∈m,gT tk p.1
def Lh(ti:TI):Prop:=ti.sz≠0∨ti.k= .strct []
def Ei(U:TypeId→TI)(h:Heap)(u v:AV)(ok:Bool)(k:AV→Prop)(tk:TK):Prop:=match tk,u with
 |.map kt e,.mp id=>gT (U kt).k v∧Lh (U e)∧aE (h id) fun b=>mpL b fun m=>AS (U kt).k m∧k (zj U e m v ok)
 |_,_=>False
@[congr] theorem QK{u u' v v' :AV}{ok:Bool}{k:AV→Prop}{tk:TK}(h1:u=u')(h2:v=v'):Ei U h u v ok k tk=Ei U h u' v' ok k tk:=by grind
theorem VM(kt e:TypeId)(id:Nat)(v:AV)(ok:Bool):Ei U h (.mp id) v ok k (.map kt e)=(gT (U kt).k v∧Lh (U e)∧aE (h id) fun b=>mpL b fun m=>AS (U kt).k m∧k (zj U e m v ok)):=(rfl)
attribute [go_sem] WJ U4 Ye Xl
attribute [go_sem↓] Yn VM
theorem VW(mt:TypeId)(x y:Operand)(ok:Bool):bg P U ρ h ⟨d,.lookup mt x y ok,t,p,a,g⟩ Q=aE (ev ρ x) fun u=>aE (ev ρ y) fun v=>atK (U mt).k (Ei U h u v ok (atH Q h)):=by
 simp only[bg,pv,cc,atK]
 congr 1
 funext u
 congr 1
 funext v
 cases (U mt).k with
 |map kt e=>
  cases u with
  |mp id=>
   simp only[Ei]
   congr 2
   exact aiq
  |_=>rfl
 |_=>rfl
def Nk(U:TypeId→TI)(h:Heap)(u v w:AV)(Q:AV→Heap→Prop)(tk:TK):Prop:=match tk,u with
 |.map kt e,.mp id=>gT (U kt).k v∧aE (h id) fun b=>mpL b fun m=>AS (U kt).k m∧Q (.v undef) (upd h id (some (.mp (AG m v w))))
 |_,_=>False
@[congr] theorem SR{u u' v v' w w' :AV}{tk:TK}(h1:u=u')(h2:v=v')(h3:w=w'):Nk U h u v w Q tk=Nk U h u' v' w' Q tk:=by grind
theorem Xz(kt e:TypeId)(id:Nat)(v w:AV):Nk U h (.mp id) v w Q (.map kt e)=(gT (U kt).k v∧aE (h id) fun b=>mpL b fun m=>AS (U kt).k m∧Q (.v undef) (upd h id (some (.mp (AG m v w))))):=(rfl)
attribute [go_sem↓] VW Xz
theorem QT(mt:TypeId)(x y z:Operand):bg P U ρ h ⟨d,.mapUpdate mt x y z,t,p,a,g⟩ Q=aE (ev ρ x) fun u=>aE (ev ρ y) fun v=>aE (ev ρ z) fun w=>atK (U mt).k (Nk U h u v w Q):=by
 simp only[bg,cc,atK]
 congr 1
 funext u
 congr 1
 funext v
 congr 1
 funext w
 cases (U mt).k with
 |map kt e=>
  cases u with
  |mp id=>
   simp only[Nk]
   congr 1
   exact aiq
  |_=>rfl
 |_=>rfl
def UM(h:Heap)(Q:AV→Heap→Prop):Prop:=∀id,h id=none→Q (.mp id) (upd h id (some (.mp [])))
attribute [go_sem↓] QT
@[go_sem↓] theorem Uw(mt:TypeId):bg P U ρ h ⟨d,.makeMap mt none,t,p,a,g⟩ Q=UM h Q:=by simp only[bg,IF,true_and];rfl
end
def AF(ls:List (List UInt8)):List (AV×AV):=ls.map fun l=>(.s l,.agg [])
theorem DV(ls:List (List UInt8))(l:List UInt8):getM (AF ls) (.s l)=if l∈ls then some (.agg [])else none:=by
 induction ls with
 |nil=>rfl
 |cons x ls ih=>
  simp only[getM,AF,List.map_cons,List.find?_cons,sV]at ih⊢
  grind
theorem NF{l:List UInt8}(hn:l∉ls):AG (AF ls) (.s l) (.agg [])=AF (ls++ [l]):=by unfold AG;rw[DV,if_neg hn];simp[AF]
theorem J6(U:TypeId→TI)(e:TypeId)(he:(U e).sz=0)(ls:List (List UInt8))(l:List UInt8):zj U e (AF ls) (.s l) true= .tup [.agg [],.b (decide (l∈ls))]:=by
 simp only[zj,DV,gE,he,if_true]
 grind
theorem J3(h:∀l∈ls,l.length≤maxLen):AS .str (AF ls):=fun p hp=>by obtain⟨l,hl,rfl⟩:=List.mem_map.1 hp;exact h l hl
section
variable {P : Program} {f : FuncId} {args : List AV} {h h' : Heap} {Q : AV → Heap → Prop}
theorem Ext.below{c:Cx}{w' :World}(hb:Go.RowKit.Below c.w.heap.size c.w w'):Ext c {c with w:=w'} where
 os:=hb.os
 tape:=hb.tape
 output:=hb.output
 size:=hb.size
 block:=fun b h _=>hb.block b h
 cell:=fun b o h _=>by simp only[World.cell?,hb.block b h]
 shape:=fun b cs t fr h=>⟨cs,fr,(hb.block b (dj h)).trans h,rfl⟩
 steal:=fun _ _ _ h=>h
 obj:=fun _ cs _ h=>⟨rfl,cs,h,rfl⟩
 spare:=fun _ n _ h=>⟨n,h,.inl ⟨rfl,rfl⟩⟩
 mp:=fun _ m h=>⟨rfl,m,h⟩
 ro:=fun _ _ _ h=>⟨rfl,h⟩
theorem Good.below{c:Cx}(g:Good c){w' :World}(hb:Go.RowKit.Below c.w.heap.size c.w w'):Good {c with w:=w'} where
 fin:=g.fin
 inj:=g.inj
 obj:=fun id cs t h=>by obtain⟨vs,a1,a2,a3⟩:=g.obj id cs t h;exact⟨vs,(hb.block _ (dj a1)).trans a1,a2,fun j hj=>⟨(a3 j hj).1.mono (.below hb),(a3 j hj).2⟩⟩
 spare:=fun id n sz h=>by obtain⟨a0,vs,t,fr,a1,a2⟩:=g.spare id n sz h;exact⟨a0,vs,t,fr,(hb.block _ (dj a1)).trans a1,a2⟩
 mp:=fun id m h=>by obtain⟨es,cl,a1,a2,a3⟩:=g.mp id m h;exact⟨es,cl,(hb.block _ (dj a1)).trans a1,a2,fun i hi hi' =>⟨(a3 i hi hi').1,(a3 i hi hi').2.mono (.below hb)⟩⟩
 keys:=g.keys
 ro:=fun id b vs h=>g.nX (.below hb) h
theorem ai.lib{X:AV}(hc:callable P f)(hf:∀c (vs:Array Value),Sub h c.h→Good c→vs.size=args.length→(∀i (hi:i<args.length),Rep c args[i] (vs.getD i undef))→
  Calls P f vs c.w fun e w' =>(∃u,e= .returned u∧∀c',Ext c c'→Rep c' X u)∧Go.RowKit.Below c.w.heap.size c.w w'):ai P f args h fun r h' =>r=X∧h' =h:=by
 refine fun c vs hs g h1 h2=> .inl ⟨hc,(hf c vs hs g h1 h2).mono ?_⟩
 rintro e w' ⟨⟨u,rfl,hu⟩,hb⟩
 exact⟨u,rfl,{c with w:=w'},X,h,rfl,g.below hb,.below hb,hu _ (.below hb),hs,rfl,rfl⟩
def Tab(h:Heap)(b:Nat)(vs:List Value):Prop:=∃id,h id=some (.ro b vs)
theorem Tab.sub{b:Nat}{vs:List Value}(ht:Tab h b vs)(hs:Sub h h'):Tab h' b vs:=let ⟨id,hi⟩:=ht;⟨id,hs _ _ hi⟩
end
def xC(ts:List (Nat×List Value)):Heap:=fun i=>(ts[i]?).map fun p=> .ro p.1 p.2
def cxT(w:World)(ts:List (Nat×List Value)):Cx:=⟨w,fun i=>⟨((ts[i]?).map (·.1)).getD 0,0,none⟩,xC ts⟩
theorem Na(w:World)(ts:List (Nat×List Value))(b o:Nat):¬owned (cxT w ts) b o:=by
 rintro⟨id,k,h,_,h3⟩
 simp only[cxT,xC,Option.map_eq_some_iff]at h;obtain⟨p,_,rfl⟩:=h;exact h3
theorem Vz(w:World)(ts:List (Nat×List Value))(hd:ts.Pairwise fun p q=>p.1≠q.1)(ht:∀p∈ts,∃(t:TypeId) (fr:Nat×Nat),w.heap[p.1]? =some (.cells p.2.toArray t fr)):Good (cxT w ts) where
 fin:=⟨ts.length,fun id h=>by simp[cxT,xC,List.getElem?_eq_none h]⟩
 inj:=fun i j k l h1 h2 hne=>by
  simp only[cxT,xC,Option.map_eq_some_iff]at h1 h2;obtain⟨p,hp,rfl⟩:=h1;obtain⟨q,hq,rfl⟩:=h2;simp only[cxT,hp,hq,Option.map_some,Option.getD_some];obtain⟨hi,rfl⟩:=List.getElem?_eq_some_iff.1 hp
  grind [List.pairwise_iff_getElem,Nat.lt_or_gt_of_ne]
 obj:=fun id cs t h=>by simp_all [cxT,xC,Option.map_eq_some_iff]
 spare:=fun id n sz h=>by simp_all [cxT,xC,Option.map_eq_some_iff]
 mp:=fun id m h=>by simp_all [cxT,xC,Option.map_eq_some_iff]
 keys:=fun id m h=>by simp_all [cxT,xC,Option.map_eq_some_iff]
 ro:=fun id b vs h=>by simp only[cxT,xC,Option.map_eq_some_iff]at h;obtain⟨p,hp,h⟩:=h;cases h;refine⟨by grind [cxT],ht p ad4⟩
theorem ai.RH{P:Program}{f:FuncId}{args:List AV}{b:Value}{vs:Array Value}{w:World}{ts:List (Nat×List Value)}(hc:callable P f)(hf:ai P f args (xC ts) fun r _=>r= .v b)(hd:ts.Pairwise fun p q=>p.1≠q.1)
  (ht:∀p∈ts,∃(t:TypeId) (fr:Nat×Nat),w.heap[p.1]? =some (.cells p.2.toArray t fr)) (hv:vs.size=args.length) (hr:∀i (hi:i<args.length),Rep (cx0 w) args[i] (vs.getD i undef)):
  Calls P f vs w fun e w' =>e= .returned b∧Go.RowKit.Below w.heap.size w w' :=by
 have hE:Ext (cx0 w) (cxT w ts):=⟨rfl,rfl,rfl,Nat.le_refl _,fun _ _ _=>rfl,fun _ _ _ _=>rfl,fun _ cs _ fr h=>⟨cs,fr,h,rfl⟩,fun b o _ h=>(Na w ts b o h).elim,
  fun _ _ _ h=>aeV,fun _ _ _ h=>aeV,fun _ _ h=>aeV,fun _ _ _ h=>aeV⟩
 refine((hf (cxT w ts) vs (fun _ _ h=>h) (Vz w ts hd ht) hv fun i hi=>(hr i hi).mono hE).calls hc).mono ?_
 rintro e w' ⟨u,rfl,c',x,h',rfl,g',hE,hx,hs,rfl⟩
 rw[hx.bZ];exact⟨rfl,hE.os,hE.tape,hE.output,hE.size,fun k hk=>hE.block k hk fun o=>Na w ts k o⟩
mutual
def strip:AV→AV
 |.sl xs _=> .sl (gq xs) .no
 |.agg xs=> .agg (gq xs)
 |.tup xs=> .tup (gq xs)
 |.v x=> .v x
 |.s l=> .s l
 |.pe x o=> .pe x o
 |.ptr i o=> .ptr i o
 |.oa i o l=> .oa i o l
 |.ifc t x=> .ifc t x
 |.fn f c=> .fn f c
 |.mp i=> .mp i
 |.ob i o l c s=> .ob i o l c s
def gq:List AV→List AV
 | []=>[]
 |x::r=>strip x::gq r
end
theorem fA:∀xs:List AV,(gq xs).length=xs.length
 | []=>rfl
 |x::r=>by simp[gq,fA r]
theorem gR:∀(xs:List AV) (i:Nat) (h1:i<xs.length) (h2:i<(gq xs).length),(gq xs)[i]=strip xs[i]
 |x::r,0,h1,h2=>aei
 |x::r,i+1,h1,h2=>by simpa[gq]using gR r i ad4 (by grind [gq])
theorem xb(x:AV):(strip x).cells=match x with|.agg xs=>gq xs|_=>[strip x]:=by cases x<;>simp[strip,AV.cells]
mutual
theorem fH:∀x:AV,Weak x (strip x)
 |.sl xs p=> .deep _ _ p (fA xs).symm (fun i h1 h2=>by rw[gR xs i h1 h2,xb];have:=oe xs i h1;cases hx:xs[i]<;>simp[AV.cells,fA])
   (fun i h1 h2 j h3 h4=>by have hw:=oe xs i h1;have e:=gR xs i h1 h2;exact hw (gq xs)[i] e j h3 h4)
 |.agg xs=> .agg _ _ (fA xs).symm fun i h1 h2=>agx
 |.tup xs=> .tup _ _ (fA xs).symm fun i h1 h2=>agx
 |.v x=> .refl _
 |.s l=> .refl _
 |.pe x o=> .refl _
 |.ptr i o=> .refl _
 |.oa i o l=> .refl _
 |.ifc t x=> .refl _
 |.fn f c=> .refl _
 |.mp i=> .refl _
 |.ob i o l c s=> .refl _
theorem me:∀(xs:List AV) (i:Nat) (h:i<xs.length),Weak xs[i] (strip xs[i])
 |x::r,0,h=>fH x
 |x::r,i+1,h=>me r i (by simpa using h)
theorem oe:∀(xs:List AV) (i:Nat) (h:i<xs.length) (y:AV),y=strip xs[i]→∀(j:Nat) (h3:j<xs[i].cells.length) (h4:j<y.cells.length),Weak xs[i].cells[j] y.cells[j]
 |x::r,0,h,y,e,j,h3,h4=>Hu x y e j h3 h4
 |x::r,i+1,h,y,e,j,h3,h4=>oe r i (by simpa using h) y e j h3 h4
theorem Hu:∀(x y:AV),y=strip x→∀(j:Nat) (h3:j<x.cells.length) (h4:j<y.cells.length),Weak x.cells[j] y.cells[j]
 |.agg xs,y,e,j,h3,h4=>by subst e;simp only[strip,AV.cells]at h4⊢;rw[gR xs j h3 h4];exact me xs j h3
 |.sl xs p,y,e,j,h3,h4=>by
  subst e;simp only[strip,AV.cells,List.length_singleton]at h3 h4⊢;obtain rfl:j=0:=ad3;exact .deep _ _ p (fA xs).symm (fun i h1 h2=>by rw[gR xs i h1 h2,xb];cases hx:xs[i]<;>simp[AV.cells,fA])
   (fun i h1 h2 j h3 h4=>oe xs i h1 _ (gR xs i h1 h2) j h3 h4)
 |.tup xs,y,e,j,h3,h4=>by subst e;simp only[strip,AV.cells,List.length_singleton]at h3 h4⊢;obtain rfl:j=0:=ad3;exact .tup _ _ (fA xs).symm fun i h1 h2=>agx
 |.v x,y,e,j,h3,h4=>afe
 |.s l,y,e,j,h3,h4=>afe
 |.pe x o,y,e,j,h3,h4=>afe
 |.ptr i o,y,e,j,h3,h4=>afe
 |.oa i o l,y,e,j,h3,h4=>afe
 |.ifc t x,y,e,j,h3,h4=>afe
 |.fn f c,y,e,j,h3,h4=>afe
 |.mp i,y,e,j,h3,h4=>afe
 |.ob i o l c s,y,e,j,h3,h4=>afe
end
section
variable {x:IntKind}
variable {P : Program} {U : TypeId → TI} {n : Nat} {ρ : Env} {h0 h h' : Heap} {tb : TypeId} {y v : AV} {xs zs : List AV} {Q : AV → Heap → Prop} {f : FuncId} {args : List AV}
def One(xs:List AV):Prop:=∀x∈xs,bD x=false
theorem oO{x:AV}(h:bD x=false):x.cells= [x]:=by cases x<;>first|rfl|(cases h)
theorem One.sized(h:One xs):Sized 1 xs:=fun z hz=>by rw[oO (h z hz)];rfl
theorem One.map{α:Type}{g:α→AV}(hg:∀a,bD (g a)=false)(l:List α):One (l.map g):=fun x hx=>by grind
def Fy(tb:TypeId)(h:Heap)(y:AV)(xs:List AV):Prop:=
 (∃q,y= .sl xs q)∨∃id off cs,y= .oa id off xs.length∧h id=some (.obj cs tb)∧off+xs.length≤cs.length∧(cs.drop off).take xs.length=xs
theorem Fy.sl(xs:List AV)(q:Perm):Fy tb h (.sl xs q) xs:=.inl ⟨q,rfl⟩
theorem Fy.len(hb:Fy tb h y xs)(e:TypeId)(k:AV→Prop):xx y k (.slice e)=k (.i xs.length):=by exact ai6
def AtP(U:TypeId→TI)(tb:TypeId)(h:Heap)(p x:AV):Prop:=∀k:AV→Prop,nT U h tb p k=k x
theorem Fy.idx(hb:Fy tb h y xs)(ho:One xs){m:Int}{K:AV→Prop}(j:Nat)(hm:m=j)(hj:j<xs.length)(hz:(U tb).sz=1)(ha:(U tb).k.agg=false)
  (hk:∀p,AtP U tb h p xs[j]→K p):pT U y (.v (.int x m)) K (.slice tb):=by
 subst hm;have h1:=ho xs[j] aea;rcases hb with⟨q,rfl⟩|⟨id,off,cs,rfl,g1,g2,g3⟩
 ·refine(vp ..).mpr ⟨ad3,?_⟩
  refine fC.at j hj (by grind [oO]) ?_
  refine hk _ fun k=>?_
  simp_all [nT,Ls,oO,List.length_cons,List.length_nil,Nat.zero_add,and_self,if_true]
 ·refine(Bi ..).mpr ⟨ad3,ad3,ad3,?_⟩
  refine hk _ fun k=>?_
  have e1:cs[off+j]? =some xs[j]:=by grind
  simp only[nT,g1,dN,CE,hz,Nat.mul_one,Int.toNat_natCast,Ez,ha,Br,e1];simp
def WrA(tb:TypeId)(h0 h:Heap)(y:AV)(xs:List AV):Prop:=
 Sub h0 h∧((xs= []∧y= .sl [] .full)∨∃id cs,h0 id=none∧y= .oa id 0 xs.length∧h id=some (.obj cs tb)∧xs.length≤cs.length∧cs.take xs.length=xs)
theorem WrA.nil(hs:Sub h0 h):WrA tb h0 h (.sl [] .full) []:=⟨hs,.inl ⟨rfl,rfl⟩⟩
theorem WrA.seq(hw:WrA tb h0 h y xs):Fy tb h y xs:=by
 obtain⟨_,⟨rfl,rfl⟩|⟨id,cs,_,rfl,h1,h2,h3⟩⟩:=hw
 ·exact agG
 ·exact .inr ⟨id,0,cs,rfl,h1,ad3,ad4⟩
theorem WrA.sub(hw:WrA tb h0 h y xs)(hs:Sub h h'):WrA tb h0 h' y xs:=by
 obtain⟨h1,hw|⟨id,cs,a,e,b,c,d⟩⟩:=hw
 ·exact⟨h1.trans hs,.inl hw⟩
 ·exact⟨h1.trans hs,.inr ⟨id,cs,a,e,hs _ _ b,c,d⟩⟩
theorem WrA.base(hw:WrA tb h0 h y xs){id:Nat}(hid:h id=none)(b:Option Blk):WrA tb (upd h0 id b) (upd h id b) y xs:=by
 obtain⟨h1,hw⟩:=hw;have h2:Sub (upd h0 id b) (upd h id b):=fun j k hj=>by
  by_cases e:j=id
  ·grind [ah]
  ·rw[ag _ _ e]at hj⊢;exact h1 _ _ hj
 rcases hw with hw|⟨i,cs,a,e,c,d⟩
 ·exact⟨h2,.inl hw⟩
 ·have hne:i≠id:=fun hh=>by subst hh;rw[hid]at c;cases c
  exact⟨h2,.inr ⟨i,cs,aeF,e,aeF,d⟩⟩
theorem WrA.less(hw:WrA tb h' h y xs)(hs:Sub h0 h'):WrA tb h0 h y xs:=by
 obtain⟨h1,hw|⟨i,cs,a,e,c,d⟩⟩:=hw
 ·exact⟨hs.trans h1,.inl hw⟩
 ·exact⟨hs.trans h1,.inr ⟨i,cs,hs.none a,e,c,d⟩⟩
theorem WrA.len(hw:WrA tb h0 h y xs)(e:TypeId)(k:AV→Prop):xx y k (.slice e)=k (.i xs.length):=hw.seq.len e k
theorem WrA.idx(hb:WrA tb h0 h y xs)(ho:One xs){m:Int}{K:AV→Prop}(j:Nat)(hm:m=j)(hj:j<xs.length)(hz:(U tb).sz=1)(ha:(U tb).k.agg=false)
  (hk:∀p,AtP U tb h p xs[j]→K p):pT U y (.v (.int x m)) K (.slice tb):=hb.seq.idx ho j hm hj hz ha hk
theorem WrA.cut(hw:WrA tb h0 h y xs){hi:Operand}{m:Int}{K:AV→Prop}(j:Nat)(hm:ev ρ hi=some (.v (.int x m)))(hj:m=j)(hl:j≤xs.length)(hz:(U tb).sz=1)
  (hk:∀z,WrA tb h0 h z (xs.take j)→K z):ie U ρ y none (some hi) none K (.slice tb):=by
 subst hj;have hs:=hw.1;obtain⟨_,⟨rfl,rfl⟩|⟨id,cs,h1,rfl,h2,h3,h4⟩⟩:=hw
 ·rw[rM,fU,hm]
  refine⟨ad3,?_⟩;have:j=0:=ad4;subst this;refine⟨ad3,aea,?_⟩;exact hk _ (.nil hs)
 ·rw[si]
  refine⟨ad3,fun _=>hz,?_⟩
  simp only[mS,fU,hm,dN,nR];refine⟨ad3,ad3,ad3,?_⟩;have e:(xs.take j).length=j:=ad4;have:=hk (.oa id 0 (xs.take j).length) ⟨hs,.inr ⟨id,cs,h1,rfl,h2,ad3,ad4⟩⟩;rw[e]at this;simpa using this
theorem WrA.app(hw:WrA tb h0 h y xs)(ho:One xs)(hoz:One zs)(hz:(U tb).sz=1)(hb:(U tb).bytes≠0)(hf:fit (U tb).zero 1)(hn:bD (U tb).zero=false)(hsrc:∀k:List AV→Prop,k zs→iP U tb h v k)
  (hlen:(xs.length+zs.length)*(U tb).bytes≤140737488355328) (hk:∀y' h',WrA tb h0 h' y' (xs++zs)→Q y' h'):apK U h y v Q (.slice tb):=by
 have hs:=hw.1;have one:Sized (U tb).sz zs:=by rw[hz];exact hoz.sized
 obtain⟨_,⟨rfl,rfl⟩|⟨id,cs,h1,rfl,h2,h3,h4⟩⟩:=hw
 ·refine(qN ..).mpr ⟨ad3,hb,hsrc _ ⟨by simp[Sized],one,ad3,fun hn' =>?_,fun hn' =>?_⟩⟩
  ·subst hn'
   exact hk _ _ (.nil hs)
  ·refine .oa hz hf hn hoz fun id k hid=>?_
   refine hk _ _ ⟨hs.new hid _,.inr ⟨id,_,hs.none hid,?_,ah ..,?_,?_⟩⟩
   ·simp
   ·simp
   ·simp
 ·refine⟨ad3,hb,hz,hsrc _ ⟨ad4,hoz,ad3,?_⟩⟩
  rw[h2];refine⟨ad3,?_,hf,hn,fun hle=>?_,fun id' k hid=>?_⟩
  ·rw[List.drop_zero,h4];exact ho
  ·have hsub:Sub h0 (upd h id (some (.obj (over cs (0+xs.length) zs) tb))):=fun j b hj=>by
    by_cases e:j=id
    ·grind
    ·rw[ag _ _ e];exact hs _ _ hj
   have ho' :(over cs (0+xs.length) zs).length=cs.length:=iM ad3;refine hk _ _ ⟨hsub,.inr ⟨id,_,h1,aea,ah ..,ad4,?_⟩⟩;rw[over,Nat.zero_add,h4,adX,List.take_append_of_le_length aea]
   grind
  ·refine hk _ _ ⟨hs.new hid _,.inr ⟨id',_,hs.none hid,aea,ah ..,?_,?_⟩⟩
   ·grind
   grind
end
end Go.Ab
namespace Go.Bf
open Go Go.Ab
variable {alg:Int}{nr nk:Nat}
abbrev Txt:=List UInt8
structure qK where
 cat:Int
 name:Txt
 must:Bool
structure bB where
 kind:Int
 n:Int
 s:Txt
structure bR where
 attr:qK
 op:Int
 val:bB
structure aO where
 op:Int
 val:bB
 attr:qK
structure cE where
 on:Int
 kind:Int
 arg:Txt
variable {obls:List cE}
abbrev gj:=List (List (List bR))
variable {tgt:gj}
structure cS where
 id:Txt
 deny:Bool
 tgt:gj
 cond:List aO
 obls:List cE
inductive bF where
 |mk (id:Txt) (set:Bool) (alg:Int) (tgt:gj) (rules:List cS) (kids:List bF) (obls:List cE)
def Df(a:qK):AV:=.agg [.i a.cat,.s a.name,.b a.must]
def aV(v:bB):AV:=.agg [.i v.kind,.i v.n,.s v.s]
def cW(m:bR):AV:=.agg [.i m.attr.cat,.s m.attr.name,.b m.attr.must,.i m.op,.i m.val.kind,.i m.val.n,.s m.val.s]
def cN(m:aO):AV:=.agg [.i m.op,.i m.val.kind,.i m.val.n,.s m.val.s,.i m.attr.cat,.s m.attr.name,.b m.attr.must]
def j0(b:Bool):AV:=.b b
def bh(o:cE):AV:=.agg [.i o.on,.i o.kind,.s o.arg]
def gm(l:List bR):AV:=.sl (l.map cW) .no
def cB(l:List (List bR)):AV:=.sl (l.map gm) .no
def aT(t:gj):AV:=.sl (t.map cB) .no
def dY(l:List aO):AV:=.sl (l.map cN) .no
def ay(l:List cE):AV:=.sl (l.map bh) .no
def aC(r:cS):AV:=.agg [.s r.id,.b r.deny,aT r.tgt,dY r.cond,ay r.obls]
mutual
def aL:bF→AV
 |.mk id set alg tgt rules kids obls=> .agg [.s id,.b set,.i alg,aT tgt,.sl (rules.map aC) .no,.sl (fc kids) .no,ay obls]
def fc:List bF→List AV
 | []=>[]
 |k::r=>aL k::fc r
end
theorem aQ:∀l:List bF,fc l=l.map aL
 | []=>rfl
 |k::r=>by simp[fc,aQ r]
def ltr(c:UInt8):Bool:=decide (97≤(c.toNat:Int)) && decide ((c.toNat:Int)≤122)
def dgt(c:UInt8):Bool:=decide (48≤(c.toNat:Int)) && decide ((c.toNat:Int)≤57)
def tN(c:UInt8)(i:Nat):Bool:=ltr c||(decide (i≠0) && (dgt c||(c.toNat:Int)==95))
def wo(l:Txt):Bool:=l.zipIdx.all fun p=>tN p.1 p.2
def bw(l:Txt):Bool:=wo l && decide (1≤l.length) && decide (l.length≤16)
def qP(a:qK):Bool:=decide (1≤a.cat) && decide (a.cat≤4) && bw a.name
def bH(v:bB):Bool:=
 if v.kind=1 then(v.n==0||v.n==1) && v.s== []
 else if v.kind=2 then v.s== []
 else if v.kind=3 then v.n==0 && decide (v.s.length≤64)
 else if v.kind=4 then decide (0≤v.n) && decide (v.n≤1099511627776) && v.s== []
 else if v.kind=5 then v.n==0 && bw v.s
 else false
def lE(m:bR):Bool:=qP m.attr && decide (1≤m.op) && decide (m.op≤3) && bH m.val
def kR(n:Nat):Int:=if n=0 then 1 else if n>8 then 6 else 0
def iJ{α:Type}(f:α→Int):List α→Int
 | []=>0
 |x::r=>if f x=0 then iJ f r else f x
def xl(l:List bR):Int:=if kR l.length=0 then(if l.all lE then 0 else 1)else kR l.length
def xm(l:List (List bR)):Int:=if kR l.length=0 then iJ xl l else kR l.length
def l8(t:gj):Int:=if t.length>8 then 6 else iJ xm t
def iR(op:Int):Option (List Bool):=
 if op=1∨op=2 then some []
 else if op=3∨op=4 then some [true]
 else if op=5 then some [true,false]
 else if op=11 then some [false]
 else if 6≤op∧op≤13 then some [false,false]
 else none
def zeroV(v:bB):Bool:=v.kind==0 && (v.n==0 && v.s== [])
def zeroAt(a:qK):Bool:=a.cat==0 && (a.name== [] && a.must==false)
def j5(n:aO):Bool:=
 if n.op=1 then bH n.val && zeroAt n.attr
 else if n.op=2 then qP n.attr && zeroV n.val
 else zeroV n.val && zeroAt n.attr
def iQ(st:List Bool)(n:aO):Option (List Bool):=match iR n.op with
 |none=>none
 |some w=>if j5 n=true∧w.length≤st.length∧st.drop (st.length - w.length)=w then some (st.take (st.length - w.length)++ [n.op==2])else none
def gp(st:List Bool):List aO→Option (List Bool)
 | []=>some st
 |n::r=>match iQ st n with
  |none=>none
  |some st' =>gp st' r
def kQ(l:List aO):Int:=if l.length>32 then 6 else match gp [] l with
 |none=>1
 |some st=>if l= []∨st= [false]then 0 else 1
def rE(o:cE):Bool:=decide (1≤o.on) && decide (o.on≤2) && decide (1≤o.kind) && decide (o.kind≤4) && bw o.arg
def iK(l:List cE):Int:=if l.length>8 then 6 else if l.all rE then 0 else 1
structure eN where
 met:List Txt
 rules:Nat
variable {m1:eN}
inductive Went where
 |bad (e:Int)
 |ok (m:eN)
def jr(m:eN)(s:Txt):Option eN:=if s∉m.met∧bw s=true then some ⟨m.met++ [s],m.rules⟩else none
def Went.err:Went→Int
 |.bad e=>e
 |.ok _=>0
def need(e:Int)(w:Went):Went:=if e=0 then w else .bad e
def gJ(m:eN)(r:cS):Went:=match jr m r.id with
 |none=> .bad 1
 |some m=>if m.rules+1>64 then .bad 6 else need (l8 r.tgt) (need (kQ r.cond) (need (iK r.obls) (.ok ⟨m.met,m.rules+1⟩)))
def fG(m:eN):List cS→Went
 | []=> .ok m
 |r::l=>match gJ m r with
  |.bad e=> .bad e
  |.ok m=>fG m l
def fq(m:eN)(id:Txt)(set:Bool)(alg:Int)(tgt:gj)(nr nk:Nat)(obls:List cE):Went:=match jr m id with
 |none=> .bad 1
 |some m=>if alg<1∨alg>6 then .bad 1
  else if set=true∧nr>0∨set=false∧(nk>0∨alg=4)then .bad 1
  else need (l8 tgt) (need (iK obls) (if nr>16∨nk>16 then .bad 6 else .ok m))
mutual
def lf(m:eN)(d:Nat):bF→Went
 |.mk id set alg tgt rules kids obls=>
  if d>4 then .bad 6 else match fq m id set alg tgt rules.length kids.length obls with
  |.bad e=> .bad e
  |.ok m=>match fG m rules with
   |.bad e=> .bad e
   |.ok m=>iZ m (d+1) kids
def iZ(m:eN)(d:Nat):List bF→Went
 | []=> .ok m
 |k::r=>match lf m d k with
  |.bad e=> .bad e
  |.ok m=>iZ m d r
end
def gQ(p:bF):Int:=(lf ⟨[],0⟩ 1 p).err
def VB(n:Nat):UInt8:=if n<10 then UInt8.ofNat (48+n)else UInt8.ofNat (87+n)
def GH(c:UInt8):Bool:=decide ((c.toNat:Int)<32)||decide (126<(c.toNat:Int))||(c.toNat:Int)==34||(c.toNat:Int)==92
def SS(c:UInt8):Txt:=if GH c then [92,VB (c.toNat / 16),VB (c.toNat % 16)]else [c]
def SU(l:Txt):Txt:=[34]++(l.map SS).flatten++ [34]
def o7(v:bB):Txt:=
 if v.kind=1 then Lib.formatBool (v.n==1)else if v.kind=4 then [64]++Lib.itoa v.n else if v.kind=5 then [35]++v.s else if v.kind=3 then SU v.s else Lib.itoa v.n
theorem vY{α:Type}(l:List α)(i:Nat)(h:i<l.length):(l.take (i+1)).zipIdx=(l.take i).zipIdx++ [(l[i],i)]:=by grind [List.take_succ_eq_append_getElem,Nat.min_eq_left,Nat.le_of_lt]
theorem FI(l:Txt)(i:Nat)(h:i<l.length):wo (l.take (i+1))=(wo (l.take i) && tN l[i] i):=by grind [wo,vY]
theorem Ja(l:Txt)(i:Nat)(h:i<l.length)(hb:tN l[i] i=false):wo l=false:=by rw[wo,List.all_eq_false];exact⟨(l[i],i),ad4,ad4⟩
theorem OF(c:UInt8):
  (decide (97≤(c.toNat:Int))=true∧decide ((c.toNat:Int)≤122)=true∧decide (48≤(c.toNat:Int))=true∧decide ((c.toNat:Int)≤57)=false∧((c.toNat:Int)==95)=false)∨
  (decide (97≤(c.toNat:Int))=false∧decide ((c.toNat:Int)≤122)=true∧decide (48≤(c.toNat:Int))=true∧decide ((c.toNat:Int)≤57)=true∧((c.toNat:Int)==95)=false)∨
  (decide (97≤(c.toNat:Int))=false∧decide ((c.toNat:Int)≤122)=true∧decide (48≤(c.toNat:Int))=true∧decide ((c.toNat:Int)≤57)=false∧((c.toNat:Int)==95)=true)∨
  (decide (97≤(c.toNat:Int))=false∧decide ((c.toNat:Int)≤122)=true∧decide (48≤(c.toNat:Int))=false∧decide ((c.toNat:Int)≤57)=true∧((c.toNat:Int)==95)=false)∨
  (decide (97≤(c.toNat:Int))=false∧decide ((c.toNat:Int)≤122)=true∧decide (48≤(c.toNat:Int))=true∧decide ((c.toNat:Int)≤57)=false∧((c.toNat:Int)==95)=false)∨
  (decide (97≤(c.toNat:Int))=true∧decide ((c.toNat:Int)≤122)=false∧decide (48≤(c.toNat:Int))=true∧decide ((c.toNat:Int)≤57)=false∧((c.toNat:Int)==95)=false):=by
 simp only[decide_eq_true_eq,decide_eq_false_iff_not,beq_iff_eq,beq_eq_false_iff_ne,ne_eq];omega
theorem wD{α:Type}{f:α→Int}{l:List α}{i:Nat}(h:i<l.length)(h0:iJ f (l.take i)=0)(h1:f l[i]=0):iJ f (l.take (i+1))=0:=by
 rw[List.take_succ_eq_append_getElem h];generalize l.take i=a at h0
 induction a with
 |nil=>grind [iJ]
 |cons x r ih=>
  simp only[iJ]at h0;split at h0
  ·simp_all [List.cons_append,iJ,if_true]
  omega
theorem Bd{α:Type}{f:α→Int}{l:List α}{i:Nat}(h:i<l.length)(h0:iJ f (l.take i)=0)(h1:f l[i]≠0):iJ f l=f l[i]:=by
 induction l generalizing i with
 |nil=>cases h
 |cons x r ih=>
  cases i with
  |zero=>grind [iJ]
  |succ i=>
   simp only[List.take_succ_cons,iJ]at h0;split at h0
   ·rename_i hx
    simp only[iJ,hx,if_true,List.getElem_cons_succ]
    grind
   omega
theorem Em{e x:Int}{w:Went}(h:need e w= .bad x)(hw:w= .bad x→x≠0):x≠0:=by grind [need]
theorem BM{m:eN}{r:cS}{e:Int}(h:gJ m r= .bad e):e≠0:=by grind [gJ,Em]
theorem Bh{m:eN}{id:Txt}{set:Bool}{e:Int}(h:fq m id set alg tgt nr nk obls= .bad e):e≠0:=by grind [fq,Em]
theorem qk(m:eN):∀(l:List cS) (i:Nat),fG m l=(match fG m (l.take i)with
  |.bad e=> .bad e
  |.ok m1=>fG m1 (l.drop i))
 | [],i=>by simp[fG]
 |r::l,0=>aei
 |r::l,i+1=>by
  simp only[List.take_succ_cons,List.drop_succ_cons,fG];cases gJ m r with
  |bad e=>rfl
  |ok m1=>simp only;exact qk m1 l i
theorem wV{m:eN}{l:List cS}{i:Nat}(hi:i<l.length)(h:fG m (l.take i)= .ok m1):fG m (l.take (i+1))=gJ m1 l[i]:=by
 rw[qk m _ i,List.take_take,Nat.min_eq_left ad3,h,List.take_succ_eq_append_getElem hi,List.drop_append_of_le_length ad4,List.drop_of_length_le ad4]
 grind [fG,gJ]
theorem EW{m:eN}{l:List cS}{i:Nat}{e:Int}(hi:i<l.length)(h:fG m (l.take i)= .ok m1)(hr:gJ m1 l[i]= .bad e):fG m l= .bad e:=by rw[qk m l (i+1),wV hi h,hr]
theorem rA(m:eN)(d:Nat):∀(l:List bF) (i:Nat),iZ m d l=(match iZ m d (l.take i)with
  |.bad e=> .bad e
  |.ok m1=>iZ m1 d (l.drop i))
 | [],i=>by simp[iZ]
 |r::l,0=>aei
 |r::l,i+1=>by
  simp only[List.take_succ_cons,List.drop_succ_cons,iZ];cases lf m d r with
  |bad e=>rfl
  |ok m1=>simp only;exact rA m1 d l i
theorem yX{m:eN}{d:Nat}{l:List bF}{i:Nat}(hi:i<l.length)(h:iZ m d (l.take i)= .ok m1):iZ m d (l.take (i+1))=lf m1 d l[i]:=by
 rw[rA m d _ i,List.take_take,Nat.min_eq_left ad3,h,List.take_succ_eq_append_getElem hi,List.drop_append_of_le_length ad4,List.drop_of_length_le ad4]
 grind [iZ,lf]
theorem Gr{m:eN}{d:Nat}{l:List bF}{i:Nat}{e:Int}(hi:i<l.length)(h:iZ m d (l.take i)= .ok m1)(hr:lf m1 d l[i]= .bad e):iZ m d l= .bad e:=by rw[rA m d l (i+1),yX hi h,hr]
theorem ld{l:List cE}(h:iK l=0):l.length≤8∧∀o∈l,rE o=true:=by grind [iK,List.all_eq_true]
theorem zk{n:Nat}(h:kR n=0):0<n∧n≤8:=by grind [kR]
theorem wE{α:Type}{f:α→Int}{l:List α}(h:iJ f l=0):∀x∈l,f x=0:=by
 induction l with
 |nil=>simp
 |cons y r ih=>
  simp only[iJ]at h
  grind
theorem AU{l:List bR}(h:xl l=0):0<l.length∧l.length≤8∧∀m∈l,lE m=true:=by
 unfold xl at h;split at h
 ·simp_all [zk,List.all_eq_true]
 omega
theorem AW{l:List (List bR)}(h:xm l=0):0<l.length∧l.length≤8∧∀m∈l,xl m=0:=by
 unfold xm at h;split at h
 ·rename_i hm
  have:=zk hm;exact⟨this.1,this.2,wE h⟩
 omega
theorem BS{l:gj}(h:l8 l=0):l.length≤8∧∀m∈l,xm m=0:=by grind [l8,wE]
def inV(v:bB):Prop:= -9223372036854775808≤v.n∧v.n≤9223372036854775807
def inA(l:List bR):Prop:=∀m∈l,inV m.val
def inY(l:List (List bR)):Prop:=∀a∈l,inA a
def inT(t:gj):Prop:=∀a∈t,inY a
def inL(l:List aO):Prop:=∀n∈l,inV n.val
def inR(r:cS):Prop:=inT r.tgt∧inL r.cond
mutual
def inP:bF→Prop
 |.mk id set alg tgt rules kids obls=>inT tgt∧(∀r∈rules,inR r)∧inK kids
def inK:List bF→Prop
 | []=>True
 |k::r=>inP k∧inK r
end
theorem So:∀l:List bF,inK l↔∀k∈l,inP k
 | []=>by simp[inK]
 |k::r=>by simp[inK,So r]
theorem yF{l:List aO}(h:kQ l=0)(hn:l≠ []):l.length≤32∧gp [] l=some [false]:=by grind [kQ]
def EV(r:cS):Prop:=bw r.id=true∧l8 r.tgt=0∧kQ r.cond=0∧iK r.obls=0
mutual
def mJ(d:Nat):bF→Prop
 |.mk id set alg tgt rules kids obls=>d≤4∧bw id=true∧1≤alg∧alg≤6∧(set=true→rules= [])∧(set=false→kids= []∧alg≠4)∧l8 tgt=0∧iK obls=0∧rules.length≤16∧kids.length≤16∧(∀r∈rules,EV r)∧wK (d+1) kids
def wK(d:Nat):List bF→Prop
 | []=>True
 |k::r=>mJ d k∧wK d r
end
theorem rz(d:Nat):∀l:List bF,wK d l↔∀k∈l,mJ d k
 | []=>by simp[wK]
 |k::r=>by simp[wK,rz d r]
theorem zl{m m' :eN}{s:Txt}(h:jr m s=some m'):bw s=true:=by grind [jr]
theorem rC{e:Int}{w:Went}{m:eN}(h:need e w= .ok m):e=0∧w= .ok m:=by grind [need]
theorem Nt{m m' :eN}{r:cS}(h:gJ m r= .ok m'):EV r:=by
 unfold gJ at h;split at h
 ·cases h
 ·rename_i m1 hm
  split at h
  ·cases h
  ·obtain⟨h1,h⟩:=rC h
   obtain⟨h2,h⟩:=rC h;obtain⟨h3,h⟩:=rC h;exact⟨zl hm,h1,h2,h3⟩
theorem BN:∀(l:List cS) (m m' :eN),fG m l= .ok m'→∀r∈l,EV r
 | [],_,_,_,r,hr=>ad4
 |x::l,m,m',h,r,hr=>by
  simp only[fG]at h;cases hx:gJ m x with
  |bad e=>grind
  |ok m1=>
   rw[hx]at h;rcases List.mem_cons.1 hr with rfl|hr
   ·exact Nt hx
   ·exact BN l m1 m' h r hr
theorem JU{m:eN}{id:Txt}{set:Bool}(h:fq m id set alg tgt nr nk obls= .ok m1):
  jr m id=some m1∧1≤alg∧alg≤6∧(set=true→nr=0)∧(set=false→nk=0∧alg≠4)∧l8 tgt=0∧iK obls=0∧nr≤16∧nk≤16:=by
 unfold fq at h;split at h
 ·cases h
 split at h
 ·cases h
 split at h
 ·cases h
 obtain⟨h3,h⟩:=rC h;obtain⟨h4,h⟩:=rC h
 grind
mutual
theorem Iv:∀(p:bF) (d:Nat) (m m' :eN),lf m d p= .ok m'→mJ d p
 |.mk id set alg tgt rules kids obls,d,m,m',h=>by
  simp only[lf]at h;split at h
  ·cases h
  rename_i hd
  split at h
  ·cases h
  rename_i m1 h1
  split at h
  ·cases h
  rename_i m2 h2
  obtain⟨g1,g2,g3,g4,g5,g6,g7,g8,g9⟩:=JU h1;simp only[mJ];exact⟨ad3,zl g1,g2,g3,fun e=>List.length_eq_zero_iff.1 (g4 e),fun e=>⟨List.length_eq_zero_iff.1 (g5 e).1,(g5 e).2⟩,g6,g7,g8,g9,BN _ _ _ h2,Ec kids (d+1) m2 m' h⟩
theorem Ec:∀(l:List bF) (d:Nat) (m m' :eN),iZ m d l= .ok m'→wK d l
 | [],_,_,_,_=>by simp[wK]
 |k::r,d,m,m',h=>by
  simp only[iZ]at h;split at h
  ·cases h
  rename_i m1 h1
  simp only[wK];exact⟨Iv k d m m1 h1,Ec r d m1 m' h⟩
end
end Go.Bf
namespace Go.Ab
open Go
def hm2(i:Nat)(a:Blk)(j:Nat)(b:Blk):Heap:=upd (hm1 i a) j (some b)
theorem Sub.hm2{h:Heap}{i j:Nat}{a b:Blk}(h1:h i=some a)(h2:h j=some b):Sub (hm2 i a j b) h:=fun k c hk=>by
 unfold Ab.hm2 at hk
 by_cases e:k=j
 ·grind [ah]
 ·rw[ag _ _ e]at hk;exact Sub.hm1 h1 k c hk
theorem pS(i:Nat)(a:Blk)(j:Nat)(b:Blk):hm2 i a j b j=some b:=ah ..
theorem pR{i:Nat}(a:Blk){j:Nat}(b:Blk)(h:i≠j):hm2 i a j b i=some a:=by simp_all [hm2,ag,gz]
theorem aF{h:Heap}{i j:Nat}{b:Blk}(e:upd h i (some b) j=none):j≠i:=fun hh=>by subst hh;rw[ah]at e;cases e
theorem Sub.put{h g:Heap}(hs:Sub h g){i:Nat}(hi:h i=Option.none)(x:Option Blk):Sub h (Ab.upd g i x):=fun k c hk=>by
 by_cases e:k=i
 ·grind
 ·rw[ag _ _ e];exact hs k c hk
theorem Sub.both{h g:Heap}(hs:Sub h g)(i:Nat)(x:Option Blk):Sub (Ab.upd h i x) (Ab.upd g i x):=fun k c hk=>by
 by_cases e:k=i
 ·grind [ah]
 ·rw[ag _ _ e]at hk⊢;exact hs k c hk
theorem Acc.put{U:TypeId→TI}{e:TypeId}{h h' :Heap}{y:AV}{xs:List AV}(ha:Acc U e h h' y xs){id:Nat}(hid:h id=Option.none){cs:List AV}{t:TypeId}(hob:h' id=some (.obj cs t))(x:Option Blk):Acc U e h (Ab.upd h' id x) y xs:=by
 obtain⟨h1,rfl|⟨k,i1,rfl,i2⟩⟩:=ha
 ·exact⟨h1.put hid x,.inl rfl⟩
 ·refine⟨h1.put hid x,.inr ⟨k,i1,rfl,?_⟩⟩
  grind [ag]
theorem base_start(G:Heap)(id:Nat)(x:Option Blk):Sub (upd G id Option.none) (upd G id x):=fun k c hk=>by grind [ah,ag]
theorem fE{G H:Heap}{id:Nat}{b:Blk}(hs:Sub (upd G id Option.none) H)(hb:H id=some b):Sub (upd G id (some b)) H:=fun k c hk=>by
 by_cases e:k=id
 ·grind [ah]
 ·rw[ag _ _ e]at hk;exact hs k c aeF
theorem BZ(xs:List AV)(q:Perm)(a b:AV):Weak (.tup [.sl xs q,a,b]) (.tup [.sl xs .no,a,b]):=.tup _ _ rfl fun i h1 h2=>by
 rcases i with _|_|_|i
 ·exact agG
 ·exact afn
 ·exact afn
 grind
theorem WP.ND{P:Program}{U:TypeId→TI}{n:Nat}(hU:∀t,aP P U t)(hm:P.follows .mixedOrders=true){c rest:Code}{ρ:Env}{h:Heap}{K:Exit→Env→Heap→Prop}(l:Nat)(J:Nat→Env→Heap→Prop)(hf:findLabel c l=some (.seq .skip rest))
  (pass:∀m ρ h,J m ρ h→WP P n rest ρ h (KJump l (fun ρ' h' =>∃m',m' <m∧J m' ρ' h') K))
  (first:(∀m ρ h,J m ρ h→WP P n rest ρ h (KJump l (fun ρ h=>∃m,J m ρ h) K))→WP P n c ρ h (KJump l (fun ρ h=>∃m,J m ρ h) K)):WP P n (.scope c) ρ h K:=
 WP.scope l J hf (first fun m ρ h hJ=>(pass m ρ h hJ).weaken fun e ρ h hk=>by
  cases e with
  |goto l' =>obtain⟨h1,m',_,h2⟩:=hk;exact⟨h1,m',h2⟩
  |_=>exact hk) fun m ρ h hJ=>WP.seq (dU hU hm .skip ρ h _ (pass m ρ h hJ))
end Go.Ab
namespace Go.Ab
attribute [go_sem] Int.natCast_zero Int.ofNat_zero Int.natCast_one Int.cast_ofNat_Int bne_self_eq_false beq_self_eq_true Bool.not_true Bool.not_false
attribute [go_sem] Nat.reduceLT Nat.reduceEqDiff Nat.reduceAdd Nat.reduceLeDiff Nat.reduceMul Nat.reduceSub Int.reduceBEq Int.reduceBNe
attribute [go_sem ↓] reduceIte
end Go.Ab
namespace Go.Ab
open Go
variable {F:Nat→Prop}{x:AV}{c c':Cx}{u:Value}
inductive Av (F:Nat→Prop):AV→Prop where
 |v (x:Value):Av F (.v x)
 |s (l:List UInt8):Av F (.s l)
 |agg (xs:List AV) (h:∀x∈xs,Av F x):Av F (.agg xs)
 |tup (xs:List AV) (h:∀x∈xs,Av F x):Av F (.tup xs)
 |sl (xs:List AV) (p:Perm) (h:∀x∈xs,Av F x) (hp:∀id,p= .own id→¬F id):Av F (.sl xs p)
 |pe (x:AV) (o:Nat) (h:Av F x):Av F (.pe x o)
 |ptr (id o:Nat) (h:¬F id):Av F (.ptr id o)
 |oa (id o l:Nat) (h:¬F id):Av F (.oa id o l)
 |ob (id o l c z:Nat) (h:¬F id):Av F (.ob id o l c z)
 |ifc (t:TypeId) (x:AV) (h:Av F x):Av F (.ifc t x)
 |fn (f:FuncId) (xs:List AV) (h:∀x∈xs,Av F x):Av F (.fn f xs)
 |mp (id:Nat) (h:¬F id):Av F (.mp id)
theorem Av.cells(h:Av F x):∀y∈x.cells,Av F y:=by
 cases h with
 |agg xs hx=>exact hx
 |_=>intro y hy;rw[List.mem_singleton.1 hy];constructor<;>assumption
theorem Av.Es(h:∀y∈x.cells,Av F y):Av F x:=by
 cases x with
 |agg xs=>exact .agg xs h
 |_=>exact h _ (List.mem_singleton.2 rfl)
theorem Rep.av(hF:∀id,F id→c.h id=none)(h:Rep c x u):Av F x:=by
 have nf:∀ {id:Nat} {k:Blk},c.h id=some k→¬F id:=fun hk hf=>ad4
 induction h with
 |v x=>exact .v x
 |s l hl=>exact .s l
 |agg xs vs hn hr ho ih=>exact .agg xs fun x hx=>afL
 |tup xs vs hn hr ih=>exact .tup xs fun x hx=>afL
 |sl xs p a cap sz val hc hm h0 hs hz hf hr ho hp ih=>
  refine .sl xs p (fun x hx=>?_) fun id e=>?_
  ·obtain⟨i,hi,rfl⟩:=List.mem_iff_getElem.1 hx
   refine .Es fun y hy=>?_
   obtain⟨j,hj,rfl⟩:=List.mem_iff_getElem.1 hy
   grind
  ·subst e
   obtain⟨m,h1,_⟩:=hp
   grind
 |pe x off b o val hb hf hr ho ih=>
  refine .pe x off (.Es fun y hy=>?_)
  obtain⟨j,hj,rfl⟩:=List.mem_iff_getElem.1 hy
  grind
 |ptr id off cs t h=>exact .ptr _ _ (nf h)
 |oa id off len cap o cs t h hc hm ho=>exact .oa _ _ _ (nf h)
 |ob id off len cap sz o cs t h hc hm ho=>exact .ob _ _ _ _ _ (nf h)
 |ifc t x u h ih=>exact .ifc t x ih
 |fn f xs vs hn hr ih=>exact .fn f xs fun x hx=>afL
 |mp id m h=>exact .mp _ (nf h)
noncomputable def Cx.back (c' :Cx) (g:Heap):Cx:={c' with h:=fun id=>if g id=none then none else c'.h id}
theorem ve{g:Heap}{id:Nat}{k:Blk}(h:(c'.back g).h id=some k):g id≠none∧c'.h id=some k:=by grind [Cx.back]
theorem lu{g:Heap}{id:Nat}(h:g id≠none):(c'.back g).h id=c'.h id:=by simp_all [Cx.back,if_false]
theorem yh{g:Heap}{b o:Nat}(h:owned (c'.back g) b o):owned c' b o:=by obtain⟨id,k,h1,h2,h3⟩:=h;exact⟨id,k,(ve h1).2,h2,h3⟩
theorem yg{g:Heap}{b o:Nat}(h:fix c' b o u):fix (c'.back g) b o u:=⟨h.1,fun ho=>h.2 (yh ho)⟩
theorem Rep.back{g:Heap}(h:Rep c' x u)(ha:Av (fun id=>g id=none) x):Rep (c'.back g) x u:=by
 induction h with
 |v x=>exact .v x
 |s l hl=>exact .s l hl
 |agg xs vs hn hr ho ih=>cases ha with|agg _ ha=>exact .agg xs vs hn ad4 ho
 |tup xs vs hn hr ih=>cases ha with|tup _ ha=>exact .tup xs vs hn ad4
 |sl xs p a cap sz val hc hm h0 hs hz hf hr ho hp ih=>
  cases ha with
  |sl _ _ ha hq=>
   refine .sl xs p a cap sz val hc hm h0 hs hz (by grind [yg]) (fun i hi j hj=>ih i hi j hj ((ha _ (adY hi)).cells _ (adY hj))) ho ?_
   cases p with
   |no=>trivial
   |full=>exact hp
   |own id=>obtain⟨m,h1,h2,h3⟩:=hp;exact⟨m,by rw[lu (hq id rfl)];omega,h2,h3⟩
 |pe x off b o val hb hf hr ho ih=>
  cases ha with
  |pe _ _ ha=>exact .pe x off b o val hb (by grind [yg]) (fun j hj=>ih j hj (ha.cells _ (adY hj))) ho
 |ptr id off cs t h=>cases ha with|ptr _ _ ha=>exact .ptr id off cs t (by grind [lu])
 |oa id off len cap o cs t h hc hm ho=>cases ha with|oa _ _ _ ha=>exact .oa id off len cap o cs t (by grind [lu]) hc hm ho
 |ob id off len cap sz o cs t h hc hm ho=>cases ha with|ob _ _ _ _ _ ha=>exact .ob id off len cap sz o cs t (by grind [lu]) hc hm ho
 |ifc t x u h ih=>cases ha with|ifc _ _ ha=>exact .ifc t x u (ih ha)
 |fn f xs vs hn hr ih=>cases ha with|fn _ _ ha=>exact .fn f xs vs hn ad4
 |mp id m h=>cases ha with|mp _ ha=>exact .mp id m (by grind [lu])
inductive Frz (g h:Heap):AV→AV→Prop where
 |keep (x:AV) (ha:Av (fun id=>g id=none) x):Frz g h x x
 |agg (xs ys:List AV) (hn:xs.length=ys.length) (hr:∀i (h1:i<xs.length) (h2:i<ys.length),Frz g h xs[i] ys[i]):Frz g h (.agg xs) (.agg ys)
 |tup (xs ys:List AV) (hn:xs.length=ys.length) (hr:∀i (h1:i<xs.length) (h2:i<ys.length),Frz g h xs[i] ys[i]):Frz g h (.tup xs) (.tup ys)
 |sl (xs ys:List AV) (p:Perm) (hn:xs.length=ys.length) (hz:∀i (h1:i<xs.length) (h2:i<ys.length),xs[i].cells.length=ys[i].cells.length)
   (hr:∀i (h1:i<xs.length) (h2:i<ys.length) j (h3:j<xs[i].cells.length) (h4:j<ys[i].cells.length),Frz g h xs[i].cells[j] ys[i].cells[j]):Frz g h (.sl xs p) (.sl ys .no)
 |ob (id off len cap sz:Nat) (cs:List AV) (t:TypeId) (ys:List AV) (hg:g id=none) (hh:h id=some (.obj cs t)) (hl:off+len*sz≤cs.length) (hn:ys.length=len) (hz:∀i (h1:i<ys.length),ys[i].cells.length=sz)
   (hr:∀i (h1:i<ys.length) j (h3:j<ys[i].cells.length) (h4:off+(i*sz+j)<cs.length),Frz g h (cs[off+(i*sz+j)]) ys[i].cells[j]):Frz g h (.ob id off len cap sz) (.sl ys .no)
 |ptr (id off:Nat) (cs:List AV) (t:TypeId) (ys:List AV) (hg:g id=none) (hh:h id=some (.obj cs t)) (hn:cs.length=ys.length) (hr:∀i (h1:i<cs.length) (h2:i<ys.length),Frz g h cs[i] ys[i]):Frz g h (.ptr id off) (.pe (.agg ys) off)
 |ifc (t:TypeId) (x y:AV) (hr:Frz g h x y):Frz g h (.ifc t x) (.ifc t y)
theorem Frz.rep{g h:Heap}(gd:Good c')(hh:Sub h c'.h){y:AV}(hz:Frz g h x y):∀ {u:Value},Rep c' x u→Rep (c'.back g) y u:=by
 have nown:∀ {id:Nat} {k:Blk} {o:Nat},g id=none→h id=some k→¬owned (c'.back g) (c'.φ id).block o:=fun {id k o} h1 h2 ho=>by obtain⟨j,l,h3,h4,h5⟩:=ho;obtain⟨h6,h7⟩:=ve h3;exact gd.inj j id l k h7 (hh _ _ h2) (fun e=>h6 ad4) h4
 induction hz with
 |keep x ha=>exact fun hr=>hr.back ha
 |agg xs ys hn hr ih=>intro u hu;obtain⟨vs,rfl,h1,h2,h3⟩:=hu.pz;exact .agg ys vs ad3 (fun i hi=>ih i ad3 hi (h2 i ad3)) fun i hi=>h3 i ad3
 |tup xs ys hn hr ih=>intro u hu;obtain⟨vs,rfl,h1,h2⟩:=hu.CU;exact .tup ys vs ad3 (fun i hi=>ih i ad3 hi (h2 i ad3))
 |sl xs ys p hn hz hr ih=>
  intro u hu;obtain⟨a,cap,sz,val,rfl,hs⟩:=hu.iO;rw[hn];have hcap:=hs.hc;refine .sl ys .no a cap sz val ad3 hs.hm hs.h0 hs.hs (fun i hi=>by rw[←hz i ad3 hi];exact hs.hz i ad3) (fun q hq i j hi hj=>yg (hs.hf q hq i j ad3 hj)) (fun i hi j hj=>?_) (fun i j hi hj=>hs.ho i j ad3 hj) trivial
  exact ih i ad3 hi j ad4 hj (hs.hr i ad3 j ad4)
 |ob id off len cap sz cs t ys hg hid hl hn hz hr ih=>
  intro u hu;obtain⟨o,rfl,h1,h2,cs',t',h3,h4⟩:=hu.jE;have hcid:=hh _ _ hid;obtain⟨vs,v1,v2,v3⟩:=gd.obj id cs t hcid;subst hn;have hbd:∀i j,i<ys.length→j<sz→i*sz+j<ys.length*sz:=fun i j hi hj=>by have:(i+1)*sz≤ys.length*sz:=Nat.mul_le_mul_right _ ad3;rw[Nat.add_mul,Nat.one_mul]at this;omega
  refine .sl ys .no _ cap sz (fun i j=>vs.getD (off+(i*sz+j)) undef) h1 h2 (fun e=>aet) (fun q hq _=>?_) hz (fun q hq i j hi hj=>?_) (fun i hi j hj=>?_) (fun i j hi hj=>(v3 _ ad4).2) trivial
  ·cases hq
   exact⟨rfl,gd.lt hcid⟩
  ·cases hq
   obtain⟨rfl,_⟩:=h4 ad3;have hb:=hbd i j hi hj;refine⟨?_,nown hg hid⟩;have:o+(i*sz+j)<vs.size:=ad3;simp[World.cell?,Cx.back,v1,this]
  ·have hj' :j<sz:=by grind
   have hb:=hbd i j hi hj';exact ih i hi j hj ad3 (v3 _ ad3).1
 |ptr id off cs t ys hg hid hn hr ih=>
  intro u hu;obtain⟨rfl,_⟩:=hu.lH;have hcid:=hh _ _ hid;obtain⟨vs,v1,v2,v3⟩:=gd.obj id cs t hcid;have:=Rep.pe (c:=c'.back g) (.agg ys) off (c'.φ id).block 0 (fun j=>vs.getD j undef) (gd.lt hcid) (fun j hj=>by
    have hj' :j<ys.length:=hj;refine⟨?_,nown hg hid⟩
    simp_all [World.cell?,Cx.back]) (fun j hj=>by
    have hj' :j<ys.length:=hj;exact ih j ad3 hj' (v3 j ad3).1) (fun j hj=>by
    have hj' :j<ys.length:=hj;exact(v3 j ad3).2)
  rw[Nat.zero_add]at this;exact aeE
 |ifc t x y hr ih=>
  intro u hu;cases hu with
  |ifc _ _ u' h=>exact .ifc t y _ (ih h)
theorem ai.freeze{P:Program}{f:FuncId}{args:List AV}{h:Heap}{Q:AV→Prop}
  (hf:∀g,Sub h g→(∀x∈args,Av (fun id=>g id=none) x)→ai P f args g fun r h' =>Sub g h'∧∃y,Frz g h' r y∧Q y):ai P f args h fun r h' =>Q r∧h' =h:=by
 intro c vs hs gd h1 h2;have hav:∀x∈args,Av (fun id=>c.h id=none) x:=fun x hx=>by obtain⟨i,hi,rfl⟩:=List.mem_iff_getElem.1 hx;exact(h2 i hi).av fun _ e=>e
 refine(hf c.h hs hav c vs (.refl _) gd h1 h2).mono ?_
 rintro u w' ⟨c',x,h',rfl,gd',hE,hr,hsub,hgh,y,hz,hq⟩
 have hkeep:∀id k,c.h id=some k→c'.h id=some k:=fun id k hk=>hsub _ _ (hgh _ _ hk)
 have hE2:Ext c (c'.back c.h):={
  os:=hE.os,tape:=hE.tape,output:=hE.output,size:=hE.size,block:=hE.block,cell:=hE.cell,shape:=hE.shape
  steal:=fun b o hb ho=>hE.steal b o hb (yh ho)
  obj:=fun id cs t hi=>by rw[lu ad4];exact hE.obj id cs t hi
  spare:=fun id n sz hi=>by rw[lu ad4];exact hE.spare id n sz hi
  mp:=fun id m hi=>by rw[lu ad4];exact hE.mp id m hi
  ro:=fun id b vs hi=>by rw[lu ad4];exact hE.ro id b vs hi}
 have hold:∀id k,(c'.back c.h).h id=some k→c.h id=some k∧c'.h id=some k:=fun id k hk=>by
  obtain⟨a1,a2⟩:=ve hk;cases hc:c.h id with
  |none=>grind
  |some k' =>grind
 refine⟨c'.back c.h,y,h,rfl,?_,hE2,hz.rep gd' hsub hr,fun id k hk=>?_,hq,rfl⟩
 ·refine⟨?_,fun i j k l hi hj hne=>gd'.inj i j k l (hold i k hi).2 (hold j l hj).2 hne,fun id cs t hi=>?_,fun id n sz hi=>gd'.spare id n sz (hold id _ hi).2,fun id m hi=>?_,fun id m hi=>gd'.keys id m (hold id _ hi).2,fun id b vs hi=>gd'.ro id b vs (hold id _ hi).2⟩
  ·obtain⟨N,hN⟩:=gd'.fin
   exact⟨N,fun id hid=>by grind [Cx.back]⟩
  ·obtain⟨vs,v1,v2,v3⟩:=gd'.obj id cs t (hold id _ hi).2
   obtain⟨vs0,w1,w2,w3⟩:=gd.obj id cs t (hold id _ hi).1;exact⟨vs,v1,v2,fun j hj=>⟨(v3 j hj).1.back ((w3 j hj).1.av fun _ e=>e),(v3 j hj).2⟩⟩
  ·obtain⟨es,cl,v1,v2,v3⟩:=gd'.mp id m (hold id _ hi).2
   obtain⟨es0,cl0,w1,w2,w3⟩:=gd.mp id m (hold id _ hi).1;exact⟨es,cl,v1,v2,fun i hi' hi2=>⟨(v3 i hi' hi2).1,(v3 i hi' hi2).2.back ((w3 i hi' ad3).2.av fun _ e=>e)⟩⟩
 ·rw[lu (by rw[hs _ _ hk];simp)]
  exact hkeep id k (hs _ _ hk)
section
variable {x:AV}{o off cap:Nat}{cs rest us vs c:List AV}
variable {P : Program} {U : TypeId → TI} {ρ : Env} {h h' : Heap} {sz : Nat} {y : AV} {xs : List AV} {e : TypeId}
def Rd(h:Heap)(sz:Nat)(y:AV)(xs:List AV):Prop:=
 Sized sz xs∧((∃q,y= .sl xs q)∨∃id off cap cs t,y= .ob id off xs.length cap sz∧h id=some (.obj cs t)∧off+xs.length*sz≤cs.length∧(cs.drop off).take (xs.length*sz)=aq xs)
theorem Rd.sl(hs:Sized sz xs)(q:Perm):Rd h sz (.sl xs q) xs:=⟨hs,.inl ⟨q,rfl⟩⟩
theorem Rd.sub(hb:Rd h sz y xs)(hs:Sub h h'):Rd h' sz y xs:=by
 obtain⟨h1,hb|⟨id,off,cap,cs,t,rfl,h2,h3⟩⟩:=hb
 ·exact⟨h1,.inl hb⟩
 ·exact⟨h1,.inr ⟨id,off,cap,cs,t,rfl,hs _ _ h2,h3⟩⟩
theorem Rd.len(hb:Rd h sz y xs)(e:TypeId)(k:AV→Prop):xx y k (.slice e)=k (.i xs.length):=by exact ajd
theorem Rd.cells(hb:Rd h sz y xs):y.cells= [y]:=by exact ajd
theorem Rd.fit(hb:Rd h sz y xs)(m:Nat):fit y m=(m=1):=by exact ajd
theorem Rd.src(hb:Rd h sz y xs)(hz:(U e).sz=sz){f:List AV→Prop}(hf:f xs):iP U e h y f:=by
 obtain⟨_,⟨q,rfl⟩|⟨id,off,cap,cs,t,rfl,h2,h3,h4⟩⟩:=hb
 ·exact hf
 ·rw[PT,h2]
  exact⟨hz.symm,xs,rfl,h3,h4.symm,hf⟩
def At(h:Heap)(p x:AV)(o:Nat):Prop:=p= .pe x o∨∃id a cs t,p= .ptr id (a+o)∧h id=some (.obj cs t)∧a+x.cells.length≤cs.length∧(cs.drop a).take x.cells.length=x.cells
theorem At.sub{p:AV}(ha:At h p x o)(hs:Sub h h'):At h' p x o:=by
 rcases ha with rfl|⟨id,a,cs,t,rfl,h2,h3⟩
 ·exact .inl rfl
 ·exact .inr ⟨id,a,cs,t,rfl,hs _ _ h2,h3⟩
theorem GL{a:Nat}{i:TI}{k:AV→Prop}(h1:a+x.cells.length≤cs.length)(h2:(cs.drop a).take x.cells.length=x.cells)(h3:i.sz≠0)(h4:o+i.sz≤x.cells.length):iN cs (a+o) i k=iN x.cells o i k:=by
 unfold iN;split
 ·have e:(cs.drop (a+o)).take i.sz=(x.cells.drop o).take i.sz:=by grind [List.drop_take,List.drop_drop,Nat.min_eq_left]
  apply propext
  grind
 grind
theorem At.part{p:AV}(ha:At h p x o){ty:TypeId}(hz:(U ty).sz≠0)(hl:o+(U ty).sz≤x.cells.length)(k:AV→Prop):nT U h ty p k=iN x.cells o (U ty) k:=by
 rcases ha with rfl|⟨id,a,cs,t,rfl,h2,h3,h4⟩
 ·rw[MH]
  unfold atA;split
  ·rename_i hc
   obtain⟨rfl,hc2,hc3⟩:=hc;unfold iN;split
   ·rename_i hag
    rw[hag]at hc3;have:x= .agg x.cells:=by cases x<;>first|rfl|cases hc3
    rw[List.drop_zero,←hc2,List.take_length,Nat.zero_add,←this];simp
   simp_all [bD,false,oO]
  ·rfl
 ·rw[J4,h2]
  exact GL h3 h4 hz hl
theorem At.all{p:AV}(ha:At h p x 0){ty:TypeId}(hz:(U ty).sz≠0)(hl:x.cells.length=(U ty).sz)(hg:bD x=(U ty).k.agg)(k:AV→Prop):nT U h ty p k=k x:=by
 rw[ha.part hz ad3];unfold iN;split
 ·rename_i hag
  rw[hag]at hg;have:x= .agg x.cells:=by cases x<;>first|rfl|cases hg
  rw[List.drop_zero,←hl,List.take_length,Nat.zero_add,←this];simp
 simp_all [bD,false,oO]
theorem At.field{p:AV}(ha:At h p x o){f:Nat}{t:TypeId}{fs:List (Nat×TypeId)}{K:AV→Prop}(hf:fs[f]? =some (off,t))(hz:(U t).sz≠0)(hk:∀p',At h p' x (o+off)→K p'):yG U f p K (.strct fs):=by
 rcases ha with rfl|⟨id,a,cs,t',rfl,h2,h3,h4⟩
 ·rw[Jo,hf]
  exact⟨hz,hk _ (.inl rfl)⟩
 ·rw[F1,hf]
  exact⟨hz,hk _ (.inr ⟨id,a,cs,t',ad4,h2,h3,h4⟩)⟩
theorem Rd.idx(hb:Rd h sz y xs){m:Int}{x:IntKind}{K:AV→Prop}(j:Nat)(hm:m=j)(hj:j<xs.length)(hz:(U e).sz=sz)(h0:sz≠0)(hk:∀p,At h p xs[j] 0→K p):pT U y (.v (.int x m)) K (.slice e):=by
 subst hm;have hc:=hb.1 xs[j] (adY hj);obtain⟨hs,⟨q,rfl⟩|⟨id,off,cap,cs,t,rfl,h2,h3,h4⟩⟩:=hb
 ·refine(vp ..).mpr ⟨ad3,?_⟩
  exact fC.at j hj ad3 (hk _ (.inl rfl))
 ·refine(Bj ..).mpr ⟨ad3,hz.symm,ad3,ad3,hk _ (.inr ⟨id,off+j*sz,cs,t,aea,h2,?_,?_⟩)⟩
  ·have:(j+1)*sz≤xs.length*sz:=Nat.mul_le_mul_right _ ad3
   rw[Nat.add_mul,Nat.one_mul]at this;rw[hc];omega
  ·have e1:=pM hs j hj
   rw[←h4,List.drop_take,List.take_take,List.drop_drop]at e1;rw[hc];have:(j+1)*sz≤xs.length*sz:=ad4;rw[Nat.add_mul,Nat.one_mul]at this;rw[Nat.min_eq_left ad3]at e1;exact e1
def Ow(tb:TypeId)(h:Heap)(sz id:Nat)(y:AV)(xs:List AV):Prop:=
 ∃cap rest,y= .ob id 0 xs.length cap sz∧h id=some (.obj (aq xs++rest) tb)∧rest.length=(cap - xs.length)*sz∧xs.length≤cap∧Sized sz xs
variable {tb : TypeId} {id : Nat}
theorem Ow.rd(hw:Ow tb h sz id y xs):Rd h sz y xs:=by obtain⟨cap,rest,rfl,h1,h2,h3,h4⟩:=hw;have hl:=aZ h4;exact⟨h4,.inr ⟨id,0,cap,_,tb,rfl,h1,ad4,ad4⟩⟩
theorem Ow.sub(hw:Ow tb h sz id y xs)(hs:Sub h h'):Ow tb h' sz id y xs:=by obtain⟨cap,rest,e1,h1,h2⟩:=hw;exact⟨cap,rest,e1,hs _ _ h1,h2⟩
theorem Ow.same(hw:Ow tb h sz id y xs)(hs:h' id=h id):Ow tb h' sz id y xs:=by obtain⟨cap,rest,e1,h1,h2⟩:=hw;exact⟨cap,rest,e1,hs.trans h1,h2⟩
theorem Ow.none(hw:Ow tb h sz id y xs):h id≠Option.none:=by
 obtain⟨cap,rest,e1,h1,h2⟩:=hw
 grind
theorem Ow.make(hs:Sized sz xs)(hcs:cs=aq xs){n:Nat}(hn:n=xs.length)(hc:n≤cap)(hr:rest.length=(cap - n)*sz):Ow tb (upd h id (some (.obj (cs++rest) tb))) sz id (.ob id 0 n cap sz) xs:=by
 subst hcs;subst hn
 exact⟨cap,rest,rfl,ah ..,hr,hc,hs⟩
theorem kS.ow{n:Nat}{Q:AV→Heap→Prop}(hs:Sized sz xs)(hcs:cs=aq xs)(hn:n=xs.length)(hk:∀id y h',h id=Option.none→Ow tb h' sz id y xs→(∀j,j≠id→h' j=h j)→Q y h'):kS h cs n sz tb Q:=
 fun id cap rest hid hc hr=>hk id _ _ hid (Ow.make hs hcs hn hc hr) fun j hj=>ag _ _ hj
theorem Ki:over (us++vs) (us.length+o) c=us++over vs o c:=by simp[Ab.over,Nat.add_assoc,List.take_length_add_append,List.drop_length_add_append,List.append_assoc]
theorem Jy{xs:List AV}(hs:Sized sz xs)(j:Nat)(hj:j<xs.length)(x:AV)(hx:x.cells.length=sz):aq (xs.set j x)=over (aq xs) (j*sz) x.cells:=by
 induction xs generalizing j with
 |nil=>grind
 |cons a r ih=>
  have h1:=hs a aea;have h2:Sized sz r:=fun z hz=>hs z ad4
  cases j with
  |zero=>simp only[List.set_cons_zero,kY,Ab.over,Nat.zero_mul,List.take_zero,List.nil_append,Nat.zero_add];rw[hx,←h1,List.drop_left]
  |succ j=>have hj' :j<r.length:=ad4;have e1:(j+1)*sz=a.cells.length+j*sz:=ad4;rw[List.set_cons_succ,kY,kY,ih h2 j hj',e1,Ki]
theorem Jx{xs:List AV}(hs:Sized sz xs)(j:Nat)(hj:j<xs.length)(o:Nat)(c:List AV)(ho:o+c.length≤sz):over (aq xs) (j*sz+o) c=aq (xs.set j (.agg (over xs[j].cells o c))):=by
 have hc:=hs xs[j] (adY hj);have hl:(over xs[j].cells o c).length=sz:=by grind [iM]
 rw[Jy hs j hj (.agg (over xs[j].cells o c)) hl];have hp:=pM hs j hj;have e1:(aq xs).take (j*sz+o)=(aq xs).take (j*sz)++xs[j].cells.take o:=by rw[←hp,List.take_take,Nat.min_eq_left ad3,List.take_add]
 have e2:(aq xs).drop (j*sz+o+c.length)=xs[j].cells.drop (o+c.length)++(aq xs).drop (j*sz+sz):=by
  have e3:(aq xs).drop (j*sz)=xs[j].cells++(aq xs).drop (j*sz+sz):=by grind [List.drop_drop,List.take_append_drop]
  rw[Nat.add_assoc,←List.drop_drop,e3,List.drop_append_of_le_length ad3]
 show over (aq xs) (j*sz+o) c=over (aq xs) (j*sz) (over xs[j].cells o c)
 grind [over,Ab.over,List.append_assoc]
theorem M5(h1:o+c.length≤us.length):over (us++vs) o c=over us o c++vs:=by grind [Ab.over,List.append_assoc]
theorem Ow.idx(hw:Ow tb h sz id y xs){m:Int}{x:IntKind}{K:AV→Prop}(j:Nat)(hm:m=j)(hj:j<xs.length)(hz:(U e).sz=sz)(h0:sz≠0)(hk:K (.ptr id (j*sz))):pT U y (.v (.int x m)) K (.slice e):=by
 obtain⟨cap,rest,rfl,h1,h2,h3,h4⟩:=hw
 simp_all [Bj,Nat.zero_add,Int.toNat_natCast]
def OwE(tb:TypeId)(h0 h:Heap)(sz:Nat)(y:AV)(xs:List AV):Prop:=(xs= []∧y= .sl [] .full)∨∃id,h0 id=Option.none∧Ow tb h sz id y xs
variable {h0 : Heap}
theorem OwE.rd(hw:OwE tb h0 h sz y xs):Rd h sz y xs:=by
 rcases hw with⟨rfl,rfl⟩|⟨id,_,hw⟩
 ·exact .sl (fun z hz=>ad4) _
 ·exact hw.rd
theorem OwE.sub(hw:OwE tb h0 h sz y xs)(hs:Sub h h'):OwE tb h0 h' sz y xs:=by
 rcases hw with hw|⟨id,h1,hw⟩
 ·exact ahY
 ·exact .inr ⟨id,h1,hw.sub hs⟩
theorem OwE.ow(hw:OwE tb h0 h sz y xs)(hn:xs≠ []):∃id,h0 id=Option.none∧Ow tb h sz id y xs:=by
 rcases hw with hw|hw
 ·grind
 omega
theorem OwE.app{v:AV}{zs:List AV}{Q:AV→Heap→Prop}(hw:OwE tb h0 h sz y xs)(hs0:Sub h0 h)(hb:Rd h sz v zs)(hz:(U tb).sz=sz)(h1:sz≠0)(hby:(U tb).bytes≠0)(hf:Ab.fit (U tb).zero sz)(hne:zs≠ [])(hlen:(xs.length+zs.length)*(U tb).bytes≤140737488355328)
  (hk:∀id y' h',h0 id=Option.none→(h id=Option.none∨∃l c,y= .ob id 0 l c sz)→Ow tb h' sz id y' (xs++zs)→(∀j,j≠id→h' j=h j)→Q y' h'):apK U h y v Q (.slice tb):=by
 subst hz;rcases hw with⟨rfl,rfl⟩|⟨id,h2,cap,rest,rfl,h3,h4,h5,h6⟩
 ·refine(qN ..).mpr ⟨h1,hby,hb.src rfl ⟨by simp[Sized],hb.1,ad3,fun hn=>(hne hn).elim,fun _=>?_⟩⟩
  refine .ob hf (kS.ow (by simpa using hb.1) aei aea fun id y' h' hid hw ho=>?_)
  exact hk id _ _ (hs0.none hid) (.inl hid) ad4 ho
 ·have hl:=aZ h6
  refine⟨h1,hby,rfl,hb.src rfl ⟨hb.1,hlen,?_⟩⟩;rw[h3];have hsz:Sized (U tb).sz (xs++zs):=fun z hz=>(List.mem_append.1 hz).elim (h6 z) (hb.1 z)
  refine⟨ad4,hf,fun hle=>?_,fun hgt=>?_⟩
  ·have hlz:=aZ hb.1
   have hmul:(cap - xs.length)*(U tb).sz=zs.length*(U tb).sz+(cap - (xs.length+zs.length))*(U tb).sz:=by rw[←Nat.add_mul];grind
   refine hk id _ _ h2 (.inr ⟨_,_,rfl⟩) ⟨cap,rest.drop (zs.length*(U tb).sz),aea,?_,?_,ad4,hsz⟩ fun j hj=>ag _ _ hj
   ·simp_all [ah,mO,Nat.zero_add,Ab.over,List.take_left,List.drop_append,List.drop_of_length_le]
   grind
  ·refine kS.ow hsz ?_ aea fun id' y' h' hid hw ho=>?_
   ·grind [mO,List.take_left]
   ·exact hk id' _ _ (hs0.none hid) (.inl hid) hw ho
theorem wN {f : FuncId} {fn : Func} {tS tR : TypeId} (hU : ∀ t, aP P U t) (hfn : P.funcs[f]? = some fn) (hname : (fn.name == "runtime.NumGoroutine") = false) (hb : fn.body.isNone = true) (hn : Extern.findNext fn = Option.none)
  (he:Extern.find fn=some (Extern.SlicesOverlaps.overlaps #[tS,tS] #[tR])) (hty:(U tS).k= .slice e) (hz:(U e).sz≠0) {q:Perm} (hx:Sized (U e).sz xs) (hne:xs≠ []) {id len sz:Nat}  {t:TypeId} (hid:h id=some (.obj cs t)) (hcs:cs≠ []):
  ai P f [.sl xs q,.ob id off len cap sz] h fun r h' =>r= .b false∧h' =h:=by
 intro c vs hs g h1 h2;obtain⟨a,cap0,sz0,val,hu,sl⟩:=(h2 0 aea).iO;obtain⟨o,hv,_⟩:=(h2 1 aea).jE;have hd:=(hU tS).desc;rw[hty]at hd;have hpos:0<xs.length:=List.length_pos_iff.2 hne;have hcap:=sl.hc;obtain⟨qa,rfl⟩:∃qa,a=some qa:=by
  cases a with
  |none=>have:=sl.h0 rfl;omega
  |some qa=>simp
 have hs0:sz0=(U e).sz:=by rw[←sl.hz 0 hpos];exact hx _ (adY hpos)
 have hf:=sl.hf qa rfl 0 0 hpos ad3;have hq:=(sl.hs qa rfl ad3).1;have hcid:=hs _ _ hid;obtain⟨us,u1,u2,u3⟩:=g.obj id cs t hcid;have hnb:qa.block≠(c.φ id).block:=fun hh=>hf.2 ⟨id,_,hcid,hh.symm,Nat.zero_le _⟩
 obtain⟨ws,tw,fr,hws,hwlt⟩:∃ws tw fr,c.w.heap[qa.block]? =some (.cells ws tw fr)∧0<ws.size:=by
  have:=hf.1;simp only[World.cell?]at this;split at this
  ·rename_i ws tw fr hh
   refine⟨ws,tw,fr,hh,?_⟩
   grind
  all_goals cases this
 have hvs:vs= #[.slice (some qa) xs.length cap0,.slice (some ⟨(c.φ id).block,o,Option.none⟩) len cap]:=by
  apply Array.ext
  ·omega
  ·intro i hi hi2
   have hi3:i<2:=ad3;rcases i with _|_|i
   ·simpa[Array.getD,hi]using hu
   ·simpa[Array.getD,hi]using hv
   ·omega
 subst hvs;refine .inr ⟨.bool false,c.w,?_,c,_,h,rfl,g,.refl c,.v _,hs,rfl,rfl⟩;rw[Go.run_callFunc_extern hfn hname hb hn he];have key:(Extern.SlicesOverlaps.overlaps #[tS,tS] #[tR] #[.slice (some qa) xs.length cap0,.slice (some ⟨(c.φ id).block,o,Option.none⟩) len cap]).run P c.w= .ok (.bool false) c.w:=by
  have hnb1:(qa.block !=(c.φ id).block)=true:=ad4;have hnb2:(qa.block==(c.φ id).block)=false:=ad4;have hws2:∃m,ws.size=m+1:=⟨ws.size - 1,ad3⟩;obtain⟨m,hm⟩:=hws2
  change Sem.run P (α:=Value) (do
   let some t := (#[tS, tS] : Array TypeId)[0]? | stuck "slices.overlaps: no parameter types"
   let .slice elem ← underlying t | stuck "slices.overlaps: slice type expected"
   let size←sizeOf elem
   match (some qa:Option Addr),(some ⟨(c.φ id).block,o,Option.none⟩:Option Addr)with
   |some a,some b=>
    if xs.length=0∨len=0∨size=0 then pure (Value.bool false)
    else if a.block !=b.block && (←frozen a) && (←frozen b)then unsupported .addressObserved
    else do
     if a.block !=b.block then do
      noView a;noView b
      if ← mayBeOne a b then return Value.bool ((← choose (.extern "sameAddr.stringBytes" 2)) == 1)
     pure (Value.bool (a.block==b.block && a.off<b.off+len*size && b.off<a.off+xs.length*size))
   |_,_=>pure (Value.bool false)) c.w=_
  have hfb:∀x,c.w.frozen? ⟨(c.φ id).block,x,Option.none⟩=false:=fun x=>by grind [World.frozen?]
  have hsb:c.w.shape? (c.φ id).block=some (t,us.size):=by grind [World.shape?]
  have hsa:c.w.shape? qa.block=some (tw,m+1):=by grind [World.shape?]
  by_cases hl:len=0
  ·simp[run_underlying hd,bI hU hz,hl]
  ·have hus:us.size≠0:=by grind
   obtain⟨n,hn'⟩:∃n,us.size=n+1:=⟨us.size - 1,ad3⟩;rw[hn']at hsb;cases hfa:c.w.frozen? qa<;>cases hfa2:c.w.frozen? {block:=qa.block,off:=m+1}<;>
    simp[run_underlying hd,bI hU hz,hl,hne,hz,hnb1,hnb2,frozen,noView,viewAt,mayBeOne,stringish,shape,Sem.run,hsa,hsb,hfb,hfa,hfa2]
 rw[key];rfl
end
end Go.Ab
namespace Go.Bf
open Go Go.Ab
structure OpD where
 kind:Int
 subj:Txt
 case:Txt
 field:Txt
 to:Txt
 val:bB
 review:Int
 text:Txt
 reason:Txt
 glass:Bool
structure u0 where
 tick:Int
 actor:Txt
 what:Txt
structure cR where
 name:Txt
 val:bB
structure aK where
 id:Txt
 owner:Txt
 state:Txt
 fields:List cR
 log:List u0
structure pq where
 id:Int
 tick:Int
 subj:Txt
 case:Txt
 action:Txt
 reason:Txt
 isOpen:Bool
structure C2 where
 tick:Int
 case:Txt
 arg:Txt
structure gG where
 subj:Txt
 role:Txt
structure an where
 tick:Int
 cases:List aK
 reviews:List pq
 notices:List C2
 roles:List gG
 policy:bF
 version:Int
structure bt where
 cat:Int
 name:Txt
 bag:List bB
def opC(o:OpD):List AV:=[.i o.kind,.s o.subj,.s o.case,.s o.field,.s o.to,.i o.val.kind,.i o.val.n,.s o.val.s,.i o.review,.s o.text,.s o.reason,.b o.glass]
def opA(o:OpD):AV:=.agg (opC o)
def gv(x:u0):AV:=.agg [.i x.tick,.s x.actor,.s x.what]
def bC(f:cR):AV:=.agg [.s f.name,.i f.val.kind,.i f.val.n,.s f.val.s]
def gL(l:List cR):AV:=.sl (l.map bC) .no
def sZ(l:List u0):AV:=.sl (l.map gv) .no
def nO(c:aK):List AV:=[.s c.id,.s c.owner,.s c.state,gL c.fields,sZ c.log]
def cq(c:aK):AV:=.agg (nO c)
def fO(l:List aK):AV:=.sl (l.map cq) .no
def gA(r:pq):AV:=.agg [.i r.id,.i r.tick,.s r.subj,.s r.case,.s r.action,.s r.reason,.b r.isOpen]
def jR(l:List pq):AV:=.sl (l.map gA) .no
def kr(n:C2):AV:=.agg [.i n.tick,.s n.case,.s n.arg]
def ku(l:List C2):AV:=.sl (l.map kr) .no
def dw(r:gG):AV:=.agg [.s r.subj,.s r.role]
def dW(l:List gG):AV:=.sl (l.map dw) .no
def gw:bF→List AV
 |.mk id set alg tgt rules kids obls=>[.s id,.b set,.i alg,aT tgt,.sl (rules.map aC) .no,.sl (fc kids) .no,ay obls]
theorem Pz(p:bF):aL p= .agg (gw p):=by cases p;rfl
def bN(s:an):AV:=.agg ([.i s.tick,fO s.cases,jR s.reviews,ku s.notices,dW s.roles]++gw s.policy++ [.i s.version])
def lQ(g:bt):AV:=.agg [.i g.cat,.s g.name,.sl (g.bag.map aV) .no]
def bP(l:List bt):AV:=.sl (l.map lQ) .no
def geB(a b:Txt):Bool:= !(Op.bytesLess a b)
def findD(cs:List aK)(id:Txt):Nat:=cs.findIdx fun c=>geB c.id id
def cj(cs:List aK)(id:Txt):Bool:=match cs[findD cs id]? with
 |some c=>c.id==id
 |none=>false
def ax:bB:=⟨0,0,[]⟩
def o9:aK:=⟨[],[],[],[],[]⟩
def bx(cs:List aK)(id:Txt):aK:=if cj cs id then cs.getD (findD cs id) o9 else o9
def eV(fs:List cR)(name:Txt):bB:=match fs.find? fun f=>f.name==name with
 |some f=>f.val
 |none=>ax
def vi(a b:gG):Bool:=a.subj==b.subj && a.role==b.role
def yQ(l:List gG)(r:gG):Bool:=l.any (vi r)
def jQ:Txt:=[111,112,101,110]
def xj:Txt:=[119,111,114,107]
def A6:Txt:=[100,111,110,101]
def iB:Txt:=[99,108,111,115,101,100]
def ng(a b:Txt):Bool:=
 if a==jQ then b==xj else if a==xj then b==A6 else if a==A6 then b==xj||b==iB else false
def UP:List Txt:=[[110,101,119],[114,101,97,100],[119,114,105,116,101],[109,111,118,101],[99,108,111,115,101],[114,111,108,101],[112,111,108,105,99,121]]
def jY(k:Int):Txt:=if k<1∨k>7 then [116,105,99,107]else UP.getD (k - 1).toNat []
def vE(k:Int):Bool:=decide (1≤k) && decide (k≤4)
def jg(s:Txt):Bool:=s== []||bw s
def mK(o:OpD):Bool:=if o.glass then vE o.kind && (!(o.reason== [])) && decide (o.reason.length≤64)else o.reason== []
def jb(o:OpD):OpD:=
 let z:OpD:=⟨o.kind,[],[],[],[],ax,0,[],[],false⟩
 if o.kind=1 then {z with case:=o.case}
 else if o.kind=2∨o.kind=6 then {z with case:=o.case,field:=o.field}
 else if o.kind=3 then {z with case:=o.case,field:=o.field,val:=o.val}
 else if o.kind=4 then {z with case:=o.case,to:=o.to}
 else if o.kind=5∨o.kind=8 then {z with review:=o.review}
 else {z with text:=o.text}
def eqV(a b:bB):Bool:=a.kind==b.kind && (a.n==b.n && a.s==b.s)
def nE(a b:OpD):Bool:=a.kind==b.kind && (a.subj==b.subj && (a.case==b.case && (a.field==b.field && (a.to==b.to && (a.val.kind==b.val.kind && (a.val.n==b.val.n && (a.val.s==b.val.s && (a.review==b.review && (a.text==b.text && (a.reason==b.reason && a.glass==b.glass))))))))))
def okD(o:OpD):Bool:=
 if o.kind=1 then !(o.case== [])
 else if o.kind=2∨o.kind=6 then !(o.case== []) && !(o.field== [])
 else if o.kind=3 then !(o.case== []) && !(o.field== []) && !(eqV o.val ax)
 else if o.kind=4 then !(o.case== []) && !(o.to== [])
 else if o.kind=5 then decide (0<o.review)
 else if o.kind=8 then decide (0<o.review) && decide (o.review≤1099511627776)
 else true
def iq(o:OpD):OpD:={o with subj:=[],reason:=[],glass:=false}
def dX(o:OpD):Bool:=decide (1≤o.kind) && decide (o.kind≤8) && okD o && nE (iq o) (jb o)
def dH(o:OpD):Bool:=bw o.subj && mK o && decide (o.text.length≤4096) && jg o.case && jg o.field && jg o.to && (eqV o.val ax||bH o.val) && dX o
def bX(s:an)(o:OpD):Int:=
 let c:=bx s.cases o.case
 if cj s.cases o.case=false then 10
 else if o.kind=3∧c.fields.length≥16∧eqV (eV c.fields o.field) ax=true then 6
 else if o.kind≠2∧c.log.length≥256 then 6
 else if o.kind=3∧c.state=iB∨o.kind=4∧ng c.state o.to=false then 13
 else 0
def wU(l:List pq)(n:Int):Option pq:=if 1≤n then l[(n - 1).toNat]? else none
def fy(s:an)(o:OpD):Int:=match wU s.reviews o.review with
 |none=>10
 |some r=>if r.isOpen=false then 10 else if r.subj=o.subj then 12 else 0
def bQ(s:an)(o:OpD):Int:=
 if dH o=false then 1
 else if o.kind=1 then(if cj s.cases o.case then 11 else if s.cases.length≥64 then 6 else 0)
 else if 2≤o.kind∧o.kind≤4 then bX s o
 else if o.kind=5 then fy s o
 else if o.kind=6 then(if s.roles.length≥64∧yQ s.roles ⟨o.case,o.field⟩=false then 6 else 0)
 else if o.kind=8 then(if s.tick>1099511627776 - o.review then 6 else 0)
 else 0
def idV(s:Txt):bB:=⟨5,0,s⟩
def uT(l:List u0)(subj:Txt):bB:=⟨1,if l.any (fun x=>x.actor==subj)then 1 else 0,[]⟩
def idT:Txt:=[105,100]
def cH(c:aK)(subj:Txt):List bt:=
 [⟨3,idT,[idV c.id]⟩,⟨3,[111,119,110,101,114],[idV c.owner]⟩,⟨3,[115,116,97,116,101],[idV c.state]⟩,⟨3,[101,118,101,110,116,115],[⟨2,c.log.length,[]⟩]⟩,⟨3,[116,111,111,107],[uT c.log subj]⟩]++
 (match c.log.getLast? with
  |some x=>[⟨3,[108,97,115,116],[idV x.actor]⟩]
  |none=>[])++
 (c.fields.filter fun f=>decide (f.name.length≤14)).map fun f=>⟨3,[102,95]++f.name,[f.val]⟩
def dG(l:List gG)(subj:Txt):List bB:=((l.filter fun r=>r.subj==subj).map fun r=>idV r.role).take 16
def fN(s:an)(o:OpD):List bt:=
 [⟨1,idT,[idV o.subj]⟩,⟨1,[114,111,108,101],dG s.roles o.subj⟩,⟨2,[110,97,109,101],[idV (jY o.kind)]⟩]++
 (if o.field= []then []else [⟨2,[102,105,101,108,100],[idV o.field]⟩])++
 (if o.to= []then []else [⟨2,[116,111],[idV o.to]⟩])++
 [⟨4,[110,111,119],[⟨4,s.tick,[]⟩]⟩]++
 (if cj s.cases o.case=true∧o.kind≠6 then cH (bx s.cases o.case) o.subj else [])
def fo(fs:List cR)(name:Txt)(v:bB):List cR:=
 let i:=fs.findIdx fun f=>geB f.name name
 match fs[i]? with
 |none=>fs++ [⟨name,v⟩]
 |some f=>if f.name=name then fs.set i ⟨f.name,v⟩else fs.take i++ [⟨name,v⟩]++fs.drop i
def jD(s:an)(c:aK)(actor what:Txt):aK:={c with log:=c.log++ [⟨s.tick,actor,what⟩]}
def doD(par:Txt→bF×Int×Int)(s:an)(o:OpD):an:=
 let i:=findD s.cases o.case
 if o.kind=1 then {s with cases:=s.cases.take i++ [jD s ⟨o.case,o.subj,jQ,[],[]⟩ o.subj [110,101,119]]++s.cases.drop i}
 else if o.kind=3 then {s with cases:=s.cases.modify i fun c=>jD s {c with fields:=fo c.fields o.field o.val} o.subj [119,114,105,116,101]}
 else if o.kind=4 then {s with cases:=s.cases.modify i fun c=>jD s {c with state:=o.to} o.subj o.to}
 else if o.kind=5 then {s with reviews:=s.reviews.modify (o.review - 1).toNat fun r=> {r with isOpen:=false}}
 else if o.kind=6 then(if yQ s.roles ⟨o.case,o.field⟩then s else {s with roles:=s.roles++ [⟨o.case,o.field⟩]})
 else if o.kind=7 then(if(par o.text).2.1=0 then {s with policy:=(par o.text).1,version:=s.version+1} else s)
 else if o.kind=8 then {s with tick:=s.tick+o.review}
 else s
def ew(par:Txt→bF×Int×Int)(s:an)(o:OpD):an:=if bQ s o=0 then doD par s o else s
def i64(n:Int):Prop:= -9223372036854775808≤n∧n≤9223372036854775807
end Go.Bf
namespace Go.Proofs.YtokahfmoollblaaGreatDoor
open Go Go.Ab
def tyN:TI:=⟨.other,0,0,default,none⟩
abbrev ad1:TI:=⟨.other,1,8,.v .nilFunc,none⟩
def NR:List TI:=[
 tyN,
 ad1,
 ⟨.int .i64,1,8,.i 0,some (0,[.int .i64])⟩,
 ⟨.int .i64,1,8,.i 0,some (0,[.int .i64])⟩,
 ⟨.bool,1,1,.b false,some (0,[.bool])⟩,
 ⟨.int .u8,1,1,.v (.int .u8 0),some (0,[.int .u8])⟩,
 ⟨.int .u8,1,1,.v (.int .u8 0),some (0,[.int .u8])⟩,
 ⟨.strct [(0,2),(1,3),(2,4),(3,6)],4,24,.agg [.i 0,.i 0,.b false,.v (.int .u8 0)],none⟩,
 ⟨.strct [(0,2),(1,3),(2,4),(3,6)],4,24,.agg [.i 0,.i 0,.b false,.v (.int .u8 0)],none⟩,
 ⟨.str,1,16,.s [],some (0,[.str])⟩,tyN,
 ⟨.str,1,16,.s [],some (0,[.str])⟩,tyN,tyN,tyN,tyN,tyN,tyN,tyN,tyN,tyN,tyN,
 ⟨.slice 9,1,24,.sl [] .full,none⟩,
 ⟨.slice 3,1,24,.sl [] .full,none⟩,
 ⟨.ptr 126,1,8,.v (.pointer none),none⟩,
 ⟨.ptr 121,1,8,.v (.pointer none),none⟩,tyN,tyN,
 ⟨.slice 111,1,24,.sl [] .full,none⟩,
 ⟨.slice 132,1,24,.sl [] .full,none⟩,
 ⟨.slice 135,1,24,.sl [] .full,none⟩,
 ⟨.slice 138,1,24,.sl [] .full,none⟩,
 ⟨.slice 266,1,24,.sl [] .full,none⟩,
 ⟨.slice 266,1,24,.sl [] .full,none⟩,
 ⟨.slice 217,1,24,.sl [] .full,none⟩,
 ⟨.slice 38,1,24,.sl [] .full,none⟩,
 ⟨.slice 145,1,24,.sl [] .full,none⟩,tyN,
 ⟨.strct [(0,9),(1,4),(2,3),(3,33),(4,34),(5,35),(6,36)],7,128,.agg [.s [],.b false,.i 0,.sl [] .full,.sl [] .full,.sl [] .full,.sl [] .full],none⟩,tyN,
 ⟨.strct [(0,3),(1,28),(2,29),(3,30),(4,31),(5,38),(12,3)],13,240,.agg [.i 0,.sl [] .full,.sl [] .full,.sl [] .full,.sl [] .full,.s [],.b false,.i 0,.sl [] .full,.sl [] .full,.sl [] .full,.sl [] .full,.i 0],none⟩,
 ad1,tyN,tyN,
 ⟨.strct [(0,3),(1,3),(2,9)],3,32,.agg [.i 0,.i 0,.s []],some (1,[.int .i64,.int .i64,.str])⟩,tyN,
 ⟨.strct [(0,3),(1,9),(2,9),(3,9),(4,9),(5,44),(8,3),(9,9),(10,9),(11,4)],12,152,.agg [.i 0,.s [],.s [],.s [],.s [],.i 0,.i 0,.s [],.i 0,.s [],.s [],.b false],some (2,[.int .i64,.str,.str,.str,.str,.int .i64,.int .i64,.str,.int .i64,.str,.str,.bool])⟩,tyN,tyN,
 ⟨.int .i64,1,8,.i 0,some (0,[.int .i64])⟩,
 ⟨.cplx .f64,1,16,.v (.complex .f64 0 0),some (0,[.cplx .f64])⟩,
 ⟨.cplx .f64,1,16,.v (.complex .f64 0 0),some (0,[.cplx .f64])⟩,tyN,
 ⟨.strct [(0,49),(1,51),(2,4),(3,44),(6,4),(7,3)],8,80,.agg [.i 0,.v (.complex .f64 0 0),.b false,.i 0,.i 0,.s [],.b false,.i 0],some (2,[.int .i64,.cplx .f64,.bool,.int .i64,.int .i64,.str,.bool,.int .i64])⟩,tyN,
 ⟨.strct [(0,46),(12,3),(13,51),(14,4),(15,36)],16,208,.agg [.i 0,.s [],.s [],.s [],.s [],.i 0,.i 0,.s [],.i 0,.s [],.s [],.b false,.i 0,.v (.complex .f64 0 0),.b false,.sl [] .full],none⟩,tyN,tyN,tyN,
 ad1,
 ad1,
 ad1,tyN,tyN,tyN,
 ad1,tyN,
 ⟨.slice 46,1,24,.sl [] .full,none⟩,tyN,tyN,tyN,tyN,tyN,tyN,
 ⟨.slice 55,1,24,.sl [] .full,none⟩,tyN,
 ⟨.int .u64,1,8,.v (.int .u64 0),some (0,[.int .u64])⟩,tyN,tyN,tyN,
 ⟨.slice 82,1,24,.sl [] .full,none⟩,tyN,
 ⟨.slice 5,1,24,.sl [] .full,none⟩,tyN,tyN,tyN,tyN,tyN,tyN,tyN,tyN,tyN,tyN,tyN,tyN,
 ⟨.strct [(0,51),(1,36)],2,40,.agg [.v (.complex .f64 0 0),.sl [] .full],none⟩,
 ⟨.strct [(0,51),(1,36)],2,40,.agg [.v (.complex .f64 0 0),.sl [] .full],none⟩,
 ad1,tyN,
 ad1,
 ⟨.slice 180,1,24,.sl [] .full,none⟩,
 ad1,
 ad1,
 ad1,
 ad1,
 ⟨.ptr 40,1,8,.v (.pointer none),none⟩,
 ad1,
 ad1,
 ⟨.slice 199,1,24,.sl [] .full,none⟩,
 ⟨.slice 189,1,24,.sl [] .full,none⟩,
 ⟨.strct [(0,9),(1,9),(2,9),(3,108),(4,109)],5,96,.agg [.s [],.s [],.s [],.sl [] .full,.sl [] .full],none⟩,
 ⟨.strct [(0,9),(1,9),(2,9),(3,108),(4,109)],5,96,.agg [.s [],.s [],.s [],.sl [] .full,.sl [] .full],none⟩,tyN,
 ad1,
 ad1,
 ad1,
 ad1,
 ad1,
 ad1,
 ad1,tyN,
 ⟨.strct [(0,3),(1,82),(2,3),(3,3),(4,4)],5,56,.agg [.i 0,.sl [] .full,.i 0,.i 0,.b false],none⟩,
 ⟨.ptr 211,1,8,.v (.pointer none),none⟩,tyN,tyN,
 ⟨.strct [(0,122),(1,40),(14,74),(15,76)],16,280,.agg [.v (.pointer none),.i 0,.sl [] .full,.sl [] .full,.sl [] .full,.sl [] .full,.s [],.b false,.i 0,.sl [] .full,.sl [] .full,.sl [] .full,.sl [] .full,.i 0,.sl [] .full,.v (.int .u64 0)],none⟩,
 ⟨.strct [(0,122),(1,40),(14,74),(15,76)],16,280,.agg [.v (.pointer none),.i 0,.sl [] .full,.sl [] .full,.sl [] .full,.sl [] .full,.s [],.b false,.i 0,.sl [] .full,.sl [] .full,.sl [] .full,.sl [] .full,.i 0,.sl [] .full,.v (.int .u64 0)],none⟩,tyN,tyN,tyN,tyN,tyN,
 ⟨.strct [(0,3),(1,3),(2,9),(3,9),(4,9),(5,9),(6,4)],7,88,.agg [.i 0,.i 0,.s [],.s [],.s [],.s [],.b false],some (1,[.int .i64,.int .i64,.str,.str,.str,.str,.bool])⟩,tyN,tyN,
 ⟨.strct [(0,3),(1,9),(2,9)],3,40,.agg [.i 0,.s [],.s []],some (1,[.int .i64,.str,.str])⟩,tyN,tyN,
 ⟨.strct [(0,9),(1,9)],2,32,.agg [.s [],.s []],some (1,[.str,.str])⟩,tyN,tyN,tyN,tyN,tyN,tyN,
 ⟨.strct [(0,3),(1,3),(2,9)],3,32,.agg [.i 0,.i 0,.s []],some (1,[.int .i64,.int .i64,.str])⟩,tyN,tyN,tyN,tyN,tyN,tyN,
 ⟨.int .u32,1,4,.v (.int .u32 0),some (0,[.int .u32])⟩,tyN,
 ⟨.slice 162,1,24,.sl [] .full,none⟩,tyN,tyN,
 ⟨.ptr 159,1,8,.v (.pointer none),none⟩,tyN,
 ⟨.strct [(0,154),(1,3),(2,3),(3,49),(4,3)],5,56,.agg [.sl [] .full,.i 0,.i 0,.i 0,.i 0],none⟩,tyN,tyN,
 ⟨.strct [(0,3),(1,3),(2,3),(3,9)],4,40,.agg [.i 0,.i 0,.i 0,.s []],some (1,[.int .i64,.int .i64,.int .i64,.str])⟩,tyN,tyN,tyN,tyN,tyN,tyN,
 ⟨.iface,1,16,.v .nilIface,none⟩,tyN,tyN,tyN,tyN,tyN,tyN,tyN,
 ⟨.slice 44,1,24,.sl [] .full,none⟩,tyN,tyN,
 ⟨.strct [(0,3),(1,9),(2,177)],3,48,.agg [.i 0,.s [],.sl [] .full],none⟩,tyN,tyN,tyN,tyN,tyN,
 ad1,tyN,tyN,
 ⟨.strct [(0,3),(1,9),(2,9)],3,40,.agg [.i 0,.s [],.s []],some (1,[.int .i64,.str,.str])⟩,tyN,
 ⟨.ptr 111,1,8,.v (.pointer none),none⟩,tyN,tyN,tyN,
 ad1,tyN,tyN,tyN,
 ⟨.strct [(0,9),(1,44)],4,48,.agg [.s [],.i 0,.i 0,.s []],some (2,[.str,.int .i64,.int .i64,.str])⟩,
 ad1,tyN,
 ad1,tyN,tyN,tyN,tyN,tyN,tyN,tyN,tyN,
 ⟨.strct [(0,25),(1,80),(2,4)],3,40,.agg [.v (.pointer none),.sl [] .full,.b false],none⟩,tyN,tyN,tyN,
 ⟨.slice 222,1,24,.sl [] .full,none⟩,tyN,
 ⟨.strct [(0,9),(1,4),(2,33),(3,215),(4,36)],5,96,.agg [.s [],.b false,.sl [] .full,.sl [] .full,.sl [] .full],none⟩,tyN,tyN,
 ⟨.strct [(0,3),(1,9),(2,4)],3,32,.agg [.i 0,.s [],.b false],some (1,[.int .i64,.str,.bool])⟩,tyN,
 ⟨.strct [(0,3),(1,44),(4,220)],7,72,.agg [.i 0,.i 0,.i 0,.s [],.i 0,.s [],.b false],some (2,[.int .i64,.int .i64,.int .i64,.str,.int .i64,.str,.bool])⟩,
 ⟨.int .u64,1,8,.v (.int .u64 0),some (0,[.int .u64])⟩,tyN,tyN,tyN,tyN,tyN,tyN,tyN,tyN,
 ad1,tyN,tyN,
 ⟨.ptr 238,1,8,.v (.pointer none),none⟩,
 ⟨.map 9 356,1,8,.v (.map none),none⟩,tyN,
 ⟨.strct [(0,236),(1,3)],2,16,.agg [.v (.map none),.i 0],none⟩,tyN,tyN,tyN,tyN,tyN,tyN,tyN,tyN,
 ad1,tyN,tyN,tyN,tyN,tyN,tyN,tyN,tyN,tyN,tyN,tyN,tyN,tyN,
 ⟨.ptr 314,1,8,.v (.pointer none),none⟩,tyN,tyN,tyN,tyN,
 ⟨.slice 270,1,24,.sl [] .full,none⟩,tyN,tyN,
 ⟨.strct [(0,220),(3,3),(4,44)],7,72,.agg [.i 0,.s [],.b false,.i 0,.i 0,.i 0,.s []],some (2,[.int .i64,.str,.bool,.int .i64,.int .i64,.int .i64,.str])⟩,
 ⟨.slice 269,1,24,.sl [] .full,none⟩,tyN,tyN,
 ad1,tyN,tyN,tyN,tyN,tyN,tyN,tyN,tyN,tyN,tyN,tyN,tyN,tyN,tyN,tyN,tyN,tyN,tyN,tyN,
 ⟨.slice 96,1,24,.sl [] .full,none⟩,tyN,tyN,tyN,tyN,tyN,tyN,
 ad1,tyN,tyN,
 ad1,tyN,tyN,tyN,tyN,tyN,tyN,tyN,tyN,tyN,tyN,
 ⟨.strct [(0,82),(1,3),(2,4)],3,40,.agg [.sl [] .full,.i 0,.b false],none⟩,tyN,tyN,tyN,tyN,tyN,
 ad1,
 ad1,
 ad1,tyN,tyN,tyN,tyN,tyN,tyN,tyN,tyN,tyN,tyN,
 ⟨.slice 51,1,24,.sl [] .full,none⟩,tyN,tyN,tyN,tyN,tyN,tyN,tyN,tyN,tyN,tyN,tyN,tyN,tyN,tyN,tyN,tyN,tyN,tyN,tyN,tyN,tyN,tyN,
 ⟨.strct [],0,0,default,none⟩,tyN,tyN,
 ⟨.slice 4,1,24,.sl [] .full,none⟩,tyN,tyN,tyN,tyN,tyN,tyN,tyN,tyN,tyN,tyN,tyN,
 ⟨.strct [(0,177),(1,44),(4,49)],5,64,.agg [.sl [] .full,.i 0,.i 0,.s [],.i 0],none⟩,
 ad1,tyN,tyN,tyN,tyN,tyN,tyN,tyN,tyN,tyN,tyN,tyN,tyN,tyN,tyN,tyN,
 ⟨.slice 371,1,24,.sl [] .full,none⟩,tyN,tyN,tyN,tyN,tyN,tyN,tyN,tyN,tyN,
 ad1,tyN,tyN,tyN,tyN,tyN,tyN,tyN,tyN,tyN,tyN,tyN,
 ad1,tyN,tyN,tyN,tyN,tyN,tyN,tyN,tyN,tyN,tyN,tyN,tyN,tyN,tyN]
def U(t:TypeId):TI:=NR.getD t ⟨.other,0,0,default,none⟩
theorem U3k:(U 3).k= .int .i64∧(U 3).sz=1∧(U 3).bytes=8∧(U 3).zero= .i 0:=⟨rfl,rfl,rfl,rfl⟩
theorem U4k:(U 4).k= .bool∧(U 4).sz=1∧(U 4).bytes=1∧(U 4).zero= .b false:=⟨rfl,rfl,rfl,rfl⟩
theorem U5k:(U 5).k= .int .u8∧(U 5).sz=1∧(U 5).bytes=1∧(U 5).zero= .v (.int .u8 0):=⟨rfl,rfl,rfl,rfl⟩
theorem U9k:(U 9).k= .str∧(U 9).sz=1∧(U 9).bytes=16∧(U 9).zero= .s []:=⟨rfl,rfl,rfl,rfl⟩
theorem abZ:(U 22).k= .slice 9∧(U 22).sz=1∧(U 22).bytes=24∧(U 22).zero= .sl [] .full:=⟨rfl,rfl,rfl,rfl⟩
theorem ab3:(U 23).k= .slice 3∧(U 23).sz=1∧(U 23).bytes=24∧(U 23).zero= .sl [] .full:=⟨rfl,rfl,rfl,rfl⟩
theorem ab7:(U 24).k= .ptr 126∧(U 24).sz=1∧(U 24).bytes=8∧(U 24).zero= .v (.pointer none):=⟨rfl,rfl,rfl,rfl⟩
theorem ace:(U 25).k= .ptr 121∧(U 25).sz=1∧(U 25).bytes=8∧(U 25).zero= .v (.pointer none):=⟨rfl,rfl,rfl,rfl⟩
theorem aci:(U 28).k= .slice 111∧(U 28).sz=1∧(U 28).bytes=24∧(U 28).zero= .sl [] .full:=⟨rfl,rfl,rfl,rfl⟩
theorem acn:(U 29).k= .slice 132∧(U 29).sz=1∧(U 29).bytes=24∧(U 29).zero= .sl [] .full:=⟨rfl,rfl,rfl,rfl⟩
theorem acr:(U 30).k= .slice 135∧(U 30).sz=1∧(U 30).bytes=24∧(U 30).zero= .sl [] .full:=⟨rfl,rfl,rfl,rfl⟩
theorem acw:(U 31).k= .slice 138∧(U 31).sz=1∧(U 31).bytes=24∧(U 31).zero= .sl [] .full:=⟨rfl,rfl,rfl,rfl⟩
theorem acB:(U 33).k= .slice 266∧(U 33).sz=1∧(U 33).bytes=24∧(U 33).zero= .sl [] .full:=⟨rfl,rfl,rfl,rfl⟩
theorem acF:(U 34).k= .slice 217∧(U 34).sz=1∧(U 34).bytes=24∧(U 34).zero= .sl [] .full:=⟨rfl,rfl,rfl,rfl⟩
theorem acJ:(U 35).k= .slice 38∧(U 35).sz=1∧(U 35).bytes=24∧(U 35).zero= .sl [] .full:=⟨rfl,rfl,rfl,rfl⟩
theorem acN:(U 36).k= .slice 145∧(U 36).sz=1∧(U 36).bytes=24∧(U 36).zero= .sl [] .full:=⟨rfl,rfl,rfl,rfl⟩
theorem acR:(U 38).k= .strct [(0,9),(1,4),(2,3),(3,33),(4,34),(5,35),(6,36)]∧(U 38).sz=7∧(U 38).bytes=128∧(U 38).zero= .agg [.s [],.b false,.i 0,.sl [] .full,.sl [] .full,.sl [] .full,.sl [] .full]:=⟨rfl,rfl,rfl,rfl⟩
theorem acV:(U 40).k= .strct [(0,3),(1,28),(2,29),(3,30),(4,31),(5,38),(12,3)]∧(U 40).sz=13∧(U 40).bytes=240∧(U 40).zero= .agg [.i 0,.sl [] .full,.sl [] .full,.sl [] .full,.sl [] .full,.s [],.b false,.i 0,.sl [] .full,.sl [] .full,.sl [] .full,.sl [] .full,.i 0]:=⟨rfl,rfl,rfl,rfl⟩
theorem ac0:(U 44).k= .strct [(0,3),(1,3),(2,9)]∧(U 44).sz=3∧(U 44).bytes=32∧(U 44).zero= .agg [.i 0,.i 0,.s []]∧(U 44).eq=some (1,[.int .i64,.int .i64,.str]):=⟨rfl,rfl,rfl,rfl,rfl⟩
theorem ac5:(U 46).k= .strct [(0,3),(1,9),(2,9),(3,9),(4,9),(5,44),(8,3),(9,9),(10,9),(11,4)]∧(U 46).sz=12∧(U 46).bytes=152∧(U 46).zero= .agg [.i 0,.s [],.s [],.s [],.s [],.i 0,.i 0,.s [],.i 0,.s [],.s [],.b false]∧(U 46).eq=some (2,[.int .i64,.str,.str,.str,.str,.int .i64,.int .i64,.str,.int .i64,.str,.str,.bool]):=⟨rfl,rfl,rfl,rfl,rfl⟩
theorem ac9:(U 49).k= .int .i64∧(U 49).sz=1∧(U 49).bytes=8∧(U 49).zero= .i 0:=⟨rfl,rfl,rfl,rfl⟩
theorem adf:(U 51).k= .cplx .f64∧(U 51).sz=1∧(U 51).bytes=16∧(U 51).zero= .v (.complex .f64 0 0):=⟨rfl,rfl,rfl,rfl⟩
theorem adk:(U 53).k= .strct [(0,49),(1,51),(2,4),(3,44),(6,4),(7,3)]∧(U 53).sz=8∧(U 53).bytes=80∧(U 53).zero= .agg [.i 0,.v (.complex .f64 0 0),.b false,.i 0,.i 0,.s [],.b false,.i 0]∧(U 53).eq=some (2,[.int .i64,.cplx .f64,.bool,.int .i64,.int .i64,.str,.bool,.int .i64]):=⟨rfl,rfl,rfl,rfl,rfl⟩
theorem ado:(U 55).k= .strct [(0,46),(12,3),(13,51),(14,4),(15,36)]∧(U 55).sz=16∧(U 55).bytes=208∧(U 55).zero= .agg [.i 0,.s [],.s [],.s [],.s [],.i 0,.i 0,.s [],.i 0,.s [],.s [],.b false,.i 0,.v (.complex .f64 0 0),.b false,.sl [] .full]:=⟨rfl,rfl,rfl,rfl⟩
theorem ads:(U 67).k= .slice 46∧(U 67).sz=1∧(U 67).bytes=24∧(U 67).zero= .sl [] .full:=⟨rfl,rfl,rfl,rfl⟩
theorem adw:(U 74).k= .slice 55∧(U 74).sz=1∧(U 74).bytes=24∧(U 74).zero= .sl [] .full:=⟨rfl,rfl,rfl,rfl⟩
theorem adA:(U 76).k= .int .u64∧(U 76).sz=1∧(U 76).bytes=8∧(U 76).zero= .v (.int .u64 0):=⟨rfl,rfl,rfl,rfl⟩
theorem adE:(U 80).k= .slice 82∧(U 80).sz=1∧(U 80).bytes=24∧(U 80).zero= .sl [] .full:=⟨rfl,rfl,rfl,rfl⟩
theorem adI:(U 82).k= .slice 5∧(U 82).sz=1∧(U 82).bytes=24∧(U 82).zero= .sl [] .full:=⟨rfl,rfl,rfl,rfl⟩
theorem adM:(U 96).k= .strct [(0,51),(1,36)]∧(U 96).sz=2∧(U 96).bytes=40∧(U 96).zero= .agg [.v (.complex .f64 0 0),.sl [] .full]:=⟨rfl,rfl,rfl,rfl⟩
theorem YS:(U 100).k= .slice 180∧(U 100).sz=1∧(U 100).bytes=24∧(U 100).zero= .sl [] .full:=⟨rfl,rfl,rfl,rfl⟩
theorem YW:(U 108).k= .slice 199∧(U 108).sz=1∧(U 108).bytes=24∧(U 108).zero= .sl [] .full:=⟨rfl,rfl,rfl,rfl⟩
theorem Y0:(U 109).k= .slice 189∧(U 109).sz=1∧(U 109).bytes=24∧(U 109).zero= .sl [] .full:=⟨rfl,rfl,rfl,rfl⟩
theorem Y4:(U 111).k= .strct [(0,9),(1,9),(2,9),(3,108),(4,109)]∧(U 111).sz=5∧(U 111).bytes=96∧(U 111).zero= .agg [.s [],.s [],.s [],.sl [] .full,.sl [] .full]:=⟨rfl,rfl,rfl,rfl⟩
theorem Y8:(U 121).k= .strct [(0,3),(1,82),(2,3),(3,3),(4,4)]∧(U 121).sz=5∧(U 121).bytes=56∧(U 121).zero= .agg [.i 0,.sl [] .full,.i 0,.i 0,.b false]:=⟨rfl,rfl,rfl,rfl⟩
theorem Zc:(U 122).k= .ptr 211∧(U 122).sz=1∧(U 122).bytes=8∧(U 122).zero= .v (.pointer none):=⟨rfl,rfl,rfl,rfl⟩
theorem Zg:(U 126).k= .strct [(0,122),(1,40),(14,74),(15,76)]∧(U 126).sz=16∧(U 126).bytes=280∧(U 126).zero= .agg [.v (.pointer none),.i 0,.sl [] .full,.sl [] .full,.sl [] .full,.sl [] .full,.s [],.b false,.i 0,.sl [] .full,.sl [] .full,.sl [] .full,.sl [] .full,.i 0,.sl [] .full,.v (.int .u64 0)]:=⟨rfl,rfl,rfl,rfl⟩
theorem Zl:(U 132).k= .strct [(0,3),(1,3),(2,9),(3,9),(4,9),(5,9),(6,4)]∧(U 132).sz=7∧(U 132).bytes=88∧(U 132).zero= .agg [.i 0,.i 0,.s [],.s [],.s [],.s [],.b false]∧(U 132).eq=some (1,[.int .i64,.int .i64,.str,.str,.str,.str,.bool]):=⟨rfl,rfl,rfl,rfl,rfl⟩
theorem Zq:(U 135).k= .strct [(0,3),(1,9),(2,9)]∧(U 135).sz=3∧(U 135).bytes=40∧(U 135).zero= .agg [.i 0,.s [],.s []]∧(U 135).eq=some (1,[.int .i64,.str,.str]):=⟨rfl,rfl,rfl,rfl,rfl⟩
theorem Zv:(U 138).k= .strct [(0,9),(1,9)]∧(U 138).sz=2∧(U 138).bytes=32∧(U 138).zero= .agg [.s [],.s []]∧(U 138).eq=some (1,[.str,.str]):=⟨rfl,rfl,rfl,rfl,rfl⟩
theorem ZA:(U 145).k= .strct [(0,3),(1,3),(2,9)]∧(U 145).sz=3∧(U 145).bytes=32∧(U 145).zero= .agg [.i 0,.i 0,.s []]∧(U 145).eq=some (1,[.int .i64,.int .i64,.str]):=⟨rfl,rfl,rfl,rfl,rfl⟩
theorem ZE:(U 152).k= .int .u32∧(U 152).sz=1∧(U 152).bytes=4∧(U 152).zero= .v (.int .u32 0):=⟨rfl,rfl,rfl,rfl⟩
theorem ZI:(U 154).k= .slice 162∧(U 154).sz=1∧(U 154).bytes=24∧(U 154).zero= .sl [] .full:=⟨rfl,rfl,rfl,rfl⟩
theorem ZM:(U 159).k= .strct [(0,154),(1,3),(2,3),(3,49),(4,3)]∧(U 159).sz=5∧(U 159).bytes=56∧(U 159).zero= .agg [.sl [] .full,.i 0,.i 0,.i 0,.i 0]:=⟨rfl,rfl,rfl,rfl⟩
theorem ZQ:(U 162).k= .strct [(0,3),(1,3),(2,3),(3,9)]∧(U 162).sz=4∧(U 162).bytes=40∧(U 162).zero= .agg [.i 0,.i 0,.i 0,.s []]:=⟨rfl,rfl,rfl,rfl⟩
theorem ZU:(U 177).k= .slice 44∧(U 177).sz=1∧(U 177).bytes=24∧(U 177).zero= .sl [] .full:=⟨rfl,rfl,rfl,rfl⟩
theorem ZY:(U 180).k= .strct [(0,3),(1,9),(2,177)]∧(U 180).sz=3∧(U 180).bytes=48∧(U 180).zero= .agg [.i 0,.s [],.sl [] .full]:=⟨rfl,rfl,rfl,rfl⟩
theorem Z5:(U 189).k= .strct [(0,3),(1,9),(2,9)]∧(U 189).sz=3∧(U 189).bytes=40∧(U 189).zero= .agg [.i 0,.s [],.s []]∧(U 189).eq=some (1,[.int .i64,.str,.str]):=⟨rfl,rfl,rfl,rfl,rfl⟩
theorem aaa:(U 199).k= .strct [(0,9),(1,44)]∧(U 199).sz=4∧(U 199).bytes=48∧(U 199).zero= .agg [.s [],.i 0,.i 0,.s []]∧(U 199).eq=some (2,[.str,.int .i64,.int .i64,.str]):=⟨rfl,rfl,rfl,rfl,rfl⟩
theorem aae:(U 211).k= .strct [(0,25),(1,80),(2,4)]∧(U 211).sz=3∧(U 211).bytes=40∧(U 211).zero= .agg [.v (.pointer none),.sl [] .full,.b false]:=⟨rfl,rfl,rfl,rfl⟩
theorem aai:(U 215).k= .slice 222∧(U 215).sz=1∧(U 215).bytes=24∧(U 215).zero= .sl [] .full:=⟨rfl,rfl,rfl,rfl⟩
theorem aam:(U 217).k= .strct [(0,9),(1,4),(2,33),(3,215),(4,36)]∧(U 217).sz=5∧(U 217).bytes=96∧(U 217).zero= .agg [.s [],.b false,.sl [] .full,.sl [] .full,.sl [] .full]:=⟨rfl,rfl,rfl,rfl⟩
theorem aar:(U 220).k= .strct [(0,3),(1,9),(2,4)]∧(U 220).sz=3∧(U 220).bytes=32∧(U 220).zero= .agg [.i 0,.s [],.b false]∧(U 220).eq=some (1,[.int .i64,.str,.bool]):=⟨rfl,rfl,rfl,rfl,rfl⟩
theorem aaw:(U 222).k= .strct [(0,3),(1,44),(4,220)]∧(U 222).sz=7∧(U 222).bytes=72∧(U 222).zero= .agg [.i 0,.i 0,.i 0,.s [],.i 0,.s [],.b false]∧(U 222).eq=some (2,[.int .i64,.int .i64,.int .i64,.str,.int .i64,.str,.bool]):=⟨rfl,rfl,rfl,rfl,rfl⟩
theorem aaA:(U 223).k= .int .u64∧(U 223).sz=1∧(U 223).bytes=8∧(U 223).zero= .v (.int .u64 0):=⟨rfl,rfl,rfl,rfl⟩
theorem aaE:(U 236).k= .map 9 356∧(U 236).sz=1∧(U 236).bytes=8∧(U 236).zero= .v (.map none):=⟨rfl,rfl,rfl,rfl⟩
theorem aaI:(U 238).k= .strct [(0,236),(1,3)]∧(U 238).sz=2∧(U 238).bytes=16∧(U 238).zero= .agg [.v (.map none),.i 0]:=⟨rfl,rfl,rfl,rfl⟩
theorem aaM:(U 266).k= .slice 270∧(U 266).sz=1∧(U 266).bytes=24∧(U 266).zero= .sl [] .full:=⟨rfl,rfl,rfl,rfl⟩
theorem aaR:(U 269).k= .strct [(0,220),(3,3),(4,44)]∧(U 269).sz=7∧(U 269).bytes=72∧(U 269).zero= .agg [.i 0,.s [],.b false,.i 0,.i 0,.i 0,.s []]∧(U 269).eq=some (2,[.int .i64,.str,.bool,.int .i64,.int .i64,.int .i64,.str]):=⟨rfl,rfl,rfl,rfl,rfl⟩
theorem aaV:(U 270).k= .slice 269∧(U 270).sz=1∧(U 270).bytes=24∧(U 270).zero= .sl [] .full:=⟨rfl,rfl,rfl,rfl⟩
theorem aaZ:(U 293).k= .slice 96∧(U 293).sz=1∧(U 293).bytes=24∧(U 293).zero= .sl [] .full:=⟨rfl,rfl,rfl,rfl⟩
theorem aa3:(U 314).k= .strct [(0,82),(1,3),(2,4)]∧(U 314).sz=3∧(U 314).bytes=40∧(U 314).zero= .agg [.sl [] .full,.i 0,.b false]:=⟨rfl,rfl,rfl,rfl⟩
theorem aa7:(U 333).k= .slice 51∧(U 333).sz=1∧(U 333).bytes=24∧(U 333).zero= .sl [] .full:=⟨rfl,rfl,rfl,rfl⟩
theorem aba:(U 356).k= .strct []∧(U 356).sz=0:=⟨rfl,rfl⟩
theorem abd:(U 359).k= .slice 4∧(U 359).sz=1∧(U 359).bytes=24∧(U 359).zero= .sl [] .full:=⟨rfl,rfl,rfl,rfl⟩
theorem abh:(U 371).k= .strct [(0,177),(1,44),(4,49)]∧(U 371).sz=5∧(U 371).bytes=64∧(U 371).zero= .agg [.sl [] .full,.i 0,.i 0,.s [],.i 0]:=⟨rfl,rfl,rfl,rfl⟩
theorem abl:(U 388).k= .slice 371∧(U 388).sz=1∧(U 388).bytes=24∧(U 388).zero= .sl [] .full:=⟨rfl,rfl,rfl,rfl⟩
theorem hU:∀t,aP Tryz.prog U t:=IZ 425 ad7 fun t ht=>by
 unfold U;rw[List.getD_eq_getElem?_getD,List.getElem?_eq_none (show NR.length≤t from ht)]
 rfl
theorem hm:Tryz.prog.follows .mixedOrders=true:=ad7
attribute [go_sem] U3k U4k U5k U9k abZ ab3 ab7 ace aci acn acr acw acB acF acJ acN acR acV ac0 ac5 ac9 adf adk ado ads adw adA adE adI adM YS YW Y0 Y4 Y8 Zc Zg Zl Zq Zv ZA ZE ZI ZM ZQ ZU ZY Z5 aaa aae aai aam aar aaw aaA aaE aaI aaM aaR aaV aaZ aa3 aa7 aba abd abh abl
end Go.Proofs.YtokahfmoollblaaGreatDoor
namespace Go.Proofs.YtokahfmoollblaaGreatDoor
open Go Go.Ab Go.Bf Tryz
theorem ad2 {f:FuncId} {fn:Func} {c:Code} {args:List AV} {h:Heap} {Q:AV→Heap→Prop} (hf:prog.funcs[f]? =some fn) (m:Nat) (rs:List ResultVar) (hk:(∀x∈args,wfA x)→aW prog U m c (yD args) h (wh U rs Q)) (hb:fn.body=some c:=by exact rfl) (hn:(fn.name=="runtime.NumGoroutine")=false:=by kernel_rfl) (h1:fn.ntmps=m:=by exact rfl) (h2:fn.results.toList=rs:=by exact rfl) (hl:args.length≤m:=by exact Nat.le_of_ble_eq_true rfl):ai prog f args h Q:=ai.body hU hm hf hb hn m h1 rs h2 hl hk
theorem pX(l:Txt)(h:Heap):ai prog 89 [.s l] h fun r h' =>r= .b (bw l)∧h' =h:=by
 refine ad2 func89 49 [.tmp 2] fun hwf=>?_
 simp only[go_sem];refine .intro (fun m ρ h' =>h' =h∧∃i:Nat,i≤l.length∧m=l.length - i∧wo (l.take i)=true∧lk ρ 0=some (.s l)∧lk ρ 8=some (.i l.length)∧lk ρ 9=some (.i i)) l.length ?_ ?_
 ·refine⟨rfl,0,ad3,rfl,rfl,?_,?_,?_⟩<;>simp only[go_sem]
 ·rintro m ρ h' ⟨rfl,i,hi,rfl,hc,r0,r8,r9⟩
  simp only[go_sem,r8,r9];refine .intro (fun e=>?_) (fun e=>?_)
  ·have hlt:i<l.length:=ad0 e
   have w1:IntKind.i64.wrap ((i:Int)+1)=((i+1:Nat):Int):=by rw[aY _ (by have:=hwf (.s l) aea;simp only[wfA,wf1,lim]at this;omega)];omega
   have w0:IntKind.i64.wrap (0+1)=1:=rfl;have hb:=Ja l i hlt;have hg:=FI l i hlt;rw[hc]at hg;have hcl:=OF l[i];have h255:=l[i].toNat_lt;simp only[go_sem,r0,r9];refine .at i hlt ?_;generalize hcc:l[i]=c at hb hg hcl h255⊢
   by_cases hi0:i=0
   ·subst hi0
    rcases hcl with⟨a1,a2,a3,a4,a5⟩|⟨a1,a2,a3,a4,a5⟩|⟨a1,a2,a3,a4,a5⟩|⟨a1,a2,a3,a4,a5⟩|⟨a1,a2,a3,a4,a5⟩|⟨a1,a2,a3,a4,a5⟩
    ·simp only[go_sem,r9,a1,a2,a3,a4,a5,w0]
     refine⟨_,?_,rfl,0+1,ad3,rfl,by simp[hg,tN,ltr,a1,a2],?_,?_,?_⟩
     ·omega
     all_goals simp only[go_sem,r0,r8]
    all_goals
     simp only[go_sem,a1,a2,a3,a4,a5];exact .same (.refl _) ⟨by simp[bw,hb (by simp[tN,ltr,a1,a2]),au],rfl⟩
   ·have hin:((i:Int)==0)=false:=by simp;omega
    rcases hcl with⟨a1,a2,a3,a4,a5⟩|⟨a1,a2,a3,a4,a5⟩|⟨a1,a2,a3,a4,a5⟩|⟨a1,a2,a3,a4,a5⟩|⟨a1,a2,a3,a4,a5⟩|⟨a1,a2,a3,a4,a5⟩
    ·simp only[go_sem,r9,a1,a2,a3,a4,a5,w1]
     exact aiP
    ·simp only[go_sem,r9,a1,a3,a4,w1,hin]
     exact aiP
    ·simp only[go_sem,r9,a1,a3,a4,a5,w1,hin]
     exact aiP
    ·simp only[go_sem,a1,a3,a5,hin]
     exact .same (.refl _) ⟨afI,rfl⟩
    ·simp only[go_sem,a1,a3,a4,a5,hin]
     exact .same (.refl _) ⟨afI,rfl⟩
    ·simp only[go_sem,a1,a2,a3,a4,a5,hin]
     exact .same (.refl _) ⟨afI,rfl⟩
  ·have hge:i=l.length:=by have:=adW e;omega
   subst hge;rw[List.take_length]at hc
   by_cases h0:l= []
   ·subst h0
    have b0:((([]:Txt)== [])=true):=rfl;simp only[go_sem,r0,b0];exact aeh
   ·have b0:(l== [])=false:=by simpa using h0
    have hp:1≤l.length:=List.length_pos_iff.2 h0;simp only[go_sem,r0,b0];exact .same (.refl _) ⟨by simp[bw,hc,au,hp];omega,rfl⟩
theorem HF(a:qK)(h:Heap):ai prog 311 [Df a] h fun r h' =>r= .b (qP a)∧h' =h:=by
 refine ad2 func311 16 [.tmp 2] fun hwf=>?_
 simp only[go_sem,Df];intro id hid;cases d1:decide (1≤a.cat)
 ·simp only[go_sem,d1]
  exact ajr
 cases d2:decide (a.cat≤4)
 ·simp only[go_sem,d1,d2]
  exact ajr
 simp only[go_sem,d1,d2];refine(pX _ _).pthen ?_;simp only[go_sem];exact ajr
theorem gK(v:bB)(h:Heap):ai prog 92 [aV v] h fun r h' =>r= .b (bH v)∧h' =h:=by
 refine ad2 func92 61 [.tmp 2] fun hwf=>?_
 simp only[go_sem,aV];intro id hid;cases k1:(v.kind==1)
 case true=>
  have e1:v.kind=1:=ad4;cases d1:(v.n==0)<;>cases d2:(v.n==1)
  ·simp only[go_sem,k1,d1,d2]
   exact .mk _ (.refl _) (.ak hid) ⟨ahk,rfl⟩
  all_goals
   simp only[go_sem,k1,d1,d2];exact .mk _ (.refl _) (.ak hid) ⟨ahk,rfl⟩
 have n1:v.kind≠1:=ad4;cases k2:(v.kind==2)
 case true=>have e1:v.kind=2:=ad4;simp only[go_sem,k1,k2];exact .mk _ (.refl _) (.ak hid) ⟨ahk,rfl⟩
 have n2:v.kind≠2:=ad4;cases k3:(v.kind==3)
 case true=>
  have e1:v.kind=3:=ad4;cases d1:(v.n==0)
  all_goals
   simp only[go_sem,k1,k2,k3,d1];exact .mk _ (.refl _) (.ak hid) ⟨by simp[bH,e1,d1,au]<;>omega,rfl⟩
 have n3:v.kind≠3:=ad4;cases k4:(v.kind==4)
 case true=>
  have e1:v.kind=4:=ad4;cases d1:decide (0≤v.n)<;>cases d2:decide (v.n≤1099511627776)
  all_goals
   simp only[go_sem,k1,k2,k3,k4,d1,d2];exact .mk _ (.refl _) (.ak hid) ⟨ahk,rfl⟩
 have n4:v.kind≠4:=ad4;cases k5:(v.kind==5)
 case true=>
  have e1:v.kind=5:=ad4;cases d1:(v.n==0)
  ·simp only[go_sem,k1,k2,k3,k4,k5,d1]
   exact .mk _ (.refl _) (.ak hid) ⟨ahk,rfl⟩
  ·simp only[go_sem,k1,k2,k3,k4,k5,d1]
   refine(pX _ _).pthen ?_;simp only[go_sem];exact .mk _ (.refl _) (.ak hid) ⟨ahk,rfl⟩
 have n5:v.kind≠5:=ad4;simp only[go_sem,k1,k2,k3,k4,k5];exact .mk _ (.refl _) (.ak hid) ⟨ahk,rfl⟩
theorem ML(m:bR)(h:Heap):ai prog 310 [cW m] h fun r h' =>r= .b (lE m)∧h' =h:=by
 refine ad2 func310 21 [.tmp 2] fun hwf=>?_
 simp only[go_sem,cW];intro id hid;simp only[go_sem];refine(HF m.attr _).pthen ?_;cases d0:qP m.attr
 ·simp only[go_sem]
  exact ai3
 cases d1:decide (1≤m.op)
 ·simp only[go_sem,d1]
  exact ai3
 cases d2:decide (m.op≤3)
 ·simp only[go_sem,d1,d2]
  exact ai3
 simp only[go_sem,d1,d2];refine(gK m.val _).pthen ?_;simp only[go_sem];exact ai3
theorem Ih(n:Nat)(h:Heap):ai prog 294 [.i n] h fun r h' =>r= .i (kR n)∧h' =h:=by
 refine ad2 func294 9 [.tmp 2] fun hwf=>?_
 cases d1:((n:Int)==0)
 case true=>simp only[go_sem,d1];exact .same (.refl _) ⟨by grind [kR,au],rfl⟩
 cases d2:decide (8<(n:Int))
 ·have e2:¬n>8:=by grind
  exact ajJ
 ·have e2:n>8:=by grind
  exact ajJ
theorem Ej{n:Nat}(h:kR n=0):1≤n∧n≤8:=by grind [kR]
theorem Lo(l:List bR)(h:Heap):ai prog 295 [gm l] h fun r h' =>r= .i (xl l)∧h' =h:=by
 refine ad2 func295 22 [.tmp 2] fun hwf=>?_
 simp only[go_sem,gm,adT];refine(Ih _ _).pthen ?_;cases d1:(kR l.length !=0)
 case true=>have e1:kR l.length≠0:=ad4;simp only[go_sem,d1];exact .same (.refl _) ⟨by grind [xl,au],rfl⟩
 have e1:kR l.length=0:=ad4;have hlen:=Ej e1;simp only[go_sem,d1,adT];refine .intro (fun m ρ h' =>Ab.Sub h h'∧∃i:Nat,i≤l.length∧m=l.length - i∧(l.take i).all lE=true∧lk ρ 12=some (gm l)∧lk ρ 13=some (.i l.length)∧lk ρ 14=some (.i i)) l.length ?_ ?_
 ·refine⟨.refl _,0,ad3,rfl,rfl,?_,?_,?_⟩<;>simp only[go_sem,gm]
 ·rintro m ρ h' ⟨hs,i,hi,rfl,hc,r12,r13,r14⟩
  simp only[go_sem,r13,r14];refine .intro (fun e=>?_) (fun e=>?_)
  ·have hlt:i<l.length:=ad0 e
   have w1:IntKind.i64.wrap ((i:Int)+1)=((i+1:Nat):Int):=aeg;simp only[go_sem,r12,r14,gm];refine .at i ad4 aec ?_;simp only[go_sem,adU,cW];intro id hid;simp only[go_sem];refine(ML l[i] _).pthen ?_;cases d2:lE l[i]
   ·simp only[go_sem]
    refine .mk _ (.refl _) (hs.new hid _) ⟨?_,rfl⟩;have:l.all lE=false:=List.all_eq_false.2 ⟨_,adY hlt,ad4⟩;simp[xl,e1,this,au]
   ·simp only[go_sem,r14,w1]
    refine⟨_,?_,hs.new hid _,i+1,ad3,rfl,?_,?_,?_,?_⟩
    ·omega
    ·grind [List.take_succ_eq_append_getElem]
    all_goals simp only[go_sem,r12,r13,gm]
  ·have hge:i=l.length:=by grind
   subst hge;rw[List.take_length]at hc;simp only[go_sem];exact .mk _ (.refl _) hs ⟨by grind [xl,au],rfl⟩
theorem aB{h:Heap}{i j:Nat}{b:Blk}(e:upd h i (some b) j=none):h j=none:=by grind [ag,aF]
theorem NY{v:bB}(h:(v.kind==(0:Int) && (v.n==(0:Int) && v.s==([]:Txt)))=false):¬v.kind=0∨¬v.n=0∨¬v.s= []:=by grind
theorem NX{v:bB}(h:(v.kind==(0:Int) && (v.n==(0:Int) && v.s==([]:Txt)))=true):v.kind=0∧v.n=0∧v.s= []:=by grind
theorem Kf(k:Int)(h:Heap):ai prog 148 [.i k] h fun r h' =>r= .b (vE k)∧h' =h:=by
 refine ad2 func148 9 [.tmp 2] fun hwf=>?_
 cases d1:decide (1≤k)
 ·simp only[go_sem,d1]
  exact .same (.refl _) ⟨by simp only[vE,d1,au,Bool.false_and],rfl⟩
 ·simp only[go_sem,d1]
  exact .same (.refl _) ⟨by simp_all [vE,au,Bool.true_and],rfl⟩
theorem yA(s:Txt)(h:Heap):ai prog 91 [.s s] h fun r h' =>r= .b (jg s)∧h' =h:=by
 refine ad2 func91 9 [.tmp 2] fun hwf=>?_
 cases d1:(s==([]:Txt))
 ·simp only[go_sem,d1]
  refine(pX s h).pthen ?_;simp only[go_sem];exact .same (.refl _) ⟨by simp_all [jg,au,Bool.false_or],rfl⟩
 ·simp only[go_sem,d1]
  exact .same (.refl _) ⟨by simp_all [jg,au,Bool.true_or],rfl⟩
theorem Ga(a b:Txt)(h:Heap):ai prog 152 [.s a,.s b] h fun r h' =>r= .b (ng a b)∧h' =h:=by
 refine ad2 func152 22 [.tmp 4] fun hwf=>?_
 cases d1:(a==jQ)<;>cases d2:(a==xj)<;>cases d3:(a==A6)<;>cases d4:(b==xj)<;>simp only[jQ,xj,A6]at d1 d2 d3 d4<;>simp only[go_sem,d1,d2,d3,d4]<;>
  exact .same (.refl _) ⟨by simp only[ng,d1,d2,d3,d4,au,jQ,xj,A6,iB,if_true,Bool.false_eq_true,if_false,Bool.true_or,Bool.false_or],rfl⟩
theorem AT(k:Int)(hk:i64 k)(h:Heap):ai prog 87 [.i k] h fun r h' =>r= .s (jY k)∧h' =h:=by
 refine ad2 func87 18 [.tmp 2] fun hwf=>?_
 simp only[go_sem];cases d1:decide (k<1)
 case true=>simp only[go_sem];exact .same (.refl _) ⟨by simp_all [jY,adV,true_or,if_true,au],rfl⟩
 cases d2:decide ((7:Int)<k)
 case true=>simp only[go_sem,d2];exact .same (.refl _) ⟨by simp_all [jY,adV,or_true,if_true,au],rfl⟩
 have h1:=adW d1;have h2:=adW d2;obtain⟨j,rfl⟩:∃j:Nat,k=(j:Int)+1:=⟨(k - 1).toNat,ad3⟩;have hj:j<7:=ad3;have w1:IntKind.i64.wrap ((j:Int)+1 - 1)=(j:Int):=aeg;simp only[go_sem,d2,w1];refine .at j ad3 (by rcases j with _|_|_|_|_|_|_|j<;>first|rfl|omega) ?_
 rcases j with _|_|_|_|_|_|_|j
 all_goals first|omega|skip
 all_goals
  simp only[go_sem,List.getElem_cons_zero,List.getElem_cons_succ];exact .same (.refl _) ⟨aei,rfl⟩
theorem Kr(o:OpD)(h:Heap):ai prog 90 [opA o] h fun r h' =>r= .v (.bool (mK o))∧h' =h:=by
 refine ad2 func90 23 [.tmp 2] fun hwf=>?_
 simp only[go_sem,opA,opC];intro id hid;cases d1:o.glass
 ·simp only[go_sem]
  exact ajs
 simp only[go_sem];refine(Kf _ _).pthen ?_;cases d2:vE o.kind
 ·simp only[go_sem]
  exact ajs
 cases d3:(o.reason==([]:Txt))
 ·simp only[go_sem,d3]
  exact .mk _ (.refl _) (.ak hid) ⟨by
   simp only[mK,d1,d2,d3,au,if_true,Bool.not_false,Bool.true_and]
   congr 2
   grind,rfl⟩
 ·simp only[go_sem,d3]
  exact ajs
theorem OA(o:OpD)(h:Heap):ai prog 149 [opA o] h fun r h' =>r=opA (iq o)∧h' =h:=by
 refine ad2 func149 7 [.cell 2 46] fun hwf=>?_
 simp only[go_sem,opA,opC];intro i1 h1;simp only[go_sem];intro i2 h2;have hne:=aF h2;simp only[go_sem,aj,hne,hne.symm];have n2:=aB h2;exact .mk _ (.refl _) (((((Sub.refl h).put h1 _).put n2 _).put h1 _).put n2 _) ⟨rfl,rfl⟩
theorem NK(o:OpD)(h:Heap):ai prog 93 [opA o] h fun r h' =>r= .b (dX o)∧h' =h:=by
 have hb:=fun hh=>OA o hh
 simp only[iq,opA,opC]at hb;refine ad2 func93 111 [.tmp 2] fun hwf=>?_
 simp only[go_sem,opA,opC];intro i1 h1;simp only[go_sem];refine(hb _).pthen ?_;simp only[go_sem];intro i3 h3;have n31:=aF h3;have n3:=aB h3;simp only[go_sem,aj,n31.symm];intro i4 h4;have n43:=aF h4;have h4' :=aB h4;have n41:=aF h4';have n4:=aB h4';have bnd:o.kind≠1→o.kind≠2→o.kind≠3→o.kind≠4→o.kind≠5→o.kind≠6→o.kind≠7→o.kind≠8→(decide (1≤o.kind) && decide (o.kind≤8))=false:=by intro a1 a2 a3 a4 a5 a6 a7 a8;simp only[Bool.and_eq_false_iff,decide_eq_false_iff_not];omega
 by_cases k1:o.kind=1
 ·simp only[go_sem,aj,n31.symm,n41.symm,k1]
  cases dcase:(o.case==([]:Txt))
  ·simp only[go_sem,aj,n43.symm]
   exact .mk _ (.refl _) ad9 ⟨by simp[dX,okD,jb,iq,nE,ax,au,k1,decide_true,dcase,Bool.and_true,Bool.true_and,Bool.not_false],rfl⟩
  ·simp only[go_sem]
   exact .mk _ (.refl _) ad9 ⟨by simp[dX,okD,jb,iq,nE,ax,au,k1,decide_true,dcase,Bool.and_true,Bool.true_and,Bool.false_and,Bool.and_false,Bool.not_true],rfl⟩
 by_cases k2:o.kind=2
 ·simp only[go_sem,aj,n31.symm,n41.symm,k2,Int.reduceBEq]
  refine .calls (hm1 i1 _) [0,1,2,3,4,5,6,7] (.hm1 afK) ad7 rfl ?_;simp only[go_sem,aj,n31.symm,n41.symm];refine⟨(.hm1 aer),(.hm1 aer),?_⟩;cases dcase:(o.case==([]:Txt))
  ·simp only[go_sem,aj,n31.symm,n41.symm]
   cases dfield:(o.field==([]:Txt))
   ·simp only[go_sem,aj,n43.symm]
    exact .mk _ (.refl _) ad9 ⟨by simp[dX,okD,jb,iq,nE,ax,au,k2,decide_true,dcase,dfield,Bool.and_true,Bool.true_and,Bool.not_false],rfl⟩
   ·simp only[go_sem]
    exact .mk _ (.refl _) ad9 ⟨by simp[dX,okD,jb,iq,nE,ax,au,k2,decide_true,dcase,dfield,Bool.and_true,Bool.true_and,Bool.false_and,Bool.and_false,Bool.not_true,Bool.not_false],rfl⟩
  ·simp only[go_sem]
   exact .mk _ (.refl _) ad9 ⟨by simp[dX,okD,jb,iq,nE,ax,au,k2,decide_true,dcase,Bool.and_true,Bool.true_and,Bool.false_and,Bool.and_false,Bool.not_true],rfl⟩
 by_cases k6:o.kind=6
 ·simp only[go_sem,aj,n31.symm,n41.symm,k6,Int.reduceBEq]
  refine .calls (hm1 i1 _) [0,1,2,3,4,5,6,7] (.hm1 afK) ad7 rfl ?_;simp only[go_sem,aj,n31.symm,n41.symm];refine⟨(.hm1 aer),(.hm1 aer),?_⟩;cases dcase:(o.case==([]:Txt))
  ·simp only[go_sem,aj,n31.symm,n41.symm]
   cases dfield:(o.field==([]:Txt))
   ·simp only[go_sem,aj,n43.symm]
    exact .mk _ (.refl _) ad9 ⟨by simp[dX,okD,jb,iq,nE,ax,au,k6,decide_true,dcase,dfield,Bool.and_true,Bool.true_and,Bool.not_false],rfl⟩
   ·simp only[go_sem]
    exact .mk _ (.refl _) ad9 ⟨by simp[dX,okD,jb,iq,nE,ax,au,k6,decide_true,dcase,dfield,Bool.and_true,Bool.true_and,Bool.false_and,Bool.and_false,Bool.not_true,Bool.not_false],rfl⟩
  ·simp only[go_sem]
   exact .mk _ (.refl _) ad9 ⟨by simp[dX,okD,jb,iq,nE,ax,au,k6,decide_true,dcase,Bool.and_true,Bool.true_and,Bool.false_and,Bool.and_false,Bool.not_true],rfl⟩
 by_cases k3:o.kind=3
 ·simp only[go_sem,aj,n31.symm,n41.symm,k3,Int.reduceBEq]
  refine .calls (hm1 i1 _) [0,1,2,3,4,5,6,7,8,9,10,11] (.hm1 afK) ad7 rfl ?_;simp only[go_sem,aj,n31.symm,n41.symm];refine⟨(.hm1 aer),(.hm1 aer),(.hm1 aer),?_⟩;cases dcase:(o.case==([]:Txt))
  ·simp only[go_sem,aj,n31.symm,n41.symm]
   cases dfield:(o.field==([]:Txt))
   ·simp only[go_sem,aj,n31.symm,n41.symm]
    cases dval:(o.val.kind==(0:Int) && (o.val.n==(0:Int) && o.val.s==([]:Txt)))
    ·simp only[go_sem,aj,n43.symm]
     exact .mk _ (.refl _) ad9 ⟨aex,rfl⟩
    ·simp only[go_sem]
     exact .mk _ (.refl _) ad9 ⟨aex,rfl⟩
   ·simp only[go_sem]
    exact .mk _ (.refl _) ad9 ⟨by simp[dX,okD,jb,iq,nE,eqV,ax,au,k3,decide_true,dcase,dfield,Bool.and_true,Bool.true_and,Bool.false_and,Bool.and_false,Bool.not_true,Bool.not_false],rfl⟩
  ·simp only[go_sem]
   exact .mk _ (.refl _) ad9 ⟨by simp[dX,okD,jb,iq,nE,eqV,ax,au,k3,decide_true,dcase,Bool.and_true,Bool.true_and,Bool.false_and,Bool.and_false,Bool.not_true],rfl⟩
 by_cases k4:o.kind=4
 ·simp only[go_sem,aj,n31.symm,n41.symm,k4,Int.reduceBEq]
  refine .calls (hm1 i1 _) [0,1,2,3,4,5,6,7] (.hm1 afK) ad7 rfl ?_;simp only[go_sem,aj,n31.symm,n41.symm];refine⟨(.hm1 aer),(.hm1 aer),?_⟩;cases dcase:(o.case==([]:Txt))
  ·simp only[go_sem,aj,n31.symm,n41.symm]
   cases dto:(o.to==([]:Txt))
   ·simp only[go_sem,aj,n43.symm]
    exact .mk _ (.refl _) ad9 ⟨by simp[dX,okD,jb,iq,nE,ax,au,k4,decide_true,dcase,dto,Bool.and_true,Bool.true_and,Bool.not_false],rfl⟩
   ·simp only[go_sem]
    exact .mk _ (.refl _) ad9 ⟨by simp[dX,okD,jb,iq,nE,ax,au,k4,decide_true,dcase,dto,Bool.and_true,Bool.true_and,Bool.false_and,Bool.and_false,Bool.not_true,Bool.not_false],rfl⟩
  ·simp only[go_sem]
   exact .mk _ (.refl _) ad9 ⟨by simp[dX,okD,jb,iq,nE,ax,au,k4,decide_true,dcase,Bool.and_true,Bool.true_and,Bool.false_and,Bool.and_false,Bool.not_true],rfl⟩
 by_cases k5:o.kind=5
 ·simp only[go_sem,aj,n31.symm,n41.symm,k5,Int.reduceBEq]
  cases drev0:decide ((0:Int)<o.review)
  ·simp only[go_sem]
   exact .mk _ (.refl _) ad9 ⟨by simp[dX,okD,jb,iq,nE,ax,au,k5,decide_true,drev0,Bool.and_true,Bool.true_and,Bool.false_and,Bool.and_false],rfl⟩
  ·simp only[go_sem,aj,n43.symm]
   exact .mk _ (.refl _) ad9 ⟨by simp[dX,okD,jb,iq,nE,ax,au,k5,decide_true,drev0,Bool.and_true,Bool.true_and],rfl⟩
 by_cases k7:o.kind=7
 ·simp only[go_sem,aj,n31.symm,n43.symm,n41.symm,k7,Int.reduceBEq]
  exact .mk _ (.refl _) ad9 ⟨by simp[dX,okD,jb,iq,nE,ax,au,k7,decide_true,Bool.and_true,Bool.true_and],rfl⟩
 by_cases k8:o.kind=8
 ·simp only[go_sem,aj,n31.symm,n41.symm,k8,Int.reduceBEq]
  cases drev0:decide ((0:Int)<o.review)
  ·simp only[go_sem]
   exact .mk _ (.refl _) ad9 ⟨by simp[dX,okD,jb,iq,nE,ax,au,k8,decide_true,drev0,Bool.and_true,Bool.true_and,Bool.false_and,Bool.and_false],rfl⟩
  ·simp only[go_sem,aj,n31.symm,n41.symm]
   cases drev1:decide (o.review≤(1099511627776:Int))
   ·simp only[go_sem]
    exact .mk _ (.refl _) ad9 ⟨by simp[dX,okD,jb,iq,nE,ax,au,k8,decide_true,drev0,drev1,Bool.and_true,Bool.true_and,Bool.false_and,Bool.and_false],rfl⟩
   ·simp only[go_sem,aj,n43.symm]
    exact .mk _ (.refl _) ad9 ⟨by simp[dX,okD,jb,iq,nE,ax,au,k8,decide_true,drev0,drev1,Bool.and_true,Bool.true_and],rfl⟩
 simp only[go_sem,aj,n31.symm,n41.symm,beq_eq_false_iff_ne.2 k1,beq_eq_false_iff_ne.2 k2,beq_eq_false_iff_ne.2 k6,beq_eq_false_iff_ne.2 k3,beq_eq_false_iff_ne.2 k4,beq_eq_false_iff_ne.2 k5,beq_eq_false_iff_ne.2 k7,beq_eq_false_iff_ne.2 k8];exact .mk _ (.refl _) ad9 ⟨by simp only[dX,bnd k1 k2 k3 k4 k5 k6 k7 k8,Bool.false_and,au],rfl⟩
theorem HS(o:OpD)(h:Heap):ai prog 39 [opA o] h fun r h' =>r= .b (dH o)∧h' =h:=by
 have hr:=fun hh=>Kr o hh
 have ht:=fun hh=>NK o hh
 have hv:=fun hh=>gK o.val hh
 simp only[opA,opC,aV]at hr ht hv;refine ad2 func39 48 [.tmp 2] fun hwf=>?_
 simp only[go_sem,opA,opC];intro i1 h1;simp only[go_sem];refine(pX o.subj _).pthen ?_;cases d1:bw o.subj
 ·simp only[go_sem]
  exact .mk _ (.refl _) (.ak h1) ⟨by simp_all [dH,Bool.false_and,au],rfl⟩
 simp only[go_sem];refine(hr _).pthen ?_;cases d2:mK o
 ·exact aiK
 cases d3:decide ((4096:Int)<(o.text.length:Int))
 case true=>have e3:decide (o.text.length≤4096)=false:=decide_eq_false ad4;simp only[go_sem,d3];exact .mk _ (.refl _) (.ak h1) ⟨by simp only[dH,d1,d2,e3,Bool.false_and,Bool.true_and,au],rfl⟩
 have e3:decide (o.text.length≤4096)=true:=decide_eq_true ad4;simp only[go_sem,d3];refine(yA o.case _).pthen ?_;cases d4:jg o.case
 ·exact aiK
 simp only[go_sem];refine(yA o.field _).pthen ?_;cases d5:jg o.field
 ·exact aiK
 simp only[go_sem];refine(yA o.to _).pthen ?_;cases d6:jg o.to
 ·exact aiK
 cases d7:(o.val.kind==(0:Int) && (o.val.n==(0:Int) && o.val.s==([]:Txt)))
 ·simp only[go_sem,d7]
  refine(hv _).pthen ?_;have e7:eqV o.val ax=false:=d7;cases d8:bH o.val
  ·simp only[go_sem]
   exact .mk _ (.refl _) (.ak h1) ⟨by simp_all [dH,Bool.or_self,Bool.false_and,Bool.true_and,au],rfl⟩
  simp only[go_sem];refine(ht _).pthen ?_;simp only[go_sem];exact .mk _ (.refl _) (.ak h1) ⟨by simp_all [dH,Bool.false_or,Bool.true_and,au],rfl⟩
 ·simp only[go_sem,d7]
  have e7:eqV o.val ax=true:=d7;refine(ht _).pthen ?_;simp only[go_sem];exact .mk _ (.refl _) (.ak h1) ⟨by simp_all [dH,Bool.true_or,Bool.true_and,au],rfl⟩
end Go.Proofs.YtokahfmoollblaaGreatDoor
namespace Go.Bf
open Go Go.Ab
def ixD{α:Type}(q:α→Bool)(l:List α):Int:=if l.findIdx q<l.length then(l.findIdx q:Nat)else -1
theorem oA{α:Type}{q:α→Bool}{l:List α}{i:Nat}(hi:i<l.length)(h1:q l[i]=true)(h2:∀j (hj:j<i),q (l[j]'ad3)=false):ixD q l=(i:Nat):=by
 have e:l.findIdx q=i:=by grind [List.findIdx_eq]
 rw[ixD,e,if_pos hi]
theorem jo{α:Type}{q:α→Bool}{l:List α}(h:∀j (hj:j<l.length),q l[j]=false):ixD q l= -1:=by have e:l.findIdx q=l.length:=ad4;rw[ixD,e,if_neg (Nat.lt_irrefl _)]
end Go.Bf
namespace Go.Proofs.YtokahfmoollblaaGreatDoor
open Go Go.Ab Go.Bf Tryz
variable {x:AV}{c:aK}{cs:List aK}{s:an}{name:Txt}{fs:List cR}
theorem vt{α:Type}(y:AV)(xs:List AV)(ds:List α)(q:α→Bool)(g:FuncId)(cap:List AV)(h:Heap)(hb:Rd h 5 y xs)(hn:xs.length=ds.length)(hl:xs.length≤1000000000)(hx:∀x∈xs,bD x=true)
  (hp:∀i (h1:i<xs.length) (h2:i<ds.length),ai prog g (xs[i]::cap) h fun r h' =>r= .b (q ds[i])∧h' =h):
  ai prog 150 [y,.fn g cap] h fun r h' =>r= .i (ixD q ds)∧h' =h:=by
 refine ad2 func150 19 [.tmp 4] fun hwf=>?_
 simp only[go_sem,hb.len];refine .intro (fun m ρ h' =>h' =h∧∃i:Nat,i≤xs.length∧m=xs.length - i∧(∀j (hj:j<i) (h2:j<ds.length),q ds[j]=false)∧lk ρ 0=some y∧lk ρ 1=some (.fn g cap)∧lk ρ 7=some (.i xs.length)∧lk ρ 8=some (.i i)) xs.length ?_ ?_
 ·refine⟨rfl,0,ad3,rfl,fun j hj=>ad3,?_,?_,?_,?_⟩<;>simp only[go_sem]
 ·rintro m ρ h' ⟨rfl,i,hi,rfl,hc,r0,r1,r7,r8⟩
  simp only[go_sem,r7,r8];refine .intro (fun e=>?_) (fun e=>?_)
  ·have hlt:i<xs.length:=ad0 e
   have hlt2:i<ds.length:=ad3;have w1:IntKind.i64.wrap ((i:Int)+1)=((i+1:Nat):Int):=aeg;simp only[go_sem,r0,r1,r8];refine hb.idx (e:=111) i rfl hlt aei ad6 fun p hp1=>?_
   have hld:=hp1.all (U:=U) (ty:=111) ad6 aeX afQ;simp only[go_sem,hld];refine(show ai prog g (xs[i]::cap) _ _ from hp i hlt hlt2).pthen ?_
   cases d1:q ds[i]
   ·simp only[go_sem,r8,w1]
    refine⟨_,?_,rfl,i+1,ad3,rfl,fun j hj h2=>?_,?_,?_,?_,?_⟩
    ·omega
    ·grind
    all_goals simp only[go_sem,r0,r1,r7]
   ·simp only[go_sem]
    exact .same (.refl _) ⟨aeL,rfl⟩
  ·have hge:i=xs.length:=by grind
   simp only[go_sem];exact .same (.refl _) ⟨aew,rfl⟩
theorem yW{α:Type}(y:AV)(xs:List AV)(ds:List α)(q:α→Bool)(g:FuncId)(cap:List AV)(h:Heap)(hb:Rd h 4 y xs)(hn:xs.length=ds.length)(hl:xs.length≤1000000000)(hx:∀x∈xs,bD x=true)
  (hp:∀i (h1:i<xs.length) (h2:i<ds.length),ai prog g (xs[i]::cap) h fun r h' =>r= .b (q ds[i])∧h' =h):
  ai prog 115 [y,.fn g cap] h fun r h' =>r= .i (ixD q ds)∧h' =h:=by
 refine ad2 func115 19 [.tmp 4] fun hwf=>?_
 simp only[go_sem,hb.len];refine .intro (fun m ρ h' =>h' =h∧∃i:Nat,i≤xs.length∧m=xs.length - i∧(∀j (hj:j<i) (h2:j<ds.length),q ds[j]=false)∧lk ρ 0=some y∧lk ρ 1=some (.fn g cap)∧lk ρ 7=some (.i xs.length)∧lk ρ 8=some (.i i)) xs.length ?_ ?_
 ·refine⟨rfl,0,ad3,rfl,fun j hj=>ad3,?_,?_,?_,?_⟩<;>simp only[go_sem]
 ·rintro m ρ h' ⟨rfl,i,hi,rfl,hc,r0,r1,r7,r8⟩
  simp only[go_sem,r7,r8];refine .intro (fun e=>?_) (fun e=>?_)
  ·have hlt:i<xs.length:=ad0 e
   have hlt2:i<ds.length:=ad3;have w1:IntKind.i64.wrap ((i:Int)+1)=((i+1:Nat):Int):=aeg;simp only[go_sem,r0,r1,r8];refine hb.idx (e:=199) i rfl hlt aei ad6 fun p hp1=>?_
   have hld:=hp1.all (U:=U) (ty:=199) ad6 aeX afQ;simp only[go_sem,hld];refine(show ai prog g (xs[i]::cap) _ _ from hp i hlt hlt2).pthen ?_
   cases d1:q ds[i]
   ·simp only[go_sem,r8,w1]
    refine⟨_,?_,rfl,i+1,ad3,rfl,fun j hj h2=>?_,?_,?_,?_,?_⟩
    ·omega
    ·grind
    all_goals simp only[go_sem,r0,r1,r7]
   ·simp only[go_sem]
    exact .same (.refl _) ⟨aeL,rfl⟩
  ·have hge:i=xs.length:=by grind
   simp only[go_sem];exact .same (.refl _) ⟨aew,rfl⟩
def RdC(h:Heap)(x:AV)(c:aK):Prop:=∃f l,x= .agg [.s c.id,.s c.owner,.s c.state,f,l]∧Rd h 4 f (c.fields.map bC)∧Rd h 3 l (c.log.map gv)
def Al(h:Heap)(y:AV)(cs:List aK):Prop:=∃xs,Rd h 5 y xs∧xs.length=cs.length∧∀i (h1:i<xs.length) (h2:i<cs.length),RdC h xs[i] cs[i]
def RdS(h:Heap)(x:AV)(s:an):Prop:=∃y1 y2 y3 y4,x= .agg ([.i s.tick,y1,y2,y3,y4]++gw s.policy++ [.i s.version])∧Al h y1 s.cases∧Rd h 7 y2 (s.reviews.map gA)∧Rd h 3 y3 (s.notices.map kr)∧Rd h 2 y4 (s.roles.map dw)
theorem RdC.sub{h h' :Heap}(hb:RdC h x c)(hs:Ab.Sub h h'):RdC h' x c:=by obtain⟨f,l,e,h1,h2⟩:=hb;exact⟨f,l,e,h1.sub hs,h2.sub hs⟩
theorem Al.sub{h h' :Heap}{y:AV}(hb:Al h y cs)(hs:Ab.Sub h h'):Al h' y cs:=by obtain⟨xs,h1,h2,h3⟩:=hb;exact⟨xs,h1.sub hs,h2,fun i a b=>(h3 i a b).sub hs⟩
theorem RdS.sub{h h' :Heap}(hb:RdS h x s)(hs:Ab.Sub h h'):RdS h' x s:=by obtain⟨y1,y2,y3,y4,e,h1,h2,h3,h4⟩:=hb;exact⟨y1,y2,y3,y4,e,h1.sub hs,h2.sub hs,h3.sub hs,h4.sub hs⟩
theorem bu{α:Type}{f:α→AV}{n:Nat}(hf:∀a,(f a).cells.length=n)(l:List α):Sized n (l.map f):=fun z hz=>by grind
theorem pE{α:Type}{f:α→AV}(hf:∀a,bD (f a)=true)(l:List α):∀x∈l.map f,bD x=true:=fun z hz=>by obtain⟨a,_,rfl⟩:=List.mem_map.1 hz;exact hf a
theorem eL{α:Type}(f:α→AV)(n:Nat)(hf:∀a,(f a).cells.length=n)(h:Heap)(l:List α):Rd h n (.sl (l.map f) .no) (l.map f):=.sl (bu hf l) _
theorem rdC(h:Heap)(c:aK):RdC h (cq c) c:=⟨_,_,rfl,eL bC 4 (fun _=>rfl) h _,eL gv 3 (fun _=>rfl) h _⟩
theorem YH(h:Heap)(cs:List aK):Al h (fO cs) cs:=⟨_,eL cq 5 (fun _=>rfl) h cs,aea,fun i h1 h2=>by grind [rdC]⟩
theorem rdS(h:Heap)(s:an):RdS h (bN s) s:=⟨_,_,_,_,rfl,YH h _,eL gA 7 (fun _=>rfl) h _,eL kr 3 (fun _=>rfl) h _,eL dw 2 (fun _=>rfl) h _⟩
theorem RdC.agg{h:Heap}(hb:RdC h x c):bD x=true:=by obtain⟨f,l,rfl,_⟩:=hb;rfl
theorem Al.agg{h:Heap}{xs:List AV}(hn:xs.length=cs.length)(hb:∀i (h1:i<xs.length) (h2:i<cs.length),RdC h xs[i] cs[i]):∀x∈xs,bD x=true:=fun x hx=>by obtain⟨i,hi,rfl⟩:=List.mem_iff_getElem.1 hx;exact(hb i hi ad3).agg
theorem nZ:(U 111).sz=5:=aei
theorem Hr:(U 199).sz=4:=aei
theorem KS:(U 9).sz≠0:=ad6
theorem NT:(U 9).sz=1:=aei
theorem Mb{h:Heap}(hb:RdC h x c){k:Nat}{id:Txt}(hk:h k=some (.obj [.s id] 9)):ai prog 151 [x,.ptr k 0] h fun r h' =>r= .b (geB c.id id)∧h' =h:=by
 obtain⟨f,l,rfl,hf,hl⟩:=hb;refine ad2 func151 8 [.tmp 3] fun hwf=>?_
 simp only[go_sem];exact aiv
structure Few (s:an):Prop where
 cases:s.cases.length≤1000000
 fields:∀c∈s.cases,c.fields.length≤1000000
 log:∀c∈s.cases,c.log.length≤1000000
 reviews:s.reviews.length≤1000000
 notices:s.notices.length≤1000000
 roles:s.roles.length≤1000000
theorem jS{id:Txt}(h:cj cs id=true):findD cs id<cs.length:=by grind [cj,List.getElem?_eq_some_iff]
theorem KK{id:Txt}(h:findD cs id<cs.length):cj cs id=(cs[findD cs id].id==id):=by grind [cj,List.getElem?_eq_getElem]
theorem KL{id:Txt}(h:¬findD cs id<cs.length):cj cs id=false:=by grind [cj,List.getElem?_eq_none]
theorem Co{h:Heap}(hb:RdS h x s)(id:Txt)(hl:s.cases.length≤1000000):ai prog 94 [x,.s id] h fun r h' =>r= .tup [.i (findD s.cases id:Nat),.b (cj s.cases id)]∧h' =h:=by
 obtain⟨y1,y2,y3,y4,rfl,⟨xs,hc,hn,hcs⟩,h2,h3,h4⟩:=hb;cases hp:s.policy with
 |mk pid pset palg ptgt prules pkids pobls=>
 refine ad2 func94 25 [.tmp 4,.tmp 5] fun hwf=>?_
 simp only[go_sem,gw,List.cons_append,List.nil_append];intro i1 h1;simp only[go_sem];intro i2 h2;have n21:=aF h2;have n2:=aB h2;have hs:∀a b,Ab.Sub h (upd (upd h i1 a) i2 b):=fun a b=>((Sub.refl h).put h1 a).put n2 b
 simp only[go_sem,aj,n21.symm];refine(vt y1 xs s.cases (fun c=>geB c.id id) _ [.ptr i2 0] _ (hc.sub (hs _ _)) hn ad3 (Al.agg hn hcs) fun i a b=>Mb ((hcs i a b).sub (hs _ _)) (ah ..)).pthen ?_
 by_cases hf:findD s.cases id<s.cases.length
 ·have e1:ixD (fun c=>geB c.id id) s.cases=(findD s.cases id:Nat):=by rw[ixD];exact if_pos hf
  have d1:decide (((findD s.cases id:Nat):Int)<0)=false:=decide_eq_false ad3;rw[e1];simp only[go_sem,aj,n21.symm,d1];refine⟨.of ad7,?_⟩;obtain⟨f,l,ex,hfl,hlg⟩:=hcs (findD s.cases id) ad3 hf;refine hc.idx (e:=111) (findD s.cases id) rfl ad3 nZ ad6 fun p hp1=>?_
  simp only[go_sem];refine hp1.field (f:=0) (off:=0) (t:=9) rfl KS fun p2 hp2=>?_
  have hld:=fun a b=>(hp2.sub (hs a b)).part (U:=U) (ty:=9) KS (by rw[ex,NT];exact adS rfl)
  simp only[go_sem,hld,ex];exact .mk _ (.refl _) (hs _ _) ⟨by rw[KK hf];rfl,rfl⟩
 ·have e1:ixD (fun c=>geB c.id id) s.cases= -1:=by rw[ixD];exact if_neg hf
  have e2:findD s.cases id=s.cases.length:=by grind [findD,List.findIdx_le_length]
  have d1:decide ((-1:Int)<0)=true:=rfl;rw[e1];simp only[go_sem,aj,n21.symm,d1];simp only[go_sem,hc.len];exact .mk _ (.refl _) (hs _ _) ⟨by rw[KL hf,e2,hn];rfl,rfl⟩
theorem IS:(U 138).sz=2:=aei
theorem J2(y:AV)(ds:List gG)(r:gG)(h:Heap)(hb:Rd h 2 y (ds.map dw))(hl:ds.length≤1000000000):
  ai prog 204 [y,dw r] h fun x h' =>x= .i (ixD (vi r) ds)∧h' =h:=by
 refine ad2 func204 19 [.tmp 4] fun hwf=>?_
 simp only[go_sem,dw];intro i1 h1;have hs:∀a,Ab.Sub h (upd h i1 a):=fun a=>(Sub.refl h).put h1 a
 simp only[go_sem,hb.len,adT];refine .intro (fun m ρ h' =>h' =upd h i1 (some (.obj [.s r.subj,.s r.role] 138))∧∃i:Nat,i≤ds.length∧m=ds.length - i∧(∀j (hj:j<i) (h2:j<ds.length),vi r ds[j]=false)∧lk ρ 0=some y∧lk ρ 3=some (.ptr i1 0)∧lk ρ 7=some (.i ds.length)∧lk ρ 8=some (.i i)) ds.length ?_ ?_
 ·refine⟨rfl,0,ad3,rfl,fun j hj=>ad3,?_,?_,?_,?_⟩<;>simp only[go_sem]
 ·rintro m ρ h' ⟨rfl,i,hi,rfl,hc,r0,r3,r7,r8⟩
  simp only[go_sem,r7,r8];refine .intro (fun e=>?_) (fun e=>?_)
  ·have hlt:i<ds.length:=ad0 e
   have w1:IntKind.i64.wrap ((i:Int)+1)=((i+1:Nat):Int):=aeg;simp only[go_sem,r0,r3,r8];refine⟨.of ad7,?_⟩;refine hb.idx (e:=138) i rfl ad4 IS ad6 fun p hp1=>?_
   have hld:=fun a=>(hp1.sub (hs a)).all (U:=U) (ty:=138) ad6 (by rw[IS,adU];rfl) aeJ
   cases d1:vi r ds[i]
   ·have d2:=d1
    simp only[vi]at d2;simp only[go_sem,r8,hld,adU,dw,d2,w1];refine⟨_,?_,rfl,i+1,ad3,rfl,fun j hj h2=>?_,?_,?_,?_,?_⟩
    ·omega
    ·grind
    all_goals simp only[go_sem,r0,r3,r7]
   ·have d2:=d1
    simp only[vi]at d2;simp only[go_sem,hld,adU,dw,d2];exact .mk _ (.refl _) (hs _) ⟨by rw[oA hlt d1 fun j hj=>hc j hj ad3];rfl,rfl⟩
  ·have hge:i=ds.length:=by grind
   simp only[go_sem];exact .mk _ (.refl _) (hs _) ⟨aew,rfl⟩
theorem Gh(y:AV)(ds:List gG)(r:gG)(h:Heap)(hb:Rd h 2 y (ds.map dw))(hl:ds.length≤1000000000):
  ai prog 153 [y,dw r] h fun x h' =>x= .b (yQ ds r)∧h' =h:=by
 have hq:=fun H (hH:Ab.Sub h H)=>J2 y ds r H (hb.sub hH) hl
 refine ad2 func153 9 [.tmp 4] fun hwf=>?_
 simp only[go_sem,dw];intro i1 h1;simp only[go_sem];refine(hq _ (.ak h1)).pthen ?_;simp only[go_sem];refine .mk _ (.refl _) (.ak h1) ⟨?_,rfl⟩
 grind [au,yQ,ixD,decide_eq_true,List.any_eq_true,adY,List.findIdx_getElem,decide_eq_false,List.any_eq_false]
theorem Gi{h:Heap}(hb:RdS h x s)(subj role:Txt)(hl:s.roles.length≤1000000000):ai prog 97 [x,.s subj,.s role] h fun r h' =>r= .b (yQ s.roles ⟨subj,role⟩)∧h' =h:=by
 obtain⟨y1,y2,y3,y4,rfl,hc,h2,h3,h4⟩:=hb;have hq:=fun H (hH:Ab.Sub h H)=>Gh y4 s.roles ⟨subj,role⟩ H (h4.sub hH) hl
 cases hp:s.policy with
 |mk pid pset palg ptgt prules pkids pobls=>
 refine ad2 func97 13 [.tmp 6] fun hwf=>?_
 simp only[go_sem,gw,List.cons_append,List.nil_append];intro i1 h1;simp only[go_sem];refine(hq _ (.ak h1)).pthen ?_;simp only[go_sem];exact ael
theorem Jp{h:Heap}(f:cR){k:Nat}(hk:h k=some (.obj [.s name] 9)):ai prog 116 [bC f,.ptr k 0] h fun r h' =>r= .b (f.name==name)∧h' =h:=by
 refine ad2 func116 8 [.tmp 3] fun hwf=>?_
 simp only[go_sem,bC];exact aiv
theorem Jq(h:fs.findIdx (fun f=>f.name==name)<fs.length):eV fs name=fs[fs.findIdx fun f=>f.name==name].val:=by unfold eV;rw[show fs.find? (fun f=>f.name==name)=some fs[fs.findIdx fun f=>f.name==name]from List.find?_eq_some_iff_getElem.2 ⟨List.findIdx_getElem (w:=h),_,h,rfl,fun j hj=>ad4⟩]
theorem Jr(h:¬fs.findIdx (fun f=>f.name==name)<fs.length):eV fs name=ax:=by grind [eV,List.findIdx_le_length,List.find?_eq_none,List.findIdx_eq_length]
theorem DL{h:Heap}(hb:RdC h x c)(name:Txt)(hl:c.fields.length≤1000000000):ai prog 49 [x,.s name] h fun r h' =>r=aV (eV c.fields name)∧h' =h:=by
 obtain⟨f,l,rfl,hf,hlg⟩:=hb;refine ad2 func49 19 [.cell 4 44] fun hwf=>?_
 simp only[go_sem];intro i1 h1;simp only[go_sem];intro i2 h2;have n21:=aF h2;have n2:=aB h2;simp only[go_sem];intro i3 h3;have h3' :=aB h3;have n31:=aF h3';have n3:=aB h3';have hs:∀a b d,Ab.Sub h (upd (upd (upd h i1 a) i2 b) i3 d):=fun a b d=>(((Sub.refl h).put h1 a).put n2 b).put n3 d
 simp only[go_sem,aj,n21.symm,n31.symm];refine(yW f _ c.fields (fun f=>f.name==name) _ [.ptr i2 0] _ (hf.sub (hs _ _ _)) aea ad4 (pE (fun _=>rfl) _) fun i a b=>by rw[adU];exact Jp _ (by grind [aj,gC,not_false_eq_true])).pthen ?_
 by_cases hx:c.fields.findIdx (fun f=>f.name==name)<c.fields.length
 ·have e1:ixD (fun f=>f.name==name) c.fields=(c.fields.findIdx (fun f=>f.name==name):Nat):=by simp_all [ixD,if_pos]
  have d1:decide ((0:Int)≤((c.fields.findIdx (fun f=>f.name==name):Nat):Int))=true:=decide_eq_true ad3
  rw[e1];simp only[go_sem,aj,n21.symm,n31.symm,d1];refine hf.idx (e:=199) (c.fields.findIdx fun f=>f.name==name) rfl ad4 Hr ad6 fun p hp1=>?_
  simp only[go_sem];refine hp1.field (f:=1) (off:=1) (t:=44) rfl ad6 fun p2 hp2=>?_
  have hld:=fun a b d=>(hp2.sub (hs a b d)).part (U:=U) (ty:=44) ad6 (by rw[adU,show(U 44).sz=3 by rfl];exact adS rfl)
  simp only[go_sem,hld,adU,bC];exact .mk _ (.refl _) ad4 ⟨by rw[Jq hx];rfl,rfl⟩
 ·have e1:ixD (fun f=>f.name==name) c.fields= -1:=by simp_all [ixD,if_neg]
  have d1:decide ((0:Int)≤ -1)=false:=rfl;rw[e1];simp only[go_sem,d1];exact .mk _ (.refl _) ad4 ⟨by rw[Jr hx];rfl,rfl⟩
end Go.Proofs.YtokahfmoollblaaGreatDoor
namespace Go.Ab
open Go
mutual
def cO:AV→Bool
 |.v _=>true
 |.s _=>true
 |.agg xs=>gI xs
 |.tup xs=>gI xs
 |.sl xs (.own _)=>false
 |.sl xs _=>gI xs
 |.pe x _=>cO x
 |.ifc _ x=>cO x
 |_=>false
def gI:List AV→Bool
 | []=>true
 |x::r=>cO x && gI r
end
mutual
theorem uE{F:Nat→Prop}:∀x:AV,cO x=true→Av F x
 |.v x,_=> .v x
 |.s l,_=> .s l
 |.agg xs,h=> .agg xs (rH xs agC)
 |.tup xs,h=> .tup xs (rH xs agC)
 |.sl xs .no,h=> .sl xs .no (rH xs agC) fun _ e=>aet
 |.sl xs .full,h=> .sl xs .full (rH xs agC) fun _ e=>aet
 |.sl xs (.own _),h=>ahz
 |.pe x o,h=> .pe x o (uE x agC)
 |.ptr i o,h=>ahz
 |.oa i o l,h=>ahz
 |.ifc t x,h=> .ifc t x (uE x agC)
 |.fn f c,h=>ahz
 |.mp i,h=>ahz
 |.ob i o l c z,h=>ahz
theorem rH{F:Nat→Prop}:∀xs:List AV,gI xs=true→∀x∈xs,Av F x
 | [],_,x,hx=>by cases hx
 |y::r,h,x,hx=>by
  simp only[gI,Bool.and_eq_true]at h;rcases List.mem_cons.1 hx with e|e
  ·rw[e];exact uE y h.1
  ·exact rH r h.2 x e
end
theorem bn{α:Type}{f:α→AV}(hf:∀a,cO (f a)=true):∀l:List α,gI (l.map f)=true
 | []=>rfl
 |a::r=>by simp[gI,hf a,bn hf r]
theorem BE{xs:List AV}(h:gI xs=true):∀x∈xs,cO x=true:=by
 induction xs with
 |nil=>simp
 |cons y r ih=>simp_all [gI,Bool.and_eq_true,List.mem_cons]
theorem nW{x:AV}(h:cO x=true):∀c∈x.cells,cO c=true:=by
 cases x with
 |agg cs=>exact BE (show gI cs=true by grind [cO])
 |_=>intro c hc;rw[List.mem_singleton.1 hc];exact h
theorem Frz.pure{g h:Heap}{x:AV}(hx:cO x=true):Frz g h x x:=.keep x (uE x hx)
theorem Ow.frz{g h:Heap}{tb:TypeId}{sz id:Nat}{y:AV}{xs ys:List AV}(hw:Ow tb h sz id y xs)(hg:g id=Option.none)(hn:xs.length=ys.length)(hz:∀i (h1:i<xs.length) (h2:i<ys.length),xs[i].cells.length=ys[i].cells.length)
  (hr:∀i (h1:i<xs.length) (h2:i<ys.length) j (h3:j<xs[i].cells.length) (h4:j<ys[i].cells.length),Frz g h xs[i].cells[j] ys[i].cells[j]):Frz g h y (.sl ys .no):=by
 obtain⟨cap,rest,rfl,h1,h2,h3,h4⟩:=hw;have hl:=aZ h4;refine .ob id 0 _ cap sz _ tb ys hg h1 ad4 hn.symm (fun i hi=>by rw[←hz i ad3 hi];exact h4 _ aea) fun i hi j hj hb=>?_
 have hj' :j<sz:=by rw[←h4 xs[i] aea,hz i ad3 hi];omega
 have hbd:i*sz+j<xs.length*sz:=by have:(i+1)*sz≤xs.length*sz:=Nat.mul_le_mul_right _ ad3;rw[Nat.add_mul,Nat.one_mul]at this;omega
 have hjx:j<xs[i].cells.length:=ad4;have e:(aq xs++rest)[0+(i*sz+j)]? =some (xs[i].cells[j]):=by rw[Nat.zero_add,List.getElem?_append_left ad3,vl h4 ad3 hj',List.getElem?_eq_getElem hjx]
 rw[List.getElem?_eq_getElem hb,Option.some.injEq]at e;rw[e];exact hr i ad3 hi j hjx hj
theorem OwE.frz{g h:Heap}{tb:TypeId}{sz:Nat}{y:AV}{xs:List AV}(hw:OwE tb g h sz y xs)(hp:gI xs=true):Frz g h y (.sl xs .no):=by
 rcases hw with⟨rfl,rfl⟩|⟨id,hg,hw⟩
 ·exact .sl [] [] .full rfl ad3 aea
 ·exact hw.frz hg rfl ad3 fun i h1 h2 j h3 h4=> .pure (nW (BE hp _ (adY h1)) _ aea)
theorem OwE.j3{U:TypeId→TI}{h:Heap}{sz:Nat}{tb:TypeId}{xs:List AV}{Q:AV→Heap→Prop}(hz:(U tb).sz=sz)(hf:Ab.fit (U tb).zero sz)(hb:Sized sz xs)(hk:∀y' h',OwE tb h h' sz y' xs→Sub h h'→Q y' h'):sI U h [] xs tb Q:=by
 subst hz;refine⟨fun hn=>?_,fun hn=>?_⟩
 ·subst hn
  exact hk _ _ (.inl ⟨rfl,rfl⟩) (.refl _)
 ·refine .ob hf (kS.ow hb aei aea fun id y' h' hid hw ho=>?_)
  exact hk _ _ (.inr ⟨id,hid,hw⟩) fun j b hj=>ad4
theorem Rd.nil{h:Heap}{sz:Nat}{y:AV}{xs:List AV}{e:TypeId}{Q:AV→Heap→Prop}(hb:Rd h sz y xs)(hk:∀b:Bool,(xs≠ []→b=false)→Q (.b b) h):SG h .eql y Q (.slice e):=by
 obtain⟨_,⟨q,rfl⟩|⟨id,off,cap,cs,t,rfl,_⟩⟩:=hb
 ·exact hk
 ·exact hk false fun _=>rfl
def nid:AV→Option Nat
 |.ob id _ _ _ _=>some id
 |_=>none
theorem OwE.nid{tb:TypeId}{h0 h:Heap}{sz:Nat}{y:AV}{xs:List AV}(hw:OwE tb h0 h sz y xs){id:Nat}(e:Ab.nid y=some id):h0 id=Option.none∧h id≠Option.none∧Ow tb h sz id y xs:=by
 rcases hw with⟨rfl,rfl⟩|⟨id',h1,hw⟩
 ·cases e
 ·obtain⟨cap,rest,rfl,h2,h3⟩:=hw
  cases e;exact⟨h1,ad4,cap,rest,rfl,h2,h3⟩
theorem Ow.nid{tb:TypeId}{h:Heap}{sz id:Nat}{y:AV}{xs:List AV}(hw:Ow tb h sz id y xs):Ab.nid y=some id:=by obtain⟨cap,rest,rfl,h2,h3⟩:=hw;rfl
theorem OwE.keep{tb:TypeId}{h0 h h' :Heap}{sz:Nat}{y:AV}{xs:List AV}(hw:OwE tb h0 h sz y xs)(hs:∀id,Ab.nid y=some id→h' id=h id):OwE tb h0 h' sz y xs:=by
 rcases hw with hw|⟨id,h1,hw⟩
 ·exact ahY
 ·exact .inr ⟨id,h1,hw.same (hs id hw.nid)⟩
theorem OwE.less{tb:TypeId}{h0 h1 h:Heap}{sz:Nat}{y:AV}{xs:List AV}(hw:OwE tb h1 h sz y xs)(hs:Sub h0 h1):OwE tb h0 h sz y xs:=by
 rcases hw with hw|⟨id,a,hw⟩
 ·exact ahY
 ·exact .inr ⟨id,hs.none a,hw⟩
end Go.Ab
namespace Go.Proofs.YtokahfmoollblaaGreatDoor
open Go Go.Ab Go.Bf Tryz
theorem AX(y:AV)(xs:List AV)(h:Heap)(hb:Rd h 5 y xs)(hl:xs.length≤1000000):ai prog 106 [y] h fun r h' =>OwE 111 h h' 5 r xs∧Ab.Sub h h' :=by
 refine ad2 func106 8 [.tmp 2] fun hwf=>?_
 simp only[go_sem];refine hb.nil fun b hxs=>?_
 cases b
 ·simp only[go_sem]
  refine hb.src (U:=U) (e:=111) aei ⟨hb.1,ad3,OwE.j3 (U:=U) (sz:=5) aei aei hb.1 fun y' h' hw hs=>?_⟩
  exact ain
 ·exact aik
theorem wu(y:AV)(xs:List AV)(h:Heap)(hb:Rd h 7 y xs)(hl:xs.length≤1000000):ai prog 104 [y] h fun r h' =>OwE 132 h h' 7 r xs∧Ab.Sub h h' :=by
 refine ad2 func104 8 [.tmp 2] fun hwf=>?_
 simp only[go_sem];refine hb.nil fun b hxs=>?_
 cases b
 ·simp only[go_sem]
  refine hb.src (U:=U) (e:=132) aei ⟨hb.1,ad3,OwE.j3 (U:=U) (sz:=7) aei aei hb.1 fun y' h' hw hs=>?_⟩
  exact ain
 ·exact aik
theorem wq(y:AV)(xs:List AV)(h:Heap)(hb:Rd h 3 y xs)(hl:xs.length≤1000000):ai prog 105 [y] h fun r h' =>OwE 135 h h' 3 r xs∧Ab.Sub h h' :=by
 refine ad2 func105 8 [.tmp 2] fun hwf=>?_
 simp only[go_sem];refine hb.nil fun b hxs=>?_
 cases b
 ·simp only[go_sem]
  refine hb.src (U:=U) (e:=135) aei ⟨hb.1,ad3,OwE.j3 (U:=U) (sz:=3) aei aei hb.1 fun y' h' hw hs=>?_⟩
  exact ain
 ·exact aik
theorem Jd(y:AV)(xs:List AV)(h:Heap)(hb:Rd h 2 y xs)(hl:xs.length≤1000000):ai prog 159 [y] h fun r h' =>OwE 138 h h' 2 r xs∧Ab.Sub h h' :=by
 refine ad2 func159 8 [.tmp 2] fun hwf=>?_
 simp only[go_sem];refine hb.nil fun b hxs=>?_
 cases b
 ·simp only[go_sem]
  refine hb.src (U:=U) (e:=138) aei ⟨hb.1,ad3,OwE.j3 (U:=U) (sz:=2) aei aei hb.1 fun y' h' hw hs=>?_⟩
  exact ain
 ·exact aik
theorem FJ(y:AV)(xs:List AV)(h:Heap)(hb:Rd h 4 y xs)(hl:xs.length≤1000000):ai prog 166 [y] h fun r h' =>OwE 199 h h' 4 r xs∧Ab.Sub h h' :=by
 refine ad2 func166 8 [.tmp 2] fun hwf=>?_
 simp only[go_sem];refine hb.nil fun b hxs=>?_
 cases b
 ·simp only[go_sem]
  refine hb.src (U:=U) (e:=199) aei ⟨hb.1,ad3,OwE.j3 (U:=U) (sz:=4) aei aei hb.1 fun y' h' hw hs=>?_⟩
  exact ain
 ·exact aik
theorem qV(y:AV)(xs:List AV)(h:Heap)(hb:Rd h 3 y xs)(hl:xs.length≤1000000):ai prog 107 [y] h fun r h' =>OwE 189 h h' 3 r xs∧Ab.Sub h h' :=by
 refine ad2 func107 8 [.tmp 2] fun hwf=>?_
 simp only[go_sem];refine hb.nil fun b hxs=>?_
 cases b
 ·simp only[go_sem]
  refine hb.src (U:=U) (e:=189) aei ⟨hb.1,ad3,OwE.j3 (U:=U) (sz:=3) aei aei hb.1 fun y' h' hw hs=>?_⟩
  exact ain
 ·exact aik
theorem xo(y:AV)(xs:List AV)(h:Heap)(hb:Rd h 3 y xs)(hl:xs.length≤1000000)(hp:gI xs=true):ai prog 107 [y] h fun r h' =>r= .sl xs .no∧h' =h:=
 ai.freeze fun g hg _=>(qV y xs g (hb.sub hg) hl).mono fun r h' ⟨h1,h2⟩=>⟨h2,_,h1.frz hp,rfl⟩
theorem LJ(y:AV)(xs:List AV)(h:Heap)(hb:Rd h 3 y xs)(hl:xs.length≤1000000):ai prog 70 [y] h fun r h' =>OwE 145 h h' 3 r xs∧Ab.Sub h h' :=by
 refine ad2 func70 8 [.tmp 2] fun hwf=>?_
 simp only[go_sem];refine hb.nil fun b hxs=>?_
 cases b
 ·simp only[go_sem]
  refine hb.src (U:=U) (e:=145) aei ⟨hb.1,ad3,OwE.j3 (U:=U) (sz:=3) aei aei hb.1 fun y' h' hw hs=>?_⟩
  exact ain
 ·exact aik
theorem AZ(y:AV)(xs:List AV)(h:Heap)(hb:Rd h 3 y xs)(hl:xs.length≤1000000)(hp:gI xs=true):ai prog 70 [y] h fun r h' =>r= .sl xs .no∧h' =h:=
 ai.freeze fun g hg _=>(LJ y xs g (hb.sub hg) hl).mono fun r h' ⟨h1,h2⟩=>⟨h2,_,h1.frz hp,rfl⟩
theorem Je(y:AV)(xs:List AV)(h:Heap)(hb:Rd h 5 y xs)(hl:xs.length≤1000000):ai prog 214 [y] h fun r h' =>OwE 217 h h' 5 r xs∧Ab.Sub h h' :=by
 refine ad2 func214 8 [.tmp 2] fun hwf=>?_
 simp only[go_sem];refine hb.nil fun b hxs=>?_
 cases b
 ·simp only[go_sem]
  refine hb.src (U:=U) (e:=217) aei ⟨hb.1,ad3,OwE.j3 (U:=U) (sz:=5) aei aei hb.1 fun y' h' hw hs=>?_⟩
  exact ain
 ·exact aik
theorem Dl(y:AV)(xs:List AV)(h:Heap)(hb:Rd h 7 y xs)(hl:xs.length≤1000000):ai prog 215 [y] h fun r h' =>OwE 38 h h' 7 r xs∧Ab.Sub h h' :=by
 refine ad2 func215 8 [.tmp 2] fun hwf=>?_
 simp only[go_sem];refine hb.nil fun b hxs=>?_
 cases b
 ·simp only[go_sem]
  refine hb.src (U:=U) (e:=38) aei ⟨hb.1,ad3,OwE.j3 (U:=U) (sz:=7) aei aei hb.1 fun y' h' hw hs=>?_⟩
  exact ain
 ·exact aik
theorem Jb(y:AV)(xs:List AV)(h:Heap)(hb:Rd h 7 y xs)(hl:xs.length≤1000000):ai prog 216 [y] h fun r h' =>OwE 222 h h' 7 r xs∧Ab.Sub h h' :=by
 refine ad2 func216 8 [.tmp 2] fun hwf=>?_
 simp only[go_sem];refine hb.nil fun b hxs=>?_
 cases b
 ·simp only[go_sem]
  refine hb.src (U:=U) (e:=222) aei ⟨hb.1,ad3,OwE.j3 (U:=U) (sz:=7) aei aei hb.1 fun y' h' hw hs=>?_⟩
  exact ain
 ·exact aik
theorem FM(y:AV)(xs:List AV)(h:Heap)(hb:Rd h 7 y xs)(hl:xs.length≤1000000)(hp:gI xs=true):ai prog 216 [y] h fun r h' =>r= .sl xs .no∧h' =h:=
 ai.freeze fun g hg _=>(Jb y xs g (hb.sub hg) hl).mono fun r h' ⟨h1,h2⟩=>⟨h2,_,h1.frz hp,rfl⟩
theorem FK(y:AV)(xs:List AV)(h:Heap)(hb:Rd h 7 y xs)(hl:xs.length≤1000000):ai prog 257 [y] h fun r h' =>OwE 269 h h' 7 r xs∧Ab.Sub h h' :=by
 refine ad2 func257 8 [.tmp 2] fun hwf=>?_
 simp only[go_sem];refine hb.nil fun b hxs=>?_
 cases b
 ·simp only[go_sem]
  refine hb.src (U:=U) (e:=269) aei ⟨hb.1,ad3,OwE.j3 (U:=U) (sz:=7) aei aei hb.1 fun y' h' hw hs=>?_⟩
  exact ain
 ·exact aik
theorem Dn(y:AV)(xs:List AV)(h:Heap)(hb:Rd h 7 y xs)(hl:xs.length≤1000000)(hp:gI xs=true):ai prog 257 [y] h fun r h' =>r= .sl xs .no∧h' =h:=
 ai.freeze fun g hg _=>(FK y xs g (hb.sub hg) hl).mono fun r h' ⟨h1,h2⟩=>⟨h2,_,h1.frz hp,rfl⟩
theorem FL(y:AV)(xs:List AV)(h:Heap)(hb:Rd h 3 y xs)(hl:xs.length≤1000000):ai prog 286 [y] h fun r h' =>OwE 44 h h' 3 r xs∧Ab.Sub h h' :=by
 refine ad2 func286 8 [.tmp 2] fun hwf=>?_
 simp only[go_sem];refine hb.nil fun b hxs=>?_
 cases b
 ·simp only[go_sem]
  refine hb.src (U:=U) (e:=44) aei ⟨hb.1,ad3,OwE.j3 (U:=U) (sz:=3) aei aei hb.1 fun y' h' hw hs=>?_⟩
  exact ain
 ·exact aik
theorem Dp(y:AV)(xs:List AV)(h:Heap)(hb:Rd h 3 y xs)(hl:xs.length≤1000000)(hp:gI xs=true):ai prog 286 [y] h fun r h' =>r= .sl xs .no∧h' =h:=
 ai.freeze fun g hg _=>(FL y xs g (hb.sub hg) hl).mono fun r h' ⟨h1,h2⟩=>⟨h2,_,h1.frz hp,rfl⟩
def Rc(h0 h:Heap)(x:AV)(c:aK):Prop:=∃f l,x= .agg [.s c.id,.s c.owner,.s c.state,f,l]∧OwE 199 h0 h 4 f (c.fields.map bC)∧OwE 189 h0 h 3 l (c.log.map gv)∧∀i,nid f=some i→nid l≠some i
theorem cP{h:Heap}{i j:Nat}{b:Blk}(h1:h i=none)(h2:h j=some b):i≠j:=fun e=>by subst e;rw[h2]at h1;cases h1
theorem zu{h:Heap}{x:AV}{c:aK}(hb:RdC h x c)(hl:c.fields.length≤1000000)(hl2:c.log.length≤1000000):ai prog 114 [x] h fun r h' =>Rc h h' r c∧Ab.Sub h h' :=by
 obtain⟨f,l,rfl,hf,hlg⟩:=hb;refine ad2 func114 12 [.cell 2 111] fun hwf=>?_
 simp only[go_sem];intro i1 h1;simp only[go_sem];intro i2 h2;have n21:=aF h2;have n2:=aB h2;simp only[go_sem];obtain⟨H,eH⟩:∃H,upd (upd h i1 (some (.obj [.s c.id,.s c.owner,.s c.state,f,l] 111))) i2 (some (.obj [.s [],.s [],.s [],.sl [] .full,.sl [] .full] 111))=H:=⟨_,rfl⟩;have hH:Ab.Sub h H:=ae1;have g1:H i1=some (.obj [.s c.id,.s c.owner,.s c.state,f,l] 111):=afD;have g2:H i2=some (.obj [.s [],.s [],.s [],.sl [] .full,.sl [] .full] 111):=afv;rw[eH];refine .stage (hm1 i1 _) [0,1,3,4,2,6,5] [7,8,9] (.hm1 g1) ad7 ?_;simp only[go_sem,gz];refine(FJ f _ H (hf.sub hH) ad4).mono fun f' H1 ⟨hf',s1⟩=>?_
 refine⟨.hm1 (s1 _ _ g1),?_⟩;simp only[go_sem];refine(qV l _ H1 ((hlg.sub hH).sub s1) ad4).mono fun l' H2 ⟨hl',s2⟩=>?_
 refine⟨.hm1 (s2 _ _ (s1 _ _ g1)),cX,(fun _ _ e=>aet),?_⟩
 have g1' :=s2 _ _ (s1 _ _ g1);have g2' :=s2 _ _ (s1 _ _ g2);simp only[go_sem,g1',hf'.rd.fit,hf'.rd.cells,hl'.rd.fit,hl'.rd.cells];have n1:∀b,upd H2 i1 b i2=some (.obj [.s [],.s [],.s [],.sl [] .full,.sl [] .full] 111):=fun b=>aeF
 refine⟨fun _ _ e=>aet,fun _ _ e=>aet,?_⟩
 simp only[go_sem,n1];have hid:∀ {y:AV} {xs:List AV} {G:Heap} {tb:TypeId} {z:Nat},Ab.Sub H G→OwE tb G H2 z y xs→∀a b,OwE tb h (upd (upd H2 i1 a) i2 b) z y xs:=fun hG hw a b=>(hw.less (hH.trans hG)).keep fun id e=>by have h0:=hG.none (hw.nid e).1;rw[ag _ _ (cP h0 g2),ag _ _ (cP h0 g1)]
 refine .mk _ (.refl _) (.refl _) ⟨⟨f',l',rfl,hid (.refl _) (hf'.sub s2) _ _,hid s1 hl' _ _,fun i ef el=>?_⟩,((hH.trans (s1.trans s2)).put h1 _).put n2 _⟩
 exact(hf'.nid ef).2.1 ((hl'.nid el).1)
theorem wO{h:Heap}{x:AV}{c:aK}(hb:RdC h x c)(hl:c.fields.length≤1000000)(hl2:c.log.length≤1000000):ai prog 114 [x] h fun r h' =>r=cq c∧h' =h:=
 ai.freeze fun g hg _=>(zu (hb.sub hg) hl hl2).mono fun r h' ⟨⟨f,l,e,hf,hlg,_⟩,h2⟩=>⟨h2,cq c,by
  subst e;refine .agg _ _ rfl fun i h1 h2=>?_
  rcases i with _|_|_|_|_|i
  ·exact aen
  ·exact aen
  ·exact aen
  ·exact hf.frz (bn (fun _=>rfl) _)
  ·exact hlg.frz (bn (fun _=>rfl) _)
  ·simp at h1;omega,rfl⟩
theorem Nj(l:List bR):gI (l.map cW)=true:=bn (fun _=>rfl) l
theorem Wi:(U 270).sz=1:=aei
theorem Wj:(U 266).sz=1:=aei
theorem uv(t:gj)(ht:l8 t=0)(h:Heap):ai prog 213 [aT t] h fun r h' =>r=aT t∧h' =h:=by
 obtain⟨hl,he⟩:=BS ht;refine ad2 func213 33 [.tmp 2] fun hwf=>?_
 simp only[go_sem,aT,adT];refine .intro (fun m ρ h' =>∃(i:Nat) (y:AV) (ys:List AV),Acc U 266 h h' y ys∧ys.length=i∧(∀j (h1:j<ys.length) (h2:j<t.length),∃q,ys[j]= .sl (t[j].map gm) q)∧i≤t.length∧m=t.length - i∧lk ρ 3=some y∧lk ρ 9=some (.sl (t.map cB) .no)∧lk ρ 10=some (.i t.length)∧lk ρ 11=some (.i i)) t.length ?_ ?_
 ·refine⟨0,_,[],.full (.refl _),rfl,fun j h1=>ad4,ad3,rfl,?_,?_,?_,?_⟩<;>simp only[go_sem]
 ·rintro m ρ h' ⟨i,y,ys,hy,hn,hys,hi,rfl,r3,r9,r10,r11⟩
  simp only[go_sem,r10,r11];refine .intro (fun e=>?_) (fun e=>?_)
  ·have hlt:i<t.length:=ad0 e
   have w1:IntKind.i64.wrap ((i:Int)+1)=((i+1:Nat):Int):=aeg;obtain⟨ha0,hal,hae⟩:=AW (he _ (adY hlt));simp only[go_sem,r9,r11];refine .at i ad4 aec ?_;simp only[go_sem,adU,cB,adT];refine .intro (fun m ρ H=>∃(j:Nat) (z:AV) (zs:List AV),Acc U 270 h' H z zs∧zs=(t[i].take j).map gm∧j≤t[i].length∧m=t[i].length - j∧lk ρ 3=some y∧lk ρ 9=some (.sl (t.map cB) .no)∧lk ρ 10=some (.i t.length)∧lk ρ 11=some (.i i)∧lk ρ 6=some z∧lk ρ 15=some (.sl (t[i].map gm) .no)∧lk ρ 16=some (.i t[i].length)∧lk ρ 17=some (.i j)) t[i].length ?_ ?_
   ·refine⟨0,_,[],.full (.refl _),rfl,ad3,rfl,?_,?_,?_,?_,?_,?_,?_,?_⟩<;>simp only[go_sem,r3,r9,r10,r11]
   ·rintro m ρ H ⟨j,z,zs,hz,rfl,hj,rfl,r3,r9,r10,r11,r6,r15,r16,r17⟩
    simp only[go_sem,r16,r17];refine .intro (fun e=>?_) (fun e=>?_)
    ·have hlt2:j<t[i].length:=ad0 e
     have w2:IntKind.i64.wrap ((j:Int)+1)=((j+1:Nat):Int):=aeg;have hml:=(AU (hae _ (adY hlt2))).2.1;simp only[go_sem,r15,r17];refine .at j ad4 aec ?_;simp only[go_sem,r6,adU,gm];refine(Dn _ (t[i][j].map cW) _ (eL cW 7 (fun _=>rfl) _ _) ad4 (Nj _)).pthen ?_
     simp only[go_sem];refine hz.app (zs:=[gm t[i][j]]) ad6 ad6 (fun k hk=>hk) (by rw[Wi];exact bu (f:=gm) (fun _=>rfl) _) (by rw[Wi];exact bu (f:=gm) (fun _=>rfl) [t[i][j]]) (by simp only[go_sem,adT,List.length_cons,List.length_nil,List.length_take];omega) fun z' H' hz' _=>?_
     simp only[go_sem,r17,w2];refine⟨_,?_,j+1,z',_,hz',?_,ad3,rfl,?_,?_,?_,?_,?_,?_,?_,?_⟩
     ·omega
     ·grind [List.take_succ_eq_append_getElem]
     all_goals simp only[go_sem,r3,r9,r10,r11,r15,r16]
    ·have hge:j=t[i].length:=by grind
     subst hge;rw[List.take_length]at hz;have hyH:=hy.sub hz.1;obtain⟨q,rfl⟩:=hz.row;simp only[go_sem,r3,r6];refine hyH.app (zs:=[.sl (t[i].map gm) q]) ad6 ad6 (fun k hk=>hk) (by rw[Wj];intro w hw;obtain⟨k,hk,rfl⟩:=List.mem_iff_getElem.1 hw;obtain⟨q',e'⟩:=hys k hk ad3;rw[e'];rfl) (by rw[Wj];intro w hw;rw[List.mem_singleton.1 hw];rfl) (by simp only[go_sem,hn,List.length_cons,List.length_nil];omega) fun y' H' hy' _=>?_
     simp only[go_sem,r11,w1];refine⟨_,?_,i+1,y',_,hy',ad4,fun k h1 h2=>?_,ad3,rfl,?_,?_,?_,?_⟩
     ·omega
     ·grind
     all_goals simp only[go_sem,r9,r10]
  ·have hge:i=t.length:=by grind
   simp only[go_sem,r3];obtain⟨q,rfl⟩:=hy.row;refine .mk (aT t) ?_ hy.1 ⟨rfl,rfl⟩;refine .deep _ _ q ad4 (fun k h1 h2=>?_) fun k h1 h2 j h3 h4=>?_
   ·obtain⟨q',e'⟩:=hys k h1 ad3
    rw[e',adU];rfl
   ·obtain⟨q',e'⟩:=hys k h1 ad3
    simp only[e',AV.cells,List.length_singleton]at h3;obtain rfl:j=0:=ad3;simp only[e',adU,cB,AV.cells,List.getElem_singleton];exact agG
theorem zD(t:gj):cO (aT t)=true:=by
 refine bn (fun a=>?_) t
 refine bn (fun b=>?_) a
 exact bn (fun _=>rfl) b
theorem Ko(l:List aO):cO (dY l)=true:=by simp only[dY,cO];exact bn (fun _=>rfl) l
theorem vL(l:List cE):cO (ay l)=true:=by simp only[ay,cO];exact bn (fun _=>rfl) l
theorem BF(r:cS):cO (aC r)=true:=by simp[aC,cO,gI,zD,Ko,vL]
mutual
theorem EI:∀p:bF,cO (aL p)=true
 |.mk id set alg tgt rules kids obls=>by simp[aL,cO,gI,zD,vL,bn BF rules,vK kids]
theorem vK:∀l:List bF,gI (fc l)=true
 | []=>rfl
 |k::r=>by simp[fc,gI,EI k,vK r]
end
theorem jG(p:bF):(aL p).cells.length=7:=by cases p;rfl
theorem OG{l:List aO}(h:kQ l=0):l.length≤32:=by grind [yF]
theorem Iq{l:List cE}(h:iK l=0):l.length≤8:=(ld h).1
theorem tC{H:Heap}{i:Nat}{x:Option Blk}(h:H i=x):upd H i x=H:=by grind [ah,ag]
theorem mA{tb:TypeId}{h:Heap}{sz id i:Nat}{y:AV}{xs cs:List AV}{t:TypeId}(hw:Ow tb h sz id y xs)(hi:h i=some (.obj cs t))(ht:t≠tb):id≠i:=by
 obtain⟨cap,rest,rfl,h1,_⟩:=hw
 grind
theorem kG{sz:Nat}{xs:List AV}(hs:Sized sz xs)(j:Nat)(hj:j<xs.length)(o:Nat)(c:List AV)(ho:o+c.length≤sz){rest:List AV}:
  (aq xs++rest).take (j*sz+o)++c++(aq xs++rest).drop (j*sz+o+c.length)=aq (xs.set j (.agg (Ab.over xs[j].cells o c)))++rest:=by
 have hl:=aZ hs;have hb:(j+1)*sz≤xs.length*sz:=Nat.mul_le_mul_right _ ad3;rw[Nat.add_mul,Nat.one_mul]at hb;have:=M5 (us:=aq xs) (vs:=rest) (o:=j*sz+o) (c:=c) ad3;rw[Ab.over]at this;rw[this,Jx hs j hj o c ho]
theorem oZ{α:Type}{xs:List α}{i:Nat}{x:α}(h:xs[i]? =some x):xs.set i x=xs:=by obtain⟨hi,rfl⟩:=List.getElem?_eq_some_iff.1 h;simp
theorem nV(id:Txt)(set:Bool)(alg:Int)(tgt:gj)(rules:List cS)(kids:List bF)(obls:List cE):aL (.mk id set alg tgt rules kids obls)= .agg [.s id,.b set,.i alg,aT tgt,.sl (rules.map aC) .no,.sl (kids.map aL) .no,ay obls]:=by simp[aL,aQ]
theorem uu:∀(p:bF) (d:Nat),mJ d p→∀h,ai prog 160 [aL p] h fun r h' =>r=aL p∧h' =h
 |.mk pid pset palg ptgt prules pkids pobls,d,hp,h=>by
  obtain⟨_,_,_,_,_,_,ht,ho,hr16,hk16,hre,hke⟩:=hp;rw[rz]at hke;have ih:∀(j:Nat) (hj:j<pkids.length) (h:Heap),ai prog 160 [aL pkids[j]] h fun r h' =>r=aL pkids[j]∧h' =h:=fun j hj h=>uu pkids[j] (d+1) (hke _ (adY hj)) h
  have hob:=Iq ho;refine ai.freeze fun g hg _=>?_
  rw[nV];refine ad2 func160 72 [.cell 2 38] fun hwf=>?_
  simp only[go_sem];intro i1 h1;simp only[go_sem];intro i2 h2;have n21:=aF h2;have n2:=aB h2;simp only[go_sem];obtain⟨H,eH⟩:∃H,upd (upd g i1 (some (.obj [.s pid,.b pset,.i palg,aT ptgt,.sl (prules.map aC) .no,.sl (pkids.map aL) .no,ay pobls] 38))) i2 (some (.obj [.s [],.b false,.i 0,.sl [] .full,.sl [] .full,.sl [] .full,.sl [] .full] 38))=H:=⟨_,rfl⟩;have hH:Ab.Sub g H:=by rw[←eH];exact((Sub.refl g).put h1 _).put n2 _
  have g1:H i1=some (.obj [.s pid,.b pset,.i palg,aT ptgt,.sl (prules.map aC) .no,.sl (pkids.map aL) .no,ay pobls] 38):=afD;have g2:H i2=some (.obj [.s [],.b false,.i 0,.sl [] .full,.sl [] .full,.sl [] .full,.sl [] .full] 38):=afv;rw[eH];refine .stage (hm1 i1 _) [0,1,3,4,2,6,5] [7,8,9] (.hm1 g1) ad7 ?_;simp only[go_sem,gz];refine(uv ptgt ht H).pthen ?_;refine⟨.hm1 g1,?_⟩;simp only[go_sem];refine(AZ _ (pobls.map bh) H (eL bh 3 (fun _=>rfl) _ _) aeD (bn (fun _=>rfl) _)).pthen ?_
  refine⟨.hm1 g1,cX,(fun _ _ e=>aet),?_⟩
  have cT:(aT ptgt).cells= [aT ptgt]:=rfl;simp only[go_sem,g1,show fit (aT ptgt) 1=(1=1)from rfl,cT]
  have eo:(.sl (pobls.map bh) .no:AV)=ay pobls:=rfl;rw[eo];refine⟨fun _ _ e=>aet,fun _ _ e=>aet,?_⟩
  rw[tC g1];refine .stage (hm1 i1 _) [0,1,3,4,2,6,5] [7,8,9] (.hm1 g1) ad7 ?_;simp only[go_sem,gz];refine(Je _ (prules.map aC) H (eL aC 5 (fun _=>rfl) _ _) aeD).mono fun y4 H1 ⟨w4,s1⟩=>?_
  refine⟨.hm1 (s1 _ _ g1),?_⟩;simp only[go_sem];refine(Dl _ (pkids.map aL) H1 (eL aL 7 jG _ _) aeD).mono fun y5 H2 ⟨w5,s2⟩=>?_
  have g1' :=s2 _ _ (s1 _ _ g1);have g2' :=s2 _ _ (s1 _ _ g2);refine⟨.hm1 g1',cX,(fun _ _ e=>aet),?_⟩
  simp only[go_sem,g1',w4.rd.fit,w4.rd.cells,w5.rd.fit,w5.rd.cells];refine⟨fun _ _ e=>aet,fun _ _ e=>aet,?_⟩
  have hn4:∀id,nid y4=some id→id≠i2:=fun id e=>cP (w4.nid e).1 g2
  have hn5:∀id,nid y5=some id→id≠i2:=fun id e=>cP (w5.nid e).1 (s1 _ _ g2)
  have hnd:∀i,nid y4=some i→nid y5≠some i:=fun i e4 e5=>(w4.nid e4).2.1 (w5.nid e5).1
  have v4:∀b,OwE 217 g (upd H2 i1 b) 5 y4 (prules.map aC):=fun b=>((w4.sub s2).less hH).keep fun id e=>ag _ _ (cP (w4.nid e).1 g1)
  have v5:∀b,OwE 38 g (upd H2 i1 b) 7 y5 (pkids.map aL):=fun b=>(w5.less (hH.trans s1)).keep fun id e=>ag _ _ (cP (s1.none (w5.nid e).1) g1)
  have vs:∀b,Ab.Sub g (upd H2 i1 b):=fun b=>(hH.trans (s1.trans s2)).put h1 b
  have vz:∀b,upd H2 i1 b i2=some (.obj [.s [],.b false,.i 0,.sl [] .full,.sl [] .full,.sl [] .full,.sl [] .full] 38):=fun b=>by rw[ag _ _ n21];exact g2'
  obtain⟨H3,eH3⟩:∃H3,upd H2 i1 (some (.obj [.s pid,.b pset,.i palg,aT ptgt,y4,y5,ay pobls] 38))=H3:=⟨_,rfl⟩;have q1:H3 i1=some (.obj [.s pid,.b pset,.i palg,aT ptgt,y4,y5,ay pobls] 38):=by rw[←eH3,ah]
  replace v4:=v4 (some (.obj [.s pid,.b pset,.i palg,aT ptgt,y4,y5,ay pobls] 38));replace v5:=v5 (some (.obj [.s pid,.b pset,.i palg,aT ptgt,y4,y5,ay pobls] 38));replace vs:=vs (some (.obj [.s pid,.b pset,.i palg,aT ptgt,y4,y5,ay pobls] 38));replace vz:=vz (some (.obj [.s pid,.b pset,.i palg,aT ptgt,y4,y5,ay pobls] 38));rw[eH3]at v4 v5 vs vz;rw[eH3];clear eH3;have hi1:∀id,g id=none→∀ {K:Heap} {b:Blk},K id=some b→K id≠none:=fun id _ K b e=>by rw[e];simp
  simp only[go_sem,v4.rd.len,adT];refine .intro (fun m ρ G=>∃i:Nat,G i1=some (.obj [.s pid,.b pset,.i palg,aT ptgt,y4,y5,ay pobls] 38)∧G i2=some (.obj [.s [],.b false,.i 0,.sl [] .full,.sl [] .full,.sl [] .full,.sl [] .full] 38)∧Ab.Sub g G∧OwE 217 g G 5 y4 (prules.map aC)∧OwE 38 g G 7 y5 (pkids.map aL)∧i≤prules.length∧m=prules.length - i∧
   lk ρ 1=some (.ptr i1 0)∧lk ρ 2=some (.ptr i2 0)∧lk ρ 24=some y4∧lk ρ 25=some (.i prules.length)∧lk ρ 26=some (.i i)) prules.length ?_ ?_
  ·refine⟨0,q1,vz,vs,v4,v5,ad3,rfl,?_,?_,?_,?_,?_⟩<;>simp only[go_sem]
  ·rintro m ρ G ⟨i,q1,vz,vs,v4,v5,hi,rfl,r1,r2,r24,r25,r26⟩
   simp only[go_sem,r25,r26];refine .intro (fun e=>?_) (fun e=>?_)
   ·have hlt:i<prules.length:=ad0 e
    have w1:=adZ i ad3;obtain⟨_,rt,rc,ro⟩:=hre _ (adY hlt);have hrc:=OG rc;have hro:=Iq ro;simp only[go_sem,r24,r26];refine v4.rd.idx (e:=217) i rfl aep aed ad6 fun p hp1=>?_
    have hld:=hp1.all (U:=U) (ty:=217) aed aeJ aeJ;simp only[go_sem,hld,adU,aC];intro i4 h4;have n41:i4≠i1:=cP h4 q1;simp only[go_sem];obtain⟨G4,eG4⟩:∃G4,upd G i4 (some (.obj [.s prules[i].id,.b prules[i].deny,aT prules[i].tgt,dY prules[i].cond,ay prules[i].obls] 217))=G4:=⟨_,rfl⟩;rw[eG4];have p1:G4 i1=some (.obj [.s pid,.b pset,.i palg,aT ptgt,y4,y5,ay pobls] 38):=agF;have p4:G4 i4=some (.obj [.s prules[i].id,.b prules[i].deny,aT prules[i].tgt,dY prules[i].cond,ay prules[i].obls] 217):=by rw[←eG4,ah]
    have sG:Ab.Sub G G4:=ahi;refine .calls (hm2 i1 (.obj [.s pid,.b pset,.i palg,aT ptgt,y4,y5,ay pobls] 38) i4 (.obj [.s prules[i].id,.b prules[i].deny,aT prules[i].tgt,dY prules[i].cond,ay prules[i].obls] 217)) [0,1,2,3,4,5,6,7,8,9,10,12,13,15,16,11,14,17,18,19,20,21,22,23,24,25,26] (.hm2 p1 p4) ad7 rfl ?_;simp only[go_sem,r1,pR _ _ n41.symm,pS];refine(uv prules[i].tgt rt G4).pthen ?_;refine⟨.hm2 p1 p4,?_⟩;simp only[go_sem];refine(FM _ (prules[i].cond.map cN) G4 (eL cN 7 (fun _=>rfl) _ _) aeD (bn (fun _=>rfl) _)).pthen ?_
    refine⟨.hm2 p1 p4,?_⟩;simp only[go_sem];refine(AZ _ (prules[i].obls.map bh) G4 (eL bh 3 (fun _=>rfl) _ _) aeD (bn (fun _=>rfl) _)).pthen ?_
    refine⟨.hm2 p1 p4,?_⟩;simp only[go_sem];obtain⟨id4,hg4,o4⟩:=(v4.sub sG).ow af9;have m1:id4≠i1:=mA o4 p1 ad6;have m4:id4≠i4:=fun e=>(v4.nid o4.nid).2.1 (by rw[e];exact h4)
    refine o4.idx (U:=U) (e:=217) i rfl aep aed ad6 ?_;simp only[go_sem];have o4' :=o4;obtain⟨cap,rest,ey,hid,hr,hc,hsz⟩:=o4';have hbd:i*5+5≤(aq (prules.map aC)++rest).length:=by rw[adX,aZ hsz,adT];omega
    have e2:List.take (i*5+2) (aq (prules.map aC)++rest)++(aT prules[i].tgt).cells++List.drop (i*5+2+(aT prules[i].tgt).cells.length) (aq (prules.map aC)++rest)=aq (prules.map aC)++rest:=by refine(kG hsz i aep 2 ((aT prules[i].tgt).cells) (adS rfl)).trans ?_;exact ajE
    have e3:List.take (i*5+3) (aq (prules.map aC)++rest)++ [.sl (prules[i].cond.map cN) .no]++List.drop (i*5+3+1) (aq (prules.map aC)++rest)=aq (prules.map aC)++rest:=by refine(kG hsz i aep 3 ([.sl (prules[i].cond.map cN) .no]) (adS rfl)).trans ?_;exact ajE
    have e4:List.take (i*5+4) (aq (prules.map aC)++rest)++ [.sl (prules[i].obls.map bh) .no]++List.drop (i*5+4+1) (aq (prules.map aC)++rest)=aq (prules.map aC)++rest:=by refine(kG hsz i aep 4 ([.sl (prules[i].obls.map bh) .no]) (adS rfl)).trans ?_;exact ajE
    simp only[go_sem,hid];rw[e2,tC hid];refine⟨rfl,ad3,.hm2 p1 p4,?_⟩;refine o4.idx (U:=U) (e:=217) i rfl aep aed ad6 ?_;simp only[go_sem,hid];rw[e3,tC hid];refine⟨ad3,.hm2 p1 p4,?_⟩;refine o4.idx (U:=U) (e:=217) i rfl aep aed ad6 ?_;simp only[go_sem,hid];rw[e4,tC hid];refine⟨ad3,.hm2 p1 p4,?_⟩;simp only[go_sem,r26,w1];refine⟨_,?_,i+1,p1,sG _ _ vz,vs.trans sG,v4.sub sG,v5.sub sG,ad3,rfl,?_,?_,?_,?_,?_⟩
    ·omega
    all_goals simp only[go_sem,r1,r2,r24,r25]
   ·have hge:i=prules.length:=by have:=adW e;omega
    clear hge;simp only[go_sem,r1,q1,v5.rd.len,adT];refine .intro (fun m ρ G=>∃i:Nat,G i1=some (.obj [.s pid,.b pset,.i palg,aT ptgt,y4,y5,ay pobls] 38)∧G i2=some (.obj [.s [],.b false,.i 0,.sl [] .full,.sl [] .full,.sl [] .full,.sl [] .full] 38)∧Ab.Sub g G∧OwE 217 g G 5 y4 (prules.map aC)∧OwE 38 g G 7 y5 (pkids.map aL)∧i≤pkids.length∧m=pkids.length - i∧
     lk ρ 1=some (.ptr i1 0)∧lk ρ 2=some (.ptr i2 0)∧lk ρ 57=some y5∧lk ρ 58=some (.i pkids.length)∧lk ρ 59=some (.i i)) pkids.length ?_ ?_
    ·refine⟨0,q1,vz,vs,v4,v5,ad3,rfl,?_,?_,?_,?_,?_⟩<;>simp only[go_sem,r1,r2]
    ·clear r1 r2 r24 r25 r26 q1 vz vs v4 v5 e hi
     rintro m ρ G ⟨i,q1,vz,vs,v4,v5,hi,rfl,r1,r2,r57,r58,r59⟩
     simp only[go_sem,r58,r59];refine .intro (fun e=>?_) (fun e=>?_)
     ·have hlt:i<pkids.length:=ad0 e
      have w1:=adZ i ad3;have ihi:=ih i hlt;have hci:=jG pkids[i];cases hpk:pkids[i]with
      |mk kid kset kalg ktgt krules kkids kobls=>
      rw[hpk,nV]at ihi;simp only[go_sem,r57,r59];refine v5.rd.idx (e:=38) i rfl aep aed ad6 fun p hp1=>?_
      have hld:=hp1.all (U:=U) (ty:=38) aed (by simp only[go_sem];rw[adU];exact hci) (by simp only[go_sem];rw[adU,hpk,nV];rfl)
      simp only[go_sem,hld,adU,hpk,nV];intro i4 h4;have n41:i4≠i1:=cP h4 q1;simp only[go_sem];obtain⟨G4,eG4⟩:∃G4,upd G i4 (some (.obj [.s kid,.b kset,.i kalg,aT ktgt,.sl (krules.map aC) .no,.sl (kkids.map aL) .no,ay kobls] 38))=G4:=⟨_,rfl⟩;rw[eG4];have p1:G4 i1=some (.obj [.s pid,.b pset,.i palg,aT ptgt,y4,y5,ay pobls] 38):=agF;have p4:G4 i4=some (.obj [.s kid,.b kset,.i kalg,aT ktgt,.sl (krules.map aC) .no,.sl (kkids.map aL) .no,ay kobls] 38):=by rw[←eG4,ah]
      have sG:Ab.Sub G G4:=ahi;refine .calls (hm2 i1 (.obj [.s pid,.b pset,.i palg,aT ptgt,y4,y5,ay pobls] 38) i4 (.obj [.s kid,.b kset,.i kalg,aT ktgt,.sl (krules.map aC) .no,.sl (kkids.map aL) .no,ay kobls] 38)) [0,1,2,3,4,5,6] (.hm2 p1 p4) ad7 rfl ?_;simp only[go_sem,r1,pR _ _ n41.symm,pS];refine(ihi G4).pthen ?_;refine⟨.hm2 p1 p4,?_⟩;simp only[go_sem];obtain⟨id4,hg4,o4⟩:=(v5.sub sG).ow af9;have o4' :=o4;obtain⟨cap,rest,ey,hid,hr,hc,hsz⟩:=o4';have hbd:i*7+7≤(aq (pkids.map aL)++rest).length:=by rw[adX,aZ hsz,adT];omega
      have e2:List.take (i*7) (aq (pkids.map aL)++rest)++ [.s kid,.b kset,.i kalg,aT ktgt,.sl (krules.map aC) .no,.sl (kkids.map aL) .no,ay kobls]++List.drop (i*7+7) (aq (pkids.map aL)++rest)=aq (pkids.map aL)++rest:=by refine(kG hsz i aep 0 [.s kid,.b kset,.i kalg,aT ktgt,.sl (krules.map aC) .no,.sl (kkids.map aL) .no,ay kobls] (adS rfl)).trans ?_;rw[oZ];rw[List.getElem?_eq_getElem aep,adU,hpk,nV];rfl
      refine o4.idx (U:=U) (e:=38) i rfl aep aed ad6 ?_;simp only[go_sem,hid];rw[e2,tC hid];refine⟨ad3,.hm2 p1 p4,?_⟩;simp only[go_sem,r59,w1];refine⟨_,?_,i+1,p1,sG _ _ vz,vs.trans sG,v4.sub sG,v5.sub sG,ad3,rfl,?_,?_,?_,?_,?_⟩
      ·omega
      all_goals simp only[go_sem,r1,r2,r57,r58]
     ·simp only[go_sem,r1,r2,q1,vz]
      refine .mk _ (.refl _) (.refl _) ⟨vs.put n2 _,aL (.mk pid pset palg ptgt prules pkids pobls),?_,nV ..⟩;rw[nV];have z4:∀b,Frz g (upd G i2 b) y4 (.sl (prules.map aC) .no):=fun b=>(v4.keep fun id e=>ag _ _ (hn4 id e)).frz (bn BF prules)
      have z5:∀b,Frz g (upd G i2 b) y5 (.sl (pkids.map aL) .no):=fun b=>(v5.keep fun id e=>ag _ _ (hn5 id e)).frz (by rw[←aQ];exact vK pkids)
      refine .agg _ _ rfl fun k k1 k2=>?_
      rcases k with _|_|_|_|_|_|_|k
      ·exact aen
      ·exact aen
      ·exact aen
      ·exact .pure (zD _)
      ·exact z4 _
      ·exact z5 _
      ·exact .pure (vL _)
      ·simp at k1;omega
termination_by p=>SizeOf.sizeOf p
decreasing_by
 have:=List.sizeOf_lt_of_mem (adY hj);simp only[bF.mk.sizeOf_spec];omega
end Go.Proofs.YtokahfmoollblaaGreatDoor
namespace Go.Ab
open Go
def apart(a b:AV):Prop:=∀i,nid a=some i→nid b≠some i
theorem apart.symm{a b:AV}(h:apart a b):apart b a:=fun i e1 e2=>h i e2 e1
theorem eJ{a y:AV}{tb:TypeId}{g h:Heap}{sz:Nat}{xs:List AV}(hw:OwE tb g h sz y xs)(ha:∀i,nid a=some i→g i≠none):apart a y:=fun i e1 e2=>ha i e1 (hw.nid e2).1
theorem OwE.there{tb:TypeId}{h0 h h' :Heap}{sz:Nat}{y:AV}{xs:List AV}(hw:OwE tb h0 h sz y xs)(hs:∀i,h i≠Option.none→h' i≠Option.none):∀i,Ab.nid y=some i→h' i≠Option.none:=fun i e=>hs i (hw.nid e).2.1
theorem Sub.some{h h' :Heap}(hs:Sub h h'):∀i,h i≠Option.none→h' i≠Option.none:=fun i e e' =>e (hs.none e')
end Go.Ab
namespace Go.Proofs.YtokahfmoollblaaGreatDoor
open Go Go.Ab Go.Bf Tryz
variable {cs L ys:List AV}{x:AV}{c:aK}
def fD(h0 h:Heap)(ys:List AV)(x:AV)(c:aK):Prop:=∃f l,x= .agg [.s c.id,.s c.owner,.s c.state,f,l]∧OwE 199 h0 h 4 f (c.fields.map bC)∧OwE 189 h0 h 3 l (c.log.map gv)∧apart f l∧∀y∈ys,apart f y∧apart l y
def mE(h0 h:Heap)(ys:List AV)(y1:AV)(cs:List aK)(i0:Nat):Prop:=∃xs,OwE 111 h0 h 5 y1 xs∧xs.length=cs.length∧(∀j (h1:j<xs.length) (h2:j<cs.length),j≠i0→xs[j]=cq cs[j])∧∀(h1:i0<xs.length) (h2:i0<cs.length),fD h0 h ys xs[i0] cs[i0]
def tI(h0 h:Heap)(x:AV)(s:an)(i0:Nat):Prop:=∃y1 y2 y3 y4,x= .agg ([.i s.tick,y1,y2,y3,y4]++gw s.policy++ [.i s.version])∧mE h0 h [y1,y2,y3,y4] y1 s.cases i0∧
 OwE 132 h0 h 7 y2 (s.reviews.map gA)∧OwE 135 h0 h 3 y3 (s.notices.map kr)∧OwE 138 h0 h 2 y4 (s.roles.map dw)∧apart y1 y2∧apart y1 y3∧apart y1 y4∧apart y2 y3∧apart y2 y4∧apart y3 y4
theorem Kj(h:L.length=cs.length):Ab.over cs 0 L=L:=by simp_all [Ab.over,List.take_zero,List.nil_append,Nat.zero_add,List.drop_of_length_le,List.append_nil]
theorem Ey{h:Heap}(i i0:Nat)(hb:RdC h x c)(hl:c.fields.length≤1000000)(hl2:c.log.length≤1000000):ai prog 114 [x] h fun r h' =>
  ∃f l,r= .agg [.s c.id,.s c.owner,.s c.state,f,l]∧Ab.Sub h h'∧f.cells= [f]∧l.cells= [l]∧(i≠i0→f=gL c.fields∧l=sZ c.log)∧(i=i0→OwE 199 h h' 4 f (c.fields.map bC)∧OwE 189 h h' 3 l (c.log.map gv)∧apart f l):=by
 by_cases e:i=i0
 ·exact(zu hb hl hl2).mono fun r h' ⟨⟨f,l,e1,a,b,c⟩,d⟩=>⟨f,l,e1,d,a.rd.cells,b.rd.cells,fun hh=>(hh e).elim,fun _=>⟨a,b,c⟩⟩
 ·exact(wO hb hl hl2).mono fun r h' ⟨e1,e2⟩=>⟨_,_,e1,by rw[e2];exact .refl _,rfl,rfl,fun _=>⟨rfl,rfl⟩,fun hh=>(e hh).elim⟩
theorem fD.sub{h0 h h' :Heap}(hm:fD h0 h ys x c)(hs:Ab.Sub h h'):fD h0 h' ys x c:=by obtain⟨f,l,e,a,b,c,d⟩:=hm;exact⟨f,l,e,a.sub hs,b.sub hs,c,d⟩
theorem fD.keep{h0 h h' :Heap}(hm:fD h0 h ys x c)(hs:∀f l,x= .agg [.s c.id,.s c.owner,.s c.state,f,l]→(∀y∈ys,apart f y∧apart l y)→∀i,(nid f=some i∨nid l=some i)→h' i=h i):fD h0 h' ys x c:=by obtain⟨f,l,e,a,b,c,d⟩:=hm;exact⟨f,l,e,a.keep fun i hi=>hs f l e d i (.inl hi),b.keep fun i hi=>hs f l e d i (.inr hi),c,d⟩
theorem SP{h:Heap}{s:an}(hb:RdS h x s)(i0:Nat)(hf:Few s)(hp:mJ 1 s.policy):ai prog 108 [x] h fun r h' =>tI h h' r s i0∧Ab.Sub h h' :=by
 obtain⟨y1,y2,y3,y4,rfl,⟨xs0,hc,hn,hcs⟩,h2,h3,h4⟩:=hb;have hpo:=uu s.policy 1 hp;cases hpp:s.policy with
 |mk pid pset palg ptgt prules pkids pobls=>
 rw[hpp,nV]at hpo;have hcC:gw (.mk pid pset palg ptgt prules pkids pobls)= [.s pid,.b pset,.i palg,aT ptgt,.sl (prules.map aC) .no,.sl (pkids.map aL) .no,ay pobls]:=ag4;have hfc:=hf.cases;refine ad2 func108 41 [.cell 2 40] fun hwf=>?_
 simp only[go_sem,hcC,List.cons_append,List.nil_append];intro i1 h1;simp only[go_sem];intro i2 h2';have n21:=aF h2';have n2:=aB h2';simp only[go_sem,aj,n21.symm];obtain⟨H,eH⟩:∃H,upd (upd h i1 (some (.obj [.i s.tick,y1,y2,y3,y4,.s pid,.b pset,.i palg,aT ptgt,.sl (prules.map aC) .no,.sl (pkids.map aL) .no,ay pobls,.i s.version] 40))) i2 (some (.obj [.i 0,.sl [] .full,.sl [] .full,.sl [] .full,.sl [] .full,.s [],.b false,.i 0,.sl [] .full,.sl [] .full,.sl [] .full,.sl [] .full,.i 0] 40))=H:=⟨_,rfl⟩;have hH:Ab.Sub h H:=ae1;have g1:H i1=some (.obj [.i s.tick,y1,y2,y3,y4,.s pid,.b pset,.i palg,aT ptgt,.sl (prules.map aC) .no,.sl (pkids.map aL) .no,ay pobls,.i s.version] 40):=afD;have g2:H i2=some (.obj [.i 0,.sl [] .full,.sl [] .full,.sl [] .full,.sl [] .full,.s [],.b false,.i 0,.sl [] .full,.sl [] .full,.sl [] .full,.sl [] .full,.i 0] 40):=afv;rw[eH];clear eH;refine(AX y1 xs0 H (hc.sub hH) ad3).mono fun z1 H1 ⟨w1,s1⟩=>?_
 simp only[go_sem,s1 _ _ g1,w1.rd.fit,w1.rd.cells];have v1:∀b,OwE 111 h (upd H1 i1 b) 5 z1 xs0:=fun b=>(w1.less hH).keep fun id e=>ag _ _ (cP (w1.nid e).1 g1)
 have vs:∀b,Ab.Sub h (upd H1 i1 b):=fun b=>(hH.trans s1).put h1 b
 have vz:∀b,upd H1 i1 b i2=some (.obj [.i 0,.sl [] .full,.sl [] .full,.sl [] .full,.sl [] .full,.s [],.b false,.i 0,.sl [] .full,.sl [] .full,.sl [] .full,.sl [] .full,.i 0] 40):=fun b=>by rw[ag _ _ n21];exact s1 _ _ g2
 have hz1:∀id,nid z1=some id→id≠i1:=fun id e=>cP (w1.nid e).1 g1
 have hz2:∀id,nid z1=some id→id≠i2:=fun id e=>cP (w1.nid e).1 g2
 obtain⟨H2,eH2⟩:∃H2,upd H1 i1 (some (.obj [.i s.tick,z1,y2,y3,y4,.s pid,.b pset,.i palg,aT ptgt,.sl (prules.map aC) .no,.sl (pkids.map aL) .no,ay pobls,.i s.version] 40))=H2:=⟨_,rfl⟩;replace v1:=v1 (some (.obj [.i s.tick,z1,y2,y3,y4,.s pid,.b pset,.i palg,aT ptgt,.sl (prules.map aC) .no,.sl (pkids.map aL) .no,ay pobls,.i s.version] 40));replace vs:=vs (some (.obj [.i s.tick,z1,y2,y3,y4,.s pid,.b pset,.i palg,aT ptgt,.sl (prules.map aC) .no,.sl (pkids.map aL) .no,ay pobls,.i s.version] 40));replace vz:=vz (some (.obj [.i s.tick,z1,y2,y3,y4,.s pid,.b pset,.i palg,aT ptgt,.sl (prules.map aC) .no,.sl (pkids.map aL) .no,ay pobls,.i s.version] 40));have q1:H2 i1=some (.obj [.i s.tick,z1,y2,y3,y4,.s pid,.b pset,.i palg,aT ptgt,.sl (prules.map aC) .no,.sl (pkids.map aL) .no,ay pobls,.i s.version] 40):=by rw[←eH2,ah]
 rw[eH2]at v1 vs vz;rw[eH2];clear eH2;simp only[go_sem,v1.rd.len,hn];refine .intro (fun m ρ G=>∃(i:Nat) (xs:List AV),G i1=some (.obj [.i s.tick,z1,y2,y3,y4,.s pid,.b pset,.i palg,aT ptgt,.sl (prules.map aC) .no,.sl (pkids.map aL) .no,ay pobls,.i s.version] 40)∧G i2=some (.obj [.i 0,.sl [] .full,.sl [] .full,.sl [] .full,.sl [] .full,.s [],.b false,.i 0,.sl [] .full,.sl [] .full,.sl [] .full,.sl [] .full,.i 0] 40)∧Ab.Sub h G∧OwE 111 h G 5 z1 xs∧xs.length=s.cases.length∧(∀j (h1:j<xs.length) (h2:j<s.cases.length),j<i→j≠i0→xs[j]=cq s.cases[j])∧(∀(h1:i0<xs.length) (h2:i0<s.cases.length),i0<i→fD h G [z1] xs[i0] s.cases[i0])∧(∀j (h1:j<xs.length) (h2:j<s.cases.length),i≤j→RdC h xs[j] s.cases[j])∧i≤s.cases.length∧m=s.cases.length - i∧
  lk ρ 1=some (.ptr i1 0)∧lk ρ 2=some (.ptr i2 0)∧lk ρ 10=some z1∧lk ρ 11=some (.i s.cases.length)∧lk ρ 12=some (.i i)) s.cases.length ?_ ?_
 ·refine⟨0,xs0,q1,vz,vs,v1,hn,fun j _ _ hj=>ad3,fun _ _ hj=>ad3,fun j a b _=>hcs j a b,ad3,rfl,?_,?_,?_,?_,?_⟩<;>simp only[go_sem]
 ·rintro m ρ G ⟨i,xs,q1,vz,vs,v1,hn,hlo,hmy,hhi,hi,rfl,r1,r2,r10,r11,r12⟩
  simp only[go_sem,r11,r12];refine .intro (fun e=>?_) (fun e=>?_)
  ·have hlt:i<s.cases.length:=ad0 e
   have hltx:i<xs.length:=ad3;have w1:=adZ i ad3;obtain⟨f,l,ex,hfl,hlg⟩:=hhi i hltx hlt (Nat.le_refl _);have hff:=hf.fields _ (adY hlt);have hfg:=hf.log _ (adY hlt);simp only[go_sem,r10,r12];refine v1.rd.idx (e:=111) i rfl hltx nZ ad6 fun p hp1=>?_
   have hld:=hp1.all (U:=U) (ty:=111) aed (by rw[nZ,ex];rfl) (by simp only[go_sem];rw[ex];rfl)
   simp only[go_sem,hld,ex];intro i4 h4;have n41:i4≠i1:=cP h4 q1;simp only[go_sem];obtain⟨G4,eG4⟩:∃G4,upd G i4 (some (.obj [.s s.cases[i].id,.s s.cases[i].owner,.s s.cases[i].state,f,l] 111))=G4:=⟨_,rfl⟩;rw[eG4];have p1:G4 i1=some (.obj [.i s.tick,z1,y2,y3,y4,.s pid,.b pset,.i palg,aT ptgt,.sl (prules.map aC) .no,.sl (pkids.map aL) .no,ay pobls,.i s.version] 40):=agF;have p4:G4 i4=some (.obj [.s s.cases[i].id,.s s.cases[i].owner,.s s.cases[i].state,f,l] 111):=by rw[←eG4,ah]
   have sG:Ab.Sub G G4:=ahi;refine .calls (hm2 i1 (.obj [.i s.tick,z1,y2,y3,y4,.s pid,.b pset,.i palg,aT ptgt,.sl (prules.map aC) .no,.sl (pkids.map aL) .no,ay pobls,.i s.version] 40) i4 (.obj [.s s.cases[i].id,.s s.cases[i].owner,.s s.cases[i].state,f,l] 111)) [0,1,2,3,4,5,6] (.hm2 p1 p4) ad7 rfl ?_;simp only[go_sem,r1,pR _ _ n41.symm,pS];refine(Ey i i0 (show RdC G4 (.agg [.s s.cases[i].id,.s s.cases[i].owner,.s s.cases[i].state,f,l]) s.cases[i]from⟨f,l,rfl,hfl.sub (vs.trans sG),hlg.sub (vs.trans sG)⟩) hff hfg).mono fun r G5 ⟨f',l',er,s5,cf,cl,hne,heq⟩=>?_
   subst er;have p1' :=s5 _ _ p1;have p4' :=s5 _ _ p4;refine⟨.hm2 p1' p4',?_⟩;simp only[go_sem];obtain⟨id1,hg1,o1⟩:=((v1.sub sG).sub s5).ow (by intro e;rw[e]at hltx;cases hltx)
   have t1:id1≠i1:=mA o1 p1' ad6;have t2:id1≠i2:=hz2 id1 o1.nid;have t3:G4 id1≠none:=fun e=>(v1.nid o1.nid).2.1 (sG.none e)
   have o1' :=o1;obtain⟨cap,rest,ey,hid,hr,hcap,hsz⟩:=o1';have hbd:i*5+5≤(aq xs++rest).length:=by rw[adX,aZ hsz];omega
   have hx5:xs[i].cells.length=5:=hsz _ (adY hltx);have e2:List.take (i*5) (aq xs++rest)++ [.s s.cases[i].id,.s s.cases[i].owner,.s s.cases[i].state,f',l']++List.drop (i*5+5) (aq xs++rest)=aq (xs.set i (.agg [.s s.cases[i].id,.s s.cases[i].owner,.s s.cases[i].state,f',l']))++rest:=by refine(kG hsz i hltx 0 [.s s.cases[i].id,.s s.cases[i].owner,.s s.cases[i].state,f',l'] (adS rfl)).trans ?_;rw[Kj (by rw[hx5];rfl)]
   refine o1.idx (U:=U) (e:=111) i rfl hltx nZ ad6 ?_;simp only[go_sem,hid];rw[e2];have t4:id1≠i4:=fun e=>(v1.nid o1.nid).2.1 (by rw[e];exact h4)
   refine⟨ad3,.hm2 (by rw[ag _ _ t1.symm];exact p1') (by rw[ag _ _ t4.symm];exact p4'),?_⟩
   simp only[go_sem,r12,w1];have ho:∀b k,k≠id1→upd G5 id1 b k=G5 k:=fun b k hk=>ag _ _ hk
   have hs6:∀b,Ab.Sub h (upd G5 id1 b):=fun b=>((vs.trans sG).trans s5).put hg1 b
   refine⟨_,?_,i+1,xs.set i (.agg [.s s.cases[i].id,.s s.cases[i].owner,.s s.cases[i].state,f',l']),(ho _ _ t1.symm).trans p1',(ho _ _ t2.symm).trans (s5 _ _ (sG _ _ vz)),hs6 _,.inr ⟨id1,hg1,cap,rest,agi,ah ..,by rw[List.length_set];exact hr,aga,?_⟩,by rw[List.length_set];exact hn,fun j a b hj hj0=>?_,fun a b hj=>?_,fun j a b hj=>?_,ad3,rfl,?_,?_,?_,?_,?_⟩
   ·omega
   ·intro z hz
    exact aiV
   ·have a' :j<xs.length:=by rw[List.length_set]at a;exact a
    by_cases hji:j=i
    ·subst hji
     obtain⟨ef,el⟩:=hne hj0;rw[List.getElem_set_self,ef,el];rfl
    ·rw[List.getElem_set_ne (Ne.symm hji)]
     exact hlo j a' b ad3 hj0
   ·have a' :i0<xs.length:=by rw[List.length_set]at a;exact a
    by_cases hji:i=i0
    ·subst hji
     obtain⟨of,ol,hap⟩:=heq rfl;have kf:∀k,G4 k=none→upd G5 id1 (some (.obj (aq (xs.set i (.agg [.s s.cases[i].id,.s s.cases[i].owner,.s s.cases[i].state,f',l']))++rest) 111)) k=G5 k:=fun k hk=>ag _ _ fun e=>t3 (by rw[←e];exact hk)
     rw[List.getElem_set_self];refine⟨f',l',rfl,(of.less (vs.trans sG)).keep fun k hk=>kf k (of.nid hk).1,(ol.less (vs.trans sG)).keep fun k hk=>kf k (ol.nid hk).1,hap,fun y hy=>?_⟩
     rw[List.mem_singleton.1 hy];have hz1:∀k,nid z1=some k→G4 k≠none:=(v1.sub sG).there fun k hk=>hk
     exact⟨(eJ of hz1).symm,(eJ ol hz1).symm⟩
    ·rw[List.getElem_set_ne hji]
     have hm:=hmy a' b ad3;refine fD.keep (h:=G5) ((hm.sub sG).sub s5) fun f l ex hap k hk=>?_
     refine ag _ _ fun e=>?_
     subst e;rcases hk with hk|hk
     ·exact(hap z1 (List.mem_singleton.2 rfl)).1 _ hk o1.nid
     ·exact(hap z1 (List.mem_singleton.2 rfl)).2 _ hk o1.nid
   ·have a' :j<xs.length:=by rw[List.length_set]at a;exact a
    rw[List.getElem_set_ne ad3];exact hhi j a' b ad3
   all_goals simp only[go_sem,r1,r2,r10,r11]
  ·have hge:i=s.cases.length:=by have:=adW e;omega
   simp only[go_sem];refine .stage (hm1 i1 (.obj [.i s.tick,z1,y2,y3,y4,.s pid,.b pset,.i palg,aT ptgt,.sl (prules.map aC) .no,.sl (pkids.map aL) .no,ay pobls,.i s.version] 40)) [0,1,3,4,6,7,2,9,5,8] [10,11,12,13,14] (.hm1 q1) ad7 ?_;simp only[go_sem,r1,gz];refine(wu y2 _ G (h2.sub vs) (by rw[adT];exact hf.reviews)).mono fun z2 G1 ⟨o2,s1⟩=>?_
   refine⟨.hm1 (s1 _ _ q1),?_⟩;simp only[go_sem,r1];refine(wq y3 _ G1 ((h3.sub vs).sub s1) (by rw[adT];exact hf.notices)).mono fun z3 G2 ⟨o3,s2⟩=>?_
   refine⟨.hm1 (s2 _ _ (s1 _ _ q1)),?_⟩;simp only[go_sem];refine(Jd y4 _ G2 (((h4.sub vs).sub s1).sub s2) (by rw[adT];exact hf.roles)).mono fun z4 G3 ⟨o4,s3⟩=>?_
   have s03:Ab.Sub G G3:=s1.trans (s2.trans s3);have q1' :=s03 _ _ q1;have q2' :=s03 _ _ vz;refine⟨.hm1 q1',cX,(fun _ _ e=>aet),?_⟩
   simp only[go_sem,r1,q1',o2.rd.fit,o2.rd.cells,o3.rd.fit,o3.rd.cells,o4.rd.fit,o4.rd.cells];refine⟨fun _ _ e=>aet,fun _ _ e=>aet,fun _ _ e=>aet,?_⟩
   refine(show ai prog 160 [_] _ _ from hpo _).pthen ?_
   have vz' :∀b,upd G3 i1 b i2=some (.obj [.i 0,.sl [] .full,.sl [] .full,.sl [] .full,.sl [] .full,.s [],.b false,.i 0,.sl [] .full,.sl [] .full,.sl [] .full,.sl [] .full,.i 0] 40):=fun b=>by rw[ag _ _ n21];exact q2'
   simp only[go_sem,r1,r2,vz'];have k1:∀ {tb:TypeId} {z:AV} {xs:List AV} {n:Nat} {g:Heap},OwE tb g G3 n z xs→Ab.Sub h g→(∀id,nid z=some id→id≠i1∧id≠i2)→∀a b,OwE tb h (upd (upd G3 i1 a) i2 b) n z xs:=fun w hg hn a b=>(w.less hg).keep fun id e=>by rw[ag _ _ (hn id e).2,ag _ _ (hn id e).1]
   have new:∀ {tb:TypeId} {z:AV} {xs:List AV} {n:Nat} {g:Heap},OwE tb g G3 n z xs→Ab.Sub G g→∀id,nid z=some id→id≠i1∧id≠i2:=fun w hg id e=>⟨cP (w.nid e).1 (hg _ _ q1),cP (w.nid e).1 (hg _ _ vz)⟩
   have n2' :=new (o2.sub (s2.trans s3)) (.refl _);have n3' :=new (o3.sub s3) s1;have n4' :=new o4 (s1.trans s2);have n1' :∀id,nid z1=some id→id≠i1∧id≠i2:=fun id e=>⟨hz1 id e,hz2 id e⟩
   have aG:∀k,nid z1=some k→G k≠none:=v1.there fun k hk=>hk
   refine .mk _ (.refl _) (.refl _) ⟨⟨z1,z2,z3,z4,by rw[hpp,hcC];rfl,⟨xs,k1 (v1.sub s03) (.refl _) n1' _ _,hn,fun j a b hj=>hlo j a b ad3 hj,fun a b=>?_⟩,k1 (o2.sub (s2.trans s3)) vs n2' _ _,k1 (o3.sub s3) (vs.trans s1) n3' _ _,k1 o4 (vs.trans (s1.trans s2)) n4' _ _,?_,?_,?_,?_,?_,?_⟩,((vs.trans s03).put h1 _).put n2 _⟩
   ·have hm:=(hmy a b ad3).sub s03
    obtain⟨f,l,ex,of,ol,hap,hy⟩:=hm;obtain⟨af,al⟩:=hy z1 (List.mem_singleton.2 rfl);have kf:∀k,nid f=some k→k≠i1∧k≠i2:=fun k hk=>⟨mA (of.nid hk).2.2 q1' ad6,mA (of.nid hk).2.2 q2' ad6⟩
    have kl:∀k,nid l=some k→k≠i1∧k≠i2:=fun k hk=>⟨mA (ol.nid hk).2.2 q1' ad6,mA (ol.nid hk).2.2 q2' ad6⟩
    obtain⟨f0,l0,ex0,of0,ol0,_⟩:=hmy a b ad3;obtain⟨rfl,rfl⟩:f0=f∧l0=l:=by rw[ex0]at ex;simp only[AV.agg.injEq,List.cons.injEq,true_and,and_true]at ex;exact ex
    have gf:∀k,nid f0=some k→G k≠none:=of0.there fun k hk=>hk
    have gl:∀k,nid l0=some k→G k≠none:=ol0.there fun k hk=>hk
    refine⟨f0,l0,ex,k1 of (.refl _) kf _ _,k1 ol (.refl _) kl _ _,hap,fun y hy=>?_⟩
    simp only[List.mem_cons,List.not_mem_nil,or_false]at hy;rcases hy with rfl|rfl|rfl|rfl
    ·exact⟨af,al⟩
    ·exact⟨eJ o2 gf,eJ o2 gl⟩
    ·exact⟨eJ o3 fun k hk=>s1.some k (gf k hk),eJ o3 fun k hk=>s1.some k (gl k hk)⟩
    ·exact⟨eJ o4 fun k hk=>(s1.trans s2).some k (gf k hk),eJ o4 fun k hk=>(s1.trans s2).some k (gl k hk)⟩
   ·exact eJ o2 aG
   ·exact eJ o3 fun k hk=>s1.some k (aG k hk)
   ·exact eJ o4 fun k hk=>(s1.trans s2).some k (aG k hk)
   ·exact eJ o3 (o2.there fun k hk=>hk)
   ·exact eJ o4 ((o2.sub s2).there fun k hk=>hk)
   ·exact eJ o4 (o3.there fun k hk=>hk)
end Go.Proofs.YtokahfmoollblaaGreatDoor
namespace Go.Ab
open Go
variable {A B C X:List AV}{k1 k2 k3 k4:Nat}
theorem pW{k m:Nat}(hk:k=A.length)(hm:m=X.length)(h:X.length=B.length):(A++(B++C)).take k++X++(A++(B++C)).drop (k+m)=A++(X++C):=by grind
theorem H7(h1:k1=A.length+X.length)(h2:k2=k1+B.length)(h3:k3=A.length)(h4:k4=k3+X.length)(hc:X.length≤C.length):
  List.take k3 (List.take k1 (A++(B++C))++B++List.drop k2 (A++(B++C)))++X++List.drop k4 (List.take k1 (A++(B++C))++B++List.drop k2 (A++(B++C)))=A++(X++(B++C.drop X.length)):=by
 subst h1;subst h2;subst h3;subst h4
 have e1:List.take (A.length+X.length) (A++(B++C))=A++List.take X.length (B++C):=ad4;have e2:List.drop (A.length+X.length+B.length) (A++(B++C))=C.drop X.length:=by grind [Nat.add_assoc,List.drop_drop,List.drop_left,Nat.add_comm]
 rw[e1,e2,List.append_assoc A];have e3:(List.take X.length (B++C)).length=X.length:=by rw[List.length_take,adX];omega
 have e4:A++(List.take X.length (B++C)++B++List.drop X.length C)=A++(List.take X.length (B++C)++(B++C.drop X.length)):=aea;rw[List.append_assoc A,e4];exact pW rfl rfl e3.symm
theorem Ia{Z R:List AV}(h1:k1=A.length)(h2:k2=k1+X.length)(h3:k3=A.length+X.length)(h4:k4=k3+B.length)(hz:Z.length=X.length+B.length):
  List.take k3 (List.take k1 (A++Z++R)++X++List.drop k2 (A++Z++R))++B++List.drop k4 (List.take k1 (A++Z++R)++X++List.drop k2 (A++Z++R))=A++(X++(B++R)):=by
 subst h1;subst h2;subst h3;subst h4
 obtain⟨Z1,Z2,rfl,e1⟩:∃Z1 Z2,Z=Z1++Z2∧Z1.length=X.length:=⟨Z.take X.length,Z.drop X.length,(List.take_append_drop _ _).symm,ad4⟩;have e2:Z2.length=B.length:=ad4;have e3:A++(Z1++Z2)++R=A++(Z1++(Z2++R)):=aea;rw[e3,pW rfl rfl e1.symm,←List.append_assoc A X,pW aea rfl e2.symm,List.append_assoc]
end Go.Ab
namespace Go.Proofs.YtokahfmoollblaaGreatDoor
open Go Go.Ab Go.Bf Tryz
theorem Kh{h:Heap}{v:AV}{id off len cap:Nat}{cs:List AV}{t:TypeId}(hv:v.cells.length=5)(hid:h id=some (.obj cs t))(hcs:cs≠ []):ai prog 161 [.sl [v] .full,.ob id off len cap 5] h fun r h' =>r= .b false∧h' =h:=
 wN (U:=U) (tS:=28) (tR:=4) (e:=111) hU func161 aei aei aei ad7 aei ad6 (by simp only[go_sem];omega) aea hid hcs
theorem Gk(y:AV)(xs:List AV)(v:AV)(i:Nat)(h0 h:Heap)(hw:OwE 111 h0 h 5 y xs)(hs0:Ab.Sub h0 h)(hi:i≤xs.length)(hl:xs.length≤1000000)(hv:v.cells.length=5)(hva:fit v 5):
  ai prog 110 [y,.i i,.sl [v] .full] h fun r h' =>OwE 111 h0 h' 5 r (xs.take i++([v]++xs.drop i))∧(∀k,h k≠none→nid y≠some k→h' k=h k)∧∀k,nid r=some k→h k=none∨nid y=some k:=by
 rcases hw with⟨rfl,rfl⟩|⟨id,hg,cap,rest,rfl,hid,hr,hc,hsz⟩
 ·obtain rfl:i=0:=by simpa using hi
  refine ad2 func110 95 [.tmp 6] fun hwf=>?_
  simp only[go_sem];refine⟨ad3,ad3,hv,.ob aed (kS.ow (xs:=[v]) afY ahn rfl fun id y' h' hid hw ho=>?_)⟩
  have hw' :Ow 111 h' 5 id y' [v]:=ag3;simp only[go_sem];refine .same (.refl _) ⟨.inr ⟨id,hs0.none hid,hw'⟩,fun k hk _=>ho k (fun e=>hk (by rw[e];exact hid)),fun k hk=>?_⟩
  rw[show au [y']=y' from rfl,hw'.nid]at hk
  cases hk;exact .inl hid
 ·have how:OwE 111 h0 h 5 (.ob id 0 xs.length cap 5) xs:=.inr ⟨id,hg,cap,rest,rfl,hid,hr,hc,hsz⟩
  have hfl:=aZ hsz;refine ad2 func110 95 [.tmp 6] fun hwf=>?_
  simp only[go_sem];refine⟨ad3,ad3,?_⟩;cases d1:((i:Int)==(xs.length:Int))
  case true=>
   have hin:i=xs.length:=by have:(i:Int)=(xs.length:Int):=ag1;omega
   simp only[go_sem];subst hin;refine⟨ad3,?_⟩;refine OwE.app (U:=U) (tb:=111) how hs0 (.sl agQ .full:Rd h 5 (.sl [v] .full) [v]) aed ad6 ad8 aed aea agq fun id2 y' h' g2 hor hw ho=>?_
   simp only[go_sem];have e1:xs.take xs.length++([v]++xs.drop xs.length)=xs++ [v]:=aea;refine .same (.refl _) ⟨by have:OwE 111 h0 h' 5 y' (xs++ [v]):=.inr ⟨id2,g2,hw⟩;rw[←e1]at this;exact this,fun k hk hk2=>ho k fun e=>?_,fun k hk=>?_⟩
   ·rcases hor with hor|⟨l,c,ey⟩
    ·exact hk ahV
    ·cases ey
     exact hk2 ahO
   ·exact ajl
  have hne:i<xs.length:=by have:¬(i:Int)=(xs.length:Int):=ag1;omega
  have wn:IntKind.i64.wrap ((xs.length:Int)+1)=((xs.length+1:Nat):Int):=aeA;have wi:=adZ i ad3;have wm:IntKind.i64.wrap (((xs.length+1:Nat):Int) - (i:Int))=((xs.length+1 - i:Nat):Int):=aeA;have f1:aq xs=aq (xs.take i)++aq (xs.drop i):=ahm;have f2:(aq (xs.take i)).length=i*5:=by rw[aZ (sz:=5) fun z hz=>hsz z (List.mem_of_mem_take hz),List.length_take,Nat.min_eq_left hi]
  have f3:(aq (xs.drop i)).length=(xs.length - i)*5:=by rw[aZ (sz:=5) fun z hz=>hsz z (List.mem_of_mem_drop hz),List.length_drop]
  have f4:aq (xs.take i++([v]++xs.drop i))=aq (xs.take i)++(v.cells++aq (xs.drop i)):=ahn;have f5:Sized 5 (xs.take i++([v]++xs.drop i)):=fun z hz=>by exact aiW
  have f6:(xs.take i++([v]++xs.drop i)).length=xs.length+1:=aeD;have f6' :(xs.take i++v::xs.drop i).length=xs.length+1:=f6;cases d2:decide ((cap:Int)<((xs.length+1:Nat):Int))
  ·have e2:=adW d2
   simp only[go_sem,wn,d2];refine⟨ad3,?_⟩;simp only[go_sem,wi];have hcs:aq xs++rest≠ []:=by intro e;have:=congrArg List.length e;rw[adX,hfl]at this;simp at this;omega
   refine⟨ad3,ad3,ad3,ad3,ad3,ad3,?_⟩;refine(Kh hv hid hcs).pthen ?_;simp only[go_sem];refine .calls cX [0,1,2,3,4,5,6,7,8] (fun _ _ e=>aet) ad7 rfl ?_
   simp only[go_sem,wi,hid,Nat.sub_zero];have hmin:min (xs.length+1 - i) (xs.length+1 - (i+1))=xs.length - i:=ad3;refine⟨ad3,ad3,ad3,ad3,ad3,ad3,xs.drop i,agI,agy, ?q1,fun z hz=>hsz z (List.mem_of_mem_drop hz),afZ,by rw[adX,hfl,hr];omega,ahK,ad3,ad3,ad3,hv,ad3, ?ln, ?fin⟩
   case q1=>rw[hmin,f1,List.append_assoc,←f2,List.drop_left,←f3,List.take_left]
   case ln=>simp only[adX,List.length_take,List.length_drop,hfl,hr,f3];omega
   have hrl:(5:Nat)≤rest.length:=by rw[hr];omega
   have hfv:aq [v]=v.cells:=ahn;have key:=H7 (A:=aq (xs.take i)) (B:=aq (xs.drop i)) (C:=rest) (X:=aq [v]) (k1:=(i+1)*5) (k2:=(i+1)*5+(aq (xs.drop i)).length) (k3:=i*5) (k4:=i*5+(aq [v]).length) ahw rfl f2.symm rfl (by rw[hfv,hv];exact hrl)
   rw[←List.append_assoc (aq (xs.take i)) (aq (xs.drop i)) rest,←f1]at key;rw[key];have e8:aq (xs.take i)++(aq [v]++(aq (xs.drop i)++rest.drop (aq [v]).length))=aq (xs.take i++([v]++xs.drop i))++rest.drop 5:=by rw[f4,hfv,hv];simp only[List.append_assoc]
   rw[e8];refine .same (.refl _) ⟨.inr ⟨id,hg,cap,rest.drop 5,by rw[←f6];rfl,ah _ _ _,by rw[List.length_drop,hr,f6'];omega,afF,f5⟩,fun k hk hk2=>ag _ _ fun e=>hk2 ahO,fun k hk=> .inr hk⟩
  ·have e2:=adV d2
   simp only[go_sem,wn,d2,wm];refine⟨ad3,?_⟩;simp only[go_sem,hid];have eA:List.take (i*5) (aq xs++rest)=aq (xs.take i):=by rw[f1,List.append_assoc,←f2,List.take_left]
   refine⟨ad3,ad3,ad3,ad3,ad3,ad3,by rw[adX,hfl];omega,?_⟩
   rw[Nat.sub_zero,eA];obtain⟨Z,eZ⟩:∃Z,cQ (AV.agg [AV.s [],AV.s [],AV.s [],AV.sl [] Perm.full,AV.sl [] Perm.full]) (xs.length+1 - i) 5=Z:=⟨_,rfl⟩;have lZ:Z.length=(xs.length+1 - i)*5:=by rw[←eZ];simp[cQ]
   rw[eZ];intro id2 cap2 rest2 hid2 hc2 hr2;have hx:¬id=id2:=fun e=>by rw[e,hid2]at hid;cases hid
   simp only[go_sem];have hfv:aq [v]=v.cells:=ahn;refine⟨ad3,ad3,ad3,hv,ad3,agb,?_⟩;refine .calls cX [0,1,2,3,4,5,6,7,8] (fun _ _ e=>aet) ad7 rfl ?_
   simp only[go_sem,wi,hid,hx,Nat.sub_zero];have hmin:min (xs.length - i) (i+(xs.length+1 - i) - (i+1))=xs.length - i:=ad3;have l0:(aq (xs.take i)++Z++rest2).length=(i+(xs.length+1 - i))*5+(cap2 - (i+(xs.length+1 - i)))*5:=agb;refine⟨ad3,ad3,ad3,ad3,ad3,ad3,xs.drop i,agI,agy, ?q2,fun z hz=>hsz z (List.mem_of_mem_drop hz),afZ, ?lm,ahK, ?fim⟩
   case q2=>rw[hmin,f1,List.append_assoc,←f2,List.drop_left,←f3,List.take_left]
   case lm=>rw[hfv];simp only[adX,List.length_take,List.length_drop,l0,hv];omega
   rw[Ia f2.symm rfl ahw rfl (by rw[hfv,hv,lZ,f3];omega)]
   have e8:aq (xs.take i)++(aq [v]++(aq (xs.drop i)++rest2))=aq (xs.take i++([v]++xs.drop i))++rest2:=by rw[f4,hfv];simp only[List.append_assoc]
   rw[e8];have e9:i+(xs.length+1 - i)=xs.length+1:=ad3;rw[e9]at hr2 hc2⊢;refine .same (.refl _) ⟨.inr ⟨id2,hs0.none hid2,cap2,rest2,by rw[←f6];rfl,ah _ _ _,by rw[hr2,f6'],by rw[f6'];omega,f5⟩,fun k hk hk2=>ag _ _ fun e=>hk (by rw[e];exact hid2),fun k hk=> .inl (by cases hk;exact hid2)⟩
theorem GK{h:Heap}{v:AV}{id off len cap:Nat}{cs:List AV}{t:TypeId}(hv:v.cells.length=4)(hid:h id=some (.obj cs t))(hcs:cs≠ []):ai prog 218 [.sl [v] .full,.ob id off len cap 4] h fun r h' =>r= .b false∧h' =h:=
 wN (U:=U) (tS:=108) (tR:=4) (e:=199) hU func218 aei aei aei ad7 aei ad6 (by simp only[go_sem];omega) aea hid hcs
theorem D7(y:AV)(xs:List AV)(v:AV)(i:Nat)(h0 h:Heap)(hw:OwE 199 h0 h 4 y xs)(hs0:Ab.Sub h0 h)(hi:i≤xs.length)(hl:xs.length≤1000000)(hv:v.cells.length=4)(hva:fit v 4):
  ai prog 164 [y,.i i,.sl [v] .full] h fun r h' =>OwE 199 h0 h' 4 r (xs.take i++([v]++xs.drop i))∧(∀k,h k≠none→nid y≠some k→h' k=h k)∧∀k,nid r=some k→h k=none∨nid y=some k:=by
 rcases hw with⟨rfl,rfl⟩|⟨id,hg,cap,rest,rfl,hid,hr,hc,hsz⟩
 ·obtain rfl:i=0:=by simpa using hi
  refine ad2 func164 95 [.tmp 6] fun hwf=>?_
  simp only[go_sem];refine⟨ad3,ad3,hv,.ob aed (kS.ow (xs:=[v]) afY ahn rfl fun id y' h' hid hw ho=>?_)⟩
  have hw' :Ow 199 h' 4 id y' [v]:=ag3;simp only[go_sem];refine .same (.refl _) ⟨.inr ⟨id,hs0.none hid,hw'⟩,fun k hk _=>ho k (fun e=>hk (by rw[e];exact hid)),fun k hk=>?_⟩
  rw[show au [y']=y' from rfl,hw'.nid]at hk
  cases hk;exact .inl hid
 ·have how:OwE 199 h0 h 4 (.ob id 0 xs.length cap 4) xs:=.inr ⟨id,hg,cap,rest,rfl,hid,hr,hc,hsz⟩
  have hfl:=aZ hsz;refine ad2 func164 95 [.tmp 6] fun hwf=>?_
  simp only[go_sem];refine⟨ad3,ad3,?_⟩;cases d1:((i:Int)==(xs.length:Int))
  case true=>
   have hin:i=xs.length:=by have:(i:Int)=(xs.length:Int):=ag1;omega
   simp only[go_sem];subst hin;refine⟨ad3,?_⟩;refine OwE.app (U:=U) (tb:=199) how hs0 (.sl agQ .full:Rd h 4 (.sl [v] .full) [v]) aed ad6 ad8 aed aea agq fun id2 y' h' g2 hor hw ho=>?_
   simp only[go_sem];have e1:xs.take xs.length++([v]++xs.drop xs.length)=xs++ [v]:=aea;refine .same (.refl _) ⟨by have:OwE 199 h0 h' 4 y' (xs++ [v]):=.inr ⟨id2,g2,hw⟩;rw[←e1]at this;exact this,fun k hk hk2=>ho k fun e=>?_,fun k hk=>?_⟩
   ·rcases hor with hor|⟨l,c,ey⟩
    ·exact hk ahV
    ·cases ey
     exact hk2 ahO
   ·exact ajl
  have hne:i<xs.length:=by have:¬(i:Int)=(xs.length:Int):=ag1;omega
  have wn:IntKind.i64.wrap ((xs.length:Int)+1)=((xs.length+1:Nat):Int):=aeA;have wi:=adZ i ad3;have wm:IntKind.i64.wrap (((xs.length+1:Nat):Int) - (i:Int))=((xs.length+1 - i:Nat):Int):=aeA;have f1:aq xs=aq (xs.take i)++aq (xs.drop i):=ahm;have f2:(aq (xs.take i)).length=i*4:=by rw[aZ (sz:=4) fun z hz=>hsz z (List.mem_of_mem_take hz),List.length_take,Nat.min_eq_left hi]
  have f3:(aq (xs.drop i)).length=(xs.length - i)*4:=by rw[aZ (sz:=4) fun z hz=>hsz z (List.mem_of_mem_drop hz),List.length_drop]
  have f4:aq (xs.take i++([v]++xs.drop i))=aq (xs.take i)++(v.cells++aq (xs.drop i)):=ahn;have f5:Sized 4 (xs.take i++([v]++xs.drop i)):=fun z hz=>by exact aiW
  have f6:(xs.take i++([v]++xs.drop i)).length=xs.length+1:=aeD;have f6' :(xs.take i++v::xs.drop i).length=xs.length+1:=f6;cases d2:decide ((cap:Int)<((xs.length+1:Nat):Int))
  ·have e2:=adW d2
   simp only[go_sem,wn,d2];refine⟨ad3,?_⟩;simp only[go_sem,wi];have hcs:aq xs++rest≠ []:=by intro e;have:=congrArg List.length e;rw[adX,hfl]at this;simp at this;omega
   refine⟨ad3,ad3,ad3,ad3,ad3,ad3,?_⟩;refine(GK hv hid hcs).pthen ?_;simp only[go_sem];refine .calls cX [0,1,2,3,4,5,6,7,8] (fun _ _ e=>aet) ad7 rfl ?_
   simp only[go_sem,wi,hid,Nat.sub_zero];have hmin:min (xs.length+1 - i) (xs.length+1 - (i+1))=xs.length - i:=ad3;refine⟨ad3,ad3,ad3,ad3,ad3,ad3,xs.drop i,agI,agy, ?q1,fun z hz=>hsz z (List.mem_of_mem_drop hz),afZ,by rw[adX,hfl,hr];omega,ahK,ad3,ad3,ad3,hv,ad3, ?ln, ?fin⟩
   case q1=>rw[hmin,f1,List.append_assoc,←f2,List.drop_left,←f3,List.take_left]
   case ln=>simp only[adX,List.length_take,List.length_drop,hfl,hr,f3];omega
   have hrl:(4:Nat)≤rest.length:=by rw[hr];omega
   have hfv:aq [v]=v.cells:=ahn;have key:=H7 (A:=aq (xs.take i)) (B:=aq (xs.drop i)) (C:=rest) (X:=aq [v]) (k1:=(i+1)*4) (k2:=(i+1)*4+(aq (xs.drop i)).length) (k3:=i*4) (k4:=i*4+(aq [v]).length) ahw rfl f2.symm rfl (by rw[hfv,hv];exact hrl)
   rw[←List.append_assoc (aq (xs.take i)) (aq (xs.drop i)) rest,←f1]at key;rw[key];have e8:aq (xs.take i)++(aq [v]++(aq (xs.drop i)++rest.drop (aq [v]).length))=aq (xs.take i++([v]++xs.drop i))++rest.drop 4:=by rw[f4,hfv,hv];simp only[List.append_assoc]
   rw[e8];refine .same (.refl _) ⟨.inr ⟨id,hg,cap,rest.drop 4,by rw[←f6];rfl,ah _ _ _,by rw[List.length_drop,hr,f6'];omega,afF,f5⟩,fun k hk hk2=>ag _ _ fun e=>hk2 ahO,fun k hk=> .inr hk⟩
  ·have e2:=adV d2
   simp only[go_sem,wn,d2,wm];refine⟨ad3,?_⟩;simp only[go_sem,hid];have eA:List.take (i*4) (aq xs++rest)=aq (xs.take i):=by rw[f1,List.append_assoc,←f2,List.take_left]
   refine⟨ad3,ad3,ad3,ad3,ad3,ad3,by rw[adX,hfl];omega,?_⟩
   rw[Nat.sub_zero,eA];obtain⟨Z,eZ⟩:∃Z,cQ (AV.agg [AV.s [],AV.v (Value.int IntKind.i64 0),AV.v (Value.int IntKind.i64 0),AV.s []]) (xs.length+1 - i) 4=Z:=⟨_,rfl⟩;have lZ:Z.length=(xs.length+1 - i)*4:=by rw[←eZ];simp[cQ]
   rw[eZ];intro id2 cap2 rest2 hid2 hc2 hr2;have hx:¬id=id2:=fun e=>by rw[e,hid2]at hid;cases hid
   simp only[go_sem];have hfv:aq [v]=v.cells:=ahn;refine⟨ad3,ad3,ad3,hv,ad3,agb,?_⟩;refine .calls cX [0,1,2,3,4,5,6,7,8] (fun _ _ e=>aet) ad7 rfl ?_
   simp only[go_sem,wi,hid,hx,Nat.sub_zero];have hmin:min (xs.length - i) (i+(xs.length+1 - i) - (i+1))=xs.length - i:=ad3;have l0:(aq (xs.take i)++Z++rest2).length=(i+(xs.length+1 - i))*4+(cap2 - (i+(xs.length+1 - i)))*4:=agb;refine⟨ad3,ad3,ad3,ad3,ad3,ad3,xs.drop i,agI,agy, ?q2,fun z hz=>hsz z (List.mem_of_mem_drop hz),afZ, ?lm,ahK, ?fim⟩
   case q2=>rw[hmin,f1,List.append_assoc,←f2,List.drop_left,←f3,List.take_left]
   case lm=>rw[hfv];simp only[adX,List.length_take,List.length_drop,l0,hv];omega
   rw[Ia f2.symm rfl ahw rfl (by rw[hfv,hv,lZ,f3];omega)]
   have e8:aq (xs.take i)++(aq [v]++(aq (xs.drop i)++rest2))=aq (xs.take i++([v]++xs.drop i))++rest2:=by rw[f4,hfv];simp only[List.append_assoc]
   rw[e8];have e9:i+(xs.length+1 - i)=xs.length+1:=ad3;rw[e9]at hr2 hc2⊢;refine .same (.refl _) ⟨.inr ⟨id2,hs0.none hid2,cap2,rest2,by rw[←f6];rfl,ah _ _ _,by rw[hr2,f6'],by rw[f6'];omega,f5⟩,fun k hk hk2=>ag _ _ fun e=>hk (by rw[e];exact hid2),fun k hk=> .inl (by cases hk;exact hid2)⟩
end Go.Proofs.YtokahfmoollblaaGreatDoor
namespace Go.Ab
open Go
noncomputable def pick (H:Heap) (l:List Nat):Heap:=fun j=>if j∈l then H j else none
theorem bG{H:Heap}{l:List Nat}{j:Nat}(hj:j∈l):pick H l j=H j:=if_pos hj
theorem iW{H h' :Heap}{l:List Nat}(hs:∀j∈l,h' j=H j):Sub (pick H l) h' :=fun j b hb=>by simp_all [bG,pick,if_neg]
theorem bz{H:Heap}{l:List Nat}:Sub (pick H l) H:=iW fun _ _=>rfl
end Go.Ab
namespace Go.Proofs.YtokahfmoollblaaGreatDoor
open Go Go.Ab Go.Bf Tryz
variable {s:an}{A B:List AV}{c:aK}{name:Txt}{fs:List cR}{cs:List aK}{x:AV}
def cm(c:aK)(f l:AV):List AV:=[.s c.id,.s c.owner,.s c.state,f,l]
theorem sS{h0 h:Heap}(y1 y2 y3 y4:AV){k o:Nat}{t:TypeId}{f l:AV}(ho:o=A.length)(hk:h k=some (.obj (A++(cm c f l++B)) t))(ht:t≠189)
  (hlo:OwE 189 h0 h 3 l (c.log.map gv)) (hs0:Ab.Sub h0 h) (hll:c.log.length≤1000000) (actor what:Txt):
  ai prog 109 [.agg ([.i s.tick,y1,y2,y3,y4]++gw s.policy++ [.i s.version]),.ptr k o,.s actor,.s what] h fun r h' =>∃l',OwE 189 h0 h' 3 l' ((c.log++ [(⟨s.tick,actor,what⟩:u0)]).map gv)∧h' k=some (.obj (A++(cm c f l' ++B)) t)∧(∀j,h j≠none→j≠k→nid l≠some j→h' j=h j)∧∀j,nid l' =some j→h j=none∨nid l=some j:=by
 cases hpp:s.policy with
 |mk pid pset palg ptgt prules pkids pobls=>
 have hcC:gw (.mk pid pset palg ptgt prules pkids pobls)= [.s pid,.b pset,.i palg,aT ptgt,.sl (prules.map aC) .no,.sl (pkids.map aL) .no,ay pobls]:=ag4;refine ad2 func109 22 [] fun hwf=>?_
 simp only[go_sem,hcC,List.cons_append,List.nil_append];intro i1 h1;simp only[go_sem];obtain⟨H,eH⟩:∃H,upd h i1 (some (.obj [.i s.tick,y1,y2,y3,y4,.s pid,.b pset,.i palg,aT ptgt,.sl (prules.map aC) .no,.sl (pkids.map aL) .no,ay pobls,.i s.version] 40))=H:=⟨_,rfl⟩;have n1k:k≠i1:=fun e=>by rw[e,h1]at hk;cases hk
 have g1:H i1=some (.obj [.i s.tick,y1,y2,y3,y4,.s pid,.b pset,.i palg,aT ptgt,.sl (prules.map aC) .no,.sl (pkids.map aL) .no,ay pobls,.i s.version] 40):=afv;have gk:H k=some (.obj (A++(cm c f l++B)) t):=by rw[←eH,ag _ _ n1k];exact hk
 have hH:Ab.Sub h H:=by rw[←eH];exact(Sub.refl h).put h1 _
 have hoj:∀j,j≠i1→H j=h j:=fun j hj=>by rw[←eH];exact ag _ _ hj
 rw[eH];clear eH;refine .stage (hm2 k (.obj (A++(cm c f l++B)) t) i1 (.obj [.i s.tick,y1,y2,y3,y4,.s pid,.b pset,.i palg,aT ptgt,.sl (prules.map aC) .no,.sl (pkids.map aL) .no,ay pobls,.i s.version] 40)) [0,1,2,3,4,5,6,7,8,9,10,11,12,13] [14] (.hm2 gk g1) ad7 ?_;have hc4:(A++(cm c f l++B))[o+4]? =some l:=afS;obtain⟨CS,eCS⟩:∃CS,A++(cm c f l++B)=CS:=⟨_,rfl⟩;rw[eCS]at hc4 gk⊢;simp only[go_sem,pS,pR _ _ n1k,hc4];have hap1:Rd H 3 (.sl [gv ⟨s.tick,actor,what⟩] .full) [gv ⟨s.tick,actor,what⟩]:=.sl aeP .full;refine OwE.app (U:=U) (tb:=189) (hlo.sub hH) (hs0.trans hH) hap1 aed ad6 ad8 aed aea aeB fun id2 y' h' g2 hor hw ho2=>?_
 have hor' :H id2=none∨nid l=some id2:=by exact aiN
 have k2:k≠id2:=by
  rcases hor' with hor|hor
  ·exact fun e=>by rw[←e,gk]at hor;cases hor
  ·exact(mA ((hlo.sub hH).nid hor).2.2 gk ht).symm
 have i2:i1≠id2:=by
  rcases hor' with hor|hor
  ·exact fun e=>by rw[←e,g1]at hor;cases hor
  ·exact fun e=>(hlo.nid hor).2.1 (by rw[←e];exact h1)
 have gk' :=(ho2 k k2).trans gk;have gi' :=(ho2 i1 i2).trans g1;refine⟨.hm2 gk' gi',?_⟩;simp only[go_sem];refine⟨cX,(fun _ _ e=>aet),?_⟩
 simp only[go_sem,gk',hw.rd.fit,hw.rd.cells];have lCS:CS.length=A.length+(5+B.length):=by rw[←eCS];simp[cm];omega
 have e5:List.take (o+4) CS++ [y']++List.drop (o+4+1) CS=A++(cm c f y' ++B):=by
  have:=pW (A:=A++ [.s c.id,.s c.owner,.s c.state,f]) (B:=[l]) (C:=B) (X:=[y']) (k:=o+4) (m:=1) (by rw[ho];simp) rfl rfl
  exact ajK
 rw[e5];refine⟨ad3,(fun _ _ e=>aet),.same (.refl _) ⟨y',?_,ah ..,fun j hj hjk hjl=>?_,fun j hj=>?_⟩⟩
 ·have hw' :Ow 189 (upd h' k (some (.obj (A++(cm c f y' ++B)) t))) 3 id2 y' (c.log.map gv++ [gv ⟨s.tick,actor,what⟩]):=hw.same (ag _ _ k2.symm)
  rw[List.map_append];exact .inr ⟨id2,g2,hw'⟩
 ·have hj2:j≠id2:=by
   rcases hor' with hor|hor
   ·intro e
    have:=hoj j (fun e' =>hj (by rw[e'];exact h1))
    rw[e,hor]at this;exact hj (by rw[e];exact this.symm)
   ·exact fun e=>hjl ahV
  have hj1:j≠i1:=fun e=>hj (by rw[e];exact h1)
  rw[ag _ _ hjk,ho2 j hj2,hoj j hj1]
 ·have:id2=j:=by have:=hw.nid;rw[hj]at this;exact(Option.some.inj this).symm
  rw[←this];rcases hor' with hor|hor
  ·refine .inl ?_
   cases hh:h id2 with
   |none=>rfl
   |some b=>rw[hH _ _ hh]at hor;cases hor
  ·exact .inr hor
theorem K0{h:Heap}(f:cR){k:Nat}(hk:h k=some (.obj [.s name] 9)):ai prog 163 [bC f,.ptr k 0] h fun r h' =>r= .b (geB f.name name)∧h' =h:=by
 refine ad2 func163 8 [.tmp 3] fun hwf=>?_
 simp only[go_sem,bC];exact aiv
theorem Hv{v:bB}(hx:¬fs.findIdx (fun f=>geB f.name name)<fs.length):fo fs name v=fs++ [⟨name,v⟩]:=by grind [fo,List.getElem?_eq_none,geB]
theorem Ae{v:bB}(hx:fs.findIdx (fun f=>geB f.name name)<fs.length)(he:fs[fs.findIdx (fun f=>geB f.name name)].name=name):fo fs name v=fs.set (fs.findIdx (fun f=>geB f.name name)) ⟨name,v⟩:=by simp_all [fo,List.getElem?_eq_getElem,if_true]
theorem Hw{v:bB}(hx:fs.findIdx (fun f=>geB f.name name)<fs.length)(he:fs[fs.findIdx (fun f=>geB f.name name)].name≠name):fo fs name v=fs.take (fs.findIdx (fun f=>geB f.name name))++ [⟨name,v⟩]++fs.drop (fs.findIdx (fun f=>geB f.name name)):=by simp_all [fo,List.getElem?_eq_getElem,if_false]
theorem N4{h0 h:Heap}{k o:Nat}{t:TypeId}{f l:AV}(ho:o=A.length)(hk:h k=some (.obj (A++(cm c f l++B)) t))(ht:t≠199)
  (hfo:OwE 199 h0 h 4 f (c.fields.map bC)) (hs0:Ab.Sub h0 h) (hff:c.fields.length≤1000000) (name:Txt) (v:bB):
  ai prog 111 [.ptr k o,.s name,aV v] h fun r h' =>∃f',OwE 199 h0 h' 4 f' ((fo c.fields name v).map bC)∧h' k=some (.obj (A++(cm c f' l++B)) t)∧(∀j,h j≠none→j≠k→nid f≠some j→h' j=h j)∧∀j,nid f' =some j→h j=none∨nid f=some j:=by
 have hc3:(A++(cm c f l++B))[o+3]? =some f:=afS;have lCS:(A++(cm c f l++B)).length=A.length+(5+B.length):=by simp[cm];omega
 have e5:∀y',List.take (o+3) (A++(cm c f l++B))++ [y']++List.drop (o+3+1) (A++(cm c f l++B))=A++(cm c y' l++B):=fun y' =>by
  have:=pW (A:=A++ [.s c.id,.s c.owner,.s c.state]) (B:=[f]) (C:=l::B) (X:=[y']) (k:=o+3) (m:=1) (by rw[ho];simp) rfl rfl
  exact ajU
 obtain⟨CS,eCS⟩:∃CS,A++(cm c f l++B)=CS:=⟨_,rfl⟩;rw[eCS]at hc3 hk lCS e5;refine ad2 func111 60 [] fun hwf=>?_
 simp only[go_sem,aV];intro i1 h1;simp only[go_sem];intro i2 h2;have n21:=aF h2;have n2:=aB h2;have nk1:k≠i1:=fun e=>by rw[e,h1]at hk;cases hk
 have nk2:k≠i2:=fun e=>by rw[e,n2]at hk;cases hk
 obtain⟨H,eH⟩:∃H,upd (upd h i1 (some (.obj [.s name] 9))) i2 (some (.obj [.i v.kind,.i v.n,.s v.s] 44))=H:=⟨_,rfl⟩;have g1:H i1=some (.obj [.s name] 9):=afD;have g2:H i2=some (.obj [.i v.kind,.i v.n,.s v.s] 44):=afv;have gk:H k=some (.obj CS t):=by rw[←eH,ag _ _ nk2,ag _ _ nk1];exact hk
 have hH:Ab.Sub h H:=ae1;have hoj:∀j,h j≠none→H j=h j:=fun j hj=>by rw[←eH,ag _ _ (fun e=>hj (by rw[e];exact n2)),ag _ _ (fun e=>hj (by rw[e];exact h1))]
 rw[eH];clear eH;simp only[go_sem,gk,hc3];refine(yW f _ c.fields (fun f=>geB f.name name) _ [.ptr i1 0] _ (hfo.sub hH).rd aea aeD (pE (fun _=>rfl) _) fun i a b=>by rw[adU];exact K0 _ g1).pthen ?_
 have hns:∀G,Ab.Sub cX G:=fun G _ _ e=>aet
 by_cases hx:c.fields.findIdx (fun f=>geB f.name name)<c.fields.length
 ·obtain⟨i,ei⟩:∃i,c.fields.findIdx (fun f=>geB f.name name)=i:=⟨_,rfl⟩
  have hxm:i<(c.fields.map bC).length:=by rw[←ei];simpa using hx
  have e1:ixD (fun f=>geB f.name name) c.fields=(i:Nat):=by rw[ixD,ei];exact if_pos (by rw[←ei];exact hx)
  have d1:decide (((i:Nat):Int)<0)=false:=decide_eq_false ad3;rw[e1];simp only[go_sem,d1];refine⟨.of ad7,?_⟩;simp only[go_sem,gk,hc3];refine(hfo.sub hH).rd.idx (e:=199) i rfl hxm Hr ad6 fun p hp1=>?_
  simp only[go_sem];refine hp1.field (f:=0) (off:=0) (t:=9) rfl KS fun p2 hp2=>?_
  have hld:=hp2.part (U:=U) (ty:=9) KS (by rw[adU,NT];exact adS rfl)
  simp only[go_sem,hld,adU,bC,g1];have hxi:i<c.fields.length:=by rw[←ei];exact hx
  cases d2:(c.fields[i].name==name)
  ·have hne:c.fields[i].name≠name:=by simpa using d2
   simp only[go_sem];refine .stage (pick H [k,i1,i2]) [0,1,2,3,4,5,6,7,8,9,10,11,12] [13] bz ad7 ?_;simp only[go_sem,bG (show k∈ [k,i1,i2] by simp),bG (show i1∈ [k,i1,i2] by simp),bG (show i2∈ [k,i1,i2] by simp),gk,g1,g2,hc3]
   refine(D7 f _ (bC ⟨name,v⟩) i h0 H (hfo.sub hH) (hs0.trans hH) ad3 (by simpa using hff) rfl (by simp[bC,Ab.fit])).mono fun f' H1 ⟨w1,fr,ap⟩=>?_
   have nk:nid f≠some k:=fun e=>mA ((hfo.sub hH).nid e).2.2 gk ht rfl
   have n1' :nid f≠some i1:=fun e=>(hfo.nid e).2.1 h1
   have n2' :nid f≠some i2:=fun e=>(hfo.nid e).2.1 n2
   have gk' :H1 k=some (.obj CS t):=(fr k (by rw[gk];simp) nk).trans gk
   refine⟨iW fun j hj=>?_,?_⟩
   ·simp only[List.mem_cons,List.not_mem_nil,or_false]at hj
    rcases hj with rfl|rfl|rfl
    ·exact fr _ (by rw[gk];simp) nk
    ·exact fr _ (by rw[g1];simp) n1'
    ·exact fr _ (by rw[g2];simp) n2'
   simp only[go_sem];refine⟨cX,hns _,?_⟩;simp only[go_sem,gk',w1.rd.fit,w1.rd.cells];have hk2:nid f'≠some k:=fun e=>by
    rcases ap k e with h|h
    ·rw[gk]at h;cases h
    ·exact nk h
   have em:List.take i (c.fields.map bC)++([bC ⟨name,v⟩]++List.drop i (c.fields.map bC))=(fo c.fields name v).map bC:=by
    rw[Hw hx (by simp only[ei];exact hne),ei]
    simp[List.map_append,List.map_take,List.map_drop]
   rw[e5];rw[em]at w1;refine⟨ad3,hns _,.same (.refl _) ⟨f',w1.keep fun id e=>ag _ _ fun e' =>hk2 (by rw[←e'];exact e),ah ..,fun j hj hjk hjl=>?_,fun j hj=>?_⟩⟩
   ·rw[ag _ _ hjk,fr j (by rw[hoj j hj];exact hj) hjl,hoj j hj]
   ·rcases ap j hj with h|h
    ·exact .inl (hH.none h)
    ·exact .inr h
  ·have heq:c.fields[i].name=name:=by simpa using d2
   simp only[go_sem];refine⟨.of ad7,?_⟩;simp only[go_sem,gk,g2,hc3];obtain⟨id1,hg1,o1⟩:=(hfo.sub hH).ow (by intro e;rw[e]at hxm;cases hxm)
   have t1:id1≠k:=mA o1 gk ht;have o1' :=o1;obtain⟨cap,rest,ey,hid,hr,hcap,hsz⟩:=o1';refine o1.idx (U:=U) (e:=199) i rfl hxm Hr ad6 ?_;simp only[go_sem,hid];have hxl:=adU (f:=bC) (l:=c.fields) (i:=i) (h:=hxm);have e2:List.take (i*4+1) (aq (c.fields.map bC)++rest)++ [.i v.kind,.i v.n,.s v.s]++List.drop (i*4+1+3) (aq (c.fields.map bC)++rest)=aq ((fo c.fields name v).map bC)++rest:=by
    refine(kG hsz i hxm 1 [.i v.kind,.i v.n,.s v.s] (adS rfl)).trans ?_;rw[Ae hx (by simp only[ei];exact heq),ei,List.map_set,hxl]
    have:AV.agg (over (bC c.fields[i]).cells 1 [.i v.kind,.i v.n,.s v.s])=bC ⟨name,v⟩:=by rw[←heq];rfl
    rw[this]
   have lw:(fo c.fields name v).length=c.fields.length:=by rw[Ae hx (by simp only[ei];exact heq),List.length_set]
   rw[e2];refine⟨by rw[adX,aZ hsz];omega,.same (.refl _) ⟨f,.inr ⟨id1,hg1,cap,rest,by rw[ey];simp[lw],ah ..,by rw[hr];simp[lw],by rw[adT]at hcap⊢;omega,bu (f:=bC) (n:=4) (fun _=>rfl) _⟩,(ag _ _ t1.symm).trans (by rw[eCS];exact gk),fun j hj hjk hjl=>?_,fun j hj=> .inr hj⟩⟩
   have:j≠id1:=fun e=>hjl (by rw[e];exact o1.nid)
   rw[ag _ _ this,hoj j hj]
 ·have e1:ixD (fun f=>geB f.name name) c.fields= -1:=by rw[ixD];exact if_neg hx
  have d1:decide ((-1:Int)<0)=true:=rfl;rw[e1];simp only[go_sem,d1];refine .stage (pick H [k,i1,i2]) [0,1,2,3,4,5,6,7,8,9,10,11] [12] bz ad7 ?_;simp only[go_sem,bG (show k∈ [k,i1,i2] by simp),bG (show i1∈ [k,i1,i2] by simp),bG (show i2∈ [k,i1,i2] by simp),gk,g1,g2,hc3]
  have hap1:Rd H 4 (.sl [bC ⟨name,v⟩] .full) [bC ⟨name,v⟩]:=.sl aeP .full;refine OwE.app (U:=U) (tb:=199) (hfo.sub hH) (hs0.trans hH) hap1 aed ad6 ad8 aed aea aeB fun id2 y' h' g3 hor hw ho2=>?_
  have hor' :H id2=none∨nid f=some id2:=by exact aiN
  have k2:k≠id2:=by
   rcases hor' with hor|hor
   ·exact fun e=>by rw[←e,gk]at hor;cases hor
   ·exact(mA ((hfo.sub hH).nid hor).2.2 gk ht).symm
  have j1:i1≠id2:=by
   rcases hor' with hor|hor
   ·exact fun e=>by rw[←e,g1]at hor;cases hor
   ·exact fun e=>(hfo.nid hor).2.1 (by rw[←e];exact h1)
  have j2:i2≠id2:=by
   rcases hor' with hor|hor
   ·exact fun e=>by rw[←e,g2]at hor;cases hor
   ·exact fun e=>(hfo.nid hor).2.1 (by rw[←e];exact n2)
  refine⟨iW fun j hj=>ho2 j ?_,?_⟩
  ·simp only[List.mem_cons,List.not_mem_nil,or_false]at hj
   rcases hj with rfl|rfl|rfl
   ·exact k2
   ·exact j1
   ·exact j2
  have gk' :=(ho2 k k2).trans gk;simp only[go_sem];refine⟨cX,hns _,?_⟩;simp only[go_sem,gk',hw.rd.fit,hw.rd.cells];rw[e5,Hv hx];refine⟨ad3,hns _,.same (.refl _) ⟨y',?_,ah ..,fun j hj hjk hjl=>?_,fun j hj=>?_⟩⟩
  ·have hw' :Ow 199 (upd h' k (some (.obj (A++(cm c y' l++B)) t))) 4 id2 y' (c.fields.map bC++ [bC ⟨name,v⟩]):=hw.same (ag _ _ k2.symm)
   rw[List.map_append];exact .inr ⟨id2,g3,hw'⟩
  ·have hj2:j≠id2:=by
    rcases hor' with hor|hor
    ·intro e
     have:=hoj j hj;rw[e,hor]at this;exact hj (by rw[e];exact this.symm)
    ·exact fun e=>hjl ahV
   rw[ag _ _ hjk,ho2 j hj2,hoj j hj]
  ·have:id2=j:=by have:=hw.nid;rw[hj]at this;exact(Option.some.inj this).symm
   rw[←this];rcases hor' with hor|hor
   ·exact .inl (hH.none hor)
   ·exact .inr hor
theorem Dh{id:Txt}(h:cj cs id=true):bx cs id=cs[findD cs id]'(jS h):=by simp_all [bx,if_pos,List.getD_eq_getElem?_getD,List.getElem?_eq_getElem,jS]
theorem Di{id:Txt}(h:cj cs id=false):bx cs id=o9:=by simp_all [bx,if_neg]
theorem mP{g h:Heap}{p:Perm}:Frz g h (.sl [] p) (.sl [] .no):=.sl _ _ _ rfl ad3 aea
theorem DT{g h:Heap}(c:aK):Frz g h (cq c) (cq c):=.agg _ _ rfl fun j a b=>by
 rcases j with _|_|_|_|_|j
 ·exact aen
 ·exact aen
 ·exact aen
 ·exact .pure (show cO (gL c.fields)=true from bn (fun _=>rfl) c.fields)
 ·exact .pure (show cO (sZ c.log)=true from bn (fun _=>rfl) c.log)
 ·simp[nO]at a;omega
theorem Ci{h:Heap}(hb:RdS h x s)(id:Txt)(hf:Few s):ai prog 48 [x,.s id] h fun r h' =>r= .tup [cq (bx s.cases id),.b (cj s.cases id)]∧h' =h:=
 ai.freeze fun g hg _=>by
 replace hb:=hb.sub hg;have hb0:=hb;obtain⟨y1,y2,y3,y4,rfl,⟨xs,hc,hn,hcs⟩,h2,h3,h4⟩:=hb;cases hpp:s.policy with
 |mk pid pset palg ptgt prules pkids pobls=>
 have hcC:gw (.mk pid pset palg ptgt prules pkids pobls)= [.s pid,.b pset,.i palg,aT ptgt,.sl (prules.map aC) .no,.sl (pkids.map aL) .no,ay pobls]:=ag4;rw[hpp,hcC]at hb0;refine ad2 func48 23 [.cell 4 111,.tmp 5] fun hwf=>?_
 simp only[go_sem,hcC,List.cons_append,List.nil_append];intro i1 h1;simp only[go_sem];intro i2 h2';have n21:=aF h2';have n2:=aB h2';simp only[go_sem,aj,n21.symm];have hs:∀a b,Ab.Sub g (upd (upd g i1 a) i2 b):=fun a b=>((Sub.refl g).put h1 a).put n2 b
 refine(Co (hb0.sub (hs _ _)) id hf.cases).pthen ?_;cases d1:cj s.cases id
 ·simp only[go_sem]
  refine .mk _ (.refl _) (.refl _) ⟨hs _ _,.tup [.agg [.s [],.s [],.s [],.sl [] .no,.sl [] .no],.b false],.tup _ _ rfl fun i a b=>?_,by rw[Di d1];rfl⟩
  rcases i with _|_|i
  ·refine .agg _ _ rfl fun j c d=>?_
   rcases j with _|_|_|_|_|j
   ·exact aen
   ·exact aen
   ·exact aen
   ·exact mP
   ·exact mP
   grind
  ·exact aen
  grind
 ·have hlt:=jS d1
  have hltx:findD s.cases id<xs.length:=ad3;obtain⟨f,l,ex,hfl,hlg⟩:=hcs _ hltx hlt;simp only[go_sem,aj,n21.symm];refine hc.idx (e:=111) (findD s.cases id) rfl hltx nZ ad6 fun p hp1=>?_
  have hld:=fun a b=>(hp1.sub (hs a b)).all (U:=U) (ty:=111) ad6 (by rw[nZ,ex];rfl) (by simp only[go_sem];rw[ex];rfl)
  simp only[go_sem,hld];refine(wO ((hcs _ hltx hlt).sub (hs _ _)) (hf.fields _ (adY hlt)) (hf.log _ (adY hlt))).pthen ?_;rw[←Dh d1];simp only[go_sem,cq,nO,gL,sZ];refine .mk _ (.refl _) (.refl _) ⟨hs _ _,_,.tup _ _ rfl fun i a b=>?_,rfl⟩
  rcases i with _|_|i
  ·exact DT _
  ·exact aen
  grind
theorem CM{h:Heap}(hb:RdS h x s)(o:OpD)(hf:Few s):ai prog 95 [x,opA o] h fun r h' =>r= .i (bX s o)∧h' =h:=by
 have hb0:=hb;obtain⟨y1,y2,y3,y4,rfl,⟨xs,hc,hn,hcs⟩,h2,h3,h4⟩:=hb;cases hpp:s.policy with
 |mk pid pset palg ptgt prules pkids pobls=>
 have hcC:gw (.mk pid pset palg ptgt prules pkids pobls)= [.s pid,.b pset,.i palg,aT ptgt,.sl (prules.map aC) .no,.sl (pkids.map aL) .no,ay pobls]:=ag4;rw[hpp,hcC]at hb0;refine ad2 func95 67 [.tmp 4] fun hwf=>?_
 simp only[go_sem,hcC,opA,opC,List.cons_append,List.nil_append];intro i1 h1;simp only[go_sem];intro i2 h2';have n21:=aF h2';have n2:=aB h2';simp only[go_sem,aj,n21.symm];have hs:∀a b,Ab.Sub h (upd (upd h i1 a) i2 b):=fun a b=>((Sub.refl h).put h1 a).put n2 b
 refine(Ci (hb0.sub (hs _ _)) o.case hf).pthen ?_;simp only[go_sem,cq,nO,gL,sZ];intro i3 h3';have n32:=aF h3';have h3b:=aB h3';have n31:=aF h3b;have n3:=aB h3b;have hs3:∀a b d,Ab.Sub h (upd (upd (upd h i1 a) i2 b) i3 d):=fun a b d=>(((Sub.refl h).put h1 a).put n2 b).put n3 d
 have hA:=(fun a b d=>Sub.trans (Sub.refl h) (hs3 a b d))
 simp only[go_sem,aj,n32.symm];have hfl:(bx s.cases o.case).fields.length≤1000000000:=by
  unfold bx;split
  ·rename_i ht
   have hlt:=jS ht;rw[List.getD_eq_getElem?_getD,List.getElem?_eq_getElem hlt];exact Nat.le_trans (hf.fields _ (adY hlt)) ad6
  decide
 cases d1:cj s.cases o.case
 ·simp only[go_sem]
  exact .mk _ (.refl _) (hs3 _ _ _) ⟨by simp only[bX,d1];rfl,rfl⟩
 ·simp only[go_sem,aj,n32.symm]
  cases k3:(o.kind==3)
  ·have p3:o.kind≠3:=by grind
   simp only[go_sem];cases k2:(o.kind==2)
   ·have p2:o.kind≠2:=by grind
    have k2n:(o.kind !=2)=true:=ad4;cases d256:decide ((256:Int)≤((bx s.cases o.case).log.length:Int))
    ·have p256:¬256≤(bx s.cases o.case).log.length:=by grind
     simp only[go_sem,aj,n32.symm,adT,k3,k2n,d256];cases k4:(o.kind==4)
     ·have p4:o.kind≠4:=by grind
      exact air
     ·have p4:o.kind=4:=by grind
      simp only[go_sem,aj,n32.symm];refine(Ga _ _ _).pthen ?_;cases dfo:ng (bx s.cases o.case).state o.to
      ·exact air
      ·exact air
    ·have p256:256≤(bx s.cases o.case).log.length:=by grind
     simp only[go_sem,adT,k2n,d256];exact .mk _ (.refl _) (hs3 _ _ _) ⟨afJ,rfl⟩
   ·have p2:o.kind=2:=by grind
    have k2n:(o.kind !=2)=false:=ad4;simp only[go_sem,aj,n32.symm,k3,k2n];cases k4:(o.kind==4)
    ·have p4:o.kind≠4:=by omega
     exact air
    ·have p4:o.kind=4:=by grind
     omega
  ·have p3:o.kind=3:=by grind
   cases d16:decide ((16:Int)≤((bx s.cases o.case).fields.length:Int))
   ·have p16:¬16≤(bx s.cases o.case).fields.length:=by grind
    simp only[go_sem,adT,d16];exact aih
   ·have p16:16≤(bx s.cases o.case).fields.length:=by grind
    simp only[go_sem,aj,n32.symm,adT,d16];refine(DL (show RdC _ (.agg [.s (bx s.cases o.case).id,.s (bx s.cases o.case).owner,.s (bx s.cases o.case).state,AV.sl ((bx s.cases o.case).fields.map bC) .no,AV.sl ((bx s.cases o.case).log.map gv) .no]) (bx s.cases o.case)from rdC _ _) o.field hfl).pthen ?_
    simp only[go_sem,aV];cases dv:((eV (bx s.cases o.case).fields o.field).kind==(0:Int) && ((eV (bx s.cases o.case).fields o.field).n==(0:Int) && (eV (bx s.cases o.case).fields o.field).s==([]:Txt)))
    ·have pv:eqV (eV (bx s.cases o.case).fields o.field) ax=false:=dv
     simp only[go_sem];exact aih
    ·have pv:eqV (eV (bx s.cases o.case).fields o.field) ax=true:=dv
     exact air
theorem AE{h:Heap}(hb:RdS h x s)(o:OpD)(hf:Few s)(h0:0<o.review)(hr:o.review≤9223372036854775807):ai prog 96 [x,opA o] h fun r h' =>r= .i (fy s o)∧h' =h:=by
 obtain⟨y1,y2,y3,y4,rfl,⟨xs,hc,hn,hcs⟩,h2,h3,h4⟩:=hb;cases hpp:s.policy with
 |mk pid pset palg ptgt prules pkids pobls=>
 have hcC:gw (.mk pid pset palg ptgt prules pkids pobls)= [.s pid,.b pset,.i palg,aT ptgt,.sl (prules.map aC) .no,.sl (pkids.map aL) .no,ay pobls]:=ag4;have hfr:=hf.reviews;refine ad2 func96 35 [.tmp 4] fun hwf=>?_
 simp only[go_sem,hcC,opA,opC,List.cons_append,List.nil_append];intro i1 h1;simp only[go_sem];intro i2 h2';have n21:=aF h2';have n2:=aB h2';have hs:∀a b,Ab.Sub h (upd (upd h i1 a) i2 b):=fun a b=>((Sub.refl h).put h1 a).put n2 b
 simp only[go_sem,aj,n21.symm,h2.len,adT];obtain⟨n,en⟩:∃n:Nat,o.review=((n:Nat):Int)+1:=⟨(o.review - 1).toNat,ad3⟩;have e1:wU s.reviews o.review=s.reviews[n]? :=by unfold wU;rw[if_pos ad3,show(o.review - 1).toNat=n by omega]
 have w1:IntKind.i64.wrap (o.review - 1)=((n:Nat):Int):=aeg;cases dlt:decide ((s.reviews.length:Int)<o.review)
 ·have hlt:n<s.reviews.length:=by grind
  have hgl:wU s.reviews o.review=some s.reviews[n]:=ad4;simp only[go_sem,aj,n21.symm,w1];refine h2.idx (e:=132) n rfl ad4 aei ad6 fun p hp1=>?_
  simp only[go_sem];refine hp1.field (f:=6) (off:=6) (t:=4) rfl ad6 fun p2 hp2=>?_
  have hld:=fun a b=>(hp2.sub (hs a b)).part (U:=U) (ty:=4) ad6 (by rw[adU,show(U 4).sz=1 by rfl];exact adS rfl)
  simp only[go_sem,hld,adU,gA];cases dop:s.reviews[n].isOpen
  ·exact aiQ
  ·simp only[go_sem,aj,n21.symm]
   refine⟨.of ad7,?_⟩;simp only[go_sem,w1];refine h2.idx (e:=132) n rfl ad4 aei ad6 fun p hp1=>?_
   simp only[go_sem];refine hp1.field (f:=2) (off:=2) (t:=9) rfl KS fun p2 hp2=>?_
   have hld:=fun a b=>(hp2.sub (hs a b)).part (U:=U) (ty:=9) KS (by rw[adU,NT];exact adS rfl)
   simp only[go_sem,hld,adU,gA];cases dsu:(s.reviews[n].subj==o.subj)
   ·have psu:s.reviews[n].subj≠o.subj:=by grind
    exact aiQ
   ·have psu:s.reviews[n].subj=o.subj:=by grind
    exact aiQ
 ·have hge:¬n<s.reviews.length:=by grind
  have hgn:wU s.reviews o.review=none:=ad4;exact aiQ
theorem ET{h:Heap}(hb:RdS h x s)(o:OpD)(hf:Few s)(hr:i64 o.review)(ht:i64 s.tick):ai prog 40 [x,opA o] h fun r h' =>r= .i (bQ s o)∧h' =h:=by
 have hb0:=hb;have hfo:=HS o;have hrc:=fun(G:Heap) (hG:Ab.Sub h G)=>CM (hb.sub hG) o hf
 have hrl:=fun(G:Heap) (hG:Ab.Sub h G) (a:0<o.review)=>AE (hb.sub hG) o hf a hr.2
 have hfi:=fun(G:Heap) (hG:Ab.Sub h G)=>Co (hb.sub hG) o.case hf.cases
 have hha:=fun(G:Heap) (hG:Ab.Sub h G)=>Gi (hb.sub hG) o.case o.field (Nat.le_trans hf.roles ad6)
 obtain⟨y1,y2,y3,y4,rfl,⟨xs,hc,hn,hcs⟩,h2,h3,h4⟩:=hb;cases hpp:s.policy with
 |mk pid pset palg ptgt prules pkids pobls=>
 have hcC:gw (.mk pid pset palg ptgt prules pkids pobls)= [.s pid,.b pset,.i palg,aT ptgt,.sl (prules.map aC) .no,.sl (pkids.map aL) .no,ay pobls]:=ag4;rw[hpp,hcC]at hb0 hrc hrl hfi hha;simp only[opA,opC,List.cons_append,List.nil_append]at hfo hrc hrl hfi hha;refine ad2 func40 63 [.tmp 4] fun hwf=>?_
 simp only[go_sem,hcC,opA,opC,List.cons_append,List.nil_append];intro i1 h1;simp only[go_sem];intro i2 h2';have n21:=aF h2';have n2:=aB h2';have hs:∀a b,Ab.Sub h (upd (upd h i1 a) i2 b):=fun a b=>((Sub.refl h).put h1 a).put n2 b
 simp only[go_sem];refine(hfo _).pthen ?_;cases dform:dH o
 ·exact aio
 ·simp only[go_sem]
  have hok:okD o=true:=by simp_all [dH,dX,Bool.and_eq_true]
  by_cases p1:o.kind=1
  ·have k1:(o.kind==1)=true:=by grind
   simp only[go_sem,aj,n21.symm,k1];refine(hfi _ (hs _ _)).pthen ?_;cases dth:cj s.cases o.case
   ·simp only[go_sem,aj,n21.symm,hc.len,hn]
    cases d64:decide ((64:Int)≤(s.cases.length:Int))
    ·have p64:¬64≤s.cases.length:=by grind
     exact aio
    ·have p64:64≤s.cases.length:=by grind
     exact aio
   ·exact aio
  have k1:(o.kind==1)=false:=ad4;simp only[go_sem,k1]
  by_cases p2:o.kind=2
  ·have k2:(o.kind==2)=true:=by grind
   simp only[go_sem,aj,n21.symm,k2];refine(hrc _ (hs _ _)).pthen ?_;exact aio
  have k2:(o.kind==2)=false:=ad4;simp only[go_sem,k2]
  by_cases p3:o.kind=3
  ·have k3:(o.kind==3)=true:=by grind
   simp only[go_sem,aj,n21.symm,k3];refine(hrc _ (hs _ _)).pthen ?_;exact aio
  have k3:(o.kind==3)=false:=ad4;simp only[go_sem,k3]
  by_cases p4:o.kind=4
  ·have k4:(o.kind==4)=true:=by grind
   simp only[go_sem,aj,n21.symm,k4];refine(hrc _ (hs _ _)).pthen ?_;exact aio
  have k4:(o.kind==4)=false:=ad4;simp only[go_sem,k4]
  by_cases p5:o.kind=5
  ·have k5:(o.kind==5)=true:=by grind
   simp only[go_sem,aj,n21.symm,k5];have hrv:0<o.review:=by grind [okD]
   refine(hrl _ (hs _ _) hrv).pthen ?_;exact aio
  have k5:(o.kind==5)=false:=ad4;simp only[go_sem,k5]
  by_cases p6:o.kind=6
  ·have k6:(o.kind==6)=true:=by grind
   simp only[go_sem,aj,n21.symm,k6];simp only[go_sem,h4.len,adT];cases d64:decide ((64:Int)≤(s.roles.length:Int))
   ·have p64:¬64≤s.roles.length:=by grind
    exact aio
   ·have p64:64≤s.roles.length:=by grind
    simp only[go_sem,aj,n21.symm];refine(hha _ (hs _ _)).pthen ?_;cases dha:yQ s.roles ⟨o.case,o.field⟩
    ·exact aio
    ·exact aio
  have k6:(o.kind==6)=false:=ad4;simp only[go_sem,k6]
  by_cases p8:o.kind=8
  ·have k8:(o.kind==8)=true:=by grind
   simp only[go_sem,aj,n21.symm,k8];have hrv:0<o.review∧o.review≤1099511627776:=by grind [okD]
   have w1:IntKind.i64.wrap (1099511627776 - o.review)=1099511627776 - o.review:=aY _ ad3;cases dt:decide (1099511627776 - o.review<s.tick)
   ·have pt:¬1099511627776 - o.review<s.tick:=adW dt
    simp only[go_sem,w1,dt];exact .mk _ (.refl _) (hs _ _) ⟨afz,rfl⟩
   ·have pt:1099511627776 - o.review<s.tick:=adV dt
    simp only[go_sem,w1,dt];exact .mk _ (.refl _) (hs _ _) ⟨afz,rfl⟩
  have k8:(o.kind==8)=false:=ad4;simp only[go_sem,k8];exact .mk _ (.refl _) (hs _ _) ⟨by have:¬(2≤o.kind∧o.kind≤4):=ad3;simp only[bQ,dform,p1,p5,p6,p8,this,if_false,Bool.true_eq_false,au],rfl⟩
end Go.Proofs.YtokahfmoollblaaGreatDoor
namespace Go.Bf
open Go Go.Ab
variable {s:Txt}
structure so where
 kind:Int
 pos:Int
 n:Int
 s:Txt
variable {ts:List so}
def fR(t:so):AV:=.agg [.i t.kind,.i t.pos,.i t.n,.s t.s]
def wrd(c:UInt8):Bool:=ltr c||dgt c||(c.toNat:Int)==95
def qG(l:Txt):Nat:=l.foldl (fun n c=>n*10+(c.toNat - 48)) 0
def fl(neg:Bool)(s:Txt):Int×Nat:=
 let d:=s.takeWhile dgt
 if d= []∨(1<d.length∧s.head? =some 48)then(0,0)else
 let v:Int:=if neg then -(qG d:Int)else(qG d:Int)
 if -9223372036854775808≤v∧v≤9223372036854775807 then(v,d.length)else(0,0)
def jT(s:Txt):Txt:=if bw (s.takeWhile wrd)then s.takeWhile wrd else []
def jU(c:UInt8):Int:=if dgt c then(c.toNat:Int) - 48 else if 97≤(c.toNat:Int)∧(c.toNat:Int)≤102 then(c.toNat:Int) - 87 else -1
def uo:Txt→Option UInt8
 |b::x::y::_=>if b=92∧0≤jU x∧0≤jU y∧GH (UInt8.ofNat (16*jU x+jU y).toNat)=true then some (UInt8.ofNat (16*jU x+jU y).toNat)else none
 |_=>none
def uN:Nat→Txt→Nat→Txt→Txt×Nat
 |0,_,_,_=>([],0)
 |_+1,[],_,_=>([],0)
 |f+1,c::r,at_,out=>
  if c=34 then(if 64<out.length then([],0)else(out,at_+1))
  else if GH c=false then uN f r (at_+1) (out++ [c])
  else match uo (c::r)with
   |some b=>uN f (r.drop 2) (at_+3) (out++ [b])
   |none=>([],0)
def zX(s:Txt):Txt×Nat:=uN s.length (s.drop 1) 1 []
def Ek(c:UInt8):Bool:=c∈([123,125,40,41,46,44,59,61,60,62,33]:Txt)
def bV(s:Txt):so×Nat:=
 let c:=s.headD 0
 if ltr c then(⟨1,0,0,jT s⟩,(jT s).length)
 else if dgt c then(⟨2,0,(fl false s).1,[]⟩,(fl false s).2)
 else if c=45 then(⟨2,0,(fl true (s.drop 1)).1,[]⟩,if(fl true (s.drop 1)).1=0 then 0 else(fl true (s.drop 1)).2+1)
 else if c=64 then(⟨3,0,(fl false (s.drop 1)).1,[]⟩,if(fl false (s.drop 1)).2=0∨(fl false (s.drop 1)).1>1099511627776 then 0 else(fl false (s.drop 1)).2+1)
 else if c=35 then(⟨4,0,0,jT (s.drop 1)⟩,if jT (s.drop 1)= []then 0 else(jT (s.drop 1)).length+1)
 else if c=34 then(⟨5,0,0,(zX s).1⟩,(zX s).2)
 else if Ek c then(⟨6,0,0,[c]⟩,1)
 else(⟨0,0,0,[]⟩,0)
inductive Lexed where
 |bad (e:Int) (at_:Int)
 |ok (l:List so)
def qR(c:UInt8):Bool:=(c.toNat:Int)==32||(c.toNat:Int)==10
def uk:Nat→Txt→Nat→List so→Lexed
 |0,_,at_,_=> .bad 5 at_
 |_+1,[],at_,out=> .ok (out++ [⟨7,at_,0,[]⟩])
 |f+1,c::r,at_,out=>
  if qR c then uk f r (at_+1) out
  else if(bV (c::r)).2=0 then .bad 5 at_
  else uk f ((c::r).drop (bV (c::r)).2) (at_+(bV (c::r)).2) (out++ [{(bV (c::r)).1 with pos:=at_}])
def sX(s:Txt):Lexed:=if s.length>4096 then .bad 6 4096 else uk (s.length+1) s 0 []
theorem kM(p:UInt8→Bool)(s:Txt):(s.takeWhile p).length≤s.length:=(List.takeWhile_prefix p).length_le
theorem rQ(p:UInt8→Bool)(s:Txt):s.take (s.takeWhile p).length=s.takeWhile p:=by
 obtain⟨t,ht⟩:=List.takeWhile_prefix (l:=s) p
 grind
theorem pZ(neg:Bool)(s:Txt):(fl neg s).2≤s.length:=by
 have:=kM dgt s;unfold fl;simp only;split
 ·exact af5
 ·generalize (if neg=true then -(qG (s.takeWhile dgt):Int)else(qG (s.takeWhile dgt):Int))=v
  split
  ·exact aeE
  ·exact af5
theorem uY(s:Txt):(jT s).length≤s.length:=by grind [kM,wrd,jT]
theorem Er{b:UInt8}(h:uo s=some b):3≤s.length:=by
 match s,h with
 |_::_::_::_,_=>simp
theorem zY:∀(f:Nat) (r:Txt) (at_:Nat) (out:Txt),(uN f r at_ out).2≤at_+r.length
 |0,_,_,_=>by simp[uN]
 |_+1,[],_,_=>by simp[uN]
 |f+1,c::r,at_,out=>by
  simp only[uN];split
  ·grind
  ·split
   ·have:=zY f r (at_+1) (out++ [c]);simp only[List.length_cons];omega
   ·split
    ·rename_i b hb
     have h3:=Er hb;have:=zY f (r.drop 2) (at_+3) (out++ [b]);simp only[List.length_cons,List.length_drop]at this h3⊢;omega
    ·simp
theorem sN(s:Txt)(hs:s≠ []):(bV s).2≤s.length:=by
 have h1:1≤s.length:=ad4;have hd:(s.drop 1).length=s.length - 1:=aea;have k1:=uY s;have k2:=uY (s.drop 1);have k3:=pZ false s;have k4:=pZ false (s.drop 1);have k5:=pZ true (s.drop 1);have k6:=zY s.length (s.drop 1) 1 [];unfold bV;simp only;split
 ·exact k1
 split
 ·exact k3
 split
 ·simp only;split<;>omega
 split
 ·simp only;split<;>omega
 split
 ·simp only;split<;>omega
 split
 ·simp only[zX];omega
 split
 ·simp only;omega
 ·simp
structure PS where
 ts:List so
 pos:Nat
 rules:Nat
 bad:Int
 place:Int
variable {st c:PS}
def aM(st:PS):so:=st.ts.getD st.pos ⟨7,0,0,[]⟩
def bM(st:PS)(e p:Int):PS:=if st.bad=0 then {st with bad:=e,place:=p} else st
def br(st:PS):PS:=bM st 5 (aM st).pos
def bJ(st:PS)(more:Bool):PS:=if more then bM st 6 (aM st).pos else st
def isD(st:PS)(s:Txt):Bool:=st.bad==0 && ((aM st).s==s && ((aM st).kind==1||(aM st).kind==6))
def bl(st:PS):PS:={st with pos:=st.pos+1}
def ct(st:PS)(s:Txt):Bool×PS:=if isD st s=true then(true,bl st)else(false,st)
def eC(st:PS)(s:Txt):PS:=if isD st s=true then bl st else br st
def cr(st:PS):Txt×PS:=
 if(aM st).kind=1∧st.bad=0 then((aM st).s,bl st)else([],if(aM st).kind=1 then st else br st)
def vq(s:Txt):List Txt→Option Nat
 | []=>none
 |w::r=>if w=s then some 0 else(vq s r).map (· +1)
def bf(st:PS)(ws:List Txt):Int×PS:=match vq (aM st).s ws with
 |some i=>if(aM st).kind=1∧st.bad=0 then((i:Int)+1,bl st)else(0,br st)
 |none=>(0,br st)
def WfP(st:PS):Prop:=st.pos<st.ts.length∧(∀i (h:i<st.ts.length),st.ts[i].kind≠7→i+1<st.ts.length)∧st.ts.length≤5000
theorem D4(h:st.pos<st.ts.length):aM st=st.ts[st.pos]:=by grind [aM,List.getElem?_eq_getElem]
theorem KZ(e p:Int)(h:WfP st):WfP (bM st e p):=by unfold bM;split<;>exact h
theorem N2(h:WfP st)(hk:(aM st).kind≠7):WfP (bl st):=by rw[D4 h.1]at hk;exact⟨h.2.1 _ h.1 hk,h.2⟩
theorem dQ(h:isD st s=true):(aM st).kind≠7:=by simp only[isD,Bool.and_eq_true,Bool.or_eq_true,beq_iff_eq]at h;omega
def Ah(st st' :PS):Prop:=WfP st'∧st'.ts=st.ts∧st.pos≤st'.pos
theorem Ah.refl(h:WfP st):Ah st st:=⟨h,rfl,Nat.le_refl _⟩
theorem Ah.trans{a b:PS}(x:Ah a b)(y:Ah b c):Ah a c:=⟨y.1,y.2.1.trans x.2.1,Nat.le_trans x.2.2 y.2.2⟩
theorem yd(e p:Int)(h:WfP st):Ah st (bM st e p):=⟨KZ e p h,by grind [bM],by unfold bM;grind⟩
theorem fj(h:WfP st)(hk:(aM st).kind≠7):Ah st (bl st):=⟨N2 h hk,rfl,Nat.le_succ _⟩
theorem oL(h:WfP st):Ah st (br st):=yd _ _ h
theorem lN(b:Bool)(h:WfP st):Ah st (bJ st b):=by
 unfold bJ;split
 ·grind [yd]
 ·exact ago
theorem Oq(s:Txt)(h:WfP st):Ah st (ct st s).2:=by
 unfold ct;split
 ·grind [fj,dQ]
 ·exact ago
theorem js(s:Txt)(h:WfP st):Ah st (eC st s):=by grind [eC,fj,dQ,oL]
theorem nK(h:WfP st):Ah st (cr st).2:=by
 unfold cr;split
 ·grind [fj]
 ·simp only;split
  ·exact ago
  grind [oL]
theorem gS(ws:List Txt)(h:WfP st):Ah st (bf st ws).2:=by grind [bf,fj,oL]
def wj:List Txt:=[[115,117,98,106,101,99,116],[97,99,116,105,111,110],[99,97,115,101],[101,110,118]]
def gu(st:PS):qK×PS:=
 (⟨(bf st wj).1,(cr (eC (bf st wj).2 [46])).1,(ct (cr (eC (bf st wj).2 [46])).2 [33]).1⟩,(ct (cr (eC (bf st wj).2 [46])).2 [33]).2)
theorem B9(h:WfP st):Ah st (gu st).2:=by have h1:=gS wj h;have h2:=js [46] h1.1;have h3:=nK h2.1;exact((h1.trans h2).trans h3).trans (Oq [33] h3.1)
def xg:Txt:=[116,114,117,101]
def rj:Txt:=[102,97,108,115,101]
def gr(st:PS):bB×PS:=
 if(aM st).kind=2 then(⟨2,(aM st).n,(aM st).s⟩,st)
 else if(aM st).kind=3 then(⟨4,(aM st).n,(aM st).s⟩,st)
 else if(aM st).kind=4 then(⟨5,(aM st).n,(aM st).s⟩,st)
 else if(aM st).kind=5 then(⟨3,(aM st).n,(aM st).s⟩,st)
 else if isD st xg then(⟨1,1,[]⟩,st)
 else if isD st rj then(⟨1,0,[]⟩,st)
 else(⟨0,(aM st).n,(aM st).s⟩,br st)
def aD(st:PS):bB×PS:=if(gr st).2.bad=0 then((gr st).1,bl (gr st).2)else(⟨0,0,[]⟩,(gr st).2)
theorem sj(st:PS):(br st).bad≠0:=by grind [br,bM,Int]
theorem uU(st:PS):(gr st).2=st∧(aM st).kind≠7∨(gr st).2=br st:=by
 unfold gr;split
 ·grind
 split
 ·grind
 split
 ·grind
 split
 ·grind
 split
 ·rename_i h;exact .inl ⟨rfl,dQ h⟩
 split
 ·rename_i h;exact .inl ⟨rfl,dQ h⟩
 simp
theorem C8(h:WfP st):Ah st (aD st).2:=by
 unfold aD;rcases uU st with⟨e,hk⟩|e
 ·rw[e];split
  ·grind [fj]
  ·exact ago
 simp_all [if_neg,sj,oL]
def opP(st:PS):Int×PS:=
 if isD st [61]then(1,bl st)else if isD st [60]then(2,bl st)else if isD st [62]then(3,bl st)else(0,br st)
theorem US(h:WfP st):Ah st (opP st).2:=by grind [opP,fj,dQ,oL]
def gN(st:PS):bR×PS:=(⟨(gu st).1,(opP (gu st).2).1,(aD (opP (gu st).2).2).1⟩,(aD (opP (gu st).2).2).2)
theorem qL(h:WfP st):Ah st (gN st).2:=by have h1:=B9 h;have h2:=US h1.1;exact(h1.trans h2).trans (C8 h2.1)
def gh{α:Type}(one:PS→α×PS)(w:Txt)(most:Nat):Nat→PS→List α→List α×PS
 |0,st,l=>(l,st)
 |f+1,st,l=>if isD st w=true then gh one w most f (bJ (one (bl st)).2 (decide (most<l.length+1))) (l++ [(one (bl st)).1])else(l,st)
theorem tK{α:Type}{one:PS→α×PS}(ho:∀st,WfP st→Ah st (one st).2)(w:Txt)(most:Nat):∀(f:Nat) (st:PS) (l:List α),WfP st→Ah st (gh one w most f st l).2
 |0,st,l,h=> .refl h
 |f+1,st,l,h=>by
  unfold gh;split
  ·rename_i hi
   have h1:=fj h (dQ hi);have h2:=ho _ h1.1;have h3:=lN (decide (most<l.length+1)) h2.1;exact((h1.trans h2).trans h3).trans (tK ho w most f _ _ h3.1)
  ·exact ago
def orT:Txt:=[111,114]
def Da:Txt:=[97,110,100]
def Fp:Txt:=[119,104,101,110]
def qF(st:PS):List bR×PS:=gh gN [44] 8 st.ts.length (gN st).2 [(gN st).1]
theorem B7(h:WfP st):Ah st (qF st).2:=(qL h).trans (tK (fun _ h=>qL h) _ _ _ _ _ (qL h).1)
def sr(st:PS):List (List bR)×PS:=
 let a:=qF (eC st [40])
 let m:=gh qF orT 8 st.ts.length a.2 [a.1]
 (m.1,eC m.2 [41])
theorem B8(h:WfP st):Ah st (sr st).2:=by
 have h0:=js [40] h;have h1:=B7 h0.1;have h2:=tK (fun _ h=>B7 h) orT 8 st.ts.length _ [(qF (eC st [40])).1] h1.1
 exact((h0.trans h1).trans h2).trans (js [41] h2.1)
def ig(st:PS):gj×PS:=if isD st Fp=true then gh sr Da 8 st.ts.length (sr (bl st)).2 [(sr (bl st)).1]else([],st)
theorem Cd(h:WfP st):Ah st (ig st).2:=by
 unfold ig;split
 ·rename_i hi
  have h0:=fj h (dQ hi);have h1:=B8 h0.1;exact(h0.trans h1).trans (tK (by grind [B8]) _ _ _ _ _ h1.1)
 ·exact ago
def mh:List Txt:=[[111,110,101],[115,105,122,101],[104,97,115],[101,113],[108,101,115,115],[97,100,100],[115,117,98],[109,117,108],[110,111,116],[97,110,100],[111,114]]
def opers(op:Int):List Bool:=if op=3∨op=4 then [true]else if op=5 then [true,false]else if op=11 then [false]else [false,false]
abbrev ExF:=PS→List aO→(List aO×Bool)×PS
variable {ex:ExF}
def iL(ex:ExF)(st:PS)(l:List aO)(must:Bool):List aO×PS:=
 ((ex st l).1.1,if(ex st l).1.2=must then(ex st l).2 else bM (ex st l).2 5 (aM st).pos)
def jF(ex:ExF):List Bool→PS→List aO→List aO×PS
 | [],st,l=>(l,st)
 |b::bs,st,l=>if st.bad=0 then jF ex bs (iL ex st l b).2 (iL ex st l b).1 else(l,st)
def rq(ex:ExF)(st:PS)(l:List aO):(List aO×aO)×PS:=
 (((jF ex (opers (2+(bf st mh).1)) (bf st mh).2 l).1,⟨2+(bf st mh).1,⟨0,0,[]⟩,⟨0,[],false⟩⟩),eC (jF ex (opers (2+(bf st mh).1)) (bf st mh).2 l).2 [41])
def jn(ex:ExF)(st:PS)(l:List aO):(List aO×aO)×PS:=
 if isD st [40]=true then rq ex (bl st) l
 else if(aM st).kind=1∧(aM st).s≠xg∧(aM st).s≠rj then((l,⟨2,⟨0,0,[]⟩,(gu st).1⟩),(gu st).2)
 else((l,⟨1,(aD st).1,⟨0,[],false⟩⟩),(aD st).2)
def eR:Nat→ExF
 |0,st,l=>((l,false),st)
 |f+1,st,l=>(((jn (eR f) st l).1.1++ [(jn (eR f) st l).1.2],(jn (eR f) st l).1.2.op==2),bJ (jn (eR f) st l).2 (decide (32<(jn (eR f) st l).1.1.length+1)))
def Fw(ex:ExF):Prop:=∀st l,WfP st→Ah st (ex st l).2∧(ex st l).1.1.length+2*st.pos≤l.length+2*(ex st l).2.pos+1
theorem zq(he:Fw ex)(st:PS)(l:List aO)(b:Bool)(h:WfP st):Ah st (iL ex st l b).2∧(iL ex st l b).1.length+2*st.pos≤l.length+2*(iL ex st l b).2.pos+1:=by
 obtain⟨h1,h2⟩:=he st l h;unfold iL;split
 ·grind
 ·refine⟨h1.trans (yd _ _ h1.1),?_⟩
  grind [bM,aM]
theorem Bz{ex:ExF}(he:Fw ex):∀(bs:List Bool) (st:PS) (l:List aO),WfP st→Ah st (jF ex bs st l).2∧(jF ex bs st l).1.length+2*st.pos≤l.length+2*(jF ex bs st l).2.pos+bs.length
 | [],st,l,h=>⟨.refl h,by simp[jF]⟩
 |b::bs,st,l,h=>by
  unfold jF;split
  ·obtain⟨h1,h2⟩:=zq he st l b h
   obtain⟨h3,h4⟩:=Bz he bs (iL ex st l b).2 (iL ex st l b).1 h1.1;exact⟨h1.trans h3,ad4⟩
  ·exact⟨.refl h,aea⟩
theorem Ev(op:Int):(opers op).length≤2:=by grind [opers]
theorem Mg(he:Fw ex)(st:PS)(l:List aO)(h:WfP st):Ah st (rq ex st l).2∧(rq ex st l).1.1.length+2*st.pos≤l.length+2*(rq ex st l).2.pos+2:=by have h1:=gS mh h;obtain⟨h2,h3⟩:=Bz he (opers (2+(bf st mh).1)) _ l h1.1;have h4:=js [41] h2.1;have:=Ev (2+(bf st mh).1);have p1:=h1.2.2;have p4:=h4.2.2;unfold rq;exact⟨(h1.trans h2).trans h4,ad4⟩
theorem D3(he:Fw ex)(st:PS)(l:List aO)(h:WfP st):Ah st (jn ex st l).2∧(jn ex st l).1.1.length+2*st.pos≤l.length+2*(jn ex st l).2.pos:=by
 unfold jn;split
 ·rename_i hi
  have h1:=fj h (dQ hi);obtain⟨h2,h3⟩:=Mg he _ l h1.1;have:(bl st).pos=st.pos+1:=rfl;exact⟨h1.trans h2,ad3⟩
 ·split
  ·have h1:=B9 h
   have:=h1.2.2;exact⟨h1,ad4⟩
  ·have h1:=C8 h
   have:=h1.2.2;exact⟨h1,ad4⟩
theorem ri:∀f,Fw (eR f)
 |0=>fun st l h=>⟨.refl h,by simp[eR]⟩
 |f+1=>fun st l h=>by
  obtain⟨h1,h2⟩:=D3 (ri f) st l h;have h3:=lN (decide (32<(jn (eR f) st l).1.1.length+1)) h1.1;have:=h3.2.2;refine⟨h1.trans h3,?_⟩
  grind [eR,adX,List.length_singleton]
def vF:List Txt:=[[112,101,114,109,105,116],[100,101,110,121]]
def mZ:List Txt:=[[108,111,103],[114,101,100,97,99,116],[114,101,118,105,101,119],[110,111,116,105,102,121]]
def wM:Txt:=[111,110]
def AA(st:PS):cE×PS:=
 (⟨(bf st vF).1,(bf (bf st vF).2 mZ).1,(cr (bf (bf st vF).2 mZ).2).1⟩,(cr (bf (bf st vF).2 mZ).2).2)
theorem Lm(h:WfP st):Ah st (AA st).2:=by have h1:=gS vF h;have h2:=gS mZ h1.1;exact(h1.trans h2).trans (nK h2.1)
def gH(st:PS):List cE×PS:=gh AA wM 8 st.ts.length st []
theorem Cb(h:WfP st):Ah st (gH st).2:=tK (fun _ h=>Lm h) _ _ _ _ _ h
inductive Rch (a:PS):PS→Prop where
 |refl:Rch a a
 |wrong {b:PS} (e p:Int):Rch a b→(e=5∨e=6)→(∃i,i≤b.pos∧p=(b.ts.getD i ⟨7,0,0,[]⟩).pos)→Rch a (bM b e p)
 |next {b:PS}:Rch a b→b.bad=0→(aM b).kind≠7→Rch a (bl b)
theorem Rch.trans{a b:PS}(x:Rch a b)(y:Rch b c):Rch a c:=by
 induction y with
 |refl=>exact x
 |wrong e p _ h1 h2 ih=>grind [wrong]
 |next _ h1 h2 ih=>grind [next]
theorem lg(st:PS):Rch st (br st):=.wrong _ _ .refl (.inl rfl) ⟨st.pos,Nat.le_refl _,rfl⟩
theorem rZ(st:PS)(b:Bool):Rch st (bJ st b):=by
 unfold bJ;split
 ·exact .wrong _ _ .refl (.inr rfl) ⟨st.pos,Nat.le_refl _,rfl⟩
 ·exact agt
theorem Ib(h:isD st s=true):st.bad=0:=by simp_all [isD,Bool.and_eq_true,beq_iff_eq]
theorem tj(h:isD st s=true):Rch st (bl st):=.next .refl (Ib h) (dQ h)
theorem Np(st:PS)(s:Txt):Rch st (ct st s).2:=by
 unfold ct;split
 ·grind [tj]
 ·exact agt
theorem nw(st:PS)(s:Txt):Rch st (eC st s):=by grind [eC,tj,lg]
theorem uG(st:PS):Rch st (cr st).2:=by
 unfold cr;split
 ·rename_i h;exact .next .refl h.2 ad3
 ·simp only;split
  ·exact agt
  grind [lg]
theorem mU(st:PS)(ws:List Txt):Rch st (bf st ws).2:=by
 unfold bf;split
 ·split
  ·rename_i h;exact .next .refl h.2 ad3
  grind [lg]
 grind [lg]
theorem EL(st:PS):Rch st (gu st).2:=(((mU st wj).trans (nw _ [46])).trans (uG _)).trans (Np _ [33])
theorem BI(st:PS):Rch st (aD st).2:=by
 unfold aD;rcases uU st with⟨e,hk⟩|e
 ·rw[e];split
  ·rename_i h;exact .next .refl h hk
  ·exact agt
 simp_all [if_neg,sj,lg]
theorem SW(st:PS):Rch st (opP st).2:=by grind [opP,tj,lg]
theorem BG(st:PS):Rch st (gN st).2:=((EL st).trans (SW _)).trans (BI _)
theorem rJ{α:Type}{one:PS→α×PS}(ho:∀st,Rch st (one st).2)(w:Txt)(most:Nat):∀(f:Nat) (st:PS) (l:List α),Rch st (gh one w most f st l).2
 |0,st,l=> .refl
 |f+1,st,l=>by
  unfold gh;split
  ·rename_i h
   exact(((tj h).trans (ho _)).trans (rZ _ _)).trans (rJ ho w most f _ _)
  ·exact agt
theorem IC(st:PS):Rch st (qF st).2:=(BG st).trans (rJ BG _ _ _ _ _)
theorem ID(st:PS):Rch st (sr st).2:=(((nw st [40]).trans (IC _)).trans (rJ IC orT 8 st.ts.length _ [(qF (eC st [40])).1])).trans (nw _ [41])
theorem IE(st:PS):Rch st (ig st).2:=by
 unfold ig;split
 ·rename_i h;exact((tj h).trans (ID _)).trans (rJ ID _ _ _ _ _)
 ·exact agt
theorem PD(st:PS):Rch st (AA st).2:=((mU st vF).trans (mU _ mZ)).trans (uG _)
theorem EP(st:PS):Rch st (gH st).2:=rJ PD _ _ _ _ _
theorem sd{a b:PS}(h:Rch a b):b.ts=a.ts∧a.pos≤b.pos∧b.rules=a.rules:=by
 induction h with
 |refl=>simp
 |wrong e p _ _ _ ih=>grind [bM]
 |next _ _ _ ih=>exact⟨ih.1,Nat.le_succ_of_le ih.2.1,ih.2.2⟩
theorem ER(he:∀st l,Rch st (ex st l).2)(st:PS)(l:List aO)(b:Bool):Rch st (iL ex st l b).2:=by
 unfold iL;simp only;split
 ·grind
 ·have:=sd (he st l)
  exact .wrong _ _ (he st l) (.inl rfl) ⟨st.pos,this.2.1,by rw[this.1];rfl⟩
theorem BH{ex:ExF}(he:∀st l,Rch st (ex st l).2):∀(bs:List Bool) (st:PS) (l:List aO),Rch st (jF ex bs st l).2
 | [],st,l=> .refl
 |b::bs,st,l=>by
  unfold jF;split
  ·exact(ER he st l b).trans (BH he bs _ _)
  ·exact agt
theorem EM:∀(f:Nat) (st:PS) (l:List aO),Rch st (eR f st l).2
 |0,st,l=> .refl
 |f+1,st,l=>by
  refine Rch.trans ?_ (rZ _ _);unfold jn;split
  ·rename_i h
   exact(tj h).trans (((mU _ mh).trans (BH (EM f) _ _ _)).trans (nw _ [41]))
  grind [EL,BI]
def ifT:Txt:=[105,102]
def qe:Txt:=[112,101,114,109,105,116]
def jj:Txt:=[100,101,110,121]
def qg:Txt:=[112,111,108,105,99,121]
def GV:Txt:=[115,101,116]
def nq:List Txt:=[qg,GV]
def ye:List Txt:=[[100,101,110,121,111,118,101,114],[112,101,114,109,105,116,111,118,101,114],[102,105,114,115,116],[111,110,108,121],[100,101,110,121,117,110,108,101,115,115],[112,101,114,109,105,116,117,110,108,101,115,115]]
def qY(st:PS):List aO×PS:=if isD st ifT=true then iL (eR st.ts.length) (bl st) [] false else([],st)
theorem No(st:PS):Rch st (qY st).2:=by
 unfold qY;split
 ·rename_i h;exact(tj h).trans (ER (EM _) _ _ _)
 ·exact agt
theorem HA(h:WfP st):Ah st (qY st).2:=by
 unfold qY;split
 ·rename_i hi
  have h1:=fj h (dQ hi);exact h1.trans (zq (ri _) _ _ _ h1.1).1
 ·exact ago
def qD(deny:Bool)(st:PS):cS×PS:=
 (⟨(cr st).1,deny,(ig (cr st).2).1,(qY (ig (cr st).2).2).1,(gH (qY (ig (cr st).2).2).2).1⟩,eC (gH (qY (ig (cr st).2).2).2).2 [59])
theorem zH(deny:Bool)(st:PS):Rch st (qD deny st).2:=((((uG st).trans (IE _)).trans (No _)).trans (EP _)).trans (nw _ [59])
theorem Cc(deny:Bool)(h:WfP st):Ah st (qD deny st).2:=by have h1:=nK h;have h2:=Cd h1.1;have h3:=HA h2.1;have h4:=Cb h3.1;exact(((h1.trans h2).trans h3).trans h4).trans (js [59] h4.1)
inductive om (a:PS):PS→Prop where
 |refl:om a a
 |small {b c:PS}:om a b→Rch b c→om a c
 |rule {b:PS}:om a b→b.bad=0→b.rules≠64→(aM b).kind≠7→om a {bl b with rules:=b.rules+1}
theorem om.trans{a b:PS}(x:om a b)(y:om b c):om a c:=by
 induction y with
 |refl=>exact x
 |small _ h1 ih=>grind [small]
 |rule _ h1 h2 h3 ih=>grind [rule]
theorem Rch.big{a b:PS}(h:Rch a b):om a b:=.small .refl h
def kI:Nat→PS→List cS→List cS×PS
 |0,st,l=>(l,st)
 |f+1,st,l=>if isD st qe=true∨isD st jj=true then
   if l.length=16∨st.rules=64 then(l,bJ st true)
   else kI f (qD (isD st jj) {bl st with rules:=st.rules+1}).2 (l++ [(qD (isD st jj) {bl st with rules:=st.rules+1}).1])
  else(l,st)
abbrev PoF:=PS→bF×PS
variable {pol:PoF}
def kg(pol:PoF)(deep:Bool):Nat→PS→List bF→List bF×PS
 |0,st,l=>(l,st)
 |f+1,st,l=>if isD st qg=true∨isD st GV=true then
   if l.length=16∨deep=true then(l,bJ st true)
   else kg pol deep f (pol st).2 (l++ [(pol st).1])
  else(l,st)
def di(st:PS):(Bool×Txt×Int×gj)×PS:=
 (((bf st nq).1==2,(cr (bf st nq).2).1,(bf (cr (bf st nq).2).2 ye).1,(ig (bf (cr (bf st nq).2).2 ye).2).1),eC (ig (bf (cr (bf st nq).2).2 ye).2).2 [123])
theorem EN(st:PS):Rch st (di st).2:=((((mU st nq).trans (uG _)).trans (mU _ ye)).trans (IE _)).trans (nw _ [123])
theorem Oo(h:WfP st):Ah st (di st).2:=by have h1:=gS nq h;have h2:=nK h1.1;have h3:=gS ye h2.1;have h4:=Cd h3.1;exact(((h1.trans h2).trans h3).trans h4).trans (js [123] h4.1)
def qw(pol:PoF)(deep:Bool)(set:Bool)(st:PS):(List cS×List bF)×PS:=
 if set=true then(([],(kg pol deep 17 st []).1),(kg pol deep 17 st []).2)else(((kI 17 st []).1,[]),(kI 17 st []).2)
def gU:Nat→PoF
 |0,st=>(.mk [] false 0 [] [] [] [],st)
 |r+1,st=>(.mk (di st).1.2.1 (di st).1.1 (di st).1.2.2.1 (di st).1.2.2.2 (qw (gU r) (r==0) (di st).1.1 (di st).2).1.1 (qw (gU r) (r==0) (di st).1.1 (di st).2).1.2
   (gH (eC (qw (gU r) (r==0) (di st).1.1 (di st).2).2 [125])).1,(gH (eC (qw (gU r) (r==0) (di st).1.1 (di st).2).2 [125])).2)
theorem ni{a b:Txt}(h:isD st a=true∨isD st b=true):st.bad=0∧(aM st).kind≠7:=by grind [Ib,dQ]
theorem yc(h:WfP st)(hk:(aM st).kind≠7):Ah st {bl st with rules:=st.rules+1}:=fj h hk
theorem HC:∀(f:Nat) (st:PS) (l:List cS),WfP st→Ah st (kI f st l).2
 |0,st,l,h=> .refl h
 |f+1,st,l,h=>by
  unfold kI;split
  ·rename_i hi
   split
   ·exact lN true h
   ·have h1:=yc h (ni hi).2
    have h2:=Cc (isD st jj) h1.1;exact(h1.trans h2).trans (HC f _ _ h2.1)
  ·exact ago
theorem ES:∀(f:Nat) (st:PS) (l:List cS),om st (kI f st l).2
 |0,st,l=> .refl
 |f+1,st,l=>by
  unfold kI;split
  ·rename_i hi
   split
   ·exact(rZ st true).big
   ·rename_i hn
    have h1:om st {bl st with rules:=st.rules+1}:=.rule .refl (ni hi).1 ad3 (ni hi).2
    exact(h1.trans (zH (isD st jj) _).big).trans (ES f _ _)
  ·exact agt
theorem HB{pol:PoF}(hp:∀st,WfP st→Ah st (pol st).2)(deep:Bool):∀(f:Nat) (st:PS) (l:List bF),WfP st→Ah st (kg pol deep f st l).2
 |0,st,l,h=> .refl h
 |f+1,st,l,h=>by
  unfold kg;split
  ·split
   ·exact lN true h
   ·have h1:=hp st h
    exact h1.trans (HB hp deep f _ _ h1.1)
  ·exact ago
theorem EO{pol:PoF}(hp:∀st,om st (pol st).2)(deep:Bool):∀(f:Nat) (st:PS) (l:List bF),om st (kg pol deep f st l).2
 |0,st,l=> .refl
 |f+1,st,l=>by
  unfold kg;split
  ·split
   ·exact(rZ st true).big
   ·exact(hp st).trans (EO hp deep f _ _)
  ·exact agt
theorem Ca(hp:∀st,WfP st→Ah st (pol st).2)(deep set:Bool)(h:WfP st):Ah st (qw pol deep set st).2:=by grind [qw,HB,HC]
theorem Nn(hp:∀st,om st (pol st).2)(deep set:Bool)(st:PS):om st (qw pol deep set st).2:=by grind [qw,EO,ES]
theorem yb:∀(r:Nat) (st:PS),WfP st→Ah st (gU r st).2
 |0,st,h=> .refl h
 |r+1,st,h=>by have h1:=Oo h;have h2:=Ca (yb r) (r==0) (di st).1.1 h1.1;have h3:=js [125] h2.1;exact((h1.trans h2).trans h3).trans (Cb h3.1)
theorem CL:∀(r:Nat) (st:PS),om st (gU r st).2
 |0,st=> .refl
 |r+1,st=>(((EN st).big.trans (Nn (CL r) _ _ _)).trans (nw _ [125]).big).trans (EP _).big
theorem vM{a b:PS}(h:om a b)(h0:a.rules≤64):b.rules≤64:=by
 induction h with
 |refl=>omega
 |small _ h1 ih=>rw[(sd h1).2.2];omega
 |rule _ _ h2 _ ih=>grind
theorem vv:∀(f:Nat) (s:Txt) (a:Nat) (out l:List so),uk f s a out= .ok l→∃pre,l=out++pre++ [⟨7,(a+s.length:Nat),0,[]⟩]∧pre.length≤s.length∧∀t∈pre,(a:Int)≤t.pos∧t.pos<((a+s.length:Nat):Int)
 |0,_,_,_,_,h=>by grind [uk]
 |f+1,[],a,out,l,h=>by grind [uk,Lexed.ok.injEq]
 |f+1,c::r,a,out,l,h=>by
  simp only[uk]at h;split at h
  ·obtain⟨pre,e1,e2,e3⟩:=vv f r (a+1) out l h
   grind
  ·split at h
   ·cases h
   ·rename_i hn
    have hle:=sN (c::r) aea;obtain⟨pre,e1,e2,e3⟩:=vv f _ _ _ l h;have ee:((a+(bV (c::r)).2+((c::r).drop (bV (c::r)).2).length:Nat):Int)=((a+(c::r).length:Nat):Int):=ad4;refine⟨{(bV (c::r)).1 with pos:=a}::pre,ad4,ad4,fun t ht=>?_⟩
    grind
theorem Bp(h:sX s= .ok ts):∃pre,ts=pre++ [⟨7,s.length,0,[]⟩]∧pre.length≤s.length∧(∀t∈pre,0≤t.pos∧t.pos<(s.length:Int))∧s.length≤4096:=by grind [sX,vv]
theorem KY(h:sX s= .ok ts)(x:Nat)(e p:Int):WfP ⟨ts,0,x,e,p⟩:=by
 obtain⟨pre,rfl,h2,_,h3⟩:=Bp h;refine⟨aea,fun i hi hk=>?_,ad4⟩
 grind
theorem zf:∀(f:Nat) (s:Txt) (a:Nat) (out:List so) (e p:Int),uk f s a out= .bad e p→e=5∧0≤p∧(s.length<f→p≤((a+s.length:Nat):Int))
 |0,s,a,out,e,p,h=>by simp only[uk,Lexed.bad.injEq]at h;omega
 |f+1,[],a,out,e,p,h=>by grind [uk]
 |f+1,c::r,a,out,e,p,h=>by
  simp only[uk]at h;split at h
  ·obtain⟨h1,h2,h3⟩:=zf f r (a+1) out e p h
   grind
  ·split at h
   ·grind
   ·obtain⟨h1,h2,h3⟩:=zf f _ _ _ e p h
    grind [sN,List.length_drop]
theorem ze{e a:Int}(h:sX s= .bad e a):(e=5∨e=6)∧0≤a∧a≤s.length:=by
 unfold sX at h;split at h
 ·grind
 ·obtain⟨h1,h2,h3⟩:=zf _ _ _ _ _ _ h
  omega
def pg:bF:=.mk [] false 0 [] [] [] []
def qH(s:Txt)(x:bF×PS):PS:=
 if(if(aM x.2).kind=7 then x.2 else br x.2).bad=0∧gQ x.1≠0 then bM (if(aM x.2).kind=7 then x.2 else br x.2) 5 s.length else(if(aM x.2).kind=7 then x.2 else br x.2)
def zv(s:Txt)(ts:List so):bF×Int×Int:=
 if(qH s (gU 4 ⟨ts,0,0,0,0⟩)).bad=0 then((gU 4 ⟨ts,0,0,0,0⟩).1,0,0)else(pg,(qH s (gU 4 ⟨ts,0,0,0,0⟩)).bad,(qH s (gU 4 ⟨ts,0,0,0,0⟩)).place)
def aS(s:Txt):bF×Int×Int:=match sX s with
 |.bad e a=>(pg,e,a)
 |.ok ts=>zv s ts
end Go.Bf
