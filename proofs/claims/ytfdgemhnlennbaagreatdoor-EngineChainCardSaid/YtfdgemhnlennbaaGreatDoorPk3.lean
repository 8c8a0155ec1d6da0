/- The law EngineChain: pack 3 of its texts. -/
import Derived.Below
import Derived.Lib.ItoaLen
import Derived.Lib.Join
import Derived.Lib.Small
import Derived.Laws.Externs
import Derived.Lib.Overlaps
import Derived.Test.YtfdgemhnlennbaaGreatDoorProg
import Derived.KernelRfl
import Derived.Lib.AtoiAll
import Derived.Test.YtfdgemhnlennbaaGreatDoorPk1
import Derived.Test.YtfdgemhnlennbaaGreatDoorPk2
set_option linter.unusedSimpArgs false
set_option linter.unusedVariables false
set_option maxRecDepth 100000
namespace Go.Ab
open Go
section
variable {P : Program} {U : TypeId → TI} {n : Nat} {ρ : Env} {h h' : Heap} {tb : TypeId} {y : AV} {l : List UInt8}
theorem Bytes.from(hb:Bytes tb h y l){lo:Operand}{m:Int}{x:IntKind}{K:AV→Prop}(j:Nat)(hm:ev ρ lo=some (.v (.int x m)))(hj:m=j)(hl:j≤l.length)(hz:(U tb).sz=1)(hk:∀z,Bytes tb h z (l.drop j)→K z):
  gL U ρ y (some lo) none none K (.slice tb):=by
 subst hj;rcases hb with⟨q,rfl⟩|⟨id,off,cs,rfl,h1,h2,h3⟩
 ·rw[DT,hm]
  refine⟨ab7,by grind [jy],?_⟩
  refine⟨ab7,ab8,?_⟩;rw[←List.map_drop];exact hk _ (.sl _ _)
 ·rw[ry]
  refine⟨ab7,fun _=>hz,?_⟩
  simp only[mb,fL,hm,dw,mX];refine⟨ab7,ab7,ab7,?_⟩;simp only[Int.toNat_natCast,hz,Nat.mul_one];have e:(l.drop j).length=l.length - j:=aci;have:=hk (.oa id (off+j) (l.drop j).length) (by grind [oa,List.map_drop,List.drop_drop,List.drop_take])
  rwa [e]at this
theorem Bytes.cut(hb:Bytes tb h y l){lo hi:Operand}{m m2:Int}{x x2:IntKind}{K:AV→Prop}(j k:Nat)(hm:ev ρ lo=some (.v (.int x m)))(hj:m=j)(hm2:ev ρ hi=some (.v (.int x2 m2)))(hk2:m2=k)(hjk:j≤k)(hl:k≤l.length)(hz:(U tb).sz=1)
  (hk:∀z,Bytes tb h z ((l.drop j).take (k - j))→K z):gL U ρ y (some lo) (some hi) none K (.slice tb):=by
 subst hj;subst hk2
 rcases hb with⟨q,rfl⟩|⟨id,off,cs,rfl,h1,h2,h3⟩
 ·rw[Jo,hm]
  refine⟨ab7,by grind [jy],?_⟩
  simp only[dw,mX,hm2,Int.toNat_natCast,S0];refine⟨ab7,ab7,ab8,?_⟩;rw[←List.map_drop,←List.map_take];exact hk _ (.sl _ _)
 ·rw[ry]
  refine⟨ab7,fun _=>hz,?_⟩
  simp only[fL,hm,dw,mX,hm2];refine⟨ab7,ab7,ab7,?_⟩;simp only[Int.toNat_natCast,hz,Nat.mul_one];have e:((l.drop j).take (k - j)).length=k - j:=ab8;have:=hk (.oa id (off+j) ((l.drop j).take (k - j)).length) (.oa h1 ab7 (by
   grind [List.map_take,List.map_drop,List.drop_drop,List.drop_take]))
  rwa [e]at this
end
theorem Pv(k:IntKind)(n:Nat)(hk:k.signed=false)(hn:n<2 ^ k.bits):k.wrap (n:Int)=n:=by
 cases k<;>simp[IntKind.signed]at hk<;>simp[IntKind.wrap,IntKind.signed,IntKind.bits]at hn⊢<;>omega
theorem w32(n:Nat)(hn:n<4294967296):IntKind.u32.wrap (n:Int)=n:=Pv .u32 n rfl afM
theorem w8(n:Nat):IntKind.u8.wrap (n:Int)=(UInt8.ofNat n).toNat:=by
 rfl
theorem AA(w n:Nat):BitVec.ofInt w (n:Int)=BitVec.ofNat w n:=BitVec.ofInt_natCast ..
theorem Mz(x y:BitVec 32):IntKind.u32.wrap (((BitVec.ofInt IntKind.u32.bits (x.toNat:Int) ^^^ BitVec.ofInt IntKind.u32.bits (y.toNat:Int)).toNat:Nat):Int)=((x ^^^ y).toNat:Int):=by
 have e:∀z:BitVec 32,BitVec.ofInt IntKind.u32.bits (z.toNat:Int)=z:=fun z=>by
  show BitVec.ofInt 32 (z.toNat:Int)=z
  simp
 rw[e,e];exact w32 _ (x ^^^ y).isLt
theorem RD(x:BitVec 32):IntKind.u32.wrap (((BitVec.ofInt IntKind.u32.bits (x.toNat:Int) ^^^ BitVec.ofInt IntKind.u32.bits (3988292384:Int)).toNat:Nat):Int)=((x ^^^ 0xedb88320#32).toNat:Int):=Mz x 0xedb88320#32
theorem Uc(x:BitVec 32):IntKind.u32.wrap (((BitVec.ofInt IntKind.u32.bits (if IntKind.u32.signed=true then -1 else IntKind.u32.max) ^^^ BitVec.ofInt IntKind.u32.bits (x.toNat:Int)).toNat:Nat):Int)=((~~~ x).toNat:Int):=by
 have:=Mz (BitVec.allOnes 32) x;exact acQ
theorem Ta(x:BitVec 32):IntKind.u32.wrap (((BitVec.ofInt IntKind.u32.bits (x.toNat:Int) &&& BitVec.ofInt IntKind.u32.bits (1:Int)).toNat:Nat):Int)=((x &&& 1#32).toNat:Int):=by
 have e:BitVec.ofInt IntKind.u32.bits (x.toNat:Int)=x:=by
  show BitVec.ofInt 32 (x.toNat:Int)=x
  simp
 rw[e];exact w32 _ (x &&& 1#32).isLt
theorem Up(x:BitVec 32):(x.toNat:Int).fdiv (2 ^ (min (1:Int).toNat IntKind.u32.bits))=((x>>>1).toNat:Int):=by
 show(x.toNat:Int).fdiv (2 ^ 1)=_
 grind [Int.fdiv_eq_ediv_of_nonneg,Nat.shiftRight_eq_div_pow]
theorem WY(n:Nat)(k:Nat)(hk:k≤24):(n:Int).fdiv (2 ^ (min (k:Int).toNat IntKind.u32.bits))=((n / 2 ^ k:Nat):Int):=by
 grind [min,Int,IntKind.bits,Int.fdiv_eq_ediv_of_nonneg,Int.le_of_lt,Int.pow_pos]
theorem WN(a b k:Nat)(ha:a<2 ^ k)(hk:k≤24)(hb:b<256):IntKind.u32.wrap (((BitVec.ofInt IntKind.u32.bits (a:Int)|||BitVec.ofInt IntKind.u32.bits ((b*2 ^ k:Nat):Int)).toNat:Nat):Int)=((a+b*2 ^ k:Nat):Int):=by
 have h24:2 ^ k≤2 ^ 24:=Nat.pow_le_pow_right acd hk;have hbk:b*2 ^ k≤255*2 ^ 24:=Nat.mul_le_mul ab7 h24;have e1:(BitVec.ofNat 32 a|||BitVec.ofNat 32 (b*2 ^ k)).toNat=a+b*2 ^ k:=by
  exact agV
 show IntKind.u32.wrap (((BitVec.ofInt 32 (a:Int)|||BitVec.ofInt 32 ((b*2 ^ k:Nat):Int)).toNat:Nat):Int)=_
 rw[AA,AA,e1]
 grind [w32]
theorem Uo(b k:Nat)(hk:k≤24)(hb:b<256):IntKind.u32.wrap ((b:Int)*2 ^ (min (k:Int).toNat IntKind.u32.bits))=((b*2 ^ k:Nat):Int):=by
 have h24:2 ^ k≤2 ^ 24:=Nat.pow_le_pow_right acd hk;have hbk:b*2 ^ k≤255*2 ^ 24:=Nat.mul_le_mul ab7 h24;have:min (k:Int).toNat IntKind.u32.bits=k:=afM;rw[this,show((b:Int)*2 ^ k)=((b*2 ^ k:Nat):Int) by simp]
 exact w32 _ ab7
section
variable {U : TypeId → TI} {ty : TypeId} {K : AV → Prop}
@[go_sem high] theorem abV(x y:BitVec 32):cj U .xor ty (.v (.int .u32 (x.toNat:Int))) (.v (.int .u32 (y.toNat:Int))) K=K (.v (.int .u32 ((x ^^^ y).toNat:Int))):=by rw[ON,Mz]
@[go_sem high] theorem ZJ(x:BitVec 32):cj U .xor ty (.v (.int .u32 (x.toNat:Int))) (.v (.int .u32 3988292384)) K=K (.v (.int .u32 ((x ^^^ 0xedb88320#32).toNat:Int))):=by rw[ON,RD]
@[go_sem high] theorem Wh(x:BitVec 32):cj U .and ty (.v (.int .u32 (x.toNat:Int))) (.v (.int .u32 1)) K=K (.v (.int .u32 ((x &&& 1#32).toNat:Int))):=by rw[Kc,Ta]
@[go_sem high] theorem Wk(x:BitVec 32)(kk:IntKind):cj U .shr ty (.v (.int .u32 (x.toNat:Int))) (.v (.int kk 1)) K=K (.v (.int .u32 ((x>>>1).toNat:Int))):=by grind [Ke,Up]
@[go_sem high] theorem W5(x:BitVec 32):unA .xor (.v (.int .u32 (x.toNat:Int))) K=K (.v (.int .u32 ((~~~ x).toNat:Int))):=by rw[B1,Uc]
theorem Kk(n k:Nat)(kk:IntKind)(hk:k≤24):cj U .shr ty (.v (.int .u32 (n:Int))) (.v (.int kk (k:Int))) K=K (.v (.int .u32 ((n / 2 ^ k:Nat):Int))):=by grind [Ke,WY]
theorem Kj(a b k:Nat)(ha:a<2 ^ k)(hk:k≤24)(hb:b<256):cj U .or ty (.v (.int .u32 (a:Int))) (.v (.int .u32 ((b*2 ^ k:Nat):Int))) K=K (.v (.int .u32 ((a+b*2 ^ k:Nat):Int))):=by grind [Tc,WN]
theorem Ev(b k:Nat)(kk:IntKind)(hk:k≤24)(hb:b<256):cj U .shl ty (.v (.int .u32 (b:Int))) (.v (.int kk (k:Int))) K=K (.v (.int .u32 ((b*2 ^ k:Nat):Int))):=by grind [OM,Uo]
end
section
variable {P : Program} {U : TypeId → TI} {n : Nat} {ρ : Env} {h0 h h' : Heap} {tb : TypeId} {y v : AV} {l m : List UInt8} {Q : AV → Heap → Prop}
end
section
variable {U : TypeId → TI} {ty : TypeId} {K : AV → Prop}
end
section
variable {P : Program} {U : TypeId → TI} {n : Nat} {ρ : Env} {h : Heap}
section
variable (all : List Oper) (bs : List Bool) (r : List Oper) (K : Env → Heap → Prop)
end
theorem ai.of_wp{f:FuncId}{fn:Func}{c:Code}{args:List AV}{Q:AV→Heap→Prop}(hU:∀t,aN P U t)(hf:P.funcs[f]? =some fn)(hb:fn.body=some c)
  (hn : (fn.name == "runtime.NumGoroutine") = false) (m : Nat) (hm' : fn.ntmps = m) (rs : List ResultVar) (hr : fn.results.toList = rs) (hl : args.length ≤ m)
  (hk:WP P m c (xA args) h (vf U rs Q)):ai P f args h Q:=by
 subst hm';subst hr
 exact ai.Lv hU hf hb hn hl fun _=>hk
end
section
variable {P : Program} {U : TypeId → TI} {n : Nat} {ρ : Env} {h : Heap}
def KCut(I:Env→Heap→Prop)(K:Exit→Env→Heap→Prop):Exit→Env→Heap→Prop:=KSeq I K
@[go_sem↓] theorem SY(I:Env→Heap→Prop)(K:Exit→Env→Heap→Prop):KCut I K .ret ρ h=K .ret ρ h:=rfl
theorem WP.cut{c d:Code}{K:Exit→Env→Heap→Prop}(I:Env→Heap→Prop)(hc:WP P n c ρ h (KCut I K))(hd:∀ρ h,I ρ h→WP P n d ρ h K):WP P n (.seq c d) ρ h K:=
 WP.seq (hc.weaken fun e ρ h hk=>by
  cases e with
  |normal=>exact hd ρ h hk
  |_=>exact hk)
theorem WP.vc(hU:∀t,aN P U t)(hm:P.follows .mixedOrders=true){c:Code}{K:Exit→Env→Heap→Prop}(hk:bx P U n c ρ h K):WP P n c ρ h K:=dK hU hm c ρ h K hk
def KNext(P:Program)(n:Nat)(d:Code)(K:Exit→Env→Heap→Prop):Exit→Env→Heap→Prop:=KSeq (WP P n d · · K) K
@[go_sem↓] theorem MM(d:Code)(K:Exit→Env→Heap→Prop):KNext P n d K .normal ρ h=WP P n d ρ h K:=rfl
@[go_sem↓] theorem RW(d:Code)(K:Exit→Env→Heap→Prop):KNext P n d K .ret ρ h=K .ret ρ h:=rfl
@[go_sem↓] theorem PI(d:Code)(K:Exit→Env→Heap→Prop)(i:Nat):KNext P n d K (.goto i) ρ h=K (.goto i) ρ h:=rfl
theorem WP.one(hU:∀t,aN P U t)(hm:P.follows .mixedOrders=true){c d:Code}{K:Exit→Env→Heap→Prop}(hk:bx P U n c ρ h (KNext P n d K)):WP P n (.seq c d) ρ h K:=WP.seq (dK hU hm c ρ h _ hk)
end
section
variable {P : Program} {U : TypeId → TI} {n : Nat} {ρ : Env} {h : Heap}
variable {d : Option Tmp} {t : TypeId} {p : String} {a : Array Edge} {g : Option (Nat × Bool)} {Q : AV → Heap → Prop} {k : AV → Prop}
@[go_sem] theorem U2(x y:TypeId)(k:TK→Prop):atK (.map x y) k=k (.map x y):=rfl
@[go_sem] theorem Tj(i:Nat):AV.cells (.mp i)= [.mp i]:=rfl
@[go_sem] theorem Wu(i m:Nat):fit (.mp i) m=(m=1):=rfl
@[go_sem] theorem VB(l:List UInt8):gA .str (.s l)=(l.length≤maxLen):=rfl
def mpL(b:Blk)(f:List (AV×AV)→Prop):Prop:=match b with
 |.mp m=>f m
 |_=>False
@[congr] theorem SA{b b' :Blk}{f:List (AV×AV)→Prop}(e:b=b'):mpL b f=mpL b' f:=by rw[e]
@[go_sem↓] theorem WC(m:List (AV×AV))(f:List (AV×AV)→Prop):mpL (.mp m) f=f m:=rfl
def zR(tk:TK)(m:List (AV×AV)):Prop:=∀p∈m,gA tk p.1
def J1(ti:TI):Prop:=ti.sz≠0∨ti.k= .strct []
def Dd(U:TypeId→TI)(h:Heap)(u v:AV)(ok:Bool)(k:AV→Prop)(tk:TK):Prop:=match tk,u with
 |.map kt e,.mp id=>gA (U kt).k v∧J1 (U e)∧aE (h id) fun b=>mpL b fun m=>zR (U kt).k m∧k (yf U e m v ok)
 |_,_=>False
@[congr] theorem O5{u u' v v' :AV}{ok:Bool}{k:AV→Prop}{tk:TK}(h1:u=u')(h2:v=v'):Dd U h u v ok k tk=Dd U h u' v' ok k tk:=by grind
@[go_sem↓] theorem T5(kt e:TypeId)(id:Nat)(v:AV)(ok:Bool):Dd U h (.mp id) v ok k (.map kt e)=(gA (U kt).k v∧J1 (U e)∧aE (h id) fun b=>mpL b fun m=>zR (U kt).k m∧k (yf U e m v ok)):=rfl
@[go_sem↓] theorem Ug(mt:TypeId)(x y:Operand)(ok:Bool):aZ P U ρ h ⟨d,.lookup mt x y ok,t,p,a,g⟩ Q=aE (ev ρ x) fun u=>aE (ev ρ y) fun v=>atK (U mt).k (Dd U h u v ok (atH Q h)):=by
 simp only[aZ,pv,bV,atK]
 congr 1
 funext u
 congr 1
 funext v
 cases (U mt).k with
 |map kt e=>
  cases u with
  |mp id=>
   simp only[Dd]
   congr 2
   exact agp
  |_=>rfl
 |_=>rfl
def LN(U:TypeId→TI)(h:Heap)(u v w:AV)(Q:AV→Heap→Prop)(tk:TK):Prop:=match tk,u with
 |.map kt e,.mp id=>gA (U kt).k v∧aE (h id) fun b=>mpL b fun m=>zR (U kt).k m∧Q (.v undef) (upd h id (some (.mp (zE m v w))))
 |_,_=>False
@[congr] theorem Ra{u u' v v' w w' :AV}{tk:TK}(h1:u=u')(h2:v=v')(h3:w=w'):LN U h u v w Q tk=LN U h u' v' w' Q tk:=by grind
@[go_sem↓] theorem VP(kt e:TypeId)(id:Nat)(v w:AV):LN U h (.mp id) v w Q (.map kt e)=(gA (U kt).k v∧aE (h id) fun b=>mpL b fun m=>zR (U kt).k m∧Q (.v undef) (upd h id (some (.mp (zE m v w))))):=rfl
@[go_sem↓] theorem Pc(mt:TypeId)(x y z:Operand):aZ P U ρ h ⟨d,.mapUpdate mt x y z,t,p,a,g⟩ Q=aE (ev ρ x) fun u=>aE (ev ρ y) fun v=>aE (ev ρ z) fun w=>atK (U mt).k (LN U h u v w Q):=by
 simp only[aZ,bV,atK]
 congr 1
 funext u
 congr 1
 funext v
 congr 1
 funext w
 cases (U mt).k with
 |map kt e=>
  cases u with
  |mp id=>
   simp only[LN]
   congr 1
   exact agp
  |_=>rfl
 |_=>rfl
def S2(h:Heap)(Q:AV→Heap→Prop):Prop:=∀id,h id=none→Q (.mp id) (upd h id (some (.mp [])))
@[go_sem↓] theorem SL(mt:TypeId):aZ P U ρ h ⟨d,.makeMap mt none,t,p,a,g⟩ Q=S2 h Q:=by
 simp only[aZ,Hl,true_and];rfl
end
def zD(ls:List (List UInt8)):List (AV×AV):=ls.map fun l=>(.s l,.agg [])
theorem CR(ls:List (List UInt8))(l:List UInt8):getM (zD ls) (.s l)=if l∈ls then some (.agg [])else none:=by
 induction ls with
 |nil=>rfl
 |cons x ls ih=>
  simp only[getM,zD,List.map_cons,List.find?_cons,rU]at ih⊢
  grind
theorem L7{ls:List (List UInt8)}{l:List UInt8}(hn:l∉ls):zE (zD ls) (.s l) (.agg [])=zD (ls++ [l]):=by
 unfold zE;rw[CR,if_neg hn];simp[zD]
theorem IX(U:TypeId→TI)(e:TypeId)(he:(U e).sz=0)(ls:List (List UInt8))(l:List UInt8):yf U e (zD ls) (.s l) true= .tup [.agg [],.b (decide (l∈ls))]:=by
 simp only[yf,CR,fC,he,if_true]
 grind
theorem IV{ls:List (List UInt8)}(h:∀l∈ls,l.length≤maxLen):zR .str (zD ls):=fun p hp=>by
 obtain⟨l,hl,rfl⟩:=List.mem_map.1 hp;exact h l hl
section
variable {P : Program} {f : FuncId} {args : List AV} {h h' : Heap} {Q : AV → Heap → Prop}
theorem Ext.below{c:Cx}{w' :World}(hb:Go.RowKit.Below c.w.heap.size c.w w'):Ext c {c with w:=w'} where
 os:=hb.os
 tape:=hb.tape
 output:=hb.output
 size:=hb.size
 block:=fun b h _=>hb.block b h
 cell:=fun b o h _=>by
  simp only[World.cell?,hb.block b h]
 shape:=fun b cs t fr h=>⟨cs,fr,(hb.block b (cU h)).trans h,rfl⟩
 steal:=fun _ _ _ h=>h
 obj:=fun _ cs _ h=>⟨rfl,cs,h,rfl⟩
 spare:=fun _ n _ h=>⟨n,h,.inl ⟨rfl,rfl⟩⟩
 mp:=fun _ m h=>⟨rfl,m,h⟩
 ro:=fun _ _ _ h=>⟨rfl,h⟩
theorem Good.below{c:Cx}(g:Good c){w' :World}(hb:Go.RowKit.Below c.w.heap.size c.w w'):Good {c with w:=w'} where
 fin:=g.fin
 inj:=g.inj
 obj:=fun id cs t h=>by
  obtain⟨vs,a1,a2,a3⟩:=g.obj id cs t h;exact⟨vs,(hb.block _ (cU a1)).trans a1,a2,fun j hj=>⟨(a3 j hj).1.mono (.below hb),(a3 j hj).2⟩⟩
 spare:=fun id n sz h=>by
  obtain⟨a0,vs,t,fr,a1,a2⟩:=g.spare id n sz h;exact⟨a0,vs,t,fr,(hb.block _ (cU a1)).trans a1,a2⟩
 mp:=fun id m h=>by
  obtain⟨es,cl,a1,a2,a3⟩:=g.mp id m h;exact⟨es,cl,(hb.block _ (cU a1)).trans a1,a2,fun i hi hi' =>⟨(a3 i hi hi').1,(a3 i hi hi').2.mono (.below hb)⟩⟩
 keys:=g.keys
 ro:=fun id b vs h=>g.ni (.below hb) h
theorem ai.lib{X:AV}(hc:callable P f)(hf:∀c (vs:Array Value),Sub h c.h→Good c→vs.size=args.length→(∀i (hi:i<args.length),Rep c args[i] (vs.getD i undef))→
  Calls P f vs c.w fun e w' =>(∃u,e= .returned u∧∀c',Ext c c'→Rep c' X u)∧Go.RowKit.Below c.w.heap.size c.w w'):ai P f args h fun r h' =>r=X∧h' =h:=by
 refine fun c vs hs g h1 h2=> .inl ⟨hc,(hf c vs hs g h1 h2).mono ?_⟩
 rintro e w' ⟨⟨u,rfl,hu⟩,hb⟩
 exact⟨u,rfl,{c with w:=w'},X,h,rfl,g.below hb,.below hb,hu _ (.below hb),hs,rfl,rfl⟩
def Tab(h:Heap)(b:Nat)(vs:List Value):Prop:=∃id,h id=some (.ro b vs)
theorem Tab.sub{b:Nat}{vs:List Value}(ht:Tab h b vs)(hs:Sub h h'):Tab h' b vs:=let ⟨id,hi⟩:=ht;⟨id,hs _ _ hi⟩
end
def wz(ts:List (Nat×List Value)):Heap:=fun i=>(ts[i]?).map fun p=> .ro p.1 p.2
def cxT(w:World)(ts:List (Nat×List Value)):Cx:=⟨w,fun i=>⟨((ts[i]?).map (·.1)).getD 0,0,none⟩,wz ts⟩
theorem LD(w:World)(ts:List (Nat×List Value))(b o:Nat):¬owned (cxT w ts) b o:=by
 rintro⟨id,k,h,_,h3⟩
 simp only[cxT,wz,Option.map_eq_some_iff]at h;obtain⟨p,_,rfl⟩:=h;exact h3
theorem TQ(w:World)(ts:List (Nat×List Value))(hd:ts.Pairwise fun p q=>p.1≠q.1)(ht:∀p∈ts,∃(t:TypeId) (fr:Nat×Nat),w.heap[p.1]? =some (.cells p.2.toArray t fr)):Good (cxT w ts) where
 fin:=⟨ts.length,fun id h=>by simp[cxT,wz,List.getElem?_eq_none h]⟩
 inj:=fun i j k l h1 h2 hne=>by
  simp only[cxT,wz,Option.map_eq_some_iff]at h1 h2;obtain⟨p,hp,rfl⟩:=h1;obtain⟨q,hq,rfl⟩:=h2;simp only[cxT,hp,hq,Option.map_some,Option.getD_some];obtain⟨hi,rfl⟩:=List.getElem?_eq_some_iff.1 hp
  grind [List.pairwise_iff_getElem,Nat.lt_or_gt_of_ne]
 obj:=fun id cs t h=>by
  simp_all [cxT,wz,Option.map_eq_some_iff]
 spare:=fun id n sz h=>by
  simp_all [cxT,wz,Option.map_eq_some_iff]
 mp:=fun id m h=>by
  simp_all [cxT,wz,Option.map_eq_some_iff]
 keys:=fun id m h=>by
  simp_all [cxT,wz,Option.map_eq_some_iff]
 ro:=fun id b vs h=>by
  simp only[cxT,wz,Option.map_eq_some_iff]at h;obtain⟨p,hp,h⟩:=h;cases h;refine⟨by grind [cxT],ht p ab8⟩
theorem ai.Qa{P:Program}{f:FuncId}{args:List AV}{b:Value}{vs:Array Value}{w:World}{ts:List (Nat×List Value)}(hc:callable P f)(hf:ai P f args (wz ts) fun r _=>r= .v b)(hd:ts.Pairwise fun p q=>p.1≠q.1)
  (ht:∀p∈ts,∃(t:TypeId) (fr:Nat×Nat),w.heap[p.1]? =some (.cells p.2.toArray t fr)) (hv:vs.size=args.length) (hr:∀i (hi:i<args.length),Rep (cx0 w) args[i] (vs.getD i undef)):
  Calls P f vs w fun e w' =>e= .returned b∧Go.RowKit.Below w.heap.size w w' :=by
 have hE:Ext (cx0 w) (cxT w ts):=⟨rfl,rfl,rfl,Nat.le_refl _,fun _ _ _=>rfl,fun _ _ _ _=>rfl,fun _ cs _ fr h=>⟨cs,fr,h,rfl⟩,fun b o _ h=>(LD w ts b o h).elim,
  fun _ _ _ h=>acZ,fun _ _ _ h=>acZ,fun _ _ h=>acZ,fun _ _ _ h=>acZ⟩
 refine((hf (cxT w ts) vs (fun _ _ h=>h) (TQ w ts hd ht) hv fun i hi=>(hr i hi).mono hE).calls hc).mono ?_
 rintro e w' ⟨u,rfl,c',x,h',rfl,g',hE,hx,hs,rfl⟩
 rw[hx.bT];exact⟨rfl,hE.os,hE.tape,hE.output,hE.size,fun k hk=>hE.block k hk fun o=>LD w ts k o⟩
mutual
def strip:AV→AV
 |.sl xs _=> .sl (fT xs) .no
 |.agg xs=> .agg (fT xs)
 |.tup xs=> .tup (fT xs)
 |.v x=> .v x
 |.s l=> .s l
 |.pe x o=> .pe x o
 |.ptr i o=> .ptr i o
 |.oa i o l=> .oa i o l
 |.ifc t x=> .ifc t x
 |.fn f c=> .fn f c
 |.mp i=> .mp i
 |.ob i o l c s=> .ob i o l c s
def fT:List AV→List AV
 | []=>[]
 |x::r=>strip x::fT r
end
theorem fk:∀xs:List AV,(fT xs).length=xs.length
 | []=>rfl
 |x::r=>by simp[fT,fk r]
theorem gy:∀(xs:List AV) (i:Nat) (h1:i<xs.length) (h2:i<(fT xs).length),(fT xs)[i]=strip xs[i]
 |x::r,0,h1,h2=>acr
 |x::r,i+1,h1,h2=>by simpa[fT]using gy r i ab8 (by grind [fT])
theorem vO(x:AV):(strip x).cells=match x with|.agg xs=>fT xs|_=>[strip x]:=by
 cases x<;>simp[strip,AV.cells]
mutual
theorem fB:∀x:AV,Weak x (strip x)
 |.sl xs p=> .deep _ _ p (fk xs).symm (fun i h1 h2=>by
    rw[gy xs i h1 h2,vO];have:=nv xs i h1;cases hx:xs[i]<;>simp[AV.cells,fk])
   (fun i h1 h2 j h3 h4=>by
    have hw:=nv xs i h1;have e:=gy xs i h1 h2;exact hw (fT xs)[i] e j h3 h4)
 |.agg xs=> .agg _ _ (fk xs).symm fun i h1 h2=>aeA
 |.tup xs=> .tup _ _ (fk xs).symm fun i h1 h2=>aeA
 |.v x=> .refl _
 |.s l=> .refl _
 |.pe x o=> .refl _
 |.ptr i o=> .refl _
 |.oa i o l=> .refl _
 |.ifc t x=> .refl _
 |.fn f c=> .refl _
 |.mp i=> .refl _
 |.ob i o l c s=> .refl _
theorem lC:∀(xs:List AV) (i:Nat) (h:i<xs.length),Weak xs[i] (strip xs[i])
 |x::r,0,h=>fB x
 |x::r,i+1,h=>lC r i (by simpa using h)
theorem nv:∀(xs:List AV) (i:Nat) (h:i<xs.length) (y:AV),y=strip xs[i]→∀(j:Nat) (h3:j<xs[i].cells.length) (h4:j<y.cells.length),Weak xs[i].cells[j] y.cells[j]
 |x::r,0,h,y,e,j,h3,h4=>F0 x y e j h3 h4
 |x::r,i+1,h,y,e,j,h3,h4=>nv r i (by simpa using h) y e j h3 h4
theorem F0:∀(x y:AV),y=strip x→∀(j:Nat) (h3:j<x.cells.length) (h4:j<y.cells.length),Weak x.cells[j] y.cells[j]
 |.agg xs,y,e,j,h3,h4=>by
  subst e;simp only[strip,AV.cells]at h4⊢;rw[gy xs j h3 h4];exact lC xs j h3
 |.sl xs p,y,e,j,h3,h4=>by
  subst e;simp only[strip,AV.cells,List.length_singleton]at h3 h4⊢;obtain rfl:j=0:=ab7;exact .deep _ _ p (fk xs).symm (fun i h1 h2=>by
    rw[gy xs i h1 h2,vO];cases hx:xs[i]<;>simp[AV.cells,fk])
   (fun i h1 h2 j h3 h4=>nv xs i h1 _ (gy xs i h1 h2) j h3 h4)
 |.tup xs,y,e,j,h3,h4=>by
  subst e;simp only[strip,AV.cells,List.length_singleton]at h3 h4⊢;obtain rfl:j=0:=ab7;exact .tup _ _ (fk xs).symm fun i h1 h2=>aeA
 |.v x,y,e,j,h3,h4=>adl
 |.s l,y,e,j,h3,h4=>adl
 |.pe x o,y,e,j,h3,h4=>adl
 |.ptr i o,y,e,j,h3,h4=>adl
 |.oa i o l,y,e,j,h3,h4=>adl
 |.ifc t x,y,e,j,h3,h4=>adl
 |.fn f c,y,e,j,h3,h4=>adl
 |.mp i,y,e,j,h3,h4=>adl
 |.ob i o l c s,y,e,j,h3,h4=>adl
end
section
variable {P : Program} {U : TypeId → TI} {n : Nat} {ρ : Env} {h0 h h' : Heap} {tb : TypeId} {y v : AV} {xs zs : List AV} {Q : AV → Heap → Prop} {f : FuncId} {args : List AV}
def One(xs:List AV):Prop:=∀x∈xs,bA x=false
theorem nT{x:AV}(h:bA x=false):x.cells= [x]:=by cases x<;>first|rfl|(cases h)
theorem One.sized(h:One xs):Sized 1 xs:=fun z hz=>by rw[nT (h z hz)];rfl
theorem One.map{α:Type}{g:α→AV}(hg:∀a,bA (g a)=false)(l:List α):One (l.map g):=fun x hx=>by
 grind
def Em(tb:TypeId)(h:Heap)(y:AV)(xs:List AV):Prop:=
 (∃q,y= .sl xs q)∨∃id off cs,y= .oa id off xs.length∧h id=some (.obj cs tb)∧off+xs.length≤cs.length∧(cs.drop off).take xs.length=xs
theorem Em.sl(xs:List AV)(q:Perm):Em tb h (.sl xs q) xs:=.inl ⟨q,rfl⟩
theorem Em.len(hb:Em tb h y xs)(e:TypeId)(k:AV→Prop):wg y k (.slice e)=k (.i xs.length):=by
 exact ag1
def AtP(U:TypeId→TI)(tb:TypeId)(h:Heap)(p x:AV):Prop:=∀k:AV→Prop,mZ U h tb p k=k x
theorem Em.idx(hb:Em tb h y xs)(ho:One xs){m:Int}{x:IntKind}{K:AV→Prop}(j:Nat)(hm:m=j)(hj:j<xs.length)(hz:(U tb).sz=1)(ha:(U tb).k.agg=false)
  (hk:∀p,AtP U tb h p xs[j]→K p):oN U y (.v (.int x m)) K (.slice tb):=by
 subst hm;have h1:=ho xs[j] aci;rcases hb with⟨q,rfl⟩|⟨id,off,cs,rfl,g1,g2,g3⟩
 ·refine(uk ..).mpr ⟨ab7,?_⟩
  refine fm.at j hj (by grind [nT]) ?_
  refine hk _ fun k=>?_
  simp_all [mZ,J9,nT,List.length_cons,List.length_nil,Nat.zero_add,and_self,if_true]
 ·refine(Am ..).mpr ⟨ab7,ab7,ab7,?_⟩
  refine hk _ fun k=>?_
  have e1:cs[off+j]? =some xs[j]:=by
   grind
  simp only[mZ,g1,dw,BM,hz,Nat.mul_one,Int.toNat_natCast,Dw,ha,Br,e1];simp
def WrA(tb:TypeId)(h0 h:Heap)(y:AV)(xs:List AV):Prop:=
 Sub h0 h∧((xs= []∧y= .sl [] .full)∨∃id cs,h0 id=none∧y= .oa id 0 xs.length∧h id=some (.obj cs tb)∧xs.length≤cs.length∧cs.take xs.length=xs)
theorem WrA.nil(hs:Sub h0 h):WrA tb h0 h (.sl [] .full) []:=⟨hs,.inl ⟨rfl,rfl⟩⟩
theorem WrA.seq(hw:WrA tb h0 h y xs):Em tb h y xs:=by
 obtain⟨_,⟨rfl,rfl⟩|⟨id,cs,_,rfl,h1,h2,h3⟩⟩:=hw
 ·exact aeJ
 ·exact .inr ⟨id,0,cs,rfl,h1,ab7,ab8⟩
theorem WrA.sub(hw:WrA tb h0 h y xs)(hs:Sub h h'):WrA tb h0 h' y xs:=by
 obtain⟨h1,hw|⟨id,cs,a,e,b,c,d⟩⟩:=hw
 ·exact⟨h1.trans hs,.inl hw⟩
 ·exact⟨h1.trans hs,.inr ⟨id,cs,a,e,hs _ _ b,c,d⟩⟩
theorem WrA.base(hw:WrA tb h0 h y xs){id:Nat}(hid:h id=none)(b:Option Blk):WrA tb (upd h0 id b) (upd h id b) y xs:=by
 obtain⟨h1,hw⟩:=hw;have h2:Sub (upd h0 id b) (upd h id b):=fun j k hj=>by
  by_cases e:j=id
  ·grind [ah]
  ·rw[ag _ _ e]at hj⊢;exact h1 _ _ hj
 rcases hw with hw|⟨i,cs,a,e,c,d⟩
 ·exact⟨h2,.inl hw⟩
 ·have hne:i≠id:=fun hh=>by subst hh;rw[hid]at c;cases c
  exact⟨h2,.inr ⟨i,cs,acM,e,acM,d⟩⟩
theorem WrA.less(hw:WrA tb h' h y xs)(hs:Sub h0 h'):WrA tb h0 h y xs:=by
 obtain⟨h1,hw|⟨i,cs,a,e,c,d⟩⟩:=hw
 ·exact⟨hs.trans h1,.inl hw⟩
 ·exact⟨hs.trans h1,.inr ⟨i,cs,hs.none a,e,c,d⟩⟩
theorem WrA.len(hw:WrA tb h0 h y xs)(e:TypeId)(k:AV→Prop):wg y k (.slice e)=k (.i xs.length):=hw.seq.len e k
theorem WrA.idx(hb:WrA tb h0 h y xs)(ho:One xs){m:Int}{x:IntKind}{K:AV→Prop}(j:Nat)(hm:m=j)(hj:j<xs.length)(hz:(U tb).sz=1)(ha:(U tb).k.agg=false)
  (hk:∀p,AtP U tb h p xs[j]→K p):oN U y (.v (.int x m)) K (.slice tb):=hb.seq.idx ho j hm hj hz ha hk
theorem WrA.cut(hw:WrA tb h0 h y xs){hi:Operand}{m:Int}{x:IntKind}{K:AV→Prop}(j:Nat)(hm:ev ρ hi=some (.v (.int x m)))(hj:m=j)(hl:j≤xs.length)(hz:(U tb).sz=1)
  (hk:∀z,WrA tb h0 h z (xs.take j)→K z):gL U ρ y none (some hi) none K (.slice tb):=by
 subst hj;have hs:=hw.1;obtain⟨_,⟨rfl,rfl⟩|⟨id,cs,h1,rfl,h2,h3,h4⟩⟩:=hw
 ·rw[qK,fL,hm]
  refine⟨ab7,?_⟩;have:j=0:=ab8;subst this;refine⟨ab7,aci,?_⟩;exact hk _ (.nil hs)
 ·rw[ry]
  refine⟨ab7,fun _=>hz,?_⟩
  simp only[mb,fL,hm,dw,mX];refine⟨ab7,ab7,ab7,?_⟩;have e:(xs.take j).length=j:=ab8;have:=hk (.oa id 0 (xs.take j).length) ⟨hs,.inr ⟨id,cs,h1,rfl,h2,ab7,ab8⟩⟩;rw[e]at this;simpa using this
theorem WrA.app(hw:WrA tb h0 h y xs)(ho:One xs)(hoz:One zs)(hz:(U tb).sz=1)(hb:(U tb).bytes≠0)(hf:fit (U tb).zero 1)(hn:bA (U tb).zero=false)(hsrc:∀k:List AV→Prop,k zs→iu U tb h v k)
  (hlen:(xs.length+zs.length)*(U tb).bytes≤140737488355328) (hk:∀y' h',WrA tb h0 h' y' (xs++zs)→Q y' h'):apK U h y v Q (.slice tb):=by
 have hs:=hw.1;have one:Sized (U tb).sz zs:=by rw[hz];exact hoz.sized
 obtain⟨_,⟨rfl,rfl⟩|⟨id,cs,h1,rfl,h2,h3,h4⟩⟩:=hw
 ·refine(pV ..).mpr ⟨ab7,hb,hsrc _ ⟨by simp[Sized],one,ab7,fun hn' =>?_,fun hn' =>?_⟩⟩
  ·subst hn'
   exact hk _ _ (.nil hs)
  ·refine .oa hz hf hn hoz fun id k hid=>?_
   refine hk _ _ ⟨hs.new hid _,.inr ⟨id,_,hs.none hid,?_,ah ..,?_,?_⟩⟩
   ·simp
   ·simp
   ·simp
 ·refine⟨ab7,hb,hz,hsrc _ ⟨ab8,hoz,ab7,?_⟩⟩
  rw[h2];refine⟨ab7,?_,hf,hn,fun hle=>?_,fun id' k hid=>?_⟩
  ·rw[List.drop_zero,h4];exact ho
  ·have hsub:Sub h0 (upd h id (some (.obj (over cs (0+xs.length) zs) tb))):=fun j b hj=>by
    by_cases e:j=id
    ·grind
    ·rw[ag _ _ e];exact hs _ _ hj
   have ho' :(over cs (0+xs.length) zs).length=cs.length:=ig ab7;refine hk _ _ ⟨hsub,.inr ⟨id,_,h1,aci,ah ..,ab8,?_⟩⟩;rw[over,Nat.zero_add,h4,ab1,List.take_append_of_le_length aci]
   grind
  ·refine hk _ _ ⟨hs.new hid _,.inr ⟨id',_,hs.none hid,aci,ah ..,?_,?_⟩⟩
   ·grind
   grind
end
end Go.Ab
namespace Go.Bf
open Go Go.Ab
abbrev Txt:=List UInt8
structure pR where
 cat:Int
 name:Txt
 must:Bool
structure bz where
 kind:Int
 n:Int
 s:Txt
structure bP where
 attr:pR
 op:Int
 val:bz
structure aO where
 op:Int
 val:bz
 attr:pR
structure cA where
 on:Int
 kind:Int
 arg:Txt
abbrev fY:=List (List (List bP))
structure cP where
 id:Txt
 deny:Bool
 tgt:fY
 cond:List aO
 obls:List cA
inductive bH where
 |mk (id:Txt) (set:Bool) (alg:Int) (tgt:fY) (rules:List cP) (kids:List bH) (obls:List cA)
def Cj(a:pR):AV:=.agg [.i a.cat,.s a.name,.b a.must]
def aS(v:bz):AV:=.agg [.i v.kind,.i v.n,.s v.s]
def dO(m:bP):AV:=.agg [.i m.attr.cat,.s m.attr.name,.b m.attr.must,.i m.op,.i m.val.kind,.i m.val.n,.s m.val.s]
def dI(m:aO):AV:=.agg [.i m.op,.i m.val.kind,.i m.val.n,.s m.val.s,.i m.attr.cat,.s m.attr.name,.b m.attr.must]
def jJ(b:Bool):AV:=.b b
def br(o:cA):AV:=.agg [.i o.on,.i o.kind,.s o.arg]
def iR(l:List bP):AV:=.sl (l.map dO) .no
def cR(l:List (List bP)):AV:=.sl (l.map iR) .no
def aV(t:fY):AV:=.sl (t.map cR) .no
def fu(l:List aO):AV:=.sl (l.map dI) .no
def aA(l:List cA):AV:=.sl (l.map br) .no
def aB(r:cP):AV:=.agg [.s r.id,.b r.deny,aV r.tgt,fu r.cond,aA r.obls]
mutual
def aM:bH→AV
 |.mk id set alg tgt rules kids obls=> .agg [.s id,.b set,.i alg,aV tgt,.sl (rules.map aB) .no,.sl (fF kids) .no,aA obls]
def fF:List bH→List AV
 | []=>[]
 |k::r=>aM k::fF r
end
theorem aX:∀l:List bH,fF l=l.map aM
 | []=>rfl
 |k::r=>by simp[fF,aX r]
def ltr(c:UInt8):Bool:=decide (97≤(c.toNat:Int)) && decide ((c.toNat:Int)≤122)
def dgt(c:UInt8):Bool:=decide (48≤(c.toNat:Int)) && decide ((c.toNat:Int)≤57)
def sE(c:UInt8)(i:Nat):Bool:=ltr c||(decide (i≠0) && (dgt c||(c.toNat:Int)==95))
def vh(l:Txt):Bool:=l.zipIdx.all fun p=>sE p.1 p.2
def bp(l:Txt):Bool:=vh l && decide (1≤l.length) && decide (l.length≤16)
def pX(a:pR):Bool:=decide (1≤a.cat) && decide (a.cat≤4) && bp a.name
def bB(v:bz):Bool:=
 if v.kind=1 then(v.n==0||v.n==1) && v.s== []
 else if v.kind=2 then v.s== []
 else if v.kind=3 then v.n==0 && decide (v.s.length≤64)
 else if v.kind=4 then decide (0≤v.n) && decide (v.n≤1099511627776) && v.s== []
 else if v.kind=5 then v.n==0 && bp v.s
 else false
def kH(m:bP):Bool:=pX m.attr && decide (1≤m.op) && decide (m.op≤3) && bB m.val
def jZ(n:Nat):Int:=if n=0 then 1 else if n>8 then 6 else 0
def gZ{α:Type}(f:α→Int):List α→Int
 | []=>0
 |x::r=>if f x=0 then gZ f r else f x
def vW(l:List bP):Int:=if jZ l.length=0 then(if l.all kH then 0 else 1)else jZ l.length
def vX(l:List (List bP)):Int:=if jZ l.length=0 then gZ vW l else jZ l.length
def lp(t:fY):Int:=if t.length>8 then 6 else gZ vX t
def iC(op:Int):Option (List Bool):=
 if op=1∨op=2 then some []
 else if op=3∨op=4 then some [true]
 else if op=5 then some [true,false]
 else if op=11 then some [false]
 else if 6≤op∧op≤13 then some [false,false]
 else none
def zeroV(v:bz):Bool:=v.kind==0 && (v.n==0 && v.s== [])
def zeroAt(a:pR):Bool:=a.cat==0 && (a.name== [] && a.must==false)
def jK(n:aO):Bool:=
 if n.op=1 then bB n.val && zeroAt n.attr
 else if n.op=2 then pX n.attr && zeroV n.val
 else zeroV n.val && zeroAt n.attr
def iB(st:List Bool)(n:aO):Option (List Bool):=match iC n.op with
 |none=>none
 |some w=>if jK n=true∧w.length≤st.length∧st.drop (st.length - w.length)=w then some (st.take (st.length - w.length)++ [n.op==2])else none
def fS(st:List Bool):List aO→Option (List Bool)
 | []=>some st
 |n::r=>match iB st n with
  |none=>none
  |some st' =>fS st' r
def jY(l:List aO):Int:=if l.length>32 then 6 else match fS [] l with
 |none=>1
 |some st=>if l= []∨st= [false]then 0 else 1
def qB(o:cA):Bool:=decide (1≤o.on) && decide (o.on≤2) && decide (1≤o.kind) && decide (o.kind≤4) && bp o.arg
def ic(l:List cA):Int:=if l.length>8 then 6 else if l.all qB then 0 else 1
structure eu where
 met:List Txt
 rules:Nat
inductive Went where
 |bad (e:Int)
 |ok (m:eu)
def jg(m:eu)(s:Txt):Option eu:=if s∉m.met∧bp s=true then some ⟨m.met++ [s],m.rules⟩else none
def Went.err:Went→Int
 |.bad e=>e
 |.ok _=>0
def need(e:Int)(w:Went):Went:=if e=0 then w else .bad e
def gp(m:eu)(r:cP):Went:=match jg m r.id with
 |none=> .bad 1
 |some m=>if m.rules+1>64 then .bad 6 else need (lp r.tgt) (need (jY r.cond) (need (ic r.obls) (.ok ⟨m.met,m.rules+1⟩)))
def fA(m:eu):List cP→Went
 | []=> .ok m
 |r::l=>match gp m r with
  |.bad e=> .bad e
  |.ok m=>fA m l
def fj(m:eu)(id:Txt)(set:Bool)(alg:Int)(tgt:fY)(nr nk:Nat)(obls:List cA):Went:=match jg m id with
 |none=> .bad 1
 |some m=>if alg<1∨alg>6 then .bad 1
  else if set=true∧nr>0∨set=false∧(nk>0∨alg=4)then .bad 1
  else need (lp tgt) (need (ic obls) (if nr>16∨nk>16 then .bad 6 else .ok m))
mutual
def kr(m:eu)(d:Nat):bH→Went
 |.mk id set alg tgt rules kids obls=>
  if d>4 then .bad 6 else match fj m id set alg tgt rules.length kids.length obls with
  |.bad e=> .bad e
  |.ok m=>match fA m rules with
   |.bad e=> .bad e
   |.ok m=>iM m (d+1) kids
def iM(m:eu)(d:Nat):List bH→Went
 | []=> .ok m
 |k::r=>match kr m d k with
  |.bad e=> .bad e
  |.ok m=>iM m d r
end
def gx(p:bH):Int:=(kr ⟨[],0⟩ 1 p).err
def TS(n:Nat):UInt8:=if n<10 then UInt8.ofNat (48+n)else UInt8.ofNat (87+n)
def Fw(c:UInt8):Bool:=decide ((c.toNat:Int)<32)||decide (126<(c.toNat:Int))||(c.toNat:Int)==34||(c.toNat:Int)==92
def Rb(c:UInt8):Txt:=if Fw c then [92,TS (c.toNat / 16),TS (c.toNat % 16)]else [c]
def Rc(l:Txt):Txt:=[34]++(l.map Rb).flatten++ [34]
def om(v:bz):Txt:=
 if v.kind=1 then Lib.formatBool (v.n==1)else if v.kind=4 then [64]++Lib.itoa v.n else if v.kind=5 then [35]++v.s else if v.kind=3 then Rc v.s else Lib.itoa v.n
theorem u6{α:Type}(l:List α)(i:Nat)(h:i<l.length):(l.take (i+1)).zipIdx=(l.take i).zipIdx++ [(l[i],i)]:=by
 grind [List.take_succ_eq_append_getElem,Nat.min_eq_left,Nat.le_of_lt]
theorem Ew(l:Txt)(i:Nat)(h:i<l.length):vh (l.take (i+1))=(vh (l.take i) && sE l[i] i):=by
 grind [vh,u6]
theorem HP(l:Txt)(i:Nat)(h:i<l.length)(hb:sE l[i] i=false):vh l=false:=by
 rw[vh,List.all_eq_false];exact⟨(l[i],i),ab8,ab8⟩
theorem M1(c:UInt8):
  (decide (97≤(c.toNat:Int))=true∧decide ((c.toNat:Int)≤122)=true∧decide (48≤(c.toNat:Int))=true∧decide ((c.toNat:Int)≤57)=false∧((c.toNat:Int)==95)=false)∨
  (decide (97≤(c.toNat:Int))=false∧decide ((c.toNat:Int)≤122)=true∧decide (48≤(c.toNat:Int))=true∧decide ((c.toNat:Int)≤57)=true∧((c.toNat:Int)==95)=false)∨
  (decide (97≤(c.toNat:Int))=false∧decide ((c.toNat:Int)≤122)=true∧decide (48≤(c.toNat:Int))=true∧decide ((c.toNat:Int)≤57)=false∧((c.toNat:Int)==95)=true)∨
  (decide (97≤(c.toNat:Int))=false∧decide ((c.toNat:Int)≤122)=true∧decide (48≤(c.toNat:Int))=false∧decide ((c.toNat:Int)≤57)=true∧((c.toNat:Int)==95)=false)∨
  (decide (97≤(c.toNat:Int))=false∧decide ((c.toNat:Int)≤122)=true∧decide (48≤(c.toNat:Int))=true∧decide ((c.toNat:Int)≤57)=false∧((c.toNat:Int)==95)=false)∨
  (decide (97≤(c.toNat:Int))=true∧decide ((c.toNat:Int)≤122)=false∧decide (48≤(c.toNat:Int))=true∧decide ((c.toNat:Int)≤57)=false∧((c.toNat:Int)==95)=false):=by
 simp only[decide_eq_true_eq,decide_eq_false_iff_not,beq_iff_eq,beq_eq_false_iff_ne,ne_eq];omega
theorem vq{α:Type}{f:α→Int}{l:List α}{i:Nat}(h:i<l.length)(h0:gZ f (l.take i)=0)(h1:f l[i]=0):gZ f (l.take (i+1))=0:=by
 rw[List.take_succ_eq_append_getElem h];generalize l.take i=a at h0
 induction a with
 |nil=>grind [gZ]
 |cons x r ih=>
  simp only[gZ]at h0;split at h0
  ·simp_all [List.cons_append,gZ,if_true]
  omega
theorem Ag{α:Type}{f:α→Int}{l:List α}{i:Nat}(h:i<l.length)(h0:gZ f (l.take i)=0)(h1:f l[i]≠0):gZ f l=f l[i]:=by
 induction l generalizing i with
 |nil=>cases h
 |cons x r ih=>
  cases i with
  |zero=>grind [gZ]
  |succ i=>
   simp only[List.take_succ_cons,gZ]at h0;split at h0
   ·rename_i hx
    simp only[gZ,hx,if_true,List.getElem_cons_succ]
    grind
   omega
theorem Di{e x:Int}{w:Went}(h:need e w= .bad x)(hw:w= .bad x→x≠0):x≠0:=by
 grind [need]
theorem AQ{m:eu}{r:cP}{e:Int}(h:gp m r= .bad e):e≠0:=by
 grind [gp,Di]
theorem Al{m:eu}{id:Txt}{set:Bool}{alg:Int}{tgt:fY}{nr nk:Nat}{obls:List cA}{e:Int}(h:fj m id set alg tgt nr nk obls= .bad e):e≠0:=by
 grind [fj,Di]
theorem o7(m:eu):∀(l:List cP) (i:Nat),fA m l=(match fA m (l.take i)with
  |.bad e=> .bad e
  |.ok m1=>fA m1 (l.drop i))
 | [],i=>by simp[fA]
 |r::l,0=>acr
 |r::l,i+1=>by
  simp only[List.take_succ_cons,List.drop_succ_cons,fA];cases gp m r with
  |bad e=>rfl
  |ok m1=>simp only;exact o7 m1 l i
theorem vK{m m1:eu}{l:List cP}{i:Nat}(hi:i<l.length)(h:fA m (l.take i)= .ok m1):fA m (l.take (i+1))=gp m1 l[i]:=by
 rw[o7 m _ i,List.take_take,Nat.min_eq_left ab7,h,List.take_succ_eq_append_getElem hi,List.drop_append_of_le_length ab8,List.drop_of_length_le ab8]
 grind [fA,gp]
theorem DP{m m1:eu}{l:List cP}{i:Nat}{e:Int}(hi:i<l.length)(h:fA m (l.take i)= .ok m1)(hr:gp m1 l[i]= .bad e):fA m l= .bad e:=by
 rw[o7 m l (i+1),vK hi h,hr]
theorem qv(m:eu)(d:Nat):∀(l:List bH) (i:Nat),iM m d l=(match iM m d (l.take i)with
  |.bad e=> .bad e
  |.ok m1=>iM m1 d (l.drop i))
 | [],i=>by simp[iM]
 |r::l,0=>acr
 |r::l,i+1=>by
  simp only[List.take_succ_cons,List.drop_succ_cons,iM];cases kr m d r with
  |bad e=>rfl
  |ok m1=>simp only;exact qv m1 d l i
theorem xV{m m1:eu}{d:Nat}{l:List bH}{i:Nat}(hi:i<l.length)(h:iM m d (l.take i)= .ok m1):iM m d (l.take (i+1))=kr m1 d l[i]:=by
 rw[qv m d _ i,List.take_take,Nat.min_eq_left ab7,h,List.take_succ_eq_append_getElem hi,List.drop_append_of_le_length ab8,List.drop_of_length_le ab8]
 grind [iM,kr]
theorem Fg{m m1:eu}{d:Nat}{l:List bH}{i:Nat}{e:Int}(hi:i<l.length)(h:iM m d (l.take i)= .ok m1)(hr:kr m1 d l[i]= .bad e):iM m d l= .bad e:=by
 rw[qv m d l (i+1),xV hi h,hr]
theorem ko{l:List cA}(h:ic l=0):l.length≤8∧∀o∈l,qB o=true:=by
 grind [ic,List.all_eq_true]
theorem yg{n:Nat}(h:jZ n=0):0<n∧n≤8:=by
 grind [jZ]
theorem vr{α:Type}{f:α→Int}{l:List α}(h:gZ f l=0):∀x∈l,f x=0:=by
 induction l with
 |nil=>simp
 |cons y r ih=>
  simp only[gZ]at h
  grind
theorem zT{l:List bP}(h:vW l=0):0<l.length∧l.length≤8∧∀m∈l,kH m=true:=by
 unfold vW at h;split at h
 ·simp_all [yg,List.all_eq_true]
 omega
theorem zU{l:List (List bP)}(h:vX l=0):0<l.length∧l.length≤8∧∀m∈l,vW m=0:=by
 unfold vX at h;split at h
 ·rename_i hm
  have:=yg hm;exact⟨this.1,this.2,vr h⟩
 omega
theorem AW{l:fY}(h:lp l=0):l.length≤8∧∀m∈l,vX m=0:=by
 grind [lp,vr]
def inV(v:bz):Prop:= -9223372036854775808≤v.n∧v.n≤9223372036854775807
def inA(l:List bP):Prop:=∀m∈l,inV m.val
def inY(l:List (List bP)):Prop:=∀a∈l,inA a
def inT(t:fY):Prop:=∀a∈t,inY a
def inL(l:List aO):Prop:=∀n∈l,inV n.val
def inR(r:cP):Prop:=inT r.tgt∧inL r.cond
mutual
def inP:bH→Prop
 |.mk id set alg tgt rules kids obls=>inT tgt∧(∀r∈rules,inR r)∧inK kids
def inK:List bH→Prop
 | []=>True
 |k::r=>inP k∧inK r
end
theorem QG:∀l:List bH,inK l↔∀k∈l,inP k
 | []=>by simp[inK]
 |k::r=>by simp[inK,QG r]
theorem xC{l:List aO}(h:jY l=0)(hn:l≠ []):l.length≤32∧fS [] l=some [false]:=by
 grind [jY]
def DO(r:cP):Prop:=bp r.id=true∧lp r.tgt=0∧jY r.cond=0∧ic r.obls=0
mutual
def mF(d:Nat):bH→Prop
 |.mk id set alg tgt rules kids obls=>d≤4∧bp id=true∧1≤alg∧alg≤6∧(set=true→rules= [])∧(set=false→kids= []∧alg≠4)∧lp tgt=0∧ic obls=0∧rules.length≤16∧kids.length≤16∧(∀r∈rules,DO r)∧vE (d+1) kids
def vE(d:Nat):List bH→Prop
 | []=>True
 |k::r=>mF d k∧vE d r
end
theorem qu(d:Nat):∀l:List bH,vE d l↔∀k∈l,mF d k
 | []=>by simp[vE]
 |k::r=>by simp[vE,qu d r]
theorem yh{m m' :eu}{s:Txt}(h:jg m s=some m'):bp s=true:=by
 grind [jg]
theorem qx{e:Int}{w:Went}{m:eu}(h:need e w= .ok m):e=0∧w= .ok m:=by
 grind [need]
theorem LX{m m' :eu}{r:cP}(h:gp m r= .ok m'):DO r:=by
 unfold gp at h;split at h
 ·cases h
 ·rename_i m1 hm
  split at h
  ·cases h
  ·obtain⟨h1,h⟩:=qx h
   obtain⟨h2,h⟩:=qx h;obtain⟨h3,h⟩:=qx h;exact⟨yh hm,h1,h2,h3⟩
theorem AR:∀(l:List cP) (m m' :eu),fA m l= .ok m'→∀r∈l,DO r
 | [],_,_,_,r,hr=>ab8
 |x::l,m,m',h,r,hr=>by
  simp only[fA]at h;cases hx:gp m x with
  |bad e=>grind
  |ok m1=>
   rw[hx]at h;rcases List.mem_cons.1 hr with rfl|hr
   ·exact LX hx
   ·exact AR l m1 m' h r hr
theorem IK{m m1:eu}{id:Txt}{set:Bool}{alg:Int}{tgt:fY}{nr nk:Nat}{obls:List cA}(h:fj m id set alg tgt nr nk obls= .ok m1):
  jg m id=some m1∧1≤alg∧alg≤6∧(set=true→nr=0)∧(set=false→nk=0∧alg≠4)∧lp tgt=0∧ic obls=0∧nr≤16∧nk≤16:=by
 unfold fj at h;split at h
 ·cases h
 split at h
 ·cases h
 split at h
 ·cases h
 obtain⟨h3,h⟩:=qx h;obtain⟨h4,h⟩:=qx h
 grind
mutual
theorem GY:∀(p:bH) (d:Nat) (m m' :eu),kr m d p= .ok m'→mF d p
 |.mk id set alg tgt rules kids obls,d,m,m',h=>by
  simp only[kr]at h;split at h
  ·cases h
  rename_i hd
  split at h
  ·cases h
  rename_i m1 h1
  split at h
  ·cases h
  rename_i m2 h2
  obtain⟨g1,g2,g3,g4,g5,g6,g7,g8,g9⟩:=IK h1;simp only[mF];exact⟨ab7,yh g1,g2,g3,fun e=>List.length_eq_zero_iff.1 (g4 e),fun e=>⟨List.length_eq_zero_iff.1 (g5 e).1,(g5 e).2⟩,g6,g7,g8,g9,AR _ _ _ h2,C6 kids (d+1) m2 m' h⟩
theorem C6:∀(l:List bH) (d:Nat) (m m' :eu),iM m d l= .ok m'→vE d l
 | [],_,_,_,_=>by simp[vE]
 |k::r,d,m,m',h=>by
  simp only[iM]at h;split at h
  ·cases h
  rename_i m1 h1
  simp only[vE];exact⟨GY k d m m1 h1,C6 r d m1 m' h⟩
end
end Go.Bf
namespace Go.Ab
open Go
def hm2(i:Nat)(a:Blk)(j:Nat)(b:Blk):Heap:=upd (hm1 i a) j (some b)
theorem Sub.hm2{h:Heap}{i j:Nat}{a b:Blk}(h1:h i=some a)(h2:h j=some b):Sub (hm2 i a j b) h:=fun k c hk=>by
 unfold Ab.hm2 at hk
 by_cases e:k=j
 ·grind [ah]
 ·rw[ag _ _ e]at hk;exact Sub.hm1 h1 k c hk
theorem qY(i:Nat)(a:Blk)(j:Nat)(b:Blk):hm2 i a j b j=some b:=ah ..
theorem qX{i:Nat}(a:Blk){j:Nat}(b:Blk)(h:i≠j):hm2 i a j b i=some a:=by
 simp_all [hm2,ag,ga]
theorem aH{h:Heap}{i j:Nat}{b:Blk}(e:upd h i (some b) j=none):j≠i:=fun hh=>by
 subst hh;rw[ah]at e;cases e
theorem Sub.put{h g:Heap}(hs:Sub h g){i:Nat}(hi:h i=Option.none)(x:Option Blk):Sub h (Ab.upd g i x):=fun k c hk=>by
 by_cases e:k=i
 ·grind
 ·rw[ag _ _ e];exact hs k c hk
theorem Sub.both{h g:Heap}(hs:Sub h g)(i:Nat)(x:Option Blk):Sub (Ab.upd h i x) (Ab.upd g i x):=fun k c hk=>by
 by_cases e:k=i
 ·grind [ah]
 ·rw[ag _ _ e]at hk⊢;exact hs k c hk
theorem Acc.put{U:TypeId→TI}{e:TypeId}{h h' :Heap}{y:AV}{xs:List AV}(ha:Acc U e h h' y xs){id:Nat}(hid:h id=Option.none){cs:List AV}{t:TypeId}(hob:h' id=some (.obj cs t))(x:Option Blk):Acc U e h (Ab.upd h' id x) y xs:=by
 obtain⟨h1,rfl|⟨k,i1,rfl,i2⟩⟩:=ha
 ·exact⟨h1.put hid x,.inl rfl⟩
 ·refine⟨h1.put hid x,.inr ⟨k,i1,rfl,?_⟩⟩
  grind [ag]
theorem base_start(G:Heap)(id:Nat)(x:Option Blk):Sub (upd G id Option.none) (upd G id x):=fun k c hk=>by
 grind [ah,ag]
theorem fq{G H:Heap}{id:Nat}{b:Blk}(hs:Sub (upd G id Option.none) H)(hb:H id=some b):Sub (upd G id (some b)) H:=fun k c hk=>by
 by_cases e:k=id
 ·grind [ah]
 ·rw[ag _ _ e]at hk;exact hs k c acM
theorem A5(xs:List AV)(q:Perm)(a b:AV):Weak (.tup [.sl xs q,a,b]) (.tup [.sl xs .no,a,b]):=.tup _ _ rfl fun i h1 h2=>by
 rcases i with _|_|_|i
 ·exact aeJ
 ·exact adu
 ·exact adu
 grind
theorem WP.L6{P:Program}{U:TypeId→TI}{n:Nat}(hU:∀t,aN P U t)(hm:P.follows .mixedOrders=true){c rest:Code}{ρ:Env}{h:Heap}{K:Exit→Env→Heap→Prop}(l:Nat)(J:Nat→Env→Heap→Prop)(hf:findLabel c l=some (.seq .skip rest))
  (pass:∀m ρ h,J m ρ h→WP P n rest ρ h (KJump l (fun ρ' h' =>∃m',m' <m∧J m' ρ' h') K))
  (first:(∀m ρ h,J m ρ h→WP P n rest ρ h (KJump l (fun ρ h=>∃m,J m ρ h) K))→WP P n c ρ h (KJump l (fun ρ h=>∃m,J m ρ h) K)):WP P n (.scope c) ρ h K:=
 WP.scope l J hf (first fun m ρ h hJ=>(pass m ρ h hJ).weaken fun e ρ h hk=>by
  cases e with
  |goto l' =>obtain⟨h1,m',_,h2⟩:=hk;exact⟨h1,m',h2⟩
  |_=>exact hk) fun m ρ h hJ=>WP.seq (dK hU hm .skip ρ h _ (pass m ρ h hJ))
end Go.Ab
namespace Go.Ab
attribute [go_sem] Int.natCast_zero Int.ofNat_zero Int.natCast_one Int.cast_ofNat_Int bne_self_eq_false beq_self_eq_true Bool.not_true Bool.not_false
attribute [go_sem] Nat.reduceLT Nat.reduceEqDiff Nat.reduceAdd Nat.reduceLeDiff Nat.reduceMul Nat.reduceSub Int.reduceBEq Int.reduceBNe
attribute [go_sem ↓] reduceIte
end Go.Ab
namespace Go.Ab
open Go
inductive Av (F:Nat→Prop):AV→Prop where
 |v (x:Value):Av F (.v x)
 |s (l:List UInt8):Av F (.s l)
 |agg (xs:List AV) (h:∀x∈xs,Av F x):Av F (.agg xs)
 |tup (xs:List AV) (h:∀x∈xs,Av F x):Av F (.tup xs)
 |sl (xs:List AV) (p:Perm) (h:∀x∈xs,Av F x) (hp:∀id,p= .own id→¬F id):Av F (.sl xs p)
 |pe (x:AV) (o:Nat) (h:Av F x):Av F (.pe x o)
 |ptr (id o:Nat) (h:¬F id):Av F (.ptr id o)
 |oa (id o l:Nat) (h:¬F id):Av F (.oa id o l)
 |ob (id o l c z:Nat) (h:¬F id):Av F (.ob id o l c z)
 |ifc (t:TypeId) (x:AV) (h:Av F x):Av F (.ifc t x)
 |fn (f:FuncId) (xs:List AV) (h:∀x∈xs,Av F x):Av F (.fn f xs)
 |mp (id:Nat) (h:¬F id):Av F (.mp id)
theorem Av.cells{F:Nat→Prop}{x:AV}(h:Av F x):∀y∈x.cells,Av F y:=by
 cases h with
 |agg xs hx=>exact hx
 |_=>intro y hy;rw[List.mem_singleton.1 hy];constructor<;>assumption
theorem Av.Dp{F:Nat→Prop}{x:AV}(h:∀y∈x.cells,Av F y):Av F x:=by
 cases x with
 |agg xs=>exact .agg xs h
 |_=>exact h _ (List.mem_singleton.2 rfl)
theorem Rep.av{c:Cx}{F:Nat→Prop}(hF:∀id,F id→c.h id=none){x:AV}{u:Value}(h:Rep c x u):Av F x:=by
 have nf:∀ {id:Nat} {k:Blk},c.h id=some k→¬F id:=fun hk hf=>ab8
 induction h with
 |v x=>exact .v x
 |s l hl=>exact .s l
 |agg xs vs hn hr ho ih=>exact .agg xs fun x hx=>adQ
 |tup xs vs hn hr ih=>exact .tup xs fun x hx=>adQ
 |sl xs p a cap sz val hc hm h0 hs hz hf hr ho hp ih=>
  refine .sl xs p (fun x hx=>?_) fun id e=>?_
  ·obtain⟨i,hi,rfl⟩:=List.mem_iff_getElem.1 hx
   refine .Dp fun y hy=>?_
   obtain⟨j,hj,rfl⟩:=List.mem_iff_getElem.1 hy
   grind
  ·subst e
   obtain⟨m,h1,_⟩:=hp
   grind
 |pe x off b o val hb hf hr ho ih=>
  refine .pe x off (.Dp fun y hy=>?_)
  obtain⟨j,hj,rfl⟩:=List.mem_iff_getElem.1 hy
  grind
 |ptr id off cs t h=>exact .ptr _ _ (nf h)
 |oa id off len cap o cs t h hc hm ho=>exact .oa _ _ _ (nf h)
 |ob id off len cap sz o cs t h hc hm ho=>exact .ob _ _ _ _ _ (nf h)
 |ifc t x u h ih=>exact .ifc t x ih
 |fn f xs vs hn hr ih=>exact .fn f xs fun x hx=>adQ
 |mp id m h=>exact .mp _ (nf h)
noncomputable def Cx.back (c' :Cx) (g:Heap):Cx:={c' with h:=fun id=>if g id=none then none else c'.h id}
theorem tZ{c' :Cx}{g:Heap}{id:Nat}{k:Blk}(h:(c'.back g).h id=some k):g id≠none∧c'.h id=some k:=by
 grind [Cx.back]
theorem kE{c' :Cx}{g:Heap}{id:Nat}(h:g id≠none):(c'.back g).h id=c'.h id:=by
 simp_all [Cx.back,if_false]
theorem xd{c' :Cx}{g:Heap}{b o:Nat}(h:owned (c'.back g) b o):owned c' b o:=by
 obtain⟨id,k,h1,h2,h3⟩:=h;exact⟨id,k,(tZ h1).2,h2,h3⟩
theorem xb{c' :Cx}{g:Heap}{b o:Nat}{u:Value}(h:fix c' b o u):fix (c'.back g) b o u:=⟨h.1,fun ho=>h.2 (xd ho)⟩
theorem Rep.back{c' :Cx}{g:Heap}{x:AV}{u:Value}(h:Rep c' x u)(ha:Av (fun id=>g id=none) x):Rep (c'.back g) x u:=by
 induction h with
 |v x=>exact .v x
 |s l hl=>exact .s l hl
 |agg xs vs hn hr ho ih=>cases ha with|agg _ ha=>exact .agg xs vs hn ab8 ho
 |tup xs vs hn hr ih=>cases ha with|tup _ ha=>exact .tup xs vs hn ab8
 |sl xs p a cap sz val hc hm h0 hs hz hf hr ho hp ih=>
  cases ha with
  |sl _ _ ha hq=>
   refine .sl xs p a cap sz val hc hm h0 hs hz (by grind [xb]) (fun i hi j hj=>ih i hi j hj ((ha _ (ab2 hi)).cells _ (ab2 hj))) ho ?_
   cases p with
   |no=>trivial
   |full=>exact hp
   |own id=>
    obtain⟨m,h1,h2,h3⟩:=hp;exact⟨m,by rw[kE (hq id rfl)];omega,h2,h3⟩
 |pe x off b o val hb hf hr ho ih=>
  cases ha with
  |pe _ _ ha=>exact .pe x off b o val hb (by grind [xb]) (fun j hj=>ih j hj (ha.cells _ (ab2 hj))) ho
 |ptr id off cs t h=>cases ha with|ptr _ _ ha=>exact .ptr id off cs t (by grind [kE])
 |oa id off len cap o cs t h hc hm ho=>cases ha with|oa _ _ _ ha=>exact .oa id off len cap o cs t (by grind [kE]) hc hm ho
 |ob id off len cap sz o cs t h hc hm ho=>cases ha with|ob _ _ _ _ _ ha=>exact .ob id off len cap sz o cs t (by grind [kE]) hc hm ho
 |ifc t x u h ih=>cases ha with|ifc _ _ ha=>exact .ifc t x u (ih ha)
 |fn f xs vs hn hr ih=>cases ha with|fn _ _ ha=>exact .fn f xs vs hn ab8
 |mp id m h=>cases ha with|mp _ ha=>exact .mp id m (by grind [kE])
inductive Frz (g h:Heap):AV→AV→Prop where
 |keep (x:AV) (ha:Av (fun id=>g id=none) x):Frz g h x x
 |agg (xs ys:List AV) (hn:xs.length=ys.length) (hr:∀i (h1:i<xs.length) (h2:i<ys.length),Frz g h xs[i] ys[i]):Frz g h (.agg xs) (.agg ys)
 |tup (xs ys:List AV) (hn:xs.length=ys.length) (hr:∀i (h1:i<xs.length) (h2:i<ys.length),Frz g h xs[i] ys[i]):Frz g h (.tup xs) (.tup ys)
 |sl (xs ys:List AV) (p:Perm) (hn:xs.length=ys.length) (hz:∀i (h1:i<xs.length) (h2:i<ys.length),xs[i].cells.length=ys[i].cells.length)
   (hr:∀i (h1:i<xs.length) (h2:i<ys.length) j (h3:j<xs[i].cells.length) (h4:j<ys[i].cells.length),Frz g h xs[i].cells[j] ys[i].cells[j]):Frz g h (.sl xs p) (.sl ys .no)
 |ob (id off len cap sz:Nat) (cs:List AV) (t:TypeId) (ys:List AV) (hg:g id=none) (hh:h id=some (.obj cs t)) (hl:off+len*sz≤cs.length) (hn:ys.length=len) (hz:∀i (h1:i<ys.length),ys[i].cells.length=sz)
   (hr:∀i (h1:i<ys.length) j (h3:j<ys[i].cells.length) (h4:off+(i*sz+j)<cs.length),Frz g h (cs[off+(i*sz+j)]) ys[i].cells[j]):Frz g h (.ob id off len cap sz) (.sl ys .no)
 |ptr (id off:Nat) (cs:List AV) (t:TypeId) (ys:List AV) (hg:g id=none) (hh:h id=some (.obj cs t)) (hn:cs.length=ys.length) (hr:∀i (h1:i<cs.length) (h2:i<ys.length),Frz g h cs[i] ys[i]):Frz g h (.ptr id off) (.pe (.agg ys) off)
 |ifc (t:TypeId) (x y:AV) (hr:Frz g h x y):Frz g h (.ifc t x) (.ifc t y)
theorem Frz.rep{c' :Cx}{g h:Heap}(gd:Good c')(hh:Sub h c'.h){x y:AV}(hz:Frz g h x y):∀ {u:Value},Rep c' x u→Rep (c'.back g) y u:=by
 have nown:∀ {id:Nat} {k:Blk} {o:Nat},g id=none→h id=some k→¬owned (c'.back g) (c'.φ id).block o:=fun {id k o} h1 h2 ho=>by
  obtain⟨j,l,h3,h4,h5⟩:=ho;obtain⟨h6,h7⟩:=tZ h3;exact gd.inj j id l k h7 (hh _ _ h2) (fun e=>h6 ab8) h4
 induction hz with
 |keep x ha=>exact fun hr=>hr.back ha
 |agg xs ys hn hr ih=>
  intro u hu;obtain⟨vs,rfl,h1,h2,h3⟩:=hu.oA;exact .agg ys vs ab7 (fun i hi=>ih i ab7 hi (h2 i ab7)) fun i hi=>h3 i ab7
 |tup xs ys hn hr ih=>
  intro u hu;obtain⟨vs,rfl,h1,h2⟩:=hu.BY;exact .tup ys vs ab7 (fun i hi=>ih i ab7 hi (h2 i ab7))
 |sl xs ys p hn hz hr ih=>
  intro u hu;obtain⟨a,cap,sz,val,rfl,hs⟩:=hu.iq;rw[hn];have hcap:=hs.hc;refine .sl ys .no a cap sz val ab7 hs.hm hs.h0 hs.hs (fun i hi=>by rw[←hz i ab7 hi];exact hs.hz i ab7) (fun q hq i j hi hj=>xb (hs.hf q hq i j ab7 hj)) (fun i hi j hj=>?_) (fun i j hi hj=>hs.ho i j ab7 hj) trivial
  exact ih i ab7 hi j ab8 hj (hs.hr i ab7 j ab8)
 |ob id off len cap sz cs t ys hg hid hl hn hz hr ih=>
  intro u hu;obtain⟨o,rfl,h1,h2,cs',t',h3,h4⟩:=hu.jo;have hcid:=hh _ _ hid;obtain⟨vs,v1,v2,v3⟩:=gd.obj id cs t hcid;subst hn;have hbd:∀i j,i<ys.length→j<sz→i*sz+j<ys.length*sz:=fun i j hi hj=>by
   have:(i+1)*sz≤ys.length*sz:=Nat.mul_le_mul_right _ ab7;rw[Nat.add_mul,Nat.one_mul]at this;omega
  refine .sl ys .no _ cap sz (fun i j=>vs.getD (off+(i*sz+j)) undef) h1 h2 (fun e=>acD) (fun q hq _=>?_) hz (fun q hq i j hi hj=>?_) (fun i hi j hj=>?_) (fun i j hi hj=>(v3 _ ab8).2) trivial
  ·cases hq
   exact⟨rfl,gd.lt hcid⟩
  ·cases hq
   obtain⟨rfl,_⟩:=h4 ab7;have hb:=hbd i j hi hj;refine⟨?_,nown hg hid⟩;have:o+(i*sz+j)<vs.size:=ab7;simp[World.cell?,Cx.back,v1,this]
  ·have hj' :j<sz:=by grind
   have hb:=hbd i j hi hj';exact ih i hi j hj ab7 (v3 _ ab7).1
 |ptr id off cs t ys hg hid hn hr ih=>
  intro u hu;obtain⟨rfl,_⟩:=hu.kL;have hcid:=hh _ _ hid;obtain⟨vs,v1,v2,v3⟩:=gd.obj id cs t hcid;have:=Rep.pe (c:=c'.back g) (.agg ys) off (c'.φ id).block 0 (fun j=>vs.getD j undef) (gd.lt hcid) (fun j hj=>by
    have hj' :j<ys.length:=hj;refine⟨?_,nown hg hid⟩
    simp_all [World.cell?,Cx.back]) (fun j hj=>by
    have hj' :j<ys.length:=hj;exact ih j ab7 hj' (v3 j ab7).1) (fun j hj=>by
    have hj' :j<ys.length:=hj;exact(v3 j ab7).2)
  rw[Nat.zero_add]at this;exact acQ
 |ifc t x y hr ih=>
  intro u hu;cases hu with
  |ifc _ _ u' h=>exact .ifc t y _ (ih h)
theorem ai.freeze{P:Program}{f:FuncId}{args:List AV}{h:Heap}{Q:AV→Prop}
  (hf:∀g,Sub h g→(∀x∈args,Av (fun id=>g id=none) x)→ai P f args g fun r h' =>Sub g h'∧∃y,Frz g h' r y∧Q y):ai P f args h fun r h' =>Q r∧h' =h:=by
 intro c vs hs gd h1 h2;have hav:∀x∈args,Av (fun id=>c.h id=none) x:=fun x hx=>by
  obtain⟨i,hi,rfl⟩:=List.mem_iff_getElem.1 hx;exact(h2 i hi).av fun _ e=>e
 refine(hf c.h hs hav c vs (.refl _) gd h1 h2).mono ?_
 rintro u w' ⟨c',x,h',rfl,gd',hE,hr,hsub,hgh,y,hz,hq⟩
 have hkeep:∀id k,c.h id=some k→c'.h id=some k:=fun id k hk=>hsub _ _ (hgh _ _ hk)
 have hE2:Ext c (c'.back c.h):={
  os:=hE.os,tape:=hE.tape,output:=hE.output,size:=hE.size,block:=hE.block,cell:=hE.cell,shape:=hE.shape
  steal:=fun b o hb ho=>hE.steal b o hb (xd ho)
  obj:=fun id cs t hi=>by rw[kE ab8];exact hE.obj id cs t hi
  spare:=fun id n sz hi=>by rw[kE ab8];exact hE.spare id n sz hi
  mp:=fun id m hi=>by rw[kE ab8];exact hE.mp id m hi
  ro:=fun id b vs hi=>by rw[kE ab8];exact hE.ro id b vs hi}
 have hold:∀id k,(c'.back c.h).h id=some k→c.h id=some k∧c'.h id=some k:=fun id k hk=>by
  obtain⟨a1,a2⟩:=tZ hk;cases hc:c.h id with
  |none=>grind
  |some k' =>grind
 refine⟨c'.back c.h,y,h,rfl,?_,hE2,hz.rep gd' hsub hr,fun id k hk=>?_,hq,rfl⟩
 ·refine⟨?_,fun i j k l hi hj hne=>gd'.inj i j k l (hold i k hi).2 (hold j l hj).2 hne,fun id cs t hi=>?_,fun id n sz hi=>gd'.spare id n sz (hold id _ hi).2,fun id m hi=>?_,fun id m hi=>gd'.keys id m (hold id _ hi).2,fun id b vs hi=>gd'.ro id b vs (hold id _ hi).2⟩
  ·obtain⟨N,hN⟩:=gd'.fin
   exact⟨N,fun id hid=>by grind [Cx.back]⟩
  ·obtain⟨vs,v1,v2,v3⟩:=gd'.obj id cs t (hold id _ hi).2
   obtain⟨vs0,w1,w2,w3⟩:=gd.obj id cs t (hold id _ hi).1;exact⟨vs,v1,v2,fun j hj=>⟨(v3 j hj).1.back ((w3 j hj).1.av fun _ e=>e),(v3 j hj).2⟩⟩
  ·obtain⟨es,cl,v1,v2,v3⟩:=gd'.mp id m (hold id _ hi).2
   obtain⟨es0,cl0,w1,w2,w3⟩:=gd.mp id m (hold id _ hi).1;exact⟨es,cl,v1,v2,fun i hi' hi2=>⟨(v3 i hi' hi2).1,(v3 i hi' hi2).2.back ((w3 i hi' ab7).2.av fun _ e=>e)⟩⟩
 ·rw[kE (by rw[hs _ _ hk];simp)]
  exact hkeep id k (hs _ _ hk)
section
variable {P : Program} {U : TypeId → TI} {ρ : Env} {h h' : Heap} {sz : Nat} {y : AV} {xs : List AV} {e : TypeId}
def Rd(h:Heap)(sz:Nat)(y:AV)(xs:List AV):Prop:=
 Sized sz xs∧((∃q,y= .sl xs q)∨∃id off cap cs t,y= .ob id off xs.length cap sz∧h id=some (.obj cs t)∧off+xs.length*sz≤cs.length∧(cs.drop off).take (xs.length*sz)=aq xs)
theorem Rd.sl(hs:Sized sz xs)(q:Perm):Rd h sz (.sl xs q) xs:=⟨hs,.inl ⟨q,rfl⟩⟩
theorem Rd.sub(hb:Rd h sz y xs)(hs:Sub h h'):Rd h' sz y xs:=by
 obtain⟨h1,hb|⟨id,off,cap,cs,t,rfl,h2,h3⟩⟩:=hb
 ·exact⟨h1,.inl hb⟩
 ·exact⟨h1,.inr ⟨id,off,cap,cs,t,rfl,hs _ _ h2,h3⟩⟩
theorem Rd.len(hb:Rd h sz y xs)(e:TypeId)(k:AV→Prop):wg y k (.slice e)=k (.i xs.length):=by
 exact ag8
theorem Rd.cells(hb:Rd h sz y xs):y.cells= [y]:=by
 exact ag8
theorem Rd.fit(hb:Rd h sz y xs)(m:Nat):fit y m=(m=1):=by
 exact ag8
theorem Rd.src(hb:Rd h sz y xs)(hz:(U e).sz=sz){f:List AV→Prop}(hf:f xs):iu U e h y f:=by
 obtain⟨_,⟨q,rfl⟩|⟨id,off,cap,cs,t,rfl,h2,h3,h4⟩⟩:=hb
 ·exact hf
 ·rw[Od,h2]
  exact⟨hz.symm,xs,rfl,h3,h4.symm,hf⟩
def At(h:Heap)(p x:AV)(o:Nat):Prop:=p= .pe x o∨∃id a cs t,p= .ptr id (a+o)∧h id=some (.obj cs t)∧a+x.cells.length≤cs.length∧(cs.drop a).take x.cells.length=x.cells
theorem At.sub{p x:AV}{o:Nat}(ha:At h p x o)(hs:Sub h h'):At h' p x o:=by
 rcases ha with rfl|⟨id,a,cs,t,rfl,h2,h3⟩
 ·exact .inl rfl
 ·exact .inr ⟨id,a,cs,t,rfl,hs _ _ h2,h3⟩
theorem Fz{cs:List AV}{x:AV}{a o:Nat}{i:TI}{k:AV→Prop}(h1:a+x.cells.length≤cs.length)(h2:(cs.drop a).take x.cells.length=x.cells)(h3:i.sz≠0)(h4:o+i.sz≤x.cells.length):ij cs (a+o) i k=ij x.cells o i k:=by
 unfold ij;split
 ·have e:(cs.drop (a+o)).take i.sz=(x.cells.drop o).take i.sz:=by
   grind [List.drop_take,List.drop_drop,Nat.min_eq_left]
  apply propext
  grind
 grind
theorem At.part{p x:AV}{o:Nat}(ha:At h p x o){ty:TypeId}(hz:(U ty).sz≠0)(hl:o+(U ty).sz≤x.cells.length)(k:AV→Prop):mZ U h ty p k=ij x.cells o (U ty) k:=by
 rcases ha with rfl|⟨id,a,cs,t,rfl,h2,h3,h4⟩
 ·rw[Lf]
  unfold atA;split
  ·rename_i hc
   obtain⟨rfl,hc2,hc3⟩:=hc;unfold ij;split
   ·rename_i hag
    rw[hag]at hc3;have:x= .agg x.cells:=by cases x<;>first|rfl|cases hc3
    rw[List.drop_zero,←hc2,List.take_length,Nat.zero_add,←this];simp
   simp_all [bA,false,nT]
  ·rfl
 ·rw[IW,h2]
  exact Fz h3 h4 hz hl
theorem At.all{p x:AV}(ha:At h p x 0){ty:TypeId}(hz:(U ty).sz≠0)(hl:x.cells.length=(U ty).sz)(hg:bA x=(U ty).k.agg)(k:AV→Prop):mZ U h ty p k=k x:=by
 rw[ha.part hz ab7];unfold ij;split
 ·rename_i hag
  rw[hag]at hg;have:x= .agg x.cells:=by cases x<;>first|rfl|cases hg
  rw[List.drop_zero,←hl,List.take_length,Nat.zero_add,←this];simp
 simp_all [bA,false,nT]
theorem At.field{p x:AV}{o:Nat}(ha:At h p x o){f off:Nat}{t:TypeId}{fs:List (Nat×TypeId)}{K:AV→Prop}(hf:fs[f]? =some (off,t))(hz:(U t).sz≠0)(hk:∀p',At h p' x (o+off)→K p'):xD U f p K (.strct fs):=by
 rcases ha with rfl|⟨id,a,cs,t',rfl,h2,h3,h4⟩
 ·rw[Ie,hf]
  exact⟨hz,hk _ (.inl rfl)⟩
 ·rw[EP,hf]
  exact⟨hz,hk _ (.inr ⟨id,a,cs,t',ab8,h2,h3,h4⟩)⟩
theorem Rd.idx(hb:Rd h sz y xs){m:Int}{x:IntKind}{K:AV→Prop}(j:Nat)(hm:m=j)(hj:j<xs.length)(hz:(U e).sz=sz)(h0:sz≠0)(hk:∀p,At h p xs[j] 0→K p):oN U y (.v (.int x m)) K (.slice e):=by
 subst hm;have hc:=hb.1 xs[j] (ab2 hj);obtain⟨hs,⟨q,rfl⟩|⟨id,off,cap,cs,t,rfl,h2,h3,h4⟩⟩:=hb
 ·refine(uk ..).mpr ⟨ab7,?_⟩
  exact fm.at j hj ab7 (hk _ (.inl rfl))
 ·refine(An ..).mpr ⟨ab7,hz.symm,ab7,ab7,hk _ (.inr ⟨id,off+j*sz,cs,t,aci,h2,?_,?_⟩)⟩
  ·have:(j+1)*sz≤xs.length*sz:=Nat.mul_le_mul_right _ ab7
   rw[Nat.add_mul,Nat.one_mul]at this;rw[hc];omega
  ·have e1:=oF hs j hj
   rw[←h4,List.drop_take,List.take_take,List.drop_drop]at e1;rw[hc];have:(j+1)*sz≤xs.length*sz:=ab8;rw[Nat.add_mul,Nat.one_mul]at this;rw[Nat.min_eq_left ab7]at e1;exact e1
def Ow(tb:TypeId)(h:Heap)(sz id:Nat)(y:AV)(xs:List AV):Prop:=
 ∃cap rest,y= .ob id 0 xs.length cap sz∧h id=some (.obj (aq xs++rest) tb)∧rest.length=(cap - xs.length)*sz∧xs.length≤cap∧Sized sz xs
variable {tb : TypeId} {id : Nat}
theorem Ow.rd(hw:Ow tb h sz id y xs):Rd h sz y xs:=by
 obtain⟨cap,rest,rfl,h1,h2,h3,h4⟩:=hw;have hl:=aY h4;exact⟨h4,.inr ⟨id,0,cap,_,tb,rfl,h1,ab8,ab8⟩⟩
theorem Ow.sub(hw:Ow tb h sz id y xs)(hs:Sub h h'):Ow tb h' sz id y xs:=by
 obtain⟨cap,rest,e1,h1,h2⟩:=hw;exact⟨cap,rest,e1,hs _ _ h1,h2⟩
theorem Ow.same(hw:Ow tb h sz id y xs)(hs:h' id=h id):Ow tb h' sz id y xs:=by
 obtain⟨cap,rest,e1,h1,h2⟩:=hw;exact⟨cap,rest,e1,hs.trans h1,h2⟩
theorem Ow.none(hw:Ow tb h sz id y xs):h id≠Option.none:=by
 obtain⟨cap,rest,e1,h1,h2⟩:=hw
 grind
theorem Ow.make{cs:List AV}{cap:Nat}{rest:List AV}(hs:Sized sz xs)(hcs:cs=aq xs){n:Nat}(hn:n=xs.length)(hc:n≤cap)(hr:rest.length=(cap - n)*sz):Ow tb (upd h id (some (.obj (cs++rest) tb))) sz id (.ob id 0 n cap sz) xs:=by
 subst hcs;subst hn
 exact⟨cap,rest,rfl,ah ..,hr,hc,hs⟩
theorem j0.ow{cs:List AV}{n:Nat}{Q:AV→Heap→Prop}(hs:Sized sz xs)(hcs:cs=aq xs)(hn:n=xs.length)(hk:∀id y h',h id=Option.none→Ow tb h' sz id y xs→(∀j,j≠id→h' j=h j)→Q y h'):j0 h cs n sz tb Q:=
 fun id cap rest hid hc hr=>hk id _ _ hid (Ow.make hs hcs hn hc hr) fun j hj=>ag _ _ hj
theorem I9{us vs:List AV}{o:Nat}{c:List AV}:over (us++vs) (us.length+o) c=us++over vs o c:=by
 simp[Ab.over,Nat.add_assoc,List.take_length_add_append,List.drop_length_add_append,List.append_assoc]
theorem Iq{xs:List AV}(hs:Sized sz xs)(j:Nat)(hj:j<xs.length)(x:AV)(hx:x.cells.length=sz):aq (xs.set j x)=over (aq xs) (j*sz) x.cells:=by
 induction xs generalizing j with
 |nil=>grind
 |cons a r ih=>
  have h1:=hs a aci;have h2:Sized sz r:=fun z hz=>hs z ab8
  cases j with
  |zero=>
   simp only[List.set_cons_zero,jk,Ab.over,Nat.zero_mul,List.take_zero,List.nil_append,Nat.zero_add];rw[hx,←h1,List.drop_left]
  |succ j=>
   have hj' :j<r.length:=ab8;have e1:(j+1)*sz=a.cells.length+j*sz:=ab8;rw[List.set_cons_succ,jk,jk,ih h2 j hj',e1,I9]
theorem Ip{xs:List AV}(hs:Sized sz xs)(j:Nat)(hj:j<xs.length)(o:Nat)(c:List AV)(ho:o+c.length≤sz):over (aq xs) (j*sz+o) c=aq (xs.set j (.agg (over xs[j].cells o c))):=by
 have hc:=hs xs[j] (ab2 hj);have hl:(over xs[j].cells o c).length=sz:=by grind [ig]
 rw[Iq hs j hj (.agg (over xs[j].cells o c)) hl];have hp:=oF hs j hj;have e1:(aq xs).take (j*sz+o)=(aq xs).take (j*sz)++xs[j].cells.take o:=by
  rw[←hp,List.take_take,Nat.min_eq_left ab7,List.take_add]
 have e2:(aq xs).drop (j*sz+o+c.length)=xs[j].cells.drop (o+c.length)++(aq xs).drop (j*sz+sz):=by
  have e3:(aq xs).drop (j*sz)=xs[j].cells++(aq xs).drop (j*sz+sz):=by
   grind [List.drop_drop,List.take_append_drop]
  rw[Nat.add_assoc,←List.drop_drop,e3,List.drop_append_of_le_length ab7]
 show over (aq xs) (j*sz+o) c=over (aq xs) (j*sz) (over xs[j].cells o c)
 grind [over,Ab.over,List.append_assoc]
theorem LA{us vs:List AV}{o:Nat}{c:List AV}(h1:o+c.length≤us.length):over (us++vs) o c=over us o c++vs:=by
 grind [Ab.over,List.append_assoc]
theorem Ow.idx(hw:Ow tb h sz id y xs){m:Int}{x:IntKind}{K:AV→Prop}(j:Nat)(hm:m=j)(hj:j<xs.length)(hz:(U e).sz=sz)(h0:sz≠0)(hk:K (.ptr id (j*sz))):oN U y (.v (.int x m)) K (.slice e):=by
 obtain⟨cap,rest,rfl,h1,h2,h3,h4⟩:=hw
 simp_all [An,Nat.zero_add,Int.toNat_natCast]
def OwE(tb:TypeId)(h0 h:Heap)(sz:Nat)(y:AV)(xs:List AV):Prop:=(xs= []∧y= .sl [] .full)∨∃id,h0 id=Option.none∧Ow tb h sz id y xs
variable {h0 : Heap}
theorem OwE.rd(hw:OwE tb h0 h sz y xs):Rd h sz y xs:=by
 rcases hw with⟨rfl,rfl⟩|⟨id,_,hw⟩
 ·exact .sl (fun z hz=>ab8) _
 ·exact hw.rd
theorem OwE.sub(hw:OwE tb h0 h sz y xs)(hs:Sub h h'):OwE tb h0 h' sz y xs:=by
 rcases hw with hw|⟨id,h1,hw⟩
 ·exact af0
 ·exact .inr ⟨id,h1,hw.sub hs⟩
theorem OwE.ow(hw:OwE tb h0 h sz y xs)(hn:xs≠ []):∃id,h0 id=Option.none∧Ow tb h sz id y xs:=by
 rcases hw with hw|hw
 ·grind
 omega
theorem OwE.app{v:AV}{zs:List AV}{Q:AV→Heap→Prop}(hw:OwE tb h0 h sz y xs)(hs0:Sub h0 h)(hb:Rd h sz v zs)(hz:(U tb).sz=sz)(h1:sz≠0)(hby:(U tb).bytes≠0)(hf:Ab.fit (U tb).zero sz)(hne:zs≠ [])(hlen:(xs.length+zs.length)*(U tb).bytes≤140737488355328)
  (hk:∀id y' h',h0 id=Option.none→(h id=Option.none∨∃l c,y= .ob id 0 l c sz)→Ow tb h' sz id y' (xs++zs)→(∀j,j≠id→h' j=h j)→Q y' h'):apK U h y v Q (.slice tb):=by
 subst hz;rcases hw with⟨rfl,rfl⟩|⟨id,h2,cap,rest,rfl,h3,h4,h5,h6⟩
 ·refine(pV ..).mpr ⟨h1,hby,hb.src rfl ⟨by simp[Sized],hb.1,ab7,fun hn=>(hne hn).elim,fun _=>?_⟩⟩
  refine .ob hf (j0.ow (by simpa using hb.1) acr aci fun id y' h' hid hw ho=>?_)
  exact hk id _ _ (hs0.none hid) (.inl hid) ab8 ho
 ·have hl:=aY h6
  refine⟨h1,hby,rfl,hb.src rfl ⟨hb.1,hlen,?_⟩⟩;rw[h3];have hsz:Sized (U tb).sz (xs++zs):=fun z hz=>(List.mem_append.1 hz).elim (h6 z) (hb.1 z)
  refine⟨ab8,hf,fun hle=>?_,fun hgt=>?_⟩
  ·have hlz:=aY hb.1
   have hmul:(cap - xs.length)*(U tb).sz=zs.length*(U tb).sz+(cap - (xs.length+zs.length))*(U tb).sz:=by rw[←Nat.add_mul];grind
   refine hk id _ _ h2 (.inr ⟨_,_,rfl⟩) ⟨cap,rest.drop (zs.length*(U tb).sz),aci,?_,?_,ab8,hsz⟩ fun j hj=>ag _ _ hj
   ·simp_all [ah,lX,Nat.zero_add,Ab.over,List.take_left,List.drop_append,List.drop_of_length_le]
   grind
  ·refine j0.ow hsz ?_ aci fun id' y' h' hid hw ho=>?_
   ·grind [lX,List.take_left]
   ·exact hk id' _ _ (hs0.none hid) (.inl hid) hw ho
theorem vG {f : FuncId} {fn : Func} {tS tR : TypeId} (hU : ∀ t, aN P U t) (hfn : P.funcs[f]? = some fn) (hname : (fn.name == "runtime.NumGoroutine") = false) (hb : fn.body.isNone = true) (hn : Extern.findNext fn = Option.none)
  (he:Extern.find fn=some (Extern.SlicesOverlaps.overlaps #[tS,tS] #[tR])) (hty:(U tS).k= .slice e) (hz:(U e).sz≠0) {q:Perm} (hx:Sized (U e).sz xs) (hne:xs≠ []) {id off len cap sz:Nat} {cs:List AV} {t:TypeId} (hid:h id=some (.obj cs t)) (hcs:cs≠ []):
  ai P f [.sl xs q,.ob id off len cap sz] h fun r h' =>r= .b false∧h' =h:=by
 intro c vs hs g h1 h2;obtain⟨a,cap0,sz0,val,hu,sl⟩:=(h2 0 aci).iq;obtain⟨o,hv,_⟩:=(h2 1 aci).jo;have hd:=(hU tS).desc;rw[hty]at hd;have hpos:0<xs.length:=List.length_pos_iff.2 hne;have hcap:=sl.hc;obtain⟨qa,rfl⟩:∃qa,a=some qa:=by
  cases a with
  |none=>have:=sl.h0 rfl;omega
  |some qa=>simp
 have hs0:sz0=(U e).sz:=by rw[←sl.hz 0 hpos];exact hx _ (ab2 hpos)
 have hf:=sl.hf qa rfl 0 0 hpos ab7;have hq:=(sl.hs qa rfl ab7).1;have hcid:=hs _ _ hid;obtain⟨us,u1,u2,u3⟩:=g.obj id cs t hcid;have hnb:qa.block≠(c.φ id).block:=fun hh=>hf.2 ⟨id,_,hcid,hh.symm,Nat.zero_le _⟩
 obtain⟨ws,tw,fr,hws,hwlt⟩:∃ws tw fr,c.w.heap[qa.block]? =some (.cells ws tw fr)∧0<ws.size:=by
  have:=hf.1;simp only[World.cell?]at this;split at this
  ·rename_i ws tw fr hh
   refine⟨ws,tw,fr,hh,?_⟩
   grind
  all_goals cases this
 have hvs:vs= #[.slice (some qa) xs.length cap0,.slice (some ⟨(c.φ id).block,o,Option.none⟩) len cap]:=by
  apply Array.ext
  ·omega
  ·intro i hi hi2
   have hi3:i<2:=ab7;rcases i with _|_|i
   ·simpa[Array.getD,hi]using hu
   ·simpa[Array.getD,hi]using hv
   ·omega
 subst hvs;refine .inr ⟨.bool false,c.w,?_,c,_,h,rfl,g,.refl c,.v _,hs,rfl,rfl⟩;rw[Go.run_callFunc_extern hfn hname hb hn he];have key:(Extern.SlicesOverlaps.overlaps #[tS,tS] #[tR] #[.slice (some qa) xs.length cap0,.slice (some ⟨(c.φ id).block,o,Option.none⟩) len cap]).run P c.w= .ok (.bool false) c.w:=by
  have hnb1:(qa.block !=(c.φ id).block)=true:=ab8;have hnb2:(qa.block==(c.φ id).block)=false:=ab8;have hws2:∃m,ws.size=m+1:=⟨ws.size - 1,ab7⟩;obtain⟨m,hm⟩:=hws2
  change Sem.run P (α:=Value) (do
   let some t := (#[tS, tS] : Array TypeId)[0]? | stuck "slices.overlaps: no parameter types"
   let .slice elem ← underlying t | stuck "slices.overlaps: slice type expected"
   let size←sizeOf elem
   match (some qa:Option Addr),(some ⟨(c.φ id).block,o,Option.none⟩:Option Addr)with
   |some a,some b=>
    if xs.length=0∨len=0∨size=0 then pure (Value.bool false)
    else if a.block !=b.block && (←frozen a) && (←frozen b)then unsupported .addressObserved
    else do
     if a.block !=b.block then do
      noView a;noView b
      if ← mayBeOne a b then return Value.bool ((← choose (.extern "sameAddr.stringBytes" 2)) == 1)
     pure (Value.bool (a.block==b.block && a.off<b.off+len*size && b.off<a.off+xs.length*size))
   |_,_=>pure (Value.bool false)) c.w=_
  have hfb:∀x,c.w.frozen? ⟨(c.φ id).block,x,Option.none⟩=false:=fun x=>by grind [World.frozen?]
  have hsb:c.w.shape? (c.φ id).block=some (t,us.size):=by grind [World.shape?]
  have hsa:c.w.shape? qa.block=some (tw,m+1):=by grind [World.shape?]
  by_cases hl:len=0
  ·simp[run_underlying hd,bC hU hz,hl]
  ·have hus:us.size≠0:=by grind
   obtain⟨n,hn'⟩:∃n,us.size=n+1:=⟨us.size - 1,ab7⟩;rw[hn']at hsb;cases hfa:c.w.frozen? qa<;>cases hfa2:c.w.frozen? {block:=qa.block,off:=m+1}<;>
    simp[run_underlying hd,bC hU hz,hl,hne,hz,hnb1,hnb2,frozen,noView,viewAt,mayBeOne,stringish,shape,Sem.run,hsa,hsb,hfb,hfa,hfa2]
 rw[key];rfl
end
end Go.Ab
namespace Go.Bf
open Go Go.Ab
structure OpD where
 kind:Int
 subj:Txt
 case:Txt
 field:Txt
 to:Txt
 val:bz
 review:Int
 text:Txt
 reason:Txt
 glass:Bool
structure wR where
 tick:Int
 actor:Txt
 what:Txt
structure cY where
 name:Txt
 val:bz
structure aL where
 id:Txt
 owner:Txt
 state:Txt
 fields:List cY
 log:List wR
structure pT where
 id:Int
 tick:Int
 subj:Txt
 case:Txt
 action:Txt
 reason:Txt
 isOpen:Bool
structure HE where
 tick:Int
 case:Txt
 arg:Txt
structure gV where
 subj:Txt
 role:Txt
structure an where
 tick:Int
 cases:List aL
 reviews:List pT
 notices:List HE
 roles:List gV
 policy:bH
 version:Int
structure bn where
 cat:Int
 name:Txt
 bag:List bz
def opC(o:OpD):List AV:=[.i o.kind,.s o.subj,.s o.case,.s o.field,.s o.to,.i o.val.kind,.i o.val.n,.s o.val.s,.i o.review,.s o.text,.s o.reason,.b o.glass]
def opA(o:OpD):AV:=.agg (opC o)
def iF(x:wR):AV:=.agg [.i x.tick,.s x.actor,.s x.what]
def bN(f:cY):AV:=.agg [.s f.name,.i f.val.kind,.i f.val.n,.s f.val.s]
def gv(l:List cY):AV:=.sl (l.map bN) .no
def rY(l:List wR):AV:=.sl (l.map iF) .no
def mU(c:aL):List AV:=[.s c.id,.s c.owner,.s c.state,gv c.fields,rY c.log]
def cr(c:aL):AV:=.agg (mU c)
def fZ(l:List aL):AV:=.sl (l.map cr) .no
def iK(r:pT):AV:=.agg [.i r.id,.i r.tick,.s r.subj,.s r.case,.s r.action,.s r.reason,.b r.isOpen]
def j4(l:List pT):AV:=.sl (l.map iK) .no
def mN(n:HE):AV:=.agg [.i n.tick,.s n.case,.s n.arg]
def kY(l:List HE):AV:=.sl (l.map mN) .no
def eL(r:gV):AV:=.agg [.s r.subj,.s r.role]
def dZ(l:List gV):AV:=.sl (l.map eL) .no
def fW:bH→List AV
 |.mk id set alg tgt rules kids obls=>[.s id,.b set,.i alg,aV tgt,.sl (rules.map aB) .no,.sl (fF kids) .no,aA obls]
theorem NX(p:bH):aM p= .agg (fW p):=by cases p;rfl
def cK(s:an):AV:=.agg ([.i s.tick,fZ s.cases,j4 s.reviews,kY s.notices,dZ s.roles]++fW s.policy++ [.i s.version])
def kS(g:bn):AV:=.agg [.i g.cat,.s g.name,.sl (g.bag.map aS) .no]
def bI(l:List bn):AV:=.sl (l.map kS) .no
def geB(a b:Txt):Bool:= !(Op.bytesLess a b)
def findD(cs:List aL)(id:Txt):Nat:=cs.findIdx fun c=>geB c.id id
def bY(cs:List aL)(id:Txt):Bool:=match cs[findD cs id]? with
 |some c=>c.id==id
 |none=>false
def au:bz:=⟨0,0,[]⟩
def ou:aL:=⟨[],[],[],[],[]⟩
def bw(cs:List aL)(id:Txt):aL:=if bY cs id then cs.getD (findD cs id) ou else ou
def eO(fs:List cY)(name:Txt):bz:=match fs.find? fun f=>f.name==name with
 |some f=>f.val
 |none=>au
def ud(a b:gV):Bool:=a.subj==b.subj && a.role==b.role
def xO(l:List gV)(r:gV):Bool:=l.any (ud r)
def jC:Txt:=[111,112,101,110]
def vT:Txt:=[119,111,114,107]
def z7:Txt:=[100,111,110,101]
def gQ:Txt:=[99,108,111,115,101,100]
def mw(a b:Txt):Bool:=
 if a==jC then b==vT else if a==vT then b==z7 else if a==z7 then b==vT||b==gQ else false
def S6:List Txt:=[[110,101,119],[114,101,97,100],[119,114,105,116,101],[109,111,118,101],[99,108,111,115,101],[114,111,108,101],[112,111,108,105,99,121]]
def jH(k:Int):Txt:=if k<1∨k>7 then [116,105,99,107]else S6.getD (k - 1).toNat []
def uA(k:Int):Bool:=decide (1≤k) && decide (k≤4)
def iT(s:Txt):Bool:=s== []||bp s
def lU(o:OpD):Bool:=if o.glass then uA o.kind && (!(o.reason== [])) && decide (o.reason.length≤64)else o.reason== []
def iO(o:OpD):OpD:=
 let z:OpD:=⟨o.kind,[],[],[],[],au,0,[],[],false⟩
 if o.kind=1 then {z with case:=o.case}
 else if o.kind=2∨o.kind=6 then {z with case:=o.case,field:=o.field}
 else if o.kind=3 then {z with case:=o.case,field:=o.field,val:=o.val}
 else if o.kind=4 then {z with case:=o.case,to:=o.to}
 else if o.kind=5∨o.kind=8 then {z with review:=o.review}
 else {z with text:=o.text}
def eqV(a b:bz):Bool:=a.kind==b.kind && (a.n==b.n && a.s==b.s)
def mM(a b:OpD):Bool:=a.kind==b.kind && (a.subj==b.subj && (a.case==b.case && (a.field==b.field && (a.to==b.to && (a.val.kind==b.val.kind && (a.val.n==b.val.n && (a.val.s==b.val.s && (a.review==b.review && (a.text==b.text && (a.reason==b.reason && a.glass==b.glass))))))))))
def okD(o:OpD):Bool:=
 if o.kind=1 then !(o.case== [])
 else if o.kind=2∨o.kind=6 then !(o.case== []) && !(o.field== [])
 else if o.kind=3 then !(o.case== []) && !(o.field== []) && !(eqV o.val au)
 else if o.kind=4 then !(o.case== []) && !(o.to== [])
 else if o.kind=5 then decide (0<o.review)
 else if o.kind=8 then decide (0<o.review) && decide (o.review≤1099511627776)
 else true
def gN(o:OpD):OpD:={o with subj:=[],reason:=[],glass:=false}
def dP(o:OpD):Bool:=decide (1≤o.kind) && decide (o.kind≤8) && okD o && mM (gN o) (iO o)
def dF(o:OpD):Bool:=bp o.subj && lU o && decide (o.text.length≤4096) && iT o.case && iT o.field && iT o.to && (eqV o.val au||bB o.val) && dP o
def bX(s:an)(o:OpD):Int:=
 let c:=bw s.cases o.case
 if bY s.cases o.case=false then 10
 else if o.kind=3∧c.fields.length≥16∧eqV (eO c.fields o.field) au=true then 6
 else if o.kind≠2∧c.log.length≥256 then 6
 else if o.kind=3∧c.state=gQ∨o.kind=4∧mw c.state o.to=false then 13
 else 0
def vJ(l:List pT)(n:Int):Option pT:=if 1≤n then l[(n - 1).toNat]? else none
def fR(s:an)(o:OpD):Int:=match vJ s.reviews o.review with
 |none=>10
 |some r=>if r.isOpen=false then 10 else if r.subj=o.subj then 12 else 0
def bL(s:an)(o:OpD):Int:=
 if dF o=false then 1
 else if o.kind=1 then(if bY s.cases o.case then 11 else if s.cases.length≥64 then 6 else 0)
 else if 2≤o.kind∧o.kind≤4 then bX s o
 else if o.kind=5 then fR s o
 else if o.kind=6 then(if s.roles.length≥64∧xO s.roles ⟨o.case,o.field⟩=false then 6 else 0)
 else if o.kind=8 then(if s.tick>1099511627776 - o.review then 6 else 0)
 else 0
def idV(s:Txt):bz:=⟨5,0,s⟩
def tO(l:List wR)(subj:Txt):bz:=⟨1,if l.any (fun x=>x.actor==subj)then 1 else 0,[]⟩
def idT:Txt:=[105,100]
def cC(c:aL)(subj:Txt):List bn:=
 [⟨3,idT,[idV c.id]⟩,⟨3,[111,119,110,101,114],[idV c.owner]⟩,⟨3,[115,116,97,116,101],[idV c.state]⟩,⟨3,[101,118,101,110,116,115],[⟨2,c.log.length,[]⟩]⟩,⟨3,[116,111,111,107],[tO c.log subj]⟩]++
 (match c.log.getLast? with
  |some x=>[⟨3,[108,97,115,116],[idV x.actor]⟩]
  |none=>[])++
 (c.fields.filter fun f=>decide (f.name.length≤14)).map fun f=>⟨3,[102,95]++f.name,[f.val]⟩
def cX(l:List gV)(subj:Txt):List bz:=((l.filter fun r=>r.subj==subj).map fun r=>idV r.role).take 16
def fG(s:an)(o:OpD):List bn:=
 [⟨1,idT,[idV o.subj]⟩,⟨1,[114,111,108,101],cX s.roles o.subj⟩,⟨2,[110,97,109,101],[idV (jH o.kind)]⟩]++
 (if o.field= []then []else [⟨2,[102,105,101,108,100],[idV o.field]⟩])++
 (if o.to= []then []else [⟨2,[116,111],[idV o.to]⟩])++
 [⟨4,[110,111,119],[⟨4,s.tick,[]⟩]⟩]++
 (if bY s.cases o.case=true∧o.kind≠6 then cC (bw s.cases o.case) o.subj else [])
def fh(fs:List cY)(name:Txt)(v:bz):List cY:=
 let i:=fs.findIdx fun f=>geB f.name name
 match fs[i]? with
 |none=>fs++ [⟨name,v⟩]
 |some f=>if f.name=name then fs.set i ⟨f.name,v⟩else fs.take i++ [⟨name,v⟩]++fs.drop i
def jn(s:an)(c:aL)(actor what:Txt):aL:={c with log:=c.log++ [⟨s.tick,actor,what⟩]}
def doD(par:Txt→bH×Int×Int)(s:an)(o:OpD):an:=
 let i:=findD s.cases o.case
 if o.kind=1 then {s with cases:=s.cases.take i++ [jn s ⟨o.case,o.subj,jC,[],[]⟩ o.subj [110,101,119]]++s.cases.drop i}
 else if o.kind=3 then {s with cases:=s.cases.modify i fun c=>jn s {c with fields:=fh c.fields o.field o.val} o.subj [119,114,105,116,101]}
 else if o.kind=4 then {s with cases:=s.cases.modify i fun c=>jn s {c with state:=o.to} o.subj o.to}
 else if o.kind=5 then {s with reviews:=s.reviews.modify (o.review - 1).toNat fun r=> {r with isOpen:=false}}
 else if o.kind=6 then(if xO s.roles ⟨o.case,o.field⟩then s else {s with roles:=s.roles++ [⟨o.case,o.field⟩]})
 else if o.kind=7 then(if(par o.text).2.1=0 then {s with policy:=(par o.text).1,version:=s.version+1} else s)
 else if o.kind=8 then {s with tick:=s.tick+o.review}
 else s
def dU(par:Txt→bH×Int×Int)(s:an)(o:OpD):an:=if bL s o=0 then doD par s o else s
def i64(n:Int):Prop:= -9223372036854775808≤n∧n≤9223372036854775807
end Go.Bf
namespace Go.Proofs.YtfdgemhnlennbaaGreatDoor
open Go Go.Ab
def tyN:TI:=⟨.other,0,0,default,none⟩
abbrev ab5:TI:=⟨.other,1,8,.v .nilFunc,none⟩
def Ml:List TI:=[
 tyN,
 ab5,
 ⟨.int .i64,1,8,.i 0,some (0,[.int .i64])⟩,
 ⟨.int .i64,1,8,.i 0,some (0,[.int .i64])⟩,
 ⟨.bool,1,1,.b false,some (0,[.bool])⟩,
 ⟨.int .u8,1,1,.v (.int .u8 0),some (0,[.int .u8])⟩,
 ⟨.int .u8,1,1,.v (.int .u8 0),some (0,[.int .u8])⟩,
 ⟨.strct [(0,2),(1,3),(2,4),(3,6)],4,24,.agg [.i 0,.i 0,.b false,.v (.int .u8 0)],none⟩,
 ⟨.strct [(0,2),(1,3),(2,4),(3,6)],4,24,.agg [.i 0,.i 0,.b false,.v (.int .u8 0)],none⟩,
 ⟨.str,1,16,.s [],some (0,[.str])⟩,
 tyN,
 ⟨.str,1,16,.s [],some (0,[.str])⟩,
 tyN,
 tyN,
 tyN,
 tyN,
 tyN,
 tyN,
 tyN,
 tyN,
 tyN,
 tyN,
 ⟨.slice 9,1,24,.sl [] .full,none⟩,
 ⟨.ptr 87,1,8,.v (.pointer none),none⟩,
 ⟨.int .i64,1,8,.i 0,some (0,[.int .i64])⟩,
 tyN,
 tyN,
 ⟨.ptr 92,1,8,.v (.pointer none),none⟩,
 tyN,
 tyN,
 ⟨.cplx .f64,1,16,.v (.complex .f64 0 0),some (0,[.cplx .f64])⟩,
 ⟨.cplx .f64,1,16,.v (.complex .f64 0 0),some (0,[.cplx .f64])⟩,
 ⟨.strct [(0,3),(1,3),(2,9)],3,32,.agg [.i 0,.i 0,.s []],some (1,[.int .i64,.int .i64,.str])⟩,
 ⟨.strct [(0,3),(1,3),(2,9)],3,32,.agg [.i 0,.i 0,.s []],some (1,[.int .i64,.int .i64,.str])⟩,
 tyN,
 ⟨.strct [(0,24),(1,31),(2,4),(3,33),(6,4),(7,3)],8,80,.agg [.i 0,.v (.complex .f64 0 0),.b false,.i 0,.i 0,.s [],.b false,.i 0],some (2,[.int .i64,.cplx .f64,.bool,.int .i64,.int .i64,.str,.bool,.int .i64])⟩,
 tyN,
 ⟨.slice 5,1,24,.sl [] .full,none⟩,
 tyN,
 ⟨.strct [(0,3),(1,9),(2,9),(3,9),(4,9),(5,33),(8,3),(9,9),(10,9),(11,4)],12,152,.agg [.i 0,.s [],.s [],.s [],.s [],.i 0,.i 0,.s [],.i 0,.s [],.s [],.b false],some (2,[.int .i64,.str,.str,.str,.str,.int .i64,.int .i64,.str,.int .i64,.str,.str,.bool])⟩,
 ⟨.slice 37,1,24,.sl [] .full,none⟩,
 ab5,
 tyN,
 tyN,
 ⟨.slice 48,1,24,.sl [] .full,none⟩,
 tyN,
 ab5,
 tyN,
 ⟨.int .u64,1,8,.v (.int .u64 0),some (0,[.int .u64])⟩,
 tyN,
 tyN,
 ⟨.slice 122,1,24,.sl [] .full,none⟩,
 ⟨.slice 135,1,24,.sl [] .full,none⟩,
 ⟨.slice 138,1,24,.sl [] .full,none⟩,
 ⟨.slice 141,1,24,.sl [] .full,none⟩,
 tyN,
 ⟨.slice 262,1,24,.sl [] .full,none⟩,
 ⟨.slice 210,1,24,.sl [] .full,none⟩,
 ⟨.slice 61,1,24,.sl [] .full,none⟩,
 ⟨.slice 131,1,24,.sl [] .full,none⟩,
 ⟨.strct [(0,9),(1,4),(2,3),(3,56),(4,57),(5,58),(6,59)],7,128,.agg [.s [],.b false,.i 0,.sl [] .full,.sl [] .full,.sl [] .full,.sl [] .full],none⟩,
 ⟨.strct [(0,9),(1,4),(2,3),(3,56),(4,57),(5,58),(6,59)],7,128,.agg [.s [],.b false,.i 0,.sl [] .full,.sl [] .full,.sl [] .full,.sl [] .full],none⟩,
 ⟨.strct [(0,3),(1,51),(2,52),(3,53),(4,54),(5,61),(12,3)],13,240,.agg [.i 0,.sl [] .full,.sl [] .full,.sl [] .full,.sl [] .full,.s [],.b false,.i 0,.sl [] .full,.sl [] .full,.sl [] .full,.sl [] .full,.i 0],none⟩,
 ⟨.strct [(0,3),(1,51),(2,52),(3,53),(4,54),(5,61),(12,3)],13,240,.agg [.i 0,.sl [] .full,.sl [] .full,.sl [] .full,.sl [] .full,.s [],.b false,.i 0,.sl [] .full,.sl [] .full,.sl [] .full,.sl [] .full,.i 0],none⟩,
 tyN,
 ab5,
 tyN,
 tyN,
 ⟨.strct [(0,39),(12,3),(13,31),(14,4),(15,59)],16,208,.agg [.i 0,.s [],.s [],.s [],.s [],.i 0,.i 0,.s [],.i 0,.s [],.s [],.b false,.i 0,.v (.complex .f64 0 0),.b false,.sl [] .full],none⟩,
 tyN,
 tyN,
 tyN,
 ⟨.slice 68,1,24,.sl [] .full,none⟩,
 tyN,
 tyN,
 tyN,
 tyN,
 tyN,
 tyN,
 tyN,
 tyN,
 tyN,
 tyN,
 tyN,
 tyN,
 tyN,
 tyN,
 ⟨.strct [(0,3),(1,37),(2,3),(3,3),(4,4)],5,56,.agg [.i 0,.sl [] .full,.i 0,.i 0,.b false],none⟩,
 ⟨.ptr 160,1,8,.v (.pointer none),none⟩,
 tyN,
 tyN,
 tyN,
 ⟨.strct [(0,88),(1,63),(14,72),(15,48)],16,280,.agg [.v (.pointer none),.i 0,.sl [] .full,.sl [] .full,.sl [] .full,.sl [] .full,.s [],.b false,.i 0,.sl [] .full,.sl [] .full,.sl [] .full,.sl [] .full,.i 0,.sl [] .full,.v (.int .u64 0)],none⟩,
 tyN,
 tyN,
 ab5,
 tyN,
 ab5,
 ab5,
 ab5,
 ab5,
 ⟨.int .u32,1,4,.v (.int .u32 0),some (0,[.int .u32])⟩,
 ab5,
 tyN,
 ab5,
 ab5,
 ⟨.strct [(0,31),(1,59)],2,40,.agg [.v (.complex .f64 0 0),.sl [] .full],none⟩,
 ⟨.strct [(0,31),(1,59)],2,40,.agg [.v (.complex .f64 0 0),.sl [] .full],none⟩,
 ab5,
 tyN,
 ab5,
 ⟨.slice 182,1,24,.sl [] .full,none⟩,
 ab5,
 ab5,
 ab5,
 ab5,
 ⟨.ptr 63,1,8,.v (.pointer none),none⟩,
 ab5,
 ab5,
 ⟨.slice 201,1,24,.sl [] .full,none⟩,
 ⟨.slice 191,1,24,.sl [] .full,none⟩,
 ⟨.strct [(0,9),(1,9),(2,9),(3,119),(4,120)],5,96,.agg [.s [],.s [],.s [],.sl [] .full,.sl [] .full],none⟩,
 ⟨.strct [(0,9),(1,9),(2,9),(3,119),(4,120)],5,96,.agg [.s [],.s [],.s [],.sl [] .full,.sl [] .full],none⟩,
 tyN,
 tyN,
 ab5,
 tyN,
 tyN,
 tyN,
 tyN,
 tyN,
 ⟨.strct [(0,3),(1,3),(2,9)],3,32,.agg [.i 0,.i 0,.s []],some (1,[.int .i64,.int .i64,.str])⟩,
 tyN,
 tyN,
 tyN,
 ⟨.strct [(0,3),(1,3),(2,9),(3,9),(4,9),(5,9),(6,4)],7,88,.agg [.i 0,.i 0,.s [],.s [],.s [],.s [],.b false],some (1,[.int .i64,.int .i64,.str,.str,.str,.str,.bool])⟩,
 tyN,
 tyN,
 ⟨.strct [(0,3),(1,9),(2,9)],3,40,.agg [.i 0,.s [],.s []],some (1,[.int .i64,.str,.str])⟩,
 tyN,
 tyN,
 ⟨.strct [(0,9),(1,9)],2,32,.agg [.s [],.s []],some (1,[.str,.str])⟩,
 tyN,
 tyN,
 tyN,
 tyN,
 tyN,
 tyN,
 tyN,
 tyN,
 tyN,
 tyN,
 tyN,
 tyN,
 tyN,
 tyN,
 tyN,
 tyN,
 tyN,
 tyN,
 ⟨.strct [(0,23),(1,40),(2,4)],3,40,.agg [.v (.pointer none),.sl [] .full,.b false],none⟩,
 ⟨.int .u64,1,8,.v (.int .u64 0),some (0,[.int .u64])⟩,
 tyN,
 tyN,
 ⟨.slice 172,1,24,.sl [] .full,none⟩,
 tyN,
 tyN,
 ⟨.ptr 169,1,8,.v (.pointer none),none⟩,
 tyN,
 ⟨.strct [(0,164),(1,3),(2,3),(3,24),(4,3)],5,56,.agg [.sl [] .full,.i 0,.i 0,.i 0,.i 0],none⟩,
 tyN,
 tyN,
 ⟨.strct [(0,3),(1,3),(2,3),(3,9)],4,40,.agg [.i 0,.i 0,.i 0,.s []],some (1,[.int .i64,.int .i64,.int .i64,.str])⟩,
 tyN,
 tyN,
 tyN,
 tyN,
 tyN,
 tyN,
 ⟨.slice 33,1,24,.sl [] .full,none⟩,
 tyN,
 tyN,
 ⟨.strct [(0,3),(1,9),(2,179)],3,48,.agg [.i 0,.s [],.sl [] .full],none⟩,
 tyN,
 tyN,
 tyN,
 tyN,
 tyN,
 tyN,
 tyN,
 tyN,
 ⟨.strct [(0,3),(1,9),(2,9)],3,40,.agg [.i 0,.s [],.s []],some (1,[.int .i64,.str,.str])⟩,
 tyN,
 ⟨.ptr 122,1,8,.v (.pointer none),none⟩,
 tyN,
 tyN,
 tyN,
 ab5,
 tyN,
 tyN,
 tyN,
 ⟨.strct [(0,9),(1,33)],4,48,.agg [.s [],.i 0,.i 0,.s []],some (2,[.str,.int .i64,.int .i64,.str])⟩,
 ab5,
 tyN,
 ab5,
 tyN,
 tyN,
 tyN,
 ⟨.slice 215,1,24,.sl [] .full,none⟩,
 tyN,
 ⟨.strct [(0,9),(1,4),(2,56),(3,208),(4,59)],5,96,.agg [.s [],.b false,.sl [] .full,.sl [] .full,.sl [] .full],none⟩,
 tyN,
 tyN,
 ⟨.strct [(0,3),(1,9),(2,4)],3,32,.agg [.i 0,.s [],.b false],some (1,[.int .i64,.str,.bool])⟩,
 tyN,
 ⟨.strct [(0,3),(1,33),(4,213)],7,72,.agg [.i 0,.i 0,.i 0,.s [],.i 0,.s [],.b false],some (2,[.int .i64,.int .i64,.int .i64,.str,.int .i64,.str,.bool])⟩,
 tyN,
 tyN,
 tyN,
 tyN,
 ⟨.iface,1,16,.v .nilIface,none⟩,
 tyN,
 tyN,
 tyN,
 tyN,
 tyN,
 tyN,
 tyN,
 ⟨.ptr 273,1,8,.v (.pointer none),none⟩,
 tyN,
 tyN,
 ab5,
 tyN,
 tyN,
 tyN,
 tyN,
 tyN,
 tyN,
 tyN,
 tyN,
 tyN,
 tyN,
 tyN,
 tyN,
 ⟨.ptr 247,1,8,.v (.pointer none),none⟩,
 ⟨.map 9 352,1,8,.v (.map none),none⟩,
 tyN,
 ⟨.strct [(0,245),(1,3)],2,16,.agg [.v (.map none),.i 0],none⟩,
 tyN,
 tyN,
 tyN,
 tyN,
 ⟨.slice 3,1,24,.sl [] .full,none⟩,
 tyN,
 tyN,
 ab5,
 tyN,
 tyN,
 tyN,
 tyN,
 tyN,
 tyN,
 ⟨.slice 266,1,24,.sl [] .full,none⟩,
 tyN,
 tyN,
 ⟨.strct [(0,213),(3,3),(4,33)],7,72,.agg [.i 0,.s [],.b false,.i 0,.i 0,.i 0,.s []],some (2,[.int .i64,.str,.bool,.int .i64,.int .i64,.int .i64,.str])⟩,
 ⟨.slice 265,1,24,.sl [] .full,none⟩,
 tyN,
 tyN,
 tyN,
 tyN,
 tyN,
 tyN,
 ⟨.strct [(0,37),(1,3),(2,4)],3,40,.agg [.sl [] .full,.i 0,.b false],none⟩,
 tyN,
 ab5,
 tyN,
 tyN,
 tyN,
 tyN,
 tyN,
 tyN,
 tyN,
 tyN,
 tyN,
 tyN,
 tyN,
 tyN,
 ⟨.slice 107,1,24,.sl [] .full,none⟩,
 tyN,
 tyN,
 tyN,
 tyN,
 tyN,
 tyN,
 ab5,
 tyN,
 tyN,
 tyN,
 tyN,
 tyN,
 tyN,
 tyN,
 ⟨.int .i64,1,8,.i 0,some (0,[.int .i64])⟩,
 tyN,
 tyN,
 tyN,
 tyN,
 tyN,
 tyN,
 tyN,
 tyN,
 tyN,
 tyN,
 tyN,
 tyN,
 tyN,
 tyN,
 tyN,
 tyN,
 tyN,
 tyN,
 ab5,
 ⟨.slice 31,1,24,.sl [] .full,none⟩,
 tyN,
 tyN,
 tyN,
 tyN,
 tyN,
 tyN,
 tyN,
 tyN,
 tyN,
 tyN,
 tyN,
 tyN,
 tyN,
 tyN,
 tyN,
 tyN,
 tyN,
 tyN,
 tyN,
 tyN,
 tyN,
 tyN,
 tyN,
 tyN,
 tyN,
 tyN,
 tyN,
 tyN,
 ⟨.strct [],0,0,default,none⟩,
 tyN,
 tyN,
 ⟨.slice 4,1,24,.sl [] .full,none⟩,
 tyN,
 tyN,
 tyN,
 tyN,
 tyN,
 ⟨.strct [(0,179),(1,33),(4,24)],5,64,.agg [.sl [] .full,.i 0,.i 0,.s [],.i 0],none⟩,
 ab5,
 tyN,
 tyN,
 tyN,
 tyN,
 tyN,
 tyN,
 tyN,
 tyN,
 tyN,
 tyN,
 tyN,
 tyN,
 tyN,
 tyN,
 tyN,
 tyN,
 tyN,
 tyN,
 tyN,
 tyN,
 tyN,
 tyN,
 tyN,
 tyN,
 ⟨.slice 361,1,24,.sl [] .full,none⟩,
 tyN,
 tyN,
 tyN,
 tyN,
 tyN,
 tyN,
 tyN,
 tyN,
 tyN,
 ab5,
 tyN,
 tyN,
 tyN,
 tyN,
 tyN,
 tyN,
 tyN,
 tyN,
 tyN,
 tyN,
 tyN,
 tyN,
 ab5,
 tyN,
 tyN,
 tyN,
 tyN,
 tyN,
 tyN,
 tyN,
 tyN,
 tyN,
 tyN,
 tyN,
 tyN,
 tyN,
 tyN]
def U(t:TypeId):TI:=Ml.getD t ⟨.other,0,0,default,none⟩
@[go_sem] theorem U3k:(U 3).k= .int .i64∧(U 3).sz=1∧(U 3).bytes=8∧(U 3).zero= .i 0:=⟨rfl,rfl,rfl,rfl⟩
@[go_sem] theorem U4k:(U 4).k= .bool∧(U 4).sz=1∧(U 4).bytes=1∧(U 4).zero= .b false:=⟨rfl,rfl,rfl,rfl⟩
@[go_sem] theorem U5k:(U 5).k= .int .u8∧(U 5).sz=1∧(U 5).bytes=1∧(U 5).zero= .v (.int .u8 0):=⟨rfl,rfl,rfl,rfl⟩
@[go_sem] theorem U9k:(U 9).k= .str∧(U 9).sz=1∧(U 9).bytes=16∧(U 9).zero= .s []:=⟨rfl,rfl,rfl,rfl⟩
@[go_sem] theorem Z6:(U 22).k= .slice 9∧(U 22).sz=1∧(U 22).bytes=24∧(U 22).zero= .sl [] .full:=⟨rfl,rfl,rfl,rfl⟩
@[go_sem] theorem aaa:(U 23).k= .ptr 87∧(U 23).sz=1∧(U 23).bytes=8∧(U 23).zero= .v (.pointer none):=⟨rfl,rfl,rfl,rfl⟩
@[go_sem] theorem aae:(U 24).k= .int .i64∧(U 24).sz=1∧(U 24).bytes=8∧(U 24).zero= .i 0:=⟨rfl,rfl,rfl,rfl⟩
@[go_sem] theorem aai:(U 27).k= .ptr 92∧(U 27).sz=1∧(U 27).bytes=8∧(U 27).zero= .v (.pointer none):=⟨rfl,rfl,rfl,rfl⟩
@[go_sem] theorem aam:(U 31).k= .cplx .f64∧(U 31).sz=1∧(U 31).bytes=16∧(U 31).zero= .v (.complex .f64 0 0):=⟨rfl,rfl,rfl,rfl⟩
@[go_sem] theorem aar:(U 33).k= .strct [(0,3),(1,3),(2,9)]∧(U 33).sz=3∧(U 33).bytes=32∧(U 33).zero= .agg [.i 0,.i 0,.s []]∧(U 33).eq=some (1,[.int .i64,.int .i64,.str]):=⟨rfl,rfl,rfl,rfl,rfl⟩
@[go_sem] theorem aaw:(U 35).k= .strct [(0,24),(1,31),(2,4),(3,33),(6,4),(7,3)]∧(U 35).sz=8∧(U 35).bytes=80∧(U 35).zero= .agg [.i 0,.v (.complex .f64 0 0),.b false,.i 0,.i 0,.s [],.b false,.i 0]∧(U 35).eq=some (2,[.int .i64,.cplx .f64,.bool,.int .i64,.int .i64,.str,.bool,.int .i64]):=⟨rfl,rfl,rfl,rfl,rfl⟩
@[go_sem] theorem aaA:(U 37).k= .slice 5∧(U 37).sz=1∧(U 37).bytes=24∧(U 37).zero= .sl [] .full:=⟨rfl,rfl,rfl,rfl⟩
@[go_sem] theorem aaF:(U 39).k= .strct [(0,3),(1,9),(2,9),(3,9),(4,9),(5,33),(8,3),(9,9),(10,9),(11,4)]∧(U 39).sz=12∧(U 39).bytes=152∧(U 39).zero= .agg [.i 0,.s [],.s [],.s [],.s [],.i 0,.i 0,.s [],.i 0,.s [],.s [],.b false]∧(U 39).eq=some (2,[.int .i64,.str,.str,.str,.str,.int .i64,.int .i64,.str,.int .i64,.str,.str,.bool]):=⟨rfl,rfl,rfl,rfl,rfl⟩
@[go_sem] theorem aaJ:(U 40).k= .slice 37∧(U 40).sz=1∧(U 40).bytes=24∧(U 40).zero= .sl [] .full:=⟨rfl,rfl,rfl,rfl⟩
@[go_sem] theorem aaN:(U 44).k= .slice 48∧(U 44).sz=1∧(U 44).bytes=24∧(U 44).zero= .sl [] .full:=⟨rfl,rfl,rfl,rfl⟩
@[go_sem] theorem aaR:(U 48).k= .int .u64∧(U 48).sz=1∧(U 48).bytes=8∧(U 48).zero= .v (.int .u64 0):=⟨rfl,rfl,rfl,rfl⟩
@[go_sem] theorem aaV:(U 51).k= .slice 122∧(U 51).sz=1∧(U 51).bytes=24∧(U 51).zero= .sl [] .full:=⟨rfl,rfl,rfl,rfl⟩
@[go_sem] theorem aaZ:(U 52).k= .slice 135∧(U 52).sz=1∧(U 52).bytes=24∧(U 52).zero= .sl [] .full:=⟨rfl,rfl,rfl,rfl⟩
@[go_sem] theorem aa3:(U 53).k= .slice 138∧(U 53).sz=1∧(U 53).bytes=24∧(U 53).zero= .sl [] .full:=⟨rfl,rfl,rfl,rfl⟩
@[go_sem] theorem aa7:(U 54).k= .slice 141∧(U 54).sz=1∧(U 54).bytes=24∧(U 54).zero= .sl [] .full:=⟨rfl,rfl,rfl,rfl⟩
@[go_sem] theorem abb:(U 56).k= .slice 262∧(U 56).sz=1∧(U 56).bytes=24∧(U 56).zero= .sl [] .full:=⟨rfl,rfl,rfl,rfl⟩
@[go_sem] theorem abf:(U 57).k= .slice 210∧(U 57).sz=1∧(U 57).bytes=24∧(U 57).zero= .sl [] .full:=⟨rfl,rfl,rfl,rfl⟩
@[go_sem] theorem abj:(U 58).k= .slice 61∧(U 58).sz=1∧(U 58).bytes=24∧(U 58).zero= .sl [] .full:=⟨rfl,rfl,rfl,rfl⟩
@[go_sem] theorem abn:(U 59).k= .slice 131∧(U 59).sz=1∧(U 59).bytes=24∧(U 59).zero= .sl [] .full:=⟨rfl,rfl,rfl,rfl⟩
@[go_sem] theorem abr:(U 61).k= .strct [(0,9),(1,4),(2,3),(3,56),(4,57),(5,58),(6,59)]∧(U 61).sz=7∧(U 61).bytes=128∧(U 61).zero= .agg [.s [],.b false,.i 0,.sl [] .full,.sl [] .full,.sl [] .full,.sl [] .full]:=⟨rfl,rfl,rfl,rfl⟩
@[go_sem] theorem abw:(U 63).k= .strct [(0,3),(1,51),(2,52),(3,53),(4,54),(5,61),(12,3)]∧(U 63).sz=13∧(U 63).bytes=240∧(U 63).zero= .agg [.i 0,.sl [] .full,.sl [] .full,.sl [] .full,.sl [] .full,.s [],.b false,.i 0,.sl [] .full,.sl [] .full,.sl [] .full,.sl [] .full,.i 0]:=⟨rfl,rfl,rfl,rfl⟩
@[go_sem] theorem abA:(U 68).k= .strct [(0,39),(12,3),(13,31),(14,4),(15,59)]∧(U 68).sz=16∧(U 68).bytes=208∧(U 68).zero= .agg [.i 0,.s [],.s [],.s [],.s [],.i 0,.i 0,.s [],.i 0,.s [],.s [],.b false,.i 0,.v (.complex .f64 0 0),.b false,.sl [] .full]:=⟨rfl,rfl,rfl,rfl⟩
@[go_sem] theorem abE:(U 72).k= .slice 68∧(U 72).sz=1∧(U 72).bytes=24∧(U 72).zero= .sl [] .full:=⟨rfl,rfl,rfl,rfl⟩
@[go_sem] theorem abI:(U 87).k= .strct [(0,3),(1,37),(2,3),(3,3),(4,4)]∧(U 87).sz=5∧(U 87).bytes=56∧(U 87).zero= .agg [.i 0,.sl [] .full,.i 0,.i 0,.b false]:=⟨rfl,rfl,rfl,rfl⟩
@[go_sem] theorem abM:(U 88).k= .ptr 160∧(U 88).sz=1∧(U 88).bytes=8∧(U 88).zero= .v (.pointer none):=⟨rfl,rfl,rfl,rfl⟩
@[go_sem] theorem abQ:(U 92).k= .strct [(0,88),(1,63),(14,72),(15,48)]∧(U 92).sz=16∧(U 92).bytes=280∧(U 92).zero= .agg [.v (.pointer none),.i 0,.sl [] .full,.sl [] .full,.sl [] .full,.sl [] .full,.s [],.b false,.i 0,.sl [] .full,.sl [] .full,.sl [] .full,.sl [] .full,.i 0,.sl [] .full,.v (.int .u64 0)]:=⟨rfl,rfl,rfl,rfl⟩
@[go_sem] theorem W9:(U 101).k= .int .u32∧(U 101).sz=1∧(U 101).bytes=4∧(U 101).zero= .v (.int .u32 0):=⟨rfl,rfl,rfl,rfl⟩
@[go_sem] theorem Xd:(U 107).k= .strct [(0,31),(1,59)]∧(U 107).sz=2∧(U 107).bytes=40∧(U 107).zero= .agg [.v (.complex .f64 0 0),.sl [] .full]:=⟨rfl,rfl,rfl,rfl⟩
@[go_sem] theorem Xh:(U 111).k= .slice 182∧(U 111).sz=1∧(U 111).bytes=24∧(U 111).zero= .sl [] .full:=⟨rfl,rfl,rfl,rfl⟩
@[go_sem] theorem Xl:(U 119).k= .slice 201∧(U 119).sz=1∧(U 119).bytes=24∧(U 119).zero= .sl [] .full:=⟨rfl,rfl,rfl,rfl⟩
@[go_sem] theorem Xp:(U 120).k= .slice 191∧(U 120).sz=1∧(U 120).bytes=24∧(U 120).zero= .sl [] .full:=⟨rfl,rfl,rfl,rfl⟩
@[go_sem] theorem Xt:(U 122).k= .strct [(0,9),(1,9),(2,9),(3,119),(4,120)]∧(U 122).sz=5∧(U 122).bytes=96∧(U 122).zero= .agg [.s [],.s [],.s [],.sl [] .full,.sl [] .full]:=⟨rfl,rfl,rfl,rfl⟩
@[go_sem] theorem Xx:(U 131).k= .strct [(0,3),(1,3),(2,9)]∧(U 131).sz=3∧(U 131).bytes=32∧(U 131).zero= .agg [.i 0,.i 0,.s []]:=⟨rfl,rfl,rfl,rfl⟩
@[go_sem] theorem XB:(U 135).k= .strct [(0,3),(1,3),(2,9),(3,9),(4,9),(5,9),(6,4)]∧(U 135).sz=7∧(U 135).bytes=88∧(U 135).zero= .agg [.i 0,.i 0,.s [],.s [],.s [],.s [],.b false]:=⟨rfl,rfl,rfl,rfl⟩
@[go_sem] theorem XG:(U 138).k= .strct [(0,3),(1,9),(2,9)]∧(U 138).sz=3∧(U 138).bytes=40∧(U 138).zero= .agg [.i 0,.s [],.s []]:=⟨rfl,rfl,rfl,rfl⟩
@[go_sem] theorem XL:(U 141).k= .strct [(0,9),(1,9)]∧(U 141).sz=2∧(U 141).bytes=32∧(U 141).zero= .agg [.s [],.s []]∧(U 141).eq=some (1,[.str,.str]):=⟨rfl,rfl,rfl,rfl,rfl⟩
@[go_sem] theorem XP:(U 160).k= .strct [(0,23),(1,40),(2,4)]∧(U 160).sz=3∧(U 160).bytes=40∧(U 160).zero= .agg [.v (.pointer none),.sl [] .full,.b false]:=⟨rfl,rfl,rfl,rfl⟩
@[go_sem] theorem XT:(U 161).k= .int .u64∧(U 161).sz=1∧(U 161).bytes=8∧(U 161).zero= .v (.int .u64 0):=⟨rfl,rfl,rfl,rfl⟩
@[go_sem] theorem XX:(U 164).k= .slice 172∧(U 164).sz=1∧(U 164).bytes=24∧(U 164).zero= .sl [] .full:=⟨rfl,rfl,rfl,rfl⟩
@[go_sem] theorem X1:(U 169).k= .strct [(0,164),(1,3),(2,3),(3,24),(4,3)]∧(U 169).sz=5∧(U 169).bytes=56∧(U 169).zero= .agg [.sl [] .full,.i 0,.i 0,.i 0,.i 0]:=⟨rfl,rfl,rfl,rfl⟩
@[go_sem] theorem X5:(U 172).k= .strct [(0,3),(1,3),(2,3),(3,9)]∧(U 172).sz=4∧(U 172).bytes=40∧(U 172).zero= .agg [.i 0,.i 0,.i 0,.s []]:=⟨rfl,rfl,rfl,rfl⟩
@[go_sem] theorem X9:(U 179).k= .slice 33∧(U 179).sz=1∧(U 179).bytes=24∧(U 179).zero= .sl [] .full:=⟨rfl,rfl,rfl,rfl⟩
@[go_sem] theorem Yd:(U 182).k= .strct [(0,3),(1,9),(2,179)]∧(U 182).sz=3∧(U 182).bytes=48∧(U 182).zero= .agg [.i 0,.s [],.sl [] .full]:=⟨rfl,rfl,rfl,rfl⟩
@[go_sem] theorem Yh:(U 191).k= .strct [(0,3),(1,9),(2,9)]∧(U 191).sz=3∧(U 191).bytes=40∧(U 191).zero= .agg [.i 0,.s [],.s []]:=⟨rfl,rfl,rfl,rfl⟩
@[go_sem] theorem Yl:(U 201).k= .strct [(0,9),(1,33)]∧(U 201).sz=4∧(U 201).bytes=48∧(U 201).zero= .agg [.s [],.i 0,.i 0,.s []]:=⟨rfl,rfl,rfl,rfl⟩
@[go_sem] theorem Yp:(U 208).k= .slice 215∧(U 208).sz=1∧(U 208).bytes=24∧(U 208).zero= .sl [] .full:=⟨rfl,rfl,rfl,rfl⟩
@[go_sem] theorem Yt:(U 210).k= .strct [(0,9),(1,4),(2,56),(3,208),(4,59)]∧(U 210).sz=5∧(U 210).bytes=96∧(U 210).zero= .agg [.s [],.b false,.sl [] .full,.sl [] .full,.sl [] .full]:=⟨rfl,rfl,rfl,rfl⟩
@[go_sem] theorem Yy:(U 213).k= .strct [(0,3),(1,9),(2,4)]∧(U 213).sz=3∧(U 213).bytes=32∧(U 213).zero= .agg [.i 0,.s [],.b false]∧(U 213).eq=some (1,[.int .i64,.str,.bool]):=⟨rfl,rfl,rfl,rfl,rfl⟩
@[go_sem] theorem YC:(U 215).k= .strct [(0,3),(1,33),(4,213)]∧(U 215).sz=7∧(U 215).bytes=72∧(U 215).zero= .agg [.i 0,.i 0,.i 0,.s [],.i 0,.s [],.b false]:=⟨rfl,rfl,rfl,rfl⟩
@[go_sem] theorem YH:(U 245).k= .map 9 352∧(U 245).sz=1∧(U 245).bytes=8∧(U 245).zero= .v (.map none):=⟨rfl,rfl,rfl,rfl⟩
@[go_sem] theorem YL:(U 247).k= .strct [(0,245),(1,3)]∧(U 247).sz=2∧(U 247).bytes=16∧(U 247).zero= .agg [.v (.map none),.i 0]:=⟨rfl,rfl,rfl,rfl⟩
@[go_sem] theorem YQ:(U 252).k= .slice 3∧(U 252).sz=1∧(U 252).bytes=24∧(U 252).zero= .sl [] .full:=⟨rfl,rfl,rfl,rfl⟩
@[go_sem] theorem YU:(U 262).k= .slice 266∧(U 262).sz=1∧(U 262).bytes=24∧(U 262).zero= .sl [] .full:=⟨rfl,rfl,rfl,rfl⟩
@[go_sem] theorem YY:(U 265).k= .strct [(0,213),(3,3),(4,33)]∧(U 265).sz=7∧(U 265).bytes=72∧(U 265).zero= .agg [.i 0,.s [],.b false,.i 0,.i 0,.i 0,.s []]:=⟨rfl,rfl,rfl,rfl⟩
@[go_sem] theorem Y2:(U 266).k= .slice 265∧(U 266).sz=1∧(U 266).bytes=24∧(U 266).zero= .sl [] .full:=⟨rfl,rfl,rfl,rfl⟩
@[go_sem] theorem Y6:(U 273).k= .strct [(0,37),(1,3),(2,4)]∧(U 273).sz=3∧(U 273).bytes=40∧(U 273).zero= .agg [.sl [] .full,.i 0,.b false]:=⟨rfl,rfl,rfl,rfl⟩
@[go_sem] theorem Za:(U 288).k= .slice 107∧(U 288).sz=1∧(U 288).bytes=24∧(U 288).zero= .sl [] .full:=⟨rfl,rfl,rfl,rfl⟩
@[go_sem] theorem Ze:(U 323).k= .slice 31∧(U 323).sz=1∧(U 323).bytes=24∧(U 323).zero= .sl [] .full:=⟨rfl,rfl,rfl,rfl⟩
@[go_sem] theorem Zh:(U 352).k= .strct []∧(U 352).sz=0:=⟨rfl,rfl⟩
@[go_sem] theorem Zk:(U 355).k= .slice 4∧(U 355).sz=1∧(U 355).bytes=24∧(U 355).zero= .sl [] .full:=⟨rfl,rfl,rfl,rfl⟩
@[go_sem] theorem Zo:(U 361).k= .strct [(0,179),(1,33),(4,24)]∧(U 361).sz=5∧(U 361).bytes=64∧(U 361).zero= .agg [.sl [] .full,.i 0,.i 0,.s [],.i 0]:=⟨rfl,rfl,rfl,rfl⟩
@[go_sem] theorem Zs:(U 387).k= .slice 361∧(U 387).sz=1∧(U 387).bytes=24∧(U 387).zero= .sl [] .full:=⟨rfl,rfl,rfl,rfl⟩
theorem hU:∀t,aN Tryz.prog U t:=HF 425 ace fun t ht=>by
 unfold U;rw[List.getD_eq_getElem?_getD,List.getElem?_eq_none (show Ml.length≤t from ht)]
 rfl
theorem hm:Tryz.prog.follows .mixedOrders=true:=ace
end Go.Proofs.YtfdgemhnlennbaaGreatDoor
namespace Go.Proofs.YtfdgemhnlennbaaGreatDoor
open Go Go.Ab Go.Bf
theorem ab6 {f:FuncId} {fn:Func} {c:Code} {args:List AV} {h:Heap} {Q:AV→Heap→Prop} (hf:Tryz.prog.funcs[f]? =some fn) (m:Nat) (rs:List ResultVar) (hk:(∀x∈args,wfA x)→bx Tryz.prog U m c (xA args) h (vf U rs Q)) (hb:fn.body=some c:=by exact rfl) (hn:(fn.name=="runtime.NumGoroutine")=false:=by kernel_rfl) (h1:fn.ntmps=m:=by exact rfl) (h2:fn.results.toList=rs:=by exact rfl) (hl:args.length≤m:=by exact Nat.le_of_ble_eq_true rfl):ai Tryz.prog f args h Q:=ai.body hU hm hf hb hn m h1 rs h2 hl hk
theorem oR(l:Txt)(h:Heap):ai Tryz.prog 72 [.s l] h fun r h' =>r= .b (bp l)∧h' =h:=by
 refine ab6 Tryz.func72 49 [.tmp 2] fun hwf=>?_
 simp only[go_sem];refine .intro (fun m ρ h' =>h' =h∧∃i:Nat,i≤l.length∧m=l.length - i∧vh (l.take i)=true∧lk ρ 0=some (.s l)∧lk ρ 8=some (.i l.length)∧lk ρ 9=some (.i i)) l.length ?_ ?_
 ·refine⟨rfl,0,ab7,rfl,rfl,?_,?_,?_⟩<;>simp only[go_sem]
 ·rintro m ρ h' ⟨rfl,i,hi,rfl,hc,r0,r8,r9⟩
  simp only[go_sem,r8,r9];refine .intro (fun e=>?_) (fun e=>?_)
  ·have hlt:i<l.length:=ab4 e
   have w1:IntKind.i64.wrap ((i:Int)+1)=((i+1:Nat):Int):=by rw[bf _ (by have:=hwf (.s l) aci;simp only[wfA,wf1,lim]at this;omega)];omega
   have w0:IntKind.i64.wrap (0+1)=1:=rfl;have hb:=HP l i hlt;have hg:=Ew l i hlt;rw[hc]at hg;have hcl:=M1 l[i];have h255:=l[i].toNat_lt;simp only[go_sem,r0,r9];refine .at i hlt ?_;generalize hcc:l[i]=c at hb hg hcl h255⊢
   by_cases hi0:i=0
   ·subst hi0
    rcases hcl with⟨a1,a2,a3,a4,a5⟩|⟨a1,a2,a3,a4,a5⟩|⟨a1,a2,a3,a4,a5⟩|⟨a1,a2,a3,a4,a5⟩|⟨a1,a2,a3,a4,a5⟩|⟨a1,a2,a3,a4,a5⟩
    ·simp only[go_sem,r9,a1,a2,a3,a4,a5,w0]
     refine⟨_,?_,rfl,0+1,ab7,rfl,by simp[hg,sE,ltr,a1,a2],?_,?_,?_⟩
     ·omega
     all_goals simp only[go_sem,r0,r8]
    all_goals
     simp only[go_sem,a1,a2,a3,a4,a5];exact .same (.refl _) ⟨by simp[bp,hb (by simp[sE,ltr,a1,a2]),ax],rfl⟩
   ·have hin:((i:Int)==0)=false:=by simp;omega
    rcases hcl with⟨a1,a2,a3,a4,a5⟩|⟨a1,a2,a3,a4,a5⟩|⟨a1,a2,a3,a4,a5⟩|⟨a1,a2,a3,a4,a5⟩|⟨a1,a2,a3,a4,a5⟩|⟨a1,a2,a3,a4,a5⟩
    ·simp only[go_sem,r9,a1,a2,a3,a4,a5,w1]
     exact agM
    ·simp only[go_sem,r9,a1,a3,a4,w1,hin]
     exact agM
    ·simp only[go_sem,r9,a1,a3,a4,a5,w1,hin]
     exact agM
    ·simp only[go_sem,a1,a3,a5,hin]
     exact .same (.refl _) ⟨adN,rfl⟩
    ·simp only[go_sem,a1,a3,a4,a5,hin]
     exact .same (.refl _) ⟨adN,rfl⟩
    ·simp only[go_sem,a1,a2,a3,a4,a5,hin]
     exact .same (.refl _) ⟨adN,rfl⟩
  ·have hge:i=l.length:=by have:=ab0 e;omega
   subst hge;rw[List.take_length]at hc
   by_cases h0:l= []
   ·subst h0
    have b0:((([]:Txt)== [])=true):=rfl;simp only[go_sem,r0,b0];exact aco
   ·have b0:(l== [])=false:=by simpa using h0
    have hp:1≤l.length:=List.length_pos_iff.2 h0;simp only[go_sem,r0,b0];exact .same (.refl _) ⟨by simp[bp,hc,ax,hp];omega,rfl⟩
theorem Gc(a:pR)(h:Heap):ai Tryz.prog 313 [Cj a] h fun r h' =>r= .b (pX a)∧h' =h:=by
 refine ab6 Tryz.func313 16 [.tmp 2] fun hwf=>?_
 simp only[go_sem,Cj];intro id hid;cases d1:decide (1≤a.cat)
 ·simp only[go_sem,d1]
  exact ahl
 cases d2:decide (a.cat≤4)
 ·simp only[go_sem,d1,d2]
  exact ahl
 simp only[go_sem,d1,d2];refine(oR _ _).pthen ?_;simp only[go_sem];exact ahl
theorem gq(v:bz)(h:Heap):ai Tryz.prog 75 [aS v] h fun r h' =>r= .b (bB v)∧h' =h:=by
 refine ab6 Tryz.func75 61 [.tmp 2] fun hwf=>?_
 simp only[go_sem,aS];intro id hid;cases k1:(v.kind==1)
 case true=>
  have e1:v.kind=1:=ab8;cases d1:(v.n==0)<;>cases d2:(v.n==1)
  ·simp only[go_sem,k1,d1,d2]
   exact .mk _ (.refl _) (.aj hid) ⟨afo,rfl⟩
  all_goals
   simp only[go_sem,k1,d1,d2];exact .mk _ (.refl _) (.aj hid) ⟨afo,rfl⟩
 have n1:v.kind≠1:=ab8;cases k2:(v.kind==2)
 case true=>
  have e1:v.kind=2:=ab8;simp only[go_sem,k1,k2];exact .mk _ (.refl _) (.aj hid) ⟨afo,rfl⟩
 have n2:v.kind≠2:=ab8;cases k3:(v.kind==3)
 case true=>
  have e1:v.kind=3:=ab8;cases d1:(v.n==0)
  all_goals
   simp only[go_sem,k1,k2,k3,d1];exact .mk _ (.refl _) (.aj hid) ⟨by simp[bB,e1,d1,ax]<;>omega,rfl⟩
 have n3:v.kind≠3:=ab8;cases k4:(v.kind==4)
 case true=>
  have e1:v.kind=4:=ab8;cases d1:decide (0≤v.n)<;>cases d2:decide (v.n≤1099511627776)
  all_goals
   simp only[go_sem,k1,k2,k3,k4,d1,d2];exact .mk _ (.refl _) (.aj hid) ⟨afo,rfl⟩
 have n4:v.kind≠4:=ab8;cases k5:(v.kind==5)
 case true=>
  have e1:v.kind=5:=ab8;cases d1:(v.n==0)
  ·simp only[go_sem,k1,k2,k3,k4,k5,d1]
   exact .mk _ (.refl _) (.aj hid) ⟨afo,rfl⟩
  ·simp only[go_sem,k1,k2,k3,k4,k5,d1]
   refine(oR _ _).pthen ?_;simp only[go_sem];exact .mk _ (.refl _) (.aj hid) ⟨afo,rfl⟩
 have n5:v.kind≠5:=ab8;simp only[go_sem,k1,k2,k3,k4,k5];exact .mk _ (.refl _) (.aj hid) ⟨afo,rfl⟩
theorem Lj(m:bP)(h:Heap):ai Tryz.prog 312 [dO m] h fun r h' =>r= .b (kH m)∧h' =h:=by
 refine ab6 Tryz.func312 21 [.tmp 2] fun hwf=>?_
 simp only[go_sem,dO];intro id hid;simp only[go_sem];refine(Gc m.attr _).pthen ?_;cases d0:pX m.attr
 ·simp only[go_sem]
  exact agY
 cases d1:decide (1≤m.op)
 ·simp only[go_sem,d1]
  exact agY
 cases d2:decide (m.op≤3)
 ·simp only[go_sem,d1,d2]
  exact agY
 simp only[go_sem,d1,d2];refine(gq m.val _).pthen ?_;simp only[go_sem];exact agY
theorem GJ(n:Nat)(h:Heap):ai Tryz.prog 294 [.i n] h fun r h' =>r= .i (jZ n)∧h' =h:=by
 refine ab6 Tryz.func294 9 [.tmp 2] fun hwf=>?_
 cases d1:((n:Int)==0)
 case true=>
  simp only[go_sem,d1];exact .same (.refl _) ⟨by grind [jZ,ax],rfl⟩
 cases d2:decide (8<(n:Int))
 ·have e2:¬n>8:=by grind
  exact ahB
 ·have e2:n>8:=by grind
  exact ahB
theorem De{n:Nat}(h:jZ n=0):1≤n∧n≤8:=by
 grind [jZ]
theorem J6(l:List bP)(h:Heap):ai Tryz.prog 295 [iR l] h fun r h' =>r= .i (vW l)∧h' =h:=by
 refine ab6 Tryz.func295 22 [.tmp 2] fun hwf=>?_
 simp only[go_sem,iR,abX];refine(GJ _ _).pthen ?_;cases d1:(jZ l.length !=0)
 case true=>
  have e1:jZ l.length≠0:=ab8;simp only[go_sem,d1];exact .same (.refl _) ⟨by grind [vW,ax],rfl⟩
 have e1:jZ l.length=0:=ab8;have hlen:=De e1;simp only[go_sem,d1,abX];refine .intro (fun m ρ h' =>Ab.Sub h h'∧∃i:Nat,i≤l.length∧m=l.length - i∧(l.take i).all kH=true∧lk ρ 12=some (iR l)∧lk ρ 13=some (.i l.length)∧lk ρ 14=some (.i i)) l.length ?_ ?_
 ·refine⟨.refl _,0,ab7,rfl,rfl,?_,?_,?_⟩<;>simp only[go_sem,iR]
 ·rintro m ρ h' ⟨hs,i,hi,rfl,hc,r12,r13,r14⟩
  simp only[go_sem,r13,r14];refine .intro (fun e=>?_) (fun e=>?_)
  ·have hlt:i<l.length:=ab4 e
   have w1:IntKind.i64.wrap ((i:Int)+1)=((i+1:Nat):Int):=acn;simp only[go_sem,r12,r14,iR];refine .at i ab8 acq ?_;simp only[go_sem,abY,dO];intro id hid;simp only[go_sem];refine(Lj l[i] _).pthen ?_;cases d2:kH l[i]
   ·simp only[go_sem]
    refine .mk _ (.refl _) (hs.new hid _) ⟨?_,rfl⟩;have:l.all kH=false:=List.all_eq_false.2 ⟨_,ab2 hlt,ab8⟩;simp[vW,e1,this,ax]
   ·simp only[go_sem,r14,w1]
    refine⟨_,?_,hs.new hid _,i+1,ab7,rfl,?_,?_,?_,?_⟩
    ·omega
    ·grind [List.take_succ_eq_append_getElem]
    all_goals simp only[go_sem,r12,r13,iR]
  ·have hge:i=l.length:=by grind
   subst hge;rw[List.take_length]at hc;simp only[go_sem];exact .mk _ (.refl _) hs ⟨by grind [vW,ax],rfl⟩
theorem aC{h:Heap}{i j:Nat}{b:Blk}(e:upd h i (some b) j=none):h j=none:=by grind [ag,aH]
theorem Mr{v:bz}(h:(v.kind==(0:Int) && (v.n==(0:Int) && v.s==([]:Txt)))=false):¬v.kind=0∨¬v.n=0∨¬v.s= []:=by
 grind
theorem Mq{v:bz}(h:(v.kind==(0:Int) && (v.n==(0:Int) && v.s==([]:Txt)))=true):v.kind=0∧v.n=0∧v.s= []:=by
 grind
theorem I6(k:Int)(h:Heap):ai Tryz.prog 130 [.i k] h fun r h' =>r= .b (uA k)∧h' =h:=by
 refine ab6 Tryz.func130 9 [.tmp 2] fun hwf=>?_
 cases d1:decide (1≤k)
 ·simp only[go_sem,d1]
  exact .same (.refl _) ⟨by simp only[uA,d1,ax,Bool.false_and],rfl⟩
 ·simp only[go_sem,d1]
  exact .same (.refl _) ⟨by simp_all [uA,ax,Bool.true_and],rfl⟩
theorem xx(s:Txt)(h:Heap):ai Tryz.prog 74 [.s s] h fun r h' =>r= .b (iT s)∧h' =h:=by
 refine ab6 Tryz.func74 9 [.tmp 2] fun hwf=>?_
 cases d1:(s==([]:Txt))
 ·simp only[go_sem,d1]
  refine(oR s h).pthen ?_;simp only[go_sem];exact .same (.refl _) ⟨by simp_all [iT,ax,Bool.false_or],rfl⟩
 ·simp only[go_sem,d1]
  exact .same (.refl _) ⟨by simp_all [iT,ax,Bool.true_or],rfl⟩
theorem EZ(a b:Txt)(h:Heap):ai Tryz.prog 161 [.s a,.s b] h fun r h' =>r= .b (mw a b)∧h' =h:=by
 refine ab6 Tryz.func161 22 [.tmp 4] fun hwf=>?_
 cases d1:(a==jC)<;>cases d2:(a==vT)<;>cases d3:(a==z7)<;>cases d4:(b==vT)<;>simp only[jC,vT,z7]at d1 d2 d3 d4<;>simp only[go_sem,d1,d2,d3,d4]<;>
  exact .same (.refl _) ⟨by simp only[mw,d1,d2,d3,d4,ax,jC,vT,z7,gQ,if_true,Bool.false_eq_true,if_false,Bool.true_or,Bool.false_or],rfl⟩
theorem zS(k:Int)(hk:i64 k)(h:Heap):ai Tryz.prog 82 [.i k] h fun r h' =>r= .s (jH k)∧h' =h:=by
 refine ab6 Tryz.func82 18 [.tmp 2] fun hwf=>?_
 simp only[go_sem];cases d1:decide (k<1)
 case true=>
  simp only[go_sem];exact .same (.refl _) ⟨by simp_all [jH,abZ,true_or,if_true,ax],rfl⟩
 cases d2:decide ((7:Int)<k)
 case true=>
  simp only[go_sem,d2];exact .same (.refl _) ⟨by simp_all [jH,abZ,or_true,if_true,ax],rfl⟩
 have h1:=ab0 d1;have h2:=ab0 d2;obtain⟨j,rfl⟩:∃j:Nat,k=(j:Int)+1:=⟨(k - 1).toNat,ab7⟩;have hj:j<7:=ab7;have w1:IntKind.i64.wrap ((j:Int)+1 - 1)=(j:Int):=acn;simp only[go_sem,d2,w1];refine .at j ab7 (by rcases j with _|_|_|_|_|_|_|j<;>first|rfl|omega) ?_
 rcases j with _|_|_|_|_|_|_|j
 all_goals first|omega|skip
 all_goals
  simp only[go_sem,List.getElem_cons_zero,List.getElem_cons_succ];exact .same (.refl _) ⟨acr,rfl⟩
theorem Ji(o:OpD)(h:Heap):ai Tryz.prog 73 [opA o] h fun r h' =>r= .v (.bool (lU o))∧h' =h:=by
 refine ab6 Tryz.func73 23 [.tmp 2] fun hwf=>?_
 simp only[go_sem,opA,opC];intro id hid;cases d1:o.glass
 ·simp only[go_sem]
  exact ahm
 simp only[go_sem];refine(I6 _ _).pthen ?_;cases d2:uA o.kind
 ·simp only[go_sem]
  exact ahm
 cases d3:(o.reason==([]:Txt))
 ·simp only[go_sem,d3]
  exact .mk _ (.refl _) (.aj hid) ⟨by
   simp only[lU,d1,d2,d3,ax,if_true,Bool.not_false,Bool.true_and]
   congr 2
   grind,rfl⟩
 ·simp only[go_sem,d3]
  exact ahm
theorem MX(o:OpD)(h:Heap):ai Tryz.prog 131 [opA o] h fun r h' =>r=opA (gN o)∧h' =h:=by
 refine ab6 Tryz.func131 7 [.cell 2 39] fun hwf=>?_
 simp only[go_sem,opA,opC];intro i1 h1;simp only[go_sem];intro i2 h2;have hne:=aH h2;simp only[go_sem,ak,hne,hne.symm];have n2:=aC h2;exact .mk _ (.refl _) (((((Sub.refl h).put h1 _).put n2 _).put h1 _).put n2 _) ⟨rfl,rfl⟩
theorem Me(o:OpD)(h:Heap):ai Tryz.prog 76 [opA o] h fun r h' =>r= .b (dP o)∧h' =h:=by
 have hb:=fun hh=>MX o hh
 simp only[gN,opA,opC]at hb;refine ab6 Tryz.func76 111 [.tmp 2] fun hwf=>?_
 simp -implicitDefEqProofs only[go_sem,opA,opC];intro i1 h1;simp -implicitDefEqProofs only[go_sem];refine(hb _).pthen ?_;simp -implicitDefEqProofs only[go_sem];intro i3 h3;have n31:=aH h3;have n3:=aC h3;simp -implicitDefEqProofs only[go_sem,ak,n31.symm];intro i4 h4;have n43:=aH h4;have h4' :=aC h4;have n41:=aH h4';have n4:=aC h4';have bnd:o.kind≠1→o.kind≠2→o.kind≠3→o.kind≠4→o.kind≠5→o.kind≠6→o.kind≠7→o.kind≠8→(decide (1≤o.kind) && decide (o.kind≤8))=false:=by
  intro a1 a2 a3 a4 a5 a6 a7 a8;simp only[Bool.and_eq_false_iff,decide_eq_false_iff_not];omega
 by_cases k1:o.kind=1
 ·simp -implicitDefEqProofs only[go_sem,ak,n31.symm,n41.symm,k1]
  cases dcase:(o.case==([]:Txt))
  ·simp -implicitDefEqProofs only[go_sem,ak,n43.symm]
   exact .mk _ (.refl _) acg ⟨by simp[dP,okD,iO,gN,mM,au,ax,k1,decide_true,dcase,Bool.and_true,Bool.true_and,Bool.not_false],rfl⟩
  ·simp -implicitDefEqProofs only[go_sem]
   exact .mk _ (.refl _) acg ⟨by simp[dP,okD,iO,gN,mM,au,ax,k1,decide_true,dcase,Bool.and_true,Bool.true_and,Bool.false_and,Bool.and_false,Bool.not_true],rfl⟩
 by_cases k2:o.kind=2
 ·simp -implicitDefEqProofs only[go_sem,ak,n31.symm,n41.symm,k2,Int.reduceBEq]
  refine .calls (hm1 i1 _) [0,1,2,3,4,5,6,7] (.hm1 adP) ace rfl ?_;simp -implicitDefEqProofs only[go_sem,ak,n31.symm,n41.symm];refine⟨(.hm1 acA),(.hm1 acA),?_⟩;cases dcase:(o.case==([]:Txt))
  ·simp -implicitDefEqProofs only[go_sem,ak,n31.symm,n41.symm]
   cases dfield:(o.field==([]:Txt))
   ·simp -implicitDefEqProofs only[go_sem,ak,n43.symm]
    exact .mk _ (.refl _) acg ⟨by simp[dP,okD,iO,gN,mM,au,ax,k2,decide_true,dcase,dfield,Bool.and_true,Bool.true_and,Bool.not_false],rfl⟩
   ·simp -implicitDefEqProofs only[go_sem]
    exact .mk _ (.refl _) acg ⟨by simp[dP,okD,iO,gN,mM,au,ax,k2,decide_true,dcase,dfield,Bool.and_true,Bool.true_and,Bool.false_and,Bool.and_false,Bool.not_true,Bool.not_false],rfl⟩
  ·simp -implicitDefEqProofs only[go_sem]
   exact .mk _ (.refl _) acg ⟨by simp[dP,okD,iO,gN,mM,au,ax,k2,decide_true,dcase,Bool.and_true,Bool.true_and,Bool.false_and,Bool.and_false,Bool.not_true],rfl⟩
 by_cases k6:o.kind=6
 ·simp -implicitDefEqProofs only[go_sem,ak,n31.symm,n41.symm,k6,Int.reduceBEq]
  refine .calls (hm1 i1 _) [0,1,2,3,4,5,6,7] (.hm1 adP) ace rfl ?_;simp -implicitDefEqProofs only[go_sem,ak,n31.symm,n41.symm];refine⟨(.hm1 acA),(.hm1 acA),?_⟩;cases dcase:(o.case==([]:Txt))
  ·simp -implicitDefEqProofs only[go_sem,ak,n31.symm,n41.symm]
   cases dfield:(o.field==([]:Txt))
   ·simp -implicitDefEqProofs only[go_sem,ak,n43.symm]
    exact .mk _ (.refl _) acg ⟨by simp[dP,okD,iO,gN,mM,au,ax,k6,decide_true,dcase,dfield,Bool.and_true,Bool.true_and,Bool.not_false],rfl⟩
   ·simp -implicitDefEqProofs only[go_sem]
    exact .mk _ (.refl _) acg ⟨by simp[dP,okD,iO,gN,mM,au,ax,k6,decide_true,dcase,dfield,Bool.and_true,Bool.true_and,Bool.false_and,Bool.and_false,Bool.not_true,Bool.not_false],rfl⟩
  ·simp -implicitDefEqProofs only[go_sem]
   exact .mk _ (.refl _) acg ⟨by simp[dP,okD,iO,gN,mM,au,ax,k6,decide_true,dcase,Bool.and_true,Bool.true_and,Bool.false_and,Bool.and_false,Bool.not_true],rfl⟩
 by_cases k3:o.kind=3
 ·simp -implicitDefEqProofs only[go_sem,ak,n31.symm,n41.symm,k3,Int.reduceBEq]
  refine .calls (hm1 i1 _) [0,1,2,3,4,5,6,7,8,9,10,11] (.hm1 adP) ace rfl ?_;simp -implicitDefEqProofs only[go_sem,ak,n31.symm,n41.symm];refine⟨(.hm1 acA),(.hm1 acA),(.hm1 acA),?_⟩;cases dcase:(o.case==([]:Txt))
  ·simp -implicitDefEqProofs only[go_sem,ak,n31.symm,n41.symm]
   cases dfield:(o.field==([]:Txt))
   ·simp -implicitDefEqProofs only[go_sem,ak,n31.symm,n41.symm]
    cases dval:(o.val.kind==(0:Int) && (o.val.n==(0:Int) && o.val.s==([]:Txt)))
    ·simp -implicitDefEqProofs only[go_sem,ak,n43.symm]
     exact .mk _ (.refl _) acg ⟨acG,rfl⟩
    ·simp -implicitDefEqProofs only[go_sem]
     exact .mk _ (.refl _) acg ⟨acG,rfl⟩
   ·simp -implicitDefEqProofs only[go_sem]
    exact .mk _ (.refl _) acg ⟨by simp[dP,okD,iO,gN,mM,eqV,au,ax,k3,decide_true,dcase,dfield,Bool.and_true,Bool.true_and,Bool.false_and,Bool.and_false,Bool.not_true,Bool.not_false],rfl⟩
  ·simp -implicitDefEqProofs only[go_sem]
   exact .mk _ (.refl _) acg ⟨by simp[dP,okD,iO,gN,mM,eqV,au,ax,k3,decide_true,dcase,Bool.and_true,Bool.true_and,Bool.false_and,Bool.and_false,Bool.not_true],rfl⟩
 by_cases k4:o.kind=4
 ·simp -implicitDefEqProofs only[go_sem,ak,n31.symm,n41.symm,k4,Int.reduceBEq]
  refine .calls (hm1 i1 _) [0,1,2,3,4,5,6,7] (.hm1 adP) ace rfl ?_;simp -implicitDefEqProofs only[go_sem,ak,n31.symm,n41.symm];refine⟨(.hm1 acA),(.hm1 acA),?_⟩;cases dcase:(o.case==([]:Txt))
  ·simp -implicitDefEqProofs only[go_sem,ak,n31.symm,n41.symm]
   cases dto:(o.to==([]:Txt))
   ·simp -implicitDefEqProofs only[go_sem,ak,n43.symm]
    exact .mk _ (.refl _) acg ⟨by simp[dP,okD,iO,gN,mM,au,ax,k4,decide_true,dcase,dto,Bool.and_true,Bool.true_and,Bool.not_false],rfl⟩
   ·simp -implicitDefEqProofs only[go_sem]
    exact .mk _ (.refl _) acg ⟨by simp[dP,okD,iO,gN,mM,au,ax,k4,decide_true,dcase,dto,Bool.and_true,Bool.true_and,Bool.false_and,Bool.and_false,Bool.not_true,Bool.not_false],rfl⟩
  ·simp -implicitDefEqProofs only[go_sem]
   exact .mk _ (.refl _) acg ⟨by simp[dP,okD,iO,gN,mM,au,ax,k4,decide_true,dcase,Bool.and_true,Bool.true_and,Bool.false_and,Bool.and_false,Bool.not_true],rfl⟩
 by_cases k5:o.kind=5
 ·simp -implicitDefEqProofs only[go_sem,ak,n31.symm,n41.symm,k5,Int.reduceBEq]
  cases drev0:decide ((0:Int)<o.review)
  ·simp -implicitDefEqProofs only[go_sem]
   exact .mk _ (.refl _) acg ⟨by simp[dP,okD,iO,gN,mM,au,ax,k5,decide_true,drev0,Bool.and_true,Bool.true_and,Bool.false_and,Bool.and_false],rfl⟩
  ·simp -implicitDefEqProofs only[go_sem,ak,n43.symm]
   exact .mk _ (.refl _) acg ⟨by simp[dP,okD,iO,gN,mM,au,ax,k5,decide_true,drev0,Bool.and_true,Bool.true_and],rfl⟩
 by_cases k7:o.kind=7
 ·simp -implicitDefEqProofs only[go_sem,ak,n31.symm,n43.symm,n41.symm,k7,Int.reduceBEq]
  exact .mk _ (.refl _) acg ⟨by simp[dP,okD,iO,gN,mM,au,ax,k7,decide_true,Bool.and_true,Bool.true_and],rfl⟩
 by_cases k8:o.kind=8
 ·simp -implicitDefEqProofs only[go_sem,ak,n31.symm,n41.symm,k8,Int.reduceBEq]
  cases drev0:decide ((0:Int)<o.review)
  ·simp -implicitDefEqProofs only[go_sem]
   exact .mk _ (.refl _) acg ⟨by simp[dP,okD,iO,gN,mM,au,ax,k8,decide_true,drev0,Bool.and_true,Bool.true_and,Bool.false_and,Bool.and_false],rfl⟩
  ·simp -implicitDefEqProofs only[go_sem,ak,n31.symm,n41.symm]
   cases drev1:decide (o.review≤(1099511627776:Int))
   ·simp -implicitDefEqProofs only[go_sem]
    exact .mk _ (.refl _) acg ⟨by simp[dP,okD,iO,gN,mM,au,ax,k8,decide_true,drev0,drev1,Bool.and_true,Bool.true_and,Bool.false_and,Bool.and_false],rfl⟩
   ·simp -implicitDefEqProofs only[go_sem,ak,n43.symm]
    exact .mk _ (.refl _) acg ⟨by simp[dP,okD,iO,gN,mM,au,ax,k8,decide_true,drev0,drev1,Bool.and_true,Bool.true_and],rfl⟩
 simp -implicitDefEqProofs only[go_sem,ak,n31.symm,n41.symm,beq_eq_false_iff_ne.2 k1,beq_eq_false_iff_ne.2 k2,beq_eq_false_iff_ne.2 k6,beq_eq_false_iff_ne.2 k3,beq_eq_false_iff_ne.2 k4,beq_eq_false_iff_ne.2 k5,beq_eq_false_iff_ne.2 k7,beq_eq_false_iff_ne.2 k8];exact .mk _ (.refl _) acg ⟨by simp only[dP,bnd k1 k2 k3 k4 k5 k6 k7 k8,Bool.false_and,ax],rfl⟩
theorem Gs(o:OpD)(h:Heap):ai Tryz.prog 29 [opA o] h fun r h' =>r= .b (dF o)∧h' =h:=by
 have hr:=fun hh=>Ji o hh
 have ht:=fun hh=>Me o hh
 have hv:=fun hh=>gq o.val hh
 simp only[opA,opC,aS]at hr ht hv;refine ab6 Tryz.func29 48 [.tmp 2] fun hwf=>?_
 simp -implicitDefEqProofs only[go_sem,opA,opC];intro i1 h1;simp -implicitDefEqProofs only[go_sem];refine(oR o.subj _).pthen ?_;cases d1:bp o.subj
 ·simp -implicitDefEqProofs only[go_sem]
  exact .mk _ (.refl _) (.aj h1) ⟨by simp_all [dF,Bool.false_and,ax],rfl⟩
 simp -implicitDefEqProofs only[go_sem];refine(hr _).pthen ?_;cases d2:lU o
 ·exact agG
 cases d3:decide ((4096:Int)<(o.text.length:Int))
 case true=>
  have e3:decide (o.text.length≤4096)=false:=decide_eq_false ab8;simp -implicitDefEqProofs only[go_sem,d3];exact .mk _ (.refl _) (.aj h1) ⟨by simp only[dF,d1,d2,e3,Bool.false_and,Bool.true_and,ax],rfl⟩
 have e3:decide (o.text.length≤4096)=true:=decide_eq_true ab8;simp -implicitDefEqProofs only[go_sem,d3];refine(xx o.case _).pthen ?_;cases d4:iT o.case
 ·exact agG
 simp -implicitDefEqProofs only[go_sem];refine(xx o.field _).pthen ?_;cases d5:iT o.field
 ·exact agG
 simp -implicitDefEqProofs only[go_sem];refine(xx o.to _).pthen ?_;cases d6:iT o.to
 ·exact agG
 cases d7:(o.val.kind==(0:Int) && (o.val.n==(0:Int) && o.val.s==([]:Txt)))
 ·simp -implicitDefEqProofs only[go_sem,d7]
  refine(hv _).pthen ?_;have e7:eqV o.val au=false:=d7;cases d8:bB o.val
  ·simp -implicitDefEqProofs only[go_sem]
   exact .mk _ (.refl _) (.aj h1) ⟨by simp_all [dF,Bool.or_self,Bool.false_and,Bool.true_and,ax],rfl⟩
  simp -implicitDefEqProofs only[go_sem];refine(ht _).pthen ?_;simp -implicitDefEqProofs only[go_sem];exact .mk _ (.refl _) (.aj h1) ⟨by simp_all [dF,Bool.false_or,Bool.true_and,ax],rfl⟩
 ·simp -implicitDefEqProofs only[go_sem,d7]
  have e7:eqV o.val au=true:=d7;refine(ht _).pthen ?_;simp -implicitDefEqProofs only[go_sem];exact .mk _ (.refl _) (.aj h1) ⟨by simp_all [dF,Bool.true_or,Bool.true_and,ax],rfl⟩
end Go.Proofs.YtfdgemhnlennbaaGreatDoor
namespace Go.Bf
open Go Go.Ab
def ixD{α:Type}(q:α→Bool)(l:List α):Int:=if l.findIdx q<l.length then(l.findIdx q:Nat)else -1
theorem nJ{α:Type}{q:α→Bool}{l:List α}{i:Nat}(hi:i<l.length)(h1:q l[i]=true)(h2:∀j (hj:j<i),q (l[j]'ab7)=false):ixD q l=(i:Nat):=by
 have e:l.findIdx q=i:=by grind [List.findIdx_eq]
 rw[ixD,e,if_pos hi]
theorem jb{α:Type}{q:α→Bool}{l:List α}(h:∀j (hj:j<l.length),q l[j]=false):ixD q l= -1:=by
 have e:l.findIdx q=l.length:=ab8;rw[ixD,e,if_neg (Nat.lt_irrefl _)]
end Go.Bf
namespace Go.Proofs.YtfdgemhnlennbaaGreatDoor
open Go Go.Ab Go.Bf
theorem uq{α:Type}(y:AV)(xs:List AV)(ds:List α)(q:α→Bool)(g:FuncId)(cap:List AV)(h:Heap)(hb:Rd h 5 y xs)(hn:xs.length=ds.length)(hl:xs.length≤1000000000)(hx:∀x∈xs,bA x=true)
  (hp:∀i (h1:i<xs.length) (h2:i<ds.length),ai Tryz.prog g (xs[i]::cap) h fun r h' =>r= .b (q ds[i])∧h' =h):
  ai Tryz.prog 159 [y,.fn g cap] h fun r h' =>r= .i (ixD q ds)∧h' =h:=by
 refine ab6 Tryz.func159 19 [.tmp 4] fun hwf=>?_
 simp only[go_sem,hb.len];refine .intro (fun m ρ h' =>h' =h∧∃i:Nat,i≤xs.length∧m=xs.length - i∧(∀j (hj:j<i) (h2:j<ds.length),q ds[j]=false)∧lk ρ 0=some y∧lk ρ 1=some (.fn g cap)∧lk ρ 7=some (.i xs.length)∧lk ρ 8=some (.i i)) xs.length ?_ ?_
 ·refine⟨rfl,0,ab7,rfl,fun j hj=>ab7,?_,?_,?_,?_⟩<;>simp only[go_sem]
 ·rintro m ρ h' ⟨rfl,i,hi,rfl,hc,r0,r1,r7,r8⟩
  simp only[go_sem,r7,r8];refine .intro (fun e=>?_) (fun e=>?_)
  ·have hlt:i<xs.length:=ab4 e
   have hlt2:i<ds.length:=ab7;have w1:IntKind.i64.wrap ((i:Int)+1)=((i+1:Nat):Int):=acn;simp only[go_sem,r0,r1,r8];refine hb.idx (e:=122) i rfl hlt acr acd fun p hp1=>?_
   have hld:=hp1.all (U:=U) (ty:=122) acd ac4 adV;simp only[go_sem,hld];refine(show ai Tryz.prog g (xs[i]::cap) _ _ from hp i hlt hlt2).pthen ?_
   cases d1:q ds[i]
   ·simp only[go_sem,r8,w1]
    refine⟨_,?_,rfl,i+1,ab7,rfl,fun j hj h2=>?_,?_,?_,?_,?_⟩
    ·omega
    ·grind
    all_goals simp only[go_sem,r0,r1,r7]
   ·simp only[go_sem]
    exact .same (.refl _) ⟨acS,rfl⟩
  ·have hge:i=xs.length:=by grind
   simp only[go_sem];exact .same (.refl _) ⟨acF,rfl⟩
theorem xU{α:Type}(y:AV)(xs:List AV)(ds:List α)(q:α→Bool)(g:FuncId)(cap:List AV)(h:Heap)(hb:Rd h 4 y xs)(hn:xs.length=ds.length)(hl:xs.length≤1000000000)(hx:∀x∈xs,bA x=true)
  (hp:∀i (h1:i<xs.length) (h2:i<ds.length),ai Tryz.prog g (xs[i]::cap) h fun r h' =>r= .b (q ds[i])∧h' =h):
  ai Tryz.prog 121 [y,.fn g cap] h fun r h' =>r= .i (ixD q ds)∧h' =h:=by
 refine ab6 Tryz.func121 19 [.tmp 4] fun hwf=>?_
 simp only[go_sem,hb.len];refine .intro (fun m ρ h' =>h' =h∧∃i:Nat,i≤xs.length∧m=xs.length - i∧(∀j (hj:j<i) (h2:j<ds.length),q ds[j]=false)∧lk ρ 0=some y∧lk ρ 1=some (.fn g cap)∧lk ρ 7=some (.i xs.length)∧lk ρ 8=some (.i i)) xs.length ?_ ?_
 ·refine⟨rfl,0,ab7,rfl,fun j hj=>ab7,?_,?_,?_,?_⟩<;>simp only[go_sem]
 ·rintro m ρ h' ⟨rfl,i,hi,rfl,hc,r0,r1,r7,r8⟩
  simp only[go_sem,r7,r8];refine .intro (fun e=>?_) (fun e=>?_)
  ·have hlt:i<xs.length:=ab4 e
   have hlt2:i<ds.length:=ab7;have w1:IntKind.i64.wrap ((i:Int)+1)=((i+1:Nat):Int):=acn;simp only[go_sem,r0,r1,r8];refine hb.idx (e:=201) i rfl hlt acr acd fun p hp1=>?_
   have hld:=hp1.all (U:=U) (ty:=201) acd ac4 adV;simp only[go_sem,hld];refine(show ai Tryz.prog g (xs[i]::cap) _ _ from hp i hlt hlt2).pthen ?_
   cases d1:q ds[i]
   ·simp only[go_sem,r8,w1]
    refine⟨_,?_,rfl,i+1,ab7,rfl,fun j hj h2=>?_,?_,?_,?_,?_⟩
    ·omega
    ·grind
    all_goals simp only[go_sem,r0,r1,r7]
   ·simp only[go_sem]
    exact .same (.refl _) ⟨acS,rfl⟩
  ·have hge:i=xs.length:=by grind
   simp only[go_sem];exact .same (.refl _) ⟨acF,rfl⟩
def RdC(h:Heap)(x:AV)(c:aL):Prop:=∃f l,x= .agg [.s c.id,.s c.owner,.s c.state,f,l]∧Rd h 4 f (c.fields.map bN)∧Rd h 3 l (c.log.map iF)
def zj(h:Heap)(y:AV)(cs:List aL):Prop:=∃xs,Rd h 5 y xs∧xs.length=cs.length∧∀i (h1:i<xs.length) (h2:i<cs.length),RdC h xs[i] cs[i]
def RdS(h:Heap)(x:AV)(s:an):Prop:=∃y1 y2 y3 y4,x= .agg ([.i s.tick,y1,y2,y3,y4]++fW s.policy++ [.i s.version])∧zj h y1 s.cases∧Rd h 7 y2 (s.reviews.map iK)∧Rd h 3 y3 (s.notices.map mN)∧Rd h 2 y4 (s.roles.map eL)
theorem RdC.sub{h h' :Heap}{x:AV}{c:aL}(hb:RdC h x c)(hs:Ab.Sub h h'):RdC h' x c:=by
 obtain⟨f,l,e,h1,h2⟩:=hb;exact⟨f,l,e,h1.sub hs,h2.sub hs⟩
theorem zj.sub{h h' :Heap}{y:AV}{cs:List aL}(hb:zj h y cs)(hs:Ab.Sub h h'):zj h' y cs:=by
 obtain⟨xs,h1,h2,h3⟩:=hb;exact⟨xs,h1.sub hs,h2,fun i a b=>(h3 i a b).sub hs⟩
theorem RdS.sub{h h' :Heap}{x:AV}{s:an}(hb:RdS h x s)(hs:Ab.Sub h h'):RdS h' x s:=by
 obtain⟨y1,y2,y3,y4,e,h1,h2,h3,h4⟩:=hb;exact⟨y1,y2,y3,y4,e,h1.sub hs,h2.sub hs,h3.sub hs,h4.sub hs⟩
theorem bu{α:Type}{f:α→AV}{n:Nat}(hf:∀a,(f a).cells.length=n)(l:List α):Sized n (l.map f):=fun z hz=>by
 grind
theorem oC{α:Type}{f:α→AV}(hf:∀a,bA (f a)=true)(l:List α):∀x∈l.map f,bA x=true:=fun z hz=>by
 obtain⟨a,_,rfl⟩:=List.mem_map.1 hz;exact hf a
theorem eR{α:Type}(f:α→AV)(n:Nat)(hf:∀a,(f a).cells.length=n)(h:Heap)(l:List α):Rd h n (.sl (l.map f) .no) (l.map f):=.sl (bu hf l) _
theorem rdC(h:Heap)(c:aL):RdC h (cr c) c:=⟨_,_,rfl,eR bN 4 (fun _=>rfl) h _,eR iF 3 (fun _=>rfl) h _⟩
theorem WX(h:Heap)(cs:List aL):zj h (fZ cs) cs:=⟨_,eR cr 5 (fun _=>rfl) h cs,aci,fun i h1 h2=>by grind [rdC]⟩
theorem rdS(h:Heap)(s:an):RdS h (cK s) s:=⟨_,_,_,_,rfl,WX h _,eR iK 7 (fun _=>rfl) h _,eR mN 3 (fun _=>rfl) h _,eR eL 2 (fun _=>rfl) h _⟩
theorem RdC.agg{h:Heap}{x:AV}{c:aL}(hb:RdC h x c):bA x=true:=by
 obtain⟨f,l,rfl,_⟩:=hb;rfl
theorem zj.agg{h:Heap}{xs:List AV}{cs:List aL}(hn:xs.length=cs.length)(hb:∀i (h1:i<xs.length) (h2:i<cs.length),RdC h xs[i] cs[i]):∀x∈xs,bA x=true:=fun x hx=>by
 obtain⟨i,hi,rfl⟩:=List.mem_iff_getElem.1 hx;exact(hb i hi ab7).agg
theorem nq:(U 122).sz=5:=acr
theorem FX:(U 201).sz=4:=acr
theorem JH:(U 9).sz≠0:=acd
theorem Mo:(U 9).sz=1:=acr
theorem KH{h:Heap}{x:AV}{c:aL}(hb:RdC h x c){k:Nat}{id:Txt}(hk:h k=some (.obj [.s id] 9)):ai Tryz.prog 160 [x,.ptr k 0] h fun r h' =>r= .b (geB c.id id)∧h' =h:=by
 obtain⟨f,l,rfl,hf,hl⟩:=hb;refine ab6 Tryz.func160 8 [.tmp 3] fun hwf=>?_
 simp only[go_sem];exact agt
structure Few (s:an):Prop where
 cases:s.cases.length≤1000000
 fields:∀c∈s.cases,c.fields.length≤1000000
 log:∀c∈s.cases,c.log.length≤1000000
 reviews:s.reviews.length≤1000000
 notices:s.notices.length≤1000000
 roles:s.roles.length≤1000000
theorem jD{cs:List aL}{id:Txt}(h:bY cs id=true):findD cs id<cs.length:=by
 grind [bY,List.getElem?_eq_some_iff]
theorem JA{cs:List aL}{id:Txt}(h:findD cs id<cs.length):bY cs id=(cs[findD cs id].id==id):=by
 grind [bY,List.getElem?_eq_getElem]
theorem JB{cs:List aL}{id:Txt}(h:¬findD cs id<cs.length):bY cs id=false:=by
 grind [bY,List.getElem?_eq_none]
theorem Bx{h:Heap}{x:AV}{s:an}(hb:RdS h x s)(id:Txt)(hl:s.cases.length≤1000000):ai Tryz.prog 100 [x,.s id] h fun r h' =>r= .tup [.i (findD s.cases id:Nat),.b (bY s.cases id)]∧h' =h:=by
 obtain⟨y1,y2,y3,y4,rfl,⟨xs,hc,hn,hcs⟩,h2,h3,h4⟩:=hb;cases hp:s.policy with
 |mk pid pset palg ptgt prules pkids pobls=>
 refine ab6 Tryz.func100 25 [.tmp 4,.tmp 5] fun hwf=>?_
 simp only[go_sem,fW,List.cons_append,List.nil_append];intro i1 h1;simp only[go_sem];intro i2 h2;have n21:=aH h2;have n2:=aC h2;have hs:∀a b,Ab.Sub h (upd (upd h i1 a) i2 b):=fun a b=>((Sub.refl h).put h1 a).put n2 b
 simp only[go_sem,ak,n21.symm];refine(uq y1 xs s.cases (fun c=>geB c.id id) _ [.ptr i2 0] _ (hc.sub (hs _ _)) hn ab7 (zj.agg hn hcs) fun i a b=>KH ((hcs i a b).sub (hs _ _)) (ah ..)).pthen ?_
 by_cases hf:findD s.cases id<s.cases.length
 ·have e1:ixD (fun c=>geB c.id id) s.cases=(findD s.cases id:Nat):=by rw[ixD];exact if_pos hf
  have d1:decide (((findD s.cases id:Nat):Int)<0)=false:=decide_eq_false ab7;rw[e1];simp only[go_sem,ak,n21.symm,d1];refine⟨.of ace,?_⟩;obtain⟨f,l,ex,hfl,hlg⟩:=hcs (findD s.cases id) ab7 hf;refine hc.idx (e:=122) (findD s.cases id) rfl ab7 nq acd fun p hp1=>?_
  simp only[go_sem];refine hp1.field (f:=0) (off:=0) (t:=9) rfl JH fun p2 hp2=>?_
  have hld:=fun a b=>(hp2.sub (hs a b)).part (U:=U) (ty:=9) JH (by rw[ex,Mo];exact abW rfl)
  simp only[go_sem,hld,ex];exact .mk _ (.refl _) (hs _ _) ⟨by rw[JA hf];rfl,rfl⟩
 ·have e1:ixD (fun c=>geB c.id id) s.cases= -1:=by rw[ixD];exact if_neg hf
  have e2:findD s.cases id=s.cases.length:=by
   grind [findD,List.findIdx_le_length]
  have d1:decide ((-1:Int)<0)=true:=rfl;rw[e1];simp only[go_sem,ak,n21.symm,d1];simp only[go_sem,hc.len];exact .mk _ (.refl _) (hs _ _) ⟨by rw[JB hf,e2,hn];rfl,rfl⟩
theorem Hx:(U 141).sz=2:=acr
theorem IU(y:AV)(ds:List gV)(r:gV)(h:Heap)(hb:Rd h 2 y (ds.map eL))(hl:ds.length≤1000000000):
  ai Tryz.prog 205 [y,eL r] h fun x h' =>x= .i (ixD (ud r) ds)∧h' =h:=by
 refine ab6 Tryz.func205 19 [.tmp 4] fun hwf=>?_
 simp only[go_sem,eL];intro i1 h1;have hs:∀a,Ab.Sub h (upd h i1 a):=fun a=>(Sub.refl h).put h1 a
 simp only[go_sem,hb.len,abX];refine .intro (fun m ρ h' =>h' =upd h i1 (some (.obj [.s r.subj,.s r.role] 141))∧∃i:Nat,i≤ds.length∧m=ds.length - i∧(∀j (hj:j<i) (h2:j<ds.length),ud r ds[j]=false)∧lk ρ 0=some y∧lk ρ 3=some (.ptr i1 0)∧lk ρ 7=some (.i ds.length)∧lk ρ 8=some (.i i)) ds.length ?_ ?_
 ·refine⟨rfl,0,ab7,rfl,fun j hj=>ab7,?_,?_,?_,?_⟩<;>simp only[go_sem]
 ·rintro m ρ h' ⟨rfl,i,hi,rfl,hc,r0,r3,r7,r8⟩
  simp only[go_sem,r7,r8];refine .intro (fun e=>?_) (fun e=>?_)
  ·have hlt:i<ds.length:=ab4 e
   have w1:IntKind.i64.wrap ((i:Int)+1)=((i+1:Nat):Int):=acn;simp only[go_sem,r0,r3,r8];refine⟨.of ace,?_⟩;refine hb.idx (e:=141) i rfl ab8 Hx acd fun p hp1=>?_
   have hld:=fun a=>(hp1.sub (hs a)).all (U:=U) (ty:=141) acd (by rw[Hx,abY];rfl) acP
   cases d1:ud r ds[i]
   ·have d2:=d1
    simp only[ud]at d2;simp only[go_sem,r8,hld,abY,eL,d2,w1];refine⟨_,?_,rfl,i+1,ab7,rfl,fun j hj h2=>?_,?_,?_,?_,?_⟩
    ·omega
    ·grind
    all_goals simp only[go_sem,r0,r3,r7]
   ·have d2:=d1
    simp only[ud]at d2;simp only[go_sem,hld,abY,eL,d2];exact .mk _ (.refl _) (hs _) ⟨by rw[nJ hlt d1 fun j hj=>hc j hj ab7];rfl,rfl⟩
  ·have hge:i=ds.length:=by grind
   simp only[go_sem];exact .mk _ (.refl _) (hs _) ⟨acF,rfl⟩
theorem E5(y:AV)(ds:List gV)(r:gV)(h:Heap)(hb:Rd h 2 y (ds.map eL))(hl:ds.length≤1000000000):
  ai Tryz.prog 162 [y,eL r] h fun x h' =>x= .b (xO ds r)∧h' =h:=by
 have hq:=fun H (hH:Ab.Sub h H)=>IU y ds r H (hb.sub hH) hl
 refine ab6 Tryz.func162 9 [.tmp 4] fun hwf=>?_
 simp only[go_sem,eL];intro i1 h1;simp only[go_sem];refine(hq _ (.aj h1)).pthen ?_;simp only[go_sem];refine .mk _ (.refl _) (.aj h1) ⟨?_,rfl⟩
 grind [ax,xO,ixD,decide_eq_true,List.any_eq_true,ab2,List.findIdx_getElem,decide_eq_false,List.any_eq_false]
theorem E6{h:Heap}{x:AV}{s:an}(hb:RdS h x s)(subj role:Txt)(hl:s.roles.length≤1000000000):ai Tryz.prog 103 [x,.s subj,.s role] h fun r h' =>r= .b (xO s.roles ⟨subj,role⟩)∧h' =h:=by
 obtain⟨y1,y2,y3,y4,rfl,hc,h2,h3,h4⟩:=hb;have hq:=fun H (hH:Ab.Sub h H)=>E5 y4 s.roles ⟨subj,role⟩ H (h4.sub hH) hl
 cases hp:s.policy with
 |mk pid pset palg ptgt prules pkids pobls=>
 refine ab6 Tryz.func103 13 [.tmp 6] fun hwf=>?_
 simp only[go_sem,fW,List.cons_append,List.nil_append];intro i1 h1;simp only[go_sem];refine(hq _ (.aj h1)).pthen ?_;simp only[go_sem];exact acs
theorem Ig{h:Heap}(f:cY){k:Nat}{name:Txt}(hk:h k=some (.obj [.s name] 9)):ai Tryz.prog 122 [bN f,.ptr k 0] h fun r h' =>r= .b (f.name==name)∧h' =h:=by
 refine ab6 Tryz.func122 8 [.tmp 3] fun hwf=>?_
 simp only[go_sem,bN];exact agt
theorem Ih{fs:List cY}{name:Txt}(h:fs.findIdx (fun f=>f.name==name)<fs.length):eO fs name=fs[fs.findIdx fun f=>f.name==name].val:=by
 unfold eO;rw[show fs.find? (fun f=>f.name==name)=some fs[fs.findIdx fun f=>f.name==name]from List.find?_eq_some_iff_getElem.2 ⟨List.findIdx_getElem (w:=h),_,h,rfl,fun j hj=>ab8⟩]
theorem Ii{fs:List cY}{name:Txt}(h:¬fs.findIdx (fun f=>f.name==name)<fs.length):eO fs name=au:=by
 grind [eO,List.findIdx_le_length,List.find?_eq_none,List.findIdx_eq_length]
theorem CJ{h:Heap}{x:AV}{c:aL}(hb:RdC h x c)(name:Txt)(hl:c.fields.length≤1000000000):ai Tryz.prog 60 [x,.s name] h fun r h' =>r=aS (eO c.fields name)∧h' =h:=by
 obtain⟨f,l,rfl,hf,hlg⟩:=hb;refine ab6 Tryz.func60 19 [.cell 4 33] fun hwf=>?_
 simp only[go_sem];intro i1 h1;simp only[go_sem];intro i2 h2;have n21:=aH h2;have n2:=aC h2;simp only[go_sem];intro i3 h3;have h3' :=aC h3;have n31:=aH h3';have n3:=aC h3';have hs:∀a b d,Ab.Sub h (upd (upd (upd h i1 a) i2 b) i3 d):=fun a b d=>(((Sub.refl h).put h1 a).put n2 b).put n3 d
 simp only[go_sem,ak,n21.symm,n31.symm];refine(xU f _ c.fields (fun f=>f.name==name) _ [.ptr i2 0] _ (hf.sub (hs _ _ _)) aci ab8 (oC (fun _=>rfl) _) fun i a b=>by
  rw[abY];exact Ig _ (by grind [ak,gb,not_false_eq_true])).pthen ?_
 by_cases hx:c.fields.findIdx (fun f=>f.name==name)<c.fields.length
 ·have e1:ixD (fun f=>f.name==name) c.fields=(c.fields.findIdx (fun f=>f.name==name):Nat):=by simp_all [ixD,if_pos]
  have d1:decide ((0:Int)≤((c.fields.findIdx (fun f=>f.name==name):Nat):Int))=true:=decide_eq_true ab7
  rw[e1];simp only[go_sem,ak,n21.symm,n31.symm,d1];refine hf.idx (e:=201) (c.fields.findIdx fun f=>f.name==name) rfl ab8 FX acd fun p hp1=>?_
  simp only[go_sem];refine hp1.field (f:=1) (off:=1) (t:=33) rfl acd fun p2 hp2=>?_
  have hld:=fun a b d=>(hp2.sub (hs a b d)).part (U:=U) (ty:=33) acd (by rw[abY,show(U 33).sz=3 by rfl];exact abW rfl)
  simp only[go_sem,hld,abY,bN];exact .mk _ (.refl _) ab8 ⟨by rw[Ih hx];rfl,rfl⟩
 ·have e1:ixD (fun f=>f.name==name) c.fields= -1:=by simp_all [ixD,if_neg]
  have d1:decide ((0:Int)≤ -1)=false:=rfl;rw[e1];simp only[go_sem,d1];exact .mk _ (.refl _) ab8 ⟨by rw[Ii hx];rfl,rfl⟩
end Go.Proofs.YtfdgemhnlennbaaGreatDoor
namespace Go.Ab
open Go
mutual
def cJ:AV→Bool
 |.v _=>true
 |.s _=>true
 |.agg xs=>gS xs
 |.tup xs=>gS xs
 |.sl xs (.own _)=>false
 |.sl xs _=>gS xs
 |.pe x _=>cJ x
 |.ifc _ x=>cJ x
 |_=>false
def gS:List AV→Bool
 | []=>true
 |x::r=>cJ x && gS r
end
mutual
theorem tE{F:Nat→Prop}:∀x:AV,cJ x=true→Av F x
 |.v x,_=> .v x
 |.s l,_=> .s l
 |.agg xs,h=> .agg xs (qE xs aeF)
 |.tup xs,h=> .tup xs (qE xs aeF)
 |.sl xs .no,h=> .sl xs .no (qE xs aeF) fun _ e=>acD
 |.sl xs .full,h=> .sl xs .full (qE xs aeF) fun _ e=>acD
 |.sl xs (.own _),h=>afC
 |.pe x o,h=> .pe x o (tE x aeF)
 |.ptr i o,h=>afC
 |.oa i o l,h=>afC
 |.ifc t x,h=> .ifc t x (tE x aeF)
 |.fn f c,h=>afC
 |.mp i,h=>afC
 |.ob i o l c z,h=>afC
theorem qE{F:Nat→Prop}:∀xs:List AV,gS xs=true→∀x∈xs,Av F x
 | [],_,x,hx=>by cases hx
 |y::r,h,x,hx=>by
  simp only[gS,Bool.and_eq_true]at h;rcases List.mem_cons.1 hx with e|e
  ·rw[e];exact tE y h.1
  ·exact qE r h.2 x e
end
theorem bt{α:Type}{f:α→AV}(hf:∀a,cJ (f a)=true):∀l:List α,gS (l.map f)=true
 | []=>rfl
 |a::r=>by simp[gS,hf a,bt hf r]
theorem AI{xs:List AV}(h:gS xs=true):∀x∈xs,cJ x=true:=by
 induction xs with
 |nil=>simp
 |cons y r ih=>
  simp_all [gS,Bool.and_eq_true,List.mem_cons]
theorem nh{x:AV}(h:cJ x=true):∀c∈x.cells,cJ c=true:=by
 cases x with
 |agg cs=>exact AI (show gS cs=true by grind [cJ])
 |_=>intro c hc;rw[List.mem_singleton.1 hc];exact h
theorem Frz.pure{g h:Heap}{x:AV}(hx:cJ x=true):Frz g h x x:=.keep x (tE x hx)
theorem Ow.frz{g h:Heap}{tb:TypeId}{sz id:Nat}{y:AV}{xs ys:List AV}(hw:Ow tb h sz id y xs)(hg:g id=Option.none)(hn:xs.length=ys.length)(hz:∀i (h1:i<xs.length) (h2:i<ys.length),xs[i].cells.length=ys[i].cells.length)
  (hr:∀i (h1:i<xs.length) (h2:i<ys.length) j (h3:j<xs[i].cells.length) (h4:j<ys[i].cells.length),Frz g h xs[i].cells[j] ys[i].cells[j]):Frz g h y (.sl ys .no):=by
 obtain⟨cap,rest,rfl,h1,h2,h3,h4⟩:=hw;have hl:=aY h4;refine .ob id 0 _ cap sz _ tb ys hg h1 ab8 hn.symm (fun i hi=>by rw[←hz i ab7 hi];exact h4 _ aci) fun i hi j hj hb=>?_
 have hj' :j<sz:=by rw[←h4 xs[i] aci,hz i ab7 hi];omega
 have hbd:i*sz+j<xs.length*sz:=by
  have:(i+1)*sz≤xs.length*sz:=Nat.mul_le_mul_right _ ab7;rw[Nat.add_mul,Nat.one_mul]at this;omega
 have hjx:j<xs[i].cells.length:=ab8;have e:(aq xs++rest)[0+(i*sz+j)]? =some (xs[i].cells[j]):=by
  rw[Nat.zero_add,List.getElem?_append_left ab7,uf h4 ab7 hj',List.getElem?_eq_getElem hjx]
 rw[List.getElem?_eq_getElem hb,Option.some.injEq]at e;rw[e];exact hr i ab7 hi j hjx hj
theorem OwE.frz{g h:Heap}{tb:TypeId}{sz:Nat}{y:AV}{xs:List AV}(hw:OwE tb g h sz y xs)(hp:gS xs=true):Frz g h y (.sl xs .no):=by
 rcases hw with⟨rfl,rfl⟩|⟨id,hg,hw⟩
 ·exact .sl [] [] .full rfl ab7 aci
 ·exact hw.frz hg rfl ab7 fun i h1 h2 j h3 h4=> .pure (nh (AI hp _ (ab2 h1)) _ aci)
theorem OwE.lF{U:TypeId→TI}{h:Heap}{sz:Nat}{tb:TypeId}{xs:List AV}{Q:AV→Heap→Prop}(hz:(U tb).sz=sz)(hf:Ab.fit (U tb).zero sz)(hb:Sized sz xs)(hk:∀y' h',OwE tb h h' sz y' xs→Sub h h'→Q y' h'):rL U h [] xs tb Q:=by
 subst hz;refine⟨fun hn=>?_,fun hn=>?_⟩
 ·subst hn
  exact hk _ _ (.inl ⟨rfl,rfl⟩) (.refl _)
 ·refine .ob hf (j0.ow hb acr aci fun id y' h' hid hw ho=>?_)
  exact hk _ _ (.inr ⟨id,hid,hw⟩) fun j b hj=>ab8
theorem Rd.nil{h:Heap}{sz:Nat}{y:AV}{xs:List AV}{e:TypeId}{Q:AV→Heap→Prop}(hb:Rd h sz y xs)(hk:∀b:Bool,(xs≠ []→b=false)→Q (.b b) h):Q1 h .eql y Q (.slice e):=by
 obtain⟨_,⟨q,rfl⟩|⟨id,off,cap,cs,t,rfl,_⟩⟩:=hb
 ·exact hk
 ·exact hk false fun _=>rfl
def nid:AV→Option Nat
 |.ob id _ _ _ _=>some id
 |_=>none
theorem OwE.nid{tb:TypeId}{h0 h:Heap}{sz:Nat}{y:AV}{xs:List AV}(hw:OwE tb h0 h sz y xs){id:Nat}(e:Ab.nid y=some id):h0 id=Option.none∧h id≠Option.none∧Ow tb h sz id y xs:=by
 rcases hw with⟨rfl,rfl⟩|⟨id',h1,hw⟩
 ·cases e
 ·obtain⟨cap,rest,rfl,h2,h3⟩:=hw
  cases e;exact⟨h1,ab8,cap,rest,rfl,h2,h3⟩
theorem Ow.nid{tb:TypeId}{h:Heap}{sz id:Nat}{y:AV}{xs:List AV}(hw:Ow tb h sz id y xs):Ab.nid y=some id:=by
 obtain⟨cap,rest,rfl,h2,h3⟩:=hw;rfl
theorem OwE.keep{tb:TypeId}{h0 h h' :Heap}{sz:Nat}{y:AV}{xs:List AV}(hw:OwE tb h0 h sz y xs)(hs:∀id,Ab.nid y=some id→h' id=h id):OwE tb h0 h' sz y xs:=by
 rcases hw with hw|⟨id,h1,hw⟩
 ·exact af0
 ·exact .inr ⟨id,h1,hw.same (hs id hw.nid)⟩
theorem OwE.less{tb:TypeId}{h0 h1 h:Heap}{sz:Nat}{y:AV}{xs:List AV}(hw:OwE tb h1 h sz y xs)(hs:Sub h0 h1):OwE tb h0 h sz y xs:=by
 rcases hw with hw|⟨id,a,hw⟩
 ·exact af0
 ·exact .inr ⟨id,hs.none a,hw⟩
end Go.Ab
namespace Go.Proofs.YtfdgemhnlennbaaGreatDoor
open Go Go.Ab Go.Bf
theorem zV(y:AV)(xs:List AV)(h:Heap)(hb:Rd h 5 y xs)(hl:xs.length≤1000000):ai Tryz.prog 112 [y] h fun r h' =>OwE 122 h h' 5 r xs∧Ab.Sub h h' :=by
 refine ab6 Tryz.func112 8 [.tmp 2] fun hwf=>?_
 simp only[go_sem];refine hb.nil fun b hxs=>?_
 cases b
 ·simp only[go_sem]
  refine hb.src (U:=U) (e:=122) acr ⟨hb.1,ab7,OwE.lF (U:=U) (sz:=5) acr acr hb.1 fun y' h' hw hs=>?_⟩
  exact agq
 ·exact agm
theorem vj(y:AV)(xs:List AV)(h:Heap)(hb:Rd h 7 y xs)(hl:xs.length≤1000000):ai Tryz.prog 110 [y] h fun r h' =>OwE 135 h h' 7 r xs∧Ab.Sub h h' :=by
 refine ab6 Tryz.func110 8 [.tmp 2] fun hwf=>?_
 simp only[go_sem];refine hb.nil fun b hxs=>?_
 cases b
 ·simp only[go_sem]
  refine hb.src (U:=U) (e:=135) acr ⟨hb.1,ab7,OwE.lF (U:=U) (sz:=7) acr acr hb.1 fun y' h' hw hs=>?_⟩
  exact agq
 ·exact agm
theorem vi(y:AV)(xs:List AV)(h:Heap)(hb:Rd h 3 y xs)(hl:xs.length≤1000000):ai Tryz.prog 111 [y] h fun r h' =>OwE 138 h h' 3 r xs∧Ab.Sub h h' :=by
 refine ab6 Tryz.func111 8 [.tmp 2] fun hwf=>?_
 simp only[go_sem];refine hb.nil fun b hxs=>?_
 cases b
 ·simp only[go_sem]
  refine hb.src (U:=U) (e:=138) acr ⟨hb.1,ab7,OwE.lF (U:=U) (sz:=3) acr acr hb.1 fun y' h' hw hs=>?_⟩
  exact agq
 ·exact agm
theorem HR(y:AV)(xs:List AV)(h:Heap)(hb:Rd h 2 y xs)(hl:xs.length≤1000000):ai Tryz.prog 168 [y] h fun r h' =>OwE 141 h h' 2 r xs∧Ab.Sub h h' :=by
 refine ab6 Tryz.func168 8 [.tmp 2] fun hwf=>?_
 simp only[go_sem];refine hb.nil fun b hxs=>?_
 cases b
 ·simp only[go_sem]
  refine hb.src (U:=U) (e:=141) acr ⟨hb.1,ab7,OwE.lF (U:=U) (sz:=2) acr acr hb.1 fun y' h' hw hs=>?_⟩
  exact agq
 ·exact agm
theorem Ex(y:AV)(xs:List AV)(h:Heap)(hb:Rd h 4 y xs)(hl:xs.length≤1000000):ai Tryz.prog 175 [y] h fun r h' =>OwE 201 h h' 4 r xs∧Ab.Sub h h' :=by
 refine ab6 Tryz.func175 8 [.tmp 2] fun hwf=>?_
 simp only[go_sem];refine hb.nil fun b hxs=>?_
 cases b
 ·simp only[go_sem]
  refine hb.src (U:=U) (e:=201) acr ⟨hb.1,ab7,OwE.lF (U:=U) (sz:=4) acr acr hb.1 fun y' h' hw hs=>?_⟩
  exact agq
 ·exact agm
theorem qf(y:AV)(xs:List AV)(h:Heap)(hb:Rd h 3 y xs)(hl:xs.length≤1000000):ai Tryz.prog 113 [y] h fun r h' =>OwE 191 h h' 3 r xs∧Ab.Sub h h' :=by
 refine ab6 Tryz.func113 8 [.tmp 2] fun hwf=>?_
 simp only[go_sem];refine hb.nil fun b hxs=>?_
 cases b
 ·simp only[go_sem]
  refine hb.src (U:=U) (e:=191) acr ⟨hb.1,ab7,OwE.lF (U:=U) (sz:=3) acr acr hb.1 fun y' h' hw hs=>?_⟩
  exact agq
 ·exact agm
theorem vY(y:AV)(xs:List AV)(h:Heap)(hb:Rd h 3 y xs)(hl:xs.length≤1000000)(hp:gS xs=true):ai Tryz.prog 113 [y] h fun r h' =>r= .sl xs .no∧h' =h:=
 ai.freeze fun g hg _=>(qf y xs g (hb.sub hg) hl).mono fun r h' ⟨h1,h2⟩=>⟨h2,_,h1.frz hp,rfl⟩
theorem Kp(y:AV)(xs:List AV)(h:Heap)(hb:Rd h 3 y xs)(hl:xs.length≤1000000):ai Tryz.prog 64 [y] h fun r h' =>OwE 131 h h' 3 r xs∧Ab.Sub h h' :=by
 refine ab6 Tryz.func64 8 [.tmp 2] fun hwf=>?_
 simp only[go_sem];refine hb.nil fun b hxs=>?_
 cases b
 ·simp only[go_sem]
  refine hb.src (U:=U) (e:=131) acr ⟨hb.1,ab7,OwE.lF (U:=U) (sz:=3) acr acr hb.1 fun y' h' hw hs=>?_⟩
  exact agq
 ·exact agm
theorem zX(y:AV)(xs:List AV)(h:Heap)(hb:Rd h 3 y xs)(hl:xs.length≤1000000)(hp:gS xs=true):ai Tryz.prog 64 [y] h fun r h' =>r= .sl xs .no∧h' =h:=
 ai.freeze fun g hg _=>(Kp y xs g (hb.sub hg) hl).mono fun r h' ⟨h1,h2⟩=>⟨h2,_,h1.frz hp,rfl⟩
theorem HS(y:AV)(xs:List AV)(h:Heap)(hb:Rd h 5 y xs)(hl:xs.length≤1000000):ai Tryz.prog 215 [y] h fun r h' =>OwE 210 h h' 5 r xs∧Ab.Sub h h' :=by
 refine ab6 Tryz.func215 8 [.tmp 2] fun hwf=>?_
 simp only[go_sem];refine hb.nil fun b hxs=>?_
 cases b
 ·simp only[go_sem]
  refine hb.src (U:=U) (e:=210) acr ⟨hb.1,ab7,OwE.lF (U:=U) (sz:=5) acr acr hb.1 fun y' h' hw hs=>?_⟩
  exact agq
 ·exact agm
theorem Cq(y:AV)(xs:List AV)(h:Heap)(hb:Rd h 7 y xs)(hl:xs.length≤1000000):ai Tryz.prog 216 [y] h fun r h' =>OwE 61 h h' 7 r xs∧Ab.Sub h h' :=by
 refine ab6 Tryz.func216 8 [.tmp 2] fun hwf=>?_
 simp only[go_sem];refine hb.nil fun b hxs=>?_
 cases b
 ·simp only[go_sem]
  refine hb.src (U:=U) (e:=61) acr ⟨hb.1,ab7,OwE.lF (U:=U) (sz:=7) acr acr hb.1 fun y' h' hw hs=>?_⟩
  exact agq
 ·exact agm
theorem HQ(y:AV)(xs:List AV)(h:Heap)(hb:Rd h 7 y xs)(hl:xs.length≤1000000):ai Tryz.prog 217 [y] h fun r h' =>OwE 215 h h' 7 r xs∧Ab.Sub h h' :=by
 refine ab6 Tryz.func217 8 [.tmp 2] fun hwf=>?_
 simp only[go_sem];refine hb.nil fun b hxs=>?_
 cases b
 ·simp only[go_sem]
  refine hb.src (U:=U) (e:=215) acr ⟨hb.1,ab7,OwE.lF (U:=U) (sz:=7) acr acr hb.1 fun y' h' hw hs=>?_⟩
  exact agq
 ·exact agm
theorem EB(y:AV)(xs:List AV)(h:Heap)(hb:Rd h 7 y xs)(hl:xs.length≤1000000)(hp:gS xs=true):ai Tryz.prog 217 [y] h fun r h' =>r= .sl xs .no∧h' =h:=
 ai.freeze fun g hg _=>(HQ y xs g (hb.sub hg) hl).mono fun r h' ⟨h1,h2⟩=>⟨h2,_,h1.frz hp,rfl⟩
theorem Ey(y:AV)(xs:List AV)(h:Heap)(hb:Rd h 7 y xs)(hl:xs.length≤1000000):ai Tryz.prog 250 [y] h fun r h' =>OwE 265 h h' 7 r xs∧Ab.Sub h h' :=by
 refine ab6 Tryz.func250 8 [.tmp 2] fun hwf=>?_
 simp only[go_sem];refine hb.nil fun b hxs=>?_
 cases b
 ·simp only[go_sem]
  refine hb.src (U:=U) (e:=265) acr ⟨hb.1,ab7,OwE.lF (U:=U) (sz:=7) acr acr hb.1 fun y' h' hw hs=>?_⟩
  exact agq
 ·exact agm
theorem Ct(y:AV)(xs:List AV)(h:Heap)(hb:Rd h 7 y xs)(hl:xs.length≤1000000)(hp:gS xs=true):ai Tryz.prog 250 [y] h fun r h' =>r= .sl xs .no∧h' =h:=
 ai.freeze fun g hg _=>(Ey y xs g (hb.sub hg) hl).mono fun r h' ⟨h1,h2⟩=>⟨h2,_,h1.frz hp,rfl⟩
theorem Ez(y:AV)(xs:List AV)(h:Heap)(hb:Rd h 3 y xs)(hl:xs.length≤1000000):ai Tryz.prog 280 [y] h fun r h' =>OwE 33 h h' 3 r xs∧Ab.Sub h h' :=by
 refine ab6 Tryz.func280 8 [.tmp 2] fun hwf=>?_
 simp only[go_sem];refine hb.nil fun b hxs=>?_
 cases b
 ·simp only[go_sem]
  refine hb.src (U:=U) (e:=33) acr ⟨hb.1,ab7,OwE.lF (U:=U) (sz:=3) acr acr hb.1 fun y' h' hw hs=>?_⟩
  exact agq
 ·exact agm
theorem Cu(y:AV)(xs:List AV)(h:Heap)(hb:Rd h 3 y xs)(hl:xs.length≤1000000)(hp:gS xs=true):ai Tryz.prog 280 [y] h fun r h' =>r= .sl xs .no∧h' =h:=
 ai.freeze fun g hg _=>(Ez y xs g (hb.sub hg) hl).mono fun r h' ⟨h1,h2⟩=>⟨h2,_,h1.frz hp,rfl⟩
def Px(h0 h:Heap)(x:AV)(c:aL):Prop:=∃f l,x= .agg [.s c.id,.s c.owner,.s c.state,f,l]∧OwE 201 h0 h 4 f (c.fields.map bN)∧OwE 191 h0 h 3 l (c.log.map iF)∧∀i,nid f=some i→nid l≠some i
theorem cG{h:Heap}{i j:Nat}{b:Blk}(h1:h i=none)(h2:h j=some b):i≠j:=fun e=>by subst e;rw[h2]at h1;cases h1
theorem yq{h:Heap}{x:AV}{c:aL}(hb:RdC h x c)(hl:c.fields.length≤1000000)(hl2:c.log.length≤1000000):ai Tryz.prog 120 [x] h fun r h' =>Px h h' r c∧Ab.Sub h h' :=by
 obtain⟨f,l,rfl,hf,hlg⟩:=hb;refine ab6 Tryz.func120 12 [.cell 2 122] fun hwf=>?_
 simp only[go_sem];intro i1 h1;simp only[go_sem];intro i2 h2;have n21:=aH h2;have n2:=aC h2;simp only[go_sem];obtain⟨H,eH⟩:∃H,upd (upd h i1 (some (.obj [.s c.id,.s c.owner,.s c.state,f,l] 122))) i2 (some (.obj [.s [],.s [],.s [],.sl [] .full,.sl [] .full] 122))=H:=⟨_,rfl⟩;have hH:Ab.Sub h H:=ac9;have g1:H i1=some (.obj [.s c.id,.s c.owner,.s c.state,f,l] 122):=adI;have g2:H i2=some (.obj [.s [],.s [],.s [],.sl [] .full,.sl [] .full] 122):=adB;rw[eH];refine .stage (hm1 i1 _) [0,1,3,4,2,6,5] [7,8,9] (.hm1 g1) ace ?_;simp only[go_sem,ga];refine(Ex f _ H (hf.sub hH) ab8).mono fun f' H1 ⟨hf',s1⟩=>?_
 refine⟨.hm1 (s1 _ _ g1),?_⟩;simp only[go_sem];refine(qf l _ H1 ((hlg.sub hH).sub s1) ab8).mono fun l' H2 ⟨hl',s2⟩=>?_
 refine⟨.hm1 (s2 _ _ (s1 _ _ g1)),dH,(fun _ _ e=>acD),?_⟩
 have g1' :=s2 _ _ (s1 _ _ g1);have g2' :=s2 _ _ (s1 _ _ g2);simp only[go_sem,g1',hf'.rd.fit,hf'.rd.cells,hl'.rd.fit,hl'.rd.cells];have n1:∀b,upd H2 i1 b i2=some (.obj [.s [],.s [],.s [],.sl [] .full,.sl [] .full] 122):=fun b=>acM
 refine⟨fun _ _ e=>acD,fun _ _ e=>acD,?_⟩
 simp only[go_sem,n1];have hid:∀ {y:AV} {xs:List AV} {G:Heap} {tb:TypeId} {z:Nat},Ab.Sub H G→OwE tb G H2 z y xs→∀a b,OwE tb h (upd (upd H2 i1 a) i2 b) z y xs:=fun hG hw a b=>(hw.less (hH.trans hG)).keep fun id e=>by
  have h0:=hG.none (hw.nid e).1;rw[ag _ _ (cG h0 g2),ag _ _ (cG h0 g1)]
 refine .mk _ (.refl _) (.refl _) ⟨⟨f',l',rfl,hid (.refl _) (hf'.sub s2) _ _,hid s1 hl' _ _,fun i ef el=>?_⟩,((hH.trans (s1.trans s2)).put h1 _).put n2 _⟩
 exact(hf'.nid ef).2.1 ((hl'.nid el).1)
theorem vH{h:Heap}{x:AV}{c:aL}(hb:RdC h x c)(hl:c.fields.length≤1000000)(hl2:c.log.length≤1000000):ai Tryz.prog 120 [x] h fun r h' =>r=cr c∧h' =h:=
 ai.freeze fun g hg _=>(yq (hb.sub hg) hl hl2).mono fun r h' ⟨⟨f,l,e,hf,hlg,_⟩,h2⟩=>⟨h2,cr c,by
  subst e;refine .agg _ _ rfl fun i h1 h2=>?_
  rcases i with _|_|_|_|_|i
  ·exact acw
  ·exact acw
  ·exact acw
  ·exact hf.frz (bt (fun _=>rfl) _)
  ·exact hlg.frz (bt (fun _=>rfl) _)
  ·simp at h1;omega,rfl⟩
theorem LM(l:List bP):gS (l.map dO)=true:=bt (fun _=>rfl) l
theorem UB:(U 266).sz=1:=acr
theorem UC:(U 262).sz=1:=acr
theorem th(t:fY)(ht:lp t=0)(h:Heap):ai Tryz.prog 214 [aV t] h fun r h' =>r=aV t∧h' =h:=by
 obtain⟨hl,he⟩:=AW ht;refine ab6 Tryz.func214 33 [.tmp 2] fun hwf=>?_
 simp only[go_sem,aV,abX];refine .intro (fun m ρ h' =>∃(i:Nat) (y:AV) (ys:List AV),Acc U 262 h h' y ys∧ys.length=i∧(∀j (h1:j<ys.length) (h2:j<t.length),∃q,ys[j]= .sl (t[j].map iR) q)∧i≤t.length∧m=t.length - i∧lk ρ 3=some y∧lk ρ 9=some (.sl (t.map cR) .no)∧lk ρ 10=some (.i t.length)∧lk ρ 11=some (.i i)) t.length ?_ ?_
 ·refine⟨0,_,[],.full (.refl _),rfl,fun j h1=>ab8,ab7,rfl,?_,?_,?_,?_⟩<;>simp only[go_sem]
 ·rintro m ρ h' ⟨i,y,ys,hy,hn,hys,hi,rfl,r3,r9,r10,r11⟩
  simp only[go_sem,r10,r11];refine .intro (fun e=>?_) (fun e=>?_)
  ·have hlt:i<t.length:=ab4 e
   have w1:IntKind.i64.wrap ((i:Int)+1)=((i+1:Nat):Int):=acn;obtain⟨ha0,hal,hae⟩:=zU (he _ (ab2 hlt));simp only[go_sem,r9,r11];refine .at i ab8 acq ?_;simp only[go_sem,abY,cR,abX];refine .intro (fun m ρ H=>∃(j:Nat) (z:AV) (zs:List AV),Acc U 266 h' H z zs∧zs=(t[i].take j).map iR∧j≤t[i].length∧m=t[i].length - j∧lk ρ 3=some y∧lk ρ 9=some (.sl (t.map cR) .no)∧lk ρ 10=some (.i t.length)∧lk ρ 11=some (.i i)∧lk ρ 6=some z∧lk ρ 15=some (.sl (t[i].map iR) .no)∧lk ρ 16=some (.i t[i].length)∧lk ρ 17=some (.i j)) t[i].length ?_ ?_
   ·refine⟨0,_,[],.full (.refl _),rfl,ab7,rfl,?_,?_,?_,?_,?_,?_,?_,?_⟩<;>simp only[go_sem,r3,r9,r10,r11]
   ·rintro m ρ H ⟨j,z,zs,hz,rfl,hj,rfl,r3,r9,r10,r11,r6,r15,r16,r17⟩
    simp only[go_sem,r16,r17];refine .intro (fun e=>?_) (fun e=>?_)
    ·have hlt2:j<t[i].length:=ab4 e
     have w2:IntKind.i64.wrap ((j:Int)+1)=((j+1:Nat):Int):=acn;have hml:=(zT (hae _ (ab2 hlt2))).2.1;simp only[go_sem,r15,r17];refine .at j ab8 acq ?_;simp only[go_sem,r6,abY,iR];refine(Ct _ (t[i][j].map dO) _ (eR dO 7 (fun _=>rfl) _ _) ab8 (LM _)).pthen ?_
     simp only[go_sem];refine hz.app (zs:=[iR t[i][j]]) acd acd (fun k hk=>hk) (by rw[UB];exact bu (f:=iR) (fun _=>rfl) _) (by rw[UB];exact bu (f:=iR) (fun _=>rfl) [t[i][j]]) (by simp only[go_sem,abX,List.length_cons,List.length_nil,List.length_take];omega) fun z' H' hz' _=>?_
     simp only[go_sem,r17,w2];refine⟨_,?_,j+1,z',_,hz',?_,ab7,rfl,?_,?_,?_,?_,?_,?_,?_,?_⟩
     ·omega
     ·grind [List.take_succ_eq_append_getElem]
     all_goals simp only[go_sem,r3,r9,r10,r11,r15,r16]
    ·have hge:j=t[i].length:=by grind
     subst hge;rw[List.take_length]at hz;have hyH:=hy.sub hz.1;obtain⟨q,rfl⟩:=hz.row;simp only[go_sem,r3,r6];refine hyH.app (zs:=[.sl (t[i].map iR) q]) acd acd (fun k hk=>hk) (by rw[UC];intro w hw;obtain⟨k,hk,rfl⟩:=List.mem_iff_getElem.1 hw;obtain⟨q',e'⟩:=hys k hk ab7;rw[e'];rfl) (by rw[UC];intro w hw;rw[List.mem_singleton.1 hw];rfl) (by simp only[go_sem,hn,List.length_cons,List.length_nil];omega) fun y' H' hy' _=>?_
     simp only[go_sem,r11,w1];refine⟨_,?_,i+1,y',_,hy',ab8,fun k h1 h2=>?_,ab7,rfl,?_,?_,?_,?_⟩
     ·omega
     ·grind
     all_goals simp only[go_sem,r9,r10]
  ·have hge:i=t.length:=by grind
   simp only[go_sem,r3];obtain⟨q,rfl⟩:=hy.row;refine .mk (aV t) ?_ hy.1 ⟨rfl,rfl⟩;refine .deep _ _ q ab8 (fun k h1 h2=>?_) fun k h1 h2 j h3 h4=>?_
   ·obtain⟨q',e'⟩:=hys k h1 ab7
    rw[e',abY];rfl
   ·obtain⟨q',e'⟩:=hys k h1 ab7
    simp only[e',AV.cells,List.length_singleton]at h3;obtain rfl:j=0:=ab7;simp only[e',abY,cR,AV.cells,List.getElem_singleton];exact aeJ
theorem yC(t:fY):cJ (aV t)=true:=by
 refine bt (fun a=>?_) t
 refine bt (fun b=>?_) a
 exact bt (fun _=>rfl) b
theorem Jf(l:List aO):cJ (fu l)=true:=by simp only[fu,cJ];exact bt (fun _=>rfl) l
theorem uH(l:List cA):cJ (aA l)=true:=by simp only[aA,cJ];exact bt (fun _=>rfl) l
theorem AJ(r:cP):cJ (aB r)=true:=by simp[aB,cJ,gS,yC,Jf,uH]
mutual
theorem DD:∀p:bH,cJ (aM p)=true
 |.mk id set alg tgt rules kids obls=>by simp[aM,cJ,gS,yC,uH,bt AJ rules,uG kids]
theorem uG:∀l:List bH,gS (fF l)=true
 | []=>rfl
 |k::r=>by simp[fF,gS,DD k,uG r]
end
theorem jr(p:bH):(aM p).cells.length=7:=by cases p;rfl
theorem M3{l:List aO}(h:jY l=0):l.length≤32:=by
 grind [xC]
theorem GS{l:List cA}(h:ic l=0):l.length≤8:=(ko h).1
theorem uW{H:Heap}{i:Nat}{x:Option Blk}(h:H i=x):upd H i x=H:=by
 grind [ah,ag]
theorem lO{tb:TypeId}{h:Heap}{sz id i:Nat}{y:AV}{xs cs:List AV}{t:TypeId}(hw:Ow tb h sz id y xs)(hi:h i=some (.obj cs t))(ht:t≠tb):id≠i:=by
 obtain⟨cap,rest,rfl,h1,_⟩:=hw
 grind
theorem ld{sz:Nat}{xs:List AV}(hs:Sized sz xs)(j:Nat)(hj:j<xs.length)(o:Nat)(c:List AV)(ho:o+c.length≤sz){rest:List AV}:
  (aq xs++rest).take (j*sz+o)++c++(aq xs++rest).drop (j*sz+o+c.length)=aq (xs.set j (.agg (Ab.over xs[j].cells o c)))++rest:=by
 have hl:=aY hs;have hb:(j+1)*sz≤xs.length*sz:=Nat.mul_le_mul_right _ ab7;rw[Nat.add_mul,Nat.one_mul]at hb;have:=LA (us:=aq xs) (vs:=rest) (o:=j*sz+o) (c:=c) ab7;rw[Ab.over]at this;rw[this,Ip hs j hj o c ho]
theorem qJ{α:Type}{xs:List α}{i:Nat}{x:α}(h:xs[i]? =some x):xs.set i x=xs:=by
 obtain⟨hi,rfl⟩:=List.getElem?_eq_some_iff.1 h;simp
theorem ng(id:Txt)(set:Bool)(alg:Int)(tgt:fY)(rules:List cP)(kids:List bH)(obls:List cA):aM (.mk id set alg tgt rules kids obls)= .agg [.s id,.b set,.i alg,aV tgt,.sl (rules.map aB) .no,.sl (kids.map aM) .no,aA obls]:=by simp[aM,aX]
theorem tg:∀(p:bH) (d:Nat),mF d p→∀h,ai Tryz.prog 169 [aM p] h fun r h' =>r=aM p∧h' =h
 |.mk pid pset palg ptgt prules pkids pobls,d,hp,h=>by
  obtain⟨_,_,_,_,_,_,ht,ho,hr16,hk16,hre,hke⟩:=hp;rw[qu]at hke;have ih:∀(j:Nat) (hj:j<pkids.length) (h:Heap),ai Tryz.prog 169 [aM pkids[j]] h fun r h' =>r=aM pkids[j]∧h' =h:=fun j hj h=>tg pkids[j] (d+1) (hke _ (ab2 hj)) h
  have hob:=GS ho;refine ai.freeze fun g hg _=>?_
  rw[ng];refine ab6 Tryz.func169 72 [.cell 2 61] fun hwf=>?_
  simp only[go_sem];intro i1 h1;simp only[go_sem];intro i2 h2;have n21:=aH h2;have n2:=aC h2;simp only[go_sem];obtain⟨H,eH⟩:∃H,upd (upd g i1 (some (.obj [.s pid,.b pset,.i palg,aV ptgt,.sl (prules.map aB) .no,.sl (pkids.map aM) .no,aA pobls] 61))) i2 (some (.obj [.s [],.b false,.i 0,.sl [] .full,.sl [] .full,.sl [] .full,.sl [] .full] 61))=H:=⟨_,rfl⟩;have hH:Ab.Sub g H:=by rw[←eH];exact((Sub.refl g).put h1 _).put n2 _
  have g1:H i1=some (.obj [.s pid,.b pset,.i palg,aV ptgt,.sl (prules.map aB) .no,.sl (pkids.map aM) .no,aA pobls] 61):=adI;have g2:H i2=some (.obj [.s [],.b false,.i 0,.sl [] .full,.sl [] .full,.sl [] .full,.sl [] .full] 61):=adB;rw[eH];refine .stage (hm1 i1 _) [0,1,3,4,2,6,5] [7,8,9] (.hm1 g1) ace ?_;simp only[go_sem,ga];refine(th ptgt ht H).pthen ?_;refine⟨.hm1 g1,?_⟩;simp only[go_sem];refine(zX _ (pobls.map br) H (eR br 3 (fun _=>rfl) _ _) acH (bt (fun _=>rfl) _)).pthen ?_
  refine⟨.hm1 g1,dH,(fun _ _ e=>acD),?_⟩
  have cT:(aV ptgt).cells= [aV ptgt]:=rfl;simp only[go_sem,g1,show fit (aV ptgt) 1=(1=1)from rfl,cT]
  have eo:(.sl (pobls.map br) .no:AV)=aA pobls:=rfl;rw[eo];refine⟨fun _ _ e=>acD,fun _ _ e=>acD,?_⟩
  rw[uW g1];refine .stage (hm1 i1 _) [0,1,3,4,2,6,5] [7,8,9] (.hm1 g1) ace ?_;simp only[go_sem,ga];refine(HS _ (prules.map aB) H (eR aB 5 (fun _=>rfl) _ _) acH).mono fun y4 H1 ⟨w4,s1⟩=>?_
  refine⟨.hm1 (s1 _ _ g1),?_⟩;simp only[go_sem];refine(Cq _ (pkids.map aM) H1 (eR aM 7 jr _ _) acH).mono fun y5 H2 ⟨w5,s2⟩=>?_
  have g1' :=s2 _ _ (s1 _ _ g1);have g2' :=s2 _ _ (s1 _ _ g2);refine⟨.hm1 g1',dH,(fun _ _ e=>acD),?_⟩
  simp only[go_sem,g1',w4.rd.fit,w4.rd.cells,w5.rd.fit,w5.rd.cells];refine⟨fun _ _ e=>acD,fun _ _ e=>acD,?_⟩
  have hn4:∀id,nid y4=some id→id≠i2:=fun id e=>cG (w4.nid e).1 g2
  have hn5:∀id,nid y5=some id→id≠i2:=fun id e=>cG (w5.nid e).1 (s1 _ _ g2)
  have hnd:∀i,nid y4=some i→nid y5≠some i:=fun i e4 e5=>(w4.nid e4).2.1 (w5.nid e5).1
  have v4:∀b,OwE 210 g (upd H2 i1 b) 5 y4 (prules.map aB):=fun b=>((w4.sub s2).less hH).keep fun id e=>ag _ _ (cG (w4.nid e).1 g1)
  have v5:∀b,OwE 61 g (upd H2 i1 b) 7 y5 (pkids.map aM):=fun b=>(w5.less (hH.trans s1)).keep fun id e=>ag _ _ (cG (s1.none (w5.nid e).1) g1)
  have vs:∀b,Ab.Sub g (upd H2 i1 b):=fun b=>(hH.trans (s1.trans s2)).put h1 b
  have vz:∀b,upd H2 i1 b i2=some (.obj [.s [],.b false,.i 0,.sl [] .full,.sl [] .full,.sl [] .full,.sl [] .full] 61):=fun b=>by rw[ag _ _ n21];exact g2'
  obtain⟨H3,eH3⟩:∃H3,upd H2 i1 (some (.obj [.s pid,.b pset,.i palg,aV ptgt,y4,y5,aA pobls] 61))=H3:=⟨_,rfl⟩;have q1:H3 i1=some (.obj [.s pid,.b pset,.i palg,aV ptgt,y4,y5,aA pobls] 61):=by rw[←eH3,ah]
  replace v4:=v4 (some (.obj [.s pid,.b pset,.i palg,aV ptgt,y4,y5,aA pobls] 61));replace v5:=v5 (some (.obj [.s pid,.b pset,.i palg,aV ptgt,y4,y5,aA pobls] 61));replace vs:=vs (some (.obj [.s pid,.b pset,.i palg,aV ptgt,y4,y5,aA pobls] 61));replace vz:=vz (some (.obj [.s pid,.b pset,.i palg,aV ptgt,y4,y5,aA pobls] 61));rw[eH3]at v4 v5 vs vz;rw[eH3];clear eH3;have hi1:∀id,g id=none→∀ {K:Heap} {b:Blk},K id=some b→K id≠none:=fun id _ K b e=>by rw[e];simp
  simp only[go_sem,v4.rd.len,abX];refine .intro (fun m ρ G=>∃i:Nat,G i1=some (.obj [.s pid,.b pset,.i palg,aV ptgt,y4,y5,aA pobls] 61)∧G i2=some (.obj [.s [],.b false,.i 0,.sl [] .full,.sl [] .full,.sl [] .full,.sl [] .full] 61)∧Ab.Sub g G∧OwE 210 g G 5 y4 (prules.map aB)∧OwE 61 g G 7 y5 (pkids.map aM)∧i≤prules.length∧m=prules.length - i∧
   lk ρ 1=some (.ptr i1 0)∧lk ρ 2=some (.ptr i2 0)∧lk ρ 24=some y4∧lk ρ 25=some (.i prules.length)∧lk ρ 26=some (.i i)) prules.length ?_ ?_
  ·refine⟨0,q1,vz,vs,v4,v5,ab7,rfl,?_,?_,?_,?_,?_⟩<;>simp only[go_sem]
  ·rintro m ρ G ⟨i,q1,vz,vs,v4,v5,hi,rfl,r1,r2,r24,r25,r26⟩
   simp only[go_sem,r25,r26];refine .intro (fun e=>?_) (fun e=>?_)
   ·have hlt:i<prules.length:=ab4 e
    have w1:=ab3 i ab7;obtain⟨_,rt,rc,ro⟩:=hre _ (ab2 hlt);have hrc:=M3 rc;have hro:=GS ro;simp only[go_sem,r24,r26];refine v4.rd.idx (e:=210) i rfl acC acj acd fun p hp1=>?_
    have hld:=hp1.all (U:=U) (ty:=210) acj acP acP;simp only[go_sem,hld,abY,aB];intro i4 h4;have n41:i4≠i1:=cG h4 q1;simp only[go_sem];obtain⟨G4,eG4⟩:∃G4,upd G i4 (some (.obj [.s prules[i].id,.b prules[i].deny,aV prules[i].tgt,fu prules[i].cond,aA prules[i].obls] 210))=G4:=⟨_,rfl⟩;rw[eG4];have p1:G4 i1=some (.obj [.s pid,.b pset,.i palg,aV ptgt,y4,y5,aA pobls] 61):=aeI;have p4:G4 i4=some (.obj [.s prules[i].id,.b prules[i].deny,aV prules[i].tgt,fu prules[i].cond,aA prules[i].obls] 210):=by rw[←eG4,ah]
    have sG:Ab.Sub G G4:=afm;refine .calls (hm2 i1 (.obj [.s pid,.b pset,.i palg,aV ptgt,y4,y5,aA pobls] 61) i4 (.obj [.s prules[i].id,.b prules[i].deny,aV prules[i].tgt,fu prules[i].cond,aA prules[i].obls] 210)) [0,1,2,3,4,5,6,7,8,9,10,12,13,15,16,11,14,17,18,19,20,21,22,23,24,25,26] (.hm2 p1 p4) ace rfl ?_;simp only[go_sem,r1,qX _ _ n41.symm,qY];refine(th prules[i].tgt rt G4).pthen ?_;refine⟨.hm2 p1 p4,?_⟩;simp only[go_sem];refine(EB _ (prules[i].cond.map dI) G4 (eR dI 7 (fun _=>rfl) _ _) acH (bt (fun _=>rfl) _)).pthen ?_
    refine⟨.hm2 p1 p4,?_⟩;simp only[go_sem];refine(zX _ (prules[i].obls.map br) G4 (eR br 3 (fun _=>rfl) _ _) acH (bt (fun _=>rfl) _)).pthen ?_
    refine⟨.hm2 p1 p4,?_⟩;simp only[go_sem];obtain⟨id4,hg4,o4⟩:=(v4.sub sG).ow aee;have m1:id4≠i1:=lO o4 p1 acd;have m4:id4≠i4:=fun e=>(v4.nid o4.nid).2.1 (by rw[e];exact h4)
    refine o4.idx (U:=U) (e:=210) i rfl acC acj acd ?_;simp only[go_sem];have o4' :=o4;obtain⟨cap,rest,ey,hid,hr,hc,hsz⟩:=o4';have hbd:i*5+5≤(aq (prules.map aB)++rest).length:=by
     rw[ab1,aY hsz,abX];omega
    have e2:List.take (i*5+2) (aq (prules.map aB)++rest)++(aV prules[i].tgt).cells++List.drop (i*5+2+(aV prules[i].tgt).cells.length) (aq (prules.map aB)++rest)=aq (prules.map aB)++rest:=by
     refine(ld hsz i acC 2 ((aV prules[i].tgt).cells) (abW rfl)).trans ?_;exact ahw
    have e3:List.take (i*5+3) (aq (prules.map aB)++rest)++ [.sl (prules[i].cond.map dI) .no]++List.drop (i*5+3+1) (aq (prules.map aB)++rest)=aq (prules.map aB)++rest:=by
     refine(ld hsz i acC 3 ([.sl (prules[i].cond.map dI) .no]) (abW rfl)).trans ?_;exact ahw
    have e4:List.take (i*5+4) (aq (prules.map aB)++rest)++ [.sl (prules[i].obls.map br) .no]++List.drop (i*5+4+1) (aq (prules.map aB)++rest)=aq (prules.map aB)++rest:=by
     refine(ld hsz i acC 4 ([.sl (prules[i].obls.map br) .no]) (abW rfl)).trans ?_;exact ahw
    simp only[go_sem,hid];rw[e2,uW hid];refine⟨rfl,ab7,.hm2 p1 p4,?_⟩;refine o4.idx (U:=U) (e:=210) i rfl acC acj acd ?_;simp only[go_sem,hid];rw[e3,uW hid];refine⟨ab7,.hm2 p1 p4,?_⟩;refine o4.idx (U:=U) (e:=210) i rfl acC acj acd ?_;simp only[go_sem,hid];rw[e4,uW hid];refine⟨ab7,.hm2 p1 p4,?_⟩;simp only[go_sem,r26,w1];refine⟨_,?_,i+1,p1,sG _ _ vz,vs.trans sG,v4.sub sG,v5.sub sG,ab7,rfl,?_,?_,?_,?_,?_⟩
    ·omega
    all_goals simp only[go_sem,r1,r2,r24,r25]
   ·have hge:i=prules.length:=by have:=ab0 e;omega
    clear hge;simp only[go_sem,r1,q1,v5.rd.len,abX];refine .intro (fun m ρ G=>∃i:Nat,G i1=some (.obj [.s pid,.b pset,.i palg,aV ptgt,y4,y5,aA pobls] 61)∧G i2=some (.obj [.s [],.b false,.i 0,.sl [] .full,.sl [] .full,.sl [] .full,.sl [] .full] 61)∧Ab.Sub g G∧OwE 210 g G 5 y4 (prules.map aB)∧OwE 61 g G 7 y5 (pkids.map aM)∧i≤pkids.length∧m=pkids.length - i∧
     lk ρ 1=some (.ptr i1 0)∧lk ρ 2=some (.ptr i2 0)∧lk ρ 57=some y5∧lk ρ 58=some (.i pkids.length)∧lk ρ 59=some (.i i)) pkids.length ?_ ?_
    ·refine⟨0,q1,vz,vs,v4,v5,ab7,rfl,?_,?_,?_,?_,?_⟩<;>simp only[go_sem,r1,r2]
    ·clear r1 r2 r24 r25 r26 q1 vz vs v4 v5 e hi
     rintro m ρ G ⟨i,q1,vz,vs,v4,v5,hi,rfl,r1,r2,r57,r58,r59⟩
     simp only[go_sem,r58,r59];refine .intro (fun e=>?_) (fun e=>?_)
     ·have hlt:i<pkids.length:=ab4 e
      have w1:=ab3 i ab7;have ihi:=ih i hlt;have hci:=jr pkids[i];cases hpk:pkids[i]with
      |mk kid kset kalg ktgt krules kkids kobls=>
      rw[hpk,ng]at ihi;simp only[go_sem,r57,r59];refine v5.rd.idx (e:=61) i rfl acC acj acd fun p hp1=>?_
      have hld:=hp1.all (U:=U) (ty:=61) acj (by simp only[go_sem];rw[abY];exact hci) (by simp only[go_sem];rw[abY,hpk,ng];rfl)
      simp only[go_sem,hld,abY,hpk,ng];intro i4 h4;have n41:i4≠i1:=cG h4 q1;simp only[go_sem];obtain⟨G4,eG4⟩:∃G4,upd G i4 (some (.obj [.s kid,.b kset,.i kalg,aV ktgt,.sl (krules.map aB) .no,.sl (kkids.map aM) .no,aA kobls] 61))=G4:=⟨_,rfl⟩;rw[eG4];have p1:G4 i1=some (.obj [.s pid,.b pset,.i palg,aV ptgt,y4,y5,aA pobls] 61):=aeI;have p4:G4 i4=some (.obj [.s kid,.b kset,.i kalg,aV ktgt,.sl (krules.map aB) .no,.sl (kkids.map aM) .no,aA kobls] 61):=by rw[←eG4,ah]
      have sG:Ab.Sub G G4:=afm;refine .calls (hm2 i1 (.obj [.s pid,.b pset,.i palg,aV ptgt,y4,y5,aA pobls] 61) i4 (.obj [.s kid,.b kset,.i kalg,aV ktgt,.sl (krules.map aB) .no,.sl (kkids.map aM) .no,aA kobls] 61)) [0,1,2,3,4,5,6] (.hm2 p1 p4) ace rfl ?_;simp only[go_sem,r1,qX _ _ n41.symm,qY];refine(ihi G4).pthen ?_;refine⟨.hm2 p1 p4,?_⟩;simp only[go_sem];obtain⟨id4,hg4,o4⟩:=(v5.sub sG).ow aee;have o4' :=o4;obtain⟨cap,rest,ey,hid,hr,hc,hsz⟩:=o4';have hbd:i*7+7≤(aq (pkids.map aM)++rest).length:=by
       rw[ab1,aY hsz,abX];omega
      have e2:List.take (i*7) (aq (pkids.map aM)++rest)++ [.s kid,.b kset,.i kalg,aV ktgt,.sl (krules.map aB) .no,.sl (kkids.map aM) .no,aA kobls]++List.drop (i*7+7) (aq (pkids.map aM)++rest)=aq (pkids.map aM)++rest:=by
       refine(ld hsz i acC 0 [.s kid,.b kset,.i kalg,aV ktgt,.sl (krules.map aB) .no,.sl (kkids.map aM) .no,aA kobls] (abW rfl)).trans ?_;rw[qJ];rw[List.getElem?_eq_getElem acC,abY,hpk,ng];rfl
      refine o4.idx (U:=U) (e:=61) i rfl acC acj acd ?_;simp only[go_sem,hid];rw[e2,uW hid];refine⟨ab7,.hm2 p1 p4,?_⟩;simp only[go_sem,r59,w1];refine⟨_,?_,i+1,p1,sG _ _ vz,vs.trans sG,v4.sub sG,v5.sub sG,ab7,rfl,?_,?_,?_,?_,?_⟩
      ·omega
      all_goals simp only[go_sem,r1,r2,r57,r58]
     ·simp only[go_sem,r1,r2,q1,vz]
      refine .mk _ (.refl _) (.refl _) ⟨vs.put n2 _,aM (.mk pid pset palg ptgt prules pkids pobls),?_,ng ..⟩;rw[ng];have z4:∀b,Frz g (upd G i2 b) y4 (.sl (prules.map aB) .no):=fun b=>(v4.keep fun id e=>ag _ _ (hn4 id e)).frz (bt AJ prules)
      have z5:∀b,Frz g (upd G i2 b) y5 (.sl (pkids.map aM) .no):=fun b=>(v5.keep fun id e=>ag _ _ (hn5 id e)).frz (by rw[←aX];exact uG pkids)
      refine .agg _ _ rfl fun k k1 k2=>?_
      rcases k with _|_|_|_|_|_|_|k
      ·exact acw
      ·exact acw
      ·exact acw
      ·exact .pure (yC _)
      ·exact z4 _
      ·exact z5 _
      ·exact .pure (uH _)
      ·simp at k1;omega
termination_by p=>SizeOf.sizeOf p
decreasing_by
 have:=List.sizeOf_lt_of_mem (ab2 hj);simp only[bH.mk.sizeOf_spec];omega
end Go.Proofs.YtfdgemhnlennbaaGreatDoor
namespace Go.Ab
open Go
def apart(a b:AV):Prop:=∀i,nid a=some i→nid b≠some i
theorem apart.symm{a b:AV}(h:apart a b):apart b a:=fun i e1 e2=>h i e2 e1
theorem dY{a y:AV}{tb:TypeId}{g h:Heap}{sz:Nat}{xs:List AV}(hw:OwE tb g h sz y xs)(ha:∀i,nid a=some i→g i≠none):apart a y:=fun i e1 e2=>ha i e1 (hw.nid e2).1
theorem OwE.there{tb:TypeId}{h0 h h' :Heap}{sz:Nat}{y:AV}{xs:List AV}(hw:OwE tb h0 h sz y xs)(hs:∀i,h i≠Option.none→h' i≠Option.none):∀i,Ab.nid y=some i→h' i≠Option.none:=fun i e=>hs i (hw.nid e).2.1
theorem Sub.some{h h' :Heap}(hs:Sub h h'):∀i,h i≠Option.none→h' i≠Option.none:=fun i e e' =>e (hs.none e')
end Go.Ab
namespace Go.Proofs.YtfdgemhnlennbaaGreatDoor
open Go Go.Ab Go.Bf
def fo(h0 h:Heap)(ys:List AV)(x:AV)(c:aL):Prop:=∃f l,x= .agg [.s c.id,.s c.owner,.s c.state,f,l]∧OwE 201 h0 h 4 f (c.fields.map bN)∧OwE 191 h0 h 3 l (c.log.map iF)∧apart f l∧∀y∈ys,apart f y∧apart l y
def lQ(h0 h:Heap)(ys:List AV)(y1:AV)(cs:List aL)(i0:Nat):Prop:=∃xs,OwE 122 h0 h 5 y1 xs∧xs.length=cs.length∧(∀j (h1:j<xs.length) (h2:j<cs.length),j≠i0→xs[j]=cr cs[j])∧∀(h1:i0<xs.length) (h2:i0<cs.length),fo h0 h ys xs[i0] cs[i0]
def sw(h0 h:Heap)(x:AV)(s:an)(i0:Nat):Prop:=∃y1 y2 y3 y4,x= .agg ([.i s.tick,y1,y2,y3,y4]++fW s.policy++ [.i s.version])∧lQ h0 h [y1,y2,y3,y4] y1 s.cases i0∧
 OwE 135 h0 h 7 y2 (s.reviews.map iK)∧OwE 138 h0 h 3 y3 (s.notices.map mN)∧OwE 141 h0 h 2 y4 (s.roles.map eL)∧apart y1 y2∧apart y1 y3∧apart y1 y4∧apart y2 y3∧apart y2 y4∧apart y3 y4
theorem Ja{cs L:List AV}(h:L.length=cs.length):Ab.over cs 0 L=L:=by
 simp_all [Ab.over,List.take_zero,List.nil_append,Nat.zero_add,List.drop_of_length_le,List.append_nil]
theorem Du{h:Heap}{x:AV}{c:aL}(i i0:Nat)(hb:RdC h x c)(hl:c.fields.length≤1000000)(hl2:c.log.length≤1000000):ai Tryz.prog 120 [x] h fun r h' =>
  ∃f l,r= .agg [.s c.id,.s c.owner,.s c.state,f,l]∧Ab.Sub h h'∧f.cells= [f]∧l.cells= [l]∧(i≠i0→f=gv c.fields∧l=rY c.log)∧(i=i0→OwE 201 h h' 4 f (c.fields.map bN)∧OwE 191 h h' 3 l (c.log.map iF)∧apart f l):=by
 by_cases e:i=i0
 ·exact(yq hb hl hl2).mono fun r h' ⟨⟨f,l,e1,a,b,c⟩,d⟩=>⟨f,l,e1,d,a.rd.cells,b.rd.cells,fun hh=>(hh e).elim,fun _=>⟨a,b,c⟩⟩
 ·exact(vH hb hl hl2).mono fun r h' ⟨e1,e2⟩=>⟨_,_,e1,by rw[e2];exact .refl _,rfl,rfl,fun _=>⟨rfl,rfl⟩,fun hh=>(e hh).elim⟩
theorem fo.sub{h0 h h' :Heap}{ys:List AV}{x:AV}{c:aL}(hm:fo h0 h ys x c)(hs:Ab.Sub h h'):fo h0 h' ys x c:=by
 obtain⟨f,l,e,a,b,c,d⟩:=hm;exact⟨f,l,e,a.sub hs,b.sub hs,c,d⟩
theorem fo.keep{h0 h h' :Heap}{ys:List AV}{x:AV}{c:aL}(hm:fo h0 h ys x c)(hs:∀f l,x= .agg [.s c.id,.s c.owner,.s c.state,f,l]→(∀y∈ys,apart f y∧apart l y)→∀i,(nid f=some i∨nid l=some i)→h' i=h i):fo h0 h' ys x c:=by
 obtain⟨f,l,e,a,b,c,d⟩:=hm;exact⟨f,l,e,a.keep fun i hi=>hs f l e d i (.inl hi),b.keep fun i hi=>hs f l e d i (.inr hi),c,d⟩
theorem Q8{h:Heap}{x:AV}{s:an}(hb:RdS h x s)(i0:Nat)(hf:Few s)(hp:mF 1 s.policy):ai Tryz.prog 114 [x] h fun r h' =>sw h h' r s i0∧Ab.Sub h h' :=by
 obtain⟨y1,y2,y3,y4,rfl,⟨xs0,hc,hn,hcs⟩,h2,h3,h4⟩:=hb;have hpo:=tg s.policy 1 hp;cases hpp:s.policy with
 |mk pid pset palg ptgt prules pkids pobls=>
 rw[hpp,ng]at hpo;have hcC:fW (.mk pid pset palg ptgt prules pkids pobls)= [.s pid,.b pset,.i palg,aV ptgt,.sl (prules.map aB) .no,.sl (pkids.map aM) .no,aA pobls]:=ae7;have hfc:=hf.cases;refine ab6 Tryz.func114 41 [.cell 2 63] fun hwf=>?_
 simp only[go_sem,hcC,List.cons_append,List.nil_append];intro i1 h1;simp only[go_sem];intro i2 h2';have n21:=aH h2';have n2:=aC h2';simp only[go_sem,ak,n21.symm];obtain⟨H,eH⟩:∃H,upd (upd h i1 (some (.obj [.i s.tick,y1,y2,y3,y4,.s pid,.b pset,.i palg,aV ptgt,.sl (prules.map aB) .no,.sl (pkids.map aM) .no,aA pobls,.i s.version] 63))) i2 (some (.obj [.i 0,.sl [] .full,.sl [] .full,.sl [] .full,.sl [] .full,.s [],.b false,.i 0,.sl [] .full,.sl [] .full,.sl [] .full,.sl [] .full,.i 0] 63))=H:=⟨_,rfl⟩;have hH:Ab.Sub h H:=ac9;have g1:H i1=some (.obj [.i s.tick,y1,y2,y3,y4,.s pid,.b pset,.i palg,aV ptgt,.sl (prules.map aB) .no,.sl (pkids.map aM) .no,aA pobls,.i s.version] 63):=adI;have g2:H i2=some (.obj [.i 0,.sl [] .full,.sl [] .full,.sl [] .full,.sl [] .full,.s [],.b false,.i 0,.sl [] .full,.sl [] .full,.sl [] .full,.sl [] .full,.i 0] 63):=adB;rw[eH];clear eH;refine(zV y1 xs0 H (hc.sub hH) ab7).mono fun z1 H1 ⟨w1,s1⟩=>?_
 simp only[go_sem,s1 _ _ g1,w1.rd.fit,w1.rd.cells];have v1:∀b,OwE 122 h (upd H1 i1 b) 5 z1 xs0:=fun b=>(w1.less hH).keep fun id e=>ag _ _ (cG (w1.nid e).1 g1)
 have vs:∀b,Ab.Sub h (upd H1 i1 b):=fun b=>(hH.trans s1).put h1 b
 have vz:∀b,upd H1 i1 b i2=some (.obj [.i 0,.sl [] .full,.sl [] .full,.sl [] .full,.sl [] .full,.s [],.b false,.i 0,.sl [] .full,.sl [] .full,.sl [] .full,.sl [] .full,.i 0] 63):=fun b=>by rw[ag _ _ n21];exact s1 _ _ g2
 have hz1:∀id,nid z1=some id→id≠i1:=fun id e=>cG (w1.nid e).1 g1
 have hz2:∀id,nid z1=some id→id≠i2:=fun id e=>cG (w1.nid e).1 g2
 obtain⟨H2,eH2⟩:∃H2,upd H1 i1 (some (.obj [.i s.tick,z1,y2,y3,y4,.s pid,.b pset,.i palg,aV ptgt,.sl (prules.map aB) .no,.sl (pkids.map aM) .no,aA pobls,.i s.version] 63))=H2:=⟨_,rfl⟩;replace v1:=v1 (some (.obj [.i s.tick,z1,y2,y3,y4,.s pid,.b pset,.i palg,aV ptgt,.sl (prules.map aB) .no,.sl (pkids.map aM) .no,aA pobls,.i s.version] 63));replace vs:=vs (some (.obj [.i s.tick,z1,y2,y3,y4,.s pid,.b pset,.i palg,aV ptgt,.sl (prules.map aB) .no,.sl (pkids.map aM) .no,aA pobls,.i s.version] 63));replace vz:=vz (some (.obj [.i s.tick,z1,y2,y3,y4,.s pid,.b pset,.i palg,aV ptgt,.sl (prules.map aB) .no,.sl (pkids.map aM) .no,aA pobls,.i s.version] 63));have q1:H2 i1=some (.obj [.i s.tick,z1,y2,y3,y4,.s pid,.b pset,.i palg,aV ptgt,.sl (prules.map aB) .no,.sl (pkids.map aM) .no,aA pobls,.i s.version] 63):=by rw[←eH2,ah]
 rw[eH2]at v1 vs vz;rw[eH2];clear eH2;simp only[go_sem,v1.rd.len,hn];refine .intro (fun m ρ G=>∃(i:Nat) (xs:List AV),G i1=some (.obj [.i s.tick,z1,y2,y3,y4,.s pid,.b pset,.i palg,aV ptgt,.sl (prules.map aB) .no,.sl (pkids.map aM) .no,aA pobls,.i s.version] 63)∧G i2=some (.obj [.i 0,.sl [] .full,.sl [] .full,.sl [] .full,.sl [] .full,.s [],.b false,.i 0,.sl [] .full,.sl [] .full,.sl [] .full,.sl [] .full,.i 0] 63)∧Ab.Sub h G∧OwE 122 h G 5 z1 xs∧xs.length=s.cases.length∧(∀j (h1:j<xs.length) (h2:j<s.cases.length),j<i→j≠i0→xs[j]=cr s.cases[j])∧(∀(h1:i0<xs.length) (h2:i0<s.cases.length),i0<i→fo h G [z1] xs[i0] s.cases[i0])∧(∀j (h1:j<xs.length) (h2:j<s.cases.length),i≤j→RdC h xs[j] s.cases[j])∧i≤s.cases.length∧m=s.cases.length - i∧
  lk ρ 1=some (.ptr i1 0)∧lk ρ 2=some (.ptr i2 0)∧lk ρ 10=some z1∧lk ρ 11=some (.i s.cases.length)∧lk ρ 12=some (.i i)) s.cases.length ?_ ?_
 ·refine⟨0,xs0,q1,vz,vs,v1,hn,fun j _ _ hj=>ab7,fun _ _ hj=>ab7,fun j a b _=>hcs j a b,ab7,rfl,?_,?_,?_,?_,?_⟩<;>simp only[go_sem]
 ·rintro m ρ G ⟨i,xs,q1,vz,vs,v1,hn,hlo,hmy,hhi,hi,rfl,r1,r2,r10,r11,r12⟩
  simp only[go_sem,r11,r12];refine .intro (fun e=>?_) (fun e=>?_)
  ·have hlt:i<s.cases.length:=ab4 e
   have hltx:i<xs.length:=ab7;have w1:=ab3 i ab7;obtain⟨f,l,ex,hfl,hlg⟩:=hhi i hltx hlt (Nat.le_refl _);have hff:=hf.fields _ (ab2 hlt);have hfg:=hf.log _ (ab2 hlt);simp only[go_sem,r10,r12];refine v1.rd.idx (e:=122) i rfl hltx nq acd fun p hp1=>?_
   have hld:=hp1.all (U:=U) (ty:=122) acj (by rw[nq,ex];rfl) (by simp only[go_sem];rw[ex];rfl)
   simp only[go_sem,hld,ex];intro i4 h4;have n41:i4≠i1:=cG h4 q1;simp only[go_sem];obtain⟨G4,eG4⟩:∃G4,upd G i4 (some (.obj [.s s.cases[i].id,.s s.cases[i].owner,.s s.cases[i].state,f,l] 122))=G4:=⟨_,rfl⟩;rw[eG4];have p1:G4 i1=some (.obj [.i s.tick,z1,y2,y3,y4,.s pid,.b pset,.i palg,aV ptgt,.sl (prules.map aB) .no,.sl (pkids.map aM) .no,aA pobls,.i s.version] 63):=aeI;have p4:G4 i4=some (.obj [.s s.cases[i].id,.s s.cases[i].owner,.s s.cases[i].state,f,l] 122):=by rw[←eG4,ah]
   have sG:Ab.Sub G G4:=afm;refine .calls (hm2 i1 (.obj [.i s.tick,z1,y2,y3,y4,.s pid,.b pset,.i palg,aV ptgt,.sl (prules.map aB) .no,.sl (pkids.map aM) .no,aA pobls,.i s.version] 63) i4 (.obj [.s s.cases[i].id,.s s.cases[i].owner,.s s.cases[i].state,f,l] 122)) [0,1,2,3,4,5,6] (.hm2 p1 p4) ace rfl ?_;simp only[go_sem,r1,qX _ _ n41.symm,qY];refine(Du i i0 (show RdC G4 (.agg [.s s.cases[i].id,.s s.cases[i].owner,.s s.cases[i].state,f,l]) s.cases[i]from⟨f,l,rfl,hfl.sub (vs.trans sG),hlg.sub (vs.trans sG)⟩) hff hfg).mono fun r G5 ⟨f',l',er,s5,cf,cl,hne,heq⟩=>?_
   subst er;have p1' :=s5 _ _ p1;have p4' :=s5 _ _ p4;refine⟨.hm2 p1' p4',?_⟩;simp only[go_sem];obtain⟨id1,hg1,o1⟩:=((v1.sub sG).sub s5).ow (by intro e;rw[e]at hltx;cases hltx)
   have t1:id1≠i1:=lO o1 p1' acd;have t2:id1≠i2:=hz2 id1 o1.nid;have t3:G4 id1≠none:=fun e=>(v1.nid o1.nid).2.1 (sG.none e)
   have o1' :=o1;obtain⟨cap,rest,ey,hid,hr,hcap,hsz⟩:=o1';have hbd:i*5+5≤(aq xs++rest).length:=by
    rw[ab1,aY hsz];omega
   have hx5:xs[i].cells.length=5:=hsz _ (ab2 hltx);have e2:List.take (i*5) (aq xs++rest)++ [.s s.cases[i].id,.s s.cases[i].owner,.s s.cases[i].state,f',l']++List.drop (i*5+5) (aq xs++rest)=aq (xs.set i (.agg [.s s.cases[i].id,.s s.cases[i].owner,.s s.cases[i].state,f',l']))++rest:=by
    refine(ld hsz i hltx 0 [.s s.cases[i].id,.s s.cases[i].owner,.s s.cases[i].state,f',l'] (abW rfl)).trans ?_;rw[Ja (by rw[hx5];rfl)]
   refine o1.idx (U:=U) (e:=122) i rfl hltx nq acd ?_;simp only[go_sem,hid];rw[e2];have t4:id1≠i4:=fun e=>(v1.nid o1.nid).2.1 (by rw[e];exact h4)
   refine⟨ab7,.hm2 (by rw[ag _ _ t1.symm];exact p1') (by rw[ag _ _ t4.symm];exact p4'),?_⟩
   simp only[go_sem,r12,w1];have ho:∀b k,k≠id1→upd G5 id1 b k=G5 k:=fun b k hk=>ag _ _ hk
   have hs6:∀b,Ab.Sub h (upd G5 id1 b):=fun b=>((vs.trans sG).trans s5).put hg1 b
   refine⟨_,?_,i+1,xs.set i (.agg [.s s.cases[i].id,.s s.cases[i].owner,.s s.cases[i].state,f',l']),(ho _ _ t1.symm).trans p1',(ho _ _ t2.symm).trans (s5 _ _ (sG _ _ vz)),hs6 _,.inr ⟨id1,hg1,cap,rest,aen,ah ..,by rw[List.length_set];exact hr,aef,?_⟩,by rw[List.length_set];exact hn,fun j a b hj hj0=>?_,fun a b hj=>?_,fun j a b hj=>?_,ab7,rfl,?_,?_,?_,?_,?_⟩
   ·omega
   ·intro z hz
    exact agR
   ·have a' :j<xs.length:=by rw[List.length_set]at a;exact a
    by_cases hji:j=i
    ·subst hji
     obtain⟨ef,el⟩:=hne hj0;rw[List.getElem_set_self,ef,el];rfl
    ·rw[List.getElem_set_ne (Ne.symm hji)]
     exact hlo j a' b ab7 hj0
   ·have a' :i0<xs.length:=by rw[List.length_set]at a;exact a
    by_cases hji:i=i0
    ·subst hji
     obtain⟨of,ol,hap⟩:=heq rfl;have kf:∀k,G4 k=none→upd G5 id1 (some (.obj (aq (xs.set i (.agg [.s s.cases[i].id,.s s.cases[i].owner,.s s.cases[i].state,f',l']))++rest) 122)) k=G5 k:=fun k hk=>ag _ _ fun e=>t3 (by rw[←e];exact hk)
     rw[List.getElem_set_self];refine⟨f',l',rfl,(of.less (vs.trans sG)).keep fun k hk=>kf k (of.nid hk).1,(ol.less (vs.trans sG)).keep fun k hk=>kf k (ol.nid hk).1,hap,fun y hy=>?_⟩
     rw[List.mem_singleton.1 hy];have hz1:∀k,nid z1=some k→G4 k≠none:=(v1.sub sG).there fun k hk=>hk
     exact⟨(dY of hz1).symm,(dY ol hz1).symm⟩
    ·rw[List.getElem_set_ne hji]
     have hm:=hmy a' b ab7;refine fo.keep (h:=G5) ((hm.sub sG).sub s5) fun f l ex hap k hk=>?_
     refine ag _ _ fun e=>?_
     subst e;rcases hk with hk|hk
     ·exact(hap z1 (List.mem_singleton.2 rfl)).1 _ hk o1.nid
     ·exact(hap z1 (List.mem_singleton.2 rfl)).2 _ hk o1.nid
   ·have a' :j<xs.length:=by rw[List.length_set]at a;exact a
    rw[List.getElem_set_ne ab7];exact hhi j a' b ab7
   all_goals simp only[go_sem,r1,r2,r10,r11]
  ·have hge:i=s.cases.length:=by have:=ab0 e;omega
   simp only[go_sem];refine .stage (hm1 i1 (.obj [.i s.tick,z1,y2,y3,y4,.s pid,.b pset,.i palg,aV ptgt,.sl (prules.map aB) .no,.sl (pkids.map aM) .no,aA pobls,.i s.version] 63)) [0,1,3,4,6,7,2,9,5,8] [10,11,12,13,14] (.hm1 q1) ace ?_;simp only[go_sem,r1,ga];refine(vj y2 _ G (h2.sub vs) (by rw[abX];exact hf.reviews)).mono fun z2 G1 ⟨o2,s1⟩=>?_
   refine⟨.hm1 (s1 _ _ q1),?_⟩;simp only[go_sem,r1];refine(vi y3 _ G1 ((h3.sub vs).sub s1) (by rw[abX];exact hf.notices)).mono fun z3 G2 ⟨o3,s2⟩=>?_
   refine⟨.hm1 (s2 _ _ (s1 _ _ q1)),?_⟩;simp only[go_sem];refine(HR y4 _ G2 (((h4.sub vs).sub s1).sub s2) (by rw[abX];exact hf.roles)).mono fun z4 G3 ⟨o4,s3⟩=>?_
   have s03:Ab.Sub G G3:=s1.trans (s2.trans s3);have q1' :=s03 _ _ q1;have q2' :=s03 _ _ vz;refine⟨.hm1 q1',dH,(fun _ _ e=>acD),?_⟩
   simp only[go_sem,r1,q1',o2.rd.fit,o2.rd.cells,o3.rd.fit,o3.rd.cells,o4.rd.fit,o4.rd.cells];refine⟨fun _ _ e=>acD,fun _ _ e=>acD,fun _ _ e=>acD,?_⟩
   refine(show ai Tryz.prog 169 [_] _ _ from hpo _).pthen ?_
   have vz' :∀b,upd G3 i1 b i2=some (.obj [.i 0,.sl [] .full,.sl [] .full,.sl [] .full,.sl [] .full,.s [],.b false,.i 0,.sl [] .full,.sl [] .full,.sl [] .full,.sl [] .full,.i 0] 63):=fun b=>by rw[ag _ _ n21];exact q2'
   simp only[go_sem,r1,r2,vz'];have k1:∀ {tb:TypeId} {z:AV} {xs:List AV} {n:Nat} {g:Heap},OwE tb g G3 n z xs→Ab.Sub h g→(∀id,nid z=some id→id≠i1∧id≠i2)→∀a b,OwE tb h (upd (upd G3 i1 a) i2 b) n z xs:=fun w hg hn a b=>(w.less hg).keep fun id e=>by
    rw[ag _ _ (hn id e).2,ag _ _ (hn id e).1]
   have new:∀ {tb:TypeId} {z:AV} {xs:List AV} {n:Nat} {g:Heap},OwE tb g G3 n z xs→Ab.Sub G g→∀id,nid z=some id→id≠i1∧id≠i2:=fun w hg id e=>⟨cG (w.nid e).1 (hg _ _ q1),cG (w.nid e).1 (hg _ _ vz)⟩
   have n2' :=new (o2.sub (s2.trans s3)) (.refl _);have n3' :=new (o3.sub s3) s1;have n4' :=new o4 (s1.trans s2);have n1' :∀id,nid z1=some id→id≠i1∧id≠i2:=fun id e=>⟨hz1 id e,hz2 id e⟩
   have aG:∀k,nid z1=some k→G k≠none:=v1.there fun k hk=>hk
   refine .mk _ (.refl _) (.refl _) ⟨⟨z1,z2,z3,z4,by rw[hpp,hcC];rfl,⟨xs,k1 (v1.sub s03) (.refl _) n1' _ _,hn,fun j a b hj=>hlo j a b ab7 hj,fun a b=>?_⟩,k1 (o2.sub (s2.trans s3)) vs n2' _ _,k1 (o3.sub s3) (vs.trans s1) n3' _ _,k1 o4 (vs.trans (s1.trans s2)) n4' _ _,?_,?_,?_,?_,?_,?_⟩,((vs.trans s03).put h1 _).put n2 _⟩
   ·have hm:=(hmy a b ab7).sub s03
    obtain⟨f,l,ex,of,ol,hap,hy⟩:=hm;obtain⟨af,al⟩:=hy z1 (List.mem_singleton.2 rfl);have kf:∀k,nid f=some k→k≠i1∧k≠i2:=fun k hk=>⟨lO (of.nid hk).2.2 q1' acd,lO (of.nid hk).2.2 q2' acd⟩
    have kl:∀k,nid l=some k→k≠i1∧k≠i2:=fun k hk=>⟨lO (ol.nid hk).2.2 q1' acd,lO (ol.nid hk).2.2 q2' acd⟩
    obtain⟨f0,l0,ex0,of0,ol0,_⟩:=hmy a b ab7;obtain⟨rfl,rfl⟩:f0=f∧l0=l:=by
     rw[ex0]at ex;simp only[AV.agg.injEq,List.cons.injEq,true_and,and_true]at ex;exact ex
    have gf:∀k,nid f0=some k→G k≠none:=of0.there fun k hk=>hk
    have gl:∀k,nid l0=some k→G k≠none:=ol0.there fun k hk=>hk
    refine⟨f0,l0,ex,k1 of (.refl _) kf _ _,k1 ol (.refl _) kl _ _,hap,fun y hy=>?_⟩
    simp only[List.mem_cons,List.not_mem_nil,or_false]at hy;rcases hy with rfl|rfl|rfl|rfl
    ·exact⟨af,al⟩
    ·exact⟨dY o2 gf,dY o2 gl⟩
    ·exact⟨dY o3 fun k hk=>s1.some k (gf k hk),dY o3 fun k hk=>s1.some k (gl k hk)⟩
    ·exact⟨dY o4 fun k hk=>(s1.trans s2).some k (gf k hk),dY o4 fun k hk=>(s1.trans s2).some k (gl k hk)⟩
   ·exact dY o2 aG
   ·exact dY o3 fun k hk=>s1.some k (aG k hk)
   ·exact dY o4 fun k hk=>(s1.trans s2).some k (aG k hk)
   ·exact dY o3 (o2.there fun k hk=>hk)
   ·exact dY o4 ((o2.sub s2).there fun k hk=>hk)
   ·exact dY o4 (o3.there fun k hk=>hk)
end Go.Proofs.YtfdgemhnlennbaaGreatDoor
namespace Go.Ab
open Go
theorem oQ{A B C X:List AV}{k m:Nat}(hk:k=A.length)(hm:m=X.length)(h:X.length=B.length):(A++(B++C)).take k++X++(A++(B++C)).drop (k+m)=A++(X++C):=by
 grind
theorem GC{A B C X:List AV}{k1 k2 k3 k4:Nat}(h1:k1=A.length+X.length)(h2:k2=k1+B.length)(h3:k3=A.length)(h4:k4=k3+X.length)(hc:X.length≤C.length):
  List.take k3 (List.take k1 (A++(B++C))++B++List.drop k2 (A++(B++C)))++X++List.drop k4 (List.take k1 (A++(B++C))++B++List.drop k2 (A++(B++C)))=A++(X++(B++C.drop X.length)):=by
 subst h1;subst h2;subst h3;subst h4
 have e1:List.take (A.length+X.length) (A++(B++C))=A++List.take X.length (B++C):=ab8;have e2:List.drop (A.length+X.length+B.length) (A++(B++C))=C.drop X.length:=by
  grind [Nat.add_assoc,List.drop_drop,List.drop_left,Nat.add_comm]
 rw[e1,e2,List.append_assoc A];have e3:(List.take X.length (B++C)).length=X.length:=by rw[List.length_take,ab1];omega
 have e4:A++(List.take X.length (B++C)++B++List.drop X.length C)=A++(List.take X.length (B++C)++(B++C.drop X.length)):=aci;rw[List.append_assoc A,e4];exact oQ rfl rfl e3.symm
theorem GD{A Z R X B:List AV}{k1 k2 k3 k4:Nat}(h1:k1=A.length)(h2:k2=k1+X.length)(h3:k3=A.length+X.length)(h4:k4=k3+B.length)(hz:Z.length=X.length+B.length):
  List.take k3 (List.take k1 (A++Z++R)++X++List.drop k2 (A++Z++R))++B++List.drop k4 (List.take k1 (A++Z++R)++X++List.drop k2 (A++Z++R))=A++(X++(B++R)):=by
 subst h1;subst h2;subst h3;subst h4
 obtain⟨Z1,Z2,rfl,e1⟩:∃Z1 Z2,Z=Z1++Z2∧Z1.length=X.length:=⟨Z.take X.length,Z.drop X.length,(List.take_append_drop _ _).symm,ab8⟩;have e2:Z2.length=B.length:=ab8;have e3:A++(Z1++Z2)++R=A++(Z1++(Z2++R)):=aci;rw[e3,oQ rfl rfl e1.symm,←List.append_assoc A X,oQ aci rfl e2.symm,List.append_assoc]
end Go.Ab
namespace Go.Proofs.YtfdgemhnlennbaaGreatDoor
open Go Go.Ab Go.Bf
theorem I8{h:Heap}{v:AV}{id off len cap:Nat}{cs:List AV}{t:TypeId}(hv:v.cells.length=5)(hid:h id=some (.obj cs t))(hcs:cs≠ []):ai Tryz.prog 170 [.sl [v] .full,.ob id off len cap 5] h fun r h' =>r= .b false∧h' =h:=
 vG (U:=U) (tS:=51) (tR:=4) (e:=122) hU Tryz.func170 acr acr acr ace acr acd (by simp only[go_sem];omega) aci hid hcs
theorem E8(y:AV)(xs:List AV)(v:AV)(i:Nat)(h0 h:Heap)(hw:OwE 122 h0 h 5 y xs)(hs0:Ab.Sub h0 h)(hi:i≤xs.length)(hl:xs.length≤1000000)(hv:v.cells.length=5)(hva:fit v 5):
  ai Tryz.prog 116 [y,.i i,.sl [v] .full] h fun r h' =>OwE 122 h0 h' 5 r (xs.take i++([v]++xs.drop i))∧(∀k,h k≠none→nid y≠some k→h' k=h k)∧∀k,nid r=some k→h k=none∨nid y=some k:=by
 rcases hw with⟨rfl,rfl⟩|⟨id,hg,cap,rest,rfl,hid,hr,hc,hsz⟩
 ·obtain rfl:i=0:=by simpa using hi
  refine ab6 Tryz.func116 95 [.tmp 6] fun hwf=>?_
  simp -implicitDefEqProofs only[go_sem];refine⟨ab7,ab7,hv,.ob acj (j0.ow (xs:=[v]) ad2 afr rfl fun id y' h' hid hw ho=>?_)⟩
  have hw' :Ow 122 h' 5 id y' [v]:=ae6;simp -implicitDefEqProofs only[go_sem];refine .same (.refl _) ⟨.inr ⟨id,hs0.none hid,hw'⟩,fun k hk _=>ho k (fun e=>hk (by rw[e];exact hid)),fun k hk=>?_⟩
  rw[show ax [y']=y' from rfl,hw'.nid]at hk
  cases hk;exact .inl hid
 ·have how:OwE 122 h0 h 5 (.ob id 0 xs.length cap 5) xs:=.inr ⟨id,hg,cap,rest,rfl,hid,hr,hc,hsz⟩
  have hfl:=aY hsz;refine ab6 Tryz.func116 95 [.tmp 6] fun hwf=>?_
  simp -implicitDefEqProofs only[go_sem];refine⟨ab7,ab7,?_⟩;cases d1:((i:Int)==(xs.length:Int))
  case true=>
   have hin:i=xs.length:=by
    have:(i:Int)=(xs.length:Int):=ae4;omega
   simp -implicitDefEqProofs only[go_sem];subst hin;refine⟨ab7,?_⟩;refine OwE.app (U:=U) (tb:=122) how hs0 (.sl aeT .full:Rd h 5 (.sl [v] .full) [v]) acj acd acf acj aci aet fun id2 y' h' g2 hor hw ho=>?_
   simp -implicitDefEqProofs only[go_sem];have e1:xs.take xs.length++([v]++xs.drop xs.length)=xs++ [v]:=aci;refine .same (.refl _) ⟨by have:OwE 122 h0 h' 5 y' (xs++ [v]):=.inr ⟨id2,g2,hw⟩;rw[←e1]at this;exact this,fun k hk hk2=>ho k fun e=>?_,fun k hk=>?_⟩
   ·rcases hor with hor|⟨l,c,ey⟩
    ·exact hk afX
    ·cases ey
     exact hk2 afR
   ·exact ahf
  have hne:i<xs.length:=by
   have:¬(i:Int)=(xs.length:Int):=ae4;omega
  have wn:IntKind.i64.wrap ((xs.length:Int)+1)=((xs.length+1:Nat):Int):=acI;have wi:=ab3 i ab7;have wm:IntKind.i64.wrap (((xs.length+1:Nat):Int) - (i:Int))=((xs.length+1 - i:Nat):Int):=acI;have f1:aq xs=aq (xs.take i)++aq (xs.drop i):=afq;have f2:(aq (xs.take i)).length=i*5:=by rw[aY (sz:=5) fun z hz=>hsz z (List.mem_of_mem_take hz),List.length_take,Nat.min_eq_left hi]
  have f3:(aq (xs.drop i)).length=(xs.length - i)*5:=by rw[aY (sz:=5) fun z hz=>hsz z (List.mem_of_mem_drop hz),List.length_drop]
  have f4:aq (xs.take i++([v]++xs.drop i))=aq (xs.take i)++(v.cells++aq (xs.drop i)):=afr;have f5:Sized 5 (xs.take i++([v]++xs.drop i)):=fun z hz=>by
   exact agS
  have f6:(xs.take i++([v]++xs.drop i)).length=xs.length+1:=acH;have f6' :(xs.take i++v::xs.drop i).length=xs.length+1:=f6;cases d2:decide ((cap:Int)<((xs.length+1:Nat):Int))
  ·have e2:=ab0 d2
   simp -implicitDefEqProofs only[go_sem,wn,d2];refine⟨ab7,?_⟩;simp -implicitDefEqProofs only[go_sem,wi];have hcs:aq xs++rest≠ []:=by
    intro e;have:=congrArg List.length e;rw[ab1,hfl]at this;simp at this;omega
   refine⟨ab7,ab7,ab7,ab7,ab7,ab7,?_⟩;refine(I8 hv hid hcs).pthen ?_;simp -implicitDefEqProofs only[go_sem];refine .calls dH [0,1,2,3,4,5,6,7,8] (fun _ _ e=>acD) ace rfl ?_
   simp -implicitDefEqProofs only[go_sem,wi,hid,Nat.sub_zero];have hmin:min (xs.length+1 - i) (xs.length+1 - (i+1))=xs.length - i:=ab7;refine⟨ab7,ab7,ab7,ab7,ab7,ab7,xs.drop i,aeL,aeB, ?q1,fun z hz=>hsz z (List.mem_of_mem_drop hz),ad3,by rw[ab1,hfl,hr];omega,afN,ab7,ab7,ab7,hv,ab7, ?ln, ?fin⟩
   case q1=>rw[hmin,f1,List.append_assoc,←f2,List.drop_left,←f3,List.take_left]
   case ln=>simp only[ab1,List.length_take,List.length_drop,hfl,hr,f3];omega
   have hrl:(5:Nat)≤rest.length:=by rw[hr];omega
   have hfv:aq [v]=v.cells:=afr;have key:=GC (A:=aq (xs.take i)) (B:=aq (xs.drop i)) (C:=rest) (X:=aq [v]) (k1:=(i+1)*5) (k2:=(i+1)*5+(aq (xs.drop i)).length) (k3:=i*5) (k4:=i*5+(aq [v]).length) afA rfl f2.symm rfl (by rw[hfv,hv];exact hrl)
   rw[←List.append_assoc (aq (xs.take i)) (aq (xs.drop i)) rest,←f1]at key;rw[key];have e8:aq (xs.take i)++(aq [v]++(aq (xs.drop i)++rest.drop (aq [v]).length))=aq (xs.take i++([v]++xs.drop i))++rest.drop 5:=by rw[f4,hfv,hv];simp only[List.append_assoc]
   rw[e8];refine .same (.refl _) ⟨.inr ⟨id,hg,cap,rest.drop 5,by rw[←f6];rfl,ah _ _ _,by rw[List.length_drop,hr,f6'];omega,adK,f5⟩,fun k hk hk2=>ag _ _ fun e=>hk2 afR,fun k hk=> .inr hk⟩
  ·have e2:=abZ d2
   simp -implicitDefEqProofs only[go_sem,wn,d2,wm];refine⟨ab7,?_⟩;simp -implicitDefEqProofs only[go_sem,hid];have eA:List.take (i*5) (aq xs++rest)=aq (xs.take i):=by rw[f1,List.append_assoc,←f2,List.take_left]
   refine⟨ab7,ab7,ab7,ab7,ab7,ab7,by rw[ab1,hfl];omega,?_⟩
   rw[Nat.sub_zero,eA];obtain⟨Z,eZ⟩:∃Z,cH (AV.agg [AV.s [],AV.s [],AV.s [],AV.sl [] Perm.full,AV.sl [] Perm.full]) (xs.length+1 - i) 5=Z:=⟨_,rfl⟩;have lZ:Z.length=(xs.length+1 - i)*5:=by rw[←eZ];simp[cH]
   rw[eZ];intro id2 cap2 rest2 hid2 hc2 hr2;have hx:¬id=id2:=fun e=>by rw[e,hid2]at hid;cases hid
   simp -implicitDefEqProofs only[go_sem];have hfv:aq [v]=v.cells:=afr;refine⟨ab7,ab7,ab7,hv,ab7,aeh,?_⟩;refine .calls dH [0,1,2,3,4,5,6,7,8] (fun _ _ e=>acD) ace rfl ?_
   simp -implicitDefEqProofs only[go_sem,wi,hid,hx,Nat.sub_zero];have hmin:min (xs.length - i) (i+(xs.length+1 - i) - (i+1))=xs.length - i:=ab7;have l0:(aq (xs.take i)++Z++rest2).length=(i+(xs.length+1 - i))*5+(cap2 - (i+(xs.length+1 - i)))*5:=aeh;refine⟨ab7,ab7,ab7,ab7,ab7,ab7,xs.drop i,aeL,aeB, ?q2,fun z hz=>hsz z (List.mem_of_mem_drop hz),ad3, ?lm,afN, ?fim⟩
   case q2=>rw[hmin,f1,List.append_assoc,←f2,List.drop_left,←f3,List.take_left]
   case lm=>rw[hfv];simp only[ab1,List.length_take,List.length_drop,l0,hv];omega
   rw[GD f2.symm rfl afA rfl (by rw[hfv,hv,lZ,f3];omega)]
   have e8:aq (xs.take i)++(aq [v]++(aq (xs.drop i)++rest2))=aq (xs.take i++([v]++xs.drop i))++rest2:=by rw[f4,hfv];simp only[List.append_assoc]
   rw[e8];have e9:i+(xs.length+1 - i)=xs.length+1:=ab7;rw[e9]at hr2 hc2⊢;refine .same (.refl _) ⟨.inr ⟨id2,hs0.none hid2,cap2,rest2,by rw[←f6];rfl,ah _ _ _,by rw[hr2,f6'],by rw[f6'];omega,f5⟩,fun k hk hk2=>ag _ _ fun e=>hk (by rw[e];exact hid2),fun k hk=> .inl (by cases hk;exact hid2)⟩
theorem Fy{h:Heap}{v:AV}{id off len cap:Nat}{cs:List AV}{t:TypeId}(hv:v.cells.length=4)(hid:h id=some (.obj cs t))(hcs:cs≠ []):ai Tryz.prog 219 [.sl [v] .full,.ob id off len cap 4] h fun r h' =>r= .b false∧h' =h:=
 vG (U:=U) (tS:=119) (tR:=4) (e:=201) hU Tryz.func219 acr acr acr ace acr acd (by simp only[go_sem];omega) aci hid hcs
theorem C1(y:AV)(xs:List AV)(v:AV)(i:Nat)(h0 h:Heap)(hw:OwE 201 h0 h 4 y xs)(hs0:Ab.Sub h0 h)(hi:i≤xs.length)(hl:xs.length≤1000000)(hv:v.cells.length=4)(hva:fit v 4):
  ai Tryz.prog 173 [y,.i i,.sl [v] .full] h fun r h' =>OwE 201 h0 h' 4 r (xs.take i++([v]++xs.drop i))∧(∀k,h k≠none→nid y≠some k→h' k=h k)∧∀k,nid r=some k→h k=none∨nid y=some k:=by
 rcases hw with⟨rfl,rfl⟩|⟨id,hg,cap,rest,rfl,hid,hr,hc,hsz⟩
 ·obtain rfl:i=0:=by simpa using hi
  refine ab6 Tryz.func173 95 [.tmp 6] fun hwf=>?_
  simp -implicitDefEqProofs only[go_sem];refine⟨ab7,ab7,hv,.ob acj (j0.ow (xs:=[v]) ad2 afr rfl fun id y' h' hid hw ho=>?_)⟩
  have hw' :Ow 201 h' 4 id y' [v]:=ae6;simp -implicitDefEqProofs only[go_sem];refine .same (.refl _) ⟨.inr ⟨id,hs0.none hid,hw'⟩,fun k hk _=>ho k (fun e=>hk (by rw[e];exact hid)),fun k hk=>?_⟩
  rw[show ax [y']=y' from rfl,hw'.nid]at hk
  cases hk;exact .inl hid
 ·have how:OwE 201 h0 h 4 (.ob id 0 xs.length cap 4) xs:=.inr ⟨id,hg,cap,rest,rfl,hid,hr,hc,hsz⟩
  have hfl:=aY hsz;refine ab6 Tryz.func173 95 [.tmp 6] fun hwf=>?_
  simp -implicitDefEqProofs only[go_sem];refine⟨ab7,ab7,?_⟩;cases d1:((i:Int)==(xs.length:Int))
  case true=>
   have hin:i=xs.length:=by
    have:(i:Int)=(xs.length:Int):=ae4;omega
   simp -implicitDefEqProofs only[go_sem];subst hin;refine⟨ab7,?_⟩;refine OwE.app (U:=U) (tb:=201) how hs0 (.sl aeT .full:Rd h 4 (.sl [v] .full) [v]) acj acd acf acj aci aet fun id2 y' h' g2 hor hw ho=>?_
   simp -implicitDefEqProofs only[go_sem];have e1:xs.take xs.length++([v]++xs.drop xs.length)=xs++ [v]:=aci;refine .same (.refl _) ⟨by have:OwE 201 h0 h' 4 y' (xs++ [v]):=.inr ⟨id2,g2,hw⟩;rw[←e1]at this;exact this,fun k hk hk2=>ho k fun e=>?_,fun k hk=>?_⟩
   ·rcases hor with hor|⟨l,c,ey⟩
    ·exact hk afX
    ·cases ey
     exact hk2 afR
   ·exact ahf
  have hne:i<xs.length:=by
   have:¬(i:Int)=(xs.length:Int):=ae4;omega
  have wn:IntKind.i64.wrap ((xs.length:Int)+1)=((xs.length+1:Nat):Int):=acI;have wi:=ab3 i ab7;have wm:IntKind.i64.wrap (((xs.length+1:Nat):Int) - (i:Int))=((xs.length+1 - i:Nat):Int):=acI;have f1:aq xs=aq (xs.take i)++aq (xs.drop i):=afq;have f2:(aq (xs.take i)).length=i*4:=by rw[aY (sz:=4) fun z hz=>hsz z (List.mem_of_mem_take hz),List.length_take,Nat.min_eq_left hi]
  have f3:(aq (xs.drop i)).length=(xs.length - i)*4:=by rw[aY (sz:=4) fun z hz=>hsz z (List.mem_of_mem_drop hz),List.length_drop]
  have f4:aq (xs.take i++([v]++xs.drop i))=aq (xs.take i)++(v.cells++aq (xs.drop i)):=afr;have f5:Sized 4 (xs.take i++([v]++xs.drop i)):=fun z hz=>by
   exact agS
  have f6:(xs.take i++([v]++xs.drop i)).length=xs.length+1:=acH;have f6' :(xs.take i++v::xs.drop i).length=xs.length+1:=f6;cases d2:decide ((cap:Int)<((xs.length+1:Nat):Int))
  ·have e2:=ab0 d2
   simp -implicitDefEqProofs only[go_sem,wn,d2];refine⟨ab7,?_⟩;simp -implicitDefEqProofs only[go_sem,wi];have hcs:aq xs++rest≠ []:=by
    intro e;have:=congrArg List.length e;rw[ab1,hfl]at this;simp at this;omega
   refine⟨ab7,ab7,ab7,ab7,ab7,ab7,?_⟩;refine(Fy hv hid hcs).pthen ?_;simp -implicitDefEqProofs only[go_sem];refine .calls dH [0,1,2,3,4,5,6,7,8] (fun _ _ e=>acD) ace rfl ?_
   simp -implicitDefEqProofs only[go_sem,wi,hid,Nat.sub_zero];have hmin:min (xs.length+1 - i) (xs.length+1 - (i+1))=xs.length - i:=ab7;refine⟨ab7,ab7,ab7,ab7,ab7,ab7,xs.drop i,aeL,aeB, ?q1,fun z hz=>hsz z (List.mem_of_mem_drop hz),ad3,by rw[ab1,hfl,hr];omega,afN,ab7,ab7,ab7,hv,ab7, ?ln, ?fin⟩
   case q1=>rw[hmin,f1,List.append_assoc,←f2,List.drop_left,←f3,List.take_left]
   case ln=>simp only[ab1,List.length_take,List.length_drop,hfl,hr,f3];omega
   have hrl:(4:Nat)≤rest.length:=by rw[hr];omega
   have hfv:aq [v]=v.cells:=afr;have key:=GC (A:=aq (xs.take i)) (B:=aq (xs.drop i)) (C:=rest) (X:=aq [v]) (k1:=(i+1)*4) (k2:=(i+1)*4+(aq (xs.drop i)).length) (k3:=i*4) (k4:=i*4+(aq [v]).length) afA rfl f2.symm rfl (by rw[hfv,hv];exact hrl)
   rw[←List.append_assoc (aq (xs.take i)) (aq (xs.drop i)) rest,←f1]at key;rw[key];have e8:aq (xs.take i)++(aq [v]++(aq (xs.drop i)++rest.drop (aq [v]).length))=aq (xs.take i++([v]++xs.drop i))++rest.drop 4:=by rw[f4,hfv,hv];simp only[List.append_assoc]
   rw[e8];refine .same (.refl _) ⟨.inr ⟨id,hg,cap,rest.drop 4,by rw[←f6];rfl,ah _ _ _,by rw[List.length_drop,hr,f6'];omega,adK,f5⟩,fun k hk hk2=>ag _ _ fun e=>hk2 afR,fun k hk=> .inr hk⟩
  ·have e2:=abZ d2
   simp -implicitDefEqProofs only[go_sem,wn,d2,wm];refine⟨ab7,?_⟩;simp -implicitDefEqProofs only[go_sem,hid];have eA:List.take (i*4) (aq xs++rest)=aq (xs.take i):=by rw[f1,List.append_assoc,←f2,List.take_left]
   refine⟨ab7,ab7,ab7,ab7,ab7,ab7,by rw[ab1,hfl];omega,?_⟩
   rw[Nat.sub_zero,eA];obtain⟨Z,eZ⟩:∃Z,cH (AV.agg [AV.s [],AV.v (Value.int IntKind.i64 0),AV.v (Value.int IntKind.i64 0),AV.s []]) (xs.length+1 - i) 4=Z:=⟨_,rfl⟩;have lZ:Z.length=(xs.length+1 - i)*4:=by rw[←eZ];simp[cH]
   rw[eZ];intro id2 cap2 rest2 hid2 hc2 hr2;have hx:¬id=id2:=fun e=>by rw[e,hid2]at hid;cases hid
   simp -implicitDefEqProofs only[go_sem];have hfv:aq [v]=v.cells:=afr;refine⟨ab7,ab7,ab7,hv,ab7,aeh,?_⟩;refine .calls dH [0,1,2,3,4,5,6,7,8] (fun _ _ e=>acD) ace rfl ?_
   simp -implicitDefEqProofs only[go_sem,wi,hid,hx,Nat.sub_zero];have hmin:min (xs.length - i) (i+(xs.length+1 - i) - (i+1))=xs.length - i:=ab7;have l0:(aq (xs.take i)++Z++rest2).length=(i+(xs.length+1 - i))*4+(cap2 - (i+(xs.length+1 - i)))*4:=aeh;refine⟨ab7,ab7,ab7,ab7,ab7,ab7,xs.drop i,aeL,aeB, ?q2,fun z hz=>hsz z (List.mem_of_mem_drop hz),ad3, ?lm,afN, ?fim⟩
   case q2=>rw[hmin,f1,List.append_assoc,←f2,List.drop_left,←f3,List.take_left]
   case lm=>rw[hfv];simp only[ab1,List.length_take,List.length_drop,l0,hv];omega
   rw[GD f2.symm rfl afA rfl (by rw[hfv,hv,lZ,f3];omega)]
   have e8:aq (xs.take i)++(aq [v]++(aq (xs.drop i)++rest2))=aq (xs.take i++([v]++xs.drop i))++rest2:=by rw[f4,hfv];simp only[List.append_assoc]
   rw[e8];have e9:i+(xs.length+1 - i)=xs.length+1:=ab7;rw[e9]at hr2 hc2⊢;refine .same (.refl _) ⟨.inr ⟨id2,hs0.none hid2,cap2,rest2,by rw[←f6];rfl,ah _ _ _,by rw[hr2,f6'],by rw[f6'];omega,f5⟩,fun k hk hk2=>ag _ _ fun e=>hk (by rw[e];exact hid2),fun k hk=> .inl (by cases hk;exact hid2)⟩
end Go.Proofs.YtfdgemhnlennbaaGreatDoor
namespace Go.Ab
open Go
noncomputable def pick (H:Heap) (l:List Nat):Heap:=fun j=>if j∈l then H j else none
theorem bD{H:Heap}{l:List Nat}{j:Nat}(hj:j∈l):pick H l j=H j:=if_pos hj
theorem iJ{H h' :Heap}{l:List Nat}(hs:∀j∈l,h' j=H j):Sub (pick H l) h' :=fun j b hb=>by
 simp_all [bD,pick,if_neg]
theorem bR{H:Heap}{l:List Nat}:Sub (pick H l) H:=iJ fun _ _=>rfl
end Go.Ab
namespace Go.Proofs.YtfdgemhnlennbaaGreatDoor
open Go Go.Ab Go.Bf
def cc(c:aL)(f l:AV):List AV:=[.s c.id,.s c.owner,.s c.state,f,l]
theorem rS{h0 h:Heap}{s:an}(y1 y2 y3 y4:AV){k o:Nat}{A B:List AV}{t:TypeId}{c:aL}{f l:AV}(ho:o=A.length)(hk:h k=some (.obj (A++(cc c f l++B)) t))(ht:t≠191)
  (hlo:OwE 191 h0 h 3 l (c.log.map iF)) (hs0:Ab.Sub h0 h) (hll:c.log.length≤1000000) (actor what:Txt):
  ai Tryz.prog 115 [.agg ([.i s.tick,y1,y2,y3,y4]++fW s.policy++ [.i s.version]),.ptr k o,.s actor,.s what] h fun r h' =>∃l',OwE 191 h0 h' 3 l' ((c.log++ [(⟨s.tick,actor,what⟩:wR)]).map iF)∧h' k=some (.obj (A++(cc c f l' ++B)) t)∧(∀j,h j≠none→j≠k→nid l≠some j→h' j=h j)∧∀j,nid l' =some j→h j=none∨nid l=some j:=by
 cases hpp:s.policy with
 |mk pid pset palg ptgt prules pkids pobls=>
 have hcC:fW (.mk pid pset palg ptgt prules pkids pobls)= [.s pid,.b pset,.i palg,aV ptgt,.sl (prules.map aB) .no,.sl (pkids.map aM) .no,aA pobls]:=ae7;refine ab6 Tryz.func115 22 [] fun hwf=>?_
 simp only[go_sem,hcC,List.cons_append,List.nil_append];intro i1 h1;simp only[go_sem];obtain⟨H,eH⟩:∃H,upd h i1 (some (.obj [.i s.tick,y1,y2,y3,y4,.s pid,.b pset,.i palg,aV ptgt,.sl (prules.map aB) .no,.sl (pkids.map aM) .no,aA pobls,.i s.version] 63))=H:=⟨_,rfl⟩;have n1k:k≠i1:=fun e=>by rw[e,h1]at hk;cases hk
 have g1:H i1=some (.obj [.i s.tick,y1,y2,y3,y4,.s pid,.b pset,.i palg,aV ptgt,.sl (prules.map aB) .no,.sl (pkids.map aM) .no,aA pobls,.i s.version] 63):=adB;have gk:H k=some (.obj (A++(cc c f l++B)) t):=by rw[←eH,ag _ _ n1k];exact hk
 have hH:Ab.Sub h H:=by rw[←eH];exact(Sub.refl h).put h1 _
 have hoj:∀j,j≠i1→H j=h j:=fun j hj=>by rw[←eH];exact ag _ _ hj
 rw[eH];clear eH;refine .stage (hm2 k (.obj (A++(cc c f l++B)) t) i1 (.obj [.i s.tick,y1,y2,y3,y4,.s pid,.b pset,.i palg,aV ptgt,.sl (prules.map aB) .no,.sl (pkids.map aM) .no,aA pobls,.i s.version] 63)) [0,1,2,3,4,5,6,7,8,9,10,11,12,13] [14] (.hm2 gk g1) ace ?_;have hc4:(A++(cc c f l++B))[o+4]? =some l:=adX;obtain⟨CS,eCS⟩:∃CS,A++(cc c f l++B)=CS:=⟨_,rfl⟩;rw[eCS]at hc4 gk⊢;simp only[go_sem,qY,qX _ _ n1k,hc4];have hap1:Rd H 3 (.sl [iF ⟨s.tick,actor,what⟩] .full) [iF ⟨s.tick,actor,what⟩]:=.sl acW .full;refine OwE.app (U:=U) (tb:=191) (hlo.sub hH) (hs0.trans hH) hap1 acj acd acf acj aci acJ fun id2 y' h' g2 hor hw ho2=>?_
 have hor' :H id2=none∨nid l=some id2:=by
  exact agK
 have k2:k≠id2:=by
  rcases hor' with hor|hor
  ·exact fun e=>by rw[←e,gk]at hor;cases hor
  ·exact(lO ((hlo.sub hH).nid hor).2.2 gk ht).symm
 have i2:i1≠id2:=by
  rcases hor' with hor|hor
  ·exact fun e=>by rw[←e,g1]at hor;cases hor
  ·exact fun e=>(hlo.nid hor).2.1 (by rw[←e];exact h1)
 have gk' :=(ho2 k k2).trans gk;have gi' :=(ho2 i1 i2).trans g1;refine⟨.hm2 gk' gi',?_⟩;simp only[go_sem];refine⟨dH,(fun _ _ e=>acD),?_⟩
 simp only[go_sem,gk',hw.rd.fit,hw.rd.cells];have lCS:CS.length=A.length+(5+B.length):=by rw[←eCS];simp[cc];omega
 have e5:List.take (o+4) CS++ [y']++List.drop (o+4+1) CS=A++(cc c f y' ++B):=by
  have:=oQ (A:=A++ [.s c.id,.s c.owner,.s c.state,f]) (B:=[l]) (C:=B) (X:=[y']) (k:=o+4) (m:=1) (by rw[ho];simp) rfl rfl
  exact ahC
 rw[e5];refine⟨ab7,(fun _ _ e=>acD),.same (.refl _) ⟨y',?_,ah ..,fun j hj hjk hjl=>?_,fun j hj=>?_⟩⟩
 ·have hw' :Ow 191 (upd h' k (some (.obj (A++(cc c f y' ++B)) t))) 3 id2 y' (c.log.map iF++ [iF ⟨s.tick,actor,what⟩]):=hw.same (ag _ _ k2.symm)
  rw[List.map_append];exact .inr ⟨id2,g2,hw'⟩
 ·have hj2:j≠id2:=by
   rcases hor' with hor|hor
   ·intro e
    have:=hoj j (fun e' =>hj (by rw[e'];exact h1))
    rw[e,hor]at this;exact hj (by rw[e];exact this.symm)
   ·exact fun e=>hjl afX
  have hj1:j≠i1:=fun e=>hj (by rw[e];exact h1)
  rw[ag _ _ hjk,ho2 j hj2,hoj j hj1]
 ·have:id2=j:=by have:=hw.nid;rw[hj]at this;exact(Option.some.inj this).symm
  rw[←this];rcases hor' with hor|hor
  ·refine .inl ?_
   cases hh:h id2 with
   |none=>rfl
   |some b=>rw[hH _ _ hh]at hor;cases hor
  ·exact .inr hor
theorem JO{h:Heap}(f:cY){k:Nat}{name:Txt}(hk:h k=some (.obj [.s name] 9)):ai Tryz.prog 172 [bN f,.ptr k 0] h fun r h' =>r= .b (geB f.name name)∧h' =h:=by
 refine ab6 Tryz.func172 8 [.tmp 3] fun hwf=>?_
 simp only[go_sem,bN];exact agt
theorem F1{fs:List cY}{name:Txt}{v:bz}(hx:¬fs.findIdx (fun f=>geB f.name name)<fs.length):fh fs name v=fs++ [⟨name,v⟩]:=by
 grind [fh,List.getElem?_eq_none,geB]
theorem zc{fs:List cY}{name:Txt}{v:bz}(hx:fs.findIdx (fun f=>geB f.name name)<fs.length)(he:fs[fs.findIdx (fun f=>geB f.name name)].name=name):fh fs name v=fs.set (fs.findIdx (fun f=>geB f.name name)) ⟨name,v⟩:=by
 simp_all [fh,List.getElem?_eq_getElem,if_true]
theorem F2{fs:List cY}{name:Txt}{v:bz}(hx:fs.findIdx (fun f=>geB f.name name)<fs.length)(he:fs[fs.findIdx (fun f=>geB f.name name)].name≠name):fh fs name v=fs.take (fs.findIdx (fun f=>geB f.name name))++ [⟨name,v⟩]++fs.drop (fs.findIdx (fun f=>geB f.name name)):=by
 simp_all [fh,List.getElem?_eq_getElem,if_false]
theorem Mx{h0 h:Heap}{k o:Nat}{A B:List AV}{t:TypeId}{c:aL}{f l:AV}(ho:o=A.length)(hk:h k=some (.obj (A++(cc c f l++B)) t))(ht:t≠201)
  (hfo:OwE 201 h0 h 4 f (c.fields.map bN)) (hs0:Ab.Sub h0 h) (hff:c.fields.length≤1000000) (name:Txt) (v:bz):
  ai Tryz.prog 117 [.ptr k o,.s name,aS v] h fun r h' =>∃f',OwE 201 h0 h' 4 f' ((fh c.fields name v).map bN)∧h' k=some (.obj (A++(cc c f' l++B)) t)∧(∀j,h j≠none→j≠k→nid f≠some j→h' j=h j)∧∀j,nid f' =some j→h j=none∨nid f=some j:=by
 have hc3:(A++(cc c f l++B))[o+3]? =some f:=adX;have lCS:(A++(cc c f l++B)).length=A.length+(5+B.length):=by simp[cc];omega
 have e5:∀y',List.take (o+3) (A++(cc c f l++B))++ [y']++List.drop (o+3+1) (A++(cc c f l++B))=A++(cc c y' l++B):=fun y' =>by
  have:=oQ (A:=A++ [.s c.id,.s c.owner,.s c.state]) (B:=[f]) (C:=l::B) (X:=[y']) (k:=o+3) (m:=1) (by rw[ho];simp) rfl rfl
  exact ahL
 obtain⟨CS,eCS⟩:∃CS,A++(cc c f l++B)=CS:=⟨_,rfl⟩;rw[eCS]at hc3 hk lCS e5;refine ab6 Tryz.func117 60 [] fun hwf=>?_
 simp only[go_sem,aS];intro i1 h1;simp only[go_sem];intro i2 h2;have n21:=aH h2;have n2:=aC h2;have nk1:k≠i1:=fun e=>by rw[e,h1]at hk;cases hk
 have nk2:k≠i2:=fun e=>by rw[e,n2]at hk;cases hk
 obtain⟨H,eH⟩:∃H,upd (upd h i1 (some (.obj [.s name] 9))) i2 (some (.obj [.i v.kind,.i v.n,.s v.s] 33))=H:=⟨_,rfl⟩;have g1:H i1=some (.obj [.s name] 9):=adI;have g2:H i2=some (.obj [.i v.kind,.i v.n,.s v.s] 33):=adB;have gk:H k=some (.obj CS t):=by rw[←eH,ag _ _ nk2,ag _ _ nk1];exact hk
 have hH:Ab.Sub h H:=ac9;have hoj:∀j,h j≠none→H j=h j:=fun j hj=>by rw[←eH,ag _ _ (fun e=>hj (by rw[e];exact n2)),ag _ _ (fun e=>hj (by rw[e];exact h1))]
 rw[eH];clear eH;simp only[go_sem,gk,hc3];refine(xU f _ c.fields (fun f=>geB f.name name) _ [.ptr i1 0] _ (hfo.sub hH).rd aci acH (oC (fun _=>rfl) _) fun i a b=>by
  rw[abY];exact JO _ g1).pthen ?_
 have hns:∀G,Ab.Sub dH G:=fun G _ _ e=>acD
 by_cases hx:c.fields.findIdx (fun f=>geB f.name name)<c.fields.length
 ·obtain⟨i,ei⟩:∃i,c.fields.findIdx (fun f=>geB f.name name)=i:=⟨_,rfl⟩
  have hxm:i<(c.fields.map bN).length:=by rw[←ei];simpa using hx
  have e1:ixD (fun f=>geB f.name name) c.fields=(i:Nat):=by rw[ixD,ei];exact if_pos (by rw[←ei];exact hx)
  have d1:decide (((i:Nat):Int)<0)=false:=decide_eq_false ab7;rw[e1];simp only[go_sem,d1];refine⟨.of ace,?_⟩;simp only[go_sem,gk,hc3];refine(hfo.sub hH).rd.idx (e:=201) i rfl hxm FX acd fun p hp1=>?_
  simp only[go_sem];refine hp1.field (f:=0) (off:=0) (t:=9) rfl JH fun p2 hp2=>?_
  have hld:=hp2.part (U:=U) (ty:=9) JH (by rw[abY,Mo];exact abW rfl)
  simp only[go_sem,hld,abY,bN,g1];have hxi:i<c.fields.length:=by rw[←ei];exact hx
  cases d2:(c.fields[i].name==name)
  ·have hne:c.fields[i].name≠name:=by simpa using d2
   simp only[go_sem];refine .stage (pick H [k,i1,i2]) [0,1,2,3,4,5,6,7,8,9,10,11,12] [13] bR ace ?_;simp only[go_sem,bD (show k∈ [k,i1,i2] by simp),bD (show i1∈ [k,i1,i2] by simp),bD (show i2∈ [k,i1,i2] by simp),gk,g1,g2,hc3]
   refine(C1 f _ (bN ⟨name,v⟩) i h0 H (hfo.sub hH) (hs0.trans hH) ab7 (by simpa using hff) rfl (by simp[bN,Ab.fit])).mono fun f' H1 ⟨w1,fr,ap⟩=>?_
   have nk:nid f≠some k:=fun e=>lO ((hfo.sub hH).nid e).2.2 gk ht rfl
   have n1' :nid f≠some i1:=fun e=>(hfo.nid e).2.1 h1
   have n2' :nid f≠some i2:=fun e=>(hfo.nid e).2.1 n2
   have gk' :H1 k=some (.obj CS t):=(fr k (by rw[gk];simp) nk).trans gk
   refine⟨iJ fun j hj=>?_,?_⟩
   ·simp only[List.mem_cons,List.not_mem_nil,or_false]at hj
    rcases hj with rfl|rfl|rfl
    ·exact fr _ (by rw[gk];simp) nk
    ·exact fr _ (by rw[g1];simp) n1'
    ·exact fr _ (by rw[g2];simp) n2'
   simp only[go_sem];refine⟨dH,hns _,?_⟩;simp only[go_sem,gk',w1.rd.fit,w1.rd.cells];have hk2:nid f'≠some k:=fun e=>by
    rcases ap k e with h|h
    ·rw[gk]at h;cases h
    ·exact nk h
   have em:List.take i (c.fields.map bN)++([bN ⟨name,v⟩]++List.drop i (c.fields.map bN))=(fh c.fields name v).map bN:=by
    rw[F2 hx (by simp only[ei];exact hne),ei]
    simp[List.map_append,List.map_take,List.map_drop]
   rw[e5];rw[em]at w1;refine⟨ab7,hns _,.same (.refl _) ⟨f',w1.keep fun id e=>ag _ _ fun e' =>hk2 (by rw[←e'];exact e),ah ..,fun j hj hjk hjl=>?_,fun j hj=>?_⟩⟩
   ·rw[ag _ _ hjk,fr j (by rw[hoj j hj];exact hj) hjl,hoj j hj]
   ·rcases ap j hj with h|h
    ·exact .inl (hH.none h)
    ·exact .inr h
  ·have heq:c.fields[i].name=name:=by simpa using d2
   simp only[go_sem];refine⟨.of ace,?_⟩;simp only[go_sem,gk,g2,hc3];obtain⟨id1,hg1,o1⟩:=(hfo.sub hH).ow (by intro e;rw[e]at hxm;cases hxm)
   have t1:id1≠k:=lO o1 gk ht;have o1' :=o1;obtain⟨cap,rest,ey,hid,hr,hcap,hsz⟩:=o1';refine o1.idx (U:=U) (e:=201) i rfl hxm FX acd ?_;simp only[go_sem,hid];have hxl:=abY (f:=bN) (l:=c.fields) (i:=i) (h:=hxm);have e2:List.take (i*4+1) (aq (c.fields.map bN)++rest)++ [.i v.kind,.i v.n,.s v.s]++List.drop (i*4+1+3) (aq (c.fields.map bN)++rest)=aq ((fh c.fields name v).map bN)++rest:=by
    refine(ld hsz i hxm 1 [.i v.kind,.i v.n,.s v.s] (abW rfl)).trans ?_;rw[zc hx (by simp only[ei];exact heq),ei,List.map_set,hxl]
    have:AV.agg (over (bN c.fields[i]).cells 1 [.i v.kind,.i v.n,.s v.s])=bN ⟨name,v⟩:=by rw[←heq];rfl
    rw[this]
   have lw:(fh c.fields name v).length=c.fields.length:=by rw[zc hx (by simp only[ei];exact heq),List.length_set]
   rw[e2];refine⟨by rw[ab1,aY hsz];omega,.same (.refl _) ⟨f,.inr ⟨id1,hg1,cap,rest,by rw[ey];simp[lw],ah ..,by rw[hr];simp[lw],by rw[abX]at hcap⊢;omega,bu (f:=bN) (n:=4) (fun _=>rfl) _⟩,(ag _ _ t1.symm).trans (by rw[eCS];exact gk),fun j hj hjk hjl=>?_,fun j hj=> .inr hj⟩⟩
   have:j≠id1:=fun e=>hjl (by rw[e];exact o1.nid)
   rw[ag _ _ this,hoj j hj]
 ·have e1:ixD (fun f=>geB f.name name) c.fields= -1:=by rw[ixD];exact if_neg hx
  have d1:decide ((-1:Int)<0)=true:=rfl;rw[e1];simp only[go_sem,d1];refine .stage (pick H [k,i1,i2]) [0,1,2,3,4,5,6,7,8,9,10,11] [12] bR ace ?_;simp only[go_sem,bD (show k∈ [k,i1,i2] by simp),bD (show i1∈ [k,i1,i2] by simp),bD (show i2∈ [k,i1,i2] by simp),gk,g1,g2,hc3]
  have hap1:Rd H 4 (.sl [bN ⟨name,v⟩] .full) [bN ⟨name,v⟩]:=.sl acW .full;refine OwE.app (U:=U) (tb:=201) (hfo.sub hH) (hs0.trans hH) hap1 acj acd acf acj aci acJ fun id2 y' h' g3 hor hw ho2=>?_
  have hor' :H id2=none∨nid f=some id2:=by
   exact agK
  have k2:k≠id2:=by
   rcases hor' with hor|hor
   ·exact fun e=>by rw[←e,gk]at hor;cases hor
   ·exact(lO ((hfo.sub hH).nid hor).2.2 gk ht).symm
  have j1:i1≠id2:=by
   rcases hor' with hor|hor
   ·exact fun e=>by rw[←e,g1]at hor;cases hor
   ·exact fun e=>(hfo.nid hor).2.1 (by rw[←e];exact h1)
  have j2:i2≠id2:=by
   rcases hor' with hor|hor
   ·exact fun e=>by rw[←e,g2]at hor;cases hor
   ·exact fun e=>(hfo.nid hor).2.1 (by rw[←e];exact n2)
  refine⟨iJ fun j hj=>ho2 j ?_,?_⟩
  ·simp only[List.mem_cons,List.not_mem_nil,or_false]at hj
   rcases hj with rfl|rfl|rfl
   ·exact k2
   ·exact j1
   ·exact j2
  have gk' :=(ho2 k k2).trans gk;simp only[go_sem];refine⟨dH,hns _,?_⟩;simp only[go_sem,gk',hw.rd.fit,hw.rd.cells];rw[e5,F1 hx];refine⟨ab7,hns _,.same (.refl _) ⟨y',?_,ah ..,fun j hj hjk hjl=>?_,fun j hj=>?_⟩⟩
  ·have hw' :Ow 201 (upd h' k (some (.obj (A++(cc c y' l++B)) t))) 4 id2 y' (c.fields.map bN++ [bN ⟨name,v⟩]):=hw.same (ag _ _ k2.symm)
   rw[List.map_append];exact .inr ⟨id2,g3,hw'⟩
  ·have hj2:j≠id2:=by
    rcases hor' with hor|hor
    ·intro e
     have:=hoj j hj;rw[e,hor]at this;exact hj (by rw[e];exact this.symm)
    ·exact fun e=>hjl afX
   rw[ag _ _ hjk,ho2 j hj2,hoj j hj]
  ·have:id2=j:=by have:=hw.nid;rw[hj]at this;exact(Option.some.inj this).symm
   rw[←this];rcases hor' with hor|hor
   ·exact .inl (hH.none hor)
   ·exact .inr hor
theorem Cl{cs:List aL}{id:Txt}(h:bY cs id=true):bw cs id=cs[findD cs id]'(jD h):=by
 simp_all [bw,if_pos,List.getD_eq_getElem?_getD,List.getElem?_eq_getElem,jD]
theorem Cm{cs:List aL}{id:Txt}(h:bY cs id=false):bw cs id=ou:=by
 simp_all [bw,if_neg]
theorem lY{g h:Heap}{p:Perm}:Frz g h (.sl [] p) (.sl [] .no):=.sl _ _ _ rfl ab7 aci
theorem CP{g h:Heap}(c:aL):Frz g h (cr c) (cr c):=.agg _ _ rfl fun j a b=>by
 rcases j with _|_|_|_|_|j
 ·exact acw
 ·exact acw
 ·exact acw
 ·exact .pure (show cJ (gv c.fields)=true from bt (fun _=>rfl) c.fields)
 ·exact .pure (show cJ (rY c.log)=true from bt (fun _=>rfl) c.log)
 ·simp[mU]at a;omega
theorem Bp{h:Heap}{x:AV}{s:an}(hb:RdS h x s)(id:Txt)(hf:Few s):ai Tryz.prog 59 [x,.s id] h fun r h' =>r= .tup [cr (bw s.cases id),.b (bY s.cases id)]∧h' =h:=
 ai.freeze fun g hg _=>by
 replace hb:=hb.sub hg;have hb0:=hb;obtain⟨y1,y2,y3,y4,rfl,⟨xs,hc,hn,hcs⟩,h2,h3,h4⟩:=hb;cases hpp:s.policy with
 |mk pid pset palg ptgt prules pkids pobls=>
 have hcC:fW (.mk pid pset palg ptgt prules pkids pobls)= [.s pid,.b pset,.i palg,aV ptgt,.sl (prules.map aB) .no,.sl (pkids.map aM) .no,aA pobls]:=ae7;rw[hpp,hcC]at hb0;refine ab6 Tryz.func59 23 [.cell 4 122,.tmp 5] fun hwf=>?_
 simp only[go_sem,hcC,List.cons_append,List.nil_append];intro i1 h1;simp only[go_sem];intro i2 h2';have n21:=aH h2';have n2:=aC h2';simp only[go_sem,ak,n21.symm];have hs:∀a b,Ab.Sub g (upd (upd g i1 a) i2 b):=fun a b=>((Sub.refl g).put h1 a).put n2 b
 refine(Bx (hb0.sub (hs _ _)) id hf.cases).pthen ?_;cases d1:bY s.cases id
 ·simp only[go_sem]
  refine .mk _ (.refl _) (.refl _) ⟨hs _ _,.tup [.agg [.s [],.s [],.s [],.sl [] .no,.sl [] .no],.b false],.tup _ _ rfl fun i a b=>?_,by rw[Cm d1];rfl⟩
  rcases i with _|_|i
  ·refine .agg _ _ rfl fun j c d=>?_
   rcases j with _|_|_|_|_|j
   ·exact acw
   ·exact acw
   ·exact acw
   ·exact lY
   ·exact lY
   grind
  ·exact acw
  grind
 ·have hlt:=jD d1
  have hltx:findD s.cases id<xs.length:=ab7;obtain⟨f,l,ex,hfl,hlg⟩:=hcs _ hltx hlt;simp only[go_sem,ak,n21.symm];refine hc.idx (e:=122) (findD s.cases id) rfl hltx nq acd fun p hp1=>?_
  have hld:=fun a b=>(hp1.sub (hs a b)).all (U:=U) (ty:=122) acd (by rw[nq,ex];rfl) (by simp only[go_sem];rw[ex];rfl)
  simp only[go_sem,hld];refine(vH ((hcs _ hltx hlt).sub (hs _ _)) (hf.fields _ (ab2 hlt)) (hf.log _ (ab2 hlt))).pthen ?_;rw[←Cl d1];simp only[go_sem,cr,mU,gv,rY];refine .mk _ (.refl _) (.refl _) ⟨hs _ _,_,.tup _ _ rfl fun i a b=>?_,rfl⟩
  rcases i with _|_|i
  ·exact CP _
  ·exact acw
  grind
theorem BU{h:Heap}{x:AV}{s:an}(hb:RdS h x s)(o:OpD)(hf:Few s):ai Tryz.prog 101 [x,opA o] h fun r h' =>r= .i (bX s o)∧h' =h:=by
 have hb0:=hb;obtain⟨y1,y2,y3,y4,rfl,⟨xs,hc,hn,hcs⟩,h2,h3,h4⟩:=hb;cases hpp:s.policy with
 |mk pid pset palg ptgt prules pkids pobls=>
 have hcC:fW (.mk pid pset palg ptgt prules pkids pobls)= [.s pid,.b pset,.i palg,aV ptgt,.sl (prules.map aB) .no,.sl (pkids.map aM) .no,aA pobls]:=ae7;rw[hpp,hcC]at hb0;refine ab6 Tryz.func101 67 [.tmp 4] fun hwf=>?_
 simp -implicitDefEqProofs only[go_sem,hcC,opA,opC,List.cons_append,List.nil_append];intro i1 h1;simp -implicitDefEqProofs only[go_sem];intro i2 h2';have n21:=aH h2';have n2:=aC h2';simp -implicitDefEqProofs only[go_sem,ak,n21.symm];have hs:∀a b,Ab.Sub h (upd (upd h i1 a) i2 b):=fun a b=>((Sub.refl h).put h1 a).put n2 b
 refine(Bp (hb0.sub (hs _ _)) o.case hf).pthen ?_;simp -implicitDefEqProofs only[go_sem,cr,mU,gv,rY];intro i3 h3';have n32:=aH h3';have h3b:=aC h3';have n31:=aH h3b;have n3:=aC h3b;have hs3:∀a b d,Ab.Sub h (upd (upd (upd h i1 a) i2 b) i3 d):=fun a b d=>(((Sub.refl h).put h1 a).put n2 b).put n3 d
 have hA:=(fun a b d=>Sub.trans (Sub.refl h) (hs3 a b d))
 simp -implicitDefEqProofs only[go_sem,ak,n32.symm];have hfl:(bw s.cases o.case).fields.length≤1000000000:=by
  unfold bw;split
  ·rename_i ht
   have hlt:=jD ht;rw[List.getD_eq_getElem?_getD,List.getElem?_eq_getElem hlt];exact Nat.le_trans (hf.fields _ (ab2 hlt)) acd
  decide
 cases d1:bY s.cases o.case
 ·simp -implicitDefEqProofs only[go_sem]
  exact .mk _ (.refl _) (hs3 _ _ _) ⟨by simp only[bX,d1];rfl,rfl⟩
 ·simp -implicitDefEqProofs only[go_sem,ak,n32.symm]
  cases k3:(o.kind==3)
  ·have p3:o.kind≠3:=by grind
   simp -implicitDefEqProofs only[go_sem];cases k2:(o.kind==2)
   ·have p2:o.kind≠2:=by grind
    have k2n:(o.kind !=2)=true:=ab8;cases d256:decide ((256:Int)≤((bw s.cases o.case).log.length:Int))
    ·have p256:¬256≤(bw s.cases o.case).log.length:=by grind
     simp -implicitDefEqProofs only[go_sem,ak,n32.symm,abX,k3,k2n,d256];cases k4:(o.kind==4)
     ·have p4:o.kind≠4:=by grind
      exact agr
     ·have p4:o.kind=4:=by grind
      simp -implicitDefEqProofs only[go_sem,ak,n32.symm];refine(EZ _ _ _).pthen ?_;cases dfo:mw (bw s.cases o.case).state o.to
      ·exact agr
      ·exact agr
    ·have p256:256≤(bw s.cases o.case).log.length:=by grind
     simp -implicitDefEqProofs only[go_sem,abX,k2n,d256];exact .mk _ (.refl _) (hs3 _ _ _) ⟨adO,rfl⟩
   ·have p2:o.kind=2:=by grind
    have k2n:(o.kind !=2)=false:=ab8;simp -implicitDefEqProofs only[go_sem,ak,n32.symm,k3,k2n];cases k4:(o.kind==4)
    ·have p4:o.kind≠4:=by omega
     exact agr
    ·have p4:o.kind=4:=by grind
     omega
  ·have p3:o.kind=3:=by grind
   cases d16:decide ((16:Int)≤((bw s.cases o.case).fields.length:Int))
   ·have p16:¬16≤(bw s.cases o.case).fields.length:=by grind
    simp -implicitDefEqProofs only[go_sem,abX,d16];exact agk
   ·have p16:16≤(bw s.cases o.case).fields.length:=by grind
    simp -implicitDefEqProofs only[go_sem,ak,n32.symm,abX,d16];refine(CJ (show RdC _ (.agg [.s (bw s.cases o.case).id,.s (bw s.cases o.case).owner,.s (bw s.cases o.case).state,AV.sl ((bw s.cases o.case).fields.map bN) .no,AV.sl ((bw s.cases o.case).log.map iF) .no]) (bw s.cases o.case)from rdC _ _) o.field hfl).pthen ?_
    simp -implicitDefEqProofs only[go_sem,aS];cases dv:((eO (bw s.cases o.case).fields o.field).kind==(0:Int) && ((eO (bw s.cases o.case).fields o.field).n==(0:Int) && (eO (bw s.cases o.case).fields o.field).s==([]:Txt)))
    ·have pv:eqV (eO (bw s.cases o.case).fields o.field) au=false:=dv
     simp -implicitDefEqProofs only[go_sem];exact agk
    ·have pv:eqV (eO (bw s.cases o.case).fields o.field) au=true:=dv
     exact agr
theorem zC{h:Heap}{x:AV}{s:an}(hb:RdS h x s)(o:OpD)(hf:Few s)(h0:0<o.review)(hr:o.review≤9223372036854775807):ai Tryz.prog 102 [x,opA o] h fun r h' =>r= .i (fR s o)∧h' =h:=by
 obtain⟨y1,y2,y3,y4,rfl,⟨xs,hc,hn,hcs⟩,h2,h3,h4⟩:=hb;cases hpp:s.policy with
 |mk pid pset palg ptgt prules pkids pobls=>
 have hcC:fW (.mk pid pset palg ptgt prules pkids pobls)= [.s pid,.b pset,.i palg,aV ptgt,.sl (prules.map aB) .no,.sl (pkids.map aM) .no,aA pobls]:=ae7;have hfr:=hf.reviews;refine ab6 Tryz.func102 35 [.tmp 4] fun hwf=>?_
 simp only[go_sem,hcC,opA,opC,List.cons_append,List.nil_append];intro i1 h1;simp only[go_sem];intro i2 h2';have n21:=aH h2';have n2:=aC h2';have hs:∀a b,Ab.Sub h (upd (upd h i1 a) i2 b):=fun a b=>((Sub.refl h).put h1 a).put n2 b
 simp only[go_sem,ak,n21.symm,h2.len,abX];obtain⟨n,en⟩:∃n:Nat,o.review=((n:Nat):Int)+1:=⟨(o.review - 1).toNat,ab7⟩;have e1:vJ s.reviews o.review=s.reviews[n]? :=by
  unfold vJ;rw[if_pos ab7,show(o.review - 1).toNat=n by omega]
 have w1:IntKind.i64.wrap (o.review - 1)=((n:Nat):Int):=acn;cases dlt:decide ((s.reviews.length:Int)<o.review)
 ·have hlt:n<s.reviews.length:=by grind
  have hgl:vJ s.reviews o.review=some s.reviews[n]:=ab8;simp only[go_sem,ak,n21.symm,w1];refine h2.idx (e:=135) n rfl ab8 acr acd fun p hp1=>?_
  simp only[go_sem];refine hp1.field (f:=6) (off:=6) (t:=4) rfl acd fun p2 hp2=>?_
  have hld:=fun a b=>(hp2.sub (hs a b)).part (U:=U) (ty:=4) acd (by rw[abY,show(U 4).sz=1 by rfl];exact abW rfl)
  simp only[go_sem,hld,abY,iK];cases dop:s.reviews[n].isOpen
  ·exact agN
  ·simp only[go_sem,ak,n21.symm]
   refine⟨.of ace,?_⟩;simp only[go_sem,w1];refine h2.idx (e:=135) n rfl ab8 acr acd fun p hp1=>?_
   simp only[go_sem];refine hp1.field (f:=2) (off:=2) (t:=9) rfl JH fun p2 hp2=>?_
   have hld:=fun a b=>(hp2.sub (hs a b)).part (U:=U) (ty:=9) JH (by rw[abY,Mo];exact abW rfl)
   simp only[go_sem,hld,abY,iK];cases dsu:(s.reviews[n].subj==o.subj)
   ·have psu:s.reviews[n].subj≠o.subj:=by grind
    exact agN
   ·have psu:s.reviews[n].subj=o.subj:=by grind
    exact agN
 ·have hge:¬n<s.reviews.length:=by grind
  have hgn:vJ s.reviews o.review=none:=ab8;exact agN
theorem DM{h:Heap}{x:AV}{s:an}(hb:RdS h x s)(o:OpD)(hf:Few s)(hr:i64 o.review)(ht:i64 s.tick):ai Tryz.prog 51 [x,opA o] h fun r h' =>r= .i (bL s o)∧h' =h:=by
 have hb0:=hb;have hfo:=Gs o;have hrc:=fun(G:Heap) (hG:Ab.Sub h G)=>BU (hb.sub hG) o hf
 have hrl:=fun(G:Heap) (hG:Ab.Sub h G) (a:0<o.review)=>zC (hb.sub hG) o hf a hr.2
 have hfi:=fun(G:Heap) (hG:Ab.Sub h G)=>Bx (hb.sub hG) o.case hf.cases
 have hha:=fun(G:Heap) (hG:Ab.Sub h G)=>E6 (hb.sub hG) o.case o.field (Nat.le_trans hf.roles acd)
 obtain⟨y1,y2,y3,y4,rfl,⟨xs,hc,hn,hcs⟩,h2,h3,h4⟩:=hb;cases hpp:s.policy with
 |mk pid pset palg ptgt prules pkids pobls=>
 have hcC:fW (.mk pid pset palg ptgt prules pkids pobls)= [.s pid,.b pset,.i palg,aV ptgt,.sl (prules.map aB) .no,.sl (pkids.map aM) .no,aA pobls]:=ae7;rw[hpp,hcC]at hb0 hrc hrl hfi hha;simp only[opA,opC,List.cons_append,List.nil_append]at hfo hrc hrl hfi hha;refine ab6 Tryz.func51 63 [.tmp 4] fun hwf=>?_
 simp only[go_sem,hcC,opA,opC,List.cons_append,List.nil_append];intro i1 h1;simp only[go_sem];intro i2 h2';have n21:=aH h2';have n2:=aC h2';have hs:∀a b,Ab.Sub h (upd (upd h i1 a) i2 b):=fun a b=>((Sub.refl h).put h1 a).put n2 b
 simp only[go_sem];refine(hfo _).pthen ?_;cases dform:dF o
 ·exact ago
 ·simp only[go_sem]
  have hok:okD o=true:=by simp_all [dF,dP,Bool.and_eq_true]
  by_cases p1:o.kind=1
  ·have k1:(o.kind==1)=true:=by grind
   simp only[go_sem,ak,n21.symm,k1];refine(hfi _ (hs _ _)).pthen ?_;cases dth:bY s.cases o.case
   ·simp only[go_sem,ak,n21.symm,hc.len,hn]
    cases d64:decide ((64:Int)≤(s.cases.length:Int))
    ·have p64:¬64≤s.cases.length:=by grind
     exact ago
    ·have p64:64≤s.cases.length:=by grind
     exact ago
   ·exact ago
  have k1:(o.kind==1)=false:=ab8;simp only[go_sem,k1]
  by_cases p2:o.kind=2
  ·have k2:(o.kind==2)=true:=by grind
   simp only[go_sem,ak,n21.symm,k2];refine(hrc _ (hs _ _)).pthen ?_;exact ago
  have k2:(o.kind==2)=false:=ab8;simp only[go_sem,k2]
  by_cases p3:o.kind=3
  ·have k3:(o.kind==3)=true:=by grind
   simp only[go_sem,ak,n21.symm,k3];refine(hrc _ (hs _ _)).pthen ?_;exact ago
  have k3:(o.kind==3)=false:=ab8;simp only[go_sem,k3]
  by_cases p4:o.kind=4
  ·have k4:(o.kind==4)=true:=by grind
   simp only[go_sem,ak,n21.symm,k4];refine(hrc _ (hs _ _)).pthen ?_;exact ago
  have k4:(o.kind==4)=false:=ab8;simp only[go_sem,k4]
  by_cases p5:o.kind=5
  ·have k5:(o.kind==5)=true:=by grind
   simp only[go_sem,ak,n21.symm,k5];have hrv:0<o.review:=by grind [okD]
   refine(hrl _ (hs _ _) hrv).pthen ?_;exact ago
  have k5:(o.kind==5)=false:=ab8;simp only[go_sem,k5]
  by_cases p6:o.kind=6
  ·have k6:(o.kind==6)=true:=by grind
   simp only[go_sem,ak,n21.symm,k6];simp only[go_sem,h4.len,abX];cases d64:decide ((64:Int)≤(s.roles.length:Int))
   ·have p64:¬64≤s.roles.length:=by grind
    exact ago
   ·have p64:64≤s.roles.length:=by grind
    simp only[go_sem,ak,n21.symm];refine(hha _ (hs _ _)).pthen ?_;cases dha:xO s.roles ⟨o.case,o.field⟩
    ·exact ago
    ·exact ago
  have k6:(o.kind==6)=false:=ab8;simp only[go_sem,k6]
  by_cases p8:o.kind=8
  ·have k8:(o.kind==8)=true:=by grind
   simp only[go_sem,ak,n21.symm,k8];have hrv:0<o.review∧o.review≤1099511627776:=by grind [okD]
   have w1:IntKind.i64.wrap (1099511627776 - o.review)=1099511627776 - o.review:=bf _ ab7;cases dt:decide (1099511627776 - o.review<s.tick)
   ·have pt:¬1099511627776 - o.review<s.tick:=ab0 dt
    simp only[go_sem,w1,dt];exact .mk _ (.refl _) (hs _ _) ⟨adF,rfl⟩
   ·have pt:1099511627776 - o.review<s.tick:=abZ dt
    simp only[go_sem,w1,dt];exact .mk _ (.refl _) (hs _ _) ⟨adF,rfl⟩
  have k8:(o.kind==8)=false:=ab8;simp only[go_sem,k8];exact .mk _ (.refl _) (hs _ _) ⟨by have:¬(2≤o.kind∧o.kind≤4):=ab7;simp only[bL,dform,p1,p5,p6,p8,this,if_false,Bool.true_eq_false,ax],rfl⟩
end Go.Proofs.YtfdgemhnlennbaaGreatDoor
namespace Go.Bf
open Go Go.Ab
structure rB where
 kind:Int
 pos:Int
 n:Int
 s:Txt
def fJ(t:rB):AV:=.agg [.i t.kind,.i t.pos,.i t.n,.s t.s]
def wrd(c:UInt8):Bool:=ltr c||dgt c||(c.toNat:Int)==95
def pN(l:Txt):Nat:=l.foldl (fun n c=>n*10+(c.toNat - 48)) 0
def eY(neg:Bool)(s:Txt):Int×Nat:=
 let d:=s.takeWhile dgt
 if d= []∨(1<d.length∧s.head? =some 48)then(0,0)else
 let v:Int:=if neg then -(pN d:Int)else(pN d:Int)
 if -9223372036854775808≤v∧v≤9223372036854775807 then(v,d.length)else(0,0)
def jE(s:Txt):Txt:=if bp (s.takeWhile wrd)then s.takeWhile wrd else []
def jF(c:UInt8):Int:=if dgt c then(c.toNat:Int) - 48 else if 97≤(c.toNat:Int)∧(c.toNat:Int)≤102 then(c.toNat:Int) - 87 else -1
def tc:Txt→Option UInt8
 |b::x::y::_=>if b=92∧0≤jF x∧0≤jF y∧Fw (UInt8.ofNat (16*jF x+jF y).toNat)=true then some (UInt8.ofNat (16*jF x+jF y).toNat)else none
 |_=>none
def tL:Nat→Txt→Nat→Txt→Txt×Nat
 |0,_,_,_=>([],0)
 |_+1,[],_,_=>([],0)
 |f+1,c::r,at_,out=>
  if c=34 then(if 64<out.length then([],0)else(out,at_+1))
  else if Fw c=false then tL f r (at_+1) (out++ [c])
  else match tc (c::r)with
   |some b=>tL f (r.drop 2) (at_+3) (out++ [b])
   |none=>([],0)
def yU(s:Txt):Txt×Nat:=tL s.length (s.drop 1) 1 []
def Df(c:UInt8):Bool:=c∈([123,125,40,41,46,44,59,61,60,62,33]:Txt)
def bQ(s:Txt):rB×Nat:=
 let c:=s.headD 0
 if ltr c then(⟨1,0,0,jE s⟩,(jE s).length)
 else if dgt c then(⟨2,0,(eY false s).1,[]⟩,(eY false s).2)
 else if c=45 then(⟨2,0,(eY true (s.drop 1)).1,[]⟩,if(eY true (s.drop 1)).1=0 then 0 else(eY true (s.drop 1)).2+1)
 else if c=64 then(⟨3,0,(eY false (s.drop 1)).1,[]⟩,if(eY false (s.drop 1)).2=0∨(eY false (s.drop 1)).1>1099511627776 then 0 else(eY false (s.drop 1)).2+1)
 else if c=35 then(⟨4,0,0,jE (s.drop 1)⟩,if jE (s.drop 1)= []then 0 else(jE (s.drop 1)).length+1)
 else if c=34 then(⟨5,0,0,(yU s).1⟩,(yU s).2)
 else if Df c then(⟨6,0,0,[c]⟩,1)
 else(⟨0,0,0,[]⟩,0)
inductive Lexed where
 |bad (e:Int) (at_:Int)
 |ok (l:List rB)
def pZ(c:UInt8):Bool:=(c.toNat:Int)==32||(c.toNat:Int)==10
def sY:Nat→Txt→Nat→List rB→Lexed
 |0,_,at_,_=> .bad 5 at_
 |_+1,[],at_,out=> .ok (out++ [⟨7,at_,0,[]⟩])
 |f+1,c::r,at_,out=>
  if pZ c then sY f r (at_+1) out
  else if(bQ (c::r)).2=0 then .bad 5 at_
  else sY f ((c::r).drop (bQ (c::r)).2) (at_+(bQ (c::r)).2) (out++ [{(bQ (c::r)).1 with pos:=at_}])
def rW(s:Txt):Lexed:=if s.length>4096 then .bad 6 4096 else sY (s.length+1) s 0 []
theorem jU(p:UInt8→Bool)(s:Txt):(s.takeWhile p).length≤s.length:=(List.takeWhile_prefix p).length_le
theorem qO(p:UInt8→Bool)(s:Txt):s.take (s.takeWhile p).length=s.takeWhile p:=by
 obtain⟨t,ht⟩:=List.takeWhile_prefix (l:=s) p
 grind
theorem oT(neg:Bool)(s:Txt):(eY neg s).2≤s.length:=by
 have:=jU dgt s;unfold eY;simp only;split
 ·exact afa
 ·generalize (if neg=true then -(pN (s.takeWhile dgt):Int)else(pN (s.takeWhile dgt):Int))=v
  split
  ·exact acQ
  ·exact afa
theorem tU(s:Txt):(jE s).length≤s.length:=by
 grind [jU,wrd,jE]
theorem Dn{s:Txt}{b:UInt8}(h:tc s=some b):3≤s.length:=by
 match s,h with
 |_::_::_::_,_=>simp
theorem yV:∀(f:Nat) (r:Txt) (at_:Nat) (out:Txt),(tL f r at_ out).2≤at_+r.length
 |0,_,_,_=>by simp[tL]
 |_+1,[],_,_=>by simp[tL]
 |f+1,c::r,at_,out=>by
  simp only[tL];split
  ·grind
  ·split
   ·have:=yV f r (at_+1) (out++ [c]);simp only[List.length_cons];omega
   ·split
    ·rename_i b hb
     have h3:=Dn hb;have:=yV f (r.drop 2) (at_+3) (out++ [b]);simp only[List.length_cons,List.length_drop]at this h3⊢;omega
    ·simp
theorem rN(s:Txt)(hs:s≠ []):(bQ s).2≤s.length:=by
 have h1:1≤s.length:=ab8;have hd:(s.drop 1).length=s.length - 1:=aci;have k1:=tU s;have k2:=tU (s.drop 1);have k3:=oT false s;have k4:=oT false (s.drop 1);have k5:=oT true (s.drop 1);have k6:=yV s.length (s.drop 1) 1 [];unfold bQ;simp only;split
 ·exact k1
 split
 ·exact k3
 split
 ·simp only;split<;>omega
 split
 ·simp only;split<;>omega
 split
 ·simp only;split<;>omega
 split
 ·simp only[yU];omega
 split
 ·simp only;omega
 ·simp
structure PS where
 ts:List rB
 pos:Nat
 rules:Nat
 bad:Int
 place:Int
def aJ(st:PS):rB:=st.ts.getD st.pos ⟨7,0,0,[]⟩
def bG(st:PS)(e p:Int):PS:=if st.bad=0 then {st with bad:=e,place:=p} else st
def bl(st:PS):PS:=bG st 5 (aJ st).pos
def bE(st:PS)(more:Bool):PS:=if more then bG st 6 (aJ st).pos else st
def isD(st:PS)(s:Txt):Bool:=st.bad==0 && ((aJ st).s==s && ((aJ st).kind==1||(aJ st).kind==6))
def bg(st:PS):PS:={st with pos:=st.pos+1}
def cp(st:PS)(s:Txt):Bool×PS:=if isD st s=true then(true,bg st)else(false,st)
def dV(st:PS)(s:Txt):PS:=if isD st s=true then bg st else bl st
def cm(st:PS):Txt×PS:=
 if(aJ st).kind=1∧st.bad=0 then((aJ st).s,bg st)else([],if(aJ st).kind=1 then st else bl st)
def um(s:Txt):List Txt→Option Nat
 | []=>none
 |w::r=>if w=s then some 0 else(um s r).map (· +1)
def aW(st:PS)(ws:List Txt):Int×PS:=match um (aJ st).s ws with
 |some i=>if(aJ st).kind=1∧st.bad=0 then((i:Int)+1,bg st)else(0,bl st)
 |none=>(0,bl st)
def WfP(st:PS):Prop:=st.pos<st.ts.length∧(∀i (h:i<st.ts.length),st.ts[i].kind≠7→i+1<st.ts.length)∧st.ts.length≤5000
theorem CY{st:PS}(h:st.pos<st.ts.length):aJ st=st.ts[st.pos]:=by
 grind [aJ,List.getElem?_eq_getElem]
theorem JN{st:PS}(e p:Int)(h:WfP st):WfP (bG st e p):=by
 unfold bG;split<;>exact h
theorem Mv{st:PS}(h:WfP st)(hk:(aJ st).kind≠7):WfP (bg st):=by
 rw[CY h.1]at hk;exact⟨h.2.1 _ h.1 hk,h.2⟩
theorem dG{st:PS}{s:Txt}(h:isD st s=true):(aJ st).kind≠7:=by
 simp only[isD,Bool.and_eq_true,Bool.or_eq_true,beq_iff_eq]at h;omega
def Ah(st st' :PS):Prop:=WfP st'∧st'.ts=st.ts∧st.pos≤st'.pos
theorem Ah.refl{st:PS}(h:WfP st):Ah st st:=⟨h,rfl,Nat.le_refl _⟩
theorem Ah.trans{a b c:PS}(x:Ah a b)(y:Ah b c):Ah a c:=⟨y.1,y.2.1.trans x.2.1,Nat.le_trans x.2.2 y.2.2⟩
theorem wY{st:PS}(e p:Int)(h:WfP st):Ah st (bG st e p):=⟨JN e p h,by grind [bG],by unfold bG;grind⟩
theorem eU{st:PS}(h:WfP st)(hk:(aJ st).kind≠7):Ah st (bg st):=⟨Mv h hk,rfl,Nat.le_succ _⟩
theorem nR{st:PS}(h:WfP st):Ah st (bl st):=wY _ _ h
theorem kP{st:PS}(b:Bool)(h:WfP st):Ah st (bE st b):=by
 unfold bE;split
 ·grind [wY]
 ·exact aer
theorem MS{st:PS}(s:Txt)(h:WfP st):Ah st (cp st s).2:=by
 unfold cp;split
 ·grind [eU,dG]
 ·exact aer
theorem jh{st:PS}(s:Txt)(h:WfP st):Ah st (dV st s):=by
 grind [dV,eU,dG,nR]
theorem mQ{st:PS}(h:WfP st):Ah st (cm st).2:=by
 unfold cm;split
 ·grind [eU]
 ·simp only;split
  ·exact aer
  grind [nR]
theorem gz{st:PS}(ws:List Txt)(h:WfP st):Ah st (aW st ws).2:=by
 grind [aW,eU,nR]
def vg:List Txt:=[[115,117,98,106,101,99,116],[97,99,116,105,111,110],[99,97,115,101],[101,110,118]]
def fV(st:PS):pR×PS:=
 (⟨(aW st vg).1,(cm (dV (aW st vg).2 [46])).1,(cp (cm (dV (aW st vg).2 [46])).2 [33]).1⟩,(cp (cm (dV (aW st vg).2 [46])).2 [33]).2)
theorem Bg{st:PS}(h:WfP st):Ah st (fV st).2:=by
 have h1:=gz vg h;have h2:=jh [46] h1.1;have h3:=mQ h2.1;exact((h1.trans h2).trans h3).trans (MS [33] h3.1)
def vR:Txt:=[116,114,117,101]
def qn:Txt:=[102,97,108,115,101]
def fU(st:PS):bz×PS:=
 if(aJ st).kind=2 then(⟨2,(aJ st).n,(aJ st).s⟩,st)
 else if(aJ st).kind=3 then(⟨4,(aJ st).n,(aJ st).s⟩,st)
 else if(aJ st).kind=4 then(⟨5,(aJ st).n,(aJ st).s⟩,st)
 else if(aJ st).kind=5 then(⟨3,(aJ st).n,(aJ st).s⟩,st)
 else if isD st vR then(⟨1,1,[]⟩,st)
 else if isD st qn then(⟨1,0,[]⟩,st)
 else(⟨0,(aJ st).n,(aJ st).s⟩,bl st)
def aD(st:PS):bz×PS:=if(fU st).2.bad=0 then((fU st).1,bg (fU st).2)else(⟨0,0,[]⟩,(fU st).2)
theorem rz(st:PS):(bl st).bad≠0:=by
 grind [bl,bG,Int]
theorem tP(st:PS):(fU st).2=st∧(aJ st).kind≠7∨(fU st).2=bl st:=by
 unfold fU;split
 ·grind
 split
 ·grind
 split
 ·grind
 split
 ·grind
 split
 ·rename_i h;exact .inl ⟨rfl,dG h⟩
 split
 ·rename_i h;exact .inl ⟨rfl,dG h⟩
 simp
theorem Cd{st:PS}(h:WfP st):Ah st (aD st).2:=by
 unfold aD;rcases tP st with⟨e,hk⟩|e
 ·rw[e];split
  ·grind [eU]
  ·exact aer
 simp_all [if_neg,rz,nR]
def opP(st:PS):Int×PS:=
 if isD st [61]then(1,bg st)else if isD st [60]then(2,bg st)else if isD st [62]then(3,bg st)else(0,bl st)
theorem S9{st:PS}(h:WfP st):Ah st (opP st).2:=by
 grind [opP,eU,dG,nR]
def gw(st:PS):bP×PS:=(⟨(fV st).1,(opP (fV st).2).1,(aD (opP (fV st).2).2).1⟩,(aD (opP (fV st).2).2).2)
theorem pU{st:PS}(h:WfP st):Ah st (gw st).2:=by
 have h1:=Bg h;have h2:=S9 h1.1;exact(h1.trans h2).trans (Cd h2.1)
def fQ{α:Type}(one:PS→α×PS)(w:Txt)(most:Nat):Nat→PS→List α→List α×PS
 |0,st,l=>(l,st)
 |f+1,st,l=>if isD st w=true then fQ one w most f (bE (one (bg st)).2 (decide (most<l.length+1))) (l++ [(one (bg st)).1])else(l,st)
theorem sB{α:Type}{one:PS→α×PS}(ho:∀st,WfP st→Ah st (one st).2)(w:Txt)(most:Nat):∀(f:Nat) (st:PS) (l:List α),WfP st→Ah st (fQ one w most f st l).2
 |0,st,l,h=> .refl h
 |f+1,st,l,h=>by
  unfold fQ;split
  ·rename_i hi
   have h1:=eU h (dG hi);have h2:=ho _ h1.1;have h3:=kP (decide (most<l.length+1)) h2.1;exact((h1.trans h2).trans h3).trans (sB ho w most f _ _ h3.1)
  ·exact aer
def orT:Txt:=[111,114]
def Cf:Txt:=[97,110,100]
def Ef:Txt:=[119,104,101,110]
def pM(st:PS):List bP×PS:=fQ gw [44] 8 st.ts.length (gw st).2 [(gw st).1]
theorem Bd{st:PS}(h:WfP st):Ah st (pM st).2:=(pU h).trans (sB (fun _ h=>pU h) _ _ _ _ _ (pU h).1)
def rC(st:PS):List (List bP)×PS:=
 let a:=pM (dV st [40])
 let m:=fQ pM orT 8 st.ts.length a.2 [a.1]
 (m.1,dV m.2 [41])
theorem Be{st:PS}(h:WfP st):Ah st (rC st).2:=by
 have h0:=jh [40] h;have h1:=Bd h0.1;have h2:=sB (fun _ h=>Bd h) orT 8 st.ts.length _ [(pM (dV st [40])).1] h1.1
 exact((h0.trans h1).trans h2).trans (jh [41] h2.1)
def gM(st:PS):fY×PS:=if isD st Ef=true then fQ rC Cf 8 st.ts.length (rC (bg st)).2 [(rC (bg st)).1]else([],st)
theorem Bk{st:PS}(h:WfP st):Ah st (gM st).2:=by
 unfold gM;split
 ·rename_i hi
  have h0:=eU h (dG hi);have h1:=Be h0.1;exact(h0.trans h1).trans (sB (by grind [Be]) _ _ _ _ _ h1.1)
 ·exact aer
def lG:List Txt:=[[111,110,101],[115,105,122,101],[104,97,115],[101,113],[108,101,115,115],[97,100,100],[115,117,98],[109,117,108],[110,111,116],[97,110,100],[111,114]]
def opers(op:Int):List Bool:=if op=3∨op=4 then [true]else if op=5 then [true,false]else if op=11 then [false]else [false,false]
abbrev ExF:=PS→List aO→(List aO×Bool)×PS
def ie(ex:ExF)(st:PS)(l:List aO)(must:Bool):List aO×PS:=
 ((ex st l).1.1,if(ex st l).1.2=must then(ex st l).2 else bG (ex st l).2 5 (aJ st).pos)
def jq(ex:ExF):List Bool→PS→List aO→List aO×PS
 | [],st,l=>(l,st)
 |b::bs,st,l=>if st.bad=0 then jq ex bs (ie ex st l b).2 (ie ex st l b).1 else(l,st)
def qq(ex:ExF)(st:PS)(l:List aO):(List aO×aO)×PS:=
 (((jq ex (opers (2+(aW st lG).1)) (aW st lG).2 l).1,⟨2+(aW st lG).1,⟨0,0,[]⟩,⟨0,[],false⟩⟩),dV (jq ex (opers (2+(aW st lG).1)) (aW st lG).2 l).2 [41])
def ja(ex:ExF)(st:PS)(l:List aO):(List aO×aO)×PS:=
 if isD st [40]=true then qq ex (bg st) l
 else if(aJ st).kind=1∧(aJ st).s≠vR∧(aJ st).s≠qn then((l,⟨2,⟨0,0,[]⟩,(fV st).1⟩),(fV st).2)
 else((l,⟨1,(aD st).1,⟨0,[],false⟩⟩),(aD st).2)
def eD:Nat→ExF
 |0,st,l=>((l,false),st)
 |f+1,st,l=>(((ja (eD f) st l).1.1++ [(ja (eD f) st l).1.2],(ja (eD f) st l).1.2.op==2),bE (ja (eD f) st l).2 (decide (32<(ja (eD f) st l).1.1.length+1)))
def Ek(ex:ExF):Prop:=∀st l,WfP st→Ah st (ex st l).2∧(ex st l).1.1.length+2*st.pos≤l.length+2*(ex st l).2.pos+1
theorem yp{ex:ExF}(he:Ek ex)(st:PS)(l:List aO)(b:Bool)(h:WfP st):Ah st (ie ex st l b).2∧(ie ex st l b).1.length+2*st.pos≤l.length+2*(ie ex st l b).2.pos+1:=by
 obtain⟨h1,h2⟩:=he st l h;unfold ie;split
 ·grind
 ·refine⟨h1.trans (wY _ _ h1.1),?_⟩
  grind [bG,aJ]
theorem AD{ex:ExF}(he:Ek ex):∀(bs:List Bool) (st:PS) (l:List aO),WfP st→Ah st (jq ex bs st l).2∧(jq ex bs st l).1.length+2*st.pos≤l.length+2*(jq ex bs st l).2.pos+bs.length
 | [],st,l,h=>⟨.refl h,by simp[jq]⟩
 |b::bs,st,l,h=>by
  unfold jq;split
  ·obtain⟨h1,h2⟩:=yp he st l b h
   obtain⟨h3,h4⟩:=AD he bs (ie ex st l b).2 (ie ex st l b).1 h1.1;exact⟨h1.trans h3,ab8⟩
  ·exact⟨.refl h,aci⟩
theorem Ds(op:Int):(opers op).length≤2:=by
 grind [opers]
theorem KL{ex:ExF}(he:Ek ex)(st:PS)(l:List aO)(h:WfP st):Ah st (qq ex st l).2∧(qq ex st l).1.1.length+2*st.pos≤l.length+2*(qq ex st l).2.pos+2:=by
 have h1:=gz lG h;obtain⟨h2,h3⟩:=AD he (opers (2+(aW st lG).1)) _ l h1.1;have h4:=jh [41] h2.1;have:=Ds (2+(aW st lG).1);have p1:=h1.2.2;have p4:=h4.2.2;unfold qq;exact⟨(h1.trans h2).trans h4,ab8⟩
theorem CX{ex:ExF}(he:Ek ex)(st:PS)(l:List aO)(h:WfP st):Ah st (ja ex st l).2∧(ja ex st l).1.1.length+2*st.pos≤l.length+2*(ja ex st l).2.pos:=by
 unfold ja;split
 ·rename_i hi
  have h1:=eU h (dG hi);obtain⟨h2,h3⟩:=KL he _ l h1.1;have:(bg st).pos=st.pos+1:=rfl;exact⟨h1.trans h2,ab7⟩
 ·split
  ·have h1:=Bg h
   have:=h1.2.2;exact⟨h1,ab8⟩
  ·have h1:=Cd h
   have:=h1.2.2;exact⟨h1,ab8⟩
theorem qk:∀f,Ek (eD f)
 |0=>fun st l h=>⟨.refl h,by simp[eD]⟩
 |f+1=>fun st l h=>by
  obtain⟨h1,h2⟩:=CX (qk f) st l h;have h3:=kP (decide (32<(ja (eD f) st l).1.1.length+1)) h1.1;have:=h3.2.2;refine⟨h1.trans h3,?_⟩
  grind [eD,ab1,List.length_singleton]
def uB:List Txt:=[[112,101,114,109,105,116],[100,101,110,121]]
def mo:List Txt:=[[108,111,103],[114,101,100,97,99,116],[114,101,118,105,101,119],[110,111,116,105,102,121]]
def vF:Txt:=[111,110]
def zz(st:PS):cA×PS:=
 (⟨(aW st uB).1,(aW (aW st uB).2 mo).1,(cm (aW (aW st uB).2 mo).2).1⟩,(cm (aW (aW st uB).2 mo).2).2)
theorem J5{st:PS}(h:WfP st):Ah st (zz st).2:=by
 have h1:=gz uB h;have h2:=gz mo h1.1;exact(h1.trans h2).trans (mQ h2.1)
def gm(st:PS):List cA×PS:=fQ zz vF 8 st.ts.length st []
theorem Bi{st:PS}(h:WfP st):Ah st (gm st).2:=sB (fun _ h=>J5 h) _ _ _ _ _ h
inductive Rch (a:PS):PS→Prop where
 |refl:Rch a a
 |wrong {b:PS} (e p:Int):Rch a b→(e=5∨e=6)→(∃i,i≤b.pos∧p=(b.ts.getD i ⟨7,0,0,[]⟩).pos)→Rch a (bG b e p)
 |next {b:PS}:Rch a b→b.bad=0→(aJ b).kind≠7→Rch a (bg b)
theorem Rch.trans{a b c:PS}(x:Rch a b)(y:Rch b c):Rch a c:=by
 induction y with
 |refl=>exact x
 |wrong e p _ h1 h2 ih=>grind [wrong]
 |next _ h1 h2 ih=>grind [next]
theorem ku(st:PS):Rch st (bl st):=.wrong _ _ .refl (.inl rfl) ⟨st.pos,Nat.le_refl _,rfl⟩
theorem rj(st:PS)(b:Bool):Rch st (bE st b):=by
 unfold bE;split
 ·exact .wrong _ _ .refl (.inr rfl) ⟨st.pos,Nat.le_refl _,rfl⟩
 ·exact aew
theorem GF{st:PS}{s:Txt}(h:isD st s=true):st.bad=0:=by
 simp_all [isD,Bool.and_eq_true,beq_iff_eq]
theorem sj{st:PS}{s:Txt}(h:isD st s=true):Rch st (bg st):=.next .refl (GF h) (dG h)
theorem LS(st:PS)(s:Txt):Rch st (cp st s).2:=by
 unfold cp;split
 ·grind [sj]
 ·exact aew
theorem mG(st:PS)(s:Txt):Rch st (dV st s):=by
 grind [dV,sj,ku]
theorem tG(st:PS):Rch st (cm st).2:=by
 unfold cm;split
 ·rename_i h;exact .next .refl h.2 ab7
 ·simp only;split
  ·exact aew
  grind [ku]
theorem me(st:PS)(ws:List Txt):Rch st (aW st ws).2:=by
 unfold aW;split
 ·split
  ·rename_i h;exact .next .refl h.2 ab7
  grind [ku]
 grind [ku]
theorem DF(st:PS):Rch st (fV st).2:=(((me st vg).trans (mG _ [46])).trans (tG _)).trans (LS _ [33])
theorem AM(st:PS):Rch st (aD st).2:=by
 unfold aD;rcases tP st with⟨e,hk⟩|e
 ·rw[e];split
  ·rename_i h;exact .next .refl h hk
  ·exact aew
 simp_all [if_neg,rz,ku]
theorem Rf(st:PS):Rch st (opP st).2:=by
 grind [opP,sj,ku]
theorem AK(st:PS):Rch st (gw st).2:=((DF st).trans (Rf _)).trans (AM _)
theorem qG{α:Type}{one:PS→α×PS}(ho:∀st,Rch st (one st).2)(w:Txt)(most:Nat):∀(f:Nat) (st:PS) (l:List α),Rch st (fQ one w most f st l).2
 |0,st,l=> .refl
 |f+1,st,l=>by
  unfold fQ;split
  ·rename_i h
   exact(((sj h).trans (ho _)).trans (rj _ _)).trans (qG ho w most f _ _)
  ·exact aew
theorem Hh(st:PS):Rch st (pM st).2:=(AK st).trans (qG AK _ _ _ _ _)
theorem Hi(st:PS):Rch st (rC st).2:=(((mG st [40]).trans (Hh _)).trans (qG Hh orT 8 st.ts.length _ [(pM (dV st [40])).1])).trans (mG _ [41])
theorem Hj(st:PS):Rch st (gM st).2:=by
 unfold gM;split
 ·rename_i h;exact((sj h).trans (Hi _)).trans (qG Hi _ _ _ _ _)
 ·exact aew
theorem N0(st:PS):Rch st (zz st).2:=((me st uB).trans (me _ mo)).trans (tG _)
theorem DJ(st:PS):Rch st (gm st).2:=qG N0 _ _ _ _ _
theorem rm{a b:PS}(h:Rch a b):b.ts=a.ts∧a.pos≤b.pos∧b.rules=a.rules:=by
 induction h with
 |refl=>simp
 |wrong e p _ _ _ ih=>
  grind [bG]
 |next _ _ _ ih=>exact⟨ih.1,Nat.le_succ_of_le ih.2.1,ih.2.2⟩
theorem DK{ex:ExF}(he:∀st l,Rch st (ex st l).2)(st:PS)(l:List aO)(b:Bool):Rch st (ie ex st l b).2:=by
 unfold ie;simp only;split
 ·grind
 ·have:=rm (he st l)
  exact .wrong _ _ (he st l) (.inl rfl) ⟨st.pos,this.2.1,by rw[this.1];rfl⟩
theorem AL{ex:ExF}(he:∀st l,Rch st (ex st l).2):∀(bs:List Bool) (st:PS) (l:List aO),Rch st (jq ex bs st l).2
 | [],st,l=> .refl
 |b::bs,st,l=>by
  unfold jq;split
  ·exact(DK he st l b).trans (AL he bs _ _)
  ·exact aew
theorem DG:∀(f:Nat) (st:PS) (l:List aO),Rch st (eD f st l).2
 |0,st,l=> .refl
 |f+1,st,l=>by
  refine Rch.trans ?_ (rj _ _);unfold ja;split
  ·rename_i h
   exact(sj h).trans (((me _ lG).trans (AL (DG f) _ _ _)).trans (mG _ [41]))
  grind [DF,AM]
def ifT:Txt:=[105,102]
def oW:Txt:=[112,101,114,109,105,116]
def iY:Txt:=[100,101,110,121]
def oX:Txt:=[112,111,108,105,99,121]
def FG:Txt:=[115,101,116]
def mD:List Txt:=[oX,FG]
def wZ:List Txt:=[[100,101,110,121,111,118,101,114],[112,101,114,109,105,116,111,118,101,114],[102,105,114,115,116],[111,110,108,121],[100,101,110,121,117,110,108,101,115,115],[112,101,114,109,105,116,117,110,108,101,115,115]]
def qi(st:PS):List aO×PS:=if isD st ifT=true then ie (eD st.ts.length) (bg st) [] false else([],st)
theorem LR(st:PS):Rch st (qi st).2:=by
 unfold qi;split
 ·rename_i h;exact(sj h).trans (DK (DG _) _ _ _)
 ·exact aew
theorem F6{st:PS}(h:WfP st):Ah st (qi st).2:=by
 unfold qi;split
 ·rename_i hi
  have h1:=eU h (dG hi);exact h1.trans (yp (qk _) _ _ _ h1.1).1
 ·exact aer
def pJ(deny:Bool)(st:PS):cP×PS:=
 (⟨(cm st).1,deny,(gM (cm st).2).1,(qi (gM (cm st).2).2).1,(gm (qi (gM (cm st).2).2).2).1⟩,dV (gm (qi (gM (cm st).2).2).2).2 [59])
theorem yG(deny:Bool)(st:PS):Rch st (pJ deny st).2:=((((tG st).trans (Hj _)).trans (LR _)).trans (DJ _)).trans (mG _ [59])
theorem Bj(deny:Bool){st:PS}(h:WfP st):Ah st (pJ deny st).2:=by
 have h1:=mQ h;have h2:=Bk h1.1;have h3:=F6 h2.1;have h4:=Bi h3.1;exact(((h1.trans h2).trans h3).trans h4).trans (jh [59] h4.1)
inductive nD (a:PS):PS→Prop where
 |refl:nD a a
 |small {b c:PS}:nD a b→Rch b c→nD a c
 |rule {b:PS}:nD a b→b.bad=0→b.rules≠64→(aJ b).kind≠7→nD a {bg b with rules:=b.rules+1}
theorem nD.trans{a b c:PS}(x:nD a b)(y:nD b c):nD a c:=by
 induction y with
 |refl=>exact x
 |small _ h1 ih=>grind [small]
 |rule _ h1 h2 h3 ih=>grind [rule]
theorem Rch.big{a b:PS}(h:Rch a b):nD a b:=.small .refl h
def jS:Nat→PS→List cP→List cP×PS
 |0,st,l=>(l,st)
 |f+1,st,l=>if isD st oW=true∨isD st iY=true then
   if l.length=16∨st.rules=64 then(l,bE st true)
   else jS f (pJ (isD st iY) {bg st with rules:=st.rules+1}).2 (l++ [(pJ (isD st iY) {bg st with rules:=st.rules+1}).1])
  else(l,st)
abbrev PoF:=PS→bH×PS
def jN(pol:PoF)(deep:Bool):Nat→PS→List bH→List bH×PS
 |0,st,l=>(l,st)
 |f+1,st,l=>if isD st oX=true∨isD st FG=true then
   if l.length=16∨deep=true then(l,bE st true)
   else jN pol deep f (pol st).2 (l++ [(pol st).1])
  else(l,st)
def cS(st:PS):(Bool×Txt×Int×fY)×PS:=
 (((aW st mD).1==2,(cm (aW st mD).2).1,(aW (cm (aW st mD).2).2 wZ).1,(gM (aW (cm (aW st mD).2).2 wZ).2).1),dV (gM (aW (cm (aW st mD).2).2 wZ).2).2 [123])
theorem DH(st:PS):Rch st (cS st).2:=((((me st mD).trans (tG _)).trans (me _ wZ)).trans (Hj _)).trans (mG _ [123])
theorem MR{st:PS}(h:WfP st):Ah st (cS st).2:=by
 have h1:=gz mD h;have h2:=mQ h1.1;have h3:=gz wZ h2.1;have h4:=Bk h3.1;exact(((h1.trans h2).trans h3).trans h4).trans (jh [123] h4.1)
def pF(pol:PoF)(deep:Bool)(set:Bool)(st:PS):(List cP×List bH)×PS:=
 if set=true then(([],(jN pol deep 17 st []).1),(jN pol deep 17 st []).2)else(((jS 17 st []).1,[]),(jS 17 st []).2)
def gC:Nat→PoF
 |0,st=>(.mk [] false 0 [] [] [] [],st)
 |r+1,st=>(.mk (cS st).1.2.1 (cS st).1.1 (cS st).1.2.2.1 (cS st).1.2.2.2 (pF (gC r) (r==0) (cS st).1.1 (cS st).2).1.1 (pF (gC r) (r==0) (cS st).1.1 (cS st).2).1.2
   (gm (dV (pF (gC r) (r==0) (cS st).1.1 (cS st).2).2 [125])).1,(gm (dV (pF (gC r) (r==0) (cS st).1.1 (cS st).2).2 [125])).2)
theorem mB{st:PS}{a b:Txt}(h:isD st a=true∨isD st b=true):st.bad=0∧(aJ st).kind≠7:=by
 grind [GF,dG]
theorem wX{st:PS}(h:WfP st)(hk:(aJ st).kind≠7):Ah st {bg st with rules:=st.rules+1}:=eU h hk
theorem F8:∀(f:Nat) (st:PS) (l:List cP),WfP st→Ah st (jS f st l).2
 |0,st,l,h=> .refl h
 |f+1,st,l,h=>by
  unfold jS;split
  ·rename_i hi
   split
   ·exact kP true h
   ·have h1:=wX h (mB hi).2
    have h2:=Bj (isD st iY) h1.1;exact(h1.trans h2).trans (F8 f _ _ h2.1)
  ·exact aer
theorem DL:∀(f:Nat) (st:PS) (l:List cP),nD st (jS f st l).2
 |0,st,l=> .refl
 |f+1,st,l=>by
  unfold jS;split
  ·rename_i hi
   split
   ·exact(rj st true).big
   ·rename_i hn
    have h1:nD st {bg st with rules:=st.rules+1}:=.rule .refl (mB hi).1 ab7 (mB hi).2
    exact(h1.trans (yG (isD st iY) _).big).trans (DL f _ _)
  ·exact aew
theorem F7{pol:PoF}(hp:∀st,WfP st→Ah st (pol st).2)(deep:Bool):∀(f:Nat) (st:PS) (l:List bH),WfP st→Ah st (jN pol deep f st l).2
 |0,st,l,h=> .refl h
 |f+1,st,l,h=>by
  unfold jN;split
  ·split
   ·exact kP true h
   ·have h1:=hp st h
    exact h1.trans (F7 hp deep f _ _ h1.1)
  ·exact aer
theorem DI{pol:PoF}(hp:∀st,nD st (pol st).2)(deep:Bool):∀(f:Nat) (st:PS) (l:List bH),nD st (jN pol deep f st l).2
 |0,st,l=> .refl
 |f+1,st,l=>by
  unfold jN;split
  ·split
   ·exact(rj st true).big
   ·exact(hp st).trans (DI hp deep f _ _)
  ·exact aew
theorem Bh{pol:PoF}(hp:∀st,WfP st→Ah st (pol st).2)(deep set:Bool){st:PS}(h:WfP st):Ah st (pF pol deep set st).2:=by
 grind [pF,F7,F8]
theorem LQ{pol:PoF}(hp:∀st,nD st (pol st).2)(deep set:Bool)(st:PS):nD st (pF pol deep set st).2:=by
 grind [pF,DI,DL]
theorem wW:∀(r:Nat) (st:PS),WfP st→Ah st (gC r st).2
 |0,st,h=> .refl h
 |r+1,st,h=>by
  have h1:=MR h;have h2:=Bh (wW r) (r==0) (cS st).1.1 h1.1;have h3:=jh [125] h2.1;exact((h1.trans h2).trans h3).trans (Bi h3.1)
theorem BT:∀(r:Nat) (st:PS),nD st (gC r st).2
 |0,st=> .refl
 |r+1,st=>(((DH st).big.trans (LQ (BT r) _ _ _)).trans (mG _ [125]).big).trans (DJ _).big
theorem uJ{a b:PS}(h:nD a b)(h0:a.rules≤64):b.rules≤64:=by
 induction h with
 |refl=>omega
 |small _ h1 ih=>rw[(rm h1).2.2];omega
 |rule _ _ h2 _ ih=>grind
theorem uu:∀(f:Nat) (s:Txt) (a:Nat) (out l:List rB),sY f s a out= .ok l→∃pre,l=out++pre++ [⟨7,(a+s.length:Nat),0,[]⟩]∧pre.length≤s.length∧∀t∈pre,(a:Int)≤t.pos∧t.pos<((a+s.length:Nat):Int)
 |0,_,_,_,_,h=>by grind [sY]
 |f+1,[],a,out,l,h=>by
  grind [sY,Lexed.ok.injEq]
 |f+1,c::r,a,out,l,h=>by
  simp only[sY]at h;split at h
  ·obtain⟨pre,e1,e2,e3⟩:=uu f r (a+1) out l h
   grind
  ·split at h
   ·cases h
   ·rename_i hn
    have hle:=rN (c::r) aci;obtain⟨pre,e1,e2,e3⟩:=uu f _ _ _ l h;have ee:((a+(bQ (c::r)).2+((c::r).drop (bQ (c::r)).2).length:Nat):Int)=((a+(c::r).length:Nat):Int):=ab8;refine⟨{(bQ (c::r)).1 with pos:=a}::pre,ab8,ab8,fun t ht=>?_⟩
    grind
theorem Au{s:Txt}{ts:List rB}(h:rW s= .ok ts):∃pre,ts=pre++ [⟨7,s.length,0,[]⟩]∧pre.length≤s.length∧(∀t∈pre,0≤t.pos∧t.pos<(s.length:Int))∧s.length≤4096:=by
 grind [rW,uu]
theorem JM{s:Txt}{ts:List rB}(h:rW s= .ok ts)(x:Nat)(e p:Int):WfP ⟨ts,0,x,e,p⟩:=by
 obtain⟨pre,rfl,h2,_,h3⟩:=Au h;refine⟨aci,fun i hi hk=>?_,ab8⟩
 grind
theorem yb:∀(f:Nat) (s:Txt) (a:Nat) (out:List rB) (e p:Int),sY f s a out= .bad e p→e=5∧0≤p∧(s.length<f→p≤((a+s.length:Nat):Int))
 |0,s,a,out,e,p,h=>by
  simp only[sY,Lexed.bad.injEq]at h;omega
 |f+1,[],a,out,e,p,h=>by grind [sY]
 |f+1,c::r,a,out,e,p,h=>by
  simp only[sY]at h;split at h
  ·obtain⟨h1,h2,h3⟩:=yb f r (a+1) out e p h
   grind
  ·split at h
   ·grind
   ·obtain⟨h1,h2,h3⟩:=yb f _ _ _ e p h
    grind [rN,List.length_drop]
theorem ya{s:Txt}{e a:Int}(h:rW s= .bad e a):(e=5∨e=6)∧0≤a∧a≤s.length:=by
 unfold rW at h;split at h
 ·grind
 ·obtain⟨h1,h2,h3⟩:=yb _ _ _ _ _ _ h
  omega
def ov:bH:=.mk [] false 0 [] [] [] []
def pO(s:Txt)(x:bH×PS):PS:=
 if(if(aJ x.2).kind=7 then x.2 else bl x.2).bad=0∧gx x.1≠0 then bG (if(aJ x.2).kind=7 then x.2 else bl x.2) 5 s.length else(if(aJ x.2).kind=7 then x.2 else bl x.2)
def yt(s:Txt)(ts:List rB):bH×Int×Int:=
 if(pO s (gC 4 ⟨ts,0,0,0,0⟩)).bad=0 then((gC 4 ⟨ts,0,0,0,0⟩).1,0,0)else(ov,(pO s (gC 4 ⟨ts,0,0,0,0⟩)).bad,(pO s (gC 4 ⟨ts,0,0,0,0⟩)).place)
def aQ(s:Txt):bH×Int×Int:=match rW s with
 |.bad e a=>(ov,e,a)
 |.ok ts=>yt s ts
end Go.Bf
