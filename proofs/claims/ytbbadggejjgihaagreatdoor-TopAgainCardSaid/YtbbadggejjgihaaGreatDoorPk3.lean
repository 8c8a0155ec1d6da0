/- The law TopAgain: pack 3 of its texts. -/
import Derived.Below
import Derived.Lib.ItoaLen
import Derived.Lib.Join
import Derived.Lib.Small
import Derived.Laws.Externs
import Derived.Lib.Overlaps
import Derived.Test.YtbbadggejjgihaaGreatDoorProg
import Derived.KernelRfl
import Derived.Lib.AtoiAll
import Derived.Test.YtbbadggejjgihaaGreatDoorPk1
import Derived.Test.YtbbadggejjgihaaGreatDoorPk2
set_option linter.unusedSimpArgs false
set_option linter.unusedVariables false
set_option maxRecDepth 100000
namespace Go.Ab
open Go
section
variable {P : Program} {U : TypeId → TI} {n : Nat} {ρ : Env} {h h' : Heap} {tb : TypeId} {y : AV} {l : List UInt8}
theorem Bytes.from(hb:Bytes tb h y l){lo:Operand}{m:Int}{x:IntKind}{K:AV→Prop}(j:Nat)(hm:ev ρ lo=some (.v (.int x m)))(hj:m=j)(hl:j≤l.length)(hz:(U tb).sz=1)(hk:∀z,Bytes tb h z (l.drop j)→K z):
  gW U ρ y (some lo) none none K (.slice tb):=by
 subst hj;rcases hb with⟨q,rfl⟩|⟨id,off,cs,rfl,h1,h2,h3⟩
 ·rw[EG,hm]
  refine⟨ad4,by grind [jF],?_⟩
  refine⟨ad4,ad5,?_⟩;rw[←List.map_drop];exact hk _ (.sl _ _)
 ·rw[rP]
  refine⟨ad4,fun _=>hz,?_⟩
  simp only[mI,fL,hm,dJ,nH];refine⟨ad4,ad4,ad4,?_⟩;simp only[Int.toNat_natCast,hz,Nat.mul_one];have e:(l.drop j).length=l.length - j:=aec;have:=hk (.oa id (off+j) (l.drop j).length) (by grind [oa,List.map_drop,List.drop_drop,List.drop_take])
  rwa [e]at this
theorem Bytes.cut(hb:Bytes tb h y l){lo hi:Operand}{m m2:Int}{x x2:IntKind}{K:AV→Prop}(j k:Nat)(hm:ev ρ lo=some (.v (.int x m)))(hj:m=j)(hm2:ev ρ hi=some (.v (.int x2 m2)))(hk2:m2=k)(hjk:j≤k)(hl:k≤l.length)(hz:(U tb).sz=1)
  (hk:∀z,Bytes tb h z ((l.drop j).take (k - j))→K z):gW U ρ y (some lo) (some hi) none K (.slice tb):=by
 subst hj;subst hk2
 rcases hb with⟨q,rfl⟩|⟨id,off,cs,rfl,h1,h2,h3⟩
 ·rw[Kv,hm]
  refine⟨ad4,by grind [jF],?_⟩
  simp only[dJ,nH,hm2,Int.toNat_natCast,UL];refine⟨ad4,ad4,ad5,?_⟩;rw[←List.map_drop,←List.map_take];exact hk _ (.sl _ _)
 ·rw[rP]
  refine⟨ad4,fun _=>hz,?_⟩
  simp only[fL,hm,dJ,nH,hm2];refine⟨ad4,ad4,ad4,?_⟩;simp only[Int.toNat_natCast,hz,Nat.mul_one];have e:((l.drop j).take (k - j)).length=k - j:=ad5;have:=hk (.oa id (off+j) ((l.drop j).take (k - j)).length) (.oa h1 ad4 (by
   grind [List.map_take,List.map_drop,List.drop_drop,List.drop_take]))
  rwa [e]at this
end
theorem Rj(k:IntKind)(n:Nat)(hk:k.signed=false)(hn:n<2 ^ k.bits):k.wrap (n:Int)=n:=by
 cases k<;>simp[IntKind.signed]at hk<;>simp[IntKind.wrap,IntKind.signed,IntKind.bits]at hn⊢<;>omega
theorem w32(n:Nat)(hn:n<4294967296):IntKind.u32.wrap (n:Int)=n:=Rj .u32 n rfl ahQ
theorem w8(n:Nat):IntKind.u8.wrap (n:Int)=(UInt8.ofNat n).toNat:=by
 rfl
theorem Bb(w n:Nat):BitVec.ofInt w (n:Int)=BitVec.ofNat w n:=BitVec.ofInt_natCast ..
theorem N5(x y:BitVec 32):IntKind.u32.wrap (((BitVec.ofInt IntKind.u32.bits (x.toNat:Int) ^^^ BitVec.ofInt IntKind.u32.bits (y.toNat:Int)).toNat:Nat):Int)=((x ^^^ y).toNat:Int):=by
 have e:∀z:BitVec 32,BitVec.ofInt IntKind.u32.bits (z.toNat:Int)=z:=fun z=>by
  show BitVec.ofInt 32 (z.toNat:Int)=z
  simp
 rw[e,e];exact w32 _ (x ^^^ y).isLt
theorem Ts(x:BitVec 32):IntKind.u32.wrap (((BitVec.ofInt IntKind.u32.bits (x.toNat:Int) ^^^ BitVec.ofInt IntKind.u32.bits (3988292384:Int)).toNat:Nat):Int)=((x ^^^ 0xedb88320#32).toNat:Int):=N5 x 0xedb88320#32
theorem VU(x:BitVec 32):IntKind.u32.wrap (((BitVec.ofInt IntKind.u32.bits (if IntKind.u32.signed=true then -1 else IntKind.u32.max) ^^^ BitVec.ofInt IntKind.u32.bits (x.toNat:Int)).toNat:Nat):Int)=((~~~ x).toNat:Int):=by
 have:=N5 (BitVec.allOnes 32) x;exact aeN
theorem UW(x:BitVec 32):IntKind.u32.wrap (((BitVec.ofInt IntKind.u32.bits (x.toNat:Int) &&& BitVec.ofInt IntKind.u32.bits (1:Int)).toNat:Nat):Int)=((x &&& 1#32).toNat:Int):=by
 have e:BitVec.ofInt IntKind.u32.bits (x.toNat:Int)=x:=by
  show BitVec.ofInt 32 (x.toNat:Int)=x
  simp
 rw[e];exact w32 _ (x &&& 1#32).isLt
theorem V8(x:BitVec 32):(x.toNat:Int).fdiv (2 ^ (min (1:Int).toNat IntKind.u32.bits))=((x>>>1).toNat:Int):=by
 show(x.toNat:Int).fdiv (2 ^ 1)=_
 grind [Int.fdiv_eq_ediv_of_nonneg,Nat.shiftRight_eq_div_pow]
theorem YS(n:Nat)(k:Nat)(hk:k≤24):(n:Int).fdiv (2 ^ (min (k:Int).toNat IntKind.u32.bits))=((n / 2 ^ k:Nat):Int):=by
 grind [min,Int,IntKind.bits,Int.fdiv_eq_ediv_of_nonneg,Int.le_of_lt,Int.pow_pos]
theorem YH(a b k:Nat)(ha:a<2 ^ k)(hk:k≤24)(hb:b<256):IntKind.u32.wrap (((BitVec.ofInt IntKind.u32.bits (a:Int)|||BitVec.ofInt IntKind.u32.bits ((b*2 ^ k:Nat):Int)).toNat:Nat):Int)=((a+b*2 ^ k:Nat):Int):=by
 have h24:2 ^ k≤2 ^ 24:=Nat.pow_le_pow_right ad9 hk;have hbk:b*2 ^ k≤255*2 ^ 24:=Nat.mul_le_mul ad4 h24;have e1:(BitVec.ofNat 32 a|||BitVec.ofNat 32 (b*2 ^ k)).toNat=a+b*2 ^ k:=by
  exact ai5
 show IntKind.u32.wrap (((BitVec.ofInt 32 (a:Int)|||BitVec.ofInt 32 ((b*2 ^ k:Nat):Int)).toNat:Nat):Int)=_
 rw[Bb,Bb,e1]
 grind [w32]
theorem V7(b k:Nat)(hk:k≤24)(hb:b<256):IntKind.u32.wrap ((b:Int)*2 ^ (min (k:Int).toNat IntKind.u32.bits))=((b*2 ^ k:Nat):Int):=by
 have h24:2 ^ k≤2 ^ 24:=Nat.pow_le_pow_right ad9 hk;have hbk:b*2 ^ k≤255*2 ^ 24:=Nat.mul_le_mul ad4 h24;have:min (k:Int).toNat IntKind.u32.bits=k:=ahQ;rw[this,show((b:Int)*2 ^ k)=((b*2 ^ k:Nat):Int) by simp]
 exact w32 _ ad4
section
variable {U : TypeId → TI} {ty : TypeId} {K : AV → Prop}
@[go_sem high] theorem adS(x y:BitVec 32):cC U .xor ty (.v (.int .u32 (x.toNat:Int))) (.v (.int .u32 (y.toNat:Int))) K=K (.v (.int .u32 ((x ^^^ y).toNat:Int))):=by rw[QB,N5]
@[go_sem high] theorem abw(x:BitVec 32):cC U .xor ty (.v (.int .u32 (x.toNat:Int))) (.v (.int .u32 3988292384)) K=K (.v (.int .u32 ((x ^^^ 0xedb88320#32).toNat:Int))):=by rw[QB,Ts]
@[go_sem high] theorem Yb(x:BitVec 32):cC U .and ty (.v (.int .u32 (x.toNat:Int))) (.v (.int .u32 1)) K=K (.v (.int .u32 ((x &&& 1#32).toNat:Int))):=by rw[Lw,UW]
@[go_sem high] theorem Yd(x:BitVec 32)(kk:IntKind):cC U .shr ty (.v (.int .u32 (x.toNat:Int))) (.v (.int kk 1)) K=K (.v (.int .u32 ((x>>>1).toNat:Int))):=by grind [Lx,V8]
@[go_sem high] theorem YX(x:BitVec 32):unA .xor (.v (.int .u32 (x.toNat:Int))) K=K (.v (.int .u32 ((~~~ x).toNat:Int))):=by rw[CE,VU]
theorem LD(n k:Nat)(kk:IntKind)(hk:k≤24):cC U .shr ty (.v (.int .u32 (n:Int))) (.v (.int kk (k:Int))) K=K (.v (.int .u32 ((n / 2 ^ k:Nat):Int))):=by grind [Lx,YS]
theorem LC(a b k:Nat)(ha:a<2 ^ k)(hk:k≤24)(hb:b<256):cC U .or ty (.v (.int .u32 (a:Int))) (.v (.int .u32 ((b*2 ^ k:Nat):Int))) K=K (.v (.int .u32 ((a+b*2 ^ k:Nat):Int))):=by grind [UY,YH]
theorem Fp(b k:Nat)(kk:IntKind)(hk:k≤24)(hb:b<256):cC U .shl ty (.v (.int .u32 (b:Int))) (.v (.int kk (k:Int))) K=K (.v (.int .u32 ((b*2 ^ k:Nat):Int))):=by grind [QA,V7]
end
section
variable {P : Program} {U : TypeId → TI} {n : Nat} {ρ : Env} {h0 h h' : Heap} {tb : TypeId} {y v : AV} {l m : List UInt8} {Q : AV → Heap → Prop}
end
section
variable {U : TypeId → TI} {ty : TypeId} {K : AV → Prop}
end
section
variable {P : Program} {U : TypeId → TI} {n : Nat} {ρ : Env} {h : Heap}
section
variable (all : List Oper) (bs : List Bool) (r : List Oper) (K : Env → Heap → Prop)
end
theorem ai.of_wp{f:FuncId}{fn:Func}{c:Code}{args:List AV}{Q:AV→Heap→Prop}(hU:∀t,aP P U t)(hf:P.funcs[f]? =some fn)(hb:fn.body=some c)
  (hn : (fn.name == "runtime.NumGoroutine") = false) (m : Nat) (hm' : fn.ntmps = m) (rs : List ResultVar) (hr : fn.results.toList = rs) (hl : args.length ≤ m)
  (hk:WP P m c (yf args) h (vN U rs Q)):ai P f args h Q:=by
 subst hm';subst hr
 exact ai.MS hU hf hb hn hl fun _=>hk
end
section
variable {P : Program} {U : TypeId → TI} {n : Nat} {ρ : Env} {h : Heap}
def KCut(I:Env→Heap→Prop)(K:Exit→Env→Heap→Prop):Exit→Env→Heap→Prop:=KSeq I K
@[go_sem↓] theorem UJ(I:Env→Heap→Prop)(K:Exit→Env→Heap→Prop):KCut I K .ret ρ h=K .ret ρ h:=rfl
theorem WP.cut{c d:Code}{K:Exit→Env→Heap→Prop}(I:Env→Heap→Prop)(hc:WP P n c ρ h (KCut I K))(hd:∀ρ h,I ρ h→WP P n d ρ h K):WP P n (.seq c d) ρ h K:=
 WP.seq (hc.weaken fun e ρ h hk=>by
  cases e with
  |normal=>exact hd ρ h hk
  |_=>exact hk)
theorem WP.vc(hU:∀t,aP P U t)(hm:P.follows .mixedOrders=true){c:Code}{K:Exit→Env→Heap→Prop}(hk:bH P U n c ρ h K):WP P n c ρ h K:=dM hU hm c ρ h K hk
def KNext(P:Program)(n:Nat)(d:Code)(K:Exit→Env→Heap→Prop):Exit→Env→Heap→Prop:=KSeq (WP P n d · · K) K
@[go_sem↓] theorem Oh(d:Code)(K:Exit→Env→Heap→Prop):KNext P n d K .normal ρ h=WP P n d ρ h K:=rfl
@[go_sem↓] theorem TG(d:Code)(K:Exit→Env→Heap→Prop):KNext P n d K .ret ρ h=K .ret ρ h:=rfl
@[go_sem↓] theorem Ru(d:Code)(K:Exit→Env→Heap→Prop)(i:Nat):KNext P n d K (.goto i) ρ h=K (.goto i) ρ h:=rfl
theorem WP.one(hU:∀t,aP P U t)(hm:P.follows .mixedOrders=true){c d:Code}{K:Exit→Env→Heap→Prop}(hk:bH P U n c ρ h (KNext P n d K)):WP P n (.seq c d) ρ h K:=WP.seq (dM hU hm c ρ h _ hk)
end
section
variable {P : Program} {U : TypeId → TI} {n : Nat} {ρ : Env} {h : Heap}
variable {d : Option Tmp} {t : TypeId} {p : String} {a : Array Edge} {g : Option (Nat × Bool)} {Q : AV → Heap → Prop} {k : AV → Prop}
@[go_sem] theorem WR(x y:TypeId)(k:TK→Prop):atK (.map x y) k=k (.map x y):=rfl
@[go_sem] theorem U4(i:Nat):AV.cells (.mp i)= [.mp i]:=rfl
@[go_sem] theorem Yn(i m:Nat):fit (.mp i) m=(m=1):=rfl
@[go_sem] theorem Xu(l:List UInt8):gL .str (.s l)=(l.length≤maxLen):=rfl
def mpL(b:Blk)(f:List (AV×AV)→Prop):Prop:=match b with
 |.mp m=>f m
 |_=>False
@[congr] theorem Um{b b' :Blk}{f:List (AV×AV)→Prop}(e:b=b'):mpL b f=mpL b' f:=by rw[e]
@[go_sem↓] theorem Yw(m:List (AV×AV))(f:List (AV×AV)→Prop):mpL (.mp m) f=f m:=rfl
def AB(tk:TK)(m:List (AV×AV)):Prop:=∀p∈m,gL tk p.1
def Lf(ti:TI):Prop:=ti.sz≠0∨ti.k= .strct []
def DW(U:TypeId→TI)(h:Heap)(u v:AV)(ok:Bool)(k:AV→Prop)(tk:TK):Prop:=match tk,u with
 |.map kt e,.mp id=>gL (U kt).k v∧Lf (U e)∧aE (h id) fun b=>mpL b fun m=>AB (U kt).k m∧k (yS U e m v ok)
 |_,_=>False
@[congr] theorem QU{u u' v v' :AV}{ok:Bool}{k:AV→Prop}{tk:TK}(h1:u=u')(h2:v=v'):DW U h u v ok k tk=DW U h u' v' ok k tk:=by grind
@[go_sem↓] theorem VO(kt e:TypeId)(id:Nat)(v:AV)(ok:Bool):DW U h (.mp id) v ok k (.map kt e)=(gL (U kt).k v∧Lf (U e)∧aE (h id) fun b=>mpL b fun m=>AB (U kt).k m∧k (yS U e m v ok)):=rfl
@[go_sem↓] theorem VZ(mt:TypeId)(x y:Operand)(ok:Bool):bh P U ρ h ⟨d,.lookup mt x y ok,t,p,a,g⟩ Q=aE (ev ρ x) fun u=>aE (ev ρ y) fun v=>atK (U mt).k (DW U h u v ok (atH Q h)):=by
 simp only[bh,pv,bY,atK]
 congr 1
 funext u
 congr 1
 funext v
 cases (U mt).k with
 |map kt e=>
  cases u with
  |mp id=>
   simp only[DW]
   congr 2
   exact aiw
  |_=>rfl
 |_=>rfl
def Nd(U:TypeId→TI)(h:Heap)(u v w:AV)(Q:AV→Heap→Prop)(tk:TK):Prop:=match tk,u with
 |.map kt e,.mp id=>gL (U kt).k v∧aE (h id) fun b=>mpL b fun m=>AB (U kt).k m∧Q (.v undef) (upd h id (some (.mp (Am m v w))))
 |_,_=>False
@[congr] theorem SZ{u u' v v' w w' :AV}{tk:TK}(h1:u=u')(h2:v=v')(h3:w=w'):Nd U h u v w Q tk=Nd U h u' v' w' Q tk:=by grind
@[go_sem↓] theorem XJ(kt e:TypeId)(id:Nat)(v w:AV):Nd U h (.mp id) v w Q (.map kt e)=(gL (U kt).k v∧aE (h id) fun b=>mpL b fun m=>AB (U kt).k m∧Q (.v undef) (upd h id (some (.mp (Am m v w))))):=rfl
@[go_sem↓] theorem Q1(mt:TypeId)(x y z:Operand):bh P U ρ h ⟨d,.mapUpdate mt x y z,t,p,a,g⟩ Q=aE (ev ρ x) fun u=>aE (ev ρ y) fun v=>aE (ev ρ z) fun w=>atK (U mt).k (Nd U h u v w Q):=by
 simp only[bh,bY,atK]
 congr 1
 funext u
 congr 1
 funext v
 congr 1
 funext w
 cases (U mt).k with
 |map kt e=>
  cases u with
  |mp id=>
   simp only[Nd]
   congr 1
   exact aiw
  |_=>rfl
 |_=>rfl
def UN(h:Heap)(Q:AV→Heap→Prop):Prop:=∀id,h id=none→Q (.mp id) (upd h id (some (.mp [])))
@[go_sem↓] theorem Ux(mt:TypeId):bh P U ρ h ⟨d,.makeMap mt none,t,p,a,g⟩ Q=UN h Q:=by
 simp only[bh,Iz,true_and];rfl
end
def Al(ls:List (List UInt8)):List (AV×AV):=ls.map fun l=>(.s l,.agg [])
theorem Dw(ls:List (List UInt8))(l:List UInt8):getM (Al ls) (.s l)=if l∈ls then some (.agg [])else none:=by
 induction ls with
 |nil=>rfl
 |cons x ls ih=>
  simp only[getM,Al,List.map_cons,List.find?_cons,sD]at ih⊢
  grind
theorem NA{ls:List (List UInt8)}{l:List UInt8}(hn:l∉ls):Am (Al ls) (.s l) (.agg [])=Al (ls++ [l]):=by
 unfold Am;rw[Dw,if_neg hn];simp[Al]
theorem J1(U:TypeId→TI)(e:TypeId)(he:(U e).sz=0)(ls:List (List UInt8))(l:List UInt8):yS U e (Al ls) (.s l) true= .tup [.agg [],.b (decide (l∈ls))]:=by
 simp only[yS,Dw,jN,he,if_true]
 grind
theorem JV{ls:List (List UInt8)}(h:∀l∈ls,l.length≤maxLen):AB .str (Al ls):=fun p hp=>by
 obtain⟨l,hl,rfl⟩:=List.mem_map.1 hp;exact h l hl
section
variable {P : Program} {f : FuncId} {args : List AV} {h h' : Heap} {Q : AV → Heap → Prop}
theorem Ext.below{c:Cx}{w' :World}(hb:Go.RowKit.Below c.w.heap.size c.w w'):Ext c {c with w:=w'} where
 os:=hb.os
 tape:=hb.tape
 output:=hb.output
 size:=hb.size
 block:=fun b h _=>hb.block b h
 cell:=fun b o h _=>by
  simp only[World.cell?,hb.block b h]
 shape:=fun b cs t fr h=>⟨cs,fr,(hb.block b (cY h)).trans h,rfl⟩
 steal:=fun _ _ _ h=>h
 obj:=fun _ cs _ h=>⟨rfl,cs,h,rfl⟩
 spare:=fun _ n _ h=>⟨n,h,.inl ⟨rfl,rfl⟩⟩
 mp:=fun _ m h=>⟨rfl,m,h⟩
 ro:=fun _ _ _ h=>⟨rfl,h⟩
theorem Good.below{c:Cx}(g:Good c){w' :World}(hb:Go.RowKit.Below c.w.heap.size c.w w'):Good {c with w:=w'} where
 fin:=g.fin
 inj:=g.inj
 obj:=fun id cs t h=>by
  obtain⟨vs,a1,a2,a3⟩:=g.obj id cs t h;exact⟨vs,(hb.block _ (cY a1)).trans a1,a2,fun j hj=>⟨(a3 j hj).1.mono (.below hb),(a3 j hj).2⟩⟩
 spare:=fun id n sz h=>by
  obtain⟨a0,vs,t,fr,a1,a2⟩:=g.spare id n sz h;exact⟨a0,vs,t,fr,(hb.block _ (cY a1)).trans a1,a2⟩
 mp:=fun id m h=>by
  obtain⟨es,cl,a1,a2,a3⟩:=g.mp id m h;exact⟨es,cl,(hb.block _ (cY a1)).trans a1,a2,fun i hi hi' =>⟨(a3 i hi hi').1,(a3 i hi hi').2.mono (.below hb)⟩⟩
 keys:=g.keys
 ro:=fun id b vs h=>g.nP (.below hb) h
theorem ai.lib{X:AV}(hc:callable P f)(hf:∀c (vs:Array Value),Sub h c.h→Good c→vs.size=args.length→(∀i (hi:i<args.length),Rep c args[i] (vs.getD i undef))→
  Calls P f vs c.w fun e w' =>(∃u,e= .returned u∧∀c',Ext c c'→Rep c' X u)∧Go.RowKit.Below c.w.heap.size c.w w'):ai P f args h fun r h' =>r=X∧h' =h:=by
 refine fun c vs hs g h1 h2=> .inl ⟨hc,(hf c vs hs g h1 h2).mono ?_⟩
 rintro e w' ⟨⟨u,rfl,hu⟩,hb⟩
 exact⟨u,rfl,{c with w:=w'},X,h,rfl,g.below hb,.below hb,hu _ (.below hb),hs,rfl,rfl⟩
def Tab(h:Heap)(b:Nat)(vs:List Value):Prop:=∃id,h id=some (.ro b vs)
theorem Tab.sub{b:Nat}{vs:List Value}(ht:Tab h b vs)(hs:Sub h h'):Tab h' b vs:=let ⟨id,hi⟩:=ht;⟨id,hs _ _ hi⟩
theorem Tab.var{b:Nat}{vs:List Value}{name:String}(ht:Tab h b vs)(hn:P.globalNamed name=some b){c:Cx}(hs:Sub h c.h)(g:Good c):c.w.var? P name=some vs.toArray:=by
 obtain⟨id,hi⟩:=ht;obtain⟨_,t,fr,h2⟩:=g.ro id b vs (hs _ _ hi)
 grind [World.var?]
end
def xo(ts:List (Nat×List Value)):Heap:=fun i=>(ts[i]?).map fun p=> .ro p.1 p.2
def cxT(w:World)(ts:List (Nat×List Value)):Cx:=⟨w,fun i=>⟨((ts[i]?).map (·.1)).getD 0,0,none⟩,xo ts⟩
theorem M1(w:World)(ts:List (Nat×List Value))(b o:Nat):¬owned (cxT w ts) b o:=by
 rintro⟨id,k,h,_,h3⟩
 simp only[cxT,xo,Option.map_eq_some_iff]at h;obtain⟨p,_,rfl⟩:=h;exact h3
theorem VB(w:World)(ts:List (Nat×List Value))(hd:ts.Pairwise fun p q=>p.1≠q.1)(ht:∀p∈ts,∃(t:TypeId) (fr:Nat×Nat),w.heap[p.1]? =some (.cells p.2.toArray t fr)):Good (cxT w ts) where
 fin:=⟨ts.length,fun id h=>by simp[cxT,xo,List.getElem?_eq_none h]⟩
 inj:=fun i j k l h1 h2 hne=>by
  simp only[cxT,xo,Option.map_eq_some_iff]at h1 h2;obtain⟨p,hp,rfl⟩:=h1;obtain⟨q,hq,rfl⟩:=h2;simp only[cxT,hp,hq,Option.map_some,Option.getD_some];obtain⟨hi,rfl⟩:=List.getElem?_eq_some_iff.1 hp
  grind [List.pairwise_iff_getElem,Nat.lt_or_gt_of_ne]
 obj:=fun id cs t h=>by
  simp_all [cxT,xo,Option.map_eq_some_iff]
 spare:=fun id n sz h=>by
  simp_all [cxT,xo,Option.map_eq_some_iff]
 mp:=fun id m h=>by
  simp_all [cxT,xo,Option.map_eq_some_iff]
 keys:=fun id m h=>by
  simp_all [cxT,xo,Option.map_eq_some_iff]
 ro:=fun id b vs h=>by
  simp only[cxT,xo,Option.map_eq_some_iff]at h;obtain⟨p,hp,h⟩:=h;cases h;refine⟨by grind [cxT],ht p ad5⟩
theorem ai.RV{P:Program}{f:FuncId}{args:List AV}{b:Value}{vs:Array Value}{w:World}{ts:List (Nat×List Value)}(hc:callable P f)(hf:ai P f args (xo ts) fun r _=>r= .v b)(hd:ts.Pairwise fun p q=>p.1≠q.1)
  (ht:∀p∈ts,∃(t:TypeId) (fr:Nat×Nat),w.heap[p.1]? =some (.cells p.2.toArray t fr)) (hv:vs.size=args.length) (hr:∀i (hi:i<args.length),Rep (cx0 w) args[i] (vs.getD i undef)):
  Calls P f vs w fun e w' =>e= .returned b∧Go.RowKit.Below w.heap.size w w' :=by
 have hE:Ext (cx0 w) (cxT w ts):=⟨rfl,rfl,rfl,Nat.le_refl _,fun _ _ _=>rfl,fun _ _ _ _=>rfl,fun _ cs _ fr h=>⟨cs,fr,h,rfl⟩,fun b o _ h=>(M1 w ts b o h).elim,
  fun _ _ _ h=>ae0,fun _ _ _ h=>ae0,fun _ _ h=>ae0,fun _ _ _ h=>ae0⟩
 refine((hf (cxT w ts) vs (fun _ _ h=>h) (VB w ts hd ht) hv fun i hi=>(hr i hi).mono hE).calls hc).mono ?_
 rintro e w' ⟨u,rfl,c',x,h',rfl,g',hE,hx,hs,rfl⟩
 rw[hx.bR];exact⟨rfl,hE.os,hE.tape,hE.output,hE.size,fun k hk=>hE.block k hk fun o=>M1 w ts k o⟩
mutual
def strip:AV→AV
 |.sl xs _=> .sl (fV xs) .no
 |.agg xs=> .agg (fV xs)
 |.tup xs=> .tup (fV xs)
 |.v x=> .v x
 |.s l=> .s l
 |.pe x o=> .pe x o
 |.ptr i o=> .ptr i o
 |.oa i o l=> .oa i o l
 |.ifc t x=> .ifc t x
 |.fn f c=> .fn f c
 |.mp i=> .mp i
 |.ob i o l c s=> .ob i o l c s
def fV:List AV→List AV
 | []=>[]
 |x::r=>strip x::fV r
end
theorem fm:∀xs:List AV,(fV xs).length=xs.length
 | []=>rfl
 |x::r=>by simp[fV,fm r]
theorem gJ:∀(xs:List AV) (i:Nat) (h1:i<xs.length) (h2:i<(fV xs).length),(fV xs)[i]=strip xs[i]
 |x::r,0,h1,h2=>aek
 |x::r,i+1,h1,h2=>by simpa[fV]using gJ r i ad5 (by grind [fV])
theorem wO(x:AV):(strip x).cells=match x with|.agg xs=>fV xs|_=>[strip x]:=by
 cases x<;>simp[strip,AV.cells]
mutual
theorem fF:∀x:AV,Weak x (strip x)
 |.sl xs p=> .deep _ _ p (fm xs).symm (fun i h1 h2=>by
    rw[gJ xs i h1 h2,wO];have:=nR xs i h1;cases hx:xs[i]<;>simp[AV.cells,fm])
   (fun i h1 h2 j h3 h4=>by
    have hw:=nR xs i h1;have e:=gJ xs i h1 h2;exact hw (fV xs)[i] e j h3 h4)
 |.agg xs=> .agg _ _ (fm xs).symm fun i h1 h2=>agF
 |.tup xs=> .tup _ _ (fm xs).symm fun i h1 h2=>agF
 |.v x=> .refl _
 |.s l=> .refl _
 |.pe x o=> .refl _
 |.ptr i o=> .refl _
 |.oa i o l=> .refl _
 |.ifc t x=> .refl _
 |.fn f c=> .refl _
 |.mp i=> .refl _
 |.ob i o l c s=> .refl _
theorem lV:∀(xs:List AV) (i:Nat) (h:i<xs.length),Weak xs[i] (strip xs[i])
 |x::r,0,h=>fF x
 |x::r,i+1,h=>lV r i (by simpa using h)
theorem nR:∀(xs:List AV) (i:Nat) (h:i<xs.length) (y:AV),y=strip xs[i]→∀(j:Nat) (h3:j<xs[i].cells.length) (h4:j<y.cells.length),Weak xs[i].cells[j] y.cells[j]
 |x::r,0,h,y,e,j,h3,h4=>Hh x y e j h3 h4
 |x::r,i+1,h,y,e,j,h3,h4=>nR r i (by simpa using h) y e j h3 h4
theorem Hh:∀(x y:AV),y=strip x→∀(j:Nat) (h3:j<x.cells.length) (h4:j<y.cells.length),Weak x.cells[j] y.cells[j]
 |.agg xs,y,e,j,h3,h4=>by
  subst e;simp only[strip,AV.cells]at h4⊢;rw[gJ xs j h3 h4];exact lV xs j h3
 |.sl xs p,y,e,j,h3,h4=>by
  subst e;simp only[strip,AV.cells,List.length_singleton]at h3 h4⊢;obtain rfl:j=0:=ad4;exact .deep _ _ p (fm xs).symm (fun i h1 h2=>by
    rw[gJ xs i h1 h2,wO];cases hx:xs[i]<;>simp[AV.cells,fm])
   (fun i h1 h2 j h3 h4=>nR xs i h1 _ (gJ xs i h1 h2) j h3 h4)
 |.tup xs,y,e,j,h3,h4=>by
  subst e;simp only[strip,AV.cells,List.length_singleton]at h3 h4⊢;obtain rfl:j=0:=ad4;exact .tup _ _ (fm xs).symm fun i h1 h2=>agF
 |.v x,y,e,j,h3,h4=>afh
 |.s l,y,e,j,h3,h4=>afh
 |.pe x o,y,e,j,h3,h4=>afh
 |.ptr i o,y,e,j,h3,h4=>afh
 |.oa i o l,y,e,j,h3,h4=>afh
 |.ifc t x,y,e,j,h3,h4=>afh
 |.fn f c,y,e,j,h3,h4=>afh
 |.mp i,y,e,j,h3,h4=>afh
 |.ob i o l c s,y,e,j,h3,h4=>afh
end
section
variable {P : Program} {U : TypeId → TI} {n : Nat} {ρ : Env} {h0 h h' : Heap} {tb : TypeId} {y v : AV} {xs zs : List AV} {Q : AV → Heap → Prop} {f : FuncId} {args : List AV}
def One(xs:List AV):Prop:=∀x∈xs,bA x=false
theorem oD{x:AV}(h:bA x=false):x.cells= [x]:=by cases x<;>first|rfl|(cases h)
theorem One.sized(h:One xs):Sized 1 xs:=fun z hz=>by rw[oD (h z hz)];rfl
theorem One.map{α:Type}{g:α→AV}(hg:∀a,bA (g a)=false)(l:List α):One (l.map g):=fun x hx=>by
 grind
def Ff(tb:TypeId)(h:Heap)(y:AV)(xs:List AV):Prop:=
 (∃q,y= .sl xs q)∨∃id off cs,y= .oa id off xs.length∧h id=some (.obj cs tb)∧off+xs.length≤cs.length∧(cs.drop off).take xs.length=xs
theorem Ff.sl(xs:List AV)(q:Perm):Ff tb h (.sl xs q) xs:=.inl ⟨q,rfl⟩
theorem Ff.len(hb:Ff tb h y xs)(e:TypeId)(k:AV→Prop):xg y k (.slice e)=k (.i xs.length):=by
 exact aje
def AtP(U:TypeId→TI)(tb:TypeId)(h:Heap)(p x:AV):Prop:=∀k:AV→Prop,nK U h tb p k=k x
theorem Ff.idx(hb:Ff tb h y xs)(ho:One xs){m:Int}{x:IntKind}{K:AV→Prop}(j:Nat)(hm:m=j)(hj:j<xs.length)(hz:(U tb).sz=1)(ha:(U tb).k.agg=false)
  (hk:∀p,AtP U tb h p xs[j]→K p):pz U y (.v (.int x m)) K (.slice tb):=by
 subst hm;have h1:=ho xs[j] aec;rcases hb with⟨q,rfl⟩|⟨id,off,cs,rfl,g1,g2,g3⟩
 ·refine(u9 ..).mpr ⟨ad4,?_⟩
  refine eE.at j hj (by grind [oD]) ?_
  refine hk _ fun k=>?_
  simp_all [nK,Lp,oD,List.length_cons,List.length_nil,Nat.zero_add,and_self,if_true]
 ·refine(AW ..).mpr ⟨ad4,ad4,ad4,?_⟩
  refine hk _ fun k=>?_
  have e1:cs[off+j]? =some xs[j]:=by
   grind
  simp only[nK,g1,dJ,Co,hz,Nat.mul_one,Int.toNat_natCast,Eg,ha,Br,e1];simp
def WrA(tb:TypeId)(h0 h:Heap)(y:AV)(xs:List AV):Prop:=
 Sub h0 h∧((xs= []∧y= .sl [] .full)∨∃id cs,h0 id=none∧y= .oa id 0 xs.length∧h id=some (.obj cs tb)∧xs.length≤cs.length∧cs.take xs.length=xs)
theorem WrA.nil(hs:Sub h0 h):WrA tb h0 h (.sl [] .full) []:=⟨hs,.inl ⟨rfl,rfl⟩⟩
theorem WrA.seq(hw:WrA tb h0 h y xs):Ff tb h y xs:=by
 obtain⟨_,⟨rfl,rfl⟩|⟨id,cs,_,rfl,h1,h2,h3⟩⟩:=hw
 ·exact agO
 ·exact .inr ⟨id,0,cs,rfl,h1,ad4,ad5⟩
theorem WrA.sub(hw:WrA tb h0 h y xs)(hs:Sub h h'):WrA tb h0 h' y xs:=by
 obtain⟨h1,hw|⟨id,cs,a,e,b,c,d⟩⟩:=hw
 ·exact⟨h1.trans hs,.inl hw⟩
 ·exact⟨h1.trans hs,.inr ⟨id,cs,a,e,hs _ _ b,c,d⟩⟩
theorem WrA.base(hw:WrA tb h0 h y xs){id:Nat}(hid:h id=none)(b:Option Blk):WrA tb (upd h0 id b) (upd h id b) y xs:=by
 obtain⟨h1,hw⟩:=hw;have h2:Sub (upd h0 id b) (upd h id b):=fun j k hj=>by
  by_cases e:j=id
  ·grind [ah]
  ·rw[ag _ _ e]at hj⊢;exact h1 _ _ hj
 rcases hw with hw|⟨i,cs,a,e,c,d⟩
 ·exact⟨h2,.inl hw⟩
 ·have hne:i≠id:=fun hh=>by subst hh;rw[hid]at c;cases c
  exact⟨h2,.inr ⟨i,cs,aeJ,e,aeJ,d⟩⟩
theorem WrA.less(hw:WrA tb h' h y xs)(hs:Sub h0 h'):WrA tb h0 h y xs:=by
 obtain⟨h1,hw|⟨i,cs,a,e,c,d⟩⟩:=hw
 ·exact⟨hs.trans h1,.inl hw⟩
 ·exact⟨hs.trans h1,.inr ⟨i,cs,hs.none a,e,c,d⟩⟩
theorem WrA.len(hw:WrA tb h0 h y xs)(e:TypeId)(k:AV→Prop):xg y k (.slice e)=k (.i xs.length):=hw.seq.len e k
theorem WrA.idx(hb:WrA tb h0 h y xs)(ho:One xs){m:Int}{x:IntKind}{K:AV→Prop}(j:Nat)(hm:m=j)(hj:j<xs.length)(hz:(U tb).sz=1)(ha:(U tb).k.agg=false)
  (hk:∀p,AtP U tb h p xs[j]→K p):pz U y (.v (.int x m)) K (.slice tb):=hb.seq.idx ho j hm hj hz ha hk
theorem WrA.cut(hw:WrA tb h0 h y xs){hi:Operand}{m:Int}{x:IntKind}{K:AV→Prop}(j:Nat)(hm:ev ρ hi=some (.v (.int x m)))(hj:m=j)(hl:j≤xs.length)(hz:(U tb).sz=1)
  (hk:∀z,WrA tb h0 h z (xs.take j)→K z):gW U ρ y none (some hi) none K (.slice tb):=by
 subst hj;have hs:=hw.1;obtain⟨_,⟨rfl,rfl⟩|⟨id,cs,h1,rfl,h2,h3,h4⟩⟩:=hw
 ·rw[rq,fL,hm]
  refine⟨ad4,?_⟩;have:j=0:=ad5;subst this;refine⟨ad4,aec,?_⟩;exact hk _ (.nil hs)
 ·rw[rP]
  refine⟨ad4,fun _=>hz,?_⟩
  simp only[mI,fL,hm,dJ,nH];refine⟨ad4,ad4,ad4,?_⟩;have e:(xs.take j).length=j:=ad5;have:=hk (.oa id 0 (xs.take j).length) ⟨hs,.inr ⟨id,cs,h1,rfl,h2,ad4,ad5⟩⟩;rw[e]at this;simpa using this
theorem WrA.app(hw:WrA tb h0 h y xs)(ho:One xs)(hoz:One zs)(hz:(U tb).sz=1)(hb:(U tb).bytes≠0)(hf:fit (U tb).zero 1)(hn:bA (U tb).zero=false)(hsrc:∀k:List AV→Prop,k zs→iL U tb h v k)
  (hlen:(xs.length+zs.length)*(U tb).bytes≤140737488355328) (hk:∀y' h',WrA tb h0 h' y' (xs++zs)→Q y' h'):apK U h y v Q (.slice tb):=by
 have hs:=hw.1;have one:Sized (U tb).sz zs:=by rw[hz];exact hoz.sized
 obtain⟨_,⟨rfl,rfl⟩|⟨id,cs,h1,rfl,h2,h3,h4⟩⟩:=hw
 ·refine(qu ..).mpr ⟨ad4,hb,hsrc _ ⟨by simp[Sized],one,ad4,fun hn' =>?_,fun hn' =>?_⟩⟩
  ·subst hn'
   exact hk _ _ (.nil hs)
  ·refine .oa hz hf hn hoz fun id k hid=>?_
   refine hk _ _ ⟨hs.new hid _,.inr ⟨id,_,hs.none hid,?_,ah ..,?_,?_⟩⟩
   ·simp
   ·simp
   ·simp
 ·refine⟨ad4,hb,hz,hsrc _ ⟨ad5,hoz,ad4,?_⟩⟩
  rw[h2];refine⟨ad4,?_,hf,hn,fun hle=>?_,fun id' k hid=>?_⟩
  ·rw[List.drop_zero,h4];exact ho
  ·have hsub:Sub h0 (upd h id (some (.obj (over cs (0+xs.length) zs) tb))):=fun j b hj=>by
    by_cases e:j=id
    ·grind
    ·rw[ag _ _ e];exact hs _ _ hj
   have ho' :(over cs (0+xs.length) zs).length=cs.length:=iI ad4;refine hk _ _ ⟨hsub,.inr ⟨id,_,h1,aec,ah ..,ad5,?_⟩⟩;rw[over,Nat.zero_add,h4,adY,List.take_append_of_le_length aec]
   grind
  ·refine hk _ _ ⟨hs.new hid _,.inr ⟨id',_,hs.none hid,aec,ah ..,?_,?_⟩⟩
   ·grind
   grind
end
end Go.Ab
namespace Go.Bf
open Go Go.Ab
abbrev Txt:=List UInt8
structure qs where
 cat:Int
 name:Txt
 must:Bool
structure bu where
 kind:Int
 n:Int
 s:Txt
structure bO where
 attr:qs
 op:Int
 val:bu
structure aQ where
 op:Int
 val:bu
 attr:qs
structure cy where
 on:Int
 kind:Int
 arg:Txt
abbrev fY:=List (List (List bO))
structure cU where
 id:Txt
 deny:Bool
 tgt:fY
 cond:List aQ
 obls:List cy
inductive bD where
 |mk (id:Txt) (set:Bool) (alg:Int) (tgt:fY) (rules:List cU) (kids:List bD) (obls:List cy)
def CY(a:qs):AV:=.agg [.i a.cat,.s a.name,.b a.must]
def aS(v:bu):AV:=.agg [.i v.kind,.i v.n,.s v.s]
def cK(m:bO):AV:=.agg [.i m.attr.cat,.s m.attr.name,.b m.attr.must,.i m.op,.i m.val.kind,.i m.val.n,.s m.val.s]
def cF(m:aQ):AV:=.agg [.i m.op,.i m.val.kind,.i m.val.n,.s m.val.s,.i m.attr.cat,.s m.attr.name,.b m.attr.must]
def jT(b:Bool):AV:=.b b
def aY(o:cy):AV:=.agg [.i o.on,.i o.kind,.s o.arg]
def ij(l:List bO):AV:=.sl (l.map cK) .no
def cB(l:List (List bO)):AV:=.sl (l.map ij) .no
def aW(t:fY):AV:=.sl (t.map cB) .no
def fy(l:List aQ):AV:=.sl (l.map cF) .no
def ay(l:List cy):AV:=.sl (l.map aY) .no
def aB(r:cU):AV:=.agg [.s r.id,.b r.deny,aW r.tgt,fy r.cond,ay r.obls]
mutual
def aK:bD→AV
 |.mk id set alg tgt rules kids obls=> .agg [.s id,.b set,.i alg,aW tgt,.sl (rules.map aB) .no,.sl (fC kids) .no,ay obls]
def fC:List bD→List AV
 | []=>[]
 |k::r=>aK k::fC r
end
theorem aX:∀l:List bD,fC l=l.map aK
 | []=>rfl
 |k::r=>by simp[fC,aX r]
def ltr(c:UInt8):Bool:=decide (97≤(c.toNat:Int)) && decide ((c.toNat:Int)≤122)
def dgt(c:UInt8):Bool:=decide (48≤(c.toNat:Int)) && decide ((c.toNat:Int)≤57)
def tj(c:UInt8)(i:Nat):Bool:=ltr c||(decide (i≠0) && (dgt c||(c.toNat:Int)==95))
def vP(l:Txt):Bool:=l.zipIdx.all fun p=>tj p.1 p.2
def bp(l:Txt):Bool:=vP l && decide (1≤l.length) && decide (l.length≤16)
def qw(a:qs):Bool:=decide (1≤a.cat) && decide (a.cat≤4) && bp a.name
def bz(v:bu):Bool:=
 if v.kind=1 then(v.n==0||v.n==1) && v.s== []
 else if v.kind=2 then v.s== []
 else if v.kind=3 then v.n==0 && decide (v.s.length≤64)
 else if v.kind=4 then decide (0≤v.n) && decide (v.n≤1099511627776) && v.s== []
 else if v.kind=5 then v.n==0 && bp v.s
 else false
def kZ(m:bO):Bool:=qw m.attr && decide (1≤m.op) && decide (m.op≤3) && bz m.val
def kJ(n:Nat):Int:=if n=0 then 1 else if n>8 then 6 else 0
def iE{α:Type}(f:α→Int):List α→Int
 | []=>0
 |x::r=>if f x=0 then iE f r else f x
def wZ(l:List bO):Int:=if kJ l.length=0 then(if l.all kZ then 0 else 1)else kJ l.length
def xb(l:List (List bO)):Int:=if kJ l.length=0 then iE wZ l else kJ l.length
def lR(t:fY):Int:=if t.length>8 then 6 else iE xb t
def iN(op:Int):Option (List Bool):=
 if op=1∨op=2 then some []
 else if op=3∨op=4 then some [true]
 else if op=5 then some [true,false]
 else if op=11 then some [false]
 else if 6≤op∧op≤13 then some [false,false]
 else none
def zeroV(v:bu):Bool:=v.kind==0 && (v.n==0 && v.s== [])
def zeroAt(a:qs):Bool:=a.cat==0 && (a.name== [] && a.must==false)
def jV(n:aQ):Bool:=
 if n.op=1 then bz n.val && zeroAt n.attr
 else if n.op=2 then qw n.attr && zeroV n.val
 else zeroV n.val && zeroAt n.attr
def iM(st:List Bool)(n:aQ):Option (List Bool):=match iN n.op with
 |none=>none
 |some w=>if jV n=true∧w.length≤st.length∧st.drop (st.length - w.length)=w then some (st.take (st.length - w.length)++ [n.op==2])else none
def fU(st:List Bool):List aQ→Option (List Bool)
 | []=>some st
 |n::r=>match iM st n with
  |none=>none
  |some st' =>fU st' r
def kI(l:List aQ):Int:=if l.length>32 then 6 else match fU [] l with
 |none=>1
 |some st=>if l= []∨st= [false]then 0 else 1
def qU(o:cy):Bool:=decide (1≤o.on) && decide (o.on≤2) && decide (1≤o.kind) && decide (o.kind≤4) && bp o.arg
def iG(l:List cy):Int:=if l.length>8 then 6 else if l.all qU then 0 else 1
structure eJ where
 met:List Txt
 rules:Nat
inductive Went where
 |bad (e:Int)
 |ok (m:eJ)
def jo(m:eJ)(s:Txt):Option eJ:=if s∉m.met∧bp s=true then some ⟨m.met++ [s],m.rules⟩else none
def Went.err:Went→Int
 |.bad e=>e
 |.ok _=>0
def need(e:Int)(w:Went):Went:=if e=0 then w else .bad e
def gC(m:eJ)(r:cU):Went:=match jo m r.id with
 |none=> .bad 1
 |some m=>if m.rules+1>64 then .bad 6 else need (lR r.tgt) (need (kI r.cond) (need (iG r.obls) (.ok ⟨m.met,m.rules+1⟩)))
def fD(m:eJ):List cU→Went
 | []=> .ok m
 |r::l=>match gC m r with
  |.bad e=> .bad e
  |.ok m=>fD m l
def fk(m:eJ)(id:Txt)(set:Bool)(alg:Int)(tgt:fY)(nr nk:Nat)(obls:List cy):Went:=match jo m id with
 |none=> .bad 1
 |some m=>if alg<1∨alg>6 then .bad 1
  else if set=true∧nr>0∨set=false∧(nk>0∨alg=4)then .bad 1
  else need (lR tgt) (need (iG obls) (if nr>16∨nk>16 then .bad 6 else .ok m))
mutual
def kU(m:eJ)(d:Nat):bD→Went
 |.mk id set alg tgt rules kids obls=>
  if d>4 then .bad 6 else match fk m id set alg tgt rules.length kids.length obls with
  |.bad e=> .bad e
  |.ok m=>match fD m rules with
   |.bad e=> .bad e
   |.ok m=>iX m (d+1) kids
def iX(m:eJ)(d:Nat):List bD→Went
 | []=> .ok m
 |k::r=>match kU m d k with
  |.bad e=> .bad e
  |.ok m=>iX m d r
end
def gI(p:bD):Int:=(kU ⟨[],0⟩ 1 p).err
def F3(n:Nat):UInt8:=if n<10 then UInt8.ofNat (48+n)else UInt8.ofNat (87+n)
def tV(c:UInt8):Bool:=decide ((c.toNat:Int)<32)||decide (126<(c.toNat:Int))||(c.toNat:Int)==34||(c.toNat:Int)==92
def oe(c:UInt8):Txt:=if tV c then [92,F3 (c.toNat / 16),F3 (c.toNat % 16)]else [c]
def og(l:Txt):Txt:=[34]++(l.map oe).flatten++ [34]
def kG(v:bu):Txt:=
 if v.kind=1 then Lib.formatBool (v.n==1)else if v.kind=4 then [64]++Lib.itoa v.n else if v.kind=5 then [35]++v.s else if v.kind=3 then og v.s else Lib.itoa v.n
theorem vJ{α:Type}(l:List α)(i:Nat)(h:i<l.length):(l.take (i+1)).zipIdx=(l.take i).zipIdx++ [(l[i],i)]:=by
 grind [List.take_succ_eq_append_getElem,Nat.min_eq_left,Nat.le_of_lt]
theorem Fq(l:Txt)(i:Nat)(h:i<l.length):vP (l.take (i+1))=(vP (l.take i) && tj l[i] i):=by
 grind [vP,vJ]
theorem I3(l:Txt)(i:Nat)(h:i<l.length)(hb:tj l[i] i=false):vP l=false:=by
 rw[vP,List.all_eq_false];exact⟨(l[i],i),ad5,ad5⟩
theorem OC(c:UInt8):
  (decide (97≤(c.toNat:Int))=true∧decide ((c.toNat:Int)≤122)=true∧decide (48≤(c.toNat:Int))=true∧decide ((c.toNat:Int)≤57)=false∧((c.toNat:Int)==95)=false)∨
  (decide (97≤(c.toNat:Int))=false∧decide ((c.toNat:Int)≤122)=true∧decide (48≤(c.toNat:Int))=true∧decide ((c.toNat:Int)≤57)=true∧((c.toNat:Int)==95)=false)∨
  (decide (97≤(c.toNat:Int))=false∧decide ((c.toNat:Int)≤122)=true∧decide (48≤(c.toNat:Int))=true∧decide ((c.toNat:Int)≤57)=false∧((c.toNat:Int)==95)=true)∨
  (decide (97≤(c.toNat:Int))=false∧decide ((c.toNat:Int)≤122)=true∧decide (48≤(c.toNat:Int))=false∧decide ((c.toNat:Int)≤57)=true∧((c.toNat:Int)==95)=false)∨
  (decide (97≤(c.toNat:Int))=false∧decide ((c.toNat:Int)≤122)=true∧decide (48≤(c.toNat:Int))=true∧decide ((c.toNat:Int)≤57)=false∧((c.toNat:Int)==95)=false)∨
  (decide (97≤(c.toNat:Int))=true∧decide ((c.toNat:Int)≤122)=false∧decide (48≤(c.toNat:Int))=true∧decide ((c.toNat:Int)≤57)=false∧((c.toNat:Int)==95)=false):=by
 simp only[decide_eq_true_eq,decide_eq_false_iff_not,beq_iff_eq,beq_eq_false_iff_ne,ne_eq];omega
theorem vW{α:Type}{f:α→Int}{l:List α}{i:Nat}(h:i<l.length)(h0:iE f (l.take i)=0)(h1:f l[i]=0):iE f (l.take (i+1))=0:=by
 rw[List.take_succ_eq_append_getElem h];generalize l.take i=a at h0
 induction a with
 |nil=>grind [iE]
 |cons x r ih=>
  simp only[iE]at h0;split at h0
  ·simp_all [List.cons_append,iE,if_true]
  omega
theorem AR{α:Type}{f:α→Int}{l:List α}{i:Nat}(h:i<l.length)(h0:iE f (l.take i)=0)(h1:f l[i]≠0):iE f l=f l[i]:=by
 induction l generalizing i with
 |nil=>cases h
 |cons x r ih=>
  cases i with
  |zero=>grind [iE]
  |succ i=>
   simp only[List.take_succ_cons,iE]at h0;split at h0
   ·rename_i hx
    simp only[iE,hx,if_true,List.getElem_cons_succ]
    grind
   omega
theorem D3{e x:Int}{w:Went}(h:need e w= .bad x)(hw:w= .bad x→x≠0):x≠0:=by
 grind [need]
theorem Bt{m:eJ}{r:cU}{e:Int}(h:gC m r= .bad e):e≠0:=by
 grind [gC,D3]
theorem AU{m:eJ}{id:Txt}{set:Bool}{alg:Int}{tgt:fY}{nr nk:Nat}{obls:List cy}{e:Int}(h:fk m id set alg tgt nr nk obls= .bad e):e≠0:=by
 grind [fk,D3]
theorem pQ(m:eJ):∀(l:List cU) (i:Nat),fD m l=(match fD m (l.take i)with
  |.bad e=> .bad e
  |.ok m1=>fD m1 (l.drop i))
 | [],i=>by simp[fD]
 |r::l,0=>aek
 |r::l,i+1=>by
  simp only[List.take_succ_cons,List.drop_succ_cons,fD];cases gC m r with
  |bad e=>rfl
  |ok m1=>simp only;exact pQ m1 l i
theorem wK{m m1:eJ}{l:List cU}{i:Nat}(hi:i<l.length)(h:fD m (l.take i)= .ok m1):fD m (l.take (i+1))=gC m1 l[i]:=by
 rw[pQ m _ i,List.take_take,Nat.min_eq_left ad4,h,List.take_succ_eq_append_getElem hi,List.drop_append_of_le_length ad5,List.drop_of_length_le ad5]
 grind [fD,gC]
theorem EC{m m1:eJ}{l:List cU}{i:Nat}{e:Int}(hi:i<l.length)(h:fD m (l.take i)= .ok m1)(hr:gC m1 l[i]= .bad e):fD m l= .bad e:=by
 rw[pQ m l (i+1),wK hi h,hr]
theorem qR(m:eJ)(d:Nat):∀(l:List bD) (i:Nat),iX m d l=(match iX m d (l.take i)with
  |.bad e=> .bad e
  |.ok m1=>iX m1 d (l.drop i))
 | [],i=>by simp[iX]
 |r::l,0=>aek
 |r::l,i+1=>by
  simp only[List.take_succ_cons,List.drop_succ_cons,iX];cases kU m d r with
  |bad e=>rfl
  |ok m1=>simp only;exact qR m1 d l i
theorem yH{m m1:eJ}{d:Nat}{l:List bD}{i:Nat}(hi:i<l.length)(h:iX m d (l.take i)= .ok m1):iX m d (l.take (i+1))=kU m1 d l[i]:=by
 rw[qR m d _ i,List.take_take,Nat.min_eq_left ad4,h,List.take_succ_eq_append_getElem hi,List.drop_append_of_le_length ad5,List.drop_of_length_le ad5]
 grind [iX,kU]
theorem Gb{m m1:eJ}{d:Nat}{l:List bD}{i:Nat}{e:Int}(hi:i<l.length)(h:iX m d (l.take i)= .ok m1)(hr:kU m1 d l[i]= .bad e):iX m d l= .bad e:=by
 rw[qR m d l (i+1),yH hi h,hr]
theorem Pg(xs:List Txt)(B:Nat)(h:∀x∈xs,x.length≤B):Lib.lens xs≤xs.length*B:=by
 induction xs with
 |nil=>simp[Lib.lens]
 |cons x r ih=>
  have h1:=h x aec;have h2:=ih fun y hy=>h y ad5
  simp only[Lib.lens,List.map_cons,List.sum_cons,List.length_cons,Nat.add_mul,Nat.one_mul]at h2⊢;omega
theorem FN(xs:List Txt)(n B:Nat)(hn:xs.length≤n)(h:∀x∈xs,x.length≤B):xs.flatten.length≤n*B:=by
 have h2:=Pg xs B h;have h3:xs.length*B≤n*B:=Nat.mul_le_mul_right _ hn;have h4:xs.flatten.length=Lib.lens xs:=by rw[List.length_flatten];rfl
 omega
theorem A8{s:Txt}(h:bp s=true):s.length≤16:=by
 grind [bp]
theorem Bl(l:Txt)(h:l.length≤64):(og l).length≤194:=by
 have:=FN (l.map oe) 64 3 ad5 fun x hx=>by
  grind [oe]
 unfold og;simp only[adY,List.length_cons,List.length_nil];omega
theorem Qh{v:bu}(h:bz v=true)(h1: -9223372036854775808≤v.n)(h2:v.n≤9223372036854775807):(kG v).length≤194:=by
 have hi:=Lib.itoa_length_le v.n h1 h2;unfold kG;unfold bz at h;split
 ·cases (v.n==1)<;>decide
 split
 ·simp only[adY,List.length_cons,List.length_nil];omega
 split
 ·rename_i k5
  simp only[k5]at h;simp at h;have:=A8 h.2;simp only[adY,List.length_cons,List.length_nil];omega
 split
 ·rename_i k3
  simp only[k3]at h;simp at h;exact Bl _ h.2
 ·omega
theorem kT{l:List cy}(h:iG l=0):l.length≤8∧∀o∈l,qU o=true:=by
 grind [iG,List.all_eq_true]
theorem yT{n:Nat}(h:kJ n=0):0<n∧n≤8:=by
 grind [kJ]
theorem vX{α:Type}{f:α→Int}{l:List α}(h:iE f l=0):∀x∈l,f x=0:=by
 induction l with
 |nil=>simp
 |cons y r ih=>
  simp only[iE]at h
  grind
theorem AD{l:List bO}(h:wZ l=0):0<l.length∧l.length≤8∧∀m∈l,kZ m=true:=by
 unfold wZ at h;split at h
 ·simp_all [yT,List.all_eq_true]
 omega
theorem AE{l:List (List bO)}(h:xb l=0):0<l.length∧l.length≤8∧∀m∈l,wZ m=0:=by
 unfold xb at h;split at h
 ·rename_i hm
  have:=yT hm;exact⟨this.1,this.2,vX h⟩
 omega
theorem BA{l:fY}(h:lR l=0):l.length≤8∧∀m∈l,xb m=0:=by
 grind [lR,vX]
def inV(v:bu):Prop:= -9223372036854775808≤v.n∧v.n≤9223372036854775807
def inA(l:List bO):Prop:=∀m∈l,inV m.val
def inY(l:List (List bO)):Prop:=∀a∈l,inA a
def inT(t:fY):Prop:=∀a∈t,inY a
def inL(l:List aQ):Prop:=∀n∈l,inV n.val
def inR(r:cU):Prop:=inT r.tgt∧inL r.cond
mutual
def inP:bD→Prop
 |.mk id set alg tgt rules kids obls=>inT tgt∧(∀r∈rules,inR r)∧inK kids
def inK:List bD→Prop
 | []=>True
 |k::r=>inP k∧inK r
end
theorem Ss:∀l:List bD,inK l↔∀k∈l,inP k
 | []=>by simp[inK]
 |k::r=>by simp[inK,Ss r]
theorem yj{l:List aQ}(h:kI l=0)(hn:l≠ []):l.length≤32∧fU [] l=some [false]:=by
 grind [kI]
def EB(r:cU):Prop:=bp r.id=true∧lR r.tgt=0∧kI r.cond=0∧iG r.obls=0
mutual
def mA(d:Nat):bD→Prop
 |.mk id set alg tgt rules kids obls=>d≤4∧bp id=true∧1≤alg∧alg≤6∧(set=true→rules= [])∧(set=false→kids= []∧alg≠4)∧lR tgt=0∧iG obls=0∧rules.length≤16∧kids.length≤16∧(∀r∈rules,EB r)∧wu (d+1) kids
def wu(d:Nat):List bD→Prop
 | []=>True
 |k::r=>mA d k∧wu d r
end
theorem qQ(d:Nat):∀l:List bD,wu d l↔∀k∈l,mA d k
 | []=>by simp[wu]
 |k::r=>by simp[wu,qQ d r]
theorem yU{m m' :eJ}{s:Txt}(h:jo m s=some m'):bp s=true:=by
 grind [jo]
theorem qT{e:Int}{w:Went}{m:eJ}(h:need e w= .ok m):e=0∧w= .ok m:=by
 grind [need]
theorem No{m m' :eJ}{r:cU}(h:gC m r= .ok m'):EB r:=by
 unfold gC at h;split at h
 ·cases h
 ·rename_i m1 hm
  split at h
  ·cases h
  ·obtain⟨h1,h⟩:=qT h
   obtain⟨h2,h⟩:=qT h;obtain⟨h3,h⟩:=qT h;exact⟨yU hm,h1,h2,h3⟩
theorem Bu:∀(l:List cU) (m m' :eJ),fD m l= .ok m'→∀r∈l,EB r
 | [],_,_,_,r,hr=>ad5
 |x::l,m,m',h,r,hr=>by
  simp only[fD]at h;cases hx:gC m x with
  |bad e=>grind
  |ok m1=>
   rw[hx]at h;rcases List.mem_cons.1 hr with rfl|hr
   ·exact No hx
   ·exact Bu l m1 m' h r hr
theorem JM{m m1:eJ}{id:Txt}{set:Bool}{alg:Int}{tgt:fY}{nr nk:Nat}{obls:List cy}(h:fk m id set alg tgt nr nk obls= .ok m1):
  jo m id=some m1∧1≤alg∧alg≤6∧(set=true→nr=0)∧(set=false→nk=0∧alg≠4)∧lR tgt=0∧iG obls=0∧nr≤16∧nk≤16:=by
 unfold fk at h;split at h
 ·cases h
 split at h
 ·cases h
 split at h
 ·cases h
 obtain⟨h3,h⟩:=qT h;obtain⟨h4,h⟩:=qT h
 grind
mutual
theorem Ip:∀(p:bD) (d:Nat) (m m' :eJ),kU m d p= .ok m'→mA d p
 |.mk id set alg tgt rules kids obls,d,m,m',h=>by
  simp only[kU]at h;split at h
  ·cases h
  rename_i hd
  split at h
  ·cases h
  rename_i m1 h1
  split at h
  ·cases h
  rename_i m2 h2
  obtain⟨g1,g2,g3,g4,g5,g6,g7,g8,g9⟩:=JM h1;simp only[mA];exact⟨ad4,yU g1,g2,g3,fun e=>List.length_eq_zero_iff.1 (g4 e),fun e=>⟨List.length_eq_zero_iff.1 (g5 e).1,(g5 e).2⟩,g6,g7,g8,g9,Bu _ _ _ h2,DM kids (d+1) m2 m' h⟩
theorem DM:∀(l:List bD) (d:Nat) (m m' :eJ),iX m d l= .ok m'→wu d l
 | [],_,_,_,_=>by simp[wu]
 |k::r,d,m,m',h=>by
  simp only[iX]at h;split at h
  ·cases h
  rename_i m1 h1
  simp only[wu];exact⟨Ip k d m m1 h1,DM r d m1 m' h⟩
end
end Go.Bf
namespace Go.Ab
open Go
def hm2(i:Nat)(a:Blk)(j:Nat)(b:Blk):Heap:=upd (hm1 i a) j (some b)
theorem Sub.hm2{h:Heap}{i j:Nat}{a b:Blk}(h1:h i=some a)(h2:h j=some b):Sub (hm2 i a j b) h:=fun k c hk=>by
 unfold Ab.hm2 at hk
 by_cases e:k=j
 ·grind [ah]
 ·rw[ag _ _ e]at hk;exact Sub.hm1 h1 k c hk
theorem rI(i:Nat)(a:Blk)(j:Nat)(b:Blk):hm2 i a j b j=some b:=ah ..
theorem rH{i:Nat}(a:Blk){j:Nat}(b:Blk)(h:i≠j):hm2 i a j b i=some a:=by
 simp_all [hm2,ag,gr]
theorem aH{h:Heap}{i j:Nat}{b:Blk}(e:upd h i (some b) j=none):j≠i:=fun hh=>by
 subst hh;rw[ah]at e;cases e
theorem Sub.put{h g:Heap}(hs:Sub h g){i:Nat}(hi:h i=Option.none)(x:Option Blk):Sub h (Ab.upd g i x):=fun k c hk=>by
 by_cases e:k=i
 ·grind
 ·rw[ag _ _ e];exact hs k c hk
theorem Sub.both{h g:Heap}(hs:Sub h g)(i:Nat)(x:Option Blk):Sub (Ab.upd h i x) (Ab.upd g i x):=fun k c hk=>by
 by_cases e:k=i
 ·grind [ah]
 ·rw[ag _ _ e]at hk⊢;exact hs k c hk
theorem Acc.put{U:TypeId→TI}{e:TypeId}{h h' :Heap}{y:AV}{xs:List AV}(ha:Acc U e h h' y xs){id:Nat}(hid:h id=Option.none){cs:List AV}{t:TypeId}(hob:h' id=some (.obj cs t))(x:Option Blk):Acc U e h (Ab.upd h' id x) y xs:=by
 obtain⟨h1,rfl|⟨k,i1,rfl,i2⟩⟩:=ha
 ·exact⟨h1.put hid x,.inl rfl⟩
 ·refine⟨h1.put hid x,.inr ⟨k,i1,rfl,?_⟩⟩
  grind [ag]
theorem base_start(G:Heap)(id:Nat)(x:Option Blk):Sub (upd G id Option.none) (upd G id x):=fun k c hk=>by
 grind [ah,ag]
theorem fu{G H:Heap}{id:Nat}{b:Blk}(hs:Sub (upd G id Option.none) H)(hb:H id=some b):Sub (upd G id (some b)) H:=fun k c hk=>by
 by_cases e:k=id
 ·grind [ah]
 ·rw[ag _ _ e]at hk;exact hs k c aeJ
theorem BH(xs:List AV)(q:Perm)(a b:AV):Weak (.tup [.sl xs q,a,b]) (.tup [.sl xs .no,a,b]):=.tup _ _ rfl fun i h1 h2=>by
 rcases i with _|_|_|i
 ·exact agO
 ·exact afq
 ·exact afq
 grind
theorem WP.Nz{P:Program}{U:TypeId→TI}{n:Nat}(hU:∀t,aP P U t)(hm:P.follows .mixedOrders=true){c rest:Code}{ρ:Env}{h:Heap}{K:Exit→Env→Heap→Prop}(l:Nat)(J:Nat→Env→Heap→Prop)(hf:findLabel c l=some (.seq .skip rest))
  (pass:∀m ρ h,J m ρ h→WP P n rest ρ h (KJump l (fun ρ' h' =>∃m',m' <m∧J m' ρ' h') K))
  (first:(∀m ρ h,J m ρ h→WP P n rest ρ h (KJump l (fun ρ h=>∃m,J m ρ h) K))→WP P n c ρ h (KJump l (fun ρ h=>∃m,J m ρ h) K)):WP P n (.scope c) ρ h K:=
 WP.scope l J hf (first fun m ρ h hJ=>(pass m ρ h hJ).weaken fun e ρ h hk=>by
  cases e with
  |goto l' =>obtain⟨h1,m',_,h2⟩:=hk;exact⟨h1,m',h2⟩
  |_=>exact hk) fun m ρ h hJ=>WP.seq (dM hU hm .skip ρ h _ (pass m ρ h hJ))
end Go.Ab
namespace Go.Ab
attribute [go_sem] Int.natCast_zero Int.ofNat_zero Int.natCast_one Int.cast_ofNat_Int bne_self_eq_false beq_self_eq_true Bool.not_true Bool.not_false
attribute [go_sem] Nat.reduceLT Nat.reduceEqDiff Nat.reduceAdd Nat.reduceLeDiff Nat.reduceMul Nat.reduceSub Int.reduceBEq Int.reduceBNe
attribute [go_sem ↓] reduceIte
end Go.Ab
namespace Go.Ab
open Go
inductive Av (F:Nat→Prop):AV→Prop where
 |v (x:Value):Av F (.v x)
 |s (l:List UInt8):Av F (.s l)
 |agg (xs:List AV) (h:∀x∈xs,Av F x):Av F (.agg xs)
 |tup (xs:List AV) (h:∀x∈xs,Av F x):Av F (.tup xs)
 |sl (xs:List AV) (p:Perm) (h:∀x∈xs,Av F x) (hp:∀id,p= .own id→¬F id):Av F (.sl xs p)
 |pe (x:AV) (o:Nat) (h:Av F x):Av F (.pe x o)
 |ptr (id o:Nat) (h:¬F id):Av F (.ptr id o)
 |oa (id o l:Nat) (h:¬F id):Av F (.oa id o l)
 |ob (id o l c z:Nat) (h:¬F id):Av F (.ob id o l c z)
 |ifc (t:TypeId) (x:AV) (h:Av F x):Av F (.ifc t x)
 |fn (f:FuncId) (xs:List AV) (h:∀x∈xs,Av F x):Av F (.fn f xs)
 |mp (id:Nat) (h:¬F id):Av F (.mp id)
theorem Av.cells{F:Nat→Prop}{x:AV}(h:Av F x):∀y∈x.cells,Av F y:=by
 cases h with
 |agg xs hx=>exact hx
 |_=>intro y hy;rw[List.mem_singleton.1 hy];constructor<;>assumption
theorem Av.Ea{F:Nat→Prop}{x:AV}(h:∀y∈x.cells,Av F y):Av F x:=by
 cases x with
 |agg xs=>exact .agg xs h
 |_=>exact h _ (List.mem_singleton.2 rfl)
theorem Rep.av{c:Cx}{F:Nat→Prop}(hF:∀id,F id→c.h id=none){x:AV}{u:Value}(h:Rep c x u):Av F x:=by
 have nf:∀ {id:Nat} {k:Blk},c.h id=some k→¬F id:=fun hk hf=>ad5
 induction h with
 |v x=>exact .v x
 |s l hl=>exact .s l
 |agg xs vs hn hr ho ih=>exact .agg xs fun x hx=>afP
 |tup xs vs hn hr ih=>exact .tup xs fun x hx=>afP
 |sl xs p a cap sz val hc hm h0 hs hz hf hr ho hp ih=>
  refine .sl xs p (fun x hx=>?_) fun id e=>?_
  ·obtain⟨i,hi,rfl⟩:=List.mem_iff_getElem.1 hx
   refine .Ea fun y hy=>?_
   obtain⟨j,hj,rfl⟩:=List.mem_iff_getElem.1 hy
   grind
  ·subst e
   obtain⟨m,h1,_⟩:=hp
   grind
 |pe x off b o val hb hf hr ho ih=>
  refine .pe x off (.Ea fun y hy=>?_)
  obtain⟨j,hj,rfl⟩:=List.mem_iff_getElem.1 hy
  grind
 |ptr id off cs t h=>exact .ptr _ _ (nf h)
 |oa id off len cap o cs t h hc hm ho=>exact .oa _ _ _ (nf h)
 |ob id off len cap sz o cs t h hc hm ho=>exact .ob _ _ _ _ _ (nf h)
 |ifc t x u h ih=>exact .ifc t x ih
 |fn f xs vs hn hr ih=>exact .fn f xs fun x hx=>afP
 |mp id m h=>exact .mp _ (nf h)
noncomputable def Cx.back (c' :Cx) (g:Heap):Cx:={c' with h:=fun id=>if g id=none then none else c'.h id}
theorem uN{c' :Cx}{g:Heap}{id:Nat}{k:Blk}(h:(c'.back g).h id=some k):g id≠none∧c'.h id=some k:=by
 grind [Cx.back]
theorem kX{c' :Cx}{g:Heap}{id:Nat}(h:g id≠none):(c'.back g).h id=c'.h id:=by
 simp_all [Cx.back,if_false]
theorem xU{c' :Cx}{g:Heap}{b o:Nat}(h:owned (c'.back g) b o):owned c' b o:=by
 obtain⟨id,k,h1,h2,h3⟩:=h;exact⟨id,k,(uN h1).2,h2,h3⟩
theorem xT{c' :Cx}{g:Heap}{b o:Nat}{u:Value}(h:fix c' b o u):fix (c'.back g) b o u:=⟨h.1,fun ho=>h.2 (xU ho)⟩
theorem Rep.back{c' :Cx}{g:Heap}{x:AV}{u:Value}(h:Rep c' x u)(ha:Av (fun id=>g id=none) x):Rep (c'.back g) x u:=by
 induction h with
 |v x=>exact .v x
 |s l hl=>exact .s l hl
 |agg xs vs hn hr ho ih=>cases ha with|agg _ ha=>exact .agg xs vs hn ad5 ho
 |tup xs vs hn hr ih=>cases ha with|tup _ ha=>exact .tup xs vs hn ad5
 |sl xs p a cap sz val hc hm h0 hs hz hf hr ho hp ih=>
  cases ha with
  |sl _ _ ha hq=>
   refine .sl xs p a cap sz val hc hm h0 hs hz (by grind [xT]) (fun i hi j hj=>ih i hi j hj ((ha _ (adZ hi)).cells _ (adZ hj))) ho ?_
   cases p with
   |no=>trivial
   |full=>exact hp
   |own id=>
    obtain⟨m,h1,h2,h3⟩:=hp;exact⟨m,by rw[kX (hq id rfl)];omega,h2,h3⟩
 |pe x off b o val hb hf hr ho ih=>
  cases ha with
  |pe _ _ ha=>exact .pe x off b o val hb (by grind [xT]) (fun j hj=>ih j hj (ha.cells _ (adZ hj))) ho
 |ptr id off cs t h=>cases ha with|ptr _ _ ha=>exact .ptr id off cs t (by grind [kX])
 |oa id off len cap o cs t h hc hm ho=>cases ha with|oa _ _ _ ha=>exact .oa id off len cap o cs t (by grind [kX]) hc hm ho
 |ob id off len cap sz o cs t h hc hm ho=>cases ha with|ob _ _ _ _ _ ha=>exact .ob id off len cap sz o cs t (by grind [kX]) hc hm ho
 |ifc t x u h ih=>cases ha with|ifc _ _ ha=>exact .ifc t x u (ih ha)
 |fn f xs vs hn hr ih=>cases ha with|fn _ _ ha=>exact .fn f xs vs hn ad5
 |mp id m h=>cases ha with|mp _ ha=>exact .mp id m (by grind [kX])
inductive Frz (g h:Heap):AV→AV→Prop where
 |keep (x:AV) (ha:Av (fun id=>g id=none) x):Frz g h x x
 |agg (xs ys:List AV) (hn:xs.length=ys.length) (hr:∀i (h1:i<xs.length) (h2:i<ys.length),Frz g h xs[i] ys[i]):Frz g h (.agg xs) (.agg ys)
 |tup (xs ys:List AV) (hn:xs.length=ys.length) (hr:∀i (h1:i<xs.length) (h2:i<ys.length),Frz g h xs[i] ys[i]):Frz g h (.tup xs) (.tup ys)
 |sl (xs ys:List AV) (p:Perm) (hn:xs.length=ys.length) (hz:∀i (h1:i<xs.length) (h2:i<ys.length),xs[i].cells.length=ys[i].cells.length)
   (hr:∀i (h1:i<xs.length) (h2:i<ys.length) j (h3:j<xs[i].cells.length) (h4:j<ys[i].cells.length),Frz g h xs[i].cells[j] ys[i].cells[j]):Frz g h (.sl xs p) (.sl ys .no)
 |ob (id off len cap sz:Nat) (cs:List AV) (t:TypeId) (ys:List AV) (hg:g id=none) (hh:h id=some (.obj cs t)) (hl:off+len*sz≤cs.length) (hn:ys.length=len) (hz:∀i (h1:i<ys.length),ys[i].cells.length=sz)
   (hr:∀i (h1:i<ys.length) j (h3:j<ys[i].cells.length) (h4:off+(i*sz+j)<cs.length),Frz g h (cs[off+(i*sz+j)]) ys[i].cells[j]):Frz g h (.ob id off len cap sz) (.sl ys .no)
 |ptr (id off:Nat) (cs:List AV) (t:TypeId) (ys:List AV) (hg:g id=none) (hh:h id=some (.obj cs t)) (hn:cs.length=ys.length) (hr:∀i (h1:i<cs.length) (h2:i<ys.length),Frz g h cs[i] ys[i]):Frz g h (.ptr id off) (.pe (.agg ys) off)
 |ifc (t:TypeId) (x y:AV) (hr:Frz g h x y):Frz g h (.ifc t x) (.ifc t y)
theorem Frz.rep{c' :Cx}{g h:Heap}(gd:Good c')(hh:Sub h c'.h){x y:AV}(hz:Frz g h x y):∀ {u:Value},Rep c' x u→Rep (c'.back g) y u:=by
 have nown:∀ {id:Nat} {k:Blk} {o:Nat},g id=none→h id=some k→¬owned (c'.back g) (c'.φ id).block o:=fun {id k o} h1 h2 ho=>by
  obtain⟨j,l,h3,h4,h5⟩:=ho;obtain⟨h6,h7⟩:=uN h3;exact gd.inj j id l k h7 (hh _ _ h2) (fun e=>h6 ad5) h4
 induction hz with
 |keep x ha=>exact fun hr=>hr.back ha
 |agg xs ys hn hr ih=>
  intro u hu;obtain⟨vs,rfl,h1,h2,h3⟩:=hu.oW;exact .agg ys vs ad4 (fun i hi=>ih i ad4 hi (h2 i ad4)) fun i hi=>h3 i ad4
 |tup xs ys hn hr ih=>
  intro u hu;obtain⟨vs,rfl,h1,h2⟩:=hu.CB;exact .tup ys vs ad4 (fun i hi=>ih i ad4 hi (h2 i ad4))
 |sl xs ys p hn hz hr ih=>
  intro u hu;obtain⟨a,cap,sz,val,rfl,hs⟩:=hu.iK;rw[hn];have hcap:=hs.hc;refine .sl ys .no a cap sz val ad4 hs.hm hs.h0 hs.hs (fun i hi=>by rw[←hz i ad4 hi];exact hs.hz i ad4) (fun q hq i j hi hj=>xT (hs.hf q hq i j ad4 hj)) (fun i hi j hj=>?_) (fun i j hi hj=>hs.ho i j ad4 hj) trivial
  exact ih i ad4 hi j ad5 hj (hs.hr i ad4 j ad5)
 |ob id off len cap sz cs t ys hg hid hl hn hz hr ih=>
  intro u hu;obtain⟨o,rfl,h1,h2,cs',t',h3,h4⟩:=hu.jz;have hcid:=hh _ _ hid;obtain⟨vs,v1,v2,v3⟩:=gd.obj id cs t hcid;subst hn;have hbd:∀i j,i<ys.length→j<sz→i*sz+j<ys.length*sz:=fun i j hi hj=>by
   have:(i+1)*sz≤ys.length*sz:=Nat.mul_le_mul_right _ ad4;rw[Nat.add_mul,Nat.one_mul]at this;omega
  refine .sl ys .no _ cap sz (fun i j=>vs.getD (off+(i*sz+j)) undef) h1 h2 (fun e=>aew) (fun q hq _=>?_) hz (fun q hq i j hi hj=>?_) (fun i hi j hj=>?_) (fun i j hi hj=>(v3 _ ad5).2) trivial
  ·cases hq
   exact⟨rfl,gd.lt hcid⟩
  ·cases hq
   obtain⟨rfl,_⟩:=h4 ad4;have hb:=hbd i j hi hj;refine⟨?_,nown hg hid⟩;have:o+(i*sz+j)<vs.size:=ad4;simp[World.cell?,Cx.back,v1,this]
  ·have hj' :j<sz:=by grind
   have hb:=hbd i j hi hj';exact ih i hi j hj ad4 (v3 _ ad4).1
 |ptr id off cs t ys hg hid hn hr ih=>
  intro u hu;obtain⟨rfl,_⟩:=hu.lg;have hcid:=hh _ _ hid;obtain⟨vs,v1,v2,v3⟩:=gd.obj id cs t hcid;have:=Rep.pe (c:=c'.back g) (.agg ys) off (c'.φ id).block 0 (fun j=>vs.getD j undef) (gd.lt hcid) (fun j hj=>by
    have hj' :j<ys.length:=hj;refine⟨?_,nown hg hid⟩
    simp_all [World.cell?,Cx.back]) (fun j hj=>by
    have hj' :j<ys.length:=hj;exact ih j ad4 hj' (v3 j ad4).1) (fun j hj=>by
    have hj' :j<ys.length:=hj;exact(v3 j ad4).2)
  rw[Nat.zero_add]at this;exact aeN
 |ifc t x y hr ih=>
  intro u hu;cases hu with
  |ifc _ _ u' h=>exact .ifc t y _ (ih h)
theorem ai.freeze{P:Program}{f:FuncId}{args:List AV}{h:Heap}{Q:AV→Prop}
  (hf:∀g,Sub h g→(∀x∈args,Av (fun id=>g id=none) x)→ai P f args g fun r h' =>Sub g h'∧∃y,Frz g h' r y∧Q y):ai P f args h fun r h' =>Q r∧h' =h:=by
 intro c vs hs gd h1 h2;have hav:∀x∈args,Av (fun id=>c.h id=none) x:=fun x hx=>by
  obtain⟨i,hi,rfl⟩:=List.mem_iff_getElem.1 hx;exact(h2 i hi).av fun _ e=>e
 refine(hf c.h hs hav c vs (.refl _) gd h1 h2).mono ?_
 rintro u w' ⟨c',x,h',rfl,gd',hE,hr,hsub,hgh,y,hz,hq⟩
 have hkeep:∀id k,c.h id=some k→c'.h id=some k:=fun id k hk=>hsub _ _ (hgh _ _ hk)
 have hE2:Ext c (c'.back c.h):={
  os:=hE.os,tape:=hE.tape,output:=hE.output,size:=hE.size,block:=hE.block,cell:=hE.cell,shape:=hE.shape
  steal:=fun b o hb ho=>hE.steal b o hb (xU ho)
  obj:=fun id cs t hi=>by rw[kX ad5];exact hE.obj id cs t hi
  spare:=fun id n sz hi=>by rw[kX ad5];exact hE.spare id n sz hi
  mp:=fun id m hi=>by rw[kX ad5];exact hE.mp id m hi
  ro:=fun id b vs hi=>by rw[kX ad5];exact hE.ro id b vs hi}
 have hold:∀id k,(c'.back c.h).h id=some k→c.h id=some k∧c'.h id=some k:=fun id k hk=>by
  obtain⟨a1,a2⟩:=uN hk;cases hc:c.h id with
  |none=>grind
  |some k' =>grind
 refine⟨c'.back c.h,y,h,rfl,?_,hE2,hz.rep gd' hsub hr,fun id k hk=>?_,hq,rfl⟩
 ·refine⟨?_,fun i j k l hi hj hne=>gd'.inj i j k l (hold i k hi).2 (hold j l hj).2 hne,fun id cs t hi=>?_,fun id n sz hi=>gd'.spare id n sz (hold id _ hi).2,fun id m hi=>?_,fun id m hi=>gd'.keys id m (hold id _ hi).2,fun id b vs hi=>gd'.ro id b vs (hold id _ hi).2⟩
  ·obtain⟨N,hN⟩:=gd'.fin
   exact⟨N,fun id hid=>by grind [Cx.back]⟩
  ·obtain⟨vs,v1,v2,v3⟩:=gd'.obj id cs t (hold id _ hi).2
   obtain⟨vs0,w1,w2,w3⟩:=gd.obj id cs t (hold id _ hi).1;exact⟨vs,v1,v2,fun j hj=>⟨(v3 j hj).1.back ((w3 j hj).1.av fun _ e=>e),(v3 j hj).2⟩⟩
  ·obtain⟨es,cl,v1,v2,v3⟩:=gd'.mp id m (hold id _ hi).2
   obtain⟨es0,cl0,w1,w2,w3⟩:=gd.mp id m (hold id _ hi).1;exact⟨es,cl,v1,v2,fun i hi' hi2=>⟨(v3 i hi' hi2).1,(v3 i hi' hi2).2.back ((w3 i hi' ad4).2.av fun _ e=>e)⟩⟩
 ·rw[kX (by rw[hs _ _ hk];simp)]
  exact hkeep id k (hs _ _ hk)
section
variable {P : Program} {U : TypeId → TI} {ρ : Env} {h h' : Heap} {sz : Nat} {y : AV} {xs : List AV} {e : TypeId}
def Rd(h:Heap)(sz:Nat)(y:AV)(xs:List AV):Prop:=
 Sized sz xs∧((∃q,y= .sl xs q)∨∃id off cap cs t,y= .ob id off xs.length cap sz∧h id=some (.obj cs t)∧off+xs.length*sz≤cs.length∧(cs.drop off).take (xs.length*sz)=au xs)
theorem Rd.sl(hs:Sized sz xs)(q:Perm):Rd h sz (.sl xs q) xs:=⟨hs,.inl ⟨q,rfl⟩⟩
theorem Rd.sub(hb:Rd h sz y xs)(hs:Sub h h'):Rd h' sz y xs:=by
 obtain⟨h1,hb|⟨id,off,cap,cs,t,rfl,h2,h3⟩⟩:=hb
 ·exact⟨h1,.inl hb⟩
 ·exact⟨h1,.inr ⟨id,off,cap,cs,t,rfl,hs _ _ h2,h3⟩⟩
theorem Rd.len(hb:Rd h sz y xs)(e:TypeId)(k:AV→Prop):xg y k (.slice e)=k (.i xs.length):=by
 exact ajl
theorem Rd.cells(hb:Rd h sz y xs):y.cells= [y]:=by
 exact ajl
theorem Rd.fit(hb:Rd h sz y xs)(m:Nat):fit y m=(m=1):=by
 exact ajl
theorem Rd.src(hb:Rd h sz y xs)(hz:(U e).sz=sz){f:List AV→Prop}(hf:f xs):iL U e h y f:=by
 obtain⟨_,⟨q,rfl⟩|⟨id,off,cap,cs,t,rfl,h2,h3,h4⟩⟩:=hb
 ·exact hf
 ·rw[PY,h2]
  exact⟨hz.symm,xs,rfl,h3,h4.symm,hf⟩
def At(h:Heap)(p x:AV)(o:Nat):Prop:=p= .pe x o∨∃id a cs t,p= .ptr id (a+o)∧h id=some (.obj cs t)∧a+x.cells.length≤cs.length∧(cs.drop a).take x.cells.length=x.cells
theorem At.sub{p x:AV}{o:Nat}(ha:At h p x o)(hs:Sub h h'):At h' p x o:=by
 rcases ha with rfl|⟨id,a,cs,t,rfl,h2,h3⟩
 ·exact .inl rfl
 ·exact .inr ⟨id,a,cs,t,rfl,hs _ _ h2,h3⟩
theorem Gw{cs:List AV}{x:AV}{a o:Nat}{i:TI}{k:AV→Prop}(h1:a+x.cells.length≤cs.length)(h2:(cs.drop a).take x.cells.length=x.cells)(h3:i.sz≠0)(h4:o+i.sz≤x.cells.length):iJ cs (a+o) i k=iJ x.cells o i k:=by
 unfold iJ;split
 ·have e:(cs.drop (a+o)).take i.sz=(x.cells.drop o).take i.sz:=by
   grind [List.drop_take,List.drop_drop,Nat.min_eq_left]
  apply propext
  grind
 grind
theorem At.part{p x:AV}{o:Nat}(ha:At h p x o){ty:TypeId}(hz:(U ty).sz≠0)(hl:o+(U ty).sz≤x.cells.length)(k:AV→Prop):nK U h ty p k=iJ x.cells o (U ty) k:=by
 rcases ha with rfl|⟨id,a,cs,t,rfl,h2,h3,h4⟩
 ·rw[MD]
  unfold atA;split
  ·rename_i hc
   obtain⟨rfl,hc2,hc3⟩:=hc;unfold iJ;split
   ·rename_i hag
    rw[hag]at hc3;have:x= .agg x.cells:=by cases x<;>first|rfl|cases hc3
    rw[List.drop_zero,←hc2,List.take_length,Nat.zero_add,←this];simp
   simp_all [bA,false,oD]
  ·rfl
 ·rw[JZ,h2]
  exact Gw h3 h4 hz hl
theorem At.all{p x:AV}(ha:At h p x 0){ty:TypeId}(hz:(U ty).sz≠0)(hl:x.cells.length=(U ty).sz)(hg:bA x=(U ty).k.agg)(k:AV→Prop):nK U h ty p k=k x:=by
 rw[ha.part hz ad4];unfold iJ;split
 ·rename_i hag
  rw[hag]at hg;have:x= .agg x.cells:=by cases x<;>first|rfl|cases hg
  rw[List.drop_zero,←hl,List.take_length,Nat.zero_add,←this];simp
 simp_all [bA,false,oD]
theorem At.field{p x:AV}{o:Nat}(ha:At h p x o){f off:Nat}{t:TypeId}{fs:List (Nat×TypeId)}{K:AV→Prop}(hf:fs[f]? =some (off,t))(hz:(U t).sz≠0)(hk:∀p',At h p' x (o+off)→K p'):ym U f p K (.strct fs):=by
 rcases ha with rfl|⟨id,a,cs,t',rfl,h2,h3,h4⟩
 ·rw[Jj,hf]
  exact⟨hz,hk _ (.inl rfl)⟩
 ·rw[FI,hf]
  exact⟨hz,hk _ (.inr ⟨id,a,cs,t',ad5,h2,h3,h4⟩)⟩
theorem Rd.idx(hb:Rd h sz y xs){m:Int}{x:IntKind}{K:AV→Prop}(j:Nat)(hm:m=j)(hj:j<xs.length)(hz:(U e).sz=sz)(h0:sz≠0)(hk:∀p,At h p xs[j] 0→K p):pz U y (.v (.int x m)) K (.slice e):=by
 subst hm;have hc:=hb.1 xs[j] (adZ hj);obtain⟨hs,⟨q,rfl⟩|⟨id,off,cap,cs,t,rfl,h2,h3,h4⟩⟩:=hb
 ·refine(u9 ..).mpr ⟨ad4,?_⟩
  exact eE.at j hj ad4 (hk _ (.inl rfl))
 ·refine(AX ..).mpr ⟨ad4,hz.symm,ad4,ad4,hk _ (.inr ⟨id,off+j*sz,cs,t,aec,h2,?_,?_⟩)⟩
  ·have:(j+1)*sz≤xs.length*sz:=Nat.mul_le_mul_right _ ad4
   rw[Nat.add_mul,Nat.one_mul]at this;rw[hc];omega
  ·have e1:=o7 hs j hj
   rw[←h4,List.drop_take,List.take_take,List.drop_drop]at e1;rw[hc];have:(j+1)*sz≤xs.length*sz:=ad5;rw[Nat.add_mul,Nat.one_mul]at this;rw[Nat.min_eq_left ad4]at e1;exact e1
def Ow(tb:TypeId)(h:Heap)(sz id:Nat)(y:AV)(xs:List AV):Prop:=
 ∃cap rest,y= .ob id 0 xs.length cap sz∧h id=some (.obj (au xs++rest) tb)∧rest.length=(cap - xs.length)*sz∧xs.length≤cap∧Sized sz xs
variable {tb : TypeId} {id : Nat}
theorem Ow.rd(hw:Ow tb h sz id y xs):Rd h sz y xs:=by
 obtain⟨cap,rest,rfl,h1,h2,h3,h4⟩:=hw;have hl:=aZ h4;exact⟨h4,.inr ⟨id,0,cap,_,tb,rfl,h1,ad5,ad5⟩⟩
theorem Ow.sub(hw:Ow tb h sz id y xs)(hs:Sub h h'):Ow tb h' sz id y xs:=by
 obtain⟨cap,rest,e1,h1,h2⟩:=hw;exact⟨cap,rest,e1,hs _ _ h1,h2⟩
theorem Ow.same(hw:Ow tb h sz id y xs)(hs:h' id=h id):Ow tb h' sz id y xs:=by
 obtain⟨cap,rest,e1,h1,h2⟩:=hw;exact⟨cap,rest,e1,hs.trans h1,h2⟩
theorem Ow.none(hw:Ow tb h sz id y xs):h id≠Option.none:=by
 obtain⟨cap,rest,e1,h1,h2⟩:=hw
 grind
theorem Ow.make{cs:List AV}{cap:Nat}{rest:List AV}(hs:Sized sz xs)(hcs:cs=au xs){n:Nat}(hn:n=xs.length)(hc:n≤cap)(hr:rest.length=(cap - n)*sz):Ow tb (upd h id (some (.obj (cs++rest) tb))) sz id (.ob id 0 n cap sz) xs:=by
 subst hcs;subst hn
 exact⟨cap,rest,rfl,ah ..,hr,hc,hs⟩
theorem kL.ow{cs:List AV}{n:Nat}{Q:AV→Heap→Prop}(hs:Sized sz xs)(hcs:cs=au xs)(hn:n=xs.length)(hk:∀id y h',h id=Option.none→Ow tb h' sz id y xs→(∀j,j≠id→h' j=h j)→Q y h'):kL h cs n sz tb Q:=
 fun id cap rest hid hc hr=>hk id _ _ hid (Ow.make hs hcs hn hc hr) fun j hj=>ag _ _ hj
theorem Kb{us vs:List AV}{o:Nat}{c:List AV}:over (us++vs) (us.length+o) c=us++over vs o c:=by
 simp[Ab.over,Nat.add_assoc,List.take_length_add_append,List.drop_length_add_append,List.append_assoc]
theorem Jt{xs:List AV}(hs:Sized sz xs)(j:Nat)(hj:j<xs.length)(x:AV)(hx:x.cells.length=sz):au (xs.set j x)=over (au xs) (j*sz) x.cells:=by
 induction xs generalizing j with
 |nil=>grind
 |cons a r ih=>
  have h1:=hs a aec;have h2:Sized sz r:=fun z hz=>hs z ad5
  cases j with
  |zero=>
   simp only[List.set_cons_zero,kR,Ab.over,Nat.zero_mul,List.take_zero,List.nil_append,Nat.zero_add];rw[hx,←h1,List.drop_left]
  |succ j=>
   have hj' :j<r.length:=ad5;have e1:(j+1)*sz=a.cells.length+j*sz:=ad5;rw[List.set_cons_succ,kR,kR,ih h2 j hj',e1,Kb]
theorem Js{xs:List AV}(hs:Sized sz xs)(j:Nat)(hj:j<xs.length)(o:Nat)(c:List AV)(ho:o+c.length≤sz):over (au xs) (j*sz+o) c=au (xs.set j (.agg (over xs[j].cells o c))):=by
 have hc:=hs xs[j] (adZ hj);have hl:(over xs[j].cells o c).length=sz:=by grind [iI]
 rw[Jt hs j hj (.agg (over xs[j].cells o c)) hl];have hp:=o7 hs j hj;have e1:(au xs).take (j*sz+o)=(au xs).take (j*sz)++xs[j].cells.take o:=by
  rw[←hp,List.take_take,Nat.min_eq_left ad4,List.take_add]
 have e2:(au xs).drop (j*sz+o+c.length)=xs[j].cells.drop (o+c.length)++(au xs).drop (j*sz+sz):=by
  have e3:(au xs).drop (j*sz)=xs[j].cells++(au xs).drop (j*sz+sz):=by
   grind [List.drop_drop,List.take_append_drop]
  rw[Nat.add_assoc,←List.drop_drop,e3,List.drop_append_of_le_length ad4]
 show over (au xs) (j*sz+o) c=over (au xs) (j*sz) (over xs[j].cells o c)
 grind [over,Ab.over,List.append_assoc]
theorem MY{us vs:List AV}{o:Nat}{c:List AV}(h1:o+c.length≤us.length):over (us++vs) o c=over us o c++vs:=by
 grind [Ab.over,List.append_assoc]
theorem Ow.idx(hw:Ow tb h sz id y xs){m:Int}{x:IntKind}{K:AV→Prop}(j:Nat)(hm:m=j)(hj:j<xs.length)(hz:(U e).sz=sz)(h0:sz≠0)(hk:K (.ptr id (j*sz))):pz U y (.v (.int x m)) K (.slice e):=by
 obtain⟨cap,rest,rfl,h1,h2,h3,h4⟩:=hw
 simp_all [AX,Nat.zero_add,Int.toNat_natCast]
def OwE(tb:TypeId)(h0 h:Heap)(sz:Nat)(y:AV)(xs:List AV):Prop:=(xs= []∧y= .sl [] .full)∨∃id,h0 id=Option.none∧Ow tb h sz id y xs
variable {h0 : Heap}
theorem OwE.rd(hw:OwE tb h0 h sz y xs):Rd h sz y xs:=by
 rcases hw with⟨rfl,rfl⟩|⟨id,_,hw⟩
 ·exact .sl (fun z hz=>ad5) _
 ·exact hw.rd
theorem OwE.sub(hw:OwE tb h0 h sz y xs)(hs:Sub h h'):OwE tb h0 h' sz y xs:=by
 rcases hw with hw|⟨id,h1,hw⟩
 ·exact ah6
 ·exact .inr ⟨id,h1,hw.sub hs⟩
theorem OwE.ow(hw:OwE tb h0 h sz y xs)(hn:xs≠ []):∃id,h0 id=Option.none∧Ow tb h sz id y xs:=by
 rcases hw with hw|hw
 ·grind
 omega
theorem OwE.app{v:AV}{zs:List AV}{Q:AV→Heap→Prop}(hw:OwE tb h0 h sz y xs)(hs0:Sub h0 h)(hb:Rd h sz v zs)(hz:(U tb).sz=sz)(h1:sz≠0)(hby:(U tb).bytes≠0)(hf:Ab.fit (U tb).zero sz)(hne:zs≠ [])(hlen:(xs.length+zs.length)*(U tb).bytes≤140737488355328)
  (hk:∀id y' h',h0 id=Option.none→(h id=Option.none∨∃l c,y= .ob id 0 l c sz)→Ow tb h' sz id y' (xs++zs)→(∀j,j≠id→h' j=h j)→Q y' h'):apK U h y v Q (.slice tb):=by
 subst hz;rcases hw with⟨rfl,rfl⟩|⟨id,h2,cap,rest,rfl,h3,h4,h5,h6⟩
 ·refine(qu ..).mpr ⟨h1,hby,hb.src rfl ⟨by simp[Sized],hb.1,ad4,fun hn=>(hne hn).elim,fun _=>?_⟩⟩
  refine .ob hf (kL.ow (by simpa using hb.1) aek aec fun id y' h' hid hw ho=>?_)
  exact hk id _ _ (hs0.none hid) (.inl hid) ad5 ho
 ·have hl:=aZ h6
  refine⟨h1,hby,rfl,hb.src rfl ⟨hb.1,hlen,?_⟩⟩;rw[h3];have hsz:Sized (U tb).sz (xs++zs):=fun z hz=>(List.mem_append.1 hz).elim (h6 z) (hb.1 z)
  refine⟨ad5,hf,fun hle=>?_,fun hgt=>?_⟩
  ·have hlz:=aZ hb.1
   have hmul:(cap - xs.length)*(U tb).sz=zs.length*(U tb).sz+(cap - (xs.length+zs.length))*(U tb).sz:=by rw[←Nat.add_mul];grind
   refine hk id _ _ h2 (.inr ⟨_,_,rfl⟩) ⟨cap,rest.drop (zs.length*(U tb).sz),aec,?_,?_,ad5,hsz⟩ fun j hj=>ag _ _ hj
   ·simp_all [ah,mE,Nat.zero_add,Ab.over,List.take_left,List.drop_append,List.drop_of_length_le]
   grind
  ·refine kL.ow hsz ?_ aec fun id' y' h' hid hw ho=>?_
   ·grind [mE,List.take_left]
   ·exact hk id' _ _ (hs0.none hid) (.inl hid) hw ho
theorem wG {f : FuncId} {fn : Func} {tS tR : TypeId} (hU : ∀ t, aP P U t) (hfn : P.funcs[f]? = some fn) (hname : (fn.name == "runtime.NumGoroutine") = false) (hb : fn.body.isNone = true) (hn : Extern.findNext fn = Option.none)
  (he:Extern.find fn=some (Extern.SlicesOverlaps.overlaps #[tS,tS] #[tR])) (hty:(U tS).k= .slice e) (hz:(U e).sz≠0) {q:Perm} (hx:Sized (U e).sz xs) (hne:xs≠ []) {id off len cap sz:Nat} {cs:List AV} {t:TypeId} (hid:h id=some (.obj cs t)) (hcs:cs≠ []):
  ai P f [.sl xs q,.ob id off len cap sz] h fun r h' =>r= .b false∧h' =h:=by
 intro c vs hs g h1 h2;obtain⟨a,cap0,sz0,val,hu,sl⟩:=(h2 0 aec).iK;obtain⟨o,hv,_⟩:=(h2 1 aec).jz;have hd:=(hU tS).desc;rw[hty]at hd;have hpos:0<xs.length:=List.length_pos_iff.2 hne;have hcap:=sl.hc;obtain⟨qa,rfl⟩:∃qa,a=some qa:=by
  cases a with
  |none=>have:=sl.h0 rfl;omega
  |some qa=>simp
 have hs0:sz0=(U e).sz:=by rw[←sl.hz 0 hpos];exact hx _ (adZ hpos)
 have hf:=sl.hf qa rfl 0 0 hpos ad4;have hq:=(sl.hs qa rfl ad4).1;have hcid:=hs _ _ hid;obtain⟨us,u1,u2,u3⟩:=g.obj id cs t hcid;have hnb:qa.block≠(c.φ id).block:=fun hh=>hf.2 ⟨id,_,hcid,hh.symm,Nat.zero_le _⟩
 obtain⟨ws,tw,fr,hws,hwlt⟩:∃ws tw fr,c.w.heap[qa.block]? =some (.cells ws tw fr)∧0<ws.size:=by
  have:=hf.1;simp only[World.cell?]at this;split at this
  ·rename_i ws tw fr hh
   refine⟨ws,tw,fr,hh,?_⟩
   grind
  all_goals cases this
 have hvs:vs= #[.slice (some qa) xs.length cap0,.slice (some ⟨(c.φ id).block,o,Option.none⟩) len cap]:=by
  apply Array.ext
  ·omega
  ·intro i hi hi2
   have hi3:i<2:=ad4;rcases i with _|_|i
   ·simpa[Array.getD,hi]using hu
   ·simpa[Array.getD,hi]using hv
   ·omega
 subst hvs;refine .inr ⟨.bool false,c.w,?_,c,_,h,rfl,g,.refl c,.v _,hs,rfl,rfl⟩;rw[Go.run_callFunc_extern hfn hname hb hn he];have key:(Extern.SlicesOverlaps.overlaps #[tS,tS] #[tR] #[.slice (some qa) xs.length cap0,.slice (some ⟨(c.φ id).block,o,Option.none⟩) len cap]).run P c.w= .ok (.bool false) c.w:=by
  have hnb1:(qa.block !=(c.φ id).block)=true:=ad5;have hnb2:(qa.block==(c.φ id).block)=false:=ad5;have hws2:∃m,ws.size=m+1:=⟨ws.size - 1,ad4⟩;obtain⟨m,hm⟩:=hws2
  change Sem.run P (α:=Value) (do
   let some t := (#[tS, tS] : Array TypeId)[0]? | stuck "slices.overlaps: no parameter types"
   let .slice elem ← underlying t | stuck "slices.overlaps: slice type expected"
   let size←sizeOf elem
   match (some qa:Option Addr),(some ⟨(c.φ id).block,o,Option.none⟩:Option Addr)with
   |some a,some b=>
    if xs.length=0∨len=0∨size=0 then pure (Value.bool false)
    else if a.block !=b.block && (←frozen a) && (←frozen b)then unsupported .addressObserved
    else do
     if a.block !=b.block then do
      noView a;noView b
      if ← mayBeOne a b then return Value.bool ((← choose (.extern "sameAddr.stringBytes" 2)) == 1)
     pure (Value.bool (a.block==b.block && a.off<b.off+len*size && b.off<a.off+xs.length*size))
   |_,_=>pure (Value.bool false)) c.w=_
  have hfb:∀x,c.w.frozen? ⟨(c.φ id).block,x,Option.none⟩=false:=fun x=>by grind [World.frozen?]
  have hsb:c.w.shape? (c.φ id).block=some (t,us.size):=by grind [World.shape?]
  have hsa:c.w.shape? qa.block=some (tw,m+1):=by grind [World.shape?]
  by_cases hl:len=0
  ·simp[run_underlying hd,bC hU hz,hl]
  ·have hus:us.size≠0:=by grind
   obtain⟨n,hn'⟩:∃n,us.size=n+1:=⟨us.size - 1,ad4⟩;rw[hn']at hsb;cases hfa:c.w.frozen? qa<;>cases hfa2:c.w.frozen? {block:=qa.block,off:=m+1}<;>
    simp[run_underlying hd,bC hU hz,hl,hne,hz,hnb1,hnb2,frozen,noView,viewAt,mayBeOne,stringish,shape,Sem.run,hsa,hsb,hfb,hfa,hfa2]
 rw[key];rfl
end
end Go.Ab
namespace Go.Bf
open Go Go.Ab
structure OpD where
 kind:Int
 subj:Txt
 case:Txt
 field:Txt
 to:Txt
 val:bu
 review:Int
 text:Txt
 reason:Txt
 glass:Bool
structure wY where
 tick:Int
 actor:Txt
 what:Txt
structure cN where
 name:Txt
 val:bu
structure aM where
 id:Txt
 owner:Txt
 state:Txt
 fields:List cN
 log:List wY
structure qg where
 id:Int
 tick:Int
 subj:Txt
 case:Txt
 action:Txt
 reason:Txt
 isOpen:Bool
structure Fa where
 tick:Int
 case:Txt
 arg:Txt
structure gZ where
 subj:Txt
 role:Txt
structure an where
 tick:Int
 cases:List aM
 reviews:List qg
 notices:List Fa
 roles:List gZ
 policy:bD
 version:Int
structure bt where
 cat:Int
 name:Txt
 bag:List bu
def opC(o:OpD):List AV:=[.i o.kind,.s o.subj,.s o.case,.s o.field,.s o.to,.i o.val.kind,.i o.val.n,.s o.val.s,.i o.review,.s o.text,.s o.reason,.b o.glass]
def opA(o:OpD):AV:=.agg (opC o)
def gq(x:wY):AV:=.agg [.i x.tick,.s x.actor,.s x.what]
def bB(f:cN):AV:=.agg [.s f.name,.i f.val.kind,.i f.val.n,.s f.val.s]
def gF(l:List cN):AV:=.sl (l.map bB) .no
def sH(l:List wY):AV:=.sl (l.map gq) .no
def mO(c:aM):List AV:=[.s c.id,.s c.owner,.s c.state,gF c.fields,sH c.log]
def bT(c:aM):AV:=.agg (mO c)
def fT(l:List aM):AV:=.sl (l.map bT) .no
def gu(r:qg):AV:=.agg [.i r.id,.i r.tick,.s r.subj,.s r.case,.s r.action,.s r.reason,.b r.isOpen]
def kj(l:List qg):AV:=.sl (l.map gu) .no
def j5(n:Fa):AV:=.agg [.i n.tick,.s n.case,.s n.arg]
def kM(l:List Fa):AV:=.sl (l.map j5) .no
def di(r:gZ):AV:=.agg [.s r.subj,.s r.role]
def dW(l:List gZ):AV:=.sl (l.map di) .no
def fZ:bD→List AV
 |.mk id set alg tgt rules kids obls=>[.s id,.b set,.i alg,aW tgt,.sl (rules.map aB) .no,.sl (fC kids) .no,ay obls]
theorem PA(p:bD):aK p= .agg (fZ p):=by cases p;rfl
def ct(s:an):AV:=.agg ([.i s.tick,fT s.cases,kj s.reviews,kM s.notices,dW s.roles]++fZ s.policy++ [.i s.version])
def lF(g:bt):AV:=.agg [.i g.cat,.s g.name,.sl (g.bag.map aS) .no]
def bL(l:List bt):AV:=.sl (l.map lF) .no
def geB(a b:Txt):Bool:= !(Op.bytesLess a b)
def findD(cs:List aM)(id:Txt):Nat:=cs.findIdx fun c=>geB c.id id
def cc(cs:List aM)(id:Txt):Bool:=match cs[findD cs id]? with
 |some c=>c.id==id
 |none=>false
def aq:bu:=⟨0,0,[]⟩
def oS:aM:=⟨[],[],[],[],[]⟩
def bw(cs:List aM)(id:Txt):aM:=if cc cs id then cs.getD (findD cs id) oS else oS
def dQ(fs:List cN)(name:Txt):bu:=match fs.find? fun f=>f.name==name with
 |some f=>f.val
 |none=>aq
def uW(a b:gZ):Bool:=a.subj==b.subj && a.role==b.role
def yy(l:List gZ)(r:gZ):Bool:=l.any (uW r)
def jJ:Txt:=[111,112,101,110]
def wW:Txt:=[119,111,114,107]
def AL:Txt:=[100,111,110,101]
def ie:Txt:=[99,108,111,115,101,100]
def mR(a b:Txt):Bool:=
 if a==jJ then b==wW else if a==wW then b==AL else if a==AL then b==wW||b==ie else false
def UR:List Txt:=[[110,101,119],[114,101,97,100],[119,114,105,116,101],[109,111,118,101],[99,108,111,115,101],[114,111,108,101],[112,111,108,105,99,121]]
def iQ(k:Int):Txt:=if k<1∨k>7 then [116,105,99,107]else UR.getD (k - 1).toNat []
def vn(k:Int):Bool:=decide (1≤k) && decide (k≤4)
def jb(s:Txt):Bool:=s== []||bp s
def mB(o:OpD):Bool:=if o.glass then vn o.kind && (!(o.reason== [])) && decide (o.reason.length≤64)else o.reason== []
def iY(o:OpD):OpD:=
 let z:OpD:=⟨o.kind,[],[],[],[],aq,0,[],[],false⟩
 if o.kind=1 then {z with case:=o.case}
 else if o.kind=2∨o.kind=6 then {z with case:=o.case,field:=o.field}
 else if o.kind=3 then {z with case:=o.case,field:=o.field,val:=o.val}
 else if o.kind=4 then {z with case:=o.case,to:=o.to}
 else if o.kind=5∨o.kind=8 then {z with review:=o.review}
 else {z with text:=o.text}
def eqV(a b:bu):Bool:=a.kind==b.kind && (a.n==b.n && a.s==b.s)
def nj(a b:OpD):Bool:=a.kind==b.kind && (a.subj==b.subj && (a.case==b.case && (a.field==b.field && (a.to==b.to && (a.val.kind==b.val.kind && (a.val.n==b.val.n && (a.val.s==b.val.s && (a.review==b.review && (a.text==b.text && (a.reason==b.reason && a.glass==b.glass))))))))))
def okD(o:OpD):Bool:=
 if o.kind=1 then !(o.case== [])
 else if o.kind=2∨o.kind=6 then !(o.case== []) && !(o.field== [])
 else if o.kind=3 then !(o.case== []) && !(o.field== []) && !(eqV o.val aq)
 else if o.kind=4 then !(o.case== []) && !(o.to== [])
 else if o.kind=5 then decide (0<o.review)
 else if o.kind=8 then decide (0<o.review) && decide (o.review≤1099511627776)
 else true
def hY(o:OpD):OpD:={o with subj:=[],reason:=[],glass:=false}
def dR(o:OpD):Bool:=decide (1≤o.kind) && decide (o.kind≤8) && okD o && nj (hY o) (iY o)
def dD(o:OpD):Bool:=bp o.subj && mB o && decide (o.text.length≤4096) && jb o.case && jb o.field && jb o.to && (eqV o.val aq||bz o.val) && dR o
def bW(s:an)(o:OpD):Int:=
 let c:=bw s.cases o.case
 if cc s.cases o.case=false then 10
 else if o.kind=3∧c.fields.length≥16∧eqV (dQ c.fields o.field) aq=true then 6
 else if o.kind≠2∧c.log.length≥256 then 6
 else if o.kind=3∧c.state=ie∨o.kind=4∧mR c.state o.to=false then 13
 else 0
def wJ(l:List qg)(n:Int):Option qg:=if 1≤n then l[(n - 1).toNat]? else none
def fl(s:an)(o:OpD):Int:=match wJ s.reviews o.review with
 |none=>10
 |some r=>if r.isOpen=false then 10 else if r.subj=o.subj then 12 else 0
def bJ(s:an)(o:OpD):Int:=
 if dD o=false then 1
 else if o.kind=1 then(if cc s.cases o.case then 11 else if s.cases.length≥64 then 6 else 0)
 else if 2≤o.kind∧o.kind≤4 then bW s o
 else if o.kind=5 then fl s o
 else if o.kind=6 then(if s.roles.length≥64∧yy s.roles ⟨o.case,o.field⟩=false then 6 else 0)
 else if o.kind=8 then(if s.tick>1099511627776 - o.review then 6 else 0)
 else 0
def idV(s:Txt):bu:=⟨5,0,s⟩
def uz(l:List wY)(subj:Txt):bu:=⟨1,if l.any (fun x=>x.actor==subj)then 1 else 0,[]⟩
def idT:Txt:=[105,100]
def cI(c:aM)(subj:Txt):List bt:=
 [⟨3,idT,[idV c.id]⟩,⟨3,[111,119,110,101,114],[idV c.owner]⟩,⟨3,[115,116,97,116,101],[idV c.state]⟩,⟨3,[101,118,101,110,116,115],[⟨2,c.log.length,[]⟩]⟩,⟨3,[116,111,111,107],[uz c.log subj]⟩]++
 (match c.log.getLast? with
  |some x=>[⟨3,[108,97,115,116],[idV x.actor]⟩]
  |none=>[])++
 (c.fields.filter fun f=>decide (f.name.length≤14)).map fun f=>⟨3,[102,95]++f.name,[f.val]⟩
def dz(l:List gZ)(subj:Txt):List bu:=((l.filter fun r=>r.subj==subj).map fun r=>idV r.role).take 16
def fI(s:an)(o:OpD):List bt:=
 [⟨1,idT,[idV o.subj]⟩,⟨1,[114,111,108,101],dz s.roles o.subj⟩,⟨2,[110,97,109,101],[idV (iQ o.kind)]⟩]++
 (if o.field= []then []else [⟨2,[102,105,101,108,100],[idV o.field]⟩])++
 (if o.to= []then []else [⟨2,[116,111],[idV o.to]⟩])++
 [⟨4,[110,111,119],[⟨4,s.tick,[]⟩]⟩]++
 (if cc s.cases o.case=true∧o.kind≠6 then cI (bw s.cases o.case) o.subj else [])
def eD(fs:List cN)(name:Txt)(v:bu):List cN:=
 let i:=fs.findIdx fun f=>geB f.name name
 match fs[i]? with
 |none=>fs++ [⟨name,v⟩]
 |some f=>if f.name=name then fs.set i ⟨f.name,v⟩else fs.take i++ [⟨name,v⟩]++fs.drop i
def jy(s:an)(c:aM)(actor what:Txt):aM:={c with log:=c.log++ [⟨s.tick,actor,what⟩]}
def doD(par:Txt→bD×Int×Int)(s:an)(o:OpD):an:=
 let i:=findD s.cases o.case
 if o.kind=1 then {s with cases:=s.cases.take i++ [jy s ⟨o.case,o.subj,jJ,[],[]⟩ o.subj [110,101,119]]++s.cases.drop i}
 else if o.kind=3 then {s with cases:=s.cases.modify i fun c=>jy s {c with fields:=eD c.fields o.field o.val} o.subj [119,114,105,116,101]}
 else if o.kind=4 then {s with cases:=s.cases.modify i fun c=>jy s {c with state:=o.to} o.subj o.to}
 else if o.kind=5 then {s with reviews:=s.reviews.modify (o.review - 1).toNat fun r=> {r with isOpen:=false}}
 else if o.kind=6 then(if yy s.roles ⟨o.case,o.field⟩then s else {s with roles:=s.roles++ [⟨o.case,o.field⟩]})
 else if o.kind=7 then(if(par o.text).2.1=0 then {s with policy:=(par o.text).1,version:=s.version+1} else s)
 else if o.kind=8 then {s with tick:=s.tick+o.review}
 else s
def dO(par:Txt→bD×Int×Int)(s:an)(o:OpD):an:=if bJ s o=0 then doD par s o else s
def i64(n:Int):Prop:= -9223372036854775808≤n∧n≤9223372036854775807
end Go.Bf
namespace Go.Proofs.YtbbadggejjgihaaGreatDoor
open Go Go.Ab
def tyN:TI:=⟨.other,0,0,default,none⟩
abbrev ad2:TI:=⟨.other,1,8,.v .nilFunc,none⟩
def NQ:List TI:=[
 tyN,
 ad2,
 ⟨.int .i64,1,8,.i 0,some (0,[.int .i64])⟩,
 ⟨.int .i64,1,8,.i 0,some (0,[.int .i64])⟩,
 ⟨.bool,1,1,.b false,some (0,[.bool])⟩,
 ⟨.int .u8,1,1,.v (.int .u8 0),some (0,[.int .u8])⟩,
 ⟨.int .u8,1,1,.v (.int .u8 0),some (0,[.int .u8])⟩,
 ⟨.strct [(0,2),(1,3),(2,4),(3,6)],4,24,.agg [.i 0,.i 0,.b false,.v (.int .u8 0)],none⟩,
 ⟨.strct [(0,2),(1,3),(2,4),(3,6)],4,24,.agg [.i 0,.i 0,.b false,.v (.int .u8 0)],none⟩,
 ⟨.str,1,16,.s [],some (0,[.str])⟩,
 tyN,
 ⟨.str,1,16,.s [],some (0,[.str])⟩,
 tyN,
 tyN,
 tyN,
 tyN,
 tyN,
 tyN,
 tyN,
 tyN,
 tyN,
 tyN,
 ⟨.slice 9,1,24,.sl [] .full,none⟩,
 ⟨.ptr 88,1,8,.v (.pointer none),none⟩,
 ⟨.ptr 143,1,8,.v (.pointer none),none⟩,
 tyN,
 tyN,
 tyN,
 tyN,
 ⟨.slice 39,1,24,.sl [] .full,none⟩,
 tyN,
 tyN,
 ⟨.strct [(0,3),(1,3),(2,9)],3,32,.agg [.i 0,.i 0,.s []],some (1,[.int .i64,.int .i64,.str])⟩,
 ⟨.strct [(0,3),(1,9),(2,9),(3,9),(4,9),(5,32),(8,3),(9,9),(10,9),(11,4)],12,152,.agg [.i 0,.s [],.s [],.s [],.s [],.i 0,.i 0,.s [],.i 0,.s [],.s [],.b false],some (2,[.int .i64,.str,.str,.str,.str,.int .i64,.int .i64,.str,.int .i64,.str,.str,.bool])⟩,
 ⟨.strct [(0,3),(1,9),(2,9),(3,9),(4,9),(5,32),(8,3),(9,9),(10,9),(11,4)],12,152,.agg [.i 0,.s [],.s [],.s [],.s [],.i 0,.i 0,.s [],.i 0,.s [],.s [],.b false],some (2,[.int .i64,.str,.str,.str,.str,.int .i64,.int .i64,.str,.int .i64,.str,.str,.bool])⟩,
 ⟨.cplx .f64,1,16,.v (.complex .f64 0 0),some (0,[.cplx .f64])⟩,
 ⟨.cplx .f64,1,16,.v (.complex .f64 0 0),some (0,[.cplx .f64])⟩,
 ⟨.slice 91,1,24,.sl [] .full,none⟩,
 tyN,
 ⟨.strct [(0,34),(12,3),(13,36),(14,4),(15,37)],16,208,.agg [.i 0,.s [],.s [],.s [],.s [],.i 0,.i 0,.s [],.i 0,.s [],.s [],.b false,.i 0,.v (.complex .f64 0 0),.b false,.sl [] .full],none⟩,
 ⟨.slice 133,1,24,.sl [] .full,none⟩,
 ⟨.slice 99,1,24,.sl [] .full,none⟩,
 ⟨.slice 102,1,24,.sl [] .full,none⟩,
 ⟨.slice 105,1,24,.sl [] .full,none⟩,
 ⟨.slice 230,1,24,.sl [] .full,none⟩,
 ⟨.slice 230,1,24,.sl [] .full,none⟩,
 ⟨.slice 167,1,24,.sl [] .full,none⟩,
 ⟨.slice 49,1,24,.sl [] .full,none⟩,
 tyN,
 ⟨.strct [(0,9),(1,4),(2,3),(3,45),(4,46),(5,47),(6,37)],7,128,.agg [.s [],.b false,.i 0,.sl [] .full,.sl [] .full,.sl [] .full,.sl [] .full],none⟩,
 ⟨.strct [(0,3),(1,40),(2,41),(3,42),(4,43),(5,49),(12,3)],13,240,.agg [.i 0,.sl [] .full,.sl [] .full,.sl [] .full,.sl [] .full,.s [],.b false,.i 0,.sl [] .full,.sl [] .full,.sl [] .full,.sl [] .full,.i 0],none⟩,
 ⟨.strct [(0,3),(1,40),(2,41),(3,42),(4,43),(5,49),(12,3)],13,240,.agg [.i 0,.sl [] .full,.sl [] .full,.sl [] .full,.sl [] .full,.s [],.b false,.i 0,.sl [] .full,.sl [] .full,.sl [] .full,.sl [] .full,.i 0],none⟩,
 ad2,
 ad2,
 ad2,
 ⟨.int .i64,1,8,.i 0,some (0,[.int .i64])⟩,
 tyN,
 ad2,
 tyN,
 ad2,
 ⟨.int .u64,1,8,.v (.int .u64 0),some (0,[.int .u64])⟩,
 ad2,
 ⟨.slice 3,1,24,.sl [] .full,none⟩,
 tyN,
 tyN,
 ⟨.strct [(0,55),(1,36),(2,4),(3,32),(6,4),(7,3)],8,80,.agg [.i 0,.v (.complex .f64 0 0),.b false,.i 0,.i 0,.s [],.b false,.i 0],some (2,[.int .i64,.cplx .f64,.bool,.int .i64,.int .i64,.str,.bool,.int .i64])⟩,
 ⟨.strct [(0,55),(1,36),(2,4),(3,32),(6,4),(7,3)],8,80,.agg [.i 0,.v (.complex .f64 0 0),.b false,.i 0,.i 0,.s [],.b false,.i 0],some (2,[.int .i64,.cplx .f64,.bool,.int .i64,.int .i64,.str,.bool,.int .i64])⟩,
 tyN,
 ad2,
 tyN,
 tyN,
 tyN,
 tyN,
 tyN,
 tyN,
 ⟨.slice 77,1,24,.sl [] .full,none⟩,
 tyN,
 ⟨.slice 5,1,24,.sl [] .full,none⟩,
 tyN,
 tyN,
 ad2,
 tyN,
 tyN,
 tyN,
 tyN,
 tyN,
 ⟨.ptr 157,1,8,.v (.pointer none),none⟩,
 tyN,
 ⟨.strct [(0,86),(1,51),(14,29),(15,60)],16,280,.agg [.v (.pointer none),.i 0,.sl [] .full,.sl [] .full,.sl [] .full,.sl [] .full,.s [],.b false,.i 0,.sl [] .full,.sl [] .full,.sl [] .full,.sl [] .full,.i 0,.sl [] .full,.v (.int .u64 0)],none⟩,
 tyN,
 tyN,
 ⟨.strct [(0,3),(1,3),(2,9)],3,32,.agg [.i 0,.i 0,.s []],some (1,[.int .i64,.int .i64,.str])⟩,
 tyN,
 tyN,
 tyN,
 ad2,
 tyN,
 ad2,
 ⟨.strct [(0,3),(1,3),(2,9),(3,9),(4,9),(5,9),(6,4)],7,88,.agg [.i 0,.i 0,.s [],.s [],.s [],.s [],.b false],some (1,[.int .i64,.int .i64,.str,.str,.str,.str,.bool])⟩,
 ⟨.strct [(0,3),(1,3),(2,9),(3,9),(4,9),(5,9),(6,4)],7,88,.agg [.i 0,.i 0,.s [],.s [],.s [],.s [],.b false],some (1,[.int .i64,.int .i64,.str,.str,.str,.str,.bool])⟩,
 ad2,
 ⟨.strct [(0,3),(1,9),(2,9)],3,40,.agg [.i 0,.s [],.s []],some (1,[.int .i64,.str,.str])⟩,
 ⟨.strct [(0,3),(1,9),(2,9)],3,40,.agg [.i 0,.s [],.s []],some (1,[.int .i64,.str,.str])⟩,
 ad2,
 ⟨.strct [(0,9),(1,9)],2,32,.agg [.s [],.s []],some (1,[.str,.str])⟩,
 ⟨.strct [(0,9),(1,9)],2,32,.agg [.s [],.s []],some (1,[.str,.str])⟩,
 ad2,
 ad2,
 tyN,
 ad2,
 tyN,
 ad2,
 ad2,
 ad2,
 tyN,
 ad2,
 ad2,
 ⟨.strct [(0,36),(1,37)],2,40,.agg [.v (.complex .f64 0 0),.sl [] .full],none⟩,
 ⟨.strct [(0,36),(1,37)],2,40,.agg [.v (.complex .f64 0 0),.sl [] .full],none⟩,
 ad2,
 tyN,
 ad2,
 ⟨.slice 199,1,24,.sl [] .full,none⟩,
 ad2,
 tyN,
 ad2,
 ad2,
 ⟨.ptr 51,1,8,.v (.pointer none),none⟩,
 tyN,
 tyN,
 ⟨.slice 160,1,24,.sl [] .full,none⟩,
 ⟨.slice 163,1,24,.sl [] .full,none⟩,
 tyN,
 ⟨.strct [(0,9),(1,9),(2,9),(3,130),(4,131)],5,96,.agg [.s [],.s [],.s [],.sl [] .full,.sl [] .full],none⟩,
 tyN,
 tyN,
 tyN,
 tyN,
 tyN,
 tyN,
 tyN,
 tyN,
 tyN,
 ⟨.strct [(0,3),(1,77),(2,3),(3,3),(4,4)],5,56,.agg [.i 0,.sl [] .full,.i 0,.i 0,.b false],none⟩,
 tyN,
 tyN,
 tyN,
 ⟨.int .u32,1,4,.v (.int .u32 0),some (0,[.int .u32])⟩,
 tyN,
 tyN,
 tyN,
 tyN,
 tyN,
 tyN,
 tyN,
 tyN,
 tyN,
 ⟨.strct [(0,24),(1,75),(2,4)],3,40,.agg [.v (.pointer none),.sl [] .full,.b false],none⟩,
 tyN,
 tyN,
 ⟨.strct [(0,9),(1,32)],4,48,.agg [.s [],.i 0,.i 0,.s []],some (2,[.str,.int .i64,.int .i64,.str])⟩,
 tyN,
 tyN,
 ⟨.strct [(0,3),(1,9),(2,9)],3,40,.agg [.i 0,.s [],.s []],some (1,[.int .i64,.str,.str])⟩,
 tyN,
 ⟨.slice 172,1,24,.sl [] .full,none⟩,
 tyN,
 ⟨.strct [(0,9),(1,4),(2,45),(3,165),(4,37)],5,96,.agg [.s [],.b false,.sl [] .full,.sl [] .full,.sl [] .full],none⟩,
 tyN,
 tyN,
 ⟨.strct [(0,3),(1,9),(2,4)],3,32,.agg [.i 0,.s [],.b false],some (1,[.int .i64,.str,.bool])⟩,
 tyN,
 ⟨.strct [(0,3),(1,32),(4,170)],7,72,.agg [.i 0,.i 0,.i 0,.s [],.i 0,.s [],.b false],some (2,[.int .i64,.int .i64,.int .i64,.str,.int .i64,.str,.bool])⟩,
 ⟨.slice 181,1,24,.sl [] .full,none⟩,
 tyN,
 tyN,
 ⟨.ptr 178,1,8,.v (.pointer none),none⟩,
 tyN,
 ⟨.strct [(0,173),(1,3),(2,3),(3,55),(4,3)],5,56,.agg [.sl [] .full,.i 0,.i 0,.i 0,.i 0],none⟩,
 tyN,
 tyN,
 ⟨.strct [(0,3),(1,3),(2,3),(3,9)],4,40,.agg [.i 0,.i 0,.i 0,.s []],some (1,[.int .i64,.int .i64,.int .i64,.str])⟩,
 tyN,
 tyN,
 tyN,
 tyN,
 tyN,
 tyN,
 ⟨.iface,1,16,.v .nilIface,none⟩,
 tyN,
 tyN,
 tyN,
 tyN,
 tyN,
 tyN,
 tyN,
 ⟨.slice 32,1,24,.sl [] .full,none⟩,
 tyN,
 tyN,
 ⟨.strct [(0,3),(1,9),(2,196)],3,48,.agg [.i 0,.s [],.sl [] .full],none⟩,
 tyN,
 tyN,
 tyN,
 tyN,
 tyN,
 tyN,
 tyN,
 tyN,
 ⟨.ptr 133,1,8,.v (.pointer none),none⟩,
 tyN,
 tyN,
 tyN,
 ad2,
 tyN,
 tyN,
 ad2,
 tyN,
 ad2,
 tyN,
 tyN,
 tyN,
 ⟨.int .u64,1,8,.v (.int .u64 0),some (0,[.int .u64])⟩,
 tyN,
 tyN,
 tyN,
 ⟨.ptr 272,1,8,.v (.pointer none),none⟩,
 tyN,
 tyN,
 tyN,
 ad2,
 ⟨.slice 234,1,24,.sl [] .full,none⟩,
 tyN,
 tyN,
 ⟨.strct [(0,170),(3,3),(4,32)],7,72,.agg [.i 0,.s [],.b false,.i 0,.i 0,.i 0,.s []],some (2,[.int .i64,.str,.bool,.int .i64,.int .i64,.int .i64,.str])⟩,
 ⟨.slice 233,1,24,.sl [] .full,none⟩,
 tyN,
 tyN,
 tyN,
 tyN,
 tyN,
 tyN,
 tyN,
 tyN,
 tyN,
 ⟨.ptr 247,1,8,.v (.pointer none),none⟩,
 ⟨.map 9 355,1,8,.v (.map none),none⟩,
 tyN,
 ⟨.strct [(0,245),(1,3)],2,16,.agg [.v (.map none),.i 0],none⟩,
 tyN,
 tyN,
 tyN,
 tyN,
 tyN,
 tyN,
 tyN,
 tyN,
 tyN,
 ad2,
 tyN,
 tyN,
 tyN,
 tyN,
 tyN,
 tyN,
 tyN,
 ⟨.ptr 267,1,8,.v (.pointer none),none⟩,
 tyN,
 ⟨.strct [(0,265),(1,77)],2,32,.agg [.v (.pointer none),.sl [] .full],none⟩,
 tyN,
 tyN,
 tyN,
 tyN,
 ⟨.strct [(0,77),(1,3),(2,4)],3,40,.agg [.sl [] .full,.i 0,.b false],none⟩,
 tyN,
 tyN,
 ad2,
 tyN,
 tyN,
 tyN,
 tyN,
 tyN,
 tyN,
 tyN,
 tyN,
 tyN,
 tyN,
 tyN,
 tyN,
 tyN,
 tyN,
 tyN,
 tyN,
 tyN,
 tyN,
 tyN,
 ⟨.slice 118,1,24,.sl [] .full,none⟩,
 tyN,
 tyN,
 tyN,
 ad2,
 tyN,
 tyN,
 ad2,
 tyN,
 tyN,
 tyN,
 tyN,
 tyN,
 tyN,
 tyN,
 tyN,
 tyN,
 tyN,
 tyN,
 tyN,
 tyN,
 ad2,
 tyN,
 ad2,
 tyN,
 tyN,
 tyN,
 tyN,
 tyN,
 tyN,
 tyN,
 tyN,
 tyN,
 tyN,
 tyN,
 tyN,
 tyN,
 tyN,
 ⟨.slice 36,1,24,.sl [] .full,none⟩,
 tyN,
 tyN,
 tyN,
 tyN,
 tyN,
 tyN,
 tyN,
 tyN,
 tyN,
 tyN,
 tyN,
 tyN,
 tyN,
 tyN,
 tyN,
 tyN,
 tyN,
 tyN,
 tyN,
 tyN,
 tyN,
 ⟨.strct [],0,0,default,none⟩,
 tyN,
 tyN,
 ⟨.slice 4,1,24,.sl [] .full,none⟩,
 tyN,
 tyN,
 tyN,
 tyN,
 tyN,
 tyN,
 tyN,
 tyN,
 tyN,
 tyN,
 tyN,
 ⟨.strct [(0,196),(1,32),(4,55)],5,64,.agg [.sl [] .full,.i 0,.i 0,.s [],.i 0],none⟩,
 ad2,
 tyN,
 tyN,
 tyN,
 tyN,
 tyN,
 tyN,
 tyN,
 tyN,
 tyN,
 tyN,
 tyN,
 tyN,
 tyN,
 tyN,
 tyN,
 ⟨.slice 370,1,24,.sl [] .full,none⟩,
 tyN,
 tyN,
 tyN,
 tyN,
 tyN,
 tyN,
 tyN,
 tyN,
 tyN,
 ad2,
 tyN,
 tyN,
 tyN,
 tyN,
 tyN,
 tyN,
 tyN,
 tyN,
 tyN,
 tyN,
 tyN,
 ad2,
 tyN,
 tyN,
 tyN,
 tyN,
 tyN,
 tyN,
 tyN,
 tyN,
 tyN,
 tyN,
 tyN,
 tyN,
 tyN,
 tyN]
def U(t:TypeId):TI:=NQ.getD t ⟨.other,0,0,default,none⟩
@[go_sem] theorem U3k:(U 3).k= .int .i64∧(U 3).sz=1∧(U 3).bytes=8∧(U 3).zero= .i 0:=⟨rfl,rfl,rfl,rfl⟩
@[go_sem] theorem U4k:(U 4).k= .bool∧(U 4).sz=1∧(U 4).bytes=1∧(U 4).zero= .b false:=⟨rfl,rfl,rfl,rfl⟩
@[go_sem] theorem U5k:(U 5).k= .int .u8∧(U 5).sz=1∧(U 5).bytes=1∧(U 5).zero= .v (.int .u8 0):=⟨rfl,rfl,rfl,rfl⟩
@[go_sem] theorem U9k:(U 9).k= .str∧(U 9).sz=1∧(U 9).bytes=16∧(U 9).zero= .s []:=⟨rfl,rfl,rfl,rfl⟩
@[go_sem] theorem abR:(U 22).k= .slice 9∧(U 22).sz=1∧(U 22).bytes=24∧(U 22).zero= .sl [] .full:=⟨rfl,rfl,rfl,rfl⟩
@[go_sem] theorem abV:(U 23).k= .ptr 88∧(U 23).sz=1∧(U 23).bytes=8∧(U 23).zero= .v (.pointer none):=⟨rfl,rfl,rfl,rfl⟩
@[go_sem] theorem abZ:(U 24).k= .ptr 143∧(U 24).sz=1∧(U 24).bytes=8∧(U 24).zero= .v (.pointer none):=⟨rfl,rfl,rfl,rfl⟩
@[go_sem] theorem ab3:(U 29).k= .slice 39∧(U 29).sz=1∧(U 29).bytes=24∧(U 29).zero= .sl [] .full:=⟨rfl,rfl,rfl,rfl⟩
@[go_sem] theorem ab8:(U 32).k= .strct [(0,3),(1,3),(2,9)]∧(U 32).sz=3∧(U 32).bytes=32∧(U 32).zero= .agg [.i 0,.i 0,.s []]∧(U 32).eq=some (1,[.int .i64,.int .i64,.str]):=⟨rfl,rfl,rfl,rfl,rfl⟩
@[go_sem] theorem acg:(U 34).k= .strct [(0,3),(1,9),(2,9),(3,9),(4,9),(5,32),(8,3),(9,9),(10,9),(11,4)]∧(U 34).sz=12∧(U 34).bytes=152∧(U 34).zero= .agg [.i 0,.s [],.s [],.s [],.s [],.i 0,.i 0,.s [],.i 0,.s [],.s [],.b false]∧(U 34).eq=some (2,[.int .i64,.str,.str,.str,.str,.int .i64,.int .i64,.str,.int .i64,.str,.str,.bool]):=⟨rfl,rfl,rfl,rfl,rfl⟩
@[go_sem] theorem ack:(U 36).k= .cplx .f64∧(U 36).sz=1∧(U 36).bytes=16∧(U 36).zero= .v (.complex .f64 0 0):=⟨rfl,rfl,rfl,rfl⟩
@[go_sem] theorem acp:(U 37).k= .slice 91∧(U 37).sz=1∧(U 37).bytes=24∧(U 37).zero= .sl [] .full:=⟨rfl,rfl,rfl,rfl⟩
@[go_sem] theorem acu:(U 39).k= .strct [(0,34),(12,3),(13,36),(14,4),(15,37)]∧(U 39).sz=16∧(U 39).bytes=208∧(U 39).zero= .agg [.i 0,.s [],.s [],.s [],.s [],.i 0,.i 0,.s [],.i 0,.s [],.s [],.b false,.i 0,.v (.complex .f64 0 0),.b false,.sl [] .full]:=⟨rfl,rfl,rfl,rfl⟩
@[go_sem] theorem acz:(U 40).k= .slice 133∧(U 40).sz=1∧(U 40).bytes=24∧(U 40).zero= .sl [] .full:=⟨rfl,rfl,rfl,rfl⟩
@[go_sem] theorem acD:(U 41).k= .slice 99∧(U 41).sz=1∧(U 41).bytes=24∧(U 41).zero= .sl [] .full:=⟨rfl,rfl,rfl,rfl⟩
@[go_sem] theorem acH:(U 42).k= .slice 102∧(U 42).sz=1∧(U 42).bytes=24∧(U 42).zero= .sl [] .full:=⟨rfl,rfl,rfl,rfl⟩
@[go_sem] theorem acL:(U 43).k= .slice 105∧(U 43).sz=1∧(U 43).bytes=24∧(U 43).zero= .sl [] .full:=⟨rfl,rfl,rfl,rfl⟩
@[go_sem] theorem acP:(U 45).k= .slice 230∧(U 45).sz=1∧(U 45).bytes=24∧(U 45).zero= .sl [] .full:=⟨rfl,rfl,rfl,rfl⟩
@[go_sem] theorem acT:(U 46).k= .slice 167∧(U 46).sz=1∧(U 46).bytes=24∧(U 46).zero= .sl [] .full:=⟨rfl,rfl,rfl,rfl⟩
@[go_sem] theorem acX:(U 47).k= .slice 49∧(U 47).sz=1∧(U 47).bytes=24∧(U 47).zero= .sl [] .full:=⟨rfl,rfl,rfl,rfl⟩
@[go_sem] theorem ac1:(U 49).k= .strct [(0,9),(1,4),(2,3),(3,45),(4,46),(5,47),(6,37)]∧(U 49).sz=7∧(U 49).bytes=128∧(U 49).zero= .agg [.s [],.b false,.i 0,.sl [] .full,.sl [] .full,.sl [] .full,.sl [] .full]:=⟨rfl,rfl,rfl,rfl⟩
@[go_sem] theorem ac5:(U 51).k= .strct [(0,3),(1,40),(2,41),(3,42),(4,43),(5,49),(12,3)]∧(U 51).sz=13∧(U 51).bytes=240∧(U 51).zero= .agg [.i 0,.sl [] .full,.sl [] .full,.sl [] .full,.sl [] .full,.s [],.b false,.i 0,.sl [] .full,.sl [] .full,.sl [] .full,.sl [] .full,.i 0]:=⟨rfl,rfl,rfl,rfl⟩
@[go_sem] theorem ac9:(U 55).k= .int .i64∧(U 55).sz=1∧(U 55).bytes=8∧(U 55).zero= .i 0:=⟨rfl,rfl,rfl,rfl⟩
@[go_sem] theorem adf:(U 60).k= .int .u64∧(U 60).sz=1∧(U 60).bytes=8∧(U 60).zero= .v (.int .u64 0):=⟨rfl,rfl,rfl,rfl⟩
@[go_sem] theorem adj:(U 62).k= .slice 3∧(U 62).sz=1∧(U 62).bytes=24∧(U 62).zero= .sl [] .full:=⟨rfl,rfl,rfl,rfl⟩
@[go_sem] theorem adn:(U 66).k= .strct [(0,55),(1,36),(2,4),(3,32),(6,4),(7,3)]∧(U 66).sz=8∧(U 66).bytes=80∧(U 66).zero= .agg [.i 0,.v (.complex .f64 0 0),.b false,.i 0,.i 0,.s [],.b false,.i 0]:=⟨rfl,rfl,rfl,rfl⟩
@[go_sem] theorem adr:(U 75).k= .slice 77∧(U 75).sz=1∧(U 75).bytes=24∧(U 75).zero= .sl [] .full:=⟨rfl,rfl,rfl,rfl⟩
@[go_sem] theorem adv:(U 77).k= .slice 5∧(U 77).sz=1∧(U 77).bytes=24∧(U 77).zero= .sl [] .full:=⟨rfl,rfl,rfl,rfl⟩
@[go_sem] theorem adz:(U 86).k= .ptr 157∧(U 86).sz=1∧(U 86).bytes=8∧(U 86).zero= .v (.pointer none):=⟨rfl,rfl,rfl,rfl⟩
@[go_sem] theorem adD:(U 88).k= .strct [(0,86),(1,51),(14,29),(15,60)]∧(U 88).sz=16∧(U 88).bytes=280∧(U 88).zero= .agg [.v (.pointer none),.i 0,.sl [] .full,.sl [] .full,.sl [] .full,.sl [] .full,.s [],.b false,.i 0,.sl [] .full,.sl [] .full,.sl [] .full,.sl [] .full,.i 0,.sl [] .full,.v (.int .u64 0)]:=⟨rfl,rfl,rfl,rfl⟩
@[go_sem] theorem adI:(U 91).k= .strct [(0,3),(1,3),(2,9)]∧(U 91).sz=3∧(U 91).bytes=32∧(U 91).zero= .agg [.i 0,.i 0,.s []]∧(U 91).eq=some (1,[.int .i64,.int .i64,.str]):=⟨rfl,rfl,rfl,rfl,rfl⟩
@[go_sem] theorem adN:(U 99).k= .strct [(0,3),(1,3),(2,9),(3,9),(4,9),(5,9),(6,4)]∧(U 99).sz=7∧(U 99).bytes=88∧(U 99).zero= .agg [.i 0,.i 0,.s [],.s [],.s [],.s [],.b false]∧(U 99).eq=some (1,[.int .i64,.int .i64,.str,.str,.str,.str,.bool]):=⟨rfl,rfl,rfl,rfl,rfl⟩
@[go_sem] theorem Y1:(U 102).k= .strct [(0,3),(1,9),(2,9)]∧(U 102).sz=3∧(U 102).bytes=40∧(U 102).zero= .agg [.i 0,.s [],.s []]∧(U 102).eq=some (1,[.int .i64,.str,.str]):=⟨rfl,rfl,rfl,rfl,rfl⟩
@[go_sem] theorem Y6:(U 105).k= .strct [(0,9),(1,9)]∧(U 105).sz=2∧(U 105).bytes=32∧(U 105).zero= .agg [.s [],.s []]∧(U 105).eq=some (1,[.str,.str]):=⟨rfl,rfl,rfl,rfl,rfl⟩
@[go_sem] theorem Za:(U 118).k= .strct [(0,36),(1,37)]∧(U 118).sz=2∧(U 118).bytes=40∧(U 118).zero= .agg [.v (.complex .f64 0 0),.sl [] .full]:=⟨rfl,rfl,rfl,rfl⟩
@[go_sem] theorem Ze:(U 122).k= .slice 199∧(U 122).sz=1∧(U 122).bytes=24∧(U 122).zero= .sl [] .full:=⟨rfl,rfl,rfl,rfl⟩
@[go_sem] theorem Zi:(U 130).k= .slice 160∧(U 130).sz=1∧(U 130).bytes=24∧(U 130).zero= .sl [] .full:=⟨rfl,rfl,rfl,rfl⟩
@[go_sem] theorem Zm:(U 131).k= .slice 163∧(U 131).sz=1∧(U 131).bytes=24∧(U 131).zero= .sl [] .full:=⟨rfl,rfl,rfl,rfl⟩
@[go_sem] theorem Zq:(U 133).k= .strct [(0,9),(1,9),(2,9),(3,130),(4,131)]∧(U 133).sz=5∧(U 133).bytes=96∧(U 133).zero= .agg [.s [],.s [],.s [],.sl [] .full,.sl [] .full]:=⟨rfl,rfl,rfl,rfl⟩
@[go_sem] theorem Zu:(U 143).k= .strct [(0,3),(1,77),(2,3),(3,3),(4,4)]∧(U 143).sz=5∧(U 143).bytes=56∧(U 143).zero= .agg [.i 0,.sl [] .full,.i 0,.i 0,.b false]:=⟨rfl,rfl,rfl,rfl⟩
@[go_sem] theorem Zy:(U 147).k= .int .u32∧(U 147).sz=1∧(U 147).bytes=4∧(U 147).zero= .v (.int .u32 0):=⟨rfl,rfl,rfl,rfl⟩
@[go_sem] theorem ZC:(U 157).k= .strct [(0,24),(1,75),(2,4)]∧(U 157).sz=3∧(U 157).bytes=40∧(U 157).zero= .agg [.v (.pointer none),.sl [] .full,.b false]:=⟨rfl,rfl,rfl,rfl⟩
@[go_sem] theorem ZH:(U 160).k= .strct [(0,9),(1,32)]∧(U 160).sz=4∧(U 160).bytes=48∧(U 160).zero= .agg [.s [],.i 0,.i 0,.s []]∧(U 160).eq=some (2,[.str,.int .i64,.int .i64,.str]):=⟨rfl,rfl,rfl,rfl,rfl⟩
@[go_sem] theorem ZM:(U 163).k= .strct [(0,3),(1,9),(2,9)]∧(U 163).sz=3∧(U 163).bytes=40∧(U 163).zero= .agg [.i 0,.s [],.s []]∧(U 163).eq=some (1,[.int .i64,.str,.str]):=⟨rfl,rfl,rfl,rfl,rfl⟩
@[go_sem] theorem ZQ:(U 165).k= .slice 172∧(U 165).sz=1∧(U 165).bytes=24∧(U 165).zero= .sl [] .full:=⟨rfl,rfl,rfl,rfl⟩
@[go_sem] theorem ZU:(U 167).k= .strct [(0,9),(1,4),(2,45),(3,165),(4,37)]∧(U 167).sz=5∧(U 167).bytes=96∧(U 167).zero= .agg [.s [],.b false,.sl [] .full,.sl [] .full,.sl [] .full]:=⟨rfl,rfl,rfl,rfl⟩
@[go_sem] theorem ZZ:(U 170).k= .strct [(0,3),(1,9),(2,4)]∧(U 170).sz=3∧(U 170).bytes=32∧(U 170).zero= .agg [.i 0,.s [],.b false]∧(U 170).eq=some (1,[.int .i64,.str,.bool]):=⟨rfl,rfl,rfl,rfl,rfl⟩
@[go_sem] theorem Z6:(U 172).k= .strct [(0,3),(1,32),(4,170)]∧(U 172).sz=7∧(U 172).bytes=72∧(U 172).zero= .agg [.i 0,.i 0,.i 0,.s [],.i 0,.s [],.b false]∧(U 172).eq=some (2,[.int .i64,.int .i64,.int .i64,.str,.int .i64,.str,.bool]):=⟨rfl,rfl,rfl,rfl,rfl⟩
@[go_sem] theorem aaa:(U 173).k= .slice 181∧(U 173).sz=1∧(U 173).bytes=24∧(U 173).zero= .sl [] .full:=⟨rfl,rfl,rfl,rfl⟩
@[go_sem] theorem aae:(U 178).k= .strct [(0,173),(1,3),(2,3),(3,55),(4,3)]∧(U 178).sz=5∧(U 178).bytes=56∧(U 178).zero= .agg [.sl [] .full,.i 0,.i 0,.i 0,.i 0]:=⟨rfl,rfl,rfl,rfl⟩
@[go_sem] theorem aai:(U 181).k= .strct [(0,3),(1,3),(2,3),(3,9)]∧(U 181).sz=4∧(U 181).bytes=40∧(U 181).zero= .agg [.i 0,.i 0,.i 0,.s []]:=⟨rfl,rfl,rfl,rfl⟩
@[go_sem] theorem aam:(U 196).k= .slice 32∧(U 196).sz=1∧(U 196).bytes=24∧(U 196).zero= .sl [] .full:=⟨rfl,rfl,rfl,rfl⟩
@[go_sem] theorem aaq:(U 199).k= .strct [(0,3),(1,9),(2,196)]∧(U 199).sz=3∧(U 199).bytes=48∧(U 199).zero= .agg [.i 0,.s [],.sl [] .full]:=⟨rfl,rfl,rfl,rfl⟩
@[go_sem] theorem aau:(U 221).k= .int .u64∧(U 221).sz=1∧(U 221).bytes=8∧(U 221).zero= .v (.int .u64 0):=⟨rfl,rfl,rfl,rfl⟩
@[go_sem] theorem aay:(U 230).k= .slice 234∧(U 230).sz=1∧(U 230).bytes=24∧(U 230).zero= .sl [] .full:=⟨rfl,rfl,rfl,rfl⟩
@[go_sem] theorem aaD:(U 233).k= .strct [(0,170),(3,3),(4,32)]∧(U 233).sz=7∧(U 233).bytes=72∧(U 233).zero= .agg [.i 0,.s [],.b false,.i 0,.i 0,.i 0,.s []]∧(U 233).eq=some (2,[.int .i64,.str,.bool,.int .i64,.int .i64,.int .i64,.str]):=⟨rfl,rfl,rfl,rfl,rfl⟩
@[go_sem] theorem aaH:(U 234).k= .slice 233∧(U 234).sz=1∧(U 234).bytes=24∧(U 234).zero= .sl [] .full:=⟨rfl,rfl,rfl,rfl⟩
@[go_sem] theorem aaL:(U 245).k= .map 9 355∧(U 245).sz=1∧(U 245).bytes=8∧(U 245).zero= .v (.map none):=⟨rfl,rfl,rfl,rfl⟩
@[go_sem] theorem aaP:(U 247).k= .strct [(0,245),(1,3)]∧(U 247).sz=2∧(U 247).bytes=16∧(U 247).zero= .agg [.v (.map none),.i 0]:=⟨rfl,rfl,rfl,rfl⟩
@[go_sem] theorem aaT:(U 272).k= .strct [(0,77),(1,3),(2,4)]∧(U 272).sz=3∧(U 272).bytes=40∧(U 272).zero= .agg [.sl [] .full,.i 0,.b false]:=⟨rfl,rfl,rfl,rfl⟩
@[go_sem] theorem aaX:(U 295).k= .slice 118∧(U 295).sz=1∧(U 295).bytes=24∧(U 295).zero= .sl [] .full:=⟨rfl,rfl,rfl,rfl⟩
@[go_sem] theorem aa1:(U 333).k= .slice 36∧(U 333).sz=1∧(U 333).bytes=24∧(U 333).zero= .sl [] .full:=⟨rfl,rfl,rfl,rfl⟩
@[go_sem] theorem aa4:(U 355).k= .strct []∧(U 355).sz=0:=⟨rfl,rfl⟩
@[go_sem] theorem aa7:(U 358).k= .slice 4∧(U 358).sz=1∧(U 358).bytes=24∧(U 358).zero= .sl [] .full:=⟨rfl,rfl,rfl,rfl⟩
@[go_sem] theorem abb:(U 370).k= .strct [(0,196),(1,32),(4,55)]∧(U 370).sz=5∧(U 370).bytes=64∧(U 370).zero= .agg [.sl [] .full,.i 0,.i 0,.s [],.i 0]:=⟨rfl,rfl,rfl,rfl⟩
@[go_sem] theorem abf:(U 387).k= .slice 370∧(U 387).sz=1∧(U 387).bytes=24∧(U 387).zero= .sl [] .full:=⟨rfl,rfl,rfl,rfl⟩
theorem hU:∀t,aP Tryz.prog U t:=IS 424 ad7 fun t ht=>by
 unfold U;rw[List.getD_eq_getElem?_getD,List.getElem?_eq_none (show NQ.length≤t from ht)]
 rfl
theorem hm:Tryz.prog.follows .mixedOrders=true:=ad7
end Go.Proofs.YtbbadggejjgihaaGreatDoor
namespace Go.Proofs.YtbbadggejjgihaaGreatDoor
open Go Go.Ab Go.Bf
theorem ad3 {f:FuncId} {fn:Func} {c:Code} {args:List AV} {h:Heap} {Q:AV→Heap→Prop} (hf:Tryz.prog.funcs[f]? =some fn) (m:Nat) (rs:List ResultVar) (hk:(∀x∈args,wfA x)→bH Tryz.prog U m c (yf args) h (vN U rs Q)) (hb:fn.body=some c:=by exact rfl) (hn:(fn.name=="runtime.NumGoroutine")=false:=by kernel_rfl) (h1:fn.ntmps=m:=by exact rfl) (h2:fn.results.toList=rs:=by exact rfl) (hl:args.length≤m:=by exact Nat.le_of_ble_eq_true rfl):ai Tryz.prog f args h Q:=ai.body hU hm hf hb hn m h1 rs h2 hl hk
theorem pH(l:Txt)(h:Heap):ai Tryz.prog 96 [.s l] h fun r h' =>r= .b (bp l)∧h' =h:=by
 refine ad3 Tryz.func96 49 [.tmp 2] fun hwf=>?_
 simp only[go_sem];refine .intro (fun m ρ h' =>h' =h∧∃i:Nat,i≤l.length∧m=l.length - i∧vP (l.take i)=true∧lk ρ 0=some (.s l)∧lk ρ 8=some (.i l.length)∧lk ρ 9=some (.i i)) l.length ?_ ?_
 ·refine⟨rfl,0,ad4,rfl,rfl,?_,?_,?_⟩<;>simp only[go_sem]
 ·rintro m ρ h' ⟨rfl,i,hi,rfl,hc,r0,r8,r9⟩
  simp only[go_sem,r8,r9];refine .intro (fun e=>?_) (fun e=>?_)
  ·have hlt:i<l.length:=ad1 e
   have w1:IntKind.i64.wrap ((i:Int)+1)=((i+1:Nat):Int):=by rw[aU _ (by have:=hwf (.s l) aec;simp only[wfA,wf1,lim]at this;omega)];omega
   have w0:IntKind.i64.wrap (0+1)=1:=rfl;have hb:=I3 l i hlt;have hg:=Fq l i hlt;rw[hc]at hg;have hcl:=OC l[i];have h255:=l[i].toNat_lt;simp only[go_sem,r0,r9];refine .at i hlt ?_;generalize hcc:l[i]=c at hb hg hcl h255⊢
   by_cases hi0:i=0
   ·subst hi0
    rcases hcl with⟨a1,a2,a3,a4,a5⟩|⟨a1,a2,a3,a4,a5⟩|⟨a1,a2,a3,a4,a5⟩|⟨a1,a2,a3,a4,a5⟩|⟨a1,a2,a3,a4,a5⟩|⟨a1,a2,a3,a4,a5⟩
    ·simp only[go_sem,r9,a1,a2,a3,a4,a5,w0]
     refine⟨_,?_,rfl,0+1,ad4,rfl,by simp[hg,tj,ltr,a1,a2],?_,?_,?_⟩
     ·omega
     all_goals simp only[go_sem,r0,r8]
    all_goals
     simp only[go_sem,a1,a2,a3,a4,a5];exact .same (.refl _) ⟨by simp[bp,hb (by simp[tj,ltr,a1,a2]),ax],rfl⟩
   ·have hin:((i:Int)==0)=false:=by simp;omega
    rcases hcl with⟨a1,a2,a3,a4,a5⟩|⟨a1,a2,a3,a4,a5⟩|⟨a1,a2,a3,a4,a5⟩|⟨a1,a2,a3,a4,a5⟩|⟨a1,a2,a3,a4,a5⟩|⟨a1,a2,a3,a4,a5⟩
    ·simp only[go_sem,r9,a1,a2,a3,a4,a5,w1]
     exact aiW
    ·simp only[go_sem,r9,a1,a3,a4,w1,hin]
     exact aiW
    ·simp only[go_sem,r9,a1,a3,a4,a5,w1,hin]
     exact aiW
    ·simp only[go_sem,a1,a3,a5,hin]
     exact .same (.refl _) ⟨afM,rfl⟩
    ·simp only[go_sem,a1,a3,a4,a5,hin]
     exact .same (.refl _) ⟨afM,rfl⟩
    ·simp only[go_sem,a1,a2,a3,a4,a5,hin]
     exact .same (.refl _) ⟨afM,rfl⟩
  ·have hge:i=l.length:=by have:=adX e;omega
   subst hge;rw[List.take_length]at hc
   by_cases h0:l= []
   ·subst h0
    have b0:((([]:Txt)== [])=true):=rfl;simp only[go_sem,r0,b0];exact aee
   ·have b0:(l== [])=false:=by simpa using h0
    have hp:1≤l.length:=List.length_pos_iff.2 h0;simp only[go_sem,r0,b0];exact .same (.refl _) ⟨by simp[bp,hc,ax,hp];omega,rfl⟩
theorem Hv(a:qs)(h:Heap):ai Tryz.prog 307 [CY a] h fun r h' =>r= .b (qw a)∧h' =h:=by
 refine ad3 Tryz.func307 16 [.tmp 2] fun hwf=>?_
 simp only[go_sem,CY];intro id hid;cases d1:decide (1≤a.cat)
 ·simp only[go_sem,d1]
  exact ajx
 cases d2:decide (a.cat≤4)
 ·simp only[go_sem,d1,d2]
  exact ajx
 simp only[go_sem,d1,d2];refine(pH _ _).pthen ?_;simp only[go_sem];exact ajx
theorem fS(v:bu)(h:Heap):ai Tryz.prog 99 [aS v] h fun r h' =>r= .b (bz v)∧h' =h:=by
 refine ad3 Tryz.func99 61 [.tmp 2] fun hwf=>?_
 simp only[go_sem,aS];intro id hid;cases k1:(v.kind==1)
 case true=>
  have e1:v.kind=1:=ad5;cases d1:(v.n==0)<;>cases d2:(v.n==1)
  ·simp only[go_sem,k1,d1,d2]
   exact .mk _ (.refl _) (.aj hid) ⟨ahu,rfl⟩
  all_goals
   simp only[go_sem,k1,d1,d2];exact .mk _ (.refl _) (.aj hid) ⟨ahu,rfl⟩
 have n1:v.kind≠1:=ad5;cases k2:(v.kind==2)
 case true=>
  have e1:v.kind=2:=ad5;simp only[go_sem,k1,k2];exact .mk _ (.refl _) (.aj hid) ⟨ahu,rfl⟩
 have n2:v.kind≠2:=ad5;cases k3:(v.kind==3)
 case true=>
  have e1:v.kind=3:=ad5;cases d1:(v.n==0)
  all_goals
   simp only[go_sem,k1,k2,k3,d1];exact .mk _ (.refl _) (.aj hid) ⟨by simp[bz,e1,d1,ax]<;>omega,rfl⟩
 have n3:v.kind≠3:=ad5;cases k4:(v.kind==4)
 case true=>
  have e1:v.kind=4:=ad5;cases d1:decide (0≤v.n)<;>cases d2:decide (v.n≤1099511627776)
  all_goals
   simp only[go_sem,k1,k2,k3,k4,d1,d2];exact .mk _ (.refl _) (.aj hid) ⟨ahu,rfl⟩
 have n4:v.kind≠4:=ad5;cases k5:(v.kind==5)
 case true=>
  have e1:v.kind=5:=ad5;cases d1:(v.n==0)
  ·simp only[go_sem,k1,k2,k3,k4,k5,d1]
   exact .mk _ (.refl _) (.aj hid) ⟨ahu,rfl⟩
  ·simp only[go_sem,k1,k2,k3,k4,k5,d1]
   refine(pH _ _).pthen ?_;simp only[go_sem];exact .mk _ (.refl _) (.aj hid) ⟨ahu,rfl⟩
 have n5:v.kind≠5:=ad5;simp only[go_sem,k1,k2,k3,k4,k5];exact .mk _ (.refl _) (.aj hid) ⟨ahu,rfl⟩
theorem MH(m:bO)(h:Heap):ai Tryz.prog 306 [cK m] h fun r h' =>r= .b (kZ m)∧h' =h:=by
 refine ad3 Tryz.func306 21 [.tmp 2] fun hwf=>?_
 simp only[go_sem,cK];intro id hid;simp only[go_sem];refine(Hv m.attr _).pthen ?_;cases d0:qw m.attr
 ·simp only[go_sem]
  exact ai8
 cases d1:decide (1≤m.op)
 ·simp only[go_sem,d1]
  exact ai8
 cases d2:decide (m.op≤3)
 ·simp only[go_sem,d1,d2]
  exact ai8
 simp only[go_sem,d1,d2];refine(fS m.val _).pthen ?_;simp only[go_sem];exact ai8
theorem HZ(n:Nat)(h:Heap):ai Tryz.prog 290 [.i n] h fun r h' =>r= .i (kJ n)∧h' =h:=by
 refine ad3 Tryz.func290 9 [.tmp 2] fun hwf=>?_
 cases d1:((n:Int)==0)
 case true=>
  simp only[go_sem,d1];exact .same (.refl _) ⟨by grind [kJ,ax],rfl⟩
 cases d2:decide (8<(n:Int))
 ·have e2:¬n>8:=by grind
  exact ajO
 ·have e2:n>8:=by grind
  exact ajO
theorem DX{n:Nat}(h:kJ n=0):1≤n∧n≤8:=by
 grind [kJ]
theorem Ll(l:List bO)(h:Heap):ai Tryz.prog 291 [ij l] h fun r h' =>r= .i (wZ l)∧h' =h:=by
 refine ad3 Tryz.func291 22 [.tmp 2] fun hwf=>?_
 simp only[go_sem,ij,adU];refine(HZ _ _).pthen ?_;cases d1:(kJ l.length !=0)
 case true=>
  have e1:kJ l.length≠0:=ad5;simp only[go_sem,d1];exact .same (.refl _) ⟨by grind [wZ,ax],rfl⟩
 have e1:kJ l.length=0:=ad5;have hlen:=DX e1;simp only[go_sem,d1,adU];refine .intro (fun m ρ h' =>Ab.Sub h h'∧∃i:Nat,i≤l.length∧m=l.length - i∧(l.take i).all kZ=true∧lk ρ 12=some (ij l)∧lk ρ 13=some (.i l.length)∧lk ρ 14=some (.i i)) l.length ?_ ?_
 ·refine⟨.refl _,0,ad4,rfl,rfl,?_,?_,?_⟩<;>simp only[go_sem,ij]
 ·rintro m ρ h' ⟨hs,i,hi,rfl,hc,r12,r13,r14⟩
  simp only[go_sem,r13,r14];refine .intro (fun e=>?_) (fun e=>?_)
  ·have hlt:i<l.length:=ad1 e
   have w1:IntKind.i64.wrap ((i:Int)+1)=((i+1:Nat):Int):=aej;simp only[go_sem,r12,r14,ij];refine .at i ad5 aef ?_;simp only[go_sem,adV,cK];intro id hid;simp only[go_sem];refine(MH l[i] _).pthen ?_;cases d2:kZ l[i]
   ·simp only[go_sem]
    refine .mk _ (.refl _) (hs.new hid _) ⟨?_,rfl⟩;have:l.all kZ=false:=List.all_eq_false.2 ⟨_,adZ hlt,ad5⟩;simp[wZ,e1,this,ax]
   ·simp only[go_sem,r14,w1]
    refine⟨_,?_,hs.new hid _,i+1,ad4,rfl,?_,?_,?_,?_⟩
    ·omega
    ·grind [List.take_succ_eq_append_getElem]
    all_goals simp only[go_sem,r12,r13,ij]
  ·have hge:i=l.length:=by grind
   subst hge;rw[List.take_length]at hc;simp only[go_sem];exact .mk _ (.refl _) hs ⟨by grind [wZ,ax],rfl⟩
theorem aC{h:Heap}{i j:Nat}{b:Blk}(e:upd h i (some b) j=none):h j=none:=by grind [ag,aH]
theorem NV{v:bu}(h:(v.kind==(0:Int) && (v.n==(0:Int) && v.s==([]:Txt)))=false):¬v.kind=0∨¬v.n=0∨¬v.s= []:=by
 grind
theorem NU{v:bu}(h:(v.kind==(0:Int) && (v.n==(0:Int) && v.s==([]:Txt)))=true):v.kind=0∧v.n=0∧v.s= []:=by
 grind
theorem J8(k:Int)(h:Heap):ai Tryz.prog 153 [.i k] h fun r h' =>r= .b (vn k)∧h' =h:=by
 refine ad3 Tryz.func153 9 [.tmp 2] fun hwf=>?_
 cases d1:decide (1≤k)
 ·simp only[go_sem,d1]
  exact .same (.refl _) ⟨by simp only[vn,d1,ax,Bool.false_and],rfl⟩
 ·simp only[go_sem,d1]
  exact .same (.refl _) ⟨by simp_all [vn,ax,Bool.true_and],rfl⟩
theorem yd(s:Txt)(h:Heap):ai Tryz.prog 98 [.s s] h fun r h' =>r= .b (jb s)∧h' =h:=by
 refine ad3 Tryz.func98 9 [.tmp 2] fun hwf=>?_
 cases d1:(s==([]:Txt))
 ·simp only[go_sem,d1]
  refine(pH s h).pthen ?_;simp only[go_sem];exact .same (.refl _) ⟨by simp_all [jb,ax,Bool.false_or],rfl⟩
 ·simp only[go_sem,d1]
  exact .same (.refl _) ⟨by simp_all [jb,ax,Bool.true_or],rfl⟩
theorem FT(a b:Txt)(h:Heap):ai Tryz.prog 157 [.s a,.s b] h fun r h' =>r= .b (mR a b)∧h' =h:=by
 refine ad3 Tryz.func157 22 [.tmp 4] fun hwf=>?_
 cases d1:(a==jJ)<;>cases d2:(a==wW)<;>cases d3:(a==AL)<;>cases d4:(b==wW)<;>simp only[jJ,wW,AL]at d1 d2 d3 d4<;>simp only[go_sem,d1,d2,d3,d4]<;>
  exact .same (.refl _) ⟨by simp only[mR,d1,d2,d3,d4,ax,jJ,wW,AL,ie,if_true,Bool.false_eq_true,if_false,Bool.true_or,Bool.false_or],rfl⟩
theorem uJ(k:Int)(hk:i64 k)(h:Heap):ai Tryz.prog 94 [.i k] h fun r h' =>r= .s (iQ k)∧h' =h:=by
 refine ad3 Tryz.func94 18 [.tmp 2] fun hwf=>?_
 simp only[go_sem];cases d1:decide (k<1)
 case true=>
  simp only[go_sem];exact .same (.refl _) ⟨by simp_all [iQ,adW,true_or,if_true,ax],rfl⟩
 cases d2:decide ((7:Int)<k)
 case true=>
  simp only[go_sem,d2];exact .same (.refl _) ⟨by simp_all [iQ,adW,or_true,if_true,ax],rfl⟩
 have h1:=adX d1;have h2:=adX d2;obtain⟨j,rfl⟩:∃j:Nat,k=(j:Int)+1:=⟨(k - 1).toNat,ad4⟩;have hj:j<7:=ad4;have w1:IntKind.i64.wrap ((j:Int)+1 - 1)=(j:Int):=aej;simp only[go_sem,d2,w1];refine .at j ad4 (by rcases j with _|_|_|_|_|_|_|j<;>first|rfl|omega) ?_
 rcases j with _|_|_|_|_|_|_|j
 all_goals first|omega|skip
 all_goals
  simp only[go_sem,List.getElem_cons_zero,List.getElem_cons_succ];exact .same (.refl _) ⟨aek,rfl⟩
theorem Kn(o:OpD)(h:Heap):ai Tryz.prog 97 [opA o] h fun r h' =>r= .v (.bool (mB o))∧h' =h:=by
 refine ad3 Tryz.func97 23 [.tmp 2] fun hwf=>?_
 simp only[go_sem,opA,opC];intro id hid;cases d1:o.glass
 ·simp only[go_sem]
  exact ajy
 simp only[go_sem];refine(J8 _ _).pthen ?_;cases d2:vn o.kind
 ·simp only[go_sem]
  exact ajy
 cases d3:(o.reason==([]:Txt))
 ·simp only[go_sem,d3]
  exact .mk _ (.refl _) (.aj hid) ⟨by
   simp only[mB,d1,d2,d3,ax,if_true,Bool.not_false,Bool.true_and]
   congr 2
   grind,rfl⟩
 ·simp only[go_sem,d3]
  exact ajy
theorem Ox(o:OpD)(h:Heap):ai Tryz.prog 154 [opA o] h fun r h' =>r=opA (hY o)∧h' =h:=by
 refine ad3 Tryz.func154 7 [.cell 2 34] fun hwf=>?_
 simp only[go_sem,opA,opC];intro i1 h1;simp only[go_sem];intro i2 h2;have hne:=aH h2;simp only[go_sem,ak,hne,hne.symm];have n2:=aC h2;exact .mk _ (.refl _) (((((Sub.refl h).put h1 _).put n2 _).put h1 _).put n2 _) ⟨rfl,rfl⟩
theorem NJ(o:OpD)(h:Heap):ai Tryz.prog 100 [opA o] h fun r h' =>r= .b (dR o)∧h' =h:=by
 have hb:=fun hh=>Ox o hh
 simp only[hY,opA,opC]at hb;refine ad3 Tryz.func100 111 [.tmp 2] fun hwf=>?_
 simp -implicitDefEqProofs only[go_sem,opA,opC];intro i1 h1;simp -implicitDefEqProofs only[go_sem];refine(hb _).pthen ?_;simp -implicitDefEqProofs only[go_sem];intro i3 h3;have n31:=aH h3;have n3:=aC h3;simp -implicitDefEqProofs only[go_sem,ak,n31.symm];intro i4 h4;have n43:=aH h4;have h4' :=aC h4;have n41:=aH h4';have n4:=aC h4';have bnd:o.kind≠1→o.kind≠2→o.kind≠3→o.kind≠4→o.kind≠5→o.kind≠6→o.kind≠7→o.kind≠8→(decide (1≤o.kind) && decide (o.kind≤8))=false:=by
  intro a1 a2 a3 a4 a5 a6 a7 a8;simp only[Bool.and_eq_false_iff,decide_eq_false_iff_not];omega
 by_cases k1:o.kind=1
 ·simp -implicitDefEqProofs only[go_sem,ak,n31.symm,n41.symm,k1]
  cases dcase:(o.case==([]:Txt))
  ·simp -implicitDefEqProofs only[go_sem,ak,n43.symm]
   exact .mk _ (.refl _) aeb ⟨by simp[dR,okD,iY,hY,nj,aq,ax,k1,decide_true,dcase,Bool.and_true,Bool.true_and,Bool.not_false],rfl⟩
  ·simp -implicitDefEqProofs only[go_sem]
   exact .mk _ (.refl _) aeb ⟨by simp[dR,okD,iY,hY,nj,aq,ax,k1,decide_true,dcase,Bool.and_true,Bool.true_and,Bool.false_and,Bool.and_false,Bool.not_true],rfl⟩
 by_cases k2:o.kind=2
 ·simp -implicitDefEqProofs only[go_sem,ak,n31.symm,n41.symm,k2,Int.reduceBEq]
  refine .calls (hm1 i1 _) [0,1,2,3,4,5,6,7] (.hm1 afO) ad7 rfl ?_;simp -implicitDefEqProofs only[go_sem,ak,n31.symm,n41.symm];refine⟨(.hm1 aev),(.hm1 aev),?_⟩;cases dcase:(o.case==([]:Txt))
  ·simp -implicitDefEqProofs only[go_sem,ak,n31.symm,n41.symm]
   cases dfield:(o.field==([]:Txt))
   ·simp -implicitDefEqProofs only[go_sem,ak,n43.symm]
    exact .mk _ (.refl _) aeb ⟨by simp[dR,okD,iY,hY,nj,aq,ax,k2,decide_true,dcase,dfield,Bool.and_true,Bool.true_and,Bool.not_false],rfl⟩
   ·simp -implicitDefEqProofs only[go_sem]
    exact .mk _ (.refl _) aeb ⟨by simp[dR,okD,iY,hY,nj,aq,ax,k2,decide_true,dcase,dfield,Bool.and_true,Bool.true_and,Bool.false_and,Bool.and_false,Bool.not_true,Bool.not_false],rfl⟩
  ·simp -implicitDefEqProofs only[go_sem]
   exact .mk _ (.refl _) aeb ⟨by simp[dR,okD,iY,hY,nj,aq,ax,k2,decide_true,dcase,Bool.and_true,Bool.true_and,Bool.false_and,Bool.and_false,Bool.not_true],rfl⟩
 by_cases k6:o.kind=6
 ·simp -implicitDefEqProofs only[go_sem,ak,n31.symm,n41.symm,k6,Int.reduceBEq]
  refine .calls (hm1 i1 _) [0,1,2,3,4,5,6,7] (.hm1 afO) ad7 rfl ?_;simp -implicitDefEqProofs only[go_sem,ak,n31.symm,n41.symm];refine⟨(.hm1 aev),(.hm1 aev),?_⟩;cases dcase:(o.case==([]:Txt))
  ·simp -implicitDefEqProofs only[go_sem,ak,n31.symm,n41.symm]
   cases dfield:(o.field==([]:Txt))
   ·simp -implicitDefEqProofs only[go_sem,ak,n43.symm]
    exact .mk _ (.refl _) aeb ⟨by simp[dR,okD,iY,hY,nj,aq,ax,k6,decide_true,dcase,dfield,Bool.and_true,Bool.true_and,Bool.not_false],rfl⟩
   ·simp -implicitDefEqProofs only[go_sem]
    exact .mk _ (.refl _) aeb ⟨by simp[dR,okD,iY,hY,nj,aq,ax,k6,decide_true,dcase,dfield,Bool.and_true,Bool.true_and,Bool.false_and,Bool.and_false,Bool.not_true,Bool.not_false],rfl⟩
  ·simp -implicitDefEqProofs only[go_sem]
   exact .mk _ (.refl _) aeb ⟨by simp[dR,okD,iY,hY,nj,aq,ax,k6,decide_true,dcase,Bool.and_true,Bool.true_and,Bool.false_and,Bool.and_false,Bool.not_true],rfl⟩
 by_cases k3:o.kind=3
 ·simp -implicitDefEqProofs only[go_sem,ak,n31.symm,n41.symm,k3,Int.reduceBEq]
  refine .calls (hm1 i1 _) [0,1,2,3,4,5,6,7,8,9,10,11] (.hm1 afO) ad7 rfl ?_;simp -implicitDefEqProofs only[go_sem,ak,n31.symm,n41.symm];refine⟨(.hm1 aev),(.hm1 aev),(.hm1 aev),?_⟩;cases dcase:(o.case==([]:Txt))
  ·simp -implicitDefEqProofs only[go_sem,ak,n31.symm,n41.symm]
   cases dfield:(o.field==([]:Txt))
   ·simp -implicitDefEqProofs only[go_sem,ak,n31.symm,n41.symm]
    cases dval:(o.val.kind==(0:Int) && (o.val.n==(0:Int) && o.val.s==([]:Txt)))
    ·simp -implicitDefEqProofs only[go_sem,ak,n43.symm]
     exact .mk _ (.refl _) aeb ⟨aeB,rfl⟩
    ·simp -implicitDefEqProofs only[go_sem]
     exact .mk _ (.refl _) aeb ⟨aeB,rfl⟩
   ·simp -implicitDefEqProofs only[go_sem]
    exact .mk _ (.refl _) aeb ⟨by simp[dR,okD,iY,hY,nj,eqV,aq,ax,k3,decide_true,dcase,dfield,Bool.and_true,Bool.true_and,Bool.false_and,Bool.and_false,Bool.not_true,Bool.not_false],rfl⟩
  ·simp -implicitDefEqProofs only[go_sem]
   exact .mk _ (.refl _) aeb ⟨by simp[dR,okD,iY,hY,nj,eqV,aq,ax,k3,decide_true,dcase,Bool.and_true,Bool.true_and,Bool.false_and,Bool.and_false,Bool.not_true],rfl⟩
 by_cases k4:o.kind=4
 ·simp -implicitDefEqProofs only[go_sem,ak,n31.symm,n41.symm,k4,Int.reduceBEq]
  refine .calls (hm1 i1 _) [0,1,2,3,4,5,6,7] (.hm1 afO) ad7 rfl ?_;simp -implicitDefEqProofs only[go_sem,ak,n31.symm,n41.symm];refine⟨(.hm1 aev),(.hm1 aev),?_⟩;cases dcase:(o.case==([]:Txt))
  ·simp -implicitDefEqProofs only[go_sem,ak,n31.symm,n41.symm]
   cases dto:(o.to==([]:Txt))
   ·simp -implicitDefEqProofs only[go_sem,ak,n43.symm]
    exact .mk _ (.refl _) aeb ⟨by simp[dR,okD,iY,hY,nj,aq,ax,k4,decide_true,dcase,dto,Bool.and_true,Bool.true_and,Bool.not_false],rfl⟩
   ·simp -implicitDefEqProofs only[go_sem]
    exact .mk _ (.refl _) aeb ⟨by simp[dR,okD,iY,hY,nj,aq,ax,k4,decide_true,dcase,dto,Bool.and_true,Bool.true_and,Bool.false_and,Bool.and_false,Bool.not_true,Bool.not_false],rfl⟩
  ·simp -implicitDefEqProofs only[go_sem]
   exact .mk _ (.refl _) aeb ⟨by simp[dR,okD,iY,hY,nj,aq,ax,k4,decide_true,dcase,Bool.and_true,Bool.true_and,Bool.false_and,Bool.and_false,Bool.not_true],rfl⟩
 by_cases k5:o.kind=5
 ·simp -implicitDefEqProofs only[go_sem,ak,n31.symm,n41.symm,k5,Int.reduceBEq]
  cases drev0:decide ((0:Int)<o.review)
  ·simp -implicitDefEqProofs only[go_sem]
   exact .mk _ (.refl _) aeb ⟨by simp[dR,okD,iY,hY,nj,aq,ax,k5,decide_true,drev0,Bool.and_true,Bool.true_and,Bool.false_and,Bool.and_false],rfl⟩
  ·simp -implicitDefEqProofs only[go_sem,ak,n43.symm]
   exact .mk _ (.refl _) aeb ⟨by simp[dR,okD,iY,hY,nj,aq,ax,k5,decide_true,drev0,Bool.and_true,Bool.true_and],rfl⟩
 by_cases k7:o.kind=7
 ·simp -implicitDefEqProofs only[go_sem,ak,n31.symm,n43.symm,n41.symm,k7,Int.reduceBEq]
  exact .mk _ (.refl _) aeb ⟨by simp[dR,okD,iY,hY,nj,aq,ax,k7,decide_true,Bool.and_true,Bool.true_and],rfl⟩
 by_cases k8:o.kind=8
 ·simp -implicitDefEqProofs only[go_sem,ak,n31.symm,n41.symm,k8,Int.reduceBEq]
  cases drev0:decide ((0:Int)<o.review)
  ·simp -implicitDefEqProofs only[go_sem]
   exact .mk _ (.refl _) aeb ⟨by simp[dR,okD,iY,hY,nj,aq,ax,k8,decide_true,drev0,Bool.and_true,Bool.true_and,Bool.false_and,Bool.and_false],rfl⟩
  ·simp -implicitDefEqProofs only[go_sem,ak,n31.symm,n41.symm]
   cases drev1:decide (o.review≤(1099511627776:Int))
   ·simp -implicitDefEqProofs only[go_sem]
    exact .mk _ (.refl _) aeb ⟨by simp[dR,okD,iY,hY,nj,aq,ax,k8,decide_true,drev0,drev1,Bool.and_true,Bool.true_and,Bool.false_and,Bool.and_false],rfl⟩
   ·simp -implicitDefEqProofs only[go_sem,ak,n43.symm]
    exact .mk _ (.refl _) aeb ⟨by simp[dR,okD,iY,hY,nj,aq,ax,k8,decide_true,drev0,drev1,Bool.and_true,Bool.true_and],rfl⟩
 simp -implicitDefEqProofs only[go_sem,ak,n31.symm,n41.symm,beq_eq_false_iff_ne.2 k1,beq_eq_false_iff_ne.2 k2,beq_eq_false_iff_ne.2 k6,beq_eq_false_iff_ne.2 k3,beq_eq_false_iff_ne.2 k4,beq_eq_false_iff_ne.2 k5,beq_eq_false_iff_ne.2 k7,beq_eq_false_iff_ne.2 k8];exact .mk _ (.refl _) aeb ⟨by simp only[dR,bnd k1 k2 k3 k4 k5 k6 k7 k8,Bool.false_and,ax],rfl⟩
theorem B9(o:OpD)(h:Heap):ai Tryz.prog 49 [opA o] h fun r h' =>r= .b (dD o)∧h' =h:=by
 have hr:=fun hh=>Kn o hh
 have ht:=fun hh=>NJ o hh
 have hv:=fun hh=>fS o.val hh
 simp only[opA,opC,aS]at hr ht hv;refine ad3 Tryz.func49 48 [.tmp 2] fun hwf=>?_
 simp -implicitDefEqProofs only[go_sem,opA,opC];intro i1 h1;simp -implicitDefEqProofs only[go_sem];refine(pH o.subj _).pthen ?_;cases d1:bp o.subj
 ·simp -implicitDefEqProofs only[go_sem]
  exact .mk _ (.refl _) (.aj h1) ⟨by simp_all [dD,Bool.false_and,ax],rfl⟩
 simp -implicitDefEqProofs only[go_sem];refine(hr _).pthen ?_;cases d2:mB o
 ·exact aiR
 cases d3:decide ((4096:Int)<(o.text.length:Int))
 case true=>
  have e3:decide (o.text.length≤4096)=false:=decide_eq_false ad5;simp -implicitDefEqProofs only[go_sem,d3];exact .mk _ (.refl _) (.aj h1) ⟨by simp only[dD,d1,d2,e3,Bool.false_and,Bool.true_and,ax],rfl⟩
 have e3:decide (o.text.length≤4096)=true:=decide_eq_true ad5;simp -implicitDefEqProofs only[go_sem,d3];refine(yd o.case _).pthen ?_;cases d4:jb o.case
 ·exact aiR
 simp -implicitDefEqProofs only[go_sem];refine(yd o.field _).pthen ?_;cases d5:jb o.field
 ·exact aiR
 simp -implicitDefEqProofs only[go_sem];refine(yd o.to _).pthen ?_;cases d6:jb o.to
 ·exact aiR
 cases d7:(o.val.kind==(0:Int) && (o.val.n==(0:Int) && o.val.s==([]:Txt)))
 ·simp -implicitDefEqProofs only[go_sem,d7]
  refine(hv _).pthen ?_;have e7:eqV o.val aq=false:=d7;cases d8:bz o.val
  ·simp -implicitDefEqProofs only[go_sem]
   exact .mk _ (.refl _) (.aj h1) ⟨by simp_all [dD,Bool.or_self,Bool.false_and,Bool.true_and,ax],rfl⟩
  simp -implicitDefEqProofs only[go_sem];refine(ht _).pthen ?_;simp -implicitDefEqProofs only[go_sem];exact .mk _ (.refl _) (.aj h1) ⟨by simp_all [dD,Bool.false_or,Bool.true_and,ax],rfl⟩
 ·simp -implicitDefEqProofs only[go_sem,d7]
  have e7:eqV o.val aq=true:=d7;refine(ht _).pthen ?_;simp -implicitDefEqProofs only[go_sem];exact .mk _ (.refl _) (.aj h1) ⟨by simp_all [dD,Bool.true_or,Bool.true_and,ax],rfl⟩
end Go.Proofs.YtbbadggejjgihaaGreatDoor
namespace Go.Bf
open Go Go.Ab
def ixD{α:Type}(q:α→Bool)(l:List α):Int:=if l.findIdx q<l.length then(l.findIdx q:Nat)else -1
theorem nZ{α:Type}{q:α→Bool}{l:List α}{i:Nat}(hi:i<l.length)(h1:q l[i]=true)(h2:∀j (hj:j<i),q (l[j]'ad4)=false):ixD q l=(i:Nat):=by
 have e:l.findIdx q=i:=by grind [List.findIdx_eq]
 rw[ixD,e,if_pos hi]
theorem jl{α:Type}{q:α→Bool}{l:List α}(h:∀j (hj:j<l.length),q l[j]=false):ixD q l= -1:=by
 have e:l.findIdx q=l.length:=ad5;rw[ixD,e,if_neg (Nat.lt_irrefl _)]
end Go.Bf
namespace Go.Proofs.YtbbadggejjgihaaGreatDoor
open Go Go.Ab Go.Bf
theorem vf{α:Type}(y:AV)(xs:List AV)(ds:List α)(q:α→Bool)(g:FuncId)(cap:List AV)(h:Heap)(hb:Rd h 5 y xs)(hn:xs.length=ds.length)(hl:xs.length≤1000000000)(hx:∀x∈xs,bA x=true)
  (hp:∀i (h1:i<xs.length) (h2:i<ds.length),ai Tryz.prog g (xs[i]::cap) h fun r h' =>r= .b (q ds[i])∧h' =h):
  ai Tryz.prog 155 [y,.fn g cap] h fun r h' =>r= .i (ixD q ds)∧h' =h:=by
 refine ad3 Tryz.func155 19 [.tmp 4] fun hwf=>?_
 simp only[go_sem,hb.len];refine .intro (fun m ρ h' =>h' =h∧∃i:Nat,i≤xs.length∧m=xs.length - i∧(∀j (hj:j<i) (h2:j<ds.length),q ds[j]=false)∧lk ρ 0=some y∧lk ρ 1=some (.fn g cap)∧lk ρ 7=some (.i xs.length)∧lk ρ 8=some (.i i)) xs.length ?_ ?_
 ·refine⟨rfl,0,ad4,rfl,fun j hj=>ad4,?_,?_,?_,?_⟩<;>simp only[go_sem]
 ·rintro m ρ h' ⟨rfl,i,hi,rfl,hc,r0,r1,r7,r8⟩
  simp only[go_sem,r7,r8];refine .intro (fun e=>?_) (fun e=>?_)
  ·have hlt:i<xs.length:=ad1 e
   have hlt2:i<ds.length:=ad4;have w1:IntKind.i64.wrap ((i:Int)+1)=((i+1:Nat):Int):=aej;simp only[go_sem,r0,r1,r8];refine hb.idx (e:=133) i rfl hlt aek ad9 fun p hp1=>?_
   have hld:=hp1.all (U:=U) (ty:=133) ad9 ae2 afV;simp only[go_sem,hld];refine(show ai Tryz.prog g (xs[i]::cap) _ _ from hp i hlt hlt2).pthen ?_
   cases d1:q ds[i]
   ·simp only[go_sem,r8,w1]
    refine⟨_,?_,rfl,i+1,ad4,rfl,fun j hj h2=>?_,?_,?_,?_,?_⟩
    ·omega
    ·grind
    all_goals simp only[go_sem,r0,r1,r7]
   ·simp only[go_sem]
    exact .same (.refl _) ⟨aeR,rfl⟩
  ·have hge:i=xs.length:=by grind
   simp only[go_sem];exact .same (.refl _) ⟨aeA,rfl⟩
theorem yG{α:Type}(y:AV)(xs:List AV)(ds:List α)(q:α→Bool)(g:FuncId)(cap:List AV)(h:Heap)(hb:Rd h 4 y xs)(hn:xs.length=ds.length)(hl:xs.length≤1000000000)(hx:∀x∈xs,bA x=true)
  (hp:∀i (h1:i<xs.length) (h2:i<ds.length),ai Tryz.prog g (xs[i]::cap) h fun r h' =>r= .b (q ds[i])∧h' =h):
  ai Tryz.prog 122 [y,.fn g cap] h fun r h' =>r= .i (ixD q ds)∧h' =h:=by
 refine ad3 Tryz.func122 19 [.tmp 4] fun hwf=>?_
 simp only[go_sem,hb.len];refine .intro (fun m ρ h' =>h' =h∧∃i:Nat,i≤xs.length∧m=xs.length - i∧(∀j (hj:j<i) (h2:j<ds.length),q ds[j]=false)∧lk ρ 0=some y∧lk ρ 1=some (.fn g cap)∧lk ρ 7=some (.i xs.length)∧lk ρ 8=some (.i i)) xs.length ?_ ?_
 ·refine⟨rfl,0,ad4,rfl,fun j hj=>ad4,?_,?_,?_,?_⟩<;>simp only[go_sem]
 ·rintro m ρ h' ⟨rfl,i,hi,rfl,hc,r0,r1,r7,r8⟩
  simp only[go_sem,r7,r8];refine .intro (fun e=>?_) (fun e=>?_)
  ·have hlt:i<xs.length:=ad1 e
   have hlt2:i<ds.length:=ad4;have w1:IntKind.i64.wrap ((i:Int)+1)=((i+1:Nat):Int):=aej;simp only[go_sem,r0,r1,r8];refine hb.idx (e:=160) i rfl hlt aek ad9 fun p hp1=>?_
   have hld:=hp1.all (U:=U) (ty:=160) ad9 ae2 afV;simp only[go_sem,hld];refine(show ai Tryz.prog g (xs[i]::cap) _ _ from hp i hlt hlt2).pthen ?_
   cases d1:q ds[i]
   ·simp only[go_sem,r8,w1]
    refine⟨_,?_,rfl,i+1,ad4,rfl,fun j hj h2=>?_,?_,?_,?_,?_⟩
    ·omega
    ·grind
    all_goals simp only[go_sem,r0,r1,r7]
   ·simp only[go_sem]
    exact .same (.refl _) ⟨aeR,rfl⟩
  ·have hge:i=xs.length:=by grind
   simp only[go_sem];exact .same (.refl _) ⟨aeA,rfl⟩
def RdC(h:Heap)(x:AV)(c:aM):Prop:=∃f l,x= .agg [.s c.id,.s c.owner,.s c.state,f,l]∧Rd h 4 f (c.fields.map bB)∧Rd h 3 l (c.log.map gq)
def zV(h:Heap)(y:AV)(cs:List aM):Prop:=∃xs,Rd h 5 y xs∧xs.length=cs.length∧∀i (h1:i<xs.length) (h2:i<cs.length),RdC h xs[i] cs[i]
def RdS(h:Heap)(x:AV)(s:an):Prop:=∃y1 y2 y3 y4,x= .agg ([.i s.tick,y1,y2,y3,y4]++fZ s.policy++ [.i s.version])∧zV h y1 s.cases∧Rd h 7 y2 (s.reviews.map gu)∧Rd h 3 y3 (s.notices.map j5)∧Rd h 2 y4 (s.roles.map di)
theorem RdC.sub{h h' :Heap}{x:AV}{c:aM}(hb:RdC h x c)(hs:Ab.Sub h h'):RdC h' x c:=by
 obtain⟨f,l,e,h1,h2⟩:=hb;exact⟨f,l,e,h1.sub hs,h2.sub hs⟩
theorem zV.sub{h h' :Heap}{y:AV}{cs:List aM}(hb:zV h y cs)(hs:Ab.Sub h h'):zV h' y cs:=by
 obtain⟨xs,h1,h2,h3⟩:=hb;exact⟨xs,h1.sub hs,h2,fun i a b=>(h3 i a b).sub hs⟩
theorem RdS.sub{h h' :Heap}{x:AV}{s:an}(hb:RdS h x s)(hs:Ab.Sub h h'):RdS h' x s:=by
 obtain⟨y1,y2,y3,y4,e,h1,h2,h3,h4⟩:=hb;exact⟨y1,y2,y3,y4,e,h1.sub hs,h2.sub hs,h3.sub hs,h4.sub hs⟩
theorem bx{α:Type}{f:α→AV}{n:Nat}(hf:∀a,(f a).cells.length=n)(l:List α):Sized n (l.map f):=fun z hz=>by
 grind
theorem oX{α:Type}{f:α→AV}(hf:∀a,bA (f a)=true)(l:List α):∀x∈l.map f,bA x=true:=fun z hz=>by
 obtain⟨a,_,rfl⟩:=List.mem_map.1 hz;exact hf a
theorem eC{α:Type}(f:α→AV)(n:Nat)(hf:∀a,(f a).cells.length=n)(h:Heap)(l:List α):Rd h n (.sl (l.map f) .no) (l.map f):=.sl (bx hf l) _
theorem rdC(h:Heap)(c:aM):RdC h (bT c) c:=⟨_,_,rfl,eC bB 4 (fun _=>rfl) h _,eC gq 3 (fun _=>rfl) h _⟩
theorem YR(h:Heap)(cs:List aM):zV h (fT cs) cs:=⟨_,eC bT 5 (fun _=>rfl) h cs,aec,fun i h1 h2=>by grind [rdC]⟩
theorem rdS(h:Heap)(s:an):RdS h (ct s) s:=⟨_,_,_,_,rfl,YR h _,eC gu 7 (fun _=>rfl) h _,eC j5 3 (fun _=>rfl) h _,eC di 2 (fun _=>rfl) h _⟩
theorem RdC.agg{h:Heap}{x:AV}{c:aM}(hb:RdC h x c):bA x=true:=by
 obtain⟨f,l,rfl,_⟩:=hb;rfl
theorem zV.agg{h:Heap}{xs:List AV}{cs:List aM}(hn:xs.length=cs.length)(hb:∀i (h1:i<xs.length) (h2:i<cs.length),RdC h xs[i] cs[i]):∀x∈xs,bA x=true:=fun x hx=>by
 obtain⟨i,hi,rfl⟩:=List.mem_iff_getElem.1 hx;exact(hb i hi ad4).agg
theorem nQ:(U 133).sz=5:=aek
theorem GZ:(U 160).sz=4:=aek
theorem KN:(U 9).sz≠0:=ad9
theorem NS:(U 9).sz=1:=aek
theorem L4{h:Heap}{x:AV}{c:aM}(hb:RdC h x c){k:Nat}{id:Txt}(hk:h k=some (.obj [.s id] 9)):ai Tryz.prog 156 [x,.ptr k 0] h fun r h' =>r= .b (geB c.id id)∧h' =h:=by
 obtain⟨f,l,rfl,hf,hl⟩:=hb;refine ad3 Tryz.func156 8 [.tmp 3] fun hwf=>?_
 simp only[go_sem];exact aiB
structure Few (s:an):Prop where
 cases:s.cases.length≤1000000
 fields:∀c∈s.cases,c.fields.length≤1000000
 log:∀c∈s.cases,c.log.length≤1000000
 reviews:s.reviews.length≤1000000
 notices:s.notices.length≤1000000
 roles:s.roles.length≤1000000
theorem jK{cs:List aM}{id:Txt}(h:cc cs id=true):findD cs id<cs.length:=by
 grind [cc,List.getElem?_eq_some_iff]
theorem KH{cs:List aM}{id:Txt}(h:findD cs id<cs.length):cc cs id=(cs[findD cs id].id==id):=by
 grind [cc,List.getElem?_eq_getElem]
theorem KI{cs:List aM}{id:Txt}(h:¬findD cs id<cs.length):cc cs id=false:=by
 grind [cc,List.getElem?_eq_none]
theorem B7{h:Heap}{x:AV}{s:an}(hb:RdS h x s)(id:Txt)(hl:s.cases.length≤1000000):ai Tryz.prog 101 [x,.s id] h fun r h' =>r= .tup [.i (findD s.cases id:Nat),.b (cc s.cases id)]∧h' =h:=by
 obtain⟨y1,y2,y3,y4,rfl,⟨xs,hc,hn,hcs⟩,h2,h3,h4⟩:=hb;cases hp:s.policy with
 |mk pid pset palg ptgt prules pkids pobls=>
 refine ad3 Tryz.func101 25 [.tmp 4,.tmp 5] fun hwf=>?_
 simp only[go_sem,fZ,List.cons_append,List.nil_append];intro i1 h1;simp only[go_sem];intro i2 h2;have n21:=aH h2;have n2:=aC h2;have hs:∀a b,Ab.Sub h (upd (upd h i1 a) i2 b):=fun a b=>((Sub.refl h).put h1 a).put n2 b
 simp only[go_sem,ak,n21.symm];refine(vf y1 xs s.cases (fun c=>geB c.id id) _ [.ptr i2 0] _ (hc.sub (hs _ _)) hn ad4 (zV.agg hn hcs) fun i a b=>L4 ((hcs i a b).sub (hs _ _)) (ah ..)).pthen ?_
 by_cases hf:findD s.cases id<s.cases.length
 ·have e1:ixD (fun c=>geB c.id id) s.cases=(findD s.cases id:Nat):=by rw[ixD];exact if_pos hf
  have d1:decide (((findD s.cases id:Nat):Int)<0)=false:=decide_eq_false ad4;rw[e1];simp only[go_sem,ak,n21.symm,d1];refine⟨.of ad7,?_⟩;obtain⟨f,l,ex,hfl,hlg⟩:=hcs (findD s.cases id) ad4 hf;refine hc.idx (e:=133) (findD s.cases id) rfl ad4 nQ ad9 fun p hp1=>?_
  simp only[go_sem];refine hp1.field (f:=0) (off:=0) (t:=9) rfl KN fun p2 hp2=>?_
  have hld:=fun a b=>(hp2.sub (hs a b)).part (U:=U) (ty:=9) KN (by rw[ex,NS];exact adT rfl)
  simp only[go_sem,hld,ex];exact .mk _ (.refl _) (hs _ _) ⟨by rw[KH hf];rfl,rfl⟩
 ·have e1:ixD (fun c=>geB c.id id) s.cases= -1:=by rw[ixD];exact if_neg hf
  have e2:findD s.cases id=s.cases.length:=by
   grind [findD,List.findIdx_le_length]
  have d1:decide ((-1:Int)<0)=true:=rfl;rw[e1];simp only[go_sem,ak,n21.symm,d1];simp only[go_sem,hc.len];exact .mk _ (.refl _) (hs _ _) ⟨by rw[KI hf,e2,hn];rfl,rfl⟩
theorem IJ:(U 105).sz=2:=aek
theorem JU(y:AV)(ds:List gZ)(r:gZ)(h:Heap)(hb:Rd h 2 y (ds.map di))(hl:ds.length≤1000000000):
  ai Tryz.prog 206 [y,di r] h fun x h' =>x= .i (ixD (uW r) ds)∧h' =h:=by
 refine ad3 Tryz.func206 19 [.tmp 4] fun hwf=>?_
 simp only[go_sem,di];intro i1 h1;have hs:∀a,Ab.Sub h (upd h i1 a):=fun a=>(Sub.refl h).put h1 a
 simp only[go_sem,hb.len,adU];refine .intro (fun m ρ h' =>h' =upd h i1 (some (.obj [.s r.subj,.s r.role] 105))∧∃i:Nat,i≤ds.length∧m=ds.length - i∧(∀j (hj:j<i) (h2:j<ds.length),uW r ds[j]=false)∧lk ρ 0=some y∧lk ρ 3=some (.ptr i1 0)∧lk ρ 7=some (.i ds.length)∧lk ρ 8=some (.i i)) ds.length ?_ ?_
 ·refine⟨rfl,0,ad4,rfl,fun j hj=>ad4,?_,?_,?_,?_⟩<;>simp only[go_sem]
 ·rintro m ρ h' ⟨rfl,i,hi,rfl,hc,r0,r3,r7,r8⟩
  simp only[go_sem,r7,r8];refine .intro (fun e=>?_) (fun e=>?_)
  ·have hlt:i<ds.length:=ad1 e
   have w1:IntKind.i64.wrap ((i:Int)+1)=((i+1:Nat):Int):=aej;simp only[go_sem,r0,r3,r8];refine⟨.of ad7,?_⟩;refine hb.idx (e:=105) i rfl ad5 IJ ad9 fun p hp1=>?_
   have hld:=fun a=>(hp1.sub (hs a)).all (U:=U) (ty:=105) ad9 (by rw[IJ,adV];rfl) aeM
   cases d1:uW r ds[i]
   ·have d2:=d1
    simp only[uW]at d2;simp only[go_sem,r8,hld,adV,di,d2,w1];refine⟨_,?_,rfl,i+1,ad4,rfl,fun j hj h2=>?_,?_,?_,?_,?_⟩
    ·omega
    ·grind
    all_goals simp only[go_sem,r0,r3,r7]
   ·have d2:=d1
    simp only[uW]at d2;simp only[go_sem,hld,adV,di,d2];exact .mk _ (.refl _) (hs _) ⟨by rw[nZ hlt d1 fun j hj=>hc j hj ad4];rfl,rfl⟩
  ·have hge:i=ds.length:=by grind
   simp only[go_sem];exact .mk _ (.refl _) (hs _) ⟨aeA,rfl⟩
theorem F1(y:AV)(ds:List gZ)(r:gZ)(h:Heap)(hb:Rd h 2 y (ds.map di))(hl:ds.length≤1000000000):
  ai Tryz.prog 158 [y,di r] h fun x h' =>x= .b (yy ds r)∧h' =h:=by
 have hq:=fun H (hH:Ab.Sub h H)=>JU y ds r H (hb.sub hH) hl
 refine ad3 Tryz.func158 9 [.tmp 4] fun hwf=>?_
 simp only[go_sem,di];intro i1 h1;simp only[go_sem];refine(hq _ (.aj h1)).pthen ?_;simp only[go_sem];refine .mk _ (.refl _) (.aj h1) ⟨?_,rfl⟩
 grind [ax,yy,ixD,decide_eq_true,List.any_eq_true,adZ,List.findIdx_getElem,decide_eq_false,List.any_eq_false]
theorem F2{h:Heap}{x:AV}{s:an}(hb:RdS h x s)(subj role:Txt)(hl:s.roles.length≤1000000000):ai Tryz.prog 104 [x,.s subj,.s role] h fun r h' =>r= .b (yy s.roles ⟨subj,role⟩)∧h' =h:=by
 obtain⟨y1,y2,y3,y4,rfl,hc,h2,h3,h4⟩:=hb;have hq:=fun H (hH:Ab.Sub h H)=>F1 y4 s.roles ⟨subj,role⟩ H (h4.sub hH) hl
 cases hp:s.policy with
 |mk pid pset palg ptgt prules pkids pobls=>
 refine ad3 Tryz.func104 13 [.tmp 6] fun hwf=>?_
 simp only[go_sem,fZ,List.cons_append,List.nil_append];intro i1 h1;simp only[go_sem];refine(hq _ (.aj h1)).pthen ?_;simp only[go_sem];exact aen
theorem Jk{h:Heap}(f:cN){k:Nat}{name:Txt}(hk:h k=some (.obj [.s name] 9)):ai Tryz.prog 123 [bB f,.ptr k 0] h fun r h' =>r= .b (f.name==name)∧h' =h:=by
 refine ad3 Tryz.func123 8 [.tmp 3] fun hwf=>?_
 simp only[go_sem,bB];exact aiB
theorem Jl{fs:List cN}{name:Txt}(h:fs.findIdx (fun f=>f.name==name)<fs.length):dQ fs name=fs[fs.findIdx fun f=>f.name==name].val:=by
 unfold dQ;rw[show fs.find? (fun f=>f.name==name)=some fs[fs.findIdx fun f=>f.name==name]from List.find?_eq_some_iff_getElem.2 ⟨List.findIdx_getElem (w:=h),_,h,rfl,fun j hj=>ad5⟩]
theorem Jm{fs:List cN}{name:Txt}(h:¬fs.findIdx (fun f=>f.name==name)<fs.length):dQ fs name=aq:=by
 grind [dQ,List.findIdx_le_length,List.find?_eq_none,List.findIdx_eq_length]
theorem Dm{h:Heap}{x:AV}{c:aM}(hb:RdC h x c)(name:Txt)(hl:c.fields.length≤1000000000):ai Tryz.prog 59 [x,.s name] h fun r h' =>r=aS (dQ c.fields name)∧h' =h:=by
 obtain⟨f,l,rfl,hf,hlg⟩:=hb;refine ad3 Tryz.func59 19 [.cell 4 32] fun hwf=>?_
 simp only[go_sem];intro i1 h1;simp only[go_sem];intro i2 h2;have n21:=aH h2;have n2:=aC h2;simp only[go_sem];intro i3 h3;have h3' :=aC h3;have n31:=aH h3';have n3:=aC h3';have hs:∀a b d,Ab.Sub h (upd (upd (upd h i1 a) i2 b) i3 d):=fun a b d=>(((Sub.refl h).put h1 a).put n2 b).put n3 d
 simp only[go_sem,ak,n21.symm,n31.symm];refine(yG f _ c.fields (fun f=>f.name==name) _ [.ptr i2 0] _ (hf.sub (hs _ _ _)) aec ad5 (oX (fun _=>rfl) _) fun i a b=>by
  rw[adV];exact Jk _ (by grind [ak,gv,not_false_eq_true])).pthen ?_
 by_cases hx:c.fields.findIdx (fun f=>f.name==name)<c.fields.length
 ·have e1:ixD (fun f=>f.name==name) c.fields=(c.fields.findIdx (fun f=>f.name==name):Nat):=by simp_all [ixD,if_pos]
  have d1:decide ((0:Int)≤((c.fields.findIdx (fun f=>f.name==name):Nat):Int))=true:=decide_eq_true ad4
  rw[e1];simp only[go_sem,ak,n21.symm,n31.symm,d1];refine hf.idx (e:=160) (c.fields.findIdx fun f=>f.name==name) rfl ad5 GZ ad9 fun p hp1=>?_
  simp only[go_sem];refine hp1.field (f:=1) (off:=1) (t:=32) rfl ad9 fun p2 hp2=>?_
  have hld:=fun a b d=>(hp2.sub (hs a b d)).part (U:=U) (ty:=32) ad9 (by rw[adV,show(U 32).sz=3 by rfl];exact adT rfl)
  simp only[go_sem,hld,adV,bB];exact .mk _ (.refl _) ad5 ⟨by rw[Jl hx];rfl,rfl⟩
 ·have e1:ixD (fun f=>f.name==name) c.fields= -1:=by simp_all [ixD,if_neg]
  have d1:decide ((0:Int)≤ -1)=false:=rfl;rw[e1];simp only[go_sem,d1];exact .mk _ (.refl _) ad5 ⟨by rw[Jm hx];rfl,rfl⟩
end Go.Proofs.YtbbadggejjgihaaGreatDoor
namespace Go.Ab
open Go
mutual
def cM:AV→Bool
 |.v _=>true
 |.s _=>true
 |.agg xs=>gA xs
 |.tup xs=>gA xs
 |.sl xs (.own _)=>false
 |.sl xs _=>gA xs
 |.pe x _=>cM x
 |.ifc _ x=>cM x
 |_=>false
def gA:List AV→Bool
 | []=>true
 |x::r=>cM x && gA r
end
mutual
theorem uk{F:Nat→Prop}:∀x:AV,cM x=true→Av F x
 |.v x,_=> .v x
 |.s l,_=> .s l
 |.agg xs,h=> .agg xs (qY xs agK)
 |.tup xs,h=> .tup xs (qY xs agK)
 |.sl xs .no,h=> .sl xs .no (qY xs agK) fun _ e=>aew
 |.sl xs .full,h=> .sl xs .full (qY xs agK) fun _ e=>aew
 |.sl xs (.own _),h=>ahG
 |.pe x o,h=> .pe x o (uk x agK)
 |.ptr i o,h=>ahG
 |.oa i o l,h=>ahG
 |.ifc t x,h=> .ifc t x (uk x agK)
 |.fn f c,h=>ahG
 |.mp i,h=>ahG
 |.ob i o l c z,h=>ahG
theorem qY{F:Nat→Prop}:∀xs:List AV,gA xs=true→∀x∈xs,Av F x
 | [],_,x,hx=>by cases hx
 |y::r,h,x,hx=>by
  simp only[gA,Bool.and_eq_true]at h;rcases List.mem_cons.1 hx with e|e
  ·rw[e];exact uk y h.1
  ·exact qY r h.2 x e
end
theorem bn{α:Type}{f:α→AV}(hf:∀a,cM (f a)=true):∀l:List α,gA (l.map f)=true
 | []=>rfl
 |a::r=>by simp[gA,hf a,bn hf r]
theorem Bj{xs:List AV}(h:gA xs=true):∀x∈xs,cM x=true:=by
 induction xs with
 |nil=>simp
 |cons y r ih=>
  simp_all [gA,Bool.and_eq_true,List.mem_cons]
theorem nO{x:AV}(h:cM x=true):∀c∈x.cells,cM c=true:=by
 cases x with
 |agg cs=>exact Bj (show gA cs=true by grind [cM])
 |_=>intro c hc;rw[List.mem_singleton.1 hc];exact h
theorem Frz.pure{g h:Heap}{x:AV}(hx:cM x=true):Frz g h x x:=.keep x (uk x hx)
theorem Ow.frz{g h:Heap}{tb:TypeId}{sz id:Nat}{y:AV}{xs ys:List AV}(hw:Ow tb h sz id y xs)(hg:g id=Option.none)(hn:xs.length=ys.length)(hz:∀i (h1:i<xs.length) (h2:i<ys.length),xs[i].cells.length=ys[i].cells.length)
  (hr:∀i (h1:i<xs.length) (h2:i<ys.length) j (h3:j<xs[i].cells.length) (h4:j<ys[i].cells.length),Frz g h xs[i].cells[j] ys[i].cells[j]):Frz g h y (.sl ys .no):=by
 obtain⟨cap,rest,rfl,h1,h2,h3,h4⟩:=hw;have hl:=aZ h4;refine .ob id 0 _ cap sz _ tb ys hg h1 ad5 hn.symm (fun i hi=>by rw[←hz i ad4 hi];exact h4 _ aec) fun i hi j hj hb=>?_
 have hj' :j<sz:=by rw[←h4 xs[i] aec,hz i ad4 hi];omega
 have hbd:i*sz+j<xs.length*sz:=by
  have:(i+1)*sz≤xs.length*sz:=Nat.mul_le_mul_right _ ad4;rw[Nat.add_mul,Nat.one_mul]at this;omega
 have hjx:j<xs[i].cells.length:=ad5;have e:(au xs++rest)[0+(i*sz+j)]? =some (xs[i].cells[j]):=by
  rw[Nat.zero_add,List.getElem?_append_left ad4,uZ h4 ad4 hj',List.getElem?_eq_getElem hjx]
 rw[List.getElem?_eq_getElem hb,Option.some.injEq]at e;rw[e];exact hr i ad4 hi j hjx hj
theorem OwE.frz{g h:Heap}{tb:TypeId}{sz:Nat}{y:AV}{xs:List AV}(hw:OwE tb g h sz y xs)(hp:gA xs=true):Frz g h y (.sl xs .no):=by
 rcases hw with⟨rfl,rfl⟩|⟨id,hg,hw⟩
 ·exact .sl [] [] .full rfl ad4 aec
 ·exact hw.frz hg rfl ad4 fun i h1 h2 j h3 h4=> .pure (nO (Bj hp _ (adZ h1)) _ aec)
theorem OwE.jU{U:TypeId→TI}{h:Heap}{sz:Nat}{tb:TypeId}{xs:List AV}{Q:AV→Heap→Prop}(hz:(U tb).sz=sz)(hf:Ab.fit (U tb).zero sz)(hb:Sized sz xs)(hk:∀y' h',OwE tb h h' sz y' xs→Sub h h'→Q y' h'):so U h [] xs tb Q:=by
 subst hz;refine⟨fun hn=>?_,fun hn=>?_⟩
 ·subst hn
  exact hk _ _ (.inl ⟨rfl,rfl⟩) (.refl _)
 ·refine .ob hf (kL.ow hb aek aec fun id y' h' hid hw ho=>?_)
  exact hk _ _ (.inr ⟨id,hid,hw⟩) fun j b hj=>ad5
theorem Rd.nil{h:Heap}{sz:Nat}{y:AV}{xs:List AV}{e:TypeId}{Q:AV→Heap→Prop}(hb:Rd h sz y xs)(hk:∀b:Bool,(xs≠ []→b=false)→Q (.b b) h):SM h .eql y Q (.slice e):=by
 obtain⟨_,⟨q,rfl⟩|⟨id,off,cap,cs,t,rfl,_⟩⟩:=hb
 ·exact hk
 ·exact hk false fun _=>rfl
def nid:AV→Option Nat
 |.ob id _ _ _ _=>some id
 |_=>none
theorem OwE.nid{tb:TypeId}{h0 h:Heap}{sz:Nat}{y:AV}{xs:List AV}(hw:OwE tb h0 h sz y xs){id:Nat}(e:Ab.nid y=some id):h0 id=Option.none∧h id≠Option.none∧Ow tb h sz id y xs:=by
 rcases hw with⟨rfl,rfl⟩|⟨id',h1,hw⟩
 ·cases e
 ·obtain⟨cap,rest,rfl,h2,h3⟩:=hw
  cases e;exact⟨h1,ad5,cap,rest,rfl,h2,h3⟩
theorem Ow.nid{tb:TypeId}{h:Heap}{sz id:Nat}{y:AV}{xs:List AV}(hw:Ow tb h sz id y xs):Ab.nid y=some id:=by
 obtain⟨cap,rest,rfl,h2,h3⟩:=hw;rfl
theorem OwE.keep{tb:TypeId}{h0 h h' :Heap}{sz:Nat}{y:AV}{xs:List AV}(hw:OwE tb h0 h sz y xs)(hs:∀id,Ab.nid y=some id→h' id=h id):OwE tb h0 h' sz y xs:=by
 rcases hw with hw|⟨id,h1,hw⟩
 ·exact ah6
 ·exact .inr ⟨id,h1,hw.same (hs id hw.nid)⟩
theorem OwE.less{tb:TypeId}{h0 h1 h:Heap}{sz:Nat}{y:AV}{xs:List AV}(hw:OwE tb h1 h sz y xs)(hs:Sub h0 h1):OwE tb h0 h sz y xs:=by
 rcases hw with hw|⟨id,a,hw⟩
 ·exact ah6
 ·exact .inr ⟨id,hs.none a,hw⟩
end Go.Ab
namespace Go.Proofs.YtbbadggejjgihaaGreatDoor
open Go Go.Ab Go.Bf
theorem AF(y:AV)(xs:List AV)(h:Heap)(hb:Rd h 5 y xs)(hl:xs.length≤1000000):ai Tryz.prog 113 [y] h fun r h' =>OwE 133 h h' 5 r xs∧Ab.Sub h h' :=by
 refine ad3 Tryz.func113 8 [.tmp 2] fun hwf=>?_
 simp only[go_sem];refine hb.nil fun b hxs=>?_
 cases b
 ·simp only[go_sem]
  refine hb.src (U:=U) (e:=133) aek ⟨hb.1,ad4,OwE.jU (U:=U) (sz:=5) aek aek hb.1 fun y' h' hw hs=>?_⟩
  exact aiu
 ·exact ais
theorem vR(y:AV)(xs:List AV)(h:Heap)(hb:Rd h 7 y xs)(hl:xs.length≤1000000):ai Tryz.prog 111 [y] h fun r h' =>OwE 99 h h' 7 r xs∧Ab.Sub h h' :=by
 refine ad3 Tryz.func111 8 [.tmp 2] fun hwf=>?_
 simp only[go_sem];refine hb.nil fun b hxs=>?_
 cases b
 ·simp only[go_sem]
  refine hb.src (U:=U) (e:=99) aek ⟨hb.1,ad4,OwE.jU (U:=U) (sz:=7) aek aek hb.1 fun y' h' hw hs=>?_⟩
  exact aiu
 ·exact ais
theorem vQ(y:AV)(xs:List AV)(h:Heap)(hb:Rd h 3 y xs)(hl:xs.length≤1000000):ai Tryz.prog 112 [y] h fun r h' =>OwE 102 h h' 3 r xs∧Ab.Sub h h' :=by
 refine ad3 Tryz.func112 8 [.tmp 2] fun hwf=>?_
 simp only[go_sem];refine hb.nil fun b hxs=>?_
 cases b
 ·simp only[go_sem]
  refine hb.src (U:=U) (e:=102) aek ⟨hb.1,ad4,OwE.jU (U:=U) (sz:=3) aek aek hb.1 fun y' h' hw hs=>?_⟩
  exact aiu
 ·exact ais
theorem I6(y:AV)(xs:List AV)(h:Heap)(hb:Rd h 2 y xs)(hl:xs.length≤1000000):ai Tryz.prog 164 [y] h fun r h' =>OwE 105 h h' 2 r xs∧Ab.Sub h h' :=by
 refine ad3 Tryz.func164 8 [.tmp 2] fun hwf=>?_
 simp only[go_sem];refine hb.nil fun b hxs=>?_
 cases b
 ·simp only[go_sem]
  refine hb.src (U:=U) (e:=105) aek ⟨hb.1,ad4,OwE.jU (U:=U) (sz:=2) aek aek hb.1 fun y' h' hw hs=>?_⟩
  exact aiu
 ·exact ais
theorem Fs(y:AV)(xs:List AV)(h:Heap)(hb:Rd h 4 y xs)(hl:xs.length≤1000000):ai Tryz.prog 171 [y] h fun r h' =>OwE 160 h h' 4 r xs∧Ab.Sub h h' :=by
 refine ad3 Tryz.func171 8 [.tmp 2] fun hwf=>?_
 simp only[go_sem];refine hb.nil fun b hxs=>?_
 cases b
 ·simp only[go_sem]
  refine hb.src (U:=U) (e:=160) aek ⟨hb.1,ad4,OwE.jU (U:=U) (sz:=4) aek aek hb.1 fun y' h' hw hs=>?_⟩
  exact aiu
 ·exact ais
theorem qC(y:AV)(xs:List AV)(h:Heap)(hb:Rd h 3 y xs)(hl:xs.length≤1000000):ai Tryz.prog 114 [y] h fun r h' =>OwE 163 h h' 3 r xs∧Ab.Sub h h' :=by
 refine ad3 Tryz.func114 8 [.tmp 2] fun hwf=>?_
 simp only[go_sem];refine hb.nil fun b hxs=>?_
 cases b
 ·simp only[go_sem]
  refine hb.src (U:=U) (e:=163) aek ⟨hb.1,ad4,OwE.jU (U:=U) (sz:=3) aek aek hb.1 fun y' h' hw hs=>?_⟩
  exact aiu
 ·exact ais
theorem xd(y:AV)(xs:List AV)(h:Heap)(hb:Rd h 3 y xs)(hl:xs.length≤1000000)(hp:gA xs=true):ai Tryz.prog 114 [y] h fun r h' =>r= .sl xs .no∧h' =h:=
 ai.freeze fun g hg _=>(qC y xs g (hb.sub hg) hl).mono fun r h' ⟨h1,h2⟩=>⟨h2,_,h1.frz hp,rfl⟩
theorem LK(y:AV)(xs:List AV)(h:Heap)(hb:Rd h 3 y xs)(hl:xs.length≤1000000):ai Tryz.prog 32 [y] h fun r h' =>OwE 91 h h' 3 r xs∧Ab.Sub h h' :=by
 refine ad3 Tryz.func32 8 [.tmp 2] fun hwf=>?_
 simp only[go_sem];refine hb.nil fun b hxs=>?_
 cases b
 ·simp only[go_sem]
  refine hb.src (U:=U) (e:=91) aek ⟨hb.1,ad4,OwE.jU (U:=U) (sz:=3) aek aek hb.1 fun y' h' hw hs=>?_⟩
  exact aiu
 ·exact ais
theorem AH(y:AV)(xs:List AV)(h:Heap)(hb:Rd h 3 y xs)(hl:xs.length≤1000000)(hp:gA xs=true):ai Tryz.prog 32 [y] h fun r h' =>r= .sl xs .no∧h' =h:=
 ai.freeze fun g hg _=>(LK y xs g (hb.sub hg) hl).mono fun r h' ⟨h1,h2⟩=>⟨h2,_,h1.frz hp,rfl⟩
theorem I7(y:AV)(xs:List AV)(h:Heap)(hb:Rd h 5 y xs)(hl:xs.length≤1000000):ai Tryz.prog 216 [y] h fun r h' =>OwE 167 h h' 5 r xs∧Ab.Sub h h' :=by
 refine ad3 Tryz.func216 8 [.tmp 2] fun hwf=>?_
 simp only[go_sem];refine hb.nil fun b hxs=>?_
 cases b
 ·simp only[go_sem]
  refine hb.src (U:=U) (e:=167) aek ⟨hb.1,ad4,OwE.jU (U:=U) (sz:=5) aek aek hb.1 fun y' h' hw hs=>?_⟩
  exact aiu
 ·exact ais
theorem C3(y:AV)(xs:List AV)(h:Heap)(hb:Rd h 7 y xs)(hl:xs.length≤1000000):ai Tryz.prog 217 [y] h fun r h' =>OwE 49 h h' 7 r xs∧Ab.Sub h h' :=by
 refine ad3 Tryz.func217 8 [.tmp 2] fun hwf=>?_
 simp only[go_sem];refine hb.nil fun b hxs=>?_
 cases b
 ·simp only[go_sem]
  refine hb.src (U:=U) (e:=49) aek ⟨hb.1,ad4,OwE.jU (U:=U) (sz:=7) aek aek hb.1 fun y' h' hw hs=>?_⟩
  exact aiu
 ·exact ais
theorem I4(y:AV)(xs:List AV)(h:Heap)(hb:Rd h 7 y xs)(hl:xs.length≤1000000):ai Tryz.prog 218 [y] h fun r h' =>OwE 172 h h' 7 r xs∧Ab.Sub h h' :=by
 refine ad3 Tryz.func218 8 [.tmp 2] fun hwf=>?_
 simp only[go_sem];refine hb.nil fun b hxs=>?_
 cases b
 ·simp only[go_sem]
  refine hb.src (U:=U) (e:=172) aek ⟨hb.1,ad4,OwE.jU (U:=U) (sz:=7) aek aek hb.1 fun y' h' hw hs=>?_⟩
  exact aiu
 ·exact ais
theorem Fv(y:AV)(xs:List AV)(h:Heap)(hb:Rd h 7 y xs)(hl:xs.length≤1000000)(hp:gA xs=true):ai Tryz.prog 218 [y] h fun r h' =>r= .sl xs .no∧h' =h:=
 ai.freeze fun g hg _=>(I4 y xs g (hb.sub hg) hl).mono fun r h' ⟨h1,h2⟩=>⟨h2,_,h1.frz hp,rfl⟩
theorem Ft(y:AV)(xs:List AV)(h:Heap)(hb:Rd h 7 y xs)(hl:xs.length≤1000000):ai Tryz.prog 254 [y] h fun r h' =>OwE 233 h h' 7 r xs∧Ab.Sub h h' :=by
 refine ad3 Tryz.func254 8 [.tmp 2] fun hwf=>?_
 simp only[go_sem];refine hb.nil fun b hxs=>?_
 cases b
 ·simp only[go_sem]
  refine hb.src (U:=U) (e:=233) aek ⟨hb.1,ad4,OwE.jU (U:=U) (sz:=7) aek aek hb.1 fun y' h' hw hs=>?_⟩
  exact aiu
 ·exact ais
theorem C5(y:AV)(xs:List AV)(h:Heap)(hb:Rd h 7 y xs)(hl:xs.length≤1000000)(hp:gA xs=true):ai Tryz.prog 254 [y] h fun r h' =>r= .sl xs .no∧h' =h:=
 ai.freeze fun g hg _=>(Ft y xs g (hb.sub hg) hl).mono fun r h' ⟨h1,h2⟩=>⟨h2,_,h1.frz hp,rfl⟩
theorem Fu(y:AV)(xs:List AV)(h:Heap)(hb:Rd h 3 y xs)(hl:xs.length≤1000000):ai Tryz.prog 282 [y] h fun r h' =>OwE 32 h h' 3 r xs∧Ab.Sub h h' :=by
 refine ad3 Tryz.func282 8 [.tmp 2] fun hwf=>?_
 simp only[go_sem];refine hb.nil fun b hxs=>?_
 cases b
 ·simp only[go_sem]
  refine hb.src (U:=U) (e:=32) aek ⟨hb.1,ad4,OwE.jU (U:=U) (sz:=3) aek aek hb.1 fun y' h' hw hs=>?_⟩
  exact aiu
 ·exact ais
theorem C6(y:AV)(xs:List AV)(h:Heap)(hb:Rd h 3 y xs)(hl:xs.length≤1000000)(hp:gA xs=true):ai Tryz.prog 282 [y] h fun r h' =>r= .sl xs .no∧h' =h:=
 ai.freeze fun g hg _=>(Fu y xs g (hb.sub hg) hl).mono fun r h' ⟨h1,h2⟩=>⟨h2,_,h1.frz hp,rfl⟩
def Rl(h0 h:Heap)(x:AV)(c:aM):Prop:=∃f l,x= .agg [.s c.id,.s c.owner,.s c.state,f,l]∧OwE 160 h0 h 4 f (c.fields.map bB)∧OwE 163 h0 h 3 l (c.log.map gq)∧∀i,nid f=some i→nid l≠some i
theorem cO{h:Heap}{i j:Nat}{b:Blk}(h1:h i=none)(h2:h j=some b):i≠j:=fun e=>by subst e;rw[h2]at h1;cases h1
theorem zb{h:Heap}{x:AV}{c:aM}(hb:RdC h x c)(hl:c.fields.length≤1000000)(hl2:c.log.length≤1000000):ai Tryz.prog 121 [x] h fun r h' =>Rl h h' r c∧Ab.Sub h h' :=by
 obtain⟨f,l,rfl,hf,hlg⟩:=hb;refine ad3 Tryz.func121 12 [.cell 2 133] fun hwf=>?_
 simp only[go_sem];intro i1 h1;simp only[go_sem];intro i2 h2;have n21:=aH h2;have n2:=aC h2;simp only[go_sem];obtain⟨H,eH⟩:∃H,upd (upd h i1 (some (.obj [.s c.id,.s c.owner,.s c.state,f,l] 133))) i2 (some (.obj [.s [],.s [],.s [],.sl [] .full,.sl [] .full] 133))=H:=⟨_,rfl⟩;have hH:Ab.Sub h H:=ae6;have g1:H i1=some (.obj [.s c.id,.s c.owner,.s c.state,f,l] 133):=afH;have g2:H i2=some (.obj [.s [],.s [],.s [],.sl [] .full,.sl [] .full] 133):=afz;rw[eH];refine .stage (hm1 i1 _) [0,1,3,4,2,6,5] [7,8,9] (.hm1 g1) ad7 ?_;simp only[go_sem,gr];refine(Fs f _ H (hf.sub hH) ad5).mono fun f' H1 ⟨hf',s1⟩=>?_
 refine⟨.hm1 (s1 _ _ g1),?_⟩;simp only[go_sem];refine(qC l _ H1 ((hlg.sub hH).sub s1) ad5).mono fun l' H2 ⟨hl',s2⟩=>?_
 refine⟨.hm1 (s2 _ _ (s1 _ _ g1)),cV,(fun _ _ e=>aew),?_⟩
 have g1' :=s2 _ _ (s1 _ _ g1);have g2' :=s2 _ _ (s1 _ _ g2);simp only[go_sem,g1',hf'.rd.fit,hf'.rd.cells,hl'.rd.fit,hl'.rd.cells];have n1:∀b,upd H2 i1 b i2=some (.obj [.s [],.s [],.s [],.sl [] .full,.sl [] .full] 133):=fun b=>aeJ
 refine⟨fun _ _ e=>aew,fun _ _ e=>aew,?_⟩
 simp only[go_sem,n1];have hid:∀ {y:AV} {xs:List AV} {G:Heap} {tb:TypeId} {z:Nat},Ab.Sub H G→OwE tb G H2 z y xs→∀a b,OwE tb h (upd (upd H2 i1 a) i2 b) z y xs:=fun hG hw a b=>(hw.less (hH.trans hG)).keep fun id e=>by
  have h0:=hG.none (hw.nid e).1;rw[ag _ _ (cO h0 g2),ag _ _ (cO h0 g1)]
 refine .mk _ (.refl _) (.refl _) ⟨⟨f',l',rfl,hid (.refl _) (hf'.sub s2) _ _,hid s1 hl' _ _,fun i ef el=>?_⟩,((hH.trans (s1.trans s2)).put h1 _).put n2 _⟩
 exact(hf'.nid ef).2.1 ((hl'.nid el).1)
theorem wH{h:Heap}{x:AV}{c:aM}(hb:RdC h x c)(hl:c.fields.length≤1000000)(hl2:c.log.length≤1000000):ai Tryz.prog 121 [x] h fun r h' =>r=bT c∧h' =h:=
 ai.freeze fun g hg _=>(zb (hb.sub hg) hl hl2).mono fun r h' ⟨⟨f,l,e,hf,hlg,_⟩,h2⟩=>⟨h2,bT c,by
  subst e;refine .agg _ _ rfl fun i h1 h2=>?_
  rcases i with _|_|_|_|_|i
  ·exact aep
  ·exact aep
  ·exact aep
  ·exact hf.frz (bn (fun _=>rfl) _)
  ·exact hlg.frz (bn (fun _=>rfl) _)
  ·simp at h1;omega,rfl⟩
theorem Nc(l:List bO):gA (l.map cK)=true:=bn (fun _=>rfl) l
theorem Wo:(U 234).sz=1:=aek
theorem Wp:(U 230).sz=1:=aek
theorem ua(t:fY)(ht:lR t=0)(h:Heap):ai Tryz.prog 215 [aW t] h fun r h' =>r=aW t∧h' =h:=by
 obtain⟨hl,he⟩:=BA ht;refine ad3 Tryz.func215 33 [.tmp 2] fun hwf=>?_
 simp only[go_sem,aW,adU];refine .intro (fun m ρ h' =>∃(i:Nat) (y:AV) (ys:List AV),Acc U 230 h h' y ys∧ys.length=i∧(∀j (h1:j<ys.length) (h2:j<t.length),∃q,ys[j]= .sl (t[j].map ij) q)∧i≤t.length∧m=t.length - i∧lk ρ 3=some y∧lk ρ 9=some (.sl (t.map cB) .no)∧lk ρ 10=some (.i t.length)∧lk ρ 11=some (.i i)) t.length ?_ ?_
 ·refine⟨0,_,[],.full (.refl _),rfl,fun j h1=>ad5,ad4,rfl,?_,?_,?_,?_⟩<;>simp only[go_sem]
 ·rintro m ρ h' ⟨i,y,ys,hy,hn,hys,hi,rfl,r3,r9,r10,r11⟩
  simp only[go_sem,r10,r11];refine .intro (fun e=>?_) (fun e=>?_)
  ·have hlt:i<t.length:=ad1 e
   have w1:IntKind.i64.wrap ((i:Int)+1)=((i+1:Nat):Int):=aej;obtain⟨ha0,hal,hae⟩:=AE (he _ (adZ hlt));simp only[go_sem,r9,r11];refine .at i ad5 aef ?_;simp only[go_sem,adV,cB,adU];refine .intro (fun m ρ H=>∃(j:Nat) (z:AV) (zs:List AV),Acc U 234 h' H z zs∧zs=(t[i].take j).map ij∧j≤t[i].length∧m=t[i].length - j∧lk ρ 3=some y∧lk ρ 9=some (.sl (t.map cB) .no)∧lk ρ 10=some (.i t.length)∧lk ρ 11=some (.i i)∧lk ρ 6=some z∧lk ρ 15=some (.sl (t[i].map ij) .no)∧lk ρ 16=some (.i t[i].length)∧lk ρ 17=some (.i j)) t[i].length ?_ ?_
   ·refine⟨0,_,[],.full (.refl _),rfl,ad4,rfl,?_,?_,?_,?_,?_,?_,?_,?_⟩<;>simp only[go_sem,r3,r9,r10,r11]
   ·rintro m ρ H ⟨j,z,zs,hz,rfl,hj,rfl,r3,r9,r10,r11,r6,r15,r16,r17⟩
    simp only[go_sem,r16,r17];refine .intro (fun e=>?_) (fun e=>?_)
    ·have hlt2:j<t[i].length:=ad1 e
     have w2:IntKind.i64.wrap ((j:Int)+1)=((j+1:Nat):Int):=aej;have hml:=(AD (hae _ (adZ hlt2))).2.1;simp only[go_sem,r15,r17];refine .at j ad5 aef ?_;simp only[go_sem,r6,adV,ij];refine(C5 _ (t[i][j].map cK) _ (eC cK 7 (fun _=>rfl) _ _) ad5 (Nc _)).pthen ?_
     simp only[go_sem];refine hz.app (zs:=[ij t[i][j]]) ad9 ad9 (fun k hk=>hk) (by rw[Wo];exact bx (f:=ij) (fun _=>rfl) _) (by rw[Wo];exact bx (f:=ij) (fun _=>rfl) [t[i][j]]) (by simp only[go_sem,adU,List.length_cons,List.length_nil,List.length_take];omega) fun z' H' hz' _=>?_
     simp only[go_sem,r17,w2];refine⟨_,?_,j+1,z',_,hz',?_,ad4,rfl,?_,?_,?_,?_,?_,?_,?_,?_⟩
     ·omega
     ·grind [List.take_succ_eq_append_getElem]
     all_goals simp only[go_sem,r3,r9,r10,r11,r15,r16]
    ·have hge:j=t[i].length:=by grind
     subst hge;rw[List.take_length]at hz;have hyH:=hy.sub hz.1;obtain⟨q,rfl⟩:=hz.row;simp only[go_sem,r3,r6];refine hyH.app (zs:=[.sl (t[i].map ij) q]) ad9 ad9 (fun k hk=>hk) (by rw[Wp];intro w hw;obtain⟨k,hk,rfl⟩:=List.mem_iff_getElem.1 hw;obtain⟨q',e'⟩:=hys k hk ad4;rw[e'];rfl) (by rw[Wp];intro w hw;rw[List.mem_singleton.1 hw];rfl) (by simp only[go_sem,hn,List.length_cons,List.length_nil];omega) fun y' H' hy' _=>?_
     simp only[go_sem,r11,w1];refine⟨_,?_,i+1,y',_,hy',ad5,fun k h1 h2=>?_,ad4,rfl,?_,?_,?_,?_⟩
     ·omega
     ·grind
     all_goals simp only[go_sem,r9,r10]
  ·have hge:i=t.length:=by grind
   simp only[go_sem,r3];obtain⟨q,rfl⟩:=hy.row;refine .mk (aW t) ?_ hy.1 ⟨rfl,rfl⟩;refine .deep _ _ q ad5 (fun k h1 h2=>?_) fun k h1 h2 j h3 h4=>?_
   ·obtain⟨q',e'⟩:=hys k h1 ad4
    rw[e',adV];rfl
   ·obtain⟨q',e'⟩:=hys k h1 ad4
    simp only[e',AV.cells,List.length_singleton]at h3;obtain rfl:j=0:=ad4;simp only[e',adV,cB,AV.cells,List.getElem_singleton];exact agO
theorem zl(t:fY):cM (aW t)=true:=by
 refine bn (fun a=>?_) t
 refine bn (fun b=>?_) a
 exact bn (fun _=>rfl) b
theorem Ki(l:List aQ):cM (fy l)=true:=by simp only[fy,cM];exact bn (fun _=>rfl) l
theorem vu(l:List cy):cM (ay l)=true:=by simp only[ay,cM];exact bn (fun _=>rfl) l
theorem Bk(r:cU):cM (aB r)=true:=by simp[aB,cM,gA,zl,Ki,vu]
mutual
theorem Eo:∀p:bD,cM (aK p)=true
 |.mk id set alg tgt rules kids obls=>by simp[aK,cM,gA,zl,vu,bn Bk rules,vt kids]
theorem vt:∀l:List bD,gA (fC l)=true
 | []=>rfl
 |k::r=>by simp[fC,gA,Eo k,vt r]
end
theorem jB(p:bD):(aK p).cells.length=7:=by cases p;rfl
theorem OD{l:List aQ}(h:kI l=0):l.length≤32:=by
 grind [yj]
theorem Ij{l:List cy}(h:iG l=0):l.length≤8:=(kT h).1
theorem sS{H:Heap}{i:Nat}{x:Option Blk}(h:H i=x):upd H i x=H:=by
 grind [ah,ag]
theorem mg{tb:TypeId}{h:Heap}{sz id i:Nat}{y:AV}{xs cs:List AV}{t:TypeId}(hw:Ow tb h sz id y xs)(hi:h i=some (.obj cs t))(ht:t≠tb):id≠i:=by
 obtain⟨cap,rest,rfl,h1,_⟩:=hw
 grind
theorem kg{sz:Nat}{xs:List AV}(hs:Sized sz xs)(j:Nat)(hj:j<xs.length)(o:Nat)(c:List AV)(ho:o+c.length≤sz){rest:List AV}:
  (au xs++rest).take (j*sz+o)++c++(au xs++rest).drop (j*sz+o+c.length)=au (xs.set j (.agg (Ab.over xs[j].cells o c)))++rest:=by
 have hl:=aZ hs;have hb:(j+1)*sz≤xs.length*sz:=Nat.mul_le_mul_right _ ad4;rw[Nat.add_mul,Nat.one_mul]at hb;have:=MY (us:=au xs) (vs:=rest) (o:=j*sz+o) (c:=c) ad4;rw[Ab.over]at this;rw[this,Js hs j hj o c ho]
theorem oQ{α:Type}{xs:List α}{i:Nat}{x:α}(h:xs[i]? =some x):xs.set i x=xs:=by
 obtain⟨hi,rfl⟩:=List.getElem?_eq_some_iff.1 h;simp
theorem nN(id:Txt)(set:Bool)(alg:Int)(tgt:fY)(rules:List cU)(kids:List bD)(obls:List cy):aK (.mk id set alg tgt rules kids obls)= .agg [.s id,.b set,.i alg,aW tgt,.sl (rules.map aB) .no,.sl (kids.map aK) .no,ay obls]:=by simp[aK,aX]
theorem tZ:∀(p:bD) (d:Nat),mA d p→∀h,ai Tryz.prog 165 [aK p] h fun r h' =>r=aK p∧h' =h
 |.mk pid pset palg ptgt prules pkids pobls,d,hp,h=>by
  obtain⟨_,_,_,_,_,_,ht,ho,hr16,hk16,hre,hke⟩:=hp;rw[qQ]at hke;have ih:∀(j:Nat) (hj:j<pkids.length) (h:Heap),ai Tryz.prog 165 [aK pkids[j]] h fun r h' =>r=aK pkids[j]∧h' =h:=fun j hj h=>tZ pkids[j] (d+1) (hke _ (adZ hj)) h
  have hob:=Ij ho;refine ai.freeze fun g hg _=>?_
  rw[nN];refine ad3 Tryz.func165 72 [.cell 2 49] fun hwf=>?_
  simp only[go_sem];intro i1 h1;simp only[go_sem];intro i2 h2;have n21:=aH h2;have n2:=aC h2;simp only[go_sem];obtain⟨H,eH⟩:∃H,upd (upd g i1 (some (.obj [.s pid,.b pset,.i palg,aW ptgt,.sl (prules.map aB) .no,.sl (pkids.map aK) .no,ay pobls] 49))) i2 (some (.obj [.s [],.b false,.i 0,.sl [] .full,.sl [] .full,.sl [] .full,.sl [] .full] 49))=H:=⟨_,rfl⟩;have hH:Ab.Sub g H:=by rw[←eH];exact((Sub.refl g).put h1 _).put n2 _
  have g1:H i1=some (.obj [.s pid,.b pset,.i palg,aW ptgt,.sl (prules.map aB) .no,.sl (pkids.map aK) .no,ay pobls] 49):=afH;have g2:H i2=some (.obj [.s [],.b false,.i 0,.sl [] .full,.sl [] .full,.sl [] .full,.sl [] .full] 49):=afz;rw[eH];refine .stage (hm1 i1 _) [0,1,3,4,2,6,5] [7,8,9] (.hm1 g1) ad7 ?_;simp only[go_sem,gr];refine(ua ptgt ht H).pthen ?_;refine⟨.hm1 g1,?_⟩;simp only[go_sem];refine(AH _ (pobls.map aY) H (eC aY 3 (fun _=>rfl) _ _) aeO (bn (fun _=>rfl) _)).pthen ?_
  refine⟨.hm1 g1,cV,(fun _ _ e=>aew),?_⟩
  have cT:(aW ptgt).cells= [aW ptgt]:=rfl;simp only[go_sem,g1,show fit (aW ptgt) 1=(1=1)from rfl,cT]
  have eo:(.sl (pobls.map aY) .no:AV)=ay pobls:=rfl;rw[eo];refine⟨fun _ _ e=>aew,fun _ _ e=>aew,?_⟩
  rw[sS g1];refine .stage (hm1 i1 _) [0,1,3,4,2,6,5] [7,8,9] (.hm1 g1) ad7 ?_;simp only[go_sem,gr];refine(I7 _ (prules.map aB) H (eC aB 5 (fun _=>rfl) _ _) aeO).mono fun y4 H1 ⟨w4,s1⟩=>?_
  refine⟨.hm1 (s1 _ _ g1),?_⟩;simp only[go_sem];refine(C3 _ (pkids.map aK) H1 (eC aK 7 jB _ _) aeO).mono fun y5 H2 ⟨w5,s2⟩=>?_
  have g1' :=s2 _ _ (s1 _ _ g1);have g2' :=s2 _ _ (s1 _ _ g2);refine⟨.hm1 g1',cV,(fun _ _ e=>aew),?_⟩
  simp only[go_sem,g1',w4.rd.fit,w4.rd.cells,w5.rd.fit,w5.rd.cells];refine⟨fun _ _ e=>aew,fun _ _ e=>aew,?_⟩
  have hn4:∀id,nid y4=some id→id≠i2:=fun id e=>cO (w4.nid e).1 g2
  have hn5:∀id,nid y5=some id→id≠i2:=fun id e=>cO (w5.nid e).1 (s1 _ _ g2)
  have hnd:∀i,nid y4=some i→nid y5≠some i:=fun i e4 e5=>(w4.nid e4).2.1 (w5.nid e5).1
  have v4:∀b,OwE 167 g (upd H2 i1 b) 5 y4 (prules.map aB):=fun b=>((w4.sub s2).less hH).keep fun id e=>ag _ _ (cO (w4.nid e).1 g1)
  have v5:∀b,OwE 49 g (upd H2 i1 b) 7 y5 (pkids.map aK):=fun b=>(w5.less (hH.trans s1)).keep fun id e=>ag _ _ (cO (s1.none (w5.nid e).1) g1)
  have vs:∀b,Ab.Sub g (upd H2 i1 b):=fun b=>(hH.trans (s1.trans s2)).put h1 b
  have vz:∀b,upd H2 i1 b i2=some (.obj [.s [],.b false,.i 0,.sl [] .full,.sl [] .full,.sl [] .full,.sl [] .full] 49):=fun b=>by rw[ag _ _ n21];exact g2'
  obtain⟨H3,eH3⟩:∃H3,upd H2 i1 (some (.obj [.s pid,.b pset,.i palg,aW ptgt,y4,y5,ay pobls] 49))=H3:=⟨_,rfl⟩;have q1:H3 i1=some (.obj [.s pid,.b pset,.i palg,aW ptgt,y4,y5,ay pobls] 49):=by rw[←eH3,ah]
  replace v4:=v4 (some (.obj [.s pid,.b pset,.i palg,aW ptgt,y4,y5,ay pobls] 49));replace v5:=v5 (some (.obj [.s pid,.b pset,.i palg,aW ptgt,y4,y5,ay pobls] 49));replace vs:=vs (some (.obj [.s pid,.b pset,.i palg,aW ptgt,y4,y5,ay pobls] 49));replace vz:=vz (some (.obj [.s pid,.b pset,.i palg,aW ptgt,y4,y5,ay pobls] 49));rw[eH3]at v4 v5 vs vz;rw[eH3];clear eH3;have hi1:∀id,g id=none→∀ {K:Heap} {b:Blk},K id=some b→K id≠none:=fun id _ K b e=>by rw[e];simp
  simp only[go_sem,v4.rd.len,adU];refine .intro (fun m ρ G=>∃i:Nat,G i1=some (.obj [.s pid,.b pset,.i palg,aW ptgt,y4,y5,ay pobls] 49)∧G i2=some (.obj [.s [],.b false,.i 0,.sl [] .full,.sl [] .full,.sl [] .full,.sl [] .full] 49)∧Ab.Sub g G∧OwE 167 g G 5 y4 (prules.map aB)∧OwE 49 g G 7 y5 (pkids.map aK)∧i≤prules.length∧m=prules.length - i∧
   lk ρ 1=some (.ptr i1 0)∧lk ρ 2=some (.ptr i2 0)∧lk ρ 24=some y4∧lk ρ 25=some (.i prules.length)∧lk ρ 26=some (.i i)) prules.length ?_ ?_
  ·refine⟨0,q1,vz,vs,v4,v5,ad4,rfl,?_,?_,?_,?_,?_⟩<;>simp only[go_sem]
  ·rintro m ρ G ⟨i,q1,vz,vs,v4,v5,hi,rfl,r1,r2,r24,r25,r26⟩
   simp only[go_sem,r25,r26];refine .intro (fun e=>?_) (fun e=>?_)
   ·have hlt:i<prules.length:=ad1 e
    have w1:=ad0 i ad4;obtain⟨_,rt,rc,ro⟩:=hre _ (adZ hlt);have hrc:=OD rc;have hro:=Ij ro;simp only[go_sem,r24,r26];refine v4.rd.idx (e:=167) i rfl aeq aeg ad9 fun p hp1=>?_
    have hld:=hp1.all (U:=U) (ty:=167) aeg aeM aeM;simp only[go_sem,hld,adV,aB];intro i4 h4;have n41:i4≠i1:=cO h4 q1;simp only[go_sem];obtain⟨G4,eG4⟩:∃G4,upd G i4 (some (.obj [.s prules[i].id,.b prules[i].deny,aW prules[i].tgt,fy prules[i].cond,ay prules[i].obls] 167))=G4:=⟨_,rfl⟩;rw[eG4];have p1:G4 i1=some (.obj [.s pid,.b pset,.i palg,aW ptgt,y4,y5,ay pobls] 49):=agN;have p4:G4 i4=some (.obj [.s prules[i].id,.b prules[i].deny,aW prules[i].tgt,fy prules[i].cond,ay prules[i].obls] 167):=by rw[←eG4,ah]
    have sG:Ab.Sub G G4:=ahs;refine .calls (hm2 i1 (.obj [.s pid,.b pset,.i palg,aW ptgt,y4,y5,ay pobls] 49) i4 (.obj [.s prules[i].id,.b prules[i].deny,aW prules[i].tgt,fy prules[i].cond,ay prules[i].obls] 167)) [0,1,2,3,4,5,6,7,8,9,10,12,13,15,16,11,14,17,18,19,20,21,22,23,24,25,26] (.hm2 p1 p4) ad7 rfl ?_;simp only[go_sem,r1,rH _ _ n41.symm,rI];refine(ua prules[i].tgt rt G4).pthen ?_;refine⟨.hm2 p1 p4,?_⟩;simp only[go_sem];refine(Fv _ (prules[i].cond.map cF) G4 (eC cF 7 (fun _=>rfl) _ _) aeO (bn (fun _=>rfl) _)).pthen ?_
    refine⟨.hm2 p1 p4,?_⟩;simp only[go_sem];refine(AH _ (prules[i].obls.map aY) G4 (eC aY 3 (fun _=>rfl) _ _) aeO (bn (fun _=>rfl) _)).pthen ?_
    refine⟨.hm2 p1 p4,?_⟩;simp only[go_sem];obtain⟨id4,hg4,o4⟩:=(v4.sub sG).ow agh;have m1:id4≠i1:=mg o4 p1 ad9;have m4:id4≠i4:=fun e=>(v4.nid o4.nid).2.1 (by rw[e];exact h4)
    refine o4.idx (U:=U) (e:=167) i rfl aeq aeg ad9 ?_;simp only[go_sem];have o4' :=o4;obtain⟨cap,rest,ey,hid,hr,hc,hsz⟩:=o4';have hbd:i*5+5≤(au (prules.map aB)++rest).length:=by
     rw[adY,aZ hsz,adU];omega
    have e2:List.take (i*5+2) (au (prules.map aB)++rest)++(aW prules[i].tgt).cells++List.drop (i*5+2+(aW prules[i].tgt).cells.length) (au (prules.map aB)++rest)=au (prules.map aB)++rest:=by
     refine(kg hsz i aeq 2 ((aW prules[i].tgt).cells) (adT rfl)).trans ?_;exact ajJ
    have e3:List.take (i*5+3) (au (prules.map aB)++rest)++ [.sl (prules[i].cond.map cF) .no]++List.drop (i*5+3+1) (au (prules.map aB)++rest)=au (prules.map aB)++rest:=by
     refine(kg hsz i aeq 3 ([.sl (prules[i].cond.map cF) .no]) (adT rfl)).trans ?_;exact ajJ
    have e4:List.take (i*5+4) (au (prules.map aB)++rest)++ [.sl (prules[i].obls.map aY) .no]++List.drop (i*5+4+1) (au (prules.map aB)++rest)=au (prules.map aB)++rest:=by
     refine(kg hsz i aeq 4 ([.sl (prules[i].obls.map aY) .no]) (adT rfl)).trans ?_;exact ajJ
    simp only[go_sem,hid];rw[e2,sS hid];refine⟨rfl,ad4,.hm2 p1 p4,?_⟩;refine o4.idx (U:=U) (e:=167) i rfl aeq aeg ad9 ?_;simp only[go_sem,hid];rw[e3,sS hid];refine⟨ad4,.hm2 p1 p4,?_⟩;refine o4.idx (U:=U) (e:=167) i rfl aeq aeg ad9 ?_;simp only[go_sem,hid];rw[e4,sS hid];refine⟨ad4,.hm2 p1 p4,?_⟩;simp only[go_sem,r26,w1];refine⟨_,?_,i+1,p1,sG _ _ vz,vs.trans sG,v4.sub sG,v5.sub sG,ad4,rfl,?_,?_,?_,?_,?_⟩
    ·omega
    all_goals simp only[go_sem,r1,r2,r24,r25]
   ·have hge:i=prules.length:=by have:=adX e;omega
    clear hge;simp only[go_sem,r1,q1,v5.rd.len,adU];refine .intro (fun m ρ G=>∃i:Nat,G i1=some (.obj [.s pid,.b pset,.i palg,aW ptgt,y4,y5,ay pobls] 49)∧G i2=some (.obj [.s [],.b false,.i 0,.sl [] .full,.sl [] .full,.sl [] .full,.sl [] .full] 49)∧Ab.Sub g G∧OwE 167 g G 5 y4 (prules.map aB)∧OwE 49 g G 7 y5 (pkids.map aK)∧i≤pkids.length∧m=pkids.length - i∧
     lk ρ 1=some (.ptr i1 0)∧lk ρ 2=some (.ptr i2 0)∧lk ρ 57=some y5∧lk ρ 58=some (.i pkids.length)∧lk ρ 59=some (.i i)) pkids.length ?_ ?_
    ·refine⟨0,q1,vz,vs,v4,v5,ad4,rfl,?_,?_,?_,?_,?_⟩<;>simp only[go_sem,r1,r2]
    ·clear r1 r2 r24 r25 r26 q1 vz vs v4 v5 e hi
     rintro m ρ G ⟨i,q1,vz,vs,v4,v5,hi,rfl,r1,r2,r57,r58,r59⟩
     simp only[go_sem,r58,r59];refine .intro (fun e=>?_) (fun e=>?_)
     ·have hlt:i<pkids.length:=ad1 e
      have w1:=ad0 i ad4;have ihi:=ih i hlt;have hci:=jB pkids[i];cases hpk:pkids[i]with
      |mk kid kset kalg ktgt krules kkids kobls=>
      rw[hpk,nN]at ihi;simp only[go_sem,r57,r59];refine v5.rd.idx (e:=49) i rfl aeq aeg ad9 fun p hp1=>?_
      have hld:=hp1.all (U:=U) (ty:=49) aeg (by simp only[go_sem];rw[adV];exact hci) (by simp only[go_sem];rw[adV,hpk,nN];rfl)
      simp only[go_sem,hld,adV,hpk,nN];intro i4 h4;have n41:i4≠i1:=cO h4 q1;simp only[go_sem];obtain⟨G4,eG4⟩:∃G4,upd G i4 (some (.obj [.s kid,.b kset,.i kalg,aW ktgt,.sl (krules.map aB) .no,.sl (kkids.map aK) .no,ay kobls] 49))=G4:=⟨_,rfl⟩;rw[eG4];have p1:G4 i1=some (.obj [.s pid,.b pset,.i palg,aW ptgt,y4,y5,ay pobls] 49):=agN;have p4:G4 i4=some (.obj [.s kid,.b kset,.i kalg,aW ktgt,.sl (krules.map aB) .no,.sl (kkids.map aK) .no,ay kobls] 49):=by rw[←eG4,ah]
      have sG:Ab.Sub G G4:=ahs;refine .calls (hm2 i1 (.obj [.s pid,.b pset,.i palg,aW ptgt,y4,y5,ay pobls] 49) i4 (.obj [.s kid,.b kset,.i kalg,aW ktgt,.sl (krules.map aB) .no,.sl (kkids.map aK) .no,ay kobls] 49)) [0,1,2,3,4,5,6] (.hm2 p1 p4) ad7 rfl ?_;simp only[go_sem,r1,rH _ _ n41.symm,rI];refine(ihi G4).pthen ?_;refine⟨.hm2 p1 p4,?_⟩;simp only[go_sem];obtain⟨id4,hg4,o4⟩:=(v5.sub sG).ow agh;have o4' :=o4;obtain⟨cap,rest,ey,hid,hr,hc,hsz⟩:=o4';have hbd:i*7+7≤(au (pkids.map aK)++rest).length:=by
       rw[adY,aZ hsz,adU];omega
      have e2:List.take (i*7) (au (pkids.map aK)++rest)++ [.s kid,.b kset,.i kalg,aW ktgt,.sl (krules.map aB) .no,.sl (kkids.map aK) .no,ay kobls]++List.drop (i*7+7) (au (pkids.map aK)++rest)=au (pkids.map aK)++rest:=by
       refine(kg hsz i aeq 0 [.s kid,.b kset,.i kalg,aW ktgt,.sl (krules.map aB) .no,.sl (kkids.map aK) .no,ay kobls] (adT rfl)).trans ?_;rw[oQ];rw[List.getElem?_eq_getElem aeq,adV,hpk,nN];rfl
      refine o4.idx (U:=U) (e:=49) i rfl aeq aeg ad9 ?_;simp only[go_sem,hid];rw[e2,sS hid];refine⟨ad4,.hm2 p1 p4,?_⟩;simp only[go_sem,r59,w1];refine⟨_,?_,i+1,p1,sG _ _ vz,vs.trans sG,v4.sub sG,v5.sub sG,ad4,rfl,?_,?_,?_,?_,?_⟩
      ·omega
      all_goals simp only[go_sem,r1,r2,r57,r58]
     ·simp only[go_sem,r1,r2,q1,vz]
      refine .mk _ (.refl _) (.refl _) ⟨vs.put n2 _,aK (.mk pid pset palg ptgt prules pkids pobls),?_,nN ..⟩;rw[nN];have z4:∀b,Frz g (upd G i2 b) y4 (.sl (prules.map aB) .no):=fun b=>(v4.keep fun id e=>ag _ _ (hn4 id e)).frz (bn Bk prules)
      have z5:∀b,Frz g (upd G i2 b) y5 (.sl (pkids.map aK) .no):=fun b=>(v5.keep fun id e=>ag _ _ (hn5 id e)).frz (by rw[←aX];exact vt pkids)
      refine .agg _ _ rfl fun k k1 k2=>?_
      rcases k with _|_|_|_|_|_|_|k
      ·exact aep
      ·exact aep
      ·exact aep
      ·exact .pure (zl _)
      ·exact z4 _
      ·exact z5 _
      ·exact .pure (vu _)
      ·simp at k1;omega
termination_by p=>SizeOf.sizeOf p
decreasing_by
 have:=List.sizeOf_lt_of_mem (adZ hj);simp only[bD.mk.sizeOf_spec];omega
end Go.Proofs.YtbbadggejjgihaaGreatDoor
namespace Go.Ab
open Go
def apart(a b:AV):Prop:=∀i,nid a=some i→nid b≠some i
theorem apart.symm{a b:AV}(h:apart a b):apart b a:=fun i e1 e2=>h i e2 e1
theorem ew{a y:AV}{tb:TypeId}{g h:Heap}{sz:Nat}{xs:List AV}(hw:OwE tb g h sz y xs)(ha:∀i,nid a=some i→g i≠none):apart a y:=fun i e1 e2=>ha i e1 (hw.nid e2).1
theorem OwE.there{tb:TypeId}{h0 h h' :Heap}{sz:Nat}{y:AV}{xs:List AV}(hw:OwE tb h0 h sz y xs)(hs:∀i,h i≠Option.none→h' i≠Option.none):∀i,Ab.nid y=some i→h' i≠Option.none:=fun i e=>hs i (hw.nid e).2.1
theorem Sub.some{h h' :Heap}(hs:Sub h h'):∀i,h i≠Option.none→h' i≠Option.none:=fun i e e' =>e (hs.none e')
end Go.Ab
namespace Go.Proofs.YtbbadggejjgihaaGreatDoor
open Go Go.Ab Go.Bf
def fq(h0 h:Heap)(ys:List AV)(x:AV)(c:aM):Prop:=∃f l,x= .agg [.s c.id,.s c.owner,.s c.state,f,l]∧OwE 160 h0 h 4 f (c.fields.map bB)∧OwE 163 h0 h 3 l (c.log.map gq)∧apart f l∧∀y∈ys,apart f y∧apart l y
def mo(h0 h:Heap)(ys:List AV)(y1:AV)(cs:List aM)(i0:Nat):Prop:=∃xs,OwE 133 h0 h 5 y1 xs∧xs.length=cs.length∧(∀j (h1:j<xs.length) (h2:j<cs.length),j≠i0→xs[j]=bT cs[j])∧∀(h1:i0<xs.length) (h2:i0<cs.length),fq h0 h ys xs[i0] cs[i0]
def sZ(h0 h:Heap)(x:AV)(s:an)(i0:Nat):Prop:=∃y1 y2 y3 y4,x= .agg ([.i s.tick,y1,y2,y3,y4]++fZ s.policy++ [.i s.version])∧mo h0 h [y1,y2,y3,y4] y1 s.cases i0∧
 OwE 99 h0 h 7 y2 (s.reviews.map gu)∧OwE 102 h0 h 3 y3 (s.notices.map j5)∧OwE 105 h0 h 2 y4 (s.roles.map di)∧apart y1 y2∧apart y1 y3∧apart y1 y4∧apart y2 y3∧apart y2 y4∧apart y3 y4
theorem Kc{cs L:List AV}(h:L.length=cs.length):Ab.over cs 0 L=L:=by
 simp_all [Ab.over,List.take_zero,List.nil_append,Nat.zero_add,List.drop_of_length_le,List.append_nil]
theorem Ef{h:Heap}{x:AV}{c:aM}(i i0:Nat)(hb:RdC h x c)(hl:c.fields.length≤1000000)(hl2:c.log.length≤1000000):ai Tryz.prog 121 [x] h fun r h' =>
  ∃f l,r= .agg [.s c.id,.s c.owner,.s c.state,f,l]∧Ab.Sub h h'∧f.cells= [f]∧l.cells= [l]∧(i≠i0→f=gF c.fields∧l=sH c.log)∧(i=i0→OwE 160 h h' 4 f (c.fields.map bB)∧OwE 163 h h' 3 l (c.log.map gq)∧apart f l):=by
 by_cases e:i=i0
 ·exact(zb hb hl hl2).mono fun r h' ⟨⟨f,l,e1,a,b,c⟩,d⟩=>⟨f,l,e1,d,a.rd.cells,b.rd.cells,fun hh=>(hh e).elim,fun _=>⟨a,b,c⟩⟩
 ·exact(wH hb hl hl2).mono fun r h' ⟨e1,e2⟩=>⟨_,_,e1,by rw[e2];exact .refl _,rfl,rfl,fun _=>⟨rfl,rfl⟩,fun hh=>(e hh).elim⟩
theorem fq.sub{h0 h h' :Heap}{ys:List AV}{x:AV}{c:aM}(hm:fq h0 h ys x c)(hs:Ab.Sub h h'):fq h0 h' ys x c:=by
 obtain⟨f,l,e,a,b,c,d⟩:=hm;exact⟨f,l,e,a.sub hs,b.sub hs,c,d⟩
theorem fq.keep{h0 h h' :Heap}{ys:List AV}{x:AV}{c:aM}(hm:fq h0 h ys x c)(hs:∀f l,x= .agg [.s c.id,.s c.owner,.s c.state,f,l]→(∀y∈ys,apart f y∧apart l y)→∀i,(nid f=some i∨nid l=some i)→h' i=h i):fq h0 h' ys x c:=by
 obtain⟨f,l,e,a,b,c,d⟩:=hm;exact⟨f,l,e,a.keep fun i hi=>hs f l e d i (.inl hi),b.keep fun i hi=>hs f l e d i (.inr hi),c,d⟩
theorem SW{h:Heap}{x:AV}{s:an}(hb:RdS h x s)(i0:Nat)(hf:Few s)(hp:mA 1 s.policy):ai Tryz.prog 115 [x] h fun r h' =>sZ h h' r s i0∧Ab.Sub h h' :=by
 obtain⟨y1,y2,y3,y4,rfl,⟨xs0,hc,hn,hcs⟩,h2,h3,h4⟩:=hb;have hpo:=tZ s.policy 1 hp;cases hpp:s.policy with
 |mk pid pset palg ptgt prules pkids pobls=>
 rw[hpp,nN]at hpo;have hcC:fZ (.mk pid pset palg ptgt prules pkids pobls)= [.s pid,.b pset,.i palg,aW ptgt,.sl (prules.map aB) .no,.sl (pkids.map aK) .no,ay pobls]:=ahd;have hfc:=hf.cases;refine ad3 Tryz.func115 41 [.cell 2 51] fun hwf=>?_
 simp only[go_sem,hcC,List.cons_append,List.nil_append];intro i1 h1;simp only[go_sem];intro i2 h2';have n21:=aH h2';have n2:=aC h2';simp only[go_sem,ak,n21.symm];obtain⟨H,eH⟩:∃H,upd (upd h i1 (some (.obj [.i s.tick,y1,y2,y3,y4,.s pid,.b pset,.i palg,aW ptgt,.sl (prules.map aB) .no,.sl (pkids.map aK) .no,ay pobls,.i s.version] 51))) i2 (some (.obj [.i 0,.sl [] .full,.sl [] .full,.sl [] .full,.sl [] .full,.s [],.b false,.i 0,.sl [] .full,.sl [] .full,.sl [] .full,.sl [] .full,.i 0] 51))=H:=⟨_,rfl⟩;have hH:Ab.Sub h H:=ae6;have g1:H i1=some (.obj [.i s.tick,y1,y2,y3,y4,.s pid,.b pset,.i palg,aW ptgt,.sl (prules.map aB) .no,.sl (pkids.map aK) .no,ay pobls,.i s.version] 51):=afH;have g2:H i2=some (.obj [.i 0,.sl [] .full,.sl [] .full,.sl [] .full,.sl [] .full,.s [],.b false,.i 0,.sl [] .full,.sl [] .full,.sl [] .full,.sl [] .full,.i 0] 51):=afz;rw[eH];clear eH;refine(AF y1 xs0 H (hc.sub hH) ad4).mono fun z1 H1 ⟨w1,s1⟩=>?_
 simp only[go_sem,s1 _ _ g1,w1.rd.fit,w1.rd.cells];have v1:∀b,OwE 133 h (upd H1 i1 b) 5 z1 xs0:=fun b=>(w1.less hH).keep fun id e=>ag _ _ (cO (w1.nid e).1 g1)
 have vs:∀b,Ab.Sub h (upd H1 i1 b):=fun b=>(hH.trans s1).put h1 b
 have vz:∀b,upd H1 i1 b i2=some (.obj [.i 0,.sl [] .full,.sl [] .full,.sl [] .full,.sl [] .full,.s [],.b false,.i 0,.sl [] .full,.sl [] .full,.sl [] .full,.sl [] .full,.i 0] 51):=fun b=>by rw[ag _ _ n21];exact s1 _ _ g2
 have hz1:∀id,nid z1=some id→id≠i1:=fun id e=>cO (w1.nid e).1 g1
 have hz2:∀id,nid z1=some id→id≠i2:=fun id e=>cO (w1.nid e).1 g2
 obtain⟨H2,eH2⟩:∃H2,upd H1 i1 (some (.obj [.i s.tick,z1,y2,y3,y4,.s pid,.b pset,.i palg,aW ptgt,.sl (prules.map aB) .no,.sl (pkids.map aK) .no,ay pobls,.i s.version] 51))=H2:=⟨_,rfl⟩;replace v1:=v1 (some (.obj [.i s.tick,z1,y2,y3,y4,.s pid,.b pset,.i palg,aW ptgt,.sl (prules.map aB) .no,.sl (pkids.map aK) .no,ay pobls,.i s.version] 51));replace vs:=vs (some (.obj [.i s.tick,z1,y2,y3,y4,.s pid,.b pset,.i palg,aW ptgt,.sl (prules.map aB) .no,.sl (pkids.map aK) .no,ay pobls,.i s.version] 51));replace vz:=vz (some (.obj [.i s.tick,z1,y2,y3,y4,.s pid,.b pset,.i palg,aW ptgt,.sl (prules.map aB) .no,.sl (pkids.map aK) .no,ay pobls,.i s.version] 51));have q1:H2 i1=some (.obj [.i s.tick,z1,y2,y3,y4,.s pid,.b pset,.i palg,aW ptgt,.sl (prules.map aB) .no,.sl (pkids.map aK) .no,ay pobls,.i s.version] 51):=by rw[←eH2,ah]
 rw[eH2]at v1 vs vz;rw[eH2];clear eH2;simp only[go_sem,v1.rd.len,hn];refine .intro (fun m ρ G=>∃(i:Nat) (xs:List AV),G i1=some (.obj [.i s.tick,z1,y2,y3,y4,.s pid,.b pset,.i palg,aW ptgt,.sl (prules.map aB) .no,.sl (pkids.map aK) .no,ay pobls,.i s.version] 51)∧G i2=some (.obj [.i 0,.sl [] .full,.sl [] .full,.sl [] .full,.sl [] .full,.s [],.b false,.i 0,.sl [] .full,.sl [] .full,.sl [] .full,.sl [] .full,.i 0] 51)∧Ab.Sub h G∧OwE 133 h G 5 z1 xs∧xs.length=s.cases.length∧(∀j (h1:j<xs.length) (h2:j<s.cases.length),j<i→j≠i0→xs[j]=bT s.cases[j])∧(∀(h1:i0<xs.length) (h2:i0<s.cases.length),i0<i→fq h G [z1] xs[i0] s.cases[i0])∧(∀j (h1:j<xs.length) (h2:j<s.cases.length),i≤j→RdC h xs[j] s.cases[j])∧i≤s.cases.length∧m=s.cases.length - i∧
  lk ρ 1=some (.ptr i1 0)∧lk ρ 2=some (.ptr i2 0)∧lk ρ 10=some z1∧lk ρ 11=some (.i s.cases.length)∧lk ρ 12=some (.i i)) s.cases.length ?_ ?_
 ·refine⟨0,xs0,q1,vz,vs,v1,hn,fun j _ _ hj=>ad4,fun _ _ hj=>ad4,fun j a b _=>hcs j a b,ad4,rfl,?_,?_,?_,?_,?_⟩<;>simp only[go_sem]
 ·rintro m ρ G ⟨i,xs,q1,vz,vs,v1,hn,hlo,hmy,hhi,hi,rfl,r1,r2,r10,r11,r12⟩
  simp only[go_sem,r11,r12];refine .intro (fun e=>?_) (fun e=>?_)
  ·have hlt:i<s.cases.length:=ad1 e
   have hltx:i<xs.length:=ad4;have w1:=ad0 i ad4;obtain⟨f,l,ex,hfl,hlg⟩:=hhi i hltx hlt (Nat.le_refl _);have hff:=hf.fields _ (adZ hlt);have hfg:=hf.log _ (adZ hlt);simp only[go_sem,r10,r12];refine v1.rd.idx (e:=133) i rfl hltx nQ ad9 fun p hp1=>?_
   have hld:=hp1.all (U:=U) (ty:=133) aeg (by rw[nQ,ex];rfl) (by simp only[go_sem];rw[ex];rfl)
   simp only[go_sem,hld,ex];intro i4 h4;have n41:i4≠i1:=cO h4 q1;simp only[go_sem];obtain⟨G4,eG4⟩:∃G4,upd G i4 (some (.obj [.s s.cases[i].id,.s s.cases[i].owner,.s s.cases[i].state,f,l] 133))=G4:=⟨_,rfl⟩;rw[eG4];have p1:G4 i1=some (.obj [.i s.tick,z1,y2,y3,y4,.s pid,.b pset,.i palg,aW ptgt,.sl (prules.map aB) .no,.sl (pkids.map aK) .no,ay pobls,.i s.version] 51):=agN;have p4:G4 i4=some (.obj [.s s.cases[i].id,.s s.cases[i].owner,.s s.cases[i].state,f,l] 133):=by rw[←eG4,ah]
   have sG:Ab.Sub G G4:=ahs;refine .calls (hm2 i1 (.obj [.i s.tick,z1,y2,y3,y4,.s pid,.b pset,.i palg,aW ptgt,.sl (prules.map aB) .no,.sl (pkids.map aK) .no,ay pobls,.i s.version] 51) i4 (.obj [.s s.cases[i].id,.s s.cases[i].owner,.s s.cases[i].state,f,l] 133)) [0,1,2,3,4,5,6] (.hm2 p1 p4) ad7 rfl ?_;simp only[go_sem,r1,rH _ _ n41.symm,rI];refine(Ef i i0 (show RdC G4 (.agg [.s s.cases[i].id,.s s.cases[i].owner,.s s.cases[i].state,f,l]) s.cases[i]from⟨f,l,rfl,hfl.sub (vs.trans sG),hlg.sub (vs.trans sG)⟩) hff hfg).mono fun r G5 ⟨f',l',er,s5,cf,cl,hne,heq⟩=>?_
   subst er;have p1' :=s5 _ _ p1;have p4' :=s5 _ _ p4;refine⟨.hm2 p1' p4',?_⟩;simp only[go_sem];obtain⟨id1,hg1,o1⟩:=((v1.sub sG).sub s5).ow (by intro e;rw[e]at hltx;cases hltx)
   have t1:id1≠i1:=mg o1 p1' ad9;have t2:id1≠i2:=hz2 id1 o1.nid;have t3:G4 id1≠none:=fun e=>(v1.nid o1.nid).2.1 (sG.none e)
   have o1' :=o1;obtain⟨cap,rest,ey,hid,hr,hcap,hsz⟩:=o1';have hbd:i*5+5≤(au xs++rest).length:=by
    rw[adY,aZ hsz];omega
   have hx5:xs[i].cells.length=5:=hsz _ (adZ hltx);have e2:List.take (i*5) (au xs++rest)++ [.s s.cases[i].id,.s s.cases[i].owner,.s s.cases[i].state,f',l']++List.drop (i*5+5) (au xs++rest)=au (xs.set i (.agg [.s s.cases[i].id,.s s.cases[i].owner,.s s.cases[i].state,f',l']))++rest:=by
    refine(kg hsz i hltx 0 [.s s.cases[i].id,.s s.cases[i].owner,.s s.cases[i].state,f',l'] (adT rfl)).trans ?_;rw[Kc (by rw[hx5];rfl)]
   refine o1.idx (U:=U) (e:=133) i rfl hltx nQ ad9 ?_;simp only[go_sem,hid];rw[e2];have t4:id1≠i4:=fun e=>(v1.nid o1.nid).2.1 (by rw[e];exact h4)
   refine⟨ad4,.hm2 (by rw[ag _ _ t1.symm];exact p1') (by rw[ag _ _ t4.symm];exact p4'),?_⟩
   simp only[go_sem,r12,w1];have ho:∀b k,k≠id1→upd G5 id1 b k=G5 k:=fun b k hk=>ag _ _ hk
   have hs6:∀b,Ab.Sub h (upd G5 id1 b):=fun b=>((vs.trans sG).trans s5).put hg1 b
   refine⟨_,?_,i+1,xs.set i (.agg [.s s.cases[i].id,.s s.cases[i].owner,.s s.cases[i].state,f',l']),(ho _ _ t1.symm).trans p1',(ho _ _ t2.symm).trans (s5 _ _ (sG _ _ vz)),hs6 _,.inr ⟨id1,hg1,cap,rest,agr,ah ..,by rw[List.length_set];exact hr,agi,?_⟩,by rw[List.length_set];exact hn,fun j a b hj hj0=>?_,fun a b hj=>?_,fun j a b hj=>?_,ad4,rfl,?_,?_,?_,?_,?_⟩
   ·omega
   ·intro z hz
    exact ai1
   ·have a' :j<xs.length:=by rw[List.length_set]at a;exact a
    by_cases hji:j=i
    ·subst hji
     obtain⟨ef,el⟩:=hne hj0;rw[List.getElem_set_self,ef,el];rfl
    ·rw[List.getElem_set_ne (Ne.symm hji)]
     exact hlo j a' b ad4 hj0
   ·have a' :i0<xs.length:=by rw[List.length_set]at a;exact a
    by_cases hji:i=i0
    ·subst hji
     obtain⟨of,ol,hap⟩:=heq rfl;have kf:∀k,G4 k=none→upd G5 id1 (some (.obj (au (xs.set i (.agg [.s s.cases[i].id,.s s.cases[i].owner,.s s.cases[i].state,f',l']))++rest) 133)) k=G5 k:=fun k hk=>ag _ _ fun e=>t3 (by rw[←e];exact hk)
     rw[List.getElem_set_self];refine⟨f',l',rfl,(of.less (vs.trans sG)).keep fun k hk=>kf k (of.nid hk).1,(ol.less (vs.trans sG)).keep fun k hk=>kf k (ol.nid hk).1,hap,fun y hy=>?_⟩
     rw[List.mem_singleton.1 hy];have hz1:∀k,nid z1=some k→G4 k≠none:=(v1.sub sG).there fun k hk=>hk
     exact⟨(ew of hz1).symm,(ew ol hz1).symm⟩
    ·rw[List.getElem_set_ne hji]
     have hm:=hmy a' b ad4;refine fq.keep (h:=G5) ((hm.sub sG).sub s5) fun f l ex hap k hk=>?_
     refine ag _ _ fun e=>?_
     subst e;rcases hk with hk|hk
     ·exact(hap z1 (List.mem_singleton.2 rfl)).1 _ hk o1.nid
     ·exact(hap z1 (List.mem_singleton.2 rfl)).2 _ hk o1.nid
   ·have a' :j<xs.length:=by rw[List.length_set]at a;exact a
    rw[List.getElem_set_ne ad4];exact hhi j a' b ad4
   all_goals simp only[go_sem,r1,r2,r10,r11]
  ·have hge:i=s.cases.length:=by have:=adX e;omega
   simp only[go_sem];refine .stage (hm1 i1 (.obj [.i s.tick,z1,y2,y3,y4,.s pid,.b pset,.i palg,aW ptgt,.sl (prules.map aB) .no,.sl (pkids.map aK) .no,ay pobls,.i s.version] 51)) [0,1,3,4,6,7,2,9,5,8] [10,11,12,13,14] (.hm1 q1) ad7 ?_;simp only[go_sem,r1,gr];refine(vR y2 _ G (h2.sub vs) (by rw[adU];exact hf.reviews)).mono fun z2 G1 ⟨o2,s1⟩=>?_
   refine⟨.hm1 (s1 _ _ q1),?_⟩;simp only[go_sem,r1];refine(vQ y3 _ G1 ((h3.sub vs).sub s1) (by rw[adU];exact hf.notices)).mono fun z3 G2 ⟨o3,s2⟩=>?_
   refine⟨.hm1 (s2 _ _ (s1 _ _ q1)),?_⟩;simp only[go_sem];refine(I6 y4 _ G2 (((h4.sub vs).sub s1).sub s2) (by rw[adU];exact hf.roles)).mono fun z4 G3 ⟨o4,s3⟩=>?_
   have s03:Ab.Sub G G3:=s1.trans (s2.trans s3);have q1' :=s03 _ _ q1;have q2' :=s03 _ _ vz;refine⟨.hm1 q1',cV,(fun _ _ e=>aew),?_⟩
   simp only[go_sem,r1,q1',o2.rd.fit,o2.rd.cells,o3.rd.fit,o3.rd.cells,o4.rd.fit,o4.rd.cells];refine⟨fun _ _ e=>aew,fun _ _ e=>aew,fun _ _ e=>aew,?_⟩
   refine(show ai Tryz.prog 165 [_] _ _ from hpo _).pthen ?_
   have vz' :∀b,upd G3 i1 b i2=some (.obj [.i 0,.sl [] .full,.sl [] .full,.sl [] .full,.sl [] .full,.s [],.b false,.i 0,.sl [] .full,.sl [] .full,.sl [] .full,.sl [] .full,.i 0] 51):=fun b=>by rw[ag _ _ n21];exact q2'
   simp only[go_sem,r1,r2,vz'];have k1:∀ {tb:TypeId} {z:AV} {xs:List AV} {n:Nat} {g:Heap},OwE tb g G3 n z xs→Ab.Sub h g→(∀id,nid z=some id→id≠i1∧id≠i2)→∀a b,OwE tb h (upd (upd G3 i1 a) i2 b) n z xs:=fun w hg hn a b=>(w.less hg).keep fun id e=>by
    rw[ag _ _ (hn id e).2,ag _ _ (hn id e).1]
   have new:∀ {tb:TypeId} {z:AV} {xs:List AV} {n:Nat} {g:Heap},OwE tb g G3 n z xs→Ab.Sub G g→∀id,nid z=some id→id≠i1∧id≠i2:=fun w hg id e=>⟨cO (w.nid e).1 (hg _ _ q1),cO (w.nid e).1 (hg _ _ vz)⟩
   have n2' :=new (o2.sub (s2.trans s3)) (.refl _);have n3' :=new (o3.sub s3) s1;have n4' :=new o4 (s1.trans s2);have n1' :∀id,nid z1=some id→id≠i1∧id≠i2:=fun id e=>⟨hz1 id e,hz2 id e⟩
   have aG:∀k,nid z1=some k→G k≠none:=v1.there fun k hk=>hk
   refine .mk _ (.refl _) (.refl _) ⟨⟨z1,z2,z3,z4,by rw[hpp,hcC];rfl,⟨xs,k1 (v1.sub s03) (.refl _) n1' _ _,hn,fun j a b hj=>hlo j a b ad4 hj,fun a b=>?_⟩,k1 (o2.sub (s2.trans s3)) vs n2' _ _,k1 (o3.sub s3) (vs.trans s1) n3' _ _,k1 o4 (vs.trans (s1.trans s2)) n4' _ _,?_,?_,?_,?_,?_,?_⟩,((vs.trans s03).put h1 _).put n2 _⟩
   ·have hm:=(hmy a b ad4).sub s03
    obtain⟨f,l,ex,of,ol,hap,hy⟩:=hm;obtain⟨af,al⟩:=hy z1 (List.mem_singleton.2 rfl);have kf:∀k,nid f=some k→k≠i1∧k≠i2:=fun k hk=>⟨mg (of.nid hk).2.2 q1' ad9,mg (of.nid hk).2.2 q2' ad9⟩
    have kl:∀k,nid l=some k→k≠i1∧k≠i2:=fun k hk=>⟨mg (ol.nid hk).2.2 q1' ad9,mg (ol.nid hk).2.2 q2' ad9⟩
    obtain⟨f0,l0,ex0,of0,ol0,_⟩:=hmy a b ad4;obtain⟨rfl,rfl⟩:f0=f∧l0=l:=by
     rw[ex0]at ex;simp only[AV.agg.injEq,List.cons.injEq,true_and,and_true]at ex;exact ex
    have gf:∀k,nid f0=some k→G k≠none:=of0.there fun k hk=>hk
    have gl:∀k,nid l0=some k→G k≠none:=ol0.there fun k hk=>hk
    refine⟨f0,l0,ex,k1 of (.refl _) kf _ _,k1 ol (.refl _) kl _ _,hap,fun y hy=>?_⟩
    simp only[List.mem_cons,List.not_mem_nil,or_false]at hy;rcases hy with rfl|rfl|rfl|rfl
    ·exact⟨af,al⟩
    ·exact⟨ew o2 gf,ew o2 gl⟩
    ·exact⟨ew o3 fun k hk=>s1.some k (gf k hk),ew o3 fun k hk=>s1.some k (gl k hk)⟩
    ·exact⟨ew o4 fun k hk=>(s1.trans s2).some k (gf k hk),ew o4 fun k hk=>(s1.trans s2).some k (gl k hk)⟩
   ·exact ew o2 aG
   ·exact ew o3 fun k hk=>s1.some k (aG k hk)
   ·exact ew o4 fun k hk=>(s1.trans s2).some k (aG k hk)
   ·exact ew o3 (o2.there fun k hk=>hk)
   ·exact ew o4 ((o2.sub s2).there fun k hk=>hk)
   ·exact ew o4 (o3.there fun k hk=>hk)
end Go.Proofs.YtbbadggejjgihaaGreatDoor
namespace Go.Ab
open Go
theorem pG{A B C X:List AV}{k m:Nat}(hk:k=A.length)(hm:m=X.length)(h:X.length=B.length):(A++(B++C)).take k++X++(A++(B++C)).drop (k+m)=A++(X++C):=by
 grind
theorem HT{A B C X:List AV}{k1 k2 k3 k4:Nat}(h1:k1=A.length+X.length)(h2:k2=k1+B.length)(h3:k3=A.length)(h4:k4=k3+X.length)(hc:X.length≤C.length):
  List.take k3 (List.take k1 (A++(B++C))++B++List.drop k2 (A++(B++C)))++X++List.drop k4 (List.take k1 (A++(B++C))++B++List.drop k2 (A++(B++C)))=A++(X++(B++C.drop X.length)):=by
 subst h1;subst h2;subst h3;subst h4
 have e1:List.take (A.length+X.length) (A++(B++C))=A++List.take X.length (B++C):=ad5;have e2:List.drop (A.length+X.length+B.length) (A++(B++C))=C.drop X.length:=by
  grind [Nat.add_assoc,List.drop_drop,List.drop_left,Nat.add_comm]
 rw[e1,e2,List.append_assoc A];have e3:(List.take X.length (B++C)).length=X.length:=by rw[List.length_take,adY];omega
 have e4:A++(List.take X.length (B++C)++B++List.drop X.length C)=A++(List.take X.length (B++C)++(B++C.drop X.length)):=aec;rw[List.append_assoc A,e4];exact pG rfl rfl e3.symm
theorem HU{A Z R X B:List AV}{k1 k2 k3 k4:Nat}(h1:k1=A.length)(h2:k2=k1+X.length)(h3:k3=A.length+X.length)(h4:k4=k3+B.length)(hz:Z.length=X.length+B.length):
  List.take k3 (List.take k1 (A++Z++R)++X++List.drop k2 (A++Z++R))++B++List.drop k4 (List.take k1 (A++Z++R)++X++List.drop k2 (A++Z++R))=A++(X++(B++R)):=by
 subst h1;subst h2;subst h3;subst h4
 obtain⟨Z1,Z2,rfl,e1⟩:∃Z1 Z2,Z=Z1++Z2∧Z1.length=X.length:=⟨Z.take X.length,Z.drop X.length,(List.take_append_drop _ _).symm,ad5⟩;have e2:Z2.length=B.length:=ad5;have e3:A++(Z1++Z2)++R=A++(Z1++(Z2++R)):=aec;rw[e3,pG rfl rfl e1.symm,←List.append_assoc A X,pG aec rfl e2.symm,List.append_assoc]
end Go.Ab
namespace Go.Proofs.YtbbadggejjgihaaGreatDoor
open Go Go.Ab Go.Bf
theorem Ka{h:Heap}{v:AV}{id off len cap:Nat}{cs:List AV}{t:TypeId}(hv:v.cells.length=5)(hid:h id=some (.obj cs t))(hcs:cs≠ []):ai Tryz.prog 166 [.sl [v] .full,.ob id off len cap 5] h fun r h' =>r= .b false∧h' =h:=
 wG (U:=U) (tS:=40) (tR:=4) (e:=133) hU Tryz.func166 aek aek aek ad7 aek ad9 (by simp only[go_sem];omega) aec hid hcs
theorem F5(y:AV)(xs:List AV)(v:AV)(i:Nat)(h0 h:Heap)(hw:OwE 133 h0 h 5 y xs)(hs0:Ab.Sub h0 h)(hi:i≤xs.length)(hl:xs.length≤1000000)(hv:v.cells.length=5)(hva:fit v 5):
  ai Tryz.prog 117 [y,.i i,.sl [v] .full] h fun r h' =>OwE 133 h0 h' 5 r (xs.take i++([v]++xs.drop i))∧(∀k,h k≠none→nid y≠some k→h' k=h k)∧∀k,nid r=some k→h k=none∨nid y=some k:=by
 rcases hw with⟨rfl,rfl⟩|⟨id,hg,cap,rest,rfl,hid,hr,hc,hsz⟩
 ·obtain rfl:i=0:=by simpa using hi
  refine ad3 Tryz.func117 95 [.tmp 6] fun hwf=>?_
  simp only[go_sem];refine⟨ad4,ad4,hv,.ob aeg (kL.ow (xs:=[v]) af4 ahx rfl fun id y' h' hid hw ho=>?_)⟩
  have hw' :Ow 133 h' 5 id y' [v]:=ahb;simp only[go_sem];refine .same (.refl _) ⟨.inr ⟨id,hs0.none hid,hw'⟩,fun k hk _=>ho k (fun e=>hk (by rw[e];exact hid)),fun k hk=>?_⟩
  rw[show ax [y']=y' from rfl,hw'.nid]at hk
  cases hk;exact .inl hid
 ·have how:OwE 133 h0 h 5 (.ob id 0 xs.length cap 5) xs:=.inr ⟨id,hg,cap,rest,rfl,hid,hr,hc,hsz⟩
  have hfl:=aZ hsz;refine ad3 Tryz.func117 95 [.tmp 6] fun hwf=>?_
  simp only[go_sem];refine⟨ad4,ad4,?_⟩;cases d1:((i:Int)==(xs.length:Int))
  case true=>
   have hin:i=xs.length:=by
    have:(i:Int)=(xs.length:Int):=ag9;omega
   simp only[go_sem];subst hin;refine⟨ad4,?_⟩;refine OwE.app (U:=U) (tb:=133) how hs0 (.sl agY .full:Rd h 5 (.sl [v] .full) [v]) aeg ad9 aea aeg aec agy fun id2 y' h' g2 hor hw ho=>?_
   simp only[go_sem];have e1:xs.take xs.length++([v]++xs.drop xs.length)=xs++ [v]:=aec;refine .same (.refl _) ⟨by have:OwE 133 h0 h' 5 y' (xs++ [v]):=.inr ⟨id2,g2,hw⟩;rw[←e1]at this;exact this,fun k hk hk2=>ho k fun e=>?_,fun k hk=>?_⟩
   ·rcases hor with hor|⟨l,c,ey⟩
    ·exact hk ah3
    ·cases ey
     exact hk2 ahV
   ·exact ajs
  have hne:i<xs.length:=by
   have:¬(i:Int)=(xs.length:Int):=ag9;omega
  have wn:IntKind.i64.wrap ((xs.length:Int)+1)=((xs.length+1:Nat):Int):=aeD;have wi:=ad0 i ad4;have wm:IntKind.i64.wrap (((xs.length+1:Nat):Int) - (i:Int))=((xs.length+1 - i:Nat):Int):=aeD;have f1:au xs=au (xs.take i)++au (xs.drop i):=ahw;have f2:(au (xs.take i)).length=i*5:=by rw[aZ (sz:=5) fun z hz=>hsz z (List.mem_of_mem_take hz),List.length_take,Nat.min_eq_left hi]
  have f3:(au (xs.drop i)).length=(xs.length - i)*5:=by rw[aZ (sz:=5) fun z hz=>hsz z (List.mem_of_mem_drop hz),List.length_drop]
  have f4:au (xs.take i++([v]++xs.drop i))=au (xs.take i)++(v.cells++au (xs.drop i)):=ahx;have f5:Sized 5 (xs.take i++([v]++xs.drop i)):=fun z hz=>by
   exact ai2
  have f6:(xs.take i++([v]++xs.drop i)).length=xs.length+1:=aeO;have f6' :(xs.take i++v::xs.drop i).length=xs.length+1:=f6;cases d2:decide ((cap:Int)<((xs.length+1:Nat):Int))
  ·have e2:=adX d2
   simp only[go_sem,wn,d2];refine⟨ad4,?_⟩;simp -implicitDefEqProofs only[go_sem,wi];have hcs:au xs++rest≠ []:=by
    intro e;have:=congrArg List.length e;rw[adY,hfl]at this;simp at this;omega
   refine⟨ad4,ad4,ad4,ad4,ad4,ad4,?_⟩;refine(Ka hv hid hcs).pthen ?_;simp -implicitDefEqProofs only[go_sem];refine .calls cV [0,1,2,3,4,5,6,7,8] (fun _ _ e=>aew) ad7 rfl ?_
   simp only[go_sem,wi,hid,Nat.sub_zero];have hmin:min (xs.length+1 - i) (xs.length+1 - (i+1))=xs.length - i:=ad4;refine⟨ad4,ad4,ad4,ad4,ad4,ad4,xs.drop i,agQ,agG, ?q1,fun z hz=>hsz z (List.mem_of_mem_drop hz),afE,by rw[adY,hfl,hr];omega,ahR,ad4,ad4,ad4,hv,ad4, ?ln, ?fin⟩
   case q1=>rw[hmin,f1,List.append_assoc,←f2,List.drop_left,←f3,List.take_left]
   case ln=>simp only[adY,List.length_take,List.length_drop,hfl,hr,f3];omega
   have hrl:(5:Nat)≤rest.length:=by rw[hr];omega
   have hfv:au [v]=v.cells:=ahx;have key:=HT (A:=au (xs.take i)) (B:=au (xs.drop i)) (C:=rest) (X:=au [v]) (k1:=(i+1)*5) (k2:=(i+1)*5+(au (xs.drop i)).length) (k3:=i*5) (k4:=i*5+(au [v]).length) ahE rfl f2.symm rfl (by rw[hfv,hv];exact hrl)
   rw[←List.append_assoc (au (xs.take i)) (au (xs.drop i)) rest,←f1]at key;rw[key];have e8:au (xs.take i)++(au [v]++(au (xs.drop i)++rest.drop (au [v]).length))=au (xs.take i++([v]++xs.drop i))++rest.drop 5:=by rw[f4,hfv,hv];simp only[List.append_assoc]
   rw[e8];refine .same (.refl _) ⟨.inr ⟨id,hg,cap,rest.drop 5,by rw[←f6];rfl,ah _ _ _,by rw[List.length_drop,hr,f6'];omega,afJ,f5⟩,fun k hk hk2=>ag _ _ fun e=>hk2 ahV,fun k hk=> .inr hk⟩
  ·have e2:=adW d2
   simp only[go_sem,wn,d2,wm];refine⟨ad4,?_⟩;simp only[go_sem,hid];have eA:List.take (i*5) (au xs++rest)=au (xs.take i):=by rw[f1,List.append_assoc,←f2,List.take_left]
   refine⟨ad4,ad4,ad4,ad4,ad4,ad4,by rw[adY,hfl];omega,?_⟩
   rw[Nat.sub_zero,eA];obtain⟨Z,eZ⟩:∃Z,cP (AV.agg [AV.s [],AV.s [],AV.s [],AV.sl [] Perm.full,AV.sl [] Perm.full]) (xs.length+1 - i) 5=Z:=⟨_,rfl⟩;have lZ:Z.length=(xs.length+1 - i)*5:=by rw[←eZ];simp[cP]
   rw[eZ];intro id2 cap2 rest2 hid2 hc2 hr2;have hx:¬id=id2:=fun e=>by rw[e,hid2]at hid;cases hid
   simp only[go_sem];have hfv:au [v]=v.cells:=ahx;refine⟨ad4,ad4,ad4,hv,ad4,agk,?_⟩;refine .calls cV [0,1,2,3,4,5,6,7,8] (fun _ _ e=>aew) ad7 rfl ?_
   simp only[go_sem,wi,hid,hx,Nat.sub_zero];have hmin:min (xs.length - i) (i+(xs.length+1 - i) - (i+1))=xs.length - i:=ad4;have l0:(au (xs.take i)++Z++rest2).length=(i+(xs.length+1 - i))*5+(cap2 - (i+(xs.length+1 - i)))*5:=agk;refine⟨ad4,ad4,ad4,ad4,ad4,ad4,xs.drop i,agQ,agG, ?q2,fun z hz=>hsz z (List.mem_of_mem_drop hz),afE, ?lm,ahR, ?fim⟩
   case q2=>rw[hmin,f1,List.append_assoc,←f2,List.drop_left,←f3,List.take_left]
   case lm=>rw[hfv];simp only[adY,List.length_take,List.length_drop,l0,hv];omega
   rw[HU f2.symm rfl ahE rfl (by rw[hfv,hv,lZ,f3];omega)]
   have e8:au (xs.take i)++(au [v]++(au (xs.drop i)++rest2))=au (xs.take i++([v]++xs.drop i))++rest2:=by rw[f4,hfv];simp only[List.append_assoc]
   rw[e8];have e9:i+(xs.length+1 - i)=xs.length+1:=ad4;rw[e9]at hr2 hc2⊢;refine .same (.refl _) ⟨.inr ⟨id2,hs0.none hid2,cap2,rest2,by rw[←f6];rfl,ah _ _ _,by rw[hr2,f6'],by rw[f6'];omega,f5⟩,fun k hk hk2=>ag _ _ fun e=>hk (by rw[e];exact hid2),fun k hk=> .inl (by cases hk;exact hid2)⟩
theorem Gv{h:Heap}{v:AV}{id off len cap:Nat}{cs:List AV}{t:TypeId}(hv:v.cells.length=4)(hid:h id=some (.obj cs t))(hcs:cs≠ []):ai Tryz.prog 220 [.sl [v] .full,.ob id off len cap 4] h fun r h' =>r= .b false∧h' =h:=
 wG (U:=U) (tS:=130) (tR:=4) (e:=160) hU Tryz.func220 aek aek aek ad7 aek ad9 (by simp only[go_sem];omega) aec hid hcs
theorem DH(y:AV)(xs:List AV)(v:AV)(i:Nat)(h0 h:Heap)(hw:OwE 160 h0 h 4 y xs)(hs0:Ab.Sub h0 h)(hi:i≤xs.length)(hl:xs.length≤1000000)(hv:v.cells.length=4)(hva:fit v 4):
  ai Tryz.prog 169 [y,.i i,.sl [v] .full] h fun r h' =>OwE 160 h0 h' 4 r (xs.take i++([v]++xs.drop i))∧(∀k,h k≠none→nid y≠some k→h' k=h k)∧∀k,nid r=some k→h k=none∨nid y=some k:=by
 rcases hw with⟨rfl,rfl⟩|⟨id,hg,cap,rest,rfl,hid,hr,hc,hsz⟩
 ·obtain rfl:i=0:=by simpa using hi
  refine ad3 Tryz.func169 95 [.tmp 6] fun hwf=>?_
  simp only[go_sem];refine⟨ad4,ad4,hv,.ob aeg (kL.ow (xs:=[v]) af4 ahx rfl fun id y' h' hid hw ho=>?_)⟩
  have hw' :Ow 160 h' 4 id y' [v]:=ahb;simp only[go_sem];refine .same (.refl _) ⟨.inr ⟨id,hs0.none hid,hw'⟩,fun k hk _=>ho k (fun e=>hk (by rw[e];exact hid)),fun k hk=>?_⟩
  rw[show ax [y']=y' from rfl,hw'.nid]at hk
  cases hk;exact .inl hid
 ·have how:OwE 160 h0 h 4 (.ob id 0 xs.length cap 4) xs:=.inr ⟨id,hg,cap,rest,rfl,hid,hr,hc,hsz⟩
  have hfl:=aZ hsz;refine ad3 Tryz.func169 95 [.tmp 6] fun hwf=>?_
  simp only[go_sem];refine⟨ad4,ad4,?_⟩;cases d1:((i:Int)==(xs.length:Int))
  case true=>
   have hin:i=xs.length:=by
    have:(i:Int)=(xs.length:Int):=ag9;omega
   simp only[go_sem];subst hin;refine⟨ad4,?_⟩;refine OwE.app (U:=U) (tb:=160) how hs0 (.sl agY .full:Rd h 4 (.sl [v] .full) [v]) aeg ad9 aea aeg aec agy fun id2 y' h' g2 hor hw ho=>?_
   simp only[go_sem];have e1:xs.take xs.length++([v]++xs.drop xs.length)=xs++ [v]:=aec;refine .same (.refl _) ⟨by have:OwE 160 h0 h' 4 y' (xs++ [v]):=.inr ⟨id2,g2,hw⟩;rw[←e1]at this;exact this,fun k hk hk2=>ho k fun e=>?_,fun k hk=>?_⟩
   ·rcases hor with hor|⟨l,c,ey⟩
    ·exact hk ah3
    ·cases ey
     exact hk2 ahV
   ·exact ajs
  have hne:i<xs.length:=by
   have:¬(i:Int)=(xs.length:Int):=ag9;omega
  have wn:IntKind.i64.wrap ((xs.length:Int)+1)=((xs.length+1:Nat):Int):=aeD;have wi:=ad0 i ad4;have wm:IntKind.i64.wrap (((xs.length+1:Nat):Int) - (i:Int))=((xs.length+1 - i:Nat):Int):=aeD;have f1:au xs=au (xs.take i)++au (xs.drop i):=ahw;have f2:(au (xs.take i)).length=i*4:=by rw[aZ (sz:=4) fun z hz=>hsz z (List.mem_of_mem_take hz),List.length_take,Nat.min_eq_left hi]
  have f3:(au (xs.drop i)).length=(xs.length - i)*4:=by rw[aZ (sz:=4) fun z hz=>hsz z (List.mem_of_mem_drop hz),List.length_drop]
  have f4:au (xs.take i++([v]++xs.drop i))=au (xs.take i)++(v.cells++au (xs.drop i)):=ahx;have f5:Sized 4 (xs.take i++([v]++xs.drop i)):=fun z hz=>by
   exact ai2
  have f6:(xs.take i++([v]++xs.drop i)).length=xs.length+1:=aeO;have f6' :(xs.take i++v::xs.drop i).length=xs.length+1:=f6;cases d2:decide ((cap:Int)<((xs.length+1:Nat):Int))
  ·have e2:=adX d2
   simp only[go_sem,wn,d2];refine⟨ad4,?_⟩;simp only[go_sem,wi];have hcs:au xs++rest≠ []:=by
    intro e;have:=congrArg List.length e;rw[adY,hfl]at this;simp at this;omega
   refine⟨ad4,ad4,ad4,ad4,ad4,ad4,?_⟩;refine(Gv hv hid hcs).pthen ?_;simp -implicitDefEqProofs only[go_sem];refine .calls cV [0,1,2,3,4,5,6,7,8] (fun _ _ e=>aew) ad7 rfl ?_
   simp -implicitDefEqProofs only[go_sem,wi,hid,Nat.sub_zero];have hmin:min (xs.length+1 - i) (xs.length+1 - (i+1))=xs.length - i:=ad4;refine⟨ad4,ad4,ad4,ad4,ad4,ad4,xs.drop i,agQ,agG, ?q1,fun z hz=>hsz z (List.mem_of_mem_drop hz),afE,by rw[adY,hfl,hr];omega,ahR,ad4,ad4,ad4,hv,ad4, ?ln, ?fin⟩
   case q1=>rw[hmin,f1,List.append_assoc,←f2,List.drop_left,←f3,List.take_left]
   case ln=>simp only[adY,List.length_take,List.length_drop,hfl,hr,f3];omega
   have hrl:(4:Nat)≤rest.length:=by rw[hr];omega
   have hfv:au [v]=v.cells:=ahx;have key:=HT (A:=au (xs.take i)) (B:=au (xs.drop i)) (C:=rest) (X:=au [v]) (k1:=(i+1)*4) (k2:=(i+1)*4+(au (xs.drop i)).length) (k3:=i*4) (k4:=i*4+(au [v]).length) ahE rfl f2.symm rfl (by rw[hfv,hv];exact hrl)
   rw[←List.append_assoc (au (xs.take i)) (au (xs.drop i)) rest,←f1]at key;rw[key];have e8:au (xs.take i)++(au [v]++(au (xs.drop i)++rest.drop (au [v]).length))=au (xs.take i++([v]++xs.drop i))++rest.drop 4:=by rw[f4,hfv,hv];simp only[List.append_assoc]
   rw[e8];refine .same (.refl _) ⟨.inr ⟨id,hg,cap,rest.drop 4,by rw[←f6];rfl,ah _ _ _,by rw[List.length_drop,hr,f6'];omega,afJ,f5⟩,fun k hk hk2=>ag _ _ fun e=>hk2 ahV,fun k hk=> .inr hk⟩
  ·have e2:=adW d2
   simp only[go_sem,wn,d2,wm];refine⟨ad4,?_⟩;simp only[go_sem,hid];have eA:List.take (i*4) (au xs++rest)=au (xs.take i):=by rw[f1,List.append_assoc,←f2,List.take_left]
   refine⟨ad4,ad4,ad4,ad4,ad4,ad4,by rw[adY,hfl];omega,?_⟩
   rw[Nat.sub_zero,eA];obtain⟨Z,eZ⟩:∃Z,cP (AV.agg [AV.s [],AV.v (Value.int IntKind.i64 0),AV.v (Value.int IntKind.i64 0),AV.s []]) (xs.length+1 - i) 4=Z:=⟨_,rfl⟩;have lZ:Z.length=(xs.length+1 - i)*4:=by rw[←eZ];simp[cP]
   rw[eZ];intro id2 cap2 rest2 hid2 hc2 hr2;have hx:¬id=id2:=fun e=>by rw[e,hid2]at hid;cases hid
   simp only[go_sem];have hfv:au [v]=v.cells:=ahx;refine⟨ad4,ad4,ad4,hv,ad4,agk,?_⟩;refine .calls cV [0,1,2,3,4,5,6,7,8] (fun _ _ e=>aew) ad7 rfl ?_
   simp only[go_sem,wi,hid,hx,Nat.sub_zero];have hmin:min (xs.length - i) (i+(xs.length+1 - i) - (i+1))=xs.length - i:=ad4;have l0:(au (xs.take i)++Z++rest2).length=(i+(xs.length+1 - i))*4+(cap2 - (i+(xs.length+1 - i)))*4:=agk;refine⟨ad4,ad4,ad4,ad4,ad4,ad4,xs.drop i,agQ,agG, ?q2,fun z hz=>hsz z (List.mem_of_mem_drop hz),afE, ?lm,ahR, ?fim⟩
   case q2=>rw[hmin,f1,List.append_assoc,←f2,List.drop_left,←f3,List.take_left]
   case lm=>rw[hfv];simp only[adY,List.length_take,List.length_drop,l0,hv];omega
   rw[HU f2.symm rfl ahE rfl (by rw[hfv,hv,lZ,f3];omega)]
   have e8:au (xs.take i)++(au [v]++(au (xs.drop i)++rest2))=au (xs.take i++([v]++xs.drop i))++rest2:=by rw[f4,hfv];simp only[List.append_assoc]
   rw[e8];have e9:i+(xs.length+1 - i)=xs.length+1:=ad4;rw[e9]at hr2 hc2⊢;refine .same (.refl _) ⟨.inr ⟨id2,hs0.none hid2,cap2,rest2,by rw[←f6];rfl,ah _ _ _,by rw[hr2,f6'],by rw[f6'];omega,f5⟩,fun k hk hk2=>ag _ _ fun e=>hk (by rw[e];exact hid2),fun k hk=> .inl (by cases hk;exact hid2)⟩
end Go.Proofs.YtbbadggejjgihaaGreatDoor
namespace Go.Ab
open Go
noncomputable def pick (H:Heap) (l:List Nat):Heap:=fun j=>if j∈l then H j else none
theorem bE{H:Heap}{l:List Nat}{j:Nat}(hj:j∈l):pick H l j=H j:=if_pos hj
theorem iV{H h' :Heap}{l:List Nat}(hs:∀j∈l,h' j=H j):Sub (pick H l) h' :=fun j b hb=>by
 simp_all [bE,pick,if_neg]
theorem bS{H:Heap}{l:List Nat}:Sub (pick H l) H:=iV fun _ _=>rfl
end Go.Ab
namespace Go.Proofs.YtbbadggejjgihaaGreatDoor
open Go Go.Ab Go.Bf
def cj(c:aM)(f l:AV):List AV:=[.s c.id,.s c.owner,.s c.state,f,l]
theorem sB{h0 h:Heap}{s:an}(y1 y2 y3 y4:AV){k o:Nat}{A B:List AV}{t:TypeId}{c:aM}{f l:AV}(ho:o=A.length)(hk:h k=some (.obj (A++(cj c f l++B)) t))(ht:t≠163)
  (hlo:OwE 163 h0 h 3 l (c.log.map gq)) (hs0:Ab.Sub h0 h) (hll:c.log.length≤1000000) (actor what:Txt):
  ai Tryz.prog 116 [.agg ([.i s.tick,y1,y2,y3,y4]++fZ s.policy++ [.i s.version]),.ptr k o,.s actor,.s what] h fun r h' =>∃l',OwE 163 h0 h' 3 l' ((c.log++ [(⟨s.tick,actor,what⟩:wY)]).map gq)∧h' k=some (.obj (A++(cj c f l' ++B)) t)∧(∀j,h j≠none→j≠k→nid l≠some j→h' j=h j)∧∀j,nid l' =some j→h j=none∨nid l=some j:=by
 cases hpp:s.policy with
 |mk pid pset palg ptgt prules pkids pobls=>
 have hcC:fZ (.mk pid pset palg ptgt prules pkids pobls)= [.s pid,.b pset,.i palg,aW ptgt,.sl (prules.map aB) .no,.sl (pkids.map aK) .no,ay pobls]:=ahd;refine ad3 Tryz.func116 22 [] fun hwf=>?_
 simp only[go_sem,hcC,List.cons_append,List.nil_append];intro i1 h1;simp only[go_sem];obtain⟨H,eH⟩:∃H,upd h i1 (some (.obj [.i s.tick,y1,y2,y3,y4,.s pid,.b pset,.i palg,aW ptgt,.sl (prules.map aB) .no,.sl (pkids.map aK) .no,ay pobls,.i s.version] 51))=H:=⟨_,rfl⟩;have n1k:k≠i1:=fun e=>by rw[e,h1]at hk;cases hk
 have g1:H i1=some (.obj [.i s.tick,y1,y2,y3,y4,.s pid,.b pset,.i palg,aW ptgt,.sl (prules.map aB) .no,.sl (pkids.map aK) .no,ay pobls,.i s.version] 51):=afz;have gk:H k=some (.obj (A++(cj c f l++B)) t):=by rw[←eH,ag _ _ n1k];exact hk
 have hH:Ab.Sub h H:=by rw[←eH];exact(Sub.refl h).put h1 _
 have hoj:∀j,j≠i1→H j=h j:=fun j hj=>by rw[←eH];exact ag _ _ hj
 rw[eH];clear eH;refine .stage (hm2 k (.obj (A++(cj c f l++B)) t) i1 (.obj [.i s.tick,y1,y2,y3,y4,.s pid,.b pset,.i palg,aW ptgt,.sl (prules.map aB) .no,.sl (pkids.map aK) .no,ay pobls,.i s.version] 51)) [0,1,2,3,4,5,6,7,8,9,10,11,12,13] [14] (.hm2 gk g1) ad7 ?_;have hc4:(A++(cj c f l++B))[o+4]? =some l:=afX;obtain⟨CS,eCS⟩:∃CS,A++(cj c f l++B)=CS:=⟨_,rfl⟩;rw[eCS]at hc4 gk⊢;simp only[go_sem,rI,rH _ _ n1k,hc4];have hap1:Rd H 3 (.sl [gq ⟨s.tick,actor,what⟩] .full) [gq ⟨s.tick,actor,what⟩]:=.sl aeP .full;refine OwE.app (U:=U) (tb:=163) (hlo.sub hH) (hs0.trans hH) hap1 aeg ad9 aea aeg aec aeH fun id2 y' h' g2 hor hw ho2=>?_
 have hor' :H id2=none∨nid l=some id2:=by
  exact aiU
 have k2:k≠id2:=by
  rcases hor' with hor|hor
  ·exact fun e=>by rw[←e,gk]at hor;cases hor
  ·exact(mg ((hlo.sub hH).nid hor).2.2 gk ht).symm
 have i2:i1≠id2:=by
  rcases hor' with hor|hor
  ·exact fun e=>by rw[←e,g1]at hor;cases hor
  ·exact fun e=>(hlo.nid hor).2.1 (by rw[←e];exact h1)
 have gk' :=(ho2 k k2).trans gk;have gi' :=(ho2 i1 i2).trans g1;refine⟨.hm2 gk' gi',?_⟩;simp only[go_sem];refine⟨cV,(fun _ _ e=>aew),?_⟩
 simp only[go_sem,gk',hw.rd.fit,hw.rd.cells];have lCS:CS.length=A.length+(5+B.length):=by rw[←eCS];simp[cj];omega
 have e5:List.take (o+4) CS++ [y']++List.drop (o+4+1) CS=A++(cj c f y' ++B):=by
  have:=pG (A:=A++ [.s c.id,.s c.owner,.s c.state,f]) (B:=[l]) (C:=B) (X:=[y']) (k:=o+4) (m:=1) (by rw[ho];simp) rfl rfl
  exact ajP
 rw[e5];refine⟨ad4,(fun _ _ e=>aew),.same (.refl _) ⟨y',?_,ah ..,fun j hj hjk hjl=>?_,fun j hj=>?_⟩⟩
 ·have hw' :Ow 163 (upd h' k (some (.obj (A++(cj c f y' ++B)) t))) 3 id2 y' (c.log.map gq++ [gq ⟨s.tick,actor,what⟩]):=hw.same (ag _ _ k2.symm)
  rw[List.map_append];exact .inr ⟨id2,g2,hw'⟩
 ·have hj2:j≠id2:=by
   rcases hor' with hor|hor
   ·intro e
    have:=hoj j (fun e' =>hj (by rw[e'];exact h1))
    rw[e,hor]at this;exact hj (by rw[e];exact this.symm)
   ·exact fun e=>hjl ah3
  have hj1:j≠i1:=fun e=>hj (by rw[e];exact h1)
  rw[ag _ _ hjk,ho2 j hj2,hoj j hj1]
 ·have:id2=j:=by have:=hw.nid;rw[hj]at this;exact(Option.some.inj this).symm
  rw[←this];rcases hor' with hor|hor
  ·refine .inl ?_
   cases hh:h id2 with
   |none=>rfl
   |some b=>rw[hH _ _ hh]at hor;cases hor
  ·exact .inr hor
theorem KX{h:Heap}(f:cN){k:Nat}{name:Txt}(hk:h k=some (.obj [.s name] 9)):ai Tryz.prog 168 [bB f,.ptr k 0] h fun r h' =>r= .b (geB f.name name)∧h' =h:=by
 refine ad3 Tryz.func168 8 [.tmp 3] fun hwf=>?_
 simp only[go_sem,bB];exact aiB
theorem Hj{fs:List cN}{name:Txt}{v:bu}(hx:¬fs.findIdx (fun f=>geB f.name name)<fs.length):eD fs name v=fs++ [⟨name,v⟩]:=by
 grind [eD,List.getElem?_eq_none,geB]
theorem zP{fs:List cN}{name:Txt}{v:bu}(hx:fs.findIdx (fun f=>geB f.name name)<fs.length)(he:fs[fs.findIdx (fun f=>geB f.name name)].name=name):eD fs name v=fs.set (fs.findIdx (fun f=>geB f.name name)) ⟨name,v⟩:=by
 simp_all [eD,List.getElem?_eq_getElem,if_true]
theorem Hl{fs:List cN}{name:Txt}{v:bu}(hx:fs.findIdx (fun f=>geB f.name name)<fs.length)(he:fs[fs.findIdx (fun f=>geB f.name name)].name≠name):eD fs name v=fs.take (fs.findIdx (fun f=>geB f.name name))++ [⟨name,v⟩]++fs.drop (fs.findIdx (fun f=>geB f.name name)):=by
 simp_all [eD,List.getElem?_eq_getElem,if_false]
theorem N3{h0 h:Heap}{k o:Nat}{A B:List AV}{t:TypeId}{c:aM}{f l:AV}(ho:o=A.length)(hk:h k=some (.obj (A++(cj c f l++B)) t))(ht:t≠160)
  (hfo:OwE 160 h0 h 4 f (c.fields.map bB)) (hs0:Ab.Sub h0 h) (hff:c.fields.length≤1000000) (name:Txt) (v:bu):
  ai Tryz.prog 118 [.ptr k o,.s name,aS v] h fun r h' =>∃f',OwE 160 h0 h' 4 f' ((eD c.fields name v).map bB)∧h' k=some (.obj (A++(cj c f' l++B)) t)∧(∀j,h j≠none→j≠k→nid f≠some j→h' j=h j)∧∀j,nid f' =some j→h j=none∨nid f=some j:=by
 have hc3:(A++(cj c f l++B))[o+3]? =some f:=afX;have lCS:(A++(cj c f l++B)).length=A.length+(5+B.length):=by simp[cj];omega
 have e5:∀y',List.take (o+3) (A++(cj c f l++B))++ [y']++List.drop (o+3+1) (A++(cj c f l++B))=A++(cj c y' l++B):=fun y' =>by
  have:=pG (A:=A++ [.s c.id,.s c.owner,.s c.state]) (B:=[f]) (C:=l::B) (X:=[y']) (k:=o+3) (m:=1) (by rw[ho];simp) rfl rfl
  exact aj0
 obtain⟨CS,eCS⟩:∃CS,A++(cj c f l++B)=CS:=⟨_,rfl⟩;rw[eCS]at hc3 hk lCS e5;refine ad3 Tryz.func118 60 [] fun hwf=>?_
 simp only[go_sem,aS];intro i1 h1;simp only[go_sem];intro i2 h2;have n21:=aH h2;have n2:=aC h2;have nk1:k≠i1:=fun e=>by rw[e,h1]at hk;cases hk
 have nk2:k≠i2:=fun e=>by rw[e,n2]at hk;cases hk
 obtain⟨H,eH⟩:∃H,upd (upd h i1 (some (.obj [.s name] 9))) i2 (some (.obj [.i v.kind,.i v.n,.s v.s] 32))=H:=⟨_,rfl⟩;have g1:H i1=some (.obj [.s name] 9):=afH;have g2:H i2=some (.obj [.i v.kind,.i v.n,.s v.s] 32):=afz;have gk:H k=some (.obj CS t):=by rw[←eH,ag _ _ nk2,ag _ _ nk1];exact hk
 have hH:Ab.Sub h H:=ae6;have hoj:∀j,h j≠none→H j=h j:=fun j hj=>by rw[←eH,ag _ _ (fun e=>hj (by rw[e];exact n2)),ag _ _ (fun e=>hj (by rw[e];exact h1))]
 rw[eH];clear eH;simp only[go_sem,gk,hc3];refine(yG f _ c.fields (fun f=>geB f.name name) _ [.ptr i1 0] _ (hfo.sub hH).rd aec aeO (oX (fun _=>rfl) _) fun i a b=>by
  rw[adV];exact KX _ g1).pthen ?_
 have hns:∀G,Ab.Sub cV G:=fun G _ _ e=>aew
 by_cases hx:c.fields.findIdx (fun f=>geB f.name name)<c.fields.length
 ·obtain⟨i,ei⟩:∃i,c.fields.findIdx (fun f=>geB f.name name)=i:=⟨_,rfl⟩
  have hxm:i<(c.fields.map bB).length:=by rw[←ei];simpa using hx
  have e1:ixD (fun f=>geB f.name name) c.fields=(i:Nat):=by rw[ixD,ei];exact if_pos (by rw[←ei];exact hx)
  have d1:decide (((i:Nat):Int)<0)=false:=decide_eq_false ad4;rw[e1];simp only[go_sem,d1];refine⟨.of ad7,?_⟩;simp only[go_sem,gk,hc3];refine(hfo.sub hH).rd.idx (e:=160) i rfl hxm GZ ad9 fun p hp1=>?_
  simp only[go_sem];refine hp1.field (f:=0) (off:=0) (t:=9) rfl KN fun p2 hp2=>?_
  have hld:=hp2.part (U:=U) (ty:=9) KN (by rw[adV,NS];exact adT rfl)
  simp only[go_sem,hld,adV,bB,g1];have hxi:i<c.fields.length:=by rw[←ei];exact hx
  cases d2:(c.fields[i].name==name)
  ·have hne:c.fields[i].name≠name:=by simpa using d2
   simp only[go_sem];refine .stage (pick H [k,i1,i2]) [0,1,2,3,4,5,6,7,8,9,10,11,12] [13] bS ad7 ?_;simp only[go_sem,bE (show k∈ [k,i1,i2] by simp),bE (show i1∈ [k,i1,i2] by simp),bE (show i2∈ [k,i1,i2] by simp),gk,g1,g2,hc3]
   refine(DH f _ (bB ⟨name,v⟩) i h0 H (hfo.sub hH) (hs0.trans hH) ad4 (by simpa using hff) rfl (by simp[bB,Ab.fit])).mono fun f' H1 ⟨w1,fr,ap⟩=>?_
   have nk:nid f≠some k:=fun e=>mg ((hfo.sub hH).nid e).2.2 gk ht rfl
   have n1' :nid f≠some i1:=fun e=>(hfo.nid e).2.1 h1
   have n2' :nid f≠some i2:=fun e=>(hfo.nid e).2.1 n2
   have gk' :H1 k=some (.obj CS t):=(fr k (by rw[gk];simp) nk).trans gk
   refine⟨iV fun j hj=>?_,?_⟩
   ·simp only[List.mem_cons,List.not_mem_nil,or_false]at hj
    rcases hj with rfl|rfl|rfl
    ·exact fr _ (by rw[gk];simp) nk
    ·exact fr _ (by rw[g1];simp) n1'
    ·exact fr _ (by rw[g2];simp) n2'
   simp only[go_sem];refine⟨cV,hns _,?_⟩;simp only[go_sem,gk',w1.rd.fit,w1.rd.cells];have hk2:nid f'≠some k:=fun e=>by
    rcases ap k e with h|h
    ·rw[gk]at h;cases h
    ·exact nk h
   have em:List.take i (c.fields.map bB)++([bB ⟨name,v⟩]++List.drop i (c.fields.map bB))=(eD c.fields name v).map bB:=by
    rw[Hl hx (by simp only[ei];exact hne),ei]
    simp[List.map_append,List.map_take,List.map_drop]
   rw[e5];rw[em]at w1;refine⟨ad4,hns _,.same (.refl _) ⟨f',w1.keep fun id e=>ag _ _ fun e' =>hk2 (by rw[←e'];exact e),ah ..,fun j hj hjk hjl=>?_,fun j hj=>?_⟩⟩
   ·rw[ag _ _ hjk,fr j (by rw[hoj j hj];exact hj) hjl,hoj j hj]
   ·rcases ap j hj with h|h
    ·exact .inl (hH.none h)
    ·exact .inr h
  ·have heq:c.fields[i].name=name:=by simpa using d2
   simp only[go_sem];refine⟨.of ad7,?_⟩;simp only[go_sem,gk,g2,hc3];obtain⟨id1,hg1,o1⟩:=(hfo.sub hH).ow (by intro e;rw[e]at hxm;cases hxm)
   have t1:id1≠k:=mg o1 gk ht;have o1' :=o1;obtain⟨cap,rest,ey,hid,hr,hcap,hsz⟩:=o1';refine o1.idx (U:=U) (e:=160) i rfl hxm GZ ad9 ?_;simp only[go_sem,hid];have hxl:=adV (f:=bB) (l:=c.fields) (i:=i) (h:=hxm);have e2:List.take (i*4+1) (au (c.fields.map bB)++rest)++ [.i v.kind,.i v.n,.s v.s]++List.drop (i*4+1+3) (au (c.fields.map bB)++rest)=au ((eD c.fields name v).map bB)++rest:=by
    refine(kg hsz i hxm 1 [.i v.kind,.i v.n,.s v.s] (adT rfl)).trans ?_;rw[zP hx (by simp only[ei];exact heq),ei,List.map_set,hxl]
    have:AV.agg (over (bB c.fields[i]).cells 1 [.i v.kind,.i v.n,.s v.s])=bB ⟨name,v⟩:=by rw[←heq];rfl
    rw[this]
   have lw:(eD c.fields name v).length=c.fields.length:=by rw[zP hx (by simp only[ei];exact heq),List.length_set]
   rw[e2];refine⟨by rw[adY,aZ hsz];omega,.same (.refl _) ⟨f,.inr ⟨id1,hg1,cap,rest,by rw[ey];simp[lw],ah ..,by rw[hr];simp[lw],by rw[adU]at hcap⊢;omega,bx (f:=bB) (n:=4) (fun _=>rfl) _⟩,(ag _ _ t1.symm).trans (by rw[eCS];exact gk),fun j hj hjk hjl=>?_,fun j hj=> .inr hj⟩⟩
   have:j≠id1:=fun e=>hjl (by rw[e];exact o1.nid)
   rw[ag _ _ this,hoj j hj]
 ·have e1:ixD (fun f=>geB f.name name) c.fields= -1:=by rw[ixD];exact if_neg hx
  have d1:decide ((-1:Int)<0)=true:=rfl;rw[e1];simp only[go_sem,d1];refine .stage (pick H [k,i1,i2]) [0,1,2,3,4,5,6,7,8,9,10,11] [12] bS ad7 ?_;simp only[go_sem,bE (show k∈ [k,i1,i2] by simp),bE (show i1∈ [k,i1,i2] by simp),bE (show i2∈ [k,i1,i2] by simp),gk,g1,g2,hc3]
  have hap1:Rd H 4 (.sl [bB ⟨name,v⟩] .full) [bB ⟨name,v⟩]:=.sl aeP .full;refine OwE.app (U:=U) (tb:=160) (hfo.sub hH) (hs0.trans hH) hap1 aeg ad9 aea aeg aec aeH fun id2 y' h' g3 hor hw ho2=>?_
  have hor' :H id2=none∨nid f=some id2:=by
   exact aiU
  have k2:k≠id2:=by
   rcases hor' with hor|hor
   ·exact fun e=>by rw[←e,gk]at hor;cases hor
   ·exact(mg ((hfo.sub hH).nid hor).2.2 gk ht).symm
  have j1:i1≠id2:=by
   rcases hor' with hor|hor
   ·exact fun e=>by rw[←e,g1]at hor;cases hor
   ·exact fun e=>(hfo.nid hor).2.1 (by rw[←e];exact h1)
  have j2:i2≠id2:=by
   rcases hor' with hor|hor
   ·exact fun e=>by rw[←e,g2]at hor;cases hor
   ·exact fun e=>(hfo.nid hor).2.1 (by rw[←e];exact n2)
  refine⟨iV fun j hj=>ho2 j ?_,?_⟩
  ·simp only[List.mem_cons,List.not_mem_nil,or_false]at hj
   rcases hj with rfl|rfl|rfl
   ·exact k2
   ·exact j1
   ·exact j2
  have gk' :=(ho2 k k2).trans gk;simp only[go_sem];refine⟨cV,hns _,?_⟩;simp only[go_sem,gk',hw.rd.fit,hw.rd.cells];rw[e5,Hj hx];refine⟨ad4,hns _,.same (.refl _) ⟨y',?_,ah ..,fun j hj hjk hjl=>?_,fun j hj=>?_⟩⟩
  ·have hw' :Ow 160 (upd h' k (some (.obj (A++(cj c y' l++B)) t))) 4 id2 y' (c.fields.map bB++ [bB ⟨name,v⟩]):=hw.same (ag _ _ k2.symm)
   rw[List.map_append];exact .inr ⟨id2,g3,hw'⟩
  ·have hj2:j≠id2:=by
    rcases hor' with hor|hor
    ·intro e
     have:=hoj j hj;rw[e,hor]at this;exact hj (by rw[e];exact this.symm)
    ·exact fun e=>hjl ah3
   rw[ag _ _ hjk,ho2 j hj2,hoj j hj]
  ·have:id2=j:=by have:=hw.nid;rw[hj]at this;exact(Option.some.inj this).symm
   rw[←this];rcases hor' with hor|hor
   ·exact .inl (hH.none hor)
   ·exact .inr hor
theorem C0{cs:List aM}{id:Txt}(h:cc cs id=true):bw cs id=cs[findD cs id]'(jK h):=by
 simp_all [bw,if_pos,List.getD_eq_getElem?_getD,List.getElem?_eq_getElem,jK]
theorem C1{cs:List aM}{id:Txt}(h:cc cs id=false):bw cs id=oS:=by
 simp_all [bw,if_neg]
theorem mF{g h:Heap}{p:Perm}:Frz g h (.sl [] p) (.sl [] .no):=.sl _ _ _ rfl ad4 aec
theorem Du{g h:Heap}(c:aM):Frz g h (bT c) (bT c):=.agg _ _ rfl fun j a b=>by
 rcases j with _|_|_|_|_|j
 ·exact aep
 ·exact aep
 ·exact aep
 ·exact .pure (show cM (gF c.fields)=true from bn (fun _=>rfl) c.fields)
 ·exact .pure (show cM (sH c.log)=true from bn (fun _=>rfl) c.log)
 ·simp[mO]at a;omega
theorem B0{h:Heap}{x:AV}{s:an}(hb:RdS h x s)(id:Txt)(hf:Few s):ai Tryz.prog 58 [x,.s id] h fun r h' =>r= .tup [bT (bw s.cases id),.b (cc s.cases id)]∧h' =h:=
 ai.freeze fun g hg _=>by
 replace hb:=hb.sub hg;have hb0:=hb;obtain⟨y1,y2,y3,y4,rfl,⟨xs,hc,hn,hcs⟩,h2,h3,h4⟩:=hb;cases hpp:s.policy with
 |mk pid pset palg ptgt prules pkids pobls=>
 have hcC:fZ (.mk pid pset palg ptgt prules pkids pobls)= [.s pid,.b pset,.i palg,aW ptgt,.sl (prules.map aB) .no,.sl (pkids.map aK) .no,ay pobls]:=ahd;rw[hpp,hcC]at hb0;refine ad3 Tryz.func58 23 [.cell 4 133,.tmp 5] fun hwf=>?_
 simp only[go_sem,hcC,List.cons_append,List.nil_append];intro i1 h1;simp only[go_sem];intro i2 h2';have n21:=aH h2';have n2:=aC h2';simp only[go_sem,ak,n21.symm];have hs:∀a b,Ab.Sub g (upd (upd g i1 a) i2 b):=fun a b=>((Sub.refl g).put h1 a).put n2 b
 refine(B7 (hb0.sub (hs _ _)) id hf.cases).pthen ?_;cases d1:cc s.cases id
 ·simp only[go_sem]
  refine .mk _ (.refl _) (.refl _) ⟨hs _ _,.tup [.agg [.s [],.s [],.s [],.sl [] .no,.sl [] .no],.b false],.tup _ _ rfl fun i a b=>?_,by rw[C1 d1];rfl⟩
  rcases i with _|_|i
  ·refine .agg _ _ rfl fun j c d=>?_
   rcases j with _|_|_|_|_|j
   ·exact aep
   ·exact aep
   ·exact aep
   ·exact mF
   ·exact mF
   grind
  ·exact aep
  grind
 ·have hlt:=jK d1
  have hltx:findD s.cases id<xs.length:=ad4;obtain⟨f,l,ex,hfl,hlg⟩:=hcs _ hltx hlt;simp only[go_sem,ak,n21.symm];refine hc.idx (e:=133) (findD s.cases id) rfl hltx nQ ad9 fun p hp1=>?_
  have hld:=fun a b=>(hp1.sub (hs a b)).all (U:=U) (ty:=133) ad9 (by rw[nQ,ex];rfl) (by simp only[go_sem];rw[ex];rfl)
  simp only[go_sem,hld];refine(wH ((hcs _ hltx hlt).sub (hs _ _)) (hf.fields _ (adZ hlt)) (hf.log _ (adZ hlt))).pthen ?_;rw[←C0 d1];simp only[go_sem,bT,mO,gF,sH];refine .mk _ (.refl _) (.refl _) ⟨hs _ _,_,.tup _ _ rfl fun i a b=>?_,rfl⟩
  rcases i with _|_|i
  ·exact Du _
  ·exact aep
  grind
theorem Cw{h:Heap}{x:AV}{s:an}(hb:RdS h x s)(o:OpD)(hf:Few s):ai Tryz.prog 102 [x,opA o] h fun r h' =>r= .i (bW s o)∧h' =h:=by
 have hb0:=hb;obtain⟨y1,y2,y3,y4,rfl,⟨xs,hc,hn,hcs⟩,h2,h3,h4⟩:=hb;cases hpp:s.policy with
 |mk pid pset palg ptgt prules pkids pobls=>
 have hcC:fZ (.mk pid pset palg ptgt prules pkids pobls)= [.s pid,.b pset,.i palg,aW ptgt,.sl (prules.map aB) .no,.sl (pkids.map aK) .no,ay pobls]:=ahd;rw[hpp,hcC]at hb0;refine ad3 Tryz.func102 67 [.tmp 4] fun hwf=>?_
 simp -implicitDefEqProofs only[go_sem,hcC,opA,opC,List.cons_append,List.nil_append];intro i1 h1;simp -implicitDefEqProofs only[go_sem];intro i2 h2';have n21:=aH h2';have n2:=aC h2';simp -implicitDefEqProofs only[go_sem,ak,n21.symm];have hs:∀a b,Ab.Sub h (upd (upd h i1 a) i2 b):=fun a b=>((Sub.refl h).put h1 a).put n2 b
 refine(B0 (hb0.sub (hs _ _)) o.case hf).pthen ?_;simp -implicitDefEqProofs only[go_sem,bT,mO,gF,sH];intro i3 h3';have n32:=aH h3';have h3b:=aC h3';have n31:=aH h3b;have n3:=aC h3b;have hs3:∀a b d,Ab.Sub h (upd (upd (upd h i1 a) i2 b) i3 d):=fun a b d=>(((Sub.refl h).put h1 a).put n2 b).put n3 d
 have hA:=(fun a b d=>Sub.trans (Sub.refl h) (hs3 a b d))
 simp -implicitDefEqProofs only[go_sem,ak,n32.symm];have hfl:(bw s.cases o.case).fields.length≤1000000000:=by
  unfold bw;split
  ·rename_i ht
   have hlt:=jK ht;rw[List.getD_eq_getElem?_getD,List.getElem?_eq_getElem hlt];exact Nat.le_trans (hf.fields _ (adZ hlt)) ad9
  decide
 cases d1:cc s.cases o.case
 ·simp -implicitDefEqProofs only[go_sem]
  exact .mk _ (.refl _) (hs3 _ _ _) ⟨by simp only[bW,d1];rfl,rfl⟩
 ·simp -implicitDefEqProofs only[go_sem,ak,n32.symm]
  cases k3:(o.kind==3)
  ·have p3:o.kind≠3:=by grind
   simp -implicitDefEqProofs only[go_sem];cases k2:(o.kind==2)
   ·have p2:o.kind≠2:=by grind
    have k2n:(o.kind !=2)=true:=ad5;cases d256:decide ((256:Int)≤((bw s.cases o.case).log.length:Int))
    ·have p256:¬256≤(bw s.cases o.case).log.length:=by grind
     simp -implicitDefEqProofs only[go_sem,ak,n32.symm,adU,k3,k2n,d256];cases k4:(o.kind==4)
     ·have p4:o.kind≠4:=by grind
      exact aix
     ·have p4:o.kind=4:=by grind
      simp -implicitDefEqProofs only[go_sem,ak,n32.symm];refine(FT _ _ _).pthen ?_;cases dfo:mR (bw s.cases o.case).state o.to
      ·exact aix
      ·exact aix
    ·have p256:256≤(bw s.cases o.case).log.length:=by grind
     simp -implicitDefEqProofs only[go_sem,adU,k2n,d256];exact .mk _ (.refl _) (hs3 _ _ _) ⟨afN,rfl⟩
   ·have p2:o.kind=2:=by grind
    have k2n:(o.kind !=2)=false:=ad5;simp -implicitDefEqProofs only[go_sem,ak,n32.symm,k3,k2n];cases k4:(o.kind==4)
    ·have p4:o.kind≠4:=by omega
     exact aix
    ·have p4:o.kind=4:=by grind
     omega
  ·have p3:o.kind=3:=by grind
   cases d16:decide ((16:Int)≤((bw s.cases o.case).fields.length:Int))
   ·have p16:¬16≤(bw s.cases o.case).fields.length:=by grind
    simp -implicitDefEqProofs only[go_sem,adU,d16];exact aip
   ·have p16:16≤(bw s.cases o.case).fields.length:=by grind
    simp -implicitDefEqProofs only[go_sem,ak,n32.symm,adU,d16];refine(Dm (show RdC _ (.agg [.s (bw s.cases o.case).id,.s (bw s.cases o.case).owner,.s (bw s.cases o.case).state,AV.sl ((bw s.cases o.case).fields.map bB) .no,AV.sl ((bw s.cases o.case).log.map gq) .no]) (bw s.cases o.case)from rdC _ _) o.field hfl).pthen ?_
    simp -implicitDefEqProofs only[go_sem,aS];cases dv:((dQ (bw s.cases o.case).fields o.field).kind==(0:Int) && ((dQ (bw s.cases o.case).fields o.field).n==(0:Int) && (dQ (bw s.cases o.case).fields o.field).s==([]:Txt)))
    ·have pv:eqV (dQ (bw s.cases o.case).fields o.field) aq=false:=dv
     simp -implicitDefEqProofs only[go_sem];exact aip
    ·have pv:eqV (dQ (bw s.cases o.case).fields o.field) aq=true:=dv
     exact aix
theorem Ak{h:Heap}{x:AV}{s:an}(hb:RdS h x s)(o:OpD)(hf:Few s)(h0:0<o.review)(hr:o.review≤9223372036854775807):ai Tryz.prog 103 [x,opA o] h fun r h' =>r= .i (fl s o)∧h' =h:=by
 obtain⟨y1,y2,y3,y4,rfl,⟨xs,hc,hn,hcs⟩,h2,h3,h4⟩:=hb;cases hpp:s.policy with
 |mk pid pset palg ptgt prules pkids pobls=>
 have hcC:fZ (.mk pid pset palg ptgt prules pkids pobls)= [.s pid,.b pset,.i palg,aW ptgt,.sl (prules.map aB) .no,.sl (pkids.map aK) .no,ay pobls]:=ahd;have hfr:=hf.reviews;refine ad3 Tryz.func103 35 [.tmp 4] fun hwf=>?_
 simp only[go_sem,hcC,opA,opC,List.cons_append,List.nil_append];intro i1 h1;simp only[go_sem];intro i2 h2';have n21:=aH h2';have n2:=aC h2';have hs:∀a b,Ab.Sub h (upd (upd h i1 a) i2 b):=fun a b=>((Sub.refl h).put h1 a).put n2 b
 simp only[go_sem,ak,n21.symm,h2.len,adU];obtain⟨n,en⟩:∃n:Nat,o.review=((n:Nat):Int)+1:=⟨(o.review - 1).toNat,ad4⟩;have e1:wJ s.reviews o.review=s.reviews[n]? :=by
  unfold wJ;rw[if_pos ad4,show(o.review - 1).toNat=n by omega]
 have w1:IntKind.i64.wrap (o.review - 1)=((n:Nat):Int):=aej;cases dlt:decide ((s.reviews.length:Int)<o.review)
 ·have hlt:n<s.reviews.length:=by grind
  have hgl:wJ s.reviews o.review=some s.reviews[n]:=ad5;simp only[go_sem,ak,n21.symm,w1];refine h2.idx (e:=99) n rfl ad5 aek ad9 fun p hp1=>?_
  simp only[go_sem];refine hp1.field (f:=6) (off:=6) (t:=4) rfl ad9 fun p2 hp2=>?_
  have hld:=fun a b=>(hp2.sub (hs a b)).part (U:=U) (ty:=4) ad9 (by rw[adV,show(U 4).sz=1 by rfl];exact adT rfl)
  simp only[go_sem,hld,adV,gu];cases dop:s.reviews[n].isOpen
  ·exact aiX
  ·simp only[go_sem,ak,n21.symm]
   refine⟨.of ad7,?_⟩;simp only[go_sem,w1];refine h2.idx (e:=99) n rfl ad5 aek ad9 fun p hp1=>?_
   simp only[go_sem];refine hp1.field (f:=2) (off:=2) (t:=9) rfl KN fun p2 hp2=>?_
   have hld:=fun a b=>(hp2.sub (hs a b)).part (U:=U) (ty:=9) KN (by rw[adV,NS];exact adT rfl)
   simp only[go_sem,hld,adV,gu];cases dsu:(s.reviews[n].subj==o.subj)
   ·have psu:s.reviews[n].subj≠o.subj:=by grind
    exact aiX
   ·have psu:s.reviews[n].subj=o.subj:=by grind
    exact aiX
 ·have hge:¬n<s.reviews.length:=by grind
  have hgn:wJ s.reviews o.review=none:=ad5;exact aiX
theorem Ez{h:Heap}{x:AV}{s:an}(hb:RdS h x s)(o:OpD)(hf:Few s)(hr:i64 o.review)(ht:i64 s.tick):ai Tryz.prog 50 [x,opA o] h fun r h' =>r= .i (bJ s o)∧h' =h:=by
 have hb0:=hb;have hfo:=B9 o;have hrc:=fun(G:Heap) (hG:Ab.Sub h G)=>Cw (hb.sub hG) o hf
 have hrl:=fun(G:Heap) (hG:Ab.Sub h G) (a:0<o.review)=>Ak (hb.sub hG) o hf a hr.2
 have hfi:=fun(G:Heap) (hG:Ab.Sub h G)=>B7 (hb.sub hG) o.case hf.cases
 have hha:=fun(G:Heap) (hG:Ab.Sub h G)=>F2 (hb.sub hG) o.case o.field (Nat.le_trans hf.roles ad9)
 obtain⟨y1,y2,y3,y4,rfl,⟨xs,hc,hn,hcs⟩,h2,h3,h4⟩:=hb;cases hpp:s.policy with
 |mk pid pset palg ptgt prules pkids pobls=>
 have hcC:fZ (.mk pid pset palg ptgt prules pkids pobls)= [.s pid,.b pset,.i palg,aW ptgt,.sl (prules.map aB) .no,.sl (pkids.map aK) .no,ay pobls]:=ahd;rw[hpp,hcC]at hb0 hrc hrl hfi hha;simp only[opA,opC,List.cons_append,List.nil_append]at hfo hrc hrl hfi hha;refine ad3 Tryz.func50 63 [.tmp 4] fun hwf=>?_
 simp only[go_sem,hcC,opA,opC,List.cons_append,List.nil_append];intro i1 h1;simp only[go_sem];intro i2 h2';have n21:=aH h2';have n2:=aC h2';have hs:∀a b,Ab.Sub h (upd (upd h i1 a) i2 b):=fun a b=>((Sub.refl h).put h1 a).put n2 b
 simp only[go_sem];refine(hfo _).pthen ?_;cases dform:dD o
 ·exact aiv
 ·simp only[go_sem]
  have hok:okD o=true:=by simp_all [dD,dR,Bool.and_eq_true]
  by_cases p1:o.kind=1
  ·have k1:(o.kind==1)=true:=by grind
   simp only[go_sem,ak,n21.symm,k1];refine(hfi _ (hs _ _)).pthen ?_;cases dth:cc s.cases o.case
   ·simp only[go_sem,ak,n21.symm,hc.len,hn]
    cases d64:decide ((64:Int)≤(s.cases.length:Int))
    ·have p64:¬64≤s.cases.length:=by grind
     exact aiv
    ·have p64:64≤s.cases.length:=by grind
     exact aiv
   ·exact aiv
  have k1:(o.kind==1)=false:=ad5;simp only[go_sem,k1]
  by_cases p2:o.kind=2
  ·have k2:(o.kind==2)=true:=by grind
   simp only[go_sem,ak,n21.symm,k2];refine(hrc _ (hs _ _)).pthen ?_;exact aiv
  have k2:(o.kind==2)=false:=ad5;simp only[go_sem,k2]
  by_cases p3:o.kind=3
  ·have k3:(o.kind==3)=true:=by grind
   simp only[go_sem,ak,n21.symm,k3];refine(hrc _ (hs _ _)).pthen ?_;exact aiv
  have k3:(o.kind==3)=false:=ad5;simp only[go_sem,k3]
  by_cases p4:o.kind=4
  ·have k4:(o.kind==4)=true:=by grind
   simp only[go_sem,ak,n21.symm,k4];refine(hrc _ (hs _ _)).pthen ?_;exact aiv
  have k4:(o.kind==4)=false:=ad5;simp only[go_sem,k4]
  by_cases p5:o.kind=5
  ·have k5:(o.kind==5)=true:=by grind
   simp only[go_sem,ak,n21.symm,k5];have hrv:0<o.review:=by grind [okD]
   refine(hrl _ (hs _ _) hrv).pthen ?_;exact aiv
  have k5:(o.kind==5)=false:=ad5;simp only[go_sem,k5]
  by_cases p6:o.kind=6
  ·have k6:(o.kind==6)=true:=by grind
   simp only[go_sem,ak,n21.symm,k6];simp only[go_sem,h4.len,adU];cases d64:decide ((64:Int)≤(s.roles.length:Int))
   ·have p64:¬64≤s.roles.length:=by grind
    exact aiv
   ·have p64:64≤s.roles.length:=by grind
    simp only[go_sem,ak,n21.symm];refine(hha _ (hs _ _)).pthen ?_;cases dha:yy s.roles ⟨o.case,o.field⟩
    ·exact aiv
    ·exact aiv
  have k6:(o.kind==6)=false:=ad5;simp only[go_sem,k6]
  by_cases p8:o.kind=8
  ·have k8:(o.kind==8)=true:=by grind
   simp only[go_sem,ak,n21.symm,k8];have hrv:0<o.review∧o.review≤1099511627776:=by grind [okD]
   have w1:IntKind.i64.wrap (1099511627776 - o.review)=1099511627776 - o.review:=aU _ ad4;cases dt:decide (1099511627776 - o.review<s.tick)
   ·have pt:¬1099511627776 - o.review<s.tick:=adX dt
    simp only[go_sem,w1,dt];exact .mk _ (.refl _) (hs _ _) ⟨afD,rfl⟩
   ·have pt:1099511627776 - o.review<s.tick:=adW dt
    simp only[go_sem,w1,dt];exact .mk _ (.refl _) (hs _ _) ⟨afD,rfl⟩
  have k8:(o.kind==8)=false:=ad5;simp only[go_sem,k8];exact .mk _ (.refl _) (hs _ _) ⟨by have:¬(2≤o.kind∧o.kind≤4):=ad4;simp only[bJ,dform,p1,p5,p6,p8,this,if_false,Bool.true_eq_false,ax],rfl⟩
end Go.Proofs.YtbbadggejjgihaaGreatDoor
namespace Go.Bf
open Go Go.Ab
structure qi where
 kind:Int
 pos:Int
 n:Int
 s:Txt
def fE(t:qi):AV:=.agg [.i t.kind,.i t.pos,.i t.n,.s t.s]
def wrd(c:UInt8):Bool:=ltr c||dgt c||(c.toNat:Int)==95
def mu(l:Txt):Nat:=l.foldl (fun n c=>n*10+(c.toNat - 48)) 0
def eS(neg:Bool)(s:Txt):Int×Nat:=
 let d:=s.takeWhile dgt
 if d= []∨(1<d.length∧s.head? =some 48)then(0,0)else
 let v:Int:=if neg then -(mu d:Int)else(mu d:Int)
 if -9223372036854775808≤v∧v≤9223372036854775807 then(v,d.length)else(0,0)
def jL(s:Txt):Txt:=if bp (s.takeWhile wrd)then s.takeWhile wrd else []
def jO(c:UInt8):Int:=if dgt c then(c.toNat:Int) - 48 else if 97≤(c.toNat:Int)∧(c.toNat:Int)≤102 then(c.toNat:Int) - 87 else -1
def tW:Txt→Option UInt8
 |b::x::y::_=>if b=92∧0≤jO x∧0≤jO y∧tV (UInt8.ofNat (16*jO x+jO y).toNat)=true then some (UInt8.ofNat (16*jO x+jO y).toNat)else none
 |_=>none
def uw:Nat→Txt→Nat→Txt→Txt×Nat
 |0,_,_,_=>([],0)
 |_+1,[],_,_=>([],0)
 |f+1,c::r,at_,out=>
  if c=34 then(if 64<out.length then([],0)else(out,at_+1))
  else if tV c=false then uw f r (at_+1) (out++ [c])
  else match tW (c::r)with
   |some b=>uw f (r.drop 2) (at_+3) (out++ [b])
   |none=>([],0)
def zG(s:Txt):Txt×Nat:=uw s.length (s.drop 1) 1 []
def DY(c:UInt8):Bool:=c∈([123,125,40,41,46,44,59,61,60,62,33]:Txt)
def bN(s:Txt):qi×Nat:=
 let c:=s.headD 0
 if ltr c then(⟨1,0,0,jL s⟩,(jL s).length)
 else if dgt c then(⟨2,0,(eS false s).1,[]⟩,(eS false s).2)
 else if c=45 then(⟨2,0,(eS true (s.drop 1)).1,[]⟩,if(eS true (s.drop 1)).1=0 then 0 else(eS true (s.drop 1)).2+1)
 else if c=64 then(⟨3,0,(eS false (s.drop 1)).1,[]⟩,if(eS false (s.drop 1)).2=0∨(eS false (s.drop 1)).1>1099511627776 then 0 else(eS false (s.drop 1)).2+1)
 else if c=35 then(⟨4,0,0,jL (s.drop 1)⟩,if jL (s.drop 1)= []then 0 else(jL (s.drop 1)).length+1)
 else if c=34 then(⟨5,0,0,(zG s).1⟩,(zG s).2)
 else if DY c then(⟨6,0,0,[c]⟩,1)
 else(⟨0,0,0,[]⟩,0)
inductive Lexed where
 |bad (e:Int) (at_:Int)
 |ok (l:List qi)
def qx(c:UInt8):Bool:=(c.toNat:Int)==32||(c.toNat:Int)==10
def qo:Nat→Txt→Nat→List qi→Lexed
 |0,_,at_,_=> .bad 5 at_
 |_+1,[],at_,out=> .ok (out++ [⟨7,at_,0,[]⟩])
 |f+1,c::r,at_,out=>
  if qx c then qo f r (at_+1) out
  else if(bN (c::r)).2=0 then .bad 5 at_
  else qo f ((c::r).drop (bN (c::r)).2) (at_+(bN (c::r)).2) (out++ [{(bN (c::r)).1 with pos:=at_}])
def pF(s:Txt):Lexed:=if s.length>4096 then .bad 6 4096 else qo (s.length+1) s 0 []
theorem kC(p:UInt8→Bool)(s:Txt):(s.takeWhile p).length≤s.length:=(List.takeWhile_prefix p).length_le
theorem rA(p:UInt8→Bool)(s:Txt):s.take (s.takeWhile p).length=s.takeWhile p:=by
 obtain⟨t,ht⟩:=List.takeWhile_prefix (l:=s) p
 grind
theorem pJ(neg:Bool)(s:Txt):(eS neg s).2≤s.length:=by
 have:=kC dgt s;unfold eS;simp only;split
 ·exact agb
 ·generalize (if neg=true then -(mu (s.takeWhile dgt):Int)else(mu (s.takeWhile dgt):Int))=v
  split
  ·exact aeN
  ·exact agb
theorem uE(s:Txt):(jL s).length≤s.length:=by
 grind [kC,wrd,jL]
theorem D9{s:Txt}{b:UInt8}(h:tW s=some b):3≤s.length:=by
 match s,h with
 |_::_::_::_,_=>simp
theorem zH:∀(f:Nat) (r:Txt) (at_:Nat) (out:Txt),(uw f r at_ out).2≤at_+r.length
 |0,_,_,_=>by simp[uw]
 |_+1,[],_,_=>by simp[uw]
 |f+1,c::r,at_,out=>by
  simp only[uw];split
  ·grind
  ·split
   ·have:=zH f r (at_+1) (out++ [c]);simp only[List.length_cons];omega
   ·split
    ·rename_i b hb
     have h3:=D9 hb;have:=zH f (r.drop 2) (at_+3) (out++ [b]);simp only[List.length_cons,List.length_drop]at this h3⊢;omega
    ·simp
theorem sr(s:Txt)(hs:s≠ []):(bN s).2≤s.length:=by
 have h1:1≤s.length:=ad5;have hd:(s.drop 1).length=s.length - 1:=aec;have k1:=uE s;have k2:=uE (s.drop 1);have k3:=pJ false s;have k4:=pJ false (s.drop 1);have k5:=pJ true (s.drop 1);have k6:=zH s.length (s.drop 1) 1 [];unfold bN;simp only;split
 ·exact k1
 split
 ·exact k3
 split
 ·simp only;split<;>omega
 split
 ·simp only;split<;>omega
 split
 ·simp only;split<;>omega
 split
 ·simp only[zG];omega
 split
 ·simp only;omega
 ·simp
structure PS where
 ts:List qi
 pos:Nat
 rules:Nat
 bad:Int
 place:Int
def aL(st:PS):qi:=st.ts.getD st.pos ⟨7,0,0,[]⟩
def bI(st:PS)(e p:Int):PS:=if st.bad=0 then {st with bad:=e,place:=p} else st
def br(st:PS):PS:=bI st 5 (aL st).pos
def bF(st:PS)(more:Bool):PS:=if more then bI st 6 (aL st).pos else st
def isD(st:PS)(s:Txt):Bool:=st.bad==0 && ((aL st).s==s && ((aL st).kind==1||(aL st).kind==6))
def bl(st:PS):PS:={st with pos:=st.pos+1}
def cq(st:PS)(s:Txt):Bool×PS:=if isD st s=true then(true,bl st)else(false,st)
def dX(st:PS)(s:Txt):PS:=if isD st s=true then bl st else br st
def cp(st:PS):Txt×PS:=
 if(aL st).kind=1∧st.bad=0 then((aL st).s,bl st)else([],if(aL st).kind=1 then st else br st)
def vb(s:Txt):List Txt→Option Nat
 | []=>none
 |w::r=>if w=s then some 0 else(vb s r).map (· +1)
def bf(st:PS)(ws:List Txt):Int×PS:=match vb (aL st).s ws with
 |some i=>if(aL st).kind=1∧st.bad=0 then((i:Int)+1,bl st)else(0,br st)
 |none=>(0,br st)
def WfP(st:PS):Prop:=st.pos<st.ts.length∧(∀i (h:i<st.ts.length),st.ts[i].kind≠7→i+1<st.ts.length)∧st.ts.length≤5000
theorem DD{st:PS}(h:st.pos<st.ts.length):aL st=st.ts[st.pos]:=by
 grind [aL,List.getElem?_eq_getElem]
theorem KW{st:PS}(e p:Int)(h:WfP st):WfP (bI st e p):=by
 unfold bI;split<;>exact h
theorem N1{st:PS}(h:WfP st)(hk:(aL st).kind≠7):WfP (bl st):=by
 rw[DD h.1]at hk;exact⟨h.2.1 _ h.1 hk,h.2⟩
theorem dK{st:PS}{s:Txt}(h:isD st s=true):(aL st).kind≠7:=by
 simp only[isD,Bool.and_eq_true,Bool.or_eq_true,beq_iff_eq]at h;omega
def Ah(st st' :PS):Prop:=WfP st'∧st'.ts=st.ts∧st.pos≤st'.pos
theorem Ah.refl{st:PS}(h:WfP st):Ah st st:=⟨h,rfl,Nat.le_refl _⟩
theorem Ah.trans{a b c:PS}(x:Ah a b)(y:Ah b c):Ah a c:=⟨y.1,y.2.1.trans x.2.1,Nat.le_trans x.2.2 y.2.2⟩
theorem xQ{st:PS}(e p:Int)(h:WfP st):Ah st (bI st e p):=⟨KW e p h,by grind [bI],by unfold bI;grind⟩
theorem eY{st:PS}(h:WfP st)(hk:(aL st).kind≠7):Ah st (bl st):=⟨N1 h hk,rfl,Nat.le_succ _⟩
theorem oA{st:PS}(h:WfP st):Ah st (br st):=xQ _ _ h
theorem lB{st:PS}(b:Bool)(h:WfP st):Ah st (bF st b):=by
 unfold bF;split
 ·grind [xQ]
 ·exact agv
theorem On{st:PS}(s:Txt)(h:WfP st):Ah st (cq st s).2:=by
 unfold cq;split
 ·grind [eY,dK]
 ·exact agv
theorem js{st:PS}(s:Txt)(h:WfP st):Ah st (dX st s):=by
 grind [dX,eY,dK,oA]
theorem nw{st:PS}(h:WfP st):Ah st (cp st).2:=by
 unfold cp;split
 ·grind [eY]
 ·simp only;split
  ·exact agv
  grind [oA]
theorem gK{st:PS}(ws:List Txt)(h:WfP st):Ah st (bf st ws).2:=by
 grind [bf,eY,oA]
def vO:List Txt:=[[115,117,98,106,101,99,116],[97,99,116,105,111,110],[99,97,115,101],[101,110,118]]
def fX(st:PS):qs×PS:=
 (⟨(bf st vO).1,(cp (dX (bf st vO).2 [46])).1,(cq (cp (dX (bf st vO).2 [46])).2 [33]).1⟩,(cq (cp (dX (bf st vO).2 [46])).2 [33]).2)
theorem BQ{st:PS}(h:WfP st):Ah st (fX st).2:=by
 have h1:=gK vO h;have h2:=js [46] h1.1;have h3:=nw h2.1;exact((h1.trans h2).trans h3).trans (On [33] h3.1)
def wR:Txt:=[116,114,117,101]
def qJ:Txt:=[102,97,108,115,101]
def fW(st:PS):bu×PS:=
 if(aL st).kind=2 then(⟨2,(aL st).n,(aL st).s⟩,st)
 else if(aL st).kind=3 then(⟨4,(aL st).n,(aL st).s⟩,st)
 else if(aL st).kind=4 then(⟨5,(aL st).n,(aL st).s⟩,st)
 else if(aL st).kind=5 then(⟨3,(aL st).n,(aL st).s⟩,st)
 else if isD st wR then(⟨1,1,[]⟩,st)
 else if isD st qJ then(⟨1,0,[]⟩,st)
 else(⟨0,(aL st).n,(aL st).s⟩,br st)
def aD(st:PS):bu×PS:=if(fW st).2.bad=0 then((fW st).1,bl (fW st).2)else(⟨0,0,[]⟩,(fW st).2)
theorem rR(st:PS):(br st).bad≠0:=by
 grind [br,bI,Int]
theorem uA(st:PS):(fW st).2=st∧(aL st).kind≠7∨(fW st).2=br st:=by
 unfold fW;split
 ·grind
 split
 ·grind
 split
 ·grind
 split
 ·grind
 split
 ·rename_i h;exact .inl ⟨rfl,dK h⟩
 split
 ·rename_i h;exact .inl ⟨rfl,dK h⟩
 simp
theorem CR{st:PS}(h:WfP st):Ah st (aD st).2:=by
 unfold aD;rcases uA st with⟨e,hk⟩|e
 ·rw[e];split
  ·grind [eY]
  ·exact agv
 simp_all [if_neg,rR,oA]
def opP(st:PS):Int×PS:=
 if isD st [61]then(1,bl st)else if isD st [60]then(2,bl st)else if isD st [62]then(3,bl st)else(0,br st)
theorem UU{st:PS}(h:WfP st):Ah st (opP st).2:=by
 grind [opP,eY,dK,oA]
def gH(st:PS):bO×PS:=(⟨(fX st).1,(opP (fX st).2).1,(aD (opP (fX st).2).2).1⟩,(aD (opP (fX st).2).2).2)
theorem qt{st:PS}(h:WfP st):Ah st (gH st).2:=by
 have h1:=BQ h;have h2:=UU h1.1;exact(h1.trans h2).trans (CR h2.1)
def fR{α:Type}(one:PS→α×PS)(w:Txt)(most:Nat):Nat→PS→List α→List α×PS
 |0,st,l=>(l,st)
 |f+1,st,l=>if isD st w=true then fR one w most f (bF (one (bl st)).2 (decide (most<l.length+1))) (l++ [(one (bl st)).1])else(l,st)
theorem td{α:Type}{one:PS→α×PS}(ho:∀st,WfP st→Ah st (one st).2)(w:Txt)(most:Nat):∀(f:Nat) (st:PS) (l:List α),WfP st→Ah st (fR one w most f st l).2
 |0,st,l,h=> .refl h
 |f+1,st,l,h=>by
  unfold fR;split
  ·rename_i hi
   have h1:=eY h (dK hi);have h2:=ho _ h1.1;have h3:=lB (decide (most<l.length+1)) h2.1;exact((h1.trans h2).trans h3).trans (td ho w most f _ _ h3.1)
  ·exact agv
def orT:Txt:=[111,114]
def CU:Txt:=[97,110,100]
def E2:Txt:=[119,104,101,110]
def qj(st:PS):List bO×PS:=fR gH [44] 8 st.ts.length (gH st).2 [(gH st).1]
theorem BO{st:PS}(h:WfP st):Ah st (qj st).2:=(qt h).trans (td (fun _ h=>qt h) _ _ _ _ _ (qt h).1)
def rV(st:PS):List (List bO)×PS:=
 let a:=qj (dX st [40])
 let m:=fR qj orT 8 st.ts.length a.2 [a.1]
 (m.1,dX m.2 [41])
theorem BP{st:PS}(h:WfP st):Ah st (rV st).2:=by
 have h0:=js [40] h;have h1:=BO h0.1;have h2:=td (fun _ h=>BO h) orT 8 st.ts.length _ [(qj (dX st [40])).1] h1.1
 exact((h0.trans h1).trans h2).trans (js [41] h2.1)
def gY(st:PS):fY×PS:=if isD st E2=true then fR rV CU 8 st.ts.length (rV (bl st)).2 [(rV (bl st)).1]else([],st)
theorem BU{st:PS}(h:WfP st):Ah st (gY st).2:=by
 unfold gY;split
 ·rename_i hi
  have h0:=eY h (dK hi);have h1:=BP h0.1;exact(h0.trans h1).trans (td (by grind [BP]) _ _ _ _ _ h1.1)
 ·exact agv
def lY:List Txt:=[[111,110,101],[115,105,122,101],[104,97,115],[101,113],[108,101,115,115],[97,100,100],[115,117,98],[109,117,108],[110,111,116],[97,110,100],[111,114]]
def opers(op:Int):List Bool:=if op=3∨op=4 then [true]else if op=5 then [true,false]else if op=11 then [false]else [false,false]
abbrev ExF:=PS→List aQ→(List aQ×Bool)×PS
def iH(ex:ExF)(st:PS)(l:List aQ)(must:Bool):List aQ×PS:=
 ((ex st l).1.1,if(ex st l).1.2=must then(ex st l).2 else bI (ex st l).2 5 (aL st).pos)
def jA(ex:ExF):List Bool→PS→List aQ→List aQ×PS
 | [],st,l=>(l,st)
 |b::bs,st,l=>if st.bad=0 then jA ex bs (iH ex st l b).2 (iH ex st l b).1 else(l,st)
def qM(ex:ExF)(st:PS)(l:List aQ):(List aQ×aQ)×PS:=
 (((jA ex (opers (2+(bf st lY).1)) (bf st lY).2 l).1,⟨2+(bf st lY).1,⟨0,0,[]⟩,⟨0,[],false⟩⟩),dX (jA ex (opers (2+(bf st lY).1)) (bf st lY).2 l).2 [41])
def jj(ex:ExF)(st:PS)(l:List aQ):(List aQ×aQ)×PS:=
 if isD st [40]=true then qM ex (bl st) l
 else if(aL st).kind=1∧(aL st).s≠wR∧(aL st).s≠qJ then((l,⟨2,⟨0,0,[]⟩,(fX st).1⟩),(fX st).2)
 else((l,⟨1,(aD st).1,⟨0,[],false⟩⟩),(aD st).2)
def eO:Nat→ExF
 |0,st,l=>((l,false),st)
 |f+1,st,l=>(((jj (eO f) st l).1.1++ [(jj (eO f) st l).1.2],(jj (eO f) st l).1.2.op==2),bF (jj (eO f) st l).2 (decide (32<(jj (eO f) st l).1.1.length+1)))
def E8(ex:ExF):Prop:=∀st l,WfP st→Ah st (ex st l).2∧(ex st l).1.1.length+2*st.pos≤l.length+2*(ex st l).2.pos+1
theorem za{ex:ExF}(he:E8 ex)(st:PS)(l:List aQ)(b:Bool)(h:WfP st):Ah st (iH ex st l b).2∧(iH ex st l b).1.length+2*st.pos≤l.length+2*(iH ex st l b).2.pos+1:=by
 obtain⟨h1,h2⟩:=he st l h;unfold iH;split
 ·grind
 ·refine⟨h1.trans (xQ _ _ h1.1),?_⟩
  grind [bI,aL]
theorem Bd{ex:ExF}(he:E8 ex):∀(bs:List Bool) (st:PS) (l:List aQ),WfP st→Ah st (jA ex bs st l).2∧(jA ex bs st l).1.length+2*st.pos≤l.length+2*(jA ex bs st l).2.pos+bs.length
 | [],st,l,h=>⟨.refl h,by simp[jA]⟩
 |b::bs,st,l,h=>by
  unfold jA;split
  ·obtain⟨h1,h2⟩:=za he st l b h
   obtain⟨h3,h4⟩:=Bd he bs (iH ex st l b).2 (iH ex st l b).1 h1.1;exact⟨h1.trans h3,ad5⟩
  ·exact⟨.refl h,aec⟩
theorem Ed(op:Int):(opers op).length≤2:=by
 grind [opers]
theorem L9{ex:ExF}(he:E8 ex)(st:PS)(l:List aQ)(h:WfP st):Ah st (qM ex st l).2∧(qM ex st l).1.1.length+2*st.pos≤l.length+2*(qM ex st l).2.pos+2:=by
 have h1:=gK lY h;obtain⟨h2,h3⟩:=Bd he (opers (2+(bf st lY).1)) _ l h1.1;have h4:=js [41] h2.1;have:=Ed (2+(bf st lY).1);have p1:=h1.2.2;have p4:=h4.2.2;unfold qM;exact⟨(h1.trans h2).trans h4,ad5⟩
theorem DC{ex:ExF}(he:E8 ex)(st:PS)(l:List aQ)(h:WfP st):Ah st (jj ex st l).2∧(jj ex st l).1.1.length+2*st.pos≤l.length+2*(jj ex st l).2.pos:=by
 unfold jj;split
 ·rename_i hi
  have h1:=eY h (dK hi);obtain⟨h2,h3⟩:=L9 he _ l h1.1;have:(bl st).pos=st.pos+1:=rfl;exact⟨h1.trans h2,ad4⟩
 ·split
  ·have h1:=BQ h
   have:=h1.2.2;exact⟨h1,ad5⟩
  ·have h1:=CR h
   have:=h1.2.2;exact⟨h1,ad5⟩
theorem qI:∀f,E8 (eO f)
 |0=>fun st l h=>⟨.refl h,by simp[eO]⟩
 |f+1=>fun st l h=>by
  obtain⟨h1,h2⟩:=DC (qI f) st l h;have h3:=lB (decide (32<(jj (eO f) st l).1.1.length+1)) h1.1;have:=h3.2.2;refine⟨h1.trans h3,?_⟩
  grind [eO,adY,List.length_singleton]
def vo:List Txt:=[[112,101,114,109,105,116],[100,101,110,121]]
def mP:List Txt:=[[108,111,103],[114,101,100,97,99,116],[114,101,118,105,101,119],[110,111,116,105,102,121]]
def wF:Txt:=[111,110]
def Af(st:PS):cy×PS:=
 (⟨(bf st vo).1,(bf (bf st vo).2 mP).1,(cp (bf (bf st vo).2 mP).2).1⟩,(cp (bf (bf st vo).2 mP).2).2)
theorem Lj{st:PS}(h:WfP st):Ah st (Af st).2:=by
 have h1:=gK vo h;have h2:=gK mP h1.1;exact(h1.trans h2).trans (nw h2.1)
def gz(st:PS):List cy×PS:=fR Af wF 8 st.ts.length st []
theorem BS{st:PS}(h:WfP st):Ah st (gz st).2:=td (fun _ h=>Lj h) _ _ _ _ _ h
inductive Rch (a:PS):PS→Prop where
 |refl:Rch a a
 |wrong {b:PS} (e p:Int):Rch a b→(e=5∨e=6)→(∃i,i≤b.pos∧p=(b.ts.getD i ⟨7,0,0,[]⟩).pos)→Rch a (bI b e p)
 |next {b:PS}:Rch a b→b.bad=0→(aL b).kind≠7→Rch a (bl b)
theorem Rch.trans{a b c:PS}(x:Rch a b)(y:Rch b c):Rch a c:=by
 induction y with
 |refl=>exact x
 |wrong e p _ h1 h2 ih=>grind [wrong]
 |next _ h1 h2 ih=>grind [next]
theorem kV(st:PS):Rch st (br st):=.wrong _ _ .refl (.inl rfl) ⟨st.pos,Nat.le_refl _,rfl⟩
theorem rM(st:PS)(b:Bool):Rch st (bF st b):=by
 unfold bF;split
 ·exact .wrong _ _ .refl (.inr rfl) ⟨st.pos,Nat.le_refl _,rfl⟩
 ·exact agB
theorem HV{st:PS}{s:Txt}(h:isD st s=true):st.bad=0:=by
 simp_all [isD,Bool.and_eq_true,beq_iff_eq]
theorem sO{st:PS}{s:Txt}(h:isD st s=true):Rch st (bl st):=.next .refl (HV h) (dK h)
theorem Nj(st:PS)(s:Txt):Rch st (cq st s).2:=by
 unfold cq;split
 ·grind [sO]
 ·exact agB
theorem mY(st:PS)(s:Txt):Rch st (dX st s):=by
 grind [dX,sO,kV]
theorem uq(st:PS):Rch st (cp st).2:=by
 unfold cp;split
 ·rename_i h;exact .next .refl h.2 ad4
 ·simp only;split
  ·exact agB
  grind [kV]
theorem mK(st:PS)(ws:List Txt):Rch st (bf st ws).2:=by
 unfold bf;split
 ·split
  ·rename_i h;exact .next .refl h.2 ad4
  grind [kV]
 grind [kV]
theorem Es(st:PS):Rch st (fX st).2:=(((mK st vO).trans (mY _ [46])).trans (uq _)).trans (Nj _ [33])
theorem Bo(st:PS):Rch st (aD st).2:=by
 unfold aD;rcases uA st with⟨e,hk⟩|e
 ·rw[e];split
  ·rename_i h;exact .next .refl h hk
  ·exact agB
 simp_all [if_neg,rR,kV]
theorem S1(st:PS):Rch st (opP st).2:=by
 grind [opP,sO,kV]
theorem Bm(st:PS):Rch st (gH st).2:=((Es st).trans (S1 _)).trans (Bo _)
theorem ri{α:Type}{one:PS→α×PS}(ho:∀st,Rch st (one st).2)(w:Txt)(most:Nat):∀(f:Nat) (st:PS) (l:List α),Rch st (fR one w most f st l).2
 |0,st,l=> .refl
 |f+1,st,l=>by
  unfold fR;split
  ·rename_i h
   exact(((sO h).trans (ho _)).trans (rM _ _)).trans (ri ho w most f _ _)
  ·exact agB
theorem Iw(st:PS):Rch st (qj st).2:=(Bm st).trans (ri Bm _ _ _ _ _)
theorem Ix(st:PS):Rch st (rV st).2:=(((mY st [40]).trans (Iw _)).trans (ri Iw orT 8 st.ts.length _ [(qj (dX st [40])).1])).trans (mY _ [41])
theorem Iy(st:PS):Rch st (gY st).2:=by
 unfold gY;split
 ·rename_i h;exact((sO h).trans (Ix _)).trans (ri Ix _ _ _ _ _)
 ·exact agB
theorem PE(st:PS):Rch st (Af st).2:=((mK st vo).trans (mK _ mP)).trans (uq _)
theorem Ew(st:PS):Rch st (gz st).2:=ri PE _ _ _ _ _
theorem rN{a b:PS}(h:Rch a b):b.ts=a.ts∧a.pos≤b.pos∧b.rules=a.rules:=by
 induction h with
 |refl=>simp
 |wrong e p _ _ _ ih=>
  grind [bI]
 |next _ _ _ ih=>exact⟨ih.1,Nat.le_succ_of_le ih.2.1,ih.2.2⟩
theorem Ex{ex:ExF}(he:∀st l,Rch st (ex st l).2)(st:PS)(l:List aQ)(b:Bool):Rch st (iH ex st l b).2:=by
 unfold iH;simp only;split
 ·grind
 ·have:=rN (he st l)
  exact .wrong _ _ (he st l) (.inl rfl) ⟨st.pos,this.2.1,by rw[this.1];rfl⟩
theorem Bn{ex:ExF}(he:∀st l,Rch st (ex st l).2):∀(bs:List Bool) (st:PS) (l:List aQ),Rch st (jA ex bs st l).2
 | [],st,l=> .refl
 |b::bs,st,l=>by
  unfold jA;split
  ·exact(Ex he st l b).trans (Bn he bs _ _)
  ·exact agB
theorem Et:∀(f:Nat) (st:PS) (l:List aQ),Rch st (eO f st l).2
 |0,st,l=> .refl
 |f+1,st,l=>by
  refine Rch.trans ?_ (rM _ _);unfold jj;split
  ·rename_i h
   exact(sO h).trans (((mK _ lY).trans (Bn (Et f) _ _ _)).trans (mY _ [41]))
  grind [Es,Bo]
def ifT:Txt:=[105,102]
def pM:Txt:=[112,101,114,109,105,116]
def jh:Txt:=[100,101,110,121]
def pN:Txt:=[112,111,108,105,99,121]
def GI:Txt:=[115,101,116]
def mW:List Txt:=[pN,GI]
def xR:List Txt:=[[100,101,110,121,111,118,101,114],[112,101,114,109,105,116,111,118,101,114],[102,105,114,115,116],[111,110,108,121],[100,101,110,121,117,110,108,101,115,115],[112,101,114,109,105,116,117,110,108,101,115,115]]
def qF(st:PS):List aQ×PS:=if isD st ifT=true then iH (eO st.ts.length) (bl st) [] false else([],st)
theorem Ni(st:PS):Rch st (qF st).2:=by
 unfold qF;split
 ·rename_i h;exact(sO h).trans (Ex (Et _) _ _ _)
 ·exact agB
theorem Hr{st:PS}(h:WfP st):Ah st (qF st).2:=by
 unfold qF;split
 ·rename_i hi
  have h1:=eY h (dK hi);exact h1.trans (za (qI _) _ _ _ h1.1).1
 ·exact agv
def qe(deny:Bool)(st:PS):cU×PS:=
 (⟨(cp st).1,deny,(gY (cp st).2).1,(qF (gY (cp st).2).2).1,(gz (qF (gY (cp st).2).2).2).1⟩,dX (gz (qF (gY (cp st).2).2).2).2 [59])
theorem zp(deny:Bool)(st:PS):Rch st (qe deny st).2:=((((uq st).trans (Iy _)).trans (Ni _)).trans (Ew _)).trans (mY _ [59])
theorem BT(deny:Bool){st:PS}(h:WfP st):Ah st (qe deny st).2:=by
 have h1:=nw h;have h2:=BU h1.1;have h3:=Hr h2.1;have h4:=BS h3.1;exact(((h1.trans h2).trans h3).trans h4).trans (js [59] h4.1)
inductive nU (a:PS):PS→Prop where
 |refl:nU a a
 |small {b c:PS}:nU a b→Rch b c→nU a c
 |rule {b:PS}:nU a b→b.bad=0→b.rules≠64→(aL b).kind≠7→nU a {bl b with rules:=b.rules+1}
theorem nU.trans{a b c:PS}(x:nU a b)(y:nU b c):nU a c:=by
 induction y with
 |refl=>exact x
 |small _ h1 ih=>grind [small]
 |rule _ h1 h2 h3 ih=>grind [rule]
theorem Rch.big{a b:PS}(h:Rch a b):nU a b:=.small .refl h
def ko:Nat→PS→List cU→List cU×PS
 |0,st,l=>(l,st)
 |f+1,st,l=>if isD st pM=true∨isD st jh=true then
   if l.length=16∨st.rules=64 then(l,bF st true)
   else ko f (qe (isD st jh) {bl st with rules:=st.rules+1}).2 (l++ [(qe (isD st jh) {bl st with rules:=st.rules+1}).1])
  else(l,st)
abbrev PoF:=PS→bD×PS
def jZ(pol:PoF)(deep:Bool):Nat→PS→List bD→List bD×PS
 |0,st,l=>(l,st)
 |f+1,st,l=>if isD st pN=true∨isD st GI=true then
   if l.length=16∨deep=true then(l,bF st true)
   else jZ pol deep f (pol st).2 (l++ [(pol st).1])
  else(l,st)
def cX(st:PS):(Bool×Txt×Int×fY)×PS:=
 (((bf st mW).1==2,(cp (bf st mW).2).1,(bf (cp (bf st mW).2).2 xR).1,(gY (bf (cp (bf st mW).2).2 xR).2).1),dX (gY (bf (cp (bf st mW).2).2 xR).2).2 [123])
theorem Eu(st:PS):Rch st (cX st).2:=((((mK st mW).trans (uq _)).trans (mK _ xR)).trans (Iy _)).trans (mY _ [123])
theorem Om{st:PS}(h:WfP st):Ah st (cX st).2:=by
 have h1:=gK mW h;have h2:=nw h1.1;have h3:=gK xR h2.1;have h4:=BU h3.1;exact(((h1.trans h2).trans h3).trans h4).trans (js [123] h4.1)
def pY(pol:PoF)(deep:Bool)(set:Bool)(st:PS):(List cU×List bD)×PS:=
 if set=true then(([],(jZ pol deep 17 st []).1),(jZ pol deep 17 st []).2)else(((ko 17 st []).1,[]),(ko 17 st []).2)
def gN:Nat→PoF
 |0,st=>(.mk [] false 0 [] [] [] [],st)
 |r+1,st=>(.mk (cX st).1.2.1 (cX st).1.1 (cX st).1.2.2.1 (cX st).1.2.2.2 (pY (gN r) (r==0) (cX st).1.1 (cX st).2).1.1 (pY (gN r) (r==0) (cX st).1.1 (cX st).2).1.2
   (gz (dX (pY (gN r) (r==0) (cX st).1.1 (cX st).2).2 [125])).1,(gz (dX (pY (gN r) (r==0) (cX st).1.1 (cX st).2).2 [125])).2)
theorem mU{st:PS}{a b:Txt}(h:isD st a=true∨isD st b=true):st.bad=0∧(aL st).kind≠7:=by
 grind [HV,dK]
theorem xP{st:PS}(h:WfP st)(hk:(aL st).kind≠7):Ah st {bl st with rules:=st.rules+1}:=eY h hk
theorem Ht:∀(f:Nat) (st:PS) (l:List cU),WfP st→Ah st (ko f st l).2
 |0,st,l,h=> .refl h
 |f+1,st,l,h=>by
  unfold ko;split
  ·rename_i hi
   split
   ·exact lB true h
   ·have h1:=xP h (mU hi).2
    have h2:=BT (isD st jh) h1.1;exact(h1.trans h2).trans (Ht f _ _ h2.1)
  ·exact agv
theorem Ey:∀(f:Nat) (st:PS) (l:List cU),nU st (ko f st l).2
 |0,st,l=> .refl
 |f+1,st,l=>by
  unfold ko;split
  ·rename_i hi
   split
   ·exact(rM st true).big
   ·rename_i hn
    have h1:nU st {bl st with rules:=st.rules+1}:=.rule .refl (mU hi).1 ad4 (mU hi).2
    exact(h1.trans (zp (isD st jh) _).big).trans (Ey f _ _)
  ·exact agB
theorem Hs{pol:PoF}(hp:∀st,WfP st→Ah st (pol st).2)(deep:Bool):∀(f:Nat) (st:PS) (l:List bD),WfP st→Ah st (jZ pol deep f st l).2
 |0,st,l,h=> .refl h
 |f+1,st,l,h=>by
  unfold jZ;split
  ·split
   ·exact lB true h
   ·have h1:=hp st h
    exact h1.trans (Hs hp deep f _ _ h1.1)
  ·exact agv
theorem Ev{pol:PoF}(hp:∀st,nU st (pol st).2)(deep:Bool):∀(f:Nat) (st:PS) (l:List bD),nU st (jZ pol deep f st l).2
 |0,st,l=> .refl
 |f+1,st,l=>by
  unfold jZ;split
  ·split
   ·exact(rM st true).big
   ·exact(hp st).trans (Ev hp deep f _ _)
  ·exact agB
theorem BR{pol:PoF}(hp:∀st,WfP st→Ah st (pol st).2)(deep set:Bool){st:PS}(h:WfP st):Ah st (pY pol deep set st).2:=by
 grind [pY,Hs,Ht]
theorem Nh{pol:PoF}(hp:∀st,nU st (pol st).2)(deep set:Bool)(st:PS):nU st (pY pol deep set st).2:=by
 grind [pY,Ev,Ey]
theorem xO:∀(r:Nat) (st:PS),WfP st→Ah st (gN r st).2
 |0,st,h=> .refl h
 |r+1,st,h=>by
  have h1:=Om h;have h2:=BR (xO r) (r==0) (cX st).1.1 h1.1;have h3:=js [125] h2.1;exact((h1.trans h2).trans h3).trans (BS h3.1)
theorem Cv:∀(r:Nat) (st:PS),nU st (gN r st).2
 |0,st=> .refl
 |r+1,st=>(((Eu st).big.trans (Nh (Cv r) _ _ _)).trans (mY _ [125]).big).trans (Ew _).big
theorem vv{a b:PS}(h:nU a b)(h0:a.rules≤64):b.rules≤64:=by
 induction h with
 |refl=>omega
 |small _ h1 ih=>rw[(rN h1).2.2];omega
 |rule _ _ h2 _ ih=>grind
theorem vh:∀(f:Nat) (s:Txt) (a:Nat) (out l:List qi),qo f s a out= .ok l→∃pre,l=out++pre++ [⟨7,(a+s.length:Nat),0,[]⟩]∧pre.length≤s.length∧∀t∈pre,(a:Int)≤t.pos∧t.pos<((a+s.length:Nat):Int)
 |0,_,_,_,_,h=>by grind [qo]
 |f+1,[],a,out,l,h=>by
  grind [qo,Lexed.ok.injEq]
 |f+1,c::r,a,out,l,h=>by
  simp only[qo]at h;split at h
  ·obtain⟨pre,e1,e2,e3⟩:=vh f r (a+1) out l h
   grind
  ·split at h
   ·cases h
   ·rename_i hn
    have hle:=sr (c::r) aec;obtain⟨pre,e1,e2,e3⟩:=vh f _ _ _ l h;have ee:((a+(bN (c::r)).2+((c::r).drop (bN (c::r)).2).length:Nat):Int)=((a+(c::r).length:Nat):Int):=ad5;refine⟨{(bN (c::r)).1 with pos:=a}::pre,ad5,ad5,fun t ht=>?_⟩
    grind
theorem A3{s:Txt}{ts:List qi}(h:pF s= .ok ts):∃pre,ts=pre++ [⟨7,s.length,0,[]⟩]∧pre.length≤s.length∧(∀t∈pre,0≤t.pos∧t.pos<(s.length:Int))∧s.length≤4096:=by
 grind [pF,vh]
theorem KU{s:Txt}{ts:List qi}(h:pF s= .ok ts)(x:Nat)(e p:Int):WfP ⟨ts,0,x,e,p⟩:=by
 obtain⟨pre,rfl,h2,_,h3⟩:=A3 h;refine⟨aec,fun i hi hk=>?_,ad5⟩
 grind
theorem yN:∀(f:Nat) (s:Txt) (a:Nat) (out:List qi) (e p:Int),qo f s a out= .bad e p→e=5∧0≤p∧(s.length<f→p≤((a+s.length:Nat):Int))
 |0,s,a,out,e,p,h=>by
  simp only[qo,Lexed.bad.injEq]at h;omega
 |f+1,[],a,out,e,p,h=>by grind [qo]
 |f+1,c::r,a,out,e,p,h=>by
  simp only[qo]at h;split at h
  ·obtain⟨h1,h2,h3⟩:=yN f r (a+1) out e p h
   grind
  ·split at h
   ·grind
   ·obtain⟨h1,h2,h3⟩:=yN f _ _ _ e p h
    grind [sr,List.length_drop]
theorem tT{s:Txt}{e a:Int}(h:pF s= .bad e a):(e=5∨e=6)∧0≤a∧a≤s.length:=by
 unfold pF at h;split at h
 ·grind
 ·obtain⟨h1,h2,h3⟩:=yN _ _ _ _ _ _ h
  omega
def oT:bD:=.mk [] false 0 [] [] [] []
def qk(s:Txt)(x:bD×PS):PS:=
 if(if(aL x.2).kind=7 then x.2 else br x.2).bad=0∧gI x.1≠0 then bI (if(aL x.2).kind=7 then x.2 else br x.2) 5 s.length else(if(aL x.2).kind=7 then x.2 else br x.2)
def zc(s:Txt)(ts:List qi):bD×Int×Int:=
 if(qk s (gN 4 ⟨ts,0,0,0,0⟩)).bad=0 then((gN 4 ⟨ts,0,0,0,0⟩).1,0,0)else(oT,(qk s (gN 4 ⟨ts,0,0,0,0⟩)).bad,(qk s (gN 4 ⟨ts,0,0,0,0⟩)).place)
def aR(s:Txt):bD×Int×Int:=match pF s with
 |.bad e a=>(oT,e,a)
 |.ok ts=>zc s ts
end Go.Bf
