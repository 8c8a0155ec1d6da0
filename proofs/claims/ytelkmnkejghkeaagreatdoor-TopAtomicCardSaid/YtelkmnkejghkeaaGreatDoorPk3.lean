/- The law TopAtomic: pack 3 of its texts. -/
import Derived.Below
import Derived.Lib.ItoaLen
import Derived.Lib.Join
import Derived.Lib.Small
import Derived.Laws.Externs
import Derived.Lib.Overlaps
import Derived.Test.YtelkmnkejghkeaaGreatDoorProg
import Derived.KernelRfl
import Derived.Lib.AtoiAll
import Derived.Test.YtelkmnkejghkeaaGreatDoorPk1
import Derived.Test.YtelkmnkejghkeaaGreatDoorPk2
set_option linter.unusedSimpArgs false
set_option linter.unusedVariables false
set_option maxRecDepth 100000
namespace Go.Ab
open Go
variable {ls:List (List UInt8)}
section
variable {P : Program} {U : TypeId → TI} {n : Nat} {ρ : Env} {h h' : Heap} {tb : TypeId} {y : AV} {l : List UInt8}
theorem Bytes.from(hb:Bytes tb h y l){lo:Operand}{m:Int}{x:IntKind}{K:AV→Prop}(j:Nat)(hm:ev ρ lo=some (.v (.int x m)))(hj:m=j)(hl:j≤l.length)(hz:(U tb).sz=1)(hk:∀z,Bytes tb h z (l.drop j)→K z):
  iB U ρ y (some lo) none none K (.slice tb):=by
 subst hj;rcases hb with⟨q,rfl⟩|⟨id,off,cs,rfl,h1,h2,h3⟩
 ·rw[FJ,hm]
  refine⟨afu,by grind [jT],?_⟩
  refine⟨afu,afv,?_⟩;rw[←List.map_drop];exact hk _ (.sl _ _)
 ·rw[sH]
  refine⟨afu,fun _=>hz,?_⟩
  simp only[nj,fX,hm,dQ,ot];refine⟨afu,afu,afu,?_⟩;simp only[Int.toNat_natCast,hz,Nat.mul_one];have e:(l.drop j).length=l.length - j:=afB;have:=hk (.oa id (off+j) (l.drop j).length) (by grind [oa,List.map_drop,List.drop_drop,List.drop_take])
  rwa [e]at this
theorem Bytes.cut(hb:Bytes tb h y l){lo hi:Operand}{m m2:Int}{x x2:IntKind}{K:AV→Prop}(j k:Nat)(hm:ev ρ lo=some (.v (.int x m)))(hj:m=j)(hm2:ev ρ hi=some (.v (.int x2 m2)))(hk2:m2=k)(hjk:j≤k)(hl:k≤l.length)(hz:(U tb).sz=1)
  (hk:∀z,Bytes tb h z ((l.drop j).take (k - j))→K z):iB U ρ y (some lo) (some hi) none K (.slice tb):=by
 subst hj;subst hk2
 rcases hb with⟨q,rfl⟩|⟨id,off,cs,rfl,h1,h2,h3⟩
 ·rw[LL,hm]
  refine⟨afu,by grind [jT],?_⟩
  simp only[dQ,ot,hm2,Int.toNat_natCast,V5];refine⟨afu,afu,afv,?_⟩;rw[←List.map_drop,←List.map_take];exact hk _ (.sl _ _)
 ·rw[sH]
  refine⟨afu,fun _=>hz,?_⟩
  simp only[fX,hm,dQ,ot,hm2];refine⟨afu,afu,afu,?_⟩;simp only[Int.toNat_natCast,hz,Nat.mul_one];have e:((l.drop j).take (k - j)).length=k - j:=afv;have:=hk (.oa id (off+j) ((l.drop j).take (k - j)).length) (.oa h1 afu (by grind [List.map_take,List.map_drop,List.drop_drop,List.drop_take]))
  rwa [e]at this
end
theorem SI(k:IntKind)(n:Nat)(hk:k.signed=false)(hn:n<2 ^ k.bits):k.wrap (n:Int)=n:=by cases k<;>simp[IntKind.signed]at hk<;>simp[IntKind.wrap,IntKind.signed,IntKind.bits]at hn⊢<;>omega
theorem w32(n:Nat)(hn:n<4294967296):IntKind.u32.wrap (n:Int)=n:=SI .u32 n rfl aje
theorem w8(n:Nat):IntKind.u8.wrap (n:Int)=(UInt8.ofNat n).toNat:=by rfl
theorem B0(w n:Nat):BitVec.ofInt w (n:Int)=BitVec.ofNat w n:=BitVec.ofInt_natCast ..
theorem Pv(x y:BitVec 32):IntKind.u32.wrap (((BitVec.ofInt IntKind.u32.bits (x.toNat:Int) ^^^ BitVec.ofInt IntKind.u32.bits (y.toNat:Int)).toNat:Nat):Int)=((x ^^^ y).toNat:Int):=by
 have e:∀z:BitVec 32,BitVec.ofInt IntKind.u32.bits (z.toNat:Int)=z:=fun z=>by
  show BitVec.ofInt 32 (z.toNat:Int)=z
  simp
 rw[e,e];exact w32 _ (x ^^^ y).isLt
theorem UO(x:BitVec 32):IntKind.u32.wrap (((BitVec.ofInt IntKind.u32.bits (x.toNat:Int) ^^^ BitVec.ofInt IntKind.u32.bits (3988292384:Int)).toNat:Nat):Int)=((x ^^^ 0xedb88320#32).toNat:Int):=Pv x 0xedb88320#32
theorem Xj(x:BitVec 32):IntKind.u32.wrap (((BitVec.ofInt IntKind.u32.bits (if IntKind.u32.signed=true then -1 else IntKind.u32.max) ^^^ BitVec.ofInt IntKind.u32.bits (x.toNat:Int)).toNat:Nat):Int)=((~~~ x).toNat:Int):=by have:=Pv (BitVec.allOnes 32) x;exact agc
theorem Wg(x:BitVec 32):IntKind.u32.wrap (((BitVec.ofInt IntKind.u32.bits (x.toNat:Int) &&& BitVec.ofInt IntKind.u32.bits (1:Int)).toNat:Nat):Int)=((x &&& 1#32).toNat:Int):=by
 have e:BitVec.ofInt IntKind.u32.bits (x.toNat:Int)=x:=by
  show BitVec.ofInt 32 (x.toNat:Int)=x
  simp
 rw[e];exact w32 _ (x &&& 1#32).isLt
theorem Xz(x:BitVec 32):(x.toNat:Int).fdiv (2 ^ (min (1:Int).toNat IntKind.u32.bits))=((x>>>1).toNat:Int):=by
 show(x.toNat:Int).fdiv (2 ^ 1)=_
 grind [Int.fdiv_eq_ediv_of_nonneg,Nat.shiftRight_eq_div_pow]
theorem aag(n:Nat)(k:Nat)(hk:k≤24):(n:Int).fdiv (2 ^ (min (k:Int).toNat IntKind.u32.bits))=((n / 2 ^ k:Nat):Int):=by grind [min,Int,IntKind.bits,Int.fdiv_eq_ediv_of_nonneg,Int.le_of_lt,Int.pow_pos]
theorem Z6(a b k:Nat)(ha:a<2 ^ k)(hk:k≤24)(hb:b<256):IntKind.u32.wrap (((BitVec.ofInt IntKind.u32.bits (a:Int)|||BitVec.ofInt IntKind.u32.bits ((b*2 ^ k:Nat):Int)).toNat:Nat):Int)=((a+b*2 ^ k:Nat):Int):=by
 have h24:2 ^ k≤2 ^ 24:=Nat.pow_le_pow_right afy hk;have hbk:b*2 ^ k≤255*2 ^ 24:=Nat.mul_le_mul afu h24;have e1:(BitVec.ofNat 32 a|||BitVec.ofNat 32 (b*2 ^ k)).toNat=a+b*2 ^ k:=by exact akz
 show IntKind.u32.wrap (((BitVec.ofInt 32 (a:Int)|||BitVec.ofInt 32 ((b*2 ^ k:Nat):Int)).toNat:Nat):Int)=_
 rw[B0,B0,e1]
 grind [w32]
theorem Xy(b k:Nat)(hk:k≤24)(hb:b<256):IntKind.u32.wrap ((b:Int)*2 ^ (min (k:Int).toNat IntKind.u32.bits))=((b*2 ^ k:Nat):Int):=by
 have h24:2 ^ k≤2 ^ 24:=Nat.pow_le_pow_right afy hk;have hbk:b*2 ^ k≤255*2 ^ 24:=Nat.mul_le_mul afu h24;have:min (k:Int).toNat IntKind.u32.bits=k:=aje;rw[this,show((b:Int)*2 ^ k)=((b*2 ^ k:Nat):Int) by simp]
 exact w32 _ afu
section
variable {U : TypeId → TI} {ty : TypeId} {K : AV → Prop}
@[go_sem high] theorem afh(x y:BitVec 32):cy U .xor ty (.v (.int .u32 (x.toNat:Int))) (.v (.int .u32 (y.toNat:Int))) K=K (.v (.int .u32 ((x ^^^ y).toNat:Int))):=by rw[R6,Pv]
@[go_sem high] theorem ac5(x:BitVec 32):cy U .xor ty (.v (.int .u32 (x.toNat:Int))) (.v (.int .u32 3988292384)) K=K (.v (.int .u32 ((x ^^^ 0xedb88320#32).toNat:Int))):=by rw[R6,UO]
@[go_sem high] theorem Zw(x:BitVec 32):cy U .and ty (.v (.int .u32 (x.toNat:Int))) (.v (.int .u32 1)) K=K (.v (.int .u32 ((x &&& 1#32).toNat:Int))):=by rw[MG,Wg]
@[go_sem high] theorem Zy(x:BitVec 32)(kk:IntKind):cy U .shr ty (.v (.int .u32 (x.toNat:Int))) (.v (.int kk 1)) K=K (.v (.int .u32 ((x>>>1).toNat:Int))):=by grind [MH,Xz]
@[go_sem high] theorem aal(x:BitVec 32):unA .xor (.v (.int .u32 (x.toNat:Int))) K=K (.v (.int .u32 ((~~~ x).toNat:Int))):=by rw[yC,Xj]
theorem MN(n k:Nat)(kk:IntKind)(hk:k≤24):cy U .shr ty (.v (.int .u32 (n:Int))) (.v (.int kk (k:Int))) K=K (.v (.int .u32 ((n / 2 ^ k:Nat):Int))):=by grind [MH,aag]
theorem MM(a b k:Nat)(ha:a<2 ^ k)(hk:k≤24)(hb:b<256):cy U .or ty (.v (.int .u32 (a:Int))) (.v (.int .u32 ((b*2 ^ k:Nat):Int))) K=K (.v (.int .u32 ((a+b*2 ^ k:Nat):Int))):=by grind [Wj,Z6]
theorem Gk(b k:Nat)(kk:IntKind)(hk:k≤24)(hb:b<256):cy U .shl ty (.v (.int .u32 (b:Int))) (.v (.int kk (k:Int))) K=K (.v (.int .u32 ((b*2 ^ k:Nat):Int))):=by grind [R5,Xy]
end
section
variable {P : Program} {U : TypeId → TI} {n : Nat} {ρ : Env} {h0 h h' : Heap} {tb : TypeId} {y v : AV} {l m : List UInt8} {Q : AV → Heap → Prop}
end
section
variable {U : TypeId → TI} {ty : TypeId} {K : AV → Prop}
end
section
variable {P : Program} {U : TypeId → TI} {n : Nat} {ρ : Env} {h : Heap}
section
variable (all : List Oper) (bs : List Bool) (r : List Oper) (K : Env → Heap → Prop)
end
theorem ai.of_wp{f:FuncId}{fn:Func}{c:Code}{args:List AV}{Q:AV→Heap→Prop}(hU:∀t,aQ P U t)(hf:P.funcs[f]? =some fn)(hb:fn.body=some c)
  (hn : (fn.name == "runtime.NumGoroutine") = false) (m : Nat) (hm' : fn.ntmps = m) (rs : List ResultVar) (hr : fn.results.toList = rs) (hl : args.length ≤ m)
  (hk:WP P m c (za args) h (wK U rs Q)):ai P f args h Q:=by
 subst hm';subst hr
 exact ai.Oh hU hf hb hn hl fun _=>hk
end
section
variable {P : Program} {U : TypeId → TI} {n : Nat} {ρ : Env} {h : Heap}
def KCut(I:Env→Heap→Prop)(K:Exit→Env→Heap→Prop):Exit→Env→Heap→Prop:=KSeq I K
theorem V3(I:Env→Heap→Prop)(K:Exit→Env→Heap→Prop):KCut I K .ret ρ h=K .ret ρ h:=(rfl)
theorem WP.cut{c d:Code}{K:Exit→Env→Heap→Prop}(I:Env→Heap→Prop)(hc:WP P n c ρ h (KCut I K))(hd:∀ρ h,I ρ h→WP P n d ρ h K):WP P n (.seq c d) ρ h K:=
 WP.seq (hc.weaken fun e ρ h hk=>by
  cases e with
  |normal=>exact hd ρ h hk
  |_=>exact hk)
theorem WP.vc(hU:∀t,aQ P U t)(hm:P.follows .mixedOrders=true){c:Code}{K:Exit→Env→Heap→Prop}(hk:bI P U n c ρ h K):WP P n c ρ h K:=dW hU hm c ρ h K hk
def KNext(P:Program)(n:Nat)(d:Code)(K:Exit→Env→Heap→Prop):Exit→Env→Heap→Prop:=KSeq (WP P n d · · K) K
theorem PJ(d:Code)(K:Exit→Env→Heap→Prop):KNext P n d K .normal ρ h=WP P n d ρ h K:=(rfl)
theorem U4(d:Code)(K:Exit→Env→Heap→Prop):KNext P n d K .ret ρ h=K .ret ρ h:=(rfl)
theorem SU(d:Code)(K:Exit→Env→Heap→Prop)(i:Nat):KNext P n d K (.goto i) ρ h=K (.goto i) ρ h:=(rfl)
theorem WP.one(hU:∀t,aQ P U t)(hm:P.follows .mixedOrders=true){c d:Code}{K:Exit→Env→Heap→Prop}(hk:bI P U n c ρ h (KNext P n d K)):WP P n (.seq c d) ρ h K:=WP.seq (dW hU hm c ρ h _ hk)
attribute [go_sem↓] V3 PJ U4 SU
end
section
variable {P : Program} {U : TypeId → TI} {n : Nat} {ρ : Env} {h : Heap}
variable {d : Option Tmp} {t : TypeId} {p : String} {a : Array Edge} {g : Option (Nat × Bool)} {Q : AV → Heap → Prop} {k : AV → Prop}
theorem Yd(x y:TypeId)(k:TK→Prop):atK (.map x y) k=k (.map x y):=(rfl)
theorem Wp(i:Nat):AV.cells (.mp i)= [.mp i]:=(rfl)
theorem ZK(i m:Nat):fit (.mp i) m=(m=1):=(rfl)
theorem YO(l:List UInt8):gY .str (.s l)=(l.length≤maxLen):=(rfl)
def mpL(b:Blk)(f:List (AV×AV)→Prop):Prop:=match b with
 |.mp m=>f m
 |_=>False
@[congr] theorem VG{b b' :Blk}{f:List (AV×AV)→Prop}(e:b=b'):mpL b f=mpL b' f:=by rw[e]
theorem ZU(m:List (AV×AV))(f:List (AV×AV)→Prop):mpL (.mp m) f=f m:=(rfl)
def Bs(tk:TK)(m:List (AV×AV)):Prop:=∀p∈m,gY tk p.1
def Ms(ti:TI):Prop:=ti.sz≠0∨ti.k= .strct []
def EY(U:TypeId→TI)(h:Heap)(u v:AV)(ok:Bool)(k:AV→Prop)(tk:TK):Prop:=match tk,u with
 |.map kt e,.mp id=>gY (U kt).k v∧Ms (U e)∧aF (h id) fun b=>mpL b fun m=>Bs (U kt).k m∧k (zK U e m v ok)
 |_,_=>False
@[congr] theorem Sm{u u' v v' :AV}{ok:Bool}{k:AV→Prop}{tk:TK}(h1:u=u')(h2:v=v'):EY U h u v ok k tk=EY U h u' v' ok k tk:=by grind
theorem Xe(kt e:TypeId)(id:Nat)(v:AV)(ok:Bool):EY U h (.mp id) v ok k (.map kt e)=(gY (U kt).k v∧Ms (U e)∧aF (h id) fun b=>mpL b fun m=>Bs (U kt).k m∧k (zK U e m v ok)):=(rfl)
attribute [go_sem] Yd Wp ZK YO
attribute [go_sem↓] ZU Xe
theorem Xo(mt:TypeId)(x y:Operand)(ok:Bool):bg P U ρ h ⟨d,.lookup mt x y ok,t,p,a,g⟩ Q=aF (ev ρ x) fun u=>aF (ev ρ y) fun v=>atK (U mt).k (EY U h u v ok (atH Q h)):=by
 simp only[bg,pv,cc,atK]
 congr 1
 funext u
 congr 1
 funext v
 cases (U mt).k with
 |map kt e=>
  cases u with
  |mp id=>
   simp only[EY]
   congr 2
   exact ajW
  |_=>rfl
 |_=>rfl
def OD(U:TypeId→TI)(h:Heap)(u v w:AV)(Q:AV→Heap→Prop)(tk:TK):Prop:=match tk,u with
 |.map kt e,.mp id=>gY (U kt).k v∧aF (h id) fun b=>mpL b fun m=>Bs (U kt).k m∧Q (.v undef) (upd h id (some (.mp (Bc m v w))))
 |_,_=>False
@[congr] theorem Un{u u' v v' w w' :AV}{tk:TK}(h1:u=u')(h2:v=v')(h3:w=w'):OD U h u v w Q tk=OD U h u' v' w' Q tk:=by grind
theorem Y3(kt e:TypeId)(id:Nat)(v w:AV):OD U h (.mp id) v w Q (.map kt e)=(gY (U kt).k v∧aF (h id) fun b=>mpL b fun m=>Bs (U kt).k m∧Q (.v undef) (upd h id (some (.mp (Bc m v w))))):=(rfl)
attribute [go_sem↓] Xo Y3
theorem Ss(mt:TypeId)(x y z:Operand):bg P U ρ h ⟨d,.mapUpdate mt x y z,t,p,a,g⟩ Q=aF (ev ρ x) fun u=>aF (ev ρ y) fun v=>aF (ev ρ z) fun w=>atK (U mt).k (OD U h u v w Q):=by
 simp only[bg,cc,atK]
 congr 1
 funext u
 congr 1
 funext v
 congr 1
 funext w
 cases (U mt).k with
 |map kt e=>
  cases u with
  |mp id=>
   simp only[OD]
   congr 1
   exact ajW
  |_=>rfl
 |_=>rfl
def V7(h:Heap)(Q:AV→Heap→Prop):Prop:=∀id,h id=none→Q (.mp id) (upd h id (some (.mp [])))
attribute [go_sem↓] Ss
@[go_sem↓] theorem VR(mt:TypeId):bg P U ρ h ⟨d,.makeMap mt none,t,p,a,g⟩ Q=V7 h Q:=by simp only[bg,JE,true_and];rfl
end
def Bb(ls:List (List UInt8)):List (AV×AV):=ls.map fun l=>(.s l,.agg [])
theorem Ew(ls:List (List UInt8))(l:List UInt8):getM (Bb ls) (.s l)=if l∈ls then some (.agg [])else none:=by
 induction ls with
 |nil=>rfl
 |cons x ls ih=>
  simp only[getM,Bb,List.map_cons,List.find?_cons,tu]at ih⊢
  grind
theorem OX{l:List UInt8}(hn:l∉ls):Bc (Bb ls) (.s l) (.agg [])=Bb (ls++ [l]):=by unfold Bc;rw[Ew,if_neg hn];simp[Bb]
theorem Le(U:TypeId→TI)(e:TypeId)(he:(U e).sz=0)(ls:List (List UInt8))(l:List UInt8):zK U e (Bb ls) (.s l) true= .tup [.agg [],.b (decide (l∈ls))]:=by
 simp only[zK,Ew,kW,he,if_true]
 grind
theorem K9(h:∀l∈ls,l.length≤maxLen):Bs .str (Bb ls):=fun p hp=>by obtain⟨l,hl,rfl⟩:=List.mem_map.1 hp;exact h l hl
section
variable {c:Cx}{w':World}{vs:List Value}
variable {P : Program} {f : FuncId} {args : List AV} {h h' : Heap} {Q : AV → Heap → Prop}
theorem Ext.below(hb:Go.RowKit.Below c.w.heap.size c.w w'):Ext c {c with w:=w'} where
 os:=hb.os
 tape:=hb.tape
 output:=hb.output
 size:=hb.size
 block:=fun b h _=>hb.block b h
 cell:=fun b o h _=>by simp only[World.cell?,hb.block b h]
 shape:=fun b cs t fr h=>⟨cs,fr,(hb.block b (dw h)).trans h,rfl⟩
 steal:=fun _ _ _ h=>h
 obj:=fun _ cs _ h=>⟨rfl,cs,h,rfl⟩
 spare:=fun _ n _ h=>⟨n,h,.inl ⟨rfl,rfl⟩⟩
 mp:=fun _ m h=>⟨rfl,m,h⟩
 ro:=fun _ _ _ h=>⟨rfl,h⟩
theorem Good.below(g:Good c)(hb:Go.RowKit.Below c.w.heap.size c.w w'):Good {c with w:=w'} where
 fin:=g.fin
 inj:=g.inj
 obj:=fun id cs t h=>by obtain⟨vs,a1,a2,a3⟩:=g.obj id cs t h;exact⟨vs,(hb.block _ (dw a1)).trans a1,a2,fun j hj=>⟨(a3 j hj).1.mono (.below hb),(a3 j hj).2⟩⟩
 spare:=fun id n sz h=>by obtain⟨a0,vs,t,fr,a1,a2⟩:=g.spare id n sz h;exact⟨a0,vs,t,fr,(hb.block _ (dw a1)).trans a1,a2⟩
 mp:=fun id m h=>by obtain⟨es,cl,a1,a2,a3⟩:=g.mp id m h;exact⟨es,cl,(hb.block _ (dw a1)).trans a1,a2,fun i hi hi' =>⟨(a3 i hi hi').1,(a3 i hi hi').2.mono (.below hb)⟩⟩
 keys:=g.keys
 ro:=fun id b vs h=>g.oF (.below hb) h
theorem ai.lib{X:AV}(hc:callable P f)(hf:∀c (vs:Array Value),Sub h c.h→Good c→vs.size=args.length→(∀i (hi:i<args.length),Rep c args[i] (vs.getD i undef))→
  Calls P f vs c.w fun e w' =>(∃u,e= .returned u∧∀c',Ext c c'→Rep c' X u)∧Go.RowKit.Below c.w.heap.size c.w w'):ai P f args h fun r h' =>r=X∧h' =h:=by
 refine fun c vs hs g h1 h2=> .inl ⟨hc,(hf c vs hs g h1 h2).mono ?_⟩
 rintro e w' ⟨⟨u,rfl,hu⟩,hb⟩
 exact⟨u,rfl,{c with w:=w'},X,h,rfl,g.below hb,.below hb,hu _ (.below hb),hs,rfl,rfl⟩
def Tab(h:Heap)(b:Nat)(vs:List Value):Prop:=∃id,h id=some (.ro b vs)
theorem Tab.sub{b:Nat}(ht:Tab h b vs)(hs:Sub h h'):Tab h' b vs:=let ⟨id,hi⟩:=ht;⟨id,hs _ _ hi⟩
theorem Tab.var{b:Nat}{name:String}(ht:Tab h b vs)(hn:P.globalNamed name=some b)(hs:Sub h c.h)(g:Good c):c.w.var? P name=some vs.toArray:=by
 obtain⟨id,hi⟩:=ht;obtain⟨_,t,fr,h2⟩:=g.ro id b vs (hs _ _ hi)
 grind [World.var?]
end
def yd(ts:List (Nat×List Value)):Heap:=fun i=>(ts[i]?).map fun p=> .ro p.1 p.2
def cxT(w:World)(ts:List (Nat×List Value)):Cx:=⟨w,fun i=>⟨((ts[i]?).map (·.1)).getD 0,0,none⟩,yd ts⟩
theorem Ou(w:World)(ts:List (Nat×List Value))(b o:Nat):¬owned (cxT w ts) b o:=by
 rintro⟨id,k,h,_,h3⟩
 simp only[cxT,yd,Option.map_eq_some_iff]at h;obtain⟨p,_,rfl⟩:=h;exact h3
theorem WY(w:World)(ts:List (Nat×List Value))(hd:ts.Pairwise fun p q=>p.1≠q.1)(ht:∀p∈ts,∃(t:TypeId) (fr:Nat×Nat),w.heap[p.1]? =some (.cells p.2.toArray t fr)):Good (cxT w ts) where
 fin:=⟨ts.length,fun id h=>by simp[cxT,yd,List.getElem?_eq_none h]⟩
 inj:=fun i j k l h1 h2 hne=>by
  simp only[cxT,yd,Option.map_eq_some_iff]at h1 h2;obtain⟨p,hp,rfl⟩:=h1;obtain⟨q,hq,rfl⟩:=h2;simp only[cxT,hp,hq,Option.map_some,Option.getD_some];obtain⟨hi,rfl⟩:=List.getElem?_eq_some_iff.1 hp
  grind [List.pairwise_iff_getElem,Nat.lt_or_gt_of_ne]
 obj:=fun id cs t h=>by simp_all [cxT,yd,Option.map_eq_some_iff]
 spare:=fun id n sz h=>by simp_all [cxT,yd,Option.map_eq_some_iff]
 mp:=fun id m h=>by simp_all [cxT,yd,Option.map_eq_some_iff]
 keys:=fun id m h=>by simp_all [cxT,yd,Option.map_eq_some_iff]
 ro:=fun id b vs h=>by simp only[cxT,yd,Option.map_eq_some_iff]at h;obtain⟨p,hp,h⟩:=h;cases h;refine⟨by grind [cxT],ht p afv⟩
theorem ai.Tg{P:Program}{f:FuncId}{args:List AV}{b:Value}{vs:Array Value}{w:World}{ts:List (Nat×List Value)}(hc:callable P f)(hf:ai P f args (yd ts) fun r _=>r= .v b)(hd:ts.Pairwise fun p q=>p.1≠q.1)
  (ht:∀p∈ts,∃(t:TypeId) (fr:Nat×Nat),w.heap[p.1]? =some (.cells p.2.toArray t fr)) (hv:vs.size=args.length) (hr:∀i (hi:i<args.length),Rep (cx0 w) args[i] (vs.getD i undef)):
  Calls P f vs w fun e w' =>e= .returned b∧Go.RowKit.Below w.heap.size w w' :=by
 have hE:Ext (cx0 w) (cxT w ts):=⟨rfl,rfl,rfl,Nat.le_refl _,fun _ _ _=>rfl,fun _ _ _ _=>rfl,fun _ cs _ fr h=>⟨cs,fr,h,rfl⟩,fun b o _ h=>(Ou w ts b o h).elim,
  fun _ _ _ h=>agp,fun _ _ _ h=>agp,fun _ _ h=>agp,fun _ _ _ h=>agp⟩
 refine((hf (cxT w ts) vs (fun _ _ h=>h) (WY w ts hd ht) hv fun i hi=>(hr i hi).mono hE).calls hc).mono ?_
 rintro e w' ⟨u,rfl,c',x,h',rfl,g',hE,hx,hs,rfl⟩
 rw[hx.bV];exact⟨rfl,hE.os,hE.tape,hE.output,hE.size,fun k hk=>hE.block k hk fun o=>Ou w ts k o⟩
mutual
def strip:AV→AV
 |.sl xs _=> .sl (gy xs) .no
 |.agg xs=> .agg (gy xs)
 |.tup xs=> .tup (gy xs)
 |.v x=> .v x
 |.s l=> .s l
 |.pe x o=> .pe x o
 |.ptr i o=> .ptr i o
 |.oa i o l=> .oa i o l
 |.ifc t x=> .ifc t x
 |.fn f c=> .fn f c
 |.mp i=> .mp i
 |.ob i o l c s=> .ob i o l c s
def gy:List AV→List AV
 | []=>[]
 |x::r=>strip x::gy r
end
theorem fD:∀xs:List AV,(gy xs).length=xs.length
 | []=>rfl
 |x::r=>by simp[gy,fD r]
theorem gW:∀(xs:List AV) (i:Nat) (h1:i<xs.length) (h2:i<(gy xs).length),(gy xs)[i]=strip xs[i]
 |x::r,0,h1,h2=>afJ
 |x::r,i+1,h1,h2=>by simpa[gy]using gW r i afv (by grind [gy])
theorem xH(x:AV):(strip x).cells=match x with|.agg xs=>gy xs|_=>[strip x]:=by cases x<;>simp[strip,AV.cells]
mutual
theorem fO:∀x:AV,Weak x (strip x)
 |.sl xs p=> .deep _ _ p (fD xs).symm (fun i h1 h2=>by rw[gW xs i h1 h2,xH];have:=oI xs i h1;cases hx:xs[i]<;>simp[AV.cells,fD])
   (fun i h1 h2 j h3 h4=>by have hw:=oI xs i h1;have e:=gW xs i h1 h2;exact hw (gy xs)[i] e j h3 h4)
 |.agg xs=> .agg _ _ (fD xs).symm fun i h1 h2=>ah1
 |.tup xs=> .tup _ _ (fD xs).symm fun i h1 h2=>ah1
 |.v x=> .refl _
 |.s l=> .refl _
 |.pe x o=> .refl _
 |.ptr i o=> .refl _
 |.oa i o l=> .refl _
 |.ifc t x=> .refl _
 |.fn f c=> .refl _
 |.mp i=> .refl _
 |.ob i o l c s=> .refl _
theorem mA:∀(xs:List AV) (i:Nat) (h:i<xs.length),Weak xs[i] (strip xs[i])
 |x::r,0,h=>fO x
 |x::r,i+1,h=>mA r i (by simpa using h)
theorem oI:∀(xs:List AV) (i:Nat) (h:i<xs.length) (y:AV),y=strip xs[i]→∀(j:Nat) (h3:j<xs[i].cells.length) (h4:j<y.cells.length),Weak xs[i].cells[j] y.cells[j]
 |x::r,0,h,y,e,j,h3,h4=>Iw x y e j h3 h4
 |x::r,i+1,h,y,e,j,h3,h4=>oI r i (by simpa using h) y e j h3 h4
theorem Iw:∀(x y:AV),y=strip x→∀(j:Nat) (h3:j<x.cells.length) (h4:j<y.cells.length),Weak x.cells[j] y.cells[j]
 |.agg xs,y,e,j,h3,h4=>by subst e;simp only[strip,AV.cells]at h4⊢;rw[gW xs j h3 h4];exact mA xs j h3
 |.sl xs p,y,e,j,h3,h4=>by
  subst e;simp only[strip,AV.cells,List.length_singleton]at h3 h4⊢;obtain rfl:j=0:=afu;exact .deep _ _ p (fD xs).symm (fun i h1 h2=>by rw[gW xs i h1 h2,xH];cases hx:xs[i]<;>simp[AV.cells,fD])
   (fun i h1 h2 j h3 h4=>oI xs i h1 _ (gW xs i h1 h2) j h3 h4)
 |.tup xs,y,e,j,h3,h4=>by subst e;simp only[strip,AV.cells,List.length_singleton]at h3 h4⊢;obtain rfl:j=0:=afu;exact .tup _ _ (fD xs).symm fun i h1 h2=>ah1
 |.v x,y,e,j,h3,h4=>agI
 |.s l,y,e,j,h3,h4=>agI
 |.pe x o,y,e,j,h3,h4=>agI
 |.ptr i o,y,e,j,h3,h4=>agI
 |.oa i o l,y,e,j,h3,h4=>agI
 |.ifc t x,y,e,j,h3,h4=>agI
 |.fn f c,y,e,j,h3,h4=>agI
 |.mp i,y,e,j,h3,h4=>agI
 |.ob i o l c s,y,e,j,h3,h4=>agI
end
section
variable {x:IntKind}
variable {P : Program} {U : TypeId → TI} {n : Nat} {ρ : Env} {h0 h h' : Heap} {tb : TypeId} {y v : AV} {xs zs : List AV} {Q : AV → Heap → Prop} {f : FuncId} {args : List AV}
def One(xs:List AV):Prop:=∀x∈xs,bB x=false
theorem o9{x:AV}(h:bB x=false):x.cells= [x]:=by cases x<;>first|rfl|(cases h)
theorem One.sized(h:One xs):Sized 1 xs:=fun z hz=>by rw[o9 (h z hz)];rfl
theorem One.map{α:Type}{g:α→AV}(hg:∀a,bB (g a)=false)(l:List α):One (l.map g):=fun x hx=>by grind
def Gc(tb:TypeId)(h:Heap)(y:AV)(xs:List AV):Prop:=
 (∃q,y= .sl xs q)∨∃id off cs,y= .oa id off xs.length∧h id=some (.obj cs tb)∧off+xs.length≤cs.length∧(cs.drop off).take xs.length=xs
theorem Gc.sl(xs:List AV)(q:Perm):Gc tb h (.sl xs q) xs:=.inl ⟨q,rfl⟩
theorem Gc.len(hb:Gc tb h y xs)(e:TypeId)(k:AV→Prop):xW y k (.slice e)=k (.i xs.length):=by exact akJ
def AtP(U:TypeId→TI)(tb:TypeId)(h:Heap)(p x:AV):Prop:=∀k:AV→Prop,oA U h tb p k=k x
theorem Gc.idx(hb:Gc tb h y xs)(ho:One xs){m:Int}{K:AV→Prop}(j:Nat)(hm:m=j)(hj:j<xs.length)(hz:(U tb).sz=1)(ha:(U tb).k.agg=false)
  (hk:∀p,AtP U tb h p xs[j]→K p):qd U y (.v (.int x m)) K (.slice tb):=by
 subst hm;have h1:=ho xs[j] afB;rcases hb with⟨q,rfl⟩|⟨id,off,cs,rfl,g1,g2,g3⟩
 ·refine(vM ..).mpr ⟨afu,?_⟩
  refine fF.at j hj (by grind [o9]) ?_
  refine hk _ fun k=>?_
  simp_all [oA,MA,o9,List.length_cons,List.length_nil,Nat.zero_add,and_self,if_true]
 ·refine(BM ..).mpr ⟨afu,afu,afu,?_⟩
  refine hk _ fun k=>?_
  have e1:cs[off+j]? =some xs[j]:=by grind
  simp only[oA,g1,dQ,Di,hz,Nat.mul_one,Int.toNat_natCast,Fh,ha,Br,e1];simp
def WrA(tb:TypeId)(h0 h:Heap)(y:AV)(xs:List AV):Prop:=
 Sub h0 h∧((xs= []∧y= .sl [] .full)∨∃id cs,h0 id=none∧y= .oa id 0 xs.length∧h id=some (.obj cs tb)∧xs.length≤cs.length∧cs.take xs.length=xs)
theorem WrA.nil(hs:Sub h0 h):WrA tb h0 h (.sl [] .full) []:=⟨hs,.inl ⟨rfl,rfl⟩⟩
theorem WrA.seq(hw:WrA tb h0 h y xs):Gc tb h y xs:=by
 obtain⟨_,⟨rfl,rfl⟩|⟨id,cs,_,rfl,h1,h2,h3⟩⟩:=hw
 ·exact aia
 ·exact .inr ⟨id,0,cs,rfl,h1,afu,afv⟩
theorem WrA.sub(hw:WrA tb h0 h y xs)(hs:Sub h h'):WrA tb h0 h' y xs:=by
 obtain⟨h1,hw|⟨id,cs,a,e,b,c,d⟩⟩:=hw
 ·exact⟨h1.trans hs,.inl hw⟩
 ·exact⟨h1.trans hs,.inr ⟨id,cs,a,e,hs _ _ b,c,d⟩⟩
theorem WrA.base(hw:WrA tb h0 h y xs){id:Nat}(hid:h id=none)(b:Option Blk):WrA tb (upd h0 id b) (upd h id b) y xs:=by
 obtain⟨h1,hw⟩:=hw;have h2:Sub (upd h0 id b) (upd h id b):=fun j k hj=>by
  by_cases e:j=id
  ·grind [ah]
  ·rw[ag _ _ e]at hj⊢;exact h1 _ _ hj
 rcases hw with hw|⟨i,cs,a,e,c,d⟩
 ·exact⟨h2,.inl hw⟩
 ·have hne:i≠id:=fun hh=>by subst hh;rw[hid]at c;cases c
  exact⟨h2,.inr ⟨i,cs,af8,e,af8,d⟩⟩
theorem WrA.less(hw:WrA tb h' h y xs)(hs:Sub h0 h'):WrA tb h0 h y xs:=by
 obtain⟨h1,hw|⟨i,cs,a,e,c,d⟩⟩:=hw
 ·exact⟨hs.trans h1,.inl hw⟩
 ·exact⟨hs.trans h1,.inr ⟨i,cs,hs.none a,e,c,d⟩⟩
theorem WrA.len(hw:WrA tb h0 h y xs)(e:TypeId)(k:AV→Prop):xW y k (.slice e)=k (.i xs.length):=hw.seq.len e k
theorem WrA.idx(hb:WrA tb h0 h y xs)(ho:One xs){m:Int}{K:AV→Prop}(j:Nat)(hm:m=j)(hj:j<xs.length)(hz:(U tb).sz=1)(ha:(U tb).k.agg=false)
  (hk:∀p,AtP U tb h p xs[j]→K p):qd U y (.v (.int x m)) K (.slice tb):=hb.seq.idx ho j hm hj hz ha hk
theorem WrA.cut(hw:WrA tb h0 h y xs){hi:Operand}{m:Int}{K:AV→Prop}(j:Nat)(hm:ev ρ hi=some (.v (.int x m)))(hj:m=j)(hl:j≤xs.length)(hz:(U tb).sz=1)
  (hk:∀z,WrA tb h0 h z (xs.take j)→K z):iB U ρ y none (some hi) none K (.slice tb):=by
 subst hj;have hs:=hw.1;obtain⟨_,⟨rfl,rfl⟩|⟨id,cs,h1,rfl,h2,h3,h4⟩⟩:=hw
 ·rw[rY,fX,hm]
  refine⟨afu,?_⟩;have:j=0:=afv;subst this;refine⟨afu,afB,?_⟩;exact hk _ (.nil hs)
 ·rw[sH]
  refine⟨afu,fun _=>hz,?_⟩
  simp only[nj,fX,hm,dQ,ot];refine⟨afu,afu,afu,?_⟩;have e:(xs.take j).length=j:=afv;have:=hk (.oa id 0 (xs.take j).length) ⟨hs,.inr ⟨id,cs,h1,rfl,h2,afu,afv⟩⟩;rw[e]at this;simpa using this
theorem WrA.app(hw:WrA tb h0 h y xs)(ho:One xs)(hoz:One zs)(hz:(U tb).sz=1)(hb:(U tb).bytes≠0)(hf:fit (U tb).zero 1)(hn:bB (U tb).zero=false)(hsrc:∀k:List AV→Prop,k zs→iY U tb h v k)
  (hlen:(xs.length+zs.length)*(U tb).bytes≤140737488355328) (hk:∀y' h',WrA tb h0 h' y' (xs++zs)→Q y' h'):apK U h y v Q (.slice tb):=by
 have hs:=hw.1;have one:Sized (U tb).sz zs:=by rw[hz];exact hoz.sized
 obtain⟨_,⟨rfl,rfl⟩|⟨id,cs,h1,rfl,h2,h3,h4⟩⟩:=hw
 ·refine(qX ..).mpr ⟨afu,hb,hsrc _ ⟨by simp[Sized],one,afu,fun hn' =>?_,fun hn' =>?_⟩⟩
  ·subst hn'
   exact hk _ _ (.nil hs)
  ·refine .oa hz hf hn hoz fun id k hid=>?_
   refine hk _ _ ⟨hs.new hid _,.inr ⟨id,_,hs.none hid,?_,ah ..,?_,?_⟩⟩
   ·simp
   ·simp
   ·simp
 ·refine⟨afu,hb,hz,hsrc _ ⟨afv,hoz,afu,?_⟩⟩
  rw[h2];refine⟨afu,?_,hf,hn,fun hle=>?_,fun id' k hid=>?_⟩
  ·rw[List.drop_zero,h4];exact ho
  ·have hsub:Sub h0 (upd h id (some (.obj (over cs (0+xs.length) zs) tb))):=fun j b hj=>by
    by_cases e:j=id
    ·grind
    ·rw[ag _ _ e];exact hs _ _ hj
   have ho' :(over cs (0+xs.length) zs).length=cs.length:=iV afu;refine hk _ _ ⟨hsub,.inr ⟨id,_,h1,afB,ah ..,afv,?_⟩⟩;rw[over,Nat.zero_add,h4,afn,List.take_append_of_le_length afB]
   grind
  ·refine hk _ _ ⟨hs.new hid _,.inr ⟨id',_,hs.none hid,afB,ah ..,?_,?_⟩⟩
   ·grind
   grind
end
end Go.Ab
namespace Go.Bf
open Go Go.Ab
variable {alg:Int}{nr nk:Nat}
abbrev Txt:=List UInt8
variable {s:Txt}
structure qU where
 cat:Int
 name:Txt
 must:Bool
structure bu where
 kind:Int
 n:Int
 s:Txt
structure bO where
 attr:qU
 op:Int
 val:bu
structure aP where
 op:Int
 val:bu
 attr:qU
structure cE where
 on:Int
 kind:Int
 arg:Txt
variable {obls:List cE}
abbrev gu:=List (List (List bO))
variable {tgt:gu}
structure cR where
 id:Txt
 deny:Bool
 tgt:gu
 cond:List aP
 obls:List cE
inductive bC where
 |mk (id:Txt) (set:Bool) (alg:Int) (tgt:gu) (rules:List cR) (kids:List bC) (obls:List cE)
def DT(a:qU):AV:=.agg [.i a.cat,.s a.name,.b a.must]
def aT(v:bu):AV:=.agg [.i v.kind,.i v.n,.s v.s]
def cU(m:bO):AV:=.agg [.i m.attr.cat,.s m.attr.name,.b m.attr.must,.i m.op,.i m.val.kind,.i m.val.n,.s m.val.s]
def cM(m:aP):AV:=.agg [.i m.op,.i m.val.kind,.i m.val.n,.s m.val.s,.i m.attr.cat,.s m.attr.name,.b m.attr.must]
def kj(b:Bool):AV:=.b b
def bh(o:cE):AV:=.agg [.i o.on,.i o.kind,.s o.arg]
def gv(l:List bO):AV:=.sl (l.map cU) .no
def cC(l:List (List bO)):AV:=.sl (l.map gv) .no
def aU(t:gu):AV:=.sl (t.map cC) .no
def eC(l:List aP):AV:=.sl (l.map cM) .no
def ay(l:List cE):AV:=.sl (l.map bh) .no
def aC(r:cR):AV:=.agg [.s r.id,.b r.deny,aU r.tgt,eC r.cond,ay r.obls]
mutual
def aM:bC→AV
 |.mk id set alg tgt rules kids obls=> .agg [.s id,.b set,.i alg,aU tgt,.sl (rules.map aC) .no,.sl (fl kids) .no,ay obls]
def fl:List bC→List AV
 | []=>[]
 |k::r=>aM k::fl r
end
theorem aR:∀l:List bC,fl l=l.map aM
 | []=>rfl
 |k::r=>by simp[fl,aR r]
def ltr(c:UInt8):Bool:=decide (97≤(c.toNat:Int)) && decide ((c.toNat:Int)≤122)
def dgt(c:UInt8):Bool:=decide (48≤(c.toNat:Int)) && decide ((c.toNat:Int)≤57)
def ue(c:UInt8)(i:Nat):Bool:=ltr c||(decide (i≠0) && (dgt c||(c.toNat:Int)==95))
def wM(l:Txt):Bool:=l.zipIdx.all fun p=>ue p.1 p.2
def bp(l:Txt):Bool:=wM l && decide (1≤l.length) && decide (l.length≤16)
def qZ(a:qU):Bool:=decide (1≤a.cat) && decide (a.cat≤4) && bp a.name
def bz(v:bu):Bool:=
 if v.kind=1 then(v.n==0||v.n==1) && v.s== []
 else if v.kind=2 then v.s== []
 else if v.kind=3 then v.n==0 && decide (v.s.length≤64)
 else if v.kind=4 then decide (0≤v.n) && decide (v.n≤1099511627776) && v.s== []
 else if v.kind=5 then v.n==0 && bp v.s
 else false
def lK(m:bO):Bool:=qZ m.attr && decide (1≤m.op) && decide (m.op≤3) && bz m.val
def kZ(n:Nat):Int:=if n=0 then 1 else if n>8 then 6 else 0
def iQ{α:Type}(f:α→Int):List α→Int
 | []=>0
 |x::r=>if f x=0 then iQ f r else f x
def xQ(l:List bO):Int:=if kZ l.length=0 then(if l.all lK then 0 else 1)else kZ l.length
def xR(l:List (List bO)):Int:=if kZ l.length=0 then iQ xQ l else kZ l.length
def mq(t:gu):Int:=if t.length>8 then 6 else iQ xR t
def ja(op:Int):Option (List Bool):=
 if op=1∨op=2 then some []
 else if op=3∨op=4 then some [true]
 else if op=5 then some [true,false]
 else if op=11 then some [false]
 else if 6≤op∧op≤13 then some [false,false]
 else none
def zeroV(v:bu):Bool:=v.kind==0 && (v.n==0 && v.s== [])
def zeroAt(a:qU):Bool:=a.cat==0 && (a.name== [] && a.must==false)
def ku(n:aP):Bool:=
 if n.op=1 then bz n.val && zeroAt n.attr
 else if n.op=2 then qZ n.attr && zeroV n.val
 else zeroV n.val && zeroAt n.attr
def iZ(st:List Bool)(n:aP):Option (List Bool):=match ja n.op with
 |none=>none
 |some w=>if ku n=true∧w.length≤st.length∧st.drop (st.length - w.length)=w then some (st.take (st.length - w.length)++ [n.op==2])else none
def gw(st:List Bool):List aP→Option (List Bool)
 | []=>some st
 |n::r=>match iZ st n with
  |none=>none
  |some st' =>gw st' r
def kY(l:List aP):Int:=if l.length>32 then 6 else match gw [] l with
 |none=>1
 |some st=>if l= []∨st= [false]then 0 else 1
def rO(o:cE):Bool:=decide (1≤o.on) && decide (o.on≤2) && decide (1≤o.kind) && decide (o.kind≤4) && bp o.arg
def iT(l:List cE):Int:=if l.length>8 then 6 else if l.all rO then 0 else 1
structure eS where
 met:List Txt
 rules:Nat
variable {m1:eS}
inductive Went where
 |bad (e:Int)
 |ok (m:eS)
def jC(m:eS)(s:Txt):Option eS:=if s∉m.met∧bp s=true then some ⟨m.met++ [s],m.rules⟩else none
def Went.err:Went→Int
 |.bad e=>e
 |.ok _=>0
def need(e:Int)(w:Went):Went:=if e=0 then w else .bad e
def gQ(m:eS)(r:cR):Went:=match jC m r.id with
 |none=> .bad 1
 |some m=>if m.rules+1>64 then .bad 6 else need (mq r.tgt) (need (kY r.cond) (need (iT r.obls) (.ok ⟨m.met,m.rules+1⟩)))
def fM(m:eS):List cR→Went
 | []=> .ok m
 |r::l=>match gQ m r with
  |.bad e=> .bad e
  |.ok m=>fM m l
def fB(m:eS)(id:Txt)(set:Bool)(alg:Int)(tgt:gu)(nr nk:Nat)(obls:List cE):Went:=match jC m id with
 |none=> .bad 1
 |some m=>if alg<1∨alg>6 then .bad 1
  else if set=true∧nr>0∨set=false∧(nk>0∨alg=4)then .bad 1
  else need (mq tgt) (need (iT obls) (if nr>16∨nk>16 then .bad 6 else .ok m))
mutual
def lC(m:eS)(d:Nat):bC→Went
 |.mk id set alg tgt rules kids obls=>
  if d>4 then .bad 6 else match fB m id set alg tgt rules.length kids.length obls with
  |.bad e=> .bad e
  |.ok m=>match fM m rules with
   |.bad e=> .bad e
   |.ok m=>jn m (d+1) kids
def jn(m:eS)(d:Nat):List bC→Went
 | []=> .ok m
 |k::r=>match lC m d k with
  |.bad e=> .bad e
  |.ok m=>jn m d r
end
def gV(p:bC):Int:=(lC ⟨[],0⟩ 1 p).err
def Hh(n:Nat):UInt8:=if n<10 then UInt8.ofNat (48+n)else UInt8.ofNat (87+n)
def uF(c:UInt8):Bool:=decide ((c.toNat:Int)<32)||decide (126<(c.toNat:Int))||(c.toNat:Int)==34||(c.toNat:Int)==92
def oU(c:UInt8):Txt:=if uF c then [92,Hh (c.toNat / 16),Hh (c.toNat % 16)]else [c]
def oV(l:Txt):Txt:=[34]++(l.map oU).flatten++ [34]
def kX(v:bu):Txt:=
 if v.kind=1 then Lib.formatBool (v.n==1)else if v.kind=4 then [64]++Lib.itoa v.n else if v.kind=5 then [35]++v.s else if v.kind=3 then oV v.s else Lib.itoa v.n
theorem wG{α:Type}(l:List α)(i:Nat)(h:i<l.length):(l.take (i+1)).zipIdx=(l.take i).zipIdx++ [(l[i],i)]:=by grind [List.take_succ_eq_append_getElem,Nat.min_eq_left,Nat.le_of_lt]
theorem Gm(l:Txt)(i:Nat)(h:i<l.length):wM (l.take (i+1))=(wM (l.take i) && ue l[i] i):=by grind [wM,wG]
theorem J7(l:Txt)(i:Nat)(h:i<l.length)(hb:ue l[i] i=false):wM l=false:=by rw[wM,List.all_eq_false];exact⟨(l[i],i),afv,afv⟩
theorem P8(c:UInt8):
  (decide (97≤(c.toNat:Int))=true∧decide ((c.toNat:Int)≤122)=true∧decide (48≤(c.toNat:Int))=true∧decide ((c.toNat:Int)≤57)=false∧((c.toNat:Int)==95)=false)∨
  (decide (97≤(c.toNat:Int))=false∧decide ((c.toNat:Int)≤122)=true∧decide (48≤(c.toNat:Int))=true∧decide ((c.toNat:Int)≤57)=true∧((c.toNat:Int)==95)=false)∨
  (decide (97≤(c.toNat:Int))=false∧decide ((c.toNat:Int)≤122)=true∧decide (48≤(c.toNat:Int))=true∧decide ((c.toNat:Int)≤57)=false∧((c.toNat:Int)==95)=true)∨
  (decide (97≤(c.toNat:Int))=false∧decide ((c.toNat:Int)≤122)=true∧decide (48≤(c.toNat:Int))=false∧decide ((c.toNat:Int)≤57)=true∧((c.toNat:Int)==95)=false)∨
  (decide (97≤(c.toNat:Int))=false∧decide ((c.toNat:Int)≤122)=true∧decide (48≤(c.toNat:Int))=true∧decide ((c.toNat:Int)≤57)=false∧((c.toNat:Int)==95)=false)∨
  (decide (97≤(c.toNat:Int))=true∧decide ((c.toNat:Int)≤122)=false∧decide (48≤(c.toNat:Int))=true∧decide ((c.toNat:Int)≤57)=false∧((c.toNat:Int)==95)=false):=by
 simp only[decide_eq_true_eq,decide_eq_false_iff_not,beq_iff_eq,beq_eq_false_iff_ne,ne_eq];omega
theorem wV{α:Type}{f:α→Int}{l:List α}{i:Nat}(h:i<l.length)(h0:iQ f (l.take i)=0)(h1:f l[i]=0):iQ f (l.take (i+1))=0:=by
 rw[List.take_succ_eq_append_getElem h];generalize l.take i=a at h0
 induction a with
 |nil=>grind [iQ]
 |cons x r ih=>
  simp only[iQ]at h0;split at h0
  ·simp_all [List.cons_append,iQ,if_true]
  omega
theorem BI{α:Type}{f:α→Int}{l:List α}{i:Nat}(h:i<l.length)(h0:iQ f (l.take i)=0)(h1:f l[i]≠0):iQ f l=f l[i]:=by
 induction l generalizing i with
 |nil=>cases h
 |cons x r ih=>
  cases i with
  |zero=>grind [iQ]
  |succ i=>
   simp only[List.take_succ_cons,iQ]at h0;split at h0
   ·rename_i hx
    simp only[iQ,hx,if_true,List.getElem_cons_succ]
    grind
   omega
theorem E4{e x:Int}{w:Went}(h:need e w= .bad x)(hw:w= .bad x→x≠0):x≠0:=by grind [need]
theorem Cg{m:eS}{r:cR}{e:Int}(h:gQ m r= .bad e):e≠0:=by grind [gQ,E4]
theorem BL{m:eS}{id:Txt}{set:Bool}{e:Int}(h:fB m id set alg tgt nr nk obls= .bad e):e≠0:=by grind [fB,E4]
theorem qw(m:eS):∀(l:List cR) (i:Nat),fM m l=(match fM m (l.take i)with
  |.bad e=> .bad e
  |.ok m1=>fM m1 (l.drop i))
 | [],i=>by simp[fM]
 |r::l,0=>afJ
 |r::l,i+1=>by
  simp only[List.take_succ_cons,List.drop_succ_cons,fM];cases gQ m r with
  |bad e=>rfl
  |ok m1=>simp only;exact qw m1 l i
theorem xB{m:eS}{l:List cR}{i:Nat}(hi:i<l.length)(h:fM m (l.take i)= .ok m1):fM m (l.take (i+1))=gQ m1 l[i]:=by
 rw[qw m _ i,List.take_take,Nat.min_eq_left afu,h,List.take_succ_eq_append_getElem hi,List.drop_append_of_le_length afv,List.drop_of_length_le afv]
 grind [fM,gQ]
theorem FF{m:eS}{l:List cR}{i:Nat}{e:Int}(hi:i<l.length)(h:fM m (l.take i)= .ok m1)(hr:gQ m1 l[i]= .bad e):fM m l= .bad e:=by rw[qw m l (i+1),xB hi h,hr]
theorem rL(m:eS)(d:Nat):∀(l:List bC) (i:Nat),jn m d l=(match jn m d (l.take i)with
  |.bad e=> .bad e
  |.ok m1=>jn m1 d (l.drop i))
 | [],i=>by simp[jn]
 |r::l,0=>afJ
 |r::l,i+1=>by
  simp only[List.take_succ_cons,List.drop_succ_cons,jn];cases lC m d r with
  |bad e=>rfl
  |ok m1=>simp only;exact rL m1 d l i
theorem zy{m:eS}{d:Nat}{l:List bC}{i:Nat}(hi:i<l.length)(h:jn m d (l.take i)= .ok m1):jn m d (l.take (i+1))=lC m1 d l[i]:=by
 rw[rL m d _ i,List.take_take,Nat.min_eq_left afu,h,List.take_succ_eq_append_getElem hi,List.drop_append_of_le_length afv,List.drop_of_length_le afv]
 grind [jn,lC]
theorem Hs{m:eS}{d:Nat}{l:List bC}{i:Nat}{e:Int}(hi:i<l.length)(h:jn m d (l.take i)= .ok m1)(hr:lC m1 d l[i]= .bad e):jn m d l= .bad e:=by rw[rL m d l (i+1),zy hi h,hr]
theorem QO(xs:List Txt)(B:Nat)(h:∀x∈xs,x.length≤B):Lib.lens xs≤xs.length*B:=by
 induction xs with
 |nil=>simp[Lib.lens]
 |cons x r ih=>
  have h1:=h x afB;have h2:=ih fun y hy=>h y afv
  simp only[Lib.lens,List.map_cons,List.sum_cons,List.length_cons,Nat.add_mul,Nat.one_mul]at h2⊢;omega
theorem GP(xs:List Txt)(n B:Nat)(hn:xs.length≤n)(h:∀x∈xs,x.length≤B):xs.flatten.length≤n*B:=by
 have h2:=QO xs B h;have h3:xs.length*B≤n*B:=Nat.mul_le_mul_right _ hn;have h4:xs.flatten.length=Lib.lens xs:=by rw[List.length_flatten];rfl
 omega
theorem BX(h:bp s=true):s.length≤16:=by grind [bp]
theorem B9(l:Txt)(h:l.length≤64):(oV l).length≤194:=by
 have:=GP (l.map oU) 64 3 afv fun x hx=>by grind [oU]
 unfold oV;simp only[afn,List.length_cons,List.length_nil];omega
theorem RG{v:bu}(h:bz v=true)(h1: -9223372036854775808≤v.n)(h2:v.n≤9223372036854775807):(kX v).length≤194:=by
 have hi:=Lib.itoa_length_le v.n h1 h2;unfold kX;unfold bz at h;split
 ·cases (v.n==1)<;>decide
 split
 ·simp only[afn,List.length_cons,List.length_nil];omega
 split
 ·rename_i k5
  simp only[k5]at h;simp at h;have:=BX h.2;simp only[afn,List.length_cons,List.length_nil];omega
 split
 ·rename_i k3
  simp only[k3]at h;simp at h;exact B9 _ h.2
 ·omega
theorem lB{l:List cE}(h:iT l=0):l.length≤8∧∀o∈l,rO o=true:=by grind [iT,List.all_eq_true]
theorem zL{n:Nat}(h:kZ n=0):0<n∧n≤8:=by grind [kZ]
theorem wW{α:Type}{f:α→Int}{l:List α}(h:iQ f l=0):∀x∈l,f x=0:=by
 induction l with
 |nil=>simp
 |cons y r ih=>
  simp only[iQ]at h
  grind
theorem Bt{l:List bO}(h:xQ l=0):0<l.length∧l.length≤8∧∀m∈l,lK m=true:=by
 unfold xQ at h;split at h
 ·simp_all [zL,List.all_eq_true]
 omega
theorem Bu{l:List (List bO)}(h:xR l=0):0<l.length∧l.length≤8∧∀m∈l,xQ m=0:=by
 unfold xR at h;split at h
 ·rename_i hm
  have:=zL hm;exact⟨this.1,this.2,wW h⟩
 omega
theorem Cp{l:gu}(h:mq l=0):l.length≤8∧∀m∈l,xR m=0:=by grind [mq,wW]
def inV(v:bu):Prop:= -9223372036854775808≤v.n∧v.n≤9223372036854775807
def inA(l:List bO):Prop:=∀m∈l,inV m.val
def inY(l:List (List bO)):Prop:=∀a∈l,inA a
def inT(t:gu):Prop:=∀a∈t,inY a
def inL(l:List aP):Prop:=∀n∈l,inV n.val
def inR(r:cR):Prop:=inT r.tgt∧inL r.cond
mutual
def inP:bC→Prop
 |.mk id set alg tgt rules kids obls=>inT tgt∧(∀r∈rules,inR r)∧inK kids
def inK:List bC→Prop
 | []=>True
 |k::r=>inP k∧inK r
end
theorem TQ:∀l:List bC,inK l↔∀k∈l,inP k
 | []=>by simp[inK]
 |k::r=>by simp[inK,TQ r]
theorem zc{l:List aP}(h:kY l=0)(hn:l≠ []):l.length≤32∧gw [] l=some [false]:=by grind [kY]
def FE(r:cR):Prop:=bp r.id=true∧mq r.tgt=0∧kY r.cond=0∧iT r.obls=0
mutual
def mU(d:Nat):bC→Prop
 |.mk id set alg tgt rules kids obls=>d≤4∧bp id=true∧1≤alg∧alg≤6∧(set=true→rules= [])∧(set=false→kids= []∧alg≠4)∧mq tgt=0∧iT obls=0∧rules.length≤16∧kids.length≤16∧(∀r∈rules,FE r)∧xh (d+1) kids
def xh(d:Nat):List bC→Prop
 | []=>True
 |k::r=>mU d k∧xh d r
end
theorem rK(d:Nat):∀l:List bC,xh d l↔∀k∈l,mU d k
 | []=>by simp[xh]
 |k::r=>by simp[xh,rK d r]
theorem zM{m m' :eS}(h:jC m s=some m'):bp s=true:=by grind [jC]
theorem rN{e:Int}{w:Went}{m:eS}(h:need e w= .ok m):e=0∧w= .ok m:=by grind [need]
theorem OM{m m' :eS}{r:cR}(h:gQ m r= .ok m'):FE r:=by
 unfold gQ at h;split at h
 ·cases h
 ·rename_i m1 hm
  split at h
  ·cases h
  ·obtain⟨h1,h⟩:=rN h
   obtain⟨h2,h⟩:=rN h;obtain⟨h3,h⟩:=rN h;exact⟨zM hm,h1,h2,h3⟩
theorem Ch:∀(l:List cR) (m m' :eS),fM m l= .ok m'→∀r∈l,FE r
 | [],_,_,_,r,hr=>afv
 |x::l,m,m',h,r,hr=>by
  simp only[fM]at h;cases hx:gQ m x with
  |bad e=>grind
  |ok m1=>
   rw[hx]at h;rcases List.mem_cons.1 hr with rfl|hr
   ·exact OM hx
   ·exact Ch l m1 m' h r hr
theorem KT{m:eS}{id:Txt}{set:Bool}(h:fB m id set alg tgt nr nk obls= .ok m1):
  jC m id=some m1∧1≤alg∧alg≤6∧(set=true→nr=0)∧(set=false→nk=0∧alg≠4)∧mq tgt=0∧iT obls=0∧nr≤16∧nk≤16:=by
 unfold fB at h;split at h
 ·cases h
 split at h
 ·cases h
 split at h
 ·cases h
 obtain⟨h3,h⟩:=rN h;obtain⟨h4,h⟩:=rN h
 grind
mutual
theorem Jt:∀(p:bC) (d:Nat) (m m' :eS),lC m d p= .ok m'→mU d p
 |.mk id set alg tgt rules kids obls,d,m,m',h=>by
  simp only[lC]at h;split at h
  ·cases h
  rename_i hd
  split at h
  ·cases h
  rename_i m1 h1
  split at h
  ·cases h
  rename_i m2 h2
  obtain⟨g1,g2,g3,g4,g5,g6,g7,g8,g9⟩:=KT h1;simp only[mU];exact⟨afu,zM g1,g2,g3,fun e=>List.length_eq_zero_iff.1 (g4 e),fun e=>⟨List.length_eq_zero_iff.1 (g5 e).1,(g5 e).2⟩,g6,g7,g8,g9,Ch _ _ _ h2,EP kids (d+1) m2 m' h⟩
theorem EP:∀(l:List bC) (d:Nat) (m m' :eS),jn m d l= .ok m'→xh d l
 | [],_,_,_,_=>by simp[xh]
 |k::r,d,m,m',h=>by
  simp only[jn]at h;split at h
  ·cases h
  rename_i m1 h1
  simp only[xh];exact⟨Jt k d m m1 h1,EP r d m1 m' h⟩
end
end Go.Bf
namespace Go.Ab
open Go
def hm2(i:Nat)(a:Blk)(j:Nat)(b:Blk):Heap:=upd (hm1 i a) j (some b)
theorem Sub.hm2{h:Heap}{i j:Nat}{a b:Blk}(h1:h i=some a)(h2:h j=some b):Sub (hm2 i a j b) h:=fun k c hk=>by
 unfold Ab.hm2 at hk
 by_cases e:k=j
 ·grind [ah]
 ·rw[ag _ _ e]at hk;exact Sub.hm1 h1 k c hk
theorem sv(i:Nat)(a:Blk)(j:Nat)(b:Blk):hm2 i a j b j=some b:=ah ..
theorem su{i:Nat}(a:Blk){j:Nat}(b:Blk)(h:i≠j):hm2 i a j b i=some a:=by simp_all [hm2,ag,gG]
theorem aH{h:Heap}{i j:Nat}{b:Blk}(e:upd h i (some b) j=none):j≠i:=fun hh=>by subst hh;rw[ah]at e;cases e
theorem Sub.put{h g:Heap}(hs:Sub h g){i:Nat}(hi:h i=Option.none)(x:Option Blk):Sub h (Ab.upd g i x):=fun k c hk=>by
 by_cases e:k=i
 ·grind
 ·rw[ag _ _ e];exact hs k c hk
theorem Sub.both{h g:Heap}(hs:Sub h g)(i:Nat)(x:Option Blk):Sub (Ab.upd h i x) (Ab.upd g i x):=fun k c hk=>by
 by_cases e:k=i
 ·grind [ah]
 ·rw[ag _ _ e]at hk⊢;exact hs k c hk
theorem Acc.put{U:TypeId→TI}{e:TypeId}{h h' :Heap}{y:AV}{xs:List AV}(ha:Acc U e h h' y xs){id:Nat}(hid:h id=Option.none){cs:List AV}{t:TypeId}(hob:h' id=some (.obj cs t))(x:Option Blk):Acc U e h (Ab.upd h' id x) y xs:=by
 obtain⟨h1,rfl|⟨k,i1,rfl,i2⟩⟩:=ha
 ·exact⟨h1.put hid x,.inl rfl⟩
 ·refine⟨h1.put hid x,.inr ⟨k,i1,rfl,?_⟩⟩
  grind [ag]
theorem base_start(G:Heap)(id:Nat)(x:Option Blk):Sub (upd G id Option.none) (upd G id x):=fun k c hk=>by grind [ah,ag]
theorem fI{G H:Heap}{id:Nat}{b:Blk}(hs:Sub (upd G id Option.none) H)(hb:H id=some b):Sub (upd G id (some b)) H:=fun k c hk=>by
 by_cases e:k=id
 ·grind [ah]
 ·rw[ag _ _ e]at hk;exact hs k c af8
theorem Cw(xs:List AV)(q:Perm)(a b:AV):Weak (.tup [.sl xs q,a,b]) (.tup [.sl xs .no,a,b]):=.tup _ _ rfl fun i h1 h2=>by
 rcases i with _|_|_|i
 ·exact aia
 ·exact agR
 ·exact agR
 grind
theorem WP.OW{P:Program}{U:TypeId→TI}{n:Nat}(hU:∀t,aQ P U t)(hm:P.follows .mixedOrders=true){c rest:Code}{ρ:Env}{h:Heap}{K:Exit→Env→Heap→Prop}(l:Nat)(J:Nat→Env→Heap→Prop)(hf:findLabel c l=some (.seq .skip rest))
  (pass:∀m ρ h,J m ρ h→WP P n rest ρ h (KJump l (fun ρ' h' =>∃m',m' <m∧J m' ρ' h') K))
  (first:(∀m ρ h,J m ρ h→WP P n rest ρ h (KJump l (fun ρ h=>∃m,J m ρ h) K))→WP P n c ρ h (KJump l (fun ρ h=>∃m,J m ρ h) K)):WP P n (.scope c) ρ h K:=
 WP.scope l J hf (first fun m ρ h hJ=>(pass m ρ h hJ).weaken fun e ρ h hk=>by
  cases e with
  |goto l' =>obtain⟨h1,m',_,h2⟩:=hk;exact⟨h1,m',h2⟩
  |_=>exact hk) fun m ρ h hJ=>WP.seq (dW hU hm .skip ρ h _ (pass m ρ h hJ))
end Go.Ab
namespace Go.Ab
attribute [go_sem] Int.natCast_zero Int.ofNat_zero Int.natCast_one Int.cast_ofNat_Int bne_self_eq_false beq_self_eq_true Bool.not_true Bool.not_false
attribute [go_sem] Nat.reduceLT Nat.reduceEqDiff Nat.reduceAdd Nat.reduceLeDiff Nat.reduceMul Nat.reduceSub Int.reduceBEq Int.reduceBNe
attribute [go_sem ↓] reduceIte
end Go.Ab
namespace Go.Ab
open Go
variable {F:Nat→Prop}{x:AV}{c c':Cx}{u:Value}
inductive Av (F:Nat→Prop):AV→Prop where
 |v (x:Value):Av F (.v x)
 |s (l:List UInt8):Av F (.s l)
 |agg (xs:List AV) (h:∀x∈xs,Av F x):Av F (.agg xs)
 |tup (xs:List AV) (h:∀x∈xs,Av F x):Av F (.tup xs)
 |sl (xs:List AV) (p:Perm) (h:∀x∈xs,Av F x) (hp:∀id,p= .own id→¬F id):Av F (.sl xs p)
 |pe (x:AV) (o:Nat) (h:Av F x):Av F (.pe x o)
 |ptr (id o:Nat) (h:¬F id):Av F (.ptr id o)
 |oa (id o l:Nat) (h:¬F id):Av F (.oa id o l)
 |ob (id o l c z:Nat) (h:¬F id):Av F (.ob id o l c z)
 |ifc (t:TypeId) (x:AV) (h:Av F x):Av F (.ifc t x)
 |fn (f:FuncId) (xs:List AV) (h:∀x∈xs,Av F x):Av F (.fn f xs)
 |mp (id:Nat) (h:¬F id):Av F (.mp id)
theorem Av.cells(h:Av F x):∀y∈x.cells,Av F y:=by
 cases h with
 |agg xs hx=>exact hx
 |_=>intro y hy;rw[List.mem_singleton.1 hy];constructor<;>assumption
theorem Av.E9(h:∀y∈x.cells,Av F y):Av F x:=by
 cases x with
 |agg xs=>exact .agg xs h
 |_=>exact h _ (List.mem_singleton.2 rfl)
theorem Rep.av(hF:∀id,F id→c.h id=none)(h:Rep c x u):Av F x:=by
 have nf:∀ {id:Nat} {k:Blk},c.h id=some k→¬F id:=fun hk hf=>afv
 induction h with
 |v x=>exact .v x
 |s l hl=>exact .s l
 |agg xs vs hn hr ho ih=>exact .agg xs fun x hx=>ahg
 |tup xs vs hn hr ih=>exact .tup xs fun x hx=>ahg
 |sl xs p a cap sz val hc hm h0 hs hz hf hr ho hp ih=>
  refine .sl xs p (fun x hx=>?_) fun id e=>?_
  ·obtain⟨i,hi,rfl⟩:=List.mem_iff_getElem.1 hx
   refine .E9 fun y hy=>?_
   obtain⟨j,hj,rfl⟩:=List.mem_iff_getElem.1 hy
   grind
  ·subst e
   obtain⟨m,h1,_⟩:=hp
   grind
 |pe x off b o val hb hf hr ho ih=>
  refine .pe x off (.E9 fun y hy=>?_)
  obtain⟨j,hj,rfl⟩:=List.mem_iff_getElem.1 hy
  grind
 |ptr id off cs t h=>exact .ptr _ _ (nf h)
 |oa id off len cap o cs t h hc hm ho=>exact .oa _ _ _ (nf h)
 |ob id off len cap sz o cs t h hc hm ho=>exact .ob _ _ _ _ _ (nf h)
 |ifc t x u h ih=>exact .ifc t x ih
 |fn f xs vs hn hr ih=>exact .fn f xs fun x hx=>ahg
 |mp id m h=>exact .mp _ (nf h)
noncomputable def Cx.back (c' :Cx) (g:Heap):Cx:={c' with h:=fun id=>if g id=none then none else c'.h id}
theorem vw{g:Heap}{id:Nat}{k:Blk}(h:(c'.back g).h id=some k):g id≠none∧c'.h id=some k:=by grind [Cx.back]
theorem lG{g:Heap}{id:Nat}(h:g id≠none):(c'.back g).h id=c'.h id:=by simp_all [Cx.back,if_false]
theorem yP{g:Heap}{b o:Nat}(h:owned (c'.back g) b o):owned c' b o:=by obtain⟨id,k,h1,h2,h3⟩:=h;exact⟨id,k,(vw h1).2,h2,h3⟩
theorem yO{g:Heap}{b o:Nat}(h:fix c' b o u):fix (c'.back g) b o u:=⟨h.1,fun ho=>h.2 (yP ho)⟩
theorem Rep.back{g:Heap}(h:Rep c' x u)(ha:Av (fun id=>g id=none) x):Rep (c'.back g) x u:=by
 induction h with
 |v x=>exact .v x
 |s l hl=>exact .s l hl
 |agg xs vs hn hr ho ih=>cases ha with|agg _ ha=>exact .agg xs vs hn afv ho
 |tup xs vs hn hr ih=>cases ha with|tup _ ha=>exact .tup xs vs hn afv
 |sl xs p a cap sz val hc hm h0 hs hz hf hr ho hp ih=>
  cases ha with
  |sl _ _ ha hq=>
   refine .sl xs p a cap sz val hc hm h0 hs hz (by grind [yO]) (fun i hi j hj=>ih i hi j hj ((ha _ (afo hi)).cells _ (afo hj))) ho ?_
   cases p with
   |no=>trivial
   |full=>exact hp
   |own id=>obtain⟨m,h1,h2,h3⟩:=hp;exact⟨m,by rw[lG (hq id rfl)];omega,h2,h3⟩
 |pe x off b o val hb hf hr ho ih=>
  cases ha with
  |pe _ _ ha=>exact .pe x off b o val hb (by grind [yO]) (fun j hj=>ih j hj (ha.cells _ (afo hj))) ho
 |ptr id off cs t h=>cases ha with|ptr _ _ ha=>exact .ptr id off cs t (by grind [lG])
 |oa id off len cap o cs t h hc hm ho=>cases ha with|oa _ _ _ ha=>exact .oa id off len cap o cs t (by grind [lG]) hc hm ho
 |ob id off len cap sz o cs t h hc hm ho=>cases ha with|ob _ _ _ _ _ ha=>exact .ob id off len cap sz o cs t (by grind [lG]) hc hm ho
 |ifc t x u h ih=>cases ha with|ifc _ _ ha=>exact .ifc t x u (ih ha)
 |fn f xs vs hn hr ih=>cases ha with|fn _ _ ha=>exact .fn f xs vs hn afv
 |mp id m h=>cases ha with|mp _ ha=>exact .mp id m (by grind [lG])
inductive Frz (g h:Heap):AV→AV→Prop where
 |keep (x:AV) (ha:Av (fun id=>g id=none) x):Frz g h x x
 |agg (xs ys:List AV) (hn:xs.length=ys.length) (hr:∀i (h1:i<xs.length) (h2:i<ys.length),Frz g h xs[i] ys[i]):Frz g h (.agg xs) (.agg ys)
 |tup (xs ys:List AV) (hn:xs.length=ys.length) (hr:∀i (h1:i<xs.length) (h2:i<ys.length),Frz g h xs[i] ys[i]):Frz g h (.tup xs) (.tup ys)
 |sl (xs ys:List AV) (p:Perm) (hn:xs.length=ys.length) (hz:∀i (h1:i<xs.length) (h2:i<ys.length),xs[i].cells.length=ys[i].cells.length)
   (hr:∀i (h1:i<xs.length) (h2:i<ys.length) j (h3:j<xs[i].cells.length) (h4:j<ys[i].cells.length),Frz g h xs[i].cells[j] ys[i].cells[j]):Frz g h (.sl xs p) (.sl ys .no)
 |ob (id off len cap sz:Nat) (cs:List AV) (t:TypeId) (ys:List AV) (hg:g id=none) (hh:h id=some (.obj cs t)) (hl:off+len*sz≤cs.length) (hn:ys.length=len) (hz:∀i (h1:i<ys.length),ys[i].cells.length=sz)
   (hr:∀i (h1:i<ys.length) j (h3:j<ys[i].cells.length) (h4:off+(i*sz+j)<cs.length),Frz g h (cs[off+(i*sz+j)]) ys[i].cells[j]):Frz g h (.ob id off len cap sz) (.sl ys .no)
 |ptr (id off:Nat) (cs:List AV) (t:TypeId) (ys:List AV) (hg:g id=none) (hh:h id=some (.obj cs t)) (hn:cs.length=ys.length) (hr:∀i (h1:i<cs.length) (h2:i<ys.length),Frz g h cs[i] ys[i]):Frz g h (.ptr id off) (.pe (.agg ys) off)
 |ifc (t:TypeId) (x y:AV) (hr:Frz g h x y):Frz g h (.ifc t x) (.ifc t y)
theorem Frz.rep{g h:Heap}(gd:Good c')(hh:Sub h c'.h){y:AV}(hz:Frz g h x y):∀ {u:Value},Rep c' x u→Rep (c'.back g) y u:=by
 have nown:∀ {id:Nat} {k:Blk} {o:Nat},g id=none→h id=some k→¬owned (c'.back g) (c'.φ id).block o:=fun {id k o} h1 h2 ho=>by obtain⟨j,l,h3,h4,h5⟩:=ho;obtain⟨h6,h7⟩:=vw h3;exact gd.inj j id l k h7 (hh _ _ h2) (fun e=>h6 afv) h4
 induction hz with
 |keep x ha=>exact fun hr=>hr.back ha
 |agg xs ys hn hr ih=>intro u hu;obtain⟨vs,rfl,h1,h2,h3⟩:=hu.pQ;exact .agg ys vs afu (fun i hi=>ih i afu hi (h2 i afu)) fun i hi=>h3 i afu
 |tup xs ys hn hr ih=>intro u hu;obtain⟨vs,rfl,h1,h2⟩:=hu.Dx;exact .tup ys vs afu (fun i hi=>ih i afu hi (h2 i afu))
 |sl xs ys p hn hz hr ih=>
  intro u hu;obtain⟨a,cap,sz,val,rfl,hs⟩:=hu.iX;rw[hn];have hcap:=hs.hc;refine .sl ys .no a cap sz val afu hs.hm hs.h0 hs.hs (fun i hi=>by rw[←hz i afu hi];exact hs.hz i afu) (fun q hq i j hi hj=>yO (hs.hf q hq i j afu hj)) (fun i hi j hj=>?_) (fun i j hi hj=>hs.ho i j afu hj) trivial
  exact ih i afu hi j afv hj (hs.hr i afu j afv)
 |ob id off len cap sz cs t ys hg hid hl hn hz hr ih=>
  intro u hu;obtain⟨o,rfl,h1,h2,cs',t',h3,h4⟩:=hu.jM;have hcid:=hh _ _ hid;obtain⟨vs,v1,v2,v3⟩:=gd.obj id cs t hcid;subst hn;have hbd:∀i j,i<ys.length→j<sz→i*sz+j<ys.length*sz:=fun i j hi hj=>by have:(i+1)*sz≤ys.length*sz:=Nat.mul_le_mul_right _ afu;rw[Nat.add_mul,Nat.one_mul]at this;omega
  refine .sl ys .no _ cap sz (fun i j=>vs.getD (off+(i*sz+j)) undef) h1 h2 (fun e=>afT) (fun q hq _=>?_) hz (fun q hq i j hi hj=>?_) (fun i hi j hj=>?_) (fun i j hi hj=>(v3 _ afv).2) trivial
  ·cases hq
   exact⟨rfl,gd.lt hcid⟩
  ·cases hq
   obtain⟨rfl,_⟩:=h4 afu;have hb:=hbd i j hi hj;refine⟨?_,nown hg hid⟩;have:o+(i*sz+j)<vs.size:=afu;simp[World.cell?,Cx.back,v1,this]
  ·have hj' :j<sz:=by grind
   have hb:=hbd i j hi hj';exact ih i hi j hj afu (v3 _ afu).1
 |ptr id off cs t ys hg hid hn hr ih=>
  intro u hu;obtain⟨rfl,_⟩:=hu.lO;have hcid:=hh _ _ hid;obtain⟨vs,v1,v2,v3⟩:=gd.obj id cs t hcid;have:=Rep.pe (c:=c'.back g) (.agg ys) off (c'.φ id).block 0 (fun j=>vs.getD j undef) (gd.lt hcid) (fun j hj=>by
    have hj' :j<ys.length:=hj;refine⟨?_,nown hg hid⟩
    simp_all [World.cell?,Cx.back]) (fun j hj=>by
    have hj' :j<ys.length:=hj;exact ih j afu hj' (v3 j afu).1) (fun j hj=>by
    have hj' :j<ys.length:=hj;exact(v3 j afu).2)
  rw[Nat.zero_add]at this;exact agc
 |ifc t x y hr ih=>
  intro u hu;cases hu with
  |ifc _ _ u' h=>exact .ifc t y _ (ih h)
theorem ai.freeze{P:Program}{f:FuncId}{args:List AV}{h:Heap}{Q:AV→Prop}
  (hf:∀g,Sub h g→(∀x∈args,Av (fun id=>g id=none) x)→ai P f args g fun r h' =>Sub g h'∧∃y,Frz g h' r y∧Q y):ai P f args h fun r h' =>Q r∧h' =h:=by
 intro c vs hs gd h1 h2;have hav:∀x∈args,Av (fun id=>c.h id=none) x:=fun x hx=>by obtain⟨i,hi,rfl⟩:=List.mem_iff_getElem.1 hx;exact(h2 i hi).av fun _ e=>e
 refine(hf c.h hs hav c vs (.refl _) gd h1 h2).mono ?_
 rintro u w' ⟨c',x,h',rfl,gd',hE,hr,hsub,hgh,y,hz,hq⟩
 have hkeep:∀id k,c.h id=some k→c'.h id=some k:=fun id k hk=>hsub _ _ (hgh _ _ hk)
 have hE2:Ext c (c'.back c.h):={
  os:=hE.os,tape:=hE.tape,output:=hE.output,size:=hE.size,block:=hE.block,cell:=hE.cell,shape:=hE.shape
  steal:=fun b o hb ho=>hE.steal b o hb (yP ho)
  obj:=fun id cs t hi=>by rw[lG afv];exact hE.obj id cs t hi
  spare:=fun id n sz hi=>by rw[lG afv];exact hE.spare id n sz hi
  mp:=fun id m hi=>by rw[lG afv];exact hE.mp id m hi
  ro:=fun id b vs hi=>by rw[lG afv];exact hE.ro id b vs hi}
 have hold:∀id k,(c'.back c.h).h id=some k→c.h id=some k∧c'.h id=some k:=fun id k hk=>by
  obtain⟨a1,a2⟩:=vw hk;cases hc:c.h id with
  |none=>grind
  |some k' =>grind
 refine⟨c'.back c.h,y,h,rfl,?_,hE2,hz.rep gd' hsub hr,fun id k hk=>?_,hq,rfl⟩
 ·refine⟨?_,fun i j k l hi hj hne=>gd'.inj i j k l (hold i k hi).2 (hold j l hj).2 hne,fun id cs t hi=>?_,fun id n sz hi=>gd'.spare id n sz (hold id _ hi).2,fun id m hi=>?_,fun id m hi=>gd'.keys id m (hold id _ hi).2,fun id b vs hi=>gd'.ro id b vs (hold id _ hi).2⟩
  ·obtain⟨N,hN⟩:=gd'.fin
   exact⟨N,fun id hid=>by grind [Cx.back]⟩
  ·obtain⟨vs,v1,v2,v3⟩:=gd'.obj id cs t (hold id _ hi).2
   obtain⟨vs0,w1,w2,w3⟩:=gd.obj id cs t (hold id _ hi).1;exact⟨vs,v1,v2,fun j hj=>⟨(v3 j hj).1.back ((w3 j hj).1.av fun _ e=>e),(v3 j hj).2⟩⟩
  ·obtain⟨es,cl,v1,v2,v3⟩:=gd'.mp id m (hold id _ hi).2
   obtain⟨es0,cl0,w1,w2,w3⟩:=gd.mp id m (hold id _ hi).1;exact⟨es,cl,v1,v2,fun i hi' hi2=>⟨(v3 i hi' hi2).1,(v3 i hi' hi2).2.back ((w3 i hi' afu).2.av fun _ e=>e)⟩⟩
 ·rw[lG (by rw[hs _ _ hk];simp)]
  exact hkeep id k (hs _ _ hk)
section
variable {x:AV}{o off cap:Nat}{cs rest us vs c:List AV}
variable {P : Program} {U : TypeId → TI} {ρ : Env} {h h' : Heap} {sz : Nat} {y : AV} {xs : List AV} {e : TypeId}
def Rd(h:Heap)(sz:Nat)(y:AV)(xs:List AV):Prop:=
 Sized sz xs∧((∃q,y= .sl xs q)∨∃id off cap cs t,y= .ob id off xs.length cap sz∧h id=some (.obj cs t)∧off+xs.length*sz≤cs.length∧(cs.drop off).take (xs.length*sz)=au xs)
theorem Rd.sl(hs:Sized sz xs)(q:Perm):Rd h sz (.sl xs q) xs:=⟨hs,.inl ⟨q,rfl⟩⟩
theorem Rd.sub(hb:Rd h sz y xs)(hs:Sub h h'):Rd h' sz y xs:=by
 obtain⟨h1,hb|⟨id,off,cap,cs,t,rfl,h2,h3⟩⟩:=hb
 ·exact⟨h1,.inl hb⟩
 ·exact⟨h1,.inr ⟨id,off,cap,cs,t,rfl,hs _ _ h2,h3⟩⟩
theorem Rd.len(hb:Rd h sz y xs)(e:TypeId)(k:AV→Prop):xW y k (.slice e)=k (.i xs.length):=by exact akQ
theorem Rd.cells(hb:Rd h sz y xs):y.cells= [y]:=by exact akQ
theorem Rd.fit(hb:Rd h sz y xs)(m:Nat):fit y m=(m=1):=by exact akQ
theorem Rd.src(hb:Rd h sz y xs)(hz:(U e).sz=sz){f:List AV→Prop}(hf:f xs):iY U e h y f:=by
 obtain⟨_,⟨q,rfl⟩|⟨id,off,cap,cs,t,rfl,h2,h3,h4⟩⟩:=hb
 ·exact hf
 ·rw[Rp,h2]
  exact⟨hz.symm,xs,rfl,h3,h4.symm,hf⟩
def At(h:Heap)(p x:AV)(o:Nat):Prop:=p= .pe x o∨∃id a cs t,p= .ptr id (a+o)∧h id=some (.obj cs t)∧a+x.cells.length≤cs.length∧(cs.drop a).take x.cells.length=x.cells
theorem At.sub{p:AV}(ha:At h p x o)(hs:Sub h h'):At h' p x o:=by
 rcases ha with rfl|⟨id,a,cs,t,rfl,h2,h3⟩
 ·exact .inl rfl
 ·exact .inr ⟨id,a,cs,t,rfl,hs _ _ h2,h3⟩
theorem HM{a:Nat}{i:TI}{k:AV→Prop}(h1:a+x.cells.length≤cs.length)(h2:(cs.drop a).take x.cells.length=x.cells)(h3:i.sz≠0)(h4:o+i.sz≤x.cells.length):iW cs (a+o) i k=iW x.cells o i k:=by
 unfold iW;split
 ·have e:(cs.drop (a+o)).take i.sz=(x.cells.drop o).take i.sz:=by grind [List.drop_take,List.drop_drop,Nat.min_eq_left]
  apply propext
  grind
 grind
theorem At.part{p:AV}(ha:At h p x o){ty:TypeId}(hz:(U ty).sz≠0)(hl:o+(U ty).sz≤x.cells.length)(k:AV→Prop):oA U h ty p k=iW x.cells o (U ty) k:=by
 rcases ha with rfl|⟨id,a,cs,t,rfl,h2,h3,h4⟩
 ·rw[N1]
  unfold atA;split
  ·rename_i hc
   obtain⟨rfl,hc2,hc3⟩:=hc;unfold iW;split
   ·rename_i hag
    rw[hag]at hc3;have:x= .agg x.cells:=by cases x<;>first|rfl|cases hc3
    rw[List.drop_zero,←hc2,List.take_length,Nat.zero_add,←this];simp
   simp_all [bB,false,o9]
  ·rfl
 ·rw[Ld,h2]
  exact HM h3 h4 hz hl
theorem At.all{p:AV}(ha:At h p x 0){ty:TypeId}(hz:(U ty).sz≠0)(hl:x.cells.length=(U ty).sz)(hg:bB x=(U ty).k.agg)(k:AV→Prop):oA U h ty p k=k x:=by
 rw[ha.part hz afu];unfold iW;split
 ·rename_i hag
  rw[hag]at hg;have:x= .agg x.cells:=by cases x<;>first|rfl|cases hg
  rw[List.drop_zero,←hl,List.take_length,Nat.zero_add,←this];simp
 simp_all [bB,false,o9]
theorem At.field{p:AV}(ha:At h p x o){f:Nat}{t:TypeId}{fs:List (Nat×TypeId)}{K:AV→Prop}(hf:fs[f]? =some (off,t))(hz:(U t).sz≠0)(hk:∀p',At h p' x (o+off)→K p'):ze U f p K (.strct fs):=by
 rcases ha with rfl|⟨id,a,cs,t',rfl,h2,h3,h4⟩
 ·rw[Ko,hf]
  exact⟨hz,hk _ (.inl rfl)⟩
 ·rw[GK,hf]
  exact⟨hz,hk _ (.inr ⟨id,a,cs,t',afv,h2,h3,h4⟩)⟩
theorem Rd.idx(hb:Rd h sz y xs){m:Int}{x:IntKind}{K:AV→Prop}(j:Nat)(hm:m=j)(hj:j<xs.length)(hz:(U e).sz=sz)(h0:sz≠0)(hk:∀p,At h p xs[j] 0→K p):qd U y (.v (.int x m)) K (.slice e):=by
 subst hm;have hc:=hb.1 xs[j] (afo hj);obtain⟨hs,⟨q,rfl⟩|⟨id,off,cap,cs,t,rfl,h2,h3,h4⟩⟩:=hb
 ·refine(vM ..).mpr ⟨afu,?_⟩
  exact fF.at j hj afu (hk _ (.inl rfl))
 ·refine(BN ..).mpr ⟨afu,hz.symm,afu,afu,hk _ (.inr ⟨id,off+j*sz,cs,t,afB,h2,?_,?_⟩)⟩
  ·have:(j+1)*sz≤xs.length*sz:=Nat.mul_le_mul_right _ afu
   rw[Nat.add_mul,Nat.one_mul]at this;rw[hc];omega
  ·have e1:=pY hs j hj
   rw[←h4,List.drop_take,List.take_take,List.drop_drop]at e1;rw[hc];have:(j+1)*sz≤xs.length*sz:=afv;rw[Nat.add_mul,Nat.one_mul]at this;rw[Nat.min_eq_left afu]at e1;exact e1
def Ow(tb:TypeId)(h:Heap)(sz id:Nat)(y:AV)(xs:List AV):Prop:=
 ∃cap rest,y= .ob id 0 xs.length cap sz∧h id=some (.obj (au xs++rest) tb)∧rest.length=(cap - xs.length)*sz∧xs.length≤cap∧Sized sz xs
variable {tb : TypeId} {id : Nat}
theorem Ow.rd(hw:Ow tb h sz id y xs):Rd h sz y xs:=by obtain⟨cap,rest,rfl,h1,h2,h3,h4⟩:=hw;have hl:=aY h4;exact⟨h4,.inr ⟨id,0,cap,_,tb,rfl,h1,afv,afv⟩⟩
theorem Ow.sub(hw:Ow tb h sz id y xs)(hs:Sub h h'):Ow tb h' sz id y xs:=by obtain⟨cap,rest,e1,h1,h2⟩:=hw;exact⟨cap,rest,e1,hs _ _ h1,h2⟩
theorem Ow.same(hw:Ow tb h sz id y xs)(hs:h' id=h id):Ow tb h' sz id y xs:=by obtain⟨cap,rest,e1,h1,h2⟩:=hw;exact⟨cap,rest,e1,hs.trans h1,h2⟩
theorem Ow.none(hw:Ow tb h sz id y xs):h id≠Option.none:=by
 obtain⟨cap,rest,e1,h1,h2⟩:=hw
 grind
theorem Ow.make(hs:Sized sz xs)(hcs:cs=au xs){n:Nat}(hn:n=xs.length)(hc:n≤cap)(hr:rest.length=(cap - n)*sz):Ow tb (upd h id (some (.obj (cs++rest) tb))) sz id (.ob id 0 n cap sz) xs:=by
 subst hcs;subst hn
 exact⟨cap,rest,rfl,ah ..,hr,hc,hs⟩
theorem ld.ow{n:Nat}{Q:AV→Heap→Prop}(hs:Sized sz xs)(hcs:cs=au xs)(hn:n=xs.length)(hk:∀id y h',h id=Option.none→Ow tb h' sz id y xs→(∀j,j≠id→h' j=h j)→Q y h'):ld h cs n sz tb Q:=
 fun id cap rest hid hc hr=>hk id _ _ hid (Ow.make hs hcs hn hc hr) fun j hj=>ag _ _ hj
theorem Lr:over (us++vs) (us.length+o) c=us++over vs o c:=by simp[Ab.over,Nat.add_assoc,List.take_length_add_append,List.drop_length_add_append,List.append_assoc]
theorem Ky{xs:List AV}(hs:Sized sz xs)(j:Nat)(hj:j<xs.length)(x:AV)(hx:x.cells.length=sz):au (xs.set j x)=over (au xs) (j*sz) x.cells:=by
 induction xs generalizing j with
 |nil=>grind
 |cons a r ih=>
  have h1:=hs a afB;have h2:Sized sz r:=fun z hz=>hs z afv
  cases j with
  |zero=>simp only[List.set_cons_zero,lq,Ab.over,Nat.zero_mul,List.take_zero,List.nil_append,Nat.zero_add];rw[hx,←h1,List.drop_left]
  |succ j=>have hj' :j<r.length:=afv;have e1:(j+1)*sz=a.cells.length+j*sz:=afv;rw[List.set_cons_succ,lq,lq,ih h2 j hj',e1,Lr]
theorem Kx{xs:List AV}(hs:Sized sz xs)(j:Nat)(hj:j<xs.length)(o:Nat)(c:List AV)(ho:o+c.length≤sz):over (au xs) (j*sz+o) c=au (xs.set j (.agg (over xs[j].cells o c))):=by
 have hc:=hs xs[j] (afo hj);have hl:(over xs[j].cells o c).length=sz:=by grind [iV]
 rw[Ky hs j hj (.agg (over xs[j].cells o c)) hl];have hp:=pY hs j hj;have e1:(au xs).take (j*sz+o)=(au xs).take (j*sz)++xs[j].cells.take o:=by rw[←hp,List.take_take,Nat.min_eq_left afu,List.take_add]
 have e2:(au xs).drop (j*sz+o+c.length)=xs[j].cells.drop (o+c.length)++(au xs).drop (j*sz+sz):=by
  have e3:(au xs).drop (j*sz)=xs[j].cells++(au xs).drop (j*sz+sz):=by grind [List.drop_drop,List.take_append_drop]
  rw[Nat.add_assoc,←List.drop_drop,e3,List.drop_append_of_le_length afu]
 show over (au xs) (j*sz+o) c=over (au xs) (j*sz) (over xs[j].cells o c)
 grind [over,Ab.over,List.append_assoc]
theorem Oo(h1:o+c.length≤us.length):over (us++vs) o c=over us o c++vs:=by grind [Ab.over,List.append_assoc]
theorem Ow.idx(hw:Ow tb h sz id y xs){m:Int}{x:IntKind}{K:AV→Prop}(j:Nat)(hm:m=j)(hj:j<xs.length)(hz:(U e).sz=sz)(h0:sz≠0)(hk:K (.ptr id (j*sz))):qd U y (.v (.int x m)) K (.slice e):=by
 obtain⟨cap,rest,rfl,h1,h2,h3,h4⟩:=hw
 simp_all [BN,Nat.zero_add,Int.toNat_natCast]
def OwE(tb:TypeId)(h0 h:Heap)(sz:Nat)(y:AV)(xs:List AV):Prop:=(xs= []∧y= .sl [] .full)∨∃id,h0 id=Option.none∧Ow tb h sz id y xs
variable {h0 : Heap}
theorem OwE.rd(hw:OwE tb h0 h sz y xs):Rd h sz y xs:=by
 rcases hw with⟨rfl,rfl⟩|⟨id,_,hw⟩
 ·exact .sl (fun z hz=>afv) _
 ·exact hw.rd
theorem OwE.sub(hw:OwE tb h0 h sz y xs)(hs:Sub h h'):OwE tb h0 h' sz y xs:=by
 rcases hw with hw|⟨id,h1,hw⟩
 ·exact ajt
 ·exact .inr ⟨id,h1,hw.sub hs⟩
theorem OwE.ow(hw:OwE tb h0 h sz y xs)(hn:xs≠ []):∃id,h0 id=Option.none∧Ow tb h sz id y xs:=by
 rcases hw with hw|hw
 ·grind
 omega
theorem OwE.app{v:AV}{zs:List AV}{Q:AV→Heap→Prop}(hw:OwE tb h0 h sz y xs)(hs0:Sub h0 h)(hb:Rd h sz v zs)(hz:(U tb).sz=sz)(h1:sz≠0)(hby:(U tb).bytes≠0)(hf:Ab.fit (U tb).zero sz)(hne:zs≠ [])(hlen:(xs.length+zs.length)*(U tb).bytes≤140737488355328)
  (hk:∀id y' h',h0 id=Option.none→(h id=Option.none∨∃l c,y= .ob id 0 l c sz)→Ow tb h' sz id y' (xs++zs)→(∀j,j≠id→h' j=h j)→Q y' h'):apK U h y v Q (.slice tb):=by
 subst hz;rcases hw with⟨rfl,rfl⟩|⟨id,h2,cap,rest,rfl,h3,h4,h5,h6⟩
 ·refine(qX ..).mpr ⟨h1,hby,hb.src rfl ⟨by simp[Sized],hb.1,afu,fun hn=>(hne hn).elim,fun _=>?_⟩⟩
  refine .ob hf (ld.ow (by simpa using hb.1) afJ afB fun id y' h' hid hw ho=>?_)
  exact hk id _ _ (hs0.none hid) (.inl hid) afv ho
 ·have hl:=aY h6
  refine⟨h1,hby,rfl,hb.src rfl ⟨hb.1,hlen,?_⟩⟩;rw[h3];have hsz:Sized (U tb).sz (xs++zs):=fun z hz=>(List.mem_append.1 hz).elim (h6 z) (hb.1 z)
  refine⟨afv,hf,fun hle=>?_,fun hgt=>?_⟩
  ·have hlz:=aY hb.1
   have hmul:(cap - xs.length)*(U tb).sz=zs.length*(U tb).sz+(cap - (xs.length+zs.length))*(U tb).sz:=by rw[←Nat.add_mul];grind
   refine hk id _ _ h2 (.inr ⟨_,_,rfl⟩) ⟨cap,rest.drop (zs.length*(U tb).sz),afB,?_,?_,afv,hsz⟩ fun j hj=>ag _ _ hj
   ·simp_all [ah,nc,Nat.zero_add,Ab.over,List.take_left,List.drop_append,List.drop_of_length_le]
   grind
  ·refine ld.ow hsz ?_ afB fun id' y' h' hid hw ho=>?_
   ·grind [nc,List.take_left]
   ·exact hk id' _ _ (hs0.none hid) (.inl hid) hw ho
theorem xw {f : FuncId} {fn : Func} {tS tR : TypeId} (hU : ∀ t, aQ P U t) (hfn : P.funcs[f]? = some fn) (hname : (fn.name == "runtime.NumGoroutine") = false) (hb : fn.body.isNone = true) (hn : Extern.findNext fn = Option.none)
  (he:Extern.find fn=some (Extern.SlicesOverlaps.overlaps #[tS,tS] #[tR])) (hty:(U tS).k= .slice e) (hz:(U e).sz≠0) {q:Perm} (hx:Sized (U e).sz xs) (hne:xs≠ []) {id len sz:Nat}  {t:TypeId} (hid:h id=some (.obj cs t)) (hcs:cs≠ []):
  ai P f [.sl xs q,.ob id off len cap sz] h fun r h' =>r= .b false∧h' =h:=by
 intro c vs hs g h1 h2;obtain⟨a,cap0,sz0,val,hu,sl⟩:=(h2 0 afB).iX;obtain⟨o,hv,_⟩:=(h2 1 afB).jM;have hd:=(hU tS).desc;rw[hty]at hd;have hpos:0<xs.length:=List.length_pos_iff.2 hne;have hcap:=sl.hc;obtain⟨qa,rfl⟩:∃qa,a=some qa:=by
  cases a with
  |none=>have:=sl.h0 rfl;omega
  |some qa=>simp
 have hs0:sz0=(U e).sz:=by rw[←sl.hz 0 hpos];exact hx _ (afo hpos)
 have hf:=sl.hf qa rfl 0 0 hpos afu;have hq:=(sl.hs qa rfl afu).1;have hcid:=hs _ _ hid;obtain⟨us,u1,u2,u3⟩:=g.obj id cs t hcid;have hnb:qa.block≠(c.φ id).block:=fun hh=>hf.2 ⟨id,_,hcid,hh.symm,Nat.zero_le _⟩
 obtain⟨ws,tw,fr,hws,hwlt⟩:∃ws tw fr,c.w.heap[qa.block]? =some (.cells ws tw fr)∧0<ws.size:=by
  have:=hf.1;simp only[World.cell?]at this;split at this
  ·rename_i ws tw fr hh
   refine⟨ws,tw,fr,hh,?_⟩
   grind
  all_goals cases this
 have hvs:vs= #[.slice (some qa) xs.length cap0,.slice (some ⟨(c.φ id).block,o,Option.none⟩) len cap]:=by
  apply Array.ext
  ·omega
  ·intro i hi hi2
   have hi3:i<2:=afu;rcases i with _|_|i
   ·simpa[Array.getD,hi]using hu
   ·simpa[Array.getD,hi]using hv
   ·omega
 subst hvs;refine .inr ⟨.bool false,c.w,?_,c,_,h,rfl,g,.refl c,.v _,hs,rfl,rfl⟩;rw[Go.run_callFunc_extern hfn hname hb hn he];have key:(Extern.SlicesOverlaps.overlaps #[tS,tS] #[tR] #[.slice (some qa) xs.length cap0,.slice (some ⟨(c.φ id).block,o,Option.none⟩) len cap]).run P c.w= .ok (.bool false) c.w:=by
  have hnb1:(qa.block !=(c.φ id).block)=true:=afv;have hnb2:(qa.block==(c.φ id).block)=false:=afv;have hws2:∃m,ws.size=m+1:=⟨ws.size - 1,afu⟩;obtain⟨m,hm⟩:=hws2
  change Sem.run P (α:=Value) (do
   let some t := (#[tS, tS] : Array TypeId)[0]? | stuck "slices.overlaps: no parameter types"
   let .slice elem ← underlying t | stuck "slices.overlaps: slice type expected"
   let size←sizeOf elem
   match (some qa:Option Addr),(some ⟨(c.φ id).block,o,Option.none⟩:Option Addr)with
   |some a,some b=>
    if xs.length=0∨len=0∨size=0 then pure (Value.bool false)
    else if a.block !=b.block && (←frozen a) && (←frozen b)then unsupported .addressObserved
    else do
     if a.block !=b.block then do
      noView a;noView b
      if ← mayBeOne a b then return Value.bool ((← choose (.extern "sameAddr.stringBytes" 2)) == 1)
     pure (Value.bool (a.block==b.block && a.off<b.off+len*size && b.off<a.off+xs.length*size))
   |_,_=>pure (Value.bool false)) c.w=_
  have hfb:∀x,c.w.frozen? ⟨(c.φ id).block,x,Option.none⟩=false:=fun x=>by grind [World.frozen?]
  have hsb:c.w.shape? (c.φ id).block=some (t,us.size):=by grind [World.shape?]
  have hsa:c.w.shape? qa.block=some (tw,m+1):=by grind [World.shape?]
  by_cases hl:len=0
  ·simp[run_underlying hd,bD hU hz,hl]
  ·have hus:us.size≠0:=by grind
   obtain⟨n,hn'⟩:∃n,us.size=n+1:=⟨us.size - 1,afu⟩;rw[hn']at hsb;cases hfa:c.w.frozen? qa<;>cases hfa2:c.w.frozen? {block:=qa.block,off:=m+1}<;>
    simp[run_underlying hd,bD hU hz,hl,hne,hz,hnb1,hnb2,frozen,noView,viewAt,mayBeOne,stringish,shape,Sem.run,hsa,hsb,hfb,hfa,hfa2]
 rw[key];rfl
end
end Go.Ab
namespace Go.Bf
open Go Go.Ab
structure OpD where
 kind:Int
 subj:Txt
 case:Txt
 field:Txt
 to:Txt
 val:bu
 review:Int
 text:Txt
 reason:Txt
 glass:Bool
structure vo where
 tick:Int
 actor:Txt
 what:Txt
structure cK where
 name:Txt
 val:bu
structure aL where
 id:Txt
 owner:Txt
 state:Txt
 fields:List cK
 log:List vo
structure pP where
 id:Int
 tick:Int
 subj:Txt
 case:Txt
 action:Txt
 reason:Txt
 isOpen:Bool
structure DG where
 tick:Int
 case:Txt
 arg:Txt
structure gL where
 subj:Txt
 role:Txt
structure an where
 tick:Int
 cases:List aL
 reviews:List pP
 notices:List DG
 roles:List gL
 policy:bC
 version:Int
structure bt where
 cat:Int
 name:Txt
 bag:List bu
def opC(o:OpD):List AV:=[.i o.kind,.s o.subj,.s o.case,.s o.field,.s o.to,.i o.val.kind,.i o.val.n,.s o.val.s,.i o.review,.s o.text,.s o.reason,.b o.glass]
def opA(o:OpD):AV:=.agg (opC o)
def gC(x:vo):AV:=.agg [.i x.tick,.s x.actor,.s x.what]
def bA(f:cK):AV:=.agg [.s f.name,.i f.val.kind,.i f.val.n,.s f.val.s]
def gS(l:List cK):AV:=.sl (l.map bA) .no
def tE(l:List vo):AV:=.sl (l.map gC) .no
def om(c:aL):List AV:=[.s c.id,.s c.owner,.s c.state,gS c.fields,tE c.log]
def cr(c:aL):AV:=.agg (om c)
def fT(l:List aL):AV:=.sl (l.map cr) .no
def gH(r:pP):AV:=.agg [.i r.id,.i r.tick,.s r.subj,.s r.case,.s r.action,.s r.reason,.b r.isOpen]
def jZ(l:List pP):AV:=.sl (l.map gH) .no
def kL(n:DG):AV:=.agg [.i n.tick,.s n.case,.s n.arg]
def kM(l:List DG):AV:=.sl (l.map kL) .no
def dF(r:gL):AV:=.agg [.s r.subj,.s r.role]
def eu(l:List gL):AV:=.sl (l.map dF) .no
def gD:bC→List AV
 |.mk id set alg tgt rules kids obls=>[.s id,.b set,.i alg,aU tgt,.sl (rules.map aC) .no,.sl (fl kids) .no,ay obls]
theorem Ra(p:bC):aM p= .agg (gD p):=by cases p;rfl
def bQ(s:an):AV:=.agg ([.i s.tick,fT s.cases,jZ s.reviews,kM s.notices,eu s.roles]++gD s.policy++ [.i s.version])
def lV(g:bt):AV:=.agg [.i g.cat,.s g.name,.sl (g.bag.map aT) .no]
def bN(l:List bt):AV:=.sl (l.map lV) .no
def geB(a b:Txt):Bool:= !(Op.bytesLess a b)
def findD(cs:List aL)(id:Txt):Nat:=cs.findIdx fun c=>geB c.id id
def ck(cs:List aL)(id:Txt):Bool:=match cs[findD cs id]? with
 |some c=>c.id==id
 |none=>false
def aq:bu:=⟨0,0,[]⟩
def pN:aL:=⟨[],[],[],[],[]⟩
def bw(cs:List aL)(id:Txt):aL:=if ck cs id then cs.getD (findD cs id) pN else pN
def dZ(fs:List cK)(name:Txt):bu:=match fs.find? fun f=>f.name==name with
 |some f=>f.val
 |none=>aq
def vF(a b:gL):Bool:=a.subj==b.subj && a.role==b.role
def zn(l:List gL)(r:gL):Bool:=l.any (vF r)
def jY:Txt:=[111,112,101,110]
def xN:Txt:=[119,111,114,107]
def BC:Txt:=[100,111,110,101]
def iF:Txt:=[99,108,111,115,101,100]
def nH(a b:Txt):Bool:=
 if a==jY then b==xN else if a==xN then b==BC else if a==BC then b==xN||b==iF else false
def Wb:List Txt:=[[110,101,119],[114,101,97,100],[119,114,105,116,101],[109,111,118,101],[99,108,111,115,101],[114,111,108,101],[112,111,108,105,99,121]]
def jc(k:Int):Txt:=if k<1∨k>7 then [116,105,99,107]else Wb.getD (k - 1).toNat []
def vW(k:Int):Bool:=decide (1≤k) && decide (k≤4)
def jr(s:Txt):Bool:=s== []||bp s
def mV(o:OpD):Bool:=if o.glass then vW o.kind && (!(o.reason== [])) && decide (o.reason.length≤64)else o.reason== []
def jo(o:OpD):OpD:=
 let z:OpD:=⟨o.kind,[],[],[],[],aq,0,[],[],false⟩
 if o.kind=1 then {z with case:=o.case}
 else if o.kind=2∨o.kind=6 then {z with case:=o.case,field:=o.field}
 else if o.kind=3 then {z with case:=o.case,field:=o.field,val:=o.val}
 else if o.kind=4 then {z with case:=o.case,to:=o.to}
 else if o.kind=5∨o.kind=8 then {z with review:=o.review}
 else {z with text:=o.text}
def eqV(a b:bu):Bool:=a.kind==b.kind && (a.n==b.n && a.s==b.s)
def nW(a b:OpD):Bool:=a.kind==b.kind && (a.subj==b.subj && (a.case==b.case && (a.field==b.field && (a.to==b.to && (a.val.kind==b.val.kind && (a.val.n==b.val.n && (a.val.s==b.val.s && (a.review==b.review && (a.text==b.text && (a.reason==b.reason && a.glass==b.glass))))))))))
def okD(o:OpD):Bool:=
 if o.kind=1 then !(o.case== [])
 else if o.kind=2∨o.kind=6 then !(o.case== []) && !(o.field== [])
 else if o.kind=3 then !(o.case== []) && !(o.field== []) && !(eqV o.val aq)
 else if o.kind=4 then !(o.case== []) && !(o.to== [])
 else if o.kind=5 then decide (0<o.review)
 else if o.kind=8 then decide (0<o.review) && decide (o.review≤1099511627776)
 else true
def iD(o:OpD):OpD:={o with subj:=[],reason:=[],glass:=false}
def ew(o:OpD):Bool:=decide (1≤o.kind) && decide (o.kind≤8) && okD o && nW (iD o) (jo o)
def dK(o:OpD):Bool:=bp o.subj && mV o && decide (o.text.length≤4096) && jr o.case && jr o.field && jr o.to && (eqV o.val aq||bz o.val) && ew o
def bY(s:an)(o:OpD):Int:=
 let c:=bw s.cases o.case
 if ck s.cases o.case=false then 10
 else if o.kind=3∧c.fields.length≥16∧eqV (dZ c.fields o.field) aq=true then 6
 else if o.kind≠2∧c.log.length≥256 then 6
 else if o.kind=3∧c.state=iF∨o.kind=4∧nH c.state o.to=false then 13
 else 0
def xA(l:List pP)(n:Int):Option pP:=if 1≤n then l[(n - 1).toNat]? else none
def fC(s:an)(o:OpD):Int:=match xA s.reviews o.review with
 |none=>10
 |some r=>if r.isOpen=false then 10 else if r.subj=o.subj then 12 else 0
def bL(s:an)(o:OpD):Int:=
 if dK o=false then 1
 else if o.kind=1 then(if ck s.cases o.case then 11 else if s.cases.length≥64 then 6 else 0)
 else if 2≤o.kind∧o.kind≤4 then bY s o
 else if o.kind=5 then fC s o
 else if o.kind=6 then(if s.roles.length≥64∧zn s.roles ⟨o.case,o.field⟩=false then 6 else 0)
 else if o.kind=8 then(if s.tick>1099511627776 - o.review then 6 else 0)
 else 0
def idV(s:Txt):bu:=⟨5,0,s⟩
def vh(l:List vo)(subj:Txt):bu:=⟨1,if l.any (fun x=>x.actor==subj)then 1 else 0,[]⟩
def idT:Txt:=[105,100]
def cI(c:aL)(subj:Txt):List bt:=
 [⟨3,idT,[idV c.id]⟩,⟨3,[111,119,110,101,114],[idV c.owner]⟩,⟨3,[115,116,97,116,101],[idV c.state]⟩,⟨3,[101,118,101,110,116,115],[⟨2,c.log.length,[]⟩]⟩,⟨3,[116,111,111,107],[vh c.log subj]⟩]++
 (match c.log.getLast? with
  |some x=>[⟨3,[108,97,115,116],[idV x.actor]⟩]
  |none=>[])++
 (c.fields.filter fun f=>decide (f.name.length≤14)).map fun f=>⟨3,[102,95]++f.name,[f.val]⟩
def dJ(l:List gL)(subj:Txt):List bu:=((l.filter fun r=>r.subj==subj).map fun r=>idV r.role).take 16
def fS(s:an)(o:OpD):List bt:=
 [⟨1,idT,[idV o.subj]⟩,⟨1,[114,111,108,101],dJ s.roles o.subj⟩,⟨2,[110,97,109,101],[idV (jc o.kind)]⟩]++
 (if o.field= []then []else [⟨2,[102,105,101,108,100],[idV o.field]⟩])++
 (if o.to= []then []else [⟨2,[116,111],[idV o.to]⟩])++
 [⟨4,[110,111,119],[⟨4,s.tick,[]⟩]⟩]++
 (if ck s.cases o.case=true∧o.kind≠6 then cI (bw s.cases o.case) o.subj else [])
def eR(fs:List cK)(name:Txt)(v:bu):List cK:=
 let i:=fs.findIdx fun f=>geB f.name name
 match fs[i]? with
 |none=>fs++ [⟨name,v⟩]
 |some f=>if f.name=name then fs.set i ⟨f.name,v⟩else fs.take i++ [⟨name,v⟩]++fs.drop i
def jL(s:an)(c:aL)(actor what:Txt):aL:={c with log:=c.log++ [⟨s.tick,actor,what⟩]}
def doD(par:Txt→bC×Int×Int)(s:an)(o:OpD):an:=
 let i:=findD s.cases o.case
 if o.kind=1 then {s with cases:=s.cases.take i++ [jL s ⟨o.case,o.subj,jY,[],[]⟩ o.subj [110,101,119]]++s.cases.drop i}
 else if o.kind=3 then {s with cases:=s.cases.modify i fun c=>jL s {c with fields:=eR c.fields o.field o.val} o.subj [119,114,105,116,101]}
 else if o.kind=4 then {s with cases:=s.cases.modify i fun c=>jL s {c with state:=o.to} o.subj o.to}
 else if o.kind=5 then {s with reviews:=s.reviews.modify (o.review - 1).toNat fun r=> {r with isOpen:=false}}
 else if o.kind=6 then(if zn s.roles ⟨o.case,o.field⟩then s else {s with roles:=s.roles++ [⟨o.case,o.field⟩]})
 else if o.kind=7 then(if(par o.text).2.1=0 then {s with policy:=(par o.text).1,version:=s.version+1} else s)
 else if o.kind=8 then {s with tick:=s.tick+o.review}
 else s
def dX(par:Txt→bC×Int×Int)(s:an)(o:OpD):an:=if bL s o=0 then doD par s o else s
def i64(n:Int):Prop:= -9223372036854775808≤n∧n≤9223372036854775807
end Go.Bf
namespace Go.Proofs.YtelkmnkejghkeaaGreatDoor
open Go Go.Ab
def tyN:TI:=⟨.other,0,0,default,none⟩
abbrev afr:TI:=⟨.other,1,8,.v .nilFunc,none⟩
def Pb:List TI:=[
 tyN,
 afr,
 ⟨.int .i64,1,8,.i 0,some (0,[.int .i64])⟩,
 ⟨.int .i64,1,8,.i 0,some (0,[.int .i64])⟩,
 ⟨.bool,1,1,.b false,some (0,[.bool])⟩,
 ⟨.int .u8,1,1,.v (.int .u8 0),some (0,[.int .u8])⟩,
 ⟨.int .u8,1,1,.v (.int .u8 0),some (0,[.int .u8])⟩,
 ⟨.strct [(0,2),(1,3),(2,4),(3,6)],4,24,.agg [.i 0,.i 0,.b false,.v (.int .u8 0)],none⟩,
 ⟨.strct [(0,2),(1,3),(2,4),(3,6)],4,24,.agg [.i 0,.i 0,.b false,.v (.int .u8 0)],none⟩,
 ⟨.str,1,16,.s [],some (0,[.str])⟩,tyN,
 ⟨.str,1,16,.s [],some (0,[.str])⟩,tyN,tyN,tyN,tyN,tyN,tyN,tyN,tyN,tyN,tyN,
 ⟨.slice 9,1,24,.sl [] .full,none⟩,
 ⟨.ptr 86,1,8,.v (.pointer none),none⟩,
 ⟨.ptr 92,1,8,.v (.pointer none),none⟩,tyN,tyN,tyN,tyN,
 ⟨.slice 120,1,24,.sl [] .full,none⟩,
 ⟨.slice 134,1,24,.sl [] .full,none⟩,
 ⟨.slice 137,1,24,.sl [] .full,none⟩,
 ⟨.slice 140,1,24,.sl [] .full,none⟩,
 ⟨.slice 261,1,24,.sl [] .full,none⟩,
 ⟨.slice 261,1,24,.sl [] .full,none⟩,
 ⟨.slice 213,1,24,.sl [] .full,none⟩,
 ⟨.slice 39,1,24,.sl [] .full,none⟩,
 ⟨.slice 90,1,24,.sl [] .full,none⟩,tyN,
 ⟨.strct [(0,9),(1,4),(2,3),(3,34),(4,35),(5,36),(6,37)],7,128,.agg [.s [],.b false,.i 0,.sl [] .full,.sl [] .full,.sl [] .full,.sl [] .full],none⟩,
 ⟨.strct [(0,3),(1,29),(2,30),(3,31),(4,32),(5,39),(12,3)],13,240,.agg [.i 0,.sl [] .full,.sl [] .full,.sl [] .full,.sl [] .full,.s [],.b false,.i 0,.sl [] .full,.sl [] .full,.sl [] .full,.sl [] .full,.i 0],none⟩,
 ⟨.strct [(0,3),(1,29),(2,30),(3,31),(4,32),(5,39),(12,3)],13,240,.agg [.i 0,.sl [] .full,.sl [] .full,.sl [] .full,.sl [] .full,.s [],.b false,.i 0,.sl [] .full,.sl [] .full,.sl [] .full,.sl [] .full,.i 0],none⟩,tyN,
 ⟨.slice 59,1,24,.sl [] .full,none⟩,
 afr,tyN,
 afr,tyN,
 ⟨.strct [(0,3),(1,3),(2,9)],3,32,.agg [.i 0,.i 0,.s []],some (1,[.int .i64,.int .i64,.str])⟩,
 ⟨.strct [(0,3),(1,9),(2,9),(3,9),(4,9),(5,48),(8,3),(9,9),(10,9),(11,4)],12,152,.agg [.i 0,.s [],.s [],.s [],.s [],.i 0,.i 0,.s [],.i 0,.s [],.s [],.b false],some (2,[.int .i64,.str,.str,.str,.str,.int .i64,.int .i64,.str,.int .i64,.str,.str,.bool])⟩,
 ⟨.strct [(0,3),(1,9),(2,9),(3,9),(4,9),(5,48),(8,3),(9,9),(10,9),(11,4)],12,152,.agg [.i 0,.s [],.s [],.s [],.s [],.i 0,.i 0,.s [],.i 0,.s [],.s [],.b false],some (2,[.int .i64,.str,.str,.str,.str,.int .i64,.int .i64,.str,.int .i64,.str,.str,.bool])⟩,tyN,
 afr,
 ⟨.int .i64,1,8,.i 0,some (0,[.int .i64])⟩,
 ⟨.cplx .f64,1,16,.v (.complex .f64 0 0),some (0,[.cplx .f64])⟩,
 ⟨.cplx .f64,1,16,.v (.complex .f64 0 0),some (0,[.cplx .f64])⟩,
 ⟨.strct [(0,53),(1,55),(2,4),(3,48),(6,4),(7,3)],8,80,.agg [.i 0,.v (.complex .f64 0 0),.b false,.i 0,.i 0,.s [],.b false,.i 0],some (2,[.int .i64,.cplx .f64,.bool,.int .i64,.int .i64,.str,.bool,.int .i64])⟩,
 ⟨.strct [(0,53),(1,55),(2,4),(3,48),(6,4),(7,3)],8,80,.agg [.i 0,.v (.complex .f64 0 0),.b false,.i 0,.i 0,.s [],.b false,.i 0],some (2,[.int .i64,.cplx .f64,.bool,.int .i64,.int .i64,.str,.bool,.int .i64])⟩,tyN,
 ⟨.strct [(0,50),(12,3),(13,55),(14,4),(15,37)],16,208,.agg [.i 0,.s [],.s [],.s [],.s [],.i 0,.i 0,.s [],.i 0,.s [],.s [],.b false,.i 0,.v (.complex .f64 0 0),.b false,.sl [] .full],none⟩,tyN,
 afr,
 afr,tyN,tyN,
 afr,tyN,tyN,
 ⟨.slice 76,1,24,.sl [] .full,none⟩,tyN,tyN,tyN,tyN,tyN,
 ⟨.int .u64,1,8,.v (.int .u64 0),some (0,[.int .u64])⟩,tyN,
 ⟨.slice 5,1,24,.sl [] .full,none⟩,tyN,tyN,tyN,
 afr,tyN,tyN,tyN,
 ⟨.ptr 207,1,8,.v (.pointer none),none⟩,tyN,
 ⟨.strct [(0,84),(1,41),(14,43),(15,74)],16,280,.agg [.v (.pointer none),.i 0,.sl [] .full,.sl [] .full,.sl [] .full,.sl [] .full,.s [],.b false,.i 0,.sl [] .full,.sl [] .full,.sl [] .full,.sl [] .full,.i 0,.sl [] .full,.v (.int .u64 0)],none⟩,tyN,tyN,tyN,
 ⟨.strct [(0,3),(1,3),(2,9)],3,32,.agg [.i 0,.i 0,.s []],some (1,[.int .i64,.int .i64,.str])⟩,tyN,
 ⟨.strct [(0,3),(1,76),(2,3),(3,3),(4,4)],5,56,.agg [.i 0,.sl [] .full,.i 0,.i 0,.b false],none⟩,tyN,tyN,tyN,tyN,
 afr,
 afr,tyN,
 afr,
 afr,
 ⟨.strct [(0,55),(1,37)],2,40,.agg [.v (.complex .f64 0 0),.sl [] .full],none⟩,
 ⟨.strct [(0,55),(1,37)],2,40,.agg [.v (.complex .f64 0 0),.sl [] .full],none⟩,
 afr,tyN,
 afr,tyN,
 afr,
 ⟨.slice 177,1,24,.sl [] .full,none⟩,
 afr,
 afr,
 afr,
 afr,
 ⟨.ptr 41,1,8,.v (.pointer none),none⟩,
 afr,
 afr,
 ⟨.slice 196,1,24,.sl [] .full,none⟩,
 ⟨.slice 186,1,24,.sl [] .full,none⟩,
 ⟨.strct [(0,9),(1,9),(2,9),(3,117),(4,118)],5,96,.agg [.s [],.s [],.s [],.sl [] .full,.sl [] .full],none⟩,
 ⟨.strct [(0,9),(1,9),(2,9),(3,117),(4,118)],5,96,.agg [.s [],.s [],.s [],.sl [] .full,.sl [] .full],none⟩,tyN,
 afr,
 afr,tyN,
 afr,tyN,tyN,tyN,tyN,tyN,tyN,tyN,tyN,
 ⟨.strct [(0,3),(1,3),(2,9),(3,9),(4,9),(5,9),(6,4)],7,88,.agg [.i 0,.i 0,.s [],.s [],.s [],.s [],.b false],some (1,[.int .i64,.int .i64,.str,.str,.str,.str,.bool])⟩,tyN,tyN,
 ⟨.strct [(0,3),(1,9),(2,9)],3,40,.agg [.i 0,.s [],.s []],some (1,[.int .i64,.str,.str])⟩,tyN,tyN,
 ⟨.strct [(0,9),(1,9)],2,32,.agg [.s [],.s []],some (1,[.str,.str])⟩,tyN,tyN,tyN,
 ⟨.int .u64,1,8,.v (.int .u64 0),some (0,[.int .u64])⟩,tyN,tyN,tyN,tyN,tyN,tyN,tyN,tyN,
 ⟨.slice 157,1,24,.sl [] .full,none⟩,tyN,tyN,tyN,
 ⟨.strct [(0,3),(1,3),(2,3),(3,9)],4,40,.agg [.i 0,.i 0,.i 0,.s []],some (1,[.int .i64,.int .i64,.int .i64,.str])⟩,tyN,
 ⟨.iface,1,16,.v .nilIface,none⟩,tyN,tyN,tyN,tyN,tyN,tyN,
 ⟨.ptr 168,1,8,.v (.pointer none),none⟩,tyN,
 ⟨.strct [(0,153),(1,3),(2,3),(3,53),(4,3)],5,56,.agg [.sl [] .full,.i 0,.i 0,.i 0,.i 0],none⟩,tyN,tyN,tyN,tyN,tyN,
 ⟨.slice 48,1,24,.sl [] .full,none⟩,tyN,tyN,
 ⟨.strct [(0,3),(1,9),(2,174)],3,48,.agg [.i 0,.s [],.sl [] .full],none⟩,tyN,tyN,tyN,tyN,tyN,tyN,tyN,tyN,
 ⟨.strct [(0,3),(1,9),(2,9)],3,40,.agg [.i 0,.s [],.s []],some (1,[.int .i64,.str,.str])⟩,tyN,
 ⟨.ptr 120,1,8,.v (.pointer none),none⟩,tyN,tyN,tyN,
 afr,tyN,tyN,tyN,
 ⟨.strct [(0,9),(1,48)],4,48,.agg [.s [],.i 0,.i 0,.s []],some (2,[.str,.int .i64,.int .i64,.str])⟩,
 afr,tyN,
 afr,tyN,tyN,tyN,tyN,tyN,tyN,tyN,
 ⟨.strct [(0,24),(1,68),(2,4)],3,40,.agg [.v (.pointer none),.sl [] .full,.b false],none⟩,tyN,tyN,tyN,
 ⟨.slice 218,1,24,.sl [] .full,none⟩,tyN,
 ⟨.strct [(0,9),(1,4),(2,34),(3,211),(4,37)],5,96,.agg [.s [],.b false,.sl [] .full,.sl [] .full,.sl [] .full],none⟩,tyN,tyN,
 ⟨.strct [(0,3),(1,9),(2,4)],3,32,.agg [.i 0,.s [],.b false],some (1,[.int .i64,.str,.bool])⟩,tyN,
 ⟨.strct [(0,3),(1,48),(4,216)],7,72,.agg [.i 0,.i 0,.i 0,.s [],.i 0,.s [],.b false],some (2,[.int .i64,.int .i64,.int .i64,.str,.int .i64,.str,.bool])⟩,tyN,tyN,tyN,tyN,tyN,tyN,tyN,tyN,tyN,tyN,tyN,tyN,tyN,tyN,tyN,tyN,
 afr,tyN,tyN,tyN,
 ⟨.ptr 242,1,8,.v (.pointer none),none⟩,
 ⟨.map 9 364,1,8,.v (.map none),none⟩,tyN,
 ⟨.strct [(0,240),(1,3)],2,16,.agg [.v (.map none),.i 0],none⟩,tyN,tyN,
 ⟨.slice 3,1,24,.sl [] .full,none⟩,tyN,tyN,
 afr,tyN,tyN,tyN,tyN,tyN,tyN,tyN,tyN,
 ⟨.ptr 310,1,8,.v (.pointer none),none⟩,tyN,tyN,tyN,
 ⟨.slice 265,1,24,.sl [] .full,none⟩,tyN,tyN,
 ⟨.strct [(0,216),(3,3),(4,48)],7,72,.agg [.i 0,.s [],.b false,.i 0,.i 0,.i 0,.s []],some (2,[.int .i64,.str,.bool,.int .i64,.int .i64,.int .i64,.str])⟩,
 ⟨.slice 264,1,24,.sl [] .full,none⟩,tyN,
 ⟨.ptr 269,1,8,.v (.pointer none),none⟩,tyN,
 ⟨.strct [(0,267),(1,76)],2,32,.agg [.v (.pointer none),.sl [] .full],none⟩,tyN,tyN,tyN,
 ⟨.int .u32,1,4,.v (.int .u32 0),some (0,[.int .u32])⟩,tyN,tyN,
 afr,tyN,tyN,tyN,tyN,tyN,tyN,tyN,tyN,tyN,tyN,tyN,tyN,tyN,tyN,tyN,tyN,tyN,tyN,
 ⟨.slice 103,1,24,.sl [] .full,none⟩,tyN,tyN,tyN,tyN,tyN,tyN,
 afr,tyN,tyN,tyN,tyN,tyN,tyN,tyN,
 ⟨.strct [(0,76),(1,3),(2,4)],3,40,.agg [.sl [] .full,.i 0,.b false],none⟩,tyN,tyN,tyN,tyN,tyN,tyN,tyN,tyN,
 afr,tyN,
 afr,tyN,tyN,tyN,tyN,tyN,tyN,tyN,tyN,tyN,tyN,tyN,tyN,tyN,
 ⟨.slice 55,1,24,.sl [] .full,none⟩,tyN,tyN,tyN,tyN,tyN,tyN,tyN,tyN,tyN,tyN,tyN,tyN,tyN,tyN,tyN,tyN,tyN,tyN,tyN,tyN,tyN,tyN,tyN,tyN,tyN,tyN,tyN,tyN,
 ⟨.strct [],0,0,default,none⟩,tyN,tyN,
 ⟨.slice 4,1,24,.sl [] .full,none⟩,tyN,tyN,tyN,tyN,tyN,
 ⟨.strct [(0,174),(1,48),(4,53)],5,64,.agg [.sl [] .full,.i 0,.i 0,.s [],.i 0],none⟩,
 afr,tyN,tyN,tyN,tyN,tyN,tyN,tyN,tyN,tyN,tyN,tyN,tyN,tyN,tyN,tyN,
 ⟨.slice 373,1,24,.sl [] .full,none⟩,tyN,tyN,tyN,tyN,tyN,tyN,tyN,tyN,tyN,
 afr,tyN,tyN,tyN,tyN,tyN,tyN,tyN,tyN,tyN,tyN,tyN,
 afr,tyN,tyN,tyN,tyN,tyN,tyN,tyN,tyN,tyN,tyN,tyN,tyN,tyN,tyN]
def U(t:TypeId):TI:=Pb.getD t ⟨.other,0,0,default,none⟩
theorem U3k:(U 3).k= .int .i64∧(U 3).sz=1∧(U 3).bytes=8∧(U 3).zero= .i 0:=⟨rfl,rfl,rfl,rfl⟩
theorem U4k:(U 4).k= .bool∧(U 4).sz=1∧(U 4).bytes=1∧(U 4).zero= .b false:=⟨rfl,rfl,rfl,rfl⟩
theorem U5k:(U 5).k= .int .u8∧(U 5).sz=1∧(U 5).bytes=1∧(U 5).zero= .v (.int .u8 0):=⟨rfl,rfl,rfl,rfl⟩
theorem U9k:(U 9).k= .str∧(U 9).sz=1∧(U 9).bytes=16∧(U 9).zero= .s []:=⟨rfl,rfl,rfl,rfl⟩
theorem adt:(U 22).k= .slice 9∧(U 22).sz=1∧(U 22).bytes=24∧(U 22).zero= .sl [] .full:=⟨rfl,rfl,rfl,rfl⟩
theorem adx:(U 23).k= .ptr 86∧(U 23).sz=1∧(U 23).bytes=8∧(U 23).zero= .v (.pointer none):=⟨rfl,rfl,rfl,rfl⟩
theorem adB:(U 24).k= .ptr 92∧(U 24).sz=1∧(U 24).bytes=8∧(U 24).zero= .v (.pointer none):=⟨rfl,rfl,rfl,rfl⟩
theorem adF:(U 29).k= .slice 120∧(U 29).sz=1∧(U 29).bytes=24∧(U 29).zero= .sl [] .full:=⟨rfl,rfl,rfl,rfl⟩
theorem adJ:(U 30).k= .slice 134∧(U 30).sz=1∧(U 30).bytes=24∧(U 30).zero= .sl [] .full:=⟨rfl,rfl,rfl,rfl⟩
theorem adN:(U 31).k= .slice 137∧(U 31).sz=1∧(U 31).bytes=24∧(U 31).zero= .sl [] .full:=⟨rfl,rfl,rfl,rfl⟩
theorem adR:(U 32).k= .slice 140∧(U 32).sz=1∧(U 32).bytes=24∧(U 32).zero= .sl [] .full:=⟨rfl,rfl,rfl,rfl⟩
theorem adV:(U 34).k= .slice 261∧(U 34).sz=1∧(U 34).bytes=24∧(U 34).zero= .sl [] .full:=⟨rfl,rfl,rfl,rfl⟩
theorem adZ:(U 35).k= .slice 213∧(U 35).sz=1∧(U 35).bytes=24∧(U 35).zero= .sl [] .full:=⟨rfl,rfl,rfl,rfl⟩
theorem ad3:(U 36).k= .slice 39∧(U 36).sz=1∧(U 36).bytes=24∧(U 36).zero= .sl [] .full:=⟨rfl,rfl,rfl,rfl⟩
theorem ad7:(U 37).k= .slice 90∧(U 37).sz=1∧(U 37).bytes=24∧(U 37).zero= .sl [] .full:=⟨rfl,rfl,rfl,rfl⟩
theorem aeb:(U 39).k= .strct [(0,9),(1,4),(2,3),(3,34),(4,35),(5,36),(6,37)]∧(U 39).sz=7∧(U 39).bytes=128∧(U 39).zero= .agg [.s [],.b false,.i 0,.sl [] .full,.sl [] .full,.sl [] .full,.sl [] .full]:=⟨rfl,rfl,rfl,rfl⟩
theorem aef:(U 41).k= .strct [(0,3),(1,29),(2,30),(3,31),(4,32),(5,39),(12,3)]∧(U 41).sz=13∧(U 41).bytes=240∧(U 41).zero= .agg [.i 0,.sl [] .full,.sl [] .full,.sl [] .full,.sl [] .full,.s [],.b false,.i 0,.sl [] .full,.sl [] .full,.sl [] .full,.sl [] .full,.i 0]:=⟨rfl,rfl,rfl,rfl⟩
theorem aej:(U 43).k= .slice 59∧(U 43).sz=1∧(U 43).bytes=24∧(U 43).zero= .sl [] .full:=⟨rfl,rfl,rfl,rfl⟩
theorem aeo:(U 48).k= .strct [(0,3),(1,3),(2,9)]∧(U 48).sz=3∧(U 48).bytes=32∧(U 48).zero= .agg [.i 0,.i 0,.s []]∧(U 48).eq=some (1,[.int .i64,.int .i64,.str]):=⟨rfl,rfl,rfl,rfl,rfl⟩
theorem aet:(U 50).k= .strct [(0,3),(1,9),(2,9),(3,9),(4,9),(5,48),(8,3),(9,9),(10,9),(11,4)]∧(U 50).sz=12∧(U 50).bytes=152∧(U 50).zero= .agg [.i 0,.s [],.s [],.s [],.s [],.i 0,.i 0,.s [],.i 0,.s [],.s [],.b false]∧(U 50).eq=some (2,[.int .i64,.str,.str,.str,.str,.int .i64,.int .i64,.str,.int .i64,.str,.str,.bool]):=⟨rfl,rfl,rfl,rfl,rfl⟩
theorem aex:(U 53).k= .int .i64∧(U 53).sz=1∧(U 53).bytes=8∧(U 53).zero= .i 0:=⟨rfl,rfl,rfl,rfl⟩
theorem aeB:(U 55).k= .cplx .f64∧(U 55).sz=1∧(U 55).bytes=16∧(U 55).zero= .v (.complex .f64 0 0):=⟨rfl,rfl,rfl,rfl⟩
theorem aeF:(U 57).k= .strct [(0,53),(1,55),(2,4),(3,48),(6,4),(7,3)]∧(U 57).sz=8∧(U 57).bytes=80∧(U 57).zero= .agg [.i 0,.v (.complex .f64 0 0),.b false,.i 0,.i 0,.s [],.b false,.i 0]:=⟨rfl,rfl,rfl,rfl⟩
theorem aeJ:(U 59).k= .strct [(0,50),(12,3),(13,55),(14,4),(15,37)]∧(U 59).sz=16∧(U 59).bytes=208∧(U 59).zero= .agg [.i 0,.s [],.s [],.s [],.s [],.i 0,.i 0,.s [],.i 0,.s [],.s [],.b false,.i 0,.v (.complex .f64 0 0),.b false,.sl [] .full]:=⟨rfl,rfl,rfl,rfl⟩
theorem aeN:(U 68).k= .slice 76∧(U 68).sz=1∧(U 68).bytes=24∧(U 68).zero= .sl [] .full:=⟨rfl,rfl,rfl,rfl⟩
theorem aeR:(U 74).k= .int .u64∧(U 74).sz=1∧(U 74).bytes=8∧(U 74).zero= .v (.int .u64 0):=⟨rfl,rfl,rfl,rfl⟩
theorem aeV:(U 76).k= .slice 5∧(U 76).sz=1∧(U 76).bytes=24∧(U 76).zero= .sl [] .full:=⟨rfl,rfl,rfl,rfl⟩
theorem aeZ:(U 84).k= .ptr 207∧(U 84).sz=1∧(U 84).bytes=8∧(U 84).zero= .v (.pointer none):=⟨rfl,rfl,rfl,rfl⟩
theorem ae3:(U 86).k= .strct [(0,84),(1,41),(14,43),(15,74)]∧(U 86).sz=16∧(U 86).bytes=280∧(U 86).zero= .agg [.v (.pointer none),.i 0,.sl [] .full,.sl [] .full,.sl [] .full,.sl [] .full,.s [],.b false,.i 0,.sl [] .full,.sl [] .full,.sl [] .full,.sl [] .full,.i 0,.sl [] .full,.v (.int .u64 0)]:=⟨rfl,rfl,rfl,rfl⟩
theorem ae8:(U 90).k= .strct [(0,3),(1,3),(2,9)]∧(U 90).sz=3∧(U 90).bytes=32∧(U 90).zero= .agg [.i 0,.i 0,.s []]∧(U 90).eq=some (1,[.int .i64,.int .i64,.str]):=⟨rfl,rfl,rfl,rfl,rfl⟩
theorem afc:(U 92).k= .strct [(0,3),(1,76),(2,3),(3,3),(4,4)]∧(U 92).sz=5∧(U 92).bytes=56∧(U 92).zero= .agg [.i 0,.sl [] .full,.i 0,.i 0,.b false]:=⟨rfl,rfl,rfl,rfl⟩
theorem aap:(U 103).k= .strct [(0,55),(1,37)]∧(U 103).sz=2∧(U 103).bytes=40∧(U 103).zero= .agg [.v (.complex .f64 0 0),.sl [] .full]:=⟨rfl,rfl,rfl,rfl⟩
theorem aat:(U 109).k= .slice 177∧(U 109).sz=1∧(U 109).bytes=24∧(U 109).zero= .sl [] .full:=⟨rfl,rfl,rfl,rfl⟩
theorem aax:(U 117).k= .slice 196∧(U 117).sz=1∧(U 117).bytes=24∧(U 117).zero= .sl [] .full:=⟨rfl,rfl,rfl,rfl⟩
theorem aaB:(U 118).k= .slice 186∧(U 118).sz=1∧(U 118).bytes=24∧(U 118).zero= .sl [] .full:=⟨rfl,rfl,rfl,rfl⟩
theorem aaF:(U 120).k= .strct [(0,9),(1,9),(2,9),(3,117),(4,118)]∧(U 120).sz=5∧(U 120).bytes=96∧(U 120).zero= .agg [.s [],.s [],.s [],.sl [] .full,.sl [] .full]:=⟨rfl,rfl,rfl,rfl⟩
theorem aaK:(U 134).k= .strct [(0,3),(1,3),(2,9),(3,9),(4,9),(5,9),(6,4)]∧(U 134).sz=7∧(U 134).bytes=88∧(U 134).zero= .agg [.i 0,.i 0,.s [],.s [],.s [],.s [],.b false]∧(U 134).eq=some (1,[.int .i64,.int .i64,.str,.str,.str,.str,.bool]):=⟨rfl,rfl,rfl,rfl,rfl⟩
theorem aaP:(U 137).k= .strct [(0,3),(1,9),(2,9)]∧(U 137).sz=3∧(U 137).bytes=40∧(U 137).zero= .agg [.i 0,.s [],.s []]∧(U 137).eq=some (1,[.int .i64,.str,.str]):=⟨rfl,rfl,rfl,rfl,rfl⟩
theorem aaU:(U 140).k= .strct [(0,9),(1,9)]∧(U 140).sz=2∧(U 140).bytes=32∧(U 140).zero= .agg [.s [],.s []]∧(U 140).eq=some (1,[.str,.str]):=⟨rfl,rfl,rfl,rfl,rfl⟩
theorem aaY:(U 144).k= .int .u64∧(U 144).sz=1∧(U 144).bytes=8∧(U 144).zero= .v (.int .u64 0):=⟨rfl,rfl,rfl,rfl⟩
theorem aa2:(U 153).k= .slice 157∧(U 153).sz=1∧(U 153).bytes=24∧(U 153).zero= .sl [] .full:=⟨rfl,rfl,rfl,rfl⟩
theorem aa6:(U 157).k= .strct [(0,3),(1,3),(2,3),(3,9)]∧(U 157).sz=4∧(U 157).bytes=40∧(U 157).zero= .agg [.i 0,.i 0,.i 0,.s []]:=⟨rfl,rfl,rfl,rfl⟩
theorem aba:(U 168).k= .strct [(0,153),(1,3),(2,3),(3,53),(4,3)]∧(U 168).sz=5∧(U 168).bytes=56∧(U 168).zero= .agg [.sl [] .full,.i 0,.i 0,.i 0,.i 0]:=⟨rfl,rfl,rfl,rfl⟩
theorem abe:(U 174).k= .slice 48∧(U 174).sz=1∧(U 174).bytes=24∧(U 174).zero= .sl [] .full:=⟨rfl,rfl,rfl,rfl⟩
theorem abi:(U 177).k= .strct [(0,3),(1,9),(2,174)]∧(U 177).sz=3∧(U 177).bytes=48∧(U 177).zero= .agg [.i 0,.s [],.sl [] .full]:=⟨rfl,rfl,rfl,rfl⟩
theorem abn:(U 186).k= .strct [(0,3),(1,9),(2,9)]∧(U 186).sz=3∧(U 186).bytes=40∧(U 186).zero= .agg [.i 0,.s [],.s []]∧(U 186).eq=some (1,[.int .i64,.str,.str]):=⟨rfl,rfl,rfl,rfl,rfl⟩
theorem abt:(U 196).k= .strct [(0,9),(1,48)]∧(U 196).sz=4∧(U 196).bytes=48∧(U 196).zero= .agg [.s [],.i 0,.i 0,.s []]∧(U 196).eq=some (2,[.str,.int .i64,.int .i64,.str]):=⟨rfl,rfl,rfl,rfl,rfl⟩
theorem abx:(U 207).k= .strct [(0,24),(1,68),(2,4)]∧(U 207).sz=3∧(U 207).bytes=40∧(U 207).zero= .agg [.v (.pointer none),.sl [] .full,.b false]:=⟨rfl,rfl,rfl,rfl⟩
theorem abB:(U 211).k= .slice 218∧(U 211).sz=1∧(U 211).bytes=24∧(U 211).zero= .sl [] .full:=⟨rfl,rfl,rfl,rfl⟩
theorem abF:(U 213).k= .strct [(0,9),(1,4),(2,34),(3,211),(4,37)]∧(U 213).sz=5∧(U 213).bytes=96∧(U 213).zero= .agg [.s [],.b false,.sl [] .full,.sl [] .full,.sl [] .full]:=⟨rfl,rfl,rfl,rfl⟩
theorem abK:(U 216).k= .strct [(0,3),(1,9),(2,4)]∧(U 216).sz=3∧(U 216).bytes=32∧(U 216).zero= .agg [.i 0,.s [],.b false]∧(U 216).eq=some (1,[.int .i64,.str,.bool]):=⟨rfl,rfl,rfl,rfl,rfl⟩
theorem abP:(U 218).k= .strct [(0,3),(1,48),(4,216)]∧(U 218).sz=7∧(U 218).bytes=72∧(U 218).zero= .agg [.i 0,.i 0,.i 0,.s [],.i 0,.s [],.b false]∧(U 218).eq=some (2,[.int .i64,.int .i64,.int .i64,.str,.int .i64,.str,.bool]):=⟨rfl,rfl,rfl,rfl,rfl⟩
theorem abT:(U 240).k= .map 9 364∧(U 240).sz=1∧(U 240).bytes=8∧(U 240).zero= .v (.map none):=⟨rfl,rfl,rfl,rfl⟩
theorem abX:(U 242).k= .strct [(0,240),(1,3)]∧(U 242).sz=2∧(U 242).bytes=16∧(U 242).zero= .agg [.v (.map none),.i 0]:=⟨rfl,rfl,rfl,rfl⟩
theorem ab1:(U 245).k= .slice 3∧(U 245).sz=1∧(U 245).bytes=24∧(U 245).zero= .sl [] .full:=⟨rfl,rfl,rfl,rfl⟩
theorem ab5:(U 261).k= .slice 265∧(U 261).sz=1∧(U 261).bytes=24∧(U 261).zero= .sl [] .full:=⟨rfl,rfl,rfl,rfl⟩
theorem acd:(U 264).k= .strct [(0,216),(3,3),(4,48)]∧(U 264).sz=7∧(U 264).bytes=72∧(U 264).zero= .agg [.i 0,.s [],.b false,.i 0,.i 0,.i 0,.s []]∧(U 264).eq=some (2,[.int .i64,.str,.bool,.int .i64,.int .i64,.int .i64,.str]):=⟨rfl,rfl,rfl,rfl,rfl⟩
theorem ach:(U 265).k= .slice 264∧(U 265).sz=1∧(U 265).bytes=24∧(U 265).zero= .sl [] .full:=⟨rfl,rfl,rfl,rfl⟩
theorem acm:(U 273).k= .int .u32∧(U 273).sz=1∧(U 273).bytes=4∧(U 273).zero= .v (.int .u32 0):=⟨rfl,rfl,rfl,rfl⟩
theorem acq:(U 295).k= .slice 103∧(U 295).sz=1∧(U 295).bytes=24∧(U 295).zero= .sl [] .full:=⟨rfl,rfl,rfl,rfl⟩
theorem acv:(U 310).k= .strct [(0,76),(1,3),(2,4)]∧(U 310).sz=3∧(U 310).bytes=40∧(U 310).zero= .agg [.sl [] .full,.i 0,.b false]:=⟨rfl,rfl,rfl,rfl⟩
theorem acA:(U 335).k= .slice 55∧(U 335).sz=1∧(U 335).bytes=24∧(U 335).zero= .sl [] .full:=⟨rfl,rfl,rfl,rfl⟩
theorem acD:(U 364).k= .strct []∧(U 364).sz=0:=⟨rfl,rfl⟩
theorem acG:(U 367).k= .slice 4∧(U 367).sz=1∧(U 367).bytes=24∧(U 367).zero= .sl [] .full:=⟨rfl,rfl,rfl,rfl⟩
theorem acK:(U 373).k= .strct [(0,174),(1,48),(4,53)]∧(U 373).sz=5∧(U 373).bytes=64∧(U 373).zero= .agg [.sl [] .full,.i 0,.i 0,.s [],.i 0]:=⟨rfl,rfl,rfl,rfl⟩
theorem acO:(U 390).k= .slice 373∧(U 390).sz=1∧(U 390).bytes=24∧(U 390).zero= .sl [] .full:=⟨rfl,rfl,rfl,rfl⟩
theorem hU:∀t,aQ Tryz.prog U t:=JU 427 afx fun t ht=>by
 unfold U;rw[List.getD_eq_getElem?_getD,List.getElem?_eq_none (show Pb.length≤t from ht)]
 rfl
theorem hm:Tryz.prog.follows .mixedOrders=true:=afx
attribute [go_sem] U3k U4k U5k U9k adt adx adB adF adJ adN adR adV adZ ad3 ad7 aeb aef aej aeo aet aex aeB aeF aeJ aeN aeR aeV aeZ ae3 ae8 afc aap aat aax aaB aaF aaK aaP aaU aaY aa2 aa6 aba abe abi abn abt abx abB abF abK abP abT abX ab1 ab5 acd ach acm acq acv acA acD acG acK acO
end Go.Proofs.YtelkmnkejghkeaaGreatDoor
namespace Go.Proofs.YtelkmnkejghkeaaGreatDoor
open Go Go.Ab Go.Bf Tryz
theorem afs {f:FuncId} {fn:Func} {c:Code} {args:List AV} {h:Heap} {Q:AV→Heap→Prop} (hf:prog.funcs[f]? =some fn) (m:Nat) (rs:List ResultVar) (hk:(∀x∈args,wfA x)→bI prog U m c (za args) h (wK U rs Q)) (hb:fn.body=some c:=by exact rfl) (hn:(fn.name=="runtime.NumGoroutine")=false:=by kernel_rfl) (h1:fn.ntmps=m:=by exact rfl) (h2:fn.results.toList=rs:=by exact rfl) (hl:args.length≤m:=by exact Nat.le_of_ble_eq_true rfl):ai prog f args h Q:=ai.body hU hm hf hb hn m h1 rs h2 hl hk
theorem aw {f:FuncId} {fn:Func} {c:Code} {args:List AV} {h:Heap} {Q:AV→Heap→Prop} (hf:prog.funcs[f]? =some fn) (m:Nat) (rs:List ResultVar) (hk:bI prog U m c (za args) h (wK U rs Q)) (hb:fn.body=some c:=by exact rfl) (hn:(fn.name=="runtime.NumGoroutine")=false:=by kernel_rfl) (h1:fn.ntmps=m:=by exact rfl) (h2:fn.results.toList=rs:=by exact rfl) (hl:args.length≤m:=by exact Nat.le_of_ble_eq_true rfl):ai prog f args h Q:=afs hf m rs (fun _=>hk) hb hn h1 h2 hl
theorem qj(l:Txt)(h:Heap):ai prog 78 [.s l] h fun r h' =>r= .b (bp l)∧h' =h:=by
 refine afs func78 49 [.tmp 2] fun hwf=>?_
 simp only[go_sem];refine .intro (fun m ρ h' =>h' =h∧∃i:Nat,i≤l.length∧m=l.length - i∧wM (l.take i)=true∧lk ρ 0=some (.s l)∧lk ρ 8=some (.i l.length)∧lk ρ 9=some (.i i)) l.length ?_ ?_
 ·refine⟨rfl,0,afu,rfl,rfl,?_,?_,?_⟩<;>simp only[go_sem]
 ·rintro m ρ h' ⟨rfl,i,hi,rfl,hc,r0,r8,r9⟩
  simp only[go_sem,r8,r9];refine .intro (fun e=>?_) (fun e=>?_)
  ·have hlt:i<l.length:=afq e
   have w1:IntKind.i64.wrap ((i:Int)+1)=((i+1:Nat):Int):=by rw[aW _ (by have:=hwf (.s l) afB;simp only[wfA,wf1,lim]at this;omega)];omega
   have w0:IntKind.i64.wrap (0+1)=1:=rfl;have hb:=J7 l i hlt;have hg:=Gm l i hlt;rw[hc]at hg;have hcl:=P8 l[i];have h255:=l[i].toNat_lt;simp only[go_sem,r0,r9];refine .at i hlt ?_;generalize hcc:l[i]=c at hb hg hcl h255⊢
   by_cases hi0:i=0
   ·subst hi0
    rcases hcl with⟨a1,a2,a3,a4,a5⟩|⟨a1,a2,a3,a4,a5⟩|⟨a1,a2,a3,a4,a5⟩|⟨a1,a2,a3,a4,a5⟩|⟨a1,a2,a3,a4,a5⟩|⟨a1,a2,a3,a4,a5⟩
    ·simp only[go_sem,r9,a1,a2,a3,a4,a5,w0]
     refine⟨_,?_,rfl,0+1,afu,rfl,by simp[hg,ue,ltr,a1,a2],?_,?_,?_⟩
     ·omega
     all_goals simp only[go_sem,r0,r8]
    all_goals
     simp only[go_sem,a1,a2,a3,a4,a5];exact .same (.refl _) ⟨by simp[bp,hb (by simp[ue,ltr,a1,a2]),ax],rfl⟩
   ·have hin:((i:Int)==0)=false:=by simp;omega
    rcases hcl with⟨a1,a2,a3,a4,a5⟩|⟨a1,a2,a3,a4,a5⟩|⟨a1,a2,a3,a4,a5⟩|⟨a1,a2,a3,a4,a5⟩|⟨a1,a2,a3,a4,a5⟩|⟨a1,a2,a3,a4,a5⟩
    ·simp only[go_sem,r9,a1,a2,a3,a4,a5,w1]
     exact akp
    ·simp only[go_sem,r9,a1,a3,a4,w1,hin]
     exact akp
    ·simp only[go_sem,r9,a1,a3,a4,a5,w1,hin]
     exact akp
    ·simp only[go_sem,a1,a3,a5,hin]
     exact .same (.refl _) ⟨ahd,rfl⟩
    ·simp only[go_sem,a1,a3,a4,a5,hin]
     exact .same (.refl _) ⟨ahd,rfl⟩
    ·simp only[go_sem,a1,a2,a3,a4,a5,hin]
     exact .same (.refl _) ⟨ahd,rfl⟩
  ·have hge:i=l.length:=by have:=afm e;omega
   subst hge;rw[List.take_length]at hc
   by_cases h0:l= []
   ·subst h0
    have b0:((([]:Txt)== [])=true):=rfl;simp only[go_sem,r0,b0];exact afE
   ·have b0:(l== [])=false:=by simpa using h0
    have hp:1≤l.length:=List.length_pos_iff.2 h0;simp only[go_sem,r0,b0];exact .same (.refl _) ⟨by simp[bp,hc,ax,hp];omega,rfl⟩
theorem II(a:qU)(h:Heap):ai prog 310 [DT a] h fun r h' =>r= .b (qZ a)∧h' =h:=by
 refine aw func310 16 [.tmp 2] ?_
 simp only[go_sem,DT];intro id hid;cases d1:decide (1≤a.cat)
 ·simp only[go_sem,d1]
  exact ak4
 cases d2:decide (a.cat≤4)
 ·simp only[go_sem,d1,d2]
  exact ak4
 simp only[go_sem,d1,d2];refine(qj _ _).pthen ?_;simp only[go_sem];exact ak4
theorem gr(v:bu)(h:Heap):ai prog 81 [aT v] h fun r h' =>r= .b (bz v)∧h' =h:=by
 refine aw func81 61 [.tmp 2] ?_
 simp only[go_sem,aT];intro id hid;cases k1:(v.kind==1)
 case true=>
  have e1:v.kind=1:=afv;cases d1:(v.n==0)<;>cases d2:(v.n==1)
  ·simp only[go_sem,k1,d1,d2]
   exact .mk _ (.refl _) (.aj hid) ⟨aiR,rfl⟩
  all_goals
   simp only[go_sem,k1,d1,d2];exact .mk _ (.refl _) (.aj hid) ⟨aiR,rfl⟩
 have n1:v.kind≠1:=afv;cases k2:(v.kind==2)
 case true=>have e1:v.kind=2:=afv;simp only[go_sem,k1,k2];exact .mk _ (.refl _) (.aj hid) ⟨aiR,rfl⟩
 have n2:v.kind≠2:=afv;cases k3:(v.kind==3)
 case true=>
  have e1:v.kind=3:=afv;cases d1:(v.n==0)
  all_goals
   simp only[go_sem,k1,k2,k3,d1];exact .mk _ (.refl _) (.aj hid) ⟨by simp[bz,e1,d1,ax]<;>omega,rfl⟩
 have n3:v.kind≠3:=afv;cases k4:(v.kind==4)
 case true=>
  have e1:v.kind=4:=afv;cases d1:decide (0≤v.n)<;>cases d2:decide (v.n≤1099511627776)
  all_goals
   simp only[go_sem,k1,k2,k3,k4,d1,d2];exact .mk _ (.refl _) (.aj hid) ⟨aiR,rfl⟩
 have n4:v.kind≠4:=afv;cases k5:(v.kind==5)
 case true=>
  have e1:v.kind=5:=afv;cases d1:(v.n==0)
  ·simp only[go_sem,k1,k2,k3,k4,k5,d1]
   exact .mk _ (.refl _) (.aj hid) ⟨aiR,rfl⟩
  ·simp only[go_sem,k1,k2,k3,k4,k5,d1]
   refine(qj _ _).pthen ?_;simp only[go_sem];exact .mk _ (.refl _) (.aj hid) ⟨aiR,rfl⟩
 have n5:v.kind≠5:=afv;simp only[go_sem,k1,k2,k3,k4,k5];exact .mk _ (.refl _) (.aj hid) ⟨aiR,rfl⟩
theorem N5(m:bO)(h:Heap):ai prog 309 [cU m] h fun r h' =>r= .b (lK m)∧h' =h:=by
 refine aw func309 21 [.tmp 2] ?_
 simp only[go_sem,cU];intro id hid;simp only[go_sem];refine(II m.attr _).pthen ?_;cases d0:qZ m.attr
 ·simp only[go_sem]
  exact akD
 cases d1:decide (1≤m.op)
 ·simp only[go_sem,d1]
  exact akD
 cases d2:decide (m.op≤3)
 ·simp only[go_sem,d1,d2]
  exact akD
 simp only[go_sem,d1,d2];refine(gr m.val _).pthen ?_;simp only[go_sem];exact akD
theorem Jg(n:Nat)(h:Heap):ai prog 293 [.i n] h fun r h' =>r= .i (kZ n)∧h' =h:=by
 refine aw func293 9 [.tmp 2] ?_
 cases d1:((n:Int)==0)
 case true=>simp only[go_sem,d1];exact .same (.refl _) ⟨by grind [kZ,ax],rfl⟩
 cases d2:decide (8<(n:Int))
 ·have e2:¬n>8:=by grind
  exact alo
 ·have e2:n>8:=by grind
  exact alo
theorem EZ{n:Nat}(h:kZ n=0):1≤n∧n≤8:=by grind [kZ]
theorem Mx(l:List bO)(h:Heap):ai prog 294 [gv l] h fun r h' =>r= .i (xQ l)∧h' =h:=by
 refine aw func294 22 [.tmp 2] ?_
 simp only[go_sem,gv,afj];refine(Jg _ _).pthen ?_;cases d1:(kZ l.length !=0)
 case true=>have e1:kZ l.length≠0:=afv;simp only[go_sem,d1];exact .same (.refl _) ⟨by grind [xQ,ax],rfl⟩
 have e1:kZ l.length=0:=afv;have hlen:=EZ e1;simp only[go_sem,d1,afj];refine .intro (fun m ρ h' =>Ab.Sub h h'∧∃i:Nat,i≤l.length∧m=l.length - i∧(l.take i).all lK=true∧lk ρ 12=some (gv l)∧lk ρ 13=some (.i l.length)∧lk ρ 14=some (.i i)) l.length ?_ ?_
 ·refine⟨.refl _,0,afu,rfl,rfl,?_,?_,?_⟩<;>simp only[go_sem,gv]
 ·rintro m ρ h' ⟨hs,i,hi,rfl,hc,r12,r13,r14⟩
  simp only[go_sem,r13,r14];refine .intro (fun e=>?_) (fun e=>?_)
  ·have hlt:i<l.length:=afq e
   have w1:IntKind.i64.wrap ((i:Int)+1)=((i+1:Nat):Int):=afG;simp only[go_sem,r12,r14,gv];refine .at i afv afD ?_;simp only[go_sem,afk,cU];intro id hid;simp only[go_sem];refine(N5 l[i] _).pthen ?_;cases d2:lK l[i]
   ·simp only[go_sem]
    refine .mk _ (.refl _) (hs.new hid _) ⟨?_,rfl⟩;have:l.all lK=false:=List.all_eq_false.2 ⟨_,afo hlt,afv⟩;simp[xQ,e1,this,ax]
   ·simp only[go_sem,r14,w1]
    refine⟨_,?_,hs.new hid _,i+1,afu,rfl,?_,?_,?_,?_⟩
    ·omega
    ·grind [List.take_succ_eq_append_getElem]
    all_goals simp only[go_sem,r12,r13,gv]
  ·have hge:i=l.length:=by grind
   subst hge;rw[List.take_length]at hc;simp only[go_sem];exact .mk _ (.refl _) hs ⟨by grind [xQ,ax],rfl⟩
theorem aA{h:Heap}{i j:Nat}{b:Blk}(e:upd h i (some b) j=none):h j=none:=by grind [ag,aH]
theorem Pj{v:bu}(h:(v.kind==(0:Int) && (v.n==(0:Int) && v.s==([]:Txt)))=false):¬v.kind=0∨¬v.n=0∨¬v.s= []:=by grind
theorem Ph{v:bu}(h:(v.kind==(0:Int) && (v.n==(0:Int) && v.s==([]:Txt)))=true):v.kind=0∧v.n=0∧v.s= []:=by grind
theorem Ln(k:Int)(h:Heap):ai prog 137 [.i k] h fun r h' =>r= .b (vW k)∧h' =h:=by
 refine aw func137 9 [.tmp 2] ?_
 cases d1:decide (1≤k)
 ·simp only[go_sem,d1]
  exact .same (.refl _) ⟨by simp only[vW,d1,ax,Bool.false_and],rfl⟩
 ·simp only[go_sem,d1]
  exact .same (.refl _) ⟨by simp_all [vW,ax,Bool.true_and],rfl⟩
theorem yZ(s:Txt)(h:Heap):ai prog 80 [.s s] h fun r h' =>r= .b (jr s)∧h' =h:=by
 refine aw func80 9 [.tmp 2] ?_
 cases d1:(s==([]:Txt))
 ·simp only[go_sem,d1]
  refine(qj s h).pthen ?_;simp only[go_sem];exact .same (.refl _) ⟨by simp_all [jr,ax,Bool.false_or],rfl⟩
 ·simp only[go_sem,d1]
  exact .same (.refl _) ⟨by simp_all [jr,ax,Bool.true_or],rfl⟩
theorem GV(a b:Txt)(h:Heap):ai prog 141 [.s a,.s b] h fun r h' =>r= .b (nH a b)∧h' =h:=by
 refine aw func141 22 [.tmp 4] ?_
 cases d1:(a==jY)<;>cases d2:(a==xN)<;>cases d3:(a==BC)<;>cases d4:(b==xN)<;>simp only[jY,xN,BC]at d1 d2 d3 d4<;>simp only[go_sem,d1,d2,d3,d4]<;>
  exact .same (.refl _) ⟨by simp only[nH,d1,d2,d3,d4,ax,jY,xN,BC,iF,if_true,Bool.false_eq_true,if_false,Bool.true_or,Bool.false_or],rfl⟩
theorem vr(k:Int)(hk:i64 k)(h:Heap):ai prog 75 [.i k] h fun r h' =>r= .s (jc k)∧h' =h:=by
 refine aw func75 18 [.tmp 2] ?_
 simp only[go_sem];cases d1:decide (k<1)
 case true=>simp only[go_sem];exact .same (.refl _) ⟨by simp_all [jc,afl,true_or,if_true,ax],rfl⟩
 cases d2:decide ((7:Int)<k)
 case true=>simp only[go_sem,d2];exact .same (.refl _) ⟨by simp_all [jc,afl,or_true,if_true,ax],rfl⟩
 have h1:=afm d1;have h2:=afm d2;obtain⟨j,rfl⟩:∃j:Nat,k=(j:Int)+1:=⟨(k - 1).toNat,afu⟩;have hj:j<7:=afu;have w1:IntKind.i64.wrap ((j:Int)+1 - 1)=(j:Int):=afG;simp only[go_sem,d2,w1];refine .at j afu (by rcases j with _|_|_|_|_|_|_|j<;>first|rfl|omega) ?_
 rcases j with _|_|_|_|_|_|_|j
 all_goals first|omega|skip
 all_goals
  simp only[go_sem,List.getElem_cons_zero,List.getElem_cons_succ];exact .same (.refl _) ⟨afJ,rfl⟩
theorem LC(o:OpD)(h:Heap):ai prog 79 [opA o] h fun r h' =>r= .v (.bool (mV o))∧h' =h:=by
 refine aw func79 23 [.tmp 2] ?_
 simp only[go_sem,opA,opC];intro id hid;cases d1:o.glass
 ·simp only[go_sem]
  exact ak5
 simp only[go_sem];refine(Ln _ _).pthen ?_;cases d2:vW o.kind
 ·simp only[go_sem]
  exact ak5
 cases d3:(o.reason==([]:Txt))
 ·simp only[go_sem,d3]
  exact .mk _ (.refl _) (.aj hid) ⟨by
   simp only[mV,d1,d2,d3,ax,if_true,Bool.not_false,Bool.true_and]
   congr 2
   grind,rfl⟩
 ·simp only[go_sem,d3]
  exact ak5
theorem P0(o:OpD)(h:Heap):ai prog 138 [opA o] h fun r h' =>r=opA (iD o)∧h' =h:=by
 refine aw func138 7 [.cell 2 50] ?_
 simp only[go_sem,opA,opC];intro i1 h1;simp only[go_sem];intro i2 h2;have hne:=aH h2;simp only[go_sem,ak,hne,hne.symm];have n2:=aA h2;exact .mk _ (.refl _) (((((Sub.refl h).put h1 _).put n2 _).put h1 _).put n2 _) ⟨rfl,rfl⟩
theorem O4(o:OpD)(h:Heap):ai prog 82 [opA o] h fun r h' =>r= .b (ew o)∧h' =h:=by
 have hb:=fun hh=>P0 o hh
 simp only[iD,opA,opC]at hb;refine aw func82 111 [.tmp 2] ?_
 simp only[go_sem,opA,opC];intro i1 h1;simp only[go_sem];refine(hb _).pthen ?_;simp only[go_sem];intro i3 h3;have n31:=aH h3;have n3:=aA h3;simp only[go_sem,ak,n31.symm];intro i4 h4;have n43:=aH h4;have h4' :=aA h4;have n41:=aH h4';have n4:=aA h4';have bnd:o.kind≠1→o.kind≠2→o.kind≠3→o.kind≠4→o.kind≠5→o.kind≠6→o.kind≠7→o.kind≠8→(decide (1≤o.kind) && decide (o.kind≤8))=false:=by intro a1 a2 a3 a4 a5 a6 a7 a8;simp only[Bool.and_eq_false_iff,decide_eq_false_iff_not];omega
 by_cases k1:o.kind=1
 ·simp only[go_sem,ak,n31.symm,n41.symm,k1]
  cases dcase:(o.case==([]:Txt))
  ·simp only[go_sem,ak,n43.symm]
   exact .mk _ (.refl _) afA ⟨by simp[ew,okD,jo,iD,nW,aq,ax,k1,decide_true,dcase,Bool.and_true,Bool.true_and,Bool.not_false],rfl⟩
  ·simp only[go_sem]
   exact .mk _ (.refl _) afA ⟨by simp[ew,okD,jo,iD,nW,aq,ax,k1,decide_true,dcase,Bool.and_true,Bool.true_and,Bool.false_and,Bool.and_false,Bool.not_true],rfl⟩
 by_cases k2:o.kind=2
 ·simp only[go_sem,ak,n31.symm,n41.symm,k2,Int.reduceBEq]
  refine .calls (hm1 i1 _) [0,1,2,3,4,5,6,7] (.hm1 ahf) afx rfl ?_;simp only[go_sem,ak,n31.symm,n41.symm];refine⟨(.hm1 afS),(.hm1 afS),?_⟩;cases dcase:(o.case==([]:Txt))
  ·simp only[go_sem,ak,n31.symm,n41.symm]
   cases dfield:(o.field==([]:Txt))
   ·simp only[go_sem,ak,n43.symm]
    exact .mk _ (.refl _) afA ⟨by simp[ew,okD,jo,iD,nW,aq,ax,k2,decide_true,dcase,dfield,Bool.and_true,Bool.true_and,Bool.not_false],rfl⟩
   ·simp only[go_sem]
    exact .mk _ (.refl _) afA ⟨by simp[ew,okD,jo,iD,nW,aq,ax,k2,decide_true,dcase,dfield,Bool.and_true,Bool.true_and,Bool.false_and,Bool.and_false,Bool.not_true,Bool.not_false],rfl⟩
  ·simp only[go_sem]
   exact .mk _ (.refl _) afA ⟨by simp[ew,okD,jo,iD,nW,aq,ax,k2,decide_true,dcase,Bool.and_true,Bool.true_and,Bool.false_and,Bool.and_false,Bool.not_true],rfl⟩
 by_cases k6:o.kind=6
 ·simp only[go_sem,ak,n31.symm,n41.symm,k6,Int.reduceBEq]
  refine .calls (hm1 i1 _) [0,1,2,3,4,5,6,7] (.hm1 ahf) afx rfl ?_;simp only[go_sem,ak,n31.symm,n41.symm];refine⟨(.hm1 afS),(.hm1 afS),?_⟩;cases dcase:(o.case==([]:Txt))
  ·simp only[go_sem,ak,n31.symm,n41.symm]
   cases dfield:(o.field==([]:Txt))
   ·simp only[go_sem,ak,n43.symm]
    exact .mk _ (.refl _) afA ⟨by simp[ew,okD,jo,iD,nW,aq,ax,k6,decide_true,dcase,dfield,Bool.and_true,Bool.true_and,Bool.not_false],rfl⟩
   ·simp only[go_sem]
    exact .mk _ (.refl _) afA ⟨by simp[ew,okD,jo,iD,nW,aq,ax,k6,decide_true,dcase,dfield,Bool.and_true,Bool.true_and,Bool.false_and,Bool.and_false,Bool.not_true,Bool.not_false],rfl⟩
  ·simp only[go_sem]
   exact .mk _ (.refl _) afA ⟨by simp[ew,okD,jo,iD,nW,aq,ax,k6,decide_true,dcase,Bool.and_true,Bool.true_and,Bool.false_and,Bool.and_false,Bool.not_true],rfl⟩
 by_cases k3:o.kind=3
 ·simp only[go_sem,ak,n31.symm,n41.symm,k3,Int.reduceBEq]
  refine .calls (hm1 i1 _) [0,1,2,3,4,5,6,7,8,9,10,11] (.hm1 ahf) afx rfl ?_;simp only[go_sem,ak,n31.symm,n41.symm];refine⟨(.hm1 afS),(.hm1 afS),(.hm1 afS),?_⟩;cases dcase:(o.case==([]:Txt))
  ·simp only[go_sem,ak,n31.symm,n41.symm]
   cases dfield:(o.field==([]:Txt))
   ·simp only[go_sem,ak,n31.symm,n41.symm]
    cases dval:(o.val.kind==(0:Int) && (o.val.n==(0:Int) && o.val.s==([]:Txt)))
    ·simp only[go_sem,ak,n43.symm]
     exact .mk _ (.refl _) afA ⟨afX,rfl⟩
    ·simp only[go_sem]
     exact .mk _ (.refl _) afA ⟨afX,rfl⟩
   ·simp only[go_sem]
    exact .mk _ (.refl _) afA ⟨by simp[ew,okD,jo,iD,nW,eqV,aq,ax,k3,decide_true,dcase,dfield,Bool.and_true,Bool.true_and,Bool.false_and,Bool.and_false,Bool.not_true,Bool.not_false],rfl⟩
  ·simp only[go_sem]
   exact .mk _ (.refl _) afA ⟨by simp[ew,okD,jo,iD,nW,eqV,aq,ax,k3,decide_true,dcase,Bool.and_true,Bool.true_and,Bool.false_and,Bool.and_false,Bool.not_true],rfl⟩
 by_cases k4:o.kind=4
 ·simp only[go_sem,ak,n31.symm,n41.symm,k4,Int.reduceBEq]
  refine .calls (hm1 i1 _) [0,1,2,3,4,5,6,7] (.hm1 ahf) afx rfl ?_;simp only[go_sem,ak,n31.symm,n41.symm];refine⟨(.hm1 afS),(.hm1 afS),?_⟩;cases dcase:(o.case==([]:Txt))
  ·simp only[go_sem,ak,n31.symm,n41.symm]
   cases dto:(o.to==([]:Txt))
   ·simp only[go_sem,ak,n43.symm]
    exact .mk _ (.refl _) afA ⟨by simp[ew,okD,jo,iD,nW,aq,ax,k4,decide_true,dcase,dto,Bool.and_true,Bool.true_and,Bool.not_false],rfl⟩
   ·simp only[go_sem]
    exact .mk _ (.refl _) afA ⟨by simp[ew,okD,jo,iD,nW,aq,ax,k4,decide_true,dcase,dto,Bool.and_true,Bool.true_and,Bool.false_and,Bool.and_false,Bool.not_true,Bool.not_false],rfl⟩
  ·simp only[go_sem]
   exact .mk _ (.refl _) afA ⟨by simp[ew,okD,jo,iD,nW,aq,ax,k4,decide_true,dcase,Bool.and_true,Bool.true_and,Bool.false_and,Bool.and_false,Bool.not_true],rfl⟩
 by_cases k5:o.kind=5
 ·simp only[go_sem,ak,n31.symm,n41.symm,k5,Int.reduceBEq]
  cases drev0:decide ((0:Int)<o.review)
  ·simp only[go_sem]
   exact .mk _ (.refl _) afA ⟨by simp[ew,okD,jo,iD,nW,aq,ax,k5,decide_true,drev0,Bool.and_true,Bool.true_and,Bool.false_and,Bool.and_false],rfl⟩
  ·simp only[go_sem,ak,n43.symm]
   exact .mk _ (.refl _) afA ⟨by simp[ew,okD,jo,iD,nW,aq,ax,k5,decide_true,drev0,Bool.and_true,Bool.true_and],rfl⟩
 by_cases k7:o.kind=7
 ·simp only[go_sem,ak,n31.symm,n43.symm,n41.symm,k7,Int.reduceBEq]
  exact .mk _ (.refl _) afA ⟨by simp[ew,okD,jo,iD,nW,aq,ax,k7,decide_true,Bool.and_true,Bool.true_and],rfl⟩
 by_cases k8:o.kind=8
 ·simp only[go_sem,ak,n31.symm,n41.symm,k8,Int.reduceBEq]
  cases drev0:decide ((0:Int)<o.review)
  ·simp only[go_sem]
   exact .mk _ (.refl _) afA ⟨by simp[ew,okD,jo,iD,nW,aq,ax,k8,decide_true,drev0,Bool.and_true,Bool.true_and,Bool.false_and,Bool.and_false],rfl⟩
  ·simp only[go_sem,ak,n31.symm,n41.symm]
   cases drev1:decide (o.review≤(1099511627776:Int))
   ·simp only[go_sem]
    exact .mk _ (.refl _) afA ⟨by simp[ew,okD,jo,iD,nW,aq,ax,k8,decide_true,drev0,drev1,Bool.and_true,Bool.true_and,Bool.false_and,Bool.and_false],rfl⟩
   ·simp only[go_sem,ak,n43.symm]
    exact .mk _ (.refl _) afA ⟨by simp[ew,okD,jo,iD,nW,aq,ax,k8,decide_true,drev0,drev1,Bool.and_true,Bool.true_and],rfl⟩
 simp only[go_sem,ak,n31.symm,n41.symm,beq_eq_false_iff_ne.2 k1,beq_eq_false_iff_ne.2 k2,beq_eq_false_iff_ne.2 k6,beq_eq_false_iff_ne.2 k3,beq_eq_false_iff_ne.2 k4,beq_eq_false_iff_ne.2 k5,beq_eq_false_iff_ne.2 k7,beq_eq_false_iff_ne.2 k8];exact .mk _ (.refl _) afA ⟨by simp only[ew,bnd k1 k2 k3 k4 k5 k6 k7 k8,Bool.false_and,ax],rfl⟩
theorem C0(o:OpD)(h:Heap):ai prog 39 [opA o] h fun r h' =>r= .b (dK o)∧h' =h:=by
 have hr:=fun hh=>LC o hh
 have ht:=fun hh=>O4 o hh
 have hv:=fun hh=>gr o.val hh
 simp only[opA,opC,aT]at hr ht hv;refine aw func39 48 [.tmp 2] ?_
 simp only[go_sem,opA,opC];intro i1 h1;simp only[go_sem];refine(qj o.subj _).pthen ?_;cases d1:bp o.subj
 ·simp only[go_sem]
  exact .mk _ (.refl _) (.aj h1) ⟨by simp_all [dK,Bool.false_and,ax],rfl⟩
 simp only[go_sem];refine(hr _).pthen ?_;cases d2:mV o
 ·exact akk
 cases d3:decide ((4096:Int)<(o.text.length:Int))
 case true=>have e3:decide (o.text.length≤4096)=false:=decide_eq_false afv;simp only[go_sem,d3];exact .mk _ (.refl _) (.aj h1) ⟨by simp only[dK,d1,d2,e3,Bool.false_and,Bool.true_and,ax],rfl⟩
 have e3:decide (o.text.length≤4096)=true:=decide_eq_true afv;simp only[go_sem,d3];refine(yZ o.case _).pthen ?_;cases d4:jr o.case
 ·exact akk
 simp only[go_sem];refine(yZ o.field _).pthen ?_;cases d5:jr o.field
 ·exact akk
 simp only[go_sem];refine(yZ o.to _).pthen ?_;cases d6:jr o.to
 ·exact akk
 cases d7:(o.val.kind==(0:Int) && (o.val.n==(0:Int) && o.val.s==([]:Txt)))
 ·simp only[go_sem,d7]
  refine(hv _).pthen ?_;have e7:eqV o.val aq=false:=d7;cases d8:bz o.val
  ·simp only[go_sem]
   exact .mk _ (.refl _) (.aj h1) ⟨by simp_all [dK,Bool.or_self,Bool.false_and,Bool.true_and,ax],rfl⟩
  simp only[go_sem];refine(ht _).pthen ?_;simp only[go_sem];exact .mk _ (.refl _) (.aj h1) ⟨by simp_all [dK,Bool.false_or,Bool.true_and,ax],rfl⟩
 ·simp only[go_sem,d7]
  have e7:eqV o.val aq=true:=d7;refine(ht _).pthen ?_;simp only[go_sem];exact .mk _ (.refl _) (.aj h1) ⟨by simp_all [dK,Bool.true_or,Bool.true_and,ax],rfl⟩
end Go.Proofs.YtelkmnkejghkeaaGreatDoor
namespace Go.Bf
open Go Go.Ab
def ixD{α:Type}(q:α→Bool)(l:List α):Int:=if l.findIdx q<l.length then(l.findIdx q:Nat)else -1
theorem oS{α:Type}{q:α→Bool}{l:List α}{i:Nat}(hi:i<l.length)(h1:q l[i]=true)(h2:∀j (hj:j<i),q (l[j]'afu)=false):ixD q l=(i:Nat):=by
 have e:l.findIdx q=i:=by grind [List.findIdx_eq]
 rw[ixD,e,if_pos hi]
theorem jA{α:Type}{q:α→Bool}{l:List α}(h:∀j (hj:j<l.length),q l[j]=false):ixD q l= -1:=by have e:l.findIdx q=l.length:=afv;rw[ixD,e,if_neg (Nat.lt_irrefl _)]
end Go.Bf
namespace Go.Proofs.YtelkmnkejghkeaaGreatDoor
open Go Go.Ab Go.Bf Tryz
variable {x:AV}{c:aL}{cs:List aL}{s:an}{name:Txt}{fs:List cK}
theorem vP{α:Type}(y:AV)(xs:List AV)(ds:List α)(q:α→Bool)(g:FuncId)(cap:List AV)(h:Heap)(hb:Rd h 5 y xs)(hn:xs.length=ds.length)(hl:xs.length≤1000000000)(hx:∀x∈xs,bB x=true)
  (hp:∀i (h1:i<xs.length) (h2:i<ds.length),ai prog g (xs[i]::cap) h fun r h' =>r= .b (q ds[i])∧h' =h):
  ai prog 139 [y,.fn g cap] h fun r h' =>r= .i (ixD q ds)∧h' =h:=by
 refine aw func139 19 [.tmp 4] ?_
 simp only[go_sem,hb.len];refine .intro (fun m ρ h' =>h' =h∧∃i:Nat,i≤xs.length∧m=xs.length - i∧(∀j (hj:j<i) (h2:j<ds.length),q ds[j]=false)∧lk ρ 0=some y∧lk ρ 1=some (.fn g cap)∧lk ρ 7=some (.i xs.length)∧lk ρ 8=some (.i i)) xs.length ?_ ?_
 ·refine⟨rfl,0,afu,rfl,fun j hj=>afu,?_,?_,?_,?_⟩<;>simp only[go_sem]
 ·rintro m ρ h' ⟨rfl,i,hi,rfl,hc,r0,r1,r7,r8⟩
  simp only[go_sem,r7,r8];refine .intro (fun e=>?_) (fun e=>?_)
  ·have hlt:i<xs.length:=afq e
   have hlt2:i<ds.length:=afu;have w1:IntKind.i64.wrap ((i:Int)+1)=((i+1:Nat):Int):=afG;simp only[go_sem,r0,r1,r8];refine hb.idx (e:=120) i rfl hlt afJ afy fun p hp1=>?_
   have hld:=hp1.all (U:=U) (ty:=120) afy agr ahm;simp only[go_sem,hld];refine(show ai prog g (xs[i]::cap) _ _ from hp i hlt hlt2).pthen ?_
   cases d1:q ds[i]
   ·simp only[go_sem,r8,w1]
    refine⟨_,?_,rfl,i+1,afu,rfl,fun j hj h2=>?_,?_,?_,?_,?_⟩
    ·omega
    ·grind
    all_goals simp only[go_sem,r0,r1,r7]
   ·simp only[go_sem]
    exact .same (.refl _) ⟨agh,rfl⟩
  ·have hge:i=xs.length:=by grind
   simp only[go_sem];exact .same (.refl _) ⟨afW,rfl⟩
theorem zx{α:Type}(y:AV)(xs:List AV)(ds:List α)(q:α→Bool)(g:FuncId)(cap:List AV)(h:Heap)(hb:Rd h 4 y xs)(hn:xs.length=ds.length)(hl:xs.length≤1000000000)(hx:∀x∈xs,bB x=true)
  (hp:∀i (h1:i<xs.length) (h2:i<ds.length),ai prog g (xs[i]::cap) h fun r h' =>r= .b (q ds[i])∧h' =h):
  ai prog 109 [y,.fn g cap] h fun r h' =>r= .i (ixD q ds)∧h' =h:=by
 refine aw func109 19 [.tmp 4] ?_
 simp only[go_sem,hb.len];refine .intro (fun m ρ h' =>h' =h∧∃i:Nat,i≤xs.length∧m=xs.length - i∧(∀j (hj:j<i) (h2:j<ds.length),q ds[j]=false)∧lk ρ 0=some y∧lk ρ 1=some (.fn g cap)∧lk ρ 7=some (.i xs.length)∧lk ρ 8=some (.i i)) xs.length ?_ ?_
 ·refine⟨rfl,0,afu,rfl,fun j hj=>afu,?_,?_,?_,?_⟩<;>simp only[go_sem]
 ·rintro m ρ h' ⟨rfl,i,hi,rfl,hc,r0,r1,r7,r8⟩
  simp only[go_sem,r7,r8];refine .intro (fun e=>?_) (fun e=>?_)
  ·have hlt:i<xs.length:=afq e
   have hlt2:i<ds.length:=afu;have w1:IntKind.i64.wrap ((i:Int)+1)=((i+1:Nat):Int):=afG;simp only[go_sem,r0,r1,r8];refine hb.idx (e:=196) i rfl hlt afJ afy fun p hp1=>?_
   have hld:=hp1.all (U:=U) (ty:=196) afy agr ahm;simp only[go_sem,hld];refine(show ai prog g (xs[i]::cap) _ _ from hp i hlt hlt2).pthen ?_
   cases d1:q ds[i]
   ·simp only[go_sem,r8,w1]
    refine⟨_,?_,rfl,i+1,afu,rfl,fun j hj h2=>?_,?_,?_,?_,?_⟩
    ·omega
    ·grind
    all_goals simp only[go_sem,r0,r1,r7]
   ·simp only[go_sem]
    exact .same (.refl _) ⟨agh,rfl⟩
  ·have hge:i=xs.length:=by grind
   simp only[go_sem];exact .same (.refl _) ⟨afW,rfl⟩
def RdC(h:Heap)(x:AV)(c:aL):Prop:=∃f l,x= .agg [.s c.id,.s c.owner,.s c.state,f,l]∧Rd h 4 f (c.fields.map bA)∧Rd h 3 l (c.log.map gC)
def AR(h:Heap)(y:AV)(cs:List aL):Prop:=∃xs,Rd h 5 y xs∧xs.length=cs.length∧∀i (h1:i<xs.length) (h2:i<cs.length),RdC h xs[i] cs[i]
def RdS(h:Heap)(x:AV)(s:an):Prop:=∃y1 y2 y3 y4,x= .agg ([.i s.tick,y1,y2,y3,y4]++gD s.policy++ [.i s.version])∧AR h y1 s.cases∧Rd h 7 y2 (s.reviews.map gH)∧Rd h 3 y3 (s.notices.map kL)∧Rd h 2 y4 (s.roles.map dF)
theorem RdC.sub{h h' :Heap}(hb:RdC h x c)(hs:Ab.Sub h h'):RdC h' x c:=by obtain⟨f,l,e,h1,h2⟩:=hb;exact⟨f,l,e,h1.sub hs,h2.sub hs⟩
theorem AR.sub{h h' :Heap}{y:AV}(hb:AR h y cs)(hs:Ab.Sub h h'):AR h' y cs:=by obtain⟨xs,h1,h2,h3⟩:=hb;exact⟨xs,h1.sub hs,h2,fun i a b=>(h3 i a b).sub hs⟩
theorem RdS.sub{h h' :Heap}(hb:RdS h x s)(hs:Ab.Sub h h'):RdS h' x s:=by obtain⟨y1,y2,y3,y4,e,h1,h2,h3,h4⟩:=hb;exact⟨y1,y2,y3,y4,e,h1.sub hs,h2.sub hs,h3.sub hs,h4.sub hs⟩
theorem bx{α:Type}{f:α→AV}{n:Nat}(hf:∀a,(f a).cells.length=n)(l:List α):Sized n (l.map f):=fun z hz=>by grind
theorem pR{α:Type}{f:α→AV}(hf:∀a,bB (f a)=true)(l:List α):∀x∈l.map f,bB x=true:=fun z hz=>by obtain⟨a,_,rfl⟩:=List.mem_map.1 hz;exact hf a
theorem eP{α:Type}(f:α→AV)(n:Nat)(hf:∀a,(f a).cells.length=n)(h:Heap)(l:List α):Rd h n (.sl (l.map f) .no) (l.map f):=.sl (bx hf l) _
theorem rdC(h:Heap)(c:aL):RdC h (cr c) c:=⟨_,_,rfl,eP bA 4 (fun _=>rfl) h _,eP gC 3 (fun _=>rfl) h _⟩
theorem aaf(h:Heap)(cs:List aL):AR h (fT cs) cs:=⟨_,eP cr 5 (fun _=>rfl) h cs,afB,fun i h1 h2=>by grind [rdC]⟩
theorem rdS(h:Heap)(s:an):RdS h (bQ s) s:=⟨_,_,_,_,rfl,aaf h _,eP gH 7 (fun _=>rfl) h _,eP kL 3 (fun _=>rfl) h _,eP dF 2 (fun _=>rfl) h _⟩
theorem RdC.agg{h:Heap}(hb:RdC h x c):bB x=true:=by obtain⟨f,l,rfl,_⟩:=hb;rfl
theorem AR.agg{h:Heap}{xs:List AV}(hn:xs.length=cs.length)(hb:∀i (h1:i<xs.length) (h2:i<cs.length),RdC h xs[i] cs[i]):∀x∈xs,bB x=true:=fun x hx=>by obtain⟨i,hi,rfl⟩:=List.mem_iff_getElem.1 hx;exact(hb i hi afu).agg
theorem oH:(U 120).sz=5:=afJ
theorem Ir:(U 196).sz=4:=afJ
theorem L6:(U 9).sz≠0:=afy
theorem Pd:(U 9).sz=1:=afJ
theorem Np{h:Heap}(hb:RdC h x c){k:Nat}{id:Txt}(hk:h k=some (.obj [.s id] 9)):ai prog 140 [x,.ptr k 0] h fun r h' =>r= .b (geB c.id id)∧h' =h:=by
 obtain⟨f,l,rfl,hf,hl⟩:=hb;refine aw func140 8 [.tmp 3] ?_
 simp only[go_sem];exact aj3
structure Few (s:an):Prop where
 cases:s.cases.length≤1000000
 fields:∀c∈s.cases,c.fields.length≤1000000
 log:∀c∈s.cases,c.log.length≤1000000
 reviews:s.reviews.length≤1000000
 notices:s.notices.length≤1000000
 roles:s.roles.length≤1000000
theorem j0{id:Txt}(h:ck cs id=true):findD cs id<cs.length:=by grind [ck,List.getElem?_eq_some_iff]
theorem LY{id:Txt}(h:findD cs id<cs.length):ck cs id=(cs[findD cs id].id==id):=by grind [ck,List.getElem?_eq_getElem]
theorem LZ{id:Txt}(h:¬findD cs id<cs.length):ck cs id=false:=by grind [ck,List.getElem?_eq_none]
theorem CY{h:Heap}(hb:RdS h x s)(id:Txt)(hl:s.cases.length≤1000000):ai prog 83 [x,.s id] h fun r h' =>r= .tup [.i (findD s.cases id:Nat),.b (ck s.cases id)]∧h' =h:=by
 obtain⟨y1,y2,y3,y4,rfl,⟨xs,hc,hn,hcs⟩,h2,h3,h4⟩:=hb;cases hp:s.policy with
 |mk pid pset palg ptgt prules pkids pobls=>
 refine aw func83 25 [.tmp 4,.tmp 5] ?_
 simp only[go_sem,gD,List.cons_append,List.nil_append];intro i1 h1;simp only[go_sem];intro i2 h2;have n21:=aH h2;have n2:=aA h2;have hs:∀a b,Ab.Sub h (upd (upd h i1 a) i2 b):=fun a b=>((Sub.refl h).put h1 a).put n2 b
 simp only[go_sem,ak,n21.symm];refine(vP y1 xs s.cases (fun c=>geB c.id id) _ [.ptr i2 0] _ (hc.sub (hs _ _)) hn afu (AR.agg hn hcs) fun i a b=>Np ((hcs i a b).sub (hs _ _)) (ah ..)).pthen ?_
 by_cases hf:findD s.cases id<s.cases.length
 ·have e1:ixD (fun c=>geB c.id id) s.cases=(findD s.cases id:Nat):=by rw[ixD];exact if_pos hf
  have d1:decide (((findD s.cases id:Nat):Int)<0)=false:=decide_eq_false afu;rw[e1];simp only[go_sem,ak,n21.symm,d1];refine⟨.of afx,?_⟩;obtain⟨f,l,ex,hfl,hlg⟩:=hcs (findD s.cases id) afu hf;refine hc.idx (e:=120) (findD s.cases id) rfl afu oH afy fun p hp1=>?_
  simp only[go_sem];refine hp1.field (f:=0) (off:=0) (t:=9) rfl L6 fun p2 hp2=>?_
  have hld:=fun a b=>(hp2.sub (hs a b)).part (U:=U) (ty:=9) L6 (by rw[ex,Pd];exact afi rfl)
  simp only[go_sem,hld,ex];exact .mk _ (.refl _) (hs _ _) ⟨by rw[LY hf];rfl,rfl⟩
 ·have e1:ixD (fun c=>geB c.id id) s.cases= -1:=by rw[ixD];exact if_neg hf
  have e2:findD s.cases id=s.cases.length:=by grind [findD,List.findIdx_le_length]
  have d1:decide ((-1:Int)<0)=true:=rfl;rw[e1];simp only[go_sem,ak,n21.symm,d1];simp only[go_sem,hc.len];exact .mk _ (.refl _) (hs _ _) ⟨by rw[LZ hf,e2,hn];rfl,rfl⟩
theorem JN:(U 140).sz=2:=afJ
theorem K7(y:AV)(ds:List gL)(r:gL)(h:Heap)(hb:Rd h 2 y (ds.map dF))(hl:ds.length≤1000000000):
  ai prog 195 [y,dF r] h fun x h' =>x= .i (ixD (vF r) ds)∧h' =h:=by
 refine aw func195 19 [.tmp 4] ?_
 simp only[go_sem,dF];intro i1 h1;have hs:∀a,Ab.Sub h (upd h i1 a):=fun a=>(Sub.refl h).put h1 a
 simp only[go_sem,hb.len,afj];refine .intro (fun m ρ h' =>h' =upd h i1 (some (.obj [.s r.subj,.s r.role] 140))∧∃i:Nat,i≤ds.length∧m=ds.length - i∧(∀j (hj:j<i) (h2:j<ds.length),vF r ds[j]=false)∧lk ρ 0=some y∧lk ρ 3=some (.ptr i1 0)∧lk ρ 7=some (.i ds.length)∧lk ρ 8=some (.i i)) ds.length ?_ ?_
 ·refine⟨rfl,0,afu,rfl,fun j hj=>afu,?_,?_,?_,?_⟩<;>simp only[go_sem]
 ·rintro m ρ h' ⟨rfl,i,hi,rfl,hc,r0,r3,r7,r8⟩
  simp only[go_sem,r7,r8];refine .intro (fun e=>?_) (fun e=>?_)
  ·have hlt:i<ds.length:=afq e
   have w1:IntKind.i64.wrap ((i:Int)+1)=((i+1:Nat):Int):=afG;simp only[go_sem,r0,r3,r8];refine⟨.of afx,?_⟩;refine hb.idx (e:=140) i rfl afv JN afy fun p hp1=>?_
   have hld:=fun a=>(hp1.sub (hs a)).all (U:=U) (ty:=140) afy (by rw[JN,afk];rfl) agd
   cases d1:vF r ds[i]
   ·have d2:=d1
    simp only[vF]at d2;simp only[go_sem,r8,hld,afk,dF,d2,w1];refine⟨_,?_,rfl,i+1,afu,rfl,fun j hj h2=>?_,?_,?_,?_,?_⟩
    ·omega
    ·grind
    all_goals simp only[go_sem,r0,r3,r7]
   ·have d2:=d1
    simp only[vF]at d2;simp only[go_sem,hld,afk,dF,d2];exact .mk _ (.refl _) (hs _) ⟨by rw[oS hlt d1 fun j hj=>hc j hj afu];rfl,rfl⟩
  ·have hge:i=ds.length:=by grind
   simp only[go_sem];exact .mk _ (.refl _) (hs _) ⟨afW,rfl⟩
theorem Hf(y:AV)(ds:List gL)(r:gL)(h:Heap)(hb:Rd h 2 y (ds.map dF))(hl:ds.length≤1000000000):
  ai prog 142 [y,dF r] h fun x h' =>x= .b (zn ds r)∧h' =h:=by
 have hq:=fun H (hH:Ab.Sub h H)=>K7 y ds r H (hb.sub hH) hl
 refine aw func142 9 [.tmp 4] ?_
 simp only[go_sem,dF];intro i1 h1;simp only[go_sem];refine(hq _ (.aj h1)).pthen ?_;simp only[go_sem];refine .mk _ (.refl _) (.aj h1) ⟨?_,rfl⟩
 grind [ax,zn,ixD,decide_eq_true,List.any_eq_true,afo,List.findIdx_getElem,decide_eq_false,List.any_eq_false]
theorem Hg{h:Heap}(hb:RdS h x s)(subj role:Txt)(hl:s.roles.length≤1000000000):ai prog 86 [x,.s subj,.s role] h fun r h' =>r= .b (zn s.roles ⟨subj,role⟩)∧h' =h:=by
 obtain⟨y1,y2,y3,y4,rfl,hc,h2,h3,h4⟩:=hb;have hq:=fun H (hH:Ab.Sub h H)=>Hf y4 s.roles ⟨subj,role⟩ H (h4.sub hH) hl
 cases hp:s.policy with
 |mk pid pset palg ptgt prules pkids pobls=>
 refine aw func86 13 [.tmp 6] ?_
 simp only[go_sem,gD,List.cons_append,List.nil_append];intro i1 h1;simp only[go_sem];refine(hq _ (.aj h1)).pthen ?_;simp only[go_sem];exact afM
theorem Kp{h:Heap}(f:cK){k:Nat}(hk:h k=some (.obj [.s name] 9)):ai prog 110 [bA f,.ptr k 0] h fun r h' =>r= .b (f.name==name)∧h' =h:=by
 refine aw func110 8 [.tmp 3] ?_
 simp only[go_sem,bA];exact aj3
theorem Kq(h:fs.findIdx (fun f=>f.name==name)<fs.length):dZ fs name=fs[fs.findIdx fun f=>f.name==name].val:=by unfold dZ;rw[show fs.find? (fun f=>f.name==name)=some fs[fs.findIdx fun f=>f.name==name]from List.find?_eq_some_iff_getElem.2 ⟨List.findIdx_getElem (w:=h),_,h,rfl,fun j hj=>afv⟩]
theorem Kr(h:¬fs.findIdx (fun f=>f.name==name)<fs.length):dZ fs name=aq:=by grind [dZ,List.findIdx_le_length,List.find?_eq_none,List.findIdx_eq_length]
theorem Em{h:Heap}(hb:RdC h x c)(name:Txt)(hl:c.fields.length≤1000000000):ai prog 50 [x,.s name] h fun r h' =>r=aT (dZ c.fields name)∧h' =h:=by
 obtain⟨f,l,rfl,hf,hlg⟩:=hb;refine aw func50 19 [.cell 4 48] ?_
 simp only[go_sem];intro i1 h1;simp only[go_sem];intro i2 h2;have n21:=aH h2;have n2:=aA h2;simp only[go_sem];intro i3 h3;have h3' :=aA h3;have n31:=aH h3';have n3:=aA h3';have hs:∀a b d,Ab.Sub h (upd (upd (upd h i1 a) i2 b) i3 d):=fun a b d=>(((Sub.refl h).put h1 a).put n2 b).put n3 d
 simp only[go_sem,ak,n21.symm,n31.symm];refine(zx f _ c.fields (fun f=>f.name==name) _ [.ptr i2 0] _ (hf.sub (hs _ _ _)) afB afv (pR (fun _=>rfl) _) fun i a b=>by rw[afk];exact Kp _ (by grind [ak,gI,not_false_eq_true])).pthen ?_
 by_cases hx:c.fields.findIdx (fun f=>f.name==name)<c.fields.length
 ·have e1:ixD (fun f=>f.name==name) c.fields=(c.fields.findIdx (fun f=>f.name==name):Nat):=by simp_all [ixD,if_pos]
  have d1:decide ((0:Int)≤((c.fields.findIdx (fun f=>f.name==name):Nat):Int))=true:=decide_eq_true afu
  rw[e1];simp only[go_sem,ak,n21.symm,n31.symm,d1];refine hf.idx (e:=196) (c.fields.findIdx fun f=>f.name==name) rfl afv Ir afy fun p hp1=>?_
  simp only[go_sem];refine hp1.field (f:=1) (off:=1) (t:=48) rfl afy fun p2 hp2=>?_
  have hld:=fun a b d=>(hp2.sub (hs a b d)).part (U:=U) (ty:=48) afy (by rw[afk,show(U 48).sz=3 by rfl];exact afi rfl)
  simp only[go_sem,hld,afk,bA];exact .mk _ (.refl _) afv ⟨by rw[Kq hx];rfl,rfl⟩
 ·have e1:ixD (fun f=>f.name==name) c.fields= -1:=by simp_all [ixD,if_neg]
  have d1:decide ((0:Int)≤ -1)=false:=rfl;rw[e1];simp only[go_sem,d1];exact .mk _ (.refl _) afv ⟨by rw[Kr hx];rfl,rfl⟩
end Go.Proofs.YtelkmnkejghkeaaGreatDoor
namespace Go.Ab
open Go
mutual
def cN:AV→Bool
 |.v _=>true
 |.s _=>true
 |.agg xs=>gO xs
 |.tup xs=>gO xs
 |.sl xs (.own _)=>false
 |.sl xs _=>gO xs
 |.pe x _=>cN x
 |.ifc _ x=>cN x
 |_=>false
def gO:List AV→Bool
 | []=>true
 |x::r=>cN x && gO r
end
mutual
theorem uY{F:Nat→Prop}:∀x:AV,cN x=true→Av F x
 |.v x,_=> .v x
 |.s l,_=> .s l
 |.agg xs,h=> .agg xs (rS xs ah6)
 |.tup xs,h=> .tup xs (rS xs ah6)
 |.sl xs .no,h=> .sl xs .no (rS xs ah6) fun _ e=>afT
 |.sl xs .full,h=> .sl xs .full (rS xs ah6) fun _ e=>afT
 |.sl xs (.own _),h=>ai4
 |.pe x o,h=> .pe x o (uY x ah6)
 |.ptr i o,h=>ai4
 |.oa i o l,h=>ai4
 |.ifc t x,h=> .ifc t x (uY x ah6)
 |.fn f c,h=>ai4
 |.mp i,h=>ai4
 |.ob i o l c z,h=>ai4
theorem rS{F:Nat→Prop}:∀xs:List AV,gO xs=true→∀x∈xs,Av F x
 | [],_,x,hx=>by cases hx
 |y::r,h,x,hx=>by
  simp only[gO,Bool.and_eq_true]at h;rcases List.mem_cons.1 hx with e|e
  ·rw[e];exact uY y h.1
  ·exact rS r h.2 x e
end
theorem bn{α:Type}{f:α→AV}(hf:∀a,cN (f a)=true):∀l:List α,gO (l.map f)=true
 | []=>rfl
 |a::r=>by simp[gO,hf a,bn hf r]
theorem B7{xs:List AV}(h:gO xs=true):∀x∈xs,cN x=true:=by
 induction xs with
 |nil=>simp
 |cons y r ih=>simp_all [gO,Bool.and_eq_true,List.mem_cons]
theorem oE{x:AV}(h:cN x=true):∀c∈x.cells,cN c=true:=by
 cases x with
 |agg cs=>exact B7 (show gO cs=true by grind [cN])
 |_=>intro c hc;rw[List.mem_singleton.1 hc];exact h
theorem Frz.pure{g h:Heap}{x:AV}(hx:cN x=true):Frz g h x x:=.keep x (uY x hx)
theorem Ow.frz{g h:Heap}{tb:TypeId}{sz id:Nat}{y:AV}{xs ys:List AV}(hw:Ow tb h sz id y xs)(hg:g id=Option.none)(hn:xs.length=ys.length)(hz:∀i (h1:i<xs.length) (h2:i<ys.length),xs[i].cells.length=ys[i].cells.length)
  (hr:∀i (h1:i<xs.length) (h2:i<ys.length) j (h3:j<xs[i].cells.length) (h4:j<ys[i].cells.length),Frz g h xs[i].cells[j] ys[i].cells[j]):Frz g h y (.sl ys .no):=by
 obtain⟨cap,rest,rfl,h1,h2,h3,h4⟩:=hw;have hl:=aY h4;refine .ob id 0 _ cap sz _ tb ys hg h1 afv hn.symm (fun i hi=>by rw[←hz i afu hi];exact h4 _ afB) fun i hi j hj hb=>?_
 have hj' :j<sz:=by rw[←h4 xs[i] afB,hz i afu hi];omega
 have hbd:i*sz+j<xs.length*sz:=by have:(i+1)*sz≤xs.length*sz:=Nat.mul_le_mul_right _ afu;rw[Nat.add_mul,Nat.one_mul]at this;omega
 have hjx:j<xs[i].cells.length:=afv;have e:(au xs++rest)[0+(i*sz+j)]? =some (xs[i].cells[j]):=by rw[Nat.zero_add,List.getElem?_append_left afu,vI h4 afu hj',List.getElem?_eq_getElem hjx]
 rw[List.getElem?_eq_getElem hb,Option.some.injEq]at e;rw[e];exact hr i afu hi j hjx hj
theorem OwE.frz{g h:Heap}{tb:TypeId}{sz:Nat}{y:AV}{xs:List AV}(hw:OwE tb g h sz y xs)(hp:gO xs=true):Frz g h y (.sl xs .no):=by
 rcases hw with⟨rfl,rfl⟩|⟨id,hg,hw⟩
 ·exact .sl [] [] .full rfl afu afB
 ·exact hw.frz hg rfl afu fun i h1 h2 j h3 h4=> .pure (oE (B7 hp _ (afo h1)) _ afB)
theorem OwE.ko{U:TypeId→TI}{h:Heap}{sz:Nat}{tb:TypeId}{xs:List AV}{Q:AV→Heap→Prop}(hz:(U tb).sz=sz)(hf:Ab.fit (U tb).zero sz)(hb:Sized sz xs)(hk:∀y' h',OwE tb h h' sz y' xs→Sub h h'→Q y' h'):sZ U h [] xs tb Q:=by
 subst hz;refine⟨fun hn=>?_,fun hn=>?_⟩
 ·subst hn
  exact hk _ _ (.inl ⟨rfl,rfl⟩) (.refl _)
 ·refine .ob hf (ld.ow hb afJ afB fun id y' h' hid hw ho=>?_)
  exact hk _ _ (.inr ⟨id,hid,hw⟩) fun j b hj=>afv
theorem Rd.nil{h:Heap}{sz:Nat}{y:AV}{xs:List AV}{e:TypeId}{Q:AV→Heap→Prop}(hb:Rd h sz y xs)(hk:∀b:Bool,(xs≠ []→b=false)→Q (.b b) h):Ub h .eql y Q (.slice e):=by
 obtain⟨_,⟨q,rfl⟩|⟨id,off,cap,cs,t,rfl,_⟩⟩:=hb
 ·exact hk
 ·exact hk false fun _=>rfl
def nid:AV→Option Nat
 |.ob id _ _ _ _=>some id
 |_=>none
theorem OwE.nid{tb:TypeId}{h0 h:Heap}{sz:Nat}{y:AV}{xs:List AV}(hw:OwE tb h0 h sz y xs){id:Nat}(e:Ab.nid y=some id):h0 id=Option.none∧h id≠Option.none∧Ow tb h sz id y xs:=by
 rcases hw with⟨rfl,rfl⟩|⟨id',h1,hw⟩
 ·cases e
 ·obtain⟨cap,rest,rfl,h2,h3⟩:=hw
  cases e;exact⟨h1,afv,cap,rest,rfl,h2,h3⟩
theorem Ow.nid{tb:TypeId}{h:Heap}{sz id:Nat}{y:AV}{xs:List AV}(hw:Ow tb h sz id y xs):Ab.nid y=some id:=by obtain⟨cap,rest,rfl,h2,h3⟩:=hw;rfl
theorem OwE.keep{tb:TypeId}{h0 h h' :Heap}{sz:Nat}{y:AV}{xs:List AV}(hw:OwE tb h0 h sz y xs)(hs:∀id,Ab.nid y=some id→h' id=h id):OwE tb h0 h' sz y xs:=by
 rcases hw with hw|⟨id,h1,hw⟩
 ·exact ajt
 ·exact .inr ⟨id,h1,hw.same (hs id hw.nid)⟩
theorem OwE.less{tb:TypeId}{h0 h1 h:Heap}{sz:Nat}{y:AV}{xs:List AV}(hw:OwE tb h1 h sz y xs)(hs:Sub h0 h1):OwE tb h0 h sz y xs:=by
 rcases hw with hw|⟨id,a,hw⟩
 ·exact ajt
 ·exact .inr ⟨id,hs.none a,hw⟩
end Go.Ab
namespace Go.Proofs.YtelkmnkejghkeaaGreatDoor
open Go Go.Ab Go.Bf Tryz
theorem Bv(y:AV)(xs:List AV)(h:Heap)(hb:Rd h 5 y xs)(hl:xs.length≤1000000):ai prog 100 [y] h fun r h' =>OwE 120 h h' 5 r xs∧Ab.Sub h h' :=by
 refine aw func100 8 [.tmp 2] ?_
 simp only[go_sem];refine hb.nil fun b hxs=>?_
 cases b
 ·simp only[go_sem]
  refine hb.src (U:=U) (e:=120) afJ ⟨hb.1,afu,OwE.ko (U:=U) (sz:=5) afJ afJ hb.1 fun y' h' hw hs=>?_⟩
  exact ajT
 ·exact ajQ
theorem wO(y:AV)(xs:List AV)(h:Heap)(hb:Rd h 7 y xs)(hl:xs.length≤1000000):ai prog 98 [y] h fun r h' =>OwE 134 h h' 7 r xs∧Ab.Sub h h' :=by
 refine aw func98 8 [.tmp 2] ?_
 simp only[go_sem];refine hb.nil fun b hxs=>?_
 cases b
 ·simp only[go_sem]
  refine hb.src (U:=U) (e:=134) afJ ⟨hb.1,afu,OwE.ko (U:=U) (sz:=7) afJ afJ hb.1 fun y' h' hw hs=>?_⟩
  exact ajT
 ·exact ajQ
theorem wN(y:AV)(xs:List AV)(h:Heap)(hb:Rd h 3 y xs)(hl:xs.length≤1000000):ai prog 99 [y] h fun r h' =>OwE 137 h h' 3 r xs∧Ab.Sub h h' :=by
 refine aw func99 8 [.tmp 2] ?_
 simp only[go_sem];refine hb.nil fun b hxs=>?_
 cases b
 ·simp only[go_sem]
  refine hb.src (U:=U) (e:=137) afJ ⟨hb.1,afu,OwE.ko (U:=U) (sz:=3) afJ afJ hb.1 fun y' h' hw hs=>?_⟩
  exact ajT
 ·exact ajQ
theorem Ka(y:AV)(xs:List AV)(h:Heap)(hb:Rd h 2 y xs)(hl:xs.length≤1000000):ai prog 156 [y] h fun r h' =>OwE 140 h h' 2 r xs∧Ab.Sub h h' :=by
 refine aw func156 8 [.tmp 2] ?_
 simp only[go_sem];refine hb.nil fun b hxs=>?_
 cases b
 ·simp only[go_sem]
  refine hb.src (U:=U) (e:=140) afJ ⟨hb.1,afu,OwE.ko (U:=U) (sz:=2) afJ afJ hb.1 fun y' h' hw hs=>?_⟩
  exact ajT
 ·exact ajQ
theorem Gn(y:AV)(xs:List AV)(h:Heap)(hb:Rd h 4 y xs)(hl:xs.length≤1000000):ai prog 163 [y] h fun r h' =>OwE 196 h h' 4 r xs∧Ab.Sub h h' :=by
 refine aw func163 8 [.tmp 2] ?_
 simp only[go_sem];refine hb.nil fun b hxs=>?_
 cases b
 ·simp only[go_sem]
  refine hb.src (U:=U) (e:=196) afJ ⟨hb.1,afu,OwE.ko (U:=U) (sz:=4) afJ afJ hb.1 fun y' h' hw hs=>?_⟩
  exact ajT
 ·exact ajQ
theorem rq(y:AV)(xs:List AV)(h:Heap)(hb:Rd h 3 y xs)(hl:xs.length≤1000000):ai prog 101 [y] h fun r h' =>OwE 186 h h' 3 r xs∧Ab.Sub h h' :=by
 refine aw func101 8 [.tmp 2] ?_
 simp only[go_sem];refine hb.nil fun b hxs=>?_
 cases b
 ·simp only[go_sem]
  refine hb.src (U:=U) (e:=186) afJ ⟨hb.1,afu,OwE.ko (U:=U) (sz:=3) afJ afJ hb.1 fun y' h' hw hs=>?_⟩
  exact ajT
 ·exact ajQ
theorem xS(y:AV)(xs:List AV)(h:Heap)(hb:Rd h 3 y xs)(hl:xs.length≤1000000)(hp:gO xs=true):ai prog 101 [y] h fun r h' =>r= .sl xs .no∧h' =h:=
 ai.freeze fun g hg _=>(rq y xs g (hb.sub hg) hl).mono fun r h' ⟨h1,h2⟩=>⟨h2,_,h1.frz hp,rfl⟩
theorem MU(y:AV)(xs:List AV)(h:Heap)(hb:Rd h 3 y xs)(hl:xs.length≤1000000):ai prog 31 [y] h fun r h' =>OwE 90 h h' 3 r xs∧Ab.Sub h h' :=by
 refine aw func31 8 [.tmp 2] ?_
 simp only[go_sem];refine hb.nil fun b hxs=>?_
 cases b
 ·simp only[go_sem]
  refine hb.src (U:=U) (e:=90) afJ ⟨hb.1,afu,OwE.ko (U:=U) (sz:=3) afJ afJ hb.1 fun y' h' hw hs=>?_⟩
  exact ajT
 ·exact ajQ
theorem Bx(y:AV)(xs:List AV)(h:Heap)(hb:Rd h 3 y xs)(hl:xs.length≤1000000)(hp:gO xs=true):ai prog 31 [y] h fun r h' =>r= .sl xs .no∧h' =h:=
 ai.freeze fun g hg _=>(MU y xs g (hb.sub hg) hl).mono fun r h' ⟨h1,h2⟩=>⟨h2,_,h1.frz hp,rfl⟩
theorem Kb(y:AV)(xs:List AV)(h:Heap)(hb:Rd h 5 y xs)(hl:xs.length≤1000000):ai prog 213 [y] h fun r h' =>OwE 213 h h' 5 r xs∧Ab.Sub h h' :=by
 refine aw func213 8 [.tmp 2] ?_
 simp only[go_sem];refine hb.nil fun b hxs=>?_
 cases b
 ·simp only[go_sem]
  refine hb.src (U:=U) (e:=213) afJ ⟨hb.1,afu,OwE.ko (U:=U) (sz:=5) afJ afJ hb.1 fun y' h' hw hs=>?_⟩
  exact ajT
 ·exact ajQ
theorem DY(y:AV)(xs:List AV)(h:Heap)(hb:Rd h 7 y xs)(hl:xs.length≤1000000):ai prog 214 [y] h fun r h' =>OwE 39 h h' 7 r xs∧Ab.Sub h h' :=by
 refine aw func214 8 [.tmp 2] ?_
 simp only[go_sem];refine hb.nil fun b hxs=>?_
 cases b
 ·simp only[go_sem]
  refine hb.src (U:=U) (e:=39) afJ ⟨hb.1,afu,OwE.ko (U:=U) (sz:=7) afJ afJ hb.1 fun y' h' hw hs=>?_⟩
  exact ajT
 ·exact ajQ
theorem J8(y:AV)(xs:List AV)(h:Heap)(hb:Rd h 7 y xs)(hl:xs.length≤1000000):ai prog 215 [y] h fun r h' =>OwE 218 h h' 7 r xs∧Ab.Sub h h' :=by
 refine aw func215 8 [.tmp 2] ?_
 simp only[go_sem];refine hb.nil fun b hxs=>?_
 cases b
 ·simp only[go_sem]
  refine hb.src (U:=U) (e:=218) afJ ⟨hb.1,afu,OwE.ko (U:=U) (sz:=7) afJ afJ hb.1 fun y' h' hw hs=>?_⟩
  exact ajT
 ·exact ajQ
theorem Gr(y:AV)(xs:List AV)(h:Heap)(hb:Rd h 7 y xs)(hl:xs.length≤1000000)(hp:gO xs=true):ai prog 215 [y] h fun r h' =>r= .sl xs .no∧h' =h:=
 ai.freeze fun g hg _=>(J8 y xs g (hb.sub hg) hl).mono fun r h' ⟨h1,h2⟩=>⟨h2,_,h1.frz hp,rfl⟩
theorem Gp(y:AV)(xs:List AV)(h:Heap)(hb:Rd h 7 y xs)(hl:xs.length≤1000000):ai prog 256 [y] h fun r h' =>OwE 264 h h' 7 r xs∧Ab.Sub h h' :=by
 refine aw func256 8 [.tmp 2] ?_
 simp only[go_sem];refine hb.nil fun b hxs=>?_
 cases b
 ·simp only[go_sem]
  refine hb.src (U:=U) (e:=264) afJ ⟨hb.1,afu,OwE.ko (U:=U) (sz:=7) afJ afJ hb.1 fun y' h' hw hs=>?_⟩
  exact ajT
 ·exact ajQ
theorem D3(y:AV)(xs:List AV)(h:Heap)(hb:Rd h 7 y xs)(hl:xs.length≤1000000)(hp:gO xs=true):ai prog 256 [y] h fun r h' =>r= .sl xs .no∧h' =h:=
 ai.freeze fun g hg _=>(Gp y xs g (hb.sub hg) hl).mono fun r h' ⟨h1,h2⟩=>⟨h2,_,h1.frz hp,rfl⟩
theorem Gq(y:AV)(xs:List AV)(h:Heap)(hb:Rd h 3 y xs)(hl:xs.length≤1000000):ai prog 285 [y] h fun r h' =>OwE 48 h h' 3 r xs∧Ab.Sub h h' :=by
 refine aw func285 8 [.tmp 2] ?_
 simp only[go_sem];refine hb.nil fun b hxs=>?_
 cases b
 ·simp only[go_sem]
  refine hb.src (U:=U) (e:=48) afJ ⟨hb.1,afu,OwE.ko (U:=U) (sz:=3) afJ afJ hb.1 fun y' h' hw hs=>?_⟩
  exact ajT
 ·exact ajQ
theorem D4(y:AV)(xs:List AV)(h:Heap)(hb:Rd h 3 y xs)(hl:xs.length≤1000000)(hp:gO xs=true):ai prog 285 [y] h fun r h' =>r= .sl xs .no∧h' =h:=
 ai.freeze fun g hg _=>(Gq y xs g (hb.sub hg) hl).mono fun r h' ⟨h1,h2⟩=>⟨h2,_,h1.frz hp,rfl⟩
def SK(h0 h:Heap)(x:AV)(c:aL):Prop:=∃f l,x= .agg [.s c.id,.s c.owner,.s c.state,f,l]∧OwE 196 h0 h 4 f (c.fields.map bA)∧OwE 186 h0 h 3 l (c.log.map gC)∧∀i,nid f=some i→nid l≠some i
theorem cO{h:Heap}{i j:Nat}{b:Blk}(h1:h i=none)(h2:h j=some b):i≠j:=fun e=>by subst e;rw[h2]at h1;cases h1
theorem zV{h:Heap}{x:AV}{c:aL}(hb:RdC h x c)(hl:c.fields.length≤1000000)(hl2:c.log.length≤1000000):ai prog 108 [x] h fun r h' =>SK h h' r c∧Ab.Sub h h' :=by
 obtain⟨f,l,rfl,hf,hlg⟩:=hb;refine aw func108 12 [.cell 2 120] ?_
 simp only[go_sem];intro i1 h1;simp only[go_sem];intro i2 h2;have n21:=aH h2;have n2:=aA h2;simp only[go_sem];obtain⟨H,eH⟩:∃H,upd (upd h i1 (some (.obj [.s c.id,.s c.owner,.s c.state,f,l] 120))) i2 (some (.obj [.s [],.s [],.s [],.sl [] .full,.sl [] .full] 120))=H:=⟨_,rfl⟩;have hH:Ab.Sub h H:=agw;have g1:H i1=some (.obj [.s c.id,.s c.owner,.s c.state,f,l] 120):=ag8;have g2:H i2=some (.obj [.s [],.s [],.s [],.sl [] .full,.sl [] .full] 120):=agZ;rw[eH];refine .stage (hm1 i1 _) [0,1,3,4,2,6,5] [7,8,9] (.hm1 g1) afx ?_;simp only[go_sem,gG];refine(Gn f _ H (hf.sub hH) afv).mono fun f' H1 ⟨hf',s1⟩=>?_
 refine⟨.hm1 (s1 _ _ g1),?_⟩;simp only[go_sem];refine(rq l _ H1 ((hlg.sub hH).sub s1) afv).mono fun l' H2 ⟨hl',s2⟩=>?_
 refine⟨.hm1 (s2 _ _ (s1 _ _ g1)),cY,(fun _ _ e=>afT),?_⟩
 have g1' :=s2 _ _ (s1 _ _ g1);have g2' :=s2 _ _ (s1 _ _ g2);simp only[go_sem,g1',hf'.rd.fit,hf'.rd.cells,hl'.rd.fit,hl'.rd.cells];have n1:∀b,upd H2 i1 b i2=some (.obj [.s [],.s [],.s [],.sl [] .full,.sl [] .full] 120):=fun b=>af8
 refine⟨fun _ _ e=>afT,fun _ _ e=>afT,?_⟩
 simp only[go_sem,n1];have hid:∀ {y:AV} {xs:List AV} {G:Heap} {tb:TypeId} {z:Nat},Ab.Sub H G→OwE tb G H2 z y xs→∀a b,OwE tb h (upd (upd H2 i1 a) i2 b) z y xs:=fun hG hw a b=>(hw.less (hH.trans hG)).keep fun id e=>by have h0:=hG.none (hw.nid e).1;rw[ag _ _ (cO h0 g2),ag _ _ (cO h0 g1)]
 refine .mk _ (.refl _) (.refl _) ⟨⟨f',l',rfl,hid (.refl _) (hf'.sub s2) _ _,hid s1 hl' _ _,fun i ef el=>?_⟩,((hH.trans (s1.trans s2)).put h1 _).put n2 _⟩
 exact(hf'.nid ef).2.1 ((hl'.nid el).1)
theorem xx{h:Heap}{x:AV}{c:aL}(hb:RdC h x c)(hl:c.fields.length≤1000000)(hl2:c.log.length≤1000000):ai prog 108 [x] h fun r h' =>r=cr c∧h' =h:=
 ai.freeze fun g hg _=>(zV (hb.sub hg) hl hl2).mono fun r h' ⟨⟨f,l,e,hf,hlg,_⟩,h2⟩=>⟨h2,cr c,by
  subst e;refine .agg _ _ rfl fun i h1 h2=>?_
  rcases i with _|_|_|_|_|i
  ·exact afO
  ·exact afO
  ·exact afO
  ·exact hf.frz (bn (fun _=>rfl) _)
  ·exact hlg.frz (bn (fun _=>rfl) _)
  ·simp at h1;omega,rfl⟩
theorem OC(l:List bO):gO (l.map cU)=true:=bn (fun _=>rfl) l
theorem XM:(U 265).sz=1:=afJ
theorem XN:(U 261).sz=1:=afJ
theorem uL(t:gu)(ht:mq t=0)(h:Heap):ai prog 212 [aU t] h fun r h' =>r=aU t∧h' =h:=by
 obtain⟨hl,he⟩:=Cp ht;refine aw func212 33 [.tmp 2] ?_
 simp only[go_sem,aU,afj];refine .intro (fun m ρ h' =>∃(i:Nat) (y:AV) (ys:List AV),Acc U 261 h h' y ys∧ys.length=i∧(∀j (h1:j<ys.length) (h2:j<t.length),∃q,ys[j]= .sl (t[j].map gv) q)∧i≤t.length∧m=t.length - i∧lk ρ 3=some y∧lk ρ 9=some (.sl (t.map cC) .no)∧lk ρ 10=some (.i t.length)∧lk ρ 11=some (.i i)) t.length ?_ ?_
 ·refine⟨0,_,[],.full (.refl _),rfl,fun j h1=>afv,afu,rfl,?_,?_,?_,?_⟩<;>simp only[go_sem]
 ·rintro m ρ h' ⟨i,y,ys,hy,hn,hys,hi,rfl,r3,r9,r10,r11⟩
  simp only[go_sem,r10,r11];refine .intro (fun e=>?_) (fun e=>?_)
  ·have hlt:i<t.length:=afq e
   have w1:IntKind.i64.wrap ((i:Int)+1)=((i+1:Nat):Int):=afG;obtain⟨ha0,hal,hae⟩:=Bu (he _ (afo hlt));simp only[go_sem,r9,r11];refine .at i afv afD ?_;simp only[go_sem,afk,cC,afj];refine .intro (fun m ρ H=>∃(j:Nat) (z:AV) (zs:List AV),Acc U 265 h' H z zs∧zs=(t[i].take j).map gv∧j≤t[i].length∧m=t[i].length - j∧lk ρ 3=some y∧lk ρ 9=some (.sl (t.map cC) .no)∧lk ρ 10=some (.i t.length)∧lk ρ 11=some (.i i)∧lk ρ 6=some z∧lk ρ 15=some (.sl (t[i].map gv) .no)∧lk ρ 16=some (.i t[i].length)∧lk ρ 17=some (.i j)) t[i].length ?_ ?_
   ·refine⟨0,_,[],.full (.refl _),rfl,afu,rfl,?_,?_,?_,?_,?_,?_,?_,?_⟩<;>simp only[go_sem,r3,r9,r10,r11]
   ·rintro m ρ H ⟨j,z,zs,hz,rfl,hj,rfl,r3,r9,r10,r11,r6,r15,r16,r17⟩
    simp only[go_sem,r16,r17];refine .intro (fun e=>?_) (fun e=>?_)
    ·have hlt2:j<t[i].length:=afq e
     have w2:IntKind.i64.wrap ((j:Int)+1)=((j+1:Nat):Int):=afG;have hml:=(Bt (hae _ (afo hlt2))).2.1;simp only[go_sem,r15,r17];refine .at j afv afD ?_;simp only[go_sem,r6,afk,gv];refine(D3 _ (t[i][j].map cU) _ (eP cU 7 (fun _=>rfl) _ _) afv (OC _)).pthen ?_
     simp only[go_sem];refine hz.app (zs:=[gv t[i][j]]) afy afy (fun k hk=>hk) (by rw[XM];exact bx (f:=gv) (fun _=>rfl) _) (by rw[XM];exact bx (f:=gv) (fun _=>rfl) [t[i][j]]) (by simp only[go_sem,afj,List.length_cons,List.length_nil,List.length_take];omega) fun z' H' hz' _=>?_
     simp only[go_sem,r17,w2];refine⟨_,?_,j+1,z',_,hz',?_,afu,rfl,?_,?_,?_,?_,?_,?_,?_,?_⟩
     ·omega
     ·grind [List.take_succ_eq_append_getElem]
     all_goals simp only[go_sem,r3,r9,r10,r11,r15,r16]
    ·have hge:j=t[i].length:=by grind
     subst hge;rw[List.take_length]at hz;have hyH:=hy.sub hz.1;obtain⟨q,rfl⟩:=hz.row;simp only[go_sem,r3,r6];refine hyH.app (zs:=[.sl (t[i].map gv) q]) afy afy (fun k hk=>hk) (by rw[XN];intro w hw;obtain⟨k,hk,rfl⟩:=List.mem_iff_getElem.1 hw;obtain⟨q',e'⟩:=hys k hk afu;rw[e'];rfl) (by rw[XN];intro w hw;rw[List.mem_singleton.1 hw];rfl) (by simp only[go_sem,hn,List.length_cons,List.length_nil];omega) fun y' H' hy' _=>?_
     simp only[go_sem,r11,w1];refine⟨_,?_,i+1,y',_,hy',afv,fun k h1 h2=>?_,afu,rfl,?_,?_,?_,?_⟩
     ·omega
     ·grind
     all_goals simp only[go_sem,r9,r10]
  ·have hge:i=t.length:=by grind
   simp only[go_sem,r3];obtain⟨q,rfl⟩:=hy.row;refine .mk (aU t) ?_ hy.1 ⟨rfl,rfl⟩;refine .deep _ _ q afv (fun k h1 h2=>?_) fun k h1 h2 j h3 h4=>?_
   ·obtain⟨q',e'⟩:=hys k h1 afu
    rw[e',afk];rfl
   ·obtain⟨q',e'⟩:=hys k h1 afu
    simp only[e',AV.cells,List.length_singleton]at h3;obtain rfl:j=0:=afu;simp only[e',afk,cC,AV.cells,List.getElem_singleton];exact aia
theorem Ad(t:gu):cN (aU t)=true:=by
 refine bn (fun a=>?_) t
 refine bn (fun b=>?_) a
 exact bn (fun _=>rfl) b
theorem Lx(l:List aP):cN (eC l)=true:=by simp only[eC,cN];exact bn (fun _=>rfl) l
theorem wh(l:List cE):cN (ay l)=true:=by simp only[ay,cN];exact bn (fun _=>rfl) l
theorem B8(r:cR):cN (aC r)=true:=by simp[aC,cN,gO,Ad,Lx,wh]
mutual
theorem Fs:∀p:bC,cN (aM p)=true
 |.mk id set alg tgt rules kids obls=>by simp[aM,cN,gO,Ad,wh,bn B8 rules,wg kids]
theorem wg:∀l:List bC,gO (fl l)=true
 | []=>rfl
 |k::r=>by simp[fl,gO,Fs k,wg r]
end
theorem jO(p:bC):(aM p).cells.length=7:=by cases p;rfl
theorem P9{l:List aP}(h:kY l=0):l.length≤32:=by grind [zc]
theorem Jo{l:List cE}(h:iT l=0):l.length≤8:=(lB h).1
theorem tN{H:Heap}{i:Nat}{x:Option Blk}(h:H i=x):upd H i x=H:=by grind [ah,ag]
theorem mK{tb:TypeId}{h:Heap}{sz id i:Nat}{y:AV}{xs cs:List AV}{t:TypeId}(hw:Ow tb h sz id y xs)(hi:h i=some (.obj cs t))(ht:t≠tb):id≠i:=by
 obtain⟨cap,rest,rfl,h1,_⟩:=hw
 grind
theorem kP{sz:Nat}{xs:List AV}(hs:Sized sz xs)(j:Nat)(hj:j<xs.length)(o:Nat)(c:List AV)(ho:o+c.length≤sz){rest:List AV}:
  (au xs++rest).take (j*sz+o)++c++(au xs++rest).drop (j*sz+o+c.length)=au (xs.set j (.agg (Ab.over xs[j].cells o c)))++rest:=by
 have hl:=aY hs;have hb:(j+1)*sz≤xs.length*sz:=Nat.mul_le_mul_right _ afu;rw[Nat.add_mul,Nat.one_mul]at hb;have:=Oo (us:=au xs) (vs:=rest) (o:=j*sz+o) (c:=c) afu;rw[Ab.over]at this;rw[this,Kx hs j hj o c ho]
theorem pK{α:Type}{xs:List α}{i:Nat}{x:α}(h:xs[i]? =some x):xs.set i x=xs:=by obtain⟨hi,rfl⟩:=List.getElem?_eq_some_iff.1 h;simp
theorem oD(id:Txt)(set:Bool)(alg:Int)(tgt:gu)(rules:List cR)(kids:List bC)(obls:List cE):aM (.mk id set alg tgt rules kids obls)= .agg [.s id,.b set,.i alg,aU tgt,.sl (rules.map aC) .no,.sl (kids.map aM) .no,ay obls]:=by simp[aM,aR]
theorem uK:∀(p:bC) (d:Nat),mU d p→∀h,ai prog 157 [aM p] h fun r h' =>r=aM p∧h' =h
 |.mk pid pset palg ptgt prules pkids pobls,d,hp,h=>by
  obtain⟨_,_,_,_,_,_,ht,ho,hr16,hk16,hre,hke⟩:=hp;rw[rK]at hke;have ih:∀(j:Nat) (hj:j<pkids.length) (h:Heap),ai prog 157 [aM pkids[j]] h fun r h' =>r=aM pkids[j]∧h' =h:=fun j hj h=>uK pkids[j] (d+1) (hke _ (afo hj)) h
  have hob:=Jo ho;refine ai.freeze fun g hg _=>?_
  rw[oD];refine aw func157 72 [.cell 2 39] ?_
  simp only[go_sem];intro i1 h1;simp only[go_sem];intro i2 h2;have n21:=aH h2;have n2:=aA h2;simp only[go_sem];obtain⟨H,eH⟩:∃H,upd (upd g i1 (some (.obj [.s pid,.b pset,.i palg,aU ptgt,.sl (prules.map aC) .no,.sl (pkids.map aM) .no,ay pobls] 39))) i2 (some (.obj [.s [],.b false,.i 0,.sl [] .full,.sl [] .full,.sl [] .full,.sl [] .full] 39))=H:=⟨_,rfl⟩;have hH:Ab.Sub g H:=by rw[←eH];exact((Sub.refl g).put h1 _).put n2 _
  have g1:H i1=some (.obj [.s pid,.b pset,.i palg,aU ptgt,.sl (prules.map aC) .no,.sl (pkids.map aM) .no,ay pobls] 39):=ag8;have g2:H i2=some (.obj [.s [],.b false,.i 0,.sl [] .full,.sl [] .full,.sl [] .full,.sl [] .full] 39):=agZ;rw[eH];refine .stage (hm1 i1 _) [0,1,3,4,2,6,5] [7,8,9] (.hm1 g1) afx ?_;simp only[go_sem,gG];refine(uL ptgt ht H).pthen ?_;refine⟨.hm1 g1,?_⟩;simp only[go_sem];refine(Bx _ (pobls.map bh) H (eP bh 3 (fun _=>rfl) _ _) afZ (bn (fun _=>rfl) _)).pthen ?_
  refine⟨.hm1 g1,cY,(fun _ _ e=>afT),?_⟩
  have cT:(aU ptgt).cells= [aU ptgt]:=rfl;simp only[go_sem,g1,show fit (aU ptgt) 1=(1=1)from rfl,cT]
  have eo:(.sl (pobls.map bh) .no:AV)=ay pobls:=rfl;rw[eo];refine⟨fun _ _ e=>afT,fun _ _ e=>afT,?_⟩
  rw[tN g1];refine .stage (hm1 i1 _) [0,1,3,4,2,6,5] [7,8,9] (.hm1 g1) afx ?_;simp only[go_sem,gG];refine(Kb _ (prules.map aC) H (eP aC 5 (fun _=>rfl) _ _) afZ).mono fun y4 H1 ⟨w4,s1⟩=>?_
  refine⟨.hm1 (s1 _ _ g1),?_⟩;simp only[go_sem];refine(DY _ (pkids.map aM) H1 (eP aM 7 jO _ _) afZ).mono fun y5 H2 ⟨w5,s2⟩=>?_
  have g1' :=s2 _ _ (s1 _ _ g1);have g2' :=s2 _ _ (s1 _ _ g2);refine⟨.hm1 g1',cY,(fun _ _ e=>afT),?_⟩
  simp only[go_sem,g1',w4.rd.fit,w4.rd.cells,w5.rd.fit,w5.rd.cells];refine⟨fun _ _ e=>afT,fun _ _ e=>afT,?_⟩
  have hn4:∀id,nid y4=some id→id≠i2:=fun id e=>cO (w4.nid e).1 g2
  have hn5:∀id,nid y5=some id→id≠i2:=fun id e=>cO (w5.nid e).1 (s1 _ _ g2)
  have hnd:∀i,nid y4=some i→nid y5≠some i:=fun i e4 e5=>(w4.nid e4).2.1 (w5.nid e5).1
  have v4:∀b,OwE 213 g (upd H2 i1 b) 5 y4 (prules.map aC):=fun b=>((w4.sub s2).less hH).keep fun id e=>ag _ _ (cO (w4.nid e).1 g1)
  have v5:∀b,OwE 39 g (upd H2 i1 b) 7 y5 (pkids.map aM):=fun b=>(w5.less (hH.trans s1)).keep fun id e=>ag _ _ (cO (s1.none (w5.nid e).1) g1)
  have vs:∀b,Ab.Sub g (upd H2 i1 b):=fun b=>(hH.trans (s1.trans s2)).put h1 b
  have vz:∀b,upd H2 i1 b i2=some (.obj [.s [],.b false,.i 0,.sl [] .full,.sl [] .full,.sl [] .full,.sl [] .full] 39):=fun b=>by rw[ag _ _ n21];exact g2'
  obtain⟨H3,eH3⟩:∃H3,upd H2 i1 (some (.obj [.s pid,.b pset,.i palg,aU ptgt,y4,y5,ay pobls] 39))=H3:=⟨_,rfl⟩;have q1:H3 i1=some (.obj [.s pid,.b pset,.i palg,aU ptgt,y4,y5,ay pobls] 39):=by rw[←eH3,ah]
  replace v4:=v4 (some (.obj [.s pid,.b pset,.i palg,aU ptgt,y4,y5,ay pobls] 39));replace v5:=v5 (some (.obj [.s pid,.b pset,.i palg,aU ptgt,y4,y5,ay pobls] 39));replace vs:=vs (some (.obj [.s pid,.b pset,.i palg,aU ptgt,y4,y5,ay pobls] 39));replace vz:=vz (some (.obj [.s pid,.b pset,.i palg,aU ptgt,y4,y5,ay pobls] 39));rw[eH3]at v4 v5 vs vz;rw[eH3];clear eH3;have hi1:∀id,g id=none→∀ {K:Heap} {b:Blk},K id=some b→K id≠none:=fun id _ K b e=>by rw[e];simp
  simp only[go_sem,v4.rd.len,afj];refine .intro (fun m ρ G=>∃i:Nat,G i1=some (.obj [.s pid,.b pset,.i palg,aU ptgt,y4,y5,ay pobls] 39)∧G i2=some (.obj [.s [],.b false,.i 0,.sl [] .full,.sl [] .full,.sl [] .full,.sl [] .full] 39)∧Ab.Sub g G∧OwE 213 g G 5 y4 (prules.map aC)∧OwE 39 g G 7 y5 (pkids.map aM)∧i≤prules.length∧m=prules.length - i∧
   lk ρ 1=some (.ptr i1 0)∧lk ρ 2=some (.ptr i2 0)∧lk ρ 24=some y4∧lk ρ 25=some (.i prules.length)∧lk ρ 26=some (.i i)) prules.length ?_ ?_
  ·refine⟨0,q1,vz,vs,v4,v5,afu,rfl,?_,?_,?_,?_,?_⟩<;>simp only[go_sem]
  ·rintro m ρ G ⟨i,q1,vz,vs,v4,v5,hi,rfl,r1,r2,r24,r25,r26⟩
   simp only[go_sem,r25,r26];refine .intro (fun e=>?_) (fun e=>?_)
   ·have hlt:i<prules.length:=afq e
    have w1:=afp i afu;obtain⟨_,rt,rc,ro⟩:=hre _ (afo hlt);have hrc:=P9 rc;have hro:=Jo ro;simp only[go_sem,r24,r26];refine v4.rd.idx (e:=213) i rfl afQ afF afy fun p hp1=>?_
    have hld:=hp1.all (U:=U) (ty:=213) afF agd agd;simp only[go_sem,hld,afk,aC];intro i4 h4;have n41:i4≠i1:=cO h4 q1;simp only[go_sem];obtain⟨G4,eG4⟩:∃G4,upd G i4 (some (.obj [.s prules[i].id,.b prules[i].deny,aU prules[i].tgt,eC prules[i].cond,ay prules[i].obls] 213))=G4:=⟨_,rfl⟩;rw[eG4];have p1:G4 i1=some (.obj [.s pid,.b pset,.i palg,aU ptgt,y4,y5,ay pobls] 39):=ah9;have p4:G4 i4=some (.obj [.s prules[i].id,.b prules[i].deny,aU prules[i].tgt,eC prules[i].cond,ay prules[i].obls] 213):=by rw[←eG4,ah]
    have sG:Ab.Sub G G4:=aiP;refine .calls (hm2 i1 (.obj [.s pid,.b pset,.i palg,aU ptgt,y4,y5,ay pobls] 39) i4 (.obj [.s prules[i].id,.b prules[i].deny,aU prules[i].tgt,eC prules[i].cond,ay prules[i].obls] 213)) [0,1,2,3,4,5,6,7,8,9,10,12,13,15,16,11,14,17,18,19,20,21,22,23,24,25,26] (.hm2 p1 p4) afx rfl ?_;simp only[go_sem,r1,su _ _ n41.symm,sv];refine(uL prules[i].tgt rt G4).pthen ?_;refine⟨.hm2 p1 p4,?_⟩;simp only[go_sem];refine(Gr _ (prules[i].cond.map cM) G4 (eP cM 7 (fun _=>rfl) _ _) afZ (bn (fun _=>rfl) _)).pthen ?_
    refine⟨.hm2 p1 p4,?_⟩;simp only[go_sem];refine(Bx _ (prules[i].obls.map bh) G4 (eP bh 3 (fun _=>rfl) _ _) afZ (bn (fun _=>rfl) _)).pthen ?_
    refine⟨.hm2 p1 p4,?_⟩;simp only[go_sem];obtain⟨id4,hg4,o4⟩:=(v4.sub sG).ow ahE;have m1:id4≠i1:=mK o4 p1 afy;have m4:id4≠i4:=fun e=>(v4.nid o4.nid).2.1 (by rw[e];exact h4)
    refine o4.idx (U:=U) (e:=213) i rfl afQ afF afy ?_;simp only[go_sem];have o4' :=o4;obtain⟨cap,rest,ey,hid,hr,hc,hsz⟩:=o4';have hbd:i*5+5≤(au (prules.map aC)++rest).length:=by rw[afn,aY hsz,afj];omega
    have e2:List.take (i*5+2) (au (prules.map aC)++rest)++(aU prules[i].tgt).cells++List.drop (i*5+2+(aU prules[i].tgt).cells.length) (au (prules.map aC)++rest)=au (prules.map aC)++rest:=by refine(kP hsz i afQ 2 ((aU prules[i].tgt).cells) (afi rfl)).trans ?_;exact ali
    have e3:List.take (i*5+3) (au (prules.map aC)++rest)++ [.sl (prules[i].cond.map cM) .no]++List.drop (i*5+3+1) (au (prules.map aC)++rest)=au (prules.map aC)++rest:=by refine(kP hsz i afQ 3 ([.sl (prules[i].cond.map cM) .no]) (afi rfl)).trans ?_;exact ali
    have e4:List.take (i*5+4) (au (prules.map aC)++rest)++ [.sl (prules[i].obls.map bh) .no]++List.drop (i*5+4+1) (au (prules.map aC)++rest)=au (prules.map aC)++rest:=by refine(kP hsz i afQ 4 ([.sl (prules[i].obls.map bh) .no]) (afi rfl)).trans ?_;exact ali
    simp only[go_sem,hid];rw[e2,tN hid];refine⟨rfl,afu,.hm2 p1 p4,?_⟩;refine o4.idx (U:=U) (e:=213) i rfl afQ afF afy ?_;simp only[go_sem,hid];rw[e3,tN hid];refine⟨afu,.hm2 p1 p4,?_⟩;refine o4.idx (U:=U) (e:=213) i rfl afQ afF afy ?_;simp only[go_sem,hid];rw[e4,tN hid];refine⟨afu,.hm2 p1 p4,?_⟩;simp only[go_sem,r26,w1];refine⟨_,?_,i+1,p1,sG _ _ vz,vs.trans sG,v4.sub sG,v5.sub sG,afu,rfl,?_,?_,?_,?_,?_⟩
    ·omega
    all_goals simp only[go_sem,r1,r2,r24,r25]
   ·have hge:i=prules.length:=by have:=afm e;omega
    clear hge;simp only[go_sem,r1,q1,v5.rd.len,afj];refine .intro (fun m ρ G=>∃i:Nat,G i1=some (.obj [.s pid,.b pset,.i palg,aU ptgt,y4,y5,ay pobls] 39)∧G i2=some (.obj [.s [],.b false,.i 0,.sl [] .full,.sl [] .full,.sl [] .full,.sl [] .full] 39)∧Ab.Sub g G∧OwE 213 g G 5 y4 (prules.map aC)∧OwE 39 g G 7 y5 (pkids.map aM)∧i≤pkids.length∧m=pkids.length - i∧
     lk ρ 1=some (.ptr i1 0)∧lk ρ 2=some (.ptr i2 0)∧lk ρ 57=some y5∧lk ρ 58=some (.i pkids.length)∧lk ρ 59=some (.i i)) pkids.length ?_ ?_
    ·refine⟨0,q1,vz,vs,v4,v5,afu,rfl,?_,?_,?_,?_,?_⟩<;>simp only[go_sem,r1,r2]
    ·clear r1 r2 r24 r25 r26 q1 vz vs v4 v5 e hi
     rintro m ρ G ⟨i,q1,vz,vs,v4,v5,hi,rfl,r1,r2,r57,r58,r59⟩
     simp only[go_sem,r58,r59];refine .intro (fun e=>?_) (fun e=>?_)
     ·have hlt:i<pkids.length:=afq e
      have w1:=afp i afu;have ihi:=ih i hlt;have hci:=jO pkids[i];cases hpk:pkids[i]with
      |mk kid kset kalg ktgt krules kkids kobls=>
      rw[hpk,oD]at ihi;simp only[go_sem,r57,r59];refine v5.rd.idx (e:=39) i rfl afQ afF afy fun p hp1=>?_
      have hld:=hp1.all (U:=U) (ty:=39) afF (by simp only[go_sem];rw[afk];exact hci) (by simp only[go_sem];rw[afk,hpk,oD];rfl)
      simp only[go_sem,hld,afk,hpk,oD];intro i4 h4;have n41:i4≠i1:=cO h4 q1;simp only[go_sem];obtain⟨G4,eG4⟩:∃G4,upd G i4 (some (.obj [.s kid,.b kset,.i kalg,aU ktgt,.sl (krules.map aC) .no,.sl (kkids.map aM) .no,ay kobls] 39))=G4:=⟨_,rfl⟩;rw[eG4];have p1:G4 i1=some (.obj [.s pid,.b pset,.i palg,aU ptgt,y4,y5,ay pobls] 39):=ah9;have p4:G4 i4=some (.obj [.s kid,.b kset,.i kalg,aU ktgt,.sl (krules.map aC) .no,.sl (kkids.map aM) .no,ay kobls] 39):=by rw[←eG4,ah]
      have sG:Ab.Sub G G4:=aiP;refine .calls (hm2 i1 (.obj [.s pid,.b pset,.i palg,aU ptgt,y4,y5,ay pobls] 39) i4 (.obj [.s kid,.b kset,.i kalg,aU ktgt,.sl (krules.map aC) .no,.sl (kkids.map aM) .no,ay kobls] 39)) [0,1,2,3,4,5,6] (.hm2 p1 p4) afx rfl ?_;simp only[go_sem,r1,su _ _ n41.symm,sv];refine(ihi G4).pthen ?_;refine⟨.hm2 p1 p4,?_⟩;simp only[go_sem];obtain⟨id4,hg4,o4⟩:=(v5.sub sG).ow ahE;have o4' :=o4;obtain⟨cap,rest,ey,hid,hr,hc,hsz⟩:=o4';have hbd:i*7+7≤(au (pkids.map aM)++rest).length:=by rw[afn,aY hsz,afj];omega
      have e2:List.take (i*7) (au (pkids.map aM)++rest)++ [.s kid,.b kset,.i kalg,aU ktgt,.sl (krules.map aC) .no,.sl (kkids.map aM) .no,ay kobls]++List.drop (i*7+7) (au (pkids.map aM)++rest)=au (pkids.map aM)++rest:=by refine(kP hsz i afQ 0 [.s kid,.b kset,.i kalg,aU ktgt,.sl (krules.map aC) .no,.sl (kkids.map aM) .no,ay kobls] (afi rfl)).trans ?_;rw[pK];rw[List.getElem?_eq_getElem afQ,afk,hpk,oD];rfl
      refine o4.idx (U:=U) (e:=39) i rfl afQ afF afy ?_;simp only[go_sem,hid];rw[e2,tN hid];refine⟨afu,.hm2 p1 p4,?_⟩;simp only[go_sem,r59,w1];refine⟨_,?_,i+1,p1,sG _ _ vz,vs.trans sG,v4.sub sG,v5.sub sG,afu,rfl,?_,?_,?_,?_,?_⟩
      ·omega
      all_goals simp only[go_sem,r1,r2,r57,r58]
     ·simp only[go_sem,r1,r2,q1,vz]
      refine .mk _ (.refl _) (.refl _) ⟨vs.put n2 _,aM (.mk pid pset palg ptgt prules pkids pobls),?_,oD ..⟩;rw[oD];have z4:∀b,Frz g (upd G i2 b) y4 (.sl (prules.map aC) .no):=fun b=>(v4.keep fun id e=>ag _ _ (hn4 id e)).frz (bn B8 prules)
      have z5:∀b,Frz g (upd G i2 b) y5 (.sl (pkids.map aM) .no):=fun b=>(v5.keep fun id e=>ag _ _ (hn5 id e)).frz (by rw[←aR];exact wg pkids)
      refine .agg _ _ rfl fun k k1 k2=>?_
      rcases k with _|_|_|_|_|_|_|k
      ·exact afO
      ·exact afO
      ·exact afO
      ·exact .pure (Ad _)
      ·exact z4 _
      ·exact z5 _
      ·exact .pure (wh _)
      ·simp at k1;omega
termination_by p=>SizeOf.sizeOf p
decreasing_by
 have:=List.sizeOf_lt_of_mem (afo hj);simp only[bC.mk.sizeOf_spec];omega
end Go.Proofs.YtelkmnkejghkeaaGreatDoor
namespace Go.Ab
open Go
def apart(a b:AV):Prop:=∀i,nid a=some i→nid b≠some i
theorem apart.symm{a b:AV}(h:apart a b):apart b a:=fun i e1 e2=>h i e2 e1
theorem eO{a y:AV}{tb:TypeId}{g h:Heap}{sz:Nat}{xs:List AV}(hw:OwE tb g h sz y xs)(ha:∀i,nid a=some i→g i≠none):apart a y:=fun i e1 e2=>ha i e1 (hw.nid e2).1
theorem OwE.there{tb:TypeId}{h0 h h' :Heap}{sz:Nat}{y:AV}{xs:List AV}(hw:OwE tb h0 h sz y xs)(hs:∀i,h i≠Option.none→h' i≠Option.none):∀i,Ab.nid y=some i→h' i≠Option.none:=fun i e=>hs i (hw.nid e).2.1
theorem Sub.some{h h' :Heap}(hs:Sub h h'):∀i,h i≠Option.none→h' i≠Option.none:=fun i e e' =>e (hs.none e')
end Go.Ab
namespace Go.Proofs.YtelkmnkejghkeaaGreatDoor
open Go Go.Ab Go.Bf Tryz
variable {cs L ys:List AV}{x:AV}{c:aL}
def fH(h0 h:Heap)(ys:List AV)(x:AV)(c:aL):Prop:=∃f l,x= .agg [.s c.id,.s c.owner,.s c.state,f,l]∧OwE 196 h0 h 4 f (c.fields.map bA)∧OwE 186 h0 h 3 l (c.log.map gC)∧apart f l∧∀y∈ys,apart f y∧apart l y
def mO(h0 h:Heap)(ys:List AV)(y1:AV)(cs:List aL)(i0:Nat):Prop:=∃xs,OwE 120 h0 h 5 y1 xs∧xs.length=cs.length∧(∀j (h1:j<xs.length) (h2:j<cs.length),j≠i0→xs[j]=cr cs[j])∧∀(h1:i0<xs.length) (h2:i0<cs.length),fH h0 h ys xs[i0] cs[i0]
def tX(h0 h:Heap)(x:AV)(s:an)(i0:Nat):Prop:=∃y1 y2 y3 y4,x= .agg ([.i s.tick,y1,y2,y3,y4]++gD s.policy++ [.i s.version])∧mO h0 h [y1,y2,y3,y4] y1 s.cases i0∧
 OwE 134 h0 h 7 y2 (s.reviews.map gH)∧OwE 137 h0 h 3 y3 (s.notices.map kL)∧OwE 140 h0 h 2 y4 (s.roles.map dF)∧apart y1 y2∧apart y1 y3∧apart y1 y4∧apart y2 y3∧apart y2 y4∧apart y3 y4
theorem Ls(h:L.length=cs.length):Ab.over cs 0 L=L:=by simp_all [Ab.over,List.take_zero,List.nil_append,Nat.zero_add,List.drop_of_length_le,List.append_nil]
theorem Fg{h:Heap}(i i0:Nat)(hb:RdC h x c)(hl:c.fields.length≤1000000)(hl2:c.log.length≤1000000):ai prog 108 [x] h fun r h' =>
  ∃f l,r= .agg [.s c.id,.s c.owner,.s c.state,f,l]∧Ab.Sub h h'∧f.cells= [f]∧l.cells= [l]∧(i≠i0→f=gS c.fields∧l=tE c.log)∧(i=i0→OwE 196 h h' 4 f (c.fields.map bA)∧OwE 186 h h' 3 l (c.log.map gC)∧apart f l):=by
 by_cases e:i=i0
 ·exact(zV hb hl hl2).mono fun r h' ⟨⟨f,l,e1,a,b,c⟩,d⟩=>⟨f,l,e1,d,a.rd.cells,b.rd.cells,fun hh=>(hh e).elim,fun _=>⟨a,b,c⟩⟩
 ·exact(xx hb hl hl2).mono fun r h' ⟨e1,e2⟩=>⟨_,_,e1,by rw[e2];exact .refl _,rfl,rfl,fun _=>⟨rfl,rfl⟩,fun hh=>(e hh).elim⟩
theorem fH.sub{h0 h h' :Heap}(hm:fH h0 h ys x c)(hs:Ab.Sub h h'):fH h0 h' ys x c:=by obtain⟨f,l,e,a,b,c,d⟩:=hm;exact⟨f,l,e,a.sub hs,b.sub hs,c,d⟩
theorem fH.keep{h0 h h' :Heap}(hm:fH h0 h ys x c)(hs:∀f l,x= .agg [.s c.id,.s c.owner,.s c.state,f,l]→(∀y∈ys,apart f y∧apart l y)→∀i,(nid f=some i∨nid l=some i)→h' i=h i):fH h0 h' ys x c:=by obtain⟨f,l,e,a,b,c,d⟩:=hm;exact⟨f,l,e,a.keep fun i hi=>hs f l e d i (.inl hi),b.keep fun i hi=>hs f l e d i (.inr hi),c,d⟩
theorem Uk{h:Heap}{s:an}(hb:RdS h x s)(i0:Nat)(hf:Few s)(hp:mU 1 s.policy):ai prog 102 [x] h fun r h' =>tX h h' r s i0∧Ab.Sub h h' :=by
 obtain⟨y1,y2,y3,y4,rfl,⟨xs0,hc,hn,hcs⟩,h2,h3,h4⟩:=hb;have hpo:=uK s.policy 1 hp;cases hpp:s.policy with
 |mk pid pset palg ptgt prules pkids pobls=>
 rw[hpp,oD]at hpo;have hcC:gD (.mk pid pset palg ptgt prules pkids pobls)= [.s pid,.b pset,.i palg,aU ptgt,.sl (prules.map aC) .no,.sl (pkids.map aM) .no,ay pobls]:=aiA;have hfc:=hf.cases;refine aw func102 41 [.cell 2 41] ?_
 simp only[go_sem,hcC,List.cons_append,List.nil_append];intro i1 h1;simp only[go_sem];intro i2 h2';have n21:=aH h2';have n2:=aA h2';simp only[go_sem,ak,n21.symm];obtain⟨H,eH⟩:∃H,upd (upd h i1 (some (.obj [.i s.tick,y1,y2,y3,y4,.s pid,.b pset,.i palg,aU ptgt,.sl (prules.map aC) .no,.sl (pkids.map aM) .no,ay pobls,.i s.version] 41))) i2 (some (.obj [.i 0,.sl [] .full,.sl [] .full,.sl [] .full,.sl [] .full,.s [],.b false,.i 0,.sl [] .full,.sl [] .full,.sl [] .full,.sl [] .full,.i 0] 41))=H:=⟨_,rfl⟩;have hH:Ab.Sub h H:=agw;have g1:H i1=some (.obj [.i s.tick,y1,y2,y3,y4,.s pid,.b pset,.i palg,aU ptgt,.sl (prules.map aC) .no,.sl (pkids.map aM) .no,ay pobls,.i s.version] 41):=ag8;have g2:H i2=some (.obj [.i 0,.sl [] .full,.sl [] .full,.sl [] .full,.sl [] .full,.s [],.b false,.i 0,.sl [] .full,.sl [] .full,.sl [] .full,.sl [] .full,.i 0] 41):=agZ;rw[eH];clear eH;refine(Bv y1 xs0 H (hc.sub hH) afu).mono fun z1 H1 ⟨w1,s1⟩=>?_
 simp only[go_sem,s1 _ _ g1,w1.rd.fit,w1.rd.cells];have v1:∀b,OwE 120 h (upd H1 i1 b) 5 z1 xs0:=fun b=>(w1.less hH).keep fun id e=>ag _ _ (cO (w1.nid e).1 g1)
 have vs:∀b,Ab.Sub h (upd H1 i1 b):=fun b=>(hH.trans s1).put h1 b
 have vz:∀b,upd H1 i1 b i2=some (.obj [.i 0,.sl [] .full,.sl [] .full,.sl [] .full,.sl [] .full,.s [],.b false,.i 0,.sl [] .full,.sl [] .full,.sl [] .full,.sl [] .full,.i 0] 41):=fun b=>by rw[ag _ _ n21];exact s1 _ _ g2
 have hz1:∀id,nid z1=some id→id≠i1:=fun id e=>cO (w1.nid e).1 g1
 have hz2:∀id,nid z1=some id→id≠i2:=fun id e=>cO (w1.nid e).1 g2
 obtain⟨H2,eH2⟩:∃H2,upd H1 i1 (some (.obj [.i s.tick,z1,y2,y3,y4,.s pid,.b pset,.i palg,aU ptgt,.sl (prules.map aC) .no,.sl (pkids.map aM) .no,ay pobls,.i s.version] 41))=H2:=⟨_,rfl⟩;replace v1:=v1 (some (.obj [.i s.tick,z1,y2,y3,y4,.s pid,.b pset,.i palg,aU ptgt,.sl (prules.map aC) .no,.sl (pkids.map aM) .no,ay pobls,.i s.version] 41));replace vs:=vs (some (.obj [.i s.tick,z1,y2,y3,y4,.s pid,.b pset,.i palg,aU ptgt,.sl (prules.map aC) .no,.sl (pkids.map aM) .no,ay pobls,.i s.version] 41));replace vz:=vz (some (.obj [.i s.tick,z1,y2,y3,y4,.s pid,.b pset,.i palg,aU ptgt,.sl (prules.map aC) .no,.sl (pkids.map aM) .no,ay pobls,.i s.version] 41));have q1:H2 i1=some (.obj [.i s.tick,z1,y2,y3,y4,.s pid,.b pset,.i palg,aU ptgt,.sl (prules.map aC) .no,.sl (pkids.map aM) .no,ay pobls,.i s.version] 41):=by rw[←eH2,ah]
 rw[eH2]at v1 vs vz;rw[eH2];clear eH2;simp only[go_sem,v1.rd.len,hn];refine .intro (fun m ρ G=>∃(i:Nat) (xs:List AV),G i1=some (.obj [.i s.tick,z1,y2,y3,y4,.s pid,.b pset,.i palg,aU ptgt,.sl (prules.map aC) .no,.sl (pkids.map aM) .no,ay pobls,.i s.version] 41)∧G i2=some (.obj [.i 0,.sl [] .full,.sl [] .full,.sl [] .full,.sl [] .full,.s [],.b false,.i 0,.sl [] .full,.sl [] .full,.sl [] .full,.sl [] .full,.i 0] 41)∧Ab.Sub h G∧OwE 120 h G 5 z1 xs∧xs.length=s.cases.length∧(∀j (h1:j<xs.length) (h2:j<s.cases.length),j<i→j≠i0→xs[j]=cr s.cases[j])∧(∀(h1:i0<xs.length) (h2:i0<s.cases.length),i0<i→fH h G [z1] xs[i0] s.cases[i0])∧(∀j (h1:j<xs.length) (h2:j<s.cases.length),i≤j→RdC h xs[j] s.cases[j])∧i≤s.cases.length∧m=s.cases.length - i∧
  lk ρ 1=some (.ptr i1 0)∧lk ρ 2=some (.ptr i2 0)∧lk ρ 10=some z1∧lk ρ 11=some (.i s.cases.length)∧lk ρ 12=some (.i i)) s.cases.length ?_ ?_
 ·refine⟨0,xs0,q1,vz,vs,v1,hn,fun j _ _ hj=>afu,fun _ _ hj=>afu,fun j a b _=>hcs j a b,afu,rfl,?_,?_,?_,?_,?_⟩<;>simp only[go_sem]
 ·rintro m ρ G ⟨i,xs,q1,vz,vs,v1,hn,hlo,hmy,hhi,hi,rfl,r1,r2,r10,r11,r12⟩
  simp only[go_sem,r11,r12];refine .intro (fun e=>?_) (fun e=>?_)
  ·have hlt:i<s.cases.length:=afq e
   have hltx:i<xs.length:=afu;have w1:=afp i afu;obtain⟨f,l,ex,hfl,hlg⟩:=hhi i hltx hlt (Nat.le_refl _);have hff:=hf.fields _ (afo hlt);have hfg:=hf.log _ (afo hlt);simp only[go_sem,r10,r12];refine v1.rd.idx (e:=120) i rfl hltx oH afy fun p hp1=>?_
   have hld:=hp1.all (U:=U) (ty:=120) afF (by rw[oH,ex];rfl) (by simp only[go_sem];rw[ex];rfl)
   simp only[go_sem,hld,ex];intro i4 h4;have n41:i4≠i1:=cO h4 q1;simp only[go_sem];obtain⟨G4,eG4⟩:∃G4,upd G i4 (some (.obj [.s s.cases[i].id,.s s.cases[i].owner,.s s.cases[i].state,f,l] 120))=G4:=⟨_,rfl⟩;rw[eG4];have p1:G4 i1=some (.obj [.i s.tick,z1,y2,y3,y4,.s pid,.b pset,.i palg,aU ptgt,.sl (prules.map aC) .no,.sl (pkids.map aM) .no,ay pobls,.i s.version] 41):=ah9;have p4:G4 i4=some (.obj [.s s.cases[i].id,.s s.cases[i].owner,.s s.cases[i].state,f,l] 120):=by rw[←eG4,ah]
   have sG:Ab.Sub G G4:=aiP;refine .calls (hm2 i1 (.obj [.i s.tick,z1,y2,y3,y4,.s pid,.b pset,.i palg,aU ptgt,.sl (prules.map aC) .no,.sl (pkids.map aM) .no,ay pobls,.i s.version] 41) i4 (.obj [.s s.cases[i].id,.s s.cases[i].owner,.s s.cases[i].state,f,l] 120)) [0,1,2,3,4,5,6] (.hm2 p1 p4) afx rfl ?_;simp only[go_sem,r1,su _ _ n41.symm,sv];refine(Fg i i0 (show RdC G4 (.agg [.s s.cases[i].id,.s s.cases[i].owner,.s s.cases[i].state,f,l]) s.cases[i]from⟨f,l,rfl,hfl.sub (vs.trans sG),hlg.sub (vs.trans sG)⟩) hff hfg).mono fun r G5 ⟨f',l',er,s5,cf,cl,hne,heq⟩=>?_
   subst er;have p1' :=s5 _ _ p1;have p4' :=s5 _ _ p4;refine⟨.hm2 p1' p4',?_⟩;simp only[go_sem];obtain⟨id1,hg1,o1⟩:=((v1.sub sG).sub s5).ow (by intro e;rw[e]at hltx;cases hltx)
   have t1:id1≠i1:=mK o1 p1' afy;have t2:id1≠i2:=hz2 id1 o1.nid;have t3:G4 id1≠none:=fun e=>(v1.nid o1.nid).2.1 (sG.none e)
   have o1' :=o1;obtain⟨cap,rest,ey,hid,hr,hcap,hsz⟩:=o1';have hbd:i*5+5≤(au xs++rest).length:=by rw[afn,aY hsz];omega
   have hx5:xs[i].cells.length=5:=hsz _ (afo hltx);have e2:List.take (i*5) (au xs++rest)++ [.s s.cases[i].id,.s s.cases[i].owner,.s s.cases[i].state,f',l']++List.drop (i*5+5) (au xs++rest)=au (xs.set i (.agg [.s s.cases[i].id,.s s.cases[i].owner,.s s.cases[i].state,f',l']))++rest:=by refine(kP hsz i hltx 0 [.s s.cases[i].id,.s s.cases[i].owner,.s s.cases[i].state,f',l'] (afi rfl)).trans ?_;rw[Ls (by rw[hx5];rfl)]
   refine o1.idx (U:=U) (e:=120) i rfl hltx oH afy ?_;simp only[go_sem,hid];rw[e2];have t4:id1≠i4:=fun e=>(v1.nid o1.nid).2.1 (by rw[e];exact h4)
   refine⟨afu,.hm2 (by rw[ag _ _ t1.symm];exact p1') (by rw[ag _ _ t4.symm];exact p4'),?_⟩
   simp only[go_sem,r12,w1];have ho:∀b k,k≠id1→upd G5 id1 b k=G5 k:=fun b k hk=>ag _ _ hk
   have hs6:∀b,Ab.Sub h (upd G5 id1 b):=fun b=>((vs.trans sG).trans s5).put hg1 b
   refine⟨_,?_,i+1,xs.set i (.agg [.s s.cases[i].id,.s s.cases[i].owner,.s s.cases[i].state,f',l']),(ho _ _ t1.symm).trans p1',(ho _ _ t2.symm).trans (s5 _ _ (sG _ _ vz)),hs6 _,.inr ⟨id1,hg1,cap,rest,ahM,ah ..,by rw[List.length_set];exact hr,ahF,?_⟩,by rw[List.length_set];exact hn,fun j a b hj hj0=>?_,fun a b hj=>?_,fun j a b hj=>?_,afu,rfl,?_,?_,?_,?_,?_⟩
   ·omega
   ·intro z hz
    exact akv
   ·have a' :j<xs.length:=by rw[List.length_set]at a;exact a
    by_cases hji:j=i
    ·subst hji
     obtain⟨ef,el⟩:=hne hj0;rw[List.getElem_set_self,ef,el];rfl
    ·rw[List.getElem_set_ne (Ne.symm hji)]
     exact hlo j a' b afu hj0
   ·have a' :i0<xs.length:=by rw[List.length_set]at a;exact a
    by_cases hji:i=i0
    ·subst hji
     obtain⟨of,ol,hap⟩:=heq rfl;have kf:∀k,G4 k=none→upd G5 id1 (some (.obj (au (xs.set i (.agg [.s s.cases[i].id,.s s.cases[i].owner,.s s.cases[i].state,f',l']))++rest) 120)) k=G5 k:=fun k hk=>ag _ _ fun e=>t3 (by rw[←e];exact hk)
     rw[List.getElem_set_self];refine⟨f',l',rfl,(of.less (vs.trans sG)).keep fun k hk=>kf k (of.nid hk).1,(ol.less (vs.trans sG)).keep fun k hk=>kf k (ol.nid hk).1,hap,fun y hy=>?_⟩
     rw[List.mem_singleton.1 hy];have hz1:∀k,nid z1=some k→G4 k≠none:=(v1.sub sG).there fun k hk=>hk
     exact⟨(eO of hz1).symm,(eO ol hz1).symm⟩
    ·rw[List.getElem_set_ne hji]
     have hm:=hmy a' b afu;refine fH.keep (h:=G5) ((hm.sub sG).sub s5) fun f l ex hap k hk=>?_
     refine ag _ _ fun e=>?_
     subst e;rcases hk with hk|hk
     ·exact(hap z1 (List.mem_singleton.2 rfl)).1 _ hk o1.nid
     ·exact(hap z1 (List.mem_singleton.2 rfl)).2 _ hk o1.nid
   ·have a' :j<xs.length:=by rw[List.length_set]at a;exact a
    rw[List.getElem_set_ne afu];exact hhi j a' b afu
   all_goals simp only[go_sem,r1,r2,r10,r11]
  ·have hge:i=s.cases.length:=by have:=afm e;omega
   simp only[go_sem];refine .stage (hm1 i1 (.obj [.i s.tick,z1,y2,y3,y4,.s pid,.b pset,.i palg,aU ptgt,.sl (prules.map aC) .no,.sl (pkids.map aM) .no,ay pobls,.i s.version] 41)) [0,1,3,4,6,7,2,9,5,8] [10,11,12,13,14] (.hm1 q1) afx ?_;simp only[go_sem,r1,gG];refine(wO y2 _ G (h2.sub vs) (by rw[afj];exact hf.reviews)).mono fun z2 G1 ⟨o2,s1⟩=>?_
   refine⟨.hm1 (s1 _ _ q1),?_⟩;simp only[go_sem,r1];refine(wN y3 _ G1 ((h3.sub vs).sub s1) (by rw[afj];exact hf.notices)).mono fun z3 G2 ⟨o3,s2⟩=>?_
   refine⟨.hm1 (s2 _ _ (s1 _ _ q1)),?_⟩;simp only[go_sem];refine(Ka y4 _ G2 (((h4.sub vs).sub s1).sub s2) (by rw[afj];exact hf.roles)).mono fun z4 G3 ⟨o4,s3⟩=>?_
   have s03:Ab.Sub G G3:=s1.trans (s2.trans s3);have q1' :=s03 _ _ q1;have q2' :=s03 _ _ vz;refine⟨.hm1 q1',cY,(fun _ _ e=>afT),?_⟩
   simp only[go_sem,r1,q1',o2.rd.fit,o2.rd.cells,o3.rd.fit,o3.rd.cells,o4.rd.fit,o4.rd.cells];refine⟨fun _ _ e=>afT,fun _ _ e=>afT,fun _ _ e=>afT,?_⟩
   refine(show ai prog 157 [_] _ _ from hpo _).pthen ?_
   have vz' :∀b,upd G3 i1 b i2=some (.obj [.i 0,.sl [] .full,.sl [] .full,.sl [] .full,.sl [] .full,.s [],.b false,.i 0,.sl [] .full,.sl [] .full,.sl [] .full,.sl [] .full,.i 0] 41):=fun b=>by rw[ag _ _ n21];exact q2'
   simp only[go_sem,r1,r2,vz'];have k1:∀ {tb:TypeId} {z:AV} {xs:List AV} {n:Nat} {g:Heap},OwE tb g G3 n z xs→Ab.Sub h g→(∀id,nid z=some id→id≠i1∧id≠i2)→∀a b,OwE tb h (upd (upd G3 i1 a) i2 b) n z xs:=fun w hg hn a b=>(w.less hg).keep fun id e=>by rw[ag _ _ (hn id e).2,ag _ _ (hn id e).1]
   have new:∀ {tb:TypeId} {z:AV} {xs:List AV} {n:Nat} {g:Heap},OwE tb g G3 n z xs→Ab.Sub G g→∀id,nid z=some id→id≠i1∧id≠i2:=fun w hg id e=>⟨cO (w.nid e).1 (hg _ _ q1),cO (w.nid e).1 (hg _ _ vz)⟩
   have n2' :=new (o2.sub (s2.trans s3)) (.refl _);have n3' :=new (o3.sub s3) s1;have n4' :=new o4 (s1.trans s2);have n1' :∀id,nid z1=some id→id≠i1∧id≠i2:=fun id e=>⟨hz1 id e,hz2 id e⟩
   have aG:∀k,nid z1=some k→G k≠none:=v1.there fun k hk=>hk
   refine .mk _ (.refl _) (.refl _) ⟨⟨z1,z2,z3,z4,by rw[hpp,hcC];rfl,⟨xs,k1 (v1.sub s03) (.refl _) n1' _ _,hn,fun j a b hj=>hlo j a b afu hj,fun a b=>?_⟩,k1 (o2.sub (s2.trans s3)) vs n2' _ _,k1 (o3.sub s3) (vs.trans s1) n3' _ _,k1 o4 (vs.trans (s1.trans s2)) n4' _ _,?_,?_,?_,?_,?_,?_⟩,((vs.trans s03).put h1 _).put n2 _⟩
   ·have hm:=(hmy a b afu).sub s03
    obtain⟨f,l,ex,of,ol,hap,hy⟩:=hm;obtain⟨af,al⟩:=hy z1 (List.mem_singleton.2 rfl);have kf:∀k,nid f=some k→k≠i1∧k≠i2:=fun k hk=>⟨mK (of.nid hk).2.2 q1' afy,mK (of.nid hk).2.2 q2' afy⟩
    have kl:∀k,nid l=some k→k≠i1∧k≠i2:=fun k hk=>⟨mK (ol.nid hk).2.2 q1' afy,mK (ol.nid hk).2.2 q2' afy⟩
    obtain⟨f0,l0,ex0,of0,ol0,_⟩:=hmy a b afu;obtain⟨rfl,rfl⟩:f0=f∧l0=l:=by rw[ex0]at ex;simp only[AV.agg.injEq,List.cons.injEq,true_and,and_true]at ex;exact ex
    have gf:∀k,nid f0=some k→G k≠none:=of0.there fun k hk=>hk
    have gl:∀k,nid l0=some k→G k≠none:=ol0.there fun k hk=>hk
    refine⟨f0,l0,ex,k1 of (.refl _) kf _ _,k1 ol (.refl _) kl _ _,hap,fun y hy=>?_⟩
    simp only[List.mem_cons,List.not_mem_nil,or_false]at hy;rcases hy with rfl|rfl|rfl|rfl
    ·exact⟨af,al⟩
    ·exact⟨eO o2 gf,eO o2 gl⟩
    ·exact⟨eO o3 fun k hk=>s1.some k (gf k hk),eO o3 fun k hk=>s1.some k (gl k hk)⟩
    ·exact⟨eO o4 fun k hk=>(s1.trans s2).some k (gf k hk),eO o4 fun k hk=>(s1.trans s2).some k (gl k hk)⟩
   ·exact eO o2 aG
   ·exact eO o3 fun k hk=>s1.some k (aG k hk)
   ·exact eO o4 fun k hk=>(s1.trans s2).some k (aG k hk)
   ·exact eO o3 (o2.there fun k hk=>hk)
   ·exact eO o4 ((o2.sub s2).there fun k hk=>hk)
   ·exact eO o4 (o3.there fun k hk=>hk)
end Go.Proofs.YtelkmnkejghkeaaGreatDoor
namespace Go.Ab
open Go
variable {A B C X:List AV}{k1 k2 k3 k4:Nat}
theorem qi{k m:Nat}(hk:k=A.length)(hm:m=X.length)(h:X.length=B.length):(A++(B++C)).take k++X++(A++(B++C)).drop (k+m)=A++(X++C):=by grind
theorem I9(h1:k1=A.length+X.length)(h2:k2=k1+B.length)(h3:k3=A.length)(h4:k4=k3+X.length)(hc:X.length≤C.length):
  List.take k3 (List.take k1 (A++(B++C))++B++List.drop k2 (A++(B++C)))++X++List.drop k4 (List.take k1 (A++(B++C))++B++List.drop k2 (A++(B++C)))=A++(X++(B++C.drop X.length)):=by
 subst h1;subst h2;subst h3;subst h4
 have e1:List.take (A.length+X.length) (A++(B++C))=A++List.take X.length (B++C):=afv;have e2:List.drop (A.length+X.length+B.length) (A++(B++C))=C.drop X.length:=by grind [Nat.add_assoc,List.drop_drop,List.drop_left,Nat.add_comm]
 rw[e1,e2,List.append_assoc A];have e3:(List.take X.length (B++C)).length=X.length:=by rw[List.length_take,afn];omega
 have e4:A++(List.take X.length (B++C)++B++List.drop X.length C)=A++(List.take X.length (B++C)++(B++C.drop X.length)):=afB;rw[List.append_assoc A,e4];exact qi rfl rfl e3.symm
theorem Ja{Z R:List AV}(h1:k1=A.length)(h2:k2=k1+X.length)(h3:k3=A.length+X.length)(h4:k4=k3+B.length)(hz:Z.length=X.length+B.length):
  List.take k3 (List.take k1 (A++Z++R)++X++List.drop k2 (A++Z++R))++B++List.drop k4 (List.take k1 (A++Z++R)++X++List.drop k2 (A++Z++R))=A++(X++(B++R)):=by
 subst h1;subst h2;subst h3;subst h4
 obtain⟨Z1,Z2,rfl,e1⟩:∃Z1 Z2,Z=Z1++Z2∧Z1.length=X.length:=⟨Z.take X.length,Z.drop X.length,(List.take_append_drop _ _).symm,afv⟩;have e2:Z2.length=B.length:=afv;have e3:A++(Z1++Z2)++R=A++(Z1++(Z2++R)):=afB;rw[e3,qi rfl rfl e1.symm,←List.append_assoc A X,qi afB rfl e2.symm,List.append_assoc]
end Go.Ab
namespace Go.Proofs.YtelkmnkejghkeaaGreatDoor
open Go Go.Ab Go.Bf Tryz
theorem Lp{h:Heap}{v:AV}{id off len cap:Nat}{cs:List AV}{t:TypeId}(hv:v.cells.length=5)(hid:h id=some (.obj cs t))(hcs:cs≠ []):ai prog 158 [.sl [v] .full,.ob id off len cap 5] h fun r h' =>r= .b false∧h' =h:=
 xw (U:=U) (tS:=29) (tR:=4) (e:=120) hU func158 afJ afJ afJ afx afJ afy (by simp only[go_sem];omega) afB hid hcs
theorem Hj(y:AV)(xs:List AV)(v:AV)(i:Nat)(h0 h:Heap)(hw:OwE 120 h0 h 5 y xs)(hs0:Ab.Sub h0 h)(hi:i≤xs.length)(hl:xs.length≤1000000)(hv:v.cells.length=5)(hva:fit v 5):
  ai prog 104 [y,.i i,.sl [v] .full] h fun r h' =>OwE 120 h0 h' 5 r (xs.take i++([v]++xs.drop i))∧(∀k,h k≠none→nid y≠some k→h' k=h k)∧∀k,nid r=some k→h k=none∨nid y=some k:=by
 rcases hw with⟨rfl,rfl⟩|⟨id,hg,cap,rest,rfl,hid,hr,hc,hsz⟩
 ·obtain rfl:i=0:=by simpa using hi
  refine afs func104 95 [.tmp 6] fun hwf=>?_
  simp only[go_sem];refine⟨afu,afu,hv,.ob afF (ld.ow (xs:=[v]) ahu aiU rfl fun id y' h' hid hw ho=>?_)⟩
  have hw' :Ow 120 h' 5 id y' [v]:=aiy;simp only[go_sem];refine .same (.refl _) ⟨.inr ⟨id,hs0.none hid,hw'⟩,fun k hk _=>ho k (fun e=>hk (by rw[e];exact hid)),fun k hk=>?_⟩
  rw[show ax [y']=y' from rfl,hw'.nid]at hk
  cases hk;exact .inl hid
 ·have how:OwE 120 h0 h 5 (.ob id 0 xs.length cap 5) xs:=.inr ⟨id,hg,cap,rest,rfl,hid,hr,hc,hsz⟩
  have hfl:=aY hsz;refine aw func104 95 [.tmp 6] ?_
  simp only[go_sem];refine⟨afu,afu,?_⟩;cases d1:((i:Int)==(xs.length:Int))
  case true=>
   have hin:i=xs.length:=by have:(i:Int)=(xs.length:Int):=aiw;omega
   simp only[go_sem];subst hin;refine⟨afu,?_⟩;refine OwE.app (U:=U) (tb:=120) how hs0 (.sl ail .full:Rd h 5 (.sl [v] .full) [v]) afF afy afz afF afB ahU fun id2 y' h' g2 hor hw ho=>?_
   simp only[go_sem];have e1:xs.take xs.length++([v]++xs.drop xs.length)=xs++ [v]:=afB;refine .same (.refl _) ⟨by have:OwE 120 h0 h' 5 y' (xs++ [v]):=.inr ⟨id2,g2,hw⟩;rw[←e1]at this;exact this,fun k hk hk2=>ho k fun e=>?_,fun k hk=>?_⟩
   ·rcases hor with hor|⟨l,c,ey⟩
    ·exact hk ajq
    ·cases ey
     exact hk2 ajj
   ·exact akY
  have hne:i<xs.length:=by have:¬(i:Int)=(xs.length:Int):=aiw;omega
  have wn:IntKind.i64.wrap ((xs.length:Int)+1)=((xs.length+1:Nat):Int):=af0;have wi:=afp i afu;have wm:IntKind.i64.wrap (((xs.length+1:Nat):Int) - (i:Int))=((xs.length+1 - i:Nat):Int):=af0;have f1:au xs=au (xs.take i)++au (xs.drop i):=aiT;have f2:(au (xs.take i)).length=i*5:=by rw[aY (sz:=5) fun z hz=>hsz z (List.mem_of_mem_take hz),List.length_take,Nat.min_eq_left hi]
  have f3:(au (xs.drop i)).length=(xs.length - i)*5:=by rw[aY (sz:=5) fun z hz=>hsz z (List.mem_of_mem_drop hz),List.length_drop]
  have f4:au (xs.take i++([v]++xs.drop i))=au (xs.take i)++(v.cells++au (xs.drop i)):=aiU;have f5:Sized 5 (xs.take i++([v]++xs.drop i)):=fun z hz=>by exact akw
  have f6:(xs.take i++([v]++xs.drop i)).length=xs.length+1:=afZ;have f6' :(xs.take i++v::xs.drop i).length=xs.length+1:=f6;cases d2:decide ((cap:Int)<((xs.length+1:Nat):Int))
  ·have e2:=afm d2
   simp only[go_sem,wn,d2];refine⟨afu,?_⟩;simp only[go_sem,wi];have hcs:au xs++rest≠ []:=by intro e;have:=congrArg List.length e;rw[afn,hfl]at this;simp at this;omega
   refine⟨afu,afu,afu,afu,afu,afu,?_⟩;refine(Lp hv hid hcs).pthen ?_;simp only[go_sem];refine .calls cY [0,1,2,3,4,5,6,7,8] (fun _ _ e=>afT) afx rfl ?_
   simp only[go_sem,wi,hid,Nat.sub_zero];have hmin:min (xs.length+1 - i) (xs.length+1 - (i+1))=xs.length - i:=afu;refine⟨afu,afu,afu,afu,afu,afu,xs.drop i,aic,ah2, ?q1,fun z hz=>hsz z (List.mem_of_mem_drop hz),ag4,by rw[afn,hfl,hr];omega,ajf,afu,afu,afu,hv,afu, ?ln, ?fin⟩
   case q1=>rw[hmin,f1,List.append_assoc,←f2,List.drop_left,←f3,List.take_left]
   case ln=>simp only[afn,List.length_take,List.length_drop,hfl,hr,f3];omega
   have hrl:(5:Nat)≤rest.length:=by rw[hr];omega
   have hfv:au [v]=v.cells:=aiU;have key:=I9 (A:=au (xs.take i)) (B:=au (xs.drop i)) (C:=rest) (X:=au [v]) (k1:=(i+1)*5) (k2:=(i+1)*5+(au (xs.drop i)).length) (k3:=i*5) (k4:=i*5+(au [v]).length) ai2 rfl f2.symm rfl (by rw[hfv,hv];exact hrl)
   rw[←List.append_assoc (au (xs.take i)) (au (xs.drop i)) rest,←f1]at key;rw[key];have e8:au (xs.take i)++(au [v]++(au (xs.drop i)++rest.drop (au [v]).length))=au (xs.take i++([v]++xs.drop i))++rest.drop 5:=by rw[f4,hfv,hv];simp only[List.append_assoc]
   rw[e8];refine .same (.refl _) ⟨.inr ⟨id,hg,cap,rest.drop 5,by rw[←f6];rfl,ah _ _ _,by rw[List.length_drop,hr,f6'];omega,aha,f5⟩,fun k hk hk2=>ag _ _ fun e=>hk2 ajj,fun k hk=> .inr hk⟩
  ·have e2:=afl d2
   simp only[go_sem,wn,d2,wm];refine⟨afu,?_⟩;simp only[go_sem,hid];have eA:List.take (i*5) (au xs++rest)=au (xs.take i):=by rw[f1,List.append_assoc,←f2,List.take_left]
   refine⟨afu,afu,afu,afu,afu,afu,by rw[afn,hfl];omega,?_⟩
   rw[Nat.sub_zero,eA];obtain⟨Z,eZ⟩:∃Z,cQ (AV.agg [AV.s [],AV.s [],AV.s [],AV.sl [] Perm.full,AV.sl [] Perm.full]) (xs.length+1 - i) 5=Z:=⟨_,rfl⟩;have lZ:Z.length=(xs.length+1 - i)*5:=by rw[←eZ];simp[cQ]
   rw[eZ];intro id2 cap2 rest2 hid2 hc2 hr2;have hx:¬id=id2:=fun e=>by rw[e,hid2]at hid;cases hid
   simp only[go_sem];have hfv:au [v]=v.cells:=aiU;refine⟨afu,afu,afu,hv,afu,ahH,?_⟩;refine .calls cY [0,1,2,3,4,5,6,7,8] (fun _ _ e=>afT) afx rfl ?_
   simp only[go_sem,wi,hid,hx,Nat.sub_zero];have hmin:min (xs.length - i) (i+(xs.length+1 - i) - (i+1))=xs.length - i:=afu;have l0:(au (xs.take i)++Z++rest2).length=(i+(xs.length+1 - i))*5+(cap2 - (i+(xs.length+1 - i)))*5:=ahH;refine⟨afu,afu,afu,afu,afu,afu,xs.drop i,aic,ah2, ?q2,fun z hz=>hsz z (List.mem_of_mem_drop hz),ag4, ?lm,ajf, ?fim⟩
   case q2=>rw[hmin,f1,List.append_assoc,←f2,List.drop_left,←f3,List.take_left]
   case lm=>rw[hfv];simp only[afn,List.length_take,List.length_drop,l0,hv];omega
   rw[Ja f2.symm rfl ai2 rfl (by rw[hfv,hv,lZ,f3];omega)]
   have e8:au (xs.take i)++(au [v]++(au (xs.drop i)++rest2))=au (xs.take i++([v]++xs.drop i))++rest2:=by rw[f4,hfv];simp only[List.append_assoc]
   rw[e8];have e9:i+(xs.length+1 - i)=xs.length+1:=afu;rw[e9]at hr2 hc2⊢;refine .same (.refl _) ⟨.inr ⟨id2,hs0.none hid2,cap2,rest2,by rw[←f6];rfl,ah _ _ _,by rw[hr2,f6'],by rw[f6'];omega,f5⟩,fun k hk hk2=>ag _ _ fun e=>hk (by rw[e];exact hid2),fun k hk=> .inl (by cases hk;exact hid2)⟩
theorem HL{h:Heap}{v:AV}{id off len cap:Nat}{cs:List AV}{t:TypeId}(hv:v.cells.length=4)(hid:h id=some (.obj cs t))(hcs:cs≠ []):ai prog 217 [.sl [v] .full,.ob id off len cap 4] h fun r h' =>r= .b false∧h' =h:=
 xw (U:=U) (tS:=117) (tR:=4) (e:=196) hU func217 afJ afJ afJ afx afJ afy (by simp only[go_sem];omega) afB hid hcs
theorem EK(y:AV)(xs:List AV)(v:AV)(i:Nat)(h0 h:Heap)(hw:OwE 196 h0 h 4 y xs)(hs0:Ab.Sub h0 h)(hi:i≤xs.length)(hl:xs.length≤1000000)(hv:v.cells.length=4)(hva:fit v 4):
  ai prog 161 [y,.i i,.sl [v] .full] h fun r h' =>OwE 196 h0 h' 4 r (xs.take i++([v]++xs.drop i))∧(∀k,h k≠none→nid y≠some k→h' k=h k)∧∀k,nid r=some k→h k=none∨nid y=some k:=by
 rcases hw with⟨rfl,rfl⟩|⟨id,hg,cap,rest,rfl,hid,hr,hc,hsz⟩
 ·obtain rfl:i=0:=by simpa using hi
  refine afs func161 95 [.tmp 6] fun hwf=>?_
  simp only[go_sem];refine⟨afu,afu,hv,.ob afF (ld.ow (xs:=[v]) ahu aiU rfl fun id y' h' hid hw ho=>?_)⟩
  have hw' :Ow 196 h' 4 id y' [v]:=aiy;simp only[go_sem];refine .same (.refl _) ⟨.inr ⟨id,hs0.none hid,hw'⟩,fun k hk _=>ho k (fun e=>hk (by rw[e];exact hid)),fun k hk=>?_⟩
  rw[show ax [y']=y' from rfl,hw'.nid]at hk
  cases hk;exact .inl hid
 ·have how:OwE 196 h0 h 4 (.ob id 0 xs.length cap 4) xs:=.inr ⟨id,hg,cap,rest,rfl,hid,hr,hc,hsz⟩
  have hfl:=aY hsz;refine aw func161 95 [.tmp 6] ?_
  simp only[go_sem];refine⟨afu,afu,?_⟩;cases d1:((i:Int)==(xs.length:Int))
  case true=>
   have hin:i=xs.length:=by have:(i:Int)=(xs.length:Int):=aiw;omega
   simp only[go_sem];subst hin;refine⟨afu,?_⟩;refine OwE.app (U:=U) (tb:=196) how hs0 (.sl ail .full:Rd h 4 (.sl [v] .full) [v]) afF afy afz afF afB ahU fun id2 y' h' g2 hor hw ho=>?_
   simp only[go_sem];have e1:xs.take xs.length++([v]++xs.drop xs.length)=xs++ [v]:=afB;refine .same (.refl _) ⟨by have:OwE 196 h0 h' 4 y' (xs++ [v]):=.inr ⟨id2,g2,hw⟩;rw[←e1]at this;exact this,fun k hk hk2=>ho k fun e=>?_,fun k hk=>?_⟩
   ·rcases hor with hor|⟨l,c,ey⟩
    ·exact hk ajq
    ·cases ey
     exact hk2 ajj
   ·exact akY
  have hne:i<xs.length:=by have:¬(i:Int)=(xs.length:Int):=aiw;omega
  have wn:IntKind.i64.wrap ((xs.length:Int)+1)=((xs.length+1:Nat):Int):=af0;have wi:=afp i afu;have wm:IntKind.i64.wrap (((xs.length+1:Nat):Int) - (i:Int))=((xs.length+1 - i:Nat):Int):=af0;have f1:au xs=au (xs.take i)++au (xs.drop i):=aiT;have f2:(au (xs.take i)).length=i*4:=by rw[aY (sz:=4) fun z hz=>hsz z (List.mem_of_mem_take hz),List.length_take,Nat.min_eq_left hi]
  have f3:(au (xs.drop i)).length=(xs.length - i)*4:=by rw[aY (sz:=4) fun z hz=>hsz z (List.mem_of_mem_drop hz),List.length_drop]
  have f4:au (xs.take i++([v]++xs.drop i))=au (xs.take i)++(v.cells++au (xs.drop i)):=aiU;have f5:Sized 4 (xs.take i++([v]++xs.drop i)):=fun z hz=>by exact akw
  have f6:(xs.take i++([v]++xs.drop i)).length=xs.length+1:=afZ;have f6' :(xs.take i++v::xs.drop i).length=xs.length+1:=f6;cases d2:decide ((cap:Int)<((xs.length+1:Nat):Int))
  ·have e2:=afm d2
   simp only[go_sem,wn,d2];refine⟨afu,?_⟩;simp only[go_sem,wi];have hcs:au xs++rest≠ []:=by intro e;have:=congrArg List.length e;rw[afn,hfl]at this;simp at this;omega
   refine⟨afu,afu,afu,afu,afu,afu,?_⟩;refine(HL hv hid hcs).pthen ?_;simp only[go_sem];refine .calls cY [0,1,2,3,4,5,6,7,8] (fun _ _ e=>afT) afx rfl ?_
   simp only[go_sem,wi,hid,Nat.sub_zero];have hmin:min (xs.length+1 - i) (xs.length+1 - (i+1))=xs.length - i:=afu;refine⟨afu,afu,afu,afu,afu,afu,xs.drop i,aic,ah2, ?q1,fun z hz=>hsz z (List.mem_of_mem_drop hz),ag4,by rw[afn,hfl,hr];omega,ajf,afu,afu,afu,hv,afu, ?ln, ?fin⟩
   case q1=>rw[hmin,f1,List.append_assoc,←f2,List.drop_left,←f3,List.take_left]
   case ln=>simp only[afn,List.length_take,List.length_drop,hfl,hr,f3];omega
   have hrl:(4:Nat)≤rest.length:=by rw[hr];omega
   have hfv:au [v]=v.cells:=aiU;have key:=I9 (A:=au (xs.take i)) (B:=au (xs.drop i)) (C:=rest) (X:=au [v]) (k1:=(i+1)*4) (k2:=(i+1)*4+(au (xs.drop i)).length) (k3:=i*4) (k4:=i*4+(au [v]).length) ai2 rfl f2.symm rfl (by rw[hfv,hv];exact hrl)
   rw[←List.append_assoc (au (xs.take i)) (au (xs.drop i)) rest,←f1]at key;rw[key];have e8:au (xs.take i)++(au [v]++(au (xs.drop i)++rest.drop (au [v]).length))=au (xs.take i++([v]++xs.drop i))++rest.drop 4:=by rw[f4,hfv,hv];simp only[List.append_assoc]
   rw[e8];refine .same (.refl _) ⟨.inr ⟨id,hg,cap,rest.drop 4,by rw[←f6];rfl,ah _ _ _,by rw[List.length_drop,hr,f6'];omega,aha,f5⟩,fun k hk hk2=>ag _ _ fun e=>hk2 ajj,fun k hk=> .inr hk⟩
  ·have e2:=afl d2
   simp only[go_sem,wn,d2,wm];refine⟨afu,?_⟩;simp only[go_sem,hid];have eA:List.take (i*4) (au xs++rest)=au (xs.take i):=by rw[f1,List.append_assoc,←f2,List.take_left]
   refine⟨afu,afu,afu,afu,afu,afu,by rw[afn,hfl];omega,?_⟩
   rw[Nat.sub_zero,eA];obtain⟨Z,eZ⟩:∃Z,cQ (AV.agg [AV.s [],AV.v (Value.int IntKind.i64 0),AV.v (Value.int IntKind.i64 0),AV.s []]) (xs.length+1 - i) 4=Z:=⟨_,rfl⟩;have lZ:Z.length=(xs.length+1 - i)*4:=by rw[←eZ];simp[cQ]
   rw[eZ];intro id2 cap2 rest2 hid2 hc2 hr2;have hx:¬id=id2:=fun e=>by rw[e,hid2]at hid;cases hid
   simp only[go_sem];have hfv:au [v]=v.cells:=aiU;refine⟨afu,afu,afu,hv,afu,ahH,?_⟩;refine .calls cY [0,1,2,3,4,5,6,7,8] (fun _ _ e=>afT) afx rfl ?_
   simp only[go_sem,wi,hid,hx,Nat.sub_zero];have hmin:min (xs.length - i) (i+(xs.length+1 - i) - (i+1))=xs.length - i:=afu;have l0:(au (xs.take i)++Z++rest2).length=(i+(xs.length+1 - i))*4+(cap2 - (i+(xs.length+1 - i)))*4:=ahH;refine⟨afu,afu,afu,afu,afu,afu,xs.drop i,aic,ah2, ?q2,fun z hz=>hsz z (List.mem_of_mem_drop hz),ag4, ?lm,ajf, ?fim⟩
   case q2=>rw[hmin,f1,List.append_assoc,←f2,List.drop_left,←f3,List.take_left]
   case lm=>rw[hfv];simp only[afn,List.length_take,List.length_drop,l0,hv];omega
   rw[Ja f2.symm rfl ai2 rfl (by rw[hfv,hv,lZ,f3];omega)]
   have e8:au (xs.take i)++(au [v]++(au (xs.drop i)++rest2))=au (xs.take i++([v]++xs.drop i))++rest2:=by rw[f4,hfv];simp only[List.append_assoc]
   rw[e8];have e9:i+(xs.length+1 - i)=xs.length+1:=afu;rw[e9]at hr2 hc2⊢;refine .same (.refl _) ⟨.inr ⟨id2,hs0.none hid2,cap2,rest2,by rw[←f6];rfl,ah _ _ _,by rw[hr2,f6'],by rw[f6'];omega,f5⟩,fun k hk hk2=>ag _ _ fun e=>hk (by rw[e];exact hid2),fun k hk=> .inl (by cases hk;exact hid2)⟩
end Go.Proofs.YtelkmnkejghkeaaGreatDoor
namespace Go.Ab
open Go
noncomputable def pick (H:Heap) (l:List Nat):Heap:=fun j=>if j∈l then H j else none
theorem bE{H:Heap}{l:List Nat}{j:Nat}(hj:j∈l):pick H l j=H j:=if_pos hj
theorem jj{H h' :Heap}{l:List Nat}(hs:∀j∈l,h' j=H j):Sub (pick H l) h' :=fun j b hb=>by simp_all [bE,pick,if_neg]
theorem bW{H:Heap}{l:List Nat}:Sub (pick H l) H:=jj fun _ _=>rfl
end Go.Ab
namespace Go.Proofs.YtelkmnkejghkeaaGreatDoor
open Go Go.Ab Go.Bf Tryz
variable {s:an}{A B:List AV}{c:aL}{name:Txt}{fs:List cK}{cs:List aL}{x:AV}
def cp(c:aL)(f l:AV):List AV:=[.s c.id,.s c.owner,.s c.state,f,l]
theorem tq{h0 h:Heap}(y1 y2 y3 y4:AV){k o:Nat}{t:TypeId}{f l:AV}(ho:o=A.length)(hk:h k=some (.obj (A++(cp c f l++B)) t))(ht:t≠186)
  (hlo:OwE 186 h0 h 3 l (c.log.map gC)) (hs0:Ab.Sub h0 h) (hll:c.log.length≤1000000) (actor what:Txt):
  ai prog 103 [.agg ([.i s.tick,y1,y2,y3,y4]++gD s.policy++ [.i s.version]),.ptr k o,.s actor,.s what] h fun r h' =>∃l',OwE 186 h0 h' 3 l' ((c.log++ [(⟨s.tick,actor,what⟩:vo)]).map gC)∧h' k=some (.obj (A++(cp c f l' ++B)) t)∧(∀j,h j≠none→j≠k→nid l≠some j→h' j=h j)∧∀j,nid l' =some j→h j=none∨nid l=some j:=by
 cases hpp:s.policy with
 |mk pid pset palg ptgt prules pkids pobls=>
 have hcC:gD (.mk pid pset palg ptgt prules pkids pobls)= [.s pid,.b pset,.i palg,aU ptgt,.sl (prules.map aC) .no,.sl (pkids.map aM) .no,ay pobls]:=aiA;refine aw func103 22 [] ?_
 simp only[go_sem,hcC,List.cons_append,List.nil_append];intro i1 h1;simp only[go_sem];obtain⟨H,eH⟩:∃H,upd h i1 (some (.obj [.i s.tick,y1,y2,y3,y4,.s pid,.b pset,.i palg,aU ptgt,.sl (prules.map aC) .no,.sl (pkids.map aM) .no,ay pobls,.i s.version] 41))=H:=⟨_,rfl⟩;have n1k:k≠i1:=fun e=>by rw[e,h1]at hk;cases hk
 have g1:H i1=some (.obj [.i s.tick,y1,y2,y3,y4,.s pid,.b pset,.i palg,aU ptgt,.sl (prules.map aC) .no,.sl (pkids.map aM) .no,ay pobls,.i s.version] 41):=agZ;have gk:H k=some (.obj (A++(cp c f l++B)) t):=by rw[←eH,ag _ _ n1k];exact hk
 have hH:Ab.Sub h H:=by rw[←eH];exact(Sub.refl h).put h1 _
 have hoj:∀j,j≠i1→H j=h j:=fun j hj=>by rw[←eH];exact ag _ _ hj
 rw[eH];clear eH;refine .stage (hm2 k (.obj (A++(cp c f l++B)) t) i1 (.obj [.i s.tick,y1,y2,y3,y4,.s pid,.b pset,.i palg,aU ptgt,.sl (prules.map aC) .no,.sl (pkids.map aM) .no,ay pobls,.i s.version] 41)) [0,1,2,3,4,5,6,7,8,9,10,11,12,13] [14] (.hm2 gk g1) afx ?_;have hc4:(A++(cp c f l++B))[o+4]? =some l:=aho;obtain⟨CS,eCS⟩:∃CS,A++(cp c f l++B)=CS:=⟨_,rfl⟩;rw[eCS]at hc4 gk⊢;simp only[go_sem,sv,su _ _ n1k,hc4];have hap1:Rd H 3 (.sl [gC ⟨s.tick,actor,what⟩] .full) [gC ⟨s.tick,actor,what⟩]:=.sl age .full;refine OwE.app (U:=U) (tb:=186) (hlo.sub hH) (hs0.trans hH) hap1 afF afy afz afF afB af4 fun id2 y' h' g2 hor hw ho2=>?_
 have hor' :H id2=none∨nid l=some id2:=by exact akn
 have k2:k≠id2:=by
  rcases hor' with hor|hor
  ·exact fun e=>by rw[←e,gk]at hor;cases hor
  ·exact(mK ((hlo.sub hH).nid hor).2.2 gk ht).symm
 have i2:i1≠id2:=by
  rcases hor' with hor|hor
  ·exact fun e=>by rw[←e,g1]at hor;cases hor
  ·exact fun e=>(hlo.nid hor).2.1 (by rw[←e];exact h1)
 have gk' :=(ho2 k k2).trans gk;have gi' :=(ho2 i1 i2).trans g1;refine⟨.hm2 gk' gi',?_⟩;simp only[go_sem];refine⟨cY,(fun _ _ e=>afT),?_⟩
 simp only[go_sem,gk',hw.rd.fit,hw.rd.cells];have lCS:CS.length=A.length+(5+B.length):=by rw[←eCS];simp[cp];omega
 have e5:List.take (o+4) CS++ [y']++List.drop (o+4+1) CS=A++(cp c f y' ++B):=by
  have:=qi (A:=A++ [.s c.id,.s c.owner,.s c.state,f]) (B:=[l]) (C:=B) (X:=[y']) (k:=o+4) (m:=1) (by rw[ho];simp) rfl rfl
  exact alp
 rw[e5];refine⟨afu,(fun _ _ e=>afT),.same (.refl _) ⟨y',?_,ah ..,fun j hj hjk hjl=>?_,fun j hj=>?_⟩⟩
 ·have hw' :Ow 186 (upd h' k (some (.obj (A++(cp c f y' ++B)) t))) 3 id2 y' (c.log.map gC++ [gC ⟨s.tick,actor,what⟩]):=hw.same (ag _ _ k2.symm)
  rw[List.map_append];exact .inr ⟨id2,g2,hw'⟩
 ·have hj2:j≠id2:=by
   rcases hor' with hor|hor
   ·intro e
    have:=hoj j (fun e' =>hj (by rw[e'];exact h1))
    rw[e,hor]at this;exact hj (by rw[e];exact this.symm)
   ·exact fun e=>hjl ajq
  have hj1:j≠i1:=fun e=>hj (by rw[e];exact h1)
  rw[ag _ _ hjk,ho2 j hj2,hoj j hj1]
 ·have:id2=j:=by have:=hw.nid;rw[hj]at this;exact(Option.some.inj this).symm
  rw[←this];rcases hor' with hor|hor
  ·refine .inl ?_
   cases hh:h id2 with
   |none=>rfl
   |some b=>rw[hH _ _ hh]at hor;cases hor
  ·exact .inr hor
theorem Mf{h:Heap}(f:cK){k:Nat}(hk:h k=some (.obj [.s name] 9)):ai prog 160 [bA f,.ptr k 0] h fun r h' =>r= .b (geB f.name name)∧h' =h:=by
 refine aw func160 8 [.tmp 3] ?_
 simp only[go_sem,bA];exact aj3
theorem Iy{v:bu}(hx:¬fs.findIdx (fun f=>geB f.name name)<fs.length):eR fs name v=fs++ [⟨name,v⟩]:=by grind [eR,List.getElem?_eq_none,geB]
theorem AK{v:bu}(hx:fs.findIdx (fun f=>geB f.name name)<fs.length)(he:fs[fs.findIdx (fun f=>geB f.name name)].name=name):eR fs name v=fs.set (fs.findIdx (fun f=>geB f.name name)) ⟨name,v⟩:=by simp_all [eR,List.getElem?_eq_getElem,if_true]
theorem Iz{v:bu}(hx:fs.findIdx (fun f=>geB f.name name)<fs.length)(he:fs[fs.findIdx (fun f=>geB f.name name)].name≠name):eR fs name v=fs.take (fs.findIdx (fun f=>geB f.name name))++ [⟨name,v⟩]++fs.drop (fs.findIdx (fun f=>geB f.name name)):=by simp_all [eR,List.getElem?_eq_getElem,if_false]
theorem Pt{h0 h:Heap}{k o:Nat}{t:TypeId}{f l:AV}(ho:o=A.length)(hk:h k=some (.obj (A++(cp c f l++B)) t))(ht:t≠196)
  (hfo:OwE 196 h0 h 4 f (c.fields.map bA)) (hs0:Ab.Sub h0 h) (hff:c.fields.length≤1000000) (name:Txt) (v:bu):
  ai prog 105 [.ptr k o,.s name,aT v] h fun r h' =>∃f',OwE 196 h0 h' 4 f' ((eR c.fields name v).map bA)∧h' k=some (.obj (A++(cp c f' l++B)) t)∧(∀j,h j≠none→j≠k→nid f≠some j→h' j=h j)∧∀j,nid f' =some j→h j=none∨nid f=some j:=by
 have hc3:(A++(cp c f l++B))[o+3]? =some f:=aho;have lCS:(A++(cp c f l++B)).length=A.length+(5+B.length):=by simp[cp];omega
 have e5:∀y',List.take (o+3) (A++(cp c f l++B))++ [y']++List.drop (o+3+1) (A++(cp c f l++B))=A++(cp c y' l++B):=fun y' =>by
  have:=qi (A:=A++ [.s c.id,.s c.owner,.s c.state]) (B:=[f]) (C:=l::B) (X:=[y']) (k:=o+3) (m:=1) (by rw[ho];simp) rfl rfl
  exact alB
 obtain⟨CS,eCS⟩:∃CS,A++(cp c f l++B)=CS:=⟨_,rfl⟩;rw[eCS]at hc3 hk lCS e5;refine aw func105 60 [] ?_
 simp only[go_sem,aT];intro i1 h1;simp only[go_sem];intro i2 h2;have n21:=aH h2;have n2:=aA h2;have nk1:k≠i1:=fun e=>by rw[e,h1]at hk;cases hk
 have nk2:k≠i2:=fun e=>by rw[e,n2]at hk;cases hk
 obtain⟨H,eH⟩:∃H,upd (upd h i1 (some (.obj [.s name] 9))) i2 (some (.obj [.i v.kind,.i v.n,.s v.s] 48))=H:=⟨_,rfl⟩;have g1:H i1=some (.obj [.s name] 9):=ag8;have g2:H i2=some (.obj [.i v.kind,.i v.n,.s v.s] 48):=agZ;have gk:H k=some (.obj CS t):=by rw[←eH,ag _ _ nk2,ag _ _ nk1];exact hk
 have hH:Ab.Sub h H:=agw;have hoj:∀j,h j≠none→H j=h j:=fun j hj=>by rw[←eH,ag _ _ (fun e=>hj (by rw[e];exact n2)),ag _ _ (fun e=>hj (by rw[e];exact h1))]
 rw[eH];clear eH;simp only[go_sem,gk,hc3];refine(zx f _ c.fields (fun f=>geB f.name name) _ [.ptr i1 0] _ (hfo.sub hH).rd afB afZ (pR (fun _=>rfl) _) fun i a b=>by rw[afk];exact Mf _ g1).pthen ?_
 have hns:∀G,Ab.Sub cY G:=fun G _ _ e=>afT
 by_cases hx:c.fields.findIdx (fun f=>geB f.name name)<c.fields.length
 ·obtain⟨i,ei⟩:∃i,c.fields.findIdx (fun f=>geB f.name name)=i:=⟨_,rfl⟩
  have hxm:i<(c.fields.map bA).length:=by rw[←ei];simpa using hx
  have e1:ixD (fun f=>geB f.name name) c.fields=(i:Nat):=by rw[ixD,ei];exact if_pos (by rw[←ei];exact hx)
  have d1:decide (((i:Nat):Int)<0)=false:=decide_eq_false afu;rw[e1];simp only[go_sem,d1];refine⟨.of afx,?_⟩;simp only[go_sem,gk,hc3];refine(hfo.sub hH).rd.idx (e:=196) i rfl hxm Ir afy fun p hp1=>?_
  simp only[go_sem];refine hp1.field (f:=0) (off:=0) (t:=9) rfl L6 fun p2 hp2=>?_
  have hld:=hp2.part (U:=U) (ty:=9) L6 (by rw[afk,Pd];exact afi rfl)
  simp only[go_sem,hld,afk,bA,g1];have hxi:i<c.fields.length:=by rw[←ei];exact hx
  cases d2:(c.fields[i].name==name)
  ·have hne:c.fields[i].name≠name:=by simpa using d2
   simp only[go_sem];refine .stage (pick H [k,i1,i2]) [0,1,2,3,4,5,6,7,8,9,10,11,12] [13] bW afx ?_;simp only[go_sem,bE (show k∈ [k,i1,i2] by simp),bE (show i1∈ [k,i1,i2] by simp),bE (show i2∈ [k,i1,i2] by simp),gk,g1,g2,hc3]
   refine(EK f _ (bA ⟨name,v⟩) i h0 H (hfo.sub hH) (hs0.trans hH) afu (by simpa using hff) rfl (by simp[bA,Ab.fit])).mono fun f' H1 ⟨w1,fr,ap⟩=>?_
   have nk:nid f≠some k:=fun e=>mK ((hfo.sub hH).nid e).2.2 gk ht rfl
   have n1' :nid f≠some i1:=fun e=>(hfo.nid e).2.1 h1
   have n2' :nid f≠some i2:=fun e=>(hfo.nid e).2.1 n2
   have gk' :H1 k=some (.obj CS t):=(fr k (by rw[gk];simp) nk).trans gk
   refine⟨jj fun j hj=>?_,?_⟩
   ·simp only[List.mem_cons,List.not_mem_nil,or_false]at hj
    rcases hj with rfl|rfl|rfl
    ·exact fr _ (by rw[gk];simp) nk
    ·exact fr _ (by rw[g1];simp) n1'
    ·exact fr _ (by rw[g2];simp) n2'
   simp only[go_sem];refine⟨cY,hns _,?_⟩;simp only[go_sem,gk',w1.rd.fit,w1.rd.cells];have hk2:nid f'≠some k:=fun e=>by
    rcases ap k e with h|h
    ·rw[gk]at h;cases h
    ·exact nk h
   have em:List.take i (c.fields.map bA)++([bA ⟨name,v⟩]++List.drop i (c.fields.map bA))=(eR c.fields name v).map bA:=by
    rw[Iz hx (by simp only[ei];exact hne),ei]
    simp[List.map_append,List.map_take,List.map_drop]
   rw[e5];rw[em]at w1;refine⟨afu,hns _,.same (.refl _) ⟨f',w1.keep fun id e=>ag _ _ fun e' =>hk2 (by rw[←e'];exact e),ah ..,fun j hj hjk hjl=>?_,fun j hj=>?_⟩⟩
   ·rw[ag _ _ hjk,fr j (by rw[hoj j hj];exact hj) hjl,hoj j hj]
   ·rcases ap j hj with h|h
    ·exact .inl (hH.none h)
    ·exact .inr h
  ·have heq:c.fields[i].name=name:=by simpa using d2
   simp only[go_sem];refine⟨.of afx,?_⟩;simp only[go_sem,gk,g2,hc3];obtain⟨id1,hg1,o1⟩:=(hfo.sub hH).ow (by intro e;rw[e]at hxm;cases hxm)
   have t1:id1≠k:=mK o1 gk ht;have o1' :=o1;obtain⟨cap,rest,ey,hid,hr,hcap,hsz⟩:=o1';refine o1.idx (U:=U) (e:=196) i rfl hxm Ir afy ?_;simp only[go_sem,hid];have hxl:=afk (f:=bA) (l:=c.fields) (i:=i) (h:=hxm);have e2:List.take (i*4+1) (au (c.fields.map bA)++rest)++ [.i v.kind,.i v.n,.s v.s]++List.drop (i*4+1+3) (au (c.fields.map bA)++rest)=au ((eR c.fields name v).map bA)++rest:=by
    refine(kP hsz i hxm 1 [.i v.kind,.i v.n,.s v.s] (afi rfl)).trans ?_;rw[AK hx (by simp only[ei];exact heq),ei,List.map_set,hxl]
    have:AV.agg (over (bA c.fields[i]).cells 1 [.i v.kind,.i v.n,.s v.s])=bA ⟨name,v⟩:=by rw[←heq];rfl
    rw[this]
   have lw:(eR c.fields name v).length=c.fields.length:=by rw[AK hx (by simp only[ei];exact heq),List.length_set]
   rw[e2];refine⟨by rw[afn,aY hsz];omega,.same (.refl _) ⟨f,.inr ⟨id1,hg1,cap,rest,by rw[ey];simp[lw],ah ..,by rw[hr];simp[lw],by rw[afj]at hcap⊢;omega,bx (f:=bA) (n:=4) (fun _=>rfl) _⟩,(ag _ _ t1.symm).trans (by rw[eCS];exact gk),fun j hj hjk hjl=>?_,fun j hj=> .inr hj⟩⟩
   have:j≠id1:=fun e=>hjl (by rw[e];exact o1.nid)
   rw[ag _ _ this,hoj j hj]
 ·have e1:ixD (fun f=>geB f.name name) c.fields= -1:=by rw[ixD];exact if_neg hx
  have d1:decide ((-1:Int)<0)=true:=rfl;rw[e1];simp only[go_sem,d1];refine .stage (pick H [k,i1,i2]) [0,1,2,3,4,5,6,7,8,9,10,11] [12] bW afx ?_;simp only[go_sem,bE (show k∈ [k,i1,i2] by simp),bE (show i1∈ [k,i1,i2] by simp),bE (show i2∈ [k,i1,i2] by simp),gk,g1,g2,hc3]
  have hap1:Rd H 4 (.sl [bA ⟨name,v⟩] .full) [bA ⟨name,v⟩]:=.sl age .full;refine OwE.app (U:=U) (tb:=196) (hfo.sub hH) (hs0.trans hH) hap1 afF afy afz afF afB af4 fun id2 y' h' g3 hor hw ho2=>?_
  have hor' :H id2=none∨nid f=some id2:=by exact akn
  have k2:k≠id2:=by
   rcases hor' with hor|hor
   ·exact fun e=>by rw[←e,gk]at hor;cases hor
   ·exact(mK ((hfo.sub hH).nid hor).2.2 gk ht).symm
  have j1:i1≠id2:=by
   rcases hor' with hor|hor
   ·exact fun e=>by rw[←e,g1]at hor;cases hor
   ·exact fun e=>(hfo.nid hor).2.1 (by rw[←e];exact h1)
  have j2:i2≠id2:=by
   rcases hor' with hor|hor
   ·exact fun e=>by rw[←e,g2]at hor;cases hor
   ·exact fun e=>(hfo.nid hor).2.1 (by rw[←e];exact n2)
  refine⟨jj fun j hj=>ho2 j ?_,?_⟩
  ·simp only[List.mem_cons,List.not_mem_nil,or_false]at hj
   rcases hj with rfl|rfl|rfl
   ·exact k2
   ·exact j1
   ·exact j2
  have gk' :=(ho2 k k2).trans gk;simp only[go_sem];refine⟨cY,hns _,?_⟩;simp only[go_sem,gk',hw.rd.fit,hw.rd.cells];rw[e5,Iy hx];refine⟨afu,hns _,.same (.refl _) ⟨y',?_,ah ..,fun j hj hjk hjl=>?_,fun j hj=>?_⟩⟩
  ·have hw' :Ow 196 (upd h' k (some (.obj (A++(cp c y' l++B)) t))) 4 id2 y' (c.fields.map bA++ [bA ⟨name,v⟩]):=hw.same (ag _ _ k2.symm)
   rw[List.map_append];exact .inr ⟨id2,g3,hw'⟩
  ·have hj2:j≠id2:=by
    rcases hor' with hor|hor
    ·intro e
     have:=hoj j hj;rw[e,hor]at this;exact hj (by rw[e];exact this.symm)
    ·exact fun e=>hjl ajq
   rw[ag _ _ hjk,ho2 j hj2,hoj j hj]
  ·have:id2=j:=by have:=hw.nid;rw[hj]at this;exact(Option.some.inj this).symm
   rw[←this];rcases hor' with hor|hor
   ·exact .inl (hH.none hor)
   ·exact .inr hor
theorem DV{id:Txt}(h:ck cs id=true):bw cs id=cs[findD cs id]'(j0 h):=by simp_all [bw,if_pos,List.getD_eq_getElem?_getD,List.getElem?_eq_getElem,j0]
theorem DW{id:Txt}(h:ck cs id=false):bw cs id=pN:=by simp_all [bw,if_neg]
theorem ng{g h:Heap}{p:Perm}:Frz g h (.sl [] p) (.sl [] .no):=.sl _ _ _ rfl afu afB
theorem Eu{g h:Heap}(c:aL):Frz g h (cr c) (cr c):=.agg _ _ rfl fun j a b=>by
 rcases j with _|_|_|_|_|j
 ·exact afO
 ·exact afO
 ·exact afO
 ·exact .pure (show cN (gS c.fields)=true from bn (fun _=>rfl) c.fields)
 ·exact .pure (show cN (tE c.log)=true from bn (fun _=>rfl) c.log)
 ·simp[om]at a;omega
theorem CQ{h:Heap}(hb:RdS h x s)(id:Txt)(hf:Few s):ai prog 49 [x,.s id] h fun r h' =>r= .tup [cr (bw s.cases id),.b (ck s.cases id)]∧h' =h:=
 ai.freeze fun g hg _=>by
 replace hb:=hb.sub hg;have hb0:=hb;obtain⟨y1,y2,y3,y4,rfl,⟨xs,hc,hn,hcs⟩,h2,h3,h4⟩:=hb;cases hpp:s.policy with
 |mk pid pset palg ptgt prules pkids pobls=>
 have hcC:gD (.mk pid pset palg ptgt prules pkids pobls)= [.s pid,.b pset,.i palg,aU ptgt,.sl (prules.map aC) .no,.sl (pkids.map aM) .no,ay pobls]:=aiA;rw[hpp,hcC]at hb0;refine aw func49 23 [.cell 4 120,.tmp 5] ?_
 simp only[go_sem,hcC,List.cons_append,List.nil_append];intro i1 h1;simp only[go_sem];intro i2 h2';have n21:=aH h2';have n2:=aA h2';simp only[go_sem,ak,n21.symm];have hs:∀a b,Ab.Sub g (upd (upd g i1 a) i2 b):=fun a b=>((Sub.refl g).put h1 a).put n2 b
 refine(CY (hb0.sub (hs _ _)) id hf.cases).pthen ?_;cases d1:ck s.cases id
 ·simp only[go_sem]
  refine .mk _ (.refl _) (.refl _) ⟨hs _ _,.tup [.agg [.s [],.s [],.s [],.sl [] .no,.sl [] .no],.b false],.tup _ _ rfl fun i a b=>?_,by rw[DW d1];rfl⟩
  rcases i with _|_|i
  ·refine .agg _ _ rfl fun j c d=>?_
   rcases j with _|_|_|_|_|j
   ·exact afO
   ·exact afO
   ·exact afO
   ·exact ng
   ·exact ng
   grind
  ·exact afO
  grind
 ·have hlt:=j0 d1
  have hltx:findD s.cases id<xs.length:=afu;obtain⟨f,l,ex,hfl,hlg⟩:=hcs _ hltx hlt;simp only[go_sem,ak,n21.symm];refine hc.idx (e:=120) (findD s.cases id) rfl hltx oH afy fun p hp1=>?_
  have hld:=fun a b=>(hp1.sub (hs a b)).all (U:=U) (ty:=120) afy (by rw[oH,ex];rfl) (by simp only[go_sem];rw[ex];rfl)
  simp only[go_sem,hld];refine(xx ((hcs _ hltx hlt).sub (hs _ _)) (hf.fields _ (afo hlt)) (hf.log _ (afo hlt))).pthen ?_;rw[←DV d1];simp only[go_sem,cr,om,gS,tE];refine .mk _ (.refl _) (.refl _) ⟨hs _ _,_,.tup _ _ rfl fun i a b=>?_,rfl⟩
  rcases i with _|_|i
  ·exact Eu _
  ·exact afO
  grind
theorem Dr{h:Heap}(hb:RdS h x s)(o:OpD)(hf:Few s):ai prog 84 [x,opA o] h fun r h' =>r= .i (bY s o)∧h' =h:=by
 have hb0:=hb;obtain⟨y1,y2,y3,y4,rfl,⟨xs,hc,hn,hcs⟩,h2,h3,h4⟩:=hb;cases hpp:s.policy with
 |mk pid pset palg ptgt prules pkids pobls=>
 have hcC:gD (.mk pid pset palg ptgt prules pkids pobls)= [.s pid,.b pset,.i palg,aU ptgt,.sl (prules.map aC) .no,.sl (pkids.map aM) .no,ay pobls]:=aiA;rw[hpp,hcC]at hb0;refine aw func84 67 [.tmp 4] ?_
 simp only[go_sem,hcC,opA,opC,List.cons_append,List.nil_append];intro i1 h1;simp only[go_sem];intro i2 h2';have n21:=aH h2';have n2:=aA h2';simp only[go_sem,ak,n21.symm];have hs:∀a b,Ab.Sub h (upd (upd h i1 a) i2 b):=fun a b=>((Sub.refl h).put h1 a).put n2 b
 refine(CQ (hb0.sub (hs _ _)) o.case hf).pthen ?_;simp only[go_sem,cr,om,gS,tE];intro i3 h3';have n32:=aH h3';have h3b:=aA h3';have n31:=aH h3b;have n3:=aA h3b;have hs3:∀a b d,Ab.Sub h (upd (upd (upd h i1 a) i2 b) i3 d):=fun a b d=>(((Sub.refl h).put h1 a).put n2 b).put n3 d
 have hA:=(fun a b d=>Sub.trans (Sub.refl h) (hs3 a b d))
 simp only[go_sem,ak,n32.symm];have hfl:(bw s.cases o.case).fields.length≤1000000000:=by
  unfold bw;split
  ·rename_i ht
   have hlt:=j0 ht;rw[List.getD_eq_getElem?_getD,List.getElem?_eq_getElem hlt];exact Nat.le_trans (hf.fields _ (afo hlt)) afy
  decide
 cases d1:ck s.cases o.case
 ·simp only[go_sem]
  exact .mk _ (.refl _) (hs3 _ _ _) ⟨by simp only[bY,d1];rfl,rfl⟩
 ·simp only[go_sem,ak,n32.symm]
  cases k3:(o.kind==3)
  ·have p3:o.kind≠3:=by grind
   simp only[go_sem];cases k2:(o.kind==2)
   ·have p2:o.kind≠2:=by grind
    have k2n:(o.kind !=2)=true:=afv;cases d256:decide ((256:Int)≤((bw s.cases o.case).log.length:Int))
    ·have p256:¬256≤(bw s.cases o.case).log.length:=by grind
     simp only[go_sem,ak,n32.symm,afj,k3,k2n,d256];cases k4:(o.kind==4)
     ·have p4:o.kind≠4:=by grind
      exact ajX
     ·have p4:o.kind=4:=by grind
      simp only[go_sem,ak,n32.symm];refine(GV _ _ _).pthen ?_;cases dfo:nH (bw s.cases o.case).state o.to
      ·exact ajX
      ·exact ajX
    ·have p256:256≤(bw s.cases o.case).log.length:=by grind
     simp only[go_sem,afj,k2n,d256];exact .mk _ (.refl _) (hs3 _ _ _) ⟨ahe,rfl⟩
   ·have p2:o.kind=2:=by grind
    have k2n:(o.kind !=2)=false:=afv;simp only[go_sem,ak,n32.symm,k3,k2n];cases k4:(o.kind==4)
    ·have p4:o.kind≠4:=by omega
     exact ajX
    ·have p4:o.kind=4:=by grind
     omega
  ·have p3:o.kind=3:=by grind
   cases d16:decide ((16:Int)≤((bw s.cases o.case).fields.length:Int))
   ·have p16:¬16≤(bw s.cases o.case).fields.length:=by grind
    simp only[go_sem,afj,d16];exact ajN
   ·have p16:16≤(bw s.cases o.case).fields.length:=by grind
    simp only[go_sem,ak,n32.symm,afj,d16];refine(Em (show RdC _ (.agg [.s (bw s.cases o.case).id,.s (bw s.cases o.case).owner,.s (bw s.cases o.case).state,AV.sl ((bw s.cases o.case).fields.map bA) .no,AV.sl ((bw s.cases o.case).log.map gC) .no]) (bw s.cases o.case)from rdC _ _) o.field hfl).pthen ?_
    simp only[go_sem,aT];cases dv:((dZ (bw s.cases o.case).fields o.field).kind==(0:Int) && ((dZ (bw s.cases o.case).fields o.field).n==(0:Int) && (dZ (bw s.cases o.case).fields o.field).s==([]:Txt)))
    ·have pv:eqV (dZ (bw s.cases o.case).fields o.field) aq=false:=dv
     simp only[go_sem];exact ajN
    ·have pv:eqV (dZ (bw s.cases o.case).fields o.field) aq=true:=dv
     exact ajX
theorem Ba{h:Heap}(hb:RdS h x s)(o:OpD)(hf:Few s)(h0:0<o.review)(hr:o.review≤9223372036854775807):ai prog 85 [x,opA o] h fun r h' =>r= .i (fC s o)∧h' =h:=by
 obtain⟨y1,y2,y3,y4,rfl,⟨xs,hc,hn,hcs⟩,h2,h3,h4⟩:=hb;cases hpp:s.policy with
 |mk pid pset palg ptgt prules pkids pobls=>
 have hcC:gD (.mk pid pset palg ptgt prules pkids pobls)= [.s pid,.b pset,.i palg,aU ptgt,.sl (prules.map aC) .no,.sl (pkids.map aM) .no,ay pobls]:=aiA;have hfr:=hf.reviews;refine aw func85 35 [.tmp 4] ?_
 simp only[go_sem,hcC,opA,opC,List.cons_append,List.nil_append];intro i1 h1;simp only[go_sem];intro i2 h2';have n21:=aH h2';have n2:=aA h2';have hs:∀a b,Ab.Sub h (upd (upd h i1 a) i2 b):=fun a b=>((Sub.refl h).put h1 a).put n2 b
 simp only[go_sem,ak,n21.symm,h2.len,afj];obtain⟨n,en⟩:∃n:Nat,o.review=((n:Nat):Int)+1:=⟨(o.review - 1).toNat,afu⟩;have e1:xA s.reviews o.review=s.reviews[n]? :=by unfold xA;rw[if_pos afu,show(o.review - 1).toNat=n by omega]
 have w1:IntKind.i64.wrap (o.review - 1)=((n:Nat):Int):=afG;cases dlt:decide ((s.reviews.length:Int)<o.review)
 ·have hlt:n<s.reviews.length:=by grind
  have hgl:xA s.reviews o.review=some s.reviews[n]:=afv;simp only[go_sem,ak,n21.symm,w1];refine h2.idx (e:=134) n rfl afv afJ afy fun p hp1=>?_
  simp only[go_sem];refine hp1.field (f:=6) (off:=6) (t:=4) rfl afy fun p2 hp2=>?_
  have hld:=fun a b=>(hp2.sub (hs a b)).part (U:=U) (ty:=4) afy (by rw[afk,show(U 4).sz=1 by rfl];exact afi rfl)
  simp only[go_sem,hld,afk,gH];cases dop:s.reviews[n].isOpen
  ·exact akq
  ·simp only[go_sem,ak,n21.symm]
   refine⟨.of afx,?_⟩;simp only[go_sem,w1];refine h2.idx (e:=134) n rfl afv afJ afy fun p hp1=>?_
   simp only[go_sem];refine hp1.field (f:=2) (off:=2) (t:=9) rfl L6 fun p2 hp2=>?_
   have hld:=fun a b=>(hp2.sub (hs a b)).part (U:=U) (ty:=9) L6 (by rw[afk,Pd];exact afi rfl)
   simp only[go_sem,hld,afk,gH];cases dsu:(s.reviews[n].subj==o.subj)
   ·have psu:s.reviews[n].subj≠o.subj:=by grind
    exact akq
   ·have psu:s.reviews[n].subj=o.subj:=by grind
    exact akq
 ·have hge:¬n<s.reviews.length:=by grind
  have hgn:xA s.reviews o.review=none:=afv;exact akq
theorem FC{h:Heap}(hb:RdS h x s)(o:OpD)(hf:Few s)(hr:i64 o.review)(ht:i64 s.tick):ai prog 40 [x,opA o] h fun r h' =>r= .i (bL s o)∧h' =h:=by
 have hb0:=hb;have hfo:=C0 o;have hrc:=fun(G:Heap) (hG:Ab.Sub h G)=>Dr (hb.sub hG) o hf
 have hrl:=fun(G:Heap) (hG:Ab.Sub h G) (a:0<o.review)=>Ba (hb.sub hG) o hf a hr.2
 have hfi:=fun(G:Heap) (hG:Ab.Sub h G)=>CY (hb.sub hG) o.case hf.cases
 have hha:=fun(G:Heap) (hG:Ab.Sub h G)=>Hg (hb.sub hG) o.case o.field (Nat.le_trans hf.roles afy)
 obtain⟨y1,y2,y3,y4,rfl,⟨xs,hc,hn,hcs⟩,h2,h3,h4⟩:=hb;cases hpp:s.policy with
 |mk pid pset palg ptgt prules pkids pobls=>
 have hcC:gD (.mk pid pset palg ptgt prules pkids pobls)= [.s pid,.b pset,.i palg,aU ptgt,.sl (prules.map aC) .no,.sl (pkids.map aM) .no,ay pobls]:=aiA;rw[hpp,hcC]at hb0 hrc hrl hfi hha;simp only[opA,opC,List.cons_append,List.nil_append]at hfo hrc hrl hfi hha;refine aw func40 63 [.tmp 4] ?_
 simp only[go_sem,hcC,opA,opC,List.cons_append,List.nil_append];intro i1 h1;simp only[go_sem];intro i2 h2';have n21:=aH h2';have n2:=aA h2';have hs:∀a b,Ab.Sub h (upd (upd h i1 a) i2 b):=fun a b=>((Sub.refl h).put h1 a).put n2 b
 simp only[go_sem];refine(hfo _).pthen ?_;cases dform:dK o
 ·exact ajU
 ·simp only[go_sem]
  have hok:okD o=true:=by simp_all [dK,ew,Bool.and_eq_true]
  by_cases p1:o.kind=1
  ·have k1:(o.kind==1)=true:=by grind
   simp only[go_sem,ak,n21.symm,k1];refine(hfi _ (hs _ _)).pthen ?_;cases dth:ck s.cases o.case
   ·simp only[go_sem,ak,n21.symm,hc.len,hn]
    cases d64:decide ((64:Int)≤(s.cases.length:Int))
    ·have p64:¬64≤s.cases.length:=by grind
     exact ajU
    ·have p64:64≤s.cases.length:=by grind
     exact ajU
   ·exact ajU
  have k1:(o.kind==1)=false:=afv;simp only[go_sem,k1]
  by_cases p2:o.kind=2
  ·have k2:(o.kind==2)=true:=by grind
   simp only[go_sem,ak,n21.symm,k2];refine(hrc _ (hs _ _)).pthen ?_;exact ajU
  have k2:(o.kind==2)=false:=afv;simp only[go_sem,k2]
  by_cases p3:o.kind=3
  ·have k3:(o.kind==3)=true:=by grind
   simp only[go_sem,ak,n21.symm,k3];refine(hrc _ (hs _ _)).pthen ?_;exact ajU
  have k3:(o.kind==3)=false:=afv;simp only[go_sem,k3]
  by_cases p4:o.kind=4
  ·have k4:(o.kind==4)=true:=by grind
   simp only[go_sem,ak,n21.symm,k4];refine(hrc _ (hs _ _)).pthen ?_;exact ajU
  have k4:(o.kind==4)=false:=afv;simp only[go_sem,k4]
  by_cases p5:o.kind=5
  ·have k5:(o.kind==5)=true:=by grind
   simp only[go_sem,ak,n21.symm,k5];have hrv:0<o.review:=by grind [okD]
   refine(hrl _ (hs _ _) hrv).pthen ?_;exact ajU
  have k5:(o.kind==5)=false:=afv;simp only[go_sem,k5]
  by_cases p6:o.kind=6
  ·have k6:(o.kind==6)=true:=by grind
   simp only[go_sem,ak,n21.symm,k6];simp only[go_sem,h4.len,afj];cases d64:decide ((64:Int)≤(s.roles.length:Int))
   ·have p64:¬64≤s.roles.length:=by grind
    exact ajU
   ·have p64:64≤s.roles.length:=by grind
    simp only[go_sem,ak,n21.symm];refine(hha _ (hs _ _)).pthen ?_;cases dha:zn s.roles ⟨o.case,o.field⟩
    ·exact ajU
    ·exact ajU
  have k6:(o.kind==6)=false:=afv;simp only[go_sem,k6]
  by_cases p8:o.kind=8
  ·have k8:(o.kind==8)=true:=by grind
   simp only[go_sem,ak,n21.symm,k8];have hrv:0<o.review∧o.review≤1099511627776:=by grind [okD]
   have w1:IntKind.i64.wrap (1099511627776 - o.review)=1099511627776 - o.review:=aW _ afu;cases dt:decide (1099511627776 - o.review<s.tick)
   ·have pt:¬1099511627776 - o.review<s.tick:=afm dt
    simp only[go_sem,w1,dt];exact .mk _ (.refl _) (hs _ _) ⟨ag3,rfl⟩
   ·have pt:1099511627776 - o.review<s.tick:=afl dt
    simp only[go_sem,w1,dt];exact .mk _ (.refl _) (hs _ _) ⟨ag3,rfl⟩
  have k8:(o.kind==8)=false:=afv;simp only[go_sem,k8];exact .mk _ (.refl _) (hs _ _) ⟨by have:¬(2≤o.kind∧o.kind≤4):=afu;simp only[bL,dform,p1,p5,p6,p8,this,if_false,Bool.true_eq_false,ax],rfl⟩
end Go.Proofs.YtelkmnkejghkeaaGreatDoor
namespace Go.Bf
open Go Go.Ab
variable {s:Txt}
structure qO where
 kind:Int
 pos:Int
 n:Int
 s:Txt
variable {ts:List qO}
def fN(t:qO):AV:=.agg [.i t.kind,.i t.pos,.i t.n,.s t.s]
def wrd(c:UInt8):Bool:=ltr c||dgt c||(c.toNat:Int)==95
def mQ(l:Txt):Nat:=l.foldl (fun n c=>n*10+(c.toNat - 48)) 0
def fh(neg:Bool)(s:Txt):Int×Nat:=
 let d:=s.takeWhile dgt
 if d= []∨(1<d.length∧s.head? =some 48)then(0,0)else
 let v:Int:=if neg then -(mQ d:Int)else(mQ d:Int)
 if -9223372036854775808≤v∧v≤9223372036854775807 then(v,d.length)else(0,0)
def j3(s:Txt):Txt:=if bp (s.takeWhile wrd)then s.takeWhile wrd else []
def j4(c:UInt8):Int:=if dgt c then(c.toNat:Int) - 48 else if 97≤(c.toNat:Int)∧(c.toNat:Int)≤102 then(c.toNat:Int) - 87 else -1
def uG:Txt→Option UInt8
 |b::x::y::_=>if b=92∧0≤j4 x∧0≤j4 y∧uF (UInt8.ofNat (16*j4 x+j4 y).toNat)=true then some (UInt8.ofNat (16*j4 x+j4 y).toNat)else none
 |_=>none
def ve:Nat→Txt→Nat→Txt→Txt×Nat
 |0,_,_,_=>([],0)
 |_+1,[],_,_=>([],0)
 |f+1,c::r,at_,out=>
  if c=34 then(if 64<out.length then([],0)else(out,at_+1))
  else if uF c=false then ve f r (at_+1) (out++ [c])
  else match uG (c::r)with
   |some b=>ve f (r.drop 2) (at_+3) (out++ [b])
   |none=>([],0)
def Az(s:Txt):Txt×Nat:=ve s.length (s.drop 1) 1 []
def E0(c:UInt8):Bool:=c∈([123,125,40,41,46,44,59,61,60,62,33]:Txt)
def bR(s:Txt):qO×Nat:=
 let c:=s.headD 0
 if ltr c then(⟨1,0,0,j3 s⟩,(j3 s).length)
 else if dgt c then(⟨2,0,(fh false s).1,[]⟩,(fh false s).2)
 else if c=45 then(⟨2,0,(fh true (s.drop 1)).1,[]⟩,if(fh true (s.drop 1)).1=0 then 0 else(fh true (s.drop 1)).2+1)
 else if c=64 then(⟨3,0,(fh false (s.drop 1)).1,[]⟩,if(fh false (s.drop 1)).2=0∨(fh false (s.drop 1)).1>1099511627776 then 0 else(fh false (s.drop 1)).2+1)
 else if c=35 then(⟨4,0,0,j3 (s.drop 1)⟩,if j3 (s.drop 1)= []then 0 else(j3 (s.drop 1)).length+1)
 else if c=34 then(⟨5,0,0,(Az s).1⟩,(Az s).2)
 else if E0 c then(⟨6,0,0,[c]⟩,1)
 else(⟨0,0,0,[]⟩,0)
inductive Lexed where
 |bad (e:Int) (at_:Int)
 |ok (l:List qO)
def ri(c:UInt8):Bool:=(c.toNat:Int)==32||(c.toNat:Int)==10
def qR:Nat→Txt→Nat→List qO→Lexed
 |0,_,at_,_=> .bad 5 at_
 |_+1,[],at_,out=> .ok (out++ [⟨7,at_,0,[]⟩])
 |f+1,c::r,at_,out=>
  if ri c then qR f r (at_+1) out
  else if(bR (c::r)).2=0 then .bad 5 at_
  else qR f ((c::r).drop (bR (c::r)).2) (at_+(bR (c::r)).2) (out++ [{(bR (c::r)).1 with pos:=at_}])
def qg(s:Txt):Lexed:=if s.length>4096 then .bad 6 4096 else qR (s.length+1) s 0 []
theorem kT(p:UInt8→Bool)(s:Txt):(s.takeWhile p).length≤s.length:=(List.takeWhile_prefix p).length_le
theorem si(p:UInt8→Bool)(s:Txt):s.take (s.takeWhile p).length=s.takeWhile p:=by
 obtain⟨t,ht⟩:=List.takeWhile_prefix (l:=s) p
 grind
theorem qo(neg:Bool)(s:Txt):(fh neg s).2≤s.length:=by
 have:=kT dgt s;unfold fh;simp only;split
 ·exact ahA
 ·generalize (if neg=true then -(mQ (s.takeWhile dgt):Int)else(mQ (s.takeWhile dgt):Int))=v
  split
  ·exact agc
  ·exact ahA
theorem vm(s:Txt):(j3 s).length≤s.length:=by grind [kT,wrd,j3]
theorem E8{b:UInt8}(h:uG s=some b):3≤s.length:=by
 match s,h with
 |_::_::_::_,_=>simp
theorem AA:∀(f:Nat) (r:Txt) (at_:Nat) (out:Txt),(ve f r at_ out).2≤at_+r.length
 |0,_,_,_=>by simp[ve]
 |_+1,[],_,_=>by simp[ve]
 |f+1,c::r,at_,out=>by
  simp only[ve];split
  ·grind
  ·split
   ·have:=AA f r (at_+1) (out++ [c]);simp only[List.length_cons];omega
   ·split
    ·rename_i b hb
     have h3:=E8 hb;have:=AA f (r.drop 2) (at_+3) (out++ [b]);simp only[List.length_cons,List.length_drop]at this h3⊢;omega
    ·simp
theorem tc(s:Txt)(hs:s≠ []):(bR s).2≤s.length:=by
 have h1:1≤s.length:=afv;have hd:(s.drop 1).length=s.length - 1:=afB;have k1:=vm s;have k2:=vm (s.drop 1);have k3:=qo false s;have k4:=qo false (s.drop 1);have k5:=qo true (s.drop 1);have k6:=AA s.length (s.drop 1) 1 [];unfold bR;simp only;split
 ·exact k1
 split
 ·exact k3
 split
 ·simp only;split<;>omega
 split
 ·simp only;split<;>omega
 split
 ·simp only;split<;>omega
 split
 ·simp only[Az];omega
 split
 ·simp only;omega
 ·simp
structure PS where
 ts:List qO
 pos:Nat
 rules:Nat
 bad:Int
 place:Int
variable {st c:PS}
def aN(st:PS):qO:=st.ts.getD st.pos ⟨7,0,0,[]⟩
def bJ(st:PS)(e p:Int):PS:=if st.bad=0 then {st with bad:=e,place:=p} else st
def br(st:PS):PS:=bJ st 5 (aN st).pos
def bG(st:PS)(more:Bool):PS:=if more then bJ st 6 (aN st).pos else st
def isD(st:PS)(s:Txt):Bool:=st.bad==0 && ((aN st).s==s && ((aN st).kind==1||(aN st).kind==6))
def bl(st:PS):PS:={st with pos:=st.pos+1}
def cu(st:PS)(s:Txt):Bool×PS:=if isD st s=true then(true,bl st)else(false,st)
def eJ(st:PS)(s:Txt):PS:=if isD st s=true then bl st else br st
def ct(st:PS):Txt×PS:=
 if(aN st).kind=1∧st.bad=0 then((aN st).s,bl st)else([],if(aN st).kind=1 then st else br st)
def vN(s:Txt):List Txt→Option Nat
 | []=>none
 |w::r=>if w=s then some 0 else(vN s r).map (· +1)
def aZ(st:PS)(ws:List Txt):Int×PS:=match vN (aN st).s ws with
 |some i=>if(aN st).kind=1∧st.bad=0 then((i:Int)+1,bl st)else(0,br st)
 |none=>(0,br st)
def WfP(st:PS):Prop:=st.pos<st.ts.length∧(∀i (h:i<st.ts.length),st.ts[i].kind≠7→i+1<st.ts.length)∧st.ts.length≤5000
theorem ED(h:st.pos<st.ts.length):aN st=st.ts[st.pos]:=by grind [aN,List.getElem?_eq_getElem]
theorem Me(e p:Int)(h:WfP st):WfP (bJ st e p):=by unfold bJ;split<;>exact h
theorem Pq(h:WfP st)(hk:(aN st).kind≠7):WfP (bl st):=by rw[ED h.1]at hk;exact⟨h.2.1 _ h.1 hk,h.2⟩
theorem dU(h:isD st s=true):(aN st).kind≠7:=by simp only[isD,Bool.and_eq_true,Bool.or_eq_true,beq_iff_eq]at h;omega
def Ah(st st' :PS):Prop:=WfP st'∧st'.ts=st.ts∧st.pos≤st'.pos
theorem Ah.refl(h:WfP st):Ah st st:=⟨h,rfl,Nat.le_refl _⟩
theorem Ah.trans{a b:PS}(x:Ah a b)(y:Ah b c):Ah a c:=⟨y.1,y.2.1.trans x.2.1,Nat.le_trans x.2.2 y.2.2⟩
theorem yL(e p:Int)(h:WfP st):Ah st (bJ st e p):=⟨Me e p h,by grind [bJ],by unfold bJ;grind⟩
theorem fo(h:WfP st)(hk:(aN st).kind≠7):Ah st (bl st):=⟨Pq h hk,rfl,Nat.le_succ _⟩
theorem o7(h:WfP st):Ah st (br st):=yL _ _ h
theorem lS(b:Bool)(h:WfP st):Ah st (bG st b):=by
 unfold bG;split
 ·grind [yL]
 ·exact ahS
theorem PT(s:Txt)(h:WfP st):Ah st (cu st s).2:=by
 unfold cu;split
 ·grind [fo,dU]
 ·exact ahS
theorem jE(s:Txt)(h:WfP st):Ah st (eJ st s):=by grind [eJ,fo,dU,o7]
theorem oc(h:WfP st):Ah st (ct st).2:=by
 unfold ct;split
 ·grind [fo]
 ·simp only;split
  ·exact ahS
  grind [o7]
theorem gX(ws:List Txt)(h:WfP st):Ah st (aZ st ws).2:=by grind [aZ,fo,o7]
def wL:List Txt:=[[115,117,98,106,101,99,116],[97,99,116,105,111,110],[99,97,115,101],[101,110,118]]
def gA(st:PS):qU×PS:=
 (⟨(aZ st wL).1,(ct (eJ (aZ st wL).2 [46])).1,(cu (ct (eJ (aZ st wL).2 [46])).2 [33]).1⟩,(cu (ct (eJ (aZ st wL).2 [46])).2 [33]).2)
theorem CG(h:WfP st):Ah st (gA st).2:=by have h1:=gX wL h;have h2:=jE [46] h1.1;have h3:=oc h2.1;exact((h1.trans h2).trans h3).trans (PT [33] h3.1)
def xK:Txt:=[116,114,117,101]
def rF:Txt:=[102,97,108,115,101]
def gz(st:PS):bu×PS:=
 if(aN st).kind=2 then(⟨2,(aN st).n,(aN st).s⟩,st)
 else if(aN st).kind=3 then(⟨4,(aN st).n,(aN st).s⟩,st)
 else if(aN st).kind=4 then(⟨5,(aN st).n,(aN st).s⟩,st)
 else if(aN st).kind=5 then(⟨3,(aN st).n,(aN st).s⟩,st)
 else if isD st xK then(⟨1,1,[]⟩,st)
 else if isD st rF then(⟨1,0,[]⟩,st)
 else(⟨0,(aN st).n,(aN st).s⟩,br st)
def aD(st:PS):bu×PS:=if(gz st).2.bad=0 then((gz st).1,bl (gz st).2)else(⟨0,0,[]⟩,(gz st).2)
theorem sI(st:PS):(br st).bad≠0:=by grind [br,bJ,Int]
theorem vi(st:PS):(gz st).2=st∧(aN st).kind≠7∨(gz st).2=br st:=by
 unfold gz;split
 ·grind
 split
 ·grind
 split
 ·grind
 split
 ·grind
 split
 ·rename_i h;exact .inl ⟨rfl,dU h⟩
 split
 ·rename_i h;exact .inl ⟨rfl,dU h⟩
 simp
theorem DM(h:WfP st):Ah st (aD st).2:=by
 unfold aD;rcases vi st with⟨e,hk⟩|e
 ·rw[e];split
  ·grind [fo]
  ·exact ahS
 simp_all [if_neg,sI,o7]
def opP(st:PS):Int×PS:=
 if isD st [61]then(1,bl st)else if isD st [60]then(2,bl st)else if isD st [62]then(3,bl st)else(0,br st)
theorem We(h:WfP st):Ah st (opP st).2:=by grind [opP,fo,dU,o7]
def gU(st:PS):bO×PS:=(⟨(gA st).1,(opP (gA st).2).1,(aD (opP (gA st).2).2).1⟩,(aD (opP (gA st).2).2).2)
theorem qW(h:WfP st):Ah st (gU st).2:=by have h1:=CG h;have h2:=We h1.1;exact(h1.trans h2).trans (DM h2.1)
def gq{α:Type}(one:PS→α×PS)(w:Txt)(most:Nat):Nat→PS→List α→List α×PS
 |0,st,l=>(l,st)
 |f+1,st,l=>if isD st w=true then gq one w most f (bG (one (bl st)).2 (decide (most<l.length+1))) (l++ [(one (bl st)).1])else(l,st)
theorem tZ{α:Type}{one:PS→α×PS}(ho:∀st,WfP st→Ah st (one st).2)(w:Txt)(most:Nat):∀(f:Nat) (st:PS) (l:List α),WfP st→Ah st (gq one w most f st l).2
 |0,st,l,h=> .refl h
 |f+1,st,l,h=>by
  unfold gq;split
  ·rename_i hi
   have h1:=fo h (dU hi);have h2:=ho _ h1.1;have h3:=lS (decide (most<l.length+1)) h2.1;exact((h1.trans h2).trans h3).trans (tZ ho w most f _ _ h3.1)
  ·exact ahS
def orT:Txt:=[111,114]
def DO:Txt:=[97,110,100]
def F3:Txt:=[119,104,101,110]
def qP(st:PS):List bO×PS:=gq gU [44] 8 st.ts.length (gU st).2 [(gU st).1]
theorem CE(h:WfP st):Ah st (qP st).2:=(qW h).trans (tZ (fun _ h=>qW h) _ _ _ _ _ (qW h).1)
def sO(st:PS):List (List bO)×PS:=
 let a:=qP (eJ st [40])
 let m:=gq qP orT 8 st.ts.length a.2 [a.1]
 (m.1,eJ m.2 [41])
theorem CF(h:WfP st):Ah st (sO st).2:=by
 have h0:=jE [40] h;have h1:=CE h0.1;have h2:=tZ (fun _ h=>CE h) orT 8 st.ts.length _ [(qP (eJ st [40])).1] h1.1
 exact((h0.trans h1).trans h2).trans (jE [41] h2.1)
def iC(st:PS):gu×PS:=if isD st F3=true then gq sO DO 8 st.ts.length (sO (bl st)).2 [(sO (bl st)).1]else([],st)
theorem CK(h:WfP st):Ah st (iC st).2:=by
 unfold iC;split
 ·rename_i hi
  have h0:=fo h (dU hi);have h1:=CF h0.1;exact(h0.trans h1).trans (tZ (by grind [CF]) _ _ _ _ _ h1.1)
 ·exact ahS
def mC:List Txt:=[[111,110,101],[115,105,122,101],[104,97,115],[101,113],[108,101,115,115],[97,100,100],[115,117,98],[109,117,108],[110,111,116],[97,110,100],[111,114]]
def opers(op:Int):List Bool:=if op=3∨op=4 then [true]else if op=5 then [true,false]else if op=11 then [false]else [false,false]
abbrev ExF:=PS→List aP→(List aP×Bool)×PS
variable {ex:ExF}
def iU(ex:ExF)(st:PS)(l:List aP)(must:Bool):List aP×PS:=
 ((ex st l).1.1,if(ex st l).1.2=must then(ex st l).2 else bJ (ex st l).2 5 (aN st).pos)
def jN(ex:ExF):List Bool→PS→List aP→List aP×PS
 | [],st,l=>(l,st)
 |b::bs,st,l=>if st.bad=0 then jN ex bs (iU ex st l b).2 (iU ex st l b).1 else(l,st)
def rH(ex:ExF)(st:PS)(l:List aP):(List aP×aP)×PS:=
 (((jN ex (opers (2+(aZ st mC).1)) (aZ st mC).2 l).1,⟨2+(aZ st mC).1,⟨0,0,[]⟩,⟨0,[],false⟩⟩),eJ (jN ex (opers (2+(aZ st mC).1)) (aZ st mC).2 l).2 [41])
def jz(ex:ExF)(st:PS)(l:List aP):(List aP×aP)×PS:=
 if isD st [40]=true then rH ex (bl st) l
 else if(aN st).kind=1∧(aN st).s≠xK∧(aN st).s≠rF then((l,⟨2,⟨0,0,[]⟩,(gA st).1⟩),(gA st).2)
 else((l,⟨1,(aD st).1,⟨0,[],false⟩⟩),(aD st).2)
def eW:Nat→ExF
 |0,st,l=>((l,false),st)
 |f+1,st,l=>(((jz (eW f) st l).1.1++ [(jz (eW f) st l).1.2],(jz (eW f) st l).1.2.op==2),bG (jz (eW f) st l).2 (decide (32<(jz (eW f) st l).1.1.length+1)))
def F9(ex:ExF):Prop:=∀st l,WfP st→Ah st (ex st l).2∧(ex st l).1.1.length+2*st.pos≤l.length+2*(ex st l).2.pos+1
theorem zU(he:F9 ex)(st:PS)(l:List aP)(b:Bool)(h:WfP st):Ah st (iU ex st l b).2∧(iU ex st l b).1.length+2*st.pos≤l.length+2*(iU ex st l b).2.pos+1:=by
 obtain⟨h1,h2⟩:=he st l h;unfold iU;split
 ·grind
 ·refine⟨h1.trans (yL _ _ h1.1),?_⟩
  grind [bJ,aN]
theorem B2{ex:ExF}(he:F9 ex):∀(bs:List Bool) (st:PS) (l:List aP),WfP st→Ah st (jN ex bs st l).2∧(jN ex bs st l).1.length+2*st.pos≤l.length+2*(jN ex bs st l).2.pos+bs.length
 | [],st,l,h=>⟨.refl h,by simp[jN]⟩
 |b::bs,st,l,h=>by
  unfold jN;split
  ·obtain⟨h1,h2⟩:=zU he st l b h
   obtain⟨h3,h4⟩:=B2 he bs (iU ex st l b).2 (iU ex st l b).1 h1.1;exact⟨h1.trans h3,afv⟩
  ·exact⟨.refl h,afB⟩
theorem Fe(op:Int):(opers op).length≤2:=by grind [opers]
theorem Nu(he:F9 ex)(st:PS)(l:List aP)(h:WfP st):Ah st (rH ex st l).2∧(rH ex st l).1.1.length+2*st.pos≤l.length+2*(rH ex st l).2.pos+2:=by have h1:=gX mC h;obtain⟨h2,h3⟩:=B2 he (opers (2+(aZ st mC).1)) _ l h1.1;have h4:=jE [41] h2.1;have:=Fe (2+(aZ st mC).1);have p1:=h1.2.2;have p4:=h4.2.2;unfold rH;exact⟨(h1.trans h2).trans h4,afv⟩
theorem EC(he:F9 ex)(st:PS)(l:List aP)(h:WfP st):Ah st (jz ex st l).2∧(jz ex st l).1.1.length+2*st.pos≤l.length+2*(jz ex st l).2.pos:=by
 unfold jz;split
 ·rename_i hi
  have h1:=fo h (dU hi);obtain⟨h2,h3⟩:=Nu he _ l h1.1;have:(bl st).pos=st.pos+1:=rfl;exact⟨h1.trans h2,afu⟩
 ·split
  ·have h1:=CG h
   have:=h1.2.2;exact⟨h1,afv⟩
  ·have h1:=DM h
   have:=h1.2.2;exact⟨h1,afv⟩
theorem rE:∀f,F9 (eW f)
 |0=>fun st l h=>⟨.refl h,by simp[eW]⟩
 |f+1=>fun st l h=>by
  obtain⟨h1,h2⟩:=EC (rE f) st l h;have h3:=lS (decide (32<(jz (eW f) st l).1.1.length+1)) h1.1;have:=h3.2.2;refine⟨h1.trans h3,?_⟩
  grind [eW,afn,List.length_singleton]
def vX:List Txt:=[[112,101,114,109,105,116],[100,101,110,121]]
def nE:List Txt:=[[108,111,103],[114,101,100,97,99,116],[114,101,118,105,101,119],[110,111,116,105,102,121]]
def xu:Txt:=[111,110]
def A6(st:PS):cE×PS:=
 (⟨(aZ st vX).1,(aZ (aZ st vX).2 nE).1,(ct (aZ (aZ st vX).2 nE).2).1⟩,(ct (aZ (aZ st vX).2 nE).2).2)
theorem Mw(h:WfP st):Ah st (A6 st).2:=by have h1:=gX vX h;have h2:=gX nE h1.1;exact(h1.trans h2).trans (oc h2.1)
def gN(st:PS):List cE×PS:=gq A6 xu 8 st.ts.length st []
theorem CI(h:WfP st):Ah st (gN st).2:=tZ (fun _ h=>Mw h) _ _ _ _ _ h
inductive Rch (a:PS):PS→Prop where
 |refl:Rch a a
 |wrong {b:PS} (e p:Int):Rch a b→(e=5∨e=6)→(∃i,i≤b.pos∧p=(b.ts.getD i ⟨7,0,0,[]⟩).pos)→Rch a (bJ b e p)
 |next {b:PS}:Rch a b→b.bad=0→(aN b).kind≠7→Rch a (bl b)
theorem Rch.trans{a b:PS}(x:Rch a b)(y:Rch b c):Rch a c:=by
 induction y with
 |refl=>exact x
 |wrong e p _ h1 h2 ih=>grind [wrong]
 |next _ h1 h2 ih=>grind [next]
theorem lD(st:PS):Rch st (br st):=.wrong _ _ .refl (.inl rfl) ⟨st.pos,Nat.le_refl _,rfl⟩
theorem sD(st:PS)(b:Bool):Rch st (bG st b):=by
 unfold bG;split
 ·exact .wrong _ _ .refl (.inr rfl) ⟨st.pos,Nat.le_refl _,rfl⟩
 ·exact ahX
theorem Jb(h:isD st s=true):st.bad=0:=by simp_all [isD,Bool.and_eq_true,beq_iff_eq]
theorem tJ(h:isD st s=true):Rch st (bl st):=.next .refl (Jb h) (dU h)
theorem OI(st:PS)(s:Txt):Rch st (cu st s).2:=by
 unfold cu;split
 ·grind [tJ]
 ·exact ahX
theorem nQ(st:PS)(s:Txt):Rch st (eJ st s):=by grind [eJ,tJ,lD]
theorem u6(st:PS):Rch st (ct st).2:=by
 unfold ct;split
 ·rename_i h;exact .next .refl h.2 afu
 ·simp only;split
  ·exact ahX
  grind [lD]
theorem nu(st:PS)(ws:List Txt):Rch st (aZ st ws).2:=by
 unfold aZ;split
 ·split
  ·rename_i h;exact .next .refl h.2 afu
  grind [lD]
 grind [lD]
theorem Fv(st:PS):Rch st (gA st).2:=(((nu st wL).trans (nQ _ [46])).trans (u6 _)).trans (OI _ [33])
theorem Cc(st:PS):Rch st (aD st).2:=by
 unfold aD;rcases vi st with⟨e,hk⟩|e
 ·rw[e];split
  ·rename_i h;exact .next .refl h hk
  ·exact ahX
 simp_all [if_neg,sI,lD]
theorem Up(st:PS):Rch st (opP st).2:=by grind [opP,tJ,lD]
theorem Ca(st:PS):Rch st (gU st).2:=((Fv st).trans (Up _)).trans (Cc _)
theorem rV{α:Type}{one:PS→α×PS}(ho:∀st,Rch st (one st).2)(w:Txt)(most:Nat):∀(f:Nat) (st:PS) (l:List α),Rch st (gq one w most f st l).2
 |0,st,l=> .refl
 |f+1,st,l=>by
  unfold gq;split
  ·rename_i h
   exact(((tJ h).trans (ho _)).trans (sD _ _)).trans (rV ho w most f _ _)
  ·exact ahX
theorem JA(st:PS):Rch st (qP st).2:=(Ca st).trans (rV Ca _ _ _ _ _)
theorem JB(st:PS):Rch st (sO st).2:=(((nQ st [40]).trans (JA _)).trans (rV JA orT 8 st.ts.length _ [(qP (eJ st [40])).1])).trans (nQ _ [41])
theorem JC(st:PS):Rch st (iC st).2:=by
 unfold iC;split
 ·rename_i h;exact((tJ h).trans (JB _)).trans (rV JB _ _ _ _ _)
 ·exact ahX
theorem Re(st:PS):Rch st (A6 st).2:=((nu st vX).trans (nu _ nE)).trans (u6 _)
theorem Fz(st:PS):Rch st (gN st).2:=rV Re _ _ _ _ _
theorem sE{a b:PS}(h:Rch a b):b.ts=a.ts∧a.pos≤b.pos∧b.rules=a.rules:=by
 induction h with
 |refl=>simp
 |wrong e p _ _ _ ih=>grind [bJ]
 |next _ _ _ ih=>exact⟨ih.1,Nat.le_succ_of_le ih.2.1,ih.2.2⟩
theorem FA(he:∀st l,Rch st (ex st l).2)(st:PS)(l:List aP)(b:Bool):Rch st (iU ex st l b).2:=by
 unfold iU;simp only;split
 ·grind
 ·have:=sE (he st l)
  exact .wrong _ _ (he st l) (.inl rfl) ⟨st.pos,this.2.1,by rw[this.1];rfl⟩
theorem Cb{ex:ExF}(he:∀st l,Rch st (ex st l).2):∀(bs:List Bool) (st:PS) (l:List aP),Rch st (jN ex bs st l).2
 | [],st,l=> .refl
 |b::bs,st,l=>by
  unfold jN;split
  ·exact(FA he st l b).trans (Cb he bs _ _)
  ·exact ahX
theorem Fw:∀(f:Nat) (st:PS) (l:List aP),Rch st (eW f st l).2
 |0,st,l=> .refl
 |f+1,st,l=>by
  refine Rch.trans ?_ (sD _ _);unfold jz;split
  ·rename_i h
   exact(tJ h).trans (((nu _ mC).trans (Cb (Fw f) _ _ _)).trans (nQ _ [41]))
  grind [Fv,Cc]
def ifT:Txt:=[105,102]
def qs:Txt:=[112,101,114,109,105,116]
def jv:Txt:=[100,101,110,121]
def qt:Txt:=[112,111,108,105,99,121]
def HX:Txt:=[115,101,116]
def nO:List Txt:=[qt,HX]
def yM:List Txt:=[[100,101,110,121,111,118,101,114],[112,101,114,109,105,116,111,118,101,114],[102,105,114,115,116],[111,110,108,121],[100,101,110,121,117,110,108,101,115,115],[112,101,114,109,105,116,117,110,108,101,115,115]]
def rz(st:PS):List aP×PS:=if isD st ifT=true then iU (eW st.ts.length) (bl st) [] false else([],st)
theorem OH(st:PS):Rch st (rz st).2:=by
 unfold rz;split
 ·rename_i h;exact(tJ h).trans (FA (Fw _) _ _ _)
 ·exact ahX
theorem ID(h:WfP st):Ah st (rz st).2:=by
 unfold rz;split
 ·rename_i hi
  have h1:=fo h (dU hi);exact h1.trans (zU (rE _) _ _ _ h1.1).1
 ·exact ahS
def qK(deny:Bool)(st:PS):cR×PS:=
 (⟨(ct st).1,deny,(iC (ct st).2).1,(rz (iC (ct st).2).2).1,(gN (rz (iC (ct st).2).2).2).1⟩,eJ (gN (rz (iC (ct st).2).2).2).2 [59])
theorem Ai(deny:Bool)(st:PS):Rch st (qK deny st).2:=((((u6 st).trans (JC _)).trans (OH _)).trans (Fz _)).trans (nQ _ [59])
theorem CJ(deny:Bool)(h:WfP st):Ah st (qK deny st).2:=by have h1:=oc h;have h2:=CK h1.1;have h3:=ID h2.1;have h4:=CI h3.1;exact(((h1.trans h2).trans h3).trans h4).trans (jE [59] h4.1)
inductive oL (a:PS):PS→Prop where
 |refl:oL a a
 |small {b c:PS}:oL a b→Rch b c→oL a c
 |rule {b:PS}:oL a b→b.bad=0→b.rules≠64→(aN b).kind≠7→oL a {bl b with rules:=b.rules+1}
theorem oL.trans{a b:PS}(x:oL a b)(y:oL b c):oL a c:=by
 induction y with
 |refl=>exact x
 |small _ h1 ih=>grind [small]
 |rule _ h1 h2 h3 ih=>grind [rule]
theorem Rch.big{a b:PS}(h:Rch a b):oL a b:=.small .refl h
def kQ:Nat→PS→List cR→List cR×PS
 |0,st,l=>(l,st)
 |f+1,st,l=>if isD st qs=true∨isD st jv=true then
   if l.length=16∨st.rules=64 then(l,bG st true)
   else kQ f (qK (isD st jv) {bl st with rules:=st.rules+1}).2 (l++ [(qK (isD st jv) {bl st with rules:=st.rules+1}).1])
  else(l,st)
abbrev PoF:=PS→bC×PS
variable {pol:PoF}
def kG(pol:PoF)(deep:Bool):Nat→PS→List bC→List bC×PS
 |0,st,l=>(l,st)
 |f+1,st,l=>if isD st qt=true∨isD st HX=true then
   if l.length=16∨deep=true then(l,bG st true)
   else kG pol deep f (pol st).2 (l++ [(pol st).1])
  else(l,st)
def dj(st:PS):(Bool×Txt×Int×gu)×PS:=
 (((aZ st nO).1==2,(ct (aZ st nO).2).1,(aZ (ct (aZ st nO).2).2 yM).1,(iC (aZ (ct (aZ st nO).2).2 yM).2).1),eJ (iC (aZ (ct (aZ st nO).2).2 yM).2).2 [123])
theorem Fx(st:PS):Rch st (dj st).2:=((((nu st nO).trans (u6 _)).trans (nu _ yM)).trans (JC _)).trans (nQ _ [123])
theorem PR(h:WfP st):Ah st (dj st).2:=by have h1:=gX nO h;have h2:=oc h1.1;have h3:=gX yM h2.1;have h4:=CK h3.1;exact(((h1.trans h2).trans h3).trans h4).trans (jE [123] h4.1)
def qF(pol:PoF)(deep:Bool)(set:Bool)(st:PS):(List cR×List bC)×PS:=
 if set=true then(([],(kG pol deep 17 st []).1),(kG pol deep 17 st []).2)else(((kQ 17 st []).1,[]),(kQ 17 st []).2)
def gZ:Nat→PoF
 |0,st=>(.mk [] false 0 [] [] [] [],st)
 |r+1,st=>(.mk (dj st).1.2.1 (dj st).1.1 (dj st).1.2.2.1 (dj st).1.2.2.2 (qF (gZ r) (r==0) (dj st).1.1 (dj st).2).1.1 (qF (gZ r) (r==0) (dj st).1.1 (dj st).2).1.2
   (gN (eJ (qF (gZ r) (r==0) (dj st).1.1 (dj st).2).2 [125])).1,(gN (eJ (qF (gZ r) (r==0) (dj st).1.1 (dj st).2).2 [125])).2)
theorem nM{a b:Txt}(h:isD st a=true∨isD st b=true):st.bad=0∧(aN st).kind≠7:=by grind [Jb,dU]
theorem yK(h:WfP st)(hk:(aN st).kind≠7):Ah st {bl st with rules:=st.rules+1}:=fo h hk
theorem IF:∀(f:Nat) (st:PS) (l:List cR),WfP st→Ah st (kQ f st l).2
 |0,st,l,h=> .refl h
 |f+1,st,l,h=>by
  unfold kQ;split
  ·rename_i hi
   split
   ·exact lS true h
   ·have h1:=yK h (nM hi).2
    have h2:=CJ (isD st jv) h1.1;exact(h1.trans h2).trans (IF f _ _ h2.1)
  ·exact ahS
theorem FB:∀(f:Nat) (st:PS) (l:List cR),oL st (kQ f st l).2
 |0,st,l=> .refl
 |f+1,st,l=>by
  unfold kQ;split
  ·rename_i hi
   split
   ·exact(sD st true).big
   ·rename_i hn
    have h1:oL st {bl st with rules:=st.rules+1}:=.rule .refl (nM hi).1 afu (nM hi).2
    exact(h1.trans (Ai (isD st jv) _).big).trans (FB f _ _)
  ·exact ahX
theorem IE{pol:PoF}(hp:∀st,WfP st→Ah st (pol st).2)(deep:Bool):∀(f:Nat) (st:PS) (l:List bC),WfP st→Ah st (kG pol deep f st l).2
 |0,st,l,h=> .refl h
 |f+1,st,l,h=>by
  unfold kG;split
  ·split
   ·exact lS true h
   ·have h1:=hp st h
    exact h1.trans (IE hp deep f _ _ h1.1)
  ·exact ahS
theorem Fy{pol:PoF}(hp:∀st,oL st (pol st).2)(deep:Bool):∀(f:Nat) (st:PS) (l:List bC),oL st (kG pol deep f st l).2
 |0,st,l=> .refl
 |f+1,st,l=>by
  unfold kG;split
  ·split
   ·exact(sD st true).big
   ·exact(hp st).trans (Fy hp deep f _ _)
  ·exact ahX
theorem CH(hp:∀st,WfP st→Ah st (pol st).2)(deep set:Bool)(h:WfP st):Ah st (qF pol deep set st).2:=by grind [qF,IE,IF]
theorem OG(hp:∀st,oL st (pol st).2)(deep set:Bool)(st:PS):oL st (qF pol deep set st).2:=by grind [qF,Fy,FB]
theorem yJ:∀(r:Nat) (st:PS),WfP st→Ah st (gZ r st).2
 |0,st,h=> .refl h
 |r+1,st,h=>by have h1:=PR h;have h2:=CH (yJ r) (r==0) (dj st).1.1 h1.1;have h3:=jE [125] h2.1;exact((h1.trans h2).trans h3).trans (CI h3.1)
theorem Dq:∀(r:Nat) (st:PS),oL st (gZ r st).2
 |0,st=> .refl
 |r+1,st=>(((Fx st).big.trans (OG (Dq r) _ _ _)).trans (nQ _ [125]).big).trans (Fz _).big
theorem wj{a b:PS}(h:oL a b)(h0:a.rules≤64):b.rules≤64:=by
 induction h with
 |refl=>omega
 |small _ h1 ih=>rw[(sE h1).2.2];omega
 |rule _ _ h2 _ ih=>grind
theorem vR:∀(f:Nat) (s:Txt) (a:Nat) (out l:List qO),qR f s a out= .ok l→∃pre,l=out++pre++ [⟨7,(a+s.length:Nat),0,[]⟩]∧pre.length≤s.length∧∀t∈pre,(a:Int)≤t.pos∧t.pos<((a+s.length:Nat):Int)
 |0,_,_,_,_,h=>by grind [qR]
 |f+1,[],a,out,l,h=>by grind [qR,Lexed.ok.injEq]
 |f+1,c::r,a,out,l,h=>by
  simp only[qR]at h;split at h
  ·obtain⟨pre,e1,e2,e3⟩:=vR f r (a+1) out l h
   grind
  ·split at h
   ·cases h
   ·rename_i hn
    have hle:=tc (c::r) afB;obtain⟨pre,e1,e2,e3⟩:=vR f _ _ _ l h;have ee:((a+(bR (c::r)).2+((c::r).drop (bR (c::r)).2).length:Nat):Int)=((a+(c::r).length:Nat):Int):=afv;refine⟨{(bR (c::r)).1 with pos:=a}::pre,afv,afv,fun t ht=>?_⟩
    grind
theorem BR(h:qg s= .ok ts):∃pre,ts=pre++ [⟨7,s.length,0,[]⟩]∧pre.length≤s.length∧(∀t∈pre,0≤t.pos∧t.pos<(s.length:Int))∧s.length≤4096:=by grind [qg,vR]
theorem Md(h:qg s= .ok ts)(x:Nat)(e p:Int):WfP ⟨ts,0,x,e,p⟩:=by
 obtain⟨pre,rfl,h2,_,h3⟩:=BR h;refine⟨afB,fun i hi hk=>?_,afv⟩
 grind
theorem zE:∀(f:Nat) (s:Txt) (a:Nat) (out:List qO) (e p:Int),qR f s a out= .bad e p→e=5∧0≤p∧(s.length<f→p≤((a+s.length:Nat):Int))
 |0,s,a,out,e,p,h=>by simp only[qR,Lexed.bad.injEq]at h;omega
 |f+1,[],a,out,e,p,h=>by grind [qR]
 |f+1,c::r,a,out,e,p,h=>by
  simp only[qR]at h;split at h
  ·obtain⟨h1,h2,h3⟩:=zE f r (a+1) out e p h
   grind
  ·split at h
   ·grind
   ·obtain⟨h1,h2,h3⟩:=zE f _ _ _ e p h
    grind [tc,List.length_drop]
theorem uC{e a:Int}(h:qg s= .bad e a):(e=5∨e=6)∧0≤a∧a≤s.length:=by
 unfold qg at h;split at h
 ·grind
 ·obtain⟨h1,h2,h3⟩:=zE _ _ _ _ _ _ h
  omega
def pO:bC:=.mk [] false 0 [] [] [] []
def qQ(s:Txt)(x:bC×PS):PS:=
 if(if(aN x.2).kind=7 then x.2 else br x.2).bad=0∧gV x.1≠0 then bJ (if(aN x.2).kind=7 then x.2 else br x.2) 5 s.length else(if(aN x.2).kind=7 then x.2 else br x.2)
def zW(s:Txt)(ts:List qO):bC×Int×Int:=
 if(qQ s (gZ 4 ⟨ts,0,0,0,0⟩)).bad=0 then((gZ 4 ⟨ts,0,0,0,0⟩).1,0,0)else(pO,(qQ s (gZ 4 ⟨ts,0,0,0,0⟩)).bad,(qQ s (gZ 4 ⟨ts,0,0,0,0⟩)).place)
def aS(s:Txt):bC×Int×Int:=match qg s with
 |.bad e a=>(pO,e,a)
 |.ok ts=>zW s ts
end Go.Bf
