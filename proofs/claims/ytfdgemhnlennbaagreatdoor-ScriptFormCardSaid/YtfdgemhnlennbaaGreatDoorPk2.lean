/- The law ScriptForm: pack 2 of its texts. -/
import Derived.ScopeJumps
import Derived.Below
import Derived.Test.YtfdgemhnlennbaaGreatDoorPk1
set_option linter.unusedSimpArgs false
set_option linter.unusedVariables false
set_option maxRecDepth 100000
namespace Go.Ab
open Go
section
variable {P : Program} {U : TypeId → TI}
def callable (P : Program) (f : FuncId) : Prop := ∃ fn, P.funcs[f]? = some fn ∧ (fn.name == "runtime.NumGoroutine") = false ∧ fn.body.isNone = false
def Ay(P:Program)(f:FuncId)(vs:Array Value)(w:World)(K:Value→World→Prop):Prop:=
 (callable P f∧Calls P f vs w fun e w' =>∃u,e= .returned u∧K u w')∨∃u w',(callFunc f vs).run P w= .ok (.value u) w'∧K u w'
theorem Ay.mono{f:FuncId}{vs:Array Value}{w:World}{K K' :Value→World→Prop}(h:Ay P f vs w K)(hk:∀u w',K u w'→K' u w'):Ay P f vs w K' :=by
 rcases h with⟨h1,h2⟩|⟨u,w',h1,h2⟩
 ·exact .inl ⟨h1,h2.mono fun e w' ⟨u,h3,h4⟩=>⟨u,h3,hk _ _ h4⟩⟩
 ·exact .inr ⟨u,w',h1,hk _ _ h2⟩
theorem qq{f:FuncId}(hc:callable P f)(vs:Array Value)(w:World):(callFunc f vs).run P w= .ok (.enter f vs) w:=by
 obtain ⟨fn,hfn,hname,hbody⟩:=hc;have h3 : fn.name ≠ "runtime.NumGoroutine" := ac1;have h4:fn.body≠none:=fun hh=>by rw [hh] at hbody; cases hbody
 simp[callFunc,hfn,h3,h4]
theorem Ay.calls{f:FuncId}{vs:Array Value}{w:World}{K:Value→World→Prop}(hc:callable P f)(h:Ay P f vs w K):Calls P f vs w fun e w' =>∃u,e= .returned u∧K u w' :=by
 rcases h with⟨h1,h2⟩|⟨u,w',h1,h2⟩
 ·omega
 grind [qq]
def ai(P:Program)(f:FuncId)(args:List AV)(h:Heap)(Q:AV→Heap→Prop):Prop:=
 ∀c (vs:Array Value),Sub h c.h→Good c→vs.size=args.length→(∀i (hi:i<args.length),Rep c args[i] (vs.getD i undef))→Ay P f vs c.w (eN c Q)
theorem eN.mono{c:Cx}{Q Q' :AV→Heap→Prop}{u:Value}{w' :World}(h:eN c Q u w')(hq:∀x h,Q x h→Q' x h):eN c Q' u w' :=by
 obtain⟨c',x,h',h1,h2,h3,h4,h5,h6⟩:=h;exact⟨c',x,h',h1,h2,h3,h4,h5,hq _ _ h6⟩
theorem ai.mono{f:FuncId}{args:List AV}{h:Heap}{Q Q' :AV→Heap→Prop}(hf:ai P f args h Q)(hq:∀x h,Q x h→Q' x h):ai P f args h Q' :=
 fun c vs h1 h2 h3 h4=>(hf c vs h1 h2 h3 h4).mono fun u w' h6=>h6.mono hq
def Fw(y:AV)(n:Nat):AV:=match y with
 |.ob id off len cap sz=> .ob id off (min len n) cap sz
 |y=>y
theorem Li{c:Cx}{y:AV}{u:Value}(n:Nat)(h:Rep c y u):∃u',Rep c (Fw y n) u'∧(∀sz k,Builtin.firstCells sz k u' =Builtin.firstCells sz k u)∧
  ∀w m,(Builtin.lenOf u').run P w= .ok m w→m≤n→∃m',(Builtin.lenOf u).run P w= .ok m' w∧Nat.min m' n=m:=by
 cases y with
 |ob id off len cap sz=>
  obtain⟨o,rfl,h1,h2,cs,t,h3,h4⟩:=h.jq;refine⟨.slice (some ⟨(c.φ id).block,o,none⟩) (min len n) cap,.ob _ _ _ _ _ _ cs t h3 ac0 h2 h4,fun _ _=>rfl,fun w m hm hn=>⟨len,adg,?_⟩⟩
  simp_all [Builtin.lenOf,Sem.run_pure,Result.ok.injEq,and_true]
 |_=>exact⟨u,h,fun _ _=>rfl,fun w m hm hn=>⟨m,hm,Nat.min_eq_left hn⟩⟩
def CI(U:TypeId→TI)(h:Heap)(ts:TypeId)(x y:AV)(Q:AV→Heap→Prop):Prop:=
 match (U ts).k with
 |.slice e=>match x with
  |.oa id off len=>(U e).sz=1∧iD U e h y fun ys=>Sized 1 ys∧(∀z∈ys,bA z=false)∧match h id with
   |some (.obj cs t)=>ys.length≤len∧off+len≤cs.length∧Q (.i ys.length) (upd h id (some (.obj (over cs off ys) t)))
   |_=>False
  |.ob id off len _ sz=>(U e).sz≠0∧sz=(U e).sz∧iD U e h (Fw y len) fun ys=>Sized (U e).sz ys∧match h id with
   |some (.obj cs t)=>ys.length≤len∧off+len*(U e).sz≤cs.length∧Q (.i ys.length) (upd h id (some (.obj (over cs off (au ys)) t)))
   |_=>False
  |_=>False
 |_=>False
def Gj:Operand→Bool
 |.const (.slice none _ _)=>true
 |_=>false
def Nr(U:TypeId→TI)(h:Heap)(op:BinOp)(ty:TypeId)(x:AV)(Q:AV→Heap→Prop):Prop:=
 match (U ty).k,op,x with
 |.slice _,.eql,.sl xs _=>∀b:Bool,(xs≠ []→b=false)→Q (.b b) h
 |.slice _,.neq,.sl xs _=>∀b:Bool,(xs≠ []→b=true)→Q (.b b) h
 |.slice _,.eql,.oa .. =>Q (.b false) h
 |.slice _,.neq,.oa .. =>Q (.b true) h
 |.slice _,.eql,.ob .. =>Q (.b false) h
 |.slice _,.neq,.ob .. =>Q (.b true) h
 |_,_,_=>False
def Ua(sz m id:Nat):AV:=if sz=1 then .oa id 0 m else .ob id 0 m m sz
def Am(m:List (AV×AV))(b v:AV):List (AV×AV):=if(getM m b).isSome then m.map (fun p=>if sF p.1 b then(p.1,v)else p)else m++ [(b,v)]
def Il(U:TypeId→TI)(ρ:Env)(mt:TypeId):Option Operand→Prop
 |none=>True
 |some x=>(∃kt e,(U mt).k= .map kt e)∧withv ρ x fun a=>∃kk n,a= .v (.int kk n)
def bf(P:Program)(U:TypeId→TI)(ρ:Env)(h:Heap)(o:Oper)(Q:AV→Heap→Prop):Prop:=
 match o.op with
 |.alloc t=>if isUnit (U t).k then∀id,h id=none→Q (.ptr id 0) (upd h id (some (.obj [] t)))else(U t).sz≠0∧fit (U t).zero (U t).sz∧∀id,h id=none→Q (.ptr id 0) (upd h id (some (.obj (U t).zero.cells t)))
 |.box t x=>(U t).sz≠0∧withv ρ x fun y=>fit y (U t).sz∧∀id,h id=none→Q (.ptr id 0) (upd h id (some (.obj y.cells t)))
 |.store t a x=>if isUnit (U t).k then withv ρ a fun p=>withv ρ x fun y=>y= .agg []∧match p with
   |.ptr .. =>Q (.v undef) h
   |_=>False
  else(U t).sz≠0∧withv ρ a fun p=>withv ρ x fun y=>match p with
  |.ptr id off=>match h id with
   |some (.obj cs t')=>fit y (U t).sz∧off+(U t).sz≤cs.length∧Q (.v undef) (upd h id (some (.obj (over cs off y.cells) t')))
   |_=>False
  |_=>False
 |.makeSlice t l m=>withv ρ l fun a=>withv ρ m fun b=>match (U t).k,a,b with
  |.slice e,.v (.int _ n),.v (.int _ n')=>n=n'∧0≤n∧n<lim∧n*(U e).bytes≤281474976710656∧(U e).sz≠0∧fit (U e).zero (U e).sz∧
   ∀id,h id=none→Q (Ua (U e).sz n.toNat id) (upd h id (some (.obj (cJ (U e).zero n.toNat (U e).sz) e)))
  |_,_,_=>False
 |.makeMap mt r=>Il U ρ mt r∧∀id,h id=none→Q (.mp id) (upd h id (some (.mp [])))
 |.mapUpdate mt x y z=>withv ρ x fun a=>withv ρ y fun b=>withv ρ z fun v=>match (U mt).k,a with
  |.map kt e,.mp id=>gC (U kt).k b∧match h id with
   |some (.mp m)=>(∀p∈m,gC (U kt).k p.1)∧Q (.v undef) (upd h id (some (.mp (Am m b v))))
   |_=>False
  |_,_=>False
 |.call c=>match c.callee with
  |.value q=>withv ρ q fun y=>match y with
   |.fn f cap=>withvs ρ c.args.toList fun ys=>ai P f (ys++cap) h Q
   |_=>False
  |.builtin .append=>match c.args.toList,c.argTypes.toList with
   | [x,y],[ts,tx]=>withv ρ x fun a=>withv ρ y fun b=>apT (rB U h ts a b Q) (EY U h ts a b Q) (U tx).k
   |_,_=>False
  |.builtin .copy=>match c.args.toList,c.argTypes.toList with
   | [x,y],[ts,_]=>withv ρ x fun a=>withv ρ y fun b=>CI U h ts a b Q
   |_,_=>False
  |_=>pv U ρ h o.op fun x=>Q x h
 |.binOp op ty x y _=>if Gj y then withv ρ x fun a=>Nr U h op ty a Q else pv U ρ h o.op fun x=>Q x h
 |_=>pv U ρ h o.op fun x=>Q x h
def kW(P:Program)(c:Cx)(Q:AV→Heap→Prop):Result Next→Prop
 |.ok (.value u) w' =>eN c Q u w'
 |.ok .skip w' =>eN c Q undef w'
 |.ok (.enter f args) w' =>w' =c.w∧Calls P f args w' fun e w'' =>∃u,e= .returned u∧eN c Q u w''
 |_=>False
theorem vG{ρ:Env}{h:Heap}{o:Oper}{Q:AV→Heap→Prop}(hU:∀t,aO P U t)(hp:pv U ρ h o.op fun x=>Q x h){c:Cx}{a:Act}{n:Nat}(hs:Sub h c.h)(g:Good c)(he:cj c n ρ a):
  kW P c Q ((execOp a.eval o).run P c.w):=by
 obtain⟨X,hQ,hX⟩:=zm hU hp;obtain⟨u,c',h1,h2,h3,h4,h5⟩:=hX c a n hs g he;rw[h1];exact⟨c',X,h,rfl,h2,h3,h5,ac1,hQ⟩
theorem yx{h:Heap}{c:Cx}(hs:Sub h c.h){id:Nat}(hid:c.h id=none):h id=none:=by
 exact ahY
theorem pq{c:Cx}{h:Heap}{t:TypeId}{y:AV}{u:Value}{n:Nat}{Q:AV→Heap→Prop}(hs:Sub h c.h)(g:Good c)(hr:Rep c y u)(hf:fit y n)
  (hQ:∀id,h id=none→Q (.ptr id 0) (upd h id (some (.obj y.cells t)))):eN c Q (.pointer (some ⟨c.w.heap.size,0,none⟩)) (c.w.alloc (.cells u.cells t)):=by
 obtain⟨id,hid⟩:=g.fresh;obtain⟨f1,f2,f3,f4⟩:=hr.fits hf;refine⟨c.ay (.cells u.cells t) id ⟨c.w.heap.size,0,none⟩ (.obj y.cells t),_,_,rfl,?_,Ext.ay c _ id _ _ rfl (.inl hid),?_,hs.upd id _,hQ id (yx hs hid)⟩
 ·refine g.ay _ _ (0,0) id _ _ rfl (.inl hid) (fun cs t' hh=>?_) (fun n sz hh=>ac7)
  grind
 ·have:=Rep.ptr (c:=c.ay (.cells u.cells t) id ⟨c.w.heap.size,0,none⟩ (.obj y.cells t)) id 0 y.cells t afl
  simpa[Cx.ay,ah]using this
theorem EI{ρ:Env}{h:Heap}{o:Oper}{Q:AV→Heap→Prop}{t:TypeId}(hU:∀t,aO P U t)(ho:o.op= .alloc t)(hz:(U t).sz≠0)(hf:fit (U t).zero (U t).sz)
  (hQ:∀id,h id=none→Q (.ptr id 0) (upd h id (some (.obj (U t).zero.cells t)))) {c:Cx} {a:Act} (hs:Sub h c.h) (g:Good c):kW P c Q ((execOp a.eval o).run P c.w):=by
 obtain⟨i,i1,i2,i3,z,z1,z2,z3⟩:=(hU t).info hz;have hz0:(zeroValue t).run P c.w= .ok z c.w:=ad4;have:=pq (t:=t) hs g (z3 c) hf hQ;have hr:(execOp a.eval o).run P c.w= .ok (.value (.pointer (some ⟨c.w.heap.size,0,none⟩))) (c.w.alloc (.cells z.cells t)):=by
  simp_all [execOp,Instr.alloc,newVar,newRow]
 rw[hr];exact adN
theorem Kc{ρ:Env}{h:Heap}{o:Oper}{Q:AV→Heap→Prop}{t:TypeId}{x:Operand}(ho:o.op= .box t x)
  (hk:withv ρ x fun y=>fit y (U t).sz∧∀id,h id=none→Q (.ptr id 0) (upd h id (some (.obj y.cells t)))) {c:Cx} {a:Act} {n:Nat} (hs:Sub h c.h) (g:Good c) (he:cj c n ρ a):
  kW P c Q ((execOp a.eval o).run P c.w):=by
 obtain⟨y,hy,hf,hQ⟩:=aI hk;have:=pq (t:=t) hs g (aF he hy) hf hQ;have hr:(execOp a.eval o).run P c.w= .ok (.value (.pointer (some ⟨c.w.heap.size,0,none⟩))) (c.w.alloc (.cells (a.eval x).cells t)):=by
  simp[execOp,ho,Instr.box,newVar,newRow]
 rw[hr];exact adN
theorem EO{ρ:Env}{h:Heap}{o:Oper}{Q:AV→Heap→Prop}{t:TypeId}{p x:Operand}(hU:∀t,aO P U t)(ho:o.op= .store t p x)(hk:bf P U ρ h o Q){c:Cx}{a:Act}{n:Nat}(hs:Sub h c.h)(g:Good c)(he:cj c n ρ a):
  kW P c Q ((execOp a.eval o).run P c.w):=by
 simp only[bf,ho]at hk
 by_cases hun:isUnit (U t).k=true
 ·rw[if_pos hun]at hk
  obtain⟨i,i1,_,i3⟩:=(hU t).unit (u9 hun);obtain⟨A,hA,hk⟩:=aI hk;obtain⟨y,hy,hk2⟩:=aI hk;obtain⟨rfl,hk2⟩:=hk2;split at hk2
  ·obtain⟨hu,_⟩:=(aF he hA).kS
   obtain⟨vs,hv,hn,_⟩:=(aF he hy).oQ;have hr:(execOp a.eval o).run P c.w= .ok .skip c.w:=by
    simp_all [execOp,Instr.storeAt,Instr.sureAddr,storeVar,sizeOf,typeInfo,Value.cells,storeCells]
   rw[hr];exact ad9
  grind
 rw[if_neg hun]at hk;obtain⟨hz,hk⟩:=hk;obtain⟨A,hA,hk⟩:=aI hk;obtain⟨y,hy,hk2⟩:=aI hk;split at hk2
 ·rename_i id off
  split at hk2
  ·rename_i cs t' hid
   obtain⟨hf,hb,hQ⟩:=hk2;obtain⟨f1,f2,f3,f4⟩:=(aF he hy).fits hf;obtain⟨hu,_⟩:=(aF he hA).kS;obtain⟨h1,h2⟩:=iZ (P:=P) (off:=off) (xs:=y.cells) (vs:=(a.eval x).cells.toList) (u:=undef) (X:=.v undef) hs g hid ac1 ac0
    ag6 (fun _ _=> .v _) hQ
   have hr:(execOp a.eval o).run P c.w= .ok .skip (c.w.setCells (c.φ id).block off (a.eval x).cells.toList):=by
    simp[execOp,ho,Instr.storeAt,hu,Instr.sureAddr,storeVar,bB hU hz,f1,h1]
   rw[hr];exact aha
  grind
 grind
theorem Ap{ρ:Env}{h:Heap}{o:Oper}{Q:AV→Heap→Prop}{mt:TypeId}{r:Option Operand}(hU:∀t,aO P U t)(ho:o.op= .makeMap mt r)(hr:Il U ρ mt r)(hk:∀id,h id=none→Q (.mp id) (upd h id (some (.mp []))))
  {c:Cx} {a:Act} {n:Nat} (hs:Sub h c.h) (g:Good c) (he:cj c n ρ a):kW P c Q ((execOp a.eval o).run P c.w):=by
 obtain⟨id,hid⟩:=g.fresh;have hfr:h id=none:=by
  exact ahY
 have hrun:(execOp a.eval o).run P c.w= .ok (.value (.map (some c.w.heap.size))) (c.w.alloc (.map #[] 0)):=by
  cases r with
  |none=>simp[execOp,ho,Instr.makeMap]
  |some x=>
   obtain⟨⟨kt,e,hty⟩,hv⟩:=hr;have hd:=(hU mt).desc;rw[hty]at hd;obtain⟨A,hA,kk,m,rfl⟩:=aI hv;simp[execOp,ho,Instr.makeMap,run_underlying hd,(aF he hA).bP,asInt,asIntOf]
 rw[hrun];refine⟨c.ay (.map #[] 0) id ⟨c.w.heap.size,0,none⟩ (.mp []),_,_,rfl,g.allocMap id hid,Ext.ay _ _ id _ _ rfl (.inl hid),?_,hs.upd id _,hk id hfr⟩;have:=Rep.mp (c:=c.ay (.map #[] 0) id ⟨c.w.heap.size,0,none⟩ (.mp [])) id [] afl;simpa[Cx.ay,ah]using this
theorem xq{ρ:Env}{h:Heap}{o:Oper}{Q:AV→Heap→Prop}{mt:TypeId}{x y z:Operand}(hU:∀t,aO P U t)(ho:o.op= .mapUpdate mt x y z)
  (hk:withv ρ x fun a=>withv ρ y fun b=>withv ρ z fun v=>match (U mt).k,a with
   |.map kt e,.mp id=>gC (U kt).k b∧match h id with
    |some (.mp m)=>(∀p∈m,gC (U kt).k p.1)∧Q (.v undef) (upd h id (some (.mp (Am m b v))))
    |_=>False
   |_,_=>False)
  {c:Cx} {a:Act} {n:Nat} (hs:Sub h c.h) (g:Good c) (he:cj c n ρ a):kW P c Q ((execOp a.eval o).run P c.w):=by
 obtain⟨A,hA,hk⟩:=aI hk;obtain⟨b,hB,hk⟩:=aI hk;obtain⟨v,hV,hk⟩:=aI hk;have hd:=(hU mt).desc;split at hk
 ·rename_i kt e id hty hp' hp''
  clear hp' hp'';rw[hty]at hd;obtain⟨hb,hk⟩:=hk;split at hk
  ·rename_i m hid
   obtain⟨hm,hQ⟩:=hk;have hcid:=hs _ _ hid;obtain⟨hu,_⟩:=(aF he hA).Ge;have hv:=DJ hb (aF he hB);have hval:=aF he hV;obtain⟨es,cl,e1,e2,e3⟩:=g.mp id m hcid;obtain⟨K,l,hl⟩:=tM hU hb;have hchk:=K.check c.w false hl;have hg:=g.keys id m hcid;rcases Dl hU hb hm e2 (fun i h1 h2=>(e3 i h1 h2).1) c.w with⟨f1,f2⟩|⟨j,hj,hj',f1,f2⟩
   ·have hget:=getM_none hb hm f2
    have hset:Am m b v=m++ [(b,v)]:=by grind [Am]
    have hrun:(execOp a.eval o).run P c.w= .ok .skip (c.turn id (es.push {key:=jc b,val:=a.eval z,born:=cl}) (cl+1) (m++ [(b,v)])).w:=by
     simp[execOp,ho,hu,hv,Instr.mapUpdate,run_underlying hd,MapKept.run_getObj_map e1,hchk,f1,MapKept.run_setObj_map _ e1,Cx.turn]
     try rfl
    rw[hrun];rw[hset]at hQ;refine⟨c.turn id (es.push {key:=jc b,val:=a.eval z,born:=cl}) (cl+1) (m++ [(b,v)]),_,_,rfl,g.turn id _ es _ cl _ m hcid e1 ac1 (fun i h1 h2=>?_) ?_,Ext.turn id _ es _ cl _ m hcid e1,.v _,hs.upd id _,hQ⟩
    ·grind
    grind
   ·have hget:=Cd hb hm hg j hj f2
    have hset:Am m b v=m.map (fun p=>if sF p.1 b then(p.1,v)else p):=by grind [Am]
    have hst:=K.stays c.w hl;have hkey:es[j].key=jc b:=(e3 j hj hj').1.trans f2;have hrun:(execOp a.eval o).run P c.w= .ok .skip (c.turn id (es.modify j fun e=> {e with key:=jc b,val:=a.eval z}) cl (m.map (fun p=>if sF p.1 b then(p.1,v)else p))).w:=by
     simp[execOp,ho,hu,hv,Instr.mapUpdate,run_underlying hd,MapKept.run_getObj_map e1,hchk,f1,hj',hkey,hst,MapKept.run_setObj_map _ e1,Cx.turn]
     try rfl
    rw[hrun];rw[hset]at hQ;refine⟨c.turn id (es.modify j fun e=> {e with key:=jc b,val:=a.eval z}) cl (m.map (fun p=>if sF p.1 b then(p.1,v)else p)),_,_,rfl,g.turn id _ es _ cl _ m hcid e1 ac1 (fun i h1 h2=>?_) ?_,Ext.turn id _ es _ cl _ m hcid e1,.v _,hs.upd id _,hQ⟩
    ·have hi:i<m.length:=by grind
     have h3:i<es.size:=ac0;rw[Array.getElem_modify,acR]
     by_cases hij:j=i
     ·subst hij
      have hke:sF m[j].1 b=true:=(qL (hm _ (acV hj)) hb).2 f2;rw[if_pos rfl,if_pos hke];exact⟨f2.symm,hval⟩
     ·have hke:sF m[i].1 b=false:=by
       cases hh:sF m[i].1 b with
       |false=>rfl
       |true=>
        grind [qL,acV,List.pairwise_iff_getElem,Nat.lt_or_gt_of_ne]
      rw[if_neg hij,if_neg ac1];exact e3 i hi h3
    grind
  ·exact ado
 ·exact ado
theorem xp{ρ:Env}{h:Heap}{o:Oper}{Q:AV→Heap→Prop}{t:TypeId}{l m:Operand}(hU:∀t,aO P U t)(ho:o.op= .makeSlice t l m)(hk:bf P U ρ h o Q){c:Cx}{a:Act}{n:Nat}(hs:Sub h c.h)(g:Good c)(he:cj c n ρ a):
  kW P c Q ((execOp a.eval o).run P c.w):=by
 simp only[bf,ho]at hk;obtain⟨A,hA,hk⟩:=aI hk;obtain⟨B,hB,hk2⟩:=aI hk;clear hk;have hd:=(hU t).desc;split at hk2
 ·rename_i e k1 n1 k2 n2 hty
  rw[hty]at hd;obtain⟨rfl,h0,hlim,hbytes,hz,hf,hQ⟩:=hk2;obtain⟨i,i1,i2,i3,z,z1,z2,z3⟩:=(hU e).info hz;have hz0:(zeroValue e).run P c.w= .ok z c.w:=ad4;obtain⟨f1,f2,f3,f4⟩:=(z3 c).fits hf;have hw:IntKind.i64.wrap n1=n1:=by
   grind [lim,IntWalk.i64_in]
  generalize hcells:(Array.range (n1.toNat*(U e).sz)).map (fun j=>(if n1.toNat*(U e).sz=0 then #[]else z.cells)[j % (if n1.toNat*(U e).sz=0 then #[]else z.cells).size]!)=cells
  have hr:(execOp a.eval o).run P c.w= .ok (.value (.slice (some ⟨c.w.heap.size,0,none⟩) n1.toNat n1.toNat)) (c.w.alloc (.cells cells e)):=by
   have hcap:¬(n1<0∨281474976710656<(U e).bytes*n1):=by
    grind
   have h00:¬(n1<0):=ac0;have hcap' :¬(281474976710656<(U e).bytes*n1):=fun hh=>hcap (.inr hh)
   by_cases hn:n1.toNat*(U e).sz=0
   ·simp only[hn,if_true]at hcells
    simp[execOp,ho,(aF he hA).bP,(aF he hB).bP,Instr.makeSlice,run_underlying hd,asInt,asIntOf,typeInfo,i1,i3,hw,bB hU hz,newRow,hcap',h00,hn];simp at hcells;rw[←hcells]
   ·simp only[hn,if_false]at hcells
    simp[execOp,ho,(aF he hA).bP,(aF he hB).bP,Instr.makeSlice,run_underlying hd,asInt,asIntOf,typeInfo,i1,i3,hw,bB hU hz,newRow,hcap',h00,hn,hz0,hcells]
  rw[hr];obtain⟨id,hid⟩:=g.fresh;refine⟨c.ay (.cells cells e) id ⟨c.w.heap.size,0,none⟩ (.obj (cJ (U e).zero n1.toNat (U e).sz) e),_,_,rfl,?_,Ext.ay c _ id _ _ rfl (.inl hid),?_,hs.upd id _,hQ id (yx hs hid)⟩
  ·refine g.ay _ _ (0,0) id _ _ rfl (.inl hid) (fun cs t' hh=>?_) (fun n sz hh=>ac7)
   cases hh;have hsz:cells.size=n1.toNat*(U e).sz:=ac1;refine⟨rfl,rfl,by grind [cJ],fun j hj=>?_⟩
   have hj' :j<n1.toNat*(U e).sz:=by grind [cJ]
   have hmod:j % (U e).sz<(U e).sz:=Nat.mod_lt _ ac0;have e1:(cJ (U e).zero n1.toNat (U e).sz)[j]=(U e).zero.cells[j % (U e).sz]'ac0:=by
    grind [cJ]
   have e2:cells.getD j undef=z.cells.getD (j % (U e).sz) undef:=by
    rw[←hcells];have hne:¬(n1.toNat*(U e).sz=0):=ac0;simp only[hne,if_false];have h9:j % (U e).sz<z.cells.size:=ac0;simp[hj',z2];rw[getElem!_pos z.cells (j % (U e).sz) h9,Array.getElem?_eq_getElem h9];rfl
   rw[e1,e2];exact⟨f3 _ ac0,f4 _ hmod⟩
  ·have r1:=Rep.oa (c:=c.ay (.cells cells e) id ⟨c.w.heap.size,0,none⟩ (.obj (cJ (U e).zero n1.toNat (U e).sz) e)) id 0 n1.toNat n1.toNat 0 (cJ (U e).zero n1.toNat (U e).sz) e
    afl (Nat.le_refl _) ac0 (fun _=>⟨rfl,by simp only[cJ,acQ,List.length_range];have:=Nat.le_mul_of_pos_right n1.toNat (show 0<(U e).sz by omega);omega⟩)
   have r2:=Rep.ob (c:=c.ay (.cells cells e) id ⟨c.w.heap.size,0,none⟩ (.obj (cJ (U e).zero n1.toNat (U e).sz) e)) id 0 n1.toNat n1.toNat (U e).sz 0 (cJ (U e).zero n1.toNat (U e).sz) e
    afl (Nat.le_refl _) ac0 (fun _=>⟨rfl,by grind [cJ,acQ,List.length_range]⟩)
   simp only[Cx.ay,ah]at r1 r2;unfold Ua;split
   ·simpa[Cx.ay,ah]using r1
   ·simpa[Cx.ay,ah]using r2
 ·exact hk2.elim
theorem GA{h:Heap}{ts tx ty:TypeId}{x y:AV}{Q:AV→Heap→Prop}(hU:∀t,aO P U t)(hk:CI U h ts x y Q)(c:Cx)(u v:Value)
  (hs:Sub h c.h) (g:Good c) (hx:Rep c x u) (hy:Rep c y v):
  ∃r w',(Builtin.copy_ #[ts,tx] ty #[u,v]).run P c.w= .ok r w'∧eN c Q r w' :=by
 unfold CI at hk;have hd:=(hU ts).desc;split at hk
 ·rename_i e hty
  rw[hty]at hd;split at hk
  ·rename_i id off len
   obtain⟨hz,hk⟩:=hk;obtain⟨ys,hk',hsrc⟩:=ru (P:=P) ac0 hk;clear hk;obtain⟨hsy,hna,hk⟩:=hk';split at hk
   ·rename_i cs t hid
    obtain⟨hle,hb,hQ⟩:=hk;rw[hz]at hsrc;obtain⟨hl,val,row,hlen,hfirst⟩:=hsrc c v hs g hy hsy;obtain⟨cap,o',rfl,h1,h2,h3,_⟩:=hx.pE;have hcells:∀i (hi:i<ys.length),ys[i].cells= [ys[i]]:=fun i hi=>by
     have hh:=hna _ (acV hi);generalize ys[i]=q at hh;cases q<;>simp[bA]at hh<;>rfl
    have hrow:∀i (hi:i<ys.length),Rep c ys[i] (val i 0):=fun i hi=>by
     have:=row.hr i hi 0 ac1;simpa only[hcells i hi,List.getElem_singleton]using this
    have hget:∀j,j<ys.length→(bZ 1 ys.length val).getD j undef=val j 0:=fun j hj=>by
     have:=gG (sz:=1) (n:=ys.length) (val:=val) hj (show 0<1 by omega)
     rw[Nat.mul_one,Nat.add_zero]at this;simp[List.getD,this]
    obtain⟨s1,s2⟩:=iZ (P:=P) (off:=off) (xs:=ys) (vs:=bZ 1 ys.length val) (u:=.int .i64 ys.length) (X:=.i ys.length) hs g hid (by simp[aU]) ac0
     (fun j hj=>by rw[hget j hj];exact⟨hrow j hj,row.ho j 0 hj ac0⟩) (fun _ _=> .v _) hQ
    refine⟨_,_,?_,s2⟩;have hmin:Nat.min ys.length len=ys.length:=ac1
    by_cases h0:ys.length=0
    ·have e0:bZ 1 ys.length val= []:=by grind [bZ]
     rw[e0]at hfirst s1⊢;simp[Builtin.copy_,run_underlying hd,hlen,hmin,bB hU (show(U e).sz≠0 by omega),hz,hfirst,goInt,storeCells,World.setCells]
    ·obtain rfl:=h3 ac0
     simp[Builtin.copy_,run_underlying hd,hlen,hmin,bB hU (show(U e).sz≠0 by omega),hz,hfirst,goInt,s1]
   ·exact ado
  ·rename_i id off len cap0 sz0
   obtain⟨hz,rfl,hk⟩:=hk;obtain⟨ys,hk',hsrc⟩:=ru (P:=P) hz hk;clear hk;obtain⟨hsy,hk⟩:=hk';split at hk
   ·rename_i cs t hid
    obtain⟨hle,hb,hQ⟩:=hk;obtain⟨v',hy',hfc,hlv⟩:=Li (P:=P) len hy;obtain⟨hl,val,row,hlen,hfirst⟩:=hsrc c v' hs g hy' hsy;rw[hfc]at hfirst;obtain⟨m',hm1,hm2⟩:=hlv c.w _ (hlen c.w) hle;obtain⟨o',rfl,h1,h2,cs',t',h4,h5⟩:=hx.jq;obtain⟨hly,hry⟩:=row.flat ac0;have hle2:ys.length*(U e).sz≤len*(U e).sz:=Nat.mul_le_mul_right _ hle;obtain⟨s1,s2⟩:=iZ (P:=P) (off:=off) (xs:=au ys) (vs:=bZ (U e).sz ys.length val) (u:=.int .i64 ys.length) (X:=.i ys.length) hs g hid (by grind [aU]) ac0
     hry (fun _ _=> .v _) hQ
    refine⟨_,_,?_,s2⟩
    by_cases h0:ys.length=0
    ·have e0:bZ (U e).sz ys.length val= []:=by grind [bZ]
     rw[e0]at hfirst s1⊢;simp[Builtin.copy_,run_underlying hd,hm1,hm2,bB hU hz,hfirst,goInt,storeCells,World.setCells]
    ·obtain⟨rfl,_⟩:=h5 ac0
     simp[Builtin.copy_,run_underlying hd,hm1,hm2,bB hU hz,hfirst,goInt,s1]
   ·exact ado
  ·exact ado
 ·exact ado
theorem Gy{f:FuncId}{h:Heap}{Q:AV→Heap→Prop}{ys:List AV}(hf:ai P f ys h Q){c:Cx}(hs:Sub h c.h)(g:Good c){vs:Array Value}(h1:vs.size=ys.length)(h2:∀i (hi:i<ys.length),Rep c ys[i] (vs.getD i undef)):
  kW P c Q ((callFunc f vs).run P c.w):=by
 rcases hf c vs hs g h1 h2 with⟨hc,hcall⟩|⟨u,w',hr,hk⟩
 ·rw[qq hc]
  exact⟨rfl,hcall⟩
 ·rw[hr]
  exact hk
theorem vM{c:Cx}{Q:AV→Heap→Prop}{s:Sem Value}{r:Value}{w' :World}(hr:s.run P c.w= .ok r w')(hc:eN c Q r w'):kW P c Q ((do pure (.value (←s)):Sem Next).run P c.w):=by
 simp only[Sem.run_bind,hr,Result.andThen_ok,Sem.run_pure];exact hc
theorem eC{ty e:TypeId}(h:P.underlying ty=some (.slice e))(d:Nat)(a:Option Addr)(l k l' k' :Nat)(w:World):(Op.equalIn (d+1) ty (.slice a l k) (.slice none l' k')).run P w= .ok a.isNone w:=by
 cases a<;>simp[Op.equalIn,run_underlying h]
theorem Ki{ρ:Env}{h:Heap}{o:Oper}{Q:AV→Heap→Prop}{op:BinOp}{t t' :TypeId}{x y:Operand}(hU:∀t,aO P U t)(ho:o.op= .binOp op t x y t')(hy:Gj y=true)(hk:withv ρ x fun a=>Nr U h op t a Q)
  {c:Cx} {a:Act} {n:Nat} (hs:Sub h c.h) (g:Good c) (he:cj c n ρ a):kW P c Q ((execOp a.eval o).run P c.w):=by
 obtain⟨A,hA,hk2⟩:=aI hk;clear hk;obtain⟨l',k',rfl⟩:∃l' k',y= .const (.slice none l' k'):=by
  unfold Gj at hy
  grind
 have hev:a.eval (.const (.slice none l' k'))= .slice none l' k' :=rfl;have hd:=(hU t).desc;have hgu:∀ad l k,(eqGuard op t x (.const (.slice none l' k')) (.slice ad l k) (.slice none l' k')).run P c.w= .ok () c.w:=fun ad l k=>gF _ _ _ _ _ _ _ rfl
 unfold Nr at hk2;split at hk2
 ·rename_i e xs p hty
  rw[hty]at hd;obtain⟨ad,cap,sz,val,hu,sl⟩:=(aF he hA).iB;have h1:(execOp a.eval o).run P c.w= .ok (.value (.bool ad.isNone)) c.w:=by
   simp_all [execOp,binOp,kT,eC]
  rw[h1];refine⟨c,_,h,rfl,g,.refl c,.v _,hs,hk2 _ fun hne=>?_⟩
  cases ad with
  |some q=>rfl
  |none=>have:=sl.h0 rfl;have:=sl.hc;have:=List.length_pos_iff.2 hne;omega
 ·rename_i e xs p hty
  rw[hty]at hd;obtain⟨ad,cap,sz,val,hu,sl⟩:=(aF he hA).iB;have h1:(execOp a.eval o).run P c.w= .ok (.value (.bool (!ad.isNone))) c.w:=by
   simp_all [execOp,binOp,kT,eC]
  rw[h1];refine⟨c,_,h,rfl,g,.refl c,.v _,hs,hk2 _ fun hne=>?_⟩
  cases ad with
  |some q=>rfl
  |none=>have:=sl.h0 rfl;have:=sl.hc;have:=List.length_pos_iff.2 hne;omega
 ·rename_i e id off len hty
  rw[hty]at hd;obtain⟨cap,o',hu,_⟩:=(aF he hA).pE;have h1:(execOp a.eval o).run P c.w= .ok (.value (.bool false)) c.w:=by
   simp_all [execOp,binOp,kT,eC]
  rw[h1];exact ad9
 ·rename_i e id off len hty
  rw[hty]at hd;obtain⟨cap,o',hu,_⟩:=(aF he hA).pE;have h1:(execOp a.eval o).run P c.w= .ok (.value (.bool true)) c.w:=by
   simp_all [execOp,binOp,kT,eC]
  rw[h1];exact ad9
 ·rename_i e id off len cap0 sz0 hty
  rw[hty]at hd;obtain⟨o',hu,_⟩:=(aF he hA).jq;have h1:(execOp a.eval o).run P c.w= .ok (.value (.bool false)) c.w:=by
   simp_all [execOp,binOp,kT,eC]
  rw[h1];exact ad9
 ·rename_i e id off len cap0 sz0 hty
  rw[hty]at hd;obtain⟨o',hu,_⟩:=(aF he hA).jq;have h1:(execOp a.eval o).run P c.w= .ok (.value (.bool true)) c.w:=by
   simp_all [execOp,binOp,kT,eC]
  rw[h1];exact ad9
 ·exact hk2.elim
theorem kL{ρ:Env}{h:Heap}{o:Oper}{Q:AV→Heap→Prop}(hU:∀t,aO P U t)(hk:bf P U ρ h o Q){c:Cx}{a:Act}{n:Nat}(hs:Sub h c.h)(g:Good c)(he:cj c n ρ a):
  kW P c Q ((execOp a.eval o).run P c.w):=by
 have hk0:=hk;unfold bf at hk;split at hk
 ·rename_i t ho
  split at hk
  ·rename_i hun
   obtain⟨i,i1,i2,_⟩:=(hU t).unit (u9 hun);have hz0:(zeroValue t).run P c.w= .ok (.agg #[]) c.w:=ad4;have:=pq (t:=t) (y:=.agg []) (u:=.agg #[]) (n:=0) hs g (.agg [] #[] rfl ac7 ac7) rfl hk;have hr:(execOp a.eval o).run P c.w= .ok (.value (.pointer (some ⟨c.w.heap.size,0,none⟩))) (c.w.alloc (.cells (Value.agg #[]).cells t)):=by
    simp_all [execOp,Instr.alloc,newVar,newRow]
   rw[hr];exact adN
  ·exact EI (ρ:=ρ) hU ho hk.1 hk.2.1 hk.2.2 hs g
 ·rename_i t x ho
  exact Kc ho hk.2 hs g he
 ·rename_i t p x ho
  exact EO hU ho hk0 hs g he
 ·rename_i t l m ho
  exact xp hU ho hk0 hs g he
 ·rename_i t r ho
  exact Ap hU ho hk.1 hk.2 hs g he
 ·rename_i t x y z ho
  exact xq hU ho hk hs g he
 ·rename_i cl ho
  obtain⟨callee,args,ts⟩:=cl;simp only at hk;split at hk
  ·rename_i q
   obtain⟨y,hy,hk⟩:=aI hk;split at hk
   ·rename_i f cap
    obtain⟨ys,hys,hk⟩:=fl hk;obtain⟨vs,hu,hn,hr⟩:=(aF he hy).FM;obtain⟨h1,h2⟩:=xz he _ _ hys;have:(execOp a.eval o).run P c.w=(callFunc f (args.map a.eval++vs)).run P c.w:=by
     grind [execOp,resolve,Deferred.ofValue,invoke]
    rw[this];refine Gy hk hs g ac1 fun i hi=>?_
    have hsz:(args.map a.eval).size=ys.length:=ac1
    by_cases hlt:i<ys.length
    ·have e1:(ys++cap)[i]=ys[i]:=by grind
     have hlt' :i<args.size:=ac1;have:=h2 i ac0 hlt;rw[e1];have e2:(args.map a.eval++vs).getD i undef=a.eval args.toList[i]:=by
      have h9:i<(args.map a.eval++vs).size:=ac1;rw[Array.getD,dif_pos h9]
      show(args.map a.eval++vs)[i]=_
      grind
     rw[e2];exact adN
    ·have hi' :i<ys.length+cap.length:=by grind
     have e1:(ys++cap)[i]=cap[i - ys.length]:=ac1;rw[e1];have e2:(args.map a.eval++vs).getD i undef=vs.getD (i - ys.length) undef:=by
      have h9:i<(args.map a.eval++vs).size:=ac1;have h8:i - ys.length<vs.size:=ac0;rw[Array.getD,dif_pos h9,Array.getD,dif_pos h8]
      show(args.map a.eval++vs)[i]=_
      rw[Array.getElem_append_right ac0]
      simp_all
     rw[e2];exact hr _ ac0
   ·exact ado
  ·split at hk
   ·rename_i x y t1 t2 hA hB
    obtain⟨A,hA',hk⟩:=aI hk;obtain⟨B,hB',hk2⟩:=aI hk;obtain⟨r,w',hr,hc⟩:∃r w',(Builtin.append_ #[t1,t2] o.type #[a.eval x,a.eval y]).run P c.w= .ok r w'∧eN c Q r w' :=by
     unfold apT at hk2;split at hk2
     ·rename_i ki hki
      exact II hU hki hk2 c _ _ hs g (aF he hA') (aF he hB')
     ·exact aiB
     ·exact aiB
     grind
    rw[ck ho];have e1:args= #[x,y]:=ac1;have e2:ts= #[t1,t2]:=ac1;subst e1;subst e2
    exact vM ac1 hc
   ·exact ado
  ·split at hk
   ·rename_i x y t1 t2 hA hB
    obtain⟨A,hA',hk⟩:=aI hk;obtain⟨B,hB',hk2⟩:=aI hk;obtain⟨r,w',hr,hc⟩:=GA (P:=P) (tx:=t2) (ty:=o.type) hU hk2 c _ _ hs g (aF he hA') (aF he hB');rw[ck ho];have e1:args= #[x,y]:=ac1;have e2:ts= #[t1,t2]:=ac1;subst e1;subst e2
    exact vM ac1 hc
   ·exact ado
  ·exact vG hU hk hs g he
 ·rename_i op ty x y t' ho
  split at hk
  ·rename_i hy
   exact Ki hU ho hy hk hs g he
  ·exact vG hU ac0 hs g he
 ·exact vG hU hk hs g he
end
section
variable (P : Program) (U : TypeId → TI) (n : Nat)
def qx(all:List Oper)(g:Nat):Option Tmp:=(all[g]?).bind (·.dst)
def jP(all:List Oper)(ρ:Env)(gd:Option (Nat×Bool))(yes no:Env→Prop):Prop:=
 match gd with
 |none=>yes ρ
 |some (g,want)=>match qx all g with
  |some d=>match lk ρ d with
   |some (.v (.bool t))=>(t=want→yes ((d,.b want)::ρ))∧(t= !want→no ((d,.b (!want))::ρ))
   |some (.v (.tuple _))=>no ρ
   |_=>False
  |none=>False
def KOp(k:Env→Heap→Prop)(ρ:Env)(d:Option Tmp)(x:AV)(h:Heap):Prop:=k (put ρ d x) h
def kr(all:List Oper):List Oper→Env→Heap→(Env→Heap→Prop)→Prop
 | [],ρ,h,K=>K ρ h
 |o::os,ρ,h,K=>dU n o.dst=true∧jP all ρ o.guard
   (fun ρ=>bf P U ρ h o (KOp (fun ρ h=>kr all os ρ h K) ρ o.dst))
   (fun ρ=>kr all os (put ρ o.dst (.v undef)) h K)
def WPK(K:Exit→Env→Heap→Prop)(c0:Cx)(e:Exit)(a:Act)(w:World):Prop:=
 ∃c ρ h,c.w=w∧Good c∧Ext c0 c∧cj c n ρ a∧Sub h c.h∧K e ρ h
end
section
variable {P : Program} {U : TypeId → TI} {n : Nat}
theorem cj.learn{c:Cx}{ρ:Env}{a:Act}(h:cj c n ρ a){d:Nat}{t:Bool}(hd:lk ρ d=some (.b t)){b:Bool}(hb:t=b):cj c n ((d,.b b)::ρ) a:=by
 subst hb;refine⟨h.size,h.defers,fun t' x hx=>?_⟩
 simp only[lk]at hx;split at hx
 ·rename_i e;subst e
  cases hx;exact h.rep _ _ hd
 ·exact h.rep _ _ hx
theorem Kr{c:Cx}{ρ:Env}{a:Act}(h:cj c n ρ a){d:Nat}{u:Value}(hd:lk ρ d=some (.v u))(hu:u≠undef∨d<a.tmps.size):a.tmps[d]? =some u:=by
 have:=(h.rep d _ hd).bP
 by_cases hlt:d<a.tmps.size
 ·simpa[hlt]using this
 ·have e:a.tmps.getD d undef=undef:=by grind
  rw[e]at this;rcases hu with hu|hu
  ·exact(hu this.symm).elim
  ·exact(hlt hu).elim
theorem Du{all:List Oper}{ρ:Env}{o:Oper}{yes no:Env→Prop}(hg:jP all ρ o.guard yes no){c:Cx}{a:Act}(he:cj c n ρ a):
  ∃ρ',cj c n ρ' a∧((Region.wanted o (yielded all.toArray a.tmps)=true∧yes ρ')∨(Region.wanted o (yielded all.toArray a.tmps)=false∧no ρ')):=by
 unfold jP at hg;split at hg
 ·grind [Region.wanted]
 ·rename_i g want hgd
  split at hg
  ·rename_i d hd
   have hd' :(all[g]?).bind (·.dst)=some d:=hd
   split at hg
   ·rename_i t ht
    obtain⟨h1,h2⟩:=hg;have hy:yielded all.toArray a.tmps g=some t:=by
     have:=Kr he ht (by grind [undef])
     simp[yielded,hd',this]
    by_cases e:t=want
    ·exact⟨_,he.learn ht e,.inl ⟨agv,h1 e⟩⟩
    ·have e' :t= !want:=by cases t<;>cases want<;>simp_all
     exact⟨_,he.learn ht e',.inr ⟨agv,h2 e'⟩⟩
   ·rename_i vs ht
    refine⟨ρ,he,.inr ⟨?_,hg⟩⟩;have hy:yielded all.toArray a.tmps g=none:=by
     have:=(he.rep _ _ ht).bP
     by_cases hlt:d<a.tmps.size
     ·have e:a.tmps[d]? =some (.tuple vs):=by simp_all
      simp[yielded,hd',e]
     ·have e:a.tmps[d]? =none:=by grind
      simp[yielded,hd',e]
    simp[Region.wanted,hgd,hy]
   ·exact hg.elim
  grind
theorem WPK.after{K:Exit→Env→Heap→Prop}{c0 c1:Cx}(he:Ext c0 c1){e:Exit}{a:Act}{w:World}(h:WPK n K c1 e a w):WPK n K c0 e a w:=by
 obtain⟨c,ρ,hh,h1,h2,h3,h4⟩:=h;exact⟨c,ρ,hh,h1,h2,he.trans h3,h4⟩
theorem rC(hU:∀t,aO P U t){all:List Oper}{K:Exit→Env→Heap→Prop}(c0:Cx):∀(l:List Oper) (ρ:Env) (h:Heap),kr P U n all l ρ h (K .normal)→
  ∀c a,Ext c0 c→Sub h c.h→Good c→cj c n ρ a→wpList P all.toArray (WPK n K c0) l a c.w
 | [],ρ,h,hk,c,a,hE,hs,g,he=>⟨c,ρ,h,rfl,g,hE,he,hs,hk⟩
 |o::os,ρ,h,hk,c,a,hE,hs,g,he=>by
  obtain⟨hd,hk⟩:=hk;obtain⟨ρ',he',hk⟩:=Du hk he;unfold wpList;rcases hk with⟨hw,hk⟩|⟨hw,hk⟩
  ·rw[if_pos hw]
   left
   have hu:=kL hU hk hs g he';have next:∀u w',eN c (KOp (fun ρ h=>kr P U n all os ρ h (K .normal)) ρ' o.dst) u w'→wpList P all.toArray (WPK n K c0) os (a.put o.dst u) w' :=by
    rintro u w' ⟨c',x,h',rfl,g',hE',hr,hs',hK⟩
    exact rC hU c0 os _ h' hK c' _ (hE.trans hE') hs' g' ((he'.mono hE').put hd hr)
   unfold Oper.wp;generalize (execOp a.eval o).run P c.w=r at hu;cases r with
   |ok nx w' =>
    exact ahm
   |halt x w' =>exact hu.elim
  ·rw[if_neg ac1]
   exact rC hU c0 os _ h hk c _ hE hs g (he'.put hd (.v _))
end
section
variable {P : Program} {U : TypeId → TI}
theorem Dh{ρ ρ' :Env}{x:Operand}(h:∀t,x= .tmp t→lk ρ t=lk ρ' t):ev ρ x=ev ρ' x:=by
 cases x with
 |tmp t=>exact h t rfl
 |_=>rfl
theorem mo{ρ ρ' :Env}:∀ {xs:List Operand},(∀x∈xs,ev ρ x=ev ρ' x)→evs ρ xs=evs ρ' xs
 | [],_=>rfl
 |x::r,h=>by
  simp only[evs];rw[h x ac7,mo fun y hy=>h y ac1]
theorem sM{ρ ρ' :Env}{x:Option Operand}{d:Nat}{k:Int→Prop}(h:∀y,x=some y→ev ρ y=ev ρ' y):ew ρ x d k=ew ρ' x d k:=by
 cases x with
 |none=>rfl
 |some y=>simp only[ew,withv,h y rfl]
theorem uz{ρ ρ' :Env}{fs:List (Nat×TypeId)}{k:List AV→Prop}:∀ {ps:List (Nat×Operand)} {cs:List AV},(∀p∈ps,ev ρ p.2=ev ρ' p.2)→withps U ρ fs ps cs k=withps U ρ' fs ps cs k
 | [],_,_=>rfl
 |(i,x)::r,cs,h=>by
  simp only[withps,withv];have h1:ev ρ x=ev ρ' x:=ag6;rw[h1];have h2:∀cs',withps U ρ fs r cs' k=withps U ρ' fs r cs' k:=fun cs' =>uz fun p hp=>h p ac1
  simp only[h2]
theorem J2{ρ ρ' :Env}{hp:Heap}{b:Builtin}{args:List Operand}{ts:List TypeId}{k:AV→Prop}(h:∀x∈args,ev ρ x=ev ρ' x):pvB U ρ hp b args ts k=pvB U ρ' hp b args ts k:=by
 cases b<;>simp only[pvB,withvs,mo h]
 ·grind [withv]
 grind [withv]
theorem Ag{ρ ρ' :Env}{ty:TypeId}{y:AV}{lo hi mx:Option Operand}{k:AV→Prop}(h1:∀x,lo=some x→ev ρ x=ev ρ' x)(h2:∀x,hi=some x→ev ρ x=ev ρ' x)(h3:∀x,mx=some x→ev ρ x=ev ρ' x):
  rK U ρ ty y lo hi mx k=rK U ρ' ty y lo hi mx k:=by
 have e1:∀d (k:Int→Prop),ew ρ lo d k=ew ρ' lo d k:=fun d k=>sM h1
 have e2:∀d (k:Int→Prop),ew ρ hi d k=ew ρ' hi d k:=fun d k=>sM h2
 cases mx with
 |none=>simp only[rK,e1,e2]
 |some m=>
  have e3:∀d (k:Int→Prop),ew ρ (some m) d k=ew ρ' (some m) d k:=fun d k=>sM h3
  simp only[rK,e1,e2,e3]
theorem En{ρ ρ' :Env}{h:Heap}{op:Op}{k:AV→Prop}(he:∀x∈op.operands,ev ρ x=ev ρ' x):pv U ρ h op k=pv U ρ' h op k:=by
 cases op<;>simp only[pv]
 case move x=>grind [withv,Op.operands]
 case assign x=>grind [withv,Op.operands]
 case pick c a b=>simp_all [withv,Op.operands]
 case nilCheck x=>grind [withv,Op.operands]
 case binOp op ty x y ty' =>grind [withv,Op.operands]
 case unOp op ty x=>grind [withv,Op.operands]
 case convert s d x=>grind [withv,Op.operands]
 case field ty x f=>grind [withv,Op.operands]
 case extract x i=>grind [withv,Op.operands]
 case index ty x y=>grind [withv,Op.operands]
 case fieldAddr ty x f=>grind [withv,Op.operands]
 case indexAddr ty x y=>grind [withv,Op.operands]
 case load ty x=>grind [withv,Op.operands]
 case slice ty x lo hi mx=>
  simp only[withv,he x aen]
  grind [Ag,Op.operands]
 case lookup mt x y ok=>grind [withv,Op.operands]
 case buildSlice ty n ps=>
  grind [evs,mo,Op.operands,withvs]
 case build ty ps=>
  have:∀fs cs (k:List AV→Prop),withps U ρ fs ps.toList cs k=withps U ρ' fs ps.toList cs k:=fun fs cs k=>uz fun p hp=>he p.2 (by simp only[Op.operands,List.mem_toArray,List.mem_map];grind)
  simp only[this]
 case makeInterface ty x=>grind [withv,Op.operands]
 case makeFunc fn first cap=>
  grind [evs,mo,Op.operands,withvs]
 grind [builtin,J2,Op.operands,Call.operands]
def restrict(ρ:Env)(S:List Nat):Env:=ρ.filter fun p=>S.contains p.1
theorem lp(S:List Nat)(t:Nat):∀ρ:Env,lk (restrict ρ S) t=if S.contains t then lk ρ t else none
 | []=>by simp[restrict,lk]
 |(k,x)::r=>by
  have ih:=lp S t r;simp only[restrict,List.filter_cons]at ih⊢
  by_cases hk:S.contains k=true
  ·rw[if_pos hk]
   simp only[lk]
   by_cases e:k=t
   ·subst e;rw[if_pos rfl,if_pos hk,if_pos rfl]
   ·rw[if_neg e,if_neg e];exact ih
  ·rw[if_neg hk]
   rw[ih]
   by_cases e:k=t
   ·subst e
    simp only[hk];rfl
   ·simp only[lk,if_neg e]
def fc(op:Op):List Nat:=op.operands.toList.filterMap fun|.tmp t=>some t|_=>none
abbrev EF:=Nat→Option AV
def DUpon(P:Program)(c:Cx)(h:Heap)(X:AV):Result Next→Prop
 |.ok (.value u) w' =>∃c',c'.w=w'∧Good c'∧Ext c c'∧Sub h c'.h∧Rep c' X u
 |.ok .skip w' =>∃c',c'.w=w'∧Good c'∧Ext c c'∧Sub h c'.h∧Rep c' X undef
 |.ok (.enter f args) w' =>w' =c.w∧Calls P f args w' fun e w'' =>∃u,e= .returned u∧∃c',c'.w=w''∧Good c'∧Ext c c'∧Sub h c'.h∧Rep c' X u
 |_=>False
def DOK(P:Program)(o:Oper)(F:EF)(h:Heap)(X:AV):Prop:=
 ∀(c:Cx) (a:Act),Sub h c.h→Good c→a.defers= []→(∀t∈fc o.op,∀x,F t=some x→Rep c x (a.tmps.getD t undef))→DUpon P c h X ((execOp a.eval o).run P c.w)
def jv(P:Program)(U:TypeId→TI)(ρ:Env)(h:Heap)(o:Oper)(Q:AV→Prop):Prop:=
 match o.op with
 |.call c=>match c.callee with
  |.value q=>withv ρ q fun y=>match y with
   |.fn f cap=>withvs ρ c.args.toList fun ys=>∃X,ai P f (ys++cap) h (fun x h' =>x=X∧h' =h)∧Q X
   |_=>False
  |_=>pv U ρ h o.op Q
 |_=>pv U ρ h o.op Q
theorem GS{ρ:Env}{h:Heap}{o:Oper}{Q:AV→Prop}(hU:∀t,aO P U t)(hk:jv P U ρ h o Q):∃X,Q X∧DOK P o (lk ρ) h X:=by
 have hev:∀x∈o.op.operands,ev (restrict ρ (fc o.op)) x=ev ρ x:=fun x hx=>Dh fun t ht=>by
  exact aiC
 have henv:∀ {c:Cx} {a:Act},a.defers= []→(∀t∈fc o.op,∀x,lk ρ t=some x→Rep c x (a.tmps.getD t undef))→cj c a.tmps.size (restrict ρ (fc o.op)) a:=fun hd hr=>
  ⟨rfl,hd,fun t x hx=>by
   rw[lp]at hx;split at hx
   ·rename_i hc
    exact hr t ac1 x hx
   ·cases hx⟩
 have pure:pv U ρ h o.op Q→∃X,Q X∧DOK P o (lk ρ) h X:=fun hp=>by
  rw[←En hev]at hp;obtain⟨X,hQ,hX⟩:=zm hU hp;refine⟨X,hQ,fun c a hs g hd hr=>?_⟩
  obtain⟨u,c',h1,h2,h3,h4,h5⟩:=hX c a _ hs g (henv hd hr);rw[h1];exact⟨c',rfl,h2,h3,ac1,h5⟩
 unfold jv at hk;split at hk
 ·rename_i cl ho
  obtain⟨callee,args,ts⟩:=cl;simp only at hk;split at hk
  ·rename_i q
   obtain⟨y,hy,hk⟩:=aI hk;split at hk
   ·rename_i f cap
    obtain⟨ys,hys,X,hf,hQ⟩:=fl hk;refine⟨X,hQ,fun c a hs g hd hr=>?_⟩
    have he:=henv hd hr;have hvc:bf P U (restrict ρ (fc o.op)) h o (fun x h' =>x=X∧h' =h):=by
     have e1:ev (restrict ρ (fc o.op)) q=some (.fn f cap):=by grind [Op.operands,Call.operands]
     have e2:evs (restrict ρ (fc o.op)) args.toList=some ys:=by
      grind [mo,Op.operands,Call.operands]
     simp only[bf,ho];simp only[ho]at e1 e2;simp only[withv,e1,withvs,e2];exact hf
    have hu:=kL hU hvc hs g he;generalize (execOp a.eval o).run P c.w=r at hu;have conv:∀u w',eN c (fun x h' =>x=X∧h' =h) u w'→∃c',c'.w=w'∧Good c'∧Ext c c'∧Sub h c'.h∧Rep c' X u:=by
     rintro u w' ⟨c',x,h',h1,h2,h3,h4,h5,rfl,rfl⟩
     grind
    cases r with
    |ok nx w' =>
     cases nx<;>simp only[kW]at hu<;>simp only[DUpon]
     case value u=>exact conv _ _ hu
     case skip=>exact conv _ _ hu
     case enter f args=>exact⟨hu.1,hu.2.mono fun e w'' ⟨u,he,hc⟩=>⟨u,he,conv _ _ hc⟩⟩
    |halt x w' =>exact hu.elim
   ·exact ado
  ·exact pure hk
 ·exact pure hk
end
section
variable {P : Program} {U : TypeId → TI} {ops : Array Oper} {md : Region.Mode} {h : Heap}
def fS(F:EF):Option Tmp→AV→EF
 |some d,x=>upd F d (some x)
 |none,_=>F
theorem qP(ρ:Env)(d:Option Tmp)(x:AV):lk (put ρ d x)=fS (lk ρ) d x:=by
 cases d with
 |none=>rfl
 |some d=>
  funext t
  simp only[put,lk,fS,upd]
  grind
def cA(ops:Array Oper)(F:EF)(o:Oper):Option Bool:=
 match o.guard with
 |none=>some true
 |some (g,want)=>match (ops[g]?).bind (·.dst)with
  |some d=>match F d with
   |some (.v (.bool t))=>some (t==want)
   |some (.v (.tuple _))=>some false
   |_=>none
  |none=>none
def vV(P:Program)(ops:Array Oper)(h:Heap)(o:Oper)(K:EF→Prop)(F:EF):Prop:=
 (cA ops F o=some true∧∃X,DOK P o F h X∧K (fS F o.dst X))∨(cA ops F o=some false∧K (fS F o.dst (.v undef)))
def dOp(P:Program)(ops:Array Oper)(h:Heap)(i:Nat)(K:EF→Prop)(F:EF):Prop:=
 match ops[i]? with
 |none=>K F
 |some o=>vV P ops h o K F
def dList(P:Program)(ops:Array Oper)(h:Heap)(Q:EF→Prop):List Oper→EF→Prop
 | [],F=>Q F
 |o::r,F=>vV P ops h o (dList P ops h Q r) F
def Lj(P:Program)(md:Region.Mode)(ops:Array Oper)(h:Heap)(Q:EF→Prop):Nat→Array Bool→EF→Prop
 |0,listed,F=>Region.ready md ops listed= []∧Q F
 |fuel+1,listed,F=>(Region.ready md ops listed= []→Q F)∧∀i∈Region.ready md ops listed,dOp P ops h i (Lj P md ops h Q fuel (listed.setIfInBounds i true)) F
theorem Fy{o:Oper}{F:EF}{K K' :EF→Prop}(hk:∀F,K F→K' F)(hs:vV P ops h o K F):vV P ops h o K' F:=by
 rcases hs with⟨h1,X,h2,h3⟩|⟨h1,h2⟩
 ·exact .inl ⟨h1,X,h2,hk _ h3⟩
 ·exact .inr ⟨h1,hk _ h2⟩
theorem yd{i:Nat}{F:EF}{K K' :EF→Prop}(hk:∀F,K F→K' F)(hs:dOp P ops h i K F):dOp P ops h i K' F:=by
 grind [dOp,Fy]
def YD(P:Program)(ops:Array Oper)(h:Heap)(o:Oper)(X:AV)(F:EF):Prop:=
 (cA ops F o=some true∧DOK P o F h X)∨(cA ops F o=some false∧X= .v undef)
theorem C7{o:Oper}{X:AV}{F:EF}{K:EF→Prop}(hy:YD P ops h o X F)(hk:K (fS F o.dst X)):vV P ops h o K F:=by
 rcases hy with⟨h1,h2⟩|⟨h1,rfl⟩
 ·exact .inl ⟨h1,X,h2,hk⟩
 ·exact .inr ⟨h1,hk⟩
theorem vN{o:Oper}{F:EF}{K:EF→Prop}(hs:vV P ops h o K F):∃X,YD P ops h o X F∧K (fS F o.dst X):=by
 rcases hs with⟨h1,X,h2,h3⟩|⟨h1,h2⟩
 ·exact⟨X,.inl ⟨h1,h2⟩,h3⟩
 ·exact⟨_,.inr ⟨h1,rfl⟩,h2⟩
theorem kH{F:EF}{d:Option Tmp}{x:AV}{t:Nat}(hd:∀e,d=some e→e≠t):fS F d x t=F t:=by
 cases d with
 |none=>rfl
 |some e=>exact ag _ _ ac1
theorem iN(F:EF){x y:Option Tmp}(v u:AV)(hd:∀d,x=some d→y≠some d):fS (fS F x v) y u=fS (fS F y u) x v:=by
 cases x with
 |none=>rfl
 |some d=>cases y with
  |none=>rfl
  |some e=>
   funext t
   simp only[fS,upd]
   grind
theorem Ax{o:Oper}{F F' :EF}{X:AV}(hf:∀t∈fc o.op,F t=F' t)(hd:DOK P o F h X):DOK P o F' h X:=
 fun c a hs g hdf hr=>hd c a hs g hdf fun t ht x hx=>hr t ht x ac1
theorem iC{o:Oper}{t:Nat}(ht:t∈fc o.op):t∈o.looksAt ops:=by
 simp only[Oper.looksAt,List.mem_append];exact .inl ht
theorem cG{o:Oper}{F F' :EF}(hf:∀t∈o.looksAt ops,F t=F' t):cA ops F o=cA ops F' o:=by
 grind [cA,Oper.looksAt]
theorem CN{o:Oper}{F F' :EF}{X:AV}(hf:∀t∈o.looksAt ops,F t=F' t)(hy:YD P ops h o X F):YD P ops h o X F' :=by
 rcases hy with⟨h1,h2⟩|⟨h1,h2⟩
 ·exact .inl ⟨afi,Ax agV h2⟩
 ·exact .inr ⟨afi,h2⟩
theorem B7{j:Nat}{oi oj:Oper}{X:AV}(hj:ops[j]? =some oj)(hap:oi.apart ops oj=true){K:EF→Prop}{F:EF}
  (hy:YD P ops h oi X F) (hs:dOp P ops h j K (fS F oi.dst X)):dOp P ops h j (fun F' =>YD P ops h oi X F'∧K (fS F' oi.dst X)) F:=by
 obtain⟨h1,h2,h3⟩:=Oper.apart_spec hap;unfold dOp at*;simp only[hj]at*;have hlook:∀t∈oj.looksAt ops,fS F oi.dst X t=F t:=fun t ht=>kH fun e he hte=>h1 e he (hte▸ht)
 have hlook2:∀u,∀t∈oi.looksAt ops,F t=fS F oj.dst u t:=fun u t ht=>(kH fun e he hte=>h3 e he (hte▸ht)).symm
 rcases hs with⟨w1,Y,w2,w3⟩|⟨w1,w2⟩
 ·refine .inl ⟨afi,Y,Ax agV w2,CN (hlook2 Y) hy,?_⟩
  rw[←iN F X Y h2];exact w3
 ·refine .inr ⟨afi,CN (hlook2 _) hy,?_⟩
  rw[←iN F X _ h2];exact w2
theorem mh{i:Nat}{oi:Oper}{X:AV}{F:EF}{K:EF→Prop}(hi:ops[i]? =some oi)(hy:YD P ops h oi X F)(hk:K (fS F oi.dst X)):dOp P ops h i K F:=by
 grind [dOp,C7]
theorem Fx{Q:EF→Prop}{i:Nat}{oi:Oper}{X:AV}(hi:ops[i]? =some oi):
  ∀(fuel:Nat) (listed:Array Bool) (F:EF),
   (∀j oj,ops[j]? =some oj→j≠i→listed.getD j true=false→(∀e∈oj.after,Region.binds md e=true→e.on≠i)→oi.apart ops oj=true)→
   i∈Region.ready md ops listed→YD P ops h oi X F→
   Lj P md ops h Q fuel (listed.setIfInBounds i true) (fS F oi.dst X)→Lj P md ops h Q (fuel+1) listed F:=by
 intro fuel
 induction fuel with
 |zero=>
  intro listed F _ hr hy H;refine⟨fun e=>aet,fun j hj=>?_⟩
  by_cases hji:j=i
  ·subst hji;exact mh hi hy H
  ·have:=ready_mono hj hji
   rw[H.1]at this;cases this
 |succ fuel ih=>
  intro listed F hfree hr hy H;refine⟨fun e=>aet,fun j hj=>?_⟩
  by_cases hji:j=i
  ·subst hji;exact mh hi hy H
  ·have h1:=H.2 j (ready_mono hj hji)
   obtain⟨hjun,oj,hoj,hall⟩:=mem_ready.1 hj;have hnot:∀e∈oj.after,Region.binds md e=true→e.on≠i:=fun e he hb heq=>by
    exact aho
   have h2:=B7 hoj (hfree j oj hoj hji hjun hnot) hy h1;have hfree' :∀k ok,ops[k]? =some ok→k≠i→(listed.setIfInBounds j true).getD k true=false→
     (∀e∈ok.after,Region.binds md e=true→e.on≠i)→oi.apart ops ok=true:=fun k ok hk hki hun hno=>by
    refine hfree k ok hk hki ?_ hno
    by_cases hjk:j=k
    ·subst hjk;exact hjun
    ·rw[getD_set_ne true hjk]at hun;exact hun
   refine yd (fun F' h3=>ih (listed.setIfInBounds j true) F' hfree' (ready_mono hr (Ne.symm hji)) h3.1 ?_) h2
   rw[Array.setIfInBounds_comm _ _ hji];exact h3.2
theorem C6{Q:EF→Prop}:∀(l:List Oper) (k:Nat) (listed:Array Bool) (F:EF),(∀j,l[j]? =ops[k+j]?)→
  Region.lexFrom md ops l.length k listed=true→dList P ops h Q l F→Lj P md ops h Q l.length listed F
 | [],_,_,_,_,hB,hd=>⟨by grind [Region.lexFrom],hd⟩
 |o::l,k,listed,F,hl,hB,hd=>by
  have h0:ops[k]? =some o:=by simpa using(hl 0).symm
  simp only[List.length_cons,Region.lexFrom,Bool.and_eq_true]at hB;obtain⟨⟨hr,hf⟩,hB'⟩:=hB;obtain⟨X,hy,hK⟩:=vN hd;exact Fx h0 l.length listed F (Region.free_spec h0 hf) ac1 hy
   (C6 l (k+1) _ _ (fun j=>by have:=hl (j+1);simpa[Nat.add_assoc,Nat.add_comm 1 j]using this) hB' hK)
def mE(c:Cx)(n:Nat)(F:EF)(a:Act):Prop:=a.tmps.size=n∧a.defers= []∧∀t x,F t=some x→Rep c x (a.tmps.getD t undef)
theorem mE.put{c:Cx}{n:Nat}{F:EF}{a:Act}(he:mE c n F a){d:Option Tmp}(hd:dU n d=true){x:AV}{u:Value}(hx:Rep c x u):mE c n (fS F d x) (a.put d u):=by
 obtain⟨h1,h2,h3⟩:=he;cases d with
 |none=>exact⟨h1,h2,h3⟩
 |some d=>
  have hd' :d<a.tmps.size:=by rw[h1];exact acS hd
  refine⟨by grind [Act.put],h2,fun t y hy=>?_⟩
  simp only[fS,upd]at hy;split at hy
  ·exact aiL
  ·rename_i e
   have:=h3 t y hy;have e' :¬d=t:=fun h=>e h.symm
   simpa[Act.put,Array.getElem?_setIfInBounds_ne e']using this
theorem mE.mono{c c' :Cx}{n:Nat}{F:EF}{a:Act}(he:Ext c c')(hf:mE c n F a):mE c' n F a:=⟨hf.1,hf.2.1,fun t x hx=>(hf.2.2 t x hx).mono he⟩
theorem j4{c:Cx}{n:Nat}{F:EF}{a:Act}{o:Oper}{b:Bool}(he:mE c n F a)(hw:cA ops F o=some b):Region.wanted o (yielded ops a.tmps)=b:=by
 unfold cA at hw;split at hw
 ·grind [Option.some.injEq,Region.wanted]
 ·rename_i g want hg
  split at hw
  ·rename_i d hd
   split at hw
   ·rename_i t ht
    simp only[Option.some.injEq]at hw;subst hw
    have h1:=(he.2.2 d _ ht).bP;have h2:a.tmps[d]? =some (.bool t):=by
     by_cases hlt:d<a.tmps.size
     ·simp_all
     grind [undef,Nat.le_of_not_lt]
    have h3:yielded ops a.tmps g=some t:=by grind [yielded]
    simp[Region.wanted,hg,h3]
   ·rename_i vs ht
    simp only[Option.some.injEq]at hw;subst hw
    have h1:=(he.2.2 d _ ht).bP;have h3:yielded ops a.tmps g=none:=by
     by_cases hlt:d<a.tmps.size
     ·simp_all [some,yielded]
     simp_all [none,Nat.le_of_not_lt,yielded]
    simp[Region.wanted,hg,h3]
   grind
  grind
theorem AH{n:Nat}{i:Nat}{K:EF→Prop}{K' :Act→World→Prop}{Q:Exit→Act→World→Prop}{c0:Cx}(hdst:∀o∈ops.toList,dU n o.dst=true)
  (hk:∀c F a,Ext c0 c→Sub h c.h→Good c→mE c n F a→K F→K' a c.w) {c:Cx} {F:EF} {a:Act} (hE:Ext c0 c) (hs:Sub h c.h) (g:Good c) (he:mE c n F a) (hd:dOp P ops h i K F):wpOp P ops Q i K' a c.w:=by
 unfold dOp at hd;unfold wpOp;split
 ·rename_i ho;simp only[ho]at hd;exact hk c F a hE hs g he hd
 ·rename_i o ho
  simp only[ho]at hd;have hdo:dU n o.dst=true:=ac1;rcases hd with⟨h1,X,h2,h3⟩|⟨h1,h2⟩
  ·rw[if_pos (j4 he h1)]
   left
   have hu:=h2 c a hs g he.2.1 (fun t _ x hx=>he.2.2 t x hx)
   have next:∀u w',(∃c',c'.w=w'∧Good c'∧Ext c c'∧Sub h c'.h∧Rep c' X u)→K' (a.put o.dst u) w' :=by
    rintro u w' ⟨c',rfl,k1,k2,k3,k4⟩
    exact hk c' _ _ (hE.trans k2) k3 k1 ((he.mono k2).put hdo k4) h3
   unfold Oper.wp;generalize (execOp a.eval o).run P c.w=r at hu;cases r with
   |ok nx w' =>
    cases nx<;>simp only[DUpon]at hu<;>simp only[Oper.upon]
    case value u=>exact next u w' hu
    case skip=>exact next undef w' hu
    case enter f args=>
     obtain⟨rfl,hc⟩:=hu;exact hc.mono fun e w'' ⟨u,he,hcm⟩=>ac1
   |halt x w' =>exact hu.elim
  ·rw[if_neg (by grind [j4])]
   exact hk c _ _ hE hs g (he.put hdo (.v _)) h2
theorem yc{n:Nat}{Q:EF→Prop}{Q' :Exit→Act→World→Prop}{c0:Cx}(hdst:∀o∈ops.toList,dU n o.dst=true)
  (hQ:∀c F a,Ext c0 c→Sub h c.h→Good c→mE c n F a→Q F→Q' .normal a c.w):∀(fuel:Nat) (listed:Array Bool) (c:Cx) (F:EF) (a:Act),Ext c0 c→Sub h c.h→Good c→mE c n F a→
   Lj P md ops h Q fuel listed F→wpAny P md ops Q' fuel listed a c.w
 |0,_,c,F,a,h1,h2,h3,h4,hd=>⟨hd.1,hQ c F a h1 h2 h3 h4 hd.2⟩
 |fuel+1,listed,c,F,a,h1,h2,h3,h4,hd=>
  ⟨fun e=>hQ c F a h1 h2 h3 h4 (hd.1 e),fun i hi=>AH hdst (fun c F a k1 k2 k3 k4 hk=>yc hdst hQ fuel _ c F a k1 k2 k3 k4 hk) h1 h2 h3 h4 (hd.2 i hi)⟩
def ya(P:Program)(md:Region.Mode)(ops:Array Oper)(h:Heap)(z:Nat)(Q:EF→Prop):Nat→Array Bool→EF→Prop
 |0,listed,F=>(Region.ready md ops listed= [z]∧Region.ready md ops (listed.setIfInBounds z true)= [])∧Q F
 |fuel+1,listed,F=>Region.ready md ops listed≠ []∧∀i∈Region.ready md ops listed,dOp P ops h i (ya P md ops h z Q fuel (listed.setIfInBounds i true)) F
def zOK(md:Region.Mode)(ops:Array Oper)(z:Nat):Bool:=match ops[z]? with
 |some oz=>(List.range ops.size).all fun k=>k==z||oz.after.toList.any fun e=>Region.binds md e && e.on==k
 |none=>false
theorem Nz{z:Nat}(hz:zOK md ops z=true){listed:Array Bool}{i:Nat}(h1:z∈Region.ready md ops listed)(h2:i∈Region.ready md ops listed):i=z:=by
 obtain⟨_,oz,hoz,hall⟩:=mem_ready.1 h1;obtain⟨hun,oi,hoi,_⟩:=mem_ready.1 h2;unfold zOK at hz;rw[hoz]at hz;rw[List.all_eq_true]at hz;have:=hz i ac1;rw[Bool.or_eq_true]at this;rcases this with e|e
 ·exact beq_iff_eq.1 e
 ·rw[List.any_eq_true]at e
  exfalso
  grind
theorem P8{Q:EF→Prop}{z i:Nat}{oi:Oper}{X:AV}(hz:zOK md ops z=true)(hi:ops[i]? =some oi):
  ∀(fuel:Nat) (listed:Array Bool) (F:EF),
   (∀j oj,ops[j]? =some oj→j≠i→listed.getD j true=false→(∀e∈oj.after,Region.binds md e=true→e.on≠i)→oi.apart ops oj=true)→
   i∈Region.ready md ops listed→YD P ops h oi X F→
   ya P md ops h z Q fuel (listed.setIfInBounds i true) (fS F oi.dst X)→ya P md ops h z Q (fuel+1) listed F:=by
 intro fuel
 induction fuel with
 |zero=>
  intro listed F _ hr hy H;refine⟨fun e=>ac1,fun j hj=>?_⟩
  by_cases hji:j=i
  ·grind [mh]
  ·have:=ready_mono hj hji
   rw[H.1.1]at this;obtain rfl:j=z:=ac1;exact(hji (Nz hz hj hr).symm).elim
 |succ fuel ih=>
  intro listed F hfree hr hy H;refine⟨fun e=>ac1,fun j hj=>?_⟩
  by_cases hji:j=i
  ·grind [mh]
  ·have h1:=H.2 j (ready_mono hj hji)
   obtain⟨hjun,oj,hoj,hall⟩:=mem_ready.1 hj;have hnot:∀e∈oj.after,Region.binds md e=true→e.on≠i:=fun e he hb heq=>by
    grind [mem_ready,Nat.lt_or_ge,Array.getElem?_eq_none]
   have h2:=B7 hoj (hfree j oj hoj hji hjun hnot) hy h1;have hfree' :∀k ok,ops[k]? =some ok→k≠i→(listed.setIfInBounds j true).getD k true=false→
     (∀e∈ok.after,Region.binds md e=true→e.on≠i)→oi.apart ops ok=true:=fun k ok hk hki hun hno=>by
    refine hfree k ok hk hki ?_ hno
    by_cases hjk:j=k
    ·grind
    simp_all
   refine yd (fun F' h3=>ih (listed.setIfInBounds j true) F' hfree' (ready_mono hr (Ne.symm hji)) h3.1 ?_) h2
   grind [Array.setIfInBounds_comm]
def L7(md:Region.Mode)(ops:Array Oper)(z:Nat):Nat→Nat→Array Bool→Bool
 |0,_,listed=>Region.ready md ops listed== [z] && (Region.ready md ops (listed.setIfInBounds z true)).isEmpty
 |fuel+1,k,listed=>(Region.ready md ops listed).contains k && Region.free md ops listed k && L7 md ops z fuel (k+1) (listed.setIfInBounds k true)
theorem vU{n z:Nat}{Q:EF→Prop}{Q' :Exit→Act→World→Prop}{c0:Cx}(hdst:∀o∈ops.toList,dU n o.dst=true)
  (hQ:∀c F a,Ext c0 c→Sub h c.h→Good c→mE c n F a→Q F→wpOp P ops Q' z (fun a' w' =>Q' .normal a' w') a c.w):∀(fuel:Nat) (listed:Array Bool) (c:Cx) (F:EF) (a:Act),Ext c0 c→Sub h c.h→Good c→mE c n F a→
   ya P md ops h z Q fuel listed F→wpAny P md ops Q' (fuel+1) listed a c.w
 |0,listed,c,F,a,h1,h2,h3,h4,hd=>⟨fun e=>(by rw[hd.1.1]at e;cases e),fun i hi=>by
   rw[hd.1.1]at hi;obtain rfl:i=z:=ac1;exact wpOp_mono (fun a w hh=>⟨hd.1.2,hh⟩) (hQ c F a h1 h2 h3 h4 hd.2)⟩
 |fuel+1,listed,c,F,a,h1,h2,h3,h4,hd=>
  ⟨fun e=>absurd e hd.1,fun i hi=>AH hdst (fun c F a k1 k2 k3 k4 hk=>vU hdst hQ fuel _ c F a k1 k2 k3 k4 hk) h1 h2 h3 h4 (hd.2 i hi)⟩
end
section
variable {P : Program} {U : TypeId → TI} {ops : Array Oper} {md : Region.Mode} {hm : Heap}
def cO:Op→Bool
 |.call c=>match c.callee with
  |.value _=>true
  |.builtin .append=>true
  |.builtin .copy=>true
  |_=>false
 |.alloc _=>true
 |.box _ _=>true
 |.store _ _ _=>true
 |.makeSlice _ _ _=>true
 |.makeMap _ _=>true
 |.mapUpdate _ _ _ _=>true
 |_=>false
def DPure(P:Program)(o:Oper)(F:EF)(hm:Heap)(X:AV):Prop:=
 ∀(c:Cx) (a:Act),Sub hm c.h→Good c→a.defers= []→(∀t∈fc o.op,∀x,F t=some x→Rep c x (a.tmps.getD t undef))→
  ∃u c',(execOp a.eval o).run P c.w= .ok (.value u) c'.w∧Good c'∧Ext c c'∧c'.h=c.h∧Rep c' X u
def EOK(P:Program)(o:Oper)(F:EF)(h:Heap)(Q:AV→Heap→Prop):Prop:=
 ∀(c:Cx) (a:Act),Sub h c.h→Good c→a.defers= []→(∀t∈fc o.op,∀x,F t=some x→Rep c x (a.tmps.getD t undef))→kW P c Q ((execOp a.eval o).run P c.w)
theorem tu{c:Cx}{a:Act}{ρ:Env}{o:Oper}(hd:a.defers= [])(hr:∀t∈fc o.op,∀x,lk ρ t=some x→Rep c x (a.tmps.getD t undef)):cj c a.tmps.size (restrict ρ (fc o.op)) a:=
 ⟨rfl,hd,fun t x hx=>by
  rw[lp]at hx;split at hx
  ·rename_i hc
   exact hr t ac1 x hx
  ·cases hx⟩
theorem vY(ρ:Env)(o:Oper):∀x∈o.op.operands,ev (restrict ρ (fc o.op)) x=ev ρ x:=fun x hx=>Dh fun t ht=>by
 exact aiC
theorem Gr{ρ:Env}{o:Oper}{Q:AV→Prop}(hU:∀t,aO P U t)(hp:pv U ρ hm o.op Q):∃X,Q X∧DPure P o (lk ρ) hm X:=by
 rw[←En (vY ρ o)]at hp;obtain⟨X,hQ,hX⟩:=zm hU hp;exact⟨X,hQ,fun c a hs g hd hr=>hX c a _ hs g (tu hd hr)⟩
theorem E0{ρ ρ' :Env}{h:Heap}{o:Oper}{Q:AV→Heap→Prop}(hb:cO o.op=true)(he:∀x∈o.op.operands,ev ρ x=ev ρ' x):bf P U ρ h o Q=bf P U ρ' h o Q:=by
 obtain⟨d,op,t,p,a,g⟩:=o;simp only at hb he;cases op with
 |alloc t=>rfl
 |box t x=>simp only[bf,withv,he x aen]
 |store t a x=>simp only[bf,withv,he a aen,he x aen]
 |makeSlice t l m=>simp only[bf,withv,he l aen,he m aen]
 |makeMap t r=>
  cases r with
  |none=>rfl
  |some x=>simp only[bf,Il,withv,he x aen]
 |mapUpdate t x y z=>simp only[bf,withv,he x aen,he y aen,he z aen]
 |call c=>
  obtain⟨cal,args,ts⟩:=c;have ha:∀x∈args.toList,ev ρ x=ev ρ' x:=fun x hx=>he x (by simp only[Op.operands,Call.operands,Array.mem_append];exact .inr (by simpa using hx))
  cases cal with
  |value q=>
   simp only[bf,withv,withvs,he q (by simp[Op.operands,Call.operands]),mo ha]
  |builtin b=>
   cases b with
   |append=>
    exact air
   |copy=>
    exact air
   |_=>simp[cO]at hb
  |_=>simp[cO]at hb
 |_=>simp[cO]at hb
def vcE(P:Program)(U:TypeId→TI)(ρ:Env)(h:Heap)(o:Oper)(Q:AV→Heap→Prop):Prop:=bf P U ρ h o Q
theorem BC{ρ:Env}{h:Heap}{o:Oper}{Q:AV→Heap→Prop}(hU:∀t,aO P U t)(hb:cO o.op=true)(hk:vcE P U ρ h o Q):EOK P o (lk ρ) h Q:=by
 intro c a hs g hd hr;unfold vcE at hk;rw[←E0 hb (vY ρ o)]at hk;exact kL hU hk hs g (tu hd hr)
def DQ(P:Program)(o:Oper)(F:EF)(hm:Heap)(X:AV):Prop:=∀h,Sub hm h→EOK P o F h fun x h' =>x=X∧h' =h
theorem DPure.quiet{o:Oper}{F:EF}{X:AV}(hp:DPure P o F hm X):DQ P o F hm X:=by
 intro h hs c a hc g hd hr;obtain⟨u,c',e1,g',hE,e2,hr'⟩:=hp c a (fun i b hb=>hc i b (hs i b hb)) g hd hr
 rw[e1];exact⟨c',X,h,rfl,g',hE,hr',ac1,rfl,rfl⟩
def FnQ(P:Program)(f:FuncId)(args:List AV)(hm:Heap)(k:AV→Prop):Prop:=∃X,(∀h,Sub hm h→ai P f args h fun x h' =>x=X∧h' =h)∧k X
def vcQ(P:Program)(U:TypeId→TI)(ρ:Env)(hm:Heap)(o:Oper)(k:AV→Prop):Prop:=match o.op with
 |.call c=>match c.callee with
  |.value q=>withv ρ q fun y=>match y with
   |.fn f cap=>withvs ρ c.args.toList fun ys=>FnQ P f (ys++cap) hm k
   |_=>False
  |_=>False
 |_=>False
theorem BE{ρ:Env}{o:Oper}{k:AV→Prop}(hU:∀t,aO P U t)(hk:vcQ P U ρ hm o k):∃X,k X∧DQ P o (lk ρ) hm X:=by
 obtain⟨d,op,t,p,a,g⟩:=o;unfold vcQ at hk;simp only at hk;split at hk
 ·rename_i cl
  obtain⟨cal,args,ts⟩:=cl;simp only at hk;split at hk
  ·rename_i q
   obtain⟨y,hy,hk⟩:=aI hk;split at hk
   ·rename_i f cap
    obtain⟨ys,hys,X,hf,hQ⟩:=fl hk;refine⟨X,hQ,fun h hs=>BC hU rfl ?_⟩
    grind [vcE,bf,withv,withvs]
   grind
  grind
 grind
def oA(P:Program)(ops:Array Oper)(hm:Heap)(o:Oper)(K:EF→Heap→Prop)(F:EF)(h:Heap):Prop:=
 (cA ops F o=some true∧(cO o.op=true∧(∃Q:AV→Heap→Prop,EOK P o F h Q∧∀X h',Q X h'→Sub hm h'∧K (fS F o.dst X) h')∨∃X,DQ P o F hm X∧K (fS F o.dst X) h))∨
 (cA ops F o=some false∧K (fS F o.dst (.v undef)) h)
def hOp(P:Program)(ops:Array Oper)(hm:Heap)(i:Nat)(K:EF→Heap→Prop)(F:EF)(h:Heap):Prop:=
 match ops[i]? with
 |none=>K F h
 |some o=>oA P ops hm o K F h
def yA(P:Program)(md:Region.Mode)(ops:Array Oper)(hm:Heap)(Q:EF→Heap→Prop):Nat→Array Bool→EF→Heap→Prop
 |0,listed,F,h=>Region.ready md ops listed= []∧Q F h
 |fuel+1,listed,F,h=>(Region.ready md ops listed= []→Q F h)∧∀i∈Region.ready md ops listed,hOp P ops hm i (yA P md ops hm Q fuel (listed.setIfInBounds i true)) F h
theorem FU{o:Oper}{F:EF}{h:Heap}{K K' :EF→Heap→Prop}(hk:∀F h,K F h→K' F h)(hs:oA P ops hm o K F h):oA P ops hm o K' F h:=by
 rcases hs with⟨h1,⟨h2,Q,h3,h4⟩|⟨X,h3,h4⟩⟩|⟨h1,h2⟩
 ·exact .inl ⟨h1,.inl ⟨h2,Q,h3,fun X h' hq=>⟨(h4 X h' hq).1,hk _ _ (h4 X h' hq).2⟩⟩⟩
 ·exact .inl ⟨h1,.inr ⟨X,h3,hk _ _ h4⟩⟩
 ·exact .inr ⟨h1,hk _ _ h2⟩
theorem fu{i:Nat}{F:EF}{h:Heap}{K K' :EF→Heap→Prop}(hk:∀F h,K F h→K' F h)(hs:hOp P ops hm i K F h):hOp P ops hm i K' F h:=by
 grind [hOp,FU]
def YP(P:Program)(ops:Array Oper)(hm:Heap)(o:Oper)(X:AV)(F:EF):Prop:=
 (cA ops F o=some true∧DQ P o F hm X)∨(cA ops F o=some false∧X= .v undef)
theorem Dz{o:Oper}{X:AV}{F:EF}{h:Heap}{K:EF→Heap→Prop}(hy:YP P ops hm o X F)(hk:K (fS F o.dst X) h):oA P ops hm o K F h:=by
 rcases hy with⟨h1,h3⟩|⟨h1,rfl⟩
 ·exact .inl ⟨h1,.inr ⟨X,h3,hk⟩⟩
 ·exact .inr ⟨h1,hk⟩
theorem jA{o:Oper}{F:EF}{h:Heap}{K:EF→Heap→Prop}(he:cO o.op=false)(hs:oA P ops hm o K F h):∃X,YP P ops hm o X F∧K (fS F o.dst X) h:=by
 rcases hs with⟨h1,⟨h2,_⟩|⟨X,h3,h4⟩⟩|⟨h1,h2⟩
 ·grind
 ·exact⟨X,.inl ⟨h1,h3⟩,h4⟩
 ·exact⟨_,.inr ⟨h1,rfl⟩,h2⟩
theorem PL{o:Oper}{F F' :EF}{X:AV}(hf:∀t∈fc o.op,F t=F' t)(hd:DPure P o F hm X):DPure P o F' hm X:=
 fun c a hs g hdf hr=>hd c a hs g hdf fun t ht x hx=>hr t ht x ac1
theorem uC{o:Oper}{F F' :EF}{h:Heap}{Q:AV→Heap→Prop}(hf:∀t∈fc o.op,F t=F' t)(hd:EOK P o F h Q):EOK P o F' h Q:=
 fun c a hs g hdf hr=>hd c a hs g hdf fun t ht x hx=>hr t ht x ac1
theorem xN{o:Oper}{F F' :EF}{X:AV}(hf:∀t∈fc o.op,F t=F' t)(hd:DQ P o F hm X):DQ P o F' hm X:=fun h hs=>uC hf (hd h hs)
theorem og{o:Oper}{F F' :EF}{X:AV}(hf:∀t∈o.looksAt ops,F t=F' t)(hy:YP P ops hm o X F):YP P ops hm o X F' :=by
 rcases hy with⟨h1,h2⟩|⟨h1,h2⟩
 ·exact .inl ⟨afi,xN agV h2⟩
 ·exact .inr ⟨afi,h2⟩
theorem Cf{j:Nat}{oi oj:Oper}{X:AV}(hj:ops[j]? =some oj)(hap:oi.apart ops oj=true){K:EF→Heap→Prop}{F:EF}{h:Heap}
  (hy:YP P ops hm oi X F) (hs:hOp P ops hm j K (fS F oi.dst X) h):hOp P ops hm j (fun F' h' =>YP P ops hm oi X F'∧K (fS F' oi.dst X) h') F h:=by
 obtain⟨h1,h2,h3⟩:=Oper.apart_spec hap;unfold hOp at*;simp only[hj]at*;have hlook:∀t∈oj.looksAt ops,fS F oi.dst X t=F t:=fun t ht=>kH fun e he hte=>h1 e he (hte▸ht)
 have hlook2:∀u,∀t∈oi.looksAt ops,F t=fS F oj.dst u t:=fun u t ht=>(kH fun e he hte=>h3 e he (hte▸ht)).symm
 rcases hs with⟨w1,⟨w0,Q,w2,w3⟩|⟨Y,w2,w3⟩⟩|⟨w1,w2⟩
 ·refine .inl ⟨afi,.inl ⟨w0,Q,uC agV w2,fun Y h' hq=>⟨(w3 Y h' hq).1,og (hlook2 Y) hy,?_⟩⟩⟩
  rw[←iN F X Y h2];exact(w3 Y h' hq).2
 ·refine .inl ⟨afi,.inr ⟨Y,xN agV w2,og (hlook2 Y) hy,?_⟩⟩
  rw[←iN F X Y h2];exact w3
 ·refine .inr ⟨afi,og (hlook2 _) hy,?_⟩
  rw[←iN F X _ h2];exact w2
theorem jB{i:Nat}{oi:Oper}{X:AV}{F:EF}{h:Heap}{K:EF→Heap→Prop}(hi:ops[i]? =some oi)(hy:YP P ops hm oi X F)(hk:K (fS F oi.dst X) h):hOp P ops hm i K F h:=by
 grind [hOp,Dz]
theorem sB{Q:EF→Heap→Prop}{i:Nat}{oi:Oper}{X:AV}(hi:ops[i]? =some oi):
  ∀(fuel:Nat) (listed:Array Bool) (F:EF) (h:Heap),
   (∀j oj,ops[j]? =some oj→j≠i→listed.getD j true=false→(∀e∈oj.after,Region.binds md e=true→e.on≠i)→oi.apart ops oj=true)→
   i∈Region.ready md ops listed→YP P ops hm oi X F→
   yA P md ops hm Q fuel (listed.setIfInBounds i true) (fS F oi.dst X) h→yA P md ops hm Q (fuel+1) listed F h:=by
 intro fuel
 induction fuel with
 |zero=>
  intro listed F h _ hr hy H;refine⟨fun e=>aet,fun j hj=>?_⟩
  by_cases hji:j=i
  ·subst hji;exact jB hi hy H
  ·have:=ready_mono hj hji
   rw[H.1]at this;cases this
 |succ fuel ih=>
  intro listed F h hfree hr hy H;refine⟨fun e=>aet,fun j hj=>?_⟩
  by_cases hji:j=i
  ·subst hji;exact jB hi hy H
  ·have h1:=H.2 j (ready_mono hj hji)
   obtain⟨hjun,oj,hoj,hall⟩:=mem_ready.1 hj;have hnot:∀e∈oj.after,Region.binds md e=true→e.on≠i:=fun e he hb heq=>by
    exact aho
   have h2:=Cf hoj (hfree j oj hoj hji hjun hnot) hy h1;exact ahs
def jV(md:Region.Mode)(ops:Array Oper):List Nat→Array Bool→Bool
 | [],listed=>(Region.ready md ops listed).isEmpty
 |k::ks,listed=>(match ops[k]? with
  |some o=>if cO o.op then Region.ready md ops listed== [k]else(Region.ready md ops listed).contains k && Region.free md ops listed k
  |none=>false) && jV md ops ks (listed.setIfInBounds k true)
def iP(P:Program)(ops:Array Oper)(hm:Heap)(Q:EF→Heap→Prop):List Nat→EF→Heap→Prop
 | [],F,h=>Q F h
 |i::r,F,h=>hOp P ops hm i (iP P ops hm Q r) F h
theorem oZ{Q:EF→Heap→Prop}:∀(l:List Nat) (listed:Array Bool) (F:EF) (h:Heap),
  jV md ops l listed=true→iP P ops hm Q l F h→yA P md ops hm Q l.length listed F h
 | [],_,_,_,hB,hd=>⟨by grind [jV],hd⟩
 |k::l,listed,F,h,hB,hd=>by
  simp only[jV,Bool.and_eq_true]at hB;obtain⟨hB,hB'⟩:=hB;cases h0:ops[k]? with
  |none=>grind
  |some o=>
   rw[h0]at hB;simp only at hB;cases he:cO o.op with
   |true=>
    rw[he,if_pos rfl]at hB;have hB:=beq_iff_eq.1 hB;refine⟨fun e=>(by rw[hB]at e;cases e),fun j hj=>?_⟩
    obtain rfl:j=k:=ac1;exact fu (fun F' h' hh=>oZ l _ F' h' hB' hh) hd
   |false=>
    rw[he,if_neg ac7,Bool.and_eq_true]at hB;have hd:oA P ops hm o (iP P ops hm Q l) F h:=by
     grind [hOp,iP]
    obtain⟨X,hy,hK⟩:=jA he hd;exact sB h0 l.length listed F h (Region.free_spec h0 hB.2) ac1 hy (oZ l _ _ _ hB' hK)
def jX(md:Region.Mode)(ops:Array Oper):List Nat→Array Bool→Bool
 | [],_=>true
 |k::ks,listed=>(match ops[k]? with
  |some o=>if cO o.op then Region.ready md ops listed== [k]else(Region.ready md ops listed).contains k && Region.free md ops listed k
  |none=>false) && jX md ops ks (listed.setIfInBounds k true)
def dR:List Nat→Array Bool→Array Bool
 | [],l=>l
 |k::ks,l=>dR ks (l.setIfInBounds k true)
theorem ov{Q:EF→Heap→Prop}(m:Nat):∀(l:List Nat) (listed:Array Bool) (F:EF) (h:Heap),
  jX md ops l listed=true→iP P ops hm (fun F h=>yA P md ops hm Q m (dR l listed) F h) l F h→yA P md ops hm Q (m+l.length) listed F h
 | [],_,_,_,_,hd=>hd
 |k::l,listed,F,h,hB,hd=>by
  simp only[jX,Bool.and_eq_true]at hB;obtain⟨hB,hB'⟩:=hB;cases h0:ops[k]? with
  |none=>grind
  |some o=>
   rw[h0]at hB;simp only at hB;cases he:cO o.op with
   |true=>
    rw[he,if_pos rfl]at hB;have hB:=beq_iff_eq.1 hB;refine⟨fun e=>(by rw[hB]at e;cases e),fun j hj=>?_⟩
    obtain rfl:j=k:=ac1;exact fu (fun F' h' hh=>ov m l _ F' h' hB' hh) hd
   |false=>
    rw[he,if_neg ac7,Bool.and_eq_true]at hB;have hd:oA P ops hm o (iP P ops hm (fun F h=>yA P md ops hm Q m (dR (k::l) listed) F h) l) F h:=by
     grind [hOp,iP]
    obtain⟨X,hy,hK⟩:=jA he hd;exact sB h0 (m+l.length) listed F h (Region.free_spec h0 hB.2) ac1 hy (ov m l _ _ _ hB' hK)
theorem mK{Q Q' :EF→Heap→Prop}(hk:∀F h,Q F h→Q' F h):∀(l:List Nat) (F:EF) (h:Heap),iP P ops hm Q l F h→iP P ops hm Q' l F h
 | [],F,h,hh=>hk F h hh
 |_::l,_,_,hh=>fu (fun F h hh=>mK hk l F h hh) hh
inductive Ord where
 |seq (l:List Nat)
 |fork (l:List Nat) (i:Nat) (a:Ord) (j:Nat) (b:Ord)
 |quiet (l:List Nat) (i:Nat) (t:Ord)
 |news (l:List Nat) (is:List Nat) (t:Ord)
def zh(md:Region.Mode)(ops:Array Oper):Nat→List Nat→Array Bool→Bool
 |0,l,_=>l.isEmpty
 |fuel+1,l,listed=>l.isEmpty||(!(Region.ready md ops listed).isEmpty && (Region.ready md ops listed).all fun i=>l.contains i && zh md ops fuel (l.erase i) (listed.setIfInBounds i true))
def Ql(o:Oper):Bool:=o.guard.isNone && o.dst.isSome && match o.op with
 |.alloc _=>true
 |_=>false
def Mh(md:Region.Mode)(ops:Array Oper)(is:List Nat)(listed:Array Bool):Bool:=
 zh md ops is.length is listed && decide is.Nodup && decide (is.map fun i=>(ops[i]?).bind (·.dst)).Nodup && is.all fun i=>((ops[i]?).map Ql).getD false
def Ord.len:Ord→Nat
 |.seq l=>l.length
 |.fork l _ a _ _=>a.len+1+l.length
 |.quiet l _ t=>t.len+1+l.length
 |.news l is t=>t.len+is.length+l.length
def qT(md:Region.Mode)(ops:Array Oper):Ord→Array Bool→Bool
 |.seq l,listed=>jV md ops l listed
 |.fork l i a j b,listed=>jX md ops l listed && (Region.ready md ops (dR l listed)== [i,j]) && (a.len==b.len) &&
  (qT md ops a ((dR l listed).setIfInBounds i true) && qT md ops b ((dR l listed).setIfInBounds j true))
 |.quiet l i t,listed=>jX md ops l listed && (((Region.ready md ops (dR l listed)).contains i && Region.free md ops (dR l listed) i) && qT md ops t ((dR l listed).setIfInBounds i true))
 |.news l is t,listed=>jX md ops l listed && (Mh md ops is (dR l listed) && qT md ops t (dR is (dR l listed)))
def tK(P:Program)(md:Region.Mode)(ops:Array Oper)(hm:Heap)(z:Nat)(Q:EF→Heap→Prop):Nat→Array Bool→EF→Heap→Prop
 |0,listed,F,h=>(Region.ready md ops listed= [z]∧Region.ready md ops (listed.setIfInBounds z true)= [])∧Q F h
 |fuel+1,listed,F,h=>Region.ready md ops listed≠ []∧∀i∈Region.ready md ops listed,hOp P ops hm i (tK P md ops hm z Q fuel (listed.setIfInBounds i true)) F h
def Closed(md:Region.Mode)(ops:Array Oper)(listed:Array Bool):Prop:=∀j oj,ops[j]? =some oj→listed.getD j false=true→∀e∈oj.after,Region.binds md e=true→listed.getD e.on false=true
def Ia(md:Region.Mode)(ops:Array Oper)(k:Nat):List Nat:=match ops[k]? with
 |some o=>(o.after.toList.filter (Region.binds md)).map (·.on)
 |none=>[]
def jM(md:Region.Mode)(ops:Array Oper)(s:List Nat):List Nat:=(List.range ops.size).filter fun k=>s.contains k||s.any fun j=>(Ia md ops j).contains k
def xw(md:Region.Mode)(ops:Array Oper)(z:Nat):Bool:=(List.range ops.size).all fun k=>(jM md ops (jM md ops (jM md ops [z]))).contains k
theorem eV{z:Nat}{listed:Array Bool}(hc:Closed md ops listed)(hz:z∈Region.ready md ops listed){s:List Nat}(hs:∀k∈s,k≠z→listed.getD k false=true):∀k∈jM md ops s,k≠z→listed.getD k false=true:=by
 intro k hk hkz;simp only[jM,List.mem_filter,Bool.or_eq_true,List.contains_iff_mem,List.any_eq_true]at hk;obtain⟨_,h1|⟨j,hj,hp⟩⟩:=hk
 ·grind
 ·unfold Ia at hp
  cases ho:ops[j]? with
  |none=>grind
  |some o=>
   rw[ho]at hp;simp only[List.mem_map,List.mem_filter]at hp;obtain⟨e,⟨he,hb⟩,rfl⟩:=hp
   by_cases hjz:j=z
   ·grind [mem_ready]
   ·exact hc j o ho (hs j hj hjz) e ac1 hb
theorem BJ{z:Nat}(hz:xw md ops z=true){listed:Array Bool}(hc:Closed md ops listed){i:Nat}(h1:z∈Region.ready md ops listed)(h2:i∈Region.ready md ops listed):i=z:=by
 obtain⟨hun,oi,hoi,_⟩:=mem_ready.1 h2;unfold xw at hz;rw[List.all_eq_true]at hz;have hm:=hz i ac1;rw[List.contains_iff_mem]at hm;have s0:∀k∈ [z],k≠z→listed.getD k false=true:=fun k hk hn=>absurd (by simpa using hk) hn
 have s3:=eV hc h1 (eV hc h1 (eV hc h1 s0))
 by_cases e:i=z
 ·exact e
 ·have:=s3 i hm e
  exfalso
  grind
theorem Closed.set{listed:Array Bool}(hc:Closed md ops listed){j:Nat}(hj:j∈Region.ready md ops listed):Closed md ops (listed.setIfInBounds j true):=by
 have up:∀k,listed.getD k false=true→(listed.setIfInBounds j true).getD k false=true:=fun k hk=>by
  by_cases e:j=k
  ·subst e
   rcases Nat.lt_or_ge j listed.size with h' |h'
   ·simp[h']
   grind
  simp_all
 intro k ok hk hl e he hb
 by_cases hkj:j=k
 ·grind [mem_ready]
 ·rw[getD_set_ne false hkj]at hl
  exact up _ (hc k ok hk hl e he hb)
theorem Closed.none(md:Region.Mode)(ops:Array Oper)(m:Nat):Closed md ops (Array.replicate m false):=fun j oj _ hl=>by
 rcases Nat.lt_or_ge j m with h' |h'
 ·simp_all
 grind
theorem qG{Q:EF→Heap→Prop}{z i:Nat}{oi:Oper}{X:AV}(hz:xw md ops z=true)(hi:ops[i]? =some oi):
  ∀(fuel:Nat) (listed:Array Bool) (F:EF) (h:Heap),Closed md ops listed→
   (∀j oj,ops[j]? =some oj→j≠i→listed.getD j true=false→(∀e∈oj.after,Region.binds md e=true→e.on≠i)→oi.apart ops oj=true)→
   i∈Region.ready md ops listed→YP P ops hm oi X F→
   tK P md ops hm z Q fuel (listed.setIfInBounds i true) (fS F oi.dst X) h→tK P md ops hm z Q (fuel+1) listed F h:=by
 intro fuel
 induction fuel with
 |zero=>
  intro listed F h hcl _ hr hy H;refine⟨fun e=>ac1,fun j hj=>?_⟩
  by_cases hji:j=i
  ·grind [jB]
  ·exact aiD
 |succ fuel ih=>
  intro listed F h hcl hfree hr hy H;refine⟨fun e=>ac1,fun j hj=>?_⟩
  by_cases hji:j=i
  ·grind [jB]
  ·have h1:=H.2 j (ready_mono hj hji)
   obtain⟨hjun,oj,hoj,hall⟩:=mem_ready.1 hj;have hnot:∀e∈oj.after,Region.binds md e=true→e.on≠i:=fun e he hb heq=>by
    grind [mem_ready,Nat.lt_or_ge,Array.getElem?_eq_none]
   have h2:=Cf hoj (hfree j oj hoj hji hjun hnot) hy h1;have hfree' :∀k ok,ops[k]? =some ok→k≠i→(listed.setIfInBounds j true).getD k true=false→
     (∀e∈ok.after,Region.binds md e=true→e.on≠i)→oi.apart ops ok=true:=fun k ok hk hki hun hno=>by
    refine hfree k ok hk hki ?_ hno
    by_cases hjk:j=k
    ·grind
    simp_all
   refine fu (fun F' h' h3=>ih (listed.setIfInBounds j true) F' h' (hcl.set hj) hfree' (ready_mono hr (Ne.symm hji)) h3.1 ?_) h2
   grind [Array.setIfInBounds_comm]
def vn(md:Region.Mode)(ops:Array Oper)(z:Nat):List Nat→Array Bool→Bool
 | [],listed=>Region.ready md ops listed== [z] && (Region.ready md ops (listed.setIfInBounds z true)).isEmpty
 |k::ks,listed=>(match ops[k]? with
  |some o=>if cO o.op then Region.ready md ops listed== [k]else(Region.ready md ops listed).contains k && Region.free md ops listed k
  |none=>false) && vn md ops z ks (listed.setIfInBounds k true)
theorem qH{Q:EF→Heap→Prop}{z:Nat}(hz:xw md ops z=true):∀(l:List Nat) (listed:Array Bool) (F:EF) (h:Heap),Closed md ops listed→
  vn md ops z l listed=true→iP P ops hm Q l F h→tK P md ops hm z Q l.length listed F h
 | [],_,_,_,_,hB,hd=>⟨by grind [vn],hd⟩
 |k::l,listed,F,h,hcl,hB,hd=>by
  simp only[vn,Bool.and_eq_true]at hB;obtain⟨hB,hB'⟩:=hB;cases h0:ops[k]? with
  |none=>grind
  |some o=>
   rw[h0]at hB;simp only at hB;cases he:cO o.op with
   |true=>
    refine⟨fun e=>ac1,fun j hj=>?_⟩
    obtain rfl:j=k:=ac1;exact fu (fun F' h' hh=>qH hz l _ F' h' (hcl.set ac1) hB' hh) hd
   |false=>
    rw[he,if_neg ac7,Bool.and_eq_true]at hB;have hd:oA P ops hm o (iP P ops hm Q l) F h:=by
     grind [hOp,iP]
    obtain⟨X,hy,hK⟩:=jA he hd;have hin:k∈Region.ready md ops listed:=ac1;exact qG hz h0 l.length listed F h hcl (Region.free_spec h0 hB.2) hin hy (qH hz l _ _ _ (hcl.set hin) hB' hK)
theorem mw{n:Nat}{i:Nat}{K:EF→Heap→Prop}{K' :Act→World→Prop}{Q:Exit→Act→World→Prop}{c0:Cx}(hdst:∀o∈ops.toList,dU n o.dst=true)
  (hk:∀c F h a,Ext c0 c→Sub h c.h→Sub hm c.h→Good c→mE c n F a→K F h→K' a c.w) {c:Cx} {F:EF} {h:Heap} {a:Act} (hE:Ext c0 c) (hs:Sub h c.h) (hs' :Sub hm c.h) (g:Good c) (he:mE c n F a) (hd:hOp P ops hm i K F h):wpOp P ops Q i K' a c.w:=by
 unfold hOp at hd;unfold wpOp;split
 ·rename_i ho;simp only[ho]at hd;exact hk c F h a hE hs hs' g he hd
 ·rename_i o ho
  simp only[ho]at hd;have hdo:dU n o.dst=true:=ac1;have main:∀ {h0:Heap} {R:AV→Heap→Prop},Sub h0 c.h→EOK P o F h0 R→(∀c' x h',Good c'→Ext c c'→Sub h' c'.h→R x h'→∀u,Rep c' x u→K' (a.put o.dst u) c'.w)→Oper.wp P o a c.w K' Q:=by
   intro h0 R hs h2 next';have hu:=h2 c a hs g he.2.1 (fun t _ x hx=>he.2.2 t x hx)
   have next:∀u w',eN c R u w'→K' (a.put o.dst u) w' :=by
    rintro u w' ⟨c',x,h',rfl,g',hE',hr,hs2,hR⟩
    exact next' c' x h' g' hE' hs2 hR u hr
   unfold Oper.wp;generalize (execOp a.eval o).run P c.w=r at hu;cases r with
   |ok nx w' =>
    exact ahm
   |halt x w' =>exact hu.elim
  rcases hd with⟨h1,⟨h0,R,h2,h3⟩|⟨X,h2,h3⟩⟩|⟨h1,h2⟩
  ·rw[if_pos (j4 he h1)]
   left
   refine main hs h2 fun c' x h' g' hE' hs2 hR u hr=>?_
   obtain⟨k1,k2⟩:=h3 x h' hR;exact hk c' _ h' _ (hE.trans hE') hs2 (fun j b hj=>hs2 _ _ (k1 _ _ hj)) g' ((he.mono hE').put hdo hr) k2
  ·rw[if_pos (j4 he h1)]
   left
   refine main (fun _ _ e=>e) (h2 c.h hs') fun c' x h' g' hE' hs2 hR u hr=>?_
   obtain⟨rfl,rfl⟩:=hR;exact hk c' _ h _ (hE.trans hE') (fun j b hj=>hs2 _ _ (hs _ _ hj)) (fun j b hj=>hs2 _ _ (hs' _ _ hj)) g' ((he.mono hE').put hdo hr) h3
  ·rw[if_neg (by grind [j4])]
   exact hk c _ h _ hE hs hs' g (he.put hdo (.v _)) h2
theorem sC{n:Nat}{Q:EF→Heap→Prop}{Q' :Exit→Act→World→Prop}{c0:Cx}(hdst:∀o∈ops.toList,dU n o.dst=true)
  (hQ:∀c F h a,Ext c0 c→Sub h c.h→Good c→mE c n F a→Q F h→Q' .normal a c.w):∀(fuel:Nat) (listed:Array Bool) (c:Cx) (F:EF) (h:Heap) (a:Act),Ext c0 c→Sub h c.h→Sub hm c.h→Good c→mE c n F a→
   yA P md ops hm Q fuel listed F h→wpAny P md ops Q' fuel listed a c.w
 |0,_,c,F,h,a,h1,h2,_,h3,h4,hd=>⟨hd.1,hQ c F h a h1 h2 h3 h4 hd.2⟩
 |fuel+1,listed,c,F,h,a,h1,h2,h2',h3,h4,hd=>
  ⟨fun e=>hQ c F h a h1 h2 h3 h4 (hd.1 e),fun i hi=>mw hdst (fun c F h a k1 k2 k2' k3 k4 hk=>sC hdst hQ fuel _ c F h a k1 k2 k2' k3 k4 hk) h1 h2 h2' h3 h4 (hd.2 i hi)⟩
theorem wu{n z:Nat}{Q:EF→Heap→Prop}{Q' :Exit→Act→World→Prop}{c0:Cx}(hdst:∀o∈ops.toList,dU n o.dst=true)
  (hQ:∀c F h a,Ext c0 c→Sub h c.h→Good c→mE c n F a→Q F h→wpOp P ops Q' z (fun a' w' =>Q' .normal a' w') a c.w):∀(fuel:Nat) (listed:Array Bool) (c:Cx) (F:EF) (h:Heap) (a:Act),Ext c0 c→Sub h c.h→Sub hm c.h→Good c→mE c n F a→
   tK P md ops hm z Q fuel listed F h→wpAny P md ops Q' (fuel+1) listed a c.w
 |0,listed,c,F,h,a,h1,h2,_,h3,h4,hd=>⟨fun e=>(by rw[hd.1.1]at e;cases e),fun i hi=>by
   rw[hd.1.1]at hi;obtain rfl:i=z:=ac1;exact wpOp_mono (fun a w hh=>⟨hd.1.2,hh⟩) (hQ c F h a h1 h2 h3 h4 hd.2)⟩
 |fuel+1,listed,c,F,h,a,h1,h2,h2',h3,h4,hd=>
  ⟨fun e=>absurd e hd.1,fun i hi=>mw hdst (fun c F h a k1 k2 k2' k3 k4 hk=>wu hdst hQ fuel _ c F h a k1 k2 k2' k3 k4 hk) h1 h2 h2' h3 h4 (hd.2 i hi)⟩
def Dx(P:Program)(md:Region.Mode)(ops:Array Oper)(hm:Heap)(fin:Array Bool)(R:EF→Heap→Prop):Nat→Array Bool→EF→Heap→Prop
 |0,listed,F,h=>listed=fin∧R F h
 |fuel+1,listed,F,h=>Region.ready md ops listed≠ []∧∀i∈Region.ready md ops listed,hOp P ops hm i (Dx P md ops hm fin R fuel (listed.setIfInBounds i true)) F h
def CX(md:Region.Mode)(ops:Array Oper)(l:List Nat):Bool:=(List.range ops.size).all fun j=>l.contains j||l.all fun k=>(jM md ops (jM md ops (jM md ops [j]))).contains k
theorem Fi{l:List Nat}(hb:CX md ops l=true){listed:Array Bool}(hc:Closed md ops listed){j:Nat}(hj:j∈Region.ready md ops listed)(hl:j∉l):∀k∈l,listed.getD k false=true:=by
 intro k hk;obtain⟨hun,oj,hoj,_⟩:=mem_ready.1 hj;unfold CX at hb;rw[List.all_eq_true]at hb;have hm:=hb j ac1;rw[Bool.or_eq_true,List.contains_iff_mem]at hm;rcases hm with hm|hm
 ·exact(hl hm).elim
 ·have s0:∀k∈ [j],k≠j→listed.getD k false=true:=fun k hk hn=>absurd (by simpa using hk) hn
  have s3:=eV hc hj (eV hc hj (eV hc hj s0));rw[List.all_eq_true]at hm;have:=hm k hk;rw[List.contains_iff_mem]at this;exact s3 k this fun e=>hl (e▸hk)
theorem Dy{R:EF→Heap→Prop}{fin:Array Bool}{l:List Nat}{i:Nat}{oi:Oper}{X:AV}(hb:CX md ops l=true)(hfin:∀j∈l,fin.getD j false=true)(hil:i∈l)(hi:ops[i]? =some oi):
  ∀(fuel:Nat) (listed:Array Bool) (F:EF) (h:Heap),Closed md ops listed→
   (∀j oj,ops[j]? =some oj→j≠i→listed.getD j true=false→(∀e∈oj.after,Region.binds md e=true→e.on≠i)→oi.apart ops oj=true)→
   i∈Region.ready md ops listed→YP P ops hm oi X F→
   Dx P md ops hm fin R fuel (listed.setIfInBounds i true) (fS F oi.dst X) h→Dx P md ops hm fin R (fuel+1) listed F h:=by
 intro fuel
 induction fuel with
 |zero=>
  intro listed F h hcl _ hr hy H;refine⟨fun e=>aet,fun j hj=>?_⟩
  by_cases hji:j=i
  ·subst hji;exact jB hi hy H
  ·exfalso
   have hiu:=(mem_ready.1 hr).1;have hju:=(mem_ready.1 hj).1
   by_cases hjl:j∈l
   ·have h1:=hfin j hjl
    rw[←H.1,getD_set_ne false (Ne.symm hji)]at h1;rcases Nat.lt_or_ge j listed.size with h' |h'
    ·simp[h']at h1 hju;rw[hju]at h1;cases h1
    ·simp[Array.getElem?_eq_none h']at h1
   ·have h1:=Fi hb hcl hj hjl i hil
    rcases Nat.lt_or_ge i listed.size with h' |h'
    ·simp[h']at h1 hiu;rw[hiu]at h1;cases h1
    ·simp[Array.getElem?_eq_none h']at h1
 |succ fuel ih=>
  intro listed F h hcl hfree hr hy H;refine⟨fun e=>aet,fun j hj=>?_⟩
  by_cases hji:j=i
  ·subst hji;exact jB hi hy H
  ·have h1:=H.2 j (ready_mono hj hji)
   obtain⟨hjun,oj,hoj,hall⟩:=mem_ready.1 hj;have hnot:∀e∈oj.after,Region.binds md e=true→e.on≠i:=fun e he hb heq=>by
    exact aho
   have h2:=Cf hoj (hfree j oj hoj hji hjun hnot) hy h1;have hfree' :∀k ok,ops[k]? =some ok→k≠i→(listed.setIfInBounds j true).getD k true=false→
     (∀e∈ok.after,Region.binds md e=true→e.on≠i)→oi.apart ops ok=true:=fun k ok hk hki hun hno=>by
    refine hfree k ok hk hki ?_ hno
    by_cases hjk:j=k
    ·subst hjk;exact hjun
    ·rw[getD_set_ne true hjk]at hun;exact hun
   refine fu (fun F' h' h3=>ih (listed.setIfInBounds j true) F' h' (hcl.set hj) hfree' (ready_mono hr (Ne.symm hji)) h3.1 ?_) h2
   rw[Array.setIfInBounds_comm _ _ hji];exact h3.2
theorem qJ{R:EF→Heap→Prop}{fin:Array Bool}{l:List Nat}(hb:CX md ops l=true)(hfin:∀j∈l,fin.getD j false=true):∀(r:List Nat) (listed:Array Bool) (F:EF) (h:Heap),(∀k∈r,k∈l)→fin=dR r listed→Closed md ops listed→
  jX md ops r listed=true→iP P ops hm R r F h→Dx P md ops hm fin R r.length listed F h
 | [],_,_,_,_,hf,_,_,hd=>⟨hf.symm,hd⟩
 |k::r,listed,F,h,hr,hf,hcl,hB,hd=>by
  simp only[jX,Bool.and_eq_true]at hB;obtain⟨hB,hB'⟩:=hB;have hr' :∀j∈r,j∈l:=fun j hj=>hr j (List.mem_cons_of_mem _ hj)
  cases h0:ops[k]? with
  |none=>rw[h0]at hB;cases hB
  |some o=>
   rw[h0]at hB;simp only at hB;cases he:cO o.op with
   |true=>
    refine⟨fun e=>ac1,fun j hj=>?_⟩
    obtain rfl:j=k:=ac1;exact fu (fun F' h' hh=>qJ hb hfin r _ F' h' hr' hf (hcl.set ac1) hB' hh) hd
   |false=>
    rw[he,if_neg ac7,Bool.and_eq_true]at hB;have hd:oA P ops hm o (iP P ops hm R r) F h:=by
     grind [hOp,iP]
    obtain⟨X,hy,hK⟩:=jA he hd;have hin:k∈Region.ready md ops listed:=ac1;exact Dy hb hfin ac1 h0 r.length listed F h hcl (Region.free_spec h0 hB.2) hin hy (qJ hb hfin r _ _ _ hr' hf (hcl.set hin) hB' hK)
theorem wz{n m:Nat}{R:EF→Heap→Prop}{fin:Array Bool}{Q' :Exit→Act→World→Prop}{c0:Cx}(hdst:∀o∈ops.toList,dU n o.dst=true)
  (hR:∀c F h a,Ext c0 c→Sub h c.h→Good c→mE c n F a→R F h→wpAny P md ops Q' m fin a c.w):∀(fuel:Nat) (listed:Array Bool) (c:Cx) (F:EF) (h:Heap) (a:Act),Ext c0 c→Sub h c.h→Sub hm c.h→Good c→mE c n F a→
   Dx P md ops hm fin R fuel listed F h→wpAny P md ops Q' (m+fuel) listed a c.w
 |0,listed,c,F,h,a,h1,h2,_,h3,h4,hd=>by rw[hd.1];exact hR c F h a h1 h2 h3 h4 hd.2
 |fuel+1,listed,c,F,h,a,h1,h2,h2',h3,h4,hd=>
  ⟨fun e=>absurd e hd.1,fun i hi=>mw hdst (fun c F h a k1 k2 k2' k3 k4 hk=>wz hdst hR fuel _ c F h a k1 k2 k2' k3 k4 hk) h1 h2 h2' h3 h4 (hd.2 i hi)⟩
def xJ(md:Region.Mode)(ops:Array Oper)(l1 l2:List Nat):Bool:=
 jX md ops l1 (Array.replicate ops.size false) && CX md ops l1 && (l1.all fun j=>(dR l1 (Array.replicate ops.size false)).getD j false) && jV md ops l2 (dR l1 (Array.replicate ops.size false)) && (l2.length+l1.length==ops.size)
def EZ(P:Program)(U:TypeId→TI)(hm:Heap)(o:Oper)(ρ:Env)(h:Heap)(K:AV→Heap→Prop):Prop:=
 if cO o.op then vcE P U ρ h o (fun X h' =>Sub hm h'∧K X h')else pv U ρ hm o.op (fun X=>K X h)
def dP(P:Program)(U:TypeId→TI)(n:Nat)(all:List Oper)(hm:Heap):List Nat→Env→Heap→(Env→Heap→Prop)→Prop
 | [],ρ,h,K=>K ρ h
 |i::is,ρ,h,K=>match all[i]? with
  |none=>False
  |some o=>jP all ρ o.guard (fun ρ=>EZ P U hm o ρ h fun X h' =>dP P U n all hm is (put ρ o.dst X) h' K) (fun ρ=>dP P U n all hm is (put ρ o.dst (.v undef)) h K)
theorem A4{ρ:Env}{d:Nat}{x:AV}(hd:lk ρ d=some x):lk ((d,x)::ρ)=lk ρ:=by
 grind [lk]
theorem cF{n:Nat}(hU:∀t,aO P U t){all:List Oper}{K:Env→Heap→Prop}:∀(l:List Nat) (ρ:Env) (h:Heap),dP P U n all hm l ρ h K→iP P all.toArray hm (fun F h=>∃ρ,lk ρ=F∧K ρ h) l (lk ρ) h
 | [],ρ,h,hk=>⟨ρ,rfl,hk⟩
 |i::is,ρ,h,hk=>by
  simp only[dP]at hk
  show hOp _ _ _ _ _ _ _
  unfold hOp;have e0:(all.toArray)[i]? =all[i]? :=ac7;rw[e0];cases hi:all[i]? with
  |none=>rw[hi]at hk;exact hk.elim
  |some o=>
   rw[hi]at hk;simp only at hk⊢;have yes:∀ρ',cA all.toArray (lk ρ) o=some true→lk ρ' =lk ρ→EZ P U hm o ρ' h (fun X h' =>dP P U n all hm is (put ρ' o.dst X) h' K)→oA P all.toArray hm o (iP P all.toArray hm (fun F h=>∃ρ,lk ρ=F∧K ρ h) is) (lk ρ) h:=by
    intro ρ' hw hl hv;unfold EZ at hv;cases he:cO o.op with
    |true=>
     rw[he,if_pos rfl]at hv;have:=BC hU he hv;rw[hl]at this;refine .inl ⟨hw,.inl ⟨he,_,this,fun X h' hq=>⟨hq.1,?_⟩⟩⟩
     have:=cF hU is _ _ hq.2;rw[qP,hl]at this;exact adN
    |false=>
     rw[he,if_neg ac7]at hv;obtain⟨X,hQ,hX⟩:=Gr hU hv;rw[hl]at hX;refine .inl ⟨hw,.inr ⟨X,hX.quiet,?_⟩⟩;have:=cF hU is _ _ hQ;rw[qP,hl]at this;exact adN
   have no:∀ρ',cA all.toArray (lk ρ) o=some false→lk ρ' =lk ρ→dP P U n all hm is (put ρ' o.dst (.v undef)) h K→oA P all.toArray hm o (iP P all.toArray hm (fun F h=>∃ρ,lk ρ=F∧K ρ h) is) (lk ρ) h:=by
    intro ρ' hw hl hv;have:=cF hU is _ _ hv;rw[qP,hl]at this;exact .inr ⟨hw,this⟩
   unfold jP at hk;split at hk
   ·rename_i hg
    exact yes ρ (by grind [cA]) rfl hk
   ·rename_i g want hg
    split at hk
    ·rename_i d hd'
     have hd2:((all.toArray)[g]?).bind (·.dst)=some d:=by grind [qx]
     split at hk
     ·rename_i t ht
      have hw:cA all.toArray (lk ρ) o=some (t==want):=by
       grind [cA]
      by_cases e:t=want
      ·exact yes _ ac1 (by grind [A4]) (hk.1 e)
      ·have e' :t= !want:=by cases t<;>cases want<;>simp_all
       exact no _ ac1 (by grind [A4]) (hk.2 e')
     ·rename_i vs ht
      refine no ρ ?_ rfl hk
      grind [cA]
     ·exact ado
    ·exact ado
def Gh(U:TypeId→TI):Op→Option Blk
 |.alloc t=>some (if isUnit (U t).k then .obj [] t else .obj (U t).zero.cells t)
 |_=>none
def zA(U:TypeId→TI):Op→Prop
 |.alloc t=>isUnit (U t).k=true∨(U t).sz≠0∧fit (U t).zero (U t).sz
 |_=>False
def mg(U:TypeId→TI)(all:List Oper):List Nat→Prop
 | []=>True
 |i::is=>(match all[i]? with
  |none=>False
  |some o=>zA U o.op)∧mg U all is
def sj(P:Program)(U:TypeId→TI)(all:List Oper):List Nat→Env→Heap→(Env→Heap→Prop)→Prop
 | [],ρ,h,K=>K ρ h
 |i::is,ρ,h,K=>match all[i]? with
  |none=>False
  |some o=>bf P U ρ h o fun X h' =>sj P U all is (put ρ o.dst X) h' K
theorem E1{ρ:Env}{h:Heap}{o:Oper}{Q:AV→Heap→Prop}{B:Blk}(hB:Gh U o.op=some B)(hs:zA U o.op):bf P U ρ h o Q↔∀id,h id=none→Q (.ptr id 0) (upd h id (some B)):=by
 obtain⟨d,op,t,p,a,g⟩:=o;cases op with
 |alloc ty=>
  simp only[Gh,Option.some.injEq]at hB;simp only[zA]at hs;simp only[bf]
  grind
 |_=>grind [Gh]
def jD(U:TypeId→TI)(ops:Array Oper)(ids:Nat→Nat)(s:EF×Heap)(i:Nat):EF×Heap:=match ops[i]? with
 |some o=>(fS s.1 o.dst (.ptr (ids i) 0),upd s.2 (ids i) (Gh U o.op))
 |none=>s
def Fresh(h:Heap)(is:List Nat)(ids:Nat→Nat):Prop:=(∀i∈is,h (ids i)=none)∧(is.map ids).Nodup
theorem EE{l l' :List Nat}(hp:l.Perm l')(listed:Array Bool):dR l listed=dR l' listed:=by
 have e:∀(l:List Nat) (x:Array Bool),dR l x=l.foldl (fun x k=>x.setIfInBounds k true) x:=fun l=>by
  induction l with
  |nil=>intro x;rfl
  |cons k l ih=>intro x;exact ih _
 rw[e,e];refine hp.foldl_eq' (fun x _ y _ z=>?_) listed
 grind
theorem Gi{ids:Nat→Nat}{is:List Nat}(hd:(is.map fun i=>(ops[i]?).bind (·.dst)).Nodup)(hs:∀i∈is,∃o d,ops[i]? =some o∧o.dst=some d)(hi:(is.map ids).Nodup):
  ∀x∈is,∀y∈is,∀z,jD U ops ids (jD U ops ids z x) y=jD U ops ids (jD U ops ids z y) x:=by
 have inj:∀ {α:Type} {f:Nat→α} {l:List Nat},(l.map f).Nodup→∀x∈l,∀y∈l,f x=f y→x=y:=by
  intro α f l
  induction l with
  |nil=>simp
  |cons k l ih=>
   grind
 intro x hx y hy z
 by_cases e:x=y
 ·grind
 obtain⟨ox,dx,hox,hdx⟩:=hs x hx;obtain⟨oy,dy,hoy,hdy⟩:=hs y hy;simp only[jD,hox,hoy];rw[iN z.1 _ _ ac1]
 congr 1
 grind [upd]
theorem Ju{Q:EF→Heap→Prop}{m:Nat}:∀(fuel:Nat) (is:List Nat) (listed:Array Bool) (F:EF) (h:Heap),zh md ops fuel is listed=true→Sub hm h→is.Nodup→
  (is.map fun i=>(ops[i]?).bind (·.dst)).Nodup→
  (∀i∈is,∃o d B,ops[i]? =some o∧o.guard=none∧o.dst=some d∧cO o.op=true∧Gh U o.op=some B∧∀F h,EOK P o F h fun X h' =>∃id,h id=none∧X= .ptr id 0∧h' =upd h id (some B))→
  (∀ids,Fresh h is ids→yA P md ops hm Q m (dR is listed) (is.foldl (jD U ops ids) (F,h)).1 (is.foldl (jD U ops ids) (F,h)).2)→yA P md ops hm Q (m+is.length) listed F h:=by
 intro fuel
 induction fuel with
 |zero=>
  intro is listed F h hp _ _ _ _ H;have:is= []:=by simpa[zh]using hp
  subst this;exact H id ⟨ac7,ac7⟩
 |succ fuel ih=>
  intro is listed F h hp hs hn hdn ho H;simp only[zh,Bool.or_eq_true,List.isEmpty_iff,Bool.and_eq_true,Bool.not_eq_true',List.all_eq_true]at hp;rcases hp with rfl|⟨hp1,hp2⟩
  ·exact H id ⟨ac7,ac7⟩
  have hne:Region.ready md ops listed≠ []:=fun e=>by rw[e]at hp1;simp at hp1
  obtain⟨i0,hi0⟩:=List.exists_mem_of_ne_nil _ hne;have hl0:m+is.length=(m+(is.length - 1))+1:=by
   have:=List.length_pos_of_mem (show i0∈is by simpa using(hp2 i0 hi0).1)
   omega
  rw[hl0];refine⟨fun e=>absurd e hne,fun i hi=>?_⟩
  obtain⟨h1,h2⟩:=hp2 i hi;have h1:i∈is:=by simpa using h1
  obtain⟨o,d,B,e1,e2,e3,e4,e5,e6⟩:=ho i h1;have hpm:=List.perm_cons_erase h1;unfold hOp;simp only[e1];refine .inl ⟨by simp[cA,e2],.inl ⟨e4,_,e6 F h,?_⟩⟩
  rintro X h' ⟨id,hid,rfl,rfl⟩
  have hs' :Sub hm (upd h id (some B)):=fun j b hj=>by
   have:=hs j b hj;simp only[upd]
   by_cases e:j=id
   ·subst e;rw[hid]at this;cases this
   ·simp[e,this]
  refine⟨hs',?_⟩;have hle:(is.length - 1)=(is.erase i).length:=(List.length_erase_of_mem h1).symm;rw[hle];have hni:i∉is.erase i:=fun hm=>by
   have:=hpm.nodup_iff.1 hn;exact(List.nodup_cons.1 this).1 hm
  refine ih (is.erase i) _ _ _ h2 hs' (hn.erase i) (((hpm.map _).nodup_iff.1 hdn).of_cons) (fun j hj=>ho j (List.mem_of_mem_erase hj)) fun ids hf=>?_
  have hmem:∀j∈is.erase i,j≠i:=fun j hj e=>hni (e▸hj)
  let ids' :Nat→Nat:=fun j=>if j=i then id else ids j
  have hids:∀j∈is.erase i,ids' j=ids j:=fun j hj=>by simp[ids',hmem j hj]
  have hfr:∀j∈is.erase i,ids j≠id∧h (ids j)=none:=fun j hj=>by
   have:=hf.1 j hj;simp only[upd]at this;split at this
   ·cases this
   ·rename_i e;exact⟨e,this⟩
  have hfresh:Fresh h is ids' :=by
   refine⟨fun j hj=>?_,?_⟩
   ·by_cases e:j=i
    ·subst e;simp[ids',hid]
    ·have hj' :j∈is.erase i:=(List.mem_erase_of_ne e).2 hj
     rw[hids j hj'];exact(hfr j hj').2
   ·rw[(hpm.map ids').nodup_iff,List.map_cons,List.nodup_cons]
    have em:(is.erase i).map ids' =(is.erase i).map ids:=List.map_congr_left hids;rw[em];refine⟨fun hm=>?_,hf.2⟩
    obtain⟨j,hj,he⟩:=List.mem_map.1 hm;exact(hfr j hj).1 (by rw[he];simp[ids'])
  have hh:=H ids' hfresh;have hfold:is.foldl (jD U ops ids') (F,h)=(is.erase i).foldl (jD U ops ids) (fS F o.dst (.ptr id 0),upd h id (some B)):=by
   rw[hpm.foldl_eq' (Gi hdn (fun j hj=>by obtain⟨o,d,B,a1,_,a3,_⟩:=ho j hj;exact⟨o,d,a1,a3⟩) hfresh.2),List.foldl_cons]
   have e0:jD U ops ids' (F,h) i=(fS F o.dst (.ptr id 0),upd h id (some B)):=by simp[jD,e1,ids',e5]
   rw[e0];have:∀(l:List Nat) (s:EF×Heap),(∀j∈l,ids' j=ids j)→l.foldl (jD U ops ids') s=l.foldl (jD U ops ids) s:=fun l=>by
    induction l with
    |nil=>intro s _;rfl
    |cons k l ih=>
     intro s hl;rw[List.foldl_cons,List.foldl_cons,ih _ fun j hj=>hl j (List.mem_cons_of_mem _ hj)]
     have:jD U ops ids' s k=jD U ops ids s k:=by simp only[jD,hl k (List.mem_cons_self ..)]
     rw[this]
   exact this _ _ hids
  rw[hfold,EE hpm]at hh;exact hh
theorem BD{all:List Oper}{K:Env→Heap→Prop}:∀(is:List Nat) (ρ:Env) (h:Heap),(∀i∈is,∃o B,all[i]? =some o∧Gh U o.op=some B∧zA U o.op)→sj P U all is ρ h K→∀ids,Fresh h is ids→
  ∃ρ',lk ρ' =(is.foldl (jD U all.toArray ids) (lk ρ,h)).1∧K ρ' (is.foldl (jD U all.toArray ids) (lk ρ,h)).2
 | [],ρ,h,_,hk,ids,_=>⟨ρ,rfl,hk⟩
 |i::is,ρ,h,ho,hk,ids,hf=>by
  obtain⟨o,B,e1,e2,e3⟩:=ho i (List.mem_cons_self ..);simp only[sj,e1]at hk;have hk:=(E1 e2 e3).1 hk (ids i) (hf.1 i (List.mem_cons_self ..));have hn:=hf.2;rw[List.map_cons,List.nodup_cons]at hn;have hf' :Fresh (upd h (ids i) (some B)) is ids:=⟨fun j hj=>by
   have:ids j≠ids i:=fun e=>hn.1 (e▸List.mem_map.2 ⟨j,hj,rfl⟩)
   simp only[upd,this,if_false];exact hf.1 j (List.mem_cons_of_mem _ hj),hn.2⟩
  obtain⟨ρ',h1,h2⟩:=BD is _ _ ac1 hk ids hf';have e0:jD U all.toArray ids (lk ρ,h) i=(lk (put ρ o.dst (.ptr (ids i) 0)),upd h (ids i) (some B)):=by
   simp_all [some,jD,qP]
  refine⟨ρ',?_,?_⟩
  ·grind
  ·rw[List.foldl_cons,e0];exact h2
def ko(P:Program)(U:TypeId→TI)(n:Nat)(all:List Oper)(hm:Heap):Ord→Env→Heap→(Env→Heap→Prop)→Prop
 |.seq l,ρ,h,K=>dP P U n all hm l ρ h K
 |.fork l i a j b,ρ,h,K=>dP P U n all hm l ρ h fun ρ h=>
  dP P U n all hm [i] ρ h (fun ρ h=>ko P U n all hm a ρ h K)∧dP P U n all hm [j] ρ h (fun ρ h=>ko P U n all hm b ρ h K)
 |.quiet l i t,ρ,h,K=>dP P U n all hm l ρ h fun ρ h=>match all[i]? with
  |none=>False
  |some o=>o.guard=none∧vcQ P U ρ hm o fun X=>ko P U n all hm t (put ρ o.dst X) h K
 |.news l is t,ρ,h,K=>dP P U n all hm l ρ h fun ρ h=>Sub hm h∧mg U all is∧sj P U all is ρ h fun ρ h=>ko P U n all hm t ρ h K
theorem oN{n:Nat}(hU:∀t,aO P U t){md:Region.Mode}{all:List Oper}{K:Env→Heap→Prop}:∀(t:Ord) (listed:Array Bool) (ρ:Env) (h:Heap),qT md all.toArray t listed=true→ko P U n all hm t ρ h K→
  yA P md all.toArray hm (fun F h=>∃ρ,lk ρ=F∧K ρ h) t.len listed (lk ρ) h
 |.seq l,listed,ρ,h,hB,hk=>oZ l listed _ h hB (cF hU l ρ h hk)
 |.fork l i a j b,listed,ρ,h,hB,hk=>by
  simp only[qT,Bool.and_eq_true,beq_iff_eq]at hB;obtain⟨⟨⟨h1,h2⟩,h3⟩,h4,h5⟩:=hB;refine ov (a.len+1) l listed _ h h1 (mK (fun F h hh=>?_) l _ h (cF hU l ρ h hk))
  obtain⟨ρ',rfl,g1,g2⟩:=hh;refine⟨fun e=>(by rw[h2]at e;cases e),fun k hk' =>?_⟩
  rw[h2]at hk';rcases List.mem_cons.1 hk' with rfl|hk'
  ·exact fu (fun F h hh=>by obtain⟨ρ2,rfl,hh⟩:=hh;exact oN hU a _ ρ2 h h4 hh) (cF hU [k] ρ' h g1)
  ·obtain rfl:k=j:=by grind
   exact fu (fun F h hh=>by obtain⟨ρ2,rfl,hh⟩:=hh;rw[h3];exact oN hU b _ ρ2 h h5 hh) (cF hU [k] ρ' h g2)
 |.quiet l i t,listed,ρ,h,hB,hk=>by
  simp only[qT,Bool.and_eq_true]at hB;obtain⟨h1,⟨h2,h3⟩,h4⟩:=hB;refine ov (t.len+1) l listed _ h h1 (mK (fun F h hh=>?_) l _ h (cF hU l ρ h hk))
  obtain⟨ρ',rfl,g⟩:=hh;cases hi:all[i]? with
  |none=>grind
  |some o=>
   rw[hi]at g;simp only at g;obtain⟨X,hX,hq⟩:=BE hU g.2;have hi' :all.toArray[i]? =some o:=ac1;refine sB hi' t.len _ _ h (Region.free_spec hi' h3) ac1 (.inl ⟨by grind [cA],hq⟩) ?_
   rw[←qP];exact oN hU t _ _ h h4 hX
 |.news l is t,listed,ρ,h,hB,hk=>by
  simp only[qT,Mh,Bool.and_eq_true,decide_eq_true_eq]at hB;obtain⟨h1,⟨⟨⟨h2,h3⟩,h4⟩,h5⟩,h6⟩:=hB;refine ov (t.len+is.length) l listed _ h h1 (mK (fun F h hh=>?_) l _ h (cF hU l ρ h hk))
  obtain⟨ρ',rfl,g1,g2,g3⟩:=hh;have side:∀(is:List Nat),mg U all is→∀i∈is,∃o,all[i]? =some o∧zA U o.op:=fun is=>by
   induction is with
   |nil=>simp
   |cons k is ih=>
    intro hs i hi;simp only[mg]at hs
    grind
  have hall:∀i∈is,∃o d B,all.toArray[i]? =some o∧o.guard=none∧o.dst=some d∧cO o.op=true∧Gh U o.op=some B∧zA U o.op:=fun i hi=>by
   obtain⟨o,ha,hs⟩:=side is g2 i hi;have ha' :all.toArray[i]? =some o:=ac1;have hn:=List.all_eq_true.1 h5 i hi;rw[ha']at hn;simp only[Option.map_some,Option.getD_some,Ql,Bool.and_eq_true,Option.isNone_iff_eq_none,Option.isSome_iff_exists]at hn;obtain⟨⟨n1,d,n2⟩,n3⟩:=hn;split at n3
   ·rename_i ty hop
    exact⟨o,d,_,ha',n1,n2,by rw[hop];rfl,by rw[hop];rfl,hs⟩
   ·cases n3
  refine Ju (U:=U) is.length is _ _ h h2 g1 h3 h4 (fun i hi=>?_) fun ids hf=>?_
  ·obtain⟨o,d,B,a1,a2,a3,a4,a5,a6⟩:=hall i hi
   refine⟨o,d,B,a1,a2,a3,a4,a5,fun F h=>?_⟩
   intro c a hs g hd hr;exact kL hU ((E1 (ρ:=[]) a5 a6).2 fun id hid=>⟨id,hid,rfl,rfl⟩) hs g ⟨rfl,hd,fun t x hx=>by cases hx⟩
  ·obtain⟨ρ2,b1,b2⟩:=BD is ρ' h (fun i hi=>by
    grind) g3 ids hf
   rw[←b1];exact oN hU t _ ρ2 _ h6 b2
def Mr(md:Region.Mode)(ops:Array Oper)(z:Nat):Ord→Array Bool→Bool
 |.seq l,listed=>vn md ops z l listed
 |.quiet l i t,listed=>jX md ops l listed && (((Region.ready md ops (dR l listed)).contains i && Region.free md ops (dR l listed) i) && Mr md ops z t ((dR l listed).setIfInBounds i true))
 |_,_=>false
theorem rW:∀(l:List Nat) (listed:Array Bool),Closed md ops listed→jX md ops l listed=true→Closed md ops (dR l listed)
 | [],_,hc,_=>hc
 |k::l,listed,hc,hB=>by
  simp only[jX,Bool.and_eq_true]at hB;obtain⟨hB,hB'⟩:=hB;refine rW l _ (hc.set ?_) hB'
  grind
theorem sA{Q:EF→Heap→Prop}{z:Nat}(hz:xw md ops z=true)(m:Nat):∀(l:List Nat) (listed:Array Bool) (F:EF) (h:Heap),Closed md ops listed→
  jX md ops l listed=true→iP P ops hm (fun F h=>tK P md ops hm z Q m (dR l listed) F h) l F h→tK P md ops hm z Q (m+l.length) listed F h
 | [],_,_,_,_,_,hd=>hd
 |k::l,listed,F,h,hcl,hB,hd=>by
  simp only[jX,Bool.and_eq_true]at hB;obtain⟨hB,hB'⟩:=hB;cases h0:ops[k]? with
  |none=>grind
  |some o=>
   rw[h0]at hB;simp only at hB;cases he:cO o.op with
   |true=>
    refine⟨fun e=>ac1,fun j hj=>?_⟩
    obtain rfl:j=k:=ac1;exact fu (fun F' h' hh=>sA hz m l _ F' h' (hcl.set ac1) hB' hh) hd
   |false=>
    rw[he,if_neg ac7,Bool.and_eq_true]at hB;have hd:oA P ops hm o (iP P ops hm (fun F h=>tK P md ops hm z Q m (dR (k::l) listed) F h) l) F h:=by
     grind [hOp,iP]
    obtain⟨X,hy,hK⟩:=jA he hd;have hin:k∈Region.ready md ops listed:=ac1;exact qG hz h0 (m+l.length) listed F h hcl (Region.free_spec h0 hB.2) hin hy (sA hz m l _ _ _ (hcl.set hin) hB' hK)
theorem zO{n z:Nat}(hU:∀t,aO P U t){md:Region.Mode}{all:List Oper}{K:Env→Heap→Prop}(hz:xw md all.toArray z=true):∀(t:Ord) (listed:Array Bool) (ρ:Env) (h:Heap),Closed md all.toArray listed→Mr md all.toArray z t listed=true→ko P U n all hm t ρ h K→
  tK P md all.toArray hm z (fun F h=>∃ρ,lk ρ=F∧K ρ h) t.len listed (lk ρ) h
 |.seq l,listed,ρ,h,hc,hB,hk=>qH hz l listed _ h hc hB (cF hU l ρ h hk)
 |.quiet l i t,listed,ρ,h,hc,hB,hk=>by
  simp only[Mr,Bool.and_eq_true]at hB;obtain⟨h1,⟨h2,h3⟩,h4⟩:=hB;have hc' :=rW l listed hc h1;refine sA hz (t.len+1) l listed _ h hc h1 (mK (fun F h hh=>?_) l _ h (cF hU l ρ h hk))
  obtain⟨ρ',rfl,g⟩:=hh;cases hi:all[i]? with
  |none=>grind
  |some o=>
   rw[hi]at g;obtain⟨X,hX,hq⟩:=BE hU g.2;have hi' :all.toArray[i]? =some o:=ac1;have hin:i∈Region.ready md all.toArray (dR l listed):=ac1;refine qG hz hi' t.len _ _ h hc' (Region.free_spec hi' h3) hin (.inl ⟨by grind [cA],hq⟩) ?_
   rw[←qP];exact zO hU hz t _ _ h (hc'.set hin) h4 hX
 |.fork ..,_,_,_,_,hB,_=>by cases hB
 |.news ..,_,_,_,_,hB,_=>by cases hB
end
section
variable {P : Program} {U : TypeId → TI} {ops : Array Oper} {md : Region.Mode} {H : Nat → Heap}
def o6(P:Program)(ops:Array Oper)(H:Nat→Heap)(Q:EF→Heap→Prop):List Nat→EF→Heap→Prop
 | [],F,h=>Q F h
 |i::r,F,h=>hOp P ops (H i) i (o6 P ops H Q r) F h
def AS(P:Program)(md:Region.Mode)(ops:Array Oper)(H:Nat→Heap)(Q:EF→Heap→Prop):Nat→Array Bool→EF→Heap→Prop
 |0,listed,F,h=>Region.ready md ops listed= []∧Q F h
 |fuel+1,listed,F,h=>(Region.ready md ops listed= []→Q F h)∧∀i∈Region.ready md ops listed,hOp P ops (H i) i (AS P md ops H Q fuel (listed.setIfInBounds i true)) F h
theorem LJ{hm hm' :Heap}{j:Nat}{oi oj:Oper}{X:AV}(hj:ops[j]? =some oj)(hap:oi.apart ops oj=true){K:EF→Heap→Prop}{F:EF}{h:Heap}
  (hy:YP P ops hm' oi X F) (hs:hOp P ops hm j K (fS F oi.dst X) h):hOp P ops hm j (fun F' h' =>YP P ops hm' oi X F'∧K (fS F' oi.dst X) h') F h:=by
 obtain⟨h1,h2,h3⟩:=Oper.apart_spec hap;unfold hOp at*;simp only[hj]at*;have hlook:∀t∈oj.looksAt ops,fS F oi.dst X t=F t:=fun t ht=>kH fun e he hte=>h1 e he (hte▸ht)
 have hlook2:∀u,∀t∈oi.looksAt ops,F t=fS F oj.dst u t:=fun u t ht=>(kH fun e he hte=>h3 e he (hte▸ht)).symm
 rcases hs with⟨w1,⟨w0,Q,w2,w3⟩|⟨Y,w2,w3⟩⟩|⟨w1,w2⟩
 ·refine .inl ⟨afi,.inl ⟨w0,Q,uC agV w2,fun Y h' hq=>⟨(w3 Y h' hq).1,og (hlook2 Y) hy,?_⟩⟩⟩
  rw[←iN F X Y h2];exact(w3 Y h' hq).2
 ·refine .inl ⟨afi,.inr ⟨Y,xN agV w2,og (hlook2 Y) hy,?_⟩⟩
  rw[←iN F X Y h2];exact w3
 ·refine .inr ⟨afi,og (hlook2 _) hy,?_⟩
  rw[←iN F X _ h2];exact w2
theorem Dw{Q:EF→Heap→Prop}{i:Nat}{oi:Oper}{X:AV}(hi:ops[i]? =some oi):
  ∀(fuel:Nat) (listed:Array Bool) (F:EF) (h:Heap),
   (∀j oj,ops[j]? =some oj→j≠i→listed.getD j true=false→(∀e∈oj.after,Region.binds md e=true→e.on≠i)→oi.apart ops oj=true)→
   i∈Region.ready md ops listed→YP P ops (H i) oi X F→
   AS P md ops H Q fuel (listed.setIfInBounds i true) (fS F oi.dst X) h→AS P md ops H Q (fuel+1) listed F h:=by
 intro fuel
 induction fuel with
 |zero=>
  intro listed F h _ hr hy HH;refine⟨fun e=>aet,fun j hj=>?_⟩
  by_cases hji:j=i
  ·subst hji;exact jB hi hy HH
  ·have:=ready_mono hj hji
   rw[HH.1]at this;cases this
 |succ fuel ih=>
  intro listed F h hfree hr hy HH;refine⟨fun e=>aet,fun j hj=>?_⟩
  by_cases hji:j=i
  ·subst hji;exact jB hi hy HH
  ·have h1:=HH.2 j (ready_mono hj hji)
   obtain⟨hjun,oj,hoj,hall⟩:=mem_ready.1 hj;have hnot:∀e∈oj.after,Region.binds md e=true→e.on≠i:=fun e he hb heq=>by
    exact aho
   have h2:=LJ hoj (hfree j oj hoj hji hjun hnot) hy h1;exact ahs
theorem qI{Q:EF→Heap→Prop}:∀(l:List Nat) (listed:Array Bool) (F:EF) (h:Heap),
  jV md ops l listed=true→o6 P ops H Q l F h→AS P md ops H Q l.length listed F h
 | [],_,_,_,hB,hd=>⟨by grind [jV],hd⟩
 |k::l,listed,F,h,hB,hd=>by
  simp only[jV,Bool.and_eq_true]at hB;obtain⟨hB,hB'⟩:=hB;cases h0:ops[k]? with
  |none=>grind
  |some o=>
   rw[h0]at hB;simp only at hB;cases he:cO o.op with
   |true=>
    rw[he,if_pos rfl]at hB;have hB:=beq_iff_eq.1 hB;refine⟨fun e=>(by rw[hB]at e;cases e),fun j hj=>?_⟩
    obtain rfl:j=k:=ac1;exact fu (fun F' h' hh=>qI l _ F' h' hB' hh) hd
   |false=>
    rw[he,if_neg ac7,Bool.and_eq_true]at hB;have hd:oA P ops (H k) o (o6 P ops H Q l) F h:=by
     have:hOp P ops (H k) k (o6 P ops H Q l) F h:=hd
     grind [hOp]
    obtain⟨X,hy,hK⟩:=jA he hd;exact Dw h0 l.length listed F h (Region.free_spec h0 hB.2) ac1 hy (qI l _ _ _ hB' hK)
def rZ(hm:Heap)(l1:List Nat)(i:Nat):Heap:=if l1.contains i then hm else fun _=>none
def Cl(md:Region.Mode)(ops:Array Oper)(l1:List Nat):Bool:=(List.range ops.size).all fun j=>match ops[j]? with
 |some o=>if cO o.op then !l1.contains j && l1.all fun k=>(jM md ops (jM md ops (jM md ops [j]))).contains k else true
 |none=>true
def L3(md:Region.Mode)(ops:Array Oper)(l1 l2:List Nat):Bool:=Cl md ops l1 && jV md ops (l1++l2) (Array.replicate ops.size false) && ((l1++l2).length==ops.size) && l2.all fun i=> !l1.contains i
theorem DM{l:List Nat}(hb:Cl md ops l=true){listed:Array Bool}(hc:Closed md ops listed){j:Nat}{oj:Oper}(hoj:ops[j]? =some oj)(he:cO oj.op=true)(hj:j∈Region.ready md ops listed):j∉l∧∀k∈l,listed.getD k false=true:=by
 unfold Cl at hb;rw[List.all_eq_true]at hb;have hm:=hb j ac1;rw[hoj]at hm;simp only[he,if_true,Bool.and_eq_true,Bool.not_eq_true']at hm;have hl:j∉l:=fun h=>by have:=hm.1;rw[List.contains_iff_mem.2 h]at this;cases this
 refine⟨hl,fun k hk=>?_⟩
 have s0:∀k∈ [j],k≠j→listed.getD k false=true:=fun k hk hn=>absurd (by simpa using hk) hn
 have s3:=eV hc hj (eV hc hj (eV hc hj s0));have h2:=hm.2;rw[List.all_eq_true]at h2;have:=h2 k hk;rw[List.contains_iff_mem]at this;exact s3 k this fun e=>hl (e▸hk)
theorem RG{hm hm' :Heap}{i:Nat}{o:Oper}{K:EF→Heap→Prop}{F:EF}{h:Heap}(ho:ops[i]? =some o)(he:cO o.op=false)(hs:Sub hm hm')(hd:hOp P ops hm i K F h):hOp P ops hm' i K F h:=by
 unfold hOp at*;simp only[ho]at*;rcases hd with⟨h1,⟨h2,_⟩|⟨X,h3,h4⟩⟩|h1
 ·rw[he]at h2;cases h2
 ·exact .inl ⟨h1,.inr ⟨X,fun g hg=>h3 g fun j k e=>hg _ _ (hs _ _ e),h4⟩⟩
 ·exact .inr h1
theorem nD{n:Nat}{Q:EF→Heap→Prop}{Q' :Exit→Act→World→Prop}{c0:Cx}{hm:Heap}{l1:List Nat}(hb:Cl md ops l1=true)(hdst:∀o∈ops.toList,dU n o.dst=true)
  (hQ:∀c F h a,Ext c0 c→Sub h c.h→Good c→mE c n F a→Q F h→Q' .normal a c.w):∀(fuel:Nat) (listed:Array Bool) (c:Cx) (F:EF) (h:Heap) (a:Act),Closed md ops listed→Ext c0 c→Sub h c.h→(Sub hm c.h∨∀k∈l1,listed.getD k false=true)→Good c→mE c n F a→
   AS P md ops (rZ hm l1) Q fuel listed F h→wpAny P md ops Q' fuel listed a c.w
 |0,_,c,F,h,a,_,h1,h2,_,h3,h4,hd=>⟨hd.1,hQ c F h a h1 h2 h3 h4 hd.2⟩
 |fuel+1,listed,c,F,h,a,hc,h1,h2,hor,h3,h4,hd=>
  ⟨fun e=>hQ c F h a h1 h2 h3 h4 (hd.1 e),fun i hi=>by
   have hdi:=hd.2 i hi;have hset:=hc.set hi;obtain⟨hun,oi,hoi,_⟩:=mem_ready.1 hi;have hun' :listed.getD i false=false:=by
    clear hd hdi
    grind
   have late:(∀k∈l1,listed.getD k false=true)→∀k∈l1,(listed.setIfInBounds i true).getD k false=true:=fun hh k hk=>by
    have:=hh k hk
    by_cases e:i=k
    ·subst e;rw[hun']at this;cases this
    ·rw[getD_set_ne false e];exact this
   cases he:cO oi.op with
   |true=>
    obtain⟨hni,hall⟩:=DM hb hc hoi he hi;exact ahL
   |false=>
    rcases hor with hs|hall
    ·have hdi' :hOp P ops hm i (AS P md ops (rZ hm l1) Q fuel (listed.setIfInBounds i true)) F h:=RG hoi he (fun j k e=>by
      unfold rZ at e;split at e
      ·exact e
      ·cases e) hdi
     exact mw hdst (fun c F h a k1 k2 k2' k3 k4 hk=>nD hb hdst hQ fuel _ c F h a hset k1 k2 (.inl k2') k3 k4 hk) h1 h2 hs h3 h4 hdi'
    ·have hni:i∉l1:=fun hh=>by
      rw[hall i hh]at hun';cases hun'
     exact ahL⟩
theorem u0{hm:Heap}{Q Q' :EF→Heap→Prop}(hq:∀F h,Q F h→Q' F h):∀(l:List Nat) (F:EF) (h:Heap),(∀i∈l,H i=hm)→iP P ops hm Q l F h→o6 P ops H Q' l F h
 | [],F,h,_,hd=>hq F h hd
 |i::l,F,h,hh,hd=>by
  show hOp P ops (H i) i _ F h
  rw[hh i ac7];exact fu (fun F h hd=>u0 hq l F h (fun i hi=>hh i (by simp[hi])) hd) hd
theorem yB{Q:EF→Heap→Prop}:∀(l l' :List Nat) (F:EF) (h:Heap),o6 P ops H (o6 P ops H Q l') l F h→o6 P ops H Q (l++l') F h
 | [],_,_,_,hd=>hd
 |i::l,l',F,h,hd=>fu (fun F h hd=>yB l l' F h hd) hd
end
section
variable {P : Program} {U : TypeId → TI} {ops : Array Oper} {md : Region.Mode} {h : Heap}
theorem B6{Q:EF→Prop}{z i:Nat}{oi:Oper}{X:AV}(hz:xw md ops z=true)(hi:ops[i]? =some oi):
  ∀(fuel:Nat) (listed:Array Bool) (F:EF),Closed md ops listed→
   (∀j oj,ops[j]? =some oj→j≠i→listed.getD j true=false→(∀e∈oj.after,Region.binds md e=true→e.on≠i)→oi.apart ops oj=true)→
   i∈Region.ready md ops listed→YD P ops h oi X F→
   ya P md ops h z Q fuel (listed.setIfInBounds i true) (fS F oi.dst X)→ya P md ops h z Q (fuel+1) listed F:=by
 intro fuel
 induction fuel with
 |zero=>
  intro listed F hcl _ hr hy H;refine⟨fun e=>ac1,fun j hj=>?_⟩
  by_cases hji:j=i
  ·grind [mh]
  ·exact aiD
 |succ fuel ih=>
  intro listed F hcl hfree hr hy H;refine⟨fun e=>ac1,fun j hj=>?_⟩
  by_cases hji:j=i
  ·grind [mh]
  ·have h1:=H.2 j (ready_mono hj hji)
   obtain⟨hjun,oj,hoj,hall⟩:=mem_ready.1 hj;have hnot:∀e∈oj.after,Region.binds md e=true→e.on≠i:=fun e he hb heq=>by
    grind [mem_ready,Nat.lt_or_ge,Array.getElem?_eq_none]
   have h2:=B7 hoj (hfree j oj hoj hji hjun hnot) hy h1;have hfree' :∀k ok,ops[k]? =some ok→k≠i→(listed.setIfInBounds j true).getD k true=false→
     (∀e∈ok.after,Region.binds md e=true→e.on≠i)→oi.apart ops ok=true:=fun k ok hk hki hun hno=>by
    refine hfree k ok hk hki ?_ hno
    by_cases hjk:j=k
    ·grind
    simp_all
   refine yd (fun F' h3=>ih (listed.setIfInBounds j true) F' (hcl.set hj) hfree' (ready_mono hr (Ne.symm hji)) h3.1 ?_) h2
   grind [Array.setIfInBounds_comm]
theorem yb{Q:EF→Prop}{z:Nat}(hz:xw md ops z=true):∀(l:List Oper) (k:Nat) (listed:Array Bool) (F:EF),Closed md ops listed→(∀j,j<l.length→l[j]? =ops[k+j]?)→
  L7 md ops z l.length k listed=true→dList P ops h Q l F→ya P md ops h z Q l.length listed F
 | [],_,_,_,_,_,hB,hd=>⟨by grind [L7],hd⟩
 |o::l,k,listed,F,hcl,hl,hB,hd=>by
  have h0:ops[k]? =some o:=by simpa using(hl 0 ac7).symm
  simp only[List.length_cons,L7,Bool.and_eq_true]at hB;obtain⟨⟨hr,hf⟩,hB'⟩:=hB;obtain⟨X,hy,hK⟩:=vN hd;exact B6 hz h0 l.length listed F hcl (Region.free_spec h0 hf) ac1 hy
   (yb hz l (k+1) _ _ (hcl.set ac1) (fun j hj=>by have:=hl (j+1) ac1;simpa[Nat.add_assoc,Nat.add_comm 1 j]using this) hB' hK)
end
section
variable (P : Program) (U : TypeId → TI) (n : Nat)
def KSeq(next:Env→Heap→Prop)(K:Exit→Env→Heap→Prop)(e:Exit)(ρ:Env)(h:Heap):Prop:=
 match e with
 |.normal=>next ρ h
 |e=>K e ρ h
def KBlock(id:Nat)(K:Exit→Env→Heap→Prop)(e:Exit)(ρ:Env)(h:Heap):Prop:=
 match e with
 |.exit j=>if j=id then K .normal ρ h else K (.exit j) ρ h
 |e=>K e ρ h
def wf1:AV→Prop
 |.s l=>l.length<lim
 |.sl xs _=>xs.length<lim
 |_=>True
def wfA:AV→Prop
 |.agg cs=>∀x∈cs,wf1 x
 |.pe y _=>∀x∈y.cells,wf1 x
 |x=>wf1 x
def Wf(ρ:Env):Prop:=∀t x,lk ρ t=some x→wfA x
def KI(body:Env→Heap→(Exit→Env→Heap→Prop)→Prop)(ρ:Env)(h:Heap)(K:Exit→Env→Heap→Prop):Prop:=
 Wf ρ→∃(I:Nat→Env→Heap→Prop) (m:Nat),I m ρ h∧∀m ρ h,I m ρ h→body ρ h (KSeq (fun ρ' h' =>∃m',m' <m∧I m' ρ' h') K)
def lS(all:List Oper):List Oper→Env→Heap→(Env→Prop)→Prop
 | [],ρ,_,K=>K ρ
 |o::os,ρ,h,K=>dU n o.dst=true∧jP all ρ o.guard
   (fun ρ=>jv P U ρ h o fun X=>lS all os (put ρ o.dst X) h K)
   (fun ρ=>lS all os (put ρ o.dst (.v undef)) h K)
def yP(ops:Array Oper):Bool:=Region.lexFrom .any ops ops.size 0 (Array.replicate ops.size false)
def Cj:Op→Bool
 |.store .. =>true
 |_=>false
def rY:List Oper→Bool
 | []=>false
 | [o]=>Cj o.op && o.guard.isNone
 |_::b::r=>rY (b::r)
def L8(ops:Array Oper):Bool:=xw .any ops (ops.size - 1) && L7 .any ops (ops.size - 1) (ops.size - 1) 0 (Array.replicate ops.size false)
def pV(l:List Oper)(h:Heap)(K:Env→Heap→Prop)(ρ:Env):Prop:=match l.getLast? with
 |some o=>bf P U ρ h o fun X h' =>K (put ρ o.dst X) h'
 |none=>False
def nY(l:List Oper):Bool:=l.all fun o=> !cO o.op
def QA(P:Program)(U:TypeId→TI)(n:Nat)(ops:Array Oper)(ρ:Env)(h:Heap)(K:Env→Heap→Prop):Prop:=
 (ops.toList.all fun o=>dU n o.dst)=true∧
 (yP ops=true∧lS P U n ops.toList ops.toList ρ h (fun ρ=>K ρ h)∨
  (∃(hm:Heap) (t:Ord) (Post:Env→Heap→Prop),Sub hm h∧qT .any ops t (Array.replicate ops.size false)=true∧t.len=ops.size∧ko P U n ops.toList hm t ρ h Post∧∀ρ h,Post ρ h→K ρ h)∨
  (∃(hm:Heap) (l1 l2:List Nat),Sub hm h∧xJ .any ops l1 l2=true∧dP P U n ops.toList hm l1 ρ h (fun ρ h=>∃hm2,Sub hm2 h∧dP P U n ops.toList hm2 l2 ρ h K))∨
  (∃(hm:Heap) (t:Ord),Sub hm h∧xw .any ops t.len=true∧(ops.toList.getLast?.map fun o=>o.guard.isNone)=some true∧Mr .any ops t.len t (Array.replicate ops.size false)=true∧t.len+1=ops.size∧ko P U n ops.toList hm t ρ h (fun ρ h=>pV P U ops.toList h K ρ))∨
  ∃(hm:Heap) (l1 l2:List Nat),Sub hm h∧L3 .any ops l1 l2=true∧dP P U n ops.toList hm l1 ρ h (fun ρ h=>dP P U n ops.toList (fun _=>none) l2 ρ h K))
def WP(c:Code)(ρ:Env)(h:Heap)(K:Exit→Env→Heap→Prop):Prop:=
 ∀cx a,Sub h cx.h→Good cx→cj cx n ρ a→c.wp P (WPK n K cx) a cx.w
def KJump(l:Nat)(J:Env→Heap→Prop)(K:Exit→Env→Heap→Prop):Exit→Env→Heap→Prop
 |.goto l',ρ,h=>l' =l∧J ρ h
 |e,ρ,h=>K e ρ h
def bF:Code→Env→Heap→(Exit→Env→Heap→Prop)→Prop
 |.skip,ρ,h,K=>K .normal ρ h
 |.region _ ops draw,ρ,h,K=>if draw then(if rY ops.toList && nY ops.toList.dropLast then(L8 ops && ops.toList.all fun o=>dU n o.dst)=true∧lS P U n ops.toList ops.toList.dropLast ρ h (pV P U ops.toList h (K .normal))else if nY ops.toList=false then QA P U n ops ρ h (K .normal)else(yP ops && ops.toList.all fun o=>dU n o.dst)=true∧lS P U n ops.toList ops.toList ρ h (fun ρ=>K .normal ρ h))else kr P U n ops.toList ops.toList ρ h (K .normal)
 |.seq a b,ρ,h,K=>bF a ρ h (KSeq (fun ρ h=>bF b ρ h K) K)
 |.cond c a b,ρ,h,K=>withv ρ c fun
  |.v (.bool t)=>(t=true→bF a ρ h K)∧(t=false→bF b ρ h K)
  |_=>False
 |.block id c,ρ,h,K=>bF c ρ h (KBlock id K)
 |.loop c,ρ,h,K=>KI (fun ρ h K=>bF c ρ h K) ρ h K
 |.exit id,ρ,h,K=>K (.exit id) ρ h
 |.ret,ρ,h,K=>K .ret ρ h
 |.label _,ρ,h,K=>K .normal ρ h
 |.goto l,ρ,h,K=>K (.goto l) ρ h
 |.scope c,ρ,h,K=>∃(l:Nat) (rest:Code) (J:Nat→Env→Heap→Prop),findLabel c l=some rest∧bF c ρ h (KJump l (fun ρ h=>∃m,J m ρ h) K)∧
  ∀m ρ h,J m ρ h→WP P n rest ρ h (KJump l (fun ρ' h' =>∃m',m' <m∧J m' ρ' h') K)
 |_,_,_,_=>False
end
section
variable {P : Program} {U : TypeId → TI} {n : Nat}
theorem WPK.mono{K K' :Exit→Env→Heap→Prop}{c0:Cx}(hk:∀e ρ h,K e ρ h→K' e ρ h){e:Exit}{a:Act}{w:World}(h:WPK n K c0 e a w):WPK n K' c0 e a w:=by
 obtain⟨c,ρ,hh,h1,h2,h3,h4,h5,h6⟩:=h;exact⟨c,ρ,hh,h1,h2,h3,h4,h5,hk _ _ _ h6⟩
theorem WP.weaken{c:Code}{ρ:Env}{h:Heap}{K K' :Exit→Env→Heap→Prop}(hw:WP P n c ρ h K)(hk:∀e ρ h,K e ρ h→K' e ρ h):WP P n c ρ h K' :=
 fun cx a h1 h2 h3=>wp_mono (hw cx a h1 h2 h3) fun _ _ _=>WPK.mono hk
theorem WP.seq{c d:Code}{ρ:Env}{h:Heap}{K:Exit→Env→Heap→Prop}(hc:WP P n c ρ h (KSeq (WP P n d · · K) K)):WP P n (.seq c d) ρ h K:=by
 intro cx a h1 h2 h3;refine wp_seq (wp_mono (hc cx a h1 h2 h3) fun e a w hq=>?_)
 obtain⟨c',ρ',h',rfl,g,hE,he,hs,hk⟩:=hq;cases e with
 |normal=>
  have:=hk c' a hs g he;exact wp_mono this fun _ _ _=>WPK.after hE
 |_=>exact⟨c',ρ',h',rfl,g,hE,he,hs,hk⟩
theorem WP.block{id:Nat}{c:Code}{ρ:Env}{h:Heap}{K:Exit→Env→Heap→Prop}(hc:WP P n c ρ h (KBlock id K)):WP P n (.block id c) ρ h K:=by
 intro cx a h1 h2 h3;refine wp_block (wp_mono (hc cx a h1 h2 h3) fun e a w hq=>?_)
 obtain⟨c',ρ',h',rfl,g,hE,he,hs,hk⟩:=hq;cases e with
 |exit j=>
  simp only[Exit.inBlock,KBlock]at hk⊢;split
  ·rename_i e;rw[if_pos e]at hk;exact⟨c',ρ',h',rfl,g,hE,he,hs,hk⟩
  ·rename_i e;rw[if_neg e]at hk;exact⟨c',ρ',h',rfl,g,hE,he,hs,hk⟩
 |_=>exact⟨c',ρ',h',rfl,g,hE,he,hs,hk⟩
theorem CJ{c:Code}{Q:Exit→Act→World→Prop}(I:Nat→Act→World→Prop)(round:∀m a w,I m a w→c.wp P (Exit.then (fun a' w' =>∃m',m' <m∧I m' a' w') Q) a w):
  ∀m a w,I m a w→(Code.loop c).wp P Q a w:=by
 intro m a w h0 b k cs;have key:∀n a w,I n a w→∃e a' w',Q e a' w'∧Arrives P (lone (b.at a (.code c:: .inLoop c::k)) cs w) b k cs e a' w' :=by
  intro n
  induction n using Nat.strongRecOn with
  |_ n ih=>
   intro a w hI;obtain⟨e,a₁,w₁,hq,harr⟩:=round n a w hI b (.inLoop c::k) cs;cases e with
   |normal=>
    obtain⟨m',hlt,hI₁⟩:=hq;obtain⟨e₂,a₂,w₂,hq₂,harr₂⟩:=ih m' hlt a₁ w₁ hI₁;exact⟨e₂,a₂,w₂,hq₂,.of_steps (Steps.trans harr (.one step_inLoop)) harr₂⟩
   |exit id=>exact⟨_,a₁,w₁,hq,.pass (x:=.inLoop c) rfl ac7 harr⟩
   |goto l=>exact⟨_,a₁,w₁,hq,.pass (x:=.inLoop c) rfl ac7 harr⟩
   |ret=>exact⟨_,a₁,w₁,hq,.pass (x:=.inLoop c) rfl ac7 harr⟩
   |panic ch=>exact⟨_,a₁,w₁,hq,.pass (x:=.inLoop c) rfl ac7 harr⟩
   |outgrown=>exact⟨_,a₁,w₁,hq,.pass (x:=.inLoop c) rfl ac7 harr⟩
 obtain⟨e,a',w',hq,harr⟩:=key m a w h0;exact⟨e,a',w',hq,.of_steps (.one step_loop) harr⟩
def Exit.LX(l:Nat)(J:Act→World→Prop)(Q:Exit→Act→World→Prop):Exit→Act→World→Prop
 |.goto l',a,w=>l' =l∧J a w
 |e,a,w=>Q e a w
theorem Au{c rest:Code}{Q:Exit→Act→World→Prop}{a:Act}{w:World}(l:Nat)(J:Nat→Act→World→Prop)(hf:findLabel c l=some rest)
  (first:c.wp P (Exit.LX l (fun a w=>∃m,J m a w) Q) a w)
  (pass:∀m a w,J m a w→rest.wp P (Exit.LX l (fun a' w' =>∃m',m' <m∧J m' a' w') Q) a w):(Code.scope c).wp P Q a w:=by
 intro b k cs;have hg:gotoIn l (.inScope c::k)=some (.code rest:: .inScope c::k):=by grind [gotoIn]
 have key:∀m a w,J m a w→∃e a' w',Q e a' w'∧Arrives P (lone (b.at a (.code rest:: .inScope c::k)) cs w) b k cs e a' w' :=by
  intro m
  induction m using Nat.strongRecOn with
  |_ m ih=>
   intro a w hJ;obtain⟨e,a₁,w₁,hq,harr⟩:=pass m a w hJ b (.inScope c::k) cs;cases e with
   |normal=>exact⟨.normal,a₁,w₁,hq,Steps.trans harr (.one step_inScope)⟩
   |exit id=>exact⟨.exit id,a₁,w₁,hq,fun k' hk=>harr k' (by grind [exitTo])⟩
   |goto l' =>
    obtain⟨rfl,m',hlt,hJ'⟩:=hq;obtain⟨e₂,a₂,w₂,hq₂,harr₂⟩:=ih m' hlt a₁ w₁ hJ';exact⟨e₂,a₂,w₂,hq₂,.of_steps (harr _ hg) harr₂⟩
   |ret=>exact⟨_,a₁,w₁,hq,harr⟩
   |panic ch=>exact⟨_,a₁,w₁,hq,harr⟩
   |outgrown=>exact⟨_,a₁,w₁,hq,harr⟩
 obtain⟨e,a₁,w₁,hq,harr⟩:=first b (.inScope c::k) cs;cases e with
 |normal=>exact⟨.normal,a₁,w₁,hq,.head step_scope (Steps.trans harr (.one step_inScope))⟩
 |exit id=>exact⟨.exit id,a₁,w₁,hq,fun k' hk=> .head step_scope (harr k' (by grind [exitTo]))⟩
 |goto l' =>
  obtain⟨rfl,m,hJ⟩:=hq;obtain⟨e₂,a₂,w₂,hq₂,harr₂⟩:=key m a₁ w₁ hJ;exact⟨e₂,a₂,w₂,hq₂,.of_steps (.head step_scope (harr _ hg)) harr₂⟩
 |ret=>exact⟨_,a₁,w₁,hq,.of_steps (.one step_scope) harr⟩
 |panic ch=>exact⟨_,a₁,w₁,hq,.of_steps (.one step_scope) harr⟩
 |outgrown=>exact⟨_,a₁,w₁,hq,.of_steps (.one step_scope) harr⟩
theorem WP.scope{c rest:Code}{ρ:Env}{h:Heap}{K:Exit→Env→Heap→Prop}(l:Nat)(J:Nat→Env→Heap→Prop)(hf:findLabel c l=some rest)(first:WP P n c ρ h (KJump l (fun ρ h=>∃m,J m ρ h) K))
  (pass:∀m ρ h,J m ρ h→WP P n rest ρ h (KJump l (fun ρ' h' =>∃m',m' <m∧J m' ρ' h') K)):WP P n (.scope c) ρ h K:=by
 intro cx a h1 h2 h3;refine Au l (fun m a w=>∃c' ρ' h',c'.w=w∧Good c'∧Ext cx c'∧cj c' n ρ' a∧Sub h' c'.h∧J m ρ' h') hf (wp_mono (first cx a h1 h2 h3) fun e a w hq=>?_) ?_
 ·obtain⟨c2,ρ2,h2,rfl,g2,hE2,he2,hs2,hk⟩:=hq
  cases e with
  |goto l' =>obtain⟨e1,m,hI⟩:=hk;exact⟨e1,m,c2,ρ2,h2,rfl,g2,hE2,he2,hs2,hI⟩
  |_=>exact⟨c2,ρ2,h2,rfl,g2,hE2,he2,hs2,hk⟩
 ·rintro m a w ⟨c',ρ',h',rfl,g,hE,he,hs,hI⟩
  refine wp_mono (pass m ρ' h' hI c' a hs g he) fun e a w hq=>?_
  obtain⟨c2,ρ2,h2,rfl,g2,hE2,he2,hs2,hk⟩:=hq;cases e with
  |goto l' =>
   obtain⟨e1,m',hlt,hI'⟩:=hk;exact⟨e1,m',hlt,c2,ρ2,h2,rfl,g2,hE.trans hE2,he2,hs2,hI'⟩
  |_=>exact⟨c2,ρ2,h2,rfl,g2,hE.trans hE2,he2,hs2,hk⟩
theorem WP.loop{c:Code}{ρ:Env}{h:Heap}{K:Exit→Env→Heap→Prop}(I:Nat→Env→Heap→Prop)(m:Nat)(h0:I m ρ h)(round:∀m ρ h,I m ρ h→WP P n c ρ h (KSeq (fun ρ' h' =>∃m',m' <m∧I m' ρ' h') K)):
  WP P n (.loop c) ρ h K:=by
 intro cx a h1 h2 h3;refine CJ (fun m a w=>∃c' ρ' h',c'.w=w∧Good c'∧Ext cx c'∧cj c' n ρ' a∧Sub h' c'.h∧I m ρ' h') ?_ m a cx.w ⟨cx,ρ,h,rfl,h2,.refl _,h3,h1,h0⟩
 rintro m a w ⟨c',ρ',h',rfl,g,hE,he,hs,hI⟩
 refine wp_mono (round m ρ' h' hI c' a hs g he) fun e a w hq=>?_
 obtain⟨c2,ρ2,h2,rfl,g2,hE2,he2,hs2,hk⟩:=hq;cases e with
 |normal=>
  obtain⟨m',hlt,hI'⟩:=hk;exact⟨m',hlt,c2,ρ2,h2,rfl,g2,hE.trans hE2,he2,hs2,hI'⟩
 |_=>exact⟨c2,ρ2,h2,rfl,g2,hE.trans hE2,he2,hs2,hk⟩
theorem WP.ops(hU:∀t,aO P U t){id:Nat}{ops:Array Oper}{ρ:Env}{h:Heap}{K:Exit→Env→Heap→Prop}(hk:kr P U n ops.toList ops.toList ρ h (K .normal)):WP P n (.region id ops false) ρ h K:=by
 intro cx a h1 h2 h3;refine wp_region_list ?_;have:=rC (K:=K) hU cx ops.toList ρ h hk cx a (.refl _) h1 h2 h3;simpa using this
theorem Rep.wf1{c:Cx}{x:AV}{u:Value}(h:Rep c x u):wf1 x:=by
 cases x with
 |s l=>exact h.lD.2
 |sl xs p=>obtain⟨a,cap,sz,val,_,hs⟩:=h.iB;have:=hs.hc;have:=hs.hm;simp only[Ab.wf1];omega
 |_=>trivial
theorem Rep.wf{c:Cx}{x:AV}{u:Value}(h:Rep c x u):wfA x:=by
 cases x with
 |agg cs=>
  obtain⟨vs,_,_,hr,_⟩:=h.oQ;intro x hx;obtain⟨i,hi,rfl⟩:=List.mem_iff_getElem.1 hx
  grind [wf1]
 |pe y off=>
  obtain⟨b,o,val,_,_,_,hr,_⟩:=h.vo;intro x hx;obtain⟨i,hi,rfl⟩:=List.mem_iff_getElem.1 hx
  grind [wf1]
 |_=>exact h.wf1
theorem cj.wf{c:Cx}{ρ:Env}{a:Act}(h:cj c n ρ a):Wf ρ:=fun t x hx=>(h.rep t x hx).wf
theorem DS{ρ:Env}{d:Nat}{x:AV}(hd:lk ρ d=some x):lk ((d,x)::ρ)=lk ρ:=by
 grind [lk]
theorem pR(hU:∀t,aO P U t){all:List Oper}{h:Heap}{K:Env→Prop}:∀(l:List Oper) (ρ:Env),lS P U n all l ρ h K→dList P all.toArray h (fun F=>∃ρ,lk ρ=F∧K ρ) l (lk ρ)
 | [],ρ,hk=>⟨ρ,rfl,hk⟩
 |o::os,ρ,hk=>by
  obtain⟨hd,hk⟩:=hk;have yes:∀ρ',cA all.toArray (lk ρ) o=some true→lk ρ' =lk ρ→(jv P U ρ' h o fun X=>lS P U n all os (put ρ' o.dst X) h K)→vV P all.toArray h o (dList P all.toArray h (fun F=>∃ρ,lk ρ=F∧K ρ) os) (lk ρ):=by
   intro ρ' hw hl hv;obtain⟨X,hQ,hX⟩:=GS hU hv;have:=pR hU os _ hQ;rw[qP,hl]at this;rw[hl]at hX;exact .inl ⟨hw,X,hX,this⟩
  have no:∀ρ',cA all.toArray (lk ρ) o=some false→lk ρ' =lk ρ→lS P U n all os (put ρ' o.dst (.v undef)) h K→vV P all.toArray h o (dList P all.toArray h (fun F=>∃ρ,lk ρ=F∧K ρ) os) (lk ρ):=by
   intro ρ' hw hl hv;have:=pR hU os _ hv;rw[qP,hl]at this;exact .inr ⟨hw,this⟩
  unfold jP at hk;split at hk
  ·rename_i hg
   exact yes ρ (by grind [cA]) rfl hk
  ·rename_i g want hg
   split at hk
   ·rename_i d hd'
    have hd2:((all.toArray)[g]?).bind (·.dst)=some d:=by grind [qx]
    split at hk
    ·rename_i t ht
     have hw:cA all.toArray (lk ρ) o=some (t==want):=by
      grind [cA]
     by_cases e:t=want
     ·exact yes _ ac1 (by grind [DS]) (hk.1 e)
     ·have e' :t= !want:=by cases t<;>cases want<;>simp_all
      exact no _ ac1 (by grind [DS]) (hk.2 e')
    ·rename_i vs ht
     refine no ρ ?_ rfl hk
     grind [cA]
    ·exact ado
   ·exact ado
theorem WP.draw(hU:∀t,aO P U t)(hm:P.follows .mixedOrders=true){id:Nat}{ops:Array Oper}{ρ:Env}{h:Heap}{K:Exit→Env→Heap→Prop}(hdst:∀o∈ops.toList,dU n o.dst=true)(hB:yP ops=true)
  (hk:lS P U n ops.toList ops.toList ρ h (fun ρ=>K .normal ρ h)):WP P n (.region id ops true) ρ h K:=by
 intro cx a h1 h2 h3;have hd:=pR hU ops.toList ρ hk;have hd2:=C6 (md:=.any) (ops:=ops) ops.toList 0 (Array.replicate ops.size false) (lk ρ) ac7 (by grind [yP]) (by simpa using hd)
 refine wp_region_any hm ?_;have hE:Ext cx {cx with w:={cx.w with drawn:=cx.w.drawn+1}}:=Ext.draw rfl rfl rfl rfl
 have:=yc (n:=n) (Q' :=WPK n K cx) (c0:=cx) hdst (fun c F a hE hs g he hQ=>by
  obtain⟨ρ',rfl,hK⟩:=hQ;exact⟨c,ρ',h,rfl,g,hE,⟨he.1,he.2.1,he.2.2⟩,hs,hK⟩) _ _ {cx with w:={cx.w with drawn:=cx.w.drawn+1}} (lk ρ) a hE h1 (h2.draw rfl rfl rfl rfl)
  ⟨h3.size,h3.defers,fun t x hx=>(h3.rep t x hx).mono hE⟩ hd2
 simpa using this
theorem WP.Hr(hU:∀t,aO P U t)(hm:P.follows .mixedOrders=true){id:Nat}{ops:Array Oper}{ρ:Env}{h hl:Heap}{K:Exit→Env→Heap→Prop}{t:Ord}{Post:Env→Heap→Prop}(hdst:∀o∈ops.toList,dU n o.dst=true)(hsub:Sub hl h)
  (hB:qT .any ops t (Array.replicate ops.size false)=true) (hlen:t.len=ops.size)
  (hk:ko P U n ops.toList hl t ρ h Post) (hp:∀ρ h,Post ρ h→K .normal ρ h):WP P n (.region id ops true) ρ h K:=by
 intro cx a h1 h2 h3;have hd2:=oN (md:=.any) (all:=ops.toList) hU t (Array.replicate ops.size false) ρ h ac0 hk;refine wp_region_any hm ?_;have hE:Ext cx {cx with w:={cx.w with drawn:=cx.w.drawn+1}}:=Ext.draw rfl rfl rfl rfl
 have:=sC (n:=n) (Q' :=WPK n K cx) (c0:=cx) hdst (fun c F h a hE hs g he hQ=>by
  obtain⟨ρ',rfl,hK⟩:=hQ;exact⟨c,ρ',h,rfl,g,hE,⟨he.1,he.2.1,he.2.2⟩,hs,hp _ _ hK⟩) _ _ {cx with w:={cx.w with drawn:=cx.w.drawn+1}} (lk ρ) h a hE h1 (fun i k hi=>h1 _ _ (hsub _ _ hi)) (h2.draw rfl rfl rfl rfl)
  ⟨h3.size,h3.defers,fun t x hx=>(h3.rep t x hx).mono hE⟩ hd2
 rw[hlen]at this;simpa using this
theorem WP.Us(hU:∀t,aO P U t)(hm:P.follows .mixedOrders=true){id:Nat}{ops:Array Oper}{ρ:Env}{h hl:Heap}{K:Exit→Env→Heap→Prop}{l1 l2:List Nat}(hdst:∀o∈ops.toList,dU n o.dst=true)(hsub:Sub hl h)
  (hB:xJ .any ops l1 l2=true) (hk:dP P U n ops.toList hl l1 ρ h (fun ρ h=>∃hm2,Sub hm2 h∧dP P U n ops.toList hm2 l2 ρ h (K .normal))):WP P n (.region id ops true) ρ h K:=by
 intro cx a h1 h2 h3;simp only[xJ,Bool.and_eq_true,List.all_eq_true,beq_iff_eq]at hB;obtain⟨⟨⟨⟨b1,b2⟩,b3⟩,b4⟩,b5⟩:=hB;have hd:=cF hU l1 ρ h hk;have hd2:=qJ (md:=.any) b2 b3 l1 (Array.replicate ops.size false) (lk ρ) h ac7 rfl (.none _ _ _) b1 hd;refine wp_region_any hm ?_;have hE:Ext cx {cx with w:={cx.w with drawn:=cx.w.drawn+1}}:=Ext.draw rfl rfl rfl rfl
 have:=wz (n:=n) (m:=l2.length) (Q' :=WPK n K cx) (c0:=cx) hdst (fun c F h a hE hs g he hR=>by
  obtain⟨ρ',rfl,hm2,hs2,hk2⟩:=hR;have he2:=cF hU l2 ρ' h hk2;have ha:=oZ (md:=.any) l2 (dR l1 (Array.replicate ops.size false)) (lk ρ') h b4 he2;exact sC (n:=n) (Q' :=WPK n K cx) (c0:=cx) hdst (fun c F h a hE hs g he hQ=>by
   obtain⟨ρ',rfl,hK⟩:=hQ;exact⟨c,ρ',h,rfl,g,hE,⟨he.1,he.2.1,he.2.2⟩,hs,hK⟩) _ _ c _ h a hE hs (fun i k hi=>hs _ _ (hs2 _ _ hi)) g he ha) _ _ {cx with w:={cx.w with drawn:=cx.w.drawn+1}} (lk ρ) h a hE h1 (fun i k hi=>h1 _ _ (hsub _ _ hi)) (h2.draw rfl rfl rfl rfl)
  ⟨h3.size,h3.defers,fun t x hx=>(h3.rep t x hx).mono hE⟩ hd2
 rw[b5]at this;simpa using this
theorem WP.Ur(hU:∀t,aO P U t)(hm:P.follows .mixedOrders=true){id:Nat}{ops:Array Oper}{ρ:Env}{h hl:Heap}{K:Exit→Env→Heap→Prop}{l1 l2:List Nat}(hdst:∀o∈ops.toList,dU n o.dst=true)(hsub:Sub hl h)
  (hB:L3 .any ops l1 l2=true) (hk:dP P U n ops.toList hl l1 ρ h (fun ρ h=>dP P U n ops.toList (fun _=>none) l2 ρ h (K .normal))):WP P n (.region id ops true) ρ h K:=by
 intro cx a h1 h2 h3;simp only[L3,Bool.and_eq_true,beq_iff_eq,List.all_eq_true]at hB;obtain⟨⟨⟨b1,b2⟩,b3⟩,b4⟩:=hB;have hd:=cF hU l1 ρ h hk;have hd2:o6 P ops (rZ hl l1) (fun F h=>∃ρ,lk ρ=F∧K .normal ρ h) (l1++l2) (lk ρ) h:=
  yB _ _ _ _ (u0 (fun F h ⟨ρ',e,hk2⟩=>by
   subst e;exact u0 (fun _ _ hh=>hh) l2 _ h (fun i hi=>by
    have:=b4 i hi;unfold rZ;rw[if_neg (by simpa using this)]) (cF hU l2 ρ' h hk2)) l1 _ h (fun i hi=>by unfold rZ;rw[if_pos (List.contains_iff_mem.2 hi)]) hd)
 have ha:=qI (md:=.any) _ _ _ _ b2 hd2;refine wp_region_any hm ?_;have hE:Ext cx {cx with w:={cx.w with drawn:=cx.w.drawn+1}}:=Ext.draw rfl rfl rfl rfl
 have:=nD (n:=n) (Q' :=WPK n K cx) (c0:=cx) b1 hdst (fun c F h a hE hs g he hQ=>by
  obtain⟨ρ',rfl,hK⟩:=hQ;exact⟨c,ρ',h,rfl,g,hE,⟨he.1,he.2.1,he.2.2⟩,hs,hK⟩) _ _ {cx with w:={cx.w with drawn:=cx.w.drawn+1}} (lk ρ) h a (.none _ _ _) hE h1 (.inl fun i k hi=>h1 _ _ (hsub _ _ hi)) (h2.draw rfl rfl rfl rfl)
  ⟨h3.size,h3.defers,fun t x hx=>(h3.rep t x hx).mono hE⟩ ha
 rw[b3]at this;simpa using this
theorem yL:∀ {l:List Oper},rY l=true→∃o,l.getLast? =some o∧o.guard=none
 | [o],h=>⟨o,rfl,by simp_all [rY,Bool.and_eq_true]⟩
 |_::b::r,h=>by
  obtain⟨o,h1,h2⟩:=yL (l:=b::r) h
  grind
theorem WP.Uu(hU:∀t,aO P U t)(hm:P.follows .mixedOrders=true){id:Nat}{ops:Array Oper}{ρ:Env}{h hl:Heap}{K:Exit→Env→Heap→Prop}{l:Ord}(hdst:∀o∈ops.toList,dU n o.dst=true)(hsub:Sub hl h)
  (hz:xw .any ops l.len=true) (hg:(ops.toList.getLast?.map fun o=>o.guard.isNone)=some true) (hB:Mr .any ops l.len l (Array.replicate ops.size false)=true) (hlen:l.len+1=ops.size)
  (hk:ko P U n ops.toList hl l ρ h (fun ρ h=>pV P U ops.toList h (K .normal) ρ)):WP P n (.region id ops true) ρ h K:=by
 intro cx a h1 h2 h3;obtain⟨oz,hoz,hgz⟩:=Option.map_eq_some_iff.1 hg;have hzz:ops[l.len]? =some oz:=by
  grind
 have hd2:=zO (md:=.any) (all:=ops.toList) (z:=l.len) hU ac0 l (Array.replicate ops.size false) ρ h (.none _ _ _) ac0 hk;refine wp_region_any hm ?_;have hE:Ext cx {cx with w:={cx.w with drawn:=cx.w.drawn+1}}:=Ext.draw rfl rfl rfl rfl
 have:=wu (n:=n) (Q' :=WPK n K cx) (c0:=cx) hdst (fun c F h a hE hs g he hQ=>by
  obtain⟨ρ',rfl,hK⟩:=hQ;unfold pV at hK;rw[hoz]at hK;have he' :cj c n ρ' a:=⟨he.1,he.2.1,he.2.2⟩;have hdz:dU n oz.dst=true:=ac1;have hu:=kL hU hK hs g he';unfold wpOp;rw[hzz];simp only;rw[if_pos agv]
  left
  have next:∀u w',eN c (fun X h' =>K .normal (put ρ' oz.dst X) h') u w'→WPK n K cx .normal (a.put oz.dst u) w' :=by
   rintro u w' ⟨c',x,h',rfl,g',hE',hr,hs',hK⟩
   exact ae0
  unfold Oper.wp;generalize (execOp a.eval oz).run P c.w=r at hu;cases r with
  |ok nx w' =>
   exact ahm
  |halt x w' =>exact hu.elim) _ _ {cx with w:={cx.w with drawn:=cx.w.drawn+1}} (lk ρ) h a hE h1 (fun i k hi=>h1 _ _ (hsub _ _ hi)) (h2.draw rfl rfl rfl rfl)
  ⟨h3.size,h3.defers,fun t x hx=>(h3.rep t x hx).mono hE⟩ hd2
 rw[hlen]at this;exact adN
theorem WP.Ut(hU:∀t,aO P U t)(hm:P.follows .mixedOrders=true){id:Nat}{ops:Array Oper}{ρ:Env}{h:Heap}{K:Exit→Env→Heap→Prop}(hdst:∀o∈ops.toList,dU n o.dst=true)(hl:rY ops.toList=true)(hB:L8 ops=true)
  (hk:lS P U n ops.toList ops.toList.dropLast ρ h (pV P U ops.toList h (K .normal))):WP P n (.region id ops true) ρ h K:=by
 obtain⟨oz,hoz,hgz⟩:=yL hl;intro cx a h1 h2 h3;unfold L8 at hB;rw[Bool.and_eq_true]at hB;have hd:=pR hU ops.toList.dropLast ρ hk;have hpos:0<ops.size:=by
  grind
 have hz:ops[ops.size - 1]? =some oz:=by
  grind
 have hlen:ops.toList.dropLast.length=ops.size - 1:=ac7;have hd2:=yb (md:=.any) (ops:=ops) hB.1 ops.toList.dropLast 0 (Array.replicate ops.size false) (lk ρ) (Closed.none _ _ _) ac1 ac1 (by simpa using hd)
 refine wp_region_any hm ?_;have hE:Ext cx {cx with w:={cx.w with drawn:=cx.w.drawn+1}}:=Ext.draw rfl rfl rfl rfl
 have:=vU (n:=n) (Q' :=WPK n K cx) (c0:=cx) hdst (fun c F a hE hs g he hQ=>by
  obtain⟨ρ',rfl,hK⟩:=hQ;unfold pV at hK;rw[hoz]at hK;have he' :cj c n ρ' a:=⟨he.1,he.2.1,he.2.2⟩;have hdz:dU n oz.dst=true:=ac1;have hu:=kL hU hK hs g he';unfold wpOp;rw[hz];simp only;rw[if_pos agv]
  left
  have next:∀u w',eN c (fun X h' =>K .normal (put ρ' oz.dst X) h') u w'→WPK n K cx .normal (a.put oz.dst u) w' :=by
   rintro u w' ⟨c',x,h',rfl,g',hE',hr,hs',hK⟩
   exact ae0
  unfold Oper.wp;generalize (execOp a.eval oz).run P c.w=r at hu;cases r with
  |ok nx w' =>
   exact ahm
  |halt x w' =>exact hu.elim) _ _ {cx with w:={cx.w with drawn:=cx.w.drawn+1}} (lk ρ) a hE h1 (h2.draw rfl rfl rfl rfl)
  ⟨h3.size,h3.defers,fun t x hx=>(h3.rep t x hx).mono hE⟩ hd2
 rw[hlen,Nat.sub_add_cancel hpos]at this;exact adN
theorem dL(hU:∀t,aO P U t)(hm:P.follows .mixedOrders=true):∀(c:Code) (ρ:Env) (h:Heap) (K:Exit→Env→Heap→Prop),bF P U n c ρ h K→WP P n c ρ h K
 |.skip,ρ,h,K,hk=>fun cx a h1 h2 h3=>wp_skip ⟨cx,ρ,h,rfl,h2,.refl _,h3,h1,hk⟩
 |.region id ops draw,ρ,h,K,hk=>by
  simp only[bF]at hk;cases draw with
  |true=>
   simp only[if_true]at hk;split at hk
   ·rename_i hl
    obtain⟨hb,hk⟩:=hk;rw[Bool.and_eq_true,List.all_eq_true]at hb;rw[Bool.and_eq_true]at hl;exact WP.Ut hU hm hb.2 hl.1 hb.1 hk
   ·split at hk
    ·obtain⟨hb,hk⟩:=hk
     rw[List.all_eq_true]at hb;rcases hk with⟨h1,hk⟩|⟨hm',t,Post,h1,h2,h3,hk,hp⟩|⟨hm',l1,l2,h1,h2,hk⟩|⟨hm',l,h1,h2,h4,h5,h6,hk⟩|⟨hm',l1,l2,h1,h2,hk⟩
     ·exact WP.draw hU hm hb h1 hk
     ·exact WP.Hr hU hm hb h1 h2 h3 hk hp
     ·exact WP.Us hU hm hb h1 h2 hk
     ·exact WP.Uu hU hm hb h1 h2 h4 h5 h6 hk
     ·exact WP.Ur hU hm hb h1 h2 hk
    ·obtain⟨hb,hk⟩:=hk
     rw[Bool.and_eq_true,List.all_eq_true]at hb;exact WP.draw hU hm hb.2 hb.1 hk
  |false=>exact WP.ops hU ac1
 |.seq a b,ρ,h,K,hk=>by
  simp only[bF]at hk;refine WP.seq ((dL hU hm a ρ h _ hk).weaken fun e ρ' h' hh=>?_)
  cases e with
  |normal=>exact dL hU hm b ρ' h' K hh
  |_=>exact hh
 |.cond c a b,ρ,h,K,hk=>by
  simp only[bF]at hk;obtain⟨y,hy,hk⟩:=aI hk;split at hk
  ·rename_i t
   intro cx ac h1 h2 h3;have hv:=(aF h3 hy).bP;exact wp_cond_split hv (fun e=>dL hU hm a ρ h K (hk.1 e) cx ac h1 h2 h3) (fun e=>dL hU hm b ρ h K (hk.2 e) cx ac h1 h2 h3)
  ·exact ado
 |.block id c,ρ,h,K,hk=>WP.block (dL hU hm c ρ h _ (by grind [bF]))
 |.loop c,ρ,h,K,hk=>by
  simp only[bF]at hk;intro cx a h1 h2 h3;obtain⟨I,m,h0,hr⟩:=hk h3.wf;exact WP.loop I m h0 (fun m ρ h hI=>dL hU hm c ρ h _ (hr m ρ h hI)) cx a h1 h2 h3
 |.exit id,ρ,h,K,hk=>fun cx a h1 h2 h3=>wp_exit ⟨cx,ρ,h,rfl,h2,.refl _,h3,h1,af8⟩
 |.ret,ρ,h,K,hk=>fun cx a h1 h2 h3=>wp_ret ⟨cx,ρ,h,rfl,h2,.refl _,h3,h1,af8⟩
 |.label l,ρ,h,K,hk=>fun cx a h1 h2 h3=>wp_label ⟨cx,ρ,h,rfl,h2,.refl _,h3,h1,af8⟩
 |.goto l,ρ,h,K,hk=>fun cx a h1 h2 h3=>wp_goto ⟨cx,ρ,h,rfl,h2,.refl _,h3,h1,af8⟩
 |.rangeFunc ..,_,_,_,hk=>by simp[bF]at hk
 |.scope c,ρ,h,K,hk=>by
  simp only[bF]at hk;obtain⟨l,rest,J,hf,h1,h2⟩:=hk;exact WP.scope l J hf (dL hU hm c ρ h _ h1) h2
 |.refuse _,_,_,_,hk=>by simp[bF]at hk
def sQ(ρ:Env)(h:Heap)(U:TypeId→TI):List ResultVar→(List AV→Prop)→Prop
 | [],k=>k []
 |.tmp t::r,k=>match lk ρ t with
  |some x=>sQ ρ h U r fun xs=>k (x::xs)
  |none=>False
 |.cell t ty::r,k=>match lk ρ t with
  |some (.ptr id off)=>match h id with
   |some (.obj cs _)=>(U ty).sz≠0∧(U ty).k≠ .other∧iA cs off (U ty) fun x=>sQ ρ h U r fun xs=>k (x::xs)
   |_=>False
  |_=>False
def ax(xs:List AV):AV:=match xs with
 | [x]=>x
 |xs=> .tup xs
inductive Weak:AV→AV→Prop where
 |refl (x:AV):Weak x x
 |sl (xs:List AV) (p:Perm):Weak (.sl xs p) (.sl xs .no)
 |agg (xs ys:List AV) (hl:xs.length=ys.length) (h:∀i (h1:i<xs.length) (h2:i<ys.length),Weak xs[i] ys[i]):Weak (.agg xs) (.agg ys)
 |tup (xs ys:List AV) (hl:xs.length=ys.length) (h:∀i (h1:i<xs.length) (h2:i<ys.length),Weak xs[i] ys[i]):Weak (.tup xs) (.tup ys)
 |deep (xs ys:List AV) (p:Perm) (hl:xs.length=ys.length) (hc:∀i (h1:i<xs.length) (h2:i<ys.length),xs[i].cells.length=ys[i].cells.length)
   (h:∀i (h1:i<xs.length) (h2:i<ys.length) j (h3:j<xs[i].cells.length) (h4:j<ys[i].cells.length),Weak xs[i].cells[j] ys[i].cells[j]):Weak (.sl xs p) (.sl ys .no)
theorem Rep.weak{c:Cx}{x y:AV}(hw:Weak x y):∀ {u:Value},Rep c x u→Rep c y u:=by
 induction hw with
 |refl x=>simp
 |sl xs p=>
  intro u h;obtain⟨a,cap,sz,val,rfl,hs⟩:=h.iB;exact .sl xs .no a cap sz val hs.hc hs.hm hs.h0 hs.hs hs.hz hs.hf hs.hr hs.ho trivial
 |agg xs ys hl h ih=>
  intro u hu;obtain⟨vs,rfl,h1,h2,h3⟩:=hu.oQ;exact .agg ys vs ac0 ac1 ac1
 |tup xs ys hl h ih=>
  intro u hu;obtain⟨vs,rfl,h1,h2⟩:=hu.CE;exact .tup ys vs ac0 ac1
 |deep xs ys p hl hc h ih=>
  intro u hu;obtain⟨a,cap,sz,val,rfl,hs⟩:=hu.iB;rw[hl];exact .sl ys .no a cap sz val (by rw[←hl];exact hs.hc) hs.hm hs.h0 hs.hs (fun i hi=>by rw[←hc i ac0 hi];exact hs.hz i ac0) (fun q hq i j hi hj=>hs.hf q hq i j ac0 hj)
   (fun i hi j hj=>ih i ac0 hi j ac1 hj (hs.hr i ac0 j ac1)) (fun i j hi hj=>hs.ho i j ac0 hj) trivial
theorem sR(hU:∀t,aO P U t){c:Cx}{ρ:Env}{h:Heap}{a:Act}(hs:Sub h c.h)(g:Good c)(he:cj c n ρ a):∀(rs:List ResultVar) (k:List AV→Prop),sQ ρ h U rs k→
  ∃(xs:List AV) (vs:List Value),k xs∧vs.length=xs.length∧(∀i (h1:i<xs.length) (h2:i<vs.length),Rep c xs[i] vs[i])∧
   (rs.mapM fun(r:ResultVar)=>match r with|.tmp t=>(pure (a.tmps.getD t undef):Sem Value)|.cell q t=>do loadVar t (←asAddr (a.tmps.getD q undef))).run P c.w= .ok vs c.w
 | [],k,hk=>⟨[],[],hk,rfl,fun i h=>adU,ac7⟩
 |.tmp t::r,k,hk=>by
  simp only[sQ]at hk;split at hk
  ·rename_i x hx
   obtain⟨xs,vs,h1,h2,h3,h4⟩:=sR hU hs g he r _ hk;refine⟨x::xs,a.tmps.getD t undef::vs,h1,ac1,fun i hi1 hi2=>?_,?_⟩
   ·cases i with
    |zero=>exact he.rep _ _ hx
    |succ i=>exact h3 i ac1 ac1
   simp_all
  grind
 |.cell t ty::r,k,hk=>by
  simp only[sQ]at hk;split at hk
  ·rename_i id off hx
   split at hk
   ·rename_i cs t' hid
    obtain⟨hz,ht,hk⟩:=hk;obtain⟨x,hk,hX⟩:=sN (P:=P) hU hz ht hk;obtain⟨xs,vs,h1,h2,h3,h4⟩:=sR hU hs g he r _ hk;obtain⟨hu,_⟩:=(he.rep _ _ hx).kS;obtain⟨us,u1,u2,u3⟩:=g.obj id cs t' (hs _ _ hid);obtain⟨v,v1,v2⟩:=hX c (c.φ id).block 0 (fun j=>us.getD j undef) (fun j hj=>by
     simp_all [World.cell?]) (fun j hj=>(u3 j hj).1) (fun j hj=>(u3 j hj).2)
    rw[Nat.zero_add]at v1;refine⟨x::xs,v::vs,h1,ac1,fun i hi1 hi2=>?_,?_⟩
    ·cases i with
     |zero=>exact v2
     |succ i=>exact h3 i ac1 ac1
    simp_all [asAddr,undef,none]
   grind
  grind
def yh(args:List AV):Env:=args.zipIdx.map fun p=>(p.2,p.1)
theorem yR:∀(args:List AV) (k t:Nat),lk ((args.zipIdx k).map fun p=>(p.2,p.1)) t=if k≤t then args[t - k]? else none
 | [],k,t=>by simp[lk]
 |x::r,k,t=>by
  have ih:=yR r (k+1) t;simp only[List.zipIdx_cons,List.map_cons,lk,ih]
  by_cases e:k=t
  ·subst e;simp
  ·rw[if_neg e]
   by_cases h:k≤t
   ·rw[if_pos ac0,if_pos h]
    rw[show t - k=(t - (k+1))+1 by omega]
    rfl
   ·rw[if_neg ac0,if_neg h]
def vP(U:TypeId→TI)(rs:List ResultVar)(Q:AV→Heap→Prop)(e:Exit)(ρ:Env)(h:Heap):Prop:=
 (match e with|.ret|.normal=>True|_=>False)∧sQ ρ h U rs fun xs=>∃y h',Weak (ax xs) y∧Sub h' h∧Q y h'
theorem ai.Mn(hU:∀t,aO P U t){f:FuncId}{fn:Func}{c:Code}{args:List AV}{h:Heap}{Q:AV→Heap→Prop}(hf:P.funcs[f]? =some fn)(hb:fn.body=some c)
  (hn : (fn.name == "runtime.NumGoroutine") = false) (hl : args.length ≤ fn.ntmps)
  (hk:(∀x∈args,wfA x)→WP P fn.ntmps c (yh args) h (vP U fn.results.toList Q)):ai P f args h Q:=by
 intro cx vs hs g hv hr;refine .inl ⟨⟨fn,hf,hn,ac1⟩,calls_of_wp hf hb ?_⟩;have hwf:∀x∈args,wfA x:=fun x hx=>by
  obtain⟨i,hi,rfl⟩:=List.mem_iff_getElem.1 hx;exact(hr i hi).wf
 have hw:=hk hwf;have he:cj cx fn.ntmps (yh args) {tmps:=vs++Array.replicate (fn.ntmps - vs.size) undef,defers:=[]}:=by
  refine⟨ac1,rfl,fun t x hx=>?_⟩
  have:=yR args 0 t;simp only[Nat.zero_le,if_true,Nat.sub_zero]at this;have e:lk (yh args) t=args[t]? :=this;rw[e]at hx;obtain⟨hi,rfl⟩:=List.getElem?_eq_some_iff.1 hx;have h1:=hr t hi;have h2:t<vs.size:=ac0;have e2:(vs++Array.replicate (fn.ntmps - vs.size) undef).getD t undef=vs.getD t undef:=by
   rw[Array.getD,dif_pos ac1,Array.getD,dif_pos h2]
   simp_all
  simp only[e2];exact h1
 refine wp_mono (hw cx _ hs g he) fun e a w hq=>?_
 obtain⟨c',ρ',h',rfl,g',hE,he',hs',hk1,hk2⟩:=hq;obtain⟨xs,us,⟨y,h'',hwk,hsub,hQ⟩,hl',hr',hrun⟩:=sR hU hs' g' he' _ _ hk2;have hres:∃u,(results fn a.tmps).run P c'.w= .ok u c'.w∧Rep c' (ax xs) u:=by
  have hrun' :(fn.results.mapM fun(r:ResultVar)=>match r with|.tmp t=>(pure (a.tmps.getD t undef):Sem Value)|.cell q t=>do loadVar t (←asAddr (a.tmps.getD q undef))).run P c'.w= .ok us.toArray c'.w:=by
   simp_all [Array.mapM_eq_mapM_toList,Sem.run_map]
  have hres0:(results fn a.tmps).run P c'.w= .ok (if h:us.toArray.size=1 then us.toArray[0]else .tuple us.toArray) c'.w:=by
   have e0:results fn a.tmps=(fn.results.mapM fun(r:ResultVar)=>match r with|.tmp t=>(pure (a.tmps.getD t undef):Sem Value)|.cell q t=>do loadVar t (←asAddr (a.tmps.getD q undef)))>>=fun vs=>pure (if h:vs.size=1 then vs[0]else .tuple vs):=rfl
   rw[e0,Sem.run_bind,hrun'];rfl
  by_cases h1:us.length=1
  ·obtain⟨u,rfl⟩:=List.length_eq_one_iff.1 h1
   obtain⟨x,rfl⟩:=List.length_eq_one_iff.1 (hl'.symm.trans h1);refine⟨u,?_,hr' 0 ac7 ac7⟩
   grind
  ·refine⟨.tuple us.toArray,?_,?_⟩
   ·grind
   ·have:ax xs= .tup xs:=by
     cases xs with
     |nil=>rfl
     |cons x r=>cases r with
      |nil=>grind
      |cons y q=>rfl
    rw[this];refine .tup xs _ ac0 fun i hi=>?_
    have:=hr' i hi ac0;simpa[show i<us.length by omega]using this
 obtain⟨u,hu1,hu2⟩:=hres;have fin:a.defers= []∧∃v,(results fn a.tmps).run P c'.w= .ok v c'.w∧∃u,Ending.returned v= .returned u∧eN cx Q u c'.w:=
  ⟨he'.defers,u,hu1,u,rfl,c',y,h'',rfl,g',hE,hu2.weak hwk,fun id k hk=>hs' _ _ (hsub _ _ hk),hQ⟩
 cases e with
 |normal=>exact fin
 |ret=>exact fin
 |_=>exact hk1.elim
theorem ai.Vb(hU:∀t,aO P U t)(hm:P.follows .mixedOrders=true){f:FuncId}{fn:Func}{c:Code}{args:List AV}{h:Heap}{Q:AV→Heap→Prop}(hf:P.funcs[f]? =some fn)(hb:fn.body=some c)
  (hn : (fn.name == "runtime.NumGoroutine") = false) (hl : args.length ≤ fn.ntmps)
  (hk:(∀x∈args,wfA x)→bF P U fn.ntmps c (yh args) h (vP U fn.results.toList Q)):ai P f args h Q:=
 ai.Mn hU hf hb hn hl fun hw=>dL hU hm c _ h _ (hk hw)
end
def zU:AV→Value→Bool
 |.v (.int k n),.int k' m=>decide (k=k') && decide (n=m)
 |.v (.bool a),.bool b=>a==b
 |.s [],.string b=>b.data.toList.isEmpty
 |.sl [] .full,.slice none 0 0=>true
 |.v (.pointer none),.pointer none=>true
 |.v .nilIface,.nilIface=>true
 |.v .nilFunc,.nilFunc=>true
 |.v (.map none),.map none=>true
 |.v (.complex k a b),.complex k' a' b' =>decide (k=k') && a==a' && b==b'
 |_,_=>false
theorem sV{x:AV}{v:Value}(h:zU x v=true)(c:Cx):Rep c x v∧v.oneCell' =true:=by
 unfold zU at h;split at h
 ·simp at h;obtain⟨rfl,rfl⟩:=h;exact⟨.v _,rfl⟩
 ·simp at h;subst h;exact⟨.v _,rfl⟩
 ·rename_i b
  have e:b=⟨([]:List UInt8).toArray⟩:=by
   apply ByteArray.ext
   grind
  subst e;exact⟨.s [] ac4,rfl⟩
 ·exact⟨zv c (.slice none 0 0),rfl⟩
 ·exact ag4
 ·exact ag4
 ·exact ag4
 ·exact ag4
 ·simp at h;obtain⟨⟨rfl,rfl⟩,rfl⟩:=h;exact⟨.v _,rfl⟩
 grind
def vJ:List AV→List Value→Bool
 | [],[]=>true
 |x::xs,v::vs=>zU x v && vJ xs vs
 |_,_=>false
theorem xe:∀ {xs:List AV} {vs:List Value},vJ xs vs=true→xs.length=vs.length∧∀i (h1:i<xs.length) (h2:i<vs.length),zU xs[i] vs[i]=true
 | [],[],_=>ac7
 |x::xs,v::vs,h=>by
  simp only[vJ,Bool.and_eq_true]at h;obtain⟨h1,h2⟩:=xe h.2
  grind
 | [],_::_,h=>by grind [vJ]
 |_::_,[],h=>by grind [vJ]
def NA:AV→Value→Bool
 |.agg xs,.agg vs=>vJ xs vs.toList
 |x,v=>zU x v
theorem KA{x:AV}{v:Value}(h:NA x v=true)(c:Cx):Rep c x v:=by
 unfold NA at h;split at h
 ·rename_i xs vs
  obtain⟨h1,h2⟩:=xe h;have hl:vs.size=xs.length:=ac1;refine .agg xs vs hl (fun i hi=>?_) (fun i hi=>?_)
  ·have:=(sV (h2 i hi ac0) c).1
   simpa[show i<vs.size by omega]using this
  ·have:=(sV (h2 i hi ac0) c).2
   simpa[show i<vs.size by omega]using this
 ·exact(sV h c).1
def Ll(P:Program)(U:TypeId→TI)(t:TypeId):Bool:=
 match (U t).k,P.underlying t with
 |.int k,some (.int k')=>decide (k' =k)
 |.bool,some .bool=>true
 |.str,some .string=>true
 |.slice e,some (.slice e')=>decide (e' =e)
 |.strct fs,some (.struct fields)=>decide (fields.toList.map (fun f=>(f.offset,f.type))=fs) && fs.all fun p=>(U p.2).sz !=0
 |.ptr e,some (.pointer e')=>decide (e' =e)
 |.arr n e,some (.array n' e')=>decide (n' =n) && decide (e' =e)
 |.iface,some (.interface _)=>true
 |.cplx k,some (.complex k')=>decide (k' =k)
 |.map k e,some (.map k' e')=>decide (k' =k) && decide (e' =e)
 |.other,_=>true
 |_,_=>false
def LN(P:Program)(U:TypeId→TI)(t:TypeId):Bool:=
 (U t).sz==0||match P.info? t with
  |some i=>i.size==(U t).sz && i.bytes==(U t).bytes && match i.zero with
   |some z=>z.cells.size==(U t).sz && NA (U t).zero z
   |none=>false
  |none=>false
def Nn(P:Program)(U:TypeId→TI)(t:TypeId):Bool:=match (U t).k with
 |.strct []=>match P.info? t with
  |some i=>match i.zero with
   |some (.agg vs)=>vs.isEmpty && i.size==0
   |_=>false
  |none=>false
 |_=>true
def Sv:TK→TK→Bool
 |.int a,.int b=>decide (a=b)
 |.bool,.bool=>true
 |.str,.str=>true
 |.cplx a,.cplx b=>decide (a=b)
 |_,_=>false
theorem Pq{a b:TK}(h:Sv a b=true):a=b:=by
 unfold Sv at h
 grind
def uu:List TK→List TK→Bool
 | [],[]=>true
 |x::xs,y::ys=>Sv x y && uu xs ys
 |_,_=>false
theorem uv:∀ {a b:List TK},uu a b=true→a=b
 | [],[],_=>rfl
 | [],_::_,h=>adU
 |_::_,[],h=>adU
 |x::xs,y::ys,h=>by
  simp only[uu,Bool.and_eq_true]at h;rw[Pq h.1,uv h.2]
def zK(U:TypeId→TI)(r:Nat):List (Nat×TypeId)→Nat→List TK→Bool
 | [],_,l=>l.isEmpty
 |f::fs,o,l=>match (U f.2).eq with
  |some (r',l')=>f.1==o && decide (r' <r) && uu (l.take l'.length) l' && zK U r fs (o+l'.length) (l.drop l'.length)
  |none=>false
theorem wY{U:TypeId→TI}{r:Nat}:∀ {fs:List (Nat×TypeId)} {o:Nat} {l:List TK},zK U r fs o l=true→ET U r fs o l
 | [],o,l,h=>by grind [zK,ET]
 |f::fs,o,l,h=>by
  unfold zK at h;split at h
  ·rename_i r' l' he
   simp only[Bool.and_eq_true,beq_iff_eq,decide_eq_true_eq]at h;obtain⟨⟨⟨h1,h2⟩,h3⟩,h4⟩:=h;exact⟨h1,r',l',he,h2,uv h3,wY h4⟩
  grind
def eqB(P:Program)(U:TypeId→TI)(t:TypeId):Bool:=match (U t).eq with
 |none=>true
 |some (r,l)=>l.length==(U t).sz && !l.isEmpty && decide (r<100) && match (U t).k with
  |.int k=>uu l [.int k]
  |.bool=>uu l [.bool]
  |.str=>uu l [.str]
  |.cplx k=>uu l [.cplx k]
  | .strct fs => !P.stoodInHeld t && !P.eqGuardType P.depth t && (P.fieldsOf t).toList.all (fun f => f.name != "_") && zK U r fs 0 l
  |.arr n e=> !P.eqGuardType P.depth t && match (U e).eq with
   |some (r',l')=>decide (r' <r) && uu l (List.replicate n l').flatten
   |none=>false
  |_=>false
theorem Lt{P:Program}{U:TypeId→TI}{t:TypeId}(h:eqB P U t=true):∀r l,(U t).eq=some (r,l)→NK P U t r l:=by
 intro r l he;unfold eqB at h;rw[he]at h;simp only[Bool.and_eq_true,beq_iff_eq,decide_eq_true_eq,Bool.not_eq_true']at h;obtain⟨⟨⟨h1,h2⟩,h3⟩,h4⟩:=h;refine⟨h1,(by intro e;rw[e]at h2;cases h2),h3,?_⟩
 cases hk:(U t).k<;>rw[hk]at h4<;>simp only at h4⊢<;>first|exact uv h4|(cases h4)|skip
 ·simp only[Bool.and_eq_true,Bool.not_eq_true',List.all_eq_true]at h4
  obtain⟨⟨⟨g1,g2⟩,g3⟩,g4⟩:=h4;exact⟨g1,g2,fun f hf=>by simpa using g3 f (by simpa using hf),wY g4⟩
 ·simp only[Bool.and_eq_true,Bool.not_eq_true']at h4
  obtain⟨g1,g2⟩:=h4;split at g2
  ·rename_i r' l' he'
   simp only[Bool.and_eq_true,decide_eq_true_eq]at g2;exact⟨g1,r',l',he',g2.1,uv g2.2⟩
  ·cases g2
theorem KP{P:Program}{U:TypeId→TI}{t:TypeId}(h1:Ll P U t=true)(h2:LN P U t=true)(h3:Nn P U t=true)(h4:eqB P U t=true):aO P U t:=by
 refine⟨?_,fun hz=>?_,fun hz=>?_,Lt h4⟩
 ·unfold Ll at h1
  grind
 ·unfold LN at h2
  simp only[Bool.or_eq_true,beq_iff_eq,hz,false_or]at h2;split at h2
  ·rename_i i hi
   simp only[Bool.and_eq_true,beq_iff_eq]at h2;obtain⟨⟨h3,h4⟩,h5⟩:=h2;split at h5
   ·simp_all [Bool.and_eq_true,beq_iff_eq,KA]
   grind
  grind
 ·unfold Nn at h3
  grind
theorem IE{P:Program}{U:TypeId→TI}(N:Nat)(h:(List.range N).all (fun t=>Ll P U t && LN P U t && Nn P U t && eqB P U t)=true)(h' :∀t,N≤t→U t=⟨.other,0,0,default,none⟩):∀t,aO P U t:=by
 intro t
 by_cases ht:t<N
 ·simp_all [List.all_eq_true,Bool.and_eq_true,KP]
 ·have:=h' t ac1
  exact⟨ac1,fun hz=>ac1,fun hz=>ac1,fun r l he=>ac1⟩
section
variable {P : Program} {U : TypeId → TI} {n : Nat} {ρ : Env} {h : Heap}
def aE{α:Type}(o:Option α)(k:α→Prop):Prop:=match o with
 |some y=>k y
 |none=>False
@[congr] theorem P0{α:Type}{o o' :Option α}{k:α→Prop}(e:o=o'):aE o k=aE o' k:=by rw[e]
@[go_sem] theorem dF{α:Type}(y:α)(k:α→Prop):aE (some y) k=k y:=rfl
def Br(t:Bool)(A B:Prop):Prop:=(t=true→A)∧(t=false→B)
@[congr] theorem TT{t t' :Bool}{A B:Prop}(e:t=t'):Br t A B=Br t' A B:=by rw[e]
@[go_sem] theorem VJ(A B:Prop):Br true A B=A:=by simp[Br]
@[go_sem] theorem TU(A B:Prop):Br false A B=B:=by simp[Br]
def atH(Q:AV→Heap→Prop)(h:Heap)(r:AV):Prop:=Q r h
@[go_sem↓] theorem W5(Q:AV→Heap→Prop)(h:Heap)(r:AV):atH Q h r=Q r h:=rfl
def atK(t:TK)(k:TK→Prop):Prop:=k t
@[congr] theorem S6{t t' :TK}{k:TK→Prop}(e:t=t'):atK t k=atK t' k:=by rw[e]
@[go_sem] theorem VV(x:IntKind)(k:TK→Prop):atK (.int x) k=k (.int x):=rfl
@[go_sem] theorem VX(k:TK→Prop):atK .str k=k .str:=rfl
@[go_sem] theorem S7(x:TypeId)(k:TK→Prop):atK (.slice x) k=k (.slice x):=rfl
@[go_sem] theorem S8(x:List (Nat×TypeId))(k:TK→Prop):atK (.strct x) k=k (.strct x):=rfl
def fD(xs:List AV)(m:Int)(sz:Nat)(k:AV→Prop):Prop:=Idx xs m fun b=>b.cells.length=sz∧k (.pe b 0)
theorem fD.at{xs:List AV}{sz:Nat}{k:AV→Prop}(j:Nat)(hj:j<xs.length)(hz:xs[j].cells.length=sz)(hk:k (.pe xs[j] 0)):fD xs (j:Int) sz k:=⟨ac0,xs[j],ac7,hz,hk⟩
def E9(l:List UInt8)(m:Int)(k:AV→Prop):Prop:=Idx l m fun b=>k (aK b)
theorem E9.at{l:List UInt8}{k:AV→Prop}(j:Nat)(hj:j<l.length)(hk:k (aK l[j])):E9 l (j:Int) k:=⟨ac0,l[j],ac7,hk⟩
theorem E9.of{l:List UInt8}{m:Int}{k:AV→Prop}(j:Nat)(hm:m=j)(hj:j<l.length)(hk:k (aK l[j])):E9 l m k:=by grind [E9.at]
@[congr] theorem QI{f f' :FuncId}{a a' :List AV}{h h' :Heap}{Q:AV→Heap→Prop}(h0:f=f')(h1:a=a')(h2:h=h'):ai P f a h Q=ai P f' a' h' Q:=by grind
@[go_sem↓] theorem WA(k:Nat)(x:AV)(r:Env)(t:Nat):lk ((k,x)::r) t=if k=t then some x else lk r t:=rfl
@[go_sem↓] theorem Qh(d:Nat)(x:AV)(r:Env)(t:Nat):lk (put r (some d) x) t=if d=t then some x else lk r t:=rfl
@[go_sem↓] theorem Qg(x:AV)(r:Env)(t:Nat):lk (put r none x) t=lk r t:=rfl
@[go_sem↓] theorem Xy(args:List AV)(t:Nat):lk (yh args) t=args[t]? :=by
 have:=yR args 0 t;exact adN
@[go_sem] theorem UL{α:Type}(x:α)(r:List α):(x::r)[0]? =some x:=rfl
@[go_sem] theorem UK{α:Type}(x:α)(r:List α)(i:Nat):(x::r)[i+1]? =r[i]? :=by simp
@[go_sem↓] theorem Xq(t:Nat):ev ρ (.tmp t)=lk ρ t:=rfl
@[go_sem↓] theorem Xo(k:IntKind)(m:Int):ev ρ (.const (.int k m))=some (.v (.int k m)):=rfl
@[go_sem↓] theorem Wc(b:Bool):ev ρ (.const (.bool b))=some (.b b):=rfl
@[go_sem↓] theorem Xp(a:Option Addr):ev ρ (.const (.pointer a))=some (.v (.pointer a)):=rfl
@[go_sem↓] theorem Wd(k:FloatKind)(a b:Nat):ev ρ (.const (.complex k a b))=some (.v (.complex k a b)):=rfl
@[go_sem↓] theorem Uy(k:FloatKind)(a:Nat):ev ρ (.const (.float k a))=some (.v (.float k a)):=rfl
@[go_sem↓] theorem Qd:ev ρ (.const (.slice none 0 0))=some (.sl [] .full):=rfl
theorem I4{l:List UInt8}(hl:l.length<4096):ev ρ (.const (.string ⟨l.toArray⟩))=some (.s l):=by
 grind [lim,ev,ofV,Gl]
@[go_sem↓] theorem Wg:ev ρ (.const (.string ⟨#[]⟩))=some (.s []):=by rfl
@[go_sem↓] theorem Wh(a0:UInt8):ev ρ (.const (.string ⟨#[a0]⟩))=some (.s [a0]):=by rfl
@[go_sem↓] theorem Wi(a0 a1:UInt8):ev ρ (.const (.string ⟨#[a0,a1]⟩))=some (.s [a0,a1]):=by rfl
@[go_sem↓] theorem Wj(a0 a1 a2:UInt8):ev ρ (.const (.string ⟨#[a0,a1,a2]⟩))=some (.s [a0,a1,a2]):=by rfl
@[go_sem↓] theorem Wk(a0 a1 a2 a3:UInt8):ev ρ (.const (.string ⟨#[a0,a1,a2,a3]⟩))=some (.s [a0,a1,a2,a3]):=by rfl
@[go_sem↓] theorem Wl(a0 a1 a2 a3 a4:UInt8):ev ρ (.const (.string ⟨#[a0,a1,a2,a3,a4]⟩))=some (.s [a0,a1,a2,a3,a4]):=by rfl
@[go_sem↓] theorem Wm(a0 a1 a2 a3 a4 a5:UInt8):ev ρ (.const (.string ⟨#[a0,a1,a2,a3,a4,a5]⟩))=some (.s [a0,a1,a2,a3,a4,a5]):=by rfl
@[go_sem↓] theorem Wn(a0 a1 a2 a3 a4 a5 a6:UInt8):ev ρ (.const (.string ⟨#[a0,a1,a2,a3,a4,a5,a6]⟩))=some (.s [a0,a1,a2,a3,a4,a5,a6]):=by rfl
@[go_sem↓] theorem Wo(a0 a1 a2 a3 a4 a5 a6 a7:UInt8):ev ρ (.const (.string ⟨#[a0,a1,a2,a3,a4,a5,a6,a7]⟩))=some (.s [a0,a1,a2,a3,a4,a5,a6,a7]):=by rfl
@[go_sem↓] theorem Wp(a0 a1 a2 a3 a4 a5 a6 a7 a8:UInt8):ev ρ (.const (.string ⟨#[a0,a1,a2,a3,a4,a5,a6,a7,a8]⟩))=some (.s [a0,a1,a2,a3,a4,a5,a6,a7,a8]):=by rfl
@[go_sem↓] theorem Uz(a0 a1 a2 a3 a4 a5 a6 a7 a8 a9:UInt8):ev ρ (.const (.string ⟨#[a0,a1,a2,a3,a4,a5,a6,a7,a8,a9]⟩))=some (.s [a0,a1,a2,a3,a4,a5,a6,a7,a8,a9]):=by rfl
@[go_sem↓] theorem UA(a0 a1 a2 a3 a4 a5 a6 a7 a8 a9 a10:UInt8):ev ρ (.const (.string ⟨#[a0,a1,a2,a3,a4,a5,a6,a7,a8,a9,a10]⟩))=some (.s [a0,a1,a2,a3,a4,a5,a6,a7,a8,a9,a10]):=by rfl
@[go_sem↓] theorem UB(a0 a1 a2 a3 a4 a5 a6 a7 a8 a9 a10 a11:UInt8):ev ρ (.const (.string ⟨#[a0,a1,a2,a3,a4,a5,a6,a7,a8,a9,a10,a11]⟩))=some (.s [a0,a1,a2,a3,a4,a5,a6,a7,a8,a9,a10,a11]):=by rfl
@[go_sem↓] theorem UC(a0 a1 a2 a3 a4 a5 a6 a7 a8 a9 a10 a11 a12:UInt8):ev ρ (.const (.string ⟨#[a0,a1,a2,a3,a4,a5,a6,a7,a8,a9,a10,a11,a12]⟩))=some (.s [a0,a1,a2,a3,a4,a5,a6,a7,a8,a9,a10,a11,a12]):=by rfl
@[go_sem↓] theorem UD(a0 a1 a2 a3 a4 a5 a6 a7 a8 a9 a10 a11 a12 a13 a14:UInt8):ev ρ (.const (.string ⟨#[a0,a1,a2,a3,a4,a5,a6,a7,a8,a9,a10,a11,a12,a13,a14]⟩))=some (.s [a0,a1,a2,a3,a4,a5,a6,a7,a8,a9,a10,a11,a12,a13,a14]):=by rfl
@[go_sem↓] theorem UE(a0 a1 a2 a3 a4 a5 a6 a7 a8 a9 a10 a11 a12 a13 a14 a15:UInt8):ev ρ (.const (.string ⟨#[a0,a1,a2,a3,a4,a5,a6,a7,a8,a9,a10,a11,a12,a13,a14,a15]⟩))=some (.s [a0,a1,a2,a3,a4,a5,a6,a7,a8,a9,a10,a11,a12,a13,a14,a15]):=by rfl
@[go_sem↓] theorem UF(a0 a1 a2 a3 a4 a5 a6 a7 a8 a9 a10 a11 a12 a13 a14 a15 a16:UInt8):ev ρ (.const (.string ⟨#[a0,a1,a2,a3,a4,a5,a6,a7,a8,a9,a10,a11,a12,a13,a14,a15,a16]⟩))=some (.s [a0,a1,a2,a3,a4,a5,a6,a7,a8,a9,a10,a11,a12,a13,a14,a15,a16]):=by rfl
@[go_sem↓] theorem We(f:FuncId):ev ρ (.func f)=some (.fn f []):=rfl
def P5(x:Option AV)(r:Option (List AV)):Option (List AV):=match x,r with
 |some y,some ys=>some (y::ys)
 |_,_=>none
@[go_sem] theorem Re(y:AV)(ys:List AV):P5 (some y) (some ys)=some (y::ys):=rfl
@[go_sem↓] theorem Wq:evs ρ []=some []:=rfl
@[go_sem↓] theorem UG(x:Operand)(r:List Operand):evs ρ (x::r)=P5 (ev ρ x) (evs ρ r):=rfl
@[go_sem↓] theorem bV(x:Operand)(k:AV→Prop):withv ρ x k=aE (ev ρ x) k:=by grind [withv,aE,ev]
@[go_sem↓] theorem gH(xs:List Operand)(k:List AV→Prop):withvs ρ xs k=aE (evs ρ xs) k:=by grind [withvs,aE,evs]
@[go_sem↓] theorem XT(K:Exit→Env→Heap→Prop):bF P U n .skip ρ h K=K .normal ρ h:=rfl
@[go_sem↓] theorem Vd(id:Nat)(l:List Oper)(K:Exit→Env→Heap→Prop):bF P U n (.region id l.toArray false) ρ h K=kr P U n l l ρ h (K .normal):=rfl
def CK(P:Program)(U:TypeId→TI)(n:Nat)(b:Code)(K:Exit→Env→Heap→Prop):Exit→Env→Heap→Prop:=KSeq (fun ρ h=>bF P U n b ρ h K) K
@[go_sem↓] theorem aaT(a b:Code)(K:Exit→Env→Heap→Prop):bF P U n (.seq a b) ρ h K=bF P U n a ρ h (CK P U n b K):=rfl
@[go_sem↓] theorem NO(b:Code)(K:Exit→Env→Heap→Prop):CK P U n b K .normal ρ h=bF P U n b ρ h K:=rfl
@[go_sem↓] theorem SW(b:Code)(K:Exit→Env→Heap→Prop):CK P U n b K .ret ρ h=K .ret ρ h:=rfl
@[go_sem↓] theorem QT(b:Code)(K:Exit→Env→Heap→Prop)(i:Nat):CK P U n b K (.exit i) ρ h=K (.exit i) ρ h:=rfl
@[go_sem↓] theorem QU(b:Code)(K:Exit→Env→Heap→Prop)(i:Nat):CK P U n b K (.goto i) ρ h=K (.goto i) ρ h:=rfl
def jK(P:Program)(U:TypeId→TI)(n:Nat)(a b:Code)(ρ:Env)(h:Heap)(K:Exit→Env→Heap→Prop)(y:AV):Prop:=match y with
 |.v (.bool t)=>(t=true→bF P U n a ρ h K)∧(t=false→bF P U n b ρ h K)
 |_=>False
@[go_sem↓] theorem QG(a b:Code)(K:Exit→Env→Heap→Prop):jK P U n a b ρ h K (.b true)=bF P U n a ρ h K:=by simp[jK]
@[go_sem↓] theorem PK(a b:Code)(K:Exit→Env→Heap→Prop):jK P U n a b ρ h K (.b false)=bF P U n b ρ h K:=by simp[jK]
theorem jK.intro{a b:Code}{K:Exit→Env→Heap→Prop}{t:Bool}(h1:t=true→bF P U n a ρ h K)(h2:t=false→bF P U n b ρ h K):jK P U n a b ρ h K (.b t):=⟨h1,h2⟩
theorem jK.no{a b:Code}{K:Exit→Env→Heap→Prop}{t:Bool}(e:t=false)(h1:bF P U n b ρ h K):jK P U n a b ρ h K (.b t):=⟨fun h=>absurd (e.symm.trans h) ac7,fun _=>h1⟩
@[go_sem↓] theorem XN(c:Operand)(a b:Code)(K:Exit→Env→Heap→Prop):bF P U n (.cond c a b) ρ h K=aE (ev ρ c) (jK P U n a b ρ h K):=by
 simp only[bF,withv];cases ev ρ c with
 |none=>rfl
 |some y=>rfl
@[go_sem↓] theorem WN(id:Nat)(c:Code)(K:Exit→Env→Heap→Prop):bF P U n (.block id c) ρ h K=bF P U n c ρ h (KBlock id K):=rfl
def KH(P:Program)(U:TypeId→TI)(n:Nat)(c:Code)(ρ:Env)(h:Heap)(K:Exit→Env→Heap→Prop):Prop:=KI (fun ρ h K=>bF P U n c ρ h K) ρ h K
def KRound(I:Nat→Env→Heap→Prop)(m:Nat)(K:Exit→Env→Heap→Prop):Exit→Env→Heap→Prop:=KSeq (fun ρ' h' =>∃m',m' <m∧I m' ρ' h') K
@[go_sem↓] theorem QS{I:Nat→Env→Heap→Prop}{m:Nat}{K:Exit→Env→Heap→Prop}:KRound I m K .ret ρ h=K .ret ρ h:=rfl
@[go_sem↓] theorem PT{I:Nat→Env→Heap→Prop}{m:Nat}{K:Exit→Env→Heap→Prop}(i:Nat):KRound I m K (.exit i) ρ h=K (.exit i) ρ h:=rfl
theorem KH.intro{c:Code}{K:Exit→Env→Heap→Prop}(I:Nat→Env→Heap→Prop)(m:Nat)(h0:I m ρ h)(hr:∀m ρ h,I m ρ h→bF P U n c ρ h (KRound I m K)):KH P U n c ρ h K:=fun _=>⟨I,m,h0,hr⟩
@[go_sem↓] theorem XS(c:Code)(K:Exit→Env→Heap→Prop):bF P U n (.loop c) ρ h K=KH P U n c ρ h K:=rfl
@[go_sem↓] theorem SU(l:Nat)(J:Env→Heap→Prop)(K:Exit→Env→Heap→Prop):KJump l J K .ret ρ h=K .ret ρ h:=rfl
@[go_sem↓] theorem QN(l:Nat)(J:Env→Heap→Prop)(K:Exit→Env→Heap→Prop):KJump l J K (.goto l) ρ h=J ρ h:=by simp[KJump]
@[go_sem↓] theorem XQ(id:Nat)(K:Exit→Env→Heap→Prop):bF P U n (.exit id) ρ h K=K (.exit id) ρ h:=rfl
@[go_sem↓] theorem aaS(K:Exit→Env→Heap→Prop):bF P U n .ret ρ h K=K .ret ρ h:=rfl
@[go_sem↓] theorem WQ(l:Nat)(K:Exit→Env→Heap→Prop):bF P U n (.label l) ρ h K=K .normal ρ h:=rfl
@[go_sem↓] theorem XR(l:Nat)(K:Exit→Env→Heap→Prop):bF P U n (.goto l) ρ h K=K (.goto l) ρ h:=rfl
@[go_sem↓] theorem ND(id:Nat)(K:Exit→Env→Heap→Prop):KBlock id K .normal ρ h=K .normal ρ h:=rfl
@[go_sem↓] theorem QL(id:Nat)(K:Exit→Env→Heap→Prop):KBlock id K .ret ρ h=K .ret ρ h:=rfl
@[go_sem↓] theorem PR(id:Nat)(K:Exit→Env→Heap→Prop)(j:Nat):KBlock id K (.exit j) ρ h=if j=id then K .normal ρ h else K (.exit j) ρ h:=rfl
@[go_sem↓] theorem aaR(all:List Oper)(K:Env→Heap→Prop):kr P U n all [] ρ h K=K ρ h:=rfl
def KOps(P:Program)(U:TypeId→TI)(n:Nat)(all os:List Oper)(K:Env→Heap→Prop)(ρ:Env)(d:Option Tmp)(x:AV)(h:Heap):Prop:=kr P U n all os (put ρ d x) h K
@[go_sem↓] theorem VM(all os:List Oper)(K:Env→Heap→Prop)(d:Option Tmp)(x:AV):KOps P U n all os K ρ d x h=kr P U n all os (put ρ d x) h K:=rfl
@[go_sem↓] theorem XO(all:List Oper)(d:Option Tmp)(op:Op)(t:TypeId)(p:String)(a:Array Edge)(os:List Oper)(K:Env→Heap→Prop):
  kr P U n all (⟨d,op,t,p,a,none⟩::os) ρ h K=(dU n d=true∧bf P U ρ h ⟨d,op,t,p,a,none⟩ (KOps P U n all os K ρ d)):=rfl
@[go_sem] theorem Rr(d:Nat):(dU n (some d)=true)=(d<n):=by simp[dU]
@[go_sem] theorem Rq:(dU n none=true)=True:=by simp[dU]
def gB(d:Nat)(w:Bool)(ρ:Env)(yes no:Env→Prop)(x:AV):Prop:=match x with
 |.v (.bool t)=>if w then Br t (yes ((d,.b true)::ρ)) (no ((d,.b false)::ρ))else Br t (no ((d,.b true)::ρ)) (yes ((d,.b false)::ρ))
 |.v (.tuple _)=>no ρ
 |_=>False
@[go_sem↓] theorem Rp(d:Option Tmp)(op:Op)(t:TypeId)(p:String)(a:Array Edge)(g:Option (Nat×Bool))(os:List Oper):qx (⟨d,op,t,p,a,g⟩::os) 0=d:=rfl
@[go_sem↓] theorem Ro(o:Oper)(os:List Oper)(i:Nat):qx (o::os) (i+1)=qx os i:=by rfl
theorem uZ(all:List Oper)(g:Nat)(w:Bool)(yes no:Env→Prop):jP all ρ (some (g,w)) yes no=aE (qx all g) fun d=>aE (lk ρ d) fun x=>gB d w ρ yes no x:=by
 simp only[jP];cases qx all g with
 |none=>rfl
 |some d=>
  simp only[dF];cases lk ρ d with
  |none=>rfl
  |some x=>cases x with
   |v u=>cases u<;>first|rfl|(rename_i t;cases w<;>cases t<;>simp[aE,gB,Br])
   |_=>rfl
def jk(P:Program)(U:TypeId→TI)(n:Nat)(all os:List Oper)(ρ:Env)(h:Heap)(K:Env→Heap→Prop)(w:Bool)(d:Option Tmp)(op:Op)(t:TypeId)(p:String)(a:Array Edge)(s:Nat)(x:AV):Prop:=
 gB s w ρ (fun ρ=>bf P U ρ h ⟨d,op,t,p,a,none⟩ (KOps P U n all os K ρ d)) (fun ρ=>kr P U n all os (put ρ d (.v undef)) h K) x
section
variable {all os : List Oper} {K : Env → Heap → Prop} {d : Option Tmp} {op : Op} {t : TypeId} {p : String} {a : Array Edge} {s : Nat}
@[go_sem↓] theorem SO:jk P U n all os ρ h K true d op t p a s (.b true)=bf P U ((s,.b true)::ρ) h ⟨d,op,t,p,a,none⟩ (KOps P U n all os K ((s,.b true)::ρ) d):=by simp[jk,gB,Br]
@[go_sem↓] theorem SN:jk P U n all os ρ h K true d op t p a s (.b false)=kr P U n all os (put ((s,.b false)::ρ) d (.v undef)) h K:=by simp[jk,gB,Br]
@[go_sem↓] theorem SM:jk P U n all os ρ h K false d op t p a s (.b true)=kr P U n all os (put ((s,.b true)::ρ) d (.v undef)) h K:=by simp[jk,gB,Br]
@[go_sem↓] theorem SL:jk P U n all os ρ h K false d op t p a s (.b false)=bf P U ((s,.b false)::ρ) h ⟨d,op,t,p,a,none⟩ (KOps P U n all os K ((s,.b false)::ρ) d):=by simp[jk,gB,Br]
@[go_sem↓] theorem NM(w:Bool):jk P U n all os ρ h K w d op t p a s (.v undef)=kr P U n all os (put ρ d (.v undef)) h K:=rfl
theorem jk.intro{w b:Bool}(h1:b=true→jk P U n all os ρ h K w d op t p a s (.b true))(h2:b=false→jk P U n all os ρ h K w d op t p a s (.b false)):jk P U n all os ρ h K w d op t p a s (.b b):=by
 cases b
 ·grind
 grind
end
@[go_sem↓] theorem WO(all:List Oper)(d:Option Tmp)(op:Op)(t:TypeId)(p:String)(a:Array Edge)(g:Nat)(w:Bool)(os:List Oper)(K:Env→Heap→Prop):
  kr P U n all (⟨d,op,t,p,a,some (g,w)⟩::os) ρ h K=(dU n d=true∧aE (qx all g) fun s=>aE (lk ρ s) (jk P U n all os ρ h K w d op t p a s)):=by
 have:=uZ (ρ:=ρ) all g w (fun ρ=>bf P U ρ h ⟨d,op,t,p,a,none⟩ (KOps P U n all os K ρ d)) (fun ρ=>kr P U n all os (put ρ d (.v undef)) h K)
 rw[show(fun s=>aE (lk ρ s) (jk P U n all os ρ h K w d op t p a s))=fun d_1=>aE (lk ρ d_1) fun x=>gB d_1 w ρ (fun ρ=>bf P U ρ h ⟨d,op,t,p,a,none⟩ (KOps P U n all os K ρ d)) (fun ρ=>kr P U n all os (put ρ d (.v undef)) h K) x from rfl,←this]
 rfl
variable {d : Option Tmp} {t : TypeId} {p : String} {a : Array Edge} {g : Option (Nat × Bool)} {Q : AV → Heap → Prop}
@[go_sem↓] theorem XG(x:Operand):bf P U ρ h ⟨d,.move x,t,p,a,g⟩ Q=aE (ev ρ x) (atH Q h):=(bV x _)
@[go_sem↓] theorem U9(x:Operand):bf P U ρ h ⟨d,.assign x,t,p,a,g⟩ Q=aE (ev ρ x) (atH Q h):=(bV x _)
def My(ρ:Env)(x z:Operand)(k:AV→Prop)(y:AV):Prop:=match y with
 |.v (.bool true)=>aE (ev ρ x) k
 |.v (.bool false)=>aE (ev ρ z) k
 |_=>False
@[go_sem↓] theorem Se(x z:Operand)(k:AV→Prop):My ρ x z k (.b true)=aE (ev ρ x) k:=rfl
@[go_sem↓] theorem Qr(x z:Operand)(k:AV→Prop):My ρ x z k (.b false)=aE (ev ρ z) k:=rfl
@[go_sem↓] theorem XH(x y z:Operand):bf P U ρ h ⟨d,.pick x y z,t,p,a,g⟩ Q=aE (ev ρ x) (My ρ y z (atH Q h)):=by
 simp only[bf,pv,bV]
 congr 1
def Qm(k:AV→Prop)(y:AV):Prop:=match y with
 |.ptr .. |.pe .. |.fn .. =>k y
 |_=>False
@[go_sem↓] theorem Ty(i o:Nat)(k:AV→Prop):Qm k (.ptr i o)=k (.ptr i o):=rfl
@[go_sem↓] theorem R8(x:Operand):bf P U ρ h ⟨d,.nilCheck x,t,p,a,g⟩ Q=aE (ev ρ x) (Qm (atH Q h)):=by
 simp only[bf,pv,bV]
 congr 1
@[congr] theorem Q9{op:BinOp}{ty:TypeId}{x x' y y' :AV}{K:AV→Prop}(e1:x=x')(e2:y=y'):cw U op ty x y K=cw U op ty x' y' K:=by grind
theorem vj(op:BinOp)(ty ty' :TypeId)(x y:Operand)(hy:Gj y=false):bf P U ρ h ⟨d,.binOp op ty x y ty',t,p,a,g⟩ Q=aE (ev ρ x) fun u=>aE (ev ρ y) fun v=>cw U op ty u v (atH Q h):=by
 simp only[bf,pv,bV,hy];rfl
@[go_sem↓] theorem WE(op:BinOp)(ty ty' :TypeId)(x:Operand)(y:Tmp):bf P U ρ h ⟨d,.binOp op ty x (.tmp y) ty',t,p,a,g⟩ Q=aE (ev ρ x) fun u=>aE (ev ρ (.tmp y)) fun v=>cw U op ty u v (atH Q h):=vj _ _ _ _ _ rfl
@[go_sem↓] theorem TB(op:BinOp)(ty ty' :TypeId)(x:Operand)(ik:IntKind)(im:Int):bf P U ρ h ⟨d,.binOp op ty x (.const (.int ik im)) ty',t,p,a,g⟩ Q=aE (ev ρ x) fun u=>cw U op ty u (.v (.int ik im)) (atH Q h):=vj _ _ _ _ _ rfl
@[go_sem↓] theorem Tz(op:BinOp)(ty ty' :TypeId)(x:Operand)(ik:FloatKind)(im jm:Nat):bf P U ρ h ⟨d,.binOp op ty x (.const (.complex ik im jm)) ty',t,p,a,g⟩ Q=aE (ev ρ x) fun u=>cw U op ty u (.v (.complex ik im jm)) (atH Q h):=vj _ _ _ _ _ rfl
@[go_sem↓] theorem TA(op:BinOp)(ty ty' :TypeId)(x:Operand)(ik:FloatKind)(im:Nat):bf P U ρ h ⟨d,.binOp op ty x (.const (.float ik im)) ty',t,p,a,g⟩ Q=aE (ev ρ x) fun u=>cw U op ty u (.v (.float ik im)) (atH Q h):=vj _ _ _ _ _ rfl
@[go_sem↓] theorem TE(op:BinOp)(ty ty' :TypeId)(x:Operand)(b:ByteArray):bf P U ρ h ⟨d,.binOp op ty x (.const (.string b)) ty',t,p,a,g⟩ Q=aE (ev ρ x) fun u=>aE (ev ρ (.const (.string b))) fun v=>cw U op ty u v (atH Q h):=vj _ _ _ _ _ rfl
@[go_sem↓] theorem TD(op:BinOp)(ty ty' :TypeId)(x:Operand)(b:Option Addr):bf P U ρ h ⟨d,.binOp op ty x (.const (.pointer b)) ty',t,p,a,g⟩ Q=aE (ev ρ x) fun u=>cw U op ty u (.v (.pointer b)) (atH Q h):=vj _ _ _ _ _ rfl
def R6(h:Heap)(op:BinOp)(x:AV)(Q:AV→Heap→Prop)(tk:TK):Prop:=match tk,op,x with
 |.slice _,.eql,.sl xs _=>∀b:Bool,(xs≠ []→b=false)→Q (.b b) h
 |.slice _,.neq,.sl xs _=>∀b:Bool,(xs≠ []→b=true)→Q (.b b) h
 |.slice _,.eql,.oa .. =>Q (.b false) h
 |.slice _,.neq,.oa .. =>Q (.b true) h
 |.slice _,.eql,.ob .. =>Q (.b false) h
 |.slice _,.neq,.ob .. =>Q (.b true) h
 |_,_,_=>False
@[go_sem↓] theorem TC(op:BinOp)(ty ty' :TypeId)(x:Operand)(l k:Nat):bf P U ρ h ⟨d,.binOp op ty x (.const (.slice none l k)) ty',t,p,a,g⟩ Q=aE (ev ρ x) fun u=>atK (U ty).k (R6 h op u Q):=by
 simp only[bf,Gj,bV,atK,if_true];rfl
section
variable {ty : TypeId} {K : AV → Prop}
@[go_sem] theorem aat(k:IntKind)(x y:Int):cw U .add ty (.v (.int k x)) (.v (.int k y)) K=K (.v (.int k (k.wrap (x+y)))):=by simp[cw,fY,rS]
@[go_sem] theorem aaC(k:IntKind)(x y:Int):cw U .sub ty (.v (.int k x)) (.v (.int k y)) K=K (.v (.int k (k.wrap (x - y)))):=by simp[cw,fY,rS]
@[go_sem] theorem aaz(k:IntKind)(x y:Int):cw U .mul ty (.v (.int k x)) (.v (.int k y)) K=K (.v (.int k (k.wrap (x*y)))):=by simp[cw,fY,rS]
@[go_sem] theorem aaB(k:IntKind)(x y:Int):cw U .quo ty (.v (.int k x)) (.v (.int k y)) K=(y≠0∧K (.v (.int k (k.wrap (x.tdiv y))))):=by simp[cw,fY,rS]
@[go_sem] theorem KZ(k:IntKind)(x y:Int):cw U .and ty (.v (.int k x)) (.v (.int k y)) K=K (.v (.int k (k.wrap (BitVec.ofInt k.bits x &&& BitVec.ofInt k.bits y).toNat))):=by simp[cw,fY,rS]
@[go_sem] theorem Ub(k:IntKind)(x y:Int):cw U .or ty (.v (.int k x)) (.v (.int k y)) K=K (.v (.int k (k.wrap (BitVec.ofInt k.bits x|||BitVec.ofInt k.bits y).toNat))):=by simp[cw,fY,rS]
@[go_sem] theorem PZ(k:IntKind)(x y:Int):cw U .xor ty (.v (.int k x)) (.v (.int k y)) K=K (.v (.int k (k.wrap (BitVec.ofInt k.bits x ^^^ BitVec.ofInt k.bits y).toNat))):=by simp[cw,fY,rS]
@[go_sem] theorem aau(k:IntKind)(x y:Int):cw U .eql ty (.v (.int k x)) (.v (.int k y)) K=K (.b (x==y)):=by simp[cw,fY,rS]
@[go_sem] theorem aaA(k:IntKind)(x y:Int):cw U .neq ty (.v (.int k x)) (.v (.int k y)) K=K (.b (x !=y)):=by simp[cw,fY,rS]
@[go_sem] theorem aay(k:IntKind)(x y:Int):cw U .lss ty (.v (.int k x)) (.v (.int k y)) K=K (.b (decide (x<y))):=by simp[cw,fY,rS]
@[go_sem] theorem aax(k:IntKind)(x y:Int):cw U .leq ty (.v (.int k x)) (.v (.int k y)) K=K (.b (decide (x≤y))):=by simp[cw,fY,rS]
@[go_sem] theorem aaw(k:IntKind)(x y:Int):cw U .gtr ty (.v (.int k x)) (.v (.int k y)) K=K (.b (decide (y<x))):=by simp[cw,fY,rS]
@[go_sem] theorem aav(k:IntKind)(x y:Int):cw U .geq ty (.v (.int k x)) (.v (.int k y)) K=K (.b (decide (y≤x))):=by simp[cw,fY,rS]
@[go_sem] theorem PY(k k' :IntKind)(x y:Int):cw U .shl ty (.v (.int k x)) (.v (.int k' y)) K=(0≤y∧K (.v (.int k (k.wrap (x*2 ^ (min y.toNat k.bits)))))):=by rfl
@[go_sem] theorem K0(k k' :IntKind)(x y:Int):cw U .shr ty (.v (.int k x)) (.v (.int k' y)) K=(0≤y∧K (.v (.int k (x.fdiv (2 ^ (min y.toNat k.bits)))))):=by rfl
@[go_sem] theorem Xc(x y:List UInt8):cw U .add ty (.s x) (.s y) K=(x.length+y.length<lim∧K (.s (x++y))):=rfl
@[go_sem] theorem Xd(x y:List UInt8):cw U .eql ty (.s x) (.s y) K=K (.b (x==y)):=rfl
@[go_sem] theorem Xg(x y:List UInt8):cw U .neq ty (.s x) (.s y) K=K (.b (!(x==y))):=rfl
@[go_sem] theorem VY(k k' :FloatKind)(x y:Nat)(op:BinOp):cw U op ty (.v (.float k x)) (.v (.float k' y)) K=gv op (.float k x) (.float k' y) K:=rfl
@[go_sem] theorem Xa(k k' :FloatKind)(x y z w:Nat)(op:BinOp):cw U op ty (.v (.complex k x y)) (.v (.complex k' z w)) K=gv op (.complex k x y) (.complex k' z w) K:=rfl
theorem oJ{op:BinOp}{x y r:Value}(h:∀(P:Program) (ty:TypeId) (w:World),(binOp op ty x y).run P w= .ok r w)(K:AV→Prop):gv op x y K=K (.v r):=propext ⟨fun⟨r',h',hk⟩=>by
 have e:=(h default 0 default).symm.trans (h' default 0 default);cases e;exact hk,fun hk=>⟨r,h,hk⟩⟩
@[go_sem] theorem Xf(x y:List UInt8):cw U .lss ty (.s x) (.s y) K=K (.b (Op.bytesLess x y)):=rfl
@[go_sem] theorem Xe(x y:List UInt8):cw U .geq ty (.s x) (.s y) K=K (.b (!(Op.bytesLess x y))):=rfl
def eqK(tk:TK)(e:Option (Nat×List TK))(xs ys:List AV)(k:Bool→Prop):Prop:=match e with
 |some (_,l)=>tk.agg=true∧cy l xs∧cy l ys∧k (eqL xs ys)
 |none=>False
@[congr] theorem Tp{tk tk' :TK}{e e' :Option (Nat×List TK)}{xs ys:List AV}{k:Bool→Prop}(h1:tk=tk')(h2:e=e'):eqK tk e xs ys k=eqK tk' e' xs ys k:=by grind
@[go_sem] theorem aaJ(fs:List (Nat×TypeId))(r:Nat)(l:List TK)(xs ys:List AV)(k:Bool→Prop):eqK (.strct fs) (some (r,l)) xs ys k=(cy l xs∧cy l ys∧k (eqL xs ys)):=by simp[eqK,TK.agg]
@[go_sem] theorem W7(xs ys:List AV):cw U .eql ty (.agg xs) (.agg ys) K=eqK (U ty).k (U ty).eq xs ys fun b=>K (.b b):=by
 simp only[cw,K7,eqK];grind
@[go_sem] theorem W8(xs ys:List AV):cw U .neq ty (.agg xs) (.agg ys) K=eqK (U ty).k (U ty).eq xs ys fun b=>K (.b (!b)):=by
 simp only[cw,K7,eqK];grind
@[go_sem] theorem Sx(xs:List AV):cy [] xs=(xs= []):=rfl
@[go_sem] theorem Qz(t:TK)(ts:List TK)(x:AV)(xs:List AV):cy (t::ts) (x::xs)=(sr t x∧cy ts xs):=rfl
@[go_sem] theorem Uf(k k' :IntKind)(n:Int):sr (.int k) (.v (.int k' n))=(k' =k):=rfl
@[go_sem] theorem Ue(b:Bool):sr .bool (.b b)=True:=rfl
@[go_sem] theorem Ug(l:List UInt8):sr .str (.s l)=True:=rfl
@[go_sem] theorem Wb:eqL [] []=true:=rfl
@[go_sem] theorem Ux(x y:AV)(xs ys:List AV):eqL (x::xs) (y::ys)=(eqC x y && eqL xs ys):=rfl
@[go_sem] theorem aaH(k k' :IntKind)(n m:Int):eqC (.v (.int k n)) (.v (.int k' m))=(n==m):=rfl
@[go_sem] theorem aaG(b c:Bool):eqC (.b b) (.b c)=(b==c):=rfl
@[go_sem] theorem aaI(l m:List UInt8):eqC (.s l) (.s m)=(l==m):=rfl
def tkB(k:TK)(A:Prop):Prop:=k= .bool∧A
def tkP(k:TK)(A:Prop):Prop:=(∃e,k= .ptr e)∧A
@[congr] theorem TO{k k' :TK}{A:Prop}(e:k=k'):tkB k A=tkB k' A:=by rw[e]
@[congr] theorem TP{k k' :TK}{A:Prop}(e:k=k'):tkP k A=tkP k' A:=by rw[e]
@[go_sem] theorem Vo(A:Prop):tkB .bool A=A:=by simp[tkB]
@[go_sem] theorem WU(e:TypeId)(A:Prop):tkP (.ptr e) A=A:=by simp[tkP]
@[go_sem] theorem W9(x y:Bool):cw U .neq ty (.b x) (.b y) K=tkB (U ty).k (K (.b (!(x==y)))):=by
 grind [cw,N0,tkB]
@[go_sem] theorem Xb(i o:Nat):cw U .eql ty (.ptr i o) (.v (.pointer none)) K=tkP (U ty).k (K (.b false)):=by
 simp only[cw,N1,OQ,tkP];grind
end
def unA(op:UnOp)(y:AV)(k:AV→Prop):Prop:=match op,y with
 |.not,.v (.bool b)=>k (.b (!b))
 |.neg,.v (.int kk n)=>k (.v (.int kk (kk.wrap (0 - n))))
 |.xor,.v (.int kk n)=>k (.v (.int kk (kk.wrap (BitVec.ofInt kk.bits (if kk.signed then -1 else kk.max) ^^^ BitVec.ofInt kk.bits n).toNat)))
 |_,_=>False
@[congr] theorem TR{op:UnOp}{y y' :AV}{k:AV→Prop}(e:y=y'):unA op y k=unA op y' k:=by rw[e]
@[go_sem] theorem WX(b:Bool)(k:AV→Prop):unA .not (.b b) k=k (.b (!b)):=rfl
@[go_sem] theorem CH(kk:IntKind)(m:Int)(k:AV→Prop):unA .xor (.v (.int kk m)) k=k (.v (.int kk (kk.wrap (BitVec.ofInt kk.bits (if kk.signed then -1 else kk.max) ^^^ BitVec.ofInt kk.bits m).toNat))):=rfl
@[go_sem↓] theorem XJ(op:UnOp)(ty:TypeId)(x:Operand):bf P U ρ h ⟨d,.unOp op ty x,t,p,a,g⟩ Q=aE (ev ρ x) fun y=>unA op y (atH Q h):=by
 simp only[bf,pv,bV]
 congr 1
def cvA(U:TypeId→TI)(s d:TK)(y:AV)(k:AV→Prop):Prop:=match s,d,y with
 |.int _,.int kk,.v (.int _ n)=>k (.v (.int kk (kk.wrap n)))
 |.str,.str,.s l=>k (.s l)
 |.slice e,.str,.sl xs _=>(U e).k= .int .u8∧∃l:List UInt8,xs=l.map aK∧k (.s l)
 |.str,.slice e,.s l=>(U e).k= .int .u8∧k (.sl (l.map aK) .no)
 |.cplx _,.cplx kk,.v (.complex kf a b)=>kf=kk∧k (.v (.complex kk a b))
 |_,_,_=>False
@[congr] theorem Tg{s s' d d' :TK}{y y' :AV}{k:AV→Prop}(e1:s=s')(e2:d=d')(e:y=y'):cvA U s d y k=cvA U s' d' y' k:=by grind
@[go_sem] theorem Xl(k0 kk k1:IntKind)(m:Int)(k:AV→Prop):cvA U (.int k0) (.int kk) (.v (.int k1 m)) k=k (.v (.int kk (kk.wrap m))):=rfl
@[go_sem] theorem aaE(e:TypeId)(l:List UInt8)(pm:Perm)(k:AV→Prop):cvA U (.slice e) .str (.sl (l.map aK) pm) k=((U e).k= .int .u8∧k (.s l)):=by
 simp only[cvA]
 congr 1
 apply propext;constructor
 ·rintro⟨l',e1,hk⟩
  have:l=l' :=by
   have inj:∀(x y:List UInt8),x.map aK=y.map aK→x=y:=by
    intro x
    induction x with
    |nil=>simp
    |cons b r ih=>
     intro y e;cases y with
     |nil=>grind
     |cons b' r' =>
      simp only[List.map_cons,List.cons.injEq,aK,AV.v.injEq,Value.int.injEq,true_and,Int.natCast_inj]at e
      grind [UInt8.toNat_inj]
   exact inj _ _ e1
  rw[this];exact hk
 grind
theorem u8m(k:TK)(X:Prop):(match k with|.int .u8=>X|_=>False)=(k= .int .u8∧X):=by
 grind
@[go_sem↓] theorem TG(s e:TypeId)(x:Operand):bf P U ρ h ⟨d,.convert s e x,t,p,a,g⟩ Q=aE (ev ρ x) fun y=>cvA U (U s).k (U e).k y (atH Q h):=by
 simp only[bf,pv,bV]
 congr 1
 funext y
 generalize (U s).k=ks;generalize (U e).k=ke;cases ks<;>cases ke<;>cases y<;>(first|rfl|(rename_i u;cases u<;>rfl)|skip)
 ·simp only[cvA]
  exact u8m _ _
 ·simp only[cvA]
  exact u8m _ _
end
attribute [go_sem] true_and and_true List.length_cons List.length_nil List.drop_succ_cons List.drop_zero List.drop_nil List.take_succ_cons List.take_zero List.take_nil List.append_nil List.cons_append List.nil_append List.map_cons List.map_nil ne_eq not_false_eq_true reduceCtorEq Nat.zero_add Nat.add_zero
section
variable {P : Program} {U : TypeId → TI} {n : Nat} {ρ : Env} {h : Heap}
variable {d : Option Tmp} {t : TypeId} {p : String} {a : Array Edge} {g : Option (Nat × Bool)} {Q : AV → Heap → Prop} {k : AV → Prop}
@[go_sem] theorem VP(x:IntKind):TK.agg (.int x)=false:=rfl
@[go_sem] theorem oR(x y:TypeId):TK.agg (.map x y)=false:=rfl
@[go_sem] theorem T6:TK.agg .bool=false:=rfl
@[go_sem] theorem VR:TK.agg .str=false:=rfl
@[go_sem] theorem S3(x:TypeId):TK.agg (.slice x)=false:=rfl
@[go_sem] theorem S4(x:List (Nat×TypeId)):TK.agg (.strct x)=true:=rfl
@[go_sem] theorem VQ(x:TypeId):TK.agg (.ptr x)=false:=rfl
@[go_sem] theorem T7(x:FloatKind):TK.agg (.cplx x)=false:=rfl
@[go_sem] theorem Tb(cs:List AV):AV.cells (.agg cs)=cs:=rfl
@[go_sem] theorem V1(x:Value):AV.cells (.v x)= [.v x]:=rfl
@[go_sem] theorem V0(x:List UInt8):AV.cells (.s x)= [.s x]:=rfl
@[go_sem] theorem Ui(x:List AV)(q:Perm):AV.cells (.sl x q)= [.sl x q]:=rfl
@[go_sem] theorem Tc(i o:Nat):AV.cells (.ptr i o)= [.ptr i o]:=rfl
@[go_sem] theorem Tu(cs:List AV):bA (.agg cs)=true:=rfl
@[go_sem] theorem Ww(x:Value):bA (.v x)=false:=rfl
@[go_sem] theorem Wv(x:List UInt8):bA (.s x)=false:=rfl
@[go_sem] theorem UP(x:List AV)(q:Perm):bA (.sl x q)=false:=rfl
@[go_sem] theorem Wr(cs:List AV)(m:Nat):fit (.agg cs) m=(cs.length=m):=rfl
@[go_sem] theorem Ws(x:IntKind)(i:Int)(m:Nat):fit (.v (.int x i)) m=(m=1):=by simp[fit,Value.oneCell']
@[go_sem] theorem UH(i:Bool)(m:Nat):fit (.b i) m=(m=1):=by simp[fit,Value.oneCell']
@[go_sem] theorem UI(x:FloatKind)(i j:Nat)(m:Nat):fit (.v (.complex x i j)) m=(m=1):=by simp[fit,Value.oneCell']
@[go_sem] theorem aaK(l:List UInt8)(m:Nat):fit (.s l) m=(m=1):=rfl
@[go_sem] theorem Xs(l:List AV)(q:Perm)(m:Nat):fit (.sl l q) m=(m=1):=rfl
@[go_sem] theorem Wt(i o:Nat)(m:Nat):fit (.ptr i o) m=(m=1):=rfl
@[go_sem] theorem UJ(m:Nat):fits m []=True:=rfl
@[go_sem] theorem Tr(m:Nat)(y:AV)(r:List AV):fits m (y::r)=(fit y m∧fits m r):=rfl
@[go_sem↓] theorem Ef(cs:List AV)(off:Nat)(i:TI):iA cs off i k=Br i.k.agg (off+i.sz≤cs.length∧k (.agg ((cs.drop off).take i.sz))) (aE cs[off]? k):=by
 unfold iA;cases i.k.agg with
 |true=>simp[Br]
 |false=>
  grind [Br,aE]
@[go_sem↓] theorem KU(y:AV)(off:Nat)(i:TI):atA y off i k=if off=0∧y.cells.length=i.sz∧bA y=i.k.agg then k y else iA y.cells off i k:=rfl
def FH(U:TypeId→TI)(f:Nat)(y:AV)(k:AV→Prop)(tk:TK):Prop:=match tk,y with
 |.strct fs,.agg cs=>aE fs[f]? fun q=>(U q.2).sz≠0∧(U q.2).k≠ .other∧iA cs q.1 (U q.2) k
 |_,_=>False
@[go_sem↓] theorem Tq(f:Nat)(cs:List AV)(fs:List (Nat×TypeId)):FH U f (.agg cs) k (.strct fs)=aE fs[f]? fun q=>(U q.2).sz≠0∧(U q.2).k≠ .other∧iA cs q.1 (U q.2) k:=rfl
@[go_sem↓] theorem WH(ty:TypeId)(x:Operand)(f:Nat):bf P U ρ h ⟨d,.field ty x f,t,p,a,g⟩ Q=aE (ev ρ x) fun y=>atK (U ty).k (FH U f y (atH Q h)):=by
 simp only[bf,pv,bV,atK]
 congr 1
 funext y
 cases (U ty).k<;>cases y<;>simp only[FH]
 rename_i fs cs
 cases fs[f]? <;>rfl
def Ni(y:AV)(i:Nat)(k:AV→Prop):Prop:=match y with
 |.tup vs=>aE vs[i]? k
 |_=>False
@[congr] theorem Sw{y y' :AV}{i:Nat}(e:y=y'):Ni y i k=Ni y' i k:=by rw[e]
@[go_sem↓] theorem WV(vs:List AV)(i:Nat):Ni (.tup vs) i k=aE vs[i]? k:=rfl
@[go_sem↓] theorem TH(x:Operand)(i:Nat):bf P U ρ h ⟨d,.extract x i,t,p,a,g⟩ Q=aE (ev ρ x) fun y=>Ni y i (atH Q h):=by
 simp only[bf,pv,bV]
 grind [Ni,aE,atH]
def Is(tk:TK)(y z:AV)(k:AV→Prop):Prop:=match tk,y,z with
 |.str,.s l,.v (.int _ n)=>E9 l n k
 |_,_,_=>False
@[congr] theorem Qx{tk tk' :TK}{y y' z z' :AV}(e0:tk=tk')(e1:y=y')(e2:z=z'):Is tk y z k=Is tk' y' z' k:=by grind
@[go_sem↓] theorem Vm(l:List UInt8)(x:IntKind)(m:Int):Is .str (.s l) (.v (.int x m)) k=E9 l m k:=rfl
@[go_sem↓] theorem WI(ty:TypeId)(x i:Operand):bf P U ρ h ⟨d,.index ty x i,t,p,a,g⟩ Q=aE (ev ρ x) fun y=>aE (ev ρ i) fun z=>Is (U ty).k y z (atH Q h):=by
 simp only[bf,pv,bV]
 congr 1
def yo(U:TypeId→TI)(f:Nat)(y:AV)(k:AV→Prop)(tk:TK):Prop:=match tk with
 |.strct fs=>aE fs[f]? fun q=>(U q.2).sz≠0∧match y with
  |.ptr id o=>k (.ptr id (o+q.1))
  |.pe z o=>k (.pe z (o+q.1))
  |_=>False
 |_=>False
@[go_sem↓] theorem FG(f id o:Nat)(fs:List (Nat×TypeId)):yo U f (.ptr id o) k (.strct fs)=aE fs[f]? fun q=>(U q.2).sz≠0∧k (.ptr id (o+q.1)):=rfl
@[go_sem↓] theorem I5(f o:Nat)(z:AV)(fs:List (Nat×TypeId)):yo U f (.pe z o) k (.strct fs)=aE fs[f]? fun q=>(U q.2).sz≠0∧k (.pe z (o+q.1)):=rfl
@[go_sem↓] theorem Qn(ty:TypeId)(x:Operand)(f:Nat):bf P U ρ h ⟨d,.fieldAddr ty x f,t,p,a,g⟩ Q=aE (ev ρ x) fun y=>atK (U ty).k (yo U f y (atH Q h)):=by
 simp only[bf,pv,bV,atK]
 congr 1
 funext y
 cases (U ty).k<;>simp only[yo]
 rename_i fs
 cases fs[f]? with
 |none=>rfl
 |some q=>rfl
def o7(U:TypeId→TI)(y z:AV)(k:AV→Prop)(tk:TK):Prop:=match tk,y,z with
 |.slice e,.sl xs _,.v (.int _ n)=>(U e).sz≠0∧fD xs n (U e).sz k
 |.slice e,.oa id off len,.v (.int _ n)=>(U e).sz≠0∧0≤n∧n<len∧k (.ptr id (off+n.toNat*(U e).sz))
 |.arr len e,.ptr id off,.v (.int _ n)=>(U e).sz≠0∧0≤n∧n<len∧k (.ptr id (off+n.toNat*(U e).sz))
 |.slice e,.ob id off len _ sz,.v (.int _ n)=>(U e).sz≠0∧sz=(U e).sz∧0≤n∧n<len∧k (.ptr id (off+n.toNat*sz))
 |_,_,_=>False
@[go_sem↓] theorem AW(id off len cap sz:Nat)(x:IntKind)(m:Int)(e:TypeId):o7 U (.ob id off len cap sz) (.v (.int x m)) k (.slice e)=((U e).sz≠0∧sz=(U e).sz∧0≤m∧m<len∧k (.ptr id (off+m.toNat*sz))):=rfl
@[go_sem↓] theorem u6(xs:List AV)(q:Perm)(x:IntKind)(m:Int)(e:TypeId):o7 U (.sl xs q) (.v (.int x m)) k (.slice e)=((U e).sz≠0∧fD xs m (U e).sz k):=rfl
@[go_sem↓] theorem AU(id off len:Nat)(x:IntKind)(m:Int)(e:TypeId):o7 U (.oa id off len) (.v (.int x m)) k (.slice e)=((U e).sz≠0∧0≤m∧m<len∧k (.ptr id (off+m.toNat*(U e).sz))):=rfl
@[go_sem↓] theorem Qo(ty:TypeId)(x i:Operand):bf P U ρ h ⟨d,.indexAddr ty x i,t,p,a,g⟩ Q=aE (ev ρ x) fun y=>aE (ev ρ i) fun z=>atK (U ty).k (o7 U y z (atH Q h)):=by
 simp only[bf,pv,bV,atK]
 congr 1
def qc(b:Blk)(f:List AV→TypeId→Prop):Prop:=match b with
 |.obj cs t=>f cs t
 |_=>False
@[congr] theorem R9{b b' :Blk}{f:List AV→TypeId→Prop}(e:b=b'):qc b f=qc b' f:=by rw[e]
@[go_sem↓] theorem Cr(cs:List AV)(t:TypeId)(f:List AV→TypeId→Prop):qc (.obj cs t) f=f cs t:=rfl
def nI(U:TypeId→TI)(h:Heap)(ty:TypeId)(y:AV)(k:AV→Prop):Prop:=match y with
 |.ptr id off=>aE (h id) fun b=>qc b fun cs _=>iA cs off (U ty) k
 |.pe z off=>atA z off (U ty) k
 |_=>False
@[congr] theorem Qi{ty:TypeId}{y y' :AV}(e:y=y'):nI U h ty y k=nI U h ty y' k:=by rw[e]
@[go_sem↓] theorem JK(ty:TypeId)(id off:Nat):nI U h ty (.ptr id off) k=aE (h id) fun b=>qc b fun cs _=>iA cs off (U ty) k:=rfl
@[go_sem↓] theorem L9(ty:TypeId)(z:AV)(off:Nat):nI U h ty (.pe z off) k=atA z off (U ty) k:=rfl
@[go_sem↓] theorem XF(ty:TypeId)(x:Operand):bf P U ρ h ⟨d,.load ty x,t,p,a,g⟩ Q=((U ty).sz≠0∧(U ty).k≠ .other∧aE (ev ρ x) fun y=>nI U h ty y (atH Q h)):=by
 simp only[bf,pv,bV]
 congr 1
 congr 1
 congr 1
 funext y
 cases y with
 |ptr id off=>
  simp only[nI];exact ahp
 |_=>rfl
def F2(y:AV)(f:Int→Prop):Prop:=match y with
 |.v (.int _ m)=>f m
 |_=>False
@[congr] theorem RM{y y' :AV}{f:Int→Prop}(e:y=y'):F2 y f=F2 y' f:=by rw[e]
@[go_sem↓] theorem nE(x:IntKind)(m:Int)(f:Int→Prop):F2 (.v (.int x m)) f=f m:=rfl
@[go_sem↓] theorem mB(m:Nat)(f:Int→Prop):ew ρ none m f=f m:=rfl
@[go_sem↓] theorem fK(x:Operand)(m:Nat)(f:Int→Prop):ew ρ (some x) m f=aE (ev ρ x) fun y=>F2 y f:=by
 simp only[ew,bV]
 congr 1
def gM(U:TypeId→TI)(ρ:Env)(y:AV)(lo hi mx:Option Operand)(k:AV→Prop)(tk:TK):Prop:=match y with
 |.s l=>tk= .str∧mx=none∧ew ρ lo 0 fun a=>ew ρ hi l.length fun b=>0≤a∧a≤b∧b≤l.length∧k (.s (mX l a b lo.isSome hi.isSome))
 |.sl xs p=>match tk with
  |.slice e=>(U e).sz≠0∧(lo.isSome=true→∀z∈xs,z.cells.length=(U e).sz)∧match mx with
   |none=>ew ρ lo 0 fun a=>ew ρ hi xs.length fun b=>0≤a∧a≤b∧b≤xs.length∧k (.sl (mX xs a b lo.isSome hi.isSome) (zX xs p lo.isSome hi.isSome))
   |some m=>hi.isSome=true∧ew ρ lo 0 fun a=>ew ρ hi xs.length fun b=>ew ρ (some m) 0 fun c=>0≤a∧a≤b∧b=c∧c≤xs.length∧k (.sl (mX xs a b lo.isSome true) .full)
  |_=>False
 |.oa id off len=>match tk with
  |.slice e=>(U e).sz≠0∧(lo.isSome=true→(U e).sz=1)∧mx=none∧ew ρ lo 0 fun a=>ew ρ hi len fun b=>0≤a∧a≤b∧b≤len∧k (.oa id (off+a.toNat*(U e).sz) (b.toNat - a.toNat))
  |_=>False
 |.ob id off len cap sz=>match tk with
  |.slice e=>(U e).sz≠0∧sz=(U e).sz∧match mx with
   |none=>ew ρ lo 0 fun a=>ew ρ hi len fun b=>0≤a∧a≤b∧b≤cap∧k (.ob id (off+a.toNat*sz) (b.toNat - a.toNat) (cap - a.toNat) sz)
   |some m=>hi.isSome=true∧ew ρ lo 0 fun a=>ew ρ hi len fun b=>ew ρ (some m) 0 fun c=>0≤a∧a≤b∧b≤c∧c≤cap∧k (.ob id (off+a.toNat*sz) (b.toNat - a.toNat) (c.toNat - a.toNat) sz)
  |_=>False
 |_=>False
@[go_sem↓] theorem Bt(id off len cap sz:Nat)(lo hi:Option Operand)(e:TypeId):gM U ρ (.ob id off len cap sz) lo hi none k (.slice e)=((U e).sz≠0∧sz=(U e).sz∧ew ρ lo 0 fun a=>ew ρ hi len fun b=>0≤a∧a≤b∧b≤cap∧k (.ob id (off+a.toNat*sz) (b.toNat - a.toNat) (cap - a.toNat) sz)):=rfl
@[go_sem↓] theorem Vl(l:List UInt8)(lo hi:Option Operand):gM U ρ (.s l) lo hi none k .str=ew ρ lo 0 fun a=>ew ρ hi l.length fun b=>0≤a∧a≤b∧b≤l.length∧k (.s (mX l a b lo.isSome hi.isSome)):=by simp[gM]
@[go_sem↓] theorem rm(xs:List AV)(q:Perm)(hi:Option Operand)(e:TypeId):gM U ρ (.sl xs q) none hi none k (.slice e)=((U e).sz≠0∧ew ρ hi xs.length fun b=>0≤b∧b≤xs.length∧k (.sl (mX xs 0 b false hi.isSome) (zX xs q false hi.isSome))):=by
 simp[gM,ew]
@[go_sem↓] theorem rq(xs:List AV)(q:Perm)(lo:Operand)(hi:Option Operand)(e:TypeId):gM U ρ (.sl xs q) (some lo) hi none k (.slice e)=((U e).sz≠0∧Sized (U e).sz xs∧ew ρ (some lo) 0 fun a=>ew ρ hi xs.length fun b=>0≤a∧a≤b∧b≤xs.length∧k (.sl (mX xs a b true hi.isSome) (zX xs q true hi.isSome))):=by
 simp[gM,Sized]
@[go_sem↓] theorem rO(id off len:Nat)(lo hi:Option Operand)(e:TypeId):gM U ρ (.oa id off len) lo hi none k (.slice e)=((U e).sz≠0∧(lo.isSome=true→(U e).sz=1)∧ew ρ lo 0 fun a=>ew ρ hi len fun b=>0≤a∧a≤b∧b≤len∧k (.oa id (off+a.toNat*(U e).sz) (b.toNat - a.toNat))):=by
 simp[gM]
@[go_sem] theorem l8{α:Type}(xs:List α)(a b:Int):mX xs a b true false=xs.drop a.toNat:=rfl
@[go_sem] theorem xx{α:Type}(xs:List α)(a b:Int):mX xs a b false true=xs.take b.toNat:=rfl
@[go_sem] theorem N8{α:Type}(xs:List α)(a b:Int):mX xs a b true true=(xs.drop a.toNat).take (b.toNat - a.toNat):=rfl
@[go_sem] theorem V4(xs:List AV)(a b:Bool):zX xs .no a b= .no:=by cases xs<;>cases a<;>cases b<;>rfl
@[go_sem] theorem Tf(xs:List AV):zX xs .full true false= .full:=by cases xs<;>rfl
@[go_sem↓] theorem WJ(ty:TypeId)(x:Operand)(lo hi mx:Option Operand):bf P U ρ h ⟨d,.slice ty x lo hi mx,t,p,a,g⟩ Q=aE (ev ρ x) fun y=>atK (U ty).k (gM U ρ y lo hi mx (atH Q h)):=by
 simp only[bf,pv,bV,atK]
 congr 1
end
section
variable {P : Program} {U : TypeId → TI} {n : Nat} {ρ : Env} {h : Heap}
variable {d : Option Tmp} {t : TypeId} {p : String} {a : Array Edge} {g : Option (Nat × Bool)} {Q : AV → Heap → Prop} {k : AV → Prop}
def KJ(h:Heap)(b:Blk)(Q:AV→Heap→Prop):Prop:=∀id,h id=none→Q (.ptr id 0) (upd h id (some b))
def WZ(h:Heap)(xs:List AV)(b:Blk)(Q:AV→Heap→Prop):Prop:=∀id,h id=none→Q (.sl xs (.own id)) (upd h id (some b))
def oc(U:TypeId→TI)(h:Heap)(xs ys:List AV)(e:TypeId)(Q:AV→Heap→Prop):Prop:=
 (∀id,h id=none→Q (.sl (xs++ys) (.own id)) (upd h id (some (.spare (xs.length+ys.length) (U e).sz))))∨
  ((U e).sz=1∧fit (U e).zero 1∧bA (U e).zero=false∧(∀z∈xs++ys,bA z=false)∧∀id m,h id=none→Q (.oa id 0 (xs.length+ys.length)) (upd h id (some (.obj (xs++ys++List.replicate m (U e).zero) e))))∨
  (fit (U e).zero (U e).sz∧j9 h (au xs++au ys) (xs.length+ys.length) (U e).sz e Q)
@[congr] theorem PI{h h' :Heap}{xs xs' ys ys' :List AV}{e:TypeId}(e0:h=h')(e1:xs=xs')(e2:ys=ys'):oc U h xs ys e Q=oc U h' xs' ys' e Q:=by grind
theorem oc.own{xs ys:List AV}{e:TypeId}(hk:WZ h (xs++ys) (.spare (xs.length+ys.length) (U e).sz) Q):oc U h xs ys e Q:=.inl hk
theorem oc.oa{xs ys:List AV}{e:TypeId}(h1:(U e).sz=1)(h2:fit (U e).zero 1)(h3:bA (U e).zero=false)(h4:∀z∈xs++ys,bA z=false)
  (hk:∀id m,h id=none→Q (.oa id 0 (xs.length+ys.length)) (upd h id (some (.obj (xs++ys++List.replicate m (U e).zero) e)))):oc U h xs ys e Q:=.inr (.inl ⟨h1,h2,h3,h4,hk⟩)
theorem oc.ob{xs ys:List AV}{e:TypeId}(h1:fit (U e).zero (U e).sz)(hk:j9 h (au xs++au ys) (xs.length+ys.length) (U e).sz e Q):oc U h xs ys e Q:=.inr (.inr ⟨h1,hk⟩)
def sk(U:TypeId→TI)(h:Heap)(xs ys:List AV)(e:TypeId)(Q:AV→Heap→Prop):Prop:=(ys= []→Q (.sl xs .full) h)∧(ys≠ []→oc U h xs ys e Q)
@[congr] theorem NJ{h h' :Heap}{xs xs' ys ys' :List AV}{e:TypeId}(e0:h=h')(e1:xs=xs')(e2:ys=ys'):sk U h xs ys e Q=sk U h' xs' ys' e Q:=by grind
@[go_sem↓] theorem PG(xs:List AV)(y:AV)(r:List AV)(e:TypeId):sk U h xs (y::r) e Q=oc U h xs (y::r) e Q:=by simp[sk]
@[go_sem] theorem gm{α:Type}(f:Nat→α)(i:Nat)(x:α):upd f i x i=x:=ah f i x
@[go_sem] theorem ak{α:Type}(f:Nat→α)(i j:Nat)(x:α)(e:¬j=i):upd f i x j=f j:=ag f x e
@[go_sem] theorem cP{α:Type}(f:Nat→α)(i:Nat)(x y:α):upd (upd f i x) i y=upd f i y:=by
 grind [upd]
def qK:List (Nat×Operand)→Nat→Bool
 | [],_=>true
 |(i,_)::r,k=>i==k && qK r (k+1)
theorem AX:∀(l:List (Nat×Operand)) (k:Nat),qK l k=true↔l.map (·.1)=List.range' k l.length
 | [],k=>by simp[qK]
 |(i,x)::r,k=>by simp[qK,AX r (k+1),List.range'_succ]
@[go_sem] theorem Tt(k:Nat):qK [] k=true:=rfl
@[go_sem] theorem RI(i:Nat)(x:Operand)(r:List (Nat×Operand))(k:Nat):(qK ((i,x)::r) k=true)=(i=k∧qK r (k+1)=true):=by simp[qK]
theorem JA(l:List (Nat×Operand))(m:Nat):(l.map (·.1)=List.range m)=(qK l 0=true∧l.length=m):=by
 apply propext;rw[AX,List.range_eq_range'];constructor
 ·intro e
  have:=congrArg List.length e;simp at this;exact⟨ac1,this⟩
 grind
def bsK(U:TypeId→TI)(ρ:Env)(len:Nat)(parts:List (Nat×Operand))(k:AV→Prop)(tk:TK):Prop:=match tk with
 |.slice e=>(U e).sz≠0∧len*(U e).sz≤16777216∧(qK parts 0=true∧parts.length=len)∧aE (evs ρ (parts.map (·.2))) fun xs=>fits (U e).sz xs∧k (.sl xs .full)
 |_=>False
@[go_sem↓] theorem Xi(len:Nat)(parts:List (Nat×Operand))(e:TypeId):bsK U ρ len parts k (.slice e)=((U e).sz≠0∧len*(U e).sz≤16777216∧(qK parts 0=true∧parts.length=len)∧aE (evs ρ (parts.map (·.2))) fun xs=>fits (U e).sz xs∧k (.sl xs .full)):=rfl
@[go_sem↓] theorem OX(ty:TypeId)(len:Nat)(parts:List (Nat×Operand)):bf P U ρ h ⟨d,.buildSlice ty len parts.toArray,t,p,a,g⟩ Q=atK (U ty).k (bsK U ρ len parts (atH Q h)):=by
 simp only[bf,pv,atK];cases (U ty).k<;>simp only[bsK,gH,JA]
 rfl
def Q4(k:AV→Prop)(cs:List AV):Prop:=k (.agg cs)
@[go_sem↓] theorem VO(cs:List AV):Q4 k cs=k (.agg cs):=rfl
def G8(z:AV):Option (List AV):=match z with
 |.agg cs=>some cs
 |_=>none
@[go_sem] theorem S2(cs:List AV):G8 (.agg cs)=some cs:=rfl
def bK(U:TypeId→TI)(ρ:Env)(ty:TypeId)(parts:List (Nat×Operand))(k:AV→Prop)(tk:TK):Prop:=match tk with
 |.strct fs=>(U ty).sz≠0∧aE (G8 (U ty).zero) fun cs0=>withps U ρ fs parts cs0 (Q4 k)
 |_=>False
@[go_sem↓] theorem aas(ty:TypeId)(parts:List (Nat×Operand))(fs:List (Nat×TypeId)):bK U ρ ty parts k (.strct fs)=((U ty).sz≠0∧aE (G8 (U ty).zero) fun cs0=>withps U ρ fs parts cs0 (Q4 k)):=rfl
def bU(U:TypeId→TI)(ρ:Env)(ty:TypeId)(parts:List (Nat×Operand))(k:AV→Prop)(b:Bool):Prop:=match b with
 |true=>parts= []∧k (.agg [])
 |false=>atK (U ty).k (bK U ρ ty parts k)
@[go_sem↓] theorem acN(ty:TypeId)(parts:List (Nat×Operand)):bU U ρ ty parts k true=(parts= []∧k (.agg [])):=rfl
@[go_sem↓] theorem acM(ty:TypeId)(parts:List (Nat×Operand)):bU U ρ ty parts k false=atK (U ty).k (bK U ρ ty parts k):=rfl
@[go_sem] theorem UU:isUnit (.strct [])=true:=rfl
@[go_sem] theorem UT(f:Nat×TypeId)(fs:List (Nat×TypeId)):isUnit (.strct (f::fs))=false:=rfl
@[go_sem] theorem US(x:IntKind):isUnit (.int x)=false:=rfl
@[go_sem] theorem UQ:isUnit .bool=false:=rfl
@[go_sem] theorem RP:isUnit .str=false:=rfl
@[go_sem] theorem Tv(e:TypeId):isUnit (.slice e)=false:=rfl
@[go_sem] theorem UR(x:FloatKind):isUnit (.cplx x)=false:=rfl
theorem Mm(ty:TypeId)(parts:List (Nat×Operand)):(match (U ty).k with
  |.strct fs=>(U ty).sz≠0∧∃cs0,(U ty).zero= .agg cs0∧withps U ρ fs parts cs0 fun cs=>(atH Q h) (.agg cs)
  |_=>False)=atK (U ty).k (bK U ρ ty parts (atH Q h)):=by
 congr 1
 cases hz:(U ty).zero<;>simp[G8,aE]
 rfl
@[go_sem↓] theorem WG(ty:TypeId)(parts:List (Nat×Operand)):bf P U ρ h ⟨d,.build ty parts.toArray,t,p,a,g⟩ Q=bU U ρ ty parts (atH Q h) (isUnit (U ty).k):=by
 simp only[bf,pv];cases isUnit (U ty).k
 ·simp only[bU,Bool.false_eq_true,if_false]
  exact Mm ty parts
 rfl
@[congr] theorem NI{fs:List (Nat×TypeId)}{ps:List (Nat×Operand)}{cs cs' :List AV}{k:List AV→Prop}(e:cs=cs'):withps U ρ fs ps cs k=withps U ρ fs ps cs' k:=by rw[e]
@[go_sem] theorem SF(fs:List (Nat×TypeId))(cs:List AV)(k:List AV→Prop):withps U ρ fs [] cs k=k cs:=rfl
@[go_sem] theorem QC(fs:List (Nat×TypeId))(i:Nat)(x:Operand)(r:List (Nat×Operand))(cs:List AV)(k:List AV→Prop):
  withps U ρ fs ((i,x)::r) cs k=aE fs[i]? fun q=>(U q.2).sz≠0∧aE (ev ρ x) fun y=>fit y (U q.2).sz∧q.1+(U q.2).sz≤cs.length∧withps U ρ fs r (over cs q.1 y.cells) k:=by
 simp only[withps,bV];cases fs[i]? <;>rfl
@[go_sem] theorem WL(cs:List AV)(o:Nat)(xs:List AV):over cs o xs=cs.take o++xs++cs.drop (o+xs.length):=rfl
section
variable {ty : TypeId} {y : AV}
end
def U2(f:FuncId)(k:AV→Prop)(ys:List AV):Prop:=k (.fn f ys)
@[go_sem↓] theorem WB(f:FuncId)(ys:List AV):U2 f k ys=k (.fn f ys):=rfl
@[go_sem↓] theorem R7(f:FuncId)(cap:List Operand):bf P U ρ h ⟨d,.makeFunc (.func f) #[] cap.toArray,t,p,a,g⟩ Q=aE (evs ρ cap) (U2 f (atH Q h)):=by
 simp only[bf,pv,gH];rfl
def fnA(y:AV)(f:FuncId→List AV→Prop):Prop:=match y with
 |.fn g cap=>f g cap
 |_=>False
@[congr] theorem Ts{y y' :AV}{f:FuncId→List AV→Prop}(e:y=y'):fnA y f=fnA y' f:=by rw[e]
@[go_sem↓] theorem Xt(g:FuncId)(cap:List AV)(f:FuncId→List AV→Prop):fnA (.fn g cap) f=f g cap:=rfl
@[go_sem↓] theorem XB(q:Operand)(args:List Operand)(ts:Array TypeId):bf P U ρ h ⟨d,.call ⟨.value q,args.toArray,ts⟩,t,p,a,g⟩ Q=aE (ev ρ q) fun y=>fnA y fun f cap=>aE (evs ρ args) fun ys=>ai P f (ys++cap) h Q:=by
 simp only[bf,bV,gH]
 congr 1
def xl(y:AV)(k:AV→Prop)(tk:TK):Prop:=match tk,y with
 |.str,.s l=>k (.i l.length)
 |.slice _,.sl xs _=>k (.i xs.length)
 |.slice _,.oa _ _ len=>k (.i len)
 |.slice _,.ob _ _ len _ _=>k (.i len)
 |_,_=>False
def OH(k:AV→Prop)(b:Blk):Prop:=match b with
 |.mp m=>k (.i m.length)
 |_=>False
@[congr] theorem RW{b b' :Blk}(e:b=b'):OH k b=OH k b' :=by rw[e]
def RX(h:Heap)(y:AV)(k:AV→Prop)(tk:TK):Prop:=match tk,y with
 |.map _ _,.mp id=>aE (h id) (OH k)
 |tk,y=>xl y k tk
@[go_sem↓] theorem UY(y:AV):RX h y k .str=xl y k .str:=rfl
@[go_sem↓] theorem RY(y:AV)(e:TypeId):RX h y k (.slice e)=xl y k (.slice e):=rfl
@[go_sem↓] theorem Wy(i o l c s:Nat)(e:TypeId):xl (.ob i o l c s) k (.slice e)=k (.i l):=rfl
@[go_sem↓] theorem Xx(l:List UInt8):xl (.s l) k .str=k (.i l.length):=rfl
@[go_sem↓] theorem Wz(xs:List AV)(q:Perm)(e:TypeId):xl (.sl xs q) k (.slice e)=k (.i xs.length):=rfl
@[go_sem↓] theorem aaO(x:Operand)(ty:TypeId):bf P U ρ h ⟨d,.call ⟨.builtin .len, #[x], #[ty]⟩,t,p,a,g⟩ Q=aE (ev ρ x) fun y=>atK (U ty).k (RX h y (atH Q h)):=by
 simp only[bf,pv,pvB,bV,atK]
 congr 1
 funext y
 cases (U ty).k with
 |map a b=>
  cases y with
  |mp id=>
   show(match h id with
    |some (.mp m)=>Q (.i m.length) h
    |_=>False)=aE (h id) (OH (atH Q h))
   exact ahp
  |_=>rfl
 |_=>cases y<;>rfl
def Ud(y:AV)(k:AV→Prop)(tk:TK):Prop:=match tk,y with
 |.slice _,.sl xs .full=>k (.i xs.length)
 |.slice _,.ob _ _ _ cap _=>k (.i cap)
 |_,_=>False
@[go_sem↓] theorem VZ(i o l c s:Nat)(e:TypeId):Ud (.ob i o l c s) k (.slice e)=k (.i c):=rfl
@[go_sem↓] theorem aaN(x:Operand)(ty:TypeId):bf P U ρ h ⟨d,.call ⟨.builtin .cap, #[x], #[ty]⟩,t,p,a,g⟩ Q=aE (ev ρ x) fun y=>atK (U ty).k (Ud y (atH Q h)):=by
 simp only[bf,pv,pvB,bV,atK]
 congr 1
@[congr] theorem R3{ys ys' :List AV}(e:ys=ys'):DX ys k=DX ys' k:=by rw[e]
@[congr] theorem R0{ys ys' :List AV}(e:ys=ys'):z8 ys k=z8 ys' k:=by rw[e]
@[go_sem] theorem U1(x:IntKind)(i j:Int):DX [.v (.int x i),.v (.int x j)] k=k (.v (.int x (if j<i then j else i))):=by simp[DX]
@[go_sem] theorem U0(x:IntKind)(i j:Int):z8 [.v (.int x i),.v (.int x j)] k=k (.v (.int x (if i<j then j else i))):=by simp[z8]
@[congr] theorem Qt{ys ys' :List AV}(e:ys=ys'):zu ys k=zu ys' k:=by rw[e]
@[congr] theorem Qf{ys ys' :List AV}(e:ys=ys'):yE ys k=yE ys' k:=by rw[e]
@[congr] theorem P6{ys ys' :List AV}(e:ys=ys'):xZ ys k=xZ ys' k:=by rw[e]
@[go_sem↓] theorem Ve(x:FloatKind)(i j:Nat):zu [.v (.complex x i j)] k=k (.v (.float x i)):=rfl
@[go_sem↓] theorem UO(x:FloatKind)(i j:Nat):yE [.v (.complex x i j)] k=k (.v (.float x j)):=rfl
@[go_sem] theorem Uk(x y:FloatKind)(i j:Nat):xZ [.v (.float x i),.v (.float y j)] k=(x=y∧k (.v (.complex x i j))):=rfl
theorem Gc{x y:FloatKind}{i j:Nat}{r:Value}(h:∀(P:Program) (ts:Array TypeId) (ty:TypeId) (w:World),(Builtin.max_ ts ty #[.float x i,.float y j]).run P w= .ok r w)(k:AV→Prop):z8 [.v (.float x i),.v (.float y j)] k=k (.v r):=propext ⟨fun⟨r',h',hk⟩=>by
 have e:=(h default #[] 0 default).symm.trans (h' default #[] 0 default);cases e;exact hk,fun hk=>⟨r,h,hk⟩⟩
@[go_sem↓] theorem XI(args:List Operand)(ts:Array TypeId):bf P U ρ h ⟨d,.call ⟨.builtin .real,args.toArray,ts⟩,t,p,a,g⟩ Q=aE (evs ρ args) fun ys=>zu ys (atH Q h):=by
 simp only[bf,pv,pvB,gH];rfl
@[go_sem↓] theorem XE(args:List Operand)(ts:Array TypeId):bf P U ρ h ⟨d,.call ⟨.builtin .imag,args.toArray,ts⟩,t,p,a,g⟩ Q=aE (evs ρ args) fun ys=>yE ys (atH Q h):=by
 simp only[bf,pv,pvB,gH];rfl
@[go_sem↓] theorem TF(args:List Operand)(ts:Array TypeId):bf P U ρ h ⟨d,.call ⟨.builtin .complex,args.toArray,ts⟩,t,p,a,g⟩ Q=aE (evs ρ args) fun ys=>xZ ys (atH Q h):=by
 simp only[bf,pv,pvB,gH];rfl
@[go_sem↓] theorem aaQ(args:List Operand)(ts:Array TypeId):bf P U ρ h ⟨d,.call ⟨.builtin .min,args.toArray,ts⟩,t,p,a,g⟩ Q=aE (evs ρ args) fun ys=>DX ys (atH Q h):=by
 simp only[bf,pv,pvB,gH];rfl
@[go_sem↓] theorem aaP(args:List Operand)(ts:Array TypeId):bf P U ρ h ⟨d,.call ⟨.builtin .max,args.toArray,ts⟩,t,p,a,g⟩ Q=aE (evs ρ args) fun ys=>z8 ys (atH Q h):=by
 simp only[bf,pv,pvB,gH];rfl
@[congr] theorem Sn{e:TypeId}{y y' :AV}{f:List AV→Prop}(h1:y=y'):iD U e h y f=iD U e h y' f:=by rw[h1]
@[go_sem↓] theorem WR(e:TypeId)(ys:List AV)(q:Perm)(f:List AV→Prop):iD U e h (.sl ys q) f=f ys:=rfl
@[go_sem↓] theorem So(e:TypeId)(l:List UInt8)(f:List AV→Prop):iD U e h (.s l) f=((U e).k= .int .u8∧(U e).sz=1∧f (l.map aK)):=rfl
def apK(U:TypeId→TI)(h:Heap)(x y:AV)(Q:AV→Heap→Prop)(tk:TK):Prop:=match tk,x with
 |.slice e,.sl xs .full=>(U e).sz≠0∧(U e).bytes≠0∧iD U e h y fun ys=>Sized (U e).sz xs∧Sized (U e).sz ys∧(xs.length+ys.length)*(U e).bytes≤140737488355328∧
   sk U h xs ys e Q
 |.slice e,.sl xs (.own id)=>(U e).sz≠0∧(U e).bytes≠0∧iD U e h y fun ys=>Sized (U e).sz xs∧Sized (U e).sz ys∧(xs.length+ys.length)*(U e).bytes≤140737488355328∧
   h id=some (.spare xs.length (U e).sz)∧Q (.sl (xs++ys) (.own id)) (upd h id (some (.spare (xs.length+ys.length) (U e).sz)))
 |.slice e,.oa id off len=>(U e).sz≠0∧(U e).bytes≠0∧(U e).sz=1∧iD U e h y fun ys=>Sized 1 ys∧(∀z∈ys,bA z=false)∧(len+ys.length)*(U e).bytes≤140737488355328∧aE (h id) fun b=>qc b fun cs t=>
   off+len≤cs.length∧(∀z∈(cs.drop off).take len,bA z=false)∧fit (U e).zero 1∧bA (U e).zero=false∧
     (off+(len+ys.length)≤cs.length→Q (.oa id off (len+ys.length)) (upd h id (some (.obj (over cs (off+len) ys) t))))∧
     (∀id' m,h id' =none→Q (.oa id' 0 (len+ys.length)) (upd h id' (some (.obj ((cs.drop off).take len++ys++List.replicate m (U e).zero) e))))
 |.slice e,.ob id off len cap sz=>(U e).sz≠0∧(U e).bytes≠0∧sz=(U e).sz∧iD U e h y fun ys=>Sized (U e).sz ys∧(len+ys.length)*(U e).bytes≤140737488355328∧aE (h id) fun b=>qc b fun cs t=>
   off+len*(U e).sz≤cs.length∧fit (U e).zero (U e).sz∧
     (len+ys.length≤cap→Q (.ob id off (len+ys.length) cap (U e).sz) (upd h id (some (.obj (over cs (off+len*(U e).sz) (au ys)) t))))∧
     (cap<len+ys.length→j9 h ((cs.drop off).take (len*(U e).sz)++au ys) (len+ys.length) (U e).sz e Q)
 |_,_=>False
@[go_sem↓] theorem qk(xs:List AV)(y:AV)(e:TypeId):apK U h (.sl xs .full) y Q (.slice e)=((U e).sz≠0∧(U e).bytes≠0∧iD U e h y fun ys=>Sized (U e).sz xs∧Sized (U e).sz ys∧(xs.length+ys.length)*(U e).bytes≤140737488355328∧
   sk U h xs ys e Q):=rfl
@[go_sem↓] theorem BX(xs:List AV)(y:AV)(id:Nat)(e:TypeId):apK U h (.sl xs (.own id)) y Q (.slice e)=((U e).sz≠0∧(U e).bytes≠0∧iD U e h y fun ys=>Sized (U e).sz xs∧Sized (U e).sz ys∧(xs.length+ys.length)*(U e).bytes≤140737488355328∧
   h id=some (.spare xs.length (U e).sz)∧Q (.sl (xs++ys) (.own id)) (upd h id (some (.spare (xs.length+ys.length) (U e).sz)))):=rfl
theorem EX(ts:TypeId)(x y:AV):rB U h ts x y Q=atK (U ts).k (apK U h x y Q):=by
 unfold rB atK;cases (U ts).k with
 |slice e=>
  cases x with
  |sl xs q=>
   cases q with
   |no=>
    simp only[apK];apply propext;constructor
    ·rintro⟨_,_,hk⟩
     obtain⟨ys,hh,_⟩:∃ys:List AV,(Sized (U e).sz xs∧Sized (U e).sz ys∧(xs.length+ys.length)*(U e).bytes≤140737488355328∧False)∧True:=by
      unfold iD at hk
      grind
     grind
    simp
   |full=>
    rfl
   |own id=>rfl
  |oa id off len=>
   refine congrArg (fun q=>(U e).sz≠0∧(U e).bytes≠0∧(U e).sz=1∧q) (congrArg (fun f=>iD U e h y f) (funext fun ys=>?_))
   exact ahp
  |ob id off len cap sz=>
   refine congrArg (fun q=>(U e).sz≠0∧(U e).bytes≠0∧sz=(U e).sz∧q) (congrArg (fun f=>iD U e h y f) (funext fun ys=>?_))
   exact ahp
  |_=>simp[apK]
 |_=>rfl
@[go_sem↓] theorem S5(e:TypeId)(A B:Prop):apT A B (.slice e)=A:=rfl
@[go_sem↓] theorem VT(A B:Prop):apT A B .str=A:=rfl
@[go_sem↓] theorem VS(x:IntKind)(A B:Prop):apT A B (.int x)=B:=rfl
def NX(U:TypeId→TI)(h:Heap)(x y:AV)(Q:AV→Heap→Prop)(tk:TK):Prop:=match tk,x,y with
 |.slice e,.ob id off len cap sz,.v (.int _ n)=>(U e).sz≠0∧(U e).bytes≠0∧sz=(U e).sz∧0<n∧(len+n.toNat)*(U e).bytes≤140737488355328∧fit (U e).zero (U e).sz∧cap<len+n.toNat∧aE (h id) fun b=>qc b fun cs _=>
   off+len*(U e).sz≤cs.length∧j9 h ((cs.drop off).take (len*(U e).sz)++cJ (U e).zero n.toNat (U e).sz) (len+n.toNat) (U e).sz e Q
 |_,_,_=>False
@[go_sem↓] theorem VU(id off len cap sz:Nat)(x:IntKind)(n:Int)(e:TypeId):NX U h (.ob id off len cap sz) (.v (.int x n)) Q (.slice e)=((U e).sz≠0∧(U e).bytes≠0∧sz=(U e).sz∧0<n∧(len+n.toNat)*(U e).bytes≤140737488355328∧fit (U e).zero (U e).sz∧cap<len+n.toNat∧aE (h id) fun b=>qc b fun cs _=>
   off+len*(U e).sz≤cs.length∧j9 h ((cs.drop off).take (len*(U e).sz)++cJ (U e).zero n.toNat (U e).sz) (len+n.toNat) (U e).sz e Q):=rfl
theorem Nq(ts:TypeId)(x y:AV):EY U h ts x y Q=atK (U ts).k (NX U h x y Q):=by
 unfold EY atK;cases (U ts).k with
 |slice e=>
  cases x with
  |ob id off len cap sz=>
   cases y with
   |v u=>
    cases u with
    |int k n=>
     simp only[NX];exact ahp
    |_=>rfl
   |_=>rfl
  |_=>rfl
 |_=>rfl
@[go_sem↓] theorem U8(x y:Operand)(t1 t2:TypeId):bf P U ρ h ⟨d,.call ⟨.builtin .append, #[x,y], #[t1,t2]⟩,t,p,a,g⟩ Q=aE (ev ρ x) fun u=>aE (ev ρ y) fun v=>atK (U t2).k (apT (atK (U t1).k (apK U h u v Q)) (atK (U t1).k (NX U h u v Q))):=by
 simp[bf,bV,EX,Nq,atK]
def alU(U:TypeId→TI)(h:Heap)(ty:TypeId)(Q:AV→Heap→Prop)(b:Bool):Prop:=match b with
 |true=>KJ h (.obj [] ty) Q
 |false=>(U ty).sz≠0∧fit (U ty).zero (U ty).sz∧KJ h (.obj (U ty).zero.cells ty) Q
@[go_sem↓] theorem aar(ty:TypeId):alU U h ty Q true=KJ h (.obj [] ty) Q:=rfl
@[go_sem↓] theorem aaq(ty:TypeId):alU U h ty Q false=((U ty).sz≠0∧fit (U ty).zero (U ty).sz∧KJ h (.obj (U ty).zero.cells ty) Q):=rfl
@[go_sem↓] theorem WD(ty:TypeId):bf P U ρ h ⟨d,.alloc ty,t,p,a,g⟩ Q=alU U h ty Q (isUnit (U ty).k):=by
 simp only[bf];cases isUnit (U ty).k<;>rfl
@[go_sem↓] theorem aaM(ty:TypeId)(x:Operand):bf P U ρ h ⟨d,.box ty x,t,p,a,g⟩ Q=((U ty).sz≠0∧aE (ev ρ x) fun y=>fit y (U ty).sz∧KJ h (.obj y.cells ty) Q):=by
 simp only[bf,bV];rfl
def stA(U:TypeId→TI)(h:Heap)(ty:TypeId)(q y:AV)(Q:AV→Heap→Prop):Prop:=match q with
 |.ptr id off=>aE (h id) fun b=>qc b fun cs t' =>fit y (U ty).sz∧off+(U ty).sz≤cs.length∧Q (.v undef) (upd h id (some (.obj (over cs off y.cells) t')))
 |_=>False
@[congr] theorem TN{ty:TypeId}{q q' y y' :AV}(e1:q=q')(e2:y=y'):stA U h ty q y Q=stA U h ty q' y' Q:=by grind
@[go_sem↓] theorem WS(ty:TypeId)(id off:Nat)(y:AV):stA U h ty (.ptr id off) y Q=aE (h id) fun b=>qc b fun cs t' =>fit y (U ty).sz∧off+(U ty).sz≤cs.length∧Q (.v undef) (upd h id (some (.obj (over cs off y.cells) t'))):=rfl
def utA(h:Heap)(u y:AV)(Q:AV→Heap→Prop):Prop:=y= .agg []∧match u with
 |.ptr .. =>Q (.v undef) h
 |_=>False
@[congr] theorem TS{u u' y y' :AV}(e1:u=u')(e2:y=y'):utA h u y Q=utA h u' y' Q:=by grind
@[go_sem↓] theorem X1(i o:Nat):utA h (.ptr i o) (.agg []) Q=Q (.v undef) h:=by simp[utA]
def stU(U:TypeId→TI)(ρ:Env)(h:Heap)(ty:TypeId)(q x:Operand)(Q:AV→Heap→Prop)(b:Bool):Prop:=match b with
 |true=>aE (ev ρ q) fun u=>aE (ev ρ x) fun y=>utA h u y Q
 |false=>(U ty).sz≠0∧aE (ev ρ q) fun u=>aE (ev ρ x) fun y=>stA U h ty u y Q
@[go_sem↓] theorem aaV(ty:TypeId)(q x:Operand):stU U ρ h ty q x Q true=aE (ev ρ q) fun u=>aE (ev ρ x) fun y=>utA h u y Q:=rfl
@[go_sem↓] theorem aaU(ty:TypeId)(q x:Operand):stU U ρ h ty q x Q false=((U ty).sz≠0∧aE (ev ρ q) fun u=>aE (ev ρ x) fun y=>stA U h ty u y Q):=rfl
@[go_sem↓] theorem WK(ty:TypeId)(q x:Operand):bf P U ρ h ⟨d,.store ty q x,t,p,a,g⟩ Q=stU U ρ h ty q x Q (isUnit (U ty).k):=by
 simp only[bf,bV];cases isUnit (U ty).k
 case true=>rfl
 simp only[stU,Bool.false_eq_true,if_false]
 congr 1
 congr 1
 funext u
 congr 1
 funext y
 cases u<;>simp only[stA]
 rename_i id off
 exact ahp
def ni(xs:List AV)(h:Heap)(Q:AV→Heap→Prop):Prop:=∃y h',Weak (ax xs) y∧Sub h' h∧Q y h'
@[congr] theorem PV{xs xs' :List AV}{h h' :Heap}{Q:AV→Heap→Prop}(e1:xs=xs')(e2:h=h'):ni xs h Q=ni xs' h' Q:=by grind
@[go_sem↓] theorem S9(rs:List ResultVar):vP U rs Q .ret ρ h=sQ ρ h U rs fun xs=>ni xs h Q:=by simp[vP,ni]
@[go_sem↓] theorem N2(rs:List ResultVar):vP U rs Q .normal ρ h=sQ ρ h U rs fun xs=>ni xs h Q:=by simp[vP,ni]
@[go_sem↓] theorem Vf(f:List AV→Prop):sQ ρ h U [] f=f []:=rfl
@[go_sem↓] theorem Vg(i:Tmp)(r:List ResultVar)(f:List AV→Prop):sQ ρ h U (.tmp i::r) f=aE (lk ρ i) fun x=>sQ ρ h U r fun xs=>f (x::xs):=by
 simp only[sQ];cases lk ρ i<;>rfl
def C1(U:TypeId→TI)(h:Heap)(ty:TypeId)(y:AV)(k:AV→Prop):Prop:=match y with
 |.ptr id off=>aE (h id) fun b=>qc b fun cs _=>(U ty).sz≠0∧(U ty).k≠ .other∧iA cs off (U ty) k
 |_=>False
@[congr] theorem P4{ty:TypeId}{y y' :AV}(e:y=y'):C1 U h ty y k=C1 U h ty y' k:=by rw[e]
@[go_sem↓] theorem Ta(ty:TypeId)(id off:Nat):C1 U h ty (.ptr id off) k=aE (h id) fun b=>qc b fun cs _=>(U ty).sz≠0∧(U ty).k≠ .other∧iA cs off (U ty) k:=rfl
@[go_sem↓] theorem TL(i:Tmp)(ty:TypeId)(r:List ResultVar)(f:List AV→Prop):sQ ρ h U (.cell i ty::r) f=aE (lk ρ i) fun y=>C1 U h ty y fun x=>sQ ρ h U r fun xs=>f (x::xs):=by
 simp only[sQ];cases lk ρ i with
 |none=>rfl
 |some y=>
  cases y<;>simp only[dF,C1]
  rename_i id off
  exact ahp
theorem ni.mk{xs:List AV}{h h' :Heap}{Q:AV→Heap→Prop}(y:AV)(hw:Weak (ax xs) y)(hs:Sub h' h)(hq:Q y h'):ni xs h Q:=⟨y,h',hw,hs,hq⟩
theorem ni.same{xs:List AV}{h h' :Heap}{Q:AV→Heap→Prop}(hs:Sub h' h)(hq:Q (ax xs) h'):ni xs h Q:=⟨_,h',.refl _,hs,hq⟩
theorem Sub.refl(h:Heap):Sub h h:=fun _ _ e=>e
theorem Sub.trans{a b c:Heap}(h1:Sub a b)(h2:Sub b c):Sub a c:=fun i k e=>h2 i k (h1 i k e)
theorem Sub.new{a b:Heap}(hs:Sub a b){id:Nat}(hid:b id=none)(k:Option Blk):Sub a (Ab.upd b id k):=fun j l e=>by
 by_cases ej:j=id
 ·subst ej;rw[hs _ _ e]at hid;grind
 ·rw[ag _ _ ej];exact hs _ _ e
theorem Sub.none{a b:Heap}(hs:Sub a b){id:Nat}(hid:b id=none):a id=none:=by
 cases hh:a id with
 |none=>rfl
 |some k=>rw[hs _ _ hh]at hid;omega
theorem ai.body(hU:∀t,aO P U t)(hm:P.follows .mixedOrders=true){f:FuncId}{fn:Func}{c:Code}{args:List AV}{h:Heap}{Q:AV→Heap→Prop}(hf:P.funcs[f]? =some fn)(hb:fn.body=some c)
  (hn : (fn.name == "runtime.NumGoroutine") = false) (m : Nat) (hm' : fn.ntmps = m) (rs : List ResultVar) (hr : fn.results.toList = rs) (hl : args.length ≤ m)
  (hk:(∀x∈args,wfA x)→bF P U m c (yh args) h (vP U rs Q)):ai P f args h Q:=by
 subst hm';subst hr
 exact ai.Vb hU hm hf hb hn hl hk
end
section
variable {P : Program} {U : TypeId → TI} {n : Nat} {ρ : Env} {h : Heap}
variable {d : Option Tmp} {t : TypeId} {p : String} {a : Array Edge} {g : Option (Nat × Bool)} {Q : AV → Heap → Prop} {k : AV → Prop}
def dsts(n:Nat):List Oper→Bool
 | []=>true
 |o::os=>dU n o.dst && dsts n os
theorem oT(l:List Oper):dsts n l=l.all fun o=>dU n o.dst:=by induction l with
 |nil=>rfl
 |cons o os ih=>grind [dsts]
@[go_sem] theorem Uv:(dsts n []=true)=True:=by simp[dsts]
@[go_sem] theorem Ti(o:Oper)(os:List Oper):(dsts n (o::os)=true)=(dU n o.dst=true∧dsts n os=true):=by simp[dsts]
def CL(ops:Array Oper):Prop:=yP ops=true
theorem CL.of{ops:Array Oper}(h:yP ops=true):CL ops:=h
def Fv(k:AV→Prop)(x:AV)(_:Heap):Prop:=k x
@[go_sem↓] theorem Te(x:AV):Fv k x h=k x:=rfl
def KDr(P:Program)(U:TypeId→TI)(n:Nat)(all os:List Oper)(h:Heap)(K:Env→Prop)(ρ:Env)(d:Option Tmp)(x:AV):Prop:=lS P U n all os (put ρ d x) h K
@[go_sem↓] theorem WY(all os:List Oper)(K:Env→Prop)(x:AV):KDr P U n all os h K ρ d x=lS P U n all os (put ρ d x) h K:=rfl
def atN(K:Exit→Env→Heap→Prop)(h:Heap)(ρ:Env):Prop:=K .normal ρ h
@[go_sem↓] theorem W6(K:Exit→Env→Heap→Prop):atN K h ρ=K .normal ρ h:=rfl
def KG(ops:Array Oper):Prop:=L8 ops=true
theorem KG.of{ops:Array Oper}(h:L8 ops=true):KG ops:=h
attribute [go_sem] Bool.not_false Bool.not_true Cj Option.isNone_none Option.isNone_some Bool.and_true Bool.true_and Bool.and_false Bool.false_and List.dropLast_singleton
@[go_sem] theorem F8(o o' :Oper)(r:List Oper):rY (o::o' ::r)=rY (o' ::r):=rfl
@[go_sem] theorem zY(o o' :Oper)(r:List Oper):(o::o' ::r).dropLast=o::(o' ::r).dropLast:=rfl
@[go_sem↓] theorem Tw(o:Oper)(K:Env→Heap→Prop):pV P U [o] h K ρ=bf P U ρ h o (fun X h' =>K (put ρ o.dst X) h'):=rfl
@[go_sem↓] theorem RV(o o' :Oper)(r:List Oper)(K:Env→Heap→Prop):pV P U (o::o' ::r) h K ρ=pV P U (o' ::r) h K ρ:=rfl
def Iz(l:List Oper)(k:List Oper→Prop):Prop:=k l
@[congr] theorem QB{l l' :List Oper}{k:List Oper→Prop}(e:l=l'):Iz l k=Iz l' k:=by rw[e]
@[go_sem] theorem SE(o:Oper)(r:List Oper)(k:List Oper→Prop):Iz (o::r) k=k (o::r):=rfl
section
variable (l : List Oper)
@[go_sem] theorem Ss:nY []=true:=rfl
@[go_sem] theorem EP(o:Oper):nY (o::l)=(!cO o.op && nY l):=rfl
end
section
variable (x y z : Operand) (ty ty' : TypeId)
@[go_sem] theorem Tm:cO (.move x)=false:=rfl
@[go_sem] theorem Qb:cO (.assign x)=false:=rfl
@[go_sem] theorem Tn:cO (.pick x y z)=false:=rfl
@[go_sem] theorem NH:cO (.nilCheck x)=false:=rfl
@[go_sem] theorem Rt(op:BinOp):cO (.binOp op ty x y ty')=false:=rfl
@[go_sem] theorem To(op:UnOp):cO (.unOp op ty x)=false:=rfl
@[go_sem] theorem Of:cO (.convert ty ty' x)=false:=rfl
@[go_sem] theorem Og(f:Nat):cO (.extract x f)=false:=rfl
@[go_sem] theorem Rv:cO (.index ty x y)=false:=rfl
@[go_sem] theorem Lr(f:Nat):cO (.fieldAddr ty x f)=false:=rfl
@[go_sem] theorem Ls:cO (.indexAddr ty x y)=false:=rfl
@[go_sem] theorem Tl:cO (.load ty x)=false:=rfl
@[go_sem] theorem Rw(lo hi mx:Option Operand):cO (.slice ty x lo hi mx)=false:=rfl
@[go_sem] theorem KD(m:Nat)(ps:Array (Nat×Operand)):cO (.buildSlice ty m ps)=false:=rfl
@[go_sem] theorem Ru(ps:Array (Nat×Operand)):cO (.build ty ps)=false:=rfl
@[go_sem] theorem Uw(aa:Array Operand)(ts:Array TypeId):cO (.call ⟨.builtin .len,aa,ts⟩)=false:=rfl
@[go_sem] theorem Tj(aa:Array Operand)(ts:Array TypeId):cO (.call ⟨.value x,aa,ts⟩)=true:=rfl
@[go_sem] theorem Qa(aa:Array Operand)(ts:Array TypeId):cO (.call ⟨.builtin .append,aa,ts⟩)=true:=rfl
@[go_sem] theorem Tk(aa:Array Operand)(ts:Array TypeId):cO (.call ⟨.builtin .copy,aa,ts⟩)=true:=rfl
@[go_sem] theorem Rs:cO (.alloc ty)=true:=rfl
@[go_sem] theorem Rx:cO (.store ty x y)=true:=rfl
end
def ng(P:Program)(U:TypeId→TI)(n:Nat)(l:List Oper)(ρ:Env)(h:Heap)(K:Exit→Env→Heap→Prop):Prop:=QA P U n l.toArray ρ h (K .normal)
theorem ng.quiet{l:List Oper}{K:Exit→Env→Heap→Prop}(hB:yP l.toArray=true)(hk:dsts n l=true∧lS P U n l l ρ h (atN K h)):ng P U n l ρ h K:=
 ⟨by grind [oT],.inl ⟨hB,hk.2⟩⟩
theorem ng.calls{l:List Oper}{K:Exit→Env→Heap→Prop}(hm:Heap)(os:List Nat)(hs:Sub hm h)(hB:jV .any l.toArray os (Array.replicate l.toArray.size false)=true)(hl:os.length=l.toArray.size)
  (hk:dsts n l=true∧dP P U n l hm os ρ h (K .normal)):ng P U n l ρ h K:=
 ⟨by grind [oT],.inr (.inl ⟨hm,.seq os,_,hs,hB,hl,hk.2,fun _ _ h=>h⟩)⟩
def Q2(P:Program)(U:TypeId→TI)(n:Nat)(l:List Oper)(o2:List Nat)(K:Exit→Env→Heap→Prop)(ρ:Env)(h:Heap):Prop:=∃hm2,Sub hm2 h∧dP P U n l hm2 o2 ρ h (K .normal)
theorem ng.tree{l:List Oper}{K:Exit→Env→Heap→Prop}(hm:Heap)(t:Ord)(hs:Sub hm h)(hB:qT .any l.toArray t (Array.replicate l.toArray.size false)=true)(hl:t.len=l.toArray.size)
  (hk:dsts n l=true∧ko P U n l hm t ρ h (K .normal)):ng P U n l ρ h K:=
 ⟨by grind [oT],.inr ac1⟩
theorem ng.stage{l:List Oper}{K:Exit→Env→Heap→Prop}(hm:Heap)(o1 o2:List Nat)(hs:Sub hm h)(hB:xJ .any l.toArray o1 o2=true)
  (hk:dsts n l=true∧dP P U n l hm o1 ρ h (Q2 P U n l o2 K)):ng P U n l ρ h K:=
 ⟨by grind [oT],.inr (.inr (.inl ⟨hm,o1,o2,hs,hB,hk.2⟩))⟩
def G0(P:Program)(U:TypeId→TI)(l:List Oper)(K:Exit→Env→Heap→Prop)(ρ:Env)(h:Heap):Prop:=pV P U l h (K .normal) ρ
@[go_sem↓] theorem SX(o:Oper)(K:Exit→Env→Heap→Prop):G0 P U [o] K ρ h=bf P U ρ h o (fun X h' =>K .normal (put ρ o.dst X) h'):=rfl
@[go_sem↓] theorem QV(o o' :Oper)(r:List Oper)(K:Exit→Env→Heap→Prop):G0 P U (o::o' ::r) K ρ h=G0 P U (o' ::r) K ρ h:=rfl
theorem ng.last{l:List Oper}{K:Exit→Env→Heap→Prop}(hm:Heap)(os:List Nat)(hs:Sub hm h)(hz:xw .any l.toArray os.length=true)(hg:(l.getLast?.map fun o=>o.guard.isNone)=some true)(hB:vn .any l.toArray os.length os (Array.replicate l.toArray.size false)=true)(hl:os.length+1=l.toArray.size)
  (hk:dsts n l=true∧dP P U n l hm os ρ h (G0 P U l K)):ng P U n l ρ h K:=
 ⟨by grind [oT],.inr (.inr (.inr (.inl ⟨hm,.seq os,hs,hz,hg,hB,hl,hk.2⟩)))⟩
def vL(P:Program)(U:TypeId→TI)(n:Nat)(l:List Oper)(ρ:Env)(h:Heap)(K:Exit→Env→Heap→Prop)(b:Bool)(e:Bool):Prop:=match b,e with
 |true,_=>KG l.toArray∧dsts n l=true∧lS P U n l l.dropLast ρ h (pV P U l h (K .normal))
 |false,true=>CL l.toArray∧dsts n l=true∧lS P U n l l ρ h (atN K h)
 |false,false=>ng P U n l ρ h K
@[congr] theorem PM{l:List Oper}{K:Exit→Env→Heap→Prop}{b b' e e' :Bool}(h1:b=b')(h2:e=e'):vL P U n l ρ h K b e=vL P U n l ρ h K b' e' :=by grind
@[go_sem↓] theorem QH(l:List Oper)(K:Exit→Env→Heap→Prop)(e:Bool):vL P U n l ρ h K true e=(KG l.toArray∧dsts n l=true∧Iz l.dropLast fun l' =>lS P U n l l' ρ h (pV P U l h (K .normal))):=by rfl
@[go_sem↓] theorem PN(l:List Oper)(K:Exit→Env→Heap→Prop):vL P U n l ρ h K false true=(CL l.toArray∧dsts n l=true∧lS P U n l l ρ h (atN K h)):=rfl
@[go_sem↓] theorem SI(l:List Oper)(K:Exit→Env→Heap→Prop):vL P U n l ρ h K false false=ng P U n l ρ h K:=rfl
def sS(l:List Oper):Bool:=rY l && nY l.dropLast
@[go_sem] theorem Sr(o:Oper):sS [o]=(Cj o.op && o.guard.isNone):=by simp[sS,rY,nY]
@[go_sem] theorem Qw(o o' :Oper)(r:List Oper):sS (o::o' ::r)=(!cO o.op && sS (o' ::r)):=by
 grind [sS,F8,zY,EP,cO]
@[go_sem↓] theorem XP(id:Nat)(l:List Oper)(K:Exit→Env→Heap→Prop):bF P U n (.region id l.toArray true) ρ h K=vL P U n l ρ h K (sS l) (nY l):=by
 simp only[bF,if_true,sS];cases hb:(rY l && nY l.dropLast)with
 |true=>
  simp[if_true,Bool.and_eq_true,vL,KG,oT,and_assoc]
 |false=>
  cases he:nY l with
  |true=>
   simp only[Bool.false_eq_true,if_false,Bool.and_eq_true,vL,CL,oT,and_assoc,Bool.true_eq_false];rfl
  |false=>
   rfl
def sn(P:Program)(U:TypeId→TI)(n:Nat)(all:List Oper)(hm:Heap)(is:List Nat)(K:Env→Heap→Prop)(ρ:Env)(d:Option Tmp)(X:AV)(h:Heap):Prop:=dP P U n all hm is (put ρ d X) h K
@[go_sem↓] theorem VK(all:List Oper)(hm:Heap)(is:List Nat)(K:Env→Heap→Prop)(d:Option Tmp)(X:AV):sn P U n all hm is K ρ d X h=dP P U n all hm is (put ρ d X) h K:=rfl
def QM(P:Program)(U:TypeId→TI)(n:Nat)(all:List Oper)(hm:Heap)(is:List Nat)(K:Env→Heap→Prop)(ρ:Env)(d:Option Tmp)(X:AV)(h:Heap):Prop:=Sub hm h∧dP P U n all hm is (put ρ d X) h K
@[go_sem↓] theorem VL(all:List Oper)(hm:Heap)(is:List Nat)(K:Env→Heap→Prop)(d:Option Tmp)(X:AV):QM P U n all hm is K ρ d X h=(Sub hm h∧dP P U n all hm is (put ρ d X) h K):=rfl
@[go_sem↓] theorem aaL(all:List Oper)(hm:Heap)(K:Env→Heap→Prop):dP P U n all hm [] ρ h K=K ρ h:=rfl
def mW(P:Program)(U:TypeId→TI)(n:Nat)(all:List Oper)(hm:Heap)(is:List Nat)(K:Env→Heap→Prop)(ρ:Env)(h:Heap)(o:Oper)(e:Bool):Prop:=match e with
 |true=>bf P U ρ h o (QM P U n all hm is K ρ o.dst)
 |false=>pv U ρ hm o.op fun X=>dP P U n all hm is (put ρ o.dst X) h K
@[congr] theorem QY{all:List Oper}{hm:Heap}{is:List Nat}{K:Env→Heap→Prop}{o:Oper}{e e' :Bool}(he:e=e'):mW P U n all hm is K ρ h o e=mW P U n all hm is K ρ h o e' :=by rw[he]
def iV(k:AV→Heap→Prop)(h:Heap)(x:AV)(_:Heap):Prop:=k x h
@[go_sem↓] theorem Td(k:AV→Heap→Prop)(h h' :Heap)(x:AV):iV k h x h' =k x h:=rfl
@[go_sem↓] theorem S0(all:List Oper)(hm:Heap)(is:List Nat)(K:Env→Heap→Prop)(op:Op):mW P U n all hm is K ρ h ⟨d,op,t,p,a,g⟩ true=bf P U ρ h ⟨d,op,t,p,a,g⟩ (QM P U n all hm is K ρ d):=rfl
def notNil:Op→Bool
 |.binOp _ _ _ y _=> !Gj y
 |_=>true
theorem O2{hm:Heap}{op:Op}{k:AV→Heap→Prop}(h1:cO op=false)(h2:notNil op=true):bf P U ρ hm ⟨d,op,t,p,a,g⟩ (iV k h)=pv U ρ hm op fun X=>k X h:=by
 cases op with
 |call c=>
  obtain⟨cal,args,ts⟩:=c;cases cal with
  |value q=>grind [cO]
  |builtin b=>cases b<;>first|rfl|grind [cO]
  |_=>rfl
 |binOp op ty x y ty' =>
  simp only[notNil,Bool.not_eq_true']at h2;simp only[bf,h2];rfl
 |alloc=>grind [cO]
 |box=>grind [cO]
 |store=>grind [cO]
 |makeSlice=>grind [cO]
 |makeMap=>grind [cO]
 |mapUpdate=>grind [cO]
 |_=>rfl
theorem dQ{all:List Oper}{hm:Heap}{is:List Nat}{K:Env→Heap→Prop}{op:Op}(h1:cO op=false)(h2:notNil op=true):
  mW P U n all hm is K ρ h ⟨d,op,t,p,a,g⟩ false=bf P U ρ hm ⟨d,op,t,p,a,g⟩ (iV (sn P U n all hm is K ρ d) h):=by
 rw[O2 h1 h2];rfl
section
variable (all : List Oper) (hm : Heap) (is : List Nat) (K : Env → Heap → Prop) (x y z : Operand) (ty ty' : TypeId)
@[go_sem↓] theorem SZ:mW P U n all hm is K ρ h ⟨d,.move x,t,p,a,g⟩ false=bf P U ρ hm ⟨d,.move x,t,p,a,g⟩ (iV (sn P U n all hm is K ρ d) h):=dQ rfl rfl
@[go_sem↓] theorem PU:mW P U n all hm is K ρ h ⟨d,.assign x,t,p,a,g⟩ false=bf P U ρ hm ⟨d,.assign x,t,p,a,g⟩ (iV (sn P U n all hm is K ρ d) h):=dQ rfl rfl
@[go_sem↓] theorem NF:mW P U n all hm is K ρ h ⟨d,.nilCheck x,t,p,a,g⟩ false=bf P U ρ hm ⟨d,.nilCheck x,t,p,a,g⟩ (iV (sn P U n all hm is K ρ d) h):=dQ rfl rfl
@[go_sem↓] theorem NQ(f:Nat):mW P U n all hm is K ρ h ⟨d,.extract x f,t,p,a,g⟩ false=bf P U ρ hm ⟨d,.extract x f,t,p,a,g⟩ (iV (sn P U n all hm is K ρ d) h):=dQ rfl rfl
@[go_sem↓] theorem KK(f:Nat):mW P U n all hm is K ρ h ⟨d,.fieldAddr ty x f,t,p,a,g⟩ false=bf P U ρ hm ⟨d,.fieldAddr ty x f,t,p,a,g⟩ (iV (sn P U n all hm is K ρ d) h):=dQ rfl rfl
@[go_sem↓] theorem KL:mW P U n all hm is K ρ h ⟨d,.indexAddr ty x y,t,p,a,g⟩ false=bf P U ρ hm ⟨d,.indexAddr ty x y,t,p,a,g⟩ (iV (sn P U n all hm is K ρ d) h):=dQ rfl rfl
@[go_sem↓] theorem SY:mW P U n all hm is K ρ h ⟨d,.load ty x,t,p,a,g⟩ false=bf P U ρ hm ⟨d,.load ty x,t,p,a,g⟩ (iV (sn P U n all hm is K ρ d) h):=dQ rfl rfl
@[go_sem↓] theorem QZ(lo hi mx:Option Operand):mW P U n all hm is K ρ h ⟨d,.slice ty x lo hi mx,t,p,a,g⟩ false=bf P U ρ hm ⟨d,.slice ty x lo hi mx,t,p,a,g⟩ (iV (sn P U n all hm is K ρ d) h):=dQ rfl rfl
@[go_sem↓] theorem KC(m:Nat)(ps:Array (Nat×Operand)):mW P U n all hm is K ρ h ⟨d,.buildSlice ty m ps,t,p,a,g⟩ false=bf P U ρ hm ⟨d,.buildSlice ty m ps,t,p,a,g⟩ (iV (sn P U n all hm is K ρ d) h):=dQ rfl rfl
@[go_sem↓] theorem QX(ps:Array (Nat×Operand)):mW P U n all hm is K ρ h ⟨d,.build ty ps,t,p,a,g⟩ false=bf P U ρ hm ⟨d,.build ty ps,t,p,a,g⟩ (iV (sn P U n all hm is K ρ d) h):=dQ rfl rfl
@[go_sem↓] theorem T3(aa:Array Operand)(ts:Array TypeId):mW P U n all hm is K ρ h ⟨d,.call ⟨.builtin .len,aa,ts⟩,t,p,a,g⟩ false=bf P U ρ hm ⟨d,.call ⟨.builtin .len,aa,ts⟩,t,p,a,g⟩ (iV (sn P U n all hm is K ρ d) h):=dQ rfl rfl
@[go_sem↓] theorem QW(op:BinOp)(w:Tmp):mW P U n all hm is K ρ h ⟨d,.binOp op ty x (.tmp w) ty',t,p,a,g⟩ false=bf P U ρ hm ⟨d,.binOp op ty x (.tmp w) ty',t,p,a,g⟩ (iV (sn P U n all hm is K ρ d) h):=dQ rfl rfl
@[go_sem↓] theorem NP(op:BinOp)(ik:IntKind)(im:Int):mW P U n all hm is K ρ h ⟨d,.binOp op ty x (.const (.int ik im)) ty',t,p,a,g⟩ false=bf P U ρ hm ⟨d,.binOp op ty x (.const (.int ik im)) ty',t,p,a,g⟩ (iV (sn P U n all hm is K ρ d) h):=dQ rfl rfl
end
def QK(P:Program)(U:TypeId→TI)(n:Nat)(all:List Oper)(hm:Heap)(is:List Nat)(ρ:Env)(h:Heap)(K:Env→Heap→Prop)(w:Bool)(o:Oper)(s:Nat)(x:AV):Prop:=
 gB s w ρ (fun ρ=>mW P U n all hm is K ρ h o (cO o.op)) (fun ρ=>dP P U n all hm is (put ρ o.dst (.v undef)) h K) x
section
variable {all : List Oper} {hm : Heap} {is : List Nat} {K : Env → Heap → Prop} {o : Oper} {s : Nat}
end
def M3(P:Program)(U:TypeId→TI)(n:Nat)(all:List Oper)(hm:Heap)(is:List Nat)(ρ:Env)(h:Heap)(K:Env→Heap→Prop)(o:Oper):Prop:=match o.guard with
 |none=>mW P U n all hm is K ρ h o (cO o.op)
 |some (gi,w)=>aE (qx all gi) fun s=>aE (lk ρ s) (QK P U n all hm is ρ h K w o s)
@[go_sem↓] theorem Sq(all:List Oper)(hm:Heap)(is:List Nat)(K:Env→Heap→Prop)(op:Op):M3 P U n all hm is ρ h K ⟨d,op,t,p,a,none⟩=mW P U n all hm is K ρ h ⟨d,op,t,p,a,none⟩ (cO op):=rfl
@[go_sem↓] theorem Xu(all:List Oper)(hm:Heap)(i:Nat)(is:List Nat)(K:Env→Heap→Prop):dP P U n all hm (i::is) ρ h K=aE all[i]? (M3 P U n all hm is ρ h K):=by
 simp only[dP];cases all[i]? with
 |none=>rfl
 |some o=>
  simp only[dF,M3];have e:∀ρ',EZ P U hm o ρ' h (fun X h' =>dP P U n all hm is (put ρ' o.dst X) h' K)=mW P U n all hm is K ρ' h o (cO o.op):=fun ρ' =>by
   unfold EZ mW vcE;cases cO o.op<;>rfl
  cases hg:o.guard with
  |none=>simp only[jP];exact e ρ
  |some gg=>
   rw[uZ];simp only[e];rfl
@[congr] theorem SK{f f' :FuncId}{a a' :List AV}{hm:Heap}{k:AV→Prop}(h0:f=f')(h1:a=a'):FnQ P f a hm k=FnQ P f' a' hm k:=by grind
@[go_sem↓] theorem XM(hm:Heap)(q:Operand)(args:List Operand)(ts:Array TypeId)(k:AV→Prop):vcQ P U ρ hm ⟨d,.call ⟨.value q,args.toArray,ts⟩,t,p,a,g⟩ k=aE (ev ρ q) fun y=>fnA y fun f cap=>aE (evs ρ args) fun ys=>FnQ P f (ys++cap) hm k:=by
 simp only[vcQ,bV,gH]
 congr 1
def QStep(P:Program)(U:TypeId→TI)(n:Nat)(all:List Oper)(hm:Heap)(t:Ord)(ρ:Env)(h:Heap)(K:Env→Heap→Prop)(o:Oper):Prop:=o.guard=none∧vcQ P U ρ hm o fun X=>ko P U n all hm t (put ρ o.dst X) h K
@[go_sem↓] theorem T4(all:List Oper)(hm:Heap)(t' :Ord)(K:Env→Heap→Prop)(op:Op):QStep P U n all hm t' ρ h K ⟨d,op,t,p,a,none⟩=vcQ P U ρ hm ⟨d,op,t,p,a,none⟩ fun X=>ko P U n all hm t' (put ρ d X) h K:=by simp[QStep]
@[go_sem↓] theorem aaW(all:List Oper)(hm:Heap)(l:List Nat)(K:Env→Heap→Prop):ko P U n all hm (.seq l) ρ h K=dP P U n all hm l ρ h K:=rfl
@[go_sem↓] theorem WT(all:List Oper)(hm:Heap)(l:List Nat)(i:Nat)(t' :Ord)(K:Env→Heap→Prop):ko P U n all hm (.quiet l i t') ρ h K=dP P U n all hm l ρ h fun ρ h=>aE all[i]? (QStep P U n all hm t' ρ h K):=by
 simp only[ko]
 congr 1
 funext ρ h
 cases all[i]? <;>rfl
@[go_sem↓] theorem XW(all:List Oper)(hm:Heap)(l is:List Nat)(t' :Ord)(K:Env→Heap→Prop):ko P U n all hm (.news l is t') ρ h K=dP P U n all hm l ρ h fun ρ h=>Sub hm h∧mg U all is∧sj P U all is ρ h fun ρ h=>ko P U n all hm t' ρ h K:=rfl
def Qu(U:TypeId→TI)(o:Oper):Prop:=zA U o.op
@[go_sem↓] theorem Vk(ty:TypeId):Qu U ⟨d,.alloc ty,t,p,a,g⟩=(isUnit (U ty).k=true∨(U ty).sz≠0∧fit (U ty).zero (U ty).sz):=rfl
@[go_sem↓] theorem TM(all:List Oper):mg U all []=True:=rfl
@[go_sem↓] theorem Sl(all:List Oper)(i:Nat)(is:List Nat):mg U all (i::is)=(aE all[i]? (Qu U)∧mg U all is):=by
 simp only[mg];cases all[i]? <;>rfl
def NStep(P:Program)(U:TypeId→TI)(all:List Oper)(is:List Nat)(ρ:Env)(h:Heap)(K:Env→Heap→Prop)(o:Oper):Prop:=bf P U ρ h o fun X h' =>sj P U all is (put ρ o.dst X) h' K
@[go_sem↓] theorem TZ(all:List Oper)(is:List Nat)(K:Env→Heap→Prop)(op:Op):NStep P U all is ρ h K ⟨d,op,t,p,a,g⟩=bf P U ρ h ⟨d,op,t,p,a,g⟩ fun X h' =>sj P U all is (put ρ d X) h' K:=rfl
@[go_sem↓] theorem WC(all:List Oper)(K:Env→Heap→Prop):sj P U all [] ρ h K=K ρ h:=rfl
@[go_sem↓] theorem U3(all:List Oper)(i:Nat)(is:List Nat)(K:Env→Heap→Prop):sj P U all (i::is) ρ h K=aE all[i]? (NStep P U all is ρ h K):=by
 simp only[sj];cases all[i]? <;>rfl
@[go_sem↓] theorem aaF(all:List Oper)(K:Env→Prop):lS P U n all [] ρ h K=K ρ:=rfl
@[go_sem↓] theorem Xn(all:List Oper)(op:Op)(os:List Oper)(K:Env→Prop):
  lS P U n all (⟨d,op,t,p,a,none⟩::os) ρ h K=(dU n d=true∧jv P U ρ h ⟨d,op,t,p,a,none⟩ (KDr P U n all os h K ρ d)):=rfl
def nQ(P:Program)(U:TypeId→TI)(n:Nat)(all os:List Oper)(ρ:Env)(h:Heap)(K:Env→Prop)(w:Bool)(d:Option Tmp)(op:Op)(t:TypeId)(p:String)(a:Array Edge)(g:Option (Nat×Bool))(s:Nat)(x:AV):Prop:=
 gB s w ρ (fun ρ=>jv P U ρ h ⟨d,op,t,p,a,g⟩ (KDr P U n all os h K ρ d)) (fun ρ=>lS P U n all os (put ρ d (.v undef)) h K) x
section
variable {all os : List Oper} {K : Env → Prop} {op : Op} {s : Nat}
@[go_sem↓] theorem SS:nQ P U n all os ρ h K true d op t p a g s (.b true)=jv P U ((s,.b true)::ρ) h ⟨d,op,t,p,a,g⟩ (KDr P U n all os h K ((s,.b true)::ρ) d):=by simp[nQ,gB,Br]
@[go_sem↓] theorem SR:nQ P U n all os ρ h K true d op t p a g s (.b false)=lS P U n all os (put ((s,.b false)::ρ) d (.v undef)) h K:=by simp[nQ,gB,Br]
@[go_sem↓] theorem SQ:nQ P U n all os ρ h K false d op t p a g s (.b true)=lS P U n all os (put ((s,.b true)::ρ) d (.v undef)) h K:=by simp[nQ,gB,Br]
@[go_sem↓] theorem SP:nQ P U n all os ρ h K false d op t p a g s (.b false)=jv P U ((s,.b false)::ρ) h ⟨d,op,t,p,a,g⟩ (KDr P U n all os h K ((s,.b false)::ρ) d):=by simp[nQ,gB,Br]
end
@[go_sem↓] theorem Wa(all:List Oper)(op:Op)(gi:Nat)(w:Bool)(os:List Oper)(K:Env→Prop):
  lS P U n all (⟨d,op,t,p,a,some (gi,w)⟩::os) ρ h K=(dU n d=true∧aE (qx all gi) fun s=>aE (lk ρ s) (nQ P U n all os ρ h K w d op t p a (some (gi,w)) s)):=by
 have:=uZ (ρ:=ρ) all gi w (fun ρ=>jv P U ρ h ⟨d,op,t,p,a,some (gi,w)⟩ (KDr P U n all os h K ρ d)) (fun ρ=>lS P U n all os (put ρ d (.v undef)) h K)
 rw[show(fun s=>aE (lk ρ s) (nQ P U n all os ρ h K w d op t p a (some (gi,w)) s))=fun d_1=>aE (lk ρ d_1) fun x=>gB d_1 w ρ (fun ρ=>jv P U ρ h ⟨d,op,t,p,a,some (gi,w)⟩ (KDr P U n all os h K ρ d)) (fun ρ=>lS P U n all os (put ρ d (.v undef)) h K) x from rfl,←this]
 rfl
def FnD(P:Program)(f:FuncId)(args:List AV)(h:Heap)(k:AV→Prop):Prop:=∃X,ai P f args h (fun x h' =>x=X∧h' =h)∧k X
@[congr] theorem SJ{f f' :FuncId}{a a' :List AV}{h h' :Heap}(h0:f=f')(h1:a=a')(h2:h=h'):FnD P f a h k=FnD P f' a' h' k:=by grind
@[go_sem↓] theorem V5(q:Operand)(args:List Operand)(ts:Array TypeId):jv P U ρ h ⟨d,.call ⟨.value q,args.toArray,ts⟩,t,p,a,g⟩ k=aE (ev ρ q) fun y=>fnA y fun f cap=>aE (evs ρ args) fun ys=>FnD P f (ys++cap) h k:=by
 simp only[jv,bV,gH]
 congr 1
def opD(P:Program)(U:TypeId→TI)(ρ:Env)(h:Heap)(d:Option Tmp)(op:Op)(t:TypeId)(p:String)(a:Array Edge)(g:Option (Nat×Bool))(k:AV→Prop):Prop:=bf P U ρ h ⟨d,op,t,p,a,g⟩ (Fv k)
@[go_sem↓] theorem XK(op:Op):opD P U ρ h d op t p a g k=bf P U ρ h ⟨d,op,t,p,a,g⟩ (Fv k):=rfl
section
@[go_sem↓] theorem V7(x:Operand):jv P U ρ h ⟨d,.move x,t,p,a,g⟩ k=opD P U ρ h d (.move x) t p a g k:=rfl
@[go_sem↓] theorem Th(x:Operand):jv P U ρ h ⟨d,.assign x,t,p,a,g⟩ k=opD P U ρ h d (.assign x) t p a g k:=rfl
@[go_sem↓] theorem V8(x y z:Operand):jv P U ρ h ⟨d,.pick x y z,t,p,a,g⟩ k=opD P U ρ h d (.pick x y z) t p a g k:=rfl
@[go_sem↓] theorem P7(x:Operand):jv P U ρ h ⟨d,.nilCheck x,t,p,a,g⟩ k=opD P U ρ h d (.nilCheck x) t p a g k:=rfl
theorem B5(op:BinOp)(ty ty' :TypeId)(x y:Operand)(hy:Gj y=false):jv P U ρ h ⟨d,.binOp op ty x y ty',t,p,a,g⟩ k=opD P U ρ h d (.binOp op ty x y ty') t p a g k:=by
 simp only[jv,opD,bf,hy];rfl
@[go_sem↓] theorem Ul(op:BinOp)(ty ty' :TypeId)(x:Operand)(y:Tmp):jv P U ρ h ⟨d,.binOp op ty x (.tmp y) ty',t,p,a,g⟩ k=opD P U ρ h d (.binOp op ty x (.tmp y) ty') t p a g k:=B5 _ _ _ _ _ rfl
@[go_sem↓] theorem Rh(op:BinOp)(ty ty' :TypeId)(x:Operand)(ik:IntKind)(im:Int):jv P U ρ h ⟨d,.binOp op ty x (.const (.int ik im)) ty',t,p,a,g⟩ k=opD P U ρ h d (.binOp op ty x (.const (.int ik im)) ty') t p a g k:=B5 _ _ _ _ _ rfl
@[go_sem↓] theorem Ri(op:BinOp)(ty ty' :TypeId)(x:Operand)(b:ByteArray):jv P U ρ h ⟨d,.binOp op ty x (.const (.string b)) ty',t,p,a,g⟩ k=opD P U ρ h d (.binOp op ty x (.const (.string b)) ty') t p a g k:=B5 _ _ _ _ _ rfl
@[go_sem↓] theorem V9(op:UnOp)(ty:TypeId)(x:Operand):jv P U ρ h ⟨d,.unOp op ty x,t,p,a,g⟩ k=opD P U ρ h d (.unOp op ty x) t p a g k:=rfl
@[go_sem↓] theorem Rj(s e:TypeId)(x:Operand):jv P U ρ h ⟨d,.convert s e x,t,p,a,g⟩ k=opD P U ρ h d (.convert s e x) t p a g k:=rfl
@[go_sem↓] theorem Un(ty:TypeId)(x i:Operand):jv P U ρ h ⟨d,.index ty x i,t,p,a,g⟩ k=opD P U ρ h d (.index ty x i) t p a g k:=rfl
@[go_sem↓] theorem N9(ty:TypeId)(x:Operand)(f:Nat):jv P U ρ h ⟨d,.fieldAddr ty x f,t,p,a,g⟩ k=opD P U ρ h d (.fieldAddr ty x f) t p a g k:=rfl
@[go_sem↓] theorem Oa(ty:TypeId)(x i:Operand):jv P U ρ h ⟨d,.indexAddr ty x i,t,p,a,g⟩ k=opD P U ρ h d (.indexAddr ty x i) t p a g k:=rfl
@[go_sem↓] theorem V6(ty:TypeId)(x:Operand):jv P U ρ h ⟨d,.load ty x,t,p,a,g⟩ k=opD P U ρ h d (.load ty x) t p a g k:=rfl
@[go_sem↓] theorem Uo(ty:TypeId)(x:Operand)(lo hi mx:Option Operand):jv P U ρ h ⟨d,.slice ty x lo hi mx,t,p,a,g⟩ k=opD P U ρ h d (.slice ty x lo hi mx) t p a g k:=rfl
@[go_sem↓] theorem NG(ty:TypeId)(len:Nat)(parts:Array (Nat×Operand)):jv P U ρ h ⟨d,.buildSlice ty len parts,t,p,a,g⟩ k=opD P U ρ h d (.buildSlice ty len parts) t p a g k:=rfl
@[go_sem↓] theorem Um(ty:TypeId)(parts:Array (Nat×Operand)):jv P U ρ h ⟨d,.build ty parts,t,p,a,g⟩ k=opD P U ρ h d (.build ty parts) t p a g k:=rfl
@[go_sem↓] theorem Xm(x:Operand)(ty:TypeId):jv P U ρ h ⟨d,.call ⟨.builtin .len, #[x], #[ty]⟩,t,p,a,g⟩ k=opD P U ρ h d (.call ⟨.builtin .len, #[x], #[ty]⟩) t p a g k:=rfl
end
@[go_sem↓] theorem Ph(e:TypeId)(id off len:Nat)(f:List AV→Prop):iD U e h (.oa id off len) f=((U e).sz=1∧aE (h id) fun b=>qc b fun cs _=>off+len≤cs.length∧(∀x∈(cs.drop off).take len,x.cells.length=1)∧(∀x∈(cs.drop off).take len,bA x=false)∧f ((cs.drop off).take len)):=by
 simp only[iD]
 congr 1
 exact ahp
@[go_sem↓] theorem Pj(e:TypeId)(id off len cap sz:Nat)(f:List AV→Prop):iD U e h (.ob id off len cap sz) f=(sz=(U e).sz∧aE (h id) fun b=>qc b fun cs _=>∃ys:List AV,ys.length=len∧off+len*sz≤cs.length∧au ys=(cs.drop off).take (len*sz)∧f ys):=by
 simp only[iD]
 congr 1
 exact ahp
@[go_sem] theorem V3(xs:List AV)(q:Perm)(n:Nat):Fw (.sl xs q) n= .sl xs q:=rfl
@[go_sem] theorem V2(i o l c s n:Nat):Fw (.ob i o l c s) n= .ob i o (min l n) c s:=rfl
def cpK(U:TypeId→TI)(h:Heap)(x y:AV)(Q:AV→Heap→Prop)(tk:TK):Prop:=match tk,x with
 |.slice e,.oa id off len=>(U e).sz=1∧iD U e h y fun ys=>Sized 1 ys∧(∀z∈ys,bA z=false)∧aE (h id) fun b=>qc b fun cs t=>
   ys.length≤len∧off+len≤cs.length∧Q (.i ys.length) (upd h id (some (.obj (over cs off ys) t)))
 |.slice e,.ob id off len _ sz=>(U e).sz≠0∧sz=(U e).sz∧iD U e h (Fw y len) fun ys=>Sized (U e).sz ys∧aE (h id) fun b=>qc b fun cs t=>
   ys.length≤len∧off+len*(U e).sz≤cs.length∧Q (.i ys.length) (upd h id (some (.obj (over cs off (au ys)) t)))
 |_,_=>False
@[go_sem↓] theorem Xk(id off len cap sz:Nat)(y:AV)(e:TypeId):cpK U h (.ob id off len cap sz) y Q (.slice e)=((U e).sz≠0∧sz=(U e).sz∧iD U e h (Fw y len) fun ys=>Sized (U e).sz ys∧aE (h id) fun b=>qc b fun cs t=>
   ys.length≤len∧off+len*(U e).sz≤cs.length∧Q (.i ys.length) (upd h id (some (.obj (over cs off (au ys)) t)))):=rfl
@[go_sem↓] theorem XD(x y:Operand)(t1 t2:TypeId):bf P U ρ h ⟨d,.call ⟨.builtin .copy, #[x,y], #[t1,t2]⟩,t,p,a,g⟩ Q=aE (ev ρ x) fun u=>aE (ev ρ y) fun v=>atK (U t1).k (cpK U h u v Q):=by
 simp only[bf,bV,CI,atK]
 congr 1
 funext u
 congr 1
 funext v
 cases (U t1).k with
 |slice e=>
  cases u with
  |oa id off len=>
   refine congrArg (fun f=>(U e).sz=1∧iD U e h v f) (funext fun ys=>?_)
   exact ahp
  |ob id off len cap sz=>
   refine congrArg (fun f=>(U e).sz≠0∧sz=(U e).sz∧iD U e h (Fw v len) f) (funext fun ys=>?_)
   exact ahp
  |_=>simp[cpK]
 |_=>simp[cpK]
end
section
variable {P : Program} {U : TypeId → TI} {n : Nat} {ρ : Env} {h h' : Heap} {tb : TypeId} {y : AV} {l : List UInt8}
@[go_sem] theorem Uc(c:UInt8):aK c= .v (.int .u8 c.toNat):=rfl
@[go_sem] theorem jz(l:List UInt8):Sized 1 (l.map aK)=True:=by
 apply eq_true;intro z hz;obtain⟨c,_,rfl⟩:=List.mem_map.1 hz;rfl
@[go_sem] theorem S1(m:Nat):Sized m []=True:=by simp[Sized]
@[go_sem] theorem Q1(m:Nat)(x:AV)(r:List AV):Sized m (x::r)=(x.cells.length=m∧Sized m r):=by simp[Sized]
theorem D4(l:List UInt8):∀z∈l.map aK,bA z=false:=by
 intro z hz;obtain⟨c,_,rfl⟩:=List.mem_map.1 hz;rfl
@[go_sem] theorem OJ(l:List UInt8):(l.map aK).length=l.length:=acQ ..
theorem Sub.aj{id:Nat}{k:Option Blk}(hid:h id=Option.none):Sub h (Ab.upd h id k):=(Sub.refl h).new hid k
def Keep(id:Nat)(h h' :Heap):Prop:=∀j k,j≠id→h j=some k→h' j=some k
theorem Keep.refl(id:Nat)(h:Heap):Keep id h h:=fun _ _ _ e=>e
theorem Keep.trans{a b c:Heap}{id:Nat}(x:Keep id a b)(y:Keep id b c):Keep id a c:=fun j k e hj=>y j k e (x j k e hj)
theorem Sub.keep(hs:Sub h h')(id:Nat):Keep id h h' :=fun _ _ _ e=>hs _ _ e
theorem Keep.upd(id:Nat)(k:Option Blk):Keep id h (Ab.upd h id k):=fun _ _ e hj=>adD
def Bytes(tb:TypeId)(h:Heap)(y:AV)(l:List UInt8):Prop:=
 (∃q,y= .sl (l.map aK) q)∨∃id off cs,y= .oa id off l.length∧h id=some (.obj cs tb)∧off+l.length≤cs.length∧(cs.drop off).take l.length=l.map aK
theorem Bytes.sl(l:List UInt8)(q:Perm):Bytes tb h (.sl (l.map aK) q) l:=.inl ⟨q,rfl⟩
theorem Bytes.nil(q:Perm):Bytes tb h (.sl [] q) []:=.inl ⟨q,rfl⟩
theorem Bytes.oa{id off:Nat}{cs:List AV}(h1:h id=some (.obj cs tb))(h2:off+l.length≤cs.length)(h3:(cs.drop off).take l.length=l.map aK):Bytes tb h (.oa id off l.length) l:=.inr ⟨id,off,cs,rfl,h1,h2,h3⟩
theorem Bytes.sub(hb:Bytes tb h y l)(hs:Sub h h'):Bytes tb h' y l:=by
 rcases hb with hb|⟨id,off,cs,rfl,h1,h2,h3⟩
 ·exact ag0
 ·exact .oa (hs _ _ h1) h2 h3
theorem Bytes.keep(hb:Bytes tb h y l){id:Nat}(hs:Keep id h h'){cs:List AV}{t:TypeId}(hid:h id=some (.obj cs t))(ht:t≠tb):Bytes tb h' y l:=by
 rcases hb with hb|⟨i,off,cs',rfl,h1,h2,h3⟩
 ·exact ag0
 ·refine .oa (hs _ _ (fun e=>?_) h1) h2 h3
  grind
theorem Bytes.new(hb:Bytes tb h y l){id:Nat}{k:Option Blk}(hid:h id=none):Bytes tb (Ab.upd h id k) y l:=hb.sub (Sub.aj hid)
theorem Bytes.cells(hb:Bytes tb h y l):y.cells= [y]:=by
 exact aib
theorem Bytes.fit(hb:Bytes tb h y l)(m:Nat):Ab.fit y m=(m=1):=by
 exact aib
theorem Bytes.len(hb:Bytes tb h y l)(e:TypeId)(k:AV→Prop):xl y k (.slice e)=k (.i l.length):=by
 rcases hb with⟨q,rfl⟩|⟨id,off,cs,rfl,_⟩
 ·grind [xl,acQ]
 ·rfl
theorem Bytes.src(hb:Bytes tb h y l){e:TypeId}(he:(U e).sz=1)(k:List AV→Prop):iD U e h y k=k (l.map aK):=by
 rcases hb with⟨q,rfl⟩|⟨id,off,cs,rfl,h1,h2,h3⟩
 ·rfl
 ·rw[Ph,h1,he]
  simp only[dF,Cr,h3,h2,true_and];apply propext;constructor
  ·simp
  ·intro hk
   exact⟨fun x hx=>by obtain⟨c,_,rfl⟩:=List.mem_map.1 hx;rfl,D4 l,hk⟩
theorem Bytes.U5(hb:Bytes tb h y l){e:TypeId}{w:Heap}{Q:AV→Heap→Prop}(hk:∀b:Bool,(l≠ []→b=false)→Q (.b b) w):R6 w .eql y Q (.slice e):=by
 rcases hb with⟨q,rfl⟩|⟨id,off,cs,rfl,h1,h2,h3⟩
 ·intro b hb
  exact hk b fun hl=>hb ag6
 ·exact hk false fun _=>rfl
def TV(U:TypeId→TI)(tb:TypeId)(h:Heap)(p:AV)(c:UInt8):Prop:=∀k:AV→Prop,nI U h tb p k=k (aK c)
theorem Bytes.idx(hb:Bytes tb h y l){m:Int}{x:IntKind}{K:AV→Prop}(j:Nat)(hm:m=j)(hj:j<l.length)(hz:(U tb).sz=1)(ha:(U tb).k.agg=false)
  (hk:∀p,TV U tb h p l[j]→K p):o7 U y (.v (.int x m)) K (.slice tb):=by
 subst hm;rcases hb with⟨q,rfl⟩|⟨id,off,cs,rfl,h1,h2,h3⟩
 ·refine(u6 ..).mpr ⟨ac0,?_⟩
  refine fD.at j ac1 (by rw[acR,hz];rfl) ?_
  refine hk _ fun k=>?_
  simp_all [nI,KU,aK,AV.cells,bA,List.length_cons,List.length_nil,Nat.zero_add,and_self,if_true]
 ·refine(AU ..).mpr ⟨ac0,ac0,ac0,?_⟩
  refine hk _ fun k=>?_
  have e1:cs[off+j]? =some (aK l[j]):=by
   have:=congrArg (fun q=>q[j]?) h3
   simp only[List.getElem?_take,hj,if_true,List.getElem?_drop,List.getElem?_map,List.getElem?_eq_getElem hj,Option.map_some]at this;exact adN
  simp only[nI,h1,dF,Cr,hz,Nat.mul_one,Int.toNat_natCast,Ef,ha,Br,e1];simp
theorem Bytes.take(hb:Bytes tb h y l){hi:Operand}{m:Int}{x:IntKind}{K:AV→Prop}(j:Nat)(hm:ev ρ hi=some (.v (.int x m)))(hj:m=j)(hl:j≤l.length)(hz:(U tb).sz=1)(hk:∀z,Bytes tb h z (l.take j)→K z):
  gM U ρ y none (some hi) none K (.slice tb):=by
 subst hj;rcases hb with⟨q,rfl⟩|⟨id,off,cs,rfl,h1,h2,h3⟩
 ·grind [rm,fK,dF,nE,Option.isSome_some,xx,Int.toNat_natCast,List.map_take,sl]
 ·rw[rO]
  refine⟨ac0,fun _=>hz,?_⟩
  simp only[mB,fK,hm,dF,nE];refine⟨ac0,ac0,ac0,?_⟩;have e:(l.take j).length=j:=ac1;have:=hk (.oa id off (l.take j).length) (by grind [oa,List.map_take,Nat.min_eq_left])
  rw[e]at this;simpa using this
end
section
variable {P : Program} {U : TypeId → TI} {n : Nat} {ρ : Env} {h h' h2 : Heap} {e tb : TypeId} {y v : AV} {xs zs : List AV} {l : List UInt8} {Q : AV → Heap → Prop}
def fM(h h' :Heap):Prop:=∀j cs t,h j=some (.obj cs t)→h' j=some (.obj cs t)
theorem fM.refl(h:Heap):fM h h:=fun _ _ _ e=>e
theorem fM.trans{a b c:Heap}(x:fM a b)(y:fM b c):fM a c:=fun j cs t e=>y j cs t (x j cs t e)
theorem Sub.fZ(hs:Sub h h'):fM h h' :=fun _ _ _ e=>hs _ _ e
theorem Bytes.fZ(hb:Bytes tb h y l)(hs:fM h h'):Bytes tb h' y l:=by
 rcases hb with hb|⟨id,off,cs,rfl,h1,h2,h3⟩
 ·exact ag0
 ·exact .oa (hs _ _ _ h1) h2 h3
def Acc(U:TypeId→TI)(e:TypeId)(h h' :Heap)(y:AV)(xs:List AV):Prop:=
 Sub h h'∧(y= .sl xs .full∨∃id,h id=none∧y= .sl xs (.own id)∧h' id=some (.spare xs.length (U e).sz))
theorem Acc.full(hs:Sub h h'):Acc U e h h' (.sl xs .full) xs:=⟨hs,.inl rfl⟩
theorem Acc.sub(ha:Acc U e h h' y xs)(hs:Sub h' h2):Acc U e h h2 y xs:=by
 obtain⟨h1,rfl|⟨id,i1,rfl,i2⟩⟩:=ha
 ·exact⟨h1.trans hs,.inl rfl⟩
 ·exact⟨h1.trans hs,.inr ⟨id,i1,rfl,hs _ _ i2⟩⟩
theorem Acc.row(ha:Acc U e h h' y xs):∃q,y= .sl xs q:=by
 obtain⟨h1,rfl|⟨id,i1,rfl,i2⟩⟩:=ha<;>exact⟨_,rfl⟩
theorem Acc.weak(ha:Acc U e h h' y xs):Weak y (.sl xs .no):=by
 obtain⟨q,rfl⟩:=ha.row;exact .sl _ _
theorem Acc.len(ha:Acc U e h h' y xs)(t:TypeId)(k:AV→Prop):xl y k (.slice t)=k (.i xs.length):=by
 obtain⟨q,rfl⟩:=ha.row;rfl
theorem Acc.app(ha:Acc U e h h' y xs)(hz:(U e).sz≠0)(hb:(U e).bytes≠0)(hsrc:∀k:List AV→Prop,k zs→iD U e h' v k)(s1:Sized (U e).sz xs)(s2:Sized (U e).sz zs)
  (hlen:(xs.length+zs.length)*(U e).bytes≤140737488355328) (hk:∀y' h'',Acc U e h h'' y' (xs++zs)→fM h' h''→Q y' h''):apK U h' y v Q (.slice e):=by
 have keep:∀id,(h' id=none∨∃m,h' id=some (.spare m (U e).sz))→∀k,fM h' (upd h' id k):=fun id hid k j cs t hj=>by
  grind [ag]
 obtain⟨h1,rfl|⟨id,i1,rfl,i2⟩⟩:=ha
 ·refine(qk ..).mpr ⟨hz,hb,hsrc _ ⟨s1,s2,hlen,fun hn=>?_,fun hn=> .own fun id hid=>?_⟩⟩
  ·subst hn
   have:=hk (.sl xs .full) h' (by grind [full]) (.refl _)
   exact adN
  ·exact hk _ _ ⟨h1.new hid _,.inr ⟨id,h1.none hid,rfl,by rw[ah,acU]⟩⟩ ac1
 ·refine(BX ..).mpr ⟨hz,hb,hsrc _ ⟨s1,s2,hlen,i2,?_⟩⟩
  have hs2:Sub h (upd h' id (some (.spare (xs.length+zs.length) (U e).sz))):=by
   intro j k hj;rw[ag _ _ fun e=>?_]
   ·exact h1 _ _ hj
   grind
  exact hk _ _ ⟨hs2,.inr ⟨id,i1,rfl,by rw[ah,acU]⟩⟩ ac1
theorem Bytes.Mi(hb:Bytes tb h y l):bA y=false:=by
 exact aib
def Rows(tb:TypeId)(h:Heap)(ys:List AV)(ls:List (List UInt8)):Prop:=ys.length=ls.length∧∀i (h1:i<ys.length) (h2:i<ls.length),Bytes tb h ys[i] ls[i]
theorem Rows.sized{ys:List AV}{ls:List (List UInt8)}(hr:Rows tb h ys ls):Sized 1 ys:=fun z hz=>by
 obtain⟨i,hi,rfl⟩:=List.mem_iff_getElem.1 hz;rw[(hr.2 i hi (by rw[←hr.1];omega)).cells];rfl
theorem Rows.nil:Rows tb h [] []:=⟨rfl,fun i h1=>ac7⟩
theorem Rows.cons{ys:List AV}{ls:List (List UInt8)}(hb:Bytes tb h y l)(hr:Rows tb h ys ls):Rows tb h (y::ys) (l::ls):=⟨by simp[hr.1],fun i h1 h2=>by
 cases i with
 |zero=>grind
 |succ i=>exact hr.2 i ac1 ac1⟩
end
section
variable {P : Program}
def cR:Heap:=fun _=>none
def cx0(w:World):Cx:=⟨w,fun _=>⟨0,0,none⟩,cR⟩
theorem UM(w:World):Good (cx0 w) where
 fin:=⟨0,fun _ _=>rfl⟩
 inj:=fun i j k l h=>adU
 obj:=fun id cs t h=>adU
 spare:=fun id n sz h=>adU
 mp:=fun id m h=>adU
 keys:=fun id m h=>adU
 ro:=fun id b vs h=>adU
theorem Mv(w:World)(b o:Nat):¬owned (cx0 w) b o:=fun⟨id,k,h,_⟩=>adU
theorem ai.calls{f:FuncId}{args:List AV}{b:Value}{vs:Array Value}{w:World}(hc:callable P f)(hf:ai P f args cR fun r _=>r= .v b)(hv:vs.size=args.length)(hr:∀i (hi:i<args.length),Rep (cx0 w) args[i] (vs.getD i undef)):
  Calls P f vs w fun e w' =>e= .returned b∧Go.RowKit.Below w.heap.size w w' :=by
 refine((hf (cx0 w) vs (fun _ _ h=>adU) (UM w) hv hr).calls hc).mono ?_
 rintro e w' ⟨u,rfl,c',x,h',rfl,g',hE,hx,hs,rfl⟩
 rw[hx.bP];exact⟨rfl,hE.os,hE.tape,hE.output,hE.size,fun k hk=>hE.block k hk fun o=>Mv w k o⟩
end
section
variable {P : Program} {f : FuncId} {args : List AV} {h : Heap} {Q : AV → Heap → Prop} {X : AV}
theorem ai.pthen(hf:ai P f args h fun r h' =>r=X∧h' =h)(k:Q X h):ai P f args h Q:=
 hf.mono fun r h' ⟨e1,e2⟩=>afE
theorem ai.pthen'(hf:ai P f args h fun r h' =>h' =h∧r=X)(k:Q X h):ai P f args h Q:=
 hf.mono fun r h' ⟨e1,e2⟩=>afE
theorem ai.sthen(hf:ai P f args h fun r h' =>r=X∧Sub h h')(k:∀h',Sub h h'→Q X h'):ai P f args h Q:=
 hf.mono fun r h' ⟨e1,e2⟩=>by subst e1;exact k h' e2
def KV(K:AV→Prop)(x:AV):Prop:=K x
@[congr] theorem TX{K:AV→Prop}{x x' :AV}(e:x=x'):KV K x=KV K x' :=by rw[e]
@[go_sem] theorem TY(K:AV→Prop)(x:AV):KV K x=K x:=rfl
section
variable {U : TypeId → TI} {ρ : Env} {K : AV → Prop}
@[go_sem↓high] theorem EG(xs:List AV)(q:Perm)(lo:Operand)(e:TypeId):gM U ρ (.sl xs q) (some lo) none none K (.slice e)=((U e).sz≠0∧Sized (U e).sz xs∧aE (ev ρ lo) fun y=>F2 y fun a=>0≤a∧a≤xs.length∧KV K (.sl (xs.drop a.toNat) (zX xs q true false))):=by
 simp[rq,fK,mB,Option.isSome_none,l8,KV]
@[go_sem↓high] theorem Kb(xs:List AV)(q:Perm)(lo hi:Operand)(e:TypeId):gM U ρ (.sl xs q) (some lo) (some hi) none K (.slice e)=((U e).sz≠0∧Sized (U e).sz xs∧aE (ev ρ lo) fun y=>F2 y fun a=>aE (ev ρ hi) fun z=>F2 z fun b=>0≤a∧a≤b∧b≤xs.length∧KV K (.sl ((xs.drop a.toNat).take (b.toNat - a.toNat)) (zX xs q true true))):=by
 simp[rq,fK,Option.isSome_some,N8,KV]
end
attribute [go_sem] Int.toNat_natCast Int.toNat_zero
@[go_sem] theorem Su(l:List UInt8)(n:Nat):(l.map aK).take n=(l.take n).map aK:=(List.map_take ..).symm
@[go_sem] theorem Rn(l:List UInt8)(n:Nat):(l.map aK).drop n=(l.drop n).map aK:=(List.map_drop ..).symm
theorem bh(n:Int)(h: -9223372036854775808≤n∧n≤9223372036854775807):IntKind.i64.wrap n=n:=by grind [IntWalk.i64_in]
theorem acW(n:Nat)(h:-9223372036854775808≤(n:Int)+1∧(n:Int)+1≤9223372036854775807):IntKind.i64.wrap ((n:Int)+1)=((n+1:Nat):Int):=by rw[bh _ h];omega
theorem acX{a b:Nat}(h:decide ((a:Int)<(b:Int))=true):a<b:=Int.ofNat_lt.1 (_root_.of_decide_eq_true h)
end
end Go.Ab
